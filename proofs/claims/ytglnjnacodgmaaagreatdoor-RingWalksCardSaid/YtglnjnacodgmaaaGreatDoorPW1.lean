/-
  Texts of this claim, one behind the other: Core, Env, Ops, Fill, Rules, Slices, Slices2, Slices3, Maps, Lift, Range, Rules2, Rules3, Rules4, Api, Arr, Rules5, Short, Types, Opn, ItoaLM, ItoaG, Seat.
-/
import Derived.WalkKit
import Derived.Orders
import Derived.OrdersIn
import Derived.ProofKit
import Derived.OpenShut
import Derived.SizedLaws
import Derived.RangeFuncIn
import Derived.RangeFuncRecord
import Derived.RangeFuncLeaves
import Derived.DeepKeys
import Derived.Test.YtglnjnacodgmaaaGreatDoorRows
import Derived.Shelf.Strconv.Itoa3
import Derived.Ground.NamesProg
import Derived.Stop.LaidErr
import Derived.LaidHandle
import Derived.LaidLaws
import Derived.ChangeVars
import Derived.Stop.Joined
import Derived.LaidMore
import Derived.Lay
set_option linter.unusedSimpArgs false
set_option linter.unusedVariables false
set_option linter.unnecessarySimpa false
set_option maxRecDepth 8000
set_option maxHeartbeats 1000000
open Array renaming getElem?_eq_some_iff → E4,getElem?_eq_getElem → E8,length_toList → H6
open BitVec renaming toNat_ofNat → H4,eq_of_toNat_eq → J5
open Bool renaming and_eq_true → F1
open List renaming getElem?_eq_getElem → A7,length_map → A8,mem_singleton → B0,mem_cons_self → B1,mem_cons_of_mem → B2,length_append → B3,cons_append → B4,append_assoc → B5,nil_append → B6,mem_cons → B7,mem_append → B8,mem_map → C0,getElem_mem → C1,getElem?_eq_some_iff → C4,mem_append_left → C5,map_append → C6,length_cons → C8,take_add_one → C9,mem_append_right → D0,map_cons → D3,eq_nil_of_length_eq_zero → D4,length_nil → D5,pairwise_cons → D6,length_take → D8,nodup_cons → D9,append_nil → E0,drop_drop → E5,getElem?_map → E6,all_eq_true → E7,take_append_drop → F0,length_drop → F3,getElem?_append_left → F5,mem_filter → F6,mem_of_mem_take → F9,getElem?_append_right → G2,drop_eq_getElem_cons → G4,foldl_cons → G6,mem_range → G7,findIdx_cons → G9,nodup_append → H3,mem_of_getElem? → H8,getElem?_take → I1,map_map → I2,take_take → I3,nodup_nil → J1,size_toArray → J2,drop_take → J7
open List.Mem renaming head → J3,tail → J6
open List.Perm renaming refl → I9
open List.cons renaming injEq → J9
open Nat renaming le_refl → B9,zero_le → C3,lt_or_ge → C7,le_of_ble_eq_true → D1,mul_le_mul_right → D2,mod_eq_of_lt → E3,zero_add → F2,add_mul → F4,eq_of_beq_eq_true → F8,mod_lt → G5,le_trans → H7,min_eq_left → I5
open Option renaming map_some → E9,getD_some → F7
open Option.some renaming inj → A5,injEq → G1
open Prod.mk renaming injEq → I8
namespace Go.Esp
theorem A4{c:Prop}{h:Decidable c}(n:¬c){α:Sort _}{t e:α}:ite c t e=e:=if_neg n
theorem A6{c:Prop}{h:Decidable c}(n:c){α:Sort _}{t e:α}:ite c t e=t:=if_pos n
theorem A9{α:Sort _}{β:Sort _}{a b:α}(f:α→β)(h:a=b):f a=f b:=congrArg f h
end Go.Esp
namespace Go.Esp
theorem jA {p:Prop} (h:p:=by repeat first|exact Rem.here _|exact Rem.two|apply Rem.skip|apply Rem.over):p:=h
theorem jB {p:Prop} (h:p:=by repeat first|exact J3 _|refine J6 _ ?_|refine D0 _ ?_):p:=h
theorem jC {p:Prop} (h:p:=by simp only [Zr.segs,ZK.segs,ZM.segs,ZI.segs,YD.segs,YQ.segs,XM.segs,YT.segs,ZW.segs,XF.segs,Yk.segs,cat,List.append_eq,B4,B6,E0,Segs.len,Seg.len,ZU]):p:=h
theorem jD {p:Prop} (h:p:=by omega):p:=h
theorem jE {p:Prop} (h:p:=by assumption):p:=h
theorem jF {p:Prop} (h:p:=by intro zz;first|exact B9 _|(simp only [WG,Wo,WW,cat,List.append_eq,B5,B4,B6,E0];omega)):p:=h
theorem jG {p:Prop} (h:p:=by constructor):p:=h
theorem jH {p:Prop} (h:p:=by repeat first|exact Upd.head|apply Upd.tail|apply Upd.over):p:=h
theorem jI {p:Prop} (h:p:=by kernel_rfl):p:=h
theorem jJ {p:Prop} (h:p:=by simp only [F7,Option.getD_none];omega):p:=h
theorem jK {p:Prop} (h:p:=by simp only [D3,List.map_nil] <;> rfl):p:=h
theorem jL {p:Prop} (h:p:=by ((try simp only [cat,B4,B6,E0]);(repeat (first|exact YS|refine Xg ?_|(refine Yi ?_ ?_;rfl)));done)):p:=h
theorem jM {p:Prop} (h:p:=by decide):p:=h
theorem jN {p:Prop} (h:p:=by (refine VN ?_;(repeat (first|exact YS|refine Xg ?_|(refine Yi ?_ ?_;rfl)));done)):p:=h
theorem jO {p:Prop} (h:p:=by exact Mem.le.refl _):p:=h
theorem jP {p:Prop} (h:p:=by repeat first|exact J3 _|refine J6 _ ?_):p:=h
theorem jQ {p:Prop} (h:p:=by simp):p:=h
theorem jR {p:Prop} (h:p:=by exact Xr (⟨_,_⟩)):p:=h
theorem jS {p:Prop} (h:p:=by (rintro ⟨q1,q2⟩;first|contradiction|(simp_all;done))):p:=h
theorem jT {p:Prop} (h:p:=by rintro ⟨q1,⟨q2,q4⟩,q3⟩;replace q3:boot≠self_addr:=q3;rw [hae] at q1;omega):p:=h
theorem jU {p:Prop} (h:p:=by simp;omega):p:=h
theorem jV {p:Prop} (h:p:=by exact rfl):p:=h
theorem jW {p:Prop} (h:p:=by simp only [Option.getD_none,F7];omega):p:=h
theorem jX {p:Prop} (h:p:=by (simp;omega)):p:=h
theorem jY {p:Prop} (h:p:=by show _<256;omega):p:=h
theorem jZ {p:Prop} (h:p:=by (simp only [B3] at *;omega)):p:=h
theorem zA {p:Prop} (h:p:=by first|(simp;done)|(simp;omega)):p:=h
theorem zB {p:Prop} (h:p:=by simpa using ha.evs hx):p:=h
theorem zC {p:Prop} (h:p:=by rw [A8];omega):p:=h
theorem zD {p:Prop} (h:p:=by rintro ⟨q1,q2,q3⟩;have q4:=hne.2 q1;omega):p:=h
theorem zF {p:Prop} (h:p:=by show Zp=true;simp_all):p:=h
theorem zG {p:Prop} (h:p:=by rw [hlk];refine Gc ?_;rintro ⟨g1,g2,g3,g4⟩;simp_all [ZM.nd,ZK.tb]):p:=h
theorem zH {p:Prop} (h:p:=by rfl):p:=h
theorem zI {p:Prop} (h:p:=by exact VV rfl):p:=h
theorem zJ {p:Prop} (h:p:=by simp only [Option.getD_none];omega):p:=h
theorem zK {p:Prop} (h:p:=by rw [e];rintro ⟨h9,_⟩;cases h9):p:=h
theorem zL {p:Prop} (h:p:=by simpa using h):p:=h
theorem zM {p:Prop} (h:p:=by simpa using hj):p:=h
theorem zN {p:Prop} (h:p:=by rw [hj];decide):p:=h
theorem zO {p:Prop} (h:p:=by rw [hfi];show (⟨fa,fi⟩:Zr)=⟨Za,Zb⟩;first|assumption|(simp_all;done)):p:=h
theorem zP {p:Prop} (h:p:=by simpa using hi):p:=h
theorem zQ {p:Prop} (h:p:=by simpa using hb):p:=h
theorem zR {p:Prop} (h:p:=by have:=hri.len;omega):p:=h
theorem zS {p:Prop} (h:p:=by (simp;done)):p:=h
theorem zT {p:Prop} (h:p:=by rw [← hri.isS];first|assumption|(simp_all;done)):p:=h
theorem zU {p:Prop} (h:p:=by simpa using ha):p:=h
theorem zV {p:Prop} (h:p:=by rw [e]):p:=h
theorem zW {p:Prop} (h:p:=by rw [hfi];show (⟨fa,fi⟩:Zr)≠⟨Za,Zb⟩;assumption):p:=h
theorem zX {p:Prop} (h:p:=by rw [hk];rfl):p:=h
theorem zY {p:Prop} (h:p:=by rw [ht]):p:=h
theorem zZ {p:Prop} (h:p:=by simp only [maxLen];omega):p:=h
theorem yA {p:Prop} (h:p:=by show (33:Int)≤0+((33:Nat):Int);decide):p:=h
theorem yB {p:Prop} (h:p:=by (repeat first|assumption|refine Mem.le.trans jE ?_)):p:=h
theorem yC {p:Prop} (h:p:=by rintro ⟨g1,⟨g2,g3⟩,g4⟩;first|exact absurd g1 jE|omega|(rcases g4 with g4|g4;exact absurd g4 jE;exact absurd g4 jE)):p:=h
theorem yD {p:Prop} (h:p:=by unfold WO;rw [A4 (by rintro ⟨g1,g2,g3⟩;first|exact absurd g1 jE|exact absurd g2 jE|(rcases g3 with g3|g3;exact absurd g3 jE;exact absurd g3 jE))];rfl):p:=h
theorem yE {p:Prop} (h:p:=by rintro ⟨g1,g2,g3⟩;first|exact absurd g1 jE|omega):p:=h
theorem yF {p:Prop} (h:p:=by rintro ⟨g1,g2,g3⟩;first|exact absurd g1 jE|exact absurd g2 jE|(rcases g3 with g3|g3;exact absurd g3 jE;exact absurd g3 jE)):p:=h
theorem yG {p:Prop} (h:p:=by rintro ⟨g1,g2,g3,g4⟩;first|exact absurd g1 jE|exact absurd g2 jE|omega):p:=h
theorem yH {p:Prop} (h:p:=by rintro ⟨g1,g2,g3⟩;first|exact absurd g1 jE|exact absurd g2 jE|exact absurd jE g2|exact absurd jE g3|omega):p:=h
theorem yI {p:Prop} (h:p:=by intro u hu;exact Rf Zr.flat [x] u (by simpa using hu)):p:=h
theorem yJ {p:Prop} (h:p:=by first|exact MQ jD|exact A7 jD|exact rfl|exact MQ zA):p:=h
theorem yK {p:Prop} (h:p:=by exact .inl jE):p:=h
theorem yL {p:Prop} (h:p:=by repeat first|assumption|refine Mem.le.trans jE ?_):p:=h
theorem yM {p:Prop} (h:p:=by rintro (g1|g1);exact absurd g1 jE;exact g1 jE):p:=h
theorem yN {p:Prop} (h:p:=by exact Po jM jD):p:=h
end Go.Esp
namespace Go.Esp
structure Mem where
  cell:Nat→Option Obj
  os:Os
  tape:Nat→Question→Nat
  out:Array (Nat×ByteArray)
  dr:Nat
instance:CoeFun Mem (fun _=>Nat→Option Obj):=⟨Mem.cell⟩
abbrev Hp:=List (Nat×Obj)
def Mem.le (M M':Mem):Prop:=(∀ b o,M b=some o→M' b=some o)∧M'.os=M.os∧M'.tape=M.tape∧M'.out=M.out∧M'.dr=M.dr
theorem Mem.le.refl (M:Mem):M.le M:=⟨fun _ _ h=>h,rfl,rfl,rfl,rfl⟩
theorem Mem.le.loose {M M':Mem} (h:M.le M') (h0:M.dr=0):M'.dr=0:=h.2.2.2.2.trans h0
theorem Mem.le.trans {M M' M'':Mem} (h:M.le M') (h':M'.le M''):M.le M'':=⟨fun b o hb=>h'.1 b o (h.1 b o hb),h'.2.1.trans h.2.1,h'.2.2.1.trans h.2.2.1,h'.2.2.2.1.trans h.2.2.2.1,h'.2.2.2.2.trans h.2.2.2.2⟩
def SameIO (w w':World):Prop:=w'.os=w.os∧w'.tape=w.tape∧w'.output=w.output∧w.drawn≤w'.drawn
theorem SameIO.refl (w:World):SameIO w w:=⟨rfl,rfl,rfl,B9 _⟩
theorem SameIO.io {w w':World} (h:SameIO w w') {M:Mem} (hm:w.os=M.os∧w.tape=M.tape∧w.output=M.out∧M.dr≤w.drawn):w'.os=M.os∧w'.tape=M.tape∧w'.output=M.out∧M.dr≤w'.drawn:=⟨h.1.trans hm.1,h.2.1.trans hm.2.1,h.2.2.1.trans hm.2.2.1,H7 hm.2.2.2 h.2.2.2⟩
structure St (M:Mem) (H:Hp) (w:World):Prop where
  mem:∀ b o,M b=some o→w.heap[b]?=some o
  own:∀ b o,(b,o)∈H→w.heap[b]?=some o
  sep:∀ b o,(b,o)∈H→M b=Option.none
  nodup:(H.map Prod.fst).Nodup
  io:w.os=M.os∧w.tape=M.tape∧w.output=M.out∧M.dr≤w.drawn
theorem St.heap {M:Mem} {H:Hp} {w w':World} (h:St M H w) (e:w'.heap=w.heap) (hio:SameIO w w'):St M H w' :=
 ⟨fun b o hb=>by rw [e];exact h.mem b o hb,fun b o hb=>by rw [e];exact h.own b o hb,h.sep,h.nodup,hio.io h.io⟩
theorem St.tail {M:Mem} {x:Nat×Obj} {H:Hp} {w:World} (h:St M (x::H) w):St M H w :=
 ⟨h.mem,fun b o hb=>h.own b o (.tail _ hb),fun b o hb=>h.sep b o (.tail _ hb),(D9.1 h.nodup).2,h.io⟩
inductive Suf:Hp→Hp→Prop
  | refl (H:Hp):Suf H H
  | skip {H' H:Hp} {x:Nat×Obj}:Suf H' H→Suf H' (x::H)
  | keep {H' H:Hp} {x:Nat×Obj}:Suf H' H→Suf (x::H') (x::H)
theorem Suf.app:∀ (Hd H:Hp),Suf H (Hd++H)
 | [],H=>.refl H
 | _::Hd,H=>.skip (Suf.app Hd H)
theorem Suf.sub {H' H:Hp} (h:Suf H' H):List.Sublist H' H:=by
 induction h with
 | refl=>exact List.Sublist.refl _
 | skip _ ih=>exact ih.cons _
 | keep _ ih=>exact ih.cons_cons _
theorem St.suf {M:Mem} {H H':Hp} {w:World} (h:St M H w) (hs:Suf H' H):St M H' w :=
 ⟨h.mem,fun b o hb=>h.own b o (hs.sub.subset hb),fun b o hb=>h.sep b o (hs.sub.subset hb),h.nodup.sublist (hs.sub.map _),h.io⟩
theorem St.lower {M M':Mem} {H:Hp} {w:World} (h:St M' H w) (hm:M.le M'):St M H w:=by
 refine ⟨fun b o hb=>h.mem b o (hm.1 b o hb),h.own,fun b o hb=>?_,h.nodup,h.io.1.trans hm.2.1,h.io.2.1.trans hm.2.2.1,h.io.2.2.1.trans hm.2.2.2.1,H7 (Nat.le_of_eq hm.2.2.2.2.symm) h.io.2.2.2⟩;cases hM:M b with
 | none=>rfl
 | some o'=>have:=h.sep b o hb;rw [hm.1 b o' hM] at this;cases this
theorem St.lt {M:Mem} {H:Hp} {w:World} (h:St M H w) {b:Nat} {o:Obj} (hb:(b,o)∈H):b<w.heap.size:=by
 have:=h.own b o hb;grind
theorem getElem?_push_lt {α:Type} {xs:Array α} {x:α} {i:Nat} {v:α} (h:xs[i]?=some v):(xs.push x)[i]?=some v:=by
 grind
theorem St.alloc {M:Mem} {H:Hp} {w:World} (h:St M H w) (o:Obj):St M ((w.heap.size,o)::H) (w.alloc o):=by
 refine ⟨fun b o' hb=>getElem?_push_lt (h.mem b o' hb),fun b o' hb=>?_,fun b o' hb=>?_,?_,h.io⟩
 ·rcases B7.1 hb with e|hb
  ·cases e;exact Array.getElem?_push_size
  ·exact getElem?_push_lt (h.own b o' hb)
 ·rcases B7.1 hb with e|hb
  ·cases e;cases hM:M w.heap.size with
   | none=>rfl
   | some o'=>have:=(E4.1 (h.mem _ _ hM)).1;omega
  ·exact h.sep b o' hb
 ·rw [D3,D9];refine ⟨fun hm=>?_,h.nodup⟩;obtain ⟨⟨b,o'⟩,hb,hbe⟩:=C0.1 hm;have:=h.lt hb;grind
def Mem.add (M:Mem) (b:Nat) (o:Obj):Mem:={ M with cell:=fun c=>if c=b then some o else M c }
theorem Mem.add_le {M:Mem} {b:Nat} {o:Obj} (h:M b=Option.none):M.le (M.add b o):=by
 refine ⟨fun c o' hc=>?_,rfl,rfl,rfl,rfl⟩;by_cases e:c=b
 ·grind
 ·simp [Mem.add,e,hc]
theorem Mem.add_self (M:Mem) (b:Nat) (o:Obj):M.add b o b=some o:=by simp [Mem.add]
theorem St.freeze {M:Mem} {H:Hp} {w:World} {b:Nat} {o:Obj} (h:St M ((b,o)::H) w):M.le (M.add b o)∧St (M.add b o) H w:=by
 have hn:=D9.1 h.nodup;have hM:=h.sep b o (.head _);refine ⟨Mem.add_le hM,fun c o' hc=>?_,fun c o' hc=>h.own c o' (.tail _ hc),fun c o' hc=>?_,hn.2,h.io⟩
 ·simp only [Mem.add] at hc;by_cases e:c=b
  ·subst e;simp at hc;subst hc;exact h.own c o (.head _)
  ·simp [e] at hc;exact h.mem c o' hc
 ·have hne:c≠b:=fun e=>hn.1 (by subst e;exact C0.2 ⟨(c,o'),hc,rfl⟩);simp [Mem.add,hne];exact h.sep c o' (.tail _ hc)
theorem St.perm0 {M:Mem} {H H':Hp} {w:World} (h:St M H w) (hp:H.Perm H'):St M H' w :=
 ⟨h.mem,fun b o hb=>h.own b o (hp.mem_iff.2 hb),fun b o hb=>h.sep b o (hp.mem_iff.2 hb),(hp.map _).nodup_iff.1 h.nodup,h.io⟩
theorem St.unframe {M:Mem} {F H:Hp} {w:World} (h:St M (F++H) w):St M H w:=h.suf (Suf.app F H)
structure As where
  M:Mem
  H:Hp
def As.st (A:As):World→Prop:=St A.M A.H
inductive Cls where
  | pure|read|eff|wr|new
  deriving DecidableEq
def Cls.strong:Cls→Bool
 | .eff | .wr | .new=>true
 | _=>false
def Runs (P:Program) (o:Oper) (a:Act) (w:World) (v:Value):Prop :=
 (execOp a.eval o).run P w=.ok (.value v) w∨((execOp a.eval o).run P w=.ok .skip w∧v=undef)
theorem Runs.unique {P:Program} {o:Oper} {a:Act} {w:World} {u v:Value} (h:Runs P o a w u) (h':Runs P o a w v):u=v:=by
 rcases h with h|⟨h,rfl⟩ <;> rcases h' with h'|⟨h',rfl⟩ <;> rw [h] at h' <;> simp_all
def Fr (ro:Option Nat):Fence:={ Fence.wide with round:=ro }
theorem Fr_none:Fr none=Fence.wide:=rfl
def Oper.does (P:Program) (o:Oper) (a:Act) (w:World) (K:Value→World→Prop):Prop :=
 match (execOp a.eval o).run P w with
 | .ok (.value v) w'=>K v w'
 | .ok .skip w'=>K undef w'
 | .ok (.enter f args) w'=>Calls P f args w' fun e w''=>∃ v,e=.returned v∧K v w''
 | .ok (.row row args) w'=>Rows P row args w' K
 | .ok (.round l f tmps assign body) w'=>RoundIn (Fr none) 0 P l f tmps assign body w' fun e w''=>∃ v,e=.returned v∧K v w''
 | _=>False
def News (P:Program) (o:Oper) (a:Act) (x:Obj) (g:Nat→Value):Prop :=
 ∀ w:World,(execOp a.eval o).run P w=.ok (.value (g w.heap.size)) (w.alloc x)
def WD (P:Program) (ops:Array Oper) (cl:Nat→Cls) (Q:Exit→Act→World→Prop):List Nat→(J:World→Prop)→(A:As)→Act→Prop
 | [],_,A,a=>∀ w,A.st w→Q .normal a w
 | i::rest,J,A,a=>∃ o,ops[i]?=some o ∧
  ((Region.wanted o (yielded ops a.tmps)=false∧WD P ops cl Q rest J A (a.put o.dst undef)) ∨
   (Region.wanted o (yielded ops a.tmps)=true ∧
    match cl i with
    | .pure=>∃ v,(∀ w,Runs P o a w v)∧WD P ops cl Q rest J A (a.put o.dst v)
    | .read=>∃ v,(∀ w,J w→Runs P o a w v)∧WD P ops cl Q rest J A (a.put o.dst v)
    | .eff=>∀ F w,St A.M (F++A.H) w→Oper.does P o a w (fun v w'=>∃ A':As,St A'.M (F++A'.H) w'∧(∀ u,A'.st u→J u)∧WD P ops cl Q rest J A' (a.put o.dst v))
    | .new=>∃ x g,News P o a x g∧∀ b,(∃ w,St A.M ((b,x)::A.H) w)→WD P ops cl Q rest J ⟨A.M,(b,x)::A.H⟩ (a.put o.dst (g b))
    | .wr=>∀ w,A.st w→Oper.does P o a w (fun v w'=>∃ (J':World→Prop) (A':As),A'.st w'∧(∀ u,A'.st u→J' u)∧WD P ops cl Q rest J' A' (a.put o.dst v))))
section
variable {P:Program} {ops:Array Oper} {cl:Nat→Cls} {Q:Exit→Act→World→Prop} {md:Region.Mode}
theorem Oper.does_mono {o:Oper} {a:Act} {w:World} {K K':Value→World→Prop} (h:∀ v w,K v w→K' v w) (hh:Oper.does P o a w K):Oper.does P o a w K':=by
 unfold Oper.does at *;split at hh <;> first
  | exact h _ _ hh
  | exact Calls.mono hh fun e w'' ⟨v,he,hk⟩=>⟨v,he,h _ _ hk⟩
  | exact Rows.mono hh h
  | exact RoundIn.mono hh fun e w'' ⟨v,he,hk⟩=>⟨v,he,h _ _ hk⟩
  | exact hh.elim
theorem Oper.does_some {o:Oper} {a:Act} {w:World} {K:Value→World→Prop} (hh:Oper.does P o a w K):∃ v w',K v w':=by
 unfold Oper.does at hh;split at hh
 ·grind
 ·grind
 ·obtain ⟨e,w'',fr,⟨v,_,hk⟩,_⟩:=hh [];grind
 ·obtain ⟨v,w'',hR,_⟩:=hh default [];grind
 ·obtain ⟨e,w'',⟨v,_,hk⟩,_⟩:=hh.2 default [] (room_wide _);grind
 ·exact hh.elim
theorem Lq {ro:Option Nat} {m:Nat} {f:FuncId} {args:Array Value} {w:World} {R:Ending→World→Prop}:CallsIn (Fr ro) m P f args w R↔Calls P f args w R:=by
 rw [← callsIn_wide (n:=m)];rfl
theorem Zfq {ro:Option Nat} {m:Nat} {row:String} {args:Array Value} {w:World} {R:Value→World→Prop} (h:Rows P row args w R):RowsIn (Fr ro) m P row args w R:=by
 intro c cs _;obtain ⟨v,w',hr,hs⟩:=h c cs;exact ⟨v,w',hr,(StepsIn.of_steps hs).mono fun m _=>fenced_wide P m⟩
theorem Zbl {ro:Option Nat} {m l:Nat} {f:FuncId} {tmps:Array Value} {assign body:Code} {w:World} {R:Ending→World→Prop} (h:RoundIn (Fr none) 0 P l f tmps assign body w R):RoundIn (Fr ro) m P l f tmps assign body w R :=
 ⟨trivial,fun c cs _=>h.2 c cs (room_wide _)⟩
theorem Zdc {o:Oper} {a:Act} {w:World} {K:Value→World→Prop} (ro:Option Nat) (h:Oper.does P o a w K):(o.semAt ro a.eval).run P w=(execOp a.eval o).run P w:=by
 rw [Oper.semAt_eq ro a.eval o];intro c hc;have:∀ r,(execOp a.eval o).run P w=r→(match r with | .ok (.value v) w'=>K v w' | .ok .skip w'=>K undef w' | .ok (.enter f args) w'=>Calls P f args w' fun e w''=>∃ v,e=.returned v∧K v w'' | .ok (.row row args) w'=>Rows P row args w' K | .ok (.round l f tmps assign body) w'=>RoundIn (Fr none) 0 P l f tmps assign body w' fun e w''=>∃ v,e=.returned v∧K v w''|_=>False):=fun r hr=>by subst hr;exact h
 have hrun:=this _ rfl;simp only [execOp,hc] at hrun;rw [Sem.run_bind] at hrun;cases hres:(resolve a.eval c o.type).run P w <;> rw [hres] at hrun <;> exact hrun
theorem Oper.wpIn_of_does {ro:Option Nat} {m:Nat} {o:Oper} {a:Act} {w:World} {K:Act→World→Prop} (hh:Oper.does P o a w fun v w'=>K (a.put o.dst v) w'):o.wpIn (Fr ro) m P a w K Q:=by
 refine ⟨fun _ _=>trivial,?_⟩;have hs:=Zdc ro hh;show o.uponIn (Fr ro) m P a K Q ((o.semAt ro a.eval).run P w);rw [hs];unfold Oper.does at hh;generalize (execOp a.eval o).run P w=r at hh;cases r with
 | ok x w' =>
  cases x <;> simp only [Oper.uponIn] at hh ⊢
  case value u=>exact hh
  case skip=>exact hh
  case enter f args =>
   refine ⟨fun h=>(by cases h),Lq.2 (Calls.mono hh fun e w'' ⟨v,he,hk⟩=>?_)⟩;subst he;exact hk
  case row row args=>exact ⟨fun h=>(by cases h),Zfq hh⟩
  case round l f tmps assign body =>
   refine ⟨fun h=>(by cases h),?_⟩;have h1:RoundIn (Fr none) 0 P l f tmps assign body w' fun | .returned v,w''=>K (a.put o.dst v) w'' | .panicked chain,w''=>Q (.panic chain) a w'' | .outgrown,_=>LetsOut Q:=RoundIn.mono hh fun e w'' ⟨v,he,hk⟩=>by subst he;exact hk
   exact Zbl h1
 | halt x w'=>exact hh.elim
theorem Runs.does {o:Oper} {a:Act} {w:World} {v:Value} (h:Runs P o a w v) {K:Value→World→Prop} (hk:K v w):Oper.does P o a w K:=by
 unfold Oper.does;rcases h with h|⟨h,rfl⟩ <;> rw [h] <;> exact hk
theorem Runs.wpIn {ro:Option Nat} {m:Nat} {o:Oper} {a:Act} {w:World} {v:Value} (h:Runs P o a w v) {K:Act→World→Prop} (hk:K (a.put o.dst v) w):o.wpIn (Fr ro) m P a w K Q :=
 Oper.wpIn_of_does (h.does hk)
theorem News.does {o:Oper} {a:Act} {x:Obj} {g:Nat→Value} {w:World} (h:News P o a x g) {K:Value→World→Prop} (hk:K (g w.heap.size) (w.alloc x)):Oper.does P o a w K:=by
 unfold Oper.does;rw [h w];exact hk
theorem Oper.does_put {o:Oper} (hs:∀ cs b,o.op≠.select cs b) {a:Act} {w:World} {d:Option Tmp} {u:Value} (h:∀ t,d=some t→t∉o.looksAt ops) {K:Value→World→Prop} :
 Oper.does P o (a.put d u) w K↔Oper.does P o a w K:=by
 unfold Oper.does;rw [execOp_put o hs a d u h]
theorem Runs.put {o:Oper} (hs:∀ cs b,o.op≠.select cs b) {a:Act} {w:World} {d:Option Tmp} {u v:Value} (h:∀ t,d=some t→t∉o.looksAt ops) :
 Runs P o (a.put d u) w v↔Runs P o a w v:=by
 unfold Runs;rw [execOp_put o hs a d u h]
def HY:Cls→Cls→Bool
 | .pure,_=>true
 | .read,.wr=>false
 | .read,_=>true
 | .eff,.pure | .eff,.read | .eff,.new=>true
 | .new,.pure | .new,.read | .new,.new=>true
 | .wr,.pure=>true
 | _,_=>false
def stepD (P:Program) (ops:Array Oper) (c:Cls) (o:Oper) (a:Act) (J:World→Prop) (A:As) (K:(World→Prop)→As→Act→Prop):Prop :=
 (Region.wanted o (yielded ops a.tmps)=false∧K J A (a.put o.dst undef)) ∨
 (Region.wanted o (yielded ops a.tmps)=true ∧
  match c with
  | .pure=>∃ v,(∀ w,Runs P o a w v)∧K J A (a.put o.dst v)
  | .read=>∃ v,(∀ w,J w→Runs P o a w v)∧K J A (a.put o.dst v)
  | .eff=>∀ F w,St A.M (F++A.H) w→Oper.does P o a w (fun v w'=>∃ A':As,St A'.M (F++A'.H) w'∧(∀ u,A'.st u→J u)∧K J A' (a.put o.dst v))
  | .new=>∃ x g,News P o a x g∧∀ b,(∃ w,St A.M ((b,x)::A.H) w)→K J ⟨A.M,(b,x)::A.H⟩ (a.put o.dst (g b))
  | .wr=>∀ w,A.st w→Oper.does P o a w (fun v w'=>∃ (J':World→Prop) (A':As),A'.st w'∧(∀ u,A'.st u→J' u)∧K J' A' (a.put o.dst v)))
theorem Tn {i:Nat} {o:Oper} (hi:ops[i]?=some o) {rest:List Nat} {J:World→Prop} {A:As} {a:Act} :
 WD P ops cl Q (i::rest) J A a↔stepD P ops (cl i) o a J A (WD P ops cl Q rest):=by
 constructor
 ·rintro ⟨o',ho',h⟩;obtain rfl:o'=o:=A5 (ho'.symm.trans hi);exact h
 ·intro h;exact ⟨o,hi,h⟩
theorem stepD.mono {c:Cls} {o:Oper} {a:Act} {J:World→Prop} {A:As} {K K':(World→Prop)→As→Act→Prop} (hSJ:∀ u,A.st u→J u)
 (h:∀ J' A' v,(∀ u,As.st A' u→J' u)→((∃ w,A.st w)→∃ w,As.st A' w)→(c≠.wr→J'=J)→K J' A' (a.put o.dst v)→K' J' A' (a.put o.dst v)) (hh:stepD P ops c o a J A K):stepD P ops c o a J A K':=by
 rcases hh with ⟨hw,hk⟩|⟨hw,hk⟩
 ·exact .inl ⟨hw,h _ _ _ hSJ id (fun _=>rfl) hk⟩
 ·refine .inr ⟨hw,?_⟩;cases c <;> simp only at hk ⊢
  ·grind
  ·grind
  ·intro F w hw;exact Oper.does_mono (fun v w' ⟨A',s1,s2,hk⟩=>⟨A',s1,s2,h _ _ _ s2 (fun _=>⟨w',s1.unframe⟩) (fun _=>rfl) hk⟩) (hk F w hw)
  ·intro w hw;exact Oper.does_mono (fun v w' ⟨J',A',s1,s2,hk⟩=>⟨J',A',s1,s2,h _ _ _ s2 (fun _=>⟨w',s1⟩) (fun hc=>(hc rfl).elim) hk⟩) (hk w hw)
  ·obtain ⟨x,g,hx,hk⟩:=hk;exact ⟨x,g,hx,fun b hb=>h _ _ _ (fun u hu=>hSJ u (St.tail hu)) (fun _=>hb) (fun _=>rfl) (hk b hb)⟩
theorem News.put {o:Oper} (hs:∀ cs b,o.op≠.select cs b) {a:Act} {d:Option Tmp} {u:Value} {x:Obj} {g:Nat→Value} (h:∀ t,d=some t→t∉o.looksAt ops):News P o (a.put d u) x g↔News P o a x g:=by
 unfold News;rw [execOp_put o hs a d u h]
theorem News.unique {o:Oper} {a:Act} {x y:Obj} {g g':Nat→Value} (w:World) (h:News P o a x g) (h':News P o a y g'):x=y:=by
 have e:=(h w).symm.trans (h' w);have e1:(w.alloc x).heap=(w.alloc y).heap:=by
  have:=Result.ok.inj e;exact A9 World.heap this.2
 have e2:(w.heap.push x)[w.heap.size]?=(w.heap.push y)[w.heap.size]?:=A9 (fun h:Array Obj=>h[w.heap.size]?) e1;grind
theorem News.uniqueV {o:Oper} {a:Act} {x y:Obj} {g g':Nat→Value} (w:World) (h:News P o a x g) (h':News P o a y g') (b:Nat):g b=g' b:=by
 have e:=(h { w with heap:=Array.replicate b x }).symm.trans (h' { w with heap:=Array.replicate b x });grind
theorem stepD.put {c:Cls} {o:Oper} (hs:∀ cs b,o.op≠.select cs b) {a:Act} {d:Option Tmp} {u:Value} (h1:∀ t,d=some t→t∉o.looksAt ops) (h2:∀ t,d=some t→o.dst≠some t)
 {J:World→Prop} {A:As} {K:(World→Prop)→As→Act→Prop}:stepD P ops c o (a.put d u) J A K↔stepD P ops c o a J A (fun J A a=>K J A (a.put d u)):=by
 unfold stepD;simp only [wanted_put o a d u h1,Runs.put hs h1,Oper.does_put hs h1,News.put hs h1];have cm:∀ v,(a.put d u).put o.dst v=(a.put o.dst v).put d u:=fun v=>Act.put_comm a u v h2;simp only [cm]
def knows (P:Program) (ops:Array Oper) (c:Cls) (o:Oper) (a:Act) (J:World→Prop) (v:Value):Prop :=
 (Region.wanted o (yielded ops a.tmps)=false∧v=undef)∨(Region.wanted o (yielded ops a.tmps)=true∧((c=.pure∧∀ w,Runs P o a w v)∨(c=.read∧∀ w,J w→Runs P o a w v)))
theorem stepD.weak {c:Cls} (hc:c.strong=false) {o:Oper} {a:Act} {J:World→Prop} {A:As} {K:(World→Prop)→As→Act→Prop} :
 stepD P ops c o a J A K↔∃ v,knows P ops c o a J v∧K J A (a.put o.dst v):=by
 constructor
 ·rintro (⟨hw,hk⟩|⟨hw,hk⟩)
  ·exact ⟨_,.inl ⟨hw,rfl⟩,hk⟩
  ·cases c <;> simp only [Cls.strong] at hc <;> simp only at hk
   ·obtain ⟨v,hv,hk⟩:=hk;exact ⟨v,.inr ⟨hw,.inl ⟨rfl,hv⟩⟩,hk⟩
   ·obtain ⟨v,hv,hk⟩:=hk;exact ⟨v,.inr ⟨hw,.inr ⟨rfl,hv⟩⟩,hk⟩
   ·cases hc
   ·cases hc
   ·cases hc
 ·rintro ⟨v,(⟨hw,rfl⟩|⟨hw,⟨rfl,hv⟩|⟨rfl,hv⟩⟩),hk⟩
  ·exact .inl ⟨hw,hk⟩
  ·exact .inr ⟨hw,v,hv,hk⟩
  ·exact .inr ⟨hw,v,hv,hk⟩
theorem knows.put {c:Cls} {o:Oper} (hs:∀ cs b,o.op≠.select cs b) {a:Act} {d:Option Tmp} {u:Value} (h1:∀ t,d=some t→t∉o.looksAt ops) {J:World→Prop} {v:Value} :
 knows P ops c o (a.put d u) J v↔knows P ops c o a J v:=by
 unfold knows;simp only [wanted_put o a d u h1,Runs.put hs h1]
theorem knows.unique {c:Cls} {o:Oper} {a:Act} {J J':World→Prop} {w:World} (hw:J w) (hJ:c=.read→J' w) {u v:Value} (h:knows P ops c o a J u) (h':knows P ops c o a J' v):u=v:=by
 rcases h with ⟨h0,rfl⟩|⟨h0,h⟩ <;> rcases h' with ⟨h0',rfl⟩|⟨h0',h'⟩
 ·rfl
 ·grind
 ·grind
 ·rcases h with ⟨rfl,h⟩|⟨rfl,h⟩ <;> rcases h' with ⟨hc,h'⟩|⟨hc,h'⟩
  ·exact Runs.unique (h w) (h' w)
  ·cases hc
  ·cases hc
  ·exact Runs.unique (h w hw) (h' w (hJ rfl))
theorem knows.pureJ {o:Oper} {a:Act} {J J':World→Prop} {v:Value} (h:knows P ops .pure o a J v):knows P ops .pure o a J' v:=by
 rcases h with h|⟨h0,⟨h1,h2⟩|⟨h1,_⟩⟩
 ·exact .inl h
 ·exact .inr ⟨h0,.inl ⟨h1,h2⟩⟩
 ·cases h1
theorem WD.perm:∀ {l:List Nat} {J:World→Prop} {A A':As} {a:Act},A'.M=A.M→A.H.Perm A'.H→WD P ops cl Q l J A a→WD P ops cl Q l J A' a
 | [],J,A,A',a,e,hp,h=>fun w hw=>h w (by
  have:St A'.M A'.H w:=hw;rw [e] at this;exact this.perm0 hp.symm)
 | i::rest,J,A,A',a,e,hp,h=>by
  obtain ⟨o,ho,h⟩:=h;refine ⟨o,ho,?_⟩;rcases h with ⟨hw,hk⟩|⟨hw,hk⟩
  ·exact .inl ⟨hw,WD.perm e hp hk⟩
  ·refine .inr ⟨hw,?_⟩;cases hc:cl i <;> rw [hc] at hk <;> simp only at hk ⊢
   ·obtain ⟨v,hv,hk⟩:=hk;exact ⟨v,hv,WD.perm e hp hk⟩
   ·obtain ⟨v,hv,hk⟩:=hk;exact ⟨v,hv,WD.perm e hp hk⟩
   ·intro F w hw;rw [e] at hw;exact hk F w (hw.perm0 (hp.symm.append_left F))
   ·intro w hw;refine hk w ?_;have:St A'.M A'.H w:=hw;rw [e] at this;exact this.perm0 hp.symm
   ·obtain ⟨x,g,hx,hk⟩:=hk;refine ⟨x,g,hx,fun b hb=>?_⟩;refine WD.perm (A:=⟨A.M,(b,x)::A.H⟩) e (hp.cons _) (hk b ?_);obtain ⟨w,hw⟩:=hb;rw [e] at hw;exact ⟨w,hw.perm0 (hp.symm.cons _)⟩
theorem WD.swap {x i:Nat} {rest:List Nat} {ox oi:Oper} (hx:ops[x]?=some ox) (hi:ops[i]?=some oi)
 (hsx:∀ cs b,ox.op≠.select cs b) (hsi:∀ cs b,oi.op≠.select cs b) (hap:ox.apart ops oi=true) (hcl:HY (cl x) (cl i)=true)
 {J:World→Prop} {A:As} {a:Act} (hSJ:∀ u,A.st u→J u) (hne:∃ w,A.st w) (h:WD P ops cl Q (x::i::rest) J A a):WD P ops cl Q (i::x::rest) J A a:=by
 obtain ⟨h1,h2,h3⟩:=Oper.apart_spec hap;have h4:∀ d,oi.dst=some d→ox.dst≠some d:=fun d hd he=>h2 d he hd;have cm:∀ (a:Act) u v,(a.put ox.dst u).put oi.dst v=(a.put oi.dst v).put ox.dst u:=fun a u v=>Act.put_comm a u v h2;rw [Tn hx] at h;rw [Tn hi];cases hcx:(cl x).strong with
 | false =>
  rw [stepD.weak hcx] at h;obtain ⟨v,hv,h⟩:=h;rw [Tn hi,stepD.put hsi h1 h2] at h;refine stepD.mono hSJ ?_ h;intro J' A' u hs' hn' hJ' h';rw [Tn hx,stepD.weak hcx];refine ⟨v,(knows.put hsx h3).2 ?_,h'⟩;cases hc:cl x <;> rw [hc] at hcx hv hcl
  ·exact hv.pureJ
  ·have:cl i≠.wr:=fun e=>by rw [e] at hcl;cases hcl
   rw [hJ' this];exact hv
  ·cases hcx
  ·cases hcx
  ·cases hcx
 | true =>
  obtain ⟨J0,A0,u0,hs0,⟨w0,hw0⟩,hJ0,hk0⟩:∃ J' A' u,(∀ z,As.st A' z→J' z)∧(∃ w,As.st A' w)∧(cl x≠.wr→J'=J)∧WD P ops cl Q (i::rest) J' A' (a.put ox.dst u):=by
   rcases h with ⟨_,hk⟩|⟨_,hk⟩
   ·exact ⟨J,A,_,hSJ,hne,fun _=>rfl,hk⟩
   ·obtain ⟨w,hw⟩:=hne;cases hc:cl x <;> rw [hc] at hcx hk <;> simp only at hk
    ·cases hcx
    ·cases hcx
    ·obtain ⟨v,w',A',s1,s2,hk⟩:=Oper.does_some (hk [] w hw);exact ⟨J,A',v,s2,⟨w',s1⟩,fun _=>rfl,hk⟩
    ·obtain ⟨v,w',J',A',s1,s2,hk⟩:=Oper.does_some (hk w hw);exact ⟨J',A',v,s2,⟨w',s1⟩,fun hn=>(hn rfl).elim,hk⟩
    ·obtain ⟨xo,gx,hxo,hk⟩:=hk;have hn:St A.M ((w.heap.size,xo)::A.H) (w.alloc xo):=St.alloc hw xo;exact ⟨J,⟨A.M,(w.heap.size,xo)::A.H⟩,_,fun z hz=>hSJ z (St.tail hz),⟨_,hn⟩,fun _=>rfl,hk _ ⟨_,hn⟩⟩
  cases hci:(cl i).strong with
  | false =>
   have hpure:cl x=.wr→cl i=.pure:=by
    cases hh:cl x <;> cases hh':cl i <;> simp_all [HY,Cls.strong]
   rw [Tn hi,stepD.weak hci] at hk0;obtain ⟨v,hv0,_⟩:=hk0;have hv1:=(knows.put hsi h1).1 hv0;have hv:knows P ops (cl i) oi a J v:=by
    by_cases hm:cl x=.wr
    ·rw [hpure hm] at hv1 ⊢;exact hv1.pureJ
    ·rw [hJ0 hm] at hv1;exact hv1
   rw [stepD.weak hci];refine ⟨v,hv,?_⟩;rw [Tn hx,stepD.put hsx h3 h4];refine stepD.mono hSJ ?_ h;intro J' A' u hs' hn' hJ' h';rw [Tn hi,stepD.weak hci] at h';obtain ⟨v',hv',h'⟩:=h';have hv1':=(knows.put hsi h1).1 hv';obtain ⟨w1,hw1⟩:=hn' hne;have e:v'=v:=knows.unique (hs' _ hw1) (fun hc=>by
    by_cases hm:cl x=.wr
    ·rw [hpure hm] at hc;cases hc
    ·rw [← hJ' hm];exact hs' _ hw1) hv1' hv
   subst e;exact h'
  | true =>
   have hcn:cl i=.new∧(cl x=.eff∨cl x=.new):=by
    cases hh:cl x <;> cases hh':cl i <;> simp_all [HY,Cls.strong]
   obtain ⟨hin,hxx⟩:=hcn;have hJ0':J0=J:=hJ0 (by rcases hxx with e|e <;> rw [e] <;> decide);rw [Tn hi,stepD.put hsi h1 h2,hin] at hk0;rw [hin];rcases hk0 with ⟨hwi,_⟩|⟨hwi,xo,gi,hxo,_⟩
   ·refine .inl ⟨hwi,?_⟩;rw [Tn hx,stepD.put hsx h3 h4];refine stepD.mono hSJ ?_ h;intro J' A' u hs' hn' hJ' h';rw [Tn hi,stepD.put hsi h1 h2] at h';rcases h' with ⟨_,h'⟩|⟨hwi',_⟩
    ·exact (cm a u undef) ▸ h'
    ·rw [hwi] at hwi';cases hwi'
   ·refine .inr ⟨hwi,xo,gi,hxo,fun b hb=>?_⟩;rw [Tn hx,stepD.put hsx h3 h4];have key:∀ J' A' v,(∀ u,As.st A' u→J' u)→(∃ w,St A'.M ((b,xo)::A'.H) w)→WD P ops cl Q (i::rest) J' A' (a.put ox.dst v)→WD P ops cl Q rest J' ⟨A'.M,(b,xo)::A'.H⟩ ((a.put ox.dst v).put oi.dst (gi b)):=by
     intro J' A' v hs' hn' h';rw [Tn hi,hin] at h';rcases h' with ⟨hwi',_⟩|⟨_,xo',gi',hxo',h'⟩
     ·rw [wanted_put oi a ox.dst v h1,hwi] at hwi';cases hwi'
     ·have e:xo'=xo:=News.unique w0 ((News.put hsi h1).1 hxo') hxo;subst e;rw [← News.uniqueV w0 ((News.put hsi h1).1 hxo') hxo b];exact h' b hn'
    rcases h with ⟨hwx,hk⟩|⟨hwx,hk⟩
    ·refine .inl ⟨hwx,?_⟩;exact key _ _ _ hSJ hb hk
    ·refine .inr ⟨hwx,?_⟩;rcases hxx with hxe|hxe <;> rw [hxe] at hk ⊢ <;> simp only at hk ⊢
     ·intro F w hw;have hw2:St A.M ((F++[(b,xo)])++A.H) w:=by simpa using hw
      refine Oper.does_mono (fun v w' ⟨A',s1,s2,hk⟩=>?_) (hk (F++[(b,xo)]) w hw2);have s1':St A'.M (F++((b,xo)::A'.H)) w':=by simpa using s1
      refine ⟨⟨A'.M,(b,xo)::A'.H⟩,s1',fun u hu=>s2 u (St.tail hu),?_⟩;exact key _ _ _ s2 ⟨w',s1'.unframe⟩ hk
     ·obtain ⟨yo,gy,hyo,hk⟩:=hk;refine ⟨yo,gy,hyo,fun b2 hb2=>?_⟩;obtain ⟨w2,hw2⟩:=hb2;have hn2:St A.M ((b2,yo)::A.H) w2:=hw2.suf (.keep (.skip (.refl _)));have hn3:St A.M ((b,xo)::(b2,yo)::A.H) w2:=hw2.perm0 (List.Perm.swap _ _ _);have:=key _ ⟨A.M,(b2,yo)::A.H⟩ _ (fun u hu=>hSJ u (St.tail hu)) ⟨w2,hn3⟩ (hk b2 ⟨w2,hn2⟩);exact WD.perm (A:=⟨A.M,(b,xo)::(b2,yo)::A.H⟩) rfl (List.Perm.swap _ _ _) this
def Zgo (ops:Array Oper) (B:Array Nat):Bool :=
 (List.range ops.size).all fun j=>match ops[j]? with
  | none=>false
  | some o=>(o.after.all fun e=>!Region.binds .any e || decide (e.on<j)) &&
   B.getD j 0 == o.after.foldl (fun s e=>if Region.binds .any e then s ||| 2 ^ e.on ||| B.getD e.on 0 else s) 0
def Zsv (ops:Array Oper) (cl:Nat→Cls) (B:Array Nat):Bool :=
 (List.range ops.size).all fun j=>(List.range j).all fun i =>
  (B.getD j 0).testBit i || (match ops[i]?,ops[j]? with|some oi,some oj=>oi.apart ops oj && HY (cl i) (cl j)|_,_=>false)
def Ri (ops:Array Oper) (cl:Nat→Cls) (B:Array Nat):Bool:=Region.noSelect ops && Zgo ops B && Zsv ops cl B
theorem Dp {B:Array Nat} {i:Nat}:∀ (l:List Edge) (s:Nat),
 (l.foldl (fun s e=>if Region.binds .any e then s ||| 2 ^ e.on ||| B.getD e.on 0 else s) s).testBit i=true →
 s.testBit i=true∨∃ e∈l,Region.binds .any e=true∧(e.on=i∨(B.getD e.on 0).testBit i=true)
 | [],s,h=>.inl h
 | e::l,s,h=>by
  rw [G6] at h;rcases Dp l _ h with h|⟨e',he,hb,hh⟩
  ·split at h
   ·rename_i hb;rw [Nat.testBit_or,Nat.testBit_or,Nat.testBit_two_pow,Bool.or_eq_true,Bool.or_eq_true] at h;rcases h with (h|h)|h
    ·exact .inl h
    ·exact .inr ⟨e,.head _,hb,.inl zL⟩
    ·exact .inr ⟨e,.head _,hb,.inr h⟩
   ·exact .inl h
  ·exact .inr ⟨e',.tail _ he,hb,hh⟩
structure Closed (ops:Array Oper) (listed:Array Bool):Prop where
  size:listed.size=ops.size
  closed:∀ j oj,ops[j]?=some oj→listed.getD j false=true→∀ e∈oj.after,Region.binds .any e=true→listed.getD e.on false=true
theorem EI {B:Array Nat} (h:Zgo ops B=true) {listed:Array Bool} (hc:Closed ops listed) :
 ∀ (n j i:Nat),j≤n→(B.getD j 0).testBit i=true→(listed.getD j false=true∨∃ oj,ops[j]?=some oj∧∀ e∈oj.after,Region.binds .any e=true→listed.getD e.on false=true)→j<ops.size→listed.getD i false=true:=by
 intro n
 induction n using Nat.strongRecOn with
 | _ n ih =>
  intro j i hj hb hl hlt;have h1:=E7.1 h j (G7.2 hlt);obtain ⟨oj,hoj⟩:∃ oj,ops[j]?=some oj:=⟨ops[j],E8 hlt⟩
  simp only [hoj,F1,beq_iff_eq] at h1;obtain ⟨h2,h3⟩:=h1;rw [h3,← Array.foldl_toList] at hb;have hall:∀ e∈oj.after,Region.binds .any e=true→listed.getD e.on false=true:=by
   rcases hl with hl|⟨o',ho',hl⟩
   ·exact hc.closed j oj hoj hl
   ·obtain rfl:o'=oj:=A5 (ho'.symm.trans hoj);exact hl
  rcases Dp _ _ hb with h0|⟨e,he,hbe,hh⟩
  ·simp at h0
  ·have hel:=hall e (Array.mem_toList_iff.1 he) hbe;have hlt':e.on<j:=by simpa [hbe] using (Array.all_eq_true_iff_forall_mem.1 h2) e (Array.mem_toList_iff.1 he)
   rcases hh with rfl|hh
   ·exact hel
   ·exact ih e.on jD e.on i (B9 _) hh (.inl hel) jD
theorem Closed.set {listed:Array Bool} (hc:Closed ops listed) {i:Nat} (hi:i∈Region.ready .any ops listed):Closed ops (listed.setIfInBounds i true):=by
 obtain ⟨_,oi,hoi,hall⟩:=mem_ready.1 hi;refine ⟨by simp [hc.size],fun j oj hj hl e he hb=>?_⟩;by_cases hij:i=j
 ·subst hij;obtain rfl:oj=oi:=A5 (hj.symm.trans hoi);exact getD_set_true (hall e he hb)
 ·rw [getD_set_ne false hij] at hl;exact getD_set_true (hc.closed j oj hj hl e he hb)
def left (n:Nat) (listed:Array Bool):List Nat:=(List.range n).filter fun i=>!listed.getD i true
theorem WD.front {B:Array Nat} (hok:Ri ops cl B=true) {i:Nat} {oi:Oper} (hi:ops[i]?=some oi) {J:World→Prop} {A:As} {a:Act} (hSJ:∀ u,A.st u→J u) (hne:∃ w,A.st w) :
 ∀ (pre post:List Nat),(∀ x∈pre,x<i∧(B.getD i 0).testBit x=false)→WD P ops cl Q (pre++i::post) J A a→WD P ops cl Q (i::(pre++post)) J A a:=by
 intro pre
 induction pre generalizing J A a with
 | nil=>intro post _ h;exact h
 | cons x pre ih =>
  intro post hpre h;simp only [Ri,F1] at hok;obtain ⟨⟨hsel,_⟩,hpairs⟩:=hok;have hxi:=(hpre x (.head _)).1;have hilt:i<ops.size:=(E4.1 hi).1;obtain ⟨ox,hox⟩:∃ ox,ops[x]?=some ox:=⟨ops[x],E8 jD⟩
  have hp:=E7.1 (E7.1 hpairs i (G7.2 hilt)) x (G7.2 hxi);simp only [(hpre x (.head _)).2,Bool.false_or,hox,hi,F1] at hp;refine WD.swap hox hi (fun cs b=>Region.noSelect_spec hsel x ox cs b hox) (fun cs b=>Region.noSelect_spec hsel i oi cs b hi) hp.1 hp.2 hSJ hne ?_;rw [B4,Tn hox] at h;rw [Tn hox];refine stepD.mono hSJ ?_ h;intro J' A' v hs' hn' hJ' h';exact ih hs' (hn' hne) post (fun y hy=>hpre y (.tail _ hy)) h'
theorem Dy {p:Nat→Bool} {i:Nat}:∀ {l:List Nat},i∈l→p i=true→l.Pairwise (·<·) →
 ∃ pre post,l.filter p=pre++i::post∧(∀ x∈pre,x<i∧p x=true)∧l.filter (fun j=>p j && j != i)=pre++post:=by
 intro l
 induction l with
 | nil=>intro h;cases h
 | cons x l ih =>
  intro hm hp hs;rw [D6] at hs;by_cases hxi:x=i
  ·subst hxi;refine ⟨[],l.filter p,by simp [hp],by simp,?_⟩;have:l.filter (fun j=>p j && j != x)=l.filter p:=List.filter_congr fun j hj=>by
    have:=hs.1 j hj;have hne:(j != x)=true:=by simp;omega
    simp [hne]
   simp [this]
  ·have hm':i∈l:=by simpa [Ne.symm hxi] using hm
   obtain ⟨pre,post,h1,h2,h3⟩:=ih hm' hp hs.2;have hlt:=hs.1 i hm';cases hpx:p x with
   | true =>
    refine ⟨x::pre,post,by simp [hpx,h1],?_,by simp [hpx,hxi,h3]⟩;intro y hy;rcases B7.1 hy with rfl|hy
    ·exact ⟨hlt,hpx⟩
    ·exact h2 y hy
   | false=>exact ⟨pre,post,by simp [hpx,h1],h2,by simp [hpx,h3]⟩
theorem Zod {n i:Nat} {listed:Array Bool} (hsz:listed.size=n):left n (listed.setIfInBounds i true)=(List.range n).filter fun j=>!listed.getD j true && j != i:=by
 refine List.filter_congr fun j hj=>?_;by_cases hij:i=j
 ·simp_all
 ·rw [getD_set_ne true hij];grind
theorem WD.sound {ro:Option Nat} {B:Array Nat} (hok:Ri ops cl B=true):∀ (n:Nat) (listed:Array Bool),Closed ops listed→(left ops.size listed).length=n→∀ (J:World→Prop) (A:As) (a:Act) (w:World),
 (∀ u,A.st u→J u)→A.st w→WD P ops cl Q (left ops.size listed) J A a→wpAnyIn (Fr ro) 0 P .any ops Q n listed a w:=by
 intro n
 induction n with
 | zero =>
  intro listed hc hn J A a w hSJ hw h;have e:left ops.size listed=[]:=D4 hn;refine ⟨?_,by rw [e] at h;exact h w hw⟩;refine List.eq_nil_iff_forall_not_mem.2 fun i hi=>?_;have h0:=(mem_ready.1 hi).1;obtain ⟨o,ho,_⟩:=(mem_ready.1 hi).2;have:i∈left ops.size listed:=F6.2 ⟨G7.2 (E4.1 ho).1,by simp only [h0];rfl⟩;rw [e] at this;cases this
 | succ n ih =>
  intro listed hc hn J A a w hSJ hw h;have hstep:∀ i∈Region.ready .any ops listed,wpOpIn (Fr ro) 0 P ops Q i (wpAnyIn (Fr ro) 0 P .any ops Q n (listed.setIfInBounds i true)) a w:=by
   intro i hi;obtain ⟨h0,oi,hoi,hall⟩:=mem_ready.1 hi;have hilt:=(E4.1 hoi).1;obtain ⟨pre,post,e1,e2,e3⟩:=Dy (p:=fun i=>!listed.getD i true) (G7.2 hilt) (by simp only [h0];rfl) (List.pairwise_lt_range (n:=ops.size));have hok':=hok;simp only [Ri,F1] at hok';have hpre:∀ x∈pre,x<i∧(B.getD i 0).testBit x=false:=by
    intro x hx;refine ⟨(e2 x hx).1,?_⟩;cases hb:(B.getD i 0).testBit x with
    | false=>rfl
    | true =>
     have h1:=EI hok'.1.2 hc i i x (B9 _) hb (.inr ⟨oi,hoi,hall⟩) hilt;have h2:=(e2 x hx).2;have hxlt:x<listed.size:=by rw [hc.size];have:=(e2 x hx).1;omega
     simp [hxlt] at h1 h2;rw [h1] at h2;cases h2
   have e0:left ops.size listed=pre++i::post:=e1;rw [e0] at h;have h':=WD.front hok hoi hSJ ⟨w,hw⟩ pre post hpre h;have el:left ops.size (listed.setIfInBounds i true)=pre++post:=by rw [Zod hc.size];exact e3
   have hlen:(left ops.size (listed.setIfInBounds i true)).length=n:=by
    rw [el];rw [e0] at hn;simp at hn ⊢;omega
   rw [Tn hoi] at h';unfold wpOpIn;simp only [hoi];rcases h' with ⟨hwt,hk⟩|⟨hwt,hk⟩
   ·simp only [hwt];exact ⟨fun _ _=>trivial,ih _ (hc.set hi) hlen J A _ w hSJ hw (by rw [el];exact hk)⟩
   ·simp only [hwt];cases hcl:cl i <;> simp only [hcl] at hk
    ·obtain ⟨v,hv,hk⟩:=hk;exact Runs.wpIn (hv w) (ih _ (hc.set hi) hlen J A _ w hSJ hw (by rw [el];exact hk))
    ·obtain ⟨v,hv,hk⟩:=hk;exact Runs.wpIn (hv w (hSJ w hw)) (ih _ (hc.set hi) hlen J A _ w hSJ hw (by rw [el];exact hk))
    ·exact Oper.wpIn_of_does (Oper.does_mono (fun v w' ⟨A',s1,s2,hk⟩=>ih _ (hc.set hi) hlen J A' _ w' s2 s1 (by rw [el];exact hk)) (hk [] w hw))
    ·exact Oper.wpIn_of_does (Oper.does_mono (fun v w' ⟨J',A',s1,s2,hk⟩=>ih _ (hc.set hi) hlen J' A' _ w' s2 s1 (by rw [el];exact hk)) (hk w hw))
    ·obtain ⟨xo,gx,hxo,hk⟩:=hk;have hn:St A.M ((w.heap.size,xo)::A.H) (w.alloc xo):=St.alloc hw xo;exact Oper.wpIn_of_does (hxo.does (ih _ (hc.set hi) hlen J ⟨A.M,(w.heap.size,xo)::A.H⟩ _ _ (fun u hu=>hSJ u (St.tail hu)) hn (by rw [el];exact hk _ ⟨_,hn⟩)))
  refine ⟨fun h0=>?_,hstep⟩;obtain ⟨i,rest,e⟩:∃ i rest,left ops.size listed=i::rest:=by
   cases hl:left ops.size listed with
   | nil=>rw [hl] at hn;cases hn
   | cons i rest=>exact ⟨i,rest,rfl⟩
  have hmem:i∈left ops.size listed:=by rw [e];exact .head _
  obtain ⟨hr,hun⟩:=F6.1 hmem;have hilt:=G7.1 hr;have hmin:∀ j,j<i→listed.getD j false=true:=by
   intro j hj;cases hl:listed.getD j false with
   | true=>rfl
   | false =>
    have hjs:j<listed.size:=by rw [hc.size];omega
    have hjm:j∈left ops.size listed:=F6.2 ⟨G7.2 jD,by simp [hjs] at hl ⊢;exact hl⟩;have hsorted:(left ops.size listed).Pairwise (·<·):=List.Pairwise.filter _ (List.pairwise_lt_range (n:=ops.size));rw [e] at hjm hsorted;rcases B7.1 hjm with rfl|hjm
    ·omega
    ·have:=(D6.1 hsorted).1 j hjm;omega
  have hok':=hok;simp only [Ri,F1] at hok';have h1:=E7.1 hok'.1.2 i hr;obtain ⟨oi,hoi⟩:∃ oi,ops[i]?=some oi:=⟨ops[i],E8 hilt⟩
  simp only [hoi,F1] at h1;have:i∈Region.ready .any ops listed:=mem_ready.2 ⟨by simpa using hun,oi,hoi,fun e he hbe=>hmin _ (by simpa [hbe] using (Array.all_eq_true_iff_forall_mem.1 h1.1) e he)⟩;rw [h0] at this;cases this
theorem IP (n:Nat):left n (Array.replicate n false)=List.range n:=by
 refine List.filter_eq_self.2 fun i hi=>?_;simp_all
theorem Lx {ro:Option Nat} {id:Nat} {a:Act} {w:World} {B:Array Nat} (hm:P.follows .mixedOrders=true) (hok:Ri ops cl B=true) {J:World→Prop} {A:As} (hSJ:∀ u,A.st u→J u)
 (hw:A.st { w with drawn:=w.drawn+1 }) (h:WD P ops cl Q (List.range ops.size) J A a):(Code.region id ops true).wpIn (Fr ro) 0 P Q a w:=by
 refine wpIn_region_any hm (WD.sound hok ops.size _ ⟨by simp,fun j oj hj hl=>?_⟩ (by rw [IP];simp) J A a _ hSJ hw (by rw [IP];exact h));rcases C7 j ops.size with h'|h'
 ·simp [h'] at hl
 ·grind
end
end Go.Esp
namespace Go.Esp
abbrev Env:=List (Nat×Value)
def get:Env→Nat→Option Value
 | [],_=>none
 | (j,v)::r,k=>match Nat.beq j k with
  | true=>some v
  | false=>get r k
structure Sh where
  sz:Nat
  ds:List Deferred:=[]
  ro:Option Nat:=none
  wrs:List Nat:=[]
structure Sat (n:Sh) (e:Env) (a:Act):Prop where
  size:a.tmps.size=n.sz
  defers:a.defers=n.ds
  slot:∀ k v,get e k=some v→a.tmps.getD k undef=v
theorem Sat.put {n:Sh} {e:Env} {a:Act} (h:Sat n e a) {d:Nat} (hd:Nat.ble (d+1) n.sz=true) (v:Value):Sat n ((d,v)::e) (a.put (some d) v):=by
 have hd':d<n.sz:=D1 hd;refine ⟨by simp [Act.put,h.size],h.defers,fun k u hk=>?_⟩;unfold get at hk;split at hk
 ·rename_i hb;have:=F8 hb;subst this;obtain rfl:=A5 hk;have:d<a.tmps.size:=by rw [h.size];exact hd'
  simp [Act.put,this]
 ·rename_i hb;have hne:d≠k:=fun e=>by subst e;simp at hb
  have:=h.slot k u hk;simp only [Act.put];simp_all
theorem Sat.none {n:Sh} {e:Env} {a:Act} (h:Sat n e a) (v:Value):Sat n e (a.put none v):=h
def ev (e:Env):Operand→Option Value
 | .tmp t=>get e t
 | .const v=>some v
 | .global g=>some (.pointer (some ⟨g,0,Option.none⟩))
 | .func f=>some (.func (.func f) #[] #[])
theorem Sat.ev {n:Sh} {e:Env} {a:Act} (h:Sat n e a) {x:Operand} {v:Value} (hx:ev e x=some v):a.eval x=v:=by
 cases x with
 | tmp t=>exact h.slot t v hx
 | const u=>exact A5 hx
 | global g=>exact A5 hx
 | func f=>exact A5 hx
def evs (e:Env):List Operand→Option (List Value)
 | []=>some []
 | x::r=>match Esp.ev e x,evs e r with
  | some v,some vs=>some (v::vs)
  | _,_=>Option.none
theorem Sat.evs {n:Sh} {e:Env} {a:Act} (h:Sat n e a):∀ {xs:List Operand} {vs:List Value},Esp.evs e xs=some vs→xs.map a.eval=vs
 | [],vs,hx=>by simpa [Esp.evs] using hx
 | x::r,vs,hx=>by
  unfold Esp.evs at hx;split at hx
  ·rename_i v vs' hv hvs;obtain rfl:=A5 hx;rw [D3,h.ev hv,h.evs hvs]
  ·cases hx
def want (ops:Array Oper) (e:Env):Option (Nat×Bool)→Option Bool
 | Option.none=>some true
 | some (g,b)=>match (ops[g]?).bind (·.dst) with
  | some d=>match get e d with
   | some (.bool c)=>some (c == b)
   | some (.tuple _)=>some false
   | _=>Option.none
  | Option.none=>Option.none
theorem Sat.want {n:Sh} {e:Env} {a:Act} (h:Sat n e a) {ops:Array Oper} {o:Oper} {b:Bool} (hw:Esp.want ops e o.guard=some b) :
 Region.wanted o (yielded ops a.tmps)=b:=by
 unfold Region.wanted;cases hg:o.guard with
 | none=>rw [hg] at hw;simpa [Esp.want] using hw
 | some gb =>
  obtain ⟨g,c⟩:=gb;rw [hg] at hw;simp only [Esp.want] at hw;split at hw
  ·rename_i d hd;split at hw
   ·rename_i c' hc';have hs:=h.slot d _ hc';have hlt:d<a.tmps.size:=by
     rcases C7 d a.tmps.size with h'|h'
     ·exact h'
     ·simp [h',undef] at hs
    have:yielded ops a.tmps g=some c':=by
     unfold yielded;rw [hd];simp [hlt] at hs ⊢;rw [hs]
    simp only [this];obtain rfl:=A5 hw;cases c' <;> cases c <;> rfl
   ·rename_i ts hc';have hs:=h.slot d _ hc';have:yielded ops a.tmps g=Option.none:=by
     unfold yielded;rw [hd];rcases C7 d a.tmps.size with h'|h'
     ·simp [h'] at hs ⊢;rw [hs]
     ·simp [h']
    simp only [this];obtain rfl:=A5 hw;cases c <;> rfl
   ·cases hw
  ·cases hw
inductive Upd (b:Nat) (o o':Obj):Hp→Hp→Prop
  | head {H:Hp}:Upd b o o' ((b,o)::H) ((b,o')::H)
  | tail {x:Nat×Obj} {H H':Hp}:Upd b o o' H H'→Upd b o o' (x::H) (x::H')
theorem Upd.mem {b:Nat} {o o':Obj} {H H':Hp} (h:Upd b o o' H H'):(b,o)∈H:=by
 induction h with
 | head=>exact .head _
 | tail _ ih=>exact .tail _ ih
theorem Upd.keys {b:Nat} {o o':Obj} {H H':Hp} (h:Upd b o o' H H'):H'.map Prod.fst=H.map Prod.fst:=by
 induction h with
 | head=>rfl
 | tail _ ih=>simp [ih]
theorem Upd.mem' {b:Nat} {o o':Obj} {H H':Hp} (h:Upd b o o' H H') (hn:(H.map Prod.fst).Nodup):∀ c x,(c,x)∈H'→(c=b∧x=o')∨(c≠b∧(c,x)∈H):=by
 induction h with
 | head =>
  intro c x hc;have hn':=D9.1 hn;rcases B7.1 hc with e|hc
  ·cases e;exact .inl ⟨rfl,rfl⟩
  ·refine .inr ⟨fun e=>hn'.1 ?_,.tail _ hc⟩;rw [e] at hc;exact C0.2 ⟨(b,x),hc,rfl⟩
 | @tail y H H' hu ih =>
  intro c x hc;have hn':=D9.1 hn;rcases B7.1 hc with e|hc
  ·subst e;refine .inr ⟨fun e=>hn'.1 ?_,.head _⟩;have:=hu.mem;rw [e];exact C0.2 ⟨(b,o),this,rfl⟩
  ·rcases ih hn'.2 c x hc with h|⟨h1,h2⟩
   ·exact .inl h
   ·exact .inr ⟨h1,.tail _ h2⟩
theorem St.upd {M:Mem} {H H':Hp} {w w':World} {b:Nat} {o o':Obj} (h:St M H w) (hu:Upd b o o' H H') (hb:w'.heap[b]?=some o') (hk:∀ c,c≠b→∀ x,w.heap[c]?=some x→w'.heap[c]?=some x) (hio:SameIO w w'):St M H' w':=by
 have hM:=h.sep b o hu.mem;refine ⟨fun c x hc=>hk c (fun e=>by subst e;rw [hM] at hc;cases hc) x (h.mem c x hc),fun c x hc=>?_,fun c x hc=>?_,by rw [hu.keys];exact h.nodup,hio.io h.io⟩
 ·rcases hu.mem' h.nodup c x hc with ⟨rfl,rfl⟩|⟨h1,h2⟩
  ·exact hb
  ·exact hk c h1 x (h.own c x h2)
 ·rcases hu.mem' h.nodup c x hc with ⟨rfl,rfl⟩|⟨h1,h2⟩
  ·exact hM
  ·exact h.sep c x h2
def Fn (P:Program) (f:FuncId) (vs:List Value) (M:Mem) (R:Mem→Value→Prop):Prop :=
 ∀ H w,St M H w→Calls P f vs.toArray w fun e w'=>∃ v M',e=.returned v∧M.le M'∧St M' H w'∧R M' v
def Fs (P:Program) (f:FuncId) (vs:List Value) (M:Mem) (R:Value→Prop):Prop :=
 ∀ H w,St M H w→Calls P f vs.toArray w fun e w'=>∃ v,e=.returned v∧St M H w'∧R v
def Fh (P:Program) (f:FuncId) (vs:List Value) (M:Mem) (Hin:Hp) (R:Mem→Value→Hp→Prop):Prop :=
 ∀ H w,St M (Hin++H) w→Calls P f vs.toArray w fun e w'=>∃ v M' Hout,e=.returned v∧M.le M'∧St M' (Hout++H) w'∧R M' v Hout
def NE (P:Program):Op→Cls
 | .move _ | .assign _ | .pick .. | .nilCheck _ | .unOp .. | .fieldAddr .. | .field .. | .indexAddr .. | .index .. | .extract .. | .slice .. | .build .. | .makeInterface .. | .makeFunc ..=>.pure
 | .binOp op ..=>match op with
  | .eql | .neq=>.read
  | _=>.pure
 | .convert src dst _=>match P.underlying src,P.underlying dst with
  | some (.int _),some (.int _)=>.pure
  | some .string,some .string=>.pure
  | some (.slice _),some .string=>.read
  | _,_=>.wr
 | .load .. | .lookup .. | .typeAssert .. | .entry _=>.read
 | .call c=>match c.callee with
  | .builtin b=>match b with
   | .len | .cap | .min | .max=>.read
   | _=>.wr
  | _=>.eff
 | .alloc _ | .box .. | .buildSlice .. | .makeMap .. | .makeSlice ..=>.new
 | _=>.wr
def Tu (P:Program) (ws:List Nat) (ops:Array Oper) (i:Nat):Cls :=
 match ops[i]? with
 | some o=>match NE P o.op with
  | .eff=>match ws.contains i with
   | true=>.wr
   | false=>.eff
  | .wr=>match ws.contains i with
   | true=>.eff
   | false=>.wr
  | .read=>match ws.contains i with
   | true=>.eff
   | false=>.read
  | c=>c
 | Option.none=>.pure
def XD (P:Program) (n:Sh) (ops:Array Oper) (Q:Exit→Act→World→Prop) (l:List Nat) (J:World→Prop) (A:As) (e:Env):Prop :=
 (∀ u,A.st u→J u)→∀ a,Sat n e a→WD P ops (Tu P n.wrs ops) Q l J A a
theorem Te {P:Program} {ro:Option Nat} {ops:Array Oper} {cl:Nat→Cls} {Q:Exit→Act→World→Prop}:∀ (l:List Nat) (J:World→Prop) (A:As) (a:Act) (w:World),(∀ u,A.st u→J u)→A.st w→WD P ops cl Q l J A a→wpOpsIn (Fr ro) 0 P ops Q l a w
 | [],_,_,_,w,_,hw,h=>h w hw
 | i::rest,J,A,a,w,hSJ,hw,h=>by
  obtain ⟨o,ho,h⟩:=h;rw [wpOpsIn_cons];unfold wpOpIn;simp only [ho];rcases h with ⟨hwt,hk⟩|⟨hwt,hk⟩
  ·simp only [hwt,Bool.false_eq_true,if_false];exact ⟨fun _ _=>trivial,Te rest J A _ w hSJ hw hk⟩
  ·simp only [hwt,if_true];cases hcl:cl i <;> simp only [hcl] at hk
   ·obtain ⟨v,hv,hk⟩:=hk;exact Runs.wpIn (hv w) (Te rest J A _ w hSJ hw hk)
   ·obtain ⟨v,hv,hk⟩:=hk;exact Runs.wpIn (hv w (hSJ w hw)) (Te rest J A _ w hSJ hw hk)
   ·exact Oper.wpIn_of_does (Oper.does_mono (fun v w' ⟨A',s1,s2,hk⟩=>Te rest J A' _ w' s2 s1 hk) (hk [] w hw))
   ·exact Oper.wpIn_of_does (Oper.does_mono (fun v w' ⟨J',A',s1,s2,hk⟩=>Te rest J' A' _ w' s2 s1 hk) (hk w hw))
   ·obtain ⟨xo,gx,hxo,hk⟩:=hk;have hn:St A.M ((w.heap.size,xo)::A.H) (w.alloc xo):=St.alloc hw xo;exact Oper.wpIn_of_does (hxo.does (Te rest J ⟨A.M,(w.heap.size,xo)::A.H⟩ _ _ (fun u hu=>hSJ u (St.tail hu)) hn (hk _ ⟨_,hn⟩)))
def C (P:Program) (n:Sh) (c:Code) (Q:Exit→Act→World→Prop) (S:World→Prop) (e:Env):Prop :=
 ∀ a w,Sat n e a→S w→c.wpIn (Fr n.ro) 0 P Q a w
def K (n:Sh) (Q:Exit→Act→World→Prop) (x:Exit) (S:World→Prop) (e:Env):Prop :=
 ∀ a w,Sat n e a→S w→Q x a w
section
variable {P:Program} {n:Sh} {ops:Array Oper} {Q:Exit→Act→World→Prop} {rest:List Nat} {M M':Mem} {H H':Hp} {e:Env} {J S:World→Prop} {A:As} {i:Nat}
  {dst:Option Tmp} {d:Tmp} {op:Op} {ty:TypeId} {pos:String} {af:Array Edge} {gd:Option (Nat×Bool)}
theorem Zap {id:Nat} {l:List Nat} (hl:List.range ops.size=l) (h:XD P n ops Q l (St M H) ⟨M,H⟩ e):C P n (.region id ops false) Q (St M H) e :=
 fun a w ha hw=>wpIn_region (Te _ (St M H) ⟨M,H⟩ a w (fun _ h=>h) hw (hl ▸ h (fun _ h=>h) a ha))
theorem Ya {id:Nat} {l:List Nat} (B:Array Nat) (J:World→Prop) (hl:List.range ops.size=l) (hm:P.follows .mixedOrders=true) (hok:Ri ops (Tu P n.wrs ops) B=true)
 (hdr:∀ w:World,St M H w→St M H { w with drawn:=w.drawn+1 }) (hJ:∀ u,St M H u→J u) (h:XD P n ops Q l J ⟨M,H⟩ e):C P n (.region id ops true) Q (St M H) e :=
 fun a w ha hw=>Lx (A:=⟨M,H⟩) hm hok hJ (hdr w hw) (hl ▸ h hJ a ha)
theorem Xj {m:Nat} {ds:List Deferred} {ro:Option Nat} {ws:List Nat} {x:Exit} (h:K ⟨m,ds,ro,[]⟩ Q x S e):K ⟨m,ds,ro,ws⟩ Q x S e:=fun a w ha hw=>h a w ⟨ha.size,ha.defers,ha.slot⟩ hw
theorem UF {m:Nat} {ds:List Deferred} {ro:Option Nat} {id:Nat} {l:List Nat} (ws:List Nat) (B:Array Nat) (J:World→Prop) (hl:List.range ops.size=l) (hm:P.follows .mixedOrders=true) (hok:Ri ops (Tu P ws ops) B=true)
 (hdr:∀ w:World,St M H w→St M H { w with drawn:=w.drawn+1 }) (hJ:∀ u,St M H u→J u) (h:XD P ⟨m,ds,ro,ws⟩ ops Q l J ⟨M,H⟩ e):C P ⟨m,ds,ro,[]⟩ (.region id ops true) Q (St M H) e :=
 fun a w ha hw=>Lx (A:=⟨M,H⟩) hm hok hJ (hdr w hw) (hl ▸ h hJ a ⟨ha.size,ha.defers,ha.slot⟩)
theorem St.drawn (w:World) (h:St M H w):St M H { w with drawn:=w.drawn+1 }:=h.heap rfl ⟨rfl,rfl,rfl,Nat.le_succ _⟩
theorem Zaj (h:K n Q .normal (St M H) e):XD P n ops Q [] J ⟨M,H⟩ e:=fun _ a ha w hw=>h a w ha hw
theorem VA {o:Oper} (hi:ops[i]?=some o) (hc:NE P o.op=.pure) (hg:want ops e o.guard=some true) {v:Value}
 (hv:∀ a w,Sat n e a→Runs P o a w v) {e':Env} (he:∀ a,Sat n e a→Sat n e' (a.put o.dst v))
 (hk:XD P n ops Q rest J A e'):XD P n ops Q (i::rest) J A e:=by
 intro hSJ a ha;refine ⟨o,hi,.inr ⟨ha.want hg,?_⟩⟩;have hcl:Tu P n.wrs ops i=.pure:=by simp [Tu,hi,hc]
 rw [hcl];exact ⟨v,fun w=>hv a w ha,hk hSJ _ (he a ha)⟩
theorem UB {o:Oper} (hi:ops[i]?=some o) (hc:NE P o.op=.read) (hg:want ops e o.guard=some true) {v:Value}
 (hv:∀ a w,Sat n e a→J w→Runs P o a w v) {e':Env} (he:∀ a,Sat n e a→Sat n e' (a.put o.dst v))
 (hk:XD P n ops Q rest J A e'):XD P n ops Q (i::rest) J A e:=by
 intro hSJ a ha;refine ⟨o,hi,.inr ⟨ha.want hg,?_⟩⟩;have hcl:Tu P n.wrs ops i=.read∨Tu P n.wrs ops i=.eff:=by
  cases hw:n.wrs.contains i
  ·exact .inl (by simp only [Tu,hi,hc,hw])
  ·exact .inr (by simp only [Tu,hi,hc,hw])
 rcases hcl with hcl|hcl <;> rw [hcl]
 ·exact ⟨v,fun w hw=>hv a w ha hw,hk hSJ _ (he a ha)⟩
 ·intro F w hw;exact (hv a w ha (hSJ w hw.unframe)).does ⟨A,hw,hSJ,hk hSJ _ (he a ha)⟩
theorem Zup {o:Oper} (hi:ops[i]?=some o) (hc:NE P o.op=.read) (hws:n.wrs.contains i=true) (hg:want ops e o.guard=some true) {v:Value}
 (hv:∀ a w,Sat n e a→A.st w→Runs P o a w v) {e':Env} (he:∀ a,Sat n e a→Sat n e' (a.put o.dst v))
 (hk:XD P n ops Q rest J A e'):XD P n ops Q (i::rest) J A e:=by
 intro hSJ a ha;refine ⟨o,hi,.inr ⟨ha.want hg,?_⟩⟩;have hcl:Tu P n.wrs ops i=.eff:=by simp only [Tu,hi,hc,hws]
 rw [hcl];intro F w hw;exact (hv a w ha hw.unframe).does ⟨A,hw,hSJ,hk hSJ _ (he a ha)⟩
theorem Zag {o:Oper} {x:Obj} {g:Nat→Value} (hi:ops[i]?=some o) (hc:NE P o.op=.new) (hg:want ops e o.guard=some true) (hx:∀ a,Sat n e a→News P o a x g)
 {e':Nat→Env} (he:∀ a b,Sat n e a→Sat n (e' b) (a.put o.dst (g b))) (hk:∀ b,XD P n ops Q rest J ⟨M,(b,x)::H⟩ (e' b)):XD P n ops Q (i::rest) J ⟨M,H⟩ e:=by
 intro hSJ a ha;refine ⟨o,hi,.inr ⟨ha.want hg,?_⟩⟩;have hcl:Tu P n.wrs ops i=.new:=by simp [Tu,hi,hc]
 rw [hcl];exact ⟨x,g,hx a ha,fun b _=>hk b (fun u hu=>hSJ u (St.tail hu)) _ (he a b ha)⟩
theorem Zxv {o:Oper} {x:Obj} (hi:ops[i]?=some o) (hc:NE P o.op=.new) (hg:want ops e o.guard=some true) (hx:∀ a,Sat n e a→News P o a x (fun b=>.pointer (some ⟨b,0,Option.none⟩)))
 {e':Nat→Env} (he:∀ a b,Sat n e a→Sat n (e' b) (a.put o.dst (.pointer (some ⟨b,0,Option.none⟩)))) (hk:∀ b,XD P n ops Q rest J ⟨M,(b,x)::H⟩ (e' b)):XD P n ops Q (i::rest) J ⟨M,H⟩ e :=
 Zag hi hc hg hx he hk
theorem Zai {o:Oper} (hi:ops[i]?=some o) (hc:NE P o.op=.eff) (hg:want ops e o.guard=some true)
 (hk:(∀ u,A.st u→J u)→∀ a F w,Sat n e a→St A.M (F++A.H) w→Oper.does P o a w fun v w'=>∃ (A':As) (e':Env),St A'.M (F++A'.H) w'∧(∀ u,A'.st u→J u)∧Sat n e' (a.put o.dst v)∧XD P n ops Q rest J A' e') :
 XD P n ops Q (i::rest) J A e:=by
 intro hSJ a ha;refine ⟨o,hi,.inr ⟨ha.want hg,?_⟩⟩;have hcl:Tu P n.wrs ops i=.eff∨Tu P n.wrs ops i=.wr:=by
  cases hw:n.wrs.contains i
  ·exact .inl (by simp only [Tu,hi,hc,hw])
  ·exact .inr (by simp only [Tu,hi,hc,hw])
 rcases hcl with hcl|hcl <;> rw [hcl]
 ·intro F w hw;exact Oper.does_mono (fun v w' ⟨A',e',h1,h2,h3,h4⟩=>⟨A',h1,h2,h4 h2 _ h3⟩) (hk hSJ a F w ha hw)
 ·intro w hw;exact Oper.does_mono (fun v w' ⟨A',e',h1,h2,h3,h4⟩=>⟨J,A',h1,h2,h4 h2 _ h3⟩) (hk hSJ a [] w ha hw)
theorem Zdx {o:Oper} (hi:ops[i]?=some o) (hc:NE P o.op=.eff) (hg:want ops e o.guard=some true)
 (hk:∀ a F w,Sat n e a→St A.M (F++A.H) w→Oper.does P o a w fun v w'=>∃ (A':As) (e':Env),St A'.M (F++A'.H) w'∧(∀ u,A'.st u→A.st u)∧Sat n e' (a.put o.dst v)∧XD P n ops Q rest J A' e') :
 XD P n ops Q (i::rest) J A e :=
 Zai hi hc hg (fun hSJ a F w ha hw=>Oper.does_mono (fun v w' ⟨A',e',h1,h2,h3,h4⟩=>⟨A',e',h1,fun u hu=>hSJ u (h2 u hu),h3,h4⟩) (hk a F w ha hw))
theorem DU {o:Oper} (hi:ops[i]?=some o) (hc:NE P o.op=.eff) (hws:n.wrs.contains i=true) (hg:want ops e o.guard=some true)
 (hk:∀ a w,Sat n e a→A.st w→Oper.does P o a w fun v w'=>∃ (A':As) (e':Env),A'.st w'∧Sat n e' (a.put o.dst v)∧XD P n ops Q rest A'.st A' e') :
 XD P n ops Q (i::rest) J A e:=by
 intro hSJ a ha;refine ⟨o,hi,.inr ⟨ha.want hg,?_⟩⟩;have hcl:Tu P n.wrs ops i=.wr:=by simp only [Tu,hi,hc,hws]
 rw [hcl];intro w hw;exact Oper.does_mono (fun v w' ⟨A',e',h1,h3,h4⟩=>⟨A'.st,A',h1,fun _ h=>h,h4 (fun _ h=>h) _ h3⟩) (hk a w ha hw)
theorem SK {o:Oper} (hi:ops[i]?=some o) (hc:NE P o.op=.wr) (hg:want ops e o.guard=some true)
 (hk:∀ a w,Sat n e a→A.st w→Oper.does P o a w fun v w'=>∃ (A':As) (e':Env),A'.st w'∧Sat n e' (a.put o.dst v)∧XD P n ops Q rest A'.st A' e') (hnw:n.wrs.contains i=false) :
 XD P n ops Q (i::rest) J A e:=by
 intro hSJ a ha;refine ⟨o,hi,.inr ⟨ha.want hg,?_⟩⟩;have hcl:Tu P n.wrs ops i=.wr:=by simp only [Tu,hi,hc,hnw]
 rw [hcl];intro w hw;exact Oper.does_mono (fun v w' ⟨A',e',h1,h3,h4⟩=>⟨A'.st,A',h1,fun _ h=>h,h4 (fun _ h=>h) _ h3⟩) (hk a w ha hw)
theorem Zxw {o:Oper} (hi:ops[i]?=some o) (hc:NE P o.op=.wr) (hws:n.wrs.contains i=true) (hg:want ops e o.guard=some true)
 (hk:∀ a F w,Sat n e a→St A.M (F++A.H) w→Oper.does P o a w fun v w'=>∃ (A':As) (e':Env),St A'.M (F++A'.H) w'∧(∀ u,A'.st u→J u)∧Sat n e' (a.put o.dst v)∧XD P n ops Q rest J A' e') :
 XD P n ops Q (i::rest) J A e:=by
 intro hSJ a ha;refine ⟨o,hi,.inr ⟨ha.want hg,?_⟩⟩;have hcl:Tu P n.wrs ops i=.eff:=by simp only [Tu,hi,hc,hws]
 rw [hcl];intro F w hw;exact Oper.does_mono (fun v w' ⟨A',e',h1,h2,h3,h4⟩=>⟨A',h1,h2,h4 h2 _ h3⟩) (hk a F w ha hw)
theorem Zxs (hi:ops[i]?=some ⟨some d,op,ty,pos,af,gd⟩) (hg:want ops e gd=some false) (hd:Nat.ble (d+1) n.sz=true)
 (hk:XD P n ops Q rest J A ((d,undef)::e)):XD P n ops Q (i::rest) J A e:=by
 intro hSJ a ha;exact ⟨_,hi,.inl ⟨ha.want hg,hk hSJ _ (ha.put hd undef)⟩⟩
theorem Zuo (hi:ops[i]?=some ⟨Option.none,op,ty,pos,af,gd⟩) (hg:want ops e gd=some false)
 (hk:XD P n ops Q rest J A e):XD P n ops Q (i::rest) J A e:=by
 intro hSJ a ha;exact ⟨_,hi,.inl ⟨ha.want hg,hk hSJ _ (ha.none undef)⟩⟩
theorem Sat.more {a:Act} (ha:Sat n e a) {s:Nat} {v:Value} (hs:get e s=some v):Sat n ((s,v)::e) a :=
 ⟨ha.size,ha.defers,fun k u hk=>by
  unfold get at hk;split at hk
  ·rename_i hb;have:=F8 hb;subst this;obtain rfl:=A5 hk;exact ha.slot _ _ hs
  ·exact ha.slot _ _ hk⟩
theorem BF (s:Nat) {c:Bool} (hs:get e s=some (.bool c)) (ht:c=true→XD P n ops Q rest J A ((s,.bool true)::e)) (hf:c=false→XD P n ops Q rest J A ((s,.bool false)::e)) :
 XD P n ops Q rest J A e:=by
 intro hSJ a ha;cases c with
 | true=>exact ht rfl hSJ a (ha.more hs)
 | false=>exact hf rfl hSJ a (ha.more hs)
theorem Xs (s:Nat) {u v:Value} (hs:get e s=some u) (h:u=v) (hk:XD P n ops Q rest J A ((s,v)::e)):XD P n ops Q rest J A e:=by
 intro hSJ a ha;exact hk hSJ a (ha.more (h ▸ hs))
theorem Zfl {o:Oper} {a:Act} {w:World} {v:Value} (h:execOp a.eval o=pure (.value v)):Runs P o a w v:=by
 unfold Runs;rw [h];exact .inl rfl
theorem Zro {x:Operand} {v:Value} (hi:ops[i]?=some ⟨some d,.move x,ty,pos,af,gd⟩) (hg:want ops e gd=some true) (hx:ev e x=some v) (hd:Nat.ble (d+1) n.sz=true)
 (hk:XD P n ops Q rest J A ((d,v)::e)):XD P n ops Q (i::rest) J A e :=
 VA hi rfl hg (fun a w ha=>Zfl (by simp [execOp,ha.ev hx])) (fun a ha=>ha.put hd v) hk
theorem Zpz {x:Operand} {v:Value} (hi:ops[i]?=some ⟨some d,.assign x,ty,pos,af,gd⟩) (hg:want ops e gd=some true) (hx:ev e x=some v) (hd:Nat.ble (d+1) n.sz=true)
 (hk:XD P n ops Q rest J A ((d,v)::e)):XD P n ops Q (i::rest) J A e :=
 VA hi rfl hg (fun a w ha=>Zfl (by simp [execOp,ha.ev hx])) (fun a ha=>ha.put hd v) hk
theorem Zxu {c x y:Operand} {b:Bool} {v:Value} (hi:ops[i]?=some ⟨some d,.pick c x y,ty,pos,af,gd⟩) (hg:want ops e gd=some true) (hc:ev e c=some (.bool b)) (hx:ev e (if b then x else y)=some v) (hd:Nat.ble (d+1) n.sz=true)
 (hk:XD P n ops Q rest J A ((d,v)::e)):XD P n ops Q (i::rest) J A e :=
 VA hi rfl hg (fun a w ha=>.inl (by cases b <;> simp [execOp,ha.ev hc,asBool] <;> simp at hx <;> rw [ha.ev hx] <;> rfl)) (fun a ha=>ha.put hd v) hk
end
end Go.Esp
namespace Go.Esp
inductive Seg where
  | one (v:Value)
  | arr (n:Nat) (f:Vector Value n)
def Seg.len:Seg→Nat
 | .one _=>1
 | .arr n _=>n
def Seg.cells:Seg→List Value
 | .one v=>[v]
 | .arr _ f=>f.toList
theorem Seg.cells_length (s:Seg):s.cells.length=s.len:=by cases s <;> simp [Seg.cells,Seg.len]
abbrev Segs:=List Seg
def Segs.len:Segs→Nat
 | []=>0
 | s::r=>s.len+Segs.len r
def Segs.cells:Segs→List Value
 | []=>[]
 | s::r=>s.cells++Segs.cells r
theorem Segs.cells_length:∀ r:Segs,(Segs.cells r).length=Segs.len r
 | []=>rfl
 | s::r=>by simp [Segs.cells,Segs.len,Segs.cells_length r,Seg.cells_length]
theorem Segs.cells_append:∀ r s:Segs,Segs.cells (r++s)=Segs.cells r++Segs.cells s
 | [],s=>rfl
 | x::r,s=>by simp [Segs.cells,Segs.cells_append r s]
theorem Segs.len_append:∀ r s:Segs,Segs.len (r++s)=Segs.len r+Segs.len s
 | [],s=>by simp [Segs.len]
 | x::r,s=>by simp [Segs.len,Segs.len_append r s];omega
def Segs.take:Segs→Nat→Option Segs
 | _,0=>some []
 | [],_+1=>none
 | s::r,n+1=>match Nat.ble s.len (n+1),s.len with
  | true,k+1=>match Segs.take r (n+1-(k+1)) with
   | some t=>some (s::t)
   | none=>none
  | _,_=>none
def Segs.drop:Segs→Nat→Option Segs
 | r,0=>some r
 | [],_+1=>none
 | s::r,n+1=>match Nat.ble s.len (n+1),s.len with
  | true,k+1=>Segs.drop r (n+1-(k+1))
  | _,_=>none
def Segs.sub (r:Segs) (off n:Nat):Option Segs:=match r.drop off with
 | some t=>t.take n
 | none=>none
theorem Segs.take_spec:∀ {r t:Segs} {n:Nat},Segs.take r n=some t→∃ u,r=t++u∧Segs.len t=n
 | r,t,0,h=>by
  have e:t=[]:=by cases r <;> simp_all [Segs.take]
  subst e;exact ⟨r,rfl,rfl⟩
 | [],t,n+1,h=>by simp [Segs.take] at h
 | s::r,t,n+1,h=>by
  unfold Segs.take at h;split at h
  ·rename_i k hb hk;split at h
   ·rename_i t' ht';obtain rfl:=A5 h;obtain ⟨u,hu,hl⟩:=Segs.take_spec ht';have:=D1 hb;exact ⟨u,by simp [← hu],by simp [Segs.len,hl];omega⟩
   ·cases h
  ·cases h
theorem Segs.drop_spec:∀ {r t:Segs} {n:Nat},Segs.drop r n=some t→∃ u,r=u++t∧Segs.len u=n
 | r,t,0,h=>by
  have e:t=r:=by cases r <;> simp_all [Segs.drop]
  subst e;exact ⟨[],rfl,rfl⟩
 | [],t,n+1,h=>by simp [Segs.drop] at h
 | s::r,t,n+1,h=>by
  unfold Segs.drop at h;split at h
  ·rename_i k hb hk;obtain ⟨u,hu,hl⟩:=Segs.drop_spec h;have:=D1 hb;exact ⟨s::u,by simp [hu],by simp [Segs.len,hl];omega⟩
  ·cases h
theorem Segs.sub_spec {r t:Segs} {off n:Nat} (h:Segs.sub r off n=some t):∃ p q,r=p++(t++q)∧Segs.len p=off∧Segs.len t=n:=by
 unfold Segs.sub at h;split at h
 ·rename_i t' ht';obtain ⟨p,hp,hpl⟩:=Segs.drop_spec ht';obtain ⟨q,hq,hql⟩:=Segs.take_spec h;grind
 ·cases h
theorem Segs.sub_cells {r t:Segs} {off n:Nat} (h:Segs.sub r off n=some t):((Segs.cells r).drop off).take n=Segs.cells t∧off+n≤Segs.len r:=by
 obtain ⟨p,q,rfl,rfl,rfl⟩:=Segs.sub_spec h;rw [Segs.cells_append,Segs.cells_append,← Segs.cells_length p,← Segs.cells_length t];constructor
 ·simp
 ·simp [Segs.len_append,Segs.cells_length]
def Segs.put:Segs→Nat→Segs→Option Segs
 | r,0,t=>match Segs.drop r (Segs.len t) with
  | some u=>some (t++u)
  | none=>none
 | [],_+1,_=>none
 | s::r,n+1,t=>match Nat.ble s.len (n+1),s.len with
  | true,k+1=>match Segs.put r (n+1-(k+1)) t with
   | some u=>some (s::u)
   | none=>none
  | _,_=>none
theorem Segs.put_spec:∀ {r t u:Segs} {off:Nat},Segs.put r off t=some u→∃ p q m,r=p++(m++q)∧u=p++(t++q)∧Segs.len p=off∧Segs.len m=Segs.len t
 | r,t,u,0,h=>by
  have h':(match Segs.drop r (Segs.len t) with|some u=>some (t++u)|none=>none)=some u:=by
   cases r <;> simpa [Segs.put] using h
  split at h'
  ·rename_i q hq;obtain rfl:=A5 h';obtain ⟨m,hm,hl⟩:=Segs.drop_spec hq;exact ⟨[],q,m,by simpa using hm,rfl,rfl,hl⟩
  ·cases h'
 | [],t,u,n+1,h=>by simp [Segs.put] at h
 | s::r,t,u,n+1,h=>by
  unfold Segs.put at h;split at h
  ·rename_i k hb hk;split at h
   ·rename_i u' hu';obtain rfl:=A5 h;obtain ⟨p,q,m,e1,e2,e3,e4⟩:=Segs.put_spec hu';have:=D1 hb;exact ⟨s::p,q,m,by simp [e1],by simp [e2],by simp [Segs.len,e3];omega,e4⟩
   ·cases h
  ·cases h
def WX (r:Segs):Value:=.agg (Segs.cells r).toArray
theorem VV {r:Segs} {n:Nat} (h:Segs.len r=n):(WX r).cells.size=n:=by
 show (Segs.cells r).toArray.size=n;simp [Segs.cells_length,h]
inductive Parts:Value→Segs→Prop
  | agg (r:Segs):Parts (WX r) r
  | bool (b:Bool):Parts (.bool b) [.one (.bool b)]
  | int (k:IntKind) (n:Int):Parts (.int k n) [.one (.int k n)]
  | string (s:ByteArray):Parts (.string s) [.one (.string s)]
  | pointer (a:Option Addr):Parts (.pointer a) [.one (.pointer a)]
  | slice (a:Option Addr) (l c:Nat):Parts (.slice a l c) [.one (.slice a l c)]
  | map (r:Option Nat):Parts (.map r) [.one (.map r)]
  | func (fn:Go.Fn) (f c:Array Value):Parts (.func fn f c) [.one (.func fn f c)]
  | nilFunc:Parts .nilFunc [.one .nilFunc]
  | iface (t:TypeId) (v:Value):Parts (.iface t v) [.one (.iface t v)]
  | nilIface:Parts .nilIface [.one .nilIface]
theorem Parts.cells {v:Value} {r:Segs} (h:Parts v r):v.cells=(Segs.cells r).toArray:=by cases h <;> rfl
def flat (r:Segs):Prop:=∀ u∈Segs.cells r,u.oneCell'=true
def Sp (agg:Bool) (r:Segs):Option Value:=match agg,r with
 | true,r=>some (WX r)
 | false,[.one v]=>some v
 | _,_=>none
def BA:TypeDesc→Bool
 | .struct _=>true
 | .array _ _=>true
 | _=>false
def lay (P:Program) (t:TypeId):Option (Bool×Nat):=match P.underlying t,P.info? t with
 | some d,some i=>some ((BA d),i.size)
 | _,_=>none
def Zjb (P:Program) (s:TypeId) (f:Nat):Option Nat:=match P.underlying s with
 | some (.struct fs)=>match fs[f]? with
  | some fd=>match P.info? fd.type with
   | some i=>if i.size=0 then none else some fd.offset
   | none=>none
  | none=>none
 | _=>none
def Na (P:Program) (t:TypeId):Option (TypeId×Nat×Nat):=match P.underlying t with
 | some (.slice el)=>match P.info? el with
  | some i=>some (el,i.size,i.bytes)
  | none=>none
 | _=>none
def XP (P:Program) (t:TypeId):Option Value:=match P.info? t with
 | some i=>i.zero
 | none=>none
theorem Zja {P:Program} {s f off:Nat} (h:Zjb P s f=some off):∃ fs fd i,P.underlying s=some (.struct fs)∧fs[f]?=some fd∧P.info? fd.type=some i∧i.size≠0∧fd.offset=off:=by
 unfold Zjb at h;grind
theorem OH {P:Program} {t:TypeId} {b:Bool} {n:Nat} (h:lay P t=some (b,n)):∃ d i,P.underlying t=some d∧P.info? t=some i∧i.size=n∧(BA d)=b:=by
 unfold lay at h;grind
theorem Wq {P:Program} {t el sz by_:Nat} (h:Na P t=some (el,sz,by_)):∃ i,P.underlying t=some (.slice el)∧P.info? el=some i∧i.size=sz∧i.bytes=by_:=by
 unfold Na at h;grind
section sem
variable {P:Program} {w:World}
theorem ZY {α β:Type} {x:Sem α} {f:α→Sem β} {a:α} {w w':World} (h:x.run P w=.ok a w'):(x >>= f).run P w=(f a).run P w':=by
 rw [Sem.run_bind,h];rfl
theorem YP {t:TypeId} {d:TypeDesc} (h:P.underlying t=some d):(underlying t).run P w=.ok d w:=by
 simp [Go.underlying,h]
theorem Th {t:TypeId} {i:TypeInfo} (h:P.info? t=some i):(sizeOf t).run P w=.ok i.size w:=by
 simp [Go.sizeOf,Go.typeInfo,h]
theorem Et {t:TypeId} {d:TypeDesc} (h:P.underlying t=some d):(isAgg t).run P w=.ok (BA d) w:=by
 unfold Go.isAgg;rw [Sem.run_bind,YP h,Result.andThen_ok];cases d <;> rfl
theorem Qn {b off:Nat} {c:Array Value} {T:TypeId} {fz:Nat×Nat} (hb:w.heap[b]?=some (.cells c T fz)):w.cell? ⟨b,off,none⟩=c[off]?:=by
 simp [World.cell?,hb]
theorem LE {b off n:Nat} {agg:Bool} {c:Array Value} {T t:TypeId} {fz:Nat×Nat} {r:Segs} {v:Value} (hb:w.heap[b]?=some (.cells c T fz)) (hl:lay P t=some (agg,n))
 (hx:(c.toList.drop off).take n=Segs.cells r) (hn:Segs.len r=n) (hr:Sp agg r=some v):(loadVar t ⟨b,off,none⟩).run P w=.ok v w:=by
 obtain ⟨d,i,hd,hi,hsz,hag⟩:=OH hl;have hlen:(Segs.cells r).length=n:=by rw [Segs.cells_length,hn]
 have hcell:∀ j v,(Segs.cells r)[j]?=some v→w.cell? ((⟨b,off,none⟩:Addr).add j)=some v:=by
  intro j v hj;rw [Addr.add_lit,Qn hb];rw [← hx,I1,List.getElem?_drop] at hj;split at hj
  ·simpa using hj
  ·cases hj
 unfold loadVar;rw [Sem.run_bind,Et hd,Result.andThen_ok,hag];cases agg with
 | true =>
  simp only [Sp,G1] at hr;subst hr;simp only [if_true];rw [Sem.run_bind,Th hi,Result.andThen_ok,Sem.run_bind,hsz,← hlen,run_loadCells_list w _ _ hcell,Result.andThen_ok];rfl
 | false =>
  simp only [Bool.false_eq_true,if_false];unfold Sp at hr;split at hr
  ·rename_i h1;cases h1
  ·rename_i u h1;obtain rfl:=A5 hr;have:=hcell 0 u (by simp [Segs.cells,Seg.cells]);rw [Addr.add_lit,Nat.add_zero] at this;rw [run_load,this]
  ·cases hr
theorem ST {b off n:Nat} {agg:Bool} {c:Array Value} {T t:TypeId} {fz:Nat×Nat} {r:Segs} {v:Value} (hb:w.heap[b]?=some (.cells c T fz)) (hl:lay P t=some (agg,n))
 (hx:(c.toList.drop off).take n=Segs.cells r) (hn:Segs.len r=n) (hr:Sp agg r=some v):(Instr.loadAt t (.pointer (some ⟨b,off,none⟩))).run P w=.ok v w:=by
 unfold Instr.loadAt;show (Result.ok _ w).andThen _=_;exact LE hb hl hx hn hr
def Yp (r:Segs) (T:TypeId):Obj:=.cells (Segs.cells r).toArray T (0,0)
theorem Zgc {r t u:Segs} {off:Nat} (h:Segs.put r off t=some u) :
 Segs.cells u=(Segs.cells r).take off++Segs.cells t++(Segs.cells r).drop (off+Segs.len t)∧off+Segs.len t≤Segs.len r:=by
 obtain ⟨p,q,m,rfl,rfl,rfl,hm⟩:=Segs.put_spec h;simp only [Segs.cells_append,Segs.len_append];constructor
 ·rw [← hm,← Segs.cells_length p,← Segs.cells_length m];simp
 ·omega
theorem LD {b off:Nat} {agg:Bool} {T t:TypeId} {r q u:Segs} {v:Value} {n:Nat} (hb:w.heap[b]?=some (Yp r T)) (hl:lay P t=some (agg,n))
 (hp:Parts v q) (hq:flat q) (hn:Segs.len q=n) (hu:Segs.put r off q=some u) :
 ∃ w',(Instr.storeAt t (.pointer (some ⟨b,off,none⟩)) v).run P w=.ok () w'∧w'.heap[b]?=some (Yp u T)∧(∀ c,c≠b→w'.heap[c]?=w.heap[c]?)∧SameIO w w':=by
 obtain ⟨d,i,hd,hi,hsz,hag⟩:=OH hl;obtain ⟨e1,e2⟩:=Zgc hu;have hfit:off+0+(Segs.cells q).length≤(Segs.cells r).toArray.size:=by simp [Segs.cells_length];omega
 have hst:=run_storeCells_at P b off T (Segs.cells q) 0 (Segs.cells r).toArray w hb hfit hq;refine ⟨w.setRow b (Segs.cells u).toArray,?_,setRow_heap w b _ _ T _ hb,fun c hc=>setRow_other w b c _ hc,SameIO.refl _⟩
 ·unfold Instr.storeAt;rw [Sem.run_bind];show (Result.ok _ w).andThen _=_;rw [Result.andThen_ok];unfold storeVar;rw [Sem.run_bind,Th hi,Result.andThen_ok];have hs:v.cells.size=i.size:=by rw [hp.cells,hsz];simp [Segs.cells_length,hn]
  simp only [hs];rw [hp.cells];simp only [e1];simpa [Segs.cells_length] using hst
end sem
end Go.Esp
namespace Go.Esp
theorem Do (off:Nat):∀ (vs:List Value) (k:Nat) (cs:Array Value),off+k+vs.length≤cs.size →
 ((vs.zipIdx k).foldl (fun cs (p:Value×Nat)=>cs.setIfInBounds (off+p.2) p.1) cs).toList=cs.toList.take (off+k)++vs++cs.toList.drop (off+k+vs.length)
 | [],k,cs,h=>by simp
 | v::vs,k,cs,h=>by
  simp only [C8] at h;rw [List.zipIdx_cons,G6,Do off vs (k+1) _ jU];simp only [Array.toList_setIfInBounds];have h1:off+k<cs.toList.length:=by simp;omega
  rw [List.take_set,List.drop_set,A6 jD];rw [show off+(k+1)=off+k+1 by omega,C9];have e:cs.toList[off+k]?=some cs.toList[off+k]:=A7 h1;rw [e];simp only [Option.toList_some,C8];rw [List.set_append_right _ _ jU];simp only [D8,I5 (Nat.le_of_lt h1),Nat.sub_self,List.set_cons_zero];simp;rw [show off+k+1+vs.length=off+k+(vs.length+1) by omega]
def Ea:List Segs→Nat→Nat
 | _,0=>0
 | [],_+1=>0
 | z::zs,i+1=>Segs.len z+Ea zs i
def cat:List Segs→Segs
 | []=>[]
 | z::zs=>z++cat zs
def Sk:List Segs→Nat→Segs→Option (List Segs)
 | [],_,_=>none
 | z::zs,0,r=>match Nat.beq (Segs.len z) (Segs.len r) with
  | true=>some (r::zs)
  | false=>none
 | z::zs,i+1,r=>match Sk zs i r with
  | some zs'=>some (z::zs')
  | none=>none
def UX:List Segs→List (Nat×Segs)→Option (List Segs)
 | zs,[]=>some zs
 | zs,(i,r)::ps=>match Sk zs i r with
  | some zs'=>UX zs' ps
  | none=>none
theorem Qy:∀ {zs zs':List Segs} {i:Nat} {r:Segs},Sk zs i r=some zs' →
 ∃ p z q,zs=p++z::q∧zs'=p++r::q∧p.length=i∧Segs.len z=Segs.len r
 | [],_,_,_,h=>by simp [Sk] at h
 | z::zs,zs',0,r,h=>by
  unfold Sk at h;split at h
  ·rename_i hb;obtain rfl:=A5 h;exact ⟨[],z,zs,rfl,rfl,rfl,F8 hb⟩
  ·cases h
 | z::zs,zs',i+1,r,h=>by
  unfold Sk at h;split at h
  ·rename_i zs'' h';obtain rfl:=A5 h;obtain ⟨p,y,q,e1,e2,e3,e4⟩:=Qy h';exact ⟨z::p,y,q,by simp [e1],by simp [e2],by simp [e3],e4⟩
  ·cases h
theorem Lp:∀ a b:List Segs,cat (a++b)=cat a++cat b
 | [],b=>rfl
 | x::a,b=>by simp [cat,Lp a b]
theorem Jc:∀ (p q:List Segs),Ea (p++q) p.length=Segs.len (cat p)
 | [],q=>by cases q <;> simp [Ea,cat,Segs.len]
 | x::p,q=>by simp [Ea,cat,Segs.len_append,Jc p q]
theorem EJ:∀ {zs zs':List Segs} {i:Nat} {r:Segs},Sk zs i r=some zs'→∀ j,Ea zs' j=Ea zs j
 | [],_,_,_,h,_=>by simp [Sk] at h
 | z::zs,zs',0,r,h,j=>by
  obtain ⟨p,y,q,e1,e2,e3,e4⟩:=Qy h;have hp:p=[]:=D4 e3;subst hp;simp only [B6,J9] at e1;obtain ⟨rfl,rfl⟩:=e1;subst e2;cases j <;> simp [Ea,e4]
 | z::zs,zs',i+1,r,h,j=>by
  unfold Sk at h;split at h
  ·rename_i zs'' h';obtain rfl:=A5 h;cases j with
   | zero=>rfl
   | succ j=>simp [Ea,EJ h' j]
  ·cases h
def Zwk (zs:List Segs) (place:Nat→Option (Nat×Nat)):Prop:=∀ i z,zs[i]?=some z→place i=some (Ea zs i,Segs.len z)
inductive PartsL:List (Nat×Segs)→List (Nat×Value)→Prop
  | nil:PartsL [] []
  | cons {i:Nat} {v:Value} {r:Segs} {ps:List (Nat×Segs)} {vs:List (Nat×Value)}:Parts v r→PartsL ps vs→PartsL ((i,r)::ps) ((i,v)::vs)
theorem Lh:∀ (ps:List (Nat×Segs)) (vs:List (Nat×Value)) (zs zs':List Segs) (place:Nat→Option (Nat×Nat)),Zwk zs place →
 PartsL ps vs→UX zs ps=some zs'→Instr.fill place (Segs.cells (cat zs)).toArray vs=some (Segs.cells (cat zs')).toArray
 | [],vs,zs,zs',place,hp,hv,h=>by
  cases hv;obtain rfl:=A5 h;rfl
 | (i,r)::ps,vs,zs,zs',place,hp,hv,h=>by
  cases hv with
  | @cons _ v _ _ vs hv hvs =>
  unfold UX at h;split at h
  ·rename_i zs1 h1;obtain ⟨p,z,q,e1,e2,e3,e4⟩:=Qy h1;have hz:zs[i]?=some z:=by rw [e1,← e3];simp
   have hpl:=hp i z hz;have hoff:Ea zs i=Segs.len (cat p):=by rw [e1,← e3];exact Jc p _
   unfold Instr.fill;rw [hpl];have hsz:v.cells.size=Segs.len r:=by rw [hv.cells];simp [Segs.cells_length]
   have htot:Segs.len (cat zs)=Segs.len (cat p)+(Segs.len z+Segs.len (cat q)):=by rw [e1,Lp,Segs.len_append];simp [cat,Segs.len_append]
   have hno:(v.cells.size≠Segs.len z || Ea zs i+v.cells.size > (Segs.cells (cat zs)).toArray.size)=false:=by
    simp [hsz,e4,Segs.cells_length,hoff,htot]
   simp only [hno,Bool.false_eq_true,if_false];have hcells:v.cells.zipIdx.foldl (fun cs (x:Value×Nat)=>cs.setIfInBounds (Ea zs i+x.2) x.1) (Segs.cells (cat zs)).toArray=(Segs.cells (cat zs1)).toArray:=by
    apply Array.ext';rw [← Array.foldl_toList,Array.toList_zipIdx,hv.cells];have:=Do (Ea zs i) (Segs.cells r) 0 (Segs.cells (cat zs)).toArray (by simp [Segs.cells_length,hoff,htot,e4]);simp only [Nat.add_zero] at this;rw [show (Segs.cells r).toArray.toList=Segs.cells r from rfl,this];rw [hoff,e1,e2];simp only [Lp,cat,Segs.cells_append,← Segs.cells_length (cat p)];have hl:(Segs.cells r).length=(Segs.cells z).length:=by simp [Segs.cells_length,e4]
    simp [hl,List.drop_append]
   rw [hcells];refine Lh ps vs zs1 zs' place (fun k y hk=>?_) hvs h;rw [EJ h1 k];by_cases hki:k=i
   ·subst hki;have:zs1[k]?=some r:=by rw [e2,← e3];simp
    rw [this] at hk;obtain rfl:=A5 hk;rw [← e4];exact hpl
   ·refine hp k y ?_;rw [← hk,e1,e2];rw [← e3] at hki;rcases C7 k p.length with h'|h'
    ·rw [F5 h',F5 h']
    ·obtain ⟨m,rfl⟩:∃ m,k=p.length+(m+1):=⟨k-p.length-1,by omega⟩
     rw [G2 jD,G2 jD,show p.length+(m+1)-p.length=m+1 by omega];rfl
  ·cases h
end Go.Esp
namespace Go.Esp
structure Bld (P:Program) (T:TypeId) (zs:List Segs):Prop where
  zero:(XP P T).map Value.cells=some (Segs.cells (cat zs)).toArray
  place:(match P.underlying T with|some (.struct fs)=>fs.toList.mapM (fun f=>(P.info? f.type).map fun i=>(f.offset,i.size))|_=>none)=some ((List.range zs.length).map fun i=>(Ea zs i,Segs.len (zs.getD i [])))
theorem Bld.built {P:Program} {T:TypeId} {zs zs':List Segs} (h:Bld P T zs) {ps:List (Nat×Segs)} {vs:List (Nat×Value)} (hp:PartsL ps vs) (hs:UX zs ps=some zs') :
 P.built T vs=some (Segs.cells (cat zs')).toArray:=by
 obtain ⟨h1,h2⟩:=h;unfold Program.built;unfold XP at h1;cases hu:P.underlying T with
 | none=>simp [hu] at h2
 | some d =>
  cases hi:P.info? T with
  | none=>simp [hi] at h1
  | some it =>
   simp only [hi,Option.map_eq_some_iff] at h1;obtain ⟨z,hz,hzc⟩:=h1;cases d <;> simp only [hu] at h2 <;> try (cases h2;done)
   case struct fs =>
    simp only [hz,h2,hzc];refine Lh ps vs zs zs' _ (fun i y hy=>?_) hp hs;have hlt:=(C4.1 hy).1;simp [hlt];have:=(C4.1 hy).2;simp [this]
section
variable {P:Program} {n:Sh} {ops:Array Oper} {Q:Exit→Act→World→Prop} {rest:List Nat} {M M':Mem} {H H':Hp} {e:Env} {J S:World→Prop} {A:As} {i:Nat}
  {dst:Option Tmp} {d:Tmp} {op:Op} {ty:TypeId} {pos:String} {af:Array Edge} {gd:Option (Nat×Bool)}
theorem Xp {o:Oper} {a:Act} {w:World} {v:Value} (h:(execOp a.eval o).run P w=.ok (.value v) w):Runs P o a w v:=.inl h
theorem Wz {x:Sem Value} {v:Value} {w w':World} (h:x.run P w=.ok v w'):(do let u ← x;pure (Next.value u):Sem Next).run P w=.ok (.value v) w':=by
 simp_all
def Zzm:BinOp→Int→Int→Option Bool
 | .lss,a,b=>some (decide (a<b))
 | .leq,a,b=>some (decide (a≤b))
 | .gtr,a,b=>some (decide (b<a))
 | .geq,a,b=>some (decide (b≤a))
 | .eql,a,b=>some (decide (a=b))
 | .neq,a,b=>some (!decide (a=b))
 | _,_,_=>none
theorem Zuh (a b:Int):(a == b)=decide (a=b):=by
 by_cases h:a=b <;> simp [h]
theorem Zna {o:BinOp} {t:TypeId} {x y:Operand} {k:IntKind} {a b:Int} {c:Bool} (h:Zzm o a b=some c) {w:World} :
 (do eqGuard o t x y (.int k a) (.int k b);binOp o t (.int k a) (.int k b):Sem Value).run P w=.ok (.bool c) w:=by
 have hgd:(eqGuard o t x y (.int k a) (.int k b)).run P w=.ok () w:=by
  cases o <;> rfl
 rw [Sem.run_bind,hgd,Result.andThen_ok];cases o <;> simp only [Zzm,G1] at h <;> first
  | (cases h;done)
  | (subst h;simp [Op.intCmp];done)
  | (subst h;simp [binOp,Op.intCmp,Zuh,bne];done)
theorem Zzv {o:BinOp} {t t':TypeId} {x y:Operand} {k:IntKind} {a b:Int} {c:Bool} (hi:ops[i]?=some ⟨some d,.binOp o t x y t',ty,pos,af,gd⟩) (hg:want ops e gd=some true)
 (hx:ev e x=some (.int k a)) (hy:ev e y=some (.int k b)) (hc:Zzm o a b=some c) (hd:Nat.ble (d+1) n.sz=true)
 (hk:XD P n ops Q rest J A ((d,.bool c)::e)):XD P n ops Q (i::rest) J A e:=by
 have hr:∀ a' w,Sat n e a'→Runs P ⟨some d,.binOp o t x y t',ty,pos,af,gd⟩ a' w (.bool c):=fun a' w ha=>Xp (by
  simp only [execOp,ha.ev hx,ha.ev hy];exact Wz (Zna hc))
 cases hcl:NE P (.binOp o t x y t') with
 | pure=>exact VA hi hcl hg hr (fun a ha=>ha.put hd _) hk
 | read=>exact UB hi hcl hg (fun a w ha _=>hr a w ha) (fun a ha=>ha.put hd _) hk
 | eff=>cases o <;> simp [NE] at hcl
 | wr=>cases o <;> simp [NE] at hcl
 | new=>cases o <;> simp [NE] at hcl
def Yai:BinOp→Int→Int→Option Int
 | .add,a,b=>some (a+b)
 | .sub,a,b=>some (a-b)
 | .mul,a,b=>some (a * b)
 | _,_,_=>none
theorem DZ {o:BinOp} {t t':TypeId} {x y:Operand} {k:IntKind} {a b z r:Int} (hi:ops[i]?=some ⟨some d,.binOp o t x y t',ty,pos,af,gd⟩) (hg:want ops e gd=some true)
 (hx:ev e x=some (.int k a)) (hy:ev e y=some (.int k b)) (hc:Yai o a b=some z) (hr:k.wrap z=r) (hd:Nat.ble (d+1) n.sz=true)
 (hk:XD P n ops Q rest J A ((d,.int k r)::e)):XD P n ops Q (i::rest) J A e:=by
 have hcl:NE P (.binOp o t x y t')=.pure:=by cases o <;> first|rfl|(cases hc;done)
 refine VA hi hcl hg (fun a' w ha=>Xp ?_) (fun a ha=>ha.put hd _) hk;simp only [execOp,ha.ev hx,ha.ev hy];subst hr;cases o <;> simp only [Yai,G1] at hc <;> first
  | (cases hc;done)
  | (subst hc;rw [Sem.run_bind];simp [eqGuard,binOp,Op.intArith];done)
theorem Po {k:IntKind} {z:Int} (h:k=.i64) (hz:-9223372036854775808≤z∧z≤9223372036854775807):k.wrap z=z:=by
 subst h;have:=IntWalk.i64_in z hz;exact this
theorem Hv (s t:ByteArray):(s.toList == t.toList)=decide (s=t):=by
 by_cases h:s=t
 ·subst h;simp
 ·simp only [h,decide_false];rw [beq_eq_false_iff_ne];intro hl;apply h;have:=A9 List.toArray hl;rw [ByteArray.toList_eq,ByteArray.toList_eq] at this;exact ByteArray.ext (by simpa using this)
def Zzl:BinOp→ByteArray→ByteArray→Option Bool
 | .eql,a,b=>some (decide (a=b))
 | .neq,a,b=>some (!decide (a=b))
 | _,_,_=>none
theorem Zzr {o:BinOp} {t t':TypeId} {x y:Operand} {a b:ByteArray} {c:Bool} (hi:ops[i]?=some ⟨some d,.binOp o t x y t',ty,pos,af,gd⟩) (hg:want ops e gd=some true)
 (hx:ev e x=some (.string a)) (hy:ev e y=some (.string b)) (hc:Zzl o a b=some c) (hd:Nat.ble (d+1) n.sz=true)
 (hk:XD P n ops Q rest J A ((d,.bool c)::e)):XD P n ops Q (i::rest) J A e:=by
 have hr:∀ a' w,Sat n e a'→Runs P ⟨some d,.binOp o t x y t',ty,pos,af,gd⟩ a' w (.bool c):=fun a' w ha=>Xp (by
  simp only [execOp,ha.ev hx,ha.ev hy];cases o <;> simp only [Zzl,G1] at hc <;> first
   | (cases hc;done)
   | (subst hc;rw [Sem.run_bind];simp [eqGuard,binOp,Op.stringOp,Hv];done))
 have hcl:NE P (.binOp o t x y t')=.read:=by cases o <;> first|rfl|(cases hc;done)
 exact UB hi hcl hg (fun a w ha _=>hr a w ha) (fun a ha=>ha.put hd _) hk
theorem Zzt {t:TypeId} {x:Operand} {b:Bool} (hi:ops[i]?=some ⟨some d,.unOp .not t x,ty,pos,af,gd⟩) (hg:want ops e gd=some true) (hx:ev e x=some (.bool b)) (hd:Nat.ble (d+1) n.sz=true)
 (hk:XD P n ops Q rest J A ((d,.bool (!b))::e)):XD P n ops Q (i::rest) J A e :=
 VA hi rfl hg (fun a' w ha=>Xp (by simp only [execOp,ha.ev hx];rfl)) (fun a ha=>ha.put hd _) hk
theorem Hy {x:Operand} {a:Addr} (hi:ops[i]?=some ⟨some d,.nilCheck x,ty,pos,af,gd⟩) (hg:want ops e gd=some true) (hx:ev e x=some (.pointer (some a))) (hd:Nat.ble (d+1) n.sz=true)
 (hk:XD P n ops Q rest J A ((d,.pointer (some a))::e)):XD P n ops Q (i::rest) J A e :=
 VA hi rfl hg (fun a' w ha=>Xp (by simp only [execOp,ha.ev hx];rfl)) (fun a ha=>ha.put hd _) hk
theorem Zkz {t:Operand} {ix:Nat} {vs:Array Value} {v:Value} (hi:ops[i]?=some ⟨some d,.extract t ix,ty,pos,af,gd⟩) (hg:want ops e gd=some true) (hx:ev e t=some (.tuple vs)) (hv:vs[ix]?=some v)
 (hd:Nat.ble (d+1) n.sz=true) (hk:XD P n ops Q rest J A ((d,v)::e)):XD P n ops Q (i::rest) J A e :=
 VA hi rfl hg (fun a' w ha=>Xp (by simp only [execOp,ha.ev hx];exact Wz (by simp [Instr.extract,hv]))) (fun a ha=>ha.put hd _) hk
theorem KK {s:TypeId} {f k b off:Nat} {w:World} (hf:Zjb P s f=some k):(Instr.fieldAt s (.pointer (some ⟨b,off,none⟩)) f).run P w=.ok (.pointer (some ⟨b,off+k,none⟩)) w:=by
 obtain ⟨fs,fd,it,hu,hfd,hit,hne,rfl⟩:=Zja hf;unfold Instr.fieldAt;rw [ZY (YP hu)];simp only [hfd];rw [Sem.run_bind];show (Result.ok _ w).andThen _=_;rw [Result.andThen_ok];unfold fieldPlace;rw [Sem.run_bind,Sem.run_bind,Th hit,Result.andThen_ok,A4 hne];show (Result.ok _ w).andThen _=_;rw [Result.andThen_ok,Addr.add_lit];rfl
theorem JR {s:TypeId} {x:Operand} {f k b off:Nat} (hi:ops[i]?=some ⟨some d,.fieldAddr s x f,ty,pos,af,gd⟩) (hg:want ops e gd=some true) (hx:ev e x=some (.pointer (some ⟨b,off,none⟩)))
 (hf:Zjb P s f=some k) (hd:Nat.ble (d+1) n.sz=true) (hk:XD P n ops Q rest J A ((d,.pointer (some ⟨b,off+k,none⟩))::e)):XD P n ops Q (i::rest) J A e :=
 VA hi rfl hg (fun a' w ha=>Xp (by simp only [execOp,ha.ev hx];exact Wz (KK hf))) (fun a ha=>ha.put hd _) hk
theorem Zkx {t:TypeId} {x:Operand} {b off m:Nat} {agg:Bool} {r r':Segs} {T:TypeId} {v:Value} {MJ:Mem} {HJ:Hp} (hi:ops[i]?=some ⟨some d,.load t x,ty,pos,af,gd⟩) (hg:want ops e gd=some true)
 (hx:ev e x=some (.pointer (some ⟨b,off,none⟩))) (hb:(b,Yp r T)∈HJ) (hl:lay P t=some (agg,m)) (hs:Segs.sub r off m=some r') (hv:Sp agg r'=some v)
 (hd:Nat.ble (d+1) n.sz=true) (hk:XD P n ops Q rest (St MJ HJ) A ((d,v)::e)):XD P n ops Q (i::rest) (St MJ HJ) A e :=
 UB hi rfl hg (fun a' w ha hw=>Xp (by
  simp only [execOp,ha.ev hx];obtain ⟨h1,h2⟩:=Segs.sub_cells hs;obtain ⟨_,_,_,_,h3⟩:=Segs.sub_spec hs;exact Wz (ST (hw.own _ _ hb) hl h1 h3 hv))) (fun a ha=>ha.put hd _) hk
theorem UE {t:TypeId} {x y:Operand} {b off m:Nat} {agg:Bool} {r q u:Segs} {T:TypeId} {v:Value} (hi:ops[i]?=some ⟨none,.store t x y,ty,pos,af,gd⟩) (hg:want ops e gd=some true)
 (hx:ev e x=some (.pointer (some ⟨b,off,none⟩))) (hy:ev e y=some v) (hp:Parts v q) (hq:flat q) (hu:Upd b (Yp r T) (Yp u T) H H') (hl:lay P t=some (agg,m)) (hn:Segs.len q=m) (hs:Segs.put r off q=some u)
 (hk:XD P n ops Q rest (St M H') ⟨M,H'⟩ e) (hnw:n.wrs.contains i=false:=by rfl):XD P n ops Q (i::rest) J ⟨M,H⟩ e:=by
 refine SK hi rfl hg (fun a w ha hw=>?_) hnw;obtain ⟨w',h1,h2,h3,h4⟩:=LD (P:=P) (hw.own _ _ hu.mem) hl hp hq hn hs;unfold Oper.does;have:(execOp a.eval ⟨none,.store t x y,ty,pos,af,gd⟩).run P w=.ok .skip w':=by
  simp only [execOp,ha.ev hx,ha.ev hy];rw [ZY h1];rfl
 rw [this];exact ⟨⟨M,H'⟩,e,hw.upd hu h2 (fun c hc z hz=>by rw [h3 c hc];exact hz) h4,ha,hk⟩
theorem IB {t:TypeId} {v:Value} {w:World}:(newVar t v).run P w=.ok ⟨w.heap.size,0,none⟩ (w.alloc (.cells v.cells t)):=rfl
theorem St.head {b:Nat} {o:Obj}:∀ u,St M ((b,o)::H) u→St M H u:=fun _ h=>h.tail
theorem Zya {T:TypeId} {x:Operand} {v:Value} {r:Segs} (hi:ops[i]?=some ⟨some d,.box T x,ty,pos,af,gd⟩) (hg:want ops e gd=some true) (hx:ev e x=some v) (hp:Parts v r) (hd:Nat.ble (d+1) n.sz=true)
 (hk:∀ b,XD P n ops Q rest J ⟨M,(b,Yp r T)::H⟩ ((d,.pointer (some ⟨b,0,none⟩))::e)):XD P n ops Q (i::rest) J ⟨M,H⟩ e:=by
 refine Zxv (x:=Yp r T) hi rfl hg (fun a ha w=>?_) (e':=fun b=>(d,.pointer (some ⟨b,0,none⟩))::e) (fun a b ha=>ha.put hd _) hk;simp only [execOp,ha.ev hx];refine Wz ?_;unfold Instr.box;rw [Sem.run_bind,IB,Result.andThen_ok,hp.cells];rfl
theorem Zlg {T:TypeId} {z:Value} {r:Segs} (hi:ops[i]?=some ⟨some d,.alloc T,ty,pos,af,gd⟩) (hg:want ops e gd=some true) (hz:XP P T=some z) (hp:Parts z r) (hd:Nat.ble (d+1) n.sz=true)
 (hk:∀ b,XD P n ops Q rest J ⟨M,(b,Yp r T)::H⟩ ((d,.pointer (some ⟨b,0,none⟩))::e)):XD P n ops Q (i::rest) J ⟨M,H⟩ e:=by
 refine Zxv (x:=Yp r T) hi rfl hg (fun a ha w=>?_) (e':=fun b=>(d,.pointer (some ⟨b,0,none⟩))::e) (fun a b ha=>ha.put hd _) hk;refine Wz ?_;unfold XP at hz;split at hz
 ·rename_i it hit;unfold Instr.alloc;have:(zeroValue T).run P w=.ok z w:=by simp [zeroValue,typeInfo,hit,hz]
  rw [Sem.run_bind,this,Result.andThen_ok];rw [Sem.run_bind,IB,Result.andThen_ok,hp.cells];rfl
 ·cases hz
inductive EvParts (e:Env):List (Nat×Operand)→List (Nat×Segs)→Prop
  | nil:EvParts e [] []
  | cons {k:Nat} {x:Operand} {v:Value} {r:Segs} {xs:List (Nat×Operand)} {ps:List (Nat×Segs)}:ev e x=some v→Parts v r→EvParts e xs ps→EvParts e ((k,x)::xs) ((k,r)::ps)
theorem EvParts.run {a:Act} (ha:Sat n e a):∀ {xs:List (Nat×Operand)} {ps:List (Nat×Segs)},EvParts e xs ps→PartsL ps (xs.map fun p=>(p.1,a.eval p.2))
 | _,_,.nil=>.nil
 | _,_,.cons hx hp hr=>by
  rw [D3,ha.ev hx];exact .cons hp (EvParts.run ha hr)
theorem XN {T:TypeId} {xs:List (Nat×Operand)} {ps:List (Nat×Segs)} {zs zs':List Segs} (hi:ops[i]?=some ⟨some d,.build T xs.toArray,ty,pos,af,gd⟩) (hg:want ops e gd=some true)
 (hb:Bld P T zs) (hx:EvParts e xs ps) (hs:UX zs ps=some zs') (hd:Nat.ble (d+1) n.sz=true) (hk:XD P n ops Q rest J A ((d,WX (cat zs'))::e)):XD P n ops Q (i::rest) J A e :=
 VA hi rfl hg (fun a' w ha=>Xp (by
  simp only [execOp];refine Wz ?_;have:=hb.built (hx.run ha) hs;exact run_build w T _ _ (by simpa using this))) (fun a ha=>ha.put hd _) hk
theorem Zku {t:TypeId} (hi:ops[i]?=some ⟨some d,.makeMap t none,ty,pos,af,gd⟩) (hg:want ops e gd=some true) (hd:Nat.ble (d+1) n.sz=true)
 (hk:∀ b,XD P n ops Q rest J ⟨M,(b,.map #[] 0)::H⟩ ((d,.map (some b))::e)):XD P n ops Q (i::rest) J ⟨M,H⟩ e:=by
 refine Zag (x:=.map #[] 0) (g:=fun b=>.map (some b)) hi rfl hg (fun a ha w=>?_) (e':=fun b=>(d,.map (some b))::e) (fun a b ha=>ha.put hd _) hk;rfl
theorem Rv {f : FuncId} {xs : Array Operand} {ats : Array TypeId} {a : Act} {w : World} {vs : List Value} {fn : Func} {K : Value → World → Prop} (hf : P.funcs[f]? = some fn) (hb : fn.body.isSome = true) (hn : (fn.name == "runtime.NumGoroutine") = false)
 (hv:xs.toList.map a.eval=vs) (h:Calls P f vs.toArray w fun e w'=>∃ v,e=.returned v∧K v w') :
 Oper.does P ⟨dst,.call ⟨.value (.func f),xs,ats⟩,ty,pos,af,gd⟩ a w K:=by
 unfold Oper.does;have:(execOp a.eval ⟨dst,.call ⟨.value (.func f),xs,ats⟩,ty,pos,af,gd⟩).run P w=.ok (.enter f vs.toArray) w:=by
  have e:#[]++xs.map a.eval++#[]=vs.toArray:=by
   apply Array.ext';simp [hv]
  rw [execOp_call_go,e];unfold callFunc;rw [Sem.run_bind];show (Result.ok P w).andThen _=_;rw [Result.andThen_ok];simp only [hf,hn];have:fn.body.isNone=false:=by cases h':fn.body <;> simp_all
  simp only [this];rfl
 grind
def Ta (P:Program) (f:FuncId):Bool:=match P.funcs[f]? with
 | some fn => fn.body.isSome && !(fn.name == "runtime.NumGoroutine")
 | none=>false
theorem Ub {f : FuncId} (h : Ta P f = true) : ∃ fn, P.funcs[f]? = some fn ∧ fn.body.isSome = true ∧ (fn.name == "runtime.NumGoroutine") = false := by
 unfold Ta at h;grind
theorem PV (F A B:Hp):(F++(A++B)).Perm (A++(F++B)):=by
 rw [← B5,← B5];exact List.Perm.append_right B List.perm_append_comm
theorem Zur {f:FuncId} {xs:List Operand} {ats:Array TypeId} {vs:List Value} {R:Value→Prop} (hi:ops[i]?=some ⟨some d,.call ⟨.value (.func f),xs.toArray,ats⟩,ty,pos,af,gd⟩) (hg:want ops e gd=some true)
 (hf:Ta P f=true) (hx:evs e xs=some vs) (hc:Fs P f vs M R) (hd:Nat.ble (d+1) n.sz=true) (hk:∀ v,R v→XD P n ops Q rest J ⟨M,H⟩ ((d,v)::e)):XD P n ops Q (i::rest) J ⟨M,H⟩ e:=by
 obtain ⟨fn,h1,h2,h3⟩:=Ub hf;refine Zdx hi rfl hg (fun a F w ha hw=>Rv h1 h2 h3 zB ?_);exact (hc (F++H) w hw).mono fun e' w' ⟨v,he,hs,hr⟩=>⟨v,he,⟨M,H⟩,_,hs,fun _ h=>h,ha.put hd v,hk v hr⟩
theorem Yaz {f:FuncId} {xs:List Operand} {ats:Array TypeId} {vs:List Value} {R:Mem→Value→Prop} (hi:ops[i]?=some ⟨some d,.call ⟨.value (.func f),xs.toArray,ats⟩,ty,pos,af,gd⟩) (hg:want ops e gd=some true)
 (hf:Ta P f=true) (hx:evs e xs=some vs) (hc:Fn P f vs M R) (hd:Nat.ble (d+1) n.sz=true) (hk:∀ v M',M.le M'→R M' v→XD P n ops Q rest J ⟨M',H⟩ ((d,v)::e)):XD P n ops Q (i::rest) J ⟨M,H⟩ e:=by
 obtain ⟨fn,h1,h2,h3⟩:=Ub hf;refine Zdx hi rfl hg (fun a F w ha hw=>Rv h1 h2 h3 zB ?_);exact (hc (F++H) w hw).mono fun e' w' ⟨v,M',he,hm,hs,hr⟩=>⟨v,he,⟨M',H⟩,_,hs,fun _ h=>St.lower h hm,ha.put hd v,hk v M' hm hr⟩
def NN:Option Tmp→Value→Env→Env
 | some d,v,e=>(d,v)::e
 | none,_,e=>e
theorem Yba {f:FuncId} {xs:List Operand} {ats:Array TypeId} {vs:List Value} {Hin Hr:Hp} {R:Mem→Value→Hp→Prop} {MJ:Mem} {HJ:Hp} (hi:ops[i]?=some ⟨dst,.call ⟨.value (.func f),xs.toArray,ats⟩,ty,pos,af,gd⟩) (hg:want ops e gd=some true)
 (hf:Ta P f=true) (hx:evs e xs=some vs) (hc:Fh P f vs M Hin R) (hH:H.Perm (Hin++Hr)) (hJ:∀ M' Hout w,M.le M'→St M' (Hout++Hr) w→St MJ HJ w)
 (hd:∀ a v,Sat n e a→Sat n (NN dst v e) (a.put dst v))
 (hk:∀ v M' Hout,M.le M'→R M' v Hout→XD P n ops Q rest (St MJ HJ) ⟨M',Hout++Hr⟩ (NN dst v e)):XD P n ops Q (i::rest) (St MJ HJ) ⟨M,H⟩ e:=by
 obtain ⟨fn,h1,h2,h3⟩:=Ub hf;refine Zai hi rfl hg (fun _ a F w ha hw=>Rv h1 h2 h3 zB ?_);exact (hc (F++Hr) w (hw.perm0 ((hH.append_left F).trans (PV F Hin Hr)))).mono fun e' w' ⟨v,M',Hout,he,hm,hs,hr⟩=>⟨v,he,⟨M',Hout++Hr⟩,_,hs.perm0 (PV F Hout Hr).symm,fun u hu=>hJ M' Hout u hm hu,hd a v ha,hk v M' Hout hm hr⟩
theorem Zvp {x y:Code} (h:C P n x (Exit.then (y.wpIn (Fr n.ro) 0 P Q) Q) S e):C P n (.seq x y) Q S e:=fun a w ha hw=>wpIn_seq (h a w ha hw)
theorem Zyp (h:K n Q .normal S e):C P n .skip Q S e:=fun a w ha hw=>wpIn_skip (h a w ha hw)
theorem Zvq {l:Nat} (h:K n Q .normal S e):C P n (.label l) Q S e:=fun a w ha hw=>wpIn_label (h a w ha hw)
theorem Zyr {id:Nat} (h:K n Q (.exit id) S e):C P n (.exit id) Q S e:=fun a w ha hw=>wpIn_exit (h a w ha hw)
theorem Yad (h:K n Q .ret S e):C P n .ret Q S e:=fun a w ha hw=>wpIn_ret (h a w ha hw)
theorem Zvs {id:Nat} {c:Code} (h:C P n c (Exit.inBlock id Q) S e):C P n (.block id c) Q S e:=fun a w ha hw=>wpIn_block (h a w ha hw)
theorem Zyt {c:Operand} {x y:Code} {b:Bool} (hc:ev e c=some (.bool b)) (ht:b=true→C P n x Q S e) (hf:b=false→C P n y Q S e):C P n (.cond c x y) Q S e :=
 fun a w ha hw=>wpIn_cond_split (ha.ev hc) (fun h=>ht h a w ha hw) (fun h=>hf h a w ha hw)
theorem Zyo {c:Operand} {x y:Code} (hc:ev e c=some (.bool true)) (ht:C P n x Q S e):C P n (.cond c x y) Q S e :=
 fun a w ha hw=>wpIn_cond_true (ha.ev hc) (ht a w ha hw)
theorem Zvr {c:Operand} {x y:Code} (hc:ev e c=some (.bool false)) (hf:C P n y Q S e):C P n (.cond c x y) Q S e :=
 fun a w ha hw=>wpIn_cond_false (ha.ev hc) (hf a w ha hw)
theorem Zlq {y:Code} (h:C P n y Q S e):K n (Exit.then (y.wpIn (Fr n.ro) 0 P Q) Q) .normal S e:=h
theorem Zzz {N:Act→World→Prop} (h:K n Q .ret S e):K n (Exit.then N Q) .ret S e:=h
theorem Zyj {N:Act→World→Prop} {id:Nat} (h:K n Q (.exit id) S e):K n (Exit.then N Q) (.exit id) S e:=h
theorem Yab {id:Nat} (h:K n Q .normal S e):K n (Exit.inBlock id Q) (.exit id) S e:=fun a w ha hw=>by simp only [Exit.inBlock,if_true];exact h a w ha hw
theorem Qr {id id':Nat} (hne:id'≠id) (h:K n Q (.exit id') S e):K n (Exit.inBlock id Q) (.exit id') S e:=fun a w ha hw=>by simp only [Exit.inBlock,hne,if_false];exact h a w ha hw
theorem Yaa {id:Nat} (h:K n Q .normal S e):K n (Exit.inBlock id Q) .normal S e:=h
theorem Zyi {id:Nat} (h:K n Q .ret S e):K n (Exit.inBlock id Q) .ret S e:=h
theorem Zlx {c:Code} {S':World→Prop} {e':Env} (he:∀ a,Sat n e a→Sat n e' a) (hS:∀ w,S w→S' w) (h:C P n c Q S' e'):C P n c Q S e:=fun a w ha hw=>h a w (he a ha) (hS w hw)
inductive Pick (e:Env):Env→Prop
  | nil:Pick e []
  | cons {k:Nat} {v:Value} {r:Env}:get e k=some v→Pick e r→Pick e ((k,v)::r)
theorem Pick.get {e e':Env} (h:Pick e e'):∀ k v,Esp.get e' k=some v→Esp.get e k=some v:=by
 induction h with
 | nil=>intro k v hk;cases hk
 | cons hg _ ih =>
  intro k v hk;unfold Esp.get at hk;split at hk
  ·rename_i hb;have:=F8 hb;subst this;obtain rfl:=A5 hk;exact hg
  ·exact ih k v hk
theorem Sat.pick {a:Act} {e':Env} (ha:Sat n e a) (h:Pick e e'):Sat n e' a:=⟨ha.size,ha.defers,fun k v hk=>ha.slot k v (h.get k v hk)⟩
theorem Zyq {c:Code} {e':Env} (h:Pick e e') (hk:C P n c Q S e'):C P n c Q S e:=Zlx (fun _ ha=>ha.pick h) (fun _ h=>h) hk
inductive Spl:Env→Env→Env→Prop
  | zero {e:Env}:Spl e [] e
  | succ {x:Nat×Value} {e a b:Env}:Spl e a b→Spl (x::e) (x::a) b
theorem Spl.eq {e a b:Env} (h:Spl e a b):e=a++b:=by
 induction h with
 | zero=>rfl
 | succ _ ih=>simp [ih]
def Zvg {α:Type} (n:Sh) (e0:Env) (I:α→(World→Prop)→Env→Prop) (μ:α→Nat) (x:α):Act→World→Prop :=
 fun A w=>∃ y S' a',I y S' a'∧μ y<μ x∧Sat n (a'++e0) A∧S' w
theorem Zrx {α:Type} {c:Code} {a0 e0:Env} (hs:Spl e a0 e0) (I:α→(World→Prop)→Env→Prop) (μ:α→Nat) (x0:α) (h0:I x0 S a0)
 (round:∀ x S a,I x S a→C P n c (Exit.then (Zvg n e0 I μ x) Q) S (a++e0)):C P n (.loop c) Q S e:=by
 intro a w ha hw b k cs hro hb hr;have key:∀ m a w,(∃ x S z,I x S z∧μ x=m∧Sat n (z++e0) a∧S w) →
  ∃ e a' w',Q e a' w'∧ArrivesIn (Machine.fenced P (Fr n.ro)) P (lone (b.atR a (.code c::.inLoop c::k)) cs w) b k cs e a' w':=by
  intro m
  induction m using Nat.strongRecOn with
  | _ m ih =>
   rintro a w ⟨x,S,z,hI,hm',ha,hw⟩;subst hm';obtain ⟨ex,a₁,w₁,hq,harr⟩:=round x S z hI a w ha hw b (.inLoop c::k) cs hro hb hr;cases ex with
   | normal =>
    obtain ⟨y,S',z',hI',hlt,ha',hw'⟩:=hq;obtain ⟨e₂,a₂,w₂,hq₂,harr₂⟩:=ih (μ y) hlt a₁ w₁ ⟨y,S',z',hI',rfl,ha',hw'⟩;exact ⟨e₂,a₂,w₂,hq₂,.of_steps (StepsIn.trans harr (.one (fenced_calm hb hr rfl) stepR_inLoop)) harr₂⟩
   | exit id=>exact ⟨_,a₁,w₁,hq,.pass (x:=.inLoop c) rfl (fun _ _=>.inl jQ) harr⟩
   | goto l=>exact ⟨_,a₁,w₁,hq,.pass (x:=.inLoop c) rfl (fun _ _=>.inl jQ) harr⟩
   | ret=>exact ⟨_,a₁,w₁,hq,.pass (x:=.inLoop c) rfl (fun _ _=>.inl jQ) harr⟩
   | panic ch=>exact ⟨_,a₁,w₁,hq,.pass (x:=.inLoop c) rfl (fun _ _=>.inl jQ) harr⟩
   | outgrown=>exact ⟨_,a₁,w₁,hq,.pass (x:=.inLoop c) rfl (fun _ _=>.inl jQ) harr⟩
 obtain ⟨e',a',w',hq,harr⟩:=key _ a w ⟨x0,S,a0,h0,rfl,hs.eq ▸ ha,hw⟩;exact ⟨e',a',w',hq,.of_steps (.one (fenced_calm hb hr rfl) stepR_loop) harr⟩
theorem HD {args:List Value} {m:Nat}:∀ k v,args[k]?=some v→(args.toArray++Array.replicate (m-args.toArray.size) undef).getD k undef=v:=by
 intro k v hk;have hlt:=(C4.1 hk).1;have:(args.toArray++Array.replicate (m-args.toArray.size) undef)[k]?=some v:=by
  rw [Array.getElem?_append_left (by simpa using hlt)];simpa using hk
 simp_all
def RJ:Nat→List Value→Env
 | _,[]=>[]
 | k,v::vs=>(k,v)::RJ (k+1) vs
theorem Or:∀ (vs:List Value) (k j:Nat) (v:Value),get (RJ k vs) j=some v→k≤j∧vs[j-k]?=some v
 | [],k,j,v,h=>by cases h
 | x::vs,k,j,v,h=>by
  unfold RJ Esp.get at h;split at h
  ·rename_i hb;have:=F8 hb;subst this;obtain rfl:=A5 h;simp
  ·obtain ⟨h1,h2⟩:=Or vs (k+1) j v h;refine ⟨by omega,?_⟩;rw [show j-k=(j-(k+1))+1 by omega];simpa using h2
theorem enter {f:FuncId} {fn:Func} {c:Code} {vs:List Value} {w:World} {R:Ending→World→Prop} {m:Nat} (hf:P.funcs[f]?=some fn) (hb:fn.body=some c) (hm:fn.ntmps=m) (hle:Nat.ble vs.length m=true)
 (hw:S w) (h:C P ⟨m,[],none,[]⟩ c (bodyPost P fn R) S (RJ 0 vs)):Calls P f vs.toArray w R:=by
 have hle':vs.length≤m:=D1 hle;refine calls_of_wp hf hb (wpIn_wide.1 (h _ w ⟨?_,rfl,fun k v hk=>?_⟩ hw))
 ·grind
 ·rw [hm];obtain ⟨_,h2⟩:=Or vs 0 k v hk;exact HD k v (by simpa using h2)
theorem Xa {f:FuncId} {fn:Func} {c:Code} {vs:List Value} {R:Value→Prop} {m:Nat} (hf:P.funcs[f]?=some fn) (hb:fn.body=some c) (hm:fn.ntmps=m) (hle:Nat.ble vs.length m=true)
 (h:∀ H,C P ⟨m,[],none,[]⟩ c (bodyPost P fn fun e w'=>∃ v,e=.returned v∧St M H w'∧R v) (St M H) (RJ 0 vs)):Fs P f vs M R :=
 fun H _ hw=>enter (S:=St M H) hf hb hm hle hw (h H)
theorem WE {f:FuncId} {fn:Func} {c:Code} {vs:List Value} {R:Mem→Value→Prop} {m:Nat} (hf:P.funcs[f]?=some fn) (hb:fn.body=some c) (hm:fn.ntmps=m) (hle:Nat.ble vs.length m=true)
 (h:∀ H,C P ⟨m,[],none,[]⟩ c (bodyPost P fn fun e w'=>∃ v M',e=.returned v∧M.le M'∧St M' H w'∧R M' v) (St M H) (RJ 0 vs)):Fn P f vs M R :=
 fun H _ hw=>enter (S:=St M H) hf hb hm hle hw (h H)
theorem Uu {f:FuncId} {fn:Func} {c:Code} {vs:List Value} {Hin:Hp} {R:Mem→Value→Hp→Prop} {m:Nat} (hf:P.funcs[f]?=some fn) (hb:fn.body=some c) (hm:fn.ntmps=m) (hle:Nat.ble vs.length m=true)
 (h:∀ H,C P ⟨m,[],none,[]⟩ c (bodyPost P fn fun e w'=>∃ v M' Hout,e=.returned v∧M.le M'∧St M' (Hout++H) w'∧R M' v Hout) (St M (Hin++H)) (RJ 0 vs)):Fh P f vs M Hin R :=
 fun H _ hw=>enter (S:=St M (Hin++H)) hf hb hm hle hw (h H)
inductive Res (P:Program) (e:Env) (H:Hp):List ResultVar→List Value→Prop
  | nil:Res P e H [] []
  | tmp {t:Tmp} {v:Value} {rs:List ResultVar} {vs:List Value}:get e t=some v→Res P e H rs vs→Res P e H (.tmp t::rs) (v::vs)
  | cell {a:Tmp} {t T:TypeId} {b off m:Nat} {agg:Bool} {r r':Segs} {v:Value} {rs:List ResultVar} {vs:List Value}:get e a=some (.pointer (some ⟨b,off,none⟩))→(b,Yp r T)∈H→lay P t=some (agg,m)→Segs.sub r off m=some r'→Sp agg r'=some v →
      Res P e H rs vs→Res P e H (.cell a t::rs) (v::vs)
def IF (tmps:Array Value):ResultVar→Sem Value
 | .tmp t=>pure (tmps.getD t undef)
 | .cell a t=>do loadVar t (← asAddr (tmps.getD a undef))
theorem Res.run {a:Act} {w:World} (ha:Sat n e a) (hw:St M H w) {rs:List ResultVar} {vs:List Value} (h:Res P e H rs vs):(rs.mapM (IF a.tmps)).run P w=.ok vs w:=by
 induction h with
 | nil=>simp
 | @tmp t v rs vs hg hr ih =>
  have h1:(IF a.tmps (.tmp t)).run P w=.ok v w:=by rw [← ha.slot _ _ hg];rfl
  rw [List.mapM_cons,ZY h1,Sem.run_bind,ih,Result.andThen_ok];rfl
 | @cell x t T b off m agg r r' v rs vs hg hb hl hs hv hr ih =>
  obtain ⟨h1,h2⟩:=Segs.sub_cells hs;obtain ⟨_,_,_,_,h3⟩:=Segs.sub_spec hs;have:=LE (P:=P) (hw.own _ _ hb) hl h1 h3 hv;have h4:(IF a.tmps (.cell x t)).run P w=.ok v w:=by
   show (do loadVar t (← asAddr (a.tmps.getD x undef)):Sem Value).run P w=_;rw [ha.slot _ _ hg,Sem.run_bind];exact this
  rw [List.mapM_cons,ZY h4,Sem.run_bind,ih,Result.andThen_ok];rfl
def Zmb:List Value→Value
 | [v]=>v
 | vs=>.tuple vs.toArray
theorem Zec {n:Nat} {fn:Func} {R:Ending→World→Prop} {x:Exit} {vs:List Value} (hx:x=.normal∨x=.ret) (hr:Res P e H fn.results.toList vs) (h:∀ w,St M H w→R (.returned (Zmb vs)) w) :
 K ⟨n,[],none,[]⟩ (bodyPost P fn R) x (St M H) e:=by
 intro a w ha hw;have hrun:(results fn a.tmps).run P w=.ok (Zmb vs) w:=by
  have h1:=Res.run (P:=P) ha hw hr;have h2:results fn a.tmps=(do let vs ← fn.results.mapM (IF a.tmps);pure (if h:vs.size=1 then vs[0] else .tuple vs)):=by
   congr 1
  rw [h2,Array.mapM_eq_mapM_toList,Sem.run_bind];rw [Sem.run_map,h1];cases vs with
  | nil=>rfl
  | cons v vs=>cases vs <;> rfl
 rcases hx with rfl|rfl <;> exact ⟨ha.defers,_,hrun,h w hw⟩
end
end Go.Esp
namespace Go.Esp
def ZV:List Segs→List Value
 | []=>[]
 | r::rs=>Segs.cells r++ZV rs
theorem XJ:∀ a b:List Segs,ZV (a++b)=ZV a++ZV b
 | [],_=>rfl
 | x::a,b=>by simp [ZV,XJ a b]
theorem RM:∀ a:List Segs,Segs.cells (cat a)=ZV a
 | []=>rfl
 | x::a=>by simp [cat,Segs.cells_append,ZV,RM a]
def lens (sz:Nat) (rows:List Segs):Prop:=∀ r∈rows,Segs.len r=sz
theorem lens.append {sz:Nat} {a b:List Segs} (ha:lens sz a) (hb:lens sz b):lens sz (a++b):=fun r hr=>by
 rcases B8.1 hr with h|h
 ·exact ha r h
 ·exact hb r h
theorem YU {sz:Nat}:∀ {rows:List Segs},lens sz rows→(ZV rows).length=rows.length * sz
 | [],_=>by simp [ZV]
 | r::rs,h=>by
  simp only [ZV,B3,C8,Segs.cells_length,h r (.head _),YU (fun x hx=>h x (.tail _ hx)),F4];omega
theorem Rp {sz:Nat}:∀ {rows:List Segs} {i:Nat} {r:Segs},lens sz rows→rows[i]?=some r→((ZV rows).drop (i * sz)).take sz=Segs.cells r
 | [],i,r,_,h=>by simp at h
 | x::rs,0,r,hl,h=>by
  simp at h;subst h;have:=hl x (.head _);simp [ZV,← this,← Segs.cells_length]
 | x::rs,i+1,r,hl,h=>by
  have:=hl x (.head _);simp only [ZV];rw [show (i+1) * sz=(Segs.cells x).length+i * sz by rw [Segs.cells_length,this,F4];omega,List.drop_append];simp only [Nat.add_sub_cancel_left];rw [List.drop_of_length_le jD,B6];exact Rp (fun y hy=>hl y (.tail _ hy)) zL
structure SlM (M:Mem) (a:Option Addr) (rows:List Segs) (sz:Nat):Prop where
  lens:lens sz rows
  there:rows≠[]→∃ b off c T fz,a=some ⟨b,off,none⟩∧M b=some (.cells c T fz)∧(c.toList.drop off).take (rows.length * sz)=ZV rows
theorem SlM.mono {M M':Mem} {a:Option Addr} {rows:List Segs} {sz:Nat} (h:SlM M a rows sz) (hm:M.le M'):SlM M' a rows sz :=
 ⟨h.lens,fun hn=>let ⟨b,off,c,T,fz,h1,h2,h3⟩:=h.there hn;⟨b,off,c,T,fz,h1,hm.1 _ _ h2,h3⟩⟩
theorem SlM.nil (M:Mem) (a:Option Addr) (sz:Nat):SlM M a [] sz:=⟨fun r hr=>(by cases hr),fun h=>(h rfl).elim⟩
theorem SlM.at {M:Mem} {a:Option Addr} {rows:List Segs} {sz:Nat} (h:SlM M a rows sz) {i:Nat} {r:Segs} (hr:rows[i]?=some r) :
 ∃ b off c T fz,a=some ⟨b,off,none⟩∧M b=some (.cells c T fz)∧(c.toList.drop (off+i * sz)).take sz=Segs.cells r∧Segs.len r=sz:=by
 have hlt:=(C4.1 hr).1;obtain ⟨b,off,c,T,fz,h1,h2,h3⟩:=h.there (fun e=>by rw [e] at hlt;cases hlt);refine ⟨b,off,c,T,fz,h1,h2,?_,h.lens r (H8 hr)⟩;rw [← Rp h.lens hr,← h3,J7,I3,E5];have:(i+1) * sz≤rows.length * sz:=D2 _ hlt;grind
def Zme (a:Option Addr) (j sz off:Nat):Value:=.pointer (a.map (·.add (j * sz+off)))
theorem Ru (b o j sz off:Nat):Zme (some ⟨b,o,none⟩) j sz off=.pointer (some ⟨b,o+(j * sz+off),none⟩):=by
 simp [Zme,Addr.add_lit]
inductive OSl (T sz:Nat):Value→Hp→List Segs→Prop
  | nil:OSl T sz (.slice none 0 0) [] []
  | own (b c:Nat) (rows:List Segs) (cur:Array Value):lens sz rows→rows.length≤c→c≤maxLen→cur.size=c * sz→cur.toList.take (rows.length * sz)=ZV rows →
      OSl T sz (.slice (some ⟨b,0,none⟩) rows.length c) [(b,.cells cur T (0,0))] rows
theorem OSl.lens {T sz:Nat} {v:Value} {hs:Hp} {rows:List Segs} (h:OSl T sz v hs rows):lens sz rows:=by
 cases h with
 | nil=>intro r hr;cases hr
 | own _ _ _ _ h=>exact h
theorem OSl.val {T sz:Nat} {v:Value} {hs:Hp} {rows:List Segs} (h:OSl T sz v hs rows):∃ a c,v=.slice a rows.length c:=by
 cases h with
 | nil=>exact ⟨_,_,rfl⟩
 | own=>exact ⟨_,_,rfl⟩
inductive Rem (hs:Hp):Hp→Hp→Prop
  | here (H0:Hp):Rem hs (hs++H0) H0
  | skip {x:Nat×Obj} {H H0:Hp}:Rem hs H H0→Rem hs (x::H) (x::H0)
  | over {gs H H0:Hp}:Rem hs H H0→Rem hs (gs++H) (gs++H0)
theorem St.perm {M:Mem} {H H':Hp} {w:World} (h:St M H w) (hp:H.Perm H'):St M H' w :=
 ⟨h.mem,fun b o hb=>h.own b o (hp.mem_iff.2 hb),fun b o hb=>h.sep b o (hp.mem_iff.2 hb),(hp.map _).nodup_iff.1 h.nodup,h.io⟩
theorem Rem.perm {hs H H0:Hp} (h:Rem hs H H0):H.Perm (hs++H0):=by
 induction h with
 | here=>exact I9 _
 | @skip x H H0 _ ih=>exact (ih.cons x).trans (List.perm_middle.symm)
 | @over gs H H0 _ ih =>
  refine (ih.append_left gs).trans ?_;rw [← B5,← B5];exact (List.perm_append_comm).append_right _
theorem St.frame {M:Mem} {hs hs' H0:Hp} {w w':World} (h:St M (hs++H0) w) (h1:∀ b o,M b=some o→w'.heap[b]?=some o) (h2:∀ b o,(b,o)∈H0→w'.heap[b]?=some o) (h3:∀ b o,(b,o)∈hs'→w'.heap[b]?=some o)
 (h4:∀ b o,(b,o)∈hs'→M b=none) (h5:((hs'++H0).map Prod.fst).Nodup) (hio:SameIO w w'):St M (hs'++H0) w' :=
 ⟨h1,fun b o hb=>by rcases B8.1 hb with hb|hb;exact h3 b o hb;exact h2 b o hb,
  fun b o hb=>by rcases B8.1 hb with hb|hb;exact h4 b o hb;exact h.sep b o (D0 _ hb),h5,hio.io h.io⟩
theorem GD {w:World} {b off:Nat} {c:Array Value} {T:TypeId} {fz:Nat×Nat} {xs:List Value} (hb:w.heap[b]?=some (.cells c T fz)) {n:Nat} (hx:(c.toList.drop off).take n=xs) :
 ∀ j v,xs[j]?=some v→w.cell? ((⟨b,off,none⟩:Addr).add j)=some v:=by
 intro j v hj;rw [Addr.add_lit,Qn hb];grind
section
variable {P:Program}
theorem CE {t E sz by_:Nat} {z:Value} (ht:Na P t=some (E,sz,by_)) (hz:XP P E=some z) (hzs:z.cells.size=sz) (hsz:0<sz) {v:Value} {hs:Hp} {rows:List Segs} (ho:OSl E sz v hs rows)
 {a:Addr} {m c:Nat} {news:List Segs} (hl:lens sz news) (hm:news.length=m) {w:World} (hn:∀ j u,(ZV news)[j]?=some u→w.cell? (a.add j)=some u) (h1:∀ u∈ZV news,u.oneCell'=true)
 (h63:rows.length+m≤maxLen) (hby:(rows.length+m) * by_≤140737488355328) (ty:TypeId) {M:Mem} {H0:Hp} (hst:St M (hs++H0) w) :
 ∃ v' w' hs',(Builtin.append_ #[t,t] ty #[v,.slice (some a) m c]).run P w=.ok v' w'∧OSl E sz v' hs' (rows++news)∧St M (hs'++H0) w':=by
 obtain ⟨i,hu,hi,rfl,rfl⟩:=Wq ht;have hz':i.zero=some z:=by simpa [XP,hi] using hz
 have hsmall:rows.length+m≤9223372036854775807:=by simp only [maxLen] at h63;omega
 have hnl:(ZV news).length=m * i.size:=by rw [YU hl,hm]
 have hall:lens i.size (rows++news):=ho.lens.append hl;have hlen:(rows++news).length=rows.length+m:=by simp [hm]
 have grown:∀ old,old<rows.length+m→∃ hs',OSl E i.size (.slice (some ⟨w.heap.size,0,none⟩) (rows.length+m) (grownCap w (rows.length+m) old E)) hs' (rows++news) ∧
  St M (hs'++H0) (w.drew.alloc (.cells ((ZV rows).toArray++(ZV news).toArray++Builtin.zeroCells z.cells (grownCap w (rows.length+m) old E-(rows.length+m))) E)):=by
  intro old hold;have hge:=grownCap_ge w (rows.length+m) old E;have hcm:grownCap w (rows.length+m) old E≤maxLen:=grownCap_le_maxLen w (rows.length+m) old E h63;have h2:St M ([(w.heap.size,.cells ((ZV rows).toArray++(ZV news).toArray++Builtin.zeroCells z.cells (grownCap w (rows.length+m) old E-(rows.length+m))) E)]++H0)
   (w.drew.alloc (.cells ((ZV rows).toArray++(ZV news).toArray++Builtin.zeroCells z.cells (grownCap w (rows.length+m) old E-(rows.length+m))) E)):=by
   have h0:St M H0 w.drew:=(hst.suf (H':=H0) (Suf.app hs H0)).heap rfl ⟨rfl,rfl,rfl,Nat.le_succ _⟩;exact h0.alloc _
  refine ⟨_,?_,h2⟩
  ·rw [← hlen] at hge hcm ⊢;refine OSl.own _ _ _ _ hall hge hcm ?_ ?_
   ·simp only [Array.size_append,J2,size_zeroCells,hzs,YU ho.lens,hnl];rw [hlen,← F4,← F4];congr 1;rw [hlen] at hge;omega
   ·simp only [Array.toList_append];rw [← YU hall,XJ];exact List.take_left
 cases ho with
 | nil =>
  by_cases hm0:m=0
  ·subst hm0;have hnn:news=[]:=D4 hm;subst hnn;refine ⟨.slice none 0 0,w,[],?_,OSl.nil,hst⟩;simp [Builtin.append_,run_underlying hu,sizeOf,typeInfo,hi,Builtin.lenOf,Builtin.firstCells,loadCells,loadCellsFrom]
  ·have hr:=run_append_nil (P:=P) w t ty E i z hu hi hz' a m c (ZV news) hnl hn jD (by simp at hsmall;omega) (by have hb:=hby;simp only [D5,F2] at hb;omega);obtain ⟨hs',g1,g2⟩:=grown 0 jU;simp only [D5,F2,ZV] at g1 g2 hr;exact ⟨_,_,hs',hr,g1,by simpa using g2⟩
 | own b cap _ cur hlr hcap hcm hcs htake =>
  have hb:=hst.own b _ (C5 _ (.head _));by_cases hroom:rows.length+m≤cap
  ·have hfit:rows.length * i.size+(ZV news).length≤cur.size:=by rw [hnl,hcs,← F4];exact D2 _ hroom
   have hr:=run_append_room (P:=P) w t ty E i hu hi b rows.length cap cur hb a m c (ZV news) hnl hn h1 hroom hfit;have h2:St M ([(b,.cells (cur.toList.take (rows.length * i.size)++ZV news++cur.toList.drop (rows.length * i.size+(ZV news).length)).toArray E (0,0))]++H0)
    (w.setRow b (cur.toList.take (rows.length * i.size)++ZV news++cur.toList.drop (rows.length * i.size+(ZV news).length)).toArray):=by
    refine hst.frame (hs':=[(b,_)]) (fun k o hk=>?_) (fun k o hk=>?_) (fun k o hk=>?_) (fun k o hk=>?_) ?_ (SameIO.refl _)
    ·rw [setRow_other w b k _ (fun e=>?_)]
     ·exact hst.mem k o hk
     ·subst e;have:=hst.sep k _ (C5 _ (.head _));rw [this] at hk;cases hk
    ·rw [setRow_other w b k _ (fun e=>?_)]
     ·exact hst.own k o (D0 _ hk)
     ·subst e;have:=hst.nodup;simp only [D3,B4,D9] at this;exact this.1 (C0.2 ⟨_,hk,rfl⟩)
    ·simp only [B0,I8] at hk;obtain ⟨rfl,rfl⟩:=hk;exact setRow_heap w k cur _ E _ hb
    ·simp only [B0,I8] at hk;obtain ⟨rfl,rfl⟩:=hk;exact hst.sep k _ (C5 _ (.head _))
    ·simpa using hst.nodup
   refine ⟨_,_,_,hr,?_,h2⟩
   ·rw [← hlen];refine OSl.own b cap _ _ hall jD hcm ?_ ?_
    ·simp only [J2,B3,D8,F3,H6];omega
    ·rw [htake,← YU hall,XJ];exact List.take_left
  ·have hr:=run_append_grow (P:=P) w t ty E i z hu hi hz' ⟨b,0,none⟩ rows.length cap (ZV rows) (YU hlr) (GD hb (by simpa using htake)) a m c (ZV news) hnl hn jD jD (growslice_fits jD hby);obtain ⟨hs',g1,g2⟩:=grown cap jD;exact ⟨_,_,hs',hr,g1,g2⟩
end
end Go.Esp
namespace Go.Esp
section
variable {P:Program} {n:Sh} {ops:Array Oper} {Q:Exit→Act→World→Prop} {rest:List Nat} {M M':Mem} {H H':Hp} {e:Env} {J S:World→Prop} {A:As} {i:Nat}
  {dst:Option Tmp} {d:Tmp} {op:Op} {ty:TypeId} {pos:String} {af:Array Edge} {gd:Option (Nat×Bool)}
def Zln (a:Option Addr):Prop:=∃ b o,a=some ⟨b,o,none⟩
theorem SlM.plain {a:Option Addr} {rows:List Segs} {sz:Nat} (h:SlM M a rows sz) (hn:0<rows.length):Zln a:=by
 obtain ⟨b,off,_,_,_,h1,_⟩:=h.there (fun e=>by rw [e] at hn;cases hn);exact ⟨b,off,h1⟩
theorem NJ {t E sz by_:Nat} {x ix:Operand} {a:Option Addr} {l c k:Nat} {q:IntKind} {z:Int} (hi:ops[i]?=some ⟨some d,.indexAddr t x ix,ty,pos,af,gd⟩) (hg:want ops e gd=some true)
 (hx:ev e x=some (.slice a l c)) (hix:ev e ix=some (.int q z)) (ht:Na P t=some (E,sz,by_)) (hz:z=(k:Int)) (hk:k<l) (ha:Zln a) (hd:Nat.ble (d+1) n.sz=true)
 (hK:XD P n ops Q rest J A ((d,Zme a k sz 0)::e)):XD P n ops Q (i::rest) J A e :=
 VA hi rfl hg (fun a' w hA=>Xp (by
  simp only [execOp,hA.ev hx,hA.ev hix];refine Wz ?_;obtain ⟨it,hu,hit,rfl,_⟩:=Wq ht;obtain ⟨b,o,rfl⟩:=ha;subst hz;simp [Instr.indexAt,asIntOf,run_underlying hu,sizeOf,typeInfo,hit,hk,Ru,Addr.add_lit])) (fun a ha=>ha.put hd _) hK
theorem Ih {s:TypeId} {x:Operand} {f k j sz off:Nat} {a:Option Addr} (hi:ops[i]?=some ⟨some d,.fieldAddr s x f,ty,pos,af,gd⟩) (hg:want ops e gd=some true) (hx:ev e x=some (Zme a j sz off)) (ha:Zln a)
 (hf:Zjb P s f=some k) (hd:Nat.ble (d+1) n.sz=true) (hk:XD P n ops Q rest J A ((d,Zme a j sz (off+k))::e)):XD P n ops Q (i::rest) J A e :=
 VA hi rfl hg (fun a' w hA=>Xp (by
  simp only [execOp,hA.ev hx];obtain ⟨b,o,rfl⟩:=ha;rw [Ru,Ru];have:=KK (P:=P) (w:=w) (b:=b) (off:=o+(j * sz+off)) hf;rw [show o+(j * sz+(off+k))=o+(j * sz+off)+k by omega];exact Wz this)) (fun a ha=>ha.put hd _) hk
theorem OSl.inv {T sz:Nat} {b l c:Nat} {hs:Hp} {rows:List Segs} (h:OSl T sz (.slice (some ⟨b,0,none⟩) l c) hs rows) :
 ∃ cur,hs=[(b,.cells cur T (0,0))]∧l=rows.length∧Esp.lens sz rows∧rows.length≤c∧c≤maxLen∧cur.size=c * sz∧cur.toList.take (rows.length * sz)=ZV rows:=by
 generalize hv:Value.slice (some ⟨b,0,none⟩) l c=v at h;cases h with
 | nil=>cases hv
 | own b2 c2 rows cur h1 h2 h3 h4 h5 =>
  obtain ⟨rfl,rfl,rfl⟩:=hv;exact ⟨cur,rfl,rfl,h1,h2,h3,h4,h5⟩
theorem JP {t:TypeId} {x:Operand} {j sz off m:Nat} {a:Option Addr} {agg:Bool} {rows:List Segs} {r r':Segs} {v:Value} {MJ:Mem} {HJ:Hp} (hi:ops[i]?=some ⟨some d,.load t x,ty,pos,af,gd⟩) (hg:want ops e gd=some true)
 (hx:ev e x=some (Zme a j sz off)) (hsl:SlM MJ a rows sz) (hr:rows[j]?=some r) (hl:lay P t=some (agg,m)) (hs:Segs.sub r off m=some r') (hv:Sp agg r'=some v)
 (hd:Nat.ble (d+1) n.sz=true) (hk:XD P n ops Q rest (St MJ HJ) A ((d,v)::e)):XD P n ops Q (i::rest) (St MJ HJ) A e :=
 UB hi rfl hg (fun a' w ha hw=>Xp (by
  simp only [execOp,ha.ev hx];obtain ⟨b,o,c,T,fz,rfl,h2,h3,h4⟩:=hsl.at hr;rw [Ru];obtain ⟨h5,h6⟩:=Segs.sub_cells hs;obtain ⟨_,_,_,_,h7⟩:=Segs.sub_spec hs;refine Wz (ST (hw.mem _ _ h2) hl ?_ h7 hv);rw [← h5,← h3,J7,I3,E5];rw [show o+(j * sz+off)=o+j * sz+off by omega];congr 1;omega)) (fun a ha=>ha.put hd _) hk
theorem Zdv {t T:TypeId} {x:Operand} {j sz off m b c:Nat} {agg:Bool} {rows:List Segs} {r r':Segs} {v:Value} {MJ:Mem} {HJ HJ0 hs:Hp} (hi:ops[i]?=some ⟨some d,.load t x,ty,pos,af,gd⟩) (hg:want ops e gd=some true)
 (hx:ev e x=some (Zme (some ⟨b,0,none⟩) j sz off)) (ho:OSl T sz (.slice (some ⟨b,0,none⟩) rows.length c) hs rows) (hH:Rem hs HJ HJ0) (hr:rows[j]?=some r) (hl:lay P t=some (agg,m)) (hsu:Segs.sub r off m=some r') (hv:Sp agg r'=some v)
 (hd:Nat.ble (d+1) n.sz=true) (hk:XD P n ops Q rest (St MJ HJ) A ((d,v)::e)):XD P n ops Q (i::rest) (St MJ HJ) A e :=
 UB hi rfl hg (fun a' w ha hw=>Xp (by
  simp only [execOp,ha.ev hx];have hw':=hw.perm hH.perm;obtain ⟨cur,rfl,_,h1,h2,h3,h4,h5⟩:=ho.inv
  ·have hb:=hw'.own b _ (C5 _ (.head _));rw [Ru];obtain ⟨h6,h8⟩:=Segs.sub_cells hsu;obtain ⟨_,_,_,_,h7⟩:=Segs.sub_spec hsu;refine Wz (ST hb hl ?_ h7 hv);have hlt:=(C4.1 hr).1;have hlr:=h1 r (H8 hr);rw [← h6,← Rp h1 hr,← h5];simp only [J7,I3,E5,F2];congr 1;have:(j+1) * sz≤rows.length * sz:=D2 _ hlt;rw [F4] at this;omega)) (fun a ha=>ha.put hd _) hk
theorem Zpv {t E sz by_:Nat} {x:Operand} {a:Option Addr} {l c:Nat} {ats:Array TypeId} (hi:ops[i]?=some ⟨some d,.call ⟨.builtin .len,#[x],ats⟩,ty,pos,af,gd⟩) (hg:want ops e gd=some true)
 (hx:ev e x=some (.slice a l c)) (hat:ats[0]?=some t) (ht:Na P t=some (E,sz,by_)) (hd:Nat.ble (d+1) n.sz=true) (hk:XD P n ops Q rest J A ((d,.int .i64 (l:Int))::e)):XD P n ops Q (i::rest) J A e :=
 UB hi rfl hg (fun a' w ha _=>Xp (by
  obtain ⟨it,hu,_⟩:=Wq ht;simp only [execOp,resolve];simp [invoke,builtin,Builtin.len_,ha.ev hx,hat,run_underlying hu,goInt])) (fun a ha=>ha.put hd _) hk
theorem DV {t:Nat} {x:Operand} {s:ByteArray} {ats:Array TypeId} (hi:ops[i]?=some ⟨some d,.call ⟨.builtin .len,#[x],ats⟩,ty,pos,af,gd⟩) (hg:want ops e gd=some true)
 (hx:ev e x=some (.string s)) (hat:ats[0]?=some t) (ht:P.underlying t=some .string) (hd:Nat.ble (d+1) n.sz=true) (hk:XD P n ops Q rest J A ((d,.int .i64 (s.size:Int))::e)):XD P n ops Q (i::rest) J A e :=
 UB hi rfl hg (fun a' w ha _=>Xp (by
  simp only [execOp,resolve];simp [invoke,builtin,Builtin.len_,ha.ev hx,hat,run_underlying ht,goInt])) (fun a ha=>ha.put hd _) hk
def IK (f:Nat→Value) (sz i:Nat):Segs:=(List.range sz).map fun j=>.one (f (i * sz+j))
theorem OE (f:Nat→Value) (i:Nat):∀ sz,Segs.len (IK f sz i)=sz:=by
 intro sz;unfold IK;have:∀ l:List Nat,Segs.len (l.map fun j=>Seg.one (f (i * sz+j)))=l.length:=by
  intro l;induction l with
  | nil=>rfl
  | cons x l ih=>simp [Segs.len,Seg.len];omega
 grind
theorem EH (f:Nat→Value) (sz i:Nat):Segs.cells (IK f sz i)=(List.range sz).map fun j=>f (i * sz+j):=by
 unfold IK;generalize List.range sz=l
 induction l with
 | nil=>rfl
 | cons x l ih=>simp [Segs.cells,Seg.cells,ih]
def Se (f:Nat→Value) (sz k:Nat):List Segs:=(List.range k).map (IK f sz)
theorem PA (f:Nat→Value) (sz:Nat):∀ k,ZV (Se f sz k)=(List.range (k * sz)).map f
 | 0=>by simp [Se,ZV]
 | k+1=>by
  have ih:=PA f sz k;unfold Se at ih ⊢;rw [List.range_succ,C6,XJ,ih,F4,Nat.one_mul,List.range_add,C6];congr 1;simp [ZV,EH]
theorem EK (f:Nat→Value) (sz:Nat):∀ (l:List Nat) (i:Nat),i≤l.length→Ea (l.map (IK f sz)) i=i * sz
 | _,0,_=>by simp [Ea]
 | [],i+1,h=>by simp at h
 | x::l,i+1,h=>by simp [Ea,OE,EK f sz l i zL,F4];omega
theorem LC:∀ {zs zs':List Segs} {ps:List (Nat×Segs)} {sz:Nat},UX zs ps=some zs'→lens sz zs→lens sz zs'∧zs'.length=zs.length
 | zs,zs',[],sz,h,hl=>by
  obtain rfl:=A5 h;exact ⟨hl,rfl⟩
 | zs,zs',(i,r)::ps,sz,h,hl=>by
  unfold UX at h;split at h
  ·rename_i zs1 h1;obtain ⟨p,z,q,e1,e2,e3,e4⟩:=Qy h1;have hz:Segs.len z=sz:=hl z (by rw [e1];simp);have h2:lens sz zs1:=fun y hy=>by
    rw [e2] at hy;rcases B8.1 hy with hy|hy
    ·exact hl y (by rw [e1];simp [hy])
    ·rcases B7.1 hy with rfl|hy
     ·rw [← e4];exact hz
     ·exact hl y (by rw [e1];simp [hy])
   obtain ⟨h3,h4⟩:=LC h h2;exact ⟨h3,by rw [h4,e2,e1];simp⟩
  ·cases h
theorem DY {t E sz by_ k:Nat} {z:Value} {xs:List (Nat×Operand)} {ps:List (Nat×Segs)} {zs':List Segs} (hi:ops[i]?=some ⟨some d,.buildSlice t k xs.toArray,ty,pos,af,gd⟩) (hg:want ops e gd=some true)
 (ht:Na P t=some (E,sz,by_)) (hz:XP P E=some z) (hsz:Nat.ble (k * sz) 16777216=true) (hkm:Nat.ble k 16777216=true) (hx:EvParts e xs ps) (hs:∀ f,UX (Se f sz k) ps=some zs') (hd:Nat.ble (d+1) n.sz=true)
 (hk:∀ b,OSl E sz (.slice (some ⟨b,0,none⟩) k k) [(b,.cells (ZV zs').toArray E (0,0))] zs'→XD P n ops Q rest J ⟨M,(b,.cells (ZV zs').toArray E (0,0))::H⟩ ((d,.slice (some ⟨b,0,none⟩) k k)::e)):XD P n ops Q (i::rest) J ⟨M,H⟩ e:=by
 obtain ⟨it,hu,hit,rfl,rfl⟩:=Wq ht;have hz':it.zero=some z:=by simpa [XP,hit] using hz
 have hle:=D1 hsz;have hlz:∀ f,lens it.size (Se f it.size k):=fun f r hr=>by
  obtain ⟨j,_,rfl⟩:=C0.1 hr;exact OE f j it.size
 have hlz':lens it.size zs'∧zs'.length=k:=by
  obtain ⟨h1,h2⟩:=LC (hs (fun _=>undef)) (hlz _);exact ⟨h1,by rw [h2];simp [Se]⟩
 have hob:∀ b,OSl E it.size (.slice (some ⟨b,0,none⟩) k k) [(b,.cells (ZV zs').toArray E (0,0))] zs':=fun b=>by
  have h1:=OSl.own b k zs' (ZV zs').toArray (T:=E) (sz:=it.size) hlz'.1 jD (by
   have:=D1 hkm;simp only [maxLen];omega) (by simp [YU hlz'.1,hlz'.2]) (by rw [← YU hlz'.1];simp)
  rw [hlz'.2] at h1;exact h1
 refine Zag (x:=.cells (ZV zs').toArray E (0,0)) (g:=fun b=>.slice (some ⟨b,0,none⟩) k k) hi rfl hg (fun a ha w=>?_) (e':=fun b=>(d,.slice (some ⟨b,0,none⟩) k k)::e) (fun a b ha=>ha.put hd _) (fun b=>hk b (hob b));have hfill:∀ (cs:Array Value) (f:Nat→Value),cs=((List.range (k * it.size)).map f).toArray→Instr.fill (fun i=>some (i * it.size,it.size)) cs (xs.map fun p=>(p.1,a.eval p.2))=some (ZV zs').toArray:=by
  intro cs f hcs;have:=Lh ps (xs.map fun p=>(p.1,a.eval p.2)) (Se f it.size k) zs' (fun i=>some (i * it.size,it.size)) (fun j y hj=>by
   have hlt:=(C4.1 hj).1;have h1:Ea (Se f it.size k) j=j * it.size:=EK f it.size (List.range k) j (by simp [Se] at hlt;simp;omega);rw [h1,hlz f y (H8 hj)]) (hx.run ha) (hs f)
  rw [RM,RM,PA] at this;rw [hcs];exact this
 have:(execOp a.eval ⟨some d,.buildSlice t k xs.toArray,ty,pos,af,gd⟩).run P w=.ok (.value (.slice (some ⟨w.heap.size,0,none⟩) k k)) (w.alloc (.cells (ZV zs').toArray E (0,0))):=by
  refine Wz ?_;unfold Instr.buildSlice;rw [ZY (YP hu)];rw [ZY (Th hit)];simp only [show ¬(k * it.size > 2 ^ 24) by omega,if_false];have hmap:(Array.map (fun x=>(x.fst,a.eval x.snd)) xs.toArray).toList=xs.map fun p=>(p.1,a.eval p.2):=by simp
  by_cases h0:k * it.size=0
  ·simp only [h0,if_true];rw [Sem.run_bind];show (Result.ok #[] w).andThen _=_;rw [Result.andThen_ok,hmap,hfill _ (fun _=>undef) (by rw [h0];simp)];rfl
  ·simp only [h0,if_false];have hzv:(zeroValue E).run P w=.ok z w:=by simp [zeroValue,typeInfo,hit,hz']
   rw [ZY hzv,Sem.run_bind];show (Result.ok z.cells w).andThen _=_;rw [Result.andThen_ok,hmap,hfill _ (fun i=>z.cells[i % z.cells.size]!) (by apply Array.ext';simp [Array.toList_range])];rfl
 exact this
end
end Go.Esp
namespace Go.Esp
section
variable {P:Program} {n:Sh} {ops:Array Oper} {Q:Exit→Act→World→Prop} {rest:List Nat} {M M':Mem} {H H' H0:Hp} {e:Env} {J S:World→Prop} {A:As} {i:Nat}
  {dst:Option Tmp} {d:Tmp} {op:Op} {ty:TypeId} {pos:String} {af:Array Edge} {gd:Option (Nat×Bool)}
theorem dT {p:Prop} [Decidable p] (h:decide p=true):p:=of_decide_eq_true h
theorem dF {p:Prop} [Decidable p] (h:decide p=false):¬p:=of_decide_eq_false h
theorem nT {p:Prop} [Decidable p] (h:(!decide p)=true):¬p:=by simpa using h
theorem nF {p:Prop} [Decidable p] (h:(!decide p)=false):p:=by simpa using h
theorem MQ {α:Type} {l:List α} {f:α→Segs} {j:Nat} (h:j<l.length):(l.map f)[j]?=some (f l[j]):=by simp [h]
def Src (M:Mem) (H:Hp) (sz:Nat) (v:Value) (news:List Segs):Prop :=
 lens sz news∧(∀ u∈ZV news,u.oneCell'=true)∧∃ a c,v=.slice (some a) news.length c∧∀ w,St M H w→∀ j u,(ZV news)[j]?=some u→w.cell? (a.add j)=some u
theorem Src.own {sz b k:Nat} {news:List Segs} {E:TypeId} (hl:lens sz news) (h1:∀ u∈ZV news,u.oneCell'=true) (hk:k=news.length) (hb:(b,.cells (ZV news).toArray E (0,0))∈H):Src M H sz (.slice (some ⟨b,0,none⟩) k k) news:=by
 subst hk;refine ⟨hl,h1,_,_,rfl,fun w hw=>?_⟩;have:=hw.own _ _ hb;exact GD this (n:=(ZV news).length) jQ
theorem Vc {t E sz by_ m:Nat} {z:Value} {x y:Operand} {u v:Value} {hs:Hp} {rows news:List Segs} {ats:Array TypeId} (hi:ops[i]?=some ⟨some d,.call ⟨.builtin .append,#[x,y],ats⟩,ty,pos,af,gd⟩) (hg:want ops e gd=some true)
 (hx:ev e x=some v) (hy:ev e y=some u) (hat:ats=#[t,t]) (ht:Na P t=some (E,sz,by_)) (hz:XP P E=some z) (hzs:z.cells.size=sz) (hsz:Nat.ble 1 sz=true) (ho:OSl E sz v hs rows) (hH:Rem hs H H0)
 (hsrc:Src M H sz u news) (hm:rows.length+news.length≤m) (hbm:Nat.ble (m * (by_+1)) 140737488355328=true) (hd:Nat.ble (d+1) n.sz=true)
 (hk:∀ v' hs',OSl E sz v' hs' (rows++news)→XD P n ops Q rest (St M (hs'++H0)) ⟨M,hs'++H0⟩ ((d,v')::e)) (hnw:n.wrs.contains i=false:=by rfl):XD P n ops Q (i::rest) J ⟨M,H⟩ e:=by
 subst hat;refine SK hi rfl hg (fun a w ha hw=>?_) hnw;obtain ⟨hl,h1,ad,c,rfl,hsr⟩:=hsrc;have hbm':=D1 hbm;have h2:m * (by_+1)=m * by_+m:=by rw [Nat.mul_add,Nat.mul_one]
 have h3:(rows.length+news.length) * by_≤m * by_:=D2 _ hm;obtain ⟨v',w',hs',hr,ho',hst⟩:=CE ht hz hzs (D1 hsz) ho hl rfl (hsr w hw) h1 zZ jD ty (hw.perm hH.perm);unfold Oper.does;have:(execOp a.eval ⟨some d,.call ⟨.builtin .append,#[x,y],#[t,t]⟩,ty,pos,af,gd⟩).run P w=.ok (.value v') w':=by
  simp only [execOp,resolve];have e1:#[x,y].map a.eval=#[v,.slice (some ad) news.length c]:=by simp [ha.ev hx,ha.ev hy]
  rw [e1];show (Result.ok _ w).andThen _=_;exact Wz hr
 rw [this];exact ⟨⟨M,hs'++H0⟩,_,hst,ha.put hd v',hk v' hs' ho'⟩
theorem OSl.freeze {T sz:Nat} {v:Value} {hs:Hp} {rows:List Segs} (ho:OSl T sz v hs rows) {w:World} (hw:St M (hs++H) w):∃ M' a c,M.le M'∧St M' H w∧v=.slice a rows.length c∧SlM M' a rows sz:=by
 cases ho with
 | nil=>exact ⟨M,none,0,Mem.le.refl M,hw,rfl,SlM.nil M none sz⟩
 | own b c _ cur h1 h2 h3 h4 h5 =>
  obtain ⟨g1,g2⟩:=St.freeze hw;exact ⟨_,_,_,g1,g2,rfl,h1,fun _=>⟨b,0,cur,T,(0,0),rfl,Mem.add_self M b _,by simpa using h5⟩⟩
end
theorem cT {p A:Prop} [Decidable p] (h:p→A) (x:decide p=true):A:=h (dT x)
theorem cF {p A:Prop} [Decidable p] (h:¬p→A) (x:decide p=false):A:=h (dF x)
theorem eT {p A:Prop} [Decidable p] (h:¬p→A) (x:(!decide p)=true):A:=h (nT x)
theorem eF {p A:Prop} [Decidable p] (h:p→A) (x:(!decide p)=false):A:=h (nF x)
end Go.Esp
namespace Go.Esp
abbrev IM:=List (Int×Value)
def Xw (l:IM) (k:Int):Option Value:=match l with
 | []=>none
 | (j,v)::r=>if k=j then some v else Xw r k
def PM (l:IM) (k:Int) (v:Value):IM:=match l with
 | []=>[]
 | (j,u)::r=>if k=j then (j,v)::r else (j,u)::PM r k v
def Pb (l:IM) (k:Int):IM:=match l with
 | []=>[]
 | (j,u)::r=>if k=j then r else (j,u)::Pb r k
def VS (l:IM) (k:Int) (v:Value):IM:=match Xw l k with
 | some _=>PM l k v
 | none=>l++[(k,v)]
def kvs (es:Array MapEntry):List (Value×Value):=es.toList.map fun x=>(x.key,x.val)
def imO (o:Obj) (l:IM):Prop:=∃ es clock,o=.map es clock∧kvs es=l.map fun p=>(.int .i64 p.1,p.2)
theorem JF (k:Int):∀ (es:List MapEntry) (l:IM) (i:Nat),es.map (fun x=>(x.key,x.val))=l.map (fun p=>(.int .i64 p.1,p.2)) →
 Instr.findNow (.int .i64) (.int .i64 k) es i=some (match Xw l k with|some v=>some (i+(l.findIdx fun p=>k=p.1),v)|none=>none)
 | [],[],i,_=>rfl
 | [],_::_,_,h=>by simp at h
 | _::_,[],_,h=>by simp at h
 | x::es,(j,v)::l,i,h=>by
  simp only [D3,J9,I8] at h;obtain ⟨⟨h1,h2⟩,h3⟩:=h;unfold Instr.findNow;rw [h1];simp only [Instr.sameNow,if_true];by_cases e:k=j
  ·subst e;simp [Xw,G9,h2]
  ·have:(k == j)=false:=by simp [e]
   simp only [this];rw [JF k es l (i+1) h3];simp only [Xw,e,if_false];cases Xw l k with
   | none=>rfl
   | some u=>simp [G9,e];omega
theorem AK {k:Int}:∀ {l:IM} {v:Value},Xw l k=some v→(l.findIdx fun p=>k=p.1)<l.length∧∃ q,l[l.findIdx fun p=>k=p.1]?=some (k,q)∧q=v
 | [],_,h=>by simp [Xw] at h
 | (j,u)::l,v,h=>by
  unfold Xw at h;by_cases e:k=j
  ·subst e;simp at h;subst h;simp [G9]
  ·simp only [e,if_false] at h;obtain ⟨h1,q,h2,h3⟩:=AK h;simp only [G9,e,decide_false,cond_false,C8];exact ⟨by omega,q,by simpa using h2,h3⟩
section
variable {P:Program} {w:World}
theorem UC {k:IntKind} {t:TypeId} {b:Bool} {q:IntKind} {z:Int} (h:P.underlying t=some (.int q)):(Instr.checkKey b 10000 t (.int k z)).run P w=.ok () w:=by
 unfold Instr.checkKey;rw [ZY (YP h)];rfl
theorem SU {t:TypeId} {es:Array MapEntry} {l:IM} {k:Int} (h:P.underlying t=some (.int .i64)) (hl:kvs es=l.map fun p=>(.int .i64 p.1,p.2)) :
 (Instr.findKey t (.int .i64 k) es.toList).run P w=.ok (match Xw l k with|some v=>some (l.findIdx fun p=>k=p.1,v)|none=>none) w:=by
 unfold Instr.findKey;rw [ZY (YP h),JF k es.toList l 0 hl];simp only [F2];rfl
def RI (P:Program) (t:TypeId):Option (TypeId×TypeId):=match P.underlying t with
 | some (.map k el)=>match P.underlying k with
  | some (.int .i64)=>some (k,el)
  | _=>none
 | _=>none
theorem Pa {t k el:TypeId} (h:RI P t=some (k,el)):P.underlying t=some (.map k el)∧P.underlying k=some (.int .i64):=by
 unfold RI at h;grind
theorem UG {b:Nat} {es:Array MapEntry} {c:Nat} (h:w.heap[b]?=some (.map es c)):(getObj b).run P w=.ok (.map es c) w:=by
 simp [getObj,Sem.run,h]
theorem TR {b:Nat} {es:Array MapEntry} {c:Nat} (h:w.heap[b]?=some (.map es c)) (o:Obj):(setObj b o).run P w=.ok () { w with heap:=w.heap.setIfInBounds b o }:=by
 simp [setObj,Sem.run,h]
theorem RQ {b:Nat} {o o':Obj} (h:w.heap[b]?=some o'):({ w with heap:=w.heap.setIfInBounds b o }:World).heap[b]?=some o:=by
 grind
theorem SS {b c:Nat} {o:Obj} (h:c≠b):({ w with heap:=w.heap.setIfInBounds b o }:World).heap[c]?=w.heap[c]?:=by
 grind
theorem KJ {t k el:TypeId} {b:Nat} {o:Obj} {l:IM} {z:Int} {zv:Value} (ht:RI P t=some (k,el)) (hz:XP P el=some zv) (hb:w.heap[b]?=some o) (ho:imO o l) (ok:Bool) :
 (Instr.lookup t (.map (some b)) (.int .i64 z) ok).run P w=.ok (match ok with|true=>.tuple #[(Xw l z).getD zv,.bool (Xw l z).isSome]|false=>(Xw l z).getD zv) w:=by
 obtain ⟨h1,h2⟩:=Pa ht;obtain ⟨es,c,rfl,hk⟩:=ho;have hzv:(zeroValue el).run P w=.ok zv w:=by
  unfold XP at hz;split at hz
  ·rename_i it hit;simp [zeroValue,typeInfo,hit,hz]
  ·cases hz
 unfold Instr.lookup;rw [ZY (YP h1)];rw [ZY (UG hb)];rw [ZY (show (pure es:Sem (Array MapEntry)).run P w=.ok es w from rfl),ZY (UC h2),ZY (SU h2 hk)];cases hg:Xw l z with
 | some v=>cases ok <;> rfl
 | none =>
  rw [ZY hzv];cases ok <;> rfl
theorem AB (es:Array MapEntry) (x:MapEntry):kvs (es.push x)=kvs es++[(x.key,x.val)]:=by simp [kvs]
theorem Zcf {l:IM} {k:Int} {v:Value}:∀ {es:List MapEntry},es.map (fun x=>(x.key,x.val))=l.map (fun p=>(Value.int .i64 p.1,p.2))→(Xw l k).isSome=true →
 (es.modify (l.findIdx fun p=>k=p.1) fun x=>{ x with key:=.int .i64 k,val:=v }).map (fun x=>(x.key,x.val))=(PM l k v).map fun p=>(.int .i64 p.1,p.2):=by
 induction l with
 | nil=>intro es _ h;simp [Xw] at h
 | cons p l ih =>
  intro es h hs;obtain ⟨j,u⟩:=p;cases es with
  | nil=>simp at h
  | cons x es =>
   simp only [D3,J9,I8] at h;obtain ⟨⟨h1,h2⟩,h3⟩:=h;by_cases e:k=j
   ·subst e;simp [G9,PM,h3]
   ·simp only [Xw,e] at hs;simp only [G9,e,decide_false,cond_false,PM,if_false,List.modify_succ_cons,D3,h1,h2,ih h3 hs]
theorem EX {l:IM} {k:Int}:∀ {es:List MapEntry},es.map (fun x=>(x.key,x.val))=l.map (fun p=>(Value.int .i64 p.1,p.2))→(Xw l k).isSome=true →
 (es.eraseIdx (l.findIdx fun p=>k=p.1)).map (fun x=>(x.key,x.val))=(Pb l k).map fun p=>(.int .i64 p.1,p.2):=by
 induction l with
 | nil=>intro es _ h;simp [Xw] at h
 | cons p l ih =>
  intro es h hs;obtain ⟨j,u⟩:=p;cases es with
  | nil=>simp at h
  | cons x es =>
   simp only [D3,J9,I8] at h;obtain ⟨⟨h1,h2⟩,h3⟩:=h;by_cases e:k=j
   ·subst e;simp [G9,Pb,h3]
   ·simp only [Xw,e] at hs;simp only [G9,e,decide_false,cond_false,Pb,if_false,List.eraseIdx_cons_succ,D3,h1,h2,ih h3 hs]
theorem La {k:Int}:∀ {l:IM},Xw l k=none→Pb l k=l
 | [],_=>rfl
 | (j,u)::l,h=>by
  by_cases e:k=j
  ·simp [Xw,e] at h
  ·simp only [Xw,e,if_false] at h;simp [Pb,e,La h]
theorem Nh {t k el:TypeId} {b:Nat} {o:Obj} {l:IM} {z:Int} {v:Value} (ht:RI P t=some (k,el)) (hb:w.heap[b]?=some o) (ho:imO o l) :
 ∃ o',(Instr.mapUpdate t (.map (some b)) (.int .i64 z) v).run P w=.ok () { w with heap:=w.heap.setIfInBounds b o' }∧imO o' (VS l z v):=by
 obtain ⟨h1,h2⟩:=Pa ht;obtain ⟨es,c,rfl,hk⟩:=ho;unfold Instr.mapUpdate;rw [ZY (YP h1)];rw [ZY (UG hb)];rw [ZY (UC h2),ZY (SU h2 hk)];cases hg:Xw l z with
 | some u =>
  obtain ⟨hlt,q,hq,_⟩:=AK hg;have hes:∃ x,es[l.findIdx fun p=>z=p.1]?=some x∧x.key=.int .i64 z:=by
   have h3:(kvs es)[l.findIdx fun p=>z=p.1]?=some (.int .i64 z,q):=by rw [hk];simp [hq]
   simp only [kvs,E6,Option.map_eq_some_iff] at h3;obtain ⟨x,hx,hxx⟩:=h3;simp only [I8] at hxx;exact ⟨x,by simpa using hx,hxx.1⟩
  obtain ⟨x,hx,hxk⟩:=hes;have hst:(Instr.keyThatStays (((es[l.findIdx fun p=>z=p.1]?).map (·.key)).getD (.int .i64 z)) (.int .i64 z)).run P w=.ok (.int .i64 z) w:=by
   rw [hx];simp only [E9,F7,hxk];unfold Instr.keyThatStays;have:Instr.sameBits 10000 (.int .i64 z) (.int .i64 z)=true:=by
    simp [Instr.sameBits]
   simp only [this];rfl
  rw [ZY hst];refine ⟨_,TR hb _,_,_,rfl,?_⟩;simp only [VS,hg];have:=Zcf (v:=v) (l:=l) (k:=z) (es:=es.toList) hk (by simp [hg]);simpa [kvs] using this
 | none =>
  refine ⟨_,TR hb _,_,_,rfl,?_⟩;simp [VS,hg,AB,hk]
theorem CC {t k el ty:TypeId} {b:Nat} {o:Obj} {l:IM} {z:Int} {ats:Array TypeId} (hat:ats[0]?=some t) (ht:RI P t=some (k,el)) (hb:w.heap[b]?=some o) (ho:imO o l) :
 ∃ o',(Builtin.delete_ ats ty #[.map (some b),.int .i64 z]).run P w=.ok (.tuple #[]) { w with heap:=w.heap.setIfInBounds b o' }∧imO o' (Pb l z):=by
 obtain ⟨h1,h2⟩:=Pa ht;obtain ⟨es,c,rfl,hk⟩:=ho;unfold Builtin.delete_;have e1:(#[Value.map (some b),Value.int .i64 z])[0]?=some (.map (some b)):=rfl;have e2:(#[Value.map (some b),Value.int .i64 z])[1]?=some (.int .i64 z):=rfl;simp only [hat,e1,e2];rw [ZY (YP h1)];rw [ZY (UG hb)];rw [ZY (UC h2),ZY (SU h2 hk)];cases hg:Xw l z with
 | some u =>
  refine ⟨.map (es.eraseIdxIfInBounds (l.findIdx fun p=>z=p.1)) c,?_,_,_,rfl,?_⟩
  ·simp only [];rw [ZY (TR hb _)];rfl
  ·have:=EX (l:=l) (k:=z) (es:=es.toList) hk (by simp [hg]);have h3:(es.eraseIdxIfInBounds (l.findIdx fun p=>z=p.1)).toList=es.toList.eraseIdx (l.findIdx fun p=>z=p.1):=by simp
   simp only [kvs,h3];exact this
 | none =>
  refine ⟨.map es c,?_,_,_,rfl,by rw [La hg];exact hk⟩;rw [ZY (TR hb _)];rfl
end
section
variable {P:Program} {n:Sh} {ops:Array Oper} {Q:Exit→Act→World→Prop} {rest:List Nat} {M M':Mem} {H H' H0:Hp} {e:Env} {J S:World→Prop} {A:As} {i:Nat}
  {dst:Option Tmp} {d:Tmp} {op:Op} {ty:TypeId} {pos:String} {af:Array Edge} {gd:Option (Nat×Bool)}
theorem Kp {t k el:TypeId} {x y:Operand} {b:Nat} {z:Int} {zv v:Value} {o:Obj} {l:IM} {MJ:Mem} {HJ:Hp} (hi:ops[i]?=some ⟨some d,.lookup t x y false,ty,pos,af,gd⟩) (hg:want ops e gd=some true)
 (hx:ev e x=some (.map (some b))) (hy:ev e y=some (.int .i64 z)) (ht:RI P t=some (k,el)) (hz:XP P el=some zv) (hb:(b,o)∈HJ) (ho:imO o l) (hv:(Xw l z).getD zv=v) (hd:Nat.ble (d+1) n.sz=true)
 (hk:XD P n ops Q rest (St MJ HJ) A ((d,v)::e)):XD P n ops Q (i::rest) (St MJ HJ) A e :=
 UB hi rfl hg (fun a' w ha hw=>Xp (by
  simp only [execOp,ha.ev hx,ha.ev hy];subst hv;exact Wz (KJ ht hz (hw.own _ _ hb) ho false))) (fun a ha=>ha.put hd _) hk
theorem JO {t k el:TypeId} {x y:Operand} {b:Nat} {z:Int} {zv v:Value} {c:Bool} {o:Obj} {l:IM} {MJ:Mem} {HJ:Hp} (hi:ops[i]?=some ⟨some d,.lookup t x y true,ty,pos,af,gd⟩) (hg:want ops e gd=some true)
 (hx:ev e x=some (.map (some b))) (hy:ev e y=some (.int .i64 z)) (ht:RI P t=some (k,el)) (hz:XP P el=some zv) (hb:(b,o)∈HJ) (ho:imO o l) (hv:(Xw l z).getD zv=v) (hc:(Xw l z).isSome=c) (hd:Nat.ble (d+1) n.sz=true)
 (hk:XD P n ops Q rest (St MJ HJ) A ((d,.tuple #[v,.bool c])::e)):XD P n ops Q (i::rest) (St MJ HJ) A e :=
 UB hi rfl hg (fun a' w ha hw=>Xp (by
  simp only [execOp,ha.ev hx,ha.ev hy];subst hv;subst hc;exact Wz (KJ ht hz (hw.own _ _ hb) ho true))) (fun a ha=>ha.put hd _) hk
end
end Go.Esp
namespace Go.Esp
def QB (W:World):Mem:=⟨fun b=>W.heap[b]?,W.os,W.tape,W.output,0⟩
theorem St.start (W:World):St (QB W) [] W:=⟨fun _ _ h=>h,fun _ _ h=>(by cases h),fun _ _ h=>(by cases h),J1,rfl,rfl,rfl,C3 _⟩
theorem Zpl {W W':World} {M':Mem} {H:Hp} (hm:(QB W).le M') (h:St M' H W'):RowKit.Below W.heap.size W W':=by
 have hb:∀ k o,W.heap[k]?=some o→W'.heap[k]?=some o:=fun k o hk=>h.mem k o (hm.1 k o hk);have hs:W.heap.size≤W'.heap.size:=by
  rcases C7 W'.heap.size W.heap.size with h'|h'
  ·have:=hb W'.heap.size W.heap[W'.heap.size] (E8 h');simp at this
  ·exact h'
 refine ⟨h.io.1.trans hm.2.1,h.io.2.1.trans hm.2.2.1,h.io.2.2.1.trans hm.2.2.2.1,hs,fun k hk=>?_⟩;grind
def Ty (P:Program) (M:Mem):Nat→TypeId→Segs→Prop
 | 0,_,_=>False
 | m+1,t,R=>match P.underlying t with
  | some .bool=>∃ b,R=[.one (.bool b)]
  | some (.int k)=>∃ n,R=[.one (.int k n)]∧(Lit.int k n).wf=true
  | some .string=>∃ s:ByteArray,R=[.one (.string s)]∧s.size≤reachBytes
  | some (.slice el)=>∃ a rows c,R=[.one (.slice a rows.length c)]∧(0<P.cellsOf el→SlM M a rows (P.cellsOf el))∧rows.length≤c∧c≤maxLen∧∀ r∈rows,Ty P M m el r
  | some (.struct fs)=>∃ Rs:List Segs,R=cat Rs∧Rs.length=fs.size∧∀ (i:Nat) (f:Field) (r:Segs),fs[i]?=some f→Rs[i]?=some r→Ty P M m f.type r
  | some (.array k el)=>match P.underlying el with
   | some (.int q)=>P.cellsOf el=1→∃ f:Vector Value k,R=[.arr k f]∧∀ i (h:i<k),∃ z,f[i]=.int q z∧(Lit.int q z).wf=true
   | _=>True
  | _=>True
section
variable {H:Type} {enc:TypeId×Value→H} {P:Program} {w:World} {sp:Nat→Bool}
def Zyw (cs:List Value):Segs:=cs.map .one
theorem OD:∀ cs:List Value,Segs.cells (Zyw cs)=cs
 | []=>rfl
 | c::cs=>by
  have:=OD cs;unfold Zyw at this ⊢;simp [Segs.cells,Seg.cells,this]
theorem Hl {cs:List Value}:∀ (sizes:List Nat) (off:Nat),(cs.drop off).length=sizes.sum →
 cs.drop off=((List.range sizes.length).map fun i=>(cs.drop (off+(sizes.take i).sum)).take (sizes.getD i 0)).flatten
 | [],off,h=>by
  have:cs.drop off=[]:=D4 zL;simp [this]
 | n::sizes,off,h=>by
  simp only [List.sum_cons] at h;have ih:=Hl (cs:=cs) sizes (off+n) (by rw [← E5,F3,h];omega);rw [C8,List.range_succ_eq_map,D3,List.flatten_cons];simp only [List.take_zero,List.sum_nil,Nat.add_zero,List.getD_cons_zero,I2];have e:(List.map ((fun i=>((cs.drop (off+((n::sizes).take i).sum)).take ((n::sizes).getD i 0))) ∘ Nat.succ) (List.range sizes.length)) =
   (List.range sizes.length).map fun i=>(cs.drop (off+n+(sizes.take i).sum)).take (sizes.getD i 0):=by
   apply List.map_congr_left;intro i _;simp [Nat.add_assoc]
  rw [e,← ih,← E5,F0]
theorem Zfn {c:Array Value} {sz:Nat}:∀ (rows:List Segs) (off:Nat),lens sz rows→(∀ i r,rows[i]?=some r→(c.toList.drop (off+i * sz)).take sz=Segs.cells r) →
 (c.toList.drop off).take (rows.length * sz)=ZV rows
 | [],off,_,_=>by simp [ZV]
 | r::rows,off,hl,h=>by
  have h0:=h 0 r rfl;simp only [Nat.zero_mul,Nat.add_zero] at h0;have ih:=Zfn (c:=c) rows (off+sz) (fun x hx=>hl x (.tail _ hx)) (fun i x hx=>by
   have:=h (i+1) x (by simpa using hx);rw [F4] at this;rw [← this];congr 2;omega)
  rw [C8,F4,Nat.one_mul,Nat.add_comm (rows.length * sz) sz,List.take_add,E5,ih,h0];rfl
theorem Lo {base:Nat} {a:Addr} {n:Nat} {cs:List Value} (h:w.cells? base a n=some cs):cs.length=n∧∀ j v,cs[j]?=some v→w.cell? (a.add j)=some v:=by
 unfold World.cells? at h;split at h
 ·have hl:cs.length=n:=by
   have:=mapM_some_length h;simpa using this
  refine ⟨hl,fun j v hj=>?_⟩;have hlt:=(C4.1 hj).1;have:=mapM_some_get h j j (List.getElem?_range jD);grind
 ·cases h
theorem CZ (hl:laidOutB P=true) {t:TypeId} (ht:t<P.types.size) {fs:Array Field} (hu:P.underlying t=some (.struct fs)) :
 P.cellsOf t=(fs.toList.map fun f=>P.cellsOf f.type).sum∧(∀ j f,fs.toList[j]?=some f→f.offset=((fs.toList.take j).map fun f=>P.cellsOf f.type).sum)∧∀ f∈fs.toList,f.type<P.types.size:=by
 unfold laidOutB at hl;simp only [F1] at hl;have h1:=E7.1 hl.1.1 t (G7.2 ht);unfold rowFine at h1;rw [hu] at h1;have hv:isVar P t=true:=by simp [isVar,ht,hu,kindOk]
 simp only [hv,Bool.not_true,Bool.false_or,F1,beq_iff_eq,E7] at h1;refine ⟨h1.1.2,fun j f hj=>?_,fun f hf=>?_⟩
 ·grind
 ·have:=h1.1.1 f hf;simp [isVar] at this;exact this.1
theorem Zho (hl:laidOutB P=true) {t el:TypeId} (ht:t<P.types.size) (hu:P.underlying t=some (.slice el)):el<P.types.size:=by
 unfold laidOutB at hl;simp only [F1] at hl;have h1:=E7.1 hl.1.1 t (G7.2 ht);unfold rowFine at h1;rw [hu] at h1;have hv:isVar P t=true:=by simp [isVar,ht,hu,kindOk]
 simp only [hv,Bool.not_true,Bool.false_or,F1] at h1;have:=h1.1;simp [isVar] at this;exact this.1
theorem Kt {P:Program} {e:TypeId} {n:Nat} {d:DataW H}:∀ {ds:List (DataW H)},d∈ds→n∈d.weights P e→n∈DataW.weightsAll P e ds
 | d0::ds,hd,hn=>by
  simp only [DataW.weightsAll,B8];rcases B7.1 hd with rfl|hd
  ·exact .inl hn
  ·exact .inr (Kt hd hn)
theorem Zau (hl:laidOutB P=true):∀ (n:Nat) (t:TypeId) (cs:List Value) (x:DataW H×List MemPlace),t<P.types.size→DataW.trod enc P w 0 sp true n t cs=some x→(∀ m∈x.1.weights P t,m≤reachBytes) →
 ∃ R,Segs.cells R=cs∧Ty P (QB w) n t R:=by
 intro n
 induction n with
 | zero=>intro t cs x _ h _;simp [DataW.trod] at h
 | succ n ih =>
  intro t cs x ht h hwt;have any:(∀ R,Ty P (QB w) (n+1) t R)→∃ R,Segs.cells R=cs∧Ty P (QB w) (n+1) t R:=fun hT=>⟨Zyw cs,OD cs,hT _⟩
  cases hu:P.underlying t with
  | none=>exact any fun R=>by simp [Ty,hu]
  | some d =>
   cases d with
   | bool=>obtain ⟨b,rfl,_⟩:=DataW.trod_bool hu h;exact ⟨[.one (.bool b)],rfl,by simp [Ty,hu]⟩
   | int k=>obtain ⟨z,rfl,_,hw⟩:=DataW.trod_int hu h;exact ⟨[.one (.int k z)],rfl,by simp [Ty,hu,hw]⟩
   | string=>obtain ⟨s,rfl,rfl,hs⟩:=DataW.trod_string hu h;exact ⟨[.one (.string s)],rfl,by simp only [Ty,hu];exact ⟨s,rfl,by simpa [DataW.weights] using hwt⟩⟩
   | slice el =>
    rcases DataW.trod_slice hu h with ⟨rfl,_⟩|⟨a,len,cap,elems,rest,m,hm,rfl,hxe,hb,hlc,hcm,hel,hget,hsp⟩
    ·refine ⟨[.one (.slice none 0 0)],rfl,?_⟩;simp only [Ty,hu];exact ⟨none,[],0,rfl,fun _=>SlM.nil _ _ _,B9 _,C3 _,fun r hr=>by cases hr⟩
    ·cases hm;have hrow:∀ i,i<len→∃ R cs',w.cells? 0 (a.add (i * P.cellsOf el)) (P.cellsOf el)=some cs'∧Segs.cells R=cs'∧Ty P (QB w) n el R:=by
      intro i hi;have h1:=hget i hi;obtain ⟨y,hy⟩:∃ y,elems[i]?=some y:=⟨elems[i],A7 jD⟩
      rw [hy] at h1;obtain ⟨cs',hc,hd⟩:=Option.bind_eq_some_iff.1 h1;obtain ⟨R,hR,hT⟩:=ih el cs' y (Zho hl ht hu) hd (fun m9 hm9=>hwt m9 (by
       rw [hxe];simp only [DataW.weights,hu,B7,B8];exact .inr (.inl (Kt (C0.2 ⟨y,H8 hy,rfl⟩) hm9))))
      exact ⟨R,cs',hc,hR,hT⟩
     have hrows:∃ rows:List Segs,rows.length=len∧∀ i r,rows[i]?=some r→w.cells? 0 (a.add (i * P.cellsOf el)) (P.cellsOf el)=some (Segs.cells r)∧Ty P (QB w) n el r:=by
      clear hel hget hlc h hsp any
      induction len with
      | zero=>exact ⟨[],rfl,by simp⟩
      | succ k ihk =>
       obtain ⟨rows,h1,h2⟩:=ihk (fun i hi=>hrow i jD);obtain ⟨R,cs',h3,h4,h5⟩:=hrow k jD;refine ⟨rows++[R],by simp [h1],fun i r hr=>?_⟩;rcases C7 i rows.length with h'|h'
       ·rw [F5 h'] at hr;exact h2 i r hr
       ·rw [G2 h'] at hr;have hi:i-rows.length=0:=by
         have:=(C4.1 hr).1;simp at this;omega
        rw [hi] at hr;simp at hr;subst hr;have:i=k:=by omega
        subst this;exact ⟨by rw [h4];exact h3,h5⟩
     obtain ⟨rows,h1,h2⟩:=hrows;have hlens:lens (P.cellsOf el) rows:=fun r hr=>by
      obtain ⟨i,hi⟩:=List.getElem?_of_mem hr;have:=(Lo (h2 i r hi).1).1;rw [← Segs.cells_length];exact this
     refine ⟨[.one (.slice (some a) rows.length cap)],by rw [h1];rfl,?_⟩;simp only [Ty,hu];refine ⟨some a,rows,cap,rfl,fun hpos=>⟨hlens,fun hne=>?_⟩,by omega,hcm,fun r hr=>?_⟩
     ·obtain ⟨r0,hr0⟩:∃ r,rows[0]?=some r:=by
       cases rows with
       | nil=>exact (hne rfl).elim
       | cons r rows=>exact ⟨r,rfl⟩
      have hc0:=Lo (h2 0 r0 hr0).1;have hl0:0<(Segs.cells r0).length:=by rw [hc0.1];exact hpos
      have hcell:=hc0.2 0 _ (A7 hl0);simp only [Nat.zero_mul] at hcell;have ha0:a.add 0=a:=by simp [Addr.add]
      rw [ha0,ha0] at hcell;unfold World.cell? at hcell;split at hcell
      ·rename_i c T fz hblk;split at hcell
       ·cases hcell
       ·rename_i hspot;obtain ⟨b,off,spot⟩:=a;have hsp:spot=none:=by cases spot <;> simp_all
        subst hsp;refine ⟨b,off,c,T,fz,rfl,hblk,Zfn rows off hlens fun i r hr=>?_⟩;have hci:=Lo (h2 i r hr).1;apply List.ext_getElem?;intro j;rcases C7 j (Segs.cells r).length with hj|hj
        ·have h3:=hci.2 j _ (A7 hj);rw [Addr.add_lit,Addr.add_lit,Qn hblk] at h3;rw [I1,List.getElem?_drop,A6 (by rw [← hci.1];exact hj),A7 hj,← h3];simp
        ·rw [List.getElem?_eq_none hj,List.getElem?_eq_none];simp only [D8];omega
      ·cases hcell
     ·obtain ⟨i,hi⟩:=List.getElem?_of_mem hr;exact (h2 i r hi).2
   | struct fs =>
    obtain ⟨xs,m,hm,hxe,hlen,hxl,hget⟩:=DataW.trod_struct hu h;cases hm;obtain ⟨g1,g2,g3⟩:=CZ hl ht hu;have hf:∀ (i:Nat) (f:Field),fs[i]?=some f→∃ R,Segs.cells R=(cs.drop f.offset).take (P.cellsOf f.type)∧Ty P (QB w) n f.type R:=by
     intro i f hi;have h1:=hget i f hi;have hlt:=(E4.1 hi).1;obtain ⟨y,hy⟩:∃ y,xs[i]?=some y:=⟨xs[i],A7 jD⟩
     rw [hy] at h1;refine ih _ _ y (g3 f (by simpa using Array.mem_of_getElem? hi)) h1 (fun m9 hm9=>hwt m9 ?_);rw [hxe];simp only [DataW.weights,hu];exact DataW.weights_mem_each (j:=i) (t:=f.type) (d:=y.1) (by rw [E6];simp [hi]) (by rw [E6,hy];rfl) m9 hm9
    have hRs:∃ Rs:List Segs,Rs.length=fs.size∧∀ (i:Nat) (f:Field) (r:Segs),fs[i]?=some f→Rs[i]?=some r→Segs.cells r=(cs.drop f.offset).take (P.cellsOf f.type)∧Ty P (QB w) n f.type r:=by
     have key:∀ k,k≤fs.size→∃ Rs:List Segs,Rs.length=k∧∀ (i:Nat) (f:Field) (r:Segs),fs[i]?=some f→Rs[i]?=some r→Segs.cells r=(cs.drop f.offset).take (P.cellsOf f.type)∧Ty P (QB w) n f.type r:=by
      intro k
      induction k with
      | zero=>exact fun _=>⟨[],rfl,by simp⟩
      | succ k ihk =>
       intro hk;obtain ⟨Rs,h1,h2⟩:=ihk jD;obtain ⟨R,h3,h4⟩:=hf k fs[k] (E8 hk);refine ⟨Rs++[R],by simp [h1],fun i f r hi hr=>?_⟩;rcases C7 i Rs.length with h'|h'
       ·rw [F5 h'] at hr;exact h2 i f r hi hr
       ·rw [G2 h'] at hr;have hi0:i-Rs.length=0:=by
         have:=(C4.1 hr).1;simp at this;omega
        rw [hi0] at hr;simp at hr;subst hr;have:i=k:=by omega
        subst this;rw [E8 hk] at hi;obtain rfl:=A5 hi;exact ⟨h3,h4⟩
     exact key fs.size (B9 _)
    obtain ⟨Rs,h1,h2⟩:=hRs;refine ⟨cat Rs,?_,?_⟩
    ·rw [RM];have hsz:(cs.drop 0).length=(fs.toList.map fun f=>P.cellsOf f.type).sum:=by simp [hlen,g1]
     have h3:=Hl (cs:=cs) (fs.toList.map fun f=>P.cellsOf f.type) 0 hsz;have h4:ZV Rs=(Rs.map Segs.cells).flatten:=by
      clear h1 h2
      induction Rs with
      | nil=>rfl
      | cons r Rs ih=>simp [ZV,ih]
     rw [h4];refine Eq.trans ?_ h3.symm;congr 1;apply List.ext_getElem?;intro i;rcases C7 i fs.size with hi|hi
     ·have hR:Rs[i]?=some Rs[i]:=A7 jD;have hF:fs[i]?=some fs[i]:=E8 hi;have hFL:fs.toList[i]?=some fs[i]:=by simpa using hF
      have h5:=(h2 i _ _ hF hR).1;have h6:=g2 i _ hFL;rw [E6,hR,E9,h5];rw [E6,List.getElem?_range zP,E9];rw [F2,← List.map_take,← h6];simp [hi]
     ·rw [List.getElem?_eq_none jU,List.getElem?_eq_none zP]
    ·simp only [Ty,hu];exact ⟨Rs,rfl,h1,fun i f r hi hr=>(h2 i f r hi hr).2⟩
   | array k el =>
    cases hue:P.underlying el with
    | none=>exact any fun R=>by simp [Ty,hu,hue]
    | some de =>
     cases de with
     | int q =>
      obtain ⟨xs,m,hm,_,hlen,hxl,hget⟩:=DataW.trod_array hu h;by_cases h1:P.cellsOf el=1
      ·have hck:cs.length=k:=by
        have h2:P.cellsOf t=k * P.cellsOf el:=by
         unfold laidOutB at hl;simp only [F1] at hl;have h3:=E7.1 hl.1.1 t (G7.2 ht);unfold rowFine at h3;rw [hu] at h3;have hv:isVar P t=true:=by simp [isVar,ht,hu,kindOk]
         simp only [hv,Bool.not_true,Bool.false_or,F1,beq_iff_eq] at h3;exact h3.2
        rw [hlen,h2,h1,Nat.mul_one]
       refine ⟨[.arr k ⟨cs.toArray,by simpa using hck⟩],by simp [Segs.cells,Seg.cells],?_⟩;simp only [Ty,hu,hue];refine fun _=>⟨_,rfl,fun i hi=>?_⟩
       have h3:=hget i hi;obtain ⟨y,hy⟩:∃ y,xs[i]?=some y:=⟨xs[i],A7 jD⟩
       rw [hy,h1] at h3;obtain ⟨z,hz,_,hw⟩:=DataW.trod_int hue h3;refine ⟨z,?_,hw⟩;have h4:((cs.drop (i * 1)).take 1)[0]?=some (.int q z):=by rw [hz];rfl
       have h5:=(C4.1 h4).2;simpa using h5
      ·exact any fun R=>by simp [Ty,hu,hue,h1]
     | _=>exact any fun R=>by simp [Ty,hu,hue]
   | _=>exact any fun R=>by simp [Ty,hu]
def Zju (P:Program) (t:TypeId):Bool:=match P.underlying t with
 | some .bool=>true
 | some (.int _)=>true
 | some .string=>true
 | some (.slice _)=>true
 | some (.struct _)=>true
 | some (.array _ el)=>match P.underlying el with
  | some (.int _)=>P.cellsOf el == 1
  | _=>false
 | _=>false
theorem Ao {v x:Value} (h:v.cells.toList=[x]) (hv:∀ cs,v≠.agg cs):v=x:=by
 cases v <;> simp [Value.cells] at h <;> first|exact h|exact (hv _ rfl).elim
def Is (P:Program) (t:TypeId) (v:Value) (R:Segs):Prop:=match P.underlying t with
 | some (.struct _)=>v=WX R
 | some (.array _ _)=>v=WX R
 | _=>R=[.one v]
theorem Zno {M:Mem} {base n:Nat} {t:TypeId} {v:Value} {R:Segs} (hd:Zju P t=true) (hok:Value.okWide P w .any base t v) (hT:Ty P M n t R) (hc:Segs.cells R=v.cells.toList):Is P t v R:=by
 cases n with
 | zero=>exact hT.elim
 | succ n =>
  have hagg:(match P.underlying t with|some (.struct _)=>True|some (.array _ _)=>True|_=>False)→v=WX R:=by
   intro h;have:∃ cs,v=.agg cs:=by
    unfold Value.okWide at hok;split at h <;> rename_i hu
    ·rw [hu] at hok;obtain ⟨cs,h1,_⟩:=hok;exact ⟨cs,h1⟩
    ·rw [hu] at hok;obtain ⟨cs,h1,_⟩:=hok;exact ⟨cs,h1⟩
    ·exact h.elim
   obtain ⟨cs,rfl⟩:=this;unfold WX;rw [hc];simp [Value.cells]
  unfold Is;unfold Ty at hT;unfold Zju at hd;unfold Value.okWide at hok;cases hu:P.underlying t with
  | none=>rw [hu] at hd;cases hd
  | some d =>
   rw [hu] at hT hd hok hagg;have hna:(match d with | .struct _=>False | .array _ _=>False|_=>True)→∀ cs,v≠.agg cs:=by
    intro h cs e;subst e;cases d <;> simp only [Cell.okWide,Cell.ok,hu] at hok h
   cases d <;> simp only at hT hd hagg hna <;> try (cases hd;done)
   case bool =>
    obtain ⟨b,rfl⟩:=hT;obtain rfl:=Ao hc.symm (hna trivial);rfl
   case int k =>
    obtain ⟨z,rfl,_⟩:=hT;obtain rfl:=Ao hc.symm (hna trivial);rfl
   case string =>
    obtain ⟨s,rfl,_⟩:=hT;obtain rfl:=Ao hc.symm (hna trivial);rfl
   case slice el =>
    obtain ⟨a,rows,c,rfl,_⟩:=hT;obtain rfl:=Ao hc.symm (hna trivial);rfl
   case struct fs=>exact hagg trivial
   case array k el=>exact hagg trivial
def Zry (P:Program) (M:Mem):List TypeId→List Value→Prop
 | [],[]=>True
 | t::ts,v::vs=>(∃ R n,Is P t v R∧Ty P M n t R)∧Zry P M ts vs
 | _,_=>False
theorem Zkn (hl:laidOutB P=true) {base:Nat}:∀ (ts:List TypeId) (vs:List Value) (ds:List (DataW H)) (p:List MemPlace),DataW.TrodAll enc P w 0 sp true ts vs ds p →
 (∀ (j:Nat) t v,ts[j]?=some t→vs[j]?=some v→Value.okWide P w .any base t v)→(∀ t∈ts,t<P.types.size∧Zju P t=true)→(∀ (j:Nat) t d,ts[j]?=some t→ds[j]?=some d→∀ m∈d.weights P t,m≤reachBytes)→Zry P (QB w) ts vs
 | [],[],_,_,_,_,_,_=>trivial
 | [],_::_,[],_,h,_,_,_=>h.elim
 | [],_::_,_::_,_,h,_,_,_=>h.elim
 | _::_,[],_,_,h,_,_,_=>h.elim
 | _::_,_::_,[],_,h,_,_,_=>h.elim
 | t::ts,v::vs,d::ds,p,h,hval,ht,hwt=>by
  obtain ⟨p1,p2,⟨fuel,hf⟩,h2,_⟩:=h;obtain ⟨h3,h4⟩:=ht t (.head _);obtain ⟨R,hR,hT⟩:=Zau hl fuel t v.cells.toList _ h3 hf (hwt 0 t d rfl rfl);exact ⟨⟨R,fuel,Zno h4 (hval 0 t v rfl rfl) hT hR,hT⟩,Zkn hl ts vs ds p2 h2 (fun j t' v' hj hv=>hval (j+1) t' v' zM (by simpa using hv)) (fun t' ht'=>ht t' (.tail _ ht')) (fun j t' d' hj hd=>hwt (j+1) t' d' zM (by simpa using hd))⟩
theorem each_args {ts us:List TypeId} {ds gs:List (DataW H)} (h:(DataW.weightsEach P (ts++us) (ds++gs)).all (·≤reachBytes)=true):∀ (j:Nat) t d,ts[j]?=some t→ds[j]?=some d→∀ m∈d.weights P t,m≤reachBytes:=fun j t d ht hd m hm=>by
 have h1:=(C4.1 ht).1;have h2:=(C4.1 hd).1;have:=E7.1 h m (DataW.weights_mem_each (j:=j) (by rw [F5 h1];exact ht) (by rw [F5 h2];exact hd) m hm);simpa using this
theorem all_args {ts:List TypeId} (h:(ts.all fun t=>Nat.blt t P.types.size && Zju P t)=true):∀ t∈ts,t<P.types.size∧Zju P t=true:=fun t ht=>by
 have:=E7.1 h t ht;simp only [F1] at this;exact ⟨D1 this.1,this.2⟩
theorem all_read {ts:List TypeId} (h:(ts.all fun t=>Nat.blt t P.types.size && P.readableRec t)=true):∀ t∈ts,t<P.types.size∧P.readableRec t=true:=fun t ht=>by
 have:=E7.1 h t ht;simp only [F1] at this;exact ⟨D1 this.1,this.2⟩
theorem Zet {M:Mem} {n:Nat} {t:TypeId} {k:IntKind} {R:Segs} (hu:P.underlying t=some (.int k)) (h:Ty P M n t R):∃ z,R=[.one (.int k z)]∧(Lit.int k z).wf=true:=by
 cases n with
 | zero=>exact h.elim
 | succ n=>simp only [Ty,hu] at h;exact h
theorem ty_bool {M:Mem} {n:Nat} {t:TypeId} {R:Segs} (hu:P.underlying t=some .bool) (h:Ty P M n t R):∃ b,R=[.one (.bool b)]:=by
 cases n with
 | zero=>exact h.elim
 | succ n=>simp only [Ty,hu] at h;exact h
theorem ty_str {M:Mem} {n:Nat} {t:TypeId} {R:Segs} (hu:P.underlying t=some .string) (h:Ty P M n t R):∃ s:ByteArray,R=[.one (.string s)]∧s.size≤reachBytes:=by
 cases n with
 | zero=>exact h.elim
 | succ n=>simp only [Ty,hu] at h;exact h
theorem Ee {M:Mem} {n:Nat} {t el:TypeId} {R:Segs} (hu:P.underlying t=some (.slice el)) (hc:0<P.cellsOf el) (h:Ty P M n t R):∃ a rows c m,R=[.one (.slice a rows.length c)]∧SlM M a rows (P.cellsOf el)∧rows.length≤maxLen∧rows.length≤c∧∀ r∈rows,Ty P M m el r:=by
 cases n with
 | zero=>exact h.elim
 | succ n =>
  simp only [Ty,hu] at h;obtain ⟨a,rows,c,h1,h2,h3,h4,h5⟩:=h;exact ⟨a,rows,c,n,h1,h2 hc,by omega,h3,h5⟩
theorem Zes {M:Mem} {n:Nat} {t:TypeId} {fs:Array Field} {R:Segs} (hu:P.underlying t=some (.struct fs)) (h:Ty P M n t R):∃ m Rs,R=cat Rs∧Rs.length=fs.size∧∀ (i:Nat) (f:Field) (r:Segs),fs[i]?=some f→Rs[i]?=some r→Ty P M m f.type r:=by
 cases n with
 | zero=>exact h.elim
 | succ n =>
  simp only [Ty,hu] at h;obtain ⟨Rs,h1,h2,h3⟩:=h;exact ⟨n,Rs,h1,h2,h3⟩
theorem one_inj {u v:Value} (h:([.one u]:Segs)=[.one v]):u=v:=by simpa using h
theorem DP (hl:laidOutB P=true) {W W':World} (hb:RowKit.Below W.heap.size W W'):∀ (ts:List TypeId) (vs:List Value) (ds:List (DataW H)) (p:List MemPlace),(∀ t∈ts,t<P.types.size∧P.readableRec t=true) →
 DataW.TrodAll enc P W 0 (fun _=>true) true ts vs ds p→DataW.TrodAll enc P W' 0 (fun b=>decide (b<W.heap.size)) true ts vs ds p
 | [],[],[],_,_,h=>h
 | [],[],_::_,_,_,h=>h.elim
 | [],_::_,[],_,_,h=>h.elim
 | [],_::_,_::_,_,_,h=>h.elim
 | _::_,[],_,_,_,h=>h.elim
 | _::_,_::_,[],_,_,h=>h.elim
 | t::ts,v::vs,d::ds,p,hr,h=>by
  have hlt:=DataW.TrodAll.lt h;obtain ⟨p1,p2,h1,h2,rfl⟩:=h;obtain ⟨g1,g2⟩:=hr t (.head _);exact ⟨p1,p2,RowKit.Below.trod hl g2 g1 h1 hb (fun x hx=>hlt x (C5 _ hx)),DP hl hb ts vs ds p2 (fun t' ht'=>hr t' (.tail _ ht')) h2,rfl⟩
theorem Co:∀ {ts:List TypeId} {vs:List Value} {ds:List (DataW H)} {b:Nat} {sp:Nat→Bool} {held:Bool} {p:List MemPlace},DataW.TrodAll enc P w b sp held ts vs ds p→vs.length=ts.length∧ds.length=ts.length
 | [],[],[],_,_,_,_,_=>⟨rfl,rfl⟩
 | [],[],_::_,_,_,_,_,h=>h.elim
 | [],_::_,[],_,_,_,_,h=>h.elim
 | [],_::_,_::_,_,_,_,_,h=>h.elim
 | _::_,[],_,_,_,_,_,h=>h.elim
 | _::_,_::_,[],_,_,_,_,h=>h.elim
 | _::_,_::_,_::_,_,_,_,_,h=>by
  obtain ⟨_,_,_,h2,_⟩:=h;have:=Co h2;exact ⟨A9 (·+1) this.1,A9 (·+1) this.2⟩
theorem len3 {α:Type} {l:List α} (h:l.length=3):∃ x0 x1 x2,l=[x0,x1,x2]:=match l,h with|[x0,x1,x2],_=>⟨x0,x1,x2,rfl⟩
theorem Zof {s:ChangeSpec} {fn:Func} {W W':World} {args:Array Value} {ds gs:List (DataW H)} {before:List MemPlace} {tb:TypeId} (hl:laidOutB P=true) (hW:DataW.Whole enc P fn.params.toList s.vars false W args.toList ds gs before)
 (hvars:s.vars=[]) (hres:fn.resultTypes=#[tb]) (htb:P.underlying tb=some .bool) (hsr:(s.fn H (ds++gs)).results=[.lit (.bool true)]) (hsa:(s.fn H (ds++gs)).args=ds) (hsv:(s.fn H (ds++gs)).vars=[])
 (hread:∀ t∈fn.params.toList,t<P.types.size∧P.readableRec t=true) (hb:RowKit.Below W.heap.size W W'):s.post enc P fn false true false false W args (.bool true) W':=by
 have hW0:=hW;obtain ⟨p,q,hA,hV,hpq,hnf,hnd⟩:=hW;have hq:gs=[]∧q=[]:=by
  rw [hvars] at hV;cases gs with
  | nil=>exact ⟨rfl,hV⟩
  | cons g gs=>exact hV.elim
 obtain ⟨rfl,rfl⟩:=hq;refine ⟨ds,[],before,[],p,[],hW0,?_,?_,?_,?_,fun h=>by cases h⟩
 ·rw [hsr,hres];exact ⟨[],[],⟨1,by simp [DataW.trod,htb,Value.cells]⟩,rfl,rfl⟩
 ·rw [hsa];exact DP hl hb _ _ _ _ hread hA
 ·rw [hvars,hsv];rfl
 ·exact hb.frame _
theorem law_calls {s:ChangeSpec} {f:FuncId} {fn:Func} {W:World} {args:Array Value} {ds gs:List (DataW H)} {before:List MemPlace} {tb:TypeId} (hl:laidOutB P=true) (hW:DataW.Whole enc P fn.params.toList s.vars false W args.toList ds gs before)
 (hvars:s.vars=[]) (hres:fn.resultTypes=#[tb]) (htb:P.underlying tb=some .bool) (hsr:(s.fn H (ds++gs)).results=[.lit (.bool true)]) (hsa:(s.fn H (ds++gs)).args=ds) (hsv:(s.fn H (ds++gs)).vars=[])
 (hread:∀ t∈fn.params.toList,t<P.types.size∧P.readableRec t=true) (hc:Fn P f args.toList (QB W) fun _ v=>v=.bool true) :
 Calls P f args W fun e W'=>∃ v,e=.returned v∧s.post enc P fn false true false false W args v W':=by
 have:=hc [] W (St.start W);refine this.mono fun e W' ⟨v,M',he,hm,hst,hv⟩=>⟨v,he,?_⟩
 subst hv;exact Zof hl hW hvars hres htb hsr hsa hsv hread (Zpl hm hst)
end
end Go.Esp
namespace Go.Esp
def Yl (P:Program) (l:Nat) (vs:List Value) (w:World) (R:Value→World→Prop):Prop :=
 ∃ f tmps assign body,(Instr.yield l vs.toArray).run P w=.ok (.round l f tmps assign body) w∧RoundIn (Fr none) 0 P l f tmps assign body w fun e w'=>∃ v,e=.returned v∧R v w'
def Zrs {α:Type} (P:Program) (l:Nat) (enc:α→List Value) (xs:List α) (M:Mem) (J Jx:List α→Mem→Hp→Prop):Prop :=
 ∀ pre x post M' Hb F w,xs=pre++x::post→M.le M'→J pre M' Hb→St M' (Hb++F) w→Yl P l (enc x) w fun v w'=>∃ M'' Hb',M'.le M''∧St M'' (Hb'++F) w' ∧
  ((v=.bool true∧J (pre++[x]) M'' Hb')∨(v=.bool false∧Jx (pre++[x]) M'' Hb'))
def Zzy {α:Type} (P:Program) (g:FuncId) (caps:List Value) (enc:α→List Value) (xs:List α) (M:Mem) (Hi:Hp):Prop :=
 ∀ (l:Nat) (J Jx:List α→Mem→Hp→Prop),Zrs P l enc xs M J Jx→∀ M' Hb F w,M.le M'→J [] M' Hb→St M' (Hb++(Hi++F)) w →
  Calls P g (Value.func (.yield l) #[] #[]::caps).toArray w fun e w'=>∃ v M'' Hb',e=.returned v∧M'.le M''∧St M'' (Hb'++(Hi++F)) w'∧(J xs M'' Hb'∨∃ pre post,xs=pre++post∧Jx pre M'' Hb')
section
variable {P:Program} {n:Sh} {ops:Array Oper} {Q:Exit→Act→World→Prop} {rest:List Nat} {M M':Mem} {H H' H0:Hp} {e:Env} {J S:World→Prop} {A:As} {i:Nat}
  {dst:Option Tmp} {d:Tmp} {op:Op} {ty:TypeId} {pos:String} {af:Array Edge} {gd:Option (Nat×Bool)}
theorem Zdu {fn:Go.Fn} {xs ys:List Operand} {vs us:List Value} (hi:ops[i]?=some ⟨some d,.makeFunc fn xs.toArray ys.toArray,ty,pos,af,gd⟩) (hg:want ops e gd=some true)
 (hx:evs e xs=some vs) (hy:evs e ys=some us) (hd:Nat.ble (d+1) n.sz=true) (hk:XD P n ops Q rest J A ((d,.func fn vs.toArray us.toArray)::e)):XD P n ops Q (i::rest) J A e :=
 VA hi rfl hg (fun a' w ha=>Xp (by
  simp only [execOp];refine Wz ?_;have e1:xs.toArray.map a'.eval=vs.toArray:=by rw [← ha.evs hx];simp
  have e2:ys.toArray.map a'.eval=us.toArray:=by rw [← ha.evs hy];simp
  rw [e1,e2];rfl)) (fun a ha=>ha.put hd _) hk
theorem Zkt {α:Type} {g:Operand} {xs:List Operand} {ats:Array TypeId} {vs:List Value} {l:Nat} {enc:α→List Value} {all pre post:List α} {x:α} {M0:Mem} {Hb F:Hp} {Jr Jx:List α→Mem→Hp→Prop} {MJ:Mem} {HJ:Hp}
 (hi:ops[i]?=some ⟨some d,.call ⟨.value g,xs.toArray,ats⟩,ty,pos,af,gd⟩) (hg:want ops e gd=some true) (hcl:NE P (.call ⟨.value g,xs.toArray,ats⟩)=.eff)
 (hf:ev e g=some (.func (.yield l) #[] #[])) (hx:evs e xs=some vs) (hR:Zrs P l enc all M0 Jr Jx) (hall:all=pre++x::post) (hm:M0.le M) (hJr:Jr pre M Hb) (hH:Rem Hb H F) (hv:enc x=vs)
 (hJ:∀ M' Hb' w,M.le M'→St M' (Hb'++F) w→St MJ HJ w) (hd:Nat.ble (d+1) n.sz=true)
 (hk1:∀ M' Hb',M.le M'→Jr (pre++[x]) M' Hb'→XD P n ops Q rest (St MJ HJ) ⟨M',Hb'++F⟩ ((d,.bool true)::e))
 (hk2:∀ M' Hb',M.le M'→Jx (pre++[x]) M' Hb'→XD P n ops Q rest (St MJ HJ) ⟨M',Hb'++F⟩ ((d,.bool false)::e)):XD P n ops Q (i::rest) (St MJ HJ) ⟨M,H⟩ e:=by
 refine Zai hi hcl hg (fun _ a G w ha hw=>?_);obtain ⟨f,tmps,assign,body,hrun,hround⟩:=hR pre x post M Hb (G++F) w hall hm hJr (hw.perm0 ((hH.perm.append_left G).trans (PV G Hb F)));unfold Oper.does;have:(execOp a.eval ⟨some d,.call ⟨.value g,xs.toArray,ats⟩,ty,pos,af,gd⟩).run P w=.ok (.round l f tmps assign body) w:=by
  simp only [execOp,resolve,ha.ev hf];show (Result.ok _ w).andThen _=_;have e1:xs.toArray.map a.eval=vs.toArray:=by rw [← ha.evs hx];simp
  show (Instr.yield l (#[]++xs.toArray.map a.eval)).run P w=_;rw [e1,← hv];simpa using hrun
 rw [this];refine hround.mono fun e' w' ⟨v,he,M'',Hb',h1,h2,h3⟩=>⟨v,he,⟨M'',Hb'++F⟩,?_⟩
 rcases h3 with ⟨rfl,h3⟩|⟨rfl,h3⟩
 ·exact ⟨_,h2.perm0 (PV G Hb' F).symm,fun u hu=>hJ M'' Hb' u h1 hu,ha.put hd _,hk1 M'' Hb' h1 h3⟩
 ·exact ⟨_,h2.perm0 (PV G Hb' F).symm,fun u hu=>hJ M'' Hb' u h1 hu,ha.put hd _,hk2 M'' Hb' h1 h3⟩
def Zll {α:Type} (l:Nat) (o:Obj) (I:List α→Mem→Hp→Prop) (Ix:Code→List α→Mem→Hp→Prop) (xs:List α) (M:Mem) (F:Hp):Exit→Act→World→Prop
 | .normal,_,w=>∃ M' Hu,M.le M'∧St M' ((l,o)::(Hu++F)) w∧I xs M' Hu
 | .ret,_,w=>∃ M' Hu,M.le M'∧St M' ((l,o)::(Hu++F)) w∧Ix .ret xs M' Hu
 | .exit id,_,w=>∃ M' Hu,M.le M'∧St M' ((l,o)::(Hu++F)) w∧Ix (.exit id) xs M' Hu
 | _,_,_=>False
theorem Cd {α:Type} {l:Nat} {o:Obj} {I:List α→Mem→Hp→Prop} {Ix:Code→List α→Mem→Hp→Prop} {xs:List α} {F Hu:Hp} {M0:Mem} (hm:M0.le M) (hS:∀ w,S w→St M ((l,o)::(Hu++F)) w) (hI:I xs M Hu) :
 K n (Zll l o I Ix xs M0 F) .normal S e:=fun _ _ _ hw=>⟨M,Hu,hm,hS _ hw,hI⟩
theorem Zru {α:Type} {l:Nat} {o:Obj} {I:List α→Mem→Hp→Prop} {Ix:Code→List α→Mem→Hp→Prop} {xs:List α} {F Hu:Hp} {M0:Mem} (hm:M0.le M) (hS:∀ w,S w→St M ((l,o)::(Hu++F)) w) (hI:Ix .ret xs M Hu) :
 K n (Zll l o I Ix xs M0 F) .ret S e:=fun _ _ _ hw=>⟨M,Hu,hm,hS _ hw,hI⟩
theorem QX {l:Nat} {o o':Obj} {w:World} (h:St M ((l,o)::H) w):St M ((l,o')::H) (w.putObj l o') :=
 h.upd .head (World.putObj_heap_same (h.lt (.head _))) (fun c hc x hx=>by rw [World.putObj_heap_other hc];exact hx) (SameIO.refl _)
def Zqv:List Tmp→List Value→Env→Env
 | p::ps,v::vs,e=>Zqv ps vs ((p,v)::e)
 | _,_,e=>e
theorem Zfs {ro:Option Nat}:∀ {ps:List Tmp} {vs:List Value} {m:Nat} {e:Env} {t:Array Value},Sat ⟨m,[],ro,[]⟩ e ⟨t,[]⟩→(∀ p∈ps,p<m) →
 Sat ⟨m,[],ro,[]⟩ (Zqv ps vs e) ⟨(ps.zip vs).foldl (fun tmps (p:Tmp×Value)=>tmps.setIfInBounds p.1 p.2) t,[]⟩:=by
 intro ps
 induction ps with
 | nil=>intro vs m e t h _;simpa [Zqv] using h
 | cons p ps ih =>
  intro vs m e t h hp;cases vs with
  | nil=>simpa [Zqv] using h
  | cons v vs =>
   have h1:Sat ⟨m,[],ro,[]⟩ ((p,v)::e) ⟨t.setIfInBounds p v,[]⟩:=h.put (d:=p) (Nat.ble_eq_true_of_le (hp p (.head _))) v;exact ih h1 (fun q hq=>hp q (.tail _ hq))
theorem LO {f:FuncId} {args:Array Value} {w:World} (h:Ta P f=true):(callFunc f args).run P w=.ok (.enter f args) w:=by
 obtain ⟨fn,h1,h2,h3⟩:=Ub h;unfold callFunc;rw [Sem.run_bind];show (Result.ok P w).andThen _=_;rw [Result.andThen_ok];simp only [h1,h3];have:fn.body.isNone=false:=by cases h':fn.body <;> simp_all
 simp only [this];rfl
def Zma (P:Program) (m l:Nat) (rdy bsy:Obj) (body:Code) (Q:Exit→Act→World→Prop):Exit→Act→World→Prop
 | .normal,a,w=>∃ e M H,Sat ⟨m,[],some l,[]⟩ e a∧St M ((l,rdy)::H) w∧C P ⟨m,[],some l,[]⟩ body Q (St M ((l,bsy)::H)) e
 | _,_,_=>False
theorem JV {m l b:Nat} {o rdy bsy:Obj} {body:Code} {Q':Exit→Act→World→Prop} (h:C P ⟨m,[],some l,[]⟩ body Q' (St M ((l,bsy)::(b,o)::H)) e):K ⟨m,[],some l,[]⟩ (Zma P m l rdy bsy body Q') .normal (St M ((b,o)::(l,rdy)::H)) e :=
 fun _ _ ha hw=>⟨e,M,(b,o)::H,ha,hw.perm (List.Perm.swap _ _ _),h⟩
def CS (D:Nat):Deferred:={ target:=.collected D,args:=#[] }
theorem NM {α:Type} {m:Nat} {ds:List Deferred} {g:Operand} {ps:List Tmp} {assign body:Code} {gf:FuncId} {caps:List Value} {enc:α→List Value} {xs:List α} {Hi Hu:Hp}
 (I:List α→Mem→Hp→Prop) (Ix:Code→List α→Mem→Hp→Prop) (hg:ev e g=some (.func (.func gf) #[] caps.toArray)) (hok:Ta P gf=true) (hseq:Zzy P gf caps enc xs M Hi)
 (hH:∀ w,St M H w→St M (Hu++(Hi++H0)) w) (hI:I [] M Hu) (hps:∀ x,(enc x).length=ps.length) (hpm:ps.all (fun p=>Nat.ble (p+1) m)=true)
 (hround:∀ (l:Nat) (rdy bsy:Obj) (pre:List α) (x:α) (post:List α) (M':Mem) (Hu' F:Hp),xs=pre++x::post→M.le M'→I pre M' Hu' →
  C P ⟨m,[],some l,[]⟩ assign (Zma P m l rdy bsy body (Zll l bsy I Ix (pre++[x]) M' F)) (St M' ((l,rdy)::(Hu'++F))) (Zqv ps (enc x) e))
 (hnorm:∀ (D L:Nat) (o:Obj) (M':Mem) (Hu':Hp),M.le M'→I xs M' Hu'→K ⟨m,CS D::ds,none,[]⟩ Q .normal (St M' ((L,o)::(Hu'++(Hi++((D,.deferred (some []))::H0))))) e)
 (hexit:∀ (c:Code) (D L:Nat) (o:Obj) (M':Mem) (Hu':Hp) (pre post:List α),xs=pre++post→M.le M'→Ix c pre M' Hu'→C P ⟨m,CS D::ds,none,[]⟩ c Q (St M' ((L,o)::(Hu'++(Hi++((D,.deferred (some []))::H0))))) e) :
 C P ⟨m,ds,none,[]⟩ (.rangeFunc g ps.toArray assign body) Q (St M H) e:=by
 intro a w ha hw;have hpm':∀ p∈ps,p<m:=fun p hp=>D1 (E7.1 hpm p hp);refine wpIn_rangeFunc (F:=Fr none) fun fn _=>?_;let D:=w.heap.size;let L:=w.heap.size+1;let r:Loop:={ state:=.ready,pending:=none,fn:=fn,tmps:=a.tmps,params:=ps.toArray,assign:=assign,body:=body,defers:=D }
 let w1:World:=(w.alloc (.deferred (some []))).alloc (.loop r);have hst:St M (((L,.loop r)::Hu)++(Hi++((D,.deferred (some []))::H0))) w1:=by
  have h1:=((hH w hw).alloc (.deferred (some []))).alloc (.loop r);have e1:(w.alloc (.deferred (some []))).heap.size=L:=by simp [L]
  rw [e1] at h1;refine h1.perm ?_;refine List.Perm.cons _ ?_;show ((D,Obj.deferred (some []))::(Hu++(Hi++H0))).Perm (Hu++(Hi++((D,Obj.deferred (some []))::H0)));rw [← B5,← B5];exact (List.perm_middle).symm
 have hloop:∀ {M':Mem} {H':Hp} {w':World} {r':Loop},St M' ((L,.loop r')::H') w'→w'.heap[L]?=some (.loop r'):=fun h=>h.own _ _ (.head _);refine ⟨L,[CS D],w1,{ target:=.fn (.func gf) caps.toArray,args:=#[.func (.yield L) #[] #[]] },w1,gf,(Value.func (.yield L) #[] #[]::caps).toArray,w1,run_enterLoop_outer fn a.tmps ps.toArray assign body,?_,fun _ _=>trivial,?_,fun h=>(by cases h),?_⟩
 ·unfold resolve rangeCall;simp only [ha.ev hg];simp [Deferred.ofValue,Act.eval]
 ·show (callFunc gf (#[Value.func (.yield L) #[] #[]]++caps.toArray)).run P w1=_;rw [LO hok];simp
 ·refine Lq.2 ?_;refine (hseq L (fun pre M' Hb=>∃ Hu',Hb=(L,.loop r)::Hu'∧I pre M' Hu') (fun pre M' Hb=>∃ c Hu',Hb=(L,.loop { r with state:=.done,pending:=some c })::Hu'∧Ix c pre M' Hu') ?_ M ((L,.loop r)::Hu) _ w1 (Mem.le.refl M) ⟨Hu,rfl,hI⟩ hst).mono ?_
  ·skip
   rintro pre x post M' Hb F w' hxs hm ⟨Hu',rfl,hI'⟩ hw';refine ⟨fn,(ps.zip (enc x)).foldl (fun tmps (p:Tmp×Value)=>tmps.setIfInBounds p.1 p.2) a.tmps,assign,body,?_,?_⟩
   ·have:=run_yield (P:=P) (args:=(enc x).toArray) (hloop hw') (by simp [r,hps x]);rw [this];rw [List.zip_toArray,List.foldl_toArray]
   ·refine roundIn_of_wpIn (F:=Fr none) trivial ?_;have h0:=Zfs (ro:=some L) (ps:=ps) (vs:=enc x) (m:=m) (e:=e) (t:=a.tmps) ⟨ha.size,rfl,ha.slot⟩ hpm';have h1:=hround L (.loop r) (.loop { r with state:=.busy }) pre x post M' Hu' F hxs hm hI' _ w' h0 hw';refine wpIn_mono h1 fun ex a2 w2 hq=>?_;cases ex with
    | normal =>
     obtain ⟨e2,M2,H2,hs2,hst2,hbody⟩:=hq;refine ⟨_,run_beginRound (hloop hst2) rfl,?_⟩;have hst3:=QX (o':=.loop { r with state:=.busy }) hst2;refine wpIn_mono (hbody a2 _ hs2 hst3) fun ex a3 w3 hq=>?_;cases ex with
     | normal =>
      obtain ⟨M'',Hu'',g1,g2,g3⟩:=hq;refine ⟨_,_,run_endRound none (hloop g2),_,rfl,M'',(L,.loop r)::Hu'',g1,QX (o':=.loop r) g2,.inl ⟨rfl,Hu'',rfl,g3⟩⟩
     | ret =>
      obtain ⟨M'',Hu'',g1,g2,g3⟩:=hq;exact ⟨_,_,run_endRound (some .ret) (hloop g2),_,rfl,M'',(L,.loop { r with state:=.done,pending:=some .ret })::Hu'',g1,QX g2,.inr ⟨rfl,.ret,Hu'',rfl,g3⟩⟩
     | exit id =>
      obtain ⟨M'',Hu'',g1,g2,g3⟩:=hq;exact ⟨_,_,run_endRound (some (.exit id)) (hloop g2),_,rfl,M'',(L,.loop { r with state:=.done,pending:=some (.exit id) })::Hu'',g1,QX g2,.inr ⟨rfl,.exit id,Hu'',rfl,g3⟩⟩
     | goto t=>exact hq.elim
     | panic c=>exact hq.elim
     | outgrown=>exact hq.elim
    | _=>exact hq.elim
  ·skip
   rintro e' w3 ⟨v,M'',Hb',rfl,hm,hst3,hend⟩;have hsat:Sat ⟨m,CS D::ds,none,[]⟩ e { a with defers:=[CS D]++a.defers }:=⟨ha.size,by simp [ha.defers],ha.slot⟩
   rcases hend with ⟨Hu',rfl,hI'⟩|⟨pre,post,hxs,c,Hu',rfl,hI'⟩
   ·refine ⟨_,_,run_endLoop (hloop hst3) (by simp [r]),?_⟩;exact hnorm D L _ M'' Hu' hm hI' _ _ hsat (QX hst3)
   ·refine ⟨_,_,run_endLoop (hloop hst3) jQ,?_⟩;exact hexit c D L _ M'' Hu' pre post hxs hm hI' _ _ hsat (QX hst3)
theorem Zxb {f:FuncId} {fn:Func} {c:Code} {vs:List Value} {w:World} {R:Ending→World→Prop} {m:Nat} (hf:P.funcs[f]?=some fn) (hb:fn.body=some c) (hm:fn.ntmps=m) (hle:Nat.ble vs.length m=true)
 (hw:S w) (h:C P ⟨m,[],none,[]⟩ c (bodyPostM (Fr none) 0 P fn R) S (RJ 0 vs)):Calls P f vs.toArray w R:=by
 have hle':vs.length≤m:=D1 hle;refine Lq.1 (callsIn_of_wp_marks (F:=Fr none) (n:=0) hf hb trivial (h _ w ⟨?_,rfl,fun k v hk=>?_⟩ hw))
 ·grind
 ·rw [hm];obtain ⟨_,h2⟩:=Or vs 0 k v hk;exact HD k v (by simpa using h2)
theorem Dq {f:FuncId} {fn:Func} {c:Code} {vs:List Value} {R:Mem→Value→Prop} {m:Nat} (hf:P.funcs[f]?=some fn) (hb:fn.body=some c) (hm:fn.ntmps=m) (hle:Nat.ble vs.length m=true)
 (h:∀ H,C P ⟨m,[],none,[]⟩ c (bodyPostM (Fr none) 0 P fn fun e w'=>∃ v M',e=.returned v∧M.le M'∧St M' H w'∧R M' v) (St M H) (RJ 0 vs)):Fn P f vs M R :=
 fun H _ hw=>Zxb (S:=St M H) hf hb hm hle hw (h H)
theorem Zhk {fn:Func} {R:Ending→World→Prop} {tmps:Array Value} {v:Value} (hrun:∀ w,St M H w→(results fn tmps).run P w=.ok v w):∀ (Ds:List Nat) (Hd:Hp) (w:World),
 (∀ D∈Ds,(D,.deferred (some []))∈Hd)→Ds.Nodup→St M (Hd++H) w→(∀ w,St M H w→R (.returned v) w)→LeavesInM (Fr none) 0 P fn tmps R (Ds.map CS) .returning w
 | [],Hd,w,_,_,hw,hR=>by
  have h0:St M H w:=hw.suf (Suf.app Hd H);exact ⟨v,hrun w h0,hR w h0⟩
 | D::Ds,Hd,w,hD,hn,hw,hR=>by
  rw [D9] at hn;have hmem:=hD D (.head _);have hb:=hw.own D _ (C5 _ hmem);refine ⟨by simp,.inl ⟨D,_,rfl,run_takeDeferred hb,?_⟩⟩
  -- what is left of the marks' blocks
  have key:∃ Hd',(∀ E∈Ds,(E,Obj.deferred (some []))∈Hd')∧St M (Hd'++H) (w.putObj D (.deferred none)):=by
   refine ⟨Hd.filter fun x=>x.1 != D,fun E hE=>?_,?_⟩
   ·refine F6.2 ⟨hD E (.tail _ hE),?_⟩;have:E≠D:=fun e=>hn.1 (e ▸ hE);simpa using this
   ·refine ⟨fun b o hbo=>?_,fun b o hbo=>?_,fun b o hbo=>?_,?_,hw.io⟩
    ·have hne:b≠D:=fun e=>by subst e;have:=hw.sep b _ (C5 _ hmem);rw [this] at hbo;cases hbo
     rw [World.putObj_heap_other hne];exact hw.mem b o hbo
    ·have hin:(b,o)∈Hd++H:=by
      rcases B8.1 hbo with h|h
      ·exact C5 _ (F6.1 h).1
      ·exact D0 _ h
     have hne:b≠D:=by
      rcases B8.1 hbo with h|h
      ·simpa using (F6.1 h).2
      ·intro e;subst e;have hnd:=hw.nodup;rw [C6,H3] at hnd;exact hnd.2.2 b (C0.2 ⟨_,hmem,rfl⟩) b (C0.2 ⟨_,h,rfl⟩) rfl
     rw [World.putObj_heap_other hne];exact hw.own b o hin
    ·refine hw.sep b o ?_;rcases B8.1 hbo with h|h
     ·exact C5 _ (F6.1 h).1
     ·exact D0 _ h
    ·exact hw.nodup.sublist ((List.filter_sublist.append_right H).map _)
  obtain ⟨Hd',g1,g2⟩:=key;exact Zhk hrun Ds Hd' _ g1 hn.2 g2 hR
theorem HB {n:Nat} {fn:Func} {R:Ending→World→Prop} {x:Exit} {vs:List Value} {Ds:List Nat} {Hd:Hp} (hx:x=.normal∨x=.ret) (hr:Res P e H fn.results.toList vs)
 (hH:∀ w,St M H' w→St M (Hd++H) w) (hDs:∀ D∈Ds,(D,.deferred (some []))∈Hd) (hn:Ds.Nodup) (h:∀ w,St M H w→R (.returned (Zmb vs)) w) :
 K ⟨n,Ds.map CS,none,[]⟩ (bodyPostM (Fr none) 0 P fn R) x (St M H') e:=by
 intro a w ha hw;have hrun:∀ w,St M H w→(results fn a.tmps).run P w=.ok (Zmb vs) w:=by
  intro w hw;have h1:=Res.run (P:=P) ha hw hr;have h2:results fn a.tmps=(do let vs ← fn.results.mapM (IF a.tmps);pure (if h:vs.size=1 then vs[0] else .tuple vs)):=by
   congr 1
  rw [h2,Array.mapM_eq_mapM_toList,Sem.run_bind];rw [Sem.run_map,h1];cases vs with
  | nil=>rfl
  | cons v vs=>cases vs <;> rfl
 have:=Zhk (P:=P) (R:=R) hrun Ds Hd w hDs hn (hH w hw) h;rcases hx with rfl|rfl <;> (show LeavesInM _ _ _ _ _ _ a.defers _ _;rw [ha.defers];exact this)
end
end Go.Esp
namespace Go.Esp
inductive Kd where
  | b|i (k:IntKind)|s
def Fit:Kd→Value→Prop
 | .b,.bool _=>True
 | .i k,.int k' _=>k'=k
 | .s,.string _=>True
 | _,_=>False
def Fits:List Kd→List Value→Prop
 | [],[]=>True
 | k::ks,v::vs=>Fit k v∧Fits ks vs
 | _,_=>False
theorem Fits.length:∀ {ks:List Kd} {vs:List Value},Fits ks vs→vs.length=ks.length
 | [],[],_=>rfl
 | _::_,_::_,h=>by simp [Fits.length h.2]
 | [],_::_,h=>h.elim
 | _::_,[],h=>h.elim
theorem Fits.split:∀ {aZ bs:List Kd} {vs:List Value},Fits (aZ++bs) vs→Fits aZ (vs.take aZ.length)∧Fits bs (vs.drop aZ.length)
 | [],bs,vs,h=>⟨by simp [Fits],by simpa using h⟩
 | a::aZ,bs,[],h=>h.elim
 | a::aZ,bs,v::vs,h=>⟨⟨h.1,(Fits.split h.2).1⟩,(Fits.split h.2).2⟩
def PC (P:Program) (K:TypeId→Option (List Kd)):List Field→Nat→Option (List Kd)
 | [],_=>some []
 | f::fs,off=>match K f.type with
  | some ks => match f.name != "_" && Nat.beq f.offset off && Nat.beq (P.cellsOf f.type) ks.length, PC P K fs (off + ks.length) with
   | true,some ls=>some (ks++ls)
   | _,_=>none
  | none=>none
def UK (P:Program):Nat→TypeId→Option (List Kd)
 | 0,_=>none
 | d+1,t=>match P.underlying t with
  | some .bool=>some [.b]
  | some (.int k)=>some [.i k]
  | some .string=>some [.s]
  | some (.array n e)=>match UK P d e with
   | some ks=>match Nat.beq (P.cellsOf e) ks.length with
    | true=>some (List.replicate n ks).flatten
    | false=>none
   | none=>none
  | some (.struct fs)=>match P.stoodInHeld t with
   | true=>none
   | false=>PC P (UK P d) fs.toList 0
  | _=>none
def mkV (P:Program) (t:TypeId) (xs:List Value):Value:=match P.underlying t with
 | some (.struct _)=>.agg xs.toArray
 | some (.array _ _)=>.agg xs.toArray
 | _=>xs.headD undef
section
variable {P:Program}
theorem RZ {w:World} {t:TypeId} {xs:Array Value} {off:Nat} {seg:List Value} {d:TypeDesc} (hu:P.underlying t=some d) (hs:(xs.toList.drop off).take (P.cellsOf t)=seg) (hl:seg.length=P.cellsOf t) (h1:BA d=false→P.cellsOf t=1) :
 (part t xs off).run P w=.ok (mkV P t seg) w:=by
 obtain ⟨i,hi⟩:=info_of_underlying hu;unfold part;rw [ZY (Et hu)];cases hd:BA d with
 | true =>
  simp only [if_true];rw [ZY (run_sizeOf w hi)];have:mkV P t seg=.agg seg.toArray:=by
   unfold mkV;rw [hu];cases d <;> simp [BA] at hd <;> rfl
  rw [this];show Result.ok _ _=_;congr 2;apply Array.ext';rw [← hs];simp [J7]
 | false =>
  have h1':=h1 hd;rw [h1'] at hs hl
  match seg,hl with
  | [v],_ =>
   have:xs[off]?=some v:=by
    have:=A9 (·[0]?) hs;simpa [I1] using this
   rw [this];have:mkV P t [v]=v:=by
    unfold mkV;rw [hu];cases d <;> simp [BA] at hd <;> rfl
   rw [this];rfl
def EqK (P:Program) (dd:Nat) (t:TypeId) (ks:List Kd):Prop :=
 ∀ (w:World) (xs ys:List Value),Fits ks xs→Fits ks ys→∃ r:Bool,(Op.equalIn dd t (mkV P t xs) (mkV P t ys)).run P w=.ok r w∧(r=true↔xs=ys)
theorem Da {d:Nat} {t:TypeId} {ks:List Kd} {D:TypeDesc} (hk:UK P d t=some ks) (hu:P.underlying t=some D) (hc:BA D=false):ks.length=1:=by
 cases d with
 | zero=>simp [UK] at hk
 | succ d =>
  unfold UK at hk;rw [hu] at hk;cases D <;> simp [BA] at hc <;> simp at hk <;> subst hk <;> rfl
theorem Ji {d:Nat} {t:TypeId} {ks:List Kd} (hk:UK P d t=some ks):∃ D,P.underlying t=some D:=by
 cases d with
 | zero=>simp [UK] at hk
 | succ d =>
  unfold UK at hk;cases hu:P.underlying t with
  | none=>rw [hu] at hk;cases hk
  | some D=>exact ⟨D,rfl⟩
theorem NY (dd m:Nat) (IH:∀ t ks,UK P m t=some ks→EqK P dd t ks) (xs ys:List Value) (w:World):∀ (fs:List Field) (off:Nat) (ks:List Kd),PC P (UK P m) fs off=some ks →
 Fits ks (xs.drop off)→Fits ks (ys.drop off)→∃ r:Bool,(Op.eqFields dd xs.toArray ys.toArray fs).run P w=.ok r w∧(r=true↔xs.drop off=ys.drop off)
 | [],off,ks,hk,hx,hy=>by
  obtain rfl:=A5 hk;have h1:xs.drop off=[]:=D4 hx.length;have h2:ys.drop off=[]:=D4 hy.length;exact ⟨true,by simp [Op.eqFields],by simp [h1,h2]⟩
 | f::fs,off,ks,hk,hx,hy=>by
  unfold PC at hk;split at hk
  ·rename_i k1 hk1;split at hk
   ·rename_i ls hc hls;obtain rfl:=A5 hk;simp only [F1,bne_iff_ne,ne_eq] at hc;obtain ⟨⟨hn,ho⟩,hsz⟩:=hc;have ho:=F8 ho;have hsz:=F8 hsz;obtain ⟨x1,x2⟩:=hx.split;obtain ⟨y1,y2⟩:=hy.split;rw [E5] at x2 y2;obtain ⟨D,hD⟩:=Ji hk1;have one:BA D=false→P.cellsOf f.type=1:=fun h=>by rw [hsz];exact Da hk1 hD h
    have p1:=RZ (w:=w) (xs:=xs.toArray) (off:=f.offset) hD (seg:=(xs.drop off).take k1.length) (by rw [hsz,ho]) (by rw [x1.length,hsz]) one;have p2:=RZ (w:=w) (xs:=ys.toArray) (off:=f.offset) hD (seg:=(ys.drop off).take k1.length) (by rw [hsz,ho]) (by rw [y1.length,hsz]) one;obtain ⟨r,p3,hiff⟩:=IH f.type k1 hk1 w _ _ x1 y1;obtain ⟨r',hr',hiff'⟩:=NY dd m IH xs ys w fs (off+k1.length) ls hls x2 y2;simp only [Op.eqFields,hn,ne_eq,not_false_eq_true,if_true,Sem.run_bind,p1,p2,p3,Result.andThen_ok];have hsplit:xs.drop off=ys.drop off↔((xs.drop off).take k1.length=(ys.drop off).take k1.length∧xs.drop (off+k1.length)=ys.drop (off+k1.length)):=by
     constructor
     ·intro h;exact ⟨by rw [h],by rw [← E5,h,E5]⟩
     ·rintro ⟨h1,h2⟩;rw [← F0 k1.length (xs.drop off),← F0 k1.length (ys.drop off),h1,E5,E5,h2]
    rw [hsplit];cases r
    ·exact ⟨false,by simp,by simp;intro e;exact absurd (hiff.2 e) jQ⟩
    ·refine ⟨r',by simpa using hr',?_⟩;rw [hiff'];simp [hiff.1 rfl]
   ·cases hk
  ·cases hk
theorem LF (dd:Nat) {e:TypeId} {ks:List Kd} {D:TypeDesc} (hD:P.underlying e=some D) (one:BA D=false→P.cellsOf e=1) (hsz:P.cellsOf e=ks.length) (IH:EqK P dd e ks) (xs ys:List Value) (w:World):∀ (n i:Nat),
 Fits (List.replicate n ks).flatten (xs.drop (i * ks.length))→Fits (List.replicate n ks).flatten (ys.drop (i * ks.length)) →
 ∃ r:Bool,(Op.eqItems dd e (P.cellsOf e) xs.toArray ys.toArray (List.range' i n)).run P w=.ok r w∧(r=true↔xs.drop (i * ks.length)=ys.drop (i * ks.length))
 | 0,i,hx,hy=>by
  have h1:xs.drop (i * ks.length)=[]:=D4 hx.length;have h2:ys.drop (i * ks.length)=[]:=D4 hy.length;exact ⟨true,by simp [Op.eqItems],by simp [h1,h2]⟩
 | n+1,i,hx,hy=>by
  rw [List.replicate_succ,List.flatten_cons] at hx hy;obtain ⟨x1,x2⟩:=hx.split;obtain ⟨y1,y2⟩:=hy.split;rw [E5,show i * ks.length+ks.length=(i+1) * ks.length by rw [F4,Nat.one_mul]] at x2 y2;have p1:=RZ (w:=w) (xs:=xs.toArray) (off:=i * P.cellsOf e) hD (seg:=(xs.drop (i * ks.length)).take ks.length) (by rw [hsz]) (by rw [x1.length,hsz]) one;have p2:=RZ (w:=w) (xs:=ys.toArray) (off:=i * P.cellsOf e) hD (seg:=(ys.drop (i * ks.length)).take ks.length) (by rw [hsz]) (by rw [y1.length,hsz]) one;obtain ⟨r,p3,hiff⟩:=IH w _ _ x1 y1;obtain ⟨r',hr',hiff'⟩:=LF dd hD one hsz IH xs ys w n (i+1) x2 y2;rw [List.range'_succ];simp only [Op.eqItems,Sem.run_bind,p1,p2,p3,Result.andThen_ok];have hsplit:xs.drop (i * ks.length)=ys.drop (i * ks.length)↔((xs.drop (i * ks.length)).take ks.length=(ys.drop (i * ks.length)).take ks.length∧xs.drop ((i+1) * ks.length)=ys.drop ((i+1) * ks.length)):=by
   rw [show (i+1) * ks.length=i * ks.length+ks.length by rw [F4,Nat.one_mul]];constructor
   ·intro h;exact ⟨by rw [h],by rw [← E5,h,E5]⟩
   ·rintro ⟨h1,h2⟩;rw [← F0 ks.length (xs.drop (i * ks.length)),← F0 ks.length (ys.drop (i * ks.length)),h1,E5,E5,h2]
  rw [hsplit];cases r
  ·exact ⟨false,by simp,by simp;intro e;exact absurd (hiff.2 e) jQ⟩
  ·refine ⟨r',by simpa using hr',?_⟩;rw [hiff'];simp [hiff.1 rfl]
theorem IC (d:Nat):∀ (m:Nat) (t:TypeId) (ks:List Kd),UK P m t=some ks→EqK P (d+m) t ks
 | 0,_,_,h=>by simp [UK] at h
 | m+1,t,ks,h=>by
  intro w xs ys hx hy;unfold UK at h;have IH:=IC d m;rw [show d+(m+1)=(d+m)+1 from rfl];cases hu:P.underlying t with
  | none=>rw [hu] at h;cases h
  | some D =>
   rw [hu] at h;cases D <;> simp only [] at h <;> try (cases h;done)
   case bool =>
    obtain rfl:=A5 h
    match xs,ys,hx,hy with
    | [.bool a],[.bool b],_,_=>exact ⟨a == b,by simp [mkV,hu,run_equalIn_bool w _ _ _ _ hu],by simp⟩
   case int k =>
    obtain rfl:=A5 h
    match xs,ys,hx,hy with
    | [.int k1 a],[.int k2 b],h1,h2 =>
     obtain rfl:k1=k:=h1.1;obtain rfl:k2=k1:=h2.1;exact ⟨a == b,by simp [mkV,hu,run_equalIn_int w _ _ _ _ _ _ hu],by simp⟩
   case string =>
    obtain rfl:=A5 h
    match xs,ys,hx,hy with
    | [.string a],[.string b],_,_=>exact ⟨a.toList == b.toList,by simp [mkV,hu,run_equalIn_string w _ _ _ _ hu],by rw [Hv];simp⟩
   case array n e =>
    split at h
    ·rename_i ke hke;split at h
     ·rename_i hb;obtain rfl:=A5 h;have hsz:=F8 hb;obtain ⟨D,hD⟩:=Ji hke;obtain ⟨i,hi⟩:=info_of_underlying hD;have one:BA D=false→P.cellsOf e=1:=fun h=>by rw [hsz];exact Da hke hD h
      obtain ⟨r,hr,hiff⟩:=LF (d+m) hD one hsz (IH e ke hke) xs ys w n 0 (by simpa using hx) (by simpa using hy);refine ⟨r,?_,by simpa using hiff⟩;have e1:mkV P t xs=.agg xs.toArray:=by simp [mkV,hu]
      have e2:mkV P t ys=.agg ys.toArray:=by simp [mkV,hu]
      rw [e1,e2,run_equalIn_array w (d+m) _ _ hu hi,List.range_eq_range'];exact hr
     ·cases h
    ·cases h
   case struct fs =>
    split at h
    ·cases h
    ·rename_i hst;obtain ⟨r,hr,hiff⟩:=NY (d+m) m IH xs ys w fs.toList 0 ks h (by simpa using hx) (by simpa using hy);refine ⟨r,?_,by simpa using hiff⟩;have e1:mkV P t xs=.agg xs.toArray:=by simp [mkV,hu]
     have e2:mkV P t ys=.agg ys.toArray:=by simp [mkV,hu]
     have hfs:P.fieldsOf t=fs:=by simp [Program.fieldsOf,hu]
     rw [e1,e2,run_equalIn_struct w (d+m) t _ _ (by rw [hfs];exact hu) (by simpa using hst),hfs];exact hr
end
section
variable {P:Program} {n:Sh} {ops:Array Oper} {Q:Exit→Act→World→Prop} {rest:List Nat} {M M':Mem} {H H' H0:Hp} {e:Env} {J S:World→Prop} {A:As} {i:Nat}
  {dst:Option Tmp} {d:Tmp} {op:Op} {ty:TypeId} {pos:String} {af:Array Edge} {gd:Option (Nat×Bool)}
def Zws:BinOp→Bool
 | .eql=>true
 | .neq=>true
 | _=>false
def eqX:BinOp→Bool→Bool
 | .neq,c=>!c
 | _,c=>c
def eqP:BinOp→Prop→Prop
 | .neq,p=>¬p
 | _,p=>p
theorem Zia {o:BinOp} (h:Zws o=true):o=.eql∨o=.neq:=by cases o <;> simp [Zws] at h <;> simp
theorem Ah {o:BinOp} {t t':TypeId} {x y:Operand} {v:Value} (ho:o=.eql∨o=.neq) (hi:ops[i]?=some ⟨some d,.binOp o t x y t',ty,pos,af,gd⟩) (hg:want ops e gd=some true)
 (hr:∀ a' w,Sat n e a'→(do eqGuard o t x y (a'.eval x) (a'.eval y);binOp o t (a'.eval x) (a'.eval y):Sem Value).run P w=.ok v w) (hd:Nat.ble (d+1) n.sz=true)
 (hk:XD P n ops Q rest J A ((d,v)::e)):XD P n ops Q (i::rest) J A e:=by
 have hcl:NE P (.binOp o t x y t')=.read:=by rcases ho with rfl|rfl <;> rfl
 refine UB hi hcl hg (fun a w ha _=>Xp ?_) (fun a ha=>ha.put hd _) hk;exact Wz (hr a w ha)
theorem VW {o:BinOp} {t t':TypeId} {x y:Operand} {R1 R2:Segs} {m:Nat} {ks:List Kd} {u v:Value} {sz:Nat} (hi:ops[i]?=some ⟨some d,.binOp o t x y t',ty,pos,af,gd⟩) (hg:want ops e gd=some true)
 (ho:Zws o=true) (hx:ev e x=some u) (hy:ev e y=some v) (hu:Parts u R1) (hv:Parts v R2) (hl:lay P t=some (true,sz)) (hks:UK P m t=some ks) (hm:Nat.ble m 10000=true) (hgt:P.eqGuardType P.depth t=false) (h1:Fits ks (Segs.cells R1)) (h2:Fits ks (Segs.cells R2)) (hau:u=WX R1) (hav:v=WX R2)
 (hd:Nat.ble (d+1) n.sz=true)
 (hk':∀ c:Bool,(c=true↔eqP o (Segs.cells R1=Segs.cells R2))→XD P n ops Q rest J A ((d,.bool c)::e)):XD P n ops Q (i::rest) J A e:=by
 have hk:∀ c:Bool,(c=true↔Segs.cells R1=Segs.cells R2)→XD P n ops Q rest J A ((d,.bool (eqX o c))::e):=by
  intro c hc;cases o <;> simp [Zws] at ho <;> cases c <;> simp_all [eqX,eqP]
 subst hau;subst hav;have ho':=Zia ho;have hm':=D1 hm;obtain ⟨dd,it,hud,_,_,hag⟩:=OH hl;have mk1:∀ R,mkV P t (Segs.cells R)=WX R:=fun R=>by
  unfold mkV;rw [hud];cases dd <;> simp [BA] at hag <;> rfl
 have key:∀ w:World,∃ r:Bool,(Op.equal t (WX R1) (WX R2)).run P w=.ok r w∧(r=true↔Segs.cells R1=Segs.cells R2):=by
  intro w;obtain ⟨r,hr,hiff⟩:=IC (10000-m) m t ks hks w _ _ h1 h2;rw [mk1,mk1,show 10000-m+m=10000 by omega] at hr;exact ⟨r,hr,hiff⟩
 obtain ⟨c,hc⟩:∃ c:Bool,(c=true↔Segs.cells R1=Segs.cells R2):=by
  by_cases h:Segs.cells R1=Segs.cells R2
  ·exact ⟨true,by simp [h]⟩
  ·exact ⟨false,by simp [h]⟩
 refine Ah ho' hi hg (fun a w ha=>?_) hd (hk c hc);rw [ha.ev hx,ha.ev hy];have hgd:(eqGuard o t x y (WX R1) (WX R2)).run P w=.ok () w:=by
  unfold eqGuard WX;have hp:(program:Sem Program).run P w=.ok P w:=rfl;rcases ho' with rfl|rfl <;> simp [hgt]
 rw [ZY hgd];obtain ⟨r,hr,hiff⟩:=key w;have hrc:r=c:=by cases r <;> cases c <;> simp_all
 subst hrc;rcases ho' with rfl|rfl
 ·show (do pure (.bool (← Op.equal t (WX R1) (WX R2))):Sem Value).run P w=_;rw [ZY hr];rfl
 ·show (do pure (.bool (!(← Op.equal t (WX R1) (WX R2)))):Sem Value).run P w=_;rw [ZY hr];rfl
def Znt:TypeDesc→Value→Option (Bool×Value)
 | .pointer _,.pointer p=>some (p.isNone,.pointer none)
 | .slice _,.slice a _ _=>some (a.isNone,.slice none 0 0)
 | .map _ _,.map r=>some (r.isNone,.map none)
 | .func _ _ _,.nilFunc=>some (true,.nilFunc)
 | .func _ _ _,.func _ _ _=>some (false,.nilFunc)
 | .interface _,.nilIface=>some (true,.nilIface)
 | .interface _,.iface _ _=>some (false,.nilIface)
 | _,_=>none
theorem Zzu {o:BinOp} {t t':TypeId} {x:Operand} {v z:Value} {D:TypeDesc} {c:Bool} (hi:ops[i]?=some ⟨some d,.binOp o t x (.const z) t',ty,pos,af,gd⟩) (hg:want ops e gd=some true)
 (ho:Zws o=true) (hx:ev e x=some v) (hu:P.underlying t=some D) (hn:Znt D v=some (c,z)) (hd:Nat.ble (d+1) n.sz=true)
 (hk:XD P n ops Q rest J A ((d,.bool (eqX o c))::e)):XD P n ops Q (i::rest) J A e:=by
 have ho':=Zia ho;refine Ah ho' hi hg (fun a w ha=>?_) hd hk;rw [ha.ev hx];show (do eqGuard o t x (.const z) v z;binOp o t v z:Sem Value).run P w=_;have key:(Op.equal t v z).run P w=.ok c w:=by
  unfold Znt at hn;show (Op.equalIn (9999+1) t v z).run P w=_;unfold Op.equalIn;rw [ZY (YP hu)];split at hn <;> first
   | (cases hn;done)
   | (simp only [G1] at hn;obtain ⟨rfl,rfl⟩:=hn;first|rfl|(rename_i p;cases p <;> rfl)|(rename_i p _ _;cases p <;> rfl))
 have hgd:(eqGuard o t x (.const z) v z).run P w=.ok () w:=by
  unfold Znt at hn;unfold eqGuard;rcases ho' with rfl|rfl <;> split at hn <;> simp at hn <;> obtain ⟨rfl,rfl⟩:=hn <;> simp
 rw [ZY hgd];have hb:binOp o t v z=(match o with | .neq=>do pure (.bool (!(← Op.equal t v z)))|_=>do pure (.bool (← Op.equal t v z)):Sem Value):=by
  unfold Znt at hn;rcases ho' with rfl|rfl <;> split at hn <;> simp at hn <;> obtain ⟨rfl,rfl⟩:=hn <;> rfl
 rw [hb];rcases ho' with rfl|rfl
 ·simp only [];rw [ZY key];rfl
 ·simp only [];rw [ZY key];rfl
def fld (P:Program) (s:TypeId) (f:Nat):Option (Nat×TypeId):=match P.underlying s with
 | some (.struct fs)=>match fs[f]? with
  | some fd=>some (fd.offset,fd.type)
  | none=>none
 | _=>none
theorem Zus {s T:TypeId} {x:Operand} {f off m:Nat} {agg:Bool} {r r':Segs} {v:Value} (hi:ops[i]?=some ⟨some d,.field s x f,ty,pos,af,gd⟩) (hg:want ops e gd=some true) (hx:ev e x=some (WX r))
 (hf:fld P s f=some (off,T)) (hl:lay P T=some (agg,m)) (hs:Segs.sub r off m=some r') (hv:Sp agg r'=some v) (hd:Nat.ble (d+1) n.sz=true)
 (hk:XD P n ops Q rest J A ((d,v)::e)):XD P n ops Q (i::rest) J A e :=
 VA hi rfl hg (fun a' w ha=>Xp (by
  simp only [execOp,ha.ev hx];refine Wz ?_;obtain ⟨D,it,hD,hit,hsz,hag⟩:=OH hl;obtain ⟨h1,h2⟩:=Segs.sub_cells hs;obtain ⟨_,_,_,_,h3⟩:=Segs.sub_spec hs;unfold fld at hf;split at hf
  ·rename_i fs hfs;split at hf
   ·rename_i fd hfd;simp only [G1,I8] at hf;obtain ⟨rfl,rfl⟩:=hf;have hc:P.cellsOf fd.type=m:=by simp [Program.cellsOf,hit,hsz]
    have hlen:(Segs.cells r').length=m:=by rw [Segs.cells_length,h3]
    have hp:=RZ (w:=w) (xs:=(Segs.cells r).toArray) (off:=fd.offset) hD (seg:=Segs.cells r') (by rw [hc];exact h1) (by rw [hlen,hc]) (fun hh=>by
     rw [hag] at hh;subst hh;unfold Sp at hv;split at hv
     ·rename_i e1 _;first|(cases e1;done)|(rename_i e1;cases e1;done)|simp_all
     ·rw [hc,← hlen];rfl
     ·cases hv)
    have hmk:mkV P fd.type (Segs.cells r')=v:=by
     unfold mkV;rw [hD];unfold Sp at hv;split at hv
     ·obtain rfl:=A5 hv;cases D <;> simp [BA] at hag <;> rfl
     ·obtain rfl:=A5 hv;cases D <;> simp [BA] at hag <;> rfl
     ·cases hv
    unfold Instr.field;rw [ZY (YP hfs)];simp only [WX,hfd];rw [hmk] at hp;exact hp
   ·cases hf
  ·cases hf)) (fun a ha=>ha.put hd _) hk
def Fo (P:Program) (f:FuncId) (vs:List Value) (M:Mem) (Hin:Hp) (R:Mem→Value→Prop):Prop :=
 ∀ H w,St M (Hin++H) w→Calls P f vs.toArray w fun e w'=>∃ v M',e=.returned v∧M.le M'∧St M' (Hin++H) w'∧R M' v
theorem Yay {f:FuncId} {xs:List Operand} {ats:Array TypeId} {vs:List Value} {Hin Hr:Hp} {R:Mem→Value→Prop} (hi:ops[i]?=some ⟨dst,.call ⟨.value (.func f),xs.toArray,ats⟩,ty,pos,af,gd⟩) (hg:want ops e gd=some true)
 (hf:Ta P f=true) (hx:evs e xs=some vs) (hc:Fo P f vs M Hin R) (hH:Rem Hin H Hr) (hd:∀ a v,Sat n e a→Sat n (NN dst v e) (a.put dst v))
 (hk:∀ v M',M.le M'→R M' v→XD P n ops Q rest J ⟨M',H⟩ (NN dst v e)):XD P n ops Q (i::rest) J ⟨M,H⟩ e:=by
 obtain ⟨fn,h1,h2,h3⟩:=Ub hf;refine Zdx hi rfl hg (fun a F w ha hw=>Rv h1 h2 h3 zB ?_);exact (hc (F++Hr) w (hw.perm0 ((hH.perm.append_left F).trans (PV F Hin Hr)))).mono fun e' w' ⟨v,M',he,hm,hs,hr⟩=>⟨v,he,⟨M',H⟩,_,hs.perm0 ((hH.perm.append_left F).trans (PV F Hin Hr)).symm,fun _ h=>St.lower h hm,hd a v ha,hk v M' hm hr⟩
theorem VT {f:FuncId} {fn:Func} {c:Code} {vs:List Value} {Hin:Hp} {R:Mem→Value→Prop} {m:Nat} (hf:P.funcs[f]?=some fn) (hb:fn.body=some c) (hm:fn.ntmps=m) (hle:Nat.ble vs.length m=true)
 (h:∀ H,C P ⟨m,[],none,[]⟩ c (bodyPost P fn fun e w'=>∃ v M',e=.returned v∧M.le M'∧St M' (Hin++H) w'∧R M' v) (St M (Hin++H)) (RJ 0 vs)):Fo P f vs M Hin R :=
 fun H _ hw=>enter (S:=St M (Hin++H)) hf hb hm hle hw (h H)
theorem XK {d:Tmp} (hd:Nat.ble (d+1) n.sz=true):∀ a v,Sat n e a→Sat n (NN (some d) v e) (a.put (some d) v):=fun _ v ha=>ha.put hd v
theorem Oa:∀ a v,Sat n e a→Sat n (NN none v e) (a.put none v):=fun _ v ha=>ha.none v
end
end Go.Esp
namespace Go.Esp
noncomputable section
open Classical
def cnt (x:Nat×Obj) (H:Hp):Nat:=List.count x H
theorem WW (x:Nat×Obj):cnt x []=0:=rfl
def Zyy (x y:Nat×Obj):Nat:=List.count x [y]
theorem Wo (x y:Nat×Obj) (H:Hp):cnt x (y::H)=Zyy x y+cnt x H:=by
 unfold cnt Zyy;grind
theorem WG (x:Nat×Obj) (A B:Hp):cnt x (A++B)=cnt x A+cnt x B:=by simp [cnt,List.count_append]
theorem Zby {x:Nat×Obj} {H:Hp} (h:0<cnt x H):x∈H:=List.count_pos_iff.1 h
theorem Zdh {x:Nat×Obj} {H:Hp} (h:x∈H):0<cnt x H:=List.count_pos_iff.2 h
theorem EN {H:Hp}:H.Nodup↔∀ x,cnt x H≤1:=List.nodup_iff_count
theorem St.cnt {M:Mem} {H H':Hp} {w:World} (h:St M H w) (hc:∀ x,Esp.cnt x H'≤Esp.cnt x H):St M H' w:=by
 have hsub:∀ x,x∈H'→x∈H:=fun x hx=>Zby (Nat.lt_of_lt_of_le (Zdh hx) (hc x));have hnd:H.Nodup:=by
  have:=h.nodup;rw [List.Nodup,List.pairwise_map] at this;exact this.imp fun hne he=>hne (by rw [he])
 have hnd':H'.Nodup:=EN.2 fun x=>H7 (hc x) (EN.1 hnd x);have hinj:∀ x∈H,∀ y∈H,x.1=y.1→x=y:=by
  intro x hx y hy hxy;have h1:=h.own x.1 x.2 hx;have h2:=h.own y.1 y.2 hy;rw [hxy,h2] at h1;have:=A5 h1;exact Prod.ext hxy this.symm
 refine ⟨h.mem,fun b o hb=>h.own b o (hsub _ hb),fun b o hb=>h.sep b o (hsub _ hb),?_,h.io⟩;rw [List.Nodup,List.pairwise_map];refine List.Pairwise.imp_of_mem ?_ hnd';grind
end
theorem Upd.over {b:Nat} {o o':Obj} {H H':Hp} (h:Upd b o o' H H'):∀ gs:Hp,Upd b o o' (gs++H) (gs++H')
 | []=>h
 | _::gs=>.tail (Upd.over h gs)
section
variable {P:Program} {n:Sh} {ops:Array Oper} {Q:Exit→Act→World→Prop} {rest:List Nat} {M M':Mem} {H H' H0:Hp} {e:Env} {J S:World→Prop} {A:As} {i:Nat}
  {dst:Option Tmp} {d:Tmp} {op:Op} {ty:TypeId} {pos:String} {af:Array Edge} {gd:Option (Nat×Bool)}
theorem YI {f:FuncId} {fn:Func} {c:Code} {vs:List Value} {Hin:Hp} {R:Mem→Value→Hp→Prop} {m:Nat} (F:Hp→Hp) (hF:∀ H,Hin++H=F H) (hf:P.funcs[f]?=some fn) (hb:fn.body=some c) (hm:fn.ntmps=m) (hle:Nat.ble vs.length m=true)
 (h:∀ H,C P ⟨m,[],none,[]⟩ c (bodyPost P fn fun e w'=>∃ v M' Hout,e=.returned v∧M.le M'∧St M' (Hout++H) w'∧R M' v Hout) (St M (F H)) (RJ 0 vs)):Fh P f vs M Hin R :=
 fun H _ hw=>enter (S:=St M (F H)) hf hb hm hle (hF H ▸ hw) (h H)
theorem Mv {f:FuncId} {fn:Func} {c:Code} {vs:List Value} {Hin:Hp} {R:Mem→Value→Prop} {m:Nat} (F:Hp→Hp) (hF:∀ H,Hin++H=F H) (hf:P.funcs[f]?=some fn) (hb:fn.body=some c) (hm:fn.ntmps=m) (hle:Nat.ble vs.length m=true)
 (h:∀ H,C P ⟨m,[],none,[]⟩ c (bodyPost P fn fun e w'=>∃ v M',e=.returned v∧M.le M'∧St M' (Hin++H) w'∧R M' v) (St M (F H)) (RJ 0 vs)):Fo P f vs M Hin R :=
 fun H _ hw=>enter (S:=St M (F H)) hf hb hm hle (hF H ▸ hw) (h H)
theorem LS {t k el:TypeId} {x y u:Operand} {b:Nat} {z:Int} {v:Value} {o:Obj} {l:IM} (hi:ops[i]?=some ⟨none,.mapUpdate t x y u,ty,pos,af,gd⟩) (hg:want ops e gd=some true)
 (hx:ev e x=some (.map (some b))) (hy:ev e y=some (.int .i64 z)) (hu:ev e u=some v) (ht:RI P t=some (k,el)) (ho:imO o l) (hb:(b,o)∈H)
 (hk:∀ o',imO o' (VS l z v)→∃ H2,Upd b o o' H H2∧XD P n ops Q rest (St M H2) ⟨M,H2⟩ e) (hnw:n.wrs.contains i=false:=by rfl):XD P n ops Q (i::rest) J ⟨M,H⟩ e:=by
 refine SK hi rfl hg (fun a w ha hw=>?_) hnw;have hb:=hw.own b o hb;obtain ⟨o',hr,ho'⟩:=Nh (P:=P) (z:=z) (v:=v) ht hb ho;unfold Oper.does;have:(execOp a.eval ⟨none,.mapUpdate t x y u,ty,pos,af,gd⟩).run P w=.ok .skip { w with heap:=w.heap.setIfInBounds b o' }:=by
  simp only [execOp,ha.ev hx,ha.ev hy,ha.ev hu];rw [ZY hr];rfl
 rw [this];obtain ⟨H2,hH,hk⟩:=hk o' ho';exact ⟨⟨M,H2⟩,e,St.upd hw hH (RQ hb) (fun c hc q hq=>by rw [SS hc];exact hq) (SameIO.refl _),ha,hk⟩
theorem Zla {t k el:TypeId} {x y:Operand} {b:Nat} {z:Int} {o:Obj} {l:IM} {ats:Array TypeId} (hi:ops[i]?=some ⟨none,.call ⟨.builtin .delete,#[x,y],ats⟩,ty,pos,af,gd⟩) (hg:want ops e gd=some true)
 (hx:ev e x=some (.map (some b))) (hy:ev e y=some (.int .i64 z)) (hat:ats[0]?=some t) (ht:RI P t=some (k,el)) (ho:imO o l) (hb:(b,o)∈H)
 (hk:∀ o',imO o' (Pb l z)→∃ H2,Upd b o o' H H2∧XD P n ops Q rest (St M H2) ⟨M,H2⟩ e) (hnw:n.wrs.contains i=false:=by rfl):XD P n ops Q (i::rest) J ⟨M,H⟩ e:=by
 refine SK hi rfl hg (fun a w ha hw=>?_) hnw;have hb:=hw.own b o hb;obtain ⟨o',hr,ho'⟩:=CC (P:=P) (ty:=ty) (z:=z) hat ht hb ho;unfold Oper.does;have:(execOp a.eval ⟨none,.call ⟨.builtin .delete,#[x,y],ats⟩,ty,pos,af,gd⟩).run P w=.ok (.value (.tuple #[])) { w with heap:=w.heap.setIfInBounds b o' }:=by
  simp only [execOp,resolve];simp only [invoke,builtin];have e1:#[x,y].map a.eval=#[.map (some b),.int .i64 z]:=by simp [ha.ev hx,ha.ev hy]
  rw [e1,Sem.run_bind];show (Result.ok _ w).andThen _=_;rw [Result.andThen_ok];exact Wz hr
 rw [this];obtain ⟨H2,hH,hk⟩:=hk o' ho';exact ⟨⟨M,H2⟩,e,St.upd hw hH (RQ hb) (fun c hc q hq=>by rw [SS hc];exact hq) (SameIO.refl _),ha,hk⟩
inductive Bnd (e:Env):Option Operand→Option Nat→Prop
  | none:Bnd e none none
  | some {x:Operand} {q:IntKind} {z:Int} {k:Nat}:ev e x=some (.int q z)→z=(k:Int)→Bnd e (some x) (some k)
theorem VQ {w:World} {q:IntKind} {k y:Nat} {code:BoundsCode} (h:k≤y):(Instr.sliceBound (.int q (k:Int)) y code).run P w=.ok k w:=by
 simp [Instr.sliceBound,asIntOf,h]
def WK (a:Option Addr) (sz lo hi m:Nat):Value:=.slice (if m=lo then a else a.map (·.add (lo * sz))) (hi-lo) (m-lo)
theorem WL {t E sz by_:Nat} {x:Operand} {lo hi mx:Option Operand} {olo ohi omx:Option Nat} {a:Option Addr} {l c:Nat} {v:Value} (hi':ops[i]?=some ⟨some d,.slice t x lo hi mx,ty,pos,af,gd⟩) (hg:want ops e gd=some true)
 (hx:ev e x=some (.slice a l c)) (h1:Bnd e lo olo) (h2:Bnd e hi ohi) (h3:Bnd e mx omx) (ht:Na P t=some (E,sz,by_)) (hm:omx.getD c≤c) (hh:ohi.getD l≤omx.getD c) (hl:olo.getD 0≤ohi.getD l) (hmh:omx.isSome=true→ohi.isSome=true)
 (hv:WK a sz (olo.getD 0) (ohi.getD l) (omx.getD c)=v) (hd:Nat.ble (d+1) n.sz=true)
 (hk:XD P n ops Q rest J A ((d,v)::e)):XD P n ops Q (i::rest) J A e :=
 VA hi' rfl hg (fun a' w ha=>Xp (by
  subst hv;simp only [execOp];refine Wz ?_;obtain ⟨it,hu,hit,rfl,_⟩:=Wq ht;unfold Instr.sliceAt;rw [ZY (YP hu)];simp only [ha.ev hx];unfold Instr.slice;rw [ZY (YP hu)];simp only [];have hb:(Instr.sliceBounds true l c (lo.map a'.eval) (hi.map a'.eval) (mx.map a'.eval)).run P w=.ok (olo.getD 0,ohi.getD l,omx.getD c) w:=by
   unfold Instr.sliceBounds;cases h3 with
   | none =>
    simp only [Option.map_none,Option.getD_none] at hm hh ⊢;rw [ZY (show (pure c:Sem Nat).run P w=.ok c w from rfl)];cases h2 with
    | none =>
     simp only [Option.map_none,Option.getD_none] at hh hl ⊢;rw [ZY (show (pure l:Sem Nat).run P w=.ok l w from rfl)];cases h1 with
     | none=>rfl
     | some hz hzk =>
      subst hzk;simp only [E9,ha.ev hz,F7] at hl ⊢;rw [ZY (VQ hl)];rfl
    | some hy hyk =>
     subst hyk;simp only [E9,ha.ev hy,F7] at hh hl ⊢;rw [ZY (VQ hh)];cases h1 with
     | none=>rfl
     | some hz hzk =>
      subst hzk;simp only [E9,ha.ev hz,F7] at hl ⊢;rw [ZY (VQ hl)];rfl
   | some hw hwk =>
    subst hwk;simp only [E9,ha.ev hw,F7] at hm hh hl ⊢;rw [ZY (VQ hm)];cases h2 with
    | none=>simp at hmh
    | some hy hyk =>
     subst hyk;simp only [E9,ha.ev hy,F7] at hh hl ⊢;rw [ZY (VQ hh)];cases h1 with
     | none=>rfl
     | some hz hzk =>
      subst hzk;simp only [E9,ha.ev hz,F7] at hl ⊢;rw [ZY (VQ hl)];rfl
  rw [ZY hb];simp only [];rw [ZY (Th hit)];rfl)) (fun a ha=>ha.put hd _) hk
theorem OSl.cut {T sz b k c:Nat} {hs:Hp} {rows:List Segs} (h:OSl T sz (.slice (some ⟨b,0,none⟩) rows.length c) hs rows) (hk:k≤rows.length):OSl T sz (.slice (some ⟨b,0,none⟩) k c) hs (rows.take k):=by
 obtain ⟨cur,rfl,_,h1,h2,h3,h4,h5⟩:=h.inv;have hl:Esp.lens sz (rows.take k):=fun r hr=>h1 r (F9 hr);have hlen:(rows.take k).length=k:=by simp [hk]
 have:=OSl.own (T:=T) b c (rows.take k) cur hl jD h3 h4 (by
  rw [← YU hl];have h6:ZV rows=ZV (rows.take k)++ZV (rows.drop k):=by rw [← XJ,F0]
  have h7:cur.toList.take ((ZV (rows.take k)).length)=(cur.toList.take (rows.length * sz)).take ((ZV (rows.take k)).length):=by
   rw [I3];congr 1;have:(ZV (rows.take k)).length≤rows.length * sz:=by
    rw [YU hl,hlen];exact D2 _ hk
   omega
  rw [h7,h5,h6];exact List.take_left)
 rw [hlen] at this;exact this
theorem OSl.src {T sz b k c c':Nat} {hs H0:Hp} {rows:List Segs} (h:OSl T sz (.slice (some ⟨b,0,none⟩) rows.length c) hs rows) (hH:Rem hs H H0) (h1:∀ u∈ZV rows,u.oneCell'=true):Src M H sz (.slice (some ⟨b,k * sz,none⟩) (rows.length-k) c') (rows.drop k):=by
 obtain ⟨cur,rfl,_,hl,h2,h3,h4,h5⟩:=h.inv;have hl':Esp.lens sz (rows.drop k):=fun r hr=>hl r (List.mem_of_mem_drop hr);have h6:ZV rows=ZV (rows.take k)++ZV (rows.drop k):=by rw [← XJ,F0]
 refine ⟨hl',fun u hu=>h1 u (by rw [h6];exact D0 _ hu),⟨b,k * sz,none⟩,c',by simp,fun w hw=>?_⟩;have hb:=(hw.perm hH.perm).own b _ (C5 _ (.head _));refine GD hb (n:=(rows.drop k).length * sz) ?_;rcases C7 rows.length k with hk|hk
 ·rw [List.drop_of_length_le (Nat.le_of_lt hk)];simp [ZV]
 ·have hlt:Esp.lens sz (rows.take k):=fun r hr=>hl r (F9 hr);have h7:k * sz=(ZV (rows.take k)).length:=by rw [YU hlt];simp [hk]
  have h8:(rows.drop k).length * sz=rows.length * sz-k * sz:=by rw [F3,Nat.sub_mul]
  rw [h8,← J7,h5,h6,h7];exact List.drop_left
theorem Src.nil {sz:Nat} {a:Addr} {c:Nat}:Src M H sz (.slice (some a) 0 c) []:=⟨fun r hr=>(by cases hr),fun u hu=>(by cases hu),a,c,rfl,fun w hw j u hu=>(by simp [ZV] at hu)⟩
theorem BE {t E sz by_ b c:Nat} {x y:Operand} {u:Value} {hs:Hp} {rows news:List Segs} {ats:Array TypeId} {l:Nat} (hi:ops[i]?=some ⟨some d,.call ⟨.builtin .append,#[x,y],ats⟩,ty,pos,af,gd⟩) (hg:want ops e gd=some true)
 (hx:ev e x=some (.slice (some ⟨b,0,none⟩) l c)) (hy:ev e y=some u) (hat:ats=#[t,t]) (ht:Na P t=some (E,sz,by_)) (ho:OSl E sz (.slice (some ⟨b,0,none⟩) l c) hs rows) (hH:Rem hs H H0)
 (hsrc:Src M H sz u news) (hm:rows.length+news.length≤c) (hd:Nat.ble (d+1) n.sz=true)
 (hk:∀ hs',OSl E sz (.slice (some ⟨b,0,none⟩) (rows++news).length c) hs' (rows++news)→XD P n ops Q rest (St M (hs'++H0)) ⟨M,hs'++H0⟩ ((d,.slice (some ⟨b,0,none⟩) (rows++news).length c)::e)) (hnw:n.wrs.contains i=false:=by rfl):XD P n ops Q (i::rest) J ⟨M,H⟩ e:=by
 subst hat;refine SK hi rfl hg (fun a w ha hw=>?_) hnw;obtain ⟨hl,h1,ad,c',rfl,hsr⟩:=hsrc;obtain ⟨it,hu,hit,rfl,rfl⟩:=Wq ht;obtain ⟨cur,rfl,rfl,hlr,hcap,hcm,hcs,htake⟩:=ho.inv;have hst:=hw.perm hH.perm;have hb:=hst.own b _ (C5 _ (.head _));have hn:=hsr w hw;have hnl:(ZV news).length=news.length * it.size:=YU hl;have hfit:rows.length * it.size+(ZV news).length≤cur.size:=by rw [hnl,hcs,← F4];exact D2 _ hm
 have hr:=run_append_room (P:=P) w t ty E it hu hit b rows.length c cur hb ad news.length c' (ZV news) hnl hn h1 hm hfit;have hall:lens it.size (rows++news):=hlr.append hl;have hlen:(rows++news).length=rows.length+news.length:=by simp
 have h2:St M ([(b,.cells (cur.toList.take (rows.length * it.size)++ZV news++cur.toList.drop (rows.length * it.size+(ZV news).length)).toArray E (0,0))]++H0)
  (w.setRow b (cur.toList.take (rows.length * it.size)++ZV news++cur.toList.drop (rows.length * it.size+(ZV news).length)).toArray) :=
  hst.upd .head (setRow_heap w b cur _ E _ hb) (fun c hc x hx=>by rw [setRow_other w b c _ hc];exact hx) (SameIO.refl _)
 unfold Oper.does;have:(execOp a.eval ⟨some d,.call ⟨.builtin .append,#[x,y],#[t,t]⟩,ty,pos,af,gd⟩).run P w=.ok (.value (.slice (some ⟨b,0,none⟩) (rows++news).length c)) (w.setRow b (cur.toList.take (rows.length * it.size)++ZV news++cur.toList.drop (rows.length * it.size+(ZV news).length)).toArray):=by
  simp only [execOp,resolve];simp only [invoke,builtin];have e1:#[x,y].map a.eval=#[.slice (some ⟨b,0,none⟩) rows.length c,.slice (some ad) news.length c']:=by simp [ha.ev hx,ha.ev hy]
  rw [e1];rw [Sem.run_bind];show (Result.ok _ w).andThen _=_;rw [Result.andThen_ok,hlen];exact Wz hr
 rw [this];refine ⟨⟨M,_⟩,_,h2,ha.put hd _,hk _ ?_⟩;refine OSl.own b c _ _ hall jD hcm ?_ ?_
 ·simp only [J2,B3,D8,F3,H6];omega
 ·rw [htake,← YU hall,XJ];exact List.take_left
theorem JS {t E sz by_ b c off k c':Nat} {z:Value} {x:Operand} {hs:Hp} {rows:List Segs} {ats:Array TypeId} {a:Option Addr} (hi:ops[i]?=some ⟨dst,.call ⟨.builtin .clear,#[x],ats⟩,ty,pos,af,gd⟩) (hg:want ops e gd=some true)
 (hx:ev e x=some (.slice a k c')) (ha':a=some ⟨b,off,none⟩) (hat:ats[0]?=some t) (ht:Na P t=some (E,sz,by_)) (hz:XP P E=some z) (hzs:z.cells.size=sz) (hz1:z.cells.all (fun u=>u.oneCell')=true) (ho:OSl E sz (.slice (some ⟨b,0,none⟩) rows.length c) hs rows) (hH:Rem hs H H0)
 (h1:rows.length * sz≤off) (h2:off+k * sz≤c * sz) (hd:∀ a v,Sat n e a→Sat n (NN dst v e) (a.put dst v))
 (hk:∀ hs',OSl E sz (.slice (some ⟨b,0,none⟩) rows.length c) hs' rows→XD P n ops Q rest (St M (hs'++H0)) ⟨M,hs'++H0⟩ (NN dst (.tuple #[]) e)) (hnw:n.wrs.contains i=false:=by rfl):XD P n ops Q (i::rest) J ⟨M,H⟩ e:=by
 subst ha';refine SK hi rfl hg (fun a w ha hw=>?_) hnw;obtain ⟨it,hu,hit,rfl,rfl⟩:=Wq ht;obtain ⟨cur,rfl,_,hlr,hcap,hcm,hcs,htake⟩:=ho.inv;have hst:=hw.perm hH.perm;have hb:=hst.own b _ (C5 _ (.head _));have hz':it.zero=some z:=by simpa [XP,hit] using hz
 unfold Oper.does;have e1:#[x].map a.eval=#[.slice (some ⟨b,off,none⟩) k c']:=by simp [ha.ev hx]
 have hrest:∀ u∈(Builtin.zeroCells z.cells k).toList,u.oneCell'=true:=by
  intro u hu;simp only [Builtin.zeroCells,Array.toList_map,C0] at hu;obtain ⟨j,hj,rfl⟩:=hu;have hj':j<k * z.cells.size:=by simpa using hj
  have hpos:0<z.cells.size:=by
   rcases Nat.eq_zero_or_pos z.cells.size with h|h
   ·rw [h] at hj';omega
   ·exact h
  have hlt:=G5 j hpos;have:=(Array.all_eq_true.1 hz1) (j % z.cells.size) hlt;rw [getElem!_pos z.cells (j % z.cells.size) hlt];exact this
 have hlen:(Builtin.zeroCells z.cells k).toList.length=k * it.size:=by
  rw [H6,size_zeroCells,hzs]
 by_cases hk0:k=0
 ·subst hk0;have:(execOp a.eval ⟨dst,.call ⟨.builtin .clear,#[x],ats⟩,ty,pos,af,gd⟩).run P w=.ok (.value (.tuple #[])) w:=by
   simp only [execOp,resolve];simp only [invoke,builtin];rw [e1,Sem.run_bind];show (Result.ok _ w).andThen _=_;rw [Result.andThen_ok];refine Wz ?_;simp [Builtin.clear_,hat,run_underlying hu]
  rw [this];have hst2:St M ([(b,.cells cur E (0,0))]++H0) w:=hst;exact ⟨⟨M,_⟩,_,hst2,hd a _ ha,hk _ ho⟩
 ·have hfit:off+0+(Builtin.zeroCells z.cells k).toList.length≤cur.size:=by rw [hlen,hcs];omega
  have hs':=run_storeCells_at P b off E (Builtin.zeroCells z.cells k).toList 0 cur w hb hfit hrest;have:(execOp a.eval ⟨dst,.call ⟨.builtin .clear,#[x],ats⟩,ty,pos,af,gd⟩).run P w=.ok (.value (.tuple #[])) (w.setRow b (cur.toList.take (off+0)++(Builtin.zeroCells z.cells k).toList++cur.toList.drop (off+0+(Builtin.zeroCells z.cells k).toList.length)).toArray):=by
   simp only [execOp,resolve];simp only [invoke,builtin];rw [e1,Sem.run_bind];show (Result.ok _ w).andThen _=_;rw [Result.andThen_ok];refine Wz ?_;unfold Builtin.clear_;simp only [hat];have e2:(#[Value.slice (some ⟨b,off,none⟩) k c'])[0]?=some (.slice (some ⟨b,off,none⟩) k c'):=rfl;simp only [e2];rw [ZY (YP hu)];have hzv:(zeroValue E).run P w=.ok z w:=by simp [zeroValue,typeInfo,hit,hz']
   cases k with
   | zero=>exact (hk0 rfl).elim
   | succ k =>
    simp only [];rw [Sem.run_bind,hzv,Result.andThen_ok,Sem.run_bind];rw [hs'];rfl
  rw [this];have h3:=hst.upd (o':=.cells (cur.toList.take (off+0)++(Builtin.zeroCells z.cells k).toList++cur.toList.drop (off+0+(Builtin.zeroCells z.cells k).toList.length)).toArray E (0,0)) .head (setRow_heap w b cur _ E _ hb) (fun c hc x hx=>by rw [setRow_other w b c _ hc];exact hx) (SameIO.refl _);have h4:St M ([(b,.cells (cur.toList.take (off+0)++(Builtin.zeroCells z.cells k).toList++cur.toList.drop (off+0+(Builtin.zeroCells z.cells k).toList.length)).toArray E (0,0))]++H0) (w.setRow b (cur.toList.take (off+0)++(Builtin.zeroCells z.cells k).toList++cur.toList.drop (off+0+(Builtin.zeroCells z.cells k).toList.length)).toArray):=h3;refine ⟨⟨M,_⟩,_,h4,hd a _ ha,hk [(b,_)] ?_⟩;refine OSl.own b c rows _ hlr hcap hcm ?_ ?_
  ·simp only [J2,B3,D8,F3,H6] at hlen ⊢;omega
  ·rw [← htake];simp only [Nat.add_zero];rw [B5,List.take_append_of_le_length jU,I3];congr 1;omega
theorem OSl.plain {T sz l c:Nat} {a:Option Addr} {hs:Hp} {rows:List Segs} (h:OSl T sz (.slice a l c) hs rows) (hn:0<rows.length):Zln a:=by
 cases h with
 | nil=>cases hn
 | own b=>exact ⟨b,0,rfl⟩
theorem OSl.addr {T sz l c:Nat} {a:Option Addr} {hs:Hp} {rows:List Segs} (h:OSl T sz (.slice a l c) hs rows) (hn:0<rows.length):∃ b,a=some ⟨b,0,none⟩:=by
 cases h with
 | nil=>cases hn
 | own b=>exact ⟨b,rfl⟩
theorem RT {t T:TypeId} {x:Operand} {j sz off m l c:Nat} {a:Option Addr} {agg:Bool} {rows:List Segs} {r r':Segs} {v:Value} {MJ:Mem} {HJ HJ0 hs:Hp} (hi:ops[i]?=some ⟨some d,.load t x,ty,pos,af,gd⟩) (hg:want ops e gd=some true)
 (hx:ev e x=some (Zme a j sz off)) (ho:OSl T sz (.slice a l c) hs rows) (hH:Rem hs HJ HJ0) (hr:rows[j]?=some r) (hl:lay P t=some (agg,m)) (hsu:Segs.sub r off m=some r') (hv:Sp agg r'=some v)
 (hd:Nat.ble (d+1) n.sz=true) (hk:XD P n ops Q rest (St MJ HJ) A ((d,v)::e)):XD P n ops Q (i::rest) (St MJ HJ) A e:=by
 obtain ⟨b,rfl⟩:=ho.addr (Nat.lt_of_le_of_lt (C3 j) (C4.1 hr).1);obtain ⟨_,_,rfl,_⟩:=ho.inv;exact Zdv hi hg hx ho hH hr hl hsu hv hd hk
theorem Zly {id:Nat} {l:List Nat} (J:World→Prop) (hJ:∀ u,St M H u→J u) (hl:List.range ops.size=l) (h:XD P n ops Q l J ⟨M,H⟩ e):C P n (.region id ops false) Q (St M H) e :=
 fun a w ha hw=>wpIn_region (Te _ J ⟨M,H⟩ a w hJ hw (hl ▸ h hJ a ha))
theorem Xv {Hin Hr:Hp} {id:Nat} {l:List Nat} (hR:Rem Hin H Hr) (hl:List.range ops.size=l) (h:XD P n ops Q l (St M Hr) ⟨M,H⟩ e):C P n (.region id ops false) Q (St M H) e :=
 Zly (St M Hr) (fun _ hw=>(hw.perm hR.perm).suf (Suf.app Hin Hr)) hl h
theorem Um {Hin Hr:Hp} {id:Nat} {l:List Nat} (B:Array Nat) (hR:Rem Hin H Hr) (hl:List.range ops.size=l) (hm:P.follows .mixedOrders=true) (hok:Ri ops (Tu P n.wrs ops) B=true)
 (h:XD P n ops Q l (St M Hr) ⟨M,H⟩ e):C P n (.region id ops true) Q (St M H) e :=
 Ya B (St M Hr) hl hm hok St.drawn (fun _ hw=>(hw.perm hR.perm).suf (Suf.app Hin Hr)) h
theorem Zxy {f:FuncId} {xs:List Operand} {ats:Array TypeId} {vs:List Value} {Hin Hr:Hp} {R:Mem→Value→Hp→Prop} {MJ:Mem} {HJ:Hp} (hi:ops[i]?=some ⟨dst,.call ⟨.value (.func f),xs.toArray,ats⟩,ty,pos,af,gd⟩) (hg:want ops e gd=some true)
 (hf:Ta P f=true) (hx:evs e xs=some vs) (hc:Fh P f vs M Hin R) (hH:Rem Hin H Hr) (hJ:∀ M' Hout w,M.le M'→St M' (Hout++Hr) w→St MJ HJ w)
 (hd:∀ a v,Sat n e a→Sat n (NN dst v e) (a.put dst v))
 (hk:∀ v M' Hout,M.le M'→R M' v Hout→XD P n ops Q rest (St MJ HJ) ⟨M',Hout++Hr⟩ (NN dst v e)):XD P n ops Q (i::rest) (St MJ HJ) ⟨M,H⟩ e :=
 Yba hi hg hf hx hc hH.perm hJ hd hk
theorem MK:∀ (pre:List Segs) (z r:Segs) (rest:List Segs),Segs.len z=Segs.len r→Sk (pre++z::rest) pre.length r=some (pre++r::rest)
 | [],z,r,rest,h=>by simp [Sk,h]
 | p::pre,z,r,rest,h=>by
  simp only [B4,C8,Sk];rw [MK pre z r rest h]
theorem NW {sz:Nat}:∀ (ps:List (Nat×Segs)) (pre rest:List Segs),rest.length=ps.length→lens sz rest→ps.map Prod.fst=List.range' pre.length ps.length→(∀ p∈ps,Segs.len p.2=sz)→UX (pre++rest) ps=some (pre++ps.map Prod.snd)
 | [],pre,rest,hl,_,_,_=>by
  have:rest=[]:=D4 (by simpa using hl);subst this;simp [UX]
 | (i,r)::ps,pre,[],hl,_,_,_=>by simp at hl
 | (i,r)::ps,pre,z::rest,hl,hs,hi,hp=>by
  simp only [D3,C8,List.range'_succ,J9] at hi;obtain ⟨rfl,hi⟩:=hi;have h1:Segs.len z=Segs.len r:=by rw [hs z (.head _),hp _ (.head _)]
  unfold UX;rw [MK pre z r rest h1];have:=NW ps (pre++[r]) rest (by simpa using hl) (fun x hx=>hs x (.tail _ hx)) zP (fun p h=>hp p (.tail _ h));simpa using this
theorem YK {t E sz by_ k:Nat} {z:Value} {xs:List (Nat×Operand)} {ps:List (Nat×Segs)} {zs':List Segs} (hi:ops[i]?=some ⟨some d,.buildSlice t k xs.toArray,ty,pos,af,gd⟩) (hg:want ops e gd=some true)
 (ht:Na P t=some (E,sz,by_)) (hz:XP P E=some z) (hsz:Nat.ble (k * sz) 16777216=true) (hkm:Nat.ble k 16777216=true) (hx:EvParts e xs ps) (h1:ps.map Prod.fst=List.range' 0 k) (h2:ps.all (fun p=>Nat.beq (Segs.len p.2) sz)=true) (hzs:ps.map Prod.snd=zs') (hd:Nat.ble (d+1) n.sz=true)
 (hk:∀ b,OSl E sz (.slice (some ⟨b,0,none⟩) k k) [(b,.cells (ZV zs').toArray E (0,0))] zs'→XD P n ops Q rest J ⟨M,(b,.cells (ZV zs').toArray E (0,0))::H⟩ ((d,.slice (some ⟨b,0,none⟩) k k)::e)):XD P n ops Q (i::rest) J ⟨M,H⟩ e:=by
 have hlen:ps.length=k:=by have:=A9 List.length h1;simpa using this
 refine DY hi hg ht hz hsz hkm hx (fun f=>?_) hd hk;have:=NW (sz:=sz) ps [] (Se f sz k) (by simp [Se,hlen]) (fun r hr=>by
  obtain ⟨j,_,rfl⟩:=C0.1 hr;exact OE f j sz) (by simpa [hlen] using h1) (fun p hp=>F8 (E7.1 h2 p hp))
 rw [← hzs];simpa using this
theorem SV {b o sz h m:Nat}:WK (some ⟨b,o,none⟩) sz 0 h m=.slice (some ⟨b,o,none⟩) h m:=by
 unfold WK;simp [Addr.add_lit]
theorem UZ {b o sz l h m:Nat} (hne:l<m):WK (some ⟨b,o,none⟩) sz l h m=.slice (some ⟨b,o+l * sz,none⟩) (h-l) (m-l):=by
 unfold WK;rw [A4 jD];simp [Addr.add_lit]
theorem OSl.srcPiece {T sz b k c:Nat} {hs H0:Hp} {rows:List Segs} (h:OSl T sz (.slice (some ⟨b,0,none⟩) rows.length c) hs rows) (hH:Rem hs H H0) (h1:∀ u∈ZV rows,u.oneCell'=true) (hk:k≤rows.length):Src M H sz (WK (some ⟨b,0,none⟩) sz k rows.length c) (rows.drop k):=by
 obtain ⟨_,_,_,_,h2,_⟩:=h.inv;rcases C7 k c with hc|hc
 ·rw [UZ hc];have:=OSl.src (M:=M) (c':=c-k) (k:=k) h hH h1;simpa using this
 ·have e:rows.drop k=[]:=List.drop_of_length_le jD;rw [e];unfold WK;rw [show rows.length-k=0 by omega];split
  ·exact Src.nil
  ·exact Src.nil
theorem Mem.get_of {b:Nat} {o:Obj} (h:M b=some o) (hm:M.le M'):M' b=some o:=hm.1 b o h
theorem Zdw {t T:TypeId} {x:Operand} {b off m:Nat} {agg:Bool} {r r':Segs} {v:Value} {MJ:Mem} {HJ:Hp} (hi:ops[i]?=some ⟨some d,.load t x,ty,pos,af,gd⟩) (hg:want ops e gd=some true)
 (hx:ev e x=some (.pointer (some ⟨b,off,none⟩))) (hb:MJ b=some (Yp r T)) (hl:lay P t=some (agg,m)) (hs:Segs.sub r off m=some r') (hv:Sp agg r'=some v)
 (hd:Nat.ble (d+1) n.sz=true) (hk:XD P n ops Q rest (St MJ HJ) A ((d,v)::e)):XD P n ops Q (i::rest) (St MJ HJ) A e :=
 UB hi rfl hg (fun a' w ha hw=>Xp (by
  simp only [execOp,ha.ev hx];obtain ⟨h1,h2⟩:=Segs.sub_cells hs;obtain ⟨_,_,_,_,h3⟩:=Segs.sub_spec hs;exact Wz (ST (hw.mem _ _ hb) hl h1 h3 hv))) (fun a ha=>ha.put hd _) hk
theorem Zut {f:FuncId} {xs:List Operand} {ats:Array TypeId} {vs:List Value} {Hin Hr:Hp} {R:Mem→Value→Hp→Prop} (hi:ops[i]?=some ⟨dst,.call ⟨.value (.func f),xs.toArray,ats⟩,ty,pos,af,gd⟩) (hws:n.wrs.contains i=true) (hg:want ops e gd=some true)
 (hf:Ta P f=true) (hx:evs e xs=some vs) (hc:Fh P f vs M Hin R) (hH:Rem Hin H Hr)
 (hd:∀ a v,Sat n e a→Sat n (NN dst v e) (a.put dst v))
 (hk:∀ v M' Hout,M.le M'→R M' v Hout→XD P n ops Q rest (St M' (Hout++Hr)) ⟨M',Hout++Hr⟩ (NN dst v e)):XD P n ops Q (i::rest) J ⟨M,H⟩ e:=by
 obtain ⟨fn,h1,h2,h3⟩:=Ub hf;refine DU hi rfl hws hg (fun a w ha hw=>Rv h1 h2 h3 zB ?_);exact (hc Hr w (hw.perm hH.perm)).mono fun e' w' ⟨v,M',Hout,he,hm,hs,hr⟩=>⟨v,he,⟨M',Hout++Hr⟩,_,hs,hd a v ha,hk v M' Hout hm hr⟩
end
end Go.Esp
namespace Go.Esp
theorem Rem.two {A B H:Hp}:Rem (A++B) (A++(B++H)) H:=by
 rw [← B5];exact Rem.here H
structure RdS (M:Mem) (H:Hp) (a:Option Addr) (rows:List Segs) (sz:Nat):Prop where
  lens:Esp.lens sz rows
  there:rows≠[]→∃ b off,a=some ⟨b,off,none⟩∧∀ w,St M H w→∃ c T fz,w.heap[b]?=some (.cells c T fz)∧(c.toList.drop off).take (rows.length * sz)=ZV rows
theorem SlM.rd {M:Mem} {a:Option Addr} {rows:List Segs} {sz:Nat} (h:SlM M a rows sz) (H:Hp):RdS M H a rows sz :=
 ⟨h.lens,fun hn=>let ⟨b,off,c,T,fz,h1,h2,h3⟩:=h.there hn;⟨b,off,h1,fun w hw=>⟨c,T,fz,hw.mem b _ h2,h3⟩⟩⟩
theorem RdS.app {M:Mem} {H:Hp} {a:Option Addr} {rows:List Segs} {sz:Nat} (h:RdS M H a rows sz) (H':Hp):RdS M (H++H') a rows sz :=
 ⟨h.lens,fun hn=>let ⟨b,off,h1,h2⟩:=h.there hn;⟨b,off,h1,fun w hw=>h2 w (hw.cnt (fun x=>by rw [WG];omega))⟩⟩
theorem RdS.cnt {M:Mem} {H H':Hp} {a:Option Addr} {rows:List Segs} {sz:Nat} (h:RdS M H a rows sz) (hc:∀ x,Esp.cnt x H≤Esp.cnt x H'):RdS M H' a rows sz :=
 ⟨h.lens,fun hn=>let ⟨b,off,h1,h2⟩:=h.there hn;⟨b,off,h1,fun w hw=>h2 w (hw.cnt hc)⟩⟩
theorem OSl.rd {T sz l c:Nat} {a:Option Addr} {hs:Hp} {rows:List Segs} (h:OSl T sz (.slice a l c) hs rows) (M:Mem):RdS M hs a rows sz:=by
 refine ⟨h.lens,fun hn=>?_⟩;obtain ⟨b,rfl⟩:=h.addr (List.length_pos_iff.2 hn);obtain ⟨cur,rfl,_,h1,h2,h3,h4,h5⟩:=h.inv;exact ⟨b,0,rfl,fun w hw=>⟨cur,T,(0,0),hw.own b _ (.head _),by simpa using h5⟩⟩
theorem RdS.plain {M:Mem} {H:Hp} {a:Option Addr} {rows:List Segs} {sz:Nat} (h:RdS M H a rows sz) (hn:0<rows.length):Zln a:=by
 obtain ⟨b,off,h1,_⟩:=h.there (List.length_pos_iff.1 hn);exact ⟨b,off,h1⟩
section
variable {P:Program} {n:Sh} {ops:Array Oper} {Q:Exit→Act→World→Prop} {rest:List Nat} {M M':Mem} {H H' H0:Hp} {e:Env} {J S:World→Prop} {A:As} {i:Nat}
  {dst:Option Tmp} {d:Tmp} {op:Op} {ty:TypeId} {pos:String} {af:Array Edge} {gd:Option (Nat×Bool)}
theorem Zkw {t:TypeId} {x:Operand} {j sz off m:Nat} {a:Option Addr} {agg:Bool} {rows:List Segs} {r r':Segs} {v:Value} {MJ:Mem} {HJ:Hp} (hi:ops[i]?=some ⟨some d,.load t x,ty,pos,af,gd⟩) (hg:want ops e gd=some true)
 (hx:ev e x=some (Zme a j sz off)) (hsl:RdS MJ HJ a rows sz) (hr:rows[j]?=some r) (hl:lay P t=some (agg,m)) (hs:Segs.sub r off m=some r') (hv:Sp agg r'=some v)
 (hd:Nat.ble (d+1) n.sz=true) (hk:XD P n ops Q rest (St MJ HJ) A ((d,v)::e)):XD P n ops Q (i::rest) (St MJ HJ) A e :=
 UB hi rfl hg (fun a' w ha hw=>Xp (by
  simp only [execOp,ha.ev hx];have hlt:=(C4.1 hr).1;obtain ⟨b,o,rfl,h2⟩:=hsl.there (fun e=>by rw [e] at hlt;cases hlt);obtain ⟨c,T,fz,h3,h4⟩:=h2 w hw;rw [Ru];obtain ⟨h5,h6⟩:=Segs.sub_cells hs;obtain ⟨_,_,_,_,h7⟩:=Segs.sub_spec hs;refine Wz (ST h3 hl ?_ h7 hv);have hlr:=hsl.lens r (H8 hr);rw [← h5,← Rp hsl.lens hr,← h4];simp only [J7,I3,E5];rw [show o+(j * sz+off)=o+(j * sz+off) by rfl,show o+j * sz+off=o+(j * sz+off) by omega];congr 1;have:(j+1) * sz≤rows.length * sz:=D2 _ hlt;rw [F4] at this;omega)) (fun a ha=>ha.put hd _) hk
theorem Fo.frame {f:FuncId} {vs:List Value} {Hin:Hp} {R:Mem→Value→Prop} (h:Fo P f vs M Hin R) (E:Hp):Fo P f vs M (Hin++E) R:=fun H w hw=>by
 have:=h (E++H) w (by rw [← B5];exact hw);rw [B5];exact this
theorem Fo.perm {f:FuncId} {vs:List Value} {Hin Hin2:Hp} {R:Mem→Value→Prop} (h:Fo P f vs M Hin R) (hp:Hin.Perm Hin2):Fo P f vs M Hin2 R:=fun H w hw =>
 (h H w (hw.perm0 (hp.symm.append_right H))).mono fun e w' ⟨v,M',he,hm,hs,h1⟩=>⟨v,M',he,hm,hs.perm0 (hp.append_right H),h1⟩
end
end Go.Esp
namespace Go.Esp
abbrev Plc:=BitVec 160
def idB (x:Plc) (i:Nat):Nat:=x.toNat / 256 ^ (19-i) % 256
def idL (x:Plc) (i:Nat):List Value:=if i<20 then .int .u8 (idB x i)::idL x (i+1) else []
 termination_by 20-i
theorem Zij (x:Plc):∀ (m i:Nat),i+m=20→idL x i=(List.range' i m).map fun i=>Value.int .u8 (idB x i)
 | 0,i,h=>by rw [idL,A4 jD];rfl
 | m+1,i,h=>by rw [idL,A6 jD,Zij x m (i+1) jD,List.range'_succ];rfl
theorem Zto (x:Plc):(idL x 0).toArray.size=20:=by rw [Zij x 20 0 rfl];simp
def idV (x:Plc):Vector Value 20:=⟨(idL x 0).toArray,Zto x⟩
def ZU (x:Plc):Seg:=.arr 20 (idV x)
theorem Kl (x:Plc):(idV x).toList=(List.range 20).map fun i=>Value.int .u8 (idB x i):=by
 show idL x 0=_;rw [Zij x 20 0 rfl,List.range_eq_range']
theorem Qg (x:Plc) (i:Nat):idB x i<256:=G5 _ (by decide)
theorem SH (x:Plc) {i:Nat} (h:i<20):(idV x)[i]=.int .u8 (idB x i):=by
 have e:(idV x).toList[i]'zL=.int .u8 (idB x i):=by
  simp only [Kl];simp
 simpa using e
theorem Uz:ZU 0=.arr 20 (Vector.replicate 20 (.int .u8 0)):=by
 unfold ZU;congr 1;apply Vector.ext;intro i hi;rw [SH _ hi,Vector.getElem_replicate];simp [idB]
def ofB:Nat→(Nat→Nat)→Nat
 | 0,_=>0
 | n+1,f=>256 * ofB n f+f n
theorem Oe {f g:Nat→Nat}:∀ {n:Nat},(∀ i,i<n→f i=g i)→ofB n f=ofB n g
 | 0,_=>rfl
 | n+1,h=>by simp only [ofB,Oe (fun i hi=>h i (Nat.lt_succ_of_lt hi)),h n (Nat.lt_succ_self n)]
theorem Zqz {f:Nat→Nat} (hf:∀ i,f i<256):∀ n,ofB n f<256 ^ n
 | 0=>by simp [ofB]
 | n+1=>by
  have:=Zqz hf n;have:=hf n;rw [Nat.pow_succ];simp only [ofB];omega
theorem Zgq (x:Nat):∀ n k,ofB n (fun i=>x / 256 ^ (n-1-i+k) % 256)=x / 256 ^ k % 256 ^ n
 | 0,k=>by simp [ofB,Nat.mod_one]
 | n+1,k=>by
  have e:ofB n (fun i=>x / 256 ^ (n+1-1-i+k) % 256)=ofB n (fun i=>x / 256 ^ (n-1-i+(k+1)) % 256) :=
   Oe fun i hi=>by rw [show n+1-1-i+k=n-1-i+(k+1) by omega]
  simp only [ofB];rw [e,Zgq x n (k+1),show n+1-1-n+k=k by omega,Nat.pow_succ 256 n,Nat.mul_comm (256 ^ n) 256,Nat.mod_mul,Nat.pow_succ 256 k,Nat.div_div_eq_div_mul];omega
theorem Pc (x:Plc):ofB 20 (idB x)=x.toNat:=by
 have:=Zgq x.toNat 20 0;have h:x.toNat<256 ^ 20:=x.isLt;rw [Nat.pow_zero,Nat.div_one,E3 h] at this;rw [← this];rfl
def CO (f:Nat→Nat):Plc:=BitVec.ofNat 160 (ofB 20 f)
theorem Aq {f:Nat→Nat} (hf:∀ i,f i<256):∀ (n i:Nat),i<n→ofB n f / 256 ^ (n-1-i) % 256=f i
 | 0,i,h=>by omega
 | n+1,i,h=>by
  rcases C7 i n with hi|hi
  ·have ih:=Aq hf n i hi;rw [← ih,show n+1-1-i=(n-1-i)+1 by omega,Nat.pow_succ,Nat.mul_comm (256 ^ _) 256,← Nat.div_div_eq_div_mul];have:=hf n;simp only [ofB];rw [show (256 * ofB n f+f n) / 256=ofB n f by omega]
  ·obtain rfl:i=n:=by omega
   have:=hf i;simp only [ofB,Nat.add_sub_cancel,Nat.sub_self,Nat.pow_zero,Nat.div_one];omega
theorem Bh {f:Nat→Nat} (hf:∀ i,f i<256) {i:Nat} (h:i<20):idB (CO f) i=f i:=by
 unfold idB CO;rw [H4,E3 (Zqz hf 20),show 19-i=20-1-i by omega];exact Aq hf 20 i h
theorem Ztn {x y:Plc}:idV x=idV y↔x=y:=by
 constructor
 ·intro h;apply J5;rw [← Pc x,← Pc y];refine Oe fun i hi=>?_;have e:(idV x)[i]=(idV y)[i]:=by rw [h]
  rw [SH x hi,SH y hi] at e;grind
 ·grind
theorem Zcs {x y:Plc}:(idV x).toList=(idV y).toList↔x=y:=by
 rw [← Ztn,Vector.toList_inj]
theorem Zwv {x y:Plc} {r s:List Value}:(idV x).toList++r=(idV y).toList++s↔x=y∧r=s:=by
 constructor
 ·intro h;have:=List.append_inj h jQ;exact ⟨Zcs.1 this.1,this.2⟩
 ·grind
theorem Zww {v:Vector Value 20} (h:∀ i (h:i<20),∃ z,v[i]=.int .u8 z∧(Lit.int .u8 z).wf=true):∃ x:Plc,v=idV x:=by
 have h':∀ i,∃ z:Nat,z<256∧∀ h:i<20,v[i]=.int .u8 z:=by
  intro i;by_cases hi:i<20
  ·obtain ⟨z,h1,h2⟩:=h i hi;have h3:0≤z∧z<256:=by
    simp only [Lit.wf,F1,decide_eq_true_eq] at h2;have e1:IntKind.min .u8=0:=by decide
    have e2:IntKind.max .u8=255:=by decide
    omega
   refine ⟨z.toNat,by omega,fun _=>?_⟩;rw [h1,Int.toNat_of_nonneg h3.1]
  ·exact ⟨0,by decide,fun h=>(hi h).elim⟩
 refine ⟨CO fun i=>(h' i).choose,?_⟩;apply Vector.ext;intro i hi;rw [SH _ hi,Bh (fun i=>(h' i).choose_spec.1) hi];grind
theorem Zwx {ks:List Kd} {vs:List Value} (x:Plc) (h:Fits ks vs) :
 Fits (.i .u8::.i .u8::.i .u8::.i .u8::.i .u8::.i .u8::.i .u8::.i .u8::.i .u8::.i .u8::.i .u8::.i .u8::.i .u8::.i .u8::.i .u8::.i .u8::.i .u8::.i .u8::.i .u8::.i .u8::ks) ((idV x).toList++vs):=by
 rw [Kl];exact ⟨rfl,rfl,rfl,rfl,rfl,rfl,rfl,rfl,rfl,rfl,rfl,rfl,rfl,rfl,rfl,rfl,rfl,rfl,rfl,rfl,h⟩
theorem Zcr {x:Plc} {u:Value} (h:u∈(idV x).toList):u.oneCell'=true:=by
 rw [Kl] at h;obtain ⟨i,_,rfl⟩:=C0.1 h;rfl
structure Sl (α:Type) where
  a:Option Addr
  cap:Nat
  l:List α
def Sl.val {α:Type}:Sl α→Value
 | ⟨a,c,l⟩=>.slice a l.length c
theorem Sl.one {α:Type} (s:Sl α):s.val.oneCell'=true:=rfl
structure SlK {α:Type} (M:Mem) (f:α→Segs) (sz:Nat) (s:Sl α):Prop where
  mk' ::
  h1:SlM M s.a (s.l.map f) sz
  h2:s.l.length≤maxLen
  h3:s.l.length≤s.cap
theorem SlK.mono {α:Type} {M M':Mem} {f:α→Segs} {sz:Nat} {s:Sl α} (h:SlK M f sz s) (hm:M.le M'):SlK M' f sz s:=⟨h.h1.mono hm,h.h2,h.h3⟩
theorem SlK.nil {α:Type} {M:Mem} {f:α→Segs} {sz:Nat}:SlK M f sz (⟨none,0,[]⟩:Sl α):=⟨SlM.nil _ _ _,C3 _,B9 _⟩
def WC (k:IntKind) (z:Int):Segs:=[.one (.int k z)]
theorem YS:flat []:=fun u hu=>by cases hu
theorem Yi {v:Value} {r:Segs} (h:v.oneCell'=true) (hr:flat r):flat (.one v::r):=fun u hu=>by
 rcases B7.1 (show u∈v::Segs.cells r from hu) with rfl|hu
 ·exact h
 ·exact hr u hu
theorem Xg {x:Plc} {r:Segs} (hr:flat r):flat (ZU x::r):=fun u hu=>by
 rcases B8.1 (show u∈(idV x).toList++Segs.cells r from hu) with hu|hu
 ·exact Zcr hu
 ·exact hr u hu
theorem Zka {u v:Value} {r s:Segs}:Segs.cells (.one u::r)=Segs.cells (.one v::s)↔u=v∧Segs.cells r=Segs.cells s:=by
 show u::Segs.cells r=v::Segs.cells s↔_;simp
theorem Zad {x y:Plc} {r s:Segs}:Segs.cells (ZU x::r)=Segs.cells (ZU y::s)↔x=y∧Segs.cells r=Segs.cells s:=by
 exact Zwv
theorem Pj {x y:Plc}:Segs.cells [ZU x]=Segs.cells [ZU y]↔x=y:=by rw [Zad];simp
theorem Sf:Fits [] (Segs.cells []):=trivial
theorem Ztt {k:Kd} {v:Value} {ks:List Kd} {r:Segs} (h:Fit k v) (hr:Fits ks (Segs.cells r)):Fits (k::ks) (Segs.cells (.one v::r)):=⟨h,hr⟩
theorem Ra {x:Plc} {ks:List Kd} {r:Segs} (hr:Fits ks (Segs.cells r)) :
 Fits (.i .u8::.i .u8::.i .u8::.i .u8::.i .u8::.i .u8::.i .u8::.i .u8::.i .u8::.i .u8::.i .u8::.i .u8::.i .u8::.i .u8::.i .u8::.i .u8::.i .u8::.i .u8::.i .u8::.i .u8::ks) (Segs.cells (ZU x::r)):=Zwx x hr
theorem eqD {c:Bool} {p q:Prop} [Decidable q] (h:c=true↔p) (h2:p↔q):c=decide q:=by
 grind
theorem neD {c:Bool} {p q:Prop} [Decidable q] (h:c=true↔¬p) (h2:p↔q):c = !decide q:=by
 grind
theorem KL {α:Type} {f:α→Segs} {p:α→Prop}:∀ {rows:List Segs},(∀ r∈rows,∃ x,r=f x∧p x)→∃ l:List α,rows=l.map f∧∀ x∈l,p x
 | [],_=>⟨[],rfl,fun _ h=>(by cases h)⟩
 | r::rows,h=>by
  obtain ⟨x,hx,hp⟩:=h r (.head _);obtain ⟨l,hl,hq⟩:=KL (fun r hr=>h r (.tail _ hr));refine ⟨x::l,by simp [hx,hl],fun y hy=>?_⟩;rcases B7.1 hy with rfl|hy
  ·exact hp
  ·exact hq y hy
end Go.Esp
namespace Go.Esp
def Zpq (P:Program) (t:TypeId):Option (Nat×TypeId):=match P.underlying t with
 | some (.array k el)=>match P.info? el with
  | some i=>if i.size=1 then some (k,el) else none
  | none=>none
 | _=>none
theorem MA {P:Program} {t el k:Nat} (h:Zpq P t=some (k,el)):∃ i,P.underlying t=some (.array k el)∧P.info? el=some i∧i.size=1:=by
 unfold Zpq at h;grind
section
variable {P:Program} {n:Sh} {ops:Array Oper} {Q:Exit→Act→World→Prop} {rest:List Nat} {M M':Mem} {H H' H0:Hp} {e:Env} {J S:World→Prop} {A:As} {i:Nat}
  {dst:Option Tmp} {d:Tmp} {op:Op} {ty:TypeId} {pos:String} {af:Array Edge} {gd:Option (Nat×Bool)}
theorem Zzs {t t':TypeId} {x y:Operand} {k:IntKind} {a b r:Int} (hi:ops[i]?=some ⟨some d,.binOp .quo t x y t',ty,pos,af,gd⟩) (hg:want ops e gd=some true)
 (hx:ev e x=some (.int k a)) (hy:ev e y=some (.int k b)) (hb:b≠0) (hr:k.wrap (a.tdiv b)=r) (hd:Nat.ble (d+1) n.sz=true)
 (hk:XD P n ops Q rest J A ((d,.int k r)::e)):XD P n ops Q (i::rest) J A e:=by
 refine VA hi rfl hg (fun a' w ha=>Xp ?_) (fun a ha=>ha.put hd _) hk;simp only [execOp,ha.ev hx,ha.ev hy];subst hr;simp [eqGuard,binOp,Op.intDiv,hb]
theorem Zxt {t t':TypeId} {x y:Operand} {k:IntKind} {a b r:Int} (hi:ops[i]?=some ⟨some d,.binOp .rem t x y t',ty,pos,af,gd⟩) (hg:want ops e gd=some true)
 (hx:ev e x=some (.int k a)) (hy:ev e y=some (.int k b)) (hb:b≠0) (hr:a.tmod b=r) (hd:Nat.ble (d+1) n.sz=true)
 (hk:XD P n ops Q rest J A ((d,.int k r)::e)):XD P n ops Q (i::rest) J A e:=by
 refine VA hi rfl hg (fun a' w ha=>Xp ?_) (fun a ha=>ha.put hd _) hk;simp only [execOp,ha.ev hx,ha.ev hy];subst hr;simp [eqGuard,binOp,Op.intDiv,hb]
def Ig:BinOp→(k:IntKind)→Int→Int→Option Int
 | .and,k,a,b=>some (k.wrap (BitVec.ofInt k.bits a &&& BitVec.ofInt k.bits b).toNat)
 | .or,k,a,b=>some (k.wrap (BitVec.ofInt k.bits a ||| BitVec.ofInt k.bits b).toNat)
 | .xor,k,a,b=>some (k.wrap (BitVec.ofInt k.bits a ^^^ BitVec.ofInt k.bits b).toNat)
 | .andNot,k,a,b=>some (k.wrap (BitVec.ofInt k.bits a &&& ~~~BitVec.ofInt k.bits b).toNat)
 | _,_,_,_=>none
theorem TB {o:BinOp} {t t':TypeId} {x y:Operand} {k:IntKind} {a b z r:Int} (hi:ops[i]?=some ⟨some d,.binOp o t x y t',ty,pos,af,gd⟩) (hg:want ops e gd=some true)
 (hx:ev e x=some (.int k a)) (hy:ev e y=some (.int k b)) (hc:Ig o k a b=some z) (hr:z=r) (hd:Nat.ble (d+1) n.sz=true)
 (hk:XD P n ops Q rest J A ((d,.int k r)::e)):XD P n ops Q (i::rest) J A e:=by
 have hcl:NE P (.binOp o t x y t')=.pure:=by cases o <;> first|rfl|(cases hc;done)
 refine VA hi hcl hg (fun a' w ha=>Xp ?_) (fun a ha=>ha.put hd _) hk;simp only [execOp,ha.ev hx,ha.ev hy];subst hr;cases o <;> simp only [Ig,G1] at hc <;> first
  | (cases hc;done)
  | (subst hc;rw [Sem.run_bind];simp [eqGuard,binOp,Op.intBits];done)
def LA:BinOp→(k:IntKind)→Int→Int→Option Int
 | .shl,k,a,b=>some (k.wrap (a * 2 ^ (min b.toNat k.bits)))
 | .shr,k,a,b=>some (a.fdiv (2 ^ (min b.toNat k.bits)))
 | _,_,_,_=>none
theorem VK {o:BinOp} {t t':TypeId} {x y:Operand} {k k':IntKind} {a b z r:Int} (hi:ops[i]?=some ⟨some d,.binOp o t x y t',ty,pos,af,gd⟩) (hg:want ops e gd=some true)
 (hx:ev e x=some (.int k a)) (hy:ev e y=some (.int k' b)) (hb:0≤b) (hc:LA o k a b=some z) (hr:z=r) (hd:Nat.ble (d+1) n.sz=true)
 (hk:XD P n ops Q rest J A ((d,.int k r)::e)):XD P n ops Q (i::rest) J A e:=by
 have hcl:NE P (.binOp o t x y t')=.pure:=by cases o <;> first|rfl|(cases hc;done)
 refine VA hi hcl hg (fun a' w ha=>Xp ?_) (fun a ha=>ha.put hd _) hk;simp only [execOp,ha.ev hx,ha.ev hy];subst hr;have hb':¬b<0:=by omega
 cases o <;> simp only [LA,G1] at hc <;> first
  | (cases hc;done)
  | (subst hc;rw [Sem.run_bind];simp [eqGuard,binOp,Op.shift,hb'];done)
theorem Uw {k:IntKind} {z:Int} (m:Nat) (hm:m≤k.bits):LA .shr k z (m:Int)=some (z / 2 ^ m):=by
 simp only [LA];grind
theorem Zrr {s t:TypeId} {x:Operand} {k q:IntKind} {k':IntKind} {a r:Int} (hi:ops[i]?=some ⟨some d,.convert s t x,ty,pos,af,gd⟩) (hg:want ops e gd=some true)
 (hx:ev e x=some (.int k' a)) (hs:P.underlying s=some (.int q)) (ht:P.underlying t=some (.int k)) (hr:k.wrap a=r) (hd:Nat.ble (d+1) n.sz=true)
 (hk:XD P n ops Q rest J A ((d,.int k r)::e)):XD P n ops Q (i::rest) J A e:=by
 have hcl:NE P (.convert s t x)=.pure:=by simp [NE,hs,ht]
 refine VA hi hcl hg (fun a' w ha=>Xp ?_) (fun a ha=>ha.put hd _) hk;simp only [execOp,ha.ev hx];refine Wz ?_;unfold convert;rw [ZY (YP hs),ZY (YP ht)];subst hr;rfl
theorem Zuu {t:TypeId} {x:Operand} {k:IntKind} {a z r:Int} (hi:ops[i]?=some ⟨some d,.unOp .xor t x,ty,pos,af,gd⟩) (hg:want ops e gd=some true)
 (hx:ev e x=some (.int k a)) (hc:Ig .xor k (if k.signed then -1 else k.max) a=some z) (hr:z=r) (hd:Nat.ble (d+1) n.sz=true)
 (hk:XD P n ops Q rest J A ((d,.int k r)::e)):XD P n ops Q (i::rest) J A e:=by
 refine VA hi rfl hg (fun a' w ha=>Xp ?_) (fun a ha=>ha.put hd _) hk;simp only [execOp,ha.ev hx];subst hr;simp only [Ig,G1] at hc;subst hc;rfl
def w64 (z:Int):Int:=z % 18446744073709551616
def w32 (z:Int):Int:=z % 4294967296
def w8 (z:Int):Int:=z % 256
theorem HE (z:Int):IntKind.wrap .u64 z=w64 z:=by unfold w64 IntKind.wrap;simp [IntKind.bits,IntKind.signed]
theorem NO (z:Int):IntKind.wrap .u32 z=w32 z:=by unfold w32 IntKind.wrap;simp [IntKind.bits,IntKind.signed]
theorem Ck (z:Int):IntKind.wrap .u8 z=w8 z:=by unfold w8 IntKind.wrap;simp [IntKind.bits,IntKind.signed]
theorem RX {k:IntKind} {z:Int} (hk:k=.u64) (h:0≤z∧z≤18446744073709551615):k.wrap z=z:=by subst hk;rw [HE];unfold w64;omega
theorem Kr {k:IntKind} {z:Int} (hk:k=.u32) (h:0≤z∧z≤4294967295):k.wrap z=z:=by subst hk;rw [NO];unfold w32;omega
theorem Ij {k:IntKind} {z:Int} (hk:k=.u8) (h:0≤z∧z≤255):k.wrap z=z:=by subst hk;rw [Ck];unfold w8;omega
theorem Zqu {a b:Int} (h:0≤a):a.tmod b=a % b:=Int.tmod_eq_emod_of_nonneg h
theorem Zwh {k:IntKind} {a b:Int} (hk:k=.i64) (h:0≤a) (hb:0<b) (hm:a≤9223372036854775807):k.wrap (a.tdiv b)=a / b:=by
 rw [Int.tdiv_eq_ediv_of_nonneg h];have h1:0≤a / b:=Int.ediv_nonneg h jD;have h2:a / b≤a:=Int.ediv_le_self _ h;exact Po hk jD
theorem JQ {t el b off len k:Nat} {x ix:Operand} {q:IntKind} {z:Int} (hi:ops[i]?=some ⟨some d,.indexAddr t x ix,ty,pos,af,gd⟩) (hg:want ops e gd=some true)
 (hx:ev e x=some (.pointer (some ⟨b,off,none⟩))) (hix:ev e ix=some (.int q z)) (ht:Zpq P t=some (len,el)) (hz:z=(k:Int)) (hk:k<len) (hd:Nat.ble (d+1) n.sz=true)
 (hK:XD P n ops Q rest J A ((d,.pointer (some ⟨b,off+k,none⟩))::e)):XD P n ops Q (i::rest) J A e :=
 VA hi rfl hg (fun a' w hA=>Xp (by
  simp only [execOp,hA.ev hx,hA.ev hix];refine Wz ?_;obtain ⟨it,hu,hit,h1⟩:=MA ht;subst hz;simp [Instr.indexAt,asIntOf,run_underlying hu,sizeOf,typeInfo,hit,hk,h1,Instr.sureAddr,Addr.add_lit])) (fun a ha=>ha.put hd _) hK
theorem Gx {l:List Value} {j:Nat} {v:Value} (h:l[j]?=some v):(l.drop j).take 1=[v]:=by
 obtain ⟨hj,rfl⟩:=C4.1 h;rw [G4 hj];rfl
theorem Qp {t:TypeId} {x:Operand} {b j:Nat} {r:Segs} {T:TypeId} {v:Value} {MJ:Mem} {HJ:Hp} (hi:ops[i]?=some ⟨some d,.load t x,ty,pos,af,gd⟩) (hg:want ops e gd=some true)
 (hx:ev e x=some (.pointer (some ⟨b,j,none⟩))) (hb:(b,Yp r T)∈HJ) (hl:lay P t=some (false,1)) (hv:(Segs.cells r)[j]?=some v)
 (hd:Nat.ble (d+1) n.sz=true) (hk:XD P n ops Q rest (St MJ HJ) A ((d,v)::e)):XD P n ops Q (i::rest) (St MJ HJ) A e :=
 UB hi rfl hg (fun a' w ha hw=>Xp (by
  simp only [execOp,ha.ev hx];exact Wz (ST (r:=[.one v]) (hw.own _ _ hb) hl (by rw [List.toList_toArray];exact Gx hv) rfl rfl))) (fun a ha=>ha.put hd _) hk
theorem HK {b j:Nat} {T t:TypeId} {r u:Segs} {v:Value} {w:World} (hb:w.heap[b]?=some (Yp r T)) (hl:lay P t=some (false,1)) (hc:v.cells=#[v]) (h1:v.oneCell'=true)
 (hj:j<(Segs.cells r).length) (hu:Segs.cells u=(Segs.cells r).set j v) :
 ∃ w',(Instr.storeAt t (.pointer (some ⟨b,j,none⟩)) v).run P w=.ok () w'∧w'.heap[b]?=some (Yp u T)∧(∀ c,c≠b→w'.heap[c]?=w.heap[c]?)∧SameIO w w':=by
 obtain ⟨d,i,hd,hi,hsz,hag⟩:=OH hl;have hst:=run_storeCells_at P b j T [v] 0 (Segs.cells r).toArray w hb jU (fun x hx=>by simp at hx;subst hx;exact h1);refine ⟨w.setRow b (Segs.cells u).toArray,?_,setRow_heap w b _ _ T _ hb,fun c hc=>setRow_other w b c _ hc,SameIO.refl _⟩;unfold Instr.storeAt;rw [Sem.run_bind];show (Result.ok _ w).andThen _=_;rw [Result.andThen_ok];unfold storeVar;rw [Sem.run_bind,Th hi,Result.andThen_ok];have hs:v.cells.size=i.size:=by rw [hc,hsz];rfl
 have e1:(Segs.cells u).toArray=(Segs.cells r).toArray.setIfInBounds j v:=by rw [hu];simp
 have e2:(Segs.cells r).toArray.setIfInBounds j v=(List.take j (Segs.cells r)++v::List.drop (j+1) (Segs.cells r)).toArray:=by
  apply Array.ext';simp only [Array.toList_setIfInBounds];rw [List.set_eq_take_append_cons_drop,A6 hj]
 grind
theorem QH {t:TypeId} {x y:Operand} {b j:Nat} {r u:Segs} {T:TypeId} {v:Value} (hi:ops[i]?=some ⟨none,.store t x y,ty,pos,af,gd⟩) (hg:want ops e gd=some true)
 (hx:ev e x=some (.pointer (some ⟨b,j,none⟩))) (hy:ev e y=some v) (hc:v.cells=#[v]) (h1:v.oneCell'=true) (hu:Upd b (Yp r T) (Yp u T) H H') (hl:lay P t=some (false,1)) (hj:j<(Segs.cells r).length) (hs:Segs.cells u=(Segs.cells r).set j v)
 (hk:XD P n ops Q rest (St M H') ⟨M,H'⟩ e) (hnw:n.wrs.contains i=false:=by rfl):XD P n ops Q (i::rest) J ⟨M,H⟩ e:=by
 refine SK hi rfl hg (fun a w ha hw=>?_) hnw;obtain ⟨w',h1,h2,h3,h4⟩:=HK (P:=P) (hw.own _ _ hu.mem) hl hc h1 hj hs;unfold Oper.does;have:(execOp a.eval ⟨none,.store t x y,ty,pos,af,gd⟩).run P w=.ok .skip w':=by
  simp only [execOp,ha.ev hx,ha.ev hy];rw [ZY h1];rfl
 rw [this];exact ⟨⟨M,H'⟩,e,hw.upd hu h2 (fun c hc z hz=>by rw [h3 c hc];exact hz) h4,ha,hk⟩
theorem Ry {m:Nat} (f:Vector Value m):Segs.cells [.arr m f]=f.toList:=by simp [Segs.cells,Seg.cells]
theorem Zkm {m j:Nat} {f:Vector Value m} (h:j<m):(Segs.cells [.arr m f])[0+j]?=some f[j]:=by
 rw [Ry,F2,A7 zL];simp
theorem GI {m j:Nat} {f:Vector Value m} {v:Value} (h:j<m):Segs.cells [.arr m (f.set j v h)]=(Segs.cells [.arr m f]).set (0+j) v:=by
 rw [Ry,Ry,F2,Vector.toList_set]
theorem GJ {m j:Nat} {f:Vector Value m} (h:j<m):0+j<(Segs.cells [.arr m f]).length:=by rw [Ry];simpa using h
theorem Zwu {j:Nat} {x:Plc} (h:j<20):(Segs.cells [ZU x])[0+j]?=some (.int .u8 (idB x j)):=by
 have:=Zkm (f:=idV x) h;rw [SH x h] at this;exact this
theorem Zwt {j:Nat} {x:Plc} (h:j<20):(Segs.cells [ZU x])[j]?=some (.int .u8 (idB x j)):=by have:=Zwu (x:=x) h;rwa [F2] at this
theorem BC {t el b off len:Nat} {x:Operand} (hi:ops[i]?=some ⟨some d,.slice t x none none none,ty,pos,af,gd⟩) (hg:want ops e gd=some true)
 (hx:ev e x=some (.pointer (some ⟨b,off,none⟩))) (ht:Zpq P t=some (len,el)) (hd:Nat.ble (d+1) n.sz=true)
 (hK:XD P n ops Q rest J A ((d,.slice (some ⟨b,off,none⟩) len len)::e)):XD P n ops Q (i::rest) J A e :=
 VA hi rfl hg (fun a' w hA=>Xp (by
  simp only [execOp,hA.ev hx];refine Wz ?_;obtain ⟨it,hu,hit,h1⟩:=MA ht;have e0:(⟨b,off,none⟩:Addr).add 0=⟨b,off,none⟩:=by rw [Addr.add_lit];rfl
  simp [Instr.sliceAt,run_underlying hu,Instr.sureAddr,Instr.sliceBounds,sizeOf,typeInfo,hit,h1,e0])) (fun a ha=>ha.put hd _) hK
theorem Zpy {T el len:Nat} {r:Segs} (hi:ops[i]?=some ⟨some d,.build T #[],ty,pos,af,gd⟩) (hg:want ops e gd=some true)
 (hz:XP P T=some (WX r)) (hA:Zpq P T=some (len,el)) (hd:Nat.ble (d+1) n.sz=true) (hk:XD P n ops Q rest J A ((d,WX r)::e)):XD P n ops Q (i::rest) J A e :=
 VA hi rfl hg (fun a' w ha=>Xp (by
  simp only [execOp];refine Wz ?_;obtain ⟨it,hu,hit,h1⟩:=MA hA;unfold XP at hz;refine run_build w T _ _ ?_;unfold Program.built;cases hi:P.info? T with
  | none=>rw [hi] at hz;cases hz
  | some it2 =>
   rw [hi] at hz;simp only at hz;simp [hu,hi,hz,hit,Instr.fill,WX,Value.cells])) (fun a ha=>ha.put hd _) hk
theorem GP {T:TypeId} {parts:Array (Nat×Operand)} {vs:Array (Nat×Value)} {v:Value} (hi:ops[i]?=some ⟨some d,.build T parts,ty,pos,af,gd⟩) (hg:want ops e gd=some true)
 (hx:∀ a,Sat n e a→(parts.map fun p=>(p.1,a.eval p.2))=vs) (h:∀ w,(Instr.build T vs).run P w=.ok v w) (hd:Nat.ble (d+1) n.sz=true) (hk:XD P n ops Q rest J A ((d,v)::e)):XD P n ops Q (i::rest) J A e :=
 VA hi rfl hg (fun a' w ha=>Xp (by
  simp only [execOp];have:=hx a' ha;rw [show (parts.map fun (x:Nat×Operand)=>(x.1,a'.eval x.2))=vs from this];exact Wz (h w))) (fun a ha=>ha.put hd _) hk
theorem GL {t:TypeId} {x y:Operand} {b off m:Nat} {agg:Bool} {r q u:Segs} {T:TypeId} {v:Value} {MJ:Mem} {HJ:Hp} (hi:ops[i]?=some ⟨none,.store t x y,ty,pos,af,gd⟩) (hws:n.wrs.contains i=true) (hg:want ops e gd=some true)
 (hx:ev e x=some (.pointer (some ⟨b,off,none⟩))) (hy:ev e y=some v) (hp:Parts v q) (hq:flat q) (hu:Upd b (Yp r T) (Yp u T) H H') (hl:lay P t=some (agg,m)) (hn:Segs.len q=m) (hs:Segs.put r off q=some u)
 (hJ:∀ w,St M H' w→St MJ HJ w) (hk:XD P n ops Q rest (St MJ HJ) ⟨M,H'⟩ e):XD P n ops Q (i::rest) (St MJ HJ) ⟨M,H⟩ e:=by
 refine Zxw hi rfl hws hg (fun a F w ha hw=>?_);obtain ⟨w',h1,h2,h3,h4⟩:=LD (P:=P) (St.own hw _ _ (hu.over F).mem) hl hp hq hn hs;unfold Oper.does;have:(execOp a.eval ⟨none,.store t x y,ty,pos,af,gd⟩).run P w=.ok .skip w':=by
  simp only [execOp,ha.ev hx,ha.ev hy];rw [ZY h1];rfl
 rw [this];exact ⟨⟨M,H'⟩,e,St.upd hw (hu.over F) h2 (fun c hc z hz=>by rw [h3 c hc];exact hz) h4,hJ,ha,hk⟩
theorem QS {m:Nat} {ds:List Deferred} {ro:Option Nat} {Hin Hr:Hp} {id:Nat} {l:List Nat} (ws:List Nat) (B:Array Nat) (hR:Rem Hin H Hr) (hl:List.range ops.size=l) (hm:P.follows .mixedOrders=true) (hok:Ri ops (Tu P ws ops) B=true)
 (h:XD P ⟨m,ds,ro,ws⟩ ops Q l (St M Hr) ⟨M,H⟩ e):C P ⟨m,ds,ro,[]⟩ (.region id ops true) Q (St M H) e :=
 UF ws B (St M Hr) hl hm hok St.drawn (fun _ hw=>(hw.perm hR.perm).suf (Suf.app Hin Hr)) h
def Ext (P:Program) (f:FuncId) (g:Array Value→Sem Value):Prop :=
 ∀ (args:Array Value) (w:World),(callFunc f args).run P w=(do pure (Next.value (← g args)):Sem Next).run P w
theorem Zpf {f:FuncId} {g:Array Value→Sem Value} {xs:Array Operand} {ats:Array TypeId} {a:Act} {w w':World} {vs:List Value} {v:Value} {K:Value→World→Prop} (hf:Ext P f g)
 (hx:xs.toList.map a.eval=vs) (hr:(g vs.toArray).run P w=.ok v w') (hK:K v w') :
 Oper.does P ⟨dst,.call ⟨.value (.func f),xs,ats⟩,ty,pos,af,gd⟩ a w K:=by
 unfold Oper.does;have e:(execOp a.eval ⟨dst,.call ⟨.value (.func f),xs,ats⟩,ty,pos,af,gd⟩).run P w=.ok (.value v) w':=by
  have e1:#[]++xs.map a.eval++#[]=vs.toArray:=by
   apply Array.ext';simp [hx]
  rw [execOp_call_go,e1,hf,ZY hr];rfl
 grind
theorem Zxz {f:FuncId} {g:Array Value→Sem Value} {xs:List Operand} {ats:Array TypeId} {vs:List Value} {v:Value} (hi:ops[i]?=some ⟨some d,.call ⟨.value (.func f),xs.toArray,ats⟩,ty,pos,af,gd⟩) (hg:want ops e gd=some true)
 (hf:Ext P f g) (hx:evs e xs=some vs) (hr:∀ w,St M H w→(g vs.toArray).run P w=.ok v w) (hd:Nat.ble (d+1) n.sz=true)
 (hk:XD P n ops Q rest J ⟨M,H⟩ ((d,v)::e)):XD P n ops Q (i::rest) J ⟨M,H⟩ e:=by
 refine Zdx hi rfl hg (fun a F w ha hw=>?_);exact Zpf hf (ha.evs hx) (hr w (St.unframe hw)) ⟨⟨M,H⟩,_,hw,fun _ h=>h,ha.put hd v,hk⟩
end
end Go.Esp
namespace Go.Esp
section
variable {P:Program} {n:Sh} {ops:Array Oper} {Q:Exit→Act→World→Prop} {M M':Mem} {H H' H0:Hp} {e:Env} {S:World→Prop}
def Zrt {α:Type} (n:Sh) (e0:Env) (S0:World→Prop) (I:α→Env→Prop) (μ:α→Nat) (x:α):Act→World→Prop :=
 Zvg n e0 (fun x S z=>S=S0∧I x z) μ x
theorem Un {α:Type} {c:Code} {a0 e0:Env} (hs:Spl e a0 e0) (I:α→Env→Prop) (μ:α→Nat) (x0:α) (h0:I x0 a0)
 (round:∀ x z,I x z→C P n c (Exit.then (Zrt n e0 S I μ x) Q) S (z++e0)):C P n (.loop c) Q S e :=
 Zrx hs (fun x S' z=>S'=S∧I x z) μ x0 ⟨rfl,h0⟩ (fun x S' z ⟨h1,h2⟩=>by subst h1;exact round x z h2)
theorem VX {α:Type} {a' e0:Env} {S0:World→Prop} {I:α→Env→Prop} {μ:α→Nat} {x:α} (y:α) (hp:Pick e (a'++e0)) (hS:∀ w,S w→S0 w) (hI:I y a') (hμ:μ y<μ x) :
 K n (Exit.then (Zrt n e0 S0 I μ x) Q) .normal S e:=fun _ _ ha hw=>⟨y,S0,a',⟨rfl,hI⟩,hμ,ha.pick hp,hS _ hw⟩
def Zlm {α:Type} (n:Sh) (e0:Env) (M:Mem) (H0:Hp) (I:α→Mem→Hp→Env→Prop) (μ:α→Nat) (x:α):Act→World→Prop :=
 Zvg n e0 (fun x S z=>∃ M1 h1,M.le M1∧S=St M1 (h1++H0)∧I x M1 h1 z) μ x
theorem XV {α:Type} {c:Code} {a0 e0:Env} {Hin:Hp} (hs:Spl e a0 e0) (hR:Rem Hin H H0) (I:α→Mem→Hp→Env→Prop) (μ:α→Nat) (x0:α) (h0:I x0 M Hin a0)
 (round:∀ x M1 h1 z,M.le M1→I x M1 h1 z→C P n c (Exit.then (Zlm n e0 M H0 I μ x) Q) (St M1 (h1++H0)) (z++e0)):C P n (.loop c) Q (St M H) e :=
 Zlx (fun _ h=>h) (fun _ hw=>hw.perm hR.perm)
  (Zrx hs (fun x S' z=>∃ M1 h1,M.le M1∧S'=St M1 (h1++H0)∧I x M1 h1 z) μ x0 ⟨M,Hin,Mem.le.refl M,rfl,h0⟩ (fun x S' z ⟨M1,h1,hm,e1,h2⟩=>by subst e1;exact round x M1 h1 z hm h2))
theorem OZ {α:Type} {c:Code} {a0 e0:Env} {Hin Hin2 H1:Hp} (hs:Spl e a0 e0) (hR:Rem Hin H H1) (hR2:Rem Hin2 H1 H0) (I:α→Mem→Hp→Env→Prop) (μ:α→Nat) (x0:α) (h0:I x0 M (Hin++Hin2) a0)
 (round:∀ x M1 h1 z,M.le M1→I x M1 h1 z→C P n c (Exit.then (Zlm n e0 M H0 I μ x) Q) (St M1 (h1++H0)) (z++e0)):C P n (.loop c) Q (St M H) e :=
 Zlx (fun _ h=>h) (fun _ hw=>hw.perm0 ((hR.perm.trans (hR2.perm.append_left Hin)).trans (B5 _ _ _ ▸ I9 _)))
  (XV (Hin:=Hin++Hin2) hs (Rem.here _) I μ x0 h0 round)
theorem YO {α:Type} {a' e0:Env} {I:α→Mem→Hp→Env→Prop} {μ:α→Nat} {x:α} {M2:Mem} (y:α) (h2:Hp) (hp:Pick e (a'++e0)) (hm:M.le M2) (hS:∀ w,S w→St M2 (h2++H0) w) (hI:I y M2 h2 a') (hμ:μ y<μ x) :
 K n (Exit.then (Zlm n e0 M H0 I μ x) Q) .normal S e:=fun _ _ ha hw=>⟨y,_,a',⟨M2,h2,hm,rfl,hI⟩,hμ,ha.pick hp,hS _ hw⟩
theorem Lj {f : FuncId} {g : Operand} {xs : Array Operand} {ats : Array TypeId} {dst : Option Tmp} {ty : TypeId} {pos : String} {af : Array Edge} {gd : Option (Nat × Bool)} {a : Act} {w : World} {vs caps : List Value} {fn : Func} {K : Value → World → Prop} (hf : P.funcs[f]? = some fn) (hb : fn.body.isSome = true) (hn : (fn.name == "runtime.NumGoroutine") = false)
 (hg:a.eval g=.func (.func f) #[] caps.toArray) (hv:xs.toList.map a.eval=vs) (h:Calls P f (vs++caps).toArray w fun e w'=>∃ v,e=.returned v∧K v w') :
 Oper.does P ⟨dst,.call ⟨.value g,xs,ats⟩,ty,pos,af,gd⟩ a w K:=by
 unfold Oper.does;have:(execOp a.eval ⟨dst,.call ⟨.value g,xs,ats⟩,ty,pos,af,gd⟩).run P w=.ok (.enter f (vs++caps).toArray) w:=by
  simp only [execOp,resolve,hg,Deferred.ofValue,pure_bind,invoke];have e:#[]++xs.map a.eval++caps.toArray=(vs++caps).toArray:=by
   simp [hv]
  rw [e];unfold callFunc;rw [Sem.run_bind];show (Result.ok P w).andThen _=_;rw [Result.andThen_ok];simp only [hf,hn];have:fn.body.isNone=false:=by cases h':fn.body <;> simp_all
  simp only [this];rfl
 grind
theorem GN {i:Nat} {rest:List Nat} {J:World→Prop} {dst:Option Tmp} {ty:TypeId} {pos:String} {af:Array Edge} {gd:Option (Nat×Bool)} {f:FuncId} {g:Operand} {xs:List Operand} {ats:Array TypeId} {vs caps:List Value} {Hin:Hp} {R:Mem→Value→Prop} (hi:ops[i]?=some ⟨dst,.call ⟨.value g,xs.toArray,ats⟩,ty,pos,af,gd⟩) (hcl:NE P (.call ⟨.value g,xs.toArray,ats⟩)=.eff) (hg:want ops e gd=some true)
 (hf:Ta P f=true) (hgv:ev e g=some (.func (.func f) #[] caps.toArray)) (hx:evs e xs=some vs) (hc:Fo P f (vs++caps) M Hin R) (hH:Rem Hin H H0) (hd:∀ a v,Sat n e a→Sat n (NN dst v e) (a.put dst v))
 (hk:∀ v M',M.le M'→R M' v→XD P n ops Q rest J ⟨M',H⟩ (NN dst v e)):XD P n ops Q (i::rest) J ⟨M,H⟩ e:=by
 obtain ⟨fn,h1,h2,h3⟩:=Ub hf;refine Zdx hi hcl hg (fun a F w ha hw=>Lj h1 h2 h3 (ha.ev hgv) zB ?_);exact (hc (F++H0) w (hw.perm0 ((hH.perm.append_left F).trans (PV F Hin H0)))).mono fun e' w' ⟨v,M',he,hm,hs,hr⟩=>⟨v,he,⟨M',H⟩,_,hs.perm0 ((hH.perm.append_left F).trans (PV F Hin H0)).symm,fun _ h=>St.lower h hm,hd a v ha,hk v M' hm hr⟩
theorem AT {f:FuncId} {vs:List Value} {R:Value→Prop} (h:Fo P f vs M [] (fun M' v=>M'=M∧R v)):Fs P f vs M R:=fun H w hw =>
 (h H w hw).mono fun e w' ⟨v,M',he,_,hs,h1,h2⟩=>⟨v,he,by rw [h1] at hs;exact hs,h2⟩
end
def Ztm (x:Int) (l:List Int):Int:=if x∈l then (l.idxOf x:Int) else -1
theorem Ztl {x:Int} {l:List Int} {k:Nat} (hk:k<l.length) (h1:x∉l.take k) (h2:x=l[k]):Ztm x l=k:=by
 have hm:x∈l:=by rw [h2];exact C1 hk
 unfold Ztm;have h3:l.idxOf x<l.length:=List.idxOf_lt_length_of_mem hm;have h5:l.idxOf x≤k:=by
  rcases C7 k (l.idxOf x) with h|h
  ·exfalso;have:=List.not_of_lt_findIdx (p:=(· == x)) (xs:=l) (i:=k) h;simp [h2] at this
  ·exact h
 rcases C7 (l.idxOf x) k with h|h
 ·exfalso;apply h1;rw [List.mem_take_iff_getElem];grind
 ·grind
theorem Zif {x:Int} {l:List Int} (h:x∉l):Ztm x l=-1:=by unfold Ztm;rw [A4 h]
theorem Ztk {x:Int} {l:List Int}:0≤Ztm x l↔x∈l:=by
 unfold Ztm;split <;> simp_all <;> omega
theorem HX {x:Int} {l:List Int} {k:Nat} (hk:k<l.length) (h1:x∉l.take k) (h2:¬x=l[k]):x∉l.take (k+1):=by
 rw [C9,A7 hk];grind
theorem OSl.valL {α:Type} {T sz:Nat} {v:Value} {hs:Hp} {f:α→Segs} {l:List α} (h:OSl T sz v hs (l.map f)):∃ a c,v=.slice a l.length c:=by
 obtain ⟨a,c,h1⟩:=h.val;grind
theorem NS {α β:Type} {l:List α} {k:Nat} (f:α→β) (hk:k<l.length):(l.take (k+1)).map f=(l.take k).map f++[f l[k]]:=by
 rw [C9,A7 hk,C6];rfl
def Qj (p:Nat→Bool):Nat→Nat
 | 0=>0
 | n+1=>if Qj p n<n then Qj p n else if p n then n else n+1
theorem JC (p:Nat→Bool):∀ n,Qj p n≤n∧(∀ x,x<Qj p n→p x=false)∧(Qj p n<n→p (Qj p n)=true)
 | 0=>⟨B9 0,fun x h=>(by cases h),fun h=>(by cases h)⟩
 | n+1=>by
  obtain ⟨h1,h2,h3⟩:=JC p n;unfold Qj;split
  ·exact ⟨by omega,h2,fun _=>h3 jE⟩
  ·rename_i hn;have e:Qj p n=n:=by omega
   rw [e] at h2;split
   ·rename_i hp;exact ⟨by omega,h2,fun _=>hp⟩
   ·rename_i hp;refine ⟨by omega,fun x hx=>?_,fun h=>by omega⟩;rcases C7 x n with h|h
    ·exact h2 x h
    ·obtain rfl:x=n:=by omega
     simpa using hp
theorem JD {p:Nat→Bool} {n a:Nat} (ha:a≤n) (h1:∀ x,x<a→p x=false) (h2:a<n→p a=true):Qj p n=a:=by
 obtain ⟨g1,g2,g3⟩:=JC p n;grind
end Go.Esp
namespace Go.Esp
section
variable {P:Program} {n:Sh} {ops:Array Oper} {Q:Exit→Act→World→Prop} {rest:List Nat} {M M':Mem} {H H' H0:Hp} {e:Env} {J S:World→Prop} {A:As} {i:Nat}
  {dst:Option Tmp} {d:Tmp} {op:Op} {ty:TypeId} {pos:String} {af:Array Edge} {gd:Option (Nat×Bool)}
def Znn (e:Env):List Nat→Option Env
 | []=>some []
 | k::ks=>match get e k,Znn e ks with
  | some v,some r=>some ((k,v)::r)
  | _,_=>none
theorem Am {e:Env}:∀ {ks:List Nat} {e':Env},Znn e ks=some e'→Pick e e'
 | [],e',h=>by cases h;exact .nil
 | k::ks,e',h=>by
  unfold Znn at h;split at h
  ·rename_i v r h1 h2;cases h;exact .cons h1 (Am h2)
  ·cases h
theorem VG {c:Code} {e':Env} (ks:List Nat) (hk:C P n c Q S e') (h:Znn e ks=some e':=by exact rfl):C P n c Q S e:=Zyq (Am h) hk
theorem Zrn {x:Operand} {v:Value} (hk:XD P n ops Q rest J A ((d,v)::e)) (hi:ops[i]?=some ⟨some d,.move x,ty,pos,af,gd⟩:=by exact rfl) (hg:want ops e gd=some true:=by exact rfl) (hx:ev e x=some v:=by exact rfl) (hd:Nat.ble (d+1) n.sz=true:=by exact rfl):XD P n ops Q (i::rest) J A e :=
 Zro hi hg hx hd hk
theorem Hx {x:Operand} {a:Addr} (hk:XD P n ops Q rest J A ((d,.pointer (some a))::e)) (hi:ops[i]?=some ⟨some d,.nilCheck x,ty,pos,af,gd⟩:=by exact rfl) (hg:want ops e gd=some true:=by exact rfl) (hx:ev e x=some (.pointer (some a)):=by exact rfl) (hd:Nat.ble (d+1) n.sz=true:=by exact rfl):XD P n ops Q (i::rest) J A e :=
 Hy hi hg hx hd hk
theorem Zxr {o:BinOp} {t t':TypeId} {x y:Operand} {a b:ByteArray} {c:Bool} (hk:XD P n ops Q rest J A ((d,.bool c)::e)) (hi:ops[i]?=some ⟨some d,.binOp o t x y t',ty,pos,af,gd⟩:=by exact rfl) (hg:want ops e gd=some true:=by exact rfl) (hx:ev e x=some (.string a):=by exact rfl) (hy:ev e y=some (.string b):=by exact rfl) (hc:Zzl o a b=some c:=by exact rfl) (hd:Nat.ble (d+1) n.sz=true:=by exact rfl):XD P n ops Q (i::rest) J A e :=
 Zzr hi hg hx hy hc hd hk
theorem Rd {s:TypeId} {x:Operand} {f k b off:Nat} (hf:Zjb P s f=some k) (hk:XD P n ops Q rest J A ((d,.pointer (some ⟨b,off+k,none⟩))::e)) (hi:ops[i]?=some ⟨some d,.fieldAddr s x f,ty,pos,af,gd⟩:=by exact rfl) (hg:want ops e gd=some true:=by exact rfl) (hx:ev e x=some (.pointer (some ⟨b,off,none⟩)):=by exact rfl) (hd:Nat.ble (d+1) n.sz=true:=by exact rfl):XD P n ops Q (i::rest) J A e :=
 JR hi hg hx hf hd hk
theorem DS {t:TypeId} {x:Operand} {b off m:Nat} {agg:Bool} {r r':Segs} {T:TypeId} {v:Value} {MJ:Mem} {HJ:Hp} (hl:lay P t=some (agg,m)) (hk:XD P n ops Q rest (St MJ HJ) A ((d,v)::e)) (hi:ops[i]?=some ⟨some d,.load t x,ty,pos,af,gd⟩:=by exact rfl) (hg:want ops e gd=some true:=by exact rfl) (hx:ev e x=some (.pointer (some ⟨b,off,none⟩)):=by exact rfl) (hb:(b,Yp r T)∈HJ:=by repeat first|exact J3 _|refine J6 _ ?_|refine D0 _ ?_) (hs:Segs.sub r off m=some r':=by exact rfl) (hv:Sp agg r'=some v:=by exact rfl) (hd:Nat.ble (d+1) n.sz=true:=by exact rfl):XD P n ops Q (i::rest) (St MJ HJ) A e :=
 Zkx hi hg hx hb hl hs hv hd hk
theorem Zks {T:TypeId} {z:Value} {r:Segs} (hz:XP P T=some z) (hk:∀ b,XD P n ops Q rest J ⟨M,(b,Yp r T)::H⟩ ((d,.pointer (some ⟨b,0,none⟩))::e)) (hi:ops[i]?=some ⟨some d,.alloc T,ty,pos,af,gd⟩:=by exact rfl) (hg:want ops e gd=some true:=by exact rfl) (hp:Parts z r:=by constructor) (hd:Nat.ble (d+1) n.sz=true:=by exact rfl):XD P n ops Q (i::rest) J ⟨M,H⟩ e :=
 Zlg hi hg hz hp hd hk
theorem Zzq {T:TypeId} {x:Operand} {v:Value} {r:Segs} (hk:∀ b,XD P n ops Q rest J ⟨M,(b,Yp r T)::H⟩ ((d,.pointer (some ⟨b,0,none⟩))::e)) (hi:ops[i]?=some ⟨some d,.box T x,ty,pos,af,gd⟩:=by exact rfl) (hg:want ops e gd=some true:=by exact rfl) (hx:ev e x=some v:=by exact rfl) (hp:Parts v r:=by constructor) (hd:Nat.ble (d+1) n.sz=true:=by exact rfl):XD P n ops Q (i::rest) J ⟨M,H⟩ e :=
 Zya hi hg hx hp hd hk
theorem BB {t:TypeId} {x y:Operand} {b off m:Nat} {agg:Bool} {r q u:Segs} {T:TypeId} {v:Value} (hl:lay P t=some (agg,m)) (hk:XD P n ops Q rest (St M H') ⟨M,H'⟩ e) (hi:ops[i]?=some ⟨none,.store t x y,ty,pos,af,gd⟩:=by exact rfl) (hg:want ops e gd=some true:=by exact rfl) (hx:ev e x=some (.pointer (some ⟨b,off,none⟩)):=by exact rfl) (hy:ev e y=some v:=by exact rfl) (hp:Parts v q:=by constructor) (hq:flat q:=by (try simp only [cat,B4,B6,E0]);(repeat (first|exact YS|refine Xg ?_|(refine Yi ?_ ?_;rfl)));done) (hu:Upd b (Yp r T) (Yp u T) H H':=by repeat first|exact Upd.head|apply Upd.tail|apply Upd.over) (hn:Segs.len q=m:=by exact rfl) (hs:Segs.put r off q=some u:=by exact rfl) (hnw:n.wrs.contains i=false:=by rfl):XD P n ops Q (i::rest) J ⟨M,H⟩ e :=
 UE hi hg hx hy hp hq hu hl hn hs hk hnw
theorem Rz {t:Nat} {x:Operand} {s:ByteArray} {ats:Array TypeId} (ht:P.underlying t=some .string) (hk:XD P n ops Q rest J A ((d,.int .i64 (s.size:Int))::e)) (hi:ops[i]?=some ⟨some d,.call ⟨.builtin .len,#[x],ats⟩,ty,pos,af,gd⟩:=by exact rfl) (hg:want ops e gd=some true:=by exact rfl) (hx:ev e x=some (.string s):=by exact rfl) (hat:ats[0]?=some t:=by exact rfl) (hd:Nat.ble (d+1) n.sz=true:=by exact rfl):XD P n ops Q (i::rest) J A e :=
 DV hi hg hx hat ht hd hk
end
end Go.Esp
namespace Go.Esp
structure Zr where
  addr:Int
  id:Plc
  deriving DecidableEq
def Zr.segs:Zr→Segs
 | ⟨a1,a2⟩=>[.one (.int .i64 a1),ZU a2]
theorem Zr.eta (x:Zr):(⟨x.addr,x.id⟩:Zr)=x:=rfl
def Zr.enc (x:Zr):Value:=WX x.segs
def Zr.zero:Zr:=⟨0,0⟩
theorem Zr.len (x:Zr):Segs.len x.segs=21:=by
 obtain ⟨a1,a2⟩:=x;simp only [Zr.segs,Segs.len,Seg.len,ZU]
theorem Zr.flat (x:Zr):Esp.flat x.segs:=by
 obtain ⟨a1,a2⟩:=x;simp only [Zr.segs];refine Yi rfl ?_;refine Xg ?_;exact YS
theorem Zr.inj {x y:Zr}:Segs.cells x.segs=Segs.cells y.segs↔x=y:=by
 obtain ⟨a1,a2⟩:=x;obtain ⟨b1,b2⟩:=y;simp only [Zr.segs,Zka,Zad,Value.int.injEq,Value.bool.injEq,Value.string.injEq,true_and,and_true,and_assoc,Zr.mk.injEq]
structure ZK where
  self:Zr
  pred:Zr
  succ:(Sl Zr)
  fingers:(Sl Zr)
def ZK.segs:ZK→Segs
 | ⟨⟨a1,a2⟩,⟨a3,a4⟩,a5,a6⟩=>[.one (.int .i64 a1),ZU a2,.one (.int .i64 a3),ZU a4,.one (a5).val,.one (a6).val]
theorem ZK.eta (x:ZK):(⟨x.self,x.pred,x.succ,x.fingers⟩:ZK)=x:=rfl
def ZK.enc (x:ZK):Value:=WX x.segs
def ZK.zero:ZK:=⟨⟨0,0⟩,⟨0,0⟩,⟨none,0,[]⟩,⟨none,0,[]⟩⟩
theorem ZK.flat (x:ZK):Esp.flat x.segs:=by
 obtain ⟨⟨a1,a2⟩,⟨a3,a4⟩,a5,a6⟩:=x;simp only [ZK.segs];refine Yi rfl ?_;refine Xg ?_;refine Yi rfl ?_;refine Xg ?_;refine Yi (Sl.one _) ?_;refine Yi (Sl.one _) ?_;exact YS
structure ZK.ok (M:Mem) (x:ZK):Prop where
  h0:SlK M Zr.segs 21 x.succ
  h1:SlK M Zr.segs 21 x.fingers
theorem ZK.ok.mono {M M':Mem} {x:ZK} (h:ZK.ok M x) (hm:M.le M'):ZK.ok M' x:=⟨h.h0.mono hm,h.h1.mono hm⟩
theorem ZK.zero_ok (M:Mem):ZK.ok M ZK.zero:=⟨SlK.nil,SlK.nil⟩
structure ZM where
  table:ZK
  copies:Int
  joined:Bool
  boot:Int
  cursor:Int
  req:Int
  askTo:Int
  askReq:Int
  pingTo:Int
  pingReq:Int
  findTo:Int
  findReq:Int
  findID:Plc
  avoid:(Sl Int)
  hops:Int
  turn:Int
def ZM.segs:ZM→Segs
 | ⟨⟨⟨a1,a2⟩,⟨a3,a4⟩,a5,a6⟩,a7,a8,a9,a10,a11,a12,a13,a14,a15,a16,a17,a18,a19,a20,a21⟩=>[.one (.int .i64 a1),ZU a2,.one (.int .i64 a3),ZU a4,.one (a5).val,.one (a6).val,.one (.int .i64 a7),.one (.bool a8),.one (.int .i64 a9),.one (.int .i64 a10),.one (.int .u64 a11),.one (.int .i64 a12),.one (.int .u64 a13),.one (.int .i64 a14),.one (.int .u64 a15),.one (.int .i64 a16),.one (.int .u64 a17),ZU a18,.one (a19).val,.one (.int .i64 a20),.one (.int .i64 a21)]
theorem ZM.eta (x:ZM):(⟨x.table,x.copies,x.joined,x.boot,x.cursor,x.req,x.askTo,x.askReq,x.pingTo,x.pingReq,x.findTo,x.findReq,x.findID,x.avoid,x.hops,x.turn⟩:ZM)=x:=rfl
def ZM.enc (x:ZM):Value:=WX x.segs
def ZM.zero:ZM:=⟨⟨⟨0,0⟩,⟨0,0⟩,⟨none,0,[]⟩,⟨none,0,[]⟩⟩,0,false,0,0,0,0,0,0,0,0,0,0,⟨none,0,[]⟩,0,0⟩
theorem ZM.flat (x:ZM):Esp.flat x.segs:=by
 obtain ⟨⟨⟨a1,a2⟩,⟨a3,a4⟩,a5,a6⟩,a7,a8,a9,a10,a11,a12,a13,a14,a15,a16,a17,a18,a19,a20,a21⟩:=x;simp only [ZM.segs];refine Yi rfl ?_;refine Xg ?_;refine Yi rfl ?_;refine Xg ?_;refine Yi (Sl.one _) ?_;refine Yi (Sl.one _) ?_;refine Yi rfl ?_;refine Yi rfl ?_;refine Yi rfl ?_;refine Yi rfl ?_;refine Yi rfl ?_;refine Yi rfl ?_;refine Yi rfl ?_;refine Yi rfl ?_;refine Yi rfl ?_;refine Yi rfl ?_;refine Yi rfl ?_;refine Xg ?_;refine Yi (Sl.one _) ?_;refine Yi rfl ?_;refine Yi rfl ?_;exact YS
structure ZM.ok (M:Mem) (x:ZM):Prop where
  h0:ZK.ok M x.table
  h1:SlK M (WC .i64) 1 x.avoid
theorem ZM.ok.mono {M M':Mem} {x:ZM} (h:ZM.ok M x) (hm:M.le M'):ZM.ok M' x:=⟨h.h0.mono hm,h.h1.mono hm⟩
theorem ZM.zero_ok (M:Mem):ZM.ok M ZM.zero:=⟨ZK.zero_ok M,SlK.nil⟩
structure ZI where
  kind:Int
  frm:Zr
  req:Int
  id:Plc
  avoid:(Sl Int)
  done:Bool
  peer:Zr
  peers:(Sl Zr)
def ZI.segs:ZI→Segs
 | ⟨a1,⟨a2,a3⟩,a4,a5,a6,a7,⟨a8,a9⟩,a10⟩=>[.one (.int .i64 a1),.one (.int .i64 a2),ZU a3,.one (.int .u64 a4),ZU a5,.one (a6).val,.one (.bool a7),.one (.int .i64 a8),ZU a9,.one (a10).val]
theorem ZI.eta (x:ZI):(⟨x.kind,x.frm,x.req,x.id,x.avoid,x.done,x.peer,x.peers⟩:ZI)=x:=rfl
def ZI.enc (x:ZI):Value:=WX x.segs
theorem ZI.flat (x:ZI):Esp.flat x.segs:=by
 obtain ⟨a1,⟨a2,a3⟩,a4,a5,a6,a7,⟨a8,a9⟩,a10⟩:=x;simp only [ZI.segs];refine Yi rfl ?_;refine Yi rfl ?_;refine Xg ?_;refine Yi rfl ?_;refine Xg ?_;refine Yi (Sl.one _) ?_;refine Yi rfl ?_;refine Yi rfl ?_;refine Xg ?_;refine Yi (Sl.one _) ?_;exact YS
structure ZI.ok (M:Mem) (x:ZI):Prop where
  h0:SlK M (WC .i64) 1 x.avoid
  h1:SlK M Zr.segs 21 x.peers
theorem ZI.ok.mono {M M':Mem} {x:ZI} (h:ZI.ok M x) (hm:M.le M'):ZI.ok M' x:=⟨h.h0.mono hm,h.h1.mono hm⟩
structure YD where
  to:Int
  letter:ZI
def YD.segs:YD→Segs
 | ⟨a1,⟨a2,⟨a3,a4⟩,a5,a6,a7,a8,⟨a9,a10⟩,a11⟩⟩=>[.one (.int .i64 a1),.one (.int .i64 a2),.one (.int .i64 a3),ZU a4,.one (.int .u64 a5),ZU a6,.one (a7).val,.one (.bool a8),.one (.int .i64 a9),ZU a10,.one (a11).val]
theorem YD.eta (x:YD):(⟨x.to,x.letter⟩:YD)=x:=rfl
theorem YD.flat (x:YD):Esp.flat x.segs:=by
 obtain ⟨a1,⟨a2,⟨a3,a4⟩,a5,a6,a7,a8,⟨a9,a10⟩,a11⟩⟩:=x;simp only [YD.segs];refine Yi rfl ?_;refine Yi rfl ?_;refine Yi rfl ?_;refine Xg ?_;refine Yi rfl ?_;refine Xg ?_;refine Yi (Sl.one _) ?_;refine Yi rfl ?_;refine Yi rfl ?_;refine Xg ?_;refine Yi (Sl.one _) ?_;exact YS
structure YD.ok (M:Mem) (x:YD):Prop where
  h0:ZI.ok M x.letter
theorem YD.ok.mono {M M':Mem} {x:YD} (h:YD.ok M x) (hm:M.le M'):YD.ok M' x:=⟨h.h0.mono hm⟩
structure YQ where
  frm:Int
  to:Int
  body:ByteArray
  deriving DecidableEq
def YQ.segs:YQ→Segs
 | ⟨a1,a2,a3⟩=>[.one (.int .i64 a1),.one (.int .i64 a2),.one (.string a3)]
theorem YQ.eta (x:YQ):(⟨x.frm,x.to,x.body⟩:YQ)=x:=rfl
def YQ.enc (x:YQ):Value:=WX x.segs
def YQ.zero:YQ:=⟨0,0,⟨#[]⟩⟩
theorem YQ.flat (x:YQ):Esp.flat x.segs:=by
 obtain ⟨a1,a2,a3⟩:=x;simp only [YQ.segs];refine Yi rfl ?_;refine Yi rfl ?_;refine Yi rfl ?_;exact YS
structure XM where
  kind:Int
  a:Int
  b:Int
  deriving DecidableEq
def XM.segs:XM→Segs
 | ⟨a1,a2,a3⟩=>[.one (.int .i64 a1),.one (.int .i64 a2),.one (.int .i64 a3)]
theorem XM.eta (x:XM):(⟨x.kind,x.a,x.b⟩:XM)=x:=rfl
def XM.enc (x:XM):Value:=WX x.segs
theorem XM.flat (x:XM):Esp.flat x.segs:=by
 obtain ⟨a1,a2,a3⟩:=x;simp only [XM.segs];refine Yi rfl ?_;refine Yi rfl ?_;refine Yi rfl ?_;exact YS
structure YT where
  hops:(Sl Int)
  end_:Zr
def YT.segs:YT→Segs
 | ⟨a1,⟨a2,a3⟩⟩=>[.one (a1).val,.one (.int .i64 a2),ZU a3]
theorem YT.eta (x:YT):(⟨x.hops,x.end_⟩:YT)=x:=rfl
def YT.enc (x:YT):Value:=WX x.segs
def YT.zero:YT:=⟨⟨none,0,[]⟩,⟨0,0⟩⟩
theorem YT.flat (x:YT):Esp.flat x.segs:=by
 obtain ⟨a1,⟨a2,a3⟩⟩:=x;simp only [YT.segs];refine Yi (Sl.one _) ?_;refine Yi rfl ?_;refine Xg ?_;exact YS
structure YT.ok (M:Mem) (x:YT):Prop where
  h0:SlK M (WC .i64) 1 x.hops
theorem YT.ok.mono {M M':Mem} {x:YT} (h:YT.ok M x) (hm:M.le M'):YT.ok M' x:=⟨h.h0.mono hm⟩
theorem YT.zero_ok (M:Mem):YT.ok M YT.zero:=⟨SlK.nil⟩
structure ZW where
  node:ZM
  out:(Sl YD)
def ZW.segs:ZW→Segs
 | ⟨⟨⟨⟨a1,a2⟩,⟨a3,a4⟩,a5,a6⟩,a7,a8,a9,a10,a11,a12,a13,a14,a15,a16,a17,a18,a19,a20,a21⟩,a22⟩=>[.one (.int .i64 a1),ZU a2,.one (.int .i64 a3),ZU a4,.one (a5).val,.one (a6).val,.one (.int .i64 a7),.one (.bool a8),.one (.int .i64 a9),.one (.int .i64 a10),.one (.int .u64 a11),.one (.int .i64 a12),.one (.int .u64 a13),.one (.int .i64 a14),.one (.int .u64 a15),.one (.int .i64 a16),.one (.int .u64 a17),ZU a18,.one (a19).val,.one (.int .i64 a20),.one (.int .i64 a21),.one (a22).val]
theorem ZW.eta (x:ZW):(⟨x.node,x.out⟩:ZW)=x:=rfl
theorem ZW.flat (x:ZW):Esp.flat x.segs:=by
 obtain ⟨⟨⟨⟨a1,a2⟩,⟨a3,a4⟩,a5,a6⟩,a7,a8,a9,a10,a11,a12,a13,a14,a15,a16,a17,a18,a19,a20,a21⟩,a22⟩:=x;simp only [ZW.segs];refine Yi rfl ?_;refine Xg ?_;refine Yi rfl ?_;refine Xg ?_;refine Yi (Sl.one _) ?_;refine Yi (Sl.one _) ?_;refine Yi rfl ?_;refine Yi rfl ?_;refine Yi rfl ?_;refine Yi rfl ?_;refine Yi rfl ?_;refine Yi rfl ?_;refine Yi rfl ?_;refine Yi rfl ?_;refine Yi rfl ?_;refine Yi rfl ?_;refine Yi rfl ?_;refine Xg ?_;refine Yi (Sl.one _) ?_;refine Yi rfl ?_;refine Yi rfl ?_;refine Yi (Sl.one _) ?_;exact YS
structure ZW.ok (M:Mem) (x:ZW):Prop where
  h0:ZM.ok M x.node
  h1:SlK M YD.segs 68 x.out
  h2:∀ y∈(x.out).l,YD.ok M y
theorem ZW.ok.mono {M M':Mem} {x:ZW} (h:ZW.ok M x) (hm:M.le M'):ZW.ok M' x:=⟨h.h0.mono hm,h.h1.mono hm,fun y hy=>(h.h2 y hy).mono hm⟩
structure XF where
  part:Int
  is:Bool
  deriving DecidableEq
def XF.segs:XF→Segs
 | ⟨a1,a2⟩=>[.one (.int .i64 a1),.one (.bool a2)]
theorem XF.eta (x:XF):(⟨x.part,x.is⟩:XF)=x:=rfl
theorem XF.flat (x:XF):Esp.flat x.segs:=by
 obtain ⟨a1,a2⟩:=x;simp only [XF.segs];refine Yi rfl ?_;refine Yi rfl ?_;exact YS
structure Yk where
  kind:Int
  addr:Int
  at_:(Sl Int)
def Yk.segs:Yk→Segs
 | ⟨a1,a2,a3⟩=>[.one (.int .i64 a1),.one (.int .i64 a2),.one (a3).val]
theorem Yk.eta (x:Yk):(⟨x.kind,x.addr,x.at_⟩:Yk)=x:=rfl
def Yk.enc (x:Yk):Value:=WX x.segs
structure Yk.ok (M:Mem) (x:Yk):Prop where
  h0:SlK M (WC .i64) 1 x.at_
theorem Yk.ok.mono {M M':Mem} {x:Yk} (h:Yk.ok M x) (hm:M.le M'):Yk.ok M' x:=⟨h.h0.mono hm⟩
theorem Xr (x:Zr):Fits [.i .i64,.i .u8,.i .u8,.i .u8,.i .u8,.i .u8,.i .u8,.i .u8,.i .u8,.i .u8,.i .u8,.i .u8,.i .u8,.i .u8,.i .u8,.i .u8,.i .u8,.i .u8,.i .u8,.i .u8,.i .u8] (Segs.cells x.segs):=by
 obtain ⟨a1,a2⟩:=x;simp only [Zr.segs];refine Ztt (by first|exact rfl|exact trivial) ?_;refine Ra ?_;exact Sf
theorem St.c {M:Mem} {H H':Hp} {w:World} (h:St M H w) (hc:∀ zz,Esp.cnt zz H'≤Esp.cnt zz H:=by intro zz;first|exact B9 _|(simp only [WG,Wo,WW,cat,List.append_eq,B5,B4,B6,E0];omega)|(simp only [WG,Wo,WW,cat,List.append_eq,B5,B4,B6,E0,Zr.segs,ZK.segs,ZM.segs,ZI.segs,YD.segs,YQ.segs,XM.segs,YT.segs,ZW.segs,XF.segs,Yk.segs];omega)):St M H' w:=h.cnt hc
end Go.Esp
namespace Go.Proofs.YtglnjnacodgmaaaGreatDoor
open Go.Esp
theorem Tryz.own:ownKnob Tryz.prog.godebug=none:=by kernel_rfl
theorem Tryz.laidOut:laidOutB Tryz.prog=true:=by kernel_rfl
theorem id_of_ty36 {M:Mem} {n:Nat} {R:Segs} (h:Ty Tryz.prog M n 36 R):∃ x:Plc,R=[ZU x]:=by
 cases n with
 | zero=>exact h.elim
 | succ m =>
  simp only [Ty,Tryz.underlying36,Tryz.underlying5] at h;obtain ⟨f,rfl,hf⟩:=h jI;obtain ⟨x,rfl⟩:=Zww hf;exact ⟨x,rfl⟩
theorem Zbe {M:Mem} {n:Nat} {R:Segs} (h:Ty Tryz.prog M n 32 R):∃ x:(Sl Int),R=[.one x.val]∧SlK M (WC .i64) 1 x:=by
 have e:Tryz.prog.cellsOf 3=1:=by kernel_rfl
 obtain ⟨ad,rows,c,m,rfl,h2,h3,h5,h4⟩:=Ee Tryz.underlying32 (by rw [e];decide) h;obtain ⟨l,rfl,hl⟩:=KL (f:=(WC .i64)) (p:=fun y=>True) (fun r hr=>by
  obtain ⟨z,rfl,_⟩:=Zet Tryz.underlying3 (h4 r hr);exact ⟨z,rfl,trivial⟩)
 rw [e] at h2;exact ⟨⟨ad,c,l⟩,by simp [Sl.val],⟨h2,by simpa using h3,by simpa using h5⟩⟩
theorem JW {M:Mem} {n:Nat} {R:Segs} (h:Ty Tryz.prog M n 58 R):∃ x:Yk,R=x.segs∧Yk.ok M x:=by
 obtain ⟨k,Rs,rfl,hlen,hf⟩:=Zes Tryz.underlying58 h
 match Rs,hlen with
 | [r0,r1,r2],_ =>
  obtain ⟨x0,rfl,_⟩:=Zet Tryz.underlying3 (hf 0 _ r0 rfl rfl);obtain ⟨x1,rfl,_⟩:=Zet Tryz.underlying3 (hf 1 _ r1 rfl rfl);obtain ⟨x2,rfl,kx2⟩:=Zbe (hf 2 _ r2 rfl rfl);exact ⟨⟨x0,x1,x2⟩,rfl,⟨kx2⟩⟩
theorem sl_of_ty56 {M:Mem} {n:Nat} {R:Segs} (h:Ty Tryz.prog M n 56 R):∃ x:(Sl Yk),R=[.one x.val]∧SlK M Yk.segs 3 x∧∀ y∈x.l,Yk.ok M y:=by
 have e:Tryz.prog.cellsOf 58=3:=by kernel_rfl
 obtain ⟨ad,rows,c,m,rfl,h2,h3,h5,h4⟩:=Ee Tryz.underlying56 (by rw [e];decide) h;obtain ⟨l,rfl,hl⟩:=KL (f:=Yk.segs) (p:=fun y=>Yk.ok M y) (fun r hr=>by
  exact JW (h4 r hr))
 rw [e] at h2;exact ⟨⟨ad,c,l⟩,by simp [Sl.val],⟨h2,by simpa using h3,by simpa using h5⟩,hl⟩
end Go.Proofs.YtglnjnacodgmaaaGreatDoor
namespace Go.Proofs
open Go.Shelf
def Tryz.itoaM_ren:Go.Shelf.Ren:=⟨fun|171=>53|243=>94|246=>153|283=>195|284=>196|285=>197|286=>198|129=>135|317=>218|318=>219|319=>220|320=>221|337=>228|338=>229|n=>n,fun|3=>3|9=>9|2=>2|4=>4|171=>257|0=>0|53=>42|37=>202|5=>5|173=>259|212=>283|51=>152|20=>20|213=>284|46=>136|232=>295|233=>256|n=>n,fun|17=>0|18=>2|19=>3|n=>n⟩
theorem Tryz.itoaM:Go.Proofs.LaysM.n171 Tryz.prog Tryz.itoaM_ren:={
 mixed:=by kernel_rfl
 f129:=Tryz.func135.trans (congrArg some (by kernel_rfl))
 f171:=Tryz.func53.trans (congrArg some (by kernel_rfl))
 f243:=Tryz.func94.trans (congrArg some (by kernel_rfl))
 f246:=Tryz.func153.trans (congrArg some (by kernel_rfl))
 f283:=Tryz.func195.trans (congrArg some (by kernel_rfl))
 f284:=Tryz.func196.trans (congrArg some (by kernel_rfl))
 f285:=Tryz.func197.trans (congrArg some (by kernel_rfl))
 f286:=Tryz.func198.trans (congrArg some (by kernel_rfl))
 f317:=Tryz.func218.trans (congrArg some (by kernel_rfl))
 f318:=Tryz.func219.trans (congrArg some (by kernel_rfl))
 f319:=Tryz.func220.trans (congrArg some (by kernel_rfl))
 f320:=Tryz.func221.trans (congrArg some (by kernel_rfl))
 f337:=Tryz.func228.trans (congrArg some (by kernel_rfl))
 f338:=Tryz.func229.trans (congrArg some (by kernel_rfl))
 t0:=Tryz.underlying0
 a0:=Tryz.isAgg0
 z0:=Tryz.sizeOf0
 v0:=Tryz.zeroValue0
 t2:=Tryz.underlying2
 a2:=Tryz.isAgg2
 z2:=Tryz.sizeOf2
 v2:=Tryz.zeroValue2
 t3:=Tryz.underlying3
 a3:=Tryz.isAgg3
 z3:=Tryz.sizeOf3
 v3:=Tryz.zeroValue3
 t4:=Tryz.underlying4
 a4:=Tryz.isAgg4
 z4:=Tryz.sizeOf4
 v4:=Tryz.zeroValue4
 t5:=Tryz.underlying5
 a5:=Tryz.isAgg5
 z5:=Tryz.sizeOf5
 v5:=Tryz.zeroValue5
 t9:=Tryz.underlying9
 a9:=Tryz.isAgg9
 z9:=Tryz.sizeOf9
 v9:=Tryz.zeroValue9
 t20:=Tryz.underlying20
 a20:=Tryz.isAgg20
 z20:=Tryz.sizeOf20
 v20:=Tryz.zeroValue20
 t37:=Tryz.underlying202
 a37:=Tryz.isAgg202
 z37:=Tryz.sizeOf202
 v37:=Tryz.zeroValue202
 t46:=Tryz.underlying136
 a46:=Tryz.isAgg136
 z46:=Tryz.sizeOf136
 v46:=Tryz.zeroValue136
 t51:=Tryz.underlying152
 a51:=Tryz.isAgg152
 z51:=Tryz.sizeOf152
 v51:=Tryz.zeroValue152
 t53:=Tryz.underlying42
 a53:=Tryz.isAgg42
 z53:=Tryz.sizeOf42
 v53:=Tryz.zeroValue42
 t171:=Tryz.underlying257
 a171:=Tryz.isAgg257
 z171:=Tryz.sizeOf257
 v171:=Tryz.zeroValue257
 t173:=Tryz.underlying259
 a173:=Tryz.isAgg259
 z173:=Tryz.sizeOf259
 v173:=Tryz.zeroValue259
 t212:=Tryz.underlying283
 a212:=Tryz.isAgg283
 z212:=Tryz.sizeOf283
 v212:=Tryz.zeroValue283
 t213:=Tryz.underlying284
 a213:=Tryz.isAgg284
 z213:=Tryz.sizeOf284
 t232:=Tryz.underlying295
 a232:=Tryz.isAgg295
 z232:=Tryz.sizeOf295
 v232:=Tryz.zeroValue295
 t233:=Tryz.underlying256
 a233:=Tryz.isAgg256
 z233:=Tryz.sizeOf256
 v233:=Tryz.zeroValue256
 g17:=by kernel_rfl
 g18:=by kernel_rfl
 g19:=by kernel_rfl
 i0:=by kernel_rfl
 i2:=by kernel_rfl
 i3:=by kernel_rfl
 i4:=by kernel_rfl
 i5:=by kernel_rfl
 i9:=by kernel_rfl
 i20:=by kernel_rfl
 i37:=by kernel_rfl
 i46:=by kernel_rfl
 i51:=by kernel_rfl
 i53:=by kernel_rfl
 i171:=by kernel_rfl
 i173:=by kernel_rfl
 i212:=by kernel_rfl
 i232:=by kernel_rfl
 i233:=by kernel_rfl
 m17:=by kernel_rfl
 m18:=by kernel_rfl
 m19:=by kernel_rfl }
end Go.Proofs
namespace Go.Esp
open Go.Proofs Go.Shelf Go.RowKit Go.Lib
def PowM (M : Mem) : Prop := ∃ g T fz, Tryz.prog.globalNamed "internal/strconv.uint64pow10" = some g ∧ M g = some (.cells (pow10Tab.map fun z => Value.int .u64 z).toArray T fz)
theorem PowM.mono {M M':Mem} (h:PowM M) (hm:M.le M'):PowM M':=by
 obtain ⟨g,T,fz,h1,h2⟩:=h;exact ⟨g,T,fz,h1,hm.1 _ _ h2⟩
theorem PowM.tab {M : Mem} {H : Hp} {w : World} (h : PowM M) (hw : St M H w) : TabIs Tryz.prog w "internal/strconv.uint64pow10" .u64 pow10Tab := by
 obtain ⟨g,T,fz,h1,h2⟩:=h;unfold TabIs World.var?;rw [h1];show (match w.heap[g]? with|some (.cells cs _ _)=>some cs|_=>none)=_;rw [hw.mem _ _ h2]
theorem PowM.of {W : World} (h : TabIs Tryz.prog W "internal/strconv.uint64pow10" .u64 pow10Tab) : PowM (QB W) := by
 unfold TabIs World.var? at h;cases hg : Tryz.prog.globalNamed "internal/strconv.uint64pow10" with
 | none=>rw [hg] at h;cases h
 | some g =>
  rw [hg] at h;replace h:(match W.heap[g]? with|some (.cells cs _ _)=>some cs|_=>none)=_:=h;split at h
  ·rename_i cs T fz hc;obtain rfl:=A5 h;exact ⟨g,T,fz,hg,hc⟩
  ·cases h
theorem St.grown {M:Mem} {H:Hp} {w:World} (h:St M H w) (k:Nat) (os:Array Obj):St M H (Sort.grow (w.drewN k) os):=by
 have hk:∀ b o,w.heap[b]?=some o→(w.heap++os)[b]?=some o:=fun b o hbo=>by
  obtain ⟨h1,h2⟩:=E4.1 hbo;rw [Array.getElem?_append_left h1];exact hbo
 exact ⟨fun b o hm=>hk b o (h.mem b o hm),fun b o hm=>hk b o (h.own b o hm),h.sep,h.nodup,h.io.1,h.io.2.1,h.io.2.2.1,H7 h.io.2.2.2 (Nat.le_add_right _ _)⟩
theorem Zqn (M:Mem) (hp:PowM M) (i:Nat) (hi:i≤999):Fs Tryz.prog (Tryz.itoaM_ren.f 171) [.int .i64 (i:Int)] M (fun v=>v=.string ⟨(decDigits i).toArray⟩):=fun H w hw =>
 (Any.strconv_Itoa Tryz.itoaM (i:Int) jD jD w (hp.tab hw)).mono fun e w' ⟨he,k,os,hw'⟩=>⟨_,he,hw'.symm ▸ hw.grown k os,by unfold itoa;rw [A4 jD];rfl⟩
end Go.Esp
namespace Go.Proofs.YtglnjnacodgmaaaGreatDoor
open Go.Esp
theorem pow_of {W : World} (h : laidMetH Tryz.prog [("math/bits.deBruijn32tab", Rows.laid_math_bits_deBruijn32tab), ("math/bits.deBruijn64tab", Rows.laid_math_bits_deBruijn64tab), ("internal/strconv.uint64pow10", Rows.laid_internal_strconv_uint64pow10)] W) : PowM (QB W) := by
 rw [MakeChecks.laidMetH_plain _ _ _ jI] at h;have h2 : laidMet Tryz.prog [("internal/strconv.uint64pow10", Lib.tabData .u64 Lib.pow10Tab)] W := h.tail.tail;obtain ⟨gi, hg⟩ : ∃ gi, Tryz.prog.globalNamed "internal/strconv.uint64pow10" = some gi := Option.isSome_iff_exists.1 jI;have hty:(Tryz.prog.globals[gi]?).map (·.type)=some 283:=by
  have h9 : (Tryz.prog.globalNamed "internal/strconv.uint64pow10").bind (fun gi => (Tryz.prog.globals[gi]?).map (·.type)) = some 283 := by kernel_rfl
  rw [hg] at h9;exact h9
 exact PowM.of (Lib.tabIs_of_head hg hty Tryz.underlying283 Tryz.underlying42 jI jI h2)
end Go.Proofs.YtglnjnacodgmaaaGreatDoor
