/-
  Texts of this claim, one behind the other: Core, Env, Ops, Fill, Rules, Slices, Slices2, Slices3, Maps, Lift, Range, Rules2, Rules3, Rules4, Api, Arr, Rules5, Short, Types, Opn, ItoaLM, ItoaG, Seat.
-/
import Derived.WalkKit
import Derived.Orders
import Derived.OrdersIn
import Derived.ProofKit
import Derived.OpenShut
import Derived.SizedLaws
import Derived.RangeFuncIn
import Derived.RangeFuncRecord
import Derived.RangeFuncLeaves
import Derived.DeepKeys
import Derived.Test.YtglnjnacodgmaaaGreatDoorRows
import Derived.Shelf.Strconv.Itoa3
import Derived.Ground.NamesProg
import Derived.Stop.LaidErr
import Derived.LaidHandle
import Derived.LaidLaws
import Derived.ChangeVars
import Derived.Stop.Joined
import Derived.LaidMore
import Derived.Lay
set_option linter.unusedSimpArgs false
set_option linter.unusedVariables false
set_option linter.unnecessarySimpa false
set_option maxRecDepth 8000
set_option maxHeartbeats 1000000
open Array renaming getElem?_eq_getElem → E8,getElem?_eq_some_iff → E4,length_toList → H6
open BitVec renaming eq_of_toNat_eq → J5
open Bool renaming and_eq_true → F1
open List renaming all_eq_true → E7,append_assoc → B5,append_nil → E0,cons_append → B4,drop_drop → E5,drop_eq_getElem_cons → G4,drop_take → J7,eq_nil_of_length_eq_zero → D4,findIdx_cons → G9,foldl_cons → G6,getElem?_append_left → F5,getElem?_append_right → G2,getElem?_eq_getElem → A7,getElem?_eq_some_iff → C4,getElem?_map → E6,getElem?_take → I1,getElem_mem → C1,length_append → B3,length_cons → C8,length_drop → F3,length_map → A8,length_nil → D5,length_take → D8,map_append → C6,map_cons → D3,map_map → I2,mem_append → B8,mem_append_left → C5,mem_append_right → D0,mem_cons → B7,mem_filter → F6,mem_map → C0,mem_of_getElem? → H8,mem_of_mem_take → F9,mem_range → G7,mem_singleton → B0,nil_append → B6,nodup_append → H3,nodup_cons → D9,nodup_nil → J1,pairwise_cons → D6,size_toArray → J2,take_add_one → C9,take_append_drop → F0,take_take → I3
open List.Mem renaming head → J3,tail → J6
open List.Perm renaming refl → I9
open List.cons renaming injEq → J9
open Nat renaming add_mul → F4,eq_of_beq_eq_true → F8,le_of_ble_eq_true → D1,le_refl → B9,le_trans → H7,lt_or_ge → C7,min_eq_left → I5,mod_eq_of_lt → E3,mod_lt → G5,mul_le_mul_right → D2,zero_add → F2,zero_le → C3
open Option renaming getD_some → F7,map_some → E9
open Option.some renaming inj → A5,injEq → G1
open Prod.mk renaming injEq → I8
namespace Go.Esp
theorem A4{c:Prop}{h:Decidable c}(n:¬c){α:Sort _}{t e:α}:ite c t e=e:=if_neg n
theorem A6{c:Prop}{h:Decidable c}(n:c){α:Sort _}{t e:α}:ite c t e=t:=if_pos n
theorem A9{α:Sort _}{β:Sort _}{a b:α}(f:α→β)(h:a=b):f a=f b:=congrArg f h
end Go.Esp
namespace Go.Esp
theorem jA{p:Prop}(h:p:=by repeat first|exact Rem.here _|exact Rem.two|apply Rem.skip|apply Rem.over):p:=h
theorem jB{p:Prop}(h:p:=by repeat first|exact J3 _|refine J6 _ ?_|refine D0 _ ?_):p:=h
theorem jC{p:Prop}(h:p:=by simp only[Zr.segs,ZK.segs,ZM.segs,ZI.segs,YD.segs,YQ.segs,XM.segs,YT.segs,ZW.segs,XF.segs,Yk.segs,cat,List.append_eq,B4,B6,E0,Segs.len,Seg.len,ZU]):p:=h
theorem jD{p:Prop}(h:p:=by omega):p:=h
theorem jE{p:Prop}(h:p:=by assumption):p:=h
theorem jF{p:Prop}(h:p:=by intro zz;first|exact B9 _|(simp only[WG,Wo,WW,cat,List.append_eq,B5,B4,B6,E0];omega)):p:=h
theorem jG{p:Prop}(h:p:=by constructor):p:=h
theorem jH{p:Prop}(h:p:=by repeat first|exact Upd.head|apply Upd.tail|apply Upd.over):p:=h
theorem jI{p:Prop}(h:p:=by kernel_rfl):p:=h
theorem jJ{p:Prop}(h:p:=by simp only[F7,Option.getD_none];omega):p:=h
theorem jK{p:Prop}(h:p:=by simp only[D3,List.map_nil] <;> rfl):p:=h
theorem jL{p:Prop}(h:p:=by((try simp only[cat,B4,B6,E0]);(repeat(first|exact YS|refine Xg ?_|(refine Yi ?_ ?_;rfl)));done)):p:=h
theorem jM{p:Prop}(h:p:=by decide):p:=h
theorem jN{p:Prop}(h:p:=by(refine VN ?_;(repeat(first|exact YS|refine Xg ?_|(refine Yi ?_ ?_;rfl)));done)):p:=h
theorem jO{p:Prop}(h:p:=by exact Mem.le.refl _):p:=h
theorem jP{p:Prop}(h:p:=by repeat first|exact J3 _|refine J6 _ ?_):p:=h
theorem jQ{p:Prop}(h:p:=by simp):p:=h
theorem jR{p:Prop}(h:p:=by exact Xr (⟨_,_⟩)):p:=h
theorem jS{p:Prop}(h:p:=by(rintro⟨q1,q2⟩;first|contradiction|(simp_all;done))):p:=h
theorem jT{p:Prop}(h:p:=by rintro⟨q1,⟨q2,q4⟩,q3⟩;replace q3:boot≠self_addr:=q3;rw[hae]at q1;omega):p:=h
theorem jU{p:Prop}(h:p:=by simp;omega):p:=h
theorem jV{p:Prop}(h:p:=by exact rfl):p:=h
theorem jW{p:Prop}(h:p:=by simp only[Option.getD_none,F7];omega):p:=h
theorem jX{p:Prop}(h:p:=by(simp;omega)):p:=h
theorem jY{p:Prop}(h:p:=by show _<256;omega):p:=h
theorem jZ{p:Prop}(h:p:=by(simp only[B3]at *;omega)):p:=h
theorem zA{p:Prop}(h:p:=by first|(simp;done)|(simp;omega)):p:=h
theorem zB{p:Prop}(h:p:=by simpa using ha.evs hx):p:=h
theorem zC{p:Prop}(h:p:=by rw[A8];omega):p:=h
theorem zD{p:Prop}(h:p:=by rintro⟨q1,q2,q3⟩;have q4:=hne.2 q1;omega):p:=h
theorem zF{p:Prop}(h:p:=by show Zp=true;simp_all):p:=h
theorem zG{p:Prop}(h:p:=by rw[hlk];refine Gc ?_;rintro⟨g1,g2,g3,g4⟩;simp_all[ZM.nd,ZK.tb]):p:=h
theorem zH{p:Prop}(h:p:=by rfl):p:=h
theorem zI{p:Prop}(h:p:=by exact VV rfl):p:=h
theorem zJ{p:Prop}(h:p:=by simp only[Option.getD_none];omega):p:=h
theorem zL{p:Prop}(h:p:=by simpa using h):p:=h
theorem zM{p:Prop}(h:p:=by simpa using hj):p:=h
theorem zN{p:Prop}(h:p:=by rw[hj];decide):p:=h
theorem zO{p:Prop}(h:p:=by rw[hfi];show(⟨fa,fi⟩:Zr)=⟨Za,Zb⟩;first|assumption|(simp_all;done)):p:=h
theorem zP{p:Prop}(h:p:=by simpa using hi):p:=h
theorem zQ{p:Prop}(h:p:=by simpa using hb):p:=h
theorem zR{p:Prop}(h:p:=by have:=hri.len;omega):p:=h
theorem zS{p:Prop}(h:p:=by(simp;done)):p:=h
theorem zT{p:Prop}(h:p:=by rw[← hri.isS];first|assumption|(simp_all;done)):p:=h
theorem zU{p:Prop}(h:p:=by simpa using ha):p:=h
theorem zV{p:Prop}(h:p:=by rw[e]):p:=h
theorem zW{p:Prop}(h:p:=by rw[hfi];show(⟨fa,fi⟩:Zr)≠⟨Za,Zb⟩;assumption):p:=h
theorem zX{p:Prop}(h:p:=by rw[hk];rfl):p:=h
theorem zY{p:Prop}(h:p:=by rw[ht]):p:=h
theorem zZ{p:Prop}(h:p:=by simp only[maxLen];omega):p:=h
theorem yA{p:Prop}(h:p:=by show(33:Int)≤0+((33:Nat):Int);decide):p:=h
theorem yB{p:Prop}(h:p:=by(repeat first|assumption|refine Mem.le.trans jE ?_)):p:=h
theorem yC{p:Prop}(h:p:=by rintro⟨g1,⟨g2,g3⟩,g4⟩;first|exact absurd g1 jE|omega|(rcases g4 with g4|g4;exact absurd g4 jE;exact absurd g4 jE)):p:=h
theorem yD{p:Prop}(h:p:=by unfold WO;rw[A4 (by rintro⟨g1,g2,g3⟩;first|exact absurd g1 jE|exact absurd g2 jE|(rcases g3 with g3|g3;exact absurd g3 jE;exact absurd g3 jE))];rfl):p:=h
theorem yE{p:Prop}(h:p:=by rintro⟨g1,g2,g3⟩;first|exact absurd g1 jE|omega):p:=h
theorem yG{p:Prop}(h:p:=by rintro⟨g1,g2,g3,g4⟩;first|exact absurd g1 jE|exact absurd g2 jE|omega):p:=h
theorem yH{p:Prop}(h:p:=by rintro⟨g1,g2,g3⟩;first|exact absurd g1 jE|exact absurd g2 jE|exact absurd jE g2|exact absurd jE g3|omega):p:=h
theorem yI{p:Prop}(h:p:=by intro u hu;exact Rf Zr.flat [x] u (by simpa using hu)):p:=h
theorem yJ{p:Prop}(h:p:=by first|exact MQ jD|exact A7 jD|exact rfl|exact MQ zA):p:=h
theorem yK{p:Prop}(h:p:=by exact .inl jE):p:=h
theorem yL{p:Prop}(h:p:=by repeat first|assumption|refine Mem.le.trans jE ?_):p:=h
theorem yM{p:Prop}(h:p:=by rintro(g1|g1);exact absurd g1 jE;exact g1 jE):p:=h
theorem yN{p:Prop}(h:p:=by exact Po jM jD):p:=h
end Go.Esp
namespace Go.Esp
structure Mem where
  cell:Nat→Option Obj
  os:Os
  tape:Nat→Question→Nat
  out:Array (Nat×ByteArray)
  dr:Nat
instance:CoeFun Mem (fun _=>Nat→Option Obj):=⟨Mem.cell⟩
abbrev Hp:=List (Nat×Obj)
def Mem.le(M M':Mem):Prop:=(∀ b o,M b=some o→M' b=some o)∧M'.os=M.os∧M'.tape=M.tape∧M'.out=M.out∧M'.dr=M.dr
theorem Mem.le.refl(M:Mem):M.le M:=⟨fun _ _ h=>h,rfl,rfl,rfl,rfl⟩
theorem Mem.le.loose{M M':Mem}(h:M.le M')(h0:M.dr=0):M'.dr=0:=h.2.2.2.2.trans h0
theorem Mem.le.trans{M M' g:Mem}(h:M.le M')(d:M'.le g):M.le g:=⟨fun b o hb=>d.1 b o (h.1 b o hb),d.2.1.trans h.2.1,d.2.2.1.trans h.2.2.1,d.2.2.2.1.trans h.2.2.2.1,d.2.2.2.2.trans h.2.2.2.2⟩
def SameIO(w w':World):Prop:=w'.os=w.os∧w'.tape=w.tape∧w'.output=w.output∧w.drawn≤w'.drawn
theorem SameIO.refl(w:World):SameIO w w:=⟨rfl,rfl,rfl,B9 _⟩
theorem SameIO.io{w d:World}(h:SameIO w d){M:Mem}(hm:w.os=M.os∧w.tape=M.tape∧w.output=M.out∧M.dr≤w.drawn):d.os=M.os∧d.tape=M.tape∧d.output=M.out∧M.dr≤d.drawn:=⟨h.1.trans hm.1,h.2.1.trans hm.2.1,h.2.2.1.trans hm.2.2.1,H7 hm.2.2.2 h.2.2.2⟩
structure St (M:Mem) (H:Hp) (w:World):Prop where
  mem:∀ b o,M b=some o→w.heap[b]?=some o
  own:∀ b o,(b,o)∈H→w.heap[b]?=some o
  sep:∀ b o,(b,o)∈H→M b=Option.none
  nodup:(H.map Prod.fst).Nodup
  io:w.os=M.os∧w.tape=M.tape∧w.output=M.out∧M.dr≤w.drawn
theorem St.heap{M:Mem}{H:Hp}{w g:World}(h:St M H w)(e:g.heap=w.heap)(d:SameIO w g):St M H g :=
 ⟨fun b o hb=>by rw[e];exact h.mem b o hb,fun b o hb=>by rw[e];exact h.own b o hb,h.sep,h.nodup,d.io h.io⟩
theorem St.tail{M:Mem}{x:Nat×Obj}{H:Hp}{w:World}(h:St M (x::H) w):St M H w :=
 ⟨h.mem,fun b o hb=>h.own b o (.tail _ hb),fun b o hb=>h.sep b o (.tail _ hb),(D9.1 h.nodup).2,h.io⟩
inductive Suf:Hp→Hp→Prop
  | refl (H:Hp):Suf H H
  | skip {H' H:Hp} {x:Nat×Obj}:Suf H' H→Suf H' (x::H)
  | keep {H' H:Hp} {x:Nat×Obj}:Suf H' H→Suf (x::H') (x::H)
theorem Suf.app:∀(Hd H:Hp),Suf H (Hd++H)
 | [],H=>.refl H
 | _::Hd,H=>.skip (Suf.app Hd H)
theorem Suf.sub{H' H:Hp}(h:Suf H' H):List.Sublist H' H:=by
 induction h with
 | refl=>exact List.Sublist.refl _
 | skip _ ih=>exact ih.cons _
 | keep _ ih=>exact ih.cons_cons _
theorem St.suf{M:Mem}{H H':Hp}{w:World}(h:St M H w)(hs:Suf H' H):St M H' w :=
 ⟨h.mem,fun b o hb=>h.own b o (hs.sub.subset hb),fun b o hb=>h.sep b o (hs.sub.subset hb),h.nodup.sublist (hs.sub.map _),h.io⟩
theorem St.lower{M M':Mem}{H:Hp}{w:World}(h:St M' H w)(hm:M.le M'):St M H w:=by
 refine⟨fun b o hb=>h.mem b o (hm.1 b o hb),h.own,fun b o hb=>?_,h.nodup,h.io.1.trans hm.2.1,h.io.2.1.trans hm.2.2.1,h.io.2.2.1.trans hm.2.2.2.1,H7 (Nat.le_of_eq hm.2.2.2.2.symm) h.io.2.2.2⟩;cases hM:M b with
 | none=>rfl
 | some o'=>have:=h.sep b o hb;rw[hm.1 b o' hM]at this;cases this
theorem St.lt{M:Mem}{H:Hp}{w:World}(h:St M H w){b:Nat}{o:Obj}(hb:(b,o)∈H):b<w.heap.size:=by
 have:=h.own b o hb;grind
theorem getElem?_push_lt{α:Type}{xs:Array α}{x:α}{i:Nat}{v:α}(h:xs[i]?=some v):(xs.push x)[i]?=some v:=by
 grind
theorem St.alloc{M:Mem}{H:Hp}{w:World}(h:St M H w)(o:Obj):St M ((w.heap.size,o)::H) (w.alloc o):=by
 refine⟨fun b o' hb=>getElem?_push_lt (h.mem b o' hb),fun b o' hb=>?_,fun b o' hb=>?_,?_,h.io⟩
 ·rcases B7.1 hb with e|hb
  ·cases e;exact Array.getElem?_push_size
  exact getElem?_push_lt (h.own b o' hb)
 ·rcases B7.1 hb with e|hb
  ·cases e;cases hM:M w.heap.size with
   | none=>rfl
   | some o'=>have:=(E4.1 (h.mem _ _ hM)).1;omega
  exact h.sep b o' hb
 rw[D3,D9];refine⟨fun hm=>?_,h.nodup⟩;obtain⟨⟨b,o'⟩,hb,d⟩:=C0.1 hm;have:=h.lt hb;grind
def Mem.add(M:Mem)(b:Nat)(o:Obj):Mem:={ M with cell:=fun c=>if c=b then some o else M c }
theorem Mem.add_le{M:Mem}{b:Nat}{o:Obj}(h:M b=Option.none):M.le (M.add b o):=by
 refine⟨fun c o' d=>?_,rfl,rfl,rfl,rfl⟩;by_cases e:c=b
 ·grind
 simp[Mem.add,e,d]
theorem Mem.add_self(M:Mem)(b:Nat)(o:Obj):M.add b o b=some o:=by simp[Mem.add]
theorem St.freeze{M:Mem}{H:Hp}{w:World}{b:Nat}{o:Obj}(h:St M ((b,o)::H) w):M.le (M.add b o)∧St (M.add b o) H w:=by
 have g:=D9.1 h.nodup;have j:=h.sep b o (.head _);refine⟨Mem.add_le j,fun c o' d=>?_,fun c o' d=>h.own c o' (.tail _ d),fun c o' d=>?_,g.2,h.io⟩
 ·simp only[Mem.add]at d;by_cases e:c=b
  ·subst e;simp at d;subst d;exact h.own c o (.head _)
  simp[e]at d;exact h.mem c o' d
 have hne:c≠b:=fun e=>g.1 (by subst e;exact C0.2 ⟨(c,o'),d,rfl⟩);simp[Mem.add,hne];exact h.sep c o' (.tail _ d)
theorem St.perm0{M:Mem}{H H':Hp}{w:World}(h:St M H w)(d:H.Perm H'):St M H' w :=
 ⟨h.mem,fun b o hb=>h.own b o (d.mem_iff.2 hb),fun b o hb=>h.sep b o (d.mem_iff.2 hb),(d.map _).nodup_iff.1 h.nodup,h.io⟩
theorem St.unframe{M:Mem}{F H:Hp}{w:World}(h:St M (F++H) w):St M H w:=h.suf (Suf.app F H)
structure As where
  M:Mem
  H:Hp
def As.st(A:As):World→Prop:=St A.M A.H
inductive Cls where
  | pure|read|eff|wr|new
  deriving DecidableEq
def Cls.strong:Cls→Bool
 | .eff | .wr | .new=>true
 | _=>false
def Runs(P:Program)(o:Oper)(a:Act)(w:World)(v:Value):Prop :=
 (execOp a.eval o).run P w=.ok (.value v) w∨((execOp a.eval o).run P w=.ok .skip w∧v=undef)
theorem Runs.unique{P:Program}{o:Oper}{a:Act}{w:World}{u v:Value}(h:Runs P o a w u)(d:Runs P o a w v):u=v:=by
 rcases h with h|⟨h,rfl⟩ <;> rcases d with d|⟨d,rfl⟩ <;> rw[h]at d <;> simp_all
def Fr(ro:Option Nat):Fence:={ Fence.wide with round:=ro }
def Oper.does(P:Program)(o:Oper)(a:Act)(w:World)(K:Value→World→Prop):Prop :=
 match (execOp a.eval o).run P w with
 | .ok (.value v) w'=>K v w'
 | .ok .skip w'=>K undef w'
 | .ok (.enter f args) w'=>Calls P f args w' fun e w''=>∃ v,e=.returned v∧K v w''
 | .ok (.row row args) w'=>Rows P row args w' K
 | .ok (.round l f tmps assign body) w'=>RoundIn (Fr none) 0 P l f tmps assign body w' fun e w''=>∃ v,e=.returned v∧K v w''
 | _=>False
def News(P:Program)(o:Oper)(a:Act)(x:Obj)(g:Nat→Value):Prop :=
 ∀ w:World,(execOp a.eval o).run P w=.ok (.value (g w.heap.size)) (w.alloc x)
def WD(P:Program)(ops:Array Oper)(cl:Nat→Cls)(Q:Exit→Act→World→Prop):List Nat→(J:World→Prop)→(A:As)→Act→Prop
 | [],_,A,a=>∀ w,A.st w→Q .normal a w
 | i::rest,J,A,a=>∃ o,ops[i]?=some o ∧
  ((Region.wanted o (yielded ops a.tmps)=false∧WD P ops cl Q rest J A (a.put o.dst undef)) ∨
   (Region.wanted o (yielded ops a.tmps)=true ∧
    match cl i with
    | .pure=>∃ v,(∀ w,Runs P o a w v)∧WD P ops cl Q rest J A (a.put o.dst v)
    | .read=>∃ v,(∀ w,J w→Runs P o a w v)∧WD P ops cl Q rest J A (a.put o.dst v)
    | .eff=>∀ F w,St A.M (F++A.H) w→Oper.does P o a w (fun v w'=>∃ A':As,St A'.M (F++A'.H) w'∧(∀ u,A'.st u→J u)∧WD P ops cl Q rest J A' (a.put o.dst v))
    | .new=>∃ x g,News P o a x g∧∀ b,(∃ w,St A.M ((b,x)::A.H) w)→WD P ops cl Q rest J ⟨A.M,(b,x)::A.H⟩ (a.put o.dst (g b))
    | .wr=>∀ w,A.st w→Oper.does P o a w (fun v w'=>∃(J':World→Prop) (A':As),A'.st w'∧(∀ u,A'.st u→J' u)∧WD P ops cl Q rest J' A' (a.put o.dst v))))
section
variable {P:Program} {ops:Array Oper} {cl:Nat→Cls} {Q:Exit→Act→World→Prop} {md:Region.Mode}
theorem Oper.does_mono{o:Oper}{a:Act}{w:World}{K j:Value→World→Prop}(h:∀ v w,K v w→j v w)(d:Oper.does P o a w K):Oper.does P o a w j:=by
 unfold Oper.does at *;split at d <;> first
  | exact h _ _ d
  | exact Calls.mono d fun e g ⟨v,he,hk⟩=>⟨v,he,h _ _ hk⟩
  | exact Rows.mono d h
  | exact RoundIn.mono d fun e g ⟨v,he,hk⟩=>⟨v,he,h _ _ hk⟩
  | exact d.elim
theorem Oper.does_some{o:Oper}{a:Act}{w:World}{K:Value→World→Prop}(d:Oper.does P o a w K):∃ v j,K v j:=by
 unfold Oper.does at d;split at d
 ·grind
 ·grind
 ·obtain⟨e,g,y,⟨v,_,hk⟩,_⟩:=d [];grind
 ·obtain⟨v,g,B,_⟩:=d default [];grind
 ·obtain⟨e,g,⟨v,_,hk⟩,_⟩:=d.2 default [] (room_wide _);grind
 exact d.elim
theorem Lq{ro:Option Nat}{m:Nat}{f:FuncId}{args:Array Value}{w:World}{R:Ending→World→Prop}:CallsIn (Fr ro) m P f args w R↔Calls P f args w R:=by
 rw[← callsIn_wide (n:=m)];rfl
theorem Zfq{ro:Option Nat}{m:Nat}{row:String}{args:Array Value}{w:World}{R:Value→World→Prop}(h:Rows P row args w R):RowsIn (Fr ro) m P row args w R:=by
 intro c cs _;obtain⟨v,g,d,hs⟩:=h c cs;exact⟨v,g,d,(StepsIn.of_steps hs).mono fun m _=>fenced_wide P m⟩
theorem Zbl{ro:Option Nat}{m l:Nat}{f:FuncId}{tmps:Array Value}{assign body:Code}{w:World}{R:Ending→World→Prop}(h:RoundIn (Fr none) 0 P l f tmps assign body w R):RoundIn (Fr ro) m P l f tmps assign body w R :=
 ⟨trivial,fun c cs _=>h.2 c cs (room_wide _)⟩
theorem Zdc{o:Oper}{a:Act}{w:World}{K:Value→World→Prop}(ro:Option Nat)(h:Oper.does P o a w K):(o.semAt ro a.eval).run P w=(execOp a.eval o).run P w:=by
 rw[Oper.semAt_eq ro a.eval o];intro c y;have:∀ r,(execOp a.eval o).run P w=r→(match r with | .ok (.value v) w'=>K v w' | .ok .skip w'=>K undef w' | .ok (.enter f args) w'=>Calls P f args w' fun e g=>∃ v,e=.returned v∧K v g | .ok (.row row args) w'=>Rows P row args w' K | .ok (.round l f tmps assign body) w'=>RoundIn (Fr none) 0 P l f tmps assign body w' fun e g=>∃ v,e=.returned v∧K v g|_=>False):=fun r j=>by subst j;exact h
 have d:=this _ rfl;simp only[execOp,y]at d;rw[Sem.run_bind]at d;cases hres:(resolve a.eval c o.type).run P w <;> rw[hres]at d <;> exact d
theorem Oper.wpIn_of_does{ro:Option Nat}{m:Nat}{o:Oper}{a:Act}{w:World}{K:Act→World→Prop}(g:Oper.does P o a w fun v j=>K (a.put o.dst v) j):o.wpIn (Fr ro) m P a w K Q:=by
 refine⟨fun _ _=>trivial,?_⟩;have hs:=Zdc ro g;show o.uponIn (Fr ro) m P a K Q ((o.semAt ro a.eval).run P w);rw[hs];unfold Oper.does at g;generalize (execOp a.eval o).run P w=r at g;cases r with
 | ok x j =>
  cases x <;> simp only[Oper.uponIn]at g ⊢
  case value u=>exact g
  case skip=>exact g
  case enter f args =>
   refine⟨fun h=>(by cases h),Lq.2 (Calls.mono g fun e d ⟨v,he,hk⟩=>?_)⟩;subst he;exact hk
  case row row args=>exact⟨fun h=>(by cases h),Zfq g⟩
  case round l f tmps assign body =>
   refine⟨fun h=>(by cases h),?_⟩;have h1:RoundIn (Fr none) 0 P l f tmps assign body j fun | .returned v,d=>K (a.put o.dst v) d | .panicked chain,d=>Q (.panic chain) a d | .outgrown,_=>LetsOut Q:=RoundIn.mono g fun e d ⟨v,he,hk⟩=>by subst he;exact hk
   exact Zbl h1
 | halt x j=>exact g.elim
theorem Runs.does{o:Oper}{a:Act}{w:World}{v:Value}(h:Runs P o a w v){K:Value→World→Prop}(hk:K v w):Oper.does P o a w K:=by
 unfold Oper.does;rcases h with h|⟨h,rfl⟩ <;> rw[h] <;> exact hk
theorem Runs.wpIn{ro:Option Nat}{m:Nat}{o:Oper}{a:Act}{w:World}{v:Value}(h:Runs P o a w v){K:Act→World→Prop}(hk:K (a.put o.dst v) w):o.wpIn (Fr ro) m P a w K Q :=
 Oper.wpIn_of_does (h.does hk)
theorem News.does{o:Oper}{a:Act}{x:Obj}{g:Nat→Value}{w:World}(h:News P o a x g){K:Value→World→Prop}(hk:K (g w.heap.size) (w.alloc x)):Oper.does P o a w K:=by
 unfold Oper.does;rw[h w];exact hk
theorem Oper.does_put{o:Oper}(hs:∀ cs b,o.op≠.select cs b){a:Act}{w:World}{d:Option Tmp}{u:Value}(h:∀ t,d=some t→t∉o.looksAt ops){K:Value→World→Prop}:
 Oper.does P o (a.put d u) w K↔Oper.does P o a w K:=by
 unfold Oper.does;rw[execOp_put o hs a d u h]
theorem Runs.put{o:Oper}(hs:∀ cs b,o.op≠.select cs b){a:Act}{w:World}{d:Option Tmp}{u v:Value}(h:∀ t,d=some t→t∉o.looksAt ops):
 Runs P o (a.put d u) w v↔Runs P o a w v:=by
 unfold Runs;rw[execOp_put o hs a d u h]
def HY:Cls→Cls→Bool
 | .pure,_=>true
 | .read,.wr=>false
 | .read,_=>true
 | .eff,.pure | .eff,.read | .eff,.new=>true
 | .new,.pure | .new,.read | .new,.new=>true
 | .wr,.pure=>true
 | _,_=>false
def stepD(P:Program)(ops:Array Oper)(c:Cls)(o:Oper)(a:Act)(J:World→Prop)(A:As)(K:(World→Prop)→As→Act→Prop):Prop :=
 (Region.wanted o (yielded ops a.tmps)=false∧K J A (a.put o.dst undef)) ∨
 (Region.wanted o (yielded ops a.tmps)=true ∧
  match c with
  | .pure=>∃ v,(∀ w,Runs P o a w v)∧K J A (a.put o.dst v)
  | .read=>∃ v,(∀ w,J w→Runs P o a w v)∧K J A (a.put o.dst v)
  | .eff=>∀ F w,St A.M (F++A.H) w→Oper.does P o a w (fun v w'=>∃ A':As,St A'.M (F++A'.H) w'∧(∀ u,A'.st u→J u)∧K J A' (a.put o.dst v))
  | .new=>∃ x g,News P o a x g∧∀ b,(∃ w,St A.M ((b,x)::A.H) w)→K J ⟨A.M,(b,x)::A.H⟩ (a.put o.dst (g b))
  | .wr=>∀ w,A.st w→Oper.does P o a w (fun v w'=>∃(J':World→Prop) (A':As),A'.st w'∧(∀ u,A'.st u→J' u)∧K J' A' (a.put o.dst v)))
theorem Tn{i:Nat}{o:Oper}(hi:ops[i]?=some o){rest:List Nat}{J:World→Prop}{A:As}{a:Act}:
 WD P ops cl Q (i::rest) J A a↔stepD P ops (cl i) o a J A (WD P ops cl Q rest):=by
 constructor
 ·rintro⟨o',d,h⟩;obtain rfl:o'=o:=A5 (d.symm.trans hi);exact h
 intro h;exact⟨o,hi,h⟩
theorem stepD.mono{c:Cls}{o:Oper}{a:Act}{J:World→Prop}{A:As}{K B:(World→Prop)→As→Act→Prop}(j:∀ u,A.st u→J u)
 (h:∀ d A' v,(∀ u,As.st A' u→d u)→((∃ w,A.st w)→∃ w,As.st A' w)→(c≠.wr→d=J)→K d A' (a.put o.dst v)→B d A' (a.put o.dst v)) (D:stepD P ops c o a J A K):stepD P ops c o a J A B:=by
 rcases D with⟨hw,hk⟩|⟨hw,hk⟩
 ·exact .inl ⟨hw,h _ _ _ j id (fun _=>rfl) hk⟩
 refine .inr ⟨hw,?_⟩;cases c <;> simp only at hk ⊢
 ·grind
 ·grind
 ·intro F w hw;exact Oper.does_mono (fun v y ⟨A',s1,s2,hk⟩=>⟨A',s1,s2,h _ _ _ s2 (fun _=>⟨y,s1.unframe⟩) (fun _=>rfl) hk⟩) (hk F w hw)
 ·intro w hw;exact Oper.does_mono (fun v y ⟨d,A',s1,s2,hk⟩=>⟨d,A',s1,s2,h _ _ _ s2 (fun _=>⟨y,s1⟩) (fun C=>(C rfl).elim) hk⟩) (hk w hw)
 obtain⟨x,g,hx,hk⟩:=hk;exact⟨x,g,hx,fun b hb=>h _ _ _ (fun u hu=>j u (St.tail hu)) (fun _=>hb) (fun _=>rfl) (hk b hb)⟩
theorem News.put{o:Oper}(hs:∀ cs b,o.op≠.select cs b){a:Act}{d:Option Tmp}{u:Value}{x:Obj}{g:Nat→Value}(h:∀ t,d=some t→t∉o.looksAt ops):News P o (a.put d u) x g↔News P o a x g:=by
 unfold News;rw[execOp_put o hs a d u h]
theorem News.unique{o:Oper}{a:Act}{x y:Obj}{g j:Nat→Value}(w:World)(h:News P o a x g)(d:News P o a y j):x=y:=by
 have e:=(h w).symm.trans (d w);have v:(w.alloc x).heap=(w.alloc y).heap:=by
  have:=Result.ok.inj e;exact A9 World.heap this.2
 have B:(w.heap.push x)[w.heap.size]?=(w.heap.push y)[w.heap.size]?:=A9 (fun h:Array Obj=>h[w.heap.size]?) v;grind
theorem News.uniqueV{o:Oper}{a:Act}{x y:Obj}{g d:Nat→Value}(w:World)(h:News P o a x g)(j:News P o a y d)(b:Nat):g b=d b:=by
 have e:=(h { w with heap:=Array.replicate b x }).symm.trans (j { w with heap:=Array.replicate b x });grind
theorem stepD.put{c:Cls}{o:Oper}(hs:∀ cs b,o.op≠.select cs b){a:Act}{d:Option Tmp}{u:Value}(h1:∀ t,d=some t→t∉o.looksAt ops)(h2:∀ t,d=some t→o.dst≠some t)
 {J:World→Prop} {A:As} {K:(World→Prop)→As→Act→Prop}:stepD P ops c o (a.put d u) J A K↔stepD P ops c o a J A (fun J A a=>K J A (a.put d u)):=by
 unfold stepD;simp only[wanted_put o a d u h1,Runs.put hs h1,Oper.does_put hs h1,News.put hs h1];have g:∀ v,(a.put d u).put o.dst v=(a.put o.dst v).put d u:=fun v=>Act.put_comm a u v h2;simp only[g]
def knows(P:Program)(ops:Array Oper)(c:Cls)(o:Oper)(a:Act)(J:World→Prop)(v:Value):Prop :=
 (Region.wanted o (yielded ops a.tmps)=false∧v=undef)∨(Region.wanted o (yielded ops a.tmps)=true∧((c=.pure∧∀ w,Runs P o a w v)∨(c=.read∧∀ w,J w→Runs P o a w v)))
theorem stepD.weak{c:Cls}(g:c.strong=false){o:Oper}{a:Act}{J:World→Prop}{A:As}{K:(World→Prop)→As→Act→Prop}:
 stepD P ops c o a J A K↔∃ v,knows P ops c o a J v∧K J A (a.put o.dst v):=by
 constructor
 ·rintro(⟨hw,hk⟩|⟨hw,hk⟩)
  ·exact⟨_,.inl ⟨hw,rfl⟩,hk⟩
  cases c <;> simp only[Cls.strong]at g <;> simp only at hk
  ·obtain⟨v,d,hk⟩:=hk;exact⟨v,.inr ⟨hw,.inl ⟨rfl,d⟩⟩,hk⟩
  ·obtain⟨v,d,hk⟩:=hk;exact⟨v,.inr ⟨hw,.inr ⟨rfl,d⟩⟩,hk⟩
  ·cases g
  ·cases g
  cases g
 rintro⟨v,(⟨hw,rfl⟩|⟨hw,⟨rfl,d⟩|⟨rfl,d⟩⟩),hk⟩
 ·exact .inl ⟨hw,hk⟩
 ·exact .inr ⟨hw,v,d,hk⟩
 exact .inr ⟨hw,v,d,hk⟩
theorem knows.put{c:Cls}{o:Oper}(hs:∀ cs b,o.op≠.select cs b){a:Act}{d:Option Tmp}{u:Value}(h1:∀ t,d=some t→t∉o.looksAt ops){J:World→Prop}{v:Value}:
 knows P ops c o (a.put d u) J v↔knows P ops c o a J v:=by
 unfold knows;simp only[wanted_put o a d u h1,Runs.put hs h1]
theorem knows.unique{c:Cls}{o:Oper}{a:Act}{J y:World→Prop}{w:World}(hw:J w)(B:c=.read→y w){u v:Value}(h:knows P ops c o a J u)(d:knows P ops c o a y v):u=v:=by
 rcases h with⟨h0,rfl⟩|⟨h0,h⟩ <;> rcases d with⟨g,rfl⟩|⟨g,d⟩
 ·rfl
 ·grind
 ·grind
 rcases h with⟨rfl,h⟩|⟨rfl,h⟩ <;> rcases d with⟨j,d⟩|⟨j,d⟩
 ·exact Runs.unique (h w) (d w)
 ·cases j
 ·cases j
 exact Runs.unique (h w hw) (d w (B rfl))
theorem knows.pureJ{o:Oper}{a:Act}{J d:World→Prop}{v:Value}(h:knows P ops .pure o a J v):knows P ops .pure o a d v:=by
 rcases h with h|⟨h0,⟨h1,h2⟩|⟨h1,_⟩⟩
 ·exact .inl h
 ·exact .inr ⟨h0,.inl ⟨h1,h2⟩⟩
 cases h1
theorem WD.perm:∀{l:List Nat} {J:World→Prop} {A A':As} {a:Act},A'.M=A.M→A.H.Perm A'.H→WD P ops cl Q l J A a→WD P ops cl Q l J A' a
 | [],J,A,A',a,e,hp,h=>fun w hw=>h w (by
  have:St A'.M A'.H w:=hw;rw[e]at this;exact this.perm0 hp.symm)
 | i::rest,J,A,A',a,e,hp,h=>by
  obtain⟨o,j,h⟩:=h;refine⟨o,j,?_⟩;rcases h with⟨hw,hk⟩|⟨hw,hk⟩
  ·exact .inl ⟨hw,WD.perm e hp hk⟩
  refine .inr ⟨hw,?_⟩;cases hc:cl i <;> rw[hc]at hk <;> simp only at hk ⊢
  ·obtain⟨v,d,hk⟩:=hk;exact⟨v,d,WD.perm e hp hk⟩
  ·obtain⟨v,d,hk⟩:=hk;exact⟨v,d,WD.perm e hp hk⟩
  ·intro F w hw;rw[e]at hw;exact hk F w (hw.perm0 (hp.symm.append_left F))
  ·intro w hw;refine hk w ?_;have:St A'.M A'.H w:=hw;rw[e]at this;exact this.perm0 hp.symm
  obtain⟨x,g,hx,hk⟩:=hk;refine⟨x,g,hx,fun b hb=>?_⟩;refine WD.perm (A:=⟨A.M,(b,x)::A.H⟩) e (hp.cons _) (hk b ?_);obtain⟨w,hw⟩:=hb;rw[e]at hw;exact⟨w,hw.perm0 (hp.symm.cons _)⟩
theorem WD.swap{x i:Nat}{rest:List Nat}{R Z:Oper}(hx:ops[x]?=some R)(hi:ops[i]?=some Z)
 (ab:∀ cs b,R.op≠.select cs b) (C:∀ cs b,Z.op≠.select cs b) (a6:R.apart ops Z=true) (ai:HY (cl x) (cl i)=true)
 {J:World→Prop} {A:As} {a:Act} (B:∀ u,A.st u→J u) (hne:∃ w,A.st w) (h:WD P ops cl Q (x::i::rest) J A a):WD P ops cl Q (i::x::rest) J A a:=by
 obtain⟨h1,h2,h3⟩:=Oper.apart_spec a6;have h4:∀ d,Z.dst=some d→R.dst≠some d:=fun d hd he=>h2 d he hd;have cm:∀(a:Act) u v,(a.put R.dst u).put Z.dst v=(a.put Z.dst v).put R.dst u:=fun a u v=>Act.put_comm a u v h2;rw[Tn hx]at h;rw[Tn hi];cases hcx:(cl x).strong with
 | false =>
  rw[stepD.weak hcx]at h;obtain⟨v,hv,h⟩:=h;rw[Tn hi,stepD.put C h1 h2]at h;refine stepD.mono B ?_ h;intro D A' u hs' O T j;rw[Tn hx,stepD.weak hcx];refine⟨v,(knows.put ab h3).2 ?_,j⟩;cases hc:cl x <;> rw[hc]at hcx hv ai
  ·exact hv.pureJ
  ·have:cl i≠.wr:=fun e=>by rw[e]at ai;cases ai
   rw[T this];exact hv
  ·cases hcx
  ·cases hcx
  cases hcx
 | true =>
  obtain⟨J0,A0,u0,bc,⟨w0,ba⟩,ak,V⟩:∃ D A' u,(∀ z,As.st A' z→D z)∧(∃ w,As.st A' w)∧(cl x≠.wr→D=J)∧WD P ops cl Q (i::rest) D A' (a.put R.dst u):=by
   rcases h with⟨_,hk⟩|⟨_,hk⟩
   ·exact⟨J,A,_,B,hne,fun _=>rfl,hk⟩
   obtain⟨w,hw⟩:=hne;cases hc:cl x <;> rw[hc]at hcx hk <;> simp only at hk
   ·cases hcx
   ·cases hcx
   ·obtain⟨v,w',A',s1,s2,hk⟩:=Oper.does_some (hk [] w hw);exact⟨J,A',v,s2,⟨w',s1⟩,fun _=>rfl,hk⟩
   ·obtain⟨v,w',D,A',s1,s2,hk⟩:=Oper.does_some (hk w hw);exact⟨D,A',v,s2,⟨w',s1⟩,fun hn=>(hn rfl).elim,hk⟩
   obtain⟨y,gx,U,hk⟩:=hk;have hn:St A.M ((w.heap.size,y)::A.H) (w.alloc y):=St.alloc hw y;exact⟨J,⟨A.M,(w.heap.size,y)::A.H⟩,_,fun z hz=>B z (St.tail hz),⟨_,hn⟩,fun _=>rfl,hk _ ⟨_,hn⟩⟩
  cases hci:(cl i).strong with
  | false =>
   have L:cl x=.wr→cl i=.pure:=by
    cases hh:cl x <;> cases hh':cl i <;> simp_all[HY,Cls.strong]
   rw[Tn hi,stepD.weak hci]at V;obtain⟨v,az,_⟩:=V;have aa:=(knows.put C h1).1 az;have hv:knows P ops (cl i) Z a J v:=by
    by_cases hm:cl x=.wr
    ·rw[L hm]at aa ⊢;exact aa.pureJ
    rw[ak hm]at aa;exact aa
   rw[stepD.weak hci];refine⟨v,hv,?_⟩;rw[Tn hx,stepD.put ab h3 h4];refine stepD.mono B ?_ h;intro D A' u hs' O T j;rw[Tn hi,stepD.weak hci]at j;obtain⟨v',a1,j⟩:=j;have aj:=(knows.put C h1).1 a1;obtain⟨w1,an⟩:=O hne;have e:v'=v:=knows.unique (hs' _ an) (fun hc=>by
    by_cases hm:cl x=.wr
    ·rw[L hm]at hc;cases hc
    rw[← T hm];exact hs' _ an) aj hv
   subst e;exact j
  | true =>
   have aw:cl i=.new∧(cl x=.eff∨cl x=.new):=by
    cases hh:cl x <;> cases hh':cl i <;> simp_all[HY,Cls.strong]
   obtain⟨ag,ao⟩:=aw;have a8:J0=J:=ak (by rcases ao with e|e <;> rw[e] <;> decide);rw[Tn hi,stepD.put C h1 h2,ag]at V;rw[ag];rcases V with⟨K,_⟩|⟨K,y,gi,U,_⟩
   ·refine .inl ⟨K,?_⟩;rw[Tn hx,stepD.put ab h3 h4];refine stepD.mono B ?_ h;intro D A' u hs' O T j;rw[Tn hi,stepD.put C h1 h2]at j;rcases j with⟨_,j⟩|⟨g,_⟩
    ·exact(cm a u undef) ▸ j
    rw[K]at g;cases g
   refine .inr ⟨K,y,gi,U,fun b hb=>?_⟩;rw[Tn hx,stepD.put ab h3 h4];have key:∀ D A' v,(∀ u,As.st A' u→D u)→(∃ w,St A'.M ((b,y)::A'.H) w)→WD P ops cl Q (i::rest) D A' (a.put R.dst v)→WD P ops cl Q rest D ⟨A'.M,(b,y)::A'.H⟩ ((a.put R.dst v).put Z.dst (gi b)):=by
    intro D A' v hs' O j;rw[Tn hi,ag]at j;rcases j with⟨g,_⟩|⟨_,a7,bb,ae,j⟩
    ·rw[wanted_put Z a R.dst v h1,K]at g;cases g
    have e:a7=y:=News.unique w0 ((News.put C h1).1 ae) U;subst e;rw[← News.uniqueV w0 ((News.put C h1).1 ae) U b];exact j b O
   rcases h with⟨ah,hk⟩|⟨ah,hk⟩
   ·refine .inl ⟨ah,?_⟩;exact key _ _ _ B hb hk
   refine .inr ⟨ah,?_⟩;rcases ao with aq|aq <;> rw[aq]at hk ⊢ <;> simp only at hk ⊢
   ·intro F w hw;have ad:St A.M ((F++[(b,y)])++A.H) w:=by simpa using hw
    refine Oper.does_mono (fun v w' ⟨A',s1,s2,hk⟩=>?_) (hk (F++[(b,y)]) w ad);have al:St A'.M (F++((b,y)::A'.H)) w':=by simpa using s1
    refine⟨⟨A'.M,(b,y)::A'.H⟩,al,fun u hu=>s2 u (St.tail hu),?_⟩;exact key _ _ _ s2 ⟨w',al.unframe⟩ hk
   obtain⟨yo,gy,au,hk⟩:=hk;refine⟨yo,gy,au,fun b2 ay=>?_⟩;obtain⟨w2,ad⟩:=ay;have ar:St A.M ((b2,yo)::A.H) w2:=ad.suf (.keep (.skip (.refl _)));have ax:St A.M ((b,y)::(b2,yo)::A.H) w2:=ad.perm0 (List.Perm.swap _ _ _);have:=key _ ⟨A.M,(b2,yo)::A.H⟩ _ (fun u hu=>B u (St.tail hu)) ⟨w2,ax⟩ (hk b2 ⟨w2,ar⟩);exact WD.perm (A:=⟨A.M,(b,y)::(b2,yo)::A.H⟩) rfl (List.Perm.swap _ _ _) this
def Zgo(ops:Array Oper)(B:Array Nat):Bool :=
 (List.range ops.size).all fun j=>match ops[j]? with
  | none=>false
  | some o=>(o.after.all fun e=>!Region.binds .any e || decide (e.on<j)) &&
   B.getD j 0 == o.after.foldl (fun s e=>if Region.binds .any e then s ||| 2 ^ e.on ||| B.getD e.on 0 else s) 0
def Zsv(ops:Array Oper)(cl:Nat→Cls)(B:Array Nat):Bool :=
 (List.range ops.size).all fun j=>(List.range j).all fun i =>
  (B.getD j 0).testBit i || (match ops[i]?,ops[j]? with|some oi,some oj=>oi.apart ops oj && HY (cl i) (cl j)|_,_=>false)
def Ri(ops:Array Oper)(cl:Nat→Cls)(B:Array Nat):Bool:=Region.noSelect ops && Zgo ops B && Zsv ops cl B
theorem Dp{B:Array Nat}{i:Nat}:∀(l:List Edge) (s:Nat),
 (l.foldl (fun s e=>if Region.binds .any e then s ||| 2 ^ e.on ||| B.getD e.on 0 else s) s).testBit i=true →
 s.testBit i=true∨∃ e∈l,Region.binds .any e=true∧(e.on=i∨(B.getD e.on 0).testBit i=true)
 | [],s,h=>.inl h
 | e::l,s,h=>by
  rw[G6]at h;rcases Dp l _ h with h|⟨e',he,hb,d⟩
  ·split at h
   ·rename_i hb;rw[Nat.testBit_or,Nat.testBit_or,Nat.testBit_two_pow,Bool.or_eq_true,Bool.or_eq_true]at h;rcases h with(h|h)|h
    ·exact .inl h
    ·exact .inr ⟨e,.head _,hb,.inl zL⟩
    exact .inr ⟨e,.head _,hb,.inr h⟩
   exact .inl h
  exact .inr ⟨e',.tail _ he,hb,d⟩
structure Closed (ops:Array Oper) (listed:Array Bool):Prop where
  size:listed.size=ops.size
  closed:∀ j oj,ops[j]?=some oj→listed.getD j false=true→∀ e∈oj.after,Region.binds .any e=true→listed.getD e.on false=true
theorem EI{B:Array Nat}(h:Zgo ops B=true){listed:Array Bool}(R:Closed ops listed):
 ∀(n j i:Nat),j≤n→(B.getD j 0).testBit i=true→(listed.getD j false=true∨∃ d,ops[j]?=some d∧∀ e∈d.after,Region.binds .any e=true→listed.getD e.on false=true)→j<ops.size→listed.getD i false=true:=by
 intro n
 induction n using Nat.strongRecOn with
 | _ n ih =>
  intro j i hj hb F C;have h1:=E7.1 h j (G7.2 C);obtain⟨d,g⟩:∃ d,ops[j]?=some d:=⟨ops[j],E8 C⟩
  simp only[g,F1,beq_iff_eq]at h1;obtain⟨h2,h3⟩:=h1;rw[h3,← Array.foldl_toList]at hb;have v:∀ e∈d.after,Region.binds .any e=true→listed.getD e.on false=true:=by
   rcases F with F|⟨o',K,F⟩
   ·exact R.closed j d g F
   obtain rfl:o'=d:=A5 (K.symm.trans g);exact F
  rcases Dp _ _ hb with h0|⟨e,he,D,L⟩
  ·simp at h0
  have y:=v e (Array.mem_toList_iff.1 he) D;have O:e.on<j:=by simpa[D]using(Array.all_eq_true_iff_forall_mem.1 h2) e (Array.mem_toList_iff.1 he)
  rcases L with rfl|L
  ·exact y
  exact ih e.on jD e.on i (B9 _) L (.inl y) jD
theorem Closed.set{listed:Array Bool}(v:Closed ops listed){i:Nat}(hi:i∈Region.ready .any ops listed):Closed ops (listed.setIfInBounds i true):=by
 obtain⟨_,C,g,d⟩:=mem_ready.1 hi;refine⟨by simp[v.size],fun j B hj y e he hb=>?_⟩;by_cases hij:i=j
 ·subst hij;obtain rfl:B=C:=A5 (hj.symm.trans g);exact getD_set_true (d e he hb)
 rw[getD_set_ne false hij]at y;exact getD_set_true (v.closed j B hj y e he hb)
def left(n:Nat)(listed:Array Bool):List Nat:=(List.range n).filter fun i=>!listed.getD i true
theorem WD.front{B:Array Nat}(K:Ri ops cl B=true){i:Nat}{U:Oper}(hi:ops[i]?=some U){J:World→Prop}{A:As}{a:Act}(D:∀ u,A.st u→J u)(hne:∃ w,A.st w):
 ∀(pre post:List Nat),(∀ x∈pre,x<i∧(B.getD i 0).testBit x=false)→WD P ops cl Q (pre++i::post) J A a→WD P ops cl Q (i::(pre++post)) J A a:=by
 intro pre
 induction pre generalizing J A a with
 | nil=>intro post _ h;exact h
 | cons x pre ih =>
  intro post d h;simp only[Ri,F1]at K;obtain⟨⟨C,_⟩,j⟩:=K;have R:=(d x (.head _)).1;have F:i<ops.size:=(E4.1 hi).1;obtain⟨L,g⟩:∃ L,ops[x]?=some L:=⟨ops[x],E8 jD⟩
  have T:=E7.1 (E7.1 j i (G7.2 F)) x (G7.2 R);simp only[(d x (.head _)).2,Bool.false_or,g,hi,F1]at T;refine WD.swap g hi (fun cs b=>Region.noSelect_spec C x L cs b g) (fun cs b=>Region.noSelect_spec C i U cs b hi) T.1 T.2 D hne ?_;rw[B4,Tn g]at h;rw[Tn g];refine stepD.mono D ?_ h;intro J' A' v hs' O V h';exact ih hs' (O hne) post (fun y Z=>d y (.tail _ Z)) h'
theorem Dy{p:Nat→Bool}{i:Nat}:∀{l:List Nat},i∈l→p i=true→l.Pairwise (·<·) →
 ∃ pre post,l.filter p=pre++i::post∧(∀ x∈pre,x<i∧p x=true)∧l.filter (fun j=>p j && j != i)=pre++post:=by
 intro l
 induction l with
 | nil=>intro h;cases h
 | cons x l ih =>
  intro hm B hs;rw[D6]at hs;by_cases hxi:x=i
  ·subst hxi;refine⟨[],l.filter p,by simp[B],by simp,?_⟩;have:l.filter (fun j=>p j && j != x)=l.filter p:=List.filter_congr fun j hj=>by
    have:=hs.1 j hj;have hne:(j != x)=true:=by simp;omega
    simp[hne]
   simp[this]
  have d:i∈l:=by simpa[Ne.symm hxi]using hm
  obtain⟨pre,post,h1,h2,h3⟩:=ih d B hs.2;have g:=hs.1 i d;cases hpx:p x with
  | true =>
   refine⟨x::pre,post,by simp[hpx,h1],?_,by simp[hpx,hxi,h3]⟩;intro y v;rcases B7.1 v with rfl|v
   ·exact⟨g,hpx⟩
   exact h2 y v
  | false=>exact⟨pre,post,by simp[hpx,h1],h2,by simp[hpx,h3]⟩
theorem Zod{n i:Nat}{listed:Array Bool}(d:listed.size=n):left n (listed.setIfInBounds i true)=(List.range n).filter fun j=>!listed.getD j true && j != i:=by
 refine List.filter_congr fun j hj=>?_;by_cases hij:i=j
 ·simp_all
 rw[getD_set_ne true hij];grind
theorem WD.sound{ro:Option Nat}{B:Array Nat}(T:Ri ops cl B=true):∀(n:Nat) (listed:Array Bool),Closed ops listed→(left ops.size listed).length=n→∀(J:World→Prop) (A:As) (a:Act) (w:World),
 (∀ u,A.st u→J u)→A.st w→WD P ops cl Q (left ops.size listed) J A a→wpAnyIn (Fr ro) 0 P .any ops Q n listed a w:=by
 intro n
 induction n with
 | zero =>
  intro listed F L J A a w C hw h;have e:left ops.size listed=[]:=D4 L;refine⟨?_,by rw[e]at h;exact h w hw⟩;refine List.eq_nil_iff_forall_not_mem.2 fun i hi=>?_;have h0:=(mem_ready.1 hi).1;obtain⟨o,ho,_⟩:=(mem_ready.1 hi).2;have:i∈left ops.size listed:=F6.2 ⟨G7.2 (E4.1 ho).1,by simp only[h0];rfl⟩;rw[e]at this;cases this
 | succ n ih =>
  intro listed F L J A a w C hw h;have O:∀ i∈Region.ready .any ops listed,wpOpIn (Fr ro) 0 P ops Q i (wpAnyIn (Fr ro) 0 P .any ops Q n (listed.setIfInBounds i true)) a w:=by
   intro i hi;obtain⟨h0,oi,g,U⟩:=mem_ready.1 hi;have D:=(E4.1 g).1;obtain⟨pre,post,e1,e2,e3⟩:=Dy (p:=fun i=>!listed.getD i true) (G7.2 D) (by simp only[h0];rfl) (List.pairwise_lt_range (n:=ops.size));have y:=T;simp only[Ri,F1]at y;have Z:∀ x∈pre,x<i∧(B.getD i 0).testBit x=false:=by
    intro x hx;refine⟨(e2 x hx).1,?_⟩;cases hb:(B.getD i 0).testBit x with
    | false=>rfl
    | true =>
     have h1:=EI y.1.2 F i i x (B9 _) hb (.inr ⟨oi,g,U⟩) D;have h2:=(e2 x hx).2;have V:x<listed.size:=by rw[F.size];have:=(e2 x hx).1;omega
     simp[V]at h1 h2;rw[h1]at h2;cases h2
   have e0:left ops.size listed=pre++i::post:=e1;rw[e0]at h;have h':=WD.front T g C ⟨w,hw⟩ pre post Z h;have el:left ops.size (listed.setIfInBounds i true)=pre++post:=by rw[Zod F.size];exact e3
   have hlen:(left ops.size (listed.setIfInBounds i true)).length=n:=by
    rw[el];rw[e0]at L;simp at L ⊢;omega
   rw[Tn g]at h';unfold wpOpIn;simp only[g];rcases h' with⟨R,hk⟩|⟨R,hk⟩
   ·simp only[R];exact⟨fun _ _=>trivial,ih _ (F.set hi) hlen J A _ w C hw (by rw[el];exact hk)⟩
   simp only[R];cases hcl:cl i <;> simp only[hcl]at hk
   ·obtain⟨v,hv,hk⟩:=hk;exact Runs.wpIn (hv w) (ih _ (F.set hi) hlen J A _ w C hw (by rw[el];exact hk))
   ·obtain⟨v,hv,hk⟩:=hk;exact Runs.wpIn (hv w (C w hw)) (ih _ (F.set hi) hlen J A _ w C hw (by rw[el];exact hk))
   ·exact Oper.wpIn_of_does (Oper.does_mono (fun v w' ⟨A',s1,s2,hk⟩=>ih _ (F.set hi) hlen J A' _ w' s2 s1 (by rw[el];exact hk)) (hk [] w hw))
   ·exact Oper.wpIn_of_does (Oper.does_mono (fun v w' ⟨J',A',s1,s2,hk⟩=>ih _ (F.set hi) hlen J' A' _ w' s2 s1 (by rw[el];exact hk)) (hk w hw))
   obtain⟨xo,gx,ae,hk⟩:=hk;have L:St A.M ((w.heap.size,xo)::A.H) (w.alloc xo):=St.alloc hw xo;exact Oper.wpIn_of_does (ae.does (ih _ (F.set hi) hlen J ⟨A.M,(w.heap.size,xo)::A.H⟩ _ _ (fun u hu=>C u (St.tail hu)) L (by rw[el];exact hk _ ⟨_,L⟩)))
  refine⟨fun h0=>?_,O⟩;obtain⟨i,rest,e⟩:∃ i rest,left ops.size listed=i::rest:=by
   cases hl:left ops.size listed with
   | nil=>rw[hl]at L;cases L
   | cons i rest=>exact⟨i,rest,rfl⟩
  have aa:i∈left ops.size listed:=by rw[e];exact .head _
  obtain⟨hr,ah⟩:=F6.1 aa;have D:=G7.1 hr;have ab:∀ j,j<i→listed.getD j false=true:=by
   intro j hj;cases hl:listed.getD j false with
   | true=>rfl
   | false =>
    have ag:j<listed.size:=by rw[F.size];omega
    have K:j∈left ops.size listed:=F6.2 ⟨G7.2 jD,by simp[ag]at hl ⊢;exact hl⟩;have d:(left ops.size listed).Pairwise (·<·):=List.Pairwise.filter _ (List.pairwise_lt_range (n:=ops.size));rw[e]at K d;rcases B7.1 K with rfl|K
    ·omega
    have:=(D6.1 d).1 j K;omega
  have y:=T;simp only[Ri,F1]at y;have h1:=E7.1 y.1.2 i hr;obtain⟨oi,g⟩:∃ oi,ops[i]?=some oi:=⟨ops[i],E8 D⟩
  simp only[g,F1]at h1;have:i∈Region.ready .any ops listed:=mem_ready.2 ⟨by simpa using ah,oi,g,fun e he ad=>ab _ (by simpa[ad]using(Array.all_eq_true_iff_forall_mem.1 h1.1) e he)⟩;rw[h0]at this;cases this
theorem IP(n:Nat):left n (Array.replicate n false)=List.range n:=by
 refine List.filter_eq_self.2 fun i hi=>?_;simp_all
theorem Lx{ro:Option Nat}{id:Nat}{a:Act}{w:World}{B:Array Nat}(hm:P.follows .mixedOrders=true)(d:Ri ops cl B=true){J:World→Prop}{A:As}(g:∀ u,A.st u→J u)
 (hw:A.st { w with drawn:=w.drawn+1 }) (h:WD P ops cl Q (List.range ops.size) J A a):(Code.region id ops true).wpIn (Fr ro) 0 P Q a w:=by
 refine wpIn_region_any hm (WD.sound d ops.size _ ⟨by simp,fun j C hj y=>?_⟩ (by rw[IP];simp) J A a _ g hw (by rw[IP];exact h));rcases C7 j ops.size with v|v
 ·simp[v]at y
 grind
end
end Go.Esp
namespace Go.Esp
abbrev Env:=List (Nat×Value)
def get:Env→Nat→Option Value
 | [],_=>none
 | (j,v)::r,k=>match Nat.beq j k with
  | true=>some v
  | false=>get r k
structure Sh where
  sz:Nat
  ds:List Deferred:=[]
  ro:Option Nat:=none
  wrs:List Nat:=[]
structure Sat (n:Sh) (e:Env) (a:Act):Prop where
  size:a.tmps.size=n.sz
  defers:a.defers=n.ds
  slot:∀ k v,get e k=some v→a.tmps.getD k undef=v
theorem Sat.put{n:Sh}{e:Env}{a:Act}(h:Sat n e a){d:Nat}(j:Nat.ble (d+1) n.sz=true)(v:Value):Sat n ((d,v)::e) (a.put (some d) v):=by
 have g:d<n.sz:=D1 j;refine⟨by simp[Act.put,h.size],h.defers,fun k u hk=>?_⟩;unfold get at hk;split at hk
 ·rename_i hb;have:=F8 hb;subst this;obtain rfl:=A5 hk;have:d<a.tmps.size:=by rw[h.size];exact g
  simp[Act.put,this]
 rename_i hb;have hne:d≠k:=fun e=>by subst e;simp at hb
 have:=h.slot k u hk;simp only[Act.put];simp_all
theorem Sat.none{n:Sh}{e:Env}{a:Act}(h:Sat n e a)(v:Value):Sat n e (a.put none v):=h
def ev(e:Env):Operand→Option Value
 | .tmp t=>get e t
 | .const v=>some v
 | .global g=>some (.pointer (some ⟨g,0,Option.none⟩))
 | .func f=>some (.func (.func f) #[] #[])
theorem Sat.ev{n:Sh}{e:Env}{a:Act}(h:Sat n e a){x:Operand}{v:Value}(hx:ev e x=some v):a.eval x=v:=by
 cases x with
 | tmp t=>exact h.slot t v hx
 | const u=>exact A5 hx
 | global g=>exact A5 hx
 | func f=>exact A5 hx
def evs(e:Env):List Operand→Option (List Value)
 | []=>some []
 | x::r=>match Esp.ev e x,evs e r with
  | some v,some vs=>some (v::vs)
  | _,_=>Option.none
theorem Sat.evs{n:Sh}{e:Env}{a:Act}(h:Sat n e a):∀{xs:List Operand} {vs:List Value},Esp.evs e xs=some vs→xs.map a.eval=vs
 | [],vs,hx=>by simpa[Esp.evs]using hx
 | x::r,vs,hx=>by
  unfold Esp.evs at hx;split at hx
  ·rename_i v g j d;obtain rfl:=A5 hx;rw[D3,h.ev j,h.evs d]
  cases hx
def want(ops:Array Oper)(e:Env):Option (Nat×Bool)→Option Bool
 | Option.none=>some true
 | some (g,b)=>match (ops[g]?).bind (·.dst)with
  | some d=>match get e d with
   | some (.bool c)=>some (c == b)
   | some (.tuple _)=>some false
   | _=>Option.none
  | Option.none=>Option.none
theorem Sat.want{n:Sh}{e:Env}{a:Act}(h:Sat n e a){ops:Array Oper}{o:Oper}{b:Bool}(hw:Esp.want ops e o.guard=some b):
 Region.wanted o (yielded ops a.tmps)=b:=by
 unfold Region.wanted;cases hg:o.guard with
 | none=>rw[hg]at hw;simpa[Esp.want]using hw
 | some gb =>
  obtain⟨g,c⟩:=gb;rw[hg]at hw;simp only[Esp.want]at hw;split at hw
  ·rename_i d B;split at hw
   ·rename_i c' j;have hs:=h.slot d _ j;have y:d<a.tmps.size:=by
     rcases C7 d a.tmps.size with v|v
     ·exact v
     simp[v,undef]at hs
    have:yielded ops a.tmps g=some c':=by
     unfold yielded;rw[B];simp[y]at hs ⊢;rw[hs]
    simp only[this];obtain rfl:=A5 hw;cases c' <;> cases c <;> rfl
   ·rename_i C j;have hs:=h.slot d _ j;have:yielded ops a.tmps g=Option.none:=by
     unfold yielded;rw[B];rcases C7 d a.tmps.size with v|v
     ·simp[v]at hs ⊢;rw[hs]
     simp[v]
    simp only[this];obtain rfl:=A5 hw;cases c <;> rfl
   cases hw
  cases hw
inductive Upd (b:Nat) (o o':Obj):Hp→Hp→Prop
  | head {H:Hp}:Upd b o o' ((b,o)::H) ((b,o')::H)
  | tail {x:Nat×Obj} {H H':Hp}:Upd b o o' H H'→Upd b o o' (x::H) (x::H')
theorem Upd.mem{b:Nat}{o o':Obj}{H H':Hp}(h:Upd b o o' H H'):(b,o)∈H:=by
 induction h with
 | head=>exact .head _
 | tail _ ih=>exact .tail _ ih
theorem Upd.keys{b:Nat}{o o':Obj}{H H':Hp}(h:Upd b o o' H H'):H'.map Prod.fst=H.map Prod.fst:=by
 induction h with
 | head=>rfl
 | tail _ ih=>simp[ih]
theorem Upd.mem'{b:Nat}{o o':Obj}{H H':Hp}(h:Upd b o o' H H')(j:(H.map Prod.fst).Nodup):∀ c x,(c,x)∈H'→(c=b∧x=o')∨(c≠b∧(c,x)∈H):=by
 induction h with
 | head =>
  intro c x d;have g:=D9.1 j;rcases B7.1 d with e|d
  ·cases e;exact .inl ⟨rfl,rfl⟩
  refine .inr ⟨fun e=>g.1 ?_,.tail _ d⟩;rw[e]at d;exact C0.2 ⟨(b,x),d,rfl⟩
 | @tail y H H' hu ih =>
  intro c x d;have g:=D9.1 j;rcases B7.1 d with e|d
  ·subst e;refine .inr ⟨fun e=>g.1 ?_,.head _⟩;have:=hu.mem;rw[e];exact C0.2 ⟨(b,o),this,rfl⟩
  rcases ih g.2 c x d with h|⟨h1,h2⟩
  ·exact .inl h
  exact .inr ⟨h1,.tail _ h2⟩
theorem St.upd{M:Mem}{H H':Hp}{w g:World}{b:Nat}{o o':Obj}(h:St M H w)(hu:Upd b o o' H H')(hb:g.heap[b]?=some o')(hk:∀ c,c≠b→∀ x,w.heap[c]?=some x→g.heap[c]?=some x)(j:SameIO w g):St M H' g:=by
 have v:=h.sep b o hu.mem;refine⟨fun c x d=>hk c (fun e=>by subst e;rw[v]at d;cases d) x (h.mem c x d),fun c x d=>?_,fun c x d=>?_,by rw[hu.keys];exact h.nodup,j.io h.io⟩
 ·rcases hu.mem' h.nodup c x d with⟨rfl,rfl⟩|⟨h1,h2⟩
  ·exact hb
  exact hk c h1 x (h.own c x h2)
 rcases hu.mem' h.nodup c x d with⟨rfl,rfl⟩|⟨h1,h2⟩
 ·exact v
 exact h.sep c x h2
def Fn(P:Program)(f:FuncId)(vs:List Value)(M:Mem)(R:Mem→Value→Prop):Prop :=
 ∀ H w,St M H w→Calls P f vs.toArray w fun e w'=>∃ v M',e=.returned v∧M.le M'∧St M' H w'∧R M' v
def Fs(P:Program)(f:FuncId)(vs:List Value)(M:Mem)(R:Value→Prop):Prop :=
 ∀ H w,St M H w→Calls P f vs.toArray w fun e w'=>∃ v,e=.returned v∧St M H w'∧R v
def Fh(P:Program)(f:FuncId)(vs:List Value)(M:Mem)(Hin:Hp)(R:Mem→Value→Hp→Prop):Prop :=
 ∀ H w,St M (Hin++H) w→Calls P f vs.toArray w fun e w'=>∃ v M' Hout,e=.returned v∧M.le M'∧St M' (Hout++H) w'∧R M' v Hout
def NE(P:Program):Op→Cls
 | .move _ | .assign _ | .pick .. | .nilCheck _ | .unOp .. | .fieldAddr .. | .field .. | .indexAddr .. | .index .. | .extract .. | .slice .. | .build .. | .makeInterface .. | .makeFunc ..=>.pure
 | .binOp op ..=>match op with
  | .eql | .neq=>.read
  | _=>.pure
 | .convert src dst _=>match P.underlying src,P.underlying dst with
  | some (.int _),some (.int _)=>.pure
  | some .string,some .string=>.pure
  | some (.slice _),some .string=>.read
  | _,_=>.wr
 | .load .. | .lookup .. | .typeAssert .. | .entry _=>.read
 | .call c=>match c.callee with
  | .builtin b=>match b with
   | .len | .cap | .min | .max=>.read
   | _=>.wr
  | _=>.eff
 | .alloc _ | .box .. | .buildSlice .. | .makeMap .. | .makeSlice ..=>.new
 | _=>.wr
def Tu(P:Program)(ws:List Nat)(ops:Array Oper)(i:Nat):Cls :=
 match ops[i]? with
 | some o=>match NE P o.op with
  | .eff=>match ws.contains i with
   | true=>.wr
   | false=>.eff
  | .wr=>match ws.contains i with
   | true=>.eff
   | false=>.wr
  | .read=>match ws.contains i with
   | true=>.eff
   | false=>.read
  | c=>c
 | Option.none=>.pure
def XD(P:Program)(n:Sh)(ops:Array Oper)(Q:Exit→Act→World→Prop)(l:List Nat)(J:World→Prop)(A:As)(e:Env):Prop :=
 (∀ u,A.st u→J u)→∀ a,Sat n e a→WD P ops (Tu P n.wrs ops) Q l J A a
theorem Te{P:Program}{ro:Option Nat}{ops:Array Oper}{cl:Nat→Cls}{Q:Exit→Act→World→Prop}:∀(l:List Nat) (J:World→Prop) (A:As) (a:Act) (w:World),(∀ u,A.st u→J u)→A.st w→WD P ops cl Q l J A a→wpOpsIn (Fr ro) 0 P ops Q l a w
 | [],_,_,_,w,_,hw,h=>h w hw
 | i::rest,J,A,a,w,hSJ,hw,h=>by
  obtain⟨o,F,h⟩:=h;rw[wpOpsIn_cons];unfold wpOpIn;simp only[F];rcases h with⟨d,hk⟩|⟨d,hk⟩
  ·simp only[d,Bool.false_eq_true,if_false];exact⟨fun _ _=>trivial,Te rest J A _ w hSJ hw hk⟩
  simp only[d,if_true];cases hcl:cl i <;> simp only[hcl]at hk
  ·obtain⟨v,B,hk⟩:=hk;exact Runs.wpIn (B w) (Te rest J A _ w hSJ hw hk)
  ·obtain⟨v,B,hk⟩:=hk;exact Runs.wpIn (B w (hSJ w hw)) (Te rest J A _ w hSJ hw hk)
  ·exact Oper.wpIn_of_does (Oper.does_mono (fun v j ⟨A',s1,s2,hk⟩=>Te rest J A' _ j s2 s1 hk) (hk [] w hw))
  ·exact Oper.wpIn_of_does (Oper.does_mono (fun v j ⟨D,A',s1,s2,hk⟩=>Te rest D A' _ j s2 s1 hk) (hk w hw))
  obtain⟨g,K,y,hk⟩:=hk;have C:St A.M ((w.heap.size,g)::A.H) (w.alloc g):=St.alloc hw g;exact Oper.wpIn_of_does (y.does (Te rest J ⟨A.M,(w.heap.size,g)::A.H⟩ _ _ (fun u hu=>hSJ u (St.tail hu)) C (hk _ ⟨_,C⟩)))
def C(P:Program)(n:Sh)(c:Code)(Q:Exit→Act→World→Prop)(S:World→Prop)(e:Env):Prop :=
 ∀ a w,Sat n e a→S w→c.wpIn (Fr n.ro) 0 P Q a w
def K(n:Sh)(Q:Exit→Act→World→Prop)(x:Exit)(S:World→Prop)(e:Env):Prop :=
 ∀ a w,Sat n e a→S w→Q x a w
section
variable {P:Program} {n:Sh} {ops:Array Oper} {Q:Exit→Act→World→Prop} {rest:List Nat} {M M':Mem} {H H':Hp} {e:Env} {J S:World→Prop} {A:As} {i:Nat}
  {dst:Option Tmp} {d:Tmp} {op:Op} {ty:TypeId} {pos:String} {af:Array Edge} {gd:Option (Nat×Bool)}
theorem Zap{id:Nat}{l:List Nat}(d:List.range ops.size=l)(h:XD P n ops Q l (St M H) ⟨M,H⟩ e):C P n (.region id ops false) Q (St M H) e :=
 fun a w ha hw=>wpIn_region (Te _ (St M H) ⟨M,H⟩ a w (fun _ h=>h) hw (d ▸ h (fun _ h=>h) a ha))
theorem Ya{id:Nat}{l:List Nat}(B:Array Nat)(J:World→Prop)(v:List.range ops.size=l)(hm:P.follows .mixedOrders=true)(d:Ri ops (Tu P n.wrs ops) B=true)
 (g:∀ w:World,St M H w→St M H { w with drawn:=w.drawn+1 }) (j:∀ u,St M H u→J u) (h:XD P n ops Q l J ⟨M,H⟩ e):C P n (.region id ops true) Q (St M H) e :=
 fun a w ha hw=>Lx (A:=⟨M,H⟩) hm d j (g w hw) (v ▸ h j a ha)
theorem Xj{m:Nat}{ds:List Deferred}{ro:Option Nat}{ws:List Nat}{x:Exit}(h:K ⟨m,ds,ro,[]⟩ Q x S e):K ⟨m,ds,ro,ws⟩ Q x S e:=fun a w ha hw=>h a w ⟨ha.size,ha.defers,ha.slot⟩ hw
theorem UF{m:Nat}{ds:List Deferred}{ro:Option Nat}{id:Nat}{l:List Nat}(ws:List Nat)(B:Array Nat)(J:World→Prop)(v:List.range ops.size=l)(hm:P.follows .mixedOrders=true)(d:Ri ops (Tu P ws ops) B=true)
 (g:∀ w:World,St M H w→St M H { w with drawn:=w.drawn+1 }) (j:∀ u,St M H u→J u) (h:XD P ⟨m,ds,ro,ws⟩ ops Q l J ⟨M,H⟩ e):C P ⟨m,ds,ro,[]⟩ (.region id ops true) Q (St M H) e :=
 fun a w ha hw=>Lx (A:=⟨M,H⟩) hm d j (g w hw) (v ▸ h j a ⟨ha.size,ha.defers,ha.slot⟩)
theorem St.drawn(w:World)(h:St M H w):St M H { w with drawn:=w.drawn+1 }:=h.heap rfl ⟨rfl,rfl,rfl,Nat.le_succ _⟩
theorem Zaj(h:K n Q .normal (St M H) e):XD P n ops Q [] J ⟨M,H⟩ e:=fun _ a ha w hw=>h a w ha hw
theorem VA{o:Oper}(hi:ops[i]?=some o)(y:NE P o.op=.pure)(B:want ops e o.guard=some true){v:Value}
 (j:∀ a w,Sat n e a→Runs P o a w v) {e':Env} (he:∀ a,Sat n e a→Sat n e' (a.put o.dst v))
 (hk:XD P n ops Q rest J A e'):XD P n ops Q (i::rest) J A e:=by
 intro d a ha;refine⟨o,hi,.inr ⟨ha.want B,?_⟩⟩;have g:Tu P n.wrs ops i=.pure:=by simp[Tu,hi,y]
 rw[g];exact⟨v,fun w=>j a w ha,hk d _ (he a ha)⟩
theorem UB{o:Oper}(hi:ops[i]?=some o)(j:NE P o.op=.read)(B:want ops e o.guard=some true){v:Value}
 (y:∀ a w,Sat n e a→J w→Runs P o a w v) {e':Env} (he:∀ a,Sat n e a→Sat n e' (a.put o.dst v))
 (hk:XD P n ops Q rest J A e'):XD P n ops Q (i::rest) J A e:=by
 intro g a ha;refine⟨o,hi,.inr ⟨ha.want B,?_⟩⟩;have d:Tu P n.wrs ops i=.read∨Tu P n.wrs ops i=.eff:=by
  cases hw:n.wrs.contains i
  ·exact .inl (by simp only[Tu,hi,j,hw])
  exact .inr (by simp only[Tu,hi,j,hw])
 rcases d with d|d <;> rw[d]
 ·exact⟨v,fun w hw=>y a w ha hw,hk g _ (he a ha)⟩
 intro F w hw;exact(y a w ha (g w hw.unframe)).does ⟨A,hw,g,hk g _ (he a ha)⟩
theorem Zup{o:Oper}(hi:ops[i]?=some o)(B:NE P o.op=.read)(j:n.wrs.contains i=true)(C:want ops e o.guard=some true){v:Value}
 (y:∀ a w,Sat n e a→A.st w→Runs P o a w v) {e':Env} (he:∀ a,Sat n e a→Sat n e' (a.put o.dst v))
 (hk:XD P n ops Q rest J A e'):XD P n ops Q (i::rest) J A e:=by
 intro d a ha;refine⟨o,hi,.inr ⟨ha.want C,?_⟩⟩;have g:Tu P n.wrs ops i=.eff:=by simp only[Tu,hi,B,j]
 rw[g];intro F w hw;exact(y a w ha hw.unframe).does ⟨A,hw,d,hk d _ (he a ha)⟩
theorem Zag{o:Oper}{x:Obj}{g:Nat→Value}(hi:ops[i]?=some o)(v:NE P o.op=.new)(y:want ops e o.guard=some true)(hx:∀ a,Sat n e a→News P o a x g)
 {e':Nat→Env} (he:∀ a b,Sat n e a→Sat n (e' b) (a.put o.dst (g b))) (hk:∀ b,XD P n ops Q rest J ⟨M,(b,x)::H⟩ (e' b)):XD P n ops Q (i::rest) J ⟨M,H⟩ e:=by
 intro j a ha;refine⟨o,hi,.inr ⟨ha.want y,?_⟩⟩;have d:Tu P n.wrs ops i=.new:=by simp[Tu,hi,v]
 rw[d];exact⟨x,g,hx a ha,fun b _=>hk b (fun u hu=>j u (St.tail hu)) _ (he a b ha)⟩
theorem Zxv{o:Oper}{x:Obj}(hi:ops[i]?=some o)(d:NE P o.op=.new)(g:want ops e o.guard=some true)(hx:∀ a,Sat n e a→News P o a x (fun b=>.pointer (some ⟨b,0,Option.none⟩)))
 {e':Nat→Env} (he:∀ a b,Sat n e a→Sat n (e' b) (a.put o.dst (.pointer (some ⟨b,0,Option.none⟩)))) (hk:∀ b,XD P n ops Q rest J ⟨M,(b,x)::H⟩ (e' b)):XD P n ops Q (i::rest) J ⟨M,H⟩ e :=
 Zag hi d g hx he hk
theorem Zai{o:Oper}(hi:ops[i]?=some o)(B:NE P o.op=.eff)(C:want ops e o.guard=some true)
 (hk:(∀ u,A.st u→J u)→∀ a F w,Sat n e a→St A.M (F++A.H) w→Oper.does P o a w fun v j=>∃(A':As) (e':Env),St A'.M (F++A'.H) j∧(∀ u,A'.st u→J u)∧Sat n e' (a.put o.dst v)∧XD P n ops Q rest J A' e') :
 XD P n ops Q (i::rest) J A e:=by
 intro g a ha;refine⟨o,hi,.inr ⟨ha.want C,?_⟩⟩;have d:Tu P n.wrs ops i=.eff∨Tu P n.wrs ops i=.wr:=by
  cases hw:n.wrs.contains i
  ·exact .inl (by simp only[Tu,hi,B,hw])
  exact .inr (by simp only[Tu,hi,B,hw])
 rcases d with d|d <;> rw[d]
 ·intro F w hw;exact Oper.does_mono (fun v j ⟨A',e',h1,h2,h3,y⟩=>⟨A',h1,h2,y h2 _ h3⟩) (hk g a F w ha hw)
 intro w hw;exact Oper.does_mono (fun v j ⟨A',e',h1,h2,h3,y⟩=>⟨J,A',h1,h2,y h2 _ h3⟩) (hk g a [] w ha hw)
theorem Zdx{o:Oper}(hi:ops[i]?=some o)(j:NE P o.op=.eff)(B:want ops e o.guard=some true)
 (hk:∀ a F w,Sat n e a→St A.M (F++A.H) w→Oper.does P o a w fun v g=>∃(A':As) (e':Env),St A'.M (F++A'.H) g∧(∀ u,A'.st u→A.st u)∧Sat n e' (a.put o.dst v)∧XD P n ops Q rest J A' e') :
 XD P n ops Q (i::rest) J A e :=
 Zai hi j B (fun d a F w ha hw=>Oper.does_mono (fun v g ⟨A',e',h1,h2,h3,y⟩=>⟨A',e',h1,fun u hu=>d u (h2 u hu),h3,y⟩) (hk a F w ha hw))
theorem DU{o:Oper}(hi:ops[i]?=some o)(y:NE P o.op=.eff)(g:n.wrs.contains i=true)(D:want ops e o.guard=some true)
 (hk:∀ a w,Sat n e a→A.st w→Oper.does P o a w fun v j=>∃(A':As) (e':Env),A'.st j∧Sat n e' (a.put o.dst v)∧XD P n ops Q rest A'.st A' e') :
 XD P n ops Q (i::rest) J A e:=by
 intro C a ha;refine⟨o,hi,.inr ⟨ha.want D,?_⟩⟩;have d:Tu P n.wrs ops i=.wr:=by simp only[Tu,hi,y,g]
 rw[d];intro w hw;exact Oper.does_mono (fun v j ⟨A',e',h1,h3,B⟩=>⟨A'.st,A',h1,fun _ h=>h,B (fun _ h=>h) _ h3⟩) (hk a w ha hw)
theorem SK{o:Oper}(hi:ops[i]?=some o)(y:NE P o.op=.wr)(D:want ops e o.guard=some true)
 (hk:∀ a w,Sat n e a→A.st w→Oper.does P o a w fun v j=>∃(A':As) (e':Env),A'.st j∧Sat n e' (a.put o.dst v)∧XD P n ops Q rest A'.st A' e') (g:n.wrs.contains i=false) :
 XD P n ops Q (i::rest) J A e:=by
 intro C a ha;refine⟨o,hi,.inr ⟨ha.want D,?_⟩⟩;have d:Tu P n.wrs ops i=.wr:=by simp only[Tu,hi,y,g]
 rw[d];intro w hw;exact Oper.does_mono (fun v j ⟨A',e',h1,h3,B⟩=>⟨A'.st,A',h1,fun _ h=>h,B (fun _ h=>h) _ h3⟩) (hk a w ha hw)
theorem Zxw{o:Oper}(hi:ops[i]?=some o)(y:NE P o.op=.wr)(g:n.wrs.contains i=true)(D:want ops e o.guard=some true)
 (hk:∀ a F w,Sat n e a→St A.M (F++A.H) w→Oper.does P o a w fun v j=>∃(A':As) (e':Env),St A'.M (F++A'.H) j∧(∀ u,A'.st u→J u)∧Sat n e' (a.put o.dst v)∧XD P n ops Q rest J A' e') :
 XD P n ops Q (i::rest) J A e:=by
 intro C a ha;refine⟨o,hi,.inr ⟨ha.want D,?_⟩⟩;have d:Tu P n.wrs ops i=.eff:=by simp only[Tu,hi,y,g]
 rw[d];intro F w hw;exact Oper.does_mono (fun v j ⟨A',e',h1,h2,h3,B⟩=>⟨A',h1,h2,B h2 _ h3⟩) (hk a F w ha hw)
theorem Zxs(hi:ops[i]?=some ⟨some d,op,ty,pos,af,gd⟩)(v:want ops e gd=some false)(j:Nat.ble (d+1) n.sz=true)
 (hk:XD P n ops Q rest J A ((d,undef)::e)):XD P n ops Q (i::rest) J A e:=by
 intro g a ha;exact⟨_,hi,.inl ⟨ha.want v,hk g _ (ha.put j undef)⟩⟩
theorem Zuo(hi:ops[i]?=some ⟨Option.none,op,ty,pos,af,gd⟩)(g:want ops e gd=some false)
 (hk:XD P n ops Q rest J A e):XD P n ops Q (i::rest) J A e:=by
 intro d a ha;exact⟨_,hi,.inl ⟨ha.want g,hk d _ (ha.none undef)⟩⟩
theorem Sat.more{a:Act}(ha:Sat n e a){s:Nat}{v:Value}(hs:get e s=some v):Sat n ((s,v)::e) a :=
 ⟨ha.size,ha.defers,fun k u hk=>by
  unfold get at hk;split at hk
  ·rename_i hb;have:=F8 hb;subst this;obtain rfl:=A5 hk;exact ha.slot _ _ hs
  exact ha.slot _ _ hk⟩
theorem BF(s:Nat){c:Bool}(hs:get e s=some (.bool c))(ht:c=true→XD P n ops Q rest J A ((s,.bool true)::e))(g:c=false→XD P n ops Q rest J A ((s,.bool false)::e)):
 XD P n ops Q rest J A e:=by
 intro d a ha;cases c with
 | true=>exact ht rfl d a (ha.more hs)
 | false=>exact g rfl d a (ha.more hs)
theorem Xs(s:Nat){u v:Value}(hs:get e s=some u)(h:u=v)(hk:XD P n ops Q rest J A ((s,v)::e)):XD P n ops Q rest J A e:=by
 intro d a ha;exact hk d a (ha.more (h ▸ hs))
theorem Zfl{o:Oper}{a:Act}{w:World}{v:Value}(h:execOp a.eval o=pure (.value v)):Runs P o a w v:=by
 unfold Runs;rw[h];exact .inl rfl
theorem Zro{x:Operand}{v:Value}(hi:ops[i]?=some ⟨some d,.move x,ty,pos,af,gd⟩)(j:want ops e gd=some true)(hx:ev e x=some v)(g:Nat.ble (d+1) n.sz=true)
 (hk:XD P n ops Q rest J A ((d,v)::e)):XD P n ops Q (i::rest) J A e :=
 VA hi rfl j (fun a w ha=>Zfl (by simp[execOp,ha.ev hx])) (fun a ha=>ha.put g v) hk
theorem Zpz{x:Operand}{v:Value}(hi:ops[i]?=some ⟨some d,.assign x,ty,pos,af,gd⟩)(j:want ops e gd=some true)(hx:ev e x=some v)(g:Nat.ble (d+1) n.sz=true)
 (hk:XD P n ops Q rest J A ((d,v)::e)):XD P n ops Q (i::rest) J A e :=
 VA hi rfl j (fun a w ha=>Zfl (by simp[execOp,ha.ev hx])) (fun a ha=>ha.put g v) hk
theorem Zxu{c x y:Operand}{b:Bool}{v:Value}(hi:ops[i]?=some ⟨some d,.pick c x y,ty,pos,af,gd⟩)(B:want ops e gd=some true)(g:ev e c=some (.bool b))(hx:ev e (if b then x else y)=some v)(j:Nat.ble (d+1) n.sz=true)
 (hk:XD P n ops Q rest J A ((d,v)::e)):XD P n ops Q (i::rest) J A e :=
 VA hi rfl B (fun a w ha=>.inl (by cases b <;> simp[execOp,ha.ev g,asBool] <;> simp at hx <;> rw[ha.ev hx] <;> rfl)) (fun a ha=>ha.put j v) hk
end
end Go.Esp
namespace Go.Esp
inductive Seg where
  | one (v:Value)
  | arr (n:Nat) (f:Vector Value n)
def Seg.len:Seg→Nat
 | .one _=>1
 | .arr n _=>n
def Seg.cells:Seg→List Value
 | .one v=>[v]
 | .arr _ f=>f.toList
theorem Seg.cells_length(s:Seg):s.cells.length=s.len:=by cases s <;> simp[Seg.cells,Seg.len]
abbrev Segs:=List Seg
def Segs.len:Segs→Nat
 | []=>0
 | s::r=>s.len+Segs.len r
def Segs.cells:Segs→List Value
 | []=>[]
 | s::r=>s.cells++Segs.cells r
theorem Segs.cells_length:∀ r:Segs,(Segs.cells r).length=Segs.len r
 | []=>rfl
 | s::r=>by simp[Segs.cells,Segs.len,Segs.cells_length r,Seg.cells_length]
theorem Segs.cells_append:∀ r s:Segs,Segs.cells (r++s)=Segs.cells r++Segs.cells s
 | [],s=>rfl
 | x::r,s=>by simp[Segs.cells,Segs.cells_append r s]
theorem Segs.len_append:∀ r s:Segs,Segs.len (r++s)=Segs.len r+Segs.len s
 | [],s=>by simp[Segs.len]
 | x::r,s=>by simp[Segs.len,Segs.len_append r s];omega
def Segs.take:Segs→Nat→Option Segs
 | _,0=>some []
 | [],_+1=>none
 | s::r,n+1=>match Nat.ble s.len (n+1),s.len with
  | true,k+1=>match Segs.take r (n+1-(k+1))with
   | some t=>some (s::t)
   | none=>none
  | _,_=>none
def Segs.drop:Segs→Nat→Option Segs
 | r,0=>some r
 | [],_+1=>none
 | s::r,n+1=>match Nat.ble s.len (n+1),s.len with
  | true,k+1=>Segs.drop r (n+1-(k+1))
  | _,_=>none
def Segs.sub(r:Segs)(off n:Nat):Option Segs:=match r.drop off with
 | some t=>t.take n
 | none=>none
theorem Segs.take_spec:∀{r t:Segs} {n:Nat},Segs.take r n=some t→∃ u,r=t++u∧Segs.len t=n
 | r,t,0,h=>by
  have e:t=[]:=by cases r <;> simp_all[Segs.take]
  subst e;exact⟨r,rfl,rfl⟩
 | [],t,n+1,h=>by simp[Segs.take]at h
 | s::r,t,n+1,h=>by
  unfold Segs.take at h;split at h
  ·rename_i k hb hk;split at h
   ·rename_i j d;obtain rfl:=A5 h;obtain⟨u,hu,g⟩:=Segs.take_spec d;have:=D1 hb;exact⟨u,by simp[← hu],by simp[Segs.len,g];omega⟩
   cases h
  cases h
theorem Segs.drop_spec:∀{r t:Segs} {n:Nat},Segs.drop r n=some t→∃ u,r=u++t∧Segs.len u=n
 | r,t,0,h=>by
  have e:t=r:=by cases r <;> simp_all[Segs.drop]
  subst e;exact⟨[],rfl,rfl⟩
 | [],t,n+1,h=>by simp[Segs.drop]at h
 | s::r,t,n+1,h=>by
  unfold Segs.drop at h;split at h
  ·rename_i k hb hk;obtain⟨u,hu,d⟩:=Segs.drop_spec h;have:=D1 hb;exact⟨s::u,by simp[hu],by simp[Segs.len,d];omega⟩
  cases h
theorem Segs.sub_spec{r t:Segs}{off n:Nat}(h:Segs.sub r off n=some t):∃ p q,r=p++(t++q)∧Segs.len p=off∧Segs.len t=n:=by
 unfold Segs.sub at h;split at h
 ·rename_i B d;obtain⟨p,v,j⟩:=Segs.drop_spec d;obtain⟨q,y,g⟩:=Segs.take_spec h;grind
 cases h
theorem Segs.sub_cells{r t:Segs}{off n:Nat}(h:Segs.sub r off n=some t):((Segs.cells r).drop off).take n=Segs.cells t∧off+n≤Segs.len r:=by
 obtain⟨p,q,rfl,rfl,rfl⟩:=Segs.sub_spec h;rw[Segs.cells_append,Segs.cells_append,← Segs.cells_length p,← Segs.cells_length t];constructor
 ·simp
 simp[Segs.len_append,Segs.cells_length]
def Segs.put:Segs→Nat→Segs→Option Segs
 | r,0,t=>match Segs.drop r (Segs.len t)with
  | some u=>some (t++u)
  | none=>none
 | [],_+1,_=>none
 | s::r,n+1,t=>match Nat.ble s.len (n+1),s.len with
  | true,k+1=>match Segs.put r (n+1-(k+1)) t with
   | some u=>some (s::u)
   | none=>none
  | _,_=>none
theorem Segs.put_spec:∀{r t u:Segs} {off:Nat},Segs.put r off t=some u→∃ p q m,r=p++(m++q)∧u=p++(t++q)∧Segs.len p=off∧Segs.len m=Segs.len t
 | r,t,u,0,h=>by
  have d:(match Segs.drop r (Segs.len t)with|some u=>some (t++u)|none=>none)=some u:=by
   cases r <;> simpa[Segs.put]using h
  split at d
  ·rename_i q C;obtain rfl:=A5 d;obtain⟨m,hm,v⟩:=Segs.drop_spec C;exact⟨[],q,m,by simpa using hm,rfl,rfl,v⟩
  cases d
 | [],t,u,n+1,h=>by simp[Segs.put]at h
 | s::r,t,u,n+1,h=>by
  unfold Segs.put at h;split at h
  ·rename_i k hb hk;split at h
   ·rename_i F g;obtain rfl:=A5 h;obtain⟨p,q,m,D,B,j,y⟩:=Segs.put_spec g;have:=D1 hb;exact⟨s::p,q,m,by simp[D],by simp[B],by simp[Segs.len,j];omega,y⟩
   cases h
  cases h
def WX(r:Segs):Value:=.agg (Segs.cells r).toArray
theorem VV{r:Segs}{n:Nat}(h:Segs.len r=n):(WX r).cells.size=n:=by
 show(Segs.cells r).toArray.size=n;simp[Segs.cells_length,h]
inductive Parts:Value→Segs→Prop
  | agg (r:Segs):Parts (WX r) r
  | bool (b:Bool):Parts (.bool b) [.one (.bool b)]
  | int (k:IntKind) (n:Int):Parts (.int k n) [.one (.int k n)]
  | string (s:ByteArray):Parts (.string s) [.one (.string s)]
  | pointer (a:Option Addr):Parts (.pointer a) [.one (.pointer a)]
  | slice (a:Option Addr) (l c:Nat):Parts (.slice a l c) [.one (.slice a l c)]
  | map (r:Option Nat):Parts (.map r) [.one (.map r)]
  | func (fn:Go.Fn) (f c:Array Value):Parts (.func fn f c) [.one (.func fn f c)]
  | nilFunc:Parts .nilFunc [.one .nilFunc]
  | iface (t:TypeId) (v:Value):Parts (.iface t v) [.one (.iface t v)]
  | nilIface:Parts .nilIface [.one .nilIface]
theorem Parts.cells{v:Value}{r:Segs}(h:Parts v r):v.cells=(Segs.cells r).toArray:=by cases h <;> rfl
def flat(r:Segs):Prop:=∀ u∈Segs.cells r,u.oneCell'=true
def Sp(agg:Bool)(r:Segs):Option Value:=match agg,r with
 | true,r=>some (WX r)
 | false,[.one v]=>some v
 | _,_=>none
def BA:TypeDesc→Bool
 | .struct _=>true
 | .array _ _=>true
 | _=>false
def lay(P:Program)(t:TypeId):Option (Bool×Nat):=match P.underlying t,P.info? t with
 | some d,some i=>some ((BA d),i.size)
 | _,_=>none
def Zjb(P:Program)(s:TypeId)(f:Nat):Option Nat:=match P.underlying s with
 | some (.struct fs)=>match fs[f]? with
  | some fd=>match P.info? fd.type with
   | some i=>if i.size=0 then none else some fd.offset
   | none=>none
  | none=>none
 | _=>none
def Na(P:Program)(t:TypeId):Option (TypeId×Nat×Nat):=match P.underlying t with
 | some (.slice el)=>match P.info? el with
  | some i=>some (el,i.size,i.bytes)
  | none=>none
 | _=>none
def XP(P:Program)(t:TypeId):Option Value:=match P.info? t with
 | some i=>i.zero
 | none=>none
theorem Zja{P:Program}{s f off:Nat}(h:Zjb P s f=some off):∃ d fd i,P.underlying s=some (.struct d)∧d[f]?=some fd∧P.info? fd.type=some i∧i.size≠0∧fd.offset=off:=by
 unfold Zjb at h;grind
theorem OH{P:Program}{t:TypeId}{b:Bool}{n:Nat}(h:lay P t=some (b,n)):∃ d i,P.underlying t=some d∧P.info? t=some i∧i.size=n∧(BA d)=b:=by
 unfold lay at h;grind
theorem Wq{P:Program}{t el sz d:Nat}(h:Na P t=some (el,sz,d)):∃ i,P.underlying t=some (.slice el)∧P.info? el=some i∧i.size=sz∧i.bytes=d:=by
 unfold Na at h;grind
section sem
variable {P:Program} {w:World}
theorem ZY{α β:Type}{x:Sem α}{f:α→Sem β}{a:α}{w d:World}(h:x.run P w=.ok a d):(x >>= f).run P w=(f a).run P d:=by
 rw[Sem.run_bind,h];rfl
theorem YP{t:TypeId}{d:TypeDesc}(h:P.underlying t=some d):(underlying t).run P w=.ok d w:=by
 simp[Go.underlying,h]
theorem Th{t:TypeId}{i:TypeInfo}(h:P.info? t=some i):(sizeOf t).run P w=.ok i.size w:=by
 simp[Go.sizeOf,Go.typeInfo,h]
theorem Et{t:TypeId}{d:TypeDesc}(h:P.underlying t=some d):(isAgg t).run P w=.ok (BA d) w:=by
 unfold Go.isAgg;rw[Sem.run_bind,YP h,Result.andThen_ok];cases d <;> rfl
theorem Qn{b off:Nat}{c:Array Value}{T:TypeId}{d:Nat×Nat}(hb:w.heap[b]?=some (.cells c T d)):w.cell? ⟨b,off,none⟩=c[off]?:=by
 simp[World.cell?,hb]
theorem LE{b off n:Nat}{agg:Bool}{c:Array Value}{T t:TypeId}{L:Nat×Nat}{r:Segs}{v:Value}(hb:w.heap[b]?=some (.cells c T L))(K:lay P t=some (agg,n))
 (hx:(c.toList.drop off).take n=Segs.cells r) (D:Segs.len r=n) (y:Sp agg r=some v):(loadVar t ⟨b,off,none⟩).run P w=.ok v w:=by
 obtain⟨d,i,F,hi,C,B⟩:=OH K;have hlen:(Segs.cells r).length=n:=by rw[Segs.cells_length,D]
 have g:∀ j v,(Segs.cells r)[j]?=some v→w.cell? ((⟨b,off,none⟩:Addr).add j)=some v:=by
  intro j v hj;rw[Addr.add_lit,Qn hb];rw[← hx,I1,List.getElem?_drop]at hj;split at hj
  ·simpa using hj
  cases hj
 unfold loadVar;rw[Sem.run_bind,Et F,Result.andThen_ok,B];cases agg with
 | true =>
  simp only[Sp,G1]at y;subst y;simp only[if_true];rw[Sem.run_bind,Th hi,Result.andThen_ok,Sem.run_bind,C,← hlen,run_loadCells_list w _ _ g,Result.andThen_ok];rfl
 | false =>
  simp only[Bool.false_eq_true,if_false];unfold Sp at y;split at y
  ·rename_i h1;cases h1
  ·rename_i u h1;obtain rfl:=A5 y;have:=g 0 u (by simp[Segs.cells,Seg.cells]);rw[Addr.add_lit,Nat.add_zero]at this;rw[run_load,this]
  cases y
theorem ST{b off n:Nat}{agg:Bool}{c:Array Value}{T t:TypeId}{y:Nat×Nat}{r:Segs}{v:Value}(hb:w.heap[b]?=some (.cells c T y))(j:lay P t=some (agg,n))
 (hx:(c.toList.drop off).take n=Segs.cells r) (d:Segs.len r=n) (g:Sp agg r=some v):(Instr.loadAt t (.pointer (some ⟨b,off,none⟩))).run P w=.ok v w:=by
 unfold Instr.loadAt;show(Result.ok _ w).andThen _=_;exact LE hb j hx d g
def Yp(r:Segs)(T:TypeId):Obj:=.cells (Segs.cells r).toArray T (0,0)
theorem Zgc{r t u:Segs}{off:Nat}(h:Segs.put r off t=some u):
 Segs.cells u=(Segs.cells r).take off++Segs.cells t++(Segs.cells r).drop (off+Segs.len t)∧off+Segs.len t≤Segs.len r:=by
 obtain⟨p,q,m,rfl,rfl,rfl,hm⟩:=Segs.put_spec h;simp only[Segs.cells_append,Segs.len_append];constructor
 ·rw[← hm,← Segs.cells_length p,← Segs.cells_length m];simp
 omega
theorem LD{b off:Nat}{agg:Bool}{T t:TypeId}{r q u:Segs}{v:Value}{n:Nat}(hb:w.heap[b]?=some (Yp r T))(K:lay P t=some (agg,n))
 (C:Parts v q) (O:flat q) (D:Segs.len q=n) (hu:Segs.put r off q=some u) :
 ∃ j,(Instr.storeAt t (.pointer (some ⟨b,off,none⟩)) v).run P w=.ok () j∧j.heap[b]?=some (Yp u T)∧(∀ c,c≠b→j.heap[c]?=w.heap[c]?)∧SameIO w j:=by
 obtain⟨d,i,U,hi,y,L⟩:=OH K;obtain⟨R,V⟩:=Zgc hu;have g:off+0+(Segs.cells q).length≤(Segs.cells r).toArray.size:=by simp[Segs.cells_length];omega
 have B:=run_storeCells_at P b off T (Segs.cells q) 0 (Segs.cells r).toArray w hb g O;refine⟨w.setRow b (Segs.cells u).toArray,?_,setRow_heap w b _ _ T _ hb,fun c F=>setRow_other w b c _ F,SameIO.refl _⟩
 ·unfold Instr.storeAt;rw[Sem.run_bind];show(Result.ok _ w).andThen _=_;rw[Result.andThen_ok];unfold storeVar;rw[Sem.run_bind,Th hi,Result.andThen_ok];have hs:v.cells.size=i.size:=by rw[C.cells,y];simp[Segs.cells_length,D]
  simp only[hs];rw[C.cells];simp only[R];simpa[Segs.cells_length]using B
end sem
end Go.Esp
namespace Go.Esp
theorem Do(off:Nat):∀(vs:List Value) (k:Nat) (cs:Array Value),off+k+vs.length≤cs.size →
 ((vs.zipIdx k).foldl (fun cs (p:Value×Nat)=>cs.setIfInBounds (off+p.2) p.1) cs).toList=cs.toList.take (off+k)++vs++cs.toList.drop (off+k+vs.length)
 | [],k,cs,h=>by simp
 | v::vs,k,cs,h=>by
  simp only[C8]at h;rw[List.zipIdx_cons,G6,Do off vs (k+1) _ jU];simp only[Array.toList_setIfInBounds];have h1:off+k<cs.toList.length:=by simp;omega
  rw[List.take_set,List.drop_set,A6 jD];rw[show off+(k+1)=off+k+1 by omega,C9];have e:cs.toList[off+k]?=some cs.toList[off+k]:=A7 h1;rw[e];simp only[Option.toList_some,C8];rw[List.set_append_right _ _ jU];simp only[D8,I5 (Nat.le_of_lt h1),Nat.sub_self,List.set_cons_zero];simp;rw[show off+k+1+vs.length=off+k+(vs.length+1)by omega]
def Ea:List Segs→Nat→Nat
 | _,0=>0
 | [],_+1=>0
 | z::zs,i+1=>Segs.len z+Ea zs i
def cat:List Segs→Segs
 | []=>[]
 | z::zs=>z++cat zs
def Sk:List Segs→Nat→Segs→Option (List Segs)
 | [],_,_=>none
 | z::zs,0,r=>match Nat.beq (Segs.len z) (Segs.len r)with
  | true=>some (r::zs)
  | false=>none
 | z::zs,i+1,r=>match Sk zs i r with
  | some zs'=>some (z::zs')
  | none=>none
def UX:List Segs→List (Nat×Segs)→Option (List Segs)
 | zs,[]=>some zs
 | zs,(i,r)::ps=>match Sk zs i r with
  | some zs'=>UX zs' ps
  | none=>none
theorem Qy:∀{g d:List Segs} {i:Nat} {r:Segs},Sk g i r=some d →
 ∃ p z q,g=p++z::q∧d=p++r::q∧p.length=i∧Segs.len z=Segs.len r
 | [],_,_,_,h=>by simp[Sk]at h
 | z::g,d,0,r,h=>by
  unfold Sk at h;split at h
  ·rename_i hb;obtain rfl:=A5 h;exact⟨[],z,g,rfl,rfl,rfl,F8 hb⟩
  cases h
 | z::g,d,i+1,r,h=>by
  unfold Sk at h;split at h
  ·rename_i j v;obtain rfl:=A5 h;obtain⟨p,y,q,F,B,C,D⟩:=Qy v;exact⟨z::p,y,q,by simp[F],by simp[B],by simp[C],D⟩
  cases h
theorem Lp:∀ a b:List Segs,cat (a++b)=cat a++cat b
 | [],b=>rfl
 | x::a,b=>by simp[cat,Lp a b]
theorem Jc:∀(p q:List Segs),Ea (p++q) p.length=Segs.len (cat p)
 | [],q=>by cases q <;> simp[Ea,cat,Segs.len]
 | x::p,q=>by simp[Ea,cat,Segs.len_append,Jc p q]
theorem EJ:∀{g d:List Segs} {i:Nat} {r:Segs},Sk g i r=some d→∀ j,Ea d j=Ea g j
 | [],_,_,_,h,_=>by simp[Sk]at h
 | z::g,d,0,r,h,j=>by
  obtain⟨p,y,q,B,D,K,L⟩:=Qy h;have F:p=[]:=D4 K;subst F;simp only[B6,J9]at B;obtain⟨rfl,rfl⟩:=B;subst D;cases j <;> simp[Ea,L]
 | z::g,d,i+1,r,h,j=>by
  unfold Sk at h;split at h
  ·rename_i v C;obtain rfl:=A5 h;cases j with
   | zero=>rfl
   | succ j=>simp[Ea,EJ C j]
  cases h
def Zwk(zs:List Segs)(place:Nat→Option (Nat×Nat)):Prop:=∀ i z,zs[i]?=some z→place i=some (Ea zs i,Segs.len z)
inductive PartsL:List (Nat×Segs)→List (Nat×Value)→Prop
  | nil:PartsL [] []
  | cons {i:Nat} {v:Value} {r:Segs} {ps:List (Nat×Segs)} {vs:List (Nat×Value)}:Parts v r→PartsL ps vs→PartsL ((i,r)::ps) ((i,v)::vs)
theorem Lh:∀(ps:List (Nat×Segs)) (vs:List (Nat×Value)) (d j:List Segs) (place:Nat→Option (Nat×Nat)),Zwk d place →
 PartsL ps vs→UX d ps=some j→Instr.fill place (Segs.cells (cat d)).toArray vs=some (Segs.cells (cat j)).toArray
 | [],vs,d,j,place,hp,hv,h=>by
  cases hv;obtain rfl:=A5 h;rfl
 | (i,r)::ps,vs,d,j,place,hp,hv,h=>by
  cases hv with
  | @cons _ v _ _ vs hv hvs =>
  unfold UX at h;split at h
  ·rename_i D h1;obtain⟨p,z,q,K,U,L,O⟩:=Qy h1;have hz:d[i]?=some z:=by rw[K,← L];simp
   have F:=hp i z hz;have g:Ea d i=Segs.len (cat p):=by rw[K,← L];exact Jc p _
   unfold Instr.fill;rw[F];have V:v.cells.size=Segs.len r:=by rw[hv.cells];simp[Segs.cells_length]
   have C:Segs.len (cat d)=Segs.len (cat p)+(Segs.len z+Segs.len (cat q)):=by rw[K,Lp,Segs.len_append];simp[cat,Segs.len_append]
   have R:(v.cells.size≠Segs.len z || Ea d i+v.cells.size > (Segs.cells (cat d)).toArray.size)=false:=by
    simp[V,O,Segs.cells_length,g,C]
   simp only[R,Bool.false_eq_true,if_false];have B:v.cells.zipIdx.foldl (fun cs (x:Value×Nat)=>cs.setIfInBounds (Ea d i+x.2) x.1) (Segs.cells (cat d)).toArray=(Segs.cells (cat D)).toArray:=by
    apply Array.ext';rw[← Array.foldl_toList,Array.toList_zipIdx,hv.cells];have:=Do (Ea d i) (Segs.cells r) 0 (Segs.cells (cat d)).toArray (by simp[Segs.cells_length,g,C,O]);simp only[Nat.add_zero]at this;rw[show(Segs.cells r).toArray.toList=Segs.cells r from rfl,this];rw[g,K,U];simp only[Lp,cat,Segs.cells_append,← Segs.cells_length (cat p)];have Z:(Segs.cells r).length=(Segs.cells z).length:=by simp[Segs.cells_length,O]
    simp[Z,List.drop_append]
   rw[B];refine Lh ps vs D j place (fun k y hk=>?_) hvs h;rw[EJ h1 k];by_cases hki:k=i
   ·subst hki;have:D[k]?=some r:=by rw[U,← L];simp
    rw[this]at hk;obtain rfl:=A5 hk;rw[← O];exact F
   refine hp k y ?_;rw[← hk,K,U];rw[← L]at hki;rcases C7 k p.length with T|T
   ·rw[F5 T,F5 T]
   obtain⟨m,rfl⟩:∃ m,k=p.length+(m+1):=⟨k-p.length-1,by omega⟩
   rw[G2 jD,G2 jD,show p.length+(m+1)-p.length=m+1 by omega];rfl
  cases h
end Go.Esp
namespace Go.Esp
structure Bld (P:Program) (T:TypeId) (zs:List Segs):Prop where
  zero:(XP P T).map Value.cells=some (Segs.cells (cat zs)).toArray
  place:(match P.underlying T with|some (.struct fs)=>fs.toList.mapM (fun f=>(P.info? f.type).map fun i=>(f.offset,i.size))|_=>none)=some ((List.range zs.length).map fun i=>(Ea zs i,Segs.len (zs.getD i [])))
theorem Bld.built{P:Program}{T:TypeId}{B g:List Segs}(h:Bld P T B){ps:List (Nat×Segs)}{vs:List (Nat×Value)}(D:PartsL ps vs)(hs:UX B ps=some g):
 P.built T vs=some (Segs.cells (cat g)).toArray:=by
 obtain⟨h1,h2⟩:=h;unfold Program.built;unfold XP at h1;cases hu:P.underlying T with
 | none=>simp[hu]at h2
 | some d =>
  cases hi:P.info? T with
  | none=>simp[hi]at h1
  | some it =>
   simp only[hi,Option.map_eq_some_iff]at h1;obtain⟨z,F,v⟩:=h1;cases d <;> simp only[hu]at h2 <;> try(cases h2;done)
   case struct fs =>
    simp only[F,h2,v];refine Lh ps vs B g _ (fun i y C=>?_) D hs;have j:=(C4.1 C).1;simp[j];have:=(C4.1 C).2;simp[this]
section
variable {P:Program} {n:Sh} {ops:Array Oper} {Q:Exit→Act→World→Prop} {rest:List Nat} {M M':Mem} {H H':Hp} {e:Env} {J S:World→Prop} {A:As} {i:Nat}
  {dst:Option Tmp} {d:Tmp} {op:Op} {ty:TypeId} {pos:String} {af:Array Edge} {gd:Option (Nat×Bool)}
theorem Xp{o:Oper}{a:Act}{w:World}{v:Value}(h:(execOp a.eval o).run P w=.ok (.value v) w):Runs P o a w v:=.inl h
theorem Wz{x:Sem Value}{v:Value}{w d:World}(h:x.run P w=.ok v d):(do let u ← x;pure (Next.value u):Sem Next).run P w=.ok (.value v) d:=by
 simp_all
def Zzm:BinOp→Int→Int→Option Bool
 | .lss,a,b=>some (decide (a<b))
 | .leq,a,b=>some (decide (a≤b))
 | .gtr,a,b=>some (decide (b<a))
 | .geq,a,b=>some (decide (b≤a))
 | .eql,a,b=>some (decide (a=b))
 | .neq,a,b=>some (!decide (a=b))
 | _,_,_=>none
theorem Zuh(a b:Int):(a == b)=decide (a=b):=by
 by_cases h:a=b <;> simp[h]
theorem Zna{o:BinOp}{t:TypeId}{x y:Operand}{k:IntKind}{a b:Int}{c:Bool}(h:Zzm o a b=some c){w:World}:
 (do eqGuard o t x y (.int k a) (.int k b);binOp o t (.int k a) (.int k b):Sem Value).run P w=.ok (.bool c) w:=by
 have d:(eqGuard o t x y (.int k a) (.int k b)).run P w=.ok () w:=by
  cases o <;> rfl
 rw[Sem.run_bind,d,Result.andThen_ok];cases o <;> simp only[Zzm,G1]at h <;> first
  | (cases h;done)
  | (subst h;simp[Op.intCmp];done)
  | (subst h;simp[binOp,Op.intCmp,Zuh,bne];done)
theorem Zzv{o:BinOp}{t g:TypeId}{x y:Operand}{k:IntKind}{a b:Int}{c:Bool}(hi:ops[i]?=some ⟨some d,.binOp o t x y g,ty,pos,af,gd⟩)(B:want ops e gd=some true)
 (hx:ev e x=some (.int k a)) (D:ev e y=some (.int k b)) (C:Zzm o a b=some c) (v:Nat.ble (d+1) n.sz=true)
 (hk:XD P n ops Q rest J A ((d,.bool c)::e)):XD P n ops Q (i::rest) J A e:=by
 have j:∀ a' w,Sat n e a'→Runs P ⟨some d,.binOp o t x y g,ty,pos,af,gd⟩ a' w (.bool c):=fun a' w ha=>Xp (by
  simp only[execOp,ha.ev hx,ha.ev D];exact Wz (Zna C))
 cases hcl:NE P (.binOp o t x y g)with
 | pure=>exact VA hi hcl B j (fun a ha=>ha.put v _) hk
 | read=>exact UB hi hcl B (fun a w ha _=>j a w ha) (fun a ha=>ha.put v _) hk
 | eff=>cases o <;> simp[NE]at hcl
 | wr=>cases o <;> simp[NE]at hcl
 | new=>cases o <;> simp[NE]at hcl
def Yai:BinOp→Int→Int→Option Int
 | .add,a,b=>some (a+b)
 | .sub,a,b=>some (a-b)
 | .mul,a,b=>some (a * b)
 | _,_,_=>none
theorem DZ{o:BinOp}{t v:TypeId}{x y:Operand}{k:IntKind}{a b z r:Int}(hi:ops[i]?=some ⟨some d,.binOp o t x y v,ty,pos,af,gd⟩)(F:want ops e gd=some true)
 (hx:ev e x=some (.int k a)) (D:ev e y=some (.int k b)) (g:Yai o a b=some z) (B:k.wrap z=r) (C:Nat.ble (d+1) n.sz=true)
 (hk:XD P n ops Q rest J A ((d,.int k r)::e)):XD P n ops Q (i::rest) J A e:=by
 have j:NE P (.binOp o t x y v)=.pure:=by cases o <;> first|rfl|(cases g;done)
 refine VA hi j F (fun a' w ha=>Xp ?_) (fun a ha=>ha.put C _) hk;simp only[execOp,ha.ev hx,ha.ev D];subst B;cases o <;> simp only[Yai,G1]at g <;> first
  | (cases g;done)
  | (subst g;rw[Sem.run_bind];simp[eqGuard,binOp,Op.intArith];done)
theorem Po{k:IntKind}{z:Int}(h:k=.i64)(d:-9223372036854775808≤z∧z≤9223372036854775807):k.wrap z=z:=by
 subst h;have:=IntWalk.i64_in z d;exact this
theorem Hv(s t:ByteArray):(s.toList == t.toList)=decide (s=t):=by
 by_cases h:s=t
 ·subst h;simp
 simp only[h,decide_false];rw[beq_eq_false_iff_ne];intro d;apply h;have:=A9 List.toArray d;rw[ByteArray.toList_eq,ByteArray.toList_eq]at this;exact ByteArray.ext (by simpa using this)
def Zzl:BinOp→ByteArray→ByteArray→Option Bool
 | .eql,a,b=>some (decide (a=b))
 | .neq,a,b=>some (!decide (a=b))
 | _,_,_=>none
theorem Zzr{o:BinOp}{t v:TypeId}{x y:Operand}{a b:ByteArray}{c:Bool}(hi:ops[i]?=some ⟨some d,.binOp o t x y v,ty,pos,af,gd⟩)(F:want ops e gd=some true)
 (hx:ev e x=some (.string a)) (D:ev e y=some (.string b)) (g:Zzl o a b=some c) (C:Nat.ble (d+1) n.sz=true)
 (hk:XD P n ops Q rest J A ((d,.bool c)::e)):XD P n ops Q (i::rest) J A e:=by
 have B:∀ a' w,Sat n e a'→Runs P ⟨some d,.binOp o t x y v,ty,pos,af,gd⟩ a' w (.bool c):=fun a' w ha=>Xp (by
  simp only[execOp,ha.ev hx,ha.ev D];cases o <;> simp only[Zzl,G1]at g <;> first
   | (cases g;done)
   | (subst g;rw[Sem.run_bind];simp[eqGuard,binOp,Op.stringOp,Hv];done))
 have j:NE P (.binOp o t x y v)=.read:=by cases o <;> first|rfl|(cases g;done)
 exact UB hi j F (fun a w ha _=>B a w ha) (fun a ha=>ha.put C _) hk
theorem Zzt{t:TypeId}{x:Operand}{b:Bool}(hi:ops[i]?=some ⟨some d,.unOp .not t x,ty,pos,af,gd⟩)(j:want ops e gd=some true)(hx:ev e x=some (.bool b))(g:Nat.ble (d+1) n.sz=true)
 (hk:XD P n ops Q rest J A ((d,.bool (!b))::e)):XD P n ops Q (i::rest) J A e :=
 VA hi rfl j (fun a' w ha=>Xp (by simp only[execOp,ha.ev hx];rfl)) (fun a ha=>ha.put g _) hk
theorem Hy{x:Operand}{a:Addr}(hi:ops[i]?=some ⟨some d,.nilCheck x,ty,pos,af,gd⟩)(g:want ops e gd=some true)(hx:ev e x=some (.pointer (some a)))(j:Nat.ble (d+1) n.sz=true)
 (hk:XD P n ops Q rest J A ((d,.pointer (some a))::e)):XD P n ops Q (i::rest) J A e :=
 VA hi rfl g (fun a' w ha=>Xp (by simp only[execOp,ha.ev hx];rfl)) (fun a ha=>ha.put j _) hk
theorem Zkz{t:Operand}{g:Nat}{vs:Array Value}{v:Value}(hi:ops[i]?=some ⟨some d,.extract t g,ty,pos,af,gd⟩)(B:want ops e gd=some true)(hx:ev e t=some (.tuple vs))(j:vs[g]?=some v)
 (y:Nat.ble (d+1) n.sz=true) (hk:XD P n ops Q rest J A ((d,v)::e)):XD P n ops Q (i::rest) J A e :=
 VA hi rfl B (fun a' w ha=>Xp (by simp only[execOp,ha.ev hx];exact Wz (by simp[Instr.extract,j]))) (fun a ha=>ha.put y _) hk
theorem KK{s:TypeId}{f k b off:Nat}{w:World}(j:Zjb P s f=some k):(Instr.fieldAt s (.pointer (some ⟨b,off,none⟩)) f).run P w=.ok (.pointer (some ⟨b,off+k,none⟩)) w:=by
 obtain⟨v,fd,it,hu,g,d,hne,rfl⟩:=Zja j;unfold Instr.fieldAt;rw[ZY (YP hu)];simp only[g];rw[Sem.run_bind];show(Result.ok _ w).andThen _=_;rw[Result.andThen_ok];unfold fieldPlace;rw[Sem.run_bind,Sem.run_bind,Th d,Result.andThen_ok,A4 hne];show(Result.ok _ w).andThen _=_;rw[Result.andThen_ok,Addr.add_lit];rfl
theorem JR{s:TypeId}{x:Operand}{f k b off:Nat}(hi:ops[i]?=some ⟨some d,.fieldAddr s x f,ty,pos,af,gd⟩)(v:want ops e gd=some true)(hx:ev e x=some (.pointer (some ⟨b,off,none⟩)))
 (j:Zjb P s f=some k) (g:Nat.ble (d+1) n.sz=true) (hk:XD P n ops Q rest J A ((d,.pointer (some ⟨b,off+k,none⟩))::e)):XD P n ops Q (i::rest) J A e :=
 VA hi rfl v (fun a' w ha=>Xp (by simp only[execOp,ha.ev hx];exact Wz (KK j))) (fun a ha=>ha.put g _) hk
theorem Zkx{t:TypeId}{x:Operand}{b off m:Nat}{agg:Bool}{r r':Segs}{T:TypeId}{v:Value}{j:Mem}{g:Hp}(hi:ops[i]?=some ⟨some d,.load t x,ty,pos,af,gd⟩)(D:want ops e gd=some true)
 (hx:ev e x=some (.pointer (some ⟨b,off,none⟩))) (hb:(b,Yp r T)∈g) (B:lay P t=some (agg,m)) (hs:Segs.sub r off m=some r') (C:Sp agg r'=some v)
 (y:Nat.ble (d+1) n.sz=true) (hk:XD P n ops Q rest (St j g) A ((d,v)::e)):XD P n ops Q (i::rest) (St j g) A e :=
 UB hi rfl D (fun a' w ha hw=>Xp (by
  simp only[execOp,ha.ev hx];obtain⟨h1,h2⟩:=Segs.sub_cells hs;obtain⟨_,_,_,_,h3⟩:=Segs.sub_spec hs;exact Wz (ST (hw.own _ _ hb) B h1 h3 C))) (fun a ha=>ha.put y _) hk
theorem UE{t:TypeId}{x y:Operand}{b off m:Nat}{agg:Bool}{r q u:Segs}{T:TypeId}{v:Value}(hi:ops[i]?=some ⟨none,.store t x y,ty,pos,af,gd⟩)(R:want ops e gd=some true)
 (hx:ev e x=some (.pointer (some ⟨b,off,none⟩))) (L:ev e y=some v) (O:Parts v q) (B:flat q) (hu:Upd b (Yp r T) (Yp u T) H H') (K:lay P t=some (agg,m)) (D:Segs.len q=m) (hs:Segs.put r off q=some u)
 (hk:XD P n ops Q rest (St M H') ⟨M,H'⟩ e) (d:n.wrs.contains i=false:=by rfl):XD P n ops Q (i::rest) J ⟨M,H⟩ e:=by
 refine SK hi rfl R (fun a w ha hw=>?_) d;obtain⟨g,h1,h2,h3,j⟩:=LD (P:=P) (hw.own _ _ hu.mem) K O B D hs;unfold Oper.does;have:(execOp a.eval ⟨none,.store t x y,ty,pos,af,gd⟩).run P w=.ok .skip g:=by
  simp only[execOp,ha.ev hx,ha.ev L];rw[ZY h1];rfl
 rw[this];exact⟨⟨M,H'⟩,e,hw.upd hu h2 (fun c F z C=>by rw[h3 c F];exact C) j,ha,hk⟩
theorem IB{t:TypeId}{v:Value}{w:World}:(newVar t v).run P w=.ok ⟨w.heap.size,0,none⟩ (w.alloc (.cells v.cells t)):=rfl
theorem Zya{T:TypeId}{x:Operand}{v:Value}{r:Segs}(hi:ops[i]?=some ⟨some d,.box T x,ty,pos,af,gd⟩)(y:want ops e gd=some true)(hx:ev e x=some v)(g:Parts v r)(j:Nat.ble (d+1) n.sz=true)
 (hk:∀ b,XD P n ops Q rest J ⟨M,(b,Yp r T)::H⟩ ((d,.pointer (some ⟨b,0,none⟩))::e)):XD P n ops Q (i::rest) J ⟨M,H⟩ e:=by
 refine Zxv (x:=Yp r T) hi rfl y (fun a ha w=>?_) (e':=fun b=>(d,.pointer (some ⟨b,0,none⟩))::e) (fun a b ha=>ha.put j _) hk;simp only[execOp,ha.ev hx];refine Wz ?_;unfold Instr.box;rw[Sem.run_bind,IB,Result.andThen_ok,g.cells];rfl
theorem Zlg{T:TypeId}{z:Value}{r:Segs}(hi:ops[i]?=some ⟨some d,.alloc T,ty,pos,af,gd⟩)(B:want ops e gd=some true)(g:XP P T=some z)(y:Parts z r)(v:Nat.ble (d+1) n.sz=true)
 (hk:∀ b,XD P n ops Q rest J ⟨M,(b,Yp r T)::H⟩ ((d,.pointer (some ⟨b,0,none⟩))::e)):XD P n ops Q (i::rest) J ⟨M,H⟩ e:=by
 refine Zxv (x:=Yp r T) hi rfl B (fun a ha w=>?_) (e':=fun b=>(d,.pointer (some ⟨b,0,none⟩))::e) (fun a b ha=>ha.put v _) hk;refine Wz ?_;unfold XP at g;split at g
 ·rename_i it j;unfold Instr.alloc;have:(zeroValue T).run P w=.ok z w:=by simp[zeroValue,typeInfo,j,g]
  rw[Sem.run_bind,this,Result.andThen_ok];rw[Sem.run_bind,IB,Result.andThen_ok,y.cells];rfl
 cases g
inductive EvParts (e:Env):List (Nat×Operand)→List (Nat×Segs)→Prop
  | nil:EvParts e [] []
  | cons {k:Nat} {x:Operand} {v:Value} {r:Segs} {xs:List (Nat×Operand)} {ps:List (Nat×Segs)}:ev e x=some v→Parts v r→EvParts e xs ps→EvParts e ((k,x)::xs) ((k,r)::ps)
theorem EvParts.run{a:Act}(ha:Sat n e a):∀{xs:List (Nat×Operand)} {ps:List (Nat×Segs)},EvParts e xs ps→PartsL ps (xs.map fun p=>(p.1,a.eval p.2))
 | _,_,.nil=>.nil
 | _,_,.cons hx hp hr=>by
  rw[D3,ha.ev hx];exact .cons hp (EvParts.run ha hr)
theorem XN{T:TypeId}{xs:List (Nat×Operand)}{ps:List (Nat×Segs)}{j g:List Segs}(hi:ops[i]?=some ⟨some d,.build T xs.toArray,ty,pos,af,gd⟩)(y:want ops e gd=some true)
 (hb:Bld P T j) (hx:EvParts e xs ps) (hs:UX j ps=some g) (v:Nat.ble (d+1) n.sz=true) (hk:XD P n ops Q rest J A ((d,WX (cat g))::e)):XD P n ops Q (i::rest) J A e :=
 VA hi rfl y (fun a' w ha=>Xp (by
  simp only[execOp];refine Wz ?_;have:=hb.built (hx.run ha) hs;exact run_build w T _ _ (by simpa using this))) (fun a ha=>ha.put v _) hk
theorem Zku{t:TypeId}(hi:ops[i]?=some ⟨some d,.makeMap t none,ty,pos,af,gd⟩)(v:want ops e gd=some true)(j:Nat.ble (d+1) n.sz=true)
 (hk:∀ b,XD P n ops Q rest J ⟨M,(b,.map #[] 0)::H⟩ ((d,.map (some b))::e)):XD P n ops Q (i::rest) J ⟨M,H⟩ e:=by
 refine Zag (x:=.map #[] 0) (g:=fun b=>.map (some b)) hi rfl v (fun a ha w=>?_) (e':=fun b=>(d,.map (some b))::e) (fun a b ha=>ha.put j _) hk;rfl
theorem Rv {f : FuncId} {xs : Array Operand} {ats : Array TypeId} {a : Act} {w : World} {vs : List Value} {fn : Func} {K : Value → World → Prop} (hf : P.funcs[f]? = some fn) (hb : fn.body.isSome = true) (hn : (fn.name == "runtime.NumGoroutine") = false)
 (hv:xs.toList.map a.eval=vs) (h:Calls P f vs.toArray w fun e w'=>∃ v,e=.returned v∧K v w') :
 Oper.does P ⟨dst,.call ⟨.value (.func f),xs,ats⟩,ty,pos,af,gd⟩ a w K:=by
 unfold Oper.does;have:(execOp a.eval ⟨dst,.call ⟨.value (.func f),xs,ats⟩,ty,pos,af,gd⟩).run P w=.ok (.enter f vs.toArray) w:=by
  have e:#[]++xs.map a.eval++#[]=vs.toArray:=by
   apply Array.ext';simp[hv]
  rw[execOp_call_go,e];unfold callFunc;rw[Sem.run_bind];show(Result.ok P w).andThen _=_;rw[Result.andThen_ok];simp only[hf,hn];have:fn.body.isNone=false:=by cases h':fn.body <;> simp_all
  simp only[this];rfl
 grind
def Ta(P:Program)(f:FuncId):Bool:=match P.funcs[f]? with
 | some fn => fn.body.isSome && !(fn.name == "runtime.NumGoroutine")
 | none=>false
theorem Ub {f : FuncId} (h : Ta P f = true) : ∃ fn, P.funcs[f]? = some fn ∧ fn.body.isSome = true ∧ (fn.name == "runtime.NumGoroutine") = false := by
 unfold Ta at h;grind
theorem PV(F A B:Hp):(F++(A++B)).Perm (A++(F++B)):=by
 rw[← B5,← B5];exact List.Perm.append_right B List.perm_append_comm
theorem Zur{f:FuncId}{xs:List Operand}{g:Array TypeId}{vs:List Value}{R:Value→Prop}(hi:ops[i]?=some ⟨some d,.call ⟨.value (.func f),xs.toArray,g⟩,ty,pos,af,gd⟩)(D:want ops e gd=some true)
 (C:Ta P f=true) (hx:evs e xs=some vs) (y:Fs P f vs M R) (B:Nat.ble (d+1) n.sz=true) (hk:∀ v,R v→XD P n ops Q rest J ⟨M,H⟩ ((d,v)::e)):XD P n ops Q (i::rest) J ⟨M,H⟩ e:=by
 obtain⟨fn,h1,h2,h3⟩:=Ub C;refine Zdx hi rfl D (fun a F w ha hw=>Rv h1 h2 h3 zB ?_);exact(y (F++H) w hw).mono fun e' K ⟨v,he,hs,j⟩=>⟨v,he,⟨M,H⟩,_,hs,fun _ h=>h,ha.put B v,hk v j⟩
theorem Yaz{f:FuncId}{xs:List Operand}{g:Array TypeId}{vs:List Value}{R:Mem→Value→Prop}(hi:ops[i]?=some ⟨some d,.call ⟨.value (.func f),xs.toArray,g⟩,ty,pos,af,gd⟩)(D:want ops e gd=some true)
 (C:Ta P f=true) (hx:evs e xs=some vs) (y:Fn P f vs M R) (B:Nat.ble (d+1) n.sz=true) (hk:∀ v M',M.le M'→R M' v→XD P n ops Q rest J ⟨M',H⟩ ((d,v)::e)):XD P n ops Q (i::rest) J ⟨M,H⟩ e:=by
 obtain⟨fn,h1,h2,h3⟩:=Ub C;refine Zdx hi rfl D (fun a F w ha hw=>Rv h1 h2 h3 zB ?_);exact(y (F++H) w hw).mono fun e' K ⟨v,M',he,hm,hs,j⟩=>⟨v,he,⟨M',H⟩,_,hs,fun _ h=>St.lower h hm,ha.put B v,hk v M' hm j⟩
def NN:Option Tmp→Value→Env→Env
 | some d,v,e=>(d,v)::e
 | none,_,e=>e
theorem Yba{f:FuncId}{xs:List Operand}{B:Array TypeId}{vs:List Value}{Hin g:Hp}{R:Mem→Value→Hp→Prop}{j:Mem}{y:Hp}(hi:ops[i]?=some ⟨dst,.call ⟨.value (.func f),xs.toArray,B⟩,ty,pos,af,gd⟩)(T:want ops e gd=some true)
 (O:Ta P f=true) (hx:evs e xs=some vs) (K:Fh P f vs M Hin R) (hH:H.Perm (Hin++g)) (C:∀ M' d w,M.le M'→St M' (d++g) w→St j y w)
 (L:∀ a v,Sat n e a→Sat n (NN dst v e) (a.put dst v))
 (hk:∀ v M' d,M.le M'→R M' v d→XD P n ops Q rest (St j y) ⟨M',d++g⟩ (NN dst v e)):XD P n ops Q (i::rest) (St j y) ⟨M,H⟩ e:=by
 obtain⟨fn,h1,h2,h3⟩:=Ub O;refine Zai hi rfl T (fun _ a F w ha hw=>Rv h1 h2 h3 zB ?_);exact(K (F++g) w (hw.perm0 ((hH.append_left F).trans (PV F Hin g)))).mono fun e' U ⟨v,M',d,he,hm,hs,D⟩=>⟨v,he,⟨M',d++g⟩,_,hs.perm0 (PV F d g).symm,fun u hu=>C M' d u hm hu,L a v ha,hk v M' d hm D⟩
theorem Zvp{x y:Code}(h:C P n x (Exit.then (y.wpIn (Fr n.ro) 0 P Q) Q) S e):C P n (.seq x y) Q S e:=fun a w ha hw=>wpIn_seq (h a w ha hw)
theorem Zyp(h:K n Q .normal S e):C P n .skip Q S e:=fun a w ha hw=>wpIn_skip (h a w ha hw)
theorem Zvq{l:Nat}(h:K n Q .normal S e):C P n (.label l) Q S e:=fun a w ha hw=>wpIn_label (h a w ha hw)
theorem Zyr{id:Nat}(h:K n Q (.exit id) S e):C P n (.exit id) Q S e:=fun a w ha hw=>wpIn_exit (h a w ha hw)
theorem Yad(h:K n Q .ret S e):C P n .ret Q S e:=fun a w ha hw=>wpIn_ret (h a w ha hw)
theorem Zvs{id:Nat}{c:Code}(h:C P n c (Exit.inBlock id Q) S e):C P n (.block id c) Q S e:=fun a w ha hw=>wpIn_block (h a w ha hw)
theorem Zyt{c:Operand}{x y:Code}{b:Bool}(d:ev e c=some (.bool b))(ht:b=true→C P n x Q S e)(g:b=false→C P n y Q S e):C P n (.cond c x y) Q S e :=
 fun a w ha hw=>wpIn_cond_split (ha.ev d) (fun h=>ht h a w ha hw) (fun h=>g h a w ha hw)
theorem Zyo{c:Operand}{x y:Code}(d:ev e c=some (.bool true))(ht:C P n x Q S e):C P n (.cond c x y) Q S e :=
 fun a w ha hw=>wpIn_cond_true (ha.ev d) (ht a w ha hw)
theorem Zvr{c:Operand}{x y:Code}(d:ev e c=some (.bool false))(g:C P n y Q S e):C P n (.cond c x y) Q S e :=
 fun a w ha hw=>wpIn_cond_false (ha.ev d) (g a w ha hw)
theorem Zlq{y:Code}(h:C P n y Q S e):K n (Exit.then (y.wpIn (Fr n.ro) 0 P Q) Q) .normal S e:=h
theorem Zzz{N:Act→World→Prop}(h:K n Q .ret S e):K n (Exit.then N Q) .ret S e:=h
theorem Zyj{N:Act→World→Prop}{id:Nat}(h:K n Q (.exit id) S e):K n (Exit.then N Q) (.exit id) S e:=h
theorem Yab{id:Nat}(h:K n Q .normal S e):K n (Exit.inBlock id Q) (.exit id) S e:=fun a w ha hw=>by simp only[Exit.inBlock,if_true];exact h a w ha hw
theorem Qr{id d:Nat}(hne:d≠id)(h:K n Q (.exit d) S e):K n (Exit.inBlock id Q) (.exit d) S e:=fun a w ha hw=>by simp only[Exit.inBlock,hne,if_false];exact h a w ha hw
theorem Yaa{id:Nat}(h:K n Q .normal S e):K n (Exit.inBlock id Q) .normal S e:=h
theorem Zyi{id:Nat}(h:K n Q .ret S e):K n (Exit.inBlock id Q) .ret S e:=h
theorem Zlx{c:Code}{d:World→Prop}{e':Env}(he:∀ a,Sat n e a→Sat n e' a)(g:∀ w,S w→d w)(h:C P n c Q d e'):C P n c Q S e:=fun a w ha hw=>h a w (he a ha) (g w hw)
inductive Pick (e:Env):Env→Prop
  | nil:Pick e []
  | cons {k:Nat} {v:Value} {r:Env}:get e k=some v→Pick e r→Pick e ((k,v)::r)
theorem Pick.get{e e':Env}(h:Pick e e'):∀ k v,Esp.get e' k=some v→Esp.get e k=some v:=by
 induction h with
 | nil=>intro k v hk;cases hk
 | cons hg _ ih =>
  intro k v hk;unfold Esp.get at hk;split at hk
  ·rename_i hb;have:=F8 hb;subst this;obtain rfl:=A5 hk;exact hg
  exact ih k v hk
theorem Sat.pick{a:Act}{e':Env}(ha:Sat n e a)(h:Pick e e'):Sat n e' a:=⟨ha.size,ha.defers,fun k v hk=>ha.slot k v (h.get k v hk)⟩
theorem Zyq{c:Code}{e':Env}(h:Pick e e')(hk:C P n c Q S e'):C P n c Q S e:=Zlx (fun _ ha=>ha.pick h) (fun _ h=>h) hk
inductive Spl:Env→Env→Env→Prop
  | zero {e:Env}:Spl e [] e
  | succ {x:Nat×Value} {e a b:Env}:Spl e a b→Spl (x::e) (x::a) b
theorem Spl.eq{e a b:Env}(h:Spl e a b):e=a++b:=by
 induction h with
 | zero=>rfl
 | succ _ ih=>simp[ih]
def Zvg{α:Type}(n:Sh)(e0:Env)(I:α→(World→Prop)→Env→Prop)(μ:α→Nat)(x:α):Act→World→Prop :=
 fun A w=>∃ y S' a',I y S' a'∧μ y<μ x∧Sat n (a'++e0) A∧S' w
theorem Zrx{α:Type}{c:Code}{a0 D:Env}(hs:Spl e a0 D)(I:α→(World→Prop)→Env→Prop)(μ:α→Nat)(Z:α)(h0:I Z S a0)
 (round:∀ x S a,I x S a→C P n c (Exit.then (Zvg n D I μ x) Q) S (a++D)):C P n (.loop c) Q S e:=by
 intro a w ha hw b k cs U hb O;have key:∀ m a w,(∃ x S z,I x S z∧μ x=m∧Sat n (z++D) a∧S w) →
  ∃ e a' B,Q e a' B∧ArrivesIn (Machine.fenced P (Fr n.ro)) P (lone (b.atR a (.code c::.inLoop c::k)) cs w) b k cs e a' B:=by
  intro m
  induction m using Nat.strongRecOn with
  | _ m ih =>
   rintro a w ⟨x,S,z,hI,K,ha,hw⟩;subst K;obtain⟨ex,a₁,v,g,d⟩:=round x S z hI a w ha hw b (.inLoop c::k) cs U hb O;cases ex with
   | normal =>
    obtain⟨y,S',z',R,F,V,L⟩:=g;obtain⟨e₂,a₂,w₂,T,j⟩:=ih (μ y) F a₁ v ⟨y,S',z',R,rfl,V,L⟩;exact⟨e₂,a₂,w₂,T,.of_steps (StepsIn.trans d (.one (fenced_calm hb O rfl) stepR_inLoop)) j⟩
   | exit id=>exact⟨_,a₁,v,g,.pass (x:=.inLoop c) rfl (fun _ _=>.inl jQ) d⟩
   | goto l=>exact⟨_,a₁,v,g,.pass (x:=.inLoop c) rfl (fun _ _=>.inl jQ) d⟩
   | ret=>exact⟨_,a₁,v,g,.pass (x:=.inLoop c) rfl (fun _ _=>.inl jQ) d⟩
   | panic ch=>exact⟨_,a₁,v,g,.pass (x:=.inLoop c) rfl (fun _ _=>.inl jQ) d⟩
   | outgrown=>exact⟨_,a₁,v,g,.pass (x:=.inLoop c) rfl (fun _ _=>.inl jQ) d⟩
 obtain⟨e',a',B,g,d⟩:=key _ a w ⟨Z,S,a0,h0,rfl,hs.eq ▸ ha,hw⟩;exact⟨e',a',B,g,.of_steps (.one (fenced_calm hb O rfl) stepR_loop) d⟩
theorem HD{args:List Value}{m:Nat}:∀ k v,args[k]?=some v→(args.toArray++Array.replicate (m-args.toArray.size) undef).getD k undef=v:=by
 intro k v hk;have d:=(C4.1 hk).1;have:(args.toArray++Array.replicate (m-args.toArray.size) undef)[k]?=some v:=by
  rw[Array.getElem?_append_left (by simpa using d)];simpa using hk
 simp_all
def RJ:Nat→List Value→Env
 | _,[]=>[]
 | k,v::vs=>(k,v)::RJ (k+1) vs
theorem Or:∀(vs:List Value) (k j:Nat) (v:Value),get (RJ k vs) j=some v→k≤j∧vs[j-k]?=some v
 | [],k,j,v,h=>by cases h
 | x::vs,k,j,v,h=>by
  unfold RJ Esp.get at h;split at h
  ·rename_i hb;have:=F8 hb;subst this;obtain rfl:=A5 h;simp
  obtain⟨h1,h2⟩:=Or vs (k+1) j v h;refine⟨by omega,?_⟩;rw[show j-k=(j-(k+1))+1 by omega];simpa using h2
theorem enter{f:FuncId}{fn:Func}{c:Code}{vs:List Value}{w:World}{R:Ending→World→Prop}{m:Nat}(g:P.funcs[f]?=some fn)(hb:fn.body=some c)(hm:fn.ntmps=m)(hle:Nat.ble vs.length m=true)
 (hw:S w) (h:C P ⟨m,[],none,[]⟩ c (bodyPost P fn R) S (RJ 0 vs)):Calls P f vs.toArray w R:=by
 have d:vs.length≤m:=D1 hle;refine calls_of_wp g hb (wpIn_wide.1 (h _ w ⟨?_,rfl,fun k v hk=>?_⟩ hw))
 ·grind
 rw[hm];obtain⟨_,h2⟩:=Or vs 0 k v hk;exact HD k v (by simpa using h2)
theorem Xa{f:FuncId}{fn:Func}{c:Code}{vs:List Value}{R:Value→Prop}{m:Nat}(g:P.funcs[f]?=some fn)(hb:fn.body=some c)(hm:fn.ntmps=m)(hle:Nat.ble vs.length m=true)
 (h:∀ H,C P ⟨m,[],none,[]⟩ c (bodyPost P fn fun e d=>∃ v,e=.returned v∧St M H d∧R v) (St M H) (RJ 0 vs)):Fs P f vs M R :=
 fun H _ hw=>enter (S:=St M H) g hb hm hle hw (h H)
theorem WE{f:FuncId}{fn:Func}{c:Code}{vs:List Value}{R:Mem→Value→Prop}{m:Nat}(g:P.funcs[f]?=some fn)(hb:fn.body=some c)(hm:fn.ntmps=m)(hle:Nat.ble vs.length m=true)
 (h:∀ H,C P ⟨m,[],none,[]⟩ c (bodyPost P fn fun e d=>∃ v M',e=.returned v∧M.le M'∧St M' H d∧R M' v) (St M H) (RJ 0 vs)):Fn P f vs M R :=
 fun H _ hw=>enter (S:=St M H) g hb hm hle hw (h H)
theorem Uu{f:FuncId}{fn:Func}{c:Code}{vs:List Value}{Hin:Hp}{R:Mem→Value→Hp→Prop}{m:Nat}(j:P.funcs[f]?=some fn)(hb:fn.body=some c)(hm:fn.ntmps=m)(hle:Nat.ble vs.length m=true)
 (h:∀ H,C P ⟨m,[],none,[]⟩ c (bodyPost P fn fun e g=>∃ v M' d,e=.returned v∧M.le M'∧St M' (d++H) g∧R M' v d) (St M (Hin++H)) (RJ 0 vs)):Fh P f vs M Hin R :=
 fun H _ hw=>enter (S:=St M (Hin++H)) j hb hm hle hw (h H)
inductive Res (P:Program) (e:Env) (H:Hp):List ResultVar→List Value→Prop
  | nil:Res P e H [] []
  | tmp {t:Tmp} {v:Value} {rs:List ResultVar} {vs:List Value}:get e t=some v→Res P e H rs vs→Res P e H (.tmp t::rs) (v::vs)
  | cell {a:Tmp} {t T:TypeId} {b off m:Nat} {agg:Bool} {r r':Segs} {v:Value} {rs:List ResultVar} {vs:List Value}:get e a=some (.pointer (some ⟨b,off,none⟩))→(b,Yp r T)∈H→lay P t=some (agg,m)→Segs.sub r off m=some r'→Sp agg r'=some v →
      Res P e H rs vs→Res P e H (.cell a t::rs) (v::vs)
def IF(tmps:Array Value):ResultVar→Sem Value
 | .tmp t=>pure (tmps.getD t undef)
 | .cell a t=>do loadVar t (← asAddr (tmps.getD a undef))
theorem Res.run{a:Act}{w:World}(ha:Sat n e a)(hw:St M H w){rs:List ResultVar}{vs:List Value}(h:Res P e H rs vs):(rs.mapM (IF a.tmps)).run P w=.ok vs w:=by
 induction h with
 | nil=>simp
 | @tmp t v rs vs hg hr ih =>
  have h1:(IF a.tmps (.tmp t)).run P w=.ok v w:=by rw[← ha.slot _ _ hg];rfl
  rw[List.mapM_cons,ZY h1,Sem.run_bind,ih,Result.andThen_ok];rfl
 | @cell x t T b off m agg r r' v rs vs hg hb hl hs hv hr ih =>
  obtain⟨h1,h2⟩:=Segs.sub_cells hs;obtain⟨_,_,_,_,h3⟩:=Segs.sub_spec hs;have:=LE (P:=P) (hw.own _ _ hb) hl h1 h3 hv;have d:(IF a.tmps (.cell x t)).run P w=.ok v w:=by
   show(do loadVar t (← asAddr (a.tmps.getD x undef)):Sem Value).run P w=_;rw[ha.slot _ _ hg,Sem.run_bind];exact this
  rw[List.mapM_cons,ZY d,Sem.run_bind,ih,Result.andThen_ok];rfl
def Zmb:List Value→Value
 | [v]=>v
 | vs=>.tuple vs.toArray
theorem Zec{n:Nat}{fn:Func}{R:Ending→World→Prop}{x:Exit}{vs:List Value}(hx:x=.normal∨x=.ret)(g:Res P e H fn.results.toList vs)(h:∀ w,St M H w→R (.returned (Zmb vs)) w):
 K ⟨n,[],none,[]⟩ (bodyPost P fn R) x (St M H) e:=by
 intro a w ha hw;have d:(results fn a.tmps).run P w=.ok (Zmb vs) w:=by
  have h1:=Res.run (P:=P) ha hw g;have h2:results fn a.tmps=(do let vs ← fn.results.mapM (IF a.tmps);pure (if h:vs.size=1 then vs[0]else .tuple vs)):=by
   congr 1
  rw[h2,Array.mapM_eq_mapM_toList,Sem.run_bind];rw[Sem.run_map,h1];cases vs with
  | nil=>rfl
  | cons v vs=>cases vs <;> rfl
 rcases hx with rfl|rfl <;> exact⟨ha.defers,_,d,h w hw⟩
end
end Go.Esp
namespace Go.Esp
def ZV:List Segs→List Value
 | []=>[]
 | r::rs=>Segs.cells r++ZV rs
theorem XJ:∀ a b:List Segs,ZV (a++b)=ZV a++ZV b
 | [],_=>rfl
 | x::a,b=>by simp[ZV,XJ a b]
theorem RM:∀ a:List Segs,Segs.cells (cat a)=ZV a
 | []=>rfl
 | x::a=>by simp[cat,Segs.cells_append,ZV,RM a]
def lens(sz:Nat)(rows:List Segs):Prop:=∀ r∈rows,Segs.len r=sz
theorem lens.append{sz:Nat}{a b:List Segs}(ha:lens sz a)(hb:lens sz b):lens sz (a++b):=fun r d=>by
 rcases B8.1 d with h|h
 ·exact ha r h
 exact hb r h
theorem YU{sz:Nat}:∀{rows:List Segs},lens sz rows→(ZV rows).length=rows.length * sz
 | [],_=>by simp[ZV]
 | r::rs,h=>by
  simp only[ZV,B3,C8,Segs.cells_length,h r (.head _),YU (fun x hx=>h x (.tail _ hx)),F4];omega
theorem Rp{sz:Nat}:∀{rows:List Segs} {i:Nat} {r:Segs},lens sz rows→rows[i]?=some r→((ZV rows).drop (i * sz)).take sz=Segs.cells r
 | [],i,r,_,h=>by simp at h
 | x::rs,0,r,hl,h=>by
  simp at h;subst h;have:=hl x (.head _);simp[ZV,← this,← Segs.cells_length]
 | x::rs,i+1,r,hl,h=>by
  have:=hl x (.head _);simp only[ZV];rw[show(i+1) * sz=(Segs.cells x).length+i * sz by rw[Segs.cells_length,this,F4];omega,List.drop_append];simp only[Nat.add_sub_cancel_left];rw[List.drop_of_length_le jD,B6];exact Rp (fun y d=>hl y (.tail _ d)) zL
structure SlM (M:Mem) (a:Option Addr) (rows:List Segs) (sz:Nat):Prop where
  lens:lens sz rows
  there:rows≠[]→∃ b off c T fz,a=some ⟨b,off,none⟩∧M b=some (.cells c T fz)∧(c.toList.drop off).take (rows.length * sz)=ZV rows
theorem SlM.mono{M M':Mem}{a:Option Addr}{rows:List Segs}{sz:Nat}(h:SlM M a rows sz)(hm:M.le M'):SlM M' a rows sz :=
 ⟨h.lens,fun d=>let ⟨b,off,c,T,fz,h1,h2,h3⟩:=h.there d;⟨b,off,c,T,fz,h1,hm.1 _ _ h2,h3⟩⟩
theorem SlM.nil(M:Mem)(a:Option Addr)(sz:Nat):SlM M a [] sz:=⟨fun r d=>(by cases d),fun h=>(h rfl).elim⟩
theorem SlM.at{M:Mem}{a:Option Addr}{rows:List Segs}{sz:Nat}(h:SlM M a rows sz){i:Nat}{r:Segs}(g:rows[i]?=some r):
 ∃ b off c T j,a=some ⟨b,off,none⟩∧M b=some (.cells c T j)∧(c.toList.drop (off+i * sz)).take sz=Segs.cells r∧Segs.len r=sz:=by
 have d:=(C4.1 g).1;obtain⟨b,off,c,T,j,h1,h2,h3⟩:=h.there (fun e=>by rw[e]at d;cases d);refine⟨b,off,c,T,j,h1,h2,?_,h.lens r (H8 g)⟩;rw[← Rp h.lens g,← h3,J7,I3,E5];have:(i+1) * sz≤rows.length * sz:=D2 _ d;grind
def Zme(a:Option Addr)(j sz off:Nat):Value:=.pointer (a.map (·.add (j * sz+off)))
theorem Ru(b o j sz off:Nat):Zme (some ⟨b,o,none⟩) j sz off=.pointer (some ⟨b,o+(j * sz+off),none⟩):=by
 simp[Zme,Addr.add_lit]
inductive OSl (T sz:Nat):Value→Hp→List Segs→Prop
  | nil:OSl T sz (.slice none 0 0) [] []
  | own (b c:Nat) (rows:List Segs) (cur:Array Value):lens sz rows→rows.length≤c→c≤maxLen→cur.size=c * sz→cur.toList.take (rows.length * sz)=ZV rows →
      OSl T sz (.slice (some ⟨b,0,none⟩) rows.length c) [(b,.cells cur T (0,0))] rows
theorem OSl.lens{T sz:Nat}{v:Value}{hs:Hp}{rows:List Segs}(h:OSl T sz v hs rows):lens sz rows:=by
 cases h with
 | nil=>intro r d;cases d
 | own _ _ _ _ h=>exact h
theorem OSl.val{T sz:Nat}{v:Value}{hs:Hp}{rows:List Segs}(h:OSl T sz v hs rows):∃ a c,v=.slice a rows.length c:=by
 cases h with
 | nil=>exact⟨_,_,rfl⟩
 | own=>exact⟨_,_,rfl⟩
inductive Rem (hs:Hp):Hp→Hp→Prop
  | here (H0:Hp):Rem hs (hs++H0) H0
  | skip {x:Nat×Obj} {H H0:Hp}:Rem hs H H0→Rem hs (x::H) (x::H0)
  | over {gs H H0:Hp}:Rem hs H H0→Rem hs (gs++H) (gs++H0)
theorem St.perm{M:Mem}{H H':Hp}{w:World}(h:St M H w)(d:H.Perm H'):St M H' w :=
 ⟨h.mem,fun b o hb=>h.own b o (d.mem_iff.2 hb),fun b o hb=>h.sep b o (d.mem_iff.2 hb),(d.map _).nodup_iff.1 h.nodup,h.io⟩
theorem Rem.perm{hs H H0:Hp}(h:Rem hs H H0):H.Perm (hs++H0):=by
 induction h with
 | here=>exact I9 _
 | @skip x H H0 _ ih=>exact(ih.cons x).trans (List.perm_middle.symm)
 | @over gs H H0 _ ih =>
  refine(ih.append_left gs).trans ?_;rw[← B5,← B5];exact(List.perm_append_comm).append_right _
theorem St.frame{M:Mem}{hs hs' H0:Hp}{w d:World}(h:St M (hs++H0) w)(h1:∀ b o,M b=some o→d.heap[b]?=some o)(h2:∀ b o,(b,o)∈H0→d.heap[b]?=some o)(h3:∀ b o,(b,o)∈hs'→d.heap[b]?=some o)
 (v:∀ b o,(b,o)∈hs'→M b=none) (j:((hs'++H0).map Prod.fst).Nodup) (g:SameIO w d):St M (hs'++H0) d :=
 ⟨h1,fun b o hb=>by rcases B8.1 hb with hb|hb;exact h3 b o hb;exact h2 b o hb,
  fun b o hb=>by rcases B8.1 hb with hb|hb;exact v b o hb;exact h.sep b o (D0 _ hb),j,g.io h.io⟩
theorem GD{w:World}{b off:Nat}{c:Array Value}{T:TypeId}{d:Nat×Nat}{xs:List Value}(hb:w.heap[b]?=some (.cells c T d)){n:Nat}(hx:(c.toList.drop off).take n=xs):
 ∀ j v,xs[j]?=some v→w.cell? ((⟨b,off,none⟩:Addr).add j)=some v:=by
 intro j v hj;rw[Addr.add_lit,Qn hb];grind
section
variable {P:Program}
theorem CE{t E sz L:Nat}{z:Value}(ht:Na P t=some (E,sz,L))(hz:XP P E=some z)(aa:z.cells.size=sz)(ab:0<sz){v:Value}{hs:Hp}{rows:List Segs}(ho:OSl E sz v hs rows)
 {a:Addr} {m c:Nat} {news:List Segs} (hl:lens sz news) (hm:news.length=m) {w:World} (Z:∀ j u,(ZV news)[j]?=some u→w.cell? (a.add j)=some u) (h1:∀ u∈ZV news,u.oneCell'=true)
 (U:rows.length+m≤maxLen) (O:(rows.length+m) * L≤140737488355328) (ty:TypeId) {M:Mem} {H0:Hp} (d:St M (hs++H0) w) :
 ∃ v' w' hs',(Builtin.append_ #[t,t] ty #[v,.slice (some a) m c]).run P w=.ok v' w'∧OSl E sz v' hs' (rows++news)∧St M (hs'++H0) w':=by
 obtain⟨i,hu,hi,rfl,rfl⟩:=Wq ht;have T:i.zero=some z:=by simpa[XP,hi]using hz
 have C:rows.length+m≤9223372036854775807:=by simp only[maxLen]at U;omega
 have B:(ZV news).length=m * i.size:=by rw[YU hl,hm]
 have y:lens i.size (rows++news):=ho.lens.append hl;have hlen:(rows++news).length=rows.length+m:=by simp[hm]
 have grown:∀ g,g<rows.length+m→∃ hs',OSl E i.size (.slice (some ⟨w.heap.size,0,none⟩) (rows.length+m) (grownCap w (rows.length+m) g E)) hs' (rows++news) ∧
  St M (hs'++H0) (w.drew.alloc (.cells ((ZV rows).toArray++(ZV news).toArray++Builtin.zeroCells z.cells (grownCap w (rows.length+m) g E-(rows.length+m))) E)):=by
  intro g hold;have F:=grownCap_ge w (rows.length+m) g E;have D:grownCap w (rows.length+m) g E≤maxLen:=grownCap_le_maxLen w (rows.length+m) g E U;have h2:St M ([(w.heap.size,.cells ((ZV rows).toArray++(ZV news).toArray++Builtin.zeroCells z.cells (grownCap w (rows.length+m) g E-(rows.length+m))) E)]++H0)
   (w.drew.alloc (.cells ((ZV rows).toArray++(ZV news).toArray++Builtin.zeroCells z.cells (grownCap w (rows.length+m) g E-(rows.length+m))) E)):=by
   have h0:St M H0 w.drew:=(d.suf (H':=H0) (Suf.app hs H0)).heap rfl ⟨rfl,rfl,rfl,Nat.le_succ _⟩;exact h0.alloc _
  refine⟨_,?_,h2⟩
  ·rw[← hlen]at F D ⊢;refine OSl.own _ _ _ _ y F D ?_ ?_
   ·simp only[Array.size_append,J2,size_zeroCells,aa,YU ho.lens,B];rw[hlen,← F4,← F4];congr 1;rw[hlen]at F;omega
   simp only[Array.toList_append];rw[← YU y,XJ];exact List.take_left
 cases ho with
 | nil =>
  by_cases hm0:m=0
  ·subst hm0;have V:news=[]:=D4 hm;subst V;refine⟨.slice none 0 0,w,[],?_,OSl.nil,d⟩;simp[Builtin.append_,run_underlying hu,sizeOf,typeInfo,hi,Builtin.lenOf,Builtin.firstCells,loadCells,loadCellsFrom]
  have K:=run_append_nil (P:=P) w t ty E i z hu hi T a m c (ZV news) B Z jD (by simp at C;omega) (by have hb:=O;simp only[D5,F2]at hb;omega);obtain⟨hs',g1,g2⟩:=grown 0 jU;simp only[D5,F2,ZV]at g1 g2 K;exact⟨_,_,hs',K,g1,by simpa using g2⟩
 | own b cap _ cur hlr hcap D hcs htake =>
  have hb:=d.own b _ (C5 _ (.head _));by_cases hroom:rows.length+m≤cap
  ·have R:rows.length * i.size+(ZV news).length≤cur.size:=by rw[B,hcs,← F4];exact D2 _ hroom
   have K:=run_append_room (P:=P) w t ty E i hu hi b rows.length cap cur hb a m c (ZV news) B Z h1 hroom R;have h2:St M ([(b,.cells (cur.toList.take (rows.length * i.size)++ZV news++cur.toList.drop (rows.length * i.size+(ZV news).length)).toArray E (0,0))]++H0)
    (w.setRow b (cur.toList.take (rows.length * i.size)++ZV news++cur.toList.drop (rows.length * i.size+(ZV news).length)).toArray):=by
    refine d.frame (hs':=[(b,_)]) (fun k o hk=>?_) (fun k o hk=>?_) (fun k o hk=>?_) (fun k o hk=>?_) ?_ (SameIO.refl _)
    ·rw[setRow_other w b k _ (fun e=>?_)]
     ·exact d.mem k o hk
     subst e;have:=d.sep k _ (C5 _ (.head _));rw[this]at hk;cases hk
    ·rw[setRow_other w b k _ (fun e=>?_)]
     ·exact d.own k o (D0 _ hk)
     subst e;have:=d.nodup;simp only[D3,B4,D9]at this;exact this.1 (C0.2 ⟨_,hk,rfl⟩)
    ·simp only[B0,I8]at hk;obtain⟨rfl,rfl⟩:=hk;exact setRow_heap w k cur _ E _ hb
    ·simp only[B0,I8]at hk;obtain⟨rfl,rfl⟩:=hk;exact d.sep k _ (C5 _ (.head _))
    simpa using d.nodup
   refine⟨_,_,_,K,?_,h2⟩
   ·rw[← hlen];refine OSl.own b cap _ _ y jD D ?_ ?_
    ·simp only[J2,B3,D8,F3,H6];omega
    rw[htake,← YU y,XJ];exact List.take_left
  have K:=run_append_grow (P:=P) w t ty E i z hu hi T ⟨b,0,none⟩ rows.length cap (ZV rows) (YU hlr) (GD hb (by simpa using htake)) a m c (ZV news) B Z jD jD (growslice_fits jD O);obtain⟨hs',g1,g2⟩:=grown cap jD;exact⟨_,_,hs',K,g1,g2⟩
end
end Go.Esp
namespace Go.Esp
section
variable {P:Program} {n:Sh} {ops:Array Oper} {Q:Exit→Act→World→Prop} {rest:List Nat} {M M':Mem} {H H':Hp} {e:Env} {J S:World→Prop} {A:As} {i:Nat}
  {dst:Option Tmp} {d:Tmp} {op:Op} {ty:TypeId} {pos:String} {af:Array Edge} {gd:Option (Nat×Bool)}
def Zln(a:Option Addr):Prop:=∃ b o,a=some ⟨b,o,none⟩
theorem SlM.plain{a:Option Addr}{rows:List Segs}{sz:Nat}(h:SlM M a rows sz)(d:0<rows.length):Zln a:=by
 obtain⟨b,off,_,_,_,h1,_⟩:=h.there (fun e=>by rw[e]at d;cases d);exact⟨b,off,h1⟩
theorem NJ{t E sz g:Nat}{x y:Operand}{a:Option Addr}{l c k:Nat}{q:IntKind}{z:Int}(hi:ops[i]?=some ⟨some d,.indexAddr t x y,ty,pos,af,gd⟩)(F:want ops e gd=some true)
 (hx:ev e x=some (.slice a l c)) (v:ev e y=some (.int q z)) (ht:Na P t=some (E,sz,g)) (K:z=(k:Int)) (hk:k<l) (ha:Zln a) (D:Nat.ble (d+1) n.sz=true)
 (C:XD P n ops Q rest J A ((d,Zme a k sz 0)::e)):XD P n ops Q (i::rest) J A e :=
 VA hi rfl F (fun a' w B=>Xp (by
  simp only[execOp,B.ev hx,B.ev v];refine Wz ?_;obtain⟨it,hu,j,rfl,_⟩:=Wq ht;obtain⟨b,o,rfl⟩:=ha;subst K;simp[Instr.indexAt,asIntOf,run_underlying hu,sizeOf,typeInfo,j,hk,Ru,Addr.add_lit])) (fun a ha=>ha.put D _) C
theorem Ih{s:TypeId}{x:Operand}{f k j sz off:Nat}{a:Option Addr}(hi:ops[i]?=some ⟨some d,.fieldAddr s x f,ty,pos,af,gd⟩)(B:want ops e gd=some true)(hx:ev e x=some (Zme a j sz off))(ha:Zln a)
 (v:Zjb P s f=some k) (g:Nat.ble (d+1) n.sz=true) (hk:XD P n ops Q rest J A ((d,Zme a j sz (off+k))::e)):XD P n ops Q (i::rest) J A e :=
 VA hi rfl B (fun a' w y=>Xp (by
  simp only[execOp,y.ev hx];obtain⟨b,o,rfl⟩:=ha;rw[Ru,Ru];have:=KK (P:=P) (w:=w) (b:=b) (off:=o+(j * sz+off)) v;rw[show o+(j * sz+(off+k))=o+(j * sz+off)+k by omega];exact Wz this)) (fun a ha=>ha.put g _) hk
theorem OSl.inv{T sz:Nat}{b l c:Nat}{hs:Hp}{rows:List Segs}(h:OSl T sz (.slice (some ⟨b,0,none⟩) l c) hs rows):
 ∃ cur,hs=[(b,.cells cur T (0,0))]∧l=rows.length∧Esp.lens sz rows∧rows.length≤c∧c≤maxLen∧cur.size=c * sz∧cur.toList.take (rows.length * sz)=ZV rows:=by
 generalize hv:Value.slice (some ⟨b,0,none⟩) l c=v at h;cases h with
 | nil=>cases hv
 | own b2 c2 rows cur h1 h2 h3 h4 h5 =>
  obtain⟨rfl,rfl,rfl⟩:=hv;exact⟨cur,rfl,rfl,h1,h2,h3,h4,h5⟩
theorem JP{t:TypeId}{x:Operand}{j sz off m:Nat}{a:Option Addr}{agg:Bool}{rows:List Segs}{r r':Segs}{v:Value}{y:Mem}{B:Hp}(hi:ops[i]?=some ⟨some d,.load t x,ty,pos,af,gd⟩)(R:want ops e gd=some true)
 (hx:ev e x=some (Zme a j sz off)) (g:SlM y a rows sz) (D:rows[j]?=some r) (O:lay P t=some (agg,m)) (hs:Segs.sub r off m=some r') (C:Sp agg r'=some v)
 (L:Nat.ble (d+1) n.sz=true) (hk:XD P n ops Q rest (St y B) A ((d,v)::e)):XD P n ops Q (i::rest) (St y B) A e :=
 UB hi rfl R (fun a' w ha hw=>Xp (by
  simp only[execOp,ha.ev hx];obtain⟨b,o,c,T,Z,rfl,h2,h3,U⟩:=g.at D;rw[Ru];obtain⟨F,V⟩:=Segs.sub_cells hs;obtain⟨_,_,_,_,K⟩:=Segs.sub_spec hs;refine Wz (ST (hw.mem _ _ h2) O ?_ K C);rw[← F,← h3,J7,I3,E5];rw[show o+(j * sz+off)=o+j * sz+off by omega];congr 1;omega)) (fun a ha=>ha.put L _) hk
theorem Zdv{t T:TypeId}{x:Operand}{j sz off m b c:Nat}{agg:Bool}{rows:List Segs}{r r':Segs}{v:Value}{K:Mem}{B D hs:Hp}(hi:ops[i]?=some ⟨some d,.load t x,ty,pos,af,gd⟩)(hg:want ops e gd=some true)
 (hx:ev e x=some (Zme (some ⟨b,0,none⟩) j sz off)) (ho:OSl T sz (.slice (some ⟨b,0,none⟩) rows.length c) hs rows) (hH:Rem hs B D) (F:rows[j]?=some r) (V:lay P t=some (agg,m)) (g:Segs.sub r off m=some r') (L:Sp agg r'=some v)
 (U:Nat.ble (d+1) n.sz=true) (hk:XD P n ops Q rest (St K B) A ((d,v)::e)):XD P n ops Q (i::rest) (St K B) A e :=
 UB hi rfl hg (fun a' w ha hw=>Xp (by
  simp only[execOp,ha.ev hx];have C:=hw.perm hH.perm;obtain⟨cur,rfl,_,h1,h2,h3,h4,O⟩:=ho.inv
  ·have hb:=C.own b _ (C5 _ (.head _));rw[Ru];obtain⟨Z,h8⟩:=Segs.sub_cells g;obtain⟨_,_,_,_,R⟩:=Segs.sub_spec g;refine Wz (ST hb V ?_ R L);have y:=(C4.1 F).1;have aa:=h1 r (H8 F);rw[← Z,← Rp h1 F,← O];simp only[J7,I3,E5,F2];congr 1;have:(j+1) * sz≤rows.length * sz:=D2 _ y;rw[F4]at this;omega)) (fun a ha=>ha.put U _) hk
theorem Zpv{t E sz j:Nat}{x:Operand}{a:Option Addr}{l c:Nat}{g:Array TypeId}(hi:ops[i]?=some ⟨some d,.call ⟨.builtin .len,#[x],g⟩,ty,pos,af,gd⟩)(B:want ops e gd=some true)
 (hx:ev e x=some (.slice a l c)) (v:g[0]?=some t) (ht:Na P t=some (E,sz,j)) (y:Nat.ble (d+1) n.sz=true) (hk:XD P n ops Q rest J A ((d,.int .i64 (l:Int))::e)):XD P n ops Q (i::rest) J A e :=
 UB hi rfl B (fun a' w ha _=>Xp (by
  obtain⟨it,hu,_⟩:=Wq ht;simp only[execOp,resolve];simp[invoke,builtin,Builtin.len_,ha.ev hx,v,run_underlying hu,goInt])) (fun a ha=>ha.put y _) hk
theorem DV{t:Nat}{x:Operand}{s:ByteArray}{g:Array TypeId}(hi:ops[i]?=some ⟨some d,.call ⟨.builtin .len,#[x],g⟩,ty,pos,af,gd⟩)(y:want ops e gd=some true)
 (hx:ev e x=some (.string s)) (j:g[0]?=some t) (ht:P.underlying t=some .string) (v:Nat.ble (d+1) n.sz=true) (hk:XD P n ops Q rest J A ((d,.int .i64 (s.size:Int))::e)):XD P n ops Q (i::rest) J A e :=
 UB hi rfl y (fun a' w ha _=>Xp (by
  simp only[execOp,resolve];simp[invoke,builtin,Builtin.len_,ha.ev hx,j,run_underlying ht,goInt])) (fun a ha=>ha.put v _) hk
def IK(f:Nat→Value)(sz i:Nat):Segs:=(List.range sz).map fun j=>.one (f (i * sz+j))
theorem OE(f:Nat→Value)(i:Nat):∀ sz,Segs.len (IK f sz i)=sz:=by
 intro sz;unfold IK;have:∀ l:List Nat,Segs.len (l.map fun j=>Seg.one (f (i * sz+j)))=l.length:=by
  intro l;induction l with
  | nil=>rfl
  | cons x l ih=>simp[Segs.len,Seg.len];omega
 grind
theorem EH(f:Nat→Value)(sz i:Nat):Segs.cells (IK f sz i)=(List.range sz).map fun j=>f (i * sz+j):=by
 unfold IK;generalize List.range sz=l
 induction l with
 | nil=>rfl
 | cons x l ih=>simp[Segs.cells,Seg.cells,ih]
def Se(f:Nat→Value)(sz k:Nat):List Segs:=(List.range k).map (IK f sz)
theorem PA(f:Nat→Value)(sz:Nat):∀ k,ZV (Se f sz k)=(List.range (k * sz)).map f
 | 0=>by simp[Se,ZV]
 | k+1=>by
  have d:=PA f sz k;unfold Se at d ⊢;rw[List.range_succ,C6,XJ,d,F4,Nat.one_mul,List.range_add,C6];congr 1;simp[ZV,EH]
theorem EK(f:Nat→Value)(sz:Nat):∀(l:List Nat) (i:Nat),i≤l.length→Ea (l.map (IK f sz)) i=i * sz
 | _,0,_=>by simp[Ea]
 | [],i+1,h=>by simp at h
 | x::l,i+1,h=>by simp[Ea,OE,EK f sz l i zL,F4];omega
theorem LC:∀{j d:List Segs} {ps:List (Nat×Segs)} {sz:Nat},UX j ps=some d→lens sz j→lens sz d∧d.length=j.length
 | j,d,[],sz,h,hl=>by
  obtain rfl:=A5 h;exact⟨hl,rfl⟩
 | j,d,(i,r)::ps,sz,h,hl=>by
  unfold UX at h;split at h
  ·rename_i B h1;obtain⟨p,z,q,v,C,L,F⟩:=Qy h1;have K:Segs.len z=sz:=hl z (by rw[v];simp);have h2:lens sz B:=fun y g=>by
    rw[C]at g;rcases B8.1 g with g|g
    ·exact hl y (by rw[v];simp[g])
    rcases B7.1 g with rfl|g
    ·rw[← F];exact K
    exact hl y (by rw[v];simp[g])
   obtain⟨h3,D⟩:=LC h h2;exact⟨h3,by rw[D,C,v];simp⟩
  cases h
theorem DY{t E sz O k:Nat}{z:Value}{xs:List (Nat×Operand)}{ps:List (Nat×Segs)}{v:List Segs}(hi:ops[i]?=some ⟨some d,.buildSlice t k xs.toArray,ty,pos,af,gd⟩)(hg:want ops e gd=some true)
 (ht:Na P t=some (E,sz,O)) (hz:XP P E=some z) (U:Nat.ble (k * sz) 16777216=true) (V:Nat.ble k 16777216=true) (hx:EvParts e xs ps) (hs:∀ f,UX (Se f sz k) ps=some v) (hd:Nat.ble (d+1) n.sz=true)
 (hk:∀ b,OSl E sz (.slice (some ⟨b,0,none⟩) k k) [(b,.cells (ZV v).toArray E (0,0))] v→XD P n ops Q rest J ⟨M,(b,.cells (ZV v).toArray E (0,0))::H⟩ ((d,.slice (some ⟨b,0,none⟩) k k)::e)):XD P n ops Q (i::rest) J ⟨M,H⟩ e:=by
 obtain⟨it,hu,F,rfl,rfl⟩:=Wq ht;have R:it.zero=some z:=by simpa[XP,F]using hz
 have hle:=D1 U;have K:∀ f,lens it.size (Se f it.size k):=fun f r hr=>by
  obtain⟨j,_,rfl⟩:=C0.1 hr;exact OE f j it.size
 have B:lens it.size v∧v.length=k:=by
  obtain⟨h1,h2⟩:=LC (hs (fun _=>undef)) (K _);exact⟨h1,by rw[h2];simp[Se]⟩
 have Z:∀ b,OSl E it.size (.slice (some ⟨b,0,none⟩) k k) [(b,.cells (ZV v).toArray E (0,0))] v:=fun b=>by
  have h1:=OSl.own b k v (ZV v).toArray (T:=E) (sz:=it.size) B.1 jD (by
   have:=D1 V;simp only[maxLen];omega) (by simp[YU B.1,B.2]) (by rw[← YU B.1];simp)
  rw[B.2]at h1;exact h1
 refine Zag (x:=.cells (ZV v).toArray E (0,0)) (g:=fun b=>.slice (some ⟨b,0,none⟩) k k) hi rfl hg (fun a ha w=>?_) (e':=fun b=>(d,.slice (some ⟨b,0,none⟩) k k)::e) (fun a b ha=>ha.put hd _) (fun b=>hk b (Z b));have C:∀(cs:Array Value) (f:Nat→Value),cs=((List.range (k * it.size)).map f).toArray→Instr.fill (fun i=>some (i * it.size,it.size)) cs (xs.map fun p=>(p.1,a.eval p.2))=some (ZV v).toArray:=by
  intro cs f aa;have:=Lh ps (xs.map fun p=>(p.1,a.eval p.2)) (Se f it.size k) v (fun i=>some (i * it.size,it.size)) (fun j y hj=>by
   have L:=(C4.1 hj).1;have h1:Ea (Se f it.size k) j=j * it.size:=EK f it.size (List.range k) j (by simp[Se]at L;simp;omega);rw[h1,K f y (H8 hj)]) (hx.run ha) (hs f)
  rw[RM,RM,PA]at this;rw[aa];exact this
 have:(execOp a.eval ⟨some d,.buildSlice t k xs.toArray,ty,pos,af,gd⟩).run P w=.ok (.value (.slice (some ⟨w.heap.size,0,none⟩) k k)) (w.alloc (.cells (ZV v).toArray E (0,0))):=by
  refine Wz ?_;unfold Instr.buildSlice;rw[ZY (YP hu)];rw[ZY (Th F)];simp only[show¬(k * it.size > 2 ^ 24)by omega,if_false];have D:(Array.map (fun x=>(x.fst,a.eval x.snd)) xs.toArray).toList=xs.map fun p=>(p.1,a.eval p.2):=by simp
  by_cases h0:k * it.size=0
  ·simp only[h0,if_true];rw[Sem.run_bind];show(Result.ok #[] w).andThen _=_;rw[Result.andThen_ok,D,C _ (fun _=>undef) (by rw[h0];simp)];rfl
  simp only[h0,if_false];have ab:(zeroValue E).run P w=.ok z w:=by simp[zeroValue,typeInfo,F,R]
  rw[ZY ab,Sem.run_bind];show(Result.ok z.cells w).andThen _=_;rw[Result.andThen_ok,D,C _ (fun i=>z.cells[i % z.cells.size]!) (by apply Array.ext';simp[Array.toList_range])];rfl
 exact this
end
end Go.Esp
namespace Go.Esp
section
variable {P:Program} {n:Sh} {ops:Array Oper} {Q:Exit→Act→World→Prop} {rest:List Nat} {M M':Mem} {H H' H0:Hp} {e:Env} {J S:World→Prop} {A:As} {i:Nat}
  {dst:Option Tmp} {d:Tmp} {op:Op} {ty:TypeId} {pos:String} {af:Array Edge} {gd:Option (Nat×Bool)}
theorem dT{p:Prop}[Decidable p](h:decide p=true):p:=of_decide_eq_true h
theorem dF{p:Prop}[Decidable p](h:decide p=false):¬p:=of_decide_eq_false h
theorem nT{p:Prop}[Decidable p](h:(!decide p)=true):¬p:=by simpa using h
theorem nF{p:Prop}[Decidable p](h:(!decide p)=false):p:=by simpa using h
theorem MQ{α:Type}{l:List α}{f:α→Segs}{j:Nat}(h:j<l.length):(l.map f)[j]?=some (f l[j]):=by simp[h]
def Src(M:Mem)(H:Hp)(sz:Nat)(v:Value)(news:List Segs):Prop :=
 lens sz news∧(∀ u∈ZV news,u.oneCell'=true)∧∃ a c,v=.slice (some a) news.length c∧∀ w,St M H w→∀ j u,(ZV news)[j]?=some u→w.cell? (a.add j)=some u
theorem Src.own{sz b k:Nat}{news:List Segs}{E:TypeId}(d:lens sz news)(h1:∀ u∈ZV news,u.oneCell'=true)(hk:k=news.length)(hb:(b,.cells (ZV news).toArray E (0,0))∈H):Src M H sz (.slice (some ⟨b,0,none⟩) k k) news:=by
 subst hk;refine⟨d,h1,_,_,rfl,fun w hw=>?_⟩;have:=hw.own _ _ hb;exact GD this (n:=(ZV news).length) jQ
theorem Vc{t E sz g m:Nat}{z:Value}{x y:Operand}{u v:Value}{hs:Hp}{rows news:List Segs}{C:Array TypeId}(hi:ops[i]?=some ⟨some d,.call ⟨.builtin .append,#[x,y],C⟩,ty,pos,af,gd⟩)(hg:want ops e gd=some true)
 (hx:ev e x=some v) (hy:ev e y=some u) (K:C=#[t,t]) (ht:Na P t=some (E,sz,g)) (hz:XP P E=some z) (T:z.cells.size=sz) (L:Nat.ble 1 sz=true) (ho:OSl E sz v hs rows) (hH:Rem hs H H0)
 (B:Src M H sz u news) (hm:rows.length+news.length≤m) (F:Nat.ble (m * (g+1)) 140737488355328=true) (hd:Nat.ble (d+1) n.sz=true)
 (hk:∀ j hs',OSl E sz j hs' (rows++news)→XD P n ops Q rest (St M (hs'++H0)) ⟨M,hs'++H0⟩ ((d,j)::e)) (D:n.wrs.contains i=false:=by rfl):XD P n ops Q (i::rest) J ⟨M,H⟩ e:=by
 subst K;refine SK hi rfl hg (fun a w ha hw=>?_) D;obtain⟨hl,h1,ad,c,rfl,U⟩:=B;have V:=D1 F;have h2:m * (g+1)=m * g+m:=by rw[Nat.mul_add,Nat.mul_one]
 have h3:(rows.length+news.length) * g≤m * g:=D2 _ hm;obtain⟨j,Z,hs',hr,R,O⟩:=CE ht hz T (D1 L) ho hl rfl (U w hw) h1 zZ jD ty (hw.perm hH.perm);unfold Oper.does;have:(execOp a.eval ⟨some d,.call ⟨.builtin .append,#[x,y],#[t,t]⟩,ty,pos,af,gd⟩).run P w=.ok (.value j) Z:=by
  simp only[execOp,resolve];have e1:#[x,y].map a.eval=#[v,.slice (some ad) news.length c]:=by simp[ha.ev hx,ha.ev hy]
  rw[e1];show(Result.ok _ w).andThen _=_;exact Wz hr
 rw[this];exact⟨⟨M,hs'++H0⟩,_,O,ha.put hd j,hk j hs' R⟩
theorem OSl.freeze{T sz:Nat}{v:Value}{hs:Hp}{rows:List Segs}(d:OSl T sz v hs rows){w:World}(hw:St M (hs++H) w):∃ M' a c,M.le M'∧St M' H w∧v=.slice a rows.length c∧SlM M' a rows sz:=by
 cases d with
 | nil=>exact⟨M,none,0,Mem.le.refl M,hw,rfl,SlM.nil M none sz⟩
 | own b c _ cur h1 h2 h3 h4 h5 =>
  obtain⟨g1,g2⟩:=St.freeze hw;exact⟨_,_,_,g1,g2,rfl,h1,fun _=>⟨b,0,cur,T,(0,0),rfl,Mem.add_self M b _,by simpa using h5⟩⟩
end
theorem cT{p A:Prop}[Decidable p](h:p→A)(x:decide p=true):A:=h (dT x)
theorem cF{p A:Prop}[Decidable p](h:¬p→A)(x:decide p=false):A:=h (dF x)
theorem eT{p A:Prop}[Decidable p](h:¬p→A)(x:(!decide p)=true):A:=h (nT x)
theorem eF{p A:Prop}[Decidable p](h:p→A)(x:(!decide p)=false):A:=h (nF x)
end Go.Esp
namespace Go.Esp
abbrev IM:=List (Int×Value)
def Xw(l:IM)(k:Int):Option Value:=match l with
 | []=>none
 | (j,v)::r=>if k=j then some v else Xw r k
def PM(l:IM)(k:Int)(v:Value):IM:=match l with
 | []=>[]
 | (j,u)::r=>if k=j then(j,v)::r else(j,u)::PM r k v
def Pb(l:IM)(k:Int):IM:=match l with
 | []=>[]
 | (j,u)::r=>if k=j then r else(j,u)::Pb r k
def VS(l:IM)(k:Int)(v:Value):IM:=match Xw l k with
 | some _=>PM l k v
 | none=>l++[(k,v)]
def kvs(es:Array MapEntry):List (Value×Value):=es.toList.map fun x=>(x.key,x.val)
def imO(o:Obj)(l:IM):Prop:=∃ es clock,o=.map es clock∧kvs es=l.map fun p=>(.int .i64 p.1,p.2)
theorem JF(k:Int):∀(es:List MapEntry) (l:IM) (i:Nat),es.map (fun x=>(x.key,x.val))=l.map (fun p=>(.int .i64 p.1,p.2)) →
 Instr.findNow (.int .i64) (.int .i64 k) es i=some (match Xw l k with|some v=>some (i+(l.findIdx fun p=>k=p.1),v)|none=>none)
 | [],[],i,_=>rfl
 | [],_::_,_,h=>by simp at h
 | _::_,[],_,h=>by simp at h
 | x::es,(j,v)::l,i,h=>by
  simp only[D3,J9,I8]at h;obtain⟨⟨h1,h2⟩,h3⟩:=h;unfold Instr.findNow;rw[h1];simp only[Instr.sameNow,if_true];by_cases e:k=j
  ·subst e;simp[Xw,G9,h2]
  have:(k == j)=false:=by simp[e]
  simp only[this];rw[JF k es l (i+1) h3];simp only[Xw,e,if_false];cases Xw l k with
  | none=>rfl
  | some u=>simp[G9,e];omega
theorem AK{k:Int}:∀{l:IM} {v:Value},Xw l k=some v→(l.findIdx fun p=>k=p.1)<l.length∧∃ q,l[l.findIdx fun p=>k=p.1]?=some (k,q)∧q=v
 | [],_,h=>by simp[Xw]at h
 | (j,u)::l,v,h=>by
  unfold Xw at h;by_cases e:k=j
  ·subst e;simp at h;subst h;simp[G9]
  simp only[e,if_false]at h;obtain⟨h1,q,h2,h3⟩:=AK h;simp only[G9,e,decide_false,cond_false,C8];exact⟨by omega,q,by simpa using h2,h3⟩
section
variable {P:Program} {w:World}
theorem UC{k:IntKind}{t:TypeId}{b:Bool}{q:IntKind}{z:Int}(h:P.underlying t=some (.int q)):(Instr.checkKey b 10000 t (.int k z)).run P w=.ok () w:=by
 unfold Instr.checkKey;rw[ZY (YP h)];rfl
theorem SU{t:TypeId}{es:Array MapEntry}{l:IM}{k:Int}(h:P.underlying t=some (.int .i64))(d:kvs es=l.map fun p=>(.int .i64 p.1,p.2)):
 (Instr.findKey t (.int .i64 k) es.toList).run P w=.ok (match Xw l k with|some v=>some (l.findIdx fun p=>k=p.1,v)|none=>none) w:=by
 unfold Instr.findKey;rw[ZY (YP h),JF k es.toList l 0 d];simp only[F2];rfl
def RI(P:Program)(t:TypeId):Option (TypeId×TypeId):=match P.underlying t with
 | some (.map k el)=>match P.underlying k with
  | some (.int .i64)=>some (k,el)
  | _=>none
 | _=>none
theorem Pa{t k el:TypeId}(h:RI P t=some (k,el)):P.underlying t=some (.map k el)∧P.underlying k=some (.int .i64):=by
 unfold RI at h;grind
theorem UG{b:Nat}{es:Array MapEntry}{c:Nat}(h:w.heap[b]?=some (.map es c)):(getObj b).run P w=.ok (.map es c) w:=by
 simp[getObj,Sem.run,h]
theorem TR{b:Nat}{es:Array MapEntry}{c:Nat}(h:w.heap[b]?=some (.map es c))(o:Obj):(setObj b o).run P w=.ok () { w with heap:=w.heap.setIfInBounds b o }:=by
 simp[setObj,Sem.run,h]
theorem RQ{b:Nat}{o o':Obj}(h:w.heap[b]?=some o'):({ w with heap:=w.heap.setIfInBounds b o }:World).heap[b]?=some o:=by
 grind
theorem SS{b c:Nat}{o:Obj}(h:c≠b):({ w with heap:=w.heap.setIfInBounds b o }:World).heap[c]?=w.heap[c]?:=by
 grind
theorem KJ{t k el:TypeId}{b:Nat}{o:Obj}{l:IM}{z:Int}{d:Value}(ht:RI P t=some (k,el))(g:XP P el=some d)(hb:w.heap[b]?=some o)(B:imO o l)(ok:Bool):
 (Instr.lookup t (.map (some b)) (.int .i64 z) ok).run P w=.ok (match ok with|true=>.tuple #[(Xw l z).getD d,.bool (Xw l z).isSome]|false=>(Xw l z).getD d) w:=by
 obtain⟨h1,h2⟩:=Pa ht;obtain⟨es,c,rfl,hk⟩:=B;have y:(zeroValue el).run P w=.ok d w:=by
  unfold XP at g;split at g
  ·rename_i it j;simp[zeroValue,typeInfo,j,g]
  cases g
 unfold Instr.lookup;rw[ZY (YP h1)];rw[ZY (UG hb)];rw[ZY (show(pure es:Sem (Array MapEntry)).run P w=.ok es w from rfl),ZY (UC h2),ZY (SU h2 hk)];cases hg:Xw l z with
 | some v=>cases ok <;> rfl
 | none =>
  rw[ZY y];cases ok <;> rfl
theorem AB(es:Array MapEntry)(x:MapEntry):kvs (es.push x)=kvs es++[(x.key,x.val)]:=by simp[kvs]
theorem Zcf{l:IM}{k:Int}{v:Value}:∀{es:List MapEntry},es.map (fun x=>(x.key,x.val))=l.map (fun p=>(Value.int .i64 p.1,p.2))→(Xw l k).isSome=true →
 (es.modify (l.findIdx fun p=>k=p.1) fun x=>{ x with key:=.int .i64 k,val:=v }).map (fun x=>(x.key,x.val))=(PM l k v).map fun p=>(.int .i64 p.1,p.2):=by
 induction l with
 | nil=>intro es _ h;simp[Xw]at h
 | cons p l ih =>
  intro es h hs;obtain⟨j,u⟩:=p;cases es with
  | nil=>simp at h
  | cons x es =>
   simp only[D3,J9,I8]at h;obtain⟨⟨h1,h2⟩,h3⟩:=h;by_cases e:k=j
   ·subst e;simp[G9,PM,h3]
   simp only[Xw,e]at hs;simp only[G9,e,decide_false,cond_false,PM,if_false,List.modify_succ_cons,D3,h1,h2,ih h3 hs]
theorem EX{l:IM}{k:Int}:∀{es:List MapEntry},es.map (fun x=>(x.key,x.val))=l.map (fun p=>(Value.int .i64 p.1,p.2))→(Xw l k).isSome=true →
 (es.eraseIdx (l.findIdx fun p=>k=p.1)).map (fun x=>(x.key,x.val))=(Pb l k).map fun p=>(.int .i64 p.1,p.2):=by
 induction l with
 | nil=>intro es _ h;simp[Xw]at h
 | cons p l ih =>
  intro es h hs;obtain⟨j,u⟩:=p;cases es with
  | nil=>simp at h
  | cons x es =>
   simp only[D3,J9,I8]at h;obtain⟨⟨h1,h2⟩,h3⟩:=h;by_cases e:k=j
   ·subst e;simp[G9,Pb,h3]
   simp only[Xw,e]at hs;simp only[G9,e,decide_false,cond_false,Pb,if_false,List.eraseIdx_cons_succ,D3,h1,h2,ih h3 hs]
theorem La{k:Int}:∀{l:IM},Xw l k=none→Pb l k=l
 | [],_=>rfl
 | (j,u)::l,h=>by
  by_cases e:k=j
  ·simp[Xw,e]at h
  simp only[Xw,e,if_false]at h;simp[Pb,e,La h]
theorem Nh{t k el:TypeId}{b:Nat}{o:Obj}{l:IM}{z:Int}{v:Value}(ht:RI P t=some (k,el))(hb:w.heap[b]?=some o)(D:imO o l):
 ∃ o',(Instr.mapUpdate t (.map (some b)) (.int .i64 z) v).run P w=.ok () { w with heap:=w.heap.setIfInBounds b o' }∧imO o' (VS l z v):=by
 obtain⟨h1,h2⟩:=Pa ht;obtain⟨es,c,rfl,hk⟩:=D;unfold Instr.mapUpdate;rw[ZY (YP h1)];rw[ZY (UG hb)];rw[ZY (UC h2),ZY (SU h2 hk)];cases hg:Xw l z with
 | some u =>
  obtain⟨B,q,C,_⟩:=AK hg;have j:∃ x,es[l.findIdx fun p=>z=p.1]?=some x∧x.key=.int .i64 z:=by
   have h3:(kvs es)[l.findIdx fun p=>z=p.1]?=some (.int .i64 z,q):=by rw[hk];simp[C]
   simp only[kvs,E6,Option.map_eq_some_iff]at h3;obtain⟨x,hx,d⟩:=h3;simp only[I8]at d;exact⟨x,by simpa using hx,d.1⟩
  obtain⟨x,hx,g⟩:=j;have y:(Instr.keyThatStays (((es[l.findIdx fun p=>z=p.1]?).map (·.key)).getD (.int .i64 z)) (.int .i64 z)).run P w=.ok (.int .i64 z) w:=by
   rw[hx];simp only[E9,F7,g];unfold Instr.keyThatStays;have:Instr.sameBits 10000 (.int .i64 z) (.int .i64 z)=true:=by
    simp[Instr.sameBits]
   simp only[this];rfl
  rw[ZY y];refine⟨_,TR hb _,_,_,rfl,?_⟩;simp only[VS,hg];have:=Zcf (v:=v) (l:=l) (k:=z) (es:=es.toList) hk (by simp[hg]);simpa[kvs]using this
 | none =>
  refine⟨_,TR hb _,_,_,rfl,?_⟩;simp[VS,hg,AB,hk]
theorem CC{t k el ty:TypeId}{b:Nat}{o:Obj}{l:IM}{z:Int}{d:Array TypeId}(g:d[0]?=some t)(ht:RI P t=some (k,el))(hb:w.heap[b]?=some o)(v:imO o l):
 ∃ o',(Builtin.delete_ d ty #[.map (some b),.int .i64 z]).run P w=.ok (.tuple #[]) { w with heap:=w.heap.setIfInBounds b o' }∧imO o' (Pb l z):=by
 obtain⟨h1,h2⟩:=Pa ht;obtain⟨es,c,rfl,hk⟩:=v;unfold Builtin.delete_;have y:(#[Value.map (some b),Value.int .i64 z])[0]?=some (.map (some b)):=rfl;have j:(#[Value.map (some b),Value.int .i64 z])[1]?=some (.int .i64 z):=rfl;simp only[g,y,j];rw[ZY (YP h1)];rw[ZY (UG hb)];rw[ZY (UC h2),ZY (SU h2 hk)];cases hg:Xw l z with
 | some u =>
  refine⟨.map (es.eraseIdxIfInBounds (l.findIdx fun p=>z=p.1)) c,?_,_,_,rfl,?_⟩
  ·simp only[];rw[ZY (TR hb _)];rfl
  have:=EX (l:=l) (k:=z) (es:=es.toList) hk (by simp[hg]);have h3:(es.eraseIdxIfInBounds (l.findIdx fun p=>z=p.1)).toList=es.toList.eraseIdx (l.findIdx fun p=>z=p.1):=by simp
  simp only[kvs,h3];exact this
 | none =>
  refine⟨.map es c,?_,_,_,rfl,by rw[La hg];exact hk⟩;rw[ZY (TR hb _)];rfl
end
section
variable {P:Program} {n:Sh} {ops:Array Oper} {Q:Exit→Act→World→Prop} {rest:List Nat} {M M':Mem} {H H' H0:Hp} {e:Env} {J S:World→Prop} {A:As} {i:Nat}
  {dst:Option Tmp} {d:Tmp} {op:Op} {ty:TypeId} {pos:String} {af:Array Edge} {gd:Option (Nat×Bool)}
theorem Kp{t k el:TypeId}{x y:Operand}{b:Nat}{z:Int}{B v:Value}{o:Obj}{l:IM}{j:Mem}{g:Hp}(hi:ops[i]?=some ⟨some d,.lookup t x y false,ty,pos,af,gd⟩)(L:want ops e gd=some true)
 (hx:ev e x=some (.map (some b))) (F:ev e y=some (.int .i64 z)) (ht:RI P t=some (k,el)) (O:XP P el=some B) (hb:(b,o)∈g) (K:imO o l) (D:(Xw l z).getD B=v) (C:Nat.ble (d+1) n.sz=true)
 (hk:XD P n ops Q rest (St j g) A ((d,v)::e)):XD P n ops Q (i::rest) (St j g) A e :=
 UB hi rfl L (fun a' w ha hw=>Xp (by
  simp only[execOp,ha.ev hx,ha.ev F];subst D;exact Wz (KJ ht O (hw.own _ _ hb) K false))) (fun a ha=>ha.put C _) hk
end
end Go.Esp
namespace Go.Esp
def QB(W:World):Mem:=⟨fun b=>W.heap[b]?,W.os,W.tape,W.output,0⟩
theorem St.start(W:World):St (QB W) [] W:=⟨fun _ _ h=>h,fun _ _ h=>(by cases h),fun _ _ h=>(by cases h),J1,rfl,rfl,rfl,C3 _⟩
theorem Zpl{W d:World}{M':Mem}{H:Hp}(hm:(QB W).le M')(h:St M' H d):RowKit.Below W.heap.size W d:=by
 have hb:∀ k o,W.heap[k]?=some o→d.heap[k]?=some o:=fun k o hk=>h.mem k o (hm.1 k o hk);have hs:W.heap.size≤d.heap.size:=by
  rcases C7 d.heap.size W.heap.size with g|g
  ·have:=hb d.heap.size W.heap[d.heap.size] (E8 g);simp at this
  exact g
 refine⟨h.io.1.trans hm.2.1,h.io.2.1.trans hm.2.2.1,h.io.2.2.1.trans hm.2.2.2.1,hs,fun k hk=>?_⟩;grind
def Ty(P:Program)(M:Mem):Nat→TypeId→Segs→Prop
 | 0,_,_=>False
 | m+1,t,R=>match P.underlying t with
  | some .bool=>∃ b,R=[.one (.bool b)]
  | some (.int k)=>∃ n,R=[.one (.int k n)]∧(Lit.int k n).wf=true
  | some .string=>∃ s:ByteArray,R=[.one (.string s)]∧s.size≤reachBytes
  | some (.slice el)=>∃ a rows c,R=[.one (.slice a rows.length c)]∧(0<P.cellsOf el→SlM M a rows (P.cellsOf el))∧rows.length≤c∧c≤maxLen∧∀ r∈rows,Ty P M m el r
  | some (.struct fs)=>∃ Rs:List Segs,R=cat Rs∧Rs.length=fs.size∧∀(i:Nat) (f:Field) (r:Segs),fs[i]?=some f→Rs[i]?=some r→Ty P M m f.type r
  | some (.array k el)=>match P.underlying el with
   | some (.int q)=>P.cellsOf el=1→∃ f:Vector Value k,R=[.arr k f]∧∀ i (h:i<k),∃ z,f[i]=.int q z∧(Lit.int q z).wf=true
   | _=>True
  | _=>True
section
variable {H:Type} {enc:TypeId×Value→H} {P:Program} {w:World} {sp:Nat→Bool}
def Zyw(cs:List Value):Segs:=cs.map .one
theorem OD:∀ cs:List Value,Segs.cells (Zyw cs)=cs
 | []=>rfl
 | c::cs=>by
  have:=OD cs;unfold Zyw at this ⊢;simp[Segs.cells,Seg.cells,this]
theorem Hl{cs:List Value}:∀(d:List Nat) (off:Nat),(cs.drop off).length=d.sum →
 cs.drop off=((List.range d.length).map fun i=>(cs.drop (off+(d.take i).sum)).take (d.getD i 0)).flatten
 | [],off,h=>by
  have:cs.drop off=[]:=D4 zL;simp[this]
 | n::d,off,h=>by
  simp only[List.sum_cons]at h;have g:=Hl (cs:=cs) d (off+n) (by rw[← E5,F3,h];omega);rw[C8,List.range_succ_eq_map,D3,List.flatten_cons];simp only[List.take_zero,List.sum_nil,Nat.add_zero,List.getD_cons_zero,I2];have e:(List.map ((fun i=>((cs.drop (off+((n::d).take i).sum)).take ((n::d).getD i 0))) ∘ Nat.succ) (List.range d.length)) =
   (List.range d.length).map fun i=>(cs.drop (off+n+(d.take i).sum)).take (d.getD i 0):=by
   apply List.map_congr_left;intro i _;simp[Nat.add_assoc]
  rw[e,← g,← E5,F0]
theorem Zfn{c:Array Value}{sz:Nat}:∀(rows:List Segs) (off:Nat),lens sz rows→(∀ i r,rows[i]?=some r→(c.toList.drop (off+i * sz)).take sz=Segs.cells r) →
 (c.toList.drop off).take (rows.length * sz)=ZV rows
 | [],off,_,_=>by simp[ZV]
 | r::rows,off,hl,h=>by
  have h0:=h 0 r rfl;simp only[Nat.zero_mul,Nat.add_zero]at h0;have d:=Zfn (c:=c) rows (off+sz) (fun x hx=>hl x (.tail _ hx)) (fun i x hx=>by
   have:=h (i+1) x (by simpa using hx);rw[F4]at this;rw[← this];congr 2;omega)
  rw[C8,F4,Nat.one_mul,Nat.add_comm (rows.length * sz) sz,List.take_add,E5,d,h0];rfl
theorem Lo{base:Nat}{a:Addr}{n:Nat}{cs:List Value}(h:w.cells? base a n=some cs):cs.length=n∧∀ j v,cs[j]?=some v→w.cell? (a.add j)=some v:=by
 unfold World.cells? at h;split at h
 ·have g:cs.length=n:=by
   have:=mapM_some_length h;simpa using this
  refine⟨g,fun j v hj=>?_⟩;have d:=(C4.1 hj).1;have:=mapM_some_get h j j (List.getElem?_range jD);grind
 cases h
theorem CZ(g:laidOutB P=true){t:TypeId}(ht:t<P.types.size){d:Array Field}(hu:P.underlying t=some (.struct d)):
 P.cellsOf t=(d.toList.map fun f=>P.cellsOf f.type).sum∧(∀ j f,d.toList[j]?=some f→f.offset=((d.toList.take j).map fun f=>P.cellsOf f.type).sum)∧∀ f∈d.toList,f.type<P.types.size:=by
 unfold laidOutB at g;simp only[F1]at g;have h1:=E7.1 g.1.1 t (G7.2 ht);unfold rowFine at h1;rw[hu]at h1;have y:isVar P t=true:=by simp[isVar,ht,hu,kindOk]
 simp only[y,Bool.not_true,Bool.false_or,F1,beq_iff_eq,E7]at h1;refine⟨h1.1.2,fun j f hj=>?_,fun f v=>?_⟩
 ·grind
 have:=h1.1.1 f v;simp[isVar]at this;exact this.1
theorem Zho(d:laidOutB P=true){t el:TypeId}(ht:t<P.types.size)(hu:P.underlying t=some (.slice el)):el<P.types.size:=by
 unfold laidOutB at d;simp only[F1]at d;have h1:=E7.1 d.1.1 t (G7.2 ht);unfold rowFine at h1;rw[hu]at h1;have g:isVar P t=true:=by simp[isVar,ht,hu,kindOk]
 simp only[g,Bool.not_true,Bool.false_or,F1]at h1;have:=h1.1;simp[isVar]at this;exact this.1
theorem Kt{P:Program}{e:TypeId}{n:Nat}{d:DataW H}:∀{ds:List (DataW H)},d∈ds→n∈d.weights P e→n∈DataW.weightsAll P e ds
 | d0::ds,g,hn=>by
  simp only[DataW.weightsAll,B8];rcases B7.1 g with rfl|g
  ·exact .inl hn
  exact .inr (Kt g hn)
theorem Zau(hl:laidOutB P=true):∀(n:Nat) (t:TypeId) (cs:List Value) (x:DataW H×List MemPlace),t<P.types.size→DataW.trod enc P w 0 sp true n t cs=some x→(∀ m∈x.1.weights P t,m≤reachBytes) →
 ∃ R,Segs.cells R=cs∧Ty P (QB w) n t R:=by
 intro n
 induction n with
 | zero=>intro t cs x _ h _;simp[DataW.trod]at h
 | succ n ih =>
  intro t cs x ht h V;have any:(∀ R,Ty P (QB w) (n+1) t R)→∃ R,Segs.cells R=cs∧Ty P (QB w) (n+1) t R:=fun hT=>⟨Zyw cs,OD cs,hT _⟩
  cases hu:P.underlying t with
  | none=>exact any fun R=>by simp[Ty,hu]
  | some d =>
   cases d with
   | bool=>obtain⟨b,rfl,_⟩:=DataW.trod_bool hu h;exact⟨[.one (.bool b)],rfl,by simp[Ty,hu]⟩
   | int k=>obtain⟨z,rfl,_,hw⟩:=DataW.trod_int hu h;exact⟨[.one (.int k z)],rfl,by simp[Ty,hu,hw]⟩
   | string=>obtain⟨s,rfl,rfl,hs⟩:=DataW.trod_string hu h;exact⟨[.one (.string s)],rfl,by simp only[Ty,hu];exact⟨s,rfl,by simpa[DataW.weights]using V⟩⟩
   | slice el =>
    rcases DataW.trod_slice hu h with⟨rfl,_⟩|⟨a,len,cap,elems,rest,m,hm,rfl,ab,hb,an,ax,au,B,aa⟩
    ·refine⟨[.one (.slice none 0 0)],rfl,?_⟩;simp only[Ty,hu];exact⟨none,[],0,rfl,fun _=>SlM.nil _ _ _,B9 _,C3 _,fun r v=>by cases v⟩
    cases hm;have K:∀ i,i<len→∃ R D,w.cells? 0 (a.add (i * P.cellsOf el)) (P.cellsOf el)=some D∧Segs.cells R=D∧Ty P (QB w) n el R:=by
     intro i hi;have h1:=B i hi;obtain⟨y,O⟩:∃ y,elems[i]?=some y:=⟨elems[i],A7 jD⟩
     rw[O]at h1;obtain⟨D,hc,hd⟩:=Option.bind_eq_some_iff.1 h1;obtain⟨R,hR,hT⟩:=ih el D y (Zho hl ht hu) hd (fun m9 Z=>V m9 (by
      rw[ab];simp only[DataW.weights,hu,B7,B8];exact .inr (.inl (Kt (C0.2 ⟨y,H8 O,rfl⟩) Z))))
     exact⟨R,D,hc,hR,hT⟩
    have L:∃ rows:List Segs,rows.length=len∧∀ i r,rows[i]?=some r→w.cells? 0 (a.add (i * P.cellsOf el)) (P.cellsOf el)=some (Segs.cells r)∧Ty P (QB w) n el r:=by
     clear au B an h aa any
     induction len with
     | zero=>exact⟨[],rfl,by simp⟩
     | succ k ihk =>
      obtain⟨rows,h1,h2⟩:=ihk (fun i hi=>K i jD);obtain⟨R,D,h3,U,h5⟩:=K k jD;refine⟨rows++[R],by simp[h1],fun i r v=>?_⟩;rcases C7 i rows.length with h'|h'
      ·rw[F5 h']at v;exact h2 i r v
      rw[G2 h']at v;have hi:i-rows.length=0:=by
       have:=(C4.1 v).1;simp at this;omega
      rw[hi]at v;simp at v;subst v;have:i=k:=by omega
      subst this;exact⟨by rw[U];exact h3,h5⟩
    obtain⟨rows,h1,h2⟩:=L;have F:lens (P.cellsOf el) rows:=fun r v=>by
     obtain⟨i,hi⟩:=List.getElem?_of_mem v;have:=(Lo (h2 i r hi).1).1;rw[← Segs.cells_length];exact this
    refine⟨[.one (.slice (some a) rows.length cap)],by rw[h1];rfl,?_⟩;simp only[Ty,hu];refine⟨some a,rows,cap,rfl,fun ad=>⟨F,fun hne=>?_⟩,by omega,ax,fun r v=>?_⟩
    ·obtain⟨r0,al⟩:∃ r,rows[0]?=some r:=by
      cases rows with
      | nil=>exact(hne rfl).elim
      | cons r rows=>exact⟨r,rfl⟩
     have ae:=Lo (h2 0 r0 al).1;have ay:0<(Segs.cells r0).length:=by rw[ae.1];exact ad
     have g:=ae.2 0 _ (A7 ay);simp only[Nat.zero_mul]at g;have ah:a.add 0=a:=by simp[Addr.add]
     rw[ah,ah]at g;unfold World.cell? at g;split at g
     ·rename_i c T fz hblk;split at g
      ·cases g
      rename_i ao;obtain⟨b,off,spot⟩:=a;have aa:spot=none:=by cases spot <;> simp_all
      subst aa;refine⟨b,off,c,T,fz,rfl,hblk,Zfn rows off F fun i r v=>?_⟩;have ag:=Lo (h2 i r v).1;apply List.ext_getElem?;intro j;rcases C7 j (Segs.cells r).length with hj|hj
      ·have h3:=ag.2 j _ (A7 hj);rw[Addr.add_lit,Addr.add_lit,Qn hblk]at h3;rw[I1,List.getElem?_drop,A6 (by rw[← ag.1];exact hj),A7 hj,← h3];simp
      rw[List.getElem?_eq_none hj,List.getElem?_eq_none];simp only[D8];omega
     cases g
    obtain⟨i,hi⟩:=List.getElem?_of_mem v;exact(h2 i r hi).2
   | struct fs =>
    obtain⟨xs,m,hm,ab,hlen,aw,B⟩:=DataW.trod_struct hu h;cases hm;obtain⟨g1,g2,g3⟩:=CZ hl ht hu;have hf:∀(i:Nat) (f:Field),fs[i]?=some f→∃ R,Segs.cells R=(cs.drop f.offset).take (P.cellsOf f.type)∧Ty P (QB w) n f.type R:=by
     intro i f hi;have h1:=B i f hi;have az:=(E4.1 hi).1;obtain⟨y,O⟩:∃ y,xs[i]?=some y:=⟨xs[i],A7 jD⟩
     rw[O]at h1;refine ih _ _ y (g3 f (by simpa using Array.mem_of_getElem? hi)) h1 (fun m9 Z=>V m9 ?_);rw[ab];simp only[DataW.weights,hu];exact DataW.weights_mem_each (j:=i) (t:=f.type) (d:=y.1) (by rw[E6];simp[hi]) (by rw[E6,O];rfl) m9 Z
    have ar:∃ C:List Segs,C.length=fs.size∧∀(i:Nat) (f:Field) (r:Segs),fs[i]?=some f→C[i]?=some r→Segs.cells r=(cs.drop f.offset).take (P.cellsOf f.type)∧Ty P (QB w) n f.type r:=by
     have key:∀ k,k≤fs.size→∃ C:List Segs,C.length=k∧∀(i:Nat) (f:Field) (r:Segs),fs[i]?=some f→C[i]?=some r→Segs.cells r=(cs.drop f.offset).take (P.cellsOf f.type)∧Ty P (QB w) n f.type r:=by
      intro k
      induction k with
      | zero=>exact fun _=>⟨[],rfl,by simp⟩
      | succ k ihk =>
       intro hk;obtain⟨C,h1,h2⟩:=ihk jD;obtain⟨R,h3,U⟩:=hf k fs[k] (E8 hk);refine⟨C++[R],by simp[h1],fun i f r hi v=>?_⟩;rcases C7 i C.length with h'|h'
       ·rw[F5 h']at v;exact h2 i f r hi v
       rw[G2 h']at v;have ai:i-C.length=0:=by
        have:=(C4.1 v).1;simp at this;omega
       rw[ai]at v;simp at v;subst v;have:i=k:=by omega
       subst this;rw[E8 hk]at hi;obtain rfl:=A5 hi;exact⟨h3,U⟩
     exact key fs.size (B9 _)
    obtain⟨C,h1,h2⟩:=ar;refine⟨cat C,?_,?_⟩
    ·rw[RM];have aq:(cs.drop 0).length=(fs.toList.map fun f=>P.cellsOf f.type).sum:=by simp[hlen,g1]
     have h3:=Hl (cs:=cs) (fs.toList.map fun f=>P.cellsOf f.type) 0 aq;have U:ZV C=(C.map Segs.cells).flatten:=by
      clear h1 h2
      induction C with
      | nil=>rfl
      | cons r C ih=>simp[ZV,ih]
     rw[U];refine Eq.trans ?_ h3.symm;congr 1;apply List.ext_getElem?;intro i;rcases C7 i fs.size with hi|hi
     ·have hR:C[i]?=some C[i]:=A7 jD;have hF:fs[i]?=some fs[i]:=E8 hi;have aj:fs.toList[i]?=some fs[i]:=by simpa using hF
      have h5:=(h2 i _ _ hF hR).1;have h6:=g2 i _ aj;rw[E6,hR,E9,h5];rw[E6,List.getElem?_range zP,E9];rw[F2,← List.map_take,← h6];simp[hi]
     rw[List.getElem?_eq_none jU,List.getElem?_eq_none zP]
    simp only[Ty,hu];exact⟨C,rfl,h1,fun i f r hi v=>(h2 i f r hi v).2⟩
   | array k el =>
    cases hue:P.underlying el with
    | none=>exact any fun R=>by simp[Ty,hu,hue]
    | some de =>
     cases de with
     | int q =>
      obtain⟨xs,m,hm,_,hlen,aw,B⟩:=DataW.trod_array hu h;by_cases h1:P.cellsOf el=1
      ·have ak:cs.length=k:=by
        have h2:P.cellsOf t=k * P.cellsOf el:=by
         unfold laidOutB at hl;simp only[F1]at hl;have h3:=E7.1 hl.1.1 t (G7.2 ht);unfold rowFine at h3;rw[hu]at h3;have hv:isVar P t=true:=by simp[isVar,ht,hu,kindOk]
         simp only[hv,Bool.not_true,Bool.false_or,F1,beq_iff_eq]at h3;exact h3.2
        rw[hlen,h2,h1,Nat.mul_one]
       refine⟨[.arr k ⟨cs.toArray,by simpa using ak⟩],by simp[Segs.cells,Seg.cells],?_⟩;simp only[Ty,hu,hue];refine fun _=>⟨_,rfl,fun i hi=>?_⟩
       have h3:=B i hi;obtain⟨y,O⟩:∃ y,xs[i]?=some y:=⟨xs[i],A7 jD⟩
       rw[O,h1]at h3;obtain⟨z,hz,_,hw⟩:=DataW.trod_int hue h3;refine⟨z,?_,hw⟩;have U:((cs.drop (i * 1)).take 1)[0]?=some (.int q z):=by rw[hz];rfl
       have h5:=(C4.1 U).2;simpa using h5
      exact any fun R=>by simp[Ty,hu,hue,h1]
     | _=>exact any fun R=>by simp[Ty,hu,hue]
   | _=>exact any fun R=>by simp[Ty,hu]
def Zju(P:Program)(t:TypeId):Bool:=match P.underlying t with
 | some .bool=>true
 | some (.int _)=>true
 | some .string=>true
 | some (.slice _)=>true
 | some (.struct _)=>true
 | some (.array _ el)=>match P.underlying el with
  | some (.int _)=>P.cellsOf el == 1
  | _=>false
 | _=>false
theorem Ao{v x:Value}(h:v.cells.toList=[x])(d:∀ cs,v≠.agg cs):v=x:=by
 cases v <;> simp[Value.cells]at h <;> first|exact h|exact(d _ rfl).elim
def Is(P:Program)(t:TypeId)(v:Value)(R:Segs):Prop:=match P.underlying t with
 | some (.struct _)=>v=WX R
 | some (.array _ _)=>v=WX R
 | _=>R=[.one v]
theorem Zno{M:Mem}{base n:Nat}{t:TypeId}{v:Value}{R:Segs}(C:Zju P t=true)(g:Value.okWide P w .any base t v)(B:Ty P M n t R)(D:Segs.cells R=v.cells.toList):Is P t v R:=by
 cases n with
 | zero=>exact B.elim
 | succ n =>
  have j:(match P.underlying t with|some (.struct _)=>True|some (.array _ _)=>True|_=>False)→v=WX R:=by
   intro h;have:∃ cs,v=.agg cs:=by
    unfold Value.okWide at g;split at h <;> rename_i hu
    ·rw[hu]at g;obtain⟨cs,h1,_⟩:=g;exact⟨cs,h1⟩
    ·rw[hu]at g;obtain⟨cs,h1,_⟩:=g;exact⟨cs,h1⟩
    exact h.elim
   obtain⟨cs,rfl⟩:=this;unfold WX;rw[D];simp[Value.cells]
  unfold Is;unfold Ty at B;unfold Zju at C;unfold Value.okWide at g;cases hu:P.underlying t with
  | none=>rw[hu]at C;cases C
  | some d =>
   rw[hu]at B C g j;have y:(match d with | .struct _=>False | .array _ _=>False|_=>True)→∀ cs,v≠.agg cs:=by
    intro h cs e;subst e;cases d <;> simp only[Cell.okWide,Cell.ok,hu]at g h
   cases d <;> simp only at B C j y <;> try(cases C;done)
   case bool =>
    obtain⟨b,rfl⟩:=B;obtain rfl:=Ao D.symm (y trivial);rfl
   case int k =>
    obtain⟨z,rfl,_⟩:=B;obtain rfl:=Ao D.symm (y trivial);rfl
   case string =>
    obtain⟨s,rfl,_⟩:=B;obtain rfl:=Ao D.symm (y trivial);rfl
   case slice el =>
    obtain⟨a,rows,c,rfl,_⟩:=B;obtain rfl:=Ao D.symm (y trivial);rfl
   case struct fs=>exact j trivial
   case array k el=>exact j trivial
def Zry(P:Program)(M:Mem):List TypeId→List Value→Prop
 | [],[]=>True
 | t::ts,v::vs=>(∃ R n,Is P t v R∧Ty P M n t R)∧Zry P M ts vs
 | _,_=>False
theorem Zkn(C:laidOutB P=true){base:Nat}:∀(g:List TypeId) (vs:List Value) (ds:List (DataW H)) (p:List MemPlace),DataW.TrodAll enc P w 0 sp true g vs ds p →
 (∀(j:Nat) t v,g[j]?=some t→vs[j]?=some v→Value.okWide P w .any base t v)→(∀ t∈g,t<P.types.size∧Zju P t=true)→(∀(j:Nat) t d,g[j]?=some t→ds[j]?=some d→∀ m∈d.weights P t,m≤reachBytes)→Zry P (QB w) g vs
 | [],[],_,_,_,_,_,_=>trivial
 | [],_::_,[],_,h,_,_,_=>h.elim
 | [],_::_,_::_,_,h,_,_,_=>h.elim
 | _::_,[],_,_,h,_,_,_=>h.elim
 | _::_,_::_,[],_,h,_,_,_=>h.elim
 | t::g,v::vs,d::ds,p,h,hval,ht,hwt=>by
  obtain⟨p1,F,⟨fuel,V⟩,h2,_⟩:=h;obtain⟨h3,K⟩:=ht t (.head _);obtain⟨R,Z,D⟩:=Zau C fuel t v.cells.toList _ h3 V (hwt 0 t d rfl rfl);exact⟨⟨R,fuel,Zno K (hval 0 t v rfl rfl) D Z,D⟩,Zkn C g vs ds F h2 (fun j y U hj T=>hval (j+1) y U zM (by simpa using T)) (fun y B=>ht y (.tail _ B)) (fun j y L hj O=>hwt (j+1) y L zM (by simpa using O))⟩
theorem each_args{v us:List TypeId}{ds gs:List (DataW H)}(h:(DataW.weightsEach P (v++us) (ds++gs)).all (·≤reachBytes)=true):∀(j:Nat) t d,v[j]?=some t→ds[j]?=some d→∀ m∈d.weights P t,m≤reachBytes:=fun j t d ht g m hm=>by
 have h1:=(C4.1 ht).1;have h2:=(C4.1 g).1;have:=E7.1 h m (DataW.weights_mem_each (j:=j) (by rw[F5 h1];exact ht) (by rw[F5 h2];exact g) m hm);simpa using this
theorem all_args{d:List TypeId}(h:(d.all fun t=>Nat.blt t P.types.size && Zju P t)=true):∀ t∈d,t<P.types.size∧Zju P t=true:=fun t ht=>by
 have:=E7.1 h t ht;simp only[F1]at this;exact⟨D1 this.1,this.2⟩
theorem all_read{d:List TypeId}(h:(d.all fun t=>Nat.blt t P.types.size && P.readableRec t)=true):∀ t∈d,t<P.types.size∧P.readableRec t=true:=fun t ht=>by
 have:=E7.1 h t ht;simp only[F1]at this;exact⟨D1 this.1,this.2⟩
theorem Zet{M:Mem}{n:Nat}{t:TypeId}{k:IntKind}{R:Segs}(hu:P.underlying t=some (.int k))(h:Ty P M n t R):∃ z,R=[.one (.int k z)]∧(Lit.int k z).wf=true:=by
 cases n with
 | zero=>exact h.elim
 | succ n=>simp only[Ty,hu]at h;exact h
theorem Ee{M:Mem}{n:Nat}{t el:TypeId}{R:Segs}(hu:P.underlying t=some (.slice el))(d:0<P.cellsOf el)(h:Ty P M n t R):∃ a rows c m,R=[.one (.slice a rows.length c)]∧SlM M a rows (P.cellsOf el)∧rows.length≤maxLen∧rows.length≤c∧∀ r∈rows,Ty P M m el r:=by
 cases n with
 | zero=>exact h.elim
 | succ n =>
  simp only[Ty,hu]at h;obtain⟨a,rows,c,h1,h2,h3,j,g⟩:=h;exact⟨a,rows,c,n,h1,h2 d,by omega,h3,g⟩
theorem Zes{M:Mem}{n:Nat}{t:TypeId}{g:Array Field}{R:Segs}(hu:P.underlying t=some (.struct g))(h:Ty P M n t R):∃ m d,R=cat d∧d.length=g.size∧∀(i:Nat) (f:Field) (r:Segs),g[i]?=some f→d[i]?=some r→Ty P M m f.type r:=by
 cases n with
 | zero=>exact h.elim
 | succ n =>
  simp only[Ty,hu]at h;obtain⟨d,h1,h2,h3⟩:=h;exact⟨n,d,h1,h2,h3⟩
theorem one_inj{u v:Value}(h:([.one u]:Segs)=[.one v]):u=v:=by simpa using h
theorem DP(D:laidOutB P=true){W B:World}(hb:RowKit.Below W.heap.size W B):∀(g:List TypeId) (vs:List Value) (ds:List (DataW H)) (p:List MemPlace),(∀ t∈g,t<P.types.size∧P.readableRec t=true) →
 DataW.TrodAll enc P W 0 (fun _=>true) true g vs ds p→DataW.TrodAll enc P B 0 (fun b=>decide (b<W.heap.size)) true g vs ds p
 | [],[],[],_,_,h=>h
 | [],[],_::_,_,_,h=>h.elim
 | [],_::_,[],_,_,h=>h.elim
 | [],_::_,_::_,_,_,h=>h.elim
 | _::_,[],_,_,_,h=>h.elim
 | _::_,_::_,[],_,_,h=>h.elim
 | t::g,v::vs,d::ds,p,hr,h=>by
  have j:=DataW.TrodAll.lt h;obtain⟨F,C,h1,h2,rfl⟩:=h;obtain⟨g1,g2⟩:=hr t (.head _);exact⟨F,C,RowKit.Below.trod D g2 g1 h1 hb (fun x hx=>j x (C5 _ hx)),DP D hb g vs ds C (fun K y=>hr K (.tail _ y)) h2,rfl⟩
theorem Co:∀{d:List TypeId} {vs:List Value} {ds:List (DataW H)} {b:Nat} {sp:Nat→Bool} {held:Bool} {p:List MemPlace},DataW.TrodAll enc P w b sp held d vs ds p→vs.length=d.length∧ds.length=d.length
 | [],[],[],_,_,_,_,_=>⟨rfl,rfl⟩
 | [],[],_::_,_,_,_,_,h=>h.elim
 | [],_::_,[],_,_,_,_,h=>h.elim
 | [],_::_,_::_,_,_,_,_,h=>h.elim
 | _::_,[],_,_,_,_,_,h=>h.elim
 | _::_,_::_,[],_,_,_,_,h=>h.elim
 | _::_,_::_,_::_,_,_,_,_,h=>by
  obtain⟨_,_,_,h2,_⟩:=h;have:=Co h2;exact⟨A9 (·+1) this.1,A9 (·+1) this.2⟩
theorem Zof{s:ChangeSpec}{fn:Func}{W L:World}{args:Array Value}{ds gs:List (DataW H)}{before:List MemPlace}{tb:TypeId}(T:laidOutB P=true)(O:DataW.Whole enc P fn.params.toList s.vars false W args.toList ds gs before)
 (d:s.vars=[]) (v:fn.resultTypes=#[tb]) (y:P.underlying tb=some .bool) (K:(s.fn H (ds++gs)).results=[.lit (.bool true)]) (D:(s.fn H (ds++gs)).args=ds) (B:(s.fn H (ds++gs)).vars=[])
 (j:∀ t∈fn.params.toList,t<P.types.size∧P.readableRec t=true) (hb:RowKit.Below W.heap.size W L):s.post enc P fn false true false false W args (.bool true) L:=by
 have C:=O;obtain⟨p,q,hA,F,V,U,R⟩:=O;have Z:gs=[]∧q=[]:=by
  rw[d]at F;cases gs with
  | nil=>exact⟨rfl,F⟩
  | cons g gs=>exact F.elim
 obtain⟨rfl,rfl⟩:=Z;refine⟨ds,[],before,[],p,[],C,?_,?_,?_,?_,fun h=>by cases h⟩
 ·rw[K,v];exact⟨[],[],⟨1,by simp[DataW.trod,y,Value.cells]⟩,rfl,rfl⟩
 ·rw[D];exact DP T hb _ _ _ _ j hA
 ·rw[d,B];rfl
 exact hb.frame _
theorem law_calls{s:ChangeSpec}{f:FuncId}{fn:Func}{W:World}{args:Array Value}{ds gs:List (DataW H)}{before:List MemPlace}{tb:TypeId}(O:laidOutB P=true)(T:DataW.Whole enc P fn.params.toList s.vars false W args.toList ds gs before)
 (g:s.vars=[]) (j:fn.resultTypes=#[tb]) (y:P.underlying tb=some .bool) (F:(s.fn H (ds++gs)).results=[.lit (.bool true)]) (C:(s.fn H (ds++gs)).args=ds) (B:(s.fn H (ds++gs)).vars=[])
 (d:∀ t∈fn.params.toList,t<P.types.size∧P.readableRec t=true) (L:Fn P f args.toList (QB W) fun _ v=>v=.bool true) :
 Calls P f args W fun e K=>∃ v,e=.returned v∧s.post enc P fn false true false false W args v K:=by
 have:=L [] W (St.start W);refine this.mono fun e K ⟨v,M',he,hm,D,R⟩=>⟨v,he,?_⟩
 subst R;exact Zof O T g j y F C B d (Zpl hm D)
end
end Go.Esp
namespace Go.Esp
def Yl(P:Program)(l:Nat)(vs:List Value)(w:World)(R:Value→World→Prop):Prop :=
 ∃ f tmps assign body,(Instr.yield l vs.toArray).run P w=.ok (.round l f tmps assign body) w∧RoundIn (Fr none) 0 P l f tmps assign body w fun e w'=>∃ v,e=.returned v∧R v w'
def Zrs{α:Type}(P:Program)(l:Nat)(enc:α→List Value)(xs:List α)(M:Mem)(J Jx:List α→Mem→Hp→Prop):Prop :=
 ∀ pre x post M' Hb F w,xs=pre++x::post→M.le M'→J pre M' Hb→St M' (Hb++F) w→Yl P l (enc x) w fun v w'=>∃ M'' Hb',M'.le M''∧St M'' (Hb'++F) w' ∧
  ((v=.bool true∧J (pre++[x]) M'' Hb')∨(v=.bool false∧Jx (pre++[x]) M'' Hb'))
def Zzy{α:Type}(P:Program)(g:FuncId)(caps:List Value)(enc:α→List Value)(xs:List α)(M:Mem)(Hi:Hp):Prop :=
 ∀(l:Nat) (J Jx:List α→Mem→Hp→Prop),Zrs P l enc xs M J Jx→∀ M' Hb F w,M.le M'→J [] M' Hb→St M' (Hb++(Hi++F)) w →
  Calls P g (Value.func (.yield l) #[] #[]::caps).toArray w fun e w'=>∃ v M'' Hb',e=.returned v∧M'.le M''∧St M'' (Hb'++(Hi++F)) w'∧(J xs M'' Hb'∨∃ pre post,xs=pre++post∧Jx pre M'' Hb')
section
variable {P:Program} {n:Sh} {ops:Array Oper} {Q:Exit→Act→World→Prop} {rest:List Nat} {M M':Mem} {H H' H0:Hp} {e:Env} {J S:World→Prop} {A:As} {i:Nat}
  {dst:Option Tmp} {d:Tmp} {op:Op} {ty:TypeId} {pos:String} {af:Array Edge} {gd:Option (Nat×Bool)}
theorem Zdu{fn:Go.Fn}{xs ys:List Operand}{vs us:List Value}(hi:ops[i]?=some ⟨some d,.makeFunc fn xs.toArray ys.toArray,ty,pos,af,gd⟩)(B:want ops e gd=some true)
 (hx:evs e xs=some vs) (j:evs e ys=some us) (g:Nat.ble (d+1) n.sz=true) (hk:XD P n ops Q rest J A ((d,.func fn vs.toArray us.toArray)::e)):XD P n ops Q (i::rest) J A e :=
 VA hi rfl B (fun a' w ha=>Xp (by
  simp only[execOp];refine Wz ?_;have y:xs.toArray.map a'.eval=vs.toArray:=by rw[← ha.evs hx];simp
  have v:ys.toArray.map a'.eval=us.toArray:=by rw[← ha.evs j];simp
  rw[y,v];rfl)) (fun a ha=>ha.put g _) hk
theorem Zkt{α:Type}{g:Operand}{xs:List Operand}{C:Array TypeId}{vs:List Value}{l:Nat}{enc:α→List Value}{all pre post:List α}{x:α}{M0:Mem}{Hb F:Hp}{Z Jx:List α→Mem→Hp→Prop}{L:Mem}{O:Hp}
 (hi:ops[i]?=some ⟨some d,.call ⟨.value g,xs.toArray,C⟩,ty,pos,af,gd⟩) (hg:want ops e gd=some true) (U:NE P (.call ⟨.value g,xs.toArray,C⟩)=.eff)
 (hf:ev e g=some (.func (.yield l) #[] #[])) (hx:evs e xs=some vs) (hR:Zrs P l enc all M0 Z Jx) (D:all=pre++x::post) (hm:M0.le M) (R:Z pre M Hb) (hH:Rem Hb H F) (hv:enc x=vs)
 (hJ:∀ M' j w,M.le M'→St M' (j++F) w→St L O w) (hd:Nat.ble (d+1) n.sz=true)
 (T:∀ M' j,M.le M'→Z (pre++[x]) M' j→XD P n ops Q rest (St L O) ⟨M',j++F⟩ ((d,.bool true)::e))
 (V:∀ M' j,M.le M'→Jx (pre++[x]) M' j→XD P n ops Q rest (St L O) ⟨M',j++F⟩ ((d,.bool false)::e)):XD P n ops Q (i::rest) (St L O) ⟨M,H⟩ e:=by
 refine Zai hi U hg (fun _ a G w ha hw=>?_);obtain⟨f,tmps,assign,body,K,B⟩:=hR pre x post M Hb (G++F) w D hm R (hw.perm0 ((hH.perm.append_left G).trans (PV G Hb F)));unfold Oper.does;have:(execOp a.eval ⟨some d,.call ⟨.value g,xs.toArray,C⟩,ty,pos,af,gd⟩).run P w=.ok (.round l f tmps assign body) w:=by
  simp only[execOp,resolve,ha.ev hf];show(Result.ok _ w).andThen _=_;have e1:xs.toArray.map a.eval=vs.toArray:=by rw[← ha.evs hx];simp
  show(Instr.yield l (#[]++xs.toArray.map a.eval)).run P w=_;rw[e1,← hv];simpa using K
 rw[this];refine B.mono fun e' w' ⟨v,he,y,j,h1,h2,h3⟩=>⟨v,he,⟨y,j++F⟩,?_⟩
 rcases h3 with⟨rfl,h3⟩|⟨rfl,h3⟩
 ·exact⟨_,h2.perm0 (PV G j F).symm,fun u hu=>hJ y j u h1 hu,ha.put hd _,T y j h1 h3⟩
 exact⟨_,h2.perm0 (PV G j F).symm,fun u hu=>hJ y j u h1 hu,ha.put hd _,V y j h1 h3⟩
def Zll{α:Type}(l:Nat)(o:Obj)(I:List α→Mem→Hp→Prop)(Ix:Code→List α→Mem→Hp→Prop)(xs:List α)(M:Mem)(F:Hp):Exit→Act→World→Prop
 | .normal,_,w=>∃ M' Hu,M.le M'∧St M' ((l,o)::(Hu++F)) w∧I xs M' Hu
 | .ret,_,w=>∃ M' Hu,M.le M'∧St M' ((l,o)::(Hu++F)) w∧Ix .ret xs M' Hu
 | .exit id,_,w=>∃ M' Hu,M.le M'∧St M' ((l,o)::(Hu++F)) w∧Ix (.exit id) xs M' Hu
 | _,_,_=>False
theorem Cd{α:Type}{l:Nat}{o:Obj}{I:List α→Mem→Hp→Prop}{j:Code→List α→Mem→Hp→Prop}{xs:List α}{F Hu:Hp}{d:Mem}(hm:d.le M)(g:∀ w,S w→St M ((l,o)::(Hu++F)) w)(v:I xs M Hu):
 K n (Zll l o I j xs d F) .normal S e:=fun _ _ _ hw=>⟨M,Hu,hm,g _ hw,v⟩
theorem Zru{α:Type}{l:Nat}{o:Obj}{I:List α→Mem→Hp→Prop}{d:Code→List α→Mem→Hp→Prop}{xs:List α}{F Hu:Hp}{g:Mem}(hm:g.le M)(j:∀ w,S w→St M ((l,o)::(Hu++F)) w)(v:d .ret xs M Hu):
 K n (Zll l o I d xs g F) .ret S e:=fun _ _ _ hw=>⟨M,Hu,hm,j _ hw,v⟩
theorem QX{l:Nat}{o o':Obj}{w:World}(h:St M ((l,o)::H) w):St M ((l,o')::H) (w.putObj l o') :=
 h.upd .head (World.putObj_heap_same (h.lt (.head _))) (fun c d x hx=>by rw[World.putObj_heap_other d];exact hx) (SameIO.refl _)
def Zqv:List Tmp→List Value→Env→Env
 | p::ps,v::vs,e=>Zqv ps vs ((p,v)::e)
 | _,_,e=>e
theorem Zfs{ro:Option Nat}:∀{ps:List Tmp} {vs:List Value} {m:Nat} {e:Env} {t:Array Value},Sat ⟨m,[],ro,[]⟩ e ⟨t,[]⟩→(∀ p∈ps,p<m) →
 Sat ⟨m,[],ro,[]⟩ (Zqv ps vs e) ⟨(ps.zip vs).foldl (fun tmps (p:Tmp×Value)=>tmps.setIfInBounds p.1 p.2) t,[]⟩:=by
 intro ps
 induction ps with
 | nil=>intro vs m e t h _;simpa[Zqv]using h
 | cons p ps ih =>
  intro vs m e t h g;cases vs with
  | nil=>simpa[Zqv]using h
  | cons v vs =>
   have h1:Sat ⟨m,[],ro,[]⟩ ((p,v)::e) ⟨t.setIfInBounds p v,[]⟩:=h.put (d:=p) (Nat.ble_eq_true_of_le (g p (.head _))) v;exact ih h1 (fun q j=>g q (.tail _ j))
theorem LO{f:FuncId}{args:Array Value}{w:World}(h:Ta P f=true):(callFunc f args).run P w=.ok (.enter f args) w:=by
 obtain⟨fn,h1,h2,h3⟩:=Ub h;unfold callFunc;rw[Sem.run_bind];show(Result.ok P w).andThen _=_;rw[Result.andThen_ok];simp only[h1,h3];have:fn.body.isNone=false:=by cases h':fn.body <;> simp_all
 simp only[this];rfl
def Zma(P:Program)(m l:Nat)(rdy bsy:Obj)(body:Code)(Q:Exit→Act→World→Prop):Exit→Act→World→Prop
 | .normal,a,w=>∃ e M H,Sat ⟨m,[],some l,[]⟩ e a∧St M ((l,rdy)::H) w∧C P ⟨m,[],some l,[]⟩ body Q (St M ((l,bsy)::H)) e
 | _,_,_=>False
theorem JV{m l b:Nat}{o g d:Obj}{body:Code}{j:Exit→Act→World→Prop}(h:C P ⟨m,[],some l,[]⟩ body j (St M ((l,d)::(b,o)::H)) e):K ⟨m,[],some l,[]⟩ (Zma P m l g d body j) .normal (St M ((b,o)::(l,g)::H)) e :=
 fun _ _ ha hw=>⟨e,M,(b,o)::H,ha,hw.perm (List.Perm.swap _ _ _),h⟩
def CS(D:Nat):Deferred:={ target:=.collected D,args:=#[] }
theorem NM{α:Type}{m:Nat}{ds:List Deferred}{g:Operand}{ps:List Tmp}{assign body:Code}{gf:FuncId}{caps:List Value}{enc:α→List Value}{xs:List α}{Hi Hu:Hp}
 (I:List α→Mem→Hp→Prop) (Ix:Code→List α→Mem→Hp→Prop) (hg:ev e g=some (.func (.func gf) #[] caps.toArray)) (aq:Ta P gf=true) (aj:Zzy P gf caps enc xs M Hi)
 (hH:∀ w,St M H w→St M (Hu++(Hi++H0)) w) (hI:I [] M Hu) (au:∀ x,(enc x).length=ps.length) (ar:ps.all (fun p=>Nat.ble (p+1) m)=true)
 (T:∀(l:Nat) (ah al:Obj) (pre:List α) (x:α) (post:List α) (M':Mem) (d F:Hp),xs=pre++x::post→M.le M'→I pre M' d →
  C P ⟨m,[],some l,[]⟩ assign (Zma P m l ah al body (Zll l al I Ix (pre++[x]) M' F)) (St M' ((l,ah)::(d++F))) (Zqv ps (enc x) e))
 (ad:∀(D L:Nat) (o:Obj) (M':Mem) (d:Hp),M.le M'→I xs M' d→K ⟨m,CS D::ds,none,[]⟩ Q .normal (St M' ((L,o)::(d++(Hi++((D,.deferred (some []))::H0))))) e)
 (aa:∀(c:Code) (D L:Nat) (o:Obj) (M':Mem) (d:Hp) (pre post:List α),xs=pre++post→M.le M'→Ix c pre M' d→C P ⟨m,CS D::ds,none,[]⟩ c Q (St M' ((L,o)::(d++(Hi++((D,.deferred (some []))::H0))))) e) :
 C P ⟨m,ds,none,[]⟩ (.rangeFunc g ps.toArray assign body) Q (St M H) e:=by
 intro a w ha hw;have ag:∀ p∈ps,p<m:=fun p hp=>D1 (E7.1 ar p hp);refine wpIn_rangeFunc (F:=Fr none) fun fn _=>?_;let D:=w.heap.size;let L:=w.heap.size+1;let r:Loop:={ state:=.ready,pending:=none,fn:=fn,tmps:=a.tmps,params:=ps.toArray,assign:=assign,body:=body,defers:=D }
 let w1:World:=(w.alloc (.deferred (some []))).alloc (.loop r);have ao:St M (((L,.loop r)::Hu)++(Hi++((D,.deferred (some []))::H0))) w1:=by
  have h1:=((hH w hw).alloc (.deferred (some []))).alloc (.loop r);have e1:(w.alloc (.deferred (some []))).heap.size=L:=by simp[L]
  rw[e1]at h1;refine h1.perm ?_;refine List.Perm.cons _ ?_;show((D,Obj.deferred (some []))::(Hu++(Hi++H0))).Perm (Hu++(Hi++((D,Obj.deferred (some []))::H0)));rw[← B5,← B5];exact(List.perm_middle).symm
 have j:∀{M':Mem} {H':Hp} {w':World} {r':Loop},St M' ((L,.loop r')::H') w'→w'.heap[L]?=some (.loop r'):=fun h=>h.own _ _ (.head _);refine⟨L,[CS D],w1,{ target:=.fn (.func gf) caps.toArray,args:=#[.func (.yield L) #[] #[]] },w1,gf,(Value.func (.yield L) #[] #[]::caps).toArray,w1,run_enterLoop_outer fn a.tmps ps.toArray assign body,?_,fun _ _=>trivial,?_,fun h=>(by cases h),?_⟩
 ·unfold resolve rangeCall;simp only[ha.ev hg];simp[Deferred.ofValue,Act.eval]
 ·show(callFunc gf (#[Value.func (.yield L) #[] #[]]++caps.toArray)).run P w1=_;rw[LO aq];simp
 refine Lq.2 ?_;refine(aj L (fun pre M' Hb=>∃ d,Hb=(L,.loop r)::d∧I pre M' d) (fun pre M' Hb=>∃ c d,Hb=(L,.loop { r with state:=.done,pending:=some c })::d∧Ix c pre M' d) ?_ M ((L,.loop r)::Hu) _ w1 (Mem.le.refl M) ⟨Hu,rfl,hI⟩ ao).mono ?_
 ·skip
  rintro pre x post M' Hb F w' ae hm ⟨d,rfl,R⟩ ak;refine⟨fn,(ps.zip (enc x)).foldl (fun tmps (p:Tmp×Value)=>tmps.setIfInBounds p.1 p.2) a.tmps,assign,body,?_,?_⟩
  ·have:=run_yield (P:=P) (args:=(enc x).toArray) (j ak) (by simp[r,au x]);rw[this];rw[List.zip_toArray,List.foldl_toArray]
  refine roundIn_of_wpIn (F:=Fr none) trivial ?_;have h0:=Zfs (ro:=some L) (ps:=ps) (vs:=enc x) (m:=m) (e:=e) (t:=a.tmps) ⟨ha.size,rfl,ha.slot⟩ ag;have h1:=T L (.loop r) (.loop { r with state:=.busy }) pre x post M' d F ae hm R _ w' h0 ak;refine wpIn_mono h1 fun ex a2 w2 U=>?_;cases ex with
  | normal =>
   obtain⟨e2,M2,H2,an,Z,ab⟩:=U;refine⟨_,run_beginRound (j Z) rfl,?_⟩;have B:=QX (o':=.loop { r with state:=.busy }) Z;refine wpIn_mono (ab a2 _ an B) fun ex a3 w3 U=>?_;cases ex with
   | normal =>
    obtain⟨O,y,g1,g2,g3⟩:=U;refine⟨_,_,run_endRound none (j g2),_,rfl,O,(L,.loop r)::y,g1,QX (o':=.loop r) g2,.inl ⟨rfl,y,rfl,g3⟩⟩
   | ret =>
    obtain⟨O,y,g1,g2,g3⟩:=U;exact⟨_,_,run_endRound (some .ret) (j g2),_,rfl,O,(L,.loop { r with state:=.done,pending:=some .ret })::y,g1,QX g2,.inr ⟨rfl,.ret,y,rfl,g3⟩⟩
   | exit id =>
    obtain⟨O,y,g1,g2,g3⟩:=U;exact⟨_,_,run_endRound (some (.exit id)) (j g2),_,rfl,O,(L,.loop { r with state:=.done,pending:=some (.exit id) })::y,g1,QX g2,.inr ⟨rfl,.exit id,y,rfl,g3⟩⟩
   | goto t=>exact U.elim
   | panic c=>exact U.elim
   | outgrown=>exact U.elim
  | _=>exact U.elim
 -- VO the call
 rintro e' w3 ⟨v,O,aw,rfl,hm,B,ai⟩;have V:Sat ⟨m,CS D::ds,none,[]⟩ e { a with defers:=[CS D]++a.defers }:=⟨ha.size,by simp[ha.defers],ha.slot⟩
 rcases ai with⟨d,rfl,R⟩|⟨pre,post,ae,c,d,rfl,R⟩
 ·refine⟨_,_,run_endLoop (j B) (by simp[r]),?_⟩;exact ad D L _ O d hm R _ _ V (QX B)
 refine⟨_,_,run_endLoop (j B) jQ,?_⟩;exact aa c D L _ O d pre post ae hm R _ _ V (QX B)
theorem Zxb{f:FuncId}{fn:Func}{c:Code}{vs:List Value}{w:World}{R:Ending→World→Prop}{m:Nat}(g:P.funcs[f]?=some fn)(hb:fn.body=some c)(hm:fn.ntmps=m)(hle:Nat.ble vs.length m=true)
 (hw:S w) (h:C P ⟨m,[],none,[]⟩ c (bodyPostM (Fr none) 0 P fn R) S (RJ 0 vs)):Calls P f vs.toArray w R:=by
 have d:vs.length≤m:=D1 hle;refine Lq.1 (callsIn_of_wp_marks (F:=Fr none) (n:=0) g hb trivial (h _ w ⟨?_,rfl,fun k v hk=>?_⟩ hw))
 ·grind
 rw[hm];obtain⟨_,h2⟩:=Or vs 0 k v hk;exact HD k v (by simpa using h2)
theorem Dq{f:FuncId}{fn:Func}{c:Code}{vs:List Value}{R:Mem→Value→Prop}{m:Nat}(g:P.funcs[f]?=some fn)(hb:fn.body=some c)(hm:fn.ntmps=m)(hle:Nat.ble vs.length m=true)
 (h:∀ H,C P ⟨m,[],none,[]⟩ c (bodyPostM (Fr none) 0 P fn fun e d=>∃ v M',e=.returned v∧M.le M'∧St M' H d∧R M' v) (St M H) (RJ 0 vs)):Fn P f vs M R :=
 fun H _ hw=>Zxb (S:=St M H) g hb hm hle hw (h H)
theorem Zhk{fn:Func}{R:Ending→World→Prop}{tmps:Array Value}{v:Value}(y:∀ w,St M H w→(results fn tmps).run P w=.ok v w):∀(Ds:List Nat) (Hd:Hp) (w:World),
 (∀ D∈Ds,(D,.deferred (some []))∈Hd)→Ds.Nodup→St M (Hd++H) w→(∀ w,St M H w→R (.returned v) w)→LeavesInM (Fr none) 0 P fn tmps R (Ds.map CS) .returning w
 | [],Hd,w,_,_,hw,hR=>by
  have h0:St M H w:=hw.suf (Suf.app Hd H);exact⟨v,y w h0,hR w h0⟩
 | D::Ds,Hd,w,hD,hn,hw,hR=>by
  rw[D9]at hn;have g:=hD D (.head _);have hb:=hw.own D _ (C5 _ g);refine⟨by simp,.inl ⟨D,_,rfl,run_takeDeferred hb,?_⟩⟩
  -- what is left of the marks' blocks
  have key:∃ j,(∀ E∈Ds,(E,Obj.deferred (some []))∈j)∧St M (j++H) (w.putObj D (.deferred none)):=by
   refine⟨Hd.filter fun x=>x.1 != D,fun E F=>?_,?_⟩
   ·refine F6.2 ⟨hD E (.tail _ F),?_⟩;have:E≠D:=fun e=>hn.1 (e ▸ F);simpa using this
   refine⟨fun b o d=>?_,fun b o d=>?_,fun b o d=>?_,?_,hw.io⟩
   ·have hne:b≠D:=fun e=>by subst e;have:=hw.sep b _ (C5 _ g);rw[this]at d;cases d
    rw[World.putObj_heap_other hne];exact hw.mem b o d
   ·have C:(b,o)∈Hd++H:=by
     rcases B8.1 d with h|h
     ·exact C5 _ (F6.1 h).1
     exact D0 _ h
    have hne:b≠D:=by
     rcases B8.1 d with h|h
     ·simpa using(F6.1 h).2
     intro e;subst e;have B:=hw.nodup;rw[C6,H3]at B;exact B.2.2 b (C0.2 ⟨_,g,rfl⟩) b (C0.2 ⟨_,h,rfl⟩) rfl
    rw[World.putObj_heap_other hne];exact hw.own b o C
   ·refine hw.sep b o ?_;rcases B8.1 d with h|h
    ·exact C5 _ (F6.1 h).1
    exact D0 _ h
   exact hw.nodup.sublist ((List.filter_sublist.append_right H).map _)
  obtain⟨j,g1,g2⟩:=key;exact Zhk y Ds j _ g1 hn.2 g2 hR
theorem HB{n:Nat}{fn:Func}{R:Ending→World→Prop}{x:Exit}{vs:List Value}{Ds:List Nat}{Hd:Hp}(hx:x=.normal∨x=.ret)(j:Res P e H fn.results.toList vs)
 (hH:∀ w,St M H' w→St M (Hd++H) w) (g:∀ D∈Ds,(D,.deferred (some []))∈Hd) (y:Ds.Nodup) (h:∀ w,St M H w→R (.returned (Zmb vs)) w) :
 K ⟨n,Ds.map CS,none,[]⟩ (bodyPostM (Fr none) 0 P fn R) x (St M H') e:=by
 intro a w ha hw;have d:∀ w,St M H w→(results fn a.tmps).run P w=.ok (Zmb vs) w:=by
  intro w hw;have h1:=Res.run (P:=P) ha hw j;have h2:results fn a.tmps=(do let vs ← fn.results.mapM (IF a.tmps);pure (if h:vs.size=1 then vs[0]else .tuple vs)):=by
   congr 1
  rw[h2,Array.mapM_eq_mapM_toList,Sem.run_bind];rw[Sem.run_map,h1];cases vs with
  | nil=>rfl
  | cons v vs=>cases vs <;> rfl
 have:=Zhk (P:=P) (R:=R) d Ds Hd w g y (hH w hw) h;rcases hx with rfl|rfl <;> (show LeavesInM _ _ _ _ _ _ a.defers _ _;rw[ha.defers];exact this)
end
end Go.Esp
namespace Go.Esp
inductive Kd where
  | b|i (k:IntKind)|s
def Fit:Kd→Value→Prop
 | .b,.bool _=>True
 | .i k,.int k' _=>k'=k
 | .s,.string _=>True
 | _,_=>False
def Fits:List Kd→List Value→Prop
 | [],[]=>True
 | k::ks,v::vs=>Fit k v∧Fits ks vs
 | _,_=>False
theorem Fits.length:∀{d:List Kd} {vs:List Value},Fits d vs→vs.length=d.length
 | [],[],_=>rfl
 | _::_,_::_,h=>by simp[Fits.length h.2]
 | [],_::_,h=>h.elim
 | _::_,[],h=>h.elim
theorem Fits.split:∀{aZ bs:List Kd} {vs:List Value},Fits (aZ++bs) vs→Fits aZ (vs.take aZ.length)∧Fits bs (vs.drop aZ.length)
 | [],bs,vs,h=>⟨by simp[Fits],by simpa using h⟩
 | a::aZ,bs,[],h=>h.elim
 | a::aZ,bs,v::vs,h=>⟨⟨h.1,(Fits.split h.2).1⟩,(Fits.split h.2).2⟩
def PC(P:Program)(K:TypeId→Option (List Kd)):List Field→Nat→Option (List Kd)
 | [],_=>some []
 | f::fs,off=>match K f.type with
  | some ks => match f.name != "_" && Nat.beq f.offset off && Nat.beq (P.cellsOf f.type) ks.length, PC P K fs (off + ks.length) with
   | true,some ls=>some (ks++ls)
   | _,_=>none
  | none=>none
def UK(P:Program):Nat→TypeId→Option (List Kd)
 | 0,_=>none
 | d+1,t=>match P.underlying t with
  | some .bool=>some [.b]
  | some (.int k)=>some [.i k]
  | some .string=>some [.s]
  | some (.array n e)=>match UK P d e with
   | some ks=>match Nat.beq (P.cellsOf e) ks.length with
    | true=>some (List.replicate n ks).flatten
    | false=>none
   | none=>none
  | some (.struct fs)=>match P.stoodInHeld t with
   | true=>none
   | false=>PC P (UK P d) fs.toList 0
  | _=>none
def mkV(P:Program)(t:TypeId)(xs:List Value):Value:=match P.underlying t with
 | some (.struct _)=>.agg xs.toArray
 | some (.array _ _)=>.agg xs.toArray
 | _=>xs.headD undef
section
variable {P:Program}
theorem RZ{w:World}{t:TypeId}{xs:Array Value}{off:Nat}{seg:List Value}{d:TypeDesc}(hu:P.underlying t=some d)(hs:(xs.toList.drop off).take (P.cellsOf t)=seg)(j:seg.length=P.cellsOf t)(h1:BA d=false→P.cellsOf t=1):
 (part t xs off).run P w=.ok (mkV P t seg) w:=by
 obtain⟨i,hi⟩:=info_of_underlying hu;unfold part;rw[ZY (Et hu)];cases hd:BA d with
 | true =>
  simp only[if_true];rw[ZY (run_sizeOf w hi)];have:mkV P t seg=.agg seg.toArray:=by
   unfold mkV;rw[hu];cases d <;> simp[BA]at hd <;> rfl
  rw[this];show Result.ok _ _=_;congr 2;apply Array.ext';rw[← hs];simp[J7]
 | false =>
  have g:=h1 hd;rw[g]at hs j
  match seg,j with
  | [v],_ =>
   have:xs[off]?=some v:=by
    have:=A9 (·[0]?) hs;simpa[I1]using this
   rw[this];have:mkV P t [v]=v:=by
    unfold mkV;rw[hu];cases d <;> simp[BA]at hd <;> rfl
   rw[this];rfl
def EqK(P:Program)(dd:Nat)(t:TypeId)(ks:List Kd):Prop :=
 ∀(w:World) (xs ys:List Value),Fits ks xs→Fits ks ys→∃ r:Bool,(Op.equalIn dd t (mkV P t xs) (mkV P t ys)).run P w=.ok r w∧(r=true↔xs=ys)
theorem Da{d:Nat}{t:TypeId}{g:List Kd}{D:TypeDesc}(hk:UK P d t=some g)(hu:P.underlying t=some D)(j:BA D=false):g.length=1:=by
 cases d with
 | zero=>simp[UK]at hk
 | succ d =>
  unfold UK at hk;rw[hu]at hk;cases D <;> simp[BA]at j <;> simp at hk <;> subst hk <;> rfl
theorem Ji{d:Nat}{t:TypeId}{g:List Kd}(hk:UK P d t=some g):∃ D,P.underlying t=some D:=by
 cases d with
 | zero=>simp[UK]at hk
 | succ d =>
  unfold UK at hk;cases hu:P.underlying t with
  | none=>rw[hu]at hk;cases hk
  | some D=>exact⟨D,rfl⟩
theorem NY(O m:Nat)(V:∀ t y,UK P m t=some y→EqK P O t y)(xs ys:List Value)(w:World):∀(K:List Field) (off:Nat) (y:List Kd),PC P (UK P m) K off=some y →
 Fits y (xs.drop off)→Fits y (ys.drop off)→∃ r:Bool,(Op.eqFields O xs.toArray ys.toArray K).run P w=.ok r w∧(r=true↔xs.drop off=ys.drop off)
 | [],off,y,hk,hx,hy=>by
  obtain rfl:=A5 hk;have h1:xs.drop off=[]:=D4 hx.length;have h2:ys.drop off=[]:=D4 hy.length;exact⟨true,by simp[Op.eqFields],by simp[h1,h2]⟩
 | f::K,off,y,hk,hx,hy=>by
  unfold PC at hk;split at hk
  ·rename_i g C;split at hk
   ·rename_i ls Z T;obtain rfl:=A5 hk;simp only[F1,bne_iff_ne,ne_eq]at Z;obtain⟨⟨hn,F⟩,d⟩:=Z;have F:=F8 F;have d:=F8 d;obtain⟨U,x2⟩:=hx.split;obtain⟨y1,y2⟩:=hy.split;rw[E5]at x2 y2;obtain⟨D,R⟩:=Ji C;have one:BA D=false→P.cellsOf f.type=1:=fun h=>by rw[d];exact Da C R h
    have p1:=RZ (w:=w) (xs:=xs.toArray) (off:=f.offset) R (seg:=(xs.drop off).take g.length) (by rw[d,F]) (by rw[U.length,d]) one;have p2:=RZ (w:=w) (xs:=ys.toArray) (off:=f.offset) R (seg:=(ys.drop off).take g.length) (by rw[d,F]) (by rw[y1.length,d]) one;obtain⟨r,p3,v⟩:=V f.type g C w _ _ U y1;obtain⟨r',L,B⟩:=NY O m V xs ys w K (off+g.length) ls T x2 y2;simp only[Op.eqFields,hn,ne_eq,not_false_eq_true,if_true,Sem.run_bind,p1,p2,p3,Result.andThen_ok];have j:xs.drop off=ys.drop off↔((xs.drop off).take g.length=(ys.drop off).take g.length∧xs.drop (off+g.length)=ys.drop (off+g.length)):=by
     constructor
     ·intro h;exact⟨by rw[h],by rw[← E5,h,E5]⟩
     rintro⟨h1,h2⟩;rw[← F0 g.length (xs.drop off),← F0 g.length (ys.drop off),h1,E5,E5,h2]
    rw[j];cases r
    ·exact⟨false,by simp,by simp;intro e;exact absurd (v.2 e) jQ⟩
    refine⟨r',by simpa using L,?_⟩;rw[B];simp[v.1 rfl]
   cases hk
  cases hk
theorem LF(B:Nat){e:TypeId}{d:List Kd}{D:TypeDesc}(C:P.underlying e=some D)(one:BA D=false→P.cellsOf e=1)(g:P.cellsOf e=d.length)(T:EqK P B e d)(xs ys:List Value)(w:World):∀(n i:Nat),
 Fits (List.replicate n d).flatten (xs.drop (i * d.length))→Fits (List.replicate n d).flatten (ys.drop (i * d.length)) →
 ∃ r:Bool,(Op.eqItems B e (P.cellsOf e) xs.toArray ys.toArray (List.range' i n)).run P w=.ok r w∧(r=true↔xs.drop (i * d.length)=ys.drop (i * d.length))
 | 0,i,hx,hy=>by
  have h1:xs.drop (i * d.length)=[]:=D4 hx.length;have h2:ys.drop (i * d.length)=[]:=D4 hy.length;exact⟨true,by simp[Op.eqItems],by simp[h1,h2]⟩
 | n+1,i,hx,hy=>by
  rw[List.replicate_succ,List.flatten_cons]at hx hy;obtain⟨K,R⟩:=hx.split;obtain⟨L,O⟩:=hy.split;rw[E5,show i * d.length+d.length=(i+1) * d.length by rw[F4,Nat.one_mul]]at R O;have V:=RZ (w:=w) (xs:=xs.toArray) (off:=i * P.cellsOf e) C (seg:=(xs.drop (i * d.length)).take d.length) (by rw[g]) (by rw[K.length,g]) one;have U:=RZ (w:=w) (xs:=ys.toArray) (off:=i * P.cellsOf e) C (seg:=(ys.drop (i * d.length)).take d.length) (by rw[g]) (by rw[L.length,g]) one;obtain⟨r,Z,v⟩:=T w _ _ K L;obtain⟨r',F,y⟩:=LF B C one g T xs ys w n (i+1) R O;rw[List.range'_succ];simp only[Op.eqItems,Sem.run_bind,V,U,Z,Result.andThen_ok];have j:xs.drop (i * d.length)=ys.drop (i * d.length)↔((xs.drop (i * d.length)).take d.length=(ys.drop (i * d.length)).take d.length∧xs.drop ((i+1) * d.length)=ys.drop ((i+1) * d.length)):=by
   rw[show(i+1) * d.length=i * d.length+d.length by rw[F4,Nat.one_mul]];constructor
   ·intro h;exact⟨by rw[h],by rw[← E5,h,E5]⟩
   rintro⟨h1,h2⟩;rw[← F0 d.length (xs.drop (i * d.length)),← F0 d.length (ys.drop (i * d.length)),h1,E5,E5,h2]
  rw[j];cases r
  ·exact⟨false,by simp,by simp;intro e;exact absurd (v.2 e) jQ⟩
  refine⟨r',by simpa using F,?_⟩;rw[y];simp[v.1 rfl]
theorem IC(d:Nat):∀(m:Nat) (t:TypeId) (C:List Kd),UK P m t=some C→EqK P (d+m) t C
 | 0,_,_,h=>by simp[UK]at h
 | m+1,t,C,h=>by
  intro w xs ys hx y;unfold UK at h;have U:=IC d m;rw[show d+(m+1)=(d+m)+1 from rfl];cases hu:P.underlying t with
  | none=>rw[hu]at h;cases h
  | some D =>
   rw[hu]at h;cases D <;> simp only[]at h <;> try(cases h;done)
   case bool =>
    obtain rfl:=A5 h
    match xs,ys,hx,y with
    | [.bool a],[.bool b],_,_=>exact⟨a == b,by simp[mkV,hu,run_equalIn_bool w _ _ _ _ hu],by simp⟩
   case int k =>
    obtain rfl:=A5 h
    match xs,ys,hx,y with
    | [.int T a],[.int V b],h1,h2 =>
     obtain rfl:T=k:=h1.1;obtain rfl:V=T:=h2.1;exact⟨a == b,by simp[mkV,hu,run_equalIn_int w _ _ _ _ _ _ hu],by simp⟩
   case string =>
    obtain rfl:=A5 h
    match xs,ys,hx,y with
    | [.string a],[.string b],_,_=>exact⟨a.toList == b.toList,by simp[mkV,hu,run_equalIn_string w _ _ _ _ hu],by rw[Hv];simp⟩
   case array n e =>
    split at h
    ·rename_i Z j;split at h
     ·rename_i hb;obtain rfl:=A5 h;have B:=F8 hb;obtain⟨D,K⟩:=Ji j;obtain⟨i,hi⟩:=info_of_underlying K;have one:BA D=false→P.cellsOf e=1:=fun h=>by rw[B];exact Da j K h
      obtain⟨r,F,g⟩:=LF (d+m) K one B (U e Z j) xs ys w n 0 (by simpa using hx) (by simpa using y);refine⟨r,?_,by simpa using g⟩;have L:mkV P t xs=.agg xs.toArray:=by simp[mkV,hu]
      have O:mkV P t ys=.agg ys.toArray:=by simp[mkV,hu]
      rw[L,O,run_equalIn_array w (d+m) _ _ hu hi,List.range_eq_range'];exact F
     cases h
    cases h
   case struct fs =>
    split at h
    ·cases h
    rename_i R;obtain⟨r,F,g⟩:=NY (d+m) m U xs ys w fs.toList 0 C h (by simpa using hx) (by simpa using y);refine⟨r,?_,by simpa using g⟩;have L:mkV P t xs=.agg xs.toArray:=by simp[mkV,hu]
    have O:mkV P t ys=.agg ys.toArray:=by simp[mkV,hu]
    have v:P.fieldsOf t=fs:=by simp[Program.fieldsOf,hu]
    rw[L,O,run_equalIn_struct w (d+m) t _ _ (by rw[v];exact hu) (by simpa using R),v];exact F
end
section
variable {P:Program} {n:Sh} {ops:Array Oper} {Q:Exit→Act→World→Prop} {rest:List Nat} {M M':Mem} {H H' H0:Hp} {e:Env} {J S:World→Prop} {A:As} {i:Nat}
  {dst:Option Tmp} {d:Tmp} {op:Op} {ty:TypeId} {pos:String} {af:Array Edge} {gd:Option (Nat×Bool)}
def Zws:BinOp→Bool
 | .eql=>true
 | .neq=>true
 | _=>false
def eqX:BinOp→Bool→Bool
 | .neq,c=>!c
 | _,c=>c
def eqP:BinOp→Prop→Prop
 | .neq,p=>¬p
 | _,p=>p
theorem Zia{o:BinOp}(h:Zws o=true):o=.eql∨o=.neq:=by cases o <;> simp[Zws]at h <;> simp
theorem Ah{o:BinOp}{t j:TypeId}{x y:Operand}{v:Value}(D:o=.eql∨o=.neq)(hi:ops[i]?=some ⟨some d,.binOp o t x y j,ty,pos,af,gd⟩)(F:want ops e gd=some true)
 (B:∀ a' w,Sat n e a'→(do eqGuard o t x y (a'.eval x) (a'.eval y);binOp o t (a'.eval x) (a'.eval y):Sem Value).run P w=.ok v w) (C:Nat.ble (d+1) n.sz=true)
 (hk:XD P n ops Q rest J A ((d,v)::e)):XD P n ops Q (i::rest) J A e:=by
 have g:NE P (.binOp o t x y j)=.read:=by rcases D with rfl|rfl <;> rfl
 refine UB hi g F (fun a w ha _=>Xp ?_) (fun a ha=>ha.put C _) hk;exact Wz (B a w ha)
theorem VW{o:BinOp}{t t':TypeId}{x y:Operand}{g j:Segs}{m:Nat}{K:List Kd}{u v:Value}{sz:Nat}(hi:ops[i]?=some ⟨some d,.binOp o t x y t',ty,pos,af,gd⟩)(hg:want ops e gd=some true)
 (ho:Zws o=true) (hx:ev e x=some u) (hy:ev e y=some v) (hu:Parts u g) (hv:Parts v j) (hl:lay P t=some (true,sz)) (ab:UK P m t=some K) (hm:Nat.ble m 10000=true) (L:P.eqGuardType P.depth t=false) (h1:Fits K (Segs.cells g)) (h2:Fits K (Segs.cells j)) (T:u=WX g) (aa:v=WX j)
 (hd:Nat.ble (d+1) n.sz=true)
 (ad:∀ c:Bool,(c=true↔eqP o (Segs.cells g=Segs.cells j))→XD P n ops Q rest J A ((d,.bool c)::e)):XD P n ops Q (i::rest) J A e:=by
 have hk:∀ c:Bool,(c=true↔Segs.cells g=Segs.cells j)→XD P n ops Q rest J A ((d,.bool (eqX o c))::e):=by
  intro c hc;cases o <;> simp[Zws]at ho <;> cases c <;> simp_all[eqX,eqP]
 subst T;subst aa;have C:=Zia ho;have ae:=D1 hm;obtain⟨dd,it,U,_,_,O⟩:=OH hl;have D:∀ R,mkV P t (Segs.cells R)=WX R:=fun R=>by
  unfold mkV;rw[U];cases dd <;> simp[BA]at O <;> rfl
 have key:∀ w:World,∃ r:Bool,(Op.equal t (WX g) (WX j)).run P w=.ok r w∧(r=true↔Segs.cells g=Segs.cells j):=by
  intro w;obtain⟨r,F,B⟩:=IC (10000-m) m t K ab w _ _ h1 h2;rw[D,D,show 10000-m+m=10000 by omega]at F;exact⟨r,F,B⟩
 obtain⟨c,hc⟩:∃ c:Bool,(c=true↔Segs.cells g=Segs.cells j):=by
  by_cases h:Segs.cells g=Segs.cells j
  ·exact⟨true,by simp[h]⟩
  exact⟨false,by simp[h]⟩
 refine Ah C hi hg (fun a w ha=>?_) hd (hk c hc);rw[ha.ev hx,ha.ev hy];have V:(eqGuard o t x y (WX g) (WX j)).run P w=.ok () w:=by
  unfold eqGuard WX;have hp:(program:Sem Program).run P w=.ok P w:=rfl;rcases C with rfl|rfl <;> simp[L]
 rw[ZY V];obtain⟨r,F,B⟩:=key w;have Z:r=c:=by cases r <;> cases c <;> simp_all
 subst Z;rcases C with rfl|rfl
 ·show(do pure (.bool (← Op.equal t (WX g) (WX j))):Sem Value).run P w=_;rw[ZY F];rfl
 show(do pure (.bool (!(← Op.equal t (WX g) (WX j)))):Sem Value).run P w=_;rw[ZY F];rfl
def Znt:TypeDesc→Value→Option (Bool×Value)
 | .pointer _,.pointer p=>some (p.isNone,.pointer none)
 | .slice _,.slice a _ _=>some (a.isNone,.slice none 0 0)
 | .map _ _,.map r=>some (r.isNone,.map none)
 | .func _ _ _,.nilFunc=>some (true,.nilFunc)
 | .func _ _ _,.func _ _ _=>some (false,.nilFunc)
 | .interface _,.nilIface=>some (true,.nilIface)
 | .interface _,.iface _ _=>some (false,.nilIface)
 | _,_=>none
theorem Zzu{o:BinOp}{t C:TypeId}{x:Operand}{v z:Value}{D:TypeDesc}{c:Bool}(hi:ops[i]?=some ⟨some d,.binOp o t x (.const z) C,ty,pos,af,gd⟩)(K:want ops e gd=some true)
 (F:Zws o=true) (hx:ev e x=some v) (hu:P.underlying t=some D) (g:Znt D v=some (c,z)) (B:Nat.ble (d+1) n.sz=true)
 (hk:XD P n ops Q rest J A ((d,.bool (eqX o c))::e)):XD P n ops Q (i::rest) J A e:=by
 have j:=Zia F;refine Ah j hi K (fun a w ha=>?_) B hk;rw[ha.ev hx];show(do eqGuard o t x (.const z) v z;binOp o t v z:Sem Value).run P w=_;have key:(Op.equal t v z).run P w=.ok c w:=by
  unfold Znt at g;show(Op.equalIn (9999+1) t v z).run P w=_;unfold Op.equalIn;rw[ZY (YP hu)];split at g <;> first
   | (cases g;done)
   | (simp only[G1]at g;obtain⟨rfl,rfl⟩:=g;first|rfl|(rename_i p;cases p <;> rfl)|(rename_i p _ _;cases p <;> rfl))
 have y:(eqGuard o t x (.const z) v z).run P w=.ok () w:=by
  unfold Znt at g;unfold eqGuard;rcases j with rfl|rfl <;> split at g <;> simp at g <;> obtain⟨rfl,rfl⟩:=g <;> simp
 rw[ZY y];have hb:binOp o t v z=(match o with | .neq=>do pure (.bool (!(← Op.equal t v z)))|_=>do pure (.bool (← Op.equal t v z)):Sem Value):=by
  unfold Znt at g;rcases j with rfl|rfl <;> split at g <;> simp at g <;> obtain⟨rfl,rfl⟩:=g <;> rfl
 rw[hb];rcases j with rfl|rfl
 ·simp only[];rw[ZY key];rfl
 simp only[];rw[ZY key];rfl
def fld(P:Program)(s:TypeId)(f:Nat):Option (Nat×TypeId):=match P.underlying s with
 | some (.struct fs)=>match fs[f]? with
  | some fd=>some (fd.offset,fd.type)
  | none=>none
 | _=>none
theorem Zus{s T:TypeId}{x:Operand}{f off m:Nat}{agg:Bool}{r r':Segs}{v:Value}(hi:ops[i]?=some ⟨some d,.field s x f,ty,pos,af,gd⟩)(hg:want ops e gd=some true)(hx:ev e x=some (WX r))
 (y:fld P s f=some (off,T)) (hl:lay P T=some (agg,m)) (hs:Segs.sub r off m=some r') (g:Sp agg r'=some v) (hd:Nat.ble (d+1) n.sz=true)
 (hk:XD P n ops Q rest J A ((d,v)::e)):XD P n ops Q (i::rest) J A e :=
 VA hi rfl hg (fun a' w ha=>Xp (by
  simp only[execOp,ha.ev hx];refine Wz ?_;obtain⟨D,it,U,O,B,j⟩:=OH hl;obtain⟨h1,h2⟩:=Segs.sub_cells hs;obtain⟨_,_,_,_,h3⟩:=Segs.sub_spec hs;unfold fld at y;split at y
  ·rename_i fs F;split at y
   ·rename_i fd K;simp only[G1,I8]at y;obtain⟨rfl,rfl⟩:=y;have L:P.cellsOf fd.type=m:=by simp[Program.cellsOf,O,B]
    have hlen:(Segs.cells r').length=m:=by rw[Segs.cells_length,h3]
    have Z:=RZ (w:=w) (xs:=(Segs.cells r).toArray) (off:=fd.offset) U (seg:=Segs.cells r') (by rw[L];exact h1) (by rw[hlen,L]) (fun V=>by
     rw[j]at V;subst V;unfold Sp at g;split at g
     ·rename_i C _;first|(cases C;done)|(rename_i C;cases C;done)|simp_all
     ·rw[L,← hlen];rfl
     cases g)
    have R:mkV P fd.type (Segs.cells r')=v:=by
     unfold mkV;rw[U];unfold Sp at g;split at g
     ·obtain rfl:=A5 g;cases D <;> simp[BA]at j <;> rfl
     ·obtain rfl:=A5 g;cases D <;> simp[BA]at j <;> rfl
     cases g
    unfold Instr.field;rw[ZY (YP F)];simp only[WX,K];rw[R]at Z;exact Z
   cases y
  cases y)) (fun a ha=>ha.put hd _) hk
def Fo(P:Program)(f:FuncId)(vs:List Value)(M:Mem)(Hin:Hp)(R:Mem→Value→Prop):Prop :=
 ∀ H w,St M (Hin++H) w→Calls P f vs.toArray w fun e w'=>∃ v M',e=.returned v∧M.le M'∧St M' (Hin++H) w'∧R M' v
theorem Yay{f:FuncId}{xs:List Operand}{g:Array TypeId}{vs:List Value}{Hin d:Hp}{R:Mem→Value→Prop}(hi:ops[i]?=some ⟨dst,.call ⟨.value (.func f),xs.toArray,g⟩,ty,pos,af,gd⟩)(D:want ops e gd=some true)
 (C:Ta P f=true) (hx:evs e xs=some vs) (y:Fo P f vs M Hin R) (hH:Rem Hin H d) (B:∀ a v,Sat n e a→Sat n (NN dst v e) (a.put dst v))
 (hk:∀ v M',M.le M'→R M' v→XD P n ops Q rest J ⟨M',H⟩ (NN dst v e)):XD P n ops Q (i::rest) J ⟨M,H⟩ e:=by
 obtain⟨fn,h1,h2,h3⟩:=Ub C;refine Zdx hi rfl D (fun a F w ha hw=>Rv h1 h2 h3 zB ?_);exact(y (F++d) w (hw.perm0 ((hH.perm.append_left F).trans (PV F Hin d)))).mono fun e' K ⟨v,M',he,hm,hs,j⟩=>⟨v,he,⟨M',H⟩,_,hs.perm0 ((hH.perm.append_left F).trans (PV F Hin d)).symm,fun _ h=>St.lower h hm,B a v ha,hk v M' hm j⟩
theorem VT{f:FuncId}{fn:Func}{c:Code}{vs:List Value}{Hin:Hp}{R:Mem→Value→Prop}{m:Nat}(g:P.funcs[f]?=some fn)(hb:fn.body=some c)(hm:fn.ntmps=m)(hle:Nat.ble vs.length m=true)
 (h:∀ H,C P ⟨m,[],none,[]⟩ c (bodyPost P fn fun e d=>∃ v M',e=.returned v∧M.le M'∧St M' (Hin++H) d∧R M' v) (St M (Hin++H)) (RJ 0 vs)):Fo P f vs M Hin R :=
 fun H _ hw=>enter (S:=St M (Hin++H)) g hb hm hle hw (h H)
theorem XK{d:Tmp}(g:Nat.ble (d+1) n.sz=true):∀ a v,Sat n e a→Sat n (NN (some d) v e) (a.put (some d) v):=fun _ v ha=>ha.put g v
theorem Oa:∀ a v,Sat n e a→Sat n (NN none v e) (a.put none v):=fun _ v ha=>ha.none v
end
end Go.Esp
namespace Go.Esp
noncomputable section
open Classical
def cnt(x:Nat×Obj)(H:Hp):Nat:=List.count x H
theorem WW(x:Nat×Obj):cnt x []=0:=rfl
def Zyy(x y:Nat×Obj):Nat:=List.count x [y]
theorem Wo(x y:Nat×Obj)(H:Hp):cnt x (y::H)=Zyy x y+cnt x H:=by
 unfold cnt Zyy;grind
theorem WG(x:Nat×Obj)(A B:Hp):cnt x (A++B)=cnt x A+cnt x B:=by simp[cnt,List.count_append]
theorem Zby{x:Nat×Obj}{H:Hp}(h:0<cnt x H):x∈H:=List.count_pos_iff.1 h
theorem Zdh{x:Nat×Obj}{H:Hp}(h:x∈H):0<cnt x H:=List.count_pos_iff.2 h
theorem EN{H:Hp}:H.Nodup↔∀ x,cnt x H≤1:=List.nodup_iff_count
theorem St.cnt{M:Mem}{H H':Hp}{w:World}(h:St M H w)(B:∀ x,Esp.cnt x H'≤Esp.cnt x H):St M H' w:=by
 have d:∀ x,x∈H'→x∈H:=fun x hx=>Zby (Nat.lt_of_lt_of_le (Zdh hx) (B x));have v:H.Nodup:=by
  have:=h.nodup;rw[List.Nodup,List.pairwise_map]at this;exact this.imp fun hne he=>hne (by rw[he])
 have g:H'.Nodup:=EN.2 fun x=>H7 (B x) (EN.1 v x);have C:∀ x∈H,∀ y∈H,x.1=y.1→x=y:=by
  intro x hx y D j;have h1:=h.own x.1 x.2 hx;have h2:=h.own y.1 y.2 D;rw[j,h2]at h1;have:=A5 h1;exact Prod.ext j this.symm
 refine⟨h.mem,fun b o hb=>h.own b o (d _ hb),fun b o hb=>h.sep b o (d _ hb),?_,h.io⟩;rw[List.Nodup,List.pairwise_map];refine List.Pairwise.imp_of_mem ?_ g;grind
end
theorem Upd.over{b:Nat}{o o':Obj}{H H':Hp}(h:Upd b o o' H H'):∀ gs:Hp,Upd b o o' (gs++H) (gs++H')
 | []=>h
 | _::gs=>.tail (Upd.over h gs)
section
variable {P:Program} {n:Sh} {ops:Array Oper} {Q:Exit→Act→World→Prop} {rest:List Nat} {M M':Mem} {H H' H0:Hp} {e:Env} {J S:World→Prop} {A:As} {i:Nat}
  {dst:Option Tmp} {d:Tmp} {op:Op} {ty:TypeId} {pos:String} {af:Array Edge} {gd:Option (Nat×Bool)}
theorem YI{f:FuncId}{fn:Func}{c:Code}{vs:List Value}{Hin:Hp}{R:Mem→Value→Hp→Prop}{m:Nat}(F:Hp→Hp)(j:∀ H,Hin++H=F H)(y:P.funcs[f]?=some fn)(hb:fn.body=some c)(hm:fn.ntmps=m)(hle:Nat.ble vs.length m=true)
 (h:∀ H,C P ⟨m,[],none,[]⟩ c (bodyPost P fn fun e g=>∃ v M' d,e=.returned v∧M.le M'∧St M' (d++H) g∧R M' v d) (St M (F H)) (RJ 0 vs)):Fh P f vs M Hin R :=
 fun H _ hw=>enter (S:=St M (F H)) y hb hm hle (j H ▸ hw) (h H)
theorem Mv{f:FuncId}{fn:Func}{c:Code}{vs:List Value}{Hin:Hp}{R:Mem→Value→Prop}{m:Nat}(F:Hp→Hp)(g:∀ H,Hin++H=F H)(j:P.funcs[f]?=some fn)(hb:fn.body=some c)(hm:fn.ntmps=m)(hle:Nat.ble vs.length m=true)
 (h:∀ H,C P ⟨m,[],none,[]⟩ c (bodyPost P fn fun e d=>∃ v M',e=.returned v∧M.le M'∧St M' (Hin++H) d∧R M' v) (St M (F H)) (RJ 0 vs)):Fo P f vs M Hin R :=
 fun H _ hw=>enter (S:=St M (F H)) j hb hm hle (g H ▸ hw) (h H)
theorem LS{t k el:TypeId}{x y u:Operand}{b:Nat}{z:Int}{v:Value}{o:Obj}{l:IM}(hi:ops[i]?=some ⟨none,.mapUpdate t x y u,ty,pos,af,gd⟩)(L:want ops e gd=some true)
 (hx:ev e x=some (.map (some b))) (F:ev e y=some (.int .i64 z)) (hu:ev e u=some v) (ht:RI P t=some (k,el)) (K:imO o l) (hb:(b,o)∈H)
 (hk:∀ o',imO o' (VS l z v)→∃ d,Upd b o o' H d∧XD P n ops Q rest (St M d) ⟨M,d⟩ e) (g:n.wrs.contains i=false:=by rfl):XD P n ops Q (i::rest) J ⟨M,H⟩ e:=by
 refine SK hi rfl L (fun a w ha hw=>?_) g;have hb:=hw.own b o hb;obtain⟨o',C,j⟩:=Nh (P:=P) (z:=z) (v:=v) ht hb K;unfold Oper.does;have:(execOp a.eval ⟨none,.mapUpdate t x y u,ty,pos,af,gd⟩).run P w=.ok .skip { w with heap:=w.heap.setIfInBounds b o' }:=by
  simp only[execOp,ha.ev hx,ha.ev F,ha.ev hu];rw[ZY C];rfl
 rw[this];obtain⟨d,hH,hk⟩:=hk o' j;exact⟨⟨M,d⟩,e,St.upd hw hH (RQ hb) (fun c D q B=>by rw[SS D];exact B) (SameIO.refl _),ha,hk⟩
theorem Zla{t k el:TypeId}{x y:Operand}{b:Nat}{z:Int}{o:Obj}{l:IM}{d:Array TypeId}(hi:ops[i]?=some ⟨none,.call ⟨.builtin .delete,#[x,y],d⟩,ty,pos,af,gd⟩)(R:want ops e gd=some true)
 (hx:ev e x=some (.map (some b))) (L:ev e y=some (.int .i64 z)) (v:d[0]?=some t) (ht:RI P t=some (k,el)) (O:imO o l) (hb:(b,o)∈H)
 (hk:∀ o',imO o' (Pb l z)→∃ g,Upd b o o' H g∧XD P n ops Q rest (St M g) ⟨M,g⟩ e) (j:n.wrs.contains i=false:=by rfl):XD P n ops Q (i::rest) J ⟨M,H⟩ e:=by
 refine SK hi rfl R (fun a w ha hw=>?_) j;have hb:=hw.own b o hb;obtain⟨o',F,B⟩:=CC (P:=P) (ty:=ty) (z:=z) v ht hb O;unfold Oper.does;have:(execOp a.eval ⟨none,.call ⟨.builtin .delete,#[x,y],d⟩,ty,pos,af,gd⟩).run P w=.ok (.value (.tuple #[])) { w with heap:=w.heap.setIfInBounds b o' }:=by
  simp only[execOp,resolve];simp only[invoke,builtin];have D:#[x,y].map a.eval=#[.map (some b),.int .i64 z]:=by simp[ha.ev hx,ha.ev L]
  rw[D,Sem.run_bind];show(Result.ok _ w).andThen _=_;rw[Result.andThen_ok];exact Wz F
 rw[this];obtain⟨g,hH,hk⟩:=hk o' B;exact⟨⟨M,g⟩,e,St.upd hw hH (RQ hb) (fun c K q C=>by rw[SS K];exact C) (SameIO.refl _),ha,hk⟩
inductive Bnd (e:Env):Option Operand→Option Nat→Prop
  | none:Bnd e none none
  | some {x:Operand} {q:IntKind} {z:Int} {k:Nat}:ev e x=some (.int q z)→z=(k:Int)→Bnd e (some x) (some k)
theorem VQ{w:World}{q:IntKind}{k y:Nat}{code:BoundsCode}(h:k≤y):(Instr.sliceBound (.int q (k:Int)) y code).run P w=.ok k w:=by
 simp[Instr.sliceBound,asIntOf,h]
def WK(a:Option Addr)(sz lo hi m:Nat):Value:=.slice (if m=lo then a else a.map (·.add (lo * sz))) (hi-lo) (m-lo)
theorem WL{t E sz y:Nat}{x:Operand}{lo hi C:Option Operand}{olo ohi omx:Option Nat}{a:Option Addr}{l c:Nat}{v:Value}(B:ops[i]?=some ⟨some d,.slice t x lo hi C,ty,pos,af,gd⟩)(O:want ops e gd=some true)
 (hx:ev e x=some (.slice a l c)) (h1:Bnd e lo olo) (h2:Bnd e hi ohi) (h3:Bnd e C omx) (ht:Na P t=some (E,sz,y)) (hm:omx.getD c≤c) (j:ohi.getD l≤omx.getD c) (g:olo.getD 0≤ohi.getD l) (D:omx.isSome=true→ohi.isSome=true)
 (K:WK a sz (olo.getD 0) (ohi.getD l) (omx.getD c)=v) (L:Nat.ble (d+1) n.sz=true)
 (hk:XD P n ops Q rest J A ((d,v)::e)):XD P n ops Q (i::rest) J A e :=
 VA B rfl O (fun a' w ha=>Xp (by
  subst K;simp only[execOp];refine Wz ?_;obtain⟨it,hu,F,rfl,_⟩:=Wq ht;unfold Instr.sliceAt;rw[ZY (YP hu)];simp only[ha.ev hx];unfold Instr.slice;rw[ZY (YP hu)];simp only[];have hb:(Instr.sliceBounds true l c (lo.map a'.eval) (hi.map a'.eval) (C.map a'.eval)).run P w=.ok (olo.getD 0,ohi.getD l,omx.getD c) w:=by
   unfold Instr.sliceBounds;cases h3 with
   | none =>
    simp only[Option.map_none,Option.getD_none]at hm j ⊢;rw[ZY (show(pure c:Sem Nat).run P w=.ok c w from rfl)];cases h2 with
    | none =>
     simp only[Option.map_none,Option.getD_none]at j g ⊢;rw[ZY (show(pure l:Sem Nat).run P w=.ok l w from rfl)];cases h1 with
     | none=>rfl
     | some hz hzk =>
      subst hzk;simp only[E9,ha.ev hz,F7]at g ⊢;rw[ZY (VQ g)];rfl
    | some hy hyk =>
     subst hyk;simp only[E9,ha.ev hy,F7]at j g ⊢;rw[ZY (VQ j)];cases h1 with
     | none=>rfl
     | some hz hzk =>
      subst hzk;simp only[E9,ha.ev hz,F7]at g ⊢;rw[ZY (VQ g)];rfl
   | some hw hwk =>
    subst hwk;simp only[E9,ha.ev hw,F7]at hm j g ⊢;rw[ZY (VQ hm)];cases h2 with
    | none=>simp at D
    | some hy hyk =>
     subst hyk;simp only[E9,ha.ev hy,F7]at j g ⊢;rw[ZY (VQ j)];cases h1 with
     | none=>rfl
     | some hz hzk =>
      subst hzk;simp only[E9,ha.ev hz,F7]at g ⊢;rw[ZY (VQ g)];rfl
  rw[ZY hb];simp only[];rw[ZY (Th F)];rfl)) (fun a ha=>ha.put L _) hk
theorem OSl.cut{T sz b k c:Nat}{hs:Hp}{rows:List Segs}(h:OSl T sz (.slice (some ⟨b,0,none⟩) rows.length c) hs rows)(hk:k≤rows.length):OSl T sz (.slice (some ⟨b,0,none⟩) k c) hs (rows.take k):=by
 obtain⟨cur,rfl,_,h1,h2,h3,v,j⟩:=h.inv;have d:Esp.lens sz (rows.take k):=fun r g=>h1 r (F9 g);have hlen:(rows.take k).length=k:=by simp[hk]
 have:=OSl.own (T:=T) b c (rows.take k) cur d jD h3 v (by
  rw[← YU d];have B:ZV rows=ZV (rows.take k)++ZV (rows.drop k):=by rw[← XJ,F0]
  have y:cur.toList.take ((ZV (rows.take k)).length)=(cur.toList.take (rows.length * sz)).take ((ZV (rows.take k)).length):=by
   rw[I3];congr 1;have:(ZV (rows.take k)).length≤rows.length * sz:=by
    rw[YU d,hlen];exact D2 _ hk
   omega
  rw[y,j,B];exact List.take_left)
 rw[hlen]at this;exact this
theorem OSl.src{T sz b k c c':Nat}{hs H0:Hp}{rows:List Segs}(h:OSl T sz (.slice (some ⟨b,0,none⟩) rows.length c) hs rows)(hH:Rem hs H H0)(h1:∀ u∈ZV rows,u.oneCell'=true):Src M H sz (.slice (some ⟨b,k * sz,none⟩) (rows.length-k) c') (rows.drop k):=by
 obtain⟨cur,rfl,_,v,h2,h3,F,B⟩:=h.inv;have j:Esp.lens sz (rows.drop k):=fun r d=>v r (List.mem_of_mem_drop d);have y:ZV rows=ZV (rows.take k)++ZV (rows.drop k):=by rw[← XJ,F0]
 refine⟨j,fun u hu=>h1 u (by rw[y];exact D0 _ hu),⟨b,k * sz,none⟩,c',by simp,fun w hw=>?_⟩;have hb:=(hw.perm hH.perm).own b _ (C5 _ (.head _));refine GD hb (n:=(rows.drop k).length * sz) ?_;rcases C7 rows.length k with hk|hk
 ·rw[List.drop_of_length_le (Nat.le_of_lt hk)];simp[ZV]
 have g:Esp.lens sz (rows.take k):=fun r d=>v r (F9 d);have C:k * sz=(ZV (rows.take k)).length:=by rw[YU g];simp[hk]
 have D:(rows.drop k).length * sz=rows.length * sz-k * sz:=by rw[F3,Nat.sub_mul]
 rw[D,← J7,B,y,C];exact List.drop_left
theorem Src.nil{sz:Nat}{a:Addr}{c:Nat}:Src M H sz (.slice (some a) 0 c) []:=⟨fun r d=>(by cases d),fun u hu=>(by cases hu),a,c,rfl,fun w hw j u hu=>(by simp[ZV]at hu)⟩
theorem BE{t E sz K b c:Nat}{x y:Operand}{u:Value}{hs:Hp}{rows news:List Segs}{F:Array TypeId}{l:Nat}(hi:ops[i]?=some ⟨some d,.call ⟨.builtin .append,#[x,y],F⟩,ty,pos,af,gd⟩)(hg:want ops e gd=some true)
 (hx:ev e x=some (.slice (some ⟨b,0,none⟩) l c)) (hy:ev e y=some u) (O:F=#[t,t]) (ht:Na P t=some (E,sz,K)) (ho:OSl E sz (.slice (some ⟨b,0,none⟩) l c) hs rows) (hH:Rem hs H H0)
 (B:Src M H sz u news) (hm:rows.length+news.length≤c) (hd:Nat.ble (d+1) n.sz=true)
 (hk:∀ hs',OSl E sz (.slice (some ⟨b,0,none⟩) (rows++news).length c) hs' (rows++news)→XD P n ops Q rest (St M (hs'++H0)) ⟨M,hs'++H0⟩ ((d,.slice (some ⟨b,0,none⟩) (rows++news).length c)::e)) (L:n.wrs.contains i=false:=by rfl):XD P n ops Q (i::rest) J ⟨M,H⟩ e:=by
 subst O;refine SK hi rfl hg (fun a w ha hw=>?_) L;obtain⟨hl,h1,ad,c',rfl,Z⟩:=B;obtain⟨it,hu,T,rfl,rfl⟩:=Wq ht;obtain⟨cur,rfl,rfl,R,aa,U,V,j⟩:=ho.inv;have C:=hw.perm hH.perm;have hb:=C.own b _ (C5 _ (.head _));have hn:=Z w hw;have v:(ZV news).length=news.length * it.size:=YU hl;have D:rows.length * it.size+(ZV news).length≤cur.size:=by rw[v,V,← F4];exact D2 _ hm
 have hr:=run_append_room (P:=P) w t ty E it hu T b rows.length c cur hb ad news.length c' (ZV news) v hn h1 hm D;have g:lens it.size (rows++news):=R.append hl;have hlen:(rows++news).length=rows.length+news.length:=by simp
 have h2:St M ([(b,.cells (cur.toList.take (rows.length * it.size)++ZV news++cur.toList.drop (rows.length * it.size+(ZV news).length)).toArray E (0,0))]++H0)
  (w.setRow b (cur.toList.take (rows.length * it.size)++ZV news++cur.toList.drop (rows.length * it.size+(ZV news).length)).toArray) :=
  C.upd .head (setRow_heap w b cur _ E _ hb) (fun c hc x hx=>by rw[setRow_other w b c _ hc];exact hx) (SameIO.refl _)
 unfold Oper.does;have:(execOp a.eval ⟨some d,.call ⟨.builtin .append,#[x,y],#[t,t]⟩,ty,pos,af,gd⟩).run P w=.ok (.value (.slice (some ⟨b,0,none⟩) (rows++news).length c)) (w.setRow b (cur.toList.take (rows.length * it.size)++ZV news++cur.toList.drop (rows.length * it.size+(ZV news).length)).toArray):=by
  simp only[execOp,resolve];simp only[invoke,builtin];have e1:#[x,y].map a.eval=#[.slice (some ⟨b,0,none⟩) rows.length c,.slice (some ad) news.length c']:=by simp[ha.ev hx,ha.ev hy]
  rw[e1];rw[Sem.run_bind];show(Result.ok _ w).andThen _=_;rw[Result.andThen_ok,hlen];exact Wz hr
 rw[this];refine⟨⟨M,_⟩,_,h2,ha.put hd _,hk _ ?_⟩;refine OSl.own b c _ _ g jD U ?_ ?_
 ·simp only[J2,B3,D8,F3,H6];omega
 rw[j,← YU g,XJ];exact List.take_left
theorem JS{t E sz T b c off k c':Nat}{z:Value}{x:Operand}{hs:Hp}{rows:List Segs}{d:Array TypeId}{a:Option Addr}(hi:ops[i]?=some ⟨dst,.call ⟨.builtin .clear,#[x],d⟩,ty,pos,af,gd⟩)(hg:want ops e gd=some true)
 (hx:ev e x=some (.slice a k c')) (ab:a=some ⟨b,off,none⟩) (K:d[0]?=some t) (ht:Na P t=some (E,sz,T)) (hz:XP P E=some z) (ah:z.cells.size=sz) (aa:z.cells.all (fun u=>u.oneCell')=true) (ho:OSl E sz (.slice (some ⟨b,0,none⟩) rows.length c) hs rows) (hH:Rem hs H H0)
 (h1:rows.length * sz≤off) (h2:off+k * sz≤c * sz) (hd:∀ a v,Sat n e a→Sat n (NN dst v e) (a.put dst v))
 (hk:∀ hs',OSl E sz (.slice (some ⟨b,0,none⟩) rows.length c) hs' rows→XD P n ops Q rest (St M (hs'++H0)) ⟨M,hs'++H0⟩ (NN dst (.tuple #[]) e)) (U:n.wrs.contains i=false:=by rfl):XD P n ops Q (i::rest) J ⟨M,H⟩ e:=by
 subst ab;refine SK hi rfl hg (fun a w ha hw=>?_) U;obtain⟨it,hu,O,rfl,rfl⟩:=Wq ht;obtain⟨cur,rfl,_,ad,D,ae,ag,B⟩:=ho.inv;have y:=hw.perm hH.perm;have hb:=y.own b _ (C5 _ (.head _));have V:it.zero=some z:=by simpa[XP,O]using hz
 unfold Oper.does;have e1:#[x].map a.eval=#[.slice (some ⟨b,off,none⟩) k c']:=by simp[ha.ev hx]
 have g:∀ u∈(Builtin.zeroCells z.cells k).toList,u.oneCell'=true:=by
  intro u hu;simp only[Builtin.zeroCells,Array.toList_map,C0]at hu;obtain⟨j,hj,rfl⟩:=hu;have Z:j<k * z.cells.size:=by simpa using hj
  have F:0<z.cells.size:=by
   rcases Nat.eq_zero_or_pos z.cells.size with h|h
   ·rw[h]at Z;omega
   exact h
  have C:=G5 j F;have:=(Array.all_eq_true.1 aa) (j % z.cells.size) C;rw[getElem!_pos z.cells (j % z.cells.size) C];exact this
 have hlen:(Builtin.zeroCells z.cells k).toList.length=k * it.size:=by
  rw[H6,size_zeroCells,ah]
 by_cases hk0:k=0
 ·subst hk0;have:(execOp a.eval ⟨dst,.call ⟨.builtin .clear,#[x],d⟩,ty,pos,af,gd⟩).run P w=.ok (.value (.tuple #[])) w:=by
   simp only[execOp,resolve];simp only[invoke,builtin];rw[e1,Sem.run_bind];show(Result.ok _ w).andThen _=_;rw[Result.andThen_ok];refine Wz ?_;simp[Builtin.clear_,K,run_underlying hu]
  rw[this];have R:St M ([(b,.cells cur E (0,0))]++H0) w:=y;exact⟨⟨M,_⟩,_,R,hd a _ ha,hk _ ho⟩
 have L:off+0+(Builtin.zeroCells z.cells k).toList.length≤cur.size:=by rw[hlen,ag];omega
 have hs':=run_storeCells_at P b off E (Builtin.zeroCells z.cells k).toList 0 cur w hb L g;have:(execOp a.eval ⟨dst,.call ⟨.builtin .clear,#[x],d⟩,ty,pos,af,gd⟩).run P w=.ok (.value (.tuple #[])) (w.setRow b (cur.toList.take (off+0)++(Builtin.zeroCells z.cells k).toList++cur.toList.drop (off+0+(Builtin.zeroCells z.cells k).toList.length)).toArray):=by
  simp only[execOp,resolve];simp only[invoke,builtin];rw[e1,Sem.run_bind];show(Result.ok _ w).andThen _=_;rw[Result.andThen_ok];refine Wz ?_;unfold Builtin.clear_;simp only[K];have e2:(#[Value.slice (some ⟨b,off,none⟩) k c'])[0]?=some (.slice (some ⟨b,off,none⟩) k c'):=rfl;simp only[e2];rw[ZY (YP hu)];have ai:(zeroValue E).run P w=.ok z w:=by simp[zeroValue,typeInfo,O,V]
  cases k with
  | zero=>exact(hk0 rfl).elim
  | succ k =>
   simp only[];rw[Sem.run_bind,ai,Result.andThen_ok,Sem.run_bind];rw[hs'];rfl
 rw[this];have h3:=y.upd (o':=.cells (cur.toList.take (off+0)++(Builtin.zeroCells z.cells k).toList++cur.toList.drop (off+0+(Builtin.zeroCells z.cells k).toList.length)).toArray E (0,0)) .head (setRow_heap w b cur _ E _ hb) (fun c hc x hx=>by rw[setRow_other w b c _ hc];exact hx) (SameIO.refl _);have h4:St M ([(b,.cells (cur.toList.take (off+0)++(Builtin.zeroCells z.cells k).toList++cur.toList.drop (off+0+(Builtin.zeroCells z.cells k).toList.length)).toArray E (0,0))]++H0) (w.setRow b (cur.toList.take (off+0)++(Builtin.zeroCells z.cells k).toList++cur.toList.drop (off+0+(Builtin.zeroCells z.cells k).toList.length)).toArray):=h3;refine⟨⟨M,_⟩,_,h4,hd a _ ha,hk [(b,_)] ?_⟩;refine OSl.own b c rows _ ad D ae ?_ ?_
 ·simp only[J2,B3,D8,F3,H6]at hlen ⊢;omega
 rw[← B];simp only[Nat.add_zero];rw[B5,List.take_append_of_le_length jU,I3];congr 1;omega
theorem OSl.plain{T sz l c:Nat}{a:Option Addr}{hs:Hp}{rows:List Segs}(h:OSl T sz (.slice a l c) hs rows)(d:0<rows.length):Zln a:=by
 cases h with
 | nil=>cases d
 | own b=>exact⟨b,0,rfl⟩
theorem OSl.addr{T sz l c:Nat}{a:Option Addr}{hs:Hp}{rows:List Segs}(h:OSl T sz (.slice a l c) hs rows)(d:0<rows.length):∃ b,a=some ⟨b,0,none⟩:=by
 cases h with
 | nil=>cases d
 | own b=>exact⟨b,rfl⟩
theorem RT{t T:TypeId}{x:Operand}{j sz off m l c:Nat}{a:Option Addr}{agg:Bool}{rows:List Segs}{r r':Segs}{v:Value}{F:Mem}{y C hs:Hp}(hi:ops[i]?=some ⟨some d,.load t x,ty,pos,af,gd⟩)(R:want ops e gd=some true)
 (hx:ev e x=some (Zme a j sz off)) (B:OSl T sz (.slice a l c) hs rows) (hH:Rem hs y C) (D:rows[j]?=some r) (L:lay P t=some (agg,m)) (g:Segs.sub r off m=some r') (O:Sp agg r'=some v)
 (K:Nat.ble (d+1) n.sz=true) (hk:XD P n ops Q rest (St F y) A ((d,v)::e)):XD P n ops Q (i::rest) (St F y) A e:=by
 obtain⟨b,rfl⟩:=B.addr (Nat.lt_of_le_of_lt (C3 j) (C4.1 D).1);obtain⟨_,_,rfl,_⟩:=B.inv;exact Zdv hi R hx B hH D L g O K hk
theorem Zly{id:Nat}{l:List Nat}(J:World→Prop)(d:∀ u,St M H u→J u)(g:List.range ops.size=l)(h:XD P n ops Q l J ⟨M,H⟩ e):C P n (.region id ops false) Q (St M H) e :=
 fun a w ha hw=>wpIn_region (Te _ J ⟨M,H⟩ a w d hw (g ▸ h d a ha))
theorem Xv{Hin d:Hp}{id:Nat}{l:List Nat}(j:Rem Hin H d)(g:List.range ops.size=l)(h:XD P n ops Q l (St M d) ⟨M,H⟩ e):C P n (.region id ops false) Q (St M H) e :=
 Zly (St M d) (fun _ hw=>(hw.perm j.perm).suf (Suf.app Hin d)) g h
theorem Um{Hin d:Hp}{id:Nat}{l:List Nat}(B:Array Nat)(v:Rem Hin H d)(j:List.range ops.size=l)(hm:P.follows .mixedOrders=true)(g:Ri ops (Tu P n.wrs ops) B=true)
 (h:XD P n ops Q l (St M d) ⟨M,H⟩ e):C P n (.region id ops true) Q (St M H) e :=
 Ya B (St M d) j hm g St.drawn (fun _ hw=>(hw.perm v.perm).suf (Suf.app Hin d)) h
theorem Zxy{f:FuncId}{xs:List Operand}{j:Array TypeId}{vs:List Value}{Hin y:Hp}{R:Mem→Value→Hp→Prop}{g:Mem}{B:Hp}(hi:ops[i]?=some ⟨dst,.call ⟨.value (.func f),xs.toArray,j⟩,ty,pos,af,gd⟩)(L:want ops e gd=some true)
 (K:Ta P f=true) (hx:evs e xs=some vs) (C:Fh P f vs M Hin R) (hH:Rem Hin H y) (F:∀ M' d w,M.le M'→St M' (d++y) w→St g B w)
 (D:∀ a v,Sat n e a→Sat n (NN dst v e) (a.put dst v))
 (hk:∀ v M' d,M.le M'→R M' v d→XD P n ops Q rest (St g B) ⟨M',d++y⟩ (NN dst v e)):XD P n ops Q (i::rest) (St g B) ⟨M,H⟩ e :=
 Yba hi L K hx C hH.perm F D hk
theorem MK:∀(pre:List Segs) (z r:Segs) (rest:List Segs),Segs.len z=Segs.len r→Sk (pre++z::rest) pre.length r=some (pre++r::rest)
 | [],z,r,rest,h=>by simp[Sk,h]
 | p::pre,z,r,rest,h=>by
  simp only[B4,C8,Sk];rw[MK pre z r rest h]
theorem NW{sz:Nat}:∀(ps:List (Nat×Segs)) (pre rest:List Segs),rest.length=ps.length→lens sz rest→ps.map Prod.fst=List.range' pre.length ps.length→(∀ p∈ps,Segs.len p.2=sz)→UX (pre++rest) ps=some (pre++ps.map Prod.snd)
 | [],pre,rest,hl,_,_,_=>by
  have:rest=[]:=D4 (by simpa using hl);subst this;simp[UX]
 | (i,r)::ps,pre,[],hl,_,_,_=>by simp at hl
 | (i,r)::ps,pre,z::rest,hl,hs,hi,hp=>by
  simp only[D3,C8,List.range'_succ,J9]at hi;obtain⟨rfl,hi⟩:=hi;have h1:Segs.len z=Segs.len r:=by rw[hs z (.head _),hp _ (.head _)]
  unfold UX;rw[MK pre z r rest h1];have:=NW ps (pre++[r]) rest (by simpa using hl) (fun x hx=>hs x (.tail _ hx)) zP (fun p h=>hp p (.tail _ h));simpa using this
theorem YK{t E sz v k:Nat}{z:Value}{xs:List (Nat×Operand)}{ps:List (Nat×Segs)}{g:List Segs}(hi:ops[i]?=some ⟨some d,.buildSlice t k xs.toArray,ty,pos,af,gd⟩)(O:want ops e gd=some true)
 (ht:Na P t=some (E,sz,v)) (K:XP P E=some z) (y:Nat.ble (k * sz) 16777216=true) (C:Nat.ble k 16777216=true) (hx:EvParts e xs ps) (h1:ps.map Prod.fst=List.range' 0 k) (h2:ps.all (fun p=>Nat.beq (Segs.len p.2) sz)=true) (B:ps.map Prod.snd=g) (F:Nat.ble (d+1) n.sz=true)
 (hk:∀ b,OSl E sz (.slice (some ⟨b,0,none⟩) k k) [(b,.cells (ZV g).toArray E (0,0))] g→XD P n ops Q rest J ⟨M,(b,.cells (ZV g).toArray E (0,0))::H⟩ ((d,.slice (some ⟨b,0,none⟩) k k)::e)):XD P n ops Q (i::rest) J ⟨M,H⟩ e:=by
 have hlen:ps.length=k:=by have:=A9 List.length h1;simpa using this
 refine DY hi O ht K y C hx (fun f=>?_) F hk;have:=NW (sz:=sz) ps [] (Se f sz k) (by simp[Se,hlen]) (fun r D=>by
  obtain⟨j,_,rfl⟩:=C0.1 D;exact OE f j sz) (by simpa[hlen]using h1) (fun p L=>F8 (E7.1 h2 p L))
 rw[← B];simpa using this
theorem SV{b o sz h m:Nat}:WK (some ⟨b,o,none⟩) sz 0 h m=.slice (some ⟨b,o,none⟩) h m:=by
 unfold WK;simp[Addr.add_lit]
theorem UZ{b o sz l h m:Nat}(hne:l<m):WK (some ⟨b,o,none⟩) sz l h m=.slice (some ⟨b,o+l * sz,none⟩) (h-l) (m-l):=by
 unfold WK;rw[A4 jD];simp[Addr.add_lit]
theorem OSl.srcPiece{T sz b k c:Nat}{hs H0:Hp}{rows:List Segs}(h:OSl T sz (.slice (some ⟨b,0,none⟩) rows.length c) hs rows)(hH:Rem hs H H0)(h1:∀ u∈ZV rows,u.oneCell'=true)(hk:k≤rows.length):Src M H sz (WK (some ⟨b,0,none⟩) sz k rows.length c) (rows.drop k):=by
 obtain⟨_,_,_,_,h2,_⟩:=h.inv;rcases C7 k c with d|d
 ·rw[UZ d];have:=OSl.src (M:=M) (c':=c-k) (k:=k) h hH h1;simpa using this
 have e:rows.drop k=[]:=List.drop_of_length_le jD;rw[e];unfold WK;rw[show rows.length-k=0 by omega];split
 ·exact Src.nil
 exact Src.nil
theorem Mem.get_of{b:Nat}{o:Obj}(h:M b=some o)(hm:M.le M'):M' b=some o:=hm.1 b o h
theorem Zdw{t T:TypeId}{x:Operand}{b off m:Nat}{agg:Bool}{r r':Segs}{v:Value}{g:Mem}{j:Hp}(hi:ops[i]?=some ⟨some d,.load t x,ty,pos,af,gd⟩)(D:want ops e gd=some true)
 (hx:ev e x=some (.pointer (some ⟨b,off,none⟩))) (hb:g b=some (Yp r T)) (B:lay P t=some (agg,m)) (hs:Segs.sub r off m=some r') (C:Sp agg r'=some v)
 (y:Nat.ble (d+1) n.sz=true) (hk:XD P n ops Q rest (St g j) A ((d,v)::e)):XD P n ops Q (i::rest) (St g j) A e :=
 UB hi rfl D (fun a' w ha hw=>Xp (by
  simp only[execOp,ha.ev hx];obtain⟨h1,h2⟩:=Segs.sub_cells hs;obtain⟨_,_,_,_,h3⟩:=Segs.sub_spec hs;exact Wz (ST (hw.mem _ _ hb) B h1 h3 C))) (fun a ha=>ha.put y _) hk
theorem Zut{f:FuncId}{xs:List Operand}{y:Array TypeId}{vs:List Value}{Hin g:Hp}{R:Mem→Value→Hp→Prop}(hi:ops[i]?=some ⟨dst,.call ⟨.value (.func f),xs.toArray,y⟩,ty,pos,af,gd⟩)(j:n.wrs.contains i=true)(K:want ops e gd=some true)
 (F:Ta P f=true) (hx:evs e xs=some vs) (C:Fh P f vs M Hin R) (hH:Rem Hin H g)
 (D:∀ a v,Sat n e a→Sat n (NN dst v e) (a.put dst v))
 (hk:∀ v M' d,M.le M'→R M' v d→XD P n ops Q rest (St M' (d++g)) ⟨M',d++g⟩ (NN dst v e)):XD P n ops Q (i::rest) J ⟨M,H⟩ e:=by
 obtain⟨fn,h1,h2,h3⟩:=Ub F;refine DU hi rfl j K (fun a w ha hw=>Rv h1 h2 h3 zB ?_);exact(C g w (hw.perm hH.perm)).mono fun e' L ⟨v,M',d,he,hm,hs,B⟩=>⟨v,he,⟨M',d++g⟩,_,hs,D a v ha,hk v M' d hm B⟩
end
end Go.Esp
namespace Go.Esp
theorem Rem.two{A B H:Hp}:Rem (A++B) (A++(B++H)) H:=by
 rw[← B5];exact Rem.here H
structure RdS (M:Mem) (H:Hp) (a:Option Addr) (rows:List Segs) (sz:Nat):Prop where
  lens:Esp.lens sz rows
  there:rows≠[]→∃ b off,a=some ⟨b,off,none⟩∧∀ w,St M H w→∃ c T fz,w.heap[b]?=some (.cells c T fz)∧(c.toList.drop off).take (rows.length * sz)=ZV rows
theorem SlM.rd{M:Mem}{a:Option Addr}{rows:List Segs}{sz:Nat}(h:SlM M a rows sz)(H:Hp):RdS M H a rows sz :=
 ⟨h.lens,fun d=>let ⟨b,off,c,T,fz,h1,h2,h3⟩:=h.there d;⟨b,off,h1,fun w hw=>⟨c,T,fz,hw.mem b _ h2,h3⟩⟩⟩
theorem RdS.app{M:Mem}{H:Hp}{a:Option Addr}{rows:List Segs}{sz:Nat}(h:RdS M H a rows sz)(H':Hp):RdS M (H++H') a rows sz :=
 ⟨h.lens,fun d=>let ⟨b,off,h1,h2⟩:=h.there d;⟨b,off,h1,fun w hw=>h2 w (hw.cnt (fun x=>by rw[WG];omega))⟩⟩
theorem RdS.cnt{M:Mem}{H H':Hp}{a:Option Addr}{rows:List Segs}{sz:Nat}(h:RdS M H a rows sz)(g:∀ x,Esp.cnt x H≤Esp.cnt x H'):RdS M H' a rows sz :=
 ⟨h.lens,fun d=>let ⟨b,off,h1,h2⟩:=h.there d;⟨b,off,h1,fun w hw=>h2 w (hw.cnt g)⟩⟩
theorem OSl.rd{T sz l c:Nat}{a:Option Addr}{hs:Hp}{rows:List Segs}(h:OSl T sz (.slice a l c) hs rows)(M:Mem):RdS M hs a rows sz:=by
 refine⟨h.lens,fun d=>?_⟩;obtain⟨b,rfl⟩:=h.addr (List.length_pos_iff.2 d);obtain⟨cur,rfl,_,h1,h2,h3,j,g⟩:=h.inv;exact⟨b,0,rfl,fun w hw=>⟨cur,T,(0,0),hw.own b _ (.head _),by simpa using g⟩⟩
theorem RdS.plain{M:Mem}{H:Hp}{a:Option Addr}{rows:List Segs}{sz:Nat}(h:RdS M H a rows sz)(d:0<rows.length):Zln a:=by
 obtain⟨b,off,h1,_⟩:=h.there (List.length_pos_iff.1 d);exact⟨b,off,h1⟩
section
variable {P:Program} {n:Sh} {ops:Array Oper} {Q:Exit→Act→World→Prop} {rest:List Nat} {M M':Mem} {H H' H0:Hp} {e:Env} {J S:World→Prop} {A:As} {i:Nat}
  {dst:Option Tmp} {d:Tmp} {op:Op} {ty:TypeId} {pos:String} {af:Array Edge} {gd:Option (Nat×Bool)}
theorem Zkw{t:TypeId}{x:Operand}{j sz off m:Nat}{a:Option Addr}{agg:Bool}{rows:List Segs}{r r':Segs}{v:Value}{B:Mem}{C:Hp}(hi:ops[i]?=some ⟨some d,.load t x,ty,pos,af,gd⟩)(Z:want ops e gd=some true)
 (hx:ev e x=some (Zme a j sz off)) (y:RdS B C a rows sz) (D:rows[j]?=some r) (U:lay P t=some (agg,m)) (hs:Segs.sub r off m=some r') (K:Sp agg r'=some v)
 (R:Nat.ble (d+1) n.sz=true) (hk:XD P n ops Q rest (St B C) A ((d,v)::e)):XD P n ops Q (i::rest) (St B C) A e :=
 UB hi rfl Z (fun a' w ha hw=>Xp (by
  simp only[execOp,ha.ev hx];have g:=(C4.1 D).1;obtain⟨b,o,rfl,h2⟩:=y.there (fun e=>by rw[e]at g;cases g);obtain⟨c,T,fz,h3,F⟩:=h2 w hw;rw[Ru];obtain⟨L,h6⟩:=Segs.sub_cells hs;obtain⟨_,_,_,_,O⟩:=Segs.sub_spec hs;refine Wz (ST h3 U ?_ O K);have V:=y.lens r (H8 D);rw[← L,← Rp y.lens D,← F];simp only[J7,I3,E5];rw[show o+(j * sz+off)=o+(j * sz+off)by rfl,show o+j * sz+off=o+(j * sz+off)by omega];congr 1;have:(j+1) * sz≤rows.length * sz:=D2 _ g;rw[F4]at this;omega)) (fun a ha=>ha.put R _) hk
theorem Fo.frame{f:FuncId}{vs:List Value}{Hin:Hp}{R:Mem→Value→Prop}(h:Fo P f vs M Hin R)(E:Hp):Fo P f vs M (Hin++E) R:=fun H w hw=>by
 have:=h (E++H) w (by rw[← B5];exact hw);rw[B5];exact this
theorem Fo.perm{f:FuncId}{vs:List Value}{Hin Hin2:Hp}{R:Mem→Value→Prop}(h:Fo P f vs M Hin R)(d:Hin.Perm Hin2):Fo P f vs M Hin2 R:=fun H w hw =>
 (h H w (hw.perm0 (d.symm.append_right H))).mono fun e g ⟨v,M',he,hm,hs,h1⟩=>⟨v,M',he,hm,hs.perm0 (d.append_right H),h1⟩
end
end Go.Esp
namespace Go.Esp
abbrev Plc:=BitVec 160
def idB(x:Plc)(i:Nat):Nat:=x.toNat / 256 ^ (19-i) % 256
def idL(x:Plc)(i:Nat):List Value:=if i<20 then .int .u8 (idB x i)::idL x (i+1)else[]
 termination_by 20-i
theorem Zij(x:Plc):∀(m i:Nat),i+m=20→idL x i=(List.range' i m).map fun i=>Value.int .u8 (idB x i)
 | 0,i,h=>by rw[idL,A4 jD];rfl
 | m+1,i,h=>by rw[idL,A6 jD,Zij x m (i+1) jD,List.range'_succ];rfl
theorem Zto(x:Plc):(idL x 0).toArray.size=20:=by rw[Zij x 20 0 rfl];simp
def idV(x:Plc):Vector Value 20:=⟨(idL x 0).toArray,Zto x⟩
def ZU(x:Plc):Seg:=.arr 20 (idV x)
theorem Kl(x:Plc):(idV x).toList=(List.range 20).map fun i=>Value.int .u8 (idB x i):=by
 show idL x 0=_;rw[Zij x 20 0 rfl,List.range_eq_range']
theorem Qg(x:Plc)(i:Nat):idB x i<256:=G5 _ (by decide)
theorem SH(x:Plc){i:Nat}(h:i<20):(idV x)[i]=.int .u8 (idB x i):=by
 have e:(idV x).toList[i]'zL=.int .u8 (idB x i):=by
  simp only[Kl];simp
 simpa using e
theorem Uz:ZU 0=.arr 20 (Vector.replicate 20 (.int .u8 0)):=by
 unfold ZU;congr 1;apply Vector.ext;intro i hi;rw[SH _ hi,Vector.getElem_replicate];simp[idB]
def ofB:Nat→(Nat→Nat)→Nat
 | 0,_=>0
 | n+1,f=>256 * ofB n f+f n
theorem Oe{f g:Nat→Nat}:∀{n:Nat},(∀ i,i<n→f i=g i)→ofB n f=ofB n g
 | 0,_=>rfl
 | n+1,h=>by simp only[ofB,Oe (fun i hi=>h i (Nat.lt_succ_of_lt hi)),h n (Nat.lt_succ_self n)]
theorem Zgq(x:Nat):∀ n k,ofB n (fun i=>x / 256 ^ (n-1-i+k) % 256)=x / 256 ^ k % 256 ^ n
 | 0,k=>by simp[ofB,Nat.mod_one]
 | n+1,k=>by
  have e:ofB n (fun i=>x / 256 ^ (n+1-1-i+k) % 256)=ofB n (fun i=>x / 256 ^ (n-1-i+(k+1)) % 256) :=
   Oe fun i hi=>by rw[show n+1-1-i+k=n-1-i+(k+1)by omega]
  simp only[ofB];rw[e,Zgq x n (k+1),show n+1-1-n+k=k by omega,Nat.pow_succ 256 n,Nat.mul_comm (256 ^ n) 256,Nat.mod_mul,Nat.pow_succ 256 k,Nat.div_div_eq_div_mul];omega
theorem Pc(x:Plc):ofB 20 (idB x)=x.toNat:=by
 have:=Zgq x.toNat 20 0;have h:x.toNat<256 ^ 20:=x.isLt;rw[Nat.pow_zero,Nat.div_one,E3 h]at this;rw[← this];rfl
theorem Ztn{x y:Plc}:idV x=idV y↔x=y:=by
 constructor
 ·intro h;apply J5;rw[← Pc x,← Pc y];refine Oe fun i hi=>?_;have e:(idV x)[i]=(idV y)[i]:=by rw[h]
  rw[SH x hi,SH y hi]at e;grind
 grind
theorem Zcs{x y:Plc}:(idV x).toList=(idV y).toList↔x=y:=by
 rw[← Ztn,Vector.toList_inj]
theorem Zwv{x y:Plc}{r s:List Value}:(idV x).toList++r=(idV y).toList++s↔x=y∧r=s:=by
 constructor
 ·intro h;have:=List.append_inj h jQ;exact⟨Zcs.1 this.1,this.2⟩
 grind
theorem Zwx{d:List Kd}{vs:List Value}(x:Plc)(h:Fits d vs):
 Fits (.i .u8::.i .u8::.i .u8::.i .u8::.i .u8::.i .u8::.i .u8::.i .u8::.i .u8::.i .u8::.i .u8::.i .u8::.i .u8::.i .u8::.i .u8::.i .u8::.i .u8::.i .u8::.i .u8::.i .u8::d) ((idV x).toList++vs):=by
 rw[Kl];exact⟨rfl,rfl,rfl,rfl,rfl,rfl,rfl,rfl,rfl,rfl,rfl,rfl,rfl,rfl,rfl,rfl,rfl,rfl,rfl,rfl,h⟩
theorem Zcr{x:Plc}{u:Value}(h:u∈(idV x).toList):u.oneCell'=true:=by
 rw[Kl]at h;obtain⟨i,_,rfl⟩:=C0.1 h;rfl
structure Sl (α:Type) where
  a:Option Addr
  cap:Nat
  l:List α
def Sl.val{α:Type}:Sl α→Value
 | ⟨a,c,l⟩=>.slice a l.length c
theorem Sl.one{α:Type}(s:Sl α):s.val.oneCell'=true:=rfl
structure SlK {α:Type} (M:Mem) (f:α→Segs) (sz:Nat) (s:Sl α):Prop where
  mk' ::
  h1:SlM M s.a (s.l.map f) sz
  h2:s.l.length≤maxLen
  h3:s.l.length≤s.cap
theorem SlK.mono{α:Type}{M M':Mem}{f:α→Segs}{sz:Nat}{s:Sl α}(h:SlK M f sz s)(hm:M.le M'):SlK M' f sz s:=⟨h.h1.mono hm,h.h2,h.h3⟩
theorem SlK.nil{α:Type}{M:Mem}{f:α→Segs}{sz:Nat}:SlK M f sz (⟨none,0,[]⟩:Sl α):=⟨SlM.nil _ _ _,C3 _,B9 _⟩
def WC(k:IntKind)(z:Int):Segs:=[.one (.int k z)]
theorem YS:flat []:=fun u hu=>by cases hu
theorem Yi{v:Value}{r:Segs}(h:v.oneCell'=true)(d:flat r):flat (.one v::r):=fun u hu=>by
 rcases B7.1 (show u∈v::Segs.cells r from hu)with rfl|hu
 ·exact h
 exact d u hu
theorem Xg{x:Plc}{r:Segs}(d:flat r):flat (ZU x::r):=fun u hu=>by
 rcases B8.1 (show u∈(idV x).toList++Segs.cells r from hu)with hu|hu
 ·exact Zcr hu
 exact d u hu
theorem Zka{u v:Value}{r s:Segs}:Segs.cells (.one u::r)=Segs.cells (.one v::s)↔u=v∧Segs.cells r=Segs.cells s:=by
 show u::Segs.cells r=v::Segs.cells s↔_;simp
theorem Zad{x y:Plc}{r s:Segs}:Segs.cells (ZU x::r)=Segs.cells (ZU y::s)↔x=y∧Segs.cells r=Segs.cells s:=by
 exact Zwv
theorem Pj{x y:Plc}:Segs.cells [ZU x]=Segs.cells [ZU y]↔x=y:=by rw[Zad];simp
theorem Sf:Fits [] (Segs.cells []):=trivial
theorem Ztt{k:Kd}{v:Value}{d:List Kd}{r:Segs}(h:Fit k v)(g:Fits d (Segs.cells r)):Fits (k::d) (Segs.cells (.one v::r)):=⟨h,g⟩
theorem Ra{x:Plc}{d:List Kd}{r:Segs}(g:Fits d (Segs.cells r)):
 Fits (.i .u8::.i .u8::.i .u8::.i .u8::.i .u8::.i .u8::.i .u8::.i .u8::.i .u8::.i .u8::.i .u8::.i .u8::.i .u8::.i .u8::.i .u8::.i .u8::.i .u8::.i .u8::.i .u8::.i .u8::d) (Segs.cells (ZU x::r)):=Zwx x g
theorem eqD{c:Bool}{p q:Prop}[Decidable q](h:c=true↔p)(h2:p↔q):c=decide q:=by
 grind
theorem neD{c:Bool}{p q:Prop}[Decidable q](h:c=true↔¬p)(h2:p↔q):c = !decide q:=by
 grind
theorem KL{α:Type}{f:α→Segs}{p:α→Prop}:∀{rows:List Segs},(∀ r∈rows,∃ x,r=f x∧p x)→∃ l:List α,rows=l.map f∧∀ x∈l,p x
 | [],_=>⟨[],rfl,fun _ h=>(by cases h)⟩
 | r::rows,h=>by
  obtain⟨x,hx,v⟩:=h r (.head _);obtain⟨l,j,B⟩:=KL (fun r g=>h r (.tail _ g));refine⟨x::l,by simp[hx,j],fun y d=>?_⟩;rcases B7.1 d with rfl|d
  ·exact v
  exact B y d
end Go.Esp
namespace Go.Esp
def Zpq(P:Program)(t:TypeId):Option (Nat×TypeId):=match P.underlying t with
 | some (.array k el)=>match P.info? el with
  | some i=>if i.size=1 then some (k,el)else none
  | none=>none
 | _=>none
theorem MA{P:Program}{t el k:Nat}(h:Zpq P t=some (k,el)):∃ i,P.underlying t=some (.array k el)∧P.info? el=some i∧i.size=1:=by
 unfold Zpq at h;grind
section
variable {P:Program} {n:Sh} {ops:Array Oper} {Q:Exit→Act→World→Prop} {rest:List Nat} {M M':Mem} {H H' H0:Hp} {e:Env} {J S:World→Prop} {A:As} {i:Nat}
  {dst:Option Tmp} {d:Tmp} {op:Op} {ty:TypeId} {pos:String} {af:Array Edge} {gd:Option (Nat×Bool)}
theorem Zzs{t B:TypeId}{x y:Operand}{k:IntKind}{a b r:Int}(hi:ops[i]?=some ⟨some d,.binOp .quo t x y B,ty,pos,af,gd⟩)(C:want ops e gd=some true)
 (hx:ev e x=some (.int k a)) (v:ev e y=some (.int k b)) (hb:b≠0) (g:k.wrap (a.tdiv b)=r) (j:Nat.ble (d+1) n.sz=true)
 (hk:XD P n ops Q rest J A ((d,.int k r)::e)):XD P n ops Q (i::rest) J A e:=by
 refine VA hi rfl C (fun a' w ha=>Xp ?_) (fun a ha=>ha.put j _) hk;simp only[execOp,ha.ev hx,ha.ev v];subst g;simp[eqGuard,binOp,Op.intDiv,hb]
theorem Zxt{t B:TypeId}{x y:Operand}{k:IntKind}{a b r:Int}(hi:ops[i]?=some ⟨some d,.binOp .rem t x y B,ty,pos,af,gd⟩)(C:want ops e gd=some true)
 (hx:ev e x=some (.int k a)) (v:ev e y=some (.int k b)) (hb:b≠0) (g:a.tmod b=r) (j:Nat.ble (d+1) n.sz=true)
 (hk:XD P n ops Q rest J A ((d,.int k r)::e)):XD P n ops Q (i::rest) J A e:=by
 refine VA hi rfl C (fun a' w ha=>Xp ?_) (fun a ha=>ha.put j _) hk;simp only[execOp,ha.ev hx,ha.ev v];subst g;simp[eqGuard,binOp,Op.intDiv,hb]
def Ig:BinOp→(k:IntKind)→Int→Int→Option Int
 | .and,k,a,b=>some (k.wrap (BitVec.ofInt k.bits a &&& BitVec.ofInt k.bits b).toNat)
 | .or,k,a,b=>some (k.wrap (BitVec.ofInt k.bits a ||| BitVec.ofInt k.bits b).toNat)
 | .xor,k,a,b=>some (k.wrap (BitVec.ofInt k.bits a ^^^ BitVec.ofInt k.bits b).toNat)
 | .andNot,k,a,b=>some (k.wrap (BitVec.ofInt k.bits a &&& ~~~BitVec.ofInt k.bits b).toNat)
 | _,_,_,_=>none
theorem TB{o:BinOp}{t v:TypeId}{x y:Operand}{k:IntKind}{a b z r:Int}(hi:ops[i]?=some ⟨some d,.binOp o t x y v,ty,pos,af,gd⟩)(F:want ops e gd=some true)
 (hx:ev e x=some (.int k a)) (D:ev e y=some (.int k b)) (g:Ig o k a b=some z) (B:z=r) (C:Nat.ble (d+1) n.sz=true)
 (hk:XD P n ops Q rest J A ((d,.int k r)::e)):XD P n ops Q (i::rest) J A e:=by
 have j:NE P (.binOp o t x y v)=.pure:=by cases o <;> first|rfl|(cases g;done)
 refine VA hi j F (fun a' w ha=>Xp ?_) (fun a ha=>ha.put C _) hk;simp only[execOp,ha.ev hx,ha.ev D];subst B;cases o <;> simp only[Ig,G1]at g <;> first
  | (cases g;done)
  | (subst g;rw[Sem.run_bind];simp[eqGuard,binOp,Op.intBits];done)
def LA:BinOp→(k:IntKind)→Int→Int→Option Int
 | .shl,k,a,b=>some (k.wrap (a * 2 ^ (min b.toNat k.bits)))
 | .shr,k,a,b=>some (a.fdiv (2 ^ (min b.toNat k.bits)))
 | _,_,_,_=>none
theorem VK{o:BinOp}{t B:TypeId}{x y:Operand}{k K:IntKind}{a b z r:Int}(hi:ops[i]?=some ⟨some d,.binOp o t x y B,ty,pos,af,gd⟩)(L:want ops e gd=some true)
 (hx:ev e x=some (.int k a)) (F:ev e y=some (.int K b)) (hb:0≤b) (g:LA o k a b=some z) (C:z=r) (D:Nat.ble (d+1) n.sz=true)
 (hk:XD P n ops Q rest J A ((d,.int k r)::e)):XD P n ops Q (i::rest) J A e:=by
 have v:NE P (.binOp o t x y B)=.pure:=by cases o <;> first|rfl|(cases g;done)
 refine VA hi v L (fun a' w ha=>Xp ?_) (fun a ha=>ha.put D _) hk;simp only[execOp,ha.ev hx,ha.ev F];subst C;have j:¬b<0:=by omega
 cases o <;> simp only[LA,G1]at g <;> first
  | (cases g;done)
  | (subst g;rw[Sem.run_bind];simp[eqGuard,binOp,Op.shift,j];done)
theorem Uw{k:IntKind}{z:Int}(m:Nat)(hm:m≤k.bits):LA .shr k z (m:Int)=some (z / 2 ^ m):=by
 simp only[LA];grind
theorem Zrr{s t:TypeId}{x:Operand}{k q:IntKind}{y:IntKind}{a r:Int}(hi:ops[i]?=some ⟨some d,.convert s t x,ty,pos,af,gd⟩)(B:want ops e gd=some true)
 (hx:ev e x=some (.int y a)) (hs:P.underlying s=some (.int q)) (ht:P.underlying t=some (.int k)) (j:k.wrap a=r) (v:Nat.ble (d+1) n.sz=true)
 (hk:XD P n ops Q rest J A ((d,.int k r)::e)):XD P n ops Q (i::rest) J A e:=by
 have g:NE P (.convert s t x)=.pure:=by simp[NE,hs,ht]
 refine VA hi g B (fun a' w ha=>Xp ?_) (fun a ha=>ha.put v _) hk;simp only[execOp,ha.ev hx];refine Wz ?_;unfold convert;rw[ZY (YP hs),ZY (YP ht)];subst j;rfl
theorem Zuu{t:TypeId}{x:Operand}{k:IntKind}{a z r:Int}(hi:ops[i]?=some ⟨some d,.unOp .xor t x,ty,pos,af,gd⟩)(y:want ops e gd=some true)
 (hx:ev e x=some (.int k a)) (g:Ig .xor k (if k.signed then -1 else k.max) a=some z) (j:z=r) (v:Nat.ble (d+1) n.sz=true)
 (hk:XD P n ops Q rest J A ((d,.int k r)::e)):XD P n ops Q (i::rest) J A e:=by
 refine VA hi rfl y (fun a' w ha=>Xp ?_) (fun a ha=>ha.put v _) hk;simp only[execOp,ha.ev hx];subst j;simp only[Ig,G1]at g;subst g;rfl
def w64(z:Int):Int:=z % 18446744073709551616
def w32(z:Int):Int:=z % 4294967296
def w8(z:Int):Int:=z % 256
theorem HE(z:Int):IntKind.wrap .u64 z=w64 z:=by unfold w64 IntKind.wrap;simp[IntKind.bits,IntKind.signed]
theorem NO(z:Int):IntKind.wrap .u32 z=w32 z:=by unfold w32 IntKind.wrap;simp[IntKind.bits,IntKind.signed]
theorem Ck(z:Int):IntKind.wrap .u8 z=w8 z:=by unfold w8 IntKind.wrap;simp[IntKind.bits,IntKind.signed]
theorem RX{k:IntKind}{z:Int}(hk:k=.u64)(h:0≤z∧z≤18446744073709551615):k.wrap z=z:=by subst hk;rw[HE];unfold w64;omega
theorem Kr{k:IntKind}{z:Int}(hk:k=.u32)(h:0≤z∧z≤4294967295):k.wrap z=z:=by subst hk;rw[NO];unfold w32;omega
theorem Ij{k:IntKind}{z:Int}(hk:k=.u8)(h:0≤z∧z≤255):k.wrap z=z:=by subst hk;rw[Ck];unfold w8;omega
theorem Zqu{a b:Int}(h:0≤a):a.tmod b=a % b:=Int.tmod_eq_emod_of_nonneg h
theorem Zwh{k:IntKind}{a b:Int}(hk:k=.i64)(h:0≤a)(hb:0<b)(hm:a≤9223372036854775807):k.wrap (a.tdiv b)=a / b:=by
 rw[Int.tdiv_eq_ediv_of_nonneg h];have h1:0≤a / b:=Int.ediv_nonneg h jD;have h2:a / b≤a:=Int.ediv_le_self _ h;exact Po hk jD
theorem JQ{t el b off len k:Nat}{x v:Operand}{q:IntKind}{z:Int}(hi:ops[i]?=some ⟨some d,.indexAddr t x v,ty,pos,af,gd⟩)(D:want ops e gd=some true)
 (hx:ev e x=some (.pointer (some ⟨b,off,none⟩))) (j:ev e v=some (.int q z)) (ht:Zpq P t=some (len,el)) (F:z=(k:Int)) (hk:k<len) (C:Nat.ble (d+1) n.sz=true)
 (B:XD P n ops Q rest J A ((d,.pointer (some ⟨b,off+k,none⟩))::e)):XD P n ops Q (i::rest) J A e :=
 VA hi rfl D (fun a' w y=>Xp (by
  simp only[execOp,y.ev hx,y.ev j];refine Wz ?_;obtain⟨it,hu,g,h1⟩:=MA ht;subst F;simp[Instr.indexAt,asIntOf,run_underlying hu,sizeOf,typeInfo,g,hk,h1,Instr.sureAddr,Addr.add_lit])) (fun a ha=>ha.put C _) B
theorem Gx{l:List Value}{j:Nat}{v:Value}(h:l[j]?=some v):(l.drop j).take 1=[v]:=by
 obtain⟨hj,rfl⟩:=C4.1 h;rw[G4 hj];rfl
theorem Qp{t:TypeId}{x:Operand}{b j:Nat}{r:Segs}{T:TypeId}{v:Value}{y:Mem}{g:Hp}(hi:ops[i]?=some ⟨some d,.load t x,ty,pos,af,gd⟩)(F:want ops e gd=some true)
 (hx:ev e x=some (.pointer (some ⟨b,j,none⟩))) (hb:(b,Yp r T)∈g) (C:lay P t=some (false,1)) (D:(Segs.cells r)[j]?=some v)
 (B:Nat.ble (d+1) n.sz=true) (hk:XD P n ops Q rest (St y g) A ((d,v)::e)):XD P n ops Q (i::rest) (St y g) A e :=
 UB hi rfl F (fun a' w ha hw=>Xp (by
  simp only[execOp,ha.ev hx];exact Wz (ST (r:=[.one v]) (hw.own _ _ hb) C (by rw[List.toList_toArray];exact Gx D) rfl rfl))) (fun a ha=>ha.put B _) hk
theorem HK{b j:Nat}{T t:TypeId}{r u:Segs}{v:Value}{w:World}(hb:w.heap[b]?=some (Yp r T))(C:lay P t=some (false,1))(y:v.cells=#[v])(h1:v.oneCell'=true)
 (hj:j<(Segs.cells r).length) (hu:Segs.cells u=(Segs.cells r).set j v) :
 ∃ g,(Instr.storeAt t (.pointer (some ⟨b,j,none⟩)) v).run P w=.ok () g∧g.heap[b]?=some (Yp u T)∧(∀ c,c≠b→g.heap[c]?=w.heap[c]?)∧SameIO w g:=by
 obtain⟨d,i,K,hi,B,D⟩:=OH C;have F:=run_storeCells_at P b j T [v] 0 (Segs.cells r).toArray w hb jU (fun x hx=>by simp at hx;subst hx;exact h1);refine⟨w.setRow b (Segs.cells u).toArray,?_,setRow_heap w b _ _ T _ hb,fun c y=>setRow_other w b c _ y,SameIO.refl _⟩;unfold Instr.storeAt;rw[Sem.run_bind];show(Result.ok _ w).andThen _=_;rw[Result.andThen_ok];unfold storeVar;rw[Sem.run_bind,Th hi,Result.andThen_ok];have hs:v.cells.size=i.size:=by rw[y,B];rfl
 have O:(Segs.cells u).toArray=(Segs.cells r).toArray.setIfInBounds j v:=by rw[hu];simp
 have L:(Segs.cells r).toArray.setIfInBounds j v=(List.take j (Segs.cells r)++v::List.drop (j+1) (Segs.cells r)).toArray:=by
  apply Array.ext';simp only[Array.toList_setIfInBounds];rw[List.set_eq_take_append_cons_drop,A6 hj]
 grind
theorem QH{t:TypeId}{x y:Operand}{b j:Nat}{r u:Segs}{T:TypeId}{v:Value}(hi:ops[i]?=some ⟨none,.store t x y,ty,pos,af,gd⟩)(K:want ops e gd=some true)
 (hx:ev e x=some (.pointer (some ⟨b,j,none⟩))) (F:ev e y=some v) (d:v.cells=#[v]) (h1:v.oneCell'=true) (hu:Upd b (Yp r T) (Yp u T) H H') (D:lay P t=some (false,1)) (hj:j<(Segs.cells r).length) (hs:Segs.cells u=(Segs.cells r).set j v)
 (hk:XD P n ops Q rest (St M H') ⟨M,H'⟩ e) (g:n.wrs.contains i=false:=by rfl):XD P n ops Q (i::rest) J ⟨M,H⟩ e:=by
 refine SK hi rfl K (fun a w ha hw=>?_) g;obtain⟨B,h1,h2,h3,C⟩:=HK (P:=P) (hw.own _ _ hu.mem) D d h1 hj hs;unfold Oper.does;have:(execOp a.eval ⟨none,.store t x y,ty,pos,af,gd⟩).run P w=.ok .skip B:=by
  simp only[execOp,ha.ev hx,ha.ev F];rw[ZY h1];rfl
 rw[this];exact⟨⟨M,H'⟩,e,hw.upd hu h2 (fun c d z L=>by rw[h3 c d];exact L) C,ha,hk⟩
theorem Ry{m:Nat}(f:Vector Value m):Segs.cells [.arr m f]=f.toList:=by simp[Segs.cells,Seg.cells]
theorem Zkm{m j:Nat}{f:Vector Value m}(h:j<m):(Segs.cells [.arr m f])[0+j]?=some f[j]:=by
 rw[Ry,F2,A7 zL];simp
theorem GI{m j:Nat}{f:Vector Value m}{v:Value}(h:j<m):Segs.cells [.arr m (f.set j v h)]=(Segs.cells [.arr m f]).set (0+j) v:=by
 rw[Ry,Ry,F2,Vector.toList_set]
theorem GJ{m j:Nat}{f:Vector Value m}(h:j<m):0+j<(Segs.cells [.arr m f]).length:=by rw[Ry];simpa using h
theorem Zwu{j:Nat}{x:Plc}(h:j<20):(Segs.cells [ZU x])[0+j]?=some (.int .u8 (idB x j)):=by
 have:=Zkm (f:=idV x) h;rw[SH x h]at this;exact this
theorem Zwt{j:Nat}{x:Plc}(h:j<20):(Segs.cells [ZU x])[j]?=some (.int .u8 (idB x j)):=by have:=Zwu (x:=x) h;rwa [F2]at this
theorem BC{t el b off len:Nat}{x:Operand}(hi:ops[i]?=some ⟨some d,.slice t x none none none,ty,pos,af,gd⟩)(C:want ops e gd=some true)
 (hx:ev e x=some (.pointer (some ⟨b,off,none⟩))) (ht:Zpq P t=some (len,el)) (v:Nat.ble (d+1) n.sz=true)
 (j:XD P n ops Q rest J A ((d,.slice (some ⟨b,off,none⟩) len len)::e)):XD P n ops Q (i::rest) J A e :=
 VA hi rfl C (fun a' w B=>Xp (by
  simp only[execOp,B.ev hx];refine Wz ?_;obtain⟨it,hu,g,h1⟩:=MA ht;have y:(⟨b,off,none⟩:Addr).add 0=⟨b,off,none⟩:=by rw[Addr.add_lit];rfl
  simp[Instr.sliceAt,run_underlying hu,Instr.sureAddr,Instr.sliceBounds,sizeOf,typeInfo,g,h1,y])) (fun a ha=>ha.put v _) j
theorem Zpy{T el len:Nat}{r:Segs}(hi:ops[i]?=some ⟨some d,.build T #[],ty,pos,af,gd⟩)(B:want ops e gd=some true)
 (g:XP P T=some (WX r)) (y:Zpq P T=some (len,el)) (v:Nat.ble (d+1) n.sz=true) (hk:XD P n ops Q rest J A ((d,WX r)::e)):XD P n ops Q (i::rest) J A e :=
 VA hi rfl B (fun a' w ha=>Xp (by
  simp only[execOp];refine Wz ?_;obtain⟨it,hu,j,h1⟩:=MA y;unfold XP at g;refine run_build w T _ _ ?_;unfold Program.built;cases hi:P.info? T with
  | none=>rw[hi]at g;cases g
  | some it2 =>
   rw[hi]at g;simp only at g;simp[hu,hi,g,j,Instr.fill,WX,Value.cells])) (fun a ha=>ha.put v _) hk
theorem GP{T:TypeId}{parts:Array (Nat×Operand)}{vs:Array (Nat×Value)}{v:Value}(hi:ops[i]?=some ⟨some d,.build T parts,ty,pos,af,gd⟩)(j:want ops e gd=some true)
 (hx:∀ a,Sat n e a→(parts.map fun p=>(p.1,a.eval p.2))=vs) (h:∀ w,(Instr.build T vs).run P w=.ok v w) (g:Nat.ble (d+1) n.sz=true) (hk:XD P n ops Q rest J A ((d,v)::e)):XD P n ops Q (i::rest) J A e :=
 VA hi rfl j (fun a' w ha=>Xp (by
  simp only[execOp];have:=hx a' ha;rw[show(parts.map fun(x:Nat×Operand)=>(x.1,a'.eval x.2))=vs from this];exact Wz (h w))) (fun a ha=>ha.put g _) hk
theorem GL{t:TypeId}{x y:Operand}{b off m:Nat}{agg:Bool}{r q u:Segs}{T:TypeId}{v:Value}{d:Mem}{g:Hp}(hi:ops[i]?=some ⟨none,.store t x y,ty,pos,af,gd⟩)(j:n.wrs.contains i=true)(hg:want ops e gd=some true)
 (hx:ev e x=some (.pointer (some ⟨b,off,none⟩))) (V:ev e y=some v) (Z:Parts v q) (K:flat q) (hu:Upd b (Yp r T) (Yp u T) H H') (U:lay P t=some (agg,m)) (O:Segs.len q=m) (hs:Segs.put r off q=some u)
 (D:∀ w,St M H' w→St d g w) (hk:XD P n ops Q rest (St d g) ⟨M,H'⟩ e):XD P n ops Q (i::rest) (St d g) ⟨M,H⟩ e:=by
 refine Zxw hi rfl j hg (fun a F w ha hw=>?_);obtain⟨B,h1,h2,h3,C⟩:=LD (P:=P) (St.own hw _ _ (hu.over F).mem) U Z K O hs;unfold Oper.does;have:(execOp a.eval ⟨none,.store t x y,ty,pos,af,gd⟩).run P w=.ok .skip B:=by
  simp only[execOp,ha.ev hx,ha.ev V];rw[ZY h1];rfl
 rw[this];exact⟨⟨M,H'⟩,e,St.upd hw (hu.over F) h2 (fun c R z L=>by rw[h3 c R];exact L) C,D,ha,hk⟩
theorem QS{m:Nat}{ds:List Deferred}{ro:Option Nat}{Hin d:Hp}{id:Nat}{l:List Nat}(ws:List Nat)(B:Array Nat)(v:Rem Hin H d)(j:List.range ops.size=l)(hm:P.follows .mixedOrders=true)(g:Ri ops (Tu P ws ops) B=true)
 (h:XD P ⟨m,ds,ro,ws⟩ ops Q l (St M d) ⟨M,H⟩ e):C P ⟨m,ds,ro,[]⟩ (.region id ops true) Q (St M H) e :=
 UF ws B (St M d) j hm g St.drawn (fun _ hw=>(hw.perm v.perm).suf (Suf.app Hin d)) h
def Ext(P:Program)(f:FuncId)(g:Array Value→Sem Value):Prop :=
 ∀(args:Array Value) (w:World),(callFunc f args).run P w=(do pure (Next.value (← g args)):Sem Next).run P w
theorem Zpf{f:FuncId}{g:Array Value→Sem Value}{xs:Array Operand}{d:Array TypeId}{a:Act}{w j:World}{vs:List Value}{v:Value}{K:Value→World→Prop}(B:Ext P f g)
 (hx:xs.toList.map a.eval=vs) (y:(g vs.toArray).run P w=.ok v j) (D:K v j) :
 Oper.does P ⟨dst,.call ⟨.value (.func f),xs,d⟩,ty,pos,af,gd⟩ a w K:=by
 unfold Oper.does;have e:(execOp a.eval ⟨dst,.call ⟨.value (.func f),xs,d⟩,ty,pos,af,gd⟩).run P w=.ok (.value v) j:=by
  have C:#[]++xs.map a.eval++#[]=vs.toArray:=by
   apply Array.ext';simp[hx]
  rw[execOp_call_go,C,B,ZY y];rfl
 grind
theorem Zxz{f:FuncId}{g:Array Value→Sem Value}{xs:List Operand}{j:Array TypeId}{vs:List Value}{v:Value}(hi:ops[i]?=some ⟨some d,.call ⟨.value (.func f),xs.toArray,j⟩,ty,pos,af,gd⟩)(D:want ops e gd=some true)
 (C:Ext P f g) (hx:evs e xs=some vs) (y:∀ w,St M H w→(g vs.toArray).run P w=.ok v w) (B:Nat.ble (d+1) n.sz=true)
 (hk:XD P n ops Q rest J ⟨M,H⟩ ((d,v)::e)):XD P n ops Q (i::rest) J ⟨M,H⟩ e:=by
 refine Zdx hi rfl D (fun a F w ha hw=>?_);exact Zpf C (ha.evs hx) (y w (St.unframe hw)) ⟨⟨M,H⟩,_,hw,fun _ h=>h,ha.put B v,hk⟩
end
end Go.Esp
namespace Go.Esp
section
variable {P:Program} {n:Sh} {ops:Array Oper} {Q:Exit→Act→World→Prop} {M M':Mem} {H H' H0:Hp} {e:Env} {S:World→Prop}
def Zrt{α:Type}(n:Sh)(e0:Env)(S0:World→Prop)(I:α→Env→Prop)(μ:α→Nat)(x:α):Act→World→Prop :=
 Zvg n e0 (fun x S z=>S=S0∧I x z) μ x
theorem Un{α:Type}{c:Code}{a0 d:Env}(hs:Spl e a0 d)(I:α→Env→Prop)(μ:α→Nat)(g:α)(h0:I g a0)
 (round:∀ x z,I x z→C P n c (Exit.then (Zrt n d S I μ x) Q) S (z++d)):C P n (.loop c) Q S e :=
 Zrx hs (fun x j z=>j=S∧I x z) μ g ⟨rfl,h0⟩ (fun x j z ⟨h1,h2⟩=>by subst h1;exact round x z h2)
theorem VX{α:Type}{a' g:Env}{d:World→Prop}{I:α→Env→Prop}{μ:α→Nat}{x:α}(y:α)(v:Pick e (a'++g))(j:∀ w,S w→d w)(B:I y a')(C:μ y<μ x):
 K n (Exit.then (Zrt n g d I μ x) Q) .normal S e:=fun _ _ ha hw=>⟨y,d,a',⟨rfl,B⟩,C,ha.pick v,j _ hw⟩
def Zlm{α:Type}(n:Sh)(e0:Env)(M:Mem)(H0:Hp)(I:α→Mem→Hp→Env→Prop)(μ:α→Nat)(x:α):Act→World→Prop :=
 Zvg n e0 (fun x S z=>∃ M1 h1,M.le M1∧S=St M1 (h1++H0)∧I x M1 h1 z) μ x
theorem XV{α:Type}{c:Code}{a0 g:Env}{Hin:Hp}(hs:Spl e a0 g)(y:Rem Hin H H0)(I:α→Mem→Hp→Env→Prop)(μ:α→Nat)(j:α)(h0:I j M Hin a0)
 (round:∀ x d h1 z,M.le d→I x d h1 z→C P n c (Exit.then (Zlm n g M H0 I μ x) Q) (St d (h1++H0)) (z++g)):C P n (.loop c) Q (St M H) e :=
 Zlx (fun _ h=>h) (fun _ hw=>hw.perm y.perm)
  (Zrx hs (fun x v z=>∃ d h1,M.le d∧v=St d (h1++H0)∧I x d h1 z) μ j ⟨M,Hin,Mem.le.refl M,rfl,h0⟩ (fun x v z ⟨d,h1,hm,B,h2⟩=>by subst B;exact round x d h1 z hm h2))
theorem OZ{α:Type}{c:Code}{a0 j:Env}{Hin Hin2 H1:Hp}(hs:Spl e a0 j)(y:Rem Hin H H1)(g:Rem Hin2 H1 H0)(I:α→Mem→Hp→Env→Prop)(μ:α→Nat)(v:α)(h0:I v M (Hin++Hin2) a0)
 (round:∀ x d h1 z,M.le d→I x d h1 z→C P n c (Exit.then (Zlm n j M H0 I μ x) Q) (St d (h1++H0)) (z++j)):C P n (.loop c) Q (St M H) e :=
 Zlx (fun _ h=>h) (fun _ hw=>hw.perm0 ((y.perm.trans (g.perm.append_left Hin)).trans (B5 _ _ _ ▸ I9 _)))
  (XV (Hin:=Hin++Hin2) hs (Rem.here _) I μ v h0 round)
theorem YO{α:Type}{a' d:Env}{I:α→Mem→Hp→Env→Prop}{μ:α→Nat}{x:α}{M2:Mem}(y:α)(h2:Hp)(j:Pick e (a'++d))(hm:M.le M2)(g:∀ w,S w→St M2 (h2++H0) w)(v:I y M2 h2 a')(B:μ y<μ x):
 K n (Exit.then (Zlm n d M H0 I μ x) Q) .normal S e:=fun _ _ ha hw=>⟨y,_,a',⟨M2,h2,hm,rfl,v⟩,B,ha.pick j,g _ hw⟩
theorem Lj {f : FuncId} {g : Operand} {xs : Array Operand} {ats : Array TypeId} {dst : Option Tmp} {ty : TypeId} {pos : String} {af : Array Edge} {gd : Option (Nat × Bool)} {a : Act} {w : World} {vs caps : List Value} {fn : Func} {K : Value → World → Prop} (hf : P.funcs[f]? = some fn) (hb : fn.body.isSome = true) (hn : (fn.name == "runtime.NumGoroutine") = false)
 (hg:a.eval g=.func (.func f) #[] caps.toArray) (hv:xs.toList.map a.eval=vs) (h:Calls P f (vs++caps).toArray w fun e w'=>∃ v,e=.returned v∧K v w') :
 Oper.does P ⟨dst,.call ⟨.value g,xs,ats⟩,ty,pos,af,gd⟩ a w K:=by
 unfold Oper.does;have:(execOp a.eval ⟨dst,.call ⟨.value g,xs,ats⟩,ty,pos,af,gd⟩).run P w=.ok (.enter f (vs++caps).toArray) w:=by
  simp only[execOp,resolve,hg,Deferred.ofValue,pure_bind,invoke];have e:#[]++xs.map a.eval++caps.toArray=(vs++caps).toArray:=by
   simp[hv]
  rw[e];unfold callFunc;rw[Sem.run_bind];show(Result.ok P w).andThen _=_;rw[Result.andThen_ok];simp only[hf,hn];have:fn.body.isNone=false:=by cases h':fn.body <;> simp_all
  simp only[this];rfl
 grind
theorem GN{i:Nat}{rest:List Nat}{J:World→Prop}{dst:Option Tmp}{ty:TypeId}{pos:String}{af:Array Edge}{gd:Option (Nat×Bool)}{f:FuncId}{g:Operand}{xs:List Operand}{d:Array TypeId}{vs caps:List Value}{Hin:Hp}{R:Mem→Value→Prop}(hi:ops[i]?=some ⟨dst,.call ⟨.value g,xs.toArray,d⟩,ty,pos,af,gd⟩)(j:NE P (.call ⟨.value g,xs.toArray,d⟩)=.eff)(L:want ops e gd=some true)
 (K:Ta P f=true) (y:ev e g=some (.func (.func f) #[] caps.toArray)) (hx:evs e xs=some vs) (C:Fo P f (vs++caps) M Hin R) (hH:Rem Hin H H0) (D:∀ a v,Sat n e a→Sat n (NN dst v e) (a.put dst v))
 (hk:∀ v M',M.le M'→R M' v→XD P n ops Q rest J ⟨M',H⟩ (NN dst v e)):XD P n ops Q (i::rest) J ⟨M,H⟩ e:=by
 obtain⟨fn,h1,h2,h3⟩:=Ub K;refine Zdx hi j L (fun a F w ha hw=>Lj h1 h2 h3 (ha.ev y) zB ?_);exact(C (F++H0) w (hw.perm0 ((hH.perm.append_left F).trans (PV F Hin H0)))).mono fun e' O ⟨v,M',he,hm,hs,B⟩=>⟨v,he,⟨M',H⟩,_,hs.perm0 ((hH.perm.append_left F).trans (PV F Hin H0)).symm,fun _ h=>St.lower h hm,D a v ha,hk v M' hm B⟩
theorem AT{f:FuncId}{vs:List Value}{R:Value→Prop}(h:Fo P f vs M [] (fun M' v=>M'=M∧R v)):Fs P f vs M R:=fun H w hw =>
 (h H w hw).mono fun e d ⟨v,M',he,_,hs,h1,h2⟩=>⟨v,he,by rw[h1]at hs;exact hs,h2⟩
end
def Ztm(x:Int)(l:List Int):Int:=if x∈l then(l.idxOf x:Int)else -1
theorem Ztl{x:Int}{l:List Int}{k:Nat}(hk:k<l.length)(h1:x∉l.take k)(h2:x=l[k]):Ztm x l=k:=by
 have hm:x∈l:=by rw[h2];exact C1 hk
 unfold Ztm;have h3:l.idxOf x<l.length:=List.idxOf_lt_length_of_mem hm;have d:l.idxOf x≤k:=by
  rcases C7 k (l.idxOf x)with h|h
  ·exfalso;have:=List.not_of_lt_findIdx (p:=(· == x)) (xs:=l) (i:=k) h;simp[h2]at this
  exact h
 rcases C7 (l.idxOf x) k with h|h
 ·exfalso;apply h1;rw[List.mem_take_iff_getElem];grind
 grind
theorem Zif{x:Int}{l:List Int}(h:x∉l):Ztm x l=-1:=by unfold Ztm;rw[A4 h]
theorem Ztk{x:Int}{l:List Int}:0≤Ztm x l↔x∈l:=by
 unfold Ztm;split <;> simp_all <;> omega
theorem HX{x:Int}{l:List Int}{k:Nat}(hk:k<l.length)(h1:x∉l.take k)(h2:¬x=l[k]):x∉l.take (k+1):=by
 rw[C9,A7 hk];grind
theorem OSl.valL{α:Type}{T sz:Nat}{v:Value}{hs:Hp}{f:α→Segs}{l:List α}(h:OSl T sz v hs (l.map f)):∃ a c,v=.slice a l.length c:=by
 obtain⟨a,c,h1⟩:=h.val;grind
theorem NS{α β:Type}{l:List α}{k:Nat}(f:α→β)(hk:k<l.length):(l.take (k+1)).map f=(l.take k).map f++[f l[k]]:=by
 rw[C9,A7 hk,C6];rfl
def Qj(p:Nat→Bool):Nat→Nat
 | 0=>0
 | n+1=>if Qj p n<n then Qj p n else if p n then n else n+1
theorem JC(p:Nat→Bool):∀ n,Qj p n≤n∧(∀ x,x<Qj p n→p x=false)∧(Qj p n<n→p (Qj p n)=true)
 | 0=>⟨B9 0,fun x h=>(by cases h),fun h=>(by cases h)⟩
 | n+1=>by
  obtain⟨h1,h2,h3⟩:=JC p n;unfold Qj;split
  ·exact⟨by omega,h2,fun _=>h3 jE⟩
  rename_i g;have e:Qj p n=n:=by omega
  rw[e]at h2;split
  ·rename_i d;exact⟨by omega,h2,fun _=>d⟩
  rename_i d;refine⟨by omega,fun x hx=>?_,fun h=>by omega⟩;rcases C7 x n with h|h
  ·exact h2 x h
  obtain rfl:x=n:=by omega
  simpa using d
theorem JD{p:Nat→Bool}{n a:Nat}(ha:a≤n)(h1:∀ x,x<a→p x=false)(h2:a<n→p a=true):Qj p n=a:=by
 obtain⟨g1,g2,g3⟩:=JC p n;grind
end Go.Esp
namespace Go.Esp
section
variable {P:Program} {n:Sh} {ops:Array Oper} {Q:Exit→Act→World→Prop} {rest:List Nat} {M M':Mem} {H H' H0:Hp} {e:Env} {J S:World→Prop} {A:As} {i:Nat}
  {dst:Option Tmp} {d:Tmp} {op:Op} {ty:TypeId} {pos:String} {af:Array Edge} {gd:Option (Nat×Bool)}
def Znn(e:Env):List Nat→Option Env
 | []=>some []
 | k::ks=>match get e k,Znn e ks with
  | some v,some r=>some ((k,v)::r)
  | _,_=>none
theorem Am{e:Env}:∀{d:List Nat} {e':Env},Znn e d=some e'→Pick e e'
 | [],e',h=>by cases h;exact .nil
 | k::d,e',h=>by
  unfold Znn at h;split at h
  ·rename_i v r h1 h2;cases h;exact .cons h1 (Am h2)
  cases h
theorem VG{c:Code}{e':Env}(d:List Nat)(hk:C P n c Q S e')(h:Znn e d=some e':=by exact rfl):C P n c Q S e:=Zyq (Am h) hk
theorem Zrn{x:Operand}{v:Value}(hk:XD P n ops Q rest J A ((d,v)::e))(hi:ops[i]?=some ⟨some d,.move x,ty,pos,af,gd⟩:=by exact rfl)(j:want ops e gd=some true:=by exact rfl)(hx:ev e x=some v:=by exact rfl)(g:Nat.ble (d+1) n.sz=true:=by exact rfl):XD P n ops Q (i::rest) J A e :=
 Zro hi j hx g hk
theorem Hx{x:Operand}{a:Addr}(hk:XD P n ops Q rest J A ((d,.pointer (some a))::e))(hi:ops[i]?=some ⟨some d,.nilCheck x,ty,pos,af,gd⟩:=by exact rfl)(g:want ops e gd=some true:=by exact rfl)(hx:ev e x=some (.pointer (some a)):=by exact rfl)(j:Nat.ble (d+1) n.sz=true:=by exact rfl):XD P n ops Q (i::rest) J A e :=
 Hy hi g hx j hk
theorem Zxr{o:BinOp}{t v:TypeId}{x y:Operand}{a b:ByteArray}{c:Bool}(hk:XD P n ops Q rest J A ((d,.bool c)::e))(hi:ops[i]?=some ⟨some d,.binOp o t x y v,ty,pos,af,gd⟩:=by exact rfl)(g:want ops e gd=some true:=by exact rfl)(hx:ev e x=some (.string a):=by exact rfl)(C:ev e y=some (.string b):=by exact rfl)(j:Zzl o a b=some c:=by exact rfl)(B:Nat.ble (d+1) n.sz=true:=by exact rfl):XD P n ops Q (i::rest) J A e :=
 Zzr hi g hx C j B hk
theorem Rd{s:TypeId}{x:Operand}{f k b off:Nat}(g:Zjb P s f=some k)(hk:XD P n ops Q rest J A ((d,.pointer (some ⟨b,off+k,none⟩))::e))(hi:ops[i]?=some ⟨some d,.fieldAddr s x f,ty,pos,af,gd⟩:=by exact rfl)(v:want ops e gd=some true:=by exact rfl)(hx:ev e x=some (.pointer (some ⟨b,off,none⟩)):=by exact rfl)(j:Nat.ble (d+1) n.sz=true:=by exact rfl):XD P n ops Q (i::rest) J A e :=
 JR hi v hx g j hk
theorem DS{t:TypeId}{x:Operand}{b off m:Nat}{agg:Bool}{r r':Segs}{T:TypeId}{v:Value}{j:Mem}{g:Hp}(B:lay P t=some (agg,m))(hk:XD P n ops Q rest (St j g) A ((d,v)::e))(hi:ops[i]?=some ⟨some d,.load t x,ty,pos,af,gd⟩:=by exact rfl)(D:want ops e gd=some true:=by exact rfl)(hx:ev e x=some (.pointer (some ⟨b,off,none⟩)):=by exact rfl)(hb:(b,Yp r T)∈g:=by repeat first|exact J3 _|refine J6 _ ?_|refine D0 _ ?_)(hs:Segs.sub r off m=some r':=by exact rfl)(C:Sp agg r'=some v:=by exact rfl)(y:Nat.ble (d+1) n.sz=true:=by exact rfl):XD P n ops Q (i::rest) (St j g) A e :=
 Zkx hi D hx hb B hs C y hk
theorem Zks{T:TypeId}{z:Value}{r:Segs}(y:XP P T=some z)(hk:∀ b,XD P n ops Q rest J ⟨M,(b,Yp r T)::H⟩ ((d,.pointer (some ⟨b,0,none⟩))::e))(hi:ops[i]?=some ⟨some d,.alloc T,ty,pos,af,gd⟩:=by exact rfl)(v:want ops e gd=some true:=by exact rfl)(g:Parts z r:=by constructor)(j:Nat.ble (d+1) n.sz=true:=by exact rfl):XD P n ops Q (i::rest) J ⟨M,H⟩ e :=
 Zlg hi v y g j hk
theorem Zzq{T:TypeId}{x:Operand}{v:Value}{r:Segs}(hk:∀ b,XD P n ops Q rest J ⟨M,(b,Yp r T)::H⟩ ((d,.pointer (some ⟨b,0,none⟩))::e))(hi:ops[i]?=some ⟨some d,.box T x,ty,pos,af,gd⟩:=by exact rfl)(y:want ops e gd=some true:=by exact rfl)(hx:ev e x=some v:=by exact rfl)(g:Parts v r:=by constructor)(j:Nat.ble (d+1) n.sz=true:=by exact rfl):XD P n ops Q (i::rest) J ⟨M,H⟩ e :=
 Zya hi y hx g j hk
theorem BB{t:TypeId}{x y:Operand}{b off m:Nat}{agg:Bool}{r q u:Segs}{T:TypeId}{v:Value}(j:lay P t=some (agg,m))(hk:XD P n ops Q rest (St M H') ⟨M,H'⟩ e)(hi:ops[i]?=some ⟨none,.store t x y,ty,pos,af,gd⟩:=by exact rfl)(F:want ops e gd=some true:=by exact rfl)(hx:ev e x=some (.pointer (some ⟨b,off,none⟩)):=by exact rfl)(B:ev e y=some v:=by exact rfl)(C:Parts v q:=by constructor)(D:flat q:=by(try simp only[cat,B4,B6,E0]);(repeat(first|exact YS|refine Xg ?_|(refine Yi ?_ ?_;rfl)));done)(hu:Upd b (Yp r T) (Yp u T) H H':=by repeat first|exact Upd.head|apply Upd.tail|apply Upd.over)(g:Segs.len q=m:=by exact rfl)(hs:Segs.put r off q=some u:=by exact rfl)(d:n.wrs.contains i=false:=by rfl):XD P n ops Q (i::rest) J ⟨M,H⟩ e :=
 UE hi F hx B C D hu j g hs hk d
theorem Rz{t:Nat}{x:Operand}{s:ByteArray}{g:Array TypeId}(ht:P.underlying t=some .string)(hk:XD P n ops Q rest J A ((d,.int .i64 (s.size:Int))::e))(hi:ops[i]?=some ⟨some d,.call ⟨.builtin .len,#[x],g⟩,ty,pos,af,gd⟩:=by exact rfl)(y:want ops e gd=some true:=by exact rfl)(hx:ev e x=some (.string s):=by exact rfl)(j:g[0]?=some t:=by exact rfl)(v:Nat.ble (d+1) n.sz=true:=by exact rfl):XD P n ops Q (i::rest) J A e :=
 DV hi y hx j ht v hk
end
end Go.Esp
namespace Go.Esp
structure Zr where
  addr:Int
  id:Plc
  deriving DecidableEq
def Zr.segs:Zr→Segs
 | ⟨a1,a2⟩=>[.one (.int .i64 a1),ZU a2]
theorem Zr.eta(x:Zr):(⟨x.addr,x.id⟩:Zr)=x:=rfl
def Zr.enc(x:Zr):Value:=WX x.segs
def Zr.zero:Zr:=⟨0,0⟩
theorem Zr.len(x:Zr):Segs.len x.segs=21:=by
 obtain⟨d,a2⟩:=x;simp only[Zr.segs,Segs.len,Seg.len,ZU]
theorem Zr.flat(x:Zr):Esp.flat x.segs:=by
 obtain⟨d,a2⟩:=x;simp only[Zr.segs];refine Yi rfl ?_;refine Xg ?_;exact YS
theorem Zr.inj{x y:Zr}:Segs.cells x.segs=Segs.cells y.segs↔x=y:=by
 obtain⟨d,a2⟩:=x;obtain⟨g,j⟩:=y;simp only[Zr.segs,Zka,Zad,Value.int.injEq,Value.bool.injEq,Value.string.injEq,true_and,and_true,and_assoc,Zr.mk.injEq]
structure ZK where
  self:Zr
  pred:Zr
  succ:(Sl Zr)
  fingers:(Sl Zr)
def ZK.segs:ZK→Segs
 | ⟨⟨a1,a2⟩,⟨a3,a4⟩,a5,a6⟩=>[.one (.int .i64 a1),ZU a2,.one (.int .i64 a3),ZU a4,.one (a5).val,.one (a6).val]
theorem ZK.eta(x:ZK):(⟨x.self,x.pred,x.succ,x.fingers⟩:ZK)=x:=rfl
def ZK.enc(x:ZK):Value:=WX x.segs
def ZK.zero:ZK:=⟨⟨0,0⟩,⟨0,0⟩,⟨none,0,[]⟩,⟨none,0,[]⟩⟩
theorem ZK.flat(x:ZK):Esp.flat x.segs:=by
 obtain⟨⟨d,a2⟩,⟨a3,a4⟩,a5,g⟩:=x;simp only[ZK.segs];refine Yi rfl ?_;refine Xg ?_;refine Yi rfl ?_;refine Xg ?_;refine Yi (Sl.one _) ?_;refine Yi (Sl.one _) ?_;exact YS
structure ZK.ok (M:Mem) (x:ZK):Prop where
  h0:SlK M Zr.segs 21 x.succ
  h1:SlK M Zr.segs 21 x.fingers
theorem ZK.ok.mono{M M':Mem}{x:ZK}(h:ZK.ok M x)(hm:M.le M'):ZK.ok M' x:=⟨h.h0.mono hm,h.h1.mono hm⟩
theorem ZK.zero_ok(M:Mem):ZK.ok M ZK.zero:=⟨SlK.nil,SlK.nil⟩
structure ZM where
  table:ZK
  copies:Int
  joined:Bool
  boot:Int
  cursor:Int
  req:Int
  askTo:Int
  askReq:Int
  pingTo:Int
  pingReq:Int
  findTo:Int
  findReq:Int
  findID:Plc
  avoid:(Sl Int)
  hops:Int
  turn:Int
def ZM.segs:ZM→Segs
 | ⟨⟨⟨a1,a2⟩,⟨a3,a4⟩,a5,a6⟩,a7,a8,a9,a10,a11,a12,a13,a14,a15,a16,a17,a18,a19,a20,a21⟩=>[.one (.int .i64 a1),ZU a2,.one (.int .i64 a3),ZU a4,.one (a5).val,.one (a6).val,.one (.int .i64 a7),.one (.bool a8),.one (.int .i64 a9),.one (.int .i64 a10),.one (.int .u64 a11),.one (.int .i64 a12),.one (.int .u64 a13),.one (.int .i64 a14),.one (.int .u64 a15),.one (.int .i64 a16),.one (.int .u64 a17),ZU a18,.one (a19).val,.one (.int .i64 a20),.one (.int .i64 a21)]
theorem ZM.eta(x:ZM):(⟨x.table,x.copies,x.joined,x.boot,x.cursor,x.req,x.askTo,x.askReq,x.pingTo,x.pingReq,x.findTo,x.findReq,x.findID,x.avoid,x.hops,x.turn⟩:ZM)=x:=rfl
def ZM.enc(x:ZM):Value:=WX x.segs
def ZM.zero:ZM:=⟨⟨⟨0,0⟩,⟨0,0⟩,⟨none,0,[]⟩,⟨none,0,[]⟩⟩,0,false,0,0,0,0,0,0,0,0,0,0,⟨none,0,[]⟩,0,0⟩
theorem ZM.flat(x:ZM):Esp.flat x.segs:=by
 obtain⟨⟨⟨L,a2⟩,⟨a3,a4⟩,a5,K⟩,F,O,a9,B,d,a12,g,C,v,y,a17,j,D,a20,a21⟩:=x;simp only[ZM.segs];refine Yi rfl ?_;refine Xg ?_;refine Yi rfl ?_;refine Xg ?_;refine Yi (Sl.one _) ?_;refine Yi (Sl.one _) ?_;refine Yi rfl ?_;refine Yi rfl ?_;refine Yi rfl ?_;refine Yi rfl ?_;refine Yi rfl ?_;refine Yi rfl ?_;refine Yi rfl ?_;refine Yi rfl ?_;refine Yi rfl ?_;refine Yi rfl ?_;refine Yi rfl ?_;refine Xg ?_;refine Yi (Sl.one _) ?_;refine Yi rfl ?_;refine Yi rfl ?_;exact YS
structure ZM.ok (M:Mem) (x:ZM):Prop where
  h0:ZK.ok M x.table
  h1:SlK M (WC .i64) 1 x.avoid
theorem ZM.ok.mono{M M':Mem}{x:ZM}(h:ZM.ok M x)(hm:M.le M'):ZM.ok M' x:=⟨h.h0.mono hm,h.h1.mono hm⟩
theorem ZM.zero_ok(M:Mem):ZM.ok M ZM.zero:=⟨ZK.zero_ok M,SlK.nil⟩
structure ZI where
  kind:Int
  frm:Zr
  req:Int
  id:Plc
  avoid:(Sl Int)
  done:Bool
  peer:Zr
  peers:(Sl Zr)
def ZI.segs:ZI→Segs
 | ⟨a1,⟨a2,a3⟩,a4,a5,a6,a7,⟨a8,a9⟩,a10⟩=>[.one (.int .i64 a1),.one (.int .i64 a2),ZU a3,.one (.int .u64 a4),ZU a5,.one (a6).val,.one (.bool a7),.one (.int .i64 a8),ZU a9,.one (a10).val]
theorem ZI.eta(x:ZI):(⟨x.kind,x.frm,x.req,x.id,x.avoid,x.done,x.peer,x.peers⟩:ZI)=x:=rfl
def ZI.enc(x:ZI):Value:=WX x.segs
theorem ZI.flat(x:ZI):Esp.flat x.segs:=by
 obtain⟨v,⟨a2,a3⟩,a4,a5,j,g,⟨y,a9⟩,d⟩:=x;simp only[ZI.segs];refine Yi rfl ?_;refine Yi rfl ?_;refine Xg ?_;refine Yi rfl ?_;refine Xg ?_;refine Yi (Sl.one _) ?_;refine Yi rfl ?_;refine Yi rfl ?_;refine Xg ?_;refine Yi (Sl.one _) ?_;exact YS
structure ZI.ok (M:Mem) (x:ZI):Prop where
  h0:SlK M (WC .i64) 1 x.avoid
  h1:SlK M Zr.segs 21 x.peers
theorem ZI.ok.mono{M M':Mem}{x:ZI}(h:ZI.ok M x)(hm:M.le M'):ZI.ok M' x:=⟨h.h0.mono hm,h.h1.mono hm⟩
structure YD where
  to:Int
  letter:ZI
def YD.segs:YD→Segs
 | ⟨a1,⟨a2,⟨a3,a4⟩,a5,a6,a7,a8,⟨a9,a10⟩,a11⟩⟩=>[.one (.int .i64 a1),.one (.int .i64 a2),.one (.int .i64 a3),ZU a4,.one (.int .u64 a5),ZU a6,.one (a7).val,.one (.bool a8),.one (.int .i64 a9),ZU a10,.one (a11).val]
theorem YD.eta(x:YD):(⟨x.to,x.letter⟩:YD)=x:=rfl
theorem YD.flat(x:YD):Esp.flat x.segs:=by
 obtain⟨y,⟨a2,⟨a3,a4⟩,a5,v,j,B,⟨a9,g⟩,d⟩⟩:=x;simp only[YD.segs];refine Yi rfl ?_;refine Yi rfl ?_;refine Yi rfl ?_;refine Xg ?_;refine Yi rfl ?_;refine Xg ?_;refine Yi (Sl.one _) ?_;refine Yi rfl ?_;refine Yi rfl ?_;refine Xg ?_;refine Yi (Sl.one _) ?_;exact YS
structure YD.ok (M:Mem) (x:YD):Prop where
  h0:ZI.ok M x.letter
structure YQ where
  frm:Int
  to:Int
  body:ByteArray
  deriving DecidableEq
def YQ.segs:YQ→Segs
 | ⟨a1,a2,a3⟩=>[.one (.int .i64 a1),.one (.int .i64 a2),.one (.string a3)]
theorem YQ.eta(x:YQ):(⟨x.frm,x.to,x.body⟩:YQ)=x:=rfl
def YQ.enc(x:YQ):Value:=WX x.segs
def YQ.zero:YQ:=⟨0,0,⟨#[]⟩⟩
theorem YQ.flat(x:YQ):Esp.flat x.segs:=by
 obtain⟨d,a2,a3⟩:=x;simp only[YQ.segs];refine Yi rfl ?_;refine Yi rfl ?_;refine Yi rfl ?_;exact YS
structure XM where
  kind:Int
  a:Int
  b:Int
  deriving DecidableEq
def XM.segs:XM→Segs
 | ⟨a1,a2,a3⟩=>[.one (.int .i64 a1),.one (.int .i64 a2),.one (.int .i64 a3)]
theorem XM.eta(x:XM):(⟨x.kind,x.a,x.b⟩:XM)=x:=rfl
def XM.enc(x:XM):Value:=WX x.segs
theorem XM.flat(x:XM):Esp.flat x.segs:=by
 obtain⟨d,a2,a3⟩:=x;simp only[XM.segs];refine Yi rfl ?_;refine Yi rfl ?_;refine Yi rfl ?_;exact YS
structure YT where
  hops:(Sl Int)
  end_:Zr
def YT.segs:YT→Segs
 | ⟨a1,⟨a2,a3⟩⟩=>[.one (a1).val,.one (.int .i64 a2),ZU a3]
theorem YT.eta(x:YT):(⟨x.hops,x.end_⟩:YT)=x:=rfl
def YT.enc(x:YT):Value:=WX x.segs
def YT.zero:YT:=⟨⟨none,0,[]⟩,⟨0,0⟩⟩
theorem YT.flat(x:YT):Esp.flat x.segs:=by
 obtain⟨d,⟨a2,a3⟩⟩:=x;simp only[YT.segs];refine Yi (Sl.one _) ?_;refine Yi rfl ?_;refine Xg ?_;exact YS
structure YT.ok (M:Mem) (x:YT):Prop where
  h0:SlK M (WC .i64) 1 x.hops
theorem YT.ok.mono{M M':Mem}{x:YT}(h:YT.ok M x)(hm:M.le M'):YT.ok M' x:=⟨h.h0.mono hm⟩
theorem YT.zero_ok(M:Mem):YT.ok M YT.zero:=⟨SlK.nil⟩
structure ZW where
  node:ZM
  out:(Sl YD)
def ZW.segs:ZW→Segs
 | ⟨⟨⟨⟨a1,a2⟩,⟨a3,a4⟩,a5,a6⟩,a7,a8,a9,a10,a11,a12,a13,a14,a15,a16,a17,a18,a19,a20,a21⟩,a22⟩=>[.one (.int .i64 a1),ZU a2,.one (.int .i64 a3),ZU a4,.one (a5).val,.one (a6).val,.one (.int .i64 a7),.one (.bool a8),.one (.int .i64 a9),.one (.int .i64 a10),.one (.int .u64 a11),.one (.int .i64 a12),.one (.int .u64 a13),.one (.int .i64 a14),.one (.int .u64 a15),.one (.int .i64 a16),.one (.int .u64 a17),ZU a18,.one (a19).val,.one (.int .i64 a20),.one (.int .i64 a21),.one (a22).val]
theorem ZW.eta(x:ZW):(⟨x.node,x.out⟩:ZW)=x:=rfl
theorem ZW.flat(x:ZW):Esp.flat x.segs:=by
 obtain⟨⟨⟨⟨L,a2⟩,⟨a3,a4⟩,a5,K⟩,F,O,a9,B,d,a12,g,C,v,y,a17,j,D,a20,a21⟩,a22⟩:=x;simp only[ZW.segs];refine Yi rfl ?_;refine Xg ?_;refine Yi rfl ?_;refine Xg ?_;refine Yi (Sl.one _) ?_;refine Yi (Sl.one _) ?_;refine Yi rfl ?_;refine Yi rfl ?_;refine Yi rfl ?_;refine Yi rfl ?_;refine Yi rfl ?_;refine Yi rfl ?_;refine Yi rfl ?_;refine Yi rfl ?_;refine Yi rfl ?_;refine Yi rfl ?_;refine Yi rfl ?_;refine Xg ?_;refine Yi (Sl.one _) ?_;refine Yi rfl ?_;refine Yi rfl ?_;refine Yi (Sl.one _) ?_;exact YS
structure XF where
  part:Int
  is:Bool
  deriving DecidableEq
def XF.segs:XF→Segs
 | ⟨a1,a2⟩=>[.one (.int .i64 a1),.one (.bool a2)]
theorem XF.eta(x:XF):(⟨x.part,x.is⟩:XF)=x:=rfl
theorem XF.flat(x:XF):Esp.flat x.segs:=by
 obtain⟨d,a2⟩:=x;simp only[XF.segs];refine Yi rfl ?_;refine Yi rfl ?_;exact YS
structure Yk where
  kind:Int
  addr:Int
  at_:(Sl Int)
def Yk.segs:Yk→Segs
 | ⟨a1,a2,a3⟩=>[.one (.int .i64 a1),.one (.int .i64 a2),.one (a3).val]
theorem Yk.eta(x:Yk):(⟨x.kind,x.addr,x.at_⟩:Yk)=x:=rfl
def Yk.enc(x:Yk):Value:=WX x.segs
structure Yk.ok (M:Mem) (x:Yk):Prop where
  h0:SlK M (WC .i64) 1 x.at_
theorem Yk.ok.mono{M M':Mem}{x:Yk}(h:Yk.ok M x)(hm:M.le M'):Yk.ok M' x:=⟨h.h0.mono hm⟩
theorem Xr(x:Zr):Fits [.i .i64,.i .u8,.i .u8,.i .u8,.i .u8,.i .u8,.i .u8,.i .u8,.i .u8,.i .u8,.i .u8,.i .u8,.i .u8,.i .u8,.i .u8,.i .u8,.i .u8,.i .u8,.i .u8,.i .u8,.i .u8] (Segs.cells x.segs):=by
 obtain⟨d,a2⟩:=x;simp only[Zr.segs];refine Ztt (by first|exact rfl|exact trivial) ?_;refine Ra ?_;exact Sf
theorem St.c{M:Mem}{H H':Hp}{w:World}(h:St M H w)(d:∀ zz,Esp.cnt zz H'≤Esp.cnt zz H:=by intro zz;first|exact B9 _|(simp only[WG,Wo,WW,cat,List.append_eq,B5,B4,B6,E0];omega)|(simp only[WG,Wo,WW,cat,List.append_eq,B5,B4,B6,E0,Zr.segs,ZK.segs,ZM.segs,ZI.segs,YD.segs,YQ.segs,XM.segs,YT.segs,ZW.segs,XF.segs,Yk.segs];omega)):St M H' w:=h.cnt d
end Go.Esp
namespace Go.Proofs.YtglnjnacodgmaaaGreatDoor
open Go.Esp
theorem Tryz.own:ownKnob Tryz.prog.godebug=none:=by kernel_rfl
theorem Tryz.laidOut:laidOutB Tryz.prog=true:=by kernel_rfl
theorem Zbe{M:Mem}{n:Nat}{R:Segs}(h:Ty Tryz.prog M n 32 R):∃ x:(Sl Int),R=[.one x.val]∧SlK M (WC .i64) 1 x:=by
 have e:Tryz.prog.cellsOf 3=1:=by kernel_rfl
 obtain⟨v,rows,c,m,rfl,h2,h3,g,j⟩:=Ee Tryz.underlying32 (by rw[e];decide) h;obtain⟨l,rfl,B⟩:=KL (f:=(WC .i64)) (p:=fun y=>True) (fun r d=>by
  obtain⟨z,rfl,_⟩:=Zet Tryz.underlying3 (j r d);exact⟨z,rfl,trivial⟩)
 rw[e]at h2;exact⟨⟨v,c,l⟩,by simp[Sl.val],⟨h2,by simpa using h3,by simpa using g⟩⟩
theorem JW{M:Mem}{n:Nat}{R:Segs}(h:Ty Tryz.prog M n 58 R):∃ x:Yk,R=x.segs∧Yk.ok M x:=by
 obtain⟨k,j,rfl,hlen,g⟩:=Zes Tryz.underlying58 h
 match j,hlen with
 | [r0,r1,r2],_ =>
  obtain⟨y,rfl,_⟩:=Zet Tryz.underlying3 (g 0 _ r0 rfl rfl);obtain⟨B,rfl,_⟩:=Zet Tryz.underlying3 (g 1 _ r1 rfl rfl);obtain⟨v,rfl,d⟩:=Zbe (g 2 _ r2 rfl rfl);exact⟨⟨y,B,v⟩,rfl,⟨d⟩⟩
theorem sl_of_ty56{M:Mem}{n:Nat}{R:Segs}(h:Ty Tryz.prog M n 56 R):∃ x:(Sl Yk),R=[.one x.val]∧SlK M Yk.segs 3 x∧∀ y∈x.l,Yk.ok M y:=by
 have e:Tryz.prog.cellsOf 58=3:=by kernel_rfl
 obtain⟨B,rows,c,m,rfl,h2,h3,g,j⟩:=Ee Tryz.underlying56 (by rw[e];decide) h;obtain⟨l,rfl,v⟩:=KL (f:=Yk.segs) (p:=fun y=>Yk.ok M y) (fun r d=>by
  exact JW (j r d))
 rw[e]at h2;exact⟨⟨B,c,l⟩,by simp[Sl.val],⟨h2,by simpa using h3,by simpa using g⟩,v⟩
end Go.Proofs.YtglnjnacodgmaaaGreatDoor
namespace Go.Proofs
open Go.Shelf
def Tryz.itoaM_ren:Go.Shelf.Ren:=⟨fun|171=>53|243=>94|246=>153|283=>195|284=>196|285=>197|286=>198|129=>135|317=>218|318=>219|319=>220|320=>221|337=>228|338=>229|n=>n,fun|3=>3|9=>9|2=>2|4=>4|171=>257|0=>0|53=>42|37=>202|5=>5|173=>259|212=>283|51=>152|20=>20|213=>284|46=>136|232=>295|233=>256|n=>n,fun|17=>0|18=>2|19=>3|n=>n⟩
theorem Tryz.itoaM:Go.Proofs.LaysM.n171 Tryz.prog Tryz.itoaM_ren:={
 mixed:=by kernel_rfl
 f129:=Tryz.func135.trans (congrArg some (by kernel_rfl))
 f171:=Tryz.func53.trans (congrArg some (by kernel_rfl))
 f243:=Tryz.func94.trans (congrArg some (by kernel_rfl))
 f246:=Tryz.func153.trans (congrArg some (by kernel_rfl))
 f283:=Tryz.func195.trans (congrArg some (by kernel_rfl))
 f284:=Tryz.func196.trans (congrArg some (by kernel_rfl))
 f285:=Tryz.func197.trans (congrArg some (by kernel_rfl))
 f286:=Tryz.func198.trans (congrArg some (by kernel_rfl))
 f317:=Tryz.func218.trans (congrArg some (by kernel_rfl))
 f318:=Tryz.func219.trans (congrArg some (by kernel_rfl))
 f319:=Tryz.func220.trans (congrArg some (by kernel_rfl))
 f320:=Tryz.func221.trans (congrArg some (by kernel_rfl))
 f337:=Tryz.func228.trans (congrArg some (by kernel_rfl))
 f338:=Tryz.func229.trans (congrArg some (by kernel_rfl))
 t0:=Tryz.underlying0
 a0:=Tryz.isAgg0
 z0:=Tryz.sizeOf0
 v0:=Tryz.zeroValue0
 t2:=Tryz.underlying2
 a2:=Tryz.isAgg2
 z2:=Tryz.sizeOf2
 v2:=Tryz.zeroValue2
 t3:=Tryz.underlying3
 a3:=Tryz.isAgg3
 z3:=Tryz.sizeOf3
 v3:=Tryz.zeroValue3
 t4:=Tryz.underlying4
 a4:=Tryz.isAgg4
 z4:=Tryz.sizeOf4
 v4:=Tryz.zeroValue4
 t5:=Tryz.underlying5
 a5:=Tryz.isAgg5
 z5:=Tryz.sizeOf5
 v5:=Tryz.zeroValue5
 t9:=Tryz.underlying9
 a9:=Tryz.isAgg9
 z9:=Tryz.sizeOf9
 v9:=Tryz.zeroValue9
 t20:=Tryz.underlying20
 a20:=Tryz.isAgg20
 z20:=Tryz.sizeOf20
 v20:=Tryz.zeroValue20
 t37:=Tryz.underlying202
 a37:=Tryz.isAgg202
 z37:=Tryz.sizeOf202
 v37:=Tryz.zeroValue202
 t46:=Tryz.underlying136
 a46:=Tryz.isAgg136
 z46:=Tryz.sizeOf136
 v46:=Tryz.zeroValue136
 t51:=Tryz.underlying152
 a51:=Tryz.isAgg152
 z51:=Tryz.sizeOf152
 v51:=Tryz.zeroValue152
 t53:=Tryz.underlying42
 a53:=Tryz.isAgg42
 z53:=Tryz.sizeOf42
 v53:=Tryz.zeroValue42
 t171:=Tryz.underlying257
 a171:=Tryz.isAgg257
 z171:=Tryz.sizeOf257
 v171:=Tryz.zeroValue257
 t173:=Tryz.underlying259
 a173:=Tryz.isAgg259
 z173:=Tryz.sizeOf259
 v173:=Tryz.zeroValue259
 t212:=Tryz.underlying283
 a212:=Tryz.isAgg283
 z212:=Tryz.sizeOf283
 v212:=Tryz.zeroValue283
 t213:=Tryz.underlying284
 a213:=Tryz.isAgg284
 z213:=Tryz.sizeOf284
 t232:=Tryz.underlying295
 a232:=Tryz.isAgg295
 z232:=Tryz.sizeOf295
 v232:=Tryz.zeroValue295
 t233:=Tryz.underlying256
 a233:=Tryz.isAgg256
 z233:=Tryz.sizeOf256
 v233:=Tryz.zeroValue256
 g17:=by kernel_rfl
 g18:=by kernel_rfl
 g19:=by kernel_rfl
 i0:=by kernel_rfl
 i2:=by kernel_rfl
 i3:=by kernel_rfl
 i4:=by kernel_rfl
 i5:=by kernel_rfl
 i9:=by kernel_rfl
 i20:=by kernel_rfl
 i37:=by kernel_rfl
 i46:=by kernel_rfl
 i51:=by kernel_rfl
 i53:=by kernel_rfl
 i171:=by kernel_rfl
 i173:=by kernel_rfl
 i212:=by kernel_rfl
 i232:=by kernel_rfl
 i233:=by kernel_rfl
 m17:=by kernel_rfl
 m18:=by kernel_rfl
 m19:=by kernel_rfl }
end Go.Proofs
namespace Go.Esp
open Go.Proofs Go.Shelf Go.RowKit Go.Lib
def PowM (M : Mem) : Prop := ∃ g T fz, Tryz.prog.globalNamed "internal/strconv.uint64pow10" = some g ∧ M g = some (.cells (pow10Tab.map fun z => Value.int .u64 z).toArray T fz)
theorem PowM.mono{M M':Mem}(h:PowM M)(hm:M.le M'):PowM M':=by
 obtain⟨g,T,d,h1,h2⟩:=h;exact⟨g,T,d,h1,hm.1 _ _ h2⟩
theorem PowM.tab {M : Mem} {H : Hp} {w : World} (h : PowM M) (hw : St M H w) : TabIs Tryz.prog w "internal/strconv.uint64pow10" .u64 pow10Tab := by
 obtain⟨g,T,fz,h1,h2⟩:=h;unfold TabIs World.var?;rw[h1];show(match w.heap[g]? with|some (.cells cs _ _)=>some cs|_=>none)=_;rw[hw.mem _ _ h2]
theorem PowM.of {W : World} (h : TabIs Tryz.prog W "internal/strconv.uint64pow10" .u64 pow10Tab) : PowM (QB W) := by
 unfold TabIs World.var? at h;cases hg : Tryz.prog.globalNamed "internal/strconv.uint64pow10" with
 | none=>rw[hg]at h;cases h
 | some g =>
  rw[hg]at h;replace h:(match W.heap[g]? with|some (.cells cs _ _)=>some cs|_=>none)=_:=h;split at h
  ·rename_i cs T fz hc;obtain rfl:=A5 h;exact⟨g,T,fz,hg,hc⟩
  cases h
theorem St.grown{M:Mem}{H:Hp}{w:World}(h:St M H w)(k:Nat)(os:Array Obj):St M H (Sort.grow (w.drewN k) os):=by
 have hk:∀ b o,w.heap[b]?=some o→(w.heap++os)[b]?=some o:=fun b o d=>by
  obtain⟨h1,h2⟩:=E4.1 d;rw[Array.getElem?_append_left h1];exact d
 exact⟨fun b o hm=>hk b o (h.mem b o hm),fun b o hm=>hk b o (h.own b o hm),h.sep,h.nodup,h.io.1,h.io.2.1,h.io.2.2.1,H7 h.io.2.2.2 (Nat.le_add_right _ _)⟩
theorem Zqn(M:Mem)(g:PowM M)(i:Nat)(hi:i≤999):Fs Tryz.prog (Tryz.itoaM_ren.f 171) [.int .i64 (i:Int)] M (fun v=>v=.string ⟨(decDigits i).toArray⟩):=fun H w hw =>
 (Any.strconv_Itoa Tryz.itoaM (i:Int) jD jD w (g.tab hw)).mono fun e j ⟨he,k,os,d⟩=>⟨_,he,d.symm ▸ hw.grown k os,by unfold itoa;rw[A4 jD];rfl⟩
end Go.Esp
namespace Go.Proofs.YtglnjnacodgmaaaGreatDoor
open Go.Esp
theorem pow_of {W : World} (h : laidMetH Tryz.prog [("math/bits.deBruijn32tab", Rows.laid_math_bits_deBruijn32tab), ("math/bits.deBruijn64tab", Rows.laid_math_bits_deBruijn64tab), ("internal/strconv.uint64pow10", Rows.laid_internal_strconv_uint64pow10)] W) : PowM (QB W) := by
 rw [MakeChecks.laidMetH_plain _ _ _ jI] at h;have h2 : laidMet Tryz.prog [("internal/strconv.uint64pow10", Lib.tabData .u64 Lib.pow10Tab)] W := h.tail.tail;obtain ⟨gi, hg⟩ : ∃ gi, Tryz.prog.globalNamed "internal/strconv.uint64pow10" = some gi := Option.isSome_iff_exists.1 jI;have hty:(Tryz.prog.globals[gi]?).map (·.type)=some 283:=by
  have h9 : (Tryz.prog.globalNamed "internal/strconv.uint64pow10").bind (fun gi => (Tryz.prog.globals[gi]?).map (·.type)) = some 283 := by kernel_rfl
  rw[hg]at h9;exact h9
 exact PowM.of (Lib.tabIs_of_head hg hty Tryz.underlying283 Tryz.underlying42 jI jI h2)
end Go.Proofs.YtglnjnacodgmaaaGreatDoor
