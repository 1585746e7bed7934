/-
  Texts of this claim, one behind the other: Ident, Rules6, Rules7, Rules16, Rules8, Short2, Facts, CircleM, IdentN, IdxF, TableM, TableP, TableS, TableL, NodeM, Rules9, RegW, Rules15, WireM, T1, T2, T3, T4, T5, T6, T7, T8, T9, T10, T11, T12, T13, T14, T15, T16, SortL, SortM, T17, T18, T19, SmallN, T20, Frz, NodeT, Rules10, Rules11, Rules12, Core2, Rules13, Rules14, NodeY.
-/
import Derived.Test.YtglnjnacodgmaaaGreatDoorPX1
import Derived.Laws.Sem
import Derived.Laws.MakeOwn
import Derived.Scope
import Derived.Lib.AppendZeros
import Derived.Test.YtglnjnacodgmaaaGreatDoorRows
import Derived.Laws.BytesArg
import Derived.Laws.Strings
import Derived.Shelf.SlSortCmp.WholeK
import Derived.Shelf.SlGeneric
import Derived.Ground.SlsfProg
import Derived.Lib.AppendZerosOnto
import Derived.Lib.Overlaps
set_option linter.unusedSimpArgs false
set_option linter.unusedVariables false
set_option linter.unnecessarySimpa false
set_option maxRecDepth 8000
set_option maxHeartbeats 1000000
open Array renaming getElem?_eq_getElem → E8,getElem?_eq_some_iff → E4,length_toList → H6
open BitVec renaming eq_of_toNat_eq → J5,toNat_ofNat → H4
open Bool renaming and_eq_true → F1
open Decidable renaming byContradiction → C2
open List renaming all_eq_true → E7,append_assoc → B5,append_nil → E0,cons_append → B4,drop_drop → E5,drop_eq_getElem_cons → G4,drop_take → J7,ext_getElem → J4,foldl_append → I4,foldl_cons → G6,getD_eq_getElem?_getD → D7,getElem?_eq_getElem → A7,getElem?_map → E6,getElem?_take → I1,getElem_map → I7,getElem_mem → C1,getElem_of_mem → E2,get_eq_getElem → H9,length_append → B3,length_cons → C8,length_drop → F3,length_map → A8,length_nil → D5,length_singleton → I6,length_take → D8,map_append → C6,map_cons → D3,map_map → I2,mem_append → B8,mem_append_left → C5,mem_append_right → D0,mem_cons → B7,mem_cons_of_mem → B2,mem_cons_self → B1,mem_filter → F6,mem_map → C0,mem_map_of_mem → G8,mem_of_getElem? → H8,mem_of_mem_take → F9,mem_range → G7,mem_singleton → B0,nil_append → B6,nodup_append → H3,nodup_cons → D9,nodup_nil → J1,pairwise_cons → D6,pairwise_iff_getElem → E1,size_toArray → J2,take_add_one → C9,take_append_drop → F0,take_length → G0,take_of_length_le → H5,take_take → I3
open List.Mem renaming head → J3,tail → J6
open List.Pairwise renaming nil → J8
open List.Perm renaming refl → I9
open Nat renaming add_mul → F4,eq_of_beq_eq_true → F8,le_of_ble_eq_true → D1,le_refl → B9,le_trans → H7,lt_or_ge → C7,min_eq_left → I5,mod_eq_of_lt → E3,mod_lt → G5,mul_le_mul_right → D2,zero_add → F2,zero_le → C3
open Option renaming getD_some → F7,map_some → E9
open Option.some renaming inj → A5,injEq → G1
namespace Go.Esp
theorem Znr{f g:Nat→Nat}(d:∀ i,f i<256)(j:∀ i,g i<256){n:Nat}(h:ofB n f<ofB n g):ofB (n+1) f<ofB (n+1) g:=by
 have:=d n;simp only[ofB];omega
theorem Ap{f g:Nat→Nat}(j:∀ i,f i<256)(d:∀ i,g i<256){m:Nat}(h:ofB m f<ofB m g):∀ n,ofB (m+n) f<ofB (m+n) g
 | 0=>h
 | n+1=>Znr j d (Ap j d h n)
theorem Zhf{a b:Plc}{k:Nat}(hk:k<20)(h:∀ j,j<k→idB a j=idB b j)(d:idB a k<idB b k):a.toNat<b.toNat:=by
 rw[← Pc a,← Pc b];have h1:ofB (k+1) (idB a)<ofB (k+1) (idB b):=by
  simp only[ofB,Oe h];omega
 have:=Ap (Qg a) (Qg b) h1 (20-(k+1));grind
theorem Zte{a b:Plc}{k:Nat}(hk:k<20)(h:∀ j,j<k→idB a j=idB b j)(hne:¬idB a k=idB b k):a.toNat<b.toNat↔idB a k<idB b k:=by
 constructor
 ·intro d;rcases C7 (idB a k) (idB b k)with h1|h1
  ·exact h1
  have:=Zhf hk (fun j hj=>(h j hj).symm) (show idB b k<idB a k by omega);omega
 exact Zhf hk h
theorem Zwj{a b:Plc}(h:∀ j,j<20→idB a j=idB b j):a=b:=by
 apply J5;rw[← Pc a,← Pc b];exact Oe h
def TE(x:Plc):ByteArray:=⟨((List.range 20).map fun i=>(idB x i).toUInt8).toArray⟩
theorem Ok(x:Plc):(TE x).size=20:=by simp[TE,ByteArray.size]
theorem Sv(x:Plc){i:Nat}(h:i<20):(TE x)[i]! = (idB x i).toUInt8:=by
 have hs:i<(TE x).size:=by rw[Ok];exact h
 rw[getElem!_pos (TE x) i hs];show(((List.range 20).map fun i=>(idB x i).toUInt8).toArray)[i]'zL=_;simp
theorem Zqr{m n:Nat}(hm:m<256)(d:n<256):m.toUInt8=n.toUInt8↔m=n:=by
 constructor
 ·intro h;have:=A9 UInt8.toNat h;simp only[UInt8.toNat_ofNat']at this;omega
 grind
theorem Zyz{m n:Nat}(hm:m<256)(d:n<256):m.toUInt8<n.toUInt8↔m<n:=by
 rw[UInt8.lt_iff_toNat_lt];simp only[UInt8.toNat_ofNat'];omega
def Zvv(a b:Plc):Int:=if a.toNat<b.toNat then -1 else if a=b then 0 else 1
theorem Zjw(a b:Plc):Extern.BytealgCompare.cmp (TE a) (TE b)=Zvv a b:=by
 unfold Extern.BytealgCompare.cmp Zvv;rw[Ok,Ok,Nat.min_self];cases hf:(List.range 20).find? fun i=>(TE a)[i]! != (TE b)[i]! with
 | none =>
  have h:=List.find?_eq_none.1 hf;have e:a=b:=Zwj fun j hj=>by
   have:=h j (G7.2 hj);rw[Sv a hj,Sv b hj]at this;exact(Zqr (Qg _ _) (Qg _ _)).1 (by simpa using this)
  subst e;simp
 | some i =>
  have h1:=List.find?_some hf;have hi:i<20:=G7.1 (List.mem_of_find?_eq_some hf);have h2:∀ j,j<i→idB a j=idB b j:=by
   intro j hj;have d:j<20:=by omega
   rw[List.find?_range_eq_some]at hf;have:=hf.2.2 j hj;rw[Sv a d,Sv b d]at this;exact(Zqr (Qg _ _) (Qg _ _)).1 (by simpa using this)
  rw[Sv a hi,Sv b hi]at h1;have hne:¬idB a i=idB b i:=fun e=>by rw[e]at h1;simp at h1
  have v:=Zte hi h2 hne;simp only[Sv a hi,Sv b hi,Zyz (Qg a i) (Qg b i)];have g:a≠b:=fun e=>hne zV;simp only[v,g,if_false]
section
variable {P:Program} {M:Mem} {H:Hp}
theorem Pv{x:Plc}{w:World}{b:Nat}{T:TypeId}(hb:w.heap[b]?=some (Yp [ZU x] T)):∀(n k:Nat) (acc:ByteArray),k+n=20→acc.data.toList=(List.range k).map (fun i=>(idB x i).toUInt8) →
 (Extern.Bytes.loadBytes ⟨b,k,none⟩ n acc).run P w=.ok (TE x) w
 | 0,k,acc,hk,ha=>by
  have:acc=TE x:=by
   apply ByteArray.ext;apply Array.ext';rw[ha];simp[TE,show k=20 by omega]
  subst this;rfl
 | n+1,k,acc,hk,ha=>by
  have d:k<20:=by omega
  have g:w.cell? ⟨b,k,none⟩=some (.int .u8 (idB x k)):=by
   rw[Qn hb];have:=Zwt (x:=x) d;simpa using this
  unfold Extern.Bytes.loadBytes;rw[Sem.run_bind,run_load,g];show(Sem.run P _ w)=_;have:=Pv hb n (k+1) (acc.push (idB x k).toUInt8) jD (by simp[ByteArray.push,ha,List.range_succ]);simpa[Addr.add_lit]using this
theorem CD{a b:Plc}{g d:Nat}{T U:TypeId}{w:World}(ha:w.heap[g]?=some (Yp [ZU a] T))(hb:w.heap[d]?=some (Yp [ZU b] U)):
 (Extern.BytealgCompare.compare #[.slice (some ⟨g,0,none⟩) 20 20,.slice (some ⟨d,0,none⟩) 20 20]).run P w=.ok (.int .i64 (Zvv a b)) w:=by
 have h1:(Extern.Bytes.bytesOf (.slice (some ⟨g,0,none⟩) 20 20)).run P w=.ok (TE a) w:=Pv ha 20 0 .empty rfl zH;have h2:(Extern.Bytes.bytesOf (.slice (some ⟨d,0,none⟩) 20 20)).run P w=.ok (TE b) w:=Pv hb 20 0 .empty rfl zH;show(do let u ← Extern.Bytes.bytesOf (.slice (some ⟨g,0,none⟩) 20 20);let v ← Extern.Bytes.bytesOf (.slice (some ⟨d,0,none⟩) 20 20);pure (goInt (Extern.BytealgCompare.cmp u v)):Sem Value).run P w=_;rw[ZY h1,ZY h2,Zjw];rfl
end
end Go.Esp
namespace Go.Esp
theorem HO{sz:Nat}{rows:List Segs}(h:lens sz rows):(ZV rows).length=rows.length * sz:=YU h
theorem lens.take{sz:Nat}{rows:List Segs}(h:lens sz rows)(k:Nat):lens sz (rows.take k):=fun r d=>h r (F9 d)
theorem lens.drop{sz:Nat}{rows:List Segs}(h:lens sz rows)(k:Nat):lens sz (rows.drop k):=fun r d=>h r (List.mem_of_mem_drop d)
theorem Sj{sz:Nat}{rows:List Segs}(h:lens sz rows){k:Nat}(hk:k≤rows.length):ZV (rows.take k)=(ZV rows).take (k * sz):=by
 have e:ZV rows=ZV (rows.take k)++ZV (rows.drop k):=by rw[← XJ,F0]
 have d:(ZV (rows.take k)).length=k * sz:=by rw[YU (h.take k)];simp[hk]
 grind
theorem Ni{sz:Nat}{rows:List Segs}(h:lens sz rows){k:Nat}(hk:k≤rows.length):ZV (rows.drop k)=(ZV rows).drop (k * sz):=by
 have e:ZV rows=ZV (rows.take k)++ZV (rows.drop k):=by rw[← XJ,F0]
 have d:(ZV (rows.take k)).length=k * sz:=by rw[YU (h.take k)];simp[hk]
 grind
theorem SlM.take{M:Mem}{a:Option Addr}{rows:List Segs}{sz:Nat}(h:SlM M a rows sz){k:Nat}(hk:k≤rows.length):SlM M a (rows.take k) sz:=by
 refine⟨h.lens.take k,fun d=>?_⟩;obtain⟨b,off,c,T,g,h1,h2,h3⟩:=h.there (fun e=>d (by rw[e];simp));refine⟨b,off,c,T,g,h1,h2,?_⟩;rw[Sj h.lens hk,← h3,I3,D8,I5 hk];simp_all
def Iw(a:Option Addr)(c k sz:Nat):Option Addr:=if c=k then a else a.map (·.add (k * sz))
theorem SlM.drop{M:Mem}{a:Option Addr}{rows:List Segs}{sz c:Nat}(h:SlM M a rows sz){k:Nat}(hk:k≤rows.length)(y:rows.length≤c):SlM M (Iw a c k sz) (rows.drop k) sz:=by
 refine⟨h.lens.drop k,fun g=>?_⟩;obtain⟨b,off,x,T,v,h1,h2,h3⟩:=h.there (fun e=>g (by rw[e];simp));have j:k<rows.length:=by
  rcases C7 k rows.length with d|d
  ·exact d
  exact(g (List.drop_eq_nil_of_le d)).elim
 refine⟨b,off+k * sz,x,T,v,?_,h2,?_⟩
 ·unfold Iw;rw[A4 jD,h1];simp[Addr.add_lit]
 rw[Ni h.lens hk,← h3,J7,E5,F3,Nat.sub_mul]
theorem VN{r:Segs}(h:flat r):∀ u∈ZV [r],u.oneCell'=true:=fun u hu=>by
 simp only[ZV,E0]at hu;exact h u hu
theorem Addr.add_zero'(a:Addr):a.add 0=a:=by unfold Addr.add;simp
theorem Nt{α:Type}{a:Option Addr}{sz c k:Nat}{l:List α}(hk:k≤l.length):WK a sz 0 k c=Sl.val ⟨a,c,l.take k⟩:=by
 unfold WK;simp only[Sl.val,D8,I5 hk];split
 ·rfl
 cases a with
 | none=>rfl
 | some x=>simp[Addr.add_zero']
theorem Nu{α:Type}{a:Option Addr}{sz c k:Nat}{l:List α}:WK a sz k l.length c=Sl.val ⟨Iw a c k sz,c-k,l.drop k⟩:=by
 unfold WK Iw;simp only[Sl.val,F3]
theorem SlK.take{α:Type}{M:Mem}{f:α→Segs}{sz:Nat}{a:Option Addr}{c:Nat}{l:List α}(h:SlK M f sz ⟨a,c,l⟩)(k:Nat)(hk:k≤l.length):SlK M f sz ⟨a,c,l.take k⟩:=by
 have h2:=h.h2;have h3:=h.h3;refine⟨?_,?_,?_⟩
 ·simp only[List.map_take];exact h.h1.take (by simpa using hk)
 ·grind
 grind
theorem SlK.drop{α:Type}{M:Mem}{f:α→Segs}{sz:Nat}{a:Option Addr}{c:Nat}{l:List α}(h:SlK M f sz ⟨a,c,l⟩)(k:Nat)(hk:k≤l.length):SlK M f sz ⟨Iw a c k sz,c-k,l.drop k⟩:=by
 have h2:=h.h2;have h3:=h.h3;refine⟨?_,?_,?_⟩
 ·simp only[List.map_drop];exact h.h1.drop (by simpa using hk) (by simpa using h3)
 ·grind
 grind
theorem OSl.caps{T sz l c:Nat}{a:Option Addr}{hs:Hp}{rows:List Segs}(h:OSl T sz (.slice a l c) hs rows):rows.length≤c∧c≤maxLen∧l=rows.length:=by
 generalize hv:Value.slice a l c=v at h;cases h with
 | nil=>cases hv;exact⟨B9 _,C3 _,rfl⟩
 | own b c' _ cur g1 g2 g3 g4 g5=>cases hv;exact⟨g2,g3,rfl⟩
theorem OSl.noneAll{α:Type}{T sz c:Nat}{f:α→Segs}{l:List α}{hs:Hp}(h:OSl T sz (.slice none l.length c) hs (l.map f)):l=[]∧c=0∧hs=[]:=by
 generalize hv:Value.slice none l.length c=v at h;generalize hr:l.map f=r at h;cases h with
 | nil=>simp only[Value.slice.injEq]at hv;exact⟨List.map_eq_nil_iff.1 hr,hv.2.2,rfl⟩
 | own=>simp at hv
theorem OSl.someAll{T sz l c:Nat}{d:Addr}{hs:Hp}{rows:List Segs}(h:OSl T sz (.slice (some d) l c) hs rows):∃ b,d=⟨b,0,none⟩:=by
 generalize hv:Value.slice (some d) l c=v at h;cases h with
 | nil=>simp at hv
 | own b=>simp only[Value.slice.injEq,G1]at hv;exact⟨b,hv.1⟩
theorem OSl.freezeK{α:Type}{T sz:Nat}{v:Value}{hs:Hp}{f:α→Segs}{l:List α}{M:Mem}{H:Hp}(d:OSl T sz v hs (l.map f)){w:World}(hw:St M (hs++H) w):∃(M':Mem) (s:Sl α),M.le M'∧St M' H w∧v=s.val∧s.l=l∧SlK M' f sz s:=by
 obtain⟨M',a,c,h1,h2,h3,g⟩:=d.freeze hw;rw[h3]at d;obtain⟨g1,g2,_⟩:=d.caps;simp only[A8]at g1;exact⟨M',⟨a,c,l⟩,h1,h2,by rw[h3];simp[Sl.val],rfl,g,by simp only;omega,g1⟩
end Go.Esp
namespace Go.Esp
section
variable {P:Program} {n:Sh} {ops:Array Oper} {Q:Exit→Act→World→Prop} {rest:List Nat} {M M':Mem} {H H' H0:Hp} {e:Env} {J S:World→Prop} {A:As} {i:Nat}
  {dst:Option Tmp} {d:Tmp} {op:Op} {ty:TypeId} {pos:String} {af:Array Edge} {gd:Option (Nat×Bool)}
theorem Rf{α:Type}{f:α→Segs}(d:∀ x,flat (f x)):∀(l:List α),∀ u∈ZV (l.map f),u.oneCell'=true
 | [],u,hu=>by cases hu
 | x::l,u,hu=>by
  rcases B8.1 (show u∈Segs.cells (f x)++ZV (l.map f)from hu)with hu|hu
  ·exact d x u hu
  exact Rf d l u hu
theorem SlM.none_nil{α:Type}{f:α→Segs}{sz:Nat}{l:List α}(h:SlM M Option.none (l.map f) sz):l=[]:=by
 cases l with
 | nil=>rfl
 | cons x l=>obtain⟨b,off,c,T,d,h1,_⟩:=h.there jQ;cases h1
theorem SlM.src{d:Addr}{rows:List Segs}{sz l c:Nat}(h:SlM M (some d) rows sz)(h1:∀ u∈ZV rows,u.oneCell'=true)(g:l=rows.length):Src M H sz (.slice (some d) l c) rows:=by
 subst g;refine⟨h.lens,h1,d,c,rfl,fun w hw j u hu=>?_⟩;obtain⟨b,off,x,T,y,v,h2,h3⟩:=h.there (fun e=>by rw[e]at hu;simp[ZV]at hu);cases v;rw[Addr.add_lit,Qn (hw.mem _ _ h2)];grind
theorem GQ{t E sz j:Nat}{x y:Operand}{a:Option Addr}{l c c':Nat}{g:Array TypeId}(hi:ops[i]?=some ⟨some d,.call ⟨.builtin .append,#[x,y],g⟩,ty,pos,af,gd⟩)(O:want ops e gd=some true)
 (hx:ev e x=some (.slice a l c)) (L:ev e y=some (.slice Option.none 0 c')) (D:g=#[t,t]) (ht:Na P t=some (E,sz,j)) (B:l≤c) (K:Nat.ble (d+1) n.sz=true)
 (hk:XD P n ops Q rest (St M H) ⟨M,H⟩ ((d,.slice a l c)::e)) (v:n.wrs.contains i=false:=by rfl):XD P n ops Q (i::rest) J ⟨M,H⟩ e:=by
 subst D;refine SK hi rfl O (fun a' w ha hw=>?_) v;obtain⟨it,hu,C,rfl,rfl⟩:=Wq ht;have F:(Builtin.append_ #[t,t] ty #[.slice a l c,.slice Option.none 0 c']).run P w=.ok (.slice a l c) w:=by
  cases a <;> simp[Builtin.append_,run_underlying hu,sizeOf,typeInfo,C,Builtin.lenOf,Builtin.firstCells,B,storeCells]
 unfold Oper.does;have:(execOp a'.eval ⟨some d,.call ⟨.builtin .append,#[x,y],#[t,t]⟩,ty,pos,af,gd⟩).run P w=.ok (.value (.slice a l c)) w:=by
  simp only[execOp,resolve];have:#[x,y].map a'.eval=#[.slice a l c,.slice Option.none 0 c']:=by simp[ha.ev hx,ha.ev L]
  rw[this];exact Wz F
 rw[this];exact⟨⟨M,H⟩,_,hw,ha.put K _,hk⟩
theorem IN{z:Array Value}{zr:Segs}(d:z.toList=Segs.cells zr)(v:0<z.size):∀(n:Nat),(madeCells z (n * z.size)).toList=ZV (List.replicate n zr)
 | 0=>by simp[madeCells,ZV]
 | n+1=>by
  have g:=IN d v n;rw[List.replicate_succ',XJ,← g];simp only[madeCells,Array.toList_map,Array.toList_range,ZV,E0,F4,Nat.one_mul]at *;rw[List.range_add,C6];congr 1;rw[← d,I2];apply J4
  ·simp
  intro j h1 h2;simp only[A8,List.length_range]at h1;simp only[I7,List.getElem_range,Function.comp,Nat.mul_add_mod_self_right];rw[E3 h1,getElem!_pos z j h1];simp
theorem QI{t E sz D k:Nat}{z:Value}{zr:Segs}{x y:Operand}(hi:ops[i]?=some ⟨some d,.makeSlice t x y,ty,pos,af,gd⟩)(hg:want ops e gd=some true)
 (hx:ev e x=some (.int .i64 (k:Int))) (V:ev e y=some (.int .i64 (k:Int))) (ht:Na P t=some (E,sz,D)) (hz:XP P E=some z) (F:z.cells.toList=Segs.cells zr) (C:z.cells.size=sz) (O:Nat.ble 1 sz=true)
 (R:k * sz≤16777216) (ab:D * k≤281474976710656) (hd:Nat.ble (d+1) n.sz=true)
 (hk:∀(b:Nat) hs',OSl E sz (.slice (some ⟨b,0,Option.none⟩) k k) hs' (List.replicate k zr)→XD P n ops Q rest J ⟨M,hs'++H⟩ ((d,.slice (some ⟨b,0,Option.none⟩) k k)::e)):XD P n ops Q (i::rest) J ⟨M,H⟩ e:=by
 obtain⟨it,hu,B,rfl,rfl⟩:=Wq ht;have U:it.zero=some z:=by simpa[XP,B]using hz
 have j:1≤it.size:=D1 O;have aa:k≤k * it.size:=Nat.le_mul_of_pos_right k j;have L:(it.bytes:Int) * (k:Int)≤281474976710656:=by
  have h9:((it.bytes * k:Nat):Int)≤281474976710656:=by omega
  simpa using h9
 have hlen:Segs.len zr=it.size:=by rw[← C,← Segs.cells_length,← F];simp
 have Z:∀ b,OSl E it.size (.slice (some ⟨b,0,Option.none⟩) k k) [(b,.cells (madeCells z.cells (k * it.size)) E (0,0))] (List.replicate k zr):=fun b=>by
  have v:lens it.size (List.replicate k zr):=fun r K=>by rw[List.eq_of_mem_replicate K];exact hlen
  have hm:=IN F jD k;rw[C]at hm;have:=OSl.own (T:=E) (sz:=it.size) b k (List.replicate k zr) (madeCells z.cells (k * it.size)) v jQ zZ (by simp[madeCells]) (by
   rw[hm,← YU v];exact G0)
  simpa using this
 refine Zag (x:=.cells (madeCells z.cells (k * it.size)) E (0,0)) (g:=fun b=>.slice (some ⟨b,0,Option.none⟩) k k) hi rfl hg (fun a ha w=>?_) (e':=fun b=>(d,.slice (some ⟨b,0,Option.none⟩) k k)::e) (fun a b ha=>ha.put hd _) (fun b=>hk b _ (Z b));have K:=run_makeSlice (P:=P) (w:=w) t E it z hu B U .i64 .i64 (k:Int) (k:Int) jD jD (by simpa using R) L jD;simp only[execOp,ha.ev hx,ha.ev V];exact Wz K
theorem KM{T sz b c k:Nat}{rows news:List Segs}{cur:Array Value}(h1:lens sz rows)(h2:lens sz news)(h3:rows.length≤c)(j:c≤maxLen)(B:cur.size=c * sz)(y:cur.toList.take (rows.length * sz)=ZV rows)(hk:k+news.length≤rows.length):
 OSl T sz (.slice (some ⟨b,0,Option.none⟩) rows.length c) [(b,.cells (cur.toList.take (k * sz)++ZV news++cur.toList.drop (k * sz+(ZV news).length)).toArray T (0,0))] (rows.take k++news++rows.drop (k+news.length)):=by
 have d:(ZV news).length=news.length * sz:=YU h2;have hle:k * sz+news.length * sz≤rows.length * sz:=by rw[← F4];exact D2 _ hk
 have v:rows.length * sz≤c * sz:=D2 _ h3;have hlen:(rows.take k++news++rows.drop (k+news.length)).length=rows.length:=by simp;omega
 have g:lens sz (rows.take k++news++rows.drop (k+news.length)):=((h1.take k).append h2).append (h1.drop _);have:=OSl.own (T:=T) (sz:=sz) b c (rows.take k++news++rows.drop (k+news.length)) (cur.toList.take (k * sz)++ZV news++cur.toList.drop (k * sz+(ZV news).length)).toArray g jD j (by
  simp only[J2,B3,D8,F3,H6];omega) (by
  rw[hlen];rw[XJ,XJ,Sj h1 jD,Ni h1 hk,← y,d,I3,I5 jD,J7];rw[List.take_append,H5 (by simp only[B3,D8];omega)];simp only[B3,D8,H6,d];rw[I5 jD,F4])
 grind
theorem Tw{t:TypeId}{x y:Operand}{b j sz c m l:Nat}{agg:Bool}{T:TypeId}{q:Segs}{v:Value}{hs:Hp}{rows:List Segs}(hi:ops[i]?=some ⟨Option.none,.store t x y,ty,pos,af,gd⟩)(hg:want ops e gd=some true)
 (hx:ev e x=some (Zme (some ⟨b,0,Option.none⟩) j sz 0)) (hy:ev e y=some v) (hp:Parts v q) (hq:flat q) (hl:lay P t=some (agg,m)) (L:Segs.len q=m) (F:m=sz) (ho:OSl T sz (.slice (some ⟨b,0,Option.none⟩) l c) hs rows) (hH:Rem hs H H0) (hj:j<rows.length)
 (hk:∀ hs',OSl T sz (.slice (some ⟨b,0,Option.none⟩) rows.length c) hs' (rows.set j q)→XD P n ops Q rest (St M (hs'++H0)) ⟨M,hs'++H0⟩ e) (D:n.wrs.contains i=false:=by rfl):XD P n ops Q (i::rest) J ⟨M,H⟩ e:=by
 subst F;refine SK hi rfl hg (fun a w ha hw=>?_) D;obtain⟨dd,it,hd,U,K,ad⟩:=OH hl;obtain⟨cur,rfl,rfl,R,d,V,Z,B⟩:=ho.inv;have C:=hw.perm hH.perm;have hb:=C.own b _ (C5 _ (.head _));have aa:lens m [q]:=fun r O=>by rw[B0.1 O];exact L
 have ae:j * m+m≤rows.length * m:=by have:=D2 m (show j+1≤rows.length from hj);rwa [F4,Nat.one_mul]at this
 have ag:rows.length * m≤c * m:=D2 _ d;have ab:(Segs.cells q).length=m:=by rw[Segs.cells_length,L]
 have h2:=run_storeCells_at P b (j * m) T (Segs.cells q) 0 cur w hb jD hq;have g:=KM (T:=T) (b:=b) (k:=j) R aa d V Z B jU;have er:rows.take j++[q]++rows.drop (j+[q].length)=rows.set j q:=by
  rw[List.set_eq_take_append_cons_drop,A6 hj];simp
 rw[er]at g;simp only[ZV,E0]at g;have O:(Instr.storeAt t (.pointer (some ⟨b,0+(j * m+0),Option.none⟩)) v).run P w=.ok () (w.setRow b (cur.toList.take (j * m)++Segs.cells q++cur.toList.drop (j * m+(Segs.cells q).length)).toArray):=by
  unfold Instr.storeAt;rw[Sem.run_bind];show(Result.ok _ w).andThen _=_;rw[Result.andThen_ok];unfold storeVar;rw[Sem.run_bind,Th U,Result.andThen_ok];have hs:v.cells.size=it.size:=by rw[hp.cells,K];simp[Segs.cells_length,L]
  simp only[hs];rw[hp.cells,F2,Nat.add_zero];simpa using h2
 unfold Oper.does;rw[Ru]at hx;have:(execOp a.eval ⟨Option.none,.store t x y,ty,pos,af,gd⟩).run P w=.ok .skip (w.setRow b (cur.toList.take (j * m)++Segs.cells q++cur.toList.drop (j * m+(Segs.cells q).length)).toArray):=by
  simp only[execOp,ha.ev hx,ha.ev hy];rw[ZY O];rfl
 rw[this];refine⟨⟨M,_⟩,e,?_,ha,hk _ g⟩;exact C.upd .head (setRow_heap w b cur _ T _ hb) (fun c hc x hx=>by rw[setRow_other w b c _ hc];exact hx) (SameIO.refl _)
theorem Zlc{t t' E sz aj:Nat}{x y:Operand}{u:Value}{b k K c' m c l off:Nat}{hs:Hp}{rows news:List Segs}{Z:Array TypeId}(hi:ops[i]?=some ⟨some d,.call ⟨.builtin .copy,#[x,y],Z⟩,ty,pos,af,gd⟩)(hg:want ops e gd=some true)
 (hx:ev e x=some (.slice (some ⟨b,off,Option.none⟩) K c')) (hy:ev e y=some u) (ag:Z=#[t,t']) (ht:Na P t=some (E,sz,aj)) (L:off=k * sz) (ar:k+K≤rows.length) (ho:OSl E sz (.slice (some ⟨b,0,Option.none⟩) l c) hs rows) (hH:Rem hs H H0)
 (O:Src M H sz u news) (hm:m=min news.length K) (hd:Nat.ble (d+1) n.sz=true)
 (hk:∀ hs',OSl E sz (.slice (some ⟨b,0,Option.none⟩) rows.length c) hs' (rows.take k++news.take m++rows.drop (k+m))→XD P n ops Q rest (St M (hs'++H0)) ⟨M,hs'++H0⟩ ((d,.int .i64 (m:Int))::e)) (ae:n.wrs.contains i=false:=by rfl):XD P n ops Q (i::rest) J ⟨M,H⟩ e:=by
 subst ag L;refine SK hi rfl hg (fun a w ha hw=>?_) ae;obtain⟨it,hu,ah,rfl,rfl⟩:=Wq ht;obtain⟨F,h1,ad,c2,rfl,ao⟩:=O;obtain⟨cur,rfl,rfl,al,C,an,ai,D⟩:=ho.inv;have U:=hw.perm hH.perm;have hb:=U.own b _ (C5 _ (.head _));have V:(news.take m).length=m:=by simp;omega
 have aa:lens it.size (news.take m):=F.take m;have ak:(ZV (news.take m)).length=m * it.size:=by rw[YU aa,V]
 have hle:k * it.size+m * it.size≤rows.length * it.size:=by rw[← F4];exact D2 _ jD
 have aq:rows.length * it.size≤c * it.size:=D2 _ C;have R:∀ v∈ZV (news.take m),v.oneCell'=true:=fun v hv=>h1 v (by rw[Sj F jD]at hv;exact F9 hv);have g:=run_loadCells_list (P:=P) w ad (ZV (news.take m)) (fun j v hj=>ao w hw j v (by
  rw[Sj F jD,I1]at hj;split at hj
  ·exact hj
  cases hj))
 have B:=run_storeCells_at P b (k * it.size) E (ZV (news.take m)) 0 cur w hb jD R;have ab:=KM (T:=E) (b:=b) (k:=k) (news:=news.take m) al aa C an ai D jD;rw[V]at ab;rw[ak]at g;have hr:(Builtin.copy_ #[t,t'] ty #[.slice (some ⟨b,k * it.size,Option.none⟩) K c',.slice (some ad) news.length c2]).run P w=.ok (goInt m) (w.setRow b (cur.toList.take (k * it.size)++ZV (news.take m)++cur.toList.drop (k * it.size+(ZV (news.take m)).length)).toArray):=by
  have e9:Nat.min news.length K=m:=hm.symm;simp[Builtin.copy_,run_underlying hu,Builtin.lenOf,Builtin.firstCells,sizeOf,typeInfo,ah,e9,g];have h5:=B;simp only[B5]at h5;rw[h5];rfl
 unfold Oper.does;have:(execOp a.eval ⟨some d,.call ⟨.builtin .copy,#[x,y],#[t,t']⟩,ty,pos,af,gd⟩).run P w=.ok (.value (.int .i64 (m:Int))) (w.setRow b (cur.toList.take (k * it.size)++ZV (news.take m)++cur.toList.drop (k * it.size+(ZV (news.take m)).length)).toArray):=by
  simp only[execOp,resolve];have e1:#[x,y].map a.eval=#[.slice (some ⟨b,k * it.size,Option.none⟩) K c',.slice (some ad) news.length c2]:=by simp[ha.ev hx,ha.ev hy]
  rw[e1];show(Result.ok _ w).andThen _=_;exact Wz hr
 rw[this];refine⟨⟨M,_⟩,_,?_,ha.put hd _,hk _ ab⟩;exact U.upd .head (setRow_heap w b cur _ E _ hb) (fun c hc x hx=>by rw[setRow_other w b c _ hc];exact hx) (SameIO.refl _)
theorem Zlh(d:H.Perm H')(h:XD P n ops Q rest (St M H') ⟨M,H'⟩ e):XD P n ops Q rest (St M H) ⟨M,H⟩ e:=by
 have j:St M H=St M H':=funext fun w=>propext ⟨fun h=>h.perm0 d,fun h=>h.perm0 d.symm⟩;intro g a ha;have:=h (fun u hu=>hu) a ha;rw[j];exact WD.perm (A:=⟨M,H'⟩) (A':=⟨M,H⟩) rfl d.symm this
theorem Zlf{α:Type}{f:α→Segs}{xs:List α}{t E sz j m c':Nat}{z:Value}{x y:Operand}{v:Value}{a:Option Addr}{hs:Hp}{rows:List Segs}{D:Array TypeId}(hi:ops[i]?=some ⟨some d,.call ⟨.builtin .append,#[x,y],D⟩,ty,pos,af,gd⟩)(Z:want ops e gd=some true)
 (hx:ev e x=some v) (V:ev e y=some (.slice a xs.length c')) (C:D=#[t,t]) (ht:Na P t=some (E,sz,j)) (hz:XP P E=some z) (R:z.cells.size=sz) (O:Nat.ble 1 sz=true) (F:OSl E sz v hs rows) (hH:Rem hs H H0)
 (g:SlM M a (xs.map f) sz) (hf:∀ x,flat (f x)) (hm:rows.length+xs.length≤m) (L:Nat.ble (m * (j+1)) 140737488355328=true) (U:Nat.ble (d+1) n.sz=true)
 (hk:∀ T hs',OSl E sz T hs' (rows++xs.map f)→XD P n ops Q rest (St M (hs'++H0)) ⟨M,hs'++H0⟩ ((d,T)::e)) (B:n.wrs.contains i=false:=by rfl):XD P n ops Q (i::rest) J ⟨M,H⟩ e:=by
 cases a with
 | some ad=>exact Vc hi Z hx V C ht hz R O F hH (SlM.src g (Rf hf _) (A8 ..).symm) (by simpa using hm) L U hk B
 | none =>
  have hl:=g.none_nil;subst hl;obtain⟨a1,c1,rfl⟩:=F.val;obtain⟨g1,_,_⟩:=F.caps;have K:=hk _ _ (by simpa using F);exact GQ hi Z hx V C ht g1 U (Zlh hH.perm K) B
theorem OSl.valAt{T sz n:Nat}{v:Value}{hs:Hp}{rows:List Segs}(h:OSl T sz v hs rows)(d:rows.length=n):∃ a c,v=.slice a n c:=by
 obtain⟨a,c,h1⟩:=h.val;grind
theorem OSl.aZ{T sz l d c:Nat}{a:Option Addr}{hs:Hp}{rows:List Segs}(h:OSl T sz (.slice a l c) hs rows)(g:d=rows.length):OSl T sz (.slice a d c) hs rows:=by
 obtain⟨_,_,e⟩:=h.caps;grind
theorem OSl.srcAll{T sz b l c:Nat}{hs:Hp}{rows:List Segs}(h:OSl T sz (.slice (some ⟨b,0,Option.none⟩) l c) hs rows)(hH:Rem hs H H0)(h1:∀ u∈ZV rows,u.oneCell'=true):Src M H sz (.slice (some ⟨b,0,Option.none⟩) l c) rows:=by
 obtain⟨_,_,e⟩:=h.caps;subst e;have:=OSl.src (M:=M) (k:=0) (c':=c) h hH h1;grind
theorem CJ{N:Segs}(h:flat N):∀(k:Nat),∀ u∈ZV (List.replicate k N),u.oneCell'=true
 | 0,u,hu=>by cases hu
 | k+1,u,hu=>by
  rcases B8.1 (show u∈Segs.cells N++ZV (List.replicate k N)from hu)with hu|hu
  ·exact h u hu
  exact CJ h k u hu
theorem Zga{N Z:Segs}{n:Nat}(h:1≤n):(List.replicate n Z).take 0++[N].take (min [N].length n)++(List.replicate n Z).drop (0+min [N].length n)=List.replicate 1 N++List.replicate (n-1) Z:=by
 grind
theorem Af{N Z:Segs}{n k:Nat}:(List.replicate k N++List.replicate (n-k) Z).take k=List.replicate k N:=by
 simp
theorem Zng{N Z:Segs}{n k m:Nat}(hk:k≤n)(hm:m≤k)(d:m≤n-k):(List.replicate k N++List.replicate (n-k) Z).take k++(List.replicate k N).take m++(List.replicate k N++List.replicate (n-k) Z).drop (k+m)=List.replicate (k+m) N++List.replicate (n-(k+m)) Z:=by
 rw[Af,List.take_replicate,I5 hm,List.drop_append,List.drop_of_length_le jQ,B6,List.drop_replicate,List.replicate_append_replicate];grind
theorem Zox{r:Segs}(h:flat r):(WX r).cells.all (fun u=>u.oneCell')=true:=by
 rw[Array.all_eq_true_iff_forall_mem];intro u hu;exact h u (by simpa[WX,Value.cells]using hu)
theorem OSl.someB{T sz l c:Nat}{a:Option Addr}{hs:Hp}{rows:List Segs}(h:OSl T sz (.slice a l c) hs rows)(d:0<l):∃ b,a=some ⟨b,0,Option.none⟩:=by
 generalize hv:Value.slice a l c=v at h;cases h with
 | nil=>cases hv;cases d
 | own b c' _ cur g1 g2 g3 g4 g5=>cases hv;exact⟨b,rfl⟩
theorem Zah{f:FuncId}{xs:List Operand}{C:Array TypeId}{vs:List Value}{Hin Hin2 H1 g:Hp}{R:Mem→Value→Hp→Prop}{j:Mem}{y:Hp}(hi:ops[i]?=some ⟨dst,.call ⟨.value (.func f),xs.toArray,C⟩,ty,pos,af,gd⟩)(V:want ops e gd=some true)
 (U:Ta P f=true) (hx:evs e xs=some vs) (L:Fh P f vs M (Hin++Hin2) R) (hH:Rem Hin H H1) (B:Rem Hin2 H1 g) (K:∀ v M' d w,M.le M'→R M' v d→St M' (d++g) w→St j y w)
 (O:∀ a v,Sat n e a→Sat n (NN dst v e) (a.put dst v))
 (hk:∀ v M' d,M.le M'→R M' v d→XD P n ops Q rest (St j y) ⟨M',d++g⟩ (NN dst v e)):XD P n ops Q (i::rest) (St j y) ⟨M,H⟩ e:=by
 obtain⟨fn,h1,h2,h3⟩:=Ub U;have T:H.Perm ((Hin++Hin2)++g):=(hH.perm.trans (B.perm.append_left Hin)).trans (B5 _ _ _ ▸ I9 _);refine Zai hi rfl V (fun _ a F w ha hw=>Rv h1 h2 h3 zB ?_);exact(L (F++g) w (hw.perm0 ((T.append_left F).trans (PV F (Hin++Hin2) g)))).mono fun e' Z ⟨v,M',d,he,hm,hs,D⟩=>⟨v,he,⟨M',d++g⟩,_,hs.perm0 (PV F d g).symm,fun u hu=>K v M' d u hm D hu,O a v ha,hk v M' d hm D⟩
end
end Go.Esp
namespace Go.Esp
section
variable {P:Program} {n:Sh} {ops:Array Oper} {Q:Exit→Act→World→Prop} {rest:List Nat} {M M':Mem} {H H' H0:Hp} {e:Env} {J S:World→Prop} {A:As} {i:Nat}
  {dst:Option Tmp} {d:Tmp} {op:Op} {ty:TypeId} {pos:String} {af:Array Edge} {gd:Option (Nat×Bool)}
theorem Zqm(h:K n Q .normal S e):K n (Exit.noGoto Q) .normal S e:=h
theorem X_min{x y:Operand}{p q r:Int}{g:Array TypeId}(hi:ops[i]?=some ⟨some d,.call ⟨.builtin .min,#[x,y],g⟩,ty,pos,af,gd⟩)(C:want ops e gd=some true)
 (hx:ev e x=some (.int .i64 p)) (B:ev e y=some (.int .i64 q)) (j:(if q<p then q else p)=r) (v:Nat.ble (d+1) n.sz=true) (hk:XD P n ops Q rest J A ((d,.int .i64 r)::e)):XD P n ops Q (i::rest) J A e :=
 UB hi rfl C (fun a' w ha _=>Xp (by
  subst j;simp only[execOp,resolve];simp[invoke,builtin,Builtin.min_,Builtin.min2,ha.ev hx,ha.ev B])) (fun a ha=>ha.put v _) hk
theorem X_cap_sl{t E sz j:Nat}{x:Operand}{a:Option Addr}{l c:Nat}{g:Array TypeId}(hi:ops[i]?=some ⟨some d,.call ⟨.builtin .cap,#[x],g⟩,ty,pos,af,gd⟩)(B:want ops e gd=some true)
 (hx:ev e x=some (.slice a l c)) (v:g[0]?=some t) (ht:Na P t=some (E,sz,j)) (y:Nat.ble (d+1) n.sz=true) (hk:XD P n ops Q rest J A ((d,.int .i64 (c:Int))::e)):XD P n ops Q (i::rest) J A e :=
 UB hi rfl B (fun a' w ha _=>Xp (by
  obtain⟨it,hu,_⟩:=Wq ht;simp only[execOp,resolve];simp[invoke,builtin,Builtin.cap_,ha.ev hx,v,run_underlying hu,goInt])) (fun a ha=>ha.put y _) hk
theorem Zle{t v E sz g k:Nat}{z:Value}{V:IntKind}{x y:Operand}(hi:ops[i]?=some ⟨some d,.call ⟨.builtin .append,#[x,y],#[t,v]⟩,ty,pos,af,gd⟩)(hg:want ops e gd=some true)
 (hx:ev e x=some (.slice none 0 0)) (hy:ev e y=some (.int .i64 (k:Int))) (ht:Na P t=some (E,sz,g)) (O:P.underlying v=some (.int V)) (hz:XP P E=some z) (ab:z.cells.size=sz) (D:Nat.ble 1 sz=true) (h0:0<k) (aa:k≤16777216) (Z:k * g≤140737488355328) (hd:Nat.ble (d+1) n.sz=true)
 (hk:∀(b c:Nat) hs',k≤c→OSl E sz (.slice (some ⟨b,0,none⟩) 0 c) hs' []→XD P n ops Q rest (St M (hs'++H)) ⟨M,hs'++H⟩ ((d,.slice (some ⟨b,0,none⟩) k c)::e)) (B:n.wrs.contains i=false:=by rfl):XD P n ops Q (i::rest) J ⟨M,H⟩ e:=by
 refine SK hi rfl hg (fun a w ha hw=>?_) B;obtain⟨it,hu,j,rfl,rfl⟩:=Wq ht;have C:it.zero=some z:=by simpa[XP,j]using hz
 have U:1≤it.size:=D1 D;have F:=Lib.run_append_nil_zeros (P:=P) w t v ty E it z .i64 V hu O j C k h0 jD jD jD;have R:=grownCap_ge w k 0 E;have L:grownCap w k 0 E≤maxLen:=grownCap_le_maxLen w k 0 E zZ;have K:St M H w.drew:=hw.heap rfl ⟨rfl,rfl,rfl,Nat.le_succ _⟩;have h2:=K.alloc (.cells (Builtin.zeroCells z.cells k++Builtin.zeroCells z.cells (grownCap w k 0 E-k)) E);have ho:OSl E it.size (.slice (some ⟨w.heap.size,0,none⟩) 0 (grownCap w k 0 E)) [(w.heap.size,.cells (Builtin.zeroCells z.cells k++Builtin.zeroCells z.cells (grownCap w k 0 E-k)) E (0,0))] []:=by
  refine OSl.own (T:=E) (sz:=it.size) w.heap.size (grownCap w k 0 E) [] _ (fun r F=>by cases F) (C3 _) L ?_ (by simp[ZV]);simp only[Array.size_append,size_zeroCells];rw[← F4];congr 1;omega
 unfold Oper.does;have:(execOp a.eval ⟨some d,.call ⟨.builtin .append,#[x,y],#[t,v]⟩,ty,pos,af,gd⟩).run P w=.ok (.value (.slice (some ⟨w.heap.size,0,none⟩) k (grownCap w k 0 E))) (w.drew.alloc (.cells (Builtin.zeroCells z.cells k++Builtin.zeroCells z.cells (grownCap w k 0 E-k)) E)):=by
  simp only[execOp,resolve];have e1:#[x,y].map a.eval=#[.slice none 0 0,.int .i64 (k:Int)]:=by simp[ha.ev hx,ha.ev hy]
  rw[e1];show(Result.ok _ w).andThen _=_;exact Wz F
 rw[this];exact⟨⟨M,_⟩,_,h2,ha.put hd _,hk _ _ _ R ho⟩
theorem Zys{α:Type}{c rest:Code}(pre:α→Env)(F:α→Prop){g:Env}(y:Pick e g)
 (h1:C P n c (Exit.then (fun a w=>∃ x,F x∧Sat n (pre x++g) a∧S w) Q) S e) (h2:∀ x,F x→C P n rest Q S (pre x++g)) :
 C P n c (Exit.then (rest.wpIn (Fr n.ro) 0 P Q) Q) S e:=by
 intro a w ha hw;refine wpIn_mono (h1 a w ha hw) fun x a' j hx=>?_;cases x with
 | normal =>
  obtain⟨x,v,hs,d⟩:=hx;exact h2 x v a' j hs d
 | _=>exact hx
theorem Zrv{α:Type}{g:World→Prop}{pre:α→Env}{F:α→Prop}{d j:Env}(x:α)(B:F x)(y:Pick j (pre x++d))(v:∀ w,g w→S w):
 K n (Exit.then (fun a w=>∃ x,F x∧Sat n (pre x++d) a∧S w) Q) .normal g j:=fun a w ha hw=>⟨x,B,ha.pick y,v w hw⟩
theorem Yak{x:Exit}{v d:Value}(k:Nat)(hk:get e k=some v)(g:v=d)(h:K n Q x S ((k,d)::e)):K n Q x S e:=fun a w ha hw=>h a w (ha.more (g ▸ hk)) hw
end
end Go.Esp
namespace Go.Esp
class FT (l:outParam (List (Nat×Nat×Nat))):Prop where
  h:(l.all fun x=>Zjb Go.Proofs.Tryz.prog x.1 x.2.1 == some x.2.2)=true
class LT (l:outParam (List (Nat×Bool×Nat))):Prop where
  h:(l.all fun x=>lay Go.Proofs.Tryz.prog x.1 == some x.2)=true
class ET (l:outParam (List (Nat×Nat×Nat×Nat))):Prop where
  h:(l.all fun x=>Na Go.Proofs.Tryz.prog x.1 == some x.2)=true
class OT (l:outParam (List Nat)):Prop where
  h:l.all (Ta Go.Proofs.Tryz.prog)=true
class ZR (t:Nat) (v:outParam Value):Prop where
  h:XP Go.Proofs.Tryz.prog t=some v
class BD (t:Nat) (z:outParam (List Segs)):Prop where
  h:Bld Go.Proofs.Tryz.prog t z
class AR (t:Nat) (x:outParam (Nat×Nat)):Prop where
  h:Zpq Go.Proofs.Tryz.prog t=some x
class FD (t f:Nat) (x:outParam (Nat×Nat)):Prop where
  h:fld Go.Proofs.Tryz.prog t f=some x
class UN (t:Nat) (d:outParam TypeDesc):Prop where
  h:Go.Proofs.Tryz.prog.underlying t=some d
def Zhc{α:Type}(t:Nat):List (Nat×α)→Option α
 | []=>none
 | (a,x)::l=>match Nat.beq a t with
  | true=>some x
  | false=>Zhc t l
def Zhb(t f:Nat):List (Nat×Nat×Nat)→Option Nat
 | []=>none
 | (a,b,x)::l=>match Nat.beq a t with
  | true=>match Nat.beq b f with
   | true=>some x
   | false=>Zhb t f l
  | false=>Zhb t f l
theorem Jf{α:Type}{t:Nat}{x:α}:∀{l:List (Nat×α)},Zhc t l=some x→(t,x)∈l
 | (a,y)::l,h=>by
  unfold Zhc at h;split at h
  ·rename_i e;obtain rfl:=F8 e;rw[A5 h];exact B1
  exact B2 _ (Jf h)
theorem Je{t f x:Nat}:∀{l:List (Nat×Nat×Nat)},Zhb t f l=some x→(t,f,x)∈l
 | (a,b,y)::l,h=>by
  unfold Zhb at h;split at h
  ·rename_i e;obtain rfl:=F8 e;split at h
   ·rename_i e;obtain rfl:=F8 e;rw[A5 h];exact B1
   exact B2 _ (Je h)
  exact B2 _ (Je h)
theorem foF{t f o:Nat}{l:List (Nat×Nat×Nat)}[i:FT l](h:Zhb t f l=some o:=by rfl):Zjb Go.Proofs.Tryz.prog t f=some o:=eq_of_beq (E7.1 i.h _ (Je h))
theorem laF{t:Nat}{x:Bool×Nat}{l:List (Nat×Bool×Nat)}[i:LT l](h:Zhc t l=some x:=by rfl):lay Go.Proofs.Tryz.prog t=some x:=eq_of_beq (E7.1 i.h _ (Jf h))
theorem elF{t:Nat}{x:Nat×Nat×Nat}{l:List (Nat×Nat×Nat×Nat)}[i:ET l](h:Zhc t l=some x:=by rfl):Na Go.Proofs.Tryz.prog t=some x:=eq_of_beq (E7.1 i.h _ (Jf h))
theorem okF{f:Nat}{l:List Nat}[i:OT l](h:f∈l:=by decide):Ta Go.Proofs.Tryz.prog f=true:=E7.1 i.h f h
section
variable {P:Program} {n:Sh} {ops:Array Oper} {Q:Exit→Act→World→Prop} {rest:List Nat} {M M':Mem} {H H' H0:Hp} {e:Env} {J S:World→Prop} {A:As} {i:Nat}
  {dst:Option Tmp} {d:Tmp} {op:Op} {ty:TypeId} {pos:String} {af:Array Edge} {gd:Option (Nat×Bool)}
theorem Vn{f:FuncId}{xs:List Operand}{g:Array TypeId}{vs:List Value}{R:Value→Prop}(j:Fs P f vs M R)(hk:∀ v,R v→XD P n ops Q rest J ⟨M,H⟩ ((d,v)::e))(hi:ops[i]?=some ⟨some d,.call ⟨.value (.func f),xs.toArray,g⟩,ty,pos,af,gd⟩:=by exact rfl)(C:want ops e gd=some true:=by exact rfl)(y:Ta P f=true:=by exact okF)(hx:evs e xs=some vs:=by exact rfl)(B:Nat.ble (d+1) n.sz=true:=by exact rfl):XD P n ops Q (i::rest) J ⟨M,H⟩ e :=
 Zur hi C y hx j B hk
theorem PH{f:FuncId}{xs:List Operand}{g:Array TypeId}{vs:List Value}{R:Mem→Value→Prop}(j:Fn P f vs M R)(hk:∀ v M',M.le M'→R M' v→XD P n ops Q rest J ⟨M',H⟩ ((d,v)::e))(hi:ops[i]?=some ⟨some d,.call ⟨.value (.func f),xs.toArray,g⟩,ty,pos,af,gd⟩:=by exact rfl)(C:want ops e gd=some true:=by exact rfl)(y:Ta P f=true:=by exact okF)(hx:evs e xs=some vs:=by exact rfl)(B:Nat.ble (d+1) n.sz=true:=by exact rfl):XD P n ops Q (i::rest) J ⟨M,H⟩ e :=
 Yaz hi C y hx j B hk
theorem PG{f:FuncId}{xs:List Operand}{d:Array TypeId}{vs:List Value}{Hin B:Hp}{R:Mem→Value→Prop}(g:Fo P f vs M Hin R)(hk:∀ v M',M.le M'→R M' v→XD P n ops Q rest J ⟨M',H⟩ (NN dst v e))(hi:ops[i]?=some ⟨dst,.call ⟨.value (.func f),xs.toArray,d⟩,ty,pos,af,gd⟩:=by exact rfl)(C:want ops e gd=some true:=by exact rfl)(y:Ta P f=true:=by exact okF)(hx:evs e xs=some vs:=by exact rfl)(hH:Rem Hin H B:=by repeat first|exact Rem.here _|exact Rem.two|apply Rem.skip|apply Rem.over)(j:∀ a v,Sat n e a→Sat n (NN dst v e) (a.put dst v):=by first|exact Oa|exact XK rfl):XD P n ops Q (i::rest) J ⟨M,H⟩ e :=
 Yay hi C y hx g hH j hk
theorem Xx{f:FuncId}{xs:List Operand}{j:Array TypeId}{vs:List Value}{Hin y:Hp}{R:Mem→Value→Hp→Prop}(B:Fh P f vs M Hin R)(hk:∀ v M' d,M.le M'→R M' v d→XD P n ops Q rest (St M' (d++y)) ⟨M',d++y⟩ (NN dst v e))(hi:ops[i]?=some ⟨dst,.call ⟨.value (.func f),xs.toArray,j⟩,ty,pos,af,gd⟩:=by exact rfl)(g:n.wrs.contains i=true:=by exact rfl)(F:want ops e gd=some true:=by exact rfl)(D:Ta P f=true:=by exact okF)(hx:evs e xs=some vs:=by exact rfl)(hH:Rem Hin H y:=by repeat first|exact Rem.here _|exact Rem.two|apply Rem.skip|apply Rem.over)(C:∀ a v,Sat n e a→Sat n (NN dst v e) (a.put dst v):=by first|exact Oa|exact XK rfl):XD P n ops Q (i::rest) J ⟨M,H⟩ e :=
 Zut hi g F D hx B hH C hk
theorem We{f:FuncId}{xs:List Operand}{j:Array TypeId}{vs:List Value}{Hin y:Hp}{R:Mem→Value→Hp→Prop}{g:Mem}{B:Hp}(C:Fh P f vs M Hin R)(hk:∀ v M' d,M.le M'→R M' v d→XD P n ops Q rest (St g B) ⟨M',d++y⟩ (NN dst v e))(hi:ops[i]?=some ⟨dst,.call ⟨.value (.func f),xs.toArray,j⟩,ty,pos,af,gd⟩:=by exact rfl)(L:want ops e gd=some true:=by exact rfl)(K:Ta P f=true:=by exact okF)(hx:evs e xs=some vs:=by exact rfl)(hH:Rem Hin H y:=by repeat first|exact Rem.here _|exact Rem.two|apply Rem.skip|apply Rem.over)(F:∀ M' d w,M.le M'→St M' (d++y) w→St g B w:=by exact fun _ _ _ hm hw=>(hw.lower (by first|exact hm|exact Mem.le.trans (by assumption) hm|exact Mem.le.trans (by first|exact Mem.le.refl _|assumption|(repeat first|assumption|refine Mem.le.trans (by assumption) ?_)) hm)).cnt (by intro zz;first|exact B9 _|(simp only[WG,Wo,WW,cat,List.append_eq,B5,B4,B6,E0];omega)))(D:∀ a v,Sat n e a→Sat n (NN dst v e) (a.put dst v):=by first|exact Oa|exact XK rfl):XD P n ops Q (i::rest) (St g B) ⟨M,H⟩ e :=
 Zxy hi L K hx C hH F D hk
theorem ZH{P:Program}{e:Env}{M:Mem}{H:Hp}{n:Nat}{fn:Func}{R:Ending→World→Prop}{x:Exit}{vs:List Value}(h:∀ w,St M H w→R (.returned (Zmb vs)) w)(hx:x=.normal∨x=.ret:=by first|exact .inr rfl|exact .inl rfl)(d:Res P e H fn.results.toList vs:=by first|exact .tmp rfl .nil|exact .nil|exact .tmp rfl (.tmp rfl .nil)|exact .cell (by exact rfl) (by repeat first|exact J3 _|refine J6 _ ?_|refine D0 _ ?_) (by exact laF) (by exact rfl) (by exact rfl) .nil|exact .cell (by exact rfl) (by repeat first|exact J3 _|refine J6 _ ?_|refine D0 _ ?_) (by exact laF) (by exact rfl) (by exact rfl) (.tmp rfl .nil)|exact .cell (by exact rfl) (by repeat first|exact J3 _|refine J6 _ ?_|refine D0 _ ?_) (by exact laF) (by exact rfl) (by exact rfl) (.tmp rfl (.tmp rfl .nil))|exact .cell (by exact rfl) (by repeat first|exact J3 _|refine J6 _ ?_|refine D0 _ ?_) (by exact laF) (by exact rfl) (by exact rfl) (.tmp rfl (.tmp rfl (.tmp rfl .nil)))|exact .tmp rfl (.tmp rfl (.tmp rfl .nil))|exact .cell (by exact rfl) (by repeat first|exact J3 _|refine J6 _ ?_|refine D0 _ ?_) (by exact laF) (by exact rfl) (by exact rfl) (.cell (by exact rfl) (by repeat first|exact J3 _|refine J6 _ ?_|refine D0 _ ?_) (by exact laF) (by exact rfl) (by exact rfl) .nil)):K ⟨n,[],none,[]⟩ (bodyPost P fn R) x (St M H) e:=Zec hx d h
theorem Xb{c:Operand}{x y:Code}{b:Bool}(ht:b=true→C P n x Q S e)(g:b=false→C P n y Q S e)(d:ev e c=some (.bool b):=by exact rfl):C P n (.cond c x y) Q S e:=Zyt d ht g
theorem YE{c:Bool}(s:Nat)(ht:c=true→XD P n ops Q rest J A ((s,.bool true)::e))(d:c=false→XD P n ops Q rest J A ((s,.bool false)::e))(hs:get e s=some (.bool c):=by exact rfl):XD P n ops Q rest J A e:=BF s hs ht d
end
structure Hide (q:Prop):Prop where
  h:q
theorem Stp{p q:Prop}(d:q)(h:Hide q→p:=by
 intro h
 first
 | (with_reducible refine Zvp ?_;exact h.h)
 | (with_reducible refine Zlq ?_;exact h.h)
 | (with_reducible refine Zaj ?_;exact h.h)
 | (with_reducible refine Zyp ?_;exact h.h)
 | (with_reducible refine Zvs ?_;exact h.h)
 | (with_reducible refine Yad ?_;exact h.h)
 | (with_reducible refine Zyr ?_;exact h.h)
 | (with_reducible refine Zvq ?_;exact h.h)
 | (with_reducible refine Zzz ?_;exact h.h)
 | (with_reducible refine Zyi ?_;exact h.h)
 | (with_reducible refine Zyj ?_;exact h.h)
 | (with_reducible refine Yaa ?_;exact h.h)
 | (with_reducible refine Yab ?_;exact h.h)
 | (with_reducible refine Zqm ?_;exact h.h)
 | (refine Zap rfl ?_;exact h.h)
 | (refine Zyo rfl ?_;exact h.h)
 | (refine Zvr rfl ?_;exact h.h)
 | (refine Zro rfl rfl rfl rfl ?_;exact h.h)
 | (refine Zxs rfl rfl rfl ?_;exact h.h)
 | (refine Zuo rfl rfl ?_;exact h.h)
 | (refine Zpz rfl rfl rfl rfl ?_;exact h.h)
 | (refine Zxu rfl rfl rfl rfl rfl ?_;exact h.h)
 | (refine Zzv rfl rfl rfl rfl rfl rfl ?_;exact h.h)
 | (refine Hy rfl rfl rfl rfl ?_;exact h.h)
 | (refine Zkz rfl rfl rfl rfl rfl ?_;exact h.h)
 | (refine Zzt rfl rfl rfl rfl ?_;exact h.h)
 | (refine JR rfl rfl rfl (by exact foF) jV ?_;exact h.h)
 | (refine Zkx rfl rfl rfl jB (by exact laF) jV jV jV ?_;exact h.h)
 | (refine UE rfl rfl rfl rfl jG (by first|((try simp only[cat,B4,B6,E0]);(repeat(first|exact YS|refine Xg ?_|(refine Yi ?_ ?_;rfl)));done)|exact Zr.flat _|exact ZK.flat _|exact ZM.flat _|exact ZI.flat _|exact YD.flat _|exact YQ.flat _|exact XM.flat _|exact YT.flat _|exact ZW.flat _|exact XF.flat _|(simp[flat,cat,Segs.cells,Seg.cells,Value.oneCell'];done)) jH (by exact laF) jV jV ?_;exact h.h)
 | (refine Zpv rfl rfl rfl rfl (by exact elF) jV ?_;exact h.h)
 | (refine DZ rfl rfl rfl rfl rfl (by first|exact Po jM jD|exact RX jM jD|exact Ij jM jD|exact Kr jM jD|exact HE _|exact Ck _|exact NO _|exact rfl) jV ?_;exact h.h)
 | (refine NJ rfl rfl rfl rfl (by exact elF) (by first|rfl|exact(Int.toNat_of_nonneg jD).symm) (by first|omega|(simp;done)|(simp;omega)) (by first|exact⟨_,_,rfl⟩|assumption|exact SlM.plain jE zA|exact RdS.plain jE zA|exact OSl.plain jE zA) jV ?_;exact h.h)
 | (refine JP rfl rfl rfl (by first|assumption|exact SlM.mono jE jE) yJ (by exact laF) jV jV jV ?_;exact h.h)
 | (refine Ih rfl rfl rfl (by first|exact⟨_,_,rfl⟩|assumption|exact SlM.plain jE zA|exact RdS.plain jE zA|exact OSl.plain jE zA) (by exact foF) jV ?_;exact h.h)
 | (refine Zkw rfl rfl rfl jE yJ (by exact laF) jV jV jV ?_;exact h.h)
 | (refine RT rfl rfl rfl jE jA yJ (by exact laF) jV jV jV ?_;exact h.h)
 | (refine Zdw rfl rfl rfl (by first|assumption|exact Mem.get_of jE yL) (by exact laF) jV jV jV ?_;exact h.h)
 | (refine Qp rfl rfl rfl jB (by exact laF) (by first|exact Zwu (by first|omega|decide)|exact Zkm (by first|omega|decide)) jV ?_;exact h.h)
 | (refine XN rfl rfl BD.h (by repeat first|exact .nil|refine .cons rfl jG ?_) jV jV ?_;exact h.h)
 | (refine Zrr rfl rfl rfl UN.h UN.h (by first|exact Po jM jD|exact RX jM jD|exact Ij jM jD|exact Kr jM jD|exact HE _|exact Ck _|exact NO _|exact rfl) jV ?_;exact h.h)
 | (refine Zzu rfl rfl rfl rfl UN.h rfl rfl ?_;exact h.h)
 | (refine DV rfl rfl rfl rfl UN.h rfl ?_;exact h.h)
 | (refine JQ rfl rfl rfl rfl AR.h (by first|rfl|exact(Int.toNat_of_nonneg jD).symm) (by first|omega|decide|(simp;omega)) jV ?_;exact h.h)
 | (refine TB rfl rfl rfl rfl rfl rfl rfl ?_;exact h.h)
 | (refine Zus rfl rfl rfl FD.h (by exact laF) jV jV jV ?_;exact h.h)
 | (refine BC rfl rfl rfl AR.h rfl ?_;exact h.h)
 | (refine Zdu rfl rfl rfl rfl rfl ?_;exact h.h)
 | (refine Zxt rfl rfl rfl rfl (by first|decide|omega) (by first|exact Zqu jD|rfl) jV ?_;exact h.h)
 | (refine Zzs rfl rfl rfl rfl (by first|decide|omega) (by first|exact Zwh rfl jD jD jD|rfl) jV ?_;exact h.h)
 | (refine Zlg rfl rfl ZR.h jG jV ?_;exact h.h)
 | (refine Zya rfl rfl rfl jG jV ?_;exact h.h)
 | (refine Zku rfl rfl rfl ?_;exact h.h)
 | (refine YK rfl rfl (by exact elF) ZR.h jV jV (by repeat first|exact .nil|refine .cons rfl jG ?_) jV jV jK jV ?_;exact h.h)):p:=h ⟨d⟩
theorem S2{p q:Prop}(d:q)(h:Hide q→p:=by intro h;(iterate 2 refine Stp ?_);exact h.h):p:=h ⟨d⟩
theorem S3{p q:Prop}(d:q)(h:Hide q→p:=by intro h;(iterate 3 refine Stp ?_);exact h.h):p:=h ⟨d⟩
theorem S4{p q:Prop}(d:q)(h:Hide q→p:=by intro h;(iterate 4 refine Stp ?_);exact h.h):p:=h ⟨d⟩
theorem S5{p q:Prop}(d:q)(h:Hide q→p:=by intro h;(iterate 5 refine Stp ?_);exact h.h):p:=h ⟨d⟩
theorem S6{p q:Prop}(d:q)(h:Hide q→p:=by intro h;(iterate 6 refine Stp ?_);exact h.h):p:=h ⟨d⟩
theorem S7{p q:Prop}(d:q)(h:Hide q→p:=by intro h;(iterate 7 refine Stp ?_);exact h.h):p:=h ⟨d⟩
theorem S8{p q:Prop}(d:q)(h:Hide q→p:=by intro h;(iterate 8 refine Stp ?_);exact h.h):p:=h ⟨d⟩
theorem S9{p q:Prop}(d:q)(h:Hide q→p:=by intro h;(iterate 9 refine Stp ?_);exact h.h):p:=h ⟨d⟩
theorem S10{p q:Prop}(d:q)(h:Hide q→p:=by intro h;(iterate 10 refine Stp ?_);exact h.h):p:=h ⟨d⟩
theorem S11{p q:Prop}(d:q)(h:Hide q→p:=by intro h;(iterate 11 refine Stp ?_);exact h.h):p:=h ⟨d⟩
theorem S12{p q:Prop}(d:q)(h:Hide q→p:=by intro h;(iterate 12 refine Stp ?_);exact h.h):p:=h ⟨d⟩
theorem S13{p q:Prop}(d:q)(h:Hide q→p:=by intro h;(iterate 13 refine Stp ?_);exact h.h):p:=h ⟨d⟩
theorem S14{p q:Prop}(d:q)(h:Hide q→p:=by intro h;(iterate 14 refine Stp ?_);exact h.h):p:=h ⟨d⟩
theorem S15{p q:Prop}(d:q)(h:Hide q→p:=by intro h;(iterate 15 refine Stp ?_);exact h.h):p:=h ⟨d⟩
theorem S16{p q:Prop}(d:q)(h:Hide q→p:=by intro h;(iterate 16 refine Stp ?_);exact h.h):p:=h ⟨d⟩
theorem S17{p q:Prop}(d:q)(h:Hide q→p:=by intro h;(iterate 17 refine Stp ?_);exact h.h):p:=h ⟨d⟩
theorem S18{p q:Prop}(d:q)(h:Hide q→p:=by intro h;(iterate 18 refine Stp ?_);exact h.h):p:=h ⟨d⟩
theorem S19{p q:Prop}(d:q)(h:Hide q→p:=by intro h;(iterate 19 refine Stp ?_);exact h.h):p:=h ⟨d⟩
theorem S20{p q:Prop}(d:q)(h:Hide q→p:=by intro h;(iterate 20 refine Stp ?_);exact h.h):p:=h ⟨d⟩
theorem S21{p q:Prop}(d:q)(h:Hide q→p:=by intro h;(iterate 21 refine Stp ?_);exact h.h):p:=h ⟨d⟩
theorem S22{p q:Prop}(d:q)(h:Hide q→p:=by intro h;(iterate 22 refine Stp ?_);exact h.h):p:=h ⟨d⟩
theorem S23{p q:Prop}(d:q)(h:Hide q→p:=by intro h;(iterate 23 refine Stp ?_);exact h.h):p:=h ⟨d⟩
theorem S24{p q:Prop}(d:q)(h:Hide q→p:=by intro h;(iterate 24 refine Stp ?_);exact h.h):p:=h ⟨d⟩
theorem S25{p q:Prop}(d:q)(h:Hide q→p:=by intro h;(iterate 25 refine Stp ?_);exact h.h):p:=h ⟨d⟩
theorem S26{p q:Prop}(d:q)(h:Hide q→p:=by intro h;(iterate 26 refine Stp ?_);exact h.h):p:=h ⟨d⟩
theorem S27{p q:Prop}(d:q)(h:Hide q→p:=by intro h;(iterate 27 refine Stp ?_);exact h.h):p:=h ⟨d⟩
theorem S28{p q:Prop}(d:q)(h:Hide q→p:=by intro h;(iterate 28 refine Stp ?_);exact h.h):p:=h ⟨d⟩
theorem S29{p q:Prop}(d:q)(h:Hide q→p:=by intro h;(iterate 29 refine Stp ?_);exact h.h):p:=h ⟨d⟩
theorem S30{p q:Prop}(d:q)(h:Hide q→p:=by intro h;(iterate 30 refine Stp ?_);exact h.h):p:=h ⟨d⟩
theorem S31{p q:Prop}(d:q)(h:Hide q→p:=by intro h;(iterate 31 refine Stp ?_);exact h.h):p:=h ⟨d⟩
theorem S32{p q:Prop}(d:q)(h:Hide q→p:=by intro h;(iterate 32 refine Stp ?_);exact h.h):p:=h ⟨d⟩
theorem S33{p q:Prop}(d:q)(h:Hide q→p:=by intro h;(iterate 33 refine Stp ?_);exact h.h):p:=h ⟨d⟩
theorem S36{p q:Prop}(d:q)(h:Hide q→p:=by intro h;(iterate 36 refine Stp ?_);exact h.h):p:=h ⟨d⟩
theorem S39{p q:Prop}(d:q)(h:Hide q→p:=by intro h;(iterate 39 refine Stp ?_);exact h.h):p:=h ⟨d⟩
theorem S41{p q:Prop}(d:q)(h:Hide q→p:=by intro h;(iterate 41 refine Stp ?_);exact h.h):p:=h ⟨d⟩
theorem S46{p q:Prop}(d:q)(h:Hide q→p:=by intro h;(iterate 46 refine Stp ?_);exact h.h):p:=h ⟨d⟩
theorem S53{p q:Prop}(d:q)(h:Hide q→p:=by intro h;(iterate 53 refine Stp ?_);exact h.h):p:=h ⟨d⟩
end Go.Esp
namespace Go.Proofs.YtglnjnacodgmaaaGreatDoor
open Go.Esp
instance I.arr154:AR 154 (5,152):=⟨by kernel_rfl⟩
instance I.arr256:AR 256 (64,5):=⟨by kernel_rfl⟩
instance I.arr36:AR 36 (20,5):=⟨by kernel_rfl⟩
instance I.bld219:BD 219 ([[.one (.string ⟨#[]⟩)]]):=⟨⟨by kernel_rfl,by kernel_rfl⟩⟩
instance I.bld41:BD 41 ([[.one (.int .i64 0),ZU 0],[.one (.int .i64 0),ZU 0],[.one (.slice none 0 0)],[.one (.slice none 0 0)]]):=⟨by rw[Uz];exact⟨by kernel_rfl,by kernel_rfl⟩⟩
instance I.bld44:BD 44 ([[.one (.int .i64 0),ZU 0,.one (.int .i64 0),ZU 0,.one (.slice none 0 0),.one (.slice none 0 0)],[.one (.int .i64 0)],[.one (.bool false)],[.one (.int .i64 0)],[.one (.int .i64 0)],[.one (.int .u64 0)],[.one (.int .i64 0)],[.one (.int .u64 0)],[.one (.int .i64 0)],[.one (.int .u64 0)],[.one (.int .i64 0)],[.one (.int .u64 0)],[ZU 0],[.one (.slice none 0 0)],[.one (.int .i64 0)],[.one (.int .i64 0)]]):=⟨by rw[Uz];exact⟨by kernel_rfl,by kernel_rfl⟩⟩
instance I.bld68:BD 68 ([[.one (.slice none 0 0)],[.one (.int .i64 0),ZU 0]]):=⟨by rw[Uz];exact⟨by kernel_rfl,by kernel_rfl⟩⟩
instance I.bld82:BD 82 ([[.one (.int .i64 0)],[.one (.int .i64 0)],[.one (.string ⟨#[]⟩)]]):=⟨⟨by kernel_rfl,by kernel_rfl⟩⟩
instance I.fld38_0:FD 38 0 (0,3):=⟨by kernel_rfl⟩
instance I.fld38_1:FD 38 1 (1,36):=⟨by kernel_rfl⟩
instance I.zero128:ZR 128 (WX [.one (.int .i64 0),.one (.int .i64 0),ZU 0,.one (.int .u64 0),ZU 0,.one (.slice none 0 0),.one (.bool false),.one (.int .i64 0),ZU 0,.one (.slice none 0 0)]):=⟨by rw[Uz];kernel_rfl⟩
instance I.zero154:ZR 154 (WX [.arr 5 (Vector.replicate 5 (.int .u32 0))]):=⟨by kernel_rfl⟩
instance I.zero169:ZR 169 (WX [.one (.int .i64 0),.one (.int .i64 0),.one (.int .i64 0),ZU 0,.one (.int .u64 0),ZU 0,.one (.slice none 0 0),.one (.bool false),.one (.int .i64 0),ZU 0,.one (.slice none 0 0)]):=⟨by rw[Uz];kernel_rfl⟩
instance I.zero176:ZR 176 (WX [.one (.pointer none)]):=⟨by kernel_rfl⟩
instance I.zero209:ZR 209 (WX [.one .nilFunc,.one (.int .u32 0)]):=⟨by kernel_rfl⟩
instance I.zero210:ZR 210 (WX [.one .nilFunc,.one (.int .u32 0),.one .nilFunc,.one (.int .u32 0),.one .nilFunc,.one (.int .u32 0),.one .nilFunc,.one (.int .u32 0)]):=⟨by kernel_rfl⟩
instance I.zero25:ZR 25 ((.int .i64 0)):=⟨by kernel_rfl⟩
instance I.zero256:ZR 256 (WX [.arr 64 (Vector.replicate 64 (.int .u8 0))]):=⟨by kernel_rfl⟩
instance I.zero268:ZR 268 (WX [.one (.int .i64 0),.one (.bool false)]):=⟨by kernel_rfl⟩
instance I.zero3:ZR 3 ((.int .i64 0)):=⟨by kernel_rfl⟩
instance I.zero36:ZR 36 (WX [ZU 0]):=⟨by rw[Uz];kernel_rfl⟩
instance I.zero38:ZR 38 (WX [.one (.int .i64 0),ZU 0]):=⟨by rw[Uz];kernel_rfl⟩
instance I.zero39:ZR 39 ((.slice none 0 0)):=⟨by kernel_rfl⟩
instance I.zero41:ZR 41 (WX [.one (.int .i64 0),ZU 0,.one (.int .i64 0),ZU 0,.one (.slice none 0 0),.one (.slice none 0 0)]):=⟨by rw[Uz];kernel_rfl⟩
instance I.zero44:ZR 44 (WX [.one (.int .i64 0),ZU 0,.one (.int .i64 0),ZU 0,.one (.slice none 0 0),.one (.slice none 0 0),.one (.int .i64 0),.one (.bool false),.one (.int .i64 0),.one (.int .i64 0),.one (.int .u64 0),.one (.int .i64 0),.one (.int .u64 0),.one (.int .i64 0),.one (.int .u64 0),.one (.int .i64 0),.one (.int .u64 0),ZU 0,.one (.slice none 0 0),.one (.int .i64 0),.one (.int .i64 0)]):=⟨by rw[Uz];kernel_rfl⟩
instance I.zero68:ZR 68 (WX [.one (.slice none 0 0),.one (.int .i64 0),ZU 0]):=⟨by rw[Uz];kernel_rfl⟩
instance I.zero82:ZR 82 (WX [.one (.int .i64 0),.one (.int .i64 0),.one (.string ⟨#[]⟩)]):=⟨by kernel_rfl⟩
instance I.zero89:ZR 89 (.nilFunc):=⟨by kernel_rfl⟩
instance I.un136:UN 136 (.int .u64):=⟨Tryz.underlying136⟩
instance I.un152:UN 152 (.int .u32):=⟨Tryz.underlying152⟩
instance I.un171:UN 171 (.func #[163] #[] false):=⟨Tryz.underlying171⟩
instance I.un173:UN 173 (.pointer 230):=⟨Tryz.underlying173⟩
instance I.un20:UN 20 (.interface #[]):=⟨Tryz.underlying20⟩
instance I.un24:UN 24 (.pointer 78):=⟨Tryz.underlying24⟩
instance I.un3:UN 3 (.int .i64):=⟨Tryz.underlying3⟩
instance I.un32:UN 32 (.slice 3):=⟨Tryz.underlying32⟩
instance I.un39:UN 39 (.slice 38):=⟨Tryz.underlying39⟩
instance I.un42:UN 42 (.int .u64):=⟨Tryz.underlying42⟩
instance I.un5:UN 5 (.int .u8):=⟨Tryz.underlying5⟩
instance I.un73:UN 73 (.pointer 116):=⟨Tryz.underlying73⟩
instance I.foffL:FT [(116,0,0),(116,1,1),(116,2,2),(116,3,3),(128,0,0),(128,1,1),(128,2,22),(128,3,23),(128,4,43),(128,5,44),(128,6,45),(128,7,66),(166,0,0),(166,1,78),(169,0,0),(169,1,1),(176,0,0),(209,0,0),(209,1,1),(219,0,0),(230,0,0),(268,0,0),(268,1,1),(31,0,0),(31,1,1),(31,2,2),(38,0,0),(38,1,1),(41,0,0),(41,1,21),(41,2,42),(41,3,43),(44,0,0),(44,1,44),(44,10,53),(44,11,54),(44,12,55),(44,13,75),(44,14,76),(44,15,77),(44,2,45),(44,3,46),(44,4,47),(44,5,48),(44,6,49),(44,7,50),(44,8,51),(44,9,52),(58,0,0),(58,1,1),(58,2,2),(68,0,0),(68,1,1),(78,0,0),(78,1,1),(78,2,2),(82,1,1),(82,2,2)]:=⟨by kernel_rfl⟩
instance I.layL:LT [(114,false,1),(121,false,1),(128,true,67),(142,false,1),(152,false,1),(154,true,5),(169,true,68),(173,false,1),(176,true,1),(207,false,1),(209,true,2),(210,true,8),(24,false,1),(25,false,1),(268,true,2),(3,false,1),(31,true,3),(32,false,1),(36,true,20),(38,true,21),(39,false,1),(4,false,1),(41,true,44),(42,false,1),(44,true,78),(5,false,1),(58,true,3),(68,true,22),(73,false,1),(76,false,1),(82,true,3),(89,false,1),(9,false,1)]:=⟨by kernel_rfl⟩
instance I.elemL:ET [(121,169,68,168),(142,39,1,24),(202,5,1,1),(204,152,1,4),(22,31,3,24),(269,268,2,16),(32,3,1,8),(39,38,21,32),(49,82,3,32),(56,58,3,40),(66,41,44,112)]:=⟨by kernel_rfl⟩
instance I.okL:OT [10,100,101,102,103,104,105,106,107,108,109,11,110,111,112,113,114,115,116,117,118,119,120,121,122,123,124,13,135,136,137,145,146,147,148,149,150,151,152,154,155,156,157,158,159,160,161,162,163,164,165,166,167,168,169,17,170,171,172,173,174,175,176,177,18,186,192,193,194,20,200,201,202,203,204,205,206,209,21,210,214,22,222,223,224,23,230,24,25,26,27,28,29,30,31,32,33,34,35,36,37,38,39,40,41,42,43,44,45,46,47,48,49,50,51,52,53,54,55,56,57,58,59,60,61,62,63,64,65,66,67,68,69,70,71,72,73,75,76,77,78,79,8,80,81,82,83,84,85,86,87,88,89,9,90,91,92,93,95,96,97,98,99]:=⟨by kernel_rfl⟩
end Go.Proofs.YtglnjnacodgmaaaGreatDoor
namespace Go.Esp
def WY(a b:Plc):Prop:=a.toNat<b.toNat
instance (a b:Plc):Decidable (WY a b):=by unfold WY;exact inferInstance
theorem Zpg{a b:Plc}:Zvv a b<0↔WY a b:=by
 unfold Zvv WY;grind
def Uv(l:List Zr):Prop:=(∀ p∈l,0≤p.addr∧p.addr≤999)∧(l.map Zr.addr).Nodup∧l.Pairwise (fun p q=>WY p.id q.id)
instance (l:List Zr):Decidable (Uv l):=by unfold Uv;exact inferInstance
def Xk(l:List Zr):Prop:=(1≤l.length∧l.length≤16)∧Uv l
instance (l:List Zr):Decidable (Xk l):=by unfold Xk;exact inferInstance
theorem Kn{l:List Zr}(h:Uv l)(k:Nat):Uv (l.take k) :=
 ⟨fun p d=>h.1 p (F9 d),h.2.1.sublist ((List.take_sublist k l).map _),h.2.2.sublist (List.take_sublist k l)⟩
theorem Ph{l:List Zr}{k:Nat}(hk:k<l.length):Uv (l.take (k+1))↔Uv (l.take k)∧(0≤l[k].addr∧l[k].addr≤999)∧l[k].addr∉(l.take k).map Zr.addr∧(∀ h:0<k,WY (l[k-1]'(by omega)).id l[k].id):=by
 have e:l.take (k+1)=l.take k++[l[k]]:=by rw[C9,A7 hk];rfl
 rw[e];unfold Uv;simp only[B8,B0,C6,D3,List.map_nil,H3,List.pairwise_append,List.pairwise_singleton,D9,List.not_mem_nil,not_false_eq_true,J1,true_and];constructor
 ·rintro⟨h1,⟨h2,h3⟩,y,v⟩;refine⟨⟨fun p g=>h1 p (.inl g),h2,y⟩,h1 _ (.inr rfl),fun hm=>h3 _ hm _ rfl rfl,fun h0=>?_⟩;refine v _ ?_ _ rfl;rw[List.mem_take_iff_getElem];grind
 rintro⟨⟨h1,h2,h3⟩,y,v,C⟩;refine⟨fun p g=>?_,⟨h2,fun a ha b hb=>?_⟩,h3,fun p g q B=>?_⟩
 ·grind
 ·grind
 subst B;rw[List.mem_take_iff_getElem]at g;obtain⟨j,hj,rfl⟩:=g;have d:=C jD;rcases C7 j (k-1)with h|h
 ·have:=(E1.1 h3) j (k-1) jU jU h;simp only[List.getElem_take]at this;exact Nat.lt_trans this d
 grind
def pO(l:List Zr)(x:Plc)(i:Nat):Bool:=match l[i]? with
 | some p=>decide (¬WY p.id x)
 | none=>true
theorem Zgk{l:List Zr}{x:Plc}{i:Nat}(h:i<l.length):pO l x i=decide (¬WY l[i].id x):=by
 unfold pO;rw[A7 h]
theorem Zss{l:List Zr}{x:Plc}(h:Uv l)(i j:Nat)(g:i≤j)(hj:j<l.length)(d:pO l x i=true):pO l x j=true:=by
 rw[Zgk jD]at d ⊢;simp only[decide_eq_true_eq]at d ⊢;rcases C7 i j with h1|h1
 ·have:=(E1.1 h.2.2) i j jD hj h1;unfold WY at *;omega
 grind
def Ve(l:List Zr)(x:Plc):Nat:=Qj (pO l x) l.length % l.length
theorem Ua{l:List Zr}{x:Plc}(h:0<l.length):Ve l x<l.length:=G5 _ h
theorem Zgl{l:List Zr}{x:Plc}{k:Nat}(hk:k<l.length)(h1:∀ j,j<k→pO l x j=false)(h2:pO l x k=true):Ve l x=k:=by
 unfold Ve;rw[JD jD h1 (fun _=>h2),E3 hk]
theorem CM{l:List Zr}{x:Plc}(h1:∀ j,j<l.length→pO l x j=false):Ve l x=0:=by
 unfold Ve;rw[JD (B9 _) h1 (fun h=>by omega),Nat.mod_self]
end Go.Esp
namespace Go.Esp
def Of(x:Plc)(k:Nat):Vector Value 20:=Vector.ofFn fun i:Fin 20=>if 20≤i.val+k then .int .u8 (idB x i.val)else .int .u8 0
theorem Mf(x:Plc)(k:Nat){i:Nat}(h:i<20):(Of x k)[i]=if 20≤i+k then .int .u8 (idB x i)else .int .u8 0:=by
 unfold Of;rw[Vector.getElem_ofFn]
theorem CY(x:Plc):Of x 0=idV 0:=by
 apply Vector.ext;intro i hi;rw[Mf x 0 hi,A4 jD,SH _ hi];simp[idB]
theorem Zhn(x:Plc):Of x 20=idV x:=by
 apply Vector.ext;intro i hi;rw[Mf x 20 hi,A6 jD,SH _ hi]
theorem Zce(x:Plc){k:Nat}(h:k<20){v:Int}(d:v=(idB x (19-k):Nat)):(Of x k).set (19-k) (.int .u8 v)=Of x (k+1):=by
 apply Vector.ext;intro i hi;rw[Mf x (k+1) hi];by_cases e:i=19-k
 ·grind
 rw[Vector.getElem_set_ne _ _ (Ne.symm e),Mf x k hi];grind
def LI(x y:Plc)(k:Nat):Vector Value 20:=Vector.ofFn fun i:Fin 20=>if i.val<k then .int .u8 (idB x i.val)else .int .u8 (idB y i.val)
theorem OO(x y:Plc)(k:Nat){i:Nat}(h:i<20):(LI x y k)[i]=if i<k then .int .u8 (idB x i)else .int .u8 (idB y i):=by
 unfold LI;rw[Vector.getElem_ofFn]
theorem Bj(x y:Plc):LI x y 0=idV y:=by
 apply Vector.ext;intro i hi;rw[OO x y 0 hi,A4 jD,SH _ hi]
theorem Zcx(x y:Plc):LI x y 20=idV x:=by
 apply Vector.ext;intro i hi;rw[OO x y 20 hi,A6 jD,SH _ hi]
theorem Bi(x y:Plc){k:Nat}(h:k<20){v:Int}(d:v=(idB x k:Nat)):(LI x y k).set k (.int .u8 v)=LI x y (k+1):=by
 apply Vector.ext;intro i hi;rw[OO x y (k+1) hi];by_cases e:i=k
 ·grind
 rw[Vector.getElem_set_ne _ _ (Ne.symm e),OO x y k hi];grind
theorem Aw(A P:Nat):A % (P * 256)=A % P+P * (A / P % 256):=Nat.mod_mul
theorem Al(k:Nat):256 ^ (k+1)=256 ^ k * 256:=Nat.pow_succ 256 k
theorem Zzf:(256:Nat) ^ 20=2 ^ 160:=by decide
theorem Zik(x:Plc){k:Nat}(h:k<20):idB x (19-k)=x.toNat / 256 ^ k % 256:=by
 unfold idB;rw[show 19-(19-k)=k by omega]
theorem Zgg{k:Nat}(h:k<20):∃ C,2 ^ 160=256 ^ k * (256 * C):=by
 refine⟨256 ^ (19-k),?_⟩;rw[← Zzf,← Nat.mul_assoc,← Al,← Nat.pow_add];congr 1;omega
theorem Zug(X:Nat){k:Nat}(h:k<20):X % 2 ^ 160 / 256 ^ k % 256=X / 256 ^ k % 256:=by
 obtain⟨C,d⟩:=Zgg h;rw[d,Nat.mod_mul_right_div_self,Nat.mod_mul_right_mod]
def Qo(a b:Plc)(k:Nat):Nat:=(a.toNat % 256 ^ k+b.toNat % 256 ^ k) / 256 ^ k
theorem Bs(a b:Plc):Qo a b 0=0:=by unfold Qo;simp[Nat.mod_one]
theorem Zkb(a b:Plc)(k:Nat):Qo a b k≤1:=by
 have d:0<256 ^ k:=Nat.pow_pos jM;exact Nat.le_of_lt_succ ((Nat.div_lt_iff_lt_mul d).2 jD)
theorem Zmp(a b:Plc){k:Nat}(h:k<20):
 (Qo a b k+(idB a (19-k)+idB b (19-k))) % 256=idB (a+b) (19-k)∧(Qo a b k+(idB a (19-k)+idB b (19-k))) / 256=Qo a b (k+1):=by
 rw[Zik a h,Zik b h,Zik (a+b) h,BitVec.toNat_add,Zug _ h];unfold Qo;rw[Al,Aw,Aw];have d:0<256 ^ k:=Nat.pow_pos jM;generalize 256 ^ k=P at d ⊢;have j:=Nat.div_add_mod a.toNat P;have g:=Nat.div_add_mod b.toNat P;generalize a.toNat=A at *;generalize b.toNat=B at *;have v:(A+B) / P=A / P+B / P+(A % P+B % P) / P:=by
  conv=>lhs;rw[← j,← g]
  rw[show P * (A / P)+A % P+(P * (B / P)+B % P)=(A % P+B % P)+P * (A / P+B / P)by rw[Nat.mul_add];omega,Nat.add_mul_div_left _ _ d];omega
 constructor
 ·grind
 rw[← Nat.div_div_eq_div_mul,show A % P+P * (A / P % 256)+(B % P+P * (B / P % 256))=(A % P+B % P)+P * (A / P % 256+B / P % 256)by rw[Nat.mul_add];omega,Nat.add_mul_div_left _ _ d]
theorem NT(a b:Plc):(a-b).toNat=(a.toNat+(2 ^ 160-b.toNat)) % 2 ^ 160:=by
 rw[BitVec.toNat_sub];congr 1;omega
theorem Zwi{k:Nat}(h:k<160):2 ^ k<2 ^ 160:=Nat.pow_lt_pow_right (by decide) h
def To(k:Nat):Plc:=BitVec.ofNat 160 (2 ^ k)
theorem HT{k:Nat}(h:k<160):(To k).toNat=2 ^ k:=by
 unfold To;rw[H4,E3 (Zwi h)]
theorem Zgh{k i:Nat}(h:k<160)(hi:i<20):idB (To k) i=if i=19-k / 8 then 2 ^ (k % 8)else 0:=by
 unfold idB;rw[HT h,show(256:Nat)=2 ^ 8 by decide,← Nat.pow_mul];split
 ·rename_i e;rw[show k=8 * (19-i)+k % 8 by omega,Nat.pow_add,Nat.mul_div_cancel_left _ (Nat.pow_pos jM),show(8 * (19-i)+k % 8) % 8=k % 8 by omega];exact E3 (Nat.pow_lt_pow_right jM jD)
 rename_i e;rcases C7 (k / 8) (19-i)with h1|h1
 ·rw[Nat.div_eq_of_lt (Nat.pow_lt_pow_right jM jD)]
 obtain⟨d,g⟩:∃ d,k=8 * (19-i)+8+d:=⟨k-8 * (19-i)-8,by omega⟩
 rw[g,Nat.add_assoc,Nat.pow_add,Nat.mul_div_cancel_left _ (Nat.pow_pos jM),Nat.pow_add];simp
theorem Yaq{k:Nat}(h:k<160){v:Int}(d:v=((2 ^ (k % 8):Nat):Int)):(idV 0).set (19-k / 8) (.int .u8 v)=idV (To k):=by
 apply Vector.ext;intro i hi;rw[SH _ hi,Zgh h hi];by_cases e:i=19-k / 8
 ·grind
 rw[Vector.getElem_set_ne _ _ (Ne.symm e),SH _ hi,A4 e];simp[idB]
def Uh(a x b:Plc):Prop:=x≠a∧(a=b∨WY (x-a) (b-a))
instance (a x b:Plc):Decidable (Uh a x b):=by unfold Uh;exact inferInstance
def RL(a x b:Plc):Prop:=x=b∨Uh a x b
instance (a x b:Plc):Decidable (RL a x b):=by unfold RL;exact inferInstance
theorem KU{a b:Plc}:a=b↔a.toNat=b.toNat:=⟨fun h=>by rw[h],J5⟩
theorem Od(a x b:Plc):Uh a x b↔(if a=b then x≠a else if WY a b then WY a x∧WY x b else WY a x∨WY x b):=by
 unfold Uh;by_cases h1:a=b
 ·grind
 rw[A4 h1];by_cases h2:WY a b
 ·rw[A6 h2];unfold WY at *;rw[NT,NT];simp only[ne_eq,KU]at *;omega
 rw[A4 h2];unfold WY at *;rw[NT,NT];simp only[ne_eq,KU]at *;omega
theorem Zwe(a b:Plc){m:Nat}(h:m<20):((Qo a b (20-(m+1)):Nat)+((idB a m:Nat)+(idB b m:Nat)):Int) % 256=(idB (a+b) m:Nat)∧((Qo a b (20-(m+1)):Nat)+((idB a m:Nat)+(idB b m:Nat)):Int) / 256=(Qo a b (20-m):Nat):=by
 have h1:=Zmp a b (k:=19-m) jD;grind
theorem Zhm(x:Plc){m:Nat}(h:m<20){v:Int}(d:v=(idB x m:Nat)):(Of x (20-(m+1))).set m (.int .u8 v)=Of x (20-m):=by
 have:=Zce x (k:=19-m) jD (v:=v) (by rw[show 19-(19-m)=m by omega];exact d);grind
theorem Zze{k:Nat}(h:k<160){j:Nat}(hj:j=19-k / 8){v:Int}(g:v=((2 ^ (k % 8):Nat):Int))(d:j<20):(idV 0).set j (.int .u8 v) d=idV (To k):=by
 subst hj;exact Yaq h g
theorem Zsf{k:Nat}:IntKind.u8.wrap (1 * 2 ^ (min ((k % 8:Nat):Int).toNat IntKind.u8.bits))=((2 ^ (k % 8):Nat):Int):=by
 have h:k % 8<8:=G5 _ jM;generalize k % 8=j at h;have:j=0∨j=1∨j=2∨j=3∨j=4∨j=5∨j=6∨j=7:=by omega
 rcases this with rfl|rfl|rfl|rfl|rfl|rfl|rfl|rfl <;> decide
end Go.Esp
namespace Go.Esp
def Cj{α:Type}(p:α→Bool)(l:List α):Int:=if l.any p then(l.findIdx p:Int)else -1
theorem Zii{α:Type}{p:α→Bool}{l:List α}{k:Nat}(hk:k<l.length)(h1:∀ j (h:j<k),p (l[j]'(by omega))=false)(h2:p l[k]=true):Cj p l=k:=by
 unfold Cj;rw[A6 (List.any_eq_true.2 ⟨_,C1 hk,h2⟩)];congr 1;exact(List.findIdx_eq hk).2 ⟨h2,fun j hj=>by simpa using h1 j hj⟩
theorem Dk{α:Type}{p:α→Bool}{l:List α}(h:∀ j (h:j<l.length),p l[j]=false):Cj p l=-1:=by
 unfold Cj;rw[A4];intro ha;obtain⟨x,hx,d⟩:=List.any_eq_true.1 ha;obtain⟨j,hj,rfl⟩:=E2 hx;rw[h j hj]at d;cases d
theorem Zih{α:Type}{p:α→Bool}{l:List α}:decide (0≤Cj p l)=l.any p:=by
 unfold Cj;by_cases h:l.any p=true
 ·rw[A6 h,h];simp
 rw[A4 h];simp at h;simp;exact h
end Go.Esp
namespace Go.Esp
def Yf(a:Int):Prop:=0≤a∧a≤999
instance (a:Int):Decidable (Yf a):=by unfold Yf;exact inferInstance
def Yj:Zr:=⟨-1,0⟩
def Ys(s p:Zr):Prop:=Yf p.addr∧p.addr≠s.addr∧p.id≠s.id
instance (s p:Zr):Decidable (Ys s p):=by unfold Ys;exact inferInstance
def RC(s p:Zr):Prop:=p=Yj∨Ys s p
instance (s p:Zr):Decidable (RC s p):=by unfold RC;exact inferInstance
def PQ(l:List Zr)(a:Int):Prop:=a∈l.map Zr.addr
instance (l:List Zr)(a:Int):Decidable (PQ l a):=by unfold PQ;exact inferInstance
structure Tb where
  self:Zr
  pred:Zr
  succ:List Zr
  fingers:List Zr
  deriving DecidableEq
def ZK.tb(t:ZK):Tb:=⟨t.self,t.pred,t.succ.l,t.fingers.l⟩
def Qq(s:Zr)(l:List Zr):Prop:=(∀ p∈l,Ys s p)∧(l.map Zr.addr).Nodup
instance (s:Zr)(l:List Zr):Decidable (Qq s l):=by unfold Qq;exact inferInstance
def TG(t:Tb):Prop:=Yf t.self.addr∧RC t.self t.pred∧t.succ.length≤8∧t.fingers.length=160∧Qq t.self t.succ∧∀ p∈t.fingers,RC t.self p
instance (t:Tb):Decidable (TG t):=by unfold TG;exact inferInstance
def Tb.zero:Tb:=⟨⟨0,0⟩,⟨0,0⟩,[],[]⟩
def Au(self:Zr):Tb×Int:=if Yf self.addr then(⟨self,Yj,[],List.replicate 160 Yj⟩,0)else(Tb.zero,1)
def Yv(t:Tb):Zr:=t.succ.headD t.self
def TH(t:Tb)(p:Zr):Prop:=Ys t.self p∧Uh t.self.id p.id (Yv t).id
instance (t:Tb)(p:Zr):Decidable (TH t p):=by unfold TH;exact inferInstance
def Wk(s:Zr)(r:Int):List Zr→List Zr→List Zr
 | acc,[]=>acc
 | acc,p::rest=>if ¬Ys s p∨(acc.length:Int)=r then acc else if PQ acc p.addr then Wk s r acc rest else Wk s r (acc++[p]) rest
def VJ(t:Tb)(first:Zr)(rest:List Zr)(r:Int):Tb×Int :=
 if TG t∧Ys t.self first∧1≤r∧r≤8 then({ t with succ:=Wk t.self r [first] rest },0)else(Tb.zero,1)
def WO(t:Tb)(p:Zr):Tb:=if TG t∧Ys t.self p∧(t.pred=Yj∨Uh t.pred.id p.id t.self.id)then { t with pred:=p }else t
def Gh(s p:Zr)(j:Nat):Bool:=decide (RL s.id (s.id+To j) p.id)
def WA(s p:Zr)(k:Nat):Nat→Nat→Nat
 | j,0=>j
 | j,n+1=>if k<j∧Gh s p j=false then j else WA s p k (j+1) n
def Tt(t:Tb)(p:Zr):Zr:=if p=t.self then Yj else p
def WF(t:Tb)(k:Int)(p:Zr):Tb×Int×Int :=
 if TG t∧(0≤k∧k<160)∧(p=t.self∨Ys t.self p)then
  let e:=WA t.self p k.toNat k.toNat (160-k.toNat);({ t with fingers:=t.fingers.take k.toNat++List.replicate (e-k.toNat) (Tt t p)++t.fingers.drop e },if e=160 then 0 else e,0)
 else(Tb.zero,0,1)
def Xd(t:Tb)(a:Int):Tb :=
 ⟨t.self,if t.pred.addr=a then Yj else t.pred,t.succ.filter (fun p=>p.addr≠a),t.fingers.map (fun p=>if p.addr=a then Yj else p)⟩
def AG(p:Zr):List Zr→List Zr
 | []=>[p]
 | q::l=>if q.addr<p.addr then q::AG p l else p::q::l
def Uc(s:Zr)(out:List Zr)(p:Zr):List Zr:=if p.addr<0∨p.addr=s.addr∨PQ out p.addr then out else AG p out
def Wy(t:Tb):List Zr:=(t.pred::(t.succ++t.fingers)).foldl (Uc t.self) []
def Vb(s:Zr)(id:Plc)(avoid:List Int)(b:Zr×Bool)(p:Zr):Zr×Bool :=
 if p.addr∈avoid∨¬Uh s.id p.id id then b else if b.2=false∨Uh b.1.id p.id id then(p,true)else b
def YJ(t:Tb)(id:Plc)(avoid:List Int):Zr×Bool:=(Wy t).foldl (Vb t.self id avoid) (Yj,false)
def WV(t:Tb)(id:Plc):Zr×Bool:=(Yv t,decide (RL t.self.id id (Yv t).id))
theorem Zuk{l:List Zr}{a:Int}:(l.any fun p=>decide (p.addr=a))=decide (PQ l a):=by
 rw[Bool.eq_iff_iff];simp[PQ]
theorem No{s:Zr}{l:List Zr}{k:Nat}(hk:k<l.length):Qq s (l.take (k+1))↔Qq s (l.take k)∧Ys s l[k]∧¬PQ (l.take k) l[k].addr:=by
 have e:l.take (k+1)=l.take k++[l[k]]:=by rw[C9,A7 hk];rfl
 unfold Qq PQ;grind
theorem In{s:Zr}{l:List Zr}(h:Qq s l)(k:Nat):Qq s (l.take k):=⟨fun p d=>h.1 p (F9 d),h.2.sublist ((List.take_sublist k l).map _)⟩
def TabIs(M:Mem)(v:Value)(T:Tb):Prop:=∃ t:ZK,v=t.enc∧t.tb=T∧ZK.ok M t
theorem Uq{M:Mem}{sa:Int}{d:Plc}{pa:Int}{pi:Plc}{s1 s2:Sl Zr}{v1 v2:Value}{T:Tb}(h1:v1=s1.val)(h2:v2=s2.val)(j:SlK M Zr.segs 21 s1)(g:SlK M Zr.segs 21 s2)(v:(⟨⟨sa,d⟩,⟨pa,pi⟩,s1.l,s2.l⟩:Tb)=T):
 TabIs M (WX [.one (.int .i64 sa),ZU d,.one (.int .i64 pa),ZU pi,.one v1,.one v2]) T:=by
 subst h1 h2;exact⟨⟨⟨sa,d⟩,⟨pa,pi⟩,s1,s2⟩,rfl,v,⟨j,g⟩⟩
theorem Sb{M:Mem}:TabIs M (WX [.one (.int .i64 0),ZU 0,.one (.int .i64 0),ZU 0,.one (.slice none 0 0),.one (.slice none 0 0)]) Tb.zero:=⟨ZK.zero,rfl,rfl,ZK.zero_ok M⟩
def Zzx(M:Mem)(v:Value)(r:Tb×Int):Prop:=∃ u,v=.tuple #[u,.int .i64 r.2]∧TabIs M u r.1
theorem MY{t:ZK}(h:TG t.tb):t.succ.l.length≤40∧t.fingers.l.length≤200:=by
 obtain⟨_,_,h1,h2,_⟩:=h;simp only[ZK.tb]at h1 h2;omega
def kept{α:Type}(p:α→Bool)(l:List α):List α:=l.filter (fun x=>!p x)
theorem Zhs{α:Type}{p:α→Bool}{l:List α}(h:Cj p l=-1):kept p l=l:=by
 unfold Cj at h;split at h
 ·grind
 rename_i h1;unfold kept;simp_all
theorem Zig{α:Type}{p:α→Bool}{l:List α}(h:Cj p l≠-1):∃ i,Cj p l=(i:Nat)∧∃ hi:i<l.length,kept p (l.take (i+1))=l.take i∧p l[i]=true:=by
 unfold Cj at h ⊢;split
 ·rename_i h1;have hi:l.findIdx p<l.length:=List.findIdx_lt_length_of_exists (by simpa using h1);refine⟨l.findIdx p,rfl,hi,?_,List.findIdx_getElem (w:=hi)⟩;unfold kept;rw[C9,A7 hi,List.filter_append];have d:(l.take (l.findIdx p)).filter (fun x=>!p x)=l.take (l.findIdx p):=by
   rw[List.filter_eq_self];intro x hx;obtain⟨j,hj,rfl⟩:=List.mem_take_iff_getElem.1 hx;have:=List.not_of_lt_findIdx (p:=p) (xs:=l) (i:=j) jD;simp[this]
  grind
 grind
theorem My{α:Type}{p:α→Bool}{l:List α}{j:Nat}(hj:j<l.length):kept p (l.take (j+1))=if p l[j]then kept p (l.take j)else kept p (l.take j)++[l[j]]:=by
 unfold kept;rw[C9,A7 hj,List.filter_append];grind
theorem Zoi{α:Type}{w l:List α}{i j:Nat}{q:List α}(hw:w.length=l.length)(d:i<j)(hj:j<l.length)(h1:w.take i=q)(h2:w.drop j=l.drop j):(w.set i l[j]).length=l.length∧(w.set i l[j]).take (i+1)=q++[l[j]]∧(w.set i l[j]).drop (j+1)=l.drop (j+1):=by
 refine⟨by simpa using hw,?_,?_⟩
 ·rw[C9,List.getElem?_set_self jD,List.take_set_of_le (B9 i),h1];rfl
 rw[List.drop_set_of_lt jD];have:=A9 (List.drop 1) h2;simpa[E5]using this
theorem NC{α:Type}{w l:List α}{j:Nat}(hw:w.length=l.length)(hj:j<l.length)(h2:w.drop j=l.drop j):w[j]'(by omega)=l[j]:=by
 have g:=G4 (l:=w) (i:=j) jD;have d:=G4 (l:=l) (i:=j) hj;grind
theorem Zht{l:List Zr}{a:Int}:kept (fun p=>decide (p.addr=a)) l=l.filter (fun p=>p.addr≠a):=by
 unfold kept;congr 1;funext p;simp
def Ic(a:Int)(p:Zr):Zr:=if p.addr=a then Yj else p
theorem Eh{α:Type}{w l:List α}{f:α→α}{k:Nat}(hw:w.length=l.length)(hk:k<l.length)(h1:w.take k=(l.take k).map f)(h2:w.drop k=l.drop k){x:α}(hx:x=f l[k]):
 (w.set k x).length=l.length∧(w.set k x).take (k+1)=(l.take (k+1)).map f∧(w.set k x).drop (k+1)=l.drop (k+1):=by
 refine⟨by simpa using hw,?_,?_⟩
 ·rw[C9,List.getElem?_set_self jD,List.take_set_of_le (B9 k),h1,C9,A7 hk,C6,hx];rfl
 rw[List.drop_set_of_lt jD];have:=A9 (List.drop 1) h2;simpa[E5]using this
theorem Ei{α:Type}{w l:List α}{f:α→α}{k:Nat}(hw:w.length=l.length)(hk:k<l.length)(h1:w.take k=(l.take k).map f)(h2:w.drop k=l.drop k)(hx:l[k]=f l[k]):
 w.take (k+1)=(l.take (k+1)).map f∧w.drop (k+1)=l.drop (k+1):=by
 constructor
 ·rw[C9,A7 jD,NC hw hk h2,h1,C9,A7 hk,C6];simp[← hx]
 have:=A9 (List.drop 1) h2;simpa[E5]using this
def Yag(r:Zr×Bool):Value:=.tuple #[r.1.enc,.bool r.2]
end Go.Esp
namespace Go.Esp
theorem GW{P:Program}{e:Env}{M:Mem}{H:Hp}{n:Nat}{fn:Func}{R:Ending→World→Prop}{x:Exit}{vs:List Value}(hx:x=.normal∨x=.ret)(d:Res P e H fn.results.toList vs)(h:∀ w,St M H w→R (.returned (Zmb vs)) w):
 K ⟨n,[],none,[]⟩ (bodyPostM (Fr none) 0 P fn R) x (St M H) e:=HB (Ds:=[]) (Hd:=[]) hx d (fun _ hw=>hw) jQ jQ h
section
variable {P:Program} {n:Sh} {Q:Exit→Act→World→Prop} {M:Mem} {H H0:Hp} {e:Env} {x:Exit} {c:Code}
theorem OSl.frz{α:Type}{T sz k d:Nat}{f:α→Segs}{l:List α}{g:Option Addr}{hs:Hp}(j:OSl T sz (.slice g k d) hs (l.map f)){w:World}(hw:St M (hs++H) w):∃ M',M.le M'∧St M' H w∧SlK M' f sz ⟨g,d,l⟩:=by
 obtain⟨M',⟨a',c',B⟩,h1,h2,h3,y,v⟩:=j.freezeK hw;simp only[Sl.val]at h3;grind
theorem Yac{α:Type}{T sz k d:Nat}{f:α→Segs}{l:List α}{g:Option Addr}{hs:Hp}(j:OSl T sz (.slice g k d) hs (l.map f))(v:Rem hs H H0)(h:∀ M',M.le M'→SlK M' f sz ⟨g,d,l⟩→K n Q x (St M' H0) e):K n Q x (St M H) e:=by
 intro a w ha hw;obtain⟨M',h1,h2,h3⟩:=j.frz (hw.perm v.perm);exact h M' h1 h3 a w ha h2
theorem Pn{α:Type}{T sz k d:Nat}{f:α→Segs}{l:List α}{g:Option Addr}{hs:Hp}(j:OSl T sz (.slice g k d) hs (l.map f))(v:Rem hs H H0)(h:∀ M',M.le M'→SlK M' f sz ⟨g,d,l⟩→C P n c Q (St M' H0) e):C P n c Q (St M H) e:=by
 intro a w ha hw;obtain⟨M',h1,h2,h3⟩:=j.frz (hw.perm v.perm);exact h M' h1 h3 a w ha h2
end
def Ybb(M:Mem)(v:Value)(l:List Zr):Prop:=∃ s:Sl Zr,v=s.val∧s.l=l∧SlK M Zr.segs 21 s
theorem SZ{α β:Type}{f:β→α→β}{b:β}{l:List α}{k:Nat}(hk:k<l.length):(l.take (k+1)).foldl f b=f ((l.take k).foldl f b) l[k]:=by
 rw[C9,A7 hk,I4];rfl
def ptW{α:Type}(l:List α)(k j:Nat)(f:α):List α:=l.take k++List.replicate (j-k) f++l.drop j
theorem CK{α:Type}{l:List α}{k j:Nat}{f:α}(hk:k≤j)(hj:j≤l.length):(ptW l k j f).length=l.length:=by
 unfold ptW;simp only[B3,D8,List.length_replicate,F3];omega
theorem EB{α:Type}{l:List α}{k:Nat}{f:α}:ptW l k k f=l:=by
 unfold ptW;simp
theorem HS{α:Type}{l:List α}{k j:Nat}{f:α}(hk:k≤j)(hj:j<l.length):(ptW l k j f).set j f=ptW l k (j+1) f:=by
 unfold ptW;have d:(l.take k++List.replicate (j-k) f).length=j:=by simp only[B3,D8,List.length_replicate];omega
 rw[List.set_append,A4 jD,d,Nat.sub_self,G4 hj,List.set_cons_zero,show j+1-k=(j-k)+1 by omega,List.replicate_succ',← B5,B5 (l.take k++List.replicate (j-k) f)];rfl
theorem Qc{s p:Zr}{k j:Nat}(hj:j<160)(h:¬(k<j∧Gh s p j=false)):WA s p k j (160-j)=WA s p k (j+1) (160-(j+1)):=by
 rw[show 160-j=(160-(j+1))+1 by omega]
 conv=>lhs;unfold WA
 rw[A4 h]
theorem Md{s p:Zr}{k j:Nat}(hj:j<160)(h1:k<j)(h2:Gh s p j=false):WA s p k j (160-j)=j:=by
 unfold WA;grind
theorem KT{s p:Zr}{k:Nat}:∀{n j:Nat},j≤WA s p k j n∧WA s p k j n≤j+n
 | 0,j=>⟨B9 _,B9 _⟩
 | n+1,j=>by
  unfold WA;split
  ·omega
  have:=KT (s:=s) (p:=p) (k:=k) (n:=n) (j:=j+1);omega
theorem ED{t:Tb}{k j:Nat}{p:Zr}(h1:TG t)(hk:k<160)(d:p=t.self∨Ys t.self p)(he:WA t.self p k k (160-k)=j):
 WF t k p=({ t with fingers:=ptW t.fingers k j (Tt t p) },if j=160 then 0 else(j:Int),0):=by
 unfold WF;rw[A6 ⟨h1,by omega,d⟩];simp only[Int.toNat_natCast];rw[he];rfl
theorem Mc{t:Tb}{k j:Nat}{p f:Zr}{n:Int}(h1:TG t)(hk:k<160)(g:p=t.self∨Ys t.self p)(he:WA t.self p k k (160-k)=j)(v:Tt t p=f)(d:(if j=160 then 0 else(j:Int))=n):
 WF t k p=({ t with fingers:=ptW t.fingers k j f },n,0):=by
 rw[ED h1 hk g he,v,d]
theorem Ob{t:Tb}{k:Int}{p:Zr}(h:¬(TG t∧(0≤k∧k<160)∧(p=t.self∨Ys t.self p))):WF t k p=(Tb.zero,0,1):=A4 h
def Zyc(M:Mem)(v:Value)(r:Tb×Int×Int):Prop:=∃ u,v=.tuple #[u,.int .i64 r.2.1,.int .i64 r.2.2]∧TabIs M u r.1
def TD(s:Plc)(k:Nat):List (Nat×Plc):=(List.range' k (160-k)).map fun j=>(j,s+To j)
theorem It{s:Plc}{k j:Nat}(hj:k≤j)(h:j<160):TD s k=((List.range' k (j-k)).map fun j=>(j,s+To j))++(j,s+To j)::TD s (j+1):=by
 unfold TD;rw[show 160-k=(j-k)+((160-(j+1))+1)by omega,← List.range'_append_1,C6,show k+(j-k)=j by omega,List.range'_succ];rfl
theorem Cx{s:Plc}{k j:Nat}(hj:k≤j):(((List.range' k (j+1-k)).map fun j=>(j,s+To j)):List (Nat×Plc))=((List.range' k (j-k)).map fun j=>(j,s+To j))++[(j,s+To j)]:=by
 rw[show j+1-k=(j-k)+1 by omega,List.range'_1_concat,C6,show k+(j-k)=j by omega];rfl
theorem NU{s:Plc}{k:Nat}{pre post:List (Nat×Plc)}{x:Nat×Plc}(hx:TD s k=pre++x::post):k+pre.length<160∧x=(k+pre.length,s+To (k+pre.length)):=by
 have d:=A9 List.length hx;unfold TD at d hx;have g:=A9 (fun l=>l[pre.length]?) hx;grind
end Go.Esp
namespace Go.Esp
def Zmf(x y:Int):Int:=if x<y then -1 else if y<x then 1 else 0
def VU(s:Zr)(acc:List Zr)(p:Zr):List Zr:=if 0≤p.addr∧p.addr≠s.addr∧¬PQ acc p.addr then acc++[p]else acc
def Yar(t:Tb):List Zr:=(t.pred::(t.succ++t.fingers)).foldl (VU t.self) []
theorem Jm{p:Zr}:∀{l:List Zr},(AG p l).Perm (p::l)
 | []=>.refl _
 | q::l=>by
  unfold AG;split
  ·exact(Jm.cons q).trans (.swap _ _ _)
  exact .refl _
theorem Jl{p:Zr}:∀{l:List Zr},l.Pairwise (fun a b=>a.addr<b.addr)→¬PQ l p.addr→(AG p l).Pairwise (fun a b=>a.addr<b.addr)
 | [],_,_=>List.pairwise_singleton _ _
 | q::l,h,hn=>by
  obtain⟨h1,h2⟩:=D6.1 h;have v:p.addr≠q.addr:=fun e=>hn (by unfold PQ;rw[D3,e];exact .head _);have j:¬PQ l p.addr:=fun e=>hn (by unfold PQ at *;rw[D3];exact .tail _ e);unfold AG;split
  ·rename_i d;refine D6.2 ⟨fun a ha=>?_,Jl h2 j⟩;rcases B7.1 (Jm.mem_iff.1 ha)with rfl|ha
   ·exact d
   exact h1 a ha
  rename_i g;refine D6.2 ⟨fun a ha=>?_,h⟩;rcases B7.1 ha with rfl|ha
  ·omega
  have:=h1 a ha;omega
theorem Jt{l d:List Zr}(h:l.Perm d){a:Int}:PQ l a↔PQ d a:=(h.map Zr.addr).mem_iff
theorem Og{s:Zr}:∀{xs out acc:List Zr},out.Perm acc→out.Pairwise (fun a b=>a.addr<b.addr) →
 (xs.foldl (Uc s) out).Perm (xs.foldl (VU s) acc)∧(xs.foldl (Uc s) out).Pairwise (fun a b=>a.addr<b.addr)
 | [],out,acc,h1,h2=>⟨h1,h2⟩
 | p::xs,out,acc,h1,h2=>by
  rw[G6,G6];unfold Uc VU;by_cases d:p.addr<0∨p.addr=s.addr∨PQ out p.addr
  ·rw[A6 d,A4 (by rintro⟨g1,g2,g3⟩;rcases d with d|d|d;omega;exact g2 d;exact g3 ((Jt h1).1 d))];exact Og h1 h2
  rw[A4 d,A6 ⟨by have:¬p.addr<0:=fun h=>d (.inl h);omega,fun h=>d (.inr (.inl h)),fun h=>d (.inr (.inr ((Jt h1).2 h)))⟩];exact Og (Jm.trans ((h1.cons p).trans (List.perm_append_singleton p acc).symm)) (Jl h2 fun h=>d (.inr (.inr h)))
theorem Iv:∀{l d:List Zr},l.Perm d→l.Pairwise (fun a b=>a.addr<b.addr)→d.Pairwise (fun a b=>a.addr≤b.addr)→l=d
 | [],d,h,_,_=>(h.symm.eq_nil).symm
 | a::l,[],h,_,_=>(h.eq_nil)
 | a::l,b::d,h,h1,h2=>by
  obtain⟨g1,g2⟩:=D6.1 h1;obtain⟨g3,g4⟩:=D6.1 h2;have j:a=b:=by
   rcases B7.1 (h.mem_iff.1 (.head _):a∈b::d)with e|e
   ·exact e
   rcases B7.1 (h.mem_iff.2 (.head _):b∈a::l)with g|g
   ·exact g.symm
   have:=g1 b g;have:=g3 a e;omega
  subst j;rw[Iv (h.cons_inv) g2 g4]
theorem Zoh{t:Tb}{l:List Zr}(h1:l.Perm (Yar t))(h2:l.Pairwise (fun a b=>a.addr≤b.addr)):l=Wy t:=by
 have h:=Og (s:=t.self) (xs:=t.pred::(t.succ++t.fingers)) (I9 []) J8;exact(Iv (h.1.trans h1.symm) h.2 h2).symm
theorem Kh{s p:Zr}{xs:List Zr}{acc:List Zr}(h:acc=xs.foldl (VU s) []):(xs++[p]).foldl (VU s) []=VU s acc p:=by
 rw[I4,← h];rfl
theorem Zje{rows:List (Sl Zr)}{i k:Nat}{a:Option Addr}{c:Nat}{l:List Zr}(hi:i<rows.length)(d:rows[i]=⟨a,c,l⟩)(hk:k<l.length):
 (rows.map Sl.l).flatten=(((rows.take i).map Sl.l).flatten++l.take k)++l[k]::(l.drop (k+1)++((rows.drop (i+1)).map Sl.l).flatten):=by
 conv=>lhs;rw[← F0 i rows,G4 hi,d]
 conv=>lhs;rw[← F0 k l,G4 hk]
 grind
theorem Mw{rows:List (Sl Zr)}{i:Nat}{a:Option Addr}{c:Nat}{l:List Zr}(hi:i<rows.length)(d:rows[i]=⟨a,c,l⟩):((rows.take (i+1)).map Sl.l).flatten=((rows.take i).map Sl.l).flatten++l:=by
 rw[C9,A7 hi,d];simp
theorem Zjd{rows:List (Sl Zr)}{i k:Nat}{a:Option Addr}{c:Nat}{l:List Zr}(hi:i<rows.length)(d:rows[i]=⟨a,c,l⟩)(hk:k<l.length):
 (rows.map Sl.l).flatten=((((rows.take i).map Sl.l).flatten++l.take k)++[l[k]])++(l.drop (k+1)++((rows.drop (i+1)).map Sl.l).flatten):=by
 rw[Zje hi d hk,B5 _ [l[k]]];rfl
theorem KZ{s b p i:Plc}(h1:Uh s b i)(h2:Uh s p i):Uh b p i↔WY (b-s) (p-s):=by
 obtain⟨B,rfl⟩:∃ B,b=B+s:=⟨b-s,(BitVec.sub_add_cancel b s).symm⟩
 obtain⟨Q,rfl⟩:∃ Q,p=Q+s:=⟨p-s,(BitVec.sub_add_cancel p s).symm⟩
 obtain⟨I,rfl⟩:∃ I,i=I+s:=⟨i-s,(BitVec.sub_add_cancel i s).symm⟩
 unfold Uh WY at *;have e:∀ x y:Plc,(x+s=y+s)↔x=y:=fun x y=>⟨fun h=>by have:=A9 (·-s) h;simpa[BitVec.add_sub_cancel]using this,fun h=>by rw[h]⟩
 have d:∀ x:Plc,(x+s=s)↔x=0:=fun x=>by have:=e x 0;simpa using this
 have g:∀ x:Plc,(s=x+s)↔x=0:=fun x=>by rw[eq_comm,d]
 simp only[ne_eq,d]at *;have q1:=B.isLt;have q2:=Q.isLt;have q3:=I.isLt;have z:∀ x:Plc,x=0↔x.toNat=0:=fun x=>⟨fun h=>by rw[h];rfl,fun h=>J5 h⟩
 grind
end Go.Esp
namespace Go.Esp
theorem Ip{t:Tb}{p:Zr}(h:TG t):TG (WO t p):=by
 unfold WO;split
 ·rename_i d;obtain⟨h1,h2,h3,j,g,v⟩:=h;exact⟨h1,.inr d.2.1,h3,j,g,v⟩
 exact h
theorem Tf{t:Tb}{a:Int}(h:TG t):TG (Xd t a):=by
 obtain⟨h1,h2,h3,y,g,v⟩:=h;refine⟨h1,?_,?_,?_,⟨?_,?_⟩,?_⟩
 ·show RC t.self (if t.pred.addr=a then Yj else t.pred);split
  ·exact .inl rfl
  exact h2
 ·exact H7 (List.length_filter_le _ _) h3
 ·show(t.fingers.map _).length=160;grind
 ·intro p d;exact g.1 p (F6.1 d).1
 ·exact g.2.sublist (List.filter_sublist.map _)
 intro p d;obtain⟨q,j,rfl⟩:=C0.1 d;split
 ·exact .inl rfl
 exact v q j
theorem Nq{s:Zr}{r:Int}:∀{rest acc:List Zr},Qq s acc→(acc.length:Int)≤r→Qq s (Wk s r acc rest)∧((Wk s r acc rest).length:Int)≤r
 | [],acc,h1,h2=>⟨h1,h2⟩
 | p::rest,acc,h1,h2=>by
  unfold Wk;split
  ·exact⟨h1,h2⟩
  rename_i g;split
  ·exact Nq h1 h2
  rename_i v;have B:Ys s p:=C2 fun h=>g (.inl h);have C:¬(acc.length:Int)=r:=fun h=>g (.inr h);refine Nq ⟨fun q d=>?_,?_⟩ (by rw[B3,I6];omega)
  ·rcases B8.1 d with d|d
   ·exact h1.1 q d
   rw[B0.1 d];exact B
  rw[C6,H3];refine⟨h1.2,by simp,fun x hx y j e=>v ?_⟩;rw[List.map_singleton,B0]at j;unfold PQ;rw[← j,← e];exact hx
theorem NI{s:Zr}{r:Int}{p:Zr}:∀{rest acc:List Zr},acc.head?=some p→(Wk s r acc rest).head?=some p
 | [],acc,h=>h
 | q::rest,acc,h=>by
  unfold Wk;split
  ·exact h
  split
  ·exact NI h
  refine NI ?_;cases acc with
  | nil=>cases h
  | cons a l=>exact h
theorem Zba{t:Tb}{p:Zr}{l:List Zr}{r:Int}(h:TG t)(he:(VJ t p l r).2=0):TG (VJ t p l r).1∧Yv (VJ t p l r).1=p∧((VJ t p l r).1.succ.length:Int)≤r:=by
 unfold VJ at *;split at he
 ·rename_i d;rw[A6 d];obtain⟨h1,h2,h3,g,D,C⟩:=h;obtain⟨_,y,v,B⟩:=d;have hk:=Nq (rest:=l) (s:=t.self) (r:=r) (acc:=[p]) ⟨fun q j=>by rw[B0.1 j];exact y,by simp⟩ jU;refine⟨⟨h1,h2,?_,g,hk.1,C⟩,?_,hk.2⟩
  ·grind
  have:=NI (s:=t.self) (r:=r) (p:=p) (rest:=l) (acc:=[p]) rfl;show(Wk t.self r [p] l).headD t.self=p;grind
 cases he
theorem KS{s p:Zr}{k:Nat}(hk:k<160):k<WA s p k k (160-k)∧WA s p k k (160-k)≤160:=by
 rw[Qc hk (by rintro⟨h,_⟩;omega)];have:=KT (s:=s) (p:=p) (k:=k) (n:=160-(k+1)) (j:=k+1);omega
theorem Zaz{t:Tb}{p:Zr}{k:Int}(h:TG t)(he:(WF t k p).2.2=0):TG (WF t k p).1∧0≤(WF t k p).2.1∧(WF t k p).2.1<160∧((WF t k p).2.1=0∨k<(WF t k p).2.1):=by
 by_cases hc:TG t∧(0≤k∧k<160)∧(p=t.self∨Ys t.self p)
 ·obtain⟨_,⟨g,C⟩,B⟩:=hc;obtain⟨n,rfl⟩:=Int.eq_ofNat_of_zero_le g;have y:n<160:=by omega
  obtain⟨g1,g2⟩:=KS (s:=t.self) (p:=p) y;have e:=ED (t:=t) (k:=n) (p:=p) h y B rfl;rw[show WF t (n:Nat) p=_ from e];generalize hj:WA t.self p n n (160-n)=j at *;obtain⟨h1,h2,h3,F,D,K⟩:=h;refine⟨⟨h1,h2,h3,?_,D,?_⟩,?_,?_,?_⟩
  ·show(ptW t.fingers n j _).length=160;rw[CK jD jD];exact F
  ·intro q d;rcases B8.1 d with d|d
   ·rcases B8.1 d with d|d
    ·grind
    obtain⟨_,rfl⟩:=List.mem_replicate.1 d;unfold Tt;split
    ·exact .inl rfl
    rename_i v;exact .inr (B.resolve_left v)
   grind
  all_goals (show _;dsimp only;split <;> omega)
 rw[Ob hc]at he;cases he
end Go.Esp
namespace Go.Esp
structure Lt where
  kind:Int
  frm:Zr
  req:Int
  id:Plc
  avoid:List Int
  done:Bool
  peer:Zr
  peers:List Zr
  deriving DecidableEq
structure Snd where
  to:Int
  letter:Lt
  deriving DecidableEq
structure Nd where
  table:Tb
  copies:Int
  joined:Bool
  boot:Int
  cursor:Int
  req:Int
  askTo:Int
  askReq:Int
  pingTo:Int
  pingReq:Int
  findTo:Int
  findReq:Int
  findID:Plc
  avoid:List Int
  hops:Int
  turn:Int
  deriving DecidableEq
def Nd.zero:Nd:=⟨Tb.zero,0,false,0,0,0,0,0,0,0,0,0,0,[],0,0⟩
def Xe(s:Zr)(a:Int):Prop:=(-1≤a∧a≤999)∧a≠s.addr
instance (s:Zr)(a:Int):Decidable (Xe s a):=by unfold Xe;exact inferInstance
def Ui(n:Nd):Prop :=
 TG n.table∧(1≤n.copies∧n.copies≤8)∧(n.joined=true∨n.boot≠-1)∧(0≤n.cursor∧n.cursor≤159)∧n.avoid.length≤16∧(0≤n.hops∧n.hops≤64)∧(0≤n.turn∧n.turn≤999999) ∧
 (Xe n.table.self n.boot∧Xe n.table.self n.askTo∧Xe n.table.self n.pingTo∧Xe n.table.self n.findTo)∧∀ a∈n.avoid,Yf a
instance (n:Nd):Decidable (Ui n):=by unfold Ui;exact inferInstance
def Ue(k:Int):Prop:=k=1∨k=2∨k=3∨k=6∨k=7∨k=4
instance (k:Int):Decidable (Ue k):=by unfold Ue;exact inferInstance
def Vm(k:Int):Prop:=k=2∨k=4∨k=8
instance (k:Int):Decidable (Vm k):=by unfold Vm;exact inferInstance
def Wn(k:Int):Prop:=k=4∨k=8
instance (k:Int):Decidable (Wn k):=by unfold Wn;exact inferInstance
def SP(l:Lt):Prop :=
 (1≤l.kind∧l.kind≤8)∧Yf l.frm.addr∧l.avoid.length≤16∧l.peers.length≤8∧(l.peer=Yj∨Yf l.peer.addr)∧¬(l.peer=Yj∧l.kind=2) ∧
 (Ue l.kind∨l.req=0)∧(l.kind=1∨l.id=0)∧(l.kind=1∨l.avoid=[])∧(l.kind=2∨l.done=false)∧(Vm l.kind∨l.peer=Yj)∧(Wn l.kind∨l.peers=[]) ∧
 (∀ a∈l.avoid,Yf a)∧∀ p∈l.peers,Yf p.addr
instance (l:Lt):Decidable (SP l):=by unfold SP Ue Vm Wn;exact inferInstance
def nxR(r:Int):Int:=(r+1) % 18446744073709551616
def QC(n:Nd)(kind req:Int):Lt:=⟨kind,n.table.self,req,0,[],false,Yj,[]⟩
def Uk(self:Zr)(r:Int):Nd×Int:=if Yf self.addr∧1≤r∧r≤8 then(⟨(Au self).1,r,true,-1,0,0,-1,0,-1,0,-1,0,0,[],0,0⟩,0)else(Nd.zero,1)
def Ur(self:Zr)(r boot:Int):Nd×Int:=if(Uk self r).2=0∧Yf boot∧boot≠self.addr then({ (Uk self r).1 with joined:=false,boot:=boot },0)else(Nd.zero,1)
def UY(n:Nd)(to:Int):Nd×List Snd :=
 ({ n with req:=nxR n.req,findTo:=to,findReq:=nxR n.req },[⟨to,{ QC n 1 (nxR n.req)with id:=n.findID,avoid:=n.avoid }⟩])
def Uf(n:Nd)(a:Int):Nd:=if a∈n.avoid∨16≤n.avoid.length then n else { n with avoid:=n.avoid++[a] }
def XO(n:Nd)(first:Zr)(rest:List Zr):Nd:=if(VJ n.table first rest n.copies).2=0 then { n with table:=(VJ n.table first rest n.copies).1 }else n
def WZ(n:Nd)(p:Zr):Nd:=if(WF n.table n.cursor p).2.2=0 then { n with table:=(WF n.table n.cursor p).1,cursor:=(WF n.table n.cursor p).2.1 }else n
def UD(n:Nd):Nd×List Snd :=
 if n.joined=false then
  let m:=if n.findTo≠-1∧n.findTo≠n.boot then Uf n n.findTo else n
  UY { m with findID:=m.table.self.id,hops:=0 } m.boot
 else
  let m:=if n.askTo≠-1 then { n with table:=Xd n.table n.askTo,askTo:=-1 }else n
  let m:=if m.table.succ=[]∧m.table.pred≠Yj then XO m m.table.pred []else m
  if m.table.succ=[]then(m,[])
  else({ m with req:=nxR m.req,askTo:=(Yv m.table).addr,askReq:=nxR m.req },[⟨(Yv m.table).addr,QC m 3 (nxR m.req)⟩])
def JB(n:Nd):Nd×List Snd :=
 if n.joined=false then(n,[])
 else
  let m:=if n.findTo=-1 then { n with avoid:=[] }else { Uf n n.findTo with table:=Xd n.table n.findTo,findTo:=-1 }
  let id:=m.table.self.id+To m.cursor.toNat
  if(WV m.table id).2 then(WZ m (WV m.table id).1,[])
  else if(YJ m.table id m.avoid).2=false then({ m with cursor:=0 },[])
  else UY { m with findID:=id,hops:=0 } (YJ m.table id m.avoid).1.addr
def UA(n:Nd):Nd×List Snd :=
 let m:=if n.pingTo≠-1 then { n with table:=Xd n.table n.pingTo,pingTo:=-1 }else n
 match Wy m.table with
 | []=>(m,[])
 | p::l =>
  let a:=(((p::l)[m.turn.toNat % (l.length+1)]?).getD Yj).addr;({ m with req:=nxR m.req,pingTo:=a,pingReq:=nxR m.req,turn:=(m.turn+1) % 1000000 },[⟨a,QC m 6 (nxR m.req)⟩])
def Vf(n:Nd)(kind:Int):Nd×List Snd×Int :=
 if Ui n∧1≤kind∧kind≤3 then
  let r:=if kind=1 then UD n else if kind=2 then JB n else UA n
  (r.1,r.2,0)
 else(Nd.zero,[],1)
def SN(n:Nd)(l:Lt):List Snd :=
 if n.joined=false then[]
 else
  let d:=WV n.table l.id;let q:=YJ n.table l.id l.avoid
  [⟨l.frm.addr,{ QC n 2 l.req with done:=d.2 || !q.2,peer:=if d.2 || !q.2 then d.1 else q.1 }⟩]
def YF(n:Nd)(l:Lt):Nd×List Snd :=
 if n.findTo≠l.frm.addr∨n.findReq≠l.req then(n,[])
 else if l.done then
  let m:={ n with findTo:=-1 }
  if n.joined=true∧(Ys n.table.self l.peer∨l.peer=n.table.self)then(WZ m l.peer,[])
  else if n.joined=false∧Ys n.table.self l.peer then({ XO m l.peer []with joined:=true,cursor:=0,avoid:=[] },[])
  else(m,[])
 else if ¬Ys n.table.self l.peer∨l.peer.addr∈n.avoid∨l.peer.addr=l.frm.addr∨32≤n.hops then({ n with findTo:=-1 },[])
 else UY { n with hops:=n.hops+1 } l.peer.addr
def Si(n:Nd)(l:Lt):Nd×List Snd :=
 if n.askTo≠l.frm.addr∨n.askReq≠l.req then(n,[])
 else
  let m:=XO { n with askTo:=-1 } l.frm l.peers;let m:=if TH m.table l.peer then XO m l.peer (l.frm::l.peers)else m
  (m,[⟨(Yv m.table).addr,QC m 5 0⟩])
def If(n:Nd)(l:Lt):Nd :=
 let t:=Xd n.table l.frm.addr;let t:=if n.table.pred.addr=l.frm.addr then WO t l.peer else t
 let m:={ n with table:=t }
 match l.peers with
 | []=>m
 | p::ps=>if(Yv n.table).addr=l.frm.addr then XO m p ps else m
def WI(n:Nd)(l:Lt):Nd×List Snd×Int :=
 if Ui n∧SP l then
  if ¬Ys n.table.self l.frm then(n,[],0)
  else if l.kind=1 then(n,SN n l,0)
  else if l.kind=2 then((YF n l).1,(YF n l).2,0)
  else if l.kind=3 then(n,if n.joined then[⟨l.frm.addr,{ QC n 4 l.req with peer:=n.table.pred,peers:=n.table.succ }⟩]else[],0)
  else if l.kind=4 then((Si n l).1,(Si n l).2,0)
  else if l.kind=5 then({ n with table:=WO n.table l.frm },[],0)
  else if l.kind=6 then(n,[⟨l.frm.addr,QC n 7 l.req⟩],0)
  else if l.kind=7 then(if n.pingTo=l.frm.addr∧n.pingReq=l.req then { n with pingTo:=-1 }else n,[],0)
  else(If n l,[],0)
 else(Nd.zero,[],1)
def Sq(n:Nd):List Snd×Int :=
 if Ui n then
  let l:={ QC n 8 0 with peer:=n.table.pred,peers:=n.table.succ }
  ((if n.table.succ=[]then[]else[⟨(Yv n.table).addr,l⟩])++(if n.table.pred≠Yj∧n.table.pred≠Yv n.table then[⟨n.table.pred.addr,l⟩]else[]),0)
 else([],1)
end Go.Esp
namespace Go.Esp
section
variable {P:Program} {n:Sh} {ops:Array Oper} {Q:Exit→Act→World→Prop} {rest:List Nat} {M M':Mem} {H H' H0:Hp} {e:Env} {J S:World→Prop} {A:As} {i:Nat}
  {dst:Option Tmp} {d:Tmp} {op:Op} {ty:TypeId} {pos:String} {af:Array Edge} {gd:Option (Nat×Bool)}
theorem Zdy{t B:TypeId}{x y:Operand}{a b c:ByteArray}(hi:ops[i]?=some ⟨some d,.binOp .add t x y B,ty,pos,af,gd⟩)(C:want ops e gd=some true)
 (hx:ev e x=some (.string a)) (v:ev e y=some (.string b)) (D:a.size+b.size≤9223372036854775807) (g:a++b=c) (j:Nat.ble (d+1) n.sz=true)
 (hk:XD P n ops Q rest J A ((d,.string c)::e)):XD P n ops Q (i::rest) J A e :=
 VA hi rfl C (fun a' w ha=>Xp (by
  subst g;simp only[execOp,ha.ev hx,ha.ev v];refine Wz ?_;have h9:¬(((a.size+b.size:Nat):Int) > IntKind.i64.max):=by
   rw[show IntKind.i64.max=(9223372036854775807:Int)by decide];omega
  simp only[binOp,Op.stringOp,A4 h9];rfl)) (fun a ha=>ha.put j _) hk
theorem ID{a':Act}{w:World}{lo hi:Option Operand}{olo ohi:Option Nat}{l c:Nat}{isS:Bool}(ha:Sat n e a')(h1:Bnd e lo olo)(h2:Bnd e hi ohi)(j:l≤c)(g:ohi.getD l≤c)(d:olo.getD 0≤ohi.getD l):
 (Instr.sliceBounds isS l c (lo.map a'.eval) (hi.map a'.eval) none).run P w=.ok (olo.getD 0,ohi.getD l,c) w:=by
 unfold Instr.sliceBounds;rw[ZY (show(pure c:Sem Nat).run P w=.ok c w from rfl)];cases h2 with
 | none =>
  simp only[Option.map_none,Option.getD_none]at g d ⊢;rw[ZY (show(pure l:Sem Nat).run P w=.ok l w from rfl)];cases h1 with
  | none=>rfl
  | some hz hzk =>
   subst hzk;simp only[E9,ha.ev hz,F7]at d ⊢;rw[ZY (VQ d)];rfl
 | some hy hyk =>
  subst hyk;simp only[E9,ha.ev hy,F7]at g d ⊢;rw[ZY (VQ g)];cases h1 with
  | none=>rfl
  | some hz hzk =>
   subst hzk;simp only[E9,ha.ev hz,F7]at d ⊢;rw[ZY (VQ d)];rfl
theorem PF{t:TypeId}{x:Operand}{lo hi:Option Operand}{olo ohi:Option Nat}{s c:ByteArray}(g:ops[i]?=some ⟨some d,.slice t x lo hi none,ty,pos,af,gd⟩)(C:want ops e gd=some true)
 (hx:ev e x=some (.string s)) (h1:Bnd e lo olo) (h2:Bnd e hi ohi) (hu:P.underlying t=some .string) (B:ohi.getD s.size≤s.size) (y:olo.getD 0≤ohi.getD s.size) (j:s.extract (olo.getD 0) (ohi.getD s.size)=c) (v:Nat.ble (d+1) n.sz=true)
 (hk:XD P n ops Q rest J A ((d,.string c)::e)):XD P n ops Q (i::rest) J A e :=
 VA g rfl C (fun a' w ha=>Xp (by
  subst j;simp only[execOp];refine Wz ?_;unfold Instr.sliceAt;rw[ZY (YP hu)];simp only[ha.ev hx];unfold Instr.slice;rw[ZY (YP hu)];simp only[Option.map_none,Option.isSome_none,Bool.false_eq_true,if_false];have hb:=ID (P:=P) (w:=w) (isS:=false) ha h1 h2 (B9 s.size) B y;rw[ZY hb];rfl)) (fun a ha=>ha.put v _) hk
theorem DT{t el b off len:Nat}{x:Operand}{lo hi:Option Operand}{olo ohi:Option Nat}{v:Value}(g:ops[i]?=some ⟨some d,.slice t x lo hi none,ty,pos,af,gd⟩)(K:want ops e gd=some true)
 (hx:ev e x=some (.pointer (some ⟨b,off,none⟩))) (h1:Bnd e lo olo) (h2:Bnd e hi ohi) (ht:Zpq P t=some (len,el)) (F:ohi.getD len≤len) (C:olo.getD 0≤ohi.getD len)
 (D:WK (some ⟨b,off,none⟩) 1 (olo.getD 0) (ohi.getD len) len=v) (B:Nat.ble (d+1) n.sz=true)
 (y:XD P n ops Q rest J A ((d,v)::e)):XD P n ops Q (i::rest) J A e :=
 VA g rfl K (fun a' w ha=>Xp (by
  subst D;simp only[execOp,ha.ev hx];refine Wz ?_;obtain⟨it,hu,j,h9⟩:=MA ht;unfold Instr.sliceAt;rw[ZY (YP hu)];simp only[Option.map_none];have hb:=ID (P:=P) (w:=w) (isS:=false) ha h1 h2 (B9 len) F C;rw[ZY (show(Instr.sureAddr (.pointer (some ⟨b,off,none⟩))).run P w=.ok ⟨b,off,none⟩ w from rfl),ZY hb,ZY (Th j)];simp only[h9];unfold WK;split <;> rfl)) (fun a ha=>ha.put B _) y
def Tm(s:ByteArray):List Value:=s.data.toList.map fun b=>.int .u8 (b.toNat:Int)
theorem Zlb{t K E C:Nat}{x y:Operand}{s:ByteArray}{b m T:Nat}{r u:Segs}{B:Array TypeId}(hi:ops[i]?=some ⟨some d,.call ⟨.builtin .copy,#[x,y],B⟩,ty,pos,af,gd⟩)(hg:want ops e gd=some true)
 (hx:ev e x=some (.slice (some ⟨b,0,Option.none⟩) m m)) (hy:ev e y=some (.string s)) (F:B=#[t,K]) (ht:Na P t=some (E,1,C)) (hs:s.size=m)
 (hu:Upd b (Yp r T) (Yp u T) H H') (hr:(Segs.cells r).length=m) (O:Segs.cells u=Tm s) (hd:Nat.ble (d+1) n.sz=true)
 (hk:XD P n ops Q rest (St M H') ⟨M,H'⟩ ((d,.int .i64 (m:Int))::e)) (D:n.wrs.contains i=false:=by rfl):XD P n ops Q (i::rest) J ⟨M,H⟩ e:=by
 subst F;refine SK hi rfl hg (fun a w ha hw=>?_) D;obtain⟨it,R,U,aa,rfl⟩:=Wq ht;have hb:=hw.own _ _ hu.mem;have ab:(Tm s).length=m:=by
  unfold Tm;rw[A8,H6];exact hs
 have g:=run_storeCells_at P b 0 T (Tm s) 0 (Segs.cells r).toArray w hb jU (fun v Z=>by
  obtain⟨b9,-,rfl⟩:=C0.1 Z;rfl)
 have L:(List.take 0 (Segs.cells r)++Tm s++List.drop (0+(Tm s).length) (Segs.cells r))=Segs.cells u:=by
  rw[O,List.take_zero,B6,F2,List.drop_eq_nil_of_le jD,E0]
 have j:(Builtin.copy_ #[t,K] ty #[.slice (some ⟨b,0,Option.none⟩) m m,.string s]).run P w=.ok (goInt m) (w.setRow b (Segs.cells u).toArray):=by
  have e9:Nat.min s.size m=m:=by rw[hs];exact Nat.min_self m
  have e8:((s.extract 0 m).data.map fun b=>Value.int .u8 (b.toNat:Int)).toList=Tm s:=by
   rw[← hs];simp[Tm]
  have V:=g;simp only[B5,F2]at V;simp[Builtin.copy_,run_underlying R,Builtin.lenOf,Builtin.firstCells,sizeOf,typeInfo,U,e9];have e7:List.take m (List.map (fun b:UInt8=>Value.int .u8 (b.toNat:Int)) s.data.toList)=Tm s:=by
   show List.take m (Tm s)=Tm s;exact H5 jD
  rw[e7,V];have e6:List.take 0 (Segs.cells r)++(Tm s++List.drop (Tm s).length (Segs.cells r))=Segs.cells u:=by
   rw[← L,F2,B5]
  rw[e6];rfl
 unfold Oper.does;have:(execOp a.eval ⟨some d,.call ⟨.builtin .copy,#[x,y],#[t,K]⟩,ty,pos,af,gd⟩).run P w=.ok (.value (.int .i64 (m:Int))) (w.setRow b (Segs.cells u).toArray):=by
  simp only[execOp,resolve];have L:#[x,y].map a.eval=#[.slice (some ⟨b,0,Option.none⟩) m m,.string s]:=by simp[ha.ev hx,ha.ev hy]
  rw[L];show(Result.ok _ w).andThen _=_;exact Wz j
 rw[this];exact⟨⟨M,H'⟩,_,hw.upd hu (setRow_heap w b _ _ T _ hb) (fun c O z hz=>by rw[setRow_other w b c _ O];exact hz) (SameIO.refl _),ha.put hd _,hk⟩
theorem PP{f:FuncId}{g:Operand}{xs:List Operand}{j:Array TypeId}{vs:List Value}{R:Value→Prop}(hi:ops[i]?=some ⟨some d,.call ⟨.value g,xs.toArray,j⟩,ty,pos,af,gd⟩)(y:NE P (.call ⟨.value g,xs.toArray,j⟩)=.eff)(O:want ops e gd=some true)
 (L:Ta P f=true) (B:ev e g=some (.func (.func f) #[] #[])) (hx:evs e xs=some vs) (D:Fs P f vs M R) (K:Nat.ble (d+1) n.sz=true)
 (hk:∀ v,R v→XD P n ops Q rest J ⟨M,H⟩ ((d,v)::e)):XD P n ops Q (i::rest) J ⟨M,H⟩ e:=by
 obtain⟨fn,h1,h2,h3⟩:=Ub L;refine Zdx hi y O (fun a F w ha hw=>Lj (caps:=[]) h1 h2 h3 (ha.ev B) zB ?_);have:=D (F++H) w hw;rw[E0];exact this.mono fun e' T ⟨v,he,hs,C⟩=>⟨v,he,⟨M,H⟩,_,hs,fun _ h=>h,ha.put K v,hk v C⟩
def Zpp(P:Program)(t:TypeId):Option (Nat×TypeId×Nat):=match P.underlying t with
 | some (.array k el)=>match P.info? el with
  | some i=>some (k,el,i.size)
  | none=>none
 | _=>none
theorem Zdq{t el k sz:Nat}(h:Zpp P t=some (k,el,sz)):∃ i,P.underlying t=some (.array k el)∧P.info? el=some i∧i.size=sz:=by
 unfold Zpp at h;grind
theorem LX{t el b off len k sz:Nat}{x v:Operand}{q:IntKind}{z:Int}(hi:ops[i]?=some ⟨some d,.indexAddr t x v,ty,pos,af,gd⟩)(D:want ops e gd=some true)
 (hx:ev e x=some (.pointer (some ⟨b,off,none⟩))) (j:ev e v=some (.int q z)) (ht:Zpp P t=some (len,el,sz)) (F:z=(k:Int)) (hk:k<len) (C:Nat.ble (d+1) n.sz=true)
 (B:XD P n ops Q rest J A ((d,.pointer (some ⟨b,off+k * sz,none⟩))::e)):XD P n ops Q (i::rest) J A e :=
 VA hi rfl D (fun a' w y=>Xp (by
  simp only[execOp,y.ev hx,y.ev j];refine Wz ?_;obtain⟨it,hu,g,h1⟩:=Zdq ht;subst F;simp[Instr.indexAt,asIntOf,run_underlying hu,sizeOf,typeInfo,g,hk,h1,Instr.sureAddr,Addr.add_lit])) (fun a ha=>ha.put C _) B
def u8R(n:Nat):Segs:=[.one (.int .u8 (n:Int))]
theorem Qv:∀ l:List Nat,ZV (l.map u8R)=(l.map fun n:Nat=>(n:Int)).map (Value.int .u8)
 | []=>rfl
 | x::l=>by
  have:=Qv l;show(Value.int .u8 (x:Int))::ZV (l.map u8R)=_;rw[this];rfl
theorem Zld{src g E F:Nat}{x:Operand}{u:Value}{l:List Nat}{s:ByteArray}{K:Mem}{L:Hp}(hi:ops[i]?=some ⟨some d,.convert src g x,ty,pos,af,gd⟩)(hg:want ops e gd=some true)
 (hx:ev e x=some u) (B:Src K L 1 u (l.map u8R)) (ht:Na P src=some (E,1,F)) (he:P.underlying E=some (.int .u8)) (D:P.underlying g=some .string) (hs:strOfNums (l.map fun n:Nat=>(n:Int))=s) (hd:Nat.ble (d+1) n.sz=true)
 (hk:XD P n ops Q rest (St K L) A ((d,.string s)::e)):XD P n ops Q (i::rest) (St K L) A e:=by
 obtain⟨it,C,aa,V,rfl⟩:=Wq ht;have O:NE P (.convert src g x)=.read:=by simp[NE,C,D]
 obtain⟨ab,h1,T,R,rfl,U⟩:=B;refine UB hi O hg (fun a w ha hw=>Xp ?_) (fun a ha=>ha.put hd _) hk;have y:=run_loadCells_list (P:=P) w T (ZV (l.map u8R)) (fun j v hj=>U w hw j v hj);rw[Qv,A8,A8]at y;have Z:(convert src g (.slice (some T) (l.map u8R).length R)).run P w=.ok (.string s) w:=by
  rw[run_convert_bytes_string w src g E _ _ R C he D,A8,run_bytesToString w T l.length R _ y,foldl_push_bytes,← hs];simp[strOfNums];first|done|rfl
 simp only[execOp,ha.ev hx];exact Wz Z
end
def XR(s:ByteArray):List Nat:=s.data.toList.map fun b=>b.toNat
theorem VB(s:ByteArray):(XR s).length=s.size:=by
 unfold XR;rw[A8,H6];rfl
theorem Zgy(s:ByteArray):∀ b∈XR s,b<256:=fun b hb=>by
 obtain⟨u,-,rfl⟩:=C0.1 hb;exact u.toNat_lt
theorem Ztq{B:List Nat}(h:∀ b∈B,b<256)(j:Nat):B.getD j 0<256:=by
 rw[D7];cases hg:B[j]? with
 | none=>simp
 | some v=>exact h v (H8 hg)
theorem NF(s:ByteArray):Tm s=(XR s).map fun n=>.int .u8 (n:Int):=by
 unfold Tm XR;rw[I2];rfl
theorem Zud(s:ByteArray){m:Nat}(hs:s.size=m):∃ bv:Vector Value m,bv.toList=Tm s :=
 ⟨⟨(Tm s).toArray,by rw[J2,NF,A8,VB,hs]⟩,rfl⟩
theorem Zpi{s:ByteArray}{m j:Nat}{bv:Vector Value m}(h:bv.toList=Tm s)(hs:s.size=m)(hj:j<m):(Segs.cells [.arr m bv])[j]?=some (.int .u8 (((XR s).getD j 0:Nat):Int)):=by
 rw[Ry,h,NF,E6,D7,A7 (by rw[VB];omega)];rfl
theorem KY{b off lo hi m:Nat}(h:lo<m):WK (some ⟨b,off,none⟩) 1 lo hi m=.slice (some ⟨b,off+lo,none⟩) (hi-lo) (m-lo):=by
 unfold WK;rw[A4 jD];simp[Addr.add_lit]
def Zer(n:Nat):Segs:=[.one (.int .u32 (n:Int))]
end Go.Esp
namespace Go.Esp
section
variable {P:Program} {ops:Array Oper} {Q:Exit→Act→World→Prop} {M M':Mem} {H H' H0:Hp} {e:Env}
theorem Yq{m:Nat}{ds:List Deferred}{ro:Option Nat}{id:Nat}{l:List Nat}(ws:List Nat)(d:List.range ops.size=l)(h:XD P ⟨m,ds,ro,ws⟩ ops Q l (St M H) ⟨M,H⟩ e):C P ⟨m,ds,ro,[]⟩ (.region id ops false) Q (St M H) e :=
 fun a w ha hw=>wpIn_region (Te _ (St M H) ⟨M,H⟩ a w (fun _ h=>h) hw (d ▸ h (fun _ h=>h) a ⟨ha.size,ha.defers,ha.slot⟩))
end
end Go.Esp
namespace Go.Esp
section
variable {P:Program} {n:Sh} {ops:Array Oper} {Q:Exit→Act→World→Prop} {rest:List Nat} {M M':Mem} {H H' H0:Hp} {e:Env} {J S:World→Prop} {A:As} {i:Nat}
  {dst:Option Tmp} {d:Tmp} {op:Op} {ty:TypeId} {pos:String} {af:Array Edge} {gd:Option (Nat×Bool)}
theorem VH{t k:Nat}{x j:Operand}{q:IntKind}{z:Int}{s:ByteArray}{v:Value}(hi:ops[i]?=some ⟨some d,.index t x j,ty,pos,af,gd⟩)(K:want ops e gd=some true)
 (hx:ev e x=some (.string s)) (g:ev e j=some (.int q z)) (ht:P.underlying t=some .string) (L:z=(k:Int)) (hk:k<s.size) (D:Value.int .u8 (((XR s).getD k 0:Nat):Int)=v) (C:Nat.ble (d+1) n.sz=true)
 (B:XD P n ops Q rest J A ((d,v)::e)):XD P n ops Q (i::rest) J A e :=
 VA hi rfl K (fun a' w y=>Xp (by
  subst L D;simp only[execOp,y.ev hx,y.ev g];refine Wz ?_;rw[run_index_string w t s q (k:Int) ht,dif_pos ⟨by omega,by omega⟩];have F:(XR s).getD k 0=(s[k]'hk).toNat:=by
   unfold XR;rw[D7,E6,A7 (by rw[H6];exact hk)];simp only[E9,F7,Array.getElem_toList];rfl
  rw[F];rfl)) (fun a ha=>ha.put C _) B
theorem Zpx{src g E F:Nat}{x:Operand}{u:Value}{l:List Nat}{s:ByteArray}(hi:ops[i]?=some ⟨some d,.convert src g x,ty,pos,af,gd⟩)(L:n.wrs.contains i=true)(hg:want ops e gd=some true)
 (hx:ev e x=some u) (B:Src M H 1 u (l.map u8R)) (ht:Na P src=some (E,1,F)) (he:P.underlying E=some (.int .u8)) (D:P.underlying g=some .string) (hs:strOfNums (l.map fun n:Nat=>(n:Int))=s) (Z:Nat.ble (d+1) n.sz=true)
 (hk:XD P n ops Q rest J ⟨M,H⟩ ((d,.string s)::e)):XD P n ops Q (i::rest) J ⟨M,H⟩ e:=by
 obtain⟨it,C,aa,U,rfl⟩:=Wq ht;have K:NE P (.convert src g x)=.read:=by simp[NE,C,D]
 obtain⟨ab,h1,R,O,rfl,T⟩:=B;refine Zup hi K L hg (fun a w ha hw=>Xp ?_) (fun a ha=>ha.put Z _) hk;have y:=run_loadCells_list (P:=P) w R (ZV (l.map u8R)) (fun j v hj=>T w hw j v hj);rw[Qv,A8,A8]at y;have V:(convert src g (.slice (some R) (l.map u8R).length O)).run P w=.ok (.string s) w:=by
  rw[run_convert_bytes_string w src g E _ _ O C he D,A8,run_bytesToString w R l.length O _ y,foldl_push_bytes,← hs];simp[strOfNums];first|done|rfl
 simp only[execOp,ha.ev hx];exact Wz V
end
end Go.Esp
namespace Go.Esp
def WJ(l:List Nat):ByteArray:=strOfNums (l.map fun n:Nat=>(n:Int))
theorem VE(l:List Nat):(WJ l).size=l.length:=by unfold WJ;rw[strOfNums_size,A8]
theorem Aa(a b:List Nat):WJ a++WJ b=WJ (a++b):=by
 refine ByteArray.ext ?_;unfold WJ strOfNums;simp
theorem Zmr(a b:List Nat):(WJ (a++b)).extract 0 a.length=WJ a:=by
 refine ByteArray.ext ?_;unfold WJ strOfNums;simp
theorem Zez(a b:List Nat):(WJ (a++b)).extract a.length (WJ (a++b)).size=WJ b:=by
 refine ByteArray.ext ?_;rw[ByteArray.data_extract,VE];unfold WJ strOfNums;grind
theorem Qe{l:List Nat}(h:∀ b∈l,b<256):XR (WJ l)=l:=by
 unfold XR WJ strOfNums;simp only[I2]
 conv=>rhs;rw[← List.map_id l]
 refine List.map_congr_left fun b hb=>?_;simp_all
def JY(n:Nat):Nat:=if n=0 then 0 else Nat.log2 n+1
theorem Tv{n k:Nat}(h:2 ^ k≤n):k+JY (n / 2 ^ k)=JY n:=by
 have h1:n / 2 ^ k≠0:=Nat.ne_of_gt (Nat.div_pos h (Nat.two_pow_pos k));have h0:n≠0:=by have:=Nat.two_pow_pos k;omega
 have h2:Nat.log2 n=Nat.log2 (n / 2 ^ k)+k:=by
  refine Nat.le_antisymm ?_ ?_
  ·have h3:k≤Nat.log2 n:=(Nat.le_log2 h0).2 h;have d:2 ^ (Nat.log2 n-k)≤n / 2 ^ k:=by
    rw[Nat.le_div_iff_mul_le (Nat.two_pow_pos k),← Nat.pow_add,Nat.sub_add_cancel h3];exact Nat.log2_self_le h0
   have:=(Nat.le_log2 h1).2 d;omega
  refine(Nat.le_log2 h0).2 ?_;rw[Nat.pow_add];have d:=Nat.log2_self_le h1;exact(Nat.le_div_iff_mul_le (Nat.two_pow_pos k)).1 d
 unfold JY;grind
theorem Zue(n:Nat):n<2 ^ JY n:=by
 unfold JY;split
 ·grind
 exact Nat.lt_log2_self
theorem Zuf{n:Nat}(h:n≠0):2 ^ (JY n-1)≤n:=by
 unfold JY;rw[A4 h];exact Nat.log2_self_le h
theorem QR{n k:Nat}(h:n<2 ^ k):JY n≤k:=by
 unfold JY;split
 ·simp
 exact(Nat.log2_lt jE).2 h
def Sa(v:Nat):Nat:=(JY v+7) / 8
theorem Zhj(v:Nat):v<256 ^ Sa v:=by
 refine Nat.lt_of_lt_of_le (Zue v) ?_;rw[show(256:Nat)=2 ^ 8 from rfl,← Nat.pow_mul];exact Nat.pow_le_pow_right jM (by unfold Sa;omega)
theorem Ztg{v:Nat}(h:v≠0):0<Sa v∧256 ^ (Sa v-1)≤v:=by
 have h1:0<JY v:=by unfold JY;rw[A4 h];omega
 refine⟨by unfold Sa;omega,H7 ?_ (Zuf h)⟩;rw[show(256:Nat)=2 ^ 8 from rfl,← Nat.pow_mul];exact Nat.pow_le_pow_right jM (by unfold Sa;omega)
theorem Jh{v:Nat}(h:v<18446744073709551616):Sa v≤8:=by have:=QR (n:=v) (k:=64) h;unfold Sa;omega
def beL:Nat→Nat→List Nat
 | 0,_=>[]
 | k+1,v=>v / 256 ^ k % 256::beL k v
theorem SI(k v:Nat):(beL k v).length=k:=by induction k with
 | zero=>rfl
 | succ k ih=>simp[beL,ih]
theorem Zrk(k v:Nat):∀ b∈beL k v,b<256:=by
 induction k with
 | zero=>intro b hb;cases hb
 | succ k ih =>
  intro b hb;rcases B7.1 hb with rfl|hb
  ·exact G5 _ jM
  exact ih b hb
theorem By{k v i:Nat}(h:i<k):(beL k v).getD i 0=v / 256 ^ (k-1-i) % 256:=by
 induction k generalizing i with
 | zero=>omega
 | succ k ih =>
  cases i with
  | zero=>simp[beL]
  | succ i=>have:=ih (i:=i) jD;simp only[beL,List.getD_cons_succ,this];congr 3;omega
theorem Zpn{k v i:Nat}(h:i<k):(beL k v).take (i+1)=(beL k v).take i++[v / 256 ^ (k-1-i) % 256]:=by
 rw[C9];have h1:=By (v:=v) h;rw[D7,A7 (by rw[SI];exact h)]at h1;grind
def SL(v:Nat):List Nat:=Sa v::beL (Sa v) v
theorem PB(v:Nat):(SL v).length=Sa v+1:=by unfold SL;rw[C8,SI]
def Nc(x:Plc):List Nat:=(List.range 20).map (idB x)
theorem Py(x:Plc):(Nc x).length=20:=by simp[Nc]
theorem Zsq(x:Plc):∀ b∈Nc x,b<256:=by
 intro b hb;obtain⟨i,-,rfl⟩:=C0.1 hb;exact Qg x i
def WB(p:Zr):List Nat:=SL p.addr.toNat++Nc p.id
def Qi(b:Bool):List Nat:=SL (if b then 1 else 0)
def Ga{α:Type}(f:α→List Nat)(l:List α):List Nat:=SL l.length++l.flatMap f
def Sw(a:Int):List Nat:=SL a.toNat
def bA0(l:Lt):List Nat:=SL l.kind.toNat++WB l.frm
def bA1(l:Lt):List Nat:=bA0 l++if Ue l.kind then SL l.req.toNat else[]
def bA2(l:Lt):List Nat:=bA1 l++if l.kind=1 then Nc l.id else[]
def bA3(l:Lt):List Nat:=bA2 l++if l.kind=1 then Ga Sw l.avoid else[]
def bA4(l:Lt):List Nat:=bA3 l++if l.kind=2 then Qi l.done else[]
def bA5(l:Lt):List Nat:=bA4 l++if Vm l.kind then Qi (decide (l.peer≠Yj))++(if l.peer≠Yj then WB l.peer else[])else[]
def bA6(l:Lt):List Nat:=bA5 l++if Wn l.kind then Ga WB l.peers else[]
def body(l:Lt):ByteArray:=WJ (bA6 l)
theorem SC{v:Nat}(h:v<18446744073709551616):(SL v).length≤9:=by rw[PB];have:=Jh h;omega
theorem OC{p:Zr}(h:Yf p.addr):(WB p).length≤29:=by
 have h9:0≤p.addr∧p.addr≤999:=h;unfold WB;rw[B3,Py];have:=SC (v:=p.addr.toNat) jD;omega
theorem Zaf{a:Int}(h:Yf a):(Sw a).length≤9:=by
 have h9:0≤a∧a≤999:=h;exact SC (v:=a.toNat) jD
theorem Gq(b:Bool):(Qi b).length≤9:=by unfold Qi;exact SC (by split <;> omega)
theorem Gp{α:Type}{f:α→List Nat}{m:Nat}:∀{l:List α},(∀ x∈l,(f x).length≤m)→(l.flatMap f).length≤l.length * m
 | [],_=>by simp
 | x::l,h=>by
  have h1:=h x (B1);have h2:=Gp (f:=f) (m:=m) (l:=l) fun y d=>h y (B2 _ d);rw[List.flatMap_cons,B3,C8,Nat.succ_mul];omega
theorem Du{α:Type}{f:α→List Nat}{l:List α}{k:Nat}(hk:k<l.length):(l.take (k+1)).flatMap f=(l.take k).flatMap f++f l[k]:=by
 rw[C9,A7 hk,List.flatMap_append];simp
theorem LL{α:Type}{f:α→List Nat}{m:Nat}{l:List α}(h:∀ x∈l,(f x).length≤m)(k:Nat):((l.take k).flatMap f).length≤l.length * m :=
 H7 (Gp fun x hx=>h x (F9 hx)) (D2 m (by rw[D8];omega))
def SB(r:Int):Prop:=0≤r∧r<18446744073709551616
theorem Zkk{l:Lt}(h:SP l)(j:SB l.req):(bA0 l).length≤40∧(bA1 l).length≤50∧(bA2 l).length≤70∧(bA3 l).length≤230∧(bA4 l).length≤240∧(bA5 l).length≤280∧(bA6 l).length≤530:=by
 obtain⟨h1,h2,h3,C,y,-,-,-,-,-,-,-,g,d⟩:=h;obtain⟨r1,K⟩:=j;have T:(bA0 l).length≤40:=by
  have:=SC (v:=l.kind.toNat) jD;have:=OC h2;unfold bA0;rw[B3];omega
 have O:(bA1 l).length≤50:=by
  have:=SC (v:=l.req.toNat) jD;unfold bA1;rw[B3];split <;> (try simp only[D5]) <;> omega
 have L:(bA2 l).length≤70:=by
  have:=Py l.id;unfold bA2;rw[B3];split <;> (try simp only[D5]) <;> omega
 have D:(bA3 l).length≤230:=by
  have:=Gp (f:=Sw) (m:=9) (l:=l.avoid) (fun x hx=>Zaf (g x hx));have:=SC (v:=l.avoid.length) jD;unfold bA3 Ga;rw[B3];split <;> (try simp only[D5,B3]) <;> omega
 have R:(bA4 l).length≤240:=by
  have:=Gq l.done;unfold bA4;rw[B3];split <;> (try simp only[D5]) <;> omega
 have F:(bA5 l).length≤280:=by
  have:=Gq (decide (l.peer≠Yj));have h9:(if l.peer≠Yj then WB l.peer else[]).length≤29:=by
   split
   ·rename_i B;exact OC (y.resolve_left B)
   exact C3 _
  unfold bA5;rw[B3];split <;> (try simp only[D5,B3]) <;> omega
 have:=Gp (f:=WB) (m:=29) (l:=l.peers) (fun x hx=>OC (d x hx));have:=SC (v:=l.peers.length) jD;unfold bA6 Ga;rw[B3];split <;> (try simp only[D5,B3]) <;> omega
def pt1(l:Lt):List Nat:=if Ue l.kind then SL l.req.toNat else[]
def pt2(l:Lt):List Nat:=if l.kind=1 then Nc l.id else[]
def pt3(l:Lt):List Nat:=if l.kind=1 then Ga Sw l.avoid else[]
def pt4(l:Lt):List Nat:=if l.kind=2 then Qi l.done else[]
def pt5(l:Lt):List Nat:=if Vm l.kind then Qi (decide (l.peer≠Yj))++(if l.peer≠Yj then WB l.peer else[])else[]
def pt6(l:Lt):List Nat:=if Wn l.kind then Ga WB l.peers else[]
def bS5(l:Lt):List Nat:=pt6 l++[]
def bS4(l:Lt):List Nat:=pt5 l++bS5 l
def bS3(l:Lt):List Nat:=pt4 l++bS4 l
def bS2(l:Lt):List Nat:=pt3 l++bS3 l
def bS1(l:Lt):List Nat:=pt2 l++bS2 l
def bS0(l:Lt):List Nat:=pt1 l++bS1 l
theorem Zxn(l:Lt):bA6 l=SL l.kind.toNat++(WB l.frm++bS0 l):=by
 unfold bA6 bA5 bA4 bA3 bA2 bA1 bA0 bS0 bS1 bS2 bS3 bS4 bS5 pt1 pt2 pt3 pt4 pt5 pt6;simp
theorem Zxm{l:Lt}(h:SP l)(d:SB l.req):(SL l.kind.toNat++(WB l.frm++bS0 l)).length≤530∧(WB l.frm++bS0 l).length≤530∧(bS0 l).length≤530∧(bS1 l).length≤530∧(bS2 l).length≤530∧(bS3 l).length≤530∧(bS4 l).length≤530∧(bS5 l).length≤530:=by
 have h1:=(Zkk h d).2.2.2.2.2.2;rw[Zxn]at h1;have y:(bS4 l).length=(pt5 l).length+(bS5 l).length:=B3 ..;have v:(bS3 l).length=(pt4 l).length+(bS4 l).length:=B3 ..;have g:(bS2 l).length=(pt3 l).length+(bS3 l).length:=B3 ..;have B:(bS1 l).length=(pt2 l).length+(bS2 l).length:=B3 ..;have j:(bS0 l).length=(pt1 l).length+(bS1 l).length:=B3 ..;grind
theorem HZ{α:Type}{f:α→List Nat}{l:List α}{k:Nat}(hk:k<l.length)(b:List Nat):(l.drop k).flatMap f++b=f l[k]++((l.drop (k+1)).flatMap f++b):=by
 rw[G4 hk,List.flatMap_cons,B5]
theorem Ol{α:Type}{f:α→List Nat}(l:List α)(k:Nat):((l.drop k).flatMap f).length≤(l.flatMap f).length:=by
 conv=>rhs;rw[← F0 k l,List.flatMap_append,B3]
 omega
end Go.Esp
namespace Go.Proofs.YtglnjnacodgmaaaGreatDoor
open Go.Esp
theorem F.arr36:Zpq Tryz.prog 36=some (20,5):=by kernel_rfl
theorem F.ext199:Ext Tryz.prog 199 Extern.BytealgCompare.compare:=fun args w=>by kernel_rfl
theorem F.lay36:lay Tryz.prog 36=some (true,20):=by kernel_rfl
theorem F.lay5:lay Tryz.prog 5=some (false,1):=by kernel_rfl
theorem F.zero36:XP Tryz.prog 36=some (WX [ZU 0]):=by rw[Uz];kernel_rfl
theorem Zuj(M:Mem)(g d:Nat)(a b:Plc):Fo Tryz.prog 154 [.slice (some ⟨g,0,none⟩) 20 20,.slice (some ⟨d,0,none⟩) 20 20] M [(d,Yp [ZU b] 36),(g,Yp [ZU a] 36)] (fun M' v=>M'=M∧v=.int .i64 (Zvv a b)):=by
 refine VT Tryz.func154 rfl Tryz.ntmps154 rfl ?_;intro H;refine S9 ?_;refine Zxz rfl rfl F.ext199 rfl (fun w hw=>CD (hw.own _ _ jB) (hw.own _ _ jB)) rfl ?_;refine S4 ?_;refine ZH fun w hw=>?_;exact⟨_,M,rfl,Mem.le.refl M,hw.c,rfl,rfl⟩
theorem Ox(M:Mem)(a:Plc)(b:Plc):Fs Tryz.prog 95 [WX [ZU a],WX [ZU b]] M (fun v=>v=Value.bool (decide (WY a b))):=by
 refine Xa Tryz.func95 rfl Tryz.ntmps95 rfl ?_;intro H;refine S3 ?_;intro j;refine Stp ?_;intro y;refine S4 ?_;refine Ya (l:=[0,1,2,3,4]) #[0,0,3,7,15] _ rfl jI jI St.drawn (fun _ h=>h) ?_;refine S2 ?_;refine PG (Zuj _ _ _ a b) ?_;rintro _ d _ ⟨g,rfl⟩;subst d;refine S5 ?_;refine ZH fun w hw=>?_;refine⟨_,rfl,(hw.c),?_⟩;exact A9 Value.bool (decide_eq_decide.2 Zpg)
theorem GU(M:Mem)(a:Plc)(b:Plc):Fs Tryz.prog 148 [WX [ZU a],WX [ZU b]] M (fun v=>v= (WX [ZU (a+b)])):=by
 refine Xa Tryz.func148 rfl Tryz.ntmps148 rfl ?_;intro H;refine S3 ?_;intro O;refine Stp ?_;intro R;refine Stp ?_;intro K;refine S5 ?_;intro y;refine S14 ?_;refine VG [6,7,5,4,3,2] ?_;refine XV (Hin:=[(y,Yp [ZU 0] 36)]) (.succ (.succ .zero)) jA (fun(j:Nat) C h1 z=>C=M∧z=[(6,.int .u64 ((Qo a b (20-j):Nat):Int)),(7,.int .i64 ((j:Int)-1))]∧j≤20∧h1=[(y,Yp [.arr 20 (Of (a+b) (20-j))] 36)]) (fun j=>j) (20) (⟨rfl,by simp only[Nat.sub_self];rw[Bs];rfl,by omega,by simp only[Nat.sub_self];rw[CY];rfl⟩) ?_;rintro j C h1 z D ⟨g,rfl,hk,rfl⟩;subst g;rcases j with _|m
 ·rw[show(((0:Nat):Int)-1)=-1 from rfl,show Of (a+b) (20-0)=idV (a+b)from Zhn _];refine S7 ?_;refine Xb (cT fun d=>?_) (cF fun d=>?_)
  ·(exfalso;omega)
  refine S12 ?_;refine ZH fun w hw=>?_;refine⟨_,rfl,(hw.c),?_⟩;clear hw;rfl
 rw[show(((m+1:Nat):Int)-1)=(m:Int)by omega];have ha:=Qg a m;have hb:=Qg b m;have L:=Zkb a b (20-(m+1));have hs:=Zwe a b (m:=m) jD;refine S7 ?_;refine Xb (cT fun B=>?_) (cF fun B=>?_)
 ·refine S5 ?_;refine Ya (l:=[0,1,2,3,4,5,6,7,8,9,10,11]) #[0,0,2,6,14,0,32,96,224,510,1023,2047] _ rfl jI jI St.drawn (fun _ h=>h) ?_;refine S20 ?_;refine QH rfl rfl rfl rfl rfl rfl jH F.lay5 (GJ jD) (GI jD) ?_;rw[Zhm (a+b) (m:=m) jD (by exact hs.1)];refine S4 ?_;refine VK rfl rfl rfl rfl jM (Uw 8 jM) rfl rfl ?_;refine S9 ?_;refine YO (a':=[(6,_),(7,_)]) (m) ([(y,Yp [.arr 20 (Of (a+b) (20-m))] 36)]) (.cons (k:=6) rfl (.cons (k:=7) rfl (.cons (k:=5) rfl (.cons (k:=4) rfl (.cons (k:=3) rfl (.cons (k:=2) rfl (.nil))))))) jO (fun w hw=>by first|exact hw|exact hw.c) ?_ ?_
  ·refine⟨rfl,?_,by omega,rfl⟩;exact A9 (fun v=>[(6,Value.int .u64 v),(7,Value.int .i64 ((m:Int)-1))]) (by simpa using hs.2)
  omega
 (exfalso;omega)
theorem F.bld38:Bld Tryz.prog 38 [[.one (.int .i64 0)],[ZU 0]]:=by rw[Uz];exact⟨by kernel_rfl,by kernel_rfl⟩
theorem F.guard36:Tryz.prog.eqGuardType Tryz.prog.depth 36=false:=by kernel_rfl
theorem F.kinds36:UK Tryz.prog 20 36=some [.i .u8,.i .u8,.i .u8,.i .u8,.i .u8,.i .u8,.i .u8,.i .u8,.i .u8,.i .u8,.i .u8,.i .u8,.i .u8,.i .u8,.i .u8,.i .u8,.i .u8,.i .u8,.i .u8,.i .u8]:=by kernel_rfl
theorem F.lay38:lay Tryz.prog 38=some (true,21):=by kernel_rfl
theorem F.zero38:XP Tryz.prog 38=some (WX [.one (.int .i64 0),ZU 0]):=by rw[Uz];kernel_rfl
theorem PJ(M:Mem)(n:Nat)(h:n<160):Fs Tryz.prog 147 [.int .i64 (n:Int)] M (fun v=>v=.tuple #[WX [ZU (To n)],.int .i64 0]):=by
 have j:((n:Nat):Int) % 8=((n % 8:Nat):Int):=(Int.natCast_emod _ _).symm;have h9:(19:Int)-((n:Nat):Int) / 8=((19-n / 8:Nat):Int):=by omega
 refine Xa Tryz.func147 rfl Tryz.ntmps147 rfl ?_;intro H;refine S3 ?_;intro y;refine S6 ?_;intro B;refine S8 ?_;refine YE 7 (cT fun g=>?_) (cF fun g=>?_)
 ·(exfalso;omega)
 refine S5 ?_;refine Xb (cT fun d=>?_) (cF fun d=>?_)
 ·(exfalso;omega)
 refine S7 ?_;rw[h9];refine S2 ?_;rw[j];refine VK rfl rfl rfl rfl jD rfl rfl rfl ?_;refine Stp ?_;refine QH rfl rfl rfl rfl rfl rfl jH F.lay5 (GJ jD) (GI jD) ?_;rw[Zze (k:=n) h rfl Zsf jD];refine S10 ?_;refine ZH fun w hw=>?_;refine⟨_,rfl,(hw.c),?_⟩;rfl
theorem Lv(M:Mem)(a:Plc)(x:Plc)(b:Plc):Fs Tryz.prog 101 [WX [ZU a],WX [ZU x],WX [ZU b]] M (fun v=>v=Value.bool (decide (Uh a x b))):=by
 refine Xa Tryz.func101 rfl Tryz.ntmps101 rfl ?_;intro H;refine S3 ?_;intro R;refine Stp ?_;intro T;refine Stp ?_;intro O;refine S9 ?_;refine VW (m:=20) rfl rfl rfl rfl rfl jG jG F.lay36 F.kinds36 rfl F.guard36 (Ra Sf) (Ra Sf) rfl rfl rfl ?_;intro L g;replace g:L=true↔Segs.cells _=Segs.cells _:=g;obtain rfl:=eqD g (Pj (x:=_) (y:=_));clear g;refine S3 ?_;refine Xb (cT fun D=>?_) (cF fun D=>?_)
 ·refine S4 ?_;refine VW (m:=20) rfl rfl rfl rfl rfl jG jG F.lay36 F.kinds36 rfl F.guard36 (Ra Sf) (Ra Sf) rfl rfl rfl ?_;intro K d;replace d:K=true↔¬(Segs.cells _=Segs.cells _):=d;obtain rfl:=neD d (Pj (x:=_) (y:=_));clear d;refine S6 ?_;refine ZH fun w hw=>?_;refine⟨_,rfl,(hw.c),?_⟩;refine congrArg Value.bool ?_;simp_all[Od]
 refine S4 ?_;refine Vn (Ox _ _ _) ?_;rintro _ rfl;refine S3 ?_;refine Xb (cT fun C=>?_) (cF fun C=>?_)
 ·refine S4 ?_;refine Vn (Ox _ _ _) ?_;rintro _ rfl;refine Stp ?_;refine YE 21 (cT fun j=>?_) (cF fun j=>?_)
  ·refine S2 ?_;refine Vn (Ox _ _ _) ?_;rintro _ rfl;refine S7 ?_;refine ZH fun w hw=>?_;refine⟨_,rfl,(hw.c),?_⟩;refine congrArg Value.bool ?_;simp_all[Od]
  refine S10 ?_;refine ZH fun w hw=>?_;refine⟨_,rfl,(hw.c),?_⟩;refine congrArg Value.bool ?_;simp_all[Od]
 refine S7 ?_;refine Vn (Ox _ _ _) ?_;rintro _ rfl;refine Stp ?_;refine YE 29 (cT fun B=>?_) (cF fun B=>?_)
 ·refine S8 ?_;refine ZH fun w hw=>?_;refine⟨_,rfl,(hw.c),?_⟩;refine congrArg Value.bool ?_;simp_all[Od]
 refine S2 ?_;refine Vn (Ox _ _ _) ?_;rintro _ rfl;refine S5 ?_;refine ZH fun w hw=>?_;refine⟨_,rfl,(hw.c),?_⟩;refine congrArg Value.bool ?_;simp_all[Od]
theorem BM(M:Mem)(a:Plc)(x:Plc)(b:Plc):Fs Tryz.prog 100 [WX [ZU a],WX [ZU x],WX [ZU b]] M (fun v=>v=Value.bool (decide (RL a x b))):=by
 refine Xa Tryz.func100 rfl Tryz.ntmps100 rfl ?_;intro H;refine S3 ?_;intro C;refine Stp ?_;intro D;refine Stp ?_;intro B;refine S7 ?_;refine VW (m:=20) rfl rfl rfl rfl rfl jG jG F.lay36 F.kinds36 rfl F.guard36 (Ra Sf) (Ra Sf) rfl rfl rfl ?_;intro j d;replace d:j=true↔Segs.cells _=Segs.cells _:=d;obtain rfl:=eqD d (Pj (x:=_) (y:=_));clear d;refine Stp ?_;refine YE 10 (cT fun g=>?_) (cF fun g=>?_)
 ·refine S9 ?_;refine ZH fun w hw=>?_;refine⟨_,rfl,(hw.c),?_⟩;refine congrArg Value.bool ?_;simp_all[RL]
 refine S3 ?_;refine Vn (Lv _ _ _ _) ?_;rintro _ rfl;refine S5 ?_;refine ZH fun w hw=>?_;refine⟨_,rfl,(hw.c),?_⟩;refine congrArg Value.bool ?_;simp_all[RL]
theorem VD(M:Mem):Fs Tryz.prog 78 [] M (fun v=>v= (Yj.enc)):=by
 refine Xa Tryz.func78 rfl Tryz.ntmps78 rfl ?_;intro H;refine S3 ?_;intro d;refine S4 ?_;refine XN rfl rfl F.bld38 (.cons rfl jG .nil) rfl rfl ?_;refine S4 ?_;refine ZH fun w hw=>?_;refine⟨_,rfl,(hw.c),?_⟩;rfl
theorem F.elem39:Na Tryz.prog 39=some (38,21,32):=by kernel_rfl
theorem F.foff38_0:Zjb Tryz.prog 38 0=some 0:=by kernel_rfl
theorem F.foff38_1:Zjb Tryz.prog 38 1=some 1:=by kernel_rfl
theorem F.lay3:lay Tryz.prog 3=some (false,1):=by kernel_rfl
theorem F.ok84:Ta Tryz.prog 84=true:=by kernel_rfl
theorem Zoo(M:Mem)(a:Int):Fs Tryz.prog 80 [.int .i64 a] M (fun v=>v=Value.bool (decide (Yf a))):=by
 refine Xa Tryz.func80 rfl Tryz.ntmps80 rfl ?_;intro H;refine S10 ?_;refine YE 5 (cT fun d=>?_) (cF fun d=>?_)
 ·refine S7 ?_;refine ZH fun w hw=>?_;refine⟨_,rfl,(hw.c),?_⟩;refine congrArg Value.bool (a₁:=_) ?_;grind [w64,Yf]
 refine S7 ?_;refine ZH fun w hw=>?_;refine⟨_,rfl,(hw.c),?_⟩;refine congrArg Value.bool (a₁:=_) ?_;grind [w64,Yf]
theorem Pz(M:Mem)(t:ZK)(p:Zr):Fs Tryz.prog 79 [t.enc,p.enc] M (fun v=>v=Value.bool (decide (Ys t.self p))):=by
 obtain⟨⟨O,V⟩,⟨Yh,T⟩,⟨L,K,D⟩,⟨Ye,Z,R⟩⟩:=t;obtain⟨U,B⟩:=p;refine Xa Tryz.func79 rfl Tryz.ntmps79 rfl ?_;intro H;refine S3 ?_;intro b1;refine Stp ?_;intro b2;refine S7 ?_;refine Vn (Zoo _ _) ?_;rintro _ rfl;refine Stp ?_;refine YE 8 (cT fun j=>?_) (cF fun j=>?_)
 ·refine S8 ?_;refine YE 16 (eT fun g=>?_) (eF fun g=>?_)
  ·refine S5 ?_;refine VW (m:=20) rfl rfl rfl rfl rfl jG jG F.lay36 F.kinds36 rfl F.guard36 (Ra Sf) (Ra Sf) rfl rfl rfl ?_;intro C d;replace d:C=true↔¬(Segs.cells _=Segs.cells _):=d;obtain rfl:=neD d (Pj (x:=_) (y:=_));clear d;refine S5 ?_;refine ZH fun w hw=>?_;refine⟨_,rfl,(hw.c),?_⟩;refine congrArg Value.bool (a₁:=_) ?_;grind [w64,Ys]
  refine S11 ?_;refine ZH fun w hw=>?_;refine⟨_,rfl,(hw.c),?_⟩;refine congrArg Value.bool (a₁:=_) ?_;grind [w64,Ys]
 refine S19 ?_;refine ZH fun w hw=>?_;refine⟨_,rfl,(hw.c),?_⟩;refine congrArg Value.bool (a₁:=_) ?_;grind [w64,Ys]
theorem Lw(M:Mem)(Hin:Hp)(l:Sl Zr)(g:FuncId)(caps:List Value)(p:Zr→Bool)(T:RdS M Hin l.a (l.l.map Zr.segs) 21)(U:l.l.length≤9223372036854775807)(D:Ta Tryz.prog g=true)(R:∀ x∈l.l,Fo Tryz.prog g ([x.enc]++caps) M Hin (fun M' v=>M'=M∧v=.bool (p x))):Fo Tryz.prog 136 [l.val,.func (.func g) #[] caps.toArray] M Hin (fun M' v=>M'=M∧v=.int .i64 (Cj p l.l)):=by
 have nl:(l.l.map Zr.segs).length=l.l.length:=A8 ..;refine VT Tryz.func136 rfl Tryz.ntmps136 rfl ?_;intro H;have L:=T.app H;refine S14 ?_;refine VG [8,7,4,0,1] ?_;refine Un (.succ .zero) (fun(k:Nat) z=>z=[(8,.int .i64 (k:Int))]∧k≤l.l.length∧(∀ j (h:j<k) (h2:j<l.l.length),p l.l[j]=false)) (fun k=>l.l.length-k) (0) (⟨rfl,by omega,by(intro j hj;omega)⟩) ?_;rintro k _ ⟨rfl,hk,B⟩;refine S6 ?_;refine Xb (fun d=>?_) (fun d=>?_)
 ·skip
  replace d:=dT d;refine S17 ?_;refine GN rfl rfl rfl D rfl rfl (R _ (C1 (n:=k) jD)) (Rem.here _) (XK rfl) ?_;rintro _ O _ ⟨K,rfl⟩;subst O;refine S2 ?_;refine Xb (fun y=>?_) (fun y=>?_)
  ·skip
   have F:=y;refine S12 ?_;refine ZH fun w hw=>?_;refine⟨_,M,rfl,Mem.le.refl M,hw.c,rfl,?_⟩;refine congrArg (Value.int .i64) ?_;exact(Zii jD (fun j hj=>B j hj _) F).symm
  skip
  have F:=y;refine S7 ?_;refine VX (a':=[(8,_)]) (k+1) (.cons (k:=8) rfl (.cons (k:=7) rfl (.cons (k:=4) rfl (.cons (k:=0) rfl (.cons (k:=1) rfl (.nil)))))) (fun w hw=>by first|exact hw|exact hw.c) ?_ ?_
  ·refine⟨rfl,by omega,?_⟩;(intro j hj C;rcases C7 j k with h9|h9;exact B j h9 C;obtain rfl:j=k:=jD;simp_all)
  omega
 skip
 replace d:=dF d;refine S11 ?_;refine ZH fun w hw=>?_;refine⟨_,M,rfl,Mem.le.refl M,hw.c,rfl,?_⟩;refine congrArg (Value.int .i64) ?_;exact(Dk (fun j hj=>B j jD hj)).symm
theorem RN(M:Mem)(Hin:Hp)(l:Sl Zr)(g:FuncId)(caps:List Value)(p:Zr→Bool)(C:RdS M Hin l.a (l.l.map Zr.segs) 21)(B:l.l.length≤9223372036854775807)(d:Ta Tryz.prog g=true)(j:∀ x∈l.l,Fo Tryz.prog g ([x.enc]++caps) M Hin (fun M' v=>M'=M∧v=.bool (p x))):Fo Tryz.prog 81 [l.val,.func (.func g) #[] caps.toArray] M Hin (fun M' v=>M'=M∧v=.bool (l.l.any p)):=by
 refine VT Tryz.func81 rfl Tryz.ntmps81 rfl ?_;intro H;refine S9 ?_;refine PG (Lw _ Hin ⟨_,_,_⟩ g caps p C B d j) ?_;rintro _ D _ ⟨y,rfl⟩;subst D;refine S5 ?_;refine ZH fun w hw=>?_;exact⟨_,M,rfl,Mem.le.refl M,hw.c,rfl,congrArg Value.bool Zih⟩
theorem Ztp(M:Mem)(b:Nat)(a:Int)(p:Zr):Fo Tryz.prog 84 ([p.enc]++[.pointer (some ⟨b,0,none⟩)]) M [(b,Yp [.one (.int .i64 a)] 3)] (fun M' v=>M'=M∧v=.bool (decide (p.addr=a))):=by
 obtain⟨g,d⟩:=p;refine VT Tryz.func84 rfl Tryz.ntmps84 rfl ?_;intro H;refine S3 ?_;intro j;refine S13 ?_;refine ZH fun w hw=>?_;refine⟨_,M,rfl,Mem.le.refl M,hw.c,rfl,?_⟩;rfl
theorem Zil(M:Mem)(Hin:Hp)(l:Sl Zr)(a:Int)(y:RdS M Hin l.a (l.l.map Zr.segs) 21)(j:l.l.length≤9223372036854775807):Fo Tryz.prog 45 [l.val,.int .i64 a] M Hin (fun M' v=>M'=M∧v=.bool (decide (PQ l.l a))):=by
 refine VT Tryz.func45 rfl Tryz.ntmps45 rfl ?_;intro H;refine S3 ?_;intro d;refine S7 ?_;refine PG (RN _ ((d,_)::Hin) l 84 [_] (fun p=>decide (p.addr=a)) (y.cnt (by intro zz;first|exact B9 _|(simp only[WG,Wo,WW,cat,List.append_eq,B5,B4,B6,E0];omega)|(simp only[WG,Wo,WW,cat,List.append_eq,B5,B4,B6,E0,Zr.segs,ZK.segs,ZM.segs,ZI.segs,YD.segs,YQ.segs,XM.segs,YT.segs,ZW.segs,XF.segs,Yk.segs];omega))) j F.ok84 (fun x hx=>(Ztp M d a x).frame Hin)) ?_;rintro _ B _ ⟨g,rfl⟩;subst B;refine S4 ?_;refine ZH fun w hw=>?_;refine⟨_,M,rfl,Mem.le.refl M,hw.c,rfl,?_⟩;exact congrArg Value.bool Zuk
theorem Zwy(M:Mem)(l:Sl Zr)(a:Int)(d:SlK M Zr.segs 21 l):Fs Tryz.prog 45 [l.val,.int .i64 a] M (fun v=>v=.bool (decide (PQ l.l a))) :=
 AT (Zil M [] l a (d.h1.rd []) d.h2)
theorem F.lay41:lay Tryz.prog 41=some (true,44):=by kernel_rfl
theorem Zlt(M:Mem)(t:ZK)(g:ZK.ok M t)(h:t.succ.l=[]):Fs Tryz.prog 99 [t.enc] M (fun v=>v= ((Yv t.tb).enc)):=by
 obtain⟨⟨K,O⟩,⟨U,L⟩,⟨B,y,j⟩,⟨F,D,C⟩⟩:=t;have Z:SlK M Zr.segs 21 ⟨B,y,j⟩:=g.h0;have R:SlK M Zr.segs 21 ⟨F,D,C⟩:=g.h1;subst h;refine Xa Tryz.func99 rfl Tryz.ntmps99 rfl ?_;intro H;refine S3 ?_;intro T;refine Stp ?_;intro V;refine S12 ?_;refine VG [8,7,6,2,1] ?_;refine Un (.zero) (fun(k:Nat) z=>z=[]∧k=0) (fun k=>1) (0) (⟨rfl,rfl⟩) ?_;rintro k _ ⟨rfl,rfl⟩;refine S6 ?_;refine Xb (cT fun d=>?_) (cF fun d=>?_)
 ·(exfalso;simp[eqX]at d;done)
 refine S13 ?_;refine ZH fun w hw=>?_;refine⟨_,rfl,(hw.c),?_⟩;rfl
theorem Zeg(M:Mem)(t:ZK)(R:ZK.ok M t)(p:Zr)(r:List Zr)(h:t.succ.l=p::r):Fs Tryz.prog 99 [t.enc] M (fun v=>v= ((Yv t.tb).enc)):=by
 obtain⟨⟨ZZ,Yg⟩,⟨Yh,Yr⟩,⟨Yo,Z,F⟩,⟨Ye,V,C⟩⟩:=t;have U:SlK M Zr.segs 21 ⟨Yo,Z,F⟩:=R.h0;have K:SlM M Yo (F.map Zr.segs) 21:=U.h1;have D:(F.map Zr.segs).length=F.length:=A8 ..;have L:F.length≤9223372036854775807:=U.h2;have B:F.length≤Z:=U.h3;have T:SlK M Zr.segs 21 ⟨Ye,V,C⟩:=R.h1;have d:SlM M Ye (C.map Zr.segs) 21:=T.h1;have y:(C.map Zr.segs).length=C.length:=A8 ..;have g:C.length≤9223372036854775807:=T.h2;have j:C.length≤V:=T.h3;obtain⟨p0,i0⟩:=p;simp only at h;subst h;refine Xa Tryz.func99 rfl Tryz.ntmps99 rfl ?_;intro H;refine S3 ?_;intro b1;refine Stp ?_;intro b2;refine S12 ?_;refine VG [8,7,6,2,1] ?_;refine Un (.zero) (fun(k:Nat) z=>z=[]∧k=0) (fun k=>1) (0) (⟨rfl,rfl⟩) ?_;rintro k _ ⟨rfl,rfl⟩;refine S6 ?_;refine Xb (cT fun O=>?_) (cF fun O=>?_)
 ·refine S9 ?_;intro b4;refine S15 ?_;refine ZH fun w hw=>?_;refine⟨_,rfl,(hw.c),?_⟩;rfl
 (exfalso;simp[eqX]at O;done)
theorem Rm(M:Mem)(t:ZK)(d:ZK.ok M t):Fs Tryz.prog 99 [t.enc] M (fun v=>v=(Yv t.tb).enc):=by
 rcases hs:t.succ.l with _|⟨p,r⟩
 ·exact Zlt M t d hs
 exact Zeg M t d p r hs
theorem Zlw(M:Mem)(t:ZK)(p:Zr)(d:ZK.ok M t):Fs Tryz.prog 174 [t.enc,p.enc] M (fun v=>v=Value.bool (decide (TH t.tb p))):=by
 obtain⟨⟨L,T⟩,⟨Z,O⟩,⟨C,B,y⟩,⟨K,F,D⟩⟩:=t;obtain⟨R,j⟩:=p;have XE:SlK M Zr.segs 21 ⟨C,B,y⟩:=d.h0;have U:SlK M Zr.segs 21 ⟨K,F,D⟩:=d.h1;refine Xa Tryz.func174 rfl Tryz.ntmps174 rfl ?_;intro H;refine S3 ?_;intro V;refine Stp ?_;intro b2;refine S4 ?_;refine Ya (l:=[0,1,2,3,4,5,6,7,8,9,10,11,12,13,14]) #[0,0,3,7,15,31,63,15,143,15,527,1551,4095,8191,16383] _ rfl jI jI St.drawn (fun _ h=>h) ?_;refine S2 ?_;refine Vn (Pz _ ⟨⟨_,_⟩,⟨_,_⟩,⟨_,_,_⟩,⟨_,_,_⟩⟩ ⟨_,_⟩) ?_;rintro _ rfl;refine Stp ?_;refine YE 8 (cT fun g=>?_) (cF fun g=>?_)
 ·refine S6 ?_;refine Vn (Rm _ ⟨⟨_,_⟩,⟨_,_⟩,⟨_,_,_⟩,⟨_,_,_⟩⟩ jE) ?_;rintro _ rfl;refine Stp ?_;refine Vn (Lv _ _ _ _) ?_;rintro _ rfl;refine S5 ?_;refine ZH fun w hw=>?_;refine⟨_,rfl,(hw.c),?_⟩;refine congrArg Value.bool ?_;(simp_all[TH,ZK.tb];rfl)
 refine S14 ?_;refine ZH fun w hw=>?_;refine⟨_,rfl,(hw.c),?_⟩;refine congrArg Value.bool ?_;(simp_all[TH,ZK.tb];done)
theorem F.guard38:Tryz.prog.eqGuardType Tryz.prog.depth 38=false:=by kernel_rfl
theorem F.kinds38:UK Tryz.prog 20 38=some [.i .i64,.i .u8,.i .u8,.i .u8,.i .u8,.i .u8,.i .u8,.i .u8,.i .u8,.i .u8,.i .u8,.i .u8,.i .u8,.i .u8,.i .u8,.i .u8,.i .u8,.i .u8,.i .u8,.i .u8,.i .u8]:=by kernel_rfl
theorem F.ok77:Ta Tryz.prog 77=true:=by kernel_rfl
theorem Ar(M:Mem)(b:Nat)(t:ZK)(ht:ZK.ok M t)(p:Zr):Fo Tryz.prog 77 ([p.enc]++[.pointer (some ⟨b,0,none⟩)]) M [(b,Yp t.segs 41)] (fun M' v=>M'=M∧v=.bool (decide (¬RC t.self p))):=by
 obtain⟨T,j⟩:=p;obtain⟨⟨L,U⟩,⟨Yh,R⟩,⟨K,D,C⟩,⟨Ye,V,O⟩⟩:=t;refine VT Tryz.func77 rfl Tryz.ntmps77 rfl ?_;intro H;refine S3 ?_;intro Z;refine S4 ?_;refine Ya (l:=[0,1,2,3,4,5,6,7,8,9]) #[0,0,3,7,15,15,63,127,255,511] _ rfl jI jI St.drawn (fun _ h=>h) ?_;refine Stp ?_;refine Vn (VD _) ?_;rintro _ rfl;refine Xs 5 rfl (show _=WX [.one (.int .i64 (-1)),ZU 0]from rfl) ?_;refine VW (m:=20) rfl rfl rfl rfl rfl jG jG F.lay38 F.kinds38 rfl F.guard38 jR jR rfl rfl rfl ?_;intro B d;replace d:B=true↔¬(Segs.cells _=Segs.cells _):=d;obtain rfl:=neD d (Zr.inj (x:=⟨_,_⟩) (y:=⟨_,_⟩));clear d;refine Stp ?_;refine YE 7 (eT fun g=>?_) (eF fun g=>?_)
 ·refine S2 ?_;refine Vn (Pz _ ⟨⟨_,_⟩,⟨_,_⟩,⟨_,_,_⟩,⟨_,_,_⟩⟩ ⟨_,_⟩) ?_;rintro _ rfl;refine S6 ?_;refine ZH fun w hw=>?_;refine⟨_,M,rfl,Mem.le.refl M,hw.c,rfl,?_⟩;(refine congrArg Value.bool ?_;simp_all[RC,Yj];done)
 refine S9 ?_;refine ZH fun w hw=>?_;refine⟨_,M,rfl,Mem.le.refl M,hw.c,rfl,?_⟩;(refine congrArg Value.bool ?_;simp_all[RC,Yj];done)
theorem Ce(M:Mem)(t:ZK)(K:ZK.ok M t):Fs Tryz.prog 41 [t.enc] M (fun v=>v=Value.bool (decide (TG t.tb))):=by
 obtain⟨⟨R,O⟩,⟨Yh,Yr⟩,⟨Yo,Yn,j⟩,⟨Ye,Yd,L⟩⟩:=t;have XE:SlK M Zr.segs 21 ⟨Yo,Yn,j⟩:=K.h0;have T:SlM M Yo (j.map Zr.segs) 21:=XE.h1;have Z:(j.map Zr.segs).length=j.length:=A8 ..;have V:j.length≤9223372036854775807:=XE.h2;have U:j.length≤Yn:=XE.h3;have YR:SlK M Zr.segs 21 ⟨Ye,Yd,L⟩:=K.h1;have d:SlM M Ye (L.map Zr.segs) 21:=YR.h1;have D:(L.map Zr.segs).length=L.length:=A8 ..;have g:L.length≤9223372036854775807:=YR.h2;have B:L.length≤Yd:=YR.h3;refine Xa Tryz.func41 rfl Tryz.ntmps41 rfl ?_;intro H;refine S3 ?_;intro b1;refine S15 ?_;refine Vn (Zoo _ _) ?_;rintro _ rfl;refine S2 ?_;refine YE 12 (eT fun ae=>?_) (eF fun ae=>?_)
 ·refine S33 ?_;refine ZH fun w hw=>?_;refine⟨_,rfl,(hw.c),?_⟩;refine congrArg Value.bool ?_;(simp_all[TG,ZK.tb];done)
 refine S3 ?_;refine GN rfl rfl rfl F.ok77 rfl rfl (Ar M _ ⟨⟨R,O⟩,⟨Yh,Yr⟩,⟨Yo,Yn,j⟩,⟨Ye,Yd,L⟩⟩ K ⟨Yh,Yr⟩) jA (XK rfl) ?_;rintro _ M1 _ ⟨ad,rfl⟩;subst M1;refine S2 ?_;refine YE 18 (cT fun aj=>?_) (cF fun aj=>?_)
 ·refine S27 ?_;refine ZH fun w hw=>?_;refine⟨_,rfl,(hw.c),?_⟩;refine congrArg Value.bool ?_;(simp_all[TG,ZK.tb];done)
 refine S6 ?_;refine YE 24 (cT fun ah=>?_) (cF fun ah=>?_)
 ·refine S21 ?_;refine ZH fun w hw=>?_;refine⟨_,rfl,(hw.c),?_⟩;refine congrArg Value.bool ?_;(simp_all[TG,ZK.tb];omega)
 refine S6 ?_;refine YE 30 (eT fun ab=>?_) (eF fun ab=>?_)
 ·refine S15 ?_;refine ZH fun w hw=>?_;refine⟨_,rfl,(hw.c),?_⟩;refine congrArg Value.bool ?_;(simp_all[TG,ZK.tb];omega)
 refine S3 ?_;refine PG (RN _ [(b1,_)] ⟨_,_,_⟩ 77 [_] (fun p=>decide (¬RC ⟨R,O⟩ p)) (d.rd _) g F.ok77 (fun x hx=>Ar M _ ⟨⟨R,O⟩,⟨Yh,Yr⟩,⟨Yo,Yn,j⟩,⟨Ye,Yd,L⟩⟩ K x)) ?_;rintro _ M1 _ ⟨ad,rfl⟩;subst M1;refine S3 ?_;refine Xb (fun aa=>?_) (fun aa=>?_)
 ·skip
  refine S7 ?_;refine ZH fun w hw=>?_;refine⟨_,rfl,(hw.c),?_⟩;clear hw;refine congrArg Value.bool ?_;(simp_all[TG,ZK.tb];done)
 skip
 simp only[Zr.eta,ZK.eta,ZM.eta,ZI.eta,YD.eta,YQ.eta,XM.eta,YT.eta,ZW.eta,XF.eta,Yk.eta]at aa;refine S12 ?_;refine VG [39,38,37,2,1] ?_;refine Un (.succ .zero) (fun(k:Nat) z=>z=[(39,.int .i64 (k:Int))]∧k≤j.length∧(Qq ⟨R,O⟩ (j.take k))) (fun k=>j.length-k) (0) (⟨rfl,by omega,by(refine⟨fun p hp=>?_,?_⟩;simp at hp;simp)⟩) ?_;rintro k _ ⟨rfl,hk,hI⟩;have ak:=XE.take k hk;have hlk:(j.take k).length=k:=by rw[D8];omega
 refine S6 ?_;refine Xb (cT fun ai=>?_) (cF fun ai=>?_)
 ·refine S10 ?_;intro b8;refine S5 ?_;refine Ya (l:=[0,1,2,3,4,5,6,7,8,9,10,11,12]) #[0,0,3,7,15,31,63,31,255,31,543,2047,4095] _ rfl jI jI St.drawn (fun _ h=>h) ?_;refine S2 ?_;refine Vn (Pz _ ⟨⟨_,_⟩,⟨_,_⟩,⟨_,_,_⟩,⟨_,_,_⟩⟩ ⟨_,_⟩) ?_;rintro _ rfl;refine S2 ?_;refine YE 48 (eT fun C=>?_) (eF fun C=>?_)
  ·simp only[Zr.eta,ZK.eta,ZM.eta,ZI.eta,YD.eta,YQ.eta,XM.eta,YT.eta,ZW.eta,XF.eta,Yk.eta]at C;simp only[H9]at C;refine S22 ?_;refine ZH fun w hw=>?_;refine⟨_,rfl,(hw.c),?_⟩;clear hw;refine congrArg Value.bool ?_;(have hd:=No (s:=⟨R,O⟩) (l:=j) (k:=k) jD;have hp:=In (s:=⟨R,O⟩) (l:=j);grind [TG,ZK.tb])
  simp only[H9]at C;refine S3 ?_;refine WL rfl rfl rfl .none (.some (k:=k) rfl rfl) .none F.elem39 zJ jJ jJ jQ (Nt (l:=j) (k:=k) jD) rfl ?_;refine S2 ?_;refine Vn (Zwy _ ⟨_,_,_⟩ _ jE) ?_;rintro _ rfl;refine S3 ?_;refine Xb (cT fun y=>?_) (cF fun y=>?_)
  ·simp only[H9]at y;refine S11 ?_;refine ZH fun w hw=>?_;refine⟨_,rfl,(hw.c),?_⟩;refine congrArg Value.bool ?_;(have hd:=No (s:=⟨R,O⟩) (l:=j) (k:=k) jD;have hp:=In (s:=⟨R,O⟩) (l:=j);grind [TG,ZK.tb])
  simp only[H9]at y;refine S7 ?_;refine VX (a':=[(39,_)]) (k+1) (.cons (k:=39) rfl (.cons (k:=38) rfl (.cons (k:=37) rfl (.cons (k:=2) rfl (.cons (k:=1) rfl (.nil)))))) (fun w hw=>by first|exact hw|exact hw.c) ?_ ?_
  ·refine⟨rfl,by omega,?_⟩;rw[No jD];simp_all
  omega
 refine S11 ?_;refine ZH fun w hw=>?_;refine⟨_,rfl,(hw.c),?_⟩;refine congrArg Value.bool ?_;(have ag:k=j.length:=jD;subst ag;rw[G0]at hI;simp_all[TG,ZK.tb];omega)
theorem Zei(M:Mem)(c:Nat)(l:List Zr)(k:SlK M Zr.segs 21 ⟨none,c,l⟩)(hb:l.length≤1000000):Fh Tryz.prog 89 [.slice none l.length c] M [] (fun M' v g=>M'=M∧OSl 38 21 v g (l.map Zr.segs)):=by
 have d:l=[]:=SlM.none_nil k.h1;subst d;have d:([]:List Zr).map Zr.segs=[]:=rfl;refine Uu Tryz.func89 rfl Tryz.ntmps89 rfl ?_;intro H;refine S12 ?_;refine Xb (fun j=>?_) (fun j=>?_)
 ·skip
  refine S7 ?_;refine ZH fun w hw=>?_;exact⟨_,M,[],rfl,Mem.le.refl M,hw.c,rfl,by rw[d];exact OSl.nil⟩
 skip
 (exfalso;simp[eqX]at j;done)
theorem BO(M:Mem)(K:Addr)(c:Nat)(l:List Zr)(k:SlK M Zr.segs 21 ⟨some K,c,l⟩)(hb:l.length≤1000000):Fh Tryz.prog 89 [.slice (some K) l.length c] M [] (fun M' v g=>M'=M∧OSl 38 21 v g (l.map Zr.segs)):=by
 have j:l.length=(l.map Zr.segs).length:=(A8 ..).symm;refine Uu Tryz.func89 rfl Tryz.ntmps89 rfl ?_;intro H;refine S12 ?_;refine Xb (fun d=>?_) (fun d=>?_)
 ·skip
  (exfalso;simp[eqX]at d;done)
 skip
 refine S5 ?_;intro O B;refine Stp ?_;refine Vc (m:=1000000) rfl rfl rfl rfl rfl F.elem39 F.zero38 zI rfl jE jA (SlM.src k.h1 (Rf Zr.flat _) j) jX jM rfl ?_;intro v6 L y;obtain⟨D,C,rfl⟩:=y.val;refine S4 ?_;refine ZH fun w hw=>?_;exact⟨_,M,_,rfl,Mem.le.refl M,hw.c,rfl,by assumption⟩
theorem RB(M:Mem)(a:Option Addr)(c:Nat)(l:List Zr)(k:SlK M Zr.segs 21 ⟨a,c,l⟩)(hb:l.length≤1000000):Fh Tryz.prog 89 [.slice a l.length c] M [] (fun M' v d=>M'=M∧OSl 38 21 v d (l.map Zr.segs)):=by
 cases a with
 |none=>exact Zei M c l k hb
 |some ad=>exact BO M ad c l k hb
theorem Zqj(M:Mem):Fs Tryz.prog 214 [.int .u64 1,.int .u64 160] M (fun v=>v=.tuple #[.int .u64 0,.int .u64 160]):=by
 refine Xa Tryz.func214 rfl Tryz.ntmps214 rfl ?_;intro H;refine S16 ?_;refine VK rfl rfl rfl rfl jM (Uw 32 jM) rfl rfl ?_;refine S13 ?_;refine VK rfl rfl rfl rfl jM (Uw 32 jM) rfl rfl ?_;refine S17 ?_;refine VK rfl rfl rfl rfl jM (Uw 32 jM) rfl rfl ?_;refine S14 ?_;refine VK rfl rfl rfl rfl jM (Uw 32 jM) rfl rfl ?_;refine S21 ?_;refine VK rfl rfl rfl rfl jM (Uw 32 jM) rfl rfl ?_;refine S13 ?_;refine ZH fun w hw=>?_;refine⟨_,rfl,hw.c,?_⟩;rfl
theorem Zyh(M:Mem):Fs Tryz.prog 186 [.int .u64 1,.int .u64 160] M (fun v=>v=.tuple #[.int .u64 0,.int .u64 160]):=by
 refine Xa Tryz.func186 rfl Tryz.ntmps186 rfl ?_;intro H;refine S14 ?_;refine Vn (Zqj M) ?_;rintro _ rfl;refine S16 ?_;refine ZH fun w hw=>?_;refine⟨_,rfl,hw.c,?_⟩;rfl
theorem Cb(M:Mem)(b:Nat)(y:Hp)(aa:OSl 38 21 (.slice (some ⟨b,0,none⟩) 1 1) y [Yj.segs]):Fh Tryz.prog 145 [.slice (some ⟨b,0,none⟩) 1 1,.int .i64 160] M y (fun M' v K=>M'=M∧OSl 38 21 v K (List.replicate 160 Yj.segs)):=by
 refine Uu Tryz.func145 rfl Tryz.ntmps145 rfl ?_;intro H;refine S12 ?_;refine Xb (cT fun R=>?_) (cF fun R=>?_)
 ·(exfalso;omega)
 refine S9 ?_;refine Vn (Zyh M) ?_;rintro _ rfl;refine S13 ?_;refine YE 23 (cT fun U=>?_) (cF fun U=>?_)
 ·(exfalso;omega)
 refine S5 ?_;refine Xb (cT fun ab=>?_) (cF fun ab=>?_)
 ·(exfalso;omega)
 refine S6 ?_;refine QI (k:=160) (zr:=Zr.zero.segs) rfl rfl rfl rfl F.elem39 F.zero38 rfl (VV rfl) rfl jM jM rfl ?_;intro d ad V;refine S7 ?_;refine Zlc (k:=0) (b:=d) rfl rfl rfl rfl rfl F.elem39 rfl jQ V jA (OSl.srcAll aa jA (CJ (Zr.flat _) 1)) rfl rfl ?_;intro C g;rw[Zga jM]at g;replace g:OSl 38 21 (.slice (some ⟨d,0,none⟩) 160 160) C (List.replicate 1 Yj.segs++List.replicate (160-1) Zr.zero.segs):=(by simpa using g)
 refine S5 ?_;refine VG [8,7,4] ?_;refine XV (Hin:=C) (.succ .zero) jA (fun(k:Nat) T h1 z=>T=M∧z=[(8,.int .i64 (k:Int))]∧1≤k∧k≤160∧OSl 38 21 (.slice (some ⟨d,0,none⟩) 160 160) h1 (List.replicate k Yj.segs++List.replicate (160-k) Zr.zero.segs)) (fun k=>160-k) (1) (⟨rfl,rfl,by omega,by omega,g⟩) ?_;rintro k T h1 z ag ⟨O,rfl,ae,hk,L⟩;subst O;refine S9 ?_;refine Xb (cT fun Z=>?_) (cF fun Z=>?_)
 ·refine S3 ?_;refine Ya (l:=[0,1,2,3,4,5,6,7,8,9]) #[0,0,0,6,0,0,48,126,255,511] _ rfl jI jI St.drawn (fun _ h=>h) ?_;refine S3 ?_;refine WL rfl rfl rfl (.some (k:=k) rfl rfl) .none .none F.elem39 jQ jW jW jQ (show WK (some ⟨d,0,none⟩) 21 k 160 160=.slice (some ⟨d,0+k * 21,none⟩) (160-k) (160-k)from UZ jD) rfl ?_;refine S2 ?_;refine WL rfl rfl rfl .none (.some (k:=k) rfl rfl) .none F.elem39 jQ jW jW jQ (show WK (some ⟨d,0,none⟩) 21 0 k 160=.slice (some ⟨d,0,none⟩) k 160 from SV) rfl ?_;have B:OSl 38 21 (.slice (some ⟨d,0,none⟩) k 160) h1 (List.replicate k Yj.segs):=(by have h9:=OSl.cut (k:=k) (rows:=(List.replicate k Yj.segs++List.replicate (160-k) Zr.zero.segs)) (L.aZ rfl) jQ;rw[Af]at h9;exact h9)
  refine Zlc (k:=k) (b:=d) (m:=min k (160-k)) rfl rfl rfl rfl rfl F.elem39 jD jQ L jA (OSl.srcAll B jA (CJ (Zr.flat _) k)) jQ rfl ?_;intro D j;rw[Zng jD jD jD]at j;replace j:OSl 38 21 (.slice (some ⟨d,0,none⟩) 160 160) D (List.replicate (k+min k (160-k)) Yj.segs++List.replicate (160-(k+min k (160-k))) Zr.zero.segs):=j.aZ jU;refine S4 ?_;refine YO (a':=[(8,_)]) (k+min k (160-k)) (D) (.cons (k:=8) rfl (.cons (k:=7) rfl (.cons (k:=4) rfl (.nil)))) jO (fun w hw=>by first|exact hw|exact hw.c) ?_ ?_
  ·exact⟨rfl,congrArg (fun v=>[(8,Value.int .i64 v)]) jQ,by omega,by omega,j⟩
  omega
 refine S12 ?_;refine ZH fun w hw=>?_;obtain rfl:k=160:=by omega
 rw[Nat.sub_self,List.replicate_zero,E0]at L;exact⟨_,T,h1,rfl,Mem.le.refl _,hw.c,rfl,L⟩
theorem F.bld41:Bld Tryz.prog 41 [[.one (.int .i64 0),ZU 0],[.one (.int .i64 0),ZU 0],[.one (.slice none 0 0)],[.one (.slice none 0 0)]]:=by rw[Uz];exact⟨by kernel_rfl,by kernel_rfl⟩
theorem F.zero41:XP Tryz.prog 41=some (WX [.one (.int .i64 0),ZU 0,.one (.int .i64 0),ZU 0,.one (.slice none 0 0),.one (.slice none 0 0)]):=by rw[Uz];kernel_rfl
theorem New_ok(M:Mem)(self:Zr):Esp.Fn Tryz.prog 87 [self.enc] M (fun M' v=>Zzx M' v (Au self)):=by
 obtain⟨self_addr,d⟩:=self;refine WE Tryz.func87 rfl Tryz.ntmps87 rfl ?_;intro H;refine S3 ?_;intro U;refine Stp ?_;intro V;refine S8 ?_;refine Vn (Zoo _ _) ?_;rintro _ rfl;refine S3 ?_;refine Xb (eT fun y=>?_) (eF fun y=>?_)
 ·refine S9 ?_;refine ZH fun w hw=>?_;refine⟨_,M,rfl,Mem.le.refl M,hw.c,?_⟩;rw[show Au ⟨self_addr,d⟩=(Tb.zero,1)from if_neg jE];exact⟨_,rfl,Sb⟩
 refine S3 ?_;refine Ya (l:=[0,1,2,3,4,5,6,7]) #[0,0,2,6,14,31,63,127] _ rfl jI jI St.drawn (fun _ h=>h) ?_;refine Stp ?_;refine Vn (VD _) ?_;rintro _ rfl;refine Xs 10 rfl (show _=WX [.one (.int .i64 (-1)),ZU 0]from rfl) ?_;refine Vn (VD _) ?_;rintro _ rfl;refine Xs 11 rfl (show _=WX [.one (.int .i64 (-1)),ZU 0]from rfl) ?_;refine YK rfl rfl F.elem39 F.zero38 rfl rfl (.cons rfl jG .nil) rfl rfl jK rfl ?_;intro T g;refine We (Cb M _ _ g) ?_;rintro v9 L R K ⟨D,j⟩;subst L;obtain⟨O,B,rfl⟩:=j.val;refine XN rfl rfl F.bld41 (.cons rfl jG (.cons rfl jG (.cons rfl jG .nil))) rfl rfl ?_;refine S5 ?_;refine ZH fun w hw=>?_;obtain⟨C,s1,g1,g2,g3,g4,g5⟩:=OSl.freezeK (f:=Zr.segs) (H:=H) (l:=List.replicate 160 Yj) (by rw[List.map_replicate];exact j) (hw.c);refine⟨_,C,rfl,g1,g2,?_⟩;rw[show Au ⟨self_addr,d⟩=(⟨⟨self_addr,d⟩,Yj,[],List.replicate 160 Yj⟩,0)from if_pos jE];exact⟨_,rfl,Uq (s1:=⟨none,0,[]⟩) rfl g3 SlK.nil g5 (by rw[g4];rfl)⟩
theorem Zqq(M:Mem)(t:ZK)(first:Zr)(rest:(Sl Zr))(r:Int)(bb:ZK.ok M t)(ah:SlK M Zr.segs 21 rest):Esp.Fn Tryz.prog 201 [t.enc,first.enc,Sl.val rest,.int .i64 r] M (fun M' v=>Zzx M' v (VJ t.tb first rest.l r)):=by
 obtain⟨⟨C,B⟩,⟨Z,T⟩,⟨Yo,Yn,R⟩,⟨L,K,y⟩⟩:=t;obtain⟨g,j⟩:=first
 obtain⟨U,V,d⟩:=rest;have XE:SlK M Zr.segs 21 ⟨Yo,Yn,R⟩:=bb.h0;have au:SlM M Yo (R.map Zr.segs) 21:=XE.h1;have ar:(R.map Zr.segs).length=R.length:=A8 ..;have aw:R.length≤9223372036854775807:=XE.h2;have aq:R.length≤Yn:=XE.h3;have YR:SlK M Zr.segs 21 ⟨L,K,y⟩:=bb.h1;have ad:SlM M L (y.map Zr.segs) 21:=YR.h1;have ai:(y.map Zr.segs).length=y.length:=A8 ..;have ae:y.length≤9223372036854775807:=YR.h2;have ag:y.length≤K:=YR.h3;have D:SlK M Zr.segs 21 ⟨U,V,d⟩:=ah;have bg:SlM M U (d.map Zr.segs) 21:=D.h1;have bd:(d.map Zr.segs).length=d.length:=A8 ..;have bc:d.length≤9223372036854775807:=D.h2;have bf:d.length≤V:=D.h3;refine WE Tryz.func201 rfl Tryz.ntmps201 rfl ?_;intro H;refine S3 ?_;intro b1;refine Stp ?_;intro b2;refine Stp ?_;intro b3;refine S7 ?_;refine Vn (Ce _ ⟨⟨_,_⟩,⟨_,_⟩,⟨_,_,_⟩,⟨_,_,_⟩⟩ jE) ?_;rintro _ rfl;refine S2 ?_;refine YE 15 (eT fun bl=>?_) (eF fun bl=>?_)
 ·refine S25 ?_;refine ZH fun w hw=>?_;refine⟨_,M,rfl,Mem.le.refl M,hw.c,?_⟩;rw[show VJ (ZK.tb ⟨⟨C,B⟩,⟨Z,T⟩,⟨Yo,Yn,R⟩,⟨L,K,y⟩⟩) ⟨g,j⟩ d r=(Tb.zero,1)from if_neg yG];exact⟨_,rfl,Sb⟩
 refine S2 ?_;refine Vn (Pz _ ⟨⟨_,_⟩,⟨_,_⟩,⟨_,_,_⟩,⟨_,_,_⟩⟩ ⟨_,_⟩) ?_;rintro _ rfl;refine S3 ?_;refine YE 21 (eT fun ak=>?_) (eF fun ak=>?_)
 ·simp only[Zr.eta,ZK.eta,ZM.eta,ZI.eta,YD.eta,YQ.eta,XM.eta,YT.eta,ZW.eta,XF.eta,Yk.eta]at ak;refine S19 ?_;refine ZH fun w hw=>?_;refine⟨_,M,rfl,Mem.le.refl M,hw.c,?_⟩;rw[show VJ (ZK.tb ⟨⟨C,B⟩,⟨Z,T⟩,⟨Yo,Yn,R⟩,⟨L,K,y⟩⟩) ⟨g,j⟩ d r=(Tb.zero,1)from if_neg yG];exact⟨_,rfl,Sb⟩
 simp only[Zr.eta,ZK.eta,ZM.eta,ZI.eta,YD.eta,YQ.eta,XM.eta,YT.eta,ZW.eta,XF.eta,Yk.eta]at ak;refine S4 ?_;refine YE 25 (cT fun bj=>?_) (cF fun bj=>?_)
 ·refine S15 ?_;refine ZH fun w hw=>?_;refine⟨_,M,rfl,Mem.le.refl M,hw.c,?_⟩;rw[show VJ (ZK.tb ⟨⟨C,B⟩,⟨Z,T⟩,⟨Yo,Yn,R⟩,⟨L,K,y⟩⟩) ⟨g,j⟩ d r=(Tb.zero,1)from if_neg yG];exact⟨_,rfl,Sb⟩
 refine S5 ?_;refine Xb (cT fun bh=>?_) (cF fun bh=>?_)
 ·refine S9 ?_;refine ZH fun w hw=>?_;refine⟨_,M,rfl,Mem.le.refl M,hw.c,?_⟩;rw[show VJ (ZK.tb ⟨⟨C,B⟩,⟨Z,T⟩,⟨Yo,Yn,R⟩,⟨L,K,y⟩⟩) ⟨g,j⟩ d r=(Tb.zero,1)from if_neg yG];exact⟨_,rfl,Sb⟩
 refine S5 ?_;refine YK rfl rfl F.elem39 F.zero38 rfl rfl (.cons rfl jG .nil) rfl rfl jK rfl ?_;intro b8 a8;refine S13 ?_;refine VG [35,34,33,9,8,4,3] ?_;refine OZ (Hin:=[(b1,Yp [.one (.int .i64 C),ZU B,.one (.int .i64 Z),ZU T,.one (.slice (some ⟨b8,0,none⟩) 1 1),.one (.slice L y.length K)] 41)]) (Hin2:=[(b8,_)]) (.succ .zero) jA jA (fun(k:Nat) M1 h1 z=>∃(acc:List Zr) (v:Value) (hs:Hp),M1=M∧z=[(35,.int .i64 (k:Int))]∧k≤d.length∧h1=(b1,Yp [.one (.int .i64 C),ZU B,.one (.int .i64 Z),ZU T,.one v,.one (.slice L y.length K)] 41)::hs∧OSl 38 21 v hs (acc.map Zr.segs)∧(acc.length:Int)≤r∧Wk ⟨C,B⟩ r [⟨g,j⟩] d=Wk ⟨C,B⟩ r acc (d.drop (k))) (fun k=>d.length-k) (0) (⟨[⟨g,j⟩],_,_,rfl,rfl,by omega,rfl,a8,by simp only[C8,D5];omega,by rw[List.drop_zero]⟩) ?_;rintro k M1 h1 z bo ⟨acc,v0,ba,a1,rfl,hk,rfl,ho,bk,hI⟩;subst a1;obtain⟨a7,a6,rfl⟩:=ho.valL;have bp:(acc.map Zr.segs).length=acc.length:=A8 ..;refine S6 ?_;refine Xb (cT fun ax=>?_) (cF fun ax=>?_)
 ·refine S9 ?_;intro bn;refine S8 ?_;refine Vn (Pz _ ⟨⟨_,_⟩,⟨_,_⟩,⟨_,_,_⟩,⟨_,_,_⟩⟩ ⟨_,_⟩) ?_;rintro _ rfl;refine S2 ?_;refine YE 43 (eT fun aa=>?_) (eF fun aa=>?_)
  ·simp only[H9]at aa;refine S11 ?_;refine Qr jM ?_;refine S12 ?_;refine ZH fun w hw=>?_;have O:Wk ⟨C,B⟩ r [⟨g,j⟩] d=acc:=by
    rw[hI,G4 (by omega:k<d.length)];unfold Wk;exact if_pos yK
   obtain⟨M9,s1,g1,g2,g3,g4,g5⟩:=OSl.freezeK (f:=Zr.segs) (H:=H) (l:=acc) ho (hw.c);refine⟨_,M9,rfl,g1,g2,?_⟩;rw[show VJ (ZK.tb ⟨⟨C,B⟩,⟨Z,T⟩,⟨Yo,Yn,R⟩,⟨L,K,y⟩⟩) ⟨g,j⟩ d r=({ (ZK.tb ⟨⟨C,B⟩,⟨Z,T⟩,⟨Yo,Yn,R⟩,⟨L,K,y⟩⟩)with succ:=Wk ⟨C,B⟩ r [⟨g,j⟩] d },0)from if_pos ⟨by assumption,by assumption,by omega,by omega⟩];exact⟨_,rfl,Uq g3 (s2:=⟨L,K,y⟩) rfl g5 (YR.mono g1) (by rw[g4,O];rfl)⟩
  simp only[H9]at aa;refine S8 ?_;refine Xb (cT fun az=>?_) (cF fun az=>?_)
  ·refine S2 ?_;refine Qr jM ?_;refine S12 ?_;refine ZH fun w hw=>?_;have O:Wk ⟨C,B⟩ r [⟨g,j⟩] d=acc:=by
    rw[hI,G4 (by omega:k<d.length)];unfold Wk;exact if_pos (by exact .inr jD)
   obtain⟨M9,s1,g1,g2,g3,g4,g5⟩:=OSl.freezeK (f:=Zr.segs) (H:=H) (l:=acc) ho (hw.c);refine⟨_,M9,rfl,g1,g2,?_⟩;rw[show VJ (ZK.tb ⟨⟨C,B⟩,⟨Z,T⟩,⟨Yo,Yn,R⟩,⟨L,K,y⟩⟩) ⟨g,j⟩ d r=({ (ZK.tb ⟨⟨C,B⟩,⟨Z,T⟩,⟨Yo,Yn,R⟩,⟨L,K,y⟩⟩)with succ:=Wk ⟨C,B⟩ r [⟨g,j⟩] d },0)from if_pos ⟨by assumption,by assumption,by omega,by omega⟩];exact⟨_,rfl,Uq g3 (s2:=⟨L,K,y⟩) rfl g5 (YR.mono g1) (by rw[g4,O];rfl)⟩
  refine S8 ?_;refine PG (Zil _ ba ⟨a7,a6,acc⟩ _ (ho.rd _) (by show acc.length≤9223372036854775807;omega)) ?_;rintro _ M1 _ ⟨a1,rfl⟩;subst M1;refine S3 ?_;refine Xb (eT fun ab=>?_) (eF fun ab=>?_)
  ·simp only[H9]at ab;refine S4 ?_;refine YK rfl rfl F.elem39 F.zero38 rfl rfl (.cons rfl jG .nil) rfl rfl jK rfl ?_;intro bq al;refine Vc (m:=1000000) rfl rfl rfl rfl rfl F.elem39 F.zero38 zI rfl jE jA (Src.own al.lens jN rfl jB) jX jM rfl ?_;intro bm ay aj;obtain⟨ao,an,rfl⟩:=aj.valAt (n:=acc.length+1) zS;refine S9 ?_;refine YO (a':=[(35,_)]) (k+1) ((b1,Yp [.one (.int .i64 C),ZU B,.one (.int .i64 Z),ZU T,.one (.slice ao (acc.length+1) an),.one (.slice L y.length K)] 41)::ay) (.cons (k:=35) rfl (.cons (k:=34) rfl (.cons (k:=33) rfl (.cons (k:=9) rfl (.cons (k:=8) rfl (.cons (k:=4) rfl (.cons (k:=3) rfl (.nil)))))))) jO (fun w hw=>by first|exact hw|exact hw.c) ?_ ?_
   ·refine⟨acc++[d[k]],_,_,rfl,rfl,by omega,rfl,by rw[C6];exact aj,by simp only[B3,C8,D5];omega,?_⟩;rw[hI,G4 (by omega:k<d.length)]
    conv=>lhs;unfold Wk
    rw[if_neg (by rintro(h|h);exact h jE;omega),if_neg jE]
   omega
  simp only[H9]at ab;refine S7 ?_;refine YO (a':=[(35,_)]) (k+1) ((b1,Yp [.one (.int .i64 C),ZU B,.one (.int .i64 Z),ZU T,.one (.slice a7 acc.length a6),.one (.slice L y.length K)] 41)::ba) (.cons (k:=35) rfl (.cons (k:=34) rfl (.cons (k:=33) rfl (.cons (k:=9) rfl (.cons (k:=8) rfl (.cons (k:=4) rfl (.cons (k:=3) rfl (.nil)))))))) jO (fun w hw=>by first|exact hw|exact hw.c) ?_ ?_
  ·refine⟨acc,_,_,rfl,rfl,by omega,rfl,ho,bk,?_⟩;rw[hI,G4 (by omega:k<d.length)]
   conv=>lhs;unfold Wk
   rw[if_neg (by rintro(h|h);exact h jE;omega),if_pos jE]
  omega
 refine S13 ?_;refine ZH fun w hw=>?_;have O:Wk ⟨C,B⟩ r [⟨g,j⟩] d=acc:=by
  rw[hI,show k=d.length from by omega,List.drop_length];simp only[Wk]
 obtain⟨M9,s1,g1,g2,g3,g4,g5⟩:=OSl.freezeK (f:=Zr.segs) (H:=H) (l:=acc) ho (hw.c);refine⟨_,M9,rfl,g1,g2,?_⟩;rw[show VJ (ZK.tb ⟨⟨C,B⟩,⟨Z,T⟩,⟨Yo,Yn,R⟩,⟨L,K,y⟩⟩) ⟨g,j⟩ d r=({ (ZK.tb ⟨⟨C,B⟩,⟨Z,T⟩,⟨Yo,Yn,R⟩,⟨L,K,y⟩⟩)with succ:=Wk ⟨C,B⟩ r [⟨g,j⟩] d },0)from if_pos ⟨by assumption,by assumption,by omega,by omega⟩];exact⟨_,rfl,Uq g3 (s2:=⟨L,K,y⟩) rfl g5 (YR.mono g1) (by rw[g4,O];rfl)⟩
theorem Zak(M:Mem)(t:ZK)(p:Zr)(O:ZK.ok M t):Esp.Fn Tryz.prog 176 [t.enc,p.enc] M (fun M' v=>TabIs M' v (WO t.tb p)):=by
 obtain⟨⟨ZZ,Yg⟩,⟨Yh,Yr⟩,⟨B,j,g⟩,⟨K,D,C⟩⟩:=t;obtain⟨YB,aa⟩:=p;have R:SlK M Zr.segs 21 ⟨B,j,g⟩:=O.h0;have L:SlK M Zr.segs 21 ⟨K,D,C⟩:=O.h1;refine WE Tryz.func176 rfl Tryz.ntmps176 rfl ?_;intro H;refine S3 ?_;intro b1;refine Stp ?_;intro b2;refine Stp ?_;intro b3;refine S14 ?_;refine Vn (Ce _ ⟨⟨_,_⟩,⟨_,_⟩,⟨_,_,_⟩,⟨_,_,_⟩⟩ jE) ?_;rintro _ rfl;refine S2 ?_;refine YE 9 (eT fun V=>?_) (eF fun V=>?_)
 ·refine S15 ?_;iterate 2 refine Qr jM ?_
  refine S10 ?_;refine ZH fun w hw=>?_;refine⟨_,M,rfl,Mem.le.refl M,hw.c,?_⟩;exact Uq (s1:=⟨B,j,g⟩) (s2:=⟨K,D,C⟩) rfl rfl R L yD
 refine S2 ?_;refine Vn (Pz _ ⟨⟨_,_⟩,⟨_,_⟩,⟨_,_,_⟩,⟨_,_,_⟩⟩ ⟨_,_⟩) ?_;rintro _ rfl;refine S5 ?_;refine Xb (eT fun T=>?_) (eF fun T=>?_)
 ·refine S6 ?_;iterate 2 refine Qr jM ?_
  refine S10 ?_;refine ZH fun w hw=>?_;refine⟨_,M,rfl,Mem.le.refl M,hw.c,?_⟩;exact Uq (s1:=⟨B,j,g⟩) (s2:=⟨K,D,C⟩) rfl rfl R L yD
 refine S4 ?_;refine Ya (l:=[0,1,2,3,4]) #[0,1,0,7,15] _ rfl jI jI St.drawn (fun _ h=>h) ?_;refine S2 ?_;refine Vn (VD _) ?_;rintro _ rfl;refine Xs 18 rfl (show _=WX [.one (.int .i64 (-1)),ZU 0]from rfl) ?_;refine VW (m:=20) rfl rfl rfl rfl rfl jG jG F.lay38 F.kinds38 rfl F.guard38 jR jR rfl rfl rfl ?_;intro c6 d;replace d:c6=true↔Segs.cells _=Segs.cells _:=d;obtain rfl:=eqD d (Zr.inj (x:=⟨_,_⟩) (y:=⟨_,_⟩));clear d;refine S3 ?_;refine Xb (cT fun Z=>?_) (cF fun Z=>?_)
 ·refine S3 ?_;refine Qr jM ?_;refine S21 ?_;refine ZH fun w hw=>?_;refine⟨_,M,rfl,Mem.le.refl M,hw.c,?_⟩;exact Uq (s1:=⟨B,j,g⟩) (s2:=⟨K,D,C⟩) rfl rfl R L (by unfold WO;rw[if_pos ⟨by assumption,by assumption,by first|exact .inl jE|exact .inr jE⟩];rfl)
 refine S12 ?_;refine Vn (Lv _ _ _ _) ?_;rintro _ rfl;refine S3 ?_;refine Xb (cT fun U=>?_) (cF fun U=>?_)
 ·refine S2 ?_;refine Qr jM ?_;refine Stp ?_;refine Qr jM ?_;refine S19 ?_;refine ZH fun w hw=>?_;refine⟨_,M,rfl,Mem.le.refl M,hw.c,?_⟩;exact Uq (s1:=⟨B,j,g⟩) (s2:=⟨K,D,C⟩) rfl rfl R L (by unfold WO;rw[if_pos ⟨by assumption,by assumption,by first|exact .inl jE|exact .inr jE⟩];rfl)
 refine S3 ?_;refine Qr jM ?_;refine Stp ?_;iterate 2 refine Qr jM ?_
 refine S10 ?_;refine ZH fun w hw=>?_;refine⟨_,M,rfl,Mem.le.refl M,hw.c,?_⟩;exact Uq (s1:=⟨B,j,g⟩) (s2:=⟨K,D,C⟩) rfl rfl R L yD
theorem BN(M:Mem)(d:Hp)(a:Option Addr)(c:Nat)(l:List Zr)(hs:Hp)(C:OSl 38 21 (.slice a l.length c) hs (l.map Zr.segs))(L:l.length≤1000000)(g:FuncId)(caps:List Value)(p:Zr→Bool)(B:Ta Tryz.prog g=true)(D:∀ x:Zr,Fo Tryz.prog g ([x.enc]++caps) M d (fun M' v=>M'=M∧v=.bool (p x)))(h:Cj p l=-1):Fh Tryz.prog 210 [.slice a l.length c,.func (.func g) #[] caps.toArray] M (hs++d) (fun M' v y=>M'=M∧∃ hs',y=hs'++d∧OSl 38 21 v hs' ((kept p l).map Zr.segs)):=by
 refine YI (fun H=>hs++(d++H)) (fun _=>B5 _ _ _) Tryz.func210 rfl Tryz.ntmps210 rfl ?_;intro H;refine S9 ?_;refine PG (Lw M (hs++d) ⟨a,c,l⟩ g caps p ((C.rd M).app d) (by show l.length≤9223372036854775807;omega) B (fun x _=>((D x).frame hs).perm List.perm_append_comm)) ?_;rintro _ K _ ⟨F,rfl⟩;subst K;rw[h];refine S10 ?_;refine Xb (cT fun j=>?_) (cF fun j=>?_)
 ·refine S8 ?_;refine ZH fun w hw=>?_;exact⟨_,M,hs++d,rfl,Mem.le.refl M,hw.c,rfl,hs,rfl,by rw[Zhs h];exact C⟩
 (exfalso;simp[eqX]at j;done)
theorem Cg(M:Mem)(V:Hp)(b:Nat)(c:Nat)(l:List Zr)(hs:Hp)(ho:OSl 38 21 (.slice (some ⟨b,0,none⟩) l.length c) hs (l.map Zr.segs))(bl:l.length≤1000000)(g:FuncId)(caps:List Value)(p:Zr→Bool)(ag:Ta Tryz.prog g=true)(hc:∀ x:Zr,Fo Tryz.prog g ([x.enc]++caps) M V (fun M' v=>M'=M∧v=.bool (p x)))(i0:Nat)(h:Cj p l=(i0:Nat))(an:i0<l.length)(ab:kept p (l.take (i0+1))=l.take i0):Fh Tryz.prog 210 [.slice (some ⟨b,0,none⟩) l.length c,.func (.func g) #[] caps.toArray] M (hs++V) (fun M' v ad=>M'=M∧∃ hs',ad=hs'++V∧OSl 38 21 v hs' ((kept p l).map Zr.segs)):=by
 refine YI (fun H=>hs++(V++H)) (fun _=>B5 _ _ _) Tryz.func210 rfl Tryz.ntmps210 rfl ?_;intro H;refine S9 ?_;refine PG (Lw M (hs++V) ⟨some ⟨b,0,none⟩,c,l⟩ g caps p ((ho.rd M).app V) (by show l.length≤9223372036854775807;omega) ag (fun x _=>((hc x).frame hs).perm List.perm_append_comm)) ?_;rintro _ Z _ ⟨T,rfl⟩;subst Z;rw[h];refine S10 ?_;refine Xb (fun d=>?_) (fun d=>?_)
 ·skip
  replace d:=dT d;(exfalso;omega)
 skip
 replace d:=dF d;refine S11 ?_;refine VG [5,6,4,0,1] ?_;refine XV (Hin:=hs) (.succ (.succ .zero)) jA (fun(j:Nat) Z h1 z=>∃(i:Nat) (w:List Zr),Z=M∧z=[(5,.int .i64 (i:Int)),(6,.int .i64 (j:Int))]∧i<j∧j≤l.length∧w.length=l.length∧w.take i=kept p (l.take j)∧w.drop j=l.drop j∧i=(kept p (l.take j)).length∧OSl 38 21 (.slice (some ⟨b,0,none⟩) l.length c) h1 (w.map Zr.segs)) (fun j=>l.length-j) (i0+1) (⟨i0,l,rfl,rfl,by omega,by omega,rfl,ab.symm,rfl,by rw[ab];simp;omega,ho⟩) ?_;rintro j Z h1 z ar ⟨i,w,T,rfl,aj,hj,L,R,O,ai,K⟩;subst T;have ao:(w.map Zr.segs).length=w.length:=A8 ..;refine S9 ?_;refine Xb (fun y=>?_) (fun y=>?_)
 ·skip
  replace y:=dT y;refine S11 ?_;intro b3;refine S7 ?_;refine GN rfl rfl rfl ag rfl rfl (hc w[j]) jA (XK rfl) ?_;rintro _ Z _ ⟨T,rfl⟩;subst Z;refine S3 ?_;refine Xb (fun B=>?_) (fun B=>?_)
  ·simp only[Bool.not_eq_true',Bool.not_eq_false']at B;have hP:=B;refine S6 ?_;refine Tw (b:=b) (j:=i) rfl rfl rfl rfl jG (Yi rfl (Xg YS)) F.lay38 rfl rfl K jA jD ?_;intro ae U;replace U:OSl 38 21 (.slice (some ⟨b,0,none⟩) l.length c) ae ((w.set i w[j]).map Zr.segs):=by rw[List.map_set];exact U.aZ jU
   refine S14 ?_;refine YO (a':=[(5,_),(6,_)]) (j+1) (ae) (.cons (k:=5) rfl (.cons (k:=6) rfl (.cons (k:=4) rfl (.cons (k:=0) rfl (.cons (k:=1) rfl (.nil)))))) jO (fun w hw=>by first|exact hw|exact hw.c) ?_ ?_
   ·have D:=NC L (by omega:j<l.length) O;have C:p l[j]=false:=by rw[← D];simpa using hP
    obtain⟨e1,e2,e3⟩:=Zoi L aj (by omega:j<l.length) R O;exact⟨i+1,w.set i l[j],rfl,rfl,by omega,by omega,e1,by rw[e2,My (by omega:j<l.length),C];rfl,e3,by rw[My (by omega:j<l.length),C];simp;omega,by rw[← D];exact U⟩
   omega
  simp only[Bool.not_eq_true',Bool.not_eq_false']at B;have hP:=B;refine S8 ?_;refine YO (a':=[(5,_),(6,_)]) (j+1) (h1) (.cons (k:=5) rfl (.cons (k:=6) rfl (.cons (k:=4) rfl (.cons (k:=0) rfl (.cons (k:=1) rfl (.nil)))))) jO (fun w hw=>by first|exact hw|exact hw.c) ?_ ?_
  ·have D:=NC L (by omega:j<l.length) O;have C:p l[j]=true:=by rw[← D];simpa using hP
   exact⟨i,w,rfl,rfl,by omega,by omega,L,by rw[R,My (by omega:j<l.length),C];rfl,by have:=congrArg (List.drop 1) O;simpa[E5]using this,by rw[My (by omega:j<l.length),C];simpa using ai,K⟩
  omega
 skip
 replace y:=dF y;refine S9 ?_;obtain rfl:j=l.length:=by omega
 rw[G0]at R ai;have aq:=K.caps;refine WL rfl rfl rfl (.some (k:=i) rfl rfl) .none .none F.elem39 jQ jW jW jQ (show WK (some ⟨b,0,none⟩) 21 i l.length c=.slice (some ⟨b,0+i * 21,none⟩) (l.length-i) (c-i)from UZ jD) rfl ?_;have aa:OSl 38 21 (.slice (some ⟨b,0,none⟩) ((kept p l).map Zr.segs).length c) h1 ((kept p l).map Zr.segs):=(by have h9:=OSl.cut (k:=i) (K.aZ rfl) jD;rw[← List.map_take,R]at h9;exact h9.aZ rfl)
 have al:((kept p l).map Zr.segs).length=i:=by simp;omega
 refine JS rfl rfl rfl rfl rfl F.elem39 F.zero38 (VV rfl) (Zox (Yi rfl (Xg YS))) aa jA jD jD Oa ?_;intro ah ak;refine S6 ?_;refine WL rfl rfl rfl .none (.some (k:=i) rfl rfl) .none F.elem39 jQ jW jW jQ (show WK (some ⟨b,0,none⟩) 21 0 i c=.slice (some ⟨b,0,none⟩) i c from SV) rfl ?_;refine S4 ?_;refine ZH fun w hw=>?_;exact⟨_,_,ah++V,rfl,Mem.le.refl _,hw.c,rfl,ah,rfl,ak.aZ jD⟩
theorem JX(M:Mem)(d:Hp)(a:Option Addr)(c:Nat)(l:List Zr)(hs:Hp)(B:OSl 38 21 (.slice a l.length c) hs (l.map Zr.segs))(D:l.length≤1000000)(g:FuncId)(caps:List Value)(p:Zr→Bool)(j:Ta Tryz.prog g=true)(C:∀ x:Zr,Fo Tryz.prog g ([x.enc]++caps) M d (fun M' v=>M'=M∧v=.bool (p x))):Fh Tryz.prog 210 [.slice a l.length c,.func (.func g) #[] caps.toArray] M (hs++d) (fun M' v y=>M'=M∧∃ hs',y=hs'++d∧OSl 38 21 v hs' ((kept p l).map Zr.segs)):=by
 by_cases h:Cj p l=-1
 ·exact BN M d a c l hs B D g caps p j C h
 obtain⟨i0,h1,h2,h3,F⟩:=Zig h;obtain⟨b,rfl⟩:=B.someB jD;exact Cg M d b c l hs B D g caps p j C i0 h1 h2 h3
theorem F.ok209:Ta Tryz.prog 209=true:=by kernel_rfl
theorem F.ok210:Ta Tryz.prog 210=true:=by kernel_rfl
theorem Jv(M:Mem)(b:Nat)(a:Int)(p:Zr):Fo Tryz.prog 209 ([p.enc]++[.pointer (some ⟨b,0,none⟩)]) M [(b,Yp [.one (.int .i64 a)] 3)] (fun M' v=>M'=M∧v=.bool (decide (p.addr=a))):=by
 obtain⟨g,d⟩:=p;refine VT Tryz.func209 rfl Tryz.ntmps209 rfl ?_;intro H;refine S3 ?_;intro j;refine S13 ?_;refine ZH fun w hw=>?_;refine⟨_,M,rfl,Mem.le.refl M,hw.c,rfl,?_⟩;rfl
theorem MB(M:Mem)(t:ZK)(addr:Int)(an:ZK.ok M t)(al:t.succ.l.length≤40∧t.fingers.l.length≤200):Esp.Fn Tryz.prog 177 [t.enc,.int .i64 addr] M (fun M' v=>TabIs M' v (Xd t.tb addr)):=by
 obtain⟨⟨ZZ,Yg⟩,⟨Yh,Yr⟩,⟨Yo,Yn,Yc⟩,⟨Ye,Yd,d⟩⟩:=t;have XE:SlK M Zr.segs 21 ⟨Yo,Yn,Yc⟩:=an.h0;have YR:SlK M Zr.segs 21 ⟨Ye,Yd,d⟩:=an.h1;simp only at al;refine WE Tryz.func177 rfl Tryz.ntmps177 rfl ?_;intro H;refine S3 ?_;intro b1;refine Stp ?_;intro b2;refine Stp ?_;intro b3;refine S14 ?_;refine GN rfl rfl rfl F.ok209 rfl rfl (Jv _ b2 addr ⟨Yh,Yr⟩) jA (XK rfl) ?_;rintro _ y _ ⟨g,rfl⟩;subst y;refine S2 ?_;refine Xb (cT fun ak=>?_) (cF fun ak=>?_)
 ·simp only[Zr.eta,ZK.eta,ZM.eta,ZI.eta,YD.eta,YQ.eta,XM.eta,YT.eta,ZW.eta,XF.eta,Yk.eta]at ak;refine Stp ?_;refine Vn (VD _) ?_;rintro _ rfl;refine Xs 13 rfl (show _=WX [.one (.int .i64 (-1)),ZU 0]from rfl) ?_;refine S8 ?_;refine We (RB M Yo Yn Yc XE jD) ?_;rintro v8 y ag O ⟨g,V⟩;subst y;obtain⟨ab,ah,rfl⟩:=V.valL;refine Stp ?_;refine Zah rfl rfl F.ok210 rfl (JX M [(b2,_)] ab ah Yc ag V jD 209 [_] (fun p=>decide (p.addr=addr)) F.ok209 (fun x=>Jv M b2 addr x)) jA jA (by rintro v M9 _ w hm ⟨rfl,ai,rfl,_⟩ hw;exact hw.c) (XK rfl) ?_;rintro v9 y _ O ⟨g,ai,rfl,U⟩;subst y;obtain⟨au,ax,rfl⟩:=U.valL;simp only[B5,B4,B6];refine S8 ?_;refine We (RB M Ye Yd d YR jD) ?_;rintro v7 y ad O ⟨g,aa⟩;subst y;obtain⟨ae,T,rfl⟩:=aa.valL;refine S14 ?_;refine VG [28,27,26,5,4,2] ?_;refine XV (Hin:=ad) (.succ .zero) jA (fun(k:Nat) y h1 z=>∃(w:List Zr),y=M∧z=[(28,.int .i64 (k:Int))]∧k≤d.length∧w.length=d.length∧w.take k=(d.take k).map (Ic addr)∧w.drop k=d.drop k∧OSl 38 21 (.slice ae d.length T) h1 (w.map Zr.segs)) (fun k=>d.length-k) (0) (⟨d,rfl,rfl,by omega,rfl,rfl,rfl,aa⟩) ?_;rintro k y h1 z O ⟨w,g,rfl,hk,B,C,K,D⟩;subst g;have ar:(w.map Zr.segs).length=w.length:=A8 ..;refine S6 ?_;refine Xb (cT fun ao=>?_) (cF fun ao=>?_)
  ·refine S10 ?_;intro b6;refine S8 ?_;refine GN rfl rfl rfl F.ok209 rfl rfl (Jv _ b2 addr w[k]) jA (XK rfl) ?_;rintro _ y _ ⟨g,rfl⟩;subst y;refine S2 ?_;refine Xb (cT fun aw=>?_) (cF fun aw=>?_)
   ·refine Ya (l:=[0,1,2,3,4,5]) #[0,1,0,0,15,31] _ rfl jI jI St.drawn (fun _ h=>h) ?_;refine S3 ?_;refine Vn (VD _) ?_;rintro _ rfl;refine Xs 39 rfl (show _=WX [.one (.int .i64 (-1)),ZU 0]from rfl) ?_;refine Stp ?_;obtain⟨b6,rfl⟩:=D.someB jD;refine Tw (b:=b6) (j:=k) rfl rfl rfl rfl jG (Yi rfl (Xg YS)) F.lay38 rfl rfl D jA jD ?_;intro Z L;replace L:OSl 38 21 (.slice (some ⟨b6,0,none⟩) d.length T) Z ((w.set k Yj).map Zr.segs):=by rw[List.map_set];exact L.aZ jU
    refine S7 ?_;refine YO (a':=[(28,_)]) (k+1) (Z) (.cons (k:=28) rfl (.cons (k:=27) rfl (.cons (k:=26) rfl (.cons (k:=5) rfl (.cons (k:=4) rfl (.cons (k:=2) rfl (.nil))))))) jO (fun w hw=>by first|exact hw|exact hw.c) ?_ ?_
    ·have R:=NC B (by omega:k<d.length) K;obtain⟨e1,e2,e3⟩:=Eh (f:=Ic addr) (x:=Yj) B (by omega:k<d.length) C K (by unfold Ic;rw[if_pos (by rw[← R];assumption)]);exact⟨w.set k Yj,rfl,rfl,by omega,e1,e2,e3,L⟩
    omega
   refine S7 ?_;refine YO (a':=[(28,_)]) (k+1) (h1) (.cons (k:=28) rfl (.cons (k:=27) rfl (.cons (k:=26) rfl (.cons (k:=5) rfl (.cons (k:=4) rfl (.cons (k:=2) rfl (.nil))))))) jO (fun w hw=>by first|exact hw|exact hw.c) ?_ ?_
   ·have R:=NC B (by omega:k<d.length) K;obtain⟨e2,e3⟩:=Ei (f:=Ic addr) B (by omega:k<d.length) C K (by unfold Ic;rw[if_neg (by rw[← R];assumption)]);exact⟨w,rfl,rfl,by omega,B,e2,e3,D⟩
   omega
  refine S12 ?_;refine ZH fun w hw=>?_;obtain rfl:k=d.length:=by omega
  rw[G0,H5 jD]at C;subst C;obtain⟨M9,s1,g1,g2,g3,g4,g5⟩:=OSl.freezeK (f:=Zr.segs) (H:=h1++H) U (hw.c);obtain⟨M8,s2,j1,j2,j3,j4,j5⟩:=OSl.freezeK (f:=Zr.segs) D g2;exact⟨_,M8,rfl,g1.trans j1,j2,Uq g3 j3 (g5.mono j1) j5 (by rw[g4,j4,Zht];unfold Xd ZK.tb;simp only;rw[if_pos jE];rfl)⟩
 refine S6 ?_;refine We (RB M Yo Yn Yc XE jD) ?_;rintro v8 y ag O ⟨g,V⟩;subst y;obtain⟨ab,ah,rfl⟩:=V.valL;refine Stp ?_;refine Zah rfl rfl F.ok210 rfl (JX M [(b2,_)] ab ah Yc ag V jD 209 [_] (fun p=>decide (p.addr=addr)) F.ok209 (fun x=>Jv M b2 addr x)) jA jA (by rintro v M9 _ w hm ⟨rfl,ai,rfl,_⟩ hw;exact hw.c) (XK rfl) ?_;rintro v9 y _ O ⟨g,ai,rfl,U⟩;subst y;obtain⟨au,ax,rfl⟩:=U.valL;simp only[B5,B4,B6];refine S8 ?_;refine We (RB M Ye Yd d YR jD) ?_;rintro v7 y ad O ⟨g,aa⟩;subst y;obtain⟨ae,T,rfl⟩:=aa.valL;refine S14 ?_;refine VG [28,27,26,5,4,2] ?_;refine XV (Hin:=ad) (.succ .zero) jA (fun(k:Nat) y h1 z=>∃(w:List Zr),y=M∧z=[(28,.int .i64 (k:Int))]∧k≤d.length∧w.length=d.length∧w.take k=(d.take k).map (Ic addr)∧w.drop k=d.drop k∧OSl 38 21 (.slice ae d.length T) h1 (w.map Zr.segs)) (fun k=>d.length-k) (0) (⟨d,rfl,rfl,by omega,rfl,rfl,rfl,aa⟩) ?_;rintro k y h1 z O ⟨w,g,rfl,hk,B,C,K,D⟩;subst g;have ar:(w.map Zr.segs).length=w.length:=A8 ..;refine S6 ?_;refine Xb (cT fun aq=>?_) (cF fun aq=>?_)
 ·refine S10 ?_;intro b9;refine S8 ?_;refine GN rfl rfl rfl F.ok209 rfl rfl (Jv _ b2 addr w[k]) jA (XK rfl) ?_;rintro _ y _ ⟨g,rfl⟩;subst y;refine S2 ?_;refine Xb (cT fun aj=>?_) (cF fun aj=>?_)
  ·refine Ya (l:=[0,1,2,3,4,5]) #[0,1,0,0,15,31] _ rfl jI jI St.drawn (fun _ h=>h) ?_;refine S3 ?_;refine Vn (VD _) ?_;rintro _ rfl;refine Xs 39 rfl (show _=WX [.one (.int .i64 (-1)),ZU 0]from rfl) ?_;refine Stp ?_;obtain⟨b6,rfl⟩:=D.someB jD;refine Tw (b:=b6) (j:=k) rfl rfl rfl rfl jG (Yi rfl (Xg YS)) F.lay38 rfl rfl D jA jD ?_;intro Z L;replace L:OSl 38 21 (.slice (some ⟨b6,0,none⟩) d.length T) Z ((w.set k Yj).map Zr.segs):=by rw[List.map_set];exact L.aZ jU
   refine S7 ?_;refine YO (a':=[(28,_)]) (k+1) (Z) (.cons (k:=28) rfl (.cons (k:=27) rfl (.cons (k:=26) rfl (.cons (k:=5) rfl (.cons (k:=4) rfl (.cons (k:=2) rfl (.nil))))))) jO (fun w hw=>by first|exact hw|exact hw.c) ?_ ?_
   ·have R:=NC B (by omega:k<d.length) K;obtain⟨e1,e2,e3⟩:=Eh (f:=Ic addr) (x:=Yj) B (by omega:k<d.length) C K (by unfold Ic;rw[if_pos (by rw[← R];assumption)]);exact⟨w.set k Yj,rfl,rfl,by omega,e1,e2,e3,L⟩
   omega
  refine S7 ?_;refine YO (a':=[(28,_)]) (k+1) (h1) (.cons (k:=28) rfl (.cons (k:=27) rfl (.cons (k:=26) rfl (.cons (k:=5) rfl (.cons (k:=4) rfl (.cons (k:=2) rfl (.nil))))))) jO (fun w hw=>by first|exact hw|exact hw.c) ?_ ?_
  ·have R:=NC B (by omega:k<d.length) K;obtain⟨e2,e3⟩:=Ei (f:=Ic addr) B (by omega:k<d.length) C K (by unfold Ic;rw[if_neg (by rw[← R];assumption)]);exact⟨w,rfl,rfl,by omega,B,e2,e3,D⟩
  omega
 refine S12 ?_;refine ZH fun w hw=>?_;obtain rfl:k=d.length:=by omega
 rw[G0,H5 jD]at C;subst C;obtain⟨M9,s1,g1,g2,g3,g4,g5⟩:=OSl.freezeK (f:=Zr.segs) (H:=h1++H) U (hw.c);obtain⟨M8,s2,j1,j2,j3,j4,j5⟩:=OSl.freezeK (f:=Zr.segs) D g2;exact⟨_,M8,rfl,g1.trans j1,j2,Uq g3 j3 (g5.mono j1) j5 (by rw[g4,j4,Zht];unfold Xd ZK.tb;simp only;rw[if_neg jE];rfl)⟩
theorem GY(M:Mem)(t:ZK)(id:Plc)(d:ZK.ok M t):Fs Tryz.prog 58 [t.enc,WX [ZU id]] M (fun v=>v= (Yag (WV t.tb id))):=by
 obtain⟨⟨K,R⟩,⟨V,L⟩,⟨y,j,g⟩,⟨D,C,B⟩⟩:=t;have XE:SlK M Zr.segs 21 ⟨y,j,g⟩:=d.h0;have T:SlK M Zr.segs 21 ⟨D,C,B⟩:=d.h1;refine Xa Tryz.func58 rfl Tryz.ntmps58 rfl ?_;intro H;refine S3 ?_;intro U;refine Stp ?_;intro Z;refine Stp ?_;intro F;refine S6 ?_;refine Vn (Rm _ ⟨⟨_,_⟩,⟨_,_⟩,⟨_,_,_⟩,⟨_,_,_⟩⟩ jE) ?_;rintro _ rfl;refine Stp ?_;intro O;refine S4 ?_;refine Ya (l:=[0,1,2,3,4,5,6,7,8,9]) #[0,0,2,6,0,0,32,126,255,511] _ rfl jI jI St.drawn (fun _ h=>h) ?_;refine S7 ?_;refine Vn (BM _ _ _ _) ?_;rintro _ rfl;refine S5 ?_;refine ZH fun w hw=>?_;refine⟨_,rfl,(hw.c),?_⟩;rfl
theorem F.lay25:lay Tryz.prog 25=some (false,1):=by kernel_rfl
theorem F.ok230:Ta Tryz.prog 230=true:=by kernel_rfl
theorem F.zero3:XP Tryz.prog 3=some ((.int .i64 0)):=by kernel_rfl
theorem El(M:Mem)(sa:Int)(d:Plc)(pa:Int)(pi:Plc)(y:Option Addr)(n1 g:Nat)(a2:Option Addr)(n2 j:Nat)(k:Int):Esp.Fn Tryz.prog 223 [WX [.one (.int .i64 sa),ZU d,.one (.int .i64 pa),ZU pi,.one (.slice y n1 g),.one (.slice a2 n2 j)],.int .i64 k] M (fun M' v=>∃ q1 q2,v=.func (.func 230) #[] #[.pointer (some ⟨q1,0,none⟩),.pointer (some ⟨q2,0,none⟩)]∧M' q1=some (Yp [.one (.int .i64 k)] 3)∧M' q2=some (Yp [.one (.int .i64 sa),ZU d,.one (.int .i64 pa),ZU pi,.one (.slice y n1 g),.one (.slice a2 n2 j)] 41)):=by
 refine WE Tryz.func223 rfl Tryz.ntmps223 rfl ?_;intro H;refine S3 ?_;intro B;refine Stp ?_;intro C;refine S10 ?_;refine ZH fun w hw=>?_;obtain⟨g1,g2⟩:=hw.freeze;obtain⟨g3,g4⟩:=g2.freeze;exact⟨_,_,rfl,g1.trans g3,g4,_,_,rfl,Mem.get_of (Mem.add_self _ _ _) g3,Mem.add_self _ _ _⟩
theorem Ir(M:Mem)(sa:Int)(g:Plc)(pa:Int)(pi:Plc)(a1:Option Addr)(n1 Z:Nat)(a2:Option Addr)(n2 c2:Nat)(d:Nat)(U:d<160)(q1 q2:Nat)(h1:M q1=some (Yp [.one (.int .i64 (d:Int))] 3))(h2:M q2=some (Yp [.one (.int .i64 sa),ZU g,.one (.int .i64 pa),ZU pi,.one (.slice a1 n1 Z),.one (.slice a2 n2 c2)] 41)):Zzy Tryz.prog 230 [.pointer (some ⟨q1,0,none⟩),.pointer (some ⟨q2,0,none⟩)] (fun x:Nat×Plc=>[.int .i64 (x.1:Int),WX [ZU x.2]]) (TD g d) M []:=by
 intro lp J Jx hR M0 L G w K O hw;refine enter (S:=St M0 (L++G)) Tryz.func230 rfl Tryz.ntmps230 rfl hw ?_;refine S7 ?_;refine VG [4,0,2] ?_;refine XV (Hin:=L) (.succ .zero) jA (fun(k:Nat) V h1 z=>z=[(4,.int .i64 (k:Int))]∧d≤k∧k≤160∧J ((List.range' d (k-d)).map fun j=>(j,g+To j)) V h1) (fun k=>160-k) (d) (⟨rfl,by omega,by omega,by rw[Nat.sub_self];exact O⟩) ?_;rintro k R h1 z v ⟨rfl,T,hk,D⟩;refine S7 ?_;refine Xb (cT fun F=>?_) (cF fun F=>?_)
 ·refine S7 ?_;refine Vn (PJ _ k jD) ?_;rintro _ rfl;refine S4 ?_;intro b2;refine S5 ?_;refine Xv (l:=[0,1,2,3,4,5,6,7,8]) (Hin:=h1) jA rfl ?_;refine S6 ?_;refine Vn (GU _ _ _) ?_;rintro _ rfl;refine Zkt (x:=(k,g+To k)) (pre:=((List.range' d (k-d)).map fun j=>(j,g+To j))) (post:=TD g (k+1)) (Hb:=h1) rfl rfl rfl rfl rfl hR (It jD jD) (K.trans v) D jA rfl (fun _ _ _ hm hw=>(hw.lower hm).c) rfl ?_ ?_
  ·intro M2 B y C;refine S12 ?_;refine YO (a':=[(4,_)]) (k+1) (B) (.cons (k:=4) rfl (.cons (k:=0) rfl (.cons (k:=2) rfl (.nil)))) (v.trans y) (fun w hw=>by first|exact hw|exact hw.c) ?_ ?_
   ·exact⟨rfl,by omega,by omega,by rw[Cx jD];exact C⟩
   omega
  intro M2 B y C;refine S9 ?_;refine ZH fun w hw=>?_;exact⟨_,M2,B,rfl,v.trans y,hw.c,.inr ⟨((List.range' d (k-d)).map fun j=>(j,g+To j))++[(k,g+To k)],TD g (k+1),by rw[It (j:=k) jD jD];simp,C⟩⟩
 refine S4 ?_;refine ZH fun w hw=>?_;obtain rfl:k=160:=by omega
 exact⟨_,R,h1,rfl,v,hw.c,.inl D⟩
theorem Zqg(M:Mem)(t:ZK)(k:Int)(p:Zr)(bc:ZK.ok M t):Esp.Fn Tryz.prog 202 [t.enc,.int .i64 k,p.enc] M (fun M' v=>Zyc M' v (WF t.tb k p)):=by
 obtain⟨⟨R,K⟩,⟨Yh,Yr⟩,⟨Z,V,U⟩,⟨Ye,Yd,g⟩⟩:=t;obtain⟨O,d⟩:=p;have XE:SlK M Zr.segs 21 ⟨Z,V,U⟩:=bc.h0;have YR:SlK M Zr.segs 21 ⟨Ye,Yd,g⟩:=bc.h1;refine Dq Tryz.func202 rfl Tryz.ntmps202 rfl ?_;intro H;refine S3 ?_;intro b1;refine Stp ?_;intro b2;refine Stp ?_;intro b3;refine Stp ?_;intro b4;refine Stp ?_;intro b5;refine Stp ?_;intro b6;refine S6 ?_;refine Vn (Ce _ ⟨⟨_,_⟩,⟨_,_⟩,⟨_,_,_⟩,⟨_,_,_⟩⟩ jE) ?_;rintro _ rfl;refine S2 ?_;refine YE 15 (eT fun bk=>?_) (eF fun bk=>?_)
 ·refine S32 ?_;refine GW (.inr rfl) (.cell rfl jB F.lay41 rfl rfl (.cell rfl jB F.lay3 rfl rfl (.cell rfl jB F.lay25 rfl rfl .nil))) (fun w hw=>?_);refine⟨_,M,rfl,Mem.le.refl M,hw.c,?_⟩;rw[show WF (ZK.tb ⟨⟨R,K⟩,⟨Yh,Yr⟩,⟨Z,V,U⟩,⟨Ye,Yd,g⟩⟩) k ⟨O,d⟩=(Tb.zero,0,1)from Ob yC];exact⟨_,rfl,Sb⟩
 refine S4 ?_;refine YE 19 (cT fun bf=>?_) (cF fun bf=>?_)
 ·refine S28 ?_;refine GW (.inr rfl) (.cell rfl jB F.lay41 rfl rfl (.cell rfl jB F.lay3 rfl rfl (.cell rfl jB F.lay25 rfl rfl .nil))) (fun w hw=>?_);refine⟨_,M,rfl,Mem.le.refl M,hw.c,?_⟩;rw[show WF (ZK.tb ⟨⟨R,K⟩,⟨Yh,Yr⟩,⟨Z,V,U⟩,⟨Ye,Yd,g⟩⟩) k ⟨O,d⟩=(Tb.zero,0,1)from Ob yC];exact⟨_,rfl,Sb⟩
 refine S4 ?_;refine YE 23 (cT fun bd=>?_) (cF fun bd=>?_)
 ·refine S24 ?_;refine GW (.inr rfl) (.cell rfl jB F.lay41 rfl rfl (.cell rfl jB F.lay3 rfl rfl (.cell rfl jB F.lay25 rfl rfl .nil))) (fun w hw=>?_);refine⟨_,M,rfl,Mem.le.refl M,hw.c,?_⟩;rw[show WF (ZK.tb ⟨⟨R,K⟩,⟨Yh,Yr⟩,⟨Z,V,U⟩,⟨Ye,Yd,g⟩⟩) k ⟨O,d⟩=(Tb.zero,0,1)from Ob yC];exact⟨_,rfl,Sb⟩
 refine S3 ?_;refine VW (m:=20) rfl rfl rfl rfl rfl jG jG F.lay38 F.kinds38 rfl F.guard38 jR jR rfl rfl rfl ?_;intro br aj;replace aj:br=true↔¬(Segs.cells _=Segs.cells _):=aj;obtain rfl:=neD aj (Zr.inj (x:=⟨_,_⟩) (y:=⟨_,_⟩));clear aj;refine Stp ?_;refine YE 28 (eT fun a6=>?_) (eF fun a6=>?_)
 ·refine S2 ?_;refine Vn (Pz _ ⟨⟨_,_⟩,⟨_,_⟩,⟨_,_,_⟩,⟨_,_,_⟩⟩ ⟨_,_⟩) ?_;rintro _ rfl;refine S5 ?_;refine Xb (eT fun ba=>?_) (eF fun ba=>?_)
  ·refine S10 ?_;refine GW (.inr rfl) (.cell rfl jB F.lay41 rfl rfl (.cell rfl jB F.lay3 rfl rfl (.cell rfl jB F.lay25 rfl rfl .nil))) (fun w hw=>?_);refine⟨_,M,rfl,Mem.le.refl M,hw.c,?_⟩;rw[show WF (ZK.tb ⟨⟨R,K⟩,⟨Yh,Yr⟩,⟨Z,V,U⟩,⟨Ye,Yd,g⟩⟩) k ⟨O,d⟩=(Tb.zero,0,1)from Ob yC];exact⟨_,rfl,Sb⟩
  refine S4 ?_;obtain⟨B,rfl⟩:∃ B:Nat,k=B:=⟨k.toNat,by omega⟩
  have ar:g.length=160:=(show TG (ZK.tb ⟨⟨R,K⟩,⟨Yh,Yr⟩,⟨Z,V,U⟩,⟨Ye,Yd,g⟩⟩)by assumption).2.2.2.1;refine S2 ?_;intro al;refine S9 ?_;refine VW (m:=20) rfl rfl rfl rfl rfl jG jG F.lay38 F.kinds38 rfl F.guard38 jR jR rfl rfl rfl ?_;intro bo ak;replace ak:bo=true↔Segs.cells _=Segs.cells _:=ak;obtain rfl:=eqD ak (Zr.inj (x:=⟨_,_⟩) (y:=⟨_,_⟩));clear ak;refine S2 ?_;refine Xb (cT fun bb=>?_) (cF fun bb=>?_)
  ·contradiction
  refine S6 ?_;refine We (RB M Ye Yd g YR jD) ?_;rintro v8 M1 aq bl ⟨bq,ao⟩;subst M1;obtain⟨T,C,rfl⟩:=ao.valL;refine S9 ?_;refine PH (El M _ _ _ _ _ _ _ _ _ _ _) ?_;rintro _ M2 ah ⟨q1,q2,rfl,aw,au⟩;refine S3 ?_;refine VG [48,9,8,7,6,5,4,3] ?_;refine NM (enc:=(fun x:Nat×Plc=>[.int .i64 (x.1:Int),WX [ZU x.2]])) (xs:=TD K B) (Hi:=[]) (Hu:=(b4,Yp [.one (.int .i64 0),ZU 0,.one (.int .i64 0),ZU 0,.one (.slice none 0 0),.one (.slice none 0 0)] 41)::(b5,Yp [.one (.int .i64 0)] 3)::(b6,Yp [.one (.int .i64 0)] 25)::(b1,Yp [.one (.int .i64 R),ZU K,.one (.int .i64 Yh),ZU Yr,.one (Sl.val ⟨Z,V,U⟩),.one (.slice T g.length C)] 41)::(b2,Yp [.one (.int .i64 (B:Int))] 3)::(b3,Yp [.one (.int .i64 O),ZU d] 38)::(al,Yp [.one (.int .i64 O),ZU d] 38)::aq) (H0:=H) (fun pre M9 Hu=>∃ hs,Hu=(b4,Yp [.one (.int .i64 0),ZU 0,.one (.int .i64 0),ZU 0,.one (.slice none 0 0),.one (.slice none 0 0)] 41)::(b5,Yp [.one (.int .i64 0)] 3)::(b6,Yp [.one (.int .i64 0)] 25)::(b1,Yp [.one (.int .i64 R),ZU K,.one (.int .i64 Yh),ZU Yr,.one (Sl.val ⟨Z,V,U⟩),.one (.slice T g.length C)] 41)::(b2,Yp [.one (.int .i64 (B:Int))] 3)::(b3,Yp [.one (.int .i64 O),ZU d] 38)::(al,Yp [.one (.int .i64 O),ZU d] 38)::hs∧OSl 38 21 (.slice T g.length C) hs ((ptW g B (B+pre.length) (Zr.mk O d)).map Zr.segs)∧WA ⟨R,K⟩ ⟨O,d⟩ B B (160-B)=WA ⟨R,K⟩ ⟨O,d⟩ B (B+pre.length) (160-(B+pre.length))) (fun c pre M9 Hu=>c=.ret∧∃(hs:Hp) (j:Nat),Hu=(b4,Yp [.one (.int .i64 R),ZU K,.one (.int .i64 Yh),ZU Yr,.one (Sl.val ⟨Z,V,U⟩),.one (.slice T g.length C)] 41)::(b5,Yp [.one (.int .i64 (j:Int))] 3)::(b6,Yp [.one (.int .i64 0)] 25)::(b1,Yp [.one (.int .i64 R),ZU K,.one (.int .i64 Yh),ZU Yr,.one (Sl.val ⟨Z,V,U⟩),.one (.slice T g.length C)] 41)::(b2,Yp [.one (.int .i64 (B:Int))] 3)::(b3,Yp [.one (.int .i64 O),ZU d] 38)::(al,Yp [.one (.int .i64 O),ZU d] 38)::hs∧B<j∧j<160∧OSl 38 21 (.slice T g.length C) hs ((ptW g B (j) (Zr.mk O d)).map Zr.segs)∧WA ⟨R,K⟩ ⟨O,d⟩ B B (160-B)=j) rfl F.ok230 (Ir M2 _ _ _ _ _ _ _ _ _ _ B jD q1 q2 aw au) (fun w hw=>hw.c) ⟨aq,rfl,by rw[D5,Nat.add_zero,EB];exact ao,rfl⟩ (fun _=>rfl) rfl ?_ ?_ ?_
  ·rintro lp bj bs pre ⟨x1,x2⟩ post M3 _ G ax ag ⟨ae,rfl,aa,hI⟩;obtain⟨bn,hx⟩:=NU ax;obtain⟨rfl,rfl⟩:=Prod.mk.inj hx;generalize hj9:B+pre.length=j at *;have bm:(ptW g B j (Zr.mk O d)).length=g.length:=CK jD jD;have bg:((ptW g B j (Zr.mk O d)).map Zr.segs).length=(ptW g B j (Zr.mk O d)).length:=A8 ..;simp only[B4,Zqv];refine S7 ?_;intro bw;refine S2 ?_;refine JV ?_;refine S8 ?_;refine YE 54 (cT fun ay=>?_) (cF fun ay=>?_)
   ·refine S6 ?_;refine Vn (BM _ _ _ _) ?_;rintro _ rfl;refine S4 ?_;refine Xb (eT fun a8=>?_) (eF fun a8=>?_)
    ·refine S12 ?_;refine Zru (Hu:=(b4,Yp [.one (.int .i64 R),ZU K,.one (.int .i64 Yh),ZU Yr,.one (Sl.val ⟨Z,V,U⟩),.one (.slice T g.length C)] 41)::(b5,Yp [.one (.int .i64 (j:Int))] 3)::(b6,Yp [.one (.int .i64 0)] 25)::(b1,Yp [.one (.int .i64 R),ZU K,.one (.int .i64 Yh),ZU Yr,.one (Sl.val ⟨Z,V,U⟩),.one (.slice T g.length C)] 41)::(b2,Yp [.one (.int .i64 (B:Int))] 3)::(b3,Yp [.one (.int .i64 O),ZU d] 38)::(al,Yp [.one (.int .i64 O),ZU d] 38)::ae) (Mem.le.refl _) (fun w hw=>hw.c) ⟨rfl,ae,j,rfl,by omega,by omega,aa,?_⟩;exact hI.trans (Md jD jD (by unfold Gh;exact decide_eq_false jE))
    refine S8 ?_;obtain⟨bF,rfl⟩:=aa.someB jD;refine Tw (b:=bF) (j:=j) rfl rfl rfl rfl jG (Yi rfl (Xg YS)) F.lay38 rfl rfl aa jA jD ?_;intro ad ab;replace ab:OSl 38 21 (.slice (some ⟨bF,0,none⟩) g.length C) ad ((ptW g B (j+1) (Zr.mk O d)).map Zr.segs):=by rw[← HS jD jD,List.map_set];exact ab.aZ jU
    refine S2 ?_;refine Cd (Hu:=(b4,Yp [.one (.int .i64 0),ZU 0,.one (.int .i64 0),ZU 0,.one (.slice none 0 0),.one (.slice none 0 0)] 41)::(b5,Yp [.one (.int .i64 0)] 3)::(b6,Yp [.one (.int .i64 0)] 25)::(b1,Yp [.one (.int .i64 R),ZU K,.one (.int .i64 Yh),ZU Yr,.one (Sl.val ⟨Z,V,U⟩),.one (.slice (some ⟨bF,0,none⟩) g.length C)] 41)::(b2,Yp [.one (.int .i64 (B:Int))] 3)::(b3,Yp [.one (.int .i64 O),ZU d] 38)::(al,Yp [.one (.int .i64 O),ZU d] 38)::ad) (Mem.le.refl _) (fun w hw=>hw.c) ⟨ad,rfl,?_,?_⟩
    ·rw[B3,I6,← Nat.add_assoc,hj9];exact ab
    rw[B3,I6,← Nat.add_assoc,hj9,hI,Qc jD (by rintro⟨g1,g2⟩;unfold Gh at g2;simp_all)]
   refine S20 ?_;obtain⟨bF,rfl⟩:=aa.someB jD;refine Tw (b:=bF) (j:=j) rfl rfl rfl rfl jG (Yi rfl (Xg YS)) F.lay38 rfl rfl aa jA jD ?_;intro ad ab;replace ab:OSl 38 21 (.slice (some ⟨bF,0,none⟩) g.length C) ad ((ptW g B (j+1) (Zr.mk O d)).map Zr.segs):=by rw[← HS jD jD,List.map_set];exact ab.aZ jU
   refine S2 ?_;refine Cd (Hu:=(b4,Yp [.one (.int .i64 0),ZU 0,.one (.int .i64 0),ZU 0,.one (.slice none 0 0),.one (.slice none 0 0)] 41)::(b5,Yp [.one (.int .i64 0)] 3)::(b6,Yp [.one (.int .i64 0)] 25)::(b1,Yp [.one (.int .i64 R),ZU K,.one (.int .i64 Yh),ZU Yr,.one (Sl.val ⟨Z,V,U⟩),.one (.slice (some ⟨bF,0,none⟩) g.length C)] 41)::(b2,Yp [.one (.int .i64 (B:Int))] 3)::(b3,Yp [.one (.int .i64 O),ZU d] 38)::(al,Yp [.one (.int .i64 O),ZU d] 38)::ad) (Mem.le.refl _) (fun w hw=>hw.c) ⟨ad,rfl,?_,?_⟩
   ·rw[B3,I6,← Nat.add_assoc,hj9];exact ab
   rw[B3,I6,← Nat.add_assoc,hj9,hI,Qc jD (by rintro⟨g1,g2⟩;omega)]
  ·rintro D L o M3 _ ag ⟨ae,rfl,aa,hI⟩;rw[show B+(TD K B).length=160 by unfold TD;simp;omega]at aa hI;simp only[B4,B6];refine S11 ?_;refine HB (Ds:=[D]) (Hd:=[(D,.deferred (some []))]) (H:=(b4,Yp [.one (.int .i64 R),ZU K,.one (.int .i64 Yh),ZU Yr,.one (Sl.val ⟨Z,V,U⟩),.one (.slice T g.length C)] 41)::(b5,Yp [.one (.int .i64 0)] 3)::(b6,Yp [.one (.int .i64 0)] 25)::ae++H) (.inr rfl) (.cell rfl jB F.lay41 rfl rfl (.cell rfl jB F.lay3 rfl rfl (.cell rfl jB F.lay25 rfl rfl .nil))) (fun w hw=>hw.c) jQ jQ (fun w hw=>?_);obtain⟨M9,s2,j1,j2,j3,j4,j5⟩:=OSl.freezeK (f:=Zr.segs) (H:=H) aa (hw.c);refine⟨_,M9,rfl,ah.trans (ag.trans j1),j2,?_⟩;rw[show WF (ZK.tb ⟨⟨R,K⟩,⟨Yh,Yr⟩,⟨Z,V,U⟩,⟨Ye,Yd,g⟩⟩) ((B:Nat):Int) ⟨O,d⟩=({ (ZK.tb ⟨⟨R,K⟩,⟨Yh,Yr⟩,⟨Z,V,U⟩,⟨Ye,Yd,g⟩⟩)with fingers:=ptW g B 160 ⟨O,d⟩ },0,0)from ?_]
   ·exact⟨_,rfl,Uq (s1:=⟨Z,V,U⟩) (s2:=s2) rfl j3 (XE.mono (ah.trans (ag.trans j1))) j5 (by rw[j4];rfl)⟩
   exact Mc (j:=160) jE jD (by exact .inr jE) hI (show Tt (ZK.tb ⟨⟨R,K⟩,⟨Yh,Yr⟩,⟨Z,V,U⟩,⟨Ye,Yd,g⟩⟩) ⟨O,d⟩=⟨O,d⟩from if_neg jE) (if_pos rfl)
  rintro c D L o M3 _ pre post bh ag ⟨rfl,ae,j,rfl,bp,bt,aa,hI⟩;simp only[B4,B6];refine S3 ?_;refine HB (Ds:=[D]) (Hd:=[(D,.deferred (some []))]) (H:=(b4,Yp [.one (.int .i64 R),ZU K,.one (.int .i64 Yh),ZU Yr,.one (Sl.val ⟨Z,V,U⟩),.one (.slice T g.length C)] 41)::(b5,Yp [.one (.int .i64 (j:Int))] 3)::(b6,Yp [.one (.int .i64 0)] 25)::ae++H) (.inr rfl) (.cell rfl jB F.lay41 rfl rfl (.cell rfl jB F.lay3 rfl rfl (.cell rfl jB F.lay25 rfl rfl .nil))) (fun w hw=>hw.c) jQ jQ (fun w hw=>?_);obtain⟨M9,s2,j1,j2,j3,j4,j5⟩:=OSl.freezeK (f:=Zr.segs) (H:=H) aa (hw.c);refine⟨_,M9,rfl,ah.trans (ag.trans j1),j2,?_⟩;rw[show WF (ZK.tb ⟨⟨R,K⟩,⟨Yh,Yr⟩,⟨Z,V,U⟩,⟨Ye,Yd,g⟩⟩) ((B:Nat):Int) ⟨O,d⟩=({ (ZK.tb ⟨⟨R,K⟩,⟨Yh,Yr⟩,⟨Z,V,U⟩,⟨Ye,Yd,g⟩⟩)with fingers:=ptW g B j ⟨O,d⟩ },(j:Int),0)from ?_]
  ·exact⟨_,rfl,Uq (s1:=⟨Z,V,U⟩) (s2:=s2) rfl j3 (XE.mono (ah.trans (ag.trans j1))) j5 (by rw[j4];rfl)⟩
  exact Mc (j:=j) jE jD (by exact .inr jE) hI (show Tt (ZK.tb ⟨⟨R,K⟩,⟨Yh,Yr⟩,⟨Z,V,U⟩,⟨Ye,Yd,g⟩⟩) ⟨O,d⟩=⟨O,d⟩from if_neg jE) (if_neg jD)
 refine S13 ?_;obtain⟨B,rfl⟩:∃ B:Nat,k=B:=⟨k.toNat,by omega⟩
 have ar:g.length=160:=(show TG (ZK.tb ⟨⟨R,K⟩,⟨Yh,Yr⟩,⟨Z,V,U⟩,⟨Ye,Yd,g⟩⟩)by assumption).2.2.2.1;refine S2 ?_;intro an;refine S9 ?_;refine VW (m:=20) rfl rfl rfl rfl rfl jG jG F.lay38 F.kinds38 rfl F.guard38 jR jR rfl rfl rfl ?_;intro bu ai;replace ai:bu=true↔Segs.cells _=Segs.cells _:=ai;obtain rfl:=eqD ai (Zr.inj (x:=⟨_,_⟩) (y:=⟨_,_⟩));clear ai;refine S2 ?_;refine Xb (cT fun az=>?_) (cF fun az=>?_)
 ·refine Stp ?_;refine Vn (VD _) ?_;rintro _ rfl;refine Xs 41 rfl (show _=WX [.one (.int .i64 (-1)),ZU 0]from rfl) ?_;refine S7 ?_;refine We (RB M Ye Yd g YR jD) ?_;rintro v8 M1 aq bl ⟨bq,ao⟩;subst M1;obtain⟨T,C,rfl⟩:=ao.valL;refine S9 ?_;refine PH (El M _ _ _ _ _ _ _ _ _ _ _) ?_;rintro _ M2 ah ⟨q1,q2,rfl,aw,au⟩;refine S3 ?_;refine VG [48,9,8,7,6,5,4,3] ?_;refine NM (enc:=(fun x:Nat×Plc=>[.int .i64 (x.1:Int),WX [ZU x.2]])) (xs:=TD K B) (Hi:=[]) (Hu:=(b4,Yp [.one (.int .i64 0),ZU 0,.one (.int .i64 0),ZU 0,.one (.slice none 0 0),.one (.slice none 0 0)] 41)::(b5,Yp [.one (.int .i64 0)] 3)::(b6,Yp [.one (.int .i64 0)] 25)::(b1,Yp [.one (.int .i64 R),ZU K,.one (.int .i64 Yh),ZU Yr,.one (Sl.val ⟨Z,V,U⟩),.one (.slice T g.length C)] 41)::(b2,Yp [.one (.int .i64 (B:Int))] 3)::(b3,Yp [.one (.int .i64 O),ZU d] 38)::(an,Yp [.one (.int .i64 (-1)),ZU 0] 38)::aq) (H0:=H) (fun pre M9 Hu=>∃ hs,Hu=(b4,Yp [.one (.int .i64 0),ZU 0,.one (.int .i64 0),ZU 0,.one (.slice none 0 0),.one (.slice none 0 0)] 41)::(b5,Yp [.one (.int .i64 0)] 3)::(b6,Yp [.one (.int .i64 0)] 25)::(b1,Yp [.one (.int .i64 R),ZU K,.one (.int .i64 Yh),ZU Yr,.one (Sl.val ⟨Z,V,U⟩),.one (.slice T g.length C)] 41)::(b2,Yp [.one (.int .i64 (B:Int))] 3)::(b3,Yp [.one (.int .i64 O),ZU d] 38)::(an,Yp [.one (.int .i64 (-1)),ZU 0] 38)::hs∧OSl 38 21 (.slice T g.length C) hs ((ptW g B (B+pre.length) Yj).map Zr.segs)∧WA ⟨R,K⟩ ⟨O,d⟩ B B (160-B)=WA ⟨R,K⟩ ⟨O,d⟩ B (B+pre.length) (160-(B+pre.length))) (fun c pre M9 Hu=>c=.ret∧∃(hs:Hp) (j:Nat),Hu=(b4,Yp [.one (.int .i64 R),ZU K,.one (.int .i64 Yh),ZU Yr,.one (Sl.val ⟨Z,V,U⟩),.one (.slice T g.length C)] 41)::(b5,Yp [.one (.int .i64 (j:Int))] 3)::(b6,Yp [.one (.int .i64 0)] 25)::(b1,Yp [.one (.int .i64 R),ZU K,.one (.int .i64 Yh),ZU Yr,.one (Sl.val ⟨Z,V,U⟩),.one (.slice T g.length C)] 41)::(b2,Yp [.one (.int .i64 (B:Int))] 3)::(b3,Yp [.one (.int .i64 O),ZU d] 38)::(an,Yp [.one (.int .i64 (-1)),ZU 0] 38)::hs∧B<j∧j<160∧OSl 38 21 (.slice T g.length C) hs ((ptW g B (j) Yj).map Zr.segs)∧WA ⟨R,K⟩ ⟨O,d⟩ B B (160-B)=j) rfl F.ok230 (Ir M2 _ _ _ _ _ _ _ _ _ _ B jD q1 q2 aw au) (fun w hw=>hw.c) ⟨aq,rfl,by rw[D5,Nat.add_zero,EB];exact ao,rfl⟩ (fun _=>rfl) rfl ?_ ?_ ?_
  ·rintro lp bj bs pre ⟨x1,x2⟩ post M3 _ G ax ag ⟨ae,rfl,aa,hI⟩;obtain⟨bn,hx⟩:=NU ax;obtain⟨rfl,rfl⟩:=Prod.mk.inj hx;generalize hj9:B+pre.length=j at *;have bm:(ptW g B j Yj).length=g.length:=CK jD jD;have bg:((ptW g B j Yj).map Zr.segs).length=(ptW g B j Yj).length:=A8 ..;simp only[B4,Zqv];refine S7 ?_;intro bx;refine S2 ?_;refine JV ?_;refine S8 ?_;refine YE 54 (cT fun a7=>?_) (cF fun a7=>?_)
   ·refine S6 ?_;refine Vn (BM _ _ _ _) ?_;rintro _ rfl;refine S4 ?_;refine Xb (eT fun a1=>?_) (eF fun a1=>?_)
    ·refine S12 ?_;refine Zru (Hu:=(b4,Yp [.one (.int .i64 R),ZU K,.one (.int .i64 Yh),ZU Yr,.one (Sl.val ⟨Z,V,U⟩),.one (.slice T g.length C)] 41)::(b5,Yp [.one (.int .i64 (j:Int))] 3)::(b6,Yp [.one (.int .i64 0)] 25)::(b1,Yp [.one (.int .i64 R),ZU K,.one (.int .i64 Yh),ZU Yr,.one (Sl.val ⟨Z,V,U⟩),.one (.slice T g.length C)] 41)::(b2,Yp [.one (.int .i64 (B:Int))] 3)::(b3,Yp [.one (.int .i64 O),ZU d] 38)::(an,Yp [.one (.int .i64 (-1)),ZU 0] 38)::ae) (Mem.le.refl _) (fun w hw=>hw.c) ⟨rfl,ae,j,rfl,by omega,by omega,aa,?_⟩;exact hI.trans (Md jD jD (by unfold Gh;exact decide_eq_false jE))
    refine S8 ?_;obtain⟨bF,rfl⟩:=aa.someB jD;refine Tw (b:=bF) (j:=j) rfl rfl rfl rfl jG (Yi rfl (Xg YS)) F.lay38 rfl rfl aa jA jD ?_;intro ad ab;replace ab:OSl 38 21 (.slice (some ⟨bF,0,none⟩) g.length C) ad ((ptW g B (j+1) Yj).map Zr.segs):=by rw[← HS jD jD,List.map_set];exact ab.aZ jU
    refine S2 ?_;refine Cd (Hu:=(b4,Yp [.one (.int .i64 0),ZU 0,.one (.int .i64 0),ZU 0,.one (.slice none 0 0),.one (.slice none 0 0)] 41)::(b5,Yp [.one (.int .i64 0)] 3)::(b6,Yp [.one (.int .i64 0)] 25)::(b1,Yp [.one (.int .i64 R),ZU K,.one (.int .i64 Yh),ZU Yr,.one (Sl.val ⟨Z,V,U⟩),.one (.slice (some ⟨bF,0,none⟩) g.length C)] 41)::(b2,Yp [.one (.int .i64 (B:Int))] 3)::(b3,Yp [.one (.int .i64 O),ZU d] 38)::(an,Yp [.one (.int .i64 (-1)),ZU 0] 38)::ad) (Mem.le.refl _) (fun w hw=>hw.c) ⟨ad,rfl,?_,?_⟩
    ·rw[B3,I6,← Nat.add_assoc,hj9];exact ab
    rw[B3,I6,← Nat.add_assoc,hj9,hI,Qc jD (by rintro⟨g1,g2⟩;unfold Gh at g2;simp_all)]
   refine S20 ?_;obtain⟨bF,rfl⟩:=aa.someB jD;refine Tw (b:=bF) (j:=j) rfl rfl rfl rfl jG (Yi rfl (Xg YS)) F.lay38 rfl rfl aa jA jD ?_;intro ad ab;replace ab:OSl 38 21 (.slice (some ⟨bF,0,none⟩) g.length C) ad ((ptW g B (j+1) Yj).map Zr.segs):=by rw[← HS jD jD,List.map_set];exact ab.aZ jU
   refine S2 ?_;refine Cd (Hu:=(b4,Yp [.one (.int .i64 0),ZU 0,.one (.int .i64 0),ZU 0,.one (.slice none 0 0),.one (.slice none 0 0)] 41)::(b5,Yp [.one (.int .i64 0)] 3)::(b6,Yp [.one (.int .i64 0)] 25)::(b1,Yp [.one (.int .i64 R),ZU K,.one (.int .i64 Yh),ZU Yr,.one (Sl.val ⟨Z,V,U⟩),.one (.slice (some ⟨bF,0,none⟩) g.length C)] 41)::(b2,Yp [.one (.int .i64 (B:Int))] 3)::(b3,Yp [.one (.int .i64 O),ZU d] 38)::(an,Yp [.one (.int .i64 (-1)),ZU 0] 38)::ad) (Mem.le.refl _) (fun w hw=>hw.c) ⟨ad,rfl,?_,?_⟩
   ·rw[B3,I6,← Nat.add_assoc,hj9];exact ab
   rw[B3,I6,← Nat.add_assoc,hj9,hI,Qc jD (by rintro⟨g1,g2⟩;omega)]
  ·rintro D L o M3 _ ag ⟨ae,rfl,aa,hI⟩;rw[show B+(TD K B).length=160 by unfold TD;simp;omega]at aa hI;simp only[B4,B6];refine S11 ?_;refine HB (Ds:=[D]) (Hd:=[(D,.deferred (some []))]) (H:=(b4,Yp [.one (.int .i64 R),ZU K,.one (.int .i64 Yh),ZU Yr,.one (Sl.val ⟨Z,V,U⟩),.one (.slice T g.length C)] 41)::(b5,Yp [.one (.int .i64 0)] 3)::(b6,Yp [.one (.int .i64 0)] 25)::ae++H) (.inr rfl) (.cell rfl jB F.lay41 rfl rfl (.cell rfl jB F.lay3 rfl rfl (.cell rfl jB F.lay25 rfl rfl .nil))) (fun w hw=>hw.c) jQ jQ (fun w hw=>?_);obtain⟨M9,s2,j1,j2,j3,j4,j5⟩:=OSl.freezeK (f:=Zr.segs) (H:=H) aa (hw.c);refine⟨_,M9,rfl,ah.trans (ag.trans j1),j2,?_⟩;rw[show WF (ZK.tb ⟨⟨R,K⟩,⟨Yh,Yr⟩,⟨Z,V,U⟩,⟨Ye,Yd,g⟩⟩) ((B:Nat):Int) ⟨O,d⟩=({ (ZK.tb ⟨⟨R,K⟩,⟨Yh,Yr⟩,⟨Z,V,U⟩,⟨Ye,Yd,g⟩⟩)with fingers:=ptW g B 160 Yj },0,0)from ?_]
   ·exact⟨_,rfl,Uq (s1:=⟨Z,V,U⟩) (s2:=s2) rfl j3 (XE.mono (ah.trans (ag.trans j1))) j5 (by rw[j4];rfl)⟩
   exact Mc (j:=160) jE jD yK hI (show Tt (ZK.tb ⟨⟨R,K⟩,⟨Yh,Yr⟩,⟨Z,V,U⟩,⟨Ye,Yd,g⟩⟩) ⟨O,d⟩=Yj from if_pos jE) (if_pos rfl)
  rintro c D L o M3 _ pre post bh ag ⟨rfl,ae,j,rfl,bp,bt,aa,hI⟩;simp only[B4,B6];refine S3 ?_;refine HB (Ds:=[D]) (Hd:=[(D,.deferred (some []))]) (H:=(b4,Yp [.one (.int .i64 R),ZU K,.one (.int .i64 Yh),ZU Yr,.one (Sl.val ⟨Z,V,U⟩),.one (.slice T g.length C)] 41)::(b5,Yp [.one (.int .i64 (j:Int))] 3)::(b6,Yp [.one (.int .i64 0)] 25)::ae++H) (.inr rfl) (.cell rfl jB F.lay41 rfl rfl (.cell rfl jB F.lay3 rfl rfl (.cell rfl jB F.lay25 rfl rfl .nil))) (fun w hw=>hw.c) jQ jQ (fun w hw=>?_);obtain⟨M9,s2,j1,j2,j3,j4,j5⟩:=OSl.freezeK (f:=Zr.segs) (H:=H) aa (hw.c);refine⟨_,M9,rfl,ah.trans (ag.trans j1),j2,?_⟩;rw[show WF (ZK.tb ⟨⟨R,K⟩,⟨Yh,Yr⟩,⟨Z,V,U⟩,⟨Ye,Yd,g⟩⟩) ((B:Nat):Int) ⟨O,d⟩=({ (ZK.tb ⟨⟨R,K⟩,⟨Yh,Yr⟩,⟨Z,V,U⟩,⟨Ye,Yd,g⟩⟩)with fingers:=ptW g B j Yj },(j:Int),0)from ?_]
  ·exact⟨_,rfl,Uq (s1:=⟨Z,V,U⟩) (s2:=s2) rfl j3 (XE.mono (ah.trans (ag.trans j1))) j5 (by rw[j4];rfl)⟩
  exact Mc (j:=j) jE jD yK hI (show Tt (ZK.tb ⟨⟨R,K⟩,⟨Yh,Yr⟩,⟨Z,V,U⟩,⟨Ye,Yd,g⟩⟩) ⟨O,d⟩=Yj from if_pos jE) (if_neg jD)
 contradiction
theorem F.elem142:Na Tryz.prog 142=some (39,1,24):=by kernel_rfl
theorem Zxq(M:Mem)(b:Nat)(d g:Hp)(T:Value)(p:Zr)(a2:Option Addr)(K:Nat)(B:List Zr)(a3:Option Addr)(D:Nat)(C:List Zr)(y:OSl 39 1 (.slice (some ⟨b,0,none⟩) 3 3) d [[.one T],[.one (Sl.val ⟨a2,K,B⟩)],[.one (Sl.val ⟨a3,D,C⟩)]])(F:OSl 38 21 T g ([p].map Zr.segs))(V:SlK M Zr.segs 21 ⟨a2,K,B⟩)(k3:SlK M Zr.segs 21 ⟨a3,D,C⟩):Fh Tryz.prog 44 [.slice (some ⟨b,0,none⟩) 3 3] M (d++g) (fun M' v j=>j=[]∧∃(q1 c:Nat) (U:Option Addr) (rows:List (Sl Zr)),v=.func (.func 83) #[] #[.pointer (some ⟨q1,0,none⟩)]∧M' q1=some (Yp [.one (.slice U rows.length c)] 142)∧SlM M' U (rows.map (fun s=>[.one s.val])) 1∧rows.length=3∧(∀ s∈rows,SlK M' Zr.segs 21 s)∧(rows.map Sl.l).flatten=p::(B++C)):=by
 refine YI (fun H=>d++(g++H)) (fun _=>(B5 _ _ _)) Tryz.func44 rfl Tryz.ntmps44 rfl ?_;intro H;refine S3 ?_;intro b1;refine S10 ?_;refine ZH fun w hw=>?_;obtain⟨g1,g2⟩:=hw.freeze;obtain⟨M7,ab,aa,R,Z,L,e4⟩:=y.freeze g2;obtain⟨M8,s7,d1,d2,d3,d4,d5⟩:=OSl.freezeK (f:=Zr.segs) (l:=[p]) (H:=H) F Z;simp only[Value.slice.injEq,C8,D5]at L;obtain⟨rfl,_,rfl⟩:=L;have hle:=g1.trans (R.trans d1);refine⟨_,M8,[],rfl,hle,d2,rfl,_,3,_,[s7,⟨a2,K,B⟩,⟨a3,D,C⟩],rfl,Mem.get_of (Mem.add_self _ _ _) (R.trans d1),?_,rfl,?_,?_⟩
 ·have O:=e4.mono d1;rw[d3]at O;exact O
 ·intro s hs;simp only[B7,List.not_mem_nil,or_false]at hs;rcases hs with rfl|rfl|rfl;exact d5;exact V.mono hle;exact k3.mono hle
 simp[d4]
theorem Zul(M:Mem)(q1 c:Nat)(ad:Option Addr)(rows:List (Sl Zr))(h1:M q1=some (Yp [.one (.slice ad rows.length c)] 142))(h2:SlM M ad (rows.map (fun s=>[.one s.val])) 1)(hn:rows.length=3)(h3:∀ s∈rows,SlK M Zr.segs 21 s):Zzy Tryz.prog 83 [.pointer (some ⟨q1,0,none⟩)] (fun p:Zr=>[p.enc]) (rows.map Sl.l).flatten M []:=by
 intro lp J Jx hR M0 Jb G w F hJ hw;have Z:(rows.map (fun s:Sl Zr=>[Seg.one s.val])).length=rows.length:=A8 ..;refine enter (S:=St M0 (Jb++G)) Tryz.func83 rfl Tryz.ntmps83 rfl hw ?_;refine S8 ?_;refine VG [9,8,7,0] ?_;refine XV (Hin:=Jb) (.succ .zero) jA (fun(i:Nat) M9 h1 z=>z=[(9,.int .i64 (i:Int))]∧i≤rows.length∧J ((rows.take i).map Sl.l).flatten M9 h1) (fun i=>rows.length-i) (0) (⟨rfl,by omega,hJ⟩) ?_;rintro i M1 h1 z g ⟨rfl,hi,y⟩;have ae:=h2.mono (F.trans g);refine S6 ?_;refine Xb (cT fun T=>?_) (cF fun T=>?_)
 ·refine S5 ?_;have v:i<rows.length:=by omega
  obtain⟨⟨V,aa,d⟩,K⟩:∃ s,rows[i]=s:=⟨_,rfl⟩
  have O:SlK M1 Zr.segs 21 ⟨V,aa,d⟩:=K ▸ (h3 rows[i] (C1 v)).mono (F.trans g);have R:=O.h1;have ag:(d.map Zr.segs).length=d.length:=A8 ..;have ah:d.length≤9223372036854775807:=O.h2;simp only at R;refine S3 ?_;rw[K];refine S11 ?_;refine VG [15,14,13,4,12,11,10,9,8,7,0] ?_;refine XV (Hin:=h1) (.succ .zero) jA (fun(k:Nat) M9 h1 z=>z=[(15,.int .i64 (k:Int))]∧k≤d.length∧J (((rows.take i).map Sl.l).flatten++d.take k) M9 h1) (fun k=>d.length-k) (0) (⟨rfl,by omega,by rw[List.take_zero,E0];exact y⟩) ?_;rintro k M2 h2 z j ⟨rfl,hk,L⟩;have ab:=R.mono j;refine S6 ?_;refine Xb (cT fun U=>?_) (cF fun U=>?_)
  ·refine S9 ?_;intro b3;refine S4 ?_;refine Xv (l:=[0,1,2,3]) (Hin:=h2) jA rfl ?_;refine S2 ?_;refine Zkt (x:=d[k]) (pre:=((rows.take i).map Sl.l).flatten++d.take k) (post:=d.drop (k+1)++((rows.drop (i+1)).map Sl.l).flatten) (Hb:=h2) rfl rfl rfl rfl rfl hR (Zje v K jD) (F.trans (g.trans j)) L jA rfl (fun _ _ _ hm hw=>(hw.lower hm).c) rfl ?_ ?_
   ·intro M3 D B C;refine S11 ?_;refine YO (a':=[(15,_)]) (k+1) (D) (.cons (k:=15) rfl (.cons (k:=14) rfl (.cons (k:=13) rfl (.cons (k:=4) rfl (.cons (k:=12) rfl (.cons (k:=11) rfl (.cons (k:=10) rfl (.cons (k:=9) rfl (.cons (k:=8) rfl (.cons (k:=7) rfl (.cons (k:=0) rfl (.nil)))))))))))) (j.trans B) (fun w hw=>by first|exact hw|exact hw.c) ?_ ?_
    ·exact⟨rfl,by omega,by rw[C9,A7 (by omega:k<d.length),← B5];exact C⟩
    omega
   intro M3 D B C;refine S13 ?_;refine ZH fun w hw=>?_;exact⟨_,M3,D,rfl,g.trans (j.trans B),hw.c,.inr ⟨_,_,Zjd v K jD,C⟩⟩
  refine S10 ?_;refine YO (a':=[(9,_)]) (i+1) (h2) (.cons (k:=9) rfl (.cons (k:=8) rfl (.cons (k:=7) rfl (.cons (k:=0) rfl (.nil))))) (g.trans j) (fun w hw=>by first|exact hw|exact hw.c) ?_ ?_
  ·exact⟨rfl,by omega,by obtain rfl:k=d.length:=jD;rw[Mw v K,← G0 (l:=d)];exact L⟩
  omega
 refine S4 ?_;refine ZH fun w hw=>?_;obtain rfl:i=rows.length:=by omega
 exact⟨_,M1,h1,rfl,g,hw.c,.inl (by rw[G0]at y;exact y)⟩
theorem AF(M:Mem)(x:Int):Fs Tryz.prog 86 [.int .i64 x] M (fun v=>v=Value.bool (decide (False))):=by
 refine Xa Tryz.func86 rfl Tryz.ntmps86 rfl ?_;intro H;refine S14 ?_;refine ZH fun w hw=>?_;refine⟨_,rfl,(hw.c),?_⟩;refine congrArg Value.bool ?_;simp
theorem Zeh(M:Mem)(x:Int)(y:Int):Fs Tryz.prog 48 [.int .i64 x,.int .i64 y] M (fun v=>v= (.int .i64 (Zmf x y))):=by
 refine Xa Tryz.func48 rfl Tryz.ntmps48 rfl ?_;intro H;refine S8 ?_;refine Vn (AF _ _) ?_;rintro _ rfl;refine S6 ?_;refine Vn (AF _ _) ?_;rintro _ rfl;refine S9 ?_;refine Xb (cT fun B=>?_) (cF fun B=>?_)
 ·(exfalso;omega)
 refine S8 ?_;refine Xb (cT fun d=>?_) (cF fun d=>?_)
 ·(exfalso;omega)
 refine S10 ?_;refine Xb (cT fun j=>?_) (cF fun j=>?_)
 ·refine S7 ?_;refine ZH fun w hw=>?_;refine⟨_,rfl,(hw.c),?_⟩;refine congrArg (Value.int .i64) ?_;unfold Zmf;(rw[if_pos jD];done)
 refine S10 ?_;refine Xb (cT fun g=>?_) (cF fun g=>?_)
 ·refine S7 ?_;refine ZH fun w hw=>?_;refine⟨_,rfl,(hw.c),?_⟩;refine congrArg (Value.int .i64) ?_;unfold Zmf;(rw[if_neg jD,if_pos jD];done)
 refine S8 ?_;refine ZH fun w hw=>?_;refine⟨_,rfl,(hw.c),?_⟩;refine congrArg (Value.int .i64) ?_;unfold Zmf;(rw[if_neg jD,if_neg jD];done)
theorem Zke(M:Mem)(x:Zr)(y:Zr):Fs Tryz.prog 47 [x.enc,y.enc] M (fun v=>v= (.int .i64 (Zmf x.addr y.addr))):=by
 obtain⟨B,g⟩:=x;obtain⟨d,j⟩:=y;refine Xa Tryz.func47 rfl Tryz.ntmps47 rfl ?_;intro H;refine S3 ?_;intro C;refine Stp ?_;intro D;refine S9 ?_;refine Vn (Zeh _ _ _) ?_;rintro _ rfl;refine S4 ?_;refine ZH fun w hw=>?_;refine⟨_,rfl,(hw.c),?_⟩;rfl
end Go.Proofs.YtglnjnacodgmaaaGreatDoor
namespace Go.Proofs
open Go.Shelf
def Tryz.sortL_ren:Go.Shelf.Ren:=⟨fun|6=>46|15=>75|14=>85|28=>134|29=>135|20=>137|21=>138|22=>139|23=>140|24=>141|25=>142|26=>143|27=>144|46=>183|47=>179|48=>180|49=>184|50=>185|57=>212|n=>n,fun|22=>39|24=>38|25=>99|3=>3|39=>136|0=>0|53=>152|55=>42|4=>4|46=>185|45=>184|50=>60|5=>5|9=>9|66=>238|70=>225|76=>272|77=>273|n=>n,fun|n=>n⟩
theorem Tryz.sortL:Go.Proofs.SlLaysF0.n6 Tryz.prog Tryz.sortL_ren:={
 mixed:=by kernel_rfl
 f6:=⟨Tryz.f46.name,by decide,Tryz.func46.trans (congrArg some (by kernel_rfl))⟩
 f14:=⟨Tryz.f85.name,by decide,Tryz.func85.trans (congrArg some (by kernel_rfl))⟩
 f15:=Tryz.func75.trans (congrArg some (by kernel_rfl))
 f20:=⟨Tryz.f137.name,by decide,Tryz.func137.trans (congrArg some (by kernel_rfl))⟩
 f21:=⟨Tryz.f138.name,by decide,Tryz.func138.trans (congrArg some (by kernel_rfl))⟩
 f22:=⟨Tryz.f139.name,by decide,Tryz.func139.trans (congrArg some (by kernel_rfl))⟩
 f23:=⟨Tryz.f140.name,by decide,Tryz.func140.trans (congrArg some (by kernel_rfl))⟩
 f24:=⟨Tryz.f141.name,by decide,Tryz.func141.trans (congrArg some (by kernel_rfl))⟩
 f25:=⟨Tryz.f142.name,by decide,Tryz.func142.trans (congrArg some (by kernel_rfl))⟩
 f26:=⟨Tryz.f143.name,by decide,Tryz.func143.trans (congrArg some (by kernel_rfl))⟩
 f27:=⟨Tryz.f144.name,by decide,Tryz.func144.trans (congrArg some (by kernel_rfl))⟩
 f28:=Tryz.func134.trans (congrArg some (by kernel_rfl))
 f29:=Tryz.func135.trans (congrArg some (by kernel_rfl))
 f46:=⟨Tryz.f183.name,by decide,Tryz.func183.trans (congrArg some (by kernel_rfl))⟩
 f47:=Tryz.func179.trans (congrArg some (by kernel_rfl))
 f48:=Tryz.func180.trans (congrArg some (by kernel_rfl))
 f49:=⟨Tryz.f184.name,by decide,Tryz.func184.trans (congrArg some (by kernel_rfl))⟩
 f50:=⟨Tryz.f185.name,by decide,Tryz.func185.trans (congrArg some (by kernel_rfl))⟩
 f57:=⟨Tryz.f212.name,by decide,Tryz.func212.trans (congrArg some (by kernel_rfl))⟩
 t0:=Tryz.underlying0
 a0:=Tryz.isAgg0
 z0:=Tryz.sizeOf0
 v0:=Tryz.zeroValue0
 t3:=Tryz.underlying3
 a3:=Tryz.isAgg3
 z3:=Tryz.sizeOf3
 v3:=Tryz.zeroValue3
 t4:=Tryz.underlying4
 a4:=Tryz.isAgg4
 z4:=Tryz.sizeOf4
 v4:=Tryz.zeroValue4
 t5:=Tryz.underlying5
 a5:=Tryz.isAgg5
 z5:=Tryz.sizeOf5
 v5:=Tryz.zeroValue5
 t9:=Tryz.underlying9
 a9:=Tryz.isAgg9
 z9:=Tryz.sizeOf9
 v9:=Tryz.zeroValue9
 t22:=Tryz.underlying39
 a22:=Tryz.isAgg39
 z22:=Tryz.sizeOf39
 v22:=Tryz.zeroValue39
 t25:=Tryz.underlying99
 a25:=Tryz.isAgg99
 z25:=Tryz.sizeOf99
 v25:=Tryz.zeroValue99
 t39:=Tryz.underlying136
 a39:=Tryz.isAgg136
 z39:=Tryz.sizeOf136
 v39:=Tryz.zeroValue136
 t45:=Tryz.underlying184
 a45:=Tryz.isAgg184
 z45:=Tryz.sizeOf184
 v45:=Tryz.zeroValue184
 t46:=Tryz.underlying185
 a46:=Tryz.isAgg185
 z46:=Tryz.sizeOf185
 v46:=Tryz.zeroValue185
 t50:=Tryz.underlying60
 a50:=Tryz.isAgg60
 z50:=Tryz.sizeOf60
 v50:=Tryz.zeroValue60
 t53:=Tryz.underlying152
 a53:=Tryz.isAgg152
 z53:=Tryz.sizeOf152
 v53:=Tryz.zeroValue152
 t55:=Tryz.underlying42
 a55:=Tryz.isAgg42
 z55:=Tryz.sizeOf42
 v55:=Tryz.zeroValue42
 t66:=Tryz.underlying238
 a66:=Tryz.isAgg238
 z66:=Tryz.sizeOf238
 v66:=Tryz.zeroValue238
 t70:=Tryz.underlying225
 a70:=Tryz.isAgg225
 z70:=Tryz.sizeOf225
 v70:=Tryz.zeroValue225
 t76:=Tryz.underlying272
 a76:=Tryz.isAgg272
 z76:=Tryz.sizeOf272
 v76:=Tryz.zeroValue272
 t77:=Tryz.underlying273
 a77:=Tryz.isAgg273
 z77:=Tryz.sizeOf273
 v77:=Tryz.zeroValue273 }
end Go.Proofs
namespace Go.Esp
open Go.Proofs Go.Shelf Go.RowKit Go.Lib Go.Sort
def Yah(W:World):Mem:=⟨fun b=>W.heap[b]?,W.os,W.tape,W.output,W.drawn⟩
theorem St.startS(W:World):St (Yah W) [] W:=⟨fun _ _ h=>h,fun _ _ h=>(by cases h),fun _ _ h=>(by cases h),J1,rfl,rfl,rfl,B9 _⟩
theorem Zcd{P:Program}{g:FuncId}{vs:List Value}{r:Value}(h:∀ M,Fs P g vs M (fun v=>v=r))(W:World):Calls P g vs.toArray W fun e d=>e=.returned r∧∃ q y,d=grow (W.drewN q) y:=by
 refine(h (Yah W) [] W (St.startS W)).mono ?_;rintro e d ⟨v,rfl,j,rfl⟩;refine⟨rfl,d.drawn-W.drawn,d.heap.extract W.heap.size d.heap.size,?_⟩;have B:∀ b o,W.heap[b]?=some o→d.heap[b]?=some o:=j.mem;obtain⟨h1,h2,h3,C⟩:=j.io;have hle:W.heap.size≤d.heap.size:=by
  rcases Nat.eq_zero_or_pos W.heap.size with h0|h0
  ·omega
  have:=B (W.heap.size-1) _ (E8 jD);have:=(E4.1 this).1;omega
 have D:d.heap=W.heap++d.heap.extract W.heap.size d.heap.size:=by
  apply Array.ext_getElem?;intro i;rw[Array.getElem?_append];split
  ·rename_i hi;rw[B i _ (E8 hi),E8 hi]
  rename_i hi;rw[Array.getElem?_extract];rw[show W.heap.size+(i-W.heap.size)=i by omega];split
  ·rfl
  rw[Array.getElem?_eq_none];omega
 cases d with
 | mk heap tape drawn os output =>
  simp only[grow,World.mk.injEq];exact⟨D,h2,(Nat.add_sub_cancel' C).symm,h1,h3⟩
section
variable {α:Type} [Inhabited α] {f:α→Segs} {sz:Nat}
theorem HP{rows:List Segs}(h:lens sz rows){j i:Nat}{r:Segs}(d:rows[j]?=some r)(hi:i<sz):(ZV rows)[j * sz+i]?=(Segs.cells r)[i]?:=by
 rw[← Rp h d,I1,A6 hi,List.getElem?_drop]
theorem AW(d:0<sz)(hk:∀ x,(Segs.cells (f x)).length=sz){l:List α}(g:lens sz (l.map f)){t:Nat}(ht:t<l.length * sz):
 (ZV (l.map f))[t]?=some ((flatK (fun x=>Segs.cells (f x)) sz l.toArray)[t]!):=by
 have hj:t / sz<l.length:=(Nat.div_lt_iff_lt_mul d).2 ht;have hm:=G5 t d;have h:=HP g (j:=t / sz) (i:=t % sz) (r:=f l[t / sz]) (by rw[E6,A7 hj];rfl) hm;rw[Nat.div_add_mod']at h;rw[h,get_flatK _ _ _ _ (by simpa using ht)];grind
theorem Zfg{M:Mem}{H:Hp}{w:World}{b T:Nat}{cur F:Array Value}(hw:St M ((b,.cells cur T (0,0))::H) w)(n:Nat)(os:Array Obj):
 St M ((b,.cells (putCells id 0 F cur) T (0,0))::H) (grow (putRow id (Sort.ahead w n) b 0 F) os):=by
 have hb:=hw.own b _ (.head _);have d:=(E4.1 hb).1;refine hw.upd .head ?_ (fun c g x hx=>?_) ⟨rfl,rfl,rfl,Nat.le_add_right _ _⟩
 ·show((w.heap.modify b _)++os)[b]?=_;rw[Array.getElem?_append_left (by simpa using d),Array.getElem?_modify,A6 rfl,hb];rfl
 show((w.heap.modify b _)++os)[c]?=_;grind
theorem Zfi{P:Program}{ρ:Ren}(L:SlLaysF0.n6 P ρ)(aE:∀ w,(isAgg (ρ.t 24)).run P w=.ok true w)(zE:∀ w,(Go.sizeOf (ρ.t 24)).run P w=.ok sz w)(C:0<sz)(hk:∀ x,(Segs.cells (f x)).length=sz)
 (h1:∀ x,∀ v∈Segs.cells (f x),v.oneCell'=true) (R:α→α→Int) (hO:SWO (ltOf R)) (g:FuncId) (hg:Ta P g=true) (hc:∀ M x y,Fs P g [WX (f x),WX (f y)] M (fun v=>v=.int .i64 (R x y)))
 {T b c:Nat} {l:List α} {hs:Hp} (ho:OSl T sz (.slice (some ⟨b,0,none⟩) l.length c) hs (l.map f)) (hl:l.length≤1000000) (M:Mem) :
 Fh P (ρ.f 6) [.slice (some ⟨b,0,none⟩) l.length c,.func (.func g) #[] #[]] M hs (fun M' v U=>M'=M∧v=.tuple #[]∧∃ l':List α,l'.Perm l∧l'.Pairwise (fun x y=>¬R y x<0)∧OSl T sz (.slice (some ⟨b,0,none⟩) l.length c) U (l'.map f)):=by
 obtain⟨cur,rfl,ar,D,hle,ak,V,Z⟩:=ho.inv;have ae:(l.map f).length=l.length:=A8 ..;rw[ae]at hle Z;intro H w hw;have hb:=hw.own b _ (.head _);have ai:=(E4.1 hb).1;have aq:l.length * sz≤cur.size:=by rw[V];exact D2 _ hle
 have hH:HoldsK (fun x=>Segs.cells (f x)) sz w b 0 l.toArray:=by
  intro j hj;have aa:j<l.length * sz:=by simpa using hj
  refine⟨?_,?_⟩
  ·unfold World.cell?;simp only[hb,F2,id];rw[← AW C hk D aa,← Z,I1,A6 aa];simp
  unfold World.frozen?;simp only[hb];simp
 have aj:CmpLays P g #[] (fun x=>Segs.cells (f x)) sz R b 0 l.toArray.size w:=fun m os dk _ x y=>Zcd (fun M=>hc M x y) _;have key:=AnyQ.slices_SortFunc L sz aE zE (fun x=>Segs.cells (f x)) hk h1 R hO g #[] b 0 c l.toArray w (fun args w=>LO hg) aj hH ai jU;rw[show l.toArray.size=l.length from by simp]at key;refine key.mono ?_;rintro e w' ⟨rfl,B,n,os,⟨ag,_,an⟩,ah,rfl⟩;have hd:B.size=l.length:=by simpa using ag
 have ab:=Zfg (F:=flatK (fun x=>Segs.cells (f x)) sz B) hw n os;have K:B.toList.Perm l:=by
  have h9:=an;rw[show B.extract 0 l.length=B from by rw[← hd];simp,show l.toArray.extract 0 l.length=l.toArray from by rw[show l.length=l.toArray.size from by simp];simp]at h9;simpa using h9
 have d:lens sz (B.toList.map f):=fun r hr=>by
  obtain⟨x,hx,rfl⟩:=C0.1 hr;rw[← Segs.cells_length];exact hk x
 refine⟨_,M,[(b,.cells (putCells id 0 (flatK (fun x=>Segs.cells (f x)) sz B) cur) T (0,0))],rfl,Mem.le.refl M,ab,rfl,rfl,B.toList,K,?_,?_⟩
 ·rw[E1];intro i j hi hj ad;have h9:=ah i j (C3 _) ad (by rw[← hd];simpa using hj);rw[getElem!_pos _ _ zM,getElem!_pos _ _ zP]at h9;unfold ltOf at h9;simpa using h9
 have O:(B.toList.map f).length=l.length:=by simpa using hd
 have:=OSl.own (T:=T) b c (B.toList.map f) (putCells id 0 (flatK (fun x=>Segs.cells (f x)) sz B) cur) d (by rw[O];exact hle) ak (by simpa[putCells]using V) ?_
 ·rw[O]at this;exact this
 apply List.ext_getElem?;intro t;rw[I1];by_cases ht:t<(B.toList.map f).length * sz
 ·rw[A6 ht];have al:t<B.toList.length * sz:=by simpa using ht
  rw[AW C hk d al];have ao:t<cur.size:=by rw[O]at ht;omega
  simp only[putCells,Array.getElem?_toList,Array.getElem?_mapIdx,E8 ao,E9];rw[A6 ⟨C3 _,by simpa using ht⟩];simp
 rw[A4 ht,List.getElem?_eq_none];rw[HO d];omega
end
end Go.Esp
namespace Go.Proofs.YtglnjnacodgmaaaGreatDoor
open Go.Esp
theorem F.ok47:Ta Tryz.prog 47=true:=by kernel_rfl
theorem Zvn(M:Mem)(g:FuncId):Fs Tryz.prog 137 [.slice none 0 0,.int .i64 0,.int .i64 0,.func (.func g) #[] #[]] M (fun v=>v=.tuple #[]):=by
 refine Xa Tryz.func137 rfl Tryz.ntmps137 rfl ?_;intro H;refine S8 ?_;refine VG [8,0,1,2,3] ?_;refine Un (.succ .zero) (fun(_:Nat) z=>z=[(8,.int .i64 1)]) (fun _=>1) (0) (rfl) ?_;rintro _ _ rfl;refine S8 ?_;refine Xb (cT fun d=>?_) (cF fun d=>?_)
 ·(exfalso;omega)
 refine S4 ?_;refine ZH fun w hw=>?_;exact⟨_,rfl,hw.c,rfl⟩
theorem Zvj(M:Mem)(g:FuncId)(lim:Int):Fs Tryz.prog 85 [.slice none 0 0,.int .i64 0,.int .i64 0,.int .i64 lim,.func (.func g) #[] #[]] M (fun v=>v=.tuple #[]):=by
 refine Xa Tryz.func85 rfl Tryz.ntmps85 rfl ?_;intro H;refine S11 ?_;refine VG [1,2,3,10,11,0,4] ?_;refine Un (.succ (.succ (.succ (.succ (.succ .zero))))) (fun(_:Nat) z=>z=[(1,.int .i64 0),(2,.int .i64 0),(3,.int .i64 lim),(10,.bool true),(11,.bool true)]) (fun _=>1) (0) (rfl) ?_;rintro _ _ rfl;refine S16 ?_;refine Xb (cT fun d=>?_) (cF fun d=>?_)
 ·refine S6 ?_;refine Vn (Zvn M g) ?_;rintro _ rfl;refine S7 ?_;refine ZH fun w hw=>?_;exact⟨_,rfl,hw.c,rfl⟩
 (exfalso;omega)
theorem Zvl(M:Mem):Fs Tryz.prog 75 [.int .u64 0] M (fun v=>v=.int .i64 (Lib.bitLen 0)):=fun H w hw=>(Any.bits_Len (SlLaysF0.n15.bits (P:=Tryz.prog) (ρ:=Tryz.sortL_ren) { Tryz.sortL with }) 0 w (by omega) (by omega)).mono fun _ _ ⟨he,d⟩=>⟨_,he,by rw[d];exact hw,rfl⟩
theorem Zqe(M:Mem)(g:FuncId):Fs Tryz.prog 46 [.slice none 0 0,.func (.func g) #[] #[]] M (fun v=>v=.tuple #[]):=by
 refine Xa Tryz.func46 rfl Tryz.ntmps46 rfl ?_;intro H;refine S12 ?_;refine Vn (Zvl M) ?_;rintro _ rfl;refine Stp ?_;refine Vn (Zvj M g _) ?_;rintro _ rfl;refine Stp ?_;refine ZH fun w hw=>?_;exact⟨_,rfl,hw.c,rfl⟩
instance:Inhabited Zr:=⟨⟨0,0⟩⟩
theorem Zdo:Sort.SWO (ltOf fun x y:Zr=>Zmf x.addr y.addr):=by
 have e:∀ x y:Zr,ltOf (fun x y:Zr=>Zmf x.addr y.addr) x y=decide (x.addr<y.addr):=by
  intro x y;unfold ltOf Zmf;by_cases h:x.addr<y.addr <;> simp[h];split <;> omega
 exact⟨fun x=>by rw[e];simp,fun x y z h1 h2=>by rw[e]at *;simp at *;omega,fun x y z h1 h2=>by rw[e]at *;simp at *;omega⟩
theorem Zve(M:Mem)(a:Option Addr)(c:Nat)(l:List Zr)(hs:Hp)(C:OSl 38 21 (.slice a l.length c) hs (l.map Zr.segs))(R:l.length≤1000000):Fh Tryz.prog 46 [.slice a l.length c,.func (.func 47) #[] #[]] M hs (fun M' v g=>M'=M∧v=.tuple #[]∧∃ B:List Zr,B.Perm l∧B.Pairwise (fun x y=>x.addr≤y.addr)∧OSl 38 21 (.slice a l.length c) g (B.map Zr.segs)):=by
 cases a with
 |none =>
  obtain⟨rfl,rfl,rfl⟩:=C.noneAll;exact fun H w hw=>(Zqe M 47 H w hw).mono fun e D ⟨v,he,d,j⟩=>⟨v,M,[],he,Mem.le.refl M,d,rfl,j,[],.refl _,.nil,OSl.nil⟩
 |some ad =>
  obtain⟨b,rfl⟩:=C.someAll;have key:=Zfi (f:=Zr.segs) (sz:=21) Tryz.sortL Tryz.isAgg38 Tryz.sizeOf38 jM (fun x=>(Segs.cells_length _).trans (Zr.len x)) (fun x=>Zr.flat x) (fun x y:Zr=>Zmf x.addr y.addr) Zdo 47 F.ok47 (fun M x y=>Zke M x y) C R M;exact fun H w hw=>(key H w hw).mono fun e D ⟨v,M2,L,he,hle,d,O,j,K,h1,h2,h3⟩=>⟨v,M2,L,he,hle,d,O,j,K,h1,h2.imp (fun h=>by unfold Zmf at h;split at h <;> (try split at h) <;> omega),h3⟩
theorem F.ok44:Ta Tryz.prog 44=true:=by kernel_rfl
theorem F.ok83:Ta Tryz.prog 83=true:=by kernel_rfl
theorem F.zero39:XP Tryz.prog 39=some ((.slice none 0 0)):=by kernel_rfl
theorem Zal(M:Mem)(t:ZK)(ar:ZK.ok M t)(an:t.succ.l.length≤40∧t.fingers.l.length≤200):Esp.Fn Tryz.prog 20 [t.enc] M (fun M' v=>Ybb M' v (Wy t.tb)):=by
 obtain⟨⟨ZZ,Yg⟩,⟨Yh,Z⟩,⟨V,T,R⟩,⟨U,K,B⟩⟩:=t;have XE:SlK M Zr.segs 21 ⟨V,T,R⟩:=ar.h0;have YR:SlK M Zr.segs 21 ⟨U,K,B⟩:=ar.h1;simp only at an;refine Dq Tryz.func20 rfl Tryz.ntmps20 rfl ?_;intro H;refine S3 ?_;intro b1;refine S6 ?_;intro b2;refine S7 ?_;refine YK rfl rfl F.elem39 F.zero38 rfl rfl (.cons rfl jG .nil) rfl rfl jK rfl ?_;intro b3 aq;refine S4 ?_;refine YK rfl rfl F.elem142 F.zero39 rfl rfl (.cons rfl jG (.cons rfl jG (.cons rfl jG .nil))) rfl rfl jK rfl ?_;intro b5 al;refine Zah rfl rfl F.ok44 rfl (Zxq M _ _ _ _ ⟨Yh,Z⟩ V T R U K B al aq XE YR) jA jA (by rintro v M9 bf w hm ⟨rfl,_⟩ hw;exact(hw.lower hm).c) (XK rfl) ?_;rintro _ M1 _ a1 ⟨rfl,q1,qc,ax,y,rfl,bb,ba,az,a7,ag⟩;simp only[B6];refine S3 ?_;refine VG [13,3,2,1] ?_;refine NM (enc:=fun p:Zr=>[p.enc]) (xs:=(y.map Sl.l).flatten) (Hi:=[]) (Hu:=(b1,Yp [.one (.int .i64 ZZ),ZU Yg,.one (.int .i64 Yh),ZU Z,.one (Sl.val ⟨V,T,R⟩),.one (Sl.val ⟨U,K,B⟩)] 41)::(b2,Yp [.one (.slice none 0 0)] 39)::[]) (H0:=H) (fun pre M9 Hu=>∃(acc:List Zr) (v:Value) (hs:Hp),Hu=(b1,Yp [.one (.int .i64 ZZ),ZU Yg,.one (.int .i64 Yh),ZU Z,.one (Sl.val ⟨V,T,R⟩),.one (Sl.val ⟨U,K,B⟩)] 41)::(b2,Yp [.one v] 39)::hs∧OSl 38 21 v hs (acc.map Zr.segs)∧acc.length≤pre.length∧acc=pre.foldl (VU ⟨ZZ,Yg⟩) []) (fun _ _ _ _=>False) rfl F.ok83 (Zul M1 q1 qc ax y bb ba az a7) (fun w hw=>hw.c) ⟨[],_,[],rfl,OSl.nil,by simp,rfl⟩ (fun _=>rfl) rfl ?_ ?_ ?_
 ·rintro lp bg bn pre ⟨SQ,ai⟩ post M3 _ G bd aj ⟨acc,v0,j,rfl,O,a8,hI⟩;obtain⟨g,d,rfl⟩:=O.valL;have ay:pre.length≤1000:=by
   have h9:=congrArg List.length (ag.symm.trans bd);simp only[C8,B3]at h9;omega
  simp only[B4,Zqv];refine S2 ?_;intro b7;refine S2 ?_;refine JV ?_;refine S7 ?_;refine YE 18 (cT fun aw=>?_) (cF fun aw=>?_)
  ·refine S8 ?_;refine YE 26 (eT fun au=>?_) (eF fun au=>?_)
   ·refine S3 ?_;refine PG (Zil _ j ⟨g,d,acc⟩ _ (O.rd _) (by show acc.length≤9223372036854775807;omega)) ?_;rintro _ M1 _ ⟨bk,rfl⟩;subst M1;refine S4 ?_;refine Xb (eT fun ah=>?_) (eF fun ah=>?_)
    ·refine S3 ?_;refine YK rfl rfl F.elem39 F.zero38 rfl rfl (.cons rfl jG .nil) rfl rfl jK rfl ?_;intro bj aa;refine Vc (m:=1000000) rfl rfl rfl rfl rfl F.elem39 F.zero38 zI rfl jE jA (Src.own aa.lens jN rfl jB) jX jM rfl ?_;intro bh ak C;obtain⟨ad,ae,rfl⟩:=C.valAt (n:=acc.length+1) zS;refine S3 ?_;refine Cd (Hu:=(b1,Yp [.one (.int .i64 ZZ),ZU Yg,.one (.int .i64 Yh),ZU Z,.one (Sl.val ⟨V,T,R⟩),.one (Sl.val ⟨U,K,B⟩)] 41)::(b2,Yp [.one (.slice ad (acc.length+1) ae)] 39)::ak) (Mem.le.refl _) (fun w hw=>hw.c) ⟨acc++[⟨SQ,ai⟩],_,_,rfl,by rw[C6];exact C,by simp only[B3,C8,D5];omega,?_⟩;rw[Kh hI];unfold VU;rw[if_pos ⟨by assumption,by assumption,by assumption⟩]
    refine S2 ?_;refine Cd (Hu:=(b1,Yp [.one (.int .i64 ZZ),ZU Yg,.one (.int .i64 Yh),ZU Z,.one (Sl.val ⟨V,T,R⟩),.one (Sl.val ⟨U,K,B⟩)] 41)::(b2,Yp [.one (.slice g acc.length d)] 39)::j) (Mem.le.refl _) (fun w hw=>hw.c) ⟨acc,_,_,rfl,O,by simp only[B3,C8,D5];omega,?_⟩;rw[Kh hI];unfold VU;rw[if_neg yH]
   refine S11 ?_;refine Cd (Hu:=(b1,Yp [.one (.int .i64 ZZ),ZU Yg,.one (.int .i64 Yh),ZU Z,.one (Sl.val ⟨V,T,R⟩),.one (Sl.val ⟨U,K,B⟩)] 41)::(b2,Yp [.one (.slice g acc.length d)] 39)::j) (Mem.le.refl _) (fun w hw=>hw.c) ⟨acc,_,_,rfl,O,by simp only[B3,C8,D5];omega,?_⟩;rw[Kh hI];unfold VU;rw[if_neg yH]
  refine S19 ?_;refine Cd (Hu:=(b1,Yp [.one (.int .i64 ZZ),ZU Yg,.one (.int .i64 Yh),ZU Z,.one (Sl.val ⟨V,T,R⟩),.one (Sl.val ⟨U,K,B⟩)] 41)::(b2,Yp [.one (.slice g acc.length d)] 39)::j) (Mem.le.refl _) (fun w hw=>hw.c) ⟨acc,_,_,rfl,O,by simp only[B3,C8,D5];omega,?_⟩;rw[Kh hI];unfold VU;rw[if_neg yH]
 ·rintro D L o M3 _ aj ⟨acc,v0,j,rfl,O,a8,hI⟩;obtain⟨g,d,rfl⟩:=O.valL;have ay:acc.length≤1000:=by
   have h9:=congrArg List.length ag;simp only[C8,B3]at h9;omega
  simp only[B4,B6];refine S3 ?_;refine Xv (l:=[0,1]) (Hin:=j) jA rfl ?_;refine Stp ?_;refine We (Zve M3 g d acc j O jD) ?_;rintro _ M4 bc bl ⟨bo,rfl,l9,ab,ao,a6⟩;subst M4;refine S9 ?_;refine HB (Ds:=[D]) (Hd:=[(D,.deferred (some []))]) (H:=bc++H) (.inr rfl) (.tmp rfl .nil) (fun w hw=>hw.c) jQ jQ (fun w hw=>?_);obtain⟨M9,j1,j2,j3⟩:=OSl.frz a6 hw;exact⟨_,M9,rfl,a1.trans (aj.trans j1),j2,⟨g,d,l9⟩,congrArg (fun n=>Value.slice g n d) (by simpa using ab.length_eq.symm),Zoh (by rw[hI,ag]at ab;exact ab) ao,j3⟩
 intro c D L o M2 bm pre post _ _ h;exact h.elim
theorem F.elem32:Na Tryz.prog 32=some (3,1,8):=by kernel_rfl
theorem F.ok96:Ta Tryz.prog 96=true:=by kernel_rfl
theorem Zlr(M:Mem)(Hin:Hp)(l:Sl Int)(x:Int)(C:RdS M Hin l.a (l.l.map (WC .i64)) 1)(D:l.l.length≤9223372036854775807):Fo Tryz.prog 155 [l.val,.int .i64 x] M Hin (fun M' v=>M'=M∧v=.int .i64 (Ztm x l.l)):=by
 have nl:(l.l.map (WC .i64)).length=l.l.length:=A8 ..;refine VT Tryz.func155 rfl Tryz.ntmps155 rfl ?_;intro H;have B:=C.app H;refine S14 ?_;refine VG [8,7,4,0,1] ?_;refine Un (.succ .zero) (fun(k:Nat) z=>z=[(8,.int .i64 (k:Int))]∧k≤l.l.length∧(x∉l.l.take k)) (fun k=>l.l.length-k) (0) (⟨rfl,by omega,by simp⟩) ?_;rintro k _ ⟨rfl,hk,d⟩;refine S6 ?_;refine Xb (cT fun j=>?_) (cF fun j=>?_)
 ·refine S20 ?_;refine Xb (cT fun y=>?_) (cF fun y=>?_)
  ·refine S12 ?_;refine ZH fun w hw=>?_;refine⟨_,M,rfl,Mem.le.refl M,hw.c,rfl,?_⟩;refine congrArg (Value.int .i64) ?_;exact(Ztl jD d jE).symm
  refine S7 ?_;refine VX (a':=[(8,_)]) (k+1) (.cons (k:=8) rfl (.cons (k:=7) rfl (.cons (k:=4) rfl (.cons (k:=0) rfl (.cons (k:=1) rfl (.nil)))))) (fun w hw=>by first|exact hw|exact hw.c) ?_ ?_
  ·refine⟨rfl,by omega,?_⟩;exact HX jD d jE
  omega
 refine S11 ?_;refine ZH fun w hw=>?_;refine⟨_,M,rfl,Mem.le.refl M,hw.c,rfl,?_⟩;refine congrArg (Value.int .i64) ?_;(have g:k=l.l.length:=jD;subst g;rw[G0]at d;exact(Zif d).symm)
theorem QO(M:Mem)(Hin:Hp)(l:Sl Int)(x:Int)(y:RdS M Hin l.a (l.l.map (WC .i64)) 1)(j:l.l.length≤9223372036854775807):Fo Tryz.prog 96 [l.val,.int .i64 x] M Hin (fun M' v=>M'=M∧v=.bool (decide (x∈l.l))):=by
 refine VT Tryz.func96 rfl Tryz.ntmps96 rfl ?_;intro H;refine S9 ?_;refine PG (Zlr _ Hin ⟨_,_,_⟩ _ y j) ?_;rintro _ d _ ⟨g,rfl⟩;subst d;refine S5 ?_;refine ZH fun w hw=>?_;exact⟨_,M,rfl,Mem.le.refl M,hw.c,rfl,congrArg Value.bool (by simp[Ztk])⟩
theorem LV(M:Mem)(l:Sl Int)(x:Int)(g:SlM M l.a (l.l.map (WC .i64)) 1)(d:l.l.length≤maxLen):Fs Tryz.prog 96 [l.val,.int .i64 x] M (fun v=>v=.bool (decide (x∈l.l))) :=
 AT (QO M [] l x (g.rd []) d)
theorem OY(M:Mem)(t:ZK)(id:Plc)(avoid:(Sl Int))(ag:ZK.ok M t)(K:SlK M (WC .i64) 1 avoid)(ab:t.succ.l.length≤40∧t.fingers.l.length≤200):Esp.Fn Tryz.prog 59 [t.enc,WX [ZU id],Sl.val avoid] M (fun M' v=>v=Yag (YJ t.tb id avoid.l)):=by
 obtain⟨⟨ZZ,Yg⟩,⟨Yh,Yr⟩,⟨Yo,Yn,Yc⟩,⟨Ye,Yd,V⟩⟩:=t;obtain⟨C,B,g⟩:=avoid;have XE:SlK M Zr.segs 21 ⟨Yo,Yn,Yc⟩:=ag.h0;have ak:SlM M Yo (Yc.map Zr.segs) 21:=XE.h1;have aj:(Yc.map Zr.segs).length=Yc.length:=A8 ..;have ai:Yc.length≤9223372036854775807:=XE.h2;have ah:Yc.length≤Yn:=XE.h3;have YR:SlK M Zr.segs 21 ⟨Ye,Yd,V⟩:=ag.h1;have T:SlM M Ye (V.map Zr.segs) 21:=YR.h1;have aa:(V.map Zr.segs).length=V.length:=A8 ..;have U:V.length≤9223372036854775807:=YR.h2;have Z:V.length≤Yd:=YR.h3;have y:SlK M (WC .i64) 1 ⟨C,B,g⟩:=K;have an:SlM M C (g.map (WC .i64)) 1:=y.h1;have au:(g.map (WC .i64)).length=g.length:=A8 ..;have ao:g.length≤9223372036854775807:=y.h2;have ar:g.length≤B:=y.h3;simp only at ab;refine WE Tryz.func59 rfl Tryz.ntmps59 rfl ?_;intro H;refine S3 ?_;intro b1;refine Stp ?_;intro b2;refine Stp ?_;intro b3;refine S3 ?_;refine VG [7,6,4,3,2] ?_;refine S2 ?_;refine Vn (VD _) ?_;rintro _ rfl;refine Xs 12 rfl (show _=WX [.one (.int .i64 (-1)),ZU 0]from rfl) ?_;refine Stp ?_;intro b4;refine S4 ?_;refine VG [9,8,7,6,4,3,2] ?_;refine S4 ?_;refine PH (Zal M ⟨⟨ZZ,Yg⟩,⟨Yh,Yr⟩,⟨Yo,Yn,Yc⟩,⟨Ye,Yd,V⟩⟩ ag ab) ?_;rintro _ M1 al ⟨⟨ba,a8,d⟩,rfl,ae,ad⟩;have L:=ad.h1;have bb:(d.map Zr.segs).length=d.length:=A8 ..;have bc:d.length≤9223372036854775807:=ad.h2;simp only at ae L;refine S4 ?_;refine VG [16,15,14,9,8,7,6,4,3,2] ?_;refine Stp ?_;refine VG [16,9,15,14,8,7,6,4,3,2] ?_;refine XV (Hin:=[(b4,Yp [.one (.int .i64 (-1)),ZU 0] 38)]) (.succ (.succ .zero)) jA (fun(k:Nat) M9 h1 z=>∃ r:Zr×Bool,M9=M1∧z=[(16,.int .i64 (k:Int)),(9,.bool r.2)]∧k≤d.length∧h1=[(b4,Yp [.one (.int .i64 r.1.addr),ZU r.1.id] 38)]∧(d.take (k)).foldl (Vb ⟨ZZ,Yg⟩ id g) (Yj,false)=r) (fun k=>d.length-k) (0) (⟨(Yj,false),rfl,rfl,by omega,rfl,rfl⟩) ?_;rintro k M2 h1 z bf ⟨⟨⟨R,O⟩,rb⟩,a7,rfl,hk,rfl,D⟩;subst a7;rcases rb with _|_
 ·skip
  refine S6 ?_;refine Xb (cT fun ay=>?_) (cF fun ay=>?_)
  ·refine S5 ?_;obtain⟨⟨SQ,j⟩,hx⟩:∃ x,d[k]=x:=⟨_,rfl⟩
   refine S2 ?_;refine JP rfl rfl rfl L (show(d.map Zr.segs)[k]?=some (Zr.segs ⟨SQ,j⟩)by rw[E6,A7 jD,hx];rfl) F.lay38 rfl rfl rfl ?_;refine Zks F.zero38 ?_;intro b6;refine BB F.lay38 ?_;refine S6 ?_;refine Rd F.foff38_0 ?_;refine DS F.lay3 ?_;refine Zur rfl rfl F.ok96 rfl (LV _ ⟨_,_,_⟩ _ (by exact SlM.mono jE yL) jE) rfl ?_;rintro _ rfl;refine Stp ?_;refine BF 24 rfl (cT fun az=>?_) (cF fun az=>?_)
   ·refine S17 ?_;refine DZ rfl rfl rfl rfl rfl yN rfl ?_;refine S2 ?_;refine YO (a':=[(16,_),(9,_)]) (k+1) ([(b4,Yp [.one (.int .i64 R),ZU O] 38)]) (.cons (k:=16) rfl (.cons (k:=9) rfl (.cons (k:=15) rfl (.cons (k:=14) rfl (.cons (k:=8) rfl (.cons (k:=7) rfl (.cons (k:=6) rfl (.cons (k:=4) rfl (.cons (k:=3) rfl (.cons (k:=2) rfl (.nil))))))))))) jO (fun w hw=>by first|exact hw|exact hw.c) ?_ ?_
    ·exact⟨(⟨R,O⟩,false),rfl,rfl,by omega,rfl,by rw[SZ (by omega:k<d.length),D,hx];unfold Vb;rw[if_pos yK]⟩
    omega
   refine S6 ?_;refine Vn (Lv _ _ _ _) ?_;rintro _ rfl;refine S4 ?_;refine Xb (eT fun a6=>?_) (eF fun a6=>?_)
   ·refine S8 ?_;refine YO (a':=[(16,_),(9,_)]) (k+1) ([(b4,Yp [.one (.int .i64 R),ZU O] 38)]) (.cons (k:=16) rfl (.cons (k:=9) rfl (.cons (k:=15) rfl (.cons (k:=14) rfl (.cons (k:=8) rfl (.cons (k:=7) rfl (.cons (k:=6) rfl (.cons (k:=4) rfl (.cons (k:=3) rfl (.cons (k:=2) rfl (.nil))))))))))) jO (fun w hw=>by first|exact hw|exact hw.c) ?_ ?_
    ·exact⟨(⟨R,O⟩,false),rfl,rfl,by omega,rfl,by rw[SZ (by omega:k<d.length),D,hx];unfold Vb;rw[if_pos (by exact .inr jE)]⟩
    omega
   refine S28 ?_;refine YO (a':=[(16,_),(9,_)]) (k+1) ([(b4,Yp [.one (.int .i64 SQ),ZU j] 38)]) (.cons (k:=16) rfl (.cons (k:=9) rfl (.cons (k:=15) rfl (.cons (k:=14) rfl (.cons (k:=8) rfl (.cons (k:=7) rfl (.cons (k:=6) rfl (.cons (k:=4) rfl (.cons (k:=3) rfl (.cons (k:=2) rfl (.nil))))))))))) jO (fun w hw=>by first|exact hw|exact hw.c) ?_ ?_
   ·exact⟨(⟨SQ,j⟩,true),rfl,rfl,by omega,rfl,by rw[SZ (by omega:k<d.length),D,hx];unfold Vb;rw[if_neg yM,if_pos (.inl rfl)]⟩
   omega
  refine S5 ?_;refine VG [9,8,7,6] ?_;refine S8 ?_;refine VG [7,6] ?_;refine Stp ?_;refine ZH fun w hw=>?_;obtain rfl:k=d.length:=by omega
  rw[G0,ae]at D;refine⟨_,M2,rfl,al,hw.c,?_⟩;unfold YJ;rw[show(ZK.tb ⟨⟨ZZ,Yg⟩,⟨Yh,Yr⟩,⟨Yo,Yn,Yc⟩,⟨Ye,Yd,V⟩⟩).self=⟨ZZ,Yg⟩from rfl,D];rfl
 skip
 refine S6 ?_;refine Xb (cT fun a1=>?_) (cF fun a1=>?_)
 ·refine S5 ?_;obtain⟨⟨SQ,j⟩,hx⟩:∃ x,d[k]=x:=⟨_,rfl⟩
  refine S2 ?_;refine JP rfl rfl rfl L (show(d.map Zr.segs)[k]?=some (Zr.segs ⟨SQ,j⟩)by rw[E6,A7 jD,hx];rfl) F.lay38 rfl rfl rfl ?_;refine Zks F.zero38 ?_;intro bd;refine BB F.lay38 ?_;refine S6 ?_;refine Rd F.foff38_0 ?_;refine DS F.lay3 ?_;refine Zur rfl rfl F.ok96 rfl (LV _ ⟨_,_,_⟩ _ (by exact SlM.mono jE yL) jE) rfl ?_;rintro _ rfl;refine Stp ?_;refine BF 24 rfl (cT fun aq=>?_) (cF fun aq=>?_)
  ·refine S17 ?_;refine DZ rfl rfl rfl rfl rfl yN rfl ?_;refine S2 ?_;refine YO (a':=[(16,_),(9,_)]) (k+1) ([(b4,Yp [.one (.int .i64 R),ZU O] 38)]) (.cons (k:=16) rfl (.cons (k:=9) rfl (.cons (k:=15) rfl (.cons (k:=14) rfl (.cons (k:=8) rfl (.cons (k:=7) rfl (.cons (k:=6) rfl (.cons (k:=4) rfl (.cons (k:=3) rfl (.cons (k:=2) rfl (.nil))))))))))) jO (fun w hw=>by first|exact hw|exact hw.c) ?_ ?_
   ·exact⟨(⟨R,O⟩,true),rfl,rfl,by omega,rfl,by rw[SZ (by omega:k<d.length),D,hx];unfold Vb;rw[if_pos yK]⟩
   omega
  refine S6 ?_;refine Vn (Lv _ _ _ _) ?_;rintro _ rfl;refine S4 ?_;refine Xb (eT fun aw=>?_) (eF fun aw=>?_)
  ·refine S8 ?_;refine YO (a':=[(16,_),(9,_)]) (k+1) ([(b4,Yp [.one (.int .i64 R),ZU O] 38)]) (.cons (k:=16) rfl (.cons (k:=9) rfl (.cons (k:=15) rfl (.cons (k:=14) rfl (.cons (k:=8) rfl (.cons (k:=7) rfl (.cons (k:=6) rfl (.cons (k:=4) rfl (.cons (k:=3) rfl (.cons (k:=2) rfl (.nil))))))))))) jO (fun w hw=>by first|exact hw|exact hw.c) ?_ ?_
   ·exact⟨(⟨R,O⟩,true),rfl,rfl,by omega,rfl,by rw[SZ (by omega:k<d.length),D,hx];unfold Vb;rw[if_pos (by exact .inr jE)]⟩
   omega
  refine S12 ?_;refine Vn (Lv _ _ _ _) ?_;rintro _ rfl;refine S3 ?_;refine Xb (cT fun ax=>?_) (cF fun ax=>?_)
  ·refine S11 ?_;refine YO (a':=[(16,_),(9,_)]) (k+1) ([(b4,Yp [.one (.int .i64 SQ),ZU j] 38)]) (.cons (k:=16) rfl (.cons (k:=9) rfl (.cons (k:=15) rfl (.cons (k:=14) rfl (.cons (k:=8) rfl (.cons (k:=7) rfl (.cons (k:=6) rfl (.cons (k:=4) rfl (.cons (k:=3) rfl (.cons (k:=2) rfl (.nil))))))))))) jO (fun w hw=>by first|exact hw|exact hw.c) ?_ ?_
   ·exact⟨(⟨SQ,j⟩,true),rfl,rfl,by omega,rfl,by rw[SZ (by omega:k<d.length),D,hx];unfold Vb;rw[if_neg yM,if_pos (.inr jE)]⟩
   omega
  refine S7 ?_;refine YO (a':=[(16,_),(9,_)]) (k+1) ([(b4,Yp [.one (.int .i64 R),ZU O] 38)]) (.cons (k:=16) rfl (.cons (k:=9) rfl (.cons (k:=15) rfl (.cons (k:=14) rfl (.cons (k:=8) rfl (.cons (k:=7) rfl (.cons (k:=6) rfl (.cons (k:=4) rfl (.cons (k:=3) rfl (.cons (k:=2) rfl (.nil))))))))))) jO (fun w hw=>by first|exact hw|exact hw.c) ?_ ?_
  ·exact⟨(⟨R,O⟩,true),rfl,rfl,by omega,rfl,by rw[SZ (by omega:k<d.length),D,hx];unfold Vb;rw[if_neg yM,if_neg (by rintro(g1|g1);cases g1;exact absurd g1 jE)]⟩
  omega
 refine S14 ?_;refine ZH fun w hw=>?_;obtain rfl:k=d.length:=by omega
 rw[G0,ae]at D;refine⟨_,M2,rfl,al,hw.c,?_⟩;unfold YJ;rw[show(ZK.tb ⟨⟨ZZ,Yg⟩,⟨Yh,Yr⟩,⟨Yo,Yn,Yc⟩,⟨Ye,Yd,V⟩⟩).self=⟨ZZ,Yg⟩from rfl,D];rfl
end Go.Proofs.YtglnjnacodgmaaaGreatDoor
namespace Go.Esp
def ZM.nd(n:ZM):Nd:=⟨n.table.tb,n.copies,n.joined,n.boot,n.cursor,n.req,n.askTo,n.askReq,n.pingTo,n.pingReq,n.findTo,n.findReq,n.findID,n.avoid.l,n.hops,n.turn⟩
def ZI.lt(l:ZI):Lt:=⟨l.kind,l.frm,l.req,l.id,l.avoid.l,l.done,l.peer,l.peers.l⟩
def YD.snd(s:YD):Snd:=⟨s.to,s.letter.lt⟩
def QV(l:List YD):List Snd:=l.map YD.snd
theorem Zdt{s:Zr}{a b c d:Int}:(∀ j (h:j<[a,b,c,d].length),Xe s [a,b,c,d][j])↔(Xe s a∧Xe s b∧Xe s c∧Xe s d):=by
 constructor
 ·intro h;exact⟨h 0 (by show 0<4;decide),h 1 (by show 1<4;decide),h 2 (by show 2<4;decide),h 3 (by show 3<4;decide)⟩
 grind
theorem Ls{l:List Int}:(l.any fun a=>decide (¬(0≤a∧a≤999)))=false↔∀ a∈l,Yf a:=by
 rw[List.any_eq_false];constructor
 ·intro h a ha;have:=h a ha;simp only[decide_eq_true_eq,Classical.not_not]at this;exact this
 intro h a ha;have:=h a ha;simp only[decide_eq_true_eq,Classical.not_not];exact this
theorem Zae{l:List Zr}:(l.any fun p=>decide (¬Yf p.addr))=false↔∀ p∈l,Yf p.addr:=by
 simp
def orK(a b:Int):Int:=IntKind.i64.wrap (BitVec.ofInt 64 a ||| BitVec.ofInt 64 b).toNat
def Zmd(a b:Int):Int:=IntKind.i64.wrap (BitVec.ofInt 64 a &&& ~~~BitVec.ofInt 64 b).toNat
def RE(l:List XF):Int:=l.foldl (fun a h=>if h.is then orK a h.part else a) 0
theorem Ik{l:List XF}{k:Nat}(hk:k<l.length):RE (l.take (k+1))=if l[k].is then orK (RE (l.take k)) l[k].part else RE (l.take k):=by
 unfold RE;rw[C9,A7 hk,I4];rfl
def PN(a b c d e f:Bool):List XF:=[⟨1,a⟩,⟨2,b⟩,⟨4,c⟩,⟨8,d⟩,⟨16,e⟩,⟨32,f⟩]
def VR(k:Int):Int×Bool :=
 if k=1 then(7,true)else if k=2 then(25,true)else if k=3∨k=6∨k=7 then(1,true)else if k=4 then(49,true)else if k=5 then(0,true)else if k=8 then(48,true)else(0,false)
theorem Zmg:∀(a b c d e f:Bool),(Zmd (RE (PN a b c d e f)) 7=0↔d=false∧e=false∧f=false)∧(Zmd (RE (PN a b c d e f)) 25=0↔b=false∧c=false∧f=false) ∧
 (Zmd (RE (PN a b c d e f)) 1=0↔b=false∧c=false∧d=false∧e=false∧f=false)∧(Zmd (RE (PN a b c d e f)) 49=0↔b=false∧c=false∧d=false) ∧
 (Zmd (RE (PN a b c d e f)) 0=0↔a=false∧b=false∧c=false∧d=false∧e=false∧f=false)∧(Zmd (RE (PN a b c d e f)) 48=0↔a=false∧b=false∧c=false∧d=false):=by
 intro a b c d e f;cases a <;> cases b <;> cases c <;> cases d <;> cases e <;> cases f <;> decide +kernel
theorem Znp{k:Int}(h:¬(1≤k∧k≤8)∨(¬k=1∧¬k=2∧¬k=3∧¬k=6∧¬k=7∧¬k=4∧¬k=5∧¬k=8)):VR k=(0,false):=by
 unfold VR;grind
theorem Me{k:Int}:(VR k).2=true↔1≤k∧k≤8:=by
 unfold VR;grind
theorem ME{k:Int}(hk:(VR k).2=true)(a b c d e f:Bool):Zmd (RE (PN a b c d e f)) (VR k).1=0 ↔
 ((Ue k∨a=false)∧(k=1∨b=false)∧(k=1∨c=false)∧(k=2∨d=false)∧(Vm k∨e=false)∧(Wn k∨f=false)):=by
 obtain⟨h1,h2,h3,j,g,y⟩:=Zmg a b c d e f;have v:=Me.1 hk;have:k=1∨k=2∨k=3∨k=4∨k=5∨k=6∨k=7∨k=8:=by omega
 unfold Ue Vm Wn;rcases this with rfl|rfl|rfl|rfl|rfl|rfl|rfl|rfl
 ·rw[show(VR 1).1=7 from rfl,h1];simp
 ·rw[show(VR 2).1=25 from rfl,h2];simp
 ·rw[show(VR 3).1=1 from rfl,h3];simp
 ·rw[show(VR 4).1=49 from rfl,j];simp
 ·rw[show(VR 5).1=0 from rfl,g];simp
 ·rw[show(VR 6).1=1 from rfl,h3];simp
 ·rw[show(VR 7).1=1 from rfl,h3];simp
 rw[show(VR 8).1=48 from rfl,y];simp
end Go.Esp
namespace Go.Esp
theorem OSl.extend{T sz b c:Nat}{hs:Hp}{rows:List Segs}(h:OSl T sz (.slice (some ⟨b,0,none⟩) rows.length c) hs rows){m:Nat}(hm:rows.length+m≤c):
 ∃ ext:List Segs,ext.length=m∧OSl T sz (.slice (some ⟨b,0,none⟩) (rows.length+m) c) hs (rows++ext):=by
 obtain⟨cur,rfl,_,v,h2,h3,g,j⟩:=h.inv;have key:∀(m off:Nat) ,off+m * sz≤cur.size→∃ ext:List Segs,ext.length=m∧Esp.lens sz ext∧ZV ext=(cur.toList.drop off).take (m * sz):=by
  intro m
  induction m with
  | zero=>intro off _;exact⟨[],rfl,fun r d=>(by cases d),by simp[ZV]⟩
  | succ m ih =>
   intro off y;have e:(m+1) * sz=sz+m * sz:=by rw[F4];omega
   obtain⟨ext,g1,g2,g3⟩:=ih (off+sz) jD;refine⟨Zyw ((cur.toList.drop off).take sz)::ext,by simp[g1],fun r d=>?_,?_⟩
   ·rcases B7.1 d with rfl|d
    ·rw[← Segs.cells_length,OD,D8,F3,H6];omega
    exact g2 r d
   simp only[ZV,OD,g3,e];rw[List.take_add,E5]
 obtain⟨ext,g1,g2,g3⟩:=key m (rows.length * sz) (by rw[g,← F4];exact D2 _ hm);refine⟨ext,g1,?_⟩;have hlen:(rows++ext).length=rows.length+m:=by simp[g1]
 rw[← hlen];refine OSl.own b c (rows++ext) cur (v.append g2) jD h3 g ?_;rw[hlen,F4,List.take_add,j,← g3,XJ]
theorem OSl.as9{T sz:Nat}{v:Value}{hs:Hp}{rows d:List Segs}(h:OSl T sz v hs rows)(e:rows=d):OSl T sz v hs d:=e ▸ h
section
variable {P:Program} {n:Sh} {ops:Array Oper} {Q:Exit→Act→World→Prop} {rest:List Nat} {M M':Mem} {H H' H0:Hp} {e:Env} {J S:World→Prop} {A:As} {i:Nat}
  {dst:Option Tmp} {d:Tmp} {op:Op} {ty:TypeId} {pos:String} {af:Array Edge} {gd:Option (Nat×Bool)}
theorem GO{t t' E sz ai:Nat}{x y:Operand}{b k K c' V Z c l off:Nat}{F:Addr}{hs:Hp}{rows news:List Segs}{U:Array TypeId}(hi:ops[i]?=some ⟨some d,.call ⟨.builtin .copy,#[x,y],U⟩,ty,pos,af,gd⟩)(hg:want ops e gd=some true)
 (hx:ev e x=some (.slice (some ⟨b,off,Option.none⟩) K c')) (hy:ev e y=some (.slice (some F) V Z)) (ae:U=#[t,t']) (ht:Na P t=some (E,sz,ai)) (L:off=k * sz) (aw:k+K≤rows.length) (ho:OSl E sz (.slice (some ⟨b,0,Option.none⟩) l c) hs rows) (hH:Rem hs H H0)
 (O:Src M H sz (.slice (some F) news.length Z) news) (hm:news.length=min V K) (hd:Nat.ble (d+1) n.sz=true)
 (hk:∀ hs',OSl E sz (.slice (some ⟨b,0,Option.none⟩) rows.length c) hs' (rows.take k++news++rows.drop (k+news.length))→XD P n ops Q rest (St M (hs'++H0)) ⟨M,hs'++H0⟩ ((d,.int .i64 (news.length:Int))::e)) (ab:n.wrs.contains i=false:=by rfl):XD P n ops Q (i::rest) J ⟨M,H⟩ e:=by
 subst ae L;refine SK hi rfl hg (fun a w ha hw=>?_) ab;obtain⟨it,hu,ag,rfl,rfl⟩:=Wq ht;obtain⟨aa,h1,aj,ak,e9,ar⟩:=O;obtain⟨rfl,_,rfl⟩:F=aj∧True∧Z=ak:=by simpa using e9
 obtain⟨cur,rfl,rfl,ao,C,aq,ah,D⟩:=ho.inv;have R:=hw.perm hH.perm;have hb:=R.own b _ (C5 _ (.head _));have an:(ZV news).length=news.length * it.size:=YU aa;have hle:k * it.size+news.length * it.size≤rows.length * it.size:=by rw[← F4];exact D2 _ jD
 have au:rows.length * it.size≤c * it.size:=D2 _ C;have g:=run_loadCells_list (P:=P) w F (ZV news) (fun j v hj=>ar w hw j v hj);have B:=run_storeCells_at P b (k * it.size) E (ZV news) 0 cur w hb jD h1;have al:=KM (T:=E) (b:=b) (k:=k) (news:=news) ao aa C aq ah D jD;rw[an]at g;have hr:(Builtin.copy_ #[t,t'] ty #[.slice (some ⟨b,k * it.size,Option.none⟩) K c',.slice (some F) V Z]).run P w=.ok (goInt news.length) (w.setRow b (cur.toList.take (k * it.size)++ZV news++cur.toList.drop (k * it.size+(ZV news).length)).toArray):=by
  have e9:Nat.min V K=news.length:=hm.symm;simp[Builtin.copy_,run_underlying hu,Builtin.lenOf,Builtin.firstCells,sizeOf,typeInfo,ag,e9,g];have h5:=B;simp only[B5]at h5;rw[h5];rfl
 unfold Oper.does;have:(execOp a.eval ⟨some d,.call ⟨.builtin .copy,#[x,y],#[t,t']⟩,ty,pos,af,gd⟩).run P w=.ok (.value (.int .i64 (news.length:Int))) (w.setRow b (cur.toList.take (k * it.size)++ZV news++cur.toList.drop (k * it.size+(ZV news).length)).toArray):=by
  simp only[execOp,resolve];have e1:#[x,y].map a.eval=#[.slice (some ⟨b,k * it.size,Option.none⟩) K c',.slice (some F) V Z]:=by simp[ha.ev hx,ha.ev hy]
  rw[e1];show(Result.ok _ w).andThen _=_;exact Wz hr
 rw[this];refine⟨⟨M,_⟩,_,?_,ha.put hd _,hk _ al⟩;exact R.upd .head (setRow_heap w b cur _ E _ hb) (fun c hc x hx=>by rw[setRow_other w b c _ hc];exact hx) (SameIO.refl _)
theorem Zdz{t Z E sz T j k c:Nat}{z:Value}{kn:IntKind}{x y:Operand}{b l:Nat}{hs:Hp}{rows:List Segs}(hi:ops[i]?=some ⟨some d,.call ⟨.builtin .append,#[x,y],#[t,Z]⟩,ty,pos,af,gd⟩)(hg:want ops e gd=some true)
 (hx:ev e x=some (.slice (some ⟨b,0,Option.none⟩) j c)) (hy:ev e y=some (.int .i64 (k:Int))) (ht:Na P t=some (E,sz,T)) (ab:P.underlying Z=some (.int kn)) (hz:XP P E=some z) (ad:z.cells.size=sz) (al:Nat.ble 1 sz=true)
 (ho:OSl E sz (.slice (some ⟨b,0,Option.none⟩) l c) hs rows) (hH:Rem hs H H0) (hj:j≤rows.length) (h0:0<k) (U:c<j+k) (aq:j+k≤16777216) (ak:(j+k) * T≤140737488355328) (hd:Nat.ble (d+1) n.sz=true)
 (hk:∀(b' c':Nat) hs' (g:List Segs),g.length=k→OSl E sz (.slice (some ⟨b',0,Option.none⟩) (j+k) c') hs' (rows.take j++g)→XD P n ops Q rest (St M (hs'++H)) ⟨M,hs'++H⟩ ((d,.slice (some ⟨b',0,Option.none⟩) (j+k) c')::e)) (ai:n.wrs.contains i=false:=by rfl):XD P n ops Q (i::rest) J ⟨M,H⟩ e:=by
 refine SK hi rfl hg (fun a w ha hw=>?_) ai;obtain⟨it,hu,R,rfl,rfl⟩:=Wq ht;have ah:it.zero=some z:=by simpa[XP,R]using hz
 have K:1≤it.size:=D1 al;obtain⟨cur,rfl,_,hl,h2,h3,h4,h5⟩:=ho.inv;have aj:=hw.perm hH.perm;have hb:=aj.own b _ (C5 _ (.head _));have C:Esp.lens it.size (rows.take j):=fun r L=>hl r (F9 L);have ae:(rows.take j).length=j:=by simp;omega
 have B:=Sj hl hj;have hole:(ZV (rows.take j)).length=j * it.size:=by rw[YU C,ae]
 have hold:=run_loadCells_list (P:=P) (w:=w.drew) ⟨b,0,Option.none⟩ (ZV (rows.take j)) (GD (w:=w.drew) (b:=b) (off:=0) (n:=j * it.size) hb (by
  rw[List.drop_zero,B,← h5,I3];congr 1;have h6:j * it.size≤rows.length * it.size:=D2 _ hj;omega))
 rw[hole]at hold;have L:=Lib.run_append_grow_zeros (P:=P) w t Z ty E it z .i64 kn hu ab R ah (some ⟨b,0,Option.none⟩) j c (ZV (rows.take j)) hold k h0 K U jD (by
  have:k * it.bytes≤(j+k) * it.bytes:=D2 _ jD;omega) (growslice_fits U ak)
 have v:z.cells.size=it.size:=ad;have F:=grownCap_ge w (j+k) c E;have V:grownCap w (j+k) c E≤maxLen:=grownCap_le_maxLen w (j+k) c E zZ;obtain⟨g,O,D,aa⟩:∃ g:List Segs,g.length=k∧Esp.lens it.size g∧ZV g=(Builtin.zeroCells z.cells k).toList:=by
  refine⟨Se (fun i=>z.cells[i % z.cells.size]!) it.size k,by simp[Se],fun r L=>?_,?_⟩
  ·obtain⟨q,_,rfl⟩:=C0.1 L;exact OE _ q it.size
  rw[PA];simp[Builtin.zeroCells,v]
 have hlen:(rows.take j++g).length=j+k:=by simp[O];omega
 have an:St M H w.drew:=hw.heap rfl ⟨rfl,rfl,rfl,Nat.le_succ _⟩;have ao:=an.alloc (.cells ((ZV (rows.take j)).toArray++Builtin.zeroCells z.cells k++Builtin.zeroCells z.cells (grownCap w (j+k) c E-(j+k))) E);have ag:OSl E it.size (.slice (some ⟨w.heap.size,0,none⟩) (j+k) (grownCap w (j+k) c E)) [(w.heap.size,.cells ((ZV (rows.take j)).toArray++Builtin.zeroCells z.cells k++Builtin.zeroCells z.cells (grownCap w (j+k) c E-(j+k))) E (0,0))] (rows.take j++g):=by
  rw[← hlen]at F V ⊢;refine OSl.own _ _ _ _ (C.append D) F V ?_ ?_
  ·simp only[Array.size_append,J2,size_zeroCells,v,hole];rw[← F4,← F4];congr 1;omega
  simp only[Array.toList_append];rw[← YU (C.append D),XJ,aa];exact List.take_left
 unfold Oper.does;have:(execOp a.eval ⟨some d,.call ⟨.builtin .append,#[x,y],#[t,Z]⟩,ty,pos,af,gd⟩).run P w=.ok (.value (.slice (some ⟨w.heap.size,0,none⟩) (j+k) (grownCap w (j+k) c E))) (w.drew.alloc (.cells ((ZV (rows.take j)).toArray++Builtin.zeroCells z.cells k++Builtin.zeroCells z.cells (grownCap w (j+k) c E-(j+k))) E)):=by
  simp only[execOp,resolve];have e1:#[x,y].map a.eval=#[.slice (some ⟨b,0,Option.none⟩) j c,.int .i64 (k:Int)]:=by simp[ha.ev hx,ha.ev hy]
  rw[e1];show(Result.ok _ w).andThen _=_;exact Wz L
 rw[this];exact⟨⟨M,_⟩,_,ao,ha.put hd _,hk _ _ _ g O ag⟩
theorem Zfm{v tR E sz y b j l c k C cb D ca:Nat}{hs:Hp}{rows:List Segs}{cur:Array Value}{T:TypeId}{w:World}(ht:Na P v=some (E,sz,y))(O:OSl E sz (.slice (some ⟨b,0,Option.none⟩) l c) hs rows)(hH:Rem hs H H0)(K:(j,.cells cur T (0,0))∈H0)(F:0<c * sz)(hw:St M H w):
 (Extern.SlicesOverlaps.overlaps #[v,v] #[tR] #[.slice (some ⟨j,0,Option.none⟩) D ca,.slice (some ⟨b,k,Option.none⟩) C cb]).run P w=.ok (.bool false) w:=by
 obtain⟨it,hu,B,rfl,rfl⟩:=Wq ht;obtain⟨L,rfl,_,V,h2,h3,R,U⟩:=O.inv;have g:=hw.perm hH.perm;have hb:=g.own b _ (C5 _ (.head _));have d:=g.own j _ (D0 _ K);have hne:j≠b:=fun e=>by
  subst e;have h:=g.nodup;rw[C6,H3]at h;exact h.2.2 j jQ j (G8 K) rfl
 refine Lib.run_overlaps_apart w v tR E hu it.size (fun w=>Th B) ⟨j,0,Option.none⟩ ⟨b,k,Option.none⟩ D ca C cb hne T E cur.size L.size ?_ ?_ jD ?_ ?_
 ·simp[World.shape?,d]
 ·simp[World.shape?,hb]
 ·simp[World.frozen?,d]
 simp[World.frozen?,d]
end
theorem Fs.foE{P:Program}{f:FuncId}{vs:List Value}{M:Mem}{R:Value→Prop}(h:Fs P f vs M R)(Hin:Hp):Fo P f vs M Hin (fun M' v=>M'=M∧R v):=fun H w hw =>
 (h (Hin++H) w hw).mono fun _ _ ⟨v,he,hs,d⟩=>⟨v,M,he,Mem.le.refl M,hs,rfl,d⟩
end Go.Esp
namespace Go.Esp
section
variable {P:Program} {n:Sh} {ops:Array Oper} {Q:Exit→Act→World→Prop} {rest:List Nat} {M M':Mem} {H H' H0:Hp} {e:Env} {J S:World→Prop} {A:As} {i:Nat}
  {dst:Option Tmp} {d:Tmp} {op:Op} {ty:TypeId} {pos:String} {af:Array Edge} {gd:Option (Nat×Bool)}
theorem Yal{c:Code}{g:Exit→Act→World→Prop}{d:World→Prop}(s:Nat){u v:Value}(hs:get e s=some u)(h:u=v)(hk:C P n c g d ((s,v)::e)):C P n c g d e:=fun a w ha hw=>hk a w (ha.more (h ▸ hs)) hw
theorem Zlz{c:Code}{g:Exit→Act→World→Prop}{d:World→Prop}(s:Nat){b:Bool}(hs:get e s=some (.bool b))(ht:b=true→C P n c g d ((s,.bool true)::e))(j:b=false→C P n c g d ((s,.bool false)::e)):C P n c g d e:=by
 cases b with
 | true=>exact Yal s hs rfl (ht rfl)
 | false=>exact Yal s hs rfl (j rfl)
end
end Go.Esp
namespace Go.Esp
section
variable {P:Program} {ops:Array Oper} {Q:Exit→Act→World→Prop} {M M':Mem} {H H' H0:Hp} {e:Env}
theorem Zrp{n:Sh}{rest:List Nat}{J:World→Prop}{i:Nat}{dst:Option Tmp}{ty:TypeId}{pos:String}{af:Array Edge}{gd:Option (Nat×Bool)}{f:FuncId}{g:Operand}{xs:List Operand}{j:Array TypeId}{vs caps:List Value}{Hin y:Hp}{R:Mem→Value→Hp→Prop}(hi:ops[i]?=some ⟨dst,.call ⟨.value g,xs.toArray,j⟩,ty,pos,af,gd⟩)(B:NE P (.call ⟨.value g,xs.toArray,j⟩)=.eff)(C:n.wrs.contains i=true)(T:want ops e gd=some true)
 (O:Ta P f=true) (D:ev e g=some (.func (.func f) #[] caps.toArray)) (hx:evs e xs=some vs) (K:Fh P f (vs++caps) M Hin R) (hH:Rem Hin H y)
 (L:∀ a v,Sat n e a→Sat n (NN dst v e) (a.put dst v))
 (hk:∀ v M' d,M.le M'→R M' v d→XD P n ops Q rest (St M' (d++y)) ⟨M',d++y⟩ (NN dst v e)):XD P n ops Q (i::rest) J ⟨M,H⟩ e:=by
 obtain⟨fn,h1,h2,h3⟩:=Ub O;refine DU hi B C T (fun a w ha hw=>Lj h1 h2 h3 (ha.ev D) zB ?_);exact(K y w (hw.perm hH.perm)).mono fun e' U ⟨v,M',d,he,hm,hs,F⟩=>⟨v,he,⟨M',d++y⟩,_,hs,L a v ha,hk v M' d hm F⟩
end
end Go.Esp
namespace Go.Esp
section
variable {P:Program} {ops:Array Oper} {Q:Exit→Act→World→Prop} {M M':Mem} {H H' H0:Hp} {e:Env}
theorem Zxx{n:Sh}{rest:List Nat}{J:World→Prop}{i:Nat}{dst:Option Tmp}{ty:TypeId}{pos:String}{af:Array Edge}{gd:Option (Nat×Bool)}{f:FuncId}{xs:List Operand}{B:Array TypeId}{vs:List Value}{Hin Hin2 H1 g:Hp}{R:Mem→Value→Hp→Prop}(hi:ops[i]?=some ⟨dst,.call ⟨.value (.func f),xs.toArray,B⟩,ty,pos,af,gd⟩)(y:n.wrs.contains i=true)(O:want ops e gd=some true)
 (L:Ta P f=true) (hx:evs e xs=some vs) (D:Fh P f vs M (Hin++Hin2) R) (hH:Rem Hin H H1) (j:Rem Hin2 H1 g)
 (F:∀ a v,Sat n e a→Sat n (NN dst v e) (a.put dst v))
 (hk:∀ v M' d,M.le M'→R M' v d→XD P n ops Q rest (St M' (d++g)) ⟨M',d++g⟩ (NN dst v e)):XD P n ops Q (i::rest) J ⟨M,H⟩ e:=by
 obtain⟨fn,h1,h2,h3⟩:=Ub L;have K:H.Perm ((Hin++Hin2)++g):=(hH.perm.trans (j.perm.append_left Hin)).trans (B5 _ _ _ ▸ I9 _);refine DU hi rfl y O (fun a w ha hw=>Rv h1 h2 h3 zB ?_);exact(D g w (hw.perm K)).mono fun e' T ⟨v,M',d,he,hm,hs,C⟩=>⟨v,he,⟨M',d++g⟩,_,hs,F a v ha,hk v M' d hm C⟩
theorem DW{n:Sh}{rest:List Nat}{J:World→Prop}{i:Nat}{dst:Option Tmp}{ty:TypeId}{pos:String}{af:Array Edge}{gd:Option (Nat×Bool)}{f:FuncId}{xs:List Operand}{y:Array TypeId}{vs:List Value}{Hin:Hp}(g:Hp){R:Mem→Value→Hp→Prop}(hi:ops[i]?=some ⟨dst,.call ⟨.value (.func f),xs.toArray,y⟩,ty,pos,af,gd⟩)(j:n.wrs.contains i=true)(K:want ops e gd=some true)
 (F:Ta P f=true) (hx:evs e xs=some vs) (C:Fh P f vs M Hin R) (hH:∀ x,cnt x (Hin++g)≤cnt x H)
 (D:∀ a v,Sat n e a→Sat n (NN dst v e) (a.put dst v))
 (hk:∀ v M' d,M.le M'→R M' v d→XD P n ops Q rest (St M' (d++g)) ⟨M',d++g⟩ (NN dst v e)):XD P n ops Q (i::rest) J ⟨M,H⟩ e:=by
 obtain⟨fn,h1,h2,h3⟩:=Ub F;refine DU hi rfl j K (fun a w ha hw=>Rv h1 h2 h3 zB ?_);exact(C g w (St.cnt hw hH)).mono fun e' L ⟨v,M',d,he,hm,hs,B⟩=>⟨v,he,⟨M',d++g⟩,_,hs,D a v ha,hk v M' d hm B⟩
end
end Go.Esp
namespace Go.Esp
section
variable {P:Program} {n:Sh} {ops:Array Oper} {Q:Exit→Act→World→Prop} {rest:List Nat} {M M':Mem} {H H' H0:Hp} {e:Env} {J:World→Prop} {i:Nat} {ty:TypeId} {pos:String} {af:Array Edge} {gd:Option (Nat×Bool)}
theorem AX:∀(r:Segs),r.all (fun s=>Nat.ble 1 s.len)=true→Segs.drop r (Segs.len r)=some []
 | [],_=>rfl
 | s::r,h=>by
  simp only[List.all_cons,F1]at h;have h1:=D1 h.1;obtain⟨k,hk⟩:∃ k,s.len=k+1:=⟨s.len-1,by omega⟩
  have h2:=AX r h.2;have e:Segs.len (s::r)=k+Segs.len r+1:=by simp only[Segs.len];omega
  have hb:Nat.ble s.len (k+Segs.len r+1)=true:=Nat.ble_eq_true_of_le jD;rw[e];unfold Segs.drop;rw[hb,hk];show Segs.drop r (k+Segs.len r+1-(k+1))=some [];rw[show k+Segs.len r+1-(k+1)=Segs.len r by omega];exact h2
theorem Sm{r t:Segs}{m:Nat}(h:r.all (fun s=>Nat.ble 1 s.len)=true)(d:Segs.len r=m)(ht:Segs.len t=m):Segs.put r 0 t=some t:=by
 have e:Segs.put r 0 t=match Segs.drop r (Segs.len t)with
  | some u=>some (t++u)
  | none=>none:=by cases r <;> rfl
 rw[e,ht,← d,AX r h];simp
theorem Bf:imO (.map #[] 0) []:=⟨#[],0,rfl,rfl⟩
theorem Ud{t k el:TypeId}{x y u:Operand}{b:Nat}{z:Int}{v:Value}{o:Obj}{l:IM}(hi:ops[i]?=some ⟨none,.insert t x y u,ty,pos,af,gd⟩)(L:want ops e gd=some true)
 (hx:ev e x=some (.map (some b))) (F:ev e y=some (.int .i64 z)) (hu:ev e u=some v) (ht:RI P t=some (k,el)) (K:imO o l) (hb:(b,o)∈H)
 (hk:∀ o',imO o' (VS l z v)→∃ d,Upd b o o' H d∧XD P n ops Q rest (St M d) ⟨M,d⟩ e) (g:n.wrs.contains i=false:=by rfl):XD P n ops Q (i::rest) J ⟨M,H⟩ e:=by
 refine SK hi rfl L (fun a w ha hw=>?_) g;have hb:=hw.own b o hb;obtain⟨o',C,j⟩:=Nh (P:=P) (z:=z) (v:=v) ht hb K;unfold Oper.does;have:(execOp a.eval ⟨none,.insert t x y u,ty,pos,af,gd⟩).run P w=.ok .skip { w with heap:=w.heap.setIfInBounds b o' }:=by
  simp only[execOp,ha.ev hx,ha.ev F,ha.ev hu];rw[ZY C];rfl
 rw[this];obtain⟨d,hH,hk⟩:=hk o' j;exact⟨⟨M,d⟩,e,St.upd hw hH (RQ hb) (fun c D q B=>by rw[SS D];exact B) (SameIO.refl _),ha,hk⟩
end
end Go.Esp
namespace Go.Esp
section
variable {P:Program} {n:Sh} {ops:Array Oper} {Q:Exit→Act→World→Prop} {rest:List Nat} {M M':Mem} {H H' H0:Hp} {e:Env} {J S:World→Prop} {A:As} {i:Nat}
  {dst:Option Tmp} {d:Tmp} {op:Op} {ty:TypeId} {pos:String} {af:Array Edge} {gd:Option (Nat×Bool)}
theorem XX{t:TypeId}{x y:Operand}{b:Nat}{agg:Bool}{r q:Segs}{T:TypeId}{v:Value}(B:lay P t=some (agg,78))(hk:XD P n ops Q rest (St M H') ⟨M,H'⟩ e)(hi:ops[i]?=some ⟨none,.store t x y,ty,pos,af,gd⟩:=by exact rfl)(K:want ops e gd=some true:=by exact rfl)(hx:ev e x=some (.pointer (some ⟨b,0,none⟩)):=by exact rfl)(C:ev e y=some v:=by exact rfl)(D:Parts v q:=by constructor)(F:flat q:=by(try simp only[cat,B4,B6,E0]);(repeat(first|exact YS|refine Xg ?_|(refine Yi ?_ ?_;rfl)));done)(hu:Upd b (Yp r T) (Yp q T) H H':=by repeat first|exact Upd.head|apply Upd.tail|apply Upd.over)(g:Segs.len q=78:=by simp only[Zr.segs,ZK.segs,ZM.segs,ZI.segs,YD.segs,ZW.segs,XF.segs,cat,List.append_eq,B4,B6,E0,Segs.len,Seg.len,ZU])(ha:r.all (fun s=>Nat.ble 1 s.len)=true:=by exact rfl)(j:Segs.len r=78:=by simp only[Zr.segs,ZK.segs,ZM.segs,ZI.segs,YD.segs,ZW.segs,XF.segs,cat,List.append_eq,B4,B6,E0,Segs.len,Seg.len,ZU])(d:n.wrs.contains i=false:=by rfl):XD P n ops Q (i::rest) J ⟨M,H⟩ e :=
 UE hi K hx C D F hu B g (Sm ha j g) hk d
end
end Go.Esp
