/-
  RingSettles: what is behind events (plain part).
-/
import Derived.Test.YtglnjnacodgmaaaGreatDoorPX6
import Derived.KernelRfl
set_option linter.unusedSimpArgs false
set_option linter.unusedVariables false
set_option linter.unnecessarySimpa false
set_option maxRecDepth 100000
open BitVec renaming eq_of_toNat_eq → J5
open Bool renaming and_eq_true → F1,or_eq_false_iff → Xjp
open Decidable renaming byContradiction → C2,not_not → I0
open List renaming append_assoc → B5,append_nil → E0,cons_append → B4,countP_cons_of_neg → Xjn,countP_true → Xjr,drop_eq_getElem_cons → G4,ext_getElem → J4,filter_append → Xjh,filter_cons_of_neg → Xjk,filter_cons_of_pos → Xjj,filter_eq_self → Xjg,foldl_cons → G6,getD_eq_getElem?_getD → D7,getElem?_eq_getElem → A7,getElem?_map → E6,getElem_map → I7,getElem_mem → C1,getElem_of_mem → E2,length_append → B3,length_cons → C8,length_drop → F3,length_filter_le → Xjo,length_map → A8,length_nil → D5,length_singleton → I6,length_take → D8,map_append → C6,map_cons → D3,map_map → I2,mem_append → B8,mem_append_left → C5,mem_append_right → D0,mem_cons → B7,mem_cons_of_mem → B2,mem_cons_self → B1,mem_filter → F6,mem_map → C0,mem_map_of_mem → G8,mem_of_mem_take → F9,mem_singleton → B0,nil_append → B6,nodup_append → H3,nodup_cons → D9,nodup_nil → J1,not_mem_nil → Xji,pairwise_append → Xjm,pairwise_cons → D6,pairwise_iff_getElem → E1,range' → Xjl,take_append_drop → F0,take_length → G0,take_of_length_le → H5,take_take → I3
open List.Pairwise renaming nil → J8
open Nat renaming add_assoc → Xjq,le_refl → B9,le_trans → H7,lt_or_ge → C7,mod_eq_of_lt → E3,mod_lt → G5,not_lt_zero → Xjs,zero_add → F2,zero_le → C3
open Option.some renaming inj → A5
namespace Go.Esp
section
theorem Xbr{s p:Zr}{k:Nat}:∀{n j:Nat},WA s p k j n<j+n→Gh s p (WA s p k j n)=false
 | 0,j,h=>by unfold WA at h;omega
 | n+1,j,h=>by
  unfold WA at h ⊢;split at h
  ·rename_i f;rw[A6 f];exact f.2
  rename_i f;rw[A4 f];exact Xbr jD
end
section
theorem Xik{α:Type}{l:List α}{k j i:Nat}{f:α}(hk:k≤j)(hj:j≤l.length)(hi:i<l.length):(ptW l k j f)[i]?=some (if k≤i∧i<j then f else l[i]):=by
 unfold ptW;grind
end
section
theorem Xeg{l:List Zr}{i:Nat}(hi:i<l.length)(h:1<l.length):(Wf l i).getLastD Yj=l[(i+l.length-1) % l.length]'(G5 _ (by omega)):=by
 have f:=QW hi;have h1:=Ex (k:=l.length-2) hi jD;grind
end
section
theorem Xfx{i n:Nat}(h:i<n):(0<i∧(i+n-1) % n=i-1)∨(i=0∧(i+n-1) % n=n-1):=by
 rcases Nat.eq_zero_or_pos i with h1|h1
 ·simp_all
 refine .inl ⟨h1,?_⟩;rw[show i+n-1=(i-1)+n by omega,Nat.add_mod_right];exact E3 jD
end
section
variable {l:List Zr}
theorem Xgy(h:Uv l){i j k:Nat}(hi:i<l.length)(hj:j<l.length)(A:j≠i)(hk:k<l.length)(f:(i+1) % l.length=k):D l[i].id l[k].id≤D l[i].id l[j].id:=by
 have B:=Ux l[i].id l[k].id;have v:=Ux l[i].id l[j].id;simp only[Js]at B v;have C:=AO l i;have E:=AO l j;have G:=AO l k;rcases EL hi with⟨h1,h2⟩|⟨h1,h2⟩
 ·rw[h2]at f;subst f;have m1:=AN h h1 (Nat.lt_succ_self i);rcases Nat.lt_or_gt_of_ne A with h3|h3
  ·have m2:=AN h hi h3;omega
  have m2:=AP h hj (show i+1≤j by omega);omega
 rw[h2]at f;subst f;have h3:j<i:=by omega
 have m1:=AN h hi h3;have m2:=AP h hj (C3 j);omega
end
theorem Xar{p:Int→Bool}{K L:List Int}(f:K.Nodup)(h:∀ x∈K,p x=true→x∈L):K.countP p≤L.countP p:=by
 rw[List.countP_eq_length_filter,List.countP_eq_length_filter];refine IJ (f.filter _) fun x hx=>?_;grind
theorem Xds{D:Int}:∀{K:List Int},K.Pairwise (·<·)→D∈K→K[K.countP fun x=>decide (x<D)]?=some D∧K.length=(K.countP fun x=>decide (x<D))+1+K.countP fun x=>decide (D<x)
 | a::K,h,f=>by
  have h2:=D6.1 h;rcases B7.1 f with rfl|f
  ·have h0:K.countP (fun x=>decide (x<D))=0:=List.countP_eq_zero.2 fun x hx=>by have:=h2.1 x hx;simp;omega
   have h1:K.countP (fun x=>decide (D<x))=K.length:=List.countP_eq_length.2 fun x hx=>by have:=h2.1 x hx;simpa using this
   rw[Xjn jQ,Xjn jQ,h0,h1];exact⟨rfl,by rw[C8];omega⟩
  have h9:=Xds h2.2 f;have ha:=h2.1 D f;rw[List.countP_cons_of_pos zU,Xjn jU];refine⟨?_,by rw[C8];omega⟩;rw[List.getElem?_cons_succ];exact h9.1
theorem Xgq{D:Int}{K:Nat→List Int}{m:Nat}(A:∀ j,j<4→(K j).Pairwise (·<·))(C:∀ j,j<4→D∈K j)(E:∀ j,j<4→(K j).length≤4)
 (v:∀ j,j<4→(K j)[(12 * m+j) % (K j).length]?≠some D):∃ j,j<3∧∃ x∈K j,x<D∧x∉K (j+1):=by
 have ha:∀ j,j<4→(K j).countP (fun x=>decide (x<D))≠j∧(K j).countP (fun x=>decide (x<D))≤3:=fun j hj=>by
  obtain⟨h1,h2⟩:=Xds (A j hj) (C j hj);have h3:=E j hj;refine⟨fun e=>v j hj ?_,by omega⟩;rw[e]at h1 h2;have B:(12 * m+j) % (K j).length=j:=by
   obtain⟨n,f⟩:∃ n,(K j).length=n:=⟨_,rfl⟩
   rw[f]at h2 h3 ⊢;have:n=1∨n=2∨n=3∨n=4:=by omega
   rcases this with rfl|rfl|rfl|rfl <;> omega
  rw[B];exact h1
 have hs:∃ j,j<3∧j<(K j).countP (fun x=>decide (x<D))∧(K (j+1)).countP (fun x=>decide (x<D))<j+1:=by
  have h0:=ha 0 jD;have h1:=ha 1 jD;have h2:=ha 2 jD;have h3:=ha 3 jD;by_cases c1:(K 1).countP (fun x=>decide (x<D))<1
  ·exact⟨0,by omega,by omega,c1⟩
  by_cases c2:(K 2).countP (fun x=>decide (x<D))<2
  ·exact⟨1,by omega,by omega,c2⟩
  exact⟨2,by omega,by omega,(by show(K 3).countP (fun x=>decide (x<D))<3;omega)⟩
 obtain⟨j,h1,h2,h3⟩:=hs;refine⟨j,h1,?_⟩;apply C2;intro f;have:(K j).countP (fun x=>decide (x<D))≤(K (j+1)).countP (fun x=>decide (x<D)):=Xar ((A j jD).imp fun h=>by omega) fun x hx G=>by
  apply C2;intro h9;exact f ⟨x,hx,by simpa using G,h9⟩
 omega
theorem Xfv{D:Int}{K:Nat→List Int}{m:Nat}(A:∀ j,j<4→(K j).Pairwise (·<·))(C:∀ j,j<4→D∈K j)(E:∀ j,j<4→(K j).length≤4)
 (v:∀ j,j<4→(K j)[(12 * m+8+j) % (K j).length]?≠some D):∃ j,j<3∧∃ x∈K (j+1),D<x∧x∉K j:=by
 have ha:∀ j,j<4→(K j).countP (fun x=>decide (D<x))≠3-j∧(K j).countP (fun x=>decide (D<x))≤3:=fun j hj=>by
  obtain⟨h1,h2⟩:=Xds (A j hj) (C j hj);have h3:=E j hj;refine⟨fun e=>v j hj ?_,by omega⟩;have B:(12 * m+8+j) % (K j).length=(K j).countP (fun x=>decide (x<D)):=by
   obtain⟨n,f⟩:∃ n,(K j).length=n:=⟨_,rfl⟩
   obtain⟨q,H⟩:∃ q,(K j).countP (fun x=>decide (x<D))=q:=⟨_,rfl⟩
   rw[f]at h2 h3 ⊢;have:n=1∨n=2∨n=3∨n=4:=by omega
   rcases this with rfl|rfl|rfl|rfl <;> omega
  rw[B];exact h1
 have hs:∃ j,j<3∧(K j).countP (fun x=>decide (D<x))<3-j∧3-(j+1)<(K (j+1)).countP (fun x=>decide (D<x)):=by
  have h0:=ha 0 jD;have h1:=ha 1 jD;have h2:=ha 2 jD;have h3:=ha 3 jD;by_cases c1:2<(K 1).countP (fun x=>decide (D<x))
  ·exact⟨0,by omega,by omega,by omega⟩
  by_cases c2:1<(K 2).countP (fun x=>decide (D<x))
  ·exact⟨1,by omega,by omega,by omega⟩
  exact⟨2,by omega,by omega,(by show 3-(2+1)<(K 3).countP (fun x=>decide (D<x));omega)⟩
 obtain⟨j,h1,h2,h3⟩:=hs;refine⟨j,h1,?_⟩;apply C2;intro f;have:(K (j+1)).countP (fun x=>decide (D<x))≤(K j).countP (fun x=>decide (D<x)):=Xar ((A (j+1) jD).imp fun h=>by omega) fun x hx G=>by
  apply C2;intro h9;exact f ⟨x,hx,by simpa using G,h9⟩
 omega
theorem Xgp{D y:Int}{K:Nat→List Int}{t0:Nat}(B:∀ j,j<24→(K j).Pairwise (·<·))(v:∀ j,j<24→D∈K j)(A:∀ j,j<24→(K j).length≤4)
 (T:∀ j,j<23→∀ x,x≠y→(x∈K j↔x∈K (j+1))):∃ j,j<24∧(K j)[(t0+j) % (K j).length]?=some D:=by
 apply C2;intro C;have f:∀ j,j<24→(K j)[(t0+j) % (K j).length]?≠some D:=fun j hj e=>C ⟨j,hj,e⟩;obtain⟨s,m,hs,hm⟩:∃ s m,s≤11∧t0+s=12 * m+8:=by
  by_cases h:t0 % 12≤8
  ·exact⟨8-t0 % 12,t0 / 12,by omega,by omega⟩
  exact⟨20-t0 % 12,t0 / 12+1,by omega,by omega⟩
 obtain⟨I,E,L,h1,h2,h3⟩:=Xfv (D:=D) (K:=fun j=>K (s+j)) (m:=m) (fun j hj=>B _ jD) (fun j hj=>v _ jD) (fun j hj=>A _ jD) fun j hj=>by
  have:=f (s+j) jD
  rwa [show t0+(s+j)=12 * m+8+j by omega]at this
 obtain⟨O,G,H,g1,g2,g3⟩:=Xgq (D:=D) (K:=fun j=>K (s+4+j)) (m:=m+1) (fun j hj=>B _ jD) (fun j hj=>v _ jD) (fun j hj=>A _ jD) fun j hj=>by
  have:=f (s+4+j) jD
  rwa [show t0+(s+4+j)=12 * (m+1)+j by omega]at this
 grind
def lp(l:List Zr)(i:Nat):Zr:=l.getD i Yj
theorem FJ{l:List Zr}{i:Nat}(h:i<l.length):lp l i=l[i]:=by
 unfold lp;rw[D7,A7 h];rfl
def nx(l:List Zr)(i:Nat):Nat:=(i+1) % l.length
def pv(l:List Zr)(i:Nat):Nat:=(i+l.length-1) % l.length
def Gap(l:List Zr)(i:Nat)(p:Zr):Prop:=Uh (lp l i).id p.id (lp l (nx l i)).id
instance (l:List Zr)(i:Nat)(p:Zr):Decidable (Gap l i p):=by unfold Gap;exact inferInstance
section
variable {pn:Int→Zr} {were:List Int} {ns:List (Int×Nd)} {a b c x:Int} {n m:Nd} {l:List Zr} {i k:Nat} {t:Tb} {p:Zr}
theorem FI(h:i<l.length):nx l i<l.length:=G5 _ (by omega)
theorem FR(h:i<l.length):pv l i<l.length:=G5 _ (by omega)
theorem Xac(h:i<l.length):nx l (pv l i)=i:=by
 unfold nx pv;rcases Xfx h with⟨h1,h2⟩|⟨h1,h2⟩ <;> rw[h2]
 ·rw[show i-1+1=i by omega,E3 h]
 rw[show l.length-1+1=l.length by omega,Nat.mod_self,h1]
theorem FQ(h:i<l.length):pv l (nx l i)=i:=by
 unfold nx pv;rcases EL h with⟨h1,h2⟩|⟨h1,h2⟩ <;> rw[h2]
 ·rw[show i+1+l.length-1=i+l.length by omega,Nat.add_mod_right,E3 h]
 rw[F2,E3 jD];omega
theorem FV(h:i<l.length)(h2:2≤l.length):nx l i≠i:=by
 unfold nx;rcases EL h with⟨h1,h3⟩|⟨h1,h3⟩ <;> rw[h3] <;> omega
theorem FW(f:Uv l)(hi:i<l.length)(hk:k<l.length)(v:k≠i):Ys (lp l i) (lp l k):=by
 rw[FJ hi,FJ hk];exact Rc f hi hk v
theorem FU(v:Uv l)(h2:2≤l.length)(hi:i<l.length)(hk:k<l.length):¬Gap l i (lp l k):=by
 unfold Gap;have f:=FI hi;rw[FJ hi,FJ hk,FJ f,Zgn];rintro⟨h1,h3⟩;by_cases e:k=i
 ·grind
 have A:=Xgy v hi hk e f rfl;rcases h3 with h3|h3
 ·exact Br v hi f (FV hi h2).symm (J5 h3)
 omega
structure Crc (pn:Int→Zr) (were:List Int) (c:Int) (l:List Zr) (ns:List (Int×Nd)):Prop where
  wn:WN pn were ns
  kd:AllKind c ns
  cc:2≤c∧c≤8
  circ:Xk l
  two:2≤l.length
  live:∀ z,(∃ m,YC z ns=some m)↔∃ i,i<l.length∧(lp l i).addr=z
  me:∀ i,i<l.length→pn (lp l i).addr=lp l i
  j:Joined ns
  d:AllDead ns
theorem Crc.dead(h:Crc pn were c l ns)(hx:YC x ns=none)(hi:i<l.length):(lp l i).addr≠x:=fun e=>by
 obtain⟨m,hm⟩:=(h.live x).2 ⟨i,hi,e⟩;rw[hx]at hm;cases hm
theorem Crc.self(h:Crc pn were c l ns)(hi:i<l.length)(hm:YC (lp l i).addr ns=some m):m.table.self=lp l i:=by
 rw[(h.wn.get hm).2.1,h.me i hi]
theorem Crc.inj(h:Crc pn were c l ns)(hi:i<l.length)(hk:k<l.length)(e:(lp l i).addr=(lp l k).addr):i=k :=
 C2 fun q=>On h.circ.2 hi hk q (by rw[← FJ hi,← FJ hk];exact e)
theorem Crc.same{ns1:List (Int×Nd)}(h:Crc pn were c l ns)(hw:WN pn were ns1)(hk:ns1.map (·.1)=ns.map (·.1))(v:AllKind c ns1)(hj:Joined ns1)(f:AllDead ns1):Crc pn were c l ns1 :=
 ⟨hw,v,h.cc,h.circ,h.two,fun z=>⟨fun⟨m,hm⟩=>(h.live z).1 (Xc hk hm),fun q=>Ep hk ((h.live z).2 q)⟩,h.me,hj,f⟩
theorem AllKind.t1(hw:WN pn were ns)(h:AllKind c ns):AllKind c (T1 x ns):=fun z m hm=>by
 obtain⟨m0,f⟩:=Xc (hw.t1 x).2 hm;by_cases e:z=x
 ·subst e;have g1:=RK hw f;rw[hm]at g1;rw[A5 g1];by_cases hj:m0.joined=true
  ·rw[A6 hj];exact Zpo (h z m0 f) hj
  rw[A4 hj];exact Zhw (h z m0 f) zM
 obtain⟨m',h1,h2⟩:=BH hw e f;rw[hm]at h1;rw[A5 h1,h2];exact h z m0 f
theorem AllKind.t3(hw:WN pn were ns)(h:AllKind c ns):AllKind c (T3 x ns):=fun z m hm=>by
 obtain⟨m0,f⟩:=Xc (hw.t3 x).2 hm;by_cases e:z=x
 ·subst e;rw[QK hw f]at hm;rw[← A5 hm];exact Zdl _ (h z m0 f)
 rw[GT hw e]at hm;exact h z m hm
theorem AllKind.t2(hw:WN pn were ns)(h:AllKind c ns):AllKind c (T2 x ns):=fun z m hm=>by
 obtain⟨m0,f⟩:=Xc (hw.t2 x).2 hm;by_cases e:z=x
 ·subst e;rw[RA hw f]at hm;rw[← A5 hm];exact Zpa (h z m0 f)
 rw[Ow hw e]at hm;exact h z m hm
theorem Crc.t1(h:Crc pn were c l ns):Crc pn were c l (T1 x ns):=h.same (h.wn.t1 x).1 (h.wn.t1 x).2 (h.kd.t1 h.wn) (h.j.kept (PI h.wn) (h.wn.t1 x).2) (h.d.t1 h.wn h.j)
theorem Crc.t3(h:Crc pn were c l ns):Crc pn were c l (T3 x ns):=h.same (h.wn.t3 x).1 (h.wn.t3 x).2 (h.kd.t3 h.wn) (h.j.kept (NK h.wn) (h.wn.t3 x).2) (h.d.t3 h.wn)
theorem Crc.t2(h:Crc pn were c l ns):Crc pn were c l (T2 x ns):=h.same (h.wn.t2 x).1 (h.wn.t2 x).2 (h.kd.t2 h.wn) (h.j.kept (NL h.wn) (h.wn.t2 x).2) (h.d.t2 h.wn h.j)
def Xcz(l:List Zr)(i:Nat)(p:Zr):Prop:=p=Yj∨p=lp l (pv l i)∨Gap l (pv l i) p
def Xby(l:List Zr)(i:Nat)(s:List Zr):Prop:=∃ ds tl,s=ds++lp l (nx l i)::tl∧∀ p∈ds,Gap l i p
def FP(l:List Zr)(i:Nat)(t:Tb):Prop:=Xcz l i t.pred∧Xby l i t.succ
def Cy(l:List Zr)(ns:List (Int×Nd)):Prop:=∀ i m,i<l.length→YC (lp l i).addr ns=some m→FP l i m.table
theorem Xad(t:Tb)(x:Int):(Xd t x).pred=if t.pred.addr=x then Yj else t.pred:=rfl
theorem Xbv(t:Tb)(x:Int):(Xd t x).succ=t.succ.filter fun p=>p.addr≠x:=rfl
theorem Xby.forget{s:List Zr}(h:Xby l i s)(hx:(lp l (nx l i)).addr≠x):Xby l i (s.filter fun p=>p.addr≠x):=by
 obtain⟨ds,tl,e,v⟩:=h;refine⟨ds.filter (fun p=>p.addr≠x),tl.filter (fun p=>p.addr≠x),?_,fun p f=>v p (F6.1 f).1⟩;grind
theorem FP.forget(h:FP l i t)(hx:(lp l (nx l i)).addr≠x):FP l i (Xd t x):=by
 refine⟨?_,h.2.forget hx⟩;rw[Xad];split
 ·exact .inl rfl
 exact h.1
theorem FM{s:Zr}{r:Int}:∀(rest acc:List Zr),∃ t,Wk s r acc rest=acc++t
 | [],acc=>⟨[],(E0 acc).symm⟩
 | p::rest,acc=>by
  unfold Wk;split
  ·exact⟨[],(E0 acc).symm⟩
  split
  ·exact FM rest acc
  obtain⟨t,e⟩:=FM (s:=s) (r:=r) rest (acc++[p]);exact⟨p::t,by rw[e,B5];rfl⟩
theorem Xcn(h:Crc pn were c l ns)(hm:YC x ns=some m)(f:FP l i m.table)(hi:i<l.length):FP l i (unping m).table:=by
 unfold unping;split
 ·exact f.forget (h.dead (h.d x m hm).2.1 (FI hi))
 exact f
theorem Xew(h:Crc pn were c l ns)(hm:YC x ns=some m)(f:FP l i m.table)(hi:i<l.length):FP l i (unfind m).table:=by
 unfold unfind;split
 ·exact f
 exact f.forget (h.dead (h.d x m hm).2.2 (FI hi))
theorem FY(h:Crc pn were c l ns)(hm:YC x ns=some m)(f:FP l i m.table)(hi:i<l.length):FP l i (unask m).table:=by
 unfold unask;split
 ·exact f.forget (h.dead (h.d x m hm).1 (FI hi))
 exact f
theorem Xak{s:List Zr}(h:Xby l i s):s≠[]:=by
 obtain⟨ds,tl,e,-⟩:=h;simp_all
theorem Cy.t3(h:Crc pn were c l ns)(v:Cy l ns):Cy l (T3 x ns):=fun i m hi hm=>by
 obtain⟨m0,f⟩:=Xc (h.wn.t3 x).2 hm;by_cases e:(lp l i).addr=x
 ·subst e;rw[QK h.wn f]at hm;rw[← A5 hm,JI];exact Xcn h f (v i m0 hi f) hi
 rw[GT h.wn e]at hm;exact v i m hi hm
theorem Cy.t2(h:Crc pn were c l ns)(v:Cy l ns):Cy l (T2 x ns):=fun i m hi hm=>by
 obtain⟨m0,f⟩:=Xc (h.wn.t2 x).2 hm;by_cases e:(lp l i).addr=x
 ·subst e;rw[RA h.wn f]at hm;rw[← A5 hm];have hu:=Xew h f (v i m0 hi f) hi;have hs:=Zjg (ns:=ns) (h.j _ m0 f);have A:=Zoz ns m0;refine⟨?_,by rw[hs];exact hu.2⟩;rcases A with e|e <;> rw[e]
  ·exact(v i m0 hi f).1
  exact .inl rfl
 rw[Ow h.wn e]at hm;exact v i m hi hm
inductive Xet (l:List Zr) (i:Nat) (n m:Nd) (ns:List (Int×Nd)):Prop where
  | waits (h1:m.askTo=(Yv (unask n).table).addr) (h2:YC m.askTo ns=none) (h3:m.table=(unask n).table) (h4:Gap l i (Yv (unask n).table)) (h6:SJ n ns=none)
  | told (y:Nd) (t:List Zr) (h1:YC (lp l (nx l i)).addr ns=some y) (h2:m.askTo=-1) (hf:m.table.fingers=(unask n).table.fingers) (hp:m.table.pred=(unask n).table.pred)
      (h3:(Gap l i y.table.pred∧y.table.pred≠Yj∧m.table.succ=Wk (lp l i) n.copies [y.table.pred] (lp l (nx l i)::y.table.succ))∨(¬(y.table.pred≠Yj∧Gap l i y.table.pred)∧m.table.succ=Wk (lp l i) n.copies [lp l (nx l i)] y.table.succ))
      (h4:m.table.succ=(if Gap l i y.table.pred∧y.table.pred≠Yj then[y.table.pred]else[])++lp l (nx l i)::t) (h5:Yv (unask n).table=lp l (nx l i)) (h6:SJ n ns=some (Yv (Rl n ns).table).addr)
theorem FO(h:Crc pn were c l ns)(hJ:Cy l ns)(hi:i<l.length)(I:YC (lp l i).addr ns=some n):Xet l i n (Rl n ns) ns:=by
 have hO:=FY h I (hJ i n hi I) hi;have V:=LY (h.wn.get I).1 (h.wn.get I).2.2;have H:=h.self hi I;have hne:=Xak hO.2;have hr:ready n=unask n:=by
  unfold ready;rw[A4 fun q=>hne q.1]
 obtain⟨ds,tl,es,L⟩:=hO.2;have E:∀ y,Vg ns (Yv (unask n).table).addr=some y→SJ n ns=some (Yv (Rl n ns).table).addr:=fun y B=>by
  unfold SJ;rw[hr,A4 hne,B]
 have ho:Ys (lp l i) (lp l (nx l i)):=FW h.circ.2 hi (FI hi) (FV hi h.two);unfold Rl;rw[hr,A4 hne];cases ds with
 | cons d ds =>
  have C:Yv (unask n).table=d:=by unfold Yv;rw[es];rfl
  have G:YC d.addr ns=none:=by
   cases hq:YC d.addr ns with
   | none=>rfl
   | some q =>
    obtain⟨k,hk,ek⟩:=(h.live d.addr).1 ⟨q,hq⟩;have hd:d=lp l k:=by
     have hG:=V.2.2.2.2.1 d (by rw[es];exact B1);rw[AJ h.wn hG,← ek,h.me k hk]
    exact absurd (L d B1) (by rw[hd];exact FU h.circ.2 h.two hi hk)
  have A:Vg ns d.addr=none:=by unfold Vg;rw[G]
  rw[C,A];exact .waits (by rw[C];rfl) G rfl (by rw[C];exact L d B1) (by unfold SJ;rw[hr,A4 hne,C,A])
 | nil =>
  have C:Yv (unask n).table=lp l (nx l i):=by unfold Yv;rw[es];rfl
  obtain⟨y,B⟩:=(h.live (lp l (nx l i)).addr).2 ⟨_,FI hi,rfl⟩;have O:=h.self (FI hi) B;have A:Vg ns (lp l (nx l i)).addr=some y:=by unfold Vg;rw[B];simp[h.j _ y B]
  have E:=E y (by rw[C];exact A);rw[C,A];have f:(unask n).table.self=lp l i:=V.2.1.trans H;have hm:Ui { SO (unask n) (lp l (nx l i)).addr with askTo:=-1 }:=TP (q:=(SO (unask n) (lp l (nx l i)).addr).req) (r:=(SO (unask n) (lp l (nx l i)).addr).askReq) (TP V.1 (by rw[f];exact QG ho.1 ho.2.1)) (VP V.1.1.1);have K:(unask n).copies=n.copies:=(Zmh n).1;have ah:2≤n.copies:=by rw[(h.kd _ n I).1];exact h.cc.1
  have T:XO { SO (unask n) (lp l (nx l i)).addr with askTo:=-1 } (lp l (nx l i)) y.table.succ={ { SO (unask n) (lp l (nx l i)).addr with askTo:=-1 }with table:={ (unask n).table with succ:=Wk (lp l i) n.copies [lp l (nx l i)] y.table.succ } }:=by
   rw[OX hm (by show Ys (unask n).table.self _;rw[f];exact ho)];show({ { SO (unask n) (lp l (nx l i)).addr with askTo:=-1 }with table:={ (unask n).table with succ:=Wk (unask n).table.self (unask n).copies [lp l (nx l i)] y.table.succ } }:Nd)=_;rw[f,K]
  obtain⟨t1,U⟩:=FM (s:=lp l i) (r:=n.copies) y.table.succ [lp l (nx l i)];have aa:(tells y (nxR (unask n).req)).frm=lp l (nx l i):=O;show Xet l i n (TU (SO (unask n) (lp l (nx l i)).addr) (tells y (nxR (unask n).req))) ns;unfold TU;rw[aa];show Xet l i n (if TH (XO { SO (unask n) (lp l (nx l i)).addr with askTo:=-1 } (lp l (nx l i)) y.table.succ).table y.table.pred then XO (XO { SO (unask n) (lp l (nx l i)).addr with askTo:=-1 } (lp l (nx l i)) y.table.succ) y.table.pred (lp l (nx l i)::y.table.succ)else XO { SO (unask n) (lp l (nx l i)).addr with askTo:=-1 } (lp l (nx l i)) y.table.succ) ns;have v:TH (XO { SO (unask n) (lp l (nx l i)).addr with askTo:=-1 } (lp l (nx l i)) y.table.succ).table y.table.pred↔(Gap l i y.table.pred∧y.table.pred≠Yj):=by
   rw[T];unfold TH;have ad:Yv { (unask n).table with succ:=Wk (lp l i) n.copies [lp l (nx l i)] y.table.succ }=lp l (nx l i):=by
    rw[U];rfl
   rw[ad,f];constructor
   ·exact fun q=>⟨q.2,QA q.1⟩
   rintro⟨g1,g2⟩;refine⟨⟨?_,fun e=>?_,fun e=>?_⟩,g1⟩
   ·rcases(h.wn.get B).1.1.2.1 with e|e
    ·exact absurd e g2
    exact e.1
   ·have hG:=(h.wn.get B).2.2.2.1 g2;have e2:y.table.pred=lp l i:=by rw[AJ h.wn hG,e,h.me i hi]
    rw[e2]at g1;exact FU h.circ.2 h.two hi hi g1
   unfold Gap Uh at g1;exact g1.1 e
  by_cases hcl:TH (XO { SO (unask n) (lp l (nx l i)).addr with askTo:=-1 } (lp l (nx l i)) y.table.succ).table y.table.pred
  ·rw[A6 hcl];have G:=v.1 hcl;have ab:Ys (lp l i) y.table.pred:=by
    have:=hcl.1;rw[T]at this;rw[← f];exact this
   have af:Ui (XO { SO (unask n) (lp l (nx l i)).addr with askTo:=-1 } (lp l (nx l i)) y.table.succ):=(Pu hm).1;rw[OX af (by rw[T];show Ys (unask n).table.self _;rw[f];exact ab),T];have ag:¬PQ [y.table.pred] (lp l (nx l i)).addr:=fun q=>by
    have q:(lp l (nx l i)).addr=y.table.pred.addr:=by simpa[PQ]using q
    rcases(h.wn.get B).1.1.2.1 with e|e
    ·exact G.2 e
    exact e.2.1 (by rw[O,q])
   have e3:Wk (lp l i) n.copies [y.table.pred] (lp l (nx l i)::y.table.succ)=Wk (lp l i) n.copies [y.table.pred,lp l (nx l i)] y.table.succ:=by
    conv=>lhs;unfold Wk
    rw[A4 (fun q=>q.elim (fun q=>q ho) fun q=>by have q:(1:Int)=n.copies:=q;omega),A4 ag];rfl
   obtain⟨t2,ae⟩:=FM (s:=lp l i) (r:=n.copies) y.table.succ [y.table.pred,lp l (nx l i)];have hS:Wk (unask n).table.self (unask n).copies [y.table.pred] (lp l (nx l i)::y.table.succ)=Wk (lp l i) n.copies [y.table.pred] (lp l (nx l i)::y.table.succ):=by rw[f,K]
   refine .told y t2 B rfl rfl rfl (.inl ⟨G.1,G.2,hS⟩) ?_ C E;rw[A6 G];show Wk (unask n).table.self (unask n).copies [y.table.pred] (lp l (nx l i)::y.table.succ)=_;rw[hS,e3,ae];rfl
  rw[A4 hcl,T];refine .told y t1 B rfl rfl rfl (.inr ⟨fun q=>hcl (v.2 ⟨q.2,q.1⟩),rfl⟩) ?_ C E;rw[A4 fun q=>hcl (v.2 q)];exact U
end
section
variable {pn:Int→Zr} {were:List Int} {ns:List (Int×Nd)} {a b c x:Int} {n m m':Nd} {l:List Zr} {i k:Nat} {t:Tb} {p:Zr}
theorem Xdz(h:Crc pn were c l ns)(f:YC x ns=some n):T1 x ns=match SJ n ns with
 | none=>WM x (Rl n ns) ns
 | some y=>Ti n.table.self y (WM x (Rl n ns) ns):=by
 unfold T1;rw[f];show(if n.joined=true then DO x n ns else WM x (UJ ns n) ns)=_;rw[A6 (h.j x n f),GH];rfl
theorem Xdp(h:Crc pn were c l ns)(L:Cy l ns)(hi:i<l.length)(f:YC (lp l i).addr ns=some n)(hb:b≠(lp l i).addr):
 YC b (T1 (lp l i).addr ns)=YC b ns∨(b=(lp l (nx l i)).addr∧∃ y,YC b ns=some y∧YC b (T1 (lp l i).addr ns)=some { y with table:=WO y.table (lp l i) }):=by
 have T:WN pn were (WM (lp l i).addr (Rl n ns) ns):=by
  have hk:=JK (G:=InW pn were) h.wn f (h.wn.get f).2.2 fun y V=>(h.wn.get (Uo V).1).2.2;exact h.wn.put f hk.1 hk.2.1 hk.2.2.1
 rw[Xdz h f];rcases FO h L hi f with⟨h1,h2,h3,E,C⟩|⟨y,t,h1,h2,hf,hp,h3,E,h5,C⟩
 ·rw[C];left;rw[Vh h.wn,A4 hb]
 rw[C];show YC b (Ti n.table.self (Yv (Rl n ns).table).addr (WM (lp l i).addr (Rl n ns) ns))=_∨_;by_cases hg:Gap l i y.table.pred∧y.table.pred≠Yj
 ·left;have v:Yv (Rl n ns).table=y.table.pred:=by unfold Yv;rw[E,A6 hg];rfl
  have U:YC y.table.pred.addr (WM (lp l i).addr (Rl n ns) ns)=none:=by
   have K:=(h.wn.get h1).2.2.2.1 hg.2;have A:YC y.table.pred.addr ns=none:=by
    cases A:YC y.table.pred.addr ns with
    | none=>rfl
    | some q =>
     obtain⟨k,hk,O⟩:=(h.live _).1 ⟨q,A⟩;have B:y.table.pred=lp l k:=by rw[AJ h.wn K,← O,h.me k hk]
     exact absurd hg.1 (by rw[B];exact FU h.circ.2 h.two hi hk)
   rw[Vh h.wn];split
   ·rename_i e;rw[e,f]at A;cases A
   exact A
  rw[v];unfold Ti;rw[U];rw[Vh h.wn,A4 hb]
 have v:Yv (Rl n ns).table=lp l (nx l i):=by unfold Yv;rw[E,A4 hg];rfl
 have hne:(lp l (nx l i)).addr≠(lp l i).addr:=fun e=>FV hi h.two (h.inj (FI hi) hi e);have H:YC (lp l (nx l i)).addr (WM (lp l i).addr (Rl n ns) ns)=some y:=by rw[Vh h.wn,A4 hne];exact h1
 have I:Ti n.table.self (lp l (nx l i)).addr (WM (lp l i).addr (Rl n ns) ns)=WM (lp l (nx l i)).addr { y with table:=WO y.table n.table.self } (WM (lp l i).addr (Rl n ns) ns):=by
  unfold Ti;rw[H]
 have B:∀ z,YC z (WM (lp l (nx l i)).addr { y with table:=WO y.table n.table.self } (WM (lp l i).addr (Rl n ns) ns))=if z=(lp l (nx l i)).addr then some { y with table:=WO y.table n.table.self }else if z=(lp l i).addr then some (Rl n ns)else YC z ns:=fun z=>by rw[Vh T,Vh h.wn]
 rw[v];by_cases e:b=(lp l (nx l i)).addr
 ·right;refine⟨e,y,by rw[e];exact h1,?_⟩;show YC b (Ti _ _ _)=_;rw[I,B,A6 e,h.self hi f]
 left;rw[I,B,A4 e,A4 hb]
theorem Xgl(h:Crc pn were c l ns)(E:Cy l ns)(hi:i<l.length)(f:YC (lp l i).addr ns=some n){y:Nd}(B:YC (lp l (nx l i)).addr ns=some y)(K:¬(Gap l i y.table.pred∧y.table.pred≠Yj))(ht:(Rl n ns).askTo=-1):
 YC (lp l (nx l i)).addr (T1 (lp l i).addr ns)=some { y with table:=WO y.table (lp l i) }:=by
 rw[Xdz h f];rcases FO h E hi f with⟨h1,h2,h3,I,H⟩|⟨C,t,h1,h2,V,hp,h3,I,U,H⟩
 ·exfalso;have L:=FY h f (E i n hi f) hi;have T:=LY (h.wn.get f).1 (h.wn.get f).2.2;have:=(Tl T.1.1 (Xak L.2)).1.1;omega
 obtain rfl:C=y:=by rw[B]at h1;exact(A5 h1).symm
 rw[H];show YC _ (Ti n.table.self (Yv (Rl n ns).table).addr (WM (lp l i).addr (Rl n ns) ns))=_;have A:Yv (Rl n ns).table=lp l (nx l i):=by unfold Yv;rw[I,A4 K];rfl
 have hne:(lp l (nx l i)).addr≠(lp l i).addr:=fun e=>FV hi h.two (h.inj (FI hi) hi e);have v:YC (lp l (nx l i)).addr (WM (lp l i).addr (Rl n ns) ns)=some C:=by rw[Vh h.wn,A4 hne];exact h1
 have O:WN pn were (WM (lp l i).addr (Rl n ns) ns):=by
  have hk:=JK (G:=InW pn were) h.wn f (h.wn.get f).2.2 fun y B=>(h.wn.get (Uo B).1).2.2;exact h.wn.put f hk.1 hk.2.1 hk.2.2.1
 rw[A];unfold Ti;rw[v];rw[Vh O,A6 rfl,h.self hi f]
theorem Xhb(f:FP l k t)(e:pv l k=i):FP l k (WO t (lp l i)):=by
 rw[Zoe];refine⟨?_,f.2⟩;rcases Zcc t (lp l i)with q|q
 ·show Xcz l k (WO t (lp l i)).pred;rw[q];exact f.1
 show Xcz l k (WO t (lp l i)).pred;rw[q];exact .inr (.inl zV)
theorem FN(h:Crc pn were c l ns)(f:YC x ns=some n):YC x (T1 x ns)=some (Rl n ns):=by
 rw[RK h.wn f,A6 (h.j x n f)]
theorem Xet.ok(B:Xet l i n m ns)(A:FP l i (unask n).table):FP l i m.table:=by
 rcases B with⟨h1,h2,h3,v,C⟩|⟨y,t,h1,h2,G,f,h3,v,E,C⟩
 ·grind
 refine⟨by rw[f];exact A.1,_,t,v,fun p f=>?_⟩;grind
theorem Xcb(h:Crc pn were c l ns)(f:YC x ns=some n):∃ i,i<l.length∧x=(lp l i).addr:=by
 obtain⟨i,hi,e⟩:=(h.live x).1 ⟨n,f⟩;grind
theorem Xaw(hx:YC x ns=none):T1 x ns=ns:=by unfold T1;rw[hx]
theorem Xfu(hx:YC x ns=none):T2 x ns=ns:=by unfold T2;rw[hx]
theorem Xft(hx:YC x ns=none):T3 x ns=ns:=by unfold T3;rw[hx]
theorem Cy.t1(h:Crc pn were c l ns)(f:Cy l ns):Cy l (T1 x ns):=fun k m hk hm=>by
 cases hx:YC x ns with
 | none=>rw[Xaw hx]at hm;exact f k m hk hm
 | some n =>
  obtain⟨i,hi,rfl⟩:=Xcb h hx;by_cases e:(lp l k).addr=(lp l i).addr
  ·obtain rfl:=h.inj hk hi e;rw[FN h hx]at hm;rw[← A5 hm];exact(FO h f hi hx).ok (FY h hx (f k n hi hx) hi)
  rcases Xdp h f hi hx e with g|⟨g,y,g1,g2⟩
  ·rw[g]at hm;exact f k m hk hm
  rw[g2]at hm;rw[← A5 hm];have v:=h.inj hk (FI hi) g;exact Xhb (f k y hk g1) (by rw[v,FQ hi])
theorem Xdm(hj:n.joined=true):(OR ns n).table.pred=(unfind n).table.pred:=by
 unfold OR;rw[A4 zN];split
 ·exact IG _ _
 split
 ·rfl
 exact Ll 33 _
def Ptr(l:List Zr)(i:Nat)(p p':Zr):Prop:=p'=p∨(p'=Yj∧p≠lp l (pv l i))∨p'=lp l (pv l i)
theorem Xbm(h:Crc pn were c l ns)(hi:i<l.length)(hx:YC x ns=none)(t:Tb):Ptr l i t.pred (Xd t x).pred:=by
 rw[Xad];split
 ·rename_i e;exact .inr (.inl ⟨rfl,fun q=>h.dead hx (FR hi) (by rw[← q];exact e)⟩)
 exact .inl rfl
theorem Xeu(h:Crc pn were c l ns)(hi:i<l.length)(hm:YC x ns=some m):Ptr l i m.table.pred (unping m).table.pred:=by
 unfold unping;split
 ·exact Xbm h hi (h.d x m hm).2.1 _
 exact .inl rfl
theorem Xev(h:Crc pn were c l ns)(hi:i<l.length)(hm:YC x ns=some m):Ptr l i m.table.pred (unfind m).table.pred:=by
 unfold unfind;split
 ·exact .inl rfl
 exact Xbm h hi (h.d x m hm).2.2 _
theorem Xdb(h:Crc pn were c l ns)(hi:i<l.length)(hm:YC x ns=some m):Ptr l i m.table.pred (unask m).table.pred:=by
 unfold unask;split
 ·exact Xbm h hi (h.d x m hm).1 _
 exact .inl rfl
theorem Xaz(h:Crc pn were c l ns)(hi:i<l.length)(hm:YC (lp l i).addr ns=some m)(f:YC (lp l i).addr (T3 x ns)=some m'):Ptr l i m.table.pred m'.table.pred:=by
 by_cases e:(lp l i).addr=x
 ·subst e;rw[QK h.wn hm]at f;rw[← A5 f,JI];exact Xeu h hi hm
 rw[GT h.wn e,hm]at f;rw[A5 f];exact .inl rfl
theorem Xba(h:Crc pn were c l ns)(hi:i<l.length)(hm:YC (lp l i).addr ns=some m)(f:YC (lp l i).addr (T2 x ns)=some m'):Ptr l i m.table.pred m'.table.pred:=by
 by_cases e:(lp l i).addr=x
 ·subst e;rw[RA h.wn hm]at f;rw[← A5 f,Xdm (h.j _ m hm)];exact Xev h hi hm
 rw[Ow h.wn e,hm]at f;rw[A5 f];exact .inl rfl
theorem Xcy(h:Crc pn were c l ns)(v:Cy l ns)(hi:i<l.length)(hm:YC (lp l i).addr ns=some m)(f:YC (lp l i).addr (T1 x ns)=some m'):Ptr l i m.table.pred m'.table.pred:=by
 cases hx:YC x ns with
 | none=>rw[Xaw hx,hm]at f;rw[A5 f];exact .inl rfl
 | some n =>
  obtain⟨k,hk,rfl⟩:=Xcb h hx;by_cases e:(lp l i).addr=(lp l k).addr
  ·obtain rfl:=h.inj hi hk e;rw[FN h hx]at f;rw[hm]at hx;obtain rfl:=A5 hx;rw[← A5 f];have hu:=Xdb h hi hm;rcases FO h v hi hm with⟨h1,h2,h3,B,A⟩|⟨y,t,h1,h2,H,E,h3,B,G,A⟩
   ·rw[h3];exact hu
   rw[E];exact hu
  rcases Xdp h v hk hx e with g|⟨g,y,g1,g2⟩
  ·rw[g,hm]at f;rw[A5 f];exact .inl rfl
  rw[g2]at f;rw[← A5 f];rw[hm]at g1;rw[A5 g1];have C:=h.inj hi (FI hk) g;rcases Zcc y.table (lp l k)with q|q
  ·exact .inl q
  exact .inr (.inr (by show(WO y.table (lp l k)).pred=_;rw[q,C,FQ hk]))
def PRt(l:List Zr)(i:Nat)(p:Zr):Prop:=p=lp l (pv l i)
def PNd(l:List Zr)(i:Nat)(p:Zr):Prop:=p=Yj∨p=lp l (pv l i)
theorem Ptr.rt{p':Zr}(h:Ptr l i p p')(f:PRt l i p):PRt l i p':=by
 rcases h with e|⟨e,q⟩|e
 ·grind
 ·exact absurd f q
 exact e
theorem Ptr.nd{p':Zr}(h:Ptr l i p p')(f:PNd l i p):PNd l i p':=by
 rcases h with e|⟨e,q⟩|e
 ·grind
 ·exact .inl e
 exact .inr e
theorem Ptr.trans{p' f:Zr}(h:Ptr l i p p')(h1:Ptr l i p' f):Ptr l i p f:=by
 rcases h1 with e|⟨e,q⟩|e
 ·grind
 ·rcases h with v|⟨v,q2⟩|v
  ·rw[v]at q;exact .inr (.inl ⟨e,q⟩)
  ·exact .inr (.inl ⟨e,q2⟩)
  grind
 exact .inr (.inr e)
structure Fa (pn:Int→Zr) (were:List Int) (c:Int) (l:List Zr) (ns:List (Int×Nd)):Prop where
  r:Crc pn were c l ns
  j:Cy l ns
theorem Fa.t1(h:Fa pn were c l ns):Fa pn were c l (T1 x ns):=⟨h.r.t1,h.j.t1 h.r⟩
theorem Fa.t3(h:Fa pn were c l ns):Fa pn were c l (T3 x ns):=⟨h.r.t3,h.j.t3 h.r⟩
theorem Fa.t2(h:Fa pn were c l ns):Fa pn were c l (T2 x ns):=⟨h.r.t2,h.j.t2 h.r⟩
theorem Fa.step(h:Fa pn were c l ns):Fa pn were c l (TQ x ns):=h.t1.t3.t2
theorem Fa.go:∀(L:List Int) {ns:List (Int×Nd)},Fa pn were c l ns→Fa pn were c l (goQ L ns)
 | [],_,h=>h
 | _::L,_,h=>Fa.go L h.step
theorem Fa.round(h:Fa pn were c l ns):Fa pn were c l (Xt ns):=h.go _
theorem Fa.it:∀(j:Nat) {ns:List (Int×Nd)},Fa pn were c l ns→Fa pn were c l (itQ j ns)
 | 0,_,h=>h
 | j+1,_,h=>Fa.it j h.round
theorem Fa.at(h:Fa pn were c l ns)(hi:i<l.length):∃ m,YC (lp l i).addr ns=some m:=(h.r.live _).2 ⟨i,hi,rfl⟩
theorem Fa.step_ptr(h:Fa pn were c l ns)(hi:i<l.length)(hm:YC (lp l i).addr ns=some m)(f:YC (lp l i).addr (TQ x ns)=some m'):Ptr l i m.table.pred m'.table.pred:=by
 obtain⟨m1,h1⟩:=(h.t1 (x:=x)).at hi;obtain⟨m2,h2⟩:=((h.t1 (x:=x)).t3 (x:=x)).at hi;exact((Xcy h.r h.j hi hm h1).trans (Xaz (h.t1).r hi h1 h2)).trans (Xba (h.t1.t3).r hi h2 f)
theorem Fa.go_ptr:∀(L:List Int) {ns:List (Int×Nd)} {m m':Nd},Fa pn were c l ns→i<l.length→YC (lp l i).addr ns=some m→YC (lp l i).addr (goQ L ns)=some m'→Ptr l i m.table.pred m'.table.pred
 | [],ns,m,m',h,hi,hm,f=>by
  have f:YC (lp l i).addr ns=some m':=f;rw[hm]at f;rw[A5 f];exact .inl rfl
 | x::L,ns,m,m',h,hi,hm,f=>by
  obtain⟨m1,h1⟩:=(h.step (x:=x)).at hi;exact(h.step_ptr hi hm h1).trans (Fa.go_ptr L h.step hi h1 f)
end
section
variable {pn:Int→Zr} {were:List Int} {ns:List (Int×Nd)} {a b c x:Int} {n m m':Nd} {l:List Zr} {i k:Nat} {t:Tb} {p:Zr} {W Q:List (Int×Nd)→Prop}
def Fb(l:List Zr)(i k:Nat)(s:List Zr):Prop:=∃ ds tl,s=ds++lp l (nx l i)::tl∧(∀ p∈ds,Gap l i p)∧ds.length≤k
def MuN(l:List Zr)(i k:Nat)(n:Nd):Prop:=Fb l i k (unask n).table.succ
theorem Xao(n:Nd):(unask n).table.succ=if n.askTo≠-1 then n.table.succ.filter fun p=>p.addr≠n.askTo else n.table.succ:=by
 unfold unask;split <;> rfl
theorem Fb.filter{s:List Zr}(h:Fb l i k s)(hx:(lp l (nx l i)).addr≠x):Fb l i k (s.filter fun p=>p.addr≠x):=by
 obtain⟨ds,tl,e,A,f⟩:=h;refine⟨ds.filter (fun p=>p.addr≠x),tl.filter (fun p=>p.addr≠x),?_,fun p v=>A p (F6.1 v).1,H7 (Xjo _ _) f⟩;grind
theorem MuN.forget(h:MuN l i k n)(hx:(lp l (nx l i)).addr≠x)(ha:m.askTo=n.askTo)(hs:m.table.succ=n.table.succ.filter fun p=>p.addr≠x):MuN l i k m:=by
 unfold MuN at *;rw[Xao]at *;rw[ha,hs];split
 ·rename_i e;rw[A6 e]at h;have h2:=h.filter hx
  rwa [List.filter_filter,List.filter_congr (fun p _=>Bool.and_comm _ _),← List.filter_filter]at h2
 rename_i e;rw[A4 e]at h;exact h.filter hx
theorem MuN.same(h:MuN l i k n)(ha:m.askTo=n.askTo)(hs:m.table.succ=n.table.succ):MuN l i k m:=by
 unfold MuN at *;rw[Xao]at *;grind
def MuR(l:List Zr)(i k:Nat)(ns:List (Int×Nd)):Prop:=∀ m,YC (lp l i).addr ns=some m→MuN l i k m
theorem MuR.t3(h:Fa pn were c l ns)(hi:i<l.length)(A:MuR l i k ns):MuR l i k (T3 x ns):=fun m hm=>by
 obtain⟨m0,f⟩:=h.at hi;have h0:=A m0 f;by_cases e:(lp l i).addr=x
 ·subst e;rw[QK h.r.wn f]at hm;rw[← A5 hm];obtain⟨t,p,r,q,u,v,-⟩:=Rk (fun x=>(YC x ns).isSome) m0;have ha:(UH (fun x=>(YC x ns).isSome) m0).askTo=m0.askTo:=by rw[v]
  have ht:=JI (fun x=>(YC x ns).isSome) m0;by_cases hp:m0.pingTo≠-1
  ·refine h0.forget (h.r.dead (h.r.d _ m0 f).2.1 (FI hi)) ha ?_;rw[ht];unfold unping;rw[A6 hp];rfl
  refine h0.same ha ?_;rw[ht];unfold unping;rw[A4 hp]
 rw[GT h.r.wn e,f]at hm;rw[← A5 hm];exact h0
theorem MuR.t2(h:Fa pn were c l ns)(hi:i<l.length)(v:MuR l i k ns):MuR l i k (T2 x ns):=fun m hm=>by
 obtain⟨m0,f⟩:=h.at hi;have h0:=v m0 f;by_cases e:(lp l i).addr=x
 ·subst e;rw[RA h.r.wn f]at hm;rw[← A5 hm];have ha:(OR ns m0).askTo=m0.askTo:=Gt.1;have ht:=Zjg (ns:=ns) (h.r.j _ m0 f);by_cases hp:m0.findTo=-1
  ·refine h0.same ha ?_;rw[ht];unfold unfind;rw[A6 hp]
  refine h0.forget (h.r.dead (h.r.d _ m0 f).2.2 (FI hi)) ha ?_;rw[ht];unfold unfind;rw[A4 hp];rfl
 rw[Ow h.r.wn e,f]at hm;rw[← A5 hm];exact h0
theorem MuR.t1(h:Fa pn were c l ns)(hi:i<l.length)(hx:(lp l i).addr≠x)(v:MuR l i k ns):MuR l i k (T1 x ns):=fun m hm=>by
 obtain⟨m0,f⟩:=h.at hi;obtain⟨m',h1,h2⟩:=BH h.r.wn hx f;rw[hm]at h1;rw[A5 h1];exact(v m0 f).same (by rw[h2]) (by rw[h2])
theorem Xjc(h:Fa pn were c l ns)(hi:i<l.length)(f:YC (lp l i).addr ns=some n)(I:MuN l i k n):(Rl n ns).askTo=-1∨∃ j,k=j+1∧MuN l i j (Rl n ns):=by
 rcases FO h.r h.j hi f with⟨h1,h2,h3,A,E⟩|⟨y,t,h1,h2,v,B,h3,A,O,E⟩
 ·right;obtain⟨ds,tl,e,K,H⟩:=I;cases ds with
  | nil =>
   exfalso;have v:Yv (unask n).table=lp l (nx l i):=by unfold Yv;rw[e];rfl
   rw[v]at A;exact FU h.r.circ.2 h.r.two hi (FI hi) A
  | cons d ds =>
   have v:Yv (unask n).table=d:=by unfold Yv;rw[e];rfl
   rw[v]at h1;simp only[C8]at H;refine⟨k-1,by omega,?_⟩;unfold MuN;have hne:(Rl n ns).askTo≠-1:=fun q=>by
    have C:=FY h.r f (h.j i n hi f) hi;have L:=LY (h.r.wn.get f).1 (h.r.wn.get f).2.2;have:=(Tl L.1.1 (Xak C.2)).1.1;rw[v,← h1,q]at this;omega
   rw[Xao,A6 hne,h1,h3,e];refine⟨ds.filter (fun p=>p.addr≠d.addr),tl.filter (fun p=>p.addr≠d.addr),?_,fun p B=>K p (B2 _ (F6.1 B).1),H7 (Xjo _ _) jD⟩;have G:(lp l (nx l i)).addr≠d.addr:=h.r.dead (by rw[← h1];exact h2) (FI hi);rw[B4,Xjk jQ,Xjh,Xjj (by simpa using G)]
 exact .inl h2
structure Clo (W:List (Int×Nd)→Prop):Prop where
  t1:∀ ns x,W ns→W (T1 x ns)
  t3:∀ ns x,W ns→W (T3 x ns)
  t2:∀ ns x,W ns→W (T2 x ns)
theorem Clo.step(h:Clo W)(hw:W ns)(x:Int):W (TQ x ns):=h.t2 _ _ (h.t3 _ _ (h.t1 _ _ hw))
theorem Clo.go(h:Clo W):∀(L:List Int) {ns:List (Int×Nd)},W ns→W (goQ L ns)
 | [],_,hw=>hw
 | x::L,_,hw=>Clo.go h L (h.step hw x)
theorem Clo.round(h:Clo W)(hw:W ns):W (Xt ns):=h.go _ hw
theorem Clo.it(h:Clo W):∀(j:Nat) {ns:List (Int×Nd)},W ns→W (itQ j ns)
 | 0,_,hw=>hw
 | j+1,_,hw=>Clo.it h j (h.round hw)
theorem Clo.and{V:List (Int×Nd)→Prop}(h:Clo W)(f:Stays W V):Clo fun ns=>W ns∧V ns:=⟨fun ns x q=>⟨h.t1 ns x q.1,f.t1 ns x q.1 q.2⟩,fun ns x q=>⟨h.t3 ns x q.1,f.t3 ns x q.1 q.2⟩,fun ns x q=>⟨h.t2 ns x q.1,f.t2 ns x q.1 q.2⟩⟩
theorem Xas:Clo (Fa pn were c l):=⟨fun _ _ h=>h.t1,fun _ _ h=>h.t3,fun _ _ h=>h.t2⟩
theorem Stays.goC(f:Stays W Q)(h:Clo W):∀(L:List Int) {ns:List (Int×Nd)},W ns→Q ns→Q (goQ L ns)
 | [],_,_,hq=>hq
 | x::L,ns,hw,hq=>Stays.goC f h L (h.step hw x) (f.t2 _ _ (h.t3 _ _ (h.t1 _ _ hw)) (f.t3 _ _ (h.t1 _ _ hw) (f.t1 _ _ hw hq)))
theorem Stays.roundC(v:Stays W Q)(h:Clo W)(hw:W ns)(f:Q ns):Q (Xt ns):=v.goC h _ hw f
theorem Stays.itC(f:Stays W Q)(h:Clo W):∀(j:Nat) {ns:List (Int×Nd)},W ns→Q ns→Q (itQ j ns)
 | 0,_,_,hq=>hq
 | j+1,_,hw,hq=>Stays.itC f h j (h.round hw) (f.roundC h hw hq)
theorem MuR.go(v:∀ ns,W ns→Fa pn were c l ns)(f:Clo W)(hi:i<l.length):∀(L:List Int) {ns:List (Int×Nd)},(lp l i).addr∉L→W ns→MuR l i k ns→MuR l i k (goQ L ns)
 | [],_,_,_,h=>h
 | x::L,ns,hx,hw,h=>MuR.go v f hi L (fun q=>hx (B2 _ q)) (f.step hw x) (((h.t1 (v _ hw) hi fun q=>hx (by rw[q];exact B1)).t3 (v _ (f.t1 _ _ hw)) hi).t2 (v _ (f.t3 _ _ (f.t1 _ _ hw))) hi)
theorem Xck(f:∀ ns,W ns→Fa pn were c l ns)(v:Clo W)(C:Stays W Q)(hi:i<l.length)(O:∀ ns n,W ns→YC (lp l i).addr ns=some n→(Rl n ns).askTo=-1→Q (T1 (lp l i).addr ns)):∀(k:Nat) {ns:List (Int×Nd)},W ns→MuR l i k ns→Q (itQ (k+1) ns)
 | k,ns,hw,hM=>by
  obtain⟨n0,G⟩:=(f ns hw).at hi;obtain⟨L,K,h1,h2,U⟩:=CI (f ns hw).r.wn G;have A:=v.go L hw;have m1:=MuR.go f v hi L h1 hw hM;obtain⟨n,E⟩:=(f _ A).at hi;have H:=v.t1 _ (lp l i).addr A;have I:=v.t3 _ (lp l i).addr H;have T:=v.t2 _ (lp l i).addr I;show Q (itQ k (Xt ns));have B:W (Xt ns):=v.round hw;rcases Xjc (f _ A) hi E (m1 n E)with V|⟨j,rfl,hj⟩
  ·refine C.itC v k B ?_;rw[U];exact C.goC v K T (C.t2 _ _ I (C.t3 _ _ H (O _ n A E V)))
  refine Xck f v C hi O j B ?_;rw[U];refine MuR.go f v hi K h2 T (MuR.t2 (f _ I) hi (MuR.t3 (f _ H) hi fun m hm=>?_));rw[FN (f _ A).r E]at hm;rw[← A5 hm];exact hj
theorem Xgz(h:Fa pn were c l ns)(hi:i<l.length):MuR l i 8 ns:=fun m hm=>by
 obtain⟨ds,tl,e,f⟩:=(FY h.r hm (h.j i m hi hm) hi).2;have A:=LY (h.r.wn.get hm).1 (h.r.wn.get hm).2.2;have v:=A.1.1.2.2.1;rw[e,B3]at v;exact⟨ds,tl,e,f,by omega⟩
theorem Xbz(f:∀ ns,W ns→Fa pn were c l ns)(v:Clo W)(A:Stays W Q)(hi:i<l.length)(B:∀ ns n,W ns→YC (lp l i).addr ns=some n→(Rl n ns).askTo=-1→Q (T1 (lp l i).addr ns))(hw:W ns):Q (itQ 9 ns) :=
 Xck f v A hi B 8 hw (Xgz (f _ hw) hi)
end
section
variable {pn:Int→Zr} {were:List Int} {ns:List (Int×Nd)} {a b c x:Int} {n m m':Nd} {l:List Zr} {i k j:Nat} {t:Tb} {p:Zr} {W Q:List (Int×Nd)→Prop}
structure W1 (pn:Int→Zr) (were:List Int) (c:Int) (l:List Zr) (ns:List (Int×Nd)):Prop where
  cj:Fa pn were c l ns
  nd:∀ i m,i<l.length→YC (lp l i).addr ns=some m→PNd l i m.table.pred
theorem Xct:Clo (W1 pn were c l) where
 t1:=fun ns x h=>⟨h.cj.t1,fun i m hi hm=>by
  obtain⟨m0,f⟩:=h.cj.at hi
  exact(Xcy h.cj.r h.cj.j hi f hm).nd (h.nd i m0 hi f)⟩
 t3:=fun ns x h=>⟨h.cj.t3,fun i m hi hm=>by
  obtain⟨m0,f⟩:=h.cj.at hi;exact(Xaz h.cj.r hi f hm).nd (h.nd i m0 hi f)⟩
 t2:=fun ns x h=>⟨h.cj.t2,fun i m hi hm=>by
  obtain⟨m0,f⟩:=h.cj.at hi;exact(Xba h.cj.r hi f hm).nd (h.nd i m0 hi f)⟩
theorem W1.nogap(h:W1 pn were c l ns)(hi:i<l.length){y:Nd}(f:YC (lp l (nx l i)).addr ns=some y):¬(Gap l i y.table.pred∧y.table.pred≠Yj):=by
 rintro⟨g1,g2⟩;rcases h.nd _ y (FI hi) f with e|e
 ·exact g2 e
 rw[e,FQ hi]at g1;exact FU h.cj.r.circ.2 h.cj.r.two hi hi g1
def Fst(l:List Zr)(i:Nat)(s:List Zr):Prop:=∃ tl,s=lp l (nx l i)::tl
theorem Fst.filter{s:List Zr}(h:Fst l i s)(hx:(lp l (nx l i)).addr≠x):Fst l i (s.filter fun p=>p.addr≠x):=by
 obtain⟨tl,e⟩:=h;rw[e,Xjj (by simpa using hx)];exact⟨_,rfl⟩
theorem Xau(h:Crc pn were c l ns)(hm:YC x ns=some m)(f:YC x (T3 a ns)=some m'):m'.table.succ=m.table.succ∨∃ y,YC y ns=none∧m'.table.succ=m.table.succ.filter fun p=>p.addr≠y:=by
 by_cases e:x=a
 ·subst e;rw[QK h.wn hm]at f;rw[← A5 f,JI];unfold unping;split
  ·exact .inr ⟨_,(h.d x m hm).2.1,rfl⟩
  simp
 rw[GT h.wn e,hm]at f;grind
theorem Xav(h:Crc pn were c l ns)(hm:YC x ns=some m)(f:YC x (T2 a ns)=some m'):m'.table.succ=m.table.succ∨∃ y,YC y ns=none∧m'.table.succ=m.table.succ.filter fun p=>p.addr≠y:=by
 by_cases e:x=a
 ·subst e;rw[RA h.wn hm]at f;rw[← A5 f,Zjg (h.j x m hm)];unfold unfind;split
  ·simp
  exact .inr ⟨_,(h.d x m hm).2.2,rfl⟩
 rw[Ow h.wn e,hm]at f;grind
theorem Xbx(h:Crc pn were c l ns)(hx:x≠a)(hm:YC x ns=some m)(f:YC x (T1 a ns)=some m'):m'.table.succ=m.table.succ:=by
 obtain⟨m1,h1,h2⟩:=BH h.wn hx hm;rw[f]at h1;rw[A5 h1,h2]
theorem Xab(h:Crc pn were c l ns)(hm:YC x ns=some m):(unask m).table.succ=m.table.succ∨∃ y,YC y ns=none∧(unask m).table.succ=m.table.succ.filter fun p=>p.addr≠y:=by
 rw[Xao];split
 ·exact .inr ⟨_,(h.d x m hm).1,rfl⟩
 simp
def Q1(l:List Zr)(i:Nat)(ns:List (Int×Nd)):Prop:=(∀ m,YC (lp l i).addr ns=some m→Fst l i m.table.succ)∧∀ y,YC (lp l (nx l i)).addr ns=some y→PRt l (nx l i) y.table.pred
theorem Xen(h:W1 pn were c l ns)(hi:i<l.length)(v:YC (lp l i).addr ns=some n)(A:Fst l i n.table.succ):∃ y,YC (lp l (nx l i)).addr ns=some y∧(Rl n ns).askTo=-1∧(Rl n ns).table.fingers=(unask n).table.fingers∧(Rl n ns).table.pred=(unask n).table.pred∧(Rl n ns).table.succ=Wk (lp l i) n.copies [lp l (nx l i)] y.table.succ:=by
 have hu:Fst l i (unask n).table.succ:=by
  rcases Xab h.cj.r v with e|⟨y,G,e⟩ <;> rw[e]
  ·exact A
  exact A.filter (h.cj.r.dead G (FI hi))
 have C:Yv (unask n).table=lp l (nx l i):=by
  obtain⟨tl,e⟩:=hu;unfold Yv;rw[e];rfl
 rcases FO h.cj.r h.cj.j hi v with⟨h1,h2,h3,f,B⟩|⟨y,t,h1,h2,E,I,h3,f,H,B⟩
 ·rw[C]at f;exact absurd f (FU h.cj.r.circ.2 h.cj.r.two hi (FI hi))
 rcases h3 with⟨g1,g2,-⟩|⟨-,g⟩
 ·exact absurd ⟨g1,g2⟩ (h.nogap hi h1)
 grind
theorem Xgd{s:Zr}{r:Int}{f:Zr}(rest:List Zr):∃ tl,Wk s r [f] rest=f::tl:=by
 obtain⟨t,e⟩:=FM (s:=s) (r:=r) rest [f];grind
theorem Xbq:Stays (W1 pn were c l) (fun ns=>i<l.length→Q1 l i ns) where
 t3:=fun ns x h A hi=>by
  obtain⟨m0,f⟩:=h.cj.at hi;obtain⟨B,v⟩:=h.cj.at (FI hi)
  refine⟨fun m hm=>?_,fun y C=>(Xaz h.cj.r (FI hi) v C).rt ((A hi).2 B v)⟩;rcases Xau h.cj.r f hm with e|⟨z,E,e⟩ <;> rw[e]
  ·exact(A hi).1 m0 f
  exact((A hi).1 m0 f).filter (h.cj.r.dead E (FI hi))
 t2:=fun ns x h A hi=>by
  obtain⟨m0,f⟩:=h.cj.at hi;obtain⟨B,v⟩:=h.cj.at (FI hi)
  refine⟨fun m hm=>?_,fun y C=>(Xba h.cj.r (FI hi) v C).rt ((A hi).2 B v)⟩;rcases Xav h.cj.r f hm with e|⟨z,E,e⟩ <;> rw[e]
  ·exact(A hi).1 m0 f
  exact((A hi).1 m0 f).filter (h.cj.r.dead E (FI hi))
 t1:=fun ns x h A hi=>by
  obtain⟨m0,f⟩:=h.cj.at hi;obtain⟨B,v⟩:=h.cj.at (FI hi)
  refine⟨fun m hm=>?_,fun y C=>(Xcy h.cj.r h.cj.j (FI hi) v C).rt ((A hi).2 B v)⟩;by_cases e:(lp l i).addr=x
  ·subst e;rw[FN h.cj.r f]at hm;rw[← A5 hm];obtain⟨y,-,-,-,-,hs⟩:=Xen h hi f ((A hi).1 m0 f);rw[hs];exact Xgd _
  rw[Xbx h.cj.r e f hm];exact(A hi).1 m0 f
theorem Xfd{t:Tb}(ht:TG t)(f:Ys t.self p)(h:t.pred=Yj):(WO t p).pred=p:=by
 unfold WO;grind
theorem Xfa(h:W1 pn were c l ns)(hi:i<l.length):Q1 l i (itQ 9 ns):=by
 refine Xbz (W:=W1 pn were c l) (Q:=fun ns=>i<l.length→Q1 l i ns) (fun _ h=>h.cj) Xct Xbq hi (fun ns n h f ht _=>?_) h hi;rcases FO h.cj.r h.cj.j hi f with⟨h1,h2,h3,A,E⟩|⟨y,t,h1,h2,G,K,h3,A,I,E⟩
 ·exfalso;have C:=FY h.cj.r f (h.cj.j i n hi f) hi;have H:=LY (h.cj.r.wn.get f).1 (h.cj.r.wn.get f).2.2;have:=(Tl H.1.1 (Xak C.2)).1.1;grind
 have v:=h.nogap hi h1;refine⟨fun m hm=>?_,fun z B=>?_⟩
 ·rw[FN h.cj.r f]at hm;rw[← A5 hm];exact⟨t,by rw[A,A4 v];rfl⟩
 rw[Xgl h.cj.r h.cj.j hi f h1 v ht]at B;rw[← A5 B];show(WO y.table (lp l i)).pred=lp l (pv l (nx l i));rw[FQ hi];rcases h.nd _ y (FI hi) h1 with e|e
 ·refine Xfd (h.cj.r.wn.get h1).1.1 ?_ e;rw[h.cj.r.self (FI hi) h1];exact FW h.cj.r.circ.2 (FI hi) hi (FV hi h.cj.r.two).symm
 rw[FQ hi]at e;rw[Zcb e];exact e
structure Fc (pn:Int→Zr) (were:List Int) (c:Int) (l:List Zr) (ns:List (Int×Nd)):Prop where
  w:W1 pn were c l ns
  q:∀ i,i<l.length→Q1 l i ns
theorem Xdx:Clo (Fc pn were c l):=⟨fun ns x h=>⟨Xct.t1 ns x h.w,fun i hi=>Xbq.t1 ns x h.w (fun _=>h.q i hi) hi⟩,fun ns x h=>⟨Xct.t3 ns x h.w,fun i hi=>Xbq.t3 ns x h.w (fun _=>h.q i hi) hi⟩,fun ns x h=>⟨Xct.t2 ns x h.w,fun i hi=>Xbq.t2 ns x h.w (fun _=>h.q i hi) hi⟩⟩
theorem Xhk(h:W1 pn were c l ns):Fc pn were c l (itQ 9 ns):=⟨Xct.it 9 h,fun i hi=>Xfa h hi⟩
theorem Fc.pred(h:Fc pn were c l ns)(hi:i<l.length)(hm:YC (lp l i).addr ns=some m):m.table.pred=lp l (pv l i):=by
 have:=(h.q _ (FR hi)).2 m (by rw[Xac hi];exact hm)
 rwa [Xac hi]at this
theorem Xcx{s:Zr}{r:Int}:∀(t acc rest:List Zr),(∀ q∈t,Ys s q)→(∀ q∈t,¬PQ acc q.addr)→(t.map Zr.addr).Nodup→(acc.length:Int)+t.length≤r→Wk s r acc (t++rest)=Wk s r (acc++t) rest
 | [],acc,rest,_,_,_,_=>by rw[E0,B6]
 | q::t,acc,rest,h1,h2,h3,h4=>by
  have v:=D9.1 h3;rw[C8]at h4;rw[B4]
  conv=>lhs;unfold Wk
  rw[A4 (fun e=>e.elim (fun e=>e (h1 q B1)) fun e=>by omega),A4 (h2 q B1)];rw[Xcx t (acc++[q]) rest (fun z f=>h1 z (B2 _ f)) (fun z f e=>?_) v.2 (by rw[B3,I6];omega),B5]
  ·rfl
  unfold PQ at e;rw[C6]at e;rcases B8.1 e with e|e
  ·exact h2 z (B2 _ f) e
  have A:z.addr=q.addr:=by simpa using e
  exact v.1 (A ▸ G8 f)
theorem Xer{s:Zr}{r:Int}(acc rest:List Zr)(h:(acc.length:Int)=r):Wk s r acc rest=acc:=by
 cases rest with
 | nil=>rfl
 | cons p rest=>unfold Wk;rw[A6 (.inr h)]
theorem Xeq{s q:Zr}{r:Int}(acc rest:List Zr)(h:¬Ys s q):Wk s r acc (q::rest)=acc:=by
 unfold Wk;rw[A6 (.inl h)]
def Fe(c:Int)(l:List Zr)(i j:Nat)(s:List Zr):Prop:=∃ tl,s=((Wf l i).take c.toNat).take j++tl
theorem FL(hi:i<l.length)(h2:2≤l.length):∃ t,Wf l i=lp l (nx l i)::t∧Wf l (nx l i)=t++[lp l i]:=by
 rw[FJ (FI hi),FJ hi];rcases EL hi with⟨h,h3⟩|⟨h,h3⟩
 ·have e:nx l i=i+1:=h3;refine⟨l.drop (i+1+1)++l.take i,?_,?_⟩
  ·simp only[e];unfold Wf;rw[G4 h];rfl
  rw[e];unfold Wf;simp
 have e:nx l i=0:=h3;refine⟨(l.drop 1).take (i-1),?_,?_⟩
 ·simp only[e];unfold Wf;have h0:l=l[0]::l.drop 1:=by
   have:=G4 (l:=l) (i:=0) jD;simpa using this
  obtain⟨k,rfl⟩:∃ k,i=k+1:=⟨i-1,by omega⟩
  grind
 rw[e];unfold Wf;have hk:(l.drop 1).length=i-1+1:=by rw[F3];omega
 have h1:(l.drop 1).take (i-1+1)=l.drop 1:=H5 jD
 conv=>lhs;rw[← h1]
 rw[List.take_succ_eq_append_getElem jD];grind
theorem Xef(h:Uv l)(hi:i<l.length):∀ q∈Wf l i,Ys (lp l i) q:=fun q v=>by
 obtain⟨k,hk,f,rfl⟩:=RR hi v;rw[FJ hi];exact Rc h hi hk f
theorem Xbw(h:Uv l)(hi:i<l.length)(h2:2≤l.length)(hc:1≤c){s:List Zr}(hs:Fe c l (nx l i) j s):
 Fe c l i (j+1) (Wk (lp l i) c [lp l (nx l i)] s)∧(c.toNat≤j→Wk (lp l i) c [lp l (nx l i)] s=(Wf l i).take c.toNat):=by
 obtain⟨t,K,U⟩:=FL hi h2;obtain⟨tl,es⟩:=hs;have H:((Wf l i).map Zr.addr).Nodup:=LG h.2.1;have L:=Xef h hi;rw[K]at H L;rw[D3]at H;have v:=D9.1 H;obtain⟨r,O⟩:∃ r,c.toNat=r:=⟨_,rfl⟩
 have aa:(r:Int)=c:=by omega
 rw[O,U,I3]at es;unfold Fe;rw[O,K,I3];obtain⟨m,hm⟩:∃ m,min j r=m:=⟨_,rfl⟩
 rw[hm]at es;have fresh:∀ q∈t,¬PQ [lp l (nx l i)] q.addr:=fun q C e=>by
  have e:q.addr=(lp l (nx l i)).addr:=by simpa[PQ]using e
  exact v.1 (e ▸ G8 C)
 have sub:∀ w (u:List Zr),w≤t.length→1+w≤r→Wk (lp l i) c [lp l (nx l i)] (t.take w++u)=Wk (lp l i) c (lp l (nx l i)::t.take w) u:=fun w u T V=>by
  rw[Xcx (t.take w) [lp l (nx l i)] u (fun q C=>L q (B2 _ (F9 C))) (fun q C=>fresh q (F9 C)) (v.2.sublist ((List.take_sublist _ _).map _)) (by rw[D8,I6];omega)];rfl
 by_cases hmt:m≤t.length
 ·rw[List.take_append_of_le_length hmt]at es;by_cases hmr:1+m<r
  ·have f:=sub m tl hmt jD;rw[← es]at f;obtain⟨u,eu⟩:=FM (s:=lp l i) (r:=c) tl (lp l (nx l i)::t.take m);refine⟨⟨u,?_⟩,fun hj=>by omega⟩;rw[f,eu];have:min (j+1) r=m+1:=by omega
   rw[this];rfl
  have B:t.take m=t.take (r-1)++(t.take m).drop (r-1):=by
   have:=(F0 (r-1) (t.take m)).symm
   rwa [I3,show min (r-1) m=r-1 by omega]at this
  rw[B,B5]at es;have f:=sub (r-1) ((t.take m).drop (r-1)++tl) jD jD;rw[← es]at f;have E:Wk (lp l i) c [lp l (nx l i)] s=lp l (nx l i)::t.take (r-1):=by
   rw[f,Xer _ _ (by rw[C8,D8];omega)]
  have G:(lp l (nx l i)::t).take r=lp l (nx l i)::t.take (r-1):=by
   obtain⟨q,rfl⟩:∃ q,r=q+1:=⟨r-1,by omega⟩
   rfl
  refine⟨⟨[],?_⟩,fun _=>by rw[E,G]⟩;rw[E,E0,← G,show min (j+1) r=r by omega]
 have A:(t++[lp l i]).take m=t++[lp l i]:=H5 (by rw[B3,I6];omega);rw[A,B5]at es;have I:¬Ys (lp l i) (lp l i):=fun q=>q.2.1 rfl;have E:Wk (lp l i) c [lp l (nx l i)] s=lp l (nx l i)::t:=by
  have f:=sub t.length ([lp l i]++tl) (B9 _) jD;rw[G0,← es]at f;rw[f];exact Xeq _ _ I
 have G:∀ w,t.length<w→(lp l (nx l i)::t).take w=lp l (nx l i)::t:=fun w hw=>H5 (by rw[C8];omega);refine⟨⟨[],?_⟩,fun _=>?_⟩
 ·rw[E,E0,G _ jD]
 rw[E,G _ jD]
theorem Fe.filter(v:∀ q∈Wf l i,q.addr≠x){s:List Zr}(h:Fe c l i j s):Fe c l i j (s.filter fun p=>p.addr≠x):=by
 obtain⟨tl,e⟩:=h;refine⟨tl.filter fun p=>p.addr≠x,?_⟩;rw[e,Xjh];congr 1;rw[Xjg];intro q f;simpa using v q (F9 (F9 f))
theorem Xae(h:Crc pn were c l ns)(hx:YC x ns=none)(hi:i<l.length):∀ q∈Wf l i,q.addr≠x:=fun q f=>by
 obtain⟨k,hk,-,rfl⟩:=RR hi f;rw[← FJ hk];exact h.dead hx hk
structure Ff (pn:Int→Zr) (were:List Int) (c:Int) (l:List Zr) (j:Nat) (ns:List (Int×Nd)):Prop where
  r:Fc pn were c l ns
  v:∀ i m,i<l.length→YC (lp l i).addr ns=some m→Fe c l i j m.table.succ
theorem Ff.told(h:Ff pn were c l j ns)(hi:i<l.length)(f:YC (lp l i).addr ns=some n):∃ y,YC (lp l (nx l i)).addr ns=some y∧(Rl n ns).table.fingers=(unask n).table.fingers∧(Rl n ns).table.pred=(unask n).table.pred∧(Rl n ns).table.succ=Wk (lp l i) c [lp l (nx l i)] y.table.succ:=by
 obtain⟨y,h1,h2,h3,A,v⟩:=Xen h.r.w hi f ((h.r.q i hi).1 n f);rw[(h.r.w.cj.r.kd _ n f).1]at v;exact⟨y,h1,h3,A,v⟩
def Lvl(c:Int)(l:List Zr)(i j:Nat)(ns:List (Int×Nd)):Prop:=i<l.length→∀ m,YC (lp l i).addr ns=some m→Fe c l i j m.table.succ
theorem Fe.less{s:List Zr}(h:Fe c l i (j+1) s):Fe c l i j s:=by
 obtain⟨tl,e⟩:=h;refine⟨(((Wf l i).take c.toNat).take (j+1)).drop j++tl,?_⟩;rw[e,← B5];congr 1;have h1:=(F0 j (((Wf l i).take c.toNat).take (j+1))).symm;have h2:(((Wf l i).take c.toNat).take (j+1)).take j=((Wf l i).take c.toNat).take j:=by rw[I3];congr 1;omega
 rw[h2]at h1;exact h1
theorem Xbb(hk:k=j∨k=j+1):Stays (Ff pn were c l j) (Lvl c l i k) where
 t3:=fun ns x h A hi m hm=>by
  obtain⟨m0,f⟩:=h.r.w.cj.at hi;rcases Xau h.r.w.cj.r f hm with e|⟨z,B,e⟩ <;> rw[e]
  ·exact A hi m0 f
  exact(A hi m0 f).filter (Xae h.r.w.cj.r B hi)
 t2:=fun ns x h A hi m hm=>by
  obtain⟨m0,f⟩:=h.r.w.cj.at hi;rcases Xav h.r.w.cj.r f hm with e|⟨z,B,e⟩ <;> rw[e]
  ·exact A hi m0 f
  exact(A hi m0 f).filter (Xae h.r.w.cj.r B hi)
 t1:=fun ns x h A hi m hm=>by
  obtain⟨m0,f⟩:=h.r.w.cj.at hi;by_cases e:(lp l i).addr=x
  ·subst e;rw[FN h.r.w.cj.r f]at hm;rw[← A5 hm];obtain⟨y,h1,-,-,E⟩:=h.told hi f;rw[E];have C:=(Xbw h.r.w.cj.r.circ.2 hi h.r.w.cj.r.two (by have:=h.r.w.cj.r.cc;omega) (h.v _ y (FI hi) h1)).1;rcases hk with rfl|rfl
   ·exact C.less
   exact C
  rw[Xbx h.r.w.cj.r e f hm];exact A hi m0 f
theorem Xcf:Clo (Ff pn were c l j):=⟨fun ns x h=>⟨Xdx.t1 ns x h.r,fun i m hi hm=>(Xbb (.inl rfl)).t1 ns x h (fun hi m=>h.v i m hi) hi m hm⟩,fun ns x h=>⟨Xdx.t3 ns x h.r,fun i m hi hm=>(Xbb (.inl rfl)).t3 ns x h (fun hi m=>h.v i m hi) hi m hm⟩,fun ns x h=>⟨Xdx.t2 ns x h.r,fun i m hi hm=>(Xbb (.inl rfl)).t2 ns x h (fun hi m=>h.v i m hi) hi m hm⟩⟩
theorem Xfp(h:Fc pn were c l ns)(hi:i<l.length):MuR l i 0 ns:=fun m hm=>by
 obtain⟨tl,e⟩:=(h.q i hi).1 m hm;rcases Xab h.w.cj.r hm with v|⟨z,A,v⟩
 ·exact⟨[],tl,by rw[v,e];rfl,fun p f=>(by cases f),B9 0⟩
 refine⟨[],tl.filter fun p=>p.addr≠z,?_,fun p f=>(by cases f),B9 0⟩;rw[v,e,Xjj (by simpa using h.w.cj.r.dead A (FI hi))];rfl
theorem Xia(h:Ff pn were c l j ns):Ff pn were c l (j+1) (itQ 1 ns):=by
 refine⟨Xdx.it 1 h.r,fun i m hi hm=>?_⟩;refine Xck (W:=Ff pn were c l j) (Q:=Lvl c l i (j+1)) (fun _ h=>h.r.w.cj) Xcf (Xbb (.inr rfl)) hi (fun ns n h f ht hi m hm=>?_) 0 h (Xfp h.r hi) hi m hm;rw[FN h.r.w.cj.r f]at hm;rw[← A5 hm];obtain⟨y,h1,-,-,A⟩:=h.told hi f;rw[A];exact(Xbw h.r.w.cj.r.circ.2 hi h.r.w.cj.r.two (by have:=h.r.w.cj.r.cc;omega) (h.v _ y (FI hi) h1)).1
theorem Xhz(h:Fc pn were c l ns):Ff pn were c l 0 ns:=⟨h,fun i m hi hm=>⟨m.table.succ,by rw[List.take_zero];rfl⟩⟩
theorem Xha(h:Fc pn were c l ns):∀ j,Ff pn were c l j (itQ j ns)
 | 0=>Xhz h
 | j+1=>by rw[Zrc];exact Xia (Xha h j)
structure Fg (pn:Int→Zr) (were:List Int) (c:Int) (l:List Zr) (ns:List (Int×Nd)):Prop where
  ll:Ff pn were c l c.toNat ns
  e:∀ i m,i<l.length→YC (lp l i).addr ns=some m→m.table.succ=(Wf l i).take c.toNat
def Exa(c:Int)(l:List Zr)(i:Nat)(ns:List (Int×Nd)):Prop:=i<l.length→∀ m,YC (lp l i).addr ns=some m→m.table.succ=(Wf l i).take c.toNat
theorem Xbe:Stays (Ff pn were c l c.toNat) (Exa c l i) where
 t3:=fun ns x h A hi m hm=>by
  obtain⟨m0,f⟩:=h.r.w.cj.at hi;rcases Xau h.r.w.cj.r f hm with e|⟨z,C,e⟩ <;> rw[e,A hi m0 f];exact Xjg.2 fun q B=>by simpa using Xae h.r.w.cj.r C hi q (F9 B)
 t2:=fun ns x h A hi m hm=>by
  obtain⟨m0,f⟩:=h.r.w.cj.at hi;rcases Xav h.r.w.cj.r f hm with e|⟨z,C,e⟩ <;> rw[e,A hi m0 f];exact Xjg.2 fun q B=>by simpa using Xae h.r.w.cj.r C hi q (F9 B)
 t1:=fun ns x h A hi m hm=>by
  obtain⟨m0,f⟩:=h.r.w.cj.at hi;by_cases e:(lp l i).addr=x
  ·subst e;rw[FN h.r.w.cj.r f]at hm;rw[← A5 hm];obtain⟨y,h1,-,-,E⟩:=h.told hi f;rw[E];exact(Xbw h.r.w.cj.r.circ.2 hi h.r.w.cj.r.two (by have:=h.r.w.cj.r.cc;omega) (h.v _ y (FI hi) h1)).2 (B9 _)
  rw[Xbx h.r.w.cj.r e f hm];exact A hi m0 f
theorem Xbn:Clo (Fg pn were c l):=⟨fun ns x h=>⟨Xcf.t1 ns x h.ll,fun i m hi hm=>Xbe.t1 ns x h.ll (fun hi m=>h.e i m hi) hi m hm⟩,fun ns x h=>⟨Xcf.t3 ns x h.ll,fun i m hi hm=>Xbe.t3 ns x h.ll (fun hi m=>h.e i m hi) hi m hm⟩,fun ns x h=>⟨Xcf.t2 ns x h.ll,fun i m hi hm=>Xbe.t2 ns x h.ll (fun hi m=>h.e i m hi) hi m hm⟩⟩
theorem Xjb(h:W1 pn were c l ns):Fg pn were c l (itQ (9+(c.toNat+1)) ns):=by
 rw[Zrc,Zrc];have f:=Xha (Xhk h) c.toNat;refine⟨Xcf.it 1 f,fun i m hi hm=>?_⟩;refine Xck (W:=Ff pn were c l c.toNat) (Q:=Exa c l i) (fun _ h=>h.r.w.cj) Xcf Xbe hi (fun ns n h A ht hi m hm=>?_) 0 f (Xfp f.r hi) hi m hm;rw[FN h.r.w.cj.r A]at hm;rw[← A5 hm];obtain⟨y,h1,-,-,B⟩:=h.told hi A;rw[B];exact(Xbw h.r.w.cj.r.circ.2 hi h.r.w.cj.r.two (by have:=h.r.w.cj.r.cc;omega) (h.v _ y (FI hi) h1)).2 (B9 _)
end
theorem Xcp{s:Zr}{id:Plc}{av:List Int}{P:Zr→Prop}:∀{xs:List Zr} {b:Zr×Bool},(b.2=true→P b.1)→(∀ p∈xs,p.addr∉av→Uh s.id p.id id→P p) →
 ((xs.foldl (Vb s id av) b).2=true→P (xs.foldl (Vb s id av) b).1)∧((b.2=true∨∃ p∈xs,p.addr∉av∧Uh s.id p.id id)→(xs.foldl (Vb s id av) b).2=true)
 | [],b,hb,_=>⟨hb,fun h=>h.elim (fun q=>q) fun⟨p,f,_⟩=>by cases f⟩
 | x::xs,b,hb,hx=>by
  have C:(Vb s id av b x).2=true→P (Vb s id av b x).1:=by
   unfold Vb;split
   ·exact hb
   rename_i v;rw[not_or,I0]at v;split
   ·exact fun _=>hx x B1 v.1 v.2
   exact hb
  have h:=Xcp (s:=s) (id:=id) (av:=av) (P:=P) (xs:=xs) (b:=Vb s id av b x) C fun p f=>hx p (B2 _ f);rw[G6];refine⟨h.1,fun q=>h.2 ?_⟩;have key:b.2=true∨(x.addr∉av∧Uh s.id x.id id)→(Vb s id av b x).2=true:=by
   unfold Vb;intro q;split
   ·rename_i v;refine q.elim (fun e=>e) fun e=>?_;exact v.elim (fun B=>absurd B e.1) fun B=>absurd e.2 B
   split
   ·rfl
   rename_i A;rw[not_or]at A;simpa using A.1
  rcases q with q|⟨p,f,q⟩
  ·exact .inl (key (.inl q))
  rcases B7.1 f with rfl|f
  ·exact .inl (key (.inr q))
  exact .inr ⟨p,f,q⟩
theorem Xdi{t:Tb}{id:Plc}{av:List Int}{p:Zr}(f:p∈Wy t)(ha:p.addr∉av)(v:Uh t.self.id p.id id):
 (YJ t id av).2=true∧(YJ t id av).1∈Wy t∧(YJ t id av).1.addr∉av∧Uh t.self.id (YJ t id av).1.id id:=by
 have h:=Xcp (s:=t.self) (id:=id) (av:=av) (P:=fun p=>p∈Wy t∧p.addr∉av∧Uh t.self.id p.id id) (xs:=Wy t) (b:=(Yj,false)) (fun q=>by cases q) fun p h1 h2 h3=>⟨h1,h2,h3⟩
 have h1:(YJ t id av).2=true:=h.2 (.inr ⟨p,f,ha,v⟩);exact⟨h1,h.1 h1⟩
theorem Xdh{a f x:Plc}(h:¬RL a x f)(hx:x≠a)(B:f≠a):Uh a f x:=by
 rw[Zim]at h;rw[Zgn];have A:=Ux a x;have v:=Ux a f;omega
theorem Xgx{s a q x:Plc}(h1:Uh s a x)(h2:Uh a q x):q≠s:=fun e=>by
 subst e;rw[Zgn]at h1 h2;have f:=Ux q a;have v:=Ux q x;have C:=Ux a q;have A:=Ux a x;have B:=a.isLt;have E:=x.isLt;have G:=q.isLt;omega
section
variable {pn:Int→Zr} {were:List Int} {ns:List (Int×Nd)} {b c x:Int} {n m m':Nd} {l:List Zr} {i k j a:Nat} {t:Tb} {p:Zr}
theorem Fg.cj(h:Fg pn were c l ns):Fa pn were c l ns:=h.ll.r.w.cj
theorem Xbu{t:Tb}(ht:TG t)(v:p∈Wy t):Ys t.self p:=by
 obtain⟨h1,h2,h3⟩:=Zhq v;have f:p≠Yj:=fun e=>by rw[e]at h2;exact absurd h2 jM
 rcases B7.1 h1 with rfl|h1
 ·exact ht.2.1.resolve_left f
 rcases B8.1 h1 with h1|h1
 ·exact ht.2.2.2.2.1.1 p h1
 exact(ht.2.2.2.2.2 p h1).resolve_left f
theorem Fg.first(h:Fg pn were c l ns)(hi:i<l.length){T:Tb}(hs:T.self=lp l i)(f:T.succ=(Wf l i).take c.toNat):Yv T=lp l (nx l i)∧lp l (nx l i)∈T.succ:=by
 obtain⟨t,A,-⟩:=FL hi h.cj.r.two;have B:=h.cj.r.cc;obtain⟨q,v⟩:∃ q,c.toNat=q+1:=⟨c.toNat-1,by omega⟩
 rw[A,v,List.take_succ_cons]at f;refine⟨by unfold Yv;rw[f];rfl,by rw[f];exact B1⟩
theorem Xbt(h:Uv l)(hi:i<l.length)(hk:k<l.length)(f:i≠k):(lp l i).id≠(lp l k).id:=by
 rw[FJ hi,FJ hk];exact Br h hi hk f
theorem Xek(h:Fg pn were c l ns)(hi:i<l.length)(hm:YC (lp l i).addr ns=some m):lp l (nx l i)∈Wy m.table:=by
 have hs:=h.cj.r.self hi hm;have f:=(h.first hi hs (h.e i m hi hm)).2;have ht:=(h.cj.r.wn.get hm).1.1;have A:=ht.2.2.2.2.1.1 _ f;have C:=EZ (p:=lp l (nx l i)) ht (B2 _ (C5 _ f)) (QA A);obtain⟨q,v,e⟩:=C0.1 C;have B:=Pd (h.cj.r.wn.get hm).2.2 q v;have:q=lp l (nx l i):=by rw[AJ h.cj.r.wn B,e,h.cj.r.me _ (FI hi)]
 grind
def Xbg(m R:Nd)(o:Zr):Prop:=(R.table=m.table∧R.cursor=m.cursor∧R.avoid=m.avoid∧R.findTo≠-1)∨∃ m2:Nd,m2.table=m.table∧m2.cursor=m.cursor∧m2.findTo=-1∧R=WZ m2 o
theorem Xdn(h:Fg pn were c l ns)(hi:i<l.length){id:Plc}(hid:id≠(lp l i).id):∀(F w:Nat) (m:Nd) (q:Zr),m.joined=true→m.table.self=lp l i→m.findID=id→InW pn were q→Ys (lp l i) q→m.findTo=q.addr→q.addr∉m.avoid→Uh (lp l i).id q.id id →
 (∀ z∈m.avoid,YC z ns=none)→(∀ a,a<l.length→q=lp l a→ahead l q.id id<w)→w<F→m.hops+w≤31→Xbg m (XS ns F m) (lp l (Ve l id))
 | 0,w,_,_,_,_,_,_,_,_,_,_,_,_,hF,_=>absurd hF (Xjs w)
 | F+1,w,m,q,hj,hs,hf,hq,hqo,hqa,hqv,hop,hav,hw,hF,hh=>by
  unfold XS;cases hx:Vz ns m.table.self m.findTo with
  | none =>
   show Xbg m m _;exact .inl ⟨rfl,rfl,rfl,fun e=>by have:=hqo.1.1;rw[hqa]at e;omega⟩
  | some x =>
   obtain⟨E,ak,aj⟩:=Vi hx;rw[hqa]at E;obtain⟨a,ha,ea⟩:=Xcb h.cj.r E;have U:q=lp l a:=by rw[AJ h.cj.r.wn hq,ea,h.cj.r.me a ha]
   subst U;have A:=h.cj.r.self ha E;have ae:=h.e a x ha E;obtain⟨C,al⟩:=h.first ha A ae
   have B:=FI ha;have aa:id≠(lp l a).id:=fun e=>by
    rw[Zgn]at hop;rw[e]at hop hid;have c1:=Ux (lp l i).id (lp l a).id;omega
   show Xbg m (match (YF m (Xq x (Xl m))).2 with
    | []=>(YF m (Xq x (Xl m))).1
    | _=>XS ns F (YF m (Xq x (Xl m))).1) _
   have h1:m.findTo=(Xq x (Xl m)).frm.addr:=by show m.findTo=x.table.self.addr;rw[A,hqa]
   cases hd:(WV x.table id).2 with
   | true =>
    have f:(Xq x (Xl m)).done=true:=by
     show((WV x.table m.findID).2 || _)=true;rw[hf,hd];rfl
    have v:(Xq x (Xl m)).peer=lp l (nx l a):=by rw[Hh f,C]
    have I:Ve l id=nx l a:=by
     have hh:=of_decide_eq_true hd;rw[C,A,FJ ha,FJ B]at hh;exact Li h.cj.r.circ.2 ha B rfl hh
    have H:YF m (Xq x (Xl m))=(WZ { m with findTo:=-1 } (lp l (nx l a)),[]):=by
     unfold YF;rw[A4 (fun e=>e.elim (fun e=>e h1) fun e=>e rfl),A6 f];dsimp only;rw[v,A6];refine⟨hj,?_⟩;rw[hs];by_cases e:nx l a=i
     ·right;rw[e]
     exact .inl (FW h.cj.r.circ.2 hi B e)
    rw[H,I];show Xbg m (WZ { m with findTo:=-1 } (lp l (nx l a))) _;exact .inr ⟨{ m with findTo:=-1 },rfl,rfl,rfl,rfl⟩
   | false =>
    have af:¬RL (lp l a).id id (lp l (nx l a)).id:=by
     have hh:=of_decide_eq_false hd
     rwa [C,A]at hh
    have T:Uh (lp l a).id (lp l (nx l a)).id id:=Xdh af aa (Xbt h.cj.r.circ.2 B ha (FV ha h.cj.r.two));have ag:(lp l (nx l a)).addr∉m.avoid:=fun e=>by
     obtain⟨z,hz⟩:=h.cj.at B;rw[hav _ e]at hz;cases hz
    obtain⟨g1,g2,g3,g4⟩:=Xdi (t:=x.table) (id:=id) (av:=m.avoid) (Xek h ha E) ag (by rw[A];exact T);rw[A]at g4;obtain⟨q2,V⟩:∃ q2,(YJ x.table id m.avoid).1=q2:=⟨_,rfl⟩
    rw[V]at g2 g3 g4;have f:(Xq x (Xl m)).done=false:=by
     show((WV x.table m.findID).2 || !(YJ x.table m.findID m.avoid).2)=false;rw[hf,hd,g1];rfl
    have v:(Xq x (Xl m)).peer=q2:=by
     show(if((WV x.table m.findID).2 || !(YJ x.table m.findID m.avoid).2)=true then(WV x.table m.findID).1 else(YJ x.table m.findID m.avoid).1)=q2;rw[hf,hd,g1,V];rfl
    have ad:=Pd (h.cj.r.wn.get E).2.2 q2 g2;have G:=Xbu (h.cj.r.wn.get E).1.1 g2;rw[A]at G;have O:q2.id≠(lp l i).id:=Xgx hop g4;have L:Ys (lp l i) q2:=⟨G.1,fun e=>O (by
     have:q2=lp l i:=by rw[AJ h.cj.r.wn ad,e,h.cj.r.me i hi]
     rw[this]),O⟩
    have H:YF m (Xq x (Xl m))=UY { m with hops:=m.hops+1 } q2.addr:=by
     unfold YF;rw[A4 (fun e=>e.elim (fun e=>e h1) fun e=>e rfl),A4 (by rw[f];decide),v,A4];rintro(e|e|e|e)
     ·exact e (by rw[hs];exact L)
     ·exact g3 e
     ·rw[← h1,hqa]at e;exact G.2.1 e
     omega
    have ah:∀ a2,a2<l.length→q2=lp l a2→ahead l q2.id id<w-1:=fun a2 ab e2=>by
     have h5:=hw a ha rfl;have h6:ahead l q2.id id<ahead l (lp l a).id id:=by
      rw[e2]at g4 ⊢;rw[FJ ab]at g4 ⊢;exact Zdr ab g4
     omega
    have ai:=hw a ha rfl;have K:=Xdn h hi hid F (w-1) (UY { m with hops:=m.hops+1 } q2.addr).1 q2 hj hs hf ad L rfl g3 (Zbu hop g4) hav ah jD (by show m.hops+1+((w-1:Nat):Int)≤31;omega);rw[H];show Xbg m (XS ns F (UY { m with hops:=m.hops+1 } q2.addr).1) _;rcases K with⟨r1,r2,r3,r4⟩|⟨m2,r1,r2,r3,r4⟩
    ·exact .inl ⟨r1,r2,r3,r4⟩
    exact .inr ⟨m2,r1,r2,r3,r4⟩
end
section
variable {pn:Int→Zr} {were:List Int} {ns:List (Int×Nd)} {b c x:Int} {n m m':Nd} {l:List Zr} {i k j a:Nat} {t:Tb} {p:Zr}
theorem Xdt(h:Fg pn were c l ns)(hi:i<l.length){T:Tb}(ht:TG T)(hs:T.self=lp l i)(v:GoodT (InW pn were) T)(E:T.succ=(Wf l i).take c.toNat):lp l (nx l i)∈Wy T:=by
 have f:=(h.first hi hs E).2;have B:=ht.2.2.2.2.1.1 _ f;have G:=EZ (p:=lp l (nx l i)) ht (B2 _ (C5 _ f)) (QA B);obtain⟨q,A,e⟩:=C0.1 G;have C:=Pd v q A;have:q=lp l (nx l i):=by rw[AJ h.cj.r.wn C,e,h.cj.r.me _ (FI hi)]
 grind
theorem Xch(n:Nd):(unfind n).joined=n.joined∧(unfind n).findTo=-1∧(unfind n).cursor=n.cursor:=by
 obtain⟨t,e⟩:=QT n;grind
theorem Xda(h:TG n.table):TG (unfind n).table:=by
 unfold unfind;split
 ·exact h
 exact Tf h
theorem Fg.unfind(h:Fg pn were c l ns)(hi:i<l.length)(f:YC (lp l i).addr ns=some n):(Go.Esp.unfind n).table.succ=(Wf l i).take c.toNat:=by
 unfold Go.Esp.unfind;split
 ·exact h.e i n hi f
 show(Xd n.table n.findTo).succ=_;rw[Xbv,h.e i n hi f];exact Xjg.2 fun q v=>by simpa using Xae h.cj.r (h.cj.r.d _ n f).2.2 hi q (F9 v)
theorem Xep{s:Plc}{k:Nat}(hk:k<160):s+To k≠s:=fun e=>by
 have h1:=Zyn (S:=s) (p:=To k);rw[e,HT hk]at h1;have h2:=Ux s s;have h3:0<2 ^ k:=Nat.pow_pos jM;omega
theorem Xhd(h:Fg pn were c l ns)(hL:l.length≤30)(hi:i<l.length)(O:YC (lp l i).addr ns=some n)(G:∀ z∈(unfind n).avoid,YC z ns=none):
 Xbg (unfind n) (OR ns n) (lp l (Ve l (TX (unfind n)))):=by
 have hw:=h.cj.r.wn.get O;have hj:=h.cj.r.j _ n O;have af:=hw.1.2.2.2.1;obtain⟨e1,e2,e3⟩:=Xch n;have f:(unfind n).table.self=lp l i:=(KA n).trans (h.cj.r.self hi O);have L:=Xda hw.1.1;have K:=Ps hw.2.2;have E:=h.unfind hi O;obtain⟨A,ae⟩:=h.first hi f E
 have ad:=Xdt h hi L f K E;unfold OR;rw[A4 zN];rw[hj]at e1;have hid:TX (unfind n)≠(lp l i).id:=by
  unfold TX;rw[f,e3];exact Xep jD
 generalize unfind n=U at *;obtain⟨id,T⟩:∃ id,TX U=id:=⟨_,rfl⟩
 rw[T]at hid ⊢;have v:=FI hi;by_cases hd:(WV U.table id).2=true
 ·rw[A6 hd];have B:Ve l id=nx l i:=by
   have hh:=of_decide_eq_true hd;rw[A,f,FJ hi,FJ v]at hh;exact Li h.cj.r.circ.2 hi v rfl hh
  have hp:(WV U.table id).1=lp l (nx l i):=A;rw[hp,B];exact .inr ⟨U,rfl,rfl,e2,rfl⟩
 rw[A4 hd];have V:¬RL (lp l i).id id (lp l (nx l i)).id:=fun q=>hd (by
  rw[← f,← A]at q;exact decide_eq_true q)
 have H:Uh (lp l i).id (lp l (nx l i)).id id:=Xdh V hid (Xbt h.cj.r.circ.2 v hi (FV hi h.cj.r.two));have aa:(lp l (nx l i)).addr∉U.avoid:=fun e=>by
  obtain⟨z,hz⟩:=h.cj.at v;rw[G _ e]at hz;cases hz
 obtain⟨g1,g2,g3,g4⟩:=Xdi (t:=U.table) (id:=id) (av:=U.avoid) ad aa (by rw[f];exact H);rw[f]at g4;rw[A4 (by rw[g1];decide)];generalize (YJ U.table id U.avoid).1=q at *;have ab:=Pd K q g2;have I:=Xbu L g2;rw[f]at I;have C:=Xdn h hi hid 33 (l.length+1) (UY { U with findID:=id,hops:=0 } q.addr).1 q e1 f rfl ab I rfl g3 g4 G (fun a ha e=>Nat.lt_succ_of_le (List.countP_le_length ..)) jD (by show(0:Int)+((l.length+1:Nat):Int)≤31;omega);rcases C with⟨r1,r2,r3,r4⟩|⟨m2,r1,r2,r3,r4⟩
 ·exact .inl ⟨r1,r2,r3,r4⟩
 exact .inr ⟨m2,r1,r2,r3,r4⟩
end
section
variable {pn:Int→Zr} {were:List Int} {ns:List (Int×Nd)} {b c x:Int} {n m m':Nd} {l:List Zr} {i k j a g:Nat} {t:Tb} {p:Zr}
def FgR(l:List Zr)(i:Nat)(F:List Zr)(j:Nat):Prop:=F[j]?=some (MN l i (lp l i) j)
def Nbh(l:List Zr)(i k:Nat):Nat:=l.countP fun p=>decide (2 ^ k≤D (lp l i).id p.id)
def Fi(l:List Zr)(i g:Nat)(F:List Zr)(k:Nat):Prop:=(∀ j,j<160→FgR l i F j)∨((∀ j,j<k→FgR l i F j)∧Nbh l i k+1≤g)∨Nbh l i k+1+l.length≤g
theorem Xec{s:Plc}:D s s=0:=by
 have:=Ux s s;omega
theorem Xih(hi:i<l.length):Nbh l i k+1≤l.length:=by
 have:=GB (l:=l) (p:=fun p=>decide (2 ^ k≤D (lp l i).id p.id)) (q:=fun _=>true) (fun _ _ _=>rfl) ⟨lp l i,by rw[FJ hi];exact C1 hi,rfl,decide_eq_false fun h=>by
  rw[Xec]at h;have:0<2 ^ k:=Nat.pow_pos jM;omega⟩
 rw[Xjr]at this;exact this
theorem Xix(hi:i<l.length)(F:List Zr)(k:Nat):Fi l i (2 * l.length) F k:=.inr (.inr (by have:=Xih (k:=k) hi;omega))
theorem Xcl{F:List Zr}(h:Fi l i 0 F k):∀ j,j<160→FgR l i F j:=by
 rcases h with h|⟨-,h⟩|h
 ·exact h
 ·omega
 omega
theorem Xgv(h:Xk l)(hi:i<l.length){T:Tb}(L:TG T)(hs:T.self=lp l i)(hk:k<160){o:Nat}(v:o<l.length)(A:Ve l ((lp l i).id+To k)=o)(B:Fi l i (g+1) T.fingers k):
 (WF T k (lp l o)).2.2=0∧(WF T k (lp l o)).1.self=T.self∧(WF T k (lp l o)).1.pred=T.pred∧(WF T k (lp l o)).1.succ=T.succ∧Fi l i g (WF T k (lp l o)).1.fingers (WF T k (lp l o)).2.1.toNat:=by
 have H:lp l o=T.self∨Ys T.self (lp l o):=by
  rw[hs];by_cases e:o=i
  ·subst e;exact .inl rfl
  exact .inr (FW h.2 hi v e)
 rw[ED L hk H rfl];obtain⟨g1,g2⟩:=KS (s:=T.self) (p:=lp l o) hk;obtain⟨e,he⟩:∃ e,WA T.self (lp l o) k k (160-k)=e:=⟨_,rfl⟩
 have I:∀ j,k<j→j<e→Gh T.self (lp l o) j=true:=fun j h1 h2=>KR (n:=160-k) (j:=k) j h1 (Nat.le_of_lt h1) (by rw[he];exact h2);have C:e<160→Gh T.self (lp l o) e=false:=fun h9=>by
  have:=Xbr (s:=T.self) (p:=lp l o) (k:=k) (n:=160-k) (j:=k) (by rw[he];omega)
  rwa [he]at this
 rw[he]at g1 g2;rw[he];refine⟨rfl,rfl,rfl,rfl,?_⟩;have hlen:T.fingers.length=160:=L.2.2.2.1;have new:∀ j,k≤j→j<e→MN l i (lp l i) j=Tt T (lp l o):=fun j h1 h2=>by
  rw[FJ hi]at A hs ⊢;rw[FJ v];by_cases ej:j=k
  ·subst ej;exact Iz h.2 hi v A T hs
  have ha:=I j jD h2;rw[hs,FJ v]at ha;exact Iz h.2 hi v (Zko h.2 hi h1 jD v A (of_decide_eq_true ha)) T hs
 obtain⟨F',G⟩:∃ F',ptW T.fingers k e (Tt T (lp l o))=F':=⟨_,rfl⟩
 have at':∀ j,j<160→(k≤j∧j<e)∨FgR l i T.fingers j→FgR l i F' j:=fun j hj E=>by
  have H:=Xik (l:=T.fingers) (k:=k) (j:=e) (i:=j) (f:=Tt T (lp l o)) jD jD jD;rw[G]at H;unfold FgR;rw[H];by_cases hc:k≤j∧j<e
  ·rw[A6 hc,new j hc.1 hc.2]
  rw[A4 hc];have E:=E.resolve_left hc;unfold FgR at E;rw[A7 jD]at E;exact E
 rw[G];rcases B with B|B
 ·exact .inl fun j hj=>at' j hj (.inr (B j hj))
 by_cases h160:e=160
 ·rcases B with⟨h1,h2⟩|h1
  ·exact .inl fun j hj=>at' j hj ((C7 j k).elim (fun q=>.inr (h1 j q)) fun q=>.inl ⟨q,by omega⟩)
  rw[A6 h160];refine .inr (.inl ⟨fun j hj=>absurd hj (Xjs j),?_⟩);have:=Xih (k:=0) hi;show Nbh l i 0+1≤g;omega
 rw[A4 h160];have aa:Nbh l i e<Nbh l i k:=by
  have h9:=of_decide_eq_false (C jD);rw[hs,Zim]at h9;have e1:D (lp l i).id ((lp l i).id+To e)=2 ^ e:=by rw[Zyn,HT jD]
  have U:D (lp l i).id ((lp l i).id+To k)=2 ^ k:=by rw[Zyn,HT hk]
  have K:2 ^ k<2 ^ e:=Nat.pow_lt_pow_right jM g1;have hE:2 ^ e<2 ^ 160:=Nat.pow_lt_pow_right jM jD;have hx:((lp l i).id+To e).toNat≠(lp l i).id.toNat:=fun q=>Xep (k:=e) jD (J5 q);rw[not_or,not_and,not_or]at h9;obtain⟨n1,n2,n3⟩:=And.intro h9.1 (h9.2 hx);have n4:D (lp l i).id (lp l o).id≠2 ^ e:=fun q=>n1 (A9 BitVec.toNat (Ybc (S:=(lp l i).id) (by rw[e1,q])));have m1:=EF h.2 v A hi;rw[← FJ v,← FJ hi,Zqp (S:=(lp l i).id) (x:=(lp l i).id+To k) (t:=(lp l o).id),Zqp (S:=(lp l i).id) (x:=(lp l i).id+To k) (t:=(lp l i).id),U,Xec]at m1;have c1:=Ux (lp l i).id (lp l o).id;have O:2 ^ k≤D (lp l i).id (lp l o).id:=by
   have h0:0<2 ^ k:=Nat.pow_pos jM;rw[A4 (by omega:¬2 ^ k≤0)]at m1;split at m1
   ·assumption
   omega
  exact GB (fun y _ V=>decide_eq_true (H7 (Nat.le_of_lt K) (of_decide_eq_true V))) ⟨lp l o,by rw[FJ v];exact C1 v,decide_eq_true O,decide_eq_false jD⟩
 rcases B with⟨h1,h2⟩|h1
 ·exact .inr (.inl ⟨fun j hj=>at' j (by simp at hj;omega) ((C7 j k).elim (fun q=>.inr (h1 j q)) fun q=>.inl ⟨q,by simpa using hj⟩),by simp;omega⟩)
 exact .inr (.inr jU)
end
section
variable {pn:Int→Zr} {were:List Int} {ns ns1:List (Int×Nd)} {b c x:Int} {n m m' n':Nd} {l:List Zr} {i k j a g d M:Nat} {t:Tb} {p:Zr} {F F':List Zr}
def FgS(l:List Zr)(i:Nat)(F F':List Zr):Prop:=∀ j,FgR l i F j→FgR l i F' j
theorem FgS.refl:FgS l i F F:=fun _ h=>h
theorem FgS.trans{f:List Zr}(h:FgS l i F F')(h1:FgS l i F' f):FgS l i F f:=fun j q=>h1 j (h j q)
theorem Fi.stay(h:Fi l i g F k)(hs:FgS l i F F'):Fi l i g F' k:=h.imp (fun q j hj=>hs j (q j hj)) fun q=>q.imp_left fun⟨q1,q2⟩=>⟨fun j hj=>hs j (q1 j hj),q2⟩
theorem Xex(hi:i<l.length)(j:Nat):MN l i (lp l i) j=Yj∨∃ o,o<l.length∧MN l i (lp l i) j=lp l o:=by
 unfold MN;split
 ·simp
 have f:Ve l ((lp l i).id+To j)<l.length:=Ua jD;refine .inr ⟨_,f,?_⟩;rfl
theorem Xce(h:Crc pn were c l ns)(hx:YC x ns=none)(hi:i<l.length)(t:Tb):FgS l i t.fingers (Xd t x).fingers:=fun j hj=>by
 unfold FgR at *;show(t.fingers.map fun p=>if p.addr=x then Yj else p)[j]?=_;rw[E6,hj];show some (if(MN l i (lp l i) j).addr=x then Yj else MN l i (lp l i) j)=_;rcases Xex hi j with e|⟨o,f,e⟩
 ·rw[e];split <;> rfl
 rw[e,A4 (h.dead hx f)]
theorem Xhe(h:Crc pn were c l ns)(f:YC x ns=some n)(hi:i<l.length):FgS l i n.table.fingers (unask n).table.fingers:=by
 unfold unask;split
 ·exact Xce h (h.d x n f).1 hi n.table
 exact FgS.refl
theorem Xge(h:Crc pn were c l ns)(f:YC x ns=some n)(hi:i<l.length):FgS l i n.table.fingers (unping n).table.fingers:=by
 unfold unping;split
 ·exact Xce h (h.d x n f).2.1 hi n.table
 exact FgS.refl
theorem Xgf(h:Crc pn were c l ns)(f:YC x ns=some n)(hi:i<l.length):FgS l i n.table.fingers (unfind n).table.fingers:=by
 unfold unfind;split
 ·exact FgS.refl
 exact Xce h (h.d x n f).2.2 hi n.table
def Xcj(n:Nd):Nat:=if n.findTo=-1 then 0 else n.avoid.length+1
def FF(l:List Zr)(i d M:Nat)(n:Nd):Prop:=(∀ j,j<160→FgR l i n.table.fingers j)∨∃ g,Fi l i g n.table.fingers n.cursor.toNat∧g * (d+1)+(d-Xcj n)≤M
theorem FF.zero(h:FF l i d 0 n):∀ j,j<160→FgR l i n.table.fingers j:=by
 rcases h with h|⟨g,h1,h2⟩
 ·exact h
 have:g=0:=by
  rcases Nat.eq_zero_or_pos g with e|e
  ·exact e
  have:0<g * (d+1):=Nat.mul_pos e (Nat.succ_pos d);omega
 subst this;exact Xcl h1
theorem Xiy(h:Fg pn were c l ns)(hL:l.length≤30)(hi:i<l.length)(E:YC (lp l i).addr ns=some n)(C:n.findTo=-1∨(n.findTo∉n.avoid∧n.avoid.length<16∧∀ z∈n.findTo::n.avoid,YC z ns=none))
 (hV:Xcj (OR ns n)≤d) (B:FF l i d (M+1) n):FF l i d M (OR ns n):=by
 have ho:=Xhd h hL hi E fun z A=>by
  unfold unfind at A;by_cases e:n.findTo=-1
  ·rw[A6 e]at A;cases A
  rw[A4 e]at A;have q:=(C.resolve_left e).2.2;rcases Ab A with A|rfl
  ·exact q z (B2 _ A)
  exact q _ B1
 have O:=(h.cj.r.wn.get E).1.2.2.2.1;obtain⟨-,e2,I⟩:=Xch n;have H:(unfind n).table.self=lp l i:=(KA n).trans (h.cj.r.self hi E);have aa:=Xda (h.cj.r.wn.get E).1.1;have hS:=Xgf h.cj.r E hi;have ab:(unfind n).avoid.length=Xcj n:=by
  unfold unfind Xcj;by_cases e:n.findTo=-1
  ·rw[A6 e,A6 e];rfl
  rw[A4 e,A4 e];have q:=C.resolve_left e;unfold Uf;rw[A4 (fun z=>z.elim q.1 fun z=>by omega)];rw[B3];rfl
 have hid:TX (unfind n)=(lp l i).id+To n.cursor.toNat:=by unfold TX;rw[H,I]
 rw[hid]at ho;rcases ho with⟨r1,T,V,G⟩|⟨m2,r1,T,V,G⟩
 ·rcases B with B|⟨g,v,hM⟩
  ·exact .inl fun j hj=>by rw[r1];exact hS j (B j hj)
  refine .inr ⟨g,?_,?_⟩
  ·rw[r1,T,I];exact v.stay hS
  have hv:Xcj (OR ns n)=Xcj n+1:=by
   rw[← ab,← V];exact A4 G
  omega
 obtain⟨o,f⟩:∃ o,Ve l ((lp l i).id+To n.cursor.toNat)=o:=⟨_,rfl⟩
 rw[f]at G;have U:o<l.length:=f ▸ Ua jD;have L:∀ g,Fi l i (g+1) n.table.fingers n.cursor.toNat→Fi l i g (OR ns n).table.fingers (OR ns n).cursor.toNat:=fun g v=>by
  obtain⟨k,hk⟩:=Int.eq_ofNat_of_zero_le O.1;have K:n.cursor.toNat=k:=by omega
  rw[K]at v f;obtain⟨p1,-,-,-,p5⟩:=Xgv h.cj.r.circ hi aa H (by omega:k<160) U f (v.stay hS);rw[G];unfold WZ;rw[r1,T,I,hk,A6 p1];exact p5
 have hv:Xcj (OR ns n)=0:=by
  rw[G,Qb];exact A6 V
 rcases B with B|⟨g,v,hM⟩
 ·exact .inl (Xcl (L 0 (.inl B)))
 cases g with
 | zero=>exact .inl (Xcl (L 0 (.inl (Xcl v))))
 | succ g =>
  refine .inr ⟨g,L g v,?_⟩;rw[Nat.succ_mul]at hM;omega
theorem Xfr(ht:FgS l i n.table.fingers m.table.fingers)(f:m.cursor=n.cursor)(v:m.findTo=n.findTo)(ha:m.avoid=n.avoid)(h:FF l i d M n):FF l i d M m:=by
 rcases h with h|⟨g,h1,h2⟩
 ·exact .inl fun j hj=>ht j (h j hj)
 refine .inr ⟨g,?_,?_⟩
 ·rw[f];exact h1.stay ht
 unfold Xcj at *;grind
theorem Xfs(f:AlikeP n m)(h:FF l i d M n):FF l i d M m:=by
 refine Xfr (fun j q=>?_) ?_ ?_ ?_ h <;> rw[f] <;> first|rfl|exact q
structure Fk (pn:Int→Zr) (were:List Int) (c:Int) (l:List Zr) (d:Nat) (ns:List (Int×Nd)):Prop where
  e:Fg pn were c l ns
  len:l.length≤30
  s:Shuns (fun _=>True) were ns
  new:∀ z m,YC z ns=some m→m.findTo=-1∨m.findTo∉m.avoid
  few:∀ A:List Int,A.Nodup→(∀ y∈A,y∈were∧YC y ns=none)→A.length≤d
  d16:d≤16
theorem Joined.lone{E:Int→Prop}(h:Joined ns):Lone E ns:=fun Y m _ hm hj=>by rw[h Y m hm]at hj;cases hj
theorem Fk.round(h:Fk pn were c l d ns):Fk pn were c l d (Xt ns):=by
 have hw:=h.e.cj.r.wn;have f:Lone (fun _=>True) ns:=h.e.cj.r.j.lone;refine⟨Xbn.round h.e,h.len,Shuns.round hw h.e.cj.r.kd f h.s,fun z m v=>?_,fun A h1 h2=>h.few A h1 fun y B=>⟨(h2 y B).1,(VF (Wh hw).2).1 (h2 y B).2⟩,h.d16⟩;exact(OA hw h.e.cj.r.kd f v ((Xbn.round h.e).cj.r.j _ m v)).2.2.2
theorem Xhf(hE:Fk pn were c l d ns)(hi:i<l.length)(H:YC (lp l i).addr ns=some n)(I:YC (lp l i).addr (Xt ns)=some n')(hf:FF l i d (M+1) n):FF l i d M n':=by
 obtain⟨h,hL,hS,L,hd,ak⟩:=hE;have hw:=h.cj.r.wn;obtain⟨f,l2,h1,h2,hr⟩:=CI hw H;obtain⟨m,hm,aa⟩:=Zis f hw h1 H;have Fl:=Xbn.go f h;have ad:=FN Fl.cj.r hm;have Fm:=Xbn.t1 _ (lp l i).addr Fl;have B:=QK Fm.cj.r.wn ad;have T:=Xbn.t3 _ (lp l i).addr Fm;have U:=RA T.cj.r.wn B;obtain⟨v,e3⟩:∃ v,T3 (lp l i).addr (T1 (lp l i).addr (goQ f ns))=v:=⟨_,rfl⟩
 have hs:TQ (lp l i).addr (goQ f ns)=T2 (lp l i).addr v:=by rw[← e3];rfl
 rw[e3]at B U T;obtain⟨m',h4,h5⟩:=Zis l2 (Xbn.t2 _ (lp l i).addr T).cj.r.wn h2 U;rw[hr,hs,h4]at I;have e9:=A5 I;subst e9;have ae:=h.cj.r.j _ n H;have A:Lone (fun _=>True) ns:=h.cj.r.j.lone;have ai:=Shuns.round hw h.cj.r.kd A hS;have hz:YC (lp l i).addr (Xt ns)=some m':=by rw[hr,hs];exact h4
 have ab:=(Xbn.round h).cj.r.j _ m' hz;have C:=(OA hw h.cj.r.kd A hz ab).2.2.2;have gone:∀ y,Gone (fun _=>True) ns y→YC y ns=none:=fun y q=>q.elim id fun q=>absurd trivial q;have af:∀ y,YC y (Xt ns)=none→YC y ns=none:=fun y q=>(VF (Wh hw).2).1 q;refine Xfs h5 ?_;obtain⟨R,hR⟩:∃ R,OR v (UH (fun x=>(YC x (T1 (lp l i).addr (goQ f ns))).isSome) (Rl m (goQ f ns)))=R:=⟨_,rfl⟩
 rw[hR]at h5 ⊢;have E:Xcj R≤d:=by
  have eV:Xcj m'=Xcj R:=by rw[h5];rfl
  rw[← eV];unfold Xcj;split
  ·exact C3 d
  rename_i hne;obtain⟨s1,s2⟩:=(ai _ m' hz ab).resolve_left hne;have:=hd (m'.findTo::m'.avoid) (D9.2 ⟨C.resolve_left hne,s1⟩) fun y K=>⟨(s2 y K).1,(s2 y K).2.elim (af y) fun q=>absurd trivial q⟩
  exact this
 rw[← hR]at E ⊢;obtain⟨V,ah⟩:∃ V,UH (fun x=>(YC x (T1 (lp l i).addr (goQ f ns))).isSome) (Rl m (goQ f ns))=V:=⟨_,rfl⟩
 obtain⟨t1,q1,x1,y1,ea,-⟩:=NG m (goQ f ns);obtain⟨t3,p3,r3,q3,u3,ec,-⟩:=Rk (fun x=>(YC x (T1 (lp l i).addr (goQ f ns))).isSome) (Rl m (goQ f ns));have et:=JI (d:=fun x=>(YC x (T1 (lp l i).addr (goQ f ns))).isSome) (n:=Rl m (goQ f ns));rw[ah]at E B ec et ⊢;have f0:m.findTo=n.findTo∧m.avoid=n.avoid:=by rw[aa];exact⟨rfl,rfl⟩
 have f1:V.cursor=m.cursor∧V.findTo=m.findTo∧V.avoid=m.avoid:=by rw[ec,ea];exact⟨rfl,rfl,rfl⟩
 refine Xiy T hL hi B ?_ E (Xfr (n:=m) ?_ f1.1 f1.2.1 f1.2.2 (Xfs aa hf))
 ·rw[f1.2.1,f1.2.2,f0.1,f0.2];refine Decidable.or_iff_not_imp_left.2 fun hne=>?_;obtain⟨s1,s2⟩:=(hS _ n H ae).resolve_left hne;have G:=(L _ n H).resolve_left hne;have O:∀ y∈n.findTo::n.avoid,y∈were∧YC y ns=none:=fun y K=>⟨(s2 y K).1,gone y (s2 y K).2⟩
  have aj:=hd (n.findTo::n.avoid) (D9.2 ⟨G,s1⟩) O;rw[C8]at aj;have ag:∀ z,YC z ns=none→YC z v=none:=fun z q=>by
   cases hg:YC z v with
   | none=>rfl
   | some y =>
    obtain⟨o,ho,e⟩:=(T.cj.r.live z).1 ⟨y,hg⟩;exact absurd e (h.cj.r.dead q ho)
  exact⟨G,by omega,fun z hz=>ag z (O z hz).2⟩
 rw[et];obtain⟨y,-,hfi,-,-⟩:=Fl.ll.told hi hm;have q1:=Xhe Fl.cj.r hm hi;rw[← hfi]at q1;exact q1.trans (Xge Fm.cj.r ad hi)
theorem Xhg:∀(j:Nat) {ns:List (Int×Nd)},Fk pn were c l d ns→Fk pn were c l d (itQ j ns)
 | 0,_,h=>h
 | j+1,_,h=>Xhg j h.round
theorem Xii:∀(M:Nat) {ns:List (Int×Nd)} {n n':Nd},Fk pn were c l d ns→i<l.length→YC (lp l i).addr ns=some n→YC (lp l i).addr (itQ M ns)=some n'→FF l i d M n→∀ j,j<160→FgR l i n'.table.fingers j
 | 0,ns,n,n',h,hi,hn,f,hf=>by
  have f:YC (lp l i).addr ns=some n':=f;rw[hn]at f;rw[← A5 f];exact hf.zero
 | M+1,ns,n,n',h,hi,hn,f,hf=>by
  obtain⟨m,hm⟩:=h.round.e.cj.at hi;exact Xii M h.round hi hm f (Xhf h hi hn hm hf)
theorem Xee(h:Fk pn were c l d ns)(hi:i<l.length)(f:YC (lp l i).addr (itQ (2 * l.length * (d+1)+d) ns)=some n):n.table=RH l c.toNat i (lp l i):=by
 have h9:=Xhg (2 * l.length * (d+1)+d) h;obtain⟨K,v⟩:=h.e.cj.at hi;have C:=Xii (d:=d) (2 * l.length * (d+1)+d) h hi v f (.inr ⟨2 * l.length,Xix hi _ _,by omega⟩);have I:=h9.e.cj.r.self hi f;have A:=h9.e.ll.r.pred hi f;have B:=h9.e.e i n hi f;have E:n.table.fingers.length=160:=(h9.e.cj.r.wn.get f).1.1.2.2.2.1;have H:n.table.fingers=(List.range 160).map (MN l i (lp l i)):=by
  refine J4 (by rw[E];simp) fun j h1 h2=>?_;have:=C j jD;unfold FgR at this;rw[A7 h1]at this;rw[A5 this,I7,List.getElem_range]
 have G:(Wf l i).getLastD Yj=lp l (pv l i):=by
  obtain⟨t,-,q⟩:=FL (FR hi) h.e.cj.r.two;rw[Xac hi]at q;rw[q];simp
 unfold RH;rw[G,← H,← B,← A,← I]
end
section
variable {pn:Int→Zr} {were:List Int} {ns:List (Int×Nd)} {b c x:Int} {n m m' n':Nd} {l:List Zr} {i k j a g d M:Nat}
theorem Fk.idl(h:Fk pn were c l d ns):Idl pn were l c.toNat (itQ (2 * l.length * (d+1)+d) ns):=by
 have h9:=Xhg (2 * l.length * (d+1)+d) h;have v:=h9.e.cj.r.cc;refine { wn:=h9.e.cj.r.wn,circ:=h9.e.cj.r.circ,rr:=by omega,j:=h9.e.cj.r.j,d:=h9.e.cj.r.d,all:=fun i hi=>?_,one:=fun z m hm=>?_,av:=fun z m hm=>?_ }
 ·obtain⟨m,hm⟩:=h9.e.cj.at hi;rw[FJ hi]at hm;grind
 ·obtain⟨i,hi,e⟩:=(h9.e.cj.r.live z).1 ⟨m,hm⟩;subst e;have ht:=Xee h hi hm;rw[FJ hi]at ht ⊢;exact⟨by rw[(h9.e.cj.r.kd _ m hm).1];omega,i,hi,rfl,ht⟩
 exact(h9.s z m hm (h9.e.cj.r.j z m hm)).imp_right fun q y f=>(q.2 y (B2 _ f)).2.elim id fun q=>absurd trivial q
structure Fq (were:List Int) (d:Nat) (ns:List (Int×Nd)):Prop where
  s:Shuns (fun _=>True) were ns
  new:∀ z m,YC z ns=some m→m.findTo=-1∨m.findTo∉m.avoid
  few:∀ A:List Int,A.Nodup→(∀ y∈A,y∈were∧YC y ns=none)→A.length≤d
theorem Fq.round(f:Crc pn were c l ns)(h:Fq were d ns):Fq were d (Xt ns):=by
 have v:Lone (fun _=>True) ns:=f.j.lone;refine⟨Shuns.round f.wn f.kd v h.s,fun z m B=>?_,fun A h1 h2=>h.few A h1 fun y C=>⟨(h2 y C).1,(VF (Wh f.wn).2).1 (h2 y C).2⟩⟩;exact(OA f.wn f.kd v B (f.j.kept (Le _ f.wn) (Wh f.wn).2 z m B)).2.2.2
theorem Fq.it:∀(j:Nat) {ns:List (Int×Nd)},Fa pn were c l ns→Fq were d ns→Fq were d (itQ j ns)
 | 0,_,_,h=>h
 | j+1,_,hr,h=>Fq.it j hr.round (h.round hr.r)
def Xag(c:Int)(L d:Nat):Nat:=9+(c.toNat+1)+(2 * L * (d+1)+d)
theorem Xgo(h:W1 pn were c l ns)(f:l.length≤30)(hs:Fq were d ns)(v:d≤16):Idl pn were l c.toNat (itQ (Xag c l.length d) ns):=by
 unfold Xag;rw[Zrc (9+(c.toNat+1)) (2 * l.length * (d+1)+d)];have h2:=hs.it (9+(c.toNat+1)) h.cj;exact Fk.idl ⟨Xjb h,f,h2.s,h2.new,h2.few,v⟩
end
theorem Xgr{D y:Int}{C:List Int}{K:Nat→List Int}{T:Nat→Nat}(H:∀ j,j<48→(K j).Pairwise (·<·))(E:∀ j,j<48→D∈K j)(G:∀ j,j<48→(K j).length≤4)
 (B:∀ j,j<48→∀ x,x≠y→(x∈K j↔x∈C)) (A:∀ j,j<47→T (j+1)=(T j+1) % 1000000) (v:∀ j,j<48→T j<1000000):∃ j,j<48∧(K j)[T j % (K j).length]?=some D:=by
 have f:∀ s t0,s≤24→(∀ j,j<24→T (s+j)=t0+j)→∃ j,j<48∧(K j)[T j % (K j).length]?=some D:=fun s t0 hs ht=>by
  obtain⟨j,h1,h2⟩:=Xgp (D:=D) (y:=y) (K:=fun j=>K (s+j)) (t0:=t0) (fun j hj=>H _ jD) (fun j hj=>E _ jD) (fun j hj=>G _ jD)
   (fun j hj x hx=>(B (s+j) jD x hx).trans (B (s+(j+1)) jD x hx).symm)
  exact⟨s+j,by omega,by rw[ht j h1];exact h2⟩
 by_cases hz:∃ s,s≤24∧T s=0
 ·obtain⟨s,h1,h2⟩:=hz;refine f s 0 h1 fun j=>?_
  induction j with
  | zero=>intro _;exact h2
  | succ j ih =>
   intro hj;rw[← Xjq,A _ jD,ih jD];omega
 refine f 0 (T 0) jD fun j=>?_
 induction j with
 | zero=>intro _;rfl
 | succ j ih =>
  intro hj;have h2:=A (0+j) jD;have h3:T (0+j+1)≠0:=fun e=>hz ⟨0+j+1,by omega,e⟩;have I:=v (0+j) jD;rw[← Xjq];omega
section
variable {pn:Int→Zr} {were:List Int} {ns:List (Int×Nd)} {b c x:Int} {n m m' n' a:Nd} {l:List Zr} {i k j g d M:Nat} {D:Zr}
def Ft(a:Nd):List Int:=(Wy (unping a).table).map Zr.addr
theorem FZ{p p':Zr}(h:Ptr l i p p')(f:¬PNd l i p'):p=p':=by
 rcases h with e|⟨e,-⟩|e
 ·exact e.symm
 ·exact absurd (.inl e) f
 exact absurd (.inr e) f
theorem Xdg(m:Nd):TA m=(Wy m.table)[m.turn.toNat % (Wy m.table).length]?:=by
 unfold TA;grind
theorem Xcg(a:Nd):(unping a).turn=a.turn:=by unfold unping;split <;> rfl
theorem Xfm(lv:Int→Bool)(hk:Ft a≠[]):(UH lv a).turn=(a.turn+1) % 1000000:=by
 unfold Ft at hk;have hlen:0<(Wy (unping a).table).length:=List.length_pos_iff.2 fun e=>hk (by rw[e];rfl);have e:=Xdg (unping a);rw[A7 (G5 _ hlen)]at e;unfold UH;rw[e,← Xcg a];rfl
theorem Xfn{lv:Int→Bool}(hk:(Ft a)[a.turn.toNat % (Ft a).length]?=some x)(f:lv x=false):(UH lv a).pingTo=x:=by
 unfold Ft at hk;rw[A8,E6]at hk;have e:=Xdg (unping a);rw[Xcg]at e;unfold UH;rw[e];cases hq:(Wy (unping a).table)[a.turn.toNat % (Wy (unping a).table).length]? with
 | none=>rw[hq]at hk;cases hk
 | some p =>
  rw[hq]at hk;have hx:p.addr=x:=A5 hk;show(if lv p.addr then -1 else p.addr)=x;rw[hx,f];rfl
theorem Xgi(h:Fa pn were c l ns)(hi:i<l.length)(hn:YC (lp l i).addr ns=some n)(I:YC (lp l i).addr (Xt ns)=some n')(E:¬PNd l i n'.table.pred):
 ∃ v L a,Xt ns=goQ L (T2 (lp l i).addr (T3 (lp l i).addr (T1 (lp l i).addr (goQ v ns))))∧YC (lp l i).addr (T1 (lp l i).addr (goQ v ns))=some a∧(unping a).table.pred=n'.table.pred∧a.turn=n.turn∧a.pingTo=n.pingTo∧(Ft a≠[]→n'.turn=(n.turn+1) % 1000000) ∧
  ((Ft a)[n.turn.toNat % (Ft a).length]?=some n'.table.pred.addr→n'.pingTo=n'.table.pred.addr)∧n.table.pred=n'.table.pred:=by
 have hw:=h.r.wn;obtain⟨v,L,h1,h2,hr⟩:=CI hw hn;obtain⟨m,hm,aa⟩:=Zis v hw h1 hn;have V:=Xas.go v h;have A:=FN V.r hm;have U:=Xas.t1 _ (lp l i).addr V;have B:=QK U.r.wn A;have Fp:=Xas.t3 _ (lp l i).addr U;have C:=RA Fp.r.wn B;have Fu:=Xas.t2 _ (lp l i).addr Fp;obtain⟨m',h4,h5⟩:=Zis L Fu.r.wn h2 C;have hz:YC (lp l i).addr (Xt ns)=some m':=by rw[hr];exact h4
 rw[I]at hz;have e9:=A5 hz;subst e9;have G:=FZ (Fa.go_ptr L Fu hi C h4) E;have H:=FZ (Xba Fp.r hi B C) (by rw[G];exact E);have K:=FZ (Xaz U.r hi A B) (by rw[H,G];exact E);have p1:=FZ (Xcy V.r V.j hi hm A) (by rw[K,H,G];exact E);have p0:=FZ (Fa.go_ptr v h hi hn hm) (by rw[p1,K,H,G];exact E);obtain⟨a,ha⟩:∃ a,Rl m (goQ v ns)=a:=⟨_,rfl⟩
 obtain⟨t1,q1,x1,y1,ea,-⟩:=NG m (goQ v ns);rw[ha]at A ea p1 K H G B C h5;obtain⟨lv,T⟩:∃ lv:Int→Bool,(fun x=>(YC x (T1 (lp l i).addr (goQ v ns))).isSome)=lv:=⟨_,rfl⟩
 rw[T]at K H G B C h5;have et:=JI lv a;have k3:=Gt (n:=UH lv a) (ns:=T3 (lp l i).addr (T1 (lp l i).addr (goQ v ns)));have f:a.turn=n.turn∧a.pingTo=n.pingTo:=by rw[ea,aa];exact⟨rfl,rfl⟩
 have O:n'.turn=(UH lv a).turn∧n'.pingTo=(UH lv a).pingTo:=by
  rw[h5];exact⟨k3.2.2,k3.2.1⟩
 refine⟨v,L,a,hr,A,?_,f.1,f.2,fun hk=>?_,fun hk=>?_,?_⟩
 ·rw[← et,H,G]
 ·rw[O.1,Xfm lv hk,f.1]
 ·rw[← f.1]at hk;rw[O.2];refine Xfn hk ?_;rw[← T];show(YC n'.table.pred.addr (T1 (lp l i).addr (goQ v ns))).isSome=false;have hd:YC n'.table.pred.addr (T1 (lp l i).addr (goQ v ns))=none:=by
   cases hg:YC n'.table.pred.addr (T1 (lp l i).addr (goQ v ns))with
   | none=>rfl
   | some y =>
    exfalso;have hJ:=(h.round.j i n' hi I).1;obtain⟨o,ho,eo⟩:=(U.r.live _).1 ⟨y,hg⟩;have ab:InW pn were n'.table.pred:=by
     have hT:=(h.round.r.wn.get I).2.2;exact hT.2.1 fun e=>E (.inl e)
    have hq:n'.table.pred=lp l o:=by rw[AJ h.r.wn ab,← eo,h.r.me o ho]
    rcases hJ with e|e|e
    ·exact E (.inl e)
    ·exact E (.inr e)
    rw[hq]at e;exact FU h.r.circ.2 h.r.two (FR hi) ho e
  rw[hd];rfl
 rw[p0,p1,K,H,G]
end
section
variable {pn:Int→Zr} {were:List Int} {ns:List (Int×Nd)} {b c x:Int} {n m m' n' a:Nd} {l:List Zr} {i k j g d M:Nat} {D:Zr} {Q:List (Int×Nd)→Prop}
theorem Xez(h:Fa pn were c l ns)(hi:i<l.length)(hn:YC (lp l i).addr ns=some n)(H:YC (lp l i).addr (Xt ns)=some n')(T:¬PNd l i n'.table.pred)(K:Stays (Fa pn were c l) Q)(A:Q ns):
 ∃ w a E,(Fa pn were c l w∧Q w∧YC (lp l i).addr w=some a∧Xt ns=goQ E (T2 (lp l i).addr (T3 (lp l i).addr w)))∧(Ft a).Pairwise (·<·)∧n'.table.pred.addr∈Ft a∧(lp l (nx l i)).addr∈Ft a∧(∀ z∈Ft a,z∈were∧z≠(lp l i).addr) ∧
  n'.turn=(n.turn+1) % 1000000∧((Ft a)[n.turn.toNat % (Ft a).length]?=some n'.table.pred.addr→n'.pingTo=n'.table.pred.addr)∧n.pingTo≠n'.table.pred.addr:=by
 obtain⟨L,E,a,hr,ha,O,e2,V,e4,e5,e6⟩:=Xgi h hi hn H T;have U:=Xas.go L h;have B:=Xas.t1 _ (lp l i).addr U;have I:=K.t1 _ (lp l i).addr U (K.goC Xas L h A);have hw:=B.r.wn.get ha;have hu:=Ec hw.1 hw.2.2;have v:(unping a).table.self=lp l i:=hu.2.1.trans (B.r.self hi ha);have hD:n'.table.pred≠Yj:=fun e=>T (.inl e);have f:n'.table.pred.addr∈Ft a:=by
  have:=EZ (p:=n'.table.pred) hu.1.1 (by rw[← O];exact B1) hD;exact this
 have hO:=Xcn B.r ha (B.j i a hi ha) hi;refine⟨_,a,E,⟨B,I,ha,hr⟩,IR J8,f,?_,fun z hz=>?_,e4 (fun e=>by rw[e]at f;cases f),e5,fun e=>?_⟩
 ·obtain⟨ds,tl,es,-⟩:=hO.2;have hm:lp l (nx l i)∈(unping a).table.succ:=by rw[es];exact D0 _ B1
  exact EZ hu.1.1 (B2 _ (C5 _ hm)) (QA (hu.1.1.2.2.2.2.1.1 _ hm))
 ·obtain⟨q,A,rfl⟩:=C0.1 hz;obtain⟨w,C,G⟩:=Pd hu.2.2 q A;refine⟨by rw[G,h.r.wn.at'];exact C,fun e=>?_⟩;exact(Zhq A).2.2 (by rw[e,v])
 have h0:0≤n'.table.pred.addr:=by
  obtain⟨q,A,e9⟩:=C0.1 f;rw[← e9];exact(Zhq A).2.1
 have hf:(unping a).table=Xd a.table n'.table.pred.addr:=by
  unfold unping;rw[A6 jD,V,e]
 rw[hf,Xad]at O;grind
theorem Xcc:∀(j:Nat) {ns:List (Int×Nd)} {m m':Nd},Fa pn were c l ns→i<l.length→YC (lp l i).addr ns=some m→YC (lp l i).addr (itQ j ns)=some m'→Ptr l i m.table.pred m'.table.pred
 | 0,ns,m,m',h,hi,hm,f=>by
  have f:YC (lp l i).addr ns=some m':=f;rw[hm]at f;rw[A5 f];exact .inl rfl
 | j+1,ns,m,m',h,hi,hm,f=>by
  obtain⟨m1,h1⟩:=h.round.at hi;exact(Fa.go_ptr _ h hi hm h1).trans (Xcc j h.round hi h1 f)
structure Fv (pn:Int→Zr) (were:List Int) (c:Int) (l:List Zr) (i:Nat) (Q:List (Int×Nd)→Prop) (D:Int) (ns:List (Int×Nd)) (K:List Int):Prop where
  w:∃ w a l2,Fa pn were c l w∧Q w∧YC (lp l i).addr w=some a∧Xt ns=goQ l2 (T2 (lp l i).addr (T3 (lp l i).addr w))∧K=Ft a
  rise:K.Pairwise (·<·)
  d:D∈K
  nx:(lp l (nx l i)).addr∈K
  sub:∀ z∈K,z∈were∧z≠(lp l i).addr
  turn:∃ n n',YC (lp l i).addr ns=some n∧YC (lp l i).addr (Xt ns)=some n'∧n'.turn=(n.turn+1) % 1000000∧(K[n.turn.toNat % K.length]?=some D→n'.pingTo=D)∧n.pingTo≠D
def Xbj(x:Int)(ns:List (Int×Nd)):Nat:=match YC x ns with
 | none=>0
 | some n=>n.turn.toNat
theorem Xdd{K:Nat→List Int}{C:List Int}{y D:Int}{s:Nat}(h:Fa pn were c l ns)(hi:i<l.length)(hlen:were.length≤5)(f:∀ j,j≤48→Fv pn were c l i Q D (itQ (s+j) ns) (K j))
 (H:∀ j,j<48→∀ z,z≠y→(z∈K j↔z∈C)):False:=by
 have hx:(lp l i).addr∈were:=by
  obtain⟨m,hm⟩:=h.at hi;obtain⟨w,hw,e⟩:=(h.r.wn.get hm).2.2.1;rw[h.r.self hi hm]at e;rw[e,h.r.wn.at'];exact hw
 have I:∀ j,j<48→(K j).length≤4:=fun j hj=>by
  have A:=f j jD;have hs:=Xar (p:=fun z=>decide (z≠(lp l i).addr)) (K:=K j) (L:=were) (A.rise.imp fun q=>by omega) fun z v _=>(A.sub z v).1;have h1:(K j).countP (fun z=>decide (z≠(lp l i).addr))=(K j).length:=List.countP_eq_length.2 fun z v=>decide_eq_true (A.sub z v).2;have h2:were.countP (fun z=>decide (z≠(lp l i).addr))<were.length:=by
   have:=GB (l:=were) (p:=fun z=>decide (z≠(lp l i).addr)) (q:=fun _=>true) (fun _ _ _=>rfl) ⟨_,hx,rfl,decide_eq_false fun q=>q rfl⟩
   rwa [Xjr]at this
  omega
 have E:∀ j,j≤48→Xbj (lp l i).addr (itQ (s+(j+1)) ns)=(Xbj (lp l i).addr (itQ (s+j) ns)+1) % 1000000∧Xbj (lp l i).addr (itQ (s+j) ns)<1000000:=fun j hj=>by
  obtain⟨n,n',h1,h2,h3,-,-⟩:=(f j hj).turn;have B:=h.it (s+j);have G:=(B.r.wn.get h1).1;rw[← Xjq,Nw];unfold Xbj;rw[h1,h2];show n'.turn.toNat=(n.turn.toNat+1) % 1000000∧n.turn.toNat<1000000;have ht:=G.2.2.2.2.2.2.1;omega
 obtain⟨j,hj,e⟩:=Xgr (D:=D) (y:=y) (C:=C) (K:=K) (T:=fun j=>Xbj (lp l i).addr (itQ (s+j) ns)) (fun j hj=>(f j jD).rise) (fun j hj=>(f j jD).d) I H (fun j hj=>(E j jD).1) (fun j hj=>(E j jD).2);obtain⟨n,n',h1,h2,-,V,-⟩:=(f j jD).turn;obtain⟨n2,n3,O,-,-,-,U⟩:=(f (j+1) jD).turn;rw[← Xjq,Nw,h2]at O;have e2:Xbj (lp l i).addr (itQ (s+j) ns)=n.turn.toNat:=by unfold Xbj;rw[h1]
 grind
theorem Xfb(B:Stays (Fa pn were c l) Q)(hi:i<l.length){D:Zr}(A:¬PNd l i D):∀(M:Nat) {ns:List (Int×Nd)},Fa pn were c l ns→Q ns→(∃ m,YC (lp l i).addr (itQ M ns)=some m∧m.table.pred=D) →
 ∃ K:Nat→List Int,∀ j,j<M→Fv pn were c l i Q D.addr (itQ j ns) (K j)
 | 0,ns,h,hq,_=>⟨fun _=>[],fun j hj=>absurd hj (Xjs j)⟩
 | M+1,ns,h,hq,⟨m,hm,hp⟩=>by
  have v:YC (lp l i).addr (itQ M (Xt ns))=some m:=hm;obtain⟨K,O⟩:=Xfb B hi A M h.round (B.roundC Xas h hq) ⟨m,v,hp⟩;obtain⟨n,C⟩:=h.at hi;obtain⟨n',f⟩:=h.round.at hi;have e:n'.table.pred=D:=by
   have:=Xcc M h.round hi f v;rw[← hp];exact FZ this (by rw[hp];exact A)
  obtain⟨w,a,I,⟨T,V,w3,w4⟩,r1,E,U,L,r5,G,H⟩:=Xez h hi C f (by rw[e];exact A) B hq;rw[e]at E G H;refine⟨fun j=>match j with
   | 0=>Ft a
   | j+1=>K j,fun j hj=>?_⟩
  cases j with
  | zero=>exact⟨⟨w,a,I,T,V,w3,w4,rfl⟩,r1,E,U,L,n,n',C,f,r5,G,H⟩
  | succ j=>exact O j jD
end
section
variable {pn:Int→Zr} {were:List Int} {ns:List (Int×Nd)} {b c x:Int} {n m m' n' a:Nd} {l:List Zr} {i j k:Nat} {D p:Zr}
theorem Xcd(v:Uv l)(hi:i<l.length)(h:Gap l i p):Ve l p.id=nx l i:=by
 have f:=FI hi;unfold Gap at h;rw[FJ hi,FJ f,Zgn]at h;exact Li v hi f rfl (Zim.2 (.inr h))
theorem Xdu(f:Uv l)(hi:i<l.length)(hk:k<l.length)(h:Gap l i p)(h1:Gap l k p):i=k:=by
 have:=(Xcd f hi h).symm.trans (Xcd f hk h1);rw[← FQ hi,this,FQ hk]
theorem Xbs(hi:i<l.length)(h3:3≤l.length):nx l (nx l i)≠i∧pv l i≠i∧pv l i≠nx l i:=by
 have h1:nx l (nx l i)≠i:=by
  have v:=FI hi;rcases EL hi with⟨C,B⟩|⟨C,B⟩
  ·have e:nx l i=i+1:=B;rw[e]at v ⊢;rcases EL v with⟨A,f⟩|⟨A,f⟩
   ·have:nx l (i+1)=i+1+1:=f;omega
   have:nx l (i+1)=0:=f;omega
  have e:nx l i=0:=B;rw[e]at v ⊢;rcases EL v with⟨A,f⟩|⟨A,f⟩
  ·have:nx l 0=0+1:=f;omega
  omega
 refine⟨h1,fun e=>?_,fun e=>?_⟩
 ·have:=Xac hi;grind
 have:=Xac hi;grind
theorem Xan(h:Crc pn were c l ns)(A:InW pn were p)(hk:k<l.length)(f:Gap l k p):∀ o,o<l.length→(lp l o).addr≠p.addr:=fun o v e=>by
 have:p=lp l o:=by rw[AJ h.wn A,← e,h.me o v]
 rw[this]at f;exact FU h.circ.2 h.two hk v f
theorem Xgc(h:Crc pn were c l ns)(v:InW pn were p)(hk:k<l.length)(hi:i<l.length)(f:Gap l k p)(ha:Yf p.addr):Ys (lp l i) p:=by
 refine⟨ha,fun e=>Xan h v hk f i hi e.symm,fun e=>?_⟩;refine FU h.circ.2 h.two hk hi ?_;unfold Gap at f ⊢
 rwa [← e]
theorem Xbf{s:Zr}{r:Int}(tl:List Zr):∀(ds acc:List Zr),(∀ q∈ds,Ys s q)→Ys s p→(acc.length:Int)+ds.length+1≤r→PQ (Wk s r acc (ds++p::tl)) p.addr
 | [],acc,_,hp,hr=>by
  rw[B6];unfold Wk;simp only[D5]at hr;rw[A4 (fun e=>e.elim (fun e=>e hp) fun e=>by omega)];split
  ·rename_i A;obtain⟨t,e⟩:=FM (s:=s) (r:=r) tl acc;rw[e];obtain⟨q,f,v⟩:=C0.1 A;exact C0.2 ⟨q,C5 _ f,v⟩
  obtain⟨t,e⟩:=FM (s:=s) (r:=r) tl (acc++[p]);rw[e];exact C0.2 ⟨p,C5 _ (D0 _ B1),rfl⟩
 | d::ds,acc,hd,hp,hr=>by
  rw[C8]at hr;rw[B4];unfold Wk;rw[A4 (fun e=>e.elim (fun e=>e (hd d B1)) fun e=>by omega)];split
  ·exact Xbf tl ds acc (fun q f=>hd q (B2 _ f)) hp jD
  exact Xbf tl ds (acc++[d]) (fun q f=>hd q (B2 _ f)) hp (by rw[B3,I6];omega)
def Xeb(were:List Int)(c:Int)(l:List Zr):Prop:=∀ A:List Int,A.Nodup→(∀ y∈A,y∈were∧∀ o,o<l.length→(lp l o).addr≠y)→(A.length:Int)+1≤c
def Fw(l:List Zr)(i:Nat)(ns:List (Int×Nd)):Prop:=∀ m,YC (lp l i).addr ns=some m→PQ m.table.succ (lp l (nx l (nx l i))).addr
theorem Xaq{s:List Zr}{y z:Int}(h:PQ s y)(v:y≠z):PQ (s.filter fun p=>p.addr≠z) y:=by
 obtain⟨q,f,e⟩:=C0.1 h;exact C0.2 ⟨q,F6.2 ⟨f,by simpa[e]using v⟩,e⟩
theorem Xbd(h:WN pn were ns)(f:InW pn were p):p.addr∈were:=by
 obtain⟨w,hw,e⟩:=f;rw[e,h.at'];exact hw
theorem Xfq(h:Fa pn were c l ns)(h3:3≤l.length)(hf:Xeb were c l)(hi:i<l.length)(hD:InW pn were D)(G:Gap l (pv l i) D)(I:YC (lp l i).addr ns=some n)(ha:(Rl n ns).askTo=-1):
 PQ (Rl n ns).table.succ (lp l (nx l (nx l i))).addr:=by
 obtain⟨q1,q2,q3⟩:=Xbs hi h3;have v:=FI hi;have ad:=FI v;have H:=FR hi;rcases FO h.r h.j hi I with⟨h1,h2,-,h4,-⟩|⟨y,t,h1,-,-,-,hc,-,-,-⟩
 ·exfalso;have hO:=FY h.r I (h.j i n hi I) hi;have hN:=LY (h.r.wn.get I).1 (h.r.wn.get I).2.2;have:=(Tl hN.1.1 (Xak hO.2)).1.1;omega
 have U:=h.r.wn.get h1;obtain⟨ds,tl,es,B⟩:=(h.j _ y v h1).2;have E:=U.1.1.2.2.2.2.1;rw[es]at E;have A:∀ q∈ds,InW pn were q:=fun q f=>U.2.2.2.2.1 q (by rw[es];exact C5 _ f);have V:∀ q∈ds,Ys (lp l i) q:=fun q f=>Xgc h.r (A q f) v hi (B q f) (E.1 q (C5 _ f)).1;have hop:Ys (lp l i) (lp l (nx l (nx l i))):=FW h.r.circ.2 hi ad q1;have K:(ds.map Zr.addr).Nodup:=by
  have:=E.2;rw[C6]at this;exact(H3.1 this).1
 have aa:∀ y∈ds.map Zr.addr,y∈were∧∀ o,o<l.length→(lp l o).addr≠y:=fun y U=>by
  obtain⟨q,f,rfl⟩:=C0.1 U;exact⟨Xbd h.r.wn (A q f),Xan h.r (A q f) v (B q f)⟩
 have T:D.addr∈were∧∀ o,o<l.length→(lp l o).addr≠D.addr:=⟨Xbd h.r.wn hD,Xan h.r hD H G⟩
 have same:∀{p q:Zr},InW pn were p→InW pn were q→p.addr=q.addr→p=q:=fun hp f e=>by rw[AJ h.r.wn hp,AJ h.r.wn f,e]
 have O:D.addr∉ds.map Zr.addr:=fun e=>by
  obtain⟨q,f,e⟩:=C0.1 e;have:=same (A q f) hD e;subst this;exact q3 (Xdu h.r.circ.2 H v G (B _ f))
 have L:=(h.r.kd _ n I).1;rcases hc with⟨g1,g2,e⟩|⟨-,e⟩
 ·have hP:InW pn were y.table.pred:=U.2.2.2.1 g2;have ae:y.table.pred.addr∉ds.map Zr.addr:=fun e=>by
   obtain⟨q,f,e⟩:=C0.1 e;have:=same (A q f) hP e;rw[← this]at g1;exact FV hi jD (Xdu h.r.circ.2 hi v g1 (B _ f)).symm
  have ab:D.addr≠y.table.pred.addr:=fun e=>by
   have:=same hD hP e;rw[← this]at g1;exact q2 (Xdu h.r.circ.2 H hi G g1)
  have hk:=hf (D.addr::y.table.pred.addr::ds.map Zr.addr) (D9.2 ⟨fun q=>(B7.1 q).elim ab O,D9.2 ⟨ae,K⟩⟩) fun z C=>by
   rcases B7.1 C with rfl|C
   ·exact T
   rcases B7.1 C with rfl|C
   ·exact⟨Xbd h.r.wn hP,Xan h.r hP hi g1⟩
   exact aa z C
  simp only[C8,A8]at hk;rw[e,es,L,show lp l (nx l i)::(ds++lp l (nx l (nx l i))::tl)=(lp l (nx l i)::ds)++lp l (nx l (nx l i))::tl from rfl];refine Xbf tl (lp l (nx l i)::ds) [y.table.pred] (fun q f=>?_) hop (by simp only[C8,D5];omega);rcases B7.1 f with rfl|f
  ·exact FW h.r.circ.2 hi v (FV hi jD)
  exact V q f
 have hk:=hf (D.addr::ds.map Zr.addr) (D9.2 ⟨O,K⟩) fun z C=>by
  rcases B7.1 C with rfl|C
  ·exact T
  exact aa z C
 simp only[C8,A8]at hk;rw[e,es,L];exact Xbf tl ds [lp l (nx l i)] V hop (by simp only[C8,D5];omega)
theorem Xel(h3:3≤l.length)(G:Xeb were c l)(hi:i<l.length)(E:InW pn were D)(B:Gap l (pv l i) D):Stays (Fa pn were c l) (Fw l i) where
 t3:=fun ns x h v m hm=>by
  obtain⟨m0,f⟩:=h.at hi;rcases Xau h.r f hm with e|⟨z,A,e⟩ <;> rw[e]
  ·exact v m0 f
  exact Xaq (v m0 f) (h.r.dead A (FI (FI hi)))
 t2:=fun ns x h v m hm=>by
  obtain⟨m0,f⟩:=h.at hi;rcases Xav h.r f hm with e|⟨z,A,e⟩ <;> rw[e]
  ·exact v m0 f
  exact Xaq (v m0 f) (h.r.dead A (FI (FI hi)))
 t1:=fun ns x h v m hm=>by
  obtain⟨m0,f⟩:=h.at hi;by_cases e:(lp l i).addr=x
  ·subst e;rw[FN h.r f]at hm;rw[← A5 hm];rcases FO h.r h.j hi f with⟨-,-,C,-,-⟩|⟨y,t,-,ha,-⟩
   ·rw[C];rcases Xab h.r f with e|⟨z,A,e⟩ <;> rw[e]
    ·exact v m0 f
    exact Xaq (v m0 f) (h.r.dead A (FI (FI hi)))
   exact Xfq h h3 G hi E B f ha
  rw[Xbx h.r e f hm];exact v m0 f
theorem Xic(h:Fa pn were c l ns)(h3:3≤l.length)(B:Xeb were c l)(hi:i<l.length)(A:InW pn were D)(f:Gap l (pv l i) D):Fw l i (itQ 9 ns) :=
 Xbz (W:=Fa pn were c l) (fun _ h=>h) Xas (Xel h3 B hi A f) hi (fun ns n h v ha m hm=>by
  rw[FN h.r v]at hm;rw[← A5 hm];exact Xfq h h3 B hi A f v ha) h
end
theorem Xei{W cs:List Int}{x:Int}(B:cs.Nodup)(hs:∀ z∈cs,z∈W)(hx:x∈W)(v:x∉cs)(E:W.length≤cs.length+2):∃ y,∀ z∈W,z=x∨z=y∨z∈cs:=by
 by_cases h:∃ y∈W,y≠x∧y∉cs
 ·obtain⟨y,h1,h2,h3⟩:=h;refine⟨y,fun z A=>?_⟩;refine C2 fun q=>?_;rw[not_or,not_or]at q;have f:(z::y::x::cs).Nodup:=D9.2 ⟨fun e=>(B7.1 e).elim q.2.1 fun e=>(B7.1 e).elim q.1 q.2.2,D9.2 ⟨fun e=>(B7.1 e).elim h2 h3,D9.2 ⟨v,B⟩⟩⟩;have:=Xar (p:=fun _=>true) f (L:=W) fun w hw _=>by
   rcases B7.1 hw with rfl|hw
   ·exact A
   rcases B7.1 hw with rfl|hw
   ·exact h1
   rcases B7.1 hw with rfl|hw
   ·exact hx
   exact hs w hw
  simp only[Xjr,C8]at this;omega
 exact⟨x,fun z A=>Decidable.or_iff_not_imp_left.2 fun e=>.inr (C2 fun C=>h ⟨z,A,e,C⟩)⟩
section
variable {pn:Int→Zr} {were:List Int} {ns:List (Int×Nd)} {b c x:Int} {n m m' n' a:Nd} {l:List Zr} {i j k:Nat} {D p:Zr} {Q:List (Int×Nd)→Prop}
theorem Xcr(H:Stays (Fa pn were c l) Q)(h:Fa pn were c l ns)(B:Q ns)(hi:i<l.length)(f:were.length≤5)(E:¬PNd l i D)(hm:YC (lp l i).addr (itQ 49 ns)=some m)(G:m.table.pred=D)(C:List Int)(y:Int)
 (h1:∀ w a,Fa pn were c l w→Q w→YC (lp l i).addr w=some a→∀ z∈C,z∈Ft a)
 (h2:∀ w a,Fa pn were c l w→Q w→YC (lp l i).addr w=some a→∀ z∈Ft a,z∈were→z≠(lp l i).addr→z=y∨z=D.addr∨z∈C):False:=by
 obtain⟨K,A⟩:=Xfb H hi E 49 h B ⟨m,hm,G⟩;refine Xdd (Q:=Q) (K:=K) (C:=D.addr::C) (y:=y) (D:=D.addr) (s:=0) h hi f (fun j hj=>by rw[F2];exact A j jD) fun j hj z V=>?_;have v:=A j jD;obtain⟨w,a,I,L,O,U,-,T⟩:=v.w;constructor
 ·intro q;have hs:=v.sub z q;grind
 intro q;rcases B7.1 q with rfl|q
 ·exact v.d
 grind
theorem Xaf(h:Crc pn were c l ns)(ha:YC x ns=some a)(hk:k<l.length)(hs:PQ a.table.succ (lp l k).addr):(lp l k).addr∈Ft a:=by
 have hw:=h.wn.get ha;have hu:=Ec hw.1 hw.2.2;have f:PQ (unping a).table.succ (lp l k).addr:=by
  unfold unping;split
  ·exact Xaq hs (h.dead (h.d x a ha).2.1 hk)
  exact hs
 obtain⟨q,v,e⟩:=C0.1 f;rw[← e];exact EZ hu.1.1 (B2 _ (C5 _ v)) (QA (hu.1.1.2.2.2.2.1.1 q v))
theorem Xdr(h:Fa pn were c l ns)(hi:i<l.length)(ha:YC (lp l i).addr ns=some a):PQ a.table.succ (lp l (nx l i)).addr:=by
 obtain⟨ds,tl,es,-⟩:=(h.j i a hi ha).2;rw[es];exact C0.2 ⟨_,D0 _ B1,rfl⟩
theorem Xal(h:Fa pn were c l ns)(hi:i<l.length):(lp l i).addr∈were:=by
 obtain⟨m,hm⟩:=h.at hi;have:=(h.r.wn.get hm).2.2.1;rw[h.r.self hi hm]at this;exact Xbd h.r.wn this
theorem Xdf(h:Fa pn were c l ns)(hi:i<l.length)(hm:YC (lp l i).addr ns=some m)(f:¬PNd l i m.table.pred):InW pn were m.table.pred∧Gap l (pv l i) m.table.pred:=by
 refine⟨(h.r.wn.get hm).2.2.2.1 fun e=>f (.inl e),?_⟩;rcases(h.j i m hi hm).1 with e|e|e
 ·exact absurd (.inl e) f
 ·exact absurd (.inr e) f
 exact e
theorem Xfg(h:Fa pn were c l ns)(h3:3≤l.length)(I:Xeb were c l)(hi:i<l.length)(H:were.length≤5)(hm:YC (lp l i).addr (itQ (9+49) ns)=some m):PNd l i m.table.pred:=by
  refine Classical.byContradiction fun K=>?_
  obtain⟨G,C⟩:=Xdf (h.it _) hi hm K
  have f:=FI hi
  have A:=FI f
  obtain⟨q1,q2,q3⟩:=Xbs hi h3
  have h9:=h.it 9
  have B:=Xan h.r G (FR hi) C
  have ne:∀{u v:Nat},u<l.length→v<l.length→u≠v→(lp l u).addr≠(lp l v).addr:=fun hu T q e=>q (h.r.inj hu T e)
  obtain⟨y,V⟩:=Xei (W:=were) (cs:=[m.table.pred.addr,(lp l (nx l i)).addr,(lp l (nx l (nx l i))).addr]) (x:=(lp l i).addr)
    (by simp only[D9,B7,Xji,not_or,J1,not_false_eq_true,and_true]
        exact⟨⟨(B _ f).symm,(B _ A).symm⟩,ne f A (FV f jD).symm⟩)
    (fun z E=>by
      simp only[B7,Xji,or_false]at E
      rcases E with rfl|rfl|rfl
      · exact Xbd h.r.wn G
      · exact Xal h f
      · exact Xal h A)
    (Xal h hi) (by
      simp only[B7,Xji,or_false,not_or]
      exact⟨B _ hi,ne hi f (FV hi jD).symm,ne hi A q1.symm⟩) jU
  refine Xcr (Xel h3 I hi G C) h9 (Xic h h3 I hi G C) hi H K hm rfl [(lp l (nx l i)).addr,(lp l (nx l (nx l i))).addr] y (fun w a hw L ha z E=>?_) fun w a hw L ha z E U O=>?_
  · simp only[B7,Xji,or_false]at E
    rcases E with rfl|rfl
    · exact Xaf hw.r ha f (Xdr hw hi ha)
    · exact Xaf hw.r ha A (L a ha)
  · grind
end
section
variable {pn:Int→Zr} {were:List Int} {ns:List (Int×Nd)} {b c x Z:Int} {n m m' n' a:Nd} {l:List Zr} {i j k o:Nat} {D p:Zr} {Q:List (Int×Nd)→Prop}
structure W2 (pn:Int→Zr) (were:List Int) (c:Int) (l:List Zr) (Z:Int) (ns:List (Int×Nd)):Prop where
  cj:Fa pn were c l ns
  z0:0≤Z
  zl:∀ o,o<l.length→(lp l o).addr≠Z
  p:∀ o m,o<l.length→YC (lp l o).addr ns=some m→m.table.pred.addr≠Z
theorem Xgu{p p':Zr}(h:Ptr l i p p')(hi:i<l.length)(h0:0≤Z)(v:∀ o,o<l.length→(lp l o).addr≠Z)(f:p.addr≠Z):p'.addr≠Z:=by
 rcases h with e|⟨e,-⟩|e <;> rw[e]
 ·exact f
 ·show(-1:Int)≠Z;omega
 exact v _ (FR hi)
theorem Xfk:Clo (W2 pn were c l Z) where
 t1:=fun ns x h=>⟨h.cj.t1,h.z0,h.zl,fun o m v hm=>by
  obtain⟨m0,f⟩:=h.cj.at v
  exact Xgu (Xcy h.cj.r h.cj.j v f hm) v h.z0 h.zl (h.p o m0 v f)⟩
 t3:=fun ns x h=>⟨h.cj.t3,h.z0,h.zl,fun o m v hm=>by
  obtain⟨m0,f⟩:=h.cj.at v;exact Xgu (Xaz h.cj.r v f hm) v h.z0 h.zl (h.p o m0 v f)⟩
 t2:=fun ns x h=>⟨h.cj.t2,h.z0,h.zl,fun o m v hm=>by
  obtain⟨m0,f⟩:=h.cj.at v;exact Xgu (Xba h.cj.r v f hm) v h.z0 h.zl (h.p o m0 v f)⟩
def Frt(l:List Zr)(Z:Int)(o:Nat)(s:List Zr):Prop:=∃ ds tl,s=ds++lp l (nx l o)::tl∧∀ q∈ds,q.addr≠Z
theorem Frt.filter{s:List Zr}(h:Frt l Z o s)(hx:(lp l (nx l o)).addr≠x):Frt l Z o (s.filter fun p=>p.addr≠x):=by
 obtain⟨ds,tl,e,v⟩:=h;refine⟨ds.filter fun p=>p.addr≠x,tl.filter fun p=>p.addr≠x,?_,fun q f=>v q (F6.1 f).1⟩;grind
theorem Xbl{W:List (Int×Nd)→Prop}{S:List Zr→Prop}(B:∀ ns,W ns→Fa pn were c l ns)(E:o<l.length)(G:∀ ns s z,W ns→YC z ns=none→S s→S (s.filter fun p=>p.addr≠z))
 (ht:∀ ns n,W ns→YC (lp l o).addr ns=some n→(Rl n ns).askTo=-1→S (Rl n ns).table.succ):Stays W fun ns=>∀ m,YC (lp l o).addr ns=some m→S m.table.succ where
 t3:=fun ns x h v m hm=>by
  obtain⟨m0,f⟩:=(B ns h).at E;rcases Xau (B ns h).r f hm with e|⟨z,C,e⟩ <;> rw[e]
  ·exact v m0 f
  exact G ns _ z h C (v m0 f)
 t2:=fun ns x h v m hm=>by
  obtain⟨m0,f⟩:=(B ns h).at E;rcases Xav (B ns h).r f hm with e|⟨z,C,e⟩ <;> rw[e]
  ·exact v m0 f
  exact G ns _ z h C (v m0 f)
 t1:=fun ns x h v m hm=>by
  have A:=B ns h;obtain⟨m0,f⟩:=A.at E;by_cases e:(lp l o).addr=x
  ·subst e;rw[FN A.r f]at hm;rw[← A5 hm];rcases FO A.r A.j E f with⟨-,-,H,-,-⟩|⟨y,t,-,ha,-⟩
   ·rw[H];rcases Xab A.r f with e|⟨z,C,e⟩ <;> rw[e]
    ·exact v m0 f
    exact G ns _ z h C (v m0 f)
   exact ht ns m0 h f ha
  rw[Xbx A.r e f hm];exact v m0 f
theorem Xdj{W:List (Int×Nd)→Prop}{S:List Zr→Prop}(f:∀ ns,W ns→Fa pn were c l ns)(C:Clo W)(A:o<l.length)(B:∀ ns s z,W ns→YC z ns=none→S s→S (s.filter fun p=>p.addr≠z))
 (ht:∀ ns n,W ns→YC (lp l o).addr ns=some n→(Rl n ns).askTo=-1→S (Rl n ns).table.succ) (h:W ns):∀ m,YC (lp l o).addr (itQ 9 ns)=some m→S m.table.succ :=
 Xbz f C (Xbl f A B ht) A (fun ns n h v ha m hm=>by
  rw[FN (f ns h).r v]at hm;rw[← A5 hm];exact ht ns n h v ha) h
theorem Xed(h:Fa pn were c l ns)(v:o<l.length)(f:YC (lp l o).addr ns=some n)(h1:(Rl n ns).askTo=(Yv (unask n).table).addr)(ha:(Rl n ns).askTo=-1):False:=by
 have A:=FY h.r f (h.j o n v f) v;have B:=LY (h.r.wn.get f).1 (h.r.wn.get f).2.2;have:=(Tl B.1.1 (Xak A.2)).1.1;grind
theorem Xeo(h:W2 pn were c l Z ns)(v:o<l.length)(A:YC (lp l o).addr ns=some n)(ha:(Rl n ns).askTo=-1):Frt l Z o (Rl n ns).table.succ:=by
 rcases FO h.cj.r h.cj.j v A with⟨h1,-,-,-,-⟩|⟨y,t,h1,-,-,-,-,B,-,-⟩
 ·exact(Xed h.cj v A h1 ha).elim
 refine⟨_,t,B,fun q f=>?_⟩;split at f
 ·rw[B0.1 f];exact h.p _ y (FI v) h1
 cases f
theorem Xcs:∀(ns:List (Int×Nd)) s z,W2 pn were c l Z ns→o<l.length→YC z ns=none→Frt l Z o s→Frt l Z o (s.filter fun p=>p.addr≠z):=fun ns s z h f v hs=>hs.filter (h.cj.r.dead v (FI f))
def W3z(pn:Int→Zr)(were:List Int)(c:Int)(l:List Zr)(Z:Int)(ns:List (Int×Nd)):Prop:=W2 pn were c l Z ns∧∀ o,o<l.length→∀ m,YC (lp l o).addr ns=some m→Frt l Z o m.table.succ
theorem Xdc{W:List (Int×Nd)→Prop}{V:Nat→List (Int×Nd)→Prop}(h:∀ o,o<l.length→Stays W (V o)):Stays W fun ns=>∀ o,o<l.length→V o ns :=
 ⟨fun ns x hw v o f=>(h o f).t1 ns x hw (v o f),fun ns x hw v o f=>(h o f).t3 ns x hw (v o f),fun ns x hw v o f=>(h o f).t2 ns x hw (v o f)⟩
theorem Xdw:Clo (W3z pn were c l Z):=Xfk.and (Xdc fun o f=>Xbl (fun _ h=>h.cj) f (fun ns s z h=>Xcs ns s z h f) fun ns n h v ha=>Xeo h f v ha)
theorem Xgn(h:W2 pn were c l Z ns):W3z pn were c l Z (itQ 9 ns):=⟨Xfk.it 9 h,fun o f=>Xdj (fun _ h=>h.cj) Xfk f (fun ns s z h=>Xcs ns s z h f) (fun ns n h v ha=>Xeo h f v ha) h⟩
theorem Xat{s x:Zr}{r:Int}(hx:¬Ys s x)(tl:List Zr):∀(ds acc:List Zr),∀ q∈Wk s r acc (ds++x::tl),q∈acc∨q∈ds
 | [],acc,q,hq=>by
  rw[B6]at hq;unfold Wk at hq;rw[A6 (.inl hx)]at hq;exact .inl hq
 | d::ds,acc,q,hq=>by
  rw[B4]at hq;unfold Wk at hq;split at hq
  ·exact .inl hq
  split at hq
  ·exact(Xat hx tl ds acc q hq).imp_right (B2 _)
  rcases Xat hx tl ds (acc++[d]) q hq with e|e
  ·rcases B8.1 e with e|e
   ·exact .inl e
   rw[B0.1 e];exact .inr B1
  exact .inr (B2 _ e)
def NoZ(Z:Int)(s:List Zr):Prop:=∀ q∈s,q.addr≠Z
theorem Xej(h2:l.length=2)(h:W3z pn were c l Z ns)(f:o<l.length)(E:YC (lp l o).addr ns=some n)(ha:(Rl n ns).askTo=-1):NoZ Z (Rl n ns).table.succ:=by
 have C:nx l (nx l o)=o:=by
  unfold nx;rw[h2]at f ⊢;omega
 rcases FO h.1.cj.r h.1.cj.j f E with⟨h1,-,-,-,-⟩|⟨y,t,h1,-,-,-,G,-,-,-⟩
 ·exact(Xed h.1.cj f E h1 ha).elim
 obtain⟨ds,tl,es,v⟩:=h.2 _ (FI f) y h1;rw[C]at es;have A:¬Ys (lp l o) (lp l o):=fun q=>q.2.1 rfl;rcases G with⟨-,-,e⟩|⟨-,e⟩ <;> rw[e,es]
 ·rw[show lp l (nx l o)::(ds++lp l o::tl)=(lp l (nx l o)::ds)++lp l o::tl from rfl];intro q B;rcases Xat A tl _ _ q B with e|e
  ·rw[B0.1 e];exact h.1.p _ y (FI f) h1
  rcases B7.1 e with e|e
  ·rw[e];exact h.1.zl _ (FI f)
  exact v q e
 intro q B;rcases Xat A tl _ _ q B with e|e
 ·rw[B0.1 e];exact h.1.zl _ (FI f)
 exact v q e
def W4z(pn:Int→Zr)(were:List Int)(c:Int)(l:List Zr)(Z:Int)(ns:List (Int×Nd)):Prop:=W3z pn were c l Z ns∧∀ o,o<l.length→∀ m,YC (lp l o).addr ns=some m→NoZ Z m.table.succ
theorem Xaj(h2:l.length=2):Clo (W4z pn were c l Z):=Xdw.and (Xdc fun o f=>Xbl (fun _ h=>h.1.cj) f (fun ns s z h B hs q A=>hs q (F6.1 A).1) fun ns n h v ha=>Xej h2 h f v ha)
theorem Xgm(h2:l.length=2)(h:W3z pn were c l Z ns):W4z pn were c l Z (itQ 9 ns):=⟨Xdw.it 9 h,fun o f=>Xdj (fun _ h=>h.1.cj) Xdw f (fun ns s z h B hs q A=>hs q (F6.1 A).1) (fun ns n h v ha=>Xej h2 h f v ha) h⟩
def ZF(l:List Zr)(Z:Int)(i:Nat)(ns:List (Int×Nd)):Prop:=∀ m,YC (lp l i).addr ns=some m→GoodT (fun p=>p.addr≠Z) m.table
theorem Xig(h:W4z pn were c l Z ns)(hi:i<l.length)(hm:YC (lp l i).addr ns=some m)(f:∀ p∈m.table.fingers,p≠Yj→p.addr≠Z):GoodT (fun p=>p.addr≠Z) m.table :=
 ⟨by rw[h.1.1.cj.r.self hi hm];exact h.1.1.zl i hi,fun _=>h.1.1.p i m hi hm,h.2 i hi m hm,f⟩
theorem Xcm(h2:l.length=2)(hi:i<l.length):Stays (W4z pn were c l Z) (ZF l Z i) where
 t1:=fun ns x h A m hm=>by
  have v:=h.1.1.cj;obtain⟨m0,f⟩:=v.at hi;refine Xig ((Xaj h2).t1 ns x h) hi hm ?_;have h0:=A m0 f;by_cases e:(lp l i).addr=x
  ·subst e;rw[FN v.r f]at hm;have hu:=LY (v.r.wn.get f).1 h0;rw[← A5 hm];rcases FO v.r v.j hi f with⟨-,-,C,-,-⟩|⟨y,t,-,-,C,-⟩ <;> rw[C] <;> exact hu.2.2.2.2.2
  obtain⟨m',h3,E⟩:=BH v.r.wn e f;rw[hm]at h3;rw[A5 h3,E];exact h0.2.2.2
 t3:=fun ns x h A m hm=>by
  have v:=h.1.1.cj;obtain⟨m0,f⟩:=v.at hi;have h0:=A m0 f;by_cases e:(lp l i).addr=x
  ·subst e;rw[QK v.r.wn f]at hm;rw[← A5 hm,JI];exact(Ec (v.r.wn.get f).1 h0).2.2
  rw[GT v.r.wn e,f]at hm;rw[← A5 hm];exact h0
 t2:=fun ns x h A m hm=>by
  have v:=h.1.1.cj;obtain⟨m0,f⟩:=v.at hi;have h0:=A m0 f;by_cases e:(lp l i).addr=x
  ·subst e;rw[RA v.r.wn f]at hm;rw[← A5 hm];have hj:=v.r.j _ m0 f;have hu:=Ps h0;unfold OR;rw[A4 zN];split
   ·exact SY hu fun _=>Tz hu
   split
   ·exact hu
   refine Hq (fun s z y l' G H=>?_) 33 _ (by
    obtain⟨t,K⟩:=QT m0;show(unfind m0).joined=true;rw[K];exact hj) hu
   rw[Hh H];obtain⟨h1,-,-⟩:=Vi G;obtain⟨o,B,I⟩:=(v.r.live z).1 ⟨y,h1⟩;subst I;show(y.table.succ.headD y.table.self).addr≠Z;have hs:=h.2 o B y h1;cases hq:y.table.succ with
   | nil=>rw[v.r.self B h1];exact h.1.1.zl o B
   | cons q s=>rw[hq]at hs;exact hs q B1
  rw[Ow v.r.wn e,f]at hm;rw[← A5 hm];exact h0
end
section
variable {pn:Int→Zr} {were:List Int} {ns:List (Int×Nd)} {b c x Z:Int} {n m m' n' a:Nd} {l:List Zr} {i j k o:Nat} {D p:Zr} {Q W:List (Int×Nd)→Prop}
theorem Clo.stays(h:Clo Q):Stays W Q:=⟨fun ns x _ f=>h.t1 ns x f,fun ns x _ f=>h.t3 ns x f,fun ns x _ f=>h.t2 ns x f⟩
theorem Xgb(h2:l.length=2)(h:W4z pn were c l Z ns)(hi:i<l.length)(hZ:Z∈were)(O:were.length≤5)(hm:YC (lp l i).addr (itQ 98 ns)=some m)(af:m.table.pred.addr≠Z):PNd l i m.table.pred:=by
  refine Classical.byContradiction fun G=>?_
  have v:=h.1.1.cj
  obtain⟨hD,ak⟩:=Xdf (v.it _) hi hm G
  have f:=FI hi
  have V:=Xan v.r hD (FR hi) ak
  have hne:(lp l (nx l i)).addr≠(lp l i).addr:=fun e=>FV hi v.r.two (v.r.inj f hi e)
  obtain⟨y,hy⟩:=Xei (W:=were) (cs:=[m.table.pred.addr,(lp l (nx l i)).addr,Z]) (x:=(lp l i).addr)
    (by simp only[D9,B7,Xji,not_or,J1,not_false_eq_true,and_true]
        exact⟨⟨(V _ f).symm,af⟩,h.1.1.zl _ f⟩)
    (fun z B=>by
      simp only[B7,Xji,or_false]at B
      rcases B with rfl|rfl|rfl
      · exact Xbd v.r.wn hD
      · exact Xal v f
      · exact hZ)
    (Xal v hi) (by
      simp only[B7,Xji,or_false,not_or]
      exact⟨V _ hi,hne.symm,h.1.1.zl _ hi⟩) jU
  obtain⟨K,hK⟩:=Xfb (Xaj h2).stays hi G 98 v h ⟨m,hm,rfl⟩
  by_cases hall:∀ j,j<48→Z∈K j
  · refine Xdd (Q:=W4z pn were c l Z) (K:=K) (C:=[m.table.pred.addr,(lp l (nx l i)).addr,Z]) (y:=y) (D:=m.table.pred.addr) (s:=0) v hi O (fun j hj=>by rw[F2];exact hK j jD) fun j hj z B=>?_
    have U:=hK j jD
    constructor
    · intro q
      have hs:=U.sub z q
      exact((hy z hs.1).resolve_left hs.2).resolve_left B
    · intro q
      simp only[B7,Xji,or_false]at q
      rcases q with rfl|rfl|rfl
      · exact U.d
      · exact U.nx
      · exact hall j hj
  · obtain⟨E,ad⟩:=Classical.not_forall.1 hall
    obtain⟨hj,T⟩:=Classical.not_imp.1 ad
    have U:=hK E jD
    obtain⟨w,a,l2,c1,c2,c3,c4,ek⟩:=U.w
    rw[ek]at T
    have hu:=Ec (c1.r.wn.get c3).1 (c1.r.wn.get c3).2.2
    have ah:ZF l Z i (T3 (lp l i).addr w):=fun m3 H=>by
      refine Xig ((Xaj h2).t3 _ _ c2) hi H fun p G ae e=>?_
      rw[QK c1.r.wn c3]at H
      rw[← A5 H,JI]at G
      have hk:p.addr∈Ft a:=EZ hu.1.1 (B2 _ (D0 _ G)) ae
      rw[e]at hk
      exact T hk
    have I:=(Xaj h2).t3 _ (lp l i).addr c2
    have aa:=(Xaj h2).t2 _ (lp l i).addr I
    have an:ZF l Z i (itQ (E+1) ns):=by
      rw[Nw,c4]
      exact(Xcm h2 hi).goC (Xaj h2) l2 aa ((Xcm h2 hi).t2 _ _ I ah)
    have A:=(Xaj h2).it (E+1) h
    obtain⟨m2,L⟩:=(A.1.1.cj.it 49).at hi
    have al:∀ M,M=E+1+49+(48-E)→itQ M ns=itQ (48-E) (itQ 49 (itQ (E+1) ns)):=fun M e=>by rw[e,Zrc,Zrc]
    rw[al 98 jD]at hm
    have e2:=FZ (Xcc _ (A.1.1.cj.it 49) hi L hm) G
    refine Xcr (((Xaj h2).and (Xcm h2 hi)).stays) A.1.1.cj ⟨A,an⟩ hi O G L e2 [(lp l (nx l i)).addr] y (fun w a hw hq ha z B=>?_) fun w a hw hq ha z B ai ab=>?_
    · rw[B0.1 B]
      exact Xaf hw.r ha f (Xdr hw hi ha)
    · rcases hy z ai with e|e|e
      · exact absurd e ab
      · exact .inl e
      · simp only[B7,Xji,or_false]at e
        rcases e with e|e|e
        · exact .inr (.inl e)
        · exact .inr (.inr (by rw[e];exact B1))
        · exfalso
          have hu:=Ec (hw.r.wn.get ha).1 (hq.2 a ha)
          obtain⟨q,ag,aj⟩:=C0.1 B
          exact Pd hu.2.2 q ag (aj.trans e)
end
section
variable {pn:Int→Zr} {were:List Int} {ns:List (Int×Nd)} {b c x Z:Int} {n m m' n' a:Nd} {l:List Zr} {i j k o d:Nat} {D p:Zr} {Q W:List (Int×Nd)→Prop}
theorem Xiw(h:Crc pn were c l ns)(ha:YC x ns=some a){z:Int}(f:z∈Ft a):0≤z:=by
 obtain⟨q,v,e⟩:=C0.1 f;rw[← e];exact(Zhq v).2.1
theorem Xfh(h:Fa pn were c l ns)(hi:i<l.length){u v:Nat}(hu:∀ m,YC (lp l i).addr (itQ u ns)=some m→PNd l i m.table.pred)(hm:YC (lp l i).addr (itQ (u+v) ns)=some m):PNd l i m.table.pred:=by
 obtain⟨m0,f⟩:=(h.it u).at hi;rw[Zrc]at hm;exact(Xcc v (h.it u) hi f hm).nd (hu m0 f)
theorem Xga(h:Fa pn were c l ns)(h2:l.length=2)(hi:i<l.length)(B:were.length≤5)(hm:YC (lp l i).addr (itQ (18+98) ns)=some m):PNd l i m.table.pred:=by
 refine Classical.byContradiction fun G=>?_;obtain⟨n0,v⟩:=h.at hi;have e0:=FZ (Xcc _ h hi v hm) G;have C:=FI hi;obtain⟨U,K⟩:=h.at C;by_cases H:∃ Z∈were,0≤Z∧Z≠(lp l i).addr∧Z≠(lp l (nx l i)).addr∧Z≠m.table.pred.addr∧Z≠U.table.pred.addr
 ·obtain⟨Z,V,z2,z3,z4,z5,z6⟩:=H;have two:∀ o,o<l.length→o=i∨o=nx l i:=fun o A=>by
   unfold nx;rw[h2]at A hi ⊢;omega
  have hW:W2 pn were c l Z ns:=⟨h,z2,fun o A=>(two o A).elim (fun e=>by rw[e];exact z3.symm) (fun e=>by rw[e];exact z4.symm),fun o mo A f=>by
   rcases two o A with e|e
   ·rw[e,v]at f;rw[← A5 f,e0];exact z5.symm
   rw[e,K]at f;rw[← A5 f];exact z6.symm⟩
  have h4:=Xgm h2 (Xgn hW);have aa:itQ 9 (itQ 9 ns)=itQ 18 ns:=(Zrc 9 9 ns).symm;exact G (Xgb h2 h4 hi V B hm z5.symm)
 obtain⟨m1,E⟩:=(h.it 49).at hi;have T:∀ M,M=49+(M-49)→itQ M ns=itQ (M-49) (itQ 49 ns):=fun M e=>by rw[← Zrc,← e]
 rw[T (18+98) jD]at hm;have e1:=FZ (Xcc _ (h.it 49) hi E hm) G;refine Xcr (Q:=fun _=>True) DQ h trivial hi B G E e1 [(lp l (nx l i)).addr] U.table.pred.addr (fun w a hw hq ha z H=>?_) fun w a hw hq ha z O L I=>?_
 ·rw[B0.1 H];exact Xaf hw.r ha C (Xdr hw hi ha)
 refine Classical.byContradiction fun q=>?_;rw[not_or,not_or]at q;exact H ⟨z,L,Xiw hw.r ha O,I,fun e=>q.2.2 (by rw[e];exact B1),q.2.1,q.1⟩
theorem Xij(h:Fa pn were c l ns)(A:Xeb were c l)(f:were.length≤5):W1 pn were c l (itQ (18+98) ns):=by
 refine⟨h.it _,fun i m hi hm=>?_⟩;rcases C7 l.length 3 with h3|h3
 ·exact Xga h (by have:=h.r.two;omega) hi f hm
 exact Xfh (u:=9+49) (v:=58) h hi (fun m hm=>Xfg h h3 A hi f hm) hm
end
section
variable {pn:Int→Zr} {were:List Int} {ns:List (Int×Nd)} {b c x Z:Int} {n m m' n' a:Nd} {l:List Zr} {i j k o d:Nat} {p:Zr}
theorem Xey(h:Uv l)(hi:i<l.length):(Wf l i).Pairwise fun p q=>D (lp l i).id p.id<D (lp l i).id q.id:=by
 have v:=h.2.2;have e:l=l.take i++lp l i::l.drop (i+1):=by
  conv=>lhs;rw[← F0 i l,G4 hi]
  rw[FJ hi]
 generalize lp l i=s at *;rw[e]at v;unfold Wf;obtain⟨H,C,A⟩:=Xjm.1 v;obtain⟨hs,C⟩:=D6.1 C;refine Xjm.2 ⟨?_,?_,fun p v q B=>?_⟩
 ·refine C.imp_of_mem fun {p q} v B f=>?_;have h1:s.id.toNat<p.id.toNat:=hs p v;have h3:p.id.toNat<q.id.toNat:=f;have E:=Ux s.id p.id;have G:=Ux s.id q.id;omega
 ·refine H.imp_of_mem fun {p q} v B f=>?_;have h2:q.id.toNat<s.id.toNat:=A q B s B1;have h3:p.id.toNat<q.id.toNat:=f;have E:=Ux s.id p.id;have G:=Ux s.id q.id;omega
 have h1:s.id.toNat<p.id.toNat:=hs p v;have h2:q.id.toNat<s.id.toNat:=A q B s B1;have E:=Ux s.id p.id;have G:=Ux s.id q.id;omega
end
section
variable {pn:Int→Zr} {were:List Int} {ns ns':List (Int×Nd)} {b c x Z:Int} {n m m' n' a:Nd} {l l':List Zr} {i i' j k o d r:Nat} {p:Zr}
theorem Xap(f:Zr→Bool)(hi:i<l.length)(B:f (lp l i)=true):
 ∃ i',i'<(l.filter f).length∧lp (l.filter f) i'=lp l i∧Wf (l.filter f) i'=(Wf l i).filter f:=by
 have e:l=l.take i++lp l i::l.drop (i+1):=by
  conv=>lhs;rw[← F0 i l,G4 hi]
  rw[FJ hi]
 have v:l.filter f=(l.take i).filter f++lp l i::(l.drop (i+1)).filter f:=by
  conv=>lhs;rw[e]
  rw[Xjh,Xjj B]
 unfold Wf;rw[v,Xjh];generalize (l.take i).filter f=A;refine⟨A.length,by simp,?_,?_⟩
 ·unfold lp;simp
 simp
theorem Xbc(hi:i<l.length)(h2:2≤l.length):(Wf l i).getLastD Yj=lp l (pv l i):=by
 rw[Xeg hi jD,← FJ];rfl
theorem Xib(V:Uv l)(aa:Uv l')(hi:i<l.length)(h2:2≤l'.length)(v:i'<l'.length)(f:Zr→Bool)(es:lp l' i'=lp l i)(H:Wf l' i'=(Wf l i).filter f)
 (hr:((Wf l i).filter fun p=>!f p).length<r):FP l' i' (RH l r i (lp l i)):=by
 have A:=Xey V hi;have hne:∀ p∈Wf l i,p.id.toNat≠(lp l i).id.toNat:=fun p A e=>by
  obtain⟨j,hj,L,rfl⟩:=RR hi A;have:=Xbt V hj hi L;rw[FJ hj]at this;exact this (J5 e)
 obtain⟨t,E,e2⟩:=FL v h2;have e0:=E;rw[H]at E;obtain⟨ds,tl,I,O,hq,-⟩:=List.filter_eq_cons_iff.1 E;have hl:ds.length<r:=by
  refine Nat.lt_of_le_of_lt ?_ hr;rw[I,Xjh,B3,Xjg.2 fun p A=>by simp[O p A]];omega
 constructor
 ·show Xcz l' i' ((Wf l i).getLastD Yj);have K:Wf l i≠[]:=fun e=>by rw[e]at E;cases E
  obtain⟨X,z,U⟩:∃ X z,Wf l i=X++[z]:=⟨_,_,(List.dropLast_concat_getLast K).symm⟩
  have hz:(Wf l i).getLastD Yj=z:=by rw[U];simp
  rw[hz];rw[U,Xjh]at H;by_cases hfz:f z=true
  ·right;left;rw[← Xbc v h2,H];simp[hfz]
  right;right;have T:Wf l' i'=X.filter f:=by rw[H];simp[hfz]
  have C:lp l' (pv l' i')∈X:=by
   have:lp l' (pv l' i')∈X.filter f:=by
    rw[← Xbc v h2,T];have:X.filter f≠[]:=fun e=>by rw[e]at T;rw[T]at e0;cases e0
    rw[List.getLastD_eq_getLast?,List.getLast?_eq_some_getLast this];exact List.getLast_mem this
   exact(F6.1 this).1
  rw[U]at A hne;have B:=(Xjm.1 A).2.2 _ C z B1;unfold Gap;rw[Xac v,es];refine Zgn.2 ⟨fun e=>?_,.inr ?_⟩
  ·rw[J5 e]at B;omega
  have h0:=hne _ (C5 _ C);have c1:=Zqp (S:=(lp l i).id) (x:=(lp l' (pv l' i')).id) (t:=z.id);have c2:=Zqp (S:=(lp l i).id) (x:=(lp l' (pv l' i')).id) (t:=(lp l i).id);rw[Xec]at c2;have b:=(z.id-(lp l i).id).isLt;have b1:D (lp l i).id z.id<2 ^ 160:=b;have h5:D (lp l i).id (lp l' (pv l' i')).id≠0:=fun e=>h0 (A9 BitVec.toNat (Ybc (S:=(lp l i).id) (by rw[e,Xec])));rw[A6 jD]at c1;rw[A4 jD]at c2;omega
 show Xby l' i' ((Wf l i).take r);refine⟨ds,tl.take (r-ds.length-1),?_,fun p G=>?_⟩
 ·rw[I,List.take_append,H5 jD];obtain⟨q,hq⟩:∃ q,r-ds.length=q+1:=⟨r-ds.length-1,by omega⟩
  rw[hq];rfl
 rw[I]at A hne;have B:=(Xjm.1 A).2.2 p G _ B1;unfold Gap;rw[es];exact Zgn.2 ⟨hne p (C5 _ G),.inr B⟩
end
section
variable {pn:Int→Zr} {were were':List Int} {ns ns':List (Int×Nd)} {b c x Z:Int} {n m m' n' a:Nd} {l l':List Zr} {i i' j k o d r:Nat} {p:Zr}
theorem Idl.me(h:Idl pn were l r ns)(hi:i<l.length):pn (lp l i).addr=lp l i:=by
 obtain⟨m,hm⟩:=h.all i hi;obtain⟨-,k,hk,v,A⟩:=h.one _ m hm;have f:i=k:=C2 fun q=>On h.circ.2 hi hk q v;subst f;rw[FJ hi];have:=(h.wn.get hm).2.1;rw[A]at this;exact this.symm
theorem Idl.live(h:Idl pn were l r ns)(z:Int):(∃ m,YC z ns=some m)↔∃ i,i<l.length∧(lp l i).addr=z:=by
 constructor
 ·rintro⟨m,hm⟩;obtain⟨-,k,hk,f,v⟩:=h.one _ m hm;exact⟨k,hk,by rw[FJ hk,f]⟩
 rintro⟨i,hi,rfl⟩;obtain⟨m,hm⟩:=h.all i hi;exact⟨m,by rw[FJ hi];exact hm⟩
theorem FK(hw:WN pn were ns):(ns.map (·.1)).Nodup:=hw.rise.imp fun h=>by omega
theorem Xax(hi:i<l.length):lp l i∈l:=by rw[FJ hi];exact C1 hi
theorem Xam(B:Uv l)(v:(ns.map (·.1)).Nodup)(h:∀ z,(∃ m,YC z ns=some m)↔∃ i,i<l.length∧(lp l i).addr=z):l.length=ns.length:=by
 have h1:=IJ (l:=l.map Zr.addr) (w:=ns.map (·.1)) B.2.1 fun z f=>by
  obtain⟨p,A,rfl⟩:=C0.1 f;obtain⟨i,hi,rfl⟩:=E2 A;obtain⟨m,hm⟩:=(h (lp l i).addr).2 ⟨i,hi,rfl⟩;rw[FJ hi]at hm;exact Zwr hm
 have h2:=IJ (l:=ns.map (·.1)) (w:=l.map Zr.addr) v fun z f=>by
  obtain⟨i,hi,e⟩:=(h z).1 (AD f);exact C0.2 ⟨_,Xax hi,e⟩
 grind
theorem Idl.small(h:Idl pn were l r ns):WN pn (ns.map (·.1)) ns:=by
 refine⟨h.wn.rise,fun p f=>⟨(h.wn.nd p f).1,(h.wn.nd p f).2.1,?_⟩,h.wn.at'⟩;have hm:=Ziu (FK h.wn) f;obtain⟨-,k,hk,C,B⟩:=h.one _ _ hm;rw[B];refine(MI hk).mono fun q A=>?_;obtain⟨o,v,rfl⟩:=E2 A;obtain⟨m,hm⟩:=h.all o v;refine⟨_,Zwr hm,?_⟩;have:=h.me v;rw[FJ v]at this;grind
theorem Idl.less(h:Idl pn were l c.toNat ns)(hc:2≤c∧c≤8)(kd:AllKind c ns)(hw:WN pn were ns')(hs:Sub ns ns')(h2:2≤ns'.length)(hd:(ns.length:Int)<ns'.length+c):
 ∃ l',l'.length=ns'.length∧l'=l.filter (fun p=>(YC p.addr ns').isSome)∧Fa pn (ns.map (·.1)) c l' ns'∧Xeb (ns.map (·.1)) c l':=by
 obtain⟨f,hf⟩:∃ f:Zr→Bool,f=fun p=>(YC p.addr ns').isSome:=⟨_,rfl⟩
 have H:∀ p,f p=(YC p.addr ns').isSome:=fun p=>by rw[hf]
 have E:Uv (l.filter f):=⟨fun p G=>h.circ.2.1 p (F6.1 G).1,h.circ.2.2.1.sublist (List.filter_sublist.map _),h.circ.2.2.2.filter _⟩
 have v:∀ z,(∃ m,YC z ns'=some m)↔∃ i,i<(l.filter f).length∧(lp (l.filter f) i).addr=z:=fun z=>by
  constructor
  ·rintro⟨m,hm⟩;obtain⟨i,hi,e⟩:=(h.live z).1 ⟨m,hs z m hm⟩;have aa:lp l i∈l.filter f:=F6.2 ⟨Xax hi,by rw[H,e,hm];rfl⟩;obtain⟨k,hk,ek⟩:=E2 aa;exact⟨k,hk,by rw[FJ hk,ek,e]⟩
  rintro⟨i,hi,rfl⟩;have:=(F6.1 (Xax hi)).2;rw[H]at this;exact Option.isSome_iff_exists.1 this
 have I:=FK hw;have hlen:=Xam E I v;have U:∀ z∈ns'.map (·.1),z∈ns.map (·.1):=fun z hz=>by
  obtain⟨m,hm⟩:=AD hz;exact Zwr (hs z m hm)
 have L:∀ i,i<(l.filter f).length→pn (lp (l.filter f) i).addr=lp (l.filter f) i:=fun i hi=>by
  obtain⟨k,hk,ek⟩:=E2 (F6.1 (Xax hi)).1;rw[← ek,← FJ hk];exact h.me hk
 have few:∀ A:List Int,A.Nodup→(∀ y∈A,y∈ns.map (·.1)∧YC y ns'=none)→A.length+ns'.length≤ns.length:=fun A hA K=>by
  have:=IJ (l:=A++ns'.map (·.1)) (w:=ns.map (·.1)) (H3.2 ⟨hA,I,fun y h1 z h2 e=>by
   subst e;exact Wg.1 (K y h1).2 h2⟩) fun z hz=>(B8.1 hz).elim (fun q=>(K z q).1) (U z)
  simpa using this
 have B:∀{y:Int},YC y ns=none→YC y ns'=none:=fun q=>hs.none q;refine⟨_,hlen,by rw[hf],⟨⟨⟨hw.rise,fun p G=>?_,hw.at'⟩,fun z m hm=>kd z m (hs z m hm),hc,⟨⟨by omega,?_⟩,E⟩,by omega,v,L,fun z m hm=>h.j z m (hs z m hm),fun z m hm=>?_⟩,fun i' m C hm=>?_⟩,fun A hA K=>?_⟩
 ·have hm:=Ziu I G;exact⟨(hw.nd p G).1,(hw.nd p G).2.1,(h.small.get (hs _ _ hm)).2.2⟩
 ·have:=h.circ.1.2;have:=Xjo f l;omega
 ·have:=h.d z m (hs z m hm);exact⟨B this.1,B this.2.1,B this.2.2⟩
 ·obtain⟨-,i,hi,ea,et⟩:=h.one _ m (hs _ m hm);have e:lp (l.filter f) i'=lp l i:=by
   have h1:=L i' C;have h3:=h.me hi;rw[FJ hi]at h3 ⊢;rw[ea,h3]at h1;exact h1.symm
  obtain⟨i2,V,e2,er⟩:=Xap f hi (by rw[← e];exact(F6.1 (Xax C)).2);have ab:i2=i':=C2 fun q=>On E V C q (by rw[← FJ V,← FJ C,e,e2]);subst ab;rw[et,← FJ hi];refine Xib h.circ.2 E hi jD C f e er ?_;have h9:=few (((Wf l i).filter fun p=>!f p).map Zr.addr) ((LG h.circ.2.2.1).sublist (List.filter_sublist.map _)) fun y K=>by
   obtain⟨p,G,rfl⟩:=C0.1 K;obtain⟨ae,T⟩:=F6.1 G;obtain⟨k,hk,-,rfl⟩:=RR hi ae;obtain⟨m1,ad⟩:=h.all k hk;refine⟨Zwr ad,?_⟩;rw[H]at T;simpa using T
  rw[A8]at h9;omega
 have h9:=few A hA fun y O=>⟨(K y O).1,by
  cases hg:YC y ns' with
  | none=>rfl
  | some q =>
   obtain⟨o,ho,e⟩:=(v y).1 ⟨q,hg⟩;exact absurd e ((K y O).2 o ho)⟩
 omega
theorem WN.mono(h:WN pn were ns)(hs:∀ z∈were,z∈were'):WN pn were' ns:=⟨h.rise,fun p f=>⟨(h.nd p f).1,(h.nd p f).2.1,(h.nd p f).2.2.mono fun q ⟨a,ha,e⟩=>⟨a,hs a ha,e⟩⟩,h.at'⟩
theorem Crc.mono(h:Crc pn were c l ns)(hs:∀ z∈were,z∈were'):Crc pn were' c l ns:=⟨h.wn.mono hs,h.kd,h.cc,h.circ,h.two,h.live,h.me,h.j,h.d⟩
theorem W1.mono(h:W1 pn were c l ns)(hs:∀ z∈were,z∈were'):W1 pn were' c l ns:=⟨⟨h.cj.r.mono hs,h.cj.j⟩,h.nd⟩
theorem Xfj(h:Fa pn were c l ns)(B:Xeb were c l)(f:were.length≤5)(hs:∀ z∈were,z∈were')(A:l.length≤30)(hk:Fq were' d ns)(v:d≤16):Idl pn were' l c.toNat (itQ (18+98+Xag c l.length d) ns):=by
 rw[Zrc (18+98)];exact Xgo ((Xij h B f).mono hs) A (hk.it _ ⟨h.r.mono hs,h.j⟩) v
end
section
variable {pn:Int→Zr} {were were':List Int} {ns ns':List (Int×Nd)} {b c x X M:Int} {n m m' n' a:Nd} {l l':List Zr} {i i' j k o d r:Nat} {p P S:Zr} {bag:List Ml}
theorem Xgh(B:Uv l)(C:(ns.map (·.1)).Nodup)(h:∀ z,(∃ m,YC z ns=some m)↔∃ i,i<l.length∧(lp l i).addr=z)(f:∀ i,i<l.length→pn (lp l i).addr=lp l i):Wr pn ⟨c,M,ns,bag⟩=l:=by
 have h1:(l.map Zr.addr).Perm (ns.map (·.1)):=(List.perm_ext_iff_of_nodup B.2.1 C).2 fun z=>by
  constructor
  ·intro A;obtain⟨p,v,rfl⟩:=C0.1 A;obtain⟨i,hi,rfl⟩:=E2 v;obtain⟨m,hm⟩:=(h (lp l i).addr).2 ⟨i,hi,rfl⟩;rw[FJ hi]at hm;exact Zwr hm
  intro A;obtain⟨i,hi,e⟩:=(h z).1 (AD A);exact C0.2 ⟨_,Xax hi,e⟩
 have h2:(l.map Zr.addr).map pn=l:=by
  rw[I2]
  conv=>rhs;rw[← List.map_id l]
  refine List.map_congr_left fun p v=>?_;obtain⟨i,hi,rfl⟩:=E2 v;have:=f i hi;rw[FJ hi]at this;exact this
 have h3:=h1.map pn;rw[h2]at h3;exact GC (h3.trans (RP _).symm) B (PX _)
theorem Idl.idealR(h:Idl pn were l c.toNat ns):XQ pn ⟨c,M,ns,bag⟩=true:=by
 have e:=Xgh (c:=c) (M:=M) (bag:=bag) h.circ.2 (FK h.wn) h.live fun i hi=>h.me hi;rw[← e]at h;exact h.ideal
def Xbi(l:List Zr)(X:Int)(P S:Zr)(ns:List (Int×Nd)):Prop :=
 ∀ i m,i<l.length→YC (lp l i).addr ns=some m→FP l i m.table∧(m.table.pred.addr=X→lp l (pv l i)=P)∧((Yv m.table).addr=X→lp l (nx l i)=S)
theorem Xai(t:Tb)(p:Zr):(WO t p).succ=t.succ∧((WO t p).pred=t.pred∨(WO t p).pred=p):=by
 unfold WO;grind
theorem Xfi{t:Tb}(h:Xby l i t.succ):Yv t∈t.succ:=by
 obtain⟨ds,tl,e,-⟩:=h;unfold Yv;rw[e];cases ds with
 | nil=>exact B1
 | cons d ds=>exact B1
theorem Xgj{lt:Lt}(T:FP l i n.table)(V:lt.frm.addr=X)(H:lt.peer=P)(hs:∃ t,lt.peers=S::t)(h1:n.table.pred.addr=X→lp l (pv l i)=P)(h2:(Yv n.table).addr=X→lp l (nx l i)=S)(hx:(lp l (nx l i)).addr≠X)(K:(lp l (pv l i)).addr≠X)(h0:Yj.addr≠X):
 FP l i (If n lt).table∧(If n lt).table.pred.addr≠X∧(Yv (If n lt).table).addr≠X:=by
 obtain⟨t,et⟩:=hs;obtain⟨t1,f⟩:∃ t1,t1=Xd n.table X:=⟨_,rfl⟩
 obtain⟨t2,B⟩:∃ t2,t2=if n.table.pred.addr=X then WO t1 P else t1:=⟨_,rfl⟩
 have e:If n lt=if(Yv n.table).addr=X then XO { n with table:=t2 } S t else { n with table:=t2 }:=by
  rw[B,f];unfold If;rw[V,H,et]
 have A:=T.forget hx;rw[← f]at A;have L:t1.pred.addr≠X∧(n.table.pred.addr=X→t1.pred=Yj):=by
  rw[f,Xad];split
  ·exact⟨h0,fun _=>rfl⟩
  rename_i h;exact⟨h,fun e=>absurd e h⟩
 have C:t2.succ=t1.succ:=by
  rw[B];split
  ·exact(Xai t1 P).1
  rfl
 have v:Xcz l i t2.pred∧t2.pred.addr≠X:=by
  rw[B];split
  ·rename_i h;rcases(Xai t1 P).2 with e|e
   ·rw[e,L.2 h];exact⟨.inl rfl,h0⟩
   rw[e,← h1 h];exact⟨.inr (.inl rfl),K⟩
  exact⟨A.1,L.1⟩
 have G:Xby l i t2.succ:=by rw[C];exact A.2
 have plain:FP l i t2∧t2.pred.addr≠X∧(Yv t2).addr≠X:=by
  refine⟨⟨v.1,G⟩,v.2,?_⟩;have:=Xfi (t:=t2) G;rw[C,f,Xbv]at this;simpa using(F6.1 this).2
 rw[e];split
 ·rename_i E;unfold XO;split
  ·rename_i I;unfold VJ at I ⊢;split at I
   ·rename_i U;rw[A6 U];obtain⟨t4,e4⟩:=FM (s:=t2.self) (r:=n.copies) t [S];have O:Wk t2.self n.copies [S] t=S::t4:=e4;refine⟨⟨v.1,?_⟩,v.2,?_⟩
    ·show Xby l i (Wk t2.self n.copies [S] t);rw[O,← h2 E];exact⟨[],t4,rfl,fun p H=>by cases H⟩
    show((Wk t2.self n.copies [S] t).headD _).addr≠X;rw[O,← h2 E];exact hx
   cases I
  exact plain
 exact plain
theorem Xbi.bye{q:Ml}(hw:WN pn were ns)(f:∀ i,i<l.length→(lp l i).addr≠X)(h0:Yj.addr≠X)(B:q.lt.frm.addr=X)(C:q.lt.peer=P)(hs:∃ t,q.lt.peers=S::t)(h:Xbi l X P S ns):Xbi l X P S (Zdn q ns):=fun i m hi hm=>by
 unfold Zdn at hm;cases hg:YC q.zto ns with
 | none=>rw[hg]at hm;exact h i m hi hm
 | some n =>
  rw[hg]at hm;have hm:YC (lp l i).addr (WM q.zto (if Ys n.table.self q.lt.frm then If n q.lt else n) ns)=some m:=hm;rw[Vh hw]at hm;split at hm
  ·rename_i e;rw[← e]at hg;obtain⟨g1,g2,g3⟩:=h i n hi hg;split at hm
   ·rw[← A5 hm];obtain⟨E,A,v⟩:=Xgj g1 B C hs g2 g3 (f _ (FI hi)) (f _ (FR hi)) h0;exact⟨E,fun e=>absurd e A,fun e=>absurd e v⟩
   rw[← A5 hm];exact⟨g1,g2,g3⟩
  exact h i m hi hm
theorem Xbi.byes(f:∀ i,i<l.length→(lp l i).addr≠X)(h0:Yj.addr≠X):∀(bag:List Ml) {ns:List (Int×Nd)},WN pn were ns→(∀ q∈bag,QM (InW pn were) q∧q.lt.frm.addr=X∧q.lt.peer=P∧∃ t,q.lt.peers=S::t)→Xbi l X P S ns→Xbi l X P S (QF bag ns)
 | [],_,_,_,h=>h
 | q::bag,ns,hw,hb,h=>Xbi.byes f h0 bag (hw.bye (hb q B1).1).1 (fun z v=>hb z (B2 _ v)) (h.bye hw f h0 (hb q B1).2.1 (hb q B1).2.2.1 (hb q B1).2.2.2)
theorem Xaa(hw:WN pn were ns)(hb:∀ q∈bag,QM (InW pn were) q)(hm:YC b (QF bag ns)=some m):∃ m0,YC b ns=some m0∧Alike m0 m:=by
 obtain⟨m0,f⟩:=Xc (hw.byes bag hb).2 hm;obtain⟨m1,h1,h2⟩:=Hs bag hw hb f;grind
theorem Fa.byes(h:Fa pn were c l ns)(C:YC X ns=none)(h0:Yj.addr≠X)(hb:∀ q∈bag,QM (InW pn were) q∧q.lt.frm.addr=X∧q.lt.peer=P∧∃ t,q.lt.peers=S::t)(E:Xbi l X P S ns):Fa pn were c l (QF bag ns):=by
 have f:∀ q∈bag,QM (InW pn were) q:=fun q B=>(hb q B).1;have hw:=h.r.wn.byes bag f;have A:=Xbi.byes (fun i hi=>h.r.dead C hi) h0 bag h.r.wn hb E;have v:∀{y},YC y ns=none→YC y (QF bag ns)=none:=fun q=>(VF hw.2).2 q;refine⟨h.r.same hw.1 hw.2 (fun z m hm=>?_) (fun z m hm=>?_) (fun z m hm=>?_),fun i m hi hm=>(A i m hi hm).1⟩
 ·obtain⟨m0,g1,g2⟩:=Xaa h.r.wn f hm;rw[g2];exact h.r.kd z m0 g1
 ·obtain⟨m0,g1,g2⟩:=Xaa h.r.wn f hm;rw[g2];exact h.r.j z m0 g1
 obtain⟨m0,g1,g2⟩:=Xaa h.r.wn f hm;rw[g2];have:=h.r.d z m0 g1;exact⟨v this.1,v this.2.1,v this.2.2⟩
theorem Xdk{t:List Zr}(y z w:Zr)(h:t≠[]):(y::t).getLastD z=t.getLastD w:=by
 grind
theorem Xdv(hw:WN pn were ns):ns.length≤(AY X ns).length+1:=by
 have:=IJ (l:=ns.map (·.1)) (w:=X::(AY X ns).map (·.1)) (FK hw) fun z f=>by
  by_cases e:z=X
  ·rw[e];exact B1
  obtain⟨m,hm⟩:=AD f;exact B2 _ (Zwr (m:=m) (by rw[Mt,A4 e];exact hm))
 grind
theorem Idl.leave{q:Nd}(h:Idl pn were l c.toNat ns)(hc:2≤c∧c≤8)(kd:AllKind c ns)(hX:YC X ns=some q)(h3:3≤ns.length):
 ∃ l',l'.length=(AY X ns).length∧Fa pn (ns.map (·.1)) c l' (AY X ns)∧Xeb (ns.map (·.1)) c l'∧Xbi l' X q.table.pred (Yv q.table) (AY X ns):=by
 have L:=h.wn.del X;have hl:=Xdv (X:=X) h.wn;obtain⟨l',e1,e2,C,e4⟩:=h.less hc kd L.1 L.2 jD jD;refine⟨l',e1,C,e4,fun i' m f hm=>⟨C.j i' m f hm,?_⟩⟩;have hlen:=Xam h.circ.2 (FK h.wn) h.live;obtain⟨-,x,hx,G,U⟩:=h.one X q hX;obtain⟨-,i,hi,ea,et⟩:=h.one _ m (L.2 _ m hm);have B:∀{k},k<l.length→(lp l k).addr=X→k=x:=fun hk e=>C2 fun q=>On h.circ.2 hk hx q (by rw[← FJ hk,e,G]);have I:∀ p∈Wf l x,(YC p.addr (AY X ns)).isSome=true:=fun p v=>by
  obtain⟨k,hk,V,rfl⟩:=RR hx v;obtain⟨m,hm⟩:=h.all k hk;rw[Mt,A4 fun e=>V (B hk (by rw[FJ hk];exact e)),hm];rfl
 have ei:lp l' i'=lp l i:=by
  have h1:=C.r.me i' f;have h3:=h.me hi;rw[FJ hi]at h3 ⊢;rw[ea,h3]at h1;exact h1.symm
 obtain⟨i2,A,g2,K⟩:=Xap (fun p=>(YC p.addr (AY X ns)).isSome) hi (by rw[← ei];show(YC (lp l' i').addr _).isSome=true;rw[hm];rfl);rw[← e2]at A g2 K;have T:i2=i':=C2 fun q=>On C.r.circ.2 A f q (by rw[← FJ A,← FJ f,ei,g2]);subst T;have H:(YC (lp l x).addr (AY X ns)).isSome=false:=by rw[FJ hx,← G,Mt,A6 rfl];rfl
 rw[et,U];constructor
 ·intro e;have e:((Wf l i).getLastD Yj).addr=X:=e;rw[Xbc hi jD]at e;have v:pv l i=x:=B (FR hi) e;have O:i=nx l x:=by rw[← v,Xac hi]
  obtain⟨t,r1,E⟩:=FL hx jD;rw[← O]at E;have ht:Wf l' i2=t:=by
   rw[K,E,Xjh,Xjg.2 fun p v=>I p (by rw[r1];exact B2 _ v),Xjk (by rw[H];decide)];exact E0 t
  show lp l' (pv l' i2)=(Wf l x).getLastD Yj;rw[← Xbc f C.r.two,ht,r1];refine(Xdk _ _ _ fun e=>?_).symm;have:=QW hx;rw[r1,e]at this;simp at this;omega
 intro e;obtain⟨t,r1,E⟩:=FL hi jD;obtain⟨w,hw⟩:∃ w,c.toNat=w+1:=⟨c.toNat-1,by omega⟩
 have e:(((Wf l i).take c.toNat).headD (lp l i)).addr=X:=by rw[FJ hi];exact e
 rw[r1,hw]at e;have v:nx l i=x:=B (FI hi) e;rw[v]at r1 E;have ht:Wf l' i2=t:=by
  rw[K,r1,Xjk (by rw[H];decide),Xjg.2 fun p v=>I p (by rw[E];exact C5 _ v)]
 obtain⟨t',r3,-⟩:=FL f C.r.two;rw[ht]at r3;show _=((Wf l x).take c.toNat).headD l[x];rw[E,hw,r3];rfl
end
section
variable {pn:Int→Zr} {were were':List Int} {ns ns':List (Int×Nd)} {a b c x X M:Int} {n m m' n' q:Nd} {l l':List Zr} {i i' j k o d r N J:Nat} {p P S:Zr} {bag:List Ml}
structure Fx (pn:Int→Zr) (were:List Int) (c:Int) (ns:List (Int×Nd)):Prop where
  idl:∃ l,Idl pn were l c.toNat ns
  kd:AllKind c ns
  sh:Shuns (fun _=>True) were ns
  new:∀ z m,YC z ns=some m→m.findTo=-1∨m.findTo∉m.avoid
theorem Fx.of(h:Rest (fun _=>True) pn were c ns)(A:2≤c∧c≤8)(hs:Zqb ns)(f:∀ z m,YC z ns=some m→m.joined=true→m.findTo=-1∨m.findTo∉m.avoid)(hi:XQ pn ⟨c,M,ns,bag⟩=true):Fx pn were c ns:=by
 have hj:Joined ns:=fun z m hm=>(OM h.wn hi hm).1;refine⟨⟨_,Idl.of_ideal h.wn hi jD (fun z m hm=>(h.kd z m hm).1) (fun z m hm=>hs z m hm (hj z m hm)) fun z m hm=>?_⟩,h.kd,h.sh,fun z m hm=>f z m hm (hj z m hm)⟩;exact(h.sh z m hm (hj z m hm)).imp_right fun q y v=>(q.2 y (B2 _ v)).2.resolve_right fun h9=>h9 trivial
theorem Rest.stop(h:Rest (fun _=>True) pn were c ns)(f:2≤c∧c≤8)(hi:Go.Esp.XQ pn ⟨c,M,itQ (j+1) ns,bag⟩=true):Fx pn were c (itQ (j+1) ns):=by
 have h1:=h.it j;have h2:=h.it (j+1);rw[Nw]at h2 hi ⊢;exact Fx.of h2 f (Np h1.wn h1.kd h1.lone) (fun z m hm hj=>(OA h1.wn h1.kd h1.lone hm hj).2.2.2) hi
theorem Idl.it:∀(j:Nat) {ns:List (Int×Nd)},Idl pn were l r ns→Idl pn were l r (itQ j ns)
 | 0,_,h=>h
 | j+1,_,h=>Idl.it j h.round
theorem Xca(hw:WN pn were ns)(B:0<M)(G:2≤c∧c≤8)(hb:∀ m∈bag,QM (InW pn were) m)(A:bag.length≤10000)(h2:∀ j,Go.Esp.XQ pn ⟨c,M,itQ (j+1) (QF bag ns),[]⟩=true→Fx pn were c (itQ (j+1) (QF bag ns)))(E:J+1≤N)(hi:∃ l,Idl pn were l c.toNat (itQ (J+1) (QF bag ns)))
 (h0:Go.Esp.XQ pn ⟨c,M,ns,bag⟩=true→bag=[]∧Fx pn were c ns):∃ f,(VZ pn N ⟨c,M,ns,bag⟩).2=⟨c,M,f,[]⟩∧Fx pn were c f:=by
 obtain⟨j,hj,e,hid,C⟩:=KH (pn:=pn) N ⟨c,M,ns,bag⟩;cases j with
 | zero =>
  obtain⟨rfl,v⟩:=h0 ((C rfl).resolve_left jD);exact⟨ns,e,v⟩
 | succ j =>
  rw[AE hw B hb A j]at e hid;refine⟨_,e,h2 j ?_⟩;rcases C7 (j+1) N with h|h
  ·exact hid h
  obtain⟨l,hi⟩:=hi;have hs:=hi.it (j-J);rw[← Zrc]at hs;rw[show J+1+(j-J)=j+1 by omega]at hs;exact hs.idealR
theorem Fx.rest(h:Fx pn were c ns):Rest (fun _=>True) pn were c ns:=by
 obtain⟨l,hi⟩:=h.idl;exact⟨hi.wn,h.kd,hi.j.lone,h.sh⟩
theorem Rest.sub(h:Rest (fun _=>True) pn were c ns)(hw:WN pn were ns')(hs:Sub ns ns'):Rest (fun _=>True) pn were c ns':=⟨hw,fun z m hm=>h.kd z m (hs z m hm),h.lone.sub hs,fun z m hm hj=>(h.sh z m (hs z m hm) hj).imp_right fun q=>⟨q.1,fun y f=>⟨(q.2 y f).1,(q.2 y f).2.imp_left hs.none⟩⟩⟩
theorem Xdl(hw:WN pn were ns)(hj:Joined ns):∀ j,Joined (itQ j ns)
 | 0=>hj
 | j+1=>by
  rw[Nw];have w:=(Bc j hw).1;exact(Xdl hw hj j).kept (Le _ w) (Wh w).2
theorem Xcw(A:Rest (fun _=>True) pn were c ns)(K:Joined ns)(hS:Zqb ns)(hk:ns.map (·.1)=[a])(V:AllG (GS a []) ns)(H:∀ z∈were,Yf z)(hc:2≤c∧c≤8):∃ l,Idl pn were l c.toNat ns:=by
 have I:∀ z m,YC z ns=some m→z=a:=fun z m hm=>by
  have:=Zwr hm;rw[hk]at this;simpa using this
 obtain⟨m,hm⟩:=AD (x:=a) (ns:=ns) (by rw[hk];exact B1);have E:=(A.wn.get hm).1.1;have hs:=(A.wn.get hm).2.1;have G:=V a m hm;have no:∀ p:Zr,Ys m.table.self p→GS a [] p→False:=fun p U v=>by
  rcases v with v|v
  ·exact U.2.1 (by rw[v,hs,A.wn.at'])
  cases v
 have C:=H a (AC A.wn hm);have et:m.table=RH [pn a] c.toNat 0 (pn a):=by
  have T:m.table.pred=Yj:=C2 fun q=>no _ (E.2.1.resolve_left q) (G.2.1 q);have O:m.table.succ=[]:=by
   cases hq:m.table.succ with
   | nil=>rfl
   | cons p t=>exact(no p (E.2.2.2.2.1.1 p (by rw[hq];exact B1)) (G.2.2.1 p (by rw[hq];exact B1))).elim
  have L:m.table.fingers=List.replicate 160 Yj:=List.eq_replicate_iff.2 ⟨E.2.2.2.1,fun p v=>C2 fun q=>no _ ((E.2.2.2.2.2 p v).resolve_left q) (G.2.2.2 p v q)⟩;have e4:(RH [pn a] c.toNat 0 (pn a)).fingers=List.replicate 160 Yj:=List.eq_replicate_iff.2 ⟨by show((List.range 160).map _).length=160;rw[A8,List.length_range],fun p v=>by
   obtain⟨k,-,rfl⟩:=C0.1 v;unfold MN;rw[A6 (by have:=Ua (l:=[pn a]) (x:=(pn a).id+To k) Nat.zero_lt_one;simpa using this)]⟩
  cases hmt:m.table with
  | mk s p sc f =>
   rw[hmt]at T O L hs;have e5:Wf [pn a] 0=[]:=rfl;show(⟨s,p,sc,f⟩:Tb)=⟨pn a,(Wf [pn a] 0).getLastD Yj,(Wf [pn a] 0).take c.toNat,(RH [pn a] c.toNat 0 (pn a)).fingers⟩
   rw[e4,e5,List.take_nil,show s=pn a from hs,show p=Yj from T,show sc=[]from O,show f=_ from L];rfl
 refine⟨[pn a],A.wn,⟨by simp,fun p v=>?_,by simp,List.pairwise_singleton _ _⟩,by omega,fun i hi=>?_,fun z m2 B=>?_,K,fun z m hm=>hS z m hm (K z m hm),fun z m hm=>?_⟩
 ·rw[B0.1 v,A.wn.at'];exact C
 ·obtain rfl:i=0:=by simpa using hi
  exact⟨m,by show YC (pn a).addr ns=_;rw[A.wn.at'];exact hm⟩
 ·obtain rfl:=I z m2 B;rw[hm]at B;rw[← A5 B];exact⟨by rw[(A.kd z m hm).1];omega,0,Nat.zero_lt_one,by show z=(pn z).addr;rw[A.wn.at'],et⟩
 exact(A.sh z m hm (K z m hm)).imp_right fun q y hy=>(q.2 y (B2 _ hy)).2.resolve_right fun h9=>h9 trivial
theorem Xgk(h:Rest (fun _=>True) pn were c ns)(hj:Joined ns)(h1:ns.length=1)(f:∀ z∈were,Yf z)(C:2≤c∧c≤8):∃ l,Idl pn were l c.toNat (itQ (were.length+1) ns):=by
 obtain⟨⟨a,n⟩,rfl⟩:=List.length_eq_one_iff.1 h1;have A:AllG (GS a were) [(a,n)]:=fun z m hm=>(h.wn.get hm).2.2.mono fun p ⟨q,v,e⟩=>.inr (by rw[e,h.wn.at'];exact v);have B:=Zkq h.wn (fun q=>by have:=(f _ q).1;omega) rfl (Nat.lt_succ_self _) A;refine Xcw (h.it _) (Xdl h.wn hj _) ?_ (Bc _ h.wn).2 B f C;rw[Nw];have h2:=h.it were.length;exact Np h2.wn h2.kd h2.lone
theorem Idl.left(h:Idl pn were l r ns)(K:YC X ns=some q)(h2:2≤ns.length)(hi:Go.Esp.XQ pn ⟨c,M,AY X ns,bag⟩=true):False:=by
 have T:=h.wn.del X;have hlen:=Xam h.circ.2 (FK h.wn) h.live;obtain⟨-,x,hx,f,L⟩:=h.one X q K;have v:=FR hx;have E:pv l x≠x:=fun e=>FV v jD (by rw[Xac hx];exact e.symm);obtain⟨m,hm⟩:=h.all _ v;obtain⟨-,i,C,O,U⟩:=h.one _ m hm;have A:pv l x=i:=C2 fun q=>On h.circ.2 v C q O;subst A;have B:YC l[pv l x].addr (AY X ns)=some m:=by
  rw[Mt,A4 fun e=>On h.circ.2 v hx E (by rw[e,f]),hm]
 have G:=Nx T.1 hi _ m B;rw[U]at G;obtain⟨t,I,-⟩:=FL v jD;rw[Xac hx]at I;obtain⟨w,hw⟩:∃ w,r=w+1:=⟨r-1,by have:=h.rr;omega⟩
 obtain⟨y,H⟩:=G.2.2.1 (lp l x) (by show lp l x∈(Wf l _).take r;rw[I,hw];exact B1);rw[FJ hx,← f,Mt,A6 rfl]at H;cases H
end
section
variable {pn:Int→Zr} {were were':List Int} {ns ns':List (Int×Nd)} {a b c x X M:Int} {n m m' n' q:Nd} {l l':List Zr} {i i' j k o d r N J:Nat} {p P S:Zr} {bag:List Ml}
theorem Xbh(f:2≤c∧c≤8)(v:l.length≤6):Xag c l.length 6≤120∧1≤Xag c l.length 6:=by
 unfold Xag;omega
theorem Fq.of(hs:Shuns (fun _=>True) were ns)(f:∀ z m,YC z ns=some m→m.findTo=-1∨m.findTo∉m.avoid)(B:were.length≤6):Fq were 6 ns :=
 ⟨hs,f,fun A h1 h2=>H7 (IJ h1 fun y v=>(h2 y v).1) B⟩
theorem Xcq(h:Idl pn were l r ns):∀ z∈ns.map (·.1),z∈were:=fun z f=>by
 obtain⟨m,hm⟩:=AD f;exact AC h.wn hm
theorem Xem(h:Fa pn were c l ns)(A:Xeb were c l)(f:were.length≤5)(hs:∀ z∈were,z∈were')(hk:Fq were' 6 ns):∃ J,J+1≤400∧∃ l,Idl pn were' l c.toNat (itQ (J+1) ns):=by
 have B:l.length≤5:=by
  have h1:=Xam h.r.circ.2 (FK h.r.wn) h.r.live;have h2:=IJ (FK h.r.wn) fun z v=>by
   obtain⟨m,hm⟩:=AD v;exact AC h.r.wn hm
  rw[A8]at h2;omega
 have C:=Xbh (l:=l) h.r.cc jD;have hi:=Xfj h A f hs jD hk jM;grind
theorem Xcv(h:Rest (fun _=>True) pn were c ns)(hj:Joined ns)(h1:ns.length=1)(f:∀ z∈were,Yf z)(v:2≤c∧c≤8)(A:were.length≤6):∃ J,J+1≤400∧∃ l,Idl pn were l c.toNat (itQ (J+1) ns):=⟨were.length,by omega,Xgk h hj h1 f v⟩
theorem Fx.crash(h:Fx pn were c ns)(T:0<M)(v:2≤c∧c≤8)(C:∀ z∈were,Yf z)(G:were.length≤6)(H:ns.length≤5)(hw:WN pn were ns')(hs:Sub ns ns')(h1:1≤ns'.length)(U:(ns.length:Int)<ns'.length+c):
 ∃ f,(VZ pn 400 ⟨c,M,ns',[]⟩).2=⟨c,M,f,[]⟩∧Fx pn were c f:=by
 obtain⟨l,hi⟩:=h.idl;have A:=h.rest.sub hw hs;have hj:Joined ns':=fun z m hm=>hi.j z m (hs z m hm);have E:∀ z m,YC z ns'=some m→m.findTo=-1∨m.findTo∉m.avoid:=fun z m hm=>h.new z m (hs z m hm);have B:Zqb ns':=fun z m hm _=>by
  have:=hi.d z m (hs z m hm);exact⟨hs.none this.1,hs.none this.2.1,hs.none this.2.2⟩
 have L:∃ J,J+1≤400∧∃ l,Idl pn were l c.toNat (itQ (J+1) ns'):=by
  by_cases h2:ns'.length=1
  ·exact Xcv A hj h2 C v G
  obtain⟨l',V,-,I,O⟩:=hi.less v h.kd hw hs jD U;exact Xem I O (by rw[A8];exact H) (Xcq hi) (Fq.of A.sh E G)
 obtain⟨J,h9,K⟩:=L;exact Xca (bag:=[]) hw T v (fun m hm=>by cases hm) (C3 _) (fun j=>A.stop v) h9 K fun q=>⟨rfl,Fx.of A v B (fun z m hm _=>E z m hm) q⟩
theorem Rest.byes(h:Rest (fun _=>True) pn were c ns)(hj:Joined ns)(hb:∀ q∈bag,QM (InW pn were) q):Rest (fun _=>True) pn were c (QF bag ns)∧Joined (QF bag ns):=by
 have w:=h.wn.byes bag hb;have f:Joined (QF bag ns):=fun z m hm=>by
  obtain⟨m0,g1,g2⟩:=Xaa h.wn hb hm;rw[g2];exact hj z m0 g1
 refine⟨⟨w.1,fun z m hm=>?_,f.lone,fun z m hm A=>?_⟩,f⟩
 ·obtain⟨m0,g1,g2⟩:=Xaa h.wn hb hm;rw[g2];exact h.kd z m0 g1
 obtain⟨m0,g1,g2⟩:=Xaa h.wn hb hm;rw[g2];exact(h.sh z m0 g1 (hj z m0 g1)).imp_right fun q=>⟨q.1,fun y v=>⟨(q.2 y v).1,(q.2 y v).2.keys w.2⟩⟩
theorem Fx.leave(h:Fx pn were c ns)(hM:0<M)(H:2≤c∧c≤8)(C:∀ z∈were,Yf z)(h6:were.length≤6)(h5:ns.length≤5)(h2:2≤ns.length)(B:YC X ns=some q)(hl:bag.length≤10000)
 (hb:∀ m∈bag,m.lt.kind=8∧SP m.lt∧m.lt.frm.addr=X∧m.lt.peer=q.table.pred∧m.lt.peers=q.table.succ∧∀ G,GoodT G q.table→GoodL G m.lt):∃ E,(VZ pn 400 ⟨c,M,AY X ns,bag⟩).2=⟨c,M,E,[]⟩∧Fx pn were c E:=by
 obtain⟨l,hi⟩:=h.idl;have f:=hi.wn.del X;have hr:=h.rest.sub f.1 f.2;have hj:Joined (AY X ns):=fun z m hm=>hi.j z m (f.2 z m hm);have v:∀ m∈bag,QM (InW pn were) m:=fun m hm=>⟨(hb m hm).1,(hb m hm).2.1,(hb m hm).2.2.2.2.2 _ (hi.wn.get B).2.2⟩
 obtain⟨A,O⟩:=hr.byes hj v;have T:=f.1.byes bag v;have I:Yj.addr≠X:=fun e=>by
  have:=(C X (AC hi.wn B)).1;rw[← e]at this;exact absurd this jM
 have hn:∀ z m,YC z (QF bag (AY X ns))=some m→m.findTo=-1∨m.findTo∉m.avoid:=fun z m hm=>by
  obtain⟨m0,g1,g2⟩:=Xaa f.1 v hm;rw[g2];exact h.new z m0 (f.2 z m0 g1)
 have hlen:=Xdv (X:=X) hi.wn;have V:(QF bag (AY X ns)).length=(AY X ns).length:=by
  have:=A9 List.length T.2;simpa using this
 have K:(AY X ns).length+1≤ns.length:=by
  have:=IJ (l:=X::(AY X ns).map (·.1)) (w:=ns.map (·.1)) (D9.2 ⟨Wg.1 (by rw[Mt,A6 rfl]),FK f.1⟩) fun z L=>by
   rcases B7.1 L with rfl|L
   ·exact Zwr B
   obtain⟨m,hm⟩:=AD L;exact Zwr (f.2 z m hm)
  simpa using this
 have hJ:∃ J,J+1≤400∧∃ l,Idl pn were l c.toNat (itQ (J+1) (QF bag (AY X ns))):=by
  by_cases h3:ns.length=2
  ·exact Xcv A O jD C H h6
  obtain⟨l',e1,e3,e4,e5⟩:=hi.leave H h.kd B jD;have hs:∃ t,q.table.succ=Yv q.table::t:=by
   have hlen:=Xam hi.circ.2 (FK hi.wn) hi.live;obtain⟨-,x,hx,aa,U⟩:=hi.one X q B;obtain⟨t,r1,-⟩:=FL hx jD;obtain⟨w,hw⟩:∃ w,c.toNat=w+1:=⟨c.toNat-1,by omega⟩
   refine⟨t.take w,?_⟩;rw[U];show(Wf l x).take c.toNat=((Wf l x).take c.toNat).headD l[x]::_;rw[r1,hw];rfl
  refine Xem (e3.byes (by rw[Mt,A6 rfl]) I (fun m hm=>?_) e5) e4 (by rw[A8];exact h5) (Xcq hi) (Fq.of A.sh hn h6);obtain⟨b1,b2,b3,b4,b5,b6⟩:=hb m hm;exact⟨⟨b1,b2,b6 _ (hi.small.get B).2.2⟩,b3,b4,by rw[b5];exact hs⟩
 obtain⟨J,h9,hI⟩:=hJ;exact Xca f.1 hM H v hl (fun j=>A.stop H) h9 hI fun q=>(hi.left B h2 q).elim
end
section
variable {pn:Int→Zr} {were were':List Int} {ns ns':List (Int×Nd)} {a b c x X M:Int} {n m m' n' q y:Nd} {l l':List Zr} {i i' j k o d r N J:Nat} {p P S:Zr} {tl:List Zr}
def Xbo(l:List Zr)(i k:Nat)(p:Zr):Prop:=Ys (lp l i) p∧Uh (lp l i).id p.id (lp l k).id
theorem Xfo(h:Crc pn were c l ns)(hi:i<l.length)(hk:k<l.length)(V:k≠i)(T:YC (lp l i).addr ns=some n)(hs:(ready n).table.succ=lp l k::tl)(hy:YC (lp l k).addr ns=some y):
 (Rl n ns).table.pred=(ready n).table.pred∧((Xbo l i k y.table.pred∧∃ t,(Rl n ns).table.succ=y.table.pred::t)∨(¬Xbo l i k y.table.pred∧∃ t,(Rl n ns).table.succ=lp l k::t))∧SJ n ns=some (Yv (Rl n ns).table).addr:=by
 have hN:=Tr (h.wn.get T).1 (h.wn.get T).2.2;have A:=h.self hi T;have hne:¬(ready n).table.succ=[]:=by rw[hs];exact List.cons_ne_nil _ _
 have hf:Yv (ready n).table=lp l k:=by unfold Yv;rw[hs];rfl
 have aa:=h.self hk hy;have C:Vg ns (lp l k).addr=some y:=by unfold Vg;rw[hy];simp[h.j _ y hy]
 have ab:SJ n ns=some (Yv (Rl n ns).table).addr:=by
  unfold SJ;rw[A4 hne,hf,C]
 have K:Ys (lp l i) (lp l k):=FW h.circ.2 hi hk V;have f:(ready n).table.self=lp l i:=hN.2.1.trans A;refine⟨?_,?_,ab⟩ <;> unfold Rl <;> rw[A4 hne,hf,C];all_goals
  have hm:Ui { SO (ready n) (lp l k).addr with askTo:=-1 }:=TP (q:=(SO (ready n) (lp l k).addr).req) (r:=(SO (ready n) (lp l k).addr).askReq) (TP hN.1 (by rw[f];exact QG K.1 K.2.1)) (VP hN.1.1.1);have H:XO { SO (ready n) (lp l k).addr with askTo:=-1 } (lp l k) y.table.succ={ { SO (ready n) (lp l k).addr with askTo:=-1 }with table:={ (ready n).table with succ:=Wk (lp l i) (ready n).copies [lp l k] y.table.succ } }:=by
   rw[OX hm (by show Ys (ready n).table.self _;rw[f];exact K)];show({ { SO (ready n) (lp l k).addr with askTo:=-1 }with table:={ (ready n).table with succ:=Wk (ready n).table.self (ready n).copies [lp l k] y.table.succ } }:Nd)=_;rw[f]
  obtain⟨t1,G⟩:=FM (s:=lp l i) (r:=(ready n).copies) y.table.succ [lp l k];have I:(tells y (nxR (ready n).req)).frm=lp l k:=aa;have v:TH (XO { SO (ready n) (lp l k).addr with askTo:=-1 } (lp l k) y.table.succ).table y.table.pred↔Xbo l i k y.table.pred:=by
   rw[H];unfold TH;have O:Yv { (ready n).table with succ:=Wk (lp l i) (ready n).copies [lp l k] y.table.succ }=lp l k:=by
    rw[G];rfl
   rw[O,f];exact Iff.rfl
  have L:Ui (XO { SO (ready n) (lp l k).addr with askTo:=-1 } (lp l k) y.table.succ):=(Pu hm).1;obtain⟨t2,U⟩:=FM (s:=lp l i) (r:=(ready n).copies) (lp l k::y.table.succ) [y.table.pred];unfold TU;dsimp only;rw[I];by_cases hcl:TH (XO { SO (ready n) (lp l k).addr with askTo:=-1 } (lp l k) y.table.succ).table y.table.pred
  ·have hg:=v.1 hcl;have e2:XO (XO { SO (ready n) (lp l k).addr with askTo:=-1 } (lp l k) y.table.succ) y.table.pred (lp l k::y.table.succ)={ { SO (ready n) (lp l k).addr with askTo:=-1 }with table:={ (ready n).table with succ:=Wk (lp l i) (ready n).copies [y.table.pred] (lp l k::y.table.succ) } }:=by
    rw[OX L (by rw[H];show Ys (ready n).table.self _;rw[f];exact hg.1),H];show({ { SO (ready n) (lp l k).addr with askTo:=-1 }with table:={ (ready n).table with succ:=Wk (ready n).table.self (ready n).copies [y.table.pred] (lp l k::y.table.succ) } }:Nd)=_;rw[f]
   have B:(tells y (nxR (ready n).req)).peer=y.table.pred:=rfl;have E:(tells y (nxR (ready n).req)).peers=y.table.succ:=rfl;first
    | (rw[B,E,A6 hcl,e2];done)
    | (rw[B,E,A6 hcl,e2];exact .inl ⟨hg,t2,U⟩)
  have B:(tells y (nxR (ready n).req)).peer=y.table.pred:=rfl;have E:(tells y (nxR (ready n).req)).peers=y.table.succ:=rfl;first
   | (rw[B,E,A4 hcl,H];done)
   | (rw[B,E,A4 hcl,H];exact .inr ⟨fun q=>hcl (v.2 q),t1,G⟩)
theorem Xea(h:Crc pn were c l ns)(f:YC x ns=some n)(hk:SJ n ns=some b)(hb:b≠x)(hm:YC b ns=some m)(z:Int):
 YC z (T1 x ns)=if z=b then some { m with table:=WO m.table n.table.self }else if z=x then some (Rl n ns)else YC z ns:=by
 have hw:WN pn were (WM x (Rl n ns) ns):=by
  have hk:=JK (G:=InW pn were) h.wn f (h.wn.get f).2.2 fun y A=>(h.wn.get (Uo A).1).2.2;exact h.wn.put f hk.1 hk.2.1 hk.2.2.1
 rw[Xdz h f,hk];show YC z (Ti n.table.self b (WM x (Rl n ns) ns))=_;have v:YC b (WM x (Rl n ns) ns)=some m:=by rw[Vh h.wn,A4 hb];exact hm
 have B:Ti n.table.self b (WM x (Rl n ns) ns)=WM b { m with table:=WO m.table n.table.self } (WM x (Rl n ns) ns):=by
  unfold Ti;rw[v]
 rw[B,Vh hw,Vh h.wn]
theorem Xie(h:Crc pn were c l ns)(f:YC x ns=some n)(hk:SJ n ns=none)(z:Int):YC z (T1 x ns)=if z=x then some (Rl n ns)else YC z ns:=by
 rw[Xdz h f,hk];rw[Vh h.wn]
end
section
variable {pn:Int→Zr} {were were':List Int} {ns ns':List (Int×Nd)} {a b c x X M:Int} {n m m' n' q y:Nd} {l l':List Zr} {i i' j k o d r N J w:Nat} {p p' P S:Zr} {tl s:List Zr} {W Q:List (Int×Nd)→Prop}
def PrJ(l:List Zr)(w i:Nat)(p:Zr):Prop:=PNd l i p∨(i=nx l w∧pv l w≠nx l w∧p=lp l (pv l w))
def SuJ(l:List Zr)(w i:Nat)(s:List Zr):Prop:=Fst l i s∨(i=pv l w∧((pv l w≠nx l w∧∃ tl,s=lp l (nx l w)::tl)∨(pv l w=nx l w∧s=[])))
structure Fy (pn:Int→Zr) (were:List Int) (c:Int) (l:List Zr) (w:Nat) (ns:List (Int×Nd)):Prop where
  r:Crc pn were c l ns
  wl:w<l.length
  n:∀ i m,i<l.length→YC (lp l i).addr ns=some m→PrJ l w i m.table.pred∧SuJ l w i m.table.succ
theorem Ptr.prj(h:Ptr l i p p')(f:PrJ l w i p):PrJ l w i p':=by
 rcases h with e|e|e
 ·grind
 ·exact .inl (.inl e.1)
 exact .inl (.inr e)
theorem SuJ.filter(hw:w<l.length)(hi:i<l.length)(hx:∀ k,k<l.length→(lp l k).addr≠x)(h:SuJ l w i s):SuJ l w i (s.filter fun p=>p.addr≠x):=by
 rcases h with h|⟨h1,⟨h2,tl,e⟩|⟨h2,e⟩⟩
 ·exact .inl (h.filter (hx _ (FI hi)))
 ·refine .inr ⟨h1,.inl ⟨h2,tl.filter (fun p=>p.addr≠x),?_⟩⟩;rw[e,Xjj (by simpa using hx _ (FI hw))]
 exact .inr ⟨h1,.inr ⟨h2,by rw[e];rfl⟩⟩
theorem Fy.t3(h:Fy pn were c l w ns):Fy pn were c l w (T3 x ns):=⟨h.r.t3,h.wl,fun i m hi hm=>by
 obtain⟨m0,f⟩:=Xc (h.r.wn.t3 x).2 hm
 obtain⟨h1,h2⟩:=h.n i m0 hi f
 refine⟨(Xaz h.r hi f hm).prj h1,?_⟩
 rcases Xau h.r f hm with e|⟨y,v,e⟩ <;> rw[e]
 ·exact h2
 exact h2.filter h.wl hi fun k hk=>h.r.dead v hk⟩
theorem Fy.t2(h:Fy pn were c l w ns):Fy pn were c l w (T2 x ns):=⟨h.r.t2,h.wl,fun i m hi hm=>by
 obtain⟨m0,f⟩:=Xc (h.r.wn.t2 x).2 hm
 obtain⟨h1,h2⟩:=h.n i m0 hi f
 refine⟨(Xba h.r hi f hm).prj h1,?_⟩
 rcases Xav h.r f hm with e|⟨y,v,e⟩ <;> rw[e]
 ·exact h2
 exact h2.filter h.wl hi fun k hk=>h.r.dead v hk⟩
theorem Xde(h:i<l.length)(h2:2≤l.length):pv l i≠i:=fun e=>FV (FR h) h2 (by rw[Xac h];exact e.symm)
theorem Xbk(h:Uv l)(hw:w<l.length)(h2:2≤l.length)(A:pv l w≠nx l w):Uh (lp l (pv l w)).id (lp l w).id (lp l (nx l w)).id:=by
 have f:=FR hw;have e:(pv l w+1) % l.length=w:=Xac hw;have:=(Zgv h (x:=(lp l (nx l w)).id) f hw e fun q=>?_).2
 ·rw[← FJ f,← FJ hw]at this;exact this
 rw[← FJ f,← FJ hw]at q;rcases q with q|q
 ·exact Xbt h (FI hw) hw (FV hw h2) q
 have v:Gap l (pv l w) (lp l (nx l w)):=by
  unfold Gap;rw[Xac hw];exact q
 exact FU h h2 f (FI hw) v
theorem Xah{t:Tb}(ht:TG t)(f:Ys t.self p)(h:t.pred=Yj∨t.pred=p∨Uh t.pred.id p.id t.self.id):(WO t p).pred=p:=by
 unfold WO;grind
theorem Fy.ask(h:Fy pn were c l w ns)(hi:i<l.length)(O:YC (lp l i).addr ns=some n):
 Ptr l i n.table.pred (Rl n ns).table.pred∧((Fst l i (Rl n ns).table.succ∧SJ n ns=some (lp l (nx l i)).addr∧∃ y,YC (lp l (nx l i)).addr ns=some y∧(WO y.table (lp l i)).pred=lp l i)
  ∨ (i=pv l w∧pv l w≠nx l w∧(∃ tl,(Rl n ns).table.succ=lp l (nx l w)::tl)∧SJ n ns=some (lp l (nx l w)).addr∧∃ y,YC (lp l (nx l w)).addr ns=some y∧y.table.pred≠lp l w∧(WO y.table (lp l i)).pred=lp l i)
  ∨ (i=pv l w∧pv l w=nx l w∧(Rl n ns).table.succ=[]∧SJ n ns=none∧n.table.pred≠lp l w)):=by
 have V:=h.r.circ.2;have h2:=h.r.two;have hw:=h.wl;obtain⟨ae,ab⟩:=h.n i n hi O;have G:=Xdb h.r hi O;have ag:=G.prj ae;have ah:SuJ l w i (unask n).table.succ:=by
  rcases Xab h.r O with e|⟨y,A,e⟩ <;> rw[e]
  ·exact ab
  exact ab.filter hw hi fun k hk=>h.r.dead A hk
 have at_:∀ k,k<l.length→∃ y,YC (lp l k).addr ns=some y:=fun k hk=>(h.r.live _).2 ⟨k,hk,rfl⟩;have tb:∀{k y},k<l.length→k≠i→YC (lp l k).addr ns=some y→TG y.table∧Ys y.table.self (lp l i):=fun hk E A=>⟨(h.r.wn.get A).1.1,by rw[h.r.self hk A];exact FW V hk hi (Ne.symm E)⟩
 have f:∀{p},Ys (lp l i) p→p≠Yj:=fun ho=>QA ho;have ak:∀ k,(lp l k)=Yj→k<l.length→False:=fun k e hk=>by
  have:=(V.1 _ (Xax hk)).1;rw[e]at this;exact absurd this jM
 rcases ah with⟨tl,es⟩|⟨h1,⟨h3,tl,es⟩|⟨h3,es⟩⟩
 ·have L:ready n=unask n:=by unfold ready;rw[A4 fun q=>by rw[es]at q;cases q.1]
  have hk:=FI hi;have E:=FV hi h2;obtain⟨y,A⟩:=at_ _ hk;obtain⟨a1,a2,a3⟩:=Xfo h.r hi hk E O (by rw[L];exact es) A;have T:=(h.n _ y hk A).1;have I:¬Xbo l i (nx l i) y.table.pred:=by
   rintro⟨g1,g2⟩;rcases T with(e|e)|⟨U,e2,e3⟩
   ·exact f g1 e
   ·rw[FQ hi]at e;rw[e]at g1;exact g1.2.1 rfl
   have B:i=w:=by rw[← FQ hi,U,FQ hw]
   subst B;rw[e3]at g2;exact FU V h2 hi (FR hi) g2
  rcases a2 with⟨g,-⟩|⟨-,t,H⟩
  ·exact absurd g I
  have C:Yv (Rl n ns).table=lp l (nx l i):=by unfold Yv;rw[H];rfl
  refine⟨by rw[a1,L];exact G,.inl ⟨⟨t,H⟩,by rw[a3,C],y,A,?_⟩⟩;obtain⟨b1,b2⟩:=tb hk E A;refine Xah b1 b2 ?_;rcases T with(e|e)|⟨U,e2,e3⟩
  ·exact .inl e
  ·rw[FQ hi]at e;exact .inr (.inl e)
  have B:i=w:=by rw[← FQ hi,U,FQ hw]
  subst B;rw[e3,h.r.self hk A];exact .inr (.inr (Xbk V hi h2 e2))
 ·have L:ready n=unask n:=by unfold ready;rw[A4 fun q=>by rw[es]at q;cases q.1]
  have hk:=FI hw;have E:nx l w≠i:=fun e=>h3 (by rw[← h1,e]);obtain⟨y,A⟩:=at_ _ hk;obtain⟨a1,a2,a3⟩:=Xfo h.r hi hk E O (by rw[L];exact es) A;have T:=(h.n _ y hk A).1;obtain⟨b1,b2⟩:=tb hk E A;refine⟨by rw[a1,L];exact G,?_⟩;by_cases hyw:y.table.pred=lp l w
  ·have aj:Xbo l i (nx l w) y.table.pred:=by
    rw[hyw,h1];exact⟨FW V (FR hw) hw (Xde hw h2).symm,Xbk V hw h2 h3⟩
   rcases a2 with⟨-,t,H⟩|⟨g,-⟩
   ·have v:nx l i=w:=by rw[h1,Xac hw]
    rw[hyw]at H;have C:Yv (Rl n ns).table=lp l w:=by unfold Yv;rw[H];rfl
    obtain⟨y2,aa⟩:=at_ w hw;refine .inl ⟨⟨t,by rw[v];exact H⟩,by rw[a3,C,v],y2,by rw[v];exact aa,?_⟩;obtain⟨b1,b2⟩:=tb hw (fun e=>Xde hw h2 (by rw[← h1,e])) aa;refine Xah b1 b2 ?_;rcases(h.n _ y2 hw aa).1 with(e|e)|⟨U,-,-⟩
    ·exact .inl e
    ·rw[h1];exact .inr (.inl e)
    exact absurd U.symm (FV hw h2)
   exact absurd aj g
  have K:y.table.pred=Yj∨y.table.pred=lp l i:=by
   rcases T with(e|e)|⟨U,e2,e3⟩
   ·exact .inl e
   ·rw[FQ hw]at e;exact absurd e hyw
   rw[h1];exact .inr e3
  have I:¬Xbo l i (nx l w) y.table.pred:=by
   rintro⟨g1,g2⟩;rcases K with e|e
   ·exact f g1 e
   rw[e]at g1;exact g1.2.1 rfl
  rcases a2 with⟨g,-⟩|⟨-,t,H⟩
  ·exact absurd g I
  have C:Yv (Rl n ns).table=lp l (nx l w):=by unfold Yv;rw[H];rfl
  exact .inr (.inl ⟨h1,h3,⟨t,H⟩,by rw[a3,C],y,A,hyw,Xah b1 b2 (K.imp id .inl)⟩)
 have v:nx l i=w:=by rw[h1,Xac hw]
 have ad:pv l i=w:=by rw[h1,h3,FQ hw]
 by_cases hq:(unask n).table.pred=Yj
 ·have L:ready n=unask n:=by unfold ready;rw[A4 fun q=>q.2 hq]
  have ha:Rl n ns=unask n:=by unfold Rl;rw[L,A6 es]
  refine⟨by rw[ha];exact G,.inr (.inr ⟨h1,h3,by rw[ha];exact es,by unfold SJ;rw[L,A6 es],fun e=>?_⟩)⟩;have:=G.rt (show PRt l i n.table.pred from by show _=lp l (pv l i);rw[ad];exact e);rw[hq]at this;exact ak _ this.symm (FR hi)
 have ai:(unask n).table.pred=lp l w:=by
  rcases ag with(e|e)|⟨-,e,-⟩
  ·exact absurd e hq
  ·rw[ad]at e;exact e
  exact absurd h3 e
 have hN:=LY (h.r.wn.get O).1 (h.r.wn.get O).2.2;have af:(unask n).table.self=lp l i:=hN.2.1.trans (h.r.self hi O);have B:w≠i:=fun e=>Xde hw h2 (by rw[← h1,e]);have L:ready n={ unask n with table:={ (unask n).table with succ:=Wk (unask n).table.self (unask n).copies [lp l w] [] } }:=by
  unfold ready;rw[A6 ⟨es,hq⟩,ai,OX hN.1 (by rw[af];exact FW V hi hw B)]
 obtain⟨y,A⟩:=at_ w hw;obtain⟨a1,a2,a3⟩:=Xfo (tl:=[]) h.r hi hw B O (by rw[L];rfl) A;have K:y.table.pred=Yj∨y.table.pred=lp l i:=by
  rcases(h.n _ y hw A).1 with(e|e)|⟨U,-,-⟩
  ·exact .inl e
  ·rw[h1];exact .inr e
  exact absurd U.symm (FV hw h2)
 have I:¬Xbo l i w y.table.pred:=by
  rintro⟨g1,g2⟩;rcases K with e|e
  ·exact f g1 e
  rw[e]at g1;exact g1.2.1 rfl
 rcases a2 with⟨g,-⟩|⟨-,t,H⟩
 ·exact absurd g I
 have C:Yv (Rl n ns).table=lp l w:=by unfold Yv;rw[H];rfl
 obtain⟨b1,b2⟩:=tb hw B A;refine⟨by rw[a1,L];exact G,.inl ⟨⟨t,by rw[v];exact H⟩,by rw[a3,C,v],y,by rw[v];exact A,Xah b1 b2 (K.imp id .inl)⟩⟩
end
section
variable {pn:Int→Zr} {were were':List Int} {ns ns':List (Int×Nd)} {a b c x X M:Int} {n m m' n' q y:Nd} {l l':List Zr} {i i' j k o d r N J w:Nat} {p p' P S:Zr} {tl s:List Zr} {W Q:List (Int×Nd)→Prop}
def Fz(l:List Zr)(w:Nat)(ns:List (Int×Nd)):Prop:=∀ m,YC (lp l (nx l w)).addr ns=some m→m.table.pred=lp l w
def FB(l:List Zr)(w:Nat)(ns:List (Int×Nd)):Prop:=(∀ m,YC (lp l (pv l w)).addr ns=some m→Fst l (pv l w) m.table.succ)∧∀ m,YC (lp l w).addr ns=some m→m.table.pred=lp l (pv l w)
theorem Fy.after(h:Fy pn were c l w ns)(hi:i<l.length)(B:o<l.length)(v:YC (lp l i).addr ns=some n)(hm:YC (lp l o).addr (T1 (lp l i).addr ns)=some m):
 (o=i∧m=Rl n ns)∨(∃ y,YC (lp l o).addr ns=some y∧m={ y with table:=WO y.table (lp l i) }∧SJ n ns=some (lp l o).addr)∨YC (lp l o).addr ns=some m:=by
 have f:=h.r.self hi v;have key:∀ k,k<l.length→k≠i→SJ n ns=some (lp l k).addr→(o=i∧m=Rl n ns)∨(∃ y,YC (lp l o).addr ns=some y∧m={ y with table:=WO y.table (lp l i) }∧SJ n ns=some (lp l o).addr)∨YC (lp l o).addr ns=some m:=fun k hk A ht=>by
  obtain⟨y,C⟩:=(h.r.live (lp l k).addr).2 ⟨k,hk,rfl⟩;rw[Xea h.r v ht (fun e=>A (h.r.inj hk hi e)) C]at hm;split at hm
  ·rename_i e;refine .inr (.inl ⟨y,by rw[e];exact C,?_,by rw[e];exact ht⟩);rw[← A5 hm,f]
  split at hm
  ·rename_i e;exact .inl ⟨h.r.inj B hi e,(A5 hm).symm⟩
  exact .inr (.inr hm)
 rcases(h.ask hi v).2 with⟨-,ht,-⟩|⟨h1,h3,-,ht,-⟩|⟨-,-,-,ht,-⟩
 ·exact key _ (FI hi) (FV hi h.r.two) ht
 ·exact key _ (FI h.wl) (fun e=>h3 (by rw[← h1,e])) ht
 rw[Xie h.r v ht]at hm;split at hm
 ·rename_i e;exact .inl ⟨h.r.inj B hi e,(A5 hm).symm⟩
 grind
theorem Fy.t1(h:Fy pn were c l w ns):Fy pn were c l w (T1 x ns):=⟨h.r.t1,h.wl,fun o m A hm=>by
 cases hn:YC x ns with
 | none=>rw[Xaw hn]at hm;exact h.n o m A hm
 | some n =>
  obtain⟨i,hi,rfl⟩:=Xcb h.r hn
  obtain⟨H,E⟩:=h.ask hi hn
  rcases h.after hi A hn hm with⟨rfl,rfl⟩|⟨y,C,rfl,ht⟩|g
  ·refine⟨H.prj (h.n _ n hi hn).1,?_⟩
   rcases E with⟨g,-⟩|⟨g1,g2,g3,-⟩|⟨g1,g2,g3,-⟩
   ·exact .inl g
   ·exact .inr ⟨g1,.inl ⟨g2,g3⟩⟩
   exact .inr ⟨g1,.inr ⟨g2,g3⟩⟩
  ·obtain⟨g1,g2⟩:=h.n o y A C
   have e:=(Xai y.table (lp l i)).1
   refine⟨?_,by show SuJ l w o (WO y.table (lp l i)).succ;rw[e];exact g2⟩
   show PrJ l w o (WO y.table (lp l i)).pred
   rcases E with⟨-,g,G,f,B⟩|⟨h1,h3,-,g,G,f,-,B⟩|⟨-,-,-,g,-⟩
   ·rw[ht]at g
    have v:=h.r.inj A (FI hi) (A5 g)
    subst v
    rw[C]at f
    rw[A5 f,B]
    exact .inl (.inr (by rw[FQ hi]))
   ·rw[ht]at g
    have v:=h.r.inj A (FI h.wl) (A5 g)
    subst v
    rw[C]at f
    rw[A5 f,B,h1]
    exact .inr ⟨rfl,h3,rfl⟩
   rw[ht]at g;cases g
  exact h.n o m A g⟩
theorem Xfl:Clo (Fy pn were c l w):=⟨fun _ _ h=>h.t1,fun _ _ h=>h.t3,fun _ _ h=>h.t2⟩
theorem Fz.ptr(A:Fz l w ns)(hw:w<l.length)(f:YC (lp l (nx l w)).addr ns=some n)(v:Ptr l (nx l w) n.table.pred p):p=lp l w:=by
 have:=v.rt (show PRt l (nx l w) n.table.pred from by show _=lp l (pv l (nx l w));rw[FQ hw];exact A n f);have this:p=lp l (pv l (nx l w)):=this;rw[FQ hw]at this;exact this
theorem Fy.knows(h:Fy pn were c l w ns)(v:Fz l w ns)(hi:i<l.length)(f:YC (lp l i).addr ns=some n):
 Fst l i (Rl n ns).table.succ∧SJ n ns=some (lp l (nx l i)).addr∧∃ y,YC (lp l (nx l i)).addr ns=some y∧(WO y.table (lp l i)).pred=lp l i:=by
 rcases(h.ask hi f).2 with g|⟨-,-,-,-,y,A,g,-⟩|⟨h1,h3,-,-,g⟩
 ·exact g
 ·exact absurd (v y A) g
 exact absurd (v n (by rw[← h3,← h1];exact f)) g
theorem Xeh:Stays (Fy pn were c l w) (Fz l w) where
 t1:=fun ns x h v m hm=>by
  cases hn:YC x ns with
  | none=>rw[Xaw hn]at hm;exact v m hm
  | some n =>
   obtain⟨i,hi,rfl⟩:=Xcb h.r hn;rcases h.after hi (FI h.wl) hn hm with⟨e,rfl⟩|⟨y,G,rfl,ht⟩|g
   ·subst e;exact v.ptr h.wl hn (h.ask hi hn).1
   ·obtain⟨-,g,H,A,E⟩:=h.knows v hi hn;rw[ht]at g;have C:=h.r.inj (FI h.wl) (FI hi) (A5 g);have B:w=i:=by rw[← FQ h.wl,C,FQ hi]
    subst B;rw[G]at A;show(WO y.table (lp l w)).pred=_;rw[A5 A,E]
   exact v m g
 t3:=fun ns x h v m hm=>by
  obtain⟨m0,f⟩:=Xc (h.r.wn.t3 x).2 hm;exact v.ptr h.wl f (Xaz h.r (FI h.wl) f hm)
 t2:=fun ns x h v m hm=>by
  obtain⟨m0,f⟩:=Xc (h.r.wn.t2 x).2 hm;exact v.ptr h.wl f (Xba h.r (FI h.wl) f hm)
theorem Xhm(h:Fy pn were c l w ns):Fz l w (T1 (lp l w).addr ns):=fun m hm=>by
 obtain⟨n,v⟩:=(h.r.live (lp l w).addr).2 ⟨w,h.wl,rfl⟩;have f:=Xde h.wl h.r.two;rcases(h.ask h.wl v).2 with⟨-,ht,y,B,A⟩|⟨h1,-⟩|⟨h1,-⟩
 ·rw[Xea h.r v ht (fun e=>FV h.wl h.r.two (h.r.inj (FI h.wl) h.wl e)) B,A6 rfl,h.r.self h.wl v]at hm;rw[← A5 hm];exact A
 ·exact absurd h1.symm f
 exact absurd h1.symm f
def FC(pn:Int→Zr)(were:List Int)(c:Int)(l:List Zr)(w:Nat)(ns:List (Int×Nd)):Prop:=Fy pn were c l w ns∧Fz l w ns
theorem Xhh:Clo (FC pn were c l w):=Xfl.and Xeh
theorem Xgt{s f:List Zr}(h:Fy pn were c l w ns)(v:Fst l i s)(hi:i<l.length)(hs:f=s∨∃ y,YC y ns=none∧f=s.filter fun p=>p.addr≠y):Fst l i f:=by
 rcases hs with e|⟨y,A,e⟩ <;> rw[e]
 ·exact v
 exact v.filter (h.r.dead A (FI hi))
theorem Xgs:Stays (FC pn were c l w) (FB l w) where
 t1:=fun ns x ⟨h,C⟩ v=>by
  cases hn:YC x ns with
  | none=>rw[Xaw hn];exact v
  | some n =>
   obtain⟨i,hi,rfl⟩:=Xcb h.r hn;obtain⟨g1,g,H,A,G⟩:=h.knows C hi hn;constructor
   ·intro m hm;rcases h.after hi (FR h.wl) hn hm with⟨e,rfl⟩|⟨y,E,rfl,ht⟩|k
    ·rw[e];exact g1
    ·show Fst l _ (WO y.table (lp l i)).succ;rw[(Xai y.table (lp l i)).1];exact v.1 y E
    exact v.1 m k
   intro m hm;rcases h.after hi h.wl hn hm with⟨e,rfl⟩|⟨y,E,rfl,ht⟩|k
   ·subst e;exact(h.ask hi hn).1.rt (v.2 n hn)
   ·rw[ht]at g;have B:=h.r.inj h.wl (FI hi) (A5 g);rw[← B,E]at A;show(WO y.table (lp l i)).pred=_;rw[A5 A,G,B,FQ hi]
   exact v.2 m k
 t3:=fun ns x ⟨h,C⟩ v=>by
  refine⟨fun m hm=>?_,fun m hm=>?_⟩
  ·obtain⟨m0,f⟩:=Xc (h.r.wn.t3 x).2 hm;exact Xgt h (v.1 m0 f) (FR h.wl) (Xau h.r f hm)
  obtain⟨m0,f⟩:=Xc (h.r.wn.t3 x).2 hm;exact(Xaz h.r h.wl f hm).rt (v.2 m0 f)
 t2:=fun ns x ⟨h,C⟩ v=>by
  refine⟨fun m hm=>?_,fun m hm=>?_⟩
  ·obtain⟨m0,f⟩:=Xc (h.r.wn.t2 x).2 hm;exact Xgt h (v.1 m0 f) (FR h.wl) (Xav h.r f hm)
  obtain⟨m0,f⟩:=Xc (h.r.wn.t2 x).2 hm;exact(Xba h.r h.wl f hm).rt (v.2 m0 f)
theorem Xhl(h:FC pn were c l w ns):FB l w (T1 (lp l (pv l w)).addr ns):=by
 obtain⟨f,C⟩:=h;have hw:=f.wl;have A:=FR hw;obtain⟨n,v⟩:=(f.r.live (lp l (pv l w)).addr).2 ⟨_,A,rfl⟩;obtain⟨g1,g,y,B,E⟩:=f.knows C A v;rw[Xac hw]at g B;have hne:(lp l w).addr≠(lp l (pv l w)).addr:=fun e=>Xde hw f.r.two (f.r.inj hw A e).symm;refine⟨fun m hm=>?_,fun m hm=>?_⟩
 ·rw[Xea f.r v g hne B,A4 hne.symm,A6 rfl]at hm;grind
 rw[Xea f.r v g hne B,A6 rfl,f.r.self A v]at hm;grind
theorem Xco(f:Clo W)(A:Stays W Q)(v:WN pn were ns)(hw:W ns)(G:YC x ns=some n)(K:∀ ns,W ns→Q (T1 x ns)):Q (Xt ns):=by
 obtain⟨I,H,h1,h2,L⟩:=CI v G;rw[L];have B:=f.go I hw;have C:=f.t1 _ x B;have E:=f.t3 _ x C;exact A.goC f H (f.t2 _ x E) (A.t2 _ _ E (A.t3 _ _ C (K _ B)))
theorem Fy.right(h:Fy pn were c l w ns):W1 pn were c l (itQ 2 ns):=by
 have at_:∀(k:Nat) {ns},Fy pn were c l w ns→k<l.length→∃ y,YC (lp l k).addr ns=some y:=fun k _ h hk=>(h.r.live _).2 ⟨k,hk,rfl⟩;obtain⟨n,E⟩:=at_ w h h.wl;have h1:Fy pn were c l w (Xt ns):=Xfl.round h;have C:Fz l w (Xt ns):=Xco Xfl Xeh h.r.wn h E fun ns h=>Xhm h;obtain⟨n1,A⟩:=at_ (pv l w) h1 (FR h.wl);have h2:FC pn were c l w (Xt (Xt ns)):=Xhh.round ⟨h1,C⟩;have G:FB l w (Xt (Xt ns)):=Xco Xhh Xgs h1.r.wn ⟨h1,C⟩ A fun ns h=>Xhl h;obtain⟨B,v⟩:=h2;have f:∀ i m,i<l.length→YC (lp l i).addr (Xt (Xt ns))=some m→PNd l i m.table.pred∧Fst l i m.table.succ:=fun i m hi hm=>by
  obtain⟨g1,g2⟩:=B.n i m hi hm;constructor
  ·rcases g1 with g|⟨e,-,-⟩
   ·exact g
   subst e;exact .inr (by rw[FQ h.wl];exact v m hm)
  rcases g2 with g|⟨e,-⟩
  ·exact g
  subst e;exact G.1 m hm
 refine⟨⟨B.r,fun i m hi hm=>?_⟩,fun i m hi hm=>(f i m hi hm).1⟩;obtain⟨g1,tl,e⟩:=f i m hi hm;exact⟨g1.imp id .inl,[],tl,e,fun p H=>by cases H⟩
end
section
variable {pn:Int→Zr} {were were':List Int} {ns ns1:List (Int×Nd)} {a b c x X M Y z:Int} {n m m' n' q y:Nd} {l l':List Zr} {i i' j k o d r N J w:Nat} {p p' P S:Zr} {tl s:List Zr}
def FrY(Y:Int)(q:Nd)(ns1 ns:List (Int×Nd)):Prop:=∀ z,YC z ns1=if z=Y then some q else YC z ns
theorem FrY.by(h:FrY Y q ns1 ns)(f:z≠Y):YC z ns1=YC z ns:=by rw[h z,A4 f]
theorem FrY.put(h:FrY Y q ns1 ns)(r1:(ns1.map (·.1)).Pairwise (·<·))(f:(ns.map (·.1)).Pairwise (·<·))(hx:x≠Y){n:Nd}:FrY Y q (WM x n ns1) (WM x n ns):=fun z=>by
 rw[Ut x z n ns1 r1,Ut x z n ns f,h z];by_cases e:z=x
 ·rw[A6 e,A6 e,A4 (by rw[e];exact hx)]
 rw[A4 e,A4 e]
def NoY(Y:Int)(ns:List (Int×Nd)):Prop:=AllG (fun p=>p.addr≠Y) ns
theorem Xay(h:FrY Y q ns1 ns)(v:NoY Y ns):∀(F:Nat) (n:Nd),n.findTo≠Y→XS ns1 F n=XS ns F n
 | 0,_,_=>rfl
 | F+1,n,hn=>by
  have e:Vz ns1 n.table.self n.findTo=Vz ns n.table.self n.findTo:=by unfold Vz;rw[h.by hn]
  unfold XS;rw[e];cases hf:Vz ns n.table.self n.findTo with
  | none=>rfl
  | some x =>
   show(match (YF n (Xq x (Xl n))).2 with
    | []=>(YF n (Xq x (Xl n))).1
    | _=>XS ns1 F (YF n (Xq x (Xl n))).1)=(match (YF n (Xq x (Xl n))).2 with
    | []=>(YF n (Xq x (Xl n))).1
    | _=>XS ns F (YF n (Xq x (Xl n))).1)
   cases hs:(YF n (Xq x (Xl n))).2 with
   | nil=>rfl
   | cons z zs =>
    show XS ns1 F (YF n (Xq x (Xl n))).1=XS ns F (YF n (Xq x (Xl n))).1;have h1:n.findTo=(Xq x (Xl n)).frm.addr:=by
     refine C2 fun q=>?_;have:YF n (Xq x (Xl n))=(n,[]):=by unfold YF;rw[A6 (.inl q)]
     rw[this]at hs;cases hs
    rcases Pe (n:=n) (l:=Xq x (Xl n)) h1 rfl with e|⟨e,-,-,-,f⟩
    ·rw[hs]at e;cases e
    rw[e];refine Xay h v F _ ?_;show(Xq x (Xl n)).peer.addr≠Y;have A:=v _ x (Vi hf).1;unfold Xq at f ⊢;dsimp only at f ⊢;rw[Xjp]at f;rw[f.1,f.2];exact Dm (G:=fun p=>p.addr≠Y) A (by simpa using f.2)
theorem FrY.t3(h:FrY Y q ns1 ns)(v:WN pn were' ns1)(f:WN pn were ns)(A:NoY Y ns)(hx:x≠Y):FrY Y q (T3 x ns1) (T3 x ns):=by
 cases hn:YC x ns with
 | none=>rw[Xft hn,Xft (by rw[h.by hx,hn])];exact h
 | some n =>
  unfold T3;rw[h.by hx,hn];have e:UH (fun x=>(YC x ns1).isSome) n=UH (fun x=>(YC x ns).isSome) n:=by
   unfold UH;cases hp:TA (unping n)with
   | none=>rfl
   | some p =>
    have:=Pd (Ec (f.get hn).1 (A x n hn)).2.2 p (MS hp);simp only[h.by this]
  show FrY Y q (WM x (UH (fun x=>(YC x ns1).isSome) n) ns1) (WM x (UH (fun x=>(YC x ns).isSome) n) ns);rw[e];exact h.put v.rise f.rise hx
theorem FrY.t2(h:FrY Y q ns1 ns)(v:WN pn were' ns1)(A:WN pn were ns)(f:NoY Y ns)(hx:x≠Y):FrY Y q (T2 x ns1) (T2 x ns):=by
 cases hn:YC x ns with
 | none=>rw[Xfu hn,Xfu (by rw[h.by hx,hn])];exact h
 | some n =>
  unfold T2;rw[h.by hx,hn];have e:OR ns1 n=OR ns n:=by
   unfold OR;split
   ·rfl
   split
   ·rfl
   split
   ·rfl
   rename_i h3;refine Xay h f 33 _ ?_;exact Dm (G:=fun p=>p.addr≠Y) (Ps (f x n hn)) (by simpa using h3)
  show FrY Y q (WM x (OR ns1 n) ns1) (WM x (OR ns n) ns);rw[e];exact h.put v.rise A.rise hx
theorem Xdq(f:YC x ns=some n)(hj:n.joined=true):T1 x ns=match SJ n ns with
 | none=>WM x (Rl n ns) ns
 | some y=>Ti n.table.self y (WM x (Rl n ns) ns):=by
 unfold T1;rw[f];show(if n.joined=true then DO x n ns else WM x (UJ ns n) ns)=_;rw[A6 hj,GH];rfl
theorem FrY.t1(h:FrY Y q ns1 ns)(H:WN pn were' ns1)(v:WN pn were ns)(B:NoY Y ns)(hj:Joined ns)(hx:x≠Y):FrY Y q (T1 x ns1) (T1 x ns):=by
 cases hn:YC x ns with
 | none=>rw[Xaw hn,Xaw (by rw[h.by hx,hn])];exact h
 | some n =>
  have C:YC x ns1=some n:=by rw[h.by hx,hn]
  have I:∀{a},a≠Y→Vg ns1 a=Vg ns a:=fun ha=>by unfold Vg;rw[h.by ha]
  have E:(Yv (ready n).table).addr≠Y:=Tz (G:=fun p=>p.addr≠Y) (Tr (v.get hn).1 (B x n hn)).2.2;have L:Rl n ns1=Rl n ns:=by unfold Rl;rw[I E]
  have O:SJ n ns1=SJ n ns:=by unfold SJ;rw[I E,L]
  rw[Xdq C (hj x n hn),Xdq hn (hj x n hn),L,O];have A:=h.put H.rise v.rise hx (n:=Rl n ns);cases ht:SJ n ns with
  | none=>exact A
  | some y =>
   have f:=JK v hn (B x n hn) fun x hx=>B _ x (Uo hx).1;have K:y≠Y:=by rw[(f.2.2.2 y ht).1];exact Tz (G:=fun p=>p.addr≠Y) f.2.2.1
   show FrY Y q (Ti n.table.self y (WM x (Rl n ns) ns1)) (Ti n.table.self y (WM x (Rl n ns) ns));unfold Ti;rw[A.by K];cases YC y (WM x (Rl n ns) ns)with
   | none=>exact A
   | some m=>exact A.put (NZ H.rise) (NZ v.rise) K
theorem Idl.noY(h:Idl pn were l r ns)(f:YC Y ns=none):NoY Y ns:=fun b m hm=>h.free hm f
theorem FrY.go:∀(L:List Int) {ns1 ns:List (Int×Nd)},Y∉L→WN pn were' ns1→Idl pn were l r ns→YC Y ns=none→FrY Y q ns1 ns→FrY Y q (goQ L ns1) (goQ L ns)
 | [],_,_,_,_,_,_,h=>h
 | x::L,ns1,ns,hL,w1,hI,hY,h=>by
  have hx:x≠Y:=fun e=>hL (by rw[e];exact B1);have v:=(VF (hI.wn.t1 x).2).2 hY;have f:=(VF (hI.t1.wn.t3 x).2).2 v;have A:=(VF (hI.t1.t3.wn.t2 x).2).2 f;exact FrY.go L (fun q=>hL (B2 _ q)) ((((w1.t1 x).1).t3 x).1.t2 x).1 hI.t1.t3.t2 A
   (((h.t1 w1 hI.wn (hI.noY hY) hI.j hx).t3 (w1.t1 x).1 hI.t1.wn (hI.t1.noY v) hx).t2 ((w1.t1 x).1.t3 x).1 hI.t1.t3.wn (hI.t1.t3.noY f) hx)
theorem Xcu(h:Idl pn were l r ns){s:Zr}(H:∀ k (hk:k<l.length),Ys s l[k]∧Ys l[k] s):∀(F w:Nat) (m:Nd) (i:Nat) (hi:i<l.length),m.joined=false→m.table.self=s→TG m.table→(1≤m.copies∧m.copies≤8)→m.avoid=[]→m.findTo=l[i].addr→ahead l l[i].id m.findID<w→w<F→m.hops+w≤31 →
 (XS ns F m).joined=true∧(XS ns F m).table={ m.table with succ:=[lp l (Ve l m.findID)] }∧(XS ns F m).findTo=-1∧(XS ns F m).askTo=m.askTo∧(XS ns F m).pingTo=m.pingTo∧(XS ns F m).copies=m.copies
 | 0,w,m,i,hi,_,_,_,_,_,_,_,hF,_=>by omega
 | F+1,w,m,i,hi,hj,hs,hT,hc,hav,hf,ha,hF,hh=>by
  obtain⟨y,G⟩:=h.all i hi;obtain⟨-,k,hk,ea,et⟩:=h.one _ y G;have ab:i=k:=C2 fun q=>On h.circ.2 hi hk q ea;subst ab;have A:y.table.self=l[i]:=by rw[et];rfl
  have V:Vz ns m.table.self m.findTo=some y:=by
   unfold Vz;rw[hf,G];show(if y.joined=true∧Ys y.table.self m.table.self then some y else none)=some y;rw[A6 ⟨h.j _ y G,by rw[A,hs];exact(H i hi).2⟩]
  have C:¬(m.findTo≠(Xq y (Xl m)).frm.addr∨m.findReq≠(Xq y (Xl m)).req):=by
   rintro(q|q)
   ·exact q (by rw[hf];show _=y.table.self.addr;rw[A])
   exact q rfl
  have hl:0<l.length:=by omega
  have e0:XS ns (F+1) m=(match (YF m (Xq y (Xl m))).2 with
   | []=>(YF m (Xq y (Xl m))).1
   | _=>XS ns F (YF m (Xq y (Xl m))).1):=by
   conv=>lhs;unfold XS
   rw[V];rfl
  by_cases f:(Xq y (Xl m)).done=true
  ·obtain⟨U,E⟩:=h.tells G (lt:=Xl m) (by intro z hz;rw[show(Xl m).avoid=[]from hav]at hz;cases hz) f;have E:(Xq y (Xl m)).peer=lp l (Ve l m.findID):=by rw[E,FJ (Ua U)];rfl
   have hop:Ys m.table.self (lp l (Ve l m.findID)):=by rw[hs,FJ (Ua hl)];exact(H _ (Ua hl)).1
   have ef:YF m (Xq y (Xl m))=({ XO { m with findTo:=-1 } (lp l (Ve l m.findID)) []with joined:=true,cursor:=0,avoid:=[] },[]):=by
    unfold YF;rw[A4 C,A6 f,E];dsimp only;rw[A4 (fun q=>by rw[hj]at q;cases q.1),A6 ⟨hj,hop⟩]
   have aa:XO { m with findTo:=-1 } (lp l (Ve l m.findID)) []={ m with findTo:=-1,table:={ m.table with succ:=[lp l (Ve l m.findID)] } }:=by
    have T:TG m.table∧Ys m.table.self (lp l (Ve l m.findID))∧1≤m.copies∧m.copies≤8:=⟨hT,hop,hc.1,hc.2⟩
    unfold XO VJ;dsimp only;rw[A6 T];rfl
   rw[e0,ef,aa];exact⟨rfl,rfl,rfl,rfl,rfl,rfl⟩
  have f:(Xq y (Xl m)).done=false:=by simpa using f
  have B:(WV y.table m.findID).2=false:=by
   have f:=f;unfold Xq at f;dsimp only at f;rw[Xjp]at f;exact f.1
  rw[et]at B;obtain⟨j,v,L,en,K⟩:=Zrd h.circ h.rr.1 hi B;have E:(Xq y (Xl m)).peer=l[j]:=by
   unfold Xq;dsimp only;rw[et,show(Xl m).avoid=[]from hav,show(Xl m).id=m.findID from rfl,B,en];rfl
  have hop:=(H j v).1;have I:(Xq y (Xl m)).frm.addr=l[i].addr:=by show y.table.self.addr=_;rw[A]
  have ef:YF m (Xq y (Xl m))=UY { m with hops:=m.hops+1 } l[j].addr:=by
   unfold YF;rw[A4 C,A4 (by rw[f];decide),E,A4];rintro(q|q|q|q)
   ·exact q (by rw[hs];exact hop)
   ·rw[hav]at q;cases q
   ·rw[I]at q;exact On h.circ.2 v hi L q
   omega
  have e1:XS ns (F+1) m=XS ns F (UY { m with hops:=m.hops+1 } l[j].addr).1:=by
   rw[e0,ef];rfl
  rw[e1];have O:=Zdr v K.1;exact Xcu h H F (w-1) (UY { m with hops:=m.hops+1 } l[j].addr).1 j v hj hs hT hc hav rfl (by show ahead l l[j].id m.findID<w-1;omega) jD (by show m.hops+1+((w-1:Nat):Int)≤31;omega)
end
section
variable {pn:Int→Zr} {were were':List Int} {ns ns1:List (Int×Nd)} {a b c x X M Y z:Int} {n m m' n' q y:Nd} {l l':List Zr} {i i' j k o d r N J w:Nat} {p p' P S Z:Zr} {tl s:List Zr}
structure Xbp (l l':List Zr) (w:Nat) (Z:Zr):Prop where
  c:Xk l
  c':Xk l'
  wl:w<l'.length
  z:lp l' w=Z
  f:l'.filter (fun p=>decide (p.addr≠Z.addr))=l
  len:l'.length=l.length+1
theorem Xhy(h:Xk l)(H:l.length≤15)(G:0≤Z.addr∧Z.addr≤999)(h1:∀ p∈l,p.addr≠Z.addr∧p.id≠Z.id):∃ l' w,Xbp l l' w Z∧(Z::l).Perm l':=by
 have f:(Cz (Z::l)).Perm (Z::l):=RP _;have hm:∀ p,p∈Cz (Z::l)↔p=Z∨p∈l:=fun p=>by rw[f.mem_iff,B7]
 have hlen:(Cz (Z::l)).length=l.length+1:=by rw[f.length_eq];rfl
 have hid:(Z::l).Pairwise (fun x y=>x.id≠y.id):=D6.2 ⟨fun p f e=>(h1 p f).2 e.symm,h.2.2.2.imp fun h e=>by unfold WY at h;rw[e]at h;omega⟩;have A:(Cz (Z::l)).Pairwise (fun x y=>x.id≠y.id):=(f.pairwise_iff fun {x y} h e=>h e.symm).2 hid;have B:Xk (Cz (Z::l)):=by
  refine⟨by omega,fun p v=>?_,?_,?_⟩
  ·rcases(hm p).1 v with rfl|v
   ·exact G
   exact h.2.1 p v
  ·rw[(f.map Zr.addr).nodup_iff];exact D9.2 ⟨fun q=>by obtain⟨p,f,e⟩:=C0.1 q;exact(h1 p f).1 e,h.2.2.1⟩
  refine(List.Pairwise.and (PX (Z::l)) A).imp fun {x y} h=>?_;have h3:x.id.toNat≠y.id.toNat:=fun e=>h.2 (J5 e);unfold WY at *;omega
 obtain⟨w,hw,E⟩:=E2 ((hm Z).2 (.inl rfl));refine⟨_,w,⟨h,B,hw,by rw[FJ hw,E],?_,hlen⟩,f.symm⟩;have e:(Z::l).filter (fun p=>decide (p.addr≠Z.addr))=l:=by
  rw[Xjk jQ,Xjg.2 fun p f=>by simpa using(h1 p f).1]
 have C:=f.filter (fun p=>decide (p.addr≠Z.addr));rw[e]at C;exact GC C.symm h.2 ((PX (Z::l)).filter _)
theorem Xbp.at(h:Xbp l l' w Z)(hi:i<l'.length)(v:i≠w):∃ k,k<l.length∧lp l k=lp l' i∧Wf l k=(Wf l' i).filter fun p=>decide (p.addr≠Z.addr):=by
 have ha:(lp l' i).addr≠Z.addr:=fun e=>by
  rw[← h.z,FJ hi,FJ h.wl]at e;exact On h.c'.2 hi h.wl v e
 obtain⟨k,h1,h2,h3⟩:=Xap (fun p=>decide (p.addr≠Z.addr)) hi zU;rw[h.f]at h1 h2 h3;grind
theorem Xbp.two(h:Xbp l l' w Z):2≤l'.length:=by
 have:=h.c.1.1;rw[h.len];omega
theorem Xbp.other(h:Xbp l l' w Z){t:List Zr}(ht:∀ p∈t,p∈Wf l' w):t.filter (fun p=>decide (p.addr≠Z.addr))=t:=by
 refine Xjg.2 fun p v=>?_;obtain⟨k,hk,f,rfl⟩:=RR h.wl (ht p v);have:=On h.c'.2 hk h.wl f;rw[← FJ h.wl,h.z]at this;grind
theorem Xbp.out(h:Xbp l l' w Z)(t:List Zr):(lp l' w::t).filter (fun p=>decide (p.addr≠Z.addr))=t.filter fun p=>decide (p.addr≠Z.addr):=Xjk (by rw[h.z];simp)
theorem Xbp.in(h:Xbp l l' w Z)(hi:i<l'.length)(f:i≠w)(t:List Zr):(lp l' i::t).filter (fun p=>decide (p.addr≠Z.addr))=lp l' i::t.filter fun p=>decide (p.addr≠Z.addr):=by
 have:=On h.c'.2 hi h.wl f;rw[← FJ hi,← FJ h.wl,h.z]at this;grind
theorem Xfy(hw:w<l.length)(h:l.length=2):pv l w=nx l w:=by
 unfold pv nx;grind
theorem Xbp.tab(h:Xbp l l' w Z)(hi:i<l'.length)(hn:i≠w)(hr:1≤r)(hk:k<l.length)(e:lp l k=lp l' i):PrJ l' w i (RH l r k (lp l k)).pred∧SuJ l' w i (RH l r k (lp l k)).succ:=by
 have h2:=h.two;obtain⟨E,G,L,H⟩:=h.at hi hn;have O:E=k:=C2 fun q=>On h.c.2 G hk q (by rw[← FJ G,← FJ hk,L,e]);subst O;obtain⟨v,U⟩:∃ v,r=v+1:=⟨r-1,by omega⟩
 constructor
 ·show PrJ l' w i ((Wf l E).getLastD Yj);by_cases f:pv l' i=w
  ·have B:nx l' w=i:=by rw[← f,Xac hi]
   obtain⟨t,A,C⟩:=FL h.wl h2;rw[B]at C;have ht:Wf l E=t:=by
    rw[H,C,Xjh,h.other fun p f=>by rw[A];exact B2 _ f,h.out,List.filter_nil,E0]
   rw[ht];cases t with
   | nil=>exact .inl (.inl rfl)
   | cons y t =>
    have K:3≤l'.length:=by
     have:=QW h.wl;rw[A]at this;simp at this;omega
    refine .inr ⟨B.symm,(Xbs h.wl K).2.2,?_⟩;rw[← Xbc h.wl h2,A];exact(Xdk _ _ _ (List.cons_ne_nil _ _)).symm
  left;right;have I:Wf l' i≠[]:=fun e=>by
   have:=QW hi;rw[e]at this;simp at this;omega
  obtain⟨X,z,V⟩:∃ X z,Wf l' i=X++[z]:=⟨_,_,(List.dropLast_concat_getLast I).symm⟩
  have hz:z=lp l' (pv l' i):=by rw[← Xbc hi h2,V];simp
  rw[H,V,Xjh,hz,h.in (FR hi) f];simp
 show SuJ l' w i ((Wf l E).take r);obtain⟨t,A,C⟩:=FL hi h2;by_cases f:nx l' i=w
 ·have B:pv l' w=i:=by rw[← f,FQ hi]
  rw[f]at A C;have ht:Wf l E=t:=by
   rw[H,A,h.out,h.other fun p f=>by rw[C];exact C5 _ f]
  rw[ht];right;refine⟨B.symm,?_⟩;cases t with
  | nil =>
   right;refine⟨Xfy h.wl ?_,List.take_nil⟩;have:=QW hi;rw[A]at this;simp at this;omega
  | cons y t =>
   left;have K:3≤l'.length:=by
    have:=QW hi;rw[A]at this;simp at this;omega
   refine⟨(Xbs h.wl K).2.2,t.take v,?_⟩;obtain⟨t2,T,-⟩:=FL h.wl h2;rw[C]at T;have:y=lp l' (nx l' w):=(List.cons.inj T).1;rw[U,this];rfl
 left;refine⟨(t.filter fun p=>decide (p.addr≠Z.addr)).take v,?_⟩;rw[H,A,h.in (FI hi) f,U];rfl
theorem Xbp.owner(h:Xbp l l' w Z):lp l (Ve l Z.id)=lp l' (nx l' w):=by
 have h2:=h.two;have v:=FV h.wl h2;by_cases hl:l.length=1
 ·obtain⟨k,hk,G,-⟩:=h.at (FI h.wl) v;have:=Ua (l:=l) (x:=Z.id) jD;grind
 have C:3≤l'.length:=by have:=h.c.1.1;rw[h.len];omega
 have A:=Xde h.wl h2;have f:=FR h.wl;obtain⟨k,hk,G,L⟩:=h.at f A;obtain⟨t,K,B⟩:=FL f h2;rw[Xac h.wl]at K B;have ht:Wf l k=t:=by
  rw[L,K,h.out,h.other fun p f=>by rw[B];exact C5 _ f]
 obtain⟨t2,E,-⟩:=FL hk (by have:=h.len;omega);rw[ht]at E;obtain⟨t4,H,-⟩:=FL h.wl h2;rw[B,E]at H;have I:lp l (nx l k)=lp l' (nx l' w):=(List.cons.inj H).1;rw[← I];congr 1;refine Xcd h.c.2 hk ?_;unfold Gap;rw[G,I,← h.z];exact Xbk h.c'.2 h.wl h2 (Xbs h.wl C).2.2
end
section
variable {pn:Int→Zr} {were were':List Int} {ns ns1:List (Int×Nd)} {a b c x X M Y z:Int} {n m m' n' q y R:Nd} {l l':List Zr} {i i' j k o d r N J w:Nat} {p p' P S Z:Zr} {tl s:List Zr} {bag:List Ml}
theorem Xci{s:Zr}{r b:Int}(h0:(Ur s r b).2=0):(1≤r∧r≤8)∧(Ur s r b).1.copies=r∧(Ur s r b).1.joined=false∧(Ur s r b).1.boot=b∧(Ur s r b).1.askTo=-1∧(Ur s r b).1.pingTo=-1∧(Ur s r b).1.findTo=-1∧(Ur s r b).1.avoid=[]:=by
 unfold Ur Uk at h0 ⊢;by_cases hc1:Yf s.addr∧1≤r∧r≤8
 ·grind
 simp_all
theorem Xfe(h:Idl pn were l r ns)(L:FrY Y q ns1 ns)(B:YC Y ns=none)(G:∀ k (hk:k<l.length),Ys (pn Y) l[k]∧Ys l[k] (pn Y))(f:q.table.self=pn Y)(H:TG q.table)(I:1≤q.copies∧q.copies≤8)(hj:q.joined=false)(K:q.findTo=-1)(A:q.avoid=[])(hb:YC q.boot ns=some m):
 (UJ ns1 q).joined=true∧(UJ ns1 q).table={ q.table with succ:=[lp l (Ve l (pn Y).id)] }∧(UJ ns1 q).findTo=-1∧(UJ ns1 q).pingTo=q.pingTo:=by
 have v:Uj q=q:=by unfold Uj;rw[A4 fun h=>h.1 K]
 obtain⟨-,i,hi,E,-⟩:=h.one _ m hb;unfold UJ;rw[v,f,Xay L (h.noY B) 33 _ (fun e=>by
  have e:q.boot=Y:=e;rw[e,B]at hb;cases hb)]
 have O:=Zpt (x:=(pn Y).id) hi;have V:=h.circ.1.2;obtain⟨h1,h2,h3,U,C,T⟩:=Xcu h G 33 17 (UY { q with findID:=(pn Y).id,hops:=0 } q.boot).1 i hi hj f H I A E (by show ahead l l[i].id (pn Y).id<17;omega) jM (by show(0:Int)+17≤31;decide);exact⟨h1,h2,h3,C⟩
theorem Xfz{lv:Int→Bool}(hj:R.joined=true)(B:R.pingTo=-1)(C:R.findTo=-1):(OR ns (UH lv R)).table.pred=R.table.pred∧(OR ns (UH lv R)).table.succ=R.table.succ:=by
 obtain⟨t,p,r,q,u,e,-⟩:=Rk lv R;have ht:=JI lv R;have hu:unping R=R:=by unfold unping;rw[A4 fun h=>h B]
 have f:(UH lv R).joined=true:=by rw[e];exact hj
 have A:(UH lv R).findTo=-1:=by rw[e];exact C
 have v:(unfind (UH lv R)).table=(UH lv R).table:=by unfold unfind;rw[A6 A]
 exact⟨by rw[Xdm f,v,ht,hu],by rw[Zjg f,v,ht,hu]⟩
structure Jnd (pn:Int→Zr) (were:List Int) (c:Int) (L:Nat) (ns:List (Int×Nd)):Prop where
  jn:∃ l w,l.length=L∧Fy pn were c l w ns
  rest:Rest (fun _=>True) pn were c ns
  quiet:∀ z m,YC z ns=some m→m.joined=true→m.findTo=-1
  still:Zqb ns
theorem Xhc(h:Idl pn were l c.toNat ns)(hc:2≤c∧c≤8)(kd:AllKind c ns)(hY:YC Y ns=none)(aj:Yf Y)(af:∀ z m,YC z ns=some m→(pn z).id≠(pn Y).id)(hlen:ns.length≤15)(h0:(Ur (pn Y) c b).2=0)(hb:YC b ns=some m):
 Jnd pn (were++[Y]) c (ns.length+1) (Xt (WM Y (Ur (pn Y) c b).1 ns)):=by
 obtain⟨q,hq⟩:∃ q,(Ur (pn Y) c b).1=q:=⟨_,rfl⟩
 have hs:=Mh h0;obtain⟨q0,q1,q2,q3,q4,q5,q6,q7⟩:=Xci h0;rw[hq]at hs q1 q2 q3 q4 q5 q6 q7 ⊢;have hw:=h.wn;have K:=Zhx hw hs;have v:∀ z,YC z (WM Y q ns)=if z=Y then some q else YC z ns:=fun z=>Ut Y z q ns hw.rise
 generalize hns1:WM Y q ns=ns1 at K v ⊢;have hF:FrY Y q ns1 ns:=v;have ab:AllKind c ns1:=fun z m hm=>by
  rw[v]at hm;split at hm
  ·rw[← A5 hm];exact⟨q1,fun _=>q4⟩
  exact kd z m hm
 have au:=h.noY hY;have E:Lone (fun _=>True) ns1:=fun U m _ hm hj=>by
  rw[v]at hm;split at hm
  ·rename_i e9;subst e9;intro b y O hb;rw[v,A4 hb]at O;exact au b y O
  rw[h.j U m hm]at hj;cases hj
 have N1:Names ns1:=fun b m hm=>by
  rw[v]at hm;split at hm
  ·rw[← A5 hm,hs.2];exact ON (G:=fun p=>∃ m,YC p.addr ns1=some m) (by rw[hw.at',v,A6 rfl];exact⟨_,rfl⟩)
  refine(h.small.get hm).2.2.mono fun p ⟨y,O,e⟩=>?_;rw[v];split
  ·exact⟨_,rfl⟩
  rw[e,hw.at'];exact AD O
 have quiet:∀ z m,YC z (Xt ns1)=some m→m.joined=true→m.findTo=-1:=fun z m hm hj=>N1.quiet K ab E hm hj;have still:=Np K ab E;have ae:Rest (fun _=>True) pn (were++[Y]) c (Xt ns1):=⟨(Wh K).1,ab.round K,E.round K,fun z m hm hj=>.inl (quiet z m hm hj)⟩
 refine⟨?_,ae,quiet,still⟩;have ar:YC Y ns1=some q:=by rw[v,A6 rfl]
 obtain⟨H,l2,h1,h2,hr⟩:=CI K ar;have FE:=Idl.go H h;have FG:YC Y (goQ H ns)=none:=(VF (hw.go H).2).2 hY;have FA:FrY Y q (goQ H ns1) (goQ H ns):=FrY.go H h1 K h hY hF;have wA:=(K.go H).1;generalize goQ H ns1=A at FA wA hr;generalize hB:goQ H ns=B at FA FE FG;have al:YC Y A=some q:=by rw[FA Y,A6 rfl]
 have hl:=Xam h.circ.2 (FK h.wn) h.live;have T:∀ p∈l,p.addr≠(pn Y).addr∧p.id≠(pn Y).id:=fun p hp=>by
  obtain⟨k,hk,rfl⟩:=E2 hp;obtain⟨y,O⟩:=h.all k hk;have ag:=h.me hk;rw[FJ hk]at ag;refine⟨fun e=>?_,?_⟩
  ·rw[hw.at']at e;rw[e,hY]at O;cases O
  have:=af _ y O;rw[ag]at this;exact this
 have ho:∀ k (hk:k<l.length),Ys (pn Y) l[k]∧Ys l[k] (pn Y):=fun k hk=>by
  have:=T l[k] (C1 hk);exact⟨⟨h.circ.2.1 _ (C1 hk),this.1,this.2⟩,⟨by rw[hw.at'];exact aj,this.1.symm,this.2.symm⟩⟩
 obtain⟨bm,ao⟩:∃ y,YC q.boot B=some y:=by
  rw[q3,← hB];exact Xc (hw.go H).2.symm hb
 obtain⟨r1,r2,r3,r4⟩:=Xfe FE FA FG ho (by rw[hs.2]) hs.1.1 (by rw[q1];exact q0) q2 q6 q7 ao;have ak:T1 Y A=WM Y (UJ A q) A:=by
  unfold T1;rw[al];show(if q.joined=true then DO Y q A else WM Y (UJ A q) A)=_;rw[A4 (by rw[q2];decide)]
 have L:=(wA.t1 Y).1;have ad:=(L.t3 Y).1;have a1:YC Y (T1 Y A)=some (UJ A q):=by rw[ak,Vh wA,A6 rfl]
 have a3:=QK L a1;have a2:=RA ad a3;obtain⟨e1,e2⟩:=Xfz (ns:=T3 Y (T1 Y A)) (lv:=fun x=>(YC x (T1 Y A)).isSome) r1 (by rw[r4,q5]) r3;obtain⟨R2,aq⟩:∃ R2,OR (T3 Y (T1 Y A)) (UH (fun x=>(YC x (T1 Y A)).isSome) (UJ A q))=R2:=⟨_,rfl⟩
 rw[aq]at a2 e1 e2;have ai:R2.joined=true:=by
  obtain⟨m3,g3,j3⟩:=NK (a:=Y) L Y _ a1 r1;obtain⟨m2,g2,j2⟩:=NL (a:=Y) ad Y _ g3 j3;rw[a2]at g2;rw[A5 g2];exact j2
 have Fs9:FrY Y R2 (TQ Y A) B:=fun z=>by
  show YC z (T2 Y (T3 Y (T1 Y A)))=_;split
  ·rename_i e;rw[e];exact a2
  rename_i e;rw[Ow ad e,GT L e,ak,Vh wA,A4 e,FA z,A4 e]
 have wS:WN pn (were++[Y]) (TQ Y A):=(wA.step Y).1;have Fj:=FrY.go l2 h2 wS FE FG Fs9;rw[← hr]at Fj;have FH:=Idl.go l2 FE;obtain⟨l',w,C,-⟩:=Xhy (Z:=pn Y) h.circ jD (by rw[hw.at'];exact aj) T;have I:(lp l' w).addr=Y:=by rw[C.z,hw.at']
 have hne:∀{i},i<l'.length→i≠w→(lp l' i).addr≠Y:=fun hi hn e=>by
  rw[← I,FJ hi,FJ C.wl]at e;exact On C.c'.2 hi C.wl hn e
 have hJ:Joined (Xt ns1):=fun z m hm=>by
  rw[Fj z]at hm;split at hm
  ·rw[← A5 hm];exact ai
  exact FH.j z m hm
 refine⟨l',w,by rw[C.len,hl],⟨ae.wn,ae.kd,hc,C.c',C.two,fun z=>?_,fun i hi=>?_,hJ,fun z m hm=>still z m hm (hJ z m hm)⟩,C.wl,fun i m hi hm=>?_⟩
 ·constructor
  ·rintro⟨m,hm⟩;rw[Fj z]at hm;split at hm
   ·rename_i e;exact⟨w,C.wl,by rw[I,e]⟩
   obtain⟨k,hk,V⟩:=(FH.live z).1 ⟨m,hm⟩;have ah:lp l k∈l'.filter fun p=>decide (p.addr≠(pn Y).addr):=by rw[C.f];exact Xax hk
   obtain⟨o,ho,eo⟩:=E2 (F6.1 ah).1;exact⟨o,ho,by rw[FJ ho,eo,V]⟩
  rintro⟨i,hi,rfl⟩;rw[Fj];split
  ·exact⟨_,rfl⟩
  rename_i e;obtain⟨k,hk,V,-⟩:=C.at hi fun e9=>e (by rw[e9,I]);exact(FH.live _).2 ⟨k,hk,by rw[V]⟩
 ·by_cases e:i=w
  ·rw[e,C.z,hw.at']
  obtain⟨k,hk,V,-⟩:=C.at hi e;rw[← V];exact FH.me hk
 rw[Fj]at hm;by_cases e:i=w
 ·subst e;rw[A6 I]at hm;rw[← A5 hm,e1,e2,r2,hs.2];refine⟨.inl (.inl rfl),.inl ⟨[],?_⟩⟩;rw[C.owner]
 rw[A4 (hne hi e)]at hm;obtain⟨k,hk,V,-⟩:=C.at hi e;obtain⟨-,k2,aa,ea,et⟩:=FH.one _ m hm;have an:k=k2:=C2 fun q=>On h.circ.2 hk aa q (by rw[← FJ hk,V,ea]);subst an;rw[et,← FJ aa];exact C.tab hi e h.rr.1 aa V
theorem Fx.join(h:Fx pn were c ns)(U:0<M)(v:2≤c∧c≤8)(O:(were++[Y]).length≤6)(h5:ns.length≤5)(hY:YC Y ns=none)(G:Yf Y)(f:∀ z m,YC z ns=some m→(pn z).id≠(pn Y).id)(h0:(Ur (pn Y) c b).2=0)(hb:YC b ns=some m):
 ∃ B,(VZ pn 400 ⟨c,M,WM Y (Ur (pn Y) c b).1 ns,[]⟩).2=⟨c,M,B,[]⟩∧Fx pn (were++[Y]) c B:=by
 obtain⟨l,hi⟩:=h.idl;have A:=Zhx hi.wn (Mh h0);have K:YC Y (WM Y (Ur (pn Y) c b).1 ns)=some (Ur (pn Y) c b).1:=by rw[Ut _ _ _ _ hi.wn.rise,A6 rfl]
 obtain⟨⟨l',w,hl,I⟩,C,V,H⟩:=Xhc hi v h.kd hY G f jD h0 hb;have T:=(Xci h0).2.2.1;generalize WM Y (Ur (pn Y) c b).1 ns=ns1 at *;have h3:=C.it 2;have hS:∀ j,Go.Esp.XQ pn ⟨c,M,itQ (j+1) ns1,[]⟩=true→Fx pn (were++[Y]) c (itQ (j+1) ns1):=fun j hid=>by
  cases j with
  | zero=>exact Fx.of C v H (fun z m hm hj=>.inl (V z m hm hj)) hid
  | succ j=>exact Rest.stop (j:=j) C v hid
 have E:Fq (were++[Y]) 6 (itQ 2 (Xt ns1)):=by
  refine Fq.of h3.sh (fun z m hm=>?_) O;have h2:=C.it 1;have hj:=I.right.cj.r.j z m hm;exact(OA h2.wn h2.kd h2.lone hm hj).2.2.2
 have L:=Xgo I.right jD E jM;have aa:=Xbh (l:=l') v jD;refine Xca (J:=2+Xag c l'.length 6) (bag:=[]) A U v (fun m hm=>by cases hm) (C3 _) hS jD ⟨l',?_⟩ fun hid=>?_
 ·show Idl pn _ l' c.toNat (itQ (2+Xag c l'.length 6) (Xt ns1));rw[Zrc];exact L
 have:=(OM A hid K).1;grind
end
section
variable {pn:Int→Zr} {were were':List Int} {ns ns':List (Int×Nd)} {a b c x X M Y z:Int} {n m q:Nd} {k:Nat} {bag:List Ml} {r r1:Rg}
inductive EvS (pn:Int→Zr) (c:Int) (r:Rg):Rg→Prop where
  | join (a b:Int) (h:(Us pn r a b).2=0):EvS pn c r (Us pn r a b).1
  | leave (a:Int) (h:1<r.nodes.length):EvS pn c r (Ts r 3 a).1
  | crash (L:List Int) (h1:(L.length:Int)<c) (h2:L.length<r.nodes.length):EvS pn c r (Nk r L)
inductive Xes (pn:Int→Zr) (c M:Int):Nat→Rg→Prop where
  | zero:Xes pn c M 0 (Td pn ⟨c,M,[],[]⟩ 100).1
  | step {k:Nat} {r r1:Rg} (h:Xes pn c M k r) (he:EvS pn c r r1):Xes pn c M (k+1) (VZ pn 400 r1).2
theorem Xff(h0:(Us pn ⟨c,M,ns,bag⟩ a b).2=0):Yf a∧YC a ns=none∧(∃ m,YC b ns=some m)∧(Ur (pn a) c b).2=0∧Us pn ⟨c,M,ns,bag⟩ a b=(⟨c,M,WM a (Ur (pn a) c b).1 ns,bag⟩,0):=by
 by_cases ho:Yf a∧Yf b∧¬a=b
 ·cases h1:(YC a ns).isSome with
  | true=>rw[OI (r:=⟨c,M,ns,bag⟩) ho h1]at h0;cases h0
  | false =>
   by_cases h2:16≤ns.length
   ·rw[Mj (r:=⟨c,M,ns,bag⟩) ho h1 h2]at h0;cases h0
   cases h3:(YC b ns).isSome with
   | false=>rw[Oi (r:=⟨c,M,ns,bag⟩) ho h1 h2 h3]at h0;cases h0
   | true =>
    have e:=Mi (pn:=pn) (r:=⟨c,M,ns,bag⟩) ho h1 h2 h3;rw[e,Nr]at h0;refine⟨ho.1,?_,Option.isSome_iff_exists.1 h3,h0,?_⟩
    ·cases hg:YC a ns with
     | none=>rfl
     | some q=>rw[hg]at h1;cases h1
    rw[e,Oz h0 rfl]
 rw[OJ (r:=⟨c,M,ns,bag⟩) (by
  apply C2;intro h9;rw[not_or,not_or]at h9;exact ho ⟨I0.1 h9.1,I0.1 h9.2.1,h9.2.2⟩)]at h0
 cases h0
theorem Xfc{s:Snd}(hs:s∈(Sq n).1):s.letter={ QC n 8 0 with peer:=n.table.pred,peers:=n.table.succ }:=by
 unfold Sq at hs;grind
theorem Xgg(L:List Int):∀{ns:List (Int×Nd)},WN pn were ns→∃ ns',Nk ⟨c,M,ns,bag⟩ L=⟨c,M,ns',bag⟩∧WN pn were ns'∧Sub ns ns'∧ns.length≤ns'.length+L.length:=by
 induction L with
 | nil=>exact fun h=>⟨_,rfl,h,Sub.refl _,B9 _⟩
 | cons a L ih =>
  intro ns h;show∃ ns',Nk (Ts ⟨c,M,ns,bag⟩ 4 a).1 L=_∧_;cases hg:YC a ns with
  | none =>
   rw[Mr (r:=⟨c,M,ns,bag⟩) hg];obtain⟨ns',h1,h2,h3,f⟩:=ih h;exact⟨ns',h1,h2,h3,Nat.le_succ_of_le f⟩
  | some q =>
   rw[IZ (r:=⟨c,M,ns,bag⟩) hg jM];obtain⟨ns',h1,h2,h3,f⟩:=ih (h.del a).1;have:=Xdv (X:=a) h;exact⟨ns',h1,h2,fun z m hm=>(h.del a).2 z m (h3 z m hm),by rw[C8];omega⟩
structure Bd5 (pn:Int→Zr) (c M:Int) (k:Nat) (were:List Int) (ns:List (Int×Nd)) (r:Rg):Prop where
  e:r=⟨c,M,ns,[]⟩
  bo:Fx pn were c ns
  ok:∀ z∈were,Yf z
  cnt:were.length≤k+1
theorem Fx.few(h:Fx pn were c ns):ns.length≤were.length:=by
 obtain⟨l,hi⟩:=h.idl;have:=IJ (FK hi.wn) (Xcq hi);grind
theorem Xhi(v:∀ a,(pn a).addr=a)(B:2≤c∧c≤8):∃ were ns,Bd5 pn c M 0 were ns (Td pn ⟨c,M,[],[]⟩ 100).1:=by
 have ha:Yf 100:=by decide
 have h0:(Uk (pn 100) c).2=0:=by
  unfold Uk;rw[A6 ⟨by rw[v];exact ha,by omega,B.2⟩]
 obtain⟨q,E⟩:∃ q,(Uk (pn 100) c).1=q:=⟨_,rfl⟩
 have hs:=NH h0;have f:q.copies=c∧q.joined=true∧q.askTo=-1∧q.pingTo=-1∧q.findTo=-1:=by
  rw[← E];unfold Uk;rw[A6 ⟨by rw[v];exact ha,by omega,B.2⟩];exact⟨rfl,rfl,rfl,rfl,rfl⟩
 rw[E]at hs;have e:(Td pn ⟨c,M,[],[]⟩ 100).1=⟨c,M,[(100,q)],[]⟩:=by
  rw[OU (r:=⟨c,M,[],[]⟩) ha (Nat.lt_irrefl 0),Oz h0 E.symm];rfl
 have I:WN pn [] []:=⟨J8,fun p K=>(by cases K),v⟩
 have hw:WN pn [100] [(100,q)]:=Zhx I hs;have one:∀ z m,YC z [(100,q)]=some m→m=q:=fun z m hm=>by
  by_cases e9:(100:Int)=z
  ·rw[show YC z [(100,q)]=some q from A6 e9]at hm;exact(A5 hm).symm
  rw[show YC z [(100,q)]=none from A4 e9]at hm;cases hm
 have hj:Joined [(100,q)]:=fun z m hm=>by rw[one z m hm];exact f.2.1
 have C:Rest (fun _=>True) pn [100] c [(100,q)]:=⟨hw,fun z m hm=>by rw[one z m hm];exact⟨f.1,fun _=>f.2.2.1⟩,hj.lone,fun z m hm _=>.inl (by rw[one z m hm];exact f.2.2.2.2)⟩
 have H:Zqb [(100,q)]:=fun z m hm _=>by
  rw[one z m hm];refine⟨?_,?_,?_⟩
  ·rw[f.2.2.1];exact Tx hw
  ·rw[f.2.2.2.1];exact Tx hw
  rw[f.2.2.2.2];exact Tx hw
 have A:∀ z∈[(100:Int)],Yf z:=fun z L=>by rw[B0.1 L];exact ha
 have O:AllG (GS 100 []) [(100,q)]:=fun z m hm=>by
  rw[one z m hm,hs.2];exact ON (G:=GS 100 []) (.inl (v 100))
 exact⟨[100],[(100,q)],e,⟨Xcw C hj H rfl O A B,C.kd,C.sh,fun z m hm=>.inl (by rw[one z m hm];exact f.2.2.2.2)⟩,A,B9 1⟩
theorem Xhj(v:∀ a b,Yf a→Yf b→(pn a).id=(pn b).id→a=b)(C:2≤c∧c≤8)(E:0<M)(hk:k≤4)(h:Bd5 pn c M k were ns r)(he:EvS pn c r r1):∃ were ns,Bd5 pn c M (k+1) were ns (VZ pn 400 r1).2:=by
 obtain⟨rfl,A,f,K⟩:=h;have h5:=A.few;obtain⟨l,hi⟩:=A.idl;have hw:=hi.wn;have gone:∀{ns'},WN pn were ns'→Sub ns ns'→1≤ns'.length→(ns.length:Int)<ns'.length+c→∃ were ns,Bd5 pn c M (k+1) were ns (VZ pn 400 ⟨c,M,ns',[]⟩).2:=fun hw hs h1 h2=>by
  obtain⟨B,e,g⟩:=A.crash E C f jD jD hw hs h1 h2;exact⟨_,_,e,g,f,by omega⟩
 cases he with
 | join a b h0 =>
  obtain⟨h1,h2,⟨y,V⟩,h3,T⟩:=Xff h0;rw[T];obtain⟨B,e,g⟩:=A.join E C (by rw[B3];show were.length+1≤6;omega) jD h2 h1 (fun z m hm e=>by
   rw[v z a (f z (AC hw hm)) h1 e,h2]at hm;cases hm) h3 V
  exact⟨_,_,e,g,fun z U=>(B8.1 U).elim (f z) fun q=>by rw[B0.1 q];exact h1,by rw[B3];show were.length+1≤_;omega⟩
 | leave a h0 =>
  have h0:1<ns.length:=h0;cases hg:YC a ns with
  | none =>
   rw[Mr (r:=⟨c,M,ns,[]⟩) hg];exact gone hw (Sub.refl ns) jD jD
  | some q =>
   rw[IY (r:=⟨c,M,ns,[]⟩) hg rfl,NX];obtain⟨new,I,e2,O⟩:=JJ (most:=M) (frm:=a) (l:=(Sq q).1) (b:=[]);rw[I];have:=EU q;obtain⟨B,e,g⟩:=A.leave (bag:=new) E C f jD jD h0 hg jD fun m hm=>by
    obtain⟨g1,s,g2,g3⟩:=O m hm;have g4:=Xfc g2;rw[g3];rw[g3]at g1;rw[g4]at g1 ⊢;exact⟨rfl,g1,hw.self hg,rfl,rfl,fun G H=>⟨H.1,H.2.1,H.2.2.1⟩⟩
   exact⟨_,_,e,g,f,by omega⟩
 | crash L h1 h2 =>
  have h2:L.length<ns.length:=h2;obtain⟨ns',I,g1,g2,g3⟩:=Xgg L (bag:=[]) (c:=c) (M:=M) hw;rw[I];exact gone g1 g2 jD jD
theorem Xid(v:∀ a,(pn a).addr=a)(f:∀ a b,Yf a→Yf b→(pn a).id=(pn b).id→a=b)(A:2≤c∧c≤8)(B:0<M)(h:Xes pn c M k r):k≤5→∃ were ns,Bd5 pn c M k were ns r:=by
 induction h with
 | zero=>exact fun _=>Xhi v A
 | step h he ih =>
  intro hk;obtain⟨were,ns,C⟩:=ih jD;exact Xhj f A B jD C he
theorem happ_settles(v:∀ a,(pn a).addr=a)(f:∀ a b,Yf a→Yf b→(pn a).id=(pn b).id→a=b)(B:2≤c∧c≤8)(A:0<M)(h:Xes pn c M k r)(hk:k≤5):XQ pn r=true:=by
 obtain⟨were,ns,rfl,⟨⟨l,hi⟩,-,-,-⟩,-,-⟩:=Xid v f B A h hk;exact hi.idealR
def Xif(pn:Int→Zr)(c:Int)(r r1:Rg)(b:Bool):Prop:=(b=true∧EvS pn c r r1)∨(b=false∧r1=r)
theorem Xjd(a b:Int):Xif pn c r (Us pn r a b).1 (decide ((Us pn r a b).2=0)):=by
 by_cases h:(Us pn r a b).2=0
 ·exact .inl ⟨decide_eq_true h,.join a b h⟩
 exact .inr ⟨decide_eq_false h,Zhu h⟩
theorem Xiz(a:Int)(f:1<r.nodes.length):Xif pn c r (Ts r 3 a).1 (decide ((Ts r 3 a).2=0)):=by
 by_cases h:(Ts r 3 a).2=0
 ·exact .inl ⟨decide_eq_true h,.leave a f⟩
 exact .inr ⟨decide_eq_false h,Ziq h⟩
theorem Xja(L:List Int)(h1:(L.length:Int)<c)(h2:L.length<r.nodes.length):Xif pn c r (Nk r L) true:=.inl ⟨rfl,.crash L h1 h2⟩
theorem Xjf:Xif pn c r r false:=.inr ⟨rfl,rfl⟩
theorem Xje{l xs:List Int}:(Zbr l xs).length=xs.length:=A8 ..
theorem Xfw(pn:Int→Zr):∀(N:Nat) (r:Rg),(VZ pn N r).1≤N
 | 0,r=>B9 0
 | N+1,r=>by
  unfold VZ;split
  ·exact C3 _
  exact Nat.succ_le_succ (Xfw pn N _)
end
end Go.Esp
