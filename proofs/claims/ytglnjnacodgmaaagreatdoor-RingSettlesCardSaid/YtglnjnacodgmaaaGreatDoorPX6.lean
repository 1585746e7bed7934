/-
  Texts of this claim, one behind the other: RingZ, RingY, RingB, WalkB, RingV, WalkQ, RingE, RingF, RingG, RingA, RingC, RingD, RingR, RingN, U5, U6.
-/
import Derived.Test.YtglnjnacodgmaaaGreatDoorPX5
set_option linter.unusedSimpArgs false
set_option linter.unusedVariables false
set_option linter.unnecessarySimpa false
set_option maxRecDepth 8000
set_option maxHeartbeats 1000000
open BitVec renaming eq_of_toNat_eq → J5
open Bool renaming and_eq_true → F1
open Decidable renaming byContradiction → C2,not_not → I0
open List renaming all_eq_true → E7,append_assoc → B5,append_nil → E0,cons_append → B4,drop_eq_getElem_cons → G4,eq_nil_of_length_eq_zero → D4,ext_getElem → J4,foldl_append → I4,foldl_cons → G6,getElem?_eq_getElem → A7,getElem_map → I7,getElem_mem → C1,getElem_of_mem → E2,length_append → B3,length_cons → C8,length_drop → F3,length_map → A8,map_append → C6,map_cons → D3,map_map → I2,mem_append → B8,mem_append_left → C5,mem_append_right → D0,mem_cons → B7,mem_cons_of_mem → B2,mem_cons_self → B1,mem_filter → F6,mem_map → C0,mem_map_of_mem → G8,mem_of_mem_take → F9,mem_singleton → B0,nil_append → B6,nodup_append → H3,nodup_cons → D9,nodup_nil → J1,pairwise_iff_getElem → E1,take_add_one → C9,take_append_drop → F0,take_of_length_le → H5
open List.Mem renaming head → J3,tail → J6
open List.Pairwise renaming nil → J8
open List.Perm renaming refl → I9
open Nat renaming le_refl → B9,lt_or_ge → C7,mod_eq_of_lt → E3,mod_lt → G5,zero_le → C3
open Option renaming getD_some → F7
open Option.some renaming inj → A5
namespace Go.Esp
section
variable {pn:Int→Zr} {were:List Int} {ns:List (Int×Nd)} {a b c k x X o:Int} {n m n1:Nd} {G:Zr→Prop} {Y:Int}
def Joined(ns:List (Int×Nd)):Prop:=∀ z m,YC z ns=some m→m.joined=true
theorem Joined.kept{d:List (Int×Nd)}(hk:Kept ns d)(he:d.map (·.1)=ns.map (·.1))(h:Joined ns):Joined d:=fun z m hm=>by
 obtain⟨y,g⟩:=Xc he hm;obtain⟨j,h1,h2⟩:=hk z y g (h z y g);rw[hm]at h1;rw[A5 h1];exact h2
def Dead(ns:List (Int×Nd))(n:Nd):Prop:=YC n.askTo ns=none∧YC n.pingTo ns=none∧YC n.findTo ns=none
def AllDead(ns:List (Int×Nd)):Prop:=∀ z m,YC z ns=some m→Dead ns m
theorem Dead.keys{d:List (Int×Nd)}(he:d.map (·.1)=ns.map (·.1))(h:Dead ns n):Dead d n:=⟨(VF he).2 h.1,(VF he).2 h.2.1,(VF he).2 h.2.2⟩
theorem Tx(h:WN pn were ns):YC (-1) ns=none:=by
 cases hg:YC (-1) ns with
 | none=>rfl
 | some n =>
  have h1:=(h.get hg).1.1.1;rw[h.self hg]at h1;have:=h1.1;omega
theorem Zci(h:Joined ns){z:Int}(hj:Vg ns z=none):YC z ns=none:=by
 rcases Oh hj with h1|⟨y,h1,h2⟩
 ·exact h1
 rw[h z y h1]at h2;cases h2
theorem AllDead.t1(h:WN pn were ns)(j:Joined ns)(v:AllDead ns):AllDead (T1 x ns):=fun z m hm=>by
 refine Dead.keys (h.t1 x).2 ?_;obtain⟨m0,d⟩:=Xc (h.t1 x).2 hm;have h0:=v z m0 d;by_cases e:z=x
 ·subst e;have g1:=RK h d;rw[A6 (j z m0 d)]at g1;rw[hm]at g1;rw[A5 g1];obtain⟨t,q,y,r,e,g⟩:=NG m0 ns;rw[e];refine⟨?_,h0.2.1,h0.2.2⟩;show YC y ns=none;rcases g with g|⟨-,-,g⟩
  ·rw[g];exact Tx h
  exact Zci j g
 obtain⟨B,h1,h2⟩:=BH h e d;rw[hm]at h1;rw[A5 h1,h2];exact h0
theorem AllDead.t3(h:WN pn were ns)(j:AllDead ns):AllDead (T3 x ns):=fun z m hm=>by
 refine Dead.keys (h.t3 x).2 ?_;obtain⟨m0,d⟩:=Xc (h.t3 x).2 hm;have h0:=j z m0 d;by_cases e:z=x
 ·subst e;have g1:=QK h d;rw[hm]at g1;rw[A5 g1];obtain⟨t,p,r,q,u,e,g⟩:=Rk (fun x=>(YC x ns).isSome) m0;rw[e];refine⟨h0.1,?_,h0.2.2⟩;show YC p ns=none;rcases g with g|g
  ·rw[g];exact Tx h
  cases hg:YC p ns with
  | none=>rfl
  | some y=>simp[hg]at g
 rw[GT h e]at hm;rw[A5 (hm.symm.trans d)];exact h0
theorem AllDead.t2(h:WN pn were ns)(C:Joined ns)(D:AllDead ns):AllDead (T2 x ns):=fun z m hm=>by
 refine Dead.keys (h.t2 x).2 ?_;obtain⟨m0,d⟩:=Xc (h.t2 x).2 hm;have h0:=D z m0 d;by_cases e:z=x
 ·subst e;have g1:=RA h d;rw[hm]at g1;rw[A5 g1];obtain⟨t,K,q,f,r,id,F,e,j⟩:=Lf (G:=InW pn were) h d (C z m0 d) (h.get d).2.2 fun s b x hx=>(h.get (Vi hx).1).2.2;rw[e];refine⟨h0.1,h0.2.1,?_⟩;show YC f ns=none;rcases j with j|⟨j,-,p,B,g,v⟩
  ·rw[j];exact Tx h
  rcases NB j with h1|⟨y,h1,h2⟩
  ·exact h1
  exfalso;rcases h2 with h2|h2
  ·rw[C f y h1]at h2;cases h2
  refine h2 ?_;rw[(h.get h1).2.1,← v,← AJ h B];exact⟨(h.get d).1.1.1,fun e=>g.2.1 e.symm,fun e=>g.2.2 e.symm⟩
 rw[Ow h e]at hm;rw[A5 (hm.symm.trans d)];exact h0
theorem JI(d:Int→Bool)(n:Nd):(UH d n).table=(unping n).table:=by
 unfold UH;split <;> rfl
theorem DQ{W:List (Int×Nd)→Prop}:Stays W (fun _=>True):=⟨fun _ _ _ _=>trivial,fun _ _ _ _=>trivial,fun _ _ _ _=>trivial⟩
theorem Bl{l:Lt}(hj:n.joined=true)(h:GoodT G n.table)(g:l.done=true→l.peer≠Yj→G l.peer):GoodT G (YF n l).1.table:=by
 unfold YF;split
 ·exact h
 split
 ·rename_i d;split
  ·exact SY (n:={ n with findTo:=-1 }) h (g d)
  grind
 split
 ·exact h
 exact h
theorem Hq(hx:∀ s b x l,Vz ns s b=some x→(Xq x l).done=true→G (Xq x l).peer):∀(F:Nat) (n:Nd),n.joined=true→GoodT G n.table→GoodT G (XS ns F n).table
 | 0,n,_,h=>h
 | F+1,n,hj,h=>by
  unfold XS;cases hf:Vz ns n.table.self n.findTo with
  | none=>exact h
  | some x =>
   have d:=Bl (l:=Xq x (Xl n)) hj h fun g _=>hx _ _ _ _ hf g;show GoodT G (match (YF n (Xq x (Xl n))).2 with
    | []=>(YF n (Xq x (Xl n))).1
    | _=>XS ns F (YF n (Xq x (Xl n))).1).table
   split
   ·exact d
   exact Hq hx F _ (OP _ hj).2 d
theorem Hh{x:Nd}{l:Lt}(h:(Xq x l).done=true):(Xq x l).peer=Yv x.table:=by
 unfold Xq at h ⊢;dsimp only at h ⊢;rw[A6 h];rfl
end
end Go.Esp
namespace Go.Esp
section
variable {pn:Int→Zr} {were:List Int} {ns:List (Int×Nd)} {a b c k x X o:Int} {n:Nd} {m:Ml} {bag:List Ml} {G:Zr→Prop} {Y:Int}
def Zdn(m:Ml)(ns:List (Int×Nd)):List (Int×Nd):=match YC m.zto ns with
 | none=>ns
 | some n=>WM m.zto (if Ys n.table.self m.lt.frm then If n m.lt else n) ns
def QF(bag:List Ml)(ns:List (Int×Nd)):List (Int×Nd):=bag.foldl (fun ns m=>Zdn m ns) ns
def QM(G:Zr→Prop)(m:Ml):Prop:=m.lt.kind=8∧SP m.lt∧GoodL G m.lt
theorem Zmn(h:Ui n)(hm:QM G m):WI n m.lt=((if Ys n.table.self m.lt.frm then If n m.lt else n),[],0):=by
 by_cases ho:Ys n.table.self m.lt.frm
 ·rw[A6 ho,tkE h hm.2.1 ho];have:=hm.1;grind
 rw[A4 ho];exact Nj h hm.2.1 ho
theorem Zkd(n:Nd)(l:Lt):Alike n (If n l):=by
 unfold If;dsimp only;split
 ·rfl
 split
 ·exact Alike.trans (b:={ n with table:=_ }) rfl (TZ _ _ _)
 rfl
theorem Bu(h:WN pn were ns)(hm:QM G m):XL ⟨c,k,ns,m::bag⟩ 0=(⟨c,k,Zdn m ns,bag⟩,0):=by
 unfold Zdn;cases hg:YC m.zto ns with
 | none=>exact Rx (r:=⟨c,k,ns,m::bag⟩) (k:=0) (m:=m) jQ rfl hg
 | some n =>
  have ht:=Zmn (h.get hg).1 hm;exact Rb (r:=⟨c,k,ns,m::bag⟩) (k:=0) (m:=m) jQ rfl hg zY zY zY
theorem WN.bye(h:WN pn were ns)(hm:QM (InW pn were) m):WN pn were (Zdn m ns)∧(Zdn m ns).map (·.1)=ns.map (·.1):=by
 unfold Zdn;cases hg:YC m.zto ns with
 | none=>exact⟨h,rfl⟩
 | some n =>
  have h1:=h.get hg;refine⟨?_,Mb h.rise (by rw[hg];rfl)⟩;show WN pn were (WM m.zto (if Ys n.table.self m.lt.frm then If n m.lt else n) ns);split
  ·have hs:=Ek (l:=m.lt) h1.1;exact h.put hg hs.1 hs.2.1 (Gl h1.2.2 hm.2.2)
  exact h.put hg h1.1 rfl h1.2.2
theorem Zkc:∀(N:Nat) (bag:List Ml) {ns:List (Int×Nd)},WN pn were ns→(∀ m∈bag,QM (InW pn were) m)→bag.length≤N→Va N ⟨c,k,ns,bag⟩=⟨c,k,QF bag ns,[]⟩
 | N,[],ns,h,_,_=>Nz N
 | 0,m::bag,ns,h,_,hl=>by simp at hl
 | N+1,m::bag,ns,h,hb,hl=>by
  have hm:=hb m B1;have e:=Bu (c:=c) (k:=k) (bag:=bag) h hm;rw[Pg zV,e];exact Zkc N bag (h.bye hm).1 (fun q d=>hb q (B2 _ d)) (by simp at hl;omega)
theorem WN.byes:∀(bag:List Ml) {ns:List (Int×Nd)},WN pn were ns→(∀ m∈bag,QM (InW pn were) m)→WN pn were (QF bag ns)∧(QF bag ns).map (·.1)=ns.map (·.1)
 | [],_,h,_=>⟨h,rfl⟩
 | m::bag,ns,h,hb=>by
  have h1:=h.bye (hb m B1);have h2:=WN.byes bag h1.1 fun q d=>hb q (B2 _ d);exact⟨h2.1,h2.2.trans h1.2⟩
theorem Hs:∀(bag:List Ml) {ns:List (Int×Nd)} {n:Nd},WN pn were ns→(∀ m∈bag,QM (InW pn were) m)→YC b ns=some n→∃ d,YC b (QF bag ns)=some d∧Alike n d
 | [],_,n,_,_,hn=>⟨n,hn,Alike.refl n⟩
 | m::bag,ns,n,h,hb,hn=>by
  have h1:=h.bye (hb m B1);have h2:∃ n1,YC b (Zdn m ns)=some n1∧Alike n n1:=by
   unfold Zdn;cases hg:YC m.zto ns with
   | none=>exact⟨n,hn,Alike.refl n⟩
   | some q =>
    show∃ n1,YC b (WM m.zto (if Ys q.table.self m.lt.frm then If q m.lt else q) ns)=some n1∧_;rw[Vh h];by_cases e:b=m.zto
    ·rw[A6 e];refine⟨_,rfl,?_⟩;rw[e,hg]at hn;rw[← A5 hn];split
     ·exact Zkd _ _
     exact Alike.refl _
    rw[A4 e];exact⟨n,hn,Alike.refl n⟩
  obtain⟨n1,g1,g2⟩:=h2;obtain⟨n2,g3,g4⟩:=Hs bag h1.1 (fun q g=>hb q (B2 _ g)) g1;exact⟨n2,g3,g2.trans g4⟩
theorem Ey(h:WN pn were ns)(hk:0<k)(hb:∀ m∈bag,QM (InW pn were) m)(d:bag.length≤10000):VI ⟨c,k,ns,bag⟩=⟨c,k,Xt (QF bag ns),[]⟩:=by
 unfold VI;rw[Zkc 10000 bag h hb d,CH _ (h.byes bag hb).1 hk];rfl
def itR:Nat→Rg→Rg
 | 0,r=>r
 | j+1,r=>itR j (VI r)
theorem KH:∀(n:Nat) (r:Rg),∃ j,j≤n∧(VZ pn n r).2=itR j r∧(j<n→XQ pn (itR j r)=true)∧(j=0→n=0∨XQ pn r=true)
 | 0,r=>⟨0,B9 0,rfl,fun h=>absurd h (Nat.lt_irrefl 0),fun _=>.inl rfl⟩
 | n+1,r=>by
  show∃ j,j≤n+1∧(if XQ pn r=true then(0,r)else((VZ pn n (VI r)).1+1,(VZ pn n (VI r)).2)).2=itR j r∧_;by_cases hi:XQ pn r=true
  ·rw[A6 hi];exact⟨0,by omega,rfl,fun _=>hi,fun _=>.inr hi⟩
  rw[A4 hi];obtain⟨j,h1,h2,h3,-⟩:=KH n (VI r);exact⟨j+1,by omega,h2,fun h=>h3 jD,fun h=>by omega⟩
theorem Dd(hk:0<k):∀(j:Nat) {ns:List (Int×Nd)},WN pn were ns→itR j ⟨c,k,ns,[]⟩=⟨c,k,itQ j ns,[]⟩
 | 0,_,_=>rfl
 | j+1,ns,h=>by
  show itR j (VI ⟨c,k,ns,[]⟩)=_;rw[KP h hk,Dd hk j (Wh h).1];rfl
theorem AE(h:WN pn were ns)(hk:0<k)(hb:∀ m∈bag,QM (InW pn were) m)(d:bag.length≤10000)(j:Nat):itR (j+1) ⟨c,k,ns,bag⟩=⟨c,k,itQ (j+1) (QF bag ns),[]⟩:=by
 show itR j (VI ⟨c,k,ns,bag⟩)=_;rw[Ey h hk hb d,Dd hk j (Wh (h.byes bag hb).1).1];rfl
theorem Jw{t:Tb}(h:GoodT (fun p=>p.addr≠x) t)(hx:x≠-1):Xd t x=t:=by
 have d:(if t.pred.addr=x then Yj else t.pred)=t.pred:=by
  split
  ·rename_i e;by_cases e2:t.pred=Yj
   ·exact e2.symm
   exact absurd e (h.2.1 e2)
  rfl
 have hs:t.succ.filter (fun p=>p.addr≠x)=t.succ:=List.filter_eq_self.2 fun p d=>by simpa using h.2.2.1 p d
 have g:t.fingers.map (fun p=>if p.addr=x then Yj else p)=t.fingers:=by
  have:t.fingers.map (fun p=>if p.addr=x then Yj else p)=t.fingers.map id:=List.map_congr_left fun p d=>by
   split
   ·rename_i e;by_cases e2:p=Yj
    ·exact e2.symm
    exact absurd e (h.2.2.2 p d e2)
   rfl
  rw[this,List.map_id]
 show Tb.mk t.self (if t.pred.addr=x then Yj else t.pred) (t.succ.filter _) (t.fingers.map _)=t;rw[d,hs,g]
end
end Go.Esp
namespace Go.Esp
theorem Zhg{a b:Plc}(h:WY a b):a≠b:=fun e=>by subst e;exact Nat.lt_irrefl _ h
theorem Br{l:List Zr}(h:Uv l){i j:Nat}(hi:i<l.length)(hj:j<l.length)(d:i≠j):l[i].id≠l[j].id:=by
 rcases Nat.lt_or_gt_of_ne d with h1|h1
 ·exact Zhg (E1.1 h.2.2 i j hi hj h1)
 exact(Zhg (E1.1 h.2.2 j i hj hi h1)).symm
theorem On{l:List Zr}(h:Uv l){i j:Nat}(hi:i<l.length)(hj:j<l.length)(d:i≠j):l[i].addr≠l[j].addr:=by
 have key:∀ i j (hi:i<l.length) (hj:j<l.length),i<j→l[i].addr≠l[j].addr:=fun i j hi hj h1=>by
  have:=E1.1 h.2.1 i j zP zM h1;simpa using this
 grind
def D(a b:Plc):Nat:=(b-a).toNat
theorem Ux(a b:Plc):(a.toNat≤b.toNat∧D a b=b.toNat-a.toNat)∨(b.toNat<a.toNat∧D a b=2 ^ 160-a.toNat+b.toNat):=by
 have h1:=a.isLt;have h2:=b.isLt;unfold D;grind
theorem Zgn{a x b:Plc}:Uh a x b↔x.toNat≠a.toNat∧(a.toNat=b.toNat∨D a x<D a b):=by
 unfold Uh WY;rw[show(x≠a)↔x.toNat≠a.toNat from not_congr KU,KU (a:=a) (b:=b)];rfl
theorem Zim{a x b:Plc}:RL a x b↔x.toNat=b.toNat∨(x.toNat≠a.toNat∧(a.toNat=b.toNat∨D a x<D a b)):=by
 unfold RL;rw[Zgn,KU]
theorem EL{i n:Nat}(h:i<n):(i+1<n∧(i+1) % n=i+1)∨(i+1=n∧(i+1) % n=0):=by
 rcases C7 (i+1) n with h1|h1
 ·exact .inl ⟨h1,E3 h1⟩
 obtain rfl:n=i+1:=by omega
 simp
theorem AA{p:Nat→Bool}:∀{n j:Nat},j<n→p j=true→∃ k,k<n∧p k=true∧∀ i,i<k→p i=false
 | 0,j,h,_=>by omega
 | n+1,j,h,hp=>by
  by_cases he:∃ i,i<n∧p i=true
  ·obtain⟨i,hi,d⟩:=he;obtain⟨k,h1,h2,h3⟩:=AA hi d;exact⟨k,by omega,h2,h3⟩
  have hj:j=n:=by
   rcases C7 j n with h1|h1
   ·grind
   omega
  subst hj;refine⟨j,h,hp,fun i hi=>?_⟩;cases hq:p i with
  | false=>rfl
  | true=>exact(he ⟨i,hi,hq⟩).elim
section
variable {l:List Zr}
def idN(l:List Zr)(i:Nat):Nat:=match l[i]? with
 | some p=>p.id.toNat
 | none=>0
theorem Js{i:Nat}(h:i<l.length):l[i].id.toNat=idN l i:=by unfold idN;rw[A7 h]
theorem AO(l:List Zr)(i:Nat):idN l i<2 ^ 160:=by
 unfold idN;split
 ·omega
 decide
theorem AN(h:Uv l){i j:Nat}(hj:j<l.length)(d:i<j):idN l i<idN l j:=by
 have:=E1.1 h.2.2 i j jD hj d;rw[← Js hj,← Js (show i<l.length by omega)];exact this
theorem AP(h:Uv l){i j:Nat}(hj:j<l.length)(d:i≤j):idN l i≤idN l j:=by
 rcases C7 i j with h1|h1
 ·exact Nat.le_of_lt (AN h hj h1)
 grind
theorem MT(h:Uv l)(h0:0<l.length)(x:Plc):(∃ o,o<l.length∧Ve l x=o∧(∀ j,j<o→idN l j<x.toNat)∧x.toNat≤idN l o)∨(Ve l x=0∧∀ j,j<l.length→idN l j<x.toNat):=by
 by_cases he:∃ j,j<l.length∧pO l x j=true
 ·obtain⟨j,hj,v⟩:=he;obtain⟨o,y,d,hm⟩:=AA hj v;refine .inl ⟨o,y,Zgl y hm d,fun j hj=>?_,?_⟩
  ·have h9:=hm j hj;rw[Zgk jD]at h9;have g:WY l[j].id x:=I0.1 (of_decide_eq_false h9);unfold WY at g;rw[Js]at g;exact g
  rw[Zgk y]at d;have B:=of_decide_eq_true d;unfold WY at B;rw[Js]at B;omega
 have hm:∀ j,j<l.length→pO l x j=false:=fun j hj=>by
  cases hq:pO l x j with
  | false=>rfl
  | true=>exact(he ⟨j,hj,hq⟩).elim
 refine .inr ⟨CM hm,fun j hj=>?_⟩;have h9:=hm j hj;rw[Zgk hj]at h9;have g:WY l[j].id x:=I0.1 (of_decide_eq_false h9);unfold WY at g;rw[Js]at g;exact g
theorem EF(h:Uv l){x:Plc}{o j:Nat}(B:o<l.length)(d:Ve l x=o)(hj:j<l.length):D x l[o].id≤D x l[j].id:=by
 have v:=Ux x l[o].id;have y:=Ux x l[j].id;simp only[Js]at v y;have K:=AO l o;have C:=AO l j;have F:=x.isLt;rcases MT h jD x with⟨o',_,h1,h2,h3⟩|⟨h1,h2⟩
 ·rw[h1]at d;subst d;rcases C7 j o' with g|g
  ·grind
  have:=AP h hj g;omega
 rw[h1]at d;subst d;have m1:=h2 j hj;have m2:=h2 0 B;have m3:=AP h hj (C3 j);omega
theorem Li(h:Uv l){x:Plc}{i k:Nat}(hi:i<l.length)(hk:k<l.length)(d:(i+1) % l.length=k)(j:RL l[i].id x l[k].id):Ve l x=k:=by
 rw[Zim]at j;have v:=Ux l[i].id x;have y:=Ux l[i].id l[k].id;simp only[Js]at v y j;have C:=AO l i;have D:=AO l k;have B:=x.isLt;rcases EL hi with⟨g1,g2⟩|⟨g1,g2⟩
 ·rw[g2]at d;subst d;have m:=AN h hk (Nat.lt_succ_self i);rcases MT h jD x with⟨o,h0,h1,h2,h3⟩|⟨h1,h2⟩
  ·rw[h1];rcases Nat.lt_trichotomy o (i+1)with g|g|g
   ·have:=AP h hi (show o≤i by omega);omega
   ·exact g
   grind
  grind
 rw[g2]at d;subst d;rcases MT h jD x with⟨o,h0,h1,h2,h3⟩|⟨h1,h2⟩
 ·rw[h1];rcases Nat.eq_zero_or_pos o with g|g
  ·exact g
  have m1:=h2 0 g;have m2:=AP h hi (show o≤i by omega);omega
 exact h1
theorem Zgv(h:Uv l){x:Plc}{i k:Nat}(hi:i<l.length)(hk:k<l.length)(d:(i+1) % l.length=k)(g:¬RL l[i].id x l[k].id):k≠i∧Uh l[i].id l[k].id x:=by
 rw[Zim]at g;rw[Zgn];have hne:k≠i:=fun e=>by subst e;omega
 have hid:=Br h hk hi hne;have v:=Ux l[i].id x;have j:=Ux l[i].id l[k].id;omega
end
end Go.Esp
namespace Go.Esp
theorem Rc{l:List Zr}(h:Uv l){i j:Nat}(hi:i<l.length)(hj:j<l.length)(d:j≠i):Ys l[i] l[j] :=
 ⟨h.1 _ (C1 hj),On h hj hi d,Br h hj hi d⟩
theorem RR{l:List Zr}{i:Nat}(hi:i<l.length){p:Zr}(d:p∈Wf l i):∃ j,∃ hj:j<l.length,j≠i∧p=l[j]:=by
 rcases B8.1 d with d|d
 ·obtain⟨k,hk,rfl⟩:=E2 d;grind
 obtain⟨k,hk,rfl⟩:=E2 d;grind
theorem LG{l:List Zr}{i:Nat}(h:(l.map Zr.addr).Nodup):((Wf l i).map Zr.addr).Nodup:=by
 have h1:(l.take i++l.drop (i+1)).Sublist l:=by
  conv=>rhs;rw[← F0 i l]
  exact List.Sublist.append_left (List.drop_sublist_drop_left l (Nat.le_succ i)) _
 have h2:(Wf l i).Perm (l.take i++l.drop (i+1)):=List.perm_append_comm;grind
theorem Zbh{l:List Zr}{i:Nat}(h:Xk l)(hi:i<l.length)(k:Nat):RC l[i] (MN l i l[i] k):=by
 unfold MN;split
 ·exact .inl rfl
 rename_i g;have d:=Ua (l:=l) (x:=l[i].id+To k) jD;rw[A7 d];exact .inr (Rc h.2 hi d g)
theorem Iy{l:List Zr}{i r:Nat}(h:Xk l)(hi:i<l.length)(v:r≤8):TG (RH l r i l[i]):=by
 refine⟨h.2.1 _ (C1 hi),?_,?_,?_,⟨fun p g=>?_,?_⟩,fun p g=>?_⟩
 ·show RC l[i] ((Wf l i).getLastD Yj);rcases Nat.eq_zero_or_pos (Wf l i).length with h0|h0
  ·rw[D4 h0];exact .inl rfl
  rw[Ge h0];obtain⟨j,hj,d,e⟩:=RR hi (C1 (l:=Wf l i) (n:=(Wf l i).length-1) jD);rw[e];exact .inr (Rc h.2 hi hj d)
 ·show((Wf l i).take r).length≤8;grind
 ·rfl
 ·obtain⟨j,hj,d,e⟩:=RR hi (F9 g);rw[e];exact Rc h.2 hi hj d
 ·exact(LG h.2.2.1).sublist ((List.take_sublist _ _).map _)
 obtain⟨k,_,rfl⟩:=C0.1 g;exact Zbh h hi k
theorem MM{l:List Zr}{r i:Nat}(hi:i<l.length):(Nb l r)[i]'(by rw[Tp];exact hi)=RH l r i l[i]:=by
 unfold Nb;simp
end Go.Esp
namespace Go.Esp
theorem AZ{s q:Zr}:∀{xs acc:List Zr},q∈xs.foldl (VU s) acc→q∈acc∨(q∈xs∧0≤q.addr∧q.addr≠s.addr)
 | [],acc,h=>.inl h
 | p::xs,acc,h=>by
  rw[G6]at h;rcases AZ h with h1|⟨h1,h2⟩
  ·unfold VU at h1;split at h1
   ·rename_i d;rcases B8.1 h1 with h1|h1
    ·exact .inl h1
    rw[B0]at h1;subst h1;exact .inr ⟨.head _,d.1,d.2.1⟩
   exact .inl h1
  exact .inr ⟨.tail _ h1,h2⟩
theorem DE{s:Zr}{a:Int}:∀{xs acc:List Zr},PQ acc a→PQ (xs.foldl (VU s) acc) a
 | [],acc,h=>h
 | p::xs,acc,h=>by
  rw[G6];refine DE ?_;unfold VU;split
  ·unfold PQ at *;rw[C6];exact C5 _ h
  exact h
theorem Zaa{s p:Zr}(h0:0≤p.addr)(h1:p.addr≠s.addr):∀{xs acc:List Zr},p∈xs→PQ (xs.foldl (VU s) acc) p.addr
 | q::xs,acc,h=>by
  rw[G6];rcases B7.1 h with rfl|h
  ·refine DE ?_;unfold VU;split
   ·unfold PQ;simp
   rename_i g;apply C2;intro d;exact g ⟨h0,h1,d⟩
  exact Zaa h0 h1 h
theorem Zhq{t:Tb}{q:Zr}(h:q∈Wy t):q∈t.pred::(t.succ++t.fingers)∧0≤q.addr∧q.addr≠t.self.addr:=by
 have hk:=(Og (s:=t.self) (xs:=t.pred::(t.succ++t.fingers)) (I9 []) J8).1;rcases AZ (hk.mem_iff.1 h)with h1|h1
 ·cases h1
 exact h1
theorem Zhr{t:Tb}{p:Zr}(h:p∈t.pred::(t.succ++t.fingers))(h0:0≤p.addr)(h1:p.addr≠t.self.addr):PQ (Wy t) p.addr:=by
 have hk:=(Og (s:=t.self) (xs:=t.pred::(t.succ++t.fingers)) (I9 []) J8).1;exact(Jt hk).2 (Zaa h0 h1 h)
section
variable {l:List Zr} {r:Nat}
theorem Mx(g:1≤r){i k:Nat}(hi:i<l.length)(hk:k<l.length)(d:(i+1) % l.length=k):Yv (RH l r i l[i])=l[k]:=by
 show((Wf l i).take r).headD l[i]=l[k];rcases C7 1 l.length with h|h
 ·have h1:=Ex (k:=0) hi jD;rw[d,A7 hk]at h1;have h2:((Wf l i).take r)[0]?=some l[k]:=by rw[List.getElem?_take_of_lt jD];exact h1
  rw[List.headD_eq_head?_getD,List.head?_eq_getElem?,h2];rfl
 have j:l.length=1:=by omega
 have v:Wf l i=[]:=D4 (by rw[QW hi];omega);grind
theorem EY{i:Nat}(h:Xk l)(hi:i<l.length){q:Zr}(v:q∈Wy (RH l r i l[i])):∃ j,∃ hj:j<l.length,j≠i∧q=l[j]:=by
 obtain⟨h1,h2,h3⟩:=Zhq v;have y:∀ k,MN l i l[i] k=q→∃ j,∃ hj:j<l.length,j≠i∧q=l[j]:=fun k hk=>by
  unfold MN at hk;split at hk
  ·subst hk;exact absurd h2 jM
  rename_i g;have d:=Ua (l:=l) (x:=l[i].id+To k) jD;rw[A7 d]at hk;exact⟨_,d,g,hk.symm⟩
 have h1:q∈(Wf l i).getLastD Yj::((Wf l i).take r++(List.range 160).map (MN l i l[i])):=h1;rcases B7.1 h1 with h1|h1
 ·rcases Nat.eq_zero_or_pos (Wf l i).length with h0|h0
  ·rw[D4 h0]at h1;subst h1;exact absurd h2 jM
  rw[Ge h0]at h1;rw[h1];exact RR hi (C1 (l:=Wf l i) (n:=(Wf l i).length-1) jD)
 rcases B8.1 h1 with h1|h1
 ·exact RR hi (F9 h1)
 grind
theorem Zog{i m:Nat}(h:Xk l)(hi:i<l.length)(hm:m<l.length)(d:m≠i)(v:l[m]∈(Wf l i).take r++(List.range 160).map (MN l i l[i])):l[m]∈Wy (RH l r i l[i]):=by
 have h0:=(h.2.1 _ (C1 hm)).1;have g:=Zhr (t:=RH l r i l[i]) (p:=l[m]) (.tail _ v) h0 (On h.2 hm hi d);obtain⟨q,y,he⟩:=C0.1 g;obtain⟨j,hj,_,rfl⟩:=EY h hi y;have:j=m:=C2 fun hne=>On h.2 hj hm hne he;grind
theorem Zcg{i k:Nat}(h:Xk l)(j:1≤r)(hi:i<l.length)(hk:k<l.length)(d:(i+1) % l.length=k)(g:k≠i):l[k]∈Wy (RH l r i l[i]):=by
 refine Zog h hi hk g (C5 _ ?_);have h1:=Ex (k:=0) hi (by rcases EL hi with⟨g1,_⟩|⟨g1,g2⟩ <;> omega);rw[d,A7 hk]at h1;have h2:((Wf l i).take r)[0]?=some l[k]:=by rw[List.getElem?_take_of_lt jD];exact h1
 grind
theorem Zrd{i:Nat}(h:Xk l)(D:1≤r)(hi:i<l.length){x:Plc}(O:(WV (RH l r i l[i]) x).2=false):∃ j,∃ hj:j<l.length,j≠i∧YJ (RH l r i l[i]) x []=(l[j],true)∧Uh l[i].id l[j].id x ∧
 ∀ m (hm:m<l.length),m≠i→l[m]∈Wy (RH l r i l[i])→Uh l[i].id l[m].id x→¬Uh l[j].id l[m].id x:=by
 obtain⟨k,hk⟩:∃ k,(i+1) % l.length=k:=⟨_,rfl⟩
 have d:k<l.length:=by rw[← hk];exact G5 _ jD
 have g:¬RL l[i].id x l[k].id:=by
  have h9:=of_decide_eq_false O;rw[Mx D hi d hk]at h9;exact h9
 obtain⟨hne,hop⟩:=Zgv h.2 hi d hk g;have F:=CP (t:=RH l r i l[i]) (id:=x) (avoid:=[]);have v:=Zcg h D hi d hk hne;have L:Ci (RH l r i l[i]).self x [] l[k]:=⟨hop,by simp⟩
 cases hf:(YJ (RH l r i l[i]) x []).2 with
 | false=>exact((F.no hf).2 _ v L).elim
 | true =>
  obtain⟨g1,g2,g3⟩:=F.yes hf;obtain⟨j,hj,y,e⟩:=EY h hi g1;rw[e]at g2 g3;exact⟨j,hj,y,Prod.ext e hf,g2.1,fun m hm K B C=>g3 _ B ⟨C,by simp⟩⟩
theorem Zbu{a q y x:Plc}(h1:Uh a q x)(h2:Uh q y x):Uh a y x:=by
 rw[Zgn]at *;have d:=Ux a q;have j:=Ux a x;have g:=Ux q y;have B:=Ux q x;have v:=Ux a y;omega
theorem GB{α:Type}{p q:α→Bool}:∀{l:List α},(∀ y∈l,p y=true→q y=true)→(∃ y∈l,q y=true∧p y=false)→l.countP p<l.countP q
 | [],_,⟨y,d,_⟩=>by cases d
 | z::l,h,⟨y,d,h1,h2⟩=>by
  have g:=h z (.head _);rw[List.countP_cons,List.countP_cons];rcases B7.1 d with rfl|d
  ·rw[h1,h2];have:l.countP p≤l.countP q:=List.countP_mono_left fun y d=>h y (.tail _ d);simp;omega
  have:=GB (l:=l) (fun y d=>h y (.tail _ d)) ⟨y,d,h1,h2⟩;cases hp:p z with
  | true=>rw[g hp];simpa using this
  | false=>simp;omega
def ahead(l:List Zr)(a x:Plc):Nat:=l.countP fun p=>decide (Uh a p.id x)
theorem Zpt{i:Nat}(hi:i<l.length){x:Plc}:ahead l l[i].id x<l.length:=by
 have:=GB (l:=l) (p:=fun p=>decide (Uh l[i].id p.id x)) (q:=fun _=>true) (fun _ _ _=>rfl) ⟨l[i],C1 hi,rfl,decide_eq_false fun h=>h.1 rfl⟩;rw[List.countP_true]at this;exact this
theorem Zdr{j:Nat}(hj:j<l.length){a x:Plc}(h:Uh a l[j].id x):ahead l l[j].id x<ahead l a x :=
 GB (fun y _ d=>decide_eq_true (Zbu h (of_decide_eq_true d))) ⟨l[j],C1 hj,decide_eq_true h,decide_eq_false fun h=>h.1 rfl⟩
end
end Go.Esp
namespace Go.Esp
theorem Mn{pn:Int→Zr}{r:Rg}(g:∀ a,(pn a).addr=a)(hs:∀ p∈r.nodes,p.2.table.self=pn p.1)(h:XQ pn r=true):
 Xk (Wr pn r)∧∀ i (hi:i<(Wr pn r).length),∃ n,YC ((Wr pn r)[i]).addr r.nodes=some n∧n.joined=true∧n.table=RH (Wr pn r) r.copies.toNat i (Wr pn r)[i]:=by
 unfold XQ at h;rw[F1,decide_eq_true_eq,E7]at h;refine⟨h.1,fun i hi=>?_⟩;have v:i<(Nb (Wr pn r) r.copies.toNat).length:=by rw[Tp];exact hi
 have h1:=h.2 _ (C1 v);rw[MM hi]at h1;unfold SG at h1;have ha:(RH (Wr pn r) r.copies.toNat i (Wr pn r)[i]).self.addr=((Wr pn r)[i]).addr:=rfl;rw[ha]at h1;cases hg:YC ((Wr pn r)[i]).addr r.nodes with
 | none=>rw[hg]at h1;cases h1
 | some n =>
  rw[hg]at h1;obtain⟨g1,g2,g3,g4⟩:=Ki.1 h1;refine⟨n,rfl,g1,?_⟩;have d:n.table.self=(Wr pn r)[i]:=by
   rw[hs _ (TW hg)];have hm:=(RP ((XW r).map pn)).mem_iff.1 (C1 hi);obtain⟨a,_,e⟩:=C0.1 hm;have j:pn a=(Wr pn r)[i]:=e;rw[← j,g]
  have:n.table=⟨n.table.self,n.table.pred,n.table.succ,n.table.fingers⟩:=rfl;rw[this,d,g2,g3,g4];rfl
theorem Pi{pn:Int→Zr}(d:∀ a,(pn a).addr=a)(r:Rg):((Wr pn r).map Zr.addr).Perm (XW r):=by
 have h:=(RP ((XW r).map pn)).map Zr.addr;rw[I2]at h;have e:(Zr.addr ∘ pn)=id:=by funext a;exact d a
 rw[e,List.map_id]at h;exact h
end Go.Esp
namespace Go.Esp
theorem Zbk{l:List Zr}{i:Nat}(hi:i<l.length)(h2:2≤l.length):∃(j:Nat) (hj:j<l.length) (t:List Zr),j≠i∧Wf l i=l[j]::t∧Wf l j=t++[l[i]]:=by
 by_cases h:i+1<l.length
 ·refine⟨i+1,h,l.drop (i+1+1)++l.take i,by omega,?_,?_⟩
  ·unfold Wf;rw[G4 h];rfl
  unfold Wf;simp
 have e:i+1=l.length:=by omega
 refine⟨0,by omega,(l.drop 1).take (i-1),by omega,?_,?_⟩
 ·unfold Wf;have h0:l=l[0]::l.drop 1:=by
   have:=G4 (l:=l) (i:=0) jD;simpa using this
  obtain⟨k,rfl⟩:∃ k,i=k+1:=⟨i-1,by omega⟩
  grind
 unfold Wf;have hk:(l.drop 1).length=i-1+1:=by rw[F3];omega
 have h1:(l.drop 1).take (i-1+1)=l.drop 1:=H5 jD
 conv=>lhs;rw[← h1]
 rw[List.take_succ_eq_append_getElem jD];grind
theorem JN{s p:Zr}{r:Nat}(j:¬Ys s p):∀(t acc:List Zr) (m:Nat),(∀ q∈t,Ys s q)→(∀ q∈t,¬PQ acc q.addr)→(t.map Zr.addr).Nodup→acc.length≤r→r≤m+acc.length →
 Wk s r acc ((t++[p]).take m)=(acc++t).take r
 | [],acc,m,_,_,_,h1,h2=>by
  rw[E0,H5 h1];cases m with
  | zero=>rw[List.take_zero];unfold Wk;rfl
  | succ m =>
   show Wk s r acc (([p]:List Zr).take (m+1))=acc;rw[H5 jQ];unfold Wk;rw[A6 (.inl j)]
 | q::t,acc,0,_,_,_,h1,h2=>by
  rw[List.take_zero];unfold Wk;rw[List.take_append_of_le_length jD,H5 h1]
 | q::t,acc,m+1,hq,hh,hn,h1,h2=>by
  have d:=D9.1 hn;show Wk s r acc (q::(t++[p]).take m)=_;unfold Wk;by_cases e:acc.length=r
  ·rw[A6 (.inr jD),List.take_append_of_le_length jD,H5 h1]
  rw[A4 (fun h=>h.elim (fun h=>h (hq q B1)) fun h=>e jD),A4 (hh q B1)];rw[JN j t (acc++[q]) m (fun z g=>hq z (B2 _ g)) (fun z g=>?_) d.2 (by rw[B3];show acc.length+1≤r;omega) (by rw[B3];show r≤m+(acc.length+1);omega)]
  ·rw[B5];rfl
  intro h9;unfold PQ at h9;rw[C6]at h9;rcases B8.1 h9 with h9|h9
  ·exact hh z (B2 _ g) h9
  have v:z.addr=q.addr:=by simpa using h9
  exact d.1 (v ▸ G8 g)
theorem Zkr{l:List Zr}{i r:Nat}(h:Xk l)(hi:i<l.length)(h2:2≤l.length)(F:1≤r):
 ∃(j:Nat) (hj:j<l.length),j≠i∧Yv (RH l r i l[i])=l[j]∧(RH l r i l[i]).succ≠[]∧(RH l r j l[j]).pred=l[i]∧Wk l[i] r [l[j]] (RH l r j l[j]).succ=(RH l r i l[i]).succ:=by
 obtain⟨j,hj,t,g,B,K⟩:=Zbk hi h2;have hs:(RH l r i l[i]).succ=(l[j]::t).take r:=by
  show(Wf l i).take r=_;rw[B]
 have d:(RH l r i l[i]).succ=l[j]::t.take (r-1):=by
  rw[hs];obtain⟨q,rfl⟩:∃ q,r=q+1:=⟨r-1,by omega⟩
  rfl
 have C:((Wf l i).map Zr.addr).Nodup:=LG h.2.2.1;rw[B,D3]at C;have y:=D9.1 C;have L:∀ q∈t,Ys l[i] q:=fun q D=>by
  obtain⟨k,hk,v,rfl⟩:=RR hi (p:=q) (by rw[B];exact B2 _ D);exact Rc h.2 hi hk v
 refine⟨j,hj,g,?_,?_,?_,?_⟩
 ·unfold Yv;rw[d];rfl
 ·grind
 ·show(Wf l j).getLastD Yj=_;grind
 rw[hs];show Wk l[i] r [l[j]] ((Wf l j).take r)=_;rw[K];refine JN (fun q=>q.2.1 rfl) t [l[j]] r L (fun q D h9=>?_) y.2 F (by show r≤r+1;omega);have:q.addr=l[j].addr:=by simpa[PQ]using h9
 grind
theorem MI{l:List Zr}{i r:Nat}(hi:i<l.length):GoodT (fun p=>p∈l) (RH l r i l[i]):=by
 have hm:∀ p∈Wf l i,p∈l:=fun p d=>by
  obtain⟨j,hj,-,rfl⟩:=RR hi d;exact C1 hj
 refine⟨C1 hi,fun d=>?_,fun p d=>hm p (F9 d),fun p d g=>?_⟩
 ·show(Wf l i).getLastD Yj∈l;have d:(Wf l i).getLastD Yj≠Yj:=d;grind
 obtain⟨k,_,rfl⟩:=C0.1 d;unfold MN at g ⊢;grind
section
variable {pn:Int→Zr} {were:List Int} {ns:List (Int×Nd)} {a b c k x X:Int} {n m:Nd} {l:List Zr} {r:Nat}
structure Idl (pn:Int→Zr) (were:List Int) (l:List Zr) (r:Nat) (ns:List (Int×Nd)):Prop where
  wn:WN pn were ns
  circ:Xk l
  rr:1≤r∧r≤8
  all:∀ i (hi:i<l.length),∃ m,YC l[i].addr ns=some m
  one:∀ z m,YC z ns=some m→m.copies=r∧∃ i,∃ hi:i<l.length,z=l[i].addr∧m.table=RH l r i l[i]
  j:Joined ns
  d:AllDead ns
  av:∀ z m,YC z ns=some m→m.findTo=-1∨∀ y∈m.avoid,YC y ns=none
theorem Idl.free(h:Idl pn were l r ns)(d:YC a ns=some n)(hx:YC x ns=none):GoodT (fun p=>p.addr≠x) n.table:=by
 obtain⟨-,i,hi,-,e⟩:=h.one a n d;rw[e];refine(MI hi).mono fun p g e=>?_;obtain⟨k,hk,rfl⟩:=E2 g;obtain⟨m,hm⟩:=h.all k hk;grind
theorem Idl.forget(h:Idl pn were l r ns)(d:YC a ns=some n)(hx:YC x ns=none)(h1:x≠-1):Xd n.table x=n.table:=Jw (h.free d hx) h1
theorem Idl.unping(h:Idl pn were l r ns)(g:YC a ns=some n):(unping n).table=n.table:=by
 unfold Go.Esp.unping;split
 ·rename_i e;exact h.forget g (h.d a n g).2.1 e
 rfl
theorem Idl.unask(h:Idl pn were l r ns)(g:YC a ns=some n):(unask n).table=n.table:=by
 unfold Go.Esp.unask;split
 ·rename_i e;exact h.forget g (h.d a n g).1 e
 rfl
theorem Idl.unfind(h:Idl pn were l r ns)(g:YC a ns=some n):(unfind n).table=n.table:=by
 unfold Go.Esp.unfind;split
 ·rfl
 rename_i e;exact h.forget g (h.d a n g).2.2 e
theorem Idl.put(h:Idl pn were l r ns){g:List (Int×Nd)}(hw:WN pn were g)(he:g.map (·.1)=ns.map (·.1))(K:Joined g)(C:AllDead g)
 (B:∀ z m1,YC z g=some m1→∃ m,YC z ns=some m∧m1.table=m.table∧m1.copies=m.copies∧(m1.findTo=-1∨∀ y∈m1.avoid,YC y ns=none)):Idl pn were l r g where
 wn:=hw
 circ:=h.circ
 rr:=h.rr
 all:=fun i hi=>by
  obtain⟨m,hm⟩:=h.all i hi;exact Xc he.symm hm
 one:=fun z m1 v=>by
  obtain⟨m,hm,O,L,-⟩:=B z m1 v;rw[O,L];exact h.one z m hm
 j:=K
 d:=C
 av:=fun z m1 v=>by
  obtain⟨m,hm,-,-,D⟩:=B z m1 v;exact D.imp_right fun q y F=>(VF he).2 (q y F)
theorem Idl.t3(h:Idl pn were l r ns):Idl pn were l r (T3 x ns):=by
 refine h.put (h.wn.t3 x).1 (h.wn.t3 x).2 (h.j.kept (NK h.wn) (h.wn.t3 x).2) (h.d.t3 h.wn) fun z m1 g=>?_;obtain⟨m,hm⟩:=Xc (h.wn.t3 x).2 g;refine⟨m,hm,?_⟩;by_cases e:z=x
 ·subst e;rw[QK h.wn hm]at g;rw[← A5 g];refine⟨by rw[JI];exact h.unping hm,?_⟩;obtain⟨t,p,r,q,u,v,-⟩:=Rk (fun x=>(YC x ns).isSome) m;rw[v];exact⟨rfl,h.av z m hm⟩
 rw[GT h.wn e]at g;rw[← A5 (hm.symm.trans g)];exact⟨rfl,rfl,h.av z m hm⟩
theorem Zcb{t:Tb}{p:Zr}(h:t.pred=p):WO t p=t:=by
 subst h;unfold WO;simp
theorem Zmh(n:Nd):(unask n).copies=n.copies∧(unask n).joined=n.joined:=by
 obtain⟨t,e⟩:=KB n;grind
theorem Idl.ask(h:Idl pn were l r ns)(L:YC a ns=some n):(Rl n ns).table=n.table∧∀ y,SJ n ns=some y→∃ q,YC y ns=some q∧q.table.pred=n.table.self:=by
 obtain⟨hc,i,hi,ea,v⟩:=h.one a n L;have hu:=h.unask L;have hs:n.table.self=l[i]:=by rw[v];rfl
 have hN:=LY (h.wn.get L).1 (h.wn.get L).2.2;by_cases h2:2≤l.length
 ·obtain⟨j,hj,V,e1,e2,e3,e4⟩:=Zkr h.circ hi h2 h.rr.1;have d:ready n=Go.Esp.unask n:=by
   unfold ready;rw[A4 (fun q=>e2 (by rw[← v,← hu];exact q.1))]
  have hne:(ready n).table.succ≠[]:=by rw[d,hu,v];exact e2
  have hf:Yv (ready n).table=l[j]:=by rw[d,hu,v];exact e1
  obtain⟨y,B⟩:=h.all j hj;obtain⟨-,i2,aa,ey,g⟩:=h.one _ y B;have U:i2=j:=by
   refine C2 fun q=>?_;have:=Rc h.circ.2 aa hj (fun e=>q e.symm);exact this.2.1 ey
  subst U;have O:y.table.self=l[i2]:=by rw[g];rfl
  have F:Vg ns l[i2].addr=some y:=by unfold Vg;rw[B];simp[h.j _ y B]
  have D:Ys n.table.self l[i2]:=by rw[hs];exact Rc h.circ.2 hi hj V
  have hm:Ui (SO (ready n) l[i2].addr):=TP (d ▸ hN.1) (by rw[d,hN.2.1];exact QG D.1 D.2.1);have key:∀ q,(TU (SO (ready n) l[i2].addr) (tells y q)).table=n.table:=by
   intro q;have hq:Ui { SO (ready n) l[i2].addr with askTo:=-1 }:=TP (q:=(SO (ready n) l[i2].addr).req) (r:=(SO (ready n) l[i2].addr).askReq) hm (VP hm.1.1);have C:(ready n).table=n.table:=by rw[d,hu]
   have Z:(ready n).copies=r:=by rw[d,(Zmh n).1,hc]
   unfold TU;have ae:(tells y q).frm=l[i2]:=O;rw[ae,OX hq (by show Ys (ready n).table.self l[i2];rw[C];exact D)];have T:(tells y q).peer=l[i]:=by show y.table.pred=l[i];rw[g];exact e3
   rw[A4 (fun ab=>ab.1.2.1 (by rw[T];show l[i].addr=(ready n).table.self.addr;rw[C,hs]))];show Tb.mk (ready n).table.self (ready n).table.pred (Wk (ready n).table.self (ready n).copies [l[i2]] y.table.succ) (ready n).table.fingers=n.table;rw[C,Z,hs,g,e4,v];rfl
  have hk:Rl n ns=TU (SO (ready n) l[i2].addr) (tells y (nxR (ready n).req)):=by
   unfold Rl;rw[A4 hne,hf,F]
  refine⟨by rw[hk];exact key _,fun z K=>?_⟩;unfold SJ at K;rw[A4 hne,hf,F]at K;rw[hk,key,v,e1]at K;rw[← A5 K];exact⟨y,B,by rw[g,e3,hs]⟩
 have h0:Wf l i=[]:=by
  have:=QW hi;exact List.length_eq_zero_iff.1 jD
 have R:n.table.succ=[]:=by rw[v];show(Wf l i).take r=[];rw[h0,List.take_nil]
 have ad:n.table.pred=Yj:=by rw[v];show(Wf l i).getLastD Yj=Yj;rw[h0];rfl
 have d:ready n=Go.Esp.unask n:=by
  unfold ready;rw[A4 (fun q=>q.2 (by rw[hu];exact ad))]
 have h1:(ready n).table.succ=[]:=by rw[d,hu];exact R
 constructor
 ·unfold Rl;rw[A6 h1,d,hu]
 intro y B;unfold SJ at B;rw[A6 h1]at B;cases B
theorem Idl.t1_by(h:Idl pn were l r ns){z:Int}(C:z≠x):YC z (T1 x ns)=YC z ns:=by
 unfold T1;cases hn:YC x ns with
 | none=>rfl
 | some n =>
  have hj:=h.j x n hn;show YC z (if n.joined=true then DO x n ns else WM x (UJ ns n) ns)=_;rw[A6 hj,GH];have hk:=JK (G:=InW pn were) h.wn hn (h.wn.get hn).2.2 fun y v=>(h.wn.get (Uo v).1).2.2;have K:WN pn were (WM x (Rl n ns) ns):=h.wn.put hn hk.1 hk.2.1 hk.2.2.1;cases ht:SJ n ns with
  | none =>
   rw[Vh h.wn,A4 C]
  | some y =>
   show YC z (Ti n.table.self y (WM x (Rl n ns) ns))=_;obtain⟨q,B,D⟩:=(h.ask hn).2 y ht;obtain⟨v,F⟩:=hk.2.2.2 y ht;have g:y≠x:=fun e=>F.2.1 (by rw[← v,e,h.wn.self hn]);have d:YC y (WM x (Rl n ns) ns)=some q:=by rw[Vh h.wn,A4 g,B]
   unfold Ti;rw[d];show YC z (WM y { q with table:=WO q.table n.table.self } (WM x (Rl n ns) ns))=_;rw[Zcb D,Vh K];by_cases e:z=y
   ·rw[A6 e,e,B]
   rw[A4 e,Vh h.wn,A4 C]
theorem Idl.t1(h:Idl pn were l r ns):Idl pn were l r (T1 x ns):=by
 refine h.put (h.wn.t1 x).1 (h.wn.t1 x).2 (h.j.kept (PI h.wn) (h.wn.t1 x).2) (h.d.t1 h.wn h.j) fun z m1 g=>?_;obtain⟨m,hm⟩:=Xc (h.wn.t1 x).2 g;refine⟨m,hm,?_⟩;by_cases e:z=x
 ·subst e;have g1:=RK h.wn hm;rw[A6 (h.j z m hm),g]at g1;have B:=A5 g1;rw[B];refine⟨(h.ask hm).1,?_⟩;obtain⟨t,q,y,u,v,-⟩:=NG m ns;rw[v];exact⟨rfl,h.av z m hm⟩
 rw[h.t1_by e,hm]at g;rw[← A5 g];exact⟨rfl,rfl,h.av z m hm⟩
end
theorem Zqp{S x t:Plc}:D x t=if D S x≤D S t then D S t-D S x else 2 ^ 160+D S t-D S x:=by
 have h1:=Ux S x;have h2:=Ux S t;have h3:=Ux x t;have g:=x.isLt;have d:=t.isLt;grind
theorem Zyn{S p:Plc}:D S (S+p)=p.toNat:=by
 unfold D;rw[show S+p-S=p by rw[BitVec.add_comm,BitVec.add_sub_cancel]]
theorem Ybc{S x t:Plc}(h:D S x=D S t):x=t:=by
 have h1:=Ux S x;have h2:=Ux S t;exact J5 jD
theorem Zko{l:List Zr}(h:Uv l){i k j o:Nat}(hi:i<l.length)(hk:k≤j)(hj:j<160)(B:o<l.length)(g:Ve l (l[i].id+To k)=o)(ha:RL l[i].id (l[i].id+To j) l[o].id):
 Ve l (l[i].id+To j)=o:=by
 obtain⟨o',y⟩:∃ o',Ve l (l[i].id+To j)=o':=⟨_,rfl⟩
 have d:o'<l.length:=y ▸ Ua jD;rw[y];refine C2 fun hne=>?_;have m1:=EF h B g d;have m2:=EF h d y B;have hid:=Br h d B hne;have C:D l[i].id (l[i].id+To k)=2 ^ k:=by rw[Zyn,HT jD]
 have v:D l[i].id (l[i].id+To j)=2 ^ j:=by rw[Zyn,HT hj]
 have K:2 ^ k≤2 ^ j:=Nat.pow_le_pow_right jM hk;have O:2 ^ j<2 ^ 160:=Nat.pow_lt_pow_right jM hj;rw[Zqp (S:=l[i].id) (x:=l[i].id+To k) (t:=l[o].id),Zqp (S:=l[i].id) (x:=l[i].id+To k) (t:=l[o'].id),C]at m1;rw[Zqp (S:=l[i].id) (x:=l[i].id+To j) (t:=l[o].id),Zqp (S:=l[i].id) (x:=l[i].id+To j) (t:=l[o'].id),v]at m2;have R:D l[i].id l[o].id≠D l[i].id l[o'].id:=fun e=>hid (Ybc e).symm;have T:=Ux l[i].id l[o].id;have U:=Ux l[i].id l[o'].id;have L:=(l[o].id).isLt;have F:=(l[o'].id).isLt;have V:D l[i].id l[o].id=0∨2 ^ j≤D l[i].id l[o].id:=by
  rcases Zim.1 ha with e|⟨-,e|e⟩
  ·right;rw[← v,J5 e];exact B9 _
  ·left;omega
  right;rw[v]at e;omega
 grind
theorem Zhe{α:Type}{F:List α}{k e:Nat}{v:α}(d:k≤e)(he:e≤F.length)(h:∀ m (hm:m<F.length),k≤m→m<e→F[m]=v):F.take k++List.replicate (e-k) v++F.drop e=F:=by
 refine J4 jU fun m h1 h2=>?_;by_cases c1:m<k
 ·grind
 by_cases c2:m<e
 ·grind
 rw[List.getElem_append_right jU,List.getElem_drop];grind
theorem Iz{l:List Zr}(h:Uv l){i k o:Nat}(hi:i<l.length)(g:o<l.length)(d:Ve l (l[i].id+To k)=o)(t:Tb)(ht:t.self=l[i]):MN l i l[i] k=Tt t l[o]:=by
 unfold MN Tt;rw[d,ht];by_cases e:o=i
 ·grind
 rw[A4 e,A4 (fun q=>On h g hi e (A9 Zr.addr q)),A7 g];rfl
theorem EC{l:List Zr}{i r o:Nat}(h:Xk l)(B:r≤8)(hi:i<l.length){k:Int}(hk:0≤k∧k<160)(j:o<l.length)(d:Ve l (l[i].id+To k.toNat)=o):
 (WF (RH l r i l[i]) k l[o]).1=RH l r i l[i]∧(WF (RH l r i l[i]) k l[o]).2.2=0:=by
 have C:TG (RH l r i l[i])∧(0≤k∧k<160)∧(l[o]=(RH l r i l[i]).self∨Ys (RH l r i l[i]).self l[o]):=by
  refine⟨Iy h hi B,hk,?_⟩;by_cases e:o=i
  ·subst e;exact .inl rfl
  exact .inr (Rc h.2 hi j e)
 unfold WF;rw[A6 C];obtain⟨n,y⟩:∃ n,k.toNat=n:=⟨_,rfl⟩
 have v:n<160:=by omega
 rw[y]at d;simp only[y];have hs:(RH l r i l[i]).self=l[i]:=rfl;have D:(RH l r i l[i]).fingers=(List.range 160).map (MN l i l[i]):=rfl;obtain⟨g1,g2⟩:=KS (s:=l[i]) (p:=l[o]) v;refine⟨?_,trivial⟩;rw[hs,D];have key:((List.range 160).map (MN l i l[i])).take n++List.replicate (WA l[i] l[o] n n (160-n)-n) (Tt (RH l r i l[i]) l[o])++((List.range 160).map (MN l i l[i])).drop (WA l[i] l[o] n n (160-n))=(List.range 160).map (MN l i l[i]):=by
  refine Zhe jD jU fun m hm h1 h2=>?_;rw[I7,List.getElem_range];have g:m<160:=by omega
  by_cases e:m=n
  ·subst e;exact Iz h.2 hi j d _ rfl
  have ha:=KR m jD h1 h2;exact Iz h.2 hi j (Zko h.2 hi h1 g j d (of_decide_eq_true ha)) _ rfl
 rw[key];rfl
theorem Zgx{t:Tb}{x:Plc}{av:List Int}(h:∀ p∈Wy t,p.addr∉av):YJ t x av=YJ t x []:=by
 unfold YJ;have key:∀(L:List Zr) (b:Zr×Bool),(∀ p∈L,p.addr∉av)→L.foldl (Vb t.self x av) b=L.foldl (Vb t.self x []) b:=by
  intro L
  induction L with
  | nil=>intro b _;rfl
  | cons p L ih =>
   intro b d;rw[G6,G6];have e:Vb t.self x av b p=Vb t.self x [] b p:=by
    have j:=d p B1;unfold Vb;simp[j]
   rw[e];exact ih _ fun q g=>d q (B2 _ g)
 grind
section
variable {pn:Int→Zr} {were:List Int} {ns:List (Int×Nd)} {a b c k x X:Int} {n m:Nd} {l:List Zr} {r:Nat}
theorem Idl.known(h:Idl pn were l r ns){i:Nat}(hi:i<l.length){av:List Int}(g:∀ y∈av,YC y ns=none):∀ p∈Wy (RH l r i l[i]),p.addr∉av:=fun p j d=>by
 have v:=Pd (MI (r:=r) hi) p j;obtain⟨k,hk,rfl⟩:=E2 v;obtain⟨m,hm⟩:=h.all k hk;rw[g _ d]at hm;cases hm
theorem Idl.tells(h:Idl pn were l r ns){y:Nd}{z:Int}(K:YC z ns=some y){lt:Lt}(B:∀ q∈lt.avoid,YC q ns=none)(g:(Xq y lt).done=true):
 ∃(C:0<l.length),(Xq y lt).peer=l[Ve l lt.id]'(Ua C):=by
 obtain⟨-,i,hi,-,e⟩:=h.one z y K;have C:0<l.length:=by omega
 rw[Hh g];obtain⟨k,hk⟩:∃ k,(i+1) % l.length=k:=⟨_,rfl⟩
 have d:k<l.length:=by rw[← hk];exact G5 _ jD
 have O:=Mx h.rr.1 hi d hk;have v:(WV y.table lt.id).2=true:=by
  cases hq:(WV y.table lt.id).2 with
  | true=>rfl
  | false =>
   rw[e]at hq;obtain⟨j,hj,-,D,-⟩:=Zrd h.circ h.rr.1 hi hq;have F:=Zgx (x:=lt.id) (h.known hi B);unfold Xq at g;dsimp only at g;rw[e,hq,F,D]at g;cases g
 rw[e]at v ⊢;have L:RL l[i].id lt.id l[k].id:=by
  have h9:=of_decide_eq_true v;rw[O]at h9;exact h9
 have:=Li h.circ.2 hi d hk L;grind
theorem Idl.chase(h:Idl pn were l r ns){i:Nat}(hi:i<l.length):∀(F:Nat) (m:Nd),m.joined=true→m.table=RH l r i l[i]→(0≤m.cursor∧m.cursor<160)→m.findID=l[i].id+To m.cursor.toNat→(∀ q∈m.avoid,YC q ns=none) →
 (XS ns F m).table=RH l r i l[i]
 | 0,m,_,ht,_,_,_=>ht
 | F+1,m,hj,ht,hc,hid,hav=>by
  unfold XS;cases hf:Vz ns m.table.self m.findTo with
  | none=>exact ht
  | some y =>
   obtain⟨L,K,D⟩:=Vi hf;show(match (YF m (Xq y (Xl m))).2 with
    | []=>(YF m (Xq y (Xl m))).1
    | _=>XS ns F (YF m (Xq y (Xl m))).1).table=_
   have d:(Xq y (Xl m)).done=true→(WZ { m with findTo:=-1 } (Xq y (Xl m)).peer).table=RH l r i l[i]:=by
    intro v;obtain⟨j,e⟩:=h.tells L (lt:=Xl m) hav v;have e:(Xq y (Xl m)).peer=l[Ve l m.findID]'(Ua j):=e;have C:=EC (r:=r) h.circ h.rr.2 hi hc (Ua j) (o:=Ve l m.findID) (by rw[hid]);rw[e];unfold WZ;have B:(WF m.table m.cursor (l[Ve l m.findID]'(Ua j))).2.2=0:=by rw[ht];exact C.2
    rw[A6 B];show(WF m.table m.cursor (l[Ve l m.findID]'(Ua j))).1=_;rw[ht];exact C.1
   cases hs:(YF m (Xq y (Xl m))).2 with
   | nil =>
    show(YF m (Xq y (Xl m))).1.table=_;unfold YF;split
    ·exact ht
    split
    ·rename_i v;dsimp only;split
     ·exact d v
     split
     ·rename_i g;rw[hj]at g;exact absurd g.1 jM
     exact ht
    split
    ·exact ht
    exact ht
   | cons z zs =>
    show(XS ns F (YF m (Xq y (Xl m))).1).table=_;have h1:m.findTo=(Xq y (Xl m)).frm.addr:=by
     refine C2 fun q=>?_;have:YF m (Xq y (Xl m))=(m,[]):=by unfold YF;rw[A6 (.inl q)]
     rw[this]at hs;cases hs
    rcases Pe (n:=m) (l:=Xq y (Xl m)) h1 rfl with e|⟨e,-,-,-,-⟩
    ·rw[hs]at e;cases e
    rw[e];exact h.chase hi F _ hj ht hc hid hav
theorem Ab{n:Nd}{z q:Int}(h:q∈(Uf n z).avoid):q∈n.avoid∨q=z:=by
 unfold Uf at h;grind
theorem Idl.avoid(h:Idl pn were l r ns)(j:YC a ns=some n):∀ q∈(Go.Esp.unfind n).avoid,YC q ns=none:=by
 intro q g;unfold Go.Esp.unfind at g;by_cases e:n.findTo=-1
 ·grind
 rw[A4 e]at g;rcases Ab (n:=n) (z:=n.findTo) g with h1|h1
 ·exact((h.av a n j).resolve_left e) q h1
 rw[h1];exact(h.d a n j).2.2
theorem Idl.fix(h:Idl pn were l r ns)(v:YC a ns=some n):(OR ns n).table=n.table:=by
 obtain⟨L,i,hi,O,y⟩:=h.one a n v;have hu:=h.unfind v;have hj:=h.j a n v;have d:(Go.Esp.unfind n).cursor=n.cursor∧(Go.Esp.unfind n).joined=n.joined:=by
  obtain⟨t,e⟩:=QT n;rw[e];exact⟨rfl,rfl⟩
 have B:=(h.wn.get v).1.2.2.2.1;have hid:TX (Go.Esp.unfind n)=l[i].id+To n.cursor.toNat:=by
  unfold TX;rw[hu,y,d.1];rfl
 unfold OR;rw[A4 zN,hid,hu,y];split
 ·rename_i C;obtain⟨k,hk⟩:∃ k,(i+1) % l.length=k:=⟨_,rfl⟩
  have g:k<l.length:=by rw[← hk];exact G5 _ jD
  have F:=Mx h.rr.1 hi g hk;have D:RL l[i].id (l[i].id+To n.cursor.toNat) l[k].id:=by
   have h9:=of_decide_eq_true C;rw[F]at h9;exact h9
  have K:=Li h.circ.2 hi g hk D;have R:=EC (r:=r) h.circ h.rr.2 hi ⟨B.1,by omega⟩ g K;show(WZ (Go.Esp.unfind n) (Yv (RH l r i l[i]))).table=_;unfold WZ;grind
 split
 ·grind
 exact h.chase hi 33 _ (d.2.trans hj) (hu.trans y) (by show 0≤(Go.Esp.unfind n).cursor∧(Go.Esp.unfind n).cursor<160;rw[d.1];omega) (by show _=l[i].id+To (Go.Esp.unfind n).cursor.toNat;rw[d.1];rfl) (h.avoid v)
theorem Idl.t2(h:Idl pn were l r ns):Idl pn were l r (T2 x ns):=by
 refine h.put (h.wn.t2 x).1 (h.wn.t2 x).2 (h.j.kept (NL h.wn) (h.wn.t2 x).2) (h.d.t2 h.wn h.j) fun z m1 g=>?_;obtain⟨m,hm⟩:=Xc (h.wn.t2 x).2 g;refine⟨m,hm,?_⟩;by_cases e:z=x
 ·subst e;rw[RA h.wn hm]at g;rw[← A5 g];refine⟨h.fix hm,?_⟩;obtain⟨t,B,q,f,u,id,y,v,-⟩:=Lf (G:=InW pn were) h.wn hm (h.j z m hm) (h.wn.get hm).2.2 fun s b x hx=>(h.wn.get (Vi hx).1).2.2;rw[v];exact⟨rfl,.inr (h.avoid hm)⟩
 rw[Ow h.wn e]at g;rw[← A5 (hm.symm.trans g)];exact⟨rfl,rfl,h.av z m hm⟩
theorem Idl.go:∀(L:List Int) {ns:List (Int×Nd)},Idl pn were l r ns→Idl pn were l r (goQ L ns)
 | [],_,h=>h
 | a::L,_,h=>Idl.go L h.t1.t3.t2
theorem Idl.round(h:Idl pn were l r ns):Idl pn were l r (Xt ns):=Idl.go _ h
end
end Go.Esp
namespace Go.Esp
section
variable {pn:Int→Zr} {were:List Int} {ns:List (Int×Nd)} {a b c k x X:Int} {n m:Nd} {bag:List Ml}
theorem Idl.of_ideal(hw:WN pn were ns)(hi:XQ pn ⟨c,k,ns,bag⟩=true)(F:1≤c∧c≤8)(v:∀ z m,YC z ns=some m→m.copies=c)(D:AllDead ns)(B:∀ z m,YC z ns=some m→m.findTo=-1∨∀ y∈m.avoid,YC y ns=none):
    Idl pn were (Wr pn ⟨c,k,ns,bag⟩) c.toNat ns:=by
  have h:=Mn hw.at' (fun p C=>(hw.nd p C).2.1) hi
  have key:∀ z m,YC z ns=some m→∃ i,∃ hi:i<(Wr pn ⟨c,k,ns,bag⟩).length,z=((Wr pn ⟨c,k,ns,bag⟩)[i]).addr:=by
    intro z m g
    have h1:z∈XW ⟨c,k,ns,bag⟩:=by
      exact C0.2 ⟨(z,m),TW g,rfl⟩
    have h2:=(Pi hw.at' ⟨c,k,ns,bag⟩).mem_iff.2 h1
    obtain⟨p,C,rfl⟩:=C0.1 h2
    obtain⟨i,hi,rfl⟩:=E2 C
    exact⟨i,hi,rfl⟩
  have at_:∀ z m,YC z ns=some m→m.joined=true∧∃ i,∃ hi:i<(Wr pn ⟨c,k,ns,bag⟩).length,z=((Wr pn ⟨c,k,ns,bag⟩)[i]).addr∧m.table=RH (Wr pn ⟨c,k,ns,bag⟩) c.toNat i (Wr pn ⟨c,k,ns,bag⟩)[i]:=by
    intro z m g
    obtain⟨i,hi,e⟩:=key z m g
    obtain⟨n,h1,h2,h3⟩:=h.2 i hi
    rw[← e,g]at h1
    rw[A5 h1]
    exact⟨h2,i,hi,e,h3⟩
  exact { wn:=hw,circ:=h.1,rr:=by omega
          all:=fun i hi=>by obtain⟨n,h1,-,-⟩:=h.2 i hi;exact⟨n,h1⟩
          one:=fun z m g=>⟨by rw[v z m g];omega,(at_ z m g).2⟩
          j:=fun z m g=>(at_ z m g).1
          d:=D,av:=B }
theorem Idl.ideal(h:Idl pn were (Wr pn ⟨c,k,ns,bag⟩) c.toNat ns):XQ pn ⟨c,k,ns,bag⟩=true:=by
 refine Dl rfl h.circ fun j hj=>?_;have d:j<(Wr pn ⟨c,k,ns,bag⟩).length:=by rw[Tp]at hj;exact hj
 have e:(Nb (Wr pn ⟨c,k,ns,bag⟩) c.toNat)[j]=RH (Wr pn ⟨c,k,ns,bag⟩) c.toNat j (Wr pn ⟨c,k,ns,bag⟩)[j]:=MM d;rw[e];obtain⟨m,hm⟩:=h.all j d;rw[Ztc (n:=m) hm,Ki];obtain⟨-,i,hi,y,v⟩:=h.one _ m hm;have g:i=j:=C2 fun q=>On h.circ.2 hi d q y.symm;subst g;rw[v];exact⟨h.j _ m hm,rfl,rfl,rfl⟩
end
end Go.Esp
namespace Go.Esp
section
variable {pn:Int→Zr} {were:List Int} {ns:List (Int×Nd)} {a b c k x X:Int} {n m:Nd} {bag:List Ml}
def Zlp(c:Int)(n:Nd):Prop:=n.copies=c∧(n.joined=false→n.askTo=-1)
def AllKind(c:Int)(ns:List (Int×Nd)):Prop:=∀ z m,YC z ns=some m→Zlp c m
theorem LJ(n:Nd)(l:Lt):(YF n l).1.copies=n.copies:=by
 unfold YF;split
 ·rfl
 split
 ·dsimp only;split
  ·exact(A9 Nd.copies (Qb { n with findTo:=-1 } l.peer)).trans rfl
  split
  ·exact(A9 Nd.copies (TZ { n with findTo:=-1 } l.peer [])).trans rfl
  rfl
 split <;> rfl
theorem Oo:∀(F:Nat) (n:Nd),(XS ns F n).copies=n.copies
 | 0,n=>rfl
 | F+1,n=>by
  unfold XS;cases hf:Vz ns n.table.self n.findTo with
  | none=>rfl
  | some x =>
   show(match (YF n (Xq x (Xl n))).2 with
    | []=>(YF n (Xq x (Xl n))).1
    | _=>XS ns F (YF n (Xq x (Xl n))).1).copies=_
   split
   ·exact LJ _ _
   exact(Oo F _).trans (LJ _ _)
theorem Zhw(h:Zlp c n)(hj:n.joined=false):Zlp c (UJ ns n):=by
 refine⟨?_,fun _=>Jj.1.trans (h.2 hj)⟩;refine(Oo 33 _).trans ?_;unfold Uj;split
 ·rw[Ka];exact h.1
 exact h.1
theorem LN:∀(F:Nat) (n:Nd),n.joined=true→(XS ns F n).joined=true
 | 0,n,hj=>hj
 | F+1,n,hj=>by
  unfold XS;cases hf:Vz ns n.table.self n.findTo with
  | none=>exact hj
  | some x =>
   show(match (YF n (Xq x (Xl n))).2 with
    | []=>(YF n (Xq x (Xl n))).1
    | _=>XS ns F (YF n (Xq x (Xl n))).1).joined=true
   split
   ·exact(OP _ hj).2
   exact LN F _ (OP _ hj).2
theorem Zpa(h:Zlp c n):Zlp c (OR ns n):=by
 unfold OR;by_cases hj:n.joined=false
 ·grind
 rw[A4 hj];obtain⟨t,g⟩:=QT n;have d:(unfind n).copies=c∧(unfind n).joined=true:=by rw[g];exact⟨h.1,by simpa using hj⟩
 have fin:∀ q:Nd,q.copies=c→q.joined=true→Zlp c q:=fun q h1 h2=>⟨h1,fun h3=>by rw[h2]at h3;cases h3⟩
 split
 ·rw[Qb];exact fin _ d.1 d.2
 split
 ·grind
 exact fin _ ((Oo 33 _).trans d.1) (LN 33 _ d.2)
theorem Zdl(d:Int→Bool)(h:Zlp c n):Zlp c (UH d n):=by
 obtain⟨t,p,r,q,u,e,-⟩:=Rk d n;rw[e];exact h
theorem Zpo(h:Zlp c n)(hj:n.joined=true):Zlp c (Rl n ns):=by
 obtain⟨t,q,y,r,e,-⟩:=NG n ns;rw[e];exact⟨h.1,fun h3=>by rw[show _=true from hj]at h3;cases h3⟩
theorem AllKind.step(hw:WN pn were ns)(h:AllKind c ns):AllKind c (TQ x ns):=fun z m hm=>by
 obtain⟨m0,d⟩:=Xc (hw.step x).2 hm;have h0:=h z m0 d;by_cases e:z=x
 ·subst e;have g1:=RK hw d;have g3:=QK (hw.t1 z).1 g1;have g2:=RA ((hw.t1 z).1.t3 z).1 g3;have hm:YC z (T2 z (T3 z (T1 z ns)))=some m:=hm;rw[hm]at g2;rw[A5 g2];refine Zpa (Zdl _ ?_);by_cases hj:m0.joined=true
  ·rw[A6 hj];exact Zpo h0 hj
  rw[A4 hj];exact Zhw h0 zM
 obtain⟨g,h1,h2⟩:=MF hw e d;rw[hm]at h1;rw[A5 h1,h2];exact h0
theorem AllKind.go:∀(L:List Int) {ns:List (Int×Nd)},WN pn were ns→AllKind c ns→AllKind c (goQ L ns)
 | [],_,_,h=>h
 | a::L,_,hw,h=>AllKind.go L (hw.step a).1 (h.step hw)
theorem AllKind.round(hw:WN pn were ns)(h:AllKind c ns):AllKind c (Xt ns):=h.go _ hw
theorem Nx(hw:WN pn were ns)(hi:XQ pn ⟨c,k,ns,bag⟩=true):AllG (fun p=>∃ m,YC p.addr ns=some m) ns:=by
 have h:=Mn hw.at' (fun p g=>(hw.nd p g).2.1) hi;intro z m v;have h1:z∈XW ⟨c,k,ns,bag⟩:=by
  exact C0.2 ⟨(z,m),TW v,rfl⟩
 have h2:=(Pi hw.at' ⟨c,k,ns,bag⟩).mem_iff.2 h1;obtain⟨p,g,e⟩:=C0.1 h2;obtain⟨i,d,rfl⟩:=E2 g;obtain⟨n,g1,g2,g3⟩:=h.2 i d;rw[e,v]at g1;rw[A5 g1,g3];refine(MI d).mono fun q y=>?_;obtain⟨j,hj,rfl⟩:=E2 y;grind
end
end Go.Esp
namespace Go.Esp
section
variable {pn:Int→Zr} {were:List Int} {ns:List (Int×Nd)} {a b c k x X:Int} {n m:Nd} {G:Zr→Prop} {E:Int→Prop} {Y:Int}
def Lone(E:Int→Prop)(ns:List (Int×Nd)):Prop:=∀ Y m,E Y→YC Y ns=some m→m.joined=false→Oth (fun p=>p.addr≠Y) Y ns
theorem Lone.go(hw:WN pn were ns)(h:Lone E ns)(l:List Int):Lone E (goQ l ns):=fun Y m v hm hj=>by
 have hu:Unj Y (goQ l ns):=fun B d=>by rw[hm]at d;cases d;exact hj
 obtain⟨y,g⟩:=Xc (hw.go l).2 hm;exact Zir (fun p j=>j) l hw hu (h Y y v g ((Le l hw).unj hu y g))
theorem Lone.round(hw:WN pn were ns)(h:Lone E ns):Lone E (Xt ns):=h.go hw _
theorem Lone.late(h:Lone E ns)(hb:Late b ns):¬E b:=fun v=>by
 obtain⟨hu,⟨y,d⟩,g⟩:=hb;exact g _ (fun p j=>j) (h b y v d (hu y d))
def Gone(E:Int→Prop)(ns:List (Int×Nd))(y:Int):Prop:=YC y ns=none∨¬E y
theorem Gone.keys{d:List (Int×Nd)}(he:d.map (·.1)=ns.map (·.1)){y:Int}(h:Gone E ns y):Gone E d y:=h.imp_left (VF he).2
theorem CI(h:WN pn were ns)(v:YC a ns=some n):∃ g j,a∉g∧a∉j∧Xt ns=goQ j (TQ a (goQ g ns)):=by
 have ha:a∈ns.map (·.1):=by
  by_cases e:a∈ns.map (·.1)
  ·exact e
  rw[Wg.2 e]at v;cases v
 obtain⟨g,j,y⟩:=List.append_of_mem ha;have d:(ns.map (·.1)).Nodup:=h.rise.imp fun h=>by omega
 rw[y]at d;refine⟨g,j,fun e=>(H3.1 d).2.2 a e a B1 rfl,(D9.1 (H3.1 d).2.1).1,?_⟩;show goQ (ns.map (·.1)) ns=_;grind
theorem Zix{l:Lt}(hj:n.joined=false)(d:(YF n l).1.joined=true):(YF n l).1.findTo=-1∧(YF n l).1.avoid=[]∧(YF n l).2=[]:=by
 unfold YF at d ⊢;by_cases h1:n.findTo≠l.frm.addr∨n.findReq≠l.req
 ·grind
 rw[A4 h1]at d ⊢;by_cases h2:l.done=true
 ·rw[A6 h2]at d ⊢;by_cases h3:n.joined=true∧(Ys n.table.self l.peer∨l.peer=n.table.self)
  ·grind
  rw[A4 h3]at d ⊢;by_cases h4:n.joined=false∧Ys n.table.self l.peer
  ·rw[A6 h4];refine⟨?_,rfl,rfl⟩;rw[TZ { n with findTo:=-1 } l.peer []]
  grind
 rw[A4 h2]at d ⊢;split at d
 ·grind
 exact absurd (hj.symm.trans d) jM
theorem DI:∀(F:Nat) (n:Nd),n.joined=false→(XS ns F n).joined=true→(XS ns F n).findTo=-1∧(XS ns F n).avoid=[]
 | 0,n,hj,hj2=>absurd (hj.symm.trans hj2) jM
 | F+1,n,hj,hj2=>by
  unfold XS at hj2 ⊢;cases hf:Vz ns n.table.self n.findTo with
  | none=>rw[hf]at hj2;exact absurd (hj.symm.trans hj2) jM
  | some x =>
   rw[hf]at hj2;dsimp only at hj2 ⊢;cases hj3:(YF n (Xq x (Xl n))).1.joined with
   | true =>
    have h:=Zix hj hj3;rw[h.2.2];exact⟨h.1,h.2.1⟩
   | false =>
    cases hs:(YF n (Xq x (Xl n))).2 with
    | nil=>rw[hs]at hj2;exact absurd (hj3.symm.trans hj2) jM
    | cons s l =>
     rw[hs]at hj2;exact DI F _ hj3 hj2
theorem Zol(hj:n.joined=false)(d:(UJ ns n).joined=true):(UJ ns n).findTo=-1∧(UJ ns n).avoid=[]:=by
 refine DI 33 _ ?_ d;unfold Uj;split
 ·rw[Ka];exact hj
 exact hj
theorem Zjg(hj:n.joined=true):(OR ns n).table.succ=(unfind n).table.succ:=by
 unfold OR;rw[A4 zN];split
 ·exact MR _ _
 split
 ·rfl
 rw[Lk]
 ·rfl
 obtain⟨t,d⟩:=QT n;show(unfind n).joined=true;grind
structure Avoids (G:Zr→Prop) (n n':Nd):Prop where
  named:n'.findTo=-1∨∃ p,G p∧p.addr=n'.findTo
  av:n'.avoid=[]∨(n.joined=true∧n.findTo≠-1∧n'.avoid=(Uf n n.findTo).avoid∧∀ p∈n'.table.succ,p.addr≠n.findTo)
theorem Cu(h:WN pn were ns)(hn:YC a ns=some n)(hG:AllG G ns):∃ R,YC a (TQ a ns)=some R∧(R.joined=true→Avoids G n R):=by
 have g1:=RK h hn;have K:=h.t1 a;have g3:=QK K.1 g1;have w3:=K.1.t3 a;have g2:=RA w3.1 g3;have U:AllG G (T3 a (T1 a ns)):=(hG.t1 h).t3 K.1;refine⟨_,g2,fun j=>?_⟩;obtain⟨n1,v⟩:∃ n1,(if n.joined then Rl n ns else UJ ns n)=n1:=⟨_,rfl⟩
 obtain⟨t3,p,r3,q3,u3,B,-⟩:=Rk (fun x=>(YC x (T1 a ns)).isSome) n1;rw[v]at g3 j ⊢;obtain⟨d,O⟩:∃ d,UH (fun x=>(YC x (T1 a ns)).isSome) n1=d:=⟨_,rfl⟩
 rw[O]at g3 j B ⊢;have g:n1.joined=true:=by
  cases g:n1.joined with
  | true=>rfl
  | false =>
   unfold OR at j;rw[A6 (by rw[B];exact g),B]at j;exact absurd (g.symm.trans j) jM
 have C:d.joined=true:=by rw[B];exact g
 obtain⟨t2,cu,q,f,r,id,aa,V,hf⟩:=Lf (G:=G) w3.1 g3 C (U a d g3) fun s b x hx=>U b x (Vi hx).1;refine⟨?_,?_⟩
 ·have e:(OR (T3 a (T1 a ns)) d).findTo=f:=by rw[V]
  rw[e];exact hf.imp_right fun⟨_,_,p,F,_,L⟩=>⟨p,F,L⟩
 have e:(OR (T3 a (T1 a ns)) d).avoid=(unfind d).avoid:=by rw[V]
 rw[e,Zjg C];have y:d.findTo=n1.findTo∧d.avoid=n1.avoid:=by rw[B];exact⟨rfl,rfl⟩
 by_cases hz:d.findTo=-1
 ·left;unfold unfind;rw[A6 hz]
 by_cases hj:n.joined=true
 ·right;rw[A6 hj]at v;obtain⟨t1,q1,x,y1,ea,-⟩:=NG n ns;have D:n1.findTo=n.findTo∧n1.avoid=n.avoid:=by rw[← v,ea];exact⟨rfl,rfl⟩
  refine⟨hj,by rw[← D.1,← y.1];exact hz,?_,?_⟩
  ·have es:(unfind d).avoid=(Uf d d.findTo).avoid:=by
    unfold unfind;rw[A4 hz]
   have T:=y.2.trans D.2;rw[es,y.1,D.1];unfold Uf;rw[T];split
   ·exact T
   rfl
  intro p F;have es:(unfind d).table.succ=d.table.succ.filter (fun p=>p.addr≠d.findTo):=by
   unfold unfind;rw[A4 hz];rfl
  rw[es]at F;have:=(F6.1 F).2;rw[← D.1,← y.1];simpa using this
 left;rw[A4 hj]at v;have Z:=Zol (ns:=ns) (n:=n) zM (by rw[v];exact g);rw[v]at Z;exact absurd (y.1.trans Z.1) hz
theorem PY(h:WN pn were ns)(B:YC a ns=some n)(K:AllG G ns):∃ y,YC a (Xt ns)=some y∧(y.joined=true→Avoids G n y):=by
 obtain⟨j,O,h1,h2,F⟩:=CI h B;have C:=h.go j;obtain⟨m,hm,v⟩:=Zis j h h1 B;obtain⟨n2,g2,h3⟩:=Cu C.1 hm (AllG.go j h K);obtain⟨d,L,D⟩:=Zis O (C.1.step a).1 h2 g2;rw[F];refine⟨d,L,fun hj=>?_⟩;have hw:=h3 (by rw[D]at hj;exact hj);have e:d.findTo=n2.findTo∧d.avoid=n2.avoid∧d.table.succ=n2.table.succ:=by rw[D];exact⟨rfl,rfl,rfl⟩
 have em:m.joined=n.joined∧m.findTo=n.findTo∧(Uf m m.findTo).avoid=(Uf n n.findTo).avoid:=by
  rw[v];refine⟨rfl,rfl,?_⟩;unfold Uf;split <;> rfl
 refine⟨by rw[e.1];exact hw.named,?_⟩;rw[e.2.1,e.2.2];exact hw.av.imp_right fun g=>⟨by rw[← em.1];exact g.1,by rw[← em.2.1];exact g.2.1,g.2.2.1.trans em.2.2,fun p R=>by rw[← em.2.1];exact g.2.2.2 p R⟩
theorem OA(h:WN pn were ns)(hk:AllKind c ns)(g:Lone E ns){z:Int}(j:YC z (Xt ns)=some m)(hj:m.joined=true):
 YC m.pingTo ns=none∧(YC m.askTo ns=none∨(¬E m.askTo∧Few m.askTo (Xt ns)))∧(YC m.findTo ns=none∨(¬E m.findTo∧Few m.findTo (Xt ns)))∧(m.findTo=-1∨m.findTo∉m.avoid):=by
 obtain⟨n,d⟩:=Xc (Wh h).2 j;obtain⟨v,h1,h2⟩:=KO h d fun q=>(hk z n d).2 q;rw[j]at h1;cases h1;have hw:=h2 hj;have h0:∀ y:Int,y=-1→YC y ns=none:=fun y e=>by rw[e];exact Tx h
 exact⟨hw.ping.elim (h0 _) id,hw.ask.elim (fun e=>.inl (h0 _ e)) fun q=>q.imp_right fun q=>⟨g.late q.1,q.2⟩,hw.find.elim (fun e=>.inl (h0 _ e)) fun q=>q.imp_right fun q=>⟨g.late q.1,q.2⟩,hw.new⟩
def Shuns(E:Int→Prop)(were:List Int)(ns:List (Int×Nd)):Prop :=
 ∀ z m,YC z ns=some m→m.joined=true→m.findTo=-1∨(m.avoid.Nodup∧∀ y∈m.findTo::m.avoid,y∈were∧Gone E ns y)
theorem Zbg{z:Int}(h:n.avoid.Nodup):(Uf n z).avoid.Nodup:=by
 unfold Uf;grind
theorem Shuns.round(h:WN pn were ns)(hk:AllKind c ns)(D:Lone E ns)(hs:Shuns E were ns):Shuns E were (Xt ns):=fun z m B hj=>by
 by_cases hf:m.findTo=-1
 ·exact .inl hf
 right;obtain⟨n,C⟩:=Xc (Wh h).2 B;obtain⟨K,h1,h2⟩:=PY h C (G:=InW pn were) fun b m hm=>(h.get hm).2.2;rw[B]at h1;cases h1;have ha:=h2 hj;have F:=OA h hk D B hj;have d:∀ y,Gone E ns y→Gone E (Xt ns) y:=fun y g=>g.keys (Wh h).2;obtain⟨p,⟨w,hw,rfl⟩,j⟩:=ha.named.resolve_left hf;rw[h.at']at j;have v:m.findTo∈were∧Gone E (Xt ns) m.findTo:=⟨j ▸ hw,d _ (F.2.2.1.imp_right And.left)⟩
 rcases ha.av with he|⟨g1,g2,g3,g4⟩
 ·rw[he];exact⟨J1,fun y g=>by rw[B0.1 g];exact v⟩
 obtain⟨s1,s2⟩:=(hs z n C g1).resolve_left g2;rw[g3];refine⟨Zbg s1,fun y g=>?_⟩;rcases B7.1 g with rfl|g
 ·exact v
 rcases Ab g with g|rfl
 ·exact⟨(s2 y (B2 _ g)).1,d _ (s2 y (B2 _ g)).2⟩
 exact⟨(s2 _ B1).1,d _ (s2 _ B1).2⟩
def Names(ns:List (Int×Nd)):Prop:=AllG (fun p=>∃ m,YC p.addr ns=some m) ns
theorem Ep{d:List (Int×Nd)}(e:d.map (·.1)=ns.map (·.1)){z:Int}(h:∃ y,YC z ns=some y):∃ y,YC z d=some y:=by
 obtain⟨y,g⟩:=h;exact Xc e.symm g
theorem Names.quiet(h:WN pn were ns)(hk:AllKind c ns)(v:Lone (fun _=>True) ns)(B:Names ns){z:Int}(d:YC z (Xt ns)=some m)(hj:m.joined=true):m.findTo=-1:=by
 obtain⟨n,g⟩:=Xc (Wh h).2 d;obtain⟨C,h1,h2⟩:=PY h g B;rw[d]at h1;cases h1;refine(h2 hj).named.resolve_right fun⟨p,⟨y,D⟩,j⟩=>?_;have F:=(OA h hk v d hj).2.2.1;grind
end
end Go.Esp
namespace Go.Esp
theorem IJ:∀{l w:List Int},l.Nodup→(∀ x∈l,x∈w)→l.length≤w.length
 | [],w,_,_=>C3 _
 | a::l,w,hn,hs=>by
  have h2:=D9.1 hn;have ha:=hs a B1;have h3:=IJ (l:=l) (w:=w.erase a) h2.2 fun x hx=>(List.mem_erase_of_ne fun e=>h2.1 (by rw[← e];exact hx)).2 (hs x (B2 _ hx));rw[List.length_erase_of_mem ha]at h3;have:=List.length_pos_of_mem ha;rw[C8];omega
section
variable {pn:Int→Zr} {were:List Int} {ns ns':List (Int×Nd)} {a b c k x X M:Int} {n m:Nd} {G:Zr→Prop} {E:Int→Prop} {Y:Int} {bag new:List Ml}
def Sub(ns ns':List (Int×Nd)):Prop:=∀ z m,YC z ns'=some m→YC z ns=some m
theorem Sub.refl(ns:List (Int×Nd)):Sub ns ns:=fun z m h=>h
theorem Sub.none(h:Sub ns ns')(hx:YC x ns=none):YC x ns'=none:=by
 cases hg:YC x ns' with
 | none=>rfl
 | some q=>rw[h x q hg]at hx;cases hx
theorem Oth.sub(h:Sub ns ns')(d:Oth G Y ns):Oth G Y ns':=fun b m hm=>d b m (h b m hm)
theorem Lone.sub(h:Sub ns ns')(g:Lone E ns):Lone E ns':=fun Y m d hm hj=>(g Y m d (h Y m hm) hj).sub h
theorem WN.del(h:WN pn were ns)(a:Int):WN pn were (AY a ns)∧Sub ns (AY a ns) :=
 ⟨⟨DD h.rise,fun p d=>h.nd p (F6.1 d).1,h.at'⟩,fun z m hm=>by
  rw[Mt]at hm;split at hm
  ·cases hm
  exact hm⟩
structure Rest (E:Int→Prop) (pn:Int→Zr) (were:List Int) (c:Int) (ns:List (Int×Nd)):Prop where
  wn:WN pn were ns
  kd:AllKind c ns
  lone:Lone E ns
  sh:Shuns E were ns
def Zqb(ns:List (Int×Nd)):Prop:=∀ z m,YC z ns=some m→m.joined=true→Dead ns m
theorem Rest.round(h:Rest E pn were c ns):Rest E pn were c (Xt ns):=⟨(Wh h.wn).1,h.kd.round h.wn,h.lone.round h.wn,h.sh.round h.wn h.kd h.lone⟩
theorem Rest.it:∀(j:Nat) {ns:List (Int×Nd)},Rest E pn were c ns→Rest E pn were c (itQ j ns)
 | 0,_,h=>h
 | j+1,_,h=>Rest.it j h.round
theorem Nw(j:Nat)(ns:List (Int×Nd)):itQ (j+1) ns=Xt (itQ j ns):=Zrc j 1 ns
theorem Np(h:WN pn were ns)(hk:AllKind c ns)(g:Lone (fun _=>True) ns):Zqb (Xt ns):=fun z m j hj=>by
 obtain⟨g1,g2,g3,-⟩:=OA h hk g j hj;have d:∀{y:Int},YC y ns=none→YC y (Xt ns)=none:=fun h9=>(VF (Wh h).2).2 h9;exact⟨d (g2.resolve_right fun q=>q.1 trivial),d g1,d (g3.resolve_right fun q=>q.1 trivial)⟩
theorem AC(h:WN pn were ns)(d:YC x ns=some m):x∈were:=by
 obtain⟨q,g,e⟩:=(h.get d).2.2.1;have:=h.self d;rw[e,h.at']at this;grind
theorem AD{ns:List (Int×Nd)}(d:x∈ns.map (·.1)):∃ m,YC x ns=some m:=by
 cases hg:YC x ns with
 | none=>exact absurd d (Wg.1 hg)
 | some m=>exact⟨m,rfl⟩
theorem Zwr{ns:List (Int×Nd)}(d:YC x ns=some m):x∈ns.map (·.1):=C0.2 ⟨(x,m),TW d,rfl⟩
end
end Go.Esp
namespace Go.Esp
section
variable {pn:Int→Zr} {were:List Int} {ns ns':List (Int×Nd)} {a b c x X M:Int} {k N:Nat} {n m:Nd} {G:Zr→Prop} {E:Int→Prop} {Y z:Int} {bag new:List Ml}
theorem OM(hw:WN pn were ns)(hi:XQ pn ⟨c,M,ns,bag⟩=true)(g:YC z ns=some m):m.joined=true∧∃(l:List Zr) (i:Nat) (hi:i<l.length),l.length=ns.length∧z=l[i].addr∧m.table=RH l c.toNat i l[i]∧∀ y q,YC y ns=some q→∃ j,∃ hj:j<l.length,l[j].addr=y:=by
 have h:=Mn hw.at' (fun p d=>(hw.nd p d).2.1) hi;have key:∀ y q,YC y ns=some q→∃ j,∃ hj:j<(Wr pn ⟨c,M,ns,bag⟩).length,((Wr pn ⟨c,M,ns,bag⟩)[j]).addr=y:=by
  intro y q v;have h1:y∈XW ⟨c,M,ns,bag⟩:=by
   exact Zwr v
  obtain⟨p,d,e⟩:=C0.1 ((Pi hw.at' ⟨c,M,ns,bag⟩).mem_iff.2 h1);obtain⟨i,hi,rfl⟩:=E2 d;exact⟨i,hi,e⟩
 obtain⟨i,hi,e⟩:=key z m g;obtain⟨n,h1,h2,h3⟩:=h.2 i hi;rw[e,g]at h1;rw[A5 h1];refine⟨h2,_,i,hi,?_,e.symm,h3,key⟩;have:=(Pi hw.at' ⟨c,M,ns,bag⟩).length_eq;rw[A8]at this;rw[this];show(ns.map (·.1)).length=_;simp
theorem Zhx(hw:WN pn were ns){q:Nd}(g:Ui q∧q.table=⟨pn Y,Yj,[],List.replicate 160 Yj⟩):WN pn (were++[Y]) (WM Y q ns) :=
 ⟨NZ hw.rise,fun p d=>by
  rcases Ma d with rfl|d
  ·refine⟨g.1,by rw[g.2],?_⟩;rw[g.2];exact ON ⟨Y,D0 _ (B0.2 rfl),rfl⟩
  exact⟨(hw.nd p d).1,(hw.nd p d).2.1,(hw.nd p d).2.2.mono fun p d=>Gg d⟩,hw.at'⟩
end
end Go.Esp
namespace Go.Esp
section
variable {pn:Int→Zr} {were:List Int} {ns:List (Int×Nd)} {a b c M:Int} {k N:Nat} {n m:Nd} {G:Zr→Prop} {bag:List Ml} {r r1:Rg}
def Nk(r:Rg)(L:List Int):Rg:=L.foldl (fun r a=>(Ts r 4 a).1) r
theorem JJ{most frm:Int}:∀{l:List Snd} {b:List Ml},∃ new,GG most frm b l=b++new∧new.length≤l.length∧∀ m∈new,SP m.lt∧∃ s∈l,m.lt=s.letter
 | [],b=>⟨[],(E0 b).symm,B9 0,fun m hm=>by cases hm⟩
 | s::l,b=>by
  obtain⟨new,h1,h2,h3⟩:=JJ (most:=most) (frm:=frm) (l:=l) (b:=TY most b ⟨frm,s.to,s.letter⟩);show∃ new,GG most frm (TY most b ⟨frm,s.to,s.letter⟩) l=b++new∧_;have d:∀ m∈new,SP m.lt∧∃ s2∈s::l,m.lt=s2.letter:=fun m hm=>⟨(h3 m hm).1,let ⟨s2,g1,g2⟩:=(h3 m hm).2;⟨s2,B2 _ g1,g2⟩⟩
  rw[h1];unfold TY;by_cases hc:SP s.letter∧(b.length:Int)<most
  ·rw[A6 hc];refine⟨⟨frm,s.to,s.letter⟩::new,B5 ..,Nat.succ_le_succ h2,fun m hm=>?_⟩;rcases B7.1 hm with rfl|hm
   ·exact⟨hc.1,s,B1,rfl⟩
   exact d m hm
  rw[A4 hc];exact⟨new,rfl,Nat.le_succ_of_le h2,d⟩
end
end Go.Esp
namespace Go.Esp
section
variable {pn:Int→Zr} {a b c M:Int} {k N:Nat} {r r1:Rg}
theorem GF(d:∀ a,(pn a).addr=a)(g:1≤c∧c≤8):(Td pn ⟨c,M,[],[]⟩ 100).2=0:=by
 rw[OU (r:=⟨c,M,[],[]⟩) jM (Nat.lt_irrefl 0),Nr];unfold Uk;rw[A6 ⟨by rw[d];decide,g.1,g.2⟩]
def Zbr(l xs:List Int):List Int:=xs.map fun e=>(l[e.toNat]?).getD 0
theorem Zdg{l xs:List Int}(hk:k<xs.length):Nk r (Zbr l (xs.take (k+1)))=(Ts (Nk r (Zbr l (xs.take k))) 4 ((l[(xs[k]).toNat]?).getD 0)).1:=by
 unfold Nk Zbr;rw[C9,A7 hk,C6,I4];rfl
theorem Zhu(h:¬(Us pn r a b).2=0):(Us pn r a b).1=r:=by
 by_cases ho:Yf a∧Yf b∧¬a=b
 ·cases h1:(YC a r.nodes).isSome with
  | true=>rw[OI ho h1]
  | false =>
   by_cases h2:16≤r.nodes.length
   ·rw[Mj ho h1 h2]
   cases h3:(YC b r.nodes).isSome with
   | false=>rw[Oi ho h1 h2 h3]
   | true =>
    rw[Mi ho h1 h2 h3]at h ⊢;rw[Nr]at h;rw[KF h]
 rw[OJ (by
  apply C2;intro h9;rw[not_or,not_or]at h9;exact ho ⟨I0.1 h9.1,I0.1 h9.2.1,h9.2.2⟩)]
theorem Ziq{kind:Int}(h:¬(Ts r kind a).2=0):(Ts r kind a).1=r:=by
 cases hg:YC a r.nodes with
 | none=>rw[Mr hg]
 | some n =>
  unfold Ts at h;rw[hg]at h;dsimp only at h;split at h <;> exact absurd rfl h
end
end Go.Esp