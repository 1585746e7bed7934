/-
  Texts of this claim, one behind the other: RingZ, RingY, RingB, WalkB, RingV, WalkQ, RingE, RingF, RingG, RingA, RingC, RingD, RingR, RingN, U5, U6.
-/
import Derived.Test.YtglnjnacodgmaaaGreatDoorPW5
set_option linter.unusedSimpArgs false
set_option linter.unusedVariables false
set_option linter.unnecessarySimpa false
set_option maxRecDepth 8000
set_option maxHeartbeats 1000000
open BitVec renaming eq_of_toNat_eq → J5
open Bool renaming and_eq_true → F1
open Decidable renaming byContradiction → C2,not_not → I0
open List renaming getElem?_eq_getElem → A7,length_map → A8,mem_singleton → B0,mem_cons_self → B1,mem_cons_of_mem → B2,length_append → B3,cons_append → B4,append_assoc → B5,nil_append → B6,mem_cons → B7,mem_append → B8,mem_map → C0,getElem_mem → C1,mem_append_left → C5,map_append → C6,length_cons → C8,take_add_one → C9,mem_append_right → D0,map_cons → D3,eq_nil_of_length_eq_zero → D4,getD_eq_getElem?_getD → D7,length_take → D8,nodup_cons → D9,append_nil → E0,pairwise_iff_getElem → E1,getElem_of_mem → E2,all_eq_true → E7,take_append_drop → F0,length_drop → F3,mem_filter → F6,mem_of_mem_take → F9,take_length → G0,getElem?_append_right → G2,drop_eq_getElem_cons → G4,foldl_cons → G6,mem_map_of_mem → G8,nodup_append → H3,take_of_length_le → H5,get_eq_getElem → H9,map_map → I2,take_take → I3,foldl_append → I4,length_singleton → I6,getElem_map → I7,nodup_nil → J1,ext_getElem → J4
open List.Mem renaming head → J3,tail → J6
open List.Pairwise renaming nil → J8
open List.Perm renaming refl → I9
open Nat renaming le_refl → B9,zero_le → C3,lt_or_ge → C7,mod_eq_of_lt → E3,eq_of_beq_eq_true → F8,mod_lt → G5,le_trans → H7,min_eq_left → I5
open Option renaming getD_some → F7
open Option.some renaming inj → A5
namespace Go.Esp
section
variable {pn:Int→Zr} {were:List Int} {ns:List (Int×Nd)} {a b c k x X o:Int} {n m n1:Nd} {G:Zr→Prop} {Y:Int}
def Joined (ns:List (Int×Nd)):Prop:=∀ z m,YC z ns=some m→m.joined=true
theorem Joined.kept {ns1:List (Int×Nd)} (hk:Kept ns ns1) (he:ns1.map (·.1)=ns.map (·.1)) (h:Joined ns):Joined ns1:=fun z m hm=>by
 obtain ⟨y,hy⟩:=Xc he hm;obtain ⟨m',h1,h2⟩:=hk z y hy (h z y hy);rw [hm] at h1;rw [A5 h1];exact h2
def Dead (ns:List (Int×Nd)) (n:Nd):Prop:=YC n.askTo ns=none∧YC n.pingTo ns=none∧YC n.findTo ns=none
def AllDead (ns:List (Int×Nd)):Prop:=∀ z m,YC z ns=some m→Dead ns m
theorem Dead.keys {ns1:List (Int×Nd)} (he:ns1.map (·.1)=ns.map (·.1)) (h:Dead ns n):Dead ns1 n:=⟨(VF he).2 h.1,(VF he).2 h.2.1,(VF he).2 h.2.2⟩
theorem Tx (h:WN pn were ns):YC (-1) ns=none:=by
 cases hg:YC (-1) ns with
 | none=>rfl
 | some n =>
  have h1:=(h.get hg).1.1.1;rw [h.self hg] at h1;have:=h1.1;omega
theorem Zci (h:Joined ns) {z:Int} (hj:Vg ns z=none):YC z ns=none:=by
 rcases Oh hj with h1|⟨y,h1,h2⟩
 ·exact h1
 ·rw [h z y h1] at h2;cases h2
theorem AllDead.t1 (h:WN pn were ns) (hJ:Joined ns) (hD:AllDead ns):AllDead (T1 x ns):=fun z m hm=>by
 refine Dead.keys (h.t1 x).2 ?_;obtain ⟨m0,hm0⟩:=Xc (h.t1 x).2 hm;have h0:=hD z m0 hm0;by_cases e:z=x
 ·subst e;have g1:=RK h hm0;rw [A6 (hJ z m0 hm0)] at g1;rw [hm] at g1;rw [A5 g1];obtain ⟨t,q,y,r,e,hy⟩:=NG m0 ns;rw [e];refine ⟨?_,h0.2.1,h0.2.2⟩;show YC y ns=none;rcases hy with hy|⟨-,-,hy⟩
  ·rw [hy];exact Tx h
  ·exact Zci hJ hy
 ·obtain ⟨m',h1,h2⟩:=BH h e hm0;rw [hm] at h1;rw [A5 h1,h2];exact h0
theorem AllDead.t3 (h:WN pn were ns) (hD:AllDead ns):AllDead (T3 x ns):=fun z m hm=>by
 refine Dead.keys (h.t3 x).2 ?_;obtain ⟨m0,hm0⟩:=Xc (h.t3 x).2 hm;have h0:=hD z m0 hm0;by_cases e:z=x
 ·subst e;have g1:=QK h hm0;rw [hm] at g1;rw [A5 g1];obtain ⟨t,p,r,q,u,e,hp⟩:=Rk (fun x=>(YC x ns).isSome) m0;rw [e];refine ⟨h0.1,?_,h0.2.2⟩;show YC p ns=none;rcases hp with hp|hp
  ·rw [hp];exact Tx h
  ·cases hg:YC p ns with
   | none=>rfl
   | some y=>simp [hg] at hp
 ·rw [GT h e] at hm;rw [A5 (hm.symm.trans hm0)];exact h0
theorem AllDead.t2 (h:WN pn were ns) (hJ:Joined ns) (hD:AllDead ns):AllDead (T2 x ns):=fun z m hm=>by
 refine Dead.keys (h.t2 x).2 ?_;obtain ⟨m0,hm0⟩:=Xc (h.t2 x).2 hm;have h0:=hD z m0 hm0;by_cases e:z=x
 ·subst e;have g1:=RA h hm0;rw [hm] at g1;rw [A5 g1];obtain ⟨t,cu,q,f,r,id,hp,e,hf⟩:=Lf (G:=InW pn were) h hm0 (hJ z m0 hm0) (h.get hm0).2.2 fun s b x hx=>(h.get (Vi hx).1).2.2;rw [e];refine ⟨h0.1,h0.2.1,?_⟩;show YC f ns=none;rcases hf with hf|⟨hf,-,p,hpI,hpo,hpa⟩
  ·rw [hf];exact Tx h
  ·rcases NB hf with h1|⟨y,h1,h2⟩
   ·exact h1
   ·exfalso;rcases h2 with h2|h2
    ·rw [hJ f y h1] at h2;cases h2
    ·refine h2 ?_;rw [(h.get h1).2.1,← hpa,← AJ h hpI];exact ⟨(h.get hm0).1.1.1,fun e=>hpo.2.1 e.symm,fun e=>hpo.2.2 e.symm⟩
 ·rw [Ow h e] at hm;rw [A5 (hm.symm.trans hm0)];exact h0
theorem AllDead.round (h:WN pn were ns) (hJ:Joined ns):AllDead (Xt ns):=fun z m hm=>by
 obtain ⟨m0,hm0⟩:=Xc (Wh h).2 hm;obtain ⟨n',h1,h2⟩:=KO h hm0 fun hj=>by rw [hJ z m0 hm0] at hj;cases hj
 rw [hm] at h1;rw [← A5 h1] at h2;have hj:=(Joined.kept (Le _ h) (Wh h).2 hJ) z m hm;have hw:=h2 hj;have hl:∀ y,¬Late y ns:=fun y hy=>by
  obtain ⟨q,hq⟩:=hy.2.1;have:=hy.1 q hq;rw [hJ y q hq] at this;cases this
 refine Dead.keys (Wh h).2 ⟨?_,?_,?_⟩
 ·rcases hw.ask with e|e|e
  ·rw [e];exact Tx h
  ·exact e
  ·exact absurd e.1 (hl _)
 ·rcases hw.ping with e|e
  ·rw [e];exact Tx h
  ·exact e
 ·rcases hw.find with e|e|e
  ·rw [e];exact Tx h
  ·exact e
  ·exact absurd e.1 (hl _)
structure W3 (pn:Int→Zr) (were:List Int) (a b Y:Int) (ns:List (Int×Nd)):Prop where
  w:W0 pn were a b Y ns
  j:Joined ns
  d:AllDead ns
  pa:NP Y a ns
  pb:NP Y b ns
theorem Zzb (hab:a≠b) (haY:a≠Y) (hbY:b≠Y) (hY:0≤Y):Two pn were a b Y (W3 pn were a b Y) where
 wn:=fun ns h=>h.w
 t1:=fun ns x h=>⟨(Zqs hab haY hbY hY).t1 _ x h.w,h.j.kept (PI h.w.1) (h.w.1.t1 x).2,h.d.t1 h.w.1 h.j,h.pa.t1 h.w.1 hY (h.w.dead haY hbY),h.pb.t1 h.w.1 hY (h.w.dead haY hbY)⟩
 t3:=fun ns x h=>⟨(Zqs hab haY hbY hY).t3 _ x h.w,h.j.kept (NK h.w.1) (h.w.1.t3 x).2,h.d.t3 h.w.1,h.pa.t3 h.w.1 hY,h.pb.t3 h.w.1 hY⟩
 t2:=fun ns x h=>⟨(Zqs hab haY hbY hY).t2 _ x h.w,h.j.kept (NL h.w.1) (h.w.1.t2 x).2,h.d.t2 h.w.1 h.j,h.pa.t2 h.w.1 hY,h.pb.t2 h.w.1 hY⟩
 ne:=⟨hab,haY,hbY,hY⟩
theorem Ou {s p:Zr} {r:Int}:∀ (rest acc:List Zr),∃ l,Wk s r (p::acc) rest=p::l
 | [],acc=>⟨acc,by unfold Wk;rfl⟩
 | q::rest,acc=>by
  unfold Wk;split
  ·exact ⟨acc,rfl⟩
  ·split
   ·exact Ou rest acc
   ·exact Ou rest (acc++[q])
def SF (pn:Int→Zr) (o:Int) (l:List Zr):Prop:=l=[]∨∃ r,l=pn o::r
def SX (pn:Int→Zr) (X o:Int) (ns:List (Int×Nd)):Prop:=∀ m,YC X ns=some m→SF pn o m.table.succ
def SA (pn:Int→Zr) (X o Y:Int) (ns:List (Int×Nd)):Prop:=∀ m,YC X ns=some m→SF pn o m.table.succ∨m.askTo=Y
theorem W3.np (h:W3 pn were a b Y ns) (hX:X=a∨X=b):NP Y X ns:=by
 rcases hX with e|e
 ·rw [e];exact h.pa
 ·rw [e];exact h.pb
theorem W3.names (h:W3 pn were a b Y ns) (hX:X=a∨X=b) (ho:o=a∨o=b) (hoX:o≠X) (hn:YC X ns=some n) {p:Zr} (hp:Ys n.table.self p) (hg:p.addr=a∨p.addr=b∨p.addr=Y):p.addr=o∨p.addr=Y:=by
 have:=hp.2.1;rw [h.w.1.self hn] at this;omega
theorem Jy {t:Tb} {z:Int} (hp:(pn o).addr=o) (hz:z≠o) (h:SF pn o t.succ):SF pn o (Xd t z).succ:=by
 show SF pn o (t.succ.filter _);rcases h with e|⟨r,e⟩
 ·rw [e];exact .inl rfl
 ·rw [e];refine .inr ⟨r.filter (fun p=>p.addr≠z),?_⟩;grind
theorem JH (hn:YC o ns=some n) {z:Int} (hz:YC z ns=none):z≠o:=fun e=>by rw [e,hn] at hz;cases hz
theorem Zvf (h:W3 pn were a b Y ns) (hX:X=a∨X=b) (ho:o=a∨o=b) (hoX:o≠X) (hn:YC X ns=some n) {t:Tb} (ht:TG t) (hs:t.self=n.table.self) (hg:GoodT (InW pn were) t) (hA:GoodT (fun p=>p.addr=a∨p.addr=b∨p.addr=Y) t) :
 SF pn o t.succ∨∃ p r,t.succ=p::r∧p.addr=Y:=by
 cases he:t.succ with
 | nil=>exact .inl (.inl rfl)
 | cons p r =>
  have hp:p∈t.succ:=by rw [he];exact B1
  rcases h.names hX ho hoX hn (hs ▸ ht.2.2.2.2.1.1 p hp) (hA.2.2.1 p hp) with e|e
  ·left;right;exact ⟨r,by rw [AJ h.w.1 (hg.2.2.1 p hp),e]⟩
  ·exact .inr ⟨p,r,rfl,e⟩
theorem Zbw (h:W3 pn were a b Y ns) (hX:X=a∨X=b) (ho:o=a∨o=b) (hoX:o≠X) (hn:YC X ns=some n) {y:Nd} (hy:YC o ns=some y):¬Ys n.table.self y.table.pred:=by
 intro hp;have h1:=(h.w.2.2 o y hy).2.1 (QA hp);have h2:=((h.w.1.get hy).1.1.2.1).resolve_left (QA hp);have h3:=h.names ho hX (fun e=>hoX e.symm) hy h2 h1;rcases h3 with e|e
 ·exact hp.2.1 (by rw [e,h.w.1.self hn])
 ·exact h.np ho y hy e
theorem IW (h:W3 pn were a b Y ns) (hX:X=a∨X=b) (ho:o=a∨o=b) (hoX:o≠X) (hn:YC X ns=some n) {y m:Nd} (hy:YC o ns=some y) {q:Int} (hm:Ui m) (hs:m.table.self=n.table.self) (hof:Ys n.table.self (pn o)) :
 (TU m (tells y q)).table.succ=Wk n.table.self m.copies [pn o] y.table.succ∧(TU m (tells y q)).table.fingers=m.table.fingers:=by
 have hyo:y.table.self=pn o:=(h.w.1.get hy).2.1;have hq:Ui { m with askTo:=-1 }:=TP (q:=m.req) (r:=m.askReq) hm (VP hm.1.1);have hf:(tells y q).frm=pn o:=hyo;unfold TU;rw [hf,OX hq (by show Ys m.table.self (pn o);rw [hs];exact hof),A4 (fun hc=>Zbw h hX ho hoX hn hy (hs ▸ hc.1))];exact ⟨by show Wk m.table.self m.copies [pn o] y.table.succ=_;rw [hs],rfl⟩
theorem Zex (h:W3 pn were a b Y ns) (hX:X=a∨X=b) (ho:o=a∨o=b) (hoX:o≠X) (hY:0≤Y) (haY:a≠Y) (hbY:b≠Y) (hn:YC X ns=some n) :
 (SF pn o (Rl n ns).table.succ∨(Rl n ns).askTo=Y)∧((SF pn o n.table.succ∨n.askTo=Y)→SF pn o (Rl n ns).table.succ):=by
 have w:=h.w.1;have h1:=w.get hn;have hA:=h.w.2.2 X n hn;obtain ⟨y,hy⟩:∃ y,YC o ns=some y:=by
  cases hg:YC o ns with
  | some y=>exact ⟨y,rfl⟩
  | none=>rw [Wg,h.w.2.1] at hg;exact absurd (by rcases ho with e|e <;> rw [e] <;> simp) hg
 have u0:=LY h1.1 h1.2.2;have uA:=LY (G:=fun p=>p.addr=a∨p.addr=b∨p.addr=Y) h1.1 hA;have r0:=Tr h1.1 h1.2.2;have rA:=Tr (G:=fun p=>p.addr=a∨p.addr=b∨p.addr=Y) h1.1 hA;have key:SF pn o (unask n).table.succ→SF pn o (ready n).table.succ:=by
  intro hs;unfold ready;by_cases hc:(unask n).table.succ=[]∧(unask n).table.pred≠Yj
  ·rw [A6 hc];have hp:=(u0.1.1.2.1).resolve_left hc.2;have hpA:=uA.2.2.2.1 hc.2;have hpY:(unask n).table.pred.addr≠Y:=Kf hY (Il n) (h.np hX n hn);have e:=(h.names hX ho hoX hn (u0.2.1 ▸ hp) hpA).resolve_right hpY;rw [OX u0.1 hp];right;refine ⟨[],?_⟩;unfold Wk;rw [AJ w (u0.2.2.2.1 hc.2),e]
  ·rw [A4 hc];exact hs
 have tell:SF pn o (ready n).table.succ→SF pn o (Rl n ns).table.succ:=by
  intro hs;unfold Rl;rcases hs with e|⟨r,e⟩
  ·rw [A6 e,e];exact .inl rfl
  ·have hne:(ready n).table.succ≠[]:=by rw [e];exact List.cons_ne_nil _ _
   have hf:Yv (ready n).table=pn o:=by unfold Yv;rw [e];rfl
   have hof:Ys n.table.self (pn o):=by have:=Tl r0.1.1 hne;rw [hf,r0.2.1] at this;exact this
   rw [A4 hne,hf,w.at'];have hj:Vg ns o=some y:=by unfold Vg;rw [hy];simp [h.j o y hy]
   rw [hj];have hm:Ui (SO (ready n) o):=TP r0.1 (by rw [r0.2.1];have:=QG hof.1 hof.2.1;rw [w.at'] at this;exact this);rw [(IW h hX ho hoX hn hy hm r0.2.1 hof).1];exact .inr (Ou _ _)
 constructor
 ·rcases Zvf h hX ho hoX hn r0.1.1 r0.2.1 r0.2.2 rA.2.2 with hs|⟨p,r,e,ep⟩
  ·exact .inl (tell hs)
  ·right;have hne:(ready n).table.succ≠[]:=by rw [e];exact List.cons_ne_nil _ _
   have hf:Yv (ready n).table=p:=by unfold Yv;rw [e];rfl
   have hj:Vg ns Y=none:=by unfold Vg;rw [h.w.dead haY hbY]
   unfold Rl;rw [A4 hne,hf,ep,hj];rfl
 ·intro hs;refine tell (key ?_);rcases hs with hs|hs
  ·unfold unask;split
   ·exact Jy (w.at' o) (JH hy (h.d X n hn).1) hs
   ·exact hs
  ·rcases Zvf h hX ho hoX hn u0.1.1 u0.2.1 u0.2.2 uA.2.2 with h2|⟨p,r,e,ep⟩
   ·exact h2
   ·exfalso;unfold unask at e;rw [A6 jD] at e;have hp:p∈n.table.succ.filter (fun p=>p.addr≠n.askTo):=by
     have:p∈(Xd n.table n.askTo).succ:=by
      rw [e];exact B1
     exact this
    have:=(F6.1 hp).2;simp at this;omega
theorem JI (lv:Int→Bool) (n:Nd):(UH lv n).table=(unping n).table:=by
 unfold UH;split <;> rfl
theorem W3.live (h:W3 pn were a b Y ns) (ho:o=a∨o=b):∃ y,YC o ns=some y:=by
 cases hg:YC o ns with
 | some y=>exact ⟨y,rfl⟩
 | none=>rw [Wg,h.w.2.1] at hg;exact absurd (by rcases ho with e|e <;> rw [e] <;> simp) hg
theorem Zwc (h:W3 pn were a b Y ns) (ho:o=a∨o=b) (hn:YC X ns=some n) {lv:Int→Bool} (hs:SF pn o n.table.succ):SF pn o (UH lv n).table.succ:=by
 obtain ⟨y,hy⟩:=W3.live h ho;rw [JI];unfold unping;split
 ·exact Jy (h.w.1.at' o) (JH hy (h.d X n hn).2.1) hs
 ·exact hs
theorem Zwd (h:W3 pn were a b Y ns) (ho:o=a∨o=b) (hn:YC X ns=some n) (hs:SF pn o n.table.succ):SF pn o (OR ns n).table.succ:=by
 obtain ⟨y,hy⟩:=W3.live h ho;rcases Gs ns n with e|e <;> rw [e]
 ·exact hs
 ·unfold unfind;split
  ·exact hs
  ·exact Jy (h.w.1.at' o) (JH hy (h.d X n hn).2.2) hs
theorem SX.stays (hab:a≠b) (haY:a≠Y) (hbY:b≠Y) (hY:0≤Y) (hX:X=a∨X=b) (ho:o=a∨o=b) (hoX:o≠X):Stays (W3 pn were a b Y) (SX pn X o) where
 t1:=fun ns x h hi m hm=>by
  obtain ⟨m0,hm0⟩:=Xc (h.w.1.t1 x).2 hm;by_cases e:X=x
  ·subst e;have g1:=RK h.w.1 hm0;rw [A6 (h.j X m0 hm0),hm] at g1;rw [A5 g1];exact (Zex h hX ho hoX hY haY hbY hm0).2 (.inl (hi m0 hm0))
  ·obtain ⟨m',h1,h2⟩:=BH h.w.1 e hm0;rw [hm] at h1;rw [A5 h1,h2];exact hi m0 hm0
 t3:=fun ns x h hi m hm=>by
  obtain ⟨m0,hm0⟩:=Xc (h.w.1.t3 x).2 hm;by_cases e:X=x
  ·subst e;rw [QK h.w.1 hm0] at hm;rw [← A5 hm];exact Zwc h ho hm0 (hi m0 hm0)
  ·rw [GT h.w.1 e] at hm;exact hi m hm
 t2:=fun ns x h hi m hm=>by
  obtain ⟨m0,hm0⟩:=Xc (h.w.1.t2 x).2 hm;by_cases e:X=x
  ·subst e;rw [RA h.w.1 hm0] at hm;rw [← A5 hm];exact Zwd h ho hm0 (hi m0 hm0)
  ·rw [Ow h.w.1 e] at hm;exact hi m hm
theorem SA.stays (hab:a≠b) (haY:a≠Y) (hbY:b≠Y) (hY:0≤Y) (hX:X=a∨X=b) (ho:o=a∨o=b) (hoX:o≠X):Stays (W3 pn were a b Y) (SA pn X o Y) where
 t1:=fun ns x h hi m hm=>by
  obtain ⟨m0,hm0⟩:=Xc (h.w.1.t1 x).2 hm;by_cases e:X=x
  ·subst e;have g1:=RK h.w.1 hm0;rw [A6 (h.j X m0 hm0),hm] at g1;rw [A5 g1];exact .inl ((Zex h hX ho hoX hY haY hbY hm0).2 (hi m0 hm0))
  ·obtain ⟨m',h1,h2⟩:=BH h.w.1 e hm0;rw [hm] at h1;rw [A5 h1,h2];exact hi m0 hm0
 t3:=fun ns x h hi m hm=>by
  obtain ⟨m0,hm0⟩:=Xc (h.w.1.t3 x).2 hm;by_cases e:X=x
  ·subst e;rw [QK h.w.1 hm0] at hm;rw [← A5 hm];refine (hi m0 hm0).imp (Zwc h ho hm0) fun e=>?_;obtain ⟨t,p,r,q,u,e3,-⟩:=Rk (fun x=>(YC x ns).isSome) m0;rw [e3];exact e
  ·rw [GT h.w.1 e] at hm;exact hi m hm
 t2:=fun ns x h hi m hm=>by
  obtain ⟨m0,hm0⟩:=Xc (h.w.1.t2 x).2 hm;by_cases e:X=x
  ·subst e;rw [RA h.w.1 hm0] at hm;rw [← A5 hm];exact (hi m0 hm0).imp (Zwd h ho hm0) fun e=>by rw [Gt.1];exact e
  ·rw [Ow h.w.1 e] at hm;exact hi m hm
theorem Two.once {W I K:List (Int×Nd)→Prop} (h:Two pn were a b Y W) (hI:Stays W I) (hK:Stays W K) (hX:X=a∨X=b) (hT:∀ ns,W ns→K ns→I (T1 X ns)) (hw:W ns) (hk:K ns):I (Xt ns):=by
 rw [Ke (h.wn ns hw).2.1 hX];have hi:I (Zbo X a b ns):=by
  unfold Zbo;by_cases e:X=a
  ·rw [A6 e,← e];exact hT ns hw hk
  ·rw [A4 e,← hX.resolve_left e];exact hT _ (h.step hw a) (hK.step h hw hk a)
 exact hI.post h (h.t3 _ _ (h.pre hw)) (hI.t3 _ _ (h.pre hw) hi)
theorem DQ {W:List (Int×Nd)→Prop}:Stays W (fun _=>True):=⟨fun _ _ _ _=>trivial,fun _ _ _ _=>trivial,fun _ _ _ _=>trivial⟩
theorem Zqt (hab:a≠b) (haY:a≠Y) (hbY:b≠Y) (hY:0≤Y) (hX:X=a∨X=b) (ho:o=a∨o=b) (hoX:o≠X) (h:W3 pn were a b Y ns):SX pn X o (itQ 2 ns):=by
 have T:=Zzb (pn:=pn) (were:=were) hab haY hbY hY;have h1:SA pn X o Y (Xt ns):=T.once (SA.stays hab haY hbY hY hX ho hoX) DQ hX (fun ns hw _ m hm=>by
  obtain ⟨m0,hm0⟩:=Xc (hw.w.1.t1 X).2 hm;have g1:=RK hw.w.1 hm0;rw [A6 (hw.j X m0 hm0),hm] at g1;rw [A5 g1];exact (Zex hw hX ho hoX hY haY hbY hm0).1) h trivial
 exact T.once (SX.stays hab haY hbY hY hX ho hoX) (SA.stays hab haY hbY hY hX ho hoX) hX (fun ns hw hk m hm=>by
  obtain ⟨m0,hm0⟩:=Xc (hw.w.1.t1 X).2 hm;have g1:=RK hw.w.1 hm0;rw [A6 (hw.j X m0 hm0),hm] at g1;rw [A5 g1];exact (Zex hw hX ho hoX hY haY hbY hm0).2 (hk m0 hm0)) (T.round h) h1
structure W4 (pn:Int→Zr) (were:List Int) (a b Y:Int) (ns:List (Int×Nd)):Prop where
  w:W3 pn were a b Y ns
  sa:SX pn a b ns
  sb:SX pn b a ns
theorem W4.sx (h:W4 pn were a b Y ns) (hX:X=a∨X=b) (ho:o=a∨o=b) (hoX:o≠X):SX pn X o ns:=by
 rcases hX with e|e
 ·have e2:o=b:=by omega
  rw [e,e2];exact h.sa
 ·have e2:o=a:=by omega
  rw [e,e2];exact h.sb
theorem Zza (hab:a≠b) (haY:a≠Y) (hbY:b≠Y) (hY:0≤Y):Two pn were a b Y (W4 pn were a b Y) :=
  have T:=Zzb (pn:=pn) (were:=were) hab haY hbY hY
  have A:=SX.stays (pn:=pn) (were:=were) hab haY hbY hY (.inl rfl) (.inr rfl) hab.symm
  have B:=SX.stays (pn:=pn) (were:=were) hab haY hbY hY (.inr rfl) (.inl rfl) hab
  { wn:=fun ns h=>h.w.w
    t1:=fun ns x h=>⟨T.t1 _ x h.w,A.t1 _ x h.w h.sa,B.t1 _ x h.w h.sb⟩
    t3:=fun ns x h=>⟨T.t3 _ x h.w,A.t3 _ x h.w h.sa,B.t3 _ x h.w h.sb⟩
    t2:=fun ns x h=>⟨T.t2 _ x h.w,A.t2 _ x h.w h.sa,B.t2 _ x h.w h.sb⟩
    ne:=⟨hab,haY,hbY,hY⟩ }
def CF (pn:Int→Zr) (o:Int) (l:List Zr):Prop:=l=[]∨l=[pn o]
def CX (pn:Int→Zr) (X o:Int) (ns:List (Int×Nd)):Prop:=∀ m,YC X ns=some m→CF pn o m.table.succ
theorem Zsc (h:W4 pn were a b Y ns) (hX:X=a∨X=b) (ho:o=a∨o=b) (hoX:o≠X) (hY:0≤Y) (haY:a≠Y) (hbY:b≠Y) (hn:YC X ns=some n) :
 CF pn o (Rl n ns).table.succ∧(Rl n ns).table.fingers=(ready n).table.fingers:=by
 have w:=h.w.w.1;have h1:=w.get hn;have r0:=Tr h1.1 h1.2.2;have rA:=Tr (G:=fun p=>p.addr=a∨p.addr=b∨p.addr=Y) h1.1 (h.w.w.2.2 X n hn);obtain ⟨y,hy⟩:=W3.live h.w ho;have hoY:o≠Y:=by rcases ho with e|e <;> rw [e] <;> assumption
 unfold Rl;by_cases hs:(ready n).table.succ=[]
 ·rw [A6 hs];exact ⟨.inl hs,rfl⟩
 ·rw [A4 hs];have hS:=(Zex h.w hX ho hoX hY haY hbY hn).2 (.inl (h.sx hX ho hoX n hn));have hf:Yv (ready n).table=pn o:=by
   rcases Zvf h.w hX ho hoX hn r0.1.1 r0.2.1 r0.2.2 rA.2.2 with e|⟨p,r,e,ep⟩
   ·rcases e with e|⟨r,e⟩
    ·exact absurd e hs
    ·unfold Yv;rw [e];rfl
   ·exfalso;have hj:Vg ns Y=none:=by unfold Vg;rw [h.w.w.dead haY hbY]
    unfold Rl at hS;have hf:Yv (ready n).table=p:=by unfold Yv;rw [e];rfl
    rw [A4 hs,hf,ep,hj] at hS;have hS:SF pn o (ready n).table.succ:=hS;rw [e] at hS;rcases hS with q|⟨r2,q⟩
    ·cases q
    ·have:=(List.cons.inj q).1;rw [this,w.at'] at ep;exact hoY ep
  have hof:Ys n.table.self (pn o):=by have:=Tl r0.1.1 hs;rw [hf,r0.2.1] at this;exact this
  have hj:Vg ns o=some y:=by unfold Vg;rw [hy];simp [h.w.j o y hy]
  rw [hf,w.at',hj];have hm:Ui (SO (ready n) o):=TP r0.1 (by rw [r0.2.1];have:=QG hof.1 hof.2.1;rw [w.at'] at this;exact this);have hh:=IW h.w hX ho hoX hn hy (q:=nxR (ready n).req) hm r0.2.1 hof;refine ⟨.inr ?_,hh.2⟩;rw [hh.1];rcases h.sx ho hX (fun e=>hoX e.symm) y hy with e|⟨r,e⟩
  ·rw [e];unfold Wk;rfl
  ·rw [e];unfold Wk;rw [A6 (.inl fun q=>q.2.1 (by rw [h1.2.1]))]
theorem Dn {t:Tb} {z:Int} (hp:(pn o).addr=o) (hz:z≠o) (h:CF pn o t.succ):CF pn o (Xd t z).succ:=by
 show CF pn o (t.succ.filter _);rcases h with e|e
 ·rw [e];exact .inl rfl
 ·rw [e];right;grind
theorem CX.stays (hab:a≠b) (haY:a≠Y) (hbY:b≠Y) (hY:0≤Y) (hX:X=a∨X=b) (ho:o=a∨o=b) (hoX:o≠X):Stays (W4 pn were a b Y) (CX pn X o) where
 t1:=fun ns x h hi m hm=>by
  obtain ⟨m0,hm0⟩:=Xc (h.w.w.1.t1 x).2 hm;by_cases e:X=x
  ·subst e;have g1:=RK h.w.w.1 hm0;rw [A6 (h.w.j X m0 hm0),hm] at g1;rw [A5 g1];exact (Zsc h hX ho hoX hY haY hbY hm0).1
  ·obtain ⟨m',h1,h2⟩:=BH h.w.w.1 e hm0;rw [hm] at h1;rw [A5 h1,h2];exact hi m0 hm0
 t3:=fun ns x h hi m hm=>by
  obtain ⟨m0,hm0⟩:=Xc (h.w.w.1.t3 x).2 hm;obtain ⟨y,hy⟩:=W3.live h.w ho;by_cases e:X=x
  ·subst e;rw [QK h.w.w.1 hm0] at hm;rw [← A5 hm,JI];unfold unping;split
   ·exact Dn (h.w.w.1.at' o) (JH hy (h.w.d X m0 hm0).2.1) (hi m0 hm0)
   ·exact hi m0 hm0
  ·rw [GT h.w.w.1 e] at hm;exact hi m hm
 t2:=fun ns x h hi m hm=>by
  obtain ⟨m0,hm0⟩:=Xc (h.w.w.1.t2 x).2 hm;obtain ⟨y,hy⟩:=W3.live h.w ho;by_cases e:X=x
  ·subst e;rw [RA h.w.w.1 hm0] at hm;rw [← A5 hm];rcases Gs ns m0 with e|e <;> rw [e]
   ·exact hi m0 hm0
   ·unfold unfind;split
    ·exact hi m0 hm0
    ·exact Dn (h.w.w.1.at' o) (JH hy (h.w.d X m0 hm0).2.2) (hi m0 hm0)
  ·rw [Ow h.w.w.1 e] at hm;exact hi m hm
theorem Zrj (hab:a≠b) (haY:a≠Y) (hbY:b≠Y) (hY:0≤Y) (hX:X=a∨X=b) (ho:o=a∨o=b) (hoX:o≠X) (h:W4 pn were a b Y ns):CX pn X o (Xt ns) :=
 (Zza (pn:=pn) (were:=were) hab haY hbY hY).once (CX.stays hab haY hbY hY hX ho hoX) DQ hX (fun ns hw _ m hm=>by
  obtain ⟨m0,hm0⟩:=Xc (hw.w.w.1.t1 X).2 hm;have g1:=RK hw.w.w.1 hm0;rw [A6 (hw.w.j X m0 hm0),hm] at g1;rw [A5 g1];exact (Zsc hw hX ho hoX hY haY hbY hm0).1) h trivial
structure W5 (pn:Int→Zr) (were:List Int) (a b Y:Int) (ns:List (Int×Nd)):Prop where
  w:W4 pn were a b Y ns
  ca:CX pn a b ns
  cb:CX pn b a ns
theorem W5.cx (h:W5 pn were a b Y ns) (hX:X=a∨X=b) (ho:o=a∨o=b) (hoX:o≠X):CX pn X o ns:=by
 rcases hX with e|e
 ·have e2:o=b:=by omega
  rw [e,e2];exact h.ca
 ·have e2:o=a:=by omega
  rw [e,e2];exact h.cb
theorem Yam (hab:a≠b) (haY:a≠Y) (hbY:b≠Y) (hY:0≤Y):Two pn were a b Y (W5 pn were a b Y) :=
  have T:=Zza (pn:=pn) (were:=were) hab haY hbY hY
  have A:=CX.stays (pn:=pn) (were:=were) hab haY hbY hY (.inl rfl) (.inr rfl) hab.symm
  have B:=CX.stays (pn:=pn) (were:=were) hab haY hbY hY (.inr rfl) (.inl rfl) hab
  { wn:=fun ns h=>h.w.w.w
    t1:=fun ns x h=>⟨T.t1 _ x h.w,A.t1 _ x h.w h.ca,B.t1 _ x h.w h.cb⟩
    t3:=fun ns x h=>⟨T.t3 _ x h.w,A.t3 _ x h.w h.ca,B.t3 _ x h.w h.cb⟩
    t2:=fun ns x h=>⟨T.t2 _ x h.w,A.t2 _ x h.w h.ca,B.t2 _ x h.w h.cb⟩
    ne:=⟨hab,haY,hbY,hY⟩ }
theorem Bl {l:Lt} (hj:n.joined=true) (h:GoodT G n.table) (hl:l.done=true→l.peer≠Yj→G l.peer):GoodT G (YF n l).1.table:=by
 unfold YF;split
 ·exact h
 ·split
  ·rename_i hd;split
   ·exact SY (n:={ n with findTo:=-1 }) h (hl hd)
   ·grind
  ·split
   ·exact h
   ·exact h
theorem Hq (hx:∀ s b x l,Vz ns s b=some x→(Xq x l).done=true→G (Xq x l).peer):∀ (F:Nat) (n:Nd),n.joined=true→GoodT G n.table→GoodT G (XS ns F n).table
 | 0,n,_,h=>h
 | F+1,n,hj,h=>by
  unfold XS;cases hf:Vz ns n.table.self n.findTo with
  | none=>exact h
  | some x =>
   have hh:=Bl (l:=Xq x (Xl n)) hj h fun hd _=>hx _ _ _ _ hf hd;show GoodT G (match (YF n (Xq x (Xl n))).2 with
    | []=>(YF n (Xq x (Xl n))).1
    | _=>XS ns F (YF n (Xq x (Xl n))).1).table
   split
   ·exact hh
   ·exact Hq hx F _ (OP _ hj).2 hh
theorem Hh {x:Nd} {l:Lt} (h:(Xq x l).done=true):(Xq x l).peer=Yv x.table:=by
 unfold Xq at h ⊢;dsimp only at h ⊢;rw [A6 h];rfl
theorem FX.stays (hab:a≠b) (haY:a≠Y) (hbY:b≠Y) (hY:0≤Y) (hX:X=a∨X=b) (ho:o=a∨o=b) (hoX:o≠X):Stays (W5 pn were a b Y) (QN Y X) where
 t1:=fun ns x h hi m hm=>by
  have w:=h.w.w.w.1;have hXY:X≠Y:=by rcases hX with e|e <;> rw [e] <;> assumption
  have hoY:o≠Y:=by rcases ho with e|e <;> rw [e] <;> assumption
  obtain ⟨m0,hm0⟩:=Xc (w.t1 x).2 hm;have hnp:=((h.w.w.np hX).t1 w hY (h.w.w.w.dead haY hbY):NP Y X (T1 x ns)) m hm;have h0:=hi m0 hm0;by_cases e:X=x
  ·subst e;have g1:=RK w hm0;rw [A6 (h.w.w.j X m0 hm0),hm] at g1;have e1:=A5 g1;have hc:=Zsc h.w hX ho hoX hY haY hbY hm0;have hr:=Tr (G:=fun p=>p.addr≠Y) (w.get hm0).1 h0;refine ⟨?_,fun _=>hnp,fun p hp=>?_,fun p hp hn=>?_⟩
   ·show m.table.self.addr≠Y;rw [(w.t1 X).1.self hm];exact hXY
   ·rw [e1] at hp;rcases hc.1 with q|q
    ·rw [q] at hp;cases hp
    ·rw [q] at hp;rw [B0.1 hp];show (pn o).addr≠Y;rw [w.at'];exact hoY
   ·rw [e1,hc.2] at hp;exact hr.2.2.2.2.2 p hp hn
  ·obtain ⟨m',h1,h2⟩:=BH w e hm0;rw [hm] at h1;have e1:=A5 h1;rw [← e1] at h2;refine ⟨?_,fun _=>hnp,?_,?_⟩
   ·rw [h2];exact h0.1
   ·rw [h2];exact h0.2.2.1
   ·rw [h2];exact h0.2.2.2
 t3:=fun ns x h hi=>CT h.w.w.w hi
 t2:=fun ns x h hi m hm=>by
  have w:=h.w.w.w.1;by_cases e:X=x
  ·subst e;obtain ⟨m0,hm0⟩:=Xc (w.t2 X).2 hm;rw [RA w hm0] at hm;rw [← A5 hm];have hj:=h.w.w.j X m0 hm0;have hu:=Ps (hi m0 hm0);unfold OR;rw [A4 zN];split
   ·exact SY hu fun _=>Tz hu
   ·split
    ·exact hu
    ·refine Hq (fun s z y l hf hd=>?_) 33 _ (by
      obtain ⟨t,et⟩:=QT m0;show (unfind m0).joined=true;rw [et];exact hj) hu
     rw [Hh hd];obtain ⟨h1,-,-⟩:=Vi hf;show (Yv y.table).addr≠Y;have key:∀ {X o:Int},(X=a∨X=b)→(o=a∨o=b)→o≠X→z=X→(Yv y.table).addr≠Y:=by
      intro X o hX ho hoX e;subst e;rcases h.cx hX ho hoX y h1 with q|q
      ·unfold Yv;rw [q];show y.table.self.addr≠Y;rw [w.self h1];rcases hX with e|e <;> rw [e] <;> assumption
      ·unfold Yv;rw [q];show (pn o).addr≠Y;rw [w.at'];rcases ho with e|e <;> rw [e] <;> assumption
     rcases Qw h.w.w.w hX ho hoX h1 with e|e
     ·exact key hX ho hoX e
     ·exact key ho hX (fun q=>hoX q.symm) e
  ·rw [Ow w e] at hm;exact hi m hm
theorem Zsa (hab:a≠b) (haY:a≠Y) (hbY:b≠Y) (hY:0≤Y) (h:W0 pn were a b Y ns):AllG (fun p=>p.addr≠Y) (itQ 10 ns):=by
 have T0:=Zqs (pn:=pn) (were:=were) hab haY hbY hY;have h3:=T0.it 3 h;have all:∀ {s:List (Int×Nd)},W0 pn were a b Y s→QN Y a s→QN Y b s→AllG (fun p=>p.addr≠Y) s:=fun hw ha hb z m hm=>by
  rcases Qw hw (.inl rfl) (.inr rfl) hab.symm hm with e|e
  ·subst e;exact ha m hm
  ·subst e;exact hb m hm
 have lone:∀ {X o:Int},(X=a∨X=b)→(o=a∨o=b)→o≠X→Unj o (itQ 3 ns)→AllG (fun p=>p.addr≠Y) (itQ 7 (itQ 3 ns)):=fun hX ho hoX hu=>by
  have f1:=Zbz hab haY hbY hY hX ho hoX h hu;have f2:=Zgm hab haY hbY hY hX ho hoX h hu;refine AllG.it 7 h3.1 fun z m hm=>?_;rcases Qw h3 hX ho hoX hm with e|e
  ·subst e;exact f1 m hm
  ·subst e;exact f2 m hm
 by_cases hua:Unj a (itQ 3 ns)
 ·exact lone (.inr rfl) (.inl rfl) hab hua
 ·by_cases hub:Unj b (itQ 3 ns)
  ·exact lone (.inl rfl) (.inr rfl) hab.symm hub
  ·have hJ:Joined (itQ 3 ns):=fun z m hm=>by
    cases hj:m.joined with
    | true=>rfl
    | false =>
     exfalso;have hu:Unj z (itQ 3 ns):=fun q hq=>by rw [← A5 (hm.symm.trans hq)];exact hj
     rcases Qw h3 (.inl rfl) (.inr rfl) hab.symm hm with e|e
     ·exact hua (e ▸ hu)
     ·exact hub (e ▸ hu)
   have pa:=At hab haY hbY hY (.inl rfl) h;have pb:=At hab haY hbY hY (.inr rfl) h;have st:∀ X,Stays (W0 pn were a b Y) (NP Y X):=fun X=>⟨fun ns x h hi=>hi.t1 h.1 hY (h.dead haY hbY),fun ns x h hi=>hi.t3 h.1 hY,fun ns x h hi=>hi.t2 h.1 hY⟩
   have h4:W3 pn were a b Y (Xt (itQ 3 ns)):=⟨T0.round h3,hJ.kept (Le _ h3.1) (Wh h3.1).2,AllDead.round h3.1 hJ,(st a).round T0 h3 pa,(st b).round T0 h3 pb⟩
   have T3:=Zzb (pn:=pn) (were:=were) hab haY hbY hY;have h6:W4 pn were a b Y (itQ 2 (Xt (itQ 3 ns))):=⟨T3.it 2 h4,Zqt hab haY hbY hY (.inl rfl) (.inr rfl) hab.symm h4,Zqt hab haY hbY hY (.inr rfl) (.inl rfl) hab h4⟩
   have T4:=Zza (pn:=pn) (were:=were) hab haY hbY hY;have h7:W5 pn were a b Y (Xt (itQ 2 (Xt (itQ 3 ns)))):=⟨T4.round h6,Zrj hab haY hbY hY (.inl rfl) (.inr rfl) hab.symm h6,Zrj hab haY hbY hY (.inr rfl) (.inl rfl) hab h6⟩
   have T5:=Yam (pn:=pn) (were:=were) hab haY hbY hY;have fr:∀ X,∀ ns n,W5 pn were a b Y ns→YC X ns=some n→GoodT (fun p=>p.addr≠Y) n.table→QN Y X ns:=fun X ns n _ hn hg m hm=>by rw [hn] at hm;rw [← A5 hm];exact hg
   have fa:=T5.free (FX.stays hab haY hbY hY (.inl rfl) (.inr rfl) hab.symm) (.inl rfl) (fr a) h7;have fb:=T5.free (FX.stays hab haY hbY hY (.inr rfl) (.inl rfl) hab) (.inr rfl) (fr b) h7;exact all (T5.it 3 h7).w.w.w fa fb
end
end Go.Esp
namespace Go.Esp
section
variable {pn:Int→Zr} {were:List Int} {ns:List (Int×Nd)} {a b c k x X o:Int} {n:Nd} {m:Ml} {bag:List Ml} {G:Zr→Prop} {Y:Int}
def Zdn (m:Ml) (ns:List (Int×Nd)):List (Int×Nd):=match YC m.zto ns with
 | none=>ns
 | some n=>WM m.zto (if Ys n.table.self m.lt.frm then If n m.lt else n) ns
def QF (bag:List Ml) (ns:List (Int×Nd)):List (Int×Nd):=bag.foldl (fun ns m=>Zdn m ns) ns
def QM (G:Zr→Prop) (m:Ml):Prop:=m.lt.kind=8∧SP m.lt∧GoodL G m.lt
theorem Zmn (h:Ui n) (hm:QM G m):WI n m.lt=((if Ys n.table.self m.lt.frm then If n m.lt else n),[],0):=by
 by_cases ho:Ys n.table.self m.lt.frm
 ·rw [A6 ho,tkE h hm.2.1 ho];have:=hm.1;grind
 ·rw [A4 ho];exact Nj h hm.2.1 ho
theorem Zkd (n:Nd) (l:Lt):Alike n (If n l):=by
 unfold If;dsimp only;split
 ·rfl
 ·split
  ·exact Alike.trans (b:={ n with table:=_ }) rfl (TZ _ _ _)
  ·rfl
theorem Bu (h:WN pn were ns) (hm:QM G m):XL ⟨c,k,ns,m::bag⟩ 0=(⟨c,k,Zdn m ns,bag⟩,0):=by
 unfold Zdn;cases hg:YC m.zto ns with
 | none=>exact Rx (r:=⟨c,k,ns,m::bag⟩) (k:=0) (m:=m) jQ rfl hg
 | some n =>
  have ht:=Zmn (h.get hg).1 hm;exact Rb (r:=⟨c,k,ns,m::bag⟩) (k:=0) (m:=m) jQ rfl hg zY zY zY
theorem WN.bye (h:WN pn were ns) (hm:QM (InW pn were) m):WN pn were (Zdn m ns)∧(Zdn m ns).map (·.1)=ns.map (·.1):=by
 unfold Zdn;cases hg:YC m.zto ns with
 | none=>exact ⟨h,rfl⟩
 | some n =>
  have h1:=h.get hg;refine ⟨?_,Mb h.rise (by rw [hg];rfl)⟩;show WN pn were (WM m.zto (if Ys n.table.self m.lt.frm then If n m.lt else n) ns);split
  ·have hs:=Ek (l:=m.lt) h1.1;exact h.put hg hs.1 hs.2.1 (Gl h1.2.2 hm.2.2)
  ·exact h.put hg h1.1 rfl h1.2.2
theorem Zkc:∀ (N:Nat) (bag:List Ml) {ns:List (Int×Nd)},WN pn were ns→(∀ m∈bag,QM (InW pn were) m)→bag.length≤N→Va N ⟨c,k,ns,bag⟩=⟨c,k,QF bag ns,[]⟩
 | N,[],ns,h,_,_=>Nz N
 | 0,m::bag,ns,h,_,hl=>by simp at hl
 | N+1,m::bag,ns,h,hb,hl=>by
  have hm:=hb m B1;have e:=Bu (c:=c) (k:=k) (bag:=bag) h hm;rw [Pg zV,e];exact Zkc N bag (h.bye hm).1 (fun q hq=>hb q (B2 _ hq)) (by simp at hl;omega)
theorem WN.byes:∀ (bag:List Ml) {ns:List (Int×Nd)},WN pn were ns→(∀ m∈bag,QM (InW pn were) m)→WN pn were (QF bag ns)∧(QF bag ns).map (·.1)=ns.map (·.1)
 | [],_,h,_=>⟨h,rfl⟩
 | m::bag,ns,h,hb=>by
  have h1:=h.bye (hb m B1);have h2:=WN.byes bag h1.1 fun q hq=>hb q (B2 _ hq);exact ⟨h2.1,h2.2.trans h1.2⟩
theorem Hs:∀ (bag:List Ml) {ns:List (Int×Nd)} {n:Nd},WN pn were ns→(∀ m∈bag,QM (InW pn were) m)→YC b ns=some n→∃ n',YC b (QF bag ns)=some n'∧Alike n n'
 | [],_,n,_,_,hn=>⟨n,hn,Alike.refl n⟩
 | m::bag,ns,n,h,hb,hn=>by
  have h1:=h.bye (hb m B1);have h2:∃ n1,YC b (Zdn m ns)=some n1∧Alike n n1:=by
   unfold Zdn;cases hg:YC m.zto ns with
   | none=>exact ⟨n,hn,Alike.refl n⟩
   | some q =>
    show ∃ n1,YC b (WM m.zto (if Ys q.table.self m.lt.frm then If q m.lt else q) ns)=some n1∧_;rw [Vh h];by_cases e:b=m.zto
    ·rw [A6 e];refine ⟨_,rfl,?_⟩;rw [e,hg] at hn;rw [← A5 hn];split
     ·exact Zkd _ _
     ·exact Alike.refl _
    ·rw [A4 e];exact ⟨n,hn,Alike.refl n⟩
  obtain ⟨n1,g1,g2⟩:=h2;obtain ⟨n2,g3,g4⟩:=Hs bag h1.1 (fun q hq=>hb q (B2 _ hq)) g1;exact ⟨n2,g3,g2.trans g4⟩
theorem Ey (h:WN pn were ns) (hk:0<k) (hb:∀ m∈bag,QM (InW pn were) m) (hl:bag.length≤10000):VI ⟨c,k,ns,bag⟩=⟨c,k,Xt (QF bag ns),[]⟩:=by
 unfold VI;rw [Zkc 10000 bag h hb hl,CH _ (h.byes bag hb).1 hk];rfl
def itR:Nat→Rg→Rg
 | 0,r=>r
 | j+1,r=>itR j (VI r)
theorem KH:∀ (n:Nat) (r:Rg),∃ j,j≤n∧(VZ pn n r).2=itR j r∧(j<n→XQ pn (itR j r)=true)∧(j=0→n=0∨XQ pn r=true)
 | 0,r=>⟨0,B9 0,rfl,fun h=>absurd h (Nat.lt_irrefl 0),fun _=>.inl rfl⟩
 | n+1,r=>by
  show ∃ j,j≤n+1∧(if XQ pn r=true then (0,r) else ((VZ pn n (VI r)).1+1,(VZ pn n (VI r)).2)).2=itR j r∧_;by_cases hi:XQ pn r=true
  ·rw [A6 hi];exact ⟨0,by omega,rfl,fun _=>hi,fun _=>.inr hi⟩
  ·rw [A4 hi];obtain ⟨j,h1,h2,h3,-⟩:=KH n (VI r);exact ⟨j+1,by omega,h2,fun h=>h3 jD,fun h=>by omega⟩
theorem Dd (hk:0<k):∀ (j:Nat) {ns:List (Int×Nd)},WN pn were ns→itR j ⟨c,k,ns,[]⟩=⟨c,k,itQ j ns,[]⟩
 | 0,_,_=>rfl
 | j+1,ns,h=>by
  show itR j (VI ⟨c,k,ns,[]⟩)=_;rw [KP h hk,Dd hk j (Wh h).1];rfl
theorem AE (h:WN pn were ns) (hk:0<k) (hb:∀ m∈bag,QM (InW pn were) m) (hl:bag.length≤10000) (j:Nat):itR (j+1) ⟨c,k,ns,bag⟩=⟨c,k,itQ (j+1) (QF bag ns),[]⟩:=by
 show itR j (VI ⟨c,k,ns,bag⟩)=_;rw [Ey h hk hb hl,Dd hk j (Wh (h.byes bag hb).1).1];rfl
theorem Jw {t:Tb} (h:GoodT (fun p=>p.addr≠x) t) (hx:x≠-1):Xd t x=t:=by
 have hp:(if t.pred.addr=x then Yj else t.pred)=t.pred:=by
  split
  ·rename_i e;by_cases e2:t.pred=Yj
   ·exact e2.symm
   ·exact absurd e (h.2.1 e2)
  ·rfl
 have hs:t.succ.filter (fun p=>p.addr≠x)=t.succ:=List.filter_eq_self.2 fun p hp=>by simpa using h.2.2.1 p hp
 have hf:t.fingers.map (fun p=>if p.addr=x then Yj else p)=t.fingers:=by
  have:t.fingers.map (fun p=>if p.addr=x then Yj else p)=t.fingers.map id:=List.map_congr_left fun p hp=>by
   split
   ·rename_i e;by_cases e2:p=Yj
    ·exact e2.symm
    ·exact absurd e (h.2.2.2 p hp e2)
   ·rfl
  rw [this,List.map_id]
 show Tb.mk t.self (if t.pred.addr=x then Yj else t.pred) (t.succ.filter _) (t.fingers.map _)=t;rw [hp,hs,hf]
end
end Go.Esp
namespace Go.Esp
theorem Zhg {a b:Plc} (h:WY a b):a≠b:=fun e=>by subst e;exact Nat.lt_irrefl _ h
theorem Br {l:List Zr} (h:Uv l) {i j:Nat} (hi:i<l.length) (hj:j<l.length) (hn:i≠j):l[i].id≠l[j].id:=by
 rcases Nat.lt_or_gt_of_ne hn with h1|h1
 ·exact Zhg (E1.1 h.2.2 i j hi hj h1)
 ·exact (Zhg (E1.1 h.2.2 j i hj hi h1)).symm
theorem On {l:List Zr} (h:Uv l) {i j:Nat} (hi:i<l.length) (hj:j<l.length) (hn:i≠j):l[i].addr≠l[j].addr:=by
 have key:∀ i j (hi:i<l.length) (hj:j<l.length),i<j→l[i].addr≠l[j].addr:=fun i j hi hj h1=>by
  have:=E1.1 h.2.1 i j zP zM h1;simpa using this
 grind
def D (a b:Plc):Nat:=(b-a).toNat
theorem Ux (a b:Plc):(a.toNat≤b.toNat∧D a b=b.toNat-a.toNat)∨(b.toNat<a.toNat∧D a b=2 ^ 160-a.toNat+b.toNat):=by
 have h1:=a.isLt;have h2:=b.isLt;unfold D;grind
theorem Zgn {a x b:Plc}:Uh a x b↔x.toNat≠a.toNat∧(a.toNat=b.toNat∨D a x<D a b):=by
 unfold Uh WY;rw [show (x≠a)↔x.toNat≠a.toNat from not_congr KU,KU (a:=a) (b:=b)];rfl
theorem Zim {a x b:Plc}:RL a x b↔x.toNat=b.toNat∨(x.toNat≠a.toNat∧(a.toNat=b.toNat∨D a x<D a b)):=by
 unfold RL;rw [Zgn,KU]
theorem EL {i n:Nat} (h:i<n):(i+1<n∧(i+1) % n=i+1)∨(i+1=n∧(i+1) % n=0):=by
 rcases C7 (i+1) n with h1|h1
 ·exact .inl ⟨h1,E3 h1⟩
 ·obtain rfl:n=i+1:=by omega
  simp
theorem AA {p:Nat→Bool}:∀ {n j:Nat},j<n→p j=true→∃ k,k<n∧p k=true∧∀ i,i<k→p i=false
 | 0,j,h,_=>by omega
 | n+1,j,h,hp=>by
  by_cases he:∃ i,i<n∧p i=true
  ·obtain ⟨i,hi,hpi⟩:=he;obtain ⟨k,h1,h2,h3⟩:=AA hi hpi;exact ⟨k,by omega,h2,h3⟩
  ·have hj:j=n:=by
    rcases C7 j n with h1|h1
    ·grind
    ·omega
   subst hj;refine ⟨j,h,hp,fun i hi=>?_⟩;cases hq:p i with
   | false=>rfl
   | true=>exact (he ⟨i,hi,hq⟩).elim
section
variable {l:List Zr}
def idN (l:List Zr) (i:Nat):Nat:=match l[i]? with
 | some p=>p.id.toNat
 | none=>0
theorem Js {i:Nat} (h:i<l.length):l[i].id.toNat=idN l i:=by unfold idN;rw [A7 h]
theorem AO (l:List Zr) (i:Nat):idN l i<2 ^ 160:=by
 unfold idN;split
 ·omega
 ·decide
theorem AN (h:Uv l) {i j:Nat} (hj:j<l.length) (hij:i<j):idN l i<idN l j:=by
 have:=E1.1 h.2.2 i j jD hj hij;rw [← Js hj,← Js (show i<l.length by omega)];exact this
theorem AP (h:Uv l) {i j:Nat} (hj:j<l.length) (hij:i≤j):idN l i≤idN l j:=by
 rcases C7 i j with h1|h1
 ·exact Nat.le_of_lt (AN h hj h1)
 ·grind
theorem MT (h:Uv l) (h0:0<l.length) (x:Plc):(∃ o,o<l.length∧Ve l x=o∧(∀ j,j<o→idN l j<x.toNat)∧x.toNat≤idN l o)∨(Ve l x=0∧∀ j,j<l.length→idN l j<x.toNat):=by
 by_cases he:∃ j,j<l.length∧pO l x j=true
 ·obtain ⟨j,hj,hpj⟩:=he;obtain ⟨o,ho,hpo,hm⟩:=AA hj hpj;refine .inl ⟨o,ho,Zgl ho hm hpo,fun j hj=>?_,?_⟩
  ·have h9:=hm j hj;rw [Zgk jD] at h9;have h7:WY l[j].id x:=I0.1 (of_decide_eq_false h9);unfold WY at h7;rw [Js] at h7;exact h7
  ·rw [Zgk ho] at hpo;have h8:=of_decide_eq_true hpo;unfold WY at h8;rw [Js] at h8;omega
 ·have hm:∀ j,j<l.length→pO l x j=false:=fun j hj=>by
   cases hq:pO l x j with
   | false=>rfl
   | true=>exact (he ⟨j,hj,hq⟩).elim
  refine .inr ⟨CM hm,fun j hj=>?_⟩;have h9:=hm j hj;rw [Zgk hj] at h9;have h7:WY l[j].id x:=I0.1 (of_decide_eq_false h9);unfold WY at h7;rw [Js] at h7;exact h7
theorem EF (h:Uv l) {x:Plc} {o j:Nat} (ho:o<l.length) (ho2:Ve l x=o) (hj:j<l.length):D x l[o].id≤D x l[j].id:=by
 have c1:=Ux x l[o].id;have c2:=Ux x l[j].id;simp only [Js] at c1 c2;have b1:=AO l o;have b2:=AO l j;have b3:=x.isLt;rcases MT h jD x with ⟨o',_,h1,h2,h3⟩|⟨h1,h2⟩
 ·rw [h1] at ho2;subst ho2;rcases C7 j o' with h4|h4
  ·grind
  ·have:=AP h hj h4;omega
 ·rw [h1] at ho2;subst ho2;have m1:=h2 j hj;have m2:=h2 0 ho;have m3:=AP h hj (C3 j);omega
theorem Li (h:Uv l) {x:Plc} {i k:Nat} (hi:i<l.length) (hk:k<l.length) (hk2:(i+1) % l.length=k) (hd:RL l[i].id x l[k].id):Ve l x=k:=by
 rw [Zim] at hd;have c1:=Ux l[i].id x;have c2:=Ux l[i].id l[k].id;simp only [Js] at c1 c2 hd;have b1:=AO l i;have b2:=AO l k;have b3:=x.isLt;rcases EL hi with ⟨g1,g2⟩|⟨g1,g2⟩
 ·rw [g2] at hk2;subst hk2;have m:=AN h hk (Nat.lt_succ_self i);rcases MT h jD x with ⟨o,h0,h1,h2,h3⟩|⟨h1,h2⟩
  ·rw [h1];rcases Nat.lt_trichotomy o (i+1) with h4|h4|h4
   ·have:=AP h hi (show o≤i by omega);omega
   ·exact h4
   ·grind
  ·grind
 ·rw [g2] at hk2;subst hk2;rcases MT h jD x with ⟨o,h0,h1,h2,h3⟩|⟨h1,h2⟩
  ·rw [h1];rcases Nat.eq_zero_or_pos o with h4|h4
   ·exact h4
   ·have m1:=h2 0 h4;have m2:=AP h hi (show o≤i by omega);omega
  ·exact h1
theorem Zgv (h:Uv l) {x:Plc} {i k:Nat} (hi:i<l.length) (hk:k<l.length) (hk2:(i+1) % l.length=k) (hd:¬RL l[i].id x l[k].id):k≠i∧Uh l[i].id l[k].id x:=by
 rw [Zim] at hd;rw [Zgn];have hne:k≠i:=fun e=>by subst e;omega
 have hid:=Br h hk hi hne;have c1:=Ux l[i].id x;have c2:=Ux l[i].id l[k].id;omega
end
end Go.Esp
namespace Go.Esp
theorem Rc {l:List Zr} (h:Uv l) {i j:Nat} (hi:i<l.length) (hj:j<l.length) (hn:j≠i):Ys l[i] l[j] :=
 ⟨h.1 _ (C1 hj),On h hj hi hn,Br h hj hi hn⟩
theorem RR {l:List Zr} {i:Nat} (hi:i<l.length) {p:Zr} (hp:p∈Wf l i):∃ j,∃ hj:j<l.length,j≠i∧p=l[j]:=by
 rcases B8.1 hp with hp|hp
 ·obtain ⟨k,hk,rfl⟩:=E2 hp;grind
 ·obtain ⟨k,hk,rfl⟩:=E2 hp;grind
theorem LG {l:List Zr} {i:Nat} (h:(l.map Zr.addr).Nodup):((Wf l i).map Zr.addr).Nodup:=by
 have h1:(l.take i++l.drop (i+1)).Sublist l:=by
  conv=>rhs;rw [← F0 i l]
  exact List.Sublist.append_left (List.drop_sublist_drop_left l (Nat.le_succ i)) _
 have h2:(Wf l i).Perm (l.take i++l.drop (i+1)):=List.perm_append_comm;grind
theorem Zbh {l:List Zr} {i:Nat} (h:Xk l) (hi:i<l.length) (k:Nat):RC l[i] (MN l i l[i] k):=by
 unfold MN;split
 ·exact .inl rfl
 ·rename_i hn;have ho:=Ua (l:=l) (x:=l[i].id+To k) jD;rw [A7 ho];exact .inr (Rc h.2 hi ho hn)
theorem Iy {l:List Zr} {i r:Nat} (h:Xk l) (hi:i<l.length) (hr:r≤8):TG (RH l r i l[i]):=by
 refine ⟨h.2.1 _ (C1 hi),?_,?_,?_,⟨fun p hp=>?_,?_⟩,fun p hp=>?_⟩
 ·show RC l[i] ((Wf l i).getLastD Yj);rcases Nat.eq_zero_or_pos (Wf l i).length with h0|h0
  ·rw [D4 h0];exact .inl rfl
  ·rw [Ge h0];obtain ⟨j,hj,hn,e⟩:=RR hi (C1 (l:=Wf l i) (n:=(Wf l i).length-1) jD);rw [e];exact .inr (Rc h.2 hi hj hn)
 ·show ((Wf l i).take r).length≤8;grind
 ·rfl
 ·obtain ⟨j,hj,hn,e⟩:=RR hi (F9 hp);rw [e];exact Rc h.2 hi hj hn
 ·exact (LG h.2.2.1).sublist ((List.take_sublist _ _).map _)
 ·obtain ⟨k,_,rfl⟩:=C0.1 hp;exact Zbh h hi k
theorem MM {l:List Zr} {r i:Nat} (hi:i<l.length):(Nb l r)[i]'(by rw [Tp];exact hi)=RH l r i l[i]:=by
 unfold Nb;simp
theorem ML {l:List Zr} {r:Nat} (h:Xk l) (hr:r≤8):UI (Nb l r):=by
 refine ⟨by rw [Tp];exact h.1.2,fun t ht=>?_,?_⟩
 ·obtain ⟨i,hi,rfl⟩:=E2 ht;rw [Tp] at hi;rw [MM hi];exact Iy h hi hr
 ·have e:(Nb l r).map (fun t=>t.self.addr)=l.map Zr.addr:=by
   refine J4 (by simp [Tp]) fun i h1 h2=>?_;simp only [A8,Tp] at h1;simp only [I7];rw [MM h1];rfl
  rw [e];exact h.2.2.1
theorem Zpc {l:List Tb} (h:UI l) {i:Nat} (hi:i<l.length):Ug l l[i].self.addr=some l[i]:=by
 unfold Ug;rw [List.find?_eq_some_iff_getElem];refine ⟨by simp,i,hi,rfl,fun j hj=>?_⟩;have h1:=(E1.1 h.2.2) j i jU zP hj;grind
theorem Dx {l:List Tb} {a:Int} {t:Tb} (h:Ug l a=some t):t∈l∧t.self.addr=a:=⟨List.mem_of_find?_eq_some h,by simpa using List.find?_some h⟩
theorem Dw {l:List Zr} {r i:Nat} (h:Xk l) (hr:r≤8) (hi:i<l.length):Ug (Nb l r) l[i].addr=some (RH l r i l[i]):=by
 have h1:=Zpc (ML h hr) (i:=i) (by rw [Tp];exact hi);rw [MM hi] at h1;exact h1
section
variable {l:List Tb} {id:Plc} {most more:Nat}
theorem Qu {n:Nat} {t:Tb} {hops:List Int}:Wp l id most (n+1) t hops=(⟨hops,Yv t⟩,0)∧(WV t id).2=true ∨
 (WV t id).2=false∧(Wp l id most (n+1) t hops=(Rt.zero,7)∧(YJ t id []).2=false ∨
  (YJ t id []).2=true∧(Wp l id most (n+1) t hops=(Rt.zero,2)∧most<hops.length ∨
   hops.length≤most∧(Wp l id most (n+1) t hops=(Rt.zero,5)∧Ug l (YJ t id []).1.addr=none ∨
    ∃ u,Ug l (YJ t id []).1.addr=some u∧Wp l id most (n+1) t hops=Wp l id most n u (hops++[(YJ t id []).1.addr])))):=by
 obtain ⟨⟨p,d⟩,hd⟩:∃ r,WV t id=r:=⟨_,rfl⟩
 obtain ⟨⟨q,o⟩,ho⟩:∃ r,YJ t id []=r:=⟨_,rfl⟩
 rw [hd,ho];cases d with
 | true =>
  refine .inl ⟨?_,rfl⟩;rw [Pr hd];have:p=Yv t:=(A9 Prod.fst hd).symm;rw [this]
 | false =>
  refine .inr ⟨rfl,?_⟩;cases o with
  | false=>exact .inl ⟨Kw hd ho,rfl⟩
  | true =>
   refine .inr ⟨rfl,?_⟩;rcases C7 most hops.length with h|h
   ·exact .inl ⟨PT hd ho h,h⟩
   ·refine .inr ⟨h,?_⟩;cases hf:Ug l q.addr with
    | none=>exact .inl ⟨Lz hd ho jD hf,rfl⟩
    | some u=>exact .inr ⟨u,rfl,Pq hd ho jD hf⟩
theorem Kz:∀ {n:Nat} {t:Tb} {hops:List Int},(Wp l id most n t hops).2≠1∧((Wp l id most n t hops).2≠0→(Wp l id most n t hops).1=Rt.zero)
 | 0,t,hops=>⟨by unfold Wp;decide,fun _=>by unfold Wp;rfl⟩
 | n+1,t,hops=>by
  rcases Qu (l:=l) (id:=id) (most:=most) (n:=n) (t:=t) (hops:=hops) with ⟨h,_⟩|⟨_,⟨h,_⟩|⟨_,⟨h,_⟩|⟨_,⟨h,_⟩|⟨u,_,h⟩⟩⟩⟩
  ·rw [h];exact ⟨(show (0:Int)≠1 by decide),fun h=>absurd rfl h⟩
  ·rw [h];exact ⟨by decide,fun _=>rfl⟩
  ·rw [h];exact ⟨by decide,fun _=>rfl⟩
  ·rw [h];exact ⟨by decide,fun _=>rfl⟩
  ·rw [h];exact Kz
theorem Kx:∀ {n n2:Nat} {t:Tb} {hops:List Int} {R:Rt},hops.length+n=most+2→hops.length+n2=more+2→hops.length≤more+1→Wp l id most n t hops=(R,0) →
 hops.length≤R.hops.length∧R.hops.length≤most+1∧(R.hops.length≤more+1→Wp l id more n2 t hops=(R,0))∧(more+1<R.hops.length→Wp l id more n2 t hops=(Rt.zero,2))
 | 0,n2,t,hops,R,h1,h2,h3,h=>by unfold Wp at h;cases h
 | n+1,0,t,hops,R,h1,h2,h3,h=>by omega
 | n+1,n2+1,t,hops,R,h1,h2,h3,h=>by
  rcases Qu (l:=l) (id:=id) (most:=most) (n:=n) (t:=t) (hops:=hops) with ⟨g,gd⟩|⟨gd,⟨g,_⟩|⟨gn,⟨g,_⟩|⟨gm,⟨g,_⟩|⟨u,gf,g⟩⟩⟩⟩
  ·rw [g] at h;obtain rfl:Rt.mk hops (Yv t)=R:=A9 Prod.fst h;have e:Wp l id more (n2+1) t hops=(⟨hops,Yv t⟩,0):=Pr (show WV t id=(Yv t,true) from Prod.ext rfl gd);exact ⟨B9 _,by show hops.length≤_;omega,fun _=>e,fun h9=>by have:more+1<hops.length:=h9;omega⟩
  ·rw [g] at h;cases h
  ·rw [g] at h;cases h
  ·rw [g] at h;cases h
  ·rw [g] at h;have ed:WV t id=(Yv t,false):=Prod.ext rfl gd;have en:YJ t id []=((YJ t id []).1,true):=Prod.ext rfl gn;rcases C7 more hops.length with hm|hm
   ·skip
    have hlen:(hops++[(YJ t id []).1.addr]).length=hops.length+1:=by simp
    have e:=PT (l:=l) (most:=more) (n:=n2) (hops:=hops) ed en hm;have key:∀ {n:Nat} {t:Tb} {hops:List Int},hops.length+n=most+2→Wp l id most n t hops=(R,0)→hops.length≤R.hops.length∧R.hops.length≤most+1:=by
     intro n
     induction n with
     | zero=>intro t hops _ h;unfold Wp at h;cases h
     | succ n ih =>
      intro t hops h1 h;rcases Qu (l:=l) (id:=id) (most:=most) (n:=n) (t:=t) (hops:=hops) with ⟨g,gd⟩|⟨gd,⟨g,_⟩|⟨gn,⟨g,_⟩|⟨gm,⟨g,_⟩|⟨u,gf,g⟩⟩⟩⟩
      ·rw [g] at h;obtain rfl:Rt.mk hops (Yv t)=R:=A9 Prod.fst h;exact ⟨B9 _,by show hops.length≤_;omega⟩
      ·rw [g] at h;cases h
      ·rw [g] at h;cases h
      ·rw [g] at h;cases h
      ·rw [g] at h;have:=ih jU h;simp only [B3,I6] at this;omega
    have k:=key (by rw [hlen];omega) h;rw [hlen] at k;exact ⟨by omega,k.2,fun h9=>by omega,fun _=>e⟩
   ·have e:=Pq (l:=l) (most:=more) (n:=n2) (hops:=hops) ed en jD gf;have ih:=Kx (n:=n) (n2:=n2) (t:=u) (hops:=hops++[(YJ t id []).1.addr]) (R:=R) jU jU jU h;rw [e];simp only [B3,I6] at ih;exact ⟨by omega,ih.2.1,ih.2.2⟩
end
theorem Zem {l:List Tb} {frm:Int} {id:Plc} {most more:Nat} (h1:most≤64) (h2:more≤64) :
 ((Vk l frm id most).2≠0→(Vk l frm id most).1=Rt.zero∧((Vk l frm id most).2=1→(Vk l frm id more).2=1)) ∧
 ((Vk l frm id most).2=0→0<(Vk l frm id most).1.hops.length∧(Vk l frm id most).1.hops.length≤most+1 ∧
  (more+1<(Vk l frm id most).1.hops.length→(Vk l frm id more).2=2)∧((Vk l frm id most).1.hops.length≤more+1→Vk l frm id more=Vk l frm id most)):=by
 by_cases hR:UI l
 ·cases hf:Ug l frm with
  | none =>
   rw [Oy hf,Oy hf];exact ⟨fun _=>⟨rfl,fun _=>rfl⟩,fun h=>absurd h jM⟩
  | some t =>
   rw [Qt hR h1 hf,Qt hR h2 hf];obtain ⟨c1,c2⟩:=Kz (l:=l) (id:=id) (most:=most) (n:=most+1) (t:=t) (hops:=[frm]);refine ⟨fun h=>⟨c2 h,fun h9=>absurd h9 c1⟩,fun h=>?_⟩;obtain ⟨⟨R,c⟩,hr⟩:∃ r,Wp l id most (most+1) t [frm]=r:=⟨_,rfl⟩
   rw [hr] at h ⊢;have hc:c=0:=h;subst hc;have k:=Kx (more:=more) (n2:=more+1) jU jU jQ hr;exact ⟨k.1,k.2.1,fun h9=>by rw [k.2.2.2 h9],fun h9=>k.2.2.1 h9⟩
 ·rw [Pp hR,Pp hR];simp
structure HopOk (l:List Tb) (id:Plc) (R:Rt) (k:Nat):Prop where
  there:∃ u,Ug l (R.hops.getD k 0)=some u∧((WV u id).2=true↔k+1=R.hops.length)∧(k+1=R.hops.length→(WV u id).1=R.end_)∧(k+1<R.hops.length→(YJ u id []).2=true∧(YJ u id []).1.addr=R.hops.getD (k+1) 0)
theorem Ky {l:List Tb} {id:Plc} {most:Nat}:∀ {n:Nat} {t:Tb} {hops:List Int} {R:Rt},0<hops.length→Ug l (hops.getD (hops.length-1) 0)=some t→Wp l id most n t hops=(R,0) →
 hops.length≤R.hops.length∧R.hops.take hops.length=hops∧∀ k,hops.length-1≤k→k<R.hops.length→HopOk l id R k
 | 0,t,hops,R,h0,h1,h=>by unfold Wp at h;cases h
 | n+1,t,hops,R,h0,h1,h=>by
  rcases Qu (l:=l) (id:=id) (most:=most) (n:=n) (t:=t) (hops:=hops) with ⟨g,gd⟩|⟨gd,⟨g,_⟩|⟨gn,⟨g,_⟩|⟨gm,⟨g,_⟩|⟨u,gf,g⟩⟩⟩⟩
  ·rw [g] at h;obtain rfl:Rt.mk hops (Yv t)=R:=A9 Prod.fst h;refine ⟨B9 _,G0,fun k hk hk2=>?_⟩;have hk2:k<hops.length:=hk2;obtain rfl:k=hops.length-1:=by omega
   exact ⟨t,h1,⟨fun _=>by show hops.length-1+1=hops.length;omega,fun _=>gd⟩,fun _=>rfl,fun h9=>by have:hops.length-1+1<hops.length:=h9;omega⟩
  ·rw [g] at h;cases h
  ·rw [g] at h;cases h
  ·rw [g] at h;cases h
  ·rw [g] at h;have ih:=Ky (n:=n) (t:=u) (hops:=hops++[(YJ t id []).1.addr]) (R:=R) jQ (by simpa [D7] using gf) h;simp only [B3,I6,Nat.add_sub_cancel] at ih;obtain ⟨i1,i2,i3⟩:=ih;have hpre:R.hops.take hops.length=hops:=by
    have:=A9 (List.take hops.length) i2;rw [I3,I5 jD,List.take_left] at this;exact this
   refine ⟨by omega,hpre,fun k hk hk2=>?_⟩;rcases C7 k hops.length with h9|h9
   ·obtain rfl:k=hops.length-1:=by omega
    have e1:R.hops.getD (hops.length-1) 0=hops.getD (hops.length-1) 0:=by
     conv=>rhs;rw [← hpre]
     rw [D7,D7,List.getElem?_take_of_lt (by rw [hpre];omega),hpre]
    have e2:R.hops.getD (hops.length-1+1) 0=(YJ t id []).1.addr:=by
     rw [show hops.length-1+1=hops.length by omega];have this:(R.hops.take (hops.length+1))[hops.length]?=(hops++[(YJ t id []).1.addr])[hops.length]?:=by rw [i2]
     rw [List.getElem?_take_of_lt jD,G2 (B9 _),Nat.sub_self] at this;rw [D7,this];rfl
    exact ⟨t,by rw [e1];exact h1,⟨fun h8=>(by rw [gd] at h8;cases h8),fun h8=>by omega⟩,fun h8=>by omega,fun _=>⟨gn,e2.symm⟩⟩
   ·exact i3 k h9 hk2
theorem Zen {l:List Tb} {frm:Int} {id:Plc} {most:Int} (h:(Vk l frm id most).2=0):UI l∧0<(Vk l frm id most).1.hops.length∧(Vk l frm id most).1.hops.getD 0 0=frm∧∀ k,k<(Vk l frm id most).1.hops.length→HopOk l id (Vk l frm id most).1 k:=by
 by_cases hR:UI l
 ·by_cases hm:most<0∨64<most
  ·rw [Ku hm] at h;cases h
  ·obtain ⟨mn,rfl⟩:∃ n:Nat,most=n:=⟨most.toNat,by omega⟩
   cases hf:Ug l frm with
   | none=>rw [Oy hf] at h;cases h
   | some t =>
    rw [Qt hR jD hf] at h ⊢;obtain ⟨⟨R,c⟩,hr⟩:∃ r,Wp l id mn (mn+1) t [frm]=r:=⟨_,rfl⟩
    rw [hr] at h ⊢;have hc:c=0:=h;subst hc;have k:=Ky jQ (by simpa using hf) hr;simp only [I6] at k;refine ⟨hR,k.1,?_,fun j hj=>k.2.2 j jD hj⟩;have:=A9 (fun l=>l.getD 0 0) k.2.1;simp only [D7] at this ⊢;simpa using this
 ·rw [Pp hR] at h;cases h
end Go.Esp
namespace Go.Esp
theorem AZ {s q:Zr}:∀ {xs acc:List Zr},q∈xs.foldl (VU s) acc→q∈acc∨(q∈xs∧0≤q.addr∧q.addr≠s.addr)
 | [],acc,h=>.inl h
 | p::xs,acc,h=>by
  rw [G6] at h;rcases AZ h with h1|⟨h1,h2⟩
  ·unfold VU at h1;split at h1
   ·rename_i hc;rcases B8.1 h1 with h1|h1
    ·exact .inl h1
    ·rw [B0] at h1;subst h1;exact .inr ⟨.head _,hc.1,hc.2.1⟩
   ·exact .inl h1
  ·exact .inr ⟨.tail _ h1,h2⟩
theorem DE {s:Zr} {a:Int}:∀ {xs acc:List Zr},PQ acc a→PQ (xs.foldl (VU s) acc) a
 | [],acc,h=>h
 | p::xs,acc,h=>by
  rw [G6];refine DE ?_;unfold VU;split
  ·unfold PQ at *;rw [C6];exact C5 _ h
  ·exact h
theorem Zaa {s p:Zr} (h0:0≤p.addr) (h1:p.addr≠s.addr):∀ {xs acc:List Zr},p∈xs→PQ (xs.foldl (VU s) acc) p.addr
 | q::xs,acc,h=>by
  rw [G6];rcases B7.1 h with rfl|h
  ·refine DE ?_;unfold VU;split
   ·unfold PQ;simp
   ·rename_i hc;apply C2;intro hn;exact hc ⟨h0,h1,hn⟩
  ·exact Zaa h0 h1 h
theorem Zhq {t:Tb} {q:Zr} (h:q∈Wy t):q∈t.pred::(t.succ++t.fingers)∧0≤q.addr∧q.addr≠t.self.addr:=by
 have hk:=(Og (s:=t.self) (xs:=t.pred::(t.succ++t.fingers)) (I9 []) J8).1;rcases AZ (hk.mem_iff.1 h) with h1|h1
 ·cases h1
 ·exact h1
theorem Zhr {t:Tb} {p:Zr} (h:p∈t.pred::(t.succ++t.fingers)) (h0:0≤p.addr) (h1:p.addr≠t.self.addr):PQ (Wy t) p.addr:=by
 have hk:=(Og (s:=t.self) (xs:=t.pred::(t.succ++t.fingers)) (I9 []) J8).1;exact (Jt hk).2 (Zaa h0 h1 h)
section
variable {l:List Zr} {r:Nat}
theorem Mx (hr:1≤r) {i k:Nat} (hi:i<l.length) (hk:k<l.length) (hk2:(i+1) % l.length=k):Yv (RH l r i l[i])=l[k]:=by
 show ((Wf l i).take r).headD l[i]=l[k];rcases C7 1 l.length with h|h
 ·have h1:=Ex (k:=0) hi jD;rw [hk2,A7 hk] at h1;have h2:((Wf l i).take r)[0]?=some l[k]:=by rw [List.getElem?_take_of_lt jD];exact h1
  rw [List.headD_eq_head?_getD,List.head?_eq_getElem?,h2];rfl
 ·have e1:l.length=1:=by omega
  have hR:Wf l i=[]:=D4 (by rw [QW hi];omega);grind
theorem EY {i:Nat} (h:Xk l) (hi:i<l.length) {q:Zr} (hq:q∈Wy (RH l r i l[i])):∃ j,∃ hj:j<l.length,j≠i∧q=l[j]:=by
 obtain ⟨h1,h2,h3⟩:=Zhq hq;have hF:∀ k,MN l i l[i] k=q→∃ j,∃ hj:j<l.length,j≠i∧q=l[j]:=fun k hk=>by
  unfold MN at hk;split at hk
  ·subst hk;exact absurd h2 jM
  ·rename_i hn;have ho:=Ua (l:=l) (x:=l[i].id+To k) jD;rw [A7 ho] at hk;exact ⟨_,ho,hn,hk.symm⟩
 have h1:q∈(Wf l i).getLastD Yj::((Wf l i).take r++(List.range 160).map (MN l i l[i])):=h1;rcases B7.1 h1 with h1|h1
 ·rcases Nat.eq_zero_or_pos (Wf l i).length with h0|h0
  ·rw [D4 h0] at h1;subst h1;exact absurd h2 jM
  ·rw [Ge h0] at h1;rw [h1];exact RR hi (C1 (l:=Wf l i) (n:=(Wf l i).length-1) jD)
 ·rcases B8.1 h1 with h1|h1
  ·exact RR hi (F9 h1)
  ·grind
theorem Zog {i m:Nat} (h:Xk l) (hi:i<l.length) (hm:m<l.length) (hn:m≠i) (hp:l[m]∈(Wf l i).take r++(List.range 160).map (MN l i l[i])):l[m]∈Wy (RH l r i l[i]):=by
 have h0:=(h.2.1 _ (C1 hm)).1;have hh:=Zhr (t:=RH l r i l[i]) (p:=l[m]) (.tail _ hp) h0 (On h.2 hm hi hn);obtain ⟨q,hq,he⟩:=C0.1 hh;obtain ⟨j,hj,_,rfl⟩:=EY h hi hq;have:j=m:=C2 fun hne=>On h.2 hj hm hne he;grind
theorem Zcg {i k:Nat} (h:Xk l) (hr:1≤r) (hi:i<l.length) (hk:k<l.length) (hk2:(i+1) % l.length=k) (hn:k≠i):l[k]∈Wy (RH l r i l[i]):=by
 refine Zog h hi hk hn (C5 _ ?_);have h1:=Ex (k:=0) hi (by rcases EL hi with ⟨g1,_⟩|⟨g1,g2⟩ <;> omega);rw [hk2,A7 hk] at h1;have h2:((Wf l i).take r)[0]?=some l[k]:=by rw [List.getElem?_take_of_lt jD];exact h1
 grind
theorem Zrd {i:Nat} (h:Xk l) (hr:1≤r) (hi:i<l.length) {x:Plc} (hd:(WV (RH l r i l[i]) x).2=false):∃ j,∃ hj:j<l.length,j≠i∧YJ (RH l r i l[i]) x []=(l[j],true)∧Uh l[i].id l[j].id x ∧
 ∀ m (hm:m<l.length),m≠i→l[m]∈Wy (RH l r i l[i])→Uh l[i].id l[m].id x→¬Uh l[j].id l[m].id x:=by
 obtain ⟨k,hk⟩:∃ k,(i+1) % l.length=k:=⟨_,rfl⟩
 have hkl:k<l.length:=by rw [← hk];exact G5 _ jD
 have hnd:¬RL l[i].id x l[k].id:=by
  have h9:=of_decide_eq_false hd;rw [Mx hr hi hkl hk] at h9;exact h9
 obtain ⟨hne,hop⟩:=Zgv h.2 hi hkl hk hnd;have hN:=CP (t:=RH l r i l[i]) (id:=x) (avoid:=[]);have hkn:=Zcg h hr hi hkl hk hne;have hc:Ci (RH l r i l[i]).self x [] l[k]:=⟨hop,by simp⟩
 cases hf:(YJ (RH l r i l[i]) x []).2 with
 | false=>exact ((hN.no hf).2 _ hkn hc).elim
 | true =>
  obtain ⟨g1,g2,g3⟩:=hN.yes hf;obtain ⟨j,hj,hji,e⟩:=EY h hi g1;rw [e] at g2 g3;exact ⟨j,hj,hji,Prod.ext e hf,g2.1,fun m hm hmi hmk hmo=>g3 _ hmk ⟨hmo,by simp⟩⟩
theorem Zbu {a q y x:Plc} (h1:Uh a q x) (h2:Uh q y x):Uh a y x:=by
 rw [Zgn] at *;have c1:=Ux a q;have c2:=Ux a x;have c3:=Ux q y;have c4:=Ux q x;have c5:=Ux a y;omega
theorem GB {α:Type} {p q:α→Bool}:∀ {l:List α},(∀ y∈l,p y=true→q y=true)→(∃ y∈l,q y=true∧p y=false)→l.countP p<l.countP q
 | [],_,⟨y,hy,_⟩=>by cases hy
 | z::l,h,⟨y,hy,h1,h2⟩=>by
  have hz:=h z (.head _);rw [List.countP_cons,List.countP_cons];rcases B7.1 hy with rfl|hy
  ·rw [h1,h2];have:l.countP p≤l.countP q:=List.countP_mono_left fun y hy=>h y (.tail _ hy);simp;omega
  ·have:=GB (l:=l) (fun y hy=>h y (.tail _ hy)) ⟨y,hy,h1,h2⟩;cases hp:p z with
   | true=>rw [hz hp];simpa using this
   | false=>simp;omega
def ahead (l:List Zr) (a x:Plc):Nat:=l.countP fun p=>decide (Uh a p.id x)
theorem Zpt {i:Nat} (hi:i<l.length) {x:Plc}:ahead l l[i].id x<l.length:=by
 have:=GB (l:=l) (p:=fun p=>decide (Uh l[i].id p.id x)) (q:=fun _=>true) (fun _ _ _=>rfl) ⟨l[i],C1 hi,rfl,decide_eq_false fun h=>h.1 rfl⟩;rw [List.countP_true] at this;exact this
theorem Zdr {j:Nat} (hj:j<l.length) {a x:Plc} (h:Uh a l[j].id x):ahead l l[j].id x<ahead l a x :=
 GB (fun y _ hy=>decide_eq_true (Zbu h (of_decide_eq_true hy))) ⟨l[j],C1 hj,decide_eq_true h,decide_eq_false fun h=>h.1 rfl⟩
theorem Ng (h:Xk l) (hr:1≤r) (hr2:r≤8) {x:Plc}:∀ {m i:Nat} {hops:List Int} (hi:i<l.length),0<hops.length→hops.length+ahead l l[i].id x≤l.length→hops.length+m=(l.length-1)+2 →
 ∃ R,Wp (Nb l r) x (l.length-1) m (RH l r i l[i]) hops=(R,0)∧R.end_=l[Ve l x]'(Ua jD)∧R.hops.length≤l.length
 | 0,i,hops,hi,h0,h1,h2=>by have:=h.1.1;omega
 | m+1,i,hops,hi,h0,h1,h2=>by
  obtain ⟨k,hk⟩:∃ k,(i+1) % l.length=k:=⟨_,rfl⟩
  have hkl:k<l.length:=by rw [← hk];exact G5 _ jD
  have hfs:=Mx hr hi hkl hk;cases hd:(WV (RH l r i l[i]) x).2 with
  | true =>
   have hh:RL l[i].id x l[k].id:=by
    have h9:=of_decide_eq_true hd;rw [hfs] at h9;exact h9
   have ho:=Li h.2 hi hkl hk hh;refine ⟨⟨hops,l[k]⟩,Pr (Prod.ext hfs hd),?_,by show hops.length≤_;omega⟩;simp only [ho]
  | false =>
   obtain ⟨j,hj,hji,hn,hop,_⟩:=Zrd h hr hi hd;have hl:=Zdr hj hop;have hp:0<ahead l l[i].id x:=by omega
   have hm:=h.1.1;rw [Pq (p:=Yv (RH l r i l[i])) (q:=l[j]) (u:=RH l r j l[j]) (Prod.ext rfl hd) hn jD (Dw h hr2 hj)];exact Ng h hr hr2 hj jQ jU jU
theorem Zeo (h:Xk l) (hr:1≤r) (hr2:r≤8) {x:Plc} {i:Nat} (hi:i<l.length):∃ R:Rt,Vk (Nb l r) l[i].addr x ((l.length:Int)-1)=(R,0)∧R.end_=l[Ve l x]'(Ua (by omega))∧0<R.hops.length∧R.hops.length≤l.length∧R.hops.getD 0 0=l[i].addr∧Vk (Nb l r) l[i].addr x 64=(R,0):=by
 have hm:=h.1;have ha:=Zpt hi (x:=x);obtain ⟨R,h1,h2,h3⟩:=Ng h hr hr2 (x:=x) (m:=l.length-1+1) (hops:=[l[i].addr]) hi jQ jU jU;have e:Vk (Nb l r) l[i].addr x ((l.length-1:Nat):Int)=(R,0):=by
  rw [Qt (ML h hr2) jD (Dw h hr2 hi)];exact h1
 obtain ⟨_,g1,g2,_⟩:=Zen (l:=Nb l r) (frm:=l[i].addr) (id:=x) (most:=((l.length-1:Nat):Int)) zV;have k:=(Zem (l:=Nb l r) (frm:=l[i].addr) (id:=x) (most:=l.length-1) (more:=64) jD jD).2 zV;grind
end
section
variable {l:List Zr} {r:Nat}
end
end Go.Esp
namespace Go.Esp
theorem Lg:∀ {T:List Tb} {t:Tb},(T.map fun t=>t.self.addr).Nodup→t∈T→Ug T t.self.addr=some t
 | [],_,_,h=>by cases h
 | u::T,t,hn,h=>by
  have h2:=D9.1 hn;unfold Ug;rw [List.find?_cons];rcases B7.1 h with rfl|h
  ·simp
  ·have hne:¬u.self.addr=t.self.addr:=fun e=>h2.1 (C0.2 ⟨t,h,e.symm⟩);simp only [hne,decide_false];exact Lg h2.2 h
theorem Zda {T T':List Tb} (hp:T.Perm T') (hn:(T'.map fun t=>t.self.addr).Nodup) (a:Int):Ug T a=Ug T' a:=by
 have hn2:(T.map fun t=>t.self.addr).Nodup:=(hp.map _).nodup_iff.2 hn;cases h:Ug T' a with
 | some t =>
  obtain ⟨h1,h2⟩:=Dx h;rw [← h2];exact Lg hn2 (hp.mem_iff.2 h1)
 | none =>
  cases h9:Ug T a with
  | none=>rfl
  | some t =>
   obtain ⟨h1,h2⟩:=Dx h9;have:=Lg hn (hp.mem_iff.1 h1);rw [h2,h] at this;cases this
theorem Zbm {T T':List Tb} (hp:T.Perm T') (h:UI T'):UI T :=
 ⟨by rw [hp.length_eq];exact h.1,fun t ht=>h.2.1 t (hp.mem_iff.1 ht),(hp.map _).nodup_iff.2 h.2.2⟩
theorem Kv {T T':List Tb} (hf:∀ a,Ug T a=Ug T' a) {id:Plc} {most:Nat}:∀ (n:Nat) (t:Tb) (hops:List Int),Wp T id most n t hops=Wp T' id most n t hops
 | 0,_,_=>rfl
 | n+1,t,hops=>by
  unfold Wp;rw [hf];cases Ug T' (YJ t id []).1.addr with
  | none=>rfl
  | some u=>simp only [Kv hf n]
theorem Zel {T T':List Tb} (hp:T.Perm T') (h:UI T') (frm:Int) (id:Plc) (most:Int):Vk T frm id most=Vk T' frm id most:=by
 have hf:=Zda hp h.2.2;unfold Vk;rw [hf];by_cases hc:0≤most∧most≤64
 ·rw [A6 ⟨Zbm hp h,hc⟩,A6 ⟨h,hc⟩];cases Ug T' frm with
  | none=>rfl
  | some u=>exact Kv hf _ _ _
 ·grind
theorem Mn {pn:Int→Zr} {r:Rg} (hpn:∀ a,(pn a).addr=a) (hs:∀ p∈r.nodes,p.2.table.self=pn p.1) (h:XQ pn r=true) :
 Xk (Wr pn r)∧∀ i (hi:i<(Wr pn r).length),∃ n,YC ((Wr pn r)[i]).addr r.nodes=some n∧n.joined=true∧n.table=RH (Wr pn r) r.copies.toNat i (Wr pn r)[i]:=by
 unfold XQ at h;rw [F1,decide_eq_true_eq,E7] at h;refine ⟨h.1,fun i hi=>?_⟩;have hl:i<(Nb (Wr pn r) r.copies.toNat).length:=by rw [Tp];exact hi
 have h1:=h.2 _ (C1 hl);rw [MM hi] at h1;unfold SG at h1;have ha:(RH (Wr pn r) r.copies.toNat i (Wr pn r)[i]).self.addr=((Wr pn r)[i]).addr:=rfl;rw [ha] at h1;cases hg:YC ((Wr pn r)[i]).addr r.nodes with
 | none=>rw [hg] at h1;cases h1
 | some n =>
  rw [hg] at h1;obtain ⟨g1,g2,g3,g4⟩:=Ki.1 h1;refine ⟨n,rfl,g1,?_⟩;have hself:n.table.self=(Wr pn r)[i]:=by
   rw [hs _ (TW hg)];have hm:=(RP ((XW r).map pn)).mem_iff.1 (C1 hi);obtain ⟨a,_,e⟩:=C0.1 hm;have e2:pn a=(Wr pn r)[i]:=e;rw [← e2,hpn]
  have:n.table=⟨n.table.self,n.table.pred,n.table.succ,n.table.fingers⟩:=rfl;rw [this,hself,g2,g3,g4];rfl
theorem Pi {pn:Int→Zr} (hpn:∀ a,(pn a).addr=a) (r:Rg):((Wr pn r).map Zr.addr).Perm (XW r):=by
 have h:=(RP ((XW r).map pn)).map Zr.addr;rw [I2] at h;have e:(Zr.addr ∘ pn)=id:=by funext a;exact hpn a
 rw [e,List.map_id] at h;exact h
theorem Zcm {pn:Int→Zr} {r:Rg} (hpn:∀ a,(pn a).addr=a) (hs:∀ p∈r.nodes,p.2.table.self=pn p.1) (hc:1≤r.copies∧r.copies≤8) (h:XQ pn r=true) {T:List Tb}
 (hT:T=(XW r).map fun a=>((YC a r.nodes).map Nd.table).getD Tb.zero) {a:Int} (ha:a∈XW r) (x:Plc) :
 ∃ R:Rt,Vk T a x 64=(R,0)∧∃ ho:Ve (Wr pn r) x<(Wr pn r).length,R.end_=(Wr pn r)[Ve (Wr pn r) x]:=by
 obtain ⟨h1,h2⟩:=Mn hpn hs h;have hp:=Pi hpn r;have hset:(Nb (Wr pn r) r.copies.toNat)=((Wr pn r).map Zr.addr).map fun a=>((YC a r.nodes).map Nd.table).getD Tb.zero:=by
  apply J4 (by rw [Tp];simp);intro i g1 g2;rw [Tp] at g1;rw [MM g1,I7,I7];obtain ⟨n,e1,_,e2⟩:=h2 i g1;rw [e1];exact e2.symm
 have hperm:T.Perm (Nb (Wr pn r) r.copies.toNat):=by
  rw [hT,hset];exact (hp.map _).symm
 obtain ⟨i,hi,hai⟩:=E2 (hp.mem_iff.2 ha);rw [A8] at hi;rw [I7] at hai;obtain ⟨R,_,g2,_,_,_,g6⟩:=Zeo (r:=r.copies.toNat) h1 jD jD (x:=x) hi;rw [hai] at g6;exact ⟨R,by rw [Zel hperm (ML h1 jD)];exact g6,Ua (by have:=h1.1;omega),g2⟩
end Go.Esp
namespace Go.Esp
theorem Zbk {l:List Zr} {i:Nat} (hi:i<l.length) (h2:2≤l.length):∃ (j:Nat) (hj:j<l.length) (t:List Zr),j≠i∧Wf l i=l[j]::t∧Wf l j=t++[l[i]]:=by
 by_cases h:i+1<l.length
 ·refine ⟨i+1,h,l.drop (i+1+1)++l.take i,by omega,?_,?_⟩
  ·unfold Wf;rw [G4 h];rfl
  ·unfold Wf;simp
 ·have e:i+1=l.length:=by omega
  refine ⟨0,by omega,(l.drop 1).take (i-1),by omega,?_,?_⟩
  ·unfold Wf;have h0:l=l[0]::l.drop 1:=by
    have:=G4 (l:=l) (i:=0) jD;simpa using this
   obtain ⟨k,rfl⟩:∃ k,i=k+1:=⟨i-1,by omega⟩
   grind
  ·unfold Wf;have hk:(l.drop 1).length=i-1+1:=by rw [F3];omega
   have h1:(l.drop 1).take (i-1+1)=l.drop 1:=H5 jD
   conv=>lhs;rw [← h1]
   rw [List.take_succ_eq_append_getElem jD];grind
theorem JN {s p:Zr} {r:Nat} (hp:¬Ys s p):∀ (t acc:List Zr) (m:Nat),(∀ q∈t,Ys s q)→(∀ q∈t,¬PQ acc q.addr)→(t.map Zr.addr).Nodup→acc.length≤r→r≤m+acc.length →
 Wk s r acc ((t++[p]).take m)=(acc++t).take r
 | [],acc,m,_,_,_,h1,h2=>by
  rw [E0,H5 h1];cases m with
  | zero=>rw [List.take_zero];unfold Wk;rfl
  | succ m =>
   show Wk s r acc (([p]:List Zr).take (m+1))=acc;rw [H5 jQ];unfold Wk;rw [A6 (.inl hp)]
 | q::t,acc,0,_,_,_,h1,h2=>by
  rw [List.take_zero];unfold Wk;rw [List.take_append_of_le_length jD,H5 h1]
 | q::t,acc,m+1,hq,hh,hn,h1,h2=>by
  have hn2:=D9.1 hn;show Wk s r acc (q::(t++[p]).take m)=_;unfold Wk;by_cases e:acc.length=r
  ·rw [A6 (.inr jD),List.take_append_of_le_length jD,H5 h1]
  ·rw [A4 (fun h=>h.elim (fun h=>h (hq q B1)) fun h=>e jD),A4 (hh q B1)];rw [JN hp t (acc++[q]) m (fun z hz=>hq z (B2 _ hz)) (fun z hz=>?_) hn2.2 (by rw [B3];show acc.length+1≤r;omega) (by rw [B3];show r≤m+(acc.length+1);omega)]
   ·rw [B5];rfl
   ·intro h9;unfold PQ at h9;rw [C6] at h9;rcases B8.1 h9 with h9|h9
    ·exact hh z (B2 _ hz) h9
    ·have e9:z.addr=q.addr:=by simpa using h9
     exact hn2.1 (e9 ▸ G8 hz)
theorem Zkr {l:List Zr} {i r:Nat} (h:Xk l) (hi:i<l.length) (h2:2≤l.length) (hr:1≤r) :
 ∃ (j:Nat) (hj:j<l.length),j≠i∧Yv (RH l r i l[i])=l[j]∧(RH l r i l[i]).succ≠[]∧(RH l r j l[j]).pred=l[i]∧Wk l[i] r [l[j]] (RH l r j l[j]).succ=(RH l r i l[i]).succ:=by
 obtain ⟨j,hj,t,hji,e1,e2⟩:=Zbk hi h2;have hs:(RH l r i l[i]).succ=(l[j]::t).take r:=by
  show (Wf l i).take r=_;rw [e1]
 have hs1:(RH l r i l[i]).succ=l[j]::t.take (r-1):=by
  rw [hs];obtain ⟨q,rfl⟩:∃ q,r=q+1:=⟨r-1,by omega⟩
  rfl
 have hn:((Wf l i).map Zr.addr).Nodup:=LG h.2.2.1;rw [e1,D3] at hn;have hn2:=D9.1 hn;have ho:∀ q∈t,Ys l[i] q:=fun q hq=>by
  obtain ⟨k,hk,hki,rfl⟩:=RR hi (p:=q) (by rw [e1];exact B2 _ hq);exact Rc h.2 hi hk hki
 refine ⟨j,hj,hji,?_,?_,?_,?_⟩
 ·unfold Yv;rw [hs1];rfl
 ·grind
 ·show (Wf l j).getLastD Yj=_;grind
 ·rw [hs];show Wk l[i] r [l[j]] ((Wf l j).take r)=_;rw [e2];refine JN (fun q=>q.2.1 rfl) t [l[j]] r ho (fun q hq h9=>?_) hn2.2 hr (by show r≤r+1;omega);have:q.addr=l[j].addr:=by simpa [PQ] using h9
  grind
theorem MI {l:List Zr} {i r:Nat} (hi:i<l.length):GoodT (fun p=>p∈l) (RH l r i l[i]):=by
 have hm:∀ p∈Wf l i,p∈l:=fun p hp=>by
  obtain ⟨j,hj,-,rfl⟩:=RR hi hp;exact C1 hj
 refine ⟨C1 hi,fun hp=>?_,fun p hp=>hm p (F9 hp),fun p hp hn=>?_⟩
 ·show (Wf l i).getLastD Yj∈l;have hp:(Wf l i).getLastD Yj≠Yj:=hp;grind
 ·obtain ⟨k,_,rfl⟩:=C0.1 hp;unfold MN at hn ⊢;grind
section
variable {pn:Int→Zr} {were:List Int} {ns:List (Int×Nd)} {a b c k x X:Int} {n m:Nd} {l:List Zr} {r:Nat}
structure Idl (pn:Int→Zr) (were:List Int) (l:List Zr) (r:Nat) (ns:List (Int×Nd)):Prop where
  wn:WN pn were ns
  circ:Xk l
  rr:1≤r∧r≤8
  all:∀ i (hi:i<l.length),∃ m,YC l[i].addr ns=some m
  one:∀ z m,YC z ns=some m→m.copies=r∧∃ i,∃ hi:i<l.length,z=l[i].addr∧m.table=RH l r i l[i]
  j:Joined ns
  d:AllDead ns
  av:∀ z m,YC z ns=some m→m.findTo=-1∨∀ y∈m.avoid,YC y ns=none
theorem Idl.free (h:Idl pn were l r ns) (hn:YC a ns=some n) (hx:YC x ns=none):GoodT (fun p=>p.addr≠x) n.table:=by
 obtain ⟨-,i,hi,-,e⟩:=h.one a n hn;rw [e];refine (MI hi).mono fun p hp e=>?_;obtain ⟨k,hk,rfl⟩:=E2 hp;obtain ⟨m,hm⟩:=h.all k hk;grind
theorem Idl.forget (h:Idl pn were l r ns) (hn:YC a ns=some n) (hx:YC x ns=none) (h1:x≠-1):Xd n.table x=n.table:=Jw (h.free hn hx) h1
theorem Idl.unping (h:Idl pn were l r ns) (hn:YC a ns=some n):(unping n).table=n.table:=by
 unfold Go.Esp.unping;split
 ·rename_i e;exact h.forget hn (h.d a n hn).2.1 e
 ·rfl
theorem Idl.unask (h:Idl pn were l r ns) (hn:YC a ns=some n):(unask n).table=n.table:=by
 unfold Go.Esp.unask;split
 ·rename_i e;exact h.forget hn (h.d a n hn).1 e
 ·rfl
theorem Idl.unfind (h:Idl pn were l r ns) (hn:YC a ns=some n):(unfind n).table=n.table:=by
 unfold Go.Esp.unfind;split
 ·rfl
 ·rename_i e;exact h.forget hn (h.d a n hn).2.2 e
theorem Idl.put (h:Idl pn were l r ns) {ns1:List (Int×Nd)} (hw:WN pn were ns1) (he:ns1.map (·.1)=ns.map (·.1)) (hJ:Joined ns1) (hD:AllDead ns1)
 (hT:∀ z m1,YC z ns1=some m1→∃ m,YC z ns=some m∧m1.table=m.table∧m1.copies=m.copies∧(m1.findTo=-1∨∀ y∈m1.avoid,YC y ns=none)):Idl pn were l r ns1 where
 wn:=hw
 circ:=h.circ
 rr:=h.rr
 all:=fun i hi=>by
  obtain ⟨m,hm⟩:=h.all i hi;exact Xc he.symm hm
 one:=fun z m1 hz=>by
  obtain ⟨m,hm,e1,e2,-⟩:=hT z m1 hz;rw [e1,e2];exact h.one z m hm
 j:=hJ
 d:=hD
 av:=fun z m1 hz=>by
  obtain ⟨m,hm,-,-,e3⟩:=hT z m1 hz;exact e3.imp_right fun q y hy=>(VF he).2 (q y hy)
theorem Idl.t3 (h:Idl pn were l r ns):Idl pn were l r (T3 x ns):=by
 refine h.put (h.wn.t3 x).1 (h.wn.t3 x).2 (h.j.kept (NK h.wn) (h.wn.t3 x).2) (h.d.t3 h.wn) fun z m1 hz=>?_;obtain ⟨m,hm⟩:=Xc (h.wn.t3 x).2 hz;refine ⟨m,hm,?_⟩;by_cases e:z=x
 ·subst e;rw [QK h.wn hm] at hz;rw [← A5 hz];refine ⟨by rw [JI];exact h.unping hm,?_⟩;obtain ⟨t,p,r,q,u,e3,-⟩:=Rk (fun x=>(YC x ns).isSome) m;rw [e3];exact ⟨rfl,h.av z m hm⟩
 ·rw [GT h.wn e] at hz;rw [← A5 (hm.symm.trans hz)];exact ⟨rfl,rfl,h.av z m hm⟩
theorem Zcb {t:Tb} {p:Zr} (h:t.pred=p):WO t p=t:=by
 subst h;unfold WO;simp
theorem Zmh (n:Nd):(unask n).copies=n.copies∧(unask n).joined=n.joined:=by
 obtain ⟨t,e⟩:=KB n;grind
theorem Idl.ask (h:Idl pn were l r ns) (hn:YC a ns=some n):(Rl n ns).table=n.table∧∀ y,SJ n ns=some y→∃ q,YC y ns=some q∧q.table.pred=n.table.self:=by
 obtain ⟨hc,i,hi,ea,et⟩:=h.one a n hn;have hu:=h.unask hn;have hs:n.table.self=l[i]:=by rw [et];rfl
 have hN:=LY (h.wn.get hn).1 (h.wn.get hn).2.2;by_cases h2:2≤l.length
 ·obtain ⟨j,hj,hji,e1,e2,e3,e4⟩:=Zkr h.circ hi h2 h.rr.1;have hr:ready n=Go.Esp.unask n:=by
   unfold ready;rw [A4 (fun q=>e2 (by rw [← et,← hu];exact q.1))]
  have hne:(ready n).table.succ≠[]:=by rw [hr,hu,et];exact e2
  have hf:Yv (ready n).table=l[j]:=by rw [hr,hu,et];exact e1
  obtain ⟨y,hy⟩:=h.all j hj;obtain ⟨-,i2,hi2,ey,ety⟩:=h.one _ y hy;have hij:i2=j:=by
   refine C2 fun q=>?_;have:=Rc h.circ.2 hi2 hj (fun e=>q e.symm);exact this.2.1 ey
  subst hij;have hys:y.table.self=l[i2]:=by rw [ety];rfl
  have hja:Vg ns l[i2].addr=some y:=by unfold Vg;rw [hy];simp [h.j _ y hy]
  have hof:Ys n.table.self l[i2]:=by rw [hs];exact Rc h.circ.2 hi hj hji
  have hm:Ui (SO (ready n) l[i2].addr):=TP (hr ▸ hN.1) (by rw [hr,hN.2.1];exact QG hof.1 hof.2.1);have key:∀ q,(TU (SO (ready n) l[i2].addr) (tells y q)).table=n.table:=by
   intro q;have hq:Ui { SO (ready n) l[i2].addr with askTo:=-1 }:=TP (q:=(SO (ready n) l[i2].addr).req) (r:=(SO (ready n) l[i2].addr).askReq) hm (VP hm.1.1);have hst:(ready n).table=n.table:=by rw [hr,hu]
   have hrc:(ready n).copies=r:=by rw [hr,(Zmh n).1,hc]
   unfold TU;have hfr:(tells y q).frm=l[i2]:=hys;rw [hfr,OX hq (by show Ys (ready n).table.self l[i2];rw [hst];exact hof)];have hpp:(tells y q).peer=l[i]:=by show y.table.pred=l[i];rw [ety];exact e3
   rw [A4 (fun hcl=>hcl.1.2.1 (by rw [hpp];show l[i].addr=(ready n).table.self.addr;rw [hst,hs]))];show Tb.mk (ready n).table.self (ready n).table.pred (Wk (ready n).table.self (ready n).copies [l[i2]] y.table.succ) (ready n).table.fingers=n.table;rw [hst,hrc,hs,ety,e4,et];rfl
  have hk:Rl n ns=TU (SO (ready n) l[i2].addr) (tells y (nxR (ready n).req)):=by
   unfold Rl;rw [A4 hne,hf,hja]
  refine ⟨by rw [hk];exact key _,fun z hz=>?_⟩;unfold SJ at hz;rw [A4 hne,hf,hja] at hz;rw [hk,key,et,e1] at hz;rw [← A5 hz];exact ⟨y,hy,by rw [ety,e3,hs]⟩
 ·have h0:Wf l i=[]:=by
   have:=QW hi;exact List.length_eq_zero_iff.1 jD
  have hsu:n.table.succ=[]:=by rw [et];show (Wf l i).take r=[];rw [h0,List.take_nil]
  have hpr:n.table.pred=Yj:=by rw [et];show (Wf l i).getLastD Yj=Yj;rw [h0];rfl
  have hr:ready n=Go.Esp.unask n:=by
   unfold ready;rw [A4 (fun q=>q.2 (by rw [hu];exact hpr))]
  have h1:(ready n).table.succ=[]:=by rw [hr,hu];exact hsu
  constructor
  ·unfold Rl;rw [A6 h1,hr,hu]
  ·intro y hy;unfold SJ at hy;rw [A6 h1] at hy;cases hy
theorem Idl.t1_by (h:Idl pn were l r ns) {z:Int} (hz:z≠x):YC z (T1 x ns)=YC z ns:=by
 unfold T1;cases hn:YC x ns with
 | none=>rfl
 | some n =>
  have hj:=h.j x n hn;show YC z (if n.joined=true then DO x n ns else WM x (UJ ns n) ns)=_;rw [A6 hj,GH];have hk:=JK (G:=InW pn were) h.wn hn (h.wn.get hn).2.2 fun y hy=>(h.wn.get (Uo hy).1).2.2;have hW:WN pn were (WM x (Rl n ns) ns):=h.wn.put hn hk.1 hk.2.1 hk.2.2.1;cases ht:SJ n ns with
  | none =>
   rw [Vh h.wn,A4 hz]
  | some y =>
   show YC z (Ti n.table.self y (WM x (Rl n ns) ns))=_;obtain ⟨q,hq,hp⟩:=(h.ask hn).2 y ht;obtain ⟨hy,ho⟩:=hk.2.2.2 y ht;have hyx:y≠x:=fun e=>ho.2.1 (by rw [← hy,e,h.wn.self hn]);have hq2:YC y (WM x (Rl n ns) ns)=some q:=by rw [Vh h.wn,A4 hyx,hq]
   unfold Ti;rw [hq2];show YC z (WM y { q with table:=WO q.table n.table.self } (WM x (Rl n ns) ns))=_;rw [Zcb hp,Vh hW];by_cases e:z=y
   ·rw [A6 e,e,hq]
   ·rw [A4 e,Vh h.wn,A4 hz]
theorem Idl.t1 (h:Idl pn were l r ns):Idl pn were l r (T1 x ns):=by
 refine h.put (h.wn.t1 x).1 (h.wn.t1 x).2 (h.j.kept (PI h.wn) (h.wn.t1 x).2) (h.d.t1 h.wn h.j) fun z m1 hz=>?_;obtain ⟨m,hm⟩:=Xc (h.wn.t1 x).2 hz;refine ⟨m,hm,?_⟩;by_cases e:z=x
 ·subst e;have g1:=RK h.wn hm;rw [A6 (h.j z m hm),hz] at g1;have e1:=A5 g1;rw [e1];refine ⟨(h.ask hm).1,?_⟩;obtain ⟨t,q,y,u,e2,-⟩:=NG m ns;rw [e2];exact ⟨rfl,h.av z m hm⟩
 ·rw [h.t1_by e,hm] at hz;rw [← A5 hz];exact ⟨rfl,rfl,h.av z m hm⟩
end
theorem Zqp {S x t:Plc}:D x t=if D S x≤D S t then D S t-D S x else 2 ^ 160+D S t-D S x:=by
 have h1:=Ux S x;have h2:=Ux S t;have h3:=Ux x t;have b2:=x.isLt;have b3:=t.isLt;grind
theorem Zyn {S p:Plc}:D S (S+p)=p.toNat:=by
 unfold D;rw [show S+p-S=p by rw [BitVec.add_comm,BitVec.add_sub_cancel]]
theorem Ybc {S x t:Plc} (h:D S x=D S t):x=t:=by
 have h1:=Ux S x;have h2:=Ux S t;exact J5 jD
theorem Zko {l:List Zr} (h:Uv l) {i k j o:Nat} (hi:i<l.length) (hk:k≤j) (hj:j<160) (ho:o<l.length) (ho2:Ve l (l[i].id+To k)=o) (ha:RL l[i].id (l[i].id+To j) l[o].id) :
 Ve l (l[i].id+To j)=o:=by
 obtain ⟨o',hq⟩:∃ o',Ve l (l[i].id+To j)=o':=⟨_,rfl⟩
 have hq1:o'<l.length:=hq ▸ Ua jD;rw [hq];refine C2 fun hne=>?_;have m1:=EF h ho ho2 hq1;have m2:=EF h hq1 hq ho;have hid:=Br h hq1 ho hne;have e1:D l[i].id (l[i].id+To k)=2 ^ k:=by rw [Zyn,HT jD]
 have e2:D l[i].id (l[i].id+To j)=2 ^ j:=by rw [Zyn,HT hj]
 have hKJ:2 ^ k≤2 ^ j:=Nat.pow_le_pow_right jM hk;have hJ:2 ^ j<2 ^ 160:=Nat.pow_lt_pow_right jM hj;rw [Zqp (S:=l[i].id) (x:=l[i].id+To k) (t:=l[o].id),Zqp (S:=l[i].id) (x:=l[i].id+To k) (t:=l[o'].id),e1] at m1;rw [Zqp (S:=l[i].id) (x:=l[i].id+To j) (t:=l[o].id),Zqp (S:=l[i].id) (x:=l[i].id+To j) (t:=l[o'].id),e2] at m2;have hT:D l[i].id l[o].id≠D l[i].id l[o'].id:=fun e=>hid (Ybc e).symm;have c1:=Ux l[i].id l[o].id;have c2:=Ux l[i].id l[o'].id;have bo:=(l[o].id).isLt;have bo':=(l[o'].id).isLt;have hh:D l[i].id l[o].id=0∨2 ^ j≤D l[i].id l[o].id:=by
  rcases Zim.1 ha with e|⟨-,e|e⟩
  ·right;rw [← e2,J5 e];exact B9 _
  ·left;omega
  ·right;rw [e2] at e;omega
 grind
theorem Zhe {α:Type} {F:List α} {k e:Nat} {v:α} (hke:k≤e) (he:e≤F.length) (h:∀ m (hm:m<F.length),k≤m→m<e→F[m]=v):F.take k++List.replicate (e-k) v++F.drop e=F:=by
 refine J4 jU fun m h1 h2=>?_;by_cases c1:m<k
 ·grind
 ·by_cases c2:m<e
  ·grind
  ·rw [List.getElem_append_right jU,List.getElem_drop];grind
theorem Iz {l:List Zr} (h:Uv l) {i k o:Nat} (hi:i<l.length) (ho:o<l.length) (ho2:Ve l (l[i].id+To k)=o) (t:Tb) (ht:t.self=l[i]):MN l i l[i] k=Tt t l[o]:=by
 unfold MN Tt;rw [ho2,ht];by_cases e:o=i
 ·grind
 ·rw [A4 e,A4 (fun q=>On h ho hi e (A9 Zr.addr q)),A7 ho];rfl
theorem EC {l:List Zr} {i r o:Nat} (h:Xk l) (hr:r≤8) (hi:i<l.length) {k:Int} (hk:0≤k∧k<160) (ho:o<l.length) (ho2:Ve l (l[i].id+To k.toNat)=o) :
 (WF (RH l r i l[i]) k l[o]).1=RH l r i l[i]∧(WF (RH l r i l[i]) k l[o]).2.2=0:=by
 have hc:TG (RH l r i l[i])∧(0≤k∧k<160)∧(l[o]=(RH l r i l[i]).self∨Ys (RH l r i l[i]).self l[o]):=by
  refine ⟨Iy h hi hr,hk,?_⟩;by_cases e:o=i
  ·subst e;exact .inl rfl
  ·exact .inr (Rc h.2 hi ho e)
 unfold WF;rw [A6 hc];obtain ⟨n,hn⟩:∃ n,k.toNat=n:=⟨_,rfl⟩
 have hn1:n<160:=by omega
 rw [hn] at ho2;simp only [hn];have hs:(RH l r i l[i]).self=l[i]:=rfl;have hF:(RH l r i l[i]).fingers=(List.range 160).map (MN l i l[i]):=rfl;obtain ⟨g1,g2⟩:=KS (s:=l[i]) (p:=l[o]) hn1;refine ⟨?_,trivial⟩;rw [hs,hF];have key:((List.range 160).map (MN l i l[i])).take n++List.replicate (WA l[i] l[o] n n (160-n)-n) (Tt (RH l r i l[i]) l[o])++((List.range 160).map (MN l i l[i])).drop (WA l[i] l[o] n n (160-n))=(List.range 160).map (MN l i l[i]):=by
  refine Zhe jD jU fun m hm h1 h2=>?_;rw [I7,List.getElem_range];have hm160:m<160:=by omega
  by_cases e:m=n
  ·subst e;exact Iz h.2 hi ho ho2 _ rfl
  ·have ha:=KR m jD h1 h2;exact Iz h.2 hi ho (Zko h.2 hi h1 hm160 ho ho2 (of_decide_eq_true ha)) _ rfl
 rw [key];rfl
theorem Zgx {t:Tb} {x:Plc} {av:List Int} (h:∀ p∈Wy t,p.addr∉av):YJ t x av=YJ t x []:=by
 unfold YJ;have key:∀ (L:List Zr) (b:Zr×Bool),(∀ p∈L,p.addr∉av)→L.foldl (Vb t.self x av) b=L.foldl (Vb t.self x []) b:=by
  intro L
  induction L with
  | nil=>intro b _;rfl
  | cons p L ih =>
   intro b hL;rw [G6,G6];have e:Vb t.self x av b p=Vb t.self x [] b p:=by
    have hp:=hL p B1;unfold Vb;simp [hp]
   rw [e];exact ih _ fun q hq=>hL q (B2 _ hq)
 grind
section
variable {pn:Int→Zr} {were:List Int} {ns:List (Int×Nd)} {a b c k x X:Int} {n m:Nd} {l:List Zr} {r:Nat}
theorem Idl.known (h:Idl pn were l r ns) {i:Nat} (hi:i<l.length) {av:List Int} (hav:∀ y∈av,YC y ns=none):∀ p∈Wy (RH l r i l[i]),p.addr∉av:=fun p hp hin=>by
 have hg:=Pd (MI (r:=r) hi) p hp;obtain ⟨k,hk,rfl⟩:=E2 hg;obtain ⟨m,hm⟩:=h.all k hk;rw [hav _ hin] at hm;cases hm
theorem Idl.tells (h:Idl pn were l r ns) {y:Nd} {z:Int} (hy:YC z ns=some y) {lt:Lt} (hav:∀ q∈lt.avoid,YC q ns=none) (hd:(Xq y lt).done=true) :
 ∃ (hl:0<l.length),(Xq y lt).peer=l[Ve l lt.id]'(Ua hl):=by
 obtain ⟨-,i,hi,-,e⟩:=h.one z y hy;have hl:0<l.length:=by omega
 rw [Hh hd];obtain ⟨k,hk⟩:∃ k,(i+1) % l.length=k:=⟨_,rfl⟩
 have hkl:k<l.length:=by rw [← hk];exact G5 _ jD
 have hf:=Mx h.rr.1 hi hkl hk;have hd2:(WV y.table lt.id).2=true:=by
  cases hq:(WV y.table lt.id).2 with
  | true=>rfl
  | false =>
   rw [e] at hq;obtain ⟨j,hj,-,e2,-⟩:=Zrd h.circ h.rr.1 hi hq;have hn:=Zgx (x:=lt.id) (h.known hi hav);unfold Xq at hd;dsimp only at hd;rw [e,hq,hn,e2] at hd;cases hd
 rw [e] at hd2 ⊢;have hh:RL l[i].id lt.id l[k].id:=by
  have h9:=of_decide_eq_true hd2;rw [hf] at h9;exact h9
 have:=Li h.circ.2 hi hkl hk hh;grind
theorem Idl.chase (h:Idl pn were l r ns) {i:Nat} (hi:i<l.length):∀ (F:Nat) (m:Nd),m.joined=true→m.table=RH l r i l[i]→(0≤m.cursor∧m.cursor<160)→m.findID=l[i].id+To m.cursor.toNat→(∀ q∈m.avoid,YC q ns=none) →
 (XS ns F m).table=RH l r i l[i]
 | 0,m,_,ht,_,_,_=>ht
 | F+1,m,hj,ht,hc,hid,hav=>by
  unfold XS;cases hf:Vz ns m.table.self m.findTo with
  | none=>exact ht
  | some y =>
   obtain ⟨hy,hyj,hyo⟩:=Vi hf;show (match (YF m (Xq y (Xl m))).2 with
    | []=>(YF m (Xq y (Xl m))).1
    | _=>XS ns F (YF m (Xq y (Xl m))).1).table=_
   have hdone:(Xq y (Xl m)).done=true→(WZ { m with findTo:=-1 } (Xq y (Xl m)).peer).table=RH l r i l[i]:=by
    intro hd;obtain ⟨hl,e⟩:=h.tells hy (lt:=Xl m) hav hd;have e:(Xq y (Xl m)).peer=l[Ve l m.findID]'(Ua hl):=e;have hp:=EC (r:=r) h.circ h.rr.2 hi hc (Ua hl) (o:=Ve l m.findID) (by rw [hid]);rw [e];unfold WZ;have hp2:(WF m.table m.cursor (l[Ve l m.findID]'(Ua hl))).2.2=0:=by rw [ht];exact hp.2
    rw [A6 hp2];show (WF m.table m.cursor (l[Ve l m.findID]'(Ua hl))).1=_;rw [ht];exact hp.1
   cases hs:(YF m (Xq y (Xl m))).2 with
   | nil =>
    show (YF m (Xq y (Xl m))).1.table=_;unfold YF;split
    ·exact ht
    ·split
     ·rename_i hd;dsimp only;split
      ·exact hdone hd
      ·split
       ·rename_i hc2;rw [hj] at hc2;exact absurd hc2.1 jM
       ·exact ht
     ·split
      ·exact ht
      ·exact ht
   | cons z zs =>
    show (XS ns F (YF m (Xq y (Xl m))).1).table=_;have h1:m.findTo=(Xq y (Xl m)).frm.addr:=by
     refine C2 fun q=>?_;have:YF m (Xq y (Xl m))=(m,[]):=by unfold YF;rw [A6 (.inl q)]
     rw [this] at hs;cases hs
    rcases Pe (n:=m) (l:=Xq y (Xl m)) h1 rfl with e|⟨e,-,-,-,-⟩
    ·rw [hs] at e;cases e
    ·rw [e];exact h.chase hi F _ hj ht hc hid hav
theorem Ab {n:Nd} {z q:Int} (h:q∈(Uf n z).avoid):q∈n.avoid∨q=z:=by
 unfold Uf at h;grind
theorem Idl.avoid (h:Idl pn were l r ns) (hn:YC a ns=some n):∀ q∈(Go.Esp.unfind n).avoid,YC q ns=none:=by
 intro q hq;unfold Go.Esp.unfind at hq;by_cases e:n.findTo=-1
 ·grind
 ·rw [A4 e] at hq;rcases Ab (n:=n) (z:=n.findTo) hq with h1|h1
  ·exact ((h.av a n hn).resolve_left e) q h1
  ·rw [h1];exact (h.d a n hn).2.2
theorem Idl.fix (h:Idl pn were l r ns) (hn:YC a ns=some n):(OR ns n).table=n.table:=by
 obtain ⟨hc,i,hi,ea,et⟩:=h.one a n hn;have hu:=h.unfind hn;have hj:=h.j a n hn;have hcu:(Go.Esp.unfind n).cursor=n.cursor∧(Go.Esp.unfind n).joined=n.joined:=by
  obtain ⟨t,e⟩:=QT n;rw [e];exact ⟨rfl,rfl⟩
 have hcr:=(h.wn.get hn).1.2.2.2.1;have hid:TX (Go.Esp.unfind n)=l[i].id+To n.cursor.toNat:=by
  unfold TX;rw [hu,et,hcu.1];rfl
 unfold OR;rw [A4 zN,hid,hu,et];split
 ·rename_i hd;obtain ⟨k,hk⟩:∃ k,(i+1) % l.length=k:=⟨_,rfl⟩
  have hkl:k<l.length:=by rw [← hk];exact G5 _ jD
  have hf:=Mx h.rr.1 hi hkl hk;have hh:RL l[i].id (l[i].id+To n.cursor.toNat) l[k].id:=by
   have h9:=of_decide_eq_true hd;rw [hf] at h9;exact h9
  have ho:=Li h.circ.2 hi hkl hk hh;have hp:=EC (r:=r) h.circ h.rr.2 hi ⟨hcr.1,by omega⟩ hkl ho;show (WZ (Go.Esp.unfind n) (Yv (RH l r i l[i]))).table=_;unfold WZ;grind
 ·split
  ·grind
  ·exact h.chase hi 33 _ (hcu.2.trans hj) (hu.trans et) (by show 0≤(Go.Esp.unfind n).cursor∧(Go.Esp.unfind n).cursor<160;rw [hcu.1];omega) (by show _=l[i].id+To (Go.Esp.unfind n).cursor.toNat;rw [hcu.1];rfl) (h.avoid hn)
theorem Idl.t2 (h:Idl pn were l r ns):Idl pn were l r (T2 x ns):=by
 refine h.put (h.wn.t2 x).1 (h.wn.t2 x).2 (h.j.kept (NL h.wn) (h.wn.t2 x).2) (h.d.t2 h.wn h.j) fun z m1 hz=>?_;obtain ⟨m,hm⟩:=Xc (h.wn.t2 x).2 hz;refine ⟨m,hm,?_⟩;by_cases e:z=x
 ·subst e;rw [RA h.wn hm] at hz;rw [← A5 hz];refine ⟨h.fix hm,?_⟩;obtain ⟨t,cu,q,f,u,id,hp,e2,-⟩:=Lf (G:=InW pn were) h.wn hm (h.j z m hm) (h.wn.get hm).2.2 fun s b x hx=>(h.wn.get (Vi hx).1).2.2;rw [e2];exact ⟨rfl,.inr (h.avoid hm)⟩
 ·rw [Ow h.wn e] at hz;rw [← A5 (hm.symm.trans hz)];exact ⟨rfl,rfl,h.av z m hm⟩
theorem Idl.go:∀ (L:List Int) {ns:List (Int×Nd)},Idl pn were l r ns→Idl pn were l r (goQ L ns)
 | [],_,h=>h
 | a::L,_,h=>Idl.go L h.t1.t3.t2
theorem Idl.round (h:Idl pn were l r ns):Idl pn were l r (Xt ns):=Idl.go _ h
end
end Go.Esp
namespace Go.Esp
section
variable {pn:Int→Zr} {were:List Int} {ns:List (Int×Nd)} {a b c k x X:Int} {n m:Nd} {bag:List Ml}
theorem Idl.of_ideal (hw:WN pn were ns) (hi:XQ pn ⟨c,k,ns,bag⟩=true) (hc:1≤c∧c≤8) (hcop:∀ z m,YC z ns=some m→m.copies=c) (hd:AllDead ns) (hav:∀ z m,YC z ns=some m→m.findTo=-1∨∀ y∈m.avoid,YC y ns=none) :
    Idl pn were (Wr pn ⟨c,k,ns,bag⟩) c.toNat ns:=by
  have h:=Mn hw.at' (fun p hp=>(hw.nd p hp).2.1) hi
  have key:∀ z m,YC z ns=some m→∃ i,∃ hi:i<(Wr pn ⟨c,k,ns,bag⟩).length,z=((Wr pn ⟨c,k,ns,bag⟩)[i]).addr:=by
    intro z m hz
    have h1:z∈XW ⟨c,k,ns,bag⟩:=by
      exact C0.2 ⟨(z,m),TW hz,rfl⟩
    have h2:=(Pi hw.at' ⟨c,k,ns,bag⟩).mem_iff.2 h1
    obtain ⟨p,hp,rfl⟩:=C0.1 h2
    obtain ⟨i,hi,rfl⟩:=E2 hp
    exact ⟨i,hi,rfl⟩
  have at_:∀ z m,YC z ns=some m→m.joined=true∧∃ i,∃ hi:i<(Wr pn ⟨c,k,ns,bag⟩).length,z=((Wr pn ⟨c,k,ns,bag⟩)[i]).addr∧m.table=RH (Wr pn ⟨c,k,ns,bag⟩) c.toNat i (Wr pn ⟨c,k,ns,bag⟩)[i]:=by
    intro z m hz
    obtain ⟨i,hi,e⟩:=key z m hz
    obtain ⟨n,h1,h2,h3⟩:=h.2 i hi
    rw [← e,hz] at h1
    rw [A5 h1]
    exact ⟨h2,i,hi,e,h3⟩
  exact { wn:=hw,circ:=h.1,rr:=by omega
          all:=fun i hi=>by obtain ⟨n,h1,-,-⟩:=h.2 i hi;exact ⟨n,h1⟩
          one:=fun z m hz=>⟨by rw [hcop z m hz];omega,(at_ z m hz).2⟩
          j:=fun z m hz=>(at_ z m hz).1
          d:=hd,av:=hav }
theorem Idl.ideal (h:Idl pn were (Wr pn ⟨c,k,ns,bag⟩) c.toNat ns):XQ pn ⟨c,k,ns,bag⟩=true:=by
 refine Dl rfl h.circ fun j hj=>?_;have hj2:j<(Wr pn ⟨c,k,ns,bag⟩).length:=by rw [Tp] at hj;exact hj
 have e:(Nb (Wr pn ⟨c,k,ns,bag⟩) c.toNat)[j]=RH (Wr pn ⟨c,k,ns,bag⟩) c.toNat j (Wr pn ⟨c,k,ns,bag⟩)[j]:=MM hj2;rw [e];obtain ⟨m,hm⟩:=h.all j hj2;rw [Ztc (n:=m) hm,Ki];obtain ⟨-,i,hi,ea,et⟩:=h.one _ m hm;have hij:i=j:=C2 fun q=>On h.circ.2 hi hj2 q ea.symm;subst hij;rw [et];exact ⟨h.j _ m hm,rfl,rfl,rfl⟩
theorem Bg (hk:0<k) (hw:WN pn were ns) (hi:XQ pn ⟨c,k,ns,[]⟩=true) (hc:1≤c∧c≤8) (hcop:∀ z m,YC z ns=some m→m.copies=c) (hd:AllDead ns) (hav:∀ z m,YC z ns=some m→m.findTo=-1∨∀ y∈m.avoid,YC y ns=none) :
 XQ pn (VI ⟨c,k,ns,[]⟩)=true:=by
 rw [KP hw hk];have h:=(Idl.of_ideal hw hi hc hcop hd hav).round;have e:Wr pn ⟨c,k,Xt ns,[]⟩=Wr pn ⟨c,k,ns,[]⟩:=by
  show Cz (((Xt ns).map (·.1)).map pn)=Cz ((ns.map (·.1)).map pn);rw [(Wh hw).2]
 rw [← e] at h;exact h.ideal
end
end Go.Esp
namespace Go.Esp
section
variable {pn:Int→Zr} {were:List Int} {ns:List (Int×Nd)} {a b c k x X:Int} {n m:Nd} {bag:List Ml}
def Zlp (c:Int) (n:Nd):Prop:=n.copies=c∧(n.joined=false→n.askTo=-1)
def AllKind (c:Int) (ns:List (Int×Nd)):Prop:=∀ z m,YC z ns=some m→Zlp c m
theorem LJ (n:Nd) (l:Lt):(YF n l).1.copies=n.copies:=by
 unfold YF;split
 ·rfl
 ·split
  ·dsimp only;split
   ·exact (A9 Nd.copies (Qb { n with findTo:=-1 } l.peer)).trans rfl
   ·split
    ·exact (A9 Nd.copies (TZ { n with findTo:=-1 } l.peer [])).trans rfl
    ·rfl
  ·split <;> rfl
theorem Oo:∀ (F:Nat) (n:Nd),(XS ns F n).copies=n.copies
 | 0,n=>rfl
 | F+1,n=>by
  unfold XS;cases hf:Vz ns n.table.self n.findTo with
  | none=>rfl
  | some x =>
   show (match (YF n (Xq x (Xl n))).2 with
    | []=>(YF n (Xq x (Xl n))).1
    | _=>XS ns F (YF n (Xq x (Xl n))).1).copies=_
   split
   ·exact LJ _ _
   ·exact (Oo F _).trans (LJ _ _)
theorem Zhw (h:Zlp c n) (hj:n.joined=false):Zlp c (UJ ns n):=by
 refine ⟨?_,fun _=>Jj.1.trans (h.2 hj)⟩;refine (Oo 33 _).trans ?_;unfold Uj;split
 ·rw [Ka];exact h.1
 ·exact h.1
theorem LN:∀ (F:Nat) (n:Nd),n.joined=true→(XS ns F n).joined=true
 | 0,n,hj=>hj
 | F+1,n,hj=>by
  unfold XS;cases hf:Vz ns n.table.self n.findTo with
  | none=>exact hj
  | some x =>
   show (match (YF n (Xq x (Xl n))).2 with
    | []=>(YF n (Xq x (Xl n))).1
    | _=>XS ns F (YF n (Xq x (Xl n))).1).joined=true
   split
   ·exact (OP _ hj).2
   ·exact LN F _ (OP _ hj).2
theorem Zpa (h:Zlp c n):Zlp c (OR ns n):=by
 unfold OR;by_cases hj:n.joined=false
 ·grind
 ·rw [A4 hj];obtain ⟨t,et⟩:=QT n;have hc:(unfind n).copies=c∧(unfind n).joined=true:=by rw [et];exact ⟨h.1,by simpa using hj⟩
  have fin:∀ q:Nd,q.copies=c→q.joined=true→Zlp c q:=fun q h1 h2=>⟨h1,fun h3=>by rw [h2] at h3;cases h3⟩
  split
  ·rw [Qb];exact fin _ hc.1 hc.2
  ·split
   ·grind
   ·exact fin _ ((Oo 33 _).trans hc.1) (LN 33 _ hc.2)
theorem Zdl (lv:Int→Bool) (h:Zlp c n):Zlp c (UH lv n):=by
 obtain ⟨t,p,r,q,u,e,-⟩:=Rk lv n;rw [e];exact h
theorem Zpo (h:Zlp c n) (hj:n.joined=true):Zlp c (Rl n ns):=by
 obtain ⟨t,q,y,r,e,-⟩:=NG n ns;rw [e];exact ⟨h.1,fun h3=>by rw [show _=true from hj] at h3;cases h3⟩
theorem AllKind.step (hw:WN pn were ns) (h:AllKind c ns):AllKind c (TQ x ns):=fun z m hm=>by
 obtain ⟨m0,hm0⟩:=Xc (hw.step x).2 hm;have h0:=h z m0 hm0;by_cases e:z=x
 ·subst e;have g1:=RK hw hm0;have g3:=QK (hw.t1 z).1 g1;have g2:=RA ((hw.t1 z).1.t3 z).1 g3;have hm:YC z (T2 z (T3 z (T1 z ns)))=some m:=hm;rw [hm] at g2;rw [A5 g2];refine Zpa (Zdl _ ?_);by_cases hj:m0.joined=true
  ·rw [A6 hj];exact Zpo h0 hj
  ·rw [A4 hj];exact Zhw h0 zM
 ·obtain ⟨m',h1,h2⟩:=MF hw e hm0;rw [hm] at h1;rw [A5 h1,h2];exact h0
theorem AllKind.go:∀ (L:List Int) {ns:List (Int×Nd)},WN pn were ns→AllKind c ns→AllKind c (goQ L ns)
 | [],_,_,h=>h
 | a::L,_,hw,h=>AllKind.go L (hw.step a).1 (h.step hw)
theorem AllKind.round (hw:WN pn were ns) (h:AllKind c ns):AllKind c (Xt ns):=h.go _ hw
theorem Nx (hw:WN pn were ns) (hi:XQ pn ⟨c,k,ns,bag⟩=true):AllG (fun p=>∃ m,YC p.addr ns=some m) ns:=by
 have h:=Mn hw.at' (fun p hp=>(hw.nd p hp).2.1) hi;intro z m hz;have h1:z∈XW ⟨c,k,ns,bag⟩:=by
  exact C0.2 ⟨(z,m),TW hz,rfl⟩
 have h2:=(Pi hw.at' ⟨c,k,ns,bag⟩).mem_iff.2 h1;obtain ⟨p,hp,e⟩:=C0.1 h2;obtain ⟨i,hi2,rfl⟩:=E2 hp;obtain ⟨n,g1,g2,g3⟩:=h.2 i hi2;rw [e,hz] at g1;rw [A5 g1,g3];refine (MI hi2).mono fun q hq=>?_;obtain ⟨j,hj,rfl⟩:=E2 hq;grind
theorem Zcq (hw:WN pn were ns) (hi:XQ pn ⟨c,k,ns,bag⟩=true) (hx:YC x ns=none):AllG (fun p=>p.addr≠x) ns :=
 (Nx hw hi).mono fun p ⟨m,hm⟩ e=>by rw [e,hx] at hm;cases hm
end
end Go.Esp
namespace Go.Esp
section
variable {pn:Int→Zr} {were:List Int} {ns:List (Int×Nd)} {a b c k x X:Int} {n m:Nd} {G:Zr→Prop} {E:Int→Prop} {Y:Int}
def Lone (E:Int→Prop) (ns:List (Int×Nd)):Prop:=∀ Y m,E Y→YC Y ns=some m→m.joined=false→Oth (fun p=>p.addr≠Y) Y ns
theorem Lone.go (hw:WN pn were ns) (h:Lone E ns) (l:List Int):Lone E (goQ l ns):=fun Y m hE hm hj=>by
 have hu:Unj Y (goQ l ns):=fun m' hm'=>by rw [hm] at hm';cases hm';exact hj
 obtain ⟨y,hy⟩:=Xc (hw.go l).2 hm;exact Zir (fun p hp=>hp) l hw hu (h Y y hE hy ((Le l hw).unj hu y hy))
theorem Lone.round (hw:WN pn were ns) (h:Lone E ns):Lone E (Xt ns):=h.go hw _
theorem Lone.late (h:Lone E ns) (hb:Late b ns):¬E b:=fun hE=>by
 obtain ⟨hu,⟨y,hy⟩,hG⟩:=hb;exact hG _ (fun p hp=>hp) (h b y hE hy (hu y hy))
def Gone (E:Int→Prop) (ns:List (Int×Nd)) (y:Int):Prop:=YC y ns=none∨¬E y
theorem Gone.keys {ns1:List (Int×Nd)} (he:ns1.map (·.1)=ns.map (·.1)) {y:Int} (h:Gone E ns y):Gone E ns1 y:=h.imp_left (VF he).2
theorem CI (h:WN pn were ns) (hn:YC a ns=some n):∃ l1 l2,a∉l1∧a∉l2∧Xt ns=goQ l2 (TQ a (goQ l1 ns)):=by
 have ha:a∈ns.map (·.1):=by
  by_cases e:a∈ns.map (·.1)
  ·exact e
  ·rw [Wg.2 e] at hn;cases hn
 obtain ⟨l1,l2,hl⟩:=List.append_of_mem ha;have hnd:(ns.map (·.1)).Nodup:=h.rise.imp fun h=>by omega
 rw [hl] at hnd;refine ⟨l1,l2,fun e=>(H3.1 hnd).2.2 a e a B1 rfl,(D9.1 (H3.1 hnd).2.1).1,?_⟩;show goQ (ns.map (·.1)) ns=_;grind
theorem Zix {l:Lt} (hj:n.joined=false) (hj2:(YF n l).1.joined=true):(YF n l).1.findTo=-1∧(YF n l).1.avoid=[]∧(YF n l).2=[]:=by
 unfold YF at hj2 ⊢;by_cases h1:n.findTo≠l.frm.addr∨n.findReq≠l.req
 ·grind
 ·rw [A4 h1] at hj2 ⊢;by_cases h2:l.done=true
  ·rw [A6 h2] at hj2 ⊢;by_cases h3:n.joined=true∧(Ys n.table.self l.peer∨l.peer=n.table.self)
   ·grind
   ·rw [A4 h3] at hj2 ⊢;by_cases h4:n.joined=false∧Ys n.table.self l.peer
    ·rw [A6 h4];refine ⟨?_,rfl,rfl⟩;rw [TZ { n with findTo:=-1 } l.peer []]
    ·grind
  ·rw [A4 h2] at hj2 ⊢;split at hj2
   ·grind
   ·exact absurd (hj.symm.trans hj2) jM
theorem DI:∀ (F:Nat) (n:Nd),n.joined=false→(XS ns F n).joined=true→(XS ns F n).findTo=-1∧(XS ns F n).avoid=[]
 | 0,n,hj,hj2=>absurd (hj.symm.trans hj2) jM
 | F+1,n,hj,hj2=>by
  unfold XS at hj2 ⊢;cases hf:Vz ns n.table.self n.findTo with
  | none=>rw [hf] at hj2;exact absurd (hj.symm.trans hj2) jM
  | some x =>
   rw [hf] at hj2;dsimp only at hj2 ⊢;cases hj3:(YF n (Xq x (Xl n))).1.joined with
   | true =>
    have h:=Zix hj hj3;rw [h.2.2];exact ⟨h.1,h.2.1⟩
   | false =>
    cases hs:(YF n (Xq x (Xl n))).2 with
    | nil=>rw [hs] at hj2;exact absurd (hj3.symm.trans hj2) jM
    | cons s l =>
     rw [hs] at hj2;exact DI F _ hj3 hj2
theorem Zol (hj:n.joined=false) (hj2:(UJ ns n).joined=true):(UJ ns n).findTo=-1∧(UJ ns n).avoid=[]:=by
 refine DI 33 _ ?_ hj2;unfold Uj;split
 ·rw [Ka];exact hj
 ·exact hj
theorem Zjg (hj:n.joined=true):(OR ns n).table.succ=(unfind n).table.succ:=by
 unfold OR;rw [A4 zN];split
 ·exact MR _ _
 ·split
  ·rfl
  ·rw [Lk]
   ·rfl
   ·obtain ⟨t,et⟩:=QT n;show (unfind n).joined=true;grind
structure Avoids (G:Zr→Prop) (n n':Nd):Prop where
  named:n'.findTo=-1∨∃ p,G p∧p.addr=n'.findTo
  av:n'.avoid=[]∨(n.joined=true∧n.findTo≠-1∧n'.avoid=(Uf n n.findTo).avoid∧∀ p∈n'.table.succ,p.addr≠n.findTo)
theorem Cu (h:WN pn were ns) (hn:YC a ns=some n) (hG:AllG G ns):∃ n',YC a (TQ a ns)=some n'∧(n'.joined=true→Avoids G n n'):=by
 have g1:=RK h hn;have w1:=h.t1 a;have g3:=QK w1.1 g1;have w3:=w1.1.t3 a;have g2:=RA w3.1 g3;have G3:AllG G (T3 a (T1 a ns)):=(hG.t1 h).t3 w1.1;refine ⟨_,g2,fun hj'=>?_⟩;obtain ⟨n1,e1⟩:∃ n1,(if n.joined then Rl n ns else UJ ns n)=n1:=⟨_,rfl⟩
 obtain ⟨t3,p,r3,q3,u3,e3,-⟩:=Rk (fun x=>(YC x (T1 a ns)).isSome) n1;rw [e1] at g3 hj' ⊢;obtain ⟨n3,hn3⟩:∃ n3,UH (fun x=>(YC x (T1 a ns)).isSome) n1=n3:=⟨_,rfl⟩
 rw [hn3] at g3 hj' e3 ⊢;have hj1:n1.joined=true:=by
  cases hj1:n1.joined with
  | true=>rfl
  | false =>
   unfold OR at hj';rw [A6 (by rw [e3];exact hj1),e3] at hj';exact absurd (hj1.symm.trans hj') jM
 have hj3:n3.joined=true:=by rw [e3];exact hj1
 obtain ⟨t2,cu,q,f,r,id,hp2,e2,hf⟩:=Lf (G:=G) w3.1 g3 hj3 (G3 a n3 g3) fun s b x hx=>G3 b x (Vi hx).1;refine ⟨?_,?_⟩
 ·have e:(OR (T3 a (T1 a ns)) n3).findTo=f:=by rw [e2]
  rw [e];exact hf.imp_right fun ⟨_,_,p,hp,_,hpa⟩=>⟨p,hp,hpa⟩
 ·have e:(OR (T3 a (T1 a ns)) n3).avoid=(unfind n3).avoid:=by rw [e2]
  rw [e,Zjg hj3];have ef:n3.findTo=n1.findTo∧n3.avoid=n1.avoid:=by rw [e3];exact ⟨rfl,rfl⟩
  by_cases hz:n3.findTo=-1
  ·left;unfold unfind;rw [A6 hz]
  ·by_cases hj:n.joined=true
   ·right;rw [A6 hj] at e1;obtain ⟨t1,q1,x,y1,ea,-⟩:=NG n ns;have eb:n1.findTo=n.findTo∧n1.avoid=n.avoid:=by rw [← e1,ea];exact ⟨rfl,rfl⟩
    refine ⟨hj,by rw [← eb.1,← ef.1];exact hz,?_,?_⟩
    ·have es:(unfind n3).avoid=(Uf n3 n3.findTo).avoid:=by
      unfold unfind;rw [A4 hz]
     have ee:=ef.2.trans eb.2;rw [es,ef.1,eb.1];unfold Uf;rw [ee];split
     ·exact ee
     ·rfl
    ·intro p hp;have es:(unfind n3).table.succ=n3.table.succ.filter (fun p=>p.addr≠n3.findTo):=by
      unfold unfind;rw [A4 hz];rfl
     rw [es] at hp;have:=(F6.1 hp).2;rw [← eb.1,← ef.1];simpa using this
   ·left;rw [A4 hj] at e1;have hq:=Zol (ns:=ns) (n:=n) zM (by rw [e1];exact hj1);rw [e1] at hq;exact absurd (ef.1.trans hq.1) hz
theorem PY (h:WN pn were ns) (hn:YC a ns=some n) (hG:AllG G ns):∃ n',YC a (Xt ns)=some n'∧(n'.joined=true→Avoids G n n'):=by
 obtain ⟨l1,l2,h1,h2,hr⟩:=CI h hn;have w1:=h.go l1;obtain ⟨m,hm,hma⟩:=Zis l1 h h1 hn;obtain ⟨n2,g2,h3⟩:=Cu w1.1 hm (AllG.go l1 h hG);obtain ⟨n3,h4,h5⟩:=Zis l2 (w1.1.step a).1 h2 g2;rw [hr];refine ⟨n3,h4,fun hj=>?_⟩;have hw:=h3 (by rw [h5] at hj;exact hj);have e:n3.findTo=n2.findTo∧n3.avoid=n2.avoid∧n3.table.succ=n2.table.succ:=by rw [h5];exact ⟨rfl,rfl,rfl⟩
 have em:m.joined=n.joined∧m.findTo=n.findTo∧(Uf m m.findTo).avoid=(Uf n n.findTo).avoid:=by
  rw [hma];refine ⟨rfl,rfl,?_⟩;unfold Uf;split <;> rfl
 refine ⟨by rw [e.1];exact hw.named,?_⟩;rw [e.2.1,e.2.2];exact hw.av.imp_right fun hq=>⟨by rw [← em.1];exact hq.1,by rw [← em.2.1];exact hq.2.1,hq.2.2.1.trans em.2.2,fun p hp=>by rw [← em.2.1];exact hq.2.2.2 p hp⟩
theorem OA (h:WN pn were ns) (hk:AllKind c ns) (hl:Lone E ns) {z:Int} (hz:YC z (Xt ns)=some m) (hj:m.joined=true) :
 YC m.pingTo ns=none∧(YC m.askTo ns=none∨(¬E m.askTo∧Few m.askTo (Xt ns)))∧(YC m.findTo ns=none∨(¬E m.findTo∧Few m.findTo (Xt ns)))∧(m.findTo=-1∨m.findTo∉m.avoid):=by
 obtain ⟨n,hn⟩:=Xc (Wh h).2 hz;obtain ⟨n',h1,h2⟩:=KO h hn fun q=>(hk z n hn).2 q;rw [hz] at h1;cases h1;have hw:=h2 hj;have h0:∀ y:Int,y=-1→YC y ns=none:=fun y e=>by rw [e];exact Tx h
 exact ⟨hw.ping.elim (h0 _) id,hw.ask.elim (fun e=>.inl (h0 _ e)) fun q=>q.imp_right fun q=>⟨hl.late q.1,q.2⟩,hw.find.elim (fun e=>.inl (h0 _ e)) fun q=>q.imp_right fun q=>⟨hl.late q.1,q.2⟩,hw.new⟩
def Shuns (E:Int→Prop) (were:List Int) (ns:List (Int×Nd)):Prop :=
 ∀ z m,YC z ns=some m→m.joined=true→m.findTo=-1∨(m.avoid.Nodup∧∀ y∈m.findTo::m.avoid,y∈were∧Gone E ns y)
theorem Zbg {z:Int} (h:n.avoid.Nodup):(Uf n z).avoid.Nodup:=by
 unfold Uf;grind
theorem Shuns.round (h:WN pn were ns) (hk:AllKind c ns) (hl:Lone E ns) (hs:Shuns E were ns):Shuns E were (Xt ns):=fun z m hz hj=>by
 by_cases hf:m.findTo=-1
 ·exact .inl hf
 right;obtain ⟨n,hn⟩:=Xc (Wh h).2 hz;obtain ⟨n',h1,h2⟩:=PY h hn (G:=InW pn were) fun b m hm=>(h.get hm).2.2;rw [hz] at h1;cases h1;have ha:=h2 hj;have hg:=OA h hk hl hz hj;have hkeys:∀ y,Gone E ns y→Gone E (Xt ns) y:=fun y hy=>hy.keys (Wh h).2;obtain ⟨p,⟨w,hw,rfl⟩,hpa⟩:=ha.named.resolve_left hf;rw [h.at'] at hpa;have hfw:m.findTo∈were∧Gone E (Xt ns) m.findTo:=⟨hpa ▸ hw,hkeys _ (hg.2.2.1.imp_right And.left)⟩
 rcases ha.av with he|⟨g1,g2,g3,g4⟩
 ·rw [he];exact ⟨J1,fun y hy=>by rw [B0.1 hy];exact hfw⟩
 ·obtain ⟨s1,s2⟩:=(hs z n hn g1).resolve_left g2;rw [g3];refine ⟨Zbg s1,fun y hy=>?_⟩;rcases B7.1 hy with rfl|hy
  ·exact hfw
  ·rcases Ab hy with hy|rfl
   ·exact ⟨(s2 y (B2 _ hy)).1,hkeys _ (s2 y (B2 _ hy)).2⟩
   ·exact ⟨(s2 _ B1).1,hkeys _ (s2 _ B1).2⟩
def Names (ns:List (Int×Nd)):Prop:=AllG (fun p=>∃ m,YC p.addr ns=some m) ns
theorem Ep {ns1:List (Int×Nd)} (e:ns1.map (·.1)=ns.map (·.1)) {z:Int} (h:∃ y,YC z ns=some y):∃ y,YC z ns1=some y:=by
 obtain ⟨y,hy⟩:=h;exact Xc e.symm hy
theorem Names.round (h:WN pn were ns) (hN:Names ns):Names (Xt ns):=(AllG.round h hN).mono fun p hp=>Ep (Wh h).2 hp
theorem Names.quiet (h:WN pn were ns) (hk:AllKind c ns) (hl:Lone (fun _=>True) ns) (hN:Names ns) {z:Int} (hz:YC z (Xt ns)=some m) (hj:m.joined=true):m.findTo=-1:=by
 obtain ⟨n,hn⟩:=Xc (Wh h).2 hz;obtain ⟨n',h1,h2⟩:=PY h hn hN;rw [hz] at h1;cases h1;refine (h2 hj).named.resolve_right fun ⟨p,⟨y,hy⟩,hpa⟩=>?_;have hg:=(OA h hk hl hz hj).2.2.1;grind
end
end Go.Esp
namespace Go.Esp
theorem IJ:∀ {l w:List Int},l.Nodup→(∀ x∈l,x∈w)→l.length≤w.length
 | [],w,_,_=>C3 _
 | a::l,w,hn,hs=>by
  have h2:=D9.1 hn;have ha:=hs a B1;have h3:=IJ (l:=l) (w:=w.erase a) h2.2 fun x hx=>(List.mem_erase_of_ne fun e=>h2.1 (by rw [← e];exact hx)).2 (hs x (B2 _ hx));rw [List.length_erase_of_mem ha] at h3;have:=List.length_pos_of_mem ha;rw [C8];omega
section
variable {pn:Int→Zr} {were:List Int} {ns ns':List (Int×Nd)} {a b c k x X M:Int} {n m:Nd} {G:Zr→Prop} {E:Int→Prop} {Y:Int} {bag new:List Ml}
theorem Zpj {l:Lt} (h:Ui n) (ho:Ys n.table.self l.frm) (hg:GoodT (fun p=>p.addr≠l.frm.addr) n.table):If n l=n:=by
 have h1:l.frm.addr≠-1:=by have:=ho.1.1;omega
 have hp:¬n.table.pred.addr=l.frm.addr:=fun e=>by
  by_cases hq:n.table.pred=Yj
  ·rw [hq] at e;exact h1 e.symm
  ·exact hg.2.1 hq e
 unfold If;dsimp only;rw [A4 hp,Jw hg h1];cases hl:l.peers with
 | nil=>rfl
 | cons p ps =>
  dsimp only;rw [A4 (Tz hg)]
theorem Mz:∀ (bag:List Ml) {ns:List (Int×Nd)},WN pn were ns→(∀ m∈bag,Oth (fun p=>p.addr≠m.lt.frm.addr) m.lt.frm.addr ns)→QF bag ns=ns
 | [],_,_,_=>rfl
 | m::bag,ns,h,hb=>by
  have e:Zdn m ns=ns:=by
   unfold Zdn;cases hg:YC m.zto ns with
   | none=>rfl
   | some n =>
    show WM m.zto (if Ys n.table.self m.lt.frm then If n m.lt else n) ns=ns;have hs:=h.self hg;split
    ·rename_i ho;rw [Zpj (h.get hg).1 ho (hb m B1 m.zto n hg fun e=>ho.2.1 (by rw [hs,e]))];exact Rr h.rise hg
    ·exact Rr h.rise hg
  show QF bag (Zdn m ns)=ns;rw [e];exact Mz bag h fun q hq=>hb q (B2 _ hq)
theorem Oth.bye (h:WN pn were ns) {q:Ml} (hm:GoodL G q.lt) (hO:Oth G Y ns):Oth G Y (Zdn q ns):=by
 unfold Zdn;cases hg:YC q.zto ns with
 | none=>exact hO
 | some n =>
  refine hO.put h fun hY=>?_;split
  ·exact Gl (hO _ n hg hY) hm
  ·exact hO _ n hg hY
theorem Oth.byes:∀ (bag:List Ml) {ns:List (Int×Nd)},WN pn were ns→(∀ m∈bag,QM (InW pn were) m)→(∀ m∈bag,GoodL G m.lt)→Oth G Y ns→Oth G Y (QF bag ns)
 | [],_,_,_,_,hG=>hG
 | m::bag,ns,h,hb,hg,hG=>Oth.byes bag (h.bye (hb m B1)).1 (fun q hq=>hb q (B2 _ hq)) (fun q hq=>hg q (B2 _ hq)) (hG.bye h (hg m B1))
theorem Bt (bag new:List Ml) (ns:List (Int×Nd)):QF (bag++new) ns=QF new (QF bag ns):=I4 ..
def Sub (ns ns':List (Int×Nd)):Prop:=∀ z m,YC z ns'=some m→YC z ns=some m
theorem Sub.refl (ns:List (Int×Nd)):Sub ns ns:=fun z m h=>h
theorem Sub.none (h:Sub ns ns') (hx:YC x ns=none):YC x ns'=none:=by
 cases hg:YC x ns' with
 | none=>rfl
 | some q=>rw [h x q hg] at hx;cases hx
theorem Oth.sub (h:Sub ns ns') (hO:Oth G Y ns):Oth G Y ns':=fun b m hm=>hO b m (h b m hm)
theorem Lone.sub (h:Sub ns ns') (hl:Lone E ns):Lone E ns':=fun Y m hE hm hj=>(hl Y m hE (h Y m hm) hj).sub h
theorem WN.del (h:WN pn were ns) (a:Int):WN pn were (AY a ns)∧Sub ns (AY a ns) :=
 ⟨⟨DD h.rise,fun p hp=>h.nd p (F6.1 hp).1,h.at'⟩,fun z m hm=>by
  rw [Mt] at hm;split at hm
  ·cases hm
  ·exact hm⟩
structure Rest (E:Int→Prop) (pn:Int→Zr) (were:List Int) (c:Int) (ns:List (Int×Nd)):Prop where
  wn:WN pn were ns
  kd:AllKind c ns
  lone:Lone E ns
  sh:Shuns E were ns
def Zqb (ns:List (Int×Nd)):Prop:=∀ z m,YC z ns=some m→m.joined=true→Dead ns m
theorem Rest.round (h:Rest E pn were c ns):Rest E pn were c (Xt ns):=⟨(Wh h.wn).1,h.kd.round h.wn,h.lone.round h.wn,h.sh.round h.wn h.kd h.lone⟩
theorem Rest.it:∀ (j:Nat) {ns:List (Int×Nd)},Rest E pn were c ns→Rest E pn were c (itQ j ns)
 | 0,_,h=>h
 | j+1,_,h=>Rest.it j h.round
theorem Nw (j:Nat) (ns:List (Int×Nd)):itQ (j+1) ns=Xt (itQ j ns):=Zrc j 1 ns
theorem Np (h:WN pn were ns) (hk:AllKind c ns) (hl:Lone (fun _=>True) ns):Zqb (Xt ns):=fun z m hz hj=>by
 obtain ⟨g1,g2,g3,-⟩:=OA h hk hl hz hj;have kk:∀ {y:Int},YC y ns=none→YC y (Xt ns)=none:=fun h9=>(VF (Wh h).2).2 h9;exact ⟨kk (g2.resolve_right fun q=>q.1 trivial),kk g1,kk (g3.resolve_right fun q=>q.1 trivial)⟩
theorem Names.it:∀ (j:Nat) {ns:List (Int×Nd)},WN pn were ns→Names ns→Names (itQ j ns)
 | 0,_,_,h=>h
 | j+1,_,hw,h=>Names.it j (Wh hw).1 (h.round hw)
theorem AC (h:WN pn were ns) (hz:YC x ns=some m):x∈were:=by
 obtain ⟨q,hq,e⟩:=(h.get hz).2.2.1;have:=h.self hz;rw [e,h.at'] at this;grind
theorem AD {ns:List (Int×Nd)} (hz:x∈ns.map (·.1)):∃ m,YC x ns=some m:=by
 cases hg:YC x ns with
 | none=>exact absurd hz (Wg.1 hg)
 | some m=>exact ⟨m,rfl⟩
theorem Zwr {ns:List (Int×Nd)} (hz:YC x ns=some m):x∈ns.map (·.1):=C0.2 ⟨(x,m),TW hz,rfl⟩
theorem Bm {j:Nat} (hw:WN pn were ns) (ha:∀ z∈were,Yf z) (hl:were.length<10+j) (hc:(∀ z∈were,∃ m,YC z ns=some m)∨were.length≤3∨ns.length=1):Names (itQ (10+j) ns):=by
 have hk:=(Bc (10+j) hw).2;have hmem:∀ z m,YC z ns=some m→GoodT (fun p=>p.addr∈were) m.table:=fun z m hm=>(hw.get hm).2.2.mono fun p ⟨q,hq,e⟩=>by
  rw [e,hw.at'];exact hq
 have hall:(∀ z∈were,∃ m,YC z ns=some m)→Names (itQ (10+j) ns):=fun h9=>Names.it (10+j) hw fun z m hm=>(hmem z m hm).mono fun p hp=>h9 _ hp;by_cases h1:ns.length=1
 ·obtain ⟨⟨a,n⟩,rfl⟩:=List.length_eq_one_iff.1 h1;have hG:AllG (GS a were) [(a,n)]:=fun z m hm=>(hmem z m hm).mono fun p hp=>.inr hp;refine (Zkq hw (fun q=>by have:=(ha _ q).1;omega) rfl hl hG).mono fun p hp=>?_;rcases hp with hp|hp
  ·exact AD (by rw [hk,hp];exact B1)
  ·cases hp
 ·rcases hc with hc|hc|hc
  ·exact hall hc
  ·by_cases hD:∀ z∈were,∃ m,YC z ns=some m
   ·exact hall hD
   ·obtain ⟨D,hD2⟩:=Classical.not_forall.1 hD;obtain ⟨hDw,hD3⟩:=Classical.not_imp.1 hD2;have hDn:YC D ns=none:=by
     cases hg:YC D ns with
     | none=>rfl
     | some m=>exact absurd ⟨m,hg⟩ hD3
    have hnd:(ns.map (·.1)).Nodup:=hw.rise.imp fun h=>by omega
    have hsub:∀ z∈ns.map (·.1),z∈were:=fun z hz=>by
     obtain ⟨m,hm⟩:=AD hz;exact AC hw hm
    have hp:=IJ (l:=D::ns.map (·.1)) (w:=were) (D9.2 ⟨Wg.1 hDn,hnd⟩) fun z hz=>by
     rcases B7.1 hz with rfl|hz
     ·exact hDw
     ·exact hsub z hz
    match ns,hw,h1,hp,hk,hmem,hDn,hsub,hnd with
    | [],hw,_,_,hk,_,_,_,_ =>
     intro z m hm;rw [Wg.2 (by rw [hk];simp)] at hm;cases hm
    | [_],_,h1,_,_,_,_,_,_=>exact absurd rfl h1
    | _::_::_::_,_,_,hp,_,_,_,_,_=>simp at hp;omega
    | [(u,nu),(v,nv)],hw,_,hp,hk,hmem,hDn,hsub,hnd =>
     have huv:u≠v:=fun e=>by subst e;simp at hnd
     have hDu:u≠D∧v≠D:=by
      have:=Wg.1 hDn;simp at this;exact ⟨fun e=>this.1 e.symm,fun e=>this.2 e.symm⟩
     have hin:∀ z∈were,z=u∨z=v∨z=D:=fun z hz=>by
      apply C2;intro hne;rw [not_or,not_or] at hne;have h4:=IJ (l:=[z,D,u,v]) (w:=were) (by simp [hne.1,hne.2.1,hne.2.2,huv,hDu.1.symm,hDu.2.symm]) fun q hq=>by
       simp only [B7,List.not_mem_nil,or_false] at hq;rcases hq with rfl|rfl|rfl|rfl
       ·exact hz
       ·exact hDw
       ·exact hsub _ jQ
       ·exact hsub _ jQ
      simp at h4;omega
     have h0:W0 pn were u v D [(u,nu),(v,nv)]:=⟨hw,rfl,fun z m hm=>(hmem z m hm).mono fun p hp=>hin _ hp⟩
     have hT:=(Zqs (pn:=pn) (were:=were) huv hDu.1 hDu.2 (ha D hDw).1).it (10+j) h0;have h10:=Zsa huv hDu.1 hDu.2 (ha D hDw).1 h0;have h40:AllG (fun p=>p.addr≠D) (itQ (10+j) [(u,nu),(v,nv)]):=by
      rw [Zrc];exact AllG.it j (Bc 10 hw).1 h10
     intro z m hm;have e1:=hT.2.2 z m hm;have e2:=h40 z m hm;have e3:∀ p:Zr,(p.addr=u∨p.addr=v∨p.addr=D)→p.addr≠D→∃ m,YC p.addr (itQ (10+j) [(u,nu),(v,nv)])=some m:=fun p hp hn=>by
      refine AD ?_;rw [hk];rcases hp with hp|hp|hp
      ·rw [hp];simp
      ·rw [hp];simp
      ·exact absurd hp hn
     exact ⟨e3 _ e1.1 e2.1,fun h9=>e3 _ (e1.2.1 h9) (e2.2.1 h9),fun p hp=>e3 _ (e1.2.2.1 p hp) (e2.2.2.1 p hp),fun p hp h9=>e3 _ (e1.2.2.2 p hp h9) (e2.2.2.2 p hp h9)⟩
  ·grind
end
end Go.Esp
namespace Go.Esp
section
variable {pn:Int→Zr} {were:List Int} {ns ns':List (Int×Nd)} {a b c x X M:Int} {k N:Nat} {n m:Nd} {G:Zr→Prop} {E:Int→Prop} {Y z:Int} {bag new:List Ml}
structure Bd (pn:Int→Zr) (c:Int) (k:Nat) (were:List Int) (ns:List (Int×Nd)) (bag:List Ml):Prop where
  rest:Rest (fun _=>True) pn were c ns
  still:Zqb ns
  bye:∀ m∈bag,QM (InW pn were) m∧Oth (fun p=>p.addr≠m.lt.frm.addr) m.lt.frm.addr ns
  len:bag.length≤2 * k
  low:k≤3∨ns.length=1→Names ns
  ok:∀ z∈were,Yf z
  cnt:were.length≤k+1
  all:(∀ z∈were,∃ m,YC z ns=some m)∨were.length≤k
theorem Bd.less (h:Bd pn c k were ns bag) (hk:k≤4) (hw:WN pn were ns') (hs:Sub ns ns') (hn:new.length≤2) (hM:0<M)
 (hb:∀ m∈new,QM (InW pn were) m∧YC m.lt.frm.addr ns'=none∧∀ Y y,YC Y ns'=some y→y.joined=false→GoodL (fun p=>p.addr≠Y) m.lt) :
 ∃ ns2 bag2,(VZ pn (10+N) ⟨c,M,ns',bag++new⟩).2=⟨c,M,ns2,bag2⟩∧Bd pn c (k+1) were ns2 bag2:=by
 obtain ⟨j,hj,e,hid,h0⟩:=KH (pn:=pn) (10+N) ⟨c,M,ns',bag++new⟩;have rest1:Rest (fun _=>True) pn were c ns':=⟨hw,fun z m hm=>h.rest.kd z m (hs z m hm),h.rest.lone.sub hs,fun z m hm hj=>(h.rest.sh z m (hs z m hm) hj).imp_right fun q=>⟨q.1,fun y hy=>⟨(q.2 y hy).1,(q.2 y hy).2.imp_left hs.none⟩⟩⟩
 have still1:Zqb ns':=fun z m hm hj=>⟨hs.none (h.still z m (hs z m hm) hj).1,hs.none (h.still z m (hs z m hm) hj).2.1,hs.none (h.still z m (hs z m hm) hj).2.2⟩
 have old:∀ m∈bag,Oth (fun p=>p.addr≠m.lt.frm.addr) m.lt.frm.addr ns':=fun m hm=>(h.bye m hm).2.sub hs;have hB:∀ m∈bag++new,QM (InW pn were) m:=fun m hm=>(B8.1 hm).elim (fun q=>(h.bye m q).1) (fun q=>(hb m q).1);have hl:(bag++new).length≤2 * (k+1):=by rw [B3];have:=h.len;omega
 cases j with
 | zero =>
  have hi:=(h0 rfl).resolve_left jD;exact ⟨ns',bag++new,e,rest1,still1,fun m hm=>⟨hB m hm,(B8.1 hm).elim (old m) fun q b y hy _=>Zcq hw hi (hb m q).2.1 b y hy⟩,hl,fun _=>Nx hw hi,h.ok,Nat.le_succ_of_le h.cnt,.inr h.cnt⟩
 | succ j =>
  rw [AE hw hM hB jD j,Bt,Mz bag hw old] at e hid;have w1:=hw.byes new fun m hm=>(hb m hm).1;have alike:∀ z m,YC z (QF new ns')=some m→∃ m0,YC z ns'=some m0∧Alike m0 m:=fun z m hm=>by
   obtain ⟨m0,hm0⟩:=Xc w1.2 hm;obtain ⟨m1,h1,h2⟩:=Hs new hw (fun m hm=>(hb m hm).1) hm0;rw [hm] at h1;rw [A5 h1];exact ⟨m0,hm0,h2⟩
  have rest2:Rest (fun _=>True) pn were c (QF new ns'):=by
   refine ⟨w1.1,fun z m hm=>?_,fun Y m _ hm hj=>?_,fun z m hm hj=>?_⟩
   ·obtain ⟨m0,g1,g2⟩:=alike z m hm;rw [g2];exact rest1.kd z m0 g1
   ·obtain ⟨m0,g1,g2⟩:=alike Y m hm;have hj0:m0.joined=false:=by rw [g2] at hj;exact hj
    exact Oth.byes new hw (fun m hm=>(hb m hm).1) (fun q hq=>(hb q hq).2.2 Y m0 g1 hj0) (rest1.lone Y m0 trivial g1 hj0)
   ·obtain ⟨m0,g1,g2⟩:=alike z m hm;rw [g2] at hj ⊢;exact (rest1.sh z m0 g1 hj).imp_right fun q=>⟨q.1,fun y hy=>⟨(q.2 y hy).1,(q.2 y hy).2.keys w1.2⟩⟩
  have r3:=rest2.it (j+1);refine ⟨_,[],e,r3,?_,fun m hm=>(by cases hm),C3 _,fun hlow=>?_,h.ok,Nat.le_succ_of_le h.cnt,.inr h.cnt⟩
  ·rw [Nw];have r4:=rest2.it j;exact Np r4.wn r4.kd r4.lone
  ·by_cases hj2:j+1<10+N
   ·exact Nx r3.wn (hid hj2)
   ·obtain e9:j+1=10+N:=by omega
    rw [e9] at hlow ⊢;refine Bm rest2.wn h.ok (by have:=h.cnt;omega) ?_;rcases hlow with hlow|hlow
    ·exact .inr (.inl (by have:=h.cnt;omega))
    ·refine .inr (.inr ?_);have:=A9 List.length (Bc (10+N) rest2.wn).2;rw [A8,A8] at this;omega
theorem OM (hw:WN pn were ns) (hi:XQ pn ⟨c,M,ns,bag⟩=true) (hz:YC z ns=some m):m.joined=true∧∃ (l:List Zr) (i:Nat) (hi:i<l.length),l.length=ns.length∧z=l[i].addr∧m.table=RH l c.toNat i l[i]∧∀ y q,YC y ns=some q→∃ j,∃ hj:j<l.length,l[j].addr=y:=by
 have h:=Mn hw.at' (fun p hp=>(hw.nd p hp).2.1) hi;have key:∀ y q,YC y ns=some q→∃ j,∃ hj:j<(Wr pn ⟨c,M,ns,bag⟩).length,((Wr pn ⟨c,M,ns,bag⟩)[j]).addr=y:=by
  intro y q hy;have h1:y∈XW ⟨c,M,ns,bag⟩:=by
   exact Zwr hy
  obtain ⟨p,hp,e⟩:=C0.1 ((Pi hw.at' ⟨c,M,ns,bag⟩).mem_iff.2 h1);obtain ⟨i,hi,rfl⟩:=E2 hp;exact ⟨i,hi,e⟩
 obtain ⟨i,hi,e⟩:=key z m hz;obtain ⟨n,h1,h2,h3⟩:=h.2 i hi;rw [e,hz] at h1;rw [A5 h1];refine ⟨h2,_,i,hi,?_,e.symm,h3,key⟩;have:=(Pi hw.at' ⟨c,M,ns,bag⟩).length_eq;rw [A8] at this;rw [this];show (ns.map (·.1)).length=_;simp
theorem Zcn (hw:WN pn were ns) (hi:XQ pn ⟨c,M,ns,bag⟩=true) (hz:YC z ns=some m) (hc:2≤c) (h3:3≤ns.length):2≤m.table.succ.length:=by
 obtain ⟨-,l,i,hi,hl,-,e,-⟩:=OM hw hi hz;rw [e];show 2≤((Wf l i).take c.toNat).length;rw [D8,QW hi];omega
theorem Zcp (hw:WN pn were ns) (hi:XQ pn ⟨c,M,ns,bag⟩=true) (hz:YC z ns=some m) (hc:2≤c) (h3:ns.length=3) {q:Nd} (hy:YC Y ns=some q) (hn:Y≠z):∃ p∈m.table.succ,p.addr=Y:=by
 obtain ⟨-,l,i,hi,hl,ez,e,key⟩:=OM hw hi hz;obtain ⟨j,hj,ej⟩:=key Y q hy;have hji:j≠i:=fun h9=>by subst h9;exact hn (by rw [← ej,ez])
 refine ⟨l[j],?_,ej⟩;rw [e];show l[j]∈(Wf l i).take c.toNat;rw [H5 (by rw [QW hi];omega)];unfold Wf;rw [B8];rcases C7 j i with h9|h9
 ·exact .inr (List.mem_take_iff_getElem.2 ⟨j,by omega,rfl⟩)
 ·exact .inl (List.mem_drop_iff_getElem.2 ⟨j-(i+1),by omega,by congr 1;omega⟩)
structure Fin (pn:Int→Zr) (c:Int) (ns:List (Int×Nd)) (bag:List Ml):Prop where
  wn:∃ were,WN pn were ns∧∀ m∈bag,QM (InW pn were) m∧Oth (fun p=>p.addr≠m.lt.frm.addr) m.lt.frm.addr ns
  len:bag.length≤10000
  cop:∀ z m,YC z ns=some m→m.copies=c
  d:AllDead ns
  av:∀ z m,YC z ns=some m→m.findTo=-1∨∀ y∈m.avoid,YC y ns=none
theorem Bd.fin (h:Bd pn c k were ns bag) (hk:k≤5) (hi:XQ pn ⟨c,M,ns,bag⟩=true):Fin pn c ns bag :=
 ⟨⟨were,h.rest.wn,h.bye⟩,by have:=h.len;omega,fun z m hm=>(h.rest.kd z m hm).1,fun z m hm=>h.still z m hm (OM h.rest.wn hi hm).1,fun z m hm=>(h.rest.sh z m hm (OM h.rest.wn hi hm).1).imp_right fun q y hy=>(q.2 y (B2 _ hy)).2.resolve_right fun h9=>h9 trivial⟩
theorem Fin.round (h:Fin pn c ns bag) (hM:0<M) (hc:1≤c∧c≤8) (hi:XQ pn ⟨c,M,ns,bag⟩=true):XQ pn (VI ⟨c,M,ns,bag⟩)=true:=by
 obtain ⟨were,hw,hb⟩:=h.wn;have e:VI ⟨c,M,ns,bag⟩=VI ⟨c,M,ns,[]⟩:=by
  rw [Ey hw hM (fun m hm=>(hb m hm).1) h.len,Mz bag hw fun m hm=>(hb m hm).2,KP hw hM]
 rw [e];exact Bg hM hw hi hc h.cop h.d h.av
theorem Zhx (hw:WN pn were ns) {q:Nd} (hq:Ui q∧q.table=⟨pn Y,Yj,[],List.replicate 160 Yj⟩):WN pn (were++[Y]) (WM Y q ns) :=
 ⟨NZ hw.rise,fun p hp=>by
  rcases Ma hp with rfl|hp
  ·refine ⟨hq.1,by rw [hq.2],?_⟩;rw [hq.2];exact ON ⟨Y,D0 _ (B0.2 rfl),rfl⟩
  ·exact ⟨(hw.nd p hp).1,(hw.nd p hp).2.1,(hw.nd p hp).2.2.mono fun p hp=>Gg hp⟩,hw.at'⟩
theorem Zoj {U:Int} (hw:WN pn were ns) {q:Nd} (hq:q.table=⟨pn Y,Yj,[],List.replicate 160 Yj⟩) (hU:U≠Y) (hO:Oth (fun p=>p.addr≠U) U ns):Oth (fun p=>p.addr≠U) U (WM Y q ns):=fun b m hm hb=>by
 rw [Ut Y b q ns hw.rise] at hm;split at hm
 ·rw [← A5 hm,hq];exact ON (G:=fun p=>p.addr≠U) (by rw [hw.at'];exact hU.symm)
 ·exact hO b m hm hb
theorem Bd.more (h:Bd pn c k were ns bag) (hk:k≤4) (hc:2≤c) (hYo:Yf Y) (hY:YC Y ns=none) {q:Nd} (hq:Ui q∧q.table=⟨pn Y,Yj,[],List.replicate 160 Yj⟩) (hqk:Zlp c q) (hqj:q.joined=false) (hM:0<M) :
 ∃ ns2,(VZ pn (10+N) ⟨c,M,WM Y q ns,bag⟩).2=⟨c,M,ns2,[]⟩∧(Bd pn c (k+1) (were++[Y]) ns2 []∨(k=4∧(XQ pn ⟨c,M,ns2,[]⟩=true→Fin pn c ns2 []))):=by
 obtain ⟨j,hj,e,hid,h0⟩:=KH (pn:=pn) (10+N) ⟨c,M,WM Y q ns,bag⟩;have hw:=h.rest.wn;have hw1:=Zhx hw hq;have hget:∀ z,YC z (WM Y q ns)=if z=Y then some q else YC z ns:=fun z=>Ut Y z q ns hw.rise
 have hB:∀ m∈bag,QM (InW pn (were++[Y])) m:=fun m hm=>⟨(h.bye m hm).1.1,(h.bye m hm).1.2.1,(h.bye m hm).1.2.2.mono fun p hp=>Gg hp⟩
 have old:∀ m∈bag,Oth (fun p=>p.addr≠m.lt.frm.addr) m.lt.frm.addr (WM Y q ns):=fun m hm b y hy hb=>by
  rw [hget] at hy;split at hy
  ·rename_i hbY;rw [← A5 hy,hq.2];exact ON (G:=fun p=>p.addr≠m.lt.frm.addr) (by rw [hw.at',← hbY];exact hb)
  ·exact (h.bye m hm).2 b y hy hb
 cases j with
 | zero =>
  have hi:=(h0 rfl).resolve_left jD;exact absurd ((OM hw1 hi (hget Y ▸ A6 rfl)).1) (by rw [hqj];decide)
 | succ j =>
  rw [AE hw1 hM hB (by have:=h.len;omega) j,Mz bag hw1 old] at e hid;refine ⟨_,e,?_⟩;have kd1:AllKind c (WM Y q ns):=fun z m hm=>by
   rw [hget] at hm;split at hm
   ·rw [← A5 hm];exact hqk
   ·exact h.rest.kd z m hm
  have lone1:∀ E:Int→Prop,(E Y→AllG (fun p=>p.addr≠Y) ns)→Lone E (WM Y q ns):=fun E hE U m hU hm hj=>by
   rw [hget] at hm;split at hm
   ·rename_i e9;subst e9;intro b y hy hb;rw [hget,A4 hb] at hy;exact hE hU b y hy
   ·rename_i e9;exact Zoj hw hq.2 e9 (h.rest.lone U m trivial hm hj)
  have sh1:∀ E:Int→Prop,(E Y→Y∉were)→Shuns E (were++[Y]) (WM Y q ns):=fun E hE z m hm hj=>by
   rw [hget] at hm;split at hm
   ·rw [← A5 hm,hqj] at hj;cases hj
   ·refine (h.rest.sh z m hm hj).imp_right fun g=>⟨g.1,fun y hy=>⟨C5 _ (g.2 y hy).1,?_⟩⟩
    have h1:=(g.2 y hy).2.resolve_right fun h9=>h9 trivial;by_cases e9:y=Y
    ·subst e9;exact .inr fun h9=>hE h9 (g.2 y hy).1
    ·exact .inl (by rw [hget,A4 e9];exact h1)
  have wj:=Bc j hw1;have wj1:=Bc (j+1) hw1;have all1:((∀ z∈were++[Y],∃ m,YC z (itQ (j+1) (WM Y q ns))=some m)∨(were++[Y]).length≤k+1):=by
   rcases h.all with g|g
   ·left;intro z hz;refine Ep wj1.2 ?_;rw [hget];split
    ·exact ⟨_,rfl⟩
    ·rename_i e9;rcases B8.1 hz with hz|hz
     ·exact g z hz
     ·exact absurd (B0.1 hz) e9
   ·right;rw [B3];exact Nat.succ_le_succ g
  have ok1:∀ z∈were++[Y],Yf z:=fun z hz=>(B8.1 hz).elim (h.ok z) fun g=>by rw [B0.1 g];exact hYo
  have Zyy:(were++[Y]).length≤k+1+1:=by rw [B3];exact Nat.succ_le_succ h.cnt
  by_cases hN:Names ns
  ·left;have hNY:AllG (fun p=>p.addr≠Y) ns:=hN.mono fun p ⟨m,hm⟩ e9=>by rw [e9,hY] at hm;cases hm
   have l1:=lone1 (fun _=>True) fun _=>hNY;have N1:Names (WM Y q ns):=fun b m hm=>by
    rw [hget] at hm;split at hm
    ·rw [← A5 hm,hq.2];exact ON (G:=fun p=>∃ m,YC p.addr (WM Y q ns)=some m) (by rw [hw.at',hget,A6 rfl];exact ⟨_,rfl⟩)
    ·refine (hN b m hm).mono fun p ⟨y,hy⟩=>?_;rw [hget];split
     ·exact ⟨_,rfl⟩
     ·exact ⟨y,hy⟩
   have lj:Lone (fun _=>True) (itQ j (WM Y q ns))∧AllKind c (itQ j (WM Y q ns))∧Names (itQ j (WM Y q ns)):=by
    have hr:Rest (fun _=>False) pn (were++[Y]) c (WM Y q ns):=⟨hw1,kd1,lone1 _ fun h9=>h9.elim,sh1 _ fun h9=>h9.elim⟩
    refine ⟨?_,(hr.it j).kd,Names.it j hw1 N1⟩;have key:∀ (j:Nat) {ns:List (Int×Nd)},WN pn (were++[Y]) ns→Lone (fun _=>True) ns→Lone (fun _=>True) (itQ j ns):=by
     intro j
     induction j with
     | zero=>exact fun _ h=>h
     | succ j ih=>exact fun hw h=>ih (Wh hw).1 (h.round hw)
    exact key j hw1 l1
   have quiet:∀ z m,YC z (itQ (j+1) (WM Y q ns))=some m→m.joined=true→m.findTo=-1:=fun z m hm hj=>by
    rw [Nw] at hm;exact lj.2.2.quiet wj.1 lj.2.1 lj.1 hm hj
   refine ⟨⟨wj1.1,by rw [Nw];exact lj.2.1.round wj.1,by rw [Nw];exact lj.1.round wj.1,fun z m hm hj=>.inl (quiet z m hm hj)⟩,by rw [Nw];exact Np wj.1 lj.2.1 lj.1,fun m hm=>(by cases hm),C3 _,fun _=>Names.it (j+1) hw1 N1,ok1,Zyy,all1⟩
  ·have hk4:k=4:=by
    have:¬k≤3:=fun h9=>hN (h.low (.inl h9));omega
   refine .inr ⟨hk4,fun hi=>?_⟩;have joined:∀ z m,YC z (itQ (j+1) (WM Y q ns))=some m→m.joined=true:=fun z m hm=>(OM wj1.1 hi hm).1;by_cases hYw:Y∈were
   ·have hlen:were.length≤4:=by
     rcases h.all with g|g
     ·obtain ⟨m,hm⟩:=g Y hYw;rw [hY] at hm;cases hm
     ·omega
    have hr:Rest (fun y=>y≠Y) pn (were++[Y]) c (WM Y q ns):=⟨hw1,kd1,lone1 _ fun h9=>absurd rfl h9,sh1 _ fun h9=>absurd rfl h9⟩
    have r1:=hr.it j;have h2:2≤ns.length:=by
     have h1:ns.length≠1:=fun g=>hN (h.low (.inr g));have h0:ns.length≠0:=fun g=>hN fun z m hm=>by rw [List.length_eq_zero_iff.1 g] at hm;cases hm
     omega
    have hks:(itQ (j+1) (WM Y q ns)).length=ns.length+1:=by
     have:=A9 List.length wj1.2;rw [A8,A8,HR hw.rise,hY] at this;exact this
    have hk1:∀ y,YC y (itQ j (WM Y q ns))=none→y≠Y∧YC y ns=none:=fun y hy=>by
     have:=(VF wj.2).1 hy;rw [hget] at this;split at this
     ·cases this
     ·rename_i e9;exact ⟨e9,this⟩
    rw [Nw] at hi joined wj1 hks ⊢;obtain ⟨P,hP⟩:∃ P,itQ j (WM Y q ns)=P:=⟨_,rfl⟩
    rw [hP] at hi joined wj1 hks wj hk1 r1 ⊢;have hk2:∀ {y},YC y P=none→YC y (Xt P)=none:=fun h9=>(VF (Wh wj.1).2).2 h9;obtain ⟨qY,hqY⟩:∃ y,YC Y (Xt P)=some y:=by
     cases hg:YC Y (Xt P) with
     | none=>exact absurd rfl (hk1 Y ((VF (Wh wj.1).2).1 hg)).1
     | some y=>exact ⟨y,rfl⟩
    have few:¬Few Y (Xt P):=fun h9=>by
     have h3:=Zcn wj1.1 hi hqY hc jD;rcases h9 qY hqY with h4|h4
     ·rw [joined Y qY hqY] at h4;cases h4
     ·omega
    have gone:∀ z m,YC z (Xt P)=some m→YC m.pingTo P=none∧YC m.askTo P=none∧YC m.findTo P=none∧(m.findTo=-1∨m.findTo∉m.avoid):=fun z m hm=>by
     obtain ⟨g1,g2,g3,g4⟩:=OA r1.wn r1.kd r1.lone hm (joined z m hm);have no:∀ {y},¬(¬y≠Y∧Few y (Xt P)):=fun ⟨h5,h6⟩=>few (by rw [← I0.1 h5];exact h6);exact ⟨g1,g2.resolve_right no,g3.resolve_right no,g4⟩
    refine ⟨⟨_,wj1.1,fun m hm=>(by cases hm)⟩,C3 _,fun z m hm=>(r1.round.kd z m hm).1,fun z m hm=>⟨hk2 (gone z m hm).2.1,hk2 (gone z m hm).1,hk2 (gone z m hm).2.2.1⟩,fun z m hm=>?_⟩;by_cases hf:m.findTo=-1
    ·exact .inl hf
    refine .inr fun y hy=>?_;obtain ⟨t1,t2⟩:=(r1.round.sh z m hm (joined z m hm)).resolve_left hf;refine (t2 y (B2 _ hy)).2.resolve_right fun h9=>?_;obtain rfl:y=Y:=I0.1 h9;obtain ⟨n,hn⟩:=Xc (Wh wj.1).2 hm;obtain ⟨n',hn',ha⟩:=PY r1.wn hn (G:=InW pn (were++[y])) fun b m hm=>(r1.wn.get hm).2.2;rw [hm] at hn';obtain rfl:=A5 hn';rcases (ha (joined z m hm)).av with h5|⟨g1,g2,g3,g4⟩
    ·rw [h5] at hy;cases hy
    obtain ⟨s1,s2⟩:=(r1.sh z n hn g1).resolve_left g2;have hla:=IJ s1 fun x hx=>(s2 x (B2 _ hx)).1;have hf0:n.findTo∈m.avoid:=by
     rw [g3];unfold Uf;split
     ·rename_i h5;exact h5.elim id fun h6=>absurd hla jU
     ·exact D0 _ (B0.2 rfl)
    have hD:=hk1 _ (gone z m hm).2.2.1;have hDw:m.findTo∈were:=(B8.1 (t2 _ B1).1).resolve_right fun h5=>hD.1 (B0.1 h5);have hDa:=(gone z m hm).2.2.2.resolve_left hf;have hnd:(ns.map (·.1)).Nodup:=hw.rise.imp fun h=>by omega
    have hsub:∀ x∈ns.map (·.1),x∈were:=fun x hx=>by
     obtain ⟨m,hm⟩:=AD hx;exact AC hw hm
    by_cases hfy:n.findTo=y
    ·have hzy:y≠z:=fun e9=>by
      have h5:=(r1.wn.get hn).1.2.2.2.2.2.2.2.1.2.2.2.2;rw [r1.wn.self hn,hfy] at h5;exact h5 e9
     have hp:=IJ (l:=y::m.findTo::ns.map (·.1)) (w:=were) (by
      refine D9.2 ⟨?_,D9.2 ⟨Wg.1 hD.2,hnd⟩⟩;rw [B7];exact fun h5=>h5.elim (fun h6=>hD.1 h6.symm) (Wg.1 hY)) fun x hx=>by
      rcases B7.1 hx with rfl|hx
      ·exact hYw
      ·rcases B7.1 hx with rfl|hx
       ·exact hDw
       ·exact hsub x hx
     rw [C8,C8,A8] at hp;obtain ⟨p,hp1,hp2⟩:=Zcp wj1.1 hi hm hc jD hqY hzy;exact g4 p hp1 (by rw [hp2,hfy])
    ·obtain ⟨s3,s4⟩:=s2 _ B1;have hF:=hk1 _ (s4.resolve_right fun h5=>h5 hfy);have hFw:n.findTo∈were:=(B8.1 s3).resolve_right fun h5=>hfy (B0.1 h5);have hDF:m.findTo≠n.findTo:=fun e9=>hDa (by rw [e9];exact hf0);have hp:=IJ (l:=y::m.findTo::n.findTo::ns.map (·.1)) (w:=were) (by
      refine D9.2 ⟨?_,D9.2 ⟨?_,D9.2 ⟨Wg.1 hF.2,hnd⟩⟩⟩
      ·simp only [B7];exact fun h5=>h5.elim (fun h6=>hD.1 h6.symm) fun h5=>h5.elim (fun h6=>hfy h6.symm) (Wg.1 hY)
      ·simp only [B7];exact fun h5=>h5.elim hDF (Wg.1 hD.2)) fun x hx=>by
      simp only [B7] at hx;rcases hx with rfl|rfl|rfl|hx
      ·exact hYw
      ·exact hDw
      ·exact hFw
      ·exact hsub x hx
     rw [C8,C8,C8,A8] at hp;omega
   ·have hNY:AllG (fun p=>p.addr≠Y) ns:=fun z m hm=>(hw.get hm).2.2.mono fun p ⟨q,hq,e⟩ e9=>hYw (by rw [e,hw.at'] at e9;rw [← e9];exact hq);have hr:Rest (fun _=>True) pn (were++[Y]) c (WM Y q ns):=⟨hw1,kd1,lone1 _ fun _=>hNY,sh1 _ fun _=>hYw⟩
    have r1:=hr.it j;have r2:=hr.it (j+1);have st:Zqb (itQ (j+1) (WM Y q ns)):=by rw [Nw];exact Np r1.wn r1.kd r1.lone
    exact ⟨⟨_,wj1.1,fun m hm=>(by cases hm)⟩,C3 _,fun z m hm=>(r2.kd z m hm).1,fun z m hm=>st z m hm (joined z m hm),fun z m hm=>(r2.sh z m hm (joined z m hm)).imp_right fun g y hy=>(g.2 y (B2 _ hy)).2.resolve_right fun h9=>h9 trivial⟩
end
end Go.Esp
namespace Go.Esp
section
variable {pn:Int→Zr} {were:List Int} {ns:List (Int×Nd)} {a b c M:Int} {k N:Nat} {n m:Nd} {G:Zr→Prop} {bag:List Ml} {r r1:Rg}
def Nk (r:Rg) (L:List Int):Rg:=L.foldl (fun r a=>(Ts r 4 a).1) r
inductive Evt (pn:Int→Zr) (r:Rg):Rg→Prop where
  | join (a b:Int) (h:(Us pn r a b).2=0):Evt pn r (Us pn r a b).1
  | leave (a:Int):Evt pn r (Ts r 3 a).1
  | crash (L:List Int):Evt pn r (Nk r L)
inductive Happ (pn:Int→Zr) (N:Nat) (c M:Int):Nat→Rg→Prop where
  | zero:Happ pn N c M 0 (Td pn ⟨c,M,[],[]⟩ 100).1
  | step {k:Nat} {r r1:Rg} (h:Happ pn N c M k r) (he:Evt pn r r1):Happ pn N c M (k+1) (VZ pn N r1).2
theorem JJ {most frm:Int}:∀ {l:List Snd} {b:List Ml},∃ new,GG most frm b l=b++new∧new.length≤l.length∧∀ m∈new,SP m.lt∧∃ s∈l,m.lt=s.letter
 | [],b=>⟨[],(E0 b).symm,B9 0,fun m hm=>by cases hm⟩
 | s::l,b=>by
  obtain ⟨new,h1,h2,h3⟩:=JJ (most:=most) (frm:=frm) (l:=l) (b:=TY most b ⟨frm,s.to,s.letter⟩);show ∃ new,GG most frm (TY most b ⟨frm,s.to,s.letter⟩) l=b++new∧_;have h4:∀ m∈new,SP m.lt∧∃ s2∈s::l,m.lt=s2.letter:=fun m hm=>⟨(h3 m hm).1,let ⟨s2,g1,g2⟩:=(h3 m hm).2;⟨s2,B2 _ g1,g2⟩⟩
  rw [h1];unfold TY;by_cases hc:SP s.letter∧(b.length:Int)<most
  ·rw [A6 hc];refine ⟨⟨frm,s.to,s.letter⟩::new,B5 ..,Nat.succ_le_succ h2,fun m hm=>?_⟩;rcases B7.1 hm with rfl|hm
   ·exact ⟨hc.1,s,B1,rfl⟩
   ·exact h4 m hm
  ·rw [A4 hc];exact ⟨new,rfl,Nat.le_succ_of_le h2,h4⟩
theorem Zhl {s:Snd} (hs:s∈(Sq n).1):s.letter.kind=8∧s.letter.frm=n.table.self:=by
 unfold Sq at hs;split at hs
 ·rcases B8.1 hs with hs|hs
  ·split at hs
   ·cases hs
   ·rw [B0.1 hs];exact ⟨rfl,rfl⟩
  ·split at hs
   ·rw [B0.1 hs];exact ⟨rfl,rfl⟩
   ·cases hs
 ·cases hs
def Led (pn:Int→Zr) (c M:Int) (k:Nat) (r:Rg):Prop:=∃ ns bag,r=⟨c,M,ns,bag⟩∧((∃ were,Bd pn c k were ns bag)∨(k=5∧(XQ pn ⟨c,M,ns,bag⟩=true→Fin pn c ns bag)))
theorem Zjv (L:List Int):∀ {ns:List (Int×Nd)},WN pn were ns→∃ ns',Nk ⟨c,M,ns,bag⟩ L=⟨c,M,ns',bag⟩∧WN pn were ns'∧Sub ns ns':=by
 induction L with
 | nil=>exact fun h=>⟨_,rfl,h,Sub.refl _⟩
 | cons a L ih =>
  intro ns h;show ∃ ns',Nk (Ts ⟨c,M,ns,bag⟩ 4 a).1 L=_∧_;cases hg:YC a ns with
  | none=>rw [Mr (r:=⟨c,M,ns,bag⟩) hg];exact ih h
  | some q =>
   rw [IZ (r:=⟨c,M,ns,bag⟩) hg jM];obtain ⟨ns',h1,h2,h3⟩:=ih (h.del a).1;exact ⟨ns',h1,h2,fun z m hm=>(h.del a).2 z m (h3 z m hm)⟩
theorem Zmz (hpn:∀ a,(pn a).addr=a) (hc:2≤c∧c≤8) (hM:0<M) (h:Happ pn (10+N) c M k r):k≤5→Led pn c M k r:=by
 induction h with
 | zero =>
  intro _;have ha:Yf 100:=by decide
  have h0:(Uk (pn 100) c).2=0:=by
   unfold Uk;rw [A6 ⟨by rw [hpn];exact ha,by omega,hc.2⟩]
  obtain ⟨q,hq⟩:∃ q,(Uk (pn 100) c).1=q:=⟨_,rfl⟩
  have hs:=NH h0;have hqk:q.copies=c∧q.joined=true∧q.askTo=-1∧q.pingTo=-1∧q.findTo=-1:=by
   rw [← hq];unfold Uk;rw [A6 ⟨by rw [hpn];exact ha,by omega,hc.2⟩];exact ⟨rfl,rfl,rfl,rfl,rfl⟩
  rw [hq] at hs;have e:(Td pn ⟨c,M,[],[]⟩ 100).1=⟨c,M,[(100,q)],[]⟩:=by
   rw [OU (r:=⟨c,M,[],[]⟩) ha (Nat.lt_irrefl 0),Oz h0 hq.symm];rfl
  have w0:WN pn [] []:=⟨J8,fun p hp=>(by cases hp),hpn⟩
  have hw:WN pn [100] [(100,q)]:=Zhx w0 hs;have one:∀ z m,YC z [(100,q)]=some m→m=q∧z=100:=fun z m hm=>by
   by_cases e9:(100:Int)=z
   ·rw [show YC z [(100,q)]=some q from A6 e9] at hm;exact ⟨(A5 hm).symm,e9.symm⟩
   ·rw [show YC z [(100,q)]=none from A4 e9] at hm;cases hm
  refine ⟨_,_,e,.inl ⟨[100],⟨hw,fun z m hm=>?_,fun Y m _ hm hj=>?_,fun z m hm hj=>.inl ?_⟩,fun z m hm hj=>?_,fun m hm=>(by cases hm),B9 0,fun _ z m hm=>?_,fun z hz=>?_,B9 1,.inl fun z hz=>?_⟩⟩
  ·rw [(one z m hm).1];exact ⟨hqk.1,fun _=>hqk.2.2.1⟩
  ·rw [(one Y m hm).1,hqk.2.1] at hj;cases hj
  ·rw [(one z m hm).1];exact hqk.2.2.2.2
  ·rw [(one z m hm).1];refine ⟨?_,?_,?_⟩
   ·rw [hqk.2.2.1];exact Tx hw
   ·rw [hqk.2.2.2.1];exact Tx hw
   ·rw [hqk.2.2.2.2];exact Tx hw
  ·rw [(one z m hm).1,hs.2];exact ON (G:=fun p=>∃ m,YC p.addr [(100,q)]=some m) ⟨q,by rw [hpn];rfl⟩
  ·rw [B0.1 hz];exact ha
  ·rw [B0.1 hz];exact ⟨q,rfl⟩
 | @step k r r1 h he ih =>
  intro hk;obtain ⟨ns,bag,rfl,hL⟩:=ih jD;obtain ⟨were,hB⟩:=hL.resolve_right fun g=>by have:=g.1;omega
  have hw:=hB.rest.wn;cases he with
  | join a b h0 =>
   have hj:Yf a∧YC a ns=none∧(Ur (pn a) c b).2=0∧Us pn ⟨c,M,ns,bag⟩ a b=(⟨c,M,WM a (Ur (pn a) c b).1 ns,bag⟩,0):=by
    by_cases ho:Yf a∧Yf b∧¬a=b
    ·cases h1:(YC a ns).isSome with
     | true=>rw [OI (r:=⟨c,M,ns,bag⟩) ho h1] at h0;cases h0
     | false =>
      by_cases h2:16≤ns.length
      ·rw [Mj (r:=⟨c,M,ns,bag⟩) ho h1 h2] at h0;cases h0
      ·cases h3:(YC b ns).isSome with
       | false=>rw [Oi (r:=⟨c,M,ns,bag⟩) ho h1 h2 h3] at h0;cases h0
       | true =>
        have e:=Mi (pn:=pn) (r:=⟨c,M,ns,bag⟩) ho h1 h2 h3;rw [e,Nr] at h0;refine ⟨ho.1,?_,h0,?_⟩
        ·cases hg:YC a ns with
         | none=>rfl
         | some q=>rw [hg] at h1;cases h1
        ·rw [e,Oz h0 rfl]
    ·rw [OJ (r:=⟨c,M,ns,bag⟩) (by
      apply C2;intro h9;rw [not_or,not_or] at h9;exact ho ⟨I0.1 h9.1,I0.1 h9.2.1,h9.2.2⟩)] at h0
     cases h0
   obtain ⟨h1,h2,h3,h4⟩:=hj;rw [h4];obtain ⟨q,hq⟩:∃ q,(Ur (pn a) c b).1=q:=⟨_,rfl⟩
   have hs:=Mh h3;have hqk:q.copies=c∧q.askTo=-1∧q.joined=false:=by
    rw [← hq];unfold Ur Uk at h3 ⊢;by_cases hc1:Yf (pn a).addr∧1≤c∧c≤8
    ·rw [A6 hc1] at h3 ⊢;split at h3
     ·rename_i hc2;rw [A6 hc2];exact ⟨rfl,rfl,rfl⟩
     ·cases h3
    ·rw [A4 hc1] at h3;cases h3
   rw [hq] at hs ⊢;obtain ⟨ns2,e,hR⟩:=hB.more (N:=N) jD hc.1 h1 h2 hs ⟨hqk.1,fun _=>hqk.2.1⟩ hqk.2.2 hM;exact ⟨ns2,[],e,hR.elim (fun g=>.inl ⟨_,g⟩) fun g=>.inr ⟨by omega,g.2⟩⟩
  | leave a =>
   cases hg:YC a ns with
   | none =>
    rw [Mr (r:=⟨c,M,ns,bag⟩) hg];obtain ⟨ns2,bag2,e,hR⟩:=hB.less (new:=[]) (N:=N) jD hw (Sub.refl ns) (C3 _) hM fun m hm=>by cases hm
    rw [E0] at e;exact ⟨ns2,bag2,e,.inl ⟨_,hR⟩⟩
   | some q =>
    rw [IY (r:=⟨c,M,ns,bag⟩) hg rfl,NX];obtain ⟨new,e1,e2,e3⟩:=JJ (most:=M) (frm:=a) (l:=(Sq q).1) (b:=bag);rw [e1];obtain ⟨ns2,bag2,e,hR⟩:=hB.less (new:=new) (N:=N) jD (hw.del a).1 (hw.del a).2 (H7 e2 (EU q)) hM fun m hm=>by
     obtain ⟨g1,s,g2,g3⟩:=e3 m hm;have g4:=Zhl g2;rw [← g3] at g4;refine ⟨⟨g4.1,g1,?_⟩,?_,fun Y y hy hj=>?_⟩
     ·rw [g3];exact Lb (hw.get hg).2.2 s g2
     ·rw [g4.2,hw.self hg,Mt,A6 rfl]
     ·have hya:a≠Y:=fun h9=>by rw [Mt,A6 h9.symm] at hy;cases hy
      rw [g3];exact Lb (hB.rest.lone Y y trivial ((hw.del a).2 Y y hy) hj a q hg hya) s g2
    exact ⟨ns2,bag2,e,.inl ⟨_,hR⟩⟩
  | crash L =>
   obtain ⟨ns',e1,h1,h2⟩:=Zjv L (bag:=bag) (c:=c) (M:=M) hw;rw [e1];obtain ⟨ns2,bag2,e,hR⟩:=hB.less (new:=[]) (N:=N) jD h1 h2 (C3 _) hM fun m hm=>by cases hm
   rw [E0] at e;exact ⟨ns2,bag2,e,.inl ⟨_,hR⟩⟩
theorem Zbi (hpn:∀ a,(pn a).addr=a) (hc:2≤c∧c≤8) (hM:0<M) (h:Happ pn (10+N) c M k r) (hk:k≤5) (hi:XQ pn r=true) :
 r.copies=c∧(∀ p∈r.nodes,p.2.table.self=pn p.1)∧XQ pn (VI r)=true:=by
 obtain ⟨ns,bag,rfl,hL⟩:=Zmz hpn hc hM h hk;have hF:Fin pn c ns bag:=hL.elim (fun ⟨_,g⟩=>g.fin hk hi) fun g=>g.2 hi;obtain ⟨were,hw,-⟩:=hF.wn;exact ⟨rfl,fun p hp=>(hw.nd p hp).2.1,hF.round hM jD hi⟩
end
end Go.Esp
namespace Go.Esp
section
variable {pn:Int→Zr} {a b c M:Int} {k N:Nat} {r r1:Rg}
theorem GF (hpn:∀ a,(pn a).addr=a) (hc:1≤c∧c≤8):(Td pn ⟨c,M,[],[]⟩ 100).2=0:=by
 rw [OU (r:=⟨c,M,[],[]⟩) jM (Nat.lt_irrefl 0),Nr];unfold Uk;rw [A6 ⟨by rw [hpn];decide,hc.1,hc.2⟩]
def Zbr (l xs:List Int):List Int:=xs.map fun e=>(l[e.toNat]?).getD 0
theorem Zdg {l xs:List Int} (hk:k<xs.length):Nk r (Zbr l (xs.take (k+1)))=(Ts (Nk r (Zbr l (xs.take k))) 4 ((l[(xs[k]).toNat]?).getD 0)).1:=by
 unfold Nk Zbr;rw [C9,A7 hk,C6,I4];rfl
theorem Zhu (h:¬(Us pn r a b).2=0):(Us pn r a b).1=r:=by
 by_cases ho:Yf a∧Yf b∧¬a=b
 ·cases h1:(YC a r.nodes).isSome with
  | true=>rw [OI ho h1]
  | false =>
   by_cases h2:16≤r.nodes.length
   ·rw [Mj ho h1 h2]
   ·cases h3:(YC b r.nodes).isSome with
    | false=>rw [Oi ho h1 h2 h3]
    | true =>
     rw [Mi ho h1 h2 h3] at h ⊢;rw [Nr] at h;rw [KF h]
 ·rw [OJ (by
   apply C2;intro h9;rw [not_or,not_or] at h9;exact ho ⟨I0.1 h9.1,I0.1 h9.2.1,h9.2.2⟩)]
theorem Ziq {kind:Int} (h:¬(Ts r kind a).2=0):(Ts r kind a).1=r:=by
 cases hg:YC a r.nodes with
 | none=>rw [Mr hg]
 | some n =>
  unfold Ts at h;rw [hg] at h;dsimp only at h;split at h <;> exact absurd rfl h
def Zym (pn:Int→Zr) (r r1:Rg) (b:Bool):Prop:=(b=true∧Evt pn r r1)∨(b=false∧r1=r)
theorem Zpd (a b:Int):Zym pn r (Us pn r a b).1 (decide ((Us pn r a b).2=0)):=by
 by_cases h:(Us pn r a b).2=0
 ·exact .inl ⟨decide_eq_true h,.join a b h⟩
 ·exact .inr ⟨decide_eq_false h,Zhu h⟩
theorem Zjn (a:Int):Zym pn r (Ts r 3 a).1 (decide ((Ts r 3 a).2=0)):=by
 by_cases h:(Ts r 3 a).2=0
 ·exact .inl ⟨decide_eq_true h,.leave a⟩
 ·exact .inr ⟨decide_eq_false h,Ziq h⟩
theorem Zjo (L:List Int):Zym pn r (Nk r L) true:=.inl ⟨rfl,.crash L⟩
theorem LM:Zym pn r r false:=.inr ⟨rfl,rfl⟩
theorem Zcv {j:Nat} (hpn:∀ a,(pn a).addr=a) (hc:2≤c∧c≤4) (h:Happ pn 40 c 1000 j r) (hj:j≤5) (hi:XQ pn r=true) :
 (1≤r.copies∧r.copies≤8)∧(∀ p∈r.nodes,p.2.table.self=pn p.1)∧XQ pn (VI r)=true∧Xk (Wr pn r):=by
 obtain ⟨h1,h2,h3⟩:=Zbi (N:=30) hpn jD jM h hj hi;exact ⟨by omega,h2,h3,(Mn hpn h2 hi).1⟩
end
end Go.Esp
namespace Go.Proofs.YtglnjnacodgmaaaGreatDoor
open Go.Esp
theorem Zcu (M:Mem) (gb:Nat) (N:Int) (r:Rg) (Hb:Hp) (hR:RingIs gb N r M Hb) (x:Yk) (o_x:Yk.ok M x) (c:Int) (hM:M.dr=0) (hP:PowM M) (hN:N+20000000≤1000000000000000):Fh Tryz.prog 21 [.pointer (some ⟨gb,0,none⟩),x.enc,.int .i64 c] M Hb (fun M' v Hb'=>∃ r1 b,v=.bool b∧RingIs gb (N+20000000) r1 M' Hb'∧Zym K.peerN r r1 b):=by
 obtain ⟨x_kind,SQ,⟨x_a,x_c,x_l⟩⟩:=x;have k_x:SlK M (WC .i64) 1 ⟨x_a,x_c,x_l⟩:=o_x.h0;have s_x:SlM M x_a (x_l.map (WC .i64)) 1:=k_x.h1;have n_x:(x_l.map (WC .i64)).length=x_l.length:=A8 ..;have m_x:x_l.length≤9223372036854775807:=k_x.h2;refine YI (fun H=>Hb++H) (fun _=>rfl) Tryz.func21 rfl Tryz.ntmps21 rfl ?_;intro H;refine S3 ?_;intro b1;refine S6 ?_;refine PG (JU M gb _ r Hb hR) ?_;rintro _ M1 hm1 ⟨⟨l_a,l_c,l_l⟩,rfl,el,k_l⟩;try simp only at el
 have s_x1:=s_x.mono hm1;have hR1:=hR.mono (Int.le_refl _) hm1;have s_l:SlM M1 l_a (l_l.map (WC .i64)) 1:=k_l.h1;have n_l:(l_l.map (WC .i64)).length=l_l.length:=A8 ..;have m_l:l_l.length≤9223372036854775807:=k_l.h2;have c_l:l_l.length≤16:=by have:=hR.few;have h9:=A9 List.length el;simp only [XW,A8] at h9;omega
 simp only [Sl.val];refine S11 ?_;refine YE 16 (cT fun hc2=>?_) (cF fun hc2=>?_)
 ·refine S14 ?_;refine ZH fun w hw=>?_;exact ⟨_,M1,Hb,rfl,hm1,hw.c,_,_,rfl,hR1.mono jD (Mem.le.refl _),LM⟩
 ·refine S6 ?_;refine Xb (cT fun hc3=>?_) (cF fun hc3=>?_)
  ·refine S7 ?_;refine ZH fun w hw=>?_;exact ⟨_,M1,Hb,rfl,hm1,hw.c,_,_,rfl,hR1.mono jD (Mem.le.refl _),LM⟩
  ·refine S9 ?_;refine VG [8,7,6,4,0,2] ?_;refine Un (.succ .zero) (fun (k:Nat) z=>z=[(8,.int .i64 (k:Int))]∧k≤x_l.length∧∀ j (h2:j<x_l.length),j<k→0≤x_l[j]∧x_l[j]<l_l.length) (fun k=>x_l.length-k) (0) (⟨rfl,by omega,by intro j h2 hj;omega⟩) ?_;rintro k _ ⟨rfl,hk,hI⟩;refine S10 ?_;refine Xb (cT fun hc4=>?_) (cF fun hc4=>?_)
   ·refine S5 ?_;obtain ⟨e,he⟩:∃ a,x_l[k]'jD=a:=⟨_,rfl⟩
    refine S6 ?_;simp only [H9,he];refine S2 ?_;refine YE 34 (cT fun hc5=>?_) (cF fun hc5=>?_)
    ·refine S23 ?_;refine ZH fun w hw=>?_;exact ⟨_,M1,Hb,rfl,hm1,hw.c,_,_,rfl,hR1.mono jD (Mem.le.refl _),LM⟩
    ·refine S5 ?_;simp only [H9,he];refine S6 ?_;refine Xb (cT fun hc6=>?_) (cF fun hc6=>?_)
     ·refine S11 ?_;refine ZH fun w hw=>?_;exact ⟨_,M1,Hb,rfl,hm1,hw.c,_,_,rfl,hR1.mono jD (Mem.le.refl _),LM⟩
     ·refine S8 ?_;refine VX (a':=[(8,_)]) (k+1) (.cons (k:=8) rfl (.cons (k:=7) rfl (.cons (k:=6) rfl (.cons (k:=4) rfl (.cons (k:=0) rfl (.cons (k:=2) rfl (.nil))))))) (fun w hw=>by first|exact hw|exact hw.c) ?_ ?_
      ·refine ⟨rfl,by omega,?_⟩;intro j h2 hj;rcases C7 j k with h9|h9
       ·exact hI j h2 h9
       ·obtain rfl:j=k:=by omega
        omega
      ·omega
   ·refine S7 ?_;obtain rfl:k=x_l.length:=by omega
    have hI0:=hI 0 jD jD;obtain ⟨e0,he0⟩:∃ a,x_l[0]'jD=a:=⟨_,rfl⟩
    rw [he0] at hI0;obtain ⟨b0,hb0⟩:∃ a,l_l[e0.toNat]'jD=a:=⟨_,rfl⟩
    refine S12 ?_;refine Xb (cT fun hc7=>?_) (cF fun hc7=>?_)
    ·refine Stp ?_;refine Um (l:=[0,1,2,3,4,5,6,7,8,9,10,11,12,13,14,15,16,17,18]) (Hin:=Hb) #[0,1,3,7,15,15,47,15,15,271,783,1807,3983,8079,16367,32767,65535,131071,262143] jA rfl jI jI ?_;refine S4 ?_;refine YE 51 (cT fun hc8=>?_) (cF fun hc8=>?_)
     ·refine S8 ?_;simp only [H9,he0];refine S2 ?_;simp only [H9,hb0];refine XN rfl rfl F.bld31 (.cons rfl jG (.cons rfl jG (.cons rfl jG .nil))) rfl rfl ?_;refine We (LU M1 gb _ r Hb hR1 ⟨2,SQ,b0⟩ (hm1.loose hM) (hP.mono hm1) jD) ?_;rintro _ M2 hb2 hm2 ⟨rfl,hR2⟩;rw [do2 (t:=(⟨2,SQ,b0⟩:Trn)) rfl] at hR2 ⊢;refine S8 ?_;refine ZH fun w hw=>?_;exact ⟨_,M2,hb2,rfl,hm1.trans hm2,hw.c,_,_,rfl,hR2.mono jD (Mem.le.refl _),Zpd _ _⟩
     ·refine S20 ?_;refine ZH fun w hw=>?_;exact ⟨_,M1,Hb,rfl,hm1,hw.c,_,_,rfl,hR1.mono jD (Mem.le.refl _),LM⟩
    ·refine S6 ?_;refine Xb (cT fun hc9=>?_) (cF fun hc9=>?_)
     ·refine Stp ?_;refine Xv (l:=[0,1,2,3,4,5,6,7,8,9,10,11,12,13,14,15,16]) (Hin:=Hb) jA rfl ?_;refine S4 ?_;refine YE 71 (cT fun hc10=>?_) (cF fun hc10=>?_)
      ·refine S6 ?_;simp only [H9,he0];refine S2 ?_;simp only [H9,hb0];refine XN rfl rfl F.bld31 (.cons rfl jG (.cons rfl jG .nil)) rfl rfl ?_;refine We (LU M1 gb _ r Hb hR1 ⟨3,b0,0⟩ (hm1.loose hM) (hP.mono hm1) jD) ?_;rintro _ M2 hb2 hm2 ⟨rfl,hR2⟩;rw [Zxi (t:=(⟨3,b0,0⟩:Trn)) (.inl rfl)] at hR2 ⊢;refine S8 ?_;refine ZH fun w hw=>?_;exact ⟨_,M2,hb2,rfl,hm1.trans hm2,hw.c,_,_,rfl,hR2.mono jD (Mem.le.refl _),Zjn _⟩
      ·refine S18 ?_;refine ZH fun w hw=>?_;exact ⟨_,M1,Hb,rfl,hm1,hw.c,_,_,rfl,hR1.mono jD (Mem.le.refl _),LM⟩
     ·refine S12 ?_;refine YE 89 (cT fun hc11=>?_) (cF fun hc11=>?_)
      ·refine S17 ?_;refine ZH fun w hw=>?_;exact ⟨_,M1,Hb,rfl,hm1,hw.c,_,_,rfl,hR1.mono jD (Mem.le.refl _),LM⟩
      ·refine S9 ?_;refine Xb (cT fun hc12=>?_) (cF fun hc12=>?_)
       ·refine S7 ?_;refine ZH fun w hw=>?_;exact ⟨_,M1,Hb,rfl,hm1,hw.c,_,_,rfl,hR1.mono jD (Mem.le.refl _),LM⟩
       ·refine S9 ?_;refine VG [9,7,6,4,0] ?_;refine XV (Hin:=Hb) (.succ .zero) jA (fun (k:Nat) M2 h2 z=>z=[(9,.int .i64 (k:Int))]∧k≤x_l.length∧RingIs gb (N+1000000 * (k:Int)) (Nk r (Zbr l_l (x_l.take k))) M2 h2) (fun k=>x_l.length-k) (0) (⟨rfl,by omega,by simpa [Zbr,Nk] using hR1⟩) ?_;rintro k M2 h2 z hm2 ⟨rfl,hk,hR2⟩;have s_x2:=s_x1.mono hm2;have s_l2:=s_l.mono hm2;obtain ⟨r2,hr2⟩:∃ r2,Nk r (Zbr l_l (x_l.take k))=r2:=⟨_,rfl⟩
        rw [hr2] at hR2;refine S10 ?_;refine Xb (cT fun hc13=>?_) (cF fun hc13=>?_)
        ·refine S4 ?_;have hIk:=hI k jD jD;obtain ⟨e,he⟩:∃ a,x_l[k]'jD=a:=⟨_,rfl⟩
         rw [he] at hIk;obtain ⟨b,hb⟩:∃ a,l_l[e.toNat]'jD=a:=⟨_,rfl⟩
         refine Xv (l:=[0,1,2,3,4,5,6,7,8,9,10]) (Hin:=h2) jA rfl ?_;refine S7 ?_;simp only [H9,he];refine S2 ?_;simp only [H9,hb];refine XN rfl rfl F.bld31 (.cons rfl jG (.cons rfl jG .nil)) rfl rfl ?_;refine We (LU M2 gb _ r2 h2 hR2 ⟨4,b,0⟩ ((hm1.trans hm2).loose hM) (hP.mono (hm1.trans hm2)) jD) ?_;rintro _ M3 hb3 hm3 ⟨rfl,hR3⟩;rw [Zxi (t:=(⟨4,b,0⟩:Trn)) (.inr rfl)] at hR3;refine S8 ?_;refine YO (a':=[(9,_)]) (k+1) (hb3) (.cons (k:=9) rfl (.cons (k:=7) rfl (.cons (k:=6) rfl (.cons (k:=4) rfl (.cons (k:=0) rfl (.nil)))))) (hm2.trans hm3) (fun w hw=>by first|exact hw|exact hw.c) ?_ ?_
         ·refine ⟨rfl,by omega,?_⟩;rw [Zdg jD,hr2,he,A7 (show e.toNat<l_l.length by omega),hb,F7,show N+1000000 * ((k+1:Nat):Int)=N+1000000 * (k:Int)+1000000 by omega];exact hR3
         ·omega
        ·refine S11 ?_;refine ZH fun w hw=>?_;obtain rfl:k=x_l.length:=by omega
         rw [G0] at hr2;exact ⟨_,M2,h2,rfl,hm1.trans hm2,hw.c,_,_,rfl,hR2.mono jD (Mem.le.refl _),by rw [← hr2];exact Zjo _⟩
theorem CW (M:Mem) (r:Int) (l:(Sl Yk)) (id:Plc) (hl0:SlK M Yk.segs 3 l) (hl1:∀ y∈(l).l,Yk.ok M y) (hM:M.dr=0) (hP:PowM M) (h:¬((2≤r∧r≤4)∧l.l.length≤5)):Esp.Fn Tryz.prog 5 [.int .i64 r,Sl.val l,WX [ZU id]] M (fun _ v=>v=.bool true):=by
 obtain ⟨l_a,l_c,l_l⟩:=l;have k_l:SlK M Yk.segs 3 ⟨l_a,l_c,l_l⟩:=hl0;simp only at h;refine WE Tryz.func5 rfl Tryz.ntmps5 rfl ?_;intro H;refine S3 ?_;intro b1;refine S9 ?_;refine YE 25 (cT fun hc2=>?_) (cF fun hc2=>?_)
 ·refine S13 ?_;refine PH (PZ M (Mem.le.loose (Mem.le.refl M) hM) (hP.mono (Mem.le.refl M))) ?_;rintro _ M9 hm9 rfl;refine S5 ?_;refine ZH fun w hw=>?_;exact ⟨_,_,rfl,hm9,hw.c,rfl⟩
 ·refine S4 ?_;refine YE 29 (cT fun hc3=>?_) (cF fun hc3=>?_)
  ·refine S9 ?_;refine PH (PZ M (Mem.le.loose (Mem.le.refl M) hM) (hP.mono (Mem.le.refl M))) ?_;rintro _ M9 hm9 rfl;refine S5 ?_;refine ZH fun w hw=>?_;exact ⟨_,_,rfl,hm9,hw.c,rfl⟩
  ·refine S6 ?_;refine Xb (cT fun hc4=>?_) (cF fun hc4=>?_)
   ·refine S2 ?_;refine PH (PZ M (Mem.le.loose (Mem.le.refl M) hM) (hP.mono (Mem.le.refl M))) ?_;rintro _ M9 hm9 rfl;refine S5 ?_;refine ZH fun w hw=>?_;exact ⟨_,_,rfl,hm9,hw.c,rfl⟩
   ·(exfalso;omega)
theorem EW (M:Mem) (r:Int) (l:(Sl Yk)) (id:Plc) (hl0:SlK M Yk.segs 3 l) (hl1:∀ y∈(l).l,Yk.ok M y) (hM:M.dr=0) (hP:PowM M) (hr:2≤r∧r≤4) (h5:l.l.length≤5):Esp.Fn Tryz.prog 5 [.int .i64 r,Sl.val l,WX [ZU id]] M (fun _ v=>v=.bool true):=by
 obtain ⟨l_a,l_c,l_l⟩:=l;have k_l:SlK M Yk.segs 3 ⟨l_a,l_c,l_l⟩:=hl0;have s_l:SlM M l_a (l_l.map Yk.segs) 3:=k_l.h1;have n_l:(l_l.map Yk.segs).length=l_l.length:=List.length_map ..;have m_l:l_l.length≤9223372036854775807:=k_l.h2;have c_l:l_l.length≤l_c:=k_l.h3;have elt_l:∀ y∈l_l,Yk.ok M y:=hl1;simp only at h5;refine WE Tryz.func5 rfl Tryz.ntmps5 rfl ?_;intro H;refine S3 ?_;intro b1;refine S9 ?_;refine YE 25 (cT fun hc2=>?_) (cF fun hc2=>?_)
 ·(exfalso;omega)
 ·refine S4 ?_;refine YE 29 (cT fun hc3=>?_) (cF fun hc3=>?_)
  ·(exfalso;omega)
  ·refine S6 ?_;refine Xb (cT fun hc4=>?_) (cF fun hc4=>?_)
   ·(exfalso;omega)
   ·refine S5 ?_;refine We (Zgb M r 1000 ⟨by omega,by omega⟩ ⟨by decide,by decide⟩) ?_;rintro _ M1 hA1 hm1 ⟨ga,rfl,hA⟩;refine S9 ?_;refine Xv (l:=[0,1,2,3,4,5,6,7,8,9,10,11]) (Hin:=hA1) jA rfl ?_;refine S3 ?_;refine YE 42 (fun hc5=>?_) (fun hc5=>?_)
    ·skip
     (exfalso;simp [eqX] at hc5;done)
    ·skip
     refine S4 ?_;refine YE 46 (eT fun hc6=>?_) (eF fun hc6=>?_)
     ·(exfalso;simp [eqX] at hc6;done)
     ·refine Stp ?_;refine XN rfl rfl F.bld31 (.cons rfl jG (.cons rfl jG .nil)) rfl rfl ?_;refine We (LU M1 ga _ ⟨r,1000,[],[]⟩ hA1 hA ⟨1,100,0⟩ (hm1.loose hM) (hP.mono hm1) jD) ?_;rintro v9 M2 hA2 hm2 ⟨hv9,hR2⟩;rw [show doR K.peerN ⟨r,1000,[],[]⟩ ⟨1,100,0⟩=Td K.peerN ⟨r,1000,[],[]⟩ 100 from do1 rfl] at hv9 hR2;rw [show (Td K.peerN ⟨r,1000,[],[]⟩ 100).2=0 from GF (fun _=>rfl) ⟨by omega,by omega⟩] at hv9;subst hv9;refine S4 ?_;refine Xb (eT fun hc7=>?_) (eF fun hc7=>?_)
      ·(exfalso;simp [eqX] at hc7;done)
      ·refine S9 ?_;refine VG [9,7,6,5,0,1] ?_;refine XV (Hin:=hA2) (.succ .zero) jA (fun (k:Nat) M3 h3 z=>∃ (rr:Rg) (j:Nat),z=[(9,.int .i64 (k:Int))]∧k≤l_l.length∧RingIs ga (1000000+100000000 * (k:Int)) rr M3 h3∧j≤k∧Happ K.peerN 40 r 1000 j rr) (fun k=>l_l.length-k) (0) (⟨_,0,rfl,by omega,hR2.mono jD (Mem.le.refl _),Nat.le_refl 0,.zero⟩) ?_;rintro k M3 h3 z hm3 ⟨rr,j,rfl,hk,hR3,hj,hH⟩;have hz3:M.le M3:=(hm1.trans hm2).trans hm3;have s_l3:=s_l.mono hz3;refine S9 ?_;refine Xb (cT fun hc8=>?_) (cF fun hc8=>?_)
       ·refine S5 ?_;obtain ⟨⟨e_kind,e_addr,⟨e_a,e_c,e_l⟩⟩,he⟩:∃ e,l_l[k]'jD=e:=⟨_,rfl⟩
        have oke:=(hl1 _ (List.getElem_mem (show k<l_l.length by omega))).mono hz3;rw [he] at oke;refine Xv (l:=[0,1,2,3,4,5,6,7,8,9,10,11,12,13,14]) (Hin:=h3) jA rfl ?_;refine S5 ?_;simp only [List.get_eq_getElem,he];refine S2 ?_;refine YE 64 (eT fun hc9=>?_) (eF fun hc9=>?_)
        ·refine S5 ?_;simp only [List.get_eq_getElem,he];refine Stp ?_;refine We (Zcu M3 ga _ rr h3 hR3 ⟨e_kind,e_addr,⟨e_a,e_c,e_l⟩⟩ oke r (Mem.le.loose hz3 hM) (hP.mono hz3) jD) ?_;rintro _ M4 h4 hm4 ⟨r1,b9,rfl,hR4,hev⟩;have hz4:=hz3.trans hm4;refine S3 ?_;refine Xb (fun hc10=>?_) (fun hc10=>?_)
         ·skip
          refine Xv (l:=[0,1]) (Hin:=h4) jA rfl ?_;refine Stp ?_;refine We (HA M4 ga _ r1 h4 hR4 40 (Mem.le.loose hz4 hM) (hP.mono hz4) jM jD) ?_;rintro _ M5 h5 hm5 ⟨rfl,hR5⟩;refine S8 ?_;refine YO (a':=[(9,_)]) (k+1) (h5) (.cons (k:=9) rfl (.cons (k:=7) rfl (.cons (k:=6) rfl (.cons (k:=5) rfl (.cons (k:=0) rfl (.cons (k:=1) rfl (.nil))))))) ((hm3.trans hm4).trans hm5) (fun w hw=>by first|exact hw|exact hw.c) ?_ ?_
          ·have hE:Evt K.peerN rr r1:=(hev.resolve_right (fun h9=>absurd (h9.1.symm.trans jE) jM)).2;exact ⟨_,j+1,rfl,by omega,hR5.mono jD (Mem.le.refl _),by omega,hH.step hE⟩
          ·omega
         ·skip
          refine S8 ?_;refine YO (a':=[(9,_)]) (k+1) (h4) (.cons (k:=9) rfl (.cons (k:=7) rfl (.cons (k:=6) rfl (.cons (k:=5) rfl (.cons (k:=0) rfl (.cons (k:=1) rfl (.nil))))))) (hm3.trans hm4) (fun w hw=>by first|exact hw|exact hw.c) ?_ ?_
          ·have hE:r1=rr:=(hev.resolve_left (fun h9=>absurd (h9.1.symm.trans jE) jM)).2;rw [hE] at hR4;exact ⟨rr,j,rfl,by omega,hR4.mono jD (Mem.le.refl _),by omega,hH⟩
          ·omega
        ·refine S19 ?_;refine YO (a':=[(9,_)]) (k+1) (h3) (.cons (k:=9) rfl (.cons (k:=7) rfl (.cons (k:=6) rfl (.cons (k:=5) rfl (.cons (k:=0) rfl (.cons (k:=1) rfl (.nil))))))) hm3 (fun w hw=>by first|exact hw|exact hw.c) ?_ ?_
         ·exact ⟨rr,j,rfl,by omega,hR3.mono jD (Mem.le.refl _),by omega,hH⟩
         ·omega
       ·refine S7 ?_;obtain rfl:k=l_l.length:=by omega
        refine S2 ?_;refine PG (Pm M3 ga _ rr h3 hR3 (Mem.le.loose hz3 hM) (hP.mono hz3)) ?_;rintro _ M4 hm4 rfl;have hz4:=hz3.trans hm4;have hR4:=hR3.mono (Int.le_refl _) hm4;refine S3 ?_;refine Xb (fun hc11=>?_) (fun hc11=>?_)
        ·skip
         refine S2 ?_;refine PH (PZ M4 (Mem.le.loose hz4 hM) (hP.mono hz4)) ?_;rintro _ M12 hm12 rfl;refine S5 ?_;refine ZH fun w hw=>?_;exact ⟨_,_,rfl,hz4.trans hm12,hw.c,rfl⟩
        ·skip
         refine S3 ?_;obtain ⟨hcop,hslf,hround,hcirc⟩:=Zcv (fun _=>rfl) ⟨by omega,by omega⟩ hH jD (Oj jE);have hid:XQ K.peerN rr=true:=Oj jE;refine S2 ?_;refine PG (JU M4 ga _ rr h3 hR4) ?_;rintro _ M5 hm5 ⟨⟨v_a,v_c,v_l⟩,rfl,el,k_v⟩;subst el;have hz5:=hz4.trans hm5;have s_v:SlM M5 v_a ((XW rr).map (WC .i64)) 1:=k_v.h1;have n_v:((XW rr).map (WC .i64)).length=(XW rr).length:=List.length_map ..;have m_v:(XW rr).length≤9223372036854775807:=k_v.h2;have c_v:(XW rr).length≤16:=by have h9:=hR3.few;unfold XW;rw [List.length_map];exact h9
         simp only [Sl.val];refine S6 ?_;refine PH (K.Of_ok M5 ⟨v_a,v_c,XW rr⟩ k_v (hz5.loose hM) (GA (hP.mono hz5) _)) ?_;rintro _ M6 hm6 hv;obtain ⟨⟨c_a,c_c,c_l⟩,e2,rfl,k_c,hcc⟩:=Zgp hv;obtain ⟨rfl,-,rfl⟩:=hcc.resolve_right (fun h9=>h9.2 hcirc);have hz6:=hz5.trans hm6;have s_c:SlM M6 c_a ((Wr K.peerN rr).map Zr.segs) 21:=k_c.h1;have n_c:((Wr K.peerN rr).map Zr.segs).length=(Wr K.peerN rr).length:=List.length_map ..;have m_c:(Wr K.peerN rr).length≤9223372036854775807:=k_c.h2;simp only [Sl.val];refine S11 ?_;refine Vn (K.Owner_ok M6 ⟨c_a,c_c,Wr K.peerN rr⟩ id k_c) ?_;rintro _ rfl;obtain ⟨o9,hog⟩:∃ o,Ve (Wr K.peerN rr) id=o:=⟨_,rfl⟩
         have ho9:o9<(Wr K.peerN rr).length:=by rw [← hog];exact Ua (by have:=hcirc.1;omega)
         rw [show EG (Wr K.peerN rr) id=(((o9:Nat):Int),0) by unfold EG;rw [if_pos hcirc,hog]];simp only [Zyx];refine S13 ?_;refine YE 94 (eT fun hc12=>?_) (eF fun hc12=>?_)
         ·(exfalso;simp [eqX] at hc12;done)
         ·refine S5 ?_;refine Xb (eT fun hc13=>?_) (eF fun hc13=>?_)
          ·(exfalso;simp [eqX] at hc13;done)
          ·simp only [Zr.eta,ZK.eta,ZM.eta,ZI.eta,YD.eta,YQ.eta,XM.eta,YT.eta,ZW.eta,XF.eta,Yk.eta] at hc13;refine S14 ?_;refine VG [16,15,13,11,10,7,6,5] ?_;refine XV (Hin:=[]) (.succ (.succ .zero)) jA (fun (k:Nat) M7 h7 z=>∃ (ts:List ZK) (v:Value),z=[(16,.int .i64 (k:Int)),(15,v)]∧k≤(XW rr).length∧OSl 41 44 v h7 (ts.map ZK.segs)∧(∀ t∈ts,ZK.ok M7 t)∧ts.map ZK.tb=((XW rr).take k).map (fun a=>((YC a rr.nodes).map Nd.table).getD Tb.zero)) (fun k=>(XW rr).length-k) (0) (⟨[],_,rfl,by omega,OSl.nil,by simp,rfl⟩) ?_;rintro k2 M7 h7 z hm7 ⟨ts,v0,rfl,hk2,ho,hok,hI⟩;obtain ⟨ad0,cp0,rfl⟩:=ho.valL;have hml:(ts.map ZK.segs).length=ts.length:=List.length_map ..;have hal:ts.length=k2:=by have h9:=congrArg List.length hI;simp only [List.length_map,List.length_take] at h9;omega
           have s_v7:=(s_v.mono hm6).mono hm7;have hR7:=hR4.mono (Int.le_refl _) ((hm5.trans hm6).trans hm7);refine S9 ?_;refine Xb (cT fun hc14=>?_) (cF fun hc14=>?_)
           ·refine S5 ?_;obtain ⟨a,ha⟩:∃ a,(XW rr)[k2]'jD=a:=⟨_,rfl⟩
            obtain ⟨n9,hn9⟩:=Ztb (r:=rr) (a:=a) (by rw [← ha];exact List.getElem_mem _);refine S6 ?_;simp only [List.get_eq_getElem,ha];refine PG (Zqi M7 ga _ rr h3 hR7 a) ?_;rintro _ MX hmX ⟨hMX,hv9⟩;subst MX;obtain ⟨⟨⟨⟨XT,Ws⟩,⟨XU,Wt⟩,⟨Ww,Wv,Wu⟩,⟨XI,XH,XG⟩⟩,TN,TJ,RW,TM,PR,Sy,TO,TI,UP,TK,UQ,TL,⟨UT,US,UR⟩,RV,RU⟩,rfl,okx,ex⟩:=hv9.live hn9;refine S4 ?_;intro b15;refine XX F.lay44 ?_;refine S10 ?_;refine Xb (eT fun hc16=>?_) (eF fun hc16=>?_)
            ·(exfalso;simp [eqX] at hc16;done)
            ·refine S6 ?_;refine YK rfl rfl F.elem66 F.zero41 rfl rfl (.cons rfl jG .nil) rfl rfl jK rfl ?_;intro b17 hob18;refine Vc (m:=1000000) rfl rfl rfl rfl rfl F.elem66 F.zero41 zI rfl jE jA (Src.own hob18.lens jN rfl jB) jX jM rfl ?_;intro v21 hs20 ho19;obtain ⟨adv21,cpv21,rfl⟩:=ho19.valAt (n:=ts.length+1) zS;refine S9 ?_;refine YO (a':=[(16,_),(15,_)]) (k2+1) (hs20) (.cons (k:=16) rfl (.cons (k:=15) rfl (.cons (k:=13) rfl (.cons (k:=11) rfl (.cons (k:=10) rfl (.cons (k:=7) rfl (.cons (k:=6) rfl (.cons (k:=5) rfl (.nil))))))))) hm7 (fun w hw=>by first|exact hw|exact hw.c) ?_ ?_
             ·refine ⟨ts++[⟨⟨XT,Ws⟩,⟨XU,Wt⟩,⟨Ww,Wv,Wu⟩,⟨XI,XH,XG⟩⟩],_,rfl,by omega,by rw [List.map_append];exact ho19,fun t ht=>?_,?_⟩
              ·rcases List.mem_append.1 ht with ht|ht
               ·exact hok t ht
               ·rw [List.mem_singleton.1 ht];exact okx.h0
              ·rw [List.map_append,hI,List.take_add_one,List.getElem?_eq_getElem (show k2<(XW rr).length by omega),Option.toList_some,List.map_append];refine congrArg (fun t=>List.map _ _++[t]) ?_;rw [ha];show _=((YC a rr.nodes).map Nd.table).getD Tb.zero;rw [hn9,← ex];rfl
             ·omega
           ·refine S7 ?_;obtain rfl:k2=(XW rr).length:=by omega
            rw [List.take_length] at hI;refine Pn ho jA (fun M8 hm8 k_t=>?_);have hz8:=((hz6.trans hm7).trans hm8)
            refine S5 ?_;refine VG [19,15,13,11,10,7,6,5] ?_;refine XV (Hin:=[]) (.succ .zero) jA (fun (k:Nat) M10 h10 z=>z=[(19,.int .i64 (k:Int))]∧k≤(XW rr).length∧h10=[]) (fun k=>(XW rr).length-k) (0) (⟨rfl,by omega,rfl⟩) ?_;rintro k9 M10 h10 z hm10 ⟨rfl,hk9,rfl⟩;have hz10:=hz8.trans hm10;have hy10:M3.le M10:=((((hm4.trans hm5).trans hm6).trans hm7).trans hm8).trans hm10;have s_v10:=(((s_v.mono hm6).mono hm7).mono hm8).mono hm10;have s_c10:=((s_c.mono hm7).mono hm8).mono hm10;refine S9 ?_;refine Xb (cT fun hc22=>?_) (cF fun hc22=>?_)
            ·refine S5 ?_;obtain ⟨a,ha⟩:∃ a,(XW rr)[k9]'jD=a:=⟨_,rfl⟩
             obtain ⟨R9,hW,ho,hE⟩:=Zcm (fun _=>rfl) hslf hcop hid hI (a:=a) (by rw [← ha];exact List.getElem_mem _) id;refine Ya (l:=[0,1,2,3,4,5,6,7,8,9,10,11,12]) #[0,0,0,6,14,0,63,127,255,255,0,1535,4095] _ rfl jI jI St.drawn (fun _ h=>h) ?_;refine S5 ?_;simp only [List.get_eq_getElem,ha];refine Stp ?_;refine PH (Zuv M10 ⟨_,_,ts⟩ a id 64 (k_t.mono hm10) (fun y hy=>(hok y hy).mono (hm8.trans hm10))) ?_;rintro _ M9 hm9 hv;replace hv:Ca M9 _ (Vk (ts.map ZK.tb) a id 64):=hv;rw [hW] at hv;obtain ⟨_,rfl,⟨⟨⟨p_a,p_c,p_l⟩,⟨y_a,y_i⟩⟩,rfl,eR,okR⟩⟩:=hv;subst eR;have hE2:(⟨y_a,y_i⟩:Zr)=(Wr K.peerN rr)[o9]:=hE.trans (by simp only [hog]);have s_c9:=s_c10.mono hm9;refine S4 ?_;intro b23;refine S5 ?_;refine Ya (l:=[0,1,2,3,4,5,6,7,8,9,10]) #[0,1,3,7,15,7,7,103,231,511,1023] _ rfl jI jI St.drawn (fun _ h=>h) ?_;refine S3 ?_;refine YE 138 (eT fun hc24=>?_) (eF fun hc24=>?_)
             ·(exfalso;simp [eqX] at hc24;done)
             ·refine S6 ?_;refine VW (m:=20) rfl rfl rfl rfl rfl jG jG F.lay38 F.kinds38 rfl F.guard38 jR (by exact Xr _) rfl rfl rfl ?_;intro c25 he26;replace he26:c25=true↔¬(Segs.cells _=Segs.cells _):=he26;obtain rfl:=neD he26 (Zr.inj (x:=⟨_,_⟩) (y:=⟨_,_⟩));clear he26;refine S3 ?_;refine Xb (eT fun hc27=>?_) (eF fun hc27=>?_)
              ·simp only [List.get_eq_getElem] at hc27;contradiction
              ·simp only [List.get_eq_getElem] at hc27;refine S8 ?_;refine YO (a':=[(19,_)]) (k9+1) ([]) (.cons (k:=19) rfl (.cons (k:=15) rfl (.cons (k:=13) rfl (.cons (k:=11) rfl (.cons (k:=10) rfl (.cons (k:=7) rfl (.cons (k:=6) rfl (.cons (k:=5) rfl (.nil))))))))) (hm10.trans hm9) (fun w hw=>by first|exact hw|exact hw.c) ?_ ?_
               ·exact ⟨rfl,by omega,rfl⟩
               ·omega
            ·refine S6 ?_;obtain rfl:k9=(XW rr).length:=by omega
             refine Xv (l:=[0,1,2,3]) (Hin:=h3) jA rfl ?_;refine Stp ?_;refine XN rfl rfl F.bld31 (.cons rfl jG .nil) rfl rfl ?_;refine We (LU M10 ga _ rr h3 (hR3.mono (Int.le_refl _) hy10) ⟨9,0,0⟩ (Mem.le.loose hz10 hM) (hP.mono hz10) jD) ?_;rintro _ M11 h11 hm11 ⟨rfl,hR11⟩;rw [do9 (t:=(⟨9,0,0⟩:Trn)) rfl] at hR11 ⊢;have hz11:=hz10.trans hm11;refine S5 ?_;refine PH (PZ M11 (Mem.le.loose hz11 hM) (hP.mono hz11)) ?_;rintro _ M12 hm12 rfl;refine Stp ?_;refine YE 151 (fun hc28=>?_) (fun hc28=>?_)
             ·skip
              refine S4 ?_;refine YE 155 (cT fun hc29=>?_) (cF fun hc29=>?_)
              ·refine Stp ?_;refine PG (Pm M12 ga _ _ h11 (hR11.mono (Int.le_refl _) hm12) (Mem.le.loose (hz11.trans hm12) hM) (hP.mono (hz11.trans hm12))) ?_;rintro _ M13 hm13 hv9;rw [hround] at hv9;subst hv9;refine S5 ?_;refine ZH fun w hw=>?_;exact ⟨_,_,rfl,(hz11.trans hm12).trans hm13,hw.c,rfl⟩
              ·(exfalso;simp [eqX] at hc29;done)
             ·skip
              (exfalso;simp [eqX] at hc28;done)
theorem lawWalks_ok (M:Mem) (r:Int) (l:(Sl Yk)) (id:Plc) (hl0:SlK M Yk.segs 3 l) (hl1:∀ y∈(l).l,Yk.ok M y) (hM:M.dr=0) (hP:PowM M):Esp.Fn Tryz.prog 5 [.int .i64 r,Sl.val l,WX [ZU id]] M (fun _ v=>v=.bool true):=by
 by_cases h:(2≤r∧r≤4)∧l.l.length≤5
 ·exact EW M r l id hl0 hl1 hM hP h.1 h.2
 ·exact CW M r l id hl0 hl1 hM hP h
end Go.Proofs.YtglnjnacodgmaaaGreatDoor
