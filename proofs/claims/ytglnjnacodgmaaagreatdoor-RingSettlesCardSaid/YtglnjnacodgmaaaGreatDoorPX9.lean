/-
  RingSettles: what happens, and the law, step by step.
-/
import Derived.Test.YtglnjnacodgmaaaGreatDoorPX8
set_option linter.unusedSimpArgs false
set_option linter.unusedVariables false
set_option linter.unnecessarySimpa false
set_option maxRecDepth 8000
set_option maxHeartbeats 1000000
open BitVec renaming eq_of_toNat_eq → J5
open Bool renaming and_eq_true → F1
open Decidable renaming byContradiction → C2,not_not → I0
open List renaming getElem?_eq_getElem → A7,length_map → A8,mem_singleton → B0,mem_cons_self → B1,mem_cons_of_mem → B2,length_append → B3,cons_append → B4,append_assoc → B5,nil_append → B6,mem_cons → B7,mem_append → B8,mem_map → C0,getElem_mem → C1,mem_append_left → C5,map_append → C6,length_cons → C8,take_add_one → C9,mem_append_right → D0,map_cons → D3,eq_nil_of_length_eq_zero → D4,getD_eq_getElem?_getD → D7,length_take → D8,nodup_cons → D9,append_nil → E0,pairwise_iff_getElem → E1,getElem_of_mem → E2,all_eq_true → E7,take_append_drop → F0,length_drop → F3,mem_filter → F6,mem_of_mem_take → F9,take_length → G0,getElem?_append_right → G2,drop_eq_getElem_cons → G4,foldl_cons → G6,mem_map_of_mem → G8,nodup_append → H3,take_of_length_le → H5,get_eq_getElem → H9,map_map → I2,take_take → I3,foldl_append → I4,length_singleton → I6,getElem_map → I7,nodup_nil → J1,ext_getElem → J4
open List.Mem renaming head → J3,tail → J6
open List.Pairwise renaming nil → J8
open List.Perm renaming refl → I9
open Nat renaming le_refl → B9,zero_le → C3,lt_or_ge → C7,mod_eq_of_lt → E3,eq_of_beq_eq_true → F8,mod_lt → G5,le_trans → H7,min_eq_left → I5
open Option renaming getD_some → F7
open Option.some renaming inj → A5
namespace Go.Esp
theorem len2{α:Type}{l:List α}(h:l.length=2):∃ a b,l=[a,b]:=match l,h with|[a,b],_=>⟨a,b,rfl⟩
end Go.Esp
namespace Go.Proofs.YtglnjnacodgmaaaGreatDoor
open Go.Esp
theorem hapS(M:Mem)(q:Nat)(N:Int)(r:Rg)(Hb:Hp)(S:RingIs q N r M Hb)(x:Yk)(ab:Yk.ok M x)(c:Int)(R:M.dr=0)(hP:PowM M)(hN:N+20000000≤1000000000000000):Fh Tryz.prog 21 [.pointer (some ⟨q,0,none⟩),x.enc,.int .i64 c] M Hb (fun M' v aa=>∃ r1 b,v=.bool b∧RingIs q (N+20000000) r1 M' aa∧Xif K.peerN c r r1 b):=by
 obtain⟨P,SQ,⟨B,U,f⟩⟩:=x;have C:SlK M (WC .i64) 1 ⟨B,U,f⟩:=ab.h0;have af:SlM M B (f.map (WC .i64)) 1:=C.h1;have az:(f.map (WC .i64)).length=f.length:=A8 ..;have ax:f.length≤9223372036854775807:=C.h2;refine YI (fun H=>Hb++H) (fun _=>rfl) Tryz.func21 rfl Tryz.ntmps21 rfl ?_;intro H;refine S3 ?_;intro b1;refine S6 ?_;refine PG (JU M q _ r Hb S) ?_;rintro _ o d ⟨⟨aj,ay,g⟩,rfl,el,G⟩;try simp only at el
 have D:=af.mono d;have i:=S.mono (Int.le_refl _) d;have ae:SlM o aj (g.map (WC .i64)) 1:=G.h1;have aw:(g.map (WC .i64)).length=g.length:=A8 ..;have ar:g.length≤9223372036854775807:=G.h2;have au:g.length≤16:=by have:=S.few;have h9:=A9 List.length el;simp only[XW,A8]at h9;omega
 simp only[Sl.val];refine S11 ?_;refine YE 16 (cT fun T=>?_) (cF fun T=>?_)
 ·refine S14 ?_;refine ZH fun w hw=>?_;exact⟨_,o,Hb,rfl,d,hw.c,_,_,rfl,i.mono jD (Mem.le.refl _),Xjf⟩
 refine S6 ?_;refine Xb (cT fun V=>?_) (cF fun V=>?_)
 ·refine S7 ?_;refine ZH fun w hw=>?_;exact⟨_,o,Hb,rfl,d,hw.c,_,_,rfl,i.mono jD (Mem.le.refl _),Xjf⟩
 refine S9 ?_;refine VG [8,7,6,4,0,2] ?_;refine Un (.succ .zero) (fun(k:Nat) z=>z=[(8,.int .i64 (k:Int))]∧k≤f.length∧∀ j (h2:j<f.length),j<k→0≤f[j]∧f[j]<g.length) (fun k=>f.length-k) (0) (⟨rfl,by omega,by intro j h2 hj;omega⟩) ?_;rintro k _ ⟨rfl,hk,hI⟩;refine S10 ?_;refine Xb (cT fun ad=>?_) (cF fun ad=>?_)
 ·refine S5 ?_;obtain⟨e,he⟩:∃ a,f[k]'jD=a:=⟨_,rfl⟩
  refine S6 ?_;simp only[H9,he];refine S2 ?_;refine YE 34 (cT fun ak=>?_) (cF fun ak=>?_)
  ·refine S23 ?_;refine ZH fun w hw=>?_;exact⟨_,o,Hb,rfl,d,hw.c,_,_,rfl,i.mono jD (Mem.le.refl _),Xjf⟩
  refine S5 ?_;simp only[H9,he];refine S6 ?_;refine Xb (cT fun X=>?_) (cF fun X=>?_)
  ·refine S11 ?_;refine ZH fun w hw=>?_;exact⟨_,o,Hb,rfl,d,hw.c,_,_,rfl,i.mono jD (Mem.le.refl _),Xjf⟩
  refine S8 ?_;refine VX (a':=[(8,_)]) (k+1) (.cons (k:=8) rfl (.cons (k:=7) rfl (.cons (k:=6) rfl (.cons (k:=4) rfl (.cons (k:=0) rfl (.cons (k:=2) rfl (.nil))))))) (fun w hw=>by first|exact hw|exact hw.c) ?_ ?_
  ·refine⟨rfl,by omega,?_⟩;intro j h2 hj;rcases C7 j k with h9|h9
   ·exact hI j h2 h9
   obtain rfl:j=k:=by omega
   omega
  omega
 refine S7 ?_;obtain rfl:k=f.length:=by omega
 have an:=hI 0 jD jD;obtain⟨e0,s⟩:∃ a,f[0]'jD=a:=⟨_,rfl⟩
 rw[s]at an;obtain⟨Q,A⟩:∃ a,g[e0.toNat]'jD=a:=⟨_,rfl⟩
 refine S12 ?_;refine Xb (cT fun Y=>?_) (cF fun Y=>?_)
 ·refine Stp ?_;refine Um (l:=[0,1,2,3,4,5,6,7,8,9,10,11,12,13,14,15,16,17,18]) (Hin:=Hb) #[0,1,3,7,15,15,47,15,15,271,783,1807,3983,8079,16367,32767,65535,131071,262143] jA rfl jI jI ?_;refine S4 ?_;refine YE 51 (cT fun ai=>?_) (cF fun ai=>?_)
  ·refine S8 ?_;simp only[H9,s];refine S2 ?_;simp only[H9,A];refine XN rfl rfl F.bld31 (.cons rfl jG (.cons rfl jG (.cons rfl jG .nil))) rfl rfl ?_;refine We (LU o q _ r Hb i ⟨2,SQ,Q⟩ (d.loose R) (hP.mono d) jD) ?_;rintro _ M2 y m ⟨rfl,n⟩;rw[do2 (t:=(⟨2,SQ,Q⟩:Trn)) rfl]at n ⊢;refine S8 ?_;refine ZH fun w hw=>?_;exact⟨_,M2,y,rfl,d.trans m,hw.c,_,_,rfl,n.mono jD (Mem.le.refl _),Xjd _ _⟩
  refine S20 ?_;refine ZH fun w hw=>?_;exact⟨_,o,Hb,rfl,d,hw.c,_,_,rfl,i.mono jD (Mem.le.refl _),Xjf⟩
 refine S6 ?_;refine Xb (cT fun W=>?_) (cF fun W=>?_)
 ·refine Stp ?_;refine Xv (l:=[0,1,2,3,4,5,6,7,8,9,10,11,12,13,14,15,16]) (Hin:=Hb) jA rfl ?_;refine S4 ?_;refine YE 71 (cT fun L=>?_) (cF fun L=>?_)
  ·refine S6 ?_;simp only[H9,s];refine S2 ?_;simp only[H9,A];refine XN rfl rfl F.bld31 (.cons rfl jG (.cons rfl jG .nil)) rfl rfl ?_;refine We (LU o q _ r Hb i ⟨3,Q,0⟩ (d.loose R) (hP.mono d) jD) ?_;rintro _ M2 y m ⟨rfl,n⟩;rw[Zxi (t:=(⟨3,Q,0⟩:Trn)) (.inl rfl)]at n ⊢;refine S8 ?_;refine ZH fun w hw=>?_;exact⟨_,M2,y,rfl,d.trans m,hw.c,_,_,rfl,n.mono jD (Mem.le.refl _),Xiz _ (by have h9:=A9 List.length el;simp only[XW,A8]at h9;omega)⟩
  refine S18 ?_;refine ZH fun w hw=>?_;exact⟨_,o,Hb,rfl,d,hw.c,_,_,rfl,i.mono jD (Mem.le.refl _),Xjf⟩
 refine S12 ?_;refine YE 89 (cT fun E=>?_) (cF fun E=>?_)
 ·refine S17 ?_;refine ZH fun w hw=>?_;exact⟨_,o,Hb,rfl,d,hw.c,_,_,rfl,i.mono jD (Mem.le.refl _),Xjf⟩
 refine S9 ?_;refine Xb (cT fun I=>?_) (cF fun I=>?_)
 ·refine S7 ?_;refine ZH fun w hw=>?_;exact⟨_,o,Hb,rfl,d,hw.c,_,_,rfl,i.mono jD (Mem.le.refl _),Xjf⟩
 refine S9 ?_;refine VG [9,7,6,4,0] ?_;refine XV (Hin:=Hb) (.succ .zero) jA (fun(k:Nat) M2 h2 z=>z=[(9,.int .i64 (k:Int))]∧k≤f.length∧RingIs q (N+1000000 * (k:Int)) (Nk r (Zbr g (f.take k))) M2 h2) (fun k=>f.length-k) (0) (⟨rfl,by omega,by simpa[Zbr,Nk]using i⟩) ?_;rintro k M2 h2 z m ⟨rfl,hk,n⟩;have ao:=D.mono m;have aq:=ae.mono m;obtain⟨Z,p⟩:∃ Z,Nk r (Zbr g (f.take k))=Z:=⟨_,rfl⟩
 rw[p]at n;refine S10 ?_;refine Xb (cT fun O=>?_) (cF fun O=>?_)
 ·refine S4 ?_;have ah:=hI k jD jD;obtain⟨e,he⟩:∃ a,f[k]'jD=a:=⟨_,rfl⟩
  rw[he]at ah;obtain⟨b,hb⟩:∃ a,g[e.toNat]'jD=a:=⟨_,rfl⟩
  refine Xv (l:=[0,1,2,3,4,5,6,7,8,9,10]) (Hin:=h2) jA rfl ?_;refine S7 ?_;simp only[H9,he];refine S2 ?_;simp only[H9,hb];refine XN rfl rfl F.bld31 (.cons rfl jG (.cons rfl jG .nil)) rfl rfl ?_;refine We (LU M2 q _ Z h2 n ⟨4,b,0⟩ ((d.trans m).loose R) (hP.mono (d.trans m)) jD) ?_;rintro _ M3 al ag ⟨rfl,J⟩;rw[Zxi (t:=(⟨4,b,0⟩:Trn)) (.inr rfl)]at J;refine S8 ?_;refine YO (a':=[(9,_)]) (k+1) (al) (.cons (k:=9) rfl (.cons (k:=7) rfl (.cons (k:=6) rfl (.cons (k:=4) rfl (.cons (k:=0) rfl (.nil)))))) (m.trans ag) (fun w hw=>by first|exact hw|exact hw.c) ?_ ?_
  ·refine⟨rfl,by omega,?_⟩;rw[Zdg jD,p,he,A7 (show e.toNat<g.length by omega),hb,F7,show N+1000000 * ((k+1:Nat):Int)=N+1000000 * (k:Int)+1000000 by omega];exact J
  omega
 refine S11 ?_;refine ZH fun w hw=>?_;obtain rfl:k=f.length:=by omega
 rw[G0]at p;exact⟨_,M2,h2,rfl,d.trans m,hw.c,_,_,rfl,n.mono jD (Mem.le.refl _),by rw[← p];exact Xja _ (by rw[Xje];omega) (by rw[Xje];have h9:=A9 List.length el;simp only[XW,A8]at h9;omega)⟩
theorem sNo(M:Mem)(r:Int)(l:(Sl Yk))(d:SlK M Yk.segs 3 l)(q:∀ y∈(l).l,Yk.ok M y)(f:M.dr=0)(n:PowM M)(h:¬((2≤r∧r≤4)∧l.l.length≤5)):Esp.Fn Tryz.prog 6 [.int .i64 r,Sl.val l] M (fun _ v=>v=.bool true):=by
 obtain⟨b,m,k⟩:=l;have p:SlK M Yk.segs 3 ⟨b,m,k⟩:=d;simp only at h;refine WE Tryz.func6 rfl Tryz.ntmps6 rfl ?_;intro H;repeat refine Stp ?_
 refine YE 12 (cT fun g=>?_) (cF fun g=>?_)
 ·repeat refine Stp ?_
  refine PH (PZ M (Mem.le.loose (Mem.le.refl M) f) (n.mono (Mem.le.refl M))) ?_;rintro _ o a rfl;repeat refine Stp ?_
  refine ZH fun w hw=>?_;exact⟨_,_,rfl,a,hw.c,rfl⟩
 repeat refine Stp ?_
 refine YE 16 (cT fun j=>?_) (cF fun j=>?_)
 ·repeat refine Stp ?_
  refine PH (PZ M (Mem.le.loose (Mem.le.refl M) f) (n.mono (Mem.le.refl M))) ?_;rintro _ o a rfl;repeat refine Stp ?_
  refine ZH fun w hw=>?_;exact⟨_,_,rfl,a,hw.c,rfl⟩
 repeat refine Stp ?_
 refine Xb (cT fun i=>?_) (cF fun i=>?_)
 ·repeat refine Stp ?_
  refine PH (PZ M (Mem.le.loose (Mem.le.refl M) f) (n.mono (Mem.le.refl M))) ?_;rintro _ o a rfl;repeat refine Stp ?_
  refine ZH fun w hw=>?_;exact⟨_,_,rfl,a,hw.c,rfl⟩
 (exfalso;omega)
theorem sYes(M:Mem)(r:Int)(l:(Sl Yk))(ao:SlK M Yk.segs 3 l)(al:∀ y∈(l).l,Yk.ok M y)(B:M.dr=0)(R:PowM M)(hr:2≤r∧r≤4)(h5:l.l.length≤5):Esp.Fn Tryz.prog 6 [.int .i64 r,Sl.val l] M (fun _ v=>v=.bool true):=by
 obtain⟨T,Q,a⟩:=l;have p:SlK M Yk.segs 3 ⟨T,Q,a⟩:=ao;have ai:SlM M T (a.map Yk.segs) 3:=p.h1;have az:(a.map Yk.segs).length=a.length:=List.length_map ..;have ax:a.length≤9223372036854775807:=p.h2;have ay:a.length≤Q:=p.h3;simp only at h5;refine WE Tryz.func6 rfl Tryz.ntmps6 rfl ?_;intro H;repeat refine Stp ?_
 refine YE 12 (cT fun ad=>?_) (cF fun ad=>?_)
 ·(exfalso;omega)
 refine S4 ?_;refine YE 16 (cT fun ae=>?_) (cF fun ae=>?_)
 ·(exfalso;omega)
 refine S6 ?_;refine Xb (cT fun ah=>?_) (cF fun ah=>?_)
 ·(exfalso;omega)
 refine S5 ?_;refine We (Zgb M r 1000 ⟨by omega,by omega⟩ ⟨by decide,by decide⟩) ?_;rintro _ M1 W q ⟨L,rfl,hA⟩;refine S9 ?_;refine Xv (l:=[0,1,2,3,4,5,6,7,8,9,10,11]) (Hin:=W) jA rfl ?_;refine S3 ?_;refine YE 29 (fun X=>?_) (fun X=>?_)
 ·skip
  (exfalso;simp[eqX]at X;done)
 skip
 refine S4 ?_;refine YE 33 (eT fun C=>?_) (eF fun C=>?_)
 ·(exfalso;simp[eqX]at C;done)
 refine Stp ?_;refine XN rfl rfl F.bld31 (.cons rfl jG (.cons rfl jG .nil)) rfl rfl ?_;refine We (LU M1 L _ ⟨r,1000,[],[]⟩ W hA ⟨1,100,0⟩ (q.loose B) (R.mono q) jD) ?_;rintro v9 M2 ab ar ⟨b,Z⟩;rw[show doR K.peerN ⟨r,1000,[],[]⟩ ⟨1,100,0⟩=Td K.peerN ⟨r,1000,[],[]⟩ 100 from do1 rfl]at b Z;rw[show(Td K.peerN ⟨r,1000,[],[]⟩ 100).2=0 from GF (fun _=>rfl) ⟨by omega,by omega⟩]at b;subst b;refine S4 ?_;refine Xb (eT fun D=>?_) (eF fun D=>?_)
 ·(exfalso;simp[eqX]at D;done)
 refine S9 ?_;refine VG [7,5,4,0,1] ?_;refine XV (Hin:=ab) (.succ .zero) jA (fun(k:Nat) E h3 z=>∃(rr:Rg) (j:Nat),z=[(7,.int .i64 (k:Int))]∧k≤a.length∧RingIs L (1000000+1000000000 * (k:Int)) rr E h3∧j≤k∧Xes K.peerN r 1000 j rr) (fun k=>a.length-k) (0) (⟨_,0,rfl,by omega,Z.mono jD (Mem.le.refl _),Nat.le_refl 0,.zero⟩) ?_;rintro k E h3 z i ⟨rr,j,rfl,hk,U,hj,hH⟩;have d:M.le E:=(q.trans ar).trans i;have aw:=ai.mono d;refine S9 ?_;refine Xb (cT fun an=>?_) (cF fun an=>?_)
 ·refine S6 ?_;obtain⟨⟨g,f,⟨ag,aj,ak⟩⟩,he⟩:∃ e,a[k]'jD=e:=⟨_,rfl⟩
  have aa:=(al _ (List.getElem_mem (show k<a.length by omega))).mono d;rw[he]at aa;refine Xv (l:=[0,1,2,3,4,5,6,7,8,9,10,11,12,13,14,15]) (Hin:=h3) jA rfl ?_;refine S5 ?_;simp only[List.get_eq_getElem,he];refine S2 ?_;refine YE 51 (cT fun af=>?_) (cF fun af=>?_)
  ·repeat refine Stp ?_
   refine YO (a':=[(7,_)]) (k+1) (h3) (.cons (k:=7) rfl (.cons (k:=5) rfl (.cons (k:=4) rfl (.cons (k:=0) rfl (.cons (k:=1) rfl (.nil)))))) i (fun w hw=>by first|exact hw|exact hw.c) ?_ ?_
   ·exact⟨rr,j,rfl,by omega,U.mono jD (Mem.le.refl _),by omega,hH⟩
   omega
  refine S5 ?_;simp only[List.get_eq_getElem,he];refine Stp ?_;refine We (hapS E L _ rr h3 U ⟨g,f,⟨ag,aj,ak⟩⟩ aa r (Mem.le.loose d B) (R.mono d) jD) ?_;rintro _ M4 h4 s ⟨G,b9,rfl,A,Y⟩;have t:=d.trans s;repeat refine Stp ?_
  refine Xb (fun V=>?_) (fun V=>?_)
  ·skip
   repeat refine Stp ?_
   refine YO (a':=[(7,_)]) (k+1) (h4) (.cons (k:=7) rfl (.cons (k:=5) rfl (.cons (k:=4) rfl (.cons (k:=0) rfl (.cons (k:=1) rfl (.nil)))))) (i.trans s) (fun w hw=>by first|exact hw|exact hw.c) ?_ ?_
   ·have hE:G=rr:=by cases b9 <;> first|contradiction|exact(Y.resolve_left (fun h9=>Bool.noConfusion h9.1)).2
    rw[hE]at A;exact⟨rr,j,rfl,by omega,A.mono jD (Mem.le.refl _),by omega,hH⟩
   omega
  skip
  refine S3 ?_;refine Xv (l:=[0,1,2,3,4,5,6]) (Hin:=h4) jA rfl ?_;refine Stp ?_;refine We (HA M4 L _ G h4 A 400 (Mem.le.loose t B) (R.mono t) jM jD) ?_;rintro v9 M5 h5 N ⟨b,P⟩
  have hE:EvS K.peerN r rr G:=by cases b9 <;> first|contradiction|exact(Y.resolve_right (fun h9=>Bool.noConfusion h9.1)).2
  have J:=hH.step hE;have hid:=happ_settles (fun _=>rfl) peer_inj ⟨by omega,by omega⟩ jM J jD;have hle:=Xfw K.peerN 400 G;rw[hid]at b;obtain⟨n9,au⟩:∃ n,(VZ K.peerN 400 G).1=n:=⟨_,rfl⟩
  rw[au]at b hle;subst b;have I:=t.trans N;refine S12 ?_;refine YE 68 (fun m=>?_) (fun m=>?_)
  ·skip
   first|(exfalso;omega)|(exfalso;simp[eqX]at m;done)|contradiction
  skip
  refine S4 ?_;refine YE 72 (cT fun S=>?_) (cF fun S=>?_)
  ·(exfalso;omega)
  refine Stp ?_;refine PG (Pm M5 L _ _ h5 P (Mem.le.loose I B) (R.mono I)) ?_;rintro _ M6 O b;rw[hid]at b;subst b;refine S4 ?_;refine Xb (fun o=>?_) (fun o=>?_)
  ·skip
   first|(exfalso;omega)|(exfalso;simp[eqX]at o;done)|contradiction
  skip
  refine S8 ?_;refine YO (a':=[(7,_)]) (k+1) (h5) (.cons (k:=7) rfl (.cons (k:=5) rfl (.cons (k:=4) rfl (.cons (k:=0) rfl (.cons (k:=1) rfl (.nil)))))) (((i.trans s).trans N).trans O) (fun w hw=>by first|exact hw|exact hw.c) ?_ ?_
  ·exact⟨_,j+1,rfl,by omega,P.mono jD O,by omega,J⟩
  omega
 repeat refine Stp ?_
 obtain rfl:k=a.length:=by omega
 repeat refine Stp ?_
 refine PH (PZ E (Mem.le.loose d B) (R.mono d)) ?_;rintro _ M9 aq rfl;repeat refine Stp ?_
 refine ZH fun w hw=>?_;exact⟨_,_,rfl,d.trans aq,hw.c,rfl⟩
theorem lawS(M:Mem)(r:Int)(l:(Sl Yk))(a:SlK M Yk.segs 3 l)(b:∀ y∈(l).l,Yk.ok M y)(c:M.dr=0)(d:PowM M):Esp.Fn Tryz.prog 6 [.int .i64 r,Sl.val l] M (fun _ v=>v=.bool true):=by
 by_cases h:(2≤r∧r≤4)∧l.l.length≤5
 ·exact sYes M r l a b c d h.1 h.2
 exact sNo M r l a b c d h

end Go.Proofs.YtglnjnacodgmaaaGreatDoor
