/-
  Texts of this claim, one behind the other: V8, KT5, ShaN, KT6, ShaL, KT7, ShaS, KT8, KT9, RepL, RepM, PadL, KT10, SumL, KT11, ItoaL, ItoaM, KT12, KT13, KT14, RingJ, R5, R6, R7, R8, R9, R10, RingX, U1, U2, NodeL, KnowL, RingQ, RingP, RingO, RingT, RingS, RingU.
-/
import Derived.Test.YtglnjnacodgmaaaGreatDoorPX4
import Derived.KernelRfl
import Derived.Shelf.Strings.Repeat
import Derived.Ground.NamesProg
import Derived.Test.YtglnjnacodgmaaaGreatDoorRows
import Derived.Shelf.Strconv.Itoa3
set_option linter.unusedSimpArgs false
set_option linter.unusedVariables false
set_option linter.unnecessarySimpa false
set_option maxRecDepth 8000
set_option maxHeartbeats 1000000
open Array renaming getElem?_eq_some_iff → E4
open BitVec renaming toNat_ofNat → H4
open Decidable renaming byContradiction → C2
open List renaming all_eq_true → E7,append_assoc → B5,append_nil → E0,cons_append → B4,eq_nil_of_length_eq_zero → D4,ext_getElem → J4,foldl_append → I4,foldl_cons → G6,getD_eq_getElem?_getD → D7,getElem?_append_left → F5,getElem?_append_right → G2,getElem?_eq_getElem → A7,getElem?_map → E6,getElem_map → I7,getElem_mem → C1,getElem_of_mem → E2,get_eq_getElem → H9,length_append → B3,length_cons → C8,length_map → A8,length_nil → D5,length_take → D8,map_append → C6,map_cons → D3,map_map → I2,mem_append → B8,mem_append_left → C5,mem_append_right → D0,mem_cons → B7,mem_cons_of_mem → B2,mem_cons_self → B1,mem_filter → F6,mem_map → C0,mem_map_of_mem → G8,mem_of_getElem? → H8,mem_of_mem_take → F9,mem_singleton → B0,nil_append → B6,nodup_append → H3,nodup_cons → D9,nodup_nil → J1,pairwise_cons → D6,pairwise_iff_getElem → E1,size_toArray → J2,take_length → G0,take_of_length_le → H5
open List.Mem renaming head → J3,tail → J6
open List.Pairwise renaming nil → J8
open List.Perm renaming refl → I9
open Nat renaming le_refl → B9,le_trans → H7,lt_or_ge → C7,min_eq_left → I5,mod_eq_of_lt → E3,mod_lt → G5,zero_add → F2,zero_le → C3
open Option renaming getD_some → F7
open Option.some renaming inj → A5,injEq → G1
namespace Go.Proofs.YtglnjnacodgmaaaGreatDoor
open Go.Esp
theorem Zeb(M:Mem)(l:(Sl Zr))(r:Int)(cf:SlK M Zr.segs 21 l):Esp.Fn Tryz.prog 49 [Sl.val l,.int .i64 r] M (fun M' v=>Yaj M' v (Re l.l r)):=by
  obtain⟨ab,U,d⟩:=l
  have aa:SlK M Zr.segs 21 ⟨ab,U,d⟩:=cf
  have ax:SlM M ab (d.map Zr.segs) 21:=aa.h1
  have ct:(d.map Zr.segs).length=d.length:=A8 ..
  have cq:d.length≤9223372036854775807:=aa.h2
  have cr:d.length≤U:=aa.h3
  refine WE Tryz.func49 rfl Tryz.ntmps49 rfl ?_;intro H
  refine S10 ?_;refine Vn (K.Circ_ok _ ⟨_,_,_⟩ jE) ?_
  rintro _ rfl
  refine S2 ?_
  refine YE 19 (eT fun ai=>?_) (eF fun ai=>?_)
  ·simp only[Zr.eta,ZK.eta,ZM.eta,ZI.eta,YD.eta,YQ.eta,XM.eta,YT.eta,ZW.eta,XF.eta,Yk.eta]at ai
   refine S18 ?_;refine ZH fun w hw=>?_
   refine⟨_,M,rfl,Mem.le.refl M,hw.c,?_⟩
   rw[show Re d r=([],1)from Ns yE]
   exact⟨_,rfl,⟨none,0,[]⟩,rfl,rfl,SlK.nil,fun t ht=>by cases ht⟩
  simp only[Zr.eta,ZK.eta,ZM.eta,ZI.eta,YD.eta,YQ.eta,XM.eta,YT.eta,ZW.eta,XF.eta,Yk.eta]at ai
  refine S4 ?_
  refine YE 23 (cT fun b3=>?_) (cF fun b3=>?_)
  ·refine S14 ?_
   refine ZH fun w hw=>?_
   refine⟨_,M,rfl,Mem.le.refl M,hw.c,?_⟩
   rw[show Re d r=([],1)from Ns yE]
   exact⟨_,rfl,⟨none,0,[]⟩,rfl,rfl,SlK.nil,fun t ht=>by cases ht⟩
  refine S5 ?_
  refine Xb (cT fun bz=>?_) (cF fun bz=>?_)
  ·refine S8 ?_
   refine ZH fun w hw=>?_
   refine⟨_,M,rfl,Mem.le.refl M,hw.c,?_⟩
   rw[show Re d r=([],1)from Ns yE]
   exact⟨_,rfl,⟨none,0,[]⟩,rfl,rfl,SlK.nil,fun t ht=>by cases ht⟩
  refine S3 ?_
  obtain⟨rn,rfl⟩:∃ n:Nat,r=n:=⟨r.toNat,by omega⟩
  have hc:Xk d:=by assumption
  have ai:=hc.1
  refine S13 ?_;refine VG [29,6,28,27,5,4,0,1] ?_;refine XV (Hin:=[]) (.succ (.succ .zero)) jA (fun(i:Nat) M1 h1 z=>∃(acc:List ZK) (v:Value),z=[(29,.int .i64 (i:Int)),(6,v)]∧i≤d.length∧OSl 41 44 v h1 (acc.map ZK.segs)∧(∀ t∈acc,ZK.ok M1 t)∧acc.map ZK.tb=(Nb d rn).take i) (fun i=>d.length-i) (0) (⟨[],_,rfl,by omega,OSl.nil,by simp,rfl⟩) ?_
  rintro i M1 h1 z L ⟨acc,v0,rfl,hi,ho,az,hI⟩
  obtain⟨c1,cw,rfl⟩:=ho.valL
  have cu:(acc.map ZK.segs).length=acc.length:=A8 ..
  have cz:acc.length=i:=by have h9:=congrArg List.length hI;simp only[A8,D8,Tp]at h9;omega
  have cj:=ax.mono L
  have ar:=aa.mono L
  refine S6 ?_
  refine Xb (cT fun cc=>?_) (cF fun cc=>?_)
  ·refine S5 ?_
   have V:i<d.length:=by omega
   refine S5 ?_
   intro b5
   refine S7 ?_;refine We (Zvk _ d[i] (hc.2.1 _ (C1 V))) ?_
   rintro _ M9 al bo ⟨bj,v2,rfl,a1⟩;subst M9
   obtain⟨B,y,rfl⟩:=a1.val
   refine S4 ?_
   intro b6
   refine S5 ?_;refine Ya (l:=[0,1,2,3,4,5,6,7,8,9]) #[0,0,2,7,0,0,48,127,255,511] _ rfl jI jI St.drawn (fun _ h=>h) ?_;refine S3 ?_;refine WL rfl rfl rfl (.some (k:=(i+1)) rfl rfl) .none .none F.elem39 zJ jJ jJ jQ (Nu (l:=d) (k:=(i+1))) rfl ?_;refine S2 ?_;refine WL rfl rfl rfl .none (.some (k:=i) rfl rfl) .none F.elem39 zJ jJ jJ jQ (Nt (l:=d) (k:=i) jD) rfl ?_
   refine YK rfl rfl F.elem142 F.zero39 rfl rfl (.cons rfl jG (.cons rfl jG .nil)) rfl rfl jK rfl ?_;intro b7 bd
   refine We (Zlv M1 _ _ _ ([⟨Iw ab U (i+1) 21,U-(i+1),d.drop (i+1)⟩,⟨ab,U,d.take i⟩]:List (Sl Zr)) (bd.rd M1) (by intro s9 br;simp only[B7,List.not_mem_nil,or_false]at br;rcases br with rfl|rfl;exact ar.drop (i+1) jD;exact ar.take i jD) jQ jU) ?_
   rintro vR M9 _ bo ⟨bj,b8,rfl,ak⟩;subst M9
   obtain⟨g,hR⟩:∃ x,Wf d i=x:=⟨_,rfl⟩
   replace ak:OSl 38 21 vR b8 (g.map Zr.segs):=by rw[← hR];unfold Wf;simpa using ak
   obtain⟨cy,b2,rfl⟩:=ak.valL
   simp only[B5]
   refine S5 ?_
   have cn:g.length=d.length-1:=by rw[← hR];exact QW V
   refine Pn ak jA (fun M2 T a7=>?_)
   have c3:=a7.h1
   have cm:g.length≤b2:=a7.h3
   have c0:(g.map Zr.segs).length=g.length:=A8 ..
   refine S6 ?_
   refine Xb (cT fun bs=>?_) (cF fun bs=>?_)
   ·refine S6 ?_
    rw[show(((g.length:Nat):Int)-1)=((g.length-1:Nat):Int)by omega]
    refine S11 ?_;refine X_min rfl rfl rfl rfl rfl rfl ?_
    obtain⟨m9,b9⟩:∃ m,m=min rn g.length:=⟨_,rfl⟩
    rw[show(if((g.length:Nat):Int)<(rn:Int)then((g.length:Nat):Int)else(rn:Int))=(m9:Int)by split <;> omega]
    refine WL rfl rfl rfl .none (.some (k:=m9) rfl rfl) .none F.elem39 zJ jJ jJ jQ (Nt (l:=g) (k:=m9) jD) rfl ?_;refine We (RB M2 _ _ (g.take m9) (a7.take m9 jD) (by rw[D8];omega)) ?_
    rintro vS M9 ck bo ⟨bj,bn⟩;subst M9
    obtain⟨ah,ae,rfl⟩:=bn.valL
    refine S5 ?_
    refine Pn bn jA (fun M3 an bt=>?_)
    refine S3 ?_;refine PH (HC M3 ⟨ab,U,d⟩ (i:Int) (aa.mono (L.trans (T.trans an)))) ?_
    rintro _ M4 R D
    replace D:Zvm M4 _ (Rj d ((i:Nat):Int)):=D
    rw[Om hc V]at D
    obtain⟨⟨b0,bu,C⟩,rfl,hG,a6⟩:=D
    simp only at hG
    have ba:=a6.h1
    simp only at ba
    have b1:C.length=160:=by rw[hG];simp
    have cd:(C.map (WC .i64)).length=C.length:=A8 ..
    have bl:=ax.mono ((L.trans (T.trans an)).trans R)
    refine S16 ?_;refine VG [74,73,72,12,71,70,66,69,68,67,65,64,63,62,61,60,59,58,57,56,55,54,53,52,51,50,49,48,11,47,46,45,44,43,42,41,40,39,9,38,37,34,36,35,7,8,33,32,31,30,29,6,28,27,5,4,0,1] ?_;refine OZ (Hin:=[(b6,Yp [.one (.int .i64 d[i].addr),ZU d[i].id,.one (.int .i64 g[g.length-1].addr),ZU g[g.length-1].id,.one (.slice ah (g.take m9).length ae),.one (.slice B 160 y)] 41)]) (Hin2:=al) (.succ .zero) jA jA (fun(k:Nat) M5 h5 z=>∃ hs,M5=M4∧z=[(74,.int .i64 (k:Int))]∧k≤160∧h5=(b6,Yp [.one (.int .i64 d[i].addr),ZU d[i].id,.one (.int .i64 g[g.length-1].addr),ZU g[g.length-1].id,.one (.slice ah (g.take m9).length ae),.one (.slice B 160 y)] 41)::hs∧OSl 38 21 (.slice B 160 y) hs ((Qm (MN d i d[i]) Yj k).map Zr.segs)) (fun k=>160-k) (0) (⟨al,rfl,rfl,by omega,rfl,by rw[Hj,List.map_replicate];exact a1⟩) ?_
    rintro k M5 h5 z bx ⟨ag,au,rfl,hk,rfl,O⟩
    subst au
    have bf:((Qm (MN d i d[i]) Yj k).map Zr.segs).length=160:=by rw[A8,Dz]
    simp only[B4,B6]
    refine S6 ?_
    refine Xb (cT fun bk=>?_) (cF fun bk=>?_)
    ·refine S9 ?_
     have ad:C[k]=((Ve d (d[i].id+To k):Nat):Int):=by simp only[hG,I7,List.getElem_range];rfl
     have aj:=Ua (l:=d) (x:=d[i].id+To k) jD
     generalize hog:Ve d (d[i].id+To k)=o9 at ad aj
     simp only[H9,ad]
     refine S11 ?_
     refine Xb (eT fun bh=>?_) (eF fun bh=>?_)
     ·refine Ya (l:=[0,1,2,3,4,5,6,7,8]) #[0,1,0,0,0,24,56,127,255] _ rfl jI jI St.drawn (fun _ h=>h) ?_
      refine S7 ?_
      obtain⟨bF,rfl⟩:=O.someB jD
      refine Stp ?_
      refine Tw (b:=bF) (j:=k) rfl rfl rfl rfl jG (Yi rfl (Xg YS)) F.lay38 rfl rfl O jA jD ?_;intro ay a8
      replace a8:OSl 38 21 (.slice (some ⟨bF,0,none⟩) 160 y) ay ((Qm (MN d i d[i]) Yj (k+1)).map Zr.segs):=by rw[← Zjj (MN d i d[i]) Yj (show k<160 by omega) (v:=d[o9]) (by unfold MN;rw[hog,if_neg jD,A7 aj];rfl),List.map_set];exact a8.aZ (by simp[bf])
      refine S7 ?_;refine YO (a':=[(74,_)]) (k+1) ((b6,Yp [.one (.int .i64 d[i].addr),ZU d[i].id,.one (.int .i64 g[g.length-1].addr),ZU g[g.length-1].id,.one (.slice ah (g.take m9).length ae),.one (.slice (some ⟨bF,0,none⟩) 160 y)] 41)::ay) (.cons (k:=74) rfl (.cons (k:=73) rfl (.cons (k:=72) rfl (.cons (k:=12) rfl (.cons (k:=71) rfl (.cons (k:=70) rfl (.cons (k:=66) rfl (.cons (k:=69) rfl (.cons (k:=68) rfl (.cons (k:=67) rfl (.cons (k:=65) rfl (.cons (k:=64) rfl (.cons (k:=63) rfl (.cons (k:=62) rfl (.cons (k:=61) rfl (.cons (k:=60) rfl (.cons (k:=59) rfl (.cons (k:=58) rfl (.cons (k:=57) rfl (.cons (k:=56) rfl (.cons (k:=55) rfl (.cons (k:=54) rfl (.cons (k:=53) rfl (.cons (k:=52) rfl (.cons (k:=51) rfl (.cons (k:=50) rfl (.cons (k:=49) rfl (.cons (k:=48) rfl (.cons (k:=11) rfl (.cons (k:=47) rfl (.cons (k:=46) rfl (.cons (k:=45) rfl (.cons (k:=44) rfl (.cons (k:=43) rfl (.cons (k:=42) rfl (.cons (k:=41) rfl (.cons (k:=40) rfl (.cons (k:=39) rfl (.cons (k:=9) rfl (.cons (k:=38) rfl (.cons (k:=37) rfl (.cons (k:=34) rfl (.cons (k:=36) rfl (.cons (k:=35) rfl (.cons (k:=7) rfl (.cons (k:=8) rfl (.cons (k:=33) rfl (.cons (k:=32) rfl (.cons (k:=31) rfl (.cons (k:=30) rfl (.cons (k:=29) rfl (.cons (k:=6) rfl (.cons (k:=28) rfl (.cons (k:=27) rfl (.cons (k:=5) rfl (.cons (k:=4) rfl (.cons (k:=0) rfl (.cons (k:=1) rfl (.nil))))))))))))))))))))))))))))))))))))))))))))))))))))))))))) jO (fun w hw=>by first|exact hw|exact hw.c) ?_ ?_
      ·exact⟨ay,rfl,rfl,by omega,rfl,a8⟩
      omega
     refine S7 ?_
     refine YO (a':=[(74,_)]) (k+1) ((b6,Yp [.one (.int .i64 d[i].addr),ZU d[i].id,.one (.int .i64 g[g.length-1].addr),ZU g[g.length-1].id,.one (.slice ah (g.take m9).length ae),.one (.slice B 160 y)] 41)::ag) (.cons (k:=74) rfl (.cons (k:=73) rfl (.cons (k:=72) rfl (.cons (k:=12) rfl (.cons (k:=71) rfl (.cons (k:=70) rfl (.cons (k:=66) rfl (.cons (k:=69) rfl (.cons (k:=68) rfl (.cons (k:=67) rfl (.cons (k:=65) rfl (.cons (k:=64) rfl (.cons (k:=63) rfl (.cons (k:=62) rfl (.cons (k:=61) rfl (.cons (k:=60) rfl (.cons (k:=59) rfl (.cons (k:=58) rfl (.cons (k:=57) rfl (.cons (k:=56) rfl (.cons (k:=55) rfl (.cons (k:=54) rfl (.cons (k:=53) rfl (.cons (k:=52) rfl (.cons (k:=51) rfl (.cons (k:=50) rfl (.cons (k:=49) rfl (.cons (k:=48) rfl (.cons (k:=11) rfl (.cons (k:=47) rfl (.cons (k:=46) rfl (.cons (k:=45) rfl (.cons (k:=44) rfl (.cons (k:=43) rfl (.cons (k:=42) rfl (.cons (k:=41) rfl (.cons (k:=40) rfl (.cons (k:=39) rfl (.cons (k:=9) rfl (.cons (k:=38) rfl (.cons (k:=37) rfl (.cons (k:=34) rfl (.cons (k:=36) rfl (.cons (k:=35) rfl (.cons (k:=7) rfl (.cons (k:=8) rfl (.cons (k:=33) rfl (.cons (k:=32) rfl (.cons (k:=31) rfl (.cons (k:=30) rfl (.cons (k:=29) rfl (.cons (k:=6) rfl (.cons (k:=28) rfl (.cons (k:=27) rfl (.cons (k:=5) rfl (.cons (k:=4) rfl (.cons (k:=0) rfl (.cons (k:=1) rfl (.nil))))))))))))))))))))))))))))))))))))))))))))))))))))))))))) jO (fun w hw=>by first|exact hw|exact hw.c) ?_ ?_
     ·refine⟨ag,rfl,rfl,by omega,rfl,?_⟩
      rw[← Hk _ _ (show Yj=MN d i d[i] k from(if_pos jD).symm)];exact O
     omega
    refine S5 ?_
    obtain rfl:k=160:=by omega
    rw[DA]at O
    refine Pn (l:=(List.range 160).map (MN d i d[i])) O jA (fun M6 Z bb=>?_)
    refine S3 ?_
    refine YK rfl rfl F.elem66 F.zero41 rfl rfl (.cons rfl jG .nil) rfl rfl jK rfl ?_;intro cp aw
    refine Vc (m:=1000000) rfl rfl rfl rfl rfl F.elem66 F.zero41 zI rfl jE jA (Src.own aw.lens jN rfl jB) jX jM rfl ?_;intro c2 bg aq;obtain⟨cg,ch,rfl⟩:=aq.valAt (n:=acc.length+1) zS
    refine S8 ?_;refine YO (a':=[(29,_),(6,_)]) (i+1) (bg) (.cons (k:=29) rfl (.cons (k:=6) rfl (.cons (k:=28) rfl (.cons (k:=27) rfl (.cons (k:=5) rfl (.cons (k:=4) rfl (.cons (k:=0) rfl (.cons (k:=1) rfl (.nil))))))))) (L.trans (T.trans (an.trans (R.trans Z)))) (fun w hw=>by first|exact hw|exact hw.c) ?_ ?_
    ·refine⟨acc++[⟨⟨d[i].addr,d[i].id⟩,⟨g[g.length-1].addr,g[g.length-1].id⟩,⟨ah,ae,g.take m9⟩,⟨B,y,(List.range 160).map (MN d i d[i])⟩⟩],_,rfl,by omega,by rw[C6];exact aq,fun t ht=>?_,?_⟩
     ·rcases B8.1 ht with ht|ht
      ·exact(az t ht).mono (T.trans (an.trans (R.trans Z)))
      rw[B0.1 ht];exact⟨bt.mono (R.trans Z),bb⟩
     rw[C6,hI,Es V]
     refine congrArg (fun t=>(Nb d rn).take i++[t]) ?_
     unfold RH
     rw[hR]
     rw[Ge jD,show g.take rn=g.take m9 by rw[b9,List.take_eq_take_iff];omega];rfl
    omega
   refine S6 ?_
   refine PH (HC M2 ⟨ab,U,d⟩ (i:Int) (aa.mono (L.trans T))) ?_
   rintro _ M4 R D
   replace D:Zvm M4 _ (Rj d ((i:Nat):Int)):=D
   rw[Om hc V]at D
   obtain⟨⟨b0,bu,C⟩,rfl,hG,a6⟩:=D
   simp only at hG
   have ba:=a6.h1
   simp only at ba
   have b1:C.length=160:=by rw[hG];simp
   have cd:(C.map (WC .i64)).length=C.length:=A8 ..
   have bl:=ax.mono ((L.trans T).trans R)
   refine S16 ?_;refine VG [74,73,72,12,71,70,66,69,68,67,50,49,48,11,47,46,45,44,43,42,41,40,39,9,38,37,34,36,35,7,8,33,32,31,30,29,6,28,27,5,4,0,1] ?_;refine OZ (Hin:=[(b6,Yp [.one (.int .i64 d[i].addr),ZU d[i].id,.one (.int .i64 (-1)),ZU 0,.one (.slice none 0 0),.one (.slice B 160 y)] 41)]) (Hin2:=al) (.succ .zero) jA jA (fun(k:Nat) M5 h5 z=>∃ hs,M5=M4∧z=[(74,.int .i64 (k:Int))]∧k≤160∧h5=(b6,Yp [.one (.int .i64 d[i].addr),ZU d[i].id,.one (.int .i64 (-1)),ZU 0,.one (.slice none 0 0),.one (.slice B 160 y)] 41)::hs∧OSl 38 21 (.slice B 160 y) hs ((Qm (MN d i d[i]) Yj k).map Zr.segs)) (fun k=>160-k) (0) (⟨al,rfl,rfl,by omega,rfl,by rw[Hj,List.map_replicate];exact a1⟩) ?_
   rintro k M5 h5 z bx ⟨ag,au,rfl,hk,rfl,O⟩
   subst au
   have bf:((Qm (MN d i d[i]) Yj k).map Zr.segs).length=160:=by rw[A8,Dz]
   simp only[B4,B6]
   refine S6 ?_
   refine Xb (cT fun bp=>?_) (cF fun bp=>?_)
   ·refine S9 ?_
    have ad:C[k]=((Ve d (d[i].id+To k):Nat):Int):=by simp only[hG,I7,List.getElem_range];rfl
    have aj:=Ua (l:=d) (x:=d[i].id+To k) jD
    generalize hog:Ve d (d[i].id+To k)=o9 at ad aj
    simp only[H9,ad]
    refine S11 ?_
    refine Xb (eT fun bq=>?_) (eF fun bq=>?_)
    ·(exfalso;omega)
    refine S7 ?_
    refine YO (a':=[(74,_)]) (k+1) ((b6,Yp [.one (.int .i64 d[i].addr),ZU d[i].id,.one (.int .i64 (-1)),ZU 0,.one (.slice none 0 0),.one (.slice B 160 y)] 41)::ag) (.cons (k:=74) rfl (.cons (k:=73) rfl (.cons (k:=72) rfl (.cons (k:=12) rfl (.cons (k:=71) rfl (.cons (k:=70) rfl (.cons (k:=66) rfl (.cons (k:=69) rfl (.cons (k:=68) rfl (.cons (k:=67) rfl (.cons (k:=50) rfl (.cons (k:=49) rfl (.cons (k:=48) rfl (.cons (k:=11) rfl (.cons (k:=47) rfl (.cons (k:=46) rfl (.cons (k:=45) rfl (.cons (k:=44) rfl (.cons (k:=43) rfl (.cons (k:=42) rfl (.cons (k:=41) rfl (.cons (k:=40) rfl (.cons (k:=39) rfl (.cons (k:=9) rfl (.cons (k:=38) rfl (.cons (k:=37) rfl (.cons (k:=34) rfl (.cons (k:=36) rfl (.cons (k:=35) rfl (.cons (k:=7) rfl (.cons (k:=8) rfl (.cons (k:=33) rfl (.cons (k:=32) rfl (.cons (k:=31) rfl (.cons (k:=30) rfl (.cons (k:=29) rfl (.cons (k:=6) rfl (.cons (k:=28) rfl (.cons (k:=27) rfl (.cons (k:=5) rfl (.cons (k:=4) rfl (.cons (k:=0) rfl (.cons (k:=1) rfl (.nil)))))))))))))))))))))))))))))))))))))))))))) jO (fun w hw=>by first|exact hw|exact hw.c) ?_ ?_
    ·refine⟨ag,rfl,rfl,by omega,rfl,?_⟩
     rw[← Hk _ _ (show Yj=MN d i d[i] k from(if_pos jD).symm)];exact O
    omega
   refine S5 ?_
   obtain rfl:k=160:=by omega
   rw[DA]at O
   refine Pn (l:=(List.range 160).map (MN d i d[i])) O jA (fun M6 Z bb=>?_)
   refine S3 ?_
   refine YK rfl rfl F.elem66 F.zero41 rfl rfl (.cons rfl jG .nil) rfl rfl jK rfl ?_;intro cv bc
   refine Vc (m:=1000000) rfl rfl rfl rfl rfl F.elem66 F.zero41 zI rfl jE jA (Src.own bc.lens jN rfl jB) jX jM rfl ?_;intro v23 bm ao;obtain⟨b4,bw,rfl⟩:=ao.valAt (n:=acc.length+1) zS
   refine S8 ?_;refine YO (a':=[(29,_),(6,_)]) (i+1) (bm) (.cons (k:=29) rfl (.cons (k:=6) rfl (.cons (k:=28) rfl (.cons (k:=27) rfl (.cons (k:=5) rfl (.cons (k:=4) rfl (.cons (k:=0) rfl (.cons (k:=1) rfl (.nil))))))))) (L.trans (T.trans (R.trans Z))) (fun w hw=>by first|exact hw|exact hw.c) ?_ ?_
   ·refine⟨acc++[⟨⟨d[i].addr,d[i].id⟩,Yj,⟨none,0,[]⟩,⟨B,y,(List.range 160).map (MN d i d[i])⟩⟩],_,rfl,by omega,by rw[C6];exact ao,fun t ht=>?_,?_⟩
    ·rcases B8.1 ht with ht|ht
     ·exact(az t ht).mono (T.trans (R.trans Z))
     rw[B0.1 ht];exact⟨SlK.nil,bb⟩
    rw[C6,hI,Es V]
    refine congrArg (fun t=>(Nb d rn).take i++[t]) ?_
    unfold RH
    rw[hR]
    rw[show g=[]from D4 jD,List.take_nil];rfl
   omega
  refine S13 ?_
  refine ZH fun w hw=>?_
  obtain rfl:i=d.length:=by omega
  rw[H5 (by rw[Tp];omega)]at hI
  obtain⟨M9,s1,g1,g2,g3,g4,g5⟩:=OSl.freezeK (f:=ZK.segs) (H:=H) (l:=acc) ho (hw.c)
  refine⟨_,M9,rfl,L.trans g1,g2,?_⟩
  rw[show Re d ((rn:Nat):Int)=_ from LB hc jD jD]
  exact⟨_,rfl,s1,g3,by rw[g4];exact hI,g5,by rw[g4];exact fun t ht=>(az t ht).mono g1⟩
end Go.Proofs.YtglnjnacodgmaaaGreatDoor
namespace Go.Proofs.YtglnjnacodgmaaaGreatDoor.K
open Go.Esp
theorem Ints_ok(M:Mem)(a:(Sl Int))(b:(Sl Int))(U:SlK M (WC .i64) 1 a)(O:SlK M (WC .i64) 1 b):Fs Tryz.prog 17 [Sl.val a,Sl.val b] M (fun v=>v=Value.bool (decide (a.l=b.l))):=by
  obtain⟨D,F,d⟩:=a
  obtain⟨C,K,g⟩:=b
  have y:SlK M (WC .i64) 1 ⟨D,F,d⟩:=U
  have ag:SlM M D (d.map (WC .i64)) 1:=y.h1
  have ah:(d.map (WC .i64)).length=d.length:=A8 ..
  have Z:d.length≤9223372036854775807:=y.h2
  have ab:d.length≤F:=y.h3
  have B:SlK M (WC .i64) 1 ⟨C,K,g⟩:=O
  have ad:SlM M C (g.map (WC .i64)) 1:=B.h1
  have ae:(g.map (WC .i64)).length=g.length:=A8 ..
  have ai:g.length≤9223372036854775807:=B.h2
  have aa:g.length≤K:=B.h3
  refine Xa Tryz.func17 rfl Tryz.ntmps17 rfl ?_;intro H
  refine S15 ?_
  refine Xb (eT fun L=>?_) (eF fun L=>?_)
  ·refine S7 ?_
   refine ZH fun w hw=>?_
   refine⟨_,rfl,(hw.c),?_⟩
   clear hw
   refine A9 Value.bool ?_
   exact(decide_eq_false (fun h9=>by subst h9;simp_all)).symm
  refine S9 ?_
  refine VG [5,4,0,1] ?_;refine Un (.succ .zero) (fun(k:Nat) z=>z=[(5,.int .i64 (k:Int))]∧k≤d.length∧(∀ j (h2:j<d.length) (h3:j<g.length),j<k→d[j]=g[j])) (fun k=>d.length-k) (0) (⟨rfl,by omega,by(intro j h2 h3 hj;omega)⟩) ?_
  rintro k _ ⟨rfl,hk,V⟩
  refine S9 ?_
  refine Xb (cT fun T=>?_) (cF fun T=>?_)
  ·refine S5 ?_
   refine Ya (l:=[0,1,2,3,4,5,6,7,8]) #[0,0,3,7,0,0,48,112,255] _ rfl jI jI St.drawn (fun _ h=>h) ?_;refine S11 ?_
   refine Xb (eT fun R=>?_) (eF fun R=>?_)
   ·refine S11 ?_
    refine ZH fun w hw=>?_
    refine⟨_,rfl,(hw.c),?_⟩
    refine A9 Value.bool ?_
    exact(decide_eq_false (fun h9=>by subst h9;simp_all)).symm
   refine S8 ?_
   refine VX (a':=[(5,_)]) (k+1) (.cons (k:=5) rfl (.cons (k:=4) rfl (.cons (k:=0) rfl (.cons (k:=1) rfl (.nil))))) (fun w hw=>by first|exact hw|exact hw.c) ?_ ?_
   ·refine⟨rfl,by omega,?_⟩
    (intro j h2 h3 hj;rcases C7 j k with h9|h9;exact V j h2 h3 h9;obtain rfl:j=k:=jD;simp_all)
   omega
  refine S11 ?_
  refine ZH fun w hw=>?_
  refine⟨_,rfl,(hw.c),?_⟩
  refine A9 Value.bool ?_
  exact(decide_eq_true (J4 jD (fun j h2 h3=>V j h2 h3 jD))).symm
end Go.Proofs.YtglnjnacodgmaaaGreatDoor.K
namespace Go.Esp
def Zfv(v n:Nat):Nat:=(v <<< n ||| v >>> (32-n)) % 4294967296
def Pl(a b:Nat):Nat:=(a+b) % 4294967296
def Cl(a b c d:Nat):Nat:=((a * 256+b) * 256+c) * 256+d
def TC:List Nat→List Nat→List Nat
  | a::b::c::d::r,acc=>TC r (Cl a b c d::acc)
  | _,acc=>acc
def VL:Nat→List Nat→List Nat
  | 0,w=>w
  | n+1,w=>match w with
    | _::_::x3::_::_::_::_::x8::_::_::_::_::_::x14::_::x16::_=>VL n (Zfv (x3 ^^^ x8 ^^^ x14 ^^^ x16) 1::w)
    | _=>w
structure St5 where
  a:Nat
  b:Nat
  c:Nat
  d:Nat
  e:Nat
  deriving DecidableEq
def Zzh(t b c d:Nat):Nat :=
  if t<20 then(b &&& c) ||| ((4294967295 ^^^ b) &&& d)else if t<40 then b ^^^ c ^^^ d else if t<60 then(b &&& c) ||| (b &&& d) ||| (c &&& d)else b ^^^ c ^^^ d
def Zzo(t:Nat):Nat:=if t<20 then 0x5a827999 else if t<40 then 0x6ed9eba1 else if t<60 then 0x8f1bbcdc else 0xca62c1d6
def Sg(t:Nat)(s:St5)(w:Nat):St5:=⟨(Zfv s.a 5+Zzh t s.b s.c s.d+s.e+Zzo t+w) % 4294967296,s.a,Zfv s.b 30,s.c,s.d⟩
def Pw:Nat→List Nat→St5→St5
  | _,[],s=>s
  | t,w::ws,s=>Pw (t+1) ws (Sg t s w)
def Cv(h:St5)(block:List Nat):St5 :=
  let s:=Pw 0 (VL 64 (TC block [])).reverse h
  ⟨Pl h.a s.a,Pl h.b s.b,Pl h.c s.c,Pl h.d s.d,Pl h.e s.e⟩
def KG:St5:=⟨0x67452301,0xefcdab89,0x98badcfe,0x10325476,0xc3d2e1f0⟩
def Oq:Nat→List Nat→St5→St5
  | 0,_,h=>h
  | n+1,l,h=>match l with
    | []=>h
    | _=>Oq n (l.drop 64) (Cv h (l.take 64))
def Zqx(s:List Nat):List Nat :=
  s++128::(List.replicate ((119-s.length % 64) % 64) 0++(List.range 8).map fun i=>(8 * s.length) / 256 ^ (7-i) % 256)
theorem QZ{n a:Nat}:BitVec.ofInt n (a:Int)=BitVec.ofNat n a:=by
  apply BitVec.eq_of_toInt_eq;simp
theorem Zeq{a:Nat}(h:a<4294967296):IntKind.wrap .u32 (a:Int)=(a:Int):=by
  rw[NO];unfold w32;omega
theorem Zwm{a b:Nat}(ha:a<4294967296)(hb:b<4294967296):Ig .or .u32 (a:Int) (b:Int)=some ((a ||| b:Nat):Int):=by
  have h:=Nat.or_lt_two_pow (n:=32) (x:=a) (y:=b) zU zQ
  show some (IntKind.wrap .u32 ((BitVec.ofInt 32 (a:Int) ||| BitVec.ofInt 32 (b:Int)).toNat:Int))=_
  rw[QZ,QZ,BitVec.toNat_or,H4,H4,E3 zU,E3 zQ,Zeq zL]
theorem Zkp{a b:Nat}(ha:a<4294967296)(hb:b<4294967296):Ig .and .u32 (a:Int) (b:Int)=some ((a &&& b:Nat):Int):=by
  have h:=Nat.and_lt_two_pow (n:=32) a (y:=b) zQ
  show some (IntKind.wrap .u32 ((BitVec.ofInt 32 (a:Int) &&& BitVec.ofInt 32 (b:Int)).toNat:Int))=_
  rw[QZ,QZ,BitVec.toNat_and,H4,H4,E3 zU,E3 zQ,Zeq zL]
theorem Zar{a b:Nat}(ha:a<4294967296)(hb:b<4294967296):Ig .xor .u32 (a:Int) (b:Int)=some ((a ^^^ b:Nat):Int):=by
  have h:=Nat.xor_lt_two_pow (n:=32) (x:=a) (y:=b) zU zQ
  show some (IntKind.wrap .u32 ((BitVec.ofInt 32 (a:Int) ^^^ BitVec.ofInt 32 (b:Int)).toNat:Int))=_
  rw[QZ,QZ,BitVec.toNat_xor,H4,H4,E3 zU,E3 zQ,Zeq zL]
theorem Ztz{a:Nat}(ha:a<4294967296):Ig .xor .u32 (if IntKind.u32.signed then -1 else IntKind.u32.max) (a:Int)=some ((4294967295 ^^^ a:Nat):Int):=by
  have:(if IntKind.u32.signed then(-1:Int)else IntKind.u32.max)=((4294967295:Nat):Int):=by decide
  rw[this];exact Zar jM ha
theorem Zzj{a b:Nat}(ha:a<4294967296)(hb:b<4294967296):a ||| b<4294967296:=by
  have h:=Nat.or_lt_two_pow (n:=32) (x:=a) (y:=b) zU zQ;simpa using h
theorem Jd{a b:Nat}(hb:b<4294967296):a &&& b<4294967296:=by
  have h:=Nat.and_lt_two_pow (n:=32) a (y:=b) zQ;simpa using h
theorem LH{a b:Nat}(ha:a<4294967296)(hb:b<4294967296):a ^^^ b<4294967296:=by
  have h:=Nat.xor_lt_two_pow (n:=32) (x:=a) (y:=b) zU zQ;simpa using h
theorem Zfu(v n:Nat):Zfv v n<4294967296:=G5 _ (by decide)
theorem Zsj{v n:Nat}(d:v<4294967296)(g:n≤32):(v * 2 ^ n % 4294967296) ||| (v / 2 ^ (32-n))=Zfv v n:=by
  unfold Zfv
  rw[Nat.shiftLeft_eq,Nat.shiftRight_eq_div_pow,show(4294967296:Nat)=2 ^ 32 from rfl,Nat.or_mod_two_pow]
  congr 1
  refine(E3 ?_).symm
  exact Nat.lt_of_le_of_lt (Nat.div_le_self _ _) (by simpa using d)
theorem Zzn{n:Nat}(h:n<32):Ig .and .u64 (n:Int) 31=some (n:Int):=by
  have:∀ x:Fin 32,Ig .and .u64 ((x.val:Nat):Int) 31=some ((x.val:Nat):Int):=by decide +kernel
  exact this ⟨n,h⟩
theorem Zwg{v n:Nat}(d:n≤32):LA .shl .u32 (v:Int) (n:Int)=some ((v * 2 ^ n % 4294967296:Nat):Int):=by
  simp only[LA,Int.toNat_natCast,IntKind.bits,I5 d]
  rfl
theorem Zzd{v n:Nat}(d:n≤32):LA .shr .u32 (v:Int) (n:Int)=some ((v / 2 ^ n:Nat):Int):=by
  rw[Uw n (by simpa[IntKind.bits]using d)]
  simp
end Go.Esp
namespace Go.Proofs.YtglnjnacodgmaaaGreatDoor.K
open Go.Esp
theorem BJ(M:Mem)(x:Nat)(n:Nat)(d:x<4294967296)(g:n<32):Fs Tryz.prog 152 [.int .u32 ((x:Nat):Int),.int .i64 (n:Int)] M (fun v=>v=Value.int .u32 (((Zfv x n:Nat):Int))):=by
  refine Xa Tryz.func152 rfl Tryz.ntmps152 rfl ?_;intro H
  refine S9 ?_;refine TB rfl rfl rfl rfl (Zzn g) rfl rfl ?_;refine S3 ?_;refine VG [5,4,0] ?_;refine S4 ?_;refine VK rfl rfl rfl rfl jD (Zwg (n:=n) jD) rfl rfl ?_;refine S3 ?_
  rw[show(32:Int)-(n:Int)=((32-n:Nat):Int)by omega]
  refine VK rfl rfl rfl rfl jD (Zzd (n:=32-n) jD) rfl rfl ?_;refine TB rfl rfl rfl rfl (Zwm (G5 _ jM) (Nat.lt_of_le_of_lt (Nat.div_le_self _ _) d)) rfl rfl ?_;refine S3 ?_;refine VG [4] ?_;refine Stp ?_
  refine Zec (.inr rfl) (.tmp rfl .nil) (fun w hw=>?_)
  refine⟨_,rfl,(hw.c),?_⟩
  refine A9 (fun x:Nat=>Value.int .u32 (x:Int)) (Zsj d jD)
theorem Zjy(M:Mem)(b:Nat)(c:Nat)(d:Nat)(hb:b<4294967296)(g:c<4294967296)(j:d<4294967296):Fs Tryz.prog 192 [.int .u32 ((b:Nat):Int),.int .u32 ((c:Nat):Int),.int .u32 ((d:Nat):Int)] M (fun v=>v=Value.int .u32 ((((b &&& c) ||| ((4294967295 ^^^ b) &&& d):Nat):Int))):=by
  refine Xa Tryz.func192 rfl Tryz.ntmps192 rfl ?_;intro H
  refine S9 ?_;refine TB rfl rfl rfl rfl (Zkp hb g) rfl rfl ?_;refine Stp ?_;refine Zuu rfl rfl rfl (Ztz hb) rfl rfl ?_;refine Stp ?_;refine TB rfl rfl rfl rfl (Zkp (LH jM hb) j) rfl rfl ?_;refine TB rfl rfl rfl rfl (Zwm (Jd g) (Jd j)) rfl rfl ?_;refine S3 ?_;refine VG [6] ?_;refine Stp ?_
  refine Zec (.inr rfl) (.tmp rfl .nil) (fun w hw=>?_)
  refine⟨_,rfl,(hw.c),?_⟩
  rfl
theorem Ed(M:Mem)(b:Nat)(c:Nat)(d:Nat)(hb:b<4294967296)(g:c<4294967296)(j:d<4294967296):Fs Tryz.prog 193 [.int .u32 ((b:Nat):Int),.int .u32 ((c:Nat):Int),.int .u32 ((d:Nat):Int)] M (fun v=>v=Value.int .u32 (((b ^^^ c ^^^ d:Nat):Int))):=by
  refine Xa Tryz.func193 rfl Tryz.ntmps193 rfl ?_;intro H
  refine S9 ?_;refine TB rfl rfl rfl rfl (Zar hb g) rfl rfl ?_;refine Stp ?_;refine TB rfl rfl rfl rfl (Zar (LH hb g) j) rfl rfl ?_;refine S3 ?_;refine VG [6] ?_;refine Stp ?_
  refine Zec (.inr rfl) (.tmp rfl .nil) (fun w hw=>?_)
  refine⟨_,rfl,(hw.c),?_⟩
  rfl
theorem Zsx(M:Mem)(b:Nat)(c:Nat)(d:Nat)(hb:b<4294967296)(j:c<4294967296)(g:d<4294967296):Fs Tryz.prog 194 [.int .u32 ((b:Nat):Int),.int .u32 ((c:Nat):Int),.int .u32 ((d:Nat):Int)] M (fun v=>v=Value.int .u32 ((((b &&& c) ||| (b &&& d) ||| (c &&& d):Nat):Int))):=by
  refine Xa Tryz.func194 rfl Tryz.ntmps194 rfl ?_;intro H
  refine S9 ?_;refine TB rfl rfl rfl rfl (Zkp hb j) rfl rfl ?_;refine S2 ?_;refine TB rfl rfl rfl rfl (Zkp hb g) rfl rfl ?_;refine TB rfl rfl rfl rfl (Zwm (Jd j) (Jd g)) rfl rfl ?_;refine S2 ?_;refine TB rfl rfl rfl rfl (Zkp j g) rfl rfl ?_;refine TB rfl rfl rfl rfl (Zwm (Zzj (Jd j) (Jd g)) (Jd g)) rfl rfl ?_;refine S3 ?_;refine VG [6] ?_;refine Stp ?_
  refine Zec (.inr rfl) (.tmp rfl .nil) (fun w hw=>?_)
  refine⟨_,rfl,(hw.c),?_⟩
  rfl
end Go.Proofs.YtglnjnacodgmaaaGreatDoor.K
namespace Go.Esp
def QP(B:List Nat):List Nat:=(VL 64 (TC B [])).reverse
def TT(V:List Nat)(t:Nat):List Nat:=V.take t++List.replicate (V.length-t) 0
theorem Sz{V:List Nat}{t:Nat}(h:t≤V.length):(TT V t).length=V.length:=by unfold TT;simp;omega
theorem Oc{V:List Nat}{t j:Nat}(hj:j<t)(h:t≤V.length):(TT V t)[j]?=some (V[j]'(by omega)):=by
  unfold TT
  grind
theorem Znq{V:List Nat}{t:Nat}(h:t<V.length):(TT V t)[t]?=some 0:=by
  unfold TT
  grind
theorem EE{V:List Nat}{t:Nat}(h:t<V.length):(TT V t).set t (V[t])=TT V (t+1):=by
  apply List.ext_getElem?
  intro j
  by_cases hj:j=t
  · subst hj
    rw[List.getElem?_set_self (by rw[Sz jD];exact h),Oc jD jD]
  · rw[List.getElem?_set_ne jD]
    unfold TT
    grind
theorem Zbt{V:List Nat}{t:Nat}(h:t<V.length):(TT V t).set t 0=TT V t:=by
  apply List.ext_getElem?
  intro j
  by_cases hj:j=t
  · subst hj
    rw[List.getElem?_set_self (by rw[Sz jD];exact h),Znq h]
  · grind
theorem Zbs{V:List Nat}:TT V 0=List.replicate V.length 0:=by simp[TT]
theorem Zgj{V:List Nat}:TT V V.length=V:=by simp[TT]
theorem JZ(n:Nat)(w:List Nat)(h:16≤w.length):VL (n+1) w=VL n (Zfv (w.getD 2 0 ^^^ w.getD 7 0 ^^^ w.getD 13 0 ^^^ w.getD 15 0) 1::w):=by
  match w,h with
  | _::_::x3::_::_::_::_::x8::_::_::_::_::_::x14::_::x16::_,_=>rfl
theorem Ms{l:List Nat}{j:Nat}(h:j<l.length):l.reverse.getD j 0=l.getD (l.length-1-j) 0:=by
  grind
theorem Nf:∀(n:Nat) (w:List Nat),16≤w.length→(VL n w).length=n+w.length∧(∀ t,t<w.length→(VL n w).reverse.getD t 0=w.reverse.getD t 0) ∧
    ∀ t,w.length≤t→t<n+w.length→(VL n w).reverse.getD t 0=Zfv ((VL n w).reverse.getD (t-3) 0 ^^^ (VL n w).reverse.getD (t-8) 0 ^^^ (VL n w).reverse.getD (t-14) 0 ^^^ (VL n w).reverse.getD (t-16) 0) 1
  | 0,w,h=>⟨by simp[VL],fun t _=>rfl,fun t h1 h2=>by omega⟩
  | n+1,w,h=>by
    rw[JZ n w h]
    generalize hx:Zfv (w.getD 2 0 ^^^ w.getD 7 0 ^^^ w.getD 13 0 ^^^ w.getD 15 0) 1=x
    obtain⟨h1,h2,h3⟩:=Nf n (x::w) jU
    simp only[C8]at h1 h2 h3
    have hw:∀ t,t<w.length→(VL n (x::w)).reverse.getD t 0=w.reverse.getD t 0:=fun t ht=>by
      rw[h2 t jD]
      simp only[List.reverse_cons,D7]
      rw[F5 (by simpa using ht)]
    refine⟨by omega,hw,fun t ht y=>?_⟩
    rcases C7 w.length t with h9|h9
    · exact h3 t h9 jD
    · obtain rfl:t=w.length:=by omega
      have v:=hw (w.length-3) jD
      have j:=hw (w.length-8) jD
      have g:=hw (w.length-14) jD
      have d:=hw (w.length-16) jD
      rw[Ms (l:=w) jD,show w.length-1-(w.length-3)=2 by omega]at v
      rw[Ms (l:=w) jD,show w.length-1-(w.length-8)=7 by omega]at j
      rw[Ms (l:=w) jD,show w.length-1-(w.length-14)=13 by omega]at g
      rw[Ms (l:=w) jD,show w.length-1-(w.length-16)=15 by omega]at d
      rw[v,j,g,d,hx,h2 _ jD,Ms jQ]
      simp
theorem Ly:∀(B acc:List Nat),(TC B acc).length=B.length / 4+acc.length∧(∀ t,t<acc.length→(TC B acc).reverse.getD t 0=acc.reverse.getD t 0) ∧
    ∀ t,4 * t+3<B.length→(TC B acc).reverse.getD (acc.length+t) 0=Cl (B.getD (4 * t) 0) (B.getD (4 * t+1) 0) (B.getD (4 * t+2) 0) (B.getD (4 * t+3) 0)
  | a::b::c::d::r,acc=>by
    obtain⟨h1,h2,h3⟩:=Ly r (Cl a b c d::acc)
    simp only[C8]at h1 h2 h3
    have e:TC (a::b::c::d::r) acc=TC r (Cl a b c d::acc):=rfl
    rw[e]
    refine⟨by simp only[C8];omega,fun t ht=>?_,fun t ht=>?_⟩
    · rw[h2 t jD]
      simp only[List.reverse_cons,D7]
      rw[F5 (by simpa using ht)]
    · simp only[C8]at ht
      rcases t with _|t
      · rw[h2 _ jD]
        simp only[List.reverse_cons,D7]
        rw[G2 jQ]
        simp
      · have:=h3 t jD
        rw[show acc.length+1+t=acc.length+(t+1)by omega]at this
        rw[this]
        simp[D7,show 4 * (t+1)=4 * t+4 by omega]
  | [],acc=>⟨by simp[TC],fun t _=>rfl,fun t h=>by simp only[D5]at h;omega⟩
  | [a],acc=>⟨by simp[TC],fun t _=>rfl,fun t h=>by simp only[C8,D5]at h;omega⟩
  | [a,b],acc=>⟨by simp[TC],fun t _=>rfl,fun t h=>by simp only[C8,D5]at h;omega⟩
  | [a,b,c],acc=>⟨by simp[TC],fun t _=>rfl,fun t h=>by simp only[C8,D5]at h;omega⟩
structure IsWords (B V:List Nat):Prop where
  len:V.length=80
  lo:∀ t,(h:t<16)→V[t]'jD=Cl (B.getD (4 * t) 0) (B.getD (4 * t+1) 0) (B.getD (4 * t+2) 0) (B.getD (4 * t+3) 0)
  hi:∀ t,(h:16≤t)→(h2:t<80)→V[t]'jD=Zfv (V[t-3]'jD ^^^ V[t-8]'jD ^^^ V[t-14]'jD ^^^ V[t-16]'jD) 1
theorem MD{B:List Nat}(h:B.length=64):IsWords B (QP B):=by
  obtain⟨d,a2,a3⟩:=Ly B []
  obtain⟨C,D,v⟩:=Nf 64 (TC B []) (by simp at d;omega)
  have y:(QP B).length=80:=by unfold QP;rw[List.length_reverse,C,d,h];rfl
  have g:∀ j,(hj:j<80)→(QP B)[j]'jD=(QP B).getD j 0:=fun j hj=>by
    rw[D7,A7 jD];rfl
  refine⟨y,fun t ht=>?_,fun t h1 h2=>?_⟩
  · rw[g t jD]
    unfold QP
    rw[D t (by simp at d;omega)]
    have:=a3 t jD
    simpa using this
  · rw[g t h2,g (t-3) jD,g (t-8) jD,g (t-14) jD,g (t-16) jD]
    exact v t (by simp at d;omega) (by simp at d;omega)
def bytesOf(B:List Nat)(t:Nat):Nat→Nat
  | 0=>0
  | k+1=>bytesOf B t k * 256+B.getD (4 * t+k) 0
theorem Lr{B:List Nat}{t:Nat}(h:∀ b∈B,b<256):∀ k,bytesOf B t k<256 ^ k
  | 0=>by simp[bytesOf]
  | k+1=>by
    have:=Lr (t:=t) h k
    have hb:B.getD (4 * t+k) 0<256:=by
      rw[D7]
      cases hg:B[4 * t+k]? with
      | none=>simp
      | some v=>exact h v (H8 hg)
    unfold bytesOf
    omega
theorem LP(B:List Nat)(t:Nat):bytesOf B t 4=Cl (B.getD (4 * t) 0) (B.getD (4 * t+1) 0) (B.getD (4 * t+2) 0) (B.getD (4 * t+3) 0):=by
  simp[bytesOf,Cl]
theorem Zsg{p c:Nat}(g:p<16777216)(d:c<256):(p * 2 ^ 8 % 4294967296) ||| c=p * 256+c:=by
  rw[E3 jD,← Nat.shiftLeft_eq,← Nat.shiftLeft_add_eq_or_of_lt (by simpa using d),Nat.shiftLeft_eq]
theorem UU{B V:List Nat}(h:IsWords B V)(d:∀ b∈B,b<256)(t:Nat)(ht:t<80):V[t]'(by have:=h.len;omega)<4294967296:=by
  rcases C7 t 16 with h1|h1
  · rw[h.lo t h1,← LP];exact Lr d 4
  · rw[h.hi t h1 ht];exact Zfu _ _
def Zyb(M:Mem)(v:Value)(V:List Nat):Prop:=∃ sl:Sl Nat,v=.tuple #[sl.val,.int .i64 0]∧sl.l=V∧SlK M Zer 1 sl
end Go.Esp
namespace Go.Proofs.YtglnjnacodgmaaaGreatDoor.K
open Go.Esp
theorem F.arr256:Zpq Tryz.prog 256=some (64,5):=by kernel_rfl
theorem F.elem204:Na Tryz.prog 204=some (152,1,4):=by kernel_rfl
theorem F.lay152:lay Tryz.prog 152=some (false,1):=by kernel_rfl
theorem F.ok152:Ta Tryz.prog 152=true:=by kernel_rfl
theorem F.zero152:XP Tryz.prog 152=some ((.int .u32 0)):=by kernel_rfl
theorem Zqa(M:Mem)(s:ByteArray)(hs:s.size=64)(V:List Nat)(d:IsWords (XR s) V):Esp.Fn Tryz.prog 150 [.string s] M (fun M' v=>Zyb M' v V):=by
  have B:=d.len
  have y:=Zgy s
  obtain⟨bv,T⟩:=Zud s hs
  refine WE Tryz.func150 rfl Tryz.ntmps150 rfl ?_;intro H
  refine S10 ?_;refine Rz Tryz.underlying9 ?_;refine S3 ?_;refine VG [12,3,2,0] ?_
  refine Xb (eT fun ae=>?_) (eF fun ae=>?_)
  ·(exfalso;omega)
  refine S2 ?_
  refine VG [3,2,0] ?_;refine S3 ?_
  intro D
  refine S6 ?_;refine Zlb (s:=s) (u:=[.arr 64 bv]) rfl rfl rfl rfl rfl F.elem202 hs jH (by rw[Ry];simp) ((Ry bv).trans T) rfl ?_;refine S2 ?_;refine VG [4,3,2] ?_;refine S2 ?_
  refine QI (k:=80) (zr:=Zer 0) rfl rfl rfl rfl F.elem204 F.zero152 rfl rfl rfl jM jM rfl ?_;intro D aa ak
  refine S3 ?_;refine VG [5,4,3,2] ?_;refine S7 ?_;refine VG [17,5,4,3,2] ?_;refine XV (Hin:=aa) (.succ .zero) jA (fun(k:Nat) U h1 z=>U=M∧z=[(17,.int .i64 (k:Int))]∧k≤16∧OSl 152 1 (.slice (some ⟨D,0,none⟩) 80 80) h1 ((TT V (k)).map Zer)) (fun k=>16-k) (0) (⟨rfl,rfl,by omega,by rw[Zbs,d.len,List.map_replicate];exact ak⟩) ?_
  rintro k U h1 z ar ⟨ab,rfl,hk,ho⟩
  subst ab
  refine S6 ?_
  refine Xb (cT fun an=>?_) (cF fun an=>?_)
  ·refine S14 ?_
   rw[show(4:Int) * (k:Int)=((4 * k:Nat):Int)by omega]
   refine DT rfl rfl rfl (.some rfl rfl) .none F.arr256 (B9 _) (by show 4 * k≤64;omega) (show WK (some ⟨_,0,none⟩) 1 (4 * k) 64 64=.slice (some ⟨_,4 * k,none⟩) (64-4 * k) (64-4 * k)from by rw[KY jD,F2]) rfl ?_;refine WL (olo:=none) (ohi:=some 4) (omx:=none) rfl rfl rfl .none (.some rfl rfl) .none F.elem202 (B9 _) (by show 4≤64-4 * k;omega) (C3 _) (by intro h;cases h) (show WK (some ⟨_,4 * k,none⟩) 1 0 4 (64-4 * k)=.slice (some ⟨_,4 * k,none⟩) 4 (64-4 * k)from by rw[KY jD];rfl) rfl ?_;refine S5 ?_;refine VG [25,24,23,22,21,20,6,19,18,17,5,4,3,2] ?_;refine XV (Hin:=h1) (.succ .zero) jA (fun(q:Nat) M2 h2 z=>M2=U∧z=[(25,.int .i64 (q:Int))]∧q≤4∧OSl 152 1 (.slice (some ⟨D,0,none⟩) 80 80) h2 (((TT V k).set k (bytesOf (XR s) k (q))).map Zer)) (fun q=>4-q) (0) (⟨rfl,rfl,by omega,by rw[show bytesOf (XR s) k 0=0 from rfl,Zbt jD];exact ho⟩) ?_
   rintro q M2 h2 z aq ⟨ad,rfl,hq,C⟩
   subst ad
   have ah:=Ztq y (4 * k+q)
   refine S6 ?_
   refine Xb (cT fun ai=>?_) (cF fun ai=>?_)
   ·refine S7 ?_
    rw[Ru,show 4 * k+(q * 1+0)=4 * k+q by omega]
    refine Qp rfl rfl rfl jB F.lay5 (Zpi T hs jD) rfl ?_;refine S9 ?_
    have hp:bytesOf (XR s) k q<16777216:=Nat.lt_of_lt_of_le (Lr y q) (Nat.pow_le_pow_right jM (show q≤3 by omega))
    refine RT rfl rfl rfl C jA (by rw[E6,List.getElem?_set_self (by rw[Sz jD];omega)];rfl) F.lay152 rfl rfl rfl ?_;refine VK rfl rfl rfl rfl jM (Zwg (n:=8) jD) rfl rfl ?_;refine S2 ?_;refine TB rfl rfl rfl rfl (Zwm (G5 _ jM) jD) rfl rfl ?_
    rw[Zsg hp ah]
    refine Stp ?_
    refine Tw (b:=D) (j:=k) rfl rfl rfl rfl jG (Yi rfl YS) F.lay152 rfl rfl C jA (by rw[A8];first|(rw[Sz jD];omega)|(rw[List.length_set,Sz jD];omega)) ?_;intro R L
    replace L:OSl 152 1 (.slice (some ⟨D,0,none⟩) 80 80) R (((TT V k).set k (bytesOf (XR s) k (q+1))).map Zer):=by rw[show(((TT V k).set k (bytesOf (XR s) k (q+1))).map Zer)=((((TT V k).set k (bytesOf (XR s) k (q))).map Zer)).set k (Zer (bytesOf (XR s) k (q+1)))by rw[← List.map_set,List.set_set]];exact L.aZ (by simp[Sz,B,show k≤80 by omega])
    refine S7 ?_;refine YO (a':=[(25,_)]) (q+1) (R) (.cons (k:=25) rfl (.cons (k:=24) rfl (.cons (k:=23) rfl (.cons (k:=22) rfl (.cons (k:=21) rfl (.cons (k:=20) rfl (.cons (k:=6) rfl (.cons (k:=19) rfl (.cons (k:=18) rfl (.cons (k:=17) rfl (.cons (k:=5) rfl (.cons (k:=4) rfl (.cons (k:=3) rfl (.cons (k:=2) rfl (.nil))))))))))))))) jO (fun w hw=>by first|exact hw|exact hw.c) ?_ ?_
    ·exact⟨rfl,rfl,by omega,L⟩
    omega
   refine S10 ?_
   refine YO (a':=[(17,_)]) (k+1) (h2) (.cons (k:=17) rfl (.cons (k:=5) rfl (.cons (k:=4) rfl (.cons (k:=3) rfl (.cons (k:=2) rfl (.nil)))))) jO (fun w hw=>by first|exact hw|exact hw.c) ?_ ?_
   ·refine⟨rfl,rfl,by omega,?_⟩
    obtain rfl:q=4:=by omega
    rw[LP,← d.lo k jD,EE jD]at C
    exact C
   omega
  refine S5 ?_
  refine VG [5,3,2] ?_;refine S3 ?_
  obtain rfl:k=16:=by omega
  refine S4 ?_;refine VG [9,5,3,2] ?_;refine XV (Hin:=h1) (.succ .zero) jA (fun(t:Nat) M3 h3 z=>M3=U∧z=[(9,.int .i64 (t:Int))]∧16≤t∧t≤80∧OSl 152 1 (.slice (some ⟨D,0,none⟩) 80 80) h3 ((TT V (t)).map Zer)) (fun t=>80-t) (16) (⟨rfl,rfl,by omega,by omega,ho⟩) ?_
  rintro t M3 h3 z ao ⟨ag,rfl,aj,au,g⟩
  subst ag
  refine S7 ?_
  refine Xb (cT fun Z=>?_) (cF fun Z=>?_)
  ·refine S4 ?_
   refine Ya (l:=[0,1,2,3,4,5,6,7,8,9,10,11,12,13,14,15,16,17,18,19,20,21,22,23,24,25,26,27]) #[0,0,0,0,8,28,60,0,0,256,896,1920,4092,0,0,16384,57344,122880,262140,0,0,1048576,3670016,7864320,16777212,33554428,67108863,134217727] _ rfl jI jI St.drawn (fun _ h=>h) ?_;refine S5 ?_
   rw[show(t:Int)-3=((t-3:Nat):Int)by omega]
   refine Stp ?_;refine RT rfl rfl rfl g jA (by rw[E6,Oc (V:=V) (t:=t) (j:=t-3) jD jD];rfl) F.lay152 rfl rfl rfl ?_;refine S3 ?_
   rw[show(t:Int)-8=((t-8:Nat):Int)by omega]
   refine Stp ?_;refine RT rfl rfl rfl g jA (by rw[E6,Oc (V:=V) (t:=t) (j:=t-8) jD jD];rfl) F.lay152 rfl rfl rfl ?_;refine TB rfl rfl rfl rfl (Zar (UU d y (t-3) jD) (UU d y (t-8) jD)) rfl rfl ?_;refine S2 ?_;refine DZ rfl rfl rfl rfl rfl yN rfl ?_
   rw[show(t:Int)-14=((t-14:Nat):Int)by omega]
   refine NJ rfl rfl rfl rfl F.elem204 zH jD (by exact⟨_,_,rfl⟩) rfl ?_;refine RT rfl rfl rfl g jA (by rw[E6,Oc (V:=V) (t:=t) (j:=t-14) jD jD];rfl) F.lay152 rfl rfl rfl ?_;refine TB rfl rfl rfl rfl (Zar (LH (UU d y (t-3) jD) (UU d y (t-8) jD)) (UU d y (t-14) jD)) rfl rfl ?_;refine S2 ?_;refine DZ rfl rfl rfl rfl rfl yN rfl ?_
   rw[show(t:Int)-16=((t-16:Nat):Int)by omega]
   refine NJ rfl rfl rfl rfl F.elem204 zH jD (by exact⟨_,_,rfl⟩) rfl ?_;refine RT rfl rfl rfl g jA (by rw[E6,Oc (V:=V) (t:=t) (j:=t-16) jD jD];rfl) F.lay152 rfl rfl rfl ?_;refine TB rfl rfl rfl rfl (Zar (LH (LH (UU d y (t-3) jD) (UU d y (t-8) jD)) (UU d y (t-14) jD)) (UU d y (t-16) jD)) rfl rfl ?_;refine Zur rfl rfl F.ok152 rfl (BJ _ _ 1 (LH (LH (LH (UU d y (t-3) jD) (UU d y (t-8) jD)) (UU d y (t-14) jD)) (UU d y (t-16) jD)) jM) rfl ?_
   rintro _ rfl
   refine Stp ?_
   refine Tw (b:=D) (j:=t) rfl rfl rfl rfl jG (Yi rfl YS) F.lay152 rfl rfl g jA (by rw[A8];first|(rw[Sz jD];omega)|(rw[List.length_set,Sz jD];omega)) ?_;intro O K
   replace K:OSl 152 1 (.slice (some ⟨D,0,none⟩) 80 80) O ((TT V (t+1)).map Zer):=by rw[← EE jD,List.map_set,d.hi t aj jD];exact K.aZ (by simp[Sz,B,show t≤80 by omega])
   refine S8 ?_;refine YO (a':=[(9,_)]) (t+1) (O) (.cons (k:=9) rfl (.cons (k:=5) rfl (.cons (k:=3) rfl (.cons (k:=2) rfl (.nil))))) jO (fun w hw=>by first|exact hw|exact hw.c) ?_ ?_
   ·exact⟨rfl,rfl,by omega,by omega,K⟩
   omega
  refine S13 ?_
  refine ZH fun w hw=>?_
  obtain rfl:t=80:=by omega
  have al:TT V 80=V:=by have:=Zgj (V:=V);rwa [B]at this
  rw[al]at g
  obtain⟨M9,s1,g1,g2,g3,g4,g5⟩:=OSl.freezeK (f:=Zer) (H:=H) (l:=V) g (hw.c)
  refine⟨_,M9,rfl,g1,g2,?_⟩
  exact⟨s1,by rw[← g3];rfl,g4,g5⟩
end Go.Proofs.YtglnjnacodgmaaaGreatDoor.K
namespace Go.Esp
def stV(s:St5):Vector Value 5:=⟨#[.int .u32 (s.a:Int),.int .u32 (s.b:Int),.int .u32 (s.c:Int),.int .u32 (s.d:Int),.int .u32 (s.e:Int)],rfl⟩
def RG(s:St5):Seg:=.arr 5 (stV s)
def St5.nth(s:St5):Nat→Nat
  | 0=>s.a
  | 1=>s.b
  | 2=>s.c
  | 3=>s.d
  | _=>s.e
structure St5.ok (s:St5):Prop where
  a:s.a<4294967296
  b:s.b<4294967296
  c:s.c<4294967296
  d:s.d<4294967296
  e:s.e<4294967296
theorem St5.ok.nth{s:St5}(h:s.ok)(j:Nat):s.nth j<4294967296:=by
  obtain⟨h1,h2,h3,g,d⟩:=h
  unfold St5.nth;split <;> assumption
theorem Zwf(s:St5){j:Nat}(h:j<5):(stV s)[j]=.int .u32 ((s.nth j:Nat):Int):=by
  match j,h with
  | 0,_=>rfl
  | 1,_=>rfl
  | 2,_=>rfl
  | 3,_=>rfl
  | 4,_=>rfl
theorem Zfh(s:St5){j:Nat}(h:j<5):(Segs.cells [RG s])[0+j]?=some (.int .u32 ((s.nth j:Nat):Int)):=by
  rw[← Zwf s h];exact Zkm h
theorem Iu(s:St5):flat [RG s]:=fun u hu=>by
  have:u=.int .u32 (s.a:Int)∨u=.int .u32 (s.b:Int)∨u=.int .u32 (s.c:Int)∨u=.int .u32 (s.d:Int)∨u=.int .u32 (s.e:Int):=by
    have h9:u∈[Value.int .u32 (s.a:Int),.int .u32 (s.b:Int),.int .u32 (s.c:Int),.int .u32 (s.d:Int),.int .u32 (s.e:Int)]:=hu
    simpa using h9
  rcases this with rfl|rfl|rfl|rfl|rfl <;> rfl
theorem Zff:KG.ok:=⟨by decide,by decide,by decide,by decide,by decide⟩
theorem Zft{s:St5}(t w:Nat)(h:s.ok):(Sg t s w).ok:=⟨G5 _ (by decide),h.a,Zfu _ _,h.c,h.d⟩
theorem KN:∀(l:List Nat) (t w:Nat) (s:St5),Pw t (l++[w]) s=Sg (t+l.length) (Pw t l s) w
  | [],t,w,s=>rfl
  | x::l,t,w,s=>by
    show Pw (t+1) (l++[w]) (Sg t s x)=_
    rw[KN l (t+1) w]
    rw[C8,show t+1+l.length=t+(l.length+1)by omega]
    rfl
theorem IE:∀(l:List Nat) (t:Nat) {s:St5},s.ok→(Pw t l s).ok
  | [],t,s,h=>h
  | x::l,t,s,h=>IE l (t+1) (Zft t x h)
def VO(V:List Nat)(h:St5)(t:Nat):St5:=Pw 0 (V.take t) h
theorem Bw{V:List Nat}{h:St5}{t:Nat}(ht:t<V.length):VO V h (t+1)=Sg t (VO V h t) V[t]:=by
  unfold VO
  rw[List.take_succ_eq_append_getElem ht,KN,D8,I5 jD,F2]
theorem Zkf{V:List Nat}{h:St5}(t:Nat)(d:h.ok):(VO V h t).ok:=IE _ _ d
theorem Zdp{V:List Nat}{h:St5}:VO V h V.length=Pw 0 V h:=by unfold VO;rw[G0]
theorem Zfr{r f e a w:Nat}:w32 (w32 (w32 (w32 ((r:Int)+(f:Int))+(e:Int))+(a:Int))+(w:Int))=(((r+f+e+a+w) % 4294967296:Nat):Int):=by
  unfold w32;omega
theorem Zum{a b:Nat}:w32 ((a:Int)+(b:Int))=((Pl a b:Nat):Int):=by
  unfold w32 Pl;omega
def Ct(h s:St5)(i:Nat):St5:=⟨if 0<i then Pl h.a s.a else h.a,if 1<i then Pl h.b s.b else h.b,if 2<i then Pl h.c s.c else h.c,if 3<i then Pl h.d s.d else h.d,if 4<i then Pl h.e s.e else h.e⟩
theorem Zmq{h s:St5}{i:Nat}(hi:i<5):(Ct h s i).nth i=h.nth i:=by
  match i,hi with
  | 0,_=>rfl
  | 1,_=>rfl
  | 2,_=>rfl
  | 3,_=>rfl
  | 4,_=>rfl
theorem Zey{h s:St5}{i:Nat}(hi:i<5):(stV (Ct h s i)).set i (.int .u32 ((Pl (h.nth i) (s.nth i):Nat):Int)) hi=stV (Ct h s (i+1)):=by
  match i,hi with
  | 0,_=>rfl
  | 1,_=>rfl
  | 2,_=>rfl
  | 3,_=>rfl
  | 4,_=>rfl
theorem Zmu{h:St5}{B:List Nat}(d:B.length=64):Ct h (VO (QP B) h 80) 5=Cv h B:=by
  have g:=(MD d).len
  have:VO (QP B) h 80=Pw 0 (VL 64 (TC B [])).reverse h:=by
    rw[← g];exact Zdp
  rw[this];rfl
theorem Zmt{h:St5}{B:List Nat}:(Cv h B).ok:=⟨G5 _ (by decide),G5 _ (by decide),G5 _ (by decide),G5 _ (by decide),G5 _ (by decide)⟩
end Go.Esp
namespace Go.Proofs.YtglnjnacodgmaaaGreatDoor.K
open Go.Esp
theorem F.bld209:Bld Tryz.prog 209 [[.one .nilFunc],[.one (.int .u32 0)]]:=⟨by kernel_rfl,by kernel_rfl⟩
theorem F.ok192:Ta Tryz.prog 192=true:=by kernel_rfl
theorem F.ok193:Ta Tryz.prog 193=true:=by kernel_rfl
theorem F.ok194:Ta Tryz.prog 194=true:=by kernel_rfl
theorem F.phs(w:World):(Instr.build 210 #[(0,WX [.one (.func (.func 192) #[] #[]),.one (.int .u32 ((1518500249:Nat):Int))]),(1,WX [.one (.func (.func 193) #[] #[]),.one (.int .u32 ((1859775393:Nat):Int))]),(2,WX [.one (.func (.func 194) #[] #[]),.one (.int .u32 ((2400959708:Nat):Int))]),(3,WX [.one (.func (.func 193) #[] #[]),.one (.int .u32 ((3395469782:Nat):Int))])]).run Tryz.prog w=.ok (WX [.one (.func (.func 192) #[] #[]),.one (.int .u32 ((1518500249:Nat):Int)),.one (.func (.func 193) #[] #[]),.one (.int .u32 ((1859775393:Nat):Int)),.one (.func (.func 194) #[] #[]),.one (.int .u32 ((2400959708:Nat):Int)),.one (.func (.func 193) #[] #[]),.one (.int .u32 ((3395469782:Nat):Int))]) w:=by kernel_rfl
def Zzi(k:Nat):FuncId:=if k=0 then 192 else if k=1 then 193 else if k=2 then 194 else 193
def Zzp(k:Nat):Nat:=if k=0 then 1518500249 else if k=1 then 1859775393 else if k=2 then 2400959708 else 3395469782
def phS(k:Nat):Segs:=[.one (.func (.func (Zzi k)) #[] #[]),.one (.int .u32 ((Zzp k:Nat):Int))]
def phR:Segs:=[.one (.func (.func 192) #[] #[]),.one (.int .u32 ((1518500249:Nat):Int)),.one (.func (.func 193) #[] #[]),.one (.int .u32 ((1859775393:Nat):Int)),.one (.func (.func 194) #[] #[]),.one (.int .u32 ((2400959708:Nat):Int)),.one (.func (.func 193) #[] #[]),.one (.int .u32 ((3395469782:Nat):Int))]
theorem Zzg{j:Nat}(h:j<4):Segs.sub phR (0+j * 2) 2=some (phS j):=by
  match j,h with
  |0,_=>rfl
  |1,_=>rfl
  |2,_=>rfl
  |3,_=>rfl
theorem Zsy{j:Nat}(h:j<4):Ta Tryz.prog (Zzi j)=true:=by
  match j,h with
  |0,_=>exact F.ok192
  |1,_=>exact F.ok193
  |2,_=>exact F.ok194
  |3,_=>exact F.ok193
theorem Zun{k:Nat}(h:k<80):Zzp (k / 20)=Zzo k:=by
  unfold Zzp Zzo
  repeat(first|rfl|omega|split)
theorem Zwq(M:Mem){k b c d:Nat}(h:k<80)(hb:b<4294967296)(g:c<4294967296)(j:d<4294967296):Fs Tryz.prog (Zzi (k / 20)) [.int .u32 ((b:Nat):Int),.int .u32 ((c:Nat):Int),.int .u32 ((d:Nat):Int)] M (fun v=>v=.int .u32 ((Zzh k b c d:Nat):Int)):=by
  unfold Zzh
  rcases(show k / 20=0∧k<20∨k / 20=1∧¬k<20∧k<40∨k / 20=2∧¬k<20∧¬k<40∧k<60∨k / 20=3∧¬k<20∧¬k<40∧¬k<60 by omega)with⟨e,h1⟩|⟨e,h1,h2⟩|⟨e,h1,h2,h3⟩|⟨e,h1,h2,h3⟩
  ·rw[e,A6 h1];exact Zjy M b c d hb g j
  ·rw[e,A4 h1,A6 h2];exact Ed M b c d hb g j
  ·rw[e,A4 h1,A4 h2,A6 h3];exact Zsx M b c d hb g j
  rw[e,A4 h1,A4 h2,A4 h3];exact Ed M b c d hb g j
theorem Zgi(M:Mem):Fs Tryz.prog 151 [] M (fun v=>v=WX (phR)):=by
  refine Xa Tryz.func151 rfl Tryz.ntmps151 rfl ?_;intro H
  refine S3 ?_
  intro d
  refine S4 ?_
  iterate 4 refine XN rfl rfl F.bld209 (.cons rfl jG (.cons rfl jG .nil)) rfl rfl ?_
  refine GP rfl rfl (fun a ha=>by simp[show a.eval (.tmp 1)=WX [.one (.func (.func 192) #[] #[]),.one (.int .u32 ((1518500249:Nat):Int))]from ha.ev rfl,show a.eval (.tmp 2)=WX [.one (.func (.func 193) #[] #[]),.one (.int .u32 ((1859775393:Nat):Int))]from ha.ev rfl,show a.eval (.tmp 3)=WX [.one (.func (.func 194) #[] #[]),.one (.int .u32 ((2400959708:Nat):Int))]from ha.ev rfl,show a.eval (.tmp 4)=WX [.one (.func (.func 193) #[] #[]),.one (.int .u32 ((3395469782:Nat):Int))]from ha.ev rfl]) (F.phs) rfl ?_;refine S4 ?_;refine ZH fun w hw=>?_
  refine⟨_,rfl,(hw.c),?_⟩
  rfl
end Go.Proofs.YtglnjnacodgmaaaGreatDoor.K
namespace Go.Proofs.YtglnjnacodgmaaaGreatDoor.K
open Go.Esp
theorem F.arrN210:Zpp Tryz.prog 210=some (4,209,2):=by kernel_rfl
theorem F.bst(a b c d e:Int)(w:World):(Instr.build 154 #[(0,.int .u32 a),(1,.int .u32 b),(2,.int .u32 c),(3,.int .u32 d),(4,.int .u32 e)]).run Tryz.prog w=.ok (.agg #[.int .u32 a,.int .u32 b,.int .u32 c,.int .u32 d,.int .u32 e]) w:=by kernel_rfl
theorem F.lay154:lay Tryz.prog 154=some (true,5):=by kernel_rfl
theorem F.lay209:lay Tryz.prog 209=some (true,2):=by kernel_rfl
theorem Zvd(M:Mem)(g:St5)(s:ByteArray)(hg:g.ok)(hs:s.size=64):Esp.Fn Tryz.prog 93 [WX [RG g],.string s] M (fun M' v=>v=.tuple #[WX [RG (Cv g (XR s))],.int .i64 0]):=by
  refine WE Tryz.func93 rfl Tryz.ntmps93 rfl ?_;intro H
  refine S3 ?_
  intro U
  refine Stp ?_;intro b2
  refine S3 ?_;refine VG [5,4,2,1] ?_;refine S3 ?_;refine PH (Zqa M s hs (QP (XR s)) (MD (by rw[VB,hs]))) ?_
  rintro _ M1 ag ⟨⟨wa,wc,wl⟩,rfl,B,O⟩
  replace B:wl=QP (XR s):=B
  have hV:IsWords (XR s) wl:=by rw[B];exact MD (by rw[VB,hs])
  have aa:=hV.len
  have ad:=O.h1
  refine S7 ?_;refine VG [7,6,5,4,2] ?_;refine S7 ?_;refine VG [20,7,6,5,4,2] ?_
  refine Xb (eT fun C=>?_) (eF fun C=>?_)
  ·simp only[Zr.eta,ZK.eta,ZM.eta,ZI.eta,YD.eta,YQ.eta,XM.eta,YT.eta,ZW.eta,XF.eta,Yk.eta]at C
   (exfalso;simp[eqX]at C;done)
  simp only[Zr.eta,ZK.eta,ZM.eta,ZI.eta,YD.eta,YQ.eta,XM.eta,YT.eta,ZW.eta,XF.eta,Yk.eta]at C
  refine S2 ?_;refine VG [6,5,4,2] ?_;refine Stp ?_;refine Ya (l:=[0,1,2,3,4,5]) #[0,0,0,0,15,31] _ rfl jI jI St.drawn (fun _ h=>h) ?_;refine Stp ?_;refine Vn (Zgi _) ?_
  rintro _ rfl
  refine Stp ?_;intro L
  refine Stp ?_;intro b5
  refine UE rfl rfl rfl rfl jG (by exact Iu _) jH F.lay154 rfl rfl ?_;refine S3 ?_;refine VG [9,8,6,5,4,2] ?_;refine S7 ?_;refine VG [25,9,8,6,5,4,2] ?_;refine XV (Hin:=[(L,Yp [RG (g)] 154)]) (.succ .zero) jA (fun(k:Nat) M2 h1 z=>M2=M1∧z=[(25,.int .i64 (k:Int))]∧k≤80∧h1=[(L,Yp [RG (VO wl g k)] 154)]) (fun k=>80-k) (0) (⟨rfl,rfl,by omega,rfl⟩) ?_
  rintro k M2 h1 z ae ⟨K,rfl,hk,rfl⟩
  subst K
  have y:=Zkf (V:=wl) k hg
  refine S6 ?_
  refine Xb (cT fun Z=>?_) (cF fun Z=>?_)
  ·refine S14 ?_
   rw[show(k:Int) / 20=((k / 20:Nat):Int)by omega]
   refine LX rfl rfl rfl rfl F.arrN210 rfl jD rfl ?_;refine Zkx (r:=phR) (r':=phS (k / 20)) rfl rfl rfl jB F.lay209 (Zzg jD) rfl rfl ?_
   refine Stp ?_;intro b7
   refine S4 ?_;refine Ya (l:=[0,1,2,3,4,5,6,7,8,9,10,11,12,13,14,15,16,17,18,19,20,21,22,23,24]) #[0,1,3,0,8,0,32,0,128,0,512,2047,4095,0,8192,32767,0,65536,262143,0,0,1572864,3670016,8388607,16777215] _ rfl jI jI St.drawn (fun _ h=>h) ?_;refine S2 ?_;refine Vn (BJ _ ((VO wl g k).nth 0) 5 (y.nth 0) jM) ?_
   rintro _ rfl
   refine S8 ?_;refine PP rfl rfl rfl (Zsy (j:=k / 20) jD) rfl rfl (Zwq _ jD (y.nth 1) (y.nth 2) (y.nth 3)) rfl ?_
   rintro _ rfl
   refine S12 ?_
   rw[Zfr,Zun jD]
   refine S3 ?_;refine Ya (l:=[0,1,2,3,4,5,6,7,8,9,10,11]) #[0,0,2,0,8,24,0,64,0,256,1023,2047] _ rfl jI jI St.drawn (fun _ h=>h) ?_;refine S5 ?_;refine Vn (BJ _ ((VO wl g k).nth 1) 30 (y.nth 1) jM) ?_
   rintro _ rfl
   refine S4 ?_;refine GP (v:=WX [RG (Sg k (VO wl g k) (wl[k]'jD))]) rfl rfl (fun a ha=>by simp[show a.eval (.tmp 56)=.int .u32 (((Sg k (VO wl g k) (wl[k]'jD)).a:Nat):Int)from ha.ev rfl,show a.eval (.tmp 58)=.int .u32 (((Sg k (VO wl g k) (wl[k]'jD)).b:Nat):Int)from ha.ev rfl,show a.eval (.tmp 61)=.int .u32 (((Sg k (VO wl g k) (wl[k]'jD)).c:Nat):Int)from ha.ev rfl,show a.eval (.tmp 63)=.int .u32 (((Sg k (VO wl g k) (wl[k]'jD)).d:Nat):Int)from ha.ev rfl,show a.eval (.tmp 65)=.int .u32 (((Sg k (VO wl g k) (wl[k]'jD)).e:Nat):Int)from ha.ev rfl]) (F.bst (((Sg k (VO wl g k) (wl[k]'jD)).a:Nat):Int) (((Sg k (VO wl g k) (wl[k]'jD)).b:Nat):Int) (((Sg k (VO wl g k) (wl[k]'jD)).c:Nat):Int) (((Sg k (VO wl g k) (wl[k]'jD)).d:Nat):Int) (((Sg k (VO wl g k) (wl[k]'jD)).e:Nat):Int)) rfl ?_
   rw[← Bw (V:=wl) (h:=g) (t:=k) jD]
   refine UE rfl rfl rfl rfl jG (by exact Iu _) jH F.lay154 rfl rfl ?_;refine S7 ?_;refine YO (a':=[(25,_)]) (k+1) ([(L,Yp [RG (VO wl g (k+1))] 154)]) (.cons (k:=25) rfl (.cons (k:=9) rfl (.cons (k:=8) rfl (.cons (k:=6) rfl (.cons (k:=5) rfl (.cons (k:=4) rfl (.cons (k:=2) rfl (.nil)))))))) jO (fun w hw=>by first|exact hw|exact hw.c) ?_ ?_
   ·exact⟨rfl,rfl,by omega,rfl⟩
   omega
  refine S5 ?_
  refine VG [8,5,4,2] ?_;refine S3 ?_
  obtain rfl:k=80:=by omega
  refine S4 ?_;refine VG [68,8,5,4,2] ?_;refine XV (Hin:=[(U,Yp [RG (g)] 154)]) (.succ .zero) jA (fun(i:Nat) T h1 z=>T=M2∧z=[(68,.int .i64 (i:Int))]∧i≤5∧h1=[(U,Yp [RG (Ct g (VO wl g 80) i)] 154)]) (fun i=>5-i) (0) (⟨rfl,rfl,by omega,rfl⟩) ?_
  rintro i T h1 z ab ⟨R,rfl,hi,rfl⟩
  subst R
  refine S6 ?_
  refine Xb (cT fun D=>?_) (cF fun D=>?_)
  ·refine S10 ?_
   refine Ya (l:=[0,1,2,3,4,5,6,7,8]) #[0,1,3,0,8,24,63,127,255] _ rfl jI jI St.drawn (fun _ h=>h) ?_;refine S2 ?_;refine Qp rfl rfl rfl jB F.lay152 (Zfh _ jD) rfl ?_
   rw[Zmq jD]
   refine S2 ?_;refine Qp rfl rfl rfl jB F.lay152 (Zfh _ jD) rfl ?_;refine DZ rfl rfl rfl rfl rfl (by exact NO _) rfl ?_
   rw[Zum]
   refine Stp ?_;refine QH rfl rfl rfl rfl rfl rfl jH F.lay152 (GJ (f:=stV (Ct g (VO wl g 80) i)) jD) (GI jD) ?_
   rw[Zey jD]
   refine S7 ?_;refine YO (a':=[(68,_)]) (i+1) ([(U,Yp [RG (Ct g (VO wl g 80) (i+1))] 154)]) (.cons (k:=68) rfl (.cons (k:=8) rfl (.cons (k:=5) rfl (.cons (k:=4) rfl (.cons (k:=2) rfl (.nil)))))) jO (fun w hw=>by first|exact hw|exact hw.c) ?_ ?_
   ·exact⟨rfl,rfl,by omega,rfl⟩
   omega
  refine S8 ?_
  refine UE rfl rfl rfl rfl jG (by exact Iu _) jH F.lay154 rfl rfl ?_;refine S4 ?_;refine ZH fun w hw=>?_
  obtain rfl:i=5:=by omega
  refine⟨_,T,rfl,jE,hw.c,?_⟩
  subst B
  rw[← Zmu (by rw[VB,hs])]
  rfl
end Go.Proofs.YtglnjnacodgmaaaGreatDoor.K
namespace Go.Proofs
open Go.Shelf
def Tryz.repL_ren:Go.Shelf.Ren:=⟨fun|105=>149|212=>186|99=>187|165=>188|166=>189|170=>190|169=>191|263=>213|264=>214|206=>215|240=>216|241=>217|276=>226|277=>227|n=>n,fun|9=>9|3=>3|4=>4|20=>20|0=>0|46=>136|109=>245|5=>5|72=>250|76=>253|51=>152|146=>276|53=>42|148=>278|70=>248|37=>202|75=>252|127=>280|164=>290|80=>255|n=>n,fun|n=>n⟩
theorem Tryz.repL:Go.Proofs.Lays.n105 Tryz.prog Tryz.repL_ren:={
  mixed:=by kernel_rfl
  f99:=Tryz.func187.trans (congrArg some (by kernel_rfl))
  f105:=Tryz.func149.trans (congrArg some (by kernel_rfl))
  f165:=Tryz.func188.trans (congrArg some (by kernel_rfl))
  f166:=Tryz.func189.trans (congrArg some (by kernel_rfl))
  f169:=Tryz.func191.trans (congrArg some (by kernel_rfl))
  f170:=Tryz.func190.trans (congrArg some (by kernel_rfl))
  f206:=Tryz.func215.trans (congrArg some (by kernel_rfl))
  f212:=Tryz.func186.trans (congrArg some (by kernel_rfl))
  f240:=Tryz.func216.trans (congrArg some (by kernel_rfl))
  f241:=Tryz.func217.trans (congrArg some (by kernel_rfl))
  f263:=Tryz.func213.trans (congrArg some (by kernel_rfl))
  f264:=Tryz.func214.trans (congrArg some (by kernel_rfl))
  f276:=Tryz.func226.trans (congrArg some (by kernel_rfl))
  f277:=Tryz.func227.trans (congrArg some (by kernel_rfl))
  t0:=Tryz.underlying0
  a0:=Tryz.isAgg0
  z0:=Tryz.sizeOf0
  v0:=Tryz.zeroValue0
  t3:=Tryz.underlying3
  a3:=Tryz.isAgg3
  z3:=Tryz.sizeOf3
  v3:=Tryz.zeroValue3
  t4:=Tryz.underlying4
  a4:=Tryz.isAgg4
  z4:=Tryz.sizeOf4
  v4:=Tryz.zeroValue4
  t5:=Tryz.underlying5
  a5:=Tryz.isAgg5
  z5:=Tryz.sizeOf5
  v5:=Tryz.zeroValue5
  t9:=Tryz.underlying9
  a9:=Tryz.isAgg9
  z9:=Tryz.sizeOf9
  v9:=Tryz.zeroValue9
  t20:=Tryz.underlying20
  a20:=Tryz.isAgg20
  z20:=Tryz.sizeOf20
  v20:=Tryz.zeroValue20
  t37:=Tryz.underlying202
  a37:=Tryz.isAgg202
  z37:=Tryz.sizeOf202
  v37:=Tryz.zeroValue202
  t46:=Tryz.underlying136
  a46:=Tryz.isAgg136
  z46:=Tryz.sizeOf136
  v46:=Tryz.zeroValue136
  t51:=Tryz.underlying152
  a51:=Tryz.isAgg152
  z51:=Tryz.sizeOf152
  v51:=Tryz.zeroValue152
  t53:=Tryz.underlying42
  a53:=Tryz.isAgg42
  z53:=Tryz.sizeOf42
  v53:=Tryz.zeroValue42
  t70:=Tryz.underlying248
  a70:=Tryz.isAgg248
  z70:=Tryz.sizeOf248
  v70:=Tryz.zeroValue248
  t72:=Tryz.underlying250
  a72:=Tryz.isAgg250
  z72:=Tryz.sizeOf250
  v72:=Tryz.zeroValue250
  t75:=Tryz.underlying252
  a75:=Tryz.isAgg252
  z75:=Tryz.sizeOf252
  v75:=Tryz.zeroValue252
  t76:=Tryz.underlying253
  a76:=Tryz.isAgg253
  z76:=Tryz.sizeOf253
  v76:=Tryz.zeroValue253
  t109:=Tryz.underlying245
  a109:=Tryz.isAgg245
  z109:=Tryz.sizeOf245
  v109:=Tryz.zeroValue245
  t127:=Tryz.underlying280
  a127:=Tryz.isAgg280
  z127:=Tryz.sizeOf280
  v127:=Tryz.zeroValue280
  t146:=Tryz.underlying276
  a146:=Tryz.isAgg276
  z146:=Tryz.sizeOf276
  v146:=Tryz.zeroValue276
  t148:=Tryz.underlying278
  a148:=Tryz.isAgg278
  z148:=Tryz.sizeOf278
  v148:=Tryz.zeroValue278
  t164:=Tryz.underlying290
  a164:=Tryz.isAgg290
  z164:=Tryz.sizeOf290
  v164:=Tryz.zeroValue290 }
end Go.Proofs
namespace Go.Esp
open Go.Proofs Go.Shelf Go.RowKit Go.Lib
theorem St.below{M:Mem}{H:Hp}{w g:World}(j:M.dr=0)(h:St M H w)(hb:RowKit.Below w.heap.size w g):St M H g:=by
  have hk:∀ b o,w.heap[b]?=some o→g.heap[b]?=some o:=fun b o d=>by
    rw[hb.block b (E4.1 d).1];exact d
  exact⟨fun b o hm=>hk b o (h.mem b o hm),fun b o hm=>hk b o (h.own b o hm),h.sep,h.nodup,hb.os.trans h.io.1,hb.tape.trans h.io.2.1,hb.output.trans h.io.2.2.1,by rw[j];exact C3 _⟩
theorem Znh:Builder.Extra Tryz.prog Tryz.repL_ren:={
  sizeBuilder:=by kernel_rfl
  liesBuilder:=by kernel_rfl
  t5:=Tryz.repL.t5
  a5:=Tryz.repL.a5
  z5:=Tryz.repL.z5
  v5:=Tryz.repL.v5
  infoByte:=by kernel_rfl
  cellsByte:=by kernel_rfl
  sizeByte:=by kernel_rfl
  neB5:=by decide }
theorem KQ(b:UInt8):∀ c,repeatL [b] c=List.replicate c b
  | 0=>rfl
  | c+1=>by rw[List.replicate_succ,← KQ b c];rfl
theorem Zvh(M:Mem)(s:ByteArray)(c:Nat)(g:M.dr=0)(d:c≤9223372036854775807)(j:s.size * c≤140737488355328):
    Fs Tryz.prog (Tryz.repL_ren.f 105) [.string s,.int .i64 (c:Int)] M (fun v=>v=.string ⟨(repeatL s.data.toList c).toArray⟩):=fun H w hw =>
  (Any.strings_Repeat Tryz.repL Znh s c w d j).mono fun e y ⟨he,hb⟩=>⟨_,he,St.below g hw hb,rfl⟩
end Go.Esp
namespace Go.Esp
open Go.Lib Go.Proofs
theorem MV(a b:ByteArray):XR (a++b)=XR a++XR b:=by
  unfold XR;rw[ByteArray.data_append,Array.toList_append,C6]
theorem IL(c:Nat):XR ⟨(repeatL (⟨#[0]⟩:ByteArray).data.toList c).toArray⟩=List.replicate c 0:=by
  show(repeatL [0] c).map _=_
  rw[KQ,List.map_replicate];rfl
theorem Ag(c:Nat):(⟨(repeatL (⟨#[0]⟩:ByteArray).data.toList c).toArray⟩:ByteArray).size=c:=by
  rw[← VB,IL,List.length_replicate]
theorem Zbx{l:List Nat}(h:∀ n∈l,n<256):XR (strOfNums (l.map fun n:Nat=>(n:Int)))=l:=by
  unfold XR
  rw[strOfNums_data,I2,I2]
  refine(List.map_congr_left (g:=id) fun n d=>?_).trans (List.map_id l)
  simp_all
def Cs(n:Nat):List Nat:=(List.range 8).map fun j=>n / 256 ^ (7-j) % 256
def CG(n i:Nat):List Nat:=List.replicate (8-i) 0++(Cs n).drop (8-i)
theorem Ev(n i:Nat)(h:i≤8):(CG n i).length=8:=by simp[CG,Cs] <;> omega
theorem Zfo{n i:Nat}(h:i<8):(CG n i).set (7-i) (n / 256 ^ i % 256)=CG n (i+1):=by
  match i,h with
  | 0,_=>rfl
  | 1,_=>rfl
  | 2,_=>rfl
  | 3,_=>rfl
  | 4,_=>rfl
  | 5,_=>rfl
  | 6,_=>rfl
  | 7,_=>rfl
theorem Zfp(n:Nat):CG n 8=Cs n:=rfl
theorem Zmo{n:Nat}:∀ b∈Cs n,b<256:=fun b hb=>by
  obtain⟨j,-,rfl⟩:=C0.1 hb
  exact G5 _ jM
theorem Zua(n i:Nat):w8 ((n:Int) / 2 ^ (8 * i))=((n / 256 ^ i % 256:Nat):Int):=by
  rw[show(2:Int) ^ (8 * i)=((256 ^ i:Nat):Int)by rw[Int.pow_mul];simp]
  rfl
theorem Zwl(s:ByteArray):XR (((s++⟨#[128]⟩)++⟨(repeatL (⟨#[0]⟩:ByteArray).data.toList ((119-s.size % 64) % 64)).toArray⟩)++strOfNums ((Cs (8 * s.size)).map fun n:Nat=>(n:Int)))=Zqx (XR s):=by
  rw[MV,MV,MV,IL,Zbx Zmo]
  unfold Zqx
  rw[VB]
  show((XR s++[128])++_)++_=_
  simp[Cs]
end Go.Esp
namespace Go.Proofs.YtglnjnacodgmaaaGreatDoor.K
open Go.Esp
theorem F.bst0(w:World):(Instr.build 154 #[(0,.int .u32 1732584193),(1,.int .u32 4023233417),(2,.int .u32 2562383102),(3,.int .u32 271733878),(4,.int .u32 3285377520)]).run Tryz.prog w=.ok (WX [RG KG]) w:=by kernel_rfl
theorem Zqc(M:Mem):Fs Tryz.prog 92 [] M (fun v=>v=WX ([RG KG])):=by
  refine Xa Tryz.func92 rfl Tryz.ntmps92 rfl ?_;intro H
  refine S3 ?_
  intro d
  refine S4 ?_;refine GP rfl rfl (fun a ha=>by simp[show a.eval (.const (.int .u32 1732584193))=.int .u32 1732584193 from ha.ev rfl,show a.eval (.const (.int .u32 4023233417))=.int .u32 4023233417 from ha.ev rfl,show a.eval (.const (.int .u32 2562383102))=.int .u32 2562383102 from ha.ev rfl,show a.eval (.const (.int .u32 271733878))=.int .u32 271733878 from ha.ev rfl,show a.eval (.const (.int .u32 3285377520))=.int .u32 3285377520 from ha.ev rfl]) (F.bst0) rfl ?_;refine UE rfl rfl rfl rfl jG (by exact Iu _) jH F.lay154 rfl rfl ?_;refine S3 ?_;refine ZH fun w hw=>?_
  refine⟨_,rfl,(hw.c),?_⟩
  rfl
theorem Zyf(M:Mem)(s:ByteArray)(hs:s.size≤4096)(U:M.dr=0):Fs Tryz.prog 91 [.string s] M (fun v=>∃ p:ByteArray,v=.tuple #[.string p,.int .i64 0]∧XR p=Zqx (XR s)):=by
  refine Xa Tryz.func91 rfl Tryz.ntmps91 rfl ?_;intro H
  refine S10 ?_;refine Rz Tryz.underlying9 ?_;refine S3 ?_
  refine Xb (cT fun D=>?_) (cF fun D=>?_)
  ·(exfalso;omega)
  refine S5 ?_
  refine Rz Tryz.underlying9 ?_;refine S3 ?_
  rw[show(119-(s.size:Int) % 64) % 64=((((119-s.size % 64) % 64):Nat):Int)by omega]
  refine S5 ?_
  refine QI (k:=8) (zr:=u8R 0) rfl rfl rfl rfl F.elem202 F.zero5 rfl rfl rfl jM jM rfl ?_;intro O y C
  refine S12 ?_;refine VG [18,17,5,4,3,2,0] ?_;refine XV (Hin:=y) (.succ .zero) jA (fun(i:Nat) R h1 z=>R=M∧z=[(18,.int .i64 (i:Int))]∧i≤8∧OSl 5 1 (.slice (some ⟨O,0,none⟩) 8 8) h1 ((CG (8 * s.size) (i)).map u8R)) (fun i=>8-i) (0) (⟨rfl,rfl,by omega,C⟩) ?_
  rintro i R h1 z T ⟨B,rfl,hi,L⟩
  subst B
  refine S6 ?_
  refine Xb (cT fun K=>?_) (cF fun K=>?_)
  ·refine S14 ?_
   rw[show(7:Int)-(i:Int)=((7-i:Nat):Int)by omega]
   refine Stp ?_;refine Rz Tryz.underlying9 ?_;refine Stp ?_
   rw[show(8:Int) * (s.size:Int)=((8 * s.size:Nat):Int)by omega]
   refine S3 ?_
   rw[show(8:Int) * (i:Int)=((8 * i:Nat):Int)by omega]
   refine VK rfl rfl rfl rfl jD (Uw (8 * i) (by show 8 * i≤64;omega)) rfl rfl ?_;refine Stp ?_
   rw[Zua]
   refine Stp ?_
   refine Tw (b:=O) (j:=7-i) rfl rfl rfl rfl jG (Yi rfl YS) F.lay5 rfl rfl L jA (by rw[A8,Ev _ _ hi];omega) ?_;intro g d
   replace d:OSl 5 1 (.slice (some ⟨O,0,none⟩) 8 8) g ((CG (8 * s.size) (i+1)).map u8R):=by rw[← Zfo jD,List.map_set];exact d.aZ (by simp[Ev _ _ hi])
   refine S7 ?_;refine YO (a':=[(18,_)]) (i+1) (g) (.cons (k:=18) rfl (.cons (k:=17) rfl (.cons (k:=5) rfl (.cons (k:=4) rfl (.cons (k:=3) rfl (.cons (k:=2) rfl (.cons (k:=0) rfl (.nil)))))))) jO (fun w hw=>by first|exact hw|exact hw.c) ?_ ?_
   ·exact⟨rfl,rfl,by omega,d⟩
   omega
  refine S6 ?_
  refine Ya (l:=[0,1,2,3,4,5,6,7,8,9]) #[0,1,0,4,15,0,32,127,255,511] _ rfl jI jI St.drawn (fun _ h=>h) ?_
  obtain rfl:i=8:=by omega
  rw[Zfp]at L
  refine Stp ?_;refine Zdy rfl rfl rfl rfl (by show s.size+1≤_;omega) rfl rfl ?_;refine Stp ?_;refine Vn (Zvh _ ⟨#[0]⟩ ((119-s.size % 64) % 64) U jD (by show 1 * _≤_;omega)) ?_
  rintro _ rfl
  refine Zdy rfl rfl rfl rfl (by rw[Ag,ByteArray.size_append];show s.size+1+_≤_;omega) rfl rfl ?_;refine Stp ?_;refine Zld (l:=Cs (8 * s.size)) rfl rfl rfl (OSl.srcAll L jA (fun u hu=>by rw[Qv]at hu;obtain⟨z,-,rfl⟩:=C0.1 hu;rfl)) F.elem202 Tryz.underlying5 Tryz.underlying9 rfl rfl ?_;refine Zdy rfl rfl rfl rfl (by(rw[ByteArray.size_append,Ag,ByteArray.size_append,strOfNums_size,A8];show s.size+1+_+8≤_;omega)) rfl rfl ?_;refine S5 ?_;refine ZH fun w hw=>?_
  exact⟨_,rfl,hw.c,_,rfl,Zwl s⟩
end Go.Proofs.YtglnjnacodgmaaaGreatDoor.K
namespace Go.Esp
def PK(h:St5):Plc:=BitVec.ofNat 160 ((((h.a * 4294967296+h.b) * 4294967296+h.c) * 4294967296+h.d) * 4294967296+h.e)
def Zyv(B:List Nat):Plc:=PK (Oq (B.length / 64+2) (Zqx B) KG)
theorem Zmv{h:St5}(g:h.ok){i:Nat}(hi:i<20):idB (PK h) i=h.nth (i / 4) / 2 ^ (24-8 * (i % 4)) % 256:=by
  obtain⟨a,b,c,d,e⟩:=h
  obtain⟨h1,h2,h3,v,j⟩:=g
  simp only at h1 h2 h3 v j
  have y:(PK ⟨a,b,c,d,e⟩).toNat=(((a * 4294967296+b) * 4294967296+c) * 4294967296+d) * 4294967296+e:=by
    unfold PK
    rw[H4]
    exact E3 (by show(((a * 4294967296+b) * 4294967296+c) * 4294967296+d) * 4294967296+e<2 ^ 160;omega)
  unfold idB
  match i,hi with
  | 0,_=>show _ / 256 ^ 19 % 256=a / 2 ^ 24 % 256;omega
  | 1,_=>show _ / 256 ^ 18 % 256=a / 2 ^ 16 % 256;omega
  | 2,_=>show _ / 256 ^ 17 % 256=a / 2 ^ 8 % 256;omega
  | 3,_=>show _ / 256 ^ 16 % 256=a / 2 ^ 0 % 256;omega
  | 4,_=>show _ / 256 ^ 15 % 256=b / 2 ^ 24 % 256;omega
  | 5,_=>show _ / 256 ^ 14 % 256=b / 2 ^ 16 % 256;omega
  | 6,_=>show _ / 256 ^ 13 % 256=b / 2 ^ 8 % 256;omega
  | 7,_=>show _ / 256 ^ 12 % 256=b / 2 ^ 0 % 256;omega
  | 8,_=>show _ / 256 ^ 11 % 256=c / 2 ^ 24 % 256;omega
  | 9,_=>show _ / 256 ^ 10 % 256=c / 2 ^ 16 % 256;omega
  | 10,_=>show _ / 256 ^ 9 % 256=c / 2 ^ 8 % 256;omega
  | 11,_=>show _ / 256 ^ 8 % 256=c / 2 ^ 0 % 256;omega
  | 12,_=>show _ / 256 ^ 7 % 256=d / 2 ^ 24 % 256;omega
  | 13,_=>show _ / 256 ^ 6 % 256=d / 2 ^ 16 % 256;omega
  | 14,_=>show _ / 256 ^ 5 % 256=d / 2 ^ 8 % 256;omega
  | 15,_=>show _ / 256 ^ 4 % 256=d / 2 ^ 0 % 256;omega
  | 16,_=>show _ / 256 ^ 3 % 256=e / 2 ^ 24 % 256;omega
  | 17,_=>show _ / 256 ^ 2 % 256=e / 2 ^ 16 % 256;omega
  | 18,_=>show _ / 256 ^ 1 % 256=e / 2 ^ 8 % 256;omega
  | 19,_=>show _ / 256 ^ 0 % 256=e / 2 ^ 0 % 256;omega
  | n+20,h=>omega
theorem Zuc{h:St5}(d:h.ok){i:Nat}(hi:i<20):w8 (((h.nth (i / 4):Nat):Int) / 2 ^ (24-8 * (i % 4)))=((idB (PK h) i:Nat):Int):=by
  rw[Zmv d hi]
  rfl
theorem Bv(n:Nat)(h:St5):Oq n [] h=h:=by cases n <;> rfl
theorem DL{n:Nat}{l:List Nat}{h:St5}(d:l≠[]):Oq (n+1) l h=Oq n (l.drop 64) (Cv h (l.take 64)):=by
  cases l with
  | nil=>exact absurd rfl d
  | cons x l=>rfl
theorem An(B:List Nat):(Zqx B).length=B.length+9+(119-B.length % 64) % 64:=by
  unfold Zqx;simp;omega
theorem CL(B:List Nat):∃ m,(Zqx B).length=64 * m∧m≤B.length / 64+2:=⟨(Zqx B).length / 64,by rw[An];omega,by rw[An];omega⟩
theorem OF(p:ByteArray)(i j:Nat):XR (p.extract i j)=((XR p).drop i).take (j-i):=by
  unfold XR
  simp
end Go.Esp
namespace Go.Proofs.YtglnjnacodgmaaaGreatDoor.K
open Go.Esp
theorem Zyd(M:Mem)(s:ByteArray)(hs:s.size≤4096)(hM:M.dr=0):Esp.Fn Tryz.prog 52 [.string s] M (fun M' v=>v=.tuple #[WX [ZU (Zyv (XR s))],.int .i64 0]):=by
  refine WE Tryz.func52 rfl Tryz.ntmps52 rfl ?_;intro H
  refine S3 ?_
  intro b1
  refine S6 ?_;refine Vn (Zyf _ s hs hM) ?_
  rintro _ ⟨p,rfl,hp⟩
  obtain⟨m,R,ab⟩:=CL (XR s)
  have ae:p.size=64 * m:=by rw[← VB,hp,R]
  obtain⟨f,hf⟩:∃ f,f=(XR s).length / 64+2:=⟨_,rfl⟩
  obtain⟨y,Z⟩:∃ y,Oq (f-0) (XR p) KG=y:=⟨_,rfl⟩
  refine S7 ?_;refine VG [5,4,3,2] ?_;refine S7 ?_;refine VG [15,5,4,3,2] ?_
  refine Xb (eT fun d=>?_) (eF fun d=>?_)
  ·simp only[Zr.eta,ZK.eta,ZM.eta,ZI.eta,YD.eta,YQ.eta,XM.eta,YT.eta,ZW.eta,XF.eta,Yk.eta]at d
   (exfalso;simp[eqX]at d;done)
  simp only[Zr.eta,ZK.eta,ZM.eta,ZI.eta,YD.eta,YQ.eta,XM.eta,YT.eta,ZW.eta,XF.eta,Yk.eta]at d
  refine S2 ?_;refine VG [4,3,2] ?_;refine S2 ?_;refine Vn (Zqc _) ?_
  rintro _ rfl
  refine Stp ?_;intro L
  refine UE rfl rfl rfl rfl jG (by exact Iu _) jH F.lay154 rfl rfl ?_;refine S2 ?_;refine VG [6,4,3,2] ?_;refine S2 ?_;refine VG [4,6,3,2] ?_;refine XV (Hin:=[(L,Yp [RG (KG)] 154)]) (.succ .zero) jA (fun(k:Nat) M2 h1 z=>∃(q:ByteArray) (g:St5),z=[(4,.string q)]∧k≤m∧q.size=64 * (m-k)∧g.ok∧Oq (f-k) (XR q) g=y∧h1=[(L,Yp [RG (g)] 154)]) (fun k=>m-k) (0) (⟨p,KG,rfl,by omega,by omega,Zff,Z,rfl⟩) ?_
  rintro k M2 h1 z D ⟨q,g,rfl,hk,hq,hg,hb,rfl⟩
  refine S4 ?_;refine Zxr ?_;refine S2 ?_
  refine Xb (eT fun O=>?_) (eF fun O=>?_)
  ·refine S4 ?_
   refine Ya (l:=[0,1,2,3,4,5,6,7]) #[0,0,2,7,15,31,31,63] _ rfl jI jI St.drawn (fun _ h=>h) ?_
   have ad:q.size≠0:=fun h9=>absurd (show q=⟨#[]⟩from ByteArray.ext (Array.eq_empty_of_size_eq_zero h9)) (by simp_all)
   refine S2 ?_;refine PF (olo:=none) (ohi:=some 64) rfl rfl rfl .none (.some rfl rfl) Tryz.underlying9 (by show 64≤q.size;omega) (C3 _) (show _=q.extract 0 64 from rfl) rfl ?_;refine PH (Zvd _ g (q.extract 0 64) hg (by rw[← VB,OF];simp[VB];omega)) ?_
   rintro _ M4 j rfl
   refine S3 ?_;refine UE rfl rfl rfl rfl jG (by exact Iu _) jH F.lay154 rfl rfl ?_;refine S3 ?_;refine VG [28,23,27,26,25,24,20,19,4,6,3,2] ?_;refine S2 ?_;refine PF (olo:=some 64) (ohi:=none) rfl rfl rfl (.some rfl rfl) .none Tryz.underlying9 (B9 _) (by show 64≤q.size;omega) (show _=q.extract 64 q.size from rfl) rfl ?_;refine S2 ?_;refine YO (a':=[(4,_)]) (k+1) ([(L,Yp [RG (Cv g (XR (q.extract 0 64)))] 154)]) (.cons (k:=4) rfl (.cons (k:=6) rfl (.cons (k:=3) rfl (.cons (k:=2) rfl (.nil))))) (D.trans j) (fun w hw=>by first|exact hw|exact hw.c) ?_ ?_
   ·refine⟨q.extract 64 q.size,Cv g (XR (q.extract 0 64)),rfl,by omega,by rw[← VB,OF];simp[VB];omega,Zmt,?_,rfl⟩
    rw[← hb,show f-k=(f-(k+1))+1 by omega,DL (by intro h9;have:=VB q;rw[h9]at this;simp at this;omega),OF,OF]
    congr 1
    exact H5 (by simp[VB])
   omega
  refine S5 ?_
  refine VG [6,3,2] ?_;refine S3 ?_
  intro K
  refine S9 ?_;refine VG [30,7,6,3,2] ?_;refine XV (Hin:=[(K,Yp [ZU 0] 36)]) (.succ .zero) jA (fun(i:Nat) U h1 z=>U=M2∧z=[(30,.int .i64 (i:Int))]∧i≤20∧h1=[(K,Yp [.arr 20 (LI (PK g) 0 i)] 36)]) (fun i=>20-i) (0) (⟨rfl,rfl,by omega,by rw[Bj];rfl⟩) ?_
  rintro i U h1 z aa ⟨C,rfl,hi,rfl⟩
  subst C
  refine S6 ?_
  refine Xb (cT fun V=>?_) (cF fun V=>?_)
  ·refine S14 ?_
   rw[show(i:Int) / 4=((i / 4:Nat):Int)by omega]
   refine Stp ?_;refine Qp rfl rfl rfl jB F.lay152 (Zfh _ jD) rfl ?_;refine Stp ?_;refine Zxt rfl rfl rfl rfl jM (by exact Zqu jD) rfl ?_
   rw[show(i:Int) % 4=((i % 4:Nat):Int)by omega]
   iterate 2 refine DZ rfl rfl rfl rfl rfl yN rfl ?_
   rw[show(24:Int)-8 * ((i % 4:Nat):Int)=((24-8 * (i % 4):Nat):Int)by omega]
   refine VK rfl rfl rfl rfl jD (Uw (24-8 * (i % 4)) (by show _≤32;omega)) rfl rfl ?_;refine S2 ?_;refine QH rfl rfl rfl rfl rfl rfl jH F.lay5 (GJ jD) (GI jD) ?_
   rw[Bi (PK g) 0 (k:=i) jD (Zuc hg jD)]
   refine S7 ?_;refine YO (a':=[(30,_)]) (i+1) ([(K,Yp [.arr 20 (LI (PK g) 0 (i+1))] 36)]) (.cons (k:=30) rfl (.cons (k:=7) rfl (.cons (k:=6) rfl (.cons (k:=3) rfl (.cons (k:=2) rfl (.nil)))))) jO (fun w hw=>by first|exact hw|exact hw.c) ?_ ?_
   ·exact⟨rfl,rfl,by omega,rfl⟩
   omega
  refine S7 ?_
  obtain rfl:i=20:=by omega
  rw[Zcx]
  rw[show(Seg.arr 20 (idV (PK g)))=ZU (PK g)from rfl]
  refine S6 ?_;refine ZH fun w hw=>?_
  have B:q=⟨#[]⟩:=by simp_all
  refine⟨_,U,rfl,jE,hw.c,?_⟩
  have T:PK g=Zyv (XR s):=by
   unfold Zyv;rw[← hf,← hp,show f=f-0 by omega,Z,← hb,B]
   show _=PK (Oq _ [] g)
   rw[Bv]
  rw[← T]
  rfl
end Go.Proofs.YtglnjnacodgmaaaGreatDoor.K
namespace Go.Proofs.YtglnjnacodgmaaaGreatDoor.K
open Go.Esp
theorem F.ok54:Ta Tryz.prog 54=true:=by kernel_rfl
def lessF(a b:Zr):Int:=if a=b then 0 else if WY a.id b.id then -1 else 1
theorem Ztd(M:Mem)(a:Zr)(b:Zr):Fs Tryz.prog 54 [a.enc,b.enc] M (fun v=>v=Value.int .i64 (lessF a b)):=by
  obtain⟨g,K⟩:=a
  obtain⟨j,D⟩:=b
  refine Xa Tryz.func54 rfl Tryz.ntmps54 rfl ?_;intro H
  refine S3 ?_
  intro O
  refine Stp ?_;intro R
  refine S9 ?_
  refine VW (m:=20) rfl rfl rfl rfl rfl jG jG F.lay38 F.kinds38 rfl F.guard38 jR jR rfl rfl rfl ?_;intro L d
  replace d:L=true↔Segs.cells _=Segs.cells _:=d
  obtain rfl:=eqD d (Zr.inj (x:=⟨_,_⟩) (y:=⟨_,_⟩));clear d
  refine S3 ?_
  refine Xb (cT fun B=>?_) (cF fun B=>?_)
  ·refine S8 ?_
   refine ZH fun w hw=>?_
   refine⟨_,rfl,(hw.c),?_⟩
   refine A9 (Value.int .i64) ?_
   unfold lessF
   simp_all
  refine S6 ?_
  refine Vn (Ox _ _ _) ?_
  rintro _ rfl
  refine S3 ?_
  refine Xb (cT fun C=>?_) (cF fun C=>?_)
  ·refine S8 ?_
   refine ZH fun w hw=>?_
   refine⟨_,rfl,(hw.c),?_⟩
   refine A9 (Value.int .i64) ?_
   unfold lessF
   simp_all
  refine S9 ?_
  refine ZH fun w hw=>?_
  refine⟨_,rfl,(hw.c),?_⟩
  refine A9 (Value.int .i64) ?_
  unfold lessF
  simp_all
theorem Znx:Sort.SWO (ltOf lessF):=by
  have e:∀ x y:Zr,ltOf lessF x y=decide (WY x.id y.id):=by
   intro x y;unfold ltOf lessF
   by_cases h0:x=y
   ·subst h0;simp[WY]
   by_cases h:WY x.id y.id <;> simp[h,h0]
  exact⟨fun x=>by rw[e];simp[WY],fun x y z h1 h2=>by rw[e]at h1 h2 ⊢;exact decide_eq_true (Nat.lt_trans (of_decide_eq_true h1) (of_decide_eq_true h2)),fun x y z h1 h2=>by rw[e]at h1 h2 ⊢;exact decide_eq_false (Nat.not_lt.2 (H7 (Nat.not_lt.1 (of_decide_eq_false h2)) (Nat.not_lt.1 (of_decide_eq_false h1))))⟩
instance:Inhabited Zr:=⟨⟨0,0⟩⟩
theorem Zqf(M:Mem)(b c:Nat)(l:List Zr)(hs:Hp)(j:OSl 38 21 (.slice (some ⟨b,0,none⟩) l.length c) hs (l.map Zr.segs))(B:l.length≤1000000):Fh Tryz.prog 46 [.slice (some ⟨b,0,none⟩) l.length c,.func (.func 54) #[] #[]] M hs (fun M' v d=>M'=M∧v=.tuple #[]∧∃ g:List Zr,g.Perm l∧g.Pairwise (fun x y=>¬lessF y x<0)∧OSl 38 21 (.slice (some ⟨b,0,none⟩) l.length c) d (g.map Zr.segs)) :=
  Zfi (f:=Zr.segs) (sz:=21) Tryz.sortL Tryz.isAgg38 Tryz.sizeOf38 jM (fun x=>(Segs.cells_length _).trans (Zr.len x)) (fun x=>Zr.flat x) lessF Znx 54 F.ok54 (fun M x y=>Ztd M x y) j B M
end Go.Proofs.YtglnjnacodgmaaaGreatDoor.K
namespace Go.Proofs.YtglnjnacodgmaaaGreatDoor.K
open Go.Esp
theorem F.ok51:Ta Tryz.prog 51=true:=by kernel_rfl
def OddA(z:Int):Prop:=z<0∨999<z
instance (z:Int):Decidable (OddA z):=by unfold OddA;exact inferInstance
theorem Ar(M:Mem)(addr:Int):Fs Tryz.prog 51 [.int .i64 addr] M (fun v=>v=Value.bool (decide (OddA addr))):=by
  refine Xa Tryz.func51 rfl Tryz.ntmps51 rfl ?_;intro H
  refine S10 ?_
  refine YE 5 (cT fun d=>?_) (cF fun d=>?_)
  ·refine S7 ?_
   refine ZH fun w hw=>?_
   refine⟨_,rfl,(hw.c),?_⟩
   refine A9 Value.bool ?_
   exact(decide_eq_true (by unfold OddA;omega)).symm
  refine S7 ?_
  refine ZH fun w hw=>?_
  refine⟨_,rfl,(hw.c),?_⟩
  refine A9 Value.bool ?_
  exact decide_eq_decide.2 (by unfold OddA;omega)
theorem BL(M:Mem)(l:(Sl Int)) (K:SlK M (WC .i64) 1 l):Fs Tryz.prog 82 [Sl.val l,.func (.func 51) #[] #[]] M (fun v=>∃ z:Int,v=.int .i64 z∧(0≤z↔∃ a∈l.l,OddA a)):=by
  obtain⟨B,y,d⟩:=l
  have g:SlK M (WC .i64) 1 ⟨B,y,d⟩:=K
  have O:SlM M B (d.map (WC .i64)) 1:=g.h1
  have R:(d.map (WC .i64)).length=d.length:=A8 ..
  have U:d.length≤9223372036854775807:=g.h2
  have V:d.length≤y:=g.h3
  refine Xa Tryz.func82 rfl Tryz.ntmps82 rfl ?_;intro H
  refine S14 ?_;refine VG [8,7,4,0,1] ?_;refine Un (.succ .zero) (fun(k:Nat) z=>z=[(8,.int .i64 (k:Int))]∧k≤d.length∧(∀ j (hj:j<d.length),j<k→¬OddA d[j])) (fun k=>d.length-k) (0) (⟨rfl,by omega,by(intro j h2 hj;omega)⟩) ?_
  rintro k _ ⟨rfl,hk,L⟩
  refine S6 ?_
  refine Xb (cT fun C=>?_) (cF fun C=>?_)
  ·refine S17 ?_
   refine PP rfl rfl rfl F.ok51 rfl rfl (Ar M _) rfl ?_
   rintro _ rfl
   refine S2 ?_
   refine Xb (cT fun D=>?_) (cF fun D=>?_)
   ·refine S12 ?_
    refine ZH fun w hw=>?_
    refine⟨_,rfl,hw.c,_,rfl,?_⟩
    show _↔∃ a∈d,OddA a
    exact⟨fun _=>⟨d[k]'jD,C1 jD,by first|assumption|simp_all⟩,fun _=>by omega⟩
   refine S7 ?_
   refine VX (a':=[(8,_)]) (k+1) (.cons (k:=8) rfl (.cons (k:=7) rfl (.cons (k:=4) rfl (.cons (k:=0) rfl (.cons (k:=1) rfl (.nil)))))) (fun w hw=>by first|exact hw|exact hw.c) ?_ ?_
   ·refine⟨rfl,by omega,?_⟩
    (intro j h2 hj;rcases C7 j k with h9|h9;exact L j h2 h9;obtain rfl:j=k:=jD;simp_all)
   omega
  refine S11 ?_
  refine ZH fun w hw=>?_
  refine⟨_,rfl,hw.c,_,rfl,?_⟩
  show _↔∃ a∈d,OddA a
  exact⟨fun h9=>by omega,fun⟨Z,T,h9⟩=>by obtain⟨j,hj,rfl⟩:=E2 T;exact absurd h9 (L j (show j<d.length from hj) (by have:j<d.length:=hj;omega))⟩
theorem Ii(M:Mem)(l:(Sl Int)) (B:SlK M (WC .i64) 1 l):Fs Tryz.prog 42 [Sl.val l,.func (.func 51) #[] #[]] M (fun v=>v=.bool (decide (∃ a∈l.l,OddA a))):=by
  obtain⟨j,d,g⟩:=l
  have C:SlK M (WC .i64) 1 ⟨j,d,g⟩:=B
  refine Xa Tryz.func42 rfl Tryz.ntmps42 rfl ?_;intro H
  refine S9 ?_;refine Vn (BL _ ⟨j,d,g⟩ C) ?_
  rintro _ ⟨z9,rfl,y⟩
  refine S5 ?_;refine ZH fun w hw=>?_
  exact⟨_,rfl,hw.c,A9 Value.bool (decide_eq_decide.2 y)⟩
end Go.Proofs.YtglnjnacodgmaaaGreatDoor.K
namespace Go.Proofs.YtglnjnacodgmaaaGreatDoor.K
open Go.Esp
def Zxj(a:Int):ByteArray:=⟨(Lib.decDigits a.toNat).toArray⟩
def Zns:ByteArray:=⟨#[110,111,100,101]⟩
def peerN(a:Int):Zr:=⟨a,Zyv (XR (Zns++Zxj a))⟩
theorem Zty{u:Nat}(h:u<1000):(Lib.decDigits u).length≤3:=by
  rw[Lib.decDigits];split
  ·simp
  rw[Lib.decDigits];split
  ·simp
  rw[Lib.decDigits];split
  ·simp
  omega
theorem DC{a:Int}(h:¬OddA a):(Zns++Zxj a).size≤7:=by
  unfold OddA at h
  have h9:(Zxj a).size≤3:=by
   show(Lib.decDigits a.toNat).toArray.size≤3
   rw[J2];exact Zty jD
  rw[ByteArray.size_append];show 4+_≤7;omega
def Digs(M0:Mem)(l:List Int):Prop:=∀(M:Mem),M0.le M→∀(a:Int),a∈l→¬OddA a→Fs Tryz.prog 53 [.int .i64 a] M (fun v=>v=.string (Zxj a))
theorem Digs.mono{g d:Mem}{l:List Int}(h:Digs g l)(hm:g.le d):Digs d l:=fun M j=>h M (hm.trans j)
def OfR(M:Mem)(l:List Int)(v:Value):Prop:=∃(s:Sl Zr) (c:Int),v=.tuple #[s.val,.int .i64 c]∧SlK M Zr.segs 21 s ∧
  (if l.length<1∨16<l.length then s.l=[]∧c=2 else if ∃ a∈l,OddA a then s.l=[]∧c=1 else∃ l':List Zr,l'.Perm (l.map peerN)∧l'.Pairwise (fun x y=>¬lessF y x<0)∧if Xk l' then s.l=l'∧c=0 else s.l=[]∧c=9)
theorem Of_ok(M:Mem)(l:(Sl Int))(au:SlK M (WC .i64) 1 l)(hM:M.dr=0)(hI:Digs M l.l):Esp.Fn Tryz.prog 24 [Sl.val l] M (fun M' v=>OfR M' l.l v):=by
  obtain⟨O,V,d⟩:=l
  have ae:SlK M (WC .i64) 1 ⟨O,V,d⟩:=au
  have az:SlM M O (d.map (WC .i64)) 1:=ae.h1
  replace hI:Digs M d:=hI
  refine WE Tryz.func24 rfl Tryz.ntmps24 rfl ?_;intro H
  refine S13 ?_
  refine YE 13 (cT fun ak=>?_) (cF fun ak=>?_)
  ·refine S15 ?_
   refine ZH fun w hw=>?_
   refine⟨_,M,rfl,Mem.le.refl M,hw.c,?_⟩
   show OfR _ d _
   refine⟨⟨none,0,[]⟩,_,rfl,SlK.nil,?_⟩
   rw[A6 jD]
   exact⟨rfl,rfl⟩
  refine S6 ?_
  refine Xb (cT fun al=>?_) (cF fun al=>?_)
  ·refine S8 ?_
   refine ZH fun w hw=>?_
   refine⟨_,M,rfl,Mem.le.refl M,hw.c,?_⟩
   show OfR _ d _
   refine⟨⟨none,0,[]⟩,_,rfl,SlK.nil,?_⟩
   rw[A6 jD]
   exact⟨rfl,rfl⟩
  refine S12 ?_
  refine Vn (Ii _ ⟨O,V,d⟩ ae) ?_
  rintro _ rfl
  refine S2 ?_
  refine Xb (cT fun aw=>?_) (cF fun aw=>?_)
  ·refine S8 ?_
   refine ZH fun w hw=>?_
   refine⟨_,M,rfl,Mem.le.refl M,hw.c,?_⟩
   show OfR _ d _
   refine⟨⟨none,0,[]⟩,_,rfl,SlK.nil,?_⟩
   rw[A4 jD,A6 jE]
   exact⟨rfl,rfl⟩
  refine S4 ?_
  have g:¬∃ a∈d,OddA a:=by assumption
  refine S12 ?_;refine VG [23,5,22,21,3,2] ?_;refine XV (Hin:=[]) (.succ (.succ .zero)) jA (fun(k:Nat) M1 h1 z=>∃ v,z=[(23,.int .i64 (k:Int)),(5,v)]∧k≤d.length∧OSl 38 21 v h1 (((d.take k).map peerN).map Zr.segs)) (fun k=>d.length-k) (0) (⟨_,rfl,by omega,OSl.nil⟩) ?_
  rintro k M1 h1 z j ⟨v0,rfl,hk,L⟩
  obtain⟨aa,U,rfl⟩:=L.val
  have aq:(((d.take k).map peerN).map Zr.segs).length=k:=by simp;omega
  rw[aq]at L ⊢
  refine S6 ?_
  refine Xb (cT fun ao=>?_) (cF fun ao=>?_)
  ·refine S14 ?_
   refine Vn (hI _ j d[k] (C1 jD) (fun h9=>g ⟨_,C1 jD,h9⟩)) ?_
   rintro _ rfl
   refine Zdy (a:=Zns) rfl rfl rfl rfl (by have:=DC (show¬OddA d[k]from fun h9=>g ⟨_,C1 jD,h9⟩);rw[ByteArray.size_append]at this;omega) rfl rfl ?_;refine PH (Zyd _ (Zns++Zxj d[k]) (H7 (DC (fun h9=>g ⟨_,C1 jD,h9⟩)) jM) (j.loose hM)) ?_
   rintro _ M2 an rfl
   refine S4 ?_
   intro b5
   refine S11 ?_
   refine Xb (eT fun ag=>?_) (eF fun ag=>?_)
   ·(exfalso;simp[eqX]at ag;done)
   refine S6 ?_
   refine XN rfl rfl F.bld38 (.cons rfl jG (.cons rfl jG .nil)) rfl rfl ?_
   refine YK rfl rfl F.elem39 F.zero38 rfl rfl (.cons rfl jG .nil) rfl rfl jK rfl ?_;intro b7 R
   refine Vc (m:=1000000) rfl rfl rfl rfl rfl F.elem39 F.zero38 zI rfl jE jA (Src.own R.lens jN rfl jB) jX jM rfl ?_;intro v11 ab C;obtain⟨ah,aj,rfl⟩:=C.val
   refine S8 ?_;refine YO (a':=[(23,_),(5,_)]) (k+1) (ab) (.cons (k:=23) rfl (.cons (k:=5) rfl (.cons (k:=22) rfl (.cons (k:=21) rfl (.cons (k:=3) rfl (.cons (k:=2) rfl (.nil))))))) (j.trans an) (fun w hw=>by first|exact hw|exact hw.c) ?_ ?_
   ·refine⟨_,rfl,by omega,?_⟩
    rw[List.take_succ_eq_append_getElem jD,C6,C6]
    exact C
   omega
  refine S6 ?_
  obtain rfl:k=d.length:=by omega
  rw[G0]at L
  obtain⟨pl,y⟩:∃ pl,pl=d.map peerN:=⟨_,rfl⟩
  have B:d.length=pl.length:=by rw[y,A8]
  rw[B]
  rw[B,← y]at L
  obtain⟨b9,rfl⟩:∃ b,aa=some ⟨b,0,none⟩:=by
   cases aa with
   |none =>
    have h9:=L.noneAll.1
    rw[h9]at B
    exact absurd B (by show d.length≠0;omega)
   |some ad=>obtain⟨b,rfl⟩:=L.someAll;exact⟨b,rfl⟩
  refine Xv (l:=[0,1]) (Hin:=h1) jA rfl ?_;refine Stp ?_;refine We (Zqf _ b9 U pl h1 L jD) ?_
  rintro _ M3 a1 ax ⟨ay,rfl,l9,K,D,C⟩;subst M3
  refine S4 ?_
  have ar:=K.length_eq
  rw[← ar]
  refine Pn C jA (fun M4 T ai=>?_)
  refine S2 ?_;refine Vn (Circ_ok _ ⟨_,_,_⟩ jE) ?_
  rintro _ rfl
  refine S3 ?_
  refine Xb (eT fun Z=>?_) (eF fun Z=>?_)
  ·refine S8 ?_
   refine ZH fun w hw=>?_
   refine⟨_,M4,rfl,j.trans T,hw.c,?_⟩
   show OfR _ d _
   refine⟨⟨none,0,[]⟩,_,rfl,SlK.nil,?_⟩
   rw[A4 jD,A4 g]
   refine⟨l9,by rw[← y];exact K,D,?_⟩
   rw[A4 jE]
   exact⟨rfl,rfl⟩
  refine S10 ?_
  refine ZH fun w hw=>?_
  refine⟨_,M4,rfl,j.trans T,hw.c,?_⟩
  show OfR _ d _
  refine⟨⟨_,U,l9⟩,_,rfl,ai,?_⟩
  rw[A4 jD,A4 g]
  refine⟨l9,by rw[← y];exact K,D,?_⟩
  rw[A6 jE]
  exact⟨rfl,rfl⟩
end Go.Proofs.YtglnjnacodgmaaaGreatDoor.K
namespace Go.Esp
def Ztj(p:Zr):List Zr→List Zr
  | []=>[p]
  | q::l=>if WY q.id p.id then q::Ztj p l else p::q::l
def Cz(l:List Zr):List Zr:=l.foldr Ztj []
theorem Jo(p:Zr):∀ l:List Zr,(Ztj p l).Perm (p::l)
  | []=>I9 _
  | q::l=>by
    unfold Ztj
    split
    · exact((Jo p l).cons q).trans (List.Perm.swap p q l)
    · exact I9 _
theorem RP:∀ l:List Zr,(Cz l).Perm l
  | []=>I9 _
  | p::l=>(Jo p (Cz l)).trans ((RP l).cons p)
theorem Jn{p:Zr}:∀{l:List Zr},l.Pairwise (fun x y=>¬WY y.id x.id)→(Ztj p l).Pairwise (fun x y=>¬WY y.id x.id)
  | [],_=>by simp[Ztj]
  | q::l,h=>by
    have h2:=D6.1 h
    unfold Ztj
    split
    · rename_i e
      refine D6.2 ⟨fun y d=>?_,Jn h2.2⟩
      rcases B7.1 ((Jo p l).mem_iff.1 d)with rfl|d
      · unfold WY at *;omega
      · exact h2.1 y d
    · rename_i e
      refine D6.2 ⟨fun y d=>?_,h⟩
      rcases B7.1 d with rfl|d
      · exact e
      · have:=h2.1 y d
        unfold WY at *;omega
theorem PX:∀ l:List Zr,(Cz l).Pairwise (fun x y=>¬WY y.id x.id)
  | []=>J8
  | p::l=>Jn (PX l)
theorem GC{l d:List Zr}(v:l.Perm d)(h:Uv l)(g:d.Pairwise (fun x y=>¬WY y.id x.id)):d=l:=by
  have key:∀ a∈l,∀ b∈l,¬WY a.id b.id→¬WY b.id a.id→a=b:=by
    intro a ha b hb h1 h2
    obtain⟨i,hi,rfl⟩:=E2 ha
    obtain⟨j,hj,rfl⟩:=E2 hb
    rcases Nat.lt_trichotomy i j with h9|h9|h9
    · exact absurd (E1.1 h.2.2 i j hi hj h9) h1
    · subst h9;rfl
    · exact absurd (E1.1 h.2.2 j i hj hi h9) h2
  refine List.Perm.eq_of_pairwise (le:=fun x y=>¬WY y.id x.id) ?_ g (h.2.2.imp fun h=>by unfold WY at *;omega) v.symm
  grind
theorem Zjx{l L:List Zr}(d:l.Perm L)(hs:l.Pairwise (fun x y=>¬WY y.id x.id)):Xk l↔Xk (Cz L):=by
  constructor
  · intro h
    rw[GC (d.trans (RP L).symm) h.2 (PX L)]
    exact h
  · intro h
    rw[GC ((RP L).trans d.symm) h.2 hs]
    exact h
def CU(n:Nd)(t:Tb):Bool:=n.joined && decide (n.table.pred=t.pred) && decide (n.table.succ=t.succ) && decide (n.table.fingers=t.fingers)
def SG(r:Rg)(t:Tb):Bool:=match YC t.self.addr r.nodes with
  | none=>false
  | some n=>CU n t
def Wr(pn:Int→Zr)(r:Rg):List Zr:=Cz ((XW r).map pn)
def XQ(pn:Int→Zr)(r:Rg):Bool:=decide (Xk (Wr pn r)) && (Nb (Wr pn r) r.copies.toNat).all (SG r)
theorem Zco{pn:Int→Zr}{r:Rg}(h:¬Xk (Wr pn r)):XQ pn r=false:=by
  unfold XQ;rw[decide_eq_false h];rfl
theorem Kk{pn:Int→Zr}{r:Rg}{l:List Zr}{k:Nat}(d:Wr pn r=l){t:Tb}(hk:(Nb l r.copies.toNat)[k]?=some t)(h:SG r t=false):XQ pn r=false:=by
  unfold XQ
  grind
theorem Dl{pn:Int→Zr}{r:Rg}{l:List Zr}(g:Wr pn r=l)(d:Xk l)(h:∀ j (hj:j<(Nb l r.copies.toNat).length),SG r (Nb l r.copies.toNat)[j]=true):XQ pn r=true:=by
  unfold XQ
  rw[g,decide_eq_true d,Bool.true_and,E7]
  intro t ht
  obtain⟨j,hj,rfl⟩:=E2 ht
  exact h j hj
theorem Ztc{r:Rg}{t:Tb}{n:Nd}(h:YC t.self.addr r.nodes=some n):SG r t=CU n t:=by unfold SG;rw[h]
theorem Ki{n:Nd}{t:Tb}:CU n t=true↔n.joined=true∧n.table.pred=t.pred∧n.table.succ=t.succ∧n.table.fingers=t.fingers:=by
  unfold CU
  grind
theorem Gc{n:Nd}{t:Tb}(h:¬(n.joined=true∧n.table.pred=t.pred∧n.table.succ=t.succ∧n.table.fingers=t.fingers)):CU n t=false:=by
  cases hb:CU n t with
  | false=>rfl
  | true=>exact absurd (Ki.1 hb) h
def VZ(pn:Int→Zr):Nat→Rg→Nat×Rg
  | 0,r=>(0,r)
  | n+1,r=>if XQ pn r=true then(0,r)else((VZ pn n (VI r)).1+1,(VZ pn n (VI r)).2)
theorem RIs.okD{M:Mem}{r:Rg}{l:JM ZM}(h:RIs M r l){a:Int}{x:ZM}(hx:(Wm l a).getD ZM.zero=x):ZM.ok M x:=by
  cases hg:Wm l a with
  | none=>rw[hg]at hx;rw[← hx];exact ZM.zero_ok M
  | some v=>rw[hg]at hx;rw[← hx];exact h.ok _ (Db hg)
theorem RIs.like{M:Mem}{r:Rg}{l:JM ZM}(h:RIs M r l){a:Int}{x:ZM}{t:Tb}(hx:(Wm l a).getD ZM.zero=x)(ha:t.self.addr=a):SG r t=CU x.nd t:=by
  subst ha
  cases hg:Wm l t.self.addr with
  | none =>
    rw[hg]at hx
    have h0:YC t.self.addr r.nodes=Option.none:=by rw[← h.get,hg];rfl
    unfold SG
    rw[h0,← hx]
    rfl
  | some v =>
    rw[hg]at hx
    have h0:YC t.self.addr r.nodes=Option.some v.nd:=by rw[← h.get,hg];rfl
    unfold SG
    rw[h0,← hx]
    rfl
def SetEq(pn:Int→Zr)(n k:Nat)(r r1:Rg):Prop:=VZ pn n r=(k+(VZ pn (n-k) r1).1,(VZ pn (n-k) r1).2)
theorem SetEq.start{pn:Int→Zr}{n:Nat}{r:Rg}:SetEq pn n 0 r r:=by
  unfold SetEq;rw[Nat.sub_zero,F2]
theorem SetEq.step{pn:Int→Zr}{n k:Nat}{r r1:Rg}(h:SetEq pn n k r r1)(hk:k<n)(hi:XQ pn r1=false):SetEq pn n (k+1) r (VI r1):=by
  unfold SetEq at *
  have e:VZ pn (n-(k+1)+1) r1=((VZ pn (n-(k+1)) (VI r1)).1+1,(VZ pn (n-(k+1)) (VI r1)).2):=by
    show(if XQ pn r1=true then(0,r1)else _)=_
    rw[A4 (by rw[hi];decide)]
  grind
theorem SetEq.ends{pn:Int→Zr}{n k:Nat}{r r1:Rg}(h:SetEq pn n k r r1)(he:¬k<n∨XQ pn r1=true):VZ pn n r=(k,r1):=by
  rw[h]
  have e:VZ pn (n-k) r1=(0,r1):=by
    cases hn:n-k with
    | zero=>rfl
    | succ m =>
      show(if XQ pn r1=true then(0,r1)else _)=_
      rw[A6 (he.resolve_left jD)]
  rw[e]
  rfl
theorem Mb{α:Type}{a:Int}{x:α}:∀{l:List (Int×α)},(l.map (·.1)).Pairwise (·<·)→(YC a l).isSome=true→(WM a x l).map (·.1)=l.map (·.1)
  | [],_,h=>by cases h
  | (c,y)::l,hr,h=>by
    have h2:=D6.1 hr
    unfold WM
    by_cases e:a<c
    · exfalso
      unfold YC at h
      rw[A4 (show¬c=a by omega),Ut.getA_low (fun q d=>by have:=h2.1 q.1 (G8 d);simp only at this;omega)]at h
      cases h
    · rw[A4 e]
      by_cases e1:c=a
      · rw[A6 e1];subst e1;rfl
      · rw[A4 e1,D3,D3]
        unfold YC at h
        rw[A4 e1]at h
        rw[Mb h2.2 h]
theorem ER(r:Rg)(frm:Int)(l:List Snd):XW (Tq r frm l)=XW r:=by unfold XW;rw[(MO r frm l).2.2]
theorem ES{r:Rg}(h:(XW r).Pairwise (·<·))(i:Int):XW (XL r i).1=XW r:=by
  by_cases hi:0≤i∧i<r.bag.length
  · obtain⟨k,rfl⟩:∃ k:Nat,i=k:=⟨i.toNat,by omega⟩
    have hk:k<r.bag.length:=by omega
    cases hg:YC (r.bag[k]).zto r.nodes with
    | none=>rw[Rx hk rfl hg];rfl
    | some n =>
      by_cases h0:(WI n (r.bag[k]).lt).2.2=0
      · rw[Rb hk rfl hg rfl rfl h0,ER]
        exact Mb h (by rw[hg];rfl)
      · rw[ND hk rfl hg h0];rfl
  · rw[Rw hi]
theorem Yqio:∀(n:Nat) {r:Rg},(XW r).Pairwise (·<·)→XW (Va n r)=XW r
  | 0,_,_=>rfl
  | n+1,r,h=>by
    unfold Va
    split
    · have h1:=ES h 0
      rw[Yqio n (by rw[h1];exact h),h1]
    · rfl
theorem Zhd{r:Rg}(h:(XW r).Pairwise (·<·))(a k:Int):XW (RF r a k).1=XW r:=by
  cases hg:YC a r.nodes with
  | none=>rw[QU hg]
  | some n =>
    by_cases h0:(Vf n k).2.2=0
    · rw[PU hg rfl rfl h0,ER]
      exact Mb h (by rw[hg];rfl)
    · rw[HG hg h0]
theorem Zca{r:Rg}(h:(XW r).Pairwise (·<·))(a k:Int):XW (UV a r k)=XW r:=by
  have h1:=Zhd h a k
  unfold UV
  rw[Yqio 10000 (by rw[h1];exact h),h1]
end Go.Esp
namespace Go.Proofs.YtglnjnacodgmaaaGreatDoor
open Go.Esp
theorem GA{M:Mem}(g:PowM M)(l:List Int):K.Digs M l:=by
  intro d j a _ v
  unfold K.OddA at v
  obtain⟨n,rfl⟩:∃ n:Nat,a=n:=⟨a.toNat,by omega⟩
  exact Zqn d (g.mono j) n jD
theorem Zgr{a:Int}:¬K.OddA a↔Yf a:=by unfold K.OddA Yf;omega
theorem of1{M:Mem}{a:Int}{v:Value}(ha:Yf a)(h:K.OfR M [a] v):∃ s:Sl Zr,v=.tuple #[s.val,.int .i64 0]∧SlK M Zr.segs 21 s∧s.l=[K.peerN a]:=by
  obtain⟨s,c,rfl,k,h⟩:=h
  rw[A4 jQ,A4 (by rintro⟨x,hx,g⟩;rw[B0.1 hx]at g;exact Zgr.2 ha g)]at h
  obtain⟨y,d,hs,h⟩:=h
  obtain rfl:y=[K.peerN a]:=List.perm_singleton.1 d
  have j:Xk [K.peerN a]:=⟨⟨by simp,by simp⟩,fun p d=>by rw[B0.1 d];exact ha,List.pairwise_singleton ..,List.pairwise_singleton ..⟩
  rw[A6 j]at h
  obtain⟨h1,rfl⟩:=h
  exact⟨s,rfl,k,h1⟩
theorem Zyg(M:Mem)(a:Option Addr)(c n:Nat)(l:List Int)(g:n=l.length)(hs:Hp)(B:OSl 3 1 (.slice a n c) hs (l.map (WC .i64)))(y:M.dr=0)(C:K.Digs M l):Fh Tryz.prog 24 [.slice a n c] M hs (fun M' v d=>d=[]∧K.OfR M' l v):=fun H w hw=>by
  subst g
  obtain⟨j,h1,h2,h3⟩:=B.frz hw
  exact(K.Of_ok j ⟨a,c,l⟩ h3 (h1.loose y) (C.mono h1) H w h2).mono fun e D ⟨v,M2,g1,g2,g3,g4⟩=>⟨v,M2,[],g1,h1.trans g2,g3,rfl,g4⟩
theorem Zgp{M:Mem}{r:Rg}{v:Value}(h:K.OfR M (XW r) v):∃(s:Sl Zr) (c:Int),v=.tuple #[s.val,.int .i64 c]∧SlK M Zr.segs 21 s∧((c=0∧Xk (Wr K.peerN r)∧s.l=Wr K.peerN r)∨(c≠0∧¬Xk (Wr K.peerN r))):=by
  obtain⟨s,c,rfl,k,h⟩:=h
  refine⟨s,c,rfl,k,?_⟩
  have j:=RP ((XW r).map K.peerN)
  split at h
  ·rename_i L
   refine .inr ⟨by omega,fun g=>?_⟩
   have h1:=g.1
   unfold Wr at h1
   rw[j.length_eq,A8]at h1
   omega
  split at h
  ·rename_i L B
   obtain⟨a,ha,B⟩:=B
   refine .inr ⟨by omega,fun g=>?_⟩
   have:=g.2.1 (K.peerN a) (j.mem_iff.2 (G8 ha))
   exact Zgr.2 this B
  obtain⟨O,F,hs,h⟩:=h
  have C:O.Pairwise (fun x y=>¬WY y.id x.id):=hs.imp fun {x y} h9 D=>h9 (by
   unfold K.lessF
   rw[A4 (fun e=>by subst e;exact Nat.lt_irrefl _ D),A6 D]
   decide)
  have d:=Zjx F C
  split at h
  ·rename_i g
   refine .inl ⟨h.2,d.1 g,?_⟩
   rw[h.1]
   exact(GC (F.trans j.symm) g.2 (PX _)).symm
  rename_i g
  exact .inr ⟨by omega,fun h9=>g (d.2 h9)⟩
theorem Zkh(M:Mem)(self:Zr)(y mb V:Nat)(r:Rg)(B:Nat):Fo Tryz.prog 62 ([self.enc]++[.pointer (some ⟨B,0,none⟩)]) M ((y,Yp [.one (.int .i64 r.copies),.one (.map (some mb)),.one (.pointer (some ⟨V,0,none⟩))] 78)::[(B,Yp [.one (.pointer (some ⟨y,0,none⟩))] 24)]) (fun M' v=>NeE M' v (Uk self r.copies)):=by
  obtain⟨self_addr,d⟩:=self
  refine VT Tryz.func62 rfl Tryz.ntmps62 rfl ?_;intro H
  refine S3 ?_
  intro b1
  refine Stp ?_;intro b2
  refine S4 ?_;refine Ya (l:=[0,1,2,3,4,5,6,7,8,9]) #[0,0,2,6,14,31,63,63,255,511] _ rfl jI jI St.drawn (fun _ h=>h) ?_;refine S5 ?_;refine PH (Zaq M ⟨self_addr,d⟩ r.copies) ?_
  rintro _ M1 j ⟨⟨⟨⟨YV,Xh⟩,⟨YW,D⟩,⟨T,K,Xm⟩,⟨O,R,YX⟩⟩,Z,Vp,UO,Vs,Sr,VY,Vu,Vo,WP,Vq,C,U,⟨WT,WS,WR⟩,L,UL⟩,rfl,ey,g⟩
  refine S2 ?_;refine XX F.lay44 ?_;refine S4 ?_;refine ZH fun w hw=>?_
  exact⟨_,M1,rfl,j,hw.c,⟨⟨⟨YV,Xh⟩,⟨YW,D⟩,⟨T,K,Xm⟩,⟨O,R,YX⟩⟩,Z,Vp,UO,Vs,Sr,VY,Vu,Vo,WP,Vq,C,U,⟨WT,WS,WR⟩,L,UL⟩,rfl,ey,g⟩
theorem Zon(M:Mem)(self:Zr)(B mb Z:Nat)(r:Rg)(C g:Nat)(boot:Int):Fo Tryz.prog 64 ([self.enc]++[.pointer (some ⟨C,0,none⟩),.pointer (some ⟨g,0,none⟩)]) M ((B,Yp [.one (.int .i64 r.copies),.one (.map (some mb)),.one (.pointer (some ⟨Z,0,none⟩))] 78)::[(C,Yp [.one (.pointer (some ⟨B,0,none⟩))] 24),(g,Yp [.one (.int .i64 boot)] 3)]) (fun M' v=>NeE M' v (Ur self r.copies boot)):=by
  obtain⟨self_addr,d⟩:=self
  refine VT Tryz.func64 rfl Tryz.ntmps64 rfl ?_;intro H
  refine S3 ?_
  intro b1
  refine Stp ?_;intro b2
  refine S4 ?_;refine Ya (l:=[0,1,2,3,4,5,6,7,8,9,10]) #[0,0,2,6,14,0,63,127,127,511,1023] _ rfl jI jI St.drawn (fun _ h=>h) ?_;refine S6 ?_;refine PH (Zed M ⟨self_addr,d⟩ r.copies boot) ?_
  rintro _ M1 y ⟨⟨⟨⟨YV,Xh⟩,⟨YW,K⟩,⟨U,L,Xm⟩,⟨R,T,YX⟩⟩,Vt,Vp,UO,Vs,Sr,VY,Vu,Vo,WP,Vq,D,V,⟨WT,WS,WR⟩,O,UL⟩,rfl,ey,j⟩
  refine S2 ?_;refine XX F.lay44 ?_;refine S4 ?_;refine ZH fun w hw=>?_
  exact⟨_,M1,rfl,y,hw.c,⟨⟨⟨YV,Xh⟩,⟨YW,K⟩,⟨U,L,Xm⟩,⟨R,T,YX⟩⟩,Vt,Vp,UO,Vs,Sr,VY,Vu,Vo,WP,Vq,D,V,⟨WT,WS,WR⟩,O,UL⟩,rfl,ey,j⟩
theorem Zgz(M:Mem)(addr:Int):Fs Tryz.prog 60 [.int .i64 addr] M (fun v=>v=Value.bool (decide (Yf addr))):=by
  refine Xa Tryz.func60 rfl Tryz.ntmps60 rfl ?_;intro H
  refine S10 ?_
  refine YE 5 (cT fun d=>?_) (cF fun d=>?_)
  ·refine S7 ?_
   refine ZH fun w hw=>?_
   refine⟨_,rfl,(hw.c),?_⟩
   refine A9 Value.bool ?_
   exact decide_eq_decide.2 (by unfold Yf;omega)
  refine S7 ?_
  refine ZH fun w hw=>?_
  refine⟨_,rfl,(hw.c),?_⟩
  refine A9 Value.bool ?_
  exact(decide_eq_false (by unfold Yf;omega)).symm
theorem Em(M:Mem)(g:Nat)(N:Int)(r:Rg)(Hb:Hp)(hR:RingIs g N r M Hb)(a:Int)(ha:Yf a)(hM:M.dr=0)(hP:PowM M)(C:FuncId)(caps:List Value)(E:Hp)(X:Nd×Int)(aa:Ta Tryz.prog C=true)(R:∀(M1:Mem) (mb y:Nat),M.le M1→Fo Tryz.prog C ([Zr.enc (K.peerN a)]++caps) M1 ((g,Yp [.one (.int .i64 r.copies),.one (.map (some mb)),.one (.pointer (some ⟨y,0,none⟩))] 78)::E) (fun M' v=>NeE M' v X))(D:r.nodes.length<16):Fh Tryz.prog 61 [.pointer (some ⟨g,0,none⟩),.int .i64 a,.func (.func C) #[] caps.toArray] M (Hb++E) (fun M' v ah=>v=.int .i64 (Tg r a X).2∧RingIs g N (Tg r a X).1 M' ah):=by
  obtain⟨mb,y,o,jl,hb,rfl,B,ab,hri⟩:=hR
  obtain⟨⟨YB,ai⟩,L⟩:∃ p,K.peerN a=p:=⟨_,rfl⟩
  rw[L]at R
  refine YI (fun H=>(g,Yp [.one (.int .i64 r.copies),.one (.map (some mb)),.one (.pointer (some ⟨y,0,none⟩))] 78)::(mb,o)::(hb++(E++H))) (fun _=>by simp only[B5,B4,B6]) Tryz.func61 rfl Tryz.ntmps61 rfl ?_;intro H
  refine S8 ?_
  refine YK rfl rfl F.elem32 F.zero3 rfl rfl (.cons rfl jG .nil) rfl rfl jK rfl ?_;intro b1 O
  refine We (Zyg M _ _ _ [a] rfl _ O hM (GA hP _)) ?_
  rintro _ M1 _ d ⟨rfl,hv⟩
  obtain⟨⟨an,ak,al⟩,rfl,ae,T⟩:=of1 ha hv
  rw[L]at T
  subst T
  have aj:=ae.h1
  simp only[Sl.val]
  refine S14 ?_
  refine Xb (eT fun U=>?_) (eF fun U=>?_)
  ·(exfalso;simp[eqX]at U;done)
  refine S4 ?_
  refine Zlh (H':=(g,Yp [.one (.int .i64 r.copies),.one (.map (some mb)),.one (.pointer (some ⟨y,0,none⟩))] 78)::(E++(mb,o)::(hb++H))) (List.Perm.cons _ (List.perm_append_comm_assoc ((mb,o)::hb) E H)) ?_;refine S4 ?_;refine GN (caps:=caps) rfl rfl rfl aa rfl rfl (R M1 mb y d) (Rem.here (hs:=(g,Yp [.one (.int .i64 r.copies),.one (.map (some mb)),.one (.pointer (some ⟨y,0,none⟩))] 78)::E) _) (XK rfl) ?_
  rintro _ M2 j ⟨⟨⟨⟨YV,Xh⟩,⟨YW,Xi⟩,⟨Xo,Xn,Xm⟩,⟨YZ,YY,YX⟩⟩,Vt,Vp,UO,Vs,Sr,VY,Vu,Vo,WP,Vq,WQ,Vr,⟨WT,WS,WR⟩,UM,UL⟩,rfl,ey,ag⟩
  refine S4 ?_
  intro b4
  refine XX F.lay44 ?_;refine S10 ?_
  refine Xb (cT fun ad=>?_) (cF fun ad=>?_)
  ·refine Um (l:=[0,1,2,3,4,5,6]) (Hin:=[(mb,o)]) #[0,1,3,7,0,0,63] jA rfl jI jI ?_
   refine S6 ?_
   refine Ov (en:=ZM.enc) (v:=⟨⟨⟨YV,Xh⟩,⟨YW,Xi⟩,⟨Xo,Xn,Xm⟩,⟨YZ,YY,YX⟩⟩,Vt,Vp,UO,Vs,Sr,VY,Vu,Vo,WP,Vq,WQ,Vr,⟨WT,WS,WR⟩,UM,UL⟩) rfl rfl rfl rfl rfl ⟨Tryz.underlying3⟩ Tryz.underlying76 ab jB ?_;intro o2 Z;refine⟨_,jH,?_⟩
   refine S9 ?_;refine ZH fun w hw=>?_
   have V:Tg r a X=({ r with nodes:=WM a (ZM.nd ⟨⟨⟨YV,Xh⟩,⟨YW,Xi⟩,⟨Xo,Xn,Xm⟩,⟨YZ,YY,YX⟩⟩,Vt,Vp,UO,Vs,Sr,VY,Vu,Vo,WP,Vq,WQ,Vr,⟨WT,WS,WR⟩,UM,UL⟩) r.nodes },0):=Oz jE ey
   exact⟨_,M2,((g,Yp [.one (.int .i64 r.copies),.one (.map (some mb)),.one (.pointer (some ⟨y,0,none⟩))] 78)::(mb,o2)::hb),rfl,d.trans j,hw.c,by rw[V];exact A9 (Value.int .i64) jE,by rw[V];exact RingIs.intro (r:={ r with nodes:=WM a (ZM.nd ⟨⟨⟨YV,Xh⟩,⟨YW,Xi⟩,⟨Xo,Xn,Xm⟩,⟨YZ,YY,YX⟩⟩,Vt,Vp,UO,Vs,Sr,VY,Vu,Vo,WP,Vq,WQ,Vr,⟨WT,WS,WR⟩,UM,UL⟩) r.nodes }) B Z ((hri.mono (d.trans j)).put (n:=⟨⟨⟨YV,Xh⟩,⟨YW,Xi⟩,⟨Xo,Xn,Xm⟩,⟨YZ,YY,YX⟩⟩,Vt,Vp,UO,Vs,Sr,VY,Vu,Vo,WP,Vq,WQ,Vr,⟨WT,WS,WR⟩,UM,UL⟩) ag (.inr D))⟩
  refine S9 ?_
  refine ZH fun w hw=>?_
  have V:Tg r a X=_:=KF jE
  exact⟨_,M2,((g,Yp [.one (.int .i64 r.copies),.one (.map (some mb)),.one (.pointer (some ⟨y,0,none⟩))] 78)::(mb,o)::hb),rfl,d.trans j,hw.c,by rw[V];rfl,by rw[V];exact RingIs.intro B ab (hri.mono (d.trans j))⟩
theorem F.ok61:Ta Tryz.prog 61=true:=by kernel_rfl
theorem F.ok62:Ta Tryz.prog 62=true:=by kernel_rfl
theorem F.ok64:Ta Tryz.prog 64=true:=by kernel_rfl
theorem Zkg(M:Mem)(j:Nat)(N:Int)(r:Rg)(Hb:Hp)(hR:RingIs j N r M Hb)(a:Int)(hM:M.dr=0)(hP:PowM M):Fh Tryz.prog 28 [.pointer (some ⟨j,0,none⟩),.int .i64 a] M Hb (fun M' v U=>v=.int .i64 (Td K.peerN r a).2∧RingIs j N (Td K.peerN r a).1 M' U):=by
  obtain⟨mb,B,o,jl,hb,rfl,d,g,hri⟩:=hR
  refine YI (fun H=>(j,Yp [.one (.int .i64 r.copies),.one (.map (some mb)),.one (.pointer (some ⟨B,0,none⟩))] 78)::(mb,o)::(hb++H)) (fun _=>by simp only[B5,B4,B6]) Tryz.func28 rfl Tryz.ntmps28 rfl ?_;intro H
  refine S3 ?_
  intro V
  refine S8 ?_;refine Vn (Zgz _ _) ?_
  rintro _ rfl
  refine S4 ?_
  refine Xb (eT fun O=>?_) (eF fun O=>?_)
  ·refine S8 ?_
   refine ZH fun w hw=>?_
   have L:Td K.peerN r a=_:=DM jE
   exact⟨_,M,_,rfl,Mem.le.refl M,hw.cnt (H':=((j,Yp [.one (.int .i64 r.copies),.one (.map (some mb)),.one (.pointer (some ⟨B,0,none⟩))] 78)::(mb,o)::hb)++H) jF,by rw[L];rfl,by rw[L];exact RingIs.intro d g hri⟩
  refine S6 ?_
  refine Hz rfl rfl rfl rfl Tryz.underlying76 jB g rfl ?_;refine S4 ?_
  refine Xb (cT fun Z=>?_) (cF fun Z=>?_)
  ·refine S8 ?_
   refine ZH fun w hw=>?_
   have L:Td K.peerN r a=_:=Hw jE zR
   exact⟨_,M,_,rfl,Mem.le.refl M,hw.cnt (H':=((j,Yp [.one (.int .i64 r.copies),.one (.map (some mb)),.one (.pointer (some ⟨B,0,none⟩))] 78)::(mb,o)::hb)++H) jF,by rw[L];rfl,by rw[L];exact RingIs.intro d g hri⟩
  refine S4 ?_
  refine Yq (l:=[0,1,2,3,4]) [3] rfl ?_;refine S3 ?_
  have C:Yf a:=by first|assumption|(simp_all;done)
  refine DW H rfl rfl rfl F.ok61 rfl (Em M j N r _ (RingIs.intro (mb:=mb) d g hri) a C hM hP 62 [.pointer (some ⟨V,0,none⟩)] [(V,Yp [.one (.pointer (some ⟨j,0,none⟩))] 24)] (Uk (K.peerN a) r.copies) F.ok62 (fun M1 mb B hm=>Zkh M1 (K.peerN a) j mb B r V) zR) jF (XK rfl) ?_
  rintro v9 M9 R T ⟨D,y⟩
  refine S2 ?_;refine Xj ?_;refine S2 ?_;refine ZH fun w hw=>?_
  rw[← OU (pn:=K.peerN) C zR]at D y
  exact⟨_,M9,R,rfl,T,hw.c,by rw[D];rfl,y⟩
theorem Zok(M:Mem)(R:Nat)(N:Int)(r:Rg)(Hb:Hp)(hR:RingIs R N r M Hb)(a b:Int)(hM:M.dr=0)(hP:PowM M):Fh Tryz.prog 29 [.pointer (some ⟨R,0,none⟩),.int .i64 a,.int .i64 b] M Hb (fun M' v bl=>v=.int .i64 (Us K.peerN r a b).2∧RingIs R N (Us K.peerN r a b).1 M' bl):=by
  obtain⟨mb,bb,o,jl,hb,rfl,d,g,hri⟩:=hR
  refine YI (fun H=>(R,Yp [.one (.int .i64 r.copies),.one (.map (some mb)),.one (.pointer (some ⟨bb,0,none⟩))] 78)::(mb,o)::(hb++H)) (fun _=>by simp only[B5,B4,B6]) Tryz.func29 rfl Tryz.ntmps29 rfl ?_;intro H
  refine S3 ?_
  intro b1
  refine Stp ?_;intro b2
  refine S10 ?_;refine RS (en:=ZM.enc) (z:=ZM.zero) rfl rfl rfl rfl ⟨Tryz.underlying3⟩ Tryz.underlying76 (show _=some (ZM.enc ZM.zero)from F.zero44) jB g rfl ?_
  obtain⟨⟨⟨⟨XT,Ws⟩,⟨XU,Wt⟩,⟨Ww,Wv,Wu⟩,⟨XI,XH,XG⟩⟩,TN,TJ,RW,TM,PR,Sy,TO,TI,UP,TK,UQ,TL,⟨UT,US,UR⟩,RV,RU⟩,bj⟩:∃ x:ZM,(Wm jl (a)).getD ZM.zero=x:=⟨_,rfl⟩
  rw[bj]
  refine S4 ?_
  intro b3
  refine XX F.lay44 ?_;refine S4 ?_;refine Ya (l:=[0,1,2,3,4,5,6,7,8,9,10,11]) #[0,1,3,7,0,31,63,127,127,0,767,2047] _ rfl jI jI St.drawn (fun _ h=>h) ?_;refine S5 ?_;refine RS (en:=ZM.enc) (z:=ZM.zero) rfl rfl rfl rfl ⟨Tryz.underlying3⟩ Tryz.underlying76 (show _=some (ZM.enc ZM.zero)from F.zero44) jB g rfl ?_
  obtain⟨⟨⟨⟨C,U⟩,⟨O,T⟩,⟨Z,aa,V⟩,⟨B,D,L⟩⟩,ar,al,a6,aq,a8,au,ao,ak,ai,aj,ag,an,⟨ae,ah,ad⟩,az,a1⟩,bd⟩:∃ x:ZM,(Wm jl (b)).getD ZM.zero=x:=⟨_,rfl⟩
  rw[bd]
  refine S4 ?_
  intro b4
  refine XX F.lay44 ?_;refine S8 ?_;refine Vn (Zgz _ _) ?_
  rintro _ rfl
  refine S2 ?_
  refine YE 33 (eT fun a7=>?_) (eF fun a7=>?_)
  ·refine S21 ?_
   refine ZH fun w hw=>?_
   have y:Us K.peerN r a b=_:=OJ yK
   exact⟨_,M,_,rfl,Mem.le.refl M,hw.cnt (H':=((R,Yp [.one (.int .i64 r.copies),.one (.map (some mb)),.one (.pointer (some ⟨bb,0,none⟩))] 78)::(mb,o)::hb)++H) jF,by rw[y];rfl,by rw[y];exact RingIs.intro d g hri⟩
  refine Stp ?_
  refine Vn (Zgz _ _) ?_
  rintro _ rfl
  refine S3 ?_
  refine YE 38 (eT fun bh=>?_) (eF fun bh=>?_)
  ·refine S16 ?_
   refine ZH fun w hw=>?_
   have y:Us K.peerN r a b=_:=OJ (by exact .inr (.inl jE))
   exact⟨_,M,_,rfl,Mem.le.refl M,hw.cnt (H':=((R,Yp [.one (.int .i64 r.copies),.one (.map (some mb)),.one (.pointer (some ⟨bb,0,none⟩))] 78)::(mb,o)::hb)++H) jF,by rw[y];rfl,by rw[y];exact RingIs.intro d g hri⟩
  refine S7 ?_
  refine Xb (cT fun bg=>?_) (cF fun bg=>?_)
  ·refine S8 ?_
   refine ZH fun w hw=>?_
   have y:Us K.peerN r a b=_:=OJ (by exact .inr (.inr jE))
   exact⟨_,M,_,rfl,Mem.le.refl M,hw.cnt (H':=((R,Yp [.one (.int .i64 r.copies),.one (.map (some mb)),.one (.pointer (some ⟨bb,0,none⟩))] 78)::(mb,o)::hb)++H) jF,by rw[y];rfl,by rw[y];exact RingIs.intro d g hri⟩
  refine S6 ?_
  refine Xb (fun bc=>?_) (fun bc=>?_)
  ·skip
   refine S8 ?_;refine ZH fun w hw=>?_
   have ab:¬(¬Yf a∨¬Yf b∨a=b):=by simp_all
   have j:Yf a∧Yf b∧¬a=b:=by by_cases h1:Yf a <;> by_cases h2:Yf b <;> simp_all
   have y:Us K.peerN r a b=_:=OI j (by rw[← hri.isS];assumption)
   exact⟨_,M,_,rfl,Mem.le.refl M,hw.cnt (H':=((R,Yp [.one (.int .i64 r.copies),.one (.map (some mb)),.one (.pointer (some ⟨bb,0,none⟩))] 78)::(mb,o)::hb)++H) jF,by rw[y];rfl,by rw[y];exact RingIs.intro d g hri⟩
  skip
  refine S6 ?_;refine Hz rfl rfl rfl rfl Tryz.underlying76 jB g rfl ?_;refine S4 ?_
  refine Xb (cT fun ba=>?_) (cF fun ba=>?_)
  ·refine S8 ?_
   refine ZH fun w hw=>?_
   have ab:¬(¬Yf a∨¬Yf b∨a=b):=by simp_all
   have j:Yf a∧Yf b∧¬a=b:=by by_cases h1:Yf a <;> by_cases h2:Yf b <;> simp_all
   have y:Us K.peerN r a b=_:=Mj j zT zR
   exact⟨_,M,_,rfl,Mem.le.refl M,hw.cnt (H':=((R,Yp [.one (.int .i64 r.copies),.one (.map (some mb)),.one (.pointer (some ⟨bb,0,none⟩))] 78)::(mb,o)::hb)++H) jF,by rw[y];rfl,by rw[y];exact RingIs.intro d g hri⟩
  refine S7 ?_
  refine Xb (fun aw=>?_) (fun aw=>?_)
  ·skip
   refine S8 ?_;refine ZH fun w hw=>?_
   have ab:¬(¬Yf a∨¬Yf b∨a=b):=by simp_all
   have j:Yf a∧Yf b∧¬a=b:=by by_cases h1:Yf a <;> by_cases h2:Yf b <;> simp_all
   have y:Us K.peerN r a b=_:=Oi j zT zR (by rw[← hri.isS];first|assumption|exact De jE)
   exact⟨_,M,_,rfl,Mem.le.refl M,hw.cnt (H':=((R,Yp [.one (.int .i64 r.copies),.one (.map (some mb)),.one (.pointer (some ⟨bb,0,none⟩))] 78)::(mb,o)::hb)++H) jF,by rw[y];rfl,by rw[y];exact RingIs.intro d g hri⟩
  skip
  refine S4 ?_;refine Yq (l:=[0,1,2,3,4]) [3] rfl ?_;refine S3 ?_
  have ab:¬(¬Yf a∨¬Yf b∨a=b):=by simp_all
  have j:Yf a∧Yf b∧¬a=b:=by by_cases h1:Yf a <;> by_cases h2:Yf b <;> simp_all
  refine DW H rfl rfl rfl F.ok61 rfl (Em M R N r _ (RingIs.intro (mb:=mb) d g hri) a j.1 hM hP 64 [.pointer (some ⟨b1,0,none⟩),.pointer (some ⟨b2,0,none⟩)] [(b1,Yp [.one (.pointer (some ⟨R,0,none⟩))] 24),(b2,Yp [.one (.int .i64 b)] 3)] (Ur (K.peerN a) r.copies b) F.ok64 (fun M1 mb bb hm=>Zon M1 (K.peerN a) R mb bb r b1 b2 b) zR) jF (XK rfl) ?_
  rintro v9 M9 bf bk ⟨ay,ax⟩
  refine S2 ?_;refine Xj ?_;refine S2 ?_;refine ZH fun w hw=>?_
  rw[← Mi (pn:=K.peerN) j zT zR (by rw[← hri.isS];first|assumption|exact Oj jE)]at ay ax
  exact⟨_,M9,bf,rfl,bk,hw.c,by rw[ay];rfl,ax⟩
theorem AS(M:Mem)(C:Nat)(N:Int)(r:Rg)(Hb:Hp)(hR:RingIs C N r M Hb)(t:XM)(hN:N+2≤1000000000000000):Fh Tryz.prog 30 [.pointer (some ⟨C,0,none⟩),t.enc] M Hb (fun M' v aq=>v=.int .i64 (Ts r t.kind t.a).2∧RingIs C (N+2) (Ts r t.kind t.a).1 M' aq):=by
  obtain⟨Vd,d,ad⟩:=t
  obtain⟨mb,bb,o,jl,hb,rfl,B,D,hri⟩:=hR
  refine YI (fun H=>(C,Yp [.one (.int .i64 r.copies),.one (.map (some mb)),.one (.pointer (some ⟨bb,0,none⟩))] 78)::(mb,o)::(hb++H)) (fun _=>by simp only[B5,B4,B6]) Tryz.func30 rfl Tryz.ntmps30 rfl ?_;intro H
  refine S3 ?_
  intro b1
  refine S4 ?_;refine Ya (l:=[0,1,2,3,4,5,6,7,8,9,10,11,12]) #[0,1,3,7,0,16,63,127,255,255,0,1535,4095] _ rfl jI jI St.drawn (fun _ h=>h) ?_;refine S6 ?_;refine RS (en:=ZM.enc) (z:=ZM.zero) rfl rfl rfl rfl ⟨Tryz.underlying3⟩ Tryz.underlying76 (show _=some (ZM.enc ZM.zero)from F.zero44) jB D rfl ?_
  obtain⟨⟨⟨⟨XT,Ws⟩,⟨XU,Wt⟩,⟨Ww,Wv,Wu⟩,⟨XI,XH,XG⟩⟩,TN,TJ,RW,TM,PR,Sy,TO,TI,UP,TK,UQ,TL,⟨UT,US,UR⟩,RV,RU⟩,T⟩:∃ x:ZM,(Wm jl (d)).getD ZM.zero=x:=⟨_,rfl⟩
  rw[T]
  refine S4 ?_
  intro b2
  refine XX F.lay44 ?_;refine S10 ?_
  refine Xb (fun ah=>?_) (fun ah=>?_)
  ·skip
   refine S7 ?_;refine ZH fun w hw=>?_
   have ak:YC d r.nodes=none:=hri.none (by exact De jE)
   have L:Ts r Vd d=_:=Mr ak
   exact⟨_,M,_,rfl,Mem.le.refl M,hw.cnt (H':=((C,Yp [.one (.int .i64 r.copies),.one (.map (some mb)),.one (.pointer (some ⟨bb,0,none⟩))] 78)::(mb,o)::hb)++H) jF,by rw[L];rfl,by rw[L];exact RingIs.intro (B.mono jD) D hri⟩
  skip
  refine S21 ?_
  refine Xb (cT fun an=>?_) (cF fun an=>?_)
  ·refine S5 ?_
   have K:=hri.some T (by exact Oj jE)
   refine S2 ?_;refine PH (Zql M ⟨⟨⟨XT,Ws⟩,⟨XU,Wt⟩,⟨Ww,Wv,Wu⟩,⟨XI,XH,XG⟩⟩,TN,TJ,RW,TM,PR,Sy,TO,TI,UP,TK,UQ,TL,⟨UT,US,UR⟩,RV,RU⟩ K.2) ?_
   rintro _ M2 aa ⟨⟨aj,ae,j⟩,rfl,sq,kq,oq⟩
   simp only[Sl.val]
   try simp only at sq kq oq
   have ag:=RingIs.intro (mb:=mb) (N:=N) (g:=C) B D (hri.mono aa)
   refine S7 ?_
   have ao:Kq (QV j):=by rw[sq];exact Zfx _
   have az:(QV j).length≤2:=by rw[sq];exact EU _
   have ar:(QV j).length=j.length:=A8 ..
   refine Yq (l:=[0,1,2,3,4]) [4] rfl ?_;refine S4 ?_;refine DW ((b1,Yp (XM.segs ⟨Vd,d,ad⟩) 31)::H) rfl rfl rfl F.ok67 rfl (HH M2 C N _ _ ag d ⟨aj,ae,j⟩ kq oq ao (by show N+(j.length:Int)≤_;omega)) jF (XK rfl) ?_
   rintro _ M5 ax aw ⟨au,rfl,ab⟩;subst M5
   try simp only at ab
   have sR:=MO r d (QV j)
   obtain⟨O,al,o5,ay,ai,rfl,R,V,U⟩:=ab
   have Z:=U.del d
   refine Stp ?_;refine Xj ?_;refine S3 ?_;refine Um (l:=[0,1,2,3,4,5,6]) (Hin:=[(O,o5)]) #[0,1,3,7,0,16,63] jA rfl jI jI ?_;refine S6 ?_
   refine DX (en:=ZM.enc) rfl rfl rfl rfl rfl ⟨Tryz.underlying3⟩ Tryz.underlying76 V jB ?_;intro o2 y;refine⟨_,jH,?_⟩
   refine S11 ?_;refine ZH fun w hw=>?_
   obtain rfl:Vd=3:=by omega
   have L:Ts r 3 d=_:=IY K.1 sq
   rw[sR.2.2]at Z
   exact⟨_,M2,((C,Yp [.one (.int .i64 (Tq r d (QV j)).copies),.one (.map (some O)),.one (.pointer (some ⟨al,0,none⟩))] 78)::(O,o2)::ai),rfl,aa,hw.c,by rw[L];rfl,by rw[L];exact RingIs.intro (r:={ Tq r d (QV j)with nodes:=AY d r.nodes }) (R.mono jD) y Z⟩
  refine S3 ?_
  refine Qr jM ?_;refine S4 ?_
  have K:=hri.some T (by exact Oj jE)
  refine Um (l:=[0,1,2,3,4,5,6]) (Hin:=[(mb,o)]) #[0,1,3,7,0,16,63] jA rfl jI jI ?_;refine S6 ?_
  refine DX (en:=ZM.enc) rfl rfl rfl rfl rfl ⟨Tryz.underlying3⟩ Tryz.underlying76 D jB ?_;intro o2 y;refine⟨_,jH,?_⟩
  refine S11 ?_;refine ZH fun w hw=>?_
  have L:Ts r Vd d=_:=IZ K.1 jE
  exact⟨_,M,((C,Yp [.one (.int .i64 r.copies),.one (.map (some mb)),.one (.pointer (some ⟨bb,0,none⟩))] 78)::(mb,o2)::hb),rfl,Mem.le.refl M,hw.c,by rw[L];rfl,by rw[L];exact RingIs.intro (r:={ r with nodes:=AY d r.nodes }) (B.mono jD) y (hri.del d)⟩
theorem LU(M:Mem)(R:Nat)(N:Int)(r:Rg)(Hb:Hp)(U:RingIs R N r M Hb)(t:XM)(hM:M.dr=0)(hP:PowM M)(hN:N+1000000≤1000000000000000):Fh Tryz.prog 10 [.pointer (some ⟨R,0,none⟩),t.enc] M Hb (fun M' v aq=>v=.int .i64 (doR K.peerN r ⟨t.kind,t.a,t.b⟩).2∧RingIs R (N+1000000) (doR K.peerN r ⟨t.kind,t.a,t.b⟩).1 M' aq):=by
  obtain⟨C,d,g⟩:=t
  refine YI (fun H=>Hb++H) (fun _=>rfl) Tryz.func10 rfl Tryz.ntmps10 rfl ?_;intro H
  refine S3 ?_
  intro b1
  refine S10 ?_
  refine Xb (fun aa=>?_) (fun aa=>?_)
  ·skip
   (exfalso;simp[eqX]at aa;done)
  skip
  refine S16 ?_
  refine Xb (cT fun ar=>?_) (cF fun ar=>?_)
  ·refine Stp ?_
   refine Xv (l:=[0,1,2,3,4]) (Hin:=Hb) jA rfl ?_;refine S3 ?_;refine We (Zkg M R N r Hb U d hM hP) ?_
   rintro _ O F j ⟨rfl,D⟩
   refine S6 ?_;refine ZH fun w hw=>?_
   have y:doR K.peerN r ⟨C,d,g⟩=_:=do1 (t:=(⟨C,d,g⟩:Trn)) jE
   exact⟨_,O,F,rfl,j,hw.c,by rw[y];rfl,by rw[y];exact D.mono jD (Mem.le.refl _)⟩
  refine S6 ?_
  refine Xb (cT fun al=>?_) (cF fun al=>?_)
  ·refine Stp ?_
   refine Xv (l:=[0,1,2,3,4,5,6]) (Hin:=Hb) jA rfl ?_;refine S5 ?_;refine We (Zok M R N r Hb U d g hM hP) ?_
   rintro _ O F j ⟨rfl,D⟩
   refine S6 ?_;refine ZH fun w hw=>?_
   have y:doR K.peerN r ⟨C,d,g⟩=_:=do2 (t:=(⟨C,d,g⟩:Trn)) jE
   exact⟨_,O,F,rfl,j,hw.c,by rw[y];rfl,by rw[y];exact D.mono jD (Mem.le.refl _)⟩
  refine S7 ?_
  refine Zlz 25 rfl (cT fun ag=>?_) (cF fun ag=>?_)
  ·refine S5 ?_
   refine Xv (l:=[0,1,2,3]) (Hin:=Hb) jA rfl ?_;refine S2 ?_;refine We (AS M R N r Hb U ⟨C,d,g⟩ jD) ?_
   rintro _ O F j ⟨rfl,D⟩
   refine S6 ?_;refine ZH fun w hw=>?_
   have y:doR K.peerN r ⟨C,d,g⟩=_:=Zxi (t:=(⟨C,d,g⟩:Trn)) (by show C=3∨C=4;omega)
   exact⟨_,O,F,rfl,j,hw.c,by rw[y];rfl,by rw[y];exact D.mono jD (Mem.le.refl _)⟩
  refine S6 ?_
  refine Xb (cT fun au=>?_) (cF fun au=>?_)
  ·refine Stp ?_
   refine Xv (l:=[0,1,2,3]) (Hin:=Hb) jA rfl ?_;refine S2 ?_;refine We (AS M R N r Hb U ⟨C,d,g⟩ jD) ?_
   rintro _ O F j ⟨rfl,D⟩
   refine S6 ?_;refine ZH fun w hw=>?_
   have y:doR K.peerN r ⟨C,d,g⟩=_:=Zxi (t:=(⟨C,d,g⟩:Trn)) (by show C=3∨C=4;omega)
   exact⟨_,O,F,rfl,j,hw.c,by rw[y];rfl,by rw[y];exact D.mono jD (Mem.le.refl _)⟩
  refine S6 ?_
  refine Xb (cT fun an=>?_) (cF fun an=>?_)
  ·refine Stp ?_
   refine Xv (l:=[0,1,2,3,4,5,6]) (Hin:=Hb) jA rfl ?_;refine S5 ?_;refine We (BV M R N r Hb U d g jD) ?_
   rintro _ O F j ⟨rfl,D⟩
   refine S6 ?_;refine ZH fun w hw=>?_
   have y:doR K.peerN r ⟨C,d,g⟩=_:=do5 (t:=(⟨C,d,g⟩:Trn)) jE
   exact⟨_,O,F,rfl,j,hw.c,by rw[y];rfl,by rw[y];exact D.mono jD (Mem.le.refl _)⟩
  refine S6 ?_
  refine Xb (cT fun ai=>?_) (cF fun ai=>?_)
  ·refine Stp ?_
   refine Xv (l:=[0,1,2,3,4]) (Hin:=Hb) jA rfl ?_;refine S3 ?_;refine We (JG M R N r Hb U d jD) ?_
   rintro _ O F j ⟨rfl,D⟩
   refine S6 ?_;refine ZH fun w hw=>?_
   have y:doR K.peerN r ⟨C,d,g⟩=_:=do6 (t:=(⟨C,d,g⟩:Trn)) jE
   exact⟨_,O,F,rfl,j,hw.c,by rw[y];rfl,by rw[y];exact D.mono jD (Mem.le.refl _)⟩
  refine S6 ?_
  refine Xb (cT fun ah=>?_) (cF fun ah=>?_)
  ·refine Stp ?_
   obtain⟨mb,bb,o,jl,hb,rfl,T,V,hri⟩:=U
   simp only[B4]
   refine Um (l:=[0,1,2,3,4,5,6,7,8,9,10,11,12]) (Hin:=hb) #[0,1,3,7,0,16,63,127,255,255,0,1535,4095] jA rfl jI jI ?_;refine S6 ?_;refine We (B.Take_ok M bb r.most N (r.bag.map Vl) hb d T) ?_
   rintro _ M1 Z ao ⟨aj,rfl,L⟩;subst M1
   obtain⟨⟨ak,aw,ae⟩,j⟩:∃ m,atM d (r.bag.map Vl)=m:=⟨_,rfl⟩
   rw[j]
   refine S4 ?_
   intro ax
   refine S13 ?_;refine ZH fun w hw=>?_
   have y:doR K.peerN r ⟨C,d,g⟩=_:=do7 (t:=(⟨C,d,g⟩:Trn)) jE
   have g9:=Zjr r d
   exact⟨_,M,((R,Yp [.one (.int .i64 r.copies),.one (.map (some mb)),.one (.pointer (some ⟨bb,0,none⟩))] 78)::(mb,o)::Z),rfl,Mem.le.refl M,hw.c,by rw[y];exact congrArg (Value.int .i64) g9.1,by rw[y];exact RingIs.rebag (by rw[← g9.2.1];exact L.mono jD) V hri g9.2.2.1 g9.2.2.2⟩
  refine S6 ?_
  refine Xb (cT fun ab=>?_) (cF fun ab=>?_)
  ·refine Stp ?_
   obtain⟨mb,bb,o,jl,hb,rfl,T,V,hri⟩:=U
   simp only[B4]
   refine Um (l:=[0,1,2,3,4,5,6,7]) (Hin:=hb) #[0,1,3,7,0,16,63,127] jA rfl jI jI ?_;refine S6 ?_;refine We (B.Twice_ok M bb r.most N (r.bag.map Vl) hb d jD T) ?_
   rintro _ M1 Z ao ⟨aj,rfl,L⟩;subst M1
   refine S6 ?_;refine ZH fun w hw=>?_
   have y:doR K.peerN r ⟨C,d,g⟩=_:=do8 (t:=(⟨C,d,g⟩:Trn)) jE
   have g9:=Zmi d hri.mail
   exact⟨_,M,((R,Yp [.one (.int .i64 r.copies),.one (.map (some mb)),.one (.pointer (some ⟨bb,0,none⟩))] 78)::(mb,o)::Z),rfl,Mem.le.refl M,hw.c,by rw[y];exact congrArg (Value.int .i64) g9.1,by rw[y];exact RingIs.rebag (by rw[← g9.2.1];exact L.mono jD) V hri g9.2.2.1 g9.2.2.2⟩
  refine S6 ?_
  refine Xb (cT fun ad=>?_) (cF fun ad=>?_)
  ·refine Stp ?_
   refine Xv (l:=[0,1]) (Hin:=Hb) jA rfl ?_;refine Stp ?_;refine We (Ew M R N r Hb U hN) ?_
   rintro _ O F j ⟨rfl,D⟩
   refine S10 ?_;refine ZH fun w hw=>?_
   have y:doR K.peerN r ⟨C,d,g⟩=_:=do9 (t:=(⟨C,d,g⟩:Trn)) jE
   exact⟨_,O,F,rfl,j,hw.c,by rw[y];rfl,by rw[y];exact D.mono jD (Mem.le.refl _)⟩
  refine S9 ?_
  refine ZH fun w hw=>?_
  have y:doR K.peerN r ⟨C,d,g⟩=_:=do0 (t:=(⟨C,d,g⟩:Trn)) (by show¬(1≤C∧C≤9);omega)
  exact⟨_,M,Hb,rfl,Mem.le.refl M,hw.c,by rw[y];rfl,by rw[y];exact U.mono jD (Mem.le.refl _)⟩
theorem Zrw(M:Mem)(a:(Sl Zr))(b:(Sl Zr))(aa:SlK M Zr.segs 21 a)(V:SlK M Zr.segs 21 b):Fs Tryz.prog 50 [Sl.val a,Sl.val b] M (fun v=>v=Value.bool (decide (a.l=b.l))):=by
  obtain⟨O,R,d⟩:=a
  obtain⟨L,T,g⟩:=b
  have D:SlK M Zr.segs 21 ⟨O,R,d⟩:=aa
  have ai:SlM M O (d.map Zr.segs) 21:=D.h1
  have aj:(d.map Zr.segs).length=d.length:=A8 ..
  have ab:d.length≤9223372036854775807:=D.h2
  have ae:d.length≤R:=D.h3
  have K:SlK M Zr.segs 21 ⟨L,T,g⟩:=V
  have ag:SlM M L (g.map Zr.segs) 21:=K.h1
  have ah:(g.map Zr.segs).length=g.length:=A8 ..
  have ak:g.length≤9223372036854775807:=K.h2
  have ad:g.length≤T:=K.h3
  refine Xa Tryz.func50 rfl Tryz.ntmps50 rfl ?_;intro H
  refine S15 ?_
  refine Xb (eT fun U=>?_) (eF fun U=>?_)
  ·refine S7 ?_
   refine ZH fun w hw=>?_
   refine⟨_,rfl,(hw.c),?_⟩
   clear hw
   refine congrArg Value.bool ?_
   exact(decide_eq_false (fun h9=>by subst h9;simp_all)).symm
  refine S11 ?_
  refine VG [13,12,4,0,1] ?_;refine Un (.succ .zero) (fun(k:Nat) z=>z=[(13,.int .i64 (k:Int))]∧k≤d.length∧(∀ j (h2:j<d.length) (h3:j<g.length),j<k→d[j]=g[j])) (fun k=>d.length-k) (0) (⟨rfl,by omega,by(intro j h2 h3 hj;omega)⟩) ?_
  rintro k _ ⟨rfl,hk,hI⟩
  refine S6 ?_
  refine Xb (cT fun Z=>?_) (cF fun Z=>?_)
  ·refine S11 ?_
   refine Ya (l:=[0,1,2,3,4,5,6,7,8]) #[0,0,3,7,0,0,48,112,255] _ rfl jI jI St.drawn (fun _ h=>h) ?_;refine S8 ?_
   refine VW (m:=20) rfl rfl rfl rfl rfl jG jG F.lay38 F.kinds38 rfl F.guard38 (by exact Xr _) (by exact Xr _) rfl rfl rfl ?_;intro c3 C
   replace C:c3=true↔¬(Segs.cells _=Segs.cells _):=C
   obtain rfl:=neD C (Zr.inj (x:=⟨_,_⟩) (y:=⟨_,_⟩));clear C
   refine S2 ?_
   refine Xb (eT fun B=>?_) (eF fun B=>?_)
   ·simp only[H9]at B
    refine S11 ?_;refine ZH fun w hw=>?_
    refine⟨_,rfl,(hw.c),?_⟩
    refine congrArg Value.bool ?_
    exact(decide_eq_false (fun h9=>by subst h9;simp_all)).symm
   simp only[Zr.eta,ZK.eta,ZM.eta,ZI.eta,YD.eta,YQ.eta,XM.eta,YT.eta,ZW.eta,XF.eta,Yk.eta]at B
   simp only[H9]at B
   refine S7 ?_;refine VX (a':=[(13,_)]) (k+1) (.cons (k:=13) rfl (.cons (k:=12) rfl (.cons (k:=4) rfl (.cons (k:=0) rfl (.cons (k:=1) rfl (.nil)))))) (fun w hw=>by first|exact hw|exact hw.c) ?_ ?_
   ·refine⟨rfl,by omega,?_⟩
    (intro j h2 h3 hj;rcases C7 j k with h9|h9;exact hI j h2 h3 h9;obtain rfl:j=k:=jD;simp_all)
   omega
  refine S11 ?_
  refine ZH fun w hw=>?_
  refine⟨_,rfl,(hw.c),?_⟩
  refine congrArg Value.bool ?_
  exact(decide_eq_true (J4 jD (fun j h2 h3=>hI j h2 h3 jD))).symm
theorem Pm(M:Mem)(gb:Nat)(N:Int)(r:Rg)(Hb:Hp)(hR:RingIs gb N r M Hb)(hM:M.dr=0)(hP:PowM M):Fo Tryz.prog 23 [.pointer (some ⟨gb,0,none⟩)] M Hb (fun M' v=>v=.bool (XQ K.peerN r)):=by
  obtain⟨mb,bb,o,jl,hb,rfl,ax,aw,hri⟩:=hR
  refine Mv (fun H=>(gb,Yp [.one (.int .i64 r.copies),.one (.map (some mb)),.one (.pointer (some ⟨bb,0,none⟩))] 78)::(mb,o)::(hb++H)) (fun _=>by simp only[B5,B4,B6]) Tryz.func23 rfl Tryz.ntmps23 rfl ?_;intro H
  refine S8 ?_;refine PG (JU M gb N r _ (RingIs.intro (mb:=mb) ax aw hri)) ?_
  rintro _ M1 Z ⟨⟨bk,bd,bn⟩,rfl,el,bj⟩
  subst el
  simp only[Sl.val]
  refine PH (K.Of_ok M1 ⟨bk,bd,XW r⟩ bj (Z.loose hM) (GA (hP.mono Z) _)) ?_
  rintro _ M2 ab hv
  obtain⟨⟨a8,bf,aa⟩,e2,rfl,ba,ao⟩:=Zgp hv
  simp only[Sl.val]
  refine S14 ?_
  refine Xb (eT fun a7=>?_) (eF fun a7=>?_)
  ·refine S7 ?_
   refine ZH fun w hw=>?_
   have bg:=(ao.resolve_left (fun h9=>(by assumption:¬e2=0) h9.1)).2
   exact⟨_,M2,rfl,Z.trans ab,hw.c,by rw[Zco bg];rfl⟩
  refine S3 ?_
  obtain⟨-,ag,ae⟩:=ao.resolve_right (fun h9=>h9.1 jE)
  rw[← ae]at ag
  have au:Re aa r.copies=(Nb aa r.copies.toNat,0):=by
   have h9:=LB (r:=r.copies.toNat) ag (by have:=hri.cop;omega) (by have:=hri.cop;omega)
   rwa [show((r.copies.toNat:Nat):Int)=r.copies by have:=hri.cop;omega]at h9
  refine S6 ?_;refine PH (Zeb M2 ⟨a8,bf,aa⟩ r.copies ba) ?_
  rintro _ M3 ad hv
  replace hv:Yaj M3 _ (Re aa r.copies):=hv
  rw[au]at hv
  obtain⟨_,rfl,⟨bl,bm,V⟩,rfl,et,al,ar⟩:=hv
  try simp only at et al ar
  have bh:=al.h1
  try simp only at bh
  have bo:(V.map ZK.segs).length=V.length:=A8 ..
  have bp:V.length≤9223372036854775807:=al.h2
  simp only[Sl.val]
  refine S16 ?_;refine VG [28,27,26,4,2,0] ?_;refine Un (.succ .zero) (fun(k:Nat) z=>z=[(28,.int .i64 (k:Int))]∧k≤V.length∧∀ j (h2:j<V.length),j<k→SG r (ZK.tb V[j])=true) (fun k=>V.length-k) (0) (⟨rfl,by omega,by intro j h2 hj;omega⟩) ?_
  rintro k _ ⟨rfl,hk,hI⟩
  refine S6 ?_
  refine Xb (cT fun bc=>?_) (cF fun bc=>?_)
  ·refine S5 ?_
   obtain⟨⟨⟨C,T⟩,⟨R,U⟩,⟨D,L,O⟩,⟨g,B,d⟩⟩,hq⟩:∃ t,V[k]'jD=t:=⟨_,rfl⟩
   have aj:=ar _ (C1 (show k<V.length by omega))
   rw[hq]at aj
   have ai:(Nb aa r.copies.toNat)[k]?=some (ZK.tb ⟨⟨C,T⟩,⟨R,U⟩,⟨D,L,O⟩,⟨g,B,d⟩⟩):=by rw[← et,E6,A7 (show k<V.length by omega),hq];rfl
   refine S3 ?_
   simp only[H9,hq]
   refine Stp ?_;intro b3
   refine S4 ?_;refine Ya (l:=[0,1,2,3,4,5,6,7,8,9]) #[0,1,3,7,0,16,48,127,0,511] _ rfl jI jI St.drawn (fun _ h=>h) ?_;refine S7 ?_;refine Zkv (en:=ZM.enc) (z:=ZM.zero) rfl rfl rfl rfl ⟨Tryz.underlying3⟩ Tryz.underlying76 (show _=some (ZM.enc ZM.zero)from F.zero44) jB aw rfl ?_
   obtain⟨⟨⟨⟨XT,Ws⟩,⟨XU,Wt⟩,⟨Ww,Wv,Wu⟩,⟨XI,XH,XG⟩⟩,TN,TJ,RW,TM,PR,Sy,TO,TI,UP,TK,UQ,TL,⟨UT,US,UR⟩,RV,RU⟩,ak⟩:∃ x:ZM,(Wm jl C).getD ZM.zero=x:=⟨_,rfl⟩
   have ay:=(hri.okD ak).mono ((Z.trans ab).trans ad)
   have hlk:=hri.like (t:=ZK.tb ⟨⟨C,T⟩,⟨R,U⟩,⟨D,L,O⟩,⟨g,B,d⟩⟩) ak rfl
   rw[ak]
   refine Stp ?_;intro b4
   refine XX F.lay44 ?_;refine S8 ?_
   refine YE 43 (fun az=>?_) (fun az=>?_)
   ·skip
    refine S39 ?_;refine ZH fun w hw=>?_
    refine⟨_,M3,rfl,(Z.trans ab).trans ad,hw.c,?_⟩
    rw[Kk ae.symm ai zG];rfl
   skip
   refine S5 ?_
   refine VW (m:=20) rfl rfl rfl rfl rfl jG jG F.lay38 F.kinds38 rfl F.guard38 jR jR rfl rfl rfl ?_;intro c6 ah
   replace ah:c6=true↔¬(Segs.cells _=Segs.cells _):=ah
   obtain rfl:=neD ah (Zr.inj (x:=⟨_,_⟩) (y:=⟨_,_⟩));clear ah
   refine S2 ?_
   refine YE 51 (eT fun a6=>?_) (eF fun a6=>?_)
   ·refine S31 ?_
    refine ZH fun w hw=>?_
    refine⟨_,M3,rfl,(Z.trans ab).trans ad,hw.c,?_⟩
    rw[Kk ae.symm ai zG];rfl
   refine S5 ?_
   refine Vn (Zrw _ ⟨Ww,Wv,Wu⟩ ⟨D,L,O⟩ ay.h0.h0 aj.h0) ?_
   rintro _ rfl
   refine S3 ?_
   refine YE 60 (eT fun a1=>?_) (eF fun a1=>?_)
   ·refine S22 ?_
    refine ZH fun w hw=>?_
    refine⟨_,M3,rfl,(Z.trans ab).trans ad,hw.c,?_⟩
    rw[Kk ae.symm ai zG];rfl
   refine S5 ?_
   refine Vn (Zrw _ ⟨XI,XH,XG⟩ ⟨g,B,d⟩ ay.h0.h1 aj.h1) ?_
   rintro _ rfl
   refine S4 ?_
   refine Xb (eT fun aq=>?_) (eF fun aq=>?_)
   ·refine S11 ?_
    refine ZH fun w hw=>?_
    refine⟨_,M3,rfl,(Z.trans ab).trans ad,hw.c,?_⟩
    rw[Kk ae.symm ai zG];rfl
   refine S7 ?_
   refine VX (a':=[(28,_)]) (k+1) (.cons (k:=28) rfl (.cons (k:=27) rfl (.cons (k:=26) rfl (.cons (k:=4) rfl (.cons (k:=2) rfl (.cons (k:=0) rfl (.nil))))))) (fun w hw=>by first|exact hw|exact hw.c) ?_ ?_
   ·refine⟨rfl,by omega,fun j h2 hj=>?_⟩
    rcases C7 j k with h9|h9
    ·exact hI j h2 h9
    obtain rfl:j=k:=by omega
    rw[hq,hlk]
    refine Ki.2 ⟨?_,?_,?_,?_⟩ <;> (show _=_;simp_all[ZM.nd,ZK.tb])
   omega
  refine S13 ?_
  refine ZH fun w hw=>?_
  obtain rfl:k=V.length:=by omega
  refine⟨_,M3,rfl,(Z.trans ab).trans ad,hw.c,?_⟩
  have an:∀ j (hj:j<(Nb aa r.copies.toNat).length),SG r (Nb aa r.copies.toNat)[j]=true:=by
   rw[← et]
   intro j hj
   rw[I7]
   rw[A8]at hj
   exact hI j hj hj
  rw[Dl ae.symm ag an];rfl
theorem HA(M:Mem)(C:Nat)(N:Int)(r:Rg)(Hb:Hp)(hR:RingIs C N r M Hb)(y:Nat)(Z:M.dr=0)(hP:PowM M)(ae:y≤1000000)(hN:N+1000000 * (y:Int)≤1000000000000000):Fh Tryz.prog 22 [.pointer (some ⟨C,0,none⟩),.int .i64 (y:Int)] M Hb (fun M' v ab=>v=.tuple #[.int .i64 ((VZ K.peerN y r).1:Int),.bool (XQ K.peerN (VZ K.peerN y r).2)]∧RingIs C (N+1000000 * (y:Int)) (VZ K.peerN y r).2 M' ab):=by
  refine YI (fun H=>Hb++H) (fun _=>rfl) Tryz.func22 rfl Tryz.ntmps22 rfl ?_;intro H
  refine S13 ?_
  refine Xb (fun L=>?_) (fun L=>?_)
  ·skip
   (exfalso;simp[eqX]at L;done)
  skip
  refine S9 ?_;refine VG [6,5,4,0,1] ?_;refine XV (Hin:=Hb) (.succ .zero) jA (fun(k:Nat) R h1 z=>∃ r1,z=[(6,.int .i64 (k:Int))]∧k≤y∧RingIs C (N+1000000 * (k:Int)) r1 R h1∧SetEq K.peerN y k r r1) (fun k=>y-k) (0) (⟨r,rfl,by omega,by simpa using hR,SetEq.start⟩) ?_
  rintro k R h1 z d ⟨r1,rfl,hk,B,D⟩
  refine S7 ?_
  refine YE 12 (cT fun V=>?_) (cF fun V=>?_)
  ·refine Stp ?_
   refine PG (Pm R C _ r1 h1 B (d.loose Z) (hP.mono d)) ?_
   rintro _ M2 j rfl
   have F:=B.mono (Int.le_refl _) j
   refine S4 ?_
   refine Xb (fun ad=>?_) (fun ad=>?_)
   ·skip
    refine S4 ?_;refine Xv (l:=[0,1]) (Hin:=h1) jA rfl ?_;refine Stp ?_;refine We (Ew M2 C _ r1 h1 F jD) ?_
    rintro _ M3 aa T ⟨rfl,U⟩
    refine S8 ?_;refine YO (a':=[(6,_)]) (k+1) (aa) (.cons (k:=6) rfl (.cons (k:=5) rfl (.cons (k:=4) rfl (.cons (k:=0) rfl (.cons (k:=1) rfl (.nil)))))) ((d.trans j).trans T) (fun w hw=>by first|exact hw|exact hw.c) ?_ ?_
    ·exact⟨VI r1,rfl,by omega,by rw[show N+1000000 * ((k+1:Nat):Int)=N+1000000 * (k:Int)+1000000 by omega];exact U,D.step jD (by(simp_all;done))⟩
    omega
   skip
   refine S9 ?_;refine PG (Pm M2 C _ r1 h1 F (Mem.le.loose (d.trans j) Z) (hP.mono (d.trans j))) ?_
   rintro _ M4 g rfl
   refine S5 ?_;refine ZH fun w hw=>?_
   have O:=D.ends (.inr (by(simp_all;done)))
   exact⟨_,M4,h1,rfl,((d.trans j).trans g),hw.c,by rw[O];rfl,by rw[O];exact F.mono jD g⟩
  refine S16 ?_
  refine PG (Pm R C _ r1 h1 B (Mem.le.loose d Z) (hP.mono d)) ?_
  rintro _ M4 g rfl
  refine S5 ?_;refine ZH fun w hw=>?_
  have O:=D.ends (.inl jD)
  exact⟨_,M4,h1,rfl,(d.trans g),hw.c,by rw[O];rfl,by rw[O];exact B.mono jD g⟩
end Go.Proofs.YtglnjnacodgmaaaGreatDoor
set_option maxRecDepth 100000
namespace Go.Esp
open Go.Proofs.YtglnjnacodgmaaaGreatDoor
def pnX(a:Int):Zr:=if a=5 then⟨5,1008497812533577422566271835113878403913710940131#160⟩else⟨7,1097516349978132276175317110044003355850477336030#160⟩
def Yap:Rg:=⟨2,100,[],[]⟩
def Zvu:Rg:=(Td pnX Yap 5).1
def Ae:Rg:=(Us pnX Zvu 7 5).1
def Yaf:Rg:=VI Ae
def Yae:Rg:=VI Yaf
def Zvt:Rg:=VI Yae
theorem pn5:K.peerN 5=pnX 5:=by kernel_rfl
theorem pn7:K.peerN 7=pnX 7:=by kernel_rfl
theorem Zpm{pn pn':Int→Zr}{r:Rg}{a:Int}(h:pn a=pn' a):Td pn r a=Td pn' r a:=by unfold Td;rw[h]
theorem Zth{pn pn':Int→Zr}{r:Rg}{a b:Int}(h:pn a=pn' a):Us pn r a b=Us pn' r a b:=by unfold Us;rw[h]
theorem Yax:doR K.peerN ⟨2,100,[],[]⟩ ⟨1,5,0⟩=(Zvu,0):=by
  rw[do1 (t:=⟨1,5,0⟩) rfl,Zpm (pn':=pnX) pn5]
  exact of_decide_eq_true jI
theorem Yaw:doR K.peerN Zvu ⟨2,7,5⟩=(Ae,0):=by
  rw[do2 (t:=⟨2,7,5⟩) rfl,Zth (pn':=pnX) pn7]
  exact of_decide_eq_true jI
theorem Yav:doR K.peerN Ae ⟨2,9,8⟩=(Ae,7):=by
  have h1:Ae.nodes.length=2:=by kernel_rfl
  rw[do2 (t:=⟨2,9,8⟩) rfl]
  exact Oi jM jI jD jI
theorem Zot{pn pn':Int→Zr}{r:Rg}(h:∀ a∈XW r,pn a=pn' a):XQ pn r=XQ pn' r:=by
  unfold XQ Wr
  rw[List.map_congr_left h]
theorem AM{r:Rg}(h:XW r=[5,7]):XQ K.peerN r=XQ pnX r:=Zot fun a ha=>by
  rw[h]at ha
  have h9:a=5∨a=7:=by simpa using ha
  rcases h9 with rfl|rfl
  · exact pn5
  · exact pn7
theorem Yau:XQ K.peerN Ae=false:=by rw[AM (by kernel_rfl)];kernel_rfl
theorem Yat:XQ K.peerN Yaf=false:=by rw[AM (by kernel_rfl)];kernel_rfl
theorem Yas:XQ K.peerN Yae=false:=by rw[AM (by kernel_rfl)];kernel_rfl
theorem Zra:XW Zvt=[5,7]:=by kernel_rfl
theorem Zzk:XQ K.peerN Zvt=true:=by rw[AM Zra];kernel_rfl
theorem Zsh:VZ K.peerN 20 Ae=(3,Zvt):=by
  have h0:SetEq K.peerN 20 0 Ae Ae:=SetEq.start
  have h1:=h0.step jM Yau
  have h2:=h1.step jM Yat
  have h3:=h2.step jM Yas
  exact h3.ends (.inr Zzk)
end Go.Esp
namespace Go.Proofs.YtglnjnacodgmaaaGreatDoor
open Go.Esp
theorem F.bld31:Bld Tryz.prog 31 [[.one (.int .i64 0)],[.one (.int .i64 0)],[.one (.int .i64 0)]]:=⟨by kernel_rfl,by kernel_rfl⟩
theorem Zqo(M:Mem)(x:Sl Int)(l:List Int)(n c:Nat)(g:Option Addr)(hs:Hp)(hx:SlK M (WC .i64) 1 x)(y:n=l.length)(B:OSl 3 1 (.slice g n c) hs (l.map (WC .i64))):Fh Tryz.prog 17 [x.val,.slice g n c] M hs (fun M' v d=>d=[]∧v=.bool (decide (x.l=l))):=fun H w hw=>by
  subst y
  obtain⟨j,h1,h2,h3⟩:=B.frz hw
  exact(K.Ints_ok j x ⟨g,c,l⟩ (hx.mono h1) h3 H w h2).mono fun e C ⟨v,g1,g2,g3⟩=>⟨v,j,[],g1,h1,g2,rfl,g3⟩
theorem PZ(M:Mem)(U:M.dr=0)(hP:PowM M):Esp.Fn Tryz.prog 9 [] M (fun _ v=>v=.bool true):=by
  refine WE Tryz.func9 rfl Tryz.ntmps9 rfl ?_;intro H
  refine S7 ?_;refine We (Zgb M 2 100 ⟨by decide,by decide⟩ ⟨by decide,by decide⟩) ?_
  rintro _ M1 ab ay ⟨y,rfl,ak⟩
  refine S13 ?_
  refine YE 14 (fun R=>?_) (fun R=>?_)
  ·skip
   (exfalso;simp[eqX]at R;done)
  skip
  refine S5 ?_
  refine Xb (eT fun T=>?_) (eF fun T=>?_)
  ·(exfalso;simp[eqX]at T;done)
  refine S3 ?_
  refine Xv (l:=[0,1,2,3]) (Hin:=ab) jA rfl ?_;refine Stp ?_;refine XN rfl rfl F.bld31 (.cons rfl jG (.cons rfl jG .nil)) rfl rfl ?_;refine We (LU M1 y _ ⟨2,100,[],[]⟩ ab ak ⟨1,5,0⟩ (Mem.le.loose jE U) (hP.mono jE) jD) ?_
  rintro v9 M2 ag au ⟨d,ae⟩
  rw[show doR K.peerN ⟨2,100,[],[]⟩ ⟨1,5,0⟩=(Zvu,0)from Yax]at d ae
  subst d
  refine S4 ?_;refine Xv (l:=[0,1,2,3]) (Hin:=ag) jA rfl ?_;refine Stp ?_;refine XN rfl rfl F.bld31 (.cons rfl jG (.cons rfl jG (.cons rfl jG .nil))) rfl rfl ?_;refine We (LU M2 y _ Zvu ag ae ⟨2,7,5⟩ (Mem.le.loose yB U) (hP.mono yB) jD) ?_
  rintro v9 M3 Z an ⟨d,O⟩
  rw[show doR K.peerN Zvu ⟨2,7,5⟩=(Ae,0)from Yaw]at d O
  subst d
  refine S4 ?_;refine Xv (l:=[0,1,2,3]) (Hin:=Z) jA rfl ?_;refine Stp ?_;refine XN rfl rfl F.bld31 (.cons rfl jG (.cons rfl jG (.cons rfl jG .nil))) rfl rfl ?_;refine We (LU M3 y _ Ae Z O ⟨2,9,8⟩ (Mem.le.loose yB U) (hP.mono yB) jD) ?_
  rintro v9 M4 ad aq ⟨d,C⟩
  rw[show doR K.peerN Ae ⟨2,9,8⟩=(Ae,7)from Yav]at d C
  subst d
  refine S4 ?_;refine Xv (l:=[0,1,2,3,4,5,6]) (Hin:=ad) jA rfl ?_;refine Stp ?_;refine We (HA M4 y _ Ae ad C 20 (Mem.le.loose yB U) (hP.mono yB) jM jM) ?_
  rintro v9 M5 L ax ⟨d,j⟩
  rw[Zsh]at d j
  rw[show XQ K.peerN (3,Zvt).2=true from Zzk]at d
  subst d
  refine S12 ?_
  refine YE 34 (cT fun ah=>?_) (cF fun ah=>?_)
  ·refine S5 ?_
   refine YE 39 (cT fun aa=>?_) (cF fun aa=>?_)
   ·refine S4 ?_
    refine YE 43 (cT fun B=>?_) (cF fun B=>?_)
    ·refine S3 ?_
     refine YE 46 (fun ai=>?_) (fun ai=>?_)
     ·skip
      refine S4 ?_
      refine YE 50 (cT fun aw=>?_) (cF fun aw=>?_)
      ·refine Stp ?_
       refine PG (Pm M5 y _ Zvt L j (Mem.le.loose yB U) (hP.mono yB)) ?_
       rintro v9 M6 V d
       rw[Zzk]at d
       subst d
       have al:=j.mono (Int.le_refl _) V
       refine S2 ?_
       refine YE 54 (fun D=>?_) (fun D=>?_)
       ·skip
        refine Stp ?_;refine PG (JU M6 y _ Zvt L al) ?_
        rintro _ M7 aj ⟨⟨a1,ar,a7⟩,rfl,el,az⟩
        rw[Zra]at el
        subst el
        simp only[Sl.val]
        refine YK rfl rfl F.elem32 F.zero3 rfl rfl (.cons rfl jG (.cons rfl jG .nil)) rfl rfl jK rfl ?_;intro b9 g
        refine We (Zqo M7 ⟨a1,ar,[5,7]⟩ [5,7] _ _ _ _ az rfl g) ?_
        rintro v9 M8 a6 ao ⟨rfl,d⟩
        rw[decide_eq_true (show([5,7]:List Int)=[5,7]from rfl)]at d
        subst d
        refine S5 ?_;refine ZH fun w hw=>?_
        exact⟨_,_,rfl,(((((((ay.trans au).trans an).trans aq).trans ax).trans V).trans aj).trans ao),hw.c,rfl⟩
       skip
       (exfalso;simp[eqX]at D;done)
      (exfalso;omega)
     skip
     (exfalso;simp[eqX]at ai;done)
    (exfalso;simp[eqX]at B;done)
   (exfalso;simp[eqX]at aa;done)
  (exfalso;simp[eqX]at ah;done)
end Go.Proofs.YtglnjnacodgmaaaGreatDoor
namespace Go.Esp
def Zvo(p:Zr)(s:Snd):Prop:=SP s.letter∧s.letter.frm=p∧Yf s.to∧s.to≠p.addr
def TF(n:Nd)(r:Nd×List Snd):Prop:=Ui r.1∧r.1.table.self=n.table.self∧(∀ s∈r.2,Zvo n.table.self s)∧r.2.length≤1
theorem EM{p:Zr}(h:Yf p.addr):p≠Yj:=fun e=>by
  rw[e]at h
  exact absurd h.1 jM
theorem QG{s:Zr}{a:Int}(h:Yf a)(h1:a≠s.addr):Xe s a:=⟨⟨by have:=h.1;omega,h.2⟩,h1⟩
theorem VP{s:Zr}(h:Yf s.addr):Xe s (-1):=⟨⟨by decide,by decide⟩,fun e=>by have:=h.1;omega⟩
theorem GK{s:Zr}{a:Int}(h:Xe s a)(h1:a≠-1):Yf a:=⟨by have:=h.1.1;omega,h.1.2⟩
theorem MW(t:Tb)(p:Zr):(WO t p).self=t.self:=by
  unfold WO
  split <;> rfl
theorem Ot{n:Nd}{p:Zr}{l:List Zr}(h:Ui n)(g:Ys n.table.self p):∃ t,XO n p l={ n with table:=t }∧TG t∧t.self=n.table.self∧Yv t=p:=by
  have d:TG n.table∧Ys n.table.self p∧1≤n.copies∧n.copies≤8:=⟨h.1,g,h.2.1.1,h.2.1.2⟩
  have h0:(VJ n.table p l n.copies).2=0:=by
    unfold VJ
    rw[A6 d]
  have h1:=Zba (p:=p) (l:=l) (r:=n.copies) h.1 h0
  refine⟨(VJ n.table p l n.copies).1,?_,h1.1,?_,h1.2.1⟩
  · unfold XO
    grind
  · unfold VJ
    grind
theorem VM{n:Nd}{t:Tb}(h:Ui n)(ht:TG t)(hs:t.self=n.table.self):Ui { n with table:=t }:=by
  obtain⟨h1,h2,h3,g,d,v,j,y,h9⟩:=h
  refine⟨ht,h2,h3,g,d,v,j,?_,h9⟩
  grind
theorem Pu{n:Nd}{p:Zr}{l:List Zr}(h:Ui n):Ui (XO n p l)∧(XO n p l).table.self=n.table.self:=by
  by_cases ho:Ys n.table.self p
  · obtain⟨t,h1,h2,h3,_⟩:=Ot (l:=l) h ho
    rw[h1]
    exact⟨VM h h2 h3,h3⟩
  · rw[DR ho]
    grind
theorem Zbp{t:Tb}{k:Int}{p:Zr}(he:(WF t k p).2.2=0):(WF t k p).1.self=t.self:=by
  unfold WF at *
  grind
theorem KD{n:Nd}{p:Zr}(h:Ui n):Ui (WZ n p)∧(WZ n p).table.self=n.table.self:=by
  unfold WZ
  split
  · rename_i h0
    have h1:=Zaz h.1 h0
    have hs:=Zbp h0
    have hw:=VM h h1.1 hs
    obtain⟨g1,g2,g3,g4,g5,g6,g7,g8,g9⟩:=hw
    exact⟨⟨g1,g2,g3,⟨h1.2.1,by have:=h1.2.2.1;show(WF n.table n.cursor p).2.1≤159;omega⟩,g5,g6,g7,g8,g9⟩,hs⟩
  · grind
theorem Io{n:Nd}{a:Int}(h:Ui n)(ha:Yf a):Ui (Uf n a)∧(Uf n a).table=n.table∧(Uf n a).boot=n.boot∧(Uf n a).findTo=n.findTo∧(Uf n a).joined=n.joined:=by
  unfold Uf
  split
  · grind
  · rename_i d
    obtain⟨g1,g2,g3,g4,g5,g6,g7,g8,g9⟩:=h
    refine⟨⟨g1,g2,g3,g4,?_,g6,g7,g8,fun x hx=>?_⟩,rfl,rfl,rfl,rfl⟩
    · grind
    · grind
theorem MG{n:Nd}{d:Int}(h:Ui n)(ht:Yf d)(v:d≠n.table.self.addr):TF n (UY n d):=by
  obtain⟨g1,g2,g3,g4,g5,g6,g7,⟨g8,g,j,B⟩,g9⟩:=h
  refine⟨⟨g1,g2,g3,g4,g5,g6,g7,⟨g8,g,j,QG ht v⟩,g9⟩,rfl,fun s hs=>?_,B9 1⟩
  obtain rfl:=B0.1 hs
  exact⟨⟨⟨by show(1:Int)≤1;decide,by show(1:Int)≤8;decide⟩,g1.1,g5,C3 _,.inl rfl,fun q=>absurd q.2 (by show¬(1:Int)=2;decide),.inl (.inl rfl),.inl rfl,.inl rfl,.inr rfl,.inr rfl,.inr rfl,g9,fun p y=>by cases y⟩,rfl,ht,v⟩
theorem IQ{s:Zr}:∀{xs out:List Zr},(∀ p∈xs,RC s p)→(∀ p∈out,Ys s p)→∀ p∈xs.foldl (Uc s) out,Ys s p
  | [],out,_,h2=>h2
  | q::xs,out,h1,h2=>by
    refine IQ (xs:=xs) (fun p d=>h1 p (.tail _ d)) (fun p d=>?_)
    unfold Uc at d
    split at d
    · exact h2 p d
    · rename_i g
      have j:Ys s q:=(h1 q (.head _)).resolve_left (fun e=>g (.inl (by rw[e];decide)))
      have hm:∀{l:List Zr} {x:Zr},x∈AG q l→x=q∨x∈l:=by
        intro l
        induction l with
        | nil=>intro x hx;exact .inl (B0.1 hx)
        | cons a l ih =>
          intro x hx
          unfold AG at hx
          split at hx
          · rcases B7.1 hx with rfl|hx
            · exact .inr (.head _)
            · exact(ih hx).imp id (.tail _)
          · exact(B7.1 hx).imp id id
      rcases hm d with rfl|d
      · exact j
      · exact h2 p d
theorem Qf{t:Tb}(h:TG t):∀ p∈Wy t,Ys t.self p :=
  IQ (fun p d=>by
    rcases B7.1 d with rfl|d
    · exact h.2.1
    · rcases B8.1 d with d|d
      · exact .inr (h.2.2.2.2.1.1 p d)
      · exact h.2.2.2.2.2 p d) (fun p d=>by cases d)
theorem MU{t:Tb}{id:Plc}{av:List Int}(h:TG t)(d:(YJ t id av).2=true):Ys t.self (YJ t id av).1 :=
  Qf h _ ((CP (t:=t) (id:=id) (avoid:=av)).yes d).1
theorem Tl{t:Tb}(h:TG t)(hs:t.succ≠[]):Ys t.self (Yv t):=by
  obtain⟨a,b,d,f⟩:=t
  match d,h,hs with
  | p::l,h,_=>exact h.2.2.2.2.1.1 p (.head _)
theorem Zjh{t:Tb}(h:TG t):Yf (Yv t).addr:=by
  by_cases hs:t.succ=[]
  · obtain⟨a,b,d,f⟩:=t
    subst hs
    exact h.1
  · exact(Tl h hs).1
theorem PD{p:Zr}{s:Snd}(h:Zvo p s):∀ x∈[s],Zvo p x:=fun x hx=>by
  obtain rfl:=B0.1 hx
  exact h
theorem Nv{n:Nd}{k req:Int}(hk:k=3∨k=6∨k=7∨(k=5∧req=0))(h:Yf n.table.self.addr):SP (QC n k req):=by
  have d:1≤k∧k≤8:=by omega
  refine⟨d,h,C3 _,C3 _,.inl rfl,fun q=>?_,?_,.inr rfl,.inr rfl,.inr rfl,.inr rfl,.inr rfl,fun a ha=>(by cases ha),fun p g=>(by cases g)⟩
  · have:k=2:=q.2
    omega
  · unfold Ue
    show(k=1∨k=2∨k=3∨k=6∨k=7∨k=4)∨req=0
    omega
theorem Wx{n m:Nd}(h:Ui m)(hs:m.table.self=n.table.self):TF n (m,[]):=⟨h,hs,fun s hs=>(by cases hs),C3 _⟩
theorem PW{n m:Nd}{r:Nd×List Snd}(hs:m.table.self=n.table.self)(h:TF m r):TF n r:=⟨h.1,h.2.1.trans hs,fun s hx=>hs ▸ h.2.2.1 s hx,h.2.2.2⟩
theorem TP{n:Nd}{a r q:Int}(h:Ui n)(ha:Xe n.table.self a):Ui { n with req:=q,askTo:=a,askReq:=r }:=by
  obtain⟨g1,g2,g3,g4,g5,g6,g7,⟨g8,j,d,g⟩,g9⟩:=h
  exact⟨g1,g2,g3,g4,g5,g6,g7,⟨g8,ha,d,g⟩,g9⟩
theorem Zay{n:Nd}(h:Ui n):TF n (UD n):=by
  by_cases hj:n.joined=false
  · unfold UD
    rw[A6 hj]
    have hb:n.boot≠-1:=h.2.2.1.resolve_left zN
    have g:Yf n.boot:=GK h.2.2.2.2.2.2.2.1.1 hb
    have j:n.boot≠n.table.self.addr:=h.2.2.2.2.2.2.2.1.1.2
    obtain⟨m,hm,h1,h2,h3⟩:∃ m,m=(if n.findTo≠-1∧n.findTo≠n.boot then Uf n n.findTo else n)∧Ui m∧m.table=n.table∧m.boot=n.boot:=by
      refine⟨_,rfl,?_⟩
      split
      · rename_i B
        have:=Io (a:=n.findTo) h (GK h.2.2.2.2.2.2.2.1.2.2.2 B.1)
        exact⟨this.1,this.2.1,this.2.2.1⟩
      · exact⟨h,rfl,rfl⟩
    rw[← hm]
    refine PW (m:={ m with findID:=m.table.self.id,hops:=0 }) (A9 Tb.self h2) (MG ?_ (by rw[h3];exact g) (by show m.boot≠m.table.self.addr;rw[h3,h2];exact j))
    obtain⟨g1,g2,g3,g4,g5,g6,g7,g8,g9⟩:=h1
    exact⟨g1,g2,g3,g4,g5,⟨Int.le_refl 0,by show(0:Int)≤64;decide⟩,g7,g8,g9⟩
  · have hj:n.joined=true:=by simpa using hj
    obtain⟨m,hm,h1,h2⟩:∃ m,m=(if n.askTo≠-1 then { n with table:=Xd n.table n.askTo,askTo:=-1 }else n)∧Ui m∧m.table.self=n.table.self:=by
      refine⟨_,rfl,?_⟩
      split
      · have hw:=VM (t:=Xd n.table n.askTo) h (Tf h.1) rfl
        exact⟨TP (q:=n.req) (r:=n.askReq) hw (VP h.1.1),rfl⟩
      · exact⟨h,rfl⟩
    obtain⟨m2,v,h3,y⟩:∃ m2,m2=(if m.table.succ=[]∧m.table.pred≠Yj then XO m m.table.pred []else m)∧Ui m2∧m2.table.self=n.table.self:=by
      refine⟨_,rfl,?_⟩
      split
      · have:=Pu (p:=m.table.pred) (l:=[]) h1
        exact⟨this.1,this.2.trans h2⟩
      · exact⟨h1,h2⟩
    rw[RY hj hm v]
    by_cases hs:m2.table.succ=[]
    · rw[A6 hs];exact Wx h3 y
    · rw[A4 hs]
      have d:=Tl h3.1 hs
      refine PW y ⟨TP h3 (QG d.1 d.2.1),rfl,PD ⟨Nv (.inl rfl) h3.1.1,rfl,d.1,d.2.1⟩,B9 1⟩
theorem NQ{n:Nd}{l:List Int}{a:Int}(h:Ui n)(j:l.length≤16∧∀ x∈l,Yf x)(ha:Xe n.table.self a):Ui { n with avoid:=l,findTo:=a }:=by
  obtain⟨g1,g2,g3,g4,g5,g6,g7,⟨g8,g,d,v⟩,g9⟩:=h
  exact⟨g1,g2,g3,g4,j.1,g6,g7,⟨g8,g,d,ha⟩,j.2⟩
theorem Zfd{n:Nd}(h:Ui n):TF n (JB n):=by
  by_cases hj:n.joined=false
  · rw[Bo hj];exact Wx h rfl
  · have hj:n.joined=true:=by simpa using hj
    obtain⟨m,hm,h1,h2⟩:∃ m,m=(if n.findTo=-1 then { n with avoid:=[] }else { n with avoid:=Ro n.avoid n.findTo,table:=Xd n.table n.findTo,findTo:=-1 })∧Ui m∧m.table.self=n.table.self:=by
      refine⟨_,rfl,?_⟩
      split
      · exact⟨NQ (a:=n.findTo) h ⟨C3 _,fun x hx=>by cases hx⟩ h.2.2.2.2.2.2.2.1.2.2.2,rfl⟩
      · rename_i g
        have hs:=(Io (a:=n.findTo) h (GK h.2.2.2.2.2.2.2.1.2.2.2 g)).1
        rw[CA]at hs
        have hw:=VM (t:=Xd n.table n.findTo) hs (Tf h.1) rfl
        exact⟨NQ (a:=-1) hw ⟨hw.2.2.2.2.1,hw.2.2.2.2.2.2.2.2⟩ (VP h.1.1),rfl⟩
    rw[JA hj hm rfl]
    split
    · have:=KD (p:=(WV m.table (m.table.self.id+To m.cursor.toNat)).1) h1
      exact Wx this.1 (this.2.trans h2)
    · split
      · obtain⟨g1,g2,g3,g4,g5,g6,g7,g8,g9⟩:=h1
        exact Wx ⟨g1,g2,g3,⟨Int.le_refl 0,by show(0:Int)≤159;decide⟩,g5,g6,g7,g8,g9⟩ h2
      · rename_i j
        have d:=MU (id:=m.table.self.id+To m.cursor.toNat) (av:=m.avoid) h1.1 (by simpa using j)
        refine PW (m:={ m with findID:=m.table.self.id+To m.cursor.toNat,hops:=0 }) h2 (MG ?_ d.1 d.2.1)
        obtain⟨g1,g2,g3,g4,g5,g6,g7,g8,g9⟩:=h1
        exact⟨g1,g2,g3,g4,g5,⟨Int.le_refl 0,by show(0:Int)≤64;decide⟩,g7,g8,g9⟩
theorem Ks{n:Nd}{a r q t:Int}(h:Ui n)(ha:Xe n.table.self a)(ht:0≤t∧t≤999999):Ui { n with req:=q,pingTo:=a,pingReq:=r,turn:=t }:=by
  obtain⟨g1,g2,g3,g4,g5,g6,g7,⟨g8,d,j,g⟩,g9⟩:=h
  exact⟨g1,g2,g3,g4,g5,g6,ht,⟨g8,d,ha,g⟩,g9⟩
theorem Cw{n:Nd}(h:Ui n):TF n (UA n):=by
  obtain⟨m,hm,h1,h2⟩:∃ m,m=(if n.pingTo≠-1 then { n with table:=Xd n.table n.pingTo,pingTo:=-1 }else n)∧Ui m∧m.table.self=n.table.self:=by
    refine⟨_,rfl,?_⟩
    split
    · have hw:=VM (t:=Xd n.table n.pingTo) h (Tf h.1) rfl
      exact⟨Ks (q:=n.req) (r:=n.pingReq) (t:=n.turn) hw (VP h.1.1) h.2.2.2.2.2.2.1,rfl⟩
    · exact⟨h,rfl⟩
  cases hl:Wy m.table with
  | nil=>rw[DF hm hl];exact Wx h1 h2
  | cons p l =>
    have hk:m.turn.toNat % (p::l).length<(p::l).length:=G5 _ (Nat.succ_pos _)
    rw[Hn hm hl hk rfl rfl]
    have d:=Qf h1.1 ((p::l)[m.turn.toNat % (p::l).length]) (by rw[hl];exact C1 hk)
    refine PW h2 ⟨Ks h1 (QG d.1 d.2.1) jD,rfl,PD ⟨Nv (.inr (.inl rfl)) h1.1.1,rfl,d.1,d.2.1⟩,B9 1⟩
theorem Zfb{n:Nd}{k:Int}(h:Ui n)(hk:1≤k∧k≤3):∃ r,Vf n k=(r.1,r.2,0)∧TF n r:=by
  refine⟨_,BU h hk rfl,?_⟩
  split
  · exact Zay h
  · split
    · exact Zfd h
    · exact Cw h
theorem Iq{n:Nd}{l:Lt}(h:Ui n)(j:Ys n.table.self l.frm):TF n (n,SN n l):=by
  unfold SN
  split
  · exact Wx h rfl
  · refine⟨h,rfl,PD ⟨?_,rfl,j.1,j.2.1⟩,B9 1⟩
    have d:Yf (if(WV n.table l.id).2 || !(YJ n.table l.id l.avoid).2 then(WV n.table l.id).1 else(YJ n.table l.id l.avoid).1).addr:=by
      split
      · exact Zjh h.1
      · rename_i g
        have:(YJ n.table l.id l.avoid).2=true:=by simp only[Bool.or_eq_true]at g;simp at g;exact g.2
        exact(MU h.1 this).1
    exact⟨⟨by show(1:Int)≤2;decide,by show(2:Int)≤8;decide⟩,h.1.1,C3 _,C3 _,.inr d,fun q=>EM d q.1,.inl (.inr (.inl rfl)),.inr rfl,.inr rfl,.inl rfl,.inl (.inl rfl),.inr rfl,fun a ha=>(by cases ha),fun p d=>(by cases d)⟩
theorem KE{n:Nd}{l:Lt}(h:Ui n):TF n (YF n l):=by
  have d:Ui { n with findTo:=-1 }:=NQ (l:=n.avoid) (a:=-1) h ⟨h.2.2.2.2.1,h.2.2.2.2.2.2.2.2⟩ (VP h.1.1)
  unfold YF
  split
  · exact Wx h rfl
  split
  · simp only
    split
    · have:=KD (p:=l.peer) d
      exact Wx this.1 this.2
    split
    · rename_i g
      have h1:=Pu (p:=l.peer) (l:=[]) d
      obtain⟨g1,g2,g3,g4,g5,g6,g7,g8,g9⟩:=h1.1
      exact Wx ⟨g1,g2,.inl rfl,⟨Int.le_refl 0,by show(0:Int)≤159;decide⟩,C3 _,g6,g7,g8,fun x hx=>(by cases hx)⟩ h1.2
    · exact Wx d rfl
  split
  · exact Wx d rfl
  · rename_i g
    have j:Ys n.table.self l.peer:=C2 fun q=>g (.inl q)
    refine PW (m:={ n with hops:=n.hops+1 }) rfl (MG ?_ j.1 j.2.1)
    obtain⟨g1,g2,g3,g4,g5,g6,g7,g8,g9⟩:=h
    exact⟨g1,g2,g3,g4,g5,⟨by show(0:Int)≤n.hops+1;omega,by show n.hops+1≤(64:Int);omega⟩,g7,g8,g9⟩
theorem Zax{n:Nd}{l:Lt}(h:Ui n)(C:Ys n.table.self l.frm):TF n (Si n l):=by
  by_cases h0:n.askTo≠l.frm.addr∨n.askReq≠l.req
  · rw[Cp h0];exact Wx h rfl
  · have L:n.askTo=l.frm.addr:=C2 fun q=>h0 (.inl q)
    have F:n.askReq=l.req:=C2 fun q=>h0 (.inr q)
    have K:Ui { n with askTo:=-1 }:=TP (q:=n.req) (r:=n.askReq) h (VP h.1.1)
    obtain⟨t,ht,h1,h2,h3⟩:=Ot (l:=l.peers) K (show Ys n.table.self l.frm from C)
    have hm:=VM K h1 h2
    obtain⟨m,g⟩:∃ m:Nd,{ { n with askTo:=-1 }with table:=t }=m:=⟨_,rfl⟩
    have v:m=XO { n with askTo:=-1 } l.frm l.peers:=(ht.trans g).symm
    have j:m.table=t:=by rw[← g]
    rw[show({ table:=t,copies:=n.copies,joined:=n.joined,boot:=n.boot,cursor:=n.cursor,req:=n.req,askTo:=-1,askReq:=n.askReq,pingTo:=n.pingTo,pingReq:=n.pingReq,findTo:=n.findTo,findReq:=n.findReq,findID:=n.findID,avoid:=n.avoid,hops:=n.hops,turn:=n.turn }:Nd)=m from g]at hm
    have d:m.table.self=n.table.self:=by rw[j];exact h2
    by_cases hc:TH m.table l.peer
    · obtain⟨t2,D,T,y,O⟩:=Ot (l:=l.frm::l.peers) hm hc.1
      rw[BS L F v hc D.symm]
      have B:=VM hm T y
      have R:Ys n.table.self l.peer:=d ▸ hc.1
      refine⟨B,y.trans d,PD ⟨?_,y.trans d,?_,?_⟩,B9 1⟩
      · exact Nv (.inr (.inr (.inr ⟨rfl,rfl⟩))) (by show Yf t2.self.addr;rw[y];exact hm.1.1)
      · show Yf (Yv t2).addr;rw[O];exact R.1
      · show(Yv t2).addr≠_;rw[O];exact R.2.1
    · rw[BT L F v hc]
      refine⟨hm,d,PD ⟨?_,d,?_,?_⟩,B9 1⟩
      · exact Nv (.inr (.inr (.inr ⟨rfl,rfl⟩))) hm.1.1
      · show Yf (Yv m.table).addr;rw[j,h3];exact C.1
      · show(Yv m.table).addr≠_;rw[j,h3];exact C.2.1
theorem Ek{n:Nd}{l:Lt}(h:Ui n):TF n (If n l,[]):=by
  have ht:TG (Ie n l)∧(Ie n l).self=n.table.self:=by
    unfold Ie
    split
    · exact⟨Ip (Tf h.1),MW _ _⟩
    · exact⟨Tf h.1,rfl⟩
  have hw:=VM h ht.1 ht.2
  obtain⟨m,hm⟩:∃ m:Nd,m={ n with table:=Ie n l }:=⟨_,rfl⟩
  rw[← hm]at hw
  have hs:m.table.self=n.table.self:=by rw[hm];exact ht.2
  by_cases h1:(Yv n.table).addr=l.frm.addr
  · by_cases h2:0<l.peers.length
    · rw[GE hm h1 h2]
      have:=Pu (p:=l.peers[0]) (l:=l.peers.drop 1) hw
      exact Wx this.1 (this.2.trans hs)
    · rw[Ht hm (fun _ q=>absurd q h2)]
      exact Wx hw hs
  · rw[Ht hm (fun q=>absurd q h1)]
    exact Wx hw hs
theorem Zfe{n:Nd}{l:Lt}(h:Ui n)(v:SP l)(d:Ys n.table.self l.frm):TF n (Wl n l):=by
  have hk:=v.1
  have j:l.kind=1∨l.kind=2∨l.kind=3∨l.kind=4∨l.kind=5∨l.kind=6∨l.kind=7∨l.kind=8:=by omega
  rcases j with k|k|k|k|k|k|k|k
  · rw[Zjt k];exact Iq h d
  · rw[Gz k];exact KE h
  · cases hj:n.joined with
    | false=>rw[Zri k hj];exact Wx h rfl
    | true =>
      rw[Zrh k hj]
      refine⟨h,rfl,PD ⟨?_,rfl,d.1,d.2.1⟩,B9 1⟩
      refine⟨⟨by show(1:Int)≤4;decide,by show(4:Int)≤8;decide⟩,h.1.1,C3 _,h.1.2.2.1,h.1.2.1.imp id (fun q=>q.1),fun q=>absurd q.2 (by show¬(4:Int)=2;decide),.inl (.inr (.inr (.inr (.inr (.inr rfl))))),.inr rfl,.inr rfl,.inr rfl,.inl (.inr (.inl rfl)),.inl (.inl rfl),fun a ha=>(by cases ha),fun p g=>(h.1.2.2.2.2.1.1 p g).1⟩
  · rw[Zjs k];exact Zax h d
  · rw[Zxg k rfl];exact Wx (VM h (Ip h.1) (MW _ _)) (MW _ _)
  · rw[Zxf k];exact⟨h,rfl,PD ⟨Nv (.inr (.inr (.inl rfl))) h.1.1,rfl,d.1,d.2.1⟩,B9 1⟩
  · rw[Ztx k]
    split
    · exact Wx (Ks (q:=n.req) (r:=n.pingReq) (t:=n.turn) h (VP h.1.1) h.2.2.2.2.2.2.1) rfl
    · exact Wx h rfl
  · rw[Bp k];exact Ek h
theorem Zfc{n:Nd}{l:Lt}(h:Ui n)(d:SP l):∃ r,WI n l=(r.1,r.2,0)∧TF n r:=by
  by_cases hf:Ys n.table.self l.frm
  · exact⟨_,Ej h d hf,Zfe h d hf⟩
  · exact⟨(n,[]),BY h d hf,Wx h rfl⟩
theorem Pt{n:Nd}{k:Int}{r:Nd×List Snd×Int}(h:Ui n)(d:Vf n k=r):(r.2.2=0↔1≤k∧k≤3)∧(r.2.2=0→TF n (r.1,r.2.1)):=by
  subst d
  by_cases hk:1≤k∧k≤3
  · obtain⟨r,h1,h2⟩:=Zfb h hk
    grind
  · rw[Nn (fun q=>hk q.2)]
    grind
theorem BZ{n:Nd}{l:Lt}{r:Nd×List Snd×Int}(h:Ui n)(d:WI n l=r):(r.2.2=0↔SP l)∧(r.2.2=0→TF n (r.1,r.2.1)):=by
  subst d
  by_cases hl:SP l
  · obtain⟨r,h1,h2⟩:=Zfc h hl
    grind
  · rw[UW (fun q=>hl q.2)]
    grind
end Go.Esp
namespace Go.Esp
section
variable {G:Zr→Prop}
def GoodT(G:Zr→Prop)(t:Tb):Prop:=G t.self∧(t.pred≠Yj→G t.pred)∧(∀ p∈t.succ,G p)∧∀ p∈t.fingers,p≠Yj→G p
def GoodL(G:Zr→Prop)(l:Lt):Prop:=G l.frm∧(l.peer≠Yj→G l.peer)∧∀ p∈l.peers,G p
def GX(G:Zr→Prop)(L:List Snd):Prop:=∀ s∈L,GoodL G s.letter
def Qs(G:Zr→Prop)(x:Nd×List Snd):Prop:=GoodT G x.1.table∧GX G x.2
theorem GoodT.mono{j:Zr→Prop}{t:Tb}(h:GoodT G t)(g:∀ p,G p→j p):GoodT j t:=⟨g _ h.1,fun d=>g _ (h.2.1 d),fun p d=>g _ (h.2.2.1 p d),fun p d v=>g _ (h.2.2.2 p d v)⟩
theorem QA{s p:Zr}(h:Ys s p):p≠Yj:=EM h.1
theorem Vj:GX G []:=fun s hs=>by cases hs
theorem Qh{s:Snd}(h:GoodL G s.letter):GX G [s]:=fun x hx=>by rw[B0.1 hx];exact h
theorem Tc{c:Prop}[Decidable c]{a b:Nd×List Snd}(ha:c→Qs G a)(hb:¬c→Qs G b):Qs G (if c then a else b):=by
  grind
theorem Tz{t:Tb}(h:GoodT G t):G (Yv t):=by
  unfold Yv
  cases ht:t.succ with
  | nil=>exact h.1
  | cons p l=>exact h.2.2.1 p (by rw[ht];exact B1)
theorem Lu{s:Zr}{r:Int}:∀{rest acc:List Zr} {p:Zr},p∈Wk s r acc rest→p∈acc∨p∈rest
  | [],acc,p,h=>.inl h
  | q::rest,acc,p,h=>by
    unfold Wk at h
    split at h
    · exact .inl h
    · split at h
      · rcases Lu h with h|h
        · exact .inl h
        · exact .inr (B2 _ h)
      · rcases Lu h with h|h
        · rcases B8.1 h with h|h
          · exact .inl h
          · rw[B0.1 h];exact .inr B1
        · exact .inr (B2 _ h)
theorem TV{n:Nd}{p:Zr}{l:List Zr}(h:GoodT G n.table)(j:G p)(g:∀ q∈l,G q):GoodT G (XO n p l).table:=by
  unfold XO VJ
  by_cases hc:TG n.table∧Ys n.table.self p∧1≤n.copies∧n.copies≤8
  · rw[A6 hc,A6 rfl]
    refine⟨h.1,h.2.1,fun q d=>?_,h.2.2.2⟩
    rcases Lu d with d|d
    · grind
    · exact g q d
  · grind
theorem Lc{t:Tb}{p:Zr}(h:GoodT G t)(d:p≠Yj→G p):GoodT G (WO t p):=by
  unfold WO
  split
  · rename_i g
    exact⟨h.1,d,h.2.2.1,h.2.2.2⟩
  · exact h
theorem Tk{t:Tb}{a:Int}(h:GoodT G t):GoodT G (Xd t a):=by
  refine⟨h.1,fun v=>?_,fun q g=>h.2.2.1 q (F6.1 g).1,fun q g j=>?_⟩
  · show G (if t.pred.addr=a then Yj else t.pred)
    have d:(if t.pred.addr=a then Yj else t.pred)≠Yj:=v
    split
    · grind
    · rename_i e;rw[A4 e]at d;exact h.2.1 d
  · obtain⟨x,hx,rfl⟩:=C0.1 g
    by_cases e:x.addr=a
    · grind
    · rw[A4 e]at j ⊢;exact h.2.2.2 x hx j
theorem SY{n:Nd}{p:Zr}(h:GoodT G n.table)(j:p≠Yj→G p):GoodT G (WZ n p).table:=by
  unfold WZ WF
  by_cases hc:TG n.table∧(0≤n.cursor∧n.cursor<160)∧(p=n.table.self∨Ys n.table.self p)
  · rw[A6 hc,A6 rfl]
    refine⟨h.1,h.2.1,h.2.2.1,fun q d g=>?_⟩
    simp only[B8]at d
    rcases d with(d|d)|d
    · exact h.2.2.2 q (F9 d) g
    · have:=(List.mem_replicate.1 d).2
      subst this
      unfold Tt at g ⊢
      grind
    · exact h.2.2.2 q (List.mem_of_mem_drop d) g
  · grind
theorem Mk{p q:Zr}:∀{l:List Zr},q∈AG p l↔q=p∨q∈l
  | []=>by simp[AG]
  | x::l=>by
    unfold AG
    split
    · rw[B7,Mk (l:=l),B7]
      constructor
      · rintro(h|h|h)
        · exact .inr (.inl h)
        · exact .inl h
        · exact .inr (.inr h)
      · rintro(h|h|h)
        · exact .inr (.inl h)
        · exact .inl h
        · exact .inr (.inr h)
    · simp
theorem IT{s:Zr}{q:Zr}:∀{xs out:List Zr},q∈xs.foldl (Uc s) out→q∈out∨(q∈xs∧0≤q.addr)
  | [],out,h=>.inl h
  | x::xs,out,h=>by
    rcases IT (xs:=xs) h with h|h
    · unfold Uc at h
      split at h
      · exact .inl h
      · rename_i d
        rcases Mk.1 h with rfl|h
        · exact .inr ⟨B1,by
            have:¬q.addr<0:=fun h9=>d (.inl h9)
            omega⟩
        · exact .inl h
    · exact .inr ⟨B2 _ h.1,h.2⟩
theorem Pd{t:Tb}(h:GoodT G t):∀ p∈Wy t,G p:=by
  intro p d
  rcases IT d with d|⟨d,h0⟩
  · cases d
  · have g:p≠Yj:=fun e=>by subst e;exact absurd h0 jM
    rcases B7.1 d with rfl|d
    · exact h.2.1 g
    · rcases B8.1 d with d|d
      · exact h.2.2.1 p d
      · exact h.2.2.2 p d g
theorem Av{s:Zr}{id:Plc}{av:List Int}:∀{xs:List Zr} {b:Zr×Bool},(xs.foldl (Vb s id av) b)=b∨(xs.foldl (Vb s id av) b).1∈xs
  | [],b=>.inl rfl
  | x::xs,b=>by
    have h:=Av (s:=s) (id:=id) (av:=av) (xs:=xs) (b:=Vb s id av b x)
    rw[G6]
    rcases h with h|h
    · rw[h]
      unfold Vb
      split
      · exact .inl rfl
      · split
        · exact .inr B1
        · exact .inl rfl
    · exact .inr (B2 _ h)
theorem Dm{t:Tb}{id:Plc}{av:List Int}(h:GoodT G t)(d:(YJ t id av).2=true):G (YJ t id av).1:=by
  rcases Av (s:=t.self) (id:=id) (av:=av) (xs:=Wy t) (b:=(Yj,false))with h1|h1
  · have:(YJ t id av).2=false:=by
      show((Wy t).foldl (Vb t.self id av) (Yj,false)).2=false
      rw[h1]
    grind
  · exact Pd h _ h1
theorem Ju{n:Nd}{d:Int}(h:GoodT G n.table):Qs G (UY n d):=⟨h,Qh ⟨h.1,fun e=>absurd rfl e,fun p g=>(by cases g)⟩⟩
theorem Mp{n:Nd}{k q:Int}(h:GoodT G n.table):GoodL G (QC n k q):=⟨h.1,fun e=>absurd rfl e,fun p d=>(by cases d)⟩
theorem Mo{n:Nd}(h:GoodT G n.table):Qs G (UD n):=by
  refine Tc (fun hj=>?_) (fun hj=>?_)
  · refine Ju ?_
    split
    · unfold Uf;split <;> exact h
    · exact h
  · have h1:GoodT G (if n.askTo≠-1 then { n with table:=Xd n.table n.askTo,askTo:=-1 }else n).table:=by
      split
      · exact Tk h
      · exact h
    revert h1
    generalize (if n.askTo≠-1 then { n with table:=Xd n.table n.askTo,askTo:=-1 }else n)=m
    intro h1
    have h2:GoodT G (if m.table.succ=[]∧m.table.pred≠Yj then XO m m.table.pred []else m).table:=by
      split
      · rename_i d;exact TV h1 (h1.2.1 d.2) (fun q g=>by cases g)
      · exact h1
    revert h2
    dsimp only
    intro h2
    refine Tc (fun _=>⟨h2,Vj⟩) (fun _=>⟨h2,Qh (Mp h2)⟩)
theorem Gk{n:Nd}(h:GoodT G n.table):Qs G (JB n):=by
  refine Tc (fun hj=>⟨h,Vj⟩) (fun hj=>?_)
  have h1:GoodT G (if n.findTo=-1 then { n with avoid:=[] }else { Uf n n.findTo with table:=Xd n.table n.findTo,findTo:=-1 }).table:=by
    split
    · exact h
    · exact Tk h
  revert h1
  intro h1
  refine Tc (fun _=>⟨SY h1 (fun _=>Tz h1),Vj⟩) (fun _=>Tc (fun _=>⟨h1,Vj⟩) (fun _=>Ju h1))
theorem IX{n:Nd}(h:GoodT G n.table):Qs G (UA n):=by
  unfold UA
  have h1:GoodT G (if n.pingTo≠-1 then { n with table:=Xd n.table n.pingTo,pingTo:=-1 }else n).table:=by
    split
    · exact Tk h
    · exact h
  revert h1
  generalize (if n.pingTo≠-1 then { n with table:=Xd n.table n.pingTo,pingTo:=-1 }else n)=m
  intro h1
  dsimp only
  cases Wy m.table with
  | nil=>exact⟨h1,Vj⟩
  | cons p l=>exact⟨h1,Qh (Mp h1)⟩
theorem Zio{n:Nd}{k:Int}(h:GoodT G n.table)(h0:(Vf n k).2.2=0):GoodT G (Vf n k).1.table∧GX G (Vf n k).2.1:=by
  unfold Vf at *
  split
  · exact Tc (fun _=>Mo h) (fun _=>Tc (fun _=>Gk h) (fun _=>IX h))
  · grind
theorem Mq{n:Nd}{l:Lt}(h:GoodT G n.table):GX G (SN n l):=by
  unfold SN
  split
  · exact Vj
  · refine Qh ⟨h.1,fun _=>?_,fun p d=>(by cases d)⟩
    split
    · exact Tz h
    · rename_i g
      refine Dm h ?_
      grind
theorem Ld{n:Nd}{l:Lt}(h:GoodT G n.table)(g:GoodL G l):Qs G (YF n l):=by
  refine Tc (fun _=>⟨h,Vj⟩) (fun _=>Tc (fun _=>?_) (fun _=>Tc (fun _=>⟨h,Vj⟩) (fun _=>Ju h)))
  refine Tc (fun d=>⟨SY (n:={ n with findTo:=-1 }) h g.2.1,Vj⟩) (fun _=>Tc (fun d=>⟨?_,Vj⟩) (fun _=>⟨h,Vj⟩))
  exact TV (n:={ n with findTo:=-1 }) h (g.2.1 (QA d.2)) (fun q j=>by cases j)
theorem Zin{n:Nd}{l:Lt}(h:GoodT G n.table)(d:GoodL G l):Qs G (Si n l):=by
  refine Tc (fun _=>⟨h,Vj⟩) (fun _=>?_)
  have h1:GoodT G (XO { n with askTo:=-1 } l.frm l.peers).table:=TV (n:={ n with askTo:=-1 }) h d.1 d.2.2
  revert h1
  generalize XO { n with askTo:=-1 } l.frm l.peers=m
  intro h1
  have h2:GoodT G (if TH m.table l.peer then XO m l.peer (l.frm::l.peers)else m).table:=by
    split
    · rename_i j
      refine TV h1 (d.2.1 (QA j.1)) (fun q g=>?_)
      rcases B7.1 g with rfl|g
      · exact d.1
      · exact d.2.2 q g
    · exact h1
  revert h2
  dsimp only
  intro h2
  exact⟨h2,Qh (Mp h2)⟩
theorem Gl{n:Nd}{l:Lt}(h:GoodT G n.table)(d:GoodL G l):GoodT G (If n l).table:=by
  unfold If
  have h1:GoodT G (if n.table.pred.addr=l.frm.addr then WO (Xd n.table l.frm.addr) l.peer else Xd n.table l.frm.addr):=by
    split
    · exact Lc (Tk h) d.2.1
    · exact Tk h
  revert h1
  dsimp only
  generalize (if n.table.pred.addr=l.frm.addr then WO (Xd n.table l.frm.addr) l.peer else Xd n.table l.frm.addr)=t
  intro h1
  cases hp:l.peers with
  | nil=>exact h1
  | cons p ps =>
    dsimp only
    split
    · exact TV (n:={ n with table:=t }) h1 (d.2.2 p (by rw[hp];exact B1)) (fun q g=>d.2.2 q (by rw[hp];exact B2 _ g))
    · exact h1
theorem Zip{n:Nd}{l:Lt}(h:GoodT G n.table)(d:GoodL G l)(h0:(WI n l).2.2=0):GoodT G (WI n l).1.table∧GX G (WI n l).2.1:=by
  unfold WI at *
  by_cases hc:Ui n∧SP l
  · rw[A6 hc]
    split
    · exact⟨h,Vj⟩
    split
    · exact⟨h,Mq h⟩
    split
    · exact Ld h d
    split
    · refine⟨h,?_⟩
      split
      · exact Qh ⟨h.1,h.2.1,h.2.2.1⟩
      · exact Vj
    split
    · exact Zin h d
    split
    · exact⟨Lc h (fun _=>d.1),Vj⟩
    split
    · exact⟨h,Qh (Mp h)⟩
    split
    · refine⟨?_,Vj⟩
      grind
    · exact⟨Gl h d,Vj⟩
  · grind
end
structure WellR (pn:Int→Zr) (G:Zr→Prop) (r:Rg):Prop where
  nd:∀ p∈r.nodes,Ui p.2∧p.2.table.self=pn p.1∧GoodT G p.2.table
  ml:∀ m∈r.bag,GoodL G m.lt
section
variable {pn:Int→Zr} {G:Zr→Prop}
theorem LQ{most frm:Int}:∀{l:List Snd} {b:List Ml},(∀ x∈b,GoodL G x.lt)→GX G l→∀ x∈GG most frm b l,GoodL G x.lt
  | [],_,hb,_=>hb
  | s::l,b,hb,hl=>by
    refine LQ (l:=l) (b:=TY most b ⟨frm,s.to,s.letter⟩) (fun x hx=>?_) fun x hx=>hl x (B2 _ hx)
    unfold TY at hx
    split at hx
    · rcases B8.1 hx with hx|hx
      · exact hb x hx
      · rw[B0.1 hx];exact hl s B1
    · exact hb x hx
theorem WellR.send{r:Rg}(h:WellR pn G r){frm:Int}{l:List Snd}(d:GX G l):WellR pn G (Tq r frm l):=by
  rw[NX]
  exact⟨h.nd,LQ h.ml d⟩
theorem Ma{α:Type}{a:Int}{x:α}{p:Int×α}:∀{l:List (Int×α)},p∈WM a x l→p=(a,x)∨p∈l
  | [],h=>.inl (by simpa[WM]using h)
  | (c,y)::l,h=>by
    unfold WM at h
    split at h
    · rcases B7.1 h with h|h
      · exact .inl h
      · exact .inr h
    · split at h
      · rcases B7.1 h with h|h
        · exact .inl h
        · exact .inr (B2 _ h)
      · rcases B7.1 h with h|h
        · exact .inr (by rw[h];exact B1)
        · rcases Ma h with h|h
          · exact .inl h
          · exact .inr (B2 _ h)
theorem WellR.put{r:Rg}(h:WellR pn G r){a:Int}{n:Nd}(h1:Ui n)(h2:n.table.self=pn a)(h3:GoodT G n.table):WellR pn G { r with nodes:=WM a n r.nodes } :=
  ⟨fun p d=>by
    rcases Ma d with rfl|d
    · exact⟨h1,h2,h3⟩
    · exact h.nd p d,h.ml⟩
theorem WellR.bag{r:Rg}(h:WellR pn G r){b:List Ml}(hb:∀ m∈b,m∈r.bag):WellR pn G { r with bag:=b }:=⟨h.nd,fun m hm=>h.ml m (hb m hm)⟩
theorem WellR.deliver{r:Rg}(h:WellR pn G r)(i:Int):WellR pn G (XL r i).1:=by
  by_cases hi:0≤i∧i<r.bag.length
  · obtain⟨k,rfl⟩:∃ k:Nat,i=k:=⟨i.toNat,by omega⟩
    have hk:k<r.bag.length:=by omega
    have hb:=h.bag (b:=r.bag.eraseIdx k) fun m hm=>List.mem_of_mem_eraseIdx hm
    cases hg:YC (r.bag[k]).zto r.nodes with
    | none=>rw[Rx hk rfl hg];exact hb
    | some n =>
      by_cases h0:(WI n (r.bag[k]).lt).2.2=0
      · rw[Rb hk rfl hg rfl rfl h0]
        obtain⟨g1,g2,g3⟩:=h.nd _ (TW hg)
        have d:=Zip g3 (h.ml _ (C1 hk)) h0
        have g:=(BZ g1 rfl).2 h0
        exact WellR.send (frm:=(r.bag[k]).zto) (r:={ r with bag:=r.bag.eraseIdx k,nodes:=WM (r.bag[k]).zto (WI n (r.bag[k]).lt).1 r.nodes }) (hb.put g.1 (g.2.1.trans g2) d.1) d.2
      · rw[ND hk rfl hg h0];exact hb
  · rw[Rw hi];exact h
theorem WellR.flush:∀(n:Nat) {r:Rg},WellR pn G r→WellR pn G (Va n r)
  | 0,_,h=>h
  | n+1,r,h=>by
    unfold Va
    split
    · exact WellR.flush n (h.deliver 0)
    · exact h
theorem WellR.tick{r:Rg}(h:WellR pn G r)(a k:Int):WellR pn G (RF r a k).1:=by
  cases hg:YC a r.nodes with
  | none=>rw[QU hg];exact h
  | some n =>
    by_cases h0:(Vf n k).2.2=0
    · rw[PU hg rfl rfl h0]
      obtain⟨g1,g2,g3⟩:=h.nd _ (TW hg)
      have g:=Zio g3 h0
      have d:=(Pt g1 rfl).2 h0
      exact WellR.send (r:={ r with nodes:=WM a (Vf n k).1 r.nodes }) (h.put d.1 (d.2.1.trans g2) g.1) g.2
    · rw[HG hg h0];exact h
end
def InW(pn:Int→Zr)(were:List Int)(p:Zr):Prop:=∃ a∈were,p=pn a
theorem Zwp{s:Zr}(h:Yf s.addr):TG (Au s).1∧(Au s).1=⟨s,Yj,[],List.replicate 160 Yj⟩:=by
  unfold Au
  rw[A6 h]
  refine⟨⟨h,.inl rfl,C3 _,List.length_replicate ..,⟨fun p d=>(by cases d),J1⟩,fun p d=>.inl (List.mem_replicate.1 d).2⟩,rfl⟩
theorem NH{s:Zr}{r:Int}(h0:(Uk s r).2=0):Ui (Uk s r).1∧(Uk s r).1.table=⟨s,Yj,[],List.replicate 160 Yj⟩:=by
  unfold Uk at *
  split at h0
  · rename_i d
    rw[A6 d]
    obtain⟨h1,h2⟩:=Zwp d.1
    have hs:(Au s).1.self=s:=by rw[h2]
    refine⟨⟨h1,⟨d.2.1,d.2.2⟩,.inl rfl,⟨(by decide:(0:Int)≤0),(by decide:(0:Int)≤159)⟩,C3 _,⟨(by decide:(0:Int)≤0),(by decide:(0:Int)≤64)⟩,⟨(by decide:(0:Int)≤0),(by decide:(0:Int)≤999999)⟩,?_,fun a ha=>(by cases ha)⟩,h2⟩
    have g:Xe (Au s).1.self (-1):=by rw[hs];exact VP d.1
    grind
  · cases h0
theorem Mh{s:Zr}{r b:Int}(h0:(Ur s r b).2=0):Ui (Ur s r b).1∧(Ur s r b).1.table=⟨s,Yj,[],List.replicate 160 Yj⟩:=by
  unfold Ur at *
  split at h0
  · rename_i d
    rw[A6 d]
    obtain⟨⟨g1,g2,g3,g4,g5,g6,g7,g8,g9⟩,h2⟩:=NH d.1
    have hs:(Uk s r).1.table.self=s:=by rw[h2]
    refine⟨⟨g1,g2,.inr (by show b≠-1;have:=d.2.1.1;omega),g4,g5,g6,g7,⟨?_,g8.2⟩,g9⟩,h2⟩
    rw[hs]
    exact QG d.2.1 d.2.2
  · cases h0
theorem ON{G:Zr→Prop}{s:Zr}(h:G s):GoodT G ⟨s,Yj,[],List.replicate 160 Yj⟩:=⟨h,fun d=>absurd rfl d,fun p g=>(by cases g),fun p g d=>absurd (List.mem_replicate.1 g).2 d⟩
theorem Gg{pn:Int→Zr}{were:List Int}{a:Int}{p:Zr}(h:InW pn were p):InW pn (were++[a]) p:=by
  obtain⟨b,hb,e⟩:=h
  exact⟨b,C5 _ hb,e⟩
theorem Nr{r:Rg}{a:Int}{X:Nd×Int}:(Tg r a X).2=X.2:=by
  unfold Tg
  grind
end Go.Esp
namespace Go.Esp
theorem Rr{α:Type}{a:Int}{x:α}:∀{l:List (Int×α)},(l.map (·.1)).Pairwise (·<·)→YC a l=some x→WM a x l=l
  | [],_,h=>by cases h
  | (c,y)::l,hr,h=>by
    have h2:=D6.1 hr
    unfold WM
    unfold YC at h
    by_cases e:c=a
    · rw[A6 e]at h;cases h;subst e
      rw[A4 jD,A6 rfl]
    · rw[A4 e]at h
      have:c<a:=h2.1 a (C0.2 ⟨(a,x),TW h,rfl⟩)
      rw[A4 jD,A4 e,Rr h2.2 h]
theorem QY{α:Type}{a:Int}{x y:α}:∀{l:List (Int×α)},WM a x (WM a y l)=WM a x l
  | []=>by simp[WM]
  | (c,z)::l=>by
    have d:=QY (a:=a) (x:=x) (y:=y) (l:=l)
    by_cases e:a<c
    · simp[WM,e]
    · by_cases e1:c=a
      · subst e1;simp[WM]
      · simp[WM,e,e1,d]
section
variable {c k:Int} {ns:List (Int×Nd)} {m:Ml} {n n1:Nd} {s:Snd} {N:Nat}
theorem Nz:∀ N,Va N ⟨c,k,ns,[]⟩=⟨c,k,ns,[]⟩
  | 0=>rfl
  | N+1=>Dt (by rw[Rw jQ];show¬(7:Int)=0;decide)
theorem Gr(h:YC m.zto ns=none):Va (N+1) ⟨c,k,ns,[m]⟩=⟨c,k,ns,[]⟩:=by
  have e:=Rx (r:=⟨c,k,ns,[m]⟩) (k:=0) (m:=m) jQ rfl h
  have e:XL ⟨c,k,ns,[m]⟩ 0=(⟨c,k,ns,[]⟩,0):=e
  rw[Pg zV,e,Nz]
theorem Dv(h:YC m.zto ns=some n)(ht:WI n m.lt=(n1,[],0)):Va (N+1) ⟨c,k,ns,[m]⟩=⟨c,k,WM m.zto n1 ns,[]⟩:=by
  have e:=Rb (r:=⟨c,k,ns,[m]⟩) (k:=0) (m:=m) jQ rfl h zY zY zY
  have e:XL ⟨c,k,ns,[m]⟩ 0=(⟨c,k,WM m.zto n1 ns,[]⟩,0):=e
  rw[Pg zV,e,Nz]
theorem Zjf(h:YC m.zto ns=some n)(ht:WI n m.lt=(n1,[s],0))(d:SP s.letter)(hk:0<k):
    Va (N+1) ⟨c,k,ns,[m]⟩=Va N ⟨c,k,WM m.zto n1 ns,[⟨m.zto,s.to,s.letter⟩]⟩:=by
  have e:=Rb (r:=⟨c,k,ns,[m]⟩) (k:=0) (m:=m) jQ rfl h zY zY zY
  have e:XL ⟨c,k,ns,[m]⟩ 0=(Zmc ⟨c,k,WM m.zto n1 ns,[]⟩ m.zto s,0):=e
  rw[Pg zV,e]
  unfold Zmc
  grind
theorem NR{a kind:Int}(h:YC a ns=some n)(ht:Vf n kind=(n1,[],0)):UV a ⟨c,k,ns,[]⟩ kind=⟨c,k,WM a n1 ns,[]⟩:=by
  unfold UV
  rw[PU (r:=⟨c,k,ns,[]⟩) h rfl rfl zY,ht]
  rfl
theorem LZ{a kind:Int}(h:YC a ns=some n)(ht:Vf n kind=(n1,[s],0))(d:SP s.letter)(hk:0<k):
    UV a ⟨c,k,ns,[]⟩ kind=Va 10000 ⟨c,k,WM a n1 ns,[⟨a,s.to,s.letter⟩]⟩:=by
  unfold UV
  rw[PU (r:=⟨c,k,ns,[]⟩) h rfl rfl zY,ht]
  congr 1
  show Zmc ⟨c,k,WM a n1 ns,[]⟩ a s=_
  unfold Zmc
  grind
end
section
variable {n m:Nd} {l:Lt}
theorem tkE(h:Ui n)(g:SP l)(d:Ys n.table.self l.frm):WI n l =
    if l.kind=1 then(n,SN n l,0)
    else if l.kind=2 then((YF n l).1,(YF n l).2,0)
    else if l.kind=3 then(n,if n.joined then[⟨l.frm.addr,{ QC n 4 l.req with peer:=n.table.pred,peers:=n.table.succ }⟩]else[],0)
    else if l.kind=4 then((Si n l).1,(Si n l).2,0)
    else if l.kind=5 then({ n with table:=WO n.table l.frm },[],0)
    else if l.kind=6 then(n,[⟨l.frm.addr,QC n 7 l.req⟩],0)
    else if l.kind=7 then(if n.pingTo=l.frm.addr∧n.pingReq=l.req then { n with pingTo:=-1 }else n,[],0)
    else(If n l,[],0):=by
  unfold WI
  rw[A6 ⟨h,g⟩,A4 (fun q=>q d)]
theorem tk1(h:Ui n)(g:SP l)(d:Ys n.table.self l.frm)(hk:l.kind=1):WI n l=(n,SN n l,0):=by
  rw[tkE h g d,A6 hk]
theorem tk2(h:Ui n)(g:SP l)(d:Ys n.table.self l.frm)(hk:l.kind=2):WI n l=((YF n l).1,(YF n l).2,0):=by
  rw[tkE h g d,A4 jD,A6 hk]
theorem tk3(h:Ui n)(g:SP l)(d:Ys n.table.self l.frm)(hk:l.kind=3):WI n l=(n,if n.joined then[⟨l.frm.addr,{ QC n 4 l.req with peer:=n.table.pred,peers:=n.table.succ }⟩]else[],0):=by
  rw[tkE h g d,A4 jD,A4 jD,A6 hk]
theorem tk4(h:Ui n)(g:SP l)(d:Ys n.table.self l.frm)(hk:l.kind=4):WI n l=((Si n l).1,(Si n l).2,0):=by
  rw[tkE h g d,A4 jD,A4 jD,A4 jD,A6 hk]
theorem tk5(h:Ui n)(g:SP l)(d:Ys n.table.self l.frm)(hk:l.kind=5):WI n l=({ n with table:=WO n.table l.frm },[],0):=by
  rw[tkE h g d,A4 jD,A4 jD,A4 jD,A4 jD,A6 hk]
theorem tk6(h:Ui n)(g:SP l)(d:Ys n.table.self l.frm)(hk:l.kind=6):WI n l=(n,[⟨l.frm.addr,QC n 7 l.req⟩],0):=by
  rw[tkE h g d,A4 jD,A4 jD,A4 jD,A4 jD,A4 jD,A6 hk]
theorem tk7(h:Ui n)(g:SP l)(d:Ys n.table.self l.frm)(hk:l.kind=7):WI n l=(if n.pingTo=l.frm.addr∧n.pingReq=l.req then { n with pingTo:=-1 }else n,[],0):=by
  rw[tkE h g d,A4 jD,A4 jD,A4 jD,A4 jD,A4 jD,A4 jD,A6 hk]
end
structure WN (pn:Int→Zr) (were:List Int) (ns:List (Int×Nd)):Prop where
  rise:(ns.map (·.1)).Pairwise (·<·)
  nd:∀ p∈ns,Ui p.2∧p.2.table.self=pn p.1∧GoodT (InW pn were) p.2.table
  at':∀ a,(pn a).addr=a
section
variable {pn:Int→Zr} {were:List Int} {ns:List (Int×Nd)} {a b c k:Int} {n m n1:Nd}
theorem WN.get(h:WN pn were ns)(d:YC a ns=some n):Ui n∧n.table.self=pn a∧GoodT (InW pn were) n.table:=h.nd _ (TW d)
theorem WN.self(h:WN pn were ns)(d:YC a ns=some n):n.table.self.addr=a:=by rw[(h.get d).2.1,h.at']
theorem WN.other(h:WN pn were ns)(g:YC a ns=some n){p:Zr}(j:InW pn were p)(d:Ys n.table.self p)(hm:YC p.addr ns=some m):Ys m.table.self n.table.self∧m.table.self=p:=by
  obtain⟨x,-,rfl⟩:=j
  have e:m.table.self=pn x:=by rw[(h.get hm).2.1,h.at']
  rw[e]
  exact⟨⟨(h.get g).1.1.1,fun e=>d.2.1 e.symm,fun e=>d.2.2 e.symm⟩,rfl⟩
theorem WN.put(h:WN pn were ns)(g:YC a ns=some n)(h1:Ui n1)(h2:n1.table.self=n.table.self)(h3:GoodT (InW pn were) n1.table):WN pn were (WM a n1 ns) :=
  ⟨NZ h.rise,fun p d=>by
    rcases Ma d with rfl|d
    · exact⟨h1,h2.trans (h.get g).2.1,h3⟩
    · exact h.nd p d,h.at'⟩
def unping(n:Nd):Nd:=if n.pingTo≠-1 then { n with table:=Xd n.table n.pingTo,pingTo:=-1 }else n
def TA(n:Nd):Option Zr:=match Wy n.table with
  | []=>none
  | p::l=>(p::l)[n.turn.toNat % (l.length+1)]?
theorem MS{n:Nd}{p:Zr}(h:TA n=some p):p∈Wy n.table:=by
  unfold TA at h
  grind
theorem KW{n:Nd}(h:Wy n.table≠[]):∃ p,TA n=some p:=by
  unfold TA
  cases hk:Wy n.table with
  | nil=>exact absurd hk h
  | cons q l=>exact⟨_,A7 (by rw[C8];exact G5 _ jD)⟩
def Qd(n:Nd)(a:Int):Nd:={ n with req:=nxR n.req,pingTo:=a,pingReq:=nxR n.req,turn:=(n.turn+1) % 1000000 }
theorem DG(n:Nd):UA n=(match Wy (unping n).table with
    | []=>(unping n,[])
    | p::l=>(Qd (unping n) (((p::l)[(unping n).turn.toNat % (l.length+1)]?).getD Yj).addr,[⟨(((p::l)[(unping n).turn.toNat % (l.length+1)]?).getD Yj).addr,QC (unping n) 6 (nxR (unping n).req)⟩])):=rfl
theorem Zdi{n:Nd}{p:Zr}(h:TA (unping n)=some p):UA n=(Qd (unping n) p.addr,[⟨p.addr,QC (unping n) 6 (nxR (unping n).req)⟩]):=by
  unfold TA at h
  rw[DG]
  grind
theorem Zdk{n:Nd}(h:TA (unping n)=none):UA n=(unping n,[]):=by
  rw[DG]
  cases hk:Wy (unping n).table with
  | nil=>rfl
  | cons q l =>
    obtain⟨p,d⟩:=KW (n:=unping n) (by rw[hk];exact List.cons_ne_nil _ _)
    rw[h]at d;cases d
def UH(lv:Int→Bool)(n:Nd):Nd:=match TA (unping n)with
  | none=>unping n
  | some p=>Qd (unping n) (if lv p.addr then -1 else p.addr)
theorem Ec{G:Zr→Prop}{n:Nd}(h:Ui n)(v:GoodT G n.table):Ui (unping n)∧(unping n).table.self=n.table.self∧GoodT G (unping n).table:=by
  unfold unping
  split
  · refine⟨?_,rfl,Tk v⟩
    have h2:=VM (t:=Xd n.table n.pingTo) h (Tf h.1) rfl
    obtain⟨g1,g2,g3,g4,g5,g6,g7,⟨g8,g,j,d⟩,g9⟩:=h2
    exact⟨g1,g2,g3,g4,g5,g6,g7,⟨g8,g,VP g1.1,d⟩,g9⟩
  · grind
theorem Zmj(h:WN pn were ns)(hk:0<k)(d:YC a ns=some n):UV a ⟨c,k,ns,[]⟩ 3=⟨c,k,WM a (UH (fun x=>(YC x ns).isSome) n) ns,[]⟩:=by
  have h1:=h.get d
  have O:=Pt (k:=3) h1.1 rfl
  have ht:Vf n 3=((UA n).1,(UA n).2,0):=by
    unfold Vf;rw[A6 ⟨h1.1,by decide,by decide⟩];rfl
  rw[ht]at O
  have y:TF n (UA n):=O.2 rfl
  have K:=IX h1.2.2
  have hu:=Ec h1.1 h1.2.2
  unfold UH
  cases hp:TA (unping n)with
  | none =>
    rw[Zdk hp]at ht
    exact NR d ht
  | some p =>
    rw[Zdi hp]at ht y K
    have D:Ys n.table.self p:=hu.2.1 ▸ Qf hu.1.1 p (MS hp)
    have L:SP (QC (unping n) 6 (nxR (unping n).req)):=(y.2.2.1 _ B1).1
    rw[LZ d ht L hk]
    have R:WN pn were (WM a (Qd (unping n) p.addr) ns):=h.put d y.1 y.2.1 K.1
    have j:p.addr≠a:=fun e=>D.2.1 (e.trans (h.self d).symm)
    have F:YC a (WM a (Qd (unping n) p.addr) ns)=some (Qd (unping n) p.addr):=by rw[Ut _ _ _ _ h.rise,A6 rfl]
    show _=Rg.mk c k (WM a (Qd (unping n) (if(YC p.addr ns).isSome=true then -1 else p.addr)) ns) []
    by_cases hl:YC p.addr ns=none
    · rw[Gr (by rw[Ut _ _ _ _ h.rise,A4 j];exact hl),hl]
      rfl
    · obtain⟨m,hm⟩:=Option.ne_none_iff_exists'.1 hl
      have C:YC p.addr (WM a (Qd (unping n) p.addr) ns)=some m:=by rw[Ut _ _ _ _ h.rise,A4 j];exact hm
      have hs:(unping n).table.self=n.table.self:=hu.2.1
      have g:=h.other d (Pd hu.2.2 p (MS hp)) D hm
      have v:=(h.get hm).1
      have B:SP (QC m 7 (nxR (unping n).req)):=Nv (.inr (.inr (.inl rfl))) v.1.1
      rw[Zjf (s:=⟨a,QC m 7 (nxR (unping n).req)⟩) C (by
        rw[tk6 v L (by show Ys m.table.self (unping n).table.self;rw[hs];exact g.1) rfl]
        show(m,[Snd.mk (unping n).table.self.addr _],(0:Int))=_
        rw[hs,h.self d]
        rfl) B hk]
      rw[Rr R.rise C,Dv (n1:=Qd (unping n) (-1)) F (by
        rw[tk7 y.1 B (by show Ys (unping n).table.self m.table.self;rw[hs,g.2];exact D) rfl,A6 ⟨by show p.addr=m.table.self.addr;rw[g.2],rfl⟩]
        rfl),QY,hm]
      rfl
def unask(n:Nd):Nd:=if n.askTo≠-1 then { n with table:=Xd n.table n.askTo,askTo:=-1 }else n
def ready(n:Nd):Nd:=if(unask n).table.succ=[]∧(unask n).table.pred≠Yj then XO (unask n) (unask n).table.pred []else unask n
def SO(n:Nd)(a:Int):Nd:={ n with req:=nxR n.req,askTo:=a,askReq:=nxR n.req }
def tells(x:Nd)(q:Int):Lt:={ QC x 4 q with peer:=x.table.pred,peers:=x.table.succ }
def TU(n:Nd)(l:Lt):Nd :=
  let m:=XO { n with askTo:=-1 } l.frm l.peers
  if TH m.table l.peer then XO m l.peer (l.frm::l.peers)else m
theorem Zbb(hj:n.joined=true):UD n=if(ready n).table.succ=[]then(ready n,[])else(SO (ready n) (Yv (ready n).table).addr,[⟨(Yv (ready n).table).addr,QC (ready n) 3 (nxR (ready n).req)⟩]):=by
  unfold UD;rw[A4 zN];rfl
theorem Zav{l:Lt}(h1:n.askTo=l.frm.addr)(h2:n.askReq=l.req):Si n l=(TU n l,[⟨(Yv (TU n l).table).addr,QC (TU n l) 5 0⟩]):=by
  unfold Si;rw[A4 (fun q=>q.elim (fun q=>q h1) fun q=>q h2)];rfl
theorem LY{G:Zr→Prop}{n:Nd}(h:Ui n)(d:GoodT G n.table):Ui (unask n)∧(unask n).table.self=n.table.self∧GoodT G (unask n).table:=by
  unfold unask
  split
  · refine⟨?_,rfl,Tk d⟩
    exact TP (q:=n.req) (r:=n.askReq) (VM (t:=Xd n.table n.askTo) h (Tf h.1) rfl) (VP (Tf h.1).1)
  · grind
theorem Tr{G:Zr→Prop}{n:Nd}(h:Ui n)(j:GoodT G n.table):Ui (ready n)∧(ready n).table.self=n.table.self∧GoodT G (ready n).table:=by
  have hu:=LY h j
  unfold ready
  split
  · rename_i d
    have h2:=Pu (p:=(unask n).table.pred) (l:=[]) hu.1
    exact⟨h2.1,h2.2.trans hu.2.1,TV hu.2.2 (hu.2.2.2.1 d.2) fun q g=>by cases g⟩
  · exact hu
theorem AQ{G:Zr→Prop}{n:Nd}{l:Lt}(h:Ui n)(K:GoodT G n.table)(j:GoodL G l)(F:Ys n.table.self l.frm):
    Ui (TU n l)∧(TU n l).table.self=n.table.self∧GoodT G (TU n l).table∧Ys n.table.self (Yv (TU n l).table):=by
  have d:Ui { n with askTo:=-1 }:=TP (q:=n.req) (r:=n.askReq) h (VP h.1.1)
  obtain⟨t,ht,h1,h2,h3⟩:=Ot (l:=l.peers) d F
  have hm:=VM d h1 h2
  have g:GoodT G (XO { n with askTo:=-1 } l.frm l.peers).table:=TV K j.1 j.2.2
  unfold TU
  rw[ht]at g ⊢
  by_cases hc:TH t l.peer
  · obtain⟨t2,y,C,B,D⟩:=Ot (l:=l.frm::l.peers) hm hc.1
    have v:GoodT G (XO { { n with askTo:=-1 }with table:=t } l.peer (l.frm::l.peers)).table:=TV g (j.2.1 (QA hc.1)) fun q d=>by
      rcases B7.1 d with rfl|d
      · exact j.1
      · exact j.2.2 q d
    rw[A6 hc]
    rw[y]at v ⊢
    exact⟨VM hm C B,B.trans h2,v,by show Ys _ (Yv t2);rw[D,← h2];exact hc.1⟩
  · grind
def Ti(p:Zr)(a:Int)(ns:List (Int×Nd)):List (Int×Nd):=match YC a ns with
  | none=>ns
  | some y=>WM a { y with table:=WO y.table p } ns
def Vg(ns:List (Int×Nd))(a:Int):Option Nd:=match YC a ns with
  | none=>none
  | some x=>if x.joined then some x else none
def DO(a:Int)(n:Nd)(ns:List (Int×Nd)):List (Int×Nd) :=
  if(ready n).table.succ=[]then WM a (ready n) ns
  else match Vg ns (Yv (ready n).table).addr with
    | none=>WM a (SO (ready n) (Yv (ready n).table).addr) ns
    | some x =>
      let m:=TU (SO (ready n) (Yv (ready n).table).addr) (tells x (nxR (ready n).req))
      Ti n.table.self (Yv m.table).addr (WM a m ns)
theorem Oh{ns:List (Int×Nd)}{a:Int}(h:Vg ns a=none):YC a ns=none∨∃ x,YC a ns=some x∧x.joined=false:=by
  unfold Vg at h
  grind
theorem Uo{ns:List (Int×Nd)}{a:Int}{x:Nd}(h:Vg ns a=some x):YC a ns=some x∧x.joined=true:=by
  unfold Vg at h
  grind
theorem BW{G:Zr→Prop}{x:Nd}{q:Int}(h:Ui x)(g:GoodT G x.table):GoodL G (tells x q):=⟨g.1,fun d=>g.2.1 d,fun p d=>g.2.2.1 p d⟩
theorem Zml(h:WN pn were ns)(hk:0<k)(B:YC a ns=some n)(hj:n.joined=true):UV a ⟨c,k,ns,[]⟩ 1=⟨c,k,DO a n ns,[]⟩:=by
  have h1:=h.get B
  have hT:=Pt (k:=1) h1.1 rfl
  have ht:Vf n 1=((UD n).1,(UD n).2,0):=by
    unfold Vf;rw[A6 ⟨h1.1,by decide,by decide⟩];rfl
  rw[ht]at hT
  have O:TF n (UD n):=hT.2 rfl
  have hG:=Mo h1.2.2
  have L:=Tr h1.1 h1.2.2
  rw[Zbb hj]at ht O hG
  unfold DO
  by_cases h0:(ready n).table.succ=[]
  · rw[A6 h0]at ht
    rw[A6 h0]
    exact NR B ht
  · rw[A4 h0]at ht O hG
    rw[A4 h0]
    obtain⟨f,hf⟩:∃ f,Yv (ready n).table=f:=⟨_,rfl⟩
    obtain⟨q,hq⟩:∃ q,nxR (ready n).req=q:=⟨_,rfl⟩
    obtain⟨m,hm⟩:∃ m,SO (ready n) f.addr=m:=⟨_,rfl⟩
    have T:m.askTo=f.addr∧m.askReq=q:=by rw[← hm,← hq];exact⟨rfl,rfl⟩
    rw[hf,hq,hm]at ht O hG
    rw[hf,hq,hm]
    have ho:Ys n.table.self f:=by have:=Tl L.1.1 h0;rw[hf,L.2.1]at this;exact this
    have R:InW pn were f:=hf ▸ Tz L.2.2
    have hI:SP (QC (ready n) 3 q):=(O.2.2.1 _ B1).1
    have d:Ui m∧m.table.self=n.table.self∧GoodT (InW pn were) m.table:=⟨O.1,O.2.1,hG.1⟩
    rw[LZ B ht hI hk]
    have hW:WN pn were (WM a m ns):=h.put B d.1 d.2.1 d.2.2
    have ag:f.addr≠a:=fun e=>ho.2.1 (e.trans (h.self B).symm)
    have ae:YC a (WM a m ns)=some m:=by rw[Ut _ _ _ _ h.rise,A6 rfl]
    have v:YC f.addr (WM a m ns)=YC f.addr ns:=by rw[Ut _ _ _ _ h.rise,A4 ag]
    cases hja:Vg ns f.addr with
    | none =>
      rcases Oh hja with hl|⟨x,hx,F⟩
      · exact Gr (v.trans hl)
      · have g:=(h.get hx).1
        have j:=h.other B R ho hx
        rw[Dv (v.trans hx) (by
          rw[tk3 g hI (by show Ys x.table.self (ready n).table.self;rw[L.2.1];exact j.1) rfl,F]
          rfl)]
        rw[Rr hW.rise (v.trans hx)]
    | some x =>
      obtain⟨hx,F⟩:=Uo hja
      have g:=h.get hx
      have j:=h.other B R ho hx
      have V:WI x (QC (ready n) 3 q)=(x,[⟨a,tells x q⟩],0):=by
        rw[tk3 g.1 hI (by show Ys x.table.self (ready n).table.self;rw[L.2.1];exact j.1) rfl,F]
        show(x,[Snd.mk (ready n).table.self.addr _],(0:Int))=_
        rw[L.2.1,h.self B]
        rfl
      have ab:SP (tells x q):=by
        have:=(BZ g.1 V).2 rfl
        exact(this.2.2.1 _ B1).1
      rw[Zjf (v.trans hx) V ab hk]
      rw[Rr hW.rise (v.trans hx)]
      have Z:Ys m.table.self (tells x q).frm:=by show Ys m.table.self x.table.self;rw[d.2.1,j.2];exact ho
      have K:=AQ d.1 d.2.2 (BW (q:=q) g.1 g.2.2) Z
      obtain⟨m2,D⟩:∃ m2,TU m (tells x q)=m2:=⟨_,rfl⟩
      have ai:WI m (tells x q)=(m2,[⟨(Yv m2.table).addr,QC m2 5 0⟩],0):=by
        rw[tk4 d.1 ab Z rfl,Zav (by rw[T.1];show f.addr=x.table.self.addr;rw[j.2]) T.2,D]
      rw[D]at K
      have U:SP (QC m2 5 0):=Nv (.inr (.inr (.inr ⟨rfl,rfl⟩))) K.1.1.1
      rw[Zjf ae ai U hk]
      show Va 9998 ⟨c,k,WM a m2 (WM a m ns),[⟨a,(Yv m2.table).addr,QC m2 5 0⟩]⟩=Rg.mk c k (Ti n.table.self (Yv (TU m (tells x q)).table).addr (WM a (TU m (tells x q)) ns)) []
      rw[QY,D]
      have C:m2.table.self=n.table.self:=K.2.1.trans d.2.1
      have aa:WN pn were (WM a m2 ns):=h.put B K.1 C K.2.2.1
      have ah:YC a (WM a m2 ns)=some m2:=by rw[Ut _ _ _ _ h.rise,A6 rfl]
      unfold Ti
      cases hy:YC (Yv m2.table).addr (WM a m2 ns)with
      | none=>exact Gr hy
      | some y =>
        have ad:=aa.other ah (Tz K.2.2.1) (by rw[C,← d.2.1];exact K.2.2.2) hy
        refine(Dv hy (by
          rw[tk5 (aa.get hy).1 U ad.1 rfl])).trans ?_
        show Rg.mk c k (WM _ { y with table:=WO y.table m2.table.self } _) []=_
        rw[C]
def Xl(n:Nd):Lt:={ QC n 1 n.findReq with id:=n.findID,avoid:=n.avoid }
def Xq(x:Nd)(l:Lt):Lt :=
  let d:=WV x.table l.id
  let q:=YJ x.table l.id l.avoid
  { QC x 2 l.req with done:=d.2 || !q.2,peer:=if d.2 || !q.2 then d.1 else q.1 }
def Vz(ns:List (Int×Nd))(s:Zr)(b:Int):Option Nd:=match YC b ns with
  | none=>none
  | some x=>if x.joined=true∧Ys x.table.self s then some x else none
def XS(ns:List (Int×Nd)):Nat→Nd→Nd
  | 0,n=>n
  | F+1,n=>match Vz ns n.table.self n.findTo with
    | none=>n
    | some x=>match (YF n (Xq x (Xl n))).2 with
      | []=>(YF n (Xq x (Xl n))).1
      | _=>XS ns F (YF n (Xq x (Xl n))).1
theorem NB{ns:List (Int×Nd)}{s:Zr}{b:Int}(h:Vz ns s b=none):YC b ns=none∨∃ x,YC b ns=some x∧(x.joined=false∨¬Ys x.table.self s):=by
  unfold Vz at h
  grind
theorem Vi{ns:List (Int×Nd)}{s:Zr}{b:Int}{x:Nd}(h:Vz ns s b=some x):YC b ns=some x∧x.joined=true∧Ys x.table.self s:=by
  unfold Vz at h
  grind
theorem KI(n:Nd)(b:Int):UY n b=((UY n b).1,[⟨(UY n b).1.findTo,Xl (UY n b).1⟩]):=rfl
theorem Pe{n:Nd}{l:Lt}(h1:n.findTo=l.frm.addr)(h2:n.findReq=l.req):
    (YF n l).2=[]∨(YF n l=UY { n with hops:=n.hops+1 } l.peer.addr∧n.hops<32∧Ys n.table.self l.peer∧l.peer.addr∉n.avoid∧l.done=false):=by
  unfold YF
  grind
structure Seeks (pn:Int→Zr) (were:List Int) (s:Zr) (n:Nd):Prop where
  nd:Ui n
  self:n.table.self=s
  good:GoodT (InW pn were) n.table
  lt:SP (Xl n)
  hop:0≤n.hops∧n.hops≤32
theorem Nj{x:Nd}{l:Lt}(h:Ui x)(g:SP l)(d:¬Ys x.table.self l.frm):WI x l=(x,[],0):=by
  unfold WI;rw[A6 ⟨h,g⟩,A6 d]
theorem Qk{x:Nd}{l:Lt}(hj:x.joined=true):SN x l=[⟨l.frm.addr,Xq x l⟩]:=by
  unfold SN;rw[A4 zN];rfl
theorem Seeks.step{s:Zr}{n x:Nd}(h:WN pn were ns)(v:Seeks pn were s n)(hx:Vz ns n.table.self n.findTo=some x):
    SP (Xq x (Xl n))∧Ys n.table.self x.table.self∧n.findTo=x.table.self.addr∧Qs (InW pn were) (YF n (Xq x (Xl n)))∧TF n (YF n (Xq x (Xl n))) ∧
    ((YF n (Xq x (Xl n))).2=[]∨∃ m,YF n (Xq x (Xl n))=(m,[⟨m.findTo,Xl m⟩])∧Seeks pn were s m∧m.hops=n.hops+1):=by
  obtain⟨hx,hj,C⟩:=Vi hx
  have g:=h.get hx
  have F:=Iq g.1 (l:=Xl n) C
  rw[Qk hj]at F
  have K:SP (Xq x (Xl n)):=(F.2.2.1 _ B1).1
  have d:=Mq (l:=Xl n) g.2.2
  rw[Qk hj]at d
  have d:GoodL (InW pn were) (Xq x (Xl n)):=d _ B1
  have D:n.findTo=x.table.self.addr:=(h.self hx).symm
  have B:Ys n.table.self x.table.self:=⟨g.1.1.1,fun e=>C.2.1 e.symm,fun e=>C.2.2 e.symm⟩
  have j:=KE (l:=Xq x (Xl n)) v.nd
  have y:=Ld v.good d
  refine⟨K,B,D,y,j,?_⟩
  rcases Pe (n:=n) (l:=Xq x (Xl n)) D rfl with e|⟨e,R,O,L,T⟩
  · exact .inl e
  · refine .inr ⟨(UY { n with hops:=n.hops+1 } (Xq x (Xl n)).peer.addr).1,e.trans (KI _ _),?_,rfl⟩
    rw[e,KI]at j y
    exact⟨j.1,j.2.1.trans v.self,y.1,(j.2.2.1 _ B1).1,by show 0≤n.hops+1∧n.hops+1≤32;have:=v.hop;omega⟩
theorem Zac(h:WN pn were ns)(hk:0<k)(C:YC a ns=some n):∀(F N:Nat) (m:Nd),Seeks pn were n.table.self m→33≤m.hops+F→2 * F≤N →
    Va N ⟨c,k,WM a m ns,[⟨a,m.findTo,Xl m⟩]⟩=⟨c,k,WM a (XS ns F m) ns,[]⟩:=by
  intro F
  induction F with
  | zero=>intro N m d h1;have:=d.hop;omega
  | succ F ih =>
    intro N m d h1 V
    obtain⟨N,rfl⟩:∃ T,N=T+2:=⟨N-2,by omega⟩
    have L:WN pn were (WM a m ns):=h.put C d.nd d.self d.good
    have B:YC a (WM a m ns)=some m:=by rw[Ut _ _ _ _ h.rise,A6 rfl]
    have hb:m.findTo≠a:=by
      have h9:=d.nd.2.2.2.2.2.2.2.1.2.2.2.2
      rw[d.self,h.self C]at h9
      exact h9
    have g:YC m.findTo (WM a m ns)=YC m.findTo ns:=by rw[Ut _ _ _ _ h.rise,A4 hb]
    unfold XS
    cases hf:Vz ns m.table.self m.findTo with
    | none =>
      rcases NB hf with R|⟨x,hx,K⟩
      · exact Gr (g.trans R)
      · have j:=(h.get hx).1
        have ht:WI x (Xl m)=(x,[],0):=by
          by_cases y:Ys x.table.self m.table.self
          · rw[tk1 j d.lt y rfl]
            have hj:x.joined=false:=K.elim id fun q=>absurd y q
            unfold SN;rw[A6 hj]
          · exact Nj j d.lt y
        rw[Dv (g.trans hx) ht]
        rw[Rr L.rise (g.trans hx)]
    | some x =>
      have hs:=d.step h hf
      obtain⟨hx,hj,y⟩:=Vi hf
      have j:=(h.get hx).1
      have D:(Xl m).frm.addr=a:=by show m.table.self.addr=a;rw[d.self,h.self C]
      have ht:WI x (Xl m)=(x,[⟨a,Xq x (Xl m)⟩],0):=by
        rw[tk1 j d.lt y rfl,Qk hj,D]
      rw[Zjf (g.trans hx) ht hs.1 hk]
      rw[Rr L.rise (g.trans hx)]
      have v:WI m (Xq x (Xl m))=((YF m (Xq x (Xl m))).1,(YF m (Xq x (Xl m))).2,0):=tk2 d.nd hs.1 hs.2.1 rfl
      rcases hs.2.2.2.2.2 with e|⟨m2,e,O,U⟩
      · rw[e]at v
        rw[Dv B v]
        rw[QY]
        simp only[e]
      · rw[e]at v
        rw[Zjf B v O.lt hk]
        rw[QY,ih N m2 O jD jD]
        simp only[e]
def unfind(n:Nd):Nd:=if n.findTo=-1 then { n with avoid:=[] }else { Uf n n.findTo with table:=Xd n.table n.findTo,findTo:=-1 }
def TX(n:Nd):Plc:=n.table.self.id+To n.cursor.toNat
def OR(ns:List (Int×Nd))(n:Nd):Nd :=
  if n.joined=false then n
  else if(WV (unfind n).table (TX (unfind n))).2=true then WZ (unfind n) (WV (unfind n).table (TX (unfind n))).1
  else if(YJ (unfind n).table (TX (unfind n)) (unfind n).avoid).2=false then { unfind n with cursor:=0 }
  else XS ns 33 (UY { unfind n with findID:=TX (unfind n),hops:=0 } (YJ (unfind n).table (TX (unfind n)) (unfind n).avoid).1.addr).1
def Uj(n:Nd):Nd:=if n.findTo≠-1∧n.findTo≠n.boot then Uf n n.findTo else n
def UJ(ns:List (Int×Nd))(n:Nd):Nd:=XS ns 33 (UY { Uj n with findID:=(Uj n).table.self.id,hops:=0 } (Uj n).boot).1
theorem Hg(hj:n.joined=true):JB n=if(WV (unfind n).table (TX (unfind n))).2 then(WZ (unfind n) (WV (unfind n).table (TX (unfind n))).1,[])
    else if(YJ (unfind n).table (TX (unfind n)) (unfind n).avoid).2=false then({ unfind n with cursor:=0 },[])
    else UY { unfind n with findID:=TX (unfind n),hops:=0 } (YJ (unfind n).table (TX (unfind n)) (unfind n).avoid).1.addr:=by
  unfold JB;rw[A4 zN];rfl
theorem En(hj:n.joined=false):UD n=UY { Uj n with findID:=(Uj n).table.self.id,hops:=0 } (Uj n).boot:=by
  unfold UD;rw[A6 hj];rfl
theorem Kb{r:Nd×List Snd}{b:Int}(e:r=UY m b)(d:TF n r)(g:Qs (InW pn were) r)(h0:m.hops=0):Seeks pn were n.table.self (UY m b).1:=by
  rw[e,KI]at d g
  exact⟨d.1,d.2.1,g.1,(d.2.2.1 _ B1).1,by show 0≤m.hops∧m.hops≤32;rw[h0];decide⟩
theorem Zmk(h:WN pn were ns)(hk:0<k)(d:YC a ns=some n):UV a ⟨c,k,ns,[]⟩ 2=⟨c,k,WM a (OR ns n) ns,[]⟩:=by
  have h1:=h.get d
  have j:=Pt (k:=2) h1.1 rfl
  have ht:Vf n 2=((JB n).1,(JB n).2,0):=by
    unfold Vf;rw[A6 ⟨h1.1,by decide,by decide⟩];rfl
  rw[ht]at j
  have v:TF n (JB n):=j.2 rfl
  have y:=Gk h1.2.2
  unfold OR
  by_cases hj:n.joined=false
  · rw[A6 hj]
    have e:JB n=(n,[]):=by unfold JB;rw[A6 hj]
    rw[e]at ht
    exact NR d ht
  · have hj:n.joined=true:=by simpa using hj
    rw[A4 zN]
    have e:=Hg hj
    by_cases h2:(WV (unfind n).table (TX (unfind n))).2=true
    · rw[A6 h2]at e
      rw[A6 h2]
      rw[e]at ht
      exact NR d ht
    · rw[A4 h2]at e
      rw[A4 h2]
      by_cases h3:(YJ (unfind n).table (TX (unfind n)) (unfind n).avoid).2=false
      · rw[A6 h3]at e
        rw[A6 h3]
        rw[e]at ht
        exact NR d ht
      · rw[A4 h3]at e
        rw[A4 h3]
        have g:=Kb e v y rfl
        rw[e,KI]at ht
        rw[LZ d ht g.lt hk]
        exact Zac h hk d 33 10000 _ g yA jM
theorem Zmm(h:WN pn were ns)(hk:0<k)(d:YC a ns=some n)(hj:n.joined=false):UV a ⟨c,k,ns,[]⟩ 1=⟨c,k,WM a (UJ ns n) ns,[]⟩:=by
  have h1:=h.get d
  have j:=Pt (k:=1) h1.1 rfl
  have ht:Vf n 1=((UD n).1,(UD n).2,0):=by
    unfold Vf;rw[A6 ⟨h1.1,by decide,by decide⟩];rfl
  rw[ht]at j
  have v:TF n (UD n):=j.2 rfl
  have y:=Mo h1.2.2
  have e:=En hj
  have g:=Kb e v y rfl
  rw[e,KI]at ht
  rw[LZ d ht g.lt hk]
  exact Zac h hk d 33 10000 _ g yA jM
def T1(a:Int)(ns:List (Int×Nd)):List (Int×Nd):=match YC a ns with
  | none=>ns
  | some n=>if n.joined then DO a n ns else WM a (UJ ns n) ns
def T3(a:Int)(ns:List (Int×Nd)):List (Int×Nd):=match YC a ns with
  | none=>ns
  | some n=>WM a (UH (fun x=>(YC x ns).isSome) n) ns
def T2(a:Int)(ns:List (Int×Nd)):List (Int×Nd):=match YC a ns with
  | none=>ns
  | some n=>WM a (OR ns n) ns
def Xt(ns:List (Int×Nd)):List (Int×Nd):=(ns.map (·.1)).foldl (fun ns a=>T2 a (T3 a (T1 a ns))) ns
theorem WN.well(h:WN pn were ns):WellR pn (InW pn were) ⟨c,k,ns,[]⟩:=⟨h.nd,fun m hm=>by cases hm⟩
theorem WN.of{d:List (Int×Nd)}(h:WN pn were ns){x:Int}{j:Int}(e:UV x ⟨c,k,ns,[]⟩ j=⟨c,k,d,[]⟩):WN pn were d∧d.map (·.1)=ns.map (·.1):=by
  have h1:WellR pn (InW pn were) (UV x ⟨c,k,ns,[]⟩ j):=(h.well.tick x j).flush 10000
  have h2:=Zca (r:=⟨c,k,ns,[]⟩) h.rise x j
  rw[e]at h1 h2
  have h2:d.map (·.1)=ns.map (·.1):=h2
  exact⟨⟨by rw[h2];exact h.rise,h1.nd,h.at'⟩,h2⟩
theorem Zvc(h:WN pn were ns)(hk:0<k):UV a ⟨c,k,ns,[]⟩ 1=⟨c,k,T1 a ns,[]⟩:=by
  unfold T1
  cases hn:YC a ns with
  | none=>unfold UV;rw[QU (r:=⟨c,k,ns,[]⟩) hn];exact Nz _
  | some n =>
    cases hj:n.joined with
    | true=>simp only[hj];exact Zml h hk hn hj
    | false=>simp only[hj];exact Zmm h hk hn hj
theorem Zva(h:WN pn were ns)(hk:0<k):UV a ⟨c,k,ns,[]⟩ 3=⟨c,k,T3 a ns,[]⟩:=by
  unfold T3
  cases hn:YC a ns with
  | none=>unfold UV;rw[QU (r:=⟨c,k,ns,[]⟩) hn];exact Nz _
  | some n=>exact Zmj h hk hn
theorem Zvb(h:WN pn were ns)(hk:0<k):UV a ⟨c,k,ns,[]⟩ 2=⟨c,k,T2 a ns,[]⟩:=by
  unfold T2
  cases hn:YC a ns with
  | none=>unfold UV;rw[QU (r:=⟨c,k,ns,[]⟩) hn];exact Nz _
  | some n=>exact Zmk h hk hn
theorem WN.t1(h:WN pn were ns)(a:Int):WN pn were (T1 a ns)∧(T1 a ns).map (·.1)=ns.map (·.1):=h.of (Zvc (c:=1) h (Int.zero_lt_one))
theorem WN.t3(h:WN pn were ns)(a:Int):WN pn were (T3 a ns)∧(T3 a ns).map (·.1)=ns.map (·.1):=h.of (Zva (c:=1) h (Int.zero_lt_one))
theorem WN.t2(h:WN pn were ns)(a:Int):WN pn were (T2 a ns)∧(T2 a ns).map (·.1)=ns.map (·.1):=h.of (Zvb (c:=1) h (Int.zero_lt_one))
theorem Zew(h:WN pn were ns)(hk:0<k):Im ⟨c,k,ns,[]⟩ a=⟨c,k,T2 a (T3 a (T1 a ns)),[]⟩:=by
  show UV a (UV a (UV a ⟨c,k,ns,[]⟩ 1) 3) 2=_
  rw[Zvc h hk,Zva (h.t1 a).1 hk,Zvb ((h.t1 a).1.t3 a).1 hk]
theorem CH:∀(l:List Int) {ns:List (Int×Nd)},WN pn were ns→0<k→l.foldl Im ⟨c,k,ns,[]⟩=⟨c,k,l.foldl (fun ns a=>T2 a (T3 a (T1 a ns))) ns,[]⟩
  | [],_,_,_=>rfl
  | a::l,ns,h,hk=>by
    rw[G6,G6,Zew h hk,CH l (((h.t1 a).1.t3 a).1.t2 a).1 hk]
theorem KP(h:WN pn were ns)(hk:0<k):VI ⟨c,k,ns,[]⟩=⟨c,k,Xt ns,[]⟩:=by
  unfold VI
  rw[Nz,CH _ h hk]
  rfl
end
end Go.Esp
namespace Go.Esp
def Alike(n n':Nd):Prop:=n'={ n with table:=n'.table }
theorem Alike.refl(n:Nd):Alike n n:=rfl
theorem Alike.trans{a b c:Nd}(h:Alike a b)(h1:Alike b c):Alike a c:=by
  unfold Alike at *
  rw[h1,h]
def AlikeP(n n':Nd):Prop:=n'={ n with table:={ n.table with pred:=n'.table.pred } }
theorem AlikeP.refl(n:Nd):AlikeP n n:=rfl
theorem AlikeP.trans{a b c:Nd}(h:AlikeP a b)(h1:AlikeP b c):AlikeP a c:=by
  unfold AlikeP at *
  rw[h1,h]
theorem Zoe(t:Tb)(p:Zr):WO t p={ t with pred:=(WO t p).pred }:=by
  unfold WO
  split <;> rfl
theorem CV(n:Nd)(p:Zr):AlikeP n { n with table:=WO n.table p }:=by
  exact A9 (fun t=>{ n with table:=t }) (Zoe n.table p)
section
variable {pn:Int→Zr} {were:List Int} {ns:List (Int×Nd)} {a b c k:Int} {n m n1:Nd} {G:Zr→Prop} {Y:Int}
theorem Vh(h:WN pn were ns):YC b (WM a n ns)=if b=a then some n else YC b ns:=Ut _ _ _ _ h.rise
theorem Zcw{p:Zr}(h:WN pn were ns)(hm:YC b ns=some m):∃ d,YC b (Ti p a ns)=some d∧AlikeP m d:=by
  unfold Ti
  cases hg:YC a ns with
  | none=>exact⟨m,hm,AlikeP.refl m⟩
  | some y =>
    rw[Vh h]
    by_cases e:b=a
    · subst e
      rw[hm]at hg;cases hg
      exact⟨_,A6 rfl,CV m p⟩
    · exact⟨m,by rw[A4 e,hm],AlikeP.refl m⟩
def Rl(n:Nd)(ns:List (Int×Nd)):Nd :=
  if(ready n).table.succ=[]then ready n
  else match Vg ns (Yv (ready n).table).addr with
    | none=>SO (ready n) (Yv (ready n).table).addr
    | some x=>TU (SO (ready n) (Yv (ready n).table).addr) (tells x (nxR (ready n).req))
def SJ(n:Nd)(ns:List (Int×Nd)):Option Int :=
  if(ready n).table.succ=[]then none
  else match Vg ns (Yv (ready n).table).addr with
    | none=>none
    | some x=>some (Yv (Rl n ns).table).addr
theorem GH:DO a n ns=match SJ n ns with
    | none=>WM a (Rl n ns) ns
    | some y=>Ti n.table.self y (WM a (Rl n ns) ns):=by
  unfold DO SJ Rl
  grind
theorem JK{G:Zr→Prop}(h:WN pn were ns)(O:YC a ns=some n)(R:GoodT G n.table)(hx:∀ x,Vg ns (Yv (ready n).table).addr=some x→GoodT G x.table):
    Ui (Rl n ns)∧(Rl n ns).table.self=n.table.self∧GoodT G (Rl n ns).table∧(∀ y,SJ n ns=some y→y=(Yv (Rl n ns).table).addr∧Ys n.table.self (Yv (Rl n ns).table)):=by
  have h1:=h.get O
  have d:=Tr h1.1 R
  have D:=Tr h1.1 h1.2.2
  unfold Rl SJ
  by_cases h0:(ready n).table.succ=[]
  · grind
  · simp only[A4 h0]
    have B:Ys n.table.self (Yv (ready n).table):=by have:=Tl d.1.1 h0;rw[d.2.1]at this;exact this
    have L:Ui (SO (ready n) (Yv (ready n).table).addr):=TP d.1 (by rw[d.2.1];exact QG B.1 B.2.1)
    cases hj:Vg ns (Yv (ready n).table).addr with
    | none=>exact⟨L,d.2.1,d.2.2,fun y j=>by cases j⟩
    | some x =>
      obtain⟨g,T⟩:=Uo hj
      have K:=h.get g
      have C:=h.other O (Tz D.2.2) B g
      have F:Ys (ready n).table.self (tells x (nxR (ready n).req)).frm:=by show Ys _ x.table.self;rw[C.2,d.2.1];exact B
      have v:=AQ L d.2.2 (BW (q:=nxR (ready n).req) K.1 (hx x hj)) F
      refine⟨v.1,v.2.1.trans d.2.1,v.2.2.1,fun y j=>?_⟩
      simp only[G1]at j
      refine⟨?_,d.2.1 ▸ v.2.2.2⟩
      rw[← j]
      unfold Rl
      simp only[A4 h0,hj]
theorem Zit(h:WN pn were ns)(d:YC a ns=some n)(hm:YC b ns=some m):if b=a then YC a (DO a n ns)=some (Rl n ns)else∃ g,YC b (DO a n ns)=some g∧AlikeP m g:=by
  have h1:=h.get d
  have hk:=JK (G:=InW pn were) h d h1.2.2 fun x hx=>(h.get (Uo hx).1).2.2
  have v:WN pn were (WM a (Rl n ns) ns):=h.put d hk.1 hk.2.1 hk.2.2.1
  rw[GH]
  cases ht:SJ n ns with
  | none =>
    by_cases e:b=a
    · rw[A6 e,Vh h,A6 rfl]
    · rw[A4 e,Vh h,A4 e];exact⟨m,hm,AlikeP.refl m⟩
  | some y =>
    obtain⟨C,B⟩:=hk.2.2.2 y ht
    have j:a≠y:=fun e=>B.2.1 (by rw[← C,← e,h.self d])
    show if b=a then YC a (Ti n.table.self y (WM a (Rl n ns) ns))=_ else∃ g,YC b (Ti n.table.self y (WM a (Rl n ns) ns))=some g∧_
    by_cases e:b=a
    · rw[A6 e]
      unfold Ti
      cases hg:YC y (WM a (Rl n ns) ns)with
      | none=>show YC a (WM a (Rl n ns) ns)=_;rw[Vh h,A6 rfl]
      | some z=>show YC a (WM y _ (WM a (Rl n ns) ns))=_;rw[Vh v,A4 j,Vh h,A6 rfl]
    · rw[A4 e]
      exact Zcw v (by rw[Vh h,A4 e,hm])
def Oth(G:Zr→Prop)(Y:Int)(ns:List (Int×Nd)):Prop:=∀ b m,YC b ns=some m→b≠Y→GoodT G m.table
def Unj(Y:Int)(ns:List (Int×Nd)):Prop:=∀ m,YC Y ns=some m→m.joined=false
theorem Ln(hx:∀ s b x,Vz ns s b=some x→GoodT G x.table):∀(F:Nat) (n:Nd),GoodT G n.table→GoodT G (XS ns F n).table
  | 0,n,h=>h
  | F+1,n,h=>by
    unfold XS
    cases hf:Vz ns n.table.self n.findTo with
    | none=>exact h
    | some x =>
      have j:=hx _ _ _ hf
      have d:=Mq (l:=Xl n) j
      rw[Qk (Vi hf).2.1]at d
      have g:=(Ld (l:=Xq x (Xl n)) h (d _ B1)).1
      show GoodT G (match (YF n (Xq x (Xl n))).2 with
        | []=>(YF n (Xq x (Xl n))).1
        | _=>XS ns F (YF n (Xq x (Xl n))).1).table
      split
      · exact g
      · exact Ln hx F _ g
theorem Oth.find(h:Oth G Y ns)(hu:Unj Y ns)(s:Zr)(b:Int)(x:Nd)(d:Vz ns s b=some x):GoodT G x.table:=by
  obtain⟨h1,h2,h3⟩:=Vi d
  refine h b x h1 fun e=>?_
  subst e
  rw[hu x h1]at h2;cases h2
theorem Zbf(n:Nd)(a:Int):(Uf n a).table=n.table:=by unfold Uf;split <;> rfl
theorem Rq(n:Nd):(Uj n).table=n.table:=by unfold Uj;split;exact Zbf _ _;rfl
theorem Ps(h:GoodT G n.table):GoodT G (unfind n).table:=by
  unfold unfind
  split
  · grind
  · exact Tk h
theorem Zpb(hx:∀ s b x,Vz ns s b=some x→GoodT G x.table)(h:GoodT G n.table):GoodT G (OR ns n).table:=by
  have hu:=Ps h
  unfold OR
  split
  · grind
  · split
    · exact SY hu fun _=>Tz hu
    · split
      · grind
      · exact Ln hx _ _ hu
theorem Zcj(hx:∀ s b x,Vz ns s b=some x→GoodT G x.table)(h:GoodT G n.table):GoodT G (UJ ns n).table:=by
  refine Ln hx _ _ ?_
  show GoodT G (Uj n).table
  rw[Rq];exact h
theorem Hm{d:Int→Bool}(h:GoodT G n.table):GoodT G (UH d n).table:=by
  have hu:GoodT G (unping n).table:=by unfold unping;split;exact Tk h;exact h
  unfold UH
  split
  · grind
  · exact hu
theorem Oth.put(h:Oth G Y ns)(d:WN pn were ns)(g:a≠Y→GoodT G n.table):Oth G Y (WM a n ns):=by
  intro b m hm hb
  rw[Vh d]at hm
  by_cases e:b=a
  · grind
  · rw[A4 e]at hm;exact h b m hm hb
theorem Oth.t3(h:Oth G Y ns)(d:WN pn were ns):Oth G Y (T3 a ns):=by
  unfold T3
  cases hn:YC a ns with
  | none=>exact h
  | some n=>exact h.put d fun e=>Hm (h a n hn e)
theorem Oth.t2(h:Oth G Y ns)(hu:Unj Y ns)(d:WN pn were ns):Oth G Y (T2 a ns):=by
  unfold T2
  cases hn:YC a ns with
  | none=>exact h
  | some n=>exact h.put d fun e=>Zpb (h.find hu) (h a n hn e)
theorem Oth.t1(h:Oth G Y ns)(hu:Unj Y ns)(g:WN pn were ns)(C:∀ p,G p→p.addr≠Y):Oth G Y (T1 a ns):=by
  unfold T1
  cases hn:YC a ns with
  | none=>exact h
  | some n =>
    show Oth G Y (if n.joined=true then DO a n ns else WM a (UJ ns n) ns)
    by_cases hj:n.joined=true
    · rw[A6 hj]
      have v:a≠Y:=fun e=>by subst e;rw[hu n hn]at hj;cases hj
      have B:=h a n hn v
      have hx:∀ x,Vg ns (Yv (ready n).table).addr=some x→GoodT G x.table:=fun x hx=>by
        refine h _ x (Uo hx).1 fun e=>?_
        have h2:=(Uo hx).1
        rw[e]at h2
        exact absurd (Uo hx).2 (by rw[hu x h2];decide)
      have hk:=JK g hn B hx
      have d:=JK (G:=InW pn were) g hn (g.get hn).2.2 fun x hx=>(g.get (Uo hx).1).2.2
      have j:WN pn were (WM a (Rl n ns) ns):=g.put hn d.1 d.2.1 d.2.2.1
      have h2:Oth G Y (WM a (Rl n ns) ns):=h.put g fun _=>hk.2.2.1
      rw[GH]
      cases ht:SJ n ns with
      | none=>exact h2
      | some y =>
        show Oth G Y (Ti n.table.self y (WM a (Rl n ns) ns))
        unfold Ti
        cases hg2:YC y (WM a (Rl n ns) ns)with
        | none=>exact h2
        | some z=>exact h2.put j fun e=>Lc (h2 y z hg2 e) fun _=>B.1
    · rw[A4 hj]
      exact h.put g fun e=>Zcj (h.find hu) (h a n hn e)
end
end Go.Esp
namespace Go.Esp
section
variable {pn:Int→Zr} {were:List Int} {ns:List (Int×Nd)} {a b c k:Int} {n m n1:Nd} {G:Zr→Prop} {Y:Int}
theorem TZ(n:Nd)(p:Zr)(l:List Zr):Alike n (XO n p l):=by
  unfold XO
  split
  · rfl
  · rfl
theorem Qb(n:Nd)(p:Zr):WZ n p={ n with table:=(WZ n p).table,cursor:=(WZ n p).cursor }:=by
  unfold WZ
  split <;> rfl
theorem Ka(n:Nd)(x:Int):Uf n x={ n with avoid:=(Uf n x).avoid }:=by
  unfold Uf
  split <;> rfl
theorem Rk(d:Int→Bool)(n:Nd):∃ t p r q u,UH d n={ n with table:=t,pingTo:=p,pingReq:=r,req:=q,turn:=u }∧(p=-1∨d p=false):=by
  have h0:(unping n).pingTo=-1∧∃ t,unping n={ n with table:=t,pingTo:=-1 }:=by
    unfold unping
    by_cases e:n.pingTo≠-1
    · rw[A6 e];exact⟨rfl,_,rfl⟩
    · rw[A4 e]
      have e:n.pingTo=-1:=by simpa using e
      exact⟨e,n.table,by rw[← e]⟩
  obtain⟨j,t,g⟩:=h0
  unfold UH
  cases hp:TA (unping n)with
  | none=>exact⟨t,-1,n.pingReq,n.req,n.turn,g,.inl rfl⟩
  | some p =>
    refine⟨t,if d p.addr then -1 else p.addr,nxR n.req,nxR n.req,(n.turn+1) % 1000000,?_,?_⟩
    · show Qd (unping n) (if d p.addr then -1 else p.addr)=_
      unfold Qd
      rw[g]
    · by_cases hl:d p.addr=true
      · rw[A6 hl];exact .inl rfl
      · rw[A4 hl];exact .inr (by simpa using hl)
theorem KB(n:Nd):∃ t,unask n={ n with table:=t,askTo:=-1 }:=by
  unfold unask
  by_cases e:n.askTo≠-1
  · simp_all
  · rw[A4 e]
    have e:n.askTo=-1:=by simpa using e
    exact⟨n.table,by rw[← e]⟩
theorem Zni(n:Nd):∃ t,ready n={ n with table:=t,askTo:=-1 }:=by
  obtain⟨t,d⟩:=KB n
  unfold ready
  split
  · have h:=TZ (unask n) (unask n).table.pred []
    unfold Alike at h
    grind
  · grind
theorem Zou(n:Nd)(l:Lt):∃ t,TU n l={ n with table:=t,askTo:=-1 }:=by
  unfold TU
  dsimp only
  have h:=TZ { n with askTo:=-1 } l.frm l.peers
  split
  · have h2:=TZ (XO { n with askTo:=-1 } l.frm l.peers) l.peer (l.frm::l.peers)
    have h3:=h.trans h2
    exact⟨_,h3⟩
  · exact⟨_,h⟩
theorem NG(n:Nd)(ns:List (Int×Nd)):∃ t q x y,Rl n ns={ n with table:=t,req:=q,askTo:=x,askReq:=y } ∧
    (x=-1∨((ready n).table.succ≠[]∧x=(Yv (ready n).table).addr∧Vg ns x=none)):=by
  obtain⟨t,d⟩:=Zni n
  unfold Rl
  by_cases h0:(ready n).table.succ=[]
  · grind
  · rw[A4 h0]
    cases hj:Vg ns (Yv (ready n).table).addr with
    | none =>
      refine⟨t,nxR n.req,(Yv (ready n).table).addr,nxR n.req,?_,.inr ⟨h0,rfl,hj⟩⟩
      unfold SO
      rw[d]
    | some x =>
      obtain⟨t2,g⟩:=Zou (SO (ready n) (Yv (ready n).table).addr) (tells x (nxR (ready n).req))
      refine⟨t2,nxR n.req,-1,nxR n.req,g.trans ?_,.inl rfl⟩
      unfold SO
      rw[d]
theorem Zow(n:Nd)(l:Lt)(hj:n.joined=true):∃ t g q f r av d,(YF n l).1={ n with table:=t,cursor:=g,req:=q,findTo:=f,findReq:=r,avoid:=av,hops:=d }∧av=n.avoid:=by
  unfold YF
  split
  · grind
  · split
    · dsimp only
      split
      · have h:=Qb { n with findTo:=-1 } l.peer
        grind
      · simp_all
    · split
      · simp
      · exact⟨n.table,n.cursor,_,_,_,n.avoid,_,rfl,rfl⟩
theorem Bk{n:Nd}{l:Lt}(h1:n.findTo=l.frm.addr)(h2:n.findReq=l.req)(h:(YF n l).2=[]):(YF n l).1.findTo=-1:=by
  unfold YF at h ⊢
  rw[A4 (fun q=>q.elim (fun q=>q h1) fun q=>q h2)]at h ⊢
  split
  · rename_i d
    split
    · exact A9 Nd.findTo (Qb { n with findTo:=-1 } l.peer)
    · split
      · have h9:=TZ { n with findTo:=-1 } l.peer []
        unfold Alike at h9
        grind
      · rfl
  · rename_i d
    rw[A4 d]at h
    split
    · rfl
    · rename_i g
      rw[A4 g]at h
      cases h
theorem Zdm(h:WN pn were ns){s:Zr}:∀(F:Nat) (n:Nd),Seeks pn were s n→n.joined=true→33≤n.hops+F→(∃ p,G p∧Ys s p∧p.addr=n.findTo∧n.findTo∉n.avoid) →
    (∀ s b x,Vz ns s b=some x→GoodT G x.table) →
    ∃ t v q f r D,XS ns F n={ n with table:=t,cursor:=v,req:=q,findTo:=f,findReq:=r,hops:=D } ∧
      (f=-1∨(Vz ns s f=none∧f∉n.avoid∧∃ p,G p∧Ys s p∧p.addr=f)):=by
  intro F
  induction F with
  | zero=>intro n j hj h1 _ _;have:=j.hop;omega
  | succ F ih =>
    intro n j hj h1 D hx
    unfold XS
    cases hf:Vz ns n.table.self n.findTo with
    | none =>
      obtain⟨p,R,C,e,ha⟩:=D
      exact⟨n.table,n.cursor,n.req,n.findTo,n.findReq,n.hops,rfl,.inr ⟨by rw[← j.self];exact hf,ha,p,R,C,e⟩⟩
    | some x =>
      have hs:=j.step h hf
      rcases hs.2.2.2.2.2 with e|⟨m2,e,Z,e2⟩
      · obtain⟨t,v,q,f,r,av,g,K,T⟩:=Zow n (Xq x (Xl n)) hj
        have y:=Bk (n:=n) (l:=Xq x (Xl n)) hs.2.2.1 rfl e
        rw[K]at y
        refine⟨t,v,q,f,r,g,?_,.inl y⟩
        simp only[e]
        rw[K,T]
      · rcases Pe (n:=n) (l:=Xq x (Xl n)) hs.2.2.1 rfl with B|⟨B,-,L,V,-⟩
        · rw[e]at B;cases B
        · have em:m2=(UY { n with hops:=n.hops+1 } (Xq x (Xl n)).peer.addr).1:=by
            have:=e.symm.trans B
            exact A9 Prod.fst this
          have d:=Mq (l:=Xl n) (hx _ _ _ hf)
          rw[Qk (Vi hf).2.1]at d
          have d:GoodL G (Xq x (Xl n)):=d _ B1
          have C:Ys s (Xq x (Xl n)).peer:=j.self ▸ L
          obtain⟨t,v,q,f,r,g,U,O⟩:=ih m2 Z (by rw[em];exact hj) jD ⟨(Xq x (Xl n)).peer,d.2.1 (QA L),C,by rw[em];rfl,by rw[em];exact V⟩ hx
          refine⟨t,v,q,f,r,g,?_,by rw[em]at O;exact O⟩
          simp only[e]
          rw[U,em]
          rfl
theorem QT(n:Nd):∃ t,unfind n={ n with table:=t,findTo:=-1,avoid:=(unfind n).avoid }:=by
  unfold unfind
  by_cases e:n.findTo=-1
  · grind
  · rw[A4 e]
    refine⟨Xd n.table n.findTo,?_⟩
    rw[Ka]
theorem KA(n:Nd):(unfind n).table.self=n.table.self:=by
  unfold unfind
  split
  · rfl
  · rfl
theorem Zas{n m:Nd}{t:Tb}(e:m={ n with table:=t,findTo:=-1,avoid:=m.avoid })(T:Tb)(C:Int):{ m with table:=T,cursor:=C }={ n with table:=T,cursor:=C,findTo:=-1,avoid:=m.avoid }:=by
  grind
theorem Zat{n m:Nd}{t:Tb}(e:m={ n with table:=t,findTo:=-1,avoid:=m.avoid }):{ m with cursor:=0 }={ n with table:=t,cursor:=0,findTo:=-1,avoid:=m.avoid }:=by
  grind
theorem Lf(h:WN pn were ns)(K:YC a ns=some n)(hj:n.joined=true)(V:GoodT G n.table)(hx:∀ s b x,Vz ns s b=some x→GoodT G x.table):
    ∃ t C q f r id g,OR ns n={ n with table:=t,cursor:=C,req:=q,findTo:=f,findReq:=r,findID:=id,avoid:=(unfind n).avoid,hops:=g } ∧
      (f=-1∨(Vz ns n.table.self f=none∧f∉(unfind n).avoid∧∃ p,G p∧Ys n.table.self p∧p.addr=f)):=by
  obtain⟨t,B⟩:=QT n
  have h1:=h.get K
  have F:=Pt (k:=2) h1.1 rfl
  have ht:Vf n 2=((JB n).1,(JB n).2,0):=by
    unfold Vf;rw[A6 ⟨h1.1,by decide,by decide⟩];rfl
  rw[ht]at F
  have R:TF n (JB n):=F.2 rfl
  have L:=Gk h1.2.2
  have e:=Hg hj
  have y:=Ps V
  unfold OR
  rw[A4 zN]
  by_cases h2:(WV (unfind n).table (TX (unfind n))).2=true
  · rw[A6 h2]
    have g:=Qb (unfind n) (WV (unfind n).table (TX (unfind n))).1
    exact⟨(WZ (unfind n) (WV (unfind n).table (TX (unfind n))).1).table,(WZ (unfind n) (WV (unfind n).table (TX (unfind n))).1).cursor,n.req,-1,n.findReq,n.findID,n.hops,g.trans (Zas B _ _),.inl rfl⟩
  · rw[A4 h2]at e
    rw[A4 h2]
    by_cases h3:(YJ (unfind n).table (TX (unfind n)) (unfind n).avoid).2=false
    · rw[A6 h3]
      exact⟨t,0,n.req,-1,n.findReq,n.findID,n.hops,Zat B,.inl rfl⟩
    · rw[A4 h3]at e
      rw[A4 h3]
      have h3:(YJ (unfind n).table (TX (unfind n)) (unfind n).avoid).2=true:=by simpa using h3
      have j:=Kb e R L rfl
      have hne:=(CP (t:=(unfind n).table) (id:=TX (unfind n)) (avoid:=(unfind n).avoid)).yes h3
      have d:=Dm y h3
      have v:TG (unfind n).table:=by
        unfold unfind
        split
        · exact h1.1.1
        · exact Tf h1.1.1
      have hop:=MU v h3
      rw[KA]at hop
      obtain⟨p,g⟩:∃ p,(YJ (unfind n).table (TX (unfind n)) (unfind n).avoid).1=p:=⟨_,rfl⟩
      obtain⟨id,hid⟩:∃ id,TX (unfind n)=id:=⟨_,rfl⟩
      obtain⟨av,T⟩:∃ av,(unfind n).avoid=av:=⟨_,rfl⟩
      rw[g]at hne d hop j ⊢
      rw[hid]at j ⊢
      rw[B]at j ⊢
      obtain⟨t2,C,q,f,r,D,O,U⟩:=Zdm (G:=G) h 33 _ j hj yA ⟨p,d,hop,rfl,hne.2.1.2⟩ hx
      exact⟨t2,C,q,f,r,id,D,O,U⟩
theorem RK(h:WN pn were ns)(d:YC a ns=some n):YC a (T1 a ns)=some (if n.joined then Rl n ns else UJ ns n):=by
  unfold T1
  rw[d]
  show YC a (if n.joined=true then DO a n ns else WM a (UJ ns n) ns)=_
  by_cases hj:n.joined=true
  · rw[A6 hj,A6 hj]
    have:=Zit h d d
    grind
  · rw[A4 hj,A4 hj,Vh h,A6 rfl]
theorem QK(h:WN pn were ns)(d:YC a ns=some n):YC a (T3 a ns)=some (UH (fun x=>(YC x ns).isSome) n):=by
  unfold T3
  rw[d]
  rw[Vh h,A6 rfl]
theorem RA(h:WN pn were ns)(d:YC a ns=some n):YC a (T2 a ns)=some (OR ns n):=by
  unfold T2
  rw[d]
  rw[Vh h,A6 rfl]
theorem BH(h:WN pn were ns)(hb:b≠a)(hm:YC b ns=some m):∃ d,YC b (T1 a ns)=some d∧AlikeP m d:=by
  unfold T1
  cases hn:YC a ns with
  | none=>exact⟨m,hm,AlikeP.refl m⟩
  | some n =>
    show∃ d,YC b (if n.joined=true then DO a n ns else WM a (UJ ns n) ns)=some d∧_
    by_cases hj:n.joined=true
    · rw[A6 hj]
      have:=Zit h hn hm
      rw[A4 hb]at this
      exact this
    · rw[A4 hj,Vh h,A4 hb]
      exact⟨m,hm,AlikeP.refl m⟩
theorem GT(h:WN pn were ns)(hb:b≠a):YC b (T3 a ns)=YC b ns:=by
  unfold T3
  cases hn:YC a ns with
  | none=>rfl
  | some n=>show YC b (WM a _ ns)=_;rw[Vh h,A4 hb]
theorem Ow(h:WN pn were ns)(hb:b≠a):YC b (T2 a ns)=YC b ns:=by
  unfold T2
  cases hn:YC a ns with
  | none=>rfl
  | some n=>show YC b (WM a _ ns)=_;rw[Vh h,A4 hb]
theorem VF{d:List (Int×Nd)}(e:d.map (·.1)=ns.map (·.1)):YC b d=none↔YC b ns=none:=by
  rw[Wg,Wg,e]
def Kept(ns ns1:List (Int×Nd)):Prop:=∀ b m,YC b ns=some m→m.joined=true→∃ m',YC b ns1=some m'∧m'.joined=true
theorem Kept.refl(ns:List (Int×Nd)):Kept ns ns:=fun b m h hj=>⟨m,h,hj⟩
theorem Kept.trans{x y z:List (Int×Nd)}(h:Kept x y)(h1:Kept y z):Kept x z:=fun b m hm hj=>by
  obtain⟨d,h2,h3⟩:=h b m hm hj
  exact h1 b d h2 h3
theorem Kept.unj{d:List (Int×Nd)}(h:Kept ns d)(hu:Unj b d):Unj b ns:=fun m hm=>by
  cases hj:m.joined with
  | false=>rfl
  | true =>
    obtain⟨g,h2,h3⟩:=h b m hm hj
    rw[hu g h2]at h3;cases h3
theorem PI(h:WN pn were ns):Kept ns (T1 a ns):=fun b m hm hj=>by
  by_cases e:b=a
  · subst e
    refine⟨_,RK h hm,?_⟩
    rw[A6 hj]
    obtain⟨t,q,x,y,e,-⟩:=NG m ns
    rw[e];exact hj
  · obtain⟨d,h2,h3⟩:=BH h e hm
    exact⟨d,h2,by rw[h3];exact hj⟩
theorem NK(h:WN pn were ns):Kept ns (T3 a ns):=fun b m hm hj=>by
  by_cases e:b=a
  · subst e
    refine⟨_,QK h hm,?_⟩
    obtain⟨t,p,r,q,u,e,-⟩:=Rk (fun x=>(YC x ns).isSome) m
    rw[e];exact hj
  · exact⟨m,by rw[GT h e];exact hm,hj⟩
theorem NL(h:WN pn were ns):Kept ns (T2 a ns):=fun b m hm hj=>by
  by_cases e:b=a
  · subst e
    refine⟨_,RA h hm,?_⟩
    obtain⟨t,g,q,f,r,id,d,e,-⟩:=Lf (G:=InW pn were) h hm hj (h.get hm).2.2 fun s b x hx=>(h.get (Vi hx).1).2.2
    rw[e];exact hj
  · exact⟨m,by rw[Ow h e];exact hm,hj⟩
def TQ(a:Int)(ns:List (Int×Nd)):List (Int×Nd):=T2 a (T3 a (T1 a ns))
def Late(b:Int)(ns:List (Int×Nd)):Prop:=Unj b ns∧(∃ y,YC b ns=some y)∧∀ G:Zr→Prop,(∀ p,G p→p.addr≠b)→¬Oth G b ns
structure Waits (ns:List (Int×Nd)) (n:Nd):Prop where
  ping:n.pingTo=-1∨YC n.pingTo ns=none
  ask:n.askTo=-1∨YC n.askTo ns=none∨Late n.askTo ns
  find:n.findTo=-1∨YC n.findTo ns=none∨Late n.findTo ns
  new:n.findTo=-1∨n.findTo∉n.avoid
theorem AJ(h:WN pn were ns){p:Zr}(d:InW pn were p):p=pn p.addr:=by
  obtain⟨x,-,rfl⟩:=d
  rw[h.at']
theorem Late.back{d:List (Int×Nd)}(hk:Kept ns d)(he:d.map (·.1)=ns.map (·.1))(B:∀ G,(∀ p,G p→p.addr≠b)→Unj b d→Oth G b ns→Oth G b d)(g:Late b d):Late b ns:=by
  refine⟨hk.unj g.1,?_,fun G j h=>g.2.2 G j (B G j g.1 h)⟩
  cases hg:YC b ns with
  | none=>obtain⟨y,v⟩:=g.2.1;rw[(VF he).2 hg]at v;cases v
  | some y=>exact⟨y,rfl⟩
theorem Zeu(D:WN pn were ns)(g1:YC a ns=some n1)(T:n1.joined=true):∃ d,YC a (T2 a (T3 a ns))=some d∧d.joined=true∧d.askTo=n1.askTo ∧
    (d.pingTo=-1∨YC d.pingTo ns=none)∧(d.findTo=-1∨YC d.findTo ns=none∨Late d.findTo ns)∧(d.findTo=-1∨d.findTo∉d.avoid):=by
  have g:=D.t3 a
  have g3:=QK D g1
  have g2:=RA g.1 g3
  obtain⟨t3,p,r3,q3,u3,U,hp⟩:=Rk (fun x=>(YC x ns).isSome) n1
  obtain⟨C,ab⟩:∃ C,UH (fun x=>(YC x ns).isSome) n1=C:=⟨_,rfl⟩
  rw[ab]at g3 g2 U
  have B:C.joined=true:=by rw[U];exact T
  obtain⟨t2,cu,q,f,r,id,ag,R,L⟩:=Lf (G:=InW pn were) g.1 g3 B (g.1.get g3).2.2 fun s b x hx=>(g.1.get (Vi hx).1).2.2
  have k3:∀ b,YC b (T3 a ns)=none↔YC b ns=none:=fun b=>VF g.2
  refine⟨OR (T3 a ns) C,g2,by rw[R];exact B,by rw[R,U],?_,?_,?_⟩
  · simp_all
  · have e:(OR (T3 a ns) C).findTo=f:=by rw[R]
    rw[e]
    rcases L with L|⟨L,-,pp,ad,j,y⟩
    · exact .inl L
    · rcases NB L with hl|⟨z,Z,v⟩
      · exact .inr (.inl ((k3 f).1 hl))
      · have ae:z.table.self=pp:=by rw[(g.1.get Z).2.1,← y];exact(AJ D ad).symm
        have v:z.joined=false:=v.elim (fun q=>q) fun q=>by
          refine absurd ?_ q
          rw[ae]
          exact⟨(g.1.get g3).1.1.1,fun e=>j.2.1 e.symm,fun e=>j.2.2 e.symm⟩
        have V:a≠f:=fun q=>j.2.1 (by rw[y,← q,g.1.self g3])
        have O:Unj f (T3 a ns):=fun m hm=>by rw[Z]at hm;cases hm;exact v
        refine .inr (.inr (Late.back (NK D) g.2 (fun G _ _ hO=>hO.t3 D) ⟨O,⟨z,Z⟩,fun G hG K=>?_⟩))
        obtain⟨_,_,_,f9,_,_,_,e9,h9⟩:=Lf (G:=G) g.1 g3 B (K a C g3 V) (K.find O)
        have ef:f9=f:=by
          have:=A9 Nd.findTo (e9.symm.trans R)
          exact this
        subst ef
        rcases h9 with h9|⟨-,-,p9,aa,-,F⟩
        · rw[h9]at y
          have:=j.1.1
          omega
        · exact hG p9 aa F
  · grind
def Keep3(n n':Nd):Prop:=n'.askTo=n.askTo∧n'.pingTo=n.pingTo∧n'.turn=n.turn
theorem Keep3.trans{x y z:Nd}(h:Keep3 x y)(h1:Keep3 y z):Keep3 x z:=⟨h1.1.trans h.1,h1.2.1.trans h.2.1,h1.2.2.trans h.2.2⟩
theorem II(n:Nd)(p:Zr):Keep3 n (WZ n p):=by
  unfold WZ
  split <;> exact⟨rfl,rfl,rfl⟩
theorem Zds(n:Nd)(p:Zr)(l:List Zr):Keep3 n (XO n p l):=by
  unfold XO
  split <;> exact⟨rfl,rfl,rfl⟩
theorem Er(n:Nd)(x:Int):Keep3 n (Uf n x):=by
  unfold Uf
  split <;> exact⟨rfl,rfl,rfl⟩
theorem He(n:Nd)(l:Lt):Keep3 n (YF n l).1:=by
  unfold YF
  split
  · exact⟨rfl,rfl,rfl⟩
  · split
    · dsimp only
      split
      · exact II { n with findTo:=-1 } l.peer
      · split
        · exact Zds { n with findTo:=-1 } l.peer []
        · exact⟨rfl,rfl,rfl⟩
    · split <;> exact⟨rfl,rfl,rfl⟩
theorem Lm:∀(F:Nat) (n:Nd),Keep3 n (XS ns F n)
  | 0,n=>⟨rfl,rfl,rfl⟩
  | F+1,n=>by
    unfold XS
    cases hf:Vz ns n.table.self n.findTo with
    | none=>exact⟨rfl,rfl,rfl⟩
    | some x =>
      show Keep3 n (match (YF n (Xq x (Xl n))).2 with
        | []=>(YF n (Xq x (Xl n))).1
        | _=>XS ns F (YF n (Xq x (Xl n))).1)
      split
      · exact He _ _
      · exact(He _ _).trans (Lm F _)
theorem Jj:Keep3 n (UJ ns n):=by
  refine Keep3.trans (?_:Keep3 n (Uj n)) (Lm _ _)
  unfold Uj
  split
  · exact Er _ _
  · exact⟨rfl,rfl,rfl⟩
theorem Nm:Keep3 n (unfind n):=by
  unfold unfind
  split
  · exact⟨rfl,rfl,rfl⟩
  · exact Er n n.findTo
theorem Gt:Keep3 n (OR ns n):=by
  unfold OR
  split
  · exact⟨rfl,rfl,rfl⟩
  · split
    · exact Nm.trans (II _ _)
    · split
      · exact Nm.trans ⟨rfl,rfl,rfl⟩
      · exact Nm.trans (Lm _ _)
theorem Zaw(h:WN pn were ns)(d:YC a ns=some n)(hu:n.joined=false→n.askTo=-1):∃ v,YC a (TQ a ns)=some v∧(v.joined=true→Waits ns v):=by
  have g:=h.t1 a
  have g1:=RK h d
  have L:∀ b,YC b (T1 a ns)=none↔YC b ns=none:=fun b=>VF g.2
  have hb:∀ b,Late b (T1 a ns)→Late b ns:=fun b=>Late.back (PI h) g.2 fun G y hu C=>C.t1 ((PI h).unj hu) h y
  obtain⟨n1,j⟩:∃ n1,(if n.joined then Rl n ns else UJ ns n)=n1:=⟨_,rfl⟩
  rw[j]at g1
  cases hj1:n1.joined with
  | false =>
    have g3:=QK g.1 g1
    have g2:=RA (g.1.t3 a).1 g3
    refine⟨_,g2,fun hj=>?_⟩
    obtain⟨t3,p,r3,q3,u3,O,U⟩:=Rk (fun x=>(YC x (T1 a ns)).isSome) n1
    unfold OR at hj
    rw[A6 (by rw[O];exact hj1),O]at hj
    exact absurd (hj1.symm.trans hj) jM
  | true =>
    obtain⟨v,g2,aa,B,U,hf,V⟩:=Zeu g.1 g1 hj1
    refine⟨v,g2,fun _=>⟨U.imp_right (L _).1,?_,hf.imp_right fun q=>q.imp (L _).1 (hb _),V⟩⟩
    rw[B,← j]
    by_cases hj:n.joined=true
    · rw[A6 hj]
      obtain⟨t1,q1,x,y1,Z,hx⟩:=NG n ns
      rw[Z]
      rcases hx with hx|⟨h0,hx,F⟩
      · exact .inl hx
      · rcases Oh F with hl|⟨z,R,D⟩
        · exact .inr (.inl hl)
        · have T:=Tr (h.get d).1 (h.get d).2.2
          have ho:=Tl T.1.1 h0
          have K:a≠x:=fun q=>ho.2.1 (by rw[T.2.1,h.self d,← hx,q])
          refine .inr (.inr ⟨fun m hm=>by rw[R]at hm;cases hm;exact D,⟨z,R⟩,fun G y C=>?_⟩)
          exact y _ (Tz (Tr (h.get d).1 (C a n d K)).2.2) hx.symm
    · rw[A4 hj,Jj.1]
      exact .inl (hu zM)
def Few(b:Int)(ns:List (Int×Nd)):Prop:=∀ y,YC b ns=some y→y.joined=false∨y.table.succ.length≤1
theorem OX{p:Zr}{l:List Zr}(h:Ui n)(g:Ys n.table.self p):XO n p l={ n with table:={ n.table with succ:=Wk n.table.self n.copies [p] l } }:=by
  have d:TG n.table∧Ys n.table.self p∧1≤n.copies∧n.copies≤8:=⟨h.1,g,h.2.1.1,h.2.1.2⟩
  have h0:VJ n.table p l n.copies=({ n.table with succ:=Wk n.table.self n.copies [p] l },0):=by
    unfold VJ
    rw[A6 d]
  unfold XO
  rw[h0]
  rfl
theorem Ziy{l:Lt}(h:Ui n)(hj:n.joined=false):(YF n l).1.joined=false∨(YF n l).1.table.succ.length≤1:=by
  unfold YF
  split
  · exact .inl hj
  · split
    · dsimp only
      split
      · grind
      · split
        · rename_i d
          right
          have hm:Ui { n with findTo:=-1 }:=NQ (l:=n.avoid) h ⟨h.2.2.2.2.1,h.2.2.2.2.2.2.2.2⟩ (VP h.1.1)
          rw[OX hm d.2]
          exact B9 1
        · exact .inl hj
    · split
      · exact .inl hj
      · exact .inl hj
theorem DJ(h:WN pn were ns){s:Zr}:∀(F:Nat) (n:Nd),Seeks pn were s n→n.joined=false→(XS ns F n).joined=false∨(XS ns F n).table.succ.length≤1
  | 0,n,_,hj=>.inl hj
  | F+1,n,hq,hj=>by
    unfold XS
    cases hf:Vz ns n.table.self n.findTo with
    | none=>exact .inl hj
    | some x =>
      have hs:=hq.step h hf
      rcases hs.2.2.2.2.2 with e|⟨m2,e,g,j⟩
      · simp only[e]
        exact Ziy hq.nd hj
      · rcases Pe (n:=n) (l:=Xq x (Xl n)) hs.2.2.1 rfl with d|⟨d,-,-,-,-⟩
        · rw[e]at d;cases d
        · have em:m2=(UY { n with hops:=n.hops+1 } (Xq x (Xl n)).peer.addr).1:=A9 Prod.fst (e.symm.trans d)
          simp only[e]
          exact DJ h F m2 g (by rw[em];exact hj)
theorem Zom(h:WN pn were ns)(g:YC a ns=some n)(hj:n.joined=false):(UJ ns n).joined=false∨(UJ ns n).table.succ.length≤1:=by
  have h1:=h.get g
  have d:=Pt (k:=1) h1.1 rfl
  have ht:Vf n 1=((UD n).1,(UD n).2,0):=by
    unfold Vf;rw[A6 ⟨h1.1,by decide,by decide⟩];rfl
  rw[ht]at d
  have j:TF n (UD n):=d.2 rfl
  have v:=Kb (En hj) j (Mo h1.2.2) rfl
  refine DJ h 33 _ v ?_
  unfold Uj
  split
  · rw[Ka];exact hj
  · exact hj
theorem Hf(t:Tb)(x:Int):(Xd t x).succ.length≤t.succ.length:=List.length_filter_le _ _
theorem Zjz(d:Int→Bool)(n:Nd):(UH d n).table.succ.length≤n.table.succ.length:=by
  have hu:(unping n).table.succ.length≤n.table.succ.length:=by
    unfold unping;split
    · exact Hf _ _
    · exact B9 _
  unfold UH
  split
  · exact hu
  · exact hu
theorem MR(n:Nd)(p:Zr):(WZ n p).table.succ=n.table.succ:=by
  unfold WZ
  split
  · rename_i h
    unfold WF at h ⊢
    grind
  · rfl
theorem OP(l:Lt)(hj:n.joined=true):(YF n l).1.table.succ=n.table.succ∧(YF n l).1.joined=true:=by
  unfold YF
  split
  · grind
  · split
    · dsimp only
      split
      · refine⟨MR { n with findTo:=-1 } l.peer,?_⟩
        rw[Qb];exact hj
      · grind
    · split
      · grind
      · exact⟨rfl,hj⟩
theorem Lk:∀(F:Nat) (n:Nd),n.joined=true→(XS ns F n).table.succ=n.table.succ
  | 0,n,_=>rfl
  | F+1,n,hj=>by
    unfold XS
    cases hf:Vz ns n.table.self n.findTo with
    | none=>rfl
    | some x =>
      show(match (YF n (Xq x (Xl n))).2 with
        | []=>(YF n (Xq x (Xl n))).1
        | _=>XS ns F (YF n (Xq x (Xl n))).1).table.succ=_
      have d:=OP (n:=n) (Xq x (Xl n)) hj
      split
      · exact d.1
      · rw[Lk F _ d.2,d.1]
theorem Gs(ns:List (Int×Nd))(n:Nd):(OR ns n).table.succ=n.table.succ∨(OR ns n).table.succ=(unfind n).table.succ:=by
  unfold OR
  by_cases hj:n.joined=false
  · grind
  · rw[A4 hj]
    right
    split
    · exact MR _ _
    · split
      · rfl
      · rw[Lk]
        · rfl
        · obtain⟨t,d⟩:=QT n
          show(unfind n).joined=true
          grind
theorem Zts(ns:List (Int×Nd))(n:Nd):(OR ns n).table.succ.length≤n.table.succ.length:=by
  have hu:(unfind n).table.succ.length≤n.table.succ.length:=by
    unfold unfind;split
    · exact B9 _
    · exact Hf _ _
  rcases Gs ns n with e|e <;> rw[e]
  · simp
  · exact hu
end
end Go.Esp
namespace Go.Esp
section
variable {pn:Int→Zr} {were:List Int} {ns:List (Int×Nd)} {a b c k:Int} {n m n1:Nd} {G:Zr→Prop} {Y:Int}
theorem Xc{d:List (Int×Nd)}(e:d.map (·.1)=ns.map (·.1))(h:YC b d=some m):∃ y,YC b ns=some y:=by
  cases hg:YC b ns with
  | none=>rw[(VF e).2 hg]at h;cases h
  | some y=>exact⟨y,rfl⟩
theorem WN.step(h:WN pn were ns)(a:Int):WN pn were (TQ a ns)∧(TQ a ns).map (·.1)=ns.map (·.1) :=
  ⟨(((h.t1 a).1.t3 a).1.t2 a).1,(((h.t1 a).1.t3 a).1.t2 a).2.trans (((h.t1 a).1.t3 a).2.trans (h.t1 a).2)⟩
theorem Zfa(h:WN pn were ns):Kept ns (TQ a ns):=((PI h).trans (NK (h.t1 a).1)).trans (NL ((h.t1 a).1.t3 a).1)
theorem MF(h:WN pn were ns)(hb:b≠a)(hm:YC b ns=some m):∃ d,YC b (TQ a ns)=some d∧AlikeP m d:=by
  obtain⟨d,h1,h2⟩:=BH h hb hm
  exact⟨d,by unfold TQ;rw[Ow ((h.t1 a).1.t3 a).1 hb,GT (h.t1 a).1 hb,h1],h2⟩
theorem Zms(h:WN pn were ns)(v:∀ p,G p→p.addr≠b)(hu:Unj b (TQ a ns))(B:Oth G b ns):Oth G b (TQ a ns):=by
  have d:=(h.t1 a).1
  have j:=(d.t3 a).1
  have g:=(NL j).unj hu
  have y:=(NK d).unj g
  exact((B.t1 ((PI h).unj y) h v).t3 d).t2 g j
abbrev goQ(l:List Int)(ns:List (Int×Nd)):List (Int×Nd):=l.foldl (fun ns a=>TQ a ns) ns
theorem WN.go:∀(l:List Int) {ns:List (Int×Nd)},WN pn were ns→WN pn were (goQ l ns)∧(goQ l ns).map (·.1)=ns.map (·.1)
  | [],_,h=>⟨h,rfl⟩
  | a::l,ns,h=>⟨((h.step a).1.go l).1,((h.step a).1.go l).2.trans (h.step a).2⟩
theorem Le:∀(l:List Int) {ns:List (Int×Nd)},WN pn were ns→Kept ns (goQ l ns)
  | [],ns,_=>Kept.refl ns
  | a::l,ns,h=>(Zfa h).trans (Le l (h.step a).1)
theorem Zir(d:∀ p,G p→p.addr≠b):∀(l:List Int) {ns:List (Int×Nd)},WN pn were ns→Unj b (goQ l ns)→Oth G b ns→Oth G b (goQ l ns)
  | [],_,_,_,hO=>hO
  | a::l,ns,h,hu,hO=>Zir d l (h.step a).1 hu (Zms h d ((Le l (h.step a).1).unj hu) hO)
theorem Zis:∀(l:List Int) {ns:List (Int×Nd)} {m:Nd},WN pn were ns→b∉l→YC b ns=some m→∃ d,YC b (goQ l ns)=some d∧AlikeP m d
  | [],_,m,_,_,hm=>⟨m,hm,AlikeP.refl m⟩
  | a::l,ns,m,h,hb,hm=>by
    obtain⟨m1,h1,h2⟩:=MF h (a:=a) (fun e=>hb (by rw[e];exact B1)) hm
    obtain⟨m2,h3,g⟩:=Zis l (h.step a).1 (fun e=>hb (B2 _ e)) h1
    exact⟨m2,h3,h2.trans g⟩
theorem Late.go(l:List Int)(h:WN pn were ns)(j:Late b (goQ l ns)):Late b ns :=
  Late.back (Le l h) (h.go l).2 (fun G d hu g=>Zir d l h hu g) j
theorem Few.by(h:WN pn were ns)(hb:b≠a)(g:Few b ns):Few b (TQ a ns):=fun y d=>by
  obtain⟨m,hm⟩:=Xc (h.step a).2 d
  obtain⟨j,h1,h2⟩:=MF h hb hm
  rw[d]at h1;cases h1
  rw[h2]
  exact g m hm
theorem Few.own(h:WN pn were ns)(hu:Unj b ns):Few b (TQ b ns):=fun y v=>by
  obtain⟨m,hm⟩:=Xc (h.step b).2 v
  have hj:=hu m hm
  have g1:=RK h hm
  rw[hj]at g1
  have j:=(h.t1 b).1
  have g3:=QK j g1
  have g2:=RA (j.t3 b).1 g3
  have e:y=_:=A5 (v.symm.trans g2)
  obtain⟨t3,p,D,q3,C,g,-⟩:=Rk (fun x=>(YC x (T1 b ns)).isSome) (if false=true then Rl m ns else UJ ns m)
  have B:(if false=true then Rl m ns else UJ ns m)=UJ ns m:=A4 jM
  rw[B]at e g
  rcases Zom h hm hj with d|d
  · left
    rw[e]
    unfold OR
    rw[A6 (by rw[g];exact d),g]
    exact d
  · right
    rw[e]
    exact H7 (Zts _ _) (H7 (Zjz _ _) d)
theorem Zre:∀(l:List Int) {ns:List (Int×Nd)},WN pn were ns→b∉l→Few b ns→Few b (goQ l ns)
  | [],_,_,_,hf=>hf
  | a::l,ns,h,hb,hf=>Zre l (h.step a).1 (fun e=>hb (B2 _ e)) (hf.by h fun e=>hb (by rw[e];exact B1))
theorem Zep:∀(l:List Int) {ns:List (Int×Nd)},WN pn were ns→l.Nodup→Unj b ns→Few b (goQ l ns)
  | [],_,_,_,hu=>fun y d=>.inl (hu y d)
  | a::l,ns,h,hl,hu=>by
    have h2:=D9.1 hl
    by_cases e:b=a
    · subst e
      exact Zre l (h.step b).1 h2.1 (Few.own h hu)
    · refine Zep l (h.step a).1 h2.2 fun y d=>?_
      obtain⟨m,hm⟩:=Xc (h.step a).2 d
      obtain⟨j,h3,g⟩:=MF h e hm
      rw[d]at h3;cases h3
      rw[g];exact hu m hm
structure WaitsR (ns ns1:List (Int×Nd)) (n:Nd):Prop where
  ping:n.pingTo=-1∨YC n.pingTo ns=none
  ask:n.askTo=-1∨YC n.askTo ns=none∨(Late n.askTo ns∧Few n.askTo ns1)
  find:n.findTo=-1∨YC n.findTo ns=none∨(Late n.findTo ns∧Few n.findTo ns1)
  new:n.findTo=-1∨n.findTo∉n.avoid
theorem KO(h:WN pn were ns)(D:YC a ns=some n)(hu:n.joined=false→n.askTo=-1):∃ L,YC a (Xt ns)=some L∧(L.joined=true→WaitsR ns (Xt ns) L):=by
  have ha:a∈ns.map (·.1):=by
    by_cases e:a∈ns.map (·.1)
    · exact e
    · rw[Wg.2 e]at D;cases D
  obtain⟨j,C,R⟩:=List.append_of_mem ha
  have g:(ns.map (·.1)).Nodup:=h.rise.imp fun h=>by omega
  rw[R]at g
  have d:=(H3.1 g).2.1
  have B:=D9.1 d
  have K:a∉j:=fun e=>(H3.1 g).2.2 a e a B1 rfl
  have U:Xt ns=goQ C (TQ a (goQ j ns)):=by
    show goQ (ns.map (·.1)) ns=_
    rw[R]
    unfold goQ
    rw[I4,G6]
  have v:=h.go j
  obtain⟨m,hm,F⟩:=Zis j h K D
  obtain⟨n2,h2,h3⟩:=Zaw v.1 hm (by rw[F];exact hu)
  obtain⟨y,V,O⟩:=Zis C (v.1.step a).1 B.1 h2
  rw[U]
  refine⟨y,V,fun hj=>?_⟩
  have hw:=h3 (by rw[O]at hj;exact hj)
  have T:∀ b,Late b (goQ j ns)→Late b ns∧Few b (goQ C (TQ a (goQ j ns))):=fun b hb=>⟨hb.go j h,Zep (a::C) v.1 d hb.1⟩
  have e:y.pingTo=n2.pingTo∧y.askTo=n2.askTo∧y.findTo=n2.findTo∧y.avoid=n2.avoid:=by rw[O];exact⟨rfl,rfl,rfl,rfl⟩
  refine⟨?_,?_,?_,?_⟩
  · rw[e.1];exact hw.ping.imp_right (VF v.2).1
  · rw[e.2.1];exact hw.ask.imp_right fun q=>q.imp (VF v.2).1 (T _)
  · rw[e.2.2.1];exact hw.find.imp_right fun q=>q.imp (VF v.2).1 (T _)
  · rw[e.2.2.1,e.2.2.2];exact hw.new
end
end Go.Esp
namespace Go.Esp
section
variable {pn:Int→Zr} {were:List Int} {ns:List (Int×Nd)} {a b c k x:Int} {n m n1:Nd} {G:Zr→Prop} {Y:Int}
def AllG(G:Zr→Prop)(ns:List (Int×Nd)):Prop:=∀ b m,YC b ns=some m→GoodT G m.table
theorem AllG.well(h:WN pn were ns)(g:AllG G ns):WellR pn G ⟨c,k,ns,[]⟩ :=
  ⟨fun p d=>⟨(h.nd p d).1,(h.nd p d).2.1,g p.1 p.2 (Ziu (h.rise.imp fun h=>by omega) d)⟩,fun m hm=>by cases hm⟩
theorem AllG.of{d:List (Int×Nd)}(h:WellR pn G ⟨c,k,d,[]⟩):AllG G d:=fun b m hm=>(h.nd _ (TW hm)).2.2
theorem AllG.t1(h:WN pn were ns)(d:AllG G ns):AllG G (T1 a ns):=by
  have h1:WellR pn G (UV a ⟨1,1,ns,[]⟩ 1):=((d.well h).tick a 1).flush 10000
  rw[Zvc h Int.zero_lt_one]at h1
  exact AllG.of h1
theorem AllG.t3(h:WN pn were ns)(d:AllG G ns):AllG G (T3 a ns):=by
  have h1:WellR pn G (UV a ⟨1,1,ns,[]⟩ 3):=((d.well h).tick a 3).flush 10000
  rw[Zva h Int.zero_lt_one]at h1
  exact AllG.of h1
theorem AllG.t2(h:WN pn were ns)(d:AllG G ns):AllG G (T2 a ns):=by
  have h1:WellR pn G (UV a ⟨1,1,ns,[]⟩ 2):=((d.well h).tick a 2).flush 10000
  rw[Zvb h Int.zero_lt_one]at h1
  exact AllG.of h1
theorem AllG.step(h:WN pn were ns)(d:AllG G ns):AllG G (TQ a ns):=((d.t1 h).t3 (h.t1 a).1).t2 ((h.t1 a).1.t3 a).1
theorem AllG.go:∀(l:List Int) {ns:List (Int×Nd)},WN pn were ns→AllG G ns→AllG G (goQ l ns)
  | [],_,_,hG=>hG
  | a::l,ns,h,hG=>AllG.go l (h.step a).1 (hG.step h)
theorem AllG.round(h:WN pn were ns)(d:AllG G ns):AllG G (Xt ns):=AllG.go _ h d
theorem Bn{t:Tb}(h:GoodT G t)(hs:t.self.addr≠x)(hx:x≠-1):GoodT (fun p=>G p∧p.addr≠x) (Xd t x):=by
  refine⟨⟨h.1,hs⟩,fun d=>?_,fun p d=>?_,fun p d g=>?_⟩
  · show G (if t.pred.addr=x then Yj else t.pred)∧(if t.pred.addr=x then Yj else t.pred).addr≠x
    have d:(if t.pred.addr=x then Yj else t.pred)≠Yj:=d
    by_cases e:t.pred.addr=x
    · grind
    · rw[A4 e]at d ⊢;exact⟨h.2.1 d,e⟩
  · have h1:=F6.1 d
    exact⟨h.2.2.1 p h1.1,by simpa using h1.2⟩
  · obtain⟨q,j,rfl⟩:=C0.1 d
    by_cases e:q.addr=x
    · grind
    · rw[A4 e]at g ⊢;exact⟨h.2.2.2 q j g,e⟩
theorem Cm(h:Ui n)(g:GoodT G n.table):GoodT (fun p=>G p∧(n.pingTo≠-1→p.addr≠n.pingTo)) (unping n).table:=by
  unfold unping
  by_cases e:n.pingTo≠-1
  · rw[A6 e]
    exact(Bn g (fun q=>h.2.2.2.2.2.2.2.1.2.2.1.2 q.symm) e).mono fun p d=>⟨d.1,fun _=>d.2⟩
  · simp_all
theorem IS{s:Zr}{q:Zr}(g:0≤q.addr)(hs:q.addr≠s.addr):∀{xs out:List Zr},(q∈xs∨PQ out q.addr)→PQ (xs.foldl (Uc s) out) q.addr
  | [],out,h=>h.elim (fun h=>by cases h) id
  | p::xs,out,h=>by
    have key:∀ r,PQ out r→PQ (Uc s out p) r:=by
      intro r d
      unfold Uc
      split
      · exact d
      · obtain⟨z,j,rfl⟩:=C0.1 d
        exact C0.2 ⟨z,Mk.2 (.inr j),rfl⟩
    refine IS g hs (xs:=xs) ?_
    rcases h with h|h
    · rcases B7.1 h with rfl|h
      · right
        unfold Uc
        by_cases e:q.addr<0∨q.addr=s.addr∨PQ out q.addr
        · rw[A6 e]
          rcases e with e|e|e
          · omega
          · exact absurd e hs
          · exact e
        · rw[A4 e]
          exact C0.2 ⟨q,Mk.2 (.inl rfl),rfl⟩
      · exact .inl h
    · exact .inr (key _ h)
theorem EZ{t:Tb}{p:Zr}(ht:TG t)(d:p∈t.pred::(t.succ++t.fingers))(g:p≠Yj):PQ (Wy t) p.addr:=by
  have j:Ys t.self p:=by
    obtain⟨h1,h2,h3,B,v,y⟩:=ht
    rcases B7.1 d with rfl|d
    · exact h2.resolve_left g
    · rcases B8.1 d with d|d
      · exact v.1 p d
      · exact(y p d).resolve_left g
  exact IS (by have:=j.1.1;omega) j.2.1 (.inl d)
theorem Zhp{t:Tb}(ht:TG t)(h:Wy t=[]):GoodT (fun p=>p=t.self) t:=by
  have key:∀ p,p∈t.pred::(t.succ++t.fingers)→p≠Yj→p=t.self:=fun p d g=>by
    have:=EZ ht d g
    rw[h]at this
    cases this
  refine⟨rfl,fun d=>key _ B1 d,fun p d=>key p (B2 _ (C5 _ d)) ?_,fun p d g=>key p (B2 _ (D0 _ d)) g⟩
  exact QA (ht.2.2.2.2.1.1 p d)
def GS(a:Int)(S:List Int)(p:Zr):Prop:=p.addr=a∨p.addr∈S
def itQ:Nat→List (Int×Nd)→List (Int×Nd)
  | 0,ns=>ns
  | j+1,ns=>itQ j (Xt ns)
theorem BG(h:WN pn were ns)(g:YC a ns=some n):∃ d,YC a (T1 a ns)=some d∧d.pingTo=n.pingTo∧d.turn=n.turn:=by
  refine⟨_,RK h g,?_⟩
  split
  · obtain⟨t,q,x,y,e,-⟩:=NG n ns
    grind
  · exact Jj.2
theorem Zab(h:WN pn were ns)(j:YC a ns=some n)(B:GoodT G n.table):∃ d,YC a (T3 a ns)=some d∧GoodT (fun p=>G p∧(n.pingTo≠-1→p.addr≠n.pingTo)) d.table ∧
    (GoodT (fun p=>p.addr=a) d.table∨∃ p∈Wy d.table,TA (unping n)=some p∧d.table=(unping n).table∧d.pingTo=(if(YC p.addr ns).isSome then -1 else p.addr)∧d.turn=((unping n).turn+1) % 1000000)∧d.joined=n.joined:=by
  have h1:=h.get j
  have v:=Cm h1.1 B
  have hu:=Ec h1.1 h1.2.2
  have hj:(UH (fun x=>(YC x ns).isSome) n).joined=n.joined:=by
    obtain⟨t,p,r,q,u,e,-⟩:=Rk (fun x=>(YC x ns).isSome) n
    rw[e]
  refine⟨_,QK h j,?_,?_,hj⟩
  · unfold UH
    cases g:TA (unping n)with
    | none=>exact v
    | some p=>exact v
  · unfold UH
    cases g:TA (unping n)with
    | none =>
      left
      have hk:Wy (unping n).table=[]:=by
        cases hk:Wy (unping n).table with
        | nil=>rfl
        | cons p l =>
          obtain⟨q,y⟩:=KW (n:=unping n) (by rw[hk];exact List.cons_ne_nil _ _)
          rw[g]at y;cases y
      refine(Zhp hu.1.1 hk).mono fun p g=>?_
      rw[g,hu.2.1,h.self j]
    | some p=>exact .inr ⟨p,(show p∈Wy (unping n).table from MS g),rfl,rfl,rfl,rfl⟩
theorem JL{S:List Int}(h:WN pn were ns)(Z:-1∉S)(hk:ns.map (·.1)=[a])(hn:YC a ns=some n)(U:AllG (GS a S) ns):
    AllG (GS a []) (Xt ns)∨∃ T,YC a (Xt ns)=some T∧T.pingTo∈S.filter (·≠n.pingTo)∧AllG (GS a (S.filter (·≠n.pingTo))) (Xt ns):=by
  have V:Xt ns=T2 a (T3 a (T1 a ns)):=by
    unfold Xt
    rw[hk]
    rfl
  have y:=h.t1 a
  have j:=y.1.t3 a
  have one:∀{G:Zr→Prop} {d:List (Int×Nd)} {m:Nd},d.map (·.1)=ns.map (·.1)→YC a d=some m→GoodT G m.table→AllG G d:=by
    intro G d m he hm hg b m2 g
    have hb:b∈d.map (·.1):=by
      by_cases e:b∈d.map (·.1)
      · exact e
      · rw[Wg.2 e]at g;cases g
    rw[he,hk]at hb
    rw[B0.1 hb,hm]at g
    cases g
    exact hg
  obtain⟨n1,g1,R,-⟩:=BG h hn
  obtain⟨L,g3,hf,D,-⟩:=Zab y.1 g1 (U.t1 h a n1 g1)
  rw[V]
  have K:=j.2.trans y.2
  rcases D with D|⟨p,B,-,-,C,-⟩
  · left
    exact(one (G:=GS a []) K g3 (D.mono fun p B=>.inl B)).t2 j.1
  · right
    have hs:GoodT (GS a (S.filter (·≠n.pingTo))) L.table:=hf.mono fun q O=>by
      rcases O.1 with e|e
      · exact .inl e
      · by_cases e2:q.addr=n.pingTo
        · by_cases e3:n.pingTo=-1
          · exact absurd (e3 ▸ e2 ▸ e) Z
          · exact absurd (e2.trans R.symm) (O.2 (by rw[R];exact e3))
        · exact .inr (F6.2 ⟨e,by simpa using e2⟩)
    refine⟨_,RA j.1 g3,?_,(one K g3 hs).t2 j.1⟩
    rw[Gt.2.1,C]
    have F:Ys L.table.self p:=Qf (j.1.get g3).1.1 p B
    have v:p.addr≠a:=fun e=>F.2.1 (by rw[e,j.1.self g3])
    have hl:YC p.addr (T1 a ns)=none:=by
      rw[Wg,y.2,hk]
      exact fun e=>v (B0.1 e)
    rw[hl]
    exact(Pd hs p B).resolve_left v
theorem Wh(h:WN pn were ns):WN pn were (Xt ns)∧(Xt ns).map (·.1)=ns.map (·.1):=h.go _
theorem Bc:∀(j:Nat) {ns:List (Int×Nd)},WN pn were ns→WN pn were (itQ j ns)∧(itQ j ns).map (·.1)=ns.map (·.1)
  | 0,_,h=>⟨h,rfl⟩
  | j+1,ns,h=>⟨(Bc j (Wh h).1).1,(Bc j (Wh h).1).2.trans (Wh h).2⟩
theorem AllG.it:∀(j:Nat) {ns:List (Int×Nd)},WN pn were ns→AllG G ns→AllG G (itQ j ns)
  | 0,_,_,hG=>hG
  | j+1,ns,h,hG=>AllG.it j (Wh h).1 (hG.round h)
theorem Zrc(i j:Nat)(ns:List (Int×Nd)):itQ (i+j) ns=itQ j (itQ i ns):=by
  induction i generalizing ns with
  | zero=>rw[F2];rfl
  | succ i ih=>rw[Nat.succ_add];exact ih _
theorem LR:∀(j:Nat) {S:List Int} {ns:List (Int×Nd)} {n:Nd},S.length≤j→WN pn were ns→-1∉S→ns.map (·.1)=[a]→YC a ns=some n→n.pingTo∈S→AllG (GS a S) ns→AllG (GS a []) (itQ j ns)
  | 0,S,ns,n,hj,h,hS,hk,hn,hp,hG=>by
    have:S=[]:=List.length_eq_zero_iff.1 jD
    rw[this]at hp;cases hp
  | j+1,S,ns,n,hj,h,hS,hk,hn,hp,hG=>by
    rcases JL h hS hk hn hG with h1|⟨d,h1,h2,h3⟩
    · exact h1.it j (Wh h).1
    · have g:(S.filter (·≠n.pingTo)).length<S.length:=List.length_filter_lt_length_iff_exists.2 ⟨n.pingTo,hp,by simp⟩
      exact LR j (S:=S.filter (·≠n.pingTo)) jD (Wh h).1 (fun e=>hS (F6.1 e).1) ((Wh h).2.trans hk) h1 h2 h3
theorem Zkq{S:List Int}{j:Nat}(h:WN pn were ns)(d:-1∉S)(hk:ns.map (·.1)=[a])(hj:S.length<j)(v:AllG (GS a S) ns):AllG (GS a []) (itQ j ns):=by
  obtain⟨n,g⟩:∃ n,YC a ns=some n:=by
    cases hg:YC a ns with
    | none=>rw[Wg,hk]at hg;exact absurd B1 hg
    | some n=>exact⟨n,rfl⟩
  obtain⟨j,rfl⟩:∃ i,j=i+1:=⟨j-1,by omega⟩
  rcases JL h d hk g v with h1|⟨y,h1,h2,h3⟩
  · exact h1.it j (Wh h).1
  · exact LR j (H7 (List.length_filter_le _ _) jD) (Wh h).1 (fun e=>d (F6.1 e).1) ((Wh h).2.trans hk) h1 h2 h3
end
end Go.Esp
namespace Go.Esp
section
variable {pn:Int→Zr} {were:List Int} {ns:List (Int×Nd)} {a b c k x X o:Int} {n m n1:Nd} {G:Zr→Prop} {Y:Int}
def PredE(n n':Nd):Prop:=n'.table.pred=n.table.pred∨n'.table.pred=Yj
theorem PredE.trans{x y z:Nd}(h:PredE x y)(h1:PredE y z):PredE x z:=h1.elim (fun e=>h.imp e.trans e.trans) .inr
theorem Ny(t:Tb)(x:Int):(Xd t x).pred=t.pred∨(Xd t x).pred=Yj:=by
  show(if t.pred.addr=x then Yj else t.pred)=_∨(if t.pred.addr=x then Yj else t.pred)=_
  grind
theorem Pk(n:Nd)(p:Zr)(l:List Zr):(XO n p l).table.pred=n.table.pred:=by
  unfold XO
  split
  · rename_i h
    unfold VJ at h ⊢
    grind
  · rfl
theorem IG(n:Nd)(p:Zr):(WZ n p).table.pred=n.table.pred:=by
  unfold WZ
  split
  · rename_i h
    unfold WF at h ⊢
    grind
  · rfl
theorem Ha(n:Nd)(l:Lt):(YF n l).1.table.pred=n.table.pred:=by
  unfold YF
  split
  · rfl
  · split
    · dsimp only
      split
      · exact IG { n with findTo:=-1 } l.peer
      · split
        · exact Pk { n with findTo:=-1 } l.peer []
        · rfl
    · split <;> rfl
theorem Ll:∀(F:Nat) (n:Nd),(XS ns F n).table.pred=n.table.pred
  | 0,n=>rfl
  | F+1,n=>by
    unfold XS
    cases hf:Vz ns n.table.self n.findTo with
    | none=>rfl
    | some x =>
      show(match (YF n (Xq x (Xl n))).2 with
        | []=>(YF n (Xq x (Xl n))).1
        | _=>XS ns F (YF n (Xq x (Xl n))).1).table.pred=_
      split
      · exact Ha _ _
      · exact(Ll F _).trans (Ha _ _)
theorem Cn(n:Nd):PredE n (unfind n):=by
  unfold unfind
  split
  · exact .inl rfl
  · exact Ny _ _
theorem Zoz(ns:List (Int×Nd))(n:Nd):PredE n (OR ns n):=by
  unfold OR
  split
  · exact .inl rfl
  · refine(Cn n).trans ?_
    split
    · exact .inl (IG _ _)
    · split
      · exact .inl rfl
      · exact .inl (Ll _ _)
theorem Zcc(t:Tb)(p:Zr):(WO t p).pred=t.pred∨(WO t p).pred=p:=by
  unfold WO
  grind
theorem Df{p:Zr}:∀{l:List Zr},(l.map Zr.addr).Pairwise (·<·)→¬PQ l p.addr→((AG p l).map Zr.addr).Pairwise (·<·)
  | [],_,_=>by simp[AG]
  | q::l,h,hn=>by
    have h2:=D6.1 h
    have v:q.addr≠p.addr:=fun e=>hn (C0.2 ⟨q,B1,e⟩)
    have j:¬PQ l p.addr:=fun e=>hn (B2 _ e)
    unfold AG
    by_cases e:q.addr<p.addr
    · rw[A6 e]
      refine D6.2 ⟨fun y d=>?_,Df h2.2 j⟩
      obtain⟨z,g,rfl⟩:=C0.1 d
      rcases Mk.1 g with rfl|g
      · exact e
      · exact h2.1 _ (G8 g)
    · rw[A4 e]
      refine D6.2 ⟨fun y d=>?_,h⟩
      rcases B7.1 d with rfl|d
      · omega
      · have:=h2.1 y d;omega
theorem IR{s:Zr}:∀{xs out:List Zr},(out.map Zr.addr).Pairwise (·<·)→((xs.foldl (Uc s) out).map Zr.addr).Pairwise (·<·)
  | [],_,h=>h
  | p::xs,out,h=>by
    refine IR (xs:=xs) ?_
    unfold Uc
    by_cases e:p.addr<0∨p.addr=s.addr∨PQ out p.addr
    · rw[A6 e];exact h
    · rw[A4 e];exact Df h fun q=>e (.inr (.inr q))
structure Stays (W I:List (Int×Nd)→Prop):Prop where
  t1:∀ ns x,W ns→I ns→I (T1 x ns)
  t3:∀ ns x,W ns→I ns→I (T3 x ns)
  t2:∀ ns x,W ns→I ns→I (T2 x ns)
end
end Go.Esp
