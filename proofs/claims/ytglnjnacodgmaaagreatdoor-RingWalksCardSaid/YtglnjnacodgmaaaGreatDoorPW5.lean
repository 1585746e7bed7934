/-
  Texts of this claim, one behind the other: V8, KT5, ShaN, KT6, ShaL, KT7, ShaS, KT8, KT9, RepL, RepM, PadL, KT10, SumL, KT11, ItoaL, ItoaM, KT12, KT13, KT14, RingJ, R5, R6, R7, R8, R9, R10, RingX, U1, U2, NodeL, KnowL, RingQ, RingP, RingO, RingT, RingS, RingU.
-/
import Derived.Test.YtglnjnacodgmaaaGreatDoorPW4
import Derived.KernelRfl
import Derived.Shelf.Strings.Repeat
import Derived.Ground.NamesProg
import Derived.Test.YtglnjnacodgmaaaGreatDoorRows
import Derived.Shelf.Strconv.Itoa3
set_option linter.unusedSimpArgs false
set_option linter.unusedVariables false
set_option linter.unnecessarySimpa false
set_option maxRecDepth 8000
set_option maxHeartbeats 1000000
open Array renaming getElem?_eq_some_iff → E4
open BitVec renaming toNat_ofNat → H4
open Decidable renaming byContradiction → C2,not_not → I0
open List renaming getElem?_eq_getElem → A7,length_map → A8,mem_singleton → B0,mem_cons_self → B1,mem_cons_of_mem → B2,length_append → B3,cons_append → B4,append_assoc → B5,nil_append → B6,mem_cons → B7,mem_append → B8,mem_map → C0,getElem_mem → C1,mem_append_left → C5,map_append → C6,length_cons → C8,mem_append_right → D0,map_cons → D3,length_nil → D5,pairwise_cons → D6,getD_eq_getElem?_getD → D7,length_take → D8,nodup_cons → D9,append_nil → E0,pairwise_iff_getElem → E1,getElem_of_mem → E2,getElem?_map → E6,all_eq_true → E7,getElem?_append_left → F5,mem_filter → F6,mem_of_mem_take → F9,take_length → G0,getElem?_append_right → G2,foldl_cons → G6,mem_map_of_mem → G8,nodup_append → H3,take_of_length_le → H5,mem_of_getElem? → H8,map_map → I2,foldl_append → I4,nodup_nil → J1,size_toArray → J2,ext_getElem → J4
open List.Mem renaming head → J3,tail → J6
open List.Pairwise renaming nil → J8
open List.Perm renaming refl → I9
open Nat renaming le_refl → B9,zero_le → C3,lt_or_ge → C7,mod_eq_of_lt → E3,zero_add → F2,eq_of_beq_eq_true → F8,mod_lt → G5,le_trans → H7,min_eq_left → I5
open Option renaming getD_some → F7
open Option.some renaming inj → A5,injEq → G1
namespace Go.Proofs.YtglnjnacodgmaaaGreatDoor
open Go.Esp
theorem Zeb (M:Mem) (l:(Sl Zr)) (r:Int) (hl0:SlK M Zr.segs 21 l):Esp.Fn Tryz.prog 49 [Sl.val l,.int .i64 r] M (fun M' v=>Yaj M' v (Re l.l r)):=by
  obtain ⟨l_a,l_c,l_l⟩:=l
  have k_l:SlK M Zr.segs 21 ⟨l_a,l_c,l_l⟩:=hl0
  have s_l:SlM M l_a (l_l.map Zr.segs) 21:=k_l.h1
  have n_l:(l_l.map Zr.segs).length=l_l.length:=List.length_map ..
  have m_l:l_l.length≤9223372036854775807:=k_l.h2
  have c_l:l_l.length≤l_c:=k_l.h3
  refine WE Tryz.func49 rfl Tryz.ntmps49 rfl ?_;intro H
  refine S10 ?_;refine Vn (K.Circ_ok _ ⟨_,_,_⟩ jE) ?_
  rintro _ rfl
  refine S2 ?_
  refine YE 19 (eT fun hc1=>?_) (eF fun hc1=>?_)
  ·simp only [Zr.eta,ZK.eta,ZM.eta,ZI.eta,YD.eta,YQ.eta,XM.eta,YT.eta,ZW.eta,XF.eta,Yk.eta] at hc1
   refine S18 ?_;refine ZH fun w hw=>?_
   refine ⟨_,M,rfl,Mem.le.refl M,hw.c,?_⟩
   rw [show Re l_l r=([],1) from Ns yE]
   exact ⟨_,rfl,⟨none,0,[]⟩,rfl,rfl,SlK.nil,fun t ht=>by cases ht⟩
  ·simp only [Zr.eta,ZK.eta,ZM.eta,ZI.eta,YD.eta,YQ.eta,XM.eta,YT.eta,ZW.eta,XF.eta,Yk.eta] at hc1
   refine S4 ?_
   refine YE 23 (cT fun hc2=>?_) (cF fun hc2=>?_)
   ·refine S14 ?_
    refine ZH fun w hw=>?_
    refine ⟨_,M,rfl,Mem.le.refl M,hw.c,?_⟩
    rw [show Re l_l r=([],1) from Ns yE]
    exact ⟨_,rfl,⟨none,0,[]⟩,rfl,rfl,SlK.nil,fun t ht=>by cases ht⟩
   ·refine S5 ?_
    refine Xb (cT fun hc3=>?_) (cF fun hc3=>?_)
    ·refine S8 ?_
     refine ZH fun w hw=>?_
     refine ⟨_,M,rfl,Mem.le.refl M,hw.c,?_⟩
     rw [show Re l_l r=([],1) from Ns yE]
     exact ⟨_,rfl,⟨none,0,[]⟩,rfl,rfl,SlK.nil,fun t ht=>by cases ht⟩
    ·refine S3 ?_
     obtain ⟨rn,rfl⟩:∃ n:Nat,r=n:=⟨r.toNat,by omega⟩
     have hc:Xk l_l:=by assumption
     have hc1:=hc.1
     refine S13 ?_;refine VG [29,6,28,27,5,4,0,1] ?_;refine XV (Hin:=[]) (.succ (.succ .zero)) jA (fun (i:Nat) M1 h1 z=>∃ (acc:List ZK) (v:Value),z=[(29,.int .i64 (i:Int)),(6,v)]∧i≤l_l.length∧OSl 41 44 v h1 (acc.map ZK.segs)∧(∀ t∈acc,ZK.ok M1 t)∧acc.map ZK.tb=(Nb l_l rn).take i) (fun i=>l_l.length-i) (0) (⟨[],_,rfl,by omega,OSl.nil,by simp,rfl⟩) ?_
     rintro i M1 h1 z hm1 ⟨acc,v0,rfl,hi,ho,hok,hI⟩
     obtain ⟨ad0,cp0,rfl⟩:=ho.valL
     have hml:(acc.map ZK.segs).length=acc.length:=List.length_map ..
     have hal:acc.length=i:=by have h9:=congrArg List.length hI;simp only [List.length_map,List.length_take,Tp] at h9;omega
     have s_l1:=s_l.mono hm1
     have k_l1:=k_l.mono hm1
     refine S6 ?_
     refine Xb (cT fun hc4=>?_) (cF fun hc4=>?_)
     ·refine S5 ?_
      have hi2:i<l_l.length:=by omega
      refine S5 ?_
      intro b5
      refine S7 ?_;refine We (Zvk _ l_l[i] (hc.2.1 _ (List.getElem_mem hi2))) ?_
      rintro _ M9 hsF hm9 ⟨hM9,v2,rfl,hoF⟩;subst M9
      obtain ⟨adF,cpF,rfl⟩:=hoF.val
      refine S4 ?_
      intro b6
      refine S5 ?_;refine Ya (l:=[0,1,2,3,4,5,6,7,8,9]) #[0,0,2,7,0,0,48,127,255,511] _ rfl jI jI St.drawn (fun _ h=>h) ?_;refine S3 ?_;refine WL rfl rfl rfl (.some (k:=(i+1)) rfl rfl) .none .none F.elem39 zJ jJ jJ jQ (Nu (l:=l_l) (k:=(i+1))) rfl ?_;refine S2 ?_;refine WL rfl rfl rfl .none (.some (k:=i) rfl rfl) .none F.elem39 zJ jJ jJ jQ (Nt (l:=l_l) (k:=i) jD) rfl ?_
      refine YK rfl rfl F.elem142 F.zero39 rfl rfl (.cons rfl jG (.cons rfl jG .nil)) rfl rfl jK rfl ?_;intro b7 hob8
      refine We (Zlv M1 _ _ _ ([⟨Iw l_a l_c (i+1) 21,l_c-(i+1),l_l.drop (i+1)⟩,⟨l_a,l_c,l_l.take i⟩]:List (Sl Zr)) (hob8.rd M1) (by intro s9 hs9;simp only [List.mem_cons,List.not_mem_nil,or_false] at hs9;rcases hs9 with rfl|rfl;exact k_l1.drop (i+1) jD;exact k_l1.take i jD) jQ jU) ?_
      rintro vR M9 _ hm9 ⟨hM9,hsR,rfl,hoR⟩;subst M9
      obtain ⟨R_l,hR⟩:∃ x,Wf l_l i=x:=⟨_,rfl⟩
      replace hoR:OSl 38 21 vR hsR (R_l.map Zr.segs):=by rw [← hR];unfold Wf;simpa using hoR
      obtain ⟨R_a,R_c,rfl⟩:=hoR.valL
      simp only [List.append_assoc]
      refine S5 ?_
      have hRl:R_l.length=l_l.length-1:=by rw [← hR];exact QW hi2
      refine Pn hoR jA (fun M2 hm2 k_R=>?_)
      have s_R:=k_R.h1
      have c_R:R_l.length≤R_c:=k_R.h3
      have n_R:(R_l.map Zr.segs).length=R_l.length:=List.length_map ..
      refine S6 ?_
      refine Xb (cT fun hc9=>?_) (cF fun hc9=>?_)
      ·refine S6 ?_
       rw [show (((R_l.length:Nat):Int)-1)=((R_l.length-1:Nat):Int) by omega]
       refine S11 ?_;refine X_min rfl rfl rfl rfl rfl rfl ?_
       obtain ⟨m9,hmn⟩:∃ m,m=min rn R_l.length:=⟨_,rfl⟩
       rw [show (if ((R_l.length:Nat):Int)<(rn:Int) then ((R_l.length:Nat):Int) else (rn:Int))=(m9:Int) by split <;> omega]
       refine WL rfl rfl rfl .none (.some (k:=m9) rfl rfl) .none F.elem39 zJ jJ jJ jQ (Nt (l:=R_l) (k:=m9) jD) rfl ?_;refine We (RB M2 _ _ (R_l.take m9) (k_R.take m9 jD) (by rw [List.length_take];omega)) ?_
       rintro vS M9 hsS hm9 ⟨hM9,hoS⟩;subst M9
       obtain ⟨adS,cpS,rfl⟩:=hoS.valL
       refine S5 ?_
       refine Pn hoS jA (fun M3 hm3 k_S=>?_)
       refine S3 ?_;refine PH (HC M3 ⟨l_a,l_c,l_l⟩ (i:Int) (k_l.mono (hm1.trans (hm2.trans hm3)))) ?_
       rintro _ M4 hm4 hF9
       replace hF9:Zvm M4 _ (Rj l_l ((i:Nat):Int)):=hF9
       rw [Om hc hi2] at hF9
       obtain ⟨⟨G_a,G_c,G_l⟩,rfl,hG,k_G⟩:=hF9
       simp only at hG
       have s_G:=k_G.h1
       simp only at s_G
       have hGl:G_l.length=160:=by rw [hG];simp
       have n_G:(G_l.map (WC .i64)).length=G_l.length:=List.length_map ..
       have s_l4:=s_l.mono ((hm1.trans (hm2.trans hm3)).trans hm4)
       refine S16 ?_;refine VG [74,73,72,12,71,70,66,69,68,67,65,64,63,62,61,60,59,58,57,56,55,54,53,52,51,50,49,48,11,47,46,45,44,43,42,41,40,39,9,38,37,34,36,35,7,8,33,32,31,30,29,6,28,27,5,4,0,1] ?_;refine OZ (Hin:=[(b6,Yp [.one (.int .i64 l_l[i].addr),ZU l_l[i].id,.one (.int .i64 R_l[R_l.length-1].addr),ZU R_l[R_l.length-1].id,.one (.slice adS (R_l.take m9).length cpS),.one (.slice adF 160 cpF)] 41)]) (Hin2:=hsF) (.succ .zero) jA jA (fun (k:Nat) M5 h5 z=>∃ hs,M5=M4∧z=[(74,.int .i64 (k:Int))]∧k≤160∧h5=(b6,Yp [.one (.int .i64 l_l[i].addr),ZU l_l[i].id,.one (.int .i64 R_l[R_l.length-1].addr),ZU R_l[R_l.length-1].id,.one (.slice adS (R_l.take m9).length cpS),.one (.slice adF 160 cpF)] 41)::hs∧OSl 38 21 (.slice adF 160 cpF) hs ((Qm (MN l_l i l_l[i]) Yj k).map Zr.segs)) (fun k=>160-k) (0) (⟨hsF,rfl,rfl,by omega,rfl,by rw [Hj,List.map_replicate];exact hoF⟩) ?_
       rintro k M5 h5 z hm5 ⟨hs5,hM5,rfl,hk,rfl,ho5⟩
       subst hM5
       have hnw:((Qm (MN l_l i l_l[i]) Yj k).map Zr.segs).length=160:=by rw [List.length_map,Dz]
       simp only [List.cons_append,List.nil_append]
       refine S6 ?_
       refine Xb (cT fun hc10=>?_) (cF fun hc10=>?_)
       ·refine S9 ?_
        have hGk:G_l[k]=((Ve l_l (l_l[i].id+To k):Nat):Int):=by simp only [hG,List.getElem_map,List.getElem_range];rfl
        have ho9:=Ua (l:=l_l) (x:=l_l[i].id+To k) jD
        generalize hog:Ve l_l (l_l[i].id+To k)=o9 at hGk ho9
        simp only [List.get_eq_getElem,hGk]
        refine S11 ?_
        refine Xb (eT fun hc11=>?_) (eF fun hc11=>?_)
        ·refine Ya (l:=[0,1,2,3,4,5,6,7,8]) #[0,1,0,0,0,24,56,127,255] _ rfl jI jI St.drawn (fun _ h=>h) ?_
         refine S7 ?_
         obtain ⟨bF,rfl⟩:=ho5.someB jD
         refine Stp ?_
         refine Tw (b:=bF) (j:=k) rfl rfl rfl rfl jG (Yi rfl (Xg YS)) F.lay38 rfl rfl ho5 jA jD ?_;intro hs7 ho7
         replace ho7:OSl 38 21 (.slice (some ⟨bF,0,none⟩) 160 cpF) hs7 ((Qm (MN l_l i l_l[i]) Yj (k+1)).map Zr.segs):=by rw [← Zjj (MN l_l i l_l[i]) Yj (show k<160 by omega) (v:=l_l[o9]) (by unfold MN;rw [hog,if_neg jD,List.getElem?_eq_getElem ho9];rfl),List.map_set];exact ho7.aZ (by simp [hnw])
         refine S7 ?_;refine YO (a':=[(74,_)]) (k+1) ((b6,Yp [.one (.int .i64 l_l[i].addr),ZU l_l[i].id,.one (.int .i64 R_l[R_l.length-1].addr),ZU R_l[R_l.length-1].id,.one (.slice adS (R_l.take m9).length cpS),.one (.slice (some ⟨bF,0,none⟩) 160 cpF)] 41)::hs7) (.cons (k:=74) rfl (.cons (k:=73) rfl (.cons (k:=72) rfl (.cons (k:=12) rfl (.cons (k:=71) rfl (.cons (k:=70) rfl (.cons (k:=66) rfl (.cons (k:=69) rfl (.cons (k:=68) rfl (.cons (k:=67) rfl (.cons (k:=65) rfl (.cons (k:=64) rfl (.cons (k:=63) rfl (.cons (k:=62) rfl (.cons (k:=61) rfl (.cons (k:=60) rfl (.cons (k:=59) rfl (.cons (k:=58) rfl (.cons (k:=57) rfl (.cons (k:=56) rfl (.cons (k:=55) rfl (.cons (k:=54) rfl (.cons (k:=53) rfl (.cons (k:=52) rfl (.cons (k:=51) rfl (.cons (k:=50) rfl (.cons (k:=49) rfl (.cons (k:=48) rfl (.cons (k:=11) rfl (.cons (k:=47) rfl (.cons (k:=46) rfl (.cons (k:=45) rfl (.cons (k:=44) rfl (.cons (k:=43) rfl (.cons (k:=42) rfl (.cons (k:=41) rfl (.cons (k:=40) rfl (.cons (k:=39) rfl (.cons (k:=9) rfl (.cons (k:=38) rfl (.cons (k:=37) rfl (.cons (k:=34) rfl (.cons (k:=36) rfl (.cons (k:=35) rfl (.cons (k:=7) rfl (.cons (k:=8) rfl (.cons (k:=33) rfl (.cons (k:=32) rfl (.cons (k:=31) rfl (.cons (k:=30) rfl (.cons (k:=29) rfl (.cons (k:=6) rfl (.cons (k:=28) rfl (.cons (k:=27) rfl (.cons (k:=5) rfl (.cons (k:=4) rfl (.cons (k:=0) rfl (.cons (k:=1) rfl (.nil))))))))))))))))))))))))))))))))))))))))))))))))))))))))))) jO (fun w hw=>by first|exact hw|exact hw.c) ?_ ?_
         ·exact ⟨hs7,rfl,rfl,by omega,rfl,ho7⟩
         ·omega
        ·refine S7 ?_
         refine YO (a':=[(74,_)]) (k+1) ((b6,Yp [.one (.int .i64 l_l[i].addr),ZU l_l[i].id,.one (.int .i64 R_l[R_l.length-1].addr),ZU R_l[R_l.length-1].id,.one (.slice adS (R_l.take m9).length cpS),.one (.slice adF 160 cpF)] 41)::hs5) (.cons (k:=74) rfl (.cons (k:=73) rfl (.cons (k:=72) rfl (.cons (k:=12) rfl (.cons (k:=71) rfl (.cons (k:=70) rfl (.cons (k:=66) rfl (.cons (k:=69) rfl (.cons (k:=68) rfl (.cons (k:=67) rfl (.cons (k:=65) rfl (.cons (k:=64) rfl (.cons (k:=63) rfl (.cons (k:=62) rfl (.cons (k:=61) rfl (.cons (k:=60) rfl (.cons (k:=59) rfl (.cons (k:=58) rfl (.cons (k:=57) rfl (.cons (k:=56) rfl (.cons (k:=55) rfl (.cons (k:=54) rfl (.cons (k:=53) rfl (.cons (k:=52) rfl (.cons (k:=51) rfl (.cons (k:=50) rfl (.cons (k:=49) rfl (.cons (k:=48) rfl (.cons (k:=11) rfl (.cons (k:=47) rfl (.cons (k:=46) rfl (.cons (k:=45) rfl (.cons (k:=44) rfl (.cons (k:=43) rfl (.cons (k:=42) rfl (.cons (k:=41) rfl (.cons (k:=40) rfl (.cons (k:=39) rfl (.cons (k:=9) rfl (.cons (k:=38) rfl (.cons (k:=37) rfl (.cons (k:=34) rfl (.cons (k:=36) rfl (.cons (k:=35) rfl (.cons (k:=7) rfl (.cons (k:=8) rfl (.cons (k:=33) rfl (.cons (k:=32) rfl (.cons (k:=31) rfl (.cons (k:=30) rfl (.cons (k:=29) rfl (.cons (k:=6) rfl (.cons (k:=28) rfl (.cons (k:=27) rfl (.cons (k:=5) rfl (.cons (k:=4) rfl (.cons (k:=0) rfl (.cons (k:=1) rfl (.nil))))))))))))))))))))))))))))))))))))))))))))))))))))))))))) jO (fun w hw=>by first|exact hw|exact hw.c) ?_ ?_
         ·refine ⟨hs5,rfl,rfl,by omega,rfl,?_⟩
          rw [← Hk _ _ (show Yj=MN l_l i l_l[i] k from (if_pos jD).symm)];exact ho5
         ·omega
       ·refine S5 ?_
        obtain rfl:k=160:=by omega
        rw [DA] at ho5
        refine Pn (l:=(List.range 160).map (MN l_l i l_l[i])) ho5 jA (fun M6 hm6 k_F=>?_)
        refine S3 ?_
        refine YK rfl rfl F.elem66 F.zero41 rfl rfl (.cons rfl jG .nil) rfl rfl jK rfl ?_;intro b12 hob13
        refine Vc (m:=1000000) rfl rfl rfl rfl rfl F.elem66 F.zero41 zI rfl jE jA (Src.own hob13.lens jN rfl jB) jX jM rfl ?_;intro v16 hs15 ho14;obtain ⟨adv16,cpv16,rfl⟩:=ho14.valAt (n:=acc.length+1) zS
        refine S8 ?_;refine YO (a':=[(29,_),(6,_)]) (i+1) (hs15) (.cons (k:=29) rfl (.cons (k:=6) rfl (.cons (k:=28) rfl (.cons (k:=27) rfl (.cons (k:=5) rfl (.cons (k:=4) rfl (.cons (k:=0) rfl (.cons (k:=1) rfl (.nil))))))))) (hm1.trans (hm2.trans (hm3.trans (hm4.trans hm6)))) (fun w hw=>by first|exact hw|exact hw.c) ?_ ?_
        ·refine ⟨acc++[⟨⟨l_l[i].addr,l_l[i].id⟩,⟨R_l[R_l.length-1].addr,R_l[R_l.length-1].id⟩,⟨adS,cpS,R_l.take m9⟩,⟨adF,cpF,(List.range 160).map (MN l_l i l_l[i])⟩⟩],_,rfl,by omega,by rw [List.map_append];exact ho14,fun t ht=>?_,?_⟩
         ·rcases List.mem_append.1 ht with ht|ht
          ·exact (hok t ht).mono (hm2.trans (hm3.trans (hm4.trans hm6)))
          ·rw [List.mem_singleton.1 ht];exact ⟨k_S.mono (hm4.trans hm6),k_F⟩
         ·rw [List.map_append,hI,Es hi2]
          refine congrArg (fun t=>(Nb l_l rn).take i++[t]) ?_
          unfold RH
          rw [hR]
          rw [Ge jD,show R_l.take rn=R_l.take m9 by rw [hmn,List.take_eq_take_iff];omega];rfl
        ·omega
      ·refine S6 ?_
       refine PH (HC M2 ⟨l_a,l_c,l_l⟩ (i:Int) (k_l.mono (hm1.trans hm2))) ?_
       rintro _ M4 hm4 hF9
       replace hF9:Zvm M4 _ (Rj l_l ((i:Nat):Int)):=hF9
       rw [Om hc hi2] at hF9
       obtain ⟨⟨G_a,G_c,G_l⟩,rfl,hG,k_G⟩:=hF9
       simp only at hG
       have s_G:=k_G.h1
       simp only at s_G
       have hGl:G_l.length=160:=by rw [hG];simp
       have n_G:(G_l.map (WC .i64)).length=G_l.length:=List.length_map ..
       have s_l4:=s_l.mono ((hm1.trans hm2).trans hm4)
       refine S16 ?_;refine VG [74,73,72,12,71,70,66,69,68,67,50,49,48,11,47,46,45,44,43,42,41,40,39,9,38,37,34,36,35,7,8,33,32,31,30,29,6,28,27,5,4,0,1] ?_;refine OZ (Hin:=[(b6,Yp [.one (.int .i64 l_l[i].addr),ZU l_l[i].id,.one (.int .i64 (-1)),ZU 0,.one (.slice none 0 0),.one (.slice adF 160 cpF)] 41)]) (Hin2:=hsF) (.succ .zero) jA jA (fun (k:Nat) M5 h5 z=>∃ hs,M5=M4∧z=[(74,.int .i64 (k:Int))]∧k≤160∧h5=(b6,Yp [.one (.int .i64 l_l[i].addr),ZU l_l[i].id,.one (.int .i64 (-1)),ZU 0,.one (.slice none 0 0),.one (.slice adF 160 cpF)] 41)::hs∧OSl 38 21 (.slice adF 160 cpF) hs ((Qm (MN l_l i l_l[i]) Yj k).map Zr.segs)) (fun k=>160-k) (0) (⟨hsF,rfl,rfl,by omega,rfl,by rw [Hj,List.map_replicate];exact hoF⟩) ?_
       rintro k M5 h5 z hm5 ⟨hs5,hM5,rfl,hk,rfl,ho5⟩
       subst hM5
       have hnw:((Qm (MN l_l i l_l[i]) Yj k).map Zr.segs).length=160:=by rw [List.length_map,Dz]
       simp only [List.cons_append,List.nil_append]
       refine S6 ?_
       refine Xb (cT fun hc17=>?_) (cF fun hc17=>?_)
       ·refine S9 ?_
        have hGk:G_l[k]=((Ve l_l (l_l[i].id+To k):Nat):Int):=by simp only [hG,List.getElem_map,List.getElem_range];rfl
        have ho9:=Ua (l:=l_l) (x:=l_l[i].id+To k) jD
        generalize hog:Ve l_l (l_l[i].id+To k)=o9 at hGk ho9
        simp only [List.get_eq_getElem,hGk]
        refine S11 ?_
        refine Xb (eT fun hc18=>?_) (eF fun hc18=>?_)
        ·(exfalso;omega)
        ·refine S7 ?_
         refine YO (a':=[(74,_)]) (k+1) ((b6,Yp [.one (.int .i64 l_l[i].addr),ZU l_l[i].id,.one (.int .i64 (-1)),ZU 0,.one (.slice none 0 0),.one (.slice adF 160 cpF)] 41)::hs5) (.cons (k:=74) rfl (.cons (k:=73) rfl (.cons (k:=72) rfl (.cons (k:=12) rfl (.cons (k:=71) rfl (.cons (k:=70) rfl (.cons (k:=66) rfl (.cons (k:=69) rfl (.cons (k:=68) rfl (.cons (k:=67) rfl (.cons (k:=50) rfl (.cons (k:=49) rfl (.cons (k:=48) rfl (.cons (k:=11) rfl (.cons (k:=47) rfl (.cons (k:=46) rfl (.cons (k:=45) rfl (.cons (k:=44) rfl (.cons (k:=43) rfl (.cons (k:=42) rfl (.cons (k:=41) rfl (.cons (k:=40) rfl (.cons (k:=39) rfl (.cons (k:=9) rfl (.cons (k:=38) rfl (.cons (k:=37) rfl (.cons (k:=34) rfl (.cons (k:=36) rfl (.cons (k:=35) rfl (.cons (k:=7) rfl (.cons (k:=8) rfl (.cons (k:=33) rfl (.cons (k:=32) rfl (.cons (k:=31) rfl (.cons (k:=30) rfl (.cons (k:=29) rfl (.cons (k:=6) rfl (.cons (k:=28) rfl (.cons (k:=27) rfl (.cons (k:=5) rfl (.cons (k:=4) rfl (.cons (k:=0) rfl (.cons (k:=1) rfl (.nil)))))))))))))))))))))))))))))))))))))))))))) jO (fun w hw=>by first|exact hw|exact hw.c) ?_ ?_
         ·refine ⟨hs5,rfl,rfl,by omega,rfl,?_⟩
          rw [← Hk _ _ (show Yj=MN l_l i l_l[i] k from (if_pos jD).symm)];exact ho5
         ·omega
       ·refine S5 ?_
        obtain rfl:k=160:=by omega
        rw [DA] at ho5
        refine Pn (l:=(List.range 160).map (MN l_l i l_l[i])) ho5 jA (fun M6 hm6 k_F=>?_)
        refine S3 ?_
        refine YK rfl rfl F.elem66 F.zero41 rfl rfl (.cons rfl jG .nil) rfl rfl jK rfl ?_;intro b19 hob20
        refine Vc (m:=1000000) rfl rfl rfl rfl rfl F.elem66 F.zero41 zI rfl jE jA (Src.own hob20.lens jN rfl jB) jX jM rfl ?_;intro v23 hs22 ho21;obtain ⟨adv23,cpv23,rfl⟩:=ho21.valAt (n:=acc.length+1) zS
        refine S8 ?_;refine YO (a':=[(29,_),(6,_)]) (i+1) (hs22) (.cons (k:=29) rfl (.cons (k:=6) rfl (.cons (k:=28) rfl (.cons (k:=27) rfl (.cons (k:=5) rfl (.cons (k:=4) rfl (.cons (k:=0) rfl (.cons (k:=1) rfl (.nil))))))))) (hm1.trans (hm2.trans (hm4.trans hm6))) (fun w hw=>by first|exact hw|exact hw.c) ?_ ?_
        ·refine ⟨acc++[⟨⟨l_l[i].addr,l_l[i].id⟩,Yj,⟨none,0,[]⟩,⟨adF,cpF,(List.range 160).map (MN l_l i l_l[i])⟩⟩],_,rfl,by omega,by rw [List.map_append];exact ho21,fun t ht=>?_,?_⟩
         ·rcases List.mem_append.1 ht with ht|ht
          ·exact (hok t ht).mono (hm2.trans (hm4.trans hm6))
          ·rw [List.mem_singleton.1 ht];exact ⟨SlK.nil,k_F⟩
         ·rw [List.map_append,hI,Es hi2]
          refine congrArg (fun t=>(Nb l_l rn).take i++[t]) ?_
          unfold RH
          rw [hR]
          rw [show R_l=[] from List.eq_nil_of_length_eq_zero jD,List.take_nil];rfl
        ·omega
     ·refine S13 ?_
      refine ZH fun w hw=>?_
      obtain rfl:i=l_l.length:=by omega
      rw [List.take_of_length_le (by rw [Tp];omega)] at hI
      obtain ⟨M9,s1,g1,g2,g3,g4,g5⟩:=OSl.freezeK (f:=ZK.segs) (H:=H) (l:=acc) ho (hw.c)
      refine ⟨_,M9,rfl,hm1.trans g1,g2,?_⟩
      rw [show Re l_l ((rn:Nat):Int)=_ from LB hc jD jD]
      exact ⟨_,rfl,s1,g3,by rw [g4];exact hI,g5,by rw [g4];exact fun t ht=>(hok t ht).mono g1⟩
end Go.Proofs.YtglnjnacodgmaaaGreatDoor
namespace Go.Proofs.YtglnjnacodgmaaaGreatDoor.K
open Go.Esp
theorem Ints_ok (M:Mem) (a:(Sl Int)) (b:(Sl Int)) (ha0:SlK M (WC .i64) 1 a) (hb1:SlK M (WC .i64) 1 b):Fs Tryz.prog 17 [Sl.val a,Sl.val b] M (fun v=>v=Value.bool (decide (a.l=b.l))):=by
  obtain ⟨a_a,a_c,a_l⟩:=a
  obtain ⟨b_a,b_c,b_l⟩:=b
  have k_a:SlK M (WC .i64) 1 ⟨a_a,a_c,a_l⟩:=ha0
  have s_a:SlM M a_a (a_l.map (WC .i64)) 1:=k_a.h1
  have n_a:(a_l.map (WC .i64)).length=a_l.length:=A8 ..
  have m_a:a_l.length≤9223372036854775807:=k_a.h2
  have c_a:a_l.length≤a_c:=k_a.h3
  have k_b:SlK M (WC .i64) 1 ⟨b_a,b_c,b_l⟩:=hb1
  have s_b:SlM M b_a (b_l.map (WC .i64)) 1:=k_b.h1
  have n_b:(b_l.map (WC .i64)).length=b_l.length:=A8 ..
  have m_b:b_l.length≤9223372036854775807:=k_b.h2
  have c_b:b_l.length≤b_c:=k_b.h3
  refine Xa Tryz.func17 rfl Tryz.ntmps17 rfl ?_;intro H
  refine S15 ?_
  refine Xb (eT fun hc1=>?_) (eF fun hc1=>?_)
  ·refine S7 ?_
   refine ZH fun w hw=>?_
   refine ⟨_,rfl,(hw.c),?_⟩
   clear hw
   refine A9 Value.bool ?_
   exact (decide_eq_false (fun h9=>by subst h9;simp_all)).symm
  ·refine S9 ?_
   refine VG [5,4,0,1] ?_;refine Un (.succ .zero) (fun (k:Nat) z=>z=[(5,.int .i64 (k:Int))]∧k≤a_l.length∧(∀ j (h2:j<a_l.length) (h3:j<b_l.length),j<k→a_l[j]=b_l[j])) (fun k=>a_l.length-k) (0) (⟨rfl,by omega,by (intro j h2 h3 hj;omega)⟩) ?_
   rintro k _ ⟨rfl,hk,hI⟩
   refine S9 ?_
   refine Xb (cT fun hc2=>?_) (cF fun hc2=>?_)
   ·refine S5 ?_
    refine Ya (l:=[0,1,2,3,4,5,6,7,8]) #[0,0,3,7,0,0,48,112,255] _ rfl jI jI St.drawn (fun _ h=>h) ?_;refine S11 ?_
    refine Xb (eT fun hc3=>?_) (eF fun hc3=>?_)
    ·refine S11 ?_
     refine ZH fun w hw=>?_
     refine ⟨_,rfl,(hw.c),?_⟩
     refine A9 Value.bool ?_
     exact (decide_eq_false (fun h9=>by subst h9;simp_all)).symm
    ·refine S8 ?_
     refine VX (a':=[(5,_)]) (k+1) (.cons (k:=5) rfl (.cons (k:=4) rfl (.cons (k:=0) rfl (.cons (k:=1) rfl (.nil))))) (fun w hw=>by first|exact hw|exact hw.c) ?_ ?_
     ·refine ⟨rfl,by omega,?_⟩
      (intro j h2 h3 hj;rcases C7 j k with h9|h9;exact hI j h2 h3 h9;obtain rfl:j=k:=jD;simp_all)
     ·omega
   ·refine S11 ?_
    refine ZH fun w hw=>?_
    refine ⟨_,rfl,(hw.c),?_⟩
    refine A9 Value.bool ?_
    exact (decide_eq_true (J4 jD (fun j h2 h3=>hI j h2 h3 jD))).symm
end Go.Proofs.YtglnjnacodgmaaaGreatDoor.K
namespace Go.Esp
def Zfv (v n:Nat):Nat:=(v <<< n ||| v >>> (32-n)) % 4294967296
def Pl (a b:Nat):Nat:=(a+b) % 4294967296
def Cl (a b c d:Nat):Nat:=((a * 256+b) * 256+c) * 256+d
def TC:List Nat→List Nat→List Nat
  | a::b::c::d::r,acc=>TC r (Cl a b c d::acc)
  | _,acc=>acc
def VL:Nat→List Nat→List Nat
  | 0,w=>w
  | n+1,w=>match w with
    | _::_::x3::_::_::_::_::x8::_::_::_::_::_::x14::_::x16::_=>VL n (Zfv (x3 ^^^ x8 ^^^ x14 ^^^ x16) 1::w)
    | _=>w
structure St5 where
  a:Nat
  b:Nat
  c:Nat
  d:Nat
  e:Nat
  deriving DecidableEq
def Zzh (t b c d:Nat):Nat :=
  if t<20 then (b &&& c) ||| ((4294967295 ^^^ b) &&& d) else if t<40 then b ^^^ c ^^^ d else if t<60 then (b &&& c) ||| (b &&& d) ||| (c &&& d) else b ^^^ c ^^^ d
def Zzo (t:Nat):Nat:=if t<20 then 0x5a827999 else if t<40 then 0x6ed9eba1 else if t<60 then 0x8f1bbcdc else 0xca62c1d6
def Sg (t:Nat) (s:St5) (w:Nat):St5:=⟨(Zfv s.a 5+Zzh t s.b s.c s.d+s.e+Zzo t+w) % 4294967296,s.a,Zfv s.b 30,s.c,s.d⟩
def Pw:Nat→List Nat→St5→St5
  | _,[],s=>s
  | t,w::ws,s=>Pw (t+1) ws (Sg t s w)
def Cv (h:St5) (block:List Nat):St5 :=
  let s:=Pw 0 (VL 64 (TC block [])).reverse h
  ⟨Pl h.a s.a,Pl h.b s.b,Pl h.c s.c,Pl h.d s.d,Pl h.e s.e⟩
def KG:St5:=⟨0x67452301,0xefcdab89,0x98badcfe,0x10325476,0xc3d2e1f0⟩
def Oq:Nat→List Nat→St5→St5
  | 0,_,h=>h
  | n+1,l,h=>match l with
    | []=>h
    | _=>Oq n (l.drop 64) (Cv h (l.take 64))
def Zqx (s:List Nat):List Nat :=
  s++128::(List.replicate ((119-s.length % 64) % 64) 0++(List.range 8).map fun i=>(8 * s.length) / 256 ^ (7-i) % 256)
theorem QZ {n a:Nat}:BitVec.ofInt n (a:Int)=BitVec.ofNat n a:=by
  apply BitVec.eq_of_toInt_eq;simp
theorem Zeq {a:Nat} (h:a<4294967296):IntKind.wrap .u32 (a:Int)=(a:Int):=by
  rw [NO];unfold w32;omega
theorem Zwm {a b:Nat} (ha:a<4294967296) (hb:b<4294967296):Ig .or .u32 (a:Int) (b:Int)=some ((a ||| b:Nat):Int):=by
  have h:=Nat.or_lt_two_pow (n:=32) (x:=a) (y:=b) zU zQ
  show some (IntKind.wrap .u32 ((BitVec.ofInt 32 (a:Int) ||| BitVec.ofInt 32 (b:Int)).toNat:Int))=_
  rw [QZ,QZ,BitVec.toNat_or,H4,H4,E3 zU,E3 zQ,Zeq zL]
theorem Zkp {a b:Nat} (ha:a<4294967296) (hb:b<4294967296):Ig .and .u32 (a:Int) (b:Int)=some ((a &&& b:Nat):Int):=by
  have h:=Nat.and_lt_two_pow (n:=32) a (y:=b) zQ
  show some (IntKind.wrap .u32 ((BitVec.ofInt 32 (a:Int) &&& BitVec.ofInt 32 (b:Int)).toNat:Int))=_
  rw [QZ,QZ,BitVec.toNat_and,H4,H4,E3 zU,E3 zQ,Zeq zL]
theorem Zar {a b:Nat} (ha:a<4294967296) (hb:b<4294967296):Ig .xor .u32 (a:Int) (b:Int)=some ((a ^^^ b:Nat):Int):=by
  have h:=Nat.xor_lt_two_pow (n:=32) (x:=a) (y:=b) zU zQ
  show some (IntKind.wrap .u32 ((BitVec.ofInt 32 (a:Int) ^^^ BitVec.ofInt 32 (b:Int)).toNat:Int))=_
  rw [QZ,QZ,BitVec.toNat_xor,H4,H4,E3 zU,E3 zQ,Zeq zL]
theorem Ztz {a:Nat} (ha:a<4294967296):Ig .xor .u32 (if IntKind.u32.signed then -1 else IntKind.u32.max) (a:Int)=some ((4294967295 ^^^ a:Nat):Int):=by
  have:(if IntKind.u32.signed then (-1:Int) else IntKind.u32.max)=((4294967295:Nat):Int):=by decide
  rw [this];exact Zar jM ha
theorem Zzj {a b:Nat} (ha:a<4294967296) (hb:b<4294967296):a ||| b<4294967296:=by
  have h:=Nat.or_lt_two_pow (n:=32) (x:=a) (y:=b) zU zQ;simpa using h
theorem Jd {a b:Nat} (hb:b<4294967296):a &&& b<4294967296:=by
  have h:=Nat.and_lt_two_pow (n:=32) a (y:=b) zQ;simpa using h
theorem LH {a b:Nat} (ha:a<4294967296) (hb:b<4294967296):a ^^^ b<4294967296:=by
  have h:=Nat.xor_lt_two_pow (n:=32) (x:=a) (y:=b) zU zQ;simpa using h
theorem Zfu (v n:Nat):Zfv v n<4294967296:=G5 _ (by decide)
theorem Zsj {v n:Nat} (hv:v<4294967296) (hn:n≤32):(v * 2 ^ n % 4294967296) ||| (v / 2 ^ (32-n))=Zfv v n:=by
  unfold Zfv
  rw [Nat.shiftLeft_eq,Nat.shiftRight_eq_div_pow,show (4294967296:Nat)=2 ^ 32 from rfl,Nat.or_mod_two_pow]
  congr 1
  refine (E3 ?_).symm
  exact Nat.lt_of_le_of_lt (Nat.div_le_self _ _) (by simpa using hv)
theorem Zzn {n:Nat} (h:n<32):Ig .and .u64 (n:Int) 31=some (n:Int):=by
  have:∀ x:Fin 32,Ig .and .u64 ((x.val:Nat):Int) 31=some ((x.val:Nat):Int):=by decide +kernel
  exact this ⟨n,h⟩
theorem Zwg {v n:Nat} (hn:n≤32):LA .shl .u32 (v:Int) (n:Int)=some ((v * 2 ^ n % 4294967296:Nat):Int):=by
  simp only [LA,Int.toNat_natCast,IntKind.bits,I5 hn]
  rfl
theorem Zzd {v n:Nat} (hn:n≤32):LA .shr .u32 (v:Int) (n:Int)=some ((v / 2 ^ n:Nat):Int):=by
  rw [Uw n (by simpa [IntKind.bits] using hn)]
  simp
end Go.Esp
namespace Go.Proofs.YtglnjnacodgmaaaGreatDoor.K
open Go.Esp
theorem BJ (M:Mem) (x:Nat) (n:Nat) (hv:x<4294967296) (hn:n<32):Fs Tryz.prog 152 [.int .u32 ((x:Nat):Int),.int .i64 (n:Int)] M (fun v=>v=Value.int .u32 (((Zfv x n:Nat):Int))):=by
  refine Xa Tryz.func152 rfl Tryz.ntmps152 rfl ?_;intro H
  refine S9 ?_;refine TB rfl rfl rfl rfl (Zzn hn) rfl rfl ?_;refine S3 ?_;refine VG [5,4,0] ?_;refine S4 ?_;refine VK rfl rfl rfl rfl jD (Zwg (n:=n) jD) rfl rfl ?_;refine S3 ?_
  rw [show (32:Int)-(n:Int)=((32-n:Nat):Int) by omega]
  refine VK rfl rfl rfl rfl jD (Zzd (n:=32-n) jD) rfl rfl ?_;refine TB rfl rfl rfl rfl (Zwm (G5 _ jM) (Nat.lt_of_le_of_lt (Nat.div_le_self _ _) hv)) rfl rfl ?_;refine S3 ?_;refine VG [4] ?_;refine Stp ?_
  refine Zec (.inr rfl) (.tmp rfl .nil) (fun w hw=>?_)
  refine ⟨_,rfl,(hw.c),?_⟩
  refine A9 (fun x:Nat=>Value.int .u32 (x:Int)) (Zsj hv jD)
theorem Zjy (M:Mem) (b:Nat) (c:Nat) (d:Nat) (hb:b<4294967296) (hc:c<4294967296) (hd:d<4294967296):Fs Tryz.prog 192 [.int .u32 ((b:Nat):Int),.int .u32 ((c:Nat):Int),.int .u32 ((d:Nat):Int)] M (fun v=>v=Value.int .u32 ((((b &&& c) ||| ((4294967295 ^^^ b) &&& d):Nat):Int))):=by
  refine Xa Tryz.func192 rfl Tryz.ntmps192 rfl ?_;intro H
  refine S9 ?_;refine TB rfl rfl rfl rfl (Zkp hb hc) rfl rfl ?_;refine Stp ?_;refine Zuu rfl rfl rfl (Ztz hb) rfl rfl ?_;refine Stp ?_;refine TB rfl rfl rfl rfl (Zkp (LH jM hb) hd) rfl rfl ?_;refine TB rfl rfl rfl rfl (Zwm (Jd hc) (Jd hd)) rfl rfl ?_;refine S3 ?_;refine VG [6] ?_;refine Stp ?_
  refine Zec (.inr rfl) (.tmp rfl .nil) (fun w hw=>?_)
  refine ⟨_,rfl,(hw.c),?_⟩
  rfl
theorem Ed (M:Mem) (b:Nat) (c:Nat) (d:Nat) (hb:b<4294967296) (hc:c<4294967296) (hd:d<4294967296):Fs Tryz.prog 193 [.int .u32 ((b:Nat):Int),.int .u32 ((c:Nat):Int),.int .u32 ((d:Nat):Int)] M (fun v=>v=Value.int .u32 (((b ^^^ c ^^^ d:Nat):Int))):=by
  refine Xa Tryz.func193 rfl Tryz.ntmps193 rfl ?_;intro H
  refine S9 ?_;refine TB rfl rfl rfl rfl (Zar hb hc) rfl rfl ?_;refine Stp ?_;refine TB rfl rfl rfl rfl (Zar (LH hb hc) hd) rfl rfl ?_;refine S3 ?_;refine VG [6] ?_;refine Stp ?_
  refine Zec (.inr rfl) (.tmp rfl .nil) (fun w hw=>?_)
  refine ⟨_,rfl,(hw.c),?_⟩
  rfl
theorem Zsx (M:Mem) (b:Nat) (c:Nat) (d:Nat) (hb:b<4294967296) (hc:c<4294967296) (hd:d<4294967296):Fs Tryz.prog 194 [.int .u32 ((b:Nat):Int),.int .u32 ((c:Nat):Int),.int .u32 ((d:Nat):Int)] M (fun v=>v=Value.int .u32 ((((b &&& c) ||| (b &&& d) ||| (c &&& d):Nat):Int))):=by
  refine Xa Tryz.func194 rfl Tryz.ntmps194 rfl ?_;intro H
  refine S9 ?_;refine TB rfl rfl rfl rfl (Zkp hb hc) rfl rfl ?_;refine S2 ?_;refine TB rfl rfl rfl rfl (Zkp hb hd) rfl rfl ?_;refine TB rfl rfl rfl rfl (Zwm (Jd hc) (Jd hd)) rfl rfl ?_;refine S2 ?_;refine TB rfl rfl rfl rfl (Zkp hc hd) rfl rfl ?_;refine TB rfl rfl rfl rfl (Zwm (Zzj (Jd hc) (Jd hd)) (Jd hd)) rfl rfl ?_;refine S3 ?_;refine VG [6] ?_;refine Stp ?_
  refine Zec (.inr rfl) (.tmp rfl .nil) (fun w hw=>?_)
  refine ⟨_,rfl,(hw.c),?_⟩
  rfl
end Go.Proofs.YtglnjnacodgmaaaGreatDoor.K
namespace Go.Esp
def QP (B:List Nat):List Nat:=(VL 64 (TC B [])).reverse
def TT (V:List Nat) (t:Nat):List Nat:=V.take t++List.replicate (V.length-t) 0
theorem Sz {V:List Nat} {t:Nat} (h:t≤V.length):(TT V t).length=V.length:=by unfold TT;simp;omega
theorem Oc {V:List Nat} {t j:Nat} (hj:j<t) (h:t≤V.length):(TT V t)[j]?=some (V[j]'(by omega)):=by
  unfold TT
  grind
theorem Znq {V:List Nat} {t:Nat} (h:t<V.length):(TT V t)[t]?=some 0:=by
  unfold TT
  grind
theorem EE {V:List Nat} {t:Nat} (h:t<V.length):(TT V t).set t (V[t])=TT V (t+1):=by
  apply List.ext_getElem?
  intro j
  by_cases hj:j=t
  · subst hj
    rw [List.getElem?_set_self (by rw [Sz jD];exact h),Oc jD jD]
  · rw [List.getElem?_set_ne jD]
    unfold TT
    grind
theorem Zbt {V:List Nat} {t:Nat} (h:t<V.length):(TT V t).set t 0=TT V t:=by
  apply List.ext_getElem?
  intro j
  by_cases hj:j=t
  · subst hj
    rw [List.getElem?_set_self (by rw [Sz jD];exact h),Znq h]
  · grind
theorem Zbs {V:List Nat}:TT V 0=List.replicate V.length 0:=by simp [TT]
theorem Zgj {V:List Nat}:TT V V.length=V:=by simp [TT]
theorem JZ (n:Nat) (w:List Nat) (h:16≤w.length):VL (n+1) w=VL n (Zfv (w.getD 2 0 ^^^ w.getD 7 0 ^^^ w.getD 13 0 ^^^ w.getD 15 0) 1::w):=by
  match w,h with
  | _::_::x3::_::_::_::_::x8::_::_::_::_::_::x14::_::x16::_,_=>rfl
theorem Ms {l:List Nat} {j:Nat} (h:j<l.length):l.reverse.getD j 0=l.getD (l.length-1-j) 0:=by
  grind
theorem Nf:∀ (n:Nat) (w:List Nat),16≤w.length→(VL n w).length=n+w.length∧(∀ t,t<w.length→(VL n w).reverse.getD t 0=w.reverse.getD t 0) ∧
    ∀ t,w.length≤t→t<n+w.length→(VL n w).reverse.getD t 0=Zfv ((VL n w).reverse.getD (t-3) 0 ^^^ (VL n w).reverse.getD (t-8) 0 ^^^ (VL n w).reverse.getD (t-14) 0 ^^^ (VL n w).reverse.getD (t-16) 0) 1
  | 0,w,h=>⟨by simp [VL],fun t _=>rfl,fun t h1 h2=>by omega⟩
  | n+1,w,h=>by
    rw [JZ n w h]
    generalize hx:Zfv (w.getD 2 0 ^^^ w.getD 7 0 ^^^ w.getD 13 0 ^^^ w.getD 15 0) 1=x
    obtain ⟨h1,h2,h3⟩:=Nf n (x::w) jU
    simp only [C8] at h1 h2 h3
    have hw:∀ t,t<w.length→(VL n (x::w)).reverse.getD t 0=w.reverse.getD t 0:=fun t ht=>by
      rw [h2 t jD]
      simp only [List.reverse_cons,D7]
      rw [F5 (by simpa using ht)]
    refine ⟨by omega,hw,fun t ht ht2=>?_⟩
    rcases C7 w.length t with h9|h9
    · exact h3 t h9 jD
    · obtain rfl:t=w.length:=by omega
      have e3:=hw (w.length-3) jD
      have e8:=hw (w.length-8) jD
      have e14:=hw (w.length-14) jD
      have e16:=hw (w.length-16) jD
      rw [Ms (l:=w) jD,show w.length-1-(w.length-3)=2 by omega] at e3
      rw [Ms (l:=w) jD,show w.length-1-(w.length-8)=7 by omega] at e8
      rw [Ms (l:=w) jD,show w.length-1-(w.length-14)=13 by omega] at e14
      rw [Ms (l:=w) jD,show w.length-1-(w.length-16)=15 by omega] at e16
      rw [e3,e8,e14,e16,hx,h2 _ jD,Ms jQ]
      simp
theorem Ly:∀ (B acc:List Nat),(TC B acc).length=B.length / 4+acc.length∧(∀ t,t<acc.length→(TC B acc).reverse.getD t 0=acc.reverse.getD t 0) ∧
    ∀ t,4 * t+3<B.length→(TC B acc).reverse.getD (acc.length+t) 0=Cl (B.getD (4 * t) 0) (B.getD (4 * t+1) 0) (B.getD (4 * t+2) 0) (B.getD (4 * t+3) 0)
  | a::b::c::d::r,acc=>by
    obtain ⟨h1,h2,h3⟩:=Ly r (Cl a b c d::acc)
    simp only [C8] at h1 h2 h3
    have e:TC (a::b::c::d::r) acc=TC r (Cl a b c d::acc):=rfl
    rw [e]
    refine ⟨by simp only [C8];omega,fun t ht=>?_,fun t ht=>?_⟩
    · rw [h2 t jD]
      simp only [List.reverse_cons,D7]
      rw [F5 (by simpa using ht)]
    · simp only [C8] at ht
      rcases t with _|t
      · rw [h2 _ jD]
        simp only [List.reverse_cons,D7]
        rw [G2 jQ]
        simp
      · have:=h3 t jD
        rw [show acc.length+1+t=acc.length+(t+1) by omega] at this
        rw [this]
        simp [D7,show 4 * (t+1)=4 * t+4 by omega]
  | [],acc=>⟨by simp [TC],fun t _=>rfl,fun t h=>by simp only [D5] at h;omega⟩
  | [a],acc=>⟨by simp [TC],fun t _=>rfl,fun t h=>by simp only [C8,D5] at h;omega⟩
  | [a,b],acc=>⟨by simp [TC],fun t _=>rfl,fun t h=>by simp only [C8,D5] at h;omega⟩
  | [a,b,c],acc=>⟨by simp [TC],fun t _=>rfl,fun t h=>by simp only [C8,D5] at h;omega⟩
structure IsWords (B V:List Nat):Prop where
  len:V.length=80
  lo:∀ t,(h:t<16)→V[t]'jD=Cl (B.getD (4 * t) 0) (B.getD (4 * t+1) 0) (B.getD (4 * t+2) 0) (B.getD (4 * t+3) 0)
  hi:∀ t,(h:16≤t)→(h2:t<80)→V[t]'jD=Zfv (V[t-3]'jD ^^^ V[t-8]'jD ^^^ V[t-14]'jD ^^^ V[t-16]'jD) 1
theorem MD {B:List Nat} (h:B.length=64):IsWords B (QP B):=by
  obtain ⟨a1,a2,a3⟩:=Ly B []
  obtain ⟨b1,b2,b3⟩:=Nf 64 (TC B []) (by simp at a1;omega)
  have hl:(QP B).length=80:=by unfold QP;rw [List.length_reverse,b1,a1,h];rfl
  have g:∀ j,(hj:j<80)→(QP B)[j]'jD=(QP B).getD j 0:=fun j hj=>by
    rw [D7,A7 jD];rfl
  refine ⟨hl,fun t ht=>?_,fun t h1 h2=>?_⟩
  · rw [g t jD]
    unfold QP
    rw [b2 t (by simp at a1;omega)]
    have:=a3 t jD
    simpa using this
  · rw [g t h2,g (t-3) jD,g (t-8) jD,g (t-14) jD,g (t-16) jD]
    exact b3 t (by simp at a1;omega) (by simp at a1;omega)
def bytesOf (B:List Nat) (t:Nat):Nat→Nat
  | 0=>0
  | k+1=>bytesOf B t k * 256+B.getD (4 * t+k) 0
theorem Lr {B:List Nat} {t:Nat} (h:∀ b∈B,b<256):∀ k,bytesOf B t k<256 ^ k
  | 0=>by simp [bytesOf]
  | k+1=>by
    have:=Lr (t:=t) h k
    have hb:B.getD (4 * t+k) 0<256:=by
      rw [D7]
      cases hg:B[4 * t+k]? with
      | none=>simp
      | some v=>exact h v (H8 hg)
    unfold bytesOf
    omega
theorem LP (B:List Nat) (t:Nat):bytesOf B t 4=Cl (B.getD (4 * t) 0) (B.getD (4 * t+1) 0) (B.getD (4 * t+2) 0) (B.getD (4 * t+3) 0):=by
  simp [bytesOf,Cl]
theorem Zsg {p c:Nat} (hp:p<16777216) (hc:c<256):(p * 2 ^ 8 % 4294967296) ||| c=p * 256+c:=by
  rw [E3 jD,← Nat.shiftLeft_eq,← Nat.shiftLeft_add_eq_or_of_lt (by simpa using hc),Nat.shiftLeft_eq]
theorem UU {B V:List Nat} (h:IsWords B V) (hB:∀ b∈B,b<256) (t:Nat) (ht:t<80):V[t]'(by have:=h.len;omega)<4294967296:=by
  rcases C7 t 16 with h1|h1
  · rw [h.lo t h1,← LP];exact Lr hB 4
  · rw [h.hi t h1 ht];exact Zfu _ _
def Zyb (M:Mem) (v:Value) (V:List Nat):Prop:=∃ sl:Sl Nat,v=.tuple #[sl.val,.int .i64 0]∧sl.l=V∧SlK M Zer 1 sl
end Go.Esp
namespace Go.Proofs.YtglnjnacodgmaaaGreatDoor.K
open Go.Esp
theorem F.arr256:Zpq Tryz.prog 256=some (64,5):=by kernel_rfl
theorem F.elem204:Na Tryz.prog 204=some (152,1,4):=by kernel_rfl
theorem F.lay152:lay Tryz.prog 152=some (false,1):=by kernel_rfl
theorem F.ok152:Ta Tryz.prog 152=true:=by kernel_rfl
theorem F.zero152:XP Tryz.prog 152=some ((.int .u32 0)):=by kernel_rfl
theorem Zqa (M:Mem) (s:ByteArray) (hs:s.size=64) (V:List Nat) (hV:IsWords (XR s) V):Esp.Fn Tryz.prog 150 [.string s] M (fun M' v=>Zyb M' v V):=by
  have hl80:=hV.len
  have hB:=Zgy s
  obtain ⟨bv,hbv⟩:=Zud s hs
  refine WE Tryz.func150 rfl Tryz.ntmps150 rfl ?_;intro H
  refine S10 ?_;refine Rz Tryz.underlying9 ?_;refine S3 ?_;refine VG [12,3,2,0] ?_
  refine Xb (eT fun hc1=>?_) (eF fun hc1=>?_)
  ·(exfalso;omega)
  ·refine S2 ?_
   refine VG [3,2,0] ?_;refine S3 ?_
   intro b2
   refine S6 ?_;refine Zlb (s:=s) (u:=[.arr 64 bv]) rfl rfl rfl rfl rfl F.elem202 hs jH (by rw [Ry];simp) ((Ry bv).trans hbv) rfl ?_;refine S2 ?_;refine VG [4,3,2] ?_;refine S2 ?_
   refine QI (k:=80) (zr:=Zer 0) rfl rfl rfl rfl F.elem204 F.zero152 rfl rfl rfl jM jM rfl ?_;intro b2 hs1 ho1
   refine S3 ?_;refine VG [5,4,3,2] ?_;refine S7 ?_;refine VG [17,5,4,3,2] ?_;refine XV (Hin:=hs1) (.succ .zero) jA (fun (k:Nat) M1 h1 z=>M1=M∧z=[(17,.int .i64 (k:Int))]∧k≤16∧OSl 152 1 (.slice (some ⟨b2,0,none⟩) 80 80) h1 ((TT V (k)).map Zer)) (fun k=>16-k) (0) (⟨rfl,rfl,by omega,by rw [Zbs,hV.len,List.map_replicate];exact ho1⟩) ?_
   rintro k M1 h1 z hm1 ⟨hM1,rfl,hk,ho⟩
   subst hM1
   refine S6 ?_
   refine Xb (cT fun hc3=>?_) (cF fun hc3=>?_)
   ·refine S14 ?_
    rw [show (4:Int) * (k:Int)=((4 * k:Nat):Int) by omega]
    refine DT rfl rfl rfl (.some rfl rfl) .none F.arr256 (B9 _) (by show 4 * k≤64;omega) (show WK (some ⟨_,0,none⟩) 1 (4 * k) 64 64=.slice (some ⟨_,4 * k,none⟩) (64-4 * k) (64-4 * k) from by rw [KY jD,F2]) rfl ?_;refine WL (olo:=none) (ohi:=some 4) (omx:=none) rfl rfl rfl .none (.some rfl rfl) .none F.elem202 (B9 _) (by show 4≤64-4 * k;omega) (C3 _) (by intro h;cases h) (show WK (some ⟨_,4 * k,none⟩) 1 0 4 (64-4 * k)=.slice (some ⟨_,4 * k,none⟩) 4 (64-4 * k) from by rw [KY jD];rfl) rfl ?_;refine S5 ?_;refine VG [25,24,23,22,21,20,6,19,18,17,5,4,3,2] ?_;refine XV (Hin:=h1) (.succ .zero) jA (fun (q:Nat) M2 h2 z=>M2=M1∧z=[(25,.int .i64 (q:Int))]∧q≤4∧OSl 152 1 (.slice (some ⟨b2,0,none⟩) 80 80) h2 (((TT V k).set k (bytesOf (XR s) k (q))).map Zer)) (fun q=>4-q) (0) (⟨rfl,rfl,by omega,by rw [show bytesOf (XR s) k 0=0 from rfl,Zbt jD];exact ho⟩) ?_
    rintro q M2 h2 z hm2 ⟨hM2,rfl,hq,hoq⟩
    subst hM2
    have hby:=Ztq hB (4 * k+q)
    refine S6 ?_
    refine Xb (cT fun hc4=>?_) (cF fun hc4=>?_)
    ·refine S7 ?_
     rw [Ru,show 4 * k+(q * 1+0)=4 * k+q by omega]
     refine Qp rfl rfl rfl jB F.lay5 (Zpi hbv hs jD) rfl ?_;refine S9 ?_
     have hp:bytesOf (XR s) k q<16777216:=Nat.lt_of_lt_of_le (Lr hB q) (Nat.pow_le_pow_right jM (show q≤3 by omega))
     refine RT rfl rfl rfl hoq jA (by rw [E6,List.getElem?_set_self (by rw [Sz jD];omega)];rfl) F.lay152 rfl rfl rfl ?_;refine VK rfl rfl rfl rfl jM (Zwg (n:=8) jD) rfl rfl ?_;refine S2 ?_;refine TB rfl rfl rfl rfl (Zwm (G5 _ jM) jD) rfl rfl ?_
     rw [Zsg hp hby]
     refine Stp ?_
     refine Tw (b:=b2) (j:=k) rfl rfl rfl rfl jG (Yi rfl YS) F.lay152 rfl rfl hoq jA (by rw [A8];first|(rw [Sz jD];omega)|(rw [List.length_set,Sz jD];omega)) ?_;intro hs2 ho2
     replace ho2:OSl 152 1 (.slice (some ⟨b2,0,none⟩) 80 80) hs2 (((TT V k).set k (bytesOf (XR s) k (q+1))).map Zer):=by rw [show (((TT V k).set k (bytesOf (XR s) k (q+1))).map Zer)=((((TT V k).set k (bytesOf (XR s) k (q))).map Zer)).set k (Zer (bytesOf (XR s) k (q+1))) by rw [← List.map_set,List.set_set]];exact ho2.aZ (by simp [Sz,hl80,show k≤80 by omega])
     refine S7 ?_;refine YO (a':=[(25,_)]) (q+1) (hs2) (.cons (k:=25) rfl (.cons (k:=24) rfl (.cons (k:=23) rfl (.cons (k:=22) rfl (.cons (k:=21) rfl (.cons (k:=20) rfl (.cons (k:=6) rfl (.cons (k:=19) rfl (.cons (k:=18) rfl (.cons (k:=17) rfl (.cons (k:=5) rfl (.cons (k:=4) rfl (.cons (k:=3) rfl (.cons (k:=2) rfl (.nil))))))))))))))) jO (fun w hw=>by first|exact hw|exact hw.c) ?_ ?_
     ·exact ⟨rfl,rfl,by omega,ho2⟩
     ·omega
    ·refine S10 ?_
     refine YO (a':=[(17,_)]) (k+1) (h2) (.cons (k:=17) rfl (.cons (k:=5) rfl (.cons (k:=4) rfl (.cons (k:=3) rfl (.cons (k:=2) rfl (.nil)))))) jO (fun w hw=>by first|exact hw|exact hw.c) ?_ ?_
     ·refine ⟨rfl,rfl,by omega,?_⟩
      obtain rfl:q=4:=by omega
      rw [LP,← hV.lo k jD,EE jD] at hoq
      exact hoq
     ·omega
   ·refine S5 ?_
    refine VG [5,3,2] ?_;refine S3 ?_
    obtain rfl:k=16:=by omega
    refine S4 ?_;refine VG [9,5,3,2] ?_;refine XV (Hin:=h1) (.succ .zero) jA (fun (t:Nat) M3 h3 z=>M3=M1∧z=[(9,.int .i64 (t:Int))]∧16≤t∧t≤80∧OSl 152 1 (.slice (some ⟨b2,0,none⟩) 80 80) h3 ((TT V (t)).map Zer)) (fun t=>80-t) (16) (⟨rfl,rfl,by omega,by omega,ho⟩) ?_
    rintro t M3 h3 z hm3 ⟨hM3,rfl,ht1,ht2,hot⟩
    subst hM3
    refine S7 ?_
    refine Xb (cT fun hc5=>?_) (cF fun hc5=>?_)
    ·refine S4 ?_
     refine Ya (l:=[0,1,2,3,4,5,6,7,8,9,10,11,12,13,14,15,16,17,18,19,20,21,22,23,24,25,26,27]) #[0,0,0,0,8,28,60,0,0,256,896,1920,4092,0,0,16384,57344,122880,262140,0,0,1048576,3670016,7864320,16777212,33554428,67108863,134217727] _ rfl jI jI St.drawn (fun _ h=>h) ?_;refine S5 ?_
     rw [show (t:Int)-3=((t-3:Nat):Int) by omega]
     refine Stp ?_;refine RT rfl rfl rfl hot jA (by rw [E6,Oc (V:=V) (t:=t) (j:=t-3) jD jD];rfl) F.lay152 rfl rfl rfl ?_;refine S3 ?_
     rw [show (t:Int)-8=((t-8:Nat):Int) by omega]
     refine Stp ?_;refine RT rfl rfl rfl hot jA (by rw [E6,Oc (V:=V) (t:=t) (j:=t-8) jD jD];rfl) F.lay152 rfl rfl rfl ?_;refine TB rfl rfl rfl rfl (Zar (UU hV hB (t-3) jD) (UU hV hB (t-8) jD)) rfl rfl ?_;refine S2 ?_;refine DZ rfl rfl rfl rfl rfl yN rfl ?_
     rw [show (t:Int)-14=((t-14:Nat):Int) by omega]
     refine NJ rfl rfl rfl rfl F.elem204 zH jD (by exact ⟨_,_,rfl⟩) rfl ?_;refine RT rfl rfl rfl hot jA (by rw [E6,Oc (V:=V) (t:=t) (j:=t-14) jD jD];rfl) F.lay152 rfl rfl rfl ?_;refine TB rfl rfl rfl rfl (Zar (LH (UU hV hB (t-3) jD) (UU hV hB (t-8) jD)) (UU hV hB (t-14) jD)) rfl rfl ?_;refine S2 ?_;refine DZ rfl rfl rfl rfl rfl yN rfl ?_
     rw [show (t:Int)-16=((t-16:Nat):Int) by omega]
     refine NJ rfl rfl rfl rfl F.elem204 zH jD (by exact ⟨_,_,rfl⟩) rfl ?_;refine RT rfl rfl rfl hot jA (by rw [E6,Oc (V:=V) (t:=t) (j:=t-16) jD jD];rfl) F.lay152 rfl rfl rfl ?_;refine TB rfl rfl rfl rfl (Zar (LH (LH (UU hV hB (t-3) jD) (UU hV hB (t-8) jD)) (UU hV hB (t-14) jD)) (UU hV hB (t-16) jD)) rfl rfl ?_;refine Zur rfl rfl F.ok152 rfl (BJ _ _ 1 (LH (LH (LH (UU hV hB (t-3) jD) (UU hV hB (t-8) jD)) (UU hV hB (t-14) jD)) (UU hV hB (t-16) jD)) jM) rfl ?_
     rintro _ rfl
     refine Stp ?_
     refine Tw (b:=b2) (j:=t) rfl rfl rfl rfl jG (Yi rfl YS) F.lay152 rfl rfl hot jA (by rw [A8];first|(rw [Sz jD];omega)|(rw [List.length_set,Sz jD];omega)) ?_;intro hs3 ho3
     replace ho3:OSl 152 1 (.slice (some ⟨b2,0,none⟩) 80 80) hs3 ((TT V (t+1)).map Zer):=by rw [← EE jD,List.map_set,hV.hi t ht1 jD];exact ho3.aZ (by simp [Sz,hl80,show t≤80 by omega])
     refine S8 ?_;refine YO (a':=[(9,_)]) (t+1) (hs3) (.cons (k:=9) rfl (.cons (k:=5) rfl (.cons (k:=3) rfl (.cons (k:=2) rfl (.nil))))) jO (fun w hw=>by first|exact hw|exact hw.c) ?_ ?_
     ·exact ⟨rfl,rfl,by omega,by omega,ho3⟩
     ·omega
    ·refine S13 ?_
     refine ZH fun w hw=>?_
     obtain rfl:t=80:=by omega
     have e80:TT V 80=V:=by have:=Zgj (V:=V);rwa [hl80] at this
     rw [e80] at hot
     obtain ⟨M9,s1,g1,g2,g3,g4,g5⟩:=OSl.freezeK (f:=Zer) (H:=H) (l:=V) hot (hw.c)
     refine ⟨_,M9,rfl,g1,g2,?_⟩
     exact ⟨s1,by rw [← g3];rfl,g4,g5⟩
end Go.Proofs.YtglnjnacodgmaaaGreatDoor.K
namespace Go.Esp
def stV (s:St5):Vector Value 5:=⟨#[.int .u32 (s.a:Int),.int .u32 (s.b:Int),.int .u32 (s.c:Int),.int .u32 (s.d:Int),.int .u32 (s.e:Int)],rfl⟩
def RG (s:St5):Seg:=.arr 5 (stV s)
def St5.nth (s:St5):Nat→Nat
  | 0=>s.a
  | 1=>s.b
  | 2=>s.c
  | 3=>s.d
  | _=>s.e
structure St5.ok (s:St5):Prop where
  a:s.a<4294967296
  b:s.b<4294967296
  c:s.c<4294967296
  d:s.d<4294967296
  e:s.e<4294967296
theorem St5.ok.nth {s:St5} (h:s.ok) (j:Nat):s.nth j<4294967296:=by
  obtain ⟨h1,h2,h3,h4,h5⟩:=h
  unfold St5.nth;split <;> assumption
theorem Zwf (s:St5) {j:Nat} (h:j<5):(stV s)[j]=.int .u32 ((s.nth j:Nat):Int):=by
  match j,h with
  | 0,_=>rfl
  | 1,_=>rfl
  | 2,_=>rfl
  | 3,_=>rfl
  | 4,_=>rfl
theorem Zfh (s:St5) {j:Nat} (h:j<5):(Segs.cells [RG s])[0+j]?=some (.int .u32 ((s.nth j:Nat):Int)):=by
  rw [← Zwf s h];exact Zkm h
theorem Iu (s:St5):flat [RG s]:=fun u hu=>by
  have:u=.int .u32 (s.a:Int)∨u=.int .u32 (s.b:Int)∨u=.int .u32 (s.c:Int)∨u=.int .u32 (s.d:Int)∨u=.int .u32 (s.e:Int):=by
    have h9:u∈[Value.int .u32 (s.a:Int),.int .u32 (s.b:Int),.int .u32 (s.c:Int),.int .u32 (s.d:Int),.int .u32 (s.e:Int)]:=hu
    simpa using h9
  rcases this with rfl|rfl|rfl|rfl|rfl <;> rfl
theorem Zff:KG.ok:=⟨by decide,by decide,by decide,by decide,by decide⟩
theorem Zft {s:St5} (t w:Nat) (h:s.ok):(Sg t s w).ok:=⟨G5 _ (by decide),h.a,Zfu _ _,h.c,h.d⟩
theorem KN:∀ (l:List Nat) (t w:Nat) (s:St5),Pw t (l++[w]) s=Sg (t+l.length) (Pw t l s) w
  | [],t,w,s=>rfl
  | x::l,t,w,s=>by
    show Pw (t+1) (l++[w]) (Sg t s x)=_
    rw [KN l (t+1) w]
    rw [C8,show t+1+l.length=t+(l.length+1) by omega]
    rfl
theorem IE:∀ (l:List Nat) (t:Nat) {s:St5},s.ok→(Pw t l s).ok
  | [],t,s,h=>h
  | x::l,t,s,h=>IE l (t+1) (Zft t x h)
def VO (V:List Nat) (h:St5) (t:Nat):St5:=Pw 0 (V.take t) h
theorem Bw {V:List Nat} {h:St5} {t:Nat} (ht:t<V.length):VO V h (t+1)=Sg t (VO V h t) V[t]:=by
  unfold VO
  rw [List.take_succ_eq_append_getElem ht,KN,D8,I5 jD,F2]
theorem Zkf {V:List Nat} {h:St5} (t:Nat) (hh:h.ok):(VO V h t).ok:=IE _ _ hh
theorem Zdp {V:List Nat} {h:St5}:VO V h V.length=Pw 0 V h:=by unfold VO;rw [G0]
theorem Zfr {r f e a w:Nat}:w32 (w32 (w32 (w32 ((r:Int)+(f:Int))+(e:Int))+(a:Int))+(w:Int))=(((r+f+e+a+w) % 4294967296:Nat):Int):=by
  unfold w32;omega
theorem Zum {a b:Nat}:w32 ((a:Int)+(b:Int))=((Pl a b:Nat):Int):=by
  unfold w32 Pl;omega
def Ct (h s:St5) (i:Nat):St5:=⟨if 0<i then Pl h.a s.a else h.a,if 1<i then Pl h.b s.b else h.b,if 2<i then Pl h.c s.c else h.c,if 3<i then Pl h.d s.d else h.d,if 4<i then Pl h.e s.e else h.e⟩
theorem Zmq {h s:St5} {i:Nat} (hi:i<5):(Ct h s i).nth i=h.nth i:=by
  match i,hi with
  | 0,_=>rfl
  | 1,_=>rfl
  | 2,_=>rfl
  | 3,_=>rfl
  | 4,_=>rfl
theorem Zey {h s:St5} {i:Nat} (hi:i<5):(stV (Ct h s i)).set i (.int .u32 ((Pl (h.nth i) (s.nth i):Nat):Int)) hi=stV (Ct h s (i+1)):=by
  match i,hi with
  | 0,_=>rfl
  | 1,_=>rfl
  | 2,_=>rfl
  | 3,_=>rfl
  | 4,_=>rfl
theorem Zmu {h:St5} {B:List Nat} (hB:B.length=64):Ct h (VO (QP B) h 80) 5=Cv h B:=by
  have hl:=(MD hB).len
  have:VO (QP B) h 80=Pw 0 (VL 64 (TC B [])).reverse h:=by
    rw [← hl];exact Zdp
  rw [this];rfl
theorem Zmt {h:St5} {B:List Nat}:(Cv h B).ok:=⟨G5 _ (by decide),G5 _ (by decide),G5 _ (by decide),G5 _ (by decide),G5 _ (by decide)⟩
end Go.Esp
namespace Go.Proofs.YtglnjnacodgmaaaGreatDoor.K
open Go.Esp
theorem F.bld209:Bld Tryz.prog 209 [[.one .nilFunc],[.one (.int .u32 0)]]:=⟨by kernel_rfl,by kernel_rfl⟩
theorem F.ok192:Ta Tryz.prog 192=true:=by kernel_rfl
theorem F.ok193:Ta Tryz.prog 193=true:=by kernel_rfl
theorem F.ok194:Ta Tryz.prog 194=true:=by kernel_rfl
theorem F.phs (w:World):(Instr.build 210 #[(0,WX [.one (.func (.func 192) #[] #[]),.one (.int .u32 ((1518500249:Nat):Int))]),(1,WX [.one (.func (.func 193) #[] #[]),.one (.int .u32 ((1859775393:Nat):Int))]),(2,WX [.one (.func (.func 194) #[] #[]),.one (.int .u32 ((2400959708:Nat):Int))]),(3,WX [.one (.func (.func 193) #[] #[]),.one (.int .u32 ((3395469782:Nat):Int))])]).run Tryz.prog w=.ok (WX [.one (.func (.func 192) #[] #[]),.one (.int .u32 ((1518500249:Nat):Int)),.one (.func (.func 193) #[] #[]),.one (.int .u32 ((1859775393:Nat):Int)),.one (.func (.func 194) #[] #[]),.one (.int .u32 ((2400959708:Nat):Int)),.one (.func (.func 193) #[] #[]),.one (.int .u32 ((3395469782:Nat):Int))]) w:=by kernel_rfl
def Zzi (k:Nat):FuncId:=if k=0 then 192 else if k=1 then 193 else if k=2 then 194 else 193
def Zzp (k:Nat):Nat:=if k=0 then 1518500249 else if k=1 then 1859775393 else if k=2 then 2400959708 else 3395469782
def phS (k:Nat):Segs:=[.one (.func (.func (Zzi k)) #[] #[]),.one (.int .u32 ((Zzp k:Nat):Int))]
def phR:Segs:=[.one (.func (.func 192) #[] #[]),.one (.int .u32 ((1518500249:Nat):Int)),.one (.func (.func 193) #[] #[]),.one (.int .u32 ((1859775393:Nat):Int)),.one (.func (.func 194) #[] #[]),.one (.int .u32 ((2400959708:Nat):Int)),.one (.func (.func 193) #[] #[]),.one (.int .u32 ((3395469782:Nat):Int))]
theorem Zzg {j:Nat} (h:j<4):Segs.sub phR (0+j * 2) 2=some (phS j):=by
  match j,h with
  |0,_=>rfl
  |1,_=>rfl
  |2,_=>rfl
  |3,_=>rfl
theorem Zsy {j:Nat} (h:j<4):Ta Tryz.prog (Zzi j)=true:=by
  match j,h with
  |0,_=>exact F.ok192
  |1,_=>exact F.ok193
  |2,_=>exact F.ok194
  |3,_=>exact F.ok193
theorem Zun {k:Nat} (h:k<80):Zzp (k / 20)=Zzo k:=by
  unfold Zzp Zzo
  repeat (first|rfl|omega|split)
theorem Zwq (M:Mem) {k b c d:Nat} (h:k<80) (hb:b<4294967296) (hc:c<4294967296) (hd:d<4294967296):Fs Tryz.prog (Zzi (k / 20)) [.int .u32 ((b:Nat):Int),.int .u32 ((c:Nat):Int),.int .u32 ((d:Nat):Int)] M (fun v=>v=.int .u32 ((Zzh k b c d:Nat):Int)):=by
  unfold Zzh
  rcases (show k / 20=0∧k<20∨k / 20=1∧¬k<20∧k<40∨k / 20=2∧¬k<20∧¬k<40∧k<60∨k / 20=3∧¬k<20∧¬k<40∧¬k<60 by omega) with ⟨e,h1⟩|⟨e,h1,h2⟩|⟨e,h1,h2,h3⟩|⟨e,h1,h2,h3⟩
  ·rw [e,A6 h1];exact Zjy M b c d hb hc hd
  ·rw [e,A4 h1,A6 h2];exact Ed M b c d hb hc hd
  ·rw [e,A4 h1,A4 h2,A6 h3];exact Zsx M b c d hb hc hd
  ·rw [e,A4 h1,A4 h2,A4 h3];exact Ed M b c d hb hc hd
theorem Zgi (M:Mem):Fs Tryz.prog 151 [] M (fun v=>v=WX (phR)):=by
  refine Xa Tryz.func151 rfl Tryz.ntmps151 rfl ?_;intro H
  refine S3 ?_
  intro b1
  refine S4 ?_
  iterate 4 refine XN rfl rfl F.bld209 (.cons rfl jG (.cons rfl jG .nil)) rfl rfl ?_
  refine GP rfl rfl (fun a ha=>by simp [show a.eval (.tmp 1)=WX [.one (.func (.func 192) #[] #[]),.one (.int .u32 ((1518500249:Nat):Int))] from ha.ev rfl,show a.eval (.tmp 2)=WX [.one (.func (.func 193) #[] #[]),.one (.int .u32 ((1859775393:Nat):Int))] from ha.ev rfl,show a.eval (.tmp 3)=WX [.one (.func (.func 194) #[] #[]),.one (.int .u32 ((2400959708:Nat):Int))] from ha.ev rfl,show a.eval (.tmp 4)=WX [.one (.func (.func 193) #[] #[]),.one (.int .u32 ((3395469782:Nat):Int))] from ha.ev rfl]) (F.phs) rfl ?_;refine S4 ?_;refine ZH fun w hw=>?_
  refine ⟨_,rfl,(hw.c),?_⟩
  rfl
end Go.Proofs.YtglnjnacodgmaaaGreatDoor.K
namespace Go.Proofs.YtglnjnacodgmaaaGreatDoor.K
open Go.Esp
theorem F.arrN210:Zpp Tryz.prog 210=some (4,209,2):=by kernel_rfl
theorem F.bst (a b c d e:Int) (w:World):(Instr.build 154 #[(0,.int .u32 a),(1,.int .u32 b),(2,.int .u32 c),(3,.int .u32 d),(4,.int .u32 e)]).run Tryz.prog w=.ok (.agg #[.int .u32 a,.int .u32 b,.int .u32 c,.int .u32 d,.int .u32 e]) w:=by kernel_rfl
theorem F.lay154:lay Tryz.prog 154=some (true,5):=by kernel_rfl
theorem F.lay209:lay Tryz.prog 209=some (true,2):=by kernel_rfl
theorem Zvd (M:Mem) (g:St5) (s:ByteArray) (hg:g.ok) (hs:s.size=64):Esp.Fn Tryz.prog 93 [WX [RG g],.string s] M (fun M' v=>v=.tuple #[WX [RG (Cv g (XR s))],.int .i64 0]):=by
  refine WE Tryz.func93 rfl Tryz.ntmps93 rfl ?_;intro H
  refine S3 ?_
  intro b1
  refine Stp ?_;intro b2
  refine S3 ?_;refine VG [5,4,2,1] ?_;refine S3 ?_;refine PH (Zqa M s hs (QP (XR s)) (MD (by rw [VB,hs]))) ?_
  rintro _ M1 hm1 ⟨⟨wa,wc,wl⟩,rfl,hwl,hwk⟩
  replace hwl:wl=QP (XR s):=hwl
  have hV:IsWords (XR s) wl:=by rw [hwl];exact MD (by rw [VB,hs])
  have hl80:=hV.len
  have s_w:=hwk.h1
  refine S7 ?_;refine VG [7,6,5,4,2] ?_;refine S7 ?_;refine VG [20,7,6,5,4,2] ?_
  refine Xb (eT fun hc3=>?_) (eF fun hc3=>?_)
  ·simp only [Zr.eta,ZK.eta,ZM.eta,ZI.eta,YD.eta,YQ.eta,XM.eta,YT.eta,ZW.eta,XF.eta,Yk.eta] at hc3
   (exfalso;simp [eqX] at hc3;done)
  ·simp only [Zr.eta,ZK.eta,ZM.eta,ZI.eta,YD.eta,YQ.eta,XM.eta,YT.eta,ZW.eta,XF.eta,Yk.eta] at hc3
   refine S2 ?_;refine VG [6,5,4,2] ?_;refine Stp ?_;refine Ya (l:=[0,1,2,3,4,5]) #[0,0,0,0,15,31] _ rfl jI jI St.drawn (fun _ h=>h) ?_;refine Stp ?_;refine Vn (Zgi _) ?_
   rintro _ rfl
   refine Stp ?_;intro b4
   refine Stp ?_;intro b5
   refine UE rfl rfl rfl rfl jG (by exact Iu _) jH F.lay154 rfl rfl ?_;refine S3 ?_;refine VG [9,8,6,5,4,2] ?_;refine S7 ?_;refine VG [25,9,8,6,5,4,2] ?_;refine XV (Hin:=[(b4,Yp [RG (g)] 154)]) (.succ .zero) jA (fun (k:Nat) M2 h1 z=>M2=M1∧z=[(25,.int .i64 (k:Int))]∧k≤80∧h1=[(b4,Yp [RG (VO wl g k)] 154)]) (fun k=>80-k) (0) (⟨rfl,rfl,by omega,rfl⟩) ?_
   rintro k M2 h1 z hm2 ⟨hM2,rfl,hk,rfl⟩
   subst hM2
   have hg9:=Zkf (V:=wl) k hg
   refine S6 ?_
   refine Xb (cT fun hc6=>?_) (cF fun hc6=>?_)
   ·refine S14 ?_
    rw [show (k:Int) / 20=((k / 20:Nat):Int) by omega]
    refine LX rfl rfl rfl rfl F.arrN210 rfl jD rfl ?_;refine Zkx (r:=phR) (r':=phS (k / 20)) rfl rfl rfl jB F.lay209 (Zzg jD) rfl rfl ?_
    refine Stp ?_;intro b7
    refine S4 ?_;refine Ya (l:=[0,1,2,3,4,5,6,7,8,9,10,11,12,13,14,15,16,17,18,19,20,21,22,23,24]) #[0,1,3,0,8,0,32,0,128,0,512,2047,4095,0,8192,32767,0,65536,262143,0,0,1572864,3670016,8388607,16777215] _ rfl jI jI St.drawn (fun _ h=>h) ?_;refine S2 ?_;refine Vn (BJ _ ((VO wl g k).nth 0) 5 (hg9.nth 0) jM) ?_
    rintro _ rfl
    refine S8 ?_;refine PP rfl rfl rfl (Zsy (j:=k / 20) jD) rfl rfl (Zwq _ jD (hg9.nth 1) (hg9.nth 2) (hg9.nth 3)) rfl ?_
    rintro _ rfl
    refine S12 ?_
    rw [Zfr,Zun jD]
    refine S3 ?_;refine Ya (l:=[0,1,2,3,4,5,6,7,8,9,10,11]) #[0,0,2,0,8,24,0,64,0,256,1023,2047] _ rfl jI jI St.drawn (fun _ h=>h) ?_;refine S5 ?_;refine Vn (BJ _ ((VO wl g k).nth 1) 30 (hg9.nth 1) jM) ?_
    rintro _ rfl
    refine S4 ?_;refine GP (v:=WX [RG (Sg k (VO wl g k) (wl[k]'jD))]) rfl rfl (fun a ha=>by simp [show a.eval (.tmp 56)=.int .u32 (((Sg k (VO wl g k) (wl[k]'jD)).a:Nat):Int) from ha.ev rfl,show a.eval (.tmp 58)=.int .u32 (((Sg k (VO wl g k) (wl[k]'jD)).b:Nat):Int) from ha.ev rfl,show a.eval (.tmp 61)=.int .u32 (((Sg k (VO wl g k) (wl[k]'jD)).c:Nat):Int) from ha.ev rfl,show a.eval (.tmp 63)=.int .u32 (((Sg k (VO wl g k) (wl[k]'jD)).d:Nat):Int) from ha.ev rfl,show a.eval (.tmp 65)=.int .u32 (((Sg k (VO wl g k) (wl[k]'jD)).e:Nat):Int) from ha.ev rfl]) (F.bst (((Sg k (VO wl g k) (wl[k]'jD)).a:Nat):Int) (((Sg k (VO wl g k) (wl[k]'jD)).b:Nat):Int) (((Sg k (VO wl g k) (wl[k]'jD)).c:Nat):Int) (((Sg k (VO wl g k) (wl[k]'jD)).d:Nat):Int) (((Sg k (VO wl g k) (wl[k]'jD)).e:Nat):Int)) rfl ?_
    rw [← Bw (V:=wl) (h:=g) (t:=k) jD]
    refine UE rfl rfl rfl rfl jG (by exact Iu _) jH F.lay154 rfl rfl ?_;refine S7 ?_;refine YO (a':=[(25,_)]) (k+1) ([(b4,Yp [RG (VO wl g (k+1))] 154)]) (.cons (k:=25) rfl (.cons (k:=9) rfl (.cons (k:=8) rfl (.cons (k:=6) rfl (.cons (k:=5) rfl (.cons (k:=4) rfl (.cons (k:=2) rfl (.nil)))))))) jO (fun w hw=>by first|exact hw|exact hw.c) ?_ ?_
    ·exact ⟨rfl,rfl,by omega,rfl⟩
    ·omega
   ·refine S5 ?_
    refine VG [8,5,4,2] ?_;refine S3 ?_
    obtain rfl:k=80:=by omega
    refine S4 ?_;refine VG [68,8,5,4,2] ?_;refine XV (Hin:=[(b1,Yp [RG (g)] 154)]) (.succ .zero) jA (fun (i:Nat) M3 h1 z=>M3=M2∧z=[(68,.int .i64 (i:Int))]∧i≤5∧h1=[(b1,Yp [RG (Ct g (VO wl g 80) i)] 154)]) (fun i=>5-i) (0) (⟨rfl,rfl,by omega,rfl⟩) ?_
    rintro i M3 h1 z hm3 ⟨hM3,rfl,hi,rfl⟩
    subst hM3
    refine S6 ?_
    refine Xb (cT fun hc8=>?_) (cF fun hc8=>?_)
    ·refine S10 ?_
     refine Ya (l:=[0,1,2,3,4,5,6,7,8]) #[0,1,3,0,8,24,63,127,255] _ rfl jI jI St.drawn (fun _ h=>h) ?_;refine S2 ?_;refine Qp rfl rfl rfl jB F.lay152 (Zfh _ jD) rfl ?_
     rw [Zmq jD]
     refine S2 ?_;refine Qp rfl rfl rfl jB F.lay152 (Zfh _ jD) rfl ?_;refine DZ rfl rfl rfl rfl rfl (by exact NO _) rfl ?_
     rw [Zum]
     refine Stp ?_;refine QH rfl rfl rfl rfl rfl rfl jH F.lay152 (GJ (f:=stV (Ct g (VO wl g 80) i)) jD) (GI jD) ?_
     rw [Zey jD]
     refine S7 ?_;refine YO (a':=[(68,_)]) (i+1) ([(b1,Yp [RG (Ct g (VO wl g 80) (i+1))] 154)]) (.cons (k:=68) rfl (.cons (k:=8) rfl (.cons (k:=5) rfl (.cons (k:=4) rfl (.cons (k:=2) rfl (.nil)))))) jO (fun w hw=>by first|exact hw|exact hw.c) ?_ ?_
     ·exact ⟨rfl,rfl,by omega,rfl⟩
     ·omega
    ·refine S8 ?_
     refine UE rfl rfl rfl rfl jG (by exact Iu _) jH F.lay154 rfl rfl ?_;refine S4 ?_;refine ZH fun w hw=>?_
     obtain rfl:i=5:=by omega
     refine ⟨_,M3,rfl,jE,hw.c,?_⟩
     subst hwl
     rw [← Zmu (by rw [VB,hs])]
     rfl
end Go.Proofs.YtglnjnacodgmaaaGreatDoor.K
namespace Go.Proofs
open Go.Shelf
def Tryz.repL_ren:Go.Shelf.Ren:=⟨fun|105=>149|212=>186|99=>187|165=>188|166=>189|170=>190|169=>191|263=>213|264=>214|206=>215|240=>216|241=>217|276=>226|277=>227|n=>n,fun|9=>9|3=>3|4=>4|20=>20|0=>0|46=>136|109=>245|5=>5|72=>250|76=>253|51=>152|146=>276|53=>42|148=>278|70=>248|37=>202|75=>252|127=>280|164=>290|80=>255|n=>n,fun|n=>n⟩
theorem Tryz.repL:Go.Proofs.Lays.n105 Tryz.prog Tryz.repL_ren:={
  mixed:=by kernel_rfl
  f99:=Tryz.func187.trans (congrArg some (by kernel_rfl))
  f105:=Tryz.func149.trans (congrArg some (by kernel_rfl))
  f165:=Tryz.func188.trans (congrArg some (by kernel_rfl))
  f166:=Tryz.func189.trans (congrArg some (by kernel_rfl))
  f169:=Tryz.func191.trans (congrArg some (by kernel_rfl))
  f170:=Tryz.func190.trans (congrArg some (by kernel_rfl))
  f206:=Tryz.func215.trans (congrArg some (by kernel_rfl))
  f212:=Tryz.func186.trans (congrArg some (by kernel_rfl))
  f240:=Tryz.func216.trans (congrArg some (by kernel_rfl))
  f241:=Tryz.func217.trans (congrArg some (by kernel_rfl))
  f263:=Tryz.func213.trans (congrArg some (by kernel_rfl))
  f264:=Tryz.func214.trans (congrArg some (by kernel_rfl))
  f276:=Tryz.func226.trans (congrArg some (by kernel_rfl))
  f277:=Tryz.func227.trans (congrArg some (by kernel_rfl))
  t0:=Tryz.underlying0
  a0:=Tryz.isAgg0
  z0:=Tryz.sizeOf0
  v0:=Tryz.zeroValue0
  t3:=Tryz.underlying3
  a3:=Tryz.isAgg3
  z3:=Tryz.sizeOf3
  v3:=Tryz.zeroValue3
  t4:=Tryz.underlying4
  a4:=Tryz.isAgg4
  z4:=Tryz.sizeOf4
  v4:=Tryz.zeroValue4
  t5:=Tryz.underlying5
  a5:=Tryz.isAgg5
  z5:=Tryz.sizeOf5
  v5:=Tryz.zeroValue5
  t9:=Tryz.underlying9
  a9:=Tryz.isAgg9
  z9:=Tryz.sizeOf9
  v9:=Tryz.zeroValue9
  t20:=Tryz.underlying20
  a20:=Tryz.isAgg20
  z20:=Tryz.sizeOf20
  v20:=Tryz.zeroValue20
  t37:=Tryz.underlying202
  a37:=Tryz.isAgg202
  z37:=Tryz.sizeOf202
  v37:=Tryz.zeroValue202
  t46:=Tryz.underlying136
  a46:=Tryz.isAgg136
  z46:=Tryz.sizeOf136
  v46:=Tryz.zeroValue136
  t51:=Tryz.underlying152
  a51:=Tryz.isAgg152
  z51:=Tryz.sizeOf152
  v51:=Tryz.zeroValue152
  t53:=Tryz.underlying42
  a53:=Tryz.isAgg42
  z53:=Tryz.sizeOf42
  v53:=Tryz.zeroValue42
  t70:=Tryz.underlying248
  a70:=Tryz.isAgg248
  z70:=Tryz.sizeOf248
  v70:=Tryz.zeroValue248
  t72:=Tryz.underlying250
  a72:=Tryz.isAgg250
  z72:=Tryz.sizeOf250
  v72:=Tryz.zeroValue250
  t75:=Tryz.underlying252
  a75:=Tryz.isAgg252
  z75:=Tryz.sizeOf252
  v75:=Tryz.zeroValue252
  t76:=Tryz.underlying253
  a76:=Tryz.isAgg253
  z76:=Tryz.sizeOf253
  v76:=Tryz.zeroValue253
  t109:=Tryz.underlying245
  a109:=Tryz.isAgg245
  z109:=Tryz.sizeOf245
  v109:=Tryz.zeroValue245
  t127:=Tryz.underlying280
  a127:=Tryz.isAgg280
  z127:=Tryz.sizeOf280
  v127:=Tryz.zeroValue280
  t146:=Tryz.underlying276
  a146:=Tryz.isAgg276
  z146:=Tryz.sizeOf276
  v146:=Tryz.zeroValue276
  t148:=Tryz.underlying278
  a148:=Tryz.isAgg278
  z148:=Tryz.sizeOf278
  v148:=Tryz.zeroValue278
  t164:=Tryz.underlying290
  a164:=Tryz.isAgg290
  z164:=Tryz.sizeOf290
  v164:=Tryz.zeroValue290 }
end Go.Proofs
namespace Go.Esp
open Go.Proofs Go.Shelf Go.RowKit Go.Lib
theorem St.below {M:Mem} {H:Hp} {w w':World} (hM:M.dr=0) (h:St M H w) (hb:RowKit.Below w.heap.size w w'):St M H w':=by
  have hk:∀ b o,w.heap[b]?=some o→w'.heap[b]?=some o:=fun b o hbo=>by
    rw [hb.block b (E4.1 hbo).1];exact hbo
  exact ⟨fun b o hm=>hk b o (h.mem b o hm),fun b o hm=>hk b o (h.own b o hm),h.sep,h.nodup,hb.os.trans h.io.1,hb.tape.trans h.io.2.1,hb.output.trans h.io.2.2.1,by rw [hM];exact C3 _⟩
theorem Znh:Builder.Extra Tryz.prog Tryz.repL_ren:={
  sizeBuilder:=by kernel_rfl
  liesBuilder:=by kernel_rfl
  t5:=Tryz.repL.t5
  a5:=Tryz.repL.a5
  z5:=Tryz.repL.z5
  v5:=Tryz.repL.v5
  infoByte:=by kernel_rfl
  cellsByte:=by kernel_rfl
  sizeByte:=by kernel_rfl
  neB5:=by decide }
theorem KQ (b:UInt8):∀ c,repeatL [b] c=List.replicate c b
  | 0=>rfl
  | c+1=>by rw [List.replicate_succ,← KQ b c];rfl
theorem Zvh (M:Mem) (s:ByteArray) (c:Nat) (hM:M.dr=0) (hc:c≤9223372036854775807) (hl:s.size * c≤140737488355328) :
    Fs Tryz.prog (Tryz.repL_ren.f 105) [.string s,.int .i64 (c:Int)] M (fun v=>v=.string ⟨(repeatL s.data.toList c).toArray⟩):=fun H w hw =>
  (Any.strings_Repeat Tryz.repL Znh s c w hc hl).mono fun e w' ⟨he,hb⟩=>⟨_,he,St.below hM hw hb,rfl⟩
end Go.Esp
namespace Go.Esp
open Go.Lib Go.Proofs
theorem MV (a b:ByteArray):XR (a++b)=XR a++XR b:=by
  unfold XR;rw [ByteArray.data_append,Array.toList_append,C6]
theorem IL (c:Nat):XR ⟨(repeatL (⟨#[0]⟩:ByteArray).data.toList c).toArray⟩=List.replicate c 0:=by
  show (repeatL [0] c).map _=_
  rw [KQ,List.map_replicate];rfl
theorem Ag (c:Nat):(⟨(repeatL (⟨#[0]⟩:ByteArray).data.toList c).toArray⟩:ByteArray).size=c:=by
  rw [← VB,IL,List.length_replicate]
theorem Zbx {l:List Nat} (h:∀ n∈l,n<256):XR (strOfNums (l.map fun n:Nat=>(n:Int)))=l:=by
  unfold XR
  rw [strOfNums_data,I2,I2]
  refine (List.map_congr_left (g:=id) fun n hn=>?_).trans (List.map_id l)
  simp_all
def Cs (n:Nat):List Nat:=(List.range 8).map fun j=>n / 256 ^ (7-j) % 256
def CG (n i:Nat):List Nat:=List.replicate (8-i) 0++(Cs n).drop (8-i)
theorem Ev (n i:Nat) (h:i≤8):(CG n i).length=8:=by simp [CG,Cs] <;> omega
theorem Zfo {n i:Nat} (h:i<8):(CG n i).set (7-i) (n / 256 ^ i % 256)=CG n (i+1):=by
  match i,h with
  | 0,_=>rfl
  | 1,_=>rfl
  | 2,_=>rfl
  | 3,_=>rfl
  | 4,_=>rfl
  | 5,_=>rfl
  | 6,_=>rfl
  | 7,_=>rfl
theorem Zfp (n:Nat):CG n 8=Cs n:=rfl
theorem Zmo {n:Nat}:∀ b∈Cs n,b<256:=fun b hb=>by
  obtain ⟨j,-,rfl⟩:=C0.1 hb
  exact G5 _ jM
theorem Zua (n i:Nat):w8 ((n:Int) / 2 ^ (8 * i))=((n / 256 ^ i % 256:Nat):Int):=by
  rw [show (2:Int) ^ (8 * i)=((256 ^ i:Nat):Int) by rw [Int.pow_mul];simp]
  rfl
theorem Zwl (s:ByteArray):XR (((s++⟨#[128]⟩)++⟨(repeatL (⟨#[0]⟩:ByteArray).data.toList ((119-s.size % 64) % 64)).toArray⟩)++strOfNums ((Cs (8 * s.size)).map fun n:Nat=>(n:Int)))=Zqx (XR s):=by
  rw [MV,MV,MV,IL,Zbx Zmo]
  unfold Zqx
  rw [VB]
  show ((XR s++[128])++_)++_=_
  simp [Cs]
end Go.Esp
namespace Go.Proofs.YtglnjnacodgmaaaGreatDoor.K
open Go.Esp
theorem F.bst0 (w:World):(Instr.build 154 #[(0,.int .u32 1732584193),(1,.int .u32 4023233417),(2,.int .u32 2562383102),(3,.int .u32 271733878),(4,.int .u32 3285377520)]).run Tryz.prog w=.ok (WX [RG KG]) w:=by kernel_rfl
theorem Zqc (M:Mem):Fs Tryz.prog 92 [] M (fun v=>v=WX ([RG KG])):=by
  refine Xa Tryz.func92 rfl Tryz.ntmps92 rfl ?_;intro H
  refine S3 ?_
  intro b1
  refine S4 ?_;refine GP rfl rfl (fun a ha=>by simp [show a.eval (.const (.int .u32 1732584193))=.int .u32 1732584193 from ha.ev rfl,show a.eval (.const (.int .u32 4023233417))=.int .u32 4023233417 from ha.ev rfl,show a.eval (.const (.int .u32 2562383102))=.int .u32 2562383102 from ha.ev rfl,show a.eval (.const (.int .u32 271733878))=.int .u32 271733878 from ha.ev rfl,show a.eval (.const (.int .u32 3285377520))=.int .u32 3285377520 from ha.ev rfl]) (F.bst0) rfl ?_;refine UE rfl rfl rfl rfl jG (by exact Iu _) jH F.lay154 rfl rfl ?_;refine S3 ?_;refine ZH fun w hw=>?_
  refine ⟨_,rfl,(hw.c),?_⟩
  rfl
theorem Zyf (M:Mem) (s:ByteArray) (hs:s.size≤4096) (hM:M.dr=0):Fs Tryz.prog 91 [.string s] M (fun v=>∃ p:ByteArray,v=.tuple #[.string p,.int .i64 0]∧XR p=Zqx (XR s)):=by
  refine Xa Tryz.func91 rfl Tryz.ntmps91 rfl ?_;intro H
  refine S10 ?_;refine Rz Tryz.underlying9 ?_;refine S3 ?_
  refine Xb (cT fun hc1=>?_) (cF fun hc1=>?_)
  ·(exfalso;omega)
  ·refine S5 ?_
   refine Rz Tryz.underlying9 ?_;refine S3 ?_
   rw [show (119-(s.size:Int) % 64) % 64=((((119-s.size % 64) % 64):Nat):Int) by omega]
   refine S5 ?_
   refine QI (k:=8) (zr:=u8R 0) rfl rfl rfl rfl F.elem202 F.zero5 rfl rfl rfl jM jM rfl ?_;intro b2 hs1 ho1
   refine S12 ?_;refine VG [18,17,5,4,3,2,0] ?_;refine XV (Hin:=hs1) (.succ .zero) jA (fun (i:Nat) M1 h1 z=>M1=M∧z=[(18,.int .i64 (i:Int))]∧i≤8∧OSl 5 1 (.slice (some ⟨b2,0,none⟩) 8 8) h1 ((CG (8 * s.size) (i)).map u8R)) (fun i=>8-i) (0) (⟨rfl,rfl,by omega,ho1⟩) ?_
   rintro i M1 h1 z hm1 ⟨hM1,rfl,hi,ho⟩
   subst hM1
   refine S6 ?_
   refine Xb (cT fun hc2=>?_) (cF fun hc2=>?_)
   ·refine S14 ?_
    rw [show (7:Int)-(i:Int)=((7-i:Nat):Int) by omega]
    refine Stp ?_;refine Rz Tryz.underlying9 ?_;refine Stp ?_
    rw [show (8:Int) * (s.size:Int)=((8 * s.size:Nat):Int) by omega]
    refine S3 ?_
    rw [show (8:Int) * (i:Int)=((8 * i:Nat):Int) by omega]
    refine VK rfl rfl rfl rfl jD (Uw (8 * i) (by show 8 * i≤64;omega)) rfl rfl ?_;refine Stp ?_
    rw [Zua]
    refine Stp ?_
    refine Tw (b:=b2) (j:=7-i) rfl rfl rfl rfl jG (Yi rfl YS) F.lay5 rfl rfl ho jA (by rw [A8,Ev _ _ hi];omega) ?_;intro hs2 ho2
    replace ho2:OSl 5 1 (.slice (some ⟨b2,0,none⟩) 8 8) hs2 ((CG (8 * s.size) (i+1)).map u8R):=by rw [← Zfo jD,List.map_set];exact ho2.aZ (by simp [Ev _ _ hi])
    refine S7 ?_;refine YO (a':=[(18,_)]) (i+1) (hs2) (.cons (k:=18) rfl (.cons (k:=17) rfl (.cons (k:=5) rfl (.cons (k:=4) rfl (.cons (k:=3) rfl (.cons (k:=2) rfl (.cons (k:=0) rfl (.nil)))))))) jO (fun w hw=>by first|exact hw|exact hw.c) ?_ ?_
    ·exact ⟨rfl,rfl,by omega,ho2⟩
    ·omega
   ·refine S6 ?_
    refine Ya (l:=[0,1,2,3,4,5,6,7,8,9]) #[0,1,0,4,15,0,32,127,255,511] _ rfl jI jI St.drawn (fun _ h=>h) ?_
    obtain rfl:i=8:=by omega
    rw [Zfp] at ho
    refine Stp ?_;refine Zdy rfl rfl rfl rfl (by show s.size+1≤_;omega) rfl rfl ?_;refine Stp ?_;refine Vn (Zvh _ ⟨#[0]⟩ ((119-s.size % 64) % 64) hM jD (by show 1 * _≤_;omega)) ?_
    rintro _ rfl
    refine Zdy rfl rfl rfl rfl (by rw [Ag,ByteArray.size_append];show s.size+1+_≤_;omega) rfl rfl ?_;refine Stp ?_;refine Zld (l:=Cs (8 * s.size)) rfl rfl rfl (OSl.srcAll ho jA (fun u hu=>by rw [Qv] at hu;obtain ⟨z,-,rfl⟩:=C0.1 hu;rfl)) F.elem202 Tryz.underlying5 Tryz.underlying9 rfl rfl ?_;refine Zdy rfl rfl rfl rfl (by (rw [ByteArray.size_append,Ag,ByteArray.size_append,strOfNums_size,A8];show s.size+1+_+8≤_;omega)) rfl rfl ?_;refine S5 ?_;refine ZH fun w hw=>?_
    exact ⟨_,rfl,hw.c,_,rfl,Zwl s⟩
end Go.Proofs.YtglnjnacodgmaaaGreatDoor.K
namespace Go.Esp
def PK (h:St5):Plc:=BitVec.ofNat 160 ((((h.a * 4294967296+h.b) * 4294967296+h.c) * 4294967296+h.d) * 4294967296+h.e)
def Zyv (B:List Nat):Plc:=PK (Oq (B.length / 64+2) (Zqx B) KG)
theorem Zmv {h:St5} (hh:h.ok) {i:Nat} (hi:i<20):idB (PK h) i=h.nth (i / 4) / 2 ^ (24-8 * (i % 4)) % 256:=by
  obtain ⟨a,b,c,d,e⟩:=h
  obtain ⟨h1,h2,h3,h4,h5⟩:=hh
  simp only at h1 h2 h3 h4 h5
  have e1:(PK ⟨a,b,c,d,e⟩).toNat=(((a * 4294967296+b) * 4294967296+c) * 4294967296+d) * 4294967296+e:=by
    unfold PK
    rw [H4]
    exact E3 (by show (((a * 4294967296+b) * 4294967296+c) * 4294967296+d) * 4294967296+e<2 ^ 160;omega)
  unfold idB
  match i,hi with
  | 0,_=>show _ / 256 ^ 19 % 256=a / 2 ^ 24 % 256;omega
  | 1,_=>show _ / 256 ^ 18 % 256=a / 2 ^ 16 % 256;omega
  | 2,_=>show _ / 256 ^ 17 % 256=a / 2 ^ 8 % 256;omega
  | 3,_=>show _ / 256 ^ 16 % 256=a / 2 ^ 0 % 256;omega
  | 4,_=>show _ / 256 ^ 15 % 256=b / 2 ^ 24 % 256;omega
  | 5,_=>show _ / 256 ^ 14 % 256=b / 2 ^ 16 % 256;omega
  | 6,_=>show _ / 256 ^ 13 % 256=b / 2 ^ 8 % 256;omega
  | 7,_=>show _ / 256 ^ 12 % 256=b / 2 ^ 0 % 256;omega
  | 8,_=>show _ / 256 ^ 11 % 256=c / 2 ^ 24 % 256;omega
  | 9,_=>show _ / 256 ^ 10 % 256=c / 2 ^ 16 % 256;omega
  | 10,_=>show _ / 256 ^ 9 % 256=c / 2 ^ 8 % 256;omega
  | 11,_=>show _ / 256 ^ 8 % 256=c / 2 ^ 0 % 256;omega
  | 12,_=>show _ / 256 ^ 7 % 256=d / 2 ^ 24 % 256;omega
  | 13,_=>show _ / 256 ^ 6 % 256=d / 2 ^ 16 % 256;omega
  | 14,_=>show _ / 256 ^ 5 % 256=d / 2 ^ 8 % 256;omega
  | 15,_=>show _ / 256 ^ 4 % 256=d / 2 ^ 0 % 256;omega
  | 16,_=>show _ / 256 ^ 3 % 256=e / 2 ^ 24 % 256;omega
  | 17,_=>show _ / 256 ^ 2 % 256=e / 2 ^ 16 % 256;omega
  | 18,_=>show _ / 256 ^ 1 % 256=e / 2 ^ 8 % 256;omega
  | 19,_=>show _ / 256 ^ 0 % 256=e / 2 ^ 0 % 256;omega
  | n+20,h=>omega
theorem Zuc {h:St5} (hh:h.ok) {i:Nat} (hi:i<20):w8 (((h.nth (i / 4):Nat):Int) / 2 ^ (24-8 * (i % 4)))=((idB (PK h) i:Nat):Int):=by
  rw [Zmv hh hi]
  rfl
theorem Bv (n:Nat) (h:St5):Oq n [] h=h:=by cases n <;> rfl
theorem DL {n:Nat} {l:List Nat} {h:St5} (hl:l≠[]):Oq (n+1) l h=Oq n (l.drop 64) (Cv h (l.take 64)):=by
  cases l with
  | nil=>exact absurd rfl hl
  | cons x l=>rfl
theorem An (B:List Nat):(Zqx B).length=B.length+9+(119-B.length % 64) % 64:=by
  unfold Zqx;simp;omega
theorem CL (B:List Nat):∃ m,(Zqx B).length=64 * m∧m≤B.length / 64+2:=⟨(Zqx B).length / 64,by rw [An];omega,by rw [An];omega⟩
theorem OF (p:ByteArray) (i j:Nat):XR (p.extract i j)=((XR p).drop i).take (j-i):=by
  unfold XR
  simp
end Go.Esp
namespace Go.Proofs.YtglnjnacodgmaaaGreatDoor.K
open Go.Esp
theorem Zyd (M:Mem) (s:ByteArray) (hs:s.size≤4096) (hM:M.dr=0):Esp.Fn Tryz.prog 52 [.string s] M (fun M' v=>v=.tuple #[WX [ZU (Zyv (XR s))],.int .i64 0]):=by
  refine WE Tryz.func52 rfl Tryz.ntmps52 rfl ?_;intro H
  refine S3 ?_
  intro b1
  refine S6 ?_;refine Vn (Zyf _ s hs hM) ?_
  rintro _ ⟨p,rfl,hp⟩
  obtain ⟨m,hm9,hmf⟩:=CL (XR s)
  have hps:p.size=64 * m:=by rw [← VB,hp,hm9]
  obtain ⟨f,hf⟩:∃ f,f=(XR s).length / 64+2:=⟨_,rfl⟩
  obtain ⟨R9,hR⟩:∃ R9,Oq (f-0) (XR p) KG=R9:=⟨_,rfl⟩
  refine S7 ?_;refine VG [5,4,3,2] ?_;refine S7 ?_;refine VG [15,5,4,3,2] ?_
  refine Xb (eT fun hc2=>?_) (eF fun hc2=>?_)
  ·simp only [Zr.eta,ZK.eta,ZM.eta,ZI.eta,YD.eta,YQ.eta,XM.eta,YT.eta,ZW.eta,XF.eta,Yk.eta] at hc2
   (exfalso;simp [eqX] at hc2;done)
  ·simp only [Zr.eta,ZK.eta,ZM.eta,ZI.eta,YD.eta,YQ.eta,XM.eta,YT.eta,ZW.eta,XF.eta,Yk.eta] at hc2
   refine S2 ?_;refine VG [4,3,2] ?_;refine S2 ?_;refine Vn (Zqc _) ?_
   rintro _ rfl
   refine Stp ?_;intro b3
   refine UE rfl rfl rfl rfl jG (by exact Iu _) jH F.lay154 rfl rfl ?_;refine S2 ?_;refine VG [6,4,3,2] ?_;refine S2 ?_;refine VG [4,6,3,2] ?_;refine XV (Hin:=[(b3,Yp [RG (KG)] 154)]) (.succ .zero) jA (fun (k:Nat) M2 h1 z=>∃ (q:ByteArray) (g:St5),z=[(4,.string q)]∧k≤m∧q.size=64 * (m-k)∧g.ok∧Oq (f-k) (XR q) g=R9∧h1=[(b3,Yp [RG (g)] 154)]) (fun k=>m-k) (0) (⟨p,KG,rfl,by omega,by omega,Zff,hR,rfl⟩) ?_
   rintro k M2 h1 z hm2 ⟨q,g,rfl,hk,hq,hg,hb,rfl⟩
   refine S4 ?_;refine Zxr ?_;refine S2 ?_
   refine Xb (eT fun hc4=>?_) (eF fun hc4=>?_)
   ·refine S4 ?_
    refine Ya (l:=[0,1,2,3,4,5,6,7]) #[0,0,2,7,15,31,31,63] _ rfl jI jI St.drawn (fun _ h=>h) ?_
    have hz9:q.size≠0:=fun h9=>absurd (show q=⟨#[]⟩ from ByteArray.ext (Array.eq_empty_of_size_eq_zero h9)) (by simp_all)
    refine S2 ?_;refine PF (olo:=none) (ohi:=some 64) rfl rfl rfl .none (.some rfl rfl) Tryz.underlying9 (by show 64≤q.size;omega) (C3 _) (show _=q.extract 0 64 from rfl) rfl ?_;refine PH (Zvd _ g (q.extract 0 64) hg (by rw [← VB,OF];simp [VB];omega)) ?_
    rintro _ M4 hm4 rfl
    refine S3 ?_;refine UE rfl rfl rfl rfl jG (by exact Iu _) jH F.lay154 rfl rfl ?_;refine S3 ?_;refine VG [28,23,27,26,25,24,20,19,4,6,3,2] ?_;refine S2 ?_;refine PF (olo:=some 64) (ohi:=none) rfl rfl rfl (.some rfl rfl) .none Tryz.underlying9 (B9 _) (by show 64≤q.size;omega) (show _=q.extract 64 q.size from rfl) rfl ?_;refine S2 ?_;refine YO (a':=[(4,_)]) (k+1) ([(b3,Yp [RG (Cv g (XR (q.extract 0 64)))] 154)]) (.cons (k:=4) rfl (.cons (k:=6) rfl (.cons (k:=3) rfl (.cons (k:=2) rfl (.nil))))) (hm2.trans hm4) (fun w hw=>by first|exact hw|exact hw.c) ?_ ?_
    ·refine ⟨q.extract 64 q.size,Cv g (XR (q.extract 0 64)),rfl,by omega,by rw [← VB,OF];simp [VB];omega,Zmt,?_,rfl⟩
     rw [← hb,show f-k=(f-(k+1))+1 by omega,DL (by intro h9;have:=VB q;rw [h9] at this;simp at this;omega),OF,OF]
     congr 1
     exact H5 (by simp [VB])
    ·omega
   ·refine S5 ?_
    refine VG [6,3,2] ?_;refine S3 ?_
    intro b5
    refine S9 ?_;refine VG [30,7,6,3,2] ?_;refine XV (Hin:=[(b5,Yp [ZU 0] 36)]) (.succ .zero) jA (fun (i:Nat) M3 h1 z=>M3=M2∧z=[(30,.int .i64 (i:Int))]∧i≤20∧h1=[(b5,Yp [.arr 20 (LI (PK g) 0 i)] 36)]) (fun i=>20-i) (0) (⟨rfl,rfl,by omega,by rw [Bj];rfl⟩) ?_
    rintro i M3 h1 z hm3 ⟨hM3,rfl,hi,rfl⟩
    subst hM3
    refine S6 ?_
    refine Xb (cT fun hc6=>?_) (cF fun hc6=>?_)
    ·refine S14 ?_
     rw [show (i:Int) / 4=((i / 4:Nat):Int) by omega]
     refine Stp ?_;refine Qp rfl rfl rfl jB F.lay152 (Zfh _ jD) rfl ?_;refine Stp ?_;refine Zxt rfl rfl rfl rfl jM (by exact Zqu jD) rfl ?_
     rw [show (i:Int) % 4=((i % 4:Nat):Int) by omega]
     iterate 2 refine DZ rfl rfl rfl rfl rfl yN rfl ?_
     rw [show (24:Int)-8 * ((i % 4:Nat):Int)=((24-8 * (i % 4):Nat):Int) by omega]
     refine VK rfl rfl rfl rfl jD (Uw (24-8 * (i % 4)) (by show _≤32;omega)) rfl rfl ?_;refine S2 ?_;refine QH rfl rfl rfl rfl rfl rfl jH F.lay5 (GJ jD) (GI jD) ?_
     rw [Bi (PK g) 0 (k:=i) jD (Zuc hg jD)]
     refine S7 ?_;refine YO (a':=[(30,_)]) (i+1) ([(b5,Yp [.arr 20 (LI (PK g) 0 (i+1))] 36)]) (.cons (k:=30) rfl (.cons (k:=7) rfl (.cons (k:=6) rfl (.cons (k:=3) rfl (.cons (k:=2) rfl (.nil)))))) jO (fun w hw=>by first|exact hw|exact hw.c) ?_ ?_
     ·exact ⟨rfl,rfl,by omega,rfl⟩
     ·omega
    ·refine S7 ?_
     obtain rfl:i=20:=by omega
     rw [Zcx]
     rw [show (Seg.arr 20 (idV (PK g)))=ZU (PK g) from rfl]
     refine S6 ?_;refine ZH fun w hw=>?_
     have hq0:q=⟨#[]⟩:=by simp_all
     refine ⟨_,M3,rfl,jE,hw.c,?_⟩
     have hg9:PK g=Zyv (XR s):=by
      unfold Zyv;rw [← hf,← hp,show f=f-0 by omega,hR,← hb,hq0]
      show _=PK (Oq _ [] g)
      rw [Bv]
     rw [← hg9]
     rfl
end Go.Proofs.YtglnjnacodgmaaaGreatDoor.K
namespace Go.Proofs
open Go.Shelf
end Go.Proofs
namespace Go.Esp
open Go.Proofs Go.Shelf Go.RowKit Go.Lib
end Go.Esp
namespace Go.Proofs.YtglnjnacodgmaaaGreatDoor.K
open Go.Esp
theorem F.ok54:Ta Tryz.prog 54=true:=by kernel_rfl
def lessF (a b:Zr):Int:=if a=b then 0 else if WY a.id b.id then -1 else 1
theorem Ztd (M:Mem) (a:Zr) (b:Zr):Fs Tryz.prog 54 [a.enc,b.enc] M (fun v=>v=Value.int .i64 (lessF a b)):=by
  obtain ⟨a_addr,a_id⟩:=a
  obtain ⟨b_addr,b_id⟩:=b
  refine Xa Tryz.func54 rfl Tryz.ntmps54 rfl ?_;intro H
  refine S3 ?_
  intro b1
  refine Stp ?_;intro b2
  refine S9 ?_
  refine VW (m:=20) rfl rfl rfl rfl rfl jG jG F.lay38 F.kinds38 rfl F.guard38 jR jR rfl rfl rfl ?_;intro c3 he4
  replace he4:c3=true↔Segs.cells _=Segs.cells _:=he4
  obtain rfl:=eqD he4 (Zr.inj (x:=⟨_,_⟩) (y:=⟨_,_⟩));clear he4
  refine S3 ?_
  refine Xb (cT fun hc5=>?_) (cF fun hc5=>?_)
  ·refine S8 ?_
   refine ZH fun w hw=>?_
   refine ⟨_,rfl,(hw.c),?_⟩
   refine A9 (Value.int .i64) ?_
   unfold lessF
   simp_all
  ·refine S6 ?_
   refine Vn (Ox _ _ _) ?_
   rintro _ rfl
   refine S3 ?_
   refine Xb (cT fun hc6=>?_) (cF fun hc6=>?_)
   ·refine S8 ?_
    refine ZH fun w hw=>?_
    refine ⟨_,rfl,(hw.c),?_⟩
    refine A9 (Value.int .i64) ?_
    unfold lessF
    simp_all
   ·refine S9 ?_
    refine ZH fun w hw=>?_
    refine ⟨_,rfl,(hw.c),?_⟩
    refine A9 (Value.int .i64) ?_
    unfold lessF
    simp_all
theorem Znx:Sort.SWO (ltOf lessF):=by
  have e:∀ x y:Zr,ltOf lessF x y=decide (WY x.id y.id):=by
   intro x y;unfold ltOf lessF
   by_cases h0:x=y
   ·subst h0;simp [WY]
   ·by_cases h:WY x.id y.id <;> simp [h,h0]
  exact ⟨fun x=>by rw [e];simp [WY],fun x y z h1 h2=>by rw [e] at h1 h2 ⊢;exact decide_eq_true (Nat.lt_trans (of_decide_eq_true h1) (of_decide_eq_true h2)),fun x y z h1 h2=>by rw [e] at h1 h2 ⊢;exact decide_eq_false (Nat.not_lt.2 (H7 (Nat.not_lt.1 (of_decide_eq_false h2)) (Nat.not_lt.1 (of_decide_eq_false h1))))⟩
instance:Inhabited Zr:=⟨⟨0,0⟩⟩
theorem Zqf (M:Mem) (b c:Nat) (l:List Zr) (hs:Hp) (ho:OSl 38 21 (.slice (some ⟨b,0,none⟩) l.length c) hs (l.map Zr.segs)) (hl:l.length≤1000000):Fh Tryz.prog 46 [.slice (some ⟨b,0,none⟩) l.length c,.func (.func 54) #[] #[]] M hs (fun M' v Hout=>M'=M∧v=.tuple #[]∧∃ l':List Zr,l'.Perm l∧l'.Pairwise (fun x y=>¬lessF y x<0)∧OSl 38 21 (.slice (some ⟨b,0,none⟩) l.length c) Hout (l'.map Zr.segs)) :=
  Zfi (f:=Zr.segs) (sz:=21) Tryz.sortL Tryz.isAgg38 Tryz.sizeOf38 jM (fun x=>(Segs.cells_length _).trans (Zr.len x)) (fun x=>Zr.flat x) lessF Znx 54 F.ok54 (fun M x y=>Ztd M x y) ho hl M
end Go.Proofs.YtglnjnacodgmaaaGreatDoor.K
namespace Go.Proofs.YtglnjnacodgmaaaGreatDoor.K
open Go.Esp
theorem F.ok51:Ta Tryz.prog 51=true:=by kernel_rfl
def OddA (z:Int):Prop:=z<0∨999<z
instance (z:Int):Decidable (OddA z):=by unfold OddA;exact inferInstance
theorem Ar (M:Mem) (addr:Int):Fs Tryz.prog 51 [.int .i64 addr] M (fun v=>v=Value.bool (decide (OddA addr))):=by
  refine Xa Tryz.func51 rfl Tryz.ntmps51 rfl ?_;intro H
  refine S10 ?_
  refine YE 5 (cT fun hc1=>?_) (cF fun hc1=>?_)
  ·refine S7 ?_
   refine ZH fun w hw=>?_
   refine ⟨_,rfl,(hw.c),?_⟩
   refine A9 Value.bool ?_
   exact (decide_eq_true (by unfold OddA;omega)).symm
  ·refine S7 ?_
   refine ZH fun w hw=>?_
   refine ⟨_,rfl,(hw.c),?_⟩
   refine A9 Value.bool ?_
   exact decide_eq_decide.2 (by unfold OddA;omega)
theorem BL (M:Mem) (l:(Sl Int))  (hl0:SlK M (WC .i64) 1 l):Fs Tryz.prog 82 [Sl.val l,.func (.func 51) #[] #[]] M (fun v=>∃ z:Int,v=.int .i64 z∧(0≤z↔∃ a∈l.l,OddA a)):=by
  obtain ⟨l_a,l_c,l_l⟩:=l
  have k_l:SlK M (WC .i64) 1 ⟨l_a,l_c,l_l⟩:=hl0
  have s_l:SlM M l_a (l_l.map (WC .i64)) 1:=k_l.h1
  have n_l:(l_l.map (WC .i64)).length=l_l.length:=A8 ..
  have m_l:l_l.length≤9223372036854775807:=k_l.h2
  have c_l:l_l.length≤l_c:=k_l.h3
  refine Xa Tryz.func82 rfl Tryz.ntmps82 rfl ?_;intro H
  refine S14 ?_;refine VG [8,7,4,0,1] ?_;refine Un (.succ .zero) (fun (k:Nat) z=>z=[(8,.int .i64 (k:Int))]∧k≤l_l.length∧(∀ j (hj:j<l_l.length),j<k→¬OddA l_l[j])) (fun k=>l_l.length-k) (0) (⟨rfl,by omega,by (intro j h2 hj;omega)⟩) ?_
  rintro k _ ⟨rfl,hk,hI⟩
  refine S6 ?_
  refine Xb (cT fun hc1=>?_) (cF fun hc1=>?_)
  ·refine S17 ?_
   refine PP rfl rfl rfl F.ok51 rfl rfl (Ar M _) rfl ?_
   rintro _ rfl
   refine S2 ?_
   refine Xb (cT fun hc2=>?_) (cF fun hc2=>?_)
   ·refine S12 ?_
    refine ZH fun w hw=>?_
    refine ⟨_,rfl,hw.c,_,rfl,?_⟩
    show _↔∃ a∈l_l,OddA a
    exact ⟨fun _=>⟨l_l[k]'jD,C1 jD,by first|assumption|simp_all⟩,fun _=>by omega⟩
   ·refine S7 ?_
    refine VX (a':=[(8,_)]) (k+1) (.cons (k:=8) rfl (.cons (k:=7) rfl (.cons (k:=4) rfl (.cons (k:=0) rfl (.cons (k:=1) rfl (.nil)))))) (fun w hw=>by first|exact hw|exact hw.c) ?_ ?_
    ·refine ⟨rfl,by omega,?_⟩
     (intro j h2 hj;rcases C7 j k with h9|h9;exact hI j h2 h9;obtain rfl:j=k:=jD;simp_all)
    ·omega
  ·refine S11 ?_
   refine ZH fun w hw=>?_
   refine ⟨_,rfl,hw.c,_,rfl,?_⟩
   show _↔∃ a∈l_l,OddA a
   exact ⟨fun h9=>by omega,fun ⟨x9,h8,h9⟩=>by obtain ⟨j,hj,rfl⟩:=E2 h8;exact absurd h9 (hI j (show j<l_l.length from hj) (by have:j<l_l.length:=hj;omega))⟩
theorem Ii (M:Mem) (l:(Sl Int))  (hl0:SlK M (WC .i64) 1 l):Fs Tryz.prog 42 [Sl.val l,.func (.func 51) #[] #[]] M (fun v=>v=.bool (decide (∃ a∈l.l,OddA a))):=by
  obtain ⟨l_a,l_c,l_l⟩:=l
  have k_l:SlK M (WC .i64) 1 ⟨l_a,l_c,l_l⟩:=hl0
  refine Xa Tryz.func42 rfl Tryz.ntmps42 rfl ?_;intro H
  refine S9 ?_;refine Vn (BL _ ⟨l_a,l_c,l_l⟩ k_l) ?_
  rintro _ ⟨z9,rfl,hz9⟩
  refine S5 ?_;refine ZH fun w hw=>?_
  exact ⟨_,rfl,hw.c,A9 Value.bool (decide_eq_decide.2 hz9)⟩
end Go.Proofs.YtglnjnacodgmaaaGreatDoor.K
namespace Go.Proofs.YtglnjnacodgmaaaGreatDoor.K
open Go.Esp
def Zxj (a:Int):ByteArray:=⟨(Lib.decDigits a.toNat).toArray⟩
def Zns:ByteArray:=⟨#[110,111,100,101]⟩
def peerN (a:Int):Zr:=⟨a,Zyv (XR (Zns++Zxj a))⟩
theorem Zty {u:Nat} (h:u<1000):(Lib.decDigits u).length≤3:=by
  rw [Lib.decDigits];split
  ·simp
  ·rw [Lib.decDigits];split
   ·simp
   ·rw [Lib.decDigits];split
    ·simp
    ·omega
theorem DC {a:Int} (h:¬OddA a):(Zns++Zxj a).size≤7:=by
  unfold OddA at h
  have h9:(Zxj a).size≤3:=by
   show (Lib.decDigits a.toNat).toArray.size≤3
   rw [J2];exact Zty jD
  rw [ByteArray.size_append];show 4+_≤7;omega
def Digs (M0:Mem) (l:List Int):Prop:=∀ (M:Mem),M0.le M→∀ (a:Int),a∈l→¬OddA a→Fs Tryz.prog 53 [.int .i64 a] M (fun v=>v=.string (Zxj a))
theorem Digs.mono {M0 M1:Mem} {l:List Int} (h:Digs M0 l) (hm:M0.le M1):Digs M1 l:=fun M hM=>h M (hm.trans hM)
def OfR (M:Mem) (l:List Int) (v:Value):Prop:=∃ (s:Sl Zr) (c:Int),v=.tuple #[s.val,.int .i64 c]∧SlK M Zr.segs 21 s ∧
  (if l.length<1∨16<l.length then s.l=[]∧c=2 else if ∃ a∈l,OddA a then s.l=[]∧c=1 else ∃ l':List Zr,l'.Perm (l.map peerN)∧l'.Pairwise (fun x y=>¬lessF y x<0)∧if Xk l' then s.l=l'∧c=0 else s.l=[]∧c=9)
theorem Of_ok (M:Mem) (l:(Sl Int)) (hl0:SlK M (WC .i64) 1 l) (hM:M.dr=0) (hI:Digs M l.l):Esp.Fn Tryz.prog 24 [Sl.val l] M (fun M' v=>OfR M' l.l v):=by
  obtain ⟨l_a,l_c,l_l⟩:=l
  have k_l:SlK M (WC .i64) 1 ⟨l_a,l_c,l_l⟩:=hl0
  have s_l:SlM M l_a (l_l.map (WC .i64)) 1:=k_l.h1
  replace hI:Digs M l_l:=hI
  refine WE Tryz.func24 rfl Tryz.ntmps24 rfl ?_;intro H
  refine S13 ?_
  refine YE 13 (cT fun hc1=>?_) (cF fun hc1=>?_)
  ·refine S15 ?_
   refine ZH fun w hw=>?_
   refine ⟨_,M,rfl,Mem.le.refl M,hw.c,?_⟩
   show OfR _ l_l _
   refine ⟨⟨none,0,[]⟩,_,rfl,SlK.nil,?_⟩
   rw [A6 jD]
   exact ⟨rfl,rfl⟩
  ·refine S6 ?_
   refine Xb (cT fun hc2=>?_) (cF fun hc2=>?_)
   ·refine S8 ?_
    refine ZH fun w hw=>?_
    refine ⟨_,M,rfl,Mem.le.refl M,hw.c,?_⟩
    show OfR _ l_l _
    refine ⟨⟨none,0,[]⟩,_,rfl,SlK.nil,?_⟩
    rw [A6 jD]
    exact ⟨rfl,rfl⟩
   ·refine S12 ?_
    refine Vn (Ii _ ⟨l_a,l_c,l_l⟩ k_l) ?_
    rintro _ rfl
    refine S2 ?_
    refine Xb (cT fun hc3=>?_) (cF fun hc3=>?_)
    ·refine S8 ?_
     refine ZH fun w hw=>?_
     refine ⟨_,M,rfl,Mem.le.refl M,hw.c,?_⟩
     show OfR _ l_l _
     refine ⟨⟨none,0,[]⟩,_,rfl,SlK.nil,?_⟩
     rw [A4 jD,A6 jE]
     exact ⟨rfl,rfl⟩
    ·refine S4 ?_
     have hodd:¬∃ a∈l_l,OddA a:=by assumption
     refine S12 ?_;refine VG [23,5,22,21,3,2] ?_;refine XV (Hin:=[]) (.succ (.succ .zero)) jA (fun (k:Nat) M1 h1 z=>∃ v,z=[(23,.int .i64 (k:Int)),(5,v)]∧k≤l_l.length∧OSl 38 21 v h1 (((l_l.take k).map peerN).map Zr.segs)) (fun k=>l_l.length-k) (0) (⟨_,rfl,by omega,OSl.nil⟩) ?_
     rintro k M1 h1 z hm1 ⟨v0,rfl,hk,ho⟩
     obtain ⟨ad0,cp0,rfl⟩:=ho.val
     have hml:(((l_l.take k).map peerN).map Zr.segs).length=k:=by simp;omega
     rw [hml] at ho ⊢
     refine S6 ?_
     refine Xb (cT fun hc4=>?_) (cF fun hc4=>?_)
     ·refine S14 ?_
      refine Vn (hI _ hm1 l_l[k] (C1 jD) (fun h9=>hodd ⟨_,C1 jD,h9⟩)) ?_
      rintro _ rfl
      refine Zdy (a:=Zns) rfl rfl rfl rfl (by have:=DC (show ¬OddA l_l[k] from fun h9=>hodd ⟨_,C1 jD,h9⟩);rw [ByteArray.size_append] at this;omega) rfl rfl ?_;refine PH (Zyd _ (Zns++Zxj l_l[k]) (H7 (DC (fun h9=>hodd ⟨_,C1 jD,h9⟩)) jM) (hm1.loose hM)) ?_
      rintro _ M2 hm2 rfl
      refine S4 ?_
      intro b5
      refine S11 ?_
      refine Xb (eT fun hc6=>?_) (eF fun hc6=>?_)
      ·(exfalso;simp [eqX] at hc6;done)
      ·refine S6 ?_
       refine XN rfl rfl F.bld38 (.cons rfl jG (.cons rfl jG .nil)) rfl rfl ?_
       refine YK rfl rfl F.elem39 F.zero38 rfl rfl (.cons rfl jG .nil) rfl rfl jK rfl ?_;intro b7 hob8
       refine Vc (m:=1000000) rfl rfl rfl rfl rfl F.elem39 F.zero38 zI rfl jE jA (Src.own hob8.lens jN rfl jB) jX jM rfl ?_;intro v11 hs10 ho9;obtain ⟨adv11,cpv11,rfl⟩:=ho9.val
       refine S8 ?_;refine YO (a':=[(23,_),(5,_)]) (k+1) (hs10) (.cons (k:=23) rfl (.cons (k:=5) rfl (.cons (k:=22) rfl (.cons (k:=21) rfl (.cons (k:=3) rfl (.cons (k:=2) rfl (.nil))))))) (hm1.trans hm2) (fun w hw=>by first|exact hw|exact hw.c) ?_ ?_
       ·refine ⟨_,rfl,by omega,?_⟩
        rw [List.take_succ_eq_append_getElem jD,C6,C6]
        exact ho9
       ·omega
     ·refine S6 ?_
      obtain rfl:k=l_l.length:=by omega
      rw [G0] at ho
      obtain ⟨pl,hpl⟩:∃ pl,pl=l_l.map peerN:=⟨_,rfl⟩
      have hpn:l_l.length=pl.length:=by rw [hpl,A8]
      rw [hpn]
      rw [hpn,← hpl] at ho
      obtain ⟨b9,rfl⟩:∃ b,ad0=some ⟨b,0,none⟩:=by
       cases ad0 with
       |none =>
        have h9:=ho.noneAll.1
        rw [h9] at hpn
        exact absurd hpn (by show l_l.length≠0;omega)
       |some ad=>obtain ⟨b,rfl⟩:=ho.someAll;exact ⟨b,rfl⟩
      refine Xv (l:=[0,1]) (Hin:=h1) jA rfl ?_;refine Stp ?_;refine We (Zqf _ b9 cp0 pl h1 ho jD) ?_
      rintro _ M3 hs9 hm3 ⟨hM3,rfl,l9,hp9,hsw9,ho9⟩;subst M3
      refine S4 ?_
      have hl9:=hp9.length_eq
      rw [← hl9]
      refine Pn ho9 jA (fun M4 hm4 k_s=>?_)
      refine S2 ?_;refine Vn (Circ_ok _ ⟨_,_,_⟩ jE) ?_
      rintro _ rfl
      refine S3 ?_
      refine Xb (eT fun hc12=>?_) (eF fun hc12=>?_)
      ·refine S8 ?_
       refine ZH fun w hw=>?_
       refine ⟨_,M4,rfl,hm1.trans hm4,hw.c,?_⟩
       show OfR _ l_l _
       refine ⟨⟨none,0,[]⟩,_,rfl,SlK.nil,?_⟩
       rw [A4 jD,A4 hodd]
       refine ⟨l9,by rw [← hpl];exact hp9,hsw9,?_⟩
       rw [A4 jE]
       exact ⟨rfl,rfl⟩
      ·refine S10 ?_
       refine ZH fun w hw=>?_
       refine ⟨_,M4,rfl,hm1.trans hm4,hw.c,?_⟩
       show OfR _ l_l _
       refine ⟨⟨_,cp0,l9⟩,_,rfl,k_s,?_⟩
       rw [A4 jD,A4 hodd]
       refine ⟨l9,by rw [← hpl];exact hp9,hsw9,?_⟩
       rw [A6 jE]
       exact ⟨rfl,rfl⟩
end Go.Proofs.YtglnjnacodgmaaaGreatDoor.K
namespace Go.Esp
def Ztj (p:Zr):List Zr→List Zr
  | []=>[p]
  | q::l=>if WY q.id p.id then q::Ztj p l else p::q::l
def Cz (l:List Zr):List Zr:=l.foldr Ztj []
theorem Jo (p:Zr):∀ l:List Zr,(Ztj p l).Perm (p::l)
  | []=>I9 _
  | q::l=>by
    unfold Ztj
    split
    · exact ((Jo p l).cons q).trans (List.Perm.swap p q l)
    · exact I9 _
theorem RP:∀ l:List Zr,(Cz l).Perm l
  | []=>I9 _
  | p::l=>(Jo p (Cz l)).trans ((RP l).cons p)
theorem Jn {p:Zr}:∀ {l:List Zr},l.Pairwise (fun x y=>¬WY y.id x.id)→(Ztj p l).Pairwise (fun x y=>¬WY y.id x.id)
  | [],_=>by simp [Ztj]
  | q::l,h=>by
    have h2:=D6.1 h
    unfold Ztj
    split
    · rename_i e
      refine D6.2 ⟨fun y hy=>?_,Jn h2.2⟩
      rcases B7.1 ((Jo p l).mem_iff.1 hy) with rfl|hy
      · unfold WY at *;omega
      · exact h2.1 y hy
    · rename_i e
      refine D6.2 ⟨fun y hy=>?_,h⟩
      rcases B7.1 hy with rfl|hy
      · exact e
      · have:=h2.1 y hy
        unfold WY at *;omega
theorem PX:∀ l:List Zr,(Cz l).Pairwise (fun x y=>¬WY y.id x.id)
  | []=>J8
  | p::l=>Jn (PX l)
theorem GC {l l':List Zr} (hp:l.Perm l') (h:Uv l) (h':l'.Pairwise (fun x y=>¬WY y.id x.id)):l'=l:=by
  have key:∀ a∈l,∀ b∈l,¬WY a.id b.id→¬WY b.id a.id→a=b:=by
    intro a ha b hb h1 h2
    obtain ⟨i,hi,rfl⟩:=E2 ha
    obtain ⟨j,hj,rfl⟩:=E2 hb
    rcases Nat.lt_trichotomy i j with h9|h9|h9
    · exact absurd (E1.1 h.2.2 i j hi hj h9) h1
    · subst h9;rfl
    · exact absurd (E1.1 h.2.2 j i hj hi h9) h2
  refine List.Perm.eq_of_pairwise (le:=fun x y=>¬WY y.id x.id) ?_ h' (h.2.2.imp fun h=>by unfold WY at *;omega) hp.symm
  grind
theorem Zjx {l L:List Zr} (hp:l.Perm L) (hs:l.Pairwise (fun x y=>¬WY y.id x.id)):Xk l↔Xk (Cz L):=by
  constructor
  · intro h
    rw [GC (hp.trans (RP L).symm) h.2 (PX L)]
    exact h
  · intro h
    rw [GC ((RP L).trans hp.symm) h.2 hs]
    exact h
def CU (n:Nd) (t:Tb):Bool:=n.joined && decide (n.table.pred=t.pred) && decide (n.table.succ=t.succ) && decide (n.table.fingers=t.fingers)
def SG (r:Rg) (t:Tb):Bool:=match YC t.self.addr r.nodes with
  | none=>false
  | some n=>CU n t
def Wr (pn:Int→Zr) (r:Rg):List Zr:=Cz ((XW r).map pn)
def XQ (pn:Int→Zr) (r:Rg):Bool:=decide (Xk (Wr pn r)) && (Nb (Wr pn r) r.copies.toNat).all (SG r)
theorem Zco {pn:Int→Zr} {r:Rg} (h:¬Xk (Wr pn r)):XQ pn r=false:=by
  unfold XQ;rw [decide_eq_false h];rfl
theorem Kk {pn:Int→Zr} {r:Rg} {l:List Zr} {k:Nat} (hl:Wr pn r=l) {t:Tb} (hk:(Nb l r.copies.toNat)[k]?=some t) (h:SG r t=false):XQ pn r=false:=by
  unfold XQ
  grind
theorem Dl {pn:Int→Zr} {r:Rg} {l:List Zr} (hl:Wr pn r=l) (hc:Xk l) (h:∀ j (hj:j<(Nb l r.copies.toNat).length),SG r (Nb l r.copies.toNat)[j]=true):XQ pn r=true:=by
  unfold XQ
  rw [hl,decide_eq_true hc,Bool.true_and,E7]
  intro t ht
  obtain ⟨j,hj,rfl⟩:=E2 ht
  exact h j hj
theorem Ztc {r:Rg} {t:Tb} {n:Nd} (h:YC t.self.addr r.nodes=some n):SG r t=CU n t:=by unfold SG;rw [h]
theorem Ki {n:Nd} {t:Tb}:CU n t=true↔n.joined=true∧n.table.pred=t.pred∧n.table.succ=t.succ∧n.table.fingers=t.fingers:=by
  unfold CU
  grind
theorem Gc {n:Nd} {t:Tb} (h:¬(n.joined=true∧n.table.pred=t.pred∧n.table.succ=t.succ∧n.table.fingers=t.fingers)):CU n t=false:=by
  cases hb:CU n t with
  | false=>rfl
  | true=>exact absurd (Ki.1 hb) h
def NodeR (M:Mem) (r:Rg) (a:Int) (v:Value):Prop:=∃ (x:ZM) (c:Int),v=.tuple #[x.enc,.int .i64 c]∧ZM.ok M x∧((∃ n,YC a r.nodes=some n∧x.nd=n∧c=0)∨(YC a r.nodes=none∧c=7))
def VZ (pn:Int→Zr):Nat→Rg→Nat×Rg
  | 0,r=>(0,r)
  | n+1,r=>if XQ pn r=true then (0,r) else ((VZ pn n (VI r)).1+1,(VZ pn n (VI r)).2)
theorem RIs.okD {M:Mem} {r:Rg} {l:JM ZM} (h:RIs M r l) {a:Int} {x:ZM} (hx:(Wm l a).getD ZM.zero=x):ZM.ok M x:=by
  cases hg:Wm l a with
  | none=>rw [hg] at hx;rw [← hx];exact ZM.zero_ok M
  | some v=>rw [hg] at hx;rw [← hx];exact h.ok _ (Db hg)
theorem RIs.like {M:Mem} {r:Rg} {l:JM ZM} (h:RIs M r l) {a:Int} {x:ZM} {t:Tb} (hx:(Wm l a).getD ZM.zero=x) (ha:t.self.addr=a):SG r t=CU x.nd t:=by
  subst ha
  cases hg:Wm l t.self.addr with
  | none =>
    rw [hg] at hx
    have h0:YC t.self.addr r.nodes=Option.none:=by rw [← h.get,hg];rfl
    unfold SG
    rw [h0,← hx]
    rfl
  | some v =>
    rw [hg] at hx
    have h0:YC t.self.addr r.nodes=Option.some v.nd:=by rw [← h.get,hg];rfl
    unfold SG
    rw [h0,← hx]
    rfl
def SetEq (pn:Int→Zr) (n k:Nat) (r r1:Rg):Prop:=VZ pn n r=(k+(VZ pn (n-k) r1).1,(VZ pn (n-k) r1).2)
theorem SetEq.start {pn:Int→Zr} {n:Nat} {r:Rg}:SetEq pn n 0 r r:=by
  unfold SetEq;rw [Nat.sub_zero,F2]
theorem SetEq.step {pn:Int→Zr} {n k:Nat} {r r1:Rg} (h:SetEq pn n k r r1) (hk:k<n) (hi:XQ pn r1=false):SetEq pn n (k+1) r (VI r1):=by
  unfold SetEq at *
  have e:VZ pn (n-(k+1)+1) r1=((VZ pn (n-(k+1)) (VI r1)).1+1,(VZ pn (n-(k+1)) (VI r1)).2):=by
    show (if XQ pn r1=true then (0,r1) else _)=_
    rw [A4 (by rw [hi];decide)]
  grind
theorem SetEq.ends {pn:Int→Zr} {n k:Nat} {r r1:Rg} (h:SetEq pn n k r r1) (he:¬k<n∨XQ pn r1=true):VZ pn n r=(k,r1):=by
  rw [h]
  have e:VZ pn (n-k) r1=(0,r1):=by
    cases hn:n-k with
    | zero=>rfl
    | succ m =>
      show (if XQ pn r1=true then (0,r1) else _)=_
      rw [A6 (he.resolve_left jD)]
  rw [e]
  rfl
theorem Mb {α:Type} {a:Int} {x:α}:∀ {l:List (Int×α)},(l.map (·.1)).Pairwise (·<·)→(YC a l).isSome=true→(WM a x l).map (·.1)=l.map (·.1)
  | [],_,h=>by cases h
  | (c,y)::l,hr,h=>by
    have h2:=D6.1 hr
    unfold WM
    by_cases e:a<c
    · exfalso
      unfold YC at h
      rw [A4 (show ¬c=a by omega),Ut.getA_low (fun q hq=>by have:=h2.1 q.1 (G8 hq);simp only at this;omega)] at h
      cases h
    · rw [A4 e]
      by_cases e1:c=a
      · rw [A6 e1];subst e1;rfl
      · rw [A4 e1,D3,D3]
        unfold YC at h
        rw [A4 e1] at h
        rw [Mb h2.2 h]
theorem ER (r:Rg) (frm:Int) (l:List Snd):XW (Tq r frm l)=XW r:=by unfold XW;rw [(MO r frm l).2.2]
theorem ES {r:Rg} (h:(XW r).Pairwise (·<·)) (i:Int):XW (XL r i).1=XW r:=by
  by_cases hi:0≤i∧i<r.bag.length
  · obtain ⟨k,rfl⟩:∃ k:Nat,i=k:=⟨i.toNat,by omega⟩
    have hk:k<r.bag.length:=by omega
    cases hg:YC (r.bag[k]).zto r.nodes with
    | none=>rw [Rx hk rfl hg];rfl
    | some n =>
      by_cases h0:(WI n (r.bag[k]).lt).2.2=0
      · rw [Rb hk rfl hg rfl rfl h0,ER]
        exact Mb h (by rw [hg];rfl)
      · rw [ND hk rfl hg h0];rfl
  · rw [Rw hi]
theorem Yqio:∀ (n:Nat) {r:Rg},(XW r).Pairwise (·<·)→XW (Va n r)=XW r
  | 0,_,_=>rfl
  | n+1,r,h=>by
    unfold Va
    split
    · have h1:=ES h 0
      rw [Yqio n (by rw [h1];exact h),h1]
    · rfl
theorem Zhd {r:Rg} (h:(XW r).Pairwise (·<·)) (a k:Int):XW (RF r a k).1=XW r:=by
  cases hg:YC a r.nodes with
  | none=>rw [QU hg]
  | some n =>
    by_cases h0:(Vf n k).2.2=0
    · rw [PU hg rfl rfl h0,ER]
      exact Mb h (by rw [hg];rfl)
    · rw [HG hg h0]
theorem Zca {r:Rg} (h:(XW r).Pairwise (·<·)) (a k:Int):XW (UV a r k)=XW r:=by
  have h1:=Zhd h a k
  unfold UV
  rw [Yqio 10000 (by rw [h1];exact h),h1]
theorem Ztb {r:Rg} {a:Int} (h:a∈XW r):∃ n,YC a r.nodes=some n:=by
  cases hg:YC a r.nodes with
  | none=>exact absurd h (Wg.1 hg)
  | some n=>exact ⟨n,rfl⟩
theorem NodeR.live {M:Mem} {r:Rg} {a:Int} {v:Value} {n:Nd} (h:NodeR M r a v) (hn:YC a r.nodes=some n):∃ x:ZM,v=.tuple #[x.enc,.int .i64 0]∧ZM.ok M x∧x.nd=n:=by
  obtain ⟨x,c,rfl,h1,h2⟩:=h
  grind
end Go.Esp
namespace Go.Proofs.YtglnjnacodgmaaaGreatDoor
open Go.Esp
theorem GA {M:Mem} (hp:PowM M) (l:List Int):K.Digs M l:=by
  intro M1 hM a _ ho
  unfold K.OddA at ho
  obtain ⟨n,rfl⟩:∃ n:Nat,a=n:=⟨a.toNat,by omega⟩
  exact Zqn M1 (hp.mono hM) n jD
theorem Zgr {a:Int}:¬K.OddA a↔Yf a:=by unfold K.OddA Yf;omega
theorem of1 {M:Mem} {a:Int} {v:Value} (ha:Yf a) (h:K.OfR M [a] v):∃ s:Sl Zr,v=.tuple #[s.val,.int .i64 0]∧SlK M Zr.segs 21 s∧s.l=[K.peerN a]:=by
  obtain ⟨s,c,rfl,k,h⟩:=h
  rw [A4 jQ,A4 (by rintro ⟨x,hx,ho⟩;rw [B0.1 hx] at ho;exact Zgr.2 ha ho)] at h
  obtain ⟨l',hp,hs,h⟩:=h
  obtain rfl:l'=[K.peerN a]:=List.perm_singleton.1 hp
  have hc:Xk [K.peerN a]:=⟨⟨by simp,by simp⟩,fun p hp=>by rw [B0.1 hp];exact ha,List.pairwise_singleton ..,List.pairwise_singleton ..⟩
  rw [A6 hc] at h
  obtain ⟨h1,rfl⟩:=h
  exact ⟨s,rfl,k,h1⟩
theorem Zyg (M:Mem) (a:Option Addr) (c n:Nat) (l:List Int) (hn:n=l.length) (hs:Hp) (ho:OSl 3 1 (.slice a n c) hs (l.map (WC .i64))) (hM:M.dr=0) (hI:K.Digs M l):Fh Tryz.prog 24 [.slice a n c] M hs (fun M' v Hout=>Hout=[]∧K.OfR M' l v):=fun H w hw=>by
  subst hn
  obtain ⟨M1,h1,h2,h3⟩:=ho.frz hw
  exact (K.Of_ok M1 ⟨a,c,l⟩ h3 (h1.loose hM) (hI.mono h1) H w h2).mono fun e w2 ⟨v,M2,g1,g2,g3,g4⟩=>⟨v,M2,[],g1,h1.trans g2,g3,rfl,g4⟩
theorem Zgp {M:Mem} {r:Rg} {v:Value} (h:K.OfR M (XW r) v):∃ (s:Sl Zr) (c:Int),v=.tuple #[s.val,.int .i64 c]∧SlK M Zr.segs 21 s∧((c=0∧Xk (Wr K.peerN r)∧s.l=Wr K.peerN r)∨(c≠0∧¬Xk (Wr K.peerN r))):=by
  obtain ⟨s,c,rfl,k,h⟩:=h
  refine ⟨s,c,rfl,k,?_⟩
  have hp9:=RP ((XW r).map K.peerN)
  split at h
  ·rename_i hl
   refine .inr ⟨by omega,fun hc=>?_⟩
   have h1:=hc.1
   unfold Wr at h1
   rw [hp9.length_eq,A8] at h1
   omega
  ·split at h
   ·rename_i hl ho
    obtain ⟨a,ha,ho⟩:=ho
    refine .inr ⟨by omega,fun hc=>?_⟩
    have:=hc.2.1 (K.peerN a) (hp9.mem_iff.2 (G8 ha))
    exact Zgr.2 this ho
   ·obtain ⟨l',hp,hs,h⟩:=h
    have hs2:l'.Pairwise (fun x y=>¬WY y.id x.id):=hs.imp fun {x y} h9 h8=>h9 (by
     unfold K.lessF
     rw [A4 (fun e=>by subst e;exact Nat.lt_irrefl _ h8),A6 h8]
     decide)
    have hiff:=Zjx hp hs2
    split at h
    ·rename_i hc
     refine .inl ⟨h.2,hiff.1 hc,?_⟩
     rw [h.1]
     exact (GC (hp.trans hp9.symm) hc.2 (PX _)).symm
    ·rename_i hc
     exact .inr ⟨by omega,fun h9=>hc (hiff.2 h9)⟩
theorem Zkh (M:Mem) (self:Zr) (gb mb bb:Nat) (r:Rg) (bx:Nat):Fo Tryz.prog 62 ([self.enc]++[.pointer (some ⟨bx,0,none⟩)]) M ((gb,Yp [.one (.int .i64 r.copies),.one (.map (some mb)),.one (.pointer (some ⟨bb,0,none⟩))] 78)::[(bx,Yp [.one (.pointer (some ⟨gb,0,none⟩))] 24)]) (fun M' v=>NeE M' v (Uk self r.copies)):=by
  obtain ⟨self_addr,self_id⟩:=self
  refine VT Tryz.func62 rfl Tryz.ntmps62 rfl ?_;intro H
  refine S3 ?_
  intro b1
  refine Stp ?_;intro b2
  refine S4 ?_;refine Ya (l:=[0,1,2,3,4,5,6,7,8,9]) #[0,0,2,6,14,31,63,63,255,511] _ rfl jI jI St.drawn (fun _ h=>h) ?_;refine S5 ?_;refine PH (Zaq M ⟨self_addr,self_id⟩ r.copies) ?_
  rintro _ M1 hm1 ⟨⟨⟨⟨YV,Xh⟩,⟨YW,Xi⟩,⟨Xo,Xn,Xm⟩,⟨YZ,YY,YX⟩⟩,Vt,Vp,UO,Vs,Sr,VY,Vu,Vo,WP,Vq,WQ,Vr,⟨WT,WS,WR⟩,UM,UL⟩,rfl,ey,oky⟩
  refine S2 ?_;refine XX F.lay44 ?_;refine S4 ?_;refine ZH fun w hw=>?_
  exact ⟨_,M1,rfl,hm1,hw.c,⟨⟨⟨YV,Xh⟩,⟨YW,Xi⟩,⟨Xo,Xn,Xm⟩,⟨YZ,YY,YX⟩⟩,Vt,Vp,UO,Vs,Sr,VY,Vu,Vo,WP,Vq,WQ,Vr,⟨WT,WS,WR⟩,UM,UL⟩,rfl,ey,oky⟩
theorem Zon (M:Mem) (self:Zr) (gb mb bb:Nat) (r:Rg) (bx by_:Nat) (boot:Int):Fo Tryz.prog 64 ([self.enc]++[.pointer (some ⟨bx,0,none⟩),.pointer (some ⟨by_,0,none⟩)]) M ((gb,Yp [.one (.int .i64 r.copies),.one (.map (some mb)),.one (.pointer (some ⟨bb,0,none⟩))] 78)::[(bx,Yp [.one (.pointer (some ⟨gb,0,none⟩))] 24),(by_,Yp [.one (.int .i64 boot)] 3)]) (fun M' v=>NeE M' v (Ur self r.copies boot)):=by
  obtain ⟨self_addr,self_id⟩:=self
  refine VT Tryz.func64 rfl Tryz.ntmps64 rfl ?_;intro H
  refine S3 ?_
  intro b1
  refine Stp ?_;intro b2
  refine S4 ?_;refine Ya (l:=[0,1,2,3,4,5,6,7,8,9,10]) #[0,0,2,6,14,0,63,127,127,511,1023] _ rfl jI jI St.drawn (fun _ h=>h) ?_;refine S6 ?_;refine PH (Zed M ⟨self_addr,self_id⟩ r.copies boot) ?_
  rintro _ M1 hm1 ⟨⟨⟨⟨YV,Xh⟩,⟨YW,Xi⟩,⟨Xo,Xn,Xm⟩,⟨YZ,YY,YX⟩⟩,Vt,Vp,UO,Vs,Sr,VY,Vu,Vo,WP,Vq,WQ,Vr,⟨WT,WS,WR⟩,UM,UL⟩,rfl,ey,oky⟩
  refine S2 ?_;refine XX F.lay44 ?_;refine S4 ?_;refine ZH fun w hw=>?_
  exact ⟨_,M1,rfl,hm1,hw.c,⟨⟨⟨YV,Xh⟩,⟨YW,Xi⟩,⟨Xo,Xn,Xm⟩,⟨YZ,YY,YX⟩⟩,Vt,Vp,UO,Vs,Sr,VY,Vu,Vo,WP,Vq,WQ,Vr,⟨WT,WS,WR⟩,UM,UL⟩,rfl,ey,oky⟩
theorem Zgz (M:Mem) (addr:Int):Fs Tryz.prog 60 [.int .i64 addr] M (fun v=>v=Value.bool (decide (Yf addr))):=by
  refine Xa Tryz.func60 rfl Tryz.ntmps60 rfl ?_;intro H
  refine S10 ?_
  refine YE 5 (cT fun hc1=>?_) (cF fun hc1=>?_)
  ·refine S7 ?_
   refine ZH fun w hw=>?_
   refine ⟨_,rfl,(hw.c),?_⟩
   refine A9 Value.bool ?_
   exact decide_eq_decide.2 (by unfold Yf;omega)
  ·refine S7 ?_
   refine ZH fun w hw=>?_
   refine ⟨_,rfl,(hw.c),?_⟩
   refine A9 Value.bool ?_
   exact (decide_eq_false (by unfold Yf;omega)).symm
theorem Em (M:Mem) (gb:Nat) (N:Int) (r:Rg) (Hb:Hp) (hR:RingIs gb N r M Hb) (a:Int) (ha:Yf a) (hM:M.dr=0) (hP:PowM M) (fid:FuncId) (caps:List Value) (E:Hp) (X:Nd×Int) (hfid:Ta Tryz.prog fid=true) (hof:∀ (M1:Mem) (mb bb:Nat),M.le M1→Fo Tryz.prog fid ([Zr.enc (K.peerN a)]++caps) M1 ((gb,Yp [.one (.int .i64 r.copies),.one (.map (some mb)),.one (.pointer (some ⟨bb,0,none⟩))] 78)::E) (fun M' v=>NeE M' v X)) (hfew:r.nodes.length<16):Fh Tryz.prog 61 [.pointer (some ⟨gb,0,none⟩),.int .i64 a,.func (.func fid) #[] caps.toArray] M (Hb++E) (fun M' v Hb'=>v=.int .i64 (Tg r a X).2∧RingIs gb N (Tg r a X).1 M' Hb'):=by
  obtain ⟨mb,bb,o,jl,hb,rfl,hbag,hom,hri⟩:=hR
  obtain ⟨⟨YB,p_id⟩,hpn⟩:∃ p,K.peerN a=p:=⟨_,rfl⟩
  rw [hpn] at hof
  refine YI (fun H=>(gb,Yp [.one (.int .i64 r.copies),.one (.map (some mb)),.one (.pointer (some ⟨bb,0,none⟩))] 78)::(mb,o)::(hb++(E++H))) (fun _=>by simp only [B5,B4,B6]) Tryz.func61 rfl Tryz.ntmps61 rfl ?_;intro H
  refine S8 ?_
  refine YK rfl rfl F.elem32 F.zero3 rfl rfl (.cons rfl jG .nil) rfl rfl jK rfl ?_;intro b1 hob2
  refine We (Zyg M _ _ _ [a] rfl _ hob2 hM (GA hP _)) ?_
  rintro _ M1 _ hm1 ⟨rfl,hv⟩
  obtain ⟨⟨p_a,p_c,p_l⟩,rfl,k_p,hp1⟩:=of1 ha hv
  rw [hpn] at hp1
  subst hp1
  have s_p:=k_p.h1
  simp only [Sl.val]
  refine S14 ?_
  refine Xb (eT fun hc3=>?_) (eF fun hc3=>?_)
  ·(exfalso;simp [eqX] at hc3;done)
  ·refine S4 ?_
   refine Zlh (H':=(gb,Yp [.one (.int .i64 r.copies),.one (.map (some mb)),.one (.pointer (some ⟨bb,0,none⟩))] 78)::(E++(mb,o)::(hb++H))) (List.Perm.cons _ (List.perm_append_comm_assoc ((mb,o)::hb) E H)) ?_;refine S4 ?_;refine GN (caps:=caps) rfl rfl rfl hfid rfl rfl (hof M1 mb bb hm1) (Rem.here (hs:=(gb,Yp [.one (.int .i64 r.copies),.one (.map (some mb)),.one (.pointer (some ⟨bb,0,none⟩))] 78)::E) _) (XK rfl) ?_
   rintro _ M2 hm2 ⟨⟨⟨⟨YV,Xh⟩,⟨YW,Xi⟩,⟨Xo,Xn,Xm⟩,⟨YZ,YY,YX⟩⟩,Vt,Vp,UO,Vs,Sr,VY,Vu,Vo,WP,Vq,WQ,Vr,⟨WT,WS,WR⟩,UM,UL⟩,rfl,ey,oky⟩
   refine S4 ?_
   intro b4
   refine XX F.lay44 ?_;refine S10 ?_
   refine Xb (cT fun hc5=>?_) (cF fun hc5=>?_)
   ·refine Um (l:=[0,1,2,3,4,5,6]) (Hin:=[(mb,o)]) #[0,1,3,7,0,0,63] jA rfl jI jI ?_
    refine S6 ?_
    refine Ov (en:=ZM.enc) (v:=⟨⟨⟨YV,Xh⟩,⟨YW,Xi⟩,⟨Xo,Xn,Xm⟩,⟨YZ,YY,YX⟩⟩,Vt,Vp,UO,Vs,Sr,VY,Vu,Vo,WP,Vq,WQ,Vr,⟨WT,WS,WR⟩,UM,UL⟩) rfl rfl rfl rfl rfl ⟨Tryz.underlying3⟩ Tryz.underlying76 hom jB ?_;intro o2 hom2;refine ⟨_,jH,?_⟩
    refine S9 ?_;refine ZH fun w hw=>?_
    have e9:Tg r a X=({ r with nodes:=WM a (ZM.nd ⟨⟨⟨YV,Xh⟩,⟨YW,Xi⟩,⟨Xo,Xn,Xm⟩,⟨YZ,YY,YX⟩⟩,Vt,Vp,UO,Vs,Sr,VY,Vu,Vo,WP,Vq,WQ,Vr,⟨WT,WS,WR⟩,UM,UL⟩) r.nodes },0):=Oz jE ey
    exact ⟨_,M2,((gb,Yp [.one (.int .i64 r.copies),.one (.map (some mb)),.one (.pointer (some ⟨bb,0,none⟩))] 78)::(mb,o2)::hb),rfl,hm1.trans hm2,hw.c,by rw [e9];exact A9 (Value.int .i64) jE,by rw [e9];exact RingIs.intro (r:={ r with nodes:=WM a (ZM.nd ⟨⟨⟨YV,Xh⟩,⟨YW,Xi⟩,⟨Xo,Xn,Xm⟩,⟨YZ,YY,YX⟩⟩,Vt,Vp,UO,Vs,Sr,VY,Vu,Vo,WP,Vq,WQ,Vr,⟨WT,WS,WR⟩,UM,UL⟩) r.nodes }) hbag hom2 ((hri.mono (hm1.trans hm2)).put (n:=⟨⟨⟨YV,Xh⟩,⟨YW,Xi⟩,⟨Xo,Xn,Xm⟩,⟨YZ,YY,YX⟩⟩,Vt,Vp,UO,Vs,Sr,VY,Vu,Vo,WP,Vq,WQ,Vr,⟨WT,WS,WR⟩,UM,UL⟩) oky (.inr hfew))⟩
   ·refine S9 ?_
    refine ZH fun w hw=>?_
    have e9:Tg r a X=_:=KF jE
    exact ⟨_,M2,((gb,Yp [.one (.int .i64 r.copies),.one (.map (some mb)),.one (.pointer (some ⟨bb,0,none⟩))] 78)::(mb,o)::hb),rfl,hm1.trans hm2,hw.c,by rw [e9];rfl,by rw [e9];exact RingIs.intro hbag hom (hri.mono (hm1.trans hm2))⟩
theorem F.ok61:Ta Tryz.prog 61=true:=by kernel_rfl
theorem F.ok62:Ta Tryz.prog 62=true:=by kernel_rfl
theorem F.ok64:Ta Tryz.prog 64=true:=by kernel_rfl
theorem Zkg (M:Mem) (gb:Nat) (N:Int) (r:Rg) (Hb:Hp) (hR:RingIs gb N r M Hb) (a:Int) (hM:M.dr=0) (hP:PowM M):Fh Tryz.prog 28 [.pointer (some ⟨gb,0,none⟩),.int .i64 a] M Hb (fun M' v Hb'=>v=.int .i64 (Td K.peerN r a).2∧RingIs gb N (Td K.peerN r a).1 M' Hb'):=by
  obtain ⟨mb,bb,o,jl,hb,rfl,hbag,hom,hri⟩:=hR
  refine YI (fun H=>(gb,Yp [.one (.int .i64 r.copies),.one (.map (some mb)),.one (.pointer (some ⟨bb,0,none⟩))] 78)::(mb,o)::(hb++H)) (fun _=>by simp only [List.append_assoc,List.cons_append,List.nil_append]) Tryz.func28 rfl Tryz.ntmps28 rfl ?_;intro H
  refine S3 ?_
  intro b1
  refine S8 ?_;refine Vn (Zgz _ _) ?_
  rintro _ rfl
  refine S4 ?_
  refine Xb (eT fun hc2=>?_) (eF fun hc2=>?_)
  ·refine S8 ?_
   refine ZH fun w hw=>?_
   have e9:Td K.peerN r a=_:=DM jE
   exact ⟨_,M,_,rfl,Mem.le.refl M,hw.cnt (H':=((gb,Yp [.one (.int .i64 r.copies),.one (.map (some mb)),.one (.pointer (some ⟨bb,0,none⟩))] 78)::(mb,o)::hb)++H) jF,by rw [e9];rfl,by rw [e9];exact RingIs.intro hbag hom hri⟩
  ·refine S6 ?_
   refine Hz rfl rfl rfl rfl Tryz.underlying76 jB hom rfl ?_;refine S4 ?_
   refine Xb (cT fun hc3=>?_) (cF fun hc3=>?_)
   ·refine S8 ?_
    refine ZH fun w hw=>?_
    have e9:Td K.peerN r a=_:=Hw jE zR
    exact ⟨_,M,_,rfl,Mem.le.refl M,hw.cnt (H':=((gb,Yp [.one (.int .i64 r.copies),.one (.map (some mb)),.one (.pointer (some ⟨bb,0,none⟩))] 78)::(mb,o)::hb)++H) jF,by rw [e9];rfl,by rw [e9];exact RingIs.intro hbag hom hri⟩
   ·refine S4 ?_
    refine Yq (l:=[0,1,2,3,4]) [3] rfl ?_;refine S3 ?_
    have hoa:Yf a:=by first|assumption|(simp_all;done)
    refine DW H rfl rfl rfl F.ok61 rfl (Em M gb N r _ (RingIs.intro (mb:=mb) hbag hom hri) a hoa hM hP 62 [.pointer (some ⟨b1,0,none⟩)] [(b1,Yp [.one (.pointer (some ⟨gb,0,none⟩))] 24)] (Uk (K.peerN a) r.copies) F.ok62 (fun M1 mb bb hm=>Zkh M1 (K.peerN a) gb mb bb r b1) zR) jF (XK rfl) ?_
    rintro v9 M9 hb9 hm9 ⟨hv9,hR9⟩
    refine S2 ?_;refine Xj ?_;refine S2 ?_;refine ZH fun w hw=>?_
    rw [← OU (pn:=K.peerN) hoa zR] at hv9 hR9
    exact ⟨_,M9,hb9,rfl,hm9,hw.c,by rw [hv9];rfl,hR9⟩
theorem Zok (M:Mem) (gb:Nat) (N:Int) (r:Rg) (Hb:Hp) (hR:RingIs gb N r M Hb) (a b:Int) (hM:M.dr=0) (hP:PowM M):Fh Tryz.prog 29 [.pointer (some ⟨gb,0,none⟩),.int .i64 a,.int .i64 b] M Hb (fun M' v Hb'=>v=.int .i64 (Us K.peerN r a b).2∧RingIs gb N (Us K.peerN r a b).1 M' Hb'):=by
  obtain ⟨mb,bb,o,jl,hb,rfl,hbag,hom,hri⟩:=hR
  refine YI (fun H=>(gb,Yp [.one (.int .i64 r.copies),.one (.map (some mb)),.one (.pointer (some ⟨bb,0,none⟩))] 78)::(mb,o)::(hb++H)) (fun _=>by simp only [List.append_assoc,List.cons_append,List.nil_append]) Tryz.func29 rfl Tryz.ntmps29 rfl ?_;intro H
  refine S3 ?_
  intro b1
  refine Stp ?_;intro b2
  refine S10 ?_;refine RS (en:=ZM.enc) (z:=ZM.zero) rfl rfl rfl rfl ⟨Tryz.underlying3⟩ Tryz.underlying76 (show _=some (ZM.enc ZM.zero) from F.zero44) jB hom rfl ?_
  obtain ⟨⟨⟨⟨XT,Ws⟩,⟨XU,Wt⟩,⟨Ww,Wv,Wu⟩,⟨XI,XH,XG⟩⟩,TN,TJ,RW,TM,PR,Sy,TO,TI,UP,TK,UQ,TL,⟨UT,US,UR⟩,RV,RU⟩,hx9⟩:∃ x:ZM,(Wm jl (a)).getD ZM.zero=x:=⟨_,rfl⟩
  rw [hx9]
  refine S4 ?_
  intro b3
  refine XX F.lay44 ?_;refine S4 ?_;refine Ya (l:=[0,1,2,3,4,5,6,7,8,9,10,11]) #[0,1,3,7,0,31,63,127,127,0,767,2047] _ rfl jI jI St.drawn (fun _ h=>h) ?_;refine S5 ?_;refine RS (en:=ZM.enc) (z:=ZM.zero) rfl rfl rfl rfl ⟨Tryz.underlying3⟩ Tryz.underlying76 (show _=some (ZM.enc ZM.zero) from F.zero44) jB hom rfl ?_
  obtain ⟨⟨⟨⟨z_table_self_addr,z_table_self_id⟩,⟨z_table_pred_addr,z_table_pred_id⟩,⟨z_table_succ_a,z_table_succ_c,z_table_succ_l⟩,⟨z_table_fingers_a,z_table_fingers_c,z_table_fingers_l⟩⟩,z_copies,z_joined,z_boot,z_cursor,z_req,z_askTo,z_askReq,z_pingTo,z_pingReq,z_findTo,z_findReq,z_findID,⟨z_avoid_a,z_avoid_c,z_avoid_l⟩,z_hops,z_turn⟩,hz9⟩:∃ x:ZM,(Wm jl (b)).getD ZM.zero=x:=⟨_,rfl⟩
  rw [hz9]
  refine S4 ?_
  intro b4
  refine XX F.lay44 ?_;refine S8 ?_;refine Vn (Zgz _ _) ?_
  rintro _ rfl
  refine S2 ?_
  refine YE 33 (eT fun hc5=>?_) (eF fun hc5=>?_)
  ·refine S21 ?_
   refine ZH fun w hw=>?_
   have e9:Us K.peerN r a b=_:=OJ yK
   exact ⟨_,M,_,rfl,Mem.le.refl M,hw.cnt (H':=((gb,Yp [.one (.int .i64 r.copies),.one (.map (some mb)),.one (.pointer (some ⟨bb,0,none⟩))] 78)::(mb,o)::hb)++H) jF,by rw [e9];rfl,by rw [e9];exact RingIs.intro hbag hom hri⟩
  ·refine Stp ?_
   refine Vn (Zgz _ _) ?_
   rintro _ rfl
   refine S3 ?_
   refine YE 38 (eT fun hc6=>?_) (eF fun hc6=>?_)
   ·refine S16 ?_
    refine ZH fun w hw=>?_
    have e9:Us K.peerN r a b=_:=OJ (by exact .inr (.inl jE))
    exact ⟨_,M,_,rfl,Mem.le.refl M,hw.cnt (H':=((gb,Yp [.one (.int .i64 r.copies),.one (.map (some mb)),.one (.pointer (some ⟨bb,0,none⟩))] 78)::(mb,o)::hb)++H) jF,by rw [e9];rfl,by rw [e9];exact RingIs.intro hbag hom hri⟩
   ·refine S7 ?_
    refine Xb (cT fun hc7=>?_) (cF fun hc7=>?_)
    ·refine S8 ?_
     refine ZH fun w hw=>?_
     have e9:Us K.peerN r a b=_:=OJ (by exact .inr (.inr jE))
     exact ⟨_,M,_,rfl,Mem.le.refl M,hw.cnt (H':=((gb,Yp [.one (.int .i64 r.copies),.one (.map (some mb)),.one (.pointer (some ⟨bb,0,none⟩))] 78)::(mb,o)::hb)++H) jF,by rw [e9];rfl,by rw [e9];exact RingIs.intro hbag hom hri⟩
    ·refine S6 ?_
     refine Xb (fun hc8=>?_) (fun hc8=>?_)
     ·skip
      refine S8 ?_;refine ZH fun w hw=>?_
      have hna:¬(¬Yf a∨¬Yf b∨a=b):=by simp_all
      have hoa:Yf a∧Yf b∧¬a=b:=by by_cases h1:Yf a <;> by_cases h2:Yf b <;> simp_all
      have e9:Us K.peerN r a b=_:=OI hoa (by rw [← hri.isS];assumption)
      exact ⟨_,M,_,rfl,Mem.le.refl M,hw.cnt (H':=((gb,Yp [.one (.int .i64 r.copies),.one (.map (some mb)),.one (.pointer (some ⟨bb,0,none⟩))] 78)::(mb,o)::hb)++H) jF,by rw [e9];rfl,by rw [e9];exact RingIs.intro hbag hom hri⟩
     ·skip
      refine S6 ?_;refine Hz rfl rfl rfl rfl Tryz.underlying76 jB hom rfl ?_;refine S4 ?_
      refine Xb (cT fun hc9=>?_) (cF fun hc9=>?_)
      ·refine S8 ?_
       refine ZH fun w hw=>?_
       have hna:¬(¬Yf a∨¬Yf b∨a=b):=by simp_all
       have hoa:Yf a∧Yf b∧¬a=b:=by by_cases h1:Yf a <;> by_cases h2:Yf b <;> simp_all
       have e9:Us K.peerN r a b=_:=Mj hoa zT zR
       exact ⟨_,M,_,rfl,Mem.le.refl M,hw.cnt (H':=((gb,Yp [.one (.int .i64 r.copies),.one (.map (some mb)),.one (.pointer (some ⟨bb,0,none⟩))] 78)::(mb,o)::hb)++H) jF,by rw [e9];rfl,by rw [e9];exact RingIs.intro hbag hom hri⟩
      ·refine S7 ?_
       refine Xb (fun hc10=>?_) (fun hc10=>?_)
       ·skip
        refine S8 ?_;refine ZH fun w hw=>?_
        have hna:¬(¬Yf a∨¬Yf b∨a=b):=by simp_all
        have hoa:Yf a∧Yf b∧¬a=b:=by by_cases h1:Yf a <;> by_cases h2:Yf b <;> simp_all
        have e9:Us K.peerN r a b=_:=Oi hoa zT zR (by rw [← hri.isS];first|assumption|exact De jE)
        exact ⟨_,M,_,rfl,Mem.le.refl M,hw.cnt (H':=((gb,Yp [.one (.int .i64 r.copies),.one (.map (some mb)),.one (.pointer (some ⟨bb,0,none⟩))] 78)::(mb,o)::hb)++H) jF,by rw [e9];rfl,by rw [e9];exact RingIs.intro hbag hom hri⟩
       ·skip
        refine S4 ?_;refine Yq (l:=[0,1,2,3,4]) [3] rfl ?_;refine S3 ?_
        have hna:¬(¬Yf a∨¬Yf b∨a=b):=by simp_all
        have hoa:Yf a∧Yf b∧¬a=b:=by by_cases h1:Yf a <;> by_cases h2:Yf b <;> simp_all
        refine DW H rfl rfl rfl F.ok61 rfl (Em M gb N r _ (RingIs.intro (mb:=mb) hbag hom hri) a hoa.1 hM hP 64 [.pointer (some ⟨b1,0,none⟩),.pointer (some ⟨b2,0,none⟩)] [(b1,Yp [.one (.pointer (some ⟨gb,0,none⟩))] 24),(b2,Yp [.one (.int .i64 b)] 3)] (Ur (K.peerN a) r.copies b) F.ok64 (fun M1 mb bb hm=>Zon M1 (K.peerN a) gb mb bb r b1 b2 b) zR) jF (XK rfl) ?_
        rintro v9 M9 hb9 hm9 ⟨hv9,hR9⟩
        refine S2 ?_;refine Xj ?_;refine S2 ?_;refine ZH fun w hw=>?_
        rw [← Mi (pn:=K.peerN) hoa zT zR (by rw [← hri.isS];first|assumption|exact Oj jE)] at hv9 hR9
        exact ⟨_,M9,hb9,rfl,hm9,hw.c,by rw [hv9];rfl,hR9⟩
theorem AS (M:Mem) (gb:Nat) (N:Int) (r:Rg) (Hb:Hp) (hR:RingIs gb N r M Hb) (t:XM) (hN:N+2≤1000000000000000):Fh Tryz.prog 30 [.pointer (some ⟨gb,0,none⟩),t.enc] M Hb (fun M' v Hb'=>v=.int .i64 (Ts r t.kind t.a).2∧RingIs gb (N+2) (Ts r t.kind t.a).1 M' Hb'):=by
  obtain ⟨Vd,t_a,t_b⟩:=t
  obtain ⟨mb,bb,o,jl,hb,rfl,hbag,hom,hri⟩:=hR
  refine YI (fun H=>(gb,Yp [.one (.int .i64 r.copies),.one (.map (some mb)),.one (.pointer (some ⟨bb,0,none⟩))] 78)::(mb,o)::(hb++H)) (fun _=>by simp only [List.append_assoc,List.cons_append,List.nil_append]) Tryz.func30 rfl Tryz.ntmps30 rfl ?_;intro H
  refine S3 ?_
  intro b1
  refine S4 ?_;refine Ya (l:=[0,1,2,3,4,5,6,7,8,9,10,11,12]) #[0,1,3,7,0,16,63,127,255,255,0,1535,4095] _ rfl jI jI St.drawn (fun _ h=>h) ?_;refine S6 ?_;refine RS (en:=ZM.enc) (z:=ZM.zero) rfl rfl rfl rfl ⟨Tryz.underlying3⟩ Tryz.underlying76 (show _=some (ZM.enc ZM.zero) from F.zero44) jB hom rfl ?_
  obtain ⟨⟨⟨⟨XT,Ws⟩,⟨XU,Wt⟩,⟨Ww,Wv,Wu⟩,⟨XI,XH,XG⟩⟩,TN,TJ,RW,TM,PR,Sy,TO,TI,UP,TK,UQ,TL,⟨UT,US,UR⟩,RV,RU⟩,hx9⟩:∃ x:ZM,(Wm jl (t_a)).getD ZM.zero=x:=⟨_,rfl⟩
  rw [hx9]
  refine S4 ?_
  intro b2
  refine XX F.lay44 ?_;refine S10 ?_
  refine Xb (fun hc3=>?_) (fun hc3=>?_)
  ·skip
   refine S7 ?_;refine ZH fun w hw=>?_
   have hno:YC t_a r.nodes=none:=hri.none (by exact De jE)
   have e9:Ts r Vd t_a=_:=Mr hno
   exact ⟨_,M,_,rfl,Mem.le.refl M,hw.cnt (H':=((gb,Yp [.one (.int .i64 r.copies),.one (.map (some mb)),.one (.pointer (some ⟨bb,0,none⟩))] 78)::(mb,o)::hb)++H) jF,by rw [e9];rfl,by rw [e9];exact RingIs.intro (hbag.mono jD) hom hri⟩
  ·skip
   refine S21 ?_
   refine Xb (cT fun hc4=>?_) (cF fun hc4=>?_)
   ·refine S5 ?_
    have hsm:=hri.some hx9 (by exact Oj jE)
    refine S2 ?_;refine PH (Zql M ⟨⟨⟨XT,Ws⟩,⟨XU,Wt⟩,⟨Ww,Wv,Wu⟩,⟨XI,XH,XG⟩⟩,TN,TJ,RW,TM,PR,Sy,TO,TI,UP,TK,UQ,TL,⟨UT,US,UR⟩,RV,RU⟩ hsm.2) ?_
    rintro _ M2 hm2 ⟨⟨q_a,q_c,q_l⟩,rfl,sq,kq,oq⟩
    simp only [Sl.val]
    try simp only at sq kq oq
    have hR2:=RingIs.intro (mb:=mb) (N:=N) (g:=gb) hbag hom (hri.mono hm2)
    refine S7 ?_
    have hq9:Kq (QV q_l):=by rw [sq];exact Zfx _
    have hl9:(QV q_l).length≤2:=by rw [sq];exact EU _
    have hl8:(QV q_l).length=q_l.length:=List.length_map ..
    refine Yq (l:=[0,1,2,3,4]) [4] rfl ?_;refine S4 ?_;refine DW ((b1,Yp (XM.segs ⟨Vd,t_a,t_b⟩) 31)::H) rfl rfl rfl F.ok67 rfl (HH M2 gb N _ _ hR2 t_a ⟨q_a,q_c,q_l⟩ kq oq hq9 (by show N+(q_l.length:Int)≤_;omega)) jF (XK rfl) ?_
    rintro _ M5 hb5 hm5 ⟨hM5,rfl,hR5⟩;subst M5
    try simp only at hR5
    have sR:=MO r t_a (QV q_l)
    obtain ⟨mb5,bb5,o5,jl5,hb6,rfl,hbag5,hom5,hri5⟩:=hR5
    have hd5:=hri5.del t_a
    refine Stp ?_;refine Xj ?_;refine S3 ?_;refine Um (l:=[0,1,2,3,4,5,6]) (Hin:=[(mb5,o5)]) #[0,1,3,7,0,16,63] jA rfl jI jI ?_;refine S6 ?_
    refine DX (en:=ZM.enc) rfl rfl rfl rfl rfl ⟨Tryz.underlying3⟩ Tryz.underlying76 hom5 jB ?_;intro o2 hom2;refine ⟨_,jH,?_⟩
    refine S11 ?_;refine ZH fun w hw=>?_
    obtain rfl:Vd=3:=by omega
    have e9:Ts r 3 t_a=_:=IY hsm.1 sq
    rw [sR.2.2] at hd5
    exact ⟨_,M2,((gb,Yp [.one (.int .i64 (Tq r t_a (QV q_l)).copies),.one (.map (some mb5)),.one (.pointer (some ⟨bb5,0,none⟩))] 78)::(mb5,o2)::hb6),rfl,hm2,hw.c,by rw [e9];rfl,by rw [e9];exact RingIs.intro (r:={ Tq r t_a (QV q_l) with nodes:=AY t_a r.nodes }) (hbag5.mono jD) hom2 hd5⟩
   ·refine S3 ?_
    refine Qr jM ?_;refine S4 ?_
    have hsm:=hri.some hx9 (by exact Oj jE)
    refine Um (l:=[0,1,2,3,4,5,6]) (Hin:=[(mb,o)]) #[0,1,3,7,0,16,63] jA rfl jI jI ?_;refine S6 ?_
    refine DX (en:=ZM.enc) rfl rfl rfl rfl rfl ⟨Tryz.underlying3⟩ Tryz.underlying76 hom jB ?_;intro o2 hom2;refine ⟨_,jH,?_⟩
    refine S11 ?_;refine ZH fun w hw=>?_
    have e9:Ts r Vd t_a=_:=IZ hsm.1 jE
    exact ⟨_,M,((gb,Yp [.one (.int .i64 r.copies),.one (.map (some mb)),.one (.pointer (some ⟨bb,0,none⟩))] 78)::(mb,o2)::hb),rfl,Mem.le.refl M,hw.c,by rw [e9];rfl,by rw [e9];exact RingIs.intro (r:={ r with nodes:=AY t_a r.nodes }) (hbag.mono jD) hom2 (hri.del t_a)⟩
theorem LU (M:Mem) (gb:Nat) (N:Int) (r:Rg) (Hb:Hp) (hR:RingIs gb N r M Hb) (t:XM) (hM:M.dr=0) (hP:PowM M) (hN:N+1000000≤1000000000000000):Fh Tryz.prog 10 [.pointer (some ⟨gb,0,none⟩),t.enc] M Hb (fun M' v Hb'=>v=.int .i64 (doR K.peerN r ⟨t.kind,t.a,t.b⟩).2∧RingIs gb (N+1000000) (doR K.peerN r ⟨t.kind,t.a,t.b⟩).1 M' Hb'):=by
  obtain ⟨Vd,t_a,t_b⟩:=t
  refine YI (fun H=>Hb++H) (fun _=>rfl) Tryz.func10 rfl Tryz.ntmps10 rfl ?_;intro H
  refine S3 ?_
  intro b1
  refine S10 ?_
  refine Xb (fun hc2=>?_) (fun hc2=>?_)
  ·skip
   (exfalso;simp [eqX] at hc2;done)
  ·skip
   refine S16 ?_
   refine Xb (cT fun hc3=>?_) (cF fun hc3=>?_)
   ·refine Stp ?_
    refine Xv (l:=[0,1,2,3,4]) (Hin:=Hb) jA rfl ?_;refine S3 ?_;refine We (Zkg M gb N r Hb hR t_a hM hP) ?_
    rintro _ M9 hb9 hm9 ⟨rfl,hR9⟩
    refine S6 ?_;refine ZH fun w hw=>?_
    have e9:doR K.peerN r ⟨Vd,t_a,t_b⟩=_:=do1 (t:=(⟨Vd,t_a,t_b⟩:Trn)) jE
    exact ⟨_,M9,hb9,rfl,hm9,hw.c,by rw [e9];rfl,by rw [e9];exact hR9.mono jD (Mem.le.refl _)⟩
   ·refine S6 ?_
    refine Xb (cT fun hc4=>?_) (cF fun hc4=>?_)
    ·refine Stp ?_
     refine Xv (l:=[0,1,2,3,4,5,6]) (Hin:=Hb) jA rfl ?_;refine S5 ?_;refine We (Zok M gb N r Hb hR t_a t_b hM hP) ?_
     rintro _ M9 hb9 hm9 ⟨rfl,hR9⟩
     refine S6 ?_;refine ZH fun w hw=>?_
     have e9:doR K.peerN r ⟨Vd,t_a,t_b⟩=_:=do2 (t:=(⟨Vd,t_a,t_b⟩:Trn)) jE
     exact ⟨_,M9,hb9,rfl,hm9,hw.c,by rw [e9];rfl,by rw [e9];exact hR9.mono jD (Mem.le.refl _)⟩
    ·refine S7 ?_
     refine Zlz 25 rfl (cT fun hc5=>?_) (cF fun hc5=>?_)
     ·refine S5 ?_
      refine Xv (l:=[0,1,2,3]) (Hin:=Hb) jA rfl ?_;refine S2 ?_;refine We (AS M gb N r Hb hR ⟨Vd,t_a,t_b⟩ jD) ?_
      rintro _ M9 hb9 hm9 ⟨rfl,hR9⟩
      refine S6 ?_;refine ZH fun w hw=>?_
      have e9:doR K.peerN r ⟨Vd,t_a,t_b⟩=_:=Zxi (t:=(⟨Vd,t_a,t_b⟩:Trn)) (by show Vd=3∨Vd=4;omega)
      exact ⟨_,M9,hb9,rfl,hm9,hw.c,by rw [e9];rfl,by rw [e9];exact hR9.mono jD (Mem.le.refl _)⟩
     ·refine S6 ?_
      refine Xb (cT fun hc6=>?_) (cF fun hc6=>?_)
      ·refine Stp ?_
       refine Xv (l:=[0,1,2,3]) (Hin:=Hb) jA rfl ?_;refine S2 ?_;refine We (AS M gb N r Hb hR ⟨Vd,t_a,t_b⟩ jD) ?_
       rintro _ M9 hb9 hm9 ⟨rfl,hR9⟩
       refine S6 ?_;refine ZH fun w hw=>?_
       have e9:doR K.peerN r ⟨Vd,t_a,t_b⟩=_:=Zxi (t:=(⟨Vd,t_a,t_b⟩:Trn)) (by show Vd=3∨Vd=4;omega)
       exact ⟨_,M9,hb9,rfl,hm9,hw.c,by rw [e9];rfl,by rw [e9];exact hR9.mono jD (Mem.le.refl _)⟩
      ·refine S6 ?_
       refine Xb (cT fun hc7=>?_) (cF fun hc7=>?_)
       ·refine Stp ?_
        refine Xv (l:=[0,1,2,3,4,5,6]) (Hin:=Hb) jA rfl ?_;refine S5 ?_;refine We (BV M gb N r Hb hR t_a t_b jD) ?_
        rintro _ M9 hb9 hm9 ⟨rfl,hR9⟩
        refine S6 ?_;refine ZH fun w hw=>?_
        have e9:doR K.peerN r ⟨Vd,t_a,t_b⟩=_:=do5 (t:=(⟨Vd,t_a,t_b⟩:Trn)) jE
        exact ⟨_,M9,hb9,rfl,hm9,hw.c,by rw [e9];rfl,by rw [e9];exact hR9.mono jD (Mem.le.refl _)⟩
       ·refine S6 ?_
        refine Xb (cT fun hc8=>?_) (cF fun hc8=>?_)
        ·refine Stp ?_
         refine Xv (l:=[0,1,2,3,4]) (Hin:=Hb) jA rfl ?_;refine S3 ?_;refine We (JG M gb N r Hb hR t_a jD) ?_
         rintro _ M9 hb9 hm9 ⟨rfl,hR9⟩
         refine S6 ?_;refine ZH fun w hw=>?_
         have e9:doR K.peerN r ⟨Vd,t_a,t_b⟩=_:=do6 (t:=(⟨Vd,t_a,t_b⟩:Trn)) jE
         exact ⟨_,M9,hb9,rfl,hm9,hw.c,by rw [e9];rfl,by rw [e9];exact hR9.mono jD (Mem.le.refl _)⟩
        ·refine S6 ?_
         refine Xb (cT fun hc9=>?_) (cF fun hc9=>?_)
         ·refine Stp ?_
          obtain ⟨mb,bb,o,jl,hb,rfl,hbag,hom,hri⟩:=hR
          simp only [List.cons_append]
          refine Um (l:=[0,1,2,3,4,5,6,7,8,9,10,11,12]) (Hin:=hb) #[0,1,3,7,0,16,63,127,255,255,0,1535,4095] jA rfl jI jI ?_;refine S6 ?_;refine We (B.Take_ok M bb r.most N (r.bag.map Vl) hb t_a hbag) ?_
          rintro _ M1 hb1 hm1 ⟨hM1,rfl,hbag1⟩;subst M1
          obtain ⟨⟨m_frm,m_to,m_body⟩,hm9⟩:∃ m,atM t_a (r.bag.map Vl)=m:=⟨_,rfl⟩
          rw [hm9]
          refine S4 ?_
          intro b10
          refine S13 ?_;refine ZH fun w hw=>?_
          have e9:doR K.peerN r ⟨Vd,t_a,t_b⟩=_:=do7 (t:=(⟨Vd,t_a,t_b⟩:Trn)) jE
          have g9:=Zjr r t_a
          exact ⟨_,M,((gb,Yp [.one (.int .i64 r.copies),.one (.map (some mb)),.one (.pointer (some ⟨bb,0,none⟩))] 78)::(mb,o)::hb1),rfl,Mem.le.refl M,hw.c,by rw [e9];exact congrArg (Value.int .i64) g9.1,by rw [e9];exact RingIs.rebag (by rw [← g9.2.1];exact hbag1.mono jD) hom hri g9.2.2.1 g9.2.2.2⟩
         ·refine S6 ?_
          refine Xb (cT fun hc11=>?_) (cF fun hc11=>?_)
          ·refine Stp ?_
           obtain ⟨mb,bb,o,jl,hb,rfl,hbag,hom,hri⟩:=hR
           simp only [List.cons_append]
           refine Um (l:=[0,1,2,3,4,5,6,7]) (Hin:=hb) #[0,1,3,7,0,16,63,127] jA rfl jI jI ?_;refine S6 ?_;refine We (B.Twice_ok M bb r.most N (r.bag.map Vl) hb t_a jD hbag) ?_
           rintro _ M1 hb1 hm1 ⟨hM1,rfl,hbag1⟩;subst M1
           refine S6 ?_;refine ZH fun w hw=>?_
           have e9:doR K.peerN r ⟨Vd,t_a,t_b⟩=_:=do8 (t:=(⟨Vd,t_a,t_b⟩:Trn)) jE
           have g9:=Zmi t_a hri.mail
           exact ⟨_,M,((gb,Yp [.one (.int .i64 r.copies),.one (.map (some mb)),.one (.pointer (some ⟨bb,0,none⟩))] 78)::(mb,o)::hb1),rfl,Mem.le.refl M,hw.c,by rw [e9];exact congrArg (Value.int .i64) g9.1,by rw [e9];exact RingIs.rebag (by rw [← g9.2.1];exact hbag1.mono jD) hom hri g9.2.2.1 g9.2.2.2⟩
          ·refine S6 ?_
           refine Xb (cT fun hc12=>?_) (cF fun hc12=>?_)
           ·refine Stp ?_
            refine Xv (l:=[0,1]) (Hin:=Hb) jA rfl ?_;refine Stp ?_;refine We (Ew M gb N r Hb hR hN) ?_
            rintro _ M9 hb9 hm9 ⟨rfl,hR9⟩
            refine S10 ?_;refine ZH fun w hw=>?_
            have e9:doR K.peerN r ⟨Vd,t_a,t_b⟩=_:=do9 (t:=(⟨Vd,t_a,t_b⟩:Trn)) jE
            exact ⟨_,M9,hb9,rfl,hm9,hw.c,by rw [e9];rfl,by rw [e9];exact hR9.mono jD (Mem.le.refl _)⟩
           ·refine S9 ?_
            refine ZH fun w hw=>?_
            have e9:doR K.peerN r ⟨Vd,t_a,t_b⟩=_:=do0 (t:=(⟨Vd,t_a,t_b⟩:Trn)) (by show ¬(1≤Vd∧Vd≤9);omega)
            exact ⟨_,M,Hb,rfl,Mem.le.refl M,hw.c,by rw [e9];rfl,by rw [e9];exact hR.mono jD (Mem.le.refl _)⟩
theorem Zqi (M:Mem) (gb:Nat) (N:Int) (r:Rg) (Hb:Hp) (hR:RingIs gb N r M Hb) (a:Int):Fo Tryz.prog 13 [.pointer (some ⟨gb,0,none⟩),.int .i64 a] M Hb (fun M' v=>M'=M∧NodeR M r a v):=by
  obtain ⟨mb,bb,o,jl,hb,rfl,hbag,hom,hri⟩:=hR
  refine Mv (fun H=>(gb,Yp [.one (.int .i64 r.copies),.one (.map (some mb)),.one (.pointer (some ⟨bb,0,none⟩))] 78)::(mb,o)::(hb++H)) (fun _=>by simp only [List.append_assoc,List.cons_append,List.nil_append]) Tryz.func13 rfl Tryz.ntmps13 rfl ?_;intro H
  refine S3 ?_
  intro b1
  refine S10 ?_
  refine Xb (fun hc2=>?_) (fun hc2=>?_)
  ·skip
   (exfalso;simp [eqX] at hc2;done)
  ·skip
   refine S9 ?_;refine RS (en:=ZM.enc) (z:=ZM.zero) rfl rfl rfl rfl ⟨Tryz.underlying3⟩ Tryz.underlying76 (show _=some (ZM.enc ZM.zero) from F.zero44) jB hom rfl ?_
   obtain ⟨⟨⟨⟨XT,Ws⟩,⟨XU,Wt⟩,⟨Ww,Wv,Wu⟩,⟨XI,XH,XG⟩⟩,TN,TJ,RW,TM,PR,Sy,TO,TI,UP,TK,UQ,TL,⟨UT,US,UR⟩,RV,RU⟩,hx9⟩:∃ x:ZM,(Wm jl (a)).getD ZM.zero=x:=⟨_,rfl⟩
   rw [hx9]
   refine S4 ?_
   intro b3
   refine XX F.lay44 ?_;refine S10 ?_
   refine Xb (fun hc4=>?_) (fun hc4=>?_)
   ·skip
    refine S3 ?_;refine XX F.lay44 ?_;refine S5 ?_;refine ZH fun w hw=>?_
    exact ⟨_,M,rfl,Mem.le.refl M,hw.c,rfl,ZM.zero,7,rfl,ZM.zero_ok M,.inr ⟨hri.none (by exact De jE),rfl⟩⟩
   ·skip
    refine S5 ?_;refine XX F.lay44 ?_;refine S4 ?_;refine ZH fun w hw=>?_
    have hsm:=hri.some hx9 (by exact Oj jE)
    exact ⟨_,M,rfl,Mem.le.refl M,hw.c,rfl,⟨⟨⟨XT,Ws⟩,⟨XU,Wt⟩,⟨Ww,Wv,Wu⟩,⟨XI,XH,XG⟩⟩,TN,TJ,RW,TM,PR,Sy,TO,TI,UP,TK,UQ,TL,⟨UT,US,UR⟩,RV,RU⟩,0,rfl,hsm.2,.inl ⟨_,hsm.1,rfl,rfl⟩⟩
theorem Zrw (M:Mem) (a:(Sl Zr)) (b:(Sl Zr)) (ha0:SlK M Zr.segs 21 a) (hb1:SlK M Zr.segs 21 b):Fs Tryz.prog 50 [Sl.val a,Sl.val b] M (fun v=>v=Value.bool (decide (a.l=b.l))):=by
  obtain ⟨a_a,a_c,a_l⟩:=a
  obtain ⟨b_a,b_c,b_l⟩:=b
  have k_a:SlK M Zr.segs 21 ⟨a_a,a_c,a_l⟩:=ha0
  have s_a:SlM M a_a (a_l.map Zr.segs) 21:=k_a.h1
  have n_a:(a_l.map Zr.segs).length=a_l.length:=List.length_map ..
  have m_a:a_l.length≤9223372036854775807:=k_a.h2
  have c_a:a_l.length≤a_c:=k_a.h3
  have k_b:SlK M Zr.segs 21 ⟨b_a,b_c,b_l⟩:=hb1
  have s_b:SlM M b_a (b_l.map Zr.segs) 21:=k_b.h1
  have n_b:(b_l.map Zr.segs).length=b_l.length:=List.length_map ..
  have m_b:b_l.length≤9223372036854775807:=k_b.h2
  have c_b:b_l.length≤b_c:=k_b.h3
  refine Xa Tryz.func50 rfl Tryz.ntmps50 rfl ?_;intro H
  refine S15 ?_
  refine Xb (eT fun hc1=>?_) (eF fun hc1=>?_)
  ·refine S7 ?_
   refine ZH fun w hw=>?_
   refine ⟨_,rfl,(hw.c),?_⟩
   clear hw
   refine congrArg Value.bool ?_
   exact (decide_eq_false (fun h9=>by subst h9;simp_all)).symm
  ·refine S11 ?_
   refine VG [13,12,4,0,1] ?_;refine Un (.succ .zero) (fun (k:Nat) z=>z=[(13,.int .i64 (k:Int))]∧k≤a_l.length∧(∀ j (h2:j<a_l.length) (h3:j<b_l.length),j<k→a_l[j]=b_l[j])) (fun k=>a_l.length-k) (0) (⟨rfl,by omega,by (intro j h2 h3 hj;omega)⟩) ?_
   rintro k _ ⟨rfl,hk,hI⟩
   refine S6 ?_
   refine Xb (cT fun hc2=>?_) (cF fun hc2=>?_)
   ·refine S11 ?_
    refine Ya (l:=[0,1,2,3,4,5,6,7,8]) #[0,0,3,7,0,0,48,112,255] _ rfl jI jI St.drawn (fun _ h=>h) ?_;refine S8 ?_
    refine VW (m:=20) rfl rfl rfl rfl rfl jG jG F.lay38 F.kinds38 rfl F.guard38 (by exact Xr _) (by exact Xr _) rfl rfl rfl ?_;intro c3 he4
    replace he4:c3=true↔¬(Segs.cells _=Segs.cells _):=he4
    obtain rfl:=neD he4 (Zr.inj (x:=⟨_,_⟩) (y:=⟨_,_⟩));clear he4
    refine S2 ?_
    refine Xb (eT fun hc5=>?_) (eF fun hc5=>?_)
    ·simp only [List.get_eq_getElem] at hc5
     refine S11 ?_;refine ZH fun w hw=>?_
     refine ⟨_,rfl,(hw.c),?_⟩
     refine congrArg Value.bool ?_
     exact (decide_eq_false (fun h9=>by subst h9;simp_all)).symm
    ·simp only [Zr.eta,ZK.eta,ZM.eta,ZI.eta,YD.eta,YQ.eta,XM.eta,YT.eta,ZW.eta,XF.eta,Yk.eta] at hc5
     simp only [List.get_eq_getElem] at hc5
     refine S7 ?_;refine VX (a':=[(13,_)]) (k+1) (.cons (k:=13) rfl (.cons (k:=12) rfl (.cons (k:=4) rfl (.cons (k:=0) rfl (.cons (k:=1) rfl (.nil)))))) (fun w hw=>by first|exact hw|exact hw.c) ?_ ?_
     ·refine ⟨rfl,by omega,?_⟩
      (intro j h2 h3 hj;rcases Nat.lt_or_ge j k with h9|h9;exact hI j h2 h3 h9;obtain rfl:j=k:=jD;simp_all)
     ·omega
   ·refine S11 ?_
    refine ZH fun w hw=>?_
    refine ⟨_,rfl,(hw.c),?_⟩
    refine congrArg Value.bool ?_
    exact (decide_eq_true (List.ext_getElem jD (fun j h2 h3=>hI j h2 h3 jD))).symm
theorem Pm (M:Mem) (gb:Nat) (N:Int) (r:Rg) (Hb:Hp) (hR:RingIs gb N r M Hb) (hM:M.dr=0) (hP:PowM M):Fo Tryz.prog 23 [.pointer (some ⟨gb,0,none⟩)] M Hb (fun M' v=>v=.bool (XQ K.peerN r)):=by
  obtain ⟨mb,bb,o,jl,hb,rfl,hbag,hom,hri⟩:=hR
  refine Mv (fun H=>(gb,Yp [.one (.int .i64 r.copies),.one (.map (some mb)),.one (.pointer (some ⟨bb,0,none⟩))] 78)::(mb,o)::(hb++H)) (fun _=>by simp only [List.append_assoc,List.cons_append,List.nil_append]) Tryz.func23 rfl Tryz.ntmps23 rfl ?_;intro H
  refine S8 ?_;refine PG (JU M gb N r _ (RingIs.intro (mb:=mb) hbag hom hri)) ?_
  rintro _ M1 hm1 ⟨⟨l_a,l_c,l_l⟩,rfl,el,k_l⟩
  subst el
  simp only [Sl.val]
  refine PH (K.Of_ok M1 ⟨l_a,l_c,XW r⟩ k_l (hm1.loose hM) (GA (hP.mono hm1) _)) ?_
  rintro _ M2 hm2 hv
  obtain ⟨⟨c_a,c_c,c_l⟩,e2,rfl,k_c,hcc⟩:=Zgp hv
  simp only [Sl.val]
  refine S14 ?_
  refine Xb (eT fun hc1=>?_) (eF fun hc1=>?_)
  ·refine S7 ?_
   refine ZH fun w hw=>?_
   have hno:=(hcc.resolve_left (fun h9=>(by assumption:¬e2=0) h9.1)).2
   exact ⟨_,M2,rfl,hm1.trans hm2,hw.c,by rw [Zco hno];rfl⟩
  ·refine S3 ?_
   obtain ⟨-,hcir,hcl⟩:=hcc.resolve_right (fun h9=>h9.1 jE)
   rw [← hcl] at hcir
   have hset:Re c_l r.copies=(Nb c_l r.copies.toNat,0):=by
    have h9:=LB (r:=r.copies.toNat) hcir (by have:=hri.cop;omega) (by have:=hri.cop;omega)
    rwa [show ((r.copies.toNat:Nat):Int)=r.copies by have:=hri.cop;omega] at h9
   refine S6 ?_;refine PH (Zeb M2 ⟨c_a,c_c,c_l⟩ r.copies k_c) ?_
   rintro _ M3 hm3 hv
   replace hv:Yaj M3 _ (Re c_l r.copies):=hv
   rw [hset] at hv
   obtain ⟨_,rfl,⟨t_a,t_c,t_l⟩,rfl,et,k_t,o_t⟩:=hv
   try simp only at et k_t o_t
   have s_t:=k_t.h1
   try simp only at s_t
   have n_t:(t_l.map ZK.segs).length=t_l.length:=List.length_map ..
   have m_t:t_l.length≤9223372036854775807:=k_t.h2
   simp only [Sl.val]
   refine S16 ?_;refine VG [28,27,26,4,2,0] ?_;refine Un (.succ .zero) (fun (k:Nat) z=>z=[(28,.int .i64 (k:Int))]∧k≤t_l.length∧∀ j (h2:j<t_l.length),j<k→SG r (ZK.tb t_l[j])=true) (fun k=>t_l.length-k) (0) (⟨rfl,by omega,by intro j h2 hj;omega⟩) ?_
   rintro k _ ⟨rfl,hk,hI⟩
   refine S6 ?_
   refine Xb (cT fun hc2=>?_) (cF fun hc2=>?_)
   ·refine S5 ?_
    obtain ⟨⟨⟨u_table_self_addr,u_table_self_id⟩,⟨u_table_pred_addr,u_table_pred_id⟩,⟨u_table_succ_a,u_table_succ_c,u_table_succ_l⟩,⟨u_table_fingers_a,u_table_fingers_c,u_table_fingers_l⟩⟩,hq⟩:∃ t,t_l[k]'jD=t:=⟨_,rfl⟩
    have oku:=o_t _ (List.getElem_mem (show k<t_l.length by omega))
    rw [hq] at oku
    have hk9:(Nb c_l r.copies.toNat)[k]?=some (ZK.tb ⟨⟨u_table_self_addr,u_table_self_id⟩,⟨u_table_pred_addr,u_table_pred_id⟩,⟨u_table_succ_a,u_table_succ_c,u_table_succ_l⟩,⟨u_table_fingers_a,u_table_fingers_c,u_table_fingers_l⟩⟩):=by rw [← et,List.getElem?_map,List.getElem?_eq_getElem (show k<t_l.length by omega),hq];rfl
    refine S3 ?_
    simp only [List.get_eq_getElem,hq]
    refine Stp ?_;intro b3
    refine S4 ?_;refine Ya (l:=[0,1,2,3,4,5,6,7,8,9]) #[0,1,3,7,0,16,48,127,0,511] _ rfl jI jI St.drawn (fun _ h=>h) ?_;refine S7 ?_;refine Zkv (en:=ZM.enc) (z:=ZM.zero) rfl rfl rfl rfl ⟨Tryz.underlying3⟩ Tryz.underlying76 (show _=some (ZM.enc ZM.zero) from F.zero44) jB hom rfl ?_
    obtain ⟨⟨⟨⟨XT,Ws⟩,⟨XU,Wt⟩,⟨Ww,Wv,Wu⟩,⟨XI,XH,XG⟩⟩,TN,TJ,RW,TM,PR,Sy,TO,TI,UP,TK,UQ,TL,⟨UT,US,UR⟩,RV,RU⟩,hx9⟩:∃ x:ZM,(Wm jl u_table_self_addr).getD ZM.zero=x:=⟨_,rfl⟩
    have okx:=(hri.okD hx9).mono ((hm1.trans hm2).trans hm3)
    have hlk:=hri.like (t:=ZK.tb ⟨⟨u_table_self_addr,u_table_self_id⟩,⟨u_table_pred_addr,u_table_pred_id⟩,⟨u_table_succ_a,u_table_succ_c,u_table_succ_l⟩,⟨u_table_fingers_a,u_table_fingers_c,u_table_fingers_l⟩⟩) hx9 rfl
    rw [hx9]
    refine Stp ?_;intro b4
    refine XX F.lay44 ?_;refine S8 ?_
    refine YE 43 (fun hc5=>?_) (fun hc5=>?_)
    ·skip
     refine S39 ?_;refine ZH fun w hw=>?_
     refine ⟨_,M3,rfl,(hm1.trans hm2).trans hm3,hw.c,?_⟩
     rw [Kk hcl.symm hk9 zG];rfl
    ·skip
     refine S5 ?_
     refine VW (m:=20) rfl rfl rfl rfl rfl jG jG F.lay38 F.kinds38 rfl F.guard38 jR jR rfl rfl rfl ?_;intro c6 he7
     replace he7:c6=true↔¬(Segs.cells _=Segs.cells _):=he7
     obtain rfl:=neD he7 (Zr.inj (x:=⟨_,_⟩) (y:=⟨_,_⟩));clear he7
     refine S2 ?_
     refine YE 51 (eT fun hc8=>?_) (eF fun hc8=>?_)
     ·refine S31 ?_
      refine ZH fun w hw=>?_
      refine ⟨_,M3,rfl,(hm1.trans hm2).trans hm3,hw.c,?_⟩
      rw [Kk hcl.symm hk9 zG];rfl
     ·refine S5 ?_
      refine Vn (Zrw _ ⟨Ww,Wv,Wu⟩ ⟨u_table_succ_a,u_table_succ_c,u_table_succ_l⟩ okx.h0.h0 oku.h0) ?_
      rintro _ rfl
      refine S3 ?_
      refine YE 60 (eT fun hc9=>?_) (eF fun hc9=>?_)
      ·refine S22 ?_
       refine ZH fun w hw=>?_
       refine ⟨_,M3,rfl,(hm1.trans hm2).trans hm3,hw.c,?_⟩
       rw [Kk hcl.symm hk9 zG];rfl
      ·refine S5 ?_
       refine Vn (Zrw _ ⟨XI,XH,XG⟩ ⟨u_table_fingers_a,u_table_fingers_c,u_table_fingers_l⟩ okx.h0.h1 oku.h1) ?_
       rintro _ rfl
       refine S4 ?_
       refine Xb (eT fun hc10=>?_) (eF fun hc10=>?_)
       ·refine S11 ?_
        refine ZH fun w hw=>?_
        refine ⟨_,M3,rfl,(hm1.trans hm2).trans hm3,hw.c,?_⟩
        rw [Kk hcl.symm hk9 zG];rfl
       ·refine S7 ?_
        refine VX (a':=[(28,_)]) (k+1) (.cons (k:=28) rfl (.cons (k:=27) rfl (.cons (k:=26) rfl (.cons (k:=4) rfl (.cons (k:=2) rfl (.cons (k:=0) rfl (.nil))))))) (fun w hw=>by first|exact hw|exact hw.c) ?_ ?_
        ·refine ⟨rfl,by omega,fun j h2 hj=>?_⟩
         rcases Nat.lt_or_ge j k with h9|h9
         ·exact hI j h2 h9
         ·obtain rfl:j=k:=by omega
          rw [hq,hlk]
          refine Ki.2 ⟨?_,?_,?_,?_⟩ <;> (show _=_;simp_all [ZM.nd,ZK.tb])
        ·omega
   ·refine S13 ?_
    refine ZH fun w hw=>?_
    obtain rfl:k=t_l.length:=by omega
    refine ⟨_,M3,rfl,(hm1.trans hm2).trans hm3,hw.c,?_⟩
    have hall:∀ j (hj:j<(Nb c_l r.copies.toNat).length),SG r (Nb c_l r.copies.toNat)[j]=true:=by
     rw [← et]
     intro j hj
     rw [List.getElem_map]
     rw [List.length_map] at hj
     exact hI j hj hj
    rw [Dl hcl.symm hcir hall];rfl
theorem HA (M:Mem) (gb:Nat) (N:Int) (r:Rg) (Hb:Hp) (hR:RingIs gb N r M Hb) (mn:Nat) (hM:M.dr=0) (hP:PowM M) (hmn:mn≤1000000) (hN:N+1000000 * (mn:Int)≤1000000000000000):Fh Tryz.prog 22 [.pointer (some ⟨gb,0,none⟩),.int .i64 (mn:Int)] M Hb (fun M' v Hb'=>v=.tuple #[.int .i64 ((VZ K.peerN mn r).1:Int),.bool (XQ K.peerN (VZ K.peerN mn r).2)]∧RingIs gb (N+1000000 * (mn:Int)) (VZ K.peerN mn r).2 M' Hb'):=by
  refine YI (fun H=>Hb++H) (fun _=>rfl) Tryz.func22 rfl Tryz.ntmps22 rfl ?_;intro H
  refine S13 ?_
  refine Xb (fun hc1=>?_) (fun hc1=>?_)
  ·skip
   (exfalso;simp [eqX] at hc1;done)
  ·skip
   refine S9 ?_;refine VG [6,5,4,0,1] ?_;refine XV (Hin:=Hb) (.succ .zero) jA (fun (k:Nat) M1 h1 z=>∃ r1,z=[(6,.int .i64 (k:Int))]∧k≤mn∧RingIs gb (N+1000000 * (k:Int)) r1 M1 h1∧SetEq K.peerN mn k r r1) (fun k=>mn-k) (0) (⟨r,rfl,by omega,by simpa using hR,SetEq.start⟩) ?_
   rintro k M1 h1 z hm1 ⟨r1,rfl,hk,hR1,hs1⟩
   refine S7 ?_
   refine YE 12 (cT fun hc2=>?_) (cF fun hc2=>?_)
   ·refine Stp ?_
    refine PG (Pm M1 gb _ r1 h1 hR1 (hm1.loose hM) (hP.mono hm1)) ?_
    rintro _ M2 hm2 rfl
    have hR2:=hR1.mono (Int.le_refl _) hm2
    refine S4 ?_
    refine Xb (fun hc3=>?_) (fun hc3=>?_)
    ·skip
     refine S4 ?_;refine Xv (l:=[0,1]) (Hin:=h1) jA rfl ?_;refine Stp ?_;refine We (Ew M2 gb _ r1 h1 hR2 jD) ?_
     rintro _ M3 hb3 hm3 ⟨rfl,hR3⟩
     refine S8 ?_;refine YO (a':=[(6,_)]) (k+1) (hb3) (.cons (k:=6) rfl (.cons (k:=5) rfl (.cons (k:=4) rfl (.cons (k:=0) rfl (.cons (k:=1) rfl (.nil)))))) ((hm1.trans hm2).trans hm3) (fun w hw=>by first|exact hw|exact hw.c) ?_ ?_
     ·exact ⟨VI r1,rfl,by omega,by rw [show N+1000000 * ((k+1:Nat):Int)=N+1000000 * (k:Int)+1000000 by omega];exact hR3,hs1.step jD (by (simp_all;done))⟩
     ·omega
    ·skip
     refine S9 ?_;refine PG (Pm M2 gb _ r1 h1 hR2 (Mem.le.loose (hm1.trans hm2) hM) (hP.mono (hm1.trans hm2))) ?_
     rintro _ M4 hm4 rfl
     refine S5 ?_;refine ZH fun w hw=>?_
     have e9:=hs1.ends (.inr (by (simp_all;done)))
     exact ⟨_,M4,h1,rfl,((hm1.trans hm2).trans hm4),hw.c,by rw [e9];rfl,by rw [e9];exact hR2.mono jD hm4⟩
   ·refine S16 ?_
    refine PG (Pm M1 gb _ r1 h1 hR1 (Mem.le.loose hm1 hM) (hP.mono hm1)) ?_
    rintro _ M4 hm4 rfl
    refine S5 ?_;refine ZH fun w hw=>?_
    have e9:=hs1.ends (.inl jD)
    exact ⟨_,M4,h1,rfl,(hm1.trans hm4),hw.c,by rw [e9];rfl,by rw [e9];exact hR1.mono jD hm4⟩
end Go.Proofs.YtglnjnacodgmaaaGreatDoor
set_option maxRecDepth 100000
namespace Go.Esp
open Go.Proofs.YtglnjnacodgmaaaGreatDoor
def pnX (a:Int):Zr:=if a=5 then ⟨5,1008497812533577422566271835113878403913710940131#160⟩ else ⟨7,1097516349978132276175317110044003355850477336030#160⟩
def Yap:Rg:=⟨2,100,[],[]⟩
def Zvu:Rg:=(Td pnX Yap 5).1
def Ae:Rg:=(Us pnX Zvu 7 5).1
def Yaf:Rg:=VI Ae
def Yae:Rg:=VI Yaf
def Zvt:Rg:=VI Yae
theorem pn5:K.peerN 5=pnX 5:=by kernel_rfl
theorem pn7:K.peerN 7=pnX 7:=by kernel_rfl
theorem Zpm {pn pn':Int→Zr} {r:Rg} {a:Int} (h:pn a=pn' a):Td pn r a=Td pn' r a:=by unfold Td;rw [h]
theorem Zth {pn pn':Int→Zr} {r:Rg} {a b:Int} (h:pn a=pn' a):Us pn r a b=Us pn' r a b:=by unfold Us;rw [h]
theorem Yax:doR K.peerN ⟨2,100,[],[]⟩ ⟨1,5,0⟩=(Zvu,0):=by
  rw [do1 (t:=⟨1,5,0⟩) rfl,Zpm (pn':=pnX) pn5]
  exact of_decide_eq_true jI
theorem Yaw:doR K.peerN Zvu ⟨2,7,5⟩=(Ae,0):=by
  rw [do2 (t:=⟨2,7,5⟩) rfl,Zth (pn':=pnX) pn7]
  exact of_decide_eq_true jI
theorem Yav:doR K.peerN Ae ⟨2,9,8⟩=(Ae,7):=by
  have h1:Ae.nodes.length=2:=by kernel_rfl
  rw [do2 (t:=⟨2,9,8⟩) rfl]
  exact Oi jM jI jD jI
theorem Zot {pn pn':Int→Zr} {r:Rg} (h:∀ a∈XW r,pn a=pn' a):XQ pn r=XQ pn' r:=by
  unfold XQ Wr
  rw [List.map_congr_left h]
theorem AM {r:Rg} (h:XW r=[5,7]):XQ K.peerN r=XQ pnX r:=Zot fun a ha=>by
  rw [h] at ha
  have h9:a=5∨a=7:=by simpa using ha
  rcases h9 with rfl|rfl
  · exact pn5
  · exact pn7
theorem Yau:XQ K.peerN Ae=false:=by rw [AM (by kernel_rfl)];kernel_rfl
theorem Yat:XQ K.peerN Yaf=false:=by rw [AM (by kernel_rfl)];kernel_rfl
theorem Yas:XQ K.peerN Yae=false:=by rw [AM (by kernel_rfl)];kernel_rfl
theorem Zra:XW Zvt=[5,7]:=by kernel_rfl
theorem Zzk:XQ K.peerN Zvt=true:=by rw [AM Zra];kernel_rfl
theorem Zsh:VZ K.peerN 20 Ae=(3,Zvt):=by
  have h0:SetEq K.peerN 20 0 Ae Ae:=SetEq.start
  have h1:=h0.step jM Yau
  have h2:=h1.step jM Yat
  have h3:=h2.step jM Yas
  exact h3.ends (.inr Zzk)
end Go.Esp
namespace Go.Proofs.YtglnjnacodgmaaaGreatDoor
open Go.Esp
theorem F.bld31:Bld Tryz.prog 31 [[.one (.int .i64 0)],[.one (.int .i64 0)],[.one (.int .i64 0)]]:=⟨by kernel_rfl,by kernel_rfl⟩
theorem Zqo (M:Mem) (x:Sl Int) (l:List Int) (n c:Nat) (ad:Option Addr) (hs:Hp) (hx:SlK M (WC .i64) 1 x) (hn:n=l.length) (ho:OSl 3 1 (.slice ad n c) hs (l.map (WC .i64))):Fh Tryz.prog 17 [x.val,.slice ad n c] M hs (fun M' v Hout=>Hout=[]∧v=.bool (decide (x.l=l))):=fun H w hw=>by
  subst hn
  obtain ⟨M1,h1,h2,h3⟩:=ho.frz hw
  exact (K.Ints_ok M1 x ⟨ad,c,l⟩ (hx.mono h1) h3 H w h2).mono fun e w2 ⟨v,g1,g2,g3⟩=>⟨v,M1,[],g1,h1,g2,rfl,g3⟩
theorem PZ (M:Mem) (hM:M.dr=0) (hP:PowM M):Esp.Fn Tryz.prog 9 [] M (fun _ v=>v=.bool true):=by
  refine WE Tryz.func9 rfl Tryz.ntmps9 rfl ?_;intro H
  refine S7 ?_;refine We (Zgb M 2 100 ⟨by decide,by decide⟩ ⟨by decide,by decide⟩) ?_
  rintro _ M1 hb1 hm1 ⟨gb,rfl,hR1⟩
  refine S13 ?_
  refine YE 14 (fun hc1=>?_) (fun hc1=>?_)
  ·skip
   (exfalso;simp [eqX] at hc1;done)
  ·skip
   refine S5 ?_
   refine Xb (eT fun hc2=>?_) (eF fun hc2=>?_)
   ·(exfalso;simp [eqX] at hc2;done)
   ·refine S3 ?_
    refine Xv (l:=[0,1,2,3]) (Hin:=hb1) jA rfl ?_;refine Stp ?_;refine XN rfl rfl F.bld31 (.cons rfl jG (.cons rfl jG .nil)) rfl rfl ?_;refine We (LU M1 gb _ ⟨2,100,[],[]⟩ hb1 hR1 ⟨1,5,0⟩ (Mem.le.loose jE hM) (hP.mono jE) jD) ?_
    rintro v9 M2 hb2 hm2 ⟨hv9,hR2⟩
    rw [show doR K.peerN ⟨2,100,[],[]⟩ ⟨1,5,0⟩=(Zvu,0) from Yax] at hv9 hR2
    subst hv9
    refine S4 ?_;refine Xv (l:=[0,1,2,3]) (Hin:=hb2) jA rfl ?_;refine Stp ?_;refine XN rfl rfl F.bld31 (.cons rfl jG (.cons rfl jG (.cons rfl jG .nil))) rfl rfl ?_;refine We (LU M2 gb _ Zvu hb2 hR2 ⟨2,7,5⟩ (Mem.le.loose yB hM) (hP.mono yB) jD) ?_
    rintro v9 M3 hb3 hm3 ⟨hv9,hR3⟩
    rw [show doR K.peerN Zvu ⟨2,7,5⟩=(Ae,0) from Yaw] at hv9 hR3
    subst hv9
    refine S4 ?_;refine Xv (l:=[0,1,2,3]) (Hin:=hb3) jA rfl ?_;refine Stp ?_;refine XN rfl rfl F.bld31 (.cons rfl jG (.cons rfl jG (.cons rfl jG .nil))) rfl rfl ?_;refine We (LU M3 gb _ Ae hb3 hR3 ⟨2,9,8⟩ (Mem.le.loose yB hM) (hP.mono yB) jD) ?_
    rintro v9 M4 hb4 hm4 ⟨hv9,hR4⟩
    rw [show doR K.peerN Ae ⟨2,9,8⟩=(Ae,7) from Yav] at hv9 hR4
    subst hv9
    refine S4 ?_;refine Xv (l:=[0,1,2,3,4,5,6]) (Hin:=hb4) jA rfl ?_;refine Stp ?_;refine We (HA M4 gb _ Ae hb4 hR4 20 (Mem.le.loose yB hM) (hP.mono yB) jM jM) ?_
    rintro v9 M5 hb5 hm5 ⟨hv9,hR5⟩
    rw [Zsh] at hv9 hR5
    rw [show XQ K.peerN (3,Zvt).2=true from Zzk] at hv9
    subst hv9
    refine S12 ?_
    refine YE 34 (cT fun hc3=>?_) (cF fun hc3=>?_)
    ·refine S5 ?_
     refine YE 39 (cT fun hc4=>?_) (cF fun hc4=>?_)
     ·refine S4 ?_
      refine YE 43 (cT fun hc5=>?_) (cF fun hc5=>?_)
      ·refine S3 ?_
       refine YE 46 (fun hc6=>?_) (fun hc6=>?_)
       ·skip
        refine S4 ?_
        refine YE 50 (cT fun hc7=>?_) (cF fun hc7=>?_)
        ·refine Stp ?_
         refine PG (Pm M5 gb _ Zvt hb5 hR5 (Mem.le.loose yB hM) (hP.mono yB)) ?_
         rintro v9 M6 hm6 hv9
         rw [Zzk] at hv9
         subst hv9
         have hR6:=hR5.mono (Int.le_refl _) hm6
         refine S2 ?_
         refine YE 54 (fun hc8=>?_) (fun hc8=>?_)
         ·skip
          refine Stp ?_;refine PG (JU M6 gb _ Zvt hb5 hR6) ?_
          rintro _ M7 hm7 ⟨⟨l_a,l_c,l_l⟩,rfl,el,k_l⟩
          rw [Zra] at el
          subst el
          simp only [Sl.val]
          refine YK rfl rfl F.elem32 F.zero3 rfl rfl (.cons rfl jG (.cons rfl jG .nil)) rfl rfl jK rfl ?_;intro b9 hob10
          refine We (Zqo M7 ⟨l_a,l_c,[5,7]⟩ [5,7] _ _ _ _ k_l rfl hob10) ?_
          rintro v9 M8 hb8 hm8 ⟨rfl,hv9⟩
          rw [decide_eq_true (show ([5,7]:List Int)=[5,7] from rfl)] at hv9
          subst hv9
          refine S5 ?_;refine ZH fun w hw=>?_
          exact ⟨_,_,rfl,(((((((hm1.trans hm2).trans hm3).trans hm4).trans hm5).trans hm6).trans hm7).trans hm8),hw.c,rfl⟩
         ·skip
          (exfalso;simp [eqX] at hc8;done)
        ·(exfalso;omega)
       ·skip
        (exfalso;simp [eqX] at hc6;done)
      ·(exfalso;simp [eqX] at hc5;done)
     ·(exfalso;simp [eqX] at hc4;done)
    ·(exfalso;simp [eqX] at hc3;done)
end Go.Proofs.YtglnjnacodgmaaaGreatDoor
namespace Go.Esp
def Zvo (p:Zr) (s:Snd):Prop:=SP s.letter∧s.letter.frm=p∧Yf s.to∧s.to≠p.addr
def TF (n:Nd) (r:Nd×List Snd):Prop:=Ui r.1∧r.1.table.self=n.table.self∧(∀ s∈r.2,Zvo n.table.self s)∧r.2.length≤1
theorem EM {p:Zr} (h:Yf p.addr):p≠Yj:=fun e=>by
  rw [e] at h
  exact absurd h.1 jM
theorem QG {s:Zr} {a:Int} (h:Yf a) (h1:a≠s.addr):Xe s a:=⟨⟨by have:=h.1;omega,h.2⟩,h1⟩
theorem VP {s:Zr} (h:Yf s.addr):Xe s (-1):=⟨⟨by decide,by decide⟩,fun e=>by have:=h.1;omega⟩
theorem GK {s:Zr} {a:Int} (h:Xe s a) (h1:a≠-1):Yf a:=⟨by have:=h.1.1;omega,h.1.2⟩
theorem MW (t:Tb) (p:Zr):(WO t p).self=t.self:=by
  unfold WO
  split <;> rfl
theorem Ot {n:Nd} {p:Zr} {l:List Zr} (h:Ui n) (ho:Ys n.table.self p):∃ t,XO n p l={ n with table:=t }∧TG t∧t.self=n.table.self∧Yv t=p:=by
  have hc:TG n.table∧Ys n.table.self p∧1≤n.copies∧n.copies≤8:=⟨h.1,ho,h.2.1.1,h.2.1.2⟩
  have h0:(VJ n.table p l n.copies).2=0:=by
    unfold VJ
    rw [A6 hc]
  have h1:=Zba (p:=p) (l:=l) (r:=n.copies) h.1 h0
  refine ⟨(VJ n.table p l n.copies).1,?_,h1.1,?_,h1.2.1⟩
  · unfold XO
    grind
  · unfold VJ
    grind
theorem VM {n:Nd} {t:Tb} (h:Ui n) (ht:TG t) (hs:t.self=n.table.self):Ui { n with table:=t }:=by
  obtain ⟨h1,h2,h3,h4,h5,h6,h7,h8,h9⟩:=h
  refine ⟨ht,h2,h3,h4,h5,h6,h7,?_,h9⟩
  grind
theorem Pu {n:Nd} {p:Zr} {l:List Zr} (h:Ui n):Ui (XO n p l)∧(XO n p l).table.self=n.table.self:=by
  by_cases ho:Ys n.table.self p
  · obtain ⟨t,h1,h2,h3,_⟩:=Ot (l:=l) h ho
    rw [h1]
    exact ⟨VM h h2 h3,h3⟩
  · rw [DR ho]
    grind
theorem Zbp {t:Tb} {k:Int} {p:Zr} (he:(WF t k p).2.2=0):(WF t k p).1.self=t.self:=by
  unfold WF at *
  grind
theorem KD {n:Nd} {p:Zr} (h:Ui n):Ui (WZ n p)∧(WZ n p).table.self=n.table.self:=by
  unfold WZ
  split
  · rename_i h0
    have h1:=Zaz h.1 h0
    have hs:=Zbp h0
    have hw:=VM h h1.1 hs
    obtain ⟨g1,g2,g3,g4,g5,g6,g7,g8,g9⟩:=hw
    exact ⟨⟨g1,g2,g3,⟨h1.2.1,by have:=h1.2.2.1;show (WF n.table n.cursor p).2.1≤159;omega⟩,g5,g6,g7,g8,g9⟩,hs⟩
  · grind
theorem Io {n:Nd} {a:Int} (h:Ui n) (ha:Yf a):Ui (Uf n a)∧(Uf n a).table=n.table∧(Uf n a).boot=n.boot∧(Uf n a).findTo=n.findTo∧(Uf n a).joined=n.joined:=by
  unfold Uf
  split
  · grind
  · rename_i hc
    obtain ⟨g1,g2,g3,g4,g5,g6,g7,g8,g9⟩:=h
    refine ⟨⟨g1,g2,g3,g4,?_,g6,g7,g8,fun x hx=>?_⟩,rfl,rfl,rfl,rfl⟩
    · grind
    · grind
theorem MG {n:Nd} {to9:Int} (h:Ui n) (ht:Yf to9) (hn:to9≠n.table.self.addr):TF n (UY n to9):=by
  obtain ⟨g1,g2,g3,g4,g5,g6,g7,⟨g8,g81,g82,g83⟩,g9⟩:=h
  refine ⟨⟨g1,g2,g3,g4,g5,g6,g7,⟨g8,g81,g82,QG ht hn⟩,g9⟩,rfl,fun s hs=>?_,B9 1⟩
  obtain rfl:=B0.1 hs
  exact ⟨⟨⟨by show (1:Int)≤1;decide,by show (1:Int)≤8;decide⟩,g1.1,g5,C3 _,.inl rfl,fun q=>absurd q.2 (by show ¬(1:Int)=2;decide),.inl (.inl rfl),.inl rfl,.inl rfl,.inr rfl,.inr rfl,.inr rfl,g9,fun p hp=>by cases hp⟩,rfl,ht,hn⟩
theorem IQ {s:Zr}:∀ {xs out:List Zr},(∀ p∈xs,RC s p)→(∀ p∈out,Ys s p)→∀ p∈xs.foldl (Uc s) out,Ys s p
  | [],out,_,h2=>h2
  | q::xs,out,h1,h2=>by
    refine IQ (xs:=xs) (fun p hp=>h1 p (.tail _ hp)) (fun p hp=>?_)
    unfold Uc at hp
    split at hp
    · exact h2 p hp
    · rename_i hc
      have hq:Ys s q:=(h1 q (.head _)).resolve_left (fun e=>hc (.inl (by rw [e];decide)))
      have hm:∀ {l:List Zr} {x:Zr},x∈AG q l→x=q∨x∈l:=by
        intro l
        induction l with
        | nil=>intro x hx;exact .inl (B0.1 hx)
        | cons a l ih =>
          intro x hx
          unfold AG at hx
          split at hx
          · rcases B7.1 hx with rfl|hx
            · exact .inr (.head _)
            · exact (ih hx).imp id (.tail _)
          · exact (B7.1 hx).imp id id
      rcases hm hp with rfl|hp
      · exact hq
      · exact h2 p hp
theorem Qf {t:Tb} (h:TG t):∀ p∈Wy t,Ys t.self p :=
  IQ (fun p hp=>by
    rcases B7.1 hp with rfl|hp
    · exact h.2.1
    · rcases B8.1 hp with hp|hp
      · exact .inr (h.2.2.2.2.1.1 p hp)
      · exact h.2.2.2.2.2 p hp) (fun p hp=>by cases hp)
theorem MU {t:Tb} {id:Plc} {av:List Int} (h:TG t) (hn:(YJ t id av).2=true):Ys t.self (YJ t id av).1 :=
  Qf h _ ((CP (t:=t) (id:=id) (avoid:=av)).yes hn).1
theorem Tl {t:Tb} (h:TG t) (hs:t.succ≠[]):Ys t.self (Yv t):=by
  obtain ⟨a,b,su,f⟩:=t
  match su,h,hs with
  | p::l,h,_=>exact h.2.2.2.2.1.1 p (.head _)
theorem Zjh {t:Tb} (h:TG t):Yf (Yv t).addr:=by
  by_cases hs:t.succ=[]
  · obtain ⟨a,b,su,f⟩:=t
    subst hs
    exact h.1
  · exact (Tl h hs).1
theorem PD {p:Zr} {s:Snd} (h:Zvo p s):∀ x∈[s],Zvo p x:=fun x hx=>by
  obtain rfl:=B0.1 hx
  exact h
theorem Nv {n:Nd} {k req:Int} (hk:k=3∨k=6∨k=7∨(k=5∧req=0)) (h:Yf n.table.self.addr):SP (QC n k req):=by
  have hk8:1≤k∧k≤8:=by omega
  refine ⟨hk8,h,C3 _,C3 _,.inl rfl,fun q=>?_,?_,.inr rfl,.inr rfl,.inr rfl,.inr rfl,.inr rfl,fun a ha=>(by cases ha),fun p hp=>(by cases hp)⟩
  · have:k=2:=q.2
    omega
  · unfold Ue
    show (k=1∨k=2∨k=3∨k=6∨k=7∨k=4)∨req=0
    omega
theorem Wx {n m:Nd} (h:Ui m) (hs:m.table.self=n.table.self):TF n (m,[]):=⟨h,hs,fun s hs=>(by cases hs),C3 _⟩
theorem PW {n m:Nd} {r:Nd×List Snd} (hs:m.table.self=n.table.self) (h:TF m r):TF n r:=⟨h.1,h.2.1.trans hs,fun s hx=>hs ▸ h.2.2.1 s hx,h.2.2.2⟩
theorem TP {n:Nd} {a r q:Int} (h:Ui n) (ha:Xe n.table.self a):Ui { n with req:=q,askTo:=a,askReq:=r }:=by
  obtain ⟨g1,g2,g3,g4,g5,g6,g7,⟨g8,g81,g82,g83⟩,g9⟩:=h
  exact ⟨g1,g2,g3,g4,g5,g6,g7,⟨g8,ha,g82,g83⟩,g9⟩
theorem Zay {n:Nd} (h:Ui n):TF n (UD n):=by
  by_cases hj:n.joined=false
  · unfold UD
    rw [A6 hj]
    have hb:n.boot≠-1:=h.2.2.1.resolve_left zN
    have hbo:Yf n.boot:=GK h.2.2.2.2.2.2.2.1.1 hb
    have hbn:n.boot≠n.table.self.addr:=h.2.2.2.2.2.2.2.1.1.2
    obtain ⟨m,hm,h1,h2,h3⟩:∃ m,m=(if n.findTo≠-1∧n.findTo≠n.boot then Uf n n.findTo else n)∧Ui m∧m.table=n.table∧m.boot=n.boot:=by
      refine ⟨_,rfl,?_⟩
      split
      · rename_i hc
        have:=Io (a:=n.findTo) h (GK h.2.2.2.2.2.2.2.1.2.2.2 hc.1)
        exact ⟨this.1,this.2.1,this.2.2.1⟩
      · exact ⟨h,rfl,rfl⟩
    rw [← hm]
    refine PW (m:={ m with findID:=m.table.self.id,hops:=0 }) (A9 Tb.self h2) (MG ?_ (by rw [h3];exact hbo) (by show m.boot≠m.table.self.addr;rw [h3,h2];exact hbn))
    obtain ⟨g1,g2,g3,g4,g5,g6,g7,g8,g9⟩:=h1
    exact ⟨g1,g2,g3,g4,g5,⟨Int.le_refl 0,by show (0:Int)≤64;decide⟩,g7,g8,g9⟩
  · have hj:n.joined=true:=by simpa using hj
    obtain ⟨m,hm,h1,h2⟩:∃ m,m=(if n.askTo≠-1 then { n with table:=Xd n.table n.askTo,askTo:=-1 } else n)∧Ui m∧m.table.self=n.table.self:=by
      refine ⟨_,rfl,?_⟩
      split
      · have hw:=VM (t:=Xd n.table n.askTo) h (Tf h.1) rfl
        exact ⟨TP (q:=n.req) (r:=n.askReq) hw (VP h.1.1),rfl⟩
      · exact ⟨h,rfl⟩
    obtain ⟨m2,hm2,h3,h4⟩:∃ m2,m2=(if m.table.succ=[]∧m.table.pred≠Yj then XO m m.table.pred [] else m)∧Ui m2∧m2.table.self=n.table.self:=by
      refine ⟨_,rfl,?_⟩
      split
      · have:=Pu (p:=m.table.pred) (l:=[]) h1
        exact ⟨this.1,this.2.trans h2⟩
      · exact ⟨h1,h2⟩
    rw [RY hj hm hm2]
    by_cases hs:m2.table.succ=[]
    · rw [A6 hs];exact Wx h3 h4
    · rw [A4 hs]
      have ho:=Tl h3.1 hs
      refine PW h4 ⟨TP h3 (QG ho.1 ho.2.1),rfl,PD ⟨Nv (.inl rfl) h3.1.1,rfl,ho.1,ho.2.1⟩,B9 1⟩
theorem NQ {n:Nd} {l:List Int} {a:Int} (h:Ui n) (hl:l.length≤16∧∀ x∈l,Yf x) (ha:Xe n.table.self a):Ui { n with avoid:=l,findTo:=a }:=by
  obtain ⟨g1,g2,g3,g4,g5,g6,g7,⟨g8,g81,g82,g83⟩,g9⟩:=h
  exact ⟨g1,g2,g3,g4,hl.1,g6,g7,⟨g8,g81,g82,ha⟩,hl.2⟩
theorem Zfd {n:Nd} (h:Ui n):TF n (JB n):=by
  by_cases hj:n.joined=false
  · rw [Bo hj];exact Wx h rfl
  · have hj:n.joined=true:=by simpa using hj
    obtain ⟨m,hm,h1,h2⟩:∃ m,m=(if n.findTo=-1 then { n with avoid:=[] } else { n with avoid:=Ro n.avoid n.findTo,table:=Xd n.table n.findTo,findTo:=-1 })∧Ui m∧m.table.self=n.table.self:=by
      refine ⟨_,rfl,?_⟩
      split
      · exact ⟨NQ (a:=n.findTo) h ⟨C3 _,fun x hx=>by cases hx⟩ h.2.2.2.2.2.2.2.1.2.2.2,rfl⟩
      · rename_i hf
        have hs:=(Io (a:=n.findTo) h (GK h.2.2.2.2.2.2.2.1.2.2.2 hf)).1
        rw [CA] at hs
        have hw:=VM (t:=Xd n.table n.findTo) hs (Tf h.1) rfl
        exact ⟨NQ (a:=-1) hw ⟨hw.2.2.2.2.1,hw.2.2.2.2.2.2.2.2⟩ (VP h.1.1),rfl⟩
    rw [JA hj hm rfl]
    split
    · have:=KD (p:=(WV m.table (m.table.self.id+To m.cursor.toNat)).1) h1
      exact Wx this.1 (this.2.trans h2)
    · split
      · obtain ⟨g1,g2,g3,g4,g5,g6,g7,g8,g9⟩:=h1
        exact Wx ⟨g1,g2,g3,⟨Int.le_refl 0,by show (0:Int)≤159;decide⟩,g5,g6,g7,g8,g9⟩ h2
      · rename_i hq
        have ho:=MU (id:=m.table.self.id+To m.cursor.toNat) (av:=m.avoid) h1.1 (by simpa using hq)
        refine PW (m:={ m with findID:=m.table.self.id+To m.cursor.toNat,hops:=0 }) h2 (MG ?_ ho.1 ho.2.1)
        obtain ⟨g1,g2,g3,g4,g5,g6,g7,g8,g9⟩:=h1
        exact ⟨g1,g2,g3,g4,g5,⟨Int.le_refl 0,by show (0:Int)≤64;decide⟩,g7,g8,g9⟩
theorem Ks {n:Nd} {a r q t:Int} (h:Ui n) (ha:Xe n.table.self a) (ht:0≤t∧t≤999999):Ui { n with req:=q,pingTo:=a,pingReq:=r,turn:=t }:=by
  obtain ⟨g1,g2,g3,g4,g5,g6,g7,⟨g8,g81,g82,g83⟩,g9⟩:=h
  exact ⟨g1,g2,g3,g4,g5,g6,ht,⟨g8,g81,ha,g83⟩,g9⟩
theorem Cw {n:Nd} (h:Ui n):TF n (UA n):=by
  obtain ⟨m,hm,h1,h2⟩:∃ m,m=(if n.pingTo≠-1 then { n with table:=Xd n.table n.pingTo,pingTo:=-1 } else n)∧Ui m∧m.table.self=n.table.self:=by
    refine ⟨_,rfl,?_⟩
    split
    · have hw:=VM (t:=Xd n.table n.pingTo) h (Tf h.1) rfl
      exact ⟨Ks (q:=n.req) (r:=n.pingReq) (t:=n.turn) hw (VP h.1.1) h.2.2.2.2.2.2.1,rfl⟩
    · exact ⟨h,rfl⟩
  cases hl:Wy m.table with
  | nil=>rw [DF hm hl];exact Wx h1 h2
  | cons p l =>
    have hk:m.turn.toNat % (p::l).length<(p::l).length:=G5 _ (Nat.succ_pos _)
    rw [Hn hm hl hk rfl rfl]
    have ho:=Qf h1.1 ((p::l)[m.turn.toNat % (p::l).length]) (by rw [hl];exact C1 hk)
    refine PW h2 ⟨Ks h1 (QG ho.1 ho.2.1) jD,rfl,PD ⟨Nv (.inr (.inl rfl)) h1.1.1,rfl,ho.1,ho.2.1⟩,B9 1⟩
theorem Zfb {n:Nd} {k:Int} (h:Ui n) (hk:1≤k∧k≤3):∃ r,Vf n k=(r.1,r.2,0)∧TF n r:=by
  refine ⟨_,BU h hk rfl,?_⟩
  split
  · exact Zay h
  · split
    · exact Zfd h
    · exact Cw h
theorem Iq {n:Nd} {l:Lt} (h:Ui n) (hf:Ys n.table.self l.frm):TF n (n,SN n l):=by
  unfold SN
  split
  · exact Wx h rfl
  · refine ⟨h,rfl,PD ⟨?_,rfl,hf.1,hf.2.1⟩,B9 1⟩
    have hp:Yf (if (WV n.table l.id).2 || !(YJ n.table l.id l.avoid).2 then (WV n.table l.id).1 else (YJ n.table l.id l.avoid).1).addr:=by
      split
      · exact Zjh h.1
      · rename_i hc
        have:(YJ n.table l.id l.avoid).2=true:=by simp only [Bool.or_eq_true] at hc;simp at hc;exact hc.2
        exact (MU h.1 this).1
    exact ⟨⟨by show (1:Int)≤2;decide,by show (2:Int)≤8;decide⟩,h.1.1,C3 _,C3 _,.inr hp,fun q=>EM hp q.1,.inl (.inr (.inl rfl)),.inr rfl,.inr rfl,.inl rfl,.inl (.inl rfl),.inr rfl,fun a ha=>(by cases ha),fun p hp=>(by cases hp)⟩
theorem KE {n:Nd} {l:Lt} (h:Ui n):TF n (YF n l):=by
  have hq:Ui { n with findTo:=-1 }:=NQ (l:=n.avoid) (a:=-1) h ⟨h.2.2.2.2.1,h.2.2.2.2.2.2.2.2⟩ (VP h.1.1)
  unfold YF
  split
  · exact Wx h rfl
  split
  · simp only
    split
    · have:=KD (p:=l.peer) hq
      exact Wx this.1 this.2
    split
    · rename_i hc
      have h1:=Pu (p:=l.peer) (l:=[]) hq
      obtain ⟨g1,g2,g3,g4,g5,g6,g7,g8,g9⟩:=h1.1
      exact Wx ⟨g1,g2,.inl rfl,⟨Int.le_refl 0,by show (0:Int)≤159;decide⟩,C3 _,g6,g7,g8,fun x hx=>(by cases hx)⟩ h1.2
    · exact Wx hq rfl
  split
  · exact Wx hq rfl
  · rename_i hc
    have ho:Ys n.table.self l.peer:=C2 fun q=>hc (.inl q)
    refine PW (m:={ n with hops:=n.hops+1 }) rfl (MG ?_ ho.1 ho.2.1)
    obtain ⟨g1,g2,g3,g4,g5,g6,g7,g8,g9⟩:=h
    exact ⟨g1,g2,g3,g4,g5,⟨by show (0:Int)≤n.hops+1;omega,by show n.hops+1≤(64:Int);omega⟩,g7,g8,g9⟩
theorem Zax {n:Nd} {l:Lt} (h:Ui n) (hf:Ys n.table.self l.frm):TF n (Si n l):=by
  by_cases h0:n.askTo≠l.frm.addr∨n.askReq≠l.req
  · rw [Cp h0];exact Wx h rfl
  · have e1:n.askTo=l.frm.addr:=C2 fun q=>h0 (.inl q)
    have e2:n.askReq=l.req:=C2 fun q=>h0 (.inr q)
    have hq:Ui { n with askTo:=-1 }:=TP (q:=n.req) (r:=n.askReq) h (VP h.1.1)
    obtain ⟨t,ht,h1,h2,h3⟩:=Ot (l:=l.peers) hq (show Ys n.table.self l.frm from hf)
    have hm:=VM hq h1 h2
    obtain ⟨m,hmm⟩:∃ m:Nd,{ { n with askTo:=-1 } with table:=t }=m:=⟨_,rfl⟩
    have ht9:m=XO { n with askTo:=-1 } l.frm l.peers:=(ht.trans hmm).symm
    have hmt:m.table=t:=by rw [← hmm]
    rw [show ({ table:=t,copies:=n.copies,joined:=n.joined,boot:=n.boot,cursor:=n.cursor,req:=n.req,askTo:=-1,askReq:=n.askReq,pingTo:=n.pingTo,pingReq:=n.pingReq,findTo:=n.findTo,findReq:=n.findReq,findID:=n.findID,avoid:=n.avoid,hops:=n.hops,turn:=n.turn }:Nd)=m from hmm] at hm
    have hms:m.table.self=n.table.self:=by rw [hmt];exact h2
    by_cases hc:TH m.table l.peer
    · obtain ⟨t2,ht2,k1,k2,k3⟩:=Ot (l:=l.frm::l.peers) hm hc.1
      rw [BS e1 e2 ht9 hc ht2.symm]
      have hm2:=VM hm k1 k2
      have ho:Ys n.table.self l.peer:=hms ▸ hc.1
      refine ⟨hm2,k2.trans hms,PD ⟨?_,k2.trans hms,?_,?_⟩,B9 1⟩
      · exact Nv (.inr (.inr (.inr ⟨rfl,rfl⟩))) (by show Yf t2.self.addr;rw [k2];exact hm.1.1)
      · show Yf (Yv t2).addr;rw [k3];exact ho.1
      · show (Yv t2).addr≠_;rw [k3];exact ho.2.1
    · rw [BT e1 e2 ht9 hc]
      refine ⟨hm,hms,PD ⟨?_,hms,?_,?_⟩,B9 1⟩
      · exact Nv (.inr (.inr (.inr ⟨rfl,rfl⟩))) hm.1.1
      · show Yf (Yv m.table).addr;rw [hmt,h3];exact hf.1
      · show (Yv m.table).addr≠_;rw [hmt,h3];exact hf.2.1
theorem Ek {n:Nd} {l:Lt} (h:Ui n):TF n (If n l,[]):=by
  have ht:TG (Ie n l)∧(Ie n l).self=n.table.self:=by
    unfold Ie
    split
    · exact ⟨Ip (Tf h.1),MW _ _⟩
    · exact ⟨Tf h.1,rfl⟩
  have hw:=VM h ht.1 ht.2
  obtain ⟨m,hm⟩:∃ m:Nd,m={ n with table:=Ie n l }:=⟨_,rfl⟩
  rw [← hm] at hw
  have hs:m.table.self=n.table.self:=by rw [hm];exact ht.2
  by_cases h1:(Yv n.table).addr=l.frm.addr
  · by_cases h2:0<l.peers.length
    · rw [GE hm h1 h2]
      have:=Pu (p:=l.peers[0]) (l:=l.peers.drop 1) hw
      exact Wx this.1 (this.2.trans hs)
    · rw [Ht hm (fun _ q=>absurd q h2)]
      exact Wx hw hs
  · rw [Ht hm (fun q=>absurd q h1)]
    exact Wx hw hs
theorem Zfe {n:Nd} {l:Lt} (h:Ui n) (hl:SP l) (hf:Ys n.table.self l.frm):TF n (Wl n l):=by
  have hk:=hl.1
  have h8:l.kind=1∨l.kind=2∨l.kind=3∨l.kind=4∨l.kind=5∨l.kind=6∨l.kind=7∨l.kind=8:=by omega
  rcases h8 with k|k|k|k|k|k|k|k
  · rw [Zjt k];exact Iq h hf
  · rw [Gz k];exact KE h
  · cases hj:n.joined with
    | false=>rw [Zri k hj];exact Wx h rfl
    | true =>
      rw [Zrh k hj]
      refine ⟨h,rfl,PD ⟨?_,rfl,hf.1,hf.2.1⟩,B9 1⟩
      refine ⟨⟨by show (1:Int)≤4;decide,by show (4:Int)≤8;decide⟩,h.1.1,C3 _,h.1.2.2.1,h.1.2.1.imp id (fun q=>q.1),fun q=>absurd q.2 (by show ¬(4:Int)=2;decide),.inl (.inr (.inr (.inr (.inr (.inr rfl))))),.inr rfl,.inr rfl,.inr rfl,.inl (.inr (.inl rfl)),.inl (.inl rfl),fun a ha=>(by cases ha),fun p hp=>(h.1.2.2.2.2.1.1 p hp).1⟩
  · rw [Zjs k];exact Zax h hf
  · rw [Zxg k rfl];exact Wx (VM h (Ip h.1) (MW _ _)) (MW _ _)
  · rw [Zxf k];exact ⟨h,rfl,PD ⟨Nv (.inr (.inr (.inl rfl))) h.1.1,rfl,hf.1,hf.2.1⟩,B9 1⟩
  · rw [Ztx k]
    split
    · exact Wx (Ks (q:=n.req) (r:=n.pingReq) (t:=n.turn) h (VP h.1.1) h.2.2.2.2.2.2.1) rfl
    · exact Wx h rfl
  · rw [Bp k];exact Ek h
theorem Zfc {n:Nd} {l:Lt} (h:Ui n) (hl:SP l):∃ r,WI n l=(r.1,r.2,0)∧TF n r:=by
  by_cases hf:Ys n.table.self l.frm
  · exact ⟨_,Ej h hl hf,Zfe h hl hf⟩
  · exact ⟨(n,[]),BY h hl hf,Wx h rfl⟩
theorem Pt {n:Nd} {k:Int} {r:Nd×List Snd×Int} (h:Ui n) (hr:Vf n k=r):(r.2.2=0↔1≤k∧k≤3)∧(r.2.2=0→TF n (r.1,r.2.1)):=by
  subst hr
  by_cases hk:1≤k∧k≤3
  · obtain ⟨r,h1,h2⟩:=Zfb h hk
    grind
  · rw [Nn (fun q=>hk q.2)]
    grind
theorem BZ {n:Nd} {l:Lt} {r:Nd×List Snd×Int} (h:Ui n) (hr:WI n l=r):(r.2.2=0↔SP l)∧(r.2.2=0→TF n (r.1,r.2.1)):=by
  subst hr
  by_cases hl:SP l
  · obtain ⟨r,h1,h2⟩:=Zfc h hl
    grind
  · rw [UW (fun q=>hl q.2)]
    grind
end Go.Esp
namespace Go.Esp
section
variable {G:Zr→Prop}
def GoodT (G:Zr→Prop) (t:Tb):Prop:=G t.self∧(t.pred≠Yj→G t.pred)∧(∀ p∈t.succ,G p)∧∀ p∈t.fingers,p≠Yj→G p
def GoodL (G:Zr→Prop) (l:Lt):Prop:=G l.frm∧(l.peer≠Yj→G l.peer)∧∀ p∈l.peers,G p
def GX (G:Zr→Prop) (L:List Snd):Prop:=∀ s∈L,GoodL G s.letter
def Qs (G:Zr→Prop) (x:Nd×List Snd):Prop:=GoodT G x.1.table∧GX G x.2
theorem GoodT.mono {G':Zr→Prop} {t:Tb} (h:GoodT G t) (hg:∀ p,G p→G' p):GoodT G' t:=⟨hg _ h.1,fun hp=>hg _ (h.2.1 hp),fun p hp=>hg _ (h.2.2.1 p hp),fun p hp hn=>hg _ (h.2.2.2 p hp hn)⟩
theorem GoodL.mono {G':Zr→Prop} {l:Lt} (h:GoodL G l) (hg:∀ p,G p→G' p):GoodL G' l:=⟨hg _ h.1,fun hp=>hg _ (h.2.1 hp),fun p hp=>hg _ (h.2.2 p hp)⟩
theorem QA {s p:Zr} (h:Ys s p):p≠Yj:=EM h.1
theorem Vj:GX G []:=fun s hs=>by cases hs
theorem Qh {s:Snd} (h:GoodL G s.letter):GX G [s]:=fun x hx=>by rw [B0.1 hx];exact h
theorem Tc {c:Prop} [Decidable c] {a b:Nd×List Snd} (ha:c→Qs G a) (hb:¬c→Qs G b):Qs G (if c then a else b):=by
  grind
theorem Tz {t:Tb} (h:GoodT G t):G (Yv t):=by
  unfold Yv
  cases ht:t.succ with
  | nil=>exact h.1
  | cons p l=>exact h.2.2.1 p (by rw [ht];exact B1)
theorem Lu {s:Zr} {r:Int}:∀ {rest acc:List Zr} {p:Zr},p∈Wk s r acc rest→p∈acc∨p∈rest
  | [],acc,p,h=>.inl h
  | q::rest,acc,p,h=>by
    unfold Wk at h
    split at h
    · exact .inl h
    · split at h
      · rcases Lu h with h|h
        · exact .inl h
        · exact .inr (B2 _ h)
      · rcases Lu h with h|h
        · rcases B8.1 h with h|h
          · exact .inl h
          · rw [B0.1 h];exact .inr B1
        · exact .inr (B2 _ h)
theorem TV {n:Nd} {p:Zr} {l:List Zr} (h:GoodT G n.table) (hp:G p) (hl:∀ q∈l,G q):GoodT G (XO n p l).table:=by
  unfold XO VJ
  by_cases hc:TG n.table∧Ys n.table.self p∧1≤n.copies∧n.copies≤8
  · rw [A6 hc,A6 rfl]
    refine ⟨h.1,h.2.1,fun q hq=>?_,h.2.2.2⟩
    rcases Lu hq with hq|hq
    · grind
    · exact hl q hq
  · grind
theorem Lc {t:Tb} {p:Zr} (h:GoodT G t) (hp:p≠Yj→G p):GoodT G (WO t p):=by
  unfold WO
  split
  · rename_i hc
    exact ⟨h.1,hp,h.2.2.1,h.2.2.2⟩
  · exact h
theorem Tk {t:Tb} {a:Int} (h:GoodT G t):GoodT G (Xd t a):=by
  refine ⟨h.1,fun hp=>?_,fun q hq=>h.2.2.1 q (F6.1 hq).1,fun q hq hn=>?_⟩
  · show G (if t.pred.addr=a then Yj else t.pred)
    have hp2:(if t.pred.addr=a then Yj else t.pred)≠Yj:=hp
    split
    · grind
    · rename_i e;rw [A4 e] at hp2;exact h.2.1 hp2
  · obtain ⟨x,hx,rfl⟩:=C0.1 hq
    by_cases e:x.addr=a
    · grind
    · rw [A4 e] at hn ⊢;exact h.2.2.2 x hx hn
theorem SY {n:Nd} {p:Zr} (h:GoodT G n.table) (hp:p≠Yj→G p):GoodT G (WZ n p).table:=by
  unfold WZ WF
  by_cases hc:TG n.table∧(0≤n.cursor∧n.cursor<160)∧(p=n.table.self∨Ys n.table.self p)
  · rw [A6 hc,A6 rfl]
    refine ⟨h.1,h.2.1,h.2.2.1,fun q hq hn=>?_⟩
    simp only [B8] at hq
    rcases hq with (hq|hq)|hq
    · exact h.2.2.2 q (F9 hq) hn
    · have:=(List.mem_replicate.1 hq).2
      subst this
      unfold Tt at hn ⊢
      grind
    · exact h.2.2.2 q (List.mem_of_mem_drop hq) hn
  · grind
theorem Mk {p q:Zr}:∀ {l:List Zr},q∈AG p l↔q=p∨q∈l
  | []=>by simp [AG]
  | x::l=>by
    unfold AG
    split
    · rw [B7,Mk (l:=l),B7]
      constructor
      · rintro (h|h|h)
        · exact .inr (.inl h)
        · exact .inl h
        · exact .inr (.inr h)
      · rintro (h|h|h)
        · exact .inr (.inl h)
        · exact .inl h
        · exact .inr (.inr h)
    · simp
theorem IT {s:Zr} {q:Zr}:∀ {xs out:List Zr},q∈xs.foldl (Uc s) out→q∈out∨(q∈xs∧0≤q.addr)
  | [],out,h=>.inl h
  | x::xs,out,h=>by
    rcases IT (xs:=xs) h with h|h
    · unfold Uc at h
      split at h
      · exact .inl h
      · rename_i hc
        rcases Mk.1 h with rfl|h
        · exact .inr ⟨B1,by
            have:¬q.addr<0:=fun h9=>hc (.inl h9)
            omega⟩
        · exact .inl h
    · exact .inr ⟨B2 _ h.1,h.2⟩
theorem Pd {t:Tb} (h:GoodT G t):∀ p∈Wy t,G p:=by
  intro p hp
  rcases IT hp with hp|⟨hp,h0⟩
  · cases hp
  · have hn:p≠Yj:=fun e=>by subst e;exact absurd h0 jM
    rcases B7.1 hp with rfl|hp
    · exact h.2.1 hn
    · rcases B8.1 hp with hp|hp
      · exact h.2.2.1 p hp
      · exact h.2.2.2 p hp hn
theorem Av {s:Zr} {id:Plc} {av:List Int}:∀ {xs:List Zr} {b:Zr×Bool},(xs.foldl (Vb s id av) b)=b∨(xs.foldl (Vb s id av) b).1∈xs
  | [],b=>.inl rfl
  | x::xs,b=>by
    have h:=Av (s:=s) (id:=id) (av:=av) (xs:=xs) (b:=Vb s id av b x)
    rw [G6]
    rcases h with h|h
    · rw [h]
      unfold Vb
      split
      · exact .inl rfl
      · split
        · exact .inr B1
        · exact .inl rfl
    · exact .inr (B2 _ h)
theorem Dm {t:Tb} {id:Plc} {av:List Int} (h:GoodT G t) (hn:(YJ t id av).2=true):G (YJ t id av).1:=by
  rcases Av (s:=t.self) (id:=id) (av:=av) (xs:=Wy t) (b:=(Yj,false)) with h1|h1
  · have:(YJ t id av).2=false:=by
      show ((Wy t).foldl (Vb t.self id av) (Yj,false)).2=false
      rw [h1]
    grind
  · exact Pd h _ h1
theorem Ju {n:Nd} {to9:Int} (h:GoodT G n.table):Qs G (UY n to9):=⟨h,Qh ⟨h.1,fun e=>absurd rfl e,fun p hp=>(by cases hp)⟩⟩
theorem Mp {n:Nd} {k q:Int} (h:GoodT G n.table):GoodL G (QC n k q):=⟨h.1,fun e=>absurd rfl e,fun p hp=>(by cases hp)⟩
theorem Mo {n:Nd} (h:GoodT G n.table):Qs G (UD n):=by
  refine Tc (fun hj=>?_) (fun hj=>?_)
  · refine Ju ?_
    split
    · unfold Uf;split <;> exact h
    · exact h
  · have h1:GoodT G (if n.askTo≠-1 then { n with table:=Xd n.table n.askTo,askTo:=-1 } else n).table:=by
      split
      · exact Tk h
      · exact h
    revert h1
    generalize (if n.askTo≠-1 then { n with table:=Xd n.table n.askTo,askTo:=-1 } else n)=m
    intro h1
    have h2:GoodT G (if m.table.succ=[]∧m.table.pred≠Yj then XO m m.table.pred [] else m).table:=by
      split
      · rename_i hc;exact TV h1 (h1.2.1 hc.2) (fun q hq=>by cases hq)
      · exact h1
    revert h2
    dsimp only
    intro h2
    refine Tc (fun _=>⟨h2,Vj⟩) (fun _=>⟨h2,Qh (Mp h2)⟩)
theorem Gk {n:Nd} (h:GoodT G n.table):Qs G (JB n):=by
  refine Tc (fun hj=>⟨h,Vj⟩) (fun hj=>?_)
  have h1:GoodT G (if n.findTo=-1 then { n with avoid:=[] } else { Uf n n.findTo with table:=Xd n.table n.findTo,findTo:=-1 }).table:=by
    split
    · exact h
    · exact Tk h
  revert h1
  intro h1
  refine Tc (fun _=>⟨SY h1 (fun _=>Tz h1),Vj⟩) (fun _=>Tc (fun _=>⟨h1,Vj⟩) (fun _=>Ju h1))
theorem IX {n:Nd} (h:GoodT G n.table):Qs G (UA n):=by
  unfold UA
  have h1:GoodT G (if n.pingTo≠-1 then { n with table:=Xd n.table n.pingTo,pingTo:=-1 } else n).table:=by
    split
    · exact Tk h
    · exact h
  revert h1
  generalize (if n.pingTo≠-1 then { n with table:=Xd n.table n.pingTo,pingTo:=-1 } else n)=m
  intro h1
  dsimp only
  cases Wy m.table with
  | nil=>exact ⟨h1,Vj⟩
  | cons p l=>exact ⟨h1,Qh (Mp h1)⟩
theorem Zio {n:Nd} {k:Int} (h:GoodT G n.table) (h0:(Vf n k).2.2=0):GoodT G (Vf n k).1.table∧GX G (Vf n k).2.1:=by
  unfold Vf at *
  split
  · exact Tc (fun _=>Mo h) (fun _=>Tc (fun _=>Gk h) (fun _=>IX h))
  · grind
theorem Mq {n:Nd} {l:Lt} (h:GoodT G n.table):GX G (SN n l):=by
  unfold SN
  split
  · exact Vj
  · refine Qh ⟨h.1,fun _=>?_,fun p hp=>(by cases hp)⟩
    split
    · exact Tz h
    · rename_i hc
      refine Dm h ?_
      grind
theorem Ld {n:Nd} {l:Lt} (h:GoodT G n.table) (hl:GoodL G l):Qs G (YF n l):=by
  refine Tc (fun _=>⟨h,Vj⟩) (fun _=>Tc (fun _=>?_) (fun _=>Tc (fun _=>⟨h,Vj⟩) (fun _=>Ju h)))
  refine Tc (fun hc=>⟨SY (n:={ n with findTo:=-1 }) h hl.2.1,Vj⟩) (fun _=>Tc (fun hc=>⟨?_,Vj⟩) (fun _=>⟨h,Vj⟩))
  exact TV (n:={ n with findTo:=-1 }) h (hl.2.1 (QA hc.2)) (fun q hq=>by cases hq)
theorem Zin {n:Nd} {l:Lt} (h:GoodT G n.table) (hl:GoodL G l):Qs G (Si n l):=by
  refine Tc (fun _=>⟨h,Vj⟩) (fun _=>?_)
  have h1:GoodT G (XO { n with askTo:=-1 } l.frm l.peers).table:=TV (n:={ n with askTo:=-1 }) h hl.1 hl.2.2
  revert h1
  generalize XO { n with askTo:=-1 } l.frm l.peers=m
  intro h1
  have h2:GoodT G (if TH m.table l.peer then XO m l.peer (l.frm::l.peers) else m).table:=by
    split
    · rename_i hc
      refine TV h1 (hl.2.1 (QA hc.1)) (fun q hq=>?_)
      rcases B7.1 hq with rfl|hq
      · exact hl.1
      · exact hl.2.2 q hq
    · exact h1
  revert h2
  dsimp only
  intro h2
  exact ⟨h2,Qh (Mp h2)⟩
theorem Gl {n:Nd} {l:Lt} (h:GoodT G n.table) (hl:GoodL G l):GoodT G (If n l).table:=by
  unfold If
  have h1:GoodT G (if n.table.pred.addr=l.frm.addr then WO (Xd n.table l.frm.addr) l.peer else Xd n.table l.frm.addr):=by
    split
    · exact Lc (Tk h) hl.2.1
    · exact Tk h
  revert h1
  dsimp only
  generalize (if n.table.pred.addr=l.frm.addr then WO (Xd n.table l.frm.addr) l.peer else Xd n.table l.frm.addr)=t
  intro h1
  cases hp:l.peers with
  | nil=>exact h1
  | cons p ps =>
    dsimp only
    split
    · exact TV (n:={ n with table:=t }) h1 (hl.2.2 p (by rw [hp];exact B1)) (fun q hq=>hl.2.2 q (by rw [hp];exact B2 _ hq))
    · exact h1
theorem Zip {n:Nd} {l:Lt} (h:GoodT G n.table) (hl:GoodL G l) (h0:(WI n l).2.2=0):GoodT G (WI n l).1.table∧GX G (WI n l).2.1:=by
  unfold WI at *
  by_cases hc:Ui n∧SP l
  · rw [A6 hc]
    split
    · exact ⟨h,Vj⟩
    split
    · exact ⟨h,Mq h⟩
    split
    · exact Ld h hl
    split
    · refine ⟨h,?_⟩
      split
      · exact Qh ⟨h.1,h.2.1,h.2.2.1⟩
      · exact Vj
    split
    · exact Zin h hl
    split
    · exact ⟨Lc h (fun _=>hl.1),Vj⟩
    split
    · exact ⟨h,Qh (Mp h)⟩
    split
    · refine ⟨?_,Vj⟩
      grind
    · exact ⟨Gl h hl,Vj⟩
  · grind
theorem Lb {n:Nd} (h:GoodT G n.table):GX G (Sq n).1:=by
  unfold Sq
  split
  · intro s hs
    have key:GoodL G { QC n 8 0 with peer:=n.table.pred,peers:=n.table.succ }:=⟨h.1,h.2.1,h.2.2.1⟩
    grind
  · exact Vj
end
structure WellR (pn:Int→Zr) (G:Zr→Prop) (r:Rg):Prop where
  nd:∀ p∈r.nodes,Ui p.2∧p.2.table.self=pn p.1∧GoodT G p.2.table
  ml:∀ m∈r.bag,GoodL G m.lt
section
variable {pn:Int→Zr} {G:Zr→Prop}
theorem LQ {most frm:Int}:∀ {l:List Snd} {b:List Ml},(∀ x∈b,GoodL G x.lt)→GX G l→∀ x∈GG most frm b l,GoodL G x.lt
  | [],_,hb,_=>hb
  | s::l,b,hb,hl=>by
    refine LQ (l:=l) (b:=TY most b ⟨frm,s.to,s.letter⟩) (fun x hx=>?_) fun x hx=>hl x (B2 _ hx)
    unfold TY at hx
    split at hx
    · rcases B8.1 hx with hx|hx
      · exact hb x hx
      · rw [B0.1 hx];exact hl s B1
    · exact hb x hx
theorem WellR.send {r:Rg} (h:WellR pn G r) {frm:Int} {l:List Snd} (hl:GX G l):WellR pn G (Tq r frm l):=by
  rw [NX]
  exact ⟨h.nd,LQ h.ml hl⟩
theorem Ma {α:Type} {a:Int} {x:α} {p:Int×α}:∀ {l:List (Int×α)},p∈WM a x l→p=(a,x)∨p∈l
  | [],h=>.inl (by simpa [WM] using h)
  | (c,y)::l,h=>by
    unfold WM at h
    split at h
    · rcases B7.1 h with h|h
      · exact .inl h
      · exact .inr h
    · split at h
      · rcases B7.1 h with h|h
        · exact .inl h
        · exact .inr (B2 _ h)
      · rcases B7.1 h with h|h
        · exact .inr (by rw [h];exact B1)
        · rcases Ma h with h|h
          · exact .inl h
          · exact .inr (B2 _ h)
theorem WellR.put {r:Rg} (h:WellR pn G r) {a:Int} {n:Nd} (h1:Ui n) (h2:n.table.self=pn a) (h3:GoodT G n.table):WellR pn G { r with nodes:=WM a n r.nodes } :=
  ⟨fun p hp=>by
    rcases Ma hp with rfl|hp
    · exact ⟨h1,h2,h3⟩
    · exact h.nd p hp,h.ml⟩
theorem WellR.bag {r:Rg} (h:WellR pn G r) {b:List Ml} (hb:∀ m∈b,m∈r.bag):WellR pn G { r with bag:=b }:=⟨h.nd,fun m hm=>h.ml m (hb m hm)⟩
theorem WellR.deliver {r:Rg} (h:WellR pn G r) (i:Int):WellR pn G (XL r i).1:=by
  by_cases hi:0≤i∧i<r.bag.length
  · obtain ⟨k,rfl⟩:∃ k:Nat,i=k:=⟨i.toNat,by omega⟩
    have hk:k<r.bag.length:=by omega
    have hb:=h.bag (b:=r.bag.eraseIdx k) fun m hm=>List.mem_of_mem_eraseIdx hm
    cases hg:YC (r.bag[k]).zto r.nodes with
    | none=>rw [Rx hk rfl hg];exact hb
    | some n =>
      by_cases h0:(WI n (r.bag[k]).lt).2.2=0
      · rw [Rb hk rfl hg rfl rfl h0]
        obtain ⟨g1,g2,g3⟩:=h.nd _ (TW hg)
        have h4:=Zip g3 (h.ml _ (C1 hk)) h0
        have h5:=(BZ g1 rfl).2 h0
        exact WellR.send (frm:=(r.bag[k]).zto) (r:={ r with bag:=r.bag.eraseIdx k,nodes:=WM (r.bag[k]).zto (WI n (r.bag[k]).lt).1 r.nodes }) (hb.put h5.1 (h5.2.1.trans g2) h4.1) h4.2
      · rw [ND hk rfl hg h0];exact hb
  · rw [Rw hi];exact h
theorem WellR.flush:∀ (n:Nat) {r:Rg},WellR pn G r→WellR pn G (Va n r)
  | 0,_,h=>h
  | n+1,r,h=>by
    unfold Va
    split
    · exact WellR.flush n (h.deliver 0)
    · exact h
theorem WellR.tick {r:Rg} (h:WellR pn G r) (a k:Int):WellR pn G (RF r a k).1:=by
  cases hg:YC a r.nodes with
  | none=>rw [QU hg];exact h
  | some n =>
    by_cases h0:(Vf n k).2.2=0
    · rw [PU hg rfl rfl h0]
      obtain ⟨g1,g2,g3⟩:=h.nd _ (TW hg)
      have h4:=Zio g3 h0
      have h5:=(Pt g1 rfl).2 h0
      exact WellR.send (r:={ r with nodes:=WM a (Vf n k).1 r.nodes }) (h.put h5.1 (h5.2.1.trans g2) h4.1) h4.2
    · rw [HG hg h0];exact h
theorem WellR.tickL (N:Nat) (a:Int):∀ (ks:List Int) {r:Rg},WellR pn G r→WellR pn G (ks.foldl (fun r k=>Va N (RF r a k).1) r)
  | [],_,h=>h
  | k::ks,_,h=>WellR.tickL N a ks ((h.tick a k).flush N)
theorem WellR.ticks {r:Rg} (h:WellR pn G r) (a:Int):WellR pn G (Im r a):=WellR.tickL 10000 a [1,3,2] h
theorem WellR.goes {r:Rg} (h:WellR pn G r) (kind a:Int):WellR pn G (Ts r kind a).1:=by
  unfold Ts
  cases hg:YC a r.nodes with
  | none=>exact h
  | some n =>
    have hd:∀ {r:Rg},WellR pn G r→WellR pn G { r with nodes:=AY a r.nodes }:=fun h=>⟨fun p hp=>h.nd p (F6.1 hp).1,h.ml⟩
    dsimp only
    split
    · have h1:=h.send (frm:=a) (Lb (h.nd _ (TW hg)).2.2)
      have h2:=hd h1
      rw [(MO r a (Sq n).1).2.2] at h2
      exact h2
    · exact hd h
end
def InW (pn:Int→Zr) (were:List Int) (p:Zr):Prop:=∃ a∈were,p=pn a
theorem Zwp {s:Zr} (h:Yf s.addr):TG (Au s).1∧(Au s).1=⟨s,Yj,[],List.replicate 160 Yj⟩:=by
  unfold Au
  rw [A6 h]
  refine ⟨⟨h,.inl rfl,C3 _,List.length_replicate ..,⟨fun p hp=>(by cases hp),J1⟩,fun p hp=>.inl (List.mem_replicate.1 hp).2⟩,rfl⟩
theorem NH {s:Zr} {r:Int} (h0:(Uk s r).2=0):Ui (Uk s r).1∧(Uk s r).1.table=⟨s,Yj,[],List.replicate 160 Yj⟩:=by
  unfold Uk at *
  split at h0
  · rename_i hc
    rw [A6 hc]
    obtain ⟨h1,h2⟩:=Zwp hc.1
    have hs:(Au s).1.self=s:=by rw [h2]
    refine ⟨⟨h1,⟨hc.2.1,hc.2.2⟩,.inl rfl,⟨(by decide:(0:Int)≤0),(by decide:(0:Int)≤159)⟩,C3 _,⟨(by decide:(0:Int)≤0),(by decide:(0:Int)≤64)⟩,⟨(by decide:(0:Int)≤0),(by decide:(0:Int)≤999999)⟩,?_,fun a ha=>(by cases ha)⟩,h2⟩
    have hn:Xe (Au s).1.self (-1):=by rw [hs];exact VP hc.1
    grind
  · cases h0
theorem Mh {s:Zr} {r b:Int} (h0:(Ur s r b).2=0):Ui (Ur s r b).1∧(Ur s r b).1.table=⟨s,Yj,[],List.replicate 160 Yj⟩:=by
  unfold Ur at *
  split at h0
  · rename_i hc
    rw [A6 hc]
    obtain ⟨⟨g1,g2,g3,g4,g5,g6,g7,g8,g9⟩,h2⟩:=NH hc.1
    have hs:(Uk s r).1.table.self=s:=by rw [h2]
    refine ⟨⟨g1,g2,.inr (by show b≠-1;have:=hc.2.1.1;omega),g4,g5,g6,g7,⟨?_,g8.2⟩,g9⟩,h2⟩
    rw [hs]
    exact QG hc.2.1 hc.2.2
  · cases h0
theorem ON {G:Zr→Prop} {s:Zr} (h:G s):GoodT G ⟨s,Yj,[],List.replicate 160 Yj⟩:=⟨h,fun hn=>absurd rfl hn,fun p hp=>(by cases hp),fun p hp hn=>absurd (List.mem_replicate.1 hp).2 hn⟩
def Eb (pn:Int→Zr) (were:List Int) (r:Rg) (t:Trn):List Int:=if (doR pn r t).2=0∧(t.kind=1∨t.kind=2) then were++[t.a] else were
theorem Gg {pn:Int→Zr} {were:List Int} {a:Int} {p:Zr} (h:InW pn were p):InW pn (were++[a]) p:=by
  obtain ⟨b,hb,e⟩:=h
  exact ⟨b,C5 _ hb,e⟩
theorem Nr {r:Rg} {a:Int} {X:Nd×Int}:(Tg r a X).2=X.2:=by
  unfold Tg
  grind
theorem Zev (r:Rg) (i:Int):(SR r i).1={ r with bag:=(SR r i).1.bag }∧∀ m∈(SR r i).1.bag,m∈r.bag:=by
  unfold SR
  split
  · rename_i h
    obtain ⟨k,rfl⟩:∃ k:Nat,i=k:=⟨i.toNat,by omega⟩
    simp only [Int.toNat_natCast,A7 (show k<r.bag.length by omega)]
    split
    · grind
    · simp
  · simp
end Go.Esp
namespace Go.Esp
theorem Rr {α:Type} {a:Int} {x:α}:∀ {l:List (Int×α)},(l.map (·.1)).Pairwise (·<·)→YC a l=some x→WM a x l=l
  | [],_,h=>by cases h
  | (c,y)::l,hr,h=>by
    have h2:=D6.1 hr
    unfold WM
    unfold YC at h
    by_cases e:c=a
    · rw [A6 e] at h;cases h;subst e
      rw [A4 jD,A6 rfl]
    · rw [A4 e] at h
      have:c<a:=h2.1 a (C0.2 ⟨(a,x),TW h,rfl⟩)
      rw [A4 jD,A4 e,Rr h2.2 h]
theorem QY {α:Type} {a:Int} {x y:α}:∀ {l:List (Int×α)},WM a x (WM a y l)=WM a x l
  | []=>by simp [WM]
  | (c,z)::l=>by
    have ih:=QY (a:=a) (x:=x) (y:=y) (l:=l)
    by_cases e:a<c
    · simp [WM,e]
    · by_cases e1:c=a
      · subst e1;simp [WM]
      · simp [WM,e,e1,ih]
section
variable {c k:Int} {ns:List (Int×Nd)} {m:Ml} {n n1:Nd} {s:Snd} {N:Nat}
theorem Nz:∀ N,Va N ⟨c,k,ns,[]⟩=⟨c,k,ns,[]⟩
  | 0=>rfl
  | N+1=>Dt (by rw [Rw jQ];show ¬(7:Int)=0;decide)
theorem Gr (h:YC m.zto ns=none):Va (N+1) ⟨c,k,ns,[m]⟩=⟨c,k,ns,[]⟩:=by
  have e:=Rx (r:=⟨c,k,ns,[m]⟩) (k:=0) (m:=m) jQ rfl h
  have e:XL ⟨c,k,ns,[m]⟩ 0=(⟨c,k,ns,[]⟩,0):=e
  rw [Pg zV,e,Nz]
theorem Dv (h:YC m.zto ns=some n) (ht:WI n m.lt=(n1,[],0)):Va (N+1) ⟨c,k,ns,[m]⟩=⟨c,k,WM m.zto n1 ns,[]⟩:=by
  have e:=Rb (r:=⟨c,k,ns,[m]⟩) (k:=0) (m:=m) jQ rfl h zY zY zY
  have e:XL ⟨c,k,ns,[m]⟩ 0=(⟨c,k,WM m.zto n1 ns,[]⟩,0):=e
  rw [Pg zV,e,Nz]
theorem Zjf (h:YC m.zto ns=some n) (ht:WI n m.lt=(n1,[s],0)) (hI:SP s.letter) (hk:0<k) :
    Va (N+1) ⟨c,k,ns,[m]⟩=Va N ⟨c,k,WM m.zto n1 ns,[⟨m.zto,s.to,s.letter⟩]⟩:=by
  have e:=Rb (r:=⟨c,k,ns,[m]⟩) (k:=0) (m:=m) jQ rfl h zY zY zY
  have e:XL ⟨c,k,ns,[m]⟩ 0=(Zmc ⟨c,k,WM m.zto n1 ns,[]⟩ m.zto s,0):=e
  rw [Pg zV,e]
  unfold Zmc
  grind
theorem NR {a kind:Int} (h:YC a ns=some n) (ht:Vf n kind=(n1,[],0)):UV a ⟨c,k,ns,[]⟩ kind=⟨c,k,WM a n1 ns,[]⟩:=by
  unfold UV
  rw [PU (r:=⟨c,k,ns,[]⟩) h rfl rfl zY,ht]
  rfl
theorem LZ {a kind:Int} (h:YC a ns=some n) (ht:Vf n kind=(n1,[s],0)) (hI:SP s.letter) (hk:0<k) :
    UV a ⟨c,k,ns,[]⟩ kind=Va 10000 ⟨c,k,WM a n1 ns,[⟨a,s.to,s.letter⟩]⟩:=by
  unfold UV
  rw [PU (r:=⟨c,k,ns,[]⟩) h rfl rfl zY,ht]
  congr 1
  show Zmc ⟨c,k,WM a n1 ns,[]⟩ a s=_
  unfold Zmc
  grind
end
section
variable {n m:Nd} {l:Lt}
theorem tkE (h:Ui n) (hl:SP l) (ho:Ys n.table.self l.frm):WI n l =
    if l.kind=1 then (n,SN n l,0)
    else if l.kind=2 then ((YF n l).1,(YF n l).2,0)
    else if l.kind=3 then (n,if n.joined then [⟨l.frm.addr,{ QC n 4 l.req with peer:=n.table.pred,peers:=n.table.succ }⟩] else [],0)
    else if l.kind=4 then ((Si n l).1,(Si n l).2,0)
    else if l.kind=5 then ({ n with table:=WO n.table l.frm },[],0)
    else if l.kind=6 then (n,[⟨l.frm.addr,QC n 7 l.req⟩],0)
    else if l.kind=7 then (if n.pingTo=l.frm.addr∧n.pingReq=l.req then { n with pingTo:=-1 } else n,[],0)
    else (If n l,[],0):=by
  unfold WI
  rw [A6 ⟨h,hl⟩,A4 (fun q=>q ho)]
theorem tk1 (h:Ui n) (hl:SP l) (ho:Ys n.table.self l.frm) (hk:l.kind=1):WI n l=(n,SN n l,0):=by
  rw [tkE h hl ho,A6 hk]
theorem tk2 (h:Ui n) (hl:SP l) (ho:Ys n.table.self l.frm) (hk:l.kind=2):WI n l=((YF n l).1,(YF n l).2,0):=by
  rw [tkE h hl ho,A4 jD,A6 hk]
theorem tk3 (h:Ui n) (hl:SP l) (ho:Ys n.table.self l.frm) (hk:l.kind=3):WI n l=(n,if n.joined then [⟨l.frm.addr,{ QC n 4 l.req with peer:=n.table.pred,peers:=n.table.succ }⟩] else [],0):=by
  rw [tkE h hl ho,A4 jD,A4 jD,A6 hk]
theorem tk4 (h:Ui n) (hl:SP l) (ho:Ys n.table.self l.frm) (hk:l.kind=4):WI n l=((Si n l).1,(Si n l).2,0):=by
  rw [tkE h hl ho,A4 jD,A4 jD,A4 jD,A6 hk]
theorem tk5 (h:Ui n) (hl:SP l) (ho:Ys n.table.self l.frm) (hk:l.kind=5):WI n l=({ n with table:=WO n.table l.frm },[],0):=by
  rw [tkE h hl ho,A4 jD,A4 jD,A4 jD,A4 jD,A6 hk]
theorem tk6 (h:Ui n) (hl:SP l) (ho:Ys n.table.self l.frm) (hk:l.kind=6):WI n l=(n,[⟨l.frm.addr,QC n 7 l.req⟩],0):=by
  rw [tkE h hl ho,A4 jD,A4 jD,A4 jD,A4 jD,A4 jD,A6 hk]
theorem tk7 (h:Ui n) (hl:SP l) (ho:Ys n.table.self l.frm) (hk:l.kind=7):WI n l=(if n.pingTo=l.frm.addr∧n.pingReq=l.req then { n with pingTo:=-1 } else n,[],0):=by
  rw [tkE h hl ho,A4 jD,A4 jD,A4 jD,A4 jD,A4 jD,A4 jD,A6 hk]
end
structure WN (pn:Int→Zr) (were:List Int) (ns:List (Int×Nd)):Prop where
  rise:(ns.map (·.1)).Pairwise (·<·)
  nd:∀ p∈ns,Ui p.2∧p.2.table.self=pn p.1∧GoodT (InW pn were) p.2.table
  at':∀ a,(pn a).addr=a
section
variable {pn:Int→Zr} {were:List Int} {ns:List (Int×Nd)} {a b c k:Int} {n m n1:Nd}
theorem WN.get (h:WN pn were ns) (hn:YC a ns=some n):Ui n∧n.table.self=pn a∧GoodT (InW pn were) n.table:=h.nd _ (TW hn)
theorem WN.self (h:WN pn were ns) (hn:YC a ns=some n):n.table.self.addr=a:=by rw [(h.get hn).2.1,h.at']
theorem WN.other (h:WN pn were ns) (hn:YC a ns=some n) {p:Zr} (hp:InW pn were p) (ho:Ys n.table.self p) (hm:YC p.addr ns=some m):Ys m.table.self n.table.self∧m.table.self=p:=by
  obtain ⟨x,-,rfl⟩:=hp
  have e:m.table.self=pn x:=by rw [(h.get hm).2.1,h.at']
  rw [e]
  exact ⟨⟨(h.get hn).1.1.1,fun e=>ho.2.1 e.symm,fun e=>ho.2.2 e.symm⟩,rfl⟩
theorem WN.put (h:WN pn were ns) (hn:YC a ns=some n) (h1:Ui n1) (h2:n1.table.self=n.table.self) (h3:GoodT (InW pn were) n1.table):WN pn were (WM a n1 ns) :=
  ⟨NZ h.rise,fun p hp=>by
    rcases Ma hp with rfl|hp
    · exact ⟨h1,h2.trans (h.get hn).2.1,h3⟩
    · exact h.nd p hp,h.at'⟩
def unping (n:Nd):Nd:=if n.pingTo≠-1 then { n with table:=Xd n.table n.pingTo,pingTo:=-1 } else n
def TA (n:Nd):Option Zr:=match Wy n.table with
  | []=>none
  | p::l=>(p::l)[n.turn.toNat % (l.length+1)]?
theorem MS {n:Nd} {p:Zr} (h:TA n=some p):p∈Wy n.table:=by
  unfold TA at h
  grind
theorem KW {n:Nd} (h:Wy n.table≠[]):∃ p,TA n=some p:=by
  unfold TA
  cases hk:Wy n.table with
  | nil=>exact absurd hk h
  | cons q l=>exact ⟨_,A7 (by rw [C8];exact G5 _ jD)⟩
def Qd (n:Nd) (a:Int):Nd:={ n with req:=nxR n.req,pingTo:=a,pingReq:=nxR n.req,turn:=(n.turn+1) % 1000000 }
theorem DG (n:Nd):UA n=(match Wy (unping n).table with
    | []=>(unping n,[])
    | p::l=>(Qd (unping n) (((p::l)[(unping n).turn.toNat % (l.length+1)]?).getD Yj).addr,[⟨(((p::l)[(unping n).turn.toNat % (l.length+1)]?).getD Yj).addr,QC (unping n) 6 (nxR (unping n).req)⟩])):=rfl
theorem Zdi {n:Nd} {p:Zr} (h:TA (unping n)=some p):UA n=(Qd (unping n) p.addr,[⟨p.addr,QC (unping n) 6 (nxR (unping n).req)⟩]):=by
  unfold TA at h
  rw [DG]
  grind
theorem Zdk {n:Nd} (h:TA (unping n)=none):UA n=(unping n,[]):=by
  rw [DG]
  cases hk:Wy (unping n).table with
  | nil=>rfl
  | cons q l =>
    obtain ⟨p,hp⟩:=KW (n:=unping n) (by rw [hk];exact List.cons_ne_nil _ _)
    rw [h] at hp;cases hp
def UH (lv:Int→Bool) (n:Nd):Nd:=match TA (unping n) with
  | none=>unping n
  | some p=>Qd (unping n) (if lv p.addr then -1 else p.addr)
theorem Ec {G:Zr→Prop} {n:Nd} (h:Ui n) (hg:GoodT G n.table):Ui (unping n)∧(unping n).table.self=n.table.self∧GoodT G (unping n).table:=by
  unfold unping
  split
  · refine ⟨?_,rfl,Tk hg⟩
    have h2:=VM (t:=Xd n.table n.pingTo) h (Tf h.1) rfl
    obtain ⟨g1,g2,g3,g4,g5,g6,g7,⟨g8,g81,g82,g83⟩,g9⟩:=h2
    exact ⟨g1,g2,g3,g4,g5,g6,g7,⟨g8,g81,VP g1.1,g83⟩,g9⟩
  · grind
theorem Zmj (h:WN pn were ns) (hk:0<k) (hn:YC a ns=some n):UV a ⟨c,k,ns,[]⟩ 3=⟨c,k,WM a (UH (fun x=>(YC x ns).isSome) n) ns,[]⟩:=by
  have h1:=h.get hn
  have hT:=Pt (k:=3) h1.1 rfl
  have ht:Vf n 3=((UA n).1,(UA n).2,0):=by
    unfold Vf;rw [A6 ⟨h1.1,by decide,by decide⟩];rfl
  rw [ht] at hT
  have hS:TF n (UA n):=hT.2 rfl
  have hG:=IX h1.2.2
  have hu:=Ec h1.1 h1.2.2
  unfold UH
  cases hp:TA (unping n) with
  | none =>
    rw [Zdk hp] at ht
    exact NR hn ht
  | some p =>
    rw [Zdi hp] at ht hS hG
    have ho:Ys n.table.self p:=hu.2.1 ▸ Qf hu.1.1 p (MS hp)
    have hI:SP (QC (unping n) 6 (nxR (unping n).req)):=(hS.2.2.1 _ B1).1
    rw [LZ hn ht hI hk]
    have hW:WN pn were (WM a (Qd (unping n) p.addr) ns):=h.put hn hS.1 hS.2.1 hG.1
    have hpa:p.addr≠a:=fun e=>ho.2.1 (e.trans (h.self hn).symm)
    have hga:YC a (WM a (Qd (unping n) p.addr) ns)=some (Qd (unping n) p.addr):=by rw [Ut _ _ _ _ h.rise,A6 rfl]
    show _=Rg.mk c k (WM a (Qd (unping n) (if (YC p.addr ns).isSome=true then -1 else p.addr)) ns) []
    by_cases hl:YC p.addr ns=none
    · rw [Gr (by rw [Ut _ _ _ _ h.rise,A4 hpa];exact hl),hl]
      rfl
    · obtain ⟨m,hm⟩:=Option.ne_none_iff_exists'.1 hl
      have hm2:YC p.addr (WM a (Qd (unping n) p.addr) ns)=some m:=by rw [Ut _ _ _ _ h.rise,A4 hpa];exact hm
      have hs:(unping n).table.self=n.table.self:=hu.2.1
      have hoM:=h.other hn (Pd hu.2.2 p (MS hp)) ho hm
      have hmN:=(h.get hm).1
      have hI7:SP (QC m 7 (nxR (unping n).req)):=Nv (.inr (.inr (.inl rfl))) hmN.1.1
      rw [Zjf (s:=⟨a,QC m 7 (nxR (unping n).req)⟩) hm2 (by
        rw [tk6 hmN hI (by show Ys m.table.self (unping n).table.self;rw [hs];exact hoM.1) rfl]
        show (m,[Snd.mk (unping n).table.self.addr _],(0:Int))=_
        rw [hs,h.self hn]
        rfl) hI7 hk]
      rw [Rr hW.rise hm2,Dv (n1:=Qd (unping n) (-1)) hga (by
        rw [tk7 hS.1 hI7 (by show Ys (unping n).table.self m.table.self;rw [hs,hoM.2];exact ho) rfl,A6 ⟨by show p.addr=m.table.self.addr;rw [hoM.2],rfl⟩]
        rfl),QY,hm]
      rfl
def unask (n:Nd):Nd:=if n.askTo≠-1 then { n with table:=Xd n.table n.askTo,askTo:=-1 } else n
def ready (n:Nd):Nd:=if (unask n).table.succ=[]∧(unask n).table.pred≠Yj then XO (unask n) (unask n).table.pred [] else unask n
def SO (n:Nd) (a:Int):Nd:={ n with req:=nxR n.req,askTo:=a,askReq:=nxR n.req }
def tells (x:Nd) (q:Int):Lt:={ QC x 4 q with peer:=x.table.pred,peers:=x.table.succ }
def TU (n:Nd) (l:Lt):Nd :=
  let m:=XO { n with askTo:=-1 } l.frm l.peers
  if TH m.table l.peer then XO m l.peer (l.frm::l.peers) else m
theorem Zbb (hj:n.joined=true):UD n=if (ready n).table.succ=[] then (ready n,[]) else (SO (ready n) (Yv (ready n).table).addr,[⟨(Yv (ready n).table).addr,QC (ready n) 3 (nxR (ready n).req)⟩]):=by
  unfold UD;rw [A4 zN];rfl
theorem Zav {l:Lt} (h1:n.askTo=l.frm.addr) (h2:n.askReq=l.req):Si n l=(TU n l,[⟨(Yv (TU n l).table).addr,QC (TU n l) 5 0⟩]):=by
  unfold Si;rw [A4 (fun q=>q.elim (fun q=>q h1) fun q=>q h2)];rfl
theorem LY {G:Zr→Prop} {n:Nd} (h:Ui n) (hg:GoodT G n.table):Ui (unask n)∧(unask n).table.self=n.table.self∧GoodT G (unask n).table:=by
  unfold unask
  split
  · refine ⟨?_,rfl,Tk hg⟩
    exact TP (q:=n.req) (r:=n.askReq) (VM (t:=Xd n.table n.askTo) h (Tf h.1) rfl) (VP (Tf h.1).1)
  · grind
theorem Tr {G:Zr→Prop} {n:Nd} (h:Ui n) (hg:GoodT G n.table):Ui (ready n)∧(ready n).table.self=n.table.self∧GoodT G (ready n).table:=by
  have hu:=LY h hg
  unfold ready
  split
  · rename_i hc
    have h2:=Pu (p:=(unask n).table.pred) (l:=[]) hu.1
    exact ⟨h2.1,h2.2.trans hu.2.1,TV hu.2.2 (hu.2.2.2.1 hc.2) fun q hq=>by cases hq⟩
  · exact hu
theorem AQ {G:Zr→Prop} {n:Nd} {l:Lt} (h:Ui n) (hg:GoodT G n.table) (hl:GoodL G l) (ho:Ys n.table.self l.frm) :
    Ui (TU n l)∧(TU n l).table.self=n.table.self∧GoodT G (TU n l).table∧Ys n.table.self (Yv (TU n l).table):=by
  have hq:Ui { n with askTo:=-1 }:=TP (q:=n.req) (r:=n.askReq) h (VP h.1.1)
  obtain ⟨t,ht,h1,h2,h3⟩:=Ot (l:=l.peers) hq ho
  have hm:=VM hq h1 h2
  have hgm:GoodT G (XO { n with askTo:=-1 } l.frm l.peers).table:=TV hg hl.1 hl.2.2
  unfold TU
  rw [ht] at hgm ⊢
  by_cases hc:TH t l.peer
  · obtain ⟨t2,ht2,k1,k2,k3⟩:=Ot (l:=l.frm::l.peers) hm hc.1
    have hg2:GoodT G (XO { { n with askTo:=-1 } with table:=t } l.peer (l.frm::l.peers)).table:=TV hgm (hl.2.1 (QA hc.1)) fun q hq=>by
      rcases B7.1 hq with rfl|hq
      · exact hl.1
      · exact hl.2.2 q hq
    rw [A6 hc]
    rw [ht2] at hg2 ⊢
    exact ⟨VM hm k1 k2,k2.trans h2,hg2,by show Ys _ (Yv t2);rw [k3,← h2];exact hc.1⟩
  · grind
def Ti (p:Zr) (a:Int) (ns:List (Int×Nd)):List (Int×Nd):=match YC a ns with
  | none=>ns
  | some y=>WM a { y with table:=WO y.table p } ns
def Vg (ns:List (Int×Nd)) (a:Int):Option Nd:=match YC a ns with
  | none=>none
  | some x=>if x.joined then some x else none
def DO (a:Int) (n:Nd) (ns:List (Int×Nd)):List (Int×Nd) :=
  if (ready n).table.succ=[] then WM a (ready n) ns
  else match Vg ns (Yv (ready n).table).addr with
    | none=>WM a (SO (ready n) (Yv (ready n).table).addr) ns
    | some x =>
      let m:=TU (SO (ready n) (Yv (ready n).table).addr) (tells x (nxR (ready n).req))
      Ti n.table.self (Yv m.table).addr (WM a m ns)
theorem Oh {ns:List (Int×Nd)} {a:Int} (h:Vg ns a=none):YC a ns=none∨∃ x,YC a ns=some x∧x.joined=false:=by
  unfold Vg at h
  grind
theorem Uo {ns:List (Int×Nd)} {a:Int} {x:Nd} (h:Vg ns a=some x):YC a ns=some x∧x.joined=true:=by
  unfold Vg at h
  grind
theorem BW {G:Zr→Prop} {x:Nd} {q:Int} (h:Ui x) (hg:GoodT G x.table):GoodL G (tells x q):=⟨hg.1,fun hp=>hg.2.1 hp,fun p hp=>hg.2.2.1 p hp⟩
theorem Zml (h:WN pn were ns) (hk:0<k) (hn:YC a ns=some n) (hj:n.joined=true):UV a ⟨c,k,ns,[]⟩ 1=⟨c,k,DO a n ns,[]⟩:=by
  have h1:=h.get hn
  have hT:=Pt (k:=1) h1.1 rfl
  have ht:Vf n 1=((UD n).1,(UD n).2,0):=by
    unfold Vf;rw [A6 ⟨h1.1,by decide,by decide⟩];rfl
  rw [ht] at hT
  have hS:TF n (UD n):=hT.2 rfl
  have hG:=Mo h1.2.2
  have hr:=Tr h1.1 h1.2.2
  rw [Zbb hj] at ht hS hG
  unfold DO
  by_cases h0:(ready n).table.succ=[]
  · rw [A6 h0] at ht
    rw [A6 h0]
    exact NR hn ht
  · rw [A4 h0] at ht hS hG
    rw [A4 h0]
    obtain ⟨f,hf⟩:∃ f,Yv (ready n).table=f:=⟨_,rfl⟩
    obtain ⟨q,hq⟩:∃ q,nxR (ready n).req=q:=⟨_,rfl⟩
    obtain ⟨m,hm⟩:∃ m,SO (ready n) f.addr=m:=⟨_,rfl⟩
    have hma:m.askTo=f.addr∧m.askReq=q:=by rw [← hm,← hq];exact ⟨rfl,rfl⟩
    rw [hf,hq,hm] at ht hS hG
    rw [hf,hq,hm]
    have ho:Ys n.table.self f:=by have:=Tl hr.1.1 h0;rw [hf,hr.2.1] at this;exact this
    have hfG:InW pn were f:=hf ▸ Tz hr.2.2
    have hI:SP (QC (ready n) 3 q):=(hS.2.2.1 _ B1).1
    have hmS:Ui m∧m.table.self=n.table.self∧GoodT (InW pn were) m.table:=⟨hS.1,hS.2.1,hG.1⟩
    rw [LZ hn ht hI hk]
    have hW:WN pn were (WM a m ns):=h.put hn hmS.1 hmS.2.1 hmS.2.2
    have hpa:f.addr≠a:=fun e=>ho.2.1 (e.trans (h.self hn).symm)
    have hga:YC a (WM a m ns)=some m:=by rw [Ut _ _ _ _ h.rise,A6 rfl]
    have hgx:YC f.addr (WM a m ns)=YC f.addr ns:=by rw [Ut _ _ _ _ h.rise,A4 hpa]
    cases hja:Vg ns f.addr with
    | none =>
      rcases Oh hja with hl|⟨x,hx,hxj⟩
      · exact Gr (hgx.trans hl)
      · have hxN:=(h.get hx).1
        have hoM:=h.other hn hfG ho hx
        rw [Dv (hgx.trans hx) (by
          rw [tk3 hxN hI (by show Ys x.table.self (ready n).table.self;rw [hr.2.1];exact hoM.1) rfl,hxj]
          rfl)]
        rw [Rr hW.rise (hgx.trans hx)]
    | some x =>
      obtain ⟨hx,hxj⟩:=Uo hja
      have hxN:=h.get hx
      have hoM:=h.other hn hfG ho hx
      have ht3:WI x (QC (ready n) 3 q)=(x,[⟨a,tells x q⟩],0):=by
        rw [tk3 hxN.1 hI (by show Ys x.table.self (ready n).table.self;rw [hr.2.1];exact hoM.1) rfl,hxj]
        show (x,[Snd.mk (ready n).table.self.addr _],(0:Int))=_
        rw [hr.2.1,h.self hn]
        rfl
      have hI4:SP (tells x q):=by
        have:=(BZ hxN.1 ht3).2 rfl
        exact (this.2.2.1 _ B1).1
      rw [Zjf (hgx.trans hx) ht3 hI4 hk]
      rw [Rr hW.rise (hgx.trans hx)]
      have hof:Ys m.table.self (tells x q).frm:=by show Ys m.table.self x.table.self;rw [hmS.2.1,hoM.2];exact ho
      have hh:=AQ hmS.1 hmS.2.2 (BW (q:=q) hxN.1 hxN.2.2) hof
      obtain ⟨m2,hm2⟩:∃ m2,TU m (tells x q)=m2:=⟨_,rfl⟩
      have ht4:WI m (tells x q)=(m2,[⟨(Yv m2.table).addr,QC m2 5 0⟩],0):=by
        rw [tk4 hmS.1 hI4 hof rfl,Zav (by rw [hma.1];show f.addr=x.table.self.addr;rw [hoM.2]) hma.2,hm2]
      rw [hm2] at hh
      have hI5:SP (QC m2 5 0):=Nv (.inr (.inr (.inr ⟨rfl,rfl⟩))) hh.1.1.1
      rw [Zjf hga ht4 hI5 hk]
      show Va 9998 ⟨c,k,WM a m2 (WM a m ns),[⟨a,(Yv m2.table).addr,QC m2 5 0⟩]⟩=Rg.mk c k (Ti n.table.self (Yv (TU m (tells x q)).table).addr (WM a (TU m (tells x q)) ns)) []
      rw [QY,hm2]
      have hs2:m2.table.self=n.table.self:=hh.2.1.trans hmS.2.1
      have hW2:WN pn were (WM a m2 ns):=h.put hn hh.1 hs2 hh.2.2.1
      have hg2:YC a (WM a m2 ns)=some m2:=by rw [Ut _ _ _ _ h.rise,A6 rfl]
      unfold Ti
      cases hy:YC (Yv m2.table).addr (WM a m2 ns) with
      | none=>exact Gr hy
      | some y =>
        have hoY:=hW2.other hg2 (Tz hh.2.2.1) (by rw [hs2,← hmS.2.1];exact hh.2.2.2) hy
        refine (Dv hy (by
          rw [tk5 (hW2.get hy).1 hI5 hoY.1 rfl])).trans ?_
        show Rg.mk c k (WM _ { y with table:=WO y.table m2.table.self } _) []=_
        rw [hs2]
def Xl (n:Nd):Lt:={ QC n 1 n.findReq with id:=n.findID,avoid:=n.avoid }
def Xq (x:Nd) (l:Lt):Lt :=
  let d:=WV x.table l.id
  let q:=YJ x.table l.id l.avoid
  { QC x 2 l.req with done:=d.2 || !q.2,peer:=if d.2 || !q.2 then d.1 else q.1 }
def Vz (ns:List (Int×Nd)) (s:Zr) (b:Int):Option Nd:=match YC b ns with
  | none=>none
  | some x=>if x.joined=true∧Ys x.table.self s then some x else none
def XS (ns:List (Int×Nd)):Nat→Nd→Nd
  | 0,n=>n
  | F+1,n=>match Vz ns n.table.self n.findTo with
    | none=>n
    | some x=>match (YF n (Xq x (Xl n))).2 with
      | []=>(YF n (Xq x (Xl n))).1
      | _=>XS ns F (YF n (Xq x (Xl n))).1
theorem NB {ns:List (Int×Nd)} {s:Zr} {b:Int} (h:Vz ns s b=none):YC b ns=none∨∃ x,YC b ns=some x∧(x.joined=false∨¬Ys x.table.self s):=by
  unfold Vz at h
  grind
theorem Vi {ns:List (Int×Nd)} {s:Zr} {b:Int} {x:Nd} (h:Vz ns s b=some x):YC b ns=some x∧x.joined=true∧Ys x.table.self s:=by
  unfold Vz at h
  grind
theorem KI (n:Nd) (b:Int):UY n b=((UY n b).1,[⟨(UY n b).1.findTo,Xl (UY n b).1⟩]):=rfl
theorem Pe {n:Nd} {l:Lt} (h1:n.findTo=l.frm.addr) (h2:n.findReq=l.req) :
    (YF n l).2=[]∨(YF n l=UY { n with hops:=n.hops+1 } l.peer.addr∧n.hops<32∧Ys n.table.self l.peer∧l.peer.addr∉n.avoid∧l.done=false):=by
  unfold YF
  grind
structure Seeks (pn:Int→Zr) (were:List Int) (s:Zr) (n:Nd):Prop where
  nd:Ui n
  self:n.table.self=s
  good:GoodT (InW pn were) n.table
  lt:SP (Xl n)
  hop:0≤n.hops∧n.hops≤32
theorem Nj {x:Nd} {l:Lt} (h:Ui x) (hl:SP l) (ho:¬Ys x.table.self l.frm):WI x l=(x,[],0):=by
  unfold WI;rw [A6 ⟨h,hl⟩,A6 ho]
theorem Qk {x:Nd} {l:Lt} (hj:x.joined=true):SN x l=[⟨l.frm.addr,Xq x l⟩]:=by
  unfold SN;rw [A4 zN];rfl
theorem Seeks.step {s:Zr} {n x:Nd} (h:WN pn were ns) (hq:Seeks pn were s n) (hx:Vz ns n.table.self n.findTo=some x) :
    SP (Xq x (Xl n))∧Ys n.table.self x.table.self∧n.findTo=x.table.self.addr∧Qs (InW pn were) (YF n (Xq x (Xl n)))∧TF n (YF n (Xq x (Xl n))) ∧
    ((YF n (Xq x (Xl n))).2=[]∨∃ m,YF n (Xq x (Xl n))=(m,[⟨m.findTo,Xl m⟩])∧Seeks pn were s m∧m.hops=n.hops+1):=by
  obtain ⟨hx,hj,ho⟩:=Vi hx
  have hxN:=h.get hx
  have hS:=Iq hxN.1 (l:=Xl n) ho
  rw [Qk hj] at hS
  have hI:SP (Xq x (Xl n)):=(hS.2.2.1 _ B1).1
  have hgl:=Mq (l:=Xl n) hxN.2.2
  rw [Qk hj] at hgl
  have hgl:GoodL (InW pn were) (Xq x (Xl n)):=hgl _ B1
  have hn:n.findTo=x.table.self.addr:=(h.self hx).symm
  have ho2:Ys n.table.self x.table.self:=⟨hxN.1.1.1,fun e=>ho.2.1 e.symm,fun e=>ho.2.2 e.symm⟩
  have hF:=KE (l:=Xq x (Xl n)) hq.nd
  have hG:=Ld hq.good hgl
  refine ⟨hI,ho2,hn,hG,hF,?_⟩
  rcases Pe (n:=n) (l:=Xq x (Xl n)) hn rfl with e|⟨e,e1,e2,e3,e4⟩
  · exact .inl e
  · refine .inr ⟨(UY { n with hops:=n.hops+1 } (Xq x (Xl n)).peer.addr).1,e.trans (KI _ _),?_,rfl⟩
    rw [e,KI] at hF hG
    exact ⟨hF.1,hF.2.1.trans hq.self,hG.1,(hF.2.2.1 _ B1).1,by show 0≤n.hops+1∧n.hops+1≤32;have:=hq.hop;omega⟩
theorem Zac (h:WN pn were ns) (hk:0<k) (hn:YC a ns=some n):∀ (F N:Nat) (m:Nd),Seeks pn were n.table.self m→33≤m.hops+F→2 * F≤N →
    Va N ⟨c,k,WM a m ns,[⟨a,m.findTo,Xl m⟩]⟩=⟨c,k,WM a (XS ns F m) ns,[]⟩:=by
  intro F
  induction F with
  | zero=>intro N m hq h1;have:=hq.hop;omega
  | succ F ih =>
    intro N m hq h1 hN
    obtain ⟨N,rfl⟩:∃ N2,N=N2+2:=⟨N-2,by omega⟩
    have hW:WN pn were (WM a m ns):=h.put hn hq.nd hq.self hq.good
    have hga:YC a (WM a m ns)=some m:=by rw [Ut _ _ _ _ h.rise,A6 rfl]
    have hb:m.findTo≠a:=by
      have h9:=hq.nd.2.2.2.2.2.2.2.1.2.2.2.2
      rw [hq.self,h.self hn] at h9
      exact h9
    have hgx:YC m.findTo (WM a m ns)=YC m.findTo ns:=by rw [Ut _ _ _ _ h.rise,A4 hb]
    unfold XS
    cases hf:Vz ns m.table.self m.findTo with
    | none =>
      rcases NB hf with hl|⟨x,hx,hxj⟩
      · exact Gr (hgx.trans hl)
      · have hxN:=(h.get hx).1
        have ht:WI x (Xl m)=(x,[],0):=by
          by_cases ho:Ys x.table.self m.table.self
          · rw [tk1 hxN hq.lt ho rfl]
            have hj:x.joined=false:=hxj.elim id fun q=>absurd ho q
            unfold SN;rw [A6 hj]
          · exact Nj hxN hq.lt ho
        rw [Dv (hgx.trans hx) ht]
        rw [Rr hW.rise (hgx.trans hx)]
    | some x =>
      have hs:=hq.step h hf
      obtain ⟨hx,hj,ho⟩:=Vi hf
      have hxN:=(h.get hx).1
      have hsf:(Xl m).frm.addr=a:=by show m.table.self.addr=a;rw [hq.self,h.self hn]
      have ht:WI x (Xl m)=(x,[⟨a,Xq x (Xl m)⟩],0):=by
        rw [tk1 hxN hq.lt ho rfl,Qk hj,hsf]
      rw [Zjf (hgx.trans hx) ht hs.1 hk]
      rw [Rr hW.rise (hgx.trans hx)]
      have ht2:WI m (Xq x (Xl m))=((YF m (Xq x (Xl m))).1,(YF m (Xq x (Xl m))).2,0):=tk2 hq.nd hs.1 hs.2.1 rfl
      rcases hs.2.2.2.2.2 with e|⟨m2,e,e1,e2⟩
      · rw [e] at ht2
        rw [Dv hga ht2]
        rw [QY]
        simp only [e]
      · rw [e] at ht2
        rw [Zjf hga ht2 e1.lt hk]
        rw [QY,ih N m2 e1 jD jD]
        simp only [e]
def unfind (n:Nd):Nd:=if n.findTo=-1 then { n with avoid:=[] } else { Uf n n.findTo with table:=Xd n.table n.findTo,findTo:=-1 }
def TX (n:Nd):Plc:=n.table.self.id+To n.cursor.toNat
def OR (ns:List (Int×Nd)) (n:Nd):Nd :=
  if n.joined=false then n
  else if (WV (unfind n).table (TX (unfind n))).2=true then WZ (unfind n) (WV (unfind n).table (TX (unfind n))).1
  else if (YJ (unfind n).table (TX (unfind n)) (unfind n).avoid).2=false then { unfind n with cursor:=0 }
  else XS ns 33 (UY { unfind n with findID:=TX (unfind n),hops:=0 } (YJ (unfind n).table (TX (unfind n)) (unfind n).avoid).1.addr).1
def Uj (n:Nd):Nd:=if n.findTo≠-1∧n.findTo≠n.boot then Uf n n.findTo else n
def UJ (ns:List (Int×Nd)) (n:Nd):Nd:=XS ns 33 (UY { Uj n with findID:=(Uj n).table.self.id,hops:=0 } (Uj n).boot).1
theorem Hg (hj:n.joined=true):JB n=if (WV (unfind n).table (TX (unfind n))).2 then (WZ (unfind n) (WV (unfind n).table (TX (unfind n))).1,[])
    else if (YJ (unfind n).table (TX (unfind n)) (unfind n).avoid).2=false then ({ unfind n with cursor:=0 },[])
    else UY { unfind n with findID:=TX (unfind n),hops:=0 } (YJ (unfind n).table (TX (unfind n)) (unfind n).avoid).1.addr:=by
  unfold JB;rw [A4 zN];rfl
theorem En (hj:n.joined=false):UD n=UY { Uj n with findID:=(Uj n).table.self.id,hops:=0 } (Uj n).boot:=by
  unfold UD;rw [A6 hj];rfl
theorem Kb {r:Nd×List Snd} {b:Int} (e:r=UY m b) (hS:TF n r) (hG:Qs (InW pn were) r) (h0:m.hops=0):Seeks pn were n.table.self (UY m b).1:=by
  rw [e,KI] at hS hG
  exact ⟨hS.1,hS.2.1,hG.1,(hS.2.2.1 _ B1).1,by show 0≤m.hops∧m.hops≤32;rw [h0];decide⟩
theorem Zmk (h:WN pn were ns) (hk:0<k) (hn:YC a ns=some n):UV a ⟨c,k,ns,[]⟩ 2=⟨c,k,WM a (OR ns n) ns,[]⟩:=by
  have h1:=h.get hn
  have hT:=Pt (k:=2) h1.1 rfl
  have ht:Vf n 2=((JB n).1,(JB n).2,0):=by
    unfold Vf;rw [A6 ⟨h1.1,by decide,by decide⟩];rfl
  rw [ht] at hT
  have hS:TF n (JB n):=hT.2 rfl
  have hG:=Gk h1.2.2
  unfold OR
  by_cases hj:n.joined=false
  · rw [A6 hj]
    have e:JB n=(n,[]):=by unfold JB;rw [A6 hj]
    rw [e] at ht
    exact NR hn ht
  · have hj:n.joined=true:=by simpa using hj
    rw [A4 zN]
    have e:=Hg hj
    by_cases h2:(WV (unfind n).table (TX (unfind n))).2=true
    · rw [A6 h2] at e
      rw [A6 h2]
      rw [e] at ht
      exact NR hn ht
    · rw [A4 h2] at e
      rw [A4 h2]
      by_cases h3:(YJ (unfind n).table (TX (unfind n)) (unfind n).avoid).2=false
      · rw [A6 h3] at e
        rw [A6 h3]
        rw [e] at ht
        exact NR hn ht
      · rw [A4 h3] at e
        rw [A4 h3]
        have hq:=Kb e hS hG rfl
        rw [e,KI] at ht
        rw [LZ hn ht hq.lt hk]
        exact Zac h hk hn 33 10000 _ hq yA jM
theorem Zmm (h:WN pn were ns) (hk:0<k) (hn:YC a ns=some n) (hj:n.joined=false):UV a ⟨c,k,ns,[]⟩ 1=⟨c,k,WM a (UJ ns n) ns,[]⟩:=by
  have h1:=h.get hn
  have hT:=Pt (k:=1) h1.1 rfl
  have ht:Vf n 1=((UD n).1,(UD n).2,0):=by
    unfold Vf;rw [A6 ⟨h1.1,by decide,by decide⟩];rfl
  rw [ht] at hT
  have hS:TF n (UD n):=hT.2 rfl
  have hG:=Mo h1.2.2
  have e:=En hj
  have hq:=Kb e hS hG rfl
  rw [e,KI] at ht
  rw [LZ hn ht hq.lt hk]
  exact Zac h hk hn 33 10000 _ hq yA jM
def T1 (a:Int) (ns:List (Int×Nd)):List (Int×Nd):=match YC a ns with
  | none=>ns
  | some n=>if n.joined then DO a n ns else WM a (UJ ns n) ns
def T3 (a:Int) (ns:List (Int×Nd)):List (Int×Nd):=match YC a ns with
  | none=>ns
  | some n=>WM a (UH (fun x=>(YC x ns).isSome) n) ns
def T2 (a:Int) (ns:List (Int×Nd)):List (Int×Nd):=match YC a ns with
  | none=>ns
  | some n=>WM a (OR ns n) ns
def Xt (ns:List (Int×Nd)):List (Int×Nd):=(ns.map (·.1)).foldl (fun ns a=>T2 a (T3 a (T1 a ns))) ns
theorem WN.well (h:WN pn were ns):WellR pn (InW pn were) ⟨c,k,ns,[]⟩:=⟨h.nd,fun m hm=>by cases hm⟩
theorem WN.of {ns1:List (Int×Nd)} (h:WN pn were ns) {x:Int} {j:Int} (e:UV x ⟨c,k,ns,[]⟩ j=⟨c,k,ns1,[]⟩):WN pn were ns1∧ns1.map (·.1)=ns.map (·.1):=by
  have h1:WellR pn (InW pn were) (UV x ⟨c,k,ns,[]⟩ j):=(h.well.tick x j).flush 10000
  have h2:=Zca (r:=⟨c,k,ns,[]⟩) h.rise x j
  rw [e] at h1 h2
  have h2:ns1.map (·.1)=ns.map (·.1):=h2
  exact ⟨⟨by rw [h2];exact h.rise,h1.nd,h.at'⟩,h2⟩
theorem Zvc (h:WN pn were ns) (hk:0<k):UV a ⟨c,k,ns,[]⟩ 1=⟨c,k,T1 a ns,[]⟩:=by
  unfold T1
  cases hn:YC a ns with
  | none=>unfold UV;rw [QU (r:=⟨c,k,ns,[]⟩) hn];exact Nz _
  | some n =>
    cases hj:n.joined with
    | true=>simp only [hj];exact Zml h hk hn hj
    | false=>simp only [hj];exact Zmm h hk hn hj
theorem Zva (h:WN pn were ns) (hk:0<k):UV a ⟨c,k,ns,[]⟩ 3=⟨c,k,T3 a ns,[]⟩:=by
  unfold T3
  cases hn:YC a ns with
  | none=>unfold UV;rw [QU (r:=⟨c,k,ns,[]⟩) hn];exact Nz _
  | some n=>exact Zmj h hk hn
theorem Zvb (h:WN pn were ns) (hk:0<k):UV a ⟨c,k,ns,[]⟩ 2=⟨c,k,T2 a ns,[]⟩:=by
  unfold T2
  cases hn:YC a ns with
  | none=>unfold UV;rw [QU (r:=⟨c,k,ns,[]⟩) hn];exact Nz _
  | some n=>exact Zmk h hk hn
theorem WN.t1 (h:WN pn were ns) (a:Int):WN pn were (T1 a ns)∧(T1 a ns).map (·.1)=ns.map (·.1):=h.of (Zvc (c:=1) h (Int.zero_lt_one))
theorem WN.t3 (h:WN pn were ns) (a:Int):WN pn were (T3 a ns)∧(T3 a ns).map (·.1)=ns.map (·.1):=h.of (Zva (c:=1) h (Int.zero_lt_one))
theorem WN.t2 (h:WN pn were ns) (a:Int):WN pn were (T2 a ns)∧(T2 a ns).map (·.1)=ns.map (·.1):=h.of (Zvb (c:=1) h (Int.zero_lt_one))
theorem Zew (h:WN pn were ns) (hk:0<k):Im ⟨c,k,ns,[]⟩ a=⟨c,k,T2 a (T3 a (T1 a ns)),[]⟩:=by
  show UV a (UV a (UV a ⟨c,k,ns,[]⟩ 1) 3) 2=_
  rw [Zvc h hk,Zva (h.t1 a).1 hk,Zvb ((h.t1 a).1.t3 a).1 hk]
theorem CH:∀ (l:List Int) {ns:List (Int×Nd)},WN pn were ns→0<k→l.foldl Im ⟨c,k,ns,[]⟩=⟨c,k,l.foldl (fun ns a=>T2 a (T3 a (T1 a ns))) ns,[]⟩
  | [],_,_,_=>rfl
  | a::l,ns,h,hk=>by
    rw [G6,G6,Zew h hk,CH l (((h.t1 a).1.t3 a).1.t2 a).1 hk]
theorem KP (h:WN pn were ns) (hk:0<k):VI ⟨c,k,ns,[]⟩=⟨c,k,Xt ns,[]⟩:=by
  unfold VI
  rw [Nz,CH _ h hk]
  rfl
end
end Go.Esp
namespace Go.Esp
def Alike (n n':Nd):Prop:=n'={ n with table:=n'.table }
theorem Alike.refl (n:Nd):Alike n n:=rfl
theorem Alike.trans {a b c:Nd} (h:Alike a b) (h1:Alike b c):Alike a c:=by
  unfold Alike at *
  rw [h1,h]
def AlikeP (n n':Nd):Prop:=n'={ n with table:={ n.table with pred:=n'.table.pred } }
theorem AlikeP.refl (n:Nd):AlikeP n n:=rfl
theorem AlikeP.trans {a b c:Nd} (h:AlikeP a b) (h1:AlikeP b c):AlikeP a c:=by
  unfold AlikeP at *
  rw [h1,h]
theorem Zoe (t:Tb) (p:Zr):WO t p={ t with pred:=(WO t p).pred }:=by
  unfold WO
  split <;> rfl
theorem CV (n:Nd) (p:Zr):AlikeP n { n with table:=WO n.table p }:=by
  exact A9 (fun t=>{ n with table:=t }) (Zoe n.table p)
section
variable {pn:Int→Zr} {were:List Int} {ns:List (Int×Nd)} {a b c k:Int} {n m n1:Nd} {G:Zr→Prop} {Y:Int}
theorem Vh (h:WN pn were ns):YC b (WM a n ns)=if b=a then some n else YC b ns:=Ut _ _ _ _ h.rise
theorem Zcw {p:Zr} (h:WN pn were ns) (hm:YC b ns=some m):∃ m',YC b (Ti p a ns)=some m'∧AlikeP m m':=by
  unfold Ti
  cases hg:YC a ns with
  | none=>exact ⟨m,hm,AlikeP.refl m⟩
  | some y =>
    rw [Vh h]
    by_cases e:b=a
    · subst e
      rw [hm] at hg;cases hg
      exact ⟨_,A6 rfl,CV m p⟩
    · exact ⟨m,by rw [A4 e,hm],AlikeP.refl m⟩
def Rl (n:Nd) (ns:List (Int×Nd)):Nd :=
  if (ready n).table.succ=[] then ready n
  else match Vg ns (Yv (ready n).table).addr with
    | none=>SO (ready n) (Yv (ready n).table).addr
    | some x=>TU (SO (ready n) (Yv (ready n).table).addr) (tells x (nxR (ready n).req))
def SJ (n:Nd) (ns:List (Int×Nd)):Option Int :=
  if (ready n).table.succ=[] then none
  else match Vg ns (Yv (ready n).table).addr with
    | none=>none
    | some x=>some (Yv (Rl n ns).table).addr
theorem GH:DO a n ns=match SJ n ns with
    | none=>WM a (Rl n ns) ns
    | some y=>Ti n.table.self y (WM a (Rl n ns) ns):=by
  unfold DO SJ Rl
  grind
theorem JK {G:Zr→Prop} (h:WN pn were ns) (hn:YC a ns=some n) (hG:GoodT G n.table) (hx:∀ x,Vg ns (Yv (ready n).table).addr=some x→GoodT G x.table) :
    Ui (Rl n ns)∧(Rl n ns).table.self=n.table.self∧GoodT G (Rl n ns).table∧(∀ y,SJ n ns=some y→y=(Yv (Rl n ns).table).addr∧Ys n.table.self (Yv (Rl n ns).table)):=by
  have h1:=h.get hn
  have hr:=Tr h1.1 hG
  have hrI:=Tr h1.1 h1.2.2
  unfold Rl SJ
  by_cases h0:(ready n).table.succ=[]
  · grind
  · simp only [A4 h0]
    have ho:Ys n.table.self (Yv (ready n).table):=by have:=Tl hr.1.1 h0;rw [hr.2.1] at this;exact this
    have hA:Ui (SO (ready n) (Yv (ready n).table).addr):=TP hr.1 (by rw [hr.2.1];exact QG ho.1 ho.2.1)
    cases hj:Vg ns (Yv (ready n).table).addr with
    | none=>exact ⟨hA,hr.2.1,hr.2.2,fun y hy=>by cases hy⟩
    | some x =>
      obtain ⟨hgx,hxj⟩:=Uo hj
      have hxN:=h.get hgx
      have hoM:=h.other hn (Tz hrI.2.2) ho hgx
      have hof:Ys (ready n).table.self (tells x (nxR (ready n).req)).frm:=by show Ys _ x.table.self;rw [hoM.2,hr.2.1];exact ho
      have hh:=AQ hA hr.2.2 (BW (q:=nxR (ready n).req) hxN.1 (hx x hj)) hof
      refine ⟨hh.1,hh.2.1.trans hr.2.1,hh.2.2.1,fun y hy=>?_⟩
      simp only [G1] at hy
      refine ⟨?_,hr.2.1 ▸ hh.2.2.2⟩
      rw [← hy]
      unfold Rl
      simp only [A4 h0,hj]
theorem Zit (h:WN pn were ns) (hn:YC a ns=some n) (hm:YC b ns=some m):if b=a then YC a (DO a n ns)=some (Rl n ns) else ∃ m',YC b (DO a n ns)=some m'∧AlikeP m m':=by
  have h1:=h.get hn
  have hk:=JK (G:=InW pn were) h hn h1.2.2 fun x hx=>(h.get (Uo hx).1).2.2
  have hW:WN pn were (WM a (Rl n ns) ns):=h.put hn hk.1 hk.2.1 hk.2.2.1
  rw [GH]
  cases ht:SJ n ns with
  | none =>
    by_cases e:b=a
    · rw [A6 e,Vh h,A6 rfl]
    · rw [A4 e,Vh h,A4 e];exact ⟨m,hm,AlikeP.refl m⟩
  | some y =>
    obtain ⟨hy,ho⟩:=hk.2.2.2 y ht
    have hya:a≠y:=fun e=>ho.2.1 (by rw [← hy,← e,h.self hn])
    show if b=a then YC a (Ti n.table.self y (WM a (Rl n ns) ns))=_ else ∃ m',YC b (Ti n.table.self y (WM a (Rl n ns) ns))=some m'∧_
    by_cases e:b=a
    · rw [A6 e]
      unfold Ti
      cases hg:YC y (WM a (Rl n ns) ns) with
      | none=>show YC a (WM a (Rl n ns) ns)=_;rw [Vh h,A6 rfl]
      | some z=>show YC a (WM y _ (WM a (Rl n ns) ns))=_;rw [Vh hW,A4 hya,Vh h,A6 rfl]
    · rw [A4 e]
      exact Zcw hW (by rw [Vh h,A4 e,hm])
def Oth (G:Zr→Prop) (Y:Int) (ns:List (Int×Nd)):Prop:=∀ b m,YC b ns=some m→b≠Y→GoodT G m.table
def Unj (Y:Int) (ns:List (Int×Nd)):Prop:=∀ m,YC Y ns=some m→m.joined=false
theorem Ln (hx:∀ s b x,Vz ns s b=some x→GoodT G x.table):∀ (F:Nat) (n:Nd),GoodT G n.table→GoodT G (XS ns F n).table
  | 0,n,h=>h
  | F+1,n,h=>by
    unfold XS
    cases hf:Vz ns n.table.self n.findTo with
    | none=>exact h
    | some x =>
      have hg:=hx _ _ _ hf
      have hl:=Mq (l:=Xl n) hg
      rw [Qk (Vi hf).2.1] at hl
      have hh:=(Ld (l:=Xq x (Xl n)) h (hl _ B1)).1
      show GoodT G (match (YF n (Xq x (Xl n))).2 with
        | []=>(YF n (Xq x (Xl n))).1
        | _=>XS ns F (YF n (Xq x (Xl n))).1).table
      split
      · exact hh
      · exact Ln hx F _ hh
theorem Oth.find (h:Oth G Y ns) (hu:Unj Y ns) (s:Zr) (b:Int) (x:Nd) (hf:Vz ns s b=some x):GoodT G x.table:=by
  obtain ⟨h1,h2,h3⟩:=Vi hf
  refine h b x h1 fun e=>?_
  subst e
  rw [hu x h1] at h2;cases h2
theorem Zbf (n:Nd) (a:Int):(Uf n a).table=n.table:=by unfold Uf;split <;> rfl
theorem Rq (n:Nd):(Uj n).table=n.table:=by unfold Uj;split;exact Zbf _ _;rfl
theorem Ps (h:GoodT G n.table):GoodT G (unfind n).table:=by
  unfold unfind
  split
  · grind
  · exact Tk h
theorem Zpb (hx:∀ s b x,Vz ns s b=some x→GoodT G x.table) (h:GoodT G n.table):GoodT G (OR ns n).table:=by
  have hu:=Ps h
  unfold OR
  split
  · grind
  · split
    · exact SY hu fun _=>Tz hu
    · split
      · grind
      · exact Ln hx _ _ hu
theorem Zcj (hx:∀ s b x,Vz ns s b=some x→GoodT G x.table) (h:GoodT G n.table):GoodT G (UJ ns n).table:=by
  refine Ln hx _ _ ?_
  show GoodT G (Uj n).table
  rw [Rq];exact h
theorem Hm {lv:Int→Bool} (h:GoodT G n.table):GoodT G (UH lv n).table:=by
  have hu:GoodT G (unping n).table:=by unfold unping;split;exact Tk h;exact h
  unfold UH
  split
  · grind
  · exact hu
theorem Oth.put (h:Oth G Y ns) (hW:WN pn were ns) (hn:a≠Y→GoodT G n.table):Oth G Y (WM a n ns):=by
  intro b m hm hb
  rw [Vh hW] at hm
  by_cases e:b=a
  · grind
  · rw [A4 e] at hm;exact h b m hm hb
theorem Oth.t3 (h:Oth G Y ns) (hW:WN pn were ns):Oth G Y (T3 a ns):=by
  unfold T3
  cases hn:YC a ns with
  | none=>exact h
  | some n=>exact h.put hW fun e=>Hm (h a n hn e)
theorem Oth.t2 (h:Oth G Y ns) (hu:Unj Y ns) (hW:WN pn were ns):Oth G Y (T2 a ns):=by
  unfold T2
  cases hn:YC a ns with
  | none=>exact h
  | some n=>exact h.put hW fun e=>Zpb (h.find hu) (h a n hn e)
theorem Oth.t1 (h:Oth G Y ns) (hu:Unj Y ns) (hW:WN pn were ns) (hG:∀ p,G p→p.addr≠Y):Oth G Y (T1 a ns):=by
  unfold T1
  cases hn:YC a ns with
  | none=>exact h
  | some n =>
    show Oth G Y (if n.joined=true then DO a n ns else WM a (UJ ns n) ns)
    by_cases hj:n.joined=true
    · rw [A6 hj]
      have haY:a≠Y:=fun e=>by subst e;rw [hu n hn] at hj;cases hj
      have hg:=h a n hn haY
      have hx:∀ x,Vg ns (Yv (ready n).table).addr=some x→GoodT G x.table:=fun x hx=>by
        refine h _ x (Uo hx).1 fun e=>?_
        have h2:=(Uo hx).1
        rw [e] at h2
        exact absurd (Uo hx).2 (by rw [hu x h2];decide)
      have hk:=JK hW hn hg hx
      have hkI:=JK (G:=InW pn were) hW hn (hW.get hn).2.2 fun x hx=>(hW.get (Uo hx).1).2.2
      have hW2:WN pn were (WM a (Rl n ns) ns):=hW.put hn hkI.1 hkI.2.1 hkI.2.2.1
      have h2:Oth G Y (WM a (Rl n ns) ns):=h.put hW fun _=>hk.2.2.1
      rw [GH]
      cases ht:SJ n ns with
      | none=>exact h2
      | some y =>
        show Oth G Y (Ti n.table.self y (WM a (Rl n ns) ns))
        unfold Ti
        cases hg2:YC y (WM a (Rl n ns) ns) with
        | none=>exact h2
        | some z=>exact h2.put hW2 fun e=>Lc (h2 y z hg2 e) fun _=>hg.1
    · rw [A4 hj]
      exact h.put hW fun e=>Zcj (h.find hu) (h a n hn e)
end
end Go.Esp
namespace Go.Esp
section
variable {pn:Int→Zr} {were:List Int} {ns:List (Int×Nd)} {a b c k:Int} {n m n1:Nd} {G:Zr→Prop} {Y:Int}
theorem TZ (n:Nd) (p:Zr) (l:List Zr):Alike n (XO n p l):=by
  unfold XO
  split
  · rfl
  · rfl
theorem Qb (n:Nd) (p:Zr):WZ n p={ n with table:=(WZ n p).table,cursor:=(WZ n p).cursor }:=by
  unfold WZ
  split <;> rfl
theorem Ka (n:Nd) (x:Int):Uf n x={ n with avoid:=(Uf n x).avoid }:=by
  unfold Uf
  split <;> rfl
theorem Rk (lv:Int→Bool) (n:Nd):∃ t p r q u,UH lv n={ n with table:=t,pingTo:=p,pingReq:=r,req:=q,turn:=u }∧(p=-1∨lv p=false):=by
  have h0:(unping n).pingTo=-1∧∃ t,unping n={ n with table:=t,pingTo:=-1 }:=by
    unfold unping
    by_cases e:n.pingTo≠-1
    · rw [A6 e];exact ⟨rfl,_,rfl⟩
    · rw [A4 e]
      have e:n.pingTo=-1:=by simpa using e
      exact ⟨e,n.table,by rw [← e]⟩
  obtain ⟨e0,t,et⟩:=h0
  unfold UH
  cases hp:TA (unping n) with
  | none=>exact ⟨t,-1,n.pingReq,n.req,n.turn,et,.inl rfl⟩
  | some p =>
    refine ⟨t,if lv p.addr then -1 else p.addr,nxR n.req,nxR n.req,(n.turn+1) % 1000000,?_,?_⟩
    · show Qd (unping n) (if lv p.addr then -1 else p.addr)=_
      unfold Qd
      rw [et]
    · by_cases hl:lv p.addr=true
      · rw [A6 hl];exact .inl rfl
      · rw [A4 hl];exact .inr (by simpa using hl)
theorem KB (n:Nd):∃ t,unask n={ n with table:=t,askTo:=-1 }:=by
  unfold unask
  by_cases e:n.askTo≠-1
  · simp_all
  · rw [A4 e]
    have e:n.askTo=-1:=by simpa using e
    exact ⟨n.table,by rw [← e]⟩
theorem Zni (n:Nd):∃ t,ready n={ n with table:=t,askTo:=-1 }:=by
  obtain ⟨t,et⟩:=KB n
  unfold ready
  split
  · have h:=TZ (unask n) (unask n).table.pred []
    unfold Alike at h
    grind
  · grind
theorem Zou (n:Nd) (l:Lt):∃ t,TU n l={ n with table:=t,askTo:=-1 }:=by
  unfold TU
  dsimp only
  have h:=TZ { n with askTo:=-1 } l.frm l.peers
  split
  · have h2:=TZ (XO { n with askTo:=-1 } l.frm l.peers) l.peer (l.frm::l.peers)
    have h3:=h.trans h2
    exact ⟨_,h3⟩
  · exact ⟨_,h⟩
theorem NG (n:Nd) (ns:List (Int×Nd)):∃ t q x y,Rl n ns={ n with table:=t,req:=q,askTo:=x,askReq:=y } ∧
    (x=-1∨((ready n).table.succ≠[]∧x=(Yv (ready n).table).addr∧Vg ns x=none)):=by
  obtain ⟨t,et⟩:=Zni n
  unfold Rl
  by_cases h0:(ready n).table.succ=[]
  · grind
  · rw [A4 h0]
    cases hj:Vg ns (Yv (ready n).table).addr with
    | none =>
      refine ⟨t,nxR n.req,(Yv (ready n).table).addr,nxR n.req,?_,.inr ⟨h0,rfl,hj⟩⟩
      unfold SO
      rw [et]
    | some x =>
      obtain ⟨t2,e2⟩:=Zou (SO (ready n) (Yv (ready n).table).addr) (tells x (nxR (ready n).req))
      refine ⟨t2,nxR n.req,-1,nxR n.req,e2.trans ?_,.inl rfl⟩
      unfold SO
      rw [et]
theorem Zow (n:Nd) (l:Lt) (hj:n.joined=true):∃ t cu q f r av hp,(YF n l).1={ n with table:=t,cursor:=cu,req:=q,findTo:=f,findReq:=r,avoid:=av,hops:=hp }∧av=n.avoid:=by
  unfold YF
  split
  · grind
  · split
    · dsimp only
      split
      · have h:=Qb { n with findTo:=-1 } l.peer
        grind
      · simp_all
    · split
      · simp
      · exact ⟨n.table,n.cursor,_,_,_,n.avoid,_,rfl,rfl⟩
theorem Bk {n:Nd} {l:Lt} (h1:n.findTo=l.frm.addr) (h2:n.findReq=l.req) (h:(YF n l).2=[]):(YF n l).1.findTo=-1:=by
  unfold YF at h ⊢
  rw [A4 (fun q=>q.elim (fun q=>q h1) fun q=>q h2)] at h ⊢
  split
  · rename_i hd
    split
    · exact A9 Nd.findTo (Qb { n with findTo:=-1 } l.peer)
    · split
      · have h9:=TZ { n with findTo:=-1 } l.peer []
        unfold Alike at h9
        grind
      · rfl
  · rename_i hd
    rw [A4 hd] at h
    split
    · rfl
    · rename_i hc
      rw [A4 hc] at h
      cases h
theorem Zdm (h:WN pn were ns) {s:Zr}:∀ (F:Nat) (n:Nd),Seeks pn were s n→n.joined=true→33≤n.hops+F→(∃ p,G p∧Ys s p∧p.addr=n.findTo∧n.findTo∉n.avoid) →
    (∀ s b x,Vz ns s b=some x→GoodT G x.table) →
    ∃ t cu q f r hp,XS ns F n={ n with table:=t,cursor:=cu,req:=q,findTo:=f,findReq:=r,hops:=hp } ∧
      (f=-1∨(Vz ns s f=none∧f∉n.avoid∧∃ p,G p∧Ys s p∧p.addr=f)):=by
  intro F
  induction F with
  | zero=>intro n hq hj h1 _ _;have:=hq.hop;omega
  | succ F ih =>
    intro n hq hj h1 hp hx
    unfold XS
    cases hf:Vz ns n.table.self n.findTo with
    | none =>
      obtain ⟨p,hG,ho,e,ha⟩:=hp
      exact ⟨n.table,n.cursor,n.req,n.findTo,n.findReq,n.hops,rfl,.inr ⟨by rw [← hq.self];exact hf,ha,p,hG,ho,e⟩⟩
    | some x =>
      have hs:=hq.step h hf
      rcases hs.2.2.2.2.2 with e|⟨m2,e,e1,e2⟩
      · obtain ⟨t,cu,q,f,r,av,hp2,e3,e4⟩:=Zow n (Xq x (Xl n)) hj
        have hq2:=Bk (n:=n) (l:=Xq x (Xl n)) hs.2.2.1 rfl e
        rw [e3] at hq2
        refine ⟨t,cu,q,f,r,hp2,?_,.inl hq2⟩
        simp only [e]
        rw [e3,e4]
      · rcases Pe (n:=n) (l:=Xq x (Xl n)) hs.2.2.1 rfl with e5|⟨e5,-,e6,e7,-⟩
        · rw [e] at e5;cases e5
        · have em:m2=(UY { n with hops:=n.hops+1 } (Xq x (Xl n)).peer.addr).1:=by
            have:=e.symm.trans e5
            exact A9 Prod.fst this
          have hgl:=Mq (l:=Xl n) (hx _ _ _ hf)
          rw [Qk (Vi hf).2.1] at hgl
          have hgl:GoodL G (Xq x (Xl n)):=hgl _ B1
          have ho:Ys s (Xq x (Xl n)).peer:=hq.self ▸ e6
          obtain ⟨t,cu,q,f,r,hp2,e8,e9⟩:=ih m2 e1 (by rw [em];exact hj) jD ⟨(Xq x (Xl n)).peer,hgl.2.1 (QA e6),ho,by rw [em];rfl,by rw [em];exact e7⟩ hx
          refine ⟨t,cu,q,f,r,hp2,?_,by rw [em] at e9;exact e9⟩
          simp only [e]
          rw [e8,em]
          rfl
theorem QT (n:Nd):∃ t,unfind n={ n with table:=t,findTo:=-1,avoid:=(unfind n).avoid }:=by
  unfold unfind
  by_cases e:n.findTo=-1
  · grind
  · rw [A4 e]
    refine ⟨Xd n.table n.findTo,?_⟩
    rw [Ka]
theorem KA (n:Nd):(unfind n).table.self=n.table.self:=by
  unfold unfind
  split
  · rfl
  · rfl
theorem Zas {n m:Nd} {t:Tb} (e:m={ n with table:=t,findTo:=-1,avoid:=m.avoid }) (T:Tb) (C:Int):{ m with table:=T,cursor:=C }={ n with table:=T,cursor:=C,findTo:=-1,avoid:=m.avoid }:=by
  grind
theorem Zat {n m:Nd} {t:Tb} (e:m={ n with table:=t,findTo:=-1,avoid:=m.avoid }):{ m with cursor:=0 }={ n with table:=t,cursor:=0,findTo:=-1,avoid:=m.avoid }:=by
  grind
theorem Lf (h:WN pn were ns) (hn:YC a ns=some n) (hj:n.joined=true) (hg:GoodT G n.table) (hx:∀ s b x,Vz ns s b=some x→GoodT G x.table) :
    ∃ t cu q f r id hp,OR ns n={ n with table:=t,cursor:=cu,req:=q,findTo:=f,findReq:=r,findID:=id,avoid:=(unfind n).avoid,hops:=hp } ∧
      (f=-1∨(Vz ns n.table.self f=none∧f∉(unfind n).avoid∧∃ p,G p∧Ys n.table.self p∧p.addr=f)):=by
  obtain ⟨t,et⟩:=QT n
  have h1:=h.get hn
  have hT:=Pt (k:=2) h1.1 rfl
  have ht:Vf n 2=((JB n).1,(JB n).2,0):=by
    unfold Vf;rw [A6 ⟨h1.1,by decide,by decide⟩];rfl
  rw [ht] at hT
  have hS:TF n (JB n):=hT.2 rfl
  have hG:=Gk h1.2.2
  have e:=Hg hj
  have hug:=Ps hg
  unfold OR
  rw [A4 zN]
  by_cases h2:(WV (unfind n).table (TX (unfind n))).2=true
  · rw [A6 h2]
    have hp:=Qb (unfind n) (WV (unfind n).table (TX (unfind n))).1
    exact ⟨(WZ (unfind n) (WV (unfind n).table (TX (unfind n))).1).table,(WZ (unfind n) (WV (unfind n).table (TX (unfind n))).1).cursor,n.req,-1,n.findReq,n.findID,n.hops,hp.trans (Zas et _ _),.inl rfl⟩
  · rw [A4 h2] at e
    rw [A4 h2]
    by_cases h3:(YJ (unfind n).table (TX (unfind n)) (unfind n).avoid).2=false
    · rw [A6 h3]
      exact ⟨t,0,n.req,-1,n.findReq,n.findID,n.hops,Zat et,.inl rfl⟩
    · rw [A4 h3] at e
      rw [A4 h3]
      have h3:(YJ (unfind n).table (TX (unfind n)) (unfind n).avoid).2=true:=by simpa using h3
      have hq:=Kb e hS hG rfl
      have hne:=(CP (t:=(unfind n).table) (id:=TX (unfind n)) (avoid:=(unfind n).avoid)).yes h3
      have hgp:=Dm hug h3
      have hot:TG (unfind n).table:=by
        unfold unfind
        split
        · exact h1.1.1
        · exact Tf h1.1.1
      have hop:=MU hot h3
      rw [KA] at hop
      obtain ⟨p,hp⟩:∃ p,(YJ (unfind n).table (TX (unfind n)) (unfind n).avoid).1=p:=⟨_,rfl⟩
      obtain ⟨id,hid⟩:∃ id,TX (unfind n)=id:=⟨_,rfl⟩
      obtain ⟨av,hav⟩:∃ av,(unfind n).avoid=av:=⟨_,rfl⟩
      rw [hp] at hne hgp hop hq ⊢
      rw [hid] at hq ⊢
      rw [et] at hq ⊢
      obtain ⟨t2,cu,q,f,r,hp2,e8,e9⟩:=Zdm (G:=G) h 33 _ hq hj yA ⟨p,hgp,hop,rfl,hne.2.1.2⟩ hx
      exact ⟨t2,cu,q,f,r,id,hp2,e8,e9⟩
theorem RK (h:WN pn were ns) (hn:YC a ns=some n):YC a (T1 a ns)=some (if n.joined then Rl n ns else UJ ns n):=by
  unfold T1
  rw [hn]
  show YC a (if n.joined=true then DO a n ns else WM a (UJ ns n) ns)=_
  by_cases hj:n.joined=true
  · rw [A6 hj,A6 hj]
    have:=Zit h hn hn
    grind
  · rw [A4 hj,A4 hj,Vh h,A6 rfl]
theorem QK (h:WN pn were ns) (hn:YC a ns=some n):YC a (T3 a ns)=some (UH (fun x=>(YC x ns).isSome) n):=by
  unfold T3
  rw [hn]
  rw [Vh h,A6 rfl]
theorem RA (h:WN pn were ns) (hn:YC a ns=some n):YC a (T2 a ns)=some (OR ns n):=by
  unfold T2
  rw [hn]
  rw [Vh h,A6 rfl]
theorem BH (h:WN pn were ns) (hb:b≠a) (hm:YC b ns=some m):∃ m',YC b (T1 a ns)=some m'∧AlikeP m m':=by
  unfold T1
  cases hn:YC a ns with
  | none=>exact ⟨m,hm,AlikeP.refl m⟩
  | some n =>
    show ∃ m',YC b (if n.joined=true then DO a n ns else WM a (UJ ns n) ns)=some m'∧_
    by_cases hj:n.joined=true
    · rw [A6 hj]
      have:=Zit h hn hm
      rw [A4 hb] at this
      exact this
    · rw [A4 hj,Vh h,A4 hb]
      exact ⟨m,hm,AlikeP.refl m⟩
theorem GT (h:WN pn were ns) (hb:b≠a):YC b (T3 a ns)=YC b ns:=by
  unfold T3
  cases hn:YC a ns with
  | none=>rfl
  | some n=>show YC b (WM a _ ns)=_;rw [Vh h,A4 hb]
theorem Ow (h:WN pn were ns) (hb:b≠a):YC b (T2 a ns)=YC b ns:=by
  unfold T2
  cases hn:YC a ns with
  | none=>rfl
  | some n=>show YC b (WM a _ ns)=_;rw [Vh h,A4 hb]
theorem VF {ns1:List (Int×Nd)} (e:ns1.map (·.1)=ns.map (·.1)):YC b ns1=none↔YC b ns=none:=by
  rw [Wg,Wg,e]
def Kept (ns ns1:List (Int×Nd)):Prop:=∀ b m,YC b ns=some m→m.joined=true→∃ m',YC b ns1=some m'∧m'.joined=true
theorem Kept.refl (ns:List (Int×Nd)):Kept ns ns:=fun b m h hj=>⟨m,h,hj⟩
theorem Kept.trans {x y z:List (Int×Nd)} (h:Kept x y) (h1:Kept y z):Kept x z:=fun b m hm hj=>by
  obtain ⟨m',h2,h3⟩:=h b m hm hj
  exact h1 b m' h2 h3
theorem Kept.unj {ns1:List (Int×Nd)} (h:Kept ns ns1) (hu:Unj b ns1):Unj b ns:=fun m hm=>by
  cases hj:m.joined with
  | false=>rfl
  | true =>
    obtain ⟨m',h2,h3⟩:=h b m hm hj
    rw [hu m' h2] at h3;cases h3
theorem PI (h:WN pn were ns):Kept ns (T1 a ns):=fun b m hm hj=>by
  by_cases e:b=a
  · subst e
    refine ⟨_,RK h hm,?_⟩
    rw [A6 hj]
    obtain ⟨t,q,x,y,e,-⟩:=NG m ns
    rw [e];exact hj
  · obtain ⟨m',h2,h3⟩:=BH h e hm
    exact ⟨m',h2,by rw [h3];exact hj⟩
theorem NK (h:WN pn were ns):Kept ns (T3 a ns):=fun b m hm hj=>by
  by_cases e:b=a
  · subst e
    refine ⟨_,QK h hm,?_⟩
    obtain ⟨t,p,r,q,u,e,-⟩:=Rk (fun x=>(YC x ns).isSome) m
    rw [e];exact hj
  · exact ⟨m,by rw [GT h e];exact hm,hj⟩
theorem NL (h:WN pn were ns):Kept ns (T2 a ns):=fun b m hm hj=>by
  by_cases e:b=a
  · subst e
    refine ⟨_,RA h hm,?_⟩
    obtain ⟨t,cu,q,f,r,id,hp,e,-⟩:=Lf (G:=InW pn were) h hm hj (h.get hm).2.2 fun s b x hx=>(h.get (Vi hx).1).2.2
    rw [e];exact hj
  · exact ⟨m,by rw [Ow h e];exact hm,hj⟩
def TQ (a:Int) (ns:List (Int×Nd)):List (Int×Nd):=T2 a (T3 a (T1 a ns))
def Late (b:Int) (ns:List (Int×Nd)):Prop:=Unj b ns∧(∃ y,YC b ns=some y)∧∀ G:Zr→Prop,(∀ p,G p→p.addr≠b)→¬Oth G b ns
structure Waits (ns:List (Int×Nd)) (n:Nd):Prop where
  ping:n.pingTo=-1∨YC n.pingTo ns=none
  ask:n.askTo=-1∨YC n.askTo ns=none∨Late n.askTo ns
  find:n.findTo=-1∨YC n.findTo ns=none∨Late n.findTo ns
  new:n.findTo=-1∨n.findTo∉n.avoid
theorem AJ (h:WN pn were ns) {p:Zr} (hp:InW pn were p):p=pn p.addr:=by
  obtain ⟨x,-,rfl⟩:=hp
  rw [h.at']
theorem Late.back {ns1:List (Int×Nd)} (hk:Kept ns ns1) (he:ns1.map (·.1)=ns.map (·.1)) (hO:∀ G,(∀ p,G p→p.addr≠b)→Unj b ns1→Oth G b ns→Oth G b ns1) (hl:Late b ns1):Late b ns:=by
  refine ⟨hk.unj hl.1,?_,fun G hG h=>hl.2.2 G hG (hO G hG hl.1 h)⟩
  cases hg:YC b ns with
  | none=>obtain ⟨y,hy⟩:=hl.2.1;rw [(VF he).2 hg] at hy;cases hy
  | some y=>exact ⟨y,rfl⟩
theorem Zeu (w1:WN pn were ns) (g1:YC a ns=some n1) (hj1:n1.joined=true):∃ n',YC a (T2 a (T3 a ns))=some n'∧n'.joined=true∧n'.askTo=n1.askTo ∧
    (n'.pingTo=-1∨YC n'.pingTo ns=none)∧(n'.findTo=-1∨YC n'.findTo ns=none∨Late n'.findTo ns)∧(n'.findTo=-1∨n'.findTo∉n'.avoid):=by
  have w3:=w1.t3 a
  have g3:=QK w1 g1
  have g2:=RA w3.1 g3
  obtain ⟨t3,p,r3,q3,u3,e3,hp⟩:=Rk (fun x=>(YC x ns).isSome) n1
  obtain ⟨n3,hn3⟩:∃ n3,UH (fun x=>(YC x ns).isSome) n1=n3:=⟨_,rfl⟩
  rw [hn3] at g3 g2 e3
  have hj3:n3.joined=true:=by rw [e3];exact hj1
  obtain ⟨t2,cu,q,f,r,id,hp2,e2,hf⟩:=Lf (G:=InW pn were) w3.1 g3 hj3 (w3.1.get g3).2.2 fun s b x hx=>(w3.1.get (Vi hx).1).2.2
  have k3:∀ b,YC b (T3 a ns)=none↔YC b ns=none:=fun b=>VF w3.2
  refine ⟨OR (T3 a ns) n3,g2,by rw [e2];exact hj3,by rw [e2,e3],?_,?_,?_⟩
  · simp_all
  · have e:(OR (T3 a ns) n3).findTo=f:=by rw [e2]
    rw [e]
    rcases hf with hf|⟨hf,-,pp,hpI,hpo,hpa⟩
    · exact .inl hf
    · rcases NB hf with hl|⟨z,hz,hzj⟩
      · exact .inr (.inl ((k3 f).1 hl))
      · have hzs:z.table.self=pp:=by rw [(w3.1.get hz).2.1,← hpa];exact (AJ w1 hpI).symm
        have hzj:z.joined=false:=hzj.elim (fun q=>q) fun q=>by
          refine absurd ?_ q
          rw [hzs]
          exact ⟨(w3.1.get g3).1.1.1,fun e=>hpo.2.1 e.symm,fun e=>hpo.2.2 e.symm⟩
        have hfa:a≠f:=fun q=>hpo.2.1 (by rw [hpa,← q,w3.1.self g3])
        have hu3:Unj f (T3 a ns):=fun m hm=>by rw [hz] at hm;cases hm;exact hzj
        refine .inr (.inr (Late.back (NK w1) w3.2 (fun G _ _ hO=>hO.t3 w1) ⟨hu3,⟨z,hz⟩,fun G hG hO3=>?_⟩))
        obtain ⟨_,_,_,f9,_,_,_,e9,h9⟩:=Lf (G:=G) w3.1 g3 hj3 (hO3 a n3 g3 hfa) (hO3.find hu3)
        have ef:f9=f:=by
          have:=A9 Nd.findTo (e9.symm.trans e2)
          exact this
        subst ef
        rcases h9 with h9|⟨-,-,p9,hp9,-,hpa9⟩
        · rw [h9] at hpa
          have:=hpo.1.1
          omega
        · exact hG p9 hp9 hpa9
  · grind
def Keep3 (n n':Nd):Prop:=n'.askTo=n.askTo∧n'.pingTo=n.pingTo∧n'.turn=n.turn
theorem Keep3.trans {x y z:Nd} (h:Keep3 x y) (h1:Keep3 y z):Keep3 x z:=⟨h1.1.trans h.1,h1.2.1.trans h.2.1,h1.2.2.trans h.2.2⟩
theorem II (n:Nd) (p:Zr):Keep3 n (WZ n p):=by
  unfold WZ
  split <;> exact ⟨rfl,rfl,rfl⟩
theorem Zds (n:Nd) (p:Zr) (l:List Zr):Keep3 n (XO n p l):=by
  unfold XO
  split <;> exact ⟨rfl,rfl,rfl⟩
theorem Er (n:Nd) (x:Int):Keep3 n (Uf n x):=by
  unfold Uf
  split <;> exact ⟨rfl,rfl,rfl⟩
theorem He (n:Nd) (l:Lt):Keep3 n (YF n l).1:=by
  unfold YF
  split
  · exact ⟨rfl,rfl,rfl⟩
  · split
    · dsimp only
      split
      · exact II { n with findTo:=-1 } l.peer
      · split
        · exact Zds { n with findTo:=-1 } l.peer []
        · exact ⟨rfl,rfl,rfl⟩
    · split <;> exact ⟨rfl,rfl,rfl⟩
theorem Lm:∀ (F:Nat) (n:Nd),Keep3 n (XS ns F n)
  | 0,n=>⟨rfl,rfl,rfl⟩
  | F+1,n=>by
    unfold XS
    cases hf:Vz ns n.table.self n.findTo with
    | none=>exact ⟨rfl,rfl,rfl⟩
    | some x =>
      show Keep3 n (match (YF n (Xq x (Xl n))).2 with
        | []=>(YF n (Xq x (Xl n))).1
        | _=>XS ns F (YF n (Xq x (Xl n))).1)
      split
      · exact He _ _
      · exact (He _ _).trans (Lm F _)
theorem Jj:Keep3 n (UJ ns n):=by
  refine Keep3.trans (?_:Keep3 n (Uj n)) (Lm _ _)
  unfold Uj
  split
  · exact Er _ _
  · exact ⟨rfl,rfl,rfl⟩
theorem Nm:Keep3 n (unfind n):=by
  unfold unfind
  split
  · exact ⟨rfl,rfl,rfl⟩
  · exact Er n n.findTo
theorem Gt:Keep3 n (OR ns n):=by
  unfold OR
  split
  · exact ⟨rfl,rfl,rfl⟩
  · split
    · exact Nm.trans (II _ _)
    · split
      · exact Nm.trans ⟨rfl,rfl,rfl⟩
      · exact Nm.trans (Lm _ _)
theorem Zaw (h:WN pn were ns) (hn:YC a ns=some n) (hu:n.joined=false→n.askTo=-1):∃ n',YC a (TQ a ns)=some n'∧(n'.joined=true→Waits ns n'):=by
  have w1:=h.t1 a
  have g1:=RK h hn
  have k1:∀ b,YC b (T1 a ns)=none↔YC b ns=none:=fun b=>VF w1.2
  have hb:∀ b,Late b (T1 a ns)→Late b ns:=fun b=>Late.back (PI h) w1.2 fun G hG hu hO=>hO.t1 ((PI h).unj hu) h hG
  obtain ⟨n1,hn1⟩:∃ n1,(if n.joined then Rl n ns else UJ ns n)=n1:=⟨_,rfl⟩
  rw [hn1] at g1
  cases hj1:n1.joined with
  | false =>
    have g3:=QK w1.1 g1
    have g2:=RA (w1.1.t3 a).1 g3
    refine ⟨_,g2,fun hj=>?_⟩
    obtain ⟨t3,p,r3,q3,u3,e3,hp⟩:=Rk (fun x=>(YC x (T1 a ns)).isSome) n1
    unfold OR at hj
    rw [A6 (by rw [e3];exact hj1),e3] at hj
    exact absurd (hj1.symm.trans hj) jM
  | true =>
    obtain ⟨n',g2,hj2,hka,hp,hf,hv⟩:=Zeu w1.1 g1 hj1
    refine ⟨n',g2,fun _=>⟨hp.imp_right (k1 _).1,?_,hf.imp_right fun q=>q.imp (k1 _).1 (hb _),hv⟩⟩
    rw [hka,← hn1]
    by_cases hj:n.joined=true
    · rw [A6 hj]
      obtain ⟨t1,q1,x,y1,e1,hx⟩:=NG n ns
      rw [e1]
      rcases hx with hx|⟨h0,hx,hjn⟩
      · exact .inl hx
      · rcases Oh hjn with hl|⟨z,hz,hzj⟩
        · exact .inr (.inl hl)
        · have hr:=Tr (h.get hn).1 (h.get hn).2.2
          have ho:=Tl hr.1.1 h0
          have hxa:a≠x:=fun q=>ho.2.1 (by rw [hr.2.1,h.self hn,← hx,q])
          refine .inr (.inr ⟨fun m hm=>by rw [hz] at hm;cases hm;exact hzj,⟨z,hz⟩,fun G hG hO=>?_⟩)
          exact hG _ (Tz (Tr (h.get hn).1 (hO a n hn hxa)).2.2) hx.symm
    · rw [A4 hj,Jj.1]
      exact .inl (hu zM)
def Few (b:Int) (ns:List (Int×Nd)):Prop:=∀ y,YC b ns=some y→y.joined=false∨y.table.succ.length≤1
theorem OX {p:Zr} {l:List Zr} (h:Ui n) (ho:Ys n.table.self p):XO n p l={ n with table:={ n.table with succ:=Wk n.table.self n.copies [p] l } }:=by
  have hc:TG n.table∧Ys n.table.self p∧1≤n.copies∧n.copies≤8:=⟨h.1,ho,h.2.1.1,h.2.1.2⟩
  have h0:VJ n.table p l n.copies=({ n.table with succ:=Wk n.table.self n.copies [p] l },0):=by
    unfold VJ
    rw [A6 hc]
  unfold XO
  rw [h0]
  rfl
theorem Ziy {l:Lt} (h:Ui n) (hj:n.joined=false):(YF n l).1.joined=false∨(YF n l).1.table.succ.length≤1:=by
  unfold YF
  split
  · exact .inl hj
  · split
    · dsimp only
      split
      · grind
      · split
        · rename_i hc
          right
          have hm:Ui { n with findTo:=-1 }:=NQ (l:=n.avoid) h ⟨h.2.2.2.2.1,h.2.2.2.2.2.2.2.2⟩ (VP h.1.1)
          rw [OX hm hc.2]
          exact B9 1
        · exact .inl hj
    · split
      · exact .inl hj
      · exact .inl hj
theorem DJ (h:WN pn were ns) {s:Zr}:∀ (F:Nat) (n:Nd),Seeks pn were s n→n.joined=false→(XS ns F n).joined=false∨(XS ns F n).table.succ.length≤1
  | 0,n,_,hj=>.inl hj
  | F+1,n,hq,hj=>by
    unfold XS
    cases hf:Vz ns n.table.self n.findTo with
    | none=>exact .inl hj
    | some x =>
      have hs:=hq.step h hf
      rcases hs.2.2.2.2.2 with e|⟨m2,e,e1,e2⟩
      · simp only [e]
        exact Ziy hq.nd hj
      · rcases Pe (n:=n) (l:=Xq x (Xl n)) hs.2.2.1 rfl with e5|⟨e5,-,-,-,-⟩
        · rw [e] at e5;cases e5
        · have em:m2=(UY { n with hops:=n.hops+1 } (Xq x (Xl n)).peer.addr).1:=A9 Prod.fst (e.symm.trans e5)
          simp only [e]
          exact DJ h F m2 e1 (by rw [em];exact hj)
theorem Zom (h:WN pn were ns) (hn:YC a ns=some n) (hj:n.joined=false):(UJ ns n).joined=false∨(UJ ns n).table.succ.length≤1:=by
  have h1:=h.get hn
  have hT:=Pt (k:=1) h1.1 rfl
  have ht:Vf n 1=((UD n).1,(UD n).2,0):=by
    unfold Vf;rw [A6 ⟨h1.1,by decide,by decide⟩];rfl
  rw [ht] at hT
  have hS:TF n (UD n):=hT.2 rfl
  have hq:=Kb (En hj) hS (Mo h1.2.2) rfl
  refine DJ h 33 _ hq ?_
  unfold Uj
  split
  · rw [Ka];exact hj
  · exact hj
theorem Hf (t:Tb) (x:Int):(Xd t x).succ.length≤t.succ.length:=List.length_filter_le _ _
theorem Zjz (lv:Int→Bool) (n:Nd):(UH lv n).table.succ.length≤n.table.succ.length:=by
  have hu:(unping n).table.succ.length≤n.table.succ.length:=by
    unfold unping;split
    · exact Hf _ _
    · exact B9 _
  unfold UH
  split
  · exact hu
  · exact hu
theorem MR (n:Nd) (p:Zr):(WZ n p).table.succ=n.table.succ:=by
  unfold WZ
  split
  · rename_i h
    unfold WF at h ⊢
    grind
  · rfl
theorem OP (l:Lt) (hj:n.joined=true):(YF n l).1.table.succ=n.table.succ∧(YF n l).1.joined=true:=by
  unfold YF
  split
  · grind
  · split
    · dsimp only
      split
      · refine ⟨MR { n with findTo:=-1 } l.peer,?_⟩
        rw [Qb];exact hj
      · grind
    · split
      · grind
      · exact ⟨rfl,hj⟩
theorem Lk:∀ (F:Nat) (n:Nd),n.joined=true→(XS ns F n).table.succ=n.table.succ
  | 0,n,_=>rfl
  | F+1,n,hj=>by
    unfold XS
    cases hf:Vz ns n.table.self n.findTo with
    | none=>rfl
    | some x =>
      show (match (YF n (Xq x (Xl n))).2 with
        | []=>(YF n (Xq x (Xl n))).1
        | _=>XS ns F (YF n (Xq x (Xl n))).1).table.succ=_
      have hf2:=OP (n:=n) (Xq x (Xl n)) hj
      split
      · exact hf2.1
      · rw [Lk F _ hf2.2,hf2.1]
theorem Gs (ns:List (Int×Nd)) (n:Nd):(OR ns n).table.succ=n.table.succ∨(OR ns n).table.succ=(unfind n).table.succ:=by
  unfold OR
  by_cases hj:n.joined=false
  · grind
  · rw [A4 hj]
    right
    split
    · exact MR _ _
    · split
      · rfl
      · rw [Lk]
        · rfl
        · obtain ⟨t,et⟩:=QT n
          show (unfind n).joined=true
          grind
theorem Zts (ns:List (Int×Nd)) (n:Nd):(OR ns n).table.succ.length≤n.table.succ.length:=by
  have hu:(unfind n).table.succ.length≤n.table.succ.length:=by
    unfold unfind;split
    · exact B9 _
    · exact Hf _ _
  rcases Gs ns n with e|e <;> rw [e]
  · simp
  · exact hu
end
end Go.Esp
namespace Go.Esp
section
variable {pn:Int→Zr} {were:List Int} {ns:List (Int×Nd)} {a b c k:Int} {n m n1:Nd} {G:Zr→Prop} {Y:Int}
theorem Xc {ns1:List (Int×Nd)} (e:ns1.map (·.1)=ns.map (·.1)) (h:YC b ns1=some m):∃ y,YC b ns=some y:=by
  cases hg:YC b ns with
  | none=>rw [(VF e).2 hg] at h;cases h
  | some y=>exact ⟨y,rfl⟩
theorem WN.step (h:WN pn were ns) (a:Int):WN pn were (TQ a ns)∧(TQ a ns).map (·.1)=ns.map (·.1) :=
  ⟨(((h.t1 a).1.t3 a).1.t2 a).1,(((h.t1 a).1.t3 a).1.t2 a).2.trans (((h.t1 a).1.t3 a).2.trans (h.t1 a).2)⟩
theorem Zfa (h:WN pn were ns):Kept ns (TQ a ns):=((PI h).trans (NK (h.t1 a).1)).trans (NL ((h.t1 a).1.t3 a).1)
theorem MF (h:WN pn were ns) (hb:b≠a) (hm:YC b ns=some m):∃ m',YC b (TQ a ns)=some m'∧AlikeP m m':=by
  obtain ⟨m',h1,h2⟩:=BH h hb hm
  exact ⟨m',by unfold TQ;rw [Ow ((h.t1 a).1.t3 a).1 hb,GT (h.t1 a).1 hb,h1],h2⟩
theorem Zms (h:WN pn were ns) (hG:∀ p,G p→p.addr≠b) (hu:Unj b (TQ a ns)) (hO:Oth G b ns):Oth G b (TQ a ns):=by
  have w1:=(h.t1 a).1
  have w3:=(w1.t3 a).1
  have u3:=(NL w3).unj hu
  have u1:=(NK w1).unj u3
  exact ((hO.t1 ((PI h).unj u1) h hG).t3 w1).t2 u3 w3
abbrev goQ (l:List Int) (ns:List (Int×Nd)):List (Int×Nd):=l.foldl (fun ns a=>TQ a ns) ns
theorem WN.go:∀ (l:List Int) {ns:List (Int×Nd)},WN pn were ns→WN pn were (goQ l ns)∧(goQ l ns).map (·.1)=ns.map (·.1)
  | [],_,h=>⟨h,rfl⟩
  | a::l,ns,h=>⟨((h.step a).1.go l).1,((h.step a).1.go l).2.trans (h.step a).2⟩
theorem Le:∀ (l:List Int) {ns:List (Int×Nd)},WN pn were ns→Kept ns (goQ l ns)
  | [],ns,_=>Kept.refl ns
  | a::l,ns,h=>(Zfa h).trans (Le l (h.step a).1)
theorem Zir (hG:∀ p,G p→p.addr≠b):∀ (l:List Int) {ns:List (Int×Nd)},WN pn were ns→Unj b (goQ l ns)→Oth G b ns→Oth G b (goQ l ns)
  | [],_,_,_,hO=>hO
  | a::l,ns,h,hu,hO=>Zir hG l (h.step a).1 hu (Zms h hG ((Le l (h.step a).1).unj hu) hO)
theorem Zis:∀ (l:List Int) {ns:List (Int×Nd)} {m:Nd},WN pn were ns→b∉l→YC b ns=some m→∃ m',YC b (goQ l ns)=some m'∧AlikeP m m'
  | [],_,m,_,_,hm=>⟨m,hm,AlikeP.refl m⟩
  | a::l,ns,m,h,hb,hm=>by
    obtain ⟨m1,h1,h2⟩:=MF h (a:=a) (fun e=>hb (by rw [e];exact B1)) hm
    obtain ⟨m2,h3,h4⟩:=Zis l (h.step a).1 (fun e=>hb (B2 _ e)) h1
    exact ⟨m2,h3,h2.trans h4⟩
theorem Late.go (l:List Int) (h:WN pn were ns) (hl:Late b (goQ l ns)):Late b ns :=
  Late.back (Le l h) (h.go l).2 (fun G hG hu hO=>Zir hG l h hu hO) hl
theorem Few.by (h:WN pn were ns) (hb:b≠a) (hf:Few b ns):Few b (TQ a ns):=fun y hy=>by
  obtain ⟨m,hm⟩:=Xc (h.step a).2 hy
  obtain ⟨m',h1,h2⟩:=MF h hb hm
  rw [hy] at h1;cases h1
  rw [h2]
  exact hf m hm
theorem Few.own (h:WN pn were ns) (hu:Unj b ns):Few b (TQ b ns):=fun y hy=>by
  obtain ⟨m,hm⟩:=Xc (h.step b).2 hy
  have hj:=hu m hm
  have g1:=RK h hm
  rw [hj] at g1
  have w1:=(h.t1 b).1
  have g3:=QK w1 g1
  have g2:=RA (w1.t3 b).1 g3
  have e:y=_:=A5 (hy.symm.trans g2)
  obtain ⟨t3,p,r3,q3,u3,e3,-⟩:=Rk (fun x=>(YC x (T1 b ns)).isSome) (if false=true then Rl m ns else UJ ns m)
  have ej:(if false=true then Rl m ns else UJ ns m)=UJ ns m:=A4 jM
  rw [ej] at e e3
  rcases Zom h hm hj with hc|hc
  · left
    rw [e]
    unfold OR
    rw [A6 (by rw [e3];exact hc),e3]
    exact hc
  · right
    rw [e]
    exact H7 (Zts _ _) (H7 (Zjz _ _) hc)
theorem Zre:∀ (l:List Int) {ns:List (Int×Nd)},WN pn were ns→b∉l→Few b ns→Few b (goQ l ns)
  | [],_,_,_,hf=>hf
  | a::l,ns,h,hb,hf=>Zre l (h.step a).1 (fun e=>hb (B2 _ e)) (hf.by h fun e=>hb (by rw [e];exact B1))
theorem Zep:∀ (l:List Int) {ns:List (Int×Nd)},WN pn were ns→l.Nodup→Unj b ns→Few b (goQ l ns)
  | [],_,_,_,hu=>fun y hy=>.inl (hu y hy)
  | a::l,ns,h,hl,hu=>by
    have h2:=D9.1 hl
    by_cases e:b=a
    · subst e
      exact Zre l (h.step b).1 h2.1 (Few.own h hu)
    · refine Zep l (h.step a).1 h2.2 fun y hy=>?_
      obtain ⟨m,hm⟩:=Xc (h.step a).2 hy
      obtain ⟨m',h3,h4⟩:=MF h e hm
      rw [hy] at h3;cases h3
      rw [h4];exact hu m hm
structure WaitsR (ns ns1:List (Int×Nd)) (n:Nd):Prop where
  ping:n.pingTo=-1∨YC n.pingTo ns=none
  ask:n.askTo=-1∨YC n.askTo ns=none∨(Late n.askTo ns∧Few n.askTo ns1)
  find:n.findTo=-1∨YC n.findTo ns=none∨(Late n.findTo ns∧Few n.findTo ns1)
  new:n.findTo=-1∨n.findTo∉n.avoid
theorem KO (h:WN pn were ns) (hn:YC a ns=some n) (hu:n.joined=false→n.askTo=-1):∃ n',YC a (Xt ns)=some n'∧(n'.joined=true→WaitsR ns (Xt ns) n'):=by
  have ha:a∈ns.map (·.1):=by
    by_cases e:a∈ns.map (·.1)
    · exact e
    · rw [Wg.2 e] at hn;cases hn
  obtain ⟨l1,l2,hl⟩:=List.append_of_mem ha
  have hnd:(ns.map (·.1)).Nodup:=h.rise.imp fun h=>by omega
  rw [hl] at hnd
  have hnd2:=(H3.1 hnd).2.1
  have hnd3:=D9.1 hnd2
  have ha1:a∉l1:=fun e=>(H3.1 hnd).2.2 a e a B1 rfl
  have hr:Xt ns=goQ l2 (TQ a (goQ l1 ns)):=by
    show goQ (ns.map (·.1)) ns=_
    rw [hl]
    unfold goQ
    rw [I4,G6]
  have w1:=h.go l1
  obtain ⟨m,hm,hma⟩:=Zis l1 h ha1 hn
  obtain ⟨n2,h2,h3⟩:=Zaw w1.1 hm (by rw [hma];exact hu)
  obtain ⟨n3,h4,h5⟩:=Zis l2 (w1.1.step a).1 hnd3.1 h2
  rw [hr]
  refine ⟨n3,h4,fun hj=>?_⟩
  have hw:=h3 (by rw [h5] at hj;exact hj)
  have hf:∀ b,Late b (goQ l1 ns)→Late b ns∧Few b (goQ l2 (TQ a (goQ l1 ns))):=fun b hb=>⟨hb.go l1 h,Zep (a::l2) w1.1 hnd2 hb.1⟩
  have e:n3.pingTo=n2.pingTo∧n3.askTo=n2.askTo∧n3.findTo=n2.findTo∧n3.avoid=n2.avoid:=by rw [h5];exact ⟨rfl,rfl,rfl,rfl⟩
  refine ⟨?_,?_,?_,?_⟩
  · rw [e.1];exact hw.ping.imp_right (VF w1.2).1
  · rw [e.2.1];exact hw.ask.imp_right fun q=>q.imp (VF w1.2).1 (hf _)
  · rw [e.2.2.1];exact hw.find.imp_right fun q=>q.imp (VF w1.2).1 (hf _)
  · rw [e.2.2.1,e.2.2.2];exact hw.new
end
end Go.Esp
namespace Go.Esp
section
variable {pn:Int→Zr} {were:List Int} {ns:List (Int×Nd)} {a b c k x:Int} {n m n1:Nd} {G:Zr→Prop} {Y:Int}
def AllG (G:Zr→Prop) (ns:List (Int×Nd)):Prop:=∀ b m,YC b ns=some m→GoodT G m.table
theorem AllG.well (h:WN pn were ns) (hG:AllG G ns):WellR pn G ⟨c,k,ns,[]⟩ :=
  ⟨fun p hp=>⟨(h.nd p hp).1,(h.nd p hp).2.1,hG p.1 p.2 (Ziu (h.rise.imp fun h=>by omega) hp)⟩,fun m hm=>by cases hm⟩
theorem AllG.of {ns1:List (Int×Nd)} (h:WellR pn G ⟨c,k,ns1,[]⟩):AllG G ns1:=fun b m hm=>(h.nd _ (TW hm)).2.2
theorem AllG.t1 (h:WN pn were ns) (hG:AllG G ns):AllG G (T1 a ns):=by
  have h1:WellR pn G (UV a ⟨1,1,ns,[]⟩ 1):=((hG.well h).tick a 1).flush 10000
  rw [Zvc h Int.zero_lt_one] at h1
  exact AllG.of h1
theorem AllG.t3 (h:WN pn were ns) (hG:AllG G ns):AllG G (T3 a ns):=by
  have h1:WellR pn G (UV a ⟨1,1,ns,[]⟩ 3):=((hG.well h).tick a 3).flush 10000
  rw [Zva h Int.zero_lt_one] at h1
  exact AllG.of h1
theorem AllG.t2 (h:WN pn were ns) (hG:AllG G ns):AllG G (T2 a ns):=by
  have h1:WellR pn G (UV a ⟨1,1,ns,[]⟩ 2):=((hG.well h).tick a 2).flush 10000
  rw [Zvb h Int.zero_lt_one] at h1
  exact AllG.of h1
theorem AllG.step (h:WN pn were ns) (hG:AllG G ns):AllG G (TQ a ns):=((hG.t1 h).t3 (h.t1 a).1).t2 ((h.t1 a).1.t3 a).1
theorem AllG.go:∀ (l:List Int) {ns:List (Int×Nd)},WN pn were ns→AllG G ns→AllG G (goQ l ns)
  | [],_,_,hG=>hG
  | a::l,ns,h,hG=>AllG.go l (h.step a).1 (hG.step h)
theorem AllG.round (h:WN pn were ns) (hG:AllG G ns):AllG G (Xt ns):=AllG.go _ h hG
theorem AllG.mono {G':Zr→Prop} (hG:AllG G ns) (h:∀ p,G p→G' p):AllG G' ns:=fun b m hm=>(hG b m hm).mono h
theorem Bn {t:Tb} (h:GoodT G t) (hs:t.self.addr≠x) (hx:x≠-1):GoodT (fun p=>G p∧p.addr≠x) (Xd t x):=by
  refine ⟨⟨h.1,hs⟩,fun hp=>?_,fun p hp=>?_,fun p hp hn=>?_⟩
  · show G (if t.pred.addr=x then Yj else t.pred)∧(if t.pred.addr=x then Yj else t.pred).addr≠x
    have hp:(if t.pred.addr=x then Yj else t.pred)≠Yj:=hp
    by_cases e:t.pred.addr=x
    · grind
    · rw [A4 e] at hp ⊢;exact ⟨h.2.1 hp,e⟩
  · have h1:=F6.1 hp
    exact ⟨h.2.2.1 p h1.1,by simpa using h1.2⟩
  · obtain ⟨q,hq,rfl⟩:=C0.1 hp
    by_cases e:q.addr=x
    · grind
    · rw [A4 e] at hn ⊢;exact ⟨h.2.2.2 q hq hn,e⟩
theorem Cm (h:Ui n) (hg:GoodT G n.table):GoodT (fun p=>G p∧(n.pingTo≠-1→p.addr≠n.pingTo)) (unping n).table:=by
  unfold unping
  by_cases e:n.pingTo≠-1
  · rw [A6 e]
    exact (Bn hg (fun q=>h.2.2.2.2.2.2.2.1.2.2.1.2 q.symm) e).mono fun p hp=>⟨hp.1,fun _=>hp.2⟩
  · simp_all
theorem IS {s:Zr} {q:Zr} (hq:0≤q.addr) (hs:q.addr≠s.addr):∀ {xs out:List Zr},(q∈xs∨PQ out q.addr)→PQ (xs.foldl (Uc s) out) q.addr
  | [],out,h=>h.elim (fun h=>by cases h) id
  | p::xs,out,h=>by
    have key:∀ r,PQ out r→PQ (Uc s out p) r:=by
      intro r hr
      unfold Uc
      split
      · exact hr
      · obtain ⟨z,hz,rfl⟩:=C0.1 hr
        exact C0.2 ⟨z,Mk.2 (.inr hz),rfl⟩
    refine IS hq hs (xs:=xs) ?_
    rcases h with h|h
    · rcases B7.1 h with rfl|h
      · right
        unfold Uc
        by_cases e:q.addr<0∨q.addr=s.addr∨PQ out q.addr
        · rw [A6 e]
          rcases e with e|e|e
          · omega
          · exact absurd e hs
          · exact e
        · rw [A4 e]
          exact C0.2 ⟨q,Mk.2 (.inl rfl),rfl⟩
      · exact .inl h
    · exact .inr (key _ h)
theorem EZ {t:Tb} {p:Zr} (ht:TG t) (hp:p∈t.pred::(t.succ++t.fingers)) (hn:p≠Yj):PQ (Wy t) p.addr:=by
  have ho:Ys t.self p:=by
    obtain ⟨h1,h2,h3,h4,h5,h6⟩:=ht
    rcases B7.1 hp with rfl|hp
    · exact h2.resolve_left hn
    · rcases B8.1 hp with hp|hp
      · exact h5.1 p hp
      · exact (h6 p hp).resolve_left hn
  exact IS (by have:=ho.1.1;omega) ho.2.1 (.inl hp)
theorem Zhp {t:Tb} (ht:TG t) (h:Wy t=[]):GoodT (fun p=>p=t.self) t:=by
  have key:∀ p,p∈t.pred::(t.succ++t.fingers)→p≠Yj→p=t.self:=fun p hp hn=>by
    have:=EZ ht hp hn
    rw [h] at this
    cases this
  refine ⟨rfl,fun hp=>key _ B1 hp,fun p hp=>key p (B2 _ (C5 _ hp)) ?_,fun p hp hn=>key p (B2 _ (D0 _ hp)) hn⟩
  exact QA (ht.2.2.2.2.1.1 p hp)
def GS (a:Int) (S:List Int) (p:Zr):Prop:=p.addr=a∨p.addr∈S
def itQ:Nat→List (Int×Nd)→List (Int×Nd)
  | 0,ns=>ns
  | j+1,ns=>itQ j (Xt ns)
theorem BG (h:WN pn were ns) (hn:YC a ns=some n):∃ n',YC a (T1 a ns)=some n'∧n'.pingTo=n.pingTo∧n'.turn=n.turn:=by
  refine ⟨_,RK h hn,?_⟩
  split
  · obtain ⟨t,q,x,y,e,-⟩:=NG n ns
    grind
  · exact Jj.2
theorem Zab (h:WN pn were ns) (hn:YC a ns=some n) (hg:GoodT G n.table):∃ n',YC a (T3 a ns)=some n'∧GoodT (fun p=>G p∧(n.pingTo≠-1→p.addr≠n.pingTo)) n'.table ∧
    (GoodT (fun p=>p.addr=a) n'.table∨∃ p∈Wy n'.table,TA (unping n)=some p∧n'.table=(unping n).table∧n'.pingTo=(if (YC p.addr ns).isSome then -1 else p.addr)∧n'.turn=((unping n).turn+1) % 1000000)∧n'.joined=n.joined:=by
  have h1:=h.get hn
  have hf:=Cm h1.1 hg
  have hu:=Ec h1.1 h1.2.2
  have hj:(UH (fun x=>(YC x ns).isSome) n).joined=n.joined:=by
    obtain ⟨t,p,r,q,u,e,-⟩:=Rk (fun x=>(YC x ns).isSome) n
    rw [e]
  refine ⟨_,QK h hn,?_,?_,hj⟩
  · unfold UH
    cases hp:TA (unping n) with
    | none=>exact hf
    | some p=>exact hf
  · unfold UH
    cases hp:TA (unping n) with
    | none =>
      left
      have hk:Wy (unping n).table=[]:=by
        cases hk:Wy (unping n).table with
        | nil=>rfl
        | cons p l =>
          obtain ⟨q,hq⟩:=KW (n:=unping n) (by rw [hk];exact List.cons_ne_nil _ _)
          rw [hp] at hq;cases hq
      refine (Zhp hu.1.1 hk).mono fun p hp=>?_
      rw [hp,hu.2.1,h.self hn]
    | some p=>exact .inr ⟨p,(show p∈Wy (unping n).table from MS hp),rfl,rfl,rfl,rfl⟩
theorem JL {S:List Int} (h:WN pn were ns) (hS:-1∉S) (hk:ns.map (·.1)=[a]) (hn:YC a ns=some n) (hG:AllG (GS a S) ns) :
    AllG (GS a []) (Xt ns)∨∃ n',YC a (Xt ns)=some n'∧n'.pingTo∈S.filter (·≠n.pingTo)∧AllG (GS a (S.filter (·≠n.pingTo))) (Xt ns):=by
  have hr:Xt ns=T2 a (T3 a (T1 a ns)):=by
    unfold Xt
    rw [hk]
    rfl
  have w1:=h.t1 a
  have w3:=w1.1.t3 a
  have one:∀ {G:Zr→Prop} {ns1:List (Int×Nd)} {m:Nd},ns1.map (·.1)=ns.map (·.1)→YC a ns1=some m→GoodT G m.table→AllG G ns1:=by
    intro G ns1 m he hm hg b m2 hm2
    have hb:b∈ns1.map (·.1):=by
      by_cases e:b∈ns1.map (·.1)
      · exact e
      · rw [Wg.2 e] at hm2;cases hm2
    rw [he,hk] at hb
    rw [B0.1 hb,hm] at hm2
    cases hm2
    exact hg
  obtain ⟨n1,g1,e1,-⟩:=BG h hn
  obtain ⟨n3,g3,hf,hc,-⟩:=Zab w1.1 g1 (hG.t1 h a n1 g1)
  rw [hr]
  have k3:=w3.2.trans w1.2
  rcases hc with hc|⟨p,hp,-,-,hpp,-⟩
  · left
    exact (one (G:=GS a []) k3 g3 (hc.mono fun p hp=>.inl hp)).t2 w3.1
  · right
    have hs:GoodT (GS a (S.filter (·≠n.pingTo))) n3.table:=hf.mono fun q hq=>by
      rcases hq.1 with e|e
      · exact .inl e
      · by_cases e2:q.addr=n.pingTo
        · by_cases e3:n.pingTo=-1
          · exact absurd (e3 ▸ e2 ▸ e) hS
          · exact absurd (e2.trans e1.symm) (hq.2 (by rw [e1];exact e3))
        · exact .inr (F6.2 ⟨e,by simpa using e2⟩)
    refine ⟨_,RA w3.1 g3,?_,(one k3 g3 hs).t2 w3.1⟩
    rw [Gt.2.1,hpp]
    have hpo:Ys n3.table.self p:=Qf (w3.1.get g3).1.1 p hp
    have hpa:p.addr≠a:=fun e=>hpo.2.1 (by rw [e,w3.1.self g3])
    have hl:YC p.addr (T1 a ns)=none:=by
      rw [Wg,w1.2,hk]
      exact fun e=>hpa (B0.1 e)
    rw [hl]
    exact (Pd hs p hp).resolve_left hpa
theorem Wh (h:WN pn were ns):WN pn were (Xt ns)∧(Xt ns).map (·.1)=ns.map (·.1):=h.go _
theorem Bc:∀ (j:Nat) {ns:List (Int×Nd)},WN pn were ns→WN pn were (itQ j ns)∧(itQ j ns).map (·.1)=ns.map (·.1)
  | 0,_,h=>⟨h,rfl⟩
  | j+1,ns,h=>⟨(Bc j (Wh h).1).1,(Bc j (Wh h).1).2.trans (Wh h).2⟩
theorem AllG.it:∀ (j:Nat) {ns:List (Int×Nd)},WN pn were ns→AllG G ns→AllG G (itQ j ns)
  | 0,_,_,hG=>hG
  | j+1,ns,h,hG=>AllG.it j (Wh h).1 (hG.round h)
theorem Zrc (i j:Nat) (ns:List (Int×Nd)):itQ (i+j) ns=itQ j (itQ i ns):=by
  induction i generalizing ns with
  | zero=>rw [F2];rfl
  | succ i ih=>rw [Nat.succ_add];exact ih _
theorem LR:∀ (j:Nat) {S:List Int} {ns:List (Int×Nd)} {n:Nd},S.length≤j→WN pn were ns→-1∉S→ns.map (·.1)=[a]→YC a ns=some n→n.pingTo∈S→AllG (GS a S) ns→AllG (GS a []) (itQ j ns)
  | 0,S,ns,n,hj,h,hS,hk,hn,hp,hG=>by
    have:S=[]:=List.length_eq_zero_iff.1 jD
    rw [this] at hp;cases hp
  | j+1,S,ns,n,hj,h,hS,hk,hn,hp,hG=>by
    rcases JL h hS hk hn hG with h1|⟨n',h1,h2,h3⟩
    · exact h1.it j (Wh h).1
    · have hl:(S.filter (·≠n.pingTo)).length<S.length:=List.length_filter_lt_length_iff_exists.2 ⟨n.pingTo,hp,by simp⟩
      exact LR j (S:=S.filter (·≠n.pingTo)) jD (Wh h).1 (fun e=>hS (F6.1 e).1) ((Wh h).2.trans hk) h1 h2 h3
theorem Zkq {S:List Int} {j:Nat} (h:WN pn were ns) (hS:-1∉S) (hk:ns.map (·.1)=[a]) (hj:S.length<j) (hG:AllG (GS a S) ns):AllG (GS a []) (itQ j ns):=by
  obtain ⟨n,hn⟩:∃ n,YC a ns=some n:=by
    cases hg:YC a ns with
    | none=>rw [Wg,hk] at hg;exact absurd B1 hg
    | some n=>exact ⟨n,rfl⟩
  obtain ⟨j,rfl⟩:∃ i,j=i+1:=⟨j-1,by omega⟩
  rcases JL h hS hk hn hG with h1|⟨n',h1,h2,h3⟩
  · exact h1.it j (Wh h).1
  · exact LR j (H7 (List.length_filter_le _ _) jD) (Wh h).1 (fun e=>hS (F6.1 e).1) ((Wh h).2.trans hk) h1 h2 h3
end
end Go.Esp
namespace Go.Esp
section
variable {pn:Int→Zr} {were:List Int} {ns:List (Int×Nd)} {a b c k x X o:Int} {n m n1:Nd} {G:Zr→Prop} {Y:Int}
def PredE (n n':Nd):Prop:=n'.table.pred=n.table.pred∨n'.table.pred=Yj
theorem PredE.trans {x y z:Nd} (h:PredE x y) (h1:PredE y z):PredE x z:=h1.elim (fun e=>h.imp e.trans e.trans) .inr
theorem Ny (t:Tb) (x:Int):(Xd t x).pred=t.pred∨(Xd t x).pred=Yj:=by
  show (if t.pred.addr=x then Yj else t.pred)=_∨(if t.pred.addr=x then Yj else t.pred)=_
  grind
theorem Pk (n:Nd) (p:Zr) (l:List Zr):(XO n p l).table.pred=n.table.pred:=by
  unfold XO
  split
  · rename_i h
    unfold VJ at h ⊢
    grind
  · rfl
theorem IG (n:Nd) (p:Zr):(WZ n p).table.pred=n.table.pred:=by
  unfold WZ
  split
  · rename_i h
    unfold WF at h ⊢
    grind
  · rfl
theorem Ha (n:Nd) (l:Lt):(YF n l).1.table.pred=n.table.pred:=by
  unfold YF
  split
  · rfl
  · split
    · dsimp only
      split
      · exact IG { n with findTo:=-1 } l.peer
      · split
        · exact Pk { n with findTo:=-1 } l.peer []
        · rfl
    · split <;> rfl
theorem Ll:∀ (F:Nat) (n:Nd),(XS ns F n).table.pred=n.table.pred
  | 0,n=>rfl
  | F+1,n=>by
    unfold XS
    cases hf:Vz ns n.table.self n.findTo with
    | none=>rfl
    | some x =>
      show (match (YF n (Xq x (Xl n))).2 with
        | []=>(YF n (Xq x (Xl n))).1
        | _=>XS ns F (YF n (Xq x (Xl n))).1).table.pred=_
      split
      · exact Ha _ _
      · exact (Ll F _).trans (Ha _ _)
theorem Il (n:Nd):PredE n (unask n):=by
  unfold unask
  split
  · exact Ny _ _
  · exact .inl rfl
theorem Zbn (n:Nd):PredE n (ready n):=by
  refine (Il n).trans ?_
  unfold ready
  split
  · exact .inl (Pk _ _ _)
  · exact .inl rfl
theorem Zct (n:Nd) (l:Lt):(TU n l).table.pred=n.table.pred:=by
  unfold TU
  dsimp only
  split
  · rw [Pk,Pk]
  · rw [Pk]
theorem Zkl (n:Nd) (ns:List (Int×Nd)):PredE n (Rl n ns):=by
  refine (Zbn n).trans ?_
  unfold Rl
  split
  · exact .inl rfl
  · split
    · exact .inl rfl
    · exact .inl (Zct _ _)
theorem Zdj (lv:Int→Bool) (n:Nd):PredE n (UH lv n):=by
  have hu:PredE n (unping n):=by
    unfold unping
    split
    · exact Ny _ _
    · exact .inl rfl
  unfold UH
  split
  · exact hu
  · exact hu
theorem Cn (n:Nd):PredE n (unfind n):=by
  unfold unfind
  split
  · exact .inl rfl
  · exact Ny _ _
theorem Zoz (ns:List (Int×Nd)) (n:Nd):PredE n (OR ns n):=by
  unfold OR
  split
  · exact .inl rfl
  · refine (Cn n).trans ?_
    split
    · exact .inl (IG _ _)
    · split
      · exact .inl rfl
      · exact .inl (Ll _ _)
theorem Zhv (ns:List (Int×Nd)) (n:Nd):(UJ ns n).table.pred=n.table.pred:=by
  refine (Ll _ _).trans ?_
  show (Uj n).table.pred=_
  rw [Rq]
def NP (Y X:Int) (ns:List (Int×Nd)):Prop:=∀ m,YC X ns=some m→m.table.pred.addr≠Y
theorem Kf {n n':Nd} (hY:0≤Y) (h:PredE n n') (hn:n.table.pred.addr≠Y):n'.table.pred.addr≠Y:=by
  rcases h with e|e <;> rw [e]
  · exact hn
  · exact fun e=>absurd (show (-1:Int)=Y from e) jD
theorem Zcc (t:Tb) (p:Zr):(WO t p).pred=t.pred∨(WO t p).pred=p:=by
  unfold WO
  grind
theorem NP.t1 (h:WN pn were ns) (hY:0≤Y) (hd:YC Y ns=none) (hp:NP Y X ns):NP Y X (T1 a ns):=by
  intro m hm
  obtain ⟨m0,hm0⟩:=Xc (h.t1 a).2 hm
  have h0:=hp m0 hm0
  unfold T1 at hm
  cases hn:YC a ns with
  | none=>rw [hn] at hm;exact hp m hm
  | some n =>
    rw [hn] at hm
    have hm:YC X (if n.joined=true then DO a n ns else WM a (UJ ns n) ns)=some m:=hm
    by_cases hj:n.joined=true
    · rw [A6 hj,GH] at hm
      have hkI:=JK (G:=InW pn were) h hn (h.get hn).2.2 fun x hx=>(h.get (Uo hx).1).2.2
      have hW2:WN pn were (WM a (Rl n ns) ns):=h.put hn hkI.1 hkI.2.1 hkI.2.2.1
      have h2:NP Y X (WM a (Rl n ns) ns):=by
        intro z hz
        rw [Vh h] at hz
        by_cases e:X=a
        · rw [A6 e] at hz
          rw [← A5 hz]
          subst e
          exact Kf hY (Zkl n ns) (by rw [A5 (hn.symm.trans hm0)];exact h0)
        · rw [A4 e] at hz;exact hp z hz
      cases ht:SJ n ns with
      | none=>rw [ht] at hm;exact h2 m hm
      | some y =>
        rw [ht] at hm
        have hm:YC X (Ti n.table.self y (WM a (Rl n ns) ns))=some m:=hm
        unfold Ti at hm
        cases hg:YC y (WM a (Rl n ns) ns) with
        | none=>rw [hg] at hm;exact h2 m hm
        | some z =>
          rw [hg] at hm
          rw [Vh hW2] at hm
          by_cases e:X=y
          · rw [A6 e] at hm
            rw [← A5 hm]
            rcases Zcc z.table n.table.self with e2|e2 <;> rw [e2]
            · exact h2 z (e ▸ hg)
            · rw [h.self hn]
              intro e3
              rw [e3,hd] at hn;cases hn
          · rw [A4 e] at hm;exact h2 m hm
    · rw [A4 hj,Vh h] at hm
      by_cases e:X=a
      · rw [A6 e] at hm
        rw [← A5 hm]
        subst e
        rw [Zhv,A5 (hn.symm.trans hm0)];exact h0
      · rw [A4 e] at hm;exact hp m hm
theorem NP.t3 (h:WN pn were ns) (hY:0≤Y) (hp:NP Y X ns):NP Y X (T3 a ns):=by
  intro m hm
  by_cases e:X=a
  · subst e
    obtain ⟨m0,hm0⟩:=Xc (h.t3 X).2 hm
    rw [QK h hm0] at hm;cases hm
    exact Kf hY (Zdj _ _) (hp m0 hm0)
  · rw [GT h e] at hm;exact hp m hm
theorem NP.t2 (h:WN pn were ns) (hY:0≤Y) (hp:NP Y X ns):NP Y X (T2 a ns):=by
  intro m hm
  by_cases e:X=a
  · subst e
    obtain ⟨m0,hm0⟩:=Xc (h.t2 X).2 hm
    rw [RA h hm0] at hm;cases hm
    exact Kf hY (Zoz _ _) (hp m0 hm0)
  · rw [Ow h e] at hm;exact hp m hm
theorem Df {p:Zr}:∀ {l:List Zr},(l.map Zr.addr).Pairwise (·<·)→¬PQ l p.addr→((AG p l).map Zr.addr).Pairwise (·<·)
  | [],_,_=>by simp [AG]
  | q::l,h,hn=>by
    have h2:=D6.1 h
    have hq:q.addr≠p.addr:=fun e=>hn (C0.2 ⟨q,B1,e⟩)
    have hl:¬PQ l p.addr:=fun e=>hn (B2 _ e)
    unfold AG
    by_cases e:q.addr<p.addr
    · rw [A6 e]
      refine D6.2 ⟨fun y hy=>?_,Df h2.2 hl⟩
      obtain ⟨z,hz,rfl⟩:=C0.1 hy
      rcases Mk.1 hz with rfl|hz
      · exact e
      · exact h2.1 _ (G8 hz)
    · rw [A4 e]
      refine D6.2 ⟨fun y hy=>?_,h⟩
      rcases B7.1 hy with rfl|hy
      · omega
      · have:=h2.1 y hy;omega
theorem IR {s:Zr}:∀ {xs out:List Zr},(out.map Zr.addr).Pairwise (·<·)→((xs.foldl (Uc s) out).map Zr.addr).Pairwise (·<·)
  | [],_,h=>h
  | p::xs,out,h=>by
    refine IR (xs:=xs) ?_
    unfold Uc
    by_cases e:p.addr<0∨p.addr=s.addr∨PQ out p.addr
    · rw [A6 e];exact h
    · rw [A4 e];exact Df h fun q=>e (.inr (.inr q))
theorem Zvw {l:List Int} {u v:Int} (h:l.Pairwise (·<·)) (huv:u<v) (hu:u∈l) (hv:v∈l) (hl:∀ x∈l,x=u∨x=v):l=[u,v]:=by
  match l,h,hu,hv,hl with
  | [],_,hu,_,_=>cases hu
  | [x],_,hu,hv,_ =>
    have:=B0.1 hu
    have:=B0.1 hv
    omega
  | [x,y],h,hu,hv,hl =>
    have h1:x<y:=by simpa using h
    have hx:=hl x jQ
    have hy:=hl y jQ
    have:x=u∧y=v:=by omega
    rw [this.1,this.2]
  | x::y::z::l,h,hu,hv,hl =>
    have h1:=D6.1 h
    have h2:=D6.1 h1.2
    have a1:=h1.1 y jQ
    have a2:=h2.1 z jQ
    have hx:=hl x jQ
    have hy:=hl y jQ
    have hz:=hl z jQ
    omega
theorem KX {p:Zr} (h:TA n=some p) {L:List Int} (hL:(Wy n.table).map Zr.addr=L):L[n.turn.toNat % L.length]?=some p.addr:=by
  unfold TA at h
  grind
theorem Zzc {n n':Nd} {p p':Zr} {u v:Int} (h:TA n=some p) (h':TA n'=some p') (hL:(Wy n.table).map Zr.addr=[u,v]) (hL':(Wy n'.table).map Zr.addr=[u,v]) (ht:n'.turn=(n.turn+1) % 1000000) (h0:0≤n.turn) :
    (p.addr=u∧p'.addr=v)∨(p.addr=v∧p'.addr=u):=by
  have h1:=KX h hL
  have h2:=KX h' hL'
  grind
theorem CQ {t:Tb} (ht:TG t) (hs:t.self.addr≠Y) (h:¬GoodT (fun p=>p.addr≠Y) t):Y∈(Wy t).map Zr.addr:=by
  refine C2 fun hn=>h ?_
  have key:∀ p,p∈t.pred::(t.succ++t.fingers)→p≠Yj→p.addr≠Y:=fun p hp hnp e=>hn (by have:=EZ ht hp hnp;rw [e] at this;exact this)
  exact ⟨hs,fun hp=>key _ B1 hp,fun p hp=>key p (B2 _ (C5 _ hp)) (QA (ht.2.2.2.2.1.1 p hp)),
    fun p hp hnp=>key p (B2 _ (D0 _ hp)) hnp⟩
def Zbo (X a b:Int) (ns:List (Int×Nd)):List (Int×Nd):=if X=a then T1 a ns else T1 b (TQ a ns)
def HU (X a b:Int) (ns:List (Int×Nd)):List (Int×Nd):=if X=a then TQ b (T2 a ns) else T2 b ns
theorem Ke (hk:ns.map (·.1)=[a,b]) (hX:X=a∨X=b):Xt ns=HU X a b (T3 X (Zbo X a b ns)):=by
  have:Xt ns=TQ b (TQ a ns):=by unfold Xt;rw [hk];rfl
  rw [this]
  unfold Zbo HU
  by_cases e:X=a
  · rw [A6 e,A6 e,e];rfl
  · rw [A4 e,A4 e,hX.resolve_left e];rfl
structure Two (pn:Int→Zr) (were:List Int) (a b Y:Int) (W:List (Int×Nd)→Prop):Prop where
  wn:∀ ns,W ns→WN pn were ns∧ns.map (·.1)=[a,b]∧AllG (fun p=>p.addr=a∨p.addr=b∨p.addr=Y) ns
  t1:∀ ns x,W ns→W (T1 x ns)
  t3:∀ ns x,W ns→W (T3 x ns)
  t2:∀ ns x,W ns→W (T2 x ns)
  ne:a≠b∧a≠Y∧b≠Y∧0≤Y
structure Stays (W I:List (Int×Nd)→Prop):Prop where
  t1:∀ ns x,W ns→I ns→I (T1 x ns)
  t3:∀ ns x,W ns→I ns→I (T3 x ns)
  t2:∀ ns x,W ns→I ns→I (T2 x ns)
section
variable {W I:List (Int×Nd)→Prop}
theorem Two.step (h:Two pn were a b Y W) (hw:W ns) (x:Int):W (TQ x ns):=h.t2 _ _ (h.t3 _ _ (h.t1 _ _ hw))
theorem Two.pre (h:Two pn were a b Y W) (hw:W ns):W (Zbo X a b ns):=by
  unfold Zbo
  split
  · exact h.t1 _ _ hw
  · exact h.t1 _ _ (h.step hw a)
theorem Two.post (h:Two pn were a b Y W) (hw:W ns):W (HU X a b ns):=by
  unfold HU
  split
  · exact h.step (h.t2 _ _ hw) b
  · exact h.t2 _ _ hw
theorem Two.round (h:Two pn were a b Y W) (hw:W ns):W (Xt ns):=by
  rw [Ke (X:=a) (h.wn ns hw).2.1 (.inl rfl)]
  exact h.post (h.t3 _ _ (h.pre hw))
theorem Two.it (h:Two pn were a b Y W):∀ (j:Nat) {ns:List (Int×Nd)},W ns→W (itQ j ns)
  | 0,_,hw=>hw
  | j+1,_,hw=>h.it j (h.round hw)
theorem Stays.step (hI:Stays W I) (h:Two pn were a b Y W) (hw:W ns) (hi:I ns) (x:Int):I (TQ x ns) :=
  hI.t2 _ _ (h.t3 _ _ (h.t1 _ _ hw)) (hI.t3 _ _ (h.t1 _ _ hw) (hI.t1 _ _ hw hi))
theorem Stays.pre (hI:Stays W I) (h:Two pn were a b Y W) (hw:W ns) (hi:I ns):I (Zbo X a b ns):=by
  unfold Zbo
  split
  · exact hI.t1 _ _ hw hi
  · exact hI.t1 _ _ (h.step hw a) (hI.step h hw hi a)
theorem Stays.post (hI:Stays W I) (h:Two pn were a b Y W) (hw:W ns) (hi:I ns):I (HU X a b ns):=by
  unfold HU
  split
  · exact hI.step h (h.t2 _ _ hw) (hI.t2 _ _ hw hi) b
  · exact hI.t2 _ _ hw hi
theorem Stays.round (hI:Stays W I) (h:Two pn were a b Y W) (hw:W ns) (hi:I ns):I (Xt ns):=by
  rw [Ke (X:=a) (h.wn ns hw).2.1 (.inl rfl)]
  exact hI.post h (h.t3 _ _ (h.pre hw)) (hI.t3 _ _ (h.pre hw) (hI.pre h hw hi))
theorem Stays.it (hI:Stays W I) (h:Two pn were a b Y W):∀ (j:Nat) {ns:List (Int×Nd)},W ns→I ns→I (itQ j ns)
  | 0,_,_,hi=>hi
  | j+1,_,hw,hi=>hI.it h j (h.round hw) (hI.round h hw hi)
theorem Two.hop (h:Two pn were a b Y W) (hw:W ns) (hX:X=a∨X=b) (hn:YC X ns=some n):∃ m,YC X (Zbo X a b (HU X a b ns))=some m∧m.pingTo=n.pingTo∧m.turn=n.turn:=by
  have w:=(h.wn ns hw).1
  have g2:=RA w hn
  have e2:=Gt (n:=n) (ns:=ns)
  have w2:=(w.t2 X).1
  unfold Zbo HU
  by_cases e:X=a
  · rw [A6 e,A6 e]
    subst e
    obtain ⟨m,g3,e3⟩:=MF w2 h.ne.1 g2
    obtain ⟨m2,g4,e4⟩:=BG (w2.step b).1 g3
    refine ⟨m2,g4,?_,?_⟩
    · rw [e4.1,e3];exact e2.2.1
    · rw [e4.2,e3];exact e2.2.2
  · rw [A4 e,A4 e]
    have hb:=hX.resolve_left e
    subst hb
    obtain ⟨m,g3,e3⟩:=MF w2 e g2
    obtain ⟨m2,g4,e4⟩:=BG (w2.step a).1 g3
    refine ⟨m2,g4,?_,?_⟩
    · rw [e4.1,e3];exact e2.2.1
    · rw [e4.2,e3];exact e2.2.2
theorem Two.check (h:Two pn were a b Y W) (hw:W ns) (hX:X=a∨X=b) (ho:o=a∨o=b) (hoX:o≠X) (hn:YC X ns=some n):∃ n',YC X (T3 X ns)=some n' ∧
    (GoodT (fun p=>p.addr≠Y) n'.table∨(n.pingTo≠Y∧(n'.pingTo=Y∨∃ p,TA (unping n)=some p∧p.addr=o∧(Wy (unping n).table).map Zr.addr=[min o Y,max o Y] ∧
      (unping n).turn=n.turn∧n'.turn=(n.turn+1) % 1000000∧0≤n.turn))):=by
  obtain ⟨w,hk,hA⟩:=h.wn ns hw
  obtain ⟨hab,haY,hbY,hY⟩:=h.ne
  have hXY:X≠Y:=by rcases hX with e|e <;> rw [e] <;> assumption
  obtain ⟨n',hn',hf,hc,-⟩:=Zab w hn (hA X n hn)
  refine ⟨n',hn',?_⟩
  by_cases hfree:GoodT (fun p=>p.addr≠Y) n'.table
  · exact .inl hfree
  · right
    have hne:n.pingTo≠Y:=fun e=>hfree (hf.mono fun p hp=>by have:=hp.2 jD;omega)
    refine ⟨hne,?_⟩
    rcases hc with hc|⟨p,hp,hpp,ht,hpt,htn⟩
    · exact absurd (hc.mono fun p hp=>by rw [hp];exact hXY) hfree
    · have wt:=(w.t3 X).1
      have hs:n'.table.self.addr=X:=wt.self hn'
      have hkn:∀ q∈Wy n'.table,q.addr=o∨q.addr=Y:=fun q hq=>by
        have h1:=(Pd hf q hq).1
        have h2:=(Qf (wt.get hn').1.1 q hq).2.1
        omega
      have hYk:=CQ (wt.get hn').1.1 (by rw [hs];exact hXY) hfree
      rcases hkn p hp with e|e
      · right
        have hut:(unping n).turn=n.turn:=by unfold unping;split <;> rfl
        refine ⟨p,hpp,e,?_,hut,by rw [htn,hut],(w.get hn).1.2.2.2.2.2.2.1.1⟩
        rw [← ht]
        have hr:((Wy n'.table).map Zr.addr).Pairwise (·<·):=IR jQ
        have ho1:o∈(Wy n'.table).map Zr.addr:=by rw [← e];exact G8 hp
        refine Zvw hr jD ?_ ?_ fun x hx=>?_
        · rcases Int.le_total o Y with h9|h9
          · rw [Int.min_eq_left h9];exact ho1
          · rw [Int.min_eq_right h9];exact hYk
        · rcases Int.le_total o Y with h9|h9
          · rw [Int.max_eq_right h9];exact hYk
          · rw [Int.max_eq_left h9];exact ho1
        · obtain ⟨q,hq,rfl⟩:=C0.1 hx
          have:=hkn q hq
          omega
      · left
        have hd:YC p.addr ns=none:=by
          rw [Wg,hk,e]
          intro h9
          rcases B7.1 h9 with h9|h9
          · exact haY h9.symm
          · exact hbY (B0.1 h9).symm
        rw [hpt,hd]
        exact e
theorem Two.free (h:Two pn were a b Y W) (hI:Stays W I) (hX:X=a∨X=b) (hfree:∀ ns n,W ns→YC X ns=some n→GoodT (fun p=>p.addr≠Y) n.table→I ns) (hw:W ns):I (itQ 3 ns):=by
  obtain ⟨o,ho,hoX⟩:∃ o,(o=a∨o=b)∧o≠X:=by
    rcases hX with e|e
    · exact ⟨b,.inr rfl,by rw [e];exact h.ne.1.symm⟩
    · exact ⟨a,.inl rfl,by rw [e];exact h.ne.1⟩
  have hR:∀ ns,W ns→Xt ns=HU X a b (T3 X (Zbo X a b ns)):=fun ns hw=>Ke (h.wn ns hw).2.1 hX
  have hmem:∀ ns,W ns→∃ n,YC X ns=some n:=fun ns hw=>by
    cases hg:YC X ns with
    | some n=>exact ⟨n,rfl⟩
    | none =>
      rw [Wg,(h.wn ns hw).2.1] at hg
      exact absurd (by rcases hX with e|e <;> rw [e] <;> simp) hg
  have fin:∀ ns n' (j:Nat),W ns→YC X (T3 X (Zbo X a b ns))=some n'→GoodT (fun p=>p.addr≠Y) n'.table→I (itQ (j+1) ns):=fun ns n' j hw hn' hf=>by
    have w3:=h.t3 _ X (h.pre (X:=X) hw)
    have hi:=hfree _ _ w3 hn' hf
    show I (itQ j (Xt ns))
    rw [hR ns hw]
    exact hI.it h j (h.post w3) (hI.post h w3 hi)
  have w0:W (Zbo X a b ns):=h.pre hw
  obtain ⟨n0,g0⟩:=hmem _ w0
  obtain ⟨n0',g0',c0⟩:=h.check w0 hX ho hoX g0
  rcases c0 with c0|⟨-,c0⟩
  · exact fin ns n0' 2 hw g0' c0
  · have hw1:=h.round hw
    obtain ⟨n1,g1,e1,t1⟩:=h.hop (h.t3 _ X w0) hX g0'
    rw [← hR ns hw] at g1
    obtain ⟨n1',g1',c1⟩:=h.check (h.pre hw1) hX ho hoX g1
    rcases c1 with c1|⟨p1,c1⟩
    · exact fin (Xt ns) n1' 1 hw1 g1' c1
    · have hw2:=h.round hw1
      obtain ⟨n2,g2,e2,t2⟩:=h.hop (h.t3 _ X (h.pre hw1)) hX g1'
      rw [← hR _ hw1] at g2
      obtain ⟨n2',g2',c2⟩:=h.check (h.pre hw2) hX ho hoX g2
      rcases c2 with c2|⟨p2,c2⟩
      · exact fin (Xt (Xt ns)) n2' 0 hw2 g2' c2
      · exfalso
        rcases c0 with c0|⟨q0,d0,f0,L0,u0,v0,z0⟩
        · exact p1 (e1.trans c0)
        · rcases c1 with c1|⟨q1,d1,f1,L1,u1,v1,z1⟩
          · exact p2 (e2.trans c1)
          · have hoY:o≠Y:=by rcases ho with e|e <;> rw [e];exact h.ne.2.1;exact h.ne.2.2.1
            have:=Zzc d0 d1 L0 L1 (by rw [u1,t1,v0,u0]) (by rw [u0];exact z0)
            omega
end
def W0 (pn:Int→Zr) (were:List Int) (a b Y:Int) (ns:List (Int×Nd)):Prop:=WN pn were ns∧ns.map (·.1)=[a,b]∧AllG (fun p=>p.addr=a∨p.addr=b∨p.addr=Y) ns
theorem Zqs (hab:a≠b) (haY:a≠Y) (hbY:b≠Y) (hY:0≤Y):Two pn were a b Y (W0 pn were a b Y) where
  wn:=fun ns h=>h
  t1:=fun ns x h=>⟨(h.1.t1 x).1,(h.1.t1 x).2.trans h.2.1,h.2.2.t1 h.1⟩
  t3:=fun ns x h=>⟨(h.1.t3 x).1,(h.1.t3 x).2.trans h.2.1,h.2.2.t3 h.1⟩
  t2:=fun ns x h=>⟨(h.1.t2 x).1,(h.1.t2 x).2.trans h.2.1,h.2.2.t2 h.1⟩
  ne:=⟨hab,haY,hbY,hY⟩
theorem W0.dead (h:W0 pn were a b Y ns) (haY:a≠Y) (hbY:b≠Y):YC Y ns=none:=by
  rw [Wg,h.2.1]
  grind
theorem Ziv {t:Tb} (hY:0≤Y) (h:GoodT (fun p=>p.addr≠Y) t):t.pred.addr≠Y:=by
  by_cases e:t.pred=Yj
  · rw [e];exact fun e=>absurd (show (-1:Int)=Y from e) jD
  · exact h.2.1 e
theorem At (hab:a≠b) (haY:a≠Y) (hbY:b≠Y) (hY:0≤Y) (hX:X=a∨X=b) (h:W0 pn were a b Y ns):NP Y X (itQ 3 ns) :=
  (Zqs hab haY hbY hY).free (I:=NP Y X) ⟨fun ns x h hi=>hi.t1 h.1 hY (h.dead haY hbY),fun ns x h hi=>hi.t3 h.1 hY,fun ns x h hi=>hi.t2 h.1 hY⟩ hX
    (fun ns n h hn hg m hm=>by rw [hn] at hm;rw [← A5 hm];exact Ziv hY hg) h
def QN (Y X:Int) (ns:List (Int×Nd)):Prop:=∀ m,YC X ns=some m→GoodT (fun p=>p.addr≠Y) m.table
theorem Qw (h:W0 pn were a b Y ns) (hX:X=a∨X=b) (ho:o=a∨o=b) (hoX:o≠X) {z:Int} {m:Nd} (hz:YC z ns=some m):z=X∨z=o:=by
  have hm:z∈ns.map (·.1):=by
    by_cases e:z∈ns.map (·.1)
    · exact e
    · rw [Wg.2 e] at hz;cases hz
  rw [h.2.1] at hm
  grind
theorem EQ (h:W0 pn were a b Y ns) (hX:X=a∨X=b) (ho:o=a∨o=b) (hoX:o≠X) (hu:Unj o ns) {s:Zr} {z:Int} (hs:s.addr=X):Vz ns s z=none:=by
  cases hf:Vz ns s z with
  | none=>rfl
  | some x =>
    obtain ⟨h1,h2,h3⟩:=Vi hf
    rcases Qw h hX ho hoX h1 with e|e
    · subst e
      exact absurd (hs.trans (h.1.self h1).symm) h3.2.1
    · subst e
      rw [hu x h1] at h2;cases h2
theorem Ay (h:W0 pn were a b Y ns) (hX:X=a∨X=b) (ho:o=a∨o=b) (hoX:o≠X) (hu:Unj o ns) {z:Int} (hz:z≠X):Vg ns z=none:=by
  cases hf:Vg ns z with
  | none=>rfl
  | some x =>
    obtain ⟨h1,h2⟩:=Uo hf
    rcases Qw h hX ho hoX h1 with e|e
    · exact absurd e hz
    · subst e
      rw [hu x h1] at h2;cases h2
theorem Zta (h:W0 pn were a b Y ns) (hX:X=a∨X=b) (ho:o=a∨o=b) (hoX:o≠X) (hu:Unj o ns) (hf:QN Y X ns):QN Y X (T1 x ns):=by
  intro m hm
  obtain ⟨m0,hm0⟩:=Xc (h.1.t1 x).2 hm
  have h0:=hf m0 hm0
  unfold T1 at hm
  cases hn:YC x ns with
  | none=>rw [hn] at hm;exact hf m hm
  | some n =>
    rw [hn] at hm
    have hm:YC X (if n.joined=true then DO x n ns else WM x (UJ ns n) ns)=some m:=hm
    have h1:=h.1.get hn
    by_cases hj:n.joined=true
    · rw [A6 hj] at hm
      have hxX:x=X:=by
        rcases Qw h hX ho hoX hn with e|e
        · exact e
        · subst e;rw [hu n hn] at hj;cases hj
      subst hxX
      have e0:n=m0:=A5 (hn.symm.trans hm0)
      have hr:=Tr (G:=fun p=>p.addr≠Y) h1.1 (by rw [e0];exact h0)
      by_cases hs:(ready n).table.succ=[]
      · unfold DO at hm
        rw [A6 hs,Vh h.1,A6 rfl] at hm
        rw [← A5 hm];exact hr.2.2
      · unfold DO at hm
        have hfo:=Tl hr.1.1 hs
        rw [A4 hs,Ay h hX ho hoX hu (fun e=>hfo.2.1 (by rw [e,hr.2.1,h.1.self hn]))] at hm
        rw [Vh h.1,A6 rfl] at hm
        rw [← A5 hm];exact hr.2.2
    · rw [A4 hj,Vh h.1] at hm
      by_cases e:X=x
      · rw [A6 e] at hm
        rw [← A5 hm]
        subst e
        have e0:n=m0:=A5 (hn.symm.trans hm0)
        have hb:∀ F,XS ns F (UY { Uj n with findID:=(Uj n).table.self.id,hops:=0 } (Uj n).boot).1=(UY { Uj n with findID:=(Uj n).table.self.id,hops:=0 } (Uj n).boot).1:=by
          intro F
          cases F with
          | zero=>rfl
          | succ F =>
            unfold XS
            rw [EQ h hX ho hoX hu (by show (Uj n).table.self.addr=X;rw [Rq,h.1.self hn])]
        unfold UJ
        rw [hb]
        show GoodT _ (Uj n).table
        rw [Rq,e0];exact h0
      · rw [A4 e] at hm;exact hf m hm
theorem CT (h:W0 pn were a b Y ns) (hf:QN Y X ns):QN Y X (T3 x ns):=by
  intro m hm
  by_cases e:X=x
  · subst e
    obtain ⟨m0,hm0⟩:=Xc (h.1.t3 X).2 hm
    rw [QK h.1 hm0] at hm
    rw [← A5 hm]
    exact Hm (hf m0 hm0)
  · rw [GT h.1 e] at hm;exact hf m hm
theorem Zsz (h:W0 pn were a b Y ns) (hX:X=a∨X=b) (ho:o=a∨o=b) (hoX:o≠X) (hu:Unj o ns) (hf:QN Y X ns):QN Y X (T2 x ns):=by
  intro m hm
  by_cases e:X=x
  · subst e
    obtain ⟨m0,hm0⟩:=Xc (h.1.t2 X).2 hm
    rw [RA h.1 hm0] at hm
    rw [← A5 hm]
    unfold OR
    have hu2:=Ps (hf m0 hm0)
    split
    · exact hf m0 hm0
    · split
      · exact SY hu2 fun _=>Tz hu2
      · split
        · exact hu2
        · have hb:∀ F (q:Nd),q.table.self.addr=X→XS ns F q=q:=by
            intro F q hq
            cases F with
            | zero=>rfl
            | succ F =>
              unfold XS
              rw [EQ h hX ho hoX hu hq]
          rw [hb _ _ (by show (unfind m0).table.self.addr=X;rw [KA,h.1.self hm0])]
          exact hu2
  · rw [Ow h.1 e] at hm;exact hf m hm
theorem Zbz (hab:a≠b) (haY:a≠Y) (hbY:b≠Y) (hY:0≤Y) (hX:X=a∨X=b) (ho:o=a∨o=b) (hoX:o≠X) (h:W0 pn were a b Y ns):Unj o (itQ 3 ns)→QN Y X (itQ 3 ns) :=
  (Zqs hab haY hbY hY).free (I:=fun ns=>Unj o ns→QN Y X ns)
    ⟨fun ns x h hi hu=>Zta h hX ho hoX ((PI h.1).unj hu) (hi ((PI h.1).unj hu)),
     fun ns x h hi hu=>CT h (hi ((NK h.1).unj hu)),
     fun ns x h hi hu=>Zsz h hX ho hoX ((NL h.1).unj hu) (hi ((NL h.1).unj hu))⟩ hX
    (fun ns n h hn hg hu m hm=>by rw [hn] at hm;rw [← A5 hm];exact hg) h
theorem Ziw {l:Lt} (hj:(YF n l).1.joined=false):(YF n l).1.table=n.table∧n.joined=false:=by
  unfold YF at hj ⊢
  split
  · grind
  · rename_i hc
    rw [A4 hc] at hj
    split
    · rename_i hd
      rw [A6 hd] at hj
      split
      · rename_i h1
        rw [A6 h1] at hj
        rw [Qb] at hj
        grind
      · grind
    · rename_i hd
      rw [A4 hd] at hj
      split
      · grind
      · rename_i h1;rw [A4 h1] at hj;exact ⟨rfl,hj⟩
theorem DH:∀ (F:Nat) (n:Nd),(XS ns F n).joined=false→(XS ns F n).table=n.table
  | 0,n,_=>rfl
  | F+1,n,hj=>by
    unfold XS at hj ⊢
    cases hf:Vz ns n.table.self n.findTo with
    | none=>rfl
    | some x =>
      rw [hf] at hj
      have hj:(match (YF n (Xq x (Xl n))).2 with
        | []=>(YF n (Xq x (Xl n))).1
        | _=>XS ns F (YF n (Xq x (Xl n))).1).joined=false:=hj
      show (match (YF n (Xq x (Xl n))).2 with
        | []=>(YF n (Xq x (Xl n))).1
        | _=>XS ns F (YF n (Xq x (Xl n))).1).table=_
      cases hs:(YF n (Xq x (Xl n))).2 with
      | nil=>rw [hs] at hj;exact (Ziw hj).1
      | cons y ys =>
        rw [hs] at hj
        have h1:=DH F _ hj
        rcases Pe (n:=n) (l:=Xq x (Xl n)) (by
          obtain ⟨g1,g2,g3⟩:=Vi hf
          exact C2 fun q=>by
            have:YF n (Xq x (Xl n))=(n,[]):=by unfold YF;rw [A6 (.inl q)]
            rw [this] at hs;cases hs) rfl with e|⟨e,-,-,-,-⟩
        · rw [hs] at e;cases e
        · refine h1.trans ?_
          rw [e];rfl
theorem Zgm (hab:a≠b) (haY:a≠Y) (hbY:b≠Y) (hY:0≤Y) (hX:X=a∨X=b) (ho:o=a∨o=b) (hoX:o≠X) (h:W0 pn were a b Y ns):Unj o (itQ 3 ns)→QN Y o (itQ 3 ns) :=
  (Zqs hab haY hbY hY).free (I:=fun ns=>Unj o ns→QN Y o ns)
    ⟨fun ns x h hi hu=>by
      have hu0:=(PI h.1).unj hu
      intro m hm
      obtain ⟨m0,hm0⟩:=Xc (h.1.t1 x).2 hm
      have h0:=hi hu0 m0 hm0
      by_cases e:o=x
      · subst e
        have g1:=RK h.1 hm0
        rw [hu0 m0 hm0] at g1
        have g1:YC o (T1 o ns)=some (UJ ns m0):=g1
        have e1:UJ ns m0=m:=A5 (g1.symm.trans hm)
        have hj:=hu m hm
        rw [← e1] at hj ⊢
        have h1:=DH 33 _ hj
        have h1:(UJ ns m0).table=(Uj m0).table:=h1
        rw [h1,Rq];exact h0
      · cases hn:YC x ns with
        | none =>
          unfold T1 at hm
          rw [hn] at hm
          rw [A5 (hm0.symm.trans hm)] at h0
          exact h0
        | some n =>
          unfold T1 at hm
          rw [hn] at hm
          have hm:YC o (if n.joined=true then DO x n ns else WM x (UJ ns n) ns)=some m:=hm
          have hxX:x=X:=(Qw h hX ho hoX hn).resolve_right fun q=>e q.symm
          subst hxX
          have fin:∀ z,YC o (WM x z ns)=some m→GoodT (fun p=>p.addr≠Y) m.table:=fun z hz=>by
            rw [Vh h.1,A4 e] at hz
            rw [A5 (hm0.symm.trans hz)] at h0
            exact h0
          by_cases hj:n.joined=true
          · rw [A6 hj] at hm
            unfold DO at hm
            by_cases hs:(ready n).table.succ=[]
            · rw [A6 hs] at hm;exact fin _ hm
            · have hr:=Tr (h.1.get hn).1 (h.1.get hn).2.2
              have hfo:=Tl hr.1.1 hs
              rw [A4 hs,Ay h hX ho hoX hu0 (fun e=>hfo.2.1 (by rw [e,hr.2.1,h.1.self hn]))] at hm
              exact fin _ hm
          · rw [A4 hj] at hm;exact fin _ hm,
     fun ns x h hi hu=>CT h (hi ((NK h.1).unj hu)),
     fun ns x h hi hu=>by
      have hu0:=(NL h.1).unj hu
      intro m hm
      by_cases e:o=x
      · subst e
        obtain ⟨m0,hm0⟩:=Xc (h.1.t2 o).2 hm
        rw [RA h.1 hm0] at hm
        have e1:OR ns m0=m0:=by unfold OR;rw [A6 (hu0 m0 hm0)]
        rw [e1] at hm
        rw [← A5 hm];exact hi hu0 m0 hm0
      · rw [Ow h.1 e] at hm;exact hi hu0 m hm⟩ ho
    (fun ns n h hn hg hu m hm=>by rw [hn] at hm;rw [← A5 hm];exact hg) h
end
end Go.Esp
