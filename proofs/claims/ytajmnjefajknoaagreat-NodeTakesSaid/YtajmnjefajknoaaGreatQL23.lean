/-
  Texts of this claim, one behind the other: T13, T14, T15, TableS, T16, SortL, SortM, T17, T18, T19, SmallN, T20, TableL, NodeM, Frz, NodeT, Rules8, Rules10, Rules11, Rules12, Core2, Rules13, Rules14, NodeY, Rules9.
-/
import Derived.Test.YtajmnjefajknoaaGreatQL22
import Derived.Shelf.SlSortCmp.WholeK
import Derived.Shelf.SlGeneric
import Derived.Ground.SlsfProg
import Derived.Test.YtajmnjefajknoaaGreatRows
import Derived.Scope
import Derived.Lib.AppendZeros
import Derived.Lib.AppendZerosOnto
import Derived.Lib.Overlaps
import Derived.Laws.BytesArg
set_option linter.unusedSimpArgs false
set_option linter.unusedVariables false
set_option linter.unnecessarySimpa false
set_option maxRecDepth 8000
set_option maxHeartbeats 1000000
namespace Go.Proofs.YtajmnjefajknoaaGreat
open Go.Esp
theorem F.ok96:okFn Tryz.prog 96=true:=by kernel_rfl
theorem F.ok97:okFn Tryz.prog 97=true:=by kernel_rfl
theorem OwnF_ok (M:Mem) (t:ZQ) (ht0:ZQ.ok M t) (hbig:t.succ.l.length≤40∧t.fingers.l.length≤200):Fh Tryz.prog 32 [t.enc] M [] (fun M' v Hout=>∃ (s1:Sl ZF) (v1:Value) (v2:Value),v=aggV [.one (.int .i64 t.self.addr),Yt t.self.id,.one (.int .i64 t.pred.addr),Yt t.pred.id,.one v1,.one v2]∧v1=s1.val∧SlK M' ZF.segs 21 s1∧s1.l=t.succ.l∧OSl 25 21 v2 Hout (t.fingers.l.map ZF.segs)):=by
  obtain ⟨⟨Yd,Yi⟩,⟨Ym,Yy⟩,⟨Yq,Yp,ZU⟩,⟨Yg,Yf,ZE⟩⟩:=t
  have YT:SlK M ZF.segs 21 ⟨Yq,Yp,ZU⟩:=ht0.h0
  have WA:SlM M Yq (ZU.map ZF.segs) 21:=YT.h1
  have WI:(ZU.map ZF.segs).length=ZU.length:=List.length_map ..
  have WJ:ZU.length≤9223372036854775807:=YT.h2
  have WK:ZU.length≤Yp:=YT.h3
  have Yu:SlK M ZF.segs 21 ⟨Yg,Yf,ZE⟩:=ht0.h1
  have XQ:SlM M Yg (ZE.map ZF.segs) 21:=Yu.h1
  have Wc:(ZE.map ZF.segs).length=ZE.length:=List.length_map ..
  have XZ:ZE.length≤9223372036854775807:=Yu.h2
  have Wd:ZE.length≤Yf:=Yu.h3
  have hb:=hbig
  simp only at hb
  refine fh_enter Tryz.func32 rfl Tryz.ntmps32 rfl ?_;intro H
  refine ZK (Zm (l:=[0,1]) rfl ?_)
  refine Xk ?_;intro b1
  refine YW F.zero28 ?_;intro b2
  refine Zo (Zn (Y_pk [2,1] ?_));refine ZK (Zm (l:=[0]) rfl ?_);refine ZB ?_;refine Zo (Zn (ZK (Zm (l:=[0,1,2,3,4]) rfl ?_)));refine Zx ?_;refine Zk F.foff28_2 ?_;refine ZD F.lay26 ?_
  refine Vy (m:=1000000) rfl rfl rfl rfl rfl F.elem26 F.zero25 (by exact Ww rfl) rfl (by exact OSl.nil) (by repeat first|exact Rem.here _|exact Rem.two|apply Rem.skip|apply Rem.over) (WA) ZF.flat (by (simp;omega)) (by decide) rfl ?_;intro v5 hs4 ho3;obtain ⟨adv5,cpv5,rfl⟩:=ho3.val
  refine ZB ?_;refine Zo (Zn (Y_pk [3,2,1] ?_));refine ZK (Zm (l:=[0]) rfl ?_);refine ZB ?_;refine Zo (Zn (ZK (Zm (l:=[0,1,2,3,4]) rfl ?_)));refine Zx ?_;refine Zk F.foff28_3 ?_;refine ZD F.lay26 ?_
  refine Vy (m:=1000000) rfl rfl rfl rfl rfl F.elem26 F.zero25 (by exact Ww rfl) rfl (by exact OSl.nil) (by repeat first|exact Rem.here _|exact Rem.two|apply Rem.skip|apply Rem.over) (XQ) ZF.flat (by (simp;omega)) (by decide) rfl ?_;intro v8 hs7 ho6;obtain ⟨adv8,cpv8,rfl⟩:=ho6.val
  refine ZB ?_;refine Zo (Zn (Y_pk [4,3,2,1] ?_));refine ZK (Zm (l:=[0,1,2,3,4,5,6,7]) rfl ?_);refine Zk F.foff28_0 ?_;refine ZD F.lay25 ?_;refine Zk F.foff28_1 ?_;refine ZD F.lay25 ?_
  iterate 2 refine Zx ?_
  refine Xr rfl rfl F.bld28 (.cons rfl (by constructor) (.cons rfl (by constructor) (.cons rfl (by constructor) (.cons rfl (by constructor) .nil)))) rfl rfl ?_;refine Yh F.lay28 ?_;refine Zo (Zn (Y_pk [2] ?_));refine Yo ?_
  refine Yk (.inr rfl) (.cell rfl (by repeat first|exact List.Mem.head _|refine List.Mem.tail _ ?_|refine List.mem_append_right _ ?_) F.lay28 rfl rfl .nil) (fun w hw=>?_)
  obtain ⟨M1,s1,g1,g2,g3,g4,g5⟩:=OSl.freezeK (f:=ZF.segs) (l:=ZU) (H:=hs7++H) ho3 (hw.c)
  exact ⟨_,M1,hs7,rfl,g1,g2,s1,_,_,rfl,g3,g5,g4,ho6⟩
theorem rPoint_ok (M:Mem) (t:ZQ) (k:Int) (p:ZF) (ht0:ZQ.ok M t):Esp.Fn Tryz.prog 132 [t.enc,.int .i64 k,p.enc] M (fun M' v=>TabPE M' v (WT t.tb k p)):=by
  obtain ⟨⟨Yd,Yi⟩,⟨Ym,Yy⟩,⟨Yq,Yp,ZU⟩,⟨Yg,Yf,ZE⟩⟩:=t
  obtain ⟨Xa,p_id⟩:=p
  have YT:SlK M ZF.segs 21 ⟨Yq,Yp,ZU⟩:=ht0.h0
  have WA:SlM M Yq (ZU.map ZF.segs) 21:=YT.h1
  have WI:(ZU.map ZF.segs).length=ZU.length:=List.length_map ..
  have WJ:ZU.length≤9223372036854775807:=YT.h2
  have WK:ZU.length≤Yp:=YT.h3
  have Yu:SlK M ZF.segs 21 ⟨Yg,Yf,ZE⟩:=ht0.h1
  have XQ:SlM M Yg (ZE.map ZF.segs) 21:=Yu.h1
  have Wc:(ZE.map ZF.segs).length=ZE.length:=List.length_map ..
  have XZ:ZE.length≤9223372036854775807:=Yu.h2
  have Wd:ZE.length≤Yf:=Yu.h3
  refine Wu Tryz.func132 rfl Tryz.ntmps132 rfl ?_;intro H
  refine ZK (Zm (l:=[0,1,2,3,4]) rfl ?_)
  refine Xk ?_;intro b1
  refine Xk ?_;intro b2
  refine YW F.zero28 ?_;intro b3
  iterate 2 refine ZB ?_
  refine Zo (Zn (Y_pk [8,7,6,5,3,1] ?_))
  iterate 2 refine ZK ?_
  refine Zm (l:=[0,1,2,3,4,5,6,7,8,9,10,11,12,13,14,15,16,17,18,19,20,21,22]) rfl ?_;refine ZD F.lay28 ?_;refine X_fs rfl rfl F.ok73 rfl (rIsT_ok _ ⟨⟨_,_⟩,⟨_,_⟩,⟨_,_,_⟩,⟨_,_,_⟩⟩ (by assumption)) rfl ?_
  rintro _ rfl
  refine Xj ?_;refine Zx ?_
  refine Yj 17 rfl (fun hc4=>?_) (fun hc4=>?_)
  ·replace hc4:=nT hc4
   iterate 2 refine Ya ?_
   refine ZO ?_;refine Zx ?_
   iterate 2 refine Ya ?_
   refine ZO ?_;refine Zx ?_
   iterate 10 refine Ya ?_
   refine ZO ?_;refine Zo (Zn (Y_pk [36,8,7,6,5,3,1] ?_));refine Xi rfl ?_;refine ZK (Zm (l:=[0,1,2,3]) rfl ?_);refine Xr rfl rfl F.bld28 (.nil) rfl rfl ?_;refine Yh F.lay28 ?_
   iterate 2 refine ZB ?_
   refine Zo (Zn (Y_pk [8,7,6,5,3,1] ?_));refine Yo (YS ?_)
   refine Yk (.inr rfl) (.cell rfl (by repeat first|exact List.Mem.head _|refine List.Mem.tail _ ?_|refine List.mem_append_right _ ?_) F.lay28 rfl rfl (.tmp rfl (.tmp rfl .nil))) (fun w hw=>?_)
   refine ⟨_,M,rfl,Mem.le.refl M,hw.c,?_⟩
   rw [show WT (ZQ.tb ⟨⟨Yd,Yi⟩,⟨Ym,Yy⟩,⟨Yq,Yp,ZU⟩,⟨Yg,Yf,ZE⟩⟩) k ⟨Xa,p_id⟩=(Tb.zero,0,1) from pointT_no (by rintro ⟨g1,⟨g2,g3⟩,g4⟩;first|exact absurd g1 (by assumption)|omega|(rcases g4 with g4|g4;exact absurd g4 (by assumption);exact absurd g4 (by assumption)))]
   exact ⟨_,rfl,WL⟩
  ·replace hc4:=nF hc4
   refine Zx ?_;refine YI ?_;refine ZO ?_;refine Zx ?_
   refine Yj 21 rfl (fun hc5=>?_) (fun hc5=>?_)
   ·replace hc5:=dT hc5
    iterate 2 refine Ya ?_
    refine ZO ?_;refine Zx ?_
    iterate 10 refine Ya ?_
    refine ZO ?_;refine Zo (Zn (Y_pk [36,8,7,6,5,3,1] ?_));refine Xi rfl ?_;refine ZK (Zm (l:=[0,1,2,3]) rfl ?_);refine Xr rfl rfl F.bld28 (.nil) rfl rfl ?_;refine Yh F.lay28 ?_
    iterate 2 refine ZB ?_
    refine Zo (Zn (Y_pk [8,7,6,5,3,1] ?_));refine Yo (YS ?_)
    refine Yk (.inr rfl) (.cell rfl (by repeat first|exact List.Mem.head _|refine List.Mem.tail _ ?_|refine List.mem_append_right _ ?_) F.lay28 rfl rfl (.tmp rfl (.tmp rfl .nil))) (fun w hw=>?_)
    refine ⟨_,M,rfl,Mem.le.refl M,hw.c,?_⟩
    rw [show WT (ZQ.tb ⟨⟨Yd,Yi⟩,⟨Ym,Yy⟩,⟨Yq,Yp,ZU⟩,⟨Yg,Yf,ZE⟩⟩) k ⟨Xa,p_id⟩=(Tb.zero,0,1) from pointT_no (by rintro ⟨g1,⟨g2,g3⟩,g4⟩;first|exact absurd g1 (by assumption)|omega|(rcases g4 with g4|g4;exact absurd g4 (by assumption);exact absurd g4 (by assumption)))]
    exact ⟨_,rfl,WL⟩
   ·replace hc5:=dF hc5
    refine Zx ?_;refine YI ?_;refine ZO ?_;refine Zx ?_
    refine Yj 25 rfl (fun hc6=>?_) (fun hc6=>?_)
    ·replace hc6:=dT hc6
     iterate 10 refine Ya ?_
     refine ZO ?_;refine Zo (Zn (Y_pk [36,8,7,6,5,3,1] ?_));refine Xi rfl ?_;refine ZK (Zm (l:=[0,1,2,3]) rfl ?_);refine Xr rfl rfl F.bld28 (.nil) rfl rfl ?_;refine Yh F.lay28 ?_
     iterate 2 refine ZB ?_
     refine Zo (Zn (Y_pk [8,7,6,5,3,1] ?_));refine Yo (YS ?_)
     refine Yk (.inr rfl) (.cell rfl (by repeat first|exact List.Mem.head _|refine List.Mem.tail _ ?_|refine List.mem_append_right _ ?_) F.lay28 rfl rfl (.tmp rfl (.tmp rfl .nil))) (fun w hw=>?_)
     refine ⟨_,M,rfl,Mem.le.refl M,hw.c,?_⟩
     rw [show WT (ZQ.tb ⟨⟨Yd,Yi⟩,⟨Ym,Yy⟩,⟨Yq,Yp,ZU⟩,⟨Yg,Yf,ZE⟩⟩) k ⟨Xa,p_id⟩=(Tb.zero,0,1) from pointT_no (by rintro ⟨g1,⟨g2,g3⟩,g4⟩;first|exact absurd g1 (by assumption)|omega|(rcases g4 with g4|g4;exact absurd g4 (by assumption);exact absurd g4 (by assumption)))]
     exact ⟨_,rfl,WL⟩
    ·replace hc6:=dF hc6
     refine ZD F.lay25 ?_;refine Zk F.foff28_0 ?_;refine ZD F.lay25 ?_
     refine WF (m:=20) rfl rfl rfl rfl rfl (by constructor) (by constructor) F.lay25 F.kinds25 rfl F.guard25 (by exact XL (⟨_,_⟩)) (by exact XL (⟨_,_⟩)) rfl rfl rfl ?_;intro c7 he8
     replace he8:c7=true↔¬(Segs.cells _=Segs.cells _):=he8
     obtain rfl:=neD he8 (ZF.inj (x:=⟨_,_⟩) (y:=⟨_,_⟩));clear he8
     refine Zx ?_
     refine Yj 30 rfl (fun hc9=>?_) (fun hc9=>?_)
     ·replace hc9:=nT hc9
      refine ZD F.lay28 ?_;refine ZD F.lay25 ?_;refine X_fs rfl rfl F.ok55 rfl (VI _ ⟨⟨_,_⟩,⟨_,_⟩,⟨_,_,_⟩,⟨_,_,_⟩⟩ ⟨_,_⟩) rfl ?_
      rintro _ rfl
      refine Xj ?_
      iterate 2 refine ZO ?_
      refine Zo (Zn (Y_pk [36,8,7,6,5,3,1] ?_))
      refine YA rfl (fun hc10=>?_) (fun hc10=>?_)
      ·replace hc10:=nT hc10
       simp only [ZF.eta,ZQ.eta,ZR.eta,ZP.eta,Yr.eta,ZW.eta,YQ.eta,Yc.eta] at hc10
       refine ZK (Zm (l:=[0,1,2,3]) rfl ?_);refine Xr rfl rfl F.bld28 (.nil) rfl rfl ?_;refine Yh F.lay28 ?_
       iterate 2 refine ZB ?_
       refine Zo (Zn (Y_pk [8,7,6,5,3,1] ?_));refine Yo (YS ?_)
       refine Yk (.inr rfl) (.cell rfl (by repeat first|exact List.Mem.head _|refine List.Mem.tail _ ?_|refine List.mem_append_right _ ?_) F.lay28 rfl rfl (.tmp rfl (.tmp rfl .nil))) (fun w hw=>?_)
       refine ⟨_,M,rfl,Mem.le.refl M,hw.c,?_⟩
       rw [show WT (ZQ.tb ⟨⟨Yd,Yi⟩,⟨Ym,Yy⟩,⟨Yq,Yp,ZU⟩,⟨Yg,Yf,ZE⟩⟩) k ⟨Xa,p_id⟩=(Tb.zero,0,1) from pointT_no (by rintro ⟨g1,⟨g2,g3⟩,g4⟩;first|exact absurd g1 (by assumption)|omega|(rcases g4 with g4|g4;exact absurd g4 (by assumption);exact absurd g4 (by assumption)))]
       exact ⟨_,rfl,WL⟩
      ·replace hc10:=nF hc10
       simp only [ZF.eta,ZQ.eta,ZR.eta,ZP.eta,Yr.eta,ZW.eta,YQ.eta,Yc.eta] at hc10
       refine YG (Zn (Y_pk [8,7,6,5,3,1] ?_));refine ZK (Zm (l:=[0,1,2,3]) rfl ?_)
       obtain ⟨kn,rfl⟩:∃ kn:Nat,k=kn:=⟨k.toNat,by omega⟩
       have hf160:ZE.length=160:=(show IsTb (ZQ.tb ⟨⟨Yd,Yi⟩,⟨Ym,Yy⟩,⟨Yq,Yp,ZU⟩,⟨Yg,Yf,ZE⟩⟩) by assumption).2.2.2.1
       refine ZD F.lay28 ?_;refine Ur rfl rfl F.ok32 rfl (OwnF_ok M ⟨⟨Yd,Yi⟩,⟨Ym,Yy⟩,⟨Yq,Yp,ZU⟩,⟨Yg,Yf,ZE⟩⟩ ht0 (isTb_small (t:=⟨⟨Yd,Yi⟩,⟨Ym,Yy⟩,⟨Yq,Yp,ZU⟩,⟨Yg,Yf,ZE⟩⟩) (by assumption))) (by repeat first|exact Rem.here _|exact Rem.two|apply Rem.skip|apply Rem.over) (fun _ _ _ hm hw=>(hw.lower (by exact hm)).c) (YV rfl) ?_
       rintro _ M1 hs8 hm1 ⟨s1,v1,v8,rfl,hs1,k_s1,hl1,ho8⟩
       obtain ⟨ad8,cp8,rfl⟩:=ho8.valL
       obtain ⟨s1_a,s1_c,s1_l⟩:=s1
       simp only [Sl.val] at hs1
       subst hs1
       simp only at hl1
       refine YW F.zero28 ?_;intro b11
       refine Yh F.lay28 ?_;refine Zo (Zn (Y_pk [9,8,7,6,5,3,1] ?_));refine ZK (Zm (l:=[0,1,2]) rfl ?_);refine ZD F.lay25 ?_
       refine YW F.zero25 ?_;intro b12
       refine Yh F.lay25 ?_;refine Zo (Zn (Y_pk [10,9,8,7,6,5,3,1] ?_))
       iterate 2 refine ZK ?_
       refine Zm (l:=[0,1,2,3]) rfl ?_;refine ZD F.lay25 ?_;refine Zk F.foff28_0 ?_;refine ZD F.lay25 ?_
       refine WF (m:=20) rfl rfl rfl rfl rfl (by constructor) (by constructor) F.lay25 F.kinds25 rfl F.guard25 (by exact XL (⟨_,_⟩)) (by exact XL (⟨_,_⟩)) rfl rfl rfl ?_;intro c13 he14
       replace he14:c13=true↔Segs.cells _=Segs.cells _:=he14
       obtain rfl:=eqD he14 (ZF.inj (x:=⟨_,_⟩) (y:=⟨_,_⟩));clear he14
       refine Zo (Zn (Y_pk [44,10,9,8,7,6,5,3,1] ?_))
       refine YA rfl (fun hc15=>?_) (fun hc15=>?_)
       ·replace hc15:=dT hc15
        contradiction
       ·replace hc15:=dF hc15
        refine YG (Zn (Y_pk [10,9,8,7,6,5,3,1] ?_))
        iterate 2 refine ZK ?_
        refine Zm (l:=[0,1]) rfl ?_;refine Zx ?_;refine ZB ?_;refine Zo (Zn (Y_pk [11,10,9,8,7,6,5,3,1] ?_));refine Xc (Y_pk [11,10,9,8,7,6,5,3,1] ?_);refine Vm (Hin:=hs8) (.succ .zero) (by repeat first|exact Rem.here _|exact Rem.two|apply Rem.skip|apply Rem.over) (fun (j:Nat) M9 h1 z=>M9=M1∧z=[(11,.int .i64 (j:Int))]∧kn≤j∧j≤160∧OSl 25 21 (.slice ad8 ZE.length cp8) h1 ((ptW ZE kn j (ZF.mk Xa p_id)).map ZF.segs)∧Vd ⟨Yd,Yi⟩ ⟨Xa,p_id⟩ kn kn (160-kn)=Vd ⟨Yd,Yi⟩ ⟨Xa,p_id⟩ kn j (160-j)) (fun j=>160-j) (kn) (⟨rfl,rfl,by omega,by omega,by rw [ptW_start];exact ho8,rfl⟩) ?_
        rintro j M2 h1 z hm2 ⟨hM2,rfl,hkj,hj,ho1,hI⟩
        subst hM2
        have hwl:(ptW ZE kn j (ZF.mk Xa p_id)).length=ZE.length:=ptW_len hkj (by omega)
        have hnw:((ptW ZE kn j (ZF.mk Xa p_id)).map ZF.segs).length=(ptW ZE kn j (ZF.mk Xa p_id)).length:=List.length_map ..
        iterate 2 refine ZK ?_
        refine Zm (l:=[0,1]) rfl ?_;refine Zx ?_;refine YI ?_;refine Zo (Zn ?_)
        refine YA rfl (fun hc20=>?_) (fun hc20=>?_)
        ·replace hc20:=dT hc20
         refine YG (Zn (ZK (Xc (ZK (Zm (l:=[0,1,2,3,4,5,6,7]) rfl ?_)))));refine Zx ?_;refine X_fs rfl rfl F.ok96 rfl (rPower_ok_in _ j (by omega)) rfl ?_
         rintro _ rfl
         refine Zx ?_
         iterate 2 refine XU ?_
         refine YW F.zero23 ?_;intro b21
         refine Yh F.lay23 ?_;refine ZB ?_;refine Zo (Zn (Y_pk [12,55,54,51,53,52,48,47,11,10,9,8,7,6,5,3,1] ?_))
         iterate 2 refine ZK ?_
         refine YK (l:=[0,1,2,3,4,5,6,7,8,9,10,11,12,13,14,15,16]) #[0,0,3,7,15,31,63,15,143,399,15,1935,15,4111,16383,32767,65535] _ rfl (by kernel_rfl) (by kernel_rfl) St.drawn (fun _ h=>h) ?_
         iterate 2 refine Zx ?_
         refine YI ?_;refine Zx ?_
         refine Yj 59 rfl (fun hc22=>?_) (fun hc22=>?_)
         ·replace hc22:=dT hc22
          refine Zk F.foff28_0 ?_;refine Zk F.foff25_1 ?_;refine ZD F.lay23 ?_;refine Zk F.foff28_0 ?_;refine Zk F.foff25_1 ?_
          iterate 2 refine ZD F.lay23 ?_
          refine X_fs rfl rfl F.ok97 rfl (rPlus_ok _ _ _) rfl ?_
          rintro _ rfl
          refine Zk F.foff25_1 ?_;refine ZD F.lay23 ?_;refine X_fs rfl rfl F.ok131 rfl (rHalf_ok _ _ _ _) rfl ?_
          rintro _ rfl
          refine Xj ?_;refine ZO ?_;refine Zo (Zn ?_)
          refine YA rfl (fun hc23=>?_) (fun hc23=>?_)
          ·replace hc23:=nT hc23
           refine ZK (Zm (l:=[0,1,2,3,4]) rfl ?_);refine ZD F.lay28 ?_;refine Zx ?_;refine Yh F.lay28 ?_
           iterate 2 refine ZB ?_
           refine Zo (Zn (Yo (YS (Xh ?_))))
           iterate 2 refine YS ?_
           refine Xh (YS ?_)
           refine Yk (.inr rfl) (.cell rfl (by repeat first|exact List.Mem.head _|refine List.Mem.tail _ ?_|refine List.mem_append_right _ ?_) F.lay28 rfl rfl (.tmp rfl (.tmp rfl .nil))) (fun w hw=>?_)
           obtain ⟨M9,s2,j1,j2,j3,j4,j5⟩:=OSl.freezeK (f:=ZF.segs) (H:=H) ho1 (hw.c)
           refine ⟨_,M9,rfl,hm1.trans j1,j2,?_⟩
           rw [show WT (ZQ.tb ⟨⟨Yd,Yi⟩,⟨Ym,Yy⟩,⟨Yq,Yp,ZU⟩,⟨Yg,Yf,ZE⟩⟩) ((kn:Nat):Int) ⟨Xa,p_id⟩=({ (ZQ.tb ⟨⟨Yd,Yi⟩,⟨Ym,Yy⟩,⟨Yq,Yp,ZU⟩,⟨Yg,Yf,ZE⟩⟩) with fingers:=ptW ZE kn j ⟨Xa,p_id⟩ },(j:Int),0) from ?_]
           ·exact ⟨_,rfl,Ws (s1:=⟨s1_a,s1_c,s1_l⟩) (s2:=s2) rfl j3 (k_s1.mono j1) j5 (by rw [j4,hl1];rfl)⟩
           ·exact pointT_is (j:=j) (by assumption) (by omega) (by exact .inr (by assumption)) (hI.trans (pointEnd_stop (by omega) (by omega) (by unfold UJ;exact decide_eq_false (by assumption)))) (show VY (ZQ.tb ⟨⟨Yd,Yi⟩,⟨Ym,Yy⟩,⟨Yq,Yp,ZU⟩,⟨Yg,Yf,ZE⟩⟩) ⟨Xa,p_id⟩=⟨Xa,p_id⟩ from if_neg (by assumption)) (if_neg (by omega))
          ·replace hc23:=nF hc23
           refine YG (Zn (Zm (l:=[0,1,2,3,4,5]) rfl ?_));refine Zk F.foff28_3 ?_;refine ZD F.lay26 ?_;refine Zx ?_;refine ZD F.lay25 ?_;refine YR rfl rfl rfl rfl F.elem26 (by rfl) (by (simp;omega)) (by exact OSl.plain (by assumption) (by (simp;omega))) rfl ?_
           obtain ⟨b6,rfl⟩:=ho1.someB (by omega)
           refine Ua (b:=b6) (j:=j) rfl rfl rfl rfl (by constructor) (YU rfl (XN XG)) F.lay25 rfl rfl ho1 (by repeat first|exact Rem.here _|exact Rem.two|apply Rem.skip|apply Rem.over) (by omega) ?_;intro hs6 ho6
           replace ho6:OSl 25 21 (.slice (some ⟨b6,0,none⟩) ZE.length cp8) hs6 ((ptW ZE kn (j+1) (ZF.mk Xa p_id)).map ZF.segs):=by rw [← ptW_set hkj (by omega),List.map_set];exact ho6.aZ (by simp;omega)
           refine Zo (XR (Zn (Zm (l:=[0,1,2]) rfl ?_)));refine Zx ?_;refine XE rfl rfl rfl rfl rfl (by exact Xe (by decide) (by omega)) rfl ?_;refine ZB ?_;refine Zo ?_;refine XJ (a':=[(11,_)]) (j+1) (hs6) (.cons (k:=11) rfl (.cons (k:=10) rfl (.cons (k:=9) rfl (.cons (k:=8) rfl (.cons (k:=7) rfl (.cons (k:=6) rfl (.cons (k:=5) rfl (.cons (k:=3) rfl (.cons (k:=1) rfl (.nil)))))))))) (by exact Mem.le.refl _) (fun w hw=>by first|exact hw|exact hw.c) ?_ ?_
           ·refine ⟨rfl,rfl,by omega,by omega,ho6,?_⟩
            rw [hI,pointEnd_go (by omega) (by rintro ⟨g1,g2⟩;unfold UJ at g2;simp_all)]
           ·omega
         ·replace hc22:=dF hc22
          iterate 12 refine Ya ?_
          refine ZO ?_;refine Zo (Zn (Wn rfl ?_));refine YG (Zn (Zm (l:=[0,1,2,3,4,5]) rfl ?_));refine Zk F.foff28_3 ?_;refine ZD F.lay26 ?_;refine Zx ?_;refine ZD F.lay25 ?_;refine YR rfl rfl rfl rfl F.elem26 (by rfl) (by (simp;omega)) (by exact OSl.plain (by assumption) (by (simp;omega))) rfl ?_
          obtain ⟨b6,rfl⟩:=ho1.someB (by omega)
          refine Ua (b:=b6) (j:=j) rfl rfl rfl rfl (by constructor) (YU rfl (XN XG)) F.lay25 rfl rfl ho1 (by repeat first|exact Rem.here _|exact Rem.two|apply Rem.skip|apply Rem.over) (by omega) ?_;intro hs6 ho6
          replace ho6:OSl 25 21 (.slice (some ⟨b6,0,none⟩) ZE.length cp8) hs6 ((ptW ZE kn (j+1) (ZF.mk Xa p_id)).map ZF.segs):=by rw [← ptW_set hkj (by omega),List.map_set];exact ho6.aZ (by simp;omega)
          refine Zo (XR (Zn (Zm (l:=[0,1,2]) rfl ?_)));refine Zx ?_;refine XE rfl rfl rfl rfl rfl (by exact Xe (by decide) (by omega)) rfl ?_;refine ZB ?_;refine Zo ?_;refine XJ (a':=[(11,_)]) (j+1) (hs6) (.cons (k:=11) rfl (.cons (k:=10) rfl (.cons (k:=9) rfl (.cons (k:=8) rfl (.cons (k:=7) rfl (.cons (k:=6) rfl (.cons (k:=5) rfl (.cons (k:=3) rfl (.cons (k:=1) rfl (.nil)))))))))) (by exact Mem.le.refl _) (fun w hw=>by first|exact hw|exact hw.c) ?_ ?_
          ·refine ⟨rfl,rfl,by omega,by omega,ho6,?_⟩
           rw [hI,pointEnd_go (by omega) (by rintro ⟨g1,g2⟩;omega)]
          ·omega
        ·replace hc20:=dF hc20
         refine XK ?_
         iterate 2 refine XH ?_
         refine Wh (Zn (Y_pk [9,8,7,6] ?_));refine ZK (Zm (l:=[0,1,2,3]) rfl ?_);refine ZD F.lay28 ?_;refine Yh F.lay28 ?_
         iterate 2 refine ZB ?_
         refine Zo (Zn (Y_pk [8,7,6] ?_));refine Yo ?_
         refine Yk (.inr rfl) (.cell rfl (by repeat first|exact List.Mem.head _|refine List.Mem.tail _ ?_|refine List.mem_append_right _ ?_) F.lay28 rfl rfl (.tmp rfl (.tmp rfl .nil))) (fun w hw=>?_)
         obtain rfl:j=160:=by omega
         obtain ⟨M9,s2,j1,j2,j3,j4,j5⟩:=OSl.freezeK (f:=ZF.segs) (H:=H) ho1 (hw.c)
         refine ⟨_,M9,rfl,hm1.trans j1,j2,?_⟩
         rw [show WT (ZQ.tb ⟨⟨Yd,Yi⟩,⟨Ym,Yy⟩,⟨Yq,Yp,ZU⟩,⟨Yg,Yf,ZE⟩⟩) ((kn:Nat):Int) ⟨Xa,p_id⟩=({ (ZQ.tb ⟨⟨Yd,Yi⟩,⟨Ym,Yy⟩,⟨Yq,Yp,ZU⟩,⟨Yg,Yf,ZE⟩⟩) with fingers:=ptW ZE kn 160 ⟨Xa,p_id⟩ },0,0) from ?_]
         ·exact ⟨_,rfl,Ws (s1:=⟨s1_a,s1_c,s1_l⟩) (s2:=s2) rfl j3 (k_s1.mono j1) j5 (by rw [j4,hl1];rfl)⟩
         ·exact pointT_is (j:=160) (by assumption) (by omega) (by exact .inr (by assumption)) hI (show VY (ZQ.tb ⟨⟨Yd,Yi⟩,⟨Ym,Yy⟩,⟨Yq,Yp,ZU⟩,⟨Yg,Yf,ZE⟩⟩) ⟨Xa,p_id⟩=⟨Xa,p_id⟩ from if_neg (by assumption)) (if_pos rfl)
     ·replace hc9:=nF hc9
      iterate 4 refine Ya ?_
      iterate 2 refine ZO ?_
      refine Zo (Zn (Y_pk [36,8,7,6,5,3,1] ?_));refine Wn rfl ?_;refine YG (Zn (Y_pk [8,7,6,5,3,1] ?_));refine ZK (Zm (l:=[0,1,2,3]) rfl ?_)
      obtain ⟨kn,rfl⟩:∃ kn:Nat,k=kn:=⟨k.toNat,by omega⟩
      have hf160:ZE.length=160:=(show IsTb (ZQ.tb ⟨⟨Yd,Yi⟩,⟨Ym,Yy⟩,⟨Yq,Yp,ZU⟩,⟨Yg,Yf,ZE⟩⟩) by assumption).2.2.2.1
      refine ZD F.lay28 ?_;refine Ur rfl rfl F.ok32 rfl (OwnF_ok M ⟨⟨Yd,Yi⟩,⟨Ym,Yy⟩,⟨Yq,Yp,ZU⟩,⟨Yg,Yf,ZE⟩⟩ ht0 (isTb_small (t:=⟨⟨Yd,Yi⟩,⟨Ym,Yy⟩,⟨Yq,Yp,ZU⟩,⟨Yg,Yf,ZE⟩⟩) (by assumption))) (by repeat first|exact Rem.here _|exact Rem.two|apply Rem.skip|apply Rem.over) (fun _ _ _ hm hw=>(hw.lower (by exact hm)).c) (YV rfl) ?_
      rintro _ M1 hs8 hm1 ⟨s1,v1,v8,rfl,hs1,k_s1,hl1,ho8⟩
      obtain ⟨ad8,cp8,rfl⟩:=ho8.valL
      obtain ⟨s1_a,s1_c,s1_l⟩:=s1
      simp only [Sl.val] at hs1
      subst hs1
      simp only at hl1
      refine YW F.zero28 ?_;intro b24
      refine Yh F.lay28 ?_;refine Zo (Zn (Y_pk [9,8,7,6,5,3,1] ?_));refine ZK (Zm (l:=[0,1,2]) rfl ?_);refine ZD F.lay25 ?_
      refine YW F.zero25 ?_;intro b25
      refine Yh F.lay25 ?_;refine Zo (Zn (Y_pk [10,9,8,7,6,5,3,1] ?_))
      iterate 2 refine ZK ?_
      refine Zm (l:=[0,1,2,3]) rfl ?_;refine ZD F.lay25 ?_;refine Zk F.foff28_0 ?_;refine ZD F.lay25 ?_
      refine WF (m:=20) rfl rfl rfl rfl rfl (by constructor) (by constructor) F.lay25 F.kinds25 rfl F.guard25 (by exact XL (⟨_,_⟩)) (by exact XL (⟨_,_⟩)) rfl rfl rfl ?_;intro c26 he27
      replace he27:c26=true↔Segs.cells _=Segs.cells _:=he27
      obtain rfl:=eqD he27 (ZF.inj (x:=⟨_,_⟩) (y:=⟨_,_⟩));clear he27
      refine Zo (Zn (Y_pk [44,10,9,8,7,6,5,3,1] ?_))
      refine YA rfl (fun hc28=>?_) (fun hc28=>?_)
      ·replace hc28:=dT hc28
       refine Zm (l:=[0,1]) rfl ?_;refine X_fs rfl rfl F.ok67 rfl (rNone_ok _) rfl ?_
       rintro _ rfl
       refine VA 45 rfl (show _=aggV [.one (.int .i64 (-1)),Yt 0] from rfl) ?_;refine Yh F.lay25 ?_;refine Zo (Zn (Y_pk [10,9,8,7,6,5,3,1] ?_))
       iterate 2 refine ZK ?_
       refine Zm (l:=[0,1]) rfl ?_;refine Zx ?_;refine ZB ?_;refine Zo (Zn (Y_pk [11,10,9,8,7,6,5,3,1] ?_));refine Xc (Y_pk [11,10,9,8,7,6,5,3,1] ?_);refine Vm (Hin:=hs8) (.succ .zero) (by repeat first|exact Rem.here _|exact Rem.two|apply Rem.skip|apply Rem.over) (fun (j:Nat) M9 h1 z=>M9=M1∧z=[(11,.int .i64 (j:Int))]∧kn≤j∧j≤160∧OSl 25 21 (.slice ad8 ZE.length cp8) h1 ((ptW ZE kn j Xf).map ZF.segs)∧Vd ⟨Yd,Yi⟩ ⟨Xa,p_id⟩ kn kn (160-kn)=Vd ⟨Yd,Yi⟩ ⟨Xa,p_id⟩ kn j (160-j)) (fun j=>160-j) (kn) (⟨rfl,rfl,by omega,by omega,by rw [ptW_start];exact ho8,rfl⟩) ?_
       rintro j M2 h1 z hm2 ⟨hM2,rfl,hkj,hj,ho1,hI⟩
       subst hM2
       have hwl:(ptW ZE kn j Xf).length=ZE.length:=ptW_len hkj (by omega)
       have hnw:((ptW ZE kn j Xf).map ZF.segs).length=(ptW ZE kn j Xf).length:=List.length_map ..
       iterate 2 refine ZK ?_
       refine Zm (l:=[0,1]) rfl ?_;refine Zx ?_;refine YI ?_;refine Zo (Zn ?_)
       refine YA rfl (fun hc29=>?_) (fun hc29=>?_)
       ·replace hc29:=dT hc29
        refine YG (Zn (ZK (Xc (ZK (Zm (l:=[0,1,2,3,4,5,6,7]) rfl ?_)))));refine Zx ?_;refine X_fs rfl rfl F.ok96 rfl (rPower_ok_in _ j (by omega)) rfl ?_
        rintro _ rfl
        refine Zx ?_
        iterate 2 refine XU ?_
        refine YW F.zero23 ?_;intro b30
        refine Yh F.lay23 ?_;refine ZB ?_;refine Zo (Zn (Y_pk [12,55,54,51,53,52,48,47,11,10,9,8,7,6,5,3,1] ?_))
        iterate 2 refine ZK ?_
        refine YK (l:=[0,1,2,3,4,5,6,7,8,9,10,11,12,13,14,15,16]) #[0,0,3,7,15,31,63,15,143,399,15,1935,15,4111,16383,32767,65535] _ rfl (by kernel_rfl) (by kernel_rfl) St.drawn (fun _ h=>h) ?_
        iterate 2 refine Zx ?_
        refine YI ?_;refine Zx ?_
        refine Yj 59 rfl (fun hc31=>?_) (fun hc31=>?_)
        ·replace hc31:=dT hc31
         refine Zk F.foff28_0 ?_;refine Zk F.foff25_1 ?_;refine ZD F.lay23 ?_;refine Zk F.foff28_0 ?_;refine Zk F.foff25_1 ?_
         iterate 2 refine ZD F.lay23 ?_
         refine X_fs rfl rfl F.ok97 rfl (rPlus_ok _ _ _) rfl ?_
         rintro _ rfl
         refine Zk F.foff25_1 ?_;refine ZD F.lay23 ?_;refine X_fs rfl rfl F.ok131 rfl (rHalf_ok _ _ _ _) rfl ?_
         rintro _ rfl
         refine Xj ?_;refine ZO ?_;refine Zo (Zn ?_)
         refine YA rfl (fun hc32=>?_) (fun hc32=>?_)
         ·replace hc32:=nT hc32
          refine ZK (Zm (l:=[0,1,2,3,4]) rfl ?_);refine ZD F.lay28 ?_;refine Zx ?_;refine Yh F.lay28 ?_
          iterate 2 refine ZB ?_
          refine Zo (Zn (Yo (YS (Xh ?_))))
          iterate 2 refine YS ?_
          refine Xh (YS ?_)
          refine Yk (.inr rfl) (.cell rfl (by repeat first|exact List.Mem.head _|refine List.Mem.tail _ ?_|refine List.mem_append_right _ ?_) F.lay28 rfl rfl (.tmp rfl (.tmp rfl .nil))) (fun w hw=>?_)
          obtain ⟨M9,s2,j1,j2,j3,j4,j5⟩:=OSl.freezeK (f:=ZF.segs) (H:=H) ho1 (hw.c)
          refine ⟨_,M9,rfl,hm1.trans j1,j2,?_⟩
          rw [show WT (ZQ.tb ⟨⟨Yd,Yi⟩,⟨Ym,Yy⟩,⟨Yq,Yp,ZU⟩,⟨Yg,Yf,ZE⟩⟩) ((kn:Nat):Int) ⟨Xa,p_id⟩=({ (ZQ.tb ⟨⟨Yd,Yi⟩,⟨Ym,Yy⟩,⟨Yq,Yp,ZU⟩,⟨Yg,Yf,ZE⟩⟩) with fingers:=ptW ZE kn j Xf },(j:Int),0) from ?_]
          ·exact ⟨_,rfl,Ws (s1:=⟨s1_a,s1_c,s1_l⟩) (s2:=s2) rfl j3 (k_s1.mono j1) j5 (by rw [j4,hl1];rfl)⟩
          ·exact pointT_is (j:=j) (by assumption) (by omega) (by exact .inl (by assumption)) (hI.trans (pointEnd_stop (by omega) (by omega) (by unfold UJ;exact decide_eq_false (by assumption)))) (show VY (ZQ.tb ⟨⟨Yd,Yi⟩,⟨Ym,Yy⟩,⟨Yq,Yp,ZU⟩,⟨Yg,Yf,ZE⟩⟩) ⟨Xa,p_id⟩=Xf from if_pos (by assumption)) (if_neg (by omega))
         ·replace hc32:=nF hc32
          refine YG (Zn (Zm (l:=[0,1,2,3,4,5]) rfl ?_));refine Zk F.foff28_3 ?_;refine ZD F.lay26 ?_;refine Zx ?_;refine ZD F.lay25 ?_;refine YR rfl rfl rfl rfl F.elem26 (by rfl) (by (simp;omega)) (by exact OSl.plain (by assumption) (by (simp;omega))) rfl ?_
          obtain ⟨b6,rfl⟩:=ho1.someB (by omega)
          refine Ua (b:=b6) (j:=j) rfl rfl rfl rfl (by constructor) (YU rfl (XN XG)) F.lay25 rfl rfl ho1 (by repeat first|exact Rem.here _|exact Rem.two|apply Rem.skip|apply Rem.over) (by omega) ?_;intro hs6 ho6
          replace ho6:OSl 25 21 (.slice (some ⟨b6,0,none⟩) ZE.length cp8) hs6 ((ptW ZE kn (j+1) Xf).map ZF.segs):=by rw [← ptW_set hkj (by omega),List.map_set];exact ho6.aZ (by simp;omega)
          refine Zo (XR (Zn (Zm (l:=[0,1,2]) rfl ?_)));refine Zx ?_;refine XE rfl rfl rfl rfl rfl (by exact Xe (by decide) (by omega)) rfl ?_;refine ZB ?_;refine Zo ?_;refine XJ (a':=[(11,_)]) (j+1) (hs6) (.cons (k:=11) rfl (.cons (k:=10) rfl (.cons (k:=9) rfl (.cons (k:=8) rfl (.cons (k:=7) rfl (.cons (k:=6) rfl (.cons (k:=5) rfl (.cons (k:=3) rfl (.cons (k:=1) rfl (.nil)))))))))) (by exact Mem.le.refl _) (fun w hw=>by first|exact hw|exact hw.c) ?_ ?_
          ·refine ⟨rfl,rfl,by omega,by omega,ho6,?_⟩
           rw [hI,pointEnd_go (by omega) (by rintro ⟨g1,g2⟩;unfold UJ at g2;simp_all)]
          ·omega
        ·replace hc31:=dF hc31
         iterate 12 refine Ya ?_
         refine ZO ?_;refine Zo (Zn (Wn rfl ?_));refine YG (Zn (Zm (l:=[0,1,2,3,4,5]) rfl ?_));refine Zk F.foff28_3 ?_;refine ZD F.lay26 ?_;refine Zx ?_;refine ZD F.lay25 ?_;refine YR rfl rfl rfl rfl F.elem26 (by rfl) (by (simp;omega)) (by exact OSl.plain (by assumption) (by (simp;omega))) rfl ?_
         obtain ⟨b6,rfl⟩:=ho1.someB (by omega)
         refine Ua (b:=b6) (j:=j) rfl rfl rfl rfl (by constructor) (YU rfl (XN XG)) F.lay25 rfl rfl ho1 (by repeat first|exact Rem.here _|exact Rem.two|apply Rem.skip|apply Rem.over) (by omega) ?_;intro hs6 ho6
         replace ho6:OSl 25 21 (.slice (some ⟨b6,0,none⟩) ZE.length cp8) hs6 ((ptW ZE kn (j+1) Xf).map ZF.segs):=by rw [← ptW_set hkj (by omega),List.map_set];exact ho6.aZ (by simp;omega)
         refine Zo (XR (Zn (Zm (l:=[0,1,2]) rfl ?_)));refine Zx ?_;refine XE rfl rfl rfl rfl rfl (by exact Xe (by decide) (by omega)) rfl ?_;refine ZB ?_;refine Zo ?_;refine XJ (a':=[(11,_)]) (j+1) (hs6) (.cons (k:=11) rfl (.cons (k:=10) rfl (.cons (k:=9) rfl (.cons (k:=8) rfl (.cons (k:=7) rfl (.cons (k:=6) rfl (.cons (k:=5) rfl (.cons (k:=3) rfl (.cons (k:=1) rfl (.nil)))))))))) (by exact Mem.le.refl _) (fun w hw=>by first|exact hw|exact hw.c) ?_ ?_
         ·refine ⟨rfl,rfl,by omega,by omega,ho6,?_⟩
          rw [hI,pointEnd_go (by omega) (by rintro ⟨g1,g2⟩;omega)]
         ·omega
       ·replace hc29:=dF hc29
        refine XK ?_
        iterate 2 refine XH ?_
        refine Wh (Zn (Y_pk [9,8,7,6] ?_));refine ZK (Zm (l:=[0,1,2,3]) rfl ?_);refine ZD F.lay28 ?_;refine Yh F.lay28 ?_
        iterate 2 refine ZB ?_
        refine Zo (Zn (Y_pk [8,7,6] ?_));refine Yo ?_
        refine Yk (.inr rfl) (.cell rfl (by repeat first|exact List.Mem.head _|refine List.Mem.tail _ ?_|refine List.mem_append_right _ ?_) F.lay28 rfl rfl (.tmp rfl (.tmp rfl .nil))) (fun w hw=>?_)
        obtain rfl:j=160:=by omega
        obtain ⟨M9,s2,j1,j2,j3,j4,j5⟩:=OSl.freezeK (f:=ZF.segs) (H:=H) ho1 (hw.c)
        refine ⟨_,M9,rfl,hm1.trans j1,j2,?_⟩
        rw [show WT (ZQ.tb ⟨⟨Yd,Yi⟩,⟨Ym,Yy⟩,⟨Yq,Yp,ZU⟩,⟨Yg,Yf,ZE⟩⟩) ((kn:Nat):Int) ⟨Xa,p_id⟩=({ (ZQ.tb ⟨⟨Yd,Yi⟩,⟨Ym,Yy⟩,⟨Yq,Yp,ZU⟩,⟨Yg,Yf,ZE⟩⟩) with fingers:=ptW ZE kn 160 Xf },0,0) from ?_]
        ·exact ⟨_,rfl,Ws (s1:=⟨s1_a,s1_c,s1_l⟩) (s2:=s2) rfl j3 (k_s1.mono j1) j5 (by rw [j4,hl1];rfl)⟩
        ·exact pointT_is (j:=160) (by assumption) (by omega) (by exact .inl (by assumption)) hI (show VY (ZQ.tb ⟨⟨Yd,Yi⟩,⟨Ym,Yy⟩,⟨Yq,Yp,ZU⟩,⟨Yg,Yf,ZE⟩⟩) ⟨Xa,p_id⟩=Xf from if_pos (by assumption)) (if_pos rfl)
      ·replace hc28:=dF hc28
       contradiction
end Go.Proofs.YtajmnjefajknoaaGreat
namespace Go.Proofs.YtajmnjefajknoaaGreat
open Go.Esp
theorem F.lay36:lay Tryz.prog 36=some (false,1):=by kernel_rfl
theorem F.ok144:okFn Tryz.prog 144=true:=by kernel_rfl
theorem F.ok153:okFn Tryz.prog 153=true:=by kernel_rfl
theorem F.ok85:okFn Tryz.prog 85=true:=by kernel_rfl
theorem F.ok86:okFn Tryz.prog 86=true:=by kernel_rfl
theorem F.zero3:WH Tryz.prog 3=some ((.int .i64 0)):=by kernel_rfl
theorem F.zero36:WH Tryz.prog 36=some ((.int .i64 0)):=by kernel_rfl
theorem starts_ok (M:Mem) (sa:Int) (si:Plc) (pa:Int) (pi:Plc) (a1:Option Addr) (n1 c1:Nat) (a2:Option Addr) (n2 c2:Nat) (k:Int):Esp.Fn Tryz.prog 144 [aggV [.one (.int .i64 sa),Yt si,.one (.int .i64 pa),Yt pi,.one (.slice a1 n1 c1),.one (.slice a2 n2 c2)],.int .i64 k] M (fun M' v=>∃ q1 q2,v=.func (.func 153) #[] #[.pointer (some ⟨q1,0,none⟩),.pointer (some ⟨q2,0,none⟩)]∧M' q1=some (rowO [.one (.int .i64 k)] 3)∧M' q2=some (rowO [.one (.int .i64 sa),Yt si,.one (.int .i64 pa),Yt pi,.one (.slice a1 n1 c1),.one (.slice a2 n2 c2)] 28)):=by
  refine Wu Tryz.func144 rfl Tryz.ntmps144 rfl ?_;intro H
  refine ZK (Zm (l:=[0,1,2]) rfl ?_)
  refine Xk ?_;intro b1
  refine Xk ?_;intro b2
  refine ZB ?_;refine Zo (Zn (Y_pk [4,3,2] ?_));refine ZK (Zm (l:=[0,1]) rfl ?_);refine X_makeFunc rfl rfl rfl rfl rfl ?_;refine ZB ?_;refine Zo (Zn (Y_pk [4] ?_));refine Yo ?_
  refine Yk (.inr rfl) (.tmp rfl .nil) (fun w hw=>?_)
  obtain ⟨g1,g2⟩:=hw.freeze
  obtain ⟨g3,g4⟩:=g2.freeze
  exact ⟨_,_,rfl,g1.trans g3,g4,_,_,rfl,Mem.get_of (Mem.add_self _ _ _) g3,Mem.add_self _ _ _⟩
theorem starts_seq (M:Mem) (sa:Int) (si:Plc) (pa:Int) (pi:Plc) (a1:Option Addr) (n1 c1:Nat) (a2:Option Addr) (n2 c2:Nat) (kn:Nat) (hkn:kn<160) (q1 q2:Nat) (h1:M q1=some (rowO [.one (.int .i64 (kn:Int))] 3)) (h2:M q2=some (rowO [.one (.int .i64 sa),Yt si,.one (.int .i64 pa),Yt pi,.one (.slice a1 n1 c1),.one (.slice a2 n2 c2)] 28)):Seqs Tryz.prog 153 [.pointer (some ⟨q1,0,none⟩),.pointer (some ⟨q2,0,none⟩)] (fun x:Nat×Plc=>[.int .i64 (x.1:Int),aggV [Yt x.2]]) (VS si kn) M []:=by
  intro lp J Jx hR M0 Jb G w hm0 hJ hw
  refine enter (S:=St M0 (Jb++G)) Tryz.func153 rfl Tryz.ntmps153 rfl hw ?_;refine ZK (Zm (l:=[0,1]) rfl ?_);refine X_load_mem rfl rfl rfl (by exact Mem.get_of (by assumption) (by repeat first|assumption|refine Mem.le.trans (by assumption) ?_)) F.lay3 rfl rfl rfl ?_;refine ZB ?_;refine Zo (Zn (Y_pk [4,0,2] ?_));refine Xc (Y_pk [4,0,2] ?_);refine Vm (Hin:=Jb) (.succ .zero) (by repeat first|exact Rem.here _|exact Rem.two|apply Rem.skip|apply Rem.over) (fun (k:Nat) M9 h1 z=>z=[(4,.int .i64 (k:Int))]∧kn≤k∧k≤160∧J ((List.range' kn (k-kn)).map fun j=>(j,si+powP j)) M9 h1) (fun k=>160-k) (kn) (⟨rfl,by omega,by omega,by rw [Nat.sub_self];exact hJ⟩) ?_
  rintro k M1 h1 z hm1 ⟨rfl,hk1,hk,hJ1⟩
  iterate 2 refine ZK ?_
  refine Zm (l:=[0,1]) rfl ?_;refine Zx ?_;refine YI ?_;refine Zo (Zn ?_)
  refine YA rfl (fun hc1=>?_) (fun hc1=>?_)
  ·replace hc1:=dT hc1
   refine YG (Zn (ZK (Xc (ZK (Zm (l:=[0,1,2,3,4,5,6,7]) rfl ?_)))));refine Zx ?_;refine X_fs rfl rfl F.ok85 rfl (Power_ok_in _ k (by omega)) rfl ?_
   rintro _ rfl
   refine Zx ?_
   iterate 2 refine XU ?_
   refine YW F.zero23 ?_;intro b2
   refine Yh F.lay23 ?_;refine ZB ?_;refine Zo (Zn (Y_pk [5,16,15,12,14,13,9,8,4,0,2] ?_));refine ZK (C_regionR (l:=[0,1,2,3,4,5,6,7,8]) (Hin:=h1) (by repeat first|exact Rem.here _|exact Rem.two|apply Rem.skip|apply Rem.over) rfl ?_)
   iterate 2 refine Zx ?_
   refine Zk F.foff28_0 ?_;refine Zk F.foff25_1 ?_;refine X_load_mem rfl rfl rfl (by exact Mem.get_of (by assumption) (by repeat first|assumption|refine Mem.le.trans (by assumption) ?_)) F.lay23 rfl rfl rfl ?_;refine ZD F.lay23 ?_;refine X_fs rfl rfl F.ok86 rfl (Plus_ok _ _ _) rfl ?_
   rintro _ rfl
   refine X_yield (x:=(k,si+powP k)) (pre:=((List.range' kn (k-kn)).map fun j=>(j,si+powP j))) (post:=VS si (k+1)) (Hb:=h1) rfl rfl rfl rfl rfl hR (startsL_at (by omega) (by omega)) (hm0.trans hm1) hJ1 (by repeat first|exact Rem.here _|exact Rem.two|apply Rem.skip|apply Rem.over) rfl (fun _ _ _ hm hw=>(hw.lower hm).c) rfl ?_ ?_
   ·intro M2 Jb2 hm2 hJ2
    refine Xj ?_;refine Zo (Zn (Wn rfl ?_));refine YG (XR (Zn (Zm (l:=[0,1,2]) rfl ?_)));refine Zx ?_;refine XE rfl rfl rfl rfl rfl (by exact Xe (by decide) (by omega)) rfl ?_;refine ZB ?_;refine Zo ?_;refine XJ (a':=[(4,_)]) (k+1) (Jb2) (.cons (k:=4) rfl (.cons (k:=0) rfl (.cons (k:=2) rfl (.nil)))) (hm1.trans hm2) (fun w hw=>by first|exact hw|exact hw.c) ?_ ?_
    ·exact ⟨rfl,by omega,by omega,by rw [startsL_pre (by omega)];exact hJ2⟩
    ·omega
   ·intro M2 Jb2 hm2 hJ2
    refine Xj ?_;refine Zo (Zn (Xi rfl ?_));refine Yo (Xh ?_)
    iterate 2 refine YS ?_
    refine Xh ?_
    refine Yk (.inr rfl) (.nil) (fun w hw=>?_)
    exact ⟨_,M2,Jb2,rfl,hm1.trans hm2,hw.c,.inr ⟨((List.range' kn (k-kn)).map fun j=>(j,si+powP j))++[(k,si+powP k)],VS si (k+1),by rw [startsL_at (j:=k) (by omega) (by omega)];simp,hJ2⟩⟩
  ·replace hc1:=dF hc1
   refine XK ?_
   iterate 2 refine XH ?_
   refine Wh ?_
   refine Yk (.inl rfl) (.nil) (fun w hw=>?_)
   obtain rfl:k=160:=by omega
   exact ⟨_,M1,h1,rfl,hm1,hw.c,.inl hJ1⟩
theorem Point_ok (M:Mem) (t:ZQ) (k:Int) (p:ZF) (ht0:ZQ.ok M t):Esp.Fn Tryz.prog 125 [t.enc,.int .i64 k,p.enc] M (fun M' v=>TabPE M' v (WT t.tb k p)):=by
  obtain ⟨⟨Yd,Yi⟩,⟨Ym,Yy⟩,⟨Yq,Yp,ZU⟩,⟨Yg,Yf,ZE⟩⟩:=t
  obtain ⟨Xa,p_id⟩:=p
  have YT:SlK M ZF.segs 21 ⟨Yq,Yp,ZU⟩:=ht0.h0
  have WA:SlM M Yq (ZU.map ZF.segs) 21:=YT.h1
  have WI:(ZU.map ZF.segs).length=ZU.length:=List.length_map ..
  have WJ:ZU.length≤9223372036854775807:=YT.h2
  have WK:ZU.length≤Yp:=YT.h3
  have Yu:SlK M ZF.segs 21 ⟨Yg,Yf,ZE⟩:=ht0.h1
  have XQ:SlM M Yg (ZE.map ZF.segs) 21:=Yu.h1
  have Wc:(ZE.map ZF.segs).length=ZE.length:=List.length_map ..
  have XZ:ZE.length≤9223372036854775807:=Yu.h2
  have Wd:ZE.length≤Yf:=Yu.h3
  refine fnM_enter Tryz.func125 rfl Tryz.ntmps125 rfl ?_;intro H
  refine ZK (Zm (l:=[0,1,2,3,4,5]) rfl ?_)
  refine Xk ?_;intro b1
  refine Xk ?_;intro b2
  refine Xk ?_;intro b3
  refine YW F.zero28 ?_;intro b4
  refine YW F.zero3 ?_;intro b5
  refine YW F.zero36 ?_;intro b6
  refine Zo (Zn (Y_pk [8,7,6,5,4,3] ?_))
  iterate 2 refine ZK ?_
  refine Zm (l:=[0,1,2,3,4,5,6,7,8,9,10,11,12,13,14,15,16,17,18,19,20,21,22]) rfl ?_;refine ZD F.lay28 ?_;refine X_fs rfl rfl F.ok70 rfl (IsT_ok _ ⟨⟨_,_⟩,⟨_,_⟩,⟨_,_,_⟩,⟨_,_,_⟩⟩ (by assumption)) rfl ?_
  rintro _ rfl
  refine Xj ?_;refine Zx ?_
  refine Yj 15 rfl (fun hc7=>?_) (fun hc7=>?_)
  ·replace hc7:=nT hc7
   iterate 2 refine Ya ?_
   refine ZO ?_;refine Zx ?_
   iterate 2 refine Ya ?_
   refine ZO ?_;refine Zx ?_
   iterate 10 refine Ya ?_
   refine ZO ?_;refine Zo (Zn (Y_pk [34,8,7,6,5,4,3] ?_));refine Xi rfl ?_;refine ZK (Zm (l:=[0,1,2,3]) rfl ?_);refine Xr rfl rfl F.bld28 (.nil) rfl rfl ?_;refine Yh F.lay28 ?_;refine Yh F.lay3 ?_;refine Yh F.lay36 ?_;refine Zo (Zn (Y_pk [8,7,6,5,4,3] ?_));refine Yo (YS ?_)
   refine K_endM0 (.inr rfl) (.cell rfl (by repeat first|exact List.Mem.head _|refine List.Mem.tail _ ?_|refine List.mem_append_right _ ?_) F.lay28 rfl rfl (.cell rfl (by repeat first|exact List.Mem.head _|refine List.Mem.tail _ ?_|refine List.mem_append_right _ ?_) F.lay3 rfl rfl (.cell rfl (by repeat first|exact List.Mem.head _|refine List.Mem.tail _ ?_|refine List.mem_append_right _ ?_) F.lay36 rfl rfl .nil))) (fun w hw=>?_)
   refine ⟨_,M,rfl,Mem.le.refl M,hw.c,?_⟩
   rw [show WT (ZQ.tb ⟨⟨Yd,Yi⟩,⟨Ym,Yy⟩,⟨Yq,Yp,ZU⟩,⟨Yg,Yf,ZE⟩⟩) k ⟨Xa,p_id⟩=(Tb.zero,0,1) from pointT_no (by rintro ⟨g1,⟨g2,g3⟩,g4⟩;first|exact absurd g1 (by assumption)|omega|(rcases g4 with g4|g4;exact absurd g4 (by assumption);exact absurd g4 (by assumption)))]
   exact ⟨_,rfl,WL⟩
  ·replace hc7:=nF hc7
   refine ZD F.lay3 ?_;refine YI ?_;refine ZO ?_;refine Zx ?_
   refine Yj 19 rfl (fun hc8=>?_) (fun hc8=>?_)
   ·replace hc8:=dT hc8
    iterate 2 refine Ya ?_
    refine ZO ?_;refine Zx ?_
    iterate 10 refine Ya ?_
    refine ZO ?_;refine Zo (Zn (Y_pk [34,8,7,6,5,4,3] ?_));refine Xi rfl ?_;refine ZK (Zm (l:=[0,1,2,3]) rfl ?_);refine Xr rfl rfl F.bld28 (.nil) rfl rfl ?_;refine Yh F.lay28 ?_;refine Yh F.lay3 ?_;refine Yh F.lay36 ?_;refine Zo (Zn (Y_pk [8,7,6,5,4,3] ?_));refine Yo (YS ?_)
    refine K_endM0 (.inr rfl) (.cell rfl (by repeat first|exact List.Mem.head _|refine List.Mem.tail _ ?_|refine List.mem_append_right _ ?_) F.lay28 rfl rfl (.cell rfl (by repeat first|exact List.Mem.head _|refine List.Mem.tail _ ?_|refine List.mem_append_right _ ?_) F.lay3 rfl rfl (.cell rfl (by repeat first|exact List.Mem.head _|refine List.Mem.tail _ ?_|refine List.mem_append_right _ ?_) F.lay36 rfl rfl .nil))) (fun w hw=>?_)
    refine ⟨_,M,rfl,Mem.le.refl M,hw.c,?_⟩
    rw [show WT (ZQ.tb ⟨⟨Yd,Yi⟩,⟨Ym,Yy⟩,⟨Yq,Yp,ZU⟩,⟨Yg,Yf,ZE⟩⟩) k ⟨Xa,p_id⟩=(Tb.zero,0,1) from pointT_no (by rintro ⟨g1,⟨g2,g3⟩,g4⟩;first|exact absurd g1 (by assumption)|omega|(rcases g4 with g4|g4;exact absurd g4 (by assumption);exact absurd g4 (by assumption)))]
    exact ⟨_,rfl,WL⟩
   ·replace hc8:=dF hc8
    refine ZD F.lay3 ?_;refine YI ?_;refine ZO ?_;refine Zx ?_
    refine Yj 23 rfl (fun hc9=>?_) (fun hc9=>?_)
    ·replace hc9:=dT hc9
     iterate 10 refine Ya ?_
     refine ZO ?_;refine Zo (Zn (Y_pk [34,8,7,6,5,4,3] ?_));refine Xi rfl ?_;refine ZK (Zm (l:=[0,1,2,3]) rfl ?_);refine Xr rfl rfl F.bld28 (.nil) rfl rfl ?_;refine Yh F.lay28 ?_;refine Yh F.lay3 ?_;refine Yh F.lay36 ?_;refine Zo (Zn (Y_pk [8,7,6,5,4,3] ?_));refine Yo (YS ?_)
     refine K_endM0 (.inr rfl) (.cell rfl (by repeat first|exact List.Mem.head _|refine List.Mem.tail _ ?_|refine List.mem_append_right _ ?_) F.lay28 rfl rfl (.cell rfl (by repeat first|exact List.Mem.head _|refine List.Mem.tail _ ?_|refine List.mem_append_right _ ?_) F.lay3 rfl rfl (.cell rfl (by repeat first|exact List.Mem.head _|refine List.Mem.tail _ ?_|refine List.mem_append_right _ ?_) F.lay36 rfl rfl .nil))) (fun w hw=>?_)
     refine ⟨_,M,rfl,Mem.le.refl M,hw.c,?_⟩
     rw [show WT (ZQ.tb ⟨⟨Yd,Yi⟩,⟨Ym,Yy⟩,⟨Yq,Yp,ZU⟩,⟨Yg,Yf,ZE⟩⟩) k ⟨Xa,p_id⟩=(Tb.zero,0,1) from pointT_no (by rintro ⟨g1,⟨g2,g3⟩,g4⟩;first|exact absurd g1 (by assumption)|omega|(rcases g4 with g4|g4;exact absurd g4 (by assumption);exact absurd g4 (by assumption)))]
     exact ⟨_,rfl,WL⟩
    ·replace hc9:=dF hc9
     refine ZD F.lay25 ?_;refine Zk F.foff28_0 ?_;refine ZD F.lay25 ?_
     refine WF (m:=20) rfl rfl rfl rfl rfl (by constructor) (by constructor) F.lay25 F.kinds25 rfl F.guard25 (by exact XL (⟨_,_⟩)) (by exact XL (⟨_,_⟩)) rfl rfl rfl ?_;intro c10 he11
     replace he11:c10=true↔¬(Segs.cells _=Segs.cells _):=he11
     obtain rfl:=neD he11 (ZF.inj (x:=⟨_,_⟩) (y:=⟨_,_⟩));clear he11
     refine Zx ?_
     refine Yj 28 rfl (fun hc12=>?_) (fun hc12=>?_)
     ·replace hc12:=nT hc12
      refine ZD F.lay28 ?_;refine ZD F.lay25 ?_;refine X_fs rfl rfl F.ok118 rfl (other_ok _ ⟨⟨_,_⟩,⟨_,_⟩,⟨_,_,_⟩,⟨_,_,_⟩⟩ ⟨_,_⟩) rfl ?_
      rintro _ rfl
      refine Xj ?_
      iterate 2 refine ZO ?_
      refine Zo (Zn (Y_pk [34,8,7,6,5,4,3] ?_))
      refine YA rfl (fun hc13=>?_) (fun hc13=>?_)
      ·replace hc13:=nT hc13
       simp only [ZF.eta,ZQ.eta,ZR.eta,ZP.eta,Yr.eta,ZW.eta,YQ.eta,Yc.eta] at hc13
       refine ZK (Zm (l:=[0,1,2,3]) rfl ?_);refine Xr rfl rfl F.bld28 (.nil) rfl rfl ?_;refine Yh F.lay28 ?_;refine Yh F.lay3 ?_;refine Yh F.lay36 ?_;refine Zo (Zn (Y_pk [8,7,6,5,4,3] ?_));refine Yo (YS ?_)
       refine K_endM0 (.inr rfl) (.cell rfl (by repeat first|exact List.Mem.head _|refine List.Mem.tail _ ?_|refine List.mem_append_right _ ?_) F.lay28 rfl rfl (.cell rfl (by repeat first|exact List.Mem.head _|refine List.Mem.tail _ ?_|refine List.mem_append_right _ ?_) F.lay3 rfl rfl (.cell rfl (by repeat first|exact List.Mem.head _|refine List.Mem.tail _ ?_|refine List.mem_append_right _ ?_) F.lay36 rfl rfl .nil))) (fun w hw=>?_)
       refine ⟨_,M,rfl,Mem.le.refl M,hw.c,?_⟩
       rw [show WT (ZQ.tb ⟨⟨Yd,Yi⟩,⟨Ym,Yy⟩,⟨Yq,Yp,ZU⟩,⟨Yg,Yf,ZE⟩⟩) k ⟨Xa,p_id⟩=(Tb.zero,0,1) from pointT_no (by rintro ⟨g1,⟨g2,g3⟩,g4⟩;first|exact absurd g1 (by assumption)|omega|(rcases g4 with g4|g4;exact absurd g4 (by assumption);exact absurd g4 (by assumption)))]
       exact ⟨_,rfl,WL⟩
      ·replace hc13:=nF hc13
       simp only [ZF.eta,ZQ.eta,ZR.eta,ZP.eta,Yr.eta,ZW.eta,YQ.eta,Yc.eta] at hc13
       refine YG (Zn (Y_pk [8,7,6,5,4,3] ?_));refine ZK (Zm (l:=[0,1,2]) rfl ?_)
       obtain ⟨kn,rfl⟩:∃ kn:Nat,k=kn:=⟨k.toNat,by omega⟩
       have hf160:ZE.length=160:=(show IsTb (ZQ.tb ⟨⟨Yd,Yi⟩,⟨Ym,Yy⟩,⟨Yq,Yp,ZU⟩,⟨Yg,Yf,ZE⟩⟩) by assumption).2.2.2.1
       refine ZD F.lay25 ?_
       refine YW F.zero25 ?_;intro b14
       refine Yh F.lay25 ?_;refine Zo (Zn (Y_pk [9,8,7,6,5,4,3] ?_))
       iterate 2 refine ZK ?_
       refine Zm (l:=[0,1,2,3]) rfl ?_;refine ZD F.lay25 ?_;refine Zk F.foff28_0 ?_;refine ZD F.lay25 ?_
       refine WF (m:=20) rfl rfl rfl rfl rfl (by constructor) (by constructor) F.lay25 F.kinds25 rfl F.guard25 (by exact XL (⟨_,_⟩)) (by exact XL (⟨_,_⟩)) rfl rfl rfl ?_;intro c15 he16
       replace he16:c15=true↔Segs.cells _=Segs.cells _:=he16
       obtain rfl:=eqD he16 (ZF.inj (x:=⟨_,_⟩) (y:=⟨_,_⟩));clear he16
       refine Zo (Zn (Y_pk [40,9,8,7,6,5,4,3] ?_))
       refine YA rfl (fun hc17=>?_) (fun hc17=>?_)
       ·replace hc17:=dT hc17
        contradiction
       ·replace hc17:=dF hc17
        refine YG (Zn (Y_pk [9,8,7,6,5,4,3] ?_));refine ZK (Zm (l:=[0,1,2,3,4]) rfl ?_);refine Zk F.foff28_3 ?_;refine ZD F.lay26 ?_;refine Ur rfl rfl F.ok106 rfl (CloneP_ok M Yg Yf ZE Yu (by omega)) (by repeat first|exact Rem.here _|exact Rem.two|apply Rem.skip|apply Rem.over) (fun _ _ _ hm hw=>(hw.lower (by exact hm)).c) (YV rfl) ?_
        rintro v8 M1 hs8 hm1 ⟨hM1,ho8⟩;subst M1
        obtain ⟨ad8,cp8,rfl⟩:=ho8.valL
        refine Zk F.foff28_3 ?_;refine Yh F.lay26 ?_;refine Zo (Zn (Y_pk [9,8,7,6,5,4,3] ?_))
        iterate 2 refine ZK ?_
        refine Zm (l:=[0,1,2]) rfl ?_;refine ZD F.lay28 ?_;refine ZD F.lay3 ?_;refine X_fn rfl rfl F.ok144 rfl (starts_ok M _ _ _ _ _ _ _ _ _ _ _) rfl ?_
        rintro _ M2 hm2 ⟨q1,q2,rfl,hq1,hq2⟩
        refine Zo (Zn (Y_pk [48,9,8,7,6,5,4,3] ?_));refine Xc (Y_pk [48,9,8,7,6,5,4,3] ?_);refine C_rangeFunc (enc:=(fun x:Nat×Plc=>[.int .i64 (x.1:Int),aggV [Yt x.2]])) (xs:=VS Yi kn) (Hi:=[]) (Hu:=(b4,rowO [.one (.int .i64 0),Yt 0,.one (.int .i64 0),Yt 0,.one (.slice none 0 0),.one (.slice none 0 0)] 28)::(b5,rowO [.one (.int .i64 0)] 3)::(b6,rowO [.one (.int .i64 0)] 36)::(b1,rowO [.one (.int .i64 Yd),Yt Yi,.one (.int .i64 Ym),Yt Yy,.one (Sl.val ⟨Yq,Yp,ZU⟩),.one (.slice ad8 ZE.length cp8)] 28)::(b2,rowO [.one (.int .i64 (kn:Int))] 3)::(b3,rowO [.one (.int .i64 Xa),Yt p_id] 25)::(b14,rowO [.one (.int .i64 Xa),Yt p_id] 25)::hs8) (H0:=H) (fun pre M9 Hu=>∃ hs,Hu=(b4,rowO [.one (.int .i64 0),Yt 0,.one (.int .i64 0),Yt 0,.one (.slice none 0 0),.one (.slice none 0 0)] 28)::(b5,rowO [.one (.int .i64 0)] 3)::(b6,rowO [.one (.int .i64 0)] 36)::(b1,rowO [.one (.int .i64 Yd),Yt Yi,.one (.int .i64 Ym),Yt Yy,.one (Sl.val ⟨Yq,Yp,ZU⟩),.one (.slice ad8 ZE.length cp8)] 28)::(b2,rowO [.one (.int .i64 (kn:Int))] 3)::(b3,rowO [.one (.int .i64 Xa),Yt p_id] 25)::(b14,rowO [.one (.int .i64 Xa),Yt p_id] 25)::hs∧OSl 25 21 (.slice ad8 ZE.length cp8) hs ((ptW ZE kn (kn+pre.length) (ZF.mk Xa p_id)).map ZF.segs)∧Vd ⟨Yd,Yi⟩ ⟨Xa,p_id⟩ kn kn (160-kn)=Vd ⟨Yd,Yi⟩ ⟨Xa,p_id⟩ kn (kn+pre.length) (160-(kn+pre.length))) (fun c pre M9 Hu=>c=.ret∧∃ (hs:Hp) (j:Nat),Hu=(b4,rowO [.one (.int .i64 Yd),Yt Yi,.one (.int .i64 Ym),Yt Yy,.one (Sl.val ⟨Yq,Yp,ZU⟩),.one (.slice ad8 ZE.length cp8)] 28)::(b5,rowO [.one (.int .i64 (j:Int))] 3)::(b6,rowO [.one (.int .i64 0)] 36)::(b1,rowO [.one (.int .i64 Yd),Yt Yi,.one (.int .i64 Ym),Yt Yy,.one (Sl.val ⟨Yq,Yp,ZU⟩),.one (.slice ad8 ZE.length cp8)] 28)::(b2,rowO [.one (.int .i64 (kn:Int))] 3)::(b3,rowO [.one (.int .i64 Xa),Yt p_id] 25)::(b14,rowO [.one (.int .i64 Xa),Yt p_id] 25)::hs∧kn<j∧j<160∧OSl 25 21 (.slice ad8 ZE.length cp8) hs ((ptW ZE kn (j) (ZF.mk Xa p_id)).map ZF.segs)∧Vd ⟨Yd,Yi⟩ ⟨Xa,p_id⟩ kn kn (160-kn)=j) rfl F.ok153 (starts_seq M2 _ _ _ _ _ _ _ _ _ _ kn (by omega) q1 q2 hq1 hq2) (fun w hw=>hw.c) ⟨hs8,rfl,by rw [List.length_nil,Nat.add_zero,ptW_start];exact ho8,rfl⟩ (fun _=>rfl) rfl ?_ ?_ ?_
        ·rintro lp rdy bsy pre ⟨x1,x2⟩ post M3 _ G hxs hm3 ⟨hs3,rfl,ho1,hI⟩
         obtain ⟨hx9,hx⟩:=startsL_split hxs
         obtain ⟨rfl,rfl⟩:=Prod.mk.inj hx
         generalize hj9:kn+pre.length=j at *
         have hwl:(ptW ZE kn j (ZF.mk Xa p_id)).length=ZE.length:=ptW_len (by omega) (by omega)
         have hnw:((ptW ZE kn j (ZF.mk Xa p_id)).map ZF.segs).length=(ptW ZE kn j (ZF.mk Xa p_id)).length:=List.length_map ..
         simp only [List.cons_append,rEnv]
         refine ZK (Zm (l:=[0]) rfl ?_);refine ZB ?_;refine Zo (Zn (Y_pk [10,50,9,8,7,6,5,4,3] ?_));refine Zm (l:=[0,1]) rfl ?_
         refine YW F.zero23 ?_;intro b21
         refine Yh F.lay23 ?_;refine Zo (K_assign1 ?_);refine Xc ?_
         iterate 2 refine ZK ?_
         refine Zm (l:=[0,1,2,3,4,5,6,7,8,9,10,11,12]) rfl ?_;refine Zx ?_;refine ZD F.lay3 ?_;refine YI ?_;refine Zx ?_
         refine Yj 54 rfl (fun hc22=>?_) (fun hc22=>?_)
         ·replace hc22:=dT hc22
          refine Zk F.foff28_0 ?_;refine Zk F.foff25_1 ?_
          iterate 2 refine ZD F.lay23 ?_
          refine Zk F.foff25_1 ?_;refine ZD F.lay23 ?_;refine X_fs rfl rfl F.ok62 rfl (Half_ok _ _ _ _) rfl ?_
          rintro _ rfl
          refine Xj ?_;refine ZO ?_;refine Zo (Zn (Y_pk [63,10,9,8,7,6,3] ?_))
          refine YA rfl (fun hc23=>?_) (fun hc23=>?_)
          ·replace hc23:=nT hc23
           refine ZK (Zm (l:=[0,1,2,3,4]) rfl ?_);refine ZD F.lay28 ?_;refine Zx ?_;refine Yh F.lay28 ?_;refine Yh F.lay3 ?_;refine Yh F.lay36 ?_;refine Zo (Zn (Y_pk [10,9,8,7,6,3] ?_));refine Yo (YS (Xh ?_))
           refine K_rndR (Hu:=(b4,rowO [.one (.int .i64 Yd),Yt Yi,.one (.int .i64 Ym),Yt Yy,.one (Sl.val ⟨Yq,Yp,ZU⟩),.one (.slice ad8 ZE.length cp8)] 28)::(b5,rowO [.one (.int .i64 (j:Int))] 3)::(b6,rowO [.one (.int .i64 0)] 36)::(b1,rowO [.one (.int .i64 Yd),Yt Yi,.one (.int .i64 Ym),Yt Yy,.one (Sl.val ⟨Yq,Yp,ZU⟩),.one (.slice ad8 ZE.length cp8)] 28)::(b2,rowO [.one (.int .i64 (kn:Int))] 3)::(b3,rowO [.one (.int .i64 Xa),Yt p_id] 25)::(b14,rowO [.one (.int .i64 Xa),Yt p_id] 25)::hs3) (Mem.le.refl _) (fun w hw=>hw.c) ⟨rfl,hs3,j,rfl,by omega,by omega,ho1,?_⟩
           exact hI.trans (pointEnd_stop (by omega) (by omega) (by unfold UJ;exact decide_eq_false (by assumption)))
          ·replace hc23:=nF hc23
           refine YG (Zn (Y_pk [10,9,8,7,6,3] ?_));refine Zm (l:=[0,1,2,3,4,5]) rfl ?_;refine Zk F.foff28_3 ?_;refine ZD F.lay26 ?_;refine Zx ?_;refine ZD F.lay25 ?_;refine YR rfl rfl rfl rfl F.elem26 (by rfl) (by omega) (by exact OSl.plain (by assumption) (by (simp;omega))) rfl ?_
           obtain ⟨bF,rfl⟩:=ho1.someB (by omega)
           refine Ua (b:=bF) (j:=j) rfl rfl rfl rfl (by constructor) (YU rfl (XN XG)) F.lay25 rfl rfl ho1 (by repeat first|exact Rem.here _|exact Rem.two|apply Rem.skip|apply Rem.over) (by omega) ?_;intro hs6 ho6
           replace ho6:OSl 25 21 (.slice (some ⟨bF,0,none⟩) ZE.length cp8) hs6 ((ptW ZE kn (j+1) (ZF.mk Xa p_id)).map ZF.segs):=by rw [← ptW_set (by omega) (by omega),List.map_set];exact ho6.aZ (by simp;omega)
           refine Zo (XR ?_)
           refine K_rnd (Hu:=(b4,rowO [.one (.int .i64 0),Yt 0,.one (.int .i64 0),Yt 0,.one (.slice none 0 0),.one (.slice none 0 0)] 28)::(b5,rowO [.one (.int .i64 0)] 3)::(b6,rowO [.one (.int .i64 0)] 36)::(b1,rowO [.one (.int .i64 Yd),Yt Yi,.one (.int .i64 Ym),Yt Yy,.one (Sl.val ⟨Yq,Yp,ZU⟩),.one (.slice (some ⟨bF,0,none⟩) ZE.length cp8)] 28)::(b2,rowO [.one (.int .i64 (kn:Int))] 3)::(b3,rowO [.one (.int .i64 Xa),Yt p_id] 25)::(b14,rowO [.one (.int .i64 Xa),Yt p_id] 25)::hs6) (Mem.le.refl _) (fun w hw=>hw.c) ⟨hs6,rfl,?_,?_⟩
           ·rw [List.length_append,List.length_singleton,← Nat.add_assoc,hj9];exact ho6
           ·rw [List.length_append,List.length_singleton,← Nat.add_assoc,hj9,hI,pointEnd_go (by omega) (by rintro ⟨g1,g2⟩;unfold UJ at g2;simp_all)]
         ·replace hc22:=dF hc22
          iterate 8 refine Ya ?_
          refine ZO ?_;refine Zo (Zn (Y_pk [63,10,9,8,7,6,3] ?_));refine Wn rfl ?_;refine YG (Zn (Y_pk [10,9,8,7,6,3] ?_));refine Zm (l:=[0,1,2,3,4,5]) rfl ?_;refine Zk F.foff28_3 ?_;refine ZD F.lay26 ?_;refine Zx ?_;refine ZD F.lay25 ?_;refine YR rfl rfl rfl rfl F.elem26 (by rfl) (by omega) (by exact OSl.plain (by assumption) (by (simp;omega))) rfl ?_
          obtain ⟨bF,rfl⟩:=ho1.someB (by omega)
          refine Ua (b:=bF) (j:=j) rfl rfl rfl rfl (by constructor) (YU rfl (XN XG)) F.lay25 rfl rfl ho1 (by repeat first|exact Rem.here _|exact Rem.two|apply Rem.skip|apply Rem.over) (by omega) ?_;intro hs6 ho6
          replace ho6:OSl 25 21 (.slice (some ⟨bF,0,none⟩) ZE.length cp8) hs6 ((ptW ZE kn (j+1) (ZF.mk Xa p_id)).map ZF.segs):=by rw [← ptW_set (by omega) (by omega),List.map_set];exact ho6.aZ (by simp;omega)
          refine Zo (XR ?_)
          refine K_rnd (Hu:=(b4,rowO [.one (.int .i64 0),Yt 0,.one (.int .i64 0),Yt 0,.one (.slice none 0 0),.one (.slice none 0 0)] 28)::(b5,rowO [.one (.int .i64 0)] 3)::(b6,rowO [.one (.int .i64 0)] 36)::(b1,rowO [.one (.int .i64 Yd),Yt Yi,.one (.int .i64 Ym),Yt Yy,.one (Sl.val ⟨Yq,Yp,ZU⟩),.one (.slice (some ⟨bF,0,none⟩) ZE.length cp8)] 28)::(b2,rowO [.one (.int .i64 (kn:Int))] 3)::(b3,rowO [.one (.int .i64 Xa),Yt p_id] 25)::(b14,rowO [.one (.int .i64 Xa),Yt p_id] 25)::hs6) (Mem.le.refl _) (fun w hw=>hw.c) ⟨hs6,rfl,?_,?_⟩
          ·rw [List.length_append,List.length_singleton,← Nat.add_assoc,hj9];exact ho6
          ·rw [List.length_append,List.length_singleton,← Nat.add_assoc,hj9,hI,pointEnd_go (by omega) (by rintro ⟨g1,g2⟩;omega)]
        ·rintro D L o M3 _ hm3 ⟨hs3,rfl,ho1,hI⟩
         rw [show kn+(VS Yi kn).length=160 by unfold VS;simp;omega] at ho1 hI
         simp only [List.cons_append,List.nil_append]
         refine XR (Zn (Y_pk [8,7,6,3] ?_));refine ZK (Zm (l:=[0,1,2,3]) rfl ?_);refine ZD F.lay28 ?_;refine Yh F.lay28 ?_;refine Yh F.lay3 ?_;refine Yh F.lay36 ?_;refine Zo (Zn (Y_pk [8,7,6] ?_));refine Yo ?_
         refine K_endM (Ds:=[D]) (Hd:=[(D,.deferred (some []))]) (H:=(b4,rowO [.one (.int .i64 Yd),Yt Yi,.one (.int .i64 Ym),Yt Yy,.one (Sl.val ⟨Yq,Yp,ZU⟩),.one (.slice ad8 ZE.length cp8)] 28)::(b5,rowO [.one (.int .i64 0)] 3)::(b6,rowO [.one (.int .i64 0)] 36)::hs3++H) (.inr rfl) (.cell rfl (by repeat first|exact List.Mem.head _|refine List.Mem.tail _ ?_|refine List.mem_append_right _ ?_) F.lay28 rfl rfl (.cell rfl (by repeat first|exact List.Mem.head _|refine List.Mem.tail _ ?_|refine List.mem_append_right _ ?_) F.lay3 rfl rfl (.cell rfl (by repeat first|exact List.Mem.head _|refine List.Mem.tail _ ?_|refine List.mem_append_right _ ?_) F.lay36 rfl rfl .nil))) (fun w hw=>hw.c) (by simp) (by simp) (fun w hw=>?_)
         obtain ⟨M9,s2,j1,j2,j3,j4,j5⟩:=OSl.freezeK (f:=ZF.segs) (H:=H) ho1 (hw.c)
         refine ⟨_,M9,rfl,hm2.trans (hm3.trans j1),j2,?_⟩
         rw [show WT (ZQ.tb ⟨⟨Yd,Yi⟩,⟨Ym,Yy⟩,⟨Yq,Yp,ZU⟩,⟨Yg,Yf,ZE⟩⟩) ((kn:Nat):Int) ⟨Xa,p_id⟩=({ (ZQ.tb ⟨⟨Yd,Yi⟩,⟨Ym,Yy⟩,⟨Yq,Yp,ZU⟩,⟨Yg,Yf,ZE⟩⟩) with fingers:=ptW ZE kn 160 ⟨Xa,p_id⟩ },0,0) from ?_]
         ·exact ⟨_,rfl,Ws (s1:=⟨Yq,Yp,ZU⟩) (s2:=s2) rfl j3 (YT.mono (hm2.trans (hm3.trans j1))) j5 (by rw [j4];rfl)⟩
         ·exact pointT_is (j:=160) (by assumption) (by omega) (by exact .inr (by assumption)) hI (show VY (ZQ.tb ⟨⟨Yd,Yi⟩,⟨Ym,Yy⟩,⟨Yq,Yp,ZU⟩,⟨Yg,Yf,ZE⟩⟩) ⟨Xa,p_id⟩=⟨Xa,p_id⟩ from if_neg (by assumption)) (if_pos rfl)
        ·rintro c D L o M3 _ pre post hpp hm3 ⟨rfl,hs3,j,rfl,hj1,hj2,ho1,hI⟩
         simp only [List.cons_append,List.nil_append]
         refine Yo (Xh (YS ?_))
         refine K_endM (Ds:=[D]) (Hd:=[(D,.deferred (some []))]) (H:=(b4,rowO [.one (.int .i64 Yd),Yt Yi,.one (.int .i64 Ym),Yt Yy,.one (Sl.val ⟨Yq,Yp,ZU⟩),.one (.slice ad8 ZE.length cp8)] 28)::(b5,rowO [.one (.int .i64 (j:Int))] 3)::(b6,rowO [.one (.int .i64 0)] 36)::hs3++H) (.inr rfl) (.cell rfl (by repeat first|exact List.Mem.head _|refine List.Mem.tail _ ?_|refine List.mem_append_right _ ?_) F.lay28 rfl rfl (.cell rfl (by repeat first|exact List.Mem.head _|refine List.Mem.tail _ ?_|refine List.mem_append_right _ ?_) F.lay3 rfl rfl (.cell rfl (by repeat first|exact List.Mem.head _|refine List.Mem.tail _ ?_|refine List.mem_append_right _ ?_) F.lay36 rfl rfl .nil))) (fun w hw=>hw.c) (by simp) (by simp) (fun w hw=>?_)
         obtain ⟨M9,s2,j1,j2,j3,j4,j5⟩:=OSl.freezeK (f:=ZF.segs) (H:=H) ho1 (hw.c)
         refine ⟨_,M9,rfl,hm2.trans (hm3.trans j1),j2,?_⟩
         rw [show WT (ZQ.tb ⟨⟨Yd,Yi⟩,⟨Ym,Yy⟩,⟨Yq,Yp,ZU⟩,⟨Yg,Yf,ZE⟩⟩) ((kn:Nat):Int) ⟨Xa,p_id⟩=({ (ZQ.tb ⟨⟨Yd,Yi⟩,⟨Ym,Yy⟩,⟨Yq,Yp,ZU⟩,⟨Yg,Yf,ZE⟩⟩) with fingers:=ptW ZE kn j ⟨Xa,p_id⟩ },(j:Int),0) from ?_]
         ·exact ⟨_,rfl,Ws (s1:=⟨Yq,Yp,ZU⟩) (s2:=s2) rfl j3 (YT.mono (hm2.trans (hm3.trans j1))) j5 (by rw [j4];rfl)⟩
         ·exact pointT_is (j:=j) (by assumption) (by omega) (by exact .inr (by assumption)) hI (show VY (ZQ.tb ⟨⟨Yd,Yi⟩,⟨Ym,Yy⟩,⟨Yq,Yp,ZU⟩,⟨Yg,Yf,ZE⟩⟩) ⟨Xa,p_id⟩=⟨Xa,p_id⟩ from if_neg (by assumption)) (if_neg (by omega))
     ·replace hc12:=nF hc12
      iterate 4 refine Ya ?_
      iterate 2 refine ZO ?_
      refine Zo (Zn (Y_pk [34,8,7,6,5,4,3] ?_));refine Wn rfl ?_;refine YG (Zn (Y_pk [8,7,6,5,4,3] ?_));refine ZK (Zm (l:=[0,1,2]) rfl ?_)
      obtain ⟨kn,rfl⟩:∃ kn:Nat,k=kn:=⟨k.toNat,by omega⟩
      have hf160:ZE.length=160:=(show IsTb (ZQ.tb ⟨⟨Yd,Yi⟩,⟨Ym,Yy⟩,⟨Yq,Yp,ZU⟩,⟨Yg,Yf,ZE⟩⟩) by assumption).2.2.2.1
      refine ZD F.lay25 ?_
      refine YW F.zero25 ?_;intro b24
      refine Yh F.lay25 ?_;refine Zo (Zn (Y_pk [9,8,7,6,5,4,3] ?_))
      iterate 2 refine ZK ?_
      refine Zm (l:=[0,1,2,3]) rfl ?_;refine ZD F.lay25 ?_;refine Zk F.foff28_0 ?_;refine ZD F.lay25 ?_
      refine WF (m:=20) rfl rfl rfl rfl rfl (by constructor) (by constructor) F.lay25 F.kinds25 rfl F.guard25 (by exact XL (⟨_,_⟩)) (by exact XL (⟨_,_⟩)) rfl rfl rfl ?_;intro c25 he26
      replace he26:c25=true↔Segs.cells _=Segs.cells _:=he26
      obtain rfl:=eqD he26 (ZF.inj (x:=⟨_,_⟩) (y:=⟨_,_⟩));clear he26
      refine Zo (Zn (Y_pk [40,9,8,7,6,5,4,3] ?_))
      refine YA rfl (fun hc27=>?_) (fun hc27=>?_)
      ·replace hc27:=dT hc27
       refine Zm (l:=[0,1]) rfl ?_;refine X_fs rfl rfl F.ok66 rfl (VG _) rfl ?_
       rintro _ rfl
       refine VA 41 rfl (show _=aggV [.one (.int .i64 (-1)),Yt 0] from rfl) ?_;refine Yh F.lay25 ?_;refine Zo (Zn (Y_pk [9,8,7,6,5,4,3] ?_));refine ZK (Zm (l:=[0,1,2,3,4]) rfl ?_);refine Zk F.foff28_3 ?_;refine ZD F.lay26 ?_;refine Ur rfl rfl F.ok106 rfl (CloneP_ok M Yg Yf ZE Yu (by omega)) (by repeat first|exact Rem.here _|exact Rem.two|apply Rem.skip|apply Rem.over) (fun _ _ _ hm hw=>(hw.lower (by exact hm)).c) (YV rfl) ?_
       rintro v8 M1 hs8 hm1 ⟨hM1,ho8⟩;subst M1
       obtain ⟨ad8,cp8,rfl⟩:=ho8.valL
       refine Zk F.foff28_3 ?_;refine Yh F.lay26 ?_;refine Zo (Zn (Y_pk [9,8,7,6,5,4,3] ?_))
       iterate 2 refine ZK ?_
       refine Zm (l:=[0,1,2]) rfl ?_;refine ZD F.lay28 ?_;refine ZD F.lay3 ?_;refine X_fn rfl rfl F.ok144 rfl (starts_ok M _ _ _ _ _ _ _ _ _ _ _) rfl ?_
       rintro _ M2 hm2 ⟨q1,q2,rfl,hq1,hq2⟩
       refine Zo (Zn (Y_pk [48,9,8,7,6,5,4,3] ?_));refine Xc (Y_pk [48,9,8,7,6,5,4,3] ?_);refine C_rangeFunc (enc:=(fun x:Nat×Plc=>[.int .i64 (x.1:Int),aggV [Yt x.2]])) (xs:=VS Yi kn) (Hi:=[]) (Hu:=(b4,rowO [.one (.int .i64 0),Yt 0,.one (.int .i64 0),Yt 0,.one (.slice none 0 0),.one (.slice none 0 0)] 28)::(b5,rowO [.one (.int .i64 0)] 3)::(b6,rowO [.one (.int .i64 0)] 36)::(b1,rowO [.one (.int .i64 Yd),Yt Yi,.one (.int .i64 Ym),Yt Yy,.one (Sl.val ⟨Yq,Yp,ZU⟩),.one (.slice ad8 ZE.length cp8)] 28)::(b2,rowO [.one (.int .i64 (kn:Int))] 3)::(b3,rowO [.one (.int .i64 Xa),Yt p_id] 25)::(b24,rowO [.one (.int .i64 (-1)),Yt 0] 25)::hs8) (H0:=H) (fun pre M9 Hu=>∃ hs,Hu=(b4,rowO [.one (.int .i64 0),Yt 0,.one (.int .i64 0),Yt 0,.one (.slice none 0 0),.one (.slice none 0 0)] 28)::(b5,rowO [.one (.int .i64 0)] 3)::(b6,rowO [.one (.int .i64 0)] 36)::(b1,rowO [.one (.int .i64 Yd),Yt Yi,.one (.int .i64 Ym),Yt Yy,.one (Sl.val ⟨Yq,Yp,ZU⟩),.one (.slice ad8 ZE.length cp8)] 28)::(b2,rowO [.one (.int .i64 (kn:Int))] 3)::(b3,rowO [.one (.int .i64 Xa),Yt p_id] 25)::(b24,rowO [.one (.int .i64 (-1)),Yt 0] 25)::hs∧OSl 25 21 (.slice ad8 ZE.length cp8) hs ((ptW ZE kn (kn+pre.length) Xf).map ZF.segs)∧Vd ⟨Yd,Yi⟩ ⟨Xa,p_id⟩ kn kn (160-kn)=Vd ⟨Yd,Yi⟩ ⟨Xa,p_id⟩ kn (kn+pre.length) (160-(kn+pre.length))) (fun c pre M9 Hu=>c=.ret∧∃ (hs:Hp) (j:Nat),Hu=(b4,rowO [.one (.int .i64 Yd),Yt Yi,.one (.int .i64 Ym),Yt Yy,.one (Sl.val ⟨Yq,Yp,ZU⟩),.one (.slice ad8 ZE.length cp8)] 28)::(b5,rowO [.one (.int .i64 (j:Int))] 3)::(b6,rowO [.one (.int .i64 0)] 36)::(b1,rowO [.one (.int .i64 Yd),Yt Yi,.one (.int .i64 Ym),Yt Yy,.one (Sl.val ⟨Yq,Yp,ZU⟩),.one (.slice ad8 ZE.length cp8)] 28)::(b2,rowO [.one (.int .i64 (kn:Int))] 3)::(b3,rowO [.one (.int .i64 Xa),Yt p_id] 25)::(b24,rowO [.one (.int .i64 (-1)),Yt 0] 25)::hs∧kn<j∧j<160∧OSl 25 21 (.slice ad8 ZE.length cp8) hs ((ptW ZE kn (j) Xf).map ZF.segs)∧Vd ⟨Yd,Yi⟩ ⟨Xa,p_id⟩ kn kn (160-kn)=j) rfl F.ok153 (starts_seq M2 _ _ _ _ _ _ _ _ _ _ kn (by omega) q1 q2 hq1 hq2) (fun w hw=>hw.c) ⟨hs8,rfl,by rw [List.length_nil,Nat.add_zero,ptW_start];exact ho8,rfl⟩ (fun _=>rfl) rfl ?_ ?_ ?_
       ·rintro lp rdy bsy pre ⟨x1,x2⟩ post M3 _ G hxs hm3 ⟨hs3,rfl,ho1,hI⟩
        obtain ⟨hx9,hx⟩:=startsL_split hxs
        obtain ⟨rfl,rfl⟩:=Prod.mk.inj hx
        generalize hj9:kn+pre.length=j at *
        have hwl:(ptW ZE kn j Xf).length=ZE.length:=ptW_len (by omega) (by omega)
        have hnw:((ptW ZE kn j Xf).map ZF.segs).length=(ptW ZE kn j Xf).length:=List.length_map ..
        simp only [List.cons_append,rEnv]
        refine ZK (Zm (l:=[0]) rfl ?_);refine ZB ?_;refine Zo (Zn (Y_pk [10,50,9,8,7,6,5,4,3] ?_));refine Zm (l:=[0,1]) rfl ?_
        refine YW F.zero23 ?_;intro b28
        refine Yh F.lay23 ?_;refine Zo (K_assign1 ?_);refine Xc ?_
        iterate 2 refine ZK ?_
        refine Zm (l:=[0,1,2,3,4,5,6,7,8,9,10,11,12]) rfl ?_;refine Zx ?_;refine ZD F.lay3 ?_;refine YI ?_;refine Zx ?_
        refine Yj 54 rfl (fun hc29=>?_) (fun hc29=>?_)
        ·replace hc29:=dT hc29
         refine Zk F.foff28_0 ?_;refine Zk F.foff25_1 ?_
         iterate 2 refine ZD F.lay23 ?_
         refine Zk F.foff25_1 ?_;refine ZD F.lay23 ?_;refine X_fs rfl rfl F.ok62 rfl (Half_ok _ _ _ _) rfl ?_
         rintro _ rfl
         refine Xj ?_;refine ZO ?_;refine Zo (Zn (Y_pk [63,10,9,8,7,6,3] ?_))
         refine YA rfl (fun hc30=>?_) (fun hc30=>?_)
         ·replace hc30:=nT hc30
          refine ZK (Zm (l:=[0,1,2,3,4]) rfl ?_);refine ZD F.lay28 ?_;refine Zx ?_;refine Yh F.lay28 ?_;refine Yh F.lay3 ?_;refine Yh F.lay36 ?_;refine Zo (Zn (Y_pk [10,9,8,7,6,3] ?_));refine Yo (YS (Xh ?_))
          refine K_rndR (Hu:=(b4,rowO [.one (.int .i64 Yd),Yt Yi,.one (.int .i64 Ym),Yt Yy,.one (Sl.val ⟨Yq,Yp,ZU⟩),.one (.slice ad8 ZE.length cp8)] 28)::(b5,rowO [.one (.int .i64 (j:Int))] 3)::(b6,rowO [.one (.int .i64 0)] 36)::(b1,rowO [.one (.int .i64 Yd),Yt Yi,.one (.int .i64 Ym),Yt Yy,.one (Sl.val ⟨Yq,Yp,ZU⟩),.one (.slice ad8 ZE.length cp8)] 28)::(b2,rowO [.one (.int .i64 (kn:Int))] 3)::(b3,rowO [.one (.int .i64 Xa),Yt p_id] 25)::(b24,rowO [.one (.int .i64 (-1)),Yt 0] 25)::hs3) (Mem.le.refl _) (fun w hw=>hw.c) ⟨rfl,hs3,j,rfl,by omega,by omega,ho1,?_⟩
          exact hI.trans (pointEnd_stop (by omega) (by omega) (by unfold UJ;exact decide_eq_false (by assumption)))
         ·replace hc30:=nF hc30
          refine YG (Zn (Y_pk [10,9,8,7,6,3] ?_));refine Zm (l:=[0,1,2,3,4,5]) rfl ?_;refine Zk F.foff28_3 ?_;refine ZD F.lay26 ?_;refine Zx ?_;refine ZD F.lay25 ?_;refine YR rfl rfl rfl rfl F.elem26 (by rfl) (by omega) (by exact OSl.plain (by assumption) (by (simp;omega))) rfl ?_
          obtain ⟨bF,rfl⟩:=ho1.someB (by omega)
          refine Ua (b:=bF) (j:=j) rfl rfl rfl rfl (by constructor) (YU rfl (XN XG)) F.lay25 rfl rfl ho1 (by repeat first|exact Rem.here _|exact Rem.two|apply Rem.skip|apply Rem.over) (by omega) ?_;intro hs6 ho6
          replace ho6:OSl 25 21 (.slice (some ⟨bF,0,none⟩) ZE.length cp8) hs6 ((ptW ZE kn (j+1) Xf).map ZF.segs):=by rw [← ptW_set (by omega) (by omega),List.map_set];exact ho6.aZ (by simp;omega)
          refine Zo (XR ?_)
          refine K_rnd (Hu:=(b4,rowO [.one (.int .i64 0),Yt 0,.one (.int .i64 0),Yt 0,.one (.slice none 0 0),.one (.slice none 0 0)] 28)::(b5,rowO [.one (.int .i64 0)] 3)::(b6,rowO [.one (.int .i64 0)] 36)::(b1,rowO [.one (.int .i64 Yd),Yt Yi,.one (.int .i64 Ym),Yt Yy,.one (Sl.val ⟨Yq,Yp,ZU⟩),.one (.slice (some ⟨bF,0,none⟩) ZE.length cp8)] 28)::(b2,rowO [.one (.int .i64 (kn:Int))] 3)::(b3,rowO [.one (.int .i64 Xa),Yt p_id] 25)::(b24,rowO [.one (.int .i64 (-1)),Yt 0] 25)::hs6) (Mem.le.refl _) (fun w hw=>hw.c) ⟨hs6,rfl,?_,?_⟩
          ·rw [List.length_append,List.length_singleton,← Nat.add_assoc,hj9];exact ho6
          ·rw [List.length_append,List.length_singleton,← Nat.add_assoc,hj9,hI,pointEnd_go (by omega) (by rintro ⟨g1,g2⟩;unfold UJ at g2;simp_all)]
        ·replace hc29:=dF hc29
         iterate 8 refine Ya ?_
         refine ZO ?_;refine Zo (Zn (Y_pk [63,10,9,8,7,6,3] ?_));refine Wn rfl ?_;refine YG (Zn (Y_pk [10,9,8,7,6,3] ?_));refine Zm (l:=[0,1,2,3,4,5]) rfl ?_;refine Zk F.foff28_3 ?_;refine ZD F.lay26 ?_;refine Zx ?_;refine ZD F.lay25 ?_;refine YR rfl rfl rfl rfl F.elem26 (by rfl) (by omega) (by exact OSl.plain (by assumption) (by (simp;omega))) rfl ?_
         obtain ⟨bF,rfl⟩:=ho1.someB (by omega)
         refine Ua (b:=bF) (j:=j) rfl rfl rfl rfl (by constructor) (YU rfl (XN XG)) F.lay25 rfl rfl ho1 (by repeat first|exact Rem.here _|exact Rem.two|apply Rem.skip|apply Rem.over) (by omega) ?_;intro hs6 ho6
         replace ho6:OSl 25 21 (.slice (some ⟨bF,0,none⟩) ZE.length cp8) hs6 ((ptW ZE kn (j+1) Xf).map ZF.segs):=by rw [← ptW_set (by omega) (by omega),List.map_set];exact ho6.aZ (by simp;omega)
         refine Zo (XR ?_)
         refine K_rnd (Hu:=(b4,rowO [.one (.int .i64 0),Yt 0,.one (.int .i64 0),Yt 0,.one (.slice none 0 0),.one (.slice none 0 0)] 28)::(b5,rowO [.one (.int .i64 0)] 3)::(b6,rowO [.one (.int .i64 0)] 36)::(b1,rowO [.one (.int .i64 Yd),Yt Yi,.one (.int .i64 Ym),Yt Yy,.one (Sl.val ⟨Yq,Yp,ZU⟩),.one (.slice (some ⟨bF,0,none⟩) ZE.length cp8)] 28)::(b2,rowO [.one (.int .i64 (kn:Int))] 3)::(b3,rowO [.one (.int .i64 Xa),Yt p_id] 25)::(b24,rowO [.one (.int .i64 (-1)),Yt 0] 25)::hs6) (Mem.le.refl _) (fun w hw=>hw.c) ⟨hs6,rfl,?_,?_⟩
         ·rw [List.length_append,List.length_singleton,← Nat.add_assoc,hj9];exact ho6
         ·rw [List.length_append,List.length_singleton,← Nat.add_assoc,hj9,hI,pointEnd_go (by omega) (by rintro ⟨g1,g2⟩;omega)]
       ·rintro D L o M3 _ hm3 ⟨hs3,rfl,ho1,hI⟩
        rw [show kn+(VS Yi kn).length=160 by unfold VS;simp;omega] at ho1 hI
        simp only [List.cons_append,List.nil_append]
        refine XR (Zn (Y_pk [8,7,6,3] ?_));refine ZK (Zm (l:=[0,1,2,3]) rfl ?_);refine ZD F.lay28 ?_;refine Yh F.lay28 ?_;refine Yh F.lay3 ?_;refine Yh F.lay36 ?_;refine Zo (Zn (Y_pk [8,7,6] ?_));refine Yo ?_
        refine K_endM (Ds:=[D]) (Hd:=[(D,.deferred (some []))]) (H:=(b4,rowO [.one (.int .i64 Yd),Yt Yi,.one (.int .i64 Ym),Yt Yy,.one (Sl.val ⟨Yq,Yp,ZU⟩),.one (.slice ad8 ZE.length cp8)] 28)::(b5,rowO [.one (.int .i64 0)] 3)::(b6,rowO [.one (.int .i64 0)] 36)::hs3++H) (.inr rfl) (.cell rfl (by repeat first|exact List.Mem.head _|refine List.Mem.tail _ ?_|refine List.mem_append_right _ ?_) F.lay28 rfl rfl (.cell rfl (by repeat first|exact List.Mem.head _|refine List.Mem.tail _ ?_|refine List.mem_append_right _ ?_) F.lay3 rfl rfl (.cell rfl (by repeat first|exact List.Mem.head _|refine List.Mem.tail _ ?_|refine List.mem_append_right _ ?_) F.lay36 rfl rfl .nil))) (fun w hw=>hw.c) (by simp) (by simp) (fun w hw=>?_)
        obtain ⟨M9,s2,j1,j2,j3,j4,j5⟩:=OSl.freezeK (f:=ZF.segs) (H:=H) ho1 (hw.c)
        refine ⟨_,M9,rfl,hm2.trans (hm3.trans j1),j2,?_⟩
        rw [show WT (ZQ.tb ⟨⟨Yd,Yi⟩,⟨Ym,Yy⟩,⟨Yq,Yp,ZU⟩,⟨Yg,Yf,ZE⟩⟩) ((kn:Nat):Int) ⟨Xa,p_id⟩=({ (ZQ.tb ⟨⟨Yd,Yi⟩,⟨Ym,Yy⟩,⟨Yq,Yp,ZU⟩,⟨Yg,Yf,ZE⟩⟩) with fingers:=ptW ZE kn 160 Xf },0,0) from ?_]
        ·exact ⟨_,rfl,Ws (s1:=⟨Yq,Yp,ZU⟩) (s2:=s2) rfl j3 (YT.mono (hm2.trans (hm3.trans j1))) j5 (by rw [j4];rfl)⟩
        ·exact pointT_is (j:=160) (by assumption) (by omega) (by exact .inl (by assumption)) hI (show VY (ZQ.tb ⟨⟨Yd,Yi⟩,⟨Ym,Yy⟩,⟨Yq,Yp,ZU⟩,⟨Yg,Yf,ZE⟩⟩) ⟨Xa,p_id⟩=Xf from if_pos (by assumption)) (if_pos rfl)
       ·rintro c D L o M3 _ pre post hpp hm3 ⟨rfl,hs3,j,rfl,hj1,hj2,ho1,hI⟩
        simp only [List.cons_append,List.nil_append]
        refine Yo (Xh (YS ?_))
        refine K_endM (Ds:=[D]) (Hd:=[(D,.deferred (some []))]) (H:=(b4,rowO [.one (.int .i64 Yd),Yt Yi,.one (.int .i64 Ym),Yt Yy,.one (Sl.val ⟨Yq,Yp,ZU⟩),.one (.slice ad8 ZE.length cp8)] 28)::(b5,rowO [.one (.int .i64 (j:Int))] 3)::(b6,rowO [.one (.int .i64 0)] 36)::hs3++H) (.inr rfl) (.cell rfl (by repeat first|exact List.Mem.head _|refine List.Mem.tail _ ?_|refine List.mem_append_right _ ?_) F.lay28 rfl rfl (.cell rfl (by repeat first|exact List.Mem.head _|refine List.Mem.tail _ ?_|refine List.mem_append_right _ ?_) F.lay3 rfl rfl (.cell rfl (by repeat first|exact List.Mem.head _|refine List.Mem.tail _ ?_|refine List.mem_append_right _ ?_) F.lay36 rfl rfl .nil))) (fun w hw=>hw.c) (by simp) (by simp) (fun w hw=>?_)
        obtain ⟨M9,s2,j1,j2,j3,j4,j5⟩:=OSl.freezeK (f:=ZF.segs) (H:=H) ho1 (hw.c)
        refine ⟨_,M9,rfl,hm2.trans (hm3.trans j1),j2,?_⟩
        rw [show WT (ZQ.tb ⟨⟨Yd,Yi⟩,⟨Ym,Yy⟩,⟨Yq,Yp,ZU⟩,⟨Yg,Yf,ZE⟩⟩) ((kn:Nat):Int) ⟨Xa,p_id⟩=({ (ZQ.tb ⟨⟨Yd,Yi⟩,⟨Ym,Yy⟩,⟨Yq,Yp,ZU⟩,⟨Yg,Yf,ZE⟩⟩) with fingers:=ptW ZE kn j Xf },(j:Int),0) from ?_]
        ·exact ⟨_,rfl,Ws (s1:=⟨Yq,Yp,ZU⟩) (s2:=s2) rfl j3 (YT.mono (hm2.trans (hm3.trans j1))) j5 (by rw [j4];rfl)⟩
        ·exact pointT_is (j:=j) (by assumption) (by omega) (by exact .inl (by assumption)) hI (show VY (ZQ.tb ⟨⟨Yd,Yi⟩,⟨Ym,Yy⟩,⟨Yq,Yp,ZU⟩,⟨Yg,Yf,ZE⟩⟩) ⟨Xa,p_id⟩=Xf from if_pos (by assumption)) (if_neg (by omega))
      ·replace hc27:=dF hc27
       contradiction
end Go.Proofs.YtajmnjefajknoaaGreat
namespace Go.Proofs.YtajmnjefajknoaaGreat
open Go.Esp
theorem rKnown_ok (M:Mem) (t:ZQ) (ht0:ZQ.ok M t) (hbig:t.succ.l.length≤40∧t.fingers.l.length≤200):Esp.Fn Tryz.prog 101 [t.enc] M (fun M' v=>PsIs M' v (knownT t.tb)):=by
  obtain ⟨⟨Yd,Yi⟩,⟨Ym,Yy⟩,⟨Yq,Yp,ZU⟩,⟨Yg,Yf,ZE⟩⟩:=t
  have YT:SlK M ZF.segs 21 ⟨Yq,Yp,ZU⟩:=ht0.h0
  have WA:SlM M Yq (ZU.map ZF.segs) 21:=YT.h1
  have WI:(ZU.map ZF.segs).length=ZU.length:=List.length_map ..
  have WJ:ZU.length≤9223372036854775807:=YT.h2
  have WK:ZU.length≤Yp:=YT.h3
  have Yu:SlK M ZF.segs 21 ⟨Yg,Yf,ZE⟩:=ht0.h1
  have XQ:SlM M Yg (ZE.map ZF.segs) 21:=Yu.h1
  have Wc:(ZE.map ZF.segs).length=ZE.length:=List.length_map ..
  have XZ:ZE.length≤9223372036854775807:=Yu.h2
  have Wd:ZE.length≤Yf:=Yu.h3
  simp only at hbig
  refine Wu Tryz.func101 rfl Tryz.ntmps101 rfl ?_;intro H
  refine ZK (Zm (l:=[0,1]) rfl ?_)
  refine Xk ?_;intro b1
  refine ZB ?_;refine Zo (Zn (Y_pk [2,1] ?_));refine ZK (Zm (l:=[0,1,2,3]) rfl ?_);refine Zk F.foff28_1 ?_;refine ZD F.lay25 ?_
  refine Xq rfl rfl F.elem26 F.zero25 rfl rfl (.cons rfl (by constructor) .nil) rfl rfl (by simp only [List.map_cons,List.map_nil] <;> rfl) rfl ?_;intro b2 hob3
  refine ZB ?_;refine Zo (Zn (Y_pk [3,2,1] ?_));refine ZK (Zm (l:=[0,1,2,3,4]) rfl ?_);refine Zx ?_;refine Zk F.foff28_2 ?_;refine ZD F.lay26 ?_
  refine Vy (m:=1000000) rfl rfl rfl rfl rfl F.elem26 F.zero25 (by exact Ww rfl) rfl (by assumption) (by repeat first|exact Rem.here _|exact Rem.two|apply Rem.skip|apply Rem.over) (WA) ZF.flat (by (simp;omega)) (by decide) rfl ?_;intro v6 hs5 ho4;obtain ⟨adv6,cpv6,rfl⟩:=ho4.valAt (n:=1+ZU.length) (by (simp;omega))
  refine ZB ?_;refine Zo (Zn (Y_pk [3,2,1] ?_));refine ZK (Zm (l:=[0,1,2,3,4]) rfl ?_);refine Zx ?_;refine Zk F.foff28_3 ?_;refine ZD F.lay26 ?_
  refine Vy (m:=1000000) rfl rfl rfl rfl rfl F.elem26 F.zero25 (by exact Ww rfl) rfl (by assumption) (by repeat first|exact Rem.here _|exact Rem.two|apply Rem.skip|apply Rem.over) (XQ) ZF.flat (by (simp;omega)) (by decide) rfl ?_;intro v9 hs8 ho7;obtain ⟨adv9,cpv9,rfl⟩:=ho7.valAt (n:=(1+ZU.length+ZE.length)) (by (simp;omega))
  refine ZB ?_;refine Zo (Zn (Y_pk [3,2,1] ?_));refine ZK ?_
  obtain ⟨all,hall⟩:∃ all:List ZF,all=(⟨Ym,Yy⟩::(ZU++ZE)):=⟨_,rfl⟩
  have nal:all.length=(1+ZU.length+ZE.length):=by rw [hall];simp only [List.length_cons,List.length_append];omega
  have hml:(all.map ZF.segs).length=all.length:=List.length_map ..
  replace ho7:OSl 25 21 (.slice adv9 (1+ZU.length+ZE.length) cpv9) hs8 (all.map ZF.segs):=by rw [hall];have h9:=ho7;simp only [List.map_cons,List.map_append,List.cons_append,List.nil_append,List.append_assoc,List.map_take,List.map_drop] at h9 ⊢;exact h9
  refine UG ho7 (by repeat first|exact Rem.here _|exact Rem.two|apply Rem.skip|apply Rem.over) (fun M1 hm1 k_all=>?_)
  have s_all:=k_all.h1
  refine Zm (l:=[0]) rfl ?_;refine ZB ?_;refine Zo (Zn ?_)
  iterate 2 refine ZK ?_
  refine Zm (l:=[0]) rfl ?_;refine ZB ?_;refine Zo (Zn (Xc (Y_pk [5,4,3,2,1] ?_)));refine Vm (Hin:=[]) (.succ (.succ .zero)) (by repeat first|exact Rem.here _|exact Rem.two|apply Rem.skip|apply Rem.over) (fun (k:Nat) M9 h1 z=>∃ s:Sl ZF,h1=[]∧z=[(5,.int .i64 (k:Int)),(4,s.val)]∧k≤all.length∧SlK M9 ZF.segs 21 s∧s.l.length≤k∧s.l=(all.take (k)).foldl (knownStep ⟨Yd,Yi⟩) []) (fun k=>all.length-k) (0) (⟨⟨none,0,[]⟩,rfl,rfl,by omega,SlK.nil,by simp,rfl⟩) ?_
  rintro k M2 h1 z hm2 ⟨⟨out_a,out_c,out_l⟩,rfl,rfl,hk,k_out,hol,hI⟩
  simp only at hol hI
  have s_out:=k_out.h1
  have n_out:(out_l.map ZF.segs).length=out_l.length:=List.length_map ..
  have m_out:=k_out.h2
  have c_out:=k_out.h3
  simp only at m_out c_out
  have s_all2:=s_all.mono hm2
  iterate 2 refine ZK ?_
  refine Zm (l:=[0,1,2,3]) rfl ?_
  iterate 2 refine Zx ?_
  refine YY F.elem26 ?_;refine YI ?_;refine Zo (Zn ?_)
  refine YA rfl (fun hc10=>?_) (fun hc10=>?_)
  ·replace hc10:=dT hc10
   refine YG (Zn (ZK (Xc (ZK (Zm (l:=[0,1,2,3,4,5]) rfl ?_)))))
   iterate 2 refine Zx ?_
   refine YR rfl rfl rfl rfl F.elem26 (by rfl) (by omega) (by exact SlM.plain (by assumption) (by (simp;omega))) rfl ?_;refine Xm rfl rfl rfl (by assumption) (by exact XP (by (simp;omega))) F.lay25 rfl rfl rfl ?_
   refine YW F.zero25 ?_;intro b11
   refine Yh F.lay25 ?_;refine Zo (Zn ?_)
   iterate 2 refine ZK ?_
   refine Zm (l:=[0,1,2,3,4,5,6,7,8,9,10,11,12,13,14,15,16]) rfl ?_;refine Zk F.foff25_0 ?_;refine ZD F.lay3 ?_;refine YI ?_;refine Zx ?_
   refine Yj 33 rfl (fun hc12=>?_) (fun hc12=>?_)
   ·replace hc12:=dT hc12
    simp only [ZF.eta,ZQ.eta,ZR.eta,ZP.eta,Yr.eta,ZW.eta,YQ.eta,Yc.eta] at hc12
    simp only [List.get_eq_getElem] at hc12
    iterate 6 refine Ya ?_
    refine ZO ?_;refine Zx ?_
    iterate 4 refine Ya ?_
    refine ZO ?_;refine Zo (Zn (Xi rfl ?_));refine XK (XH (Wh (Zn (Zm (l:=[0,1,2]) rfl ?_))));refine Zx ?_;refine XE rfl rfl rfl rfl rfl (by exact Xe (by decide) (by omega)) rfl ?_;refine ZB ?_;refine Zo ?_;refine XJ (a':=[(5,_),(4,_)]) (k+1) ([]) (.cons (k:=5) rfl (.cons (k:=4) rfl (.cons (k:=3) rfl (.cons (k:=2) rfl (.cons (k:=1) rfl (.nil)))))) hm2 (fun w hw=>by first|exact hw|exact hw.c) ?_ ?_
    ·refine ⟨⟨out_a,out_c,out_l⟩,rfl,rfl,by omega,k_out,by simp only;omega,?_⟩
     simp only
     rw [WC (by omega:k<all.length),← hI];unfold knownStep;rw [if_pos (by exact .inl (by omega))]
    ·omega
   ·replace hc12:=dF hc12
    simp only [ZF.eta,ZQ.eta,ZR.eta,ZP.eta,Yr.eta,ZW.eta,YQ.eta,Yc.eta] at hc12
    simp only [List.get_eq_getElem] at hc12
    refine Zk F.foff25_0 ?_;refine ZD F.lay3 ?_;refine Zk F.foff28_0 ?_;refine Zk F.foff25_0 ?_;refine ZD F.lay3 ?_;refine YI ?_;refine ZO ?_;refine Zx ?_
    refine Yj 41 rfl (fun hc13=>?_) (fun hc13=>?_)
    ·replace hc13:=dT hc13
     simp only [ZF.eta,ZQ.eta,ZR.eta,ZP.eta,Yr.eta,ZW.eta,YQ.eta,Yc.eta] at hc13
     simp only [List.get_eq_getElem] at hc13
     iterate 4 refine Ya ?_
     refine ZO ?_;refine Zo (Zn (Xi rfl ?_));refine XK (XH (Wh (Zn (Zm (l:=[0,1,2]) rfl ?_))));refine Zx ?_;refine XE rfl rfl rfl rfl rfl (by exact Xe (by decide) (by omega)) rfl ?_;refine ZB ?_;refine Zo ?_;refine XJ (a':=[(5,_),(4,_)]) (k+1) ([]) (.cons (k:=5) rfl (.cons (k:=4) rfl (.cons (k:=3) rfl (.cons (k:=2) rfl (.cons (k:=1) rfl (.nil)))))) hm2 (fun w hw=>by first|exact hw|exact hw.c) ?_ ?_
     ·refine ⟨⟨out_a,out_c,out_l⟩,rfl,rfl,by omega,k_out,by simp only;omega,?_⟩
      simp only
      rw [WC (by omega:k<all.length),← hI];unfold knownStep;rw [if_pos (by exact .inr (.inl (by assumption)))]
     ·omega
    ·replace hc13:=dF hc13
     simp only [ZF.eta,ZQ.eta,ZR.eta,ZP.eta,Yr.eta,ZW.eta,YQ.eta,Yc.eta] at hc13
     simp only [List.get_eq_getElem] at hc13
     refine Zx ?_;refine Zk F.foff25_0 ?_;refine ZD F.lay3 ?_;refine X_fs rfl rfl F.ok122 rfl (rhas_ok _ ⟨_,_,_⟩ _ k_out) rfl ?_
     rintro _ rfl
     refine ZO ?_;refine Zo (Zn ?_)
     refine YA rfl (fun hc14=>?_) (fun hc14=>?_)
     ·replace hc14:=dT hc14
      simp only [ZF.eta,ZQ.eta,ZR.eta,ZP.eta,Yr.eta,ZW.eta,YQ.eta,Yc.eta] at hc14
      simp only [List.get_eq_getElem] at hc14
      refine XK (XH (Wh (Zn (Zm (l:=[0,1,2]) rfl ?_))));refine Zx ?_;refine XE rfl rfl rfl rfl rfl (by exact Xe (by decide) (by omega)) rfl ?_;refine ZB ?_;refine Zo ?_;refine XJ (a':=[(5,_),(4,_)]) (k+1) ([]) (.cons (k:=5) rfl (.cons (k:=4) rfl (.cons (k:=3) rfl (.cons (k:=2) rfl (.cons (k:=1) rfl (.nil)))))) hm2 (fun w hw=>by first|exact hw|exact hw.c) ?_ ?_
      ·refine ⟨⟨out_a,out_c,out_l⟩,rfl,rfl,by omega,k_out,by simp only;omega,?_⟩
       simp only
       rw [WC (by omega:k<all.length),← hI];unfold knownStep;rw [if_pos (by exact .inr (.inr (by assumption)))]
      ·omega
     ·replace hc14:=dF hc14
      simp only [ZF.eta,ZQ.eta,ZR.eta,ZP.eta,Yr.eta,ZW.eta,YQ.eta,Yc.eta] at hc14
      simp only [List.get_eq_getElem] at hc14
      refine YG (Zn (ZK (Zm (l:=[0]) rfl ?_)));refine ZB ?_;refine Zo (Zn (ZK (Zm (l:=[0]) rfl ?_)));refine ZB ?_;refine Zo (Zn (ZK (Xc (Y_pk [8,7,46,45,44,43,42,41,40,39,38,37,36,35,34,33,32,31,30,6,29,28,27,26,23,22,21,20,5,4,3,2,1] ?_))));refine WV (.succ .zero) (fun (i:Nat) z=>z=[(8,.int .i64 (i:Int))]∧i≤out_l.length∧∀ j (h:j<i) (h2:j<out_l.length),out_l[j].addr<all[k].addr) (fun i=>out_l.length-i) (0) (⟨rfl,by omega,by intro j hj;omega⟩) ?_
      rintro at9 _ ⟨rfl,hat,hJ⟩
      have k_tk:=k_out.take at9 hat
      have k_dr:=k_out.drop at9 hat
      iterate 2 refine ZK ?_
      refine YK (l:=[0,1,2,3,4,5,6,7,8,9,10,11,12,13]) #[0,0,2,7,15,31,31,127,255,511,31,1055,4095,8191] _ rfl (by kernel_rfl) (by kernel_rfl) St.drawn (fun _ h=>h) ?_
      iterate 2 refine Zx ?_
      refine YY F.elem26 ?_;refine YI ?_;refine Zx ?_
      refine Yj 51 rfl (fun hc15=>?_) (fun hc15=>?_)
      ·replace hc15:=dT hc15
       iterate 2 refine Zx ?_
       refine YR rfl rfl rfl rfl F.elem26 (by rfl) (by omega) (by exact SlM.plain (by assumption) (by (simp;omega))) rfl ?_;refine XC rfl rfl rfl (by exact SlM.plain (by assumption) (by (simp;omega))) F.foff25_0 rfl ?_;refine Xm rfl rfl rfl (by assumption) (by exact XP (by (simp;omega))) F.lay3 rfl rfl rfl ?_;refine Zk F.foff25_0 ?_;refine ZD F.lay3 ?_;refine YI ?_;refine ZO ?_;refine Zo (Zn ?_)
       refine YA rfl (fun hc16=>?_) (fun hc16=>?_)
       ·replace hc16:=dT hc16
        simp only [ZF.eta,ZQ.eta,ZR.eta,ZP.eta,Yr.eta,ZW.eta,YQ.eta,Yc.eta] at hc16
        simp only [List.get_eq_getElem] at hc16
        refine YG (Zn (Xc (Zm (l:=[0,1,2]) rfl ?_)));refine Zx ?_;refine XE rfl rfl rfl rfl rfl (by exact Xe (by decide) (by omega)) rfl ?_;refine ZB ?_;refine Zo (XR ?_);refine WO (a':=[(8,_)]) (at9+1) (.cons (k:=8) rfl (.cons (k:=7) rfl (.cons (k:=46) rfl (.cons (k:=45) rfl (.cons (k:=44) rfl (.cons (k:=43) rfl (.cons (k:=42) rfl (.cons (k:=41) rfl (.cons (k:=40) rfl (.cons (k:=39) rfl (.cons (k:=38) rfl (.cons (k:=37) rfl (.cons (k:=36) rfl (.cons (k:=35) rfl (.cons (k:=34) rfl (.cons (k:=33) rfl (.cons (k:=32) rfl (.cons (k:=31) rfl (.cons (k:=30) rfl (.cons (k:=6) rfl (.cons (k:=29) rfl (.cons (k:=28) rfl (.cons (k:=27) rfl (.cons (k:=26) rfl (.cons (k:=23) rfl (.cons (k:=22) rfl (.cons (k:=21) rfl (.cons (k:=20) rfl (.cons (k:=5) rfl (.cons (k:=4) rfl (.cons (k:=3) rfl (.cons (k:=2) rfl (.cons (k:=1) rfl (.nil)))))))))))))))))))))))))))))))))) (fun w hw=>by first|exact hw|exact hw.c) ?_ ?_
        ·exact ⟨rfl,by omega,fun j hj hj2=>by rcases Nat.lt_or_ge j at9 with h9|h9;exact hJ j h9 hj2;obtain rfl:j=at9:=(by omega);assumption⟩
        ·omega
       ·replace hc16:=dF hc16
        simp only [ZF.eta,ZQ.eta,ZR.eta,ZP.eta,Yr.eta,ZW.eta,YQ.eta,Yc.eta] at hc16
        simp only [List.get_eq_getElem] at hc16
        refine XK ?_
        iterate 2 refine XH ?_
        refine Wh (Zn (ZK (Zm (l:=[0,1,2,3,4,5]) rfl ?_)))
        iterate 3 refine Zx ?_
        refine WY rfl rfl rfl .none (.some (k:=at9) rfl rfl) .none F.elem26 (by simp only [Option.getD_none];omega) (by simp only [Option.getD_some,Option.getD_none];omega) (by simp only [Option.getD_some,Option.getD_none];omega) (by simp) (pieceV_take (l:=out_l) (k:=at9) (by omega)) rfl ?_
        refine Vy (m:=1000000) rfl rfl rfl rfl rfl F.elem26 F.zero25 (by exact Ww rfl) rfl (by exact OSl.nil) (by repeat first|exact Rem.here _|exact Rem.two|apply Rem.skip|apply Rem.over) (k_tk.h1) ZF.flat (by (simp;omega)) (by decide) rfl ?_;intro v19 hs18 ho17;obtain ⟨adv19,cpv19,rfl⟩:=ho17.valAt (n:=at9) (by (simp;omega))
        refine ZB ?_;refine Zo (Zn (ZK (Zm (l:=[0,1,2,3,4]) rfl ?_)));refine Zx ?_;refine ZD F.lay25 ?_
        refine Xq rfl rfl F.elem26 F.zero25 rfl rfl (.cons rfl (by constructor) .nil) rfl rfl (by simp only [List.map_cons,List.map_nil] <;> rfl) rfl ?_;intro b20 hob21
        refine Vh (m:=1000000) rfl rfl rfl rfl rfl F.elem26 F.zero25 (by exact Ww rfl) rfl (by assumption) (by repeat first|exact Rem.here _|exact Rem.two|apply Rem.skip|apply Rem.over) (Src.own hob21.lens (by (refine Vv ?_;(repeat (first|exact XG|refine XN ?_|(refine YU ?_ ?_;rfl)));done)) rfl (by repeat first|exact List.Mem.head _|refine List.Mem.tail _ ?_|refine List.mem_append_right _ ?_)) (by (simp;omega)) (by decide) rfl ?_;intro v24 hs23 ho22;obtain ⟨adv24,cpv24,rfl⟩:=ho22.valAt (n:=at9+1) (by (simp;omega))
        refine ZB ?_;refine Zo (Zn (ZK (Zm (l:=[0,1,2,3,4,5]) rfl ?_)))
        iterate 3 refine Zx ?_
        refine WY rfl rfl rfl (.some (k:=at9) rfl rfl) .none .none F.elem26 (by simp only [Option.getD_none];omega) (by simp only [Option.getD_some,Option.getD_none];omega) (by simp only [Option.getD_some,Option.getD_none];omega) (by simp) (pieceV_drop (l:=out_l) (k:=at9)) rfl ?_
        refine Vy (m:=1000000) rfl rfl rfl rfl rfl F.elem26 F.zero25 (by exact Ww rfl) rfl (by assumption) (by repeat first|exact Rem.here _|exact Rem.two|apply Rem.skip|apply Rem.over) (k_dr.h1) ZF.flat (by (simp;omega)) (by decide) rfl ?_;intro v27 hs26 ho25;obtain ⟨adv27,cpv27,rfl⟩:=ho25.valAt (n:=out_l.length+1) (by (simp;omega))
        have hnew:out_l.take at9++all[k]::out_l.drop at9=insP all[k] out_l:=insP_at hat hJ (by intro h9;first|assumption|omega)
        have nnew:out_l.length+1=(out_l.length+1:Nat):=rfl
        have ho_:OSl 25 21 (.slice adv27 (out_l.length+1) cpv27) hs26 ((insP all[k] out_l).map ZF.segs):=by rw [← hnew];have h9:=ho25;simp only [List.map_cons,List.map_append,List.cons_append,List.nil_append,List.append_assoc,List.map_take,List.map_drop] at h9 ⊢;exact h9
        refine ZB ?_;refine Zo (Zn (Zm (l:=[0,1]) rfl ?_));refine Zx ?_;refine ZB ?_;refine Zo (XR (Zn (Zm (l:=[0,1,2]) rfl ?_)));refine Zx ?_;refine XE rfl rfl rfl rfl rfl (by exact Xe (by decide) (by omega)) rfl ?_;refine ZB ?_;refine Zo ?_
        refine K_frz (l:=insP all[k] out_l) ho_ (by repeat first|exact Rem.here _|exact Rem.two|apply Rem.skip|apply Rem.over) (fun M4 hm4 k_new=>?_)
        refine XJ (a':=[(5,_),(4,_)]) (k+1) ([]) (.cons (k:=5) rfl (.cons (k:=4) rfl (.cons (k:=3) rfl (.cons (k:=2) rfl (.cons (k:=1) rfl (.nil)))))) (hm2.trans hm4) (fun w hw=>by first|exact hw|exact hw.c) ?_ ?_
        ·refine ⟨⟨adv27,cpv27,insP all[k] out_l⟩,rfl,?_,by omega,k_new,by simp only [insP_len];omega,?_⟩
         ·simp only [Sl.val,insP_len];rfl
         ·rw [WC (by omega:k<all.length),← hI];unfold knownStep;rw [if_neg (by rintro (g1|g1|g1);exact absurd g1 (by assumption);exact absurd g1 (by assumption);exact absurd g1 (by assumption))]
        ·omega
      ·replace hc15:=dF hc15
       iterate 8 refine Ya ?_
       refine ZO ?_;refine Zo (Zn (Wn rfl ?_));refine XK ?_
       iterate 2 refine XH ?_
       refine Wh (Zn (ZK (Zm (l:=[0,1,2,3,4,5]) rfl ?_)))
       iterate 3 refine Zx ?_
       refine WY rfl rfl rfl .none (.some (k:=at9) rfl rfl) .none F.elem26 (by simp only [Option.getD_none];omega) (by simp only [Option.getD_some,Option.getD_none];omega) (by simp only [Option.getD_some,Option.getD_none];omega) (by simp) (pieceV_take (l:=out_l) (k:=at9) (by omega)) rfl ?_
       refine Vy (m:=1000000) rfl rfl rfl rfl rfl F.elem26 F.zero25 (by exact Ww rfl) rfl (by exact OSl.nil) (by repeat first|exact Rem.here _|exact Rem.two|apply Rem.skip|apply Rem.over) (k_tk.h1) ZF.flat (by (simp;omega)) (by decide) rfl ?_;intro v30 hs29 ho28;obtain ⟨adv30,cpv30,rfl⟩:=ho28.valAt (n:=at9) (by (simp;omega))
       refine ZB ?_;refine Zo (Zn (ZK (Zm (l:=[0,1,2,3,4]) rfl ?_)));refine Zx ?_;refine ZD F.lay25 ?_
       refine Xq rfl rfl F.elem26 F.zero25 rfl rfl (.cons rfl (by constructor) .nil) rfl rfl (by simp only [List.map_cons,List.map_nil] <;> rfl) rfl ?_;intro b31 hob32
       refine Vh (m:=1000000) rfl rfl rfl rfl rfl F.elem26 F.zero25 (by exact Ww rfl) rfl (by assumption) (by repeat first|exact Rem.here _|exact Rem.two|apply Rem.skip|apply Rem.over) (Src.own hob32.lens (by (refine Vv ?_;(repeat (first|exact XG|refine XN ?_|(refine YU ?_ ?_;rfl)));done)) rfl (by repeat first|exact List.Mem.head _|refine List.Mem.tail _ ?_|refine List.mem_append_right _ ?_)) (by (simp;omega)) (by decide) rfl ?_;intro v35 hs34 ho33;obtain ⟨adv35,cpv35,rfl⟩:=ho33.valAt (n:=at9+1) (by (simp;omega))
       refine ZB ?_;refine Zo (Zn (ZK (Zm (l:=[0,1,2,3,4,5]) rfl ?_)))
       iterate 3 refine Zx ?_
       refine WY rfl rfl rfl (.some (k:=at9) rfl rfl) .none .none F.elem26 (by simp only [Option.getD_none];omega) (by simp only [Option.getD_some,Option.getD_none];omega) (by simp only [Option.getD_some,Option.getD_none];omega) (by simp) (pieceV_drop (l:=out_l) (k:=at9)) rfl ?_
       refine Vy (m:=1000000) rfl rfl rfl rfl rfl F.elem26 F.zero25 (by exact Ww rfl) rfl (by assumption) (by repeat first|exact Rem.here _|exact Rem.two|apply Rem.skip|apply Rem.over) (k_dr.h1) ZF.flat (by (simp;omega)) (by decide) rfl ?_;intro v38 hs37 ho36;obtain ⟨adv38,cpv38,rfl⟩:=ho36.valAt (n:=out_l.length+1) (by (simp;omega))
       have hnew:out_l.take at9++all[k]::out_l.drop at9=insP all[k] out_l:=insP_at hat hJ (by intro h9;first|assumption|omega)
       have nnew:out_l.length+1=(out_l.length+1:Nat):=rfl
       have ho_:OSl 25 21 (.slice adv38 (out_l.length+1) cpv38) hs37 ((insP all[k] out_l).map ZF.segs):=by rw [← hnew];have h9:=ho36;simp only [List.map_cons,List.map_append,List.cons_append,List.nil_append,List.append_assoc,List.map_take,List.map_drop] at h9 ⊢;exact h9
       refine ZB ?_;refine Zo (Zn (Zm (l:=[0,1]) rfl ?_));refine Zx ?_;refine ZB ?_;refine Zo (XR (Zn (Zm (l:=[0,1,2]) rfl ?_)));refine Zx ?_;refine XE rfl rfl rfl rfl rfl (by exact Xe (by decide) (by omega)) rfl ?_;refine ZB ?_;refine Zo ?_
       refine K_frz (l:=insP all[k] out_l) ho_ (by repeat first|exact Rem.here _|exact Rem.two|apply Rem.skip|apply Rem.over) (fun M4 hm4 k_new=>?_)
       refine XJ (a':=[(5,_),(4,_)]) (k+1) ([]) (.cons (k:=5) rfl (.cons (k:=4) rfl (.cons (k:=3) rfl (.cons (k:=2) rfl (.cons (k:=1) rfl (.nil)))))) (hm2.trans hm4) (fun w hw=>by first|exact hw|exact hw.c) ?_ ?_
       ·refine ⟨⟨adv38,cpv38,insP all[k] out_l⟩,rfl,?_,by omega,k_new,by simp only [insP_len];omega,?_⟩
        ·simp only [Sl.val,insP_len];rfl
        ·rw [WC (by omega:k<all.length),← hI];unfold knownStep;rw [if_neg (by rintro (g1|g1|g1);exact absurd g1 (by assumption);exact absurd g1 (by assumption);exact absurd g1 (by assumption))]
       ·omega
  ·replace hc10:=dF hc10
   refine XK ?_
   iterate 2 refine XH ?_
   refine Wh (Zn (Y_pk [4,2] ?_));refine ZK (Zm (l:=[0,1]) rfl ?_);refine Zx ?_;refine ZB ?_;refine Zo (Zn (Y_pk [2] ?_));refine Yo ?_
   refine Yk (.inr rfl) (.tmp rfl .nil) (fun w hw=>?_)
   obtain rfl:k=all.length:=by omega
   rw [List.take_length] at hI
   exact ⟨_,M2,rfl,hm1.trans hm2,hw.c,⟨_,_,_⟩,rfl,by simp only [hI];rw [hall];rfl,k_out⟩
end Go.Proofs.YtajmnjefajknoaaGreat
namespace Go.Esp
def cmp3 (x y:Int):Int:=if x<y then -1 else if y<x then 1 else 0
def VZ (s:ZF) (acc:List ZF) (p:ZF):List ZF:=if 0≤p.addr∧p.addr≠s.addr∧¬hasA acc p.addr then acc++[p] else acc
def metT (t:Tb):List ZF:=(t.pred::(t.succ++t.fingers)).foldl (VZ t.self) []
theorem insP_perm {p:ZF}:∀ {l:List ZF},(insP p l).Perm (p::l)
  | []=>.refl _
  | q::l=>by
    unfold insP
    split
    · exact (insP_perm.cons q).trans (.swap _ _ _)
    · exact .refl _
theorem insP_sorted {p:ZF}:∀ {l:List ZF},l.Pairwise (fun a b=>a.addr<b.addr)→¬hasA l p.addr→(insP p l).Pairwise (fun a b=>a.addr<b.addr)
  | [],_,_=>List.pairwise_singleton _ _
  | q::l,h,hn=>by
    obtain ⟨h1,h2⟩:=List.pairwise_cons.1 h
    have hq:p.addr≠q.addr:=fun e=>hn (by unfold hasA;rw [List.map_cons,e];exact .head _)
    have hl:¬hasA l p.addr:=fun e=>hn (by unfold hasA at *;rw [List.map_cons];exact .tail _ e)
    unfold insP
    split
    · rename_i hlt
      refine List.pairwise_cons.2 ⟨fun a ha=>?_,insP_sorted h2 hl⟩
      rcases List.mem_cons.1 (insP_perm.mem_iff.1 ha) with rfl|ha
      · exact hlt
      · exact h1 a ha
    · rename_i hge
      refine List.pairwise_cons.2 ⟨fun a ha=>?_,h⟩
      rcases List.mem_cons.1 ha with rfl|ha
      · omega
      · have:=h1 a ha;omega
theorem hasA_perm {l l':List ZF} (h:l.Perm l') {a:Int}:hasA l a↔hasA l' a:=(h.map ZF.addr).mem_iff
theorem known_met {s:ZF}:∀ {xs out acc:List ZF},out.Perm acc→out.Pairwise (fun a b=>a.addr<b.addr) →
    (xs.foldl (knownStep s) out).Perm (xs.foldl (VZ s) acc)∧(xs.foldl (knownStep s) out).Pairwise (fun a b=>a.addr<b.addr)
  | [],out,acc,h1,h2=>⟨h1,h2⟩
  | p::xs,out,acc,h1,h2=>by
    rw [List.foldl_cons,List.foldl_cons]
    unfold knownStep VZ
    by_cases hc:p.addr<0∨p.addr=s.addr∨hasA out p.addr
    · rw [if_pos hc,if_neg (by rintro ⟨g1,g2,g3⟩;rcases hc with hc|hc|hc;omega;exact g2 hc;exact g3 ((hasA_perm h1).1 hc))]
      exact known_met h1 h2
    · rw [if_neg hc,if_pos ⟨by have:¬p.addr<0:=fun h=>hc (.inl h);omega,fun h=>hc (.inr (.inl h)),fun h=>hc (.inr (.inr ((hasA_perm h1).2 h)))⟩]
      exact known_met (insP_perm.trans ((h1.cons p).trans (List.perm_append_singleton p acc).symm)) (insP_sorted h2 fun h=>hc (.inr (.inr h)))
theorem sorted_one:∀ {l l':List ZF},l.Perm l'→l.Pairwise (fun a b=>a.addr<b.addr)→l'.Pairwise (fun a b=>a.addr≤b.addr)→l=l'
  | [],l',h,_,_=>(h.symm.eq_nil).symm
  | a::l,[],h,_,_=>(h.eq_nil)
  | a::l,b::l',h,h1,h2=>by
    obtain ⟨g1,g2⟩:=List.pairwise_cons.1 h1
    obtain ⟨g3,g4⟩:=List.pairwise_cons.1 h2
    have hab:a=b:=by
      rcases List.mem_cons.1 (h.mem_iff.1 (.head _):a∈b::l') with e|e
      · exact e
      · rcases List.mem_cons.1 (h.mem_iff.2 (.head _):b∈a::l) with e2|e2
        · exact e2.symm
        · have:=g1 b e2;have:=g3 a e;omega
    subst hab
    rw [sorted_one (h.cons_inv) g2 g4]
theorem known_is {t:Tb} {l:List ZF} (h1:l.Perm (metT t)) (h2:l.Pairwise (fun a b=>a.addr≤b.addr)):l=knownT t:=by
  have h:=known_met (s:=t.self) (xs:=t.pred::(t.succ++t.fingers)) (List.Perm.refl []) List.Pairwise.nil
  exact (sorted_one (h.1.trans h1.symm) h.2 h2).symm
theorem met_step {s p:ZF} {xs:List ZF} {acc:List ZF} (h:acc=xs.foldl (VZ s) []):(xs++[p]).foldl (VZ s) []=VZ s acc p:=by
  rw [List.foldl_append,← h];rfl
theorem flat_at {rows:List (Sl ZF)} {i k:Nat} {a:Option Addr} {c:Nat} {l:List ZF} (hi:i<rows.length) (hr:rows[i]=⟨a,c,l⟩) (hk:k<l.length) :
    (rows.map Sl.l).flatten=(((rows.take i).map Sl.l).flatten++l.take k)++l[k]::(l.drop (k+1)++((rows.drop (i+1)).map Sl.l).flatten):=by
  conv=>lhs;rw [← List.take_append_drop i rows,List.drop_eq_getElem_cons hi,hr]
  simp only [List.map_append,List.flatten_append,List.map_cons,List.flatten_cons]
  conv=>lhs;rw [← List.take_append_drop k l,List.drop_eq_getElem_cons hk]
  simp only [List.append_assoc,List.cons_append]
theorem flat_next {rows:List (Sl ZF)} {i:Nat} {a:Option Addr} {c:Nat} {l:List ZF} (hi:i<rows.length) (hr:rows[i]=⟨a,c,l⟩):((rows.take (i+1)).map Sl.l).flatten=((rows.take i).map Sl.l).flatten++l:=by
  rw [List.take_add_one,List.getElem?_eq_getElem hi,hr]
  simp
theorem flat_rest {rows:List (Sl ZF)} {i k:Nat} {a:Option Addr} {c:Nat} {l:List ZF} (hi:i<rows.length) (hr:rows[i]=⟨a,c,l⟩) (hk:k<l.length) :
    (rows.map Sl.l).flatten=((((rows.take i).map Sl.l).flatten++l.take k)++[l[k]])++(l.drop (k+1)++((rows.drop (i+1)).map Sl.l).flatten):=by
  rw [flat_at hi hr hk,List.append_assoc _ [l[k]]];rfl
theorem sub_shift (p b s:Plc):(p+s)-(b+s)=p-b:=by
  apply BitVec.eq_of_toNat_eq
  have h1:=p.isLt;have h2:=b.isLt;have h3:=s.isLt
  simp only [BitVec.toNat_sub,BitVec.toNat_add]
  omega
theorem open_less {s b p i:Plc} (h1:Uo s b i) (h2:Uo s p i):Uo b p i↔Uk (b-s) (p-s):=by
  obtain ⟨B,rfl⟩:∃ B,b=B+s:=⟨b-s,(BitVec.sub_add_cancel b s).symm⟩
  obtain ⟨Q,rfl⟩:∃ Q,p=Q+s:=⟨p-s,(BitVec.sub_add_cancel p s).symm⟩
  obtain ⟨I,rfl⟩:∃ I,i=I+s:=⟨i-s,(BitVec.sub_add_cancel i s).symm⟩
  unfold Uo Uk at *
  simp only [sub_shift,BitVec.add_sub_cancel] at *
  have e:∀ x y:Plc,(x+s=y+s)↔x=y:=fun x y=>⟨fun h=>by have:=congrArg (·-s) h;simpa [BitVec.add_sub_cancel] using this,fun h=>by rw [h]⟩
  have e0:∀ x:Plc,(x+s=s)↔x=0:=fun x=>by have:=e x 0;simpa using this
  have e1:∀ x:Plc,(s=x+s)↔x=0:=fun x=>by rw [eq_comm,e0]
  simp only [ne_eq,e,e0,e1] at *
  have q1:=B.isLt;have q2:=Q.isLt;have q3:=I.isLt
  have z:∀ x:Plc,x=0↔x.toNat=0:=fun x=>⟨fun h=>by rw [h];rfl,fun h=>BitVec.eq_of_toNat_eq h⟩
  have n:∀ x y:Plc,x=y↔x.toNat=y.toNat:=fun x y=>⟨fun h=>by rw [h],fun h=>BitVec.eq_of_toNat_eq h⟩
  simp only [z,n,BitVec.toNat_sub] at *
  omega
end Go.Esp
namespace Go.Proofs.YtajmnjefajknoaaGreat
open Go.Esp
theorem F.elem147:slOf Tryz.prog 147=some (26,1,24):=by kernel_rfl
theorem F.lay147:lay Tryz.prog 147=some (false,1):=by kernel_rfl
theorem F.ok129:okFn Tryz.prog 129=true:=by kernel_rfl
theorem F.ok148:okFn Tryz.prog 148=true:=by kernel_rfl
theorem all_ok (M:Mem) (b:Nat) (hs12 hs7:Hp) (v7:Value) (p:ZF) (a2:Option Addr) (c2:Nat) (l2:List ZF) (a3:Option Addr) (c3:Nat) (l3:List ZF) (ho12:OSl 26 1 (.slice (some ⟨b,0,none⟩) 3 3) hs12 [[.one v7],[.one (Sl.val ⟨a2,c2,l2⟩)],[.one (Sl.val ⟨a3,c3,l3⟩)]]) (ho7:OSl 25 21 v7 hs7 ([p].map ZF.segs)) (k2:SlK M ZF.segs 21 ⟨a2,c2,l2⟩) (k3:SlK M ZF.segs 21 ⟨a3,c3,l3⟩):Fh Tryz.prog 126 [.slice (some ⟨b,0,none⟩) 3 3] M (hs12++hs7) (fun M' v Hout=>Hout=[]∧∃ (q1 c:Nat) (ad:Option Addr) (rows:List (Sl ZF)),v=.func (.func 145) #[] #[.pointer (some ⟨q1,0,none⟩)]∧M' q1=some (rowO [.one (.slice ad rows.length c)] 147)∧SlM M' ad (rows.map (fun s=>[.one s.val])) 1∧rows.length=3∧(∀ s∈rows,SlK M' ZF.segs 21 s)∧(rows.map Sl.l).flatten=p::(l2++l3)):=by
  refine Wt (fun H=>hs12++(hs7++H)) (fun _=>(List.append_assoc _ _ _)) Tryz.func126 rfl Tryz.ntmps126 rfl ?_;intro H
  refine ZK (Zm (l:=[0,1]) rfl ?_)
  refine Xk ?_;intro b1
  refine ZB ?_;refine Zo (Zn (Y_pk [2,1] ?_));refine ZK (Zm (l:=[0,1]) rfl ?_);refine X_makeFunc rfl rfl rfl rfl rfl ?_;refine ZB ?_;refine Zo (Zn (Y_pk [2] ?_));refine Yo ?_
  refine Yk (.inr rfl) (.tmp rfl .nil) (fun w hw=>?_)
  obtain ⟨g1,g2⟩:=hw.freeze
  obtain ⟨M7,ad7,cp7,e1,e2,e3,e4⟩:=ho12.freeze g2
  obtain ⟨M8,s7,d1,d2,d3,d4,d5⟩:=OSl.freezeK (f:=ZF.segs) (l:=[p]) (H:=H) ho7 e2
  simp only [Value.slice.injEq,List.length_cons,List.length_nil] at e3
  obtain ⟨rfl,_,rfl⟩:=e3
  have hle:=g1.trans (e1.trans d1)
  refine ⟨_,M8,[],rfl,hle,d2,rfl,_,3,_,[s7,⟨a2,c2,l2⟩,⟨a3,c3,l3⟩],rfl,Mem.get_of (Mem.add_self _ _ _) (e1.trans d1),?_,rfl,?_,?_⟩
  ·have e5:=e4.mono d1;rw [d3] at e5;exact e5
  ·intro s hs;simp only [List.mem_cons,List.not_mem_nil,or_false] at hs;rcases hs with rfl|rfl|rfl;exact d5;exact k2.mono hle;exact k3.mono hle
  ·simp [d4]
theorem all_seq (M:Mem) (q1 c:Nat) (ad:Option Addr) (rows:List (Sl ZF)) (h1:M q1=some (rowO [.one (.slice ad rows.length c)] 147)) (h2:SlM M ad (rows.map (fun s=>[.one s.val])) 1) (hn:rows.length=3) (h3:∀ s∈rows,SlK M ZF.segs 21 s):Seqs Tryz.prog 145 [.pointer (some ⟨q1,0,none⟩)] (fun p:ZF=>[p.enc]) (rows.map Sl.l).flatten M []:=by
  intro lp J Jx hR M0 Jb G w hm0 hJ hw
  have nrows:(rows.map (fun s:Sl ZF=>[Seg.one s.val])).length=rows.length:=List.length_map ..
  refine enter (S:=St M0 (Jb++G)) Tryz.func145 rfl Tryz.ntmps145 rfl hw ?_;refine ZK (Zm (l:=[0,1,2]) rfl ?_);refine X_load_mem rfl rfl rfl (by exact Mem.get_of (by assumption) (by repeat first|assumption|refine Mem.le.trans (by assumption) ?_)) F.lay147 rfl rfl rfl ?_;refine YY F.elem147 ?_;refine Zx ?_;refine Zo (Zn (Y_pk [9,8,7,0] ?_));refine Xc (Y_pk [9,8,7,0] ?_);refine Vm (Hin:=Jb) (.succ .zero) (by repeat first|exact Rem.here _|exact Rem.two|apply Rem.skip|apply Rem.over) (fun (i:Nat) M9 h1 z=>z=[(9,.int .i64 (i:Int))]∧i≤rows.length∧J ((rows.take i).map Sl.l).flatten M9 h1) (fun i=>rows.length-i) (0) (⟨rfl,by omega,hJ⟩) ?_
  rintro i M1 h1 z hm1 ⟨rfl,hi,hJ1⟩
  have h2b:=h2.mono (hm0.trans hm1)
  refine ZK (Zm (l:=[0]) rfl ?_);refine YI ?_;refine Zo (Zn (ZK ?_))
  refine YA rfl (fun hc1=>?_) (fun hc1=>?_)
  ·replace hc1:=dT hc1
   refine YG (Zn (ZK (Xc (ZK ?_))))
   have hi2:i<rows.length:=by omega
   obtain ⟨⟨r_a,r_c,r_l⟩,hr⟩:∃ s,rows[i]=s:=⟨_,rfl⟩
   have k_r:SlK M1 ZF.segs 21 ⟨r_a,r_c,r_l⟩:=hr ▸ (h3 rows[i] (List.getElem_mem hi2)).mono (hm0.trans hm1)
   have s_r:=k_r.h1
   have n_r:(r_l.map ZF.segs).length=r_l.length:=List.length_map ..
   have m_r:r_l.length≤9223372036854775807:=k_r.h2
   simp only at s_r
   refine Zm (l:=[0,1,2]) rfl ?_;refine YR rfl rfl rfl rfl F.elem147 (by rfl) (by omega) (by exact SlM.plain (by assumption) (by (simp;omega))) rfl ?_;refine Xm rfl rfl rfl (by assumption) (by exact XP (by omega)) F.lay26 rfl rfl rfl ?_
   rw [hr]
   refine ZB ?_;refine Zo (Zn (ZK (Zm (l:=[0,1,2]) rfl ?_)));refine Zx ?_;refine YY F.elem26 ?_;refine Zx ?_;refine Zo (Zn (Xc (Y_pk [15,14,13,4,12,11,10,9,8,7,0] ?_)));refine Vm (Hin:=h1) (.succ .zero) (by repeat first|exact Rem.here _|exact Rem.two|apply Rem.skip|apply Rem.over) (fun (k:Nat) M9 h1 z=>z=[(15,.int .i64 (k:Int))]∧k≤r_l.length∧J (((rows.take i).map Sl.l).flatten++r_l.take k) M9 h1) (fun k=>r_l.length-k) (0) (⟨rfl,by omega,by rw [List.take_zero,List.append_nil];exact hJ1⟩) ?_
   rintro k M2 h2 z hm2 ⟨rfl,hk,hJ2⟩
   have s_r2:=s_r.mono hm2
   refine ZK (Zm (l:=[0]) rfl ?_);refine YI ?_;refine Zo (Zn (ZK ?_))
   refine YA rfl (fun hc2=>?_) (fun hc2=>?_)
   ·replace hc2:=dT hc2
    refine YG (Zn (ZK (Xc (ZK (Zm (l:=[0,1,2,3]) rfl ?_)))));refine YR rfl rfl rfl rfl F.elem26 (by rfl) (by omega) (by exact SlM.plain (by assumption) (by (simp;omega))) rfl ?_;refine Xm rfl rfl rfl (by assumption) (by exact XP (by omega)) F.lay25 rfl rfl rfl ?_
    refine YW F.zero25 ?_;intro b3
    refine Yh F.lay25 ?_;refine Zo (Zn (ZK (C_regionR (l:=[0,1,2,3]) (Hin:=h2) (by repeat first|exact Rem.here _|exact Rem.two|apply Rem.skip|apply Rem.over) rfl ?_)));refine Zx ?_;refine ZD F.lay25 ?_;refine X_yield (x:=r_l[k]) (pre:=((rows.take i).map Sl.l).flatten++r_l.take k) (post:=r_l.drop (k+1)++((rows.drop (i+1)).map Sl.l).flatten) (Hb:=h2) rfl rfl rfl rfl rfl hR (flat_at hi2 hr (by omega)) (hm0.trans (hm1.trans hm2)) hJ2 (by repeat first|exact Rem.here _|exact Rem.two|apply Rem.skip|apply Rem.over) rfl (fun _ _ _ hm hw=>(hw.lower hm).c) rfl ?_ ?_
    ·intro M3 Jb3 hm3 hJ3
     refine Xj ?_;refine Zo (Zn (Wn rfl ?_));refine YG (XR (Zn (Zm (l:=[0,1]) rfl ?_)));refine XE rfl rfl rfl rfl rfl (by exact Xe (by decide) (by omega)) rfl ?_;refine Zx ?_;refine Zo ?_;refine XJ (a':=[(15,_)]) (k+1) (Jb3) (.cons (k:=15) rfl (.cons (k:=14) rfl (.cons (k:=13) rfl (.cons (k:=4) rfl (.cons (k:=12) rfl (.cons (k:=11) rfl (.cons (k:=10) rfl (.cons (k:=9) rfl (.cons (k:=8) rfl (.cons (k:=7) rfl (.cons (k:=0) rfl (.nil)))))))))))) (hm2.trans hm3) (fun w hw=>by first|exact hw|exact hw.c) ?_ ?_
     ·exact ⟨rfl,by omega,by rw [List.take_add_one,List.getElem?_eq_getElem (by omega:k<r_l.length),← List.append_assoc];exact hJ3⟩
     ·omega
    ·intro M3 Jb3 hm3 hJ3
     refine Xj ?_;refine Zo (Zn (Xi rfl ?_));refine Yo (Xh ?_)
     iterate 2 refine YS ?_
     iterate 2 refine Xh ?_
     iterate 2 refine YS ?_
     refine Xh ?_
     refine Yk (.inr rfl) (.nil) (fun w hw=>?_)
     exact ⟨_,M3,Jb3,rfl,hm1.trans (hm2.trans hm3),hw.c,.inr ⟨_,_,flat_rest hi2 hr (by omega),hJ3⟩⟩
   ·replace hc2:=dF hc2
    refine XK ?_
    iterate 2 refine XH ?_
    refine Wh (XR (Zn (Zm (l:=[0,1]) rfl ?_)));refine XE rfl rfl rfl rfl rfl (by exact Xe (by decide) (by omega)) rfl ?_;refine Zx ?_;refine Zo ?_;refine XJ (a':=[(9,_)]) (i+1) (h2) (.cons (k:=9) rfl (.cons (k:=8) rfl (.cons (k:=7) rfl (.cons (k:=0) rfl (.nil))))) (hm1.trans hm2) (fun w hw=>by first|exact hw|exact hw.c) ?_ ?_
    ·exact ⟨rfl,by omega,by obtain rfl:k=r_l.length:=(by omega);rw [flat_next hi2 hr,← List.take_length (l:=r_l)];exact hJ2⟩
    ·omega
  ·replace hc1:=dF hc1
   refine XK ?_
   iterate 2 refine XH ?_
   refine Wh ?_
   refine Yk (.inl rfl) (.nil) (fun w hw=>?_)
   obtain rfl:i=rows.length:=by omega
   exact ⟨_,M1,h1,rfl,hm1,hw.c,.inl (by rw [List.take_length] at hJ1;exact hJ1)⟩
theorem isNaN_ok (M:Mem) (x:Int):Fs Tryz.prog 148 [.int .i64 x] M (fun v=>v=Value.bool (decide (False))):=by
  refine Xv Tryz.func148 rfl Tryz.ntmps148 rfl ?_;intro H
  refine ZK (Zm (l:=[0]) rfl ?_);refine ZB ?_;refine Zo (Zn (ZK (Zm (l:=[0,1,2,3]) rfl ?_)))
  iterate 2 refine Zx ?_
  refine YI ?_;refine ZB ?_;refine Zo (Zn (Y_pk [2] ?_));refine Yo ?_
  refine Yk (.inr rfl) (.tmp rfl .nil) (fun w hw=>?_)
  refine ⟨_,rfl,(hw.c),?_⟩
  clear hw
  refine congrArg Value.bool ?_
  simp
theorem Compare_ok (M:Mem) (x:Int) (y:Int):Fs Tryz.prog 129 [.int .i64 x,.int .i64 y] M (fun v=>v= (.int .i64 (cmp3 x y))):=by
  refine Xv Tryz.func129 rfl Tryz.ntmps129 rfl ?_;intro H
  refine ZK (Zm (l:=[0]) rfl ?_);refine ZB ?_;refine Zo (Zn (ZK (Zm (l:=[0,1,2]) rfl ?_)));refine Zx ?_;refine X_fs rfl rfl F.ok148 rfl (isNaN_ok _ _) rfl ?_
  rintro _ rfl
  refine ZB ?_;refine Zo (Zn (Y_pk [5,4,0,1] ?_));refine ZK (Zm (l:=[0,1,2]) rfl ?_);refine Zx ?_;refine X_fs rfl rfl F.ok148 rfl (isNaN_ok _ _) rfl ?_
  rintro _ rfl
  refine ZB ?_;refine Zo (Zn (Y_pk [6,5,4,0,1] ?_))
  iterate 2 refine ZK ?_
  refine Zm (l:=[0]) rfl ?_;refine Zx ?_;refine Zo (Zn (Y_pk [11,6,4,0,1] ?_))
  refine YA rfl (fun hc1=>?_) (fun hc1=>?_)
  ·replace hc1:=dT hc1
   (exfalso;omega)
  ·replace hc1:=dF hc1
   refine YG (Zn (Y_pk [6,4,0,1] ?_))
   iterate 2 refine ZK ?_
   refine Zm (l:=[0]) rfl ?_;refine Zx ?_;refine Zo (Zn (Y_pk [13,4,0,1] ?_))
   refine YA rfl (fun hc2=>?_) (fun hc2=>?_)
   ·replace hc2:=dT hc2
    (exfalso;omega)
   ·replace hc2:=dF hc2
    refine YG (Zn (Y_pk [4,0,1] ?_))
    iterate 2 refine ZK ?_
    refine Zm (l:=[0,1,2]) rfl ?_
    iterate 2 refine Zx ?_
    refine YI ?_;refine Zo (Zn (Y_pk [16,4,0,1] ?_))
    refine YA rfl (fun hc3=>?_) (fun hc3=>?_)
    ·replace hc3:=dT hc3
     refine ZK (Zm (l:=[0]) rfl ?_);refine ZB ?_;refine Zo (Zn (Y_pk [4,0,1] ?_));refine Yo (YS ?_)
     refine Yk (.inr rfl) (.tmp rfl .nil) (fun w hw=>?_)
     refine ⟨_,rfl,(hw.c),?_⟩
     clear hw
     refine congrArg (Value.int .i64) ?_
     unfold cmp3
     (rw [if_pos (by omega)];done)
    ·replace hc3:=dF hc3
     refine YG (Zn (Y_pk [4,0,1] ?_))
     iterate 2 refine ZK ?_
     refine Zm (l:=[0,1,2]) rfl ?_
     iterate 2 refine Zx ?_
     refine YI ?_;refine Zo (Zn (Y_pk [19,4] ?_))
     refine YA rfl (fun hc4=>?_) (fun hc4=>?_)
     ·replace hc4:=dT hc4
      refine ZK (Zm (l:=[0]) rfl ?_);refine ZB ?_;refine Zo (Zn (Y_pk [4] ?_));refine Yo (YS ?_)
      refine Yk (.inr rfl) (.tmp rfl .nil) (fun w hw=>?_)
      refine ⟨_,rfl,(hw.c),?_⟩
      clear hw
      refine congrArg (Value.int .i64) ?_
      unfold cmp3
      (rw [if_neg (by omega),if_pos (by omega)];done)
     ·replace hc4:=dF hc4
      refine YG (Zn (Y_pk [4] ?_));refine ZK (Zm (l:=[0]) rfl ?_);refine ZB ?_;refine Zo (Zn (Yo ?_))
      refine Yk (.inr rfl) (.tmp rfl .nil) (fun w hw=>?_)
      refine ⟨_,rfl,(hw.c),?_⟩
      clear hw
      refine congrArg (Value.int .i64) ?_
      unfold cmp3
      (rw [if_neg (by omega),if_neg (by omega)];done)
theorem byAddr_ok (M:Mem) (x:ZF) (y:ZF):Fs Tryz.prog 128 [x.enc,y.enc] M (fun v=>v= (.int .i64 (cmp3 x.addr y.addr))):=by
  obtain ⟨VQ,x_id⟩:=x
  obtain ⟨y_addr,y_id⟩:=y
  refine Xv Tryz.func128 rfl Tryz.ntmps128 rfl ?_;intro H
  refine ZK (Zm (l:=[0,1,2]) rfl ?_)
  refine Xk ?_;intro b1
  refine Xk ?_;intro b2
  refine ZB ?_;refine Zo (Zn (Y_pk [4,3,2] ?_));refine ZK (Zm (l:=[0,1,2,3,4,5]) rfl ?_);refine Zk F.foff25_0 ?_;refine ZD F.lay3 ?_;refine Zk F.foff25_0 ?_;refine ZD F.lay3 ?_;refine X_fs rfl rfl F.ok129 rfl (Compare_ok _ _ _) rfl ?_
  rintro _ rfl
  refine ZB ?_;refine Zo (Zn (Y_pk [4] ?_));refine Yo ?_
  refine Yk (.inr rfl) (.tmp rfl .nil) (fun w hw=>?_)
  refine ⟨_,rfl,(hw.c),?_⟩
  clear hw
  rfl
end Go.Proofs.YtajmnjefajknoaaGreat
namespace Go.Proofs
open Go.Shelf
def Tryz.sortL_ren:Go.Shelf.Ren:=⟨fun|6=>127|15=>147|14=>146|28=>162|29=>163|20=>154|21=>155|22=>156|23=>157|24=>158|25=>159|26=>160|27=>161|46=>166|47=>167|48=>168|49=>169|50=>170|57=>171|n=>n,fun|22=>26|24=>25|25=>137|3=>3|39=>129|0=>0|53=>152|55=>29|4=>4|46=>160|45=>159|50=>94|5=>5|9=>9|66=>168|70=>99|76=>173|77=>174|n=>n,fun|n=>n⟩
theorem Tryz.sortL:Go.Proofs.SlLaysF0.n6 Tryz.prog Tryz.sortL_ren:={
  mixed:=by kernel_rfl
  f6:=⟨Tryz.f127.name,by decide,Tryz.func127.trans (congrArg some (by kernel_rfl))⟩
  f14:=⟨Tryz.f146.name,by decide,Tryz.func146.trans (congrArg some (by kernel_rfl))⟩
  f15:=Tryz.func147.trans (congrArg some (by kernel_rfl))
  f20:=⟨Tryz.f154.name,by decide,Tryz.func154.trans (congrArg some (by kernel_rfl))⟩
  f21:=⟨Tryz.f155.name,by decide,Tryz.func155.trans (congrArg some (by kernel_rfl))⟩
  f22:=⟨Tryz.f156.name,by decide,Tryz.func156.trans (congrArg some (by kernel_rfl))⟩
  f23:=⟨Tryz.f157.name,by decide,Tryz.func157.trans (congrArg some (by kernel_rfl))⟩
  f24:=⟨Tryz.f158.name,by decide,Tryz.func158.trans (congrArg some (by kernel_rfl))⟩
  f25:=⟨Tryz.f159.name,by decide,Tryz.func159.trans (congrArg some (by kernel_rfl))⟩
  f26:=⟨Tryz.f160.name,by decide,Tryz.func160.trans (congrArg some (by kernel_rfl))⟩
  f27:=⟨Tryz.f161.name,by decide,Tryz.func161.trans (congrArg some (by kernel_rfl))⟩
  f28:=Tryz.func162.trans (congrArg some (by kernel_rfl))
  f29:=Tryz.func163.trans (congrArg some (by kernel_rfl))
  f46:=⟨Tryz.f166.name,by decide,Tryz.func166.trans (congrArg some (by kernel_rfl))⟩
  f47:=Tryz.func167.trans (congrArg some (by kernel_rfl))
  f48:=Tryz.func168.trans (congrArg some (by kernel_rfl))
  f49:=⟨Tryz.f169.name,by decide,Tryz.func169.trans (congrArg some (by kernel_rfl))⟩
  f50:=⟨Tryz.f170.name,by decide,Tryz.func170.trans (congrArg some (by kernel_rfl))⟩
  f57:=⟨Tryz.f171.name,by decide,Tryz.func171.trans (congrArg some (by kernel_rfl))⟩
  t0:=Tryz.underlying0
  a0:=Tryz.isAgg0
  z0:=Tryz.sizeOf0
  v0:=Tryz.zeroValue0
  t3:=Tryz.underlying3
  a3:=Tryz.isAgg3
  z3:=Tryz.sizeOf3
  v3:=Tryz.zeroValue3
  t4:=Tryz.underlying4
  a4:=Tryz.isAgg4
  z4:=Tryz.sizeOf4
  v4:=Tryz.zeroValue4
  t5:=Tryz.underlying5
  a5:=Tryz.isAgg5
  z5:=Tryz.sizeOf5
  v5:=Tryz.zeroValue5
  t9:=Tryz.underlying9
  a9:=Tryz.isAgg9
  z9:=Tryz.sizeOf9
  v9:=Tryz.zeroValue9
  t22:=Tryz.underlying26
  a22:=Tryz.isAgg26
  z22:=Tryz.sizeOf26
  v22:=Tryz.zeroValue26
  t25:=Tryz.underlying137
  a25:=Tryz.isAgg137
  z25:=Tryz.sizeOf137
  v25:=Tryz.zeroValue137
  t39:=Tryz.underlying129
  a39:=Tryz.isAgg129
  z39:=Tryz.sizeOf129
  v39:=Tryz.zeroValue129
  t45:=Tryz.underlying159
  a45:=Tryz.isAgg159
  z45:=Tryz.sizeOf159
  v45:=Tryz.zeroValue159
  t46:=Tryz.underlying160
  a46:=Tryz.isAgg160
  z46:=Tryz.sizeOf160
  v46:=Tryz.zeroValue160
  t50:=Tryz.underlying94
  a50:=Tryz.isAgg94
  z50:=Tryz.sizeOf94
  v50:=Tryz.zeroValue94
  t53:=Tryz.underlying152
  a53:=Tryz.isAgg152
  z53:=Tryz.sizeOf152
  v53:=Tryz.zeroValue152
  t55:=Tryz.underlying29
  a55:=Tryz.isAgg29
  z55:=Tryz.sizeOf29
  v55:=Tryz.zeroValue29
  t66:=Tryz.underlying168
  a66:=Tryz.isAgg168
  z66:=Tryz.sizeOf168
  v66:=Tryz.zeroValue168
  t70:=Tryz.underlying99
  a70:=Tryz.isAgg99
  z70:=Tryz.sizeOf99
  v70:=Tryz.zeroValue99
  t76:=Tryz.underlying173
  a76:=Tryz.isAgg173
  z76:=Tryz.sizeOf173
  v76:=Tryz.zeroValue173
  t77:=Tryz.underlying174
  a77:=Tryz.isAgg174
  z77:=Tryz.sizeOf174
  v77:=Tryz.zeroValue174 }
end Go.Proofs
namespace Go.Esp
open Go.Proofs Go.Shelf Go.RowKit Go.Lib Go.Sort
def memS (W:World):Mem:=⟨fun b=>W.heap[b]?,W.os,W.tape,W.output,W.drawn⟩
theorem St.startS (W:World):St (memS W) [] W:=⟨fun _ _ h=>h,fun _ _ h=>(by cases h),fun _ _ h=>(by cases h),List.nodup_nil,rfl,rfl,rfl,Nat.le_refl _⟩
theorem lays_of_fs {P:Program} {g:FuncId} {vs:List Value} {r:Value} (h:∀ M,Fs P g vs M (fun v=>v=r)) (W:World):Calls P g vs.toArray W fun e w'=>e=.returned r∧∃ q os',w'=grow (W.drewN q) os':=by
  refine (h (memS W) [] W (St.startS W)).mono ?_
  rintro e w' ⟨v,rfl,hst,rfl⟩
  refine ⟨rfl,w'.drawn-W.drawn,w'.heap.extract W.heap.size w'.heap.size,?_⟩
  have hp:∀ b o,W.heap[b]?=some o→w'.heap[b]?=some o:=hst.mem
  obtain ⟨h1,h2,h3,h4⟩:=hst.io
  have hle:W.heap.size≤w'.heap.size:=by
    rcases Nat.eq_zero_or_pos W.heap.size with h0|h0
    · omega
    · have:=hp (W.heap.size-1) _ (Array.getElem?_eq_getElem (by omega))
      have:=(Array.getElem?_eq_some_iff.1 this).1
      omega
  have hh:w'.heap=W.heap++w'.heap.extract W.heap.size w'.heap.size:=by
    apply Array.ext_getElem?
    intro i
    rw [Array.getElem?_append]
    split
    · rename_i hi
      rw [hp i _ (Array.getElem?_eq_getElem hi),Array.getElem?_eq_getElem hi]
    · rename_i hi
      rw [Array.getElem?_extract]
      rw [show W.heap.size+(i-W.heap.size)=i by omega]
      split
      · rfl
      · rw [Array.getElem?_eq_none];omega
  cases w' with
  | mk heap tape drawn os output =>
    simp only [grow,World.drewN,World.mk.injEq]
    simp only [memS] at h1 h2 h3 h4
    exact ⟨hh,h2,(Nat.add_sub_cancel' h4).symm,h1,h3⟩
section
variable {α:Type} [Inhabited α] {f:α→Segs} {sz:Nat}
theorem rowsCells_get {rows:List Segs} (h:lens sz rows) {j i:Nat} {r:Segs} (hr:rows[j]?=some r) (hi:i<sz):(YH rows)[j * sz+i]?=(Segs.cells r)[i]?:=by
  rw [← rowsCells_at h hr,List.getElem?_take,if_pos hi,List.getElem?_drop]
theorem flat_get (hpos:0<sz) (hk:∀ x,(Segs.cells (f x)).length=sz) {l:List α} (hl:lens sz (l.map f)) {t:Nat} (ht:t<l.length * sz) :
    (YH (l.map f))[t]?=some ((flatK (fun x=>Segs.cells (f x)) sz l.toArray)[t]!):=by
  have hj:t / sz<l.length:=(Nat.div_lt_iff_lt_mul hpos).2 ht
  have hm:=Nat.mod_lt t hpos
  have h:=rowsCells_get hl (j:=t / sz) (i:=t % sz) (r:=f l[t / sz]) (by rw [List.getElem?_map,List.getElem?_eq_getElem hj];rfl) hm
  rw [Nat.div_add_mod'] at h
  rw [h,get_flatK _ _ _ _ (by simpa using ht)]
  have e:l.toArray[t / sz]! = l[t / sz]:=by rw [getElem!_pos _ _ (by simpa using hj)];simp
  rw [e,List.getElem?_eq_getElem (by rw [hk];exact hm)]
  congr 1
  rw [getElem!_pos _ _ (by rw [hk];exact hm)]
theorem st_sorted {M:Mem} {H:Hp} {w:World} {b T:Nat} {cur F:Array Value} (hw:St M ((b,.cells cur T (0,0))::H) w) (n:Nat) (os:Array Obj) :
    St M ((b,.cells (putCells id 0 F cur) T (0,0))::H) (grow (putRow id (Sort.ahead w n) b 0 F) os):=by
  have hb:=hw.own b _ (.head _)
  have hlt:=(Array.getElem?_eq_some_iff.1 hb).1
  refine hw.upd .head ?_ (fun c hc x hx=>?_) ⟨rfl,rfl,rfl,Nat.le_add_right _ _⟩
  · show ((w.heap.modify b _)++os)[b]?=_
    rw [Array.getElem?_append_left (by simpa using hlt),Array.getElem?_modify,if_pos rfl,hb]
    rfl
  · show ((w.heap.modify b _)++os)[c]?=_
    have hcl:=(Array.getElem?_eq_some_iff.1 hx).1
    rw [Array.getElem?_append_left (by simpa using hcl),Array.getElem?_modify,if_neg (Ne.symm hc),hx]
theorem sort_fh {P:Program} {ρ:Ren} (L:SlLaysF0.n6 P ρ) (aE:∀ w,(isAgg (ρ.t 24)).run P w=.ok true w) (zE:∀ w,(Go.sizeOf (ρ.t 24)).run P w=.ok sz w) (hpos:0<sz) (hk:∀ x,(Segs.cells (f x)).length=sz)
    (h1:∀ x,∀ v∈Segs.cells (f x),v.oneCell'=true) (cf:α→α→Int) (hO:SWO (ltOf cf)) (g:FuncId) (hg:okFn P g=true) (hc:∀ M x y,Fs P g [aggV (f x),aggV (f y)] M (fun v=>v=.int .i64 (cf x y)))
    {T b c:Nat} {l:List α} {hs:Hp} (ho:OSl T sz (.slice (some ⟨b,0,none⟩) l.length c) hs (l.map f)) (hl:l.length≤1000000) (M:Mem) :
    Fh P (ρ.f 6) [.slice (some ⟨b,0,none⟩) l.length c,.func (.func g) #[] #[]] M hs (fun M' v Hout=>M'=M∧v=.tuple #[]∧∃ l':List α,l'.Perm l∧l'.Pairwise (fun x y=>¬cf y x<0)∧OSl T sz (.slice (some ⟨b,0,none⟩) l.length c) Hout (l'.map f)):=by
  obtain ⟨cur,rfl,hl0,hlens,hle,hcm,hcs,htk⟩:=ho.inv
  have hml:(l.map f).length=l.length:=List.length_map ..
  rw [hml] at hle htk
  intro H w hw
  have hb:=hw.own b _ (.head _)
  have hlt:=(Array.getElem?_eq_some_iff.1 hb).1
  have hsz:l.length * sz≤cur.size:=by rw [hcs];exact Nat.mul_le_mul_right _ hle
  have hH:HoldsK (fun x=>Segs.cells (f x)) sz w b 0 l.toArray:=by
    intro j hj
    have hj':j<l.length * sz:=by simpa using hj
    refine ⟨?_,?_⟩
    · unfold World.cell?
      simp only [hb,Option.isSome_none,Bool.false_eq_true,if_false,Nat.zero_add,id]
      rw [← flat_get hpos hk hlens hj',← htk,List.getElem?_take,if_pos hj']
      simp
    · unfold World.frozen?
      simp only [hb]
      simp
  have hcl:CmpLays P g #[] (fun x=>Segs.cells (f x)) sz cf b 0 l.toArray.size w:=fun m os dk _ x y=>lays_of_fs (fun M=>hc M x y) _
  have key:=AnyQ.slices_SortFunc L sz aE zE (fun x=>Segs.cells (f x)) hk h1 cf hO g #[] b 0 c l.toArray w (fun args w=>callFunc_run hg) hcl hH hlt (by simp;omega)
  rw [show l.toArray.size=l.length from by simp] at key
  refine key.mono ?_
  rintro e w' ⟨rfl,d',n,os,⟨hp1,_,hp3⟩,hs1,rfl⟩
  have hd:d'.size=l.length:=by simpa using hp1
  have hst:=st_sorted (F:=flatK (fun x=>Segs.cells (f x)) sz d') hw n os
  have hperm:d'.toList.Perm l:=by
    have h9:=hp3
    rw [show d'.extract 0 l.length=d' from by rw [← hd];simp,show l.toArray.extract 0 l.length=l.toArray from by rw [show l.length=l.toArray.size from by simp];simp] at h9
    simpa using h9
  have hlens':lens sz (d'.toList.map f):=fun r hr=>by
    obtain ⟨x,hx,rfl⟩:=List.mem_map.1 hr
    rw [← Segs.cells_length];exact hk x
  refine ⟨_,M,[(b,.cells (putCells id 0 (flatK (fun x=>Segs.cells (f x)) sz d') cur) T (0,0))],rfl,Mem.le.refl M,hst,rfl,rfl,d'.toList,hperm,?_,?_⟩
  · rw [List.pairwise_iff_getElem]
    intro i j hi hj hij
    have h9:=hs1 i j (Nat.zero_le _) hij (by rw [← hd];simpa using hj)
    rw [getElem!_pos _ _ (by simpa using hj),getElem!_pos _ _ (by simpa using hi)] at h9
    unfold ltOf at h9
    simpa using h9
  · have hln:(d'.toList.map f).length=l.length:=by simpa using hd
    have:=OSl.own (T:=T) b c (d'.toList.map f) (putCells id 0 (flatK (fun x=>Segs.cells (f x)) sz d') cur) hlens' (by rw [hln];exact hle) hcm (by simpa [putCells] using hcs) ?_
    · rw [hln] at this;exact this
    · apply List.ext_getElem?
      intro t
      rw [List.getElem?_take]
      by_cases ht:t<(d'.toList.map f).length * sz
      · rw [if_pos ht]
        have ht':t<d'.toList.length * sz:=by simpa using ht
        rw [flat_get hpos hk hlens' ht']
        have htc:t<cur.size:=by rw [hln] at ht;omega
        simp only [putCells,Array.getElem?_toList,Array.getElem?_mapIdx,Array.getElem?_eq_getElem htc,Option.map_some]
        rw [if_pos ⟨Nat.zero_le _,by simpa using ht⟩]
        simp
      · rw [if_neg ht,List.getElem?_eq_none]
        rw [rowsCells_len hlens'];omega
end
end Go.Esp
namespace Go.Proofs.YtajmnjefajknoaaGreat
open Go.Esp
theorem F.ok128:okFn Tryz.prog 128=true:=by kernel_rfl
theorem F.ok146:okFn Tryz.prog 146=true:=by kernel_rfl
theorem F.ok147:okFn Tryz.prog 147=true:=by kernel_rfl
theorem F.ok154:okFn Tryz.prog 154=true:=by kernel_rfl
theorem Ins_nil (M:Mem) (g:FuncId):Fs Tryz.prog 154 [.slice none 0 0,.int .i64 0,.int .i64 0,.func (.func g) #[] #[]] M (fun v=>v=.tuple #[]):=by
  refine Xv Tryz.func154 rfl Tryz.ntmps154 rfl ?_;intro H
  refine ZK (Zm (l:=[0,1,2]) rfl ?_);refine Zx ?_;refine XE rfl rfl rfl rfl rfl (by exact Xe (by decide) (by omega)) rfl ?_;refine ZB ?_;refine Zo (Zn (Y_pk [8,0,1,2,3] ?_));refine Xc (Y_pk [8,0,1,2,3] ?_);refine WV (.succ .zero) (fun (_:Nat) z=>z=[(8,.int .i64 1)]) (fun _=>1) (0) (rfl) ?_
  rintro _ _ rfl
  iterate 2 refine ZK ?_
  refine Zm (l:=[0,1,2]) rfl ?_
  iterate 2 refine Zx ?_
  refine YI ?_;refine Zo (Zn ?_)
  refine YA rfl (fun hc1=>?_) (fun hc1=>?_)
  ·replace hc1:=dT hc1
   (exfalso;omega)
  ·replace hc1:=dF hc1
   refine XK ?_
   iterate 2 refine XH ?_
   refine Wh ?_
   refine Yk (.inl rfl) (.nil) (fun w hw=>?_)
   exact ⟨_,rfl,hw.c,rfl⟩
theorem Pdq_nil (M:Mem) (g:FuncId) (lim:Int):Fs Tryz.prog 146 [.slice none 0 0,.int .i64 0,.int .i64 0,.int .i64 lim,.func (.func g) #[] #[]] M (fun v=>v=.tuple #[]):=by
  refine Xv Tryz.func146 rfl Tryz.ntmps146 rfl ?_;intro H
  refine ZK (Zm (l:=[0]) rfl ?_);refine ZB ?_;refine Zo (Zn (ZK (Zm (l:=[0]) rfl ?_)));refine ZB ?_;refine Zo (Zn (Xc (Y_pk [1,2,3,10,11,0,4] ?_)));refine WV (.succ (.succ (.succ (.succ (.succ .zero))))) (fun (_:Nat) z=>z=[(1,.int .i64 0),(2,.int .i64 0),(3,.int .i64 lim),(10,.bool true),(11,.bool true)]) (fun _=>1) (0) (rfl) ?_
  rintro _ _ rfl
  refine Xc (ZK (Zm (l:=[0,1,2,3]) rfl ?_))
  iterate 2 refine Zx ?_
  refine XE rfl rfl rfl rfl rfl (by exact Xe (by decide) (by omega)) rfl ?_;refine ZB ?_;refine Zo (Zn ?_)
  iterate 2 refine ZK ?_
  refine Zm (l:=[0,1]) rfl ?_;refine Zx ?_;refine YI ?_;refine Zo (Zn ?_)
  refine YA rfl (fun hc1=>?_) (fun hc1=>?_)
  ·replace hc1:=dT hc1
   refine ZK (Zm (l:=[0,1,2,3,4]) rfl ?_)
   iterate 4 refine Zx ?_
   refine X_fs rfl rfl F.ok154 rfl (Ins_nil M g) rfl ?_
   rintro _ rfl
   refine Zo (Zn (Y_pk [29,28,27,26,25,24,12,23,22,21,1,2,3,10,11,0,4] ?_));refine Yo (YS (Xh (YS (Xh ?_))))
   refine Yk (.inr rfl) (.nil) (fun w hw=>?_)
   exact ⟨_,rfl,hw.c,rfl⟩
  ·replace hc1:=dF hc1
   (exfalso;omega)
theorem Len_nil (M:Mem):Fs Tryz.prog 147 [.int .u64 0] M (fun v=>v=.int .i64 (Lib.bitLen 0)):=fun H w hw=>(Any.bits_Len (SlLaysF0.n15.bits (P:=Tryz.prog) (ρ:=Tryz.sortL_ren) { Tryz.sortL with }) 0 w (by omega) (by omega)).mono fun _ _ ⟨he,hw2⟩=>⟨_,he,by rw [hw2];exact hw,rfl⟩
theorem Sort_nil (M:Mem) (g:FuncId):Fs Tryz.prog 127 [.slice none 0 0,.func (.func g) #[] #[]] M (fun v=>v=.tuple #[]):=by
  refine Xv Tryz.func127 rfl Tryz.ntmps127 rfl ?_;intro H
  refine ZK (Zm (l:=[0,1,2]) rfl ?_);refine Zx ?_;refine YY F.elem26 ?_;refine ZB ?_;refine Zo (Zn (Y_pk [4,0,1] ?_));refine Zm (l:=[0,1,2,3,4,5,6]) rfl ?_
  iterate 3 refine Zx ?_
  refine Ug rfl rfl rfl Tryz.underlying3 Tryz.underlying129 (by exact wrap_u64_in (by decide) (by omega)) rfl ?_;refine X_fs rfl rfl F.ok147 rfl (Len_nil M) rfl ?_
  rintro _ rfl
  refine Zx ?_;refine X_fs rfl rfl F.ok146 rfl (Pdq_nil M g _) rfl ?_
  rintro _ rfl
  refine Zo ?_
  refine Yk (.inl rfl) (.nil) (fun w hw=>?_)
  exact ⟨_,rfl,hw.c,rfl⟩
instance:Inhabited ZF:=⟨⟨0,0⟩⟩
theorem byAddr_swo:Sort.SWO (ltOf fun x y:ZF=>cmp3 x.addr y.addr):=by
  have e:∀ x y:ZF,ltOf (fun x y:ZF=>cmp3 x.addr y.addr) x y=decide (x.addr<y.addr):=by
   intro x y;unfold ltOf cmp3;by_cases h:x.addr<y.addr <;> simp [h];split <;> omega
  exact ⟨fun x=>by rw [e];simp,fun x y z h1 h2=>by rw [e] at *;simp at *;omega,fun x y z h1 h2=>by rw [e] at *;simp at *;omega⟩
theorem Sort_ok (M:Mem) (a:Option Addr) (c:Nat) (l:List ZF) (hs:Hp) (ho:OSl 25 21 (.slice a l.length c) hs (l.map ZF.segs)) (hl:l.length≤1000000):Fh Tryz.prog 127 [.slice a l.length c,.func (.func 128) #[] #[]] M hs (fun M' v Hout=>M'=M∧v=.tuple #[]∧∃ l':List ZF,l'.Perm l∧l'.Pairwise (fun x y=>x.addr≤y.addr)∧OSl 25 21 (.slice a l.length c) Hout (l'.map ZF.segs)):=by
  cases a with
  |none =>
   obtain ⟨rfl,rfl,rfl⟩:=ho.noneAll
   exact fun H w hw=>(Sort_nil M 128 H w hw).mono fun e w' ⟨v,he,hst,hv⟩=>⟨v,M,[],he,Mem.le.refl M,hst,rfl,hv,[],.refl _,.nil,OSl.nil⟩
  |some ad =>
   obtain ⟨b,rfl⟩:=ho.someAll
   have key:=sort_fh (f:=ZF.segs) (sz:=21) Tryz.sortL Tryz.isAgg25 Tryz.sizeOf25 (by decide) (fun x=>(Segs.cells_length _).trans (ZF.len x)) (fun x=>ZF.flat x) (fun x y:ZF=>cmp3 x.addr y.addr) byAddr_swo 128 F.ok128 (fun M x y=>byAddr_ok M x y) ho hl M
   exact fun H w hw=>(key H w hw).mono fun e w' ⟨v,M2,Ho,he,hle,hst,hM,hv,l2,h1,h2,h3⟩=>⟨v,M2,Ho,he,hle,hst,hM,hv,l2,h1,h2.imp (fun h=>by unfold cmp3 at h;split at h <;> (try split at h) <;> omega),h3⟩
end Go.Proofs.YtajmnjefajknoaaGreat
namespace Go.Proofs.YtajmnjefajknoaaGreat
open Go.Esp
theorem F.ok126:okFn Tryz.prog 126=true:=by kernel_rfl
theorem F.ok127:okFn Tryz.prog 127=true:=by kernel_rfl
theorem F.ok145:okFn Tryz.prog 145=true:=by kernel_rfl
theorem F.zero26:WH Tryz.prog 26=some ((.slice none 0 0)):=by kernel_rfl
theorem Known_ok (M:Mem) (t:ZQ) (ht0:ZQ.ok M t) (hbig:t.succ.l.length≤40∧t.fingers.l.length≤200):Esp.Fn Tryz.prog 90 [t.enc] M (fun M' v=>PsIs M' v (knownT t.tb)):=by
  obtain ⟨⟨Yd,Yi⟩,⟨Ym,Yy⟩,⟨Yq,Yp,ZU⟩,⟨Yg,Yf,ZE⟩⟩:=t
  have YT:SlK M ZF.segs 21 ⟨Yq,Yp,ZU⟩:=ht0.h0
  have WA:SlM M Yq (ZU.map ZF.segs) 21:=YT.h1
  have WI:(ZU.map ZF.segs).length=ZU.length:=List.length_map ..
  have WJ:ZU.length≤9223372036854775807:=YT.h2
  have WK:ZU.length≤Yp:=YT.h3
  have Yu:SlK M ZF.segs 21 ⟨Yg,Yf,ZE⟩:=ht0.h1
  have XQ:SlM M Yg (ZE.map ZF.segs) 21:=Yu.h1
  have Wc:(ZE.map ZF.segs).length=ZE.length:=List.length_map ..
  have XZ:ZE.length≤9223372036854775807:=Yu.h2
  have Wd:ZE.length≤Yf:=Yu.h3
  simp only at hbig
  refine fnM_enter Tryz.func90 rfl Tryz.ntmps90 rfl ?_;intro H
  refine ZK (Zm (l:=[0,1]) rfl ?_)
  refine Xk ?_;intro b1
  refine ZB ?_;refine Zo (Zn (Y_pk [2,1] ?_));refine ZK (Zm (l:=[0]) rfl ?_)
  refine YW F.zero26 ?_;intro b2
  refine Zo (Zn ?_)
  iterate 2 refine ZK ?_
  refine Zm (l:=[0,1,2,3,4,5,6,7,8]) rfl ?_;refine Zk F.foff28_1 ?_;refine ZD F.lay25 ?_
  refine Xq rfl rfl F.elem26 F.zero25 rfl rfl (.cons rfl (by constructor) .nil) rfl rfl (by simp only [List.map_cons,List.map_nil] <;> rfl) rfl ?_;intro b3 hob4
  refine Zk F.foff28_2 ?_;refine ZD F.lay26 ?_;refine Zk F.foff28_3 ?_;refine ZD F.lay26 ?_
  refine Xq rfl rfl F.elem147 F.zero26 rfl rfl (.cons rfl (by constructor) (.cons rfl (by constructor) (.cons rfl (by constructor) .nil))) rfl rfl (by simp only [List.map_cons,List.map_nil] <;> rfl) rfl ?_;intro b5 hob6
  refine X_fhR2 rfl rfl F.ok126 rfl (all_ok M _ _ _ _ ⟨Ym,Yy⟩ Yq Yp ZU Yg Yf ZE hob6 hob4 YT Yu) (by repeat first|exact Rem.here _|exact Rem.two|apply Rem.skip|apply Rem.over) (by repeat first|exact Rem.here _|exact Rem.two|apply Rem.skip|apply Rem.over) (by rintro v M9 Hout w hm ⟨rfl,_⟩ hw;exact (hw.lower hm).c) (YV rfl) ?_
  rintro _ M1 _ hm1 ⟨rfl,q1,qc,qad,qrows,rfl,hq1,hq2,hqn,hq3,hqx⟩
  simp only [List.nil_append]
  refine Zo (Zn (Y_pk [13,3,2,1] ?_));refine Xc (Y_pk [13,3,2,1] ?_);refine C_rangeFunc (enc:=fun p:ZF=>[p.enc]) (xs:=(qrows.map Sl.l).flatten) (Hi:=[]) (Hu:=(b1,rowO [.one (.int .i64 Yd),Yt Yi,.one (.int .i64 Ym),Yt Yy,.one (Sl.val ⟨Yq,Yp,ZU⟩),.one (Sl.val ⟨Yg,Yf,ZE⟩)] 28)::(b2,rowO [.one (.slice none 0 0)] 26)::[]) (H0:=H) (fun pre M9 Hu=>∃ (acc:List ZF) (v:Value) (hs:Hp),Hu=(b1,rowO [.one (.int .i64 Yd),Yt Yi,.one (.int .i64 Ym),Yt Yy,.one (Sl.val ⟨Yq,Yp,ZU⟩),.one (Sl.val ⟨Yg,Yf,ZE⟩)] 28)::(b2,rowO [.one v] 26)::hs∧OSl 25 21 v hs (acc.map ZF.segs)∧acc.length≤pre.length∧acc=pre.foldl (VZ ⟨Yd,Yi⟩) []) (fun _ _ _ _=>False) rfl F.ok145 (all_seq M1 q1 qc qad qrows hq1 hq2 hqn hq3) (fun w hw=>hw.c) ⟨[],_,[],rfl,OSl.nil,by simp,rfl⟩ (fun _=>rfl) rfl ?_ ?_ ?_
  ·rintro lp rdy bsy pre ⟨VQ,x_id⟩ post M3 _ G hxs hm3 ⟨acc,v0,hs0,rfl,ho,hal,hI⟩
   obtain ⟨ad0,cp0,rfl⟩:=ho.valL
   have hml:(acc.map ZF.segs).length=acc.length:=List.length_map ..
   have hpl:pre.length≤1000:=by
    have h9:=congrArg List.length (hqx.symm.trans hxs)
    simp only [List.length_cons,List.length_append] at h9
    omega
   simp only [List.cons_append,rEnv]
   refine Zm (l:=[0,1]) rfl ?_
   refine YW F.zero25 ?_;intro b7
   refine Yh F.lay25 ?_;refine Zo (K_assign1 ?_);refine Xc (ZK (Zm (l:=[0,1,2,3,4,5,6,7,8,9,10,11,12,13,14,15,16,17]) rfl ?_));refine Zk F.foff25_0 ?_;refine ZD F.lay3 ?_;refine YI ?_;refine Zx ?_
   refine Yj 18 rfl (fun hc8=>?_) (fun hc8=>?_)
   ·replace hc8:=dT hc8
    refine Zk F.foff25_0 ?_;refine ZD F.lay3 ?_;refine Zk F.foff28_0 ?_;refine Zk F.foff25_0 ?_;refine ZD F.lay3 ?_;refine YI ?_;refine ZO ?_;refine Zx ?_
    refine Yj 26 rfl (fun hc9=>?_) (fun hc9=>?_)
    ·replace hc9:=nT hc9
     refine ZD F.lay26 ?_;refine Zk F.foff25_0 ?_;refine ZD F.lay3 ?_;refine X_fo rfl rfl F.ok119 rfl (has_rd _ hs0 ⟨ad0,cp0,acc⟩ _ (ho.rd _) (by show acc.length≤9223372036854775807;omega)) (by repeat first|exact Rem.here _|exact Rem.two|apply Rem.skip|apply Rem.over) (YV rfl) ?_
     rintro _ M1 _ ⟨hM1,rfl⟩;subst M1
     refine Xj ?_;refine ZO ?_;refine Zo (Zn (Y_pk [32,4,3,2] ?_))
     refine YA rfl (fun hc10=>?_) (fun hc10=>?_)
     ·replace hc10:=nT hc10
      simp only [ZF.eta,ZQ.eta,ZR.eta,ZP.eta,Yr.eta,ZW.eta,YQ.eta,Yc.eta] at hc10
      refine Zm (l:=[0,1,2,3,4]) rfl ?_;refine ZD F.lay26 ?_;refine ZD F.lay25 ?_
      refine Xq rfl rfl F.elem26 F.zero25 rfl rfl (.cons rfl (by constructor) .nil) rfl rfl (by simp only [List.map_cons,List.map_nil] <;> rfl) rfl ?_;intro b11 hob12
      refine Vh (m:=1000000) rfl rfl rfl rfl rfl F.elem26 F.zero25 (by exact Ww rfl) rfl (by assumption) (by repeat first|exact Rem.here _|exact Rem.two|apply Rem.skip|apply Rem.over) (Src.own hob12.lens (by (refine Vv ?_;(repeat (first|exact XG|refine XN ?_|(refine YU ?_ ?_;rfl)));done)) rfl (by repeat first|exact List.Mem.head _|refine List.Mem.tail _ ?_|refine List.mem_append_right _ ?_)) (by (simp;omega)) (by decide) rfl ?_;intro v15 hs14 ho13;obtain ⟨adv15,cpv15,rfl⟩:=ho13.valAt (n:=acc.length+1) (by (simp;done))
      refine Yh F.lay26 ?_;refine Zo (XR ?_)
      refine K_rnd (Hu:=(b1,rowO [.one (.int .i64 Yd),Yt Yi,.one (.int .i64 Ym),Yt Yy,.one (Sl.val ⟨Yq,Yp,ZU⟩),.one (Sl.val ⟨Yg,Yf,ZE⟩)] 28)::(b2,rowO [.one (.slice adv15 (acc.length+1) cpv15)] 26)::hs14) (Mem.le.refl _) (fun w hw=>hw.c) ⟨acc++[⟨VQ,x_id⟩],_,_,rfl,by rw [List.map_append];exact ho13,by simp only [List.length_append,List.length_cons,List.length_nil];omega,?_⟩
      rw [met_step hI];unfold VZ;rw [if_pos ⟨by assumption,by assumption,by assumption⟩]
     ·replace hc10:=nF hc10
      simp only [ZF.eta,ZQ.eta,ZR.eta,ZP.eta,Yr.eta,ZW.eta,YQ.eta,Yc.eta] at hc10
      refine YG (XR ?_)
      refine K_rnd (Hu:=(b1,rowO [.one (.int .i64 Yd),Yt Yi,.one (.int .i64 Ym),Yt Yy,.one (Sl.val ⟨Yq,Yp,ZU⟩),.one (Sl.val ⟨Yg,Yf,ZE⟩)] 28)::(b2,rowO [.one (.slice ad0 acc.length cp0)] 26)::hs0) (Mem.le.refl _) (fun w hw=>hw.c) ⟨acc,_,_,rfl,ho,by simp only [List.length_append,List.length_cons,List.length_nil];omega,?_⟩
      rw [met_step hI];unfold VZ;rw [if_neg (by rintro ⟨g1,g2,g3⟩;first|exact absurd g1 (by assumption)|exact absurd g2 (by assumption)|exact absurd (by assumption) g2|exact absurd (by assumption) g3|omega)]
    ·replace hc9:=nF hc9
     iterate 5 refine Ya ?_
     refine ZO ?_;refine Zo (Zn (Y_pk [32,4,3,2] ?_));refine Wn rfl ?_;refine YG (XR ?_)
     refine K_rnd (Hu:=(b1,rowO [.one (.int .i64 Yd),Yt Yi,.one (.int .i64 Ym),Yt Yy,.one (Sl.val ⟨Yq,Yp,ZU⟩),.one (Sl.val ⟨Yg,Yf,ZE⟩)] 28)::(b2,rowO [.one (.slice ad0 acc.length cp0)] 26)::hs0) (Mem.le.refl _) (fun w hw=>hw.c) ⟨acc,_,_,rfl,ho,by simp only [List.length_append,List.length_cons,List.length_nil];omega,?_⟩
     rw [met_step hI];unfold VZ;rw [if_neg (by rintro ⟨g1,g2,g3⟩;first|exact absurd g1 (by assumption)|exact absurd g2 (by assumption)|exact absurd (by assumption) g2|exact absurd (by assumption) g3|omega)]
   ·replace hc8:=dF hc8
    iterate 6 refine Ya ?_
    refine ZO ?_;refine Zx ?_
    iterate 5 refine Ya ?_
    refine ZO ?_;refine Zo (Zn (Y_pk [32,4,3,2] ?_));refine Wn rfl ?_;refine YG (XR ?_)
    refine K_rnd (Hu:=(b1,rowO [.one (.int .i64 Yd),Yt Yi,.one (.int .i64 Ym),Yt Yy,.one (Sl.val ⟨Yq,Yp,ZU⟩),.one (Sl.val ⟨Yg,Yf,ZE⟩)] 28)::(b2,rowO [.one (.slice ad0 acc.length cp0)] 26)::hs0) (Mem.le.refl _) (fun w hw=>hw.c) ⟨acc,_,_,rfl,ho,by simp only [List.length_append,List.length_cons,List.length_nil];omega,?_⟩
    rw [met_step hI];unfold VZ;rw [if_neg (by rintro ⟨g1,g2,g3⟩;first|exact absurd g1 (by assumption)|exact absurd g2 (by assumption)|exact absurd (by assumption) g2|exact absurd (by assumption) g3|omega)]
  ·rintro D L o M3 _ hm3 ⟨acc,v0,hs0,rfl,ho,hal,hI⟩
   obtain ⟨ad0,cp0,rfl⟩:=ho.valL
   have hpl:acc.length≤1000:=by
    have h9:=congrArg List.length hqx
    simp only [List.length_cons,List.length_append] at h9
    omega
   simp only [List.cons_append,List.nil_append]
   refine XR (Zn (Y_pk [3,2] ?_));refine ZK (C_regionR (l:=[0,1]) (Hin:=hs0) (by repeat first|exact Rem.here _|exact Rem.two|apply Rem.skip|apply Rem.over) rfl ?_);refine ZD F.lay26 ?_;refine Ur rfl rfl F.ok127 rfl (Sort_ok M3 ad0 cp0 acc hs0 ho (by omega)) (by repeat first|exact Rem.here _|exact Rem.two|apply Rem.skip|apply Rem.over) (fun _ _ _ hm hw=>(hw.lower (by exact hm)).c) (YV rfl) ?_
   rintro _ M4 hs9 hm4 ⟨hM4,rfl,l9,hp9,hs99,ho9⟩;subst M4
   refine Zo (Zn (Y_pk [3,2] ?_));refine ZK (Zm (l:=[0,1]) rfl ?_);refine ZD F.lay26 ?_;refine ZB ?_;refine Zo (Zn (Y_pk [2] ?_));refine Yo ?_
   refine K_endM (Ds:=[D]) (Hd:=[(D,.deferred (some []))]) (H:=hs9++H) (.inr rfl) (.tmp rfl .nil) (fun w hw=>hw.c) (by simp) (by simp) (fun w hw=>?_)
   obtain ⟨M9,j1,j2,j3⟩:=OSl.frz ho9 hw
   exact ⟨_,M9,rfl,hm1.trans (hm3.trans j1),j2,⟨ad0,cp0,l9⟩,congrArg (fun n=>Value.slice ad0 n cp0) (by simpa using hp9.length_eq.symm),known_is (by rw [hI,hqx] at hp9;exact hp9) hs99,j3⟩
  ·intro c D L o M2 Hu2 pre post _ _ h;exact h.elim
end Go.Proofs.YtajmnjefajknoaaGreat
namespace Go.Proofs.YtajmnjefajknoaaGreat
open Go.Esp
theorem F.elem30:slOf Tryz.prog 30=some (3,1,8):=by kernel_rfl
theorem F.ok101:okFn Tryz.prog 101=true:=by kernel_rfl
theorem F.ok103:okFn Tryz.prog 103=true:=by kernel_rfl
theorem F.ok133:okFn Tryz.prog 133=true:=by kernel_rfl
theorem F.ok136:okFn Tryz.prog 136=true:=by kernel_rfl
theorem F.ok90:okFn Tryz.prog 90=true:=by kernel_rfl
theorem IndexI_rd (M:Mem) (Hin:Hp) (l:Sl Int) (x:Int) (hl:RdS M Hin l.a (l.l.map (oneI .i64)) 1) (bl:l.l.length≤9223372036854775807):Fo Tryz.prog 136 [l.val,.int .i64 x] M Hin (fun M' v=>M'=M∧v=.int .i64 (idxI x l.l)):=by
  have nl:(l.l.map (oneI .i64)).length=l.l.length:=List.length_map ..
  refine VE Tryz.func136 rfl Tryz.ntmps136 rfl ?_;intro H
  have hrd:=hl.app H
  refine ZK (Zm (l:=[0]) rfl ?_);refine ZB ?_;refine Zo (Zn ?_)
  iterate 2 refine ZK ?_
  refine Zm (l:=[0,1,2]) rfl ?_;refine Zx ?_;refine YY F.elem30 ?_;refine Zx ?_;refine Zo (Zn (Y_pk [8,7,4,0,1] ?_));refine Xc (Y_pk [8,7,4,0,1] ?_);refine WV (.succ .zero) (fun (k:Nat) z=>z=[(8,.int .i64 (k:Int))]∧k≤l.l.length∧(x∉l.l.take k)) (fun k=>l.l.length-k) (0) (⟨rfl,by omega,by simp⟩) ?_
  rintro k _ ⟨rfl,hk,hI⟩
  refine ZK (Zm (l:=[0]) rfl ?_);refine YI ?_;refine Zo (Zn (ZK ?_))
  refine YA rfl (fun hc1=>?_) (fun hc1=>?_)
  ·replace hc1:=dT hc1
   refine YG (Zn (ZK (Xc (ZK (Zm (l:=[0,1]) rfl ?_)))));refine Zx ?_;refine ZB ?_;refine Zo (Zn (ZK (Zm (l:=[0,1,2,3,4,5]) rfl ?_)))
   iterate 3 refine Zx ?_
   refine YR rfl rfl rfl rfl F.elem30 (by rfl) (by omega) (by exact RdS.plain (by assumption) (by (simp;omega))) rfl ?_;refine X_load_rd rfl rfl rfl (by assumption) (by exact XP (by omega)) F.lay3 rfl rfl rfl ?_;refine YI ?_;refine Zo (Zn ?_)
   refine YA rfl (fun hc2=>?_) (fun hc2=>?_)
   ·replace hc2:=dT hc2
    refine ZK (Zm (l:=[0,1]) rfl ?_);refine Zx ?_;refine ZB ?_;refine Zo (Zn (Yo (Xh ?_)))
    iterate 2 refine YS ?_
    refine Xh (YS ?_)
    refine Yk (.inr rfl) (.tmp rfl .nil) (fun w hw=>?_)
    refine ⟨_,M,rfl,Mem.le.refl M,hw.c,rfl,?_⟩
    refine congrArg (Value.int .i64) ?_
    exact (idxI_at (by omega) hI (by assumption)).symm
   ·replace hc2:=dF hc2
    refine YG (XR (Zn (Zm (l:=[0,1]) rfl ?_)));refine XE rfl rfl rfl rfl rfl (by exact Xe (by decide) (by omega)) rfl ?_;refine Zx ?_;refine Zo ?_;refine WO (a':=[(8,_)]) (k+1) (.cons (k:=8) rfl (.cons (k:=7) rfl (.cons (k:=4) rfl (.cons (k:=0) rfl (.cons (k:=1) rfl (.nil)))))) (fun w hw=>by first|exact hw|exact hw.c) ?_ ?_
    ·refine ⟨rfl,by omega,?_⟩
     exact not_take_succ (by omega) hI (by assumption)
    ·omega
  ·replace hc1:=dF hc1
   refine XK ?_
   iterate 2 refine XH ?_
   refine Wh (Zn (Y_pk [4] ?_));refine ZK (Zm (l:=[0]) rfl ?_);refine ZB ?_;refine Zo (Zn (Yo ?_))
   refine Yk (.inr rfl) (.tmp rfl .nil) (fun w hw=>?_)
   refine ⟨_,M,rfl,Mem.le.refl M,hw.c,rfl,?_⟩
   refine congrArg (Value.int .i64) ?_
   (have hk9:k=l.l.length:=(by omega);subst hk9;rw [List.take_length] at hI;exact (idxI_none hI).symm)
theorem ContainsI_rd (M:Mem) (Hin:Hp) (l:Sl Int) (x:Int) (hl:RdS M Hin l.a (l.l.map (oneI .i64)) 1) (bl:l.l.length≤9223372036854775807):Fo Tryz.prog 103 [l.val,.int .i64 x] M Hin (fun M' v=>M'=M∧v=.bool (decide (x∈l.l))):=by
  refine VE Tryz.func103 rfl Tryz.ntmps103 rfl ?_;intro H
  refine ZK (Zm (l:=[0]) rfl ?_);refine ZB ?_;refine Zo (Zn (ZK (Zm (l:=[0,1,2,3,4]) rfl ?_)))
  iterate 2 refine Zx ?_
  refine X_fo rfl rfl F.ok136 rfl (IndexI_rd _ Hin ⟨_,_,_⟩ _ hl bl) (by repeat first|exact Rem.here _|exact Rem.two|apply Rem.skip|apply Rem.over) (YV rfl) ?_
  rintro _ M1 _ ⟨hM1,rfl⟩;subst M1
  refine YI ?_;refine ZB ?_;refine Zo (Zn (Y_pk [4] ?_));refine Yo ?_
  refine Yk (.inr rfl) (.tmp rfl .nil) (fun w hw=>?_)
  exact ⟨_,M,rfl,Mem.le.refl M,hw.c,rfl,congrArg Value.bool (by simp [idxI_nn])⟩
theorem ContainsI_ok (M:Mem) (l:Sl Int) (x:Int) (hl:SlM M l.a (l.l.map (oneI .i64)) 1) (bl:l.l.length≤maxLen):Fs Tryz.prog 103 [l.val,.int .i64 x] M (fun v=>v=.bool (decide (x∈l.l))) :=
  fs_of_fo (ContainsI_rd M [] l x (hl.rd []) bl)
theorem in_ok (M:Mem) (l:(Sl Int)) (n:Int) (hl0:SlK M (oneI .i64) 1 l):Fs Tryz.prog 133 [Sl.val l,.int .i64 n] M (fun v=>v=Value.bool (decide (n∈l.l))):=by
  obtain ⟨l_a,l_c,l_l⟩:=l
  have k_l:SlK M (oneI .i64) 1 ⟨l_a,l_c,l_l⟩:=hl0
  have s_l:SlM M l_a (l_l.map (oneI .i64)) 1:=k_l.h1
  have n_l:(l_l.map (oneI .i64)).length=l_l.length:=List.length_map ..
  have m_l:l_l.length≤9223372036854775807:=k_l.h2
  have c_l:l_l.length≤l_c:=k_l.h3
  refine Xv Tryz.func133 rfl Tryz.ntmps133 rfl ?_;intro H
  refine ZK (Zm (l:=[0]) rfl ?_);refine ZB ?_;refine Zo (Zn ?_)
  iterate 2 refine ZK ?_
  refine Zm (l:=[0]) rfl ?_;refine ZB ?_;refine Zo (Zn (Xc (Y_pk [5,4,0,1] ?_)));refine WV (.succ .zero) (fun (k:Nat) z=>z=[(5,.int .i64 (k:Int))]∧k≤l_l.length∧(n∉l_l.take k)) (fun k=>l_l.length-k) (0) (⟨rfl,by omega,by simp⟩) ?_
  rintro k _ ⟨rfl,hk,hI⟩
  iterate 2 refine ZK ?_
  refine Zm (l:=[0,1,2,3]) rfl ?_
  iterate 2 refine Zx ?_
  refine YY F.elem30 ?_;refine YI ?_;refine Zo (Zn ?_)
  refine YA rfl (fun hc1=>?_) (fun hc1=>?_)
  ·replace hc1:=dT hc1
   refine YG (Zn (ZK (Xc (ZK (Zm (l:=[0,1,2,3,4,5]) rfl ?_)))))
   iterate 2 refine Zx ?_
   refine YR rfl rfl rfl rfl F.elem30 (by rfl) (by omega) (by exact SlM.plain (by assumption) (by (simp;omega))) rfl ?_;refine Xm rfl rfl rfl (by assumption) (by exact XP (by omega)) F.lay3 rfl rfl rfl ?_;refine Zx ?_;refine YI ?_;refine Zo (Zn ?_)
   refine YA rfl (fun hc2=>?_) (fun hc2=>?_)
   ·replace hc2:=dT hc2
    refine ZK (Zm (l:=[0]) rfl ?_);refine ZB ?_;refine Zo (Zn (Yo (Xh ?_)))
    iterate 2 refine YS ?_
    refine Xh (YS ?_)
    refine Yk (.inr rfl) (.tmp rfl .nil) (fun w hw=>?_)
    refine ⟨_,rfl,(hw.c),?_⟩
    clear hw
    refine congrArg Value.bool ?_
    (refine (decide_eq_true ?_).symm;have h9:=List.getElem_mem (l:=l_l) (n:=k) (by omega);simp_all)
   ·replace hc2:=dF hc2
    refine YG (XR (Zn (Zm (l:=[0,1,2]) rfl ?_)));refine Zx ?_;refine XE rfl rfl rfl rfl rfl (by exact Xe (by decide) (by omega)) rfl ?_;refine ZB ?_;refine Zo ?_;refine WO (a':=[(5,_)]) (k+1) (.cons (k:=5) rfl (.cons (k:=4) rfl (.cons (k:=0) rfl (.cons (k:=1) rfl (.nil))))) (fun w hw=>by first|exact hw|exact hw.c) ?_ ?_
    ·refine ⟨rfl,by omega,?_⟩
     exact not_take_succ (by omega) hI (fun h9=>absurd h9.symm (by assumption))
    ·omega
  ·replace hc1:=dF hc1
   refine XK ?_
   iterate 2 refine XH ?_
   refine Wh (Zn (Y_pk [4] ?_));refine ZK (Zm (l:=[0]) rfl ?_);refine ZB ?_;refine Zo (Zn (Yo ?_))
   refine Yk (.inr rfl) (.tmp rfl .nil) (fun w hw=>?_)
   refine ⟨_,rfl,(hw.c),?_⟩
   clear hw
   refine congrArg Value.bool ?_
   (have hk9:k=l_l.length:=(by omega);subst hk9;rw [List.take_length] at hI;exact (decide_eq_false hI).symm)
theorem Nearest_ok (M:Mem) (t:ZQ) (id:Plc) (avoid:(Sl Int)) (ht0:ZQ.ok M t) (havoid1:SlK M (oneI .i64) 1 avoid) (hbig:t.succ.l.length≤40∧t.fingers.l.length≤200):Esp.Fn Tryz.prog 88 [t.enc,aggV [Yt id],Sl.val avoid] M (fun M' v=>v=ofPB (Wj t.tb id avoid.l)):=by
  obtain ⟨⟨Yd,Yi⟩,⟨Ym,Yy⟩,⟨Yq,Yp,ZU⟩,⟨Yg,Yf,ZE⟩⟩:=t
  obtain ⟨avoid_a,avoid_c,avoid_l⟩:=avoid
  have YT:SlK M ZF.segs 21 ⟨Yq,Yp,ZU⟩:=ht0.h0
  have WA:SlM M Yq (ZU.map ZF.segs) 21:=YT.h1
  have WI:(ZU.map ZF.segs).length=ZU.length:=List.length_map ..
  have WJ:ZU.length≤9223372036854775807:=YT.h2
  have WK:ZU.length≤Yp:=YT.h3
  have Yu:SlK M ZF.segs 21 ⟨Yg,Yf,ZE⟩:=ht0.h1
  have XQ:SlM M Yg (ZE.map ZF.segs) 21:=Yu.h1
  have Wc:(ZE.map ZF.segs).length=ZE.length:=List.length_map ..
  have XZ:ZE.length≤9223372036854775807:=Yu.h2
  have Wd:ZE.length≤Yf:=Yu.h3
  have k_avoid:SlK M (oneI .i64) 1 ⟨avoid_a,avoid_c,avoid_l⟩:=havoid1
  have s_avoid:SlM M avoid_a (avoid_l.map (oneI .i64)) 1:=k_avoid.h1
  have n_avoid:(avoid_l.map (oneI .i64)).length=avoid_l.length:=List.length_map ..
  have m_avoid:avoid_l.length≤9223372036854775807:=k_avoid.h2
  have c_avoid:avoid_l.length≤avoid_c:=k_avoid.h3
  simp only at hbig
  refine Wu Tryz.func88 rfl Tryz.ntmps88 rfl ?_;intro H
  refine ZK (Zm (l:=[0,1,2,3]) rfl ?_)
  refine Xk ?_;intro b1
  refine Xk ?_;intro b2
  refine YW F.zero25 ?_;intro b3
  refine ZB ?_;refine Zo (Zn (Y_pk [7,6,4,3,2] ?_));refine ZK (Zm (l:=[0,1,2,3]) rfl ?_);refine X_fs rfl rfl F.ok66 rfl (VG _) rfl ?_
  rintro _ rfl
  refine VA 12 rfl (show _=aggV [.one (.int .i64 (-1)),Yt 0] from rfl) ?_
  refine YW F.zero25 ?_;intro b4
  refine Yh F.lay25 ?_;refine ZB ?_;refine Zo (Zn (Y_pk [9,8,7,6,4,3,2] ?_))
  iterate 2 refine ZK ?_
  refine Zm (l:=[0,1,2,3]) rfl ?_;refine ZD F.lay28 ?_;refine X_fn rfl rfl F.ok90 rfl (Known_ok M ⟨⟨Yd,Yi⟩,⟨Ym,Yy⟩,⟨Yq,Yp,ZU⟩,⟨Yg,Yf,ZE⟩⟩ ht0 hbig) rfl ?_
  rintro _ M1 hm1 ⟨⟨ps_a,ps_c,ps_l⟩,rfl,hps,k_ps⟩
  have s_ps:=k_ps.h1
  have n_ps:(ps_l.map ZF.segs).length=ps_l.length:=List.length_map ..
  have m_ps:ps_l.length≤9223372036854775807:=k_ps.h2
  simp only at hps s_ps
  refine YY F.elem26 ?_;refine Zx ?_;refine Zo (Zn (Y_pk [16,15,14,9,8,7,6,4,3,2] ?_));refine Xc (Y_pk [16,9,15,14,8,7,6,4,3,2] ?_);refine Vm (Hin:=[(b4,rowO [.one (.int .i64 (-1)),Yt 0] 25)]) (.succ (.succ .zero)) (by repeat first|exact Rem.here _|exact Rem.two|apply Rem.skip|apply Rem.over) (fun (k:Nat) M9 h1 z=>∃ r:ZF×Bool,M9=M1∧z=[(16,.int .i64 (k:Int)),(9,.bool r.2)]∧k≤ps_l.length∧h1=[(b4,rowO [.one (.int .i64 r.1.addr),Yt r.1.id] 25)]∧(ps_l.take (k)).foldl (Vn ⟨Yd,Yi⟩ id avoid_l) (Xf,false)=r) (fun k=>ps_l.length-k) (0) (⟨(Xf,false),rfl,rfl,by omega,rfl,rfl⟩) ?_
  rintro k M2 h1 z hm2 ⟨⟨⟨ra,ri⟩,rb⟩,hM2,rfl,hk,rfl,hI⟩
  subst hM2
  rcases rb with _|_
  ·skip
   refine ZK (Zm (l:=[0]) rfl ?_);refine YI ?_;refine Zo (Zn (ZK ?_))
   refine YA rfl (fun hc5=>?_) (fun hc5=>?_)
   ·replace hc5:=dT hc5
    refine YG (Zn (ZK (Xc (ZK ?_))))
    obtain ⟨⟨VQ,x_id⟩,hx⟩:∃ x,ps_l[k]=x:=⟨_,rfl⟩
    refine Zm (l:=[0,1,2,3]) rfl ?_;refine YR rfl rfl rfl rfl F.elem26 (by rfl) (by omega) (by exact SlM.plain (by assumption) (by (simp;omega))) rfl ?_;refine Xm rfl rfl rfl s_ps (show (ps_l.map ZF.segs)[k]?=some (ZF.segs ⟨VQ,x_id⟩) by rw [List.getElem?_map,List.getElem?_eq_getElem (by omega),hx];rfl) F.lay25 rfl rfl rfl ?_
    refine YW F.zero25 ?_;intro b6
    refine Yh F.lay25 ?_;refine Zo (Zn ?_)
    iterate 2 refine ZK ?_
    refine Zm (l:=[0,1,2,3,4,5,6,7,8,9,10,11,12,13]) rfl ?_;refine Zx ?_;refine Zk F.foff25_0 ?_;refine ZD F.lay3 ?_;refine X_fs rfl rfl F.ok103 rfl (ContainsI_ok _ ⟨_,_,_⟩ _ (by exact SlM.mono (by assumption) (by repeat first|assumption|refine Mem.le.trans (by assumption) ?_)) (by assumption)) rfl ?_
    rintro _ rfl
    refine Zx ?_
    refine Yj 24 rfl (fun hc7=>?_) (fun hc7=>?_)
    ·replace hc7:=dT hc7
     simp only [ZF.eta,ZQ.eta,ZR.eta,ZP.eta,Yr.eta,ZW.eta,YQ.eta,Yc.eta] at hc7
     iterate 8 refine Ya ?_
     refine ZO ?_;refine Zo (Zn (Xi rfl ?_));refine XK (XH (Wh (Zn (Zm (l:=[0,1]) rfl ?_))));refine XE rfl rfl rfl rfl rfl (by exact Xe (by decide) (by omega)) rfl ?_;refine Zx ?_;refine Zo ?_;refine XJ (a':=[(16,_),(9,_)]) (k+1) ([(b4,rowO [.one (.int .i64 ra),Yt ri] 25)]) (.cons (k:=16) rfl (.cons (k:=9) rfl (.cons (k:=15) rfl (.cons (k:=14) rfl (.cons (k:=8) rfl (.cons (k:=7) rfl (.cons (k:=6) rfl (.cons (k:=4) rfl (.cons (k:=3) rfl (.cons (k:=2) rfl (.nil))))))))))) (by exact Mem.le.refl _) (fun w hw=>by first|exact hw|exact hw.c) ?_ ?_
     ·exact ⟨(⟨ra,ri⟩,false),rfl,rfl,by omega,rfl,by rw [WC (by omega:k<ps_l.length),hI,hx];unfold Vn;rw [if_pos (by exact .inl (by assumption))]⟩
     ·omega
    ·replace hc7:=dF hc7
     simp only [ZF.eta,ZQ.eta,ZR.eta,ZP.eta,Yr.eta,ZW.eta,YQ.eta,Yc.eta] at hc7
     refine Zk F.foff28_0 ?_;refine Zk F.foff25_1 ?_;refine ZD F.lay23 ?_;refine Zk F.foff25_1 ?_
     iterate 2 refine ZD F.lay23 ?_
     refine X_fs rfl rfl F.ok114 rfl (Open_ok _ _ _ _) rfl ?_
     rintro _ rfl
     refine Xj ?_;refine ZO ?_;refine Zo (Zn ?_)
     refine YA rfl (fun hc8=>?_) (fun hc8=>?_)
     ·replace hc8:=nT hc8
      refine XK (XH (Wh (Zn (Zm (l:=[0,1]) rfl ?_))));refine XE rfl rfl rfl rfl rfl (by exact Xe (by decide) (by omega)) rfl ?_;refine Zx ?_;refine Zo ?_;refine XJ (a':=[(16,_),(9,_)]) (k+1) ([(b4,rowO [.one (.int .i64 ra),Yt ri] 25)]) (.cons (k:=16) rfl (.cons (k:=9) rfl (.cons (k:=15) rfl (.cons (k:=14) rfl (.cons (k:=8) rfl (.cons (k:=7) rfl (.cons (k:=6) rfl (.cons (k:=4) rfl (.cons (k:=3) rfl (.cons (k:=2) rfl (.nil))))))))))) (by exact Mem.le.refl _) (fun w hw=>by first|exact hw|exact hw.c) ?_ ?_
      ·exact ⟨(⟨ra,ri⟩,false),rfl,rfl,by omega,rfl,by rw [WC (by omega:k<ps_l.length),hI,hx];unfold Vn;rw [if_pos (by exact .inr (by assumption))]⟩
      ·omega
     ·replace hc8:=nF hc8
      refine YG (Zn (ZK (Zm (l:=[0,1,2,3,4,5,6,7,8,9]) rfl ?_)));refine Zx ?_;refine Xj ?_;refine Zx ?_
      iterate 6 refine Ya ?_
      refine ZO ?_;refine Zo (Zn (Xi rfl ?_));refine Zm (l:=[0,1,2]) rfl ?_;refine ZD F.lay25 ?_;refine Yh F.lay25 ?_;refine ZB ?_;refine Zo (XR (Zn (Zm (l:=[0,1]) rfl ?_)));refine XE rfl rfl rfl rfl rfl (by exact Xe (by decide) (by omega)) rfl ?_;refine Zx ?_;refine Zo ?_;refine XJ (a':=[(16,_),(9,_)]) (k+1) ([(b4,rowO [.one (.int .i64 VQ),Yt x_id] 25)]) (.cons (k:=16) rfl (.cons (k:=9) rfl (.cons (k:=15) rfl (.cons (k:=14) rfl (.cons (k:=8) rfl (.cons (k:=7) rfl (.cons (k:=6) rfl (.cons (k:=4) rfl (.cons (k:=3) rfl (.cons (k:=2) rfl (.nil))))))))))) (by exact Mem.le.refl _) (fun w hw=>by first|exact hw|exact hw.c) ?_ ?_
      ·exact ⟨(⟨VQ,x_id⟩,true),rfl,rfl,by omega,rfl,by rw [WC (by omega:k<ps_l.length),hI,hx];unfold Vn;rw [if_neg (by rintro (g1|g1);exact absurd g1 (by assumption);exact g1 (by assumption)),if_pos (.inl rfl)]⟩
      ·omega
   ·replace hc5:=dF hc5
    refine XK ?_
    iterate 2 refine XH ?_
    refine Wh (Zn (Y_pk [9,8,7,6] ?_));refine ZK (Zm (l:=[0,1,2,3]) rfl ?_);refine ZD F.lay25 ?_;refine Zx ?_;refine Yh F.lay25 ?_;refine ZB ?_;refine Zo (Zn (Y_pk [7,6] ?_));refine Yo ?_
    refine Yk (.inr rfl) (.cell rfl (by repeat first|exact List.Mem.head _|refine List.Mem.tail _ ?_|refine List.mem_append_right _ ?_) F.lay25 rfl rfl (.tmp rfl .nil)) (fun w hw=>?_)
    obtain rfl:k=ps_l.length:=by omega
    rw [List.take_length,hps] at hI
    refine ⟨_,M2,rfl,hm1,hw.c,?_⟩
    unfold Wj
    rw [show (ZQ.tb ⟨⟨Yd,Yi⟩,⟨Ym,Yy⟩,⟨Yq,Yp,ZU⟩,⟨Yg,Yf,ZE⟩⟩).self=⟨Yd,Yi⟩ from rfl,hI];rfl
  ·skip
   refine ZK (Zm (l:=[0]) rfl ?_);refine YI ?_;refine Zo (Zn (ZK ?_))
   refine YA rfl (fun hc9=>?_) (fun hc9=>?_)
   ·replace hc9:=dT hc9
    refine YG (Zn (ZK (Xc (ZK ?_))))
    obtain ⟨⟨VQ,x_id⟩,hx⟩:∃ x,ps_l[k]=x:=⟨_,rfl⟩
    refine Zm (l:=[0,1,2,3]) rfl ?_;refine YR rfl rfl rfl rfl F.elem26 (by rfl) (by omega) (by exact SlM.plain (by assumption) (by (simp;omega))) rfl ?_;refine Xm rfl rfl rfl s_ps (show (ps_l.map ZF.segs)[k]?=some (ZF.segs ⟨VQ,x_id⟩) by rw [List.getElem?_map,List.getElem?_eq_getElem (by omega),hx];rfl) F.lay25 rfl rfl rfl ?_
    refine YW F.zero25 ?_;intro b10
    refine Yh F.lay25 ?_;refine Zo (Zn ?_)
    iterate 2 refine ZK ?_
    refine Zm (l:=[0,1,2,3,4,5,6,7,8,9,10,11,12,13]) rfl ?_;refine Zx ?_;refine Zk F.foff25_0 ?_;refine ZD F.lay3 ?_;refine X_fs rfl rfl F.ok103 rfl (ContainsI_ok _ ⟨_,_,_⟩ _ (by exact SlM.mono (by assumption) (by repeat first|assumption|refine Mem.le.trans (by assumption) ?_)) (by assumption)) rfl ?_
    rintro _ rfl
    refine Zx ?_
    refine Yj 24 rfl (fun hc11=>?_) (fun hc11=>?_)
    ·replace hc11:=dT hc11
     simp only [ZF.eta,ZQ.eta,ZR.eta,ZP.eta,Yr.eta,ZW.eta,YQ.eta,Yc.eta] at hc11
     iterate 8 refine Ya ?_
     refine ZO ?_;refine Zo (Zn (Xi rfl ?_));refine XK (XH (Wh (Zn (Zm (l:=[0,1]) rfl ?_))));refine XE rfl rfl rfl rfl rfl (by exact Xe (by decide) (by omega)) rfl ?_;refine Zx ?_;refine Zo ?_;refine XJ (a':=[(16,_),(9,_)]) (k+1) ([(b4,rowO [.one (.int .i64 ra),Yt ri] 25)]) (.cons (k:=16) rfl (.cons (k:=9) rfl (.cons (k:=15) rfl (.cons (k:=14) rfl (.cons (k:=8) rfl (.cons (k:=7) rfl (.cons (k:=6) rfl (.cons (k:=4) rfl (.cons (k:=3) rfl (.cons (k:=2) rfl (.nil))))))))))) (by exact Mem.le.refl _) (fun w hw=>by first|exact hw|exact hw.c) ?_ ?_
     ·exact ⟨(⟨ra,ri⟩,true),rfl,rfl,by omega,rfl,by rw [WC (by omega:k<ps_l.length),hI,hx];unfold Vn;rw [if_pos (by exact .inl (by assumption))]⟩
     ·omega
    ·replace hc11:=dF hc11
     simp only [ZF.eta,ZQ.eta,ZR.eta,ZP.eta,Yr.eta,ZW.eta,YQ.eta,Yc.eta] at hc11
     refine Zk F.foff28_0 ?_;refine Zk F.foff25_1 ?_;refine ZD F.lay23 ?_;refine Zk F.foff25_1 ?_
     iterate 2 refine ZD F.lay23 ?_
     refine X_fs rfl rfl F.ok114 rfl (Open_ok _ _ _ _) rfl ?_
     rintro _ rfl
     refine Xj ?_;refine ZO ?_;refine Zo (Zn ?_)
     refine YA rfl (fun hc12=>?_) (fun hc12=>?_)
     ·replace hc12:=nT hc12
      refine XK (XH (Wh (Zn (Zm (l:=[0,1]) rfl ?_))));refine XE rfl rfl rfl rfl rfl (by exact Xe (by decide) (by omega)) rfl ?_;refine Zx ?_;refine Zo ?_;refine XJ (a':=[(16,_),(9,_)]) (k+1) ([(b4,rowO [.one (.int .i64 ra),Yt ri] 25)]) (.cons (k:=16) rfl (.cons (k:=9) rfl (.cons (k:=15) rfl (.cons (k:=14) rfl (.cons (k:=8) rfl (.cons (k:=7) rfl (.cons (k:=6) rfl (.cons (k:=4) rfl (.cons (k:=3) rfl (.cons (k:=2) rfl (.nil))))))))))) (by exact Mem.le.refl _) (fun w hw=>by first|exact hw|exact hw.c) ?_ ?_
      ·exact ⟨(⟨ra,ri⟩,true),rfl,rfl,by omega,rfl,by rw [WC (by omega:k<ps_l.length),hI,hx];unfold Vn;rw [if_pos (by exact .inr (by assumption))]⟩
      ·omega
     ·replace hc12:=nF hc12
      refine YG (Zn (ZK (Zm (l:=[0,1,2,3,4,5,6,7,8,9]) rfl ?_)));refine Zx ?_;refine Xj ?_;refine Zx ?_;refine Zk F.foff25_1 ?_;refine ZD F.lay23 ?_;refine Zk F.foff25_1 ?_
      iterate 2 refine ZD F.lay23 ?_
      refine X_fs rfl rfl F.ok114 rfl (Open_ok _ _ _ _) rfl ?_
      rintro _ rfl
      refine ZO ?_;refine Zo (Zn ?_)
      refine YA rfl (fun hc13=>?_) (fun hc13=>?_)
      ·replace hc13:=dT hc13
       simp only [ZF.eta,ZQ.eta,ZR.eta,ZP.eta,Yr.eta,ZW.eta,YQ.eta,Yc.eta] at hc13
       refine Zm (l:=[0,1,2]) rfl ?_;refine ZD F.lay25 ?_;refine Yh F.lay25 ?_;refine ZB ?_;refine Zo (XR (Zn (Zm (l:=[0,1]) rfl ?_)));refine XE rfl rfl rfl rfl rfl (by exact Xe (by decide) (by omega)) rfl ?_;refine Zx ?_;refine Zo ?_;refine XJ (a':=[(16,_),(9,_)]) (k+1) ([(b4,rowO [.one (.int .i64 VQ),Yt x_id] 25)]) (.cons (k:=16) rfl (.cons (k:=9) rfl (.cons (k:=15) rfl (.cons (k:=14) rfl (.cons (k:=8) rfl (.cons (k:=7) rfl (.cons (k:=6) rfl (.cons (k:=4) rfl (.cons (k:=3) rfl (.cons (k:=2) rfl (.nil))))))))))) (by exact Mem.le.refl _) (fun w hw=>by first|exact hw|exact hw.c) ?_ ?_
       ·exact ⟨(⟨VQ,x_id⟩,true),rfl,rfl,by omega,rfl,by rw [WC (by omega:k<ps_l.length),hI,hx];unfold Vn;rw [if_neg (by rintro (g1|g1);exact absurd g1 (by assumption);exact g1 (by assumption)),if_pos (.inr (by assumption))]⟩
       ·omega
      ·replace hc13:=dF hc13
       simp only [ZF.eta,ZQ.eta,ZR.eta,ZP.eta,Yr.eta,ZW.eta,YQ.eta,Yc.eta] at hc13
       refine YG (XR (Zn (Zm (l:=[0,1]) rfl ?_)));refine XE rfl rfl rfl rfl rfl (by exact Xe (by decide) (by omega)) rfl ?_;refine Zx ?_;refine Zo ?_;refine XJ (a':=[(16,_),(9,_)]) (k+1) ([(b4,rowO [.one (.int .i64 ra),Yt ri] 25)]) (.cons (k:=16) rfl (.cons (k:=9) rfl (.cons (k:=15) rfl (.cons (k:=14) rfl (.cons (k:=8) rfl (.cons (k:=7) rfl (.cons (k:=6) rfl (.cons (k:=4) rfl (.cons (k:=3) rfl (.cons (k:=2) rfl (.nil))))))))))) (by exact Mem.le.refl _) (fun w hw=>by first|exact hw|exact hw.c) ?_ ?_
       ·exact ⟨(⟨ra,ri⟩,true),rfl,rfl,by omega,rfl,by rw [WC (by omega:k<ps_l.length),hI,hx];unfold Vn;rw [if_neg (by rintro (g1|g1);exact absurd g1 (by assumption);exact g1 (by assumption)),if_neg (by rintro (g1|g1);cases g1;exact absurd g1 (by assumption))]⟩
       ·omega
   ·replace hc9:=dF hc9
    refine XK ?_
    iterate 2 refine XH ?_
    refine Wh (Zn (Y_pk [9,8,7,6] ?_));refine ZK (Zm (l:=[0,1,2,3]) rfl ?_);refine ZD F.lay25 ?_;refine Zx ?_;refine Yh F.lay25 ?_;refine ZB ?_;refine Zo (Zn (Y_pk [7,6] ?_));refine Yo ?_
    refine Yk (.inr rfl) (.cell rfl (by repeat first|exact List.Mem.head _|refine List.Mem.tail _ ?_|refine List.mem_append_right _ ?_) F.lay25 rfl rfl (.tmp rfl .nil)) (fun w hw=>?_)
    obtain rfl:k=ps_l.length:=by omega
    rw [List.take_length,hps] at hI
    refine ⟨_,M2,rfl,hm1,hw.c,?_⟩
    unfold Wj
    rw [show (ZQ.tb ⟨⟨Yd,Yi⟩,⟨Ym,Yy⟩,⟨Yq,Yp,ZU⟩,⟨Yg,Yf,ZE⟩⟩).self=⟨Yd,Yi⟩ from rfl,hI];rfl
theorem rNearest_ok (M:Mem) (t:ZQ) (id:Plc) (avoid:(Sl Int)) (ht0:ZQ.ok M t) (havoid1:SlK M (oneI .i64) 1 avoid) (hbig:t.succ.l.length≤40∧t.fingers.l.length≤200):Esp.Fn Tryz.prog 100 [t.enc,aggV [Yt id],Sl.val avoid] M (fun M' v=>v=ofPB (Wj t.tb id avoid.l)):=by
  obtain ⟨⟨Yd,Yi⟩,⟨Ym,Yy⟩,⟨Yq,Yp,ZU⟩,⟨Yg,Yf,ZE⟩⟩:=t
  obtain ⟨avoid_a,avoid_c,avoid_l⟩:=avoid
  have YT:SlK M ZF.segs 21 ⟨Yq,Yp,ZU⟩:=ht0.h0
  have WA:SlM M Yq (ZU.map ZF.segs) 21:=YT.h1
  have WI:(ZU.map ZF.segs).length=ZU.length:=List.length_map ..
  have WJ:ZU.length≤9223372036854775807:=YT.h2
  have WK:ZU.length≤Yp:=YT.h3
  have Yu:SlK M ZF.segs 21 ⟨Yg,Yf,ZE⟩:=ht0.h1
  have XQ:SlM M Yg (ZE.map ZF.segs) 21:=Yu.h1
  have Wc:(ZE.map ZF.segs).length=ZE.length:=List.length_map ..
  have XZ:ZE.length≤9223372036854775807:=Yu.h2
  have Wd:ZE.length≤Yf:=Yu.h3
  have k_avoid:SlK M (oneI .i64) 1 ⟨avoid_a,avoid_c,avoid_l⟩:=havoid1
  have s_avoid:SlM M avoid_a (avoid_l.map (oneI .i64)) 1:=k_avoid.h1
  have n_avoid:(avoid_l.map (oneI .i64)).length=avoid_l.length:=List.length_map ..
  have m_avoid:avoid_l.length≤9223372036854775807:=k_avoid.h2
  have c_avoid:avoid_l.length≤avoid_c:=k_avoid.h3
  simp only at hbig
  refine Wu Tryz.func100 rfl Tryz.ntmps100 rfl ?_;intro H
  refine ZK (Zm (l:=[0,1,2,3]) rfl ?_)
  refine Xk ?_;intro b1
  refine Xk ?_;intro b2
  refine YW F.zero25 ?_;intro b3
  refine ZB ?_;refine Zo (Zn (Y_pk [7,6,4,3,2] ?_));refine ZK (Zm (l:=[0,1,2]) rfl ?_);refine X_fs rfl rfl F.ok67 rfl (rNone_ok _) rfl ?_
  rintro _ rfl
  refine VA 13 rfl (show _=aggV [.one (.int .i64 (-1)),Yt 0] from rfl) ?_
  refine YW F.zero25 ?_;intro b4
  refine Yh F.lay25 ?_;refine Zo (Zn (Y_pk [8,7,6,4,3,2] ?_));refine ZK (Zm (l:=[0]) rfl ?_);refine ZB ?_;refine Zo (Zn (ZK (Zm (l:=[0,1,2]) rfl ?_)));refine ZD F.lay28 ?_;refine X_fn rfl rfl F.ok101 rfl (rKnown_ok M ⟨⟨Yd,Yi⟩,⟨Ym,Yy⟩,⟨Yq,Yp,ZU⟩,⟨Yg,Yf,ZE⟩⟩ ht0 hbig) rfl ?_
  rintro _ M1 hm1 ⟨⟨ps_a,ps_c,ps_l⟩,rfl,hps,k_ps⟩
  have s_ps:=k_ps.h1
  have n_ps:(ps_l.map ZF.segs).length=ps_l.length:=List.length_map ..
  have m_ps:ps_l.length≤9223372036854775807:=k_ps.h2
  simp only at hps s_ps
  refine ZB ?_;refine Zo (Zn (Y_pk [10,9,8,7,6,4,3,2] ?_))
  iterate 2 refine ZK ?_
  refine Zm (l:=[0]) rfl ?_;refine ZB ?_;refine Zo (Zn (Xc (Y_pk [11,9,10,8,7,6,4,3,2] ?_)));refine Vm (Hin:=[(b4,rowO [.one (.int .i64 (-1)),Yt 0] 25)]) (.succ (.succ .zero)) (by repeat first|exact Rem.here _|exact Rem.two|apply Rem.skip|apply Rem.over) (fun (k:Nat) M9 h1 z=>∃ r:ZF×Bool,M9=M1∧z=[(11,.int .i64 (k:Int)),(9,.bool r.2)]∧k≤ps_l.length∧h1=[(b4,rowO [.one (.int .i64 r.1.addr),Yt r.1.id] 25)]∧(ps_l.take (k)).foldl (Vn ⟨Yd,Yi⟩ id avoid_l) (Xf,false)=r∧(r.2=true→Uo Yi r.1.id id)) (fun k=>ps_l.length-k) (0) (⟨(Xf,false),rfl,rfl,by omega,rfl,rfl,by simp⟩) ?_
  rintro k M2 h1 z hm2 ⟨⟨⟨ra,ri⟩,rb⟩,hM2,rfl,hk,rfl,hI,hO⟩
  subst hM2
  rcases rb with _|_
  ·skip
   iterate 2 refine ZK ?_
   refine Zm (l:=[0,1,2,3]) rfl ?_
   iterate 2 refine Zx ?_
   refine YY F.elem26 ?_;refine YI ?_;refine Zo (Zn ?_)
   refine YA rfl (fun hc5=>?_) (fun hc5=>?_)
   ·replace hc5:=dT hc5
    refine YG (Zn (ZK (Xc (ZK ?_))))
    obtain ⟨⟨VQ,x_id⟩,hx⟩:∃ x,ps_l[k]=x:=⟨_,rfl⟩
    refine Zm (l:=[0,1,2,3,4,5]) rfl ?_
    iterate 2 refine Zx ?_
    refine YR rfl rfl rfl rfl F.elem26 (by rfl) (by omega) (by exact SlM.plain (by assumption) (by (simp;omega))) rfl ?_;refine Xm rfl rfl rfl s_ps (show (ps_l.map ZF.segs)[k]?=some (ZF.segs ⟨VQ,x_id⟩) by rw [List.getElem?_map,List.getElem?_eq_getElem (by omega),hx];rfl) F.lay25 rfl rfl rfl ?_
    refine YW F.zero25 ?_;intro b6
    refine Yh F.lay25 ?_;refine Zo (Zn ?_)
    iterate 2 refine ZK ?_
    refine Zm (l:=[0,1,2,3,4,5,6,7,8,9,10,11,12,13]) rfl ?_;refine Zx ?_;refine Zk F.foff25_0 ?_;refine ZD F.lay3 ?_;refine X_fs rfl rfl F.ok133 rfl (in_ok _ ⟨_,_,_⟩ _ (by exact SlK.mono (by assumption) (by assumption))) rfl ?_
    rintro _ rfl
    refine Zx ?_
    refine Yj 30 rfl (fun hc7=>?_) (fun hc7=>?_)
    ·replace hc7:=dT hc7
     simp only [ZF.eta,ZQ.eta,ZR.eta,ZP.eta,Yr.eta,ZW.eta,YQ.eta,Yc.eta] at hc7
     iterate 8 refine Ya ?_
     refine ZO ?_;refine Zo (Zn (Xi rfl ?_));refine XK (XH (Wh (Zn (Zm (l:=[0,1,2]) rfl ?_))));refine Zx ?_;refine XE rfl rfl rfl rfl rfl (by exact Xe (by decide) (by omega)) rfl ?_;refine ZB ?_;refine Zo ?_;refine XJ (a':=[(11,_),(9,_)]) (k+1) ([(b4,rowO [.one (.int .i64 ra),Yt ri] 25)]) (.cons (k:=11) rfl (.cons (k:=9) rfl (.cons (k:=10) rfl (.cons (k:=8) rfl (.cons (k:=7) rfl (.cons (k:=6) rfl (.cons (k:=4) rfl (.cons (k:=3) rfl (.cons (k:=2) rfl (.nil)))))))))) (by exact Mem.le.refl _) (fun w hw=>by first|exact hw|exact hw.c) ?_ ?_
     ·exact ⟨(⟨ra,ri⟩,false),rfl,rfl,by omega,rfl,by rw [WC (by omega:k<ps_l.length),hI,hx];unfold Vn;rw [if_pos (by exact .inl (by assumption))],hO⟩
     ·omega
    ·replace hc7:=dF hc7
     simp only [ZF.eta,ZQ.eta,ZR.eta,ZP.eta,Yr.eta,ZW.eta,YQ.eta,Yc.eta] at hc7
     refine Zk F.foff28_0 ?_;refine Zk F.foff25_1 ?_;refine ZD F.lay23 ?_;refine Zk F.foff25_1 ?_
     iterate 2 refine ZD F.lay23 ?_
     refine X_fs rfl rfl F.ok113 rfl (rOpen_ok _ _ _ _) rfl ?_
     rintro _ rfl
     refine Xj ?_;refine ZO ?_;refine Zo (Zn ?_)
     refine YA rfl (fun hc8=>?_) (fun hc8=>?_)
     ·replace hc8:=nT hc8
      refine XK (XH (Wh (Zn (Zm (l:=[0,1,2]) rfl ?_))));refine Zx ?_;refine XE rfl rfl rfl rfl rfl (by exact Xe (by decide) (by omega)) rfl ?_;refine ZB ?_;refine Zo ?_;refine XJ (a':=[(11,_),(9,_)]) (k+1) ([(b4,rowO [.one (.int .i64 ra),Yt ri] 25)]) (.cons (k:=11) rfl (.cons (k:=9) rfl (.cons (k:=10) rfl (.cons (k:=8) rfl (.cons (k:=7) rfl (.cons (k:=6) rfl (.cons (k:=4) rfl (.cons (k:=3) rfl (.cons (k:=2) rfl (.nil)))))))))) (by exact Mem.le.refl _) (fun w hw=>by first|exact hw|exact hw.c) ?_ ?_
      ·exact ⟨(⟨ra,ri⟩,false),rfl,rfl,by omega,rfl,by rw [WC (by omega:k<ps_l.length),hI,hx];unfold Vn;rw [if_pos (by exact .inr (by assumption))],hO⟩
      ·omega
     ·replace hc8:=nF hc8
      refine YG (Zn (ZK (YK (l:=[0,1,2,3,4,5,6,7,8,9,10,11,12,13,14,15,16]) #[0,1,3,7,15,7,39,103,255,7,519,7,2055,6151,16383,32767,65535] _ rfl (by kernel_rfl) (by kernel_rfl) St.drawn (fun _ h=>h) ?_)));refine Zx ?_;refine Xj ?_;refine Zx ?_
      iterate 13 refine Ya ?_
      refine ZO ?_;refine Zo (Zn (Xi rfl ?_));refine ZK (Zm (l:=[0,1]) rfl ?_);refine ZD F.lay25 ?_;refine Yh F.lay25 ?_;refine Zo (Zn (Zm (l:=[0]) rfl ?_));refine ZB ?_;refine Zo (XR (Zn (Zm (l:=[0,1,2]) rfl ?_)));refine Zx ?_;refine XE rfl rfl rfl rfl rfl (by exact Xe (by decide) (by omega)) rfl ?_;refine ZB ?_;refine Zo ?_;refine XJ (a':=[(11,_),(9,_)]) (k+1) ([(b4,rowO [.one (.int .i64 VQ),Yt x_id] 25)]) (.cons (k:=11) rfl (.cons (k:=9) rfl (.cons (k:=10) rfl (.cons (k:=8) rfl (.cons (k:=7) rfl (.cons (k:=6) rfl (.cons (k:=4) rfl (.cons (k:=3) rfl (.cons (k:=2) rfl (.nil)))))))))) (by exact Mem.le.refl _) (fun w hw=>by first|exact hw|exact hw.c) ?_ ?_
      ·exact ⟨(⟨VQ,x_id⟩,true),rfl,rfl,by omega,rfl,by rw [WC (by omega:k<ps_l.length),hI,hx];unfold Vn;rw [if_neg (by rintro (g1|g1);exact absurd g1 (by assumption);exact g1 (by assumption)),if_pos (.inl rfl)],fun _=>by assumption⟩
      ·omega
   ·replace hc5:=dF hc5
    refine XK ?_
    iterate 2 refine XH ?_
    refine Wh (Zn (Y_pk [9,8,7,6] ?_));refine ZK (Zm (l:=[0,1,2,3]) rfl ?_);refine ZD F.lay25 ?_;refine Zx ?_;refine Yh F.lay25 ?_;refine ZB ?_;refine Zo (Zn (Y_pk [7,6] ?_));refine Yo ?_
    refine Yk (.inr rfl) (.cell rfl (by repeat first|exact List.Mem.head _|refine List.Mem.tail _ ?_|refine List.mem_append_right _ ?_) F.lay25 rfl rfl (.tmp rfl .nil)) (fun w hw=>?_)
    obtain rfl:k=ps_l.length:=by omega
    rw [List.take_length,hps] at hI
    refine ⟨_,M2,rfl,hm1,hw.c,?_⟩
    unfold Wj
    rw [show (ZQ.tb ⟨⟨Yd,Yi⟩,⟨Ym,Yy⟩,⟨Yq,Yp,ZU⟩,⟨Yg,Yf,ZE⟩⟩).self=⟨Yd,Yi⟩ from rfl,hI];rfl
  ·skip
   iterate 2 refine ZK ?_
   refine Zm (l:=[0,1,2,3]) rfl ?_
   iterate 2 refine Zx ?_
   refine YY F.elem26 ?_;refine YI ?_;refine Zo (Zn ?_)
   refine YA rfl (fun hc9=>?_) (fun hc9=>?_)
   ·replace hc9:=dT hc9
    refine YG (Zn (ZK (Xc (ZK ?_))))
    obtain ⟨⟨VQ,x_id⟩,hx⟩:∃ x,ps_l[k]=x:=⟨_,rfl⟩
    refine Zm (l:=[0,1,2,3,4,5]) rfl ?_
    iterate 2 refine Zx ?_
    refine YR rfl rfl rfl rfl F.elem26 (by rfl) (by omega) (by exact SlM.plain (by assumption) (by (simp;omega))) rfl ?_;refine Xm rfl rfl rfl s_ps (show (ps_l.map ZF.segs)[k]?=some (ZF.segs ⟨VQ,x_id⟩) by rw [List.getElem?_map,List.getElem?_eq_getElem (by omega),hx];rfl) F.lay25 rfl rfl rfl ?_
    refine YW F.zero25 ?_;intro b10
    refine Yh F.lay25 ?_;refine Zo (Zn ?_)
    iterate 2 refine ZK ?_
    refine Zm (l:=[0,1,2,3,4,5,6,7,8,9,10,11,12,13]) rfl ?_;refine Zx ?_;refine Zk F.foff25_0 ?_;refine ZD F.lay3 ?_;refine X_fs rfl rfl F.ok133 rfl (in_ok _ ⟨_,_,_⟩ _ (by exact SlK.mono (by assumption) (by assumption))) rfl ?_
    rintro _ rfl
    refine Zx ?_
    refine Yj 30 rfl (fun hc11=>?_) (fun hc11=>?_)
    ·replace hc11:=dT hc11
     simp only [ZF.eta,ZQ.eta,ZR.eta,ZP.eta,Yr.eta,ZW.eta,YQ.eta,Yc.eta] at hc11
     iterate 8 refine Ya ?_
     refine ZO ?_;refine Zo (Zn (Xi rfl ?_));refine XK (XH (Wh (Zn (Zm (l:=[0,1,2]) rfl ?_))));refine Zx ?_;refine XE rfl rfl rfl rfl rfl (by exact Xe (by decide) (by omega)) rfl ?_;refine ZB ?_;refine Zo ?_;refine XJ (a':=[(11,_),(9,_)]) (k+1) ([(b4,rowO [.one (.int .i64 ra),Yt ri] 25)]) (.cons (k:=11) rfl (.cons (k:=9) rfl (.cons (k:=10) rfl (.cons (k:=8) rfl (.cons (k:=7) rfl (.cons (k:=6) rfl (.cons (k:=4) rfl (.cons (k:=3) rfl (.cons (k:=2) rfl (.nil)))))))))) (by exact Mem.le.refl _) (fun w hw=>by first|exact hw|exact hw.c) ?_ ?_
     ·exact ⟨(⟨ra,ri⟩,true),rfl,rfl,by omega,rfl,by rw [WC (by omega:k<ps_l.length),hI,hx];unfold Vn;rw [if_pos (by exact .inl (by assumption))],hO⟩
     ·omega
    ·replace hc11:=dF hc11
     simp only [ZF.eta,ZQ.eta,ZR.eta,ZP.eta,Yr.eta,ZW.eta,YQ.eta,Yc.eta] at hc11
     refine Zk F.foff28_0 ?_;refine Zk F.foff25_1 ?_;refine ZD F.lay23 ?_;refine Zk F.foff25_1 ?_
     iterate 2 refine ZD F.lay23 ?_
     refine X_fs rfl rfl F.ok113 rfl (rOpen_ok _ _ _ _) rfl ?_
     rintro _ rfl
     refine Xj ?_;refine ZO ?_;refine Zo (Zn ?_)
     refine YA rfl (fun hc12=>?_) (fun hc12=>?_)
     ·replace hc12:=nT hc12
      refine XK (XH (Wh (Zn (Zm (l:=[0,1,2]) rfl ?_))));refine Zx ?_;refine XE rfl rfl rfl rfl rfl (by exact Xe (by decide) (by omega)) rfl ?_;refine ZB ?_;refine Zo ?_;refine XJ (a':=[(11,_),(9,_)]) (k+1) ([(b4,rowO [.one (.int .i64 ra),Yt ri] 25)]) (.cons (k:=11) rfl (.cons (k:=9) rfl (.cons (k:=10) rfl (.cons (k:=8) rfl (.cons (k:=7) rfl (.cons (k:=6) rfl (.cons (k:=4) rfl (.cons (k:=3) rfl (.cons (k:=2) rfl (.nil)))))))))) (by exact Mem.le.refl _) (fun w hw=>by first|exact hw|exact hw.c) ?_ ?_
      ·exact ⟨(⟨ra,ri⟩,true),rfl,rfl,by omega,rfl,by rw [WC (by omega:k<ps_l.length),hI,hx];unfold Vn;rw [if_pos (by exact .inr (by assumption))],hO⟩
      ·omega
     ·replace hc12:=nF hc12
      refine YG (Zn (ZK (YK (l:=[0,1,2,3,4,5,6,7,8,9,10,11,12,13,14,15,16]) #[0,1,3,7,15,7,39,103,255,7,519,7,2055,6151,16383,32767,65535] _ rfl (by kernel_rfl) (by kernel_rfl) St.drawn (fun _ h=>h) ?_)));refine Zx ?_;refine Xj ?_;refine Zx ?_;refine Zk F.foff25_1 ?_;refine ZD F.lay23 ?_;refine Zk F.foff28_0 ?_;refine Zk F.foff25_1 ?_;refine ZD F.lay23 ?_;refine X_fs rfl rfl F.ok135 rfl (rMinus_ok _ _ _) rfl ?_
      rintro _ rfl
      refine Zk F.foff25_1 ?_;refine ZD F.lay23 ?_;refine Zk F.foff28_0 ?_;refine Zk F.foff25_1 ?_;refine ZD F.lay23 ?_;refine X_fs rfl rfl F.ok135 rfl (rMinus_ok _ _ _) rfl ?_
      rintro _ rfl
      refine X_fs rfl rfl F.ok134 rfl (rLess_ok _ _ _) rfl ?_
      rintro _ rfl
      refine ZO ?_;refine Zo (Zn ?_)
      refine YA rfl (fun hc13=>?_) (fun hc13=>?_)
      ·replace hc13:=dT hc13
       simp only [ZF.eta,ZQ.eta,ZR.eta,ZP.eta,Yr.eta,ZW.eta,YQ.eta,Yc.eta] at hc13
       refine ZK (Zm (l:=[0,1]) rfl ?_);refine ZD F.lay25 ?_;refine Yh F.lay25 ?_;refine Zo (Zn (Zm (l:=[0]) rfl ?_));refine ZB ?_;refine Zo (XR (Zn (Zm (l:=[0,1,2]) rfl ?_)));refine Zx ?_;refine XE rfl rfl rfl rfl rfl (by exact Xe (by decide) (by omega)) rfl ?_;refine ZB ?_;refine Zo ?_;refine XJ (a':=[(11,_),(9,_)]) (k+1) ([(b4,rowO [.one (.int .i64 VQ),Yt x_id] 25)]) (.cons (k:=11) rfl (.cons (k:=9) rfl (.cons (k:=10) rfl (.cons (k:=8) rfl (.cons (k:=7) rfl (.cons (k:=6) rfl (.cons (k:=4) rfl (.cons (k:=3) rfl (.cons (k:=2) rfl (.nil)))))))))) (by exact Mem.le.refl _) (fun w hw=>by first|exact hw|exact hw.c) ?_ ?_
       ·exact ⟨(⟨VQ,x_id⟩,true),rfl,rfl,by omega,rfl,by rw [WC (by omega:k<ps_l.length),hI,hx];unfold Vn;rw [if_neg (by rintro (g1|g1);exact absurd g1 (by assumption);exact g1 (by assumption)),if_pos (.inr ((open_less (hO rfl) (by assumption)).2 (by assumption)))],fun _=>by assumption⟩
       ·omega
      ·replace hc13:=dF hc13
       simp only [ZF.eta,ZQ.eta,ZR.eta,ZP.eta,Yr.eta,ZW.eta,YQ.eta,Yc.eta] at hc13
       refine YG (XR (Zn (Zm (l:=[0,1,2]) rfl ?_)));refine Zx ?_;refine XE rfl rfl rfl rfl rfl (by exact Xe (by decide) (by omega)) rfl ?_;refine ZB ?_;refine Zo ?_;refine XJ (a':=[(11,_),(9,_)]) (k+1) ([(b4,rowO [.one (.int .i64 ra),Yt ri] 25)]) (.cons (k:=11) rfl (.cons (k:=9) rfl (.cons (k:=10) rfl (.cons (k:=8) rfl (.cons (k:=7) rfl (.cons (k:=6) rfl (.cons (k:=4) rfl (.cons (k:=3) rfl (.cons (k:=2) rfl (.nil)))))))))) (by exact Mem.le.refl _) (fun w hw=>by first|exact hw|exact hw.c) ?_ ?_
       ·exact ⟨(⟨ra,ri⟩,true),rfl,rfl,by omega,rfl,by rw [WC (by omega:k<ps_l.length),hI,hx];unfold Vn;rw [if_neg (by rintro (g1|g1);exact absurd g1 (by assumption);exact g1 (by assumption)),if_neg (by rintro (g1|g1);cases g1;exact absurd ((open_less (hO rfl) (by assumption)).1 g1) (by assumption))],hO⟩
       ·omega
   ·replace hc9:=dF hc9
    refine XK ?_
    iterate 2 refine XH ?_
    refine Wh (Zn (Y_pk [9,8,7,6] ?_));refine ZK (Zm (l:=[0,1,2,3]) rfl ?_);refine ZD F.lay25 ?_;refine Zx ?_;refine Yh F.lay25 ?_;refine ZB ?_;refine Zo (Zn (Y_pk [7,6] ?_));refine Yo ?_
    refine Yk (.inr rfl) (.cell rfl (by repeat first|exact List.Mem.head _|refine List.Mem.tail _ ?_|refine List.mem_append_right _ ?_) F.lay25 rfl rfl (.tmp rfl .nil)) (fun w hw=>?_)
    obtain rfl:k=ps_l.length:=by omega
    rw [List.take_length,hps] at hI
    refine ⟨_,M2,rfl,hm1,hw.c,?_⟩
    unfold Wj
    rw [show (ZQ.tb ⟨⟨Yd,Yi⟩,⟨Ym,Yy⟩,⟨Yq,Yp,ZU⟩,⟨Yg,Yf,ZE⟩⟩).self=⟨Yd,Yi⟩ from rfl,hI];rfl
end Go.Proofs.YtajmnjefajknoaaGreat
namespace Go.Esp
def smallP (n:Int):Plc:=ofBytes fun i=>if i=19 then (n % 256).toNat else if i=18 then (n / 256 % 256).toNat else 0
theorem smallP_lt (n:Int):∀ i,(if i=19 then (n % 256).toNat else if i=18 then (n / 256 % 256).toNat else 0)<256:=fun i=>by
  split
  · omega
  · split
    · omega
    · decide
theorem idV0 {i:Nat} (h:i<20):(idV 0)[i]=.int .u8 0:=by rw [Un _ h];simp [idB]
theorem small_seg (n:Int):idV (smallP n)=((idV 0).set 19 (.int .u8 (n % 256))).set 18 (.int .u8 (n / 256 % 256)):=by
  apply Vector.ext
  intro i hi
  rw [Un _ hi]
  unfold smallP
  rw [idB_ofBytes (smallP_lt n) hi]
  by_cases e8:i=18
  · subst e8
    rw [Vector.getElem_set_self]
    simp
    omega
  · rw [Vector.getElem_set_ne _ _ (Ne.symm e8)]
    by_cases e9:i=19
    · subst e9
      rw [Vector.getElem_set_self]
      simp
      omega
    · rw [Vector.getElem_set_ne _ _ (Ne.symm e9),idV0 hi]
      simp [e8,e9]
end Go.Esp
namespace Go.Proofs.YtajmnjefajknoaaGreat
open Go.Esp
theorem F.ok20:okFn Tryz.prog 20=true:=by kernel_rfl
theorem SameP_ok (M:Mem) (a:(Sl ZF)) (b:(Sl ZF)) (ha0:SlK M ZF.segs 21 a) (hb1:SlK M ZF.segs 21 b):Fs Tryz.prog 20 [Sl.val a,Sl.val b] M (fun v=>v=Value.bool (decide (a.l=b.l))):=by
  obtain ⟨a_a,a_c,a_l⟩:=a
  obtain ⟨b_a,b_c,b_l⟩:=b
  have k_a:SlK M ZF.segs 21 ⟨a_a,a_c,a_l⟩:=ha0
  have s_a:SlM M a_a (a_l.map ZF.segs) 21:=k_a.h1
  have n_a:(a_l.map ZF.segs).length=a_l.length:=List.length_map ..
  have m_a:a_l.length≤9223372036854775807:=k_a.h2
  have c_a:a_l.length≤a_c:=k_a.h3
  have k_b:SlK M ZF.segs 21 ⟨b_a,b_c,b_l⟩:=hb1
  have s_b:SlM M b_a (b_l.map ZF.segs) 21:=k_b.h1
  have n_b:(b_l.map ZF.segs).length=b_l.length:=List.length_map ..
  have m_b:b_l.length≤9223372036854775807:=k_b.h2
  have c_b:b_l.length≤b_c:=k_b.h3
  refine Xv Tryz.func20 rfl Tryz.ntmps20 rfl ?_;intro H
  refine ZK (Zm (l:=[0]) rfl ?_);refine ZB ?_;refine Zo (Zn ?_)
  iterate 2 refine ZK ?_
  refine Zm (l:=[0,1,2,3,4]) rfl ?_;refine Zx ?_;refine YY F.elem26 ?_;refine Zx ?_;refine YY F.elem26 ?_;refine YI ?_;refine Zo (Zn (Y_pk [10,4,0,1] ?_))
  refine YA rfl (fun hc1=>?_) (fun hc1=>?_)
  ·replace hc1:=nT hc1
   refine ZK (Zm (l:=[0]) rfl ?_);refine ZB ?_;refine Zo (Zn (Y_pk [4,0,1] ?_));refine Yo (YS ?_)
   refine Yk (.inr rfl) (.tmp rfl .nil) (fun w hw=>?_)
   refine ⟨_,rfl,(hw.c),?_⟩
   clear hw
   refine congrArg Value.bool ?_
   exact (decide_eq_false (fun h9=>by subst h9;simp_all)).symm
  ·replace hc1:=nF hc1
   refine YG (Zn (Y_pk [4,0,1] ?_))
   iterate 2 refine ZK ?_
   refine Zm (l:=[0]) rfl ?_;refine ZB ?_;refine Zo (Zn (Xc (Y_pk [5,4,0,1] ?_)));refine WV (.succ .zero) (fun (k:Nat) z=>z=[(5,.int .i64 (k:Int))]∧k≤a_l.length∧(∀ j (h2:j<a_l.length) (h3:j<b_l.length),j<k→a_l[j]=b_l[j])) (fun k=>a_l.length-k) (0) (⟨rfl,by omega,by (intro j h2 h3 hj;omega)⟩) ?_
   rintro k _ ⟨rfl,hk,hI⟩
   iterate 2 refine ZK ?_
   refine Zm (l:=[0,1,2,3]) rfl ?_
   iterate 2 refine Zx ?_
   refine YY F.elem26 ?_;refine YI ?_;refine Zo (Zn ?_)
   refine YA rfl (fun hc2=>?_) (fun hc2=>?_)
   ·replace hc2:=dT hc2
    refine YG (Zn (ZK (Xc (ZK (YK (l:=[0,1,2,3,4,5,6,7,8]) #[0,0,3,7,0,0,48,112,255] _ rfl (by kernel_rfl) (by kernel_rfl) St.drawn (fun _ h=>h) ?_)))))
    iterate 2 refine Zx ?_
    refine YR rfl rfl rfl rfl F.elem26 (by rfl) (by omega) (by exact SlM.plain (by assumption) (by (simp;omega))) rfl ?_;refine Xm rfl rfl rfl (by assumption) (by exact XP (by omega)) F.lay25 rfl rfl rfl ?_
    iterate 2 refine Zx ?_
    refine YR rfl rfl rfl rfl F.elem26 (by rfl) (by omega) (by exact SlM.plain (by assumption) (by (simp;omega))) rfl ?_;refine Xm rfl rfl rfl (by assumption) (by exact XP (by omega)) F.lay25 rfl rfl rfl ?_
    refine WF (m:=20) rfl rfl rfl rfl rfl (by constructor) (by constructor) F.lay25 F.kinds25 rfl F.guard25 (by exact XL _) (by exact XL _) rfl rfl rfl ?_;intro c3 he4
    replace he4:c3=true↔¬(Segs.cells _=Segs.cells _):=he4
    obtain rfl:=neD he4 (ZF.inj (x:=⟨_,_⟩) (y:=⟨_,_⟩));clear he4
    refine Zo (Zn ?_)
    refine YA rfl (fun hc5=>?_) (fun hc5=>?_)
    ·replace hc5:=nT hc5
     simp only [ZF.eta,ZQ.eta,ZR.eta,ZP.eta,Yr.eta,ZW.eta,YQ.eta,Yc.eta] at hc5
     simp only [List.get_eq_getElem] at hc5
     refine ZK (Zm (l:=[0]) rfl ?_);refine ZB ?_;refine Zo (Zn (Yo (Xh ?_)))
     iterate 2 refine YS ?_
     refine Xh (YS ?_)
     refine Yk (.inr rfl) (.tmp rfl .nil) (fun w hw=>?_)
     refine ⟨_,rfl,(hw.c),?_⟩
     clear hw
     refine congrArg Value.bool ?_
     exact (decide_eq_false (fun h9=>by subst h9;simp_all)).symm
    ·replace hc5:=nF hc5
     simp only [ZF.eta,ZQ.eta,ZR.eta,ZP.eta,Yr.eta,ZW.eta,YQ.eta,Yc.eta] at hc5
     simp only [List.get_eq_getElem] at hc5
     refine YG (XR (Zn (Zm (l:=[0,1,2]) rfl ?_)));refine Zx ?_;refine XE rfl rfl rfl rfl rfl (by exact Xe (by decide) (by omega)) rfl ?_;refine ZB ?_;refine Zo ?_;refine WO (a':=[(5,_)]) (k+1) (.cons (k:=5) rfl (.cons (k:=4) rfl (.cons (k:=0) rfl (.cons (k:=1) rfl (.nil))))) (fun w hw=>by first|exact hw|exact hw.c) ?_ ?_
     ·refine ⟨rfl,by omega,?_⟩
      (intro j h2 h3 hj;rcases Nat.lt_or_ge j k with h9|h9;exact hI j h2 h3 h9;obtain rfl:j=k:=(by omega);simp_all)
     ·omega
   ·replace hc2:=dF hc2
    refine XK ?_
    iterate 2 refine XH ?_
    refine Wh (Zn (Y_pk [4] ?_));refine ZK (Zm (l:=[0]) rfl ?_);refine ZB ?_;refine Zo (Zn (Yo ?_))
    refine Yk (.inr rfl) (.tmp rfl .nil) (fun w hw=>?_)
    refine ⟨_,rfl,(hw.c),?_⟩
    clear hw
    refine congrArg Value.bool ?_
    exact (decide_eq_true (List.ext_getElem (by omega) (fun j h2 h3=>hI j h2 h3 (by omega)))).symm
theorem SameT_ok (M:Mem) (a:ZQ) (b:ZQ) (ha0:ZQ.ok M a) (hb1:ZQ.ok M b):Fs Tryz.prog 42 [a.enc,b.enc] M (fun v=>v=Value.bool (decide (a.tb=b.tb))):=by
  obtain ⟨⟨a_self_addr,a_self_id⟩,⟨a_pred_addr,a_pred_id⟩,⟨a_succ_a,a_succ_c,a_succ_l⟩,⟨a_fingers_a,a_fingers_c,a_fingers_l⟩⟩:=a
  obtain ⟨⟨b_self_addr,b_self_id⟩,⟨b_pred_addr,b_pred_id⟩,⟨b_succ_a,b_succ_c,b_succ_l⟩,⟨b_fingers_a,b_fingers_c,b_fingers_l⟩⟩:=b
  have k_a_succ:SlK M ZF.segs 21 ⟨a_succ_a,a_succ_c,a_succ_l⟩:=ha0.h0
  have s_a_succ:SlM M a_succ_a (a_succ_l.map ZF.segs) 21:=k_a_succ.h1
  have n_a_succ:(a_succ_l.map ZF.segs).length=a_succ_l.length:=List.length_map ..
  have m_a_succ:a_succ_l.length≤9223372036854775807:=k_a_succ.h2
  have c_a_succ:a_succ_l.length≤a_succ_c:=k_a_succ.h3
  have k_a_fingers:SlK M ZF.segs 21 ⟨a_fingers_a,a_fingers_c,a_fingers_l⟩:=ha0.h1
  have s_a_fingers:SlM M a_fingers_a (a_fingers_l.map ZF.segs) 21:=k_a_fingers.h1
  have n_a_fingers:(a_fingers_l.map ZF.segs).length=a_fingers_l.length:=List.length_map ..
  have m_a_fingers:a_fingers_l.length≤9223372036854775807:=k_a_fingers.h2
  have c_a_fingers:a_fingers_l.length≤a_fingers_c:=k_a_fingers.h3
  have k_b_succ:SlK M ZF.segs 21 ⟨b_succ_a,b_succ_c,b_succ_l⟩:=hb1.h0
  have s_b_succ:SlM M b_succ_a (b_succ_l.map ZF.segs) 21:=k_b_succ.h1
  have n_b_succ:(b_succ_l.map ZF.segs).length=b_succ_l.length:=List.length_map ..
  have m_b_succ:b_succ_l.length≤9223372036854775807:=k_b_succ.h2
  have c_b_succ:b_succ_l.length≤b_succ_c:=k_b_succ.h3
  have k_b_fingers:SlK M ZF.segs 21 ⟨b_fingers_a,b_fingers_c,b_fingers_l⟩:=hb1.h1
  have s_b_fingers:SlM M b_fingers_a (b_fingers_l.map ZF.segs) 21:=k_b_fingers.h1
  have n_b_fingers:(b_fingers_l.map ZF.segs).length=b_fingers_l.length:=List.length_map ..
  have m_b_fingers:b_fingers_l.length≤9223372036854775807:=k_b_fingers.h2
  have c_b_fingers:b_fingers_l.length≤b_fingers_c:=k_b_fingers.h3
  refine Xv Tryz.func42 rfl Tryz.ntmps42 rfl ?_;intro H
  refine ZK (Zm (l:=[0,1,2]) rfl ?_)
  refine Xk ?_;intro b1
  refine Xk ?_;intro b2
  refine ZB ?_;refine Zo (Zn (Y_pk [4,3,2] ?_));refine ZK (Zm (l:=[0,1,2,3,4,5,6,7,8,9,10,11,12,13,14,15,16,17,18,19,20,21,22,23,24,25,26]) rfl ?_);refine Zk F.foff28_0 ?_;refine ZD F.lay25 ?_;refine Zk F.foff28_0 ?_;refine ZD F.lay25 ?_
  refine WF (m:=20) rfl rfl rfl rfl rfl (by constructor) (by constructor) F.lay25 F.kinds25 rfl F.guard25 (by exact XL (⟨_,_⟩)) (by exact XL (⟨_,_⟩)) rfl rfl rfl ?_;intro c3 he4
  replace he4:c3=true↔Segs.cells _=Segs.cells _:=he4
  obtain rfl:=eqD he4 (ZF.inj (x:=⟨_,_⟩) (y:=⟨_,_⟩));clear he4
  refine Zx ?_
  refine Yj 10 rfl (fun hc5=>?_) (fun hc5=>?_)
  ·replace hc5:=dT hc5
   refine Zk F.foff28_1 ?_;refine ZD F.lay25 ?_;refine Zk F.foff28_1 ?_;refine ZD F.lay25 ?_
   refine WF (m:=20) rfl rfl rfl rfl rfl (by constructor) (by constructor) F.lay25 F.kinds25 rfl F.guard25 (by exact XL (⟨_,_⟩)) (by exact XL (⟨_,_⟩)) rfl rfl rfl ?_;intro c6 he7
   replace he7:c6=true↔Segs.cells _=Segs.cells _:=he7
   obtain rfl:=eqD he7 (ZF.inj (x:=⟨_,_⟩) (y:=⟨_,_⟩));clear he7
   refine ZO ?_;refine Zx ?_
   refine Yj 17 rfl (fun hc8=>?_) (fun hc8=>?_)
   ·replace hc8:=dT hc8
    refine Zk F.foff28_2 ?_;refine ZD F.lay26 ?_;refine Zk F.foff28_2 ?_;refine ZD F.lay26 ?_;refine X_fs rfl rfl F.ok20 rfl (SameP_ok _ ⟨_,_,_⟩ ⟨_,_,_⟩ (by assumption) (by assumption)) rfl ?_
    rintro _ rfl
    refine ZO ?_;refine Zx ?_
    refine Yj 24 rfl (fun hc9=>?_) (fun hc9=>?_)
    ·replace hc9:=dT hc9
     simp only [ZF.eta,ZQ.eta,ZR.eta,ZP.eta,Yr.eta,ZW.eta,YQ.eta,Yc.eta] at hc9
     refine Zk F.foff28_3 ?_;refine ZD F.lay26 ?_;refine Zk F.foff28_3 ?_;refine ZD F.lay26 ?_;refine X_fs rfl rfl F.ok20 rfl (SameP_ok _ ⟨_,_,_⟩ ⟨_,_,_⟩ (by assumption) (by assumption)) rfl ?_
     rintro _ rfl
     refine ZO ?_;refine ZB ?_;refine Zo (Zn (Y_pk [4] ?_));refine Yo ?_
     refine Yk (.inr rfl) (.tmp rfl .nil) (fun w hw=>?_)
     refine ⟨_,rfl,(hw.c),?_⟩
     clear hw
     refine congrArg Value.bool ?_
     simp_all [ZQ.tb]
    ·replace hc9:=dF hc9
     simp only [ZF.eta,ZQ.eta,ZR.eta,ZP.eta,Yr.eta,ZW.eta,YQ.eta,Yc.eta] at hc9
     iterate 5 refine Ya ?_
     refine ZO ?_;refine ZB ?_;refine Zo (Zn (Y_pk [4] ?_));refine Yo ?_
     refine Yk (.inr rfl) (.tmp rfl .nil) (fun w hw=>?_)
     refine ⟨_,rfl,(hw.c),?_⟩
     clear hw
     refine congrArg Value.bool ?_
     simp_all [ZQ.tb]
   ·replace hc8:=dF hc8
    iterate 5 refine Ya ?_
    refine ZO ?_;refine Zx ?_
    iterate 5 refine Ya ?_
    refine ZO ?_;refine ZB ?_;refine Zo (Zn (Y_pk [4] ?_));refine Yo ?_
    refine Yk (.inr rfl) (.tmp rfl .nil) (fun w hw=>?_)
    refine ⟨_,rfl,(hw.c),?_⟩
    clear hw
    refine congrArg Value.bool ?_
    simp_all [ZQ.tb]
  ·replace hc5:=dF hc5
   iterate 5 refine Ya ?_
   refine ZO ?_;refine Zx ?_
   iterate 5 refine Ya ?_
   refine ZO ?_;refine Zx ?_
   iterate 5 refine Ya ?_
   refine ZO ?_;refine ZB ?_;refine Zo (Zn (Y_pk [4] ?_));refine Yo ?_
   refine Yk (.inr rfl) (.tmp rfl .nil) (fun w hw=>?_)
   refine ⟨_,rfl,(hw.c),?_⟩
   clear hw
   refine congrArg Value.bool ?_
   simp_all [ZQ.tb]
theorem BigT_ok (M:Mem) (t:ZQ) (ht0:ZQ.ok M t):Fs Tryz.prog 31 [t.enc] M (fun v=>v=Value.bool (decide (40<t.succ.l.length∨200<t.fingers.l.length))):=by
  obtain ⟨⟨Yd,Yi⟩,⟨Ym,Yy⟩,⟨Yq,Yp,ZU⟩,⟨Yg,Yf,ZE⟩⟩:=t
  have YT:SlK M ZF.segs 21 ⟨Yq,Yp,ZU⟩:=ht0.h0
  have WA:SlM M Yq (ZU.map ZF.segs) 21:=YT.h1
  have WI:(ZU.map ZF.segs).length=ZU.length:=List.length_map ..
  have WJ:ZU.length≤9223372036854775807:=YT.h2
  have WK:ZU.length≤Yp:=YT.h3
  have Yu:SlK M ZF.segs 21 ⟨Yg,Yf,ZE⟩:=ht0.h1
  have XQ:SlM M Yg (ZE.map ZF.segs) 21:=Yu.h1
  have Wc:(ZE.map ZF.segs).length=ZE.length:=List.length_map ..
  have XZ:ZE.length≤9223372036854775807:=Yu.h2
  have Wd:ZE.length≤Yf:=Yu.h3
  refine Xv Tryz.func31 rfl Tryz.ntmps31 rfl ?_;intro H
  refine ZK (Zm (l:=[0,1]) rfl ?_)
  refine Xk ?_;intro b1
  refine ZB ?_;refine Zo (Zn (Y_pk [2,1] ?_));refine ZK (Zm (l:=[0,1,2,3,4,5,6,7,8,9,10]) rfl ?_);refine Zk F.foff28_2 ?_;refine ZD F.lay26 ?_;refine YY F.elem26 ?_;refine YI ?_;refine Zx ?_
  refine Yj 7 rfl (fun hc2=>?_) (fun hc2=>?_)
  ·replace hc2:=dT hc2
   iterate 4 refine Ya ?_
   refine ZO ?_;refine ZB ?_;refine Zo (Zn (Y_pk [2] ?_));refine Yo ?_
   refine Yk (.inr rfl) (.tmp rfl .nil) (fun w hw=>?_)
   refine ⟨_,rfl,(hw.c),?_⟩
   clear hw
   refine congrArg Value.bool ?_
   rw [Bool.eq_iff_iff]
   simp only [decide_eq_true_eq,true_iff,iff_true]
   omega
  ·replace hc2:=dF hc2
   refine Zk F.foff28_3 ?_;refine ZD F.lay26 ?_;refine YY F.elem26 ?_;refine YI ?_;refine ZO ?_;refine ZB ?_;refine Zo (Zn (Y_pk [2] ?_));refine Yo ?_
   refine Yk (.inr rfl) (.tmp rfl .nil) (fun w hw=>?_)
   refine ⟨_,rfl,(hw.c),?_⟩
   clear hw
   refine congrArg Value.bool ?_
   rw [Bool.eq_iff_iff]
   simp only [decide_eq_true_eq,true_iff,iff_true]
   omega
theorem Small_ok (M:Mem) (n:Int) (hn:0≤n∧n≤1000000):Fs Tryz.prog 40 [.int .i64 n] M (fun v=>v=(fun x=>aggV [Yt x]) (smallP n)):=by
  refine Xv Tryz.func40 rfl Tryz.ntmps40 rfl ?_;intro H
  refine ZK (Zm (l:=[0]) rfl ?_)
  refine YW F.zero23 ?_;intro b1
  refine Zo (Zn (ZK (Zm (l:=[0]) rfl ?_)))
  refine YW F.zero23 ?_;intro b2
  refine Zo (Zn (ZK (Zm (l:=[0,1,2,3,4]) rfl ?_)));refine Zx ?_;refine X_rem rfl rfl rfl rfl (by decide) (by exact rem_nn (by omega)) rfl ?_;refine Ug rfl rfl rfl Tryz.underlying3 Tryz.underlying5 (by exact wrap_u8_in (by decide) (by omega)) rfl ?_;refine Wa rfl rfl rfl rfl F.arr23 (by rfl) (by decide) rfl ?_;refine X_store_cell rfl rfl rfl rfl rfl rfl (by repeat first|exact Upd.head|apply Upd.tail|apply Upd.over) F.lay5 (arr_len (by decide)) (arr_set (by decide)) ?_;refine Zo (Zn (Y_pk [3,2,0] ?_));refine ZK (Zm (l:=[0,1,2,3,4,5]) rfl ?_);refine Zx ?_;refine X_quo rfl rfl rfl rfl (by decide) (by exact quo_in rfl (by omega) (by omega) (by omega)) rfl ?_;refine X_rem rfl rfl rfl rfl (by decide) (by exact rem_nn (by omega)) rfl ?_;refine Ug rfl rfl rfl Tryz.underlying3 Tryz.underlying5 (by exact wrap_u8_in (by decide) (by omega)) rfl ?_
  refine Wa rfl rfl rfl rfl F.arr23 (by rfl) (by decide) rfl ?_;refine X_store_cell rfl rfl rfl rfl rfl rfl (by repeat first|exact Upd.head|apply Upd.tail|apply Upd.over) F.lay5 (arr_len (by decide)) (arr_set (by decide)) ?_;refine Zo (Zn (Y_pk [3,2] ?_));refine ZK (Zm (l:=[0,1]) rfl ?_);refine ZD F.lay23 ?_;refine VA 13 rfl (show aggV [.arr 20 _]=aggV [Yt (smallP n)] from by unfold Yt;rw [small_seg]) ?_;refine Yh F.lay23 ?_;refine Zo (Zn (Y_pk [2] ?_));refine Yo ?_
  refine Yk (.inr rfl) (.cell rfl (by repeat first|exact List.Mem.head _|refine List.Mem.tail _ ?_|refine List.mem_append_right _ ?_) F.lay23 rfl rfl .nil) (fun w hw=>?_)
  refine ⟨_,rfl,(hw.c),?_⟩
  clear hw
  rfl
end Go.Proofs.YtajmnjefajknoaaGreat
namespace Go.Esp
def others (a:Int) (l:List ZF):List ZF:=l.filter (fun p=>p.addr≠a)
end Go.Esp
namespace Go.Esp
structure Lt where
  kind:Int
  frm:ZF
  req:Int
  id:Plc
  avoid:List Int
  done:Bool
  peer:ZF
  peers:List ZF
  deriving DecidableEq
structure Snd where
  to:Int
  letter:Lt
  deriving DecidableEq
structure Nd where
  table:Tb
  copies:Int
  joined:Bool
  boot:Int
  cursor:Int
  req:Int
  askTo:Int
  askReq:Int
  pingTo:Int
  pingReq:Int
  findTo:Int
  findReq:Int
  findID:Plc
  avoid:List Int
  hops:Int
  turn:Int
  deriving DecidableEq
def Nd.zero:Nd:=⟨Tb.zero,0,false,0,0,0,0,0,0,0,0,0,0,[],0,0⟩
def Lt.zero:Lt:=⟨0,⟨0,0⟩,0,0,[],false,⟨0,0⟩,[]⟩
def YZ (s:ZF) (a:Int):Prop:=(-1≤a∧a≤999)∧a≠s.addr
instance (s:ZF) (a:Int):Decidable (YZ s a):=by unfold YZ;exact inferInstance
def IsNd (n:Nd):Prop :=
  IsTb n.table∧(1≤n.copies∧n.copies≤8)∧(n.joined=true∨n.boot≠-1)∧(0≤n.cursor∧n.cursor≤159)∧n.avoid.length≤16∧(0≤n.hops∧n.hops≤64)∧(0≤n.turn∧n.turn≤999999) ∧
  (YZ n.table.self n.boot∧YZ n.table.self n.askTo∧YZ n.table.self n.pingTo∧YZ n.table.self n.findTo)∧∀ a∈n.avoid,YX a
instance (n:Nd):Decidable (IsNd n):=by unfold IsNd;exact inferInstance
def Vo (k:Int):Prop:=k=1∨k=2∨k=3∨k=6∨k=7∨k=4
instance (k:Int):Decidable (Vo k):=by unfold Vo;exact inferInstance
def WU (k:Int):Prop:=k=2∨k=4∨k=8
instance (k:Int):Decidable (WU k):=by unfold WU;exact inferInstance
def Wy (k:Int):Prop:=k=4∨k=8
instance (k:Int):Decidable (Wy k):=by unfold Wy;exact inferInstance
def IsLt (l:Lt):Prop :=
  (1≤l.kind∧l.kind≤8)∧YX l.frm.addr∧l.avoid.length≤16∧l.peers.length≤8∧(l.peer=Xf∨YX l.peer.addr)∧¬(l.peer=Xf∧l.kind=2) ∧
  (Vo l.kind∨l.req=0)∧(l.kind=1∨l.id=0)∧(l.kind=1∨l.avoid=[])∧(l.kind=2∨l.done=false)∧(WU l.kind∨l.peer=Xf)∧(Wy l.kind∨l.peers=[]) ∧
  (∀ a∈l.avoid,YX a)∧∀ p∈l.peers,YX p.addr
instance (l:Lt):Decidable (IsLt l):=by unfold IsLt Vo WU Wy;exact inferInstance
def nxR (r:Int):Int:=(r+1) % 18446744073709551616
def lett (n:Nd) (kind req:Int):Lt:=⟨kind,n.table.self,req,0,[],false,Xf,[]⟩
def Uz (self:ZF) (r:Int):Nd×Int:=if YX self.addr∧1≤r∧r≤8 then (⟨(newT self).1,r,true,-1,0,0,-1,0,-1,0,-1,0,0,[],0,0⟩,0) else (Nd.zero,1)
def joiningN (self:ZF) (r boot:Int):Nd×Int:=if (Uz self r).2=0∧YX boot∧boot≠self.addr then ({ (Uz self r).1 with joined:=false,boot:=boot },0) else (Nd.zero,1)
def UC (n:Nd) (to:Int):Nd×List Snd :=
  ({ n with req:=nxR n.req,findTo:=to,findReq:=nxR n.req },[⟨to,{ lett n 1 (nxR n.req) with id:=n.findID,avoid:=n.avoid }⟩])
def shunN (n:Nd) (a:Int):Nd:=if a∈n.avoid∨16≤n.avoid.length then n else { n with avoid:=n.avoid++[a] }
def Vc (n:Nd) (first:ZF) (rest:List ZF):Nd:=if (Vl n.table first rest n.copies).2=0 then { n with table:=(Vl n.table first rest n.copies).1 } else n
def VW (n:Nd) (p:ZF):Nd:=if (WT n.table n.cursor p).2.2=0 then { n with table:=(WT n.table n.cursor p).1,cursor:=(WT n.table n.cursor p).2.1 } else n
def stabN (n:Nd):Nd×List Snd :=
  if n.joined=false then
    let m:=if n.findTo≠-1∧n.findTo≠n.boot then shunN n n.findTo else n
    UC { m with findID:=m.table.self.id,hops:=0 } m.boot
  else
    let m:=if n.askTo≠-1 then { n with table:=Wm n.table n.askTo,askTo:=-1 } else n
    let m:=if m.table.succ=[]∧m.table.pred≠Xf then Vc m m.table.pred [] else m
    if m.table.succ=[] then (m,[])
    else ({ m with req:=nxR m.req,askTo:=(Wi m.table).addr,askReq:=nxR m.req },[⟨(Wi m.table).addr,lett m 3 (nxR m.req)⟩])
def fixN (n:Nd):Nd×List Snd :=
  if n.joined=false then (n,[])
  else
    let m:=if n.findTo=-1 then { n with avoid:=[] } else { shunN n n.findTo with table:=Wm n.table n.findTo,findTo:=-1 }
    let id:=m.table.self.id+powP m.cursor.toNat
    if (VL m.table id).2 then (VW m (VL m.table id).1,[])
    else if (Wj m.table id m.avoid).2=false then ({ m with cursor:=0 },[])
    else UC { m with findID:=id,hops:=0 } (Wj m.table id m.avoid).1.addr
def checkN (n:Nd):Nd×List Snd :=
  let m:=if n.pingTo≠-1 then { n with table:=Wm n.table n.pingTo,pingTo:=-1 } else n
  match knownT m.table with
  | []=>(m,[])
  | p::l =>
    let a:=(((p::l)[m.turn.toNat % (l.length+1)]?).getD Xf).addr
    ({ m with req:=nxR m.req,pingTo:=a,pingReq:=nxR m.req,turn:=(m.turn+1) % 1000000 },[⟨a,lett m 6 (nxR m.req)⟩])
def Uy (n:Nd) (kind:Int):Nd×List Snd×Int :=
  if IsNd n∧1≤kind∧kind≤3 then
    let r:=if kind=1 then stabN n else if kind=2 then fixN n else checkN n
    (r.1,r.2,0)
  else (Nd.zero,[],1)
def UL (n:Nd) (l:Lt):List Snd :=
  if n.joined=false then []
  else
    let d:=VL n.table l.id
    let q:=Wj n.table l.id l.avoid
    [⟨l.frm.addr,{ lett n 2 l.req with done:=d.2 || !q.2,peer:=if d.2 || !q.2 then d.1 else q.1 }⟩]
def Uj (n:Nd) (l:Lt):Nd×List Snd :=
  if n.findTo≠l.frm.addr∨n.findReq≠l.req then (n,[])
  else if l.done then
    let m:={ n with findTo:=-1 }
    if n.joined=true∧(Xn n.table.self l.peer∨l.peer=n.table.self) then (VW m l.peer,[])
    else if n.joined=false∧Xn n.table.self l.peer then ({ Vc m l.peer [] with joined:=true,cursor:=0,avoid:=[] },[])
    else (m,[])
  else if ¬Xn n.table.self l.peer∨l.peer.addr∈n.avoid∨l.peer.addr=l.frm.addr∨32≤n.hops then ({ n with findTo:=-1 },[])
  else UC { n with hops:=n.hops+1 } l.peer.addr
def UH (n:Nd) (l:Lt):Nd×List Snd :=
  if n.askTo≠l.frm.addr∨n.askReq≠l.req then (n,[])
  else
    let m:=Vc { n with askTo:=-1 } l.frm l.peers
    let m:=if VP m.table l.peer then Vc m l.peer (l.frm::l.peers) else m
    (m,[⟨(Wi m.table).addr,lett m 5 0⟩])
def byeN (n:Nd) (l:Lt):Nd :=
  let t:=Wm n.table l.frm.addr
  let t:=if n.table.pred.addr=l.frm.addr then Vs t l.peer else t
  let m:={ n with table:=t }
  match l.peers with
  | []=>m
  | p::ps=>if (Wi n.table).addr=l.frm.addr then Vc m p ps else m
def Wz (n:Nd) (l:Lt):Nd×List Snd×Int :=
  if IsNd n∧IsLt l then
    if ¬Xn n.table.self l.frm then (n,[],0)
    else if l.kind=1 then (n,UL n l,0)
    else if l.kind=2 then ((Uj n l).1,(Uj n l).2,0)
    else if l.kind=3 then (n,if n.joined then [⟨l.frm.addr,{ lett n 4 l.req with peer:=n.table.pred,peers:=n.table.succ }⟩] else [],0)
    else if l.kind=4 then ((UH n l).1,(UH n l).2,0)
    else if l.kind=5 then ({ n with table:=Vs n.table l.frm },[],0)
    else if l.kind=6 then (n,[⟨l.frm.addr,lett n 7 l.req⟩],0)
    else if l.kind=7 then (if n.pingTo=l.frm.addr∧n.pingReq=l.req then { n with pingTo:=-1 } else n,[],0)
    else (byeN n l,[],0)
  else (Nd.zero,[],1)
def leaveN (n:Nd):List Snd×Int :=
  if IsNd n then
    let l:={ lett n 8 0 with peer:=n.table.pred,peers:=n.table.succ }
    ((if n.table.succ=[] then [] else [⟨(Wi n.table).addr,l⟩])++(if n.table.pred≠Xf∧n.table.pred≠Wi n.table then [⟨n.table.pred.addr,l⟩] else []),0)
  else ([],1)
end Go.Esp
namespace Go.Esp
section
variable {P:Program} {n:Sh} {Q:Exit→Act→World→Prop} {M:Mem} {H H0:Hp} {e:Env} {x:Exit} {c:Code}
end
end Go.Esp
namespace Go.Esp
def ZR.nd (n:ZR):Nd:=⟨n.table.tb,n.copies,n.joined,n.boot,n.cursor,n.req,n.askTo,n.askReq,n.pingTo,n.pingReq,n.findTo,n.findReq,n.findID,n.avoid.l,n.hops,n.turn⟩
def ZP.lt (l:ZP):Lt:=⟨l.kind,l.frm,l.req,l.id,l.avoid.l,l.done,l.peer,l.peers.l⟩
def Yr.snd (s:Yr):Snd:=⟨s.to,s.letter.lt⟩
def sndl (l:List Yr):List Snd:=l.map Yr.snd
theorem addr4 {s:ZF} {a b c d:Int}:(∀ j (h:j<[a,b,c,d].length),YZ s [a,b,c,d][j])↔(YZ s a∧YZ s b∧YZ s c∧YZ s d):=by
  constructor
  · intro h;exact ⟨h 0 (by show 0<4;decide),h 1 (by show 1<4;decide),h 2 (by show 2<4;decide),h 3 (by show 3<4;decide)⟩
  · rintro ⟨h0,h1,h2,h3⟩ j hj
    match j,hj with
    | 0,_=>exact h0
    | 1,_=>exact h1
    | 2,_=>exact h2
    | 3,_=>exact h3
theorem any_odd {l:List Int}:(l.any fun a=>decide (¬(0≤a∧a≤999)))=false↔∀ a∈l,YX a:=by
  rw [List.any_eq_false]
  constructor
  · intro h a ha
    have:=h a ha
    simp only [decide_eq_true_eq,Classical.not_not] at this
    exact this
  · intro h a ha
    have:=h a ha
    simp only [decide_eq_true_eq,Classical.not_not]
    exact this
theorem any_oddP {l:List ZF}:(l.any fun p=>decide (¬YX p.addr))=false↔∀ p∈l,YX p.addr:=by
  rw [List.any_eq_false]
  constructor
  · intro h a ha
    have:=h a ha
    simpa using this
  · intro h a ha
    have:=h a ha
    simpa using this
def orK (a b:Int):Int:=IntKind.i64.wrap (BitVec.ofInt 64 a ||| BitVec.ofInt 64 b).toNat
def notK (a b:Int):Int:=IntKind.i64.wrap (BitVec.ofInt 64 a &&& ~~~BitVec.ofInt 64 b).toNat
def Ut (l:List YQ):Int:=l.foldl (fun a h=>if h.is then orK a h.part else a) 0
theorem usedH_take {l:List YQ} {k:Nat} (hk:k<l.length):Ut (l.take (k+1))=if l[k].is then orK (Ut (l.take k)) l[k].part else Ut (l.take k):=by
  unfold Ut
  rw [List.take_add_one,List.getElem?_eq_getElem hk,List.foldl_append]
  rfl
def UE (a b c d e f:Bool):List YQ:=[⟨1,a⟩,⟨2,b⟩,⟨4,c⟩,⟨8,d⟩,⟨16,e⟩,⟨32,f⟩]
def Vr (k:Int):Int×Bool :=
  if k=1 then (7,true) else if k=2 then (25,true) else if k=3∨k=6∨k=7 then (1,true) else if k=4 then (49,true) else if k=5 then (0,true) else if k=8 then (48,true) else (0,false)
theorem used_not:∀ (a b c d e f:Bool),(notK (Ut (UE a b c d e f)) 7=0↔d=false∧e=false∧f=false)∧(notK (Ut (UE a b c d e f)) 25=0↔b=false∧c=false∧f=false) ∧
    (notK (Ut (UE a b c d e f)) 1=0↔b=false∧c=false∧d=false∧e=false∧f=false)∧(notK (Ut (UE a b c d e f)) 49=0↔b=false∧c=false∧d=false) ∧
    (notK (Ut (UE a b c d e f)) 0=0↔a=false∧b=false∧c=false∧d=false∧e=false∧f=false)∧(notK (Ut (UE a b c d e f)) 48=0↔a=false∧b=false∧c=false∧d=false):=by
  intro a b c d e f
  cases a <;> cases b <;> cases c <;> cases d <;> cases e <;> cases f <;> decide +kernel
theorem parts_no {k:Int} (h:¬(1≤k∧k≤8)∨(¬k=1∧¬k=2∧¬k=3∧¬k=6∧¬k=7∧¬k=4∧¬k=5∧¬k=8)):Vr k=(0,false):=by
  unfold Vr
  rw [if_neg (by omega),if_neg (by omega),if_neg (by omega),if_neg (by omega),if_neg (by omega),if_neg (by omega)]
theorem parts_yes {k:Int}:(Vr k).2=true↔1≤k∧k≤8:=by
  unfold Vr
  repeat' split
  all_goals simp only [true_iff,false_iff,Bool.false_eq_true]
  all_goals omega
theorem used_parts {k:Int} (hk:(Vr k).2=true) (a b c d e f:Bool):notK (Ut (UE a b c d e f)) (Vr k).1=0 ↔
    ((Vo k∨a=false)∧(k=1∨b=false)∧(k=1∨c=false)∧(k=2∨d=false)∧(WU k∨e=false)∧(Wy k∨f=false)):=by
  obtain ⟨h1,h2,h3,h4,h5,h6⟩:=used_not a b c d e f
  have hk9:=parts_yes.1 hk
  have:k=1∨k=2∨k=3∨k=4∨k=5∨k=6∨k=7∨k=8:=by omega
  unfold Vo WU Wy
  rcases this with rfl|rfl|rfl|rfl|rfl|rfl|rfl|rfl
  · rw [show (Vr 1).1=7 from rfl,h1];simp
  · rw [show (Vr 2).1=25 from rfl,h2];simp
  · rw [show (Vr 3).1=1 from rfl,h3];simp
  · rw [show (Vr 4).1=49 from rfl,h4];simp
  · rw [show (Vr 5).1=0 from rfl,h5];simp
  · rw [show (Vr 6).1=1 from rfl,h3];simp
  · rw [show (Vr 7).1=1 from rfl,h3];simp
  · rw [show (Vr 8).1=48 from rfl,h6];simp
def partsR (k:Int):Yc:=⟨decide (Vo k),decide (k=1),decide (k=1),decide (k=2),decide (WU k),decide (Wy k)⟩
theorem partsR_no {k:Int} (h:¬k=1∧¬k=2∧¬k=3∧¬k=6∧¬k=7∧¬k=4∧¬k=8):partsR k=⟨false,false,false,false,false,false⟩:=by
  have h1:¬Vo k:=by unfold Vo;omega
  have h2:¬WU k:=by unfold WU;omega
  have h3:¬Wy k:=by unfold Wy;omega
  unfold partsR
  rw [decide_eq_false h1,decide_eq_false h2,decide_eq_false h3,decide_eq_false h.1,decide_eq_false h.2.1]
end Go.Esp
namespace Go.Esp
section
variable {P:Program} {n:Sh} {ops:Array Oper} {Q:Exit→Act→World→Prop} {rest:List Nat} {M M':Mem} {H H' H0:Hp} {e:Env} {J S:World→Prop} {A:As} {i:Nat}
  {dst:Option Tmp} {d:Tmp} {op:Op} {ty:TypeId} {pos:String} {af:Array Edge} {gd:Option (Nat×Bool)}
theorem X_cap_sl {t E sz by_:Nat} {x:Operand} {a:Option Addr} {l c:Nat} {ats:Array TypeId} (hi:ops[i]?=some ⟨some d,.call ⟨.builtin .cap,#[x],ats⟩,ty,pos,af,gd⟩) (hg:want ops e gd=some true)
    (hx:ev e x=some (.slice a l c)) (hat:ats[0]?=some t) (ht:slOf P t=some (E,sz,by_)) (hd:Nat.ble (d+1) n.sz=true) (hk:XD P n ops Q rest J A ((d,.int .i64 (c:Int))::e)):XD P n ops Q (i::rest) J A e :=
  UA hi rfl hg (fun a' w ha _=>WG (by
    obtain ⟨it,hu,_⟩:=Vb ht
    simp only [execOp,resolve]
    simp [invoke,builtin,Builtin.cap_,ha.ev hx,hat,run_underlying hu,goInt])) (fun a ha=>ha.put hd _) hk
theorem C_cutX {α:Type} {c rest:Code} (pre:α→Env) (F:α→Prop) {e0:Env} (hp:Pick e e0)
    (h1:C P n c (Exit.then (fun a w=>∃ x,F x∧Sat n (pre x++e0) a∧S w) Q) S e) (h2:∀ x,F x→C P n rest Q S (pre x++e0)) :
    C P n c (Exit.then (rest.wpIn (Fr n.ro) 0 P Q) Q) S e:=by
  intro a w ha hw
  refine wpIn_mono (h1 a w ha hw) fun x a' w' hx=>?_
  cases x with
  | normal =>
    obtain ⟨x,hF,hs,hw2⟩:=hx
    exact h2 x hF a' w' hs hw2
  | _=>exact hx
theorem XS {α:Type} {S':World→Prop} {pre:α→Env} {F:α→Prop} {e0 e1:Env} (x:α) (hF:F x) (hp:Pick e1 (pre x++e0)) (hS:∀ w,S' w→S w) :
    K n (Exit.then (fun a w=>∃ x,F x∧Sat n (pre x++e0) a∧S w) Q) .normal S' e1:=fun a w ha hw=>⟨x,hF,ha.pick hp,hS w hw⟩
end
end Go.Esp
namespace Go.Esp
theorem OSl.extend {T sz b c:Nat} {hs:Hp} {rows:List Segs} (h:OSl T sz (.slice (some ⟨b,0,none⟩) rows.length c) hs rows) {m:Nat} (hm:rows.length+m≤c) :
    ∃ ext:List Segs,ext.length=m∧OSl T sz (.slice (some ⟨b,0,none⟩) (rows.length+m) c) hs (rows++ext):=by
  obtain ⟨cur,rfl,_,hl,h2,h3,h4,h5⟩:=h.inv
  have key:∀ (m off:Nat) ,off+m * sz≤cur.size→∃ ext:List Segs,ext.length=m∧Esp.lens sz ext∧YH ext=(cur.toList.drop off).take (m * sz):=by
    intro m
    induction m with
    | zero=>intro off _;exact ⟨[],rfl,fun r hr=>(by cases hr),by simp [YH]⟩
    | succ m ih =>
      intro off ho
      have e:(m+1) * sz=sz+m * sz:=by rw [Nat.add_mul];omega
      obtain ⟨ext,g1,g2,g3⟩:=ih (off+sz) (by omega)
      refine ⟨ones ((cur.toList.drop off).take sz)::ext,by simp [g1],fun r hr=>?_,?_⟩
      · rcases List.mem_cons.1 hr with rfl|hr
        · rw [← Segs.cells_length,ones_cells,List.length_take,List.length_drop,Array.length_toList];omega
        · exact g2 r hr
      · simp only [YH,ones_cells,g3,e]
        rw [List.take_add,List.drop_drop]
  obtain ⟨ext,g1,g2,g3⟩:=key m (rows.length * sz) (by rw [h4,← Nat.add_mul];exact Nat.mul_le_mul_right _ hm)
  refine ⟨ext,g1,?_⟩
  have hlen:(rows++ext).length=rows.length+m:=by simp [g1]
  rw [← hlen]
  refine OSl.own b c (rows++ext) cur (hl.append g2) (by omega) h3 h4 ?_
  rw [hlen,Nat.add_mul,List.take_add,h5,← g3,Wk]
theorem OSl.as9 {T sz:Nat} {v:Value} {hs:Hp} {rows rows':List Segs} (h:OSl T sz v hs rows) (e:rows=rows'):OSl T sz v hs rows':=e ▸ h
section
variable {P:Program} {n:Sh} {ops:Array Oper} {Q:Exit→Act→World→Prop} {rest:List Nat} {M M':Mem} {H H' H0:Hp} {e:Env} {J S:World→Prop} {A:As} {i:Nat}
  {dst:Option Tmp} {d:Tmp} {op:Op} {ty:TypeId} {pos:String} {af:Array Edge} {gd:Option (Nat×Bool)}
theorem X_copyP {t t' E sz by_:Nat} {x y:Operand} {b k l' c' l2 c2 c l off:Nat} {ad:Addr} {hs:Hp} {rows news:List Segs} {ats:Array TypeId} (hi:ops[i]?=some ⟨some d,.call ⟨.builtin .copy,#[x,y],ats⟩,ty,pos,af,gd⟩) (hg:want ops e gd=some true)
    (hx:ev e x=some (.slice (some ⟨b,off,Option.none⟩) l' c')) (hy:ev e y=some (.slice (some ad) l2 c2)) (hat:ats=#[t,t']) (ht:slOf P t=some (E,sz,by_)) (hoff:off=k * sz) (hkl:k+l'≤rows.length) (ho:OSl E sz (.slice (some ⟨b,0,Option.none⟩) l c) hs rows) (hH:Rem hs H H0)
    (hsrc:Src M H sz (.slice (some ad) news.length c2) news) (hm:news.length=min l2 l') (hd:Nat.ble (d+1) n.sz=true)
    (hk:∀ hs',OSl E sz (.slice (some ⟨b,0,Option.none⟩) rows.length c) hs' (rows.take k++news++rows.drop (k+news.length))→XD P n ops Q rest (St M (hs'++H0)) ⟨M,hs'++H0⟩ ((d,.int .i64 (news.length:Int))::e)) (hnw:n.wrs.contains i=false:=by rfl):XD P n ops Q (i::rest) J ⟨M,H⟩ e:=by
  subst hat hoff
  refine X_mut hi rfl hg (fun a w ha hw=>?_) hnw
  obtain ⟨it,hu,hit,rfl,rfl⟩:=Vb ht
  obtain ⟨hln,h1,ad',c2',e9,hsr⟩:=hsrc
  obtain ⟨rfl,_,rfl⟩:ad=ad'∧True∧c2=c2':=by simpa using e9
  obtain ⟨cur,rfl,rfl,hlr,hcap,hcm,hcs,htake⟩:=ho.inv
  have hst:=hw.perm hH.perm
  have hb:=hst.own b _ (List.mem_append_left _ (.head _))
  have hcl:(YH news).length=news.length * it.size:=XI hln
  have hle:k * it.size+news.length * it.size≤rows.length * it.size:=by rw [← Nat.add_mul];exact Nat.mul_le_mul_right _ (by omega)
  have hrc:rows.length * it.size≤c * it.size:=Nat.mul_le_mul_right _ hcap
  have hload:=run_loadCells_list (P:=P) w ad (YH news) (fun j v hj=>hsr w hw j v hj)
  have hstore:=run_storeCells_at P b (k * it.size) E (YH news) 0 cur w hb (by omega) h1
  have ho':=rowSplice (T:=E) (b:=b) (k:=k) (news:=news) hlr hln hcap hcm hcs htake (by omega)
  rw [hcl] at hload
  have hr:(Builtin.copy_ #[t,t'] ty #[.slice (some ⟨b,k * it.size,Option.none⟩) l' c',.slice (some ad) l2 c2]).run P w=.ok (goInt news.length) (w.setRow b (cur.toList.take (k * it.size)++YH news++cur.toList.drop (k * it.size+(YH news).length)).toArray):=by
    have e9:Nat.min l2 l'=news.length:=hm.symm
    simp [Builtin.copy_,run_underlying hu,Builtin.lenOf,Builtin.firstCells,sizeOf,typeInfo,hit,e9,hload]
    have h5:=hstore
    simp only [Nat.add_zero,List.append_assoc] at h5
    rw [h5];rfl
  unfold Oper.does
  have:(execOp a.eval ⟨some d,.call ⟨.builtin .copy,#[x,y],#[t,t']⟩,ty,pos,af,gd⟩).run P w=.ok (.value (.int .i64 (news.length:Int))) (w.setRow b (cur.toList.take (k * it.size)++YH news++cur.toList.drop (k * it.size+(YH news).length)).toArray):=by
    simp only [execOp,resolve]
    simp only [invoke,builtin]
    have e1:#[x,y].map a.eval=#[.slice (some ⟨b,k * it.size,Option.none⟩) l' c',.slice (some ad) l2 c2]:=by simp [ha.ev hx,ha.ev hy]
    rw [e1]
    rw [Sem.run_bind]
    show (Result.ok _ w).andThen _=_
    rw [Result.andThen_ok]
    exact Vf hr
  rw [this]
  refine ⟨⟨M,_⟩,_,?_,ha.put hd _,hk _ ho'⟩
  exact hst.upd .head (setRow_heap w b cur _ E _ hb) (fun c hc x hx=>by rw [setRow_other w b c _ hc];exact hx) (VR.refl _)
theorem X_appendZO {t tn E sz by_ j k c:Nat} {z:Value} {kn:IntKind} {x y:Operand} {b l:Nat} {hs:Hp} {rows:List Segs} (hi:ops[i]?=some ⟨some d,.call ⟨.builtin .append,#[x,y],#[t,tn]⟩,ty,pos,af,gd⟩) (hg:want ops e gd=some true)
    (hx:ev e x=some (.slice (some ⟨b,0,Option.none⟩) j c)) (hy:ev e y=some (.int .i64 (k:Int))) (ht:slOf P t=some (E,sz,by_)) (htn:P.underlying tn=some (.int kn)) (hz:WH P E=some z) (hzs:z.cells.size=sz) (hsz:Nat.ble 1 sz=true)
    (ho:OSl E sz (.slice (some ⟨b,0,Option.none⟩) l c) hs rows) (hH:Rem hs H H0) (hj:j≤rows.length) (h0:0<k) (hgr:c<j+k) (hk9:j+k≤16777216) (hkb:(j+k) * by_≤140737488355328) (hd:Nat.ble (d+1) n.sz=true)
    (hk:∀ (b' c':Nat) hs' (zs:List Segs),zs.length=k→OSl E sz (.slice (some ⟨b',0,Option.none⟩) (j+k) c') hs' (rows.take j++zs)→XD P n ops Q rest (St M (hs'++H)) ⟨M,hs'++H⟩ ((d,.slice (some ⟨b',0,Option.none⟩) (j+k) c')::e)) (hnw:n.wrs.contains i=false:=by rfl):XD P n ops Q (i::rest) J ⟨M,H⟩ e:=by
  refine X_mut hi rfl hg (fun a w ha hw=>?_) hnw
  obtain ⟨it,hu,hit,rfl,rfl⟩:=Vb ht
  have hz':it.zero=some z:=by simpa [WH,hit] using hz
  have hpos:1≤it.size:=Nat.le_of_ble_eq_true hsz
  obtain ⟨cur,rfl,_,hl,h2,h3,h4,h5⟩:=ho.inv
  have hst:=hw.perm hH.perm
  have hb:=hst.own b _ (List.mem_append_left _ (.head _))
  have hlt:Esp.lens it.size (rows.take j):=fun r hr=>hl r (List.mem_of_mem_take hr)
  have hjl:(rows.take j).length=j:=by simp;omega
  have hcell:=rowsCells_take hl hj
  have hole:(YH (rows.take j)).length=j * it.size:=by rw [XI hlt,hjl]
  have hold:=run_loadCells_list (P:=P) (w:=w.drew) ⟨b,0,Option.none⟩ (YH (rows.take j)) (cellsAt (w:=w.drew) (b:=b) (off:=0) (n:=j * it.size) hb (by
    rw [List.drop_zero,hcell,← h5,List.take_take]
    congr 1
    have h6:j * it.size≤rows.length * it.size:=Nat.mul_le_mul_right _ hj
    omega))
  rw [hole] at hold
  have hr:=Lib.run_append_grow_zeros (P:=P) w t tn ty E it z .i64 kn hu htn hit hz' (some ⟨b,0,Option.none⟩) j c (YH (rows.take j)) hold k h0 hpos hgr (by omega) (by
    have:k * it.bytes≤(j+k) * it.bytes:=Nat.mul_le_mul_right _ (by omega)
    omega) (growslice_fits hgr hkb)
  have hzsz:z.cells.size=it.size:=hzs
  have hge:=grownCap_ge w (j+k) c E
  have hcm:grownCap w (j+k) c E≤maxLen:=grownCap_le_maxLen w (j+k) c E (by simp only [maxLen];omega)
  obtain ⟨zs,hzl,hlz,hrz⟩:∃ zs:List Segs,zs.length=k∧Esp.lens it.size zs∧YH zs=(Builtin.zeroCells z.cells k).toList:=by
    refine ⟨Ub (fun i=>z.cells[i % z.cells.size]!) it.size k,by simp [Ub],fun r hr=>?_,?_⟩
    · obtain ⟨q,_,rfl⟩:=List.mem_map.1 hr
      exact onesOf_len _ q it.size
    · rw [onesAll_cells];simp [Builtin.zeroCells,hzsz]
  have hlen:(rows.take j++zs).length=j+k:=by simp [hzl];omega
  have h0':St M H w.drew:=hw.heap rfl ⟨rfl,rfl,rfl,Nat.le_succ _⟩
  have h2':=h0'.alloc (.cells ((YH (rows.take j)).toArray++Builtin.zeroCells z.cells k++Builtin.zeroCells z.cells (grownCap w (j+k) c E-(j+k))) E)
  have ho':OSl E it.size (.slice (some ⟨w.heap.size,0,none⟩) (j+k) (grownCap w (j+k) c E)) [(w.heap.size,.cells ((YH (rows.take j)).toArray++Builtin.zeroCells z.cells k++Builtin.zeroCells z.cells (grownCap w (j+k) c E-(j+k))) E (0,0))] (rows.take j++zs):=by
    rw [← hlen] at hge hcm ⊢
    refine OSl.own _ _ _ _ (hlt.append hlz) hge hcm ?_ ?_
    · simp only [Array.size_append,List.size_toArray,size_zeroCells,hzsz,hole]
      rw [hlen] at hge ⊢
      rw [← Nat.add_mul,← Nat.add_mul];congr 1;omega
    · simp only [Array.toList_append]
      rw [← XI (hlt.append hlz),Wk,hrz]
      exact List.take_left
  unfold Oper.does
  have:(execOp a.eval ⟨some d,.call ⟨.builtin .append,#[x,y],#[t,tn]⟩,ty,pos,af,gd⟩).run P w=.ok (.value (.slice (some ⟨w.heap.size,0,none⟩) (j+k) (grownCap w (j+k) c E))) (w.drew.alloc (.cells ((YH (rows.take j)).toArray++Builtin.zeroCells z.cells k++Builtin.zeroCells z.cells (grownCap w (j+k) c E-(j+k))) E)):=by
    simp only [execOp,resolve]
    simp only [invoke,builtin]
    have e1:#[x,y].map a.eval=#[.slice (some ⟨b,0,Option.none⟩) j c,.int .i64 (k:Int)]:=by simp [ha.ev hx,ha.ev hy]
    rw [e1]
    rw [Sem.run_bind]
    show (Result.ok _ w).andThen _=_
    rw [Result.andThen_ok]
    exact Vf hr
  rw [this]
  exact ⟨⟨M,_⟩,_,h2',ha.put hd _,hk _ _ _ zs hzl ho'⟩
theorem run_apart {tS tR E sz by_ b b' l c k lb cb la ca:Nat} {hs:Hp} {rows:List Segs} {cur:Array Value} {T:TypeId} {w:World} (ht:slOf P tS=some (E,sz,by_)) (ho:OSl E sz (.slice (some ⟨b,0,Option.none⟩) l c) hs rows) (hH:Rem hs H H0) (hv:(b',.cells cur T (0,0))∈H0) (hpos:0<c * sz) (hw:St M H w) :
    (Extern.SlicesOverlaps.overlaps #[tS,tS] #[tR] #[.slice (some ⟨b',0,Option.none⟩) la ca,.slice (some ⟨b,k,Option.none⟩) lb cb]).run P w=.ok (.bool false) w:=by
  obtain ⟨it,hu,hit,rfl,rfl⟩:=Vb ht
  obtain ⟨cu,rfl,_,hl,h2,h3,h4,h5⟩:=ho.inv
  have hst:=hw.perm hH.perm
  have hb:=hst.own b _ (List.mem_append_left _ (.head _))
  have hb':=hst.own b' _ (List.mem_append_right _ hv)
  have hne:b'≠b:=fun e=>by
    subst e
    have h:=hst.nodup
    rw [List.map_append,List.nodup_append] at h
    exact h.2.2 b' (by simp) b' (List.mem_map_of_mem hv) rfl
  refine Lib.run_overlaps_apart w tS tR E hu it.size (fun w=>run_sizeOf' hit) ⟨b',0,Option.none⟩ ⟨b,k,Option.none⟩ la ca lb cb hne T E cur.size cu.size ?_ ?_ (by omega) ?_ ?_
  · simp [World.shape?,hb']
  · simp [World.shape?,hb]
  · simp [World.frozen?,hb']
  · simp [World.frozen?,hb']
end
theorem Fs.foE {P:Program} {f:FuncId} {vs:List Value} {M:Mem} {R:Value→Prop} (h:Fs P f vs M R) (Hin:Hp):Fo P f vs M Hin (fun M' v=>M'=M∧R v):=fun H w hw =>
  (h (Hin++H) w hw).mono fun _ _ ⟨v,he,hs,hr⟩=>⟨v,M,he,Mem.le.refl M,hs,rfl,hr⟩
end Go.Esp
namespace Go.Esp
section
variable {P:Program} {n:Sh} {ops:Array Oper} {Q:Exit→Act→World→Prop} {rest:List Nat} {M M':Mem} {H H' H0:Hp} {e:Env} {J S:World→Prop} {A:As} {i:Nat}
  {dst:Option Tmp} {d:Tmp} {op:Op} {ty:TypeId} {pos:String} {af:Array Edge} {gd:Option (Nat×Bool)}
theorem C_is {c:Code} {Qx:Exit→Act→World→Prop} {Sx:World→Prop} (s:Nat) {u v:Value} (hs:get e s=some u) (h:u=v) (hk:C P n c Qx Sx ((s,v)::e)):C P n c Qx Sx e:=fun a w ha hw=>hk a w (ha.more (h ▸ hs)) hw
theorem C_part {c:Code} {Qx:Exit→Act→World→Prop} {Sx:World→Prop} (s:Nat) {b:Bool} (hs:get e s=some (.bool b)) (ht:b=true→C P n c Qx Sx ((s,.bool true)::e)) (hf:b=false→C P n c Qx Sx ((s,.bool false)::e)):C P n c Qx Sx e:=by
  cases b with
  | true=>exact C_is s hs rfl (ht rfl)
  | false=>exact C_is s hs rfl (hf rfl)
end
end Go.Esp
namespace Go.Esp
section
variable {P:Program} {ops:Array Oper} {Q:Exit→Act→World→Prop} {M M':Mem} {H H' H0:Hp} {e:Env}
theorem Wb {m:Nat} {ds:List Deferred} {ro:Option Nat} {id:Nat} {l:List Nat} (ws:List Nat) (hl:List.range ops.size=l) (h:XD P ⟨m,ds,ro,ws⟩ ops Q l (St M H) ⟨M,H⟩ e):C P ⟨m,ds,ro,[]⟩ (.region id ops false) Q (St M H) e :=
  fun a w ha hw=>wpIn_region (wpOps_of_WD _ (St M H) ⟨M,H⟩ a w (fun _ h=>h) hw (hl ▸ h (fun _ h=>h) a ⟨ha.size,ha.defers,ha.slot⟩))
theorem X_fhVW {n:Sh} {rest:List Nat} {J:World→Prop} {i:Nat} {dst:Option Tmp} {ty:TypeId} {pos:String} {af:Array Edge} {gd:Option (Nat×Bool)} {f:FuncId} {g:Operand} {xs:List Operand} {ats:Array TypeId} {vs caps:List Value} {Hin Hr:Hp} {R:Mem→Value→Hp→Prop} (hi:ops[i]?=some ⟨dst,.call ⟨.value g,xs.toArray,ats⟩,ty,pos,af,gd⟩) (hcl:clOf P (.call ⟨.value g,xs.toArray,ats⟩)=.eff) (hws:n.wrs.contains i=true) (hg:want ops e gd=some true)
    (hf:okFn P f=true) (hgv:ev e g=some (.func (.func f) #[] caps.toArray)) (hx:evs e xs=some vs) (hc:Fh P f (vs++caps) M Hin R) (hH:Rem Hin H Hr)
    (hd:∀ a v,Sat n e a→Sat n (putE dst v e) (a.put dst v))
    (hk:∀ v M' Hout,M.le M'→R M' v Hout→XD P n ops Q rest (St M' (Hout++Hr)) ⟨M',Hout++Hr⟩ (putE dst v e)):XD P n ops Q (i::rest) J ⟨M,H⟩ e:=by
  obtain ⟨fn,h1,h2,h3⟩:=VJ hf
  refine X_mutW hi hcl hws hg (fun a w ha hw=>does_callV h1 h2 h3 (ha.ev hgv) (by simpa using ha.evs hx) ?_)
  exact (hc Hr w (hw.perm hH.perm)).mono fun e' w' ⟨v,M',Hout,he,hm,hs,hr⟩=>⟨v,he,⟨M',Hout++Hr⟩,_,hs,hd a v ha,hk v M' Hout hm hr⟩
end
end Go.Esp
namespace Go.Esp
section
variable {P:Program} {ops:Array Oper} {cl:Nat→Cls} {Q:Exit→Act→World→Prop} {md:Region.Mode}
def Ul (ops:Array Oper) (cl:Nat→Cls) (B:Array Nat) (x i:Nat):Bool :=
  !(B.getD x 0).testBit i && (x != i) && ((B.getD i 0).testBit x || (match ops[x]?,ops[i]? with|some ox,some oi=>ox.apart ops oi && mayPass (cl x) (cl i)|_,_=>false))
def okListP (ops:Array Oper) (cl:Nat→Cls) (B:Array Nat):List Nat→Bool
  | []=>true
  | x::r=>r.all (fun i=>Ul ops cl B x i) && okListP ops cl B r
def okRegionP (ops:Array Oper) (cl:Nat→Cls) (B:Array Nat) (l0:List Nat):Bool :=
  Region.noSelect ops && okEdges ops B && okListP ops cl B l0 && (List.range ops.size).all (fun i=>l0.contains i) && l0.length == ops.size && l0.all (fun i=>decide (i<ops.size))
theorem okListP_spec {B:Array Nat}:∀ {l:List Nat},okListP ops cl B l=true→l.Pairwise (fun x i=>Ul ops cl B x i=true)
  | [],_=>.nil
  | x::r,h=>by
    simp only [okListP,Bool.and_eq_true,List.all_eq_true] at h
    exact .cons (fun i hi=>h.1 i hi) (okListP_spec h.2)
theorem WD.frontP {B:Array Nat} (hsel:Region.noSelect ops=true) {i:Nat} {oi:Oper} (hi:ops[i]?=some oi) {J:World→Prop} {A:As} {a:Act} (hSJ:∀ u,A.st u→J u) (hne:∃ w,A.st w) :
    ∀ (pre post:List Nat),(∀ x∈pre,(B.getD i 0).testBit x=false∧Ul ops cl B x i=true)→WD P ops cl Q (pre++i::post) J A a→WD P ops cl Q (i::(pre++post)) J A a:=by
  intro pre
  induction pre generalizing J A a with
  | nil=>intro post _ h;exact h
  | cons x pre ih =>
    intro post hpre h
    obtain ⟨hb,hp⟩:=hpre x (.head _)
    simp only [Ul,hb,Bool.false_or,hi,Bool.and_eq_true] at hp
    obtain ⟨_,hp⟩:=hp
    cases hox:ops[x]? with
    | none=>rw [hox] at hp;cases hp
    | some ox =>
    rw [hox] at hp
    simp only [Bool.and_eq_true] at hp
    refine WD.swap hox hi (fun cs b=>Region.noSelect_spec hsel x ox cs b hox) (fun cs b=>Region.noSelect_spec hsel i oi cs b hi) hp.1 hp.2 hSJ hne ?_
    rw [List.cons_append,VB hox] at h
    rw [VB hox]
    refine VO.mono hSJ ?_ h
    intro J' A' v hs' hn' hJ' h'
    exact ih hs' (hn' hne) post (fun y hy=>hpre y (.tail _ hy)) h'
theorem filter_splitP {R:Nat→Nat→Prop} {p:Nat→Bool} {i:Nat} (hR:∀ x,R x i→x≠i) (hR2:∀ x,R i x→x≠i):∀ {l:List Nat},i∈l→p i=true→l.Pairwise R →
    ∃ pre post,l.filter p=pre++i::post∧(∀ x∈pre,R x i∧p x=true)∧l.filter (fun j=>p j && j != i)=pre++post:=by
  intro l
  induction l with
  | nil=>intro h;cases h
  | cons x l ih =>
    intro hm hp hs
    rw [List.pairwise_cons] at hs
    by_cases hxi:x=i
    · subst hxi
      refine ⟨[],l.filter p,by simp [hp],by simp,?_⟩
      have:l.filter (fun j=>p j && j != x)=l.filter p:=List.filter_congr fun j hj=>by
        have hne:(j != x)=true:=by simpa using hR2 j (hs.1 j hj)
        simp [hne]
      simp [this]
    · have hm':i∈l:=by simpa [Ne.symm hxi] using hm
      obtain ⟨pre,post,h1,h2,h3⟩:=ih hm' hp hs.2
      have hlt:=hs.1 i hm'
      cases hpx:p x with
      | true =>
        refine ⟨x::pre,post,by simp [hpx,h1],?_,by simp [hpx,hxi,h3]⟩
        intro y hy
        rcases List.mem_cons.1 hy with rfl|hy
        · exact ⟨hlt,hpx⟩
        · exact h2 y hy
      | false=>exact ⟨pre,post,by simp [hpx,h1],h2,by simp [hpx,h3]⟩
def Uv (l0:List Nat) (listed:Array Bool):List Nat:=l0.filter fun i=>!listed.getD i true
theorem leftP_set {l0:List Nat} {n i:Nat} {listed:Array Bool} (hsz:listed.size=n) (hl:∀ j∈l0,j<n):Uv l0 (listed.setIfInBounds i true)=l0.filter fun j=>!listed.getD j true && j != i:=by
  refine List.filter_congr fun j hj=>?_
  have hj':=hl j hj
  by_cases hij:i=j
  · subst hij
    have:i<listed.size:=by omega
    simp [this]
  · rw [getD_set_ne true hij]
    have:(j != i)=true:=by simp;exact fun e=>hij e.symm
    simp [this]
theorem WD.soundP {ro:Option Nat} {B:Array Nat} {l0:List Nat} (hok:okRegionP ops cl B l0=true):∀ (n:Nat) (listed:Array Bool),Closed ops listed→(Uv l0 listed).length=n→∀ (J:World→Prop) (A:As) (a:Act) (w:World),
    (∀ u,A.st u→J u)→A.st w→WD P ops cl Q (Uv l0 listed) J A a→wpAnyIn (Fr ro) 0 P .any ops Q n listed a w:=by
  have hok0:=hok
  simp only [okRegionP,Bool.and_eq_true,beq_iff_eq,List.all_eq_true,List.mem_range,List.contains_iff_mem,decide_eq_true_eq] at hok0
  obtain ⟨⟨⟨⟨⟨hsel,hedg⟩,hpr⟩,hall0⟩,hlen0⟩,hlt0⟩:=hok0
  have hpw:=okListP_spec hpr
  have hnd:l0.Nodup:=hpw.imp fun {x i} h=>by
    simp only [Ul,Bool.and_eq_true,bne_iff_ne,ne_eq] at h
    exact h.1.2
  intro n
  induction n with
  | zero =>
    intro listed hc hn J A a w hSJ hw h
    have e:Uv l0 listed=[]:=List.eq_nil_of_length_eq_zero hn
    refine ⟨?_,by rw [e] at h;exact h w hw⟩
    refine List.eq_nil_iff_forall_not_mem.2 fun i hi=>?_
    have h0:=(mem_ready.1 hi).1
    obtain ⟨o,ho,_⟩:=(mem_ready.1 hi).2
    have:i∈Uv l0 listed:=List.mem_filter.2 ⟨hall0 i (Array.getElem?_eq_some_iff.1 ho).1,by simp only [h0];rfl⟩
    rw [e] at this;cases this
  | succ n ih =>
    intro listed hc hn J A a w hSJ hw h
    have hstep:∀ i∈Region.ready .any ops listed,wpOpIn (Fr ro) 0 P ops Q i (wpAnyIn (Fr ro) 0 P .any ops Q n (listed.setIfInBounds i true)) a w:=by
      intro i hi
      obtain ⟨h0,oi,hoi,hall⟩:=mem_ready.1 hi
      have hilt:=(Array.getElem?_eq_some_iff.1 hoi).1
      obtain ⟨pre,post,e1,e2,e3⟩:=filter_splitP (R:=fun x i=>Ul ops cl B x i=true) (p:=fun i=>!listed.getD i true) (i:=i) (fun x hx=>by
        simp only [Ul,Bool.and_eq_true,bne_iff_ne,ne_eq] at hx;exact hx.1.2) (fun x hx=>by
        simp only [Ul,Bool.and_eq_true,bne_iff_ne,ne_eq] at hx;exact fun e=>hx.1.2 e.symm) (hall0 i hilt) (by simp only [h0];rfl) hpw
      have hpre:∀ x∈pre,(B.getD i 0).testBit x=false∧Ul ops cl B x i=true:=by
        intro x hx
        refine ⟨?_,(e2 x hx).1⟩
        cases hb:(B.getD i 0).testBit x with
        | false=>rfl
        | true =>
          have h1:=okEdges_spec hedg hc i i x (Nat.le_refl _) hb (.inr ⟨oi,hoi,hall⟩) hilt
          have h2:=(e2 x hx).2
          have hxm:x∈l0:=(List.mem_filter.1 (show x∈Uv l0 listed by rw [show Uv l0 listed=pre++i::post from e1];exact List.mem_append_left _ hx)).1
          have hxlt:x<listed.size:=by rw [hc.size];exact hlt0 x hxm
          simp [hxlt] at h1 h2
          rw [h1] at h2;cases h2
      have e0:Uv l0 listed=pre++i::post:=e1
      rw [e0] at h
      have h':=WD.frontP hsel hoi hSJ ⟨w,hw⟩ pre post hpre h
      have el:Uv l0 (listed.setIfInBounds i true)=pre++post:=by rw [leftP_set hc.size hlt0];exact e3
      have hlen:(Uv l0 (listed.setIfInBounds i true)).length=n:=by
        rw [el];rw [e0] at hn;simp at hn ⊢;omega
      rw [VB hoi] at h'
      unfold wpOpIn
      simp only [hoi]
      rcases h' with ⟨hwt,hk⟩|⟨hwt,hk⟩
      · simp only [hwt,Bool.false_eq_true,if_false]
        exact ⟨fun _ _=>trivial,ih _ (hc.set hi) hlen J A _ w hSJ hw (by rw [el];exact hk)⟩
      · simp only [hwt,if_true]
        cases hcl:cl i <;> simp only [hcl] at hk
        · obtain ⟨v,hv,hk⟩:=hk
          exact Runs.wpIn (hv w) (ih _ (hc.set hi) hlen J A _ w hSJ hw (by rw [el];exact hk))
        · obtain ⟨v,hv,hk⟩:=hk
          exact Runs.wpIn (hv w (hSJ w hw)) (ih _ (hc.set hi) hlen J A _ w hSJ hw (by rw [el];exact hk))
        · exact Oper.wpIn_of_does (Oper.does_mono (fun v w' ⟨A',s1,s2,hk⟩=>ih _ (hc.set hi) hlen J A' _ w' s2 s1 (by rw [el];exact hk)) (hk [] w hw))
        · exact Oper.wpIn_of_does (Oper.does_mono (fun v w' ⟨J',A',s1,s2,hk⟩=>ih _ (hc.set hi) hlen J' A' _ w' s2 s1 (by rw [el];exact hk)) (hk w hw))
        · obtain ⟨xo,gx,hxo,hk⟩:=hk
          have hn:St A.M ((w.heap.size,xo)::A.H) (w.alloc xo):=St.alloc hw xo
          exact Oper.wpIn_of_does (hxo.does (ih _ (hc.set hi) hlen J ⟨A.M,(w.heap.size,xo)::A.H⟩ _ _ (fun u hu=>hSJ u (St.tail hu)) hn (by rw [el];exact hk _ ⟨_,hn⟩)))
    refine ⟨fun h0=>?_,hstep⟩
    -- something is left, so something is ready: the first one that is left
    exfalso
    obtain ⟨i,rest,e⟩:∃ i rest,Uv l0 listed=i::rest:=by
      cases hl:Uv l0 listed with
      | nil=>rw [hl] at hn;cases hn
      | cons i rest=>exact ⟨i,rest,rfl⟩
    have hmem:i∈Uv l0 listed:=by rw [e];exact .head _
    obtain ⟨hr,hun⟩:=List.mem_filter.1 hmem
    have hilt:=hlt0 i hr
    have h1:=List.all_eq_true.1 hedg i (List.mem_range.2 hilt)
    obtain ⟨oi,hoi⟩:∃ oi,ops[i]?=some oi:=⟨ops[i],Array.getElem?_eq_getElem hilt⟩
    simp only [hoi,Bool.and_eq_true,beq_iff_eq] at h1
    have hsorted:(Uv l0 listed).Pairwise (fun x i=>Ul ops cl B x i=true):=List.Pairwise.filter _ hpw
    rw [e] at hsorted
    have:i∈Region.ready .any ops listed:=mem_ready.2 ⟨by simpa using hun,oi,hoi,fun ed hed hbe=>by
      cases hl:listed.getD ed.on false with
      | true=>rfl
      | false =>
        exfalso
        have hlt:ed.on<i:=by simpa [hbe] using (Array.all_eq_true_iff_forall_mem.1 h1.1) ed hed
        have hjs:ed.on<listed.size:=by rw [hc.size];omega
        have hjm:ed.on∈Uv l0 listed:=List.mem_filter.2 ⟨hall0 _ (by omega),by simp [hjs] at hl ⊢;exact hl⟩
        rw [e] at hjm
        rcases List.mem_cons.1 hjm with he|hjm
        · omega
        · have h2:=(List.pairwise_cons.1 hsorted).1 _ hjm
          simp only [Ul,Bool.and_eq_true,Bool.not_eq_true'] at h2
          have h3:=h2.1.1
          rw [h1.2,← Array.foldl_toList] at h3
          have hin:∀ (l:List Edge) (s:Nat),ed∈l→(l.foldl (fun s e=>if Region.binds .any e then s ||| 2 ^ e.on ||| B.getD e.on 0 else s) s).testBit ed.on=true:=by
            have hkeep:∀ (l:List Edge) (s k:Nat),s.testBit k=true→(l.foldl (fun s e=>if Region.binds .any e then s ||| 2 ^ e.on ||| B.getD e.on 0 else s) s).testBit k=true:=by
              intro l
              induction l with
              | nil=>intro s k h;exact h
              | cons y l ih2 =>
                intro s k h
                rw [List.foldl_cons]
                refine ih2 _ k ?_
                split
                · rw [Nat.testBit_or,Nat.testBit_or,h];rfl
                · exact h
            intro l
            induction l with
            | nil=>intro s h;cases h
            | cons y l ih2 =>
              intro s h
              rw [List.foldl_cons]
              rcases List.mem_cons.1 h with rfl|h
              · refine hkeep _ _ _ ?_
                rw [if_pos hbe,Nat.testBit_or,Nat.testBit_or,Nat.testBit_two_pow_self]
                simp
              · exact ih2 _ h
          rw [hin _ _ (Array.mem_toList_iff.2 hed)] at h3
          cases h3⟩
    rw [h0] at this;cases this
theorem wp_region_WDP {ro:Option Nat} {id:Nat} {a:Act} {w:World} {B:Array Nat} {l0:List Nat} (hm:P.follows .mixedOrders=true) (hok:okRegionP ops cl B l0=true) {J:World→Prop} {A:As} (hSJ:∀ u,A.st u→J u)
    (hw:A.st { w with drawn:=w.drawn+1 }) (h:WD P ops cl Q l0 J A a):(Code.region id ops true).wpIn (Fr ro) 0 P Q a w:=by
  have hok0:=hok
  simp only [okRegionP,Bool.and_eq_true,beq_iff_eq] at hok0
  have hlt:∀ (k:Nat),(Array.replicate ops.size false).getD k false=false:=fun k=>by
    rcases Nat.lt_or_ge k ops.size with h'|h' <;> simp [h']
  have h9:∀ j∈l0,j<ops.size:=by
    have:=hok0.2
    simp only [List.all_eq_true,decide_eq_true_eq] at this
    exact this
  have estart:Uv l0 (Array.replicate ops.size false)=l0:=List.filter_eq_self.2 fun i hi=>by
    have:=h9 i hi
    simp [this]
  refine wpIn_region_any hm (WD.soundP hok ops.size _ ⟨by simp,fun j oj hj hl=>by rw [hlt] at hl;cases hl⟩ (by rw [estart];exact hok0.1.2) J A a _ hSJ hw (by rw [estart];exact h))
theorem C_region_anyP {M:Mem} {H:Hp} {e:Env} {m:Nat} {ds:List Deferred} {ro:Option Nat} {id:Nat} (l:List Nat) (ws:List Nat) (B:Array Nat) (J:World→Prop) (hm:P.follows .mixedOrders=true) (hok:okRegionP ops (VV P ws ops) B l=true)
    (hdr:∀ w:World,St M H w→St M H { w with drawn:=w.drawn+1 }) (hJ:∀ u,St M H u→J u) (h:XD P ⟨m,ds,ro,ws⟩ ops Q l J ⟨M,H⟩ e):C P ⟨m,ds,ro,[]⟩ (.region id ops true) Q (St M H) e :=
  fun a w ha hw=>wp_region_WDP (A:=⟨M,H⟩) hm hok hJ (hdr w hw) (h hJ a ⟨ha.size,ha.defers,ha.slot⟩)
end
end Go.Esp
namespace Go.Esp
section
variable {P:Program} {ops:Array Oper} {Q:Exit→Act→World→Prop} {M M':Mem} {H H' H0:Hp} {e:Env}
theorem X_fhW2 {n:Sh} {rest:List Nat} {J:World→Prop} {i:Nat} {dst:Option Tmp} {ty:TypeId} {pos:String} {af:Array Edge} {gd:Option (Nat×Bool)} {f:FuncId} {xs:List Operand} {ats:Array TypeId} {vs:List Value} {Hin Hin2 H1 Hr:Hp} {R:Mem→Value→Hp→Prop} (hi:ops[i]?=some ⟨dst,.call ⟨.value (.func f),xs.toArray,ats⟩,ty,pos,af,gd⟩) (hws:n.wrs.contains i=true) (hg:want ops e gd=some true)
    (hf:okFn P f=true) (hx:evs e xs=some vs) (hc:Fh P f vs M (Hin++Hin2) R) (hH:Rem Hin H H1) (hH2:Rem Hin2 H1 Hr)
    (hd:∀ a v,Sat n e a→Sat n (putE dst v e) (a.put dst v))
    (hk:∀ v M' Hout,M.le M'→R M' v Hout→XD P n ops Q rest (St M' (Hout++Hr)) ⟨M',Hout++Hr⟩ (putE dst v e)):XD P n ops Q (i::rest) J ⟨M,H⟩ e:=by
  obtain ⟨fn,h1,h2,h3⟩:=VJ hf
  have hP:H.Perm ((Hin++Hin2)++Hr):=(hH.perm.trans (hH2.perm.append_left Hin)).trans (List.append_assoc _ _ _ ▸ List.Perm.refl _)
  refine X_mutW hi rfl hws hg (fun a w ha hw=>does_call h1 h2 h3 (by simpa using ha.evs hx) ?_)
  exact (hc Hr w (hw.perm hP)).mono fun e' w' ⟨v,M',Hout,he,hm,hs,hr⟩=>⟨v,he,⟨M',Hout++Hr⟩,_,hs,hd a v ha,hk v M' Hout hm hr⟩
theorem C_region_anyPR {m:Nat} {ds:List Deferred} {ro:Option Nat} {Hin Hr:Hp} {id:Nat} (l:List Nat) (ws:List Nat) (B:Array Nat) (hR:Rem Hin H Hr) (hm:P.follows .mixedOrders=true) (hok:okRegionP ops (VV P ws ops) B l=true)
    (h:XD P ⟨m,ds,ro,ws⟩ ops Q l (St M Hr) ⟨M,H⟩ e):C P ⟨m,ds,ro,[]⟩ (.region id ops true) Q (St M H) e :=
  C_region_anyP l ws B (St M Hr) hm hok St.drawn (fun _ hw=>(hw.perm hR.perm).suf (Suf.app Hin Hr)) h
end
end Go.Esp
namespace Go.Esp
section
variable {P:Program} {n:Sh} {ops:Array Oper} {Q:Exit→Act→World→Prop} {rest:List Nat} {M M':Mem} {H H' H0:Hp} {e:Env} {J:World→Prop} {i:Nat} {ty:TypeId} {pos:String} {af:Array Edge} {gd:Option (Nat×Bool)}
theorem drop_all:∀ (r:Segs),r.all (fun s=>Nat.ble 1 s.len)=true→Segs.drop r (Segs.len r)=some []
  | [],_=>rfl
  | s::r,h=>by
    simp only [List.all_cons,Bool.and_eq_true] at h
    have h1:=Nat.le_of_ble_eq_true h.1
    obtain ⟨k,hk⟩:∃ k,s.len=k+1:=⟨s.len-1,by omega⟩
    have h2:=drop_all r h.2
    have e:Segs.len (s::r)=k+Segs.len r+1:=by simp only [Segs.len];omega
    have hb:Nat.ble s.len (k+Segs.len r+1)=true:=Nat.ble_eq_true_of_le (by omega)
    rw [e];unfold Segs.drop
    rw [hb,hk]
    show Segs.drop r (k+Segs.len r+1-(k+1))=some []
    rw [show k+Segs.len r+1-(k+1)=Segs.len r by omega];exact h2
theorem VT {r t:Segs} {m:Nat} (h:r.all (fun s=>Nat.ble 1 s.len)=true) (hr:Segs.len r=m) (ht:Segs.len t=m):Segs.put r 0 t=some t:=by
  have e:Segs.put r 0 t=match Segs.drop r (Segs.len t) with
    | some u=>some (t++u)
    | none=>none:=by cases r <;> rfl
  rw [e,ht,← hr,drop_all r h];simp
theorem imO_nil:imO (.map #[] 0) []:=⟨#[],0,rfl,rfl⟩
theorem Vq {t k el:TypeId} {x y u:Operand} {b:Nat} {z:Int} {v:Value} {o:Obj} {l:IM} (hi:ops[i]?=some ⟨none,.insert t x y u,ty,pos,af,gd⟩) (hg:want ops e gd=some true)
    (hx:ev e x=some (.map (some b))) (hy:ev e y=some (.int .i64 z)) (hu:ev e u=some v) (ht:mapOf P t=some (k,el)) (ho:imO o l) (hb:(b,o)∈H)
    (hk:∀ o',imO o' (VX l z v)→∃ H2,Upd b o o' H H2∧XD P n ops Q rest (St M H2) ⟨M,H2⟩ e) (hnw:n.wrs.contains i=false:=by rfl):XD P n ops Q (i::rest) J ⟨M,H⟩ e:=by
  refine X_mut hi rfl hg (fun a w ha hw=>?_) hnw
  have hb:=hw.own b o hb
  obtain ⟨o',hr,ho'⟩:=run_mapUpdate' (P:=P) (z:=z) (v:=v) ht hb ho
  unfold Oper.does
  have:(execOp a.eval ⟨none,.insert t x y u,ty,pos,af,gd⟩).run P w=.ok .skip { w with heap:=w.heap.setIfInBounds b o' }:=by
    simp only [execOp,ha.ev hx,ha.ev hy,ha.ev hu]
    rw [Xd hr];rfl
  rw [this]
  obtain ⟨H2,hH,hk⟩:=hk o' ho'
  exact ⟨⟨M,H2⟩,e,St.upd hw hH (setIn_self hb) (fun c hc q hq=>by rw [setIn_other hc];exact hq) (VR.refl _),ha,hk⟩
end
end Go.Esp
namespace Go.Esp
section
variable {P:Program} {n:Sh} {ops:Array Oper} {Q:Exit→Act→World→Prop} {rest:List Nat} {M M':Mem} {H H' H0:Hp} {e:Env} {J S:World→Prop} {A:As} {i:Nat}
  {dst:Option Tmp} {d:Tmp} {op:Op} {ty:TypeId} {pos:String} {af:Array Edge} {gd:Option (Nat×Bool)}
theorem Xg {t:TypeId} {x y:Operand} {b:Nat} {agg:Bool} {r q:Segs} {T:TypeId} {v:Value} (hl:lay P t=some (agg,78)) (hk:XD P n ops Q rest (St M H') ⟨M,H'⟩ e) (hi:ops[i]?=some ⟨none,.store t x y,ty,pos,af,gd⟩:=by exact rfl) (hg:want ops e gd=some true:=by exact rfl) (hx:ev e x=some (.pointer (some ⟨b,0,none⟩)):=by exact rfl) (hy:ev e y=some v:=by exact rfl) (hp:VN v q:=by constructor) (hq:flat q:=by (try simp only [cat,List.cons_append,List.nil_append,List.append_nil]);(repeat (first|exact XG|refine XN ?_|(refine YU ?_ ?_;rfl)));done) (hu:Upd b (rowO r T) (rowO q T) H H':=by repeat first|exact Upd.head|apply Upd.tail|apply Upd.over) (hn:Segs.len q=78:=by simp only [ZF.segs,ZQ.segs,ZR.segs,ZP.segs,Yr.segs,ZW.segs,YQ.segs,Yc.segs,cat,List.append_eq,List.cons_append,List.nil_append,List.append_nil,Segs.len,Seg.len,Yt]) (ha:r.all (fun s=>Nat.ble 1 s.len)=true:=by exact rfl) (hr:Segs.len r=78:=by simp only [ZF.segs,ZQ.segs,ZR.segs,ZP.segs,Yr.segs,ZW.segs,YQ.segs,Yc.segs,cat,List.append_eq,List.cons_append,List.nil_append,List.append_nil,Segs.len,Seg.len,Yt]) (hnw:n.wrs.contains i=false:=by rfl):XD P n ops Q (i::rest) J ⟨M,H⟩ e :=
  X_store hi hg hx hy hp hq hu hl hn (VT ha hr hn) hk hnw
end
end Go.Esp
namespace Go.Esp
section
variable {P:Program} {n:Sh} {ops:Array Oper} {Q:Exit→Act→World→Prop} {rest:List Nat} {M M':Mem} {H H' H0:Hp} {e:Env} {J S:World→Prop} {A:As} {i:Nat}
  {dst:Option Tmp} {d:Tmp} {op:Op} {ty:TypeId} {pos:String} {af:Array Edge} {gd:Option (Nat×Bool)}
def byteVs (s:ByteArray):List Value:=s.data.toList.map fun b=>.int .u8 (b.toNat:Int)
theorem X_fsV {f:FuncId} {g:Operand} {xs:List Operand} {ats:Array TypeId} {vs:List Value} {R:Value→Prop} (hi:ops[i]?=some ⟨some d,.call ⟨.value g,xs.toArray,ats⟩,ty,pos,af,gd⟩) (hcl:clOf P (.call ⟨.value g,xs.toArray,ats⟩)=.eff) (hg:want ops e gd=some true)
    (hf:okFn P f=true) (hgv:ev e g=some (.func (.func f) #[] #[])) (hx:evs e xs=some vs) (hc:Fs P f vs M R) (hd:Nat.ble (d+1) n.sz=true)
    (hk:∀ v,R v→XD P n ops Q rest J ⟨M,H⟩ ((d,v)::e)):XD P n ops Q (i::rest) J ⟨M,H⟩ e:=by
  obtain ⟨fn,h1,h2,h3⟩:=VJ hf
  refine X_eff hi hcl hg (fun a F w ha hw=>does_callV (caps:=[]) h1 h2 h3 (ha.ev hgv) (by simpa using ha.evs hx) ?_)
  have:=hc (F++H) w hw
  rw [List.append_nil]
  exact this.mono fun e' w' ⟨v,he,hs,hr⟩=>⟨v,he,⟨M,H⟩,_,hs,fun _ h=>h,ha.put hd v,hk v hr⟩
def arOfN (P:Program) (t:TypeId):Option (Nat×TypeId×Nat):=match P.underlying t with
  | some (.array k el)=>match P.info? el with
    | some i=>some (k,el,i.size)
    | none=>none
  | _=>none
def u8R (n:Nat):Segs:=[.one (.int .u8 (n:Int))]
end
def natsOf (s:ByteArray):List Nat:=s.data.toList.map fun b=>b.toNat
def u32R (n:Nat):Segs:=[.one (.int .u32 (n:Int))]
end Go.Esp
