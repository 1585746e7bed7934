/-
  Texts of this claim, one behind the other: E9, InsL, E10, E11, E12, E13, E14, TableX, NodeX, F1, F2.
-/
import Derived.Test.YtajmnjefajknoaaGreatQL25
import Derived.KernelRfl
set_option linter.unusedSimpArgs false
set_option linter.unusedVariables false
set_option linter.unnecessarySimpa false
set_option maxRecDepth 8000
set_option maxHeartbeats 1000000
namespace Go.Proofs.YtajmnjefajknoaaGreat
open Go.Esp
theorem F.ok102:okFn Tryz.prog 102=true:=by kernel_rfl
theorem F.ok53:okFn Tryz.prog 53=true:=by kernel_rfl
theorem end_ok (M:Mem) (bw:Nat) (Za:Int) (Zb:Plc) (Zf:Int) (Zh:Plc) (Zj Ze Zu:Option Addr) (Zi Zd Zt:Nat) (Zg Zc:List ZF) (Zl:List Int) (Zr:Int) (Zs:Bool) (ZH Zv ZT ZC ZA Zw Zq Zy Zp:Int) (Zz:Plc) (ZG ZJ:Int) (Yv:ZQ.ok M ⟨⟨Za,Zb⟩,⟨Zf,Zh⟩,⟨Zj,Zi,Zg⟩,⟨Ze,Zd,Zc⟩⟩) (Yz:SlK M (oneI .i64) 1 ⟨Zu,Zt,Zl⟩) (p:ZF):Fh Tryz.prog 102 [.pointer (some ⟨bw,0,none⟩),p.enc] M [(bw,rowO (ZW.segs ⟨⟨⟨⟨Za,Zb⟩,⟨Zf,Zh⟩,⟨Zj,Zi,Zg⟩,⟨Ze,Zd,Zc⟩⟩,Zr,Zs,ZH,Zv,ZT,ZC,ZA,Zw,Zq,Zy,Zp,Zz,⟨Zu,Zt,Zl⟩,ZG,ZJ⟩,⟨none,0,[]⟩⟩) 68)] (fun M' v Hout=>v=.tuple #[]∧∃ n9:ZR,Hout=[(bw,rowO (ZW.segs ⟨n9,⟨none,0,[]⟩⟩) 68)]∧ZR.ok M' n9∧n9.nd=endN (ZR.nd ⟨⟨⟨Za,Zb⟩,⟨Zf,Zh⟩,⟨Zj,Zi,Zg⟩,⟨Ze,Zd,Zc⟩⟩,Zr,Zs,ZH,Zv,ZT,ZC,ZA,Zw,Zq,Zy,Zp,Zz,⟨Zu,Zt,Zl⟩,ZG,ZJ⟩) p):=by
  obtain ⟨Xa,p_id⟩:=p
  refine Wt (fun H=>(bw,rowO (ZW.segs ⟨⟨⟨⟨Za,Zb⟩,⟨Zf,Zh⟩,⟨Zj,Zi,Zg⟩,⟨Ze,Zd,Zc⟩⟩,Zr,Zs,ZH,Zv,ZT,ZC,ZA,Zw,Zq,Zy,Zp,Zz,⟨Zu,Zt,Zl⟩,ZG,ZJ⟩,⟨none,0,[]⟩⟩) 68)::H) (fun _=>by simp only [List.append_assoc,List.cons_append,List.nil_append]) Tryz.func102 rfl Tryz.ntmps102 rfl ?_;intro H
  refine ZK (Zm (l:=[0]) rfl ?_)
  refine Xk ?_;intro b1
  refine Zo (Zn (Y_pk [3,0] ?_));refine Xc (ZK (YK (l:=[0,1,2,3,4,5,6,7,8,9,10,11,12,13,14,15,16,17,18,19,20]) #[0,1,3,7,15,31,63,63,255,511,1023,1023,3071,7167,15359,31743,64511,131071,262143,524287,1048575] _ rfl (by kernel_rfl) (by kernel_rfl) St.drawn (fun _ h=>h) ?_));refine Zx ?_;refine Yn ?_;refine Zk F.foff68_0 ?_;refine Zk F.foff32_2 ?_;refine ZD F.lay4 ?_;refine Zx ?_
  refine Yj 10 rfl (fun hc2=>?_) (fun hc2=>?_)
  ·skip
   refine Zx ?_;refine ZD F.lay25 ?_;refine X_fo rfl rfl F.ok53 rfl (wother_ok M bw Za Zb Zf Zh Zj Ze Zu Zi Zd Zt Zg Zc Zl Zr Zs ZH Zv ZT ZC ZA Zw Zq Zy Zp Zz ZG ZJ ⟨Xa,p_id⟩) (by repeat first|exact Rem.here _|exact Rem.two|apply Rem.skip|apply Rem.over) (YV rfl) ?_
   rintro _ M1 _ ⟨hM1,rfl⟩;subst M1
   refine Zx ?_
   refine Yj 14 rfl (fun hc3=>?_) (fun hc3=>?_)
   ·replace hc3:=dT hc3
    iterate 8 refine Ya ?_
    iterate 2 refine ZO ?_
    refine ZB ?_;refine Zo (Zn (Y_pk [4,3,0] ?_));refine Xi rfl ?_;refine Wb (l:=[0,1,2]) [2] rfl ?_;refine Zx ?_;refine ZD F.lay25 ?_;refine Vp rfl rfl rfl F.ok87 rfl (point_ok M bw Za Zb Zf Zh Zj Ze Zu Zi Zd Zt Zg Zc Zl Zr Zs ZH Zv ZT ZC ZA Zw Zq Zy Zp Zz ZG ZJ Yv ⟨Xa,p_id⟩) (by repeat first|exact Rem.here _|exact Rem.two|apply Rem.skip|apply Rem.over) (YV rfl) ?_
    rintro _ M1 hs1 hm1 ⟨rfl,⟨⟨wa,wi⟩,⟨wq,wj⟩,⟨w1a,w1c,w1l⟩,⟨w2a,w2c,w2l⟩⟩,c9,rfl,okl,hv1⟩
    simp only [List.append_assoc,List.cons_append,List.nil_append]
    refine Zo (WP ?_);refine XR ?_
    refine Yk (.inl rfl) (.nil) (fun w hw=>?_)
    (refine ⟨_,M1,[(bw,rowO (ZW.segs ⟨⟨⟨⟨wa,wi⟩,⟨wq,wj⟩,⟨w1a,w1c,w1l⟩,⟨w2a,w2c,w2l⟩⟩,Zr,Zs,ZH,c9,ZT,ZC,ZA,Zw,Zq,Zy,Zp,Zz,⟨Zu,Zt,Zl⟩,ZG,ZJ⟩,⟨none,0,[]⟩⟩) 68)],rfl,hm1,?_,rfl,⟨⟨⟨wa,wi⟩,⟨wq,wj⟩,⟨w1a,w1c,w1l⟩,⟨w2a,w2c,w2l⟩⟩,Zr,Zs,ZH,c9,ZT,ZC,ZA,Zw,Zq,Zy,Zp,Zz,⟨Zu,Zt,Zl⟩,ZG,ZJ⟩,rfl,⟨okl,Yz.mono hm1⟩,hv1.trans (end_point (n:=(ZR.nd ⟨⟨⟨Za,Zb⟩,⟨Zf,Zh⟩,⟨Zj,Zi,Zg⟩,⟨Ze,Zd,Zc⟩⟩,Zr,Zs,ZH,Zv,ZT,ZC,ZA,Zw,Zq,Zy,Zp,Zz,⟨Zu,Zt,Zl⟩,ZG,ZJ⟩)) (show Zs=true by first|assumption|(simp_all;done)) (show Xn ⟨Za,Zb⟩ ⟨Xa,p_id⟩∨(⟨Xa,p_id⟩:ZF)=⟨Za,Zb⟩ by first|exact .inl (by assumption)|exact .inr (by assumption))).symm⟩;simp only [ZW.segs,Sl.val,List.length_nil] at hw ⊢;exact hw.c)
   ·replace hc3:=dF hc3
    refine ZD F.lay25 ?_;refine Zx ?_;refine Yn ?_;refine Zk F.foff68_0 ?_;refine Zk F.foff32_0 ?_;refine Zk F.foff28_0 ?_;refine ZD F.lay25 ?_
    refine WF (m:=20) rfl rfl rfl rfl rfl (by constructor) (by constructor) F.lay25 F.kinds25 rfl F.guard25 (by exact XL (⟨_,_⟩)) (by exact XL (⟨_,_⟩)) rfl rfl rfl ?_;intro c4 he5
    replace he5:c4=true↔Segs.cells _=Segs.cells _:=he5
    obtain rfl:=eqD he5 (ZF.inj (x:=⟨_,_⟩) (y:=⟨_,_⟩));clear he5
    iterate 2 refine ZO ?_
    refine ZB ?_;refine Zo (Zn (Y_pk [4,3,0] ?_))
    refine YA rfl (fun hc6=>?_) (fun hc6=>?_)
    ·replace hc6:=dT hc6
     refine Wb (l:=[0,1,2]) [2] rfl ?_;refine Zx ?_;refine ZD F.lay25 ?_;refine Vp rfl rfl rfl F.ok87 rfl (point_ok M bw Za Zb Zf Zh Zj Ze Zu Zi Zd Zt Zg Zc Zl Zr Zs ZH Zv ZT ZC ZA Zw Zq Zy Zp Zz ZG ZJ Yv ⟨Xa,p_id⟩) (by repeat first|exact Rem.here _|exact Rem.two|apply Rem.skip|apply Rem.over) (YV rfl) ?_
     rintro _ M1 hs1 hm1 ⟨rfl,⟨⟨wa,wi⟩,⟨wq,wj⟩,⟨w1a,w1c,w1l⟩,⟨w2a,w2c,w2l⟩⟩,c9,rfl,okl,hv1⟩
     simp only [List.append_assoc,List.cons_append,List.nil_append]
     refine Zo (WP ?_);refine XR ?_
     refine Yk (.inl rfl) (.nil) (fun w hw=>?_)
     (refine ⟨_,M1,[(bw,rowO (ZW.segs ⟨⟨⟨⟨wa,wi⟩,⟨wq,wj⟩,⟨w1a,w1c,w1l⟩,⟨w2a,w2c,w2l⟩⟩,Zr,Zs,ZH,c9,ZT,ZC,ZA,Zw,Zq,Zy,Zp,Zz,⟨Zu,Zt,Zl⟩,ZG,ZJ⟩,⟨none,0,[]⟩⟩) 68)],rfl,hm1,?_,rfl,⟨⟨⟨wa,wi⟩,⟨wq,wj⟩,⟨w1a,w1c,w1l⟩,⟨w2a,w2c,w2l⟩⟩,Zr,Zs,ZH,c9,ZT,ZC,ZA,Zw,Zq,Zy,Zp,Zz,⟨Zu,Zt,Zl⟩,ZG,ZJ⟩,rfl,⟨okl,Yz.mono hm1⟩,hv1.trans (end_point (n:=(ZR.nd ⟨⟨⟨Za,Zb⟩,⟨Zf,Zh⟩,⟨Zj,Zi,Zg⟩,⟨Ze,Zd,Zc⟩⟩,Zr,Zs,ZH,Zv,ZT,ZC,ZA,Zw,Zq,Zy,Zp,Zz,⟨Zu,Zt,Zl⟩,ZG,ZJ⟩)) (show Zs=true by first|assumption|(simp_all;done)) (show Xn ⟨Za,Zb⟩ ⟨Xa,p_id⟩∨(⟨Xa,p_id⟩:ZF)=⟨Za,Zb⟩ by first|exact .inl (by assumption)|exact .inr (by assumption))).symm⟩;simp only [ZW.segs,Sl.val,List.length_nil] at hw ⊢;exact hw.c)
    ·replace hc6:=dF hc6
     refine ZK (Zm (l:=[0,1,2,3,4,5,6,7,8,9,10,11]) rfl ?_);refine Zx ?_;refine Yn ?_;refine Zk F.foff68_0 ?_;refine Zk F.foff32_2 ?_;refine ZD F.lay4 ?_;refine Xj ?_;refine Zx ?_
     refine Yj 35 rfl (fun hc7=>?_) (fun hc7=>?_)
     ·skip
      refine Zx ?_;refine ZD F.lay25 ?_;refine X_fo rfl rfl F.ok53 rfl (wother_ok M bw Za Zb Zf Zh Zj Ze Zu Zi Zd Zt Zg Zc Zl Zr Zs ZH Zv ZT ZC ZA Zw Zq Zy Zp Zz ZG ZJ ⟨Xa,p_id⟩) (by repeat first|exact Rem.here _|exact Rem.two|apply Rem.skip|apply Rem.over) (YV rfl) ?_
      rintro _ M1 _ ⟨hM1,rfl⟩;subst M1
      refine ZO ?_;refine ZB ?_;refine Zo (Zn (Y_pk [28,3,0] ?_))
      refine YA rfl (fun hc8=>?_) (fun hc8=>?_)
      ·replace hc8:=dT hc8
       contradiction
      ·replace hc8:=dF hc8
       refine YG (XR ?_)
       refine Yk (.inl rfl) (.nil) (fun w hw=>?_)
       (exfalso;simp_all;done)
     ·skip
      iterate 3 refine Ya ?_
      refine ZO ?_;refine ZB ?_;refine Zo (Zn (Y_pk [28,3,0] ?_));refine Wn rfl ?_;refine YG (XR ?_)
      refine Yk (.inl rfl) (.nil) (fun w hw=>?_)
      (refine ⟨_,M,[(bw,rowO (ZW.segs ⟨⟨⟨⟨Za,Zb⟩,⟨Zf,Zh⟩,⟨Zj,Zi,Zg⟩,⟨Ze,Zd,Zc⟩⟩,Zr,Zs,ZH,Zv,ZT,ZC,ZA,Zw,Zq,Zy,Zp,Zz,⟨Zu,Zt,Zl⟩,ZG,ZJ⟩,⟨none,0,[]⟩⟩) 68)],rfl,Mem.le.refl M,?_,rfl,⟨⟨⟨Za,Zb⟩,⟨Zf,Zh⟩,⟨Zj,Zi,Zg⟩,⟨Ze,Zd,Zc⟩⟩,Zr,Zs,ZH,Zv,ZT,ZC,ZA,Zw,Zq,Zy,Zp,Zz,⟨Zu,Zt,Zl⟩,ZG,ZJ⟩,rfl,⟨Yv,Yz⟩,(end_not (n:=(ZR.nd ⟨⟨⟨Za,Zb⟩,⟨Zf,Zh⟩,⟨Zj,Zi,Zg⟩,⟨Ze,Zd,Zc⟩⟩,Zr,Zs,ZH,Zv,ZT,ZC,ZA,Zw,Zq,Zy,Zp,Zz,⟨Zu,Zt,Zl⟩,ZG,ZJ⟩)) (p:=⟨Xa,p_id⟩) (fun q=>by
       have q9:Zs=true:=q
       exact ⟨show ¬Xn ⟨Za,Zb⟩ ⟨Xa,p_id⟩ by first|assumption|(exfalso;simp_all;done),show ¬(⟨Xa,p_id⟩:ZF)=⟨Za,Zb⟩ by first|assumption|(exfalso;simp_all;done)⟩) (fun q=>by
       have q9:Zs=false:=q
       (show ¬Xn ⟨Za,Zb⟩ ⟨Xa,p_id⟩;assumption))).symm⟩;simp only [ZW.segs,Sl.val,List.length_nil] at hw ⊢;exact hw.c)
  ·skip
   iterate 13 refine Ya ?_
   refine ZO ?_;refine ZB ?_;refine Zo (Zn (Y_pk [4,3,0] ?_));refine Wn rfl ?_;refine ZK (Zm (l:=[0,1,2,3,4,5,6,7,8,9,10,11]) rfl ?_);refine Zx ?_;refine Yn ?_;refine Zk F.foff68_0 ?_;refine Zk F.foff32_2 ?_;refine ZD F.lay4 ?_;refine Xj ?_;refine Zx ?_
   refine Yj 35 rfl (fun hc9=>?_) (fun hc9=>?_)
   ·skip
    refine Zx ?_;refine ZD F.lay25 ?_;refine X_fo rfl rfl F.ok53 rfl (wother_ok M bw Za Zb Zf Zh Zj Ze Zu Zi Zd Zt Zg Zc Zl Zr Zs ZH Zv ZT ZC ZA Zw Zq Zy Zp Zz ZG ZJ ⟨Xa,p_id⟩) (by repeat first|exact Rem.here _|exact Rem.two|apply Rem.skip|apply Rem.over) (YV rfl) ?_
    rintro _ M1 _ ⟨hM1,rfl⟩;subst M1
    refine ZO ?_;refine ZB ?_;refine Zo (Zn (Y_pk [28,3,0] ?_))
    refine YA rfl (fun hc10=>?_) (fun hc10=>?_)
    ·replace hc10:=dT hc10
     refine ZK (Wb (l:=[0,1,2]) [2] rfl ?_);refine Zx ?_;refine ZD F.lay25 ?_;refine Vp rfl rfl rfl F.ok82 rfl (adopt_ok M bw Za Zb Zf Zh Zj Ze Zu Zi Zd Zt Zg Zc Zl Zr Zs ZH Zv ZT ZC ZA Zw Zq Zy Zp Zz ZG ZJ Yv ⟨Xa,p_id⟩ ⟨none,0,[]⟩ SlK.nil) (by repeat first|exact Rem.here _|exact Rem.two|apply Rem.skip|apply Rem.over) (YV rfl) ?_
     rintro _ M1 hs1 hm1 ⟨rfl,⟨⟨wa,wi⟩,⟨wq,wj⟩,⟨w1a,w1c,w1l⟩,⟨w2a,w2c,w2l⟩⟩,rfl,okl,hv1⟩
     simp only [List.append_assoc,List.cons_append,List.nil_append]
     refine Zo (WP ?_);refine Zn (Y_pk [0] ?_);refine Zm (l:=[0,1,2,3,4,5,6,7,8,9,10,11,12,13,14]) rfl ?_
     iterate 3 refine Zx ?_
     refine Yn ?_;refine Zk F.foff68_0 ?_;refine Zk F.foff32_2 ?_;refine Yh F.lay4 ?_;refine Yn ?_;refine Zk F.foff68_0 ?_;refine Zk F.foff32_4 ?_;refine Yh F.lay3 ?_;refine Yn ?_;refine Zk F.foff68_0 ?_;refine Zk F.foff32_13 ?_;refine Yh F.lay30 ?_;refine Zo (XR ?_)
     refine Yk (.inl rfl) (.nil) (fun w hw=>?_)
     (refine ⟨_,M1,[(bw,rowO (ZW.segs ⟨⟨⟨⟨wa,wi⟩,⟨wq,wj⟩,⟨w1a,w1c,w1l⟩,⟨w2a,w2c,w2l⟩⟩,Zr,true,ZH,0,ZT,ZC,ZA,Zw,Zq,Zy,Zp,Zz,⟨none,0,[]⟩,ZG,ZJ⟩,⟨none,0,[]⟩⟩) 68)],rfl,hm1,?_,rfl,⟨⟨⟨wa,wi⟩,⟨wq,wj⟩,⟨w1a,w1c,w1l⟩,⟨w2a,w2c,w2l⟩⟩,Zr,true,ZH,0,ZT,ZC,ZA,Zw,Zq,Zy,Zp,Zz,⟨none,0,[]⟩,ZG,ZJ⟩,rfl,⟨okl,SlK.nil⟩,(end_adopt (n:=(ZR.nd ⟨⟨⟨Za,Zb⟩,⟨Zf,Zh⟩,⟨Zj,Zi,Zg⟩,⟨Ze,Zd,Zc⟩⟩,Zr,Zs,ZH,Zv,ZT,ZC,ZA,Zw,Zq,Zy,Zp,Zz,⟨Zu,Zt,Zl⟩,ZG,ZJ⟩)) (show Zs=false by first|assumption|(simp_all;done)) (show Xn ⟨Za,Zb⟩ ⟨Xa,p_id⟩ by assumption) hv1).symm⟩;simp only [ZW.segs,Sl.val,List.length_nil] at hw ⊢;exact hw.c)
    ·replace hc10:=dF hc10
     refine YG (XR ?_)
     refine Yk (.inl rfl) (.nil) (fun w hw=>?_)
     (refine ⟨_,M,[(bw,rowO (ZW.segs ⟨⟨⟨⟨Za,Zb⟩,⟨Zf,Zh⟩,⟨Zj,Zi,Zg⟩,⟨Ze,Zd,Zc⟩⟩,Zr,Zs,ZH,Zv,ZT,ZC,ZA,Zw,Zq,Zy,Zp,Zz,⟨Zu,Zt,Zl⟩,ZG,ZJ⟩,⟨none,0,[]⟩⟩) 68)],rfl,Mem.le.refl M,?_,rfl,⟨⟨⟨Za,Zb⟩,⟨Zf,Zh⟩,⟨Zj,Zi,Zg⟩,⟨Ze,Zd,Zc⟩⟩,Zr,Zs,ZH,Zv,ZT,ZC,ZA,Zw,Zq,Zy,Zp,Zz,⟨Zu,Zt,Zl⟩,ZG,ZJ⟩,rfl,⟨Yv,Yz⟩,(end_not (n:=(ZR.nd ⟨⟨⟨Za,Zb⟩,⟨Zf,Zh⟩,⟨Zj,Zi,Zg⟩,⟨Ze,Zd,Zc⟩⟩,Zr,Zs,ZH,Zv,ZT,ZC,ZA,Zw,Zq,Zy,Zp,Zz,⟨Zu,Zt,Zl⟩,ZG,ZJ⟩)) (p:=⟨Xa,p_id⟩) (fun q=>by
      have q9:Zs=true:=q
      exact ⟨show ¬Xn ⟨Za,Zb⟩ ⟨Xa,p_id⟩ by first|assumption|(exfalso;simp_all;done),show ¬(⟨Xa,p_id⟩:ZF)=⟨Za,Zb⟩ by first|assumption|(exfalso;simp_all;done)⟩) (fun q=>by
      have q9:Zs=false:=q
      (show ¬Xn ⟨Za,Zb⟩ ⟨Xa,p_id⟩;assumption))).symm⟩;simp only [ZW.segs,Sl.val,List.length_nil] at hw ⊢;exact hw.c)
   ·skip
    iterate 3 refine Ya ?_
    refine ZO ?_;refine ZB ?_;refine Zo (Zn (Y_pk [28,3,0] ?_));refine Wn rfl ?_;refine YG (XR ?_)
    refine Yk (.inl rfl) (.nil) (fun w hw=>?_)
    (exfalso;simp_all;done)
theorem found_ok (M:Mem) (bw:Nat) (Za:Int) (Zb:Plc) (Zf:Int) (Zh:Plc) (Zj Ze Zu:Option Addr) (Zi Zd Zt:Nat) (Zg Zc:List ZF) (Zl:List Int) (Zr:Int) (Zs:Bool) (ZH Zv ZT ZC ZA Zw Zq Zy Zp:Int) (Zz:Plc) (ZG ZJ:Int) (Yv:ZQ.ok M ⟨⟨Za,Zb⟩,⟨Zf,Zh⟩,⟨Zj,Zi,Zg⟩,⟨Ze,Zd,Zc⟩⟩) (Yz:SlK M (oneI .i64) 1 ⟨Zu,Zt,Zl⟩) (hbig:Zg.length≤40∧Zc.length≤200) (hLa:Zl.length≤1000) (hh:0≤ZG∧ZG≤1000) (l:ZP) (hl0:ZP.ok M l) (hLp:l.peers.l.length≤1000) (hk:l.kind=2):Fh Tryz.prog 46 [.pointer (some ⟨bw,0,none⟩),l.enc] M [(bw,rowO (ZW.segs ⟨⟨⟨⟨Za,Zb⟩,⟨Zf,Zh⟩,⟨Zj,Zi,Zg⟩,⟨Ze,Zd,Zc⟩⟩,Zr,Zs,ZH,Zv,ZT,ZC,ZA,Zw,Zq,Zy,Zp,Zz,⟨Zu,Zt,Zl⟩,ZG,ZJ⟩,⟨none,0,[]⟩⟩) 68)] (fun M' v Hout=>v=.tuple #[]∧WkF bw 68 M' Hout (XO (ZR.nd ⟨⟨⟨Za,Zb⟩,⟨Zf,Zh⟩,⟨Zj,Zi,Zg⟩,⟨Ze,Zd,Zc⟩⟩,Zr,Zs,ZH,Zv,ZT,ZC,ZA,Zw,Zq,Zy,Zp,Zz,⟨Zu,Zt,Zl⟩,ZG,ZJ⟩) l.lt)):=by
  obtain ⟨Yb,⟨ZM,Ye⟩,YB,l_id,⟨ZY,ZX,ZN⟩,Ys,⟨ZI,ZS⟩,⟨ZZ,ZV,ZL⟩⟩:=l
  simp only at hLp hk
  have Xl:SlK M (oneI .i64) 1 ⟨ZY,ZX,ZN⟩:=hl0.h0
  have Xb:SlK M ZF.segs 21 ⟨ZZ,ZV,ZL⟩:=hl0.h1
  have XT:=Xb.h1
  simp only at XT
  have WR:(ZL.map ZF.segs).length=ZL.length:=List.length_map ..
  have WS:ZL.length≤ZV:=Xb.h3
  refine Wt (fun H=>(bw,rowO (ZW.segs ⟨⟨⟨⟨Za,Zb⟩,⟨Zf,Zh⟩,⟨Zj,Zi,Zg⟩,⟨Ze,Zd,Zc⟩⟩,Zr,Zs,ZH,Zv,ZT,ZC,ZA,Zw,Zq,Zy,Zp,Zz,⟨Zu,Zt,Zl⟩,ZG,ZJ⟩,⟨none,0,[]⟩⟩) 68)::H) (fun _=>by simp only [List.append_assoc,List.cons_append,List.nil_append]) Tryz.func46 rfl Tryz.ntmps46 rfl ?_;intro H
  refine ZK (Zm (l:=[0]) rfl ?_)
  refine Xk ?_;intro b1
  refine Zo (Zn (Y_pk [3,0] ?_))
  iterate 2 refine ZK ?_
  refine YK (l:=[0,1,2,3,4,5,6,7,8,9,10,11,12,13,14,15,16,17,18]) #[0,1,3,7,15,0,32,96,255,511,1023,2047,4095,8191,16383,1023,33791,131071,262143] _ rfl (by kernel_rfl) (by kernel_rfl) St.drawn (fun _ h=>h) ?_;refine Zx ?_;refine Yn ?_;refine Zk F.foff68_0 ?_;refine Zk F.foff32_10 ?_;refine ZD F.lay3 ?_;refine Zk F.foff44_1 ?_;refine Zk F.foff25_0 ?_;refine ZD F.lay3 ?_;refine YI ?_;refine Zx ?_
  refine Yj 13 rfl (fun hc2=>?_) (fun hc2=>?_)
  ·replace hc2:=nT hc2
   iterate 8 refine Ya ?_
   refine ZO ?_;refine Zo (Zn (Y_pk [22,3,0] ?_));refine Xi rfl ?_;refine Yo (YS ?_)
   refine Yk (.inr rfl) (.nil) (fun w hw=>?_)
   have h3:XO (ZR.nd ⟨⟨⟨Za,Zb⟩,⟨Zf,Zh⟩,⟨Zj,Zi,Zg⟩,⟨Ze,Zd,Zc⟩⟩,Zr,Zs,ZH,Zv,ZT,ZC,ZA,Zw,Zq,Zy,Zp,Zz,⟨Zu,Zt,Zl⟩,ZG,ZJ⟩) (ZP.lt ⟨Yb,⟨ZM,Ye⟩,YB,l_id,⟨ZY,ZX,ZN⟩,Ys,⟨ZI,ZS⟩,⟨ZZ,ZV,ZL⟩⟩)=((ZR.nd ⟨⟨⟨Za,Zb⟩,⟨Zf,Zh⟩,⟨Zj,Zi,Zg⟩,⟨Ze,Zd,Zc⟩⟩,Zr,Zs,ZH,Zv,ZT,ZC,ZA,Zw,Zq,Zy,Zp,Zz,⟨Zu,Zt,Zl⟩,ZG,ZJ⟩),[]):=(does2 hk).trans (found_no (by exact .inl (by assumption)))
   refine ⟨_,M,[(bw,rowO (ZW.segs ⟨⟨⟨⟨Za,Zb⟩,⟨Zf,Zh⟩,⟨Zj,Zi,Zg⟩,⟨Ze,Zd,Zc⟩⟩,Zr,Zs,ZH,Zv,ZT,ZC,ZA,Zw,Zq,Zy,Zp,Zz,⟨Zu,Zt,Zl⟩,ZG,ZJ⟩,⟨none,0,[]⟩⟩) 68)],rfl,Mem.le.refl M,hw.c,rfl,⟨⟨⟨Za,Zb⟩,⟨Zf,Zh⟩,⟨Zj,Zi,Zg⟩,⟨Ze,Zd,Zc⟩⟩,Zr,Zs,ZH,Zv,ZT,ZC,ZA,Zw,Zq,Zy,Zp,Zz,⟨Zu,Zt,Zl⟩,ZG,ZJ⟩,⟨none,0,[]⟩,rfl,?_,?_,⟨Yv,Yz⟩,SlK.nil,fun y hy=>by cases hy⟩
   ·rw [h3] <;> rfl
   ·rw [h3] <;> rfl
  ·replace hc2:=nF hc2
   refine Zx ?_;refine Yn ?_;refine Zk F.foff68_0 ?_;refine Zk F.foff32_11 ?_;refine ZD F.lay29 ?_;refine Zk F.foff44_2 ?_;refine ZD F.lay29 ?_;refine YI ?_;refine ZO ?_;refine Zo (Zn (Y_pk [22,3,0] ?_))
   refine YA rfl (fun hc3=>?_) (fun hc3=>?_)
   ·replace hc3:=nT hc3
    refine Yo (YS ?_)
    refine Yk (.inr rfl) (.nil) (fun w hw=>?_)
    have h3:XO (ZR.nd ⟨⟨⟨Za,Zb⟩,⟨Zf,Zh⟩,⟨Zj,Zi,Zg⟩,⟨Ze,Zd,Zc⟩⟩,Zr,Zs,ZH,Zv,ZT,ZC,ZA,Zw,Zq,Zy,Zp,Zz,⟨Zu,Zt,Zl⟩,ZG,ZJ⟩) (ZP.lt ⟨Yb,⟨ZM,Ye⟩,YB,l_id,⟨ZY,ZX,ZN⟩,Ys,⟨ZI,ZS⟩,⟨ZZ,ZV,ZL⟩⟩)=((ZR.nd ⟨⟨⟨Za,Zb⟩,⟨Zf,Zh⟩,⟨Zj,Zi,Zg⟩,⟨Ze,Zd,Zc⟩⟩,Zr,Zs,ZH,Zv,ZT,ZC,ZA,Zw,Zq,Zy,Zp,Zz,⟨Zu,Zt,Zl⟩,ZG,ZJ⟩),[]):=(does2 hk).trans (found_no (by exact .inr (by assumption)))
    refine ⟨_,M,[(bw,rowO (ZW.segs ⟨⟨⟨⟨Za,Zb⟩,⟨Zf,Zh⟩,⟨Zj,Zi,Zg⟩,⟨Ze,Zd,Zc⟩⟩,Zr,Zs,ZH,Zv,ZT,ZC,ZA,Zw,Zq,Zy,Zp,Zz,⟨Zu,Zt,Zl⟩,ZG,ZJ⟩,⟨none,0,[]⟩⟩) 68)],rfl,Mem.le.refl M,hw.c,rfl,⟨⟨⟨Za,Zb⟩,⟨Zf,Zh⟩,⟨Zj,Zi,Zg⟩,⟨Ze,Zd,Zc⟩⟩,Zr,Zs,ZH,Zv,ZT,ZC,ZA,Zw,Zq,Zy,Zp,Zz,⟨Zu,Zt,Zl⟩,ZG,ZJ⟩,⟨none,0,[]⟩,rfl,?_,?_,⟨Yv,Yz⟩,SlK.nil,fun y hy=>by cases hy⟩
    ·rw [h3] <;> rfl
    ·rw [h3] <;> rfl
   ·replace hc3:=nF hc3
    refine YG (Zn (Y_pk [3,0] ?_))
    iterate 2 refine ZK ?_
    refine Zm (l:=[0,1]) rfl ?_;refine Zk F.foff44_5 ?_;refine ZD F.lay4 ?_;refine Zo (Zn (Y_pk [24,3,0] ?_))
    refine YA rfl (fun hc4=>?_) (fun hc4=>?_)
    ·skip
     refine ZK (Zm (l:=[0,1,2,3,4]) rfl ?_);refine Zx ?_;refine Yn ?_;refine Zk F.foff68_0 ?_;refine Zk F.foff32_10 ?_;refine Yh F.lay3 ?_;refine Zo (Zn (Y_pk [3,0] ?_));refine ZK (Wb (l:=[0,1,2,3]) [3] rfl ?_);refine Zx ?_;refine Zk F.foff44_6 ?_;refine ZD F.lay25 ?_;refine Vp rfl rfl rfl F.ok102 rfl (end_ok M bw Za Zb Zf Zh Zj Ze Zu Zi Zd Zt Zg Zc Zl Zr Zs ZH Zv ZT ZC ZA Zw Zq (-1) Zp Zz ZG ZJ Yv Yz ⟨ZI,ZS⟩) (by repeat first|exact Rem.here _|exact Rem.two|apply Rem.skip|apply Rem.over) (YV rfl) ?_
     rintro _ M1 hs1 hm1 ⟨rfl,⟨⟨⟨Yw,YJ⟩,⟨YC,YL⟩,⟨YP,YO,YN⟩,⟨YF,YE,YD⟩⟩,Xz,XF,Wg,XB,WB,XM,XA,Xw,Xo,Xx,Xp,Xy,⟨Xu,Xt,Xs⟩,Wf,We⟩,rfl,okv,hv1⟩
     simp only [List.append_assoc,List.cons_append,List.nil_append]
     refine Zo (WP ?_);refine Zn (Y_pk [3,0] ?_);refine Yo (YS ?_)
     refine Yk (.inr rfl) (.nil) (fun w hw=>?_)
     have h3:XO (ZR.nd ⟨⟨⟨Za,Zb⟩,⟨Zf,Zh⟩,⟨Zj,Zi,Zg⟩,⟨Ze,Zd,Zc⟩⟩,Zr,Zs,ZH,Zv,ZT,ZC,ZA,Zw,Zq,Zy,Zp,Zz,⟨Zu,Zt,Zl⟩,ZG,ZJ⟩) (ZP.lt ⟨Yb,⟨ZM,Ye⟩,YB,l_id,⟨ZY,ZX,ZN⟩,Ys,⟨ZI,ZS⟩,⟨ZZ,ZV,ZL⟩⟩)=(ZR.nd ⟨⟨⟨Yw,YJ⟩,⟨YC,YL⟩,⟨YP,YO,YN⟩,⟨YF,YE,YD⟩⟩,Xz,XF,Wg,XB,WB,XM,XA,Xw,Xo,Xx,Xp,Xy,⟨Xu,Xt,Xs⟩,Wf,We⟩,[]):=(does2 hk).trans ((found_end (n:=(ZR.nd ⟨⟨⟨Za,Zb⟩,⟨Zf,Zh⟩,⟨Zj,Zi,Zg⟩,⟨Ze,Zd,Zc⟩⟩,Zr,Zs,ZH,Zv,ZT,ZC,ZA,Zw,Zq,Zy,Zp,Zz,⟨Zu,Zt,Zl⟩,ZG,ZJ⟩)) (l:=(ZP.lt ⟨Yb,⟨ZM,Ye⟩,YB,l_id,⟨ZY,ZX,ZN⟩,Ys,⟨ZI,ZS⟩,⟨ZZ,ZV,ZL⟩⟩)) (show (ZR.nd ⟨⟨⟨Za,Zb⟩,⟨Zf,Zh⟩,⟨Zj,Zi,Zg⟩,⟨Ze,Zd,Zc⟩⟩,Zr,Zs,ZH,Zv,ZT,ZC,ZA,Zw,Zq,Zy,Zp,Zz,⟨Zu,Zt,Zl⟩,ZG,ZJ⟩).findTo=(ZP.lt ⟨Yb,⟨ZM,Ye⟩,YB,l_id,⟨ZY,ZX,ZN⟩,Ys,⟨ZI,ZS⟩,⟨ZZ,ZV,ZL⟩⟩).frm.addr by show Zy=ZM;first|assumption|omega) (show (ZR.nd ⟨⟨⟨Za,Zb⟩,⟨Zf,Zh⟩,⟨Zj,Zi,Zg⟩,⟨Ze,Zd,Zc⟩⟩,Zr,Zs,ZH,Zv,ZT,ZC,ZA,Zw,Zq,Zy,Zp,Zz,⟨Zu,Zt,Zl⟩,ZG,ZJ⟩).findReq=(ZP.lt ⟨Yb,⟨ZM,Ye⟩,YB,l_id,⟨ZY,ZX,ZN⟩,Ys,⟨ZI,ZS⟩,⟨ZZ,ZV,ZL⟩⟩).req by show Zp=YB;first|assumption|omega) (show Ys=true by first|assumption|(simp_all;done))).trans (congrArg (fun x=>(x,([]:List Snd))) hv1.symm))
     refine ⟨_,M1,[(bw,rowO (ZW.segs ⟨⟨⟨⟨Yw,YJ⟩,⟨YC,YL⟩,⟨YP,YO,YN⟩,⟨YF,YE,YD⟩⟩,Xz,XF,Wg,XB,WB,XM,XA,Xw,Xo,Xx,Xp,Xy,⟨Xu,Xt,Xs⟩,Wf,We⟩,⟨none,0,[]⟩⟩) 68)],rfl,hm1,hw.c,rfl,⟨⟨⟨Yw,YJ⟩,⟨YC,YL⟩,⟨YP,YO,YN⟩,⟨YF,YE,YD⟩⟩,Xz,XF,Wg,XB,WB,XM,XA,Xw,Xo,Xx,Xp,Xy,⟨Xu,Xt,Xs⟩,Wf,We⟩,⟨none,0,[]⟩,rfl,?_,?_,okv,SlK.nil,fun y hy=>by cases hy⟩
     ·rw [h3] <;> rfl
     ·rw [h3] <;> rfl
    ·skip
     refine YG (Zn (Y_pk [3,0] ?_))
     iterate 2 refine ZK ?_
     refine YK (l:=[0,1,2,3,4,5,6,7,8,9,10,11,12,13,14,15,16,17,18,19,20,21,22,23,24,25,26,27,28,29,30,31,32]) #[0,0,2,7,15,31,63,127,255,511,1023,63,2111,6207,16383,32767,65535,131071,262143,524287,131071,1179647,3276799,8388607,16777215,33554431,67108863,134217727,268435455,536870911,1073741823,2147483647,4294967295] _ rfl (by kernel_rfl) (by kernel_rfl) St.drawn (fun _ h=>h) ?_;refine Zx ?_;refine Zk F.foff44_6 ?_;refine ZD F.lay25 ?_;refine X_fo rfl rfl F.ok53 rfl (wother_ok M bw Za Zb Zf Zh Zj Ze Zu Zi Zd Zt Zg Zc Zl Zr Zs ZH Zv ZT ZC ZA Zw Zq Zy Zp Zz ZG ZJ ⟨ZI,ZS⟩) (by repeat first|exact Rem.here _|exact Rem.two|apply Rem.skip|apply Rem.over) (YV rfl) ?_
     rintro _ M1 _ ⟨hM1,rfl⟩;subst M1
     refine Xj ?_;refine Zx ?_
     refine Yj 38 rfl (fun hc5=>?_) (fun hc5=>?_)
     ·replace hc5:=nT hc5
      iterate 9 refine Ya ?_
      refine ZO ?_;refine Zx ?_
      iterate 7 refine Ya ?_
      refine ZO ?_;refine Zx ?_
      iterate 6 refine Ya ?_
      refine ZO ?_;refine Zo (Zn (Y_pk [65,3,0] ?_));refine Xi rfl ?_;refine ZK (Zm (l:=[0,1,2,3,4]) rfl ?_);refine Zx ?_;refine Yn ?_;refine Zk F.foff68_0 ?_;refine Zk F.foff32_10 ?_;refine Yh F.lay3 ?_;refine Zo (Zn (Y_pk [3,0] ?_));refine Yo (YS ?_)
      refine Yk (.inr rfl) (.nil) (fun w hw=>?_)
      have h3:XO (ZR.nd ⟨⟨⟨Za,Zb⟩,⟨Zf,Zh⟩,⟨Zj,Zi,Zg⟩,⟨Ze,Zd,Zc⟩⟩,Zr,Zs,ZH,Zv,ZT,ZC,ZA,Zw,Zq,Zy,Zp,Zz,⟨Zu,Zt,Zl⟩,ZG,ZJ⟩) (ZP.lt ⟨Yb,⟨ZM,Ye⟩,YB,l_id,⟨ZY,ZX,ZN⟩,Ys,⟨ZI,ZS⟩,⟨ZZ,ZV,ZL⟩⟩)=(ZR.nd ⟨⟨⟨Za,Zb⟩,⟨Zf,Zh⟩,⟨Zj,Zi,Zg⟩,⟨Ze,Zd,Zc⟩⟩,Zr,Zs,ZH,Zv,ZT,ZC,ZA,Zw,Zq,(-1),Zp,Zz,⟨Zu,Zt,Zl⟩,ZG,ZJ⟩,[]):=(does2 hk).trans (found_drop (n:=(ZR.nd ⟨⟨⟨Za,Zb⟩,⟨Zf,Zh⟩,⟨Zj,Zi,Zg⟩,⟨Ze,Zd,Zc⟩⟩,Zr,Zs,ZH,Zv,ZT,ZC,ZA,Zw,Zq,Zy,Zp,Zz,⟨Zu,Zt,Zl⟩,ZG,ZJ⟩)) (l:=(ZP.lt ⟨Yb,⟨ZM,Ye⟩,YB,l_id,⟨ZY,ZX,ZN⟩,Ys,⟨ZI,ZS⟩,⟨ZZ,ZV,ZL⟩⟩)) (show (ZR.nd ⟨⟨⟨Za,Zb⟩,⟨Zf,Zh⟩,⟨Zj,Zi,Zg⟩,⟨Ze,Zd,Zc⟩⟩,Zr,Zs,ZH,Zv,ZT,ZC,ZA,Zw,Zq,Zy,Zp,Zz,⟨Zu,Zt,Zl⟩,ZG,ZJ⟩).findTo=(ZP.lt ⟨Yb,⟨ZM,Ye⟩,YB,l_id,⟨ZY,ZX,ZN⟩,Ys,⟨ZI,ZS⟩,⟨ZZ,ZV,ZL⟩⟩).frm.addr by show Zy=ZM;first|assumption|omega) (show (ZR.nd ⟨⟨⟨Za,Zb⟩,⟨Zf,Zh⟩,⟨Zj,Zi,Zg⟩,⟨Ze,Zd,Zc⟩⟩,Zr,Zs,ZH,Zv,ZT,ZC,ZA,Zw,Zq,Zy,Zp,Zz,⟨Zu,Zt,Zl⟩,ZG,ZJ⟩).findReq=(ZP.lt ⟨Yb,⟨ZM,Ye⟩,YB,l_id,⟨ZY,ZX,ZN⟩,Ys,⟨ZI,ZS⟩,⟨ZZ,ZV,ZL⟩⟩).req by show Zp=YB;first|assumption|omega) (show Ys=false by first|assumption|(simp_all;done)) (show ¬Xn ⟨Za,Zb⟩ ⟨ZI,ZS⟩∨ZI∈Zl∨ZI=ZM∨32≤ZG by first|exact .inl (by assumption)|exact .inr (.inl (by assumption))|exact .inr (.inr (.inl (by assumption)))|exact .inr (.inr (.inr (by omega)))))
      refine ⟨_,M,[(bw,rowO (ZW.segs ⟨⟨⟨⟨Za,Zb⟩,⟨Zf,Zh⟩,⟨Zj,Zi,Zg⟩,⟨Ze,Zd,Zc⟩⟩,Zr,Zs,ZH,Zv,ZT,ZC,ZA,Zw,Zq,(-1),Zp,Zz,⟨Zu,Zt,Zl⟩,ZG,ZJ⟩,⟨none,0,[]⟩⟩) 68)],rfl,Mem.le.refl M,hw.c,rfl,⟨⟨⟨Za,Zb⟩,⟨Zf,Zh⟩,⟨Zj,Zi,Zg⟩,⟨Ze,Zd,Zc⟩⟩,Zr,Zs,ZH,Zv,ZT,ZC,ZA,Zw,Zq,(-1),Zp,Zz,⟨Zu,Zt,Zl⟩,ZG,ZJ⟩,⟨none,0,[]⟩,rfl,?_,?_,⟨Yv,Yz⟩,SlK.nil,fun y hy=>by cases hy⟩
      ·rw [h3] <;> rfl
      ·rw [h3] <;> rfl
     ·replace hc5:=nF hc5
      refine Zx ?_;refine Yn ?_;refine Zk F.foff68_0 ?_;refine Zk F.foff32_13 ?_;refine ZD F.lay30 ?_;refine Zk F.foff44_6 ?_;refine Zk F.foff25_0 ?_;refine ZD F.lay3 ?_;refine X_fo rfl rfl F.ok103 rfl (ContainsI_rd M [] ⟨Zu,Zt,Zl⟩ ZI (Yz.h1.rd []) Yz.h2) (by repeat first|exact Rem.here _|exact Rem.two|apply Rem.skip|apply Rem.over) (YV rfl) ?_
      rintro _ M1 _ ⟨hM1,rfl⟩;subst M1
      refine ZO ?_;refine Zx ?_
      refine Yj 49 rfl (fun hc6=>?_) (fun hc6=>?_)
      ·replace hc6:=dT hc6
       simp only [ZF.eta,ZQ.eta,ZR.eta,ZP.eta,Yr.eta,ZW.eta,YQ.eta,Yc.eta] at hc6
       iterate 7 refine Ya ?_
       refine ZO ?_;refine Zx ?_
       iterate 6 refine Ya ?_
       refine ZO ?_;refine Zo (Zn (Y_pk [65,3,0] ?_));refine Xi rfl ?_;refine ZK (Zm (l:=[0,1,2,3,4]) rfl ?_);refine Zx ?_;refine Yn ?_;refine Zk F.foff68_0 ?_;refine Zk F.foff32_10 ?_;refine Yh F.lay3 ?_;refine Zo (Zn (Y_pk [3,0] ?_));refine Yo (YS ?_)
       refine Yk (.inr rfl) (.nil) (fun w hw=>?_)
       have h3:XO (ZR.nd ⟨⟨⟨Za,Zb⟩,⟨Zf,Zh⟩,⟨Zj,Zi,Zg⟩,⟨Ze,Zd,Zc⟩⟩,Zr,Zs,ZH,Zv,ZT,ZC,ZA,Zw,Zq,Zy,Zp,Zz,⟨Zu,Zt,Zl⟩,ZG,ZJ⟩) (ZP.lt ⟨Yb,⟨ZM,Ye⟩,YB,l_id,⟨ZY,ZX,ZN⟩,Ys,⟨ZI,ZS⟩,⟨ZZ,ZV,ZL⟩⟩)=(ZR.nd ⟨⟨⟨Za,Zb⟩,⟨Zf,Zh⟩,⟨Zj,Zi,Zg⟩,⟨Ze,Zd,Zc⟩⟩,Zr,Zs,ZH,Zv,ZT,ZC,ZA,Zw,Zq,(-1),Zp,Zz,⟨Zu,Zt,Zl⟩,ZG,ZJ⟩,[]):=(does2 hk).trans (found_drop (n:=(ZR.nd ⟨⟨⟨Za,Zb⟩,⟨Zf,Zh⟩,⟨Zj,Zi,Zg⟩,⟨Ze,Zd,Zc⟩⟩,Zr,Zs,ZH,Zv,ZT,ZC,ZA,Zw,Zq,Zy,Zp,Zz,⟨Zu,Zt,Zl⟩,ZG,ZJ⟩)) (l:=(ZP.lt ⟨Yb,⟨ZM,Ye⟩,YB,l_id,⟨ZY,ZX,ZN⟩,Ys,⟨ZI,ZS⟩,⟨ZZ,ZV,ZL⟩⟩)) (show (ZR.nd ⟨⟨⟨Za,Zb⟩,⟨Zf,Zh⟩,⟨Zj,Zi,Zg⟩,⟨Ze,Zd,Zc⟩⟩,Zr,Zs,ZH,Zv,ZT,ZC,ZA,Zw,Zq,Zy,Zp,Zz,⟨Zu,Zt,Zl⟩,ZG,ZJ⟩).findTo=(ZP.lt ⟨Yb,⟨ZM,Ye⟩,YB,l_id,⟨ZY,ZX,ZN⟩,Ys,⟨ZI,ZS⟩,⟨ZZ,ZV,ZL⟩⟩).frm.addr by show Zy=ZM;first|assumption|omega) (show (ZR.nd ⟨⟨⟨Za,Zb⟩,⟨Zf,Zh⟩,⟨Zj,Zi,Zg⟩,⟨Ze,Zd,Zc⟩⟩,Zr,Zs,ZH,Zv,ZT,ZC,ZA,Zw,Zq,Zy,Zp,Zz,⟨Zu,Zt,Zl⟩,ZG,ZJ⟩).findReq=(ZP.lt ⟨Yb,⟨ZM,Ye⟩,YB,l_id,⟨ZY,ZX,ZN⟩,Ys,⟨ZI,ZS⟩,⟨ZZ,ZV,ZL⟩⟩).req by show Zp=YB;first|assumption|omega) (show Ys=false by first|assumption|(simp_all;done)) (show ¬Xn ⟨Za,Zb⟩ ⟨ZI,ZS⟩∨ZI∈Zl∨ZI=ZM∨32≤ZG by first|exact .inl (by assumption)|exact .inr (.inl (by assumption))|exact .inr (.inr (.inl (by assumption)))|exact .inr (.inr (.inr (by omega)))))
       refine ⟨_,M,[(bw,rowO (ZW.segs ⟨⟨⟨⟨Za,Zb⟩,⟨Zf,Zh⟩,⟨Zj,Zi,Zg⟩,⟨Ze,Zd,Zc⟩⟩,Zr,Zs,ZH,Zv,ZT,ZC,ZA,Zw,Zq,(-1),Zp,Zz,⟨Zu,Zt,Zl⟩,ZG,ZJ⟩,⟨none,0,[]⟩⟩) 68)],rfl,Mem.le.refl M,hw.c,rfl,⟨⟨⟨Za,Zb⟩,⟨Zf,Zh⟩,⟨Zj,Zi,Zg⟩,⟨Ze,Zd,Zc⟩⟩,Zr,Zs,ZH,Zv,ZT,ZC,ZA,Zw,Zq,(-1),Zp,Zz,⟨Zu,Zt,Zl⟩,ZG,ZJ⟩,⟨none,0,[]⟩,rfl,?_,?_,⟨Yv,Yz⟩,SlK.nil,fun y hy=>by cases hy⟩
       ·rw [h3] <;> rfl
       ·rw [h3] <;> rfl
      ·replace hc6:=dF hc6
       simp only [ZF.eta,ZQ.eta,ZR.eta,ZP.eta,Yr.eta,ZW.eta,YQ.eta,Yc.eta] at hc6
       refine Zk F.foff44_6 ?_;refine Zk F.foff25_0 ?_;refine ZD F.lay3 ?_;refine Zk F.foff44_1 ?_;refine Zk F.foff25_0 ?_;refine ZD F.lay3 ?_;refine YI ?_;refine ZO ?_;refine Zx ?_
       refine Yj 58 rfl (fun hc7=>?_) (fun hc7=>?_)
       ·replace hc7:=dT hc7
        iterate 6 refine Ya ?_
        refine ZO ?_;refine Zo (Zn (Y_pk [65,3,0] ?_));refine Xi rfl ?_;refine ZK (Zm (l:=[0,1,2,3,4]) rfl ?_);refine Zx ?_;refine Yn ?_;refine Zk F.foff68_0 ?_;refine Zk F.foff32_10 ?_;refine Yh F.lay3 ?_;refine Zo (Zn (Y_pk [3,0] ?_));refine Yo (YS ?_)
        refine Yk (.inr rfl) (.nil) (fun w hw=>?_)
        have h3:XO (ZR.nd ⟨⟨⟨Za,Zb⟩,⟨Zf,Zh⟩,⟨Zj,Zi,Zg⟩,⟨Ze,Zd,Zc⟩⟩,Zr,Zs,ZH,Zv,ZT,ZC,ZA,Zw,Zq,Zy,Zp,Zz,⟨Zu,Zt,Zl⟩,ZG,ZJ⟩) (ZP.lt ⟨Yb,⟨ZM,Ye⟩,YB,l_id,⟨ZY,ZX,ZN⟩,Ys,⟨ZI,ZS⟩,⟨ZZ,ZV,ZL⟩⟩)=(ZR.nd ⟨⟨⟨Za,Zb⟩,⟨Zf,Zh⟩,⟨Zj,Zi,Zg⟩,⟨Ze,Zd,Zc⟩⟩,Zr,Zs,ZH,Zv,ZT,ZC,ZA,Zw,Zq,(-1),Zp,Zz,⟨Zu,Zt,Zl⟩,ZG,ZJ⟩,[]):=(does2 hk).trans (found_drop (n:=(ZR.nd ⟨⟨⟨Za,Zb⟩,⟨Zf,Zh⟩,⟨Zj,Zi,Zg⟩,⟨Ze,Zd,Zc⟩⟩,Zr,Zs,ZH,Zv,ZT,ZC,ZA,Zw,Zq,Zy,Zp,Zz,⟨Zu,Zt,Zl⟩,ZG,ZJ⟩)) (l:=(ZP.lt ⟨Yb,⟨ZM,Ye⟩,YB,l_id,⟨ZY,ZX,ZN⟩,Ys,⟨ZI,ZS⟩,⟨ZZ,ZV,ZL⟩⟩)) (show (ZR.nd ⟨⟨⟨Za,Zb⟩,⟨Zf,Zh⟩,⟨Zj,Zi,Zg⟩,⟨Ze,Zd,Zc⟩⟩,Zr,Zs,ZH,Zv,ZT,ZC,ZA,Zw,Zq,Zy,Zp,Zz,⟨Zu,Zt,Zl⟩,ZG,ZJ⟩).findTo=(ZP.lt ⟨Yb,⟨ZM,Ye⟩,YB,l_id,⟨ZY,ZX,ZN⟩,Ys,⟨ZI,ZS⟩,⟨ZZ,ZV,ZL⟩⟩).frm.addr by show Zy=ZM;first|assumption|omega) (show (ZR.nd ⟨⟨⟨Za,Zb⟩,⟨Zf,Zh⟩,⟨Zj,Zi,Zg⟩,⟨Ze,Zd,Zc⟩⟩,Zr,Zs,ZH,Zv,ZT,ZC,ZA,Zw,Zq,Zy,Zp,Zz,⟨Zu,Zt,Zl⟩,ZG,ZJ⟩).findReq=(ZP.lt ⟨Yb,⟨ZM,Ye⟩,YB,l_id,⟨ZY,ZX,ZN⟩,Ys,⟨ZI,ZS⟩,⟨ZZ,ZV,ZL⟩⟩).req by show Zp=YB;first|assumption|omega) (show Ys=false by first|assumption|(simp_all;done)) (show ¬Xn ⟨Za,Zb⟩ ⟨ZI,ZS⟩∨ZI∈Zl∨ZI=ZM∨32≤ZG by first|exact .inl (by assumption)|exact .inr (.inl (by assumption))|exact .inr (.inr (.inl (by assumption)))|exact .inr (.inr (.inr (by omega)))))
        refine ⟨_,M,[(bw,rowO (ZW.segs ⟨⟨⟨⟨Za,Zb⟩,⟨Zf,Zh⟩,⟨Zj,Zi,Zg⟩,⟨Ze,Zd,Zc⟩⟩,Zr,Zs,ZH,Zv,ZT,ZC,ZA,Zw,Zq,(-1),Zp,Zz,⟨Zu,Zt,Zl⟩,ZG,ZJ⟩,⟨none,0,[]⟩⟩) 68)],rfl,Mem.le.refl M,hw.c,rfl,⟨⟨⟨Za,Zb⟩,⟨Zf,Zh⟩,⟨Zj,Zi,Zg⟩,⟨Ze,Zd,Zc⟩⟩,Zr,Zs,ZH,Zv,ZT,ZC,ZA,Zw,Zq,(-1),Zp,Zz,⟨Zu,Zt,Zl⟩,ZG,ZJ⟩,⟨none,0,[]⟩,rfl,?_,?_,⟨Yv,Yz⟩,SlK.nil,fun y hy=>by cases hy⟩
        ·rw [h3] <;> rfl
        ·rw [h3] <;> rfl
       ·replace hc7:=dF hc7
        refine Zx ?_;refine Yn ?_;refine Zk F.foff68_0 ?_;refine Zk F.foff32_14 ?_;refine ZD F.lay3 ?_;refine YI ?_;refine ZO ?_;refine Zo (Zn (Y_pk [65,3,0] ?_))
        refine YA rfl (fun hc8=>?_) (fun hc8=>?_)
        ·replace hc8:=dT hc8
         refine ZK (Zm (l:=[0,1,2,3,4]) rfl ?_);refine Zx ?_;refine Yn ?_;refine Zk F.foff68_0 ?_;refine Zk F.foff32_10 ?_;refine Yh F.lay3 ?_;refine Zo (Zn (Y_pk [3,0] ?_));refine Yo (YS ?_)
         refine Yk (.inr rfl) (.nil) (fun w hw=>?_)
         have h3:XO (ZR.nd ⟨⟨⟨Za,Zb⟩,⟨Zf,Zh⟩,⟨Zj,Zi,Zg⟩,⟨Ze,Zd,Zc⟩⟩,Zr,Zs,ZH,Zv,ZT,ZC,ZA,Zw,Zq,Zy,Zp,Zz,⟨Zu,Zt,Zl⟩,ZG,ZJ⟩) (ZP.lt ⟨Yb,⟨ZM,Ye⟩,YB,l_id,⟨ZY,ZX,ZN⟩,Ys,⟨ZI,ZS⟩,⟨ZZ,ZV,ZL⟩⟩)=(ZR.nd ⟨⟨⟨Za,Zb⟩,⟨Zf,Zh⟩,⟨Zj,Zi,Zg⟩,⟨Ze,Zd,Zc⟩⟩,Zr,Zs,ZH,Zv,ZT,ZC,ZA,Zw,Zq,(-1),Zp,Zz,⟨Zu,Zt,Zl⟩,ZG,ZJ⟩,[]):=(does2 hk).trans (found_drop (n:=(ZR.nd ⟨⟨⟨Za,Zb⟩,⟨Zf,Zh⟩,⟨Zj,Zi,Zg⟩,⟨Ze,Zd,Zc⟩⟩,Zr,Zs,ZH,Zv,ZT,ZC,ZA,Zw,Zq,Zy,Zp,Zz,⟨Zu,Zt,Zl⟩,ZG,ZJ⟩)) (l:=(ZP.lt ⟨Yb,⟨ZM,Ye⟩,YB,l_id,⟨ZY,ZX,ZN⟩,Ys,⟨ZI,ZS⟩,⟨ZZ,ZV,ZL⟩⟩)) (show (ZR.nd ⟨⟨⟨Za,Zb⟩,⟨Zf,Zh⟩,⟨Zj,Zi,Zg⟩,⟨Ze,Zd,Zc⟩⟩,Zr,Zs,ZH,Zv,ZT,ZC,ZA,Zw,Zq,Zy,Zp,Zz,⟨Zu,Zt,Zl⟩,ZG,ZJ⟩).findTo=(ZP.lt ⟨Yb,⟨ZM,Ye⟩,YB,l_id,⟨ZY,ZX,ZN⟩,Ys,⟨ZI,ZS⟩,⟨ZZ,ZV,ZL⟩⟩).frm.addr by show Zy=ZM;first|assumption|omega) (show (ZR.nd ⟨⟨⟨Za,Zb⟩,⟨Zf,Zh⟩,⟨Zj,Zi,Zg⟩,⟨Ze,Zd,Zc⟩⟩,Zr,Zs,ZH,Zv,ZT,ZC,ZA,Zw,Zq,Zy,Zp,Zz,⟨Zu,Zt,Zl⟩,ZG,ZJ⟩).findReq=(ZP.lt ⟨Yb,⟨ZM,Ye⟩,YB,l_id,⟨ZY,ZX,ZN⟩,Ys,⟨ZI,ZS⟩,⟨ZZ,ZV,ZL⟩⟩).req by show Zp=YB;first|assumption|omega) (show Ys=false by first|assumption|(simp_all;done)) (show ¬Xn ⟨Za,Zb⟩ ⟨ZI,ZS⟩∨ZI∈Zl∨ZI=ZM∨32≤ZG by first|exact .inl (by assumption)|exact .inr (.inl (by assumption))|exact .inr (.inr (.inl (by assumption)))|exact .inr (.inr (.inr (by omega)))))
         refine ⟨_,M,[(bw,rowO (ZW.segs ⟨⟨⟨⟨Za,Zb⟩,⟨Zf,Zh⟩,⟨Zj,Zi,Zg⟩,⟨Ze,Zd,Zc⟩⟩,Zr,Zs,ZH,Zv,ZT,ZC,ZA,Zw,Zq,(-1),Zp,Zz,⟨Zu,Zt,Zl⟩,ZG,ZJ⟩,⟨none,0,[]⟩⟩) 68)],rfl,Mem.le.refl M,hw.c,rfl,⟨⟨⟨Za,Zb⟩,⟨Zf,Zh⟩,⟨Zj,Zi,Zg⟩,⟨Ze,Zd,Zc⟩⟩,Zr,Zs,ZH,Zv,ZT,ZC,ZA,Zw,Zq,(-1),Zp,Zz,⟨Zu,Zt,Zl⟩,ZG,ZJ⟩,⟨none,0,[]⟩,rfl,?_,?_,⟨Yv,Yz⟩,SlK.nil,fun y hy=>by cases hy⟩
         ·rw [h3] <;> rfl
         ·rw [h3] <;> rfl
        ·replace hc8:=dF hc8
         refine YG (Zn (Y_pk [3,0] ?_));refine ZK (Zm (l:=[0,1,2,3,4,5,6,7,8,9]) rfl ?_);refine Zx ?_;refine Yn ?_;refine Zk F.foff68_0 ?_;refine Zk F.foff32_14 ?_;refine ZD F.lay3 ?_;refine XE rfl rfl rfl rfl rfl (by exact Xe (by decide) (by omega)) rfl ?_;refine Yn ?_;refine Zk F.foff68_0 ?_;refine Zk F.foff32_14 ?_;refine Yh F.lay3 ?_;refine Zo (Zn (Y_pk [3,0] ?_));refine Wb (l:=[0,1,2,3,4]) [4] rfl ?_;refine Zx ?_;refine Zk F.foff44_6 ?_;refine Zk F.foff25_0 ?_;refine ZD F.lay3 ?_;refine Vp rfl rfl rfl F.ok89 rfl (seek_ok M bw Za Zb Zf Zh Zj Ze Zu Zi Zd Zt Zg Zc Zl Zr Zs ZH Zv ZT ZC ZA Zw Zq Zy Zp Zz (ZG+1) ZJ Yv Yz hLa ZI) (by repeat first|exact Rem.here _|exact Rem.two|apply Rem.skip|apply Rem.over) (YV rfl) ?_
         rintro _ M2 hs2 hm2 ⟨rfl,⟨⟨⟨Yw,YJ⟩,⟨YC,YL⟩,⟨YP,YO,YN⟩,⟨YF,YE,YD⟩⟩,Xz,XF,Wg,XB,WB,XM,XA,Xw,Xo,Xx,Xp,Xy,⟨Xu,Xt,Xs⟩,Wf,We⟩,⟨o_a,o_c,o_l⟩,rfl,hv1,hv2,okv,oko,okq⟩
         simp only [List.append_assoc,List.cons_append,List.nil_append]
         refine Zo (WP ?_)
         refine Yk (.inl rfl) (.nil) (fun w hw=>?_)
         have h3:=(does2 (n:=(ZR.nd ⟨⟨⟨Za,Zb⟩,⟨Zf,Zh⟩,⟨Zj,Zi,Zg⟩,⟨Ze,Zd,Zc⟩⟩,Zr,Zs,ZH,Zv,ZT,ZC,ZA,Zw,Zq,Zy,Zp,Zz,⟨Zu,Zt,Zl⟩,ZG,ZJ⟩)) (l:=(ZP.lt ⟨Yb,⟨ZM,Ye⟩,YB,l_id,⟨ZY,ZX,ZN⟩,Ys,⟨ZI,ZS⟩,⟨ZZ,ZV,ZL⟩⟩)) hk).trans (found_seek (n:=(ZR.nd ⟨⟨⟨Za,Zb⟩,⟨Zf,Zh⟩,⟨Zj,Zi,Zg⟩,⟨Ze,Zd,Zc⟩⟩,Zr,Zs,ZH,Zv,ZT,ZC,ZA,Zw,Zq,Zy,Zp,Zz,⟨Zu,Zt,Zl⟩,ZG,ZJ⟩)) (l:=(ZP.lt ⟨Yb,⟨ZM,Ye⟩,YB,l_id,⟨ZY,ZX,ZN⟩,Ys,⟨ZI,ZS⟩,⟨ZZ,ZV,ZL⟩⟩)) (show (ZR.nd ⟨⟨⟨Za,Zb⟩,⟨Zf,Zh⟩,⟨Zj,Zi,Zg⟩,⟨Ze,Zd,Zc⟩⟩,Zr,Zs,ZH,Zv,ZT,ZC,ZA,Zw,Zq,Zy,Zp,Zz,⟨Zu,Zt,Zl⟩,ZG,ZJ⟩).findTo=(ZP.lt ⟨Yb,⟨ZM,Ye⟩,YB,l_id,⟨ZY,ZX,ZN⟩,Ys,⟨ZI,ZS⟩,⟨ZZ,ZV,ZL⟩⟩).frm.addr by show Zy=ZM;first|assumption|omega) (show (ZR.nd ⟨⟨⟨Za,Zb⟩,⟨Zf,Zh⟩,⟨Zj,Zi,Zg⟩,⟨Ze,Zd,Zc⟩⟩,Zr,Zs,ZH,Zv,ZT,ZC,ZA,Zw,Zq,Zy,Zp,Zz,⟨Zu,Zt,Zl⟩,ZG,ZJ⟩).findReq=(ZP.lt ⟨Yb,⟨ZM,Ye⟩,YB,l_id,⟨ZY,ZX,ZN⟩,Ys,⟨ZI,ZS⟩,⟨ZZ,ZV,ZL⟩⟩).req by show Zp=YB;first|assumption|omega) (show Ys=false by first|assumption|(simp_all;done)) (show Xn ⟨Za,Zb⟩ ⟨ZI,ZS⟩ by assumption) (show ZI∉Zl by assumption) (show ZI≠ZM by assumption) (show ¬32≤ZG by omega))
         exact ⟨_,M2,[(bw,rowO (ZW.segs ⟨⟨⟨⟨Yw,YJ⟩,⟨YC,YL⟩,⟨YP,YO,YN⟩,⟨YF,YE,YD⟩⟩,Xz,XF,Wg,XB,WB,XM,XA,Xw,Xo,Xx,Xp,Xy,⟨Xu,Xt,Xs⟩,Wf,We⟩,⟨o_a,o_c,o_l⟩⟩) 68)],rfl,hm2,hw.c,rfl,⟨⟨⟨Yw,YJ⟩,⟨YC,YL⟩,⟨YP,YO,YN⟩,⟨YF,YE,YD⟩⟩,Xz,XF,Wg,XB,WB,XM,XA,Xw,Xo,Xx,Xp,Xy,⟨Xu,Xt,Xs⟩,Wf,We⟩,⟨o_a,o_c,o_l⟩,rfl,by rw [h3];exact hv1,by rw [h3];exact hv2,okv,oko,okq⟩
end Go.Proofs.YtajmnjefajknoaaGreat
namespace Go.Esp
variable {α:Type}
def insL (l:List α) (i:Nat) (x:α):List α:=l.take i++x::l.drop i
theorem insL_map {β:Type} (f:α→β) (l:List α) (i:Nat) (x:α):(insL l i x).map f=insL (l.map f) i (f x):=by unfold insL;simp
theorem insL_end (l:List α) (x:α):insL l l.length x=l++[x]:=by unfold insL;simp
theorem take_pre {a b:List α} {i:Nat} (h:a.length=i):(a++b).take i=a:=by subst h;exact List.take_left
theorem drop_pre {a b:List α} {i:Nat} (h:a.length=i):(a++b).drop i=b:=by subst h;exact List.drop_left
theorem ins_grow {rows zs:List α} {i:Nat} {x:α} (hi:i<rows.length) (hz:zs.length=rows.length+1-i) :
    (((rows.take i++zs).take i++[x]++(rows.take i++zs).drop (i+1)).take (i+1)++rows.drop i++((rows.take i++zs).take i++[x]++(rows.take i++zs).drop (i+1)).drop (i+1+(rows.drop i).length))=insL rows i x:=by
  have h1:(rows.take i).length=i:=by simp;omega
  rw [take_pre h1]
  have h2:(rows.take i++[x]).length=i+1:=by simp;omega
  rw [take_pre h2]
  have h3:(rows.take i++zs).length=rows.length+1:=by simp [hz];omega
  rw [List.drop_of_length_le (i:=i+1+(rows.drop i).length) (by simp only [List.length_append,List.length_drop,h3,h2,List.length_cons,List.length_nil,h1];omega)]
  unfold insL;simp
theorem ins_room {rows ext:List α} {i:Nat} {x:α} (hi:i<rows.length) (he:ext.length=1) :
    (((rows++ext).take (i+1)++rows.drop i++(rows++ext).drop (i+1+(rows.drop i).length)).take i++[x]++((rows++ext).take (i+1)++rows.drop i++(rows++ext).drop (i+1+(rows.drop i).length)).drop (i+1))=insL rows i x:=by
  have h1:((rows++ext).take (i+1)).length=i+1:=by simp;omega
  rw [List.drop_of_length_le (i:=i+1+(rows.drop i).length) (by simp [he];omega),List.append_nil,drop_pre h1]
  rw [List.take_append_of_le_length (by omega),List.take_take,Nat.min_eq_left (by omega),List.take_append_of_le_length (by omega)]
  unfold insL;simp
end Go.Esp
namespace Go.Proofs.YtajmnjefajknoaaGreat
open Go.Esp
theorem F.ext137:Ext Tryz.prog 137 (Extern.SlicesOverlaps.overlaps #[26,26] #[4]):=fun args w=>by kernel_rfl
theorem InsertP_nil (M:Mem) (x:ZF) (bv:Nat) (hv:Hp) (hob:OSl 25 21 (.slice (some ⟨bv,0,none⟩) 1 1) hv [ZF.segs x]):Fh Tryz.prog 105 [.slice none 0 0,.int .i64 ((0:Nat):Int),.slice (some ⟨bv,0,none⟩) 1 1] M hv (fun M' v Hout=>M'=M∧OSl 25 21 v Hout ([]++[ZF.segs x])):=by
  refine fh_enter Tryz.func105 rfl Tryz.ntmps105 rfl ?_;intro H
  refine ZK (Zm (l:=[0]) rfl ?_);refine ZB ?_;refine Zo (Zn (ZK (Zm (l:=[0,1,2]) rfl ?_)))
  iterate 2 refine Zx ?_
  refine WY rfl rfl rfl (.some (k:=0) rfl rfl) .none .none F.elem26 (by simp) (by simp) (by simp) (by simp) rfl rfl ?_;refine Zo (Zn (Y_pk [6,0,1,2] ?_));refine ZK (Zm (l:=[0,1,2]) rfl ?_);refine Zx ?_;refine YY F.elem26 ?_;refine ZB ?_;refine Zo (Zn (Y_pk [7,6,0,1,2] ?_))
  iterate 2 refine ZK ?_
  refine Zm (l:=[0,1]) rfl ?_;refine Zx ?_;refine YI ?_;refine Zo (Zn (Y_pk [16,7,6,0,1,2] ?_))
  refine YA rfl (fun hc1=>?_) (fun hc1=>?_)
  ·replace hc1:=dT hc1
   (exfalso;omega)
  ·replace hc1:=dF hc1
   refine YG (Zn (Y_pk [7,6,0,1,2] ?_));refine ZK (Zm (l:=[0,1,2]) rfl ?_);refine Zx ?_;refine YY F.elem26 ?_;refine ZB ?_;refine Zo (Zn (Y_pk [8,7,6,0,1,2] ?_))
   iterate 2 refine ZK ?_
   refine Zm (l:=[0,1,2]) rfl ?_
   iterate 2 refine Zx ?_
   refine YI ?_;refine Zo (Zn (Y_pk [22,8,7,6,0,1,2] ?_))
   refine YA rfl (fun hc2=>?_) (fun hc2=>?_)
   ·replace hc2:=dT hc2
    simp only [ZF.eta,ZQ.eta,ZR.eta,ZP.eta,Yr.eta,ZW.eta,YQ.eta,Yc.eta] at hc2
    refine ZK (Zm (l:=[0,1,2,3]) rfl ?_)
    iterate 2 refine Zx ?_
    refine Vh (m:=1000000) rfl rfl rfl rfl rfl F.elem26 F.zero25 (by exact Ww rfl) rfl (by exact OSl.nil) (by repeat first|exact Rem.here _|exact Rem.two|apply Rem.skip|apply Rem.over) (OSl.srcAll hob (by repeat first|exact Rem.here _|exact Rem.two|apply Rem.skip|apply Rem.over) (by intro u hu;exact rows_one ZF.flat [x] u (by simpa using hu))) (by (simp;done)) (by decide) rfl ?_;intro v5 hs4 ho3;obtain ⟨adv5,cpv5,rfl⟩:=ho3.val
    refine ZB ?_;refine Zo (Zn (Y_pk [6,8,7,0,1,2] ?_));refine Yo (YS ?_)
    refine Yk (.inr rfl) (.tmp rfl .nil) (fun w hw=>?_)
    exact ⟨_,M,hs4,rfl,Mem.le.refl M,hw.c,rfl,ho3⟩
   ·replace hc2:=dF hc2
    simp only [ZF.eta,ZQ.eta,ZR.eta,ZP.eta,Yr.eta,ZW.eta,YQ.eta,Yc.eta] at hc2
    (exfalso;simp [eqX] at hc2;done)
theorem InsertP_some (M:Mem) (b:Nat) (c:Nat) (l:List ZF) (hs:Hp) (i:Nat) (hi:i≤l.length) (x:ZF) (bv:Nat) (hv:Hp) (hob:OSl 25 21 (.slice (some ⟨bv,0,none⟩) 1 1) hv [ZF.segs x]) (hb:l.length≤1000000) (ho:OSl 25 21 (.slice (some ⟨b,0,none⟩) l.length c) hs (l.map ZF.segs)):Fh Tryz.prog 105 [.slice (some ⟨b,0,none⟩) l.length c,.int .i64 (i:Int),.slice (some ⟨bv,0,none⟩) 1 1] M (hs++hv) (fun M' v Hout=>M'=M∧OSl 25 21 v Hout ((insL l i x).map ZF.segs)):=by
  have hcc:=ho.caps
  simp only [List.length_map] at hcc
  have hob9:=hob
  have hom:OSl 25 21 (.slice (some ⟨b,0,none⟩) (l.map ZF.segs).length c) hs (l.map ZF.segs):=by rw [List.length_map];exact ho
  obtain ⟨cv,rfl,_⟩:=hob9.inv
  refine fh_enter Tryz.func105 rfl Tryz.ntmps105 rfl ?_;intro H
  rw [List.append_assoc]
  refine ZK (Zm (l:=[0]) rfl ?_);refine ZB ?_;refine Zo (Zn (ZK (Zm (l:=[0,1,2]) rfl ?_)))
  iterate 2 refine Zx ?_
  refine WY rfl rfl rfl (.some (k:=i) rfl rfl) .none .none F.elem26 (by simp) (by simp only [Option.getD_some,Option.getD_none];omega) (by simp only [Option.getD_some,Option.getD_none];omega) (by simp) rfl rfl ?_;refine Zo (Zn (Y_pk [6,0,1,2] ?_));refine ZK (Zm (l:=[0,1,2]) rfl ?_);refine Zx ?_;refine YY F.elem26 ?_;refine ZB ?_;refine Zo (Zn (Y_pk [7,6,0,1,2] ?_))
  iterate 2 refine ZK ?_
  refine Zm (l:=[0,1]) rfl ?_;refine Zx ?_;refine YI ?_;refine Zo (Zn (Y_pk [16,7,6,0,1,2] ?_))
  refine YA rfl (fun hc1=>?_) (fun hc1=>?_)
  ·replace hc1:=dT hc1
   (exfalso;omega)
  ·replace hc1:=dF hc1
   refine YG (Zn (Y_pk [7,6,0,1,2] ?_));refine ZK (Zm (l:=[0,1,2]) rfl ?_);refine Zx ?_;refine YY F.elem26 ?_;refine ZB ?_;refine Zo (Zn (Y_pk [8,7,6,0,1,2] ?_))
   iterate 2 refine ZK ?_
   refine Zm (l:=[0,1,2]) rfl ?_
   iterate 2 refine Zx ?_
   refine YI ?_;refine Zo (Zn (Y_pk [22,8,7,6,0,1,2] ?_))
   refine YA rfl (fun hc2=>?_) (fun hc2=>?_)
   ·replace hc2:=dT hc2
    refine ZK (Zm (l:=[0,1,2,3]) rfl ?_)
    iterate 2 refine Zx ?_
    refine Vh (m:=1000001) rfl rfl rfl rfl rfl F.elem26 F.zero25 (by exact Ww rfl) rfl (by assumption) (by repeat first|exact Rem.here _|exact Rem.two|apply Rem.skip|apply Rem.over) (OSl.srcAll hob (by repeat first|exact Rem.here _|exact Rem.two|apply Rem.skip|apply Rem.over) (by intro u hu;exact rows_one ZF.flat [x] u (by simpa using hu))) (by (simp;omega)) (by decide) rfl ?_;intro v5 hs4 ho3;obtain ⟨adv5,cpv5,rfl⟩:=ho3.val
    refine ZB ?_;refine Zo (Zn (Y_pk [6,8,7,0,1,2] ?_));refine Yo (YS ?_)
    refine Yk (.inr rfl) (.tmp rfl .nil) (fun w hw=>?_)
    obtain rfl:i=l.length:=by omega
    exact ⟨_,M,hs4,rfl,Mem.le.refl M,hw.c,rfl,by rw [insL_end,List.map_append];exact ho3⟩
   ·replace hc2:=dF hc2
    refine YG (Zn (Y_pk [8,7,6,0,1,2] ?_))
    iterate 2 refine ZK ?_
    refine Zm (l:=[0,1,2,3,4,5]) rfl ?_
    iterate 2 refine Zx ?_
    refine XE rfl rfl rfl rfl rfl (by exact Xe (by decide) (by omega)) rfl ?_;refine Zx ?_;refine X_cap_sl rfl rfl rfl rfl F.elem26 rfl ?_;refine YI ?_;refine Zo (Zn (Y_pk [31,8,7,6,0,1,2] ?_))
    refine YA rfl (fun hc6=>?_) (fun hc6=>?_)
    ·replace hc6:=dT hc6
     refine ZK (Zm (l:=[0,1,2,3,4,5,6,7,8,9]) rfl ?_)
     iterate 2 refine Zx ?_
     refine WY rfl rfl rfl .none (.some (k:=i) rfl (by rfl)) .none F.elem26 (by simp) (by simp only [Option.getD_some,Option.getD_none];omega) (by simp only [Option.getD_some,Option.getD_none];omega) (by simp) (show VC (some ⟨_,0,none⟩) 21 0 (i) c=.slice (some ⟨_,0,none⟩) (i) c from pieceV_zero) rfl ?_
     iterate 2 refine Zx ?_
     refine XE rfl rfl rfl rfl rfl (by exact Xe (by decide) (by omega)) rfl ?_;refine Zx ?_;refine XE rfl rfl rfl rfl rfl (by exact Xe (by decide) (by omega)) rfl ?_
     rw [show (l.length:Int)+((1:Nat):Int)-(i:Int)=((l.length+1-i:Nat):Int) by omega]
     refine X_appendZO (j:=i) (k:=l.length+1-i) rfl rfl rfl rfl F.elem26 Tryz.underlying3 F.zero25 (by exact Ww rfl) rfl ho (by repeat first|exact Rem.here _|exact Rem.two|apply Rem.skip|apply Rem.over) (by rw [List.length_map];omega) (by omega) (by omega) (by omega) (Nat.le_trans (Nat.mul_le_mul_right _ (show i+(l.length+1-i)≤1000001 by omega)) (by decide)) rfl ?_;intro b9 c9 hs9 zs9 hz9 ho9
     rw [show i+(l.length+1-i)=l.length+1 by omega] at ho9 ⊢
     have hn9:((l.map ZF.segs).take i++zs9).length=l.length+1:=by simp [hz9];omega
     have hc9:=ho9.caps
     refine ZB ?_;refine Zo (Zn (Y_pk [9,8,7,6,0,1,2] ?_));refine ZK (Zm (l:=[0,1,2,3,4]) rfl ?_)
     iterate 2 refine Zx ?_
     refine WY rfl rfl rfl (.some (k:=i) rfl (by rfl)) .none .none F.elem26 (by simp) (by simp only [Option.getD_some,Option.getD_none];omega) (by simp only [Option.getD_some,Option.getD_none];omega) (by simp) (show VC (some ⟨_,0,none⟩) 21 (i) (l.length+1) (c9)=.slice (some ⟨_,0+(i) * 21,none⟩) (l.length+1-(i)) (c9-(i)) from pieceV_in (by omega)) rfl ?_;refine Zx ?_
     rw [Nat.zero_add]
     refine X_copyP (k:=i) (news:=[ZF.segs x]) rfl rfl rfl rfl rfl F.elem26 rfl (by rw [hn9];omega) ho9 (by repeat first|exact Rem.here _|exact Rem.two|apply Rem.skip|apply Rem.over) (OSl.srcAll hob (by repeat first|exact Rem.here _|exact Rem.two|apply Rem.skip|apply Rem.over) (by intro u hu;exact rows_one ZF.flat [x] u (by simpa using hu))) (by show 1=min 1 (l.length+1-i);omega) rfl ?_;intro hs10 ho10
     rw [hn9] at ho10
     refine Zo (Zn (Y_pk [9,8,7,6,0,1,2] ?_));refine ZK (YK (l:=[0,1,2,3,4,5,6,7,8]) #[0,0,0,6,15,0,0,96,255] _ rfl (by kernel_rfl) (by kernel_rfl) St.drawn (fun _ h=>h) ?_)
     iterate 3 refine Zx ?_
     refine XE rfl rfl rfl rfl rfl (by exact Xe (by decide) (by omega)) rfl ?_;refine WY rfl rfl rfl (.some (k:=i+1) rfl (by rfl)) .none .none F.elem26 (by simp) (by simp only [Option.getD_some,Option.getD_none];omega) (by simp only [Option.getD_some,Option.getD_none];omega) (by simp) (show VC (some ⟨_,0,none⟩) 21 (i+1) (l.length+1) (c9)=.slice (some ⟨_,0+(i+1) * 21,none⟩) (l.length+1-(i+1)) (c9-(i+1)) from pieceV_in (by omega)) rfl ?_
     iterate 2 refine Zx ?_
     refine WY rfl rfl rfl (.some (k:=i) rfl (by rfl)) .none .none F.elem26 (by simp) (by simp only [Option.getD_some,Option.getD_none];omega) (by simp only [Option.getD_some,Option.getD_none];omega) (by simp) (show VC (some ⟨_,0,none⟩) 21 (i) (l.length) (c)=.slice (some ⟨_,0+(i) * 21,none⟩) (l.length-(i)) (c-(i)) from pieceV_in (by omega)) rfl ?_
     rw [Nat.zero_add,Nat.zero_add]
     have hn10:(((l.map ZF.segs).take i++zs9).take i++[ZF.segs x]++((l.map ZF.segs).take i++zs9).drop (i+[ZF.segs x].length)).length=l.length+1:=by simp only [List.length_append,List.length_take,List.length_drop,hn9,List.length_cons,List.length_nil];omega
     refine X_copyP (k:=i+1) (news:=(l.map ZF.segs).drop i) rfl rfl rfl rfl rfl F.elem26 rfl (by rw [hn10];omega) ho10 (by repeat first|exact Rem.here _|exact Rem.two|apply Rem.skip|apply Rem.over) (by rw [List.length_drop];exact hom.src (by repeat first|exact Rem.here _|exact Rem.two|apply Rem.skip|apply Rem.over) (by intro u hu;exact rows_one ZF.flat l u hu)) (by simp only [List.length_drop,List.length_map];omega) rfl ?_;intro hs11 ho11
     rw [hn10] at ho11
     rw [show i+[ZF.segs x].length=i+1 from rfl,ins_grow (by rw [List.length_map];omega) (by rw [List.length_map];exact hz9)] at ho11
     refine Zo (Zn (Y_pk [9,8,7,6,0,1,2] ?_));refine ZK (Zm (l:=[0,1]) rfl ?_);refine Zx ?_;refine ZB ?_;refine Zo (Zn (Y_pk [6,8,7,0,1,2] ?_));refine Yo (YS ?_)
     refine Yk (.inr rfl) (.tmp rfl .nil) (fun w hw=>?_)
     exact ⟨_,M,hs11,rfl,Mem.le.refl M,hw.c,rfl,by rw [insL_map];exact ho11⟩
    ·replace hc6:=dF hc6
     refine YG (Zn (Y_pk [8,7,6,0,1,2] ?_));refine ZK (Zm (l:=[0,1,2,3,4,5]) rfl ?_)
     iterate 3 refine Zx ?_
     refine XE rfl rfl rfl rfl rfl (by exact Xe (by decide) (by omega)) rfl ?_;refine WY rfl rfl rfl .none (.some (k:=l.length+1) rfl (by rfl)) .none F.elem26 (by simp) (by simp only [Option.getD_some,Option.getD_none];omega) (by simp only [Option.getD_some,Option.getD_none];omega) (by simp) (show VC (some ⟨_,0,none⟩) 21 0 (l.length+1) c=.slice (some ⟨_,0,none⟩) (l.length+1) c from pieceV_zero) rfl ?_;refine ZB ?_;refine Zo (Zn (Y_pk [0,8,7,6,1,2] ?_))
     iterate 2 refine ZK ?_
     refine Zm (l:=[0,1,2,3,4,5,6,7]) rfl ?_
     obtain ⟨ext,hext,ho13⟩:=OSl.extend (m:=1) (show OSl 25 21 (.slice (some ⟨b,0,none⟩) (l.map ZF.segs).length c) hs (l.map ZF.segs) by rw [List.length_map];exact ho) (by rw [List.length_map];omega)
     rw [List.length_map] at ho13
     iterate 4 refine Zx ?_
     refine XE rfl rfl rfl rfl rfl (by exact Xe (by decide) (by omega)) rfl ?_;refine WY rfl rfl rfl (.some (k:=i+1) rfl (by rfl)) .none .none F.elem26 (by simp) (by simp only [Option.getD_some,Option.getD_none];omega) (by simp only [Option.getD_some,Option.getD_none];omega) (by simp) (show VC (some ⟨_,0,none⟩) 21 (i+1) (l.length+1) (c)=.slice (some ⟨_,0+(i+1) * 21,none⟩) (l.length+1-(i+1)) (c-(i+1)) from pieceV_in (by omega)) rfl ?_;refine X_ext rfl rfl F.ext137 rfl (fun w hw=>run_apart (tR:=4) F.elem26 ho (by repeat first|exact Rem.here _|exact Rem.two|apply Rem.skip|apply Rem.over) (.head _) (Nat.mul_pos (by omega) (by decide)) hw) rfl ?_;refine Xj ?_;refine Zo (Zn (Y_pk [68,0,8,7,6,1,2] ?_))
     refine YA rfl (fun hc7=>?_) (fun hc7=>?_)
     ·skip
      refine ZK (YK (l:=[0,1,2,3,4,5,6,7,8]) #[0,0,0,6,15,0,0,96,255] _ rfl (by kernel_rfl) (by kernel_rfl) St.drawn (fun _ h=>h) ?_)
      iterate 3 refine Zx ?_
      refine XE rfl rfl rfl rfl rfl (by exact Xe (by decide) (by omega)) rfl ?_;refine WY rfl rfl rfl (.some (k:=i+1) rfl (by rfl)) .none .none F.elem26 (by simp) (by simp only [Option.getD_some,Option.getD_none];omega) (by simp only [Option.getD_some,Option.getD_none];omega) (by simp) (show VC (some ⟨_,0,none⟩) 21 (i+1) (l.length+1) (c)=.slice (some ⟨_,0+(i+1) * 21,none⟩) (l.length+1-(i+1)) (c-(i+1)) from pieceV_in (by omega)) rfl ?_
      iterate 2 refine Zx ?_
      refine WY rfl rfl rfl (.some (k:=i) rfl (by rfl)) .none .none F.elem26 (by simp) (by simp only [Option.getD_some,Option.getD_none];omega) (by simp only [Option.getD_some,Option.getD_none];omega) (by simp) (show VC (some ⟨_,0,none⟩) 21 (i) (l.length+1) (c)=.slice (some ⟨_,0+(i) * 21,none⟩) (l.length+1-(i)) (c-(i)) from pieceV_in (by omega)) rfl ?_
      rw [Nat.zero_add,Nat.zero_add]
      refine X_copyP (k:=i+1) (news:=(l.map ZF.segs).drop i) rfl rfl rfl rfl rfl F.elem26 rfl (by simp [hext];omega) ho13 (by repeat first|exact Rem.here _|exact Rem.two|apply Rem.skip|apply Rem.over) (by rw [List.length_drop];exact hom.src (by repeat first|exact Rem.here _|exact Rem.two|apply Rem.skip|apply Rem.over) (by intro u hu;exact rows_one ZF.flat l u hu)) (by simp only [List.length_drop,List.length_map];omega) rfl ?_;intro hs15 ho15
      have hn15:((l.map ZF.segs)++ext).length=l.length+1:=by simp [hext]
      rw [hn15] at ho15
      refine Zo (Zn (Y_pk [0,8,7,6,1,2] ?_));refine ZK (Zm (l:=[0,1,2,3,4]) rfl ?_)
      iterate 2 refine Zx ?_
      refine WY rfl rfl rfl (.some (k:=i) rfl (by rfl)) .none .none F.elem26 (by simp) (by simp only [Option.getD_some,Option.getD_none];omega) (by simp only [Option.getD_some,Option.getD_none];omega) (by simp) (show VC (some ⟨_,0,none⟩) 21 (i) (l.length+1) (c)=.slice (some ⟨_,0+(i) * 21,none⟩) (l.length+1-(i)) (c-(i)) from pieceV_in (by omega)) rfl ?_;refine Zx ?_
      rw [Nat.zero_add]
      have hn16:(((l.map ZF.segs)++ext).take (i+1)++(l.map ZF.segs).drop i++((l.map ZF.segs)++ext).drop (i+1+((l.map ZF.segs).drop i).length)).length=l.length+1:=by simp only [List.length_append,List.length_take,List.length_drop,List.length_map,hext];omega
      refine X_copyP (k:=i) (news:=[ZF.segs x]) rfl rfl rfl rfl rfl F.elem26 rfl (by rw [hn16];omega) ho15 (by repeat first|exact Rem.here _|exact Rem.two|apply Rem.skip|apply Rem.over) (OSl.srcAll hob (by repeat first|exact Rem.here _|exact Rem.two|apply Rem.skip|apply Rem.over) (by intro u hu;exact rows_one ZF.flat [x] u (by simpa using hu))) (by show 1=min 1 (l.length+1-i);omega) rfl ?_;intro hs16 ho16
      rw [hn16] at ho16
      rw [show i+[ZF.segs x].length=i+1 from rfl,ins_room (by rw [List.length_map];omega) hext] at ho16
      refine Zo (Zn (Y_pk [0,8,7,6,1,2] ?_));refine ZK (Zm (l:=[0,1]) rfl ?_);refine Zx ?_;refine ZB ?_;refine Zo (Zn (Y_pk [6,0,8,7,1,2] ?_));refine Yo (YS ?_)
      refine Yk (.inr rfl) (.tmp rfl .nil) (fun w hw=>?_)
      exact ⟨_,M,hs16,rfl,Mem.le.refl M,hw.c,rfl,by rw [insL_map];exact ho16⟩
     ·skip
      (exfalso;simp [eqX] at hc7;done)
theorem InsertP_ok (M:Mem) (a:Option Addr) (c:Nat) (l:List ZF) (hs:Hp) (i:Nat) (hi:i≤l.length) (x:ZF) (bv:Nat) (hv:Hp) (hob:OSl 25 21 (.slice (some ⟨bv,0,none⟩) 1 1) hv [ZF.segs x]) (hb:l.length≤1000000) (ho:OSl 25 21 (.slice a l.length c) hs (l.map ZF.segs)):Fh Tryz.prog 105 [.slice a l.length c,.int .i64 (i:Int),.slice (some ⟨bv,0,none⟩) 1 1] M (hs++hv) (fun M' v Hout=>M'=M∧OSl 25 21 v Hout ((insL l i x).map ZF.segs)):=by
  cases a with
  |none =>
   obtain ⟨rfl,rfl,rfl⟩:=ho.noneAll
   obtain rfl:i=0:=by simpa using hi
   exact InsertP_nil M x bv hv hob
  |some ad =>
   obtain ⟨b,rfl⟩:=ho.someAll
   exact InsertP_some M b c l hs i hi x bv hv hob hb ho
end Go.Proofs.YtajmnjefajknoaaGreat
namespace Go.Proofs.YtajmnjefajknoaaGreat
open Go.Esp
theorem F.ok104:okFn Tryz.prog 104=true:=by kernel_rfl
theorem F.ok105:okFn Tryz.prog 105=true:=by kernel_rfl
theorem told_ok (M:Mem) (bw:Nat) (Za:Int) (Zb:Plc) (Zf:Int) (Zh:Plc) (Zj Ze Zu:Option Addr) (Zi Zd Zt:Nat) (Zg Zc:List ZF) (Zl:List Int) (Zr:Int) (Zs:Bool) (ZH Zv ZT ZC ZA Zw Zq Zy Zp:Int) (Zz:Plc) (ZG ZJ:Int) (Yv:ZQ.ok M ⟨⟨Za,Zb⟩,⟨Zf,Zh⟩,⟨Zj,Zi,Zg⟩,⟨Ze,Zd,Zc⟩⟩) (Yz:SlK M (oneI .i64) 1 ⟨Zu,Zt,Zl⟩) (hbig:Zg.length≤40∧Zc.length≤200) (hLa:Zl.length≤1000) (hh:0≤ZG∧ZG≤1000) (l:ZP) (hl0:ZP.ok M l) (hLp:l.peers.l.length≤1000) (hk:l.kind=4):Fh Tryz.prog 48 [.pointer (some ⟨bw,0,none⟩),l.enc] M [(bw,rowO (ZW.segs ⟨⟨⟨⟨Za,Zb⟩,⟨Zf,Zh⟩,⟨Zj,Zi,Zg⟩,⟨Ze,Zd,Zc⟩⟩,Zr,Zs,ZH,Zv,ZT,ZC,ZA,Zw,Zq,Zy,Zp,Zz,⟨Zu,Zt,Zl⟩,ZG,ZJ⟩,⟨none,0,[]⟩⟩) 68)] (fun M' v Hout=>v=.tuple #[]∧WkF bw 68 M' Hout (XO (ZR.nd ⟨⟨⟨Za,Zb⟩,⟨Zf,Zh⟩,⟨Zj,Zi,Zg⟩,⟨Ze,Zd,Zc⟩⟩,Zr,Zs,ZH,Zv,ZT,ZC,ZA,Zw,Zq,Zy,Zp,Zz,⟨Zu,Zt,Zl⟩,ZG,ZJ⟩) l.lt)):=by
  obtain ⟨Yb,⟨ZM,Ye⟩,YB,l_id,⟨ZY,ZX,ZN⟩,Ys,⟨ZI,ZS⟩,⟨ZZ,ZV,ZL⟩⟩:=l
  simp only at hLp hk
  have Xl:SlK M (oneI .i64) 1 ⟨ZY,ZX,ZN⟩:=hl0.h0
  have Xb:SlK M ZF.segs 21 ⟨ZZ,ZV,ZL⟩:=hl0.h1
  have XT:=Xb.h1
  simp only at XT
  have WR:(ZL.map ZF.segs).length=ZL.length:=List.length_map ..
  have WS:ZL.length≤ZV:=Xb.h3
  refine Wt (fun H=>(bw,rowO (ZW.segs ⟨⟨⟨⟨Za,Zb⟩,⟨Zf,Zh⟩,⟨Zj,Zi,Zg⟩,⟨Ze,Zd,Zc⟩⟩,Zr,Zs,ZH,Zv,ZT,ZC,ZA,Zw,Zq,Zy,Zp,Zz,⟨Zu,Zt,Zl⟩,ZG,ZJ⟩,⟨none,0,[]⟩⟩) 68)::H) (fun _=>by simp only [List.append_assoc,List.cons_append,List.nil_append]) Tryz.func48 rfl Tryz.ntmps48 rfl ?_;intro H
  refine ZK (Zm (l:=[0]) rfl ?_)
  refine Xk ?_;intro b1
  refine Zo (Zn (Y_pk [3,0] ?_))
  iterate 2 refine ZK ?_
  refine YK (l:=[0,1,2,3,4,5,6,7,8,9,10,11,12,13,14,15,16,17,18]) #[0,1,3,7,15,0,32,96,255,511,1023,2047,4095,8191,16383,1023,33791,131071,262143] _ rfl (by kernel_rfl) (by kernel_rfl) St.drawn (fun _ h=>h) ?_;refine Zx ?_;refine Yn ?_;refine Zk F.foff68_0 ?_;refine Zk F.foff32_6 ?_;refine ZD F.lay3 ?_;refine Zk F.foff44_1 ?_;refine Zk F.foff25_0 ?_;refine ZD F.lay3 ?_;refine YI ?_;refine Zx ?_
  refine Yj 13 rfl (fun hc2=>?_) (fun hc2=>?_)
  ·replace hc2:=nT hc2
   iterate 8 refine Ya ?_
   refine ZO ?_;refine Zo (Zn (Y_pk [22,3,0] ?_));refine Xi rfl ?_;refine Yo (YS ?_)
   refine Yk (.inr rfl) (.nil) (fun w hw=>?_)
   have h3:XO (ZR.nd ⟨⟨⟨Za,Zb⟩,⟨Zf,Zh⟩,⟨Zj,Zi,Zg⟩,⟨Ze,Zd,Zc⟩⟩,Zr,Zs,ZH,Zv,ZT,ZC,ZA,Zw,Zq,Zy,Zp,Zz,⟨Zu,Zt,Zl⟩,ZG,ZJ⟩) (ZP.lt ⟨Yb,⟨ZM,Ye⟩,YB,l_id,⟨ZY,ZX,ZN⟩,Ys,⟨ZI,ZS⟩,⟨ZZ,ZV,ZL⟩⟩)=((ZR.nd ⟨⟨⟨Za,Zb⟩,⟨Zf,Zh⟩,⟨Zj,Zi,Zg⟩,⟨Ze,Zd,Zc⟩⟩,Zr,Zs,ZH,Zv,ZT,ZC,ZA,Zw,Zq,Zy,Zp,Zz,⟨Zu,Zt,Zl⟩,ZG,ZJ⟩),[]):=(does4 hk).trans (told_no (by exact .inl (by assumption)))
   refine ⟨_,M,[(bw,rowO (ZW.segs ⟨⟨⟨⟨Za,Zb⟩,⟨Zf,Zh⟩,⟨Zj,Zi,Zg⟩,⟨Ze,Zd,Zc⟩⟩,Zr,Zs,ZH,Zv,ZT,ZC,ZA,Zw,Zq,Zy,Zp,Zz,⟨Zu,Zt,Zl⟩,ZG,ZJ⟩,⟨none,0,[]⟩⟩) 68)],rfl,Mem.le.refl M,hw.c,rfl,⟨⟨⟨Za,Zb⟩,⟨Zf,Zh⟩,⟨Zj,Zi,Zg⟩,⟨Ze,Zd,Zc⟩⟩,Zr,Zs,ZH,Zv,ZT,ZC,ZA,Zw,Zq,Zy,Zp,Zz,⟨Zu,Zt,Zl⟩,ZG,ZJ⟩,⟨none,0,[]⟩,rfl,?_,?_,⟨Yv,Yz⟩,SlK.nil,fun y hy=>by cases hy⟩
   ·rw [h3] <;> rfl
   ·rw [h3] <;> rfl
  ·replace hc2:=nF hc2
   refine Zx ?_;refine Yn ?_;refine Zk F.foff68_0 ?_;refine Zk F.foff32_7 ?_;refine ZD F.lay29 ?_;refine Zk F.foff44_2 ?_;refine ZD F.lay29 ?_;refine YI ?_;refine ZO ?_;refine Zo (Zn (Y_pk [22,3,0] ?_))
   refine YA rfl (fun hc3=>?_) (fun hc3=>?_)
   ·replace hc3:=nT hc3
    refine Yo (YS ?_)
    refine Yk (.inr rfl) (.nil) (fun w hw=>?_)
    have h3:XO (ZR.nd ⟨⟨⟨Za,Zb⟩,⟨Zf,Zh⟩,⟨Zj,Zi,Zg⟩,⟨Ze,Zd,Zc⟩⟩,Zr,Zs,ZH,Zv,ZT,ZC,ZA,Zw,Zq,Zy,Zp,Zz,⟨Zu,Zt,Zl⟩,ZG,ZJ⟩) (ZP.lt ⟨Yb,⟨ZM,Ye⟩,YB,l_id,⟨ZY,ZX,ZN⟩,Ys,⟨ZI,ZS⟩,⟨ZZ,ZV,ZL⟩⟩)=((ZR.nd ⟨⟨⟨Za,Zb⟩,⟨Zf,Zh⟩,⟨Zj,Zi,Zg⟩,⟨Ze,Zd,Zc⟩⟩,Zr,Zs,ZH,Zv,ZT,ZC,ZA,Zw,Zq,Zy,Zp,Zz,⟨Zu,Zt,Zl⟩,ZG,ZJ⟩),[]):=(does4 hk).trans (told_no (by exact .inr (by assumption)))
    refine ⟨_,M,[(bw,rowO (ZW.segs ⟨⟨⟨⟨Za,Zb⟩,⟨Zf,Zh⟩,⟨Zj,Zi,Zg⟩,⟨Ze,Zd,Zc⟩⟩,Zr,Zs,ZH,Zv,ZT,ZC,ZA,Zw,Zq,Zy,Zp,Zz,⟨Zu,Zt,Zl⟩,ZG,ZJ⟩,⟨none,0,[]⟩⟩) 68)],rfl,Mem.le.refl M,hw.c,rfl,⟨⟨⟨Za,Zb⟩,⟨Zf,Zh⟩,⟨Zj,Zi,Zg⟩,⟨Ze,Zd,Zc⟩⟩,Zr,Zs,ZH,Zv,ZT,ZC,ZA,Zw,Zq,Zy,Zp,Zz,⟨Zu,Zt,Zl⟩,ZG,ZJ⟩,⟨none,0,[]⟩,rfl,?_,?_,⟨Yv,Yz⟩,SlK.nil,fun y hy=>by cases hy⟩
    ·rw [h3] <;> rfl
    ·rw [h3] <;> rfl
   ·replace hc3:=nF hc3
    refine YG (Zn (Y_pk [3,0] ?_));refine ZK (Zm (l:=[0,1,2,3,4]) rfl ?_);refine Zx ?_;refine Yn ?_;refine Zk F.foff68_0 ?_;refine Zk F.foff32_6 ?_;refine Yh F.lay3 ?_;refine Zo (Zn (Y_pk [3,0] ?_));refine ZK (Wb (l:=[0,1,2,3,4,5]) [5] rfl ?_);refine Zx ?_;refine Zk F.foff44_1 ?_;refine ZD F.lay25 ?_;refine Zk F.foff44_7 ?_;refine ZD F.lay26 ?_;refine Vp rfl rfl rfl F.ok82 rfl (adopt_ok M bw Za Zb Zf Zh Zj Ze Zu Zi Zd Zt Zg Zc Zl Zr Zs ZH Zv ZT (-1) ZA Zw Zq Zy Zp Zz ZG ZJ Yv ⟨ZM,Ye⟩ ⟨ZZ,ZV,ZL⟩ Xb) (by repeat first|exact Rem.here _|exact Rem.two|apply Rem.skip|apply Rem.over) (YV rfl) ?_
    rintro _ M1 hs1 hm1 ⟨rfl,⟨⟨wa,wi⟩,⟨wq,wj⟩,⟨w1a,w1c,w1l⟩,⟨w2a,w2c,w2l⟩⟩,rfl,okt,hv1⟩
    simp only [List.append_assoc,List.cons_append,List.nil_append]
    refine Zo (WP ?_);refine Zn (Y_pk [3,0] ?_)
    iterate 2 refine ZK ?_
    refine YK (l:=[0,1,2,3,4,5,6,7]) #[0,1,3,7,15,0,32,127] _ rfl (by kernel_rfl) (by kernel_rfl) St.drawn (fun _ h=>h) ?_;refine Zx ?_;refine Yn ?_;refine Zk F.foff68_0 ?_;refine Zk F.foff32_0 ?_;refine ZD F.lay28 ?_;refine Zk F.foff44_6 ?_;refine ZD F.lay25 ?_;refine X_fs rfl rfl F.ok104 rfl (Closer_ok _ ⟨⟨wa,wi⟩,⟨wq,wj⟩,⟨w1a,w1c,w1l⟩,⟨w2a,w2c,w2l⟩⟩ ⟨ZI,ZS⟩ okt) rfl ?_
    rintro _ rfl
    refine Zo (Zn (Y_pk [40,3,0] ?_))
    refine YA rfl (fun hc4=>?_) (fun hc4=>?_)
    ·replace hc4:=dT hc4
     refine C_region_anyW (l:=[0,1,2,3,4,5,6,7,8,9,10]) [10] #[0,0,2,0,8,24,0,64,192,504,1023] (_) rfl (by kernel_rfl) (by kernel_rfl) St.drawn (fun _ h=>h) ?_;refine Zx ?_;refine Zk F.foff44_6 ?_;refine ZD F.lay25 ?_;refine Zk F.foff44_7 ?_;refine ZD F.lay26 ?_;refine Ur rfl rfl F.ok106 rfl (CloneP_ok M1 ZZ ZV ZL (Xb.mono hm1) (by omega)) (by repeat first|exact Rem.here _|exact Rem.two|apply Rem.skip|apply Rem.over) (fun _ _ _ hm hw=>(hw.lower (by exact hm)).c) (YV rfl) ?_
     rintro v0 M2 hs0 hm2 ⟨hM2,ho0⟩;subst M2;clear hm2
     obtain ⟨ad0,cp0,rfl⟩:=ho0.valL
     refine Zk F.foff44_1 ?_;refine ZD F.lay25 ?_
     refine Xq rfl rfl F.elem26 F.zero25 rfl rfl (.cons rfl (by constructor) .nil) rfl rfl (by simp only [List.map_cons,List.map_nil] <;> rfl) rfl ?_;intro b5 hob6
     refine X_fhR2 rfl rfl F.ok105 rfl (InsertP_ok M1 ad0 cp0 ZL hs0 0 (Nat.zero_le _) ⟨ZM,Ye⟩ _ _ hob6 (by omega) ho0) (by repeat first|exact Rem.here _|exact Rem.two|apply Rem.skip|apply Rem.over) (by repeat first|exact Rem.here _|exact Rem.two|apply Rem.skip|apply Rem.over) (by rintro v M9 Ho w hm ⟨rfl,_⟩ hw;exact hw.c) (YV rfl) ?_
     rintro v7 MX hs7 hmX ⟨hMX,ho7⟩
     subst MX
     clear hmX
     obtain ⟨ad7,cp7,rfl⟩:=ho7.valL
     simp only [List.append_assoc,List.cons_append,List.nil_append]
     refine X_fhW2 rfl rfl rfl F.ok82 rfl ((fh_thaw ho7 (fun M9 j1 j3=>adopt_ok M9 bw wa wi wq wj w1a w2a Zu w1c w2c Zt w1l w2l Zl Zr Zs ZH Zv ZT (-1) ZA Zw Zq Zy Zp Zz ZG ZJ (okt.mono j1) ⟨ZI,ZS⟩ ⟨ad7,cp7,insL ZL 0 ⟨ZM,Ye⟩⟩ j3))) (by repeat first|exact Rem.here _|exact Rem.two|apply Rem.skip|apply Rem.over) (by repeat first|exact Rem.here _|exact Rem.two|apply Rem.skip|apply Rem.over) (YV rfl) ?_
     rintro _ M2 hs2 hm2 ⟨rfl,⟨⟨ua,ui⟩,⟨uq,uj⟩,⟨u1a,u1c,u1l⟩,⟨u2a,u2c,u2l⟩⟩,rfl,oku,hv2⟩
     simp only [List.append_assoc,List.cons_append,List.nil_append]
     refine Zo (WP ?_);refine Zn (Y_pk [0] ?_);refine Wb (l:=[0,1,2,3,4,5,6,7,8,9,10]) [10] rfl ?_
     iterate 2 refine Zx ?_
     refine Yn ?_;refine Zk F.foff68_0 ?_;refine Zk F.foff32_0 ?_;refine ZD F.lay28 ?_;refine X_fs rfl rfl F.ok41 rfl (First_ok _ ⟨⟨ua,ui⟩,⟨uq,uj⟩,⟨u1a,u1c,u1l⟩,⟨u2a,u2c,u2l⟩⟩ oku) rfl ?_
     rintro _ rfl
     obtain ⟨⟨fa,fi⟩,hfi⟩:∃ x,Wi (ZQ.tb ⟨⟨ua,ui⟩,⟨uq,uj⟩,⟨u1a,u1c,u1l⟩,⟨u2a,u2c,u2l⟩⟩)=x:=⟨_,rfl⟩
     rw [hfi]
     refine Y_field F.fld25_0 F.lay3 ?_;refine X_fs rfl rfl F.ok66 rfl (VG _) rfl ?_
     rintro _ rfl
     refine VA 60 rfl (show _=aggV [.one (.int .i64 (-1)),Yt 0] from rfl) ?_;refine Xr rfl rfl F.bld44 (.cons rfl (by constructor) (.cons rfl (by constructor) .nil)) rfl rfl ?_;refine Vp rfl rfl rfl F.ok65 rfl (sendF_ok M2 bw ua ui uq uj u1a u2a Zu u1c u2c Zt u1l u2l Zl Zr Zs ZH Zv ZT (-1) ZA Zw Zq Zy Zp Zz ZG ZJ fa ⟨5,⟨0,0⟩,0,0,⟨none,0,[]⟩,false,⟨-1,0⟩,⟨none,0,[]⟩⟩) (by repeat first|exact Rem.here _|exact Rem.two|apply Rem.skip|apply Rem.over) (YV rfl) ?_
     rintro _ M3 hs3 hm3 ⟨rfl,⟨o9a,o9c,o9l⟩,rfl,k9o,hl9⟩
     simp only at hl9
     simp only [List.append_assoc,List.cons_append,List.nil_append]
     refine Zo (WP ?_)
     refine Yk (.inl rfl) (.nil) (fun w hw=>?_)
     have h3:=(does4 (n:=(ZR.nd ⟨⟨⟨Za,Zb⟩,⟨Zf,Zh⟩,⟨Zj,Zi,Zg⟩,⟨Ze,Zd,Zc⟩⟩,Zr,Zs,ZH,Zv,ZT,ZC,ZA,Zw,Zq,Zy,Zp,Zz,⟨Zu,Zt,Zl⟩,ZG,ZJ⟩)) (l:=(ZP.lt ⟨Yb,⟨ZM,Ye⟩,YB,l_id,⟨ZY,ZX,ZN⟩,Ys,⟨ZI,ZS⟩,⟨ZZ,ZV,ZL⟩⟩)) hk).trans (told_yes (m:=ZR.nd ⟨⟨⟨wa,wi⟩,⟨wq,wj⟩,⟨w1a,w1c,w1l⟩,⟨w2a,w2c,w2l⟩⟩,Zr,Zs,ZH,Zv,ZT,(-1),ZA,Zw,Zq,Zy,Zp,Zz,⟨Zu,Zt,Zl⟩,ZG,ZJ⟩) (show (ZR.nd ⟨⟨⟨Za,Zb⟩,⟨Zf,Zh⟩,⟨Zj,Zi,Zg⟩,⟨Ze,Zd,Zc⟩⟩,Zr,Zs,ZH,Zv,ZT,ZC,ZA,Zw,Zq,Zy,Zp,Zz,⟨Zu,Zt,Zl⟩,ZG,ZJ⟩).askTo=(ZP.lt ⟨Yb,⟨ZM,Ye⟩,YB,l_id,⟨ZY,ZX,ZN⟩,Ys,⟨ZI,ZS⟩,⟨ZZ,ZV,ZL⟩⟩).frm.addr by show ZC=ZM;first|assumption|omega) (show (ZR.nd ⟨⟨⟨Za,Zb⟩,⟨Zf,Zh⟩,⟨Zj,Zi,Zg⟩,⟨Ze,Zd,Zc⟩⟩,Zr,Zs,ZH,Zv,ZT,ZC,ZA,Zw,Zq,Zy,Zp,Zz,⟨Zu,Zt,Zl⟩,ZG,ZJ⟩).askReq=(ZP.lt ⟨Yb,⟨ZM,Ye⟩,YB,l_id,⟨ZY,ZX,ZN⟩,Ys,⟨ZI,ZS⟩,⟨ZZ,ZV,ZL⟩⟩).req by show ZA=YB;first|assumption|omega) hv1 (show VP (ZQ.tb ⟨⟨wa,wi⟩,⟨wq,wj⟩,⟨w1a,w1c,w1l⟩,⟨w2a,w2c,w2l⟩⟩) ⟨ZI,ZS⟩ by assumption) (q:=ZR.nd ⟨⟨⟨ua,ui⟩,⟨uq,uj⟩,⟨u1a,u1c,u1l⟩,⟨u2a,u2c,u2l⟩⟩,Zr,Zs,ZH,Zv,ZT,(-1),ZA,Zw,Zq,Zy,Zp,Zz,⟨Zu,Zt,Zl⟩,ZG,ZJ⟩) hv2)
     rw [show Wi (ZR.nd ⟨⟨⟨ua,ui⟩,⟨uq,uj⟩,⟨u1a,u1c,u1l⟩,⟨u2a,u2c,u2l⟩⟩,Zr,Zs,ZH,Zv,ZT,(-1),ZA,Zw,Zq,Zy,Zp,Zz,⟨Zu,Zt,Zl⟩,ZG,ZJ⟩).table=⟨fa,fi⟩ from hfi] at h3
     refine ⟨_,M3,[(bw,rowO (ZW.segs ⟨⟨⟨⟨ua,ui⟩,⟨uq,uj⟩,⟨u1a,u1c,u1l⟩,⟨u2a,u2c,u2l⟩⟩,Zr,Zs,ZH,Zv,ZT,(-1),ZA,Zw,Zq,Zy,Zp,Zz,⟨Zu,Zt,Zl⟩,ZG,ZJ⟩,⟨o9a,o9c,o9l⟩⟩) 68)],rfl,((hm1.trans hm2).trans hm3),hw.c,rfl,⟨⟨⟨ua,ui⟩,⟨uq,uj⟩,⟨u1a,u1c,u1l⟩,⟨u2a,u2c,u2l⟩⟩,Zr,Zs,ZH,Zv,ZT,(-1),ZA,Zw,Zq,Zy,Zp,Zz,⟨Zu,Zt,Zl⟩,ZG,ZJ⟩,⟨o9a,o9c,o9l⟩,rfl,?_,?_,⟨oku.mono hm3,((Yz.mono hm1).mono hm2).mono hm3⟩,k9o,fun y hy=>?_⟩
     ·rw [h3] <;> rfl
     ·rw [h3]
      show sndl o9l=_
      rw [hl9];rfl
     ·simp only at hy
      rw [hl9] at hy
      obtain rfl:=List.mem_singleton.1 hy
      exact ⟨⟨SlK.nil,SlK.nil⟩⟩
    ·replace hc4:=dF hc4
     refine YG (Zn (Y_pk [0] ?_));refine Wb (l:=[0,1,2,3,4,5,6,7,8,9,10]) [10] rfl ?_
     iterate 2 refine Zx ?_
     refine Yn ?_;refine Zk F.foff68_0 ?_;refine Zk F.foff32_0 ?_;refine ZD F.lay28 ?_;refine X_fs rfl rfl F.ok41 rfl (First_ok _ ⟨⟨wa,wi⟩,⟨wq,wj⟩,⟨w1a,w1c,w1l⟩,⟨w2a,w2c,w2l⟩⟩ okt) rfl ?_
     rintro _ rfl
     obtain ⟨⟨fa,fi⟩,hfi⟩:∃ x,Wi (ZQ.tb ⟨⟨wa,wi⟩,⟨wq,wj⟩,⟨w1a,w1c,w1l⟩,⟨w2a,w2c,w2l⟩⟩)=x:=⟨_,rfl⟩
     rw [hfi]
     refine Y_field F.fld25_0 F.lay3 ?_;refine X_fs rfl rfl F.ok66 rfl (VG _) rfl ?_
     rintro _ rfl
     refine VA 60 rfl (show _=aggV [.one (.int .i64 (-1)),Yt 0] from rfl) ?_;refine Xr rfl rfl F.bld44 (.cons rfl (by constructor) (.cons rfl (by constructor) .nil)) rfl rfl ?_;refine Vp rfl rfl rfl F.ok65 rfl (sendF_ok M1 bw wa wi wq wj w1a w2a Zu w1c w2c Zt w1l w2l Zl Zr Zs ZH Zv ZT (-1) ZA Zw Zq Zy Zp Zz ZG ZJ fa ⟨5,⟨0,0⟩,0,0,⟨none,0,[]⟩,false,⟨-1,0⟩,⟨none,0,[]⟩⟩) (by repeat first|exact Rem.here _|exact Rem.two|apply Rem.skip|apply Rem.over) (YV rfl) ?_
     rintro _ M3 hs3 hm3 ⟨rfl,⟨o9a,o9c,o9l⟩,rfl,k9o,hl9⟩
     simp only at hl9
     simp only [List.append_assoc,List.cons_append,List.nil_append]
     refine Zo (WP ?_)
     refine Yk (.inl rfl) (.nil) (fun w hw=>?_)
     have h3:=(does4 (n:=(ZR.nd ⟨⟨⟨Za,Zb⟩,⟨Zf,Zh⟩,⟨Zj,Zi,Zg⟩,⟨Ze,Zd,Zc⟩⟩,Zr,Zs,ZH,Zv,ZT,ZC,ZA,Zw,Zq,Zy,Zp,Zz,⟨Zu,Zt,Zl⟩,ZG,ZJ⟩)) (l:=(ZP.lt ⟨Yb,⟨ZM,Ye⟩,YB,l_id,⟨ZY,ZX,ZN⟩,Ys,⟨ZI,ZS⟩,⟨ZZ,ZV,ZL⟩⟩)) hk).trans (told_not (m:=ZR.nd ⟨⟨⟨wa,wi⟩,⟨wq,wj⟩,⟨w1a,w1c,w1l⟩,⟨w2a,w2c,w2l⟩⟩,Zr,Zs,ZH,Zv,ZT,(-1),ZA,Zw,Zq,Zy,Zp,Zz,⟨Zu,Zt,Zl⟩,ZG,ZJ⟩) (show (ZR.nd ⟨⟨⟨Za,Zb⟩,⟨Zf,Zh⟩,⟨Zj,Zi,Zg⟩,⟨Ze,Zd,Zc⟩⟩,Zr,Zs,ZH,Zv,ZT,ZC,ZA,Zw,Zq,Zy,Zp,Zz,⟨Zu,Zt,Zl⟩,ZG,ZJ⟩).askTo=(ZP.lt ⟨Yb,⟨ZM,Ye⟩,YB,l_id,⟨ZY,ZX,ZN⟩,Ys,⟨ZI,ZS⟩,⟨ZZ,ZV,ZL⟩⟩).frm.addr by show ZC=ZM;first|assumption|omega) (show (ZR.nd ⟨⟨⟨Za,Zb⟩,⟨Zf,Zh⟩,⟨Zj,Zi,Zg⟩,⟨Ze,Zd,Zc⟩⟩,Zr,Zs,ZH,Zv,ZT,ZC,ZA,Zw,Zq,Zy,Zp,Zz,⟨Zu,Zt,Zl⟩,ZG,ZJ⟩).askReq=(ZP.lt ⟨Yb,⟨ZM,Ye⟩,YB,l_id,⟨ZY,ZX,ZN⟩,Ys,⟨ZI,ZS⟩,⟨ZZ,ZV,ZL⟩⟩).req by show ZA=YB;first|assumption|omega) hv1 (show ¬VP (ZQ.tb ⟨⟨wa,wi⟩,⟨wq,wj⟩,⟨w1a,w1c,w1l⟩,⟨w2a,w2c,w2l⟩⟩) ⟨ZI,ZS⟩ by assumption))
     rw [show Wi (ZR.nd ⟨⟨⟨wa,wi⟩,⟨wq,wj⟩,⟨w1a,w1c,w1l⟩,⟨w2a,w2c,w2l⟩⟩,Zr,Zs,ZH,Zv,ZT,(-1),ZA,Zw,Zq,Zy,Zp,Zz,⟨Zu,Zt,Zl⟩,ZG,ZJ⟩).table=⟨fa,fi⟩ from hfi] at h3
     refine ⟨_,M3,[(bw,rowO (ZW.segs ⟨⟨⟨⟨wa,wi⟩,⟨wq,wj⟩,⟨w1a,w1c,w1l⟩,⟨w2a,w2c,w2l⟩⟩,Zr,Zs,ZH,Zv,ZT,(-1),ZA,Zw,Zq,Zy,Zp,Zz,⟨Zu,Zt,Zl⟩,ZG,ZJ⟩,⟨o9a,o9c,o9l⟩⟩) 68)],rfl,(hm1.trans hm3),hw.c,rfl,⟨⟨⟨wa,wi⟩,⟨wq,wj⟩,⟨w1a,w1c,w1l⟩,⟨w2a,w2c,w2l⟩⟩,Zr,Zs,ZH,Zv,ZT,(-1),ZA,Zw,Zq,Zy,Zp,Zz,⟨Zu,Zt,Zl⟩,ZG,ZJ⟩,⟨o9a,o9c,o9l⟩,rfl,?_,?_,⟨okt.mono hm3,(Yz.mono hm1).mono hm3⟩,k9o,fun y hy=>?_⟩
     ·rw [h3] <;> rfl
     ·rw [h3]
      show sndl o9l=_
      rw [hl9];rfl
     ·simp only at hy
      rw [hl9] at hy
      obtain rfl:=List.mem_singleton.1 hy
      exact ⟨⟨SlK.nil,SlK.nil⟩⟩
end Go.Proofs.YtajmnjefajknoaaGreat
namespace Go.Proofs.YtajmnjefajknoaaGreat
open Go.Esp
theorem bye_ok (M:Mem) (bw:Nat) (Za:Int) (Zb:Plc) (Zf:Int) (Zh:Plc) (Zj Ze Zu:Option Addr) (Zi Zd Zt:Nat) (Zg Zc:List ZF) (Zl:List Int) (Zr:Int) (Zs:Bool) (ZH Zv ZT ZC ZA Zw Zq Zy Zp:Int) (Zz:Plc) (ZG ZJ:Int) (Yv:ZQ.ok M ⟨⟨Za,Zb⟩,⟨Zf,Zh⟩,⟨Zj,Zi,Zg⟩,⟨Ze,Zd,Zc⟩⟩) (Yz:SlK M (oneI .i64) 1 ⟨Zu,Zt,Zl⟩) (hbig:Zg.length≤40∧Zc.length≤200) (hLa:Zl.length≤1000) (hh:0≤ZG∧ZG≤1000) (l:ZP) (hl0:ZP.ok M l) (hLp:l.peers.l.length≤1000) (hk:l.kind=8):Fh Tryz.prog 52 [.pointer (some ⟨bw,0,none⟩),l.enc] M [(bw,rowO (ZW.segs ⟨⟨⟨⟨Za,Zb⟩,⟨Zf,Zh⟩,⟨Zj,Zi,Zg⟩,⟨Ze,Zd,Zc⟩⟩,Zr,Zs,ZH,Zv,ZT,ZC,ZA,Zw,Zq,Zy,Zp,Zz,⟨Zu,Zt,Zl⟩,ZG,ZJ⟩,⟨none,0,[]⟩⟩) 68)] (fun M' v Hout=>v=.tuple #[]∧WkF bw 68 M' Hout (XO (ZR.nd ⟨⟨⟨Za,Zb⟩,⟨Zf,Zh⟩,⟨Zj,Zi,Zg⟩,⟨Ze,Zd,Zc⟩⟩,Zr,Zs,ZH,Zv,ZT,ZC,ZA,Zw,Zq,Zy,Zp,Zz,⟨Zu,Zt,Zl⟩,ZG,ZJ⟩) l.lt)):=by
  obtain ⟨Yb,⟨ZM,Ye⟩,YB,l_id,⟨ZY,ZX,ZN⟩,Ys,⟨ZI,ZS⟩,⟨ZZ,ZV,ZL⟩⟩:=l
  simp only at hLp hk
  have Xl:SlK M (oneI .i64) 1 ⟨ZY,ZX,ZN⟩:=hl0.h0
  have Xb:SlK M ZF.segs 21 ⟨ZZ,ZV,ZL⟩:=hl0.h1
  have XT:=Xb.h1
  simp only at XT
  have WR:(ZL.map ZF.segs).length=ZL.length:=List.length_map ..
  have WS:ZL.length≤ZV:=Xb.h3
  refine Wt (fun H=>(bw,rowO (ZW.segs ⟨⟨⟨⟨Za,Zb⟩,⟨Zf,Zh⟩,⟨Zj,Zi,Zg⟩,⟨Ze,Zd,Zc⟩⟩,Zr,Zs,ZH,Zv,ZT,ZC,ZA,Zw,Zq,Zy,Zp,Zz,⟨Zu,Zt,Zl⟩,ZG,ZJ⟩,⟨none,0,[]⟩⟩) 68)::H) (fun _=>by simp only [List.append_assoc,List.cons_append,List.nil_append]) Tryz.func52 rfl Tryz.ntmps52 rfl ?_;intro H
  refine ZK (Zm (l:=[0]) rfl ?_)
  refine Xk ?_;intro b1
  refine Zo (Zn (Y_pk [3,0] ?_));refine ZK (YK (l:=[0,1,2,3,4,5,6,7,8,9,10,11,12,13,14,15,16,17,18,19,20,21,22,23]) #[0,1,3,7,15,31,63,0,128,384,1023,0,2048,6144,14336,30720,63488,129024,0,262144,786432,2095104,131071,8388607] _ rfl (by kernel_rfl) (by kernel_rfl) St.drawn (fun _ h=>h) ?_);refine Zx ?_;refine Yn ?_;refine Zk F.foff68_0 ?_;refine Zk F.foff32_0 ?_;refine Zk F.foff28_1 ?_;refine Zk F.foff25_0 ?_;refine ZD F.lay3 ?_;refine Zk F.foff44_1 ?_;refine Zk F.foff25_0 ?_;refine ZD F.lay3 ?_;refine YI ?_;refine Zx ?_;refine Yn ?_;refine Zk F.foff68_0 ?_;refine Zk F.foff32_0 ?_;refine ZD F.lay28 ?_;refine X_fs rfl rfl F.ok41 rfl (First_ok _ ⟨⟨Za,Zb⟩,⟨Zf,Zh⟩,⟨Zj,Zi,Zg⟩,⟨Ze,Zd,Zc⟩⟩ Yv) rfl ?_
  rintro _ rfl
  obtain ⟨⟨fa,fi⟩,hfi⟩:∃ x,Wi (ZQ.tb ⟨⟨Za,Zb⟩,⟨Zf,Zh⟩,⟨Zj,Zi,Zg⟩,⟨Ze,Zd,Zc⟩⟩)=x:=⟨_,rfl⟩
  rw [hfi]
  refine Y_field F.fld25_0 F.lay3 ?_;refine Zk F.foff44_1 ?_;refine Zk F.foff25_0 ?_;refine ZD F.lay3 ?_;refine YI ?_
  iterate 2 refine ZB ?_
  refine Zo (Zn (Y_pk [5,4,3,0] ?_));refine ZK (YK (l:=[0,1,2,3,4,5,6,7,8,9,10,11,12,13]) #[0,0,2,6,14,30,0,64,192,510,1023,2047,4095,8191] _ rfl (by kernel_rfl) (by kernel_rfl) St.drawn (fun _ h=>h) ?_)
  iterate 2 refine Zx ?_
  refine Yn ?_;refine Zk F.foff68_0 ?_;refine Zk F.foff32_0 ?_;refine ZD F.lay28 ?_;refine Zk F.foff44_1 ?_;refine Zk F.foff25_0 ?_;refine ZD F.lay3 ?_;refine X_fn rfl rfl F.ok108 rfl (Forget_ok _ ⟨⟨Za,Zb⟩,⟨Zf,Zh⟩,⟨Zj,Zi,Zg⟩,⟨Ze,Zd,Zc⟩⟩ ZM Yv hbig) rfl ?_
  rintro _ M1 hm1 ⟨⟨⟨oa,oi⟩,⟨oq,oj⟩,⟨o1a,o1c,o1l⟩,⟨o2a,o2c,o2l⟩⟩,rfl,hot,okt⟩
  refine Yn ?_;refine Zk F.foff68_0 ?_;refine Zk F.foff32_0 ?_;refine Yh F.lay28 ?_;refine Zo (Zn (Y_pk [5,4,3,0] ?_))
  iterate 2 refine ZK ?_
  refine Zm (l:=[0]) rfl ?_;refine Zx ?_;refine Zo (Zn (Y_pk [41,5,3,0] ?_))
  refine YA rfl (fun hc2=>?_) (fun hc2=>?_)
  ·replace hc2:=dT hc2
   refine YK (l:=[0,1,2,3,4,5,6,7,8,9,10,11,12]) #[0,0,2,6,14,30,0,64,254,511,1023,2047,4095] _ rfl (by kernel_rfl) (by kernel_rfl) St.drawn (fun _ h=>h) ?_
   iterate 2 refine Zx ?_
   refine Yn ?_;refine Zk F.foff68_0 ?_;refine Zk F.foff32_0 ?_;refine ZD F.lay28 ?_;refine Zk F.foff44_6 ?_;refine ZD F.lay25 ?_;refine X_fn rfl rfl F.ok107 rfl (Learn_ok _ ⟨⟨oa,oi⟩,⟨oq,oj⟩,⟨o1a,o1c,o1l⟩,⟨o2a,o2c,o2l⟩⟩ ⟨ZI,ZS⟩ okt) rfl ?_
   rintro _ M2 hm2 ⟨⟨⟨wa,wi⟩,⟨wq,wj⟩,⟨w1a,w1c,w1l⟩,⟨w2a,w2c,w2l⟩⟩,rfl,hol,okl⟩
   refine Yn ?_;refine Zk F.foff68_0 ?_;refine Zk F.foff32_0 ?_;refine Yh F.lay28 ?_;refine Zo (Zn (Y_pk [5,3,0] ?_));refine ZK ?_
   have s_lp9:=XT.mono (hm1.trans hm2)
   refine Zm (l:=[0,1,2,3,4,5,6]) rfl ?_
   iterate 2 refine Zx ?_
   refine Yj 55 rfl (fun hc3=>?_) (fun hc3=>?_)
   ·replace hc3:=dT hc3
    refine Zk F.foff44_7 ?_;refine ZD F.lay26 ?_;refine YY F.elem26 ?_;refine YI ?_;refine ZO ?_;refine Zo (Zn (Y_pk [60,3,0] ?_))
    refine YA rfl (fun hc4=>?_) (fun hc4=>?_)
    ·replace hc4:=dT hc4
     refine C_region_anyW (l:=[0,1,2,3,4,5,6,7,8]) [8] #[0,0,2,6,14,0,32,96,255] (_) rfl (by kernel_rfl) (by kernel_rfl) St.drawn (fun _ h=>h) ?_;refine Zx ?_;refine Zk F.foff44_7 ?_;refine ZD F.lay26 ?_;refine YR rfl rfl rfl rfl F.elem26 (by rfl) (by (simp;omega)) (by exact SlM.plain (by assumption) (by (simp;omega))) rfl ?_;refine Xm rfl rfl rfl (by assumption) (by exact XP (by (simp;omega))) F.lay25 rfl rfl rfl ?_;refine Zk F.foff44_7 ?_;refine ZD F.lay26 ?_;refine WY rfl rfl rfl (.some (k:=1) rfl rfl) .none .none F.elem26 (by simp only [Option.getD_none];omega) (by simp only [Option.getD_some,Option.getD_none];omega) (by simp only [Option.getD_some,Option.getD_none];omega) (by simp) (pieceV_drop (l:=ZL) (k:=1)) rfl ?_;refine Vp rfl rfl rfl F.ok82 rfl (adopt_ok M2 bw wa wi wq wj w1a w2a Zu w1c w2c Zt w1l w2l Zl Zr Zs ZH Zv ZT ZC ZA Zw Zq Zy Zp Zz ZG ZJ okl ZL[0] ⟨_,_,ZL.drop 1⟩ ((Xb.mono (hm1.trans hm2)).drop 1 (by omega))) (by repeat first|exact Rem.here _|exact Rem.two|apply Rem.skip|apply Rem.over) (YV rfl) ?_
     rintro _ M3 hs3 hm3 ⟨rfl,⟨⟨ua,ui⟩,⟨uq,uj⟩,⟨u1a,u1c,u1l⟩,⟨u2a,u2c,u2l⟩⟩,rfl,oku,hv1⟩
     simp only [List.append_assoc,List.cons_append,List.nil_append]
     refine Zo (WP ?_)
     refine Yk (.inl rfl) (.nil) (fun w hw=>?_)
     have h2:ZR.nd ⟨⟨⟨wa,wi⟩,⟨wq,wj⟩,⟨w1a,w1c,w1l⟩,⟨w2a,w2c,w2l⟩⟩,Zr,Zs,ZH,Zv,ZT,ZC,ZA,Zw,Zq,Zy,Zp,Zz,⟨Zu,Zt,Zl⟩,ZG,ZJ⟩={ ZR.nd ⟨⟨⟨Za,Zb⟩,⟨Zf,Zh⟩,⟨Zj,Zi,Zg⟩,⟨Ze,Zd,Zc⟩⟩,Zr,Zs,ZH,Zv,ZT,ZC,ZA,Zw,Zq,Zy,Zp,Zz,⟨Zu,Zt,Zl⟩,ZG,ZJ⟩ with table:=byeT (ZR.nd ⟨⟨⟨Za,Zb⟩,⟨Zf,Zh⟩,⟨Zj,Zi,Zg⟩,⟨Ze,Zd,Zc⟩⟩,Zr,Zs,ZH,Zv,ZT,ZC,ZA,Zw,Zq,Zy,Zp,Zz,⟨Zu,Zt,Zl⟩,ZG,ZJ⟩) (ZP.lt ⟨Yb,⟨ZM,Ye⟩,YB,l_id,⟨ZY,ZX,ZN⟩,Ys,⟨ZI,ZS⟩,⟨ZZ,ZV,ZL⟩⟩) }:=by
      unfold byeT
      rw [if_pos (show (ZR.nd ⟨⟨⟨Za,Zb⟩,⟨Zf,Zh⟩,⟨Zj,Zi,Zg⟩,⟨Ze,Zd,Zc⟩⟩,Zr,Zs,ZH,Zv,ZT,ZC,ZA,Zw,Zq,Zy,Zp,Zz,⟨Zu,Zt,Zl⟩,ZG,ZJ⟩).table.pred.addr=(ZP.lt ⟨Yb,⟨ZM,Ye⟩,YB,l_id,⟨ZY,ZX,ZN⟩,Ys,⟨ZI,ZS⟩,⟨ZZ,ZV,ZL⟩⟩).frm.addr from (show Zf=ZM by assumption)),show Wm (ZR.nd ⟨⟨⟨Za,Zb⟩,⟨Zf,Zh⟩,⟨Zj,Zi,Zg⟩,⟨Ze,Zd,Zc⟩⟩,Zr,Zs,ZH,Zv,ZT,ZC,ZA,Zw,Zq,Zy,Zp,Zz,⟨Zu,Zt,Zl⟩,ZG,ZJ⟩).table (ZP.lt ⟨Yb,⟨ZM,Ye⟩,YB,l_id,⟨ZY,ZX,ZN⟩,Ys,⟨ZI,ZS⟩,⟨ZZ,ZV,ZL⟩⟩).frm.addr=_ from hot.symm,show Vs (ZQ.tb ⟨⟨oa,oi⟩,⟨oq,oj⟩,⟨o1a,o1c,o1l⟩,⟨o2a,o2c,o2l⟩⟩) (ZP.lt ⟨Yb,⟨ZM,Ye⟩,YB,l_id,⟨ZY,ZX,ZN⟩,Ys,⟨ZI,ZS⟩,⟨ZZ,ZV,ZL⟩⟩).peer=_ from hol.symm];rfl
     have h3:XO (ZR.nd ⟨⟨⟨Za,Zb⟩,⟨Zf,Zh⟩,⟨Zj,Zi,Zg⟩,⟨Ze,Zd,Zc⟩⟩,Zr,Zs,ZH,Zv,ZT,ZC,ZA,Zw,Zq,Zy,Zp,Zz,⟨Zu,Zt,Zl⟩,ZG,ZJ⟩) (ZP.lt ⟨Yb,⟨ZM,Ye⟩,YB,l_id,⟨ZY,ZX,ZN⟩,Ys,⟨ZI,ZS⟩,⟨ZZ,ZV,ZL⟩⟩)=(ZR.nd ⟨⟨⟨ua,ui⟩,⟨uq,uj⟩,⟨u1a,u1c,u1l⟩,⟨u2a,u2c,u2l⟩⟩,Zr,Zs,ZH,Zv,ZT,ZC,ZA,Zw,Zq,Zy,Zp,Zz,⟨Zu,Zt,Zl⟩,ZG,ZJ⟩,[]):=(does8 hk).trans (congrArg (fun x=>(x,([]:List Snd))) ((bye_yes h2 (show (Wi (ZQ.tb ⟨⟨Za,Zb⟩,⟨Zf,Zh⟩,⟨Zj,Zi,Zg⟩,⟨Ze,Zd,Zc⟩⟩)).addr=ZM by rw [hfi];assumption) (show 0<ZL.length by omega)).trans hv1.symm))
     refine ⟨_,M3,[(bw,rowO (ZW.segs ⟨⟨⟨⟨ua,ui⟩,⟨uq,uj⟩,⟨u1a,u1c,u1l⟩,⟨u2a,u2c,u2l⟩⟩,Zr,Zs,ZH,Zv,ZT,ZC,ZA,Zw,Zq,Zy,Zp,Zz,⟨Zu,Zt,Zl⟩,ZG,ZJ⟩,⟨none,0,[]⟩⟩) 68)],rfl,((hm1.trans hm2).trans hm3),hw.c,rfl,⟨⟨⟨ua,ui⟩,⟨uq,uj⟩,⟨u1a,u1c,u1l⟩,⟨u2a,u2c,u2l⟩⟩,Zr,Zs,ZH,Zv,ZT,ZC,ZA,Zw,Zq,Zy,Zp,Zz,⟨Zu,Zt,Zl⟩,ZG,ZJ⟩,⟨none,0,[]⟩,rfl,?_,?_,⟨oku,((Yz.mono hm1).mono hm2).mono hm3⟩,SlK.nil,fun y hy=>by cases hy⟩
     ·rw [h3] <;> rfl
     ·rw [h3] <;> rfl
    ·replace hc4:=dF hc4
     refine YG ?_
     refine Yk (.inl rfl) (.nil) (fun w hw=>?_)
     have h2:ZR.nd ⟨⟨⟨wa,wi⟩,⟨wq,wj⟩,⟨w1a,w1c,w1l⟩,⟨w2a,w2c,w2l⟩⟩,Zr,Zs,ZH,Zv,ZT,ZC,ZA,Zw,Zq,Zy,Zp,Zz,⟨Zu,Zt,Zl⟩,ZG,ZJ⟩={ ZR.nd ⟨⟨⟨Za,Zb⟩,⟨Zf,Zh⟩,⟨Zj,Zi,Zg⟩,⟨Ze,Zd,Zc⟩⟩,Zr,Zs,ZH,Zv,ZT,ZC,ZA,Zw,Zq,Zy,Zp,Zz,⟨Zu,Zt,Zl⟩,ZG,ZJ⟩ with table:=byeT (ZR.nd ⟨⟨⟨Za,Zb⟩,⟨Zf,Zh⟩,⟨Zj,Zi,Zg⟩,⟨Ze,Zd,Zc⟩⟩,Zr,Zs,ZH,Zv,ZT,ZC,ZA,Zw,Zq,Zy,Zp,Zz,⟨Zu,Zt,Zl⟩,ZG,ZJ⟩) (ZP.lt ⟨Yb,⟨ZM,Ye⟩,YB,l_id,⟨ZY,ZX,ZN⟩,Ys,⟨ZI,ZS⟩,⟨ZZ,ZV,ZL⟩⟩) }:=by
      unfold byeT
      rw [if_pos (show (ZR.nd ⟨⟨⟨Za,Zb⟩,⟨Zf,Zh⟩,⟨Zj,Zi,Zg⟩,⟨Ze,Zd,Zc⟩⟩,Zr,Zs,ZH,Zv,ZT,ZC,ZA,Zw,Zq,Zy,Zp,Zz,⟨Zu,Zt,Zl⟩,ZG,ZJ⟩).table.pred.addr=(ZP.lt ⟨Yb,⟨ZM,Ye⟩,YB,l_id,⟨ZY,ZX,ZN⟩,Ys,⟨ZI,ZS⟩,⟨ZZ,ZV,ZL⟩⟩).frm.addr from (show Zf=ZM by assumption)),show Wm (ZR.nd ⟨⟨⟨Za,Zb⟩,⟨Zf,Zh⟩,⟨Zj,Zi,Zg⟩,⟨Ze,Zd,Zc⟩⟩,Zr,Zs,ZH,Zv,ZT,ZC,ZA,Zw,Zq,Zy,Zp,Zz,⟨Zu,Zt,Zl⟩,ZG,ZJ⟩).table (ZP.lt ⟨Yb,⟨ZM,Ye⟩,YB,l_id,⟨ZY,ZX,ZN⟩,Ys,⟨ZI,ZS⟩,⟨ZZ,ZV,ZL⟩⟩).frm.addr=_ from hot.symm,show Vs (ZQ.tb ⟨⟨oa,oi⟩,⟨oq,oj⟩,⟨o1a,o1c,o1l⟩,⟨o2a,o2c,o2l⟩⟩) (ZP.lt ⟨Yb,⟨ZM,Ye⟩,YB,l_id,⟨ZY,ZX,ZN⟩,Ys,⟨ZI,ZS⟩,⟨ZZ,ZV,ZL⟩⟩).peer=_ from hol.symm];rfl
     have h3:XO (ZR.nd ⟨⟨⟨Za,Zb⟩,⟨Zf,Zh⟩,⟨Zj,Zi,Zg⟩,⟨Ze,Zd,Zc⟩⟩,Zr,Zs,ZH,Zv,ZT,ZC,ZA,Zw,Zq,Zy,Zp,Zz,⟨Zu,Zt,Zl⟩,ZG,ZJ⟩) (ZP.lt ⟨Yb,⟨ZM,Ye⟩,YB,l_id,⟨ZY,ZX,ZN⟩,Ys,⟨ZI,ZS⟩,⟨ZZ,ZV,ZL⟩⟩)=(ZR.nd ⟨⟨⟨wa,wi⟩,⟨wq,wj⟩,⟨w1a,w1c,w1l⟩,⟨w2a,w2c,w2l⟩⟩,Zr,Zs,ZH,Zv,ZT,ZC,ZA,Zw,Zq,Zy,Zp,Zz,⟨Zu,Zt,Zl⟩,ZG,ZJ⟩,[]):=(does8 hk).trans (congrArg (fun x=>(x,([]:List Snd))) (bye_no h2 (fun q1 q2=>(by
      replace q1:(Wi (ZQ.tb ⟨⟨Za,Zb⟩,⟨Zf,Zh⟩,⟨Zj,Zi,Zg⟩,⟨Ze,Zd,Zc⟩⟩)).addr=ZM:=q1
      replace q2:0<ZL.length:=q2
      rw [hfi] at q1
      (exfalso;omega)))))
     refine ⟨_,M2,[(bw,rowO (ZW.segs ⟨⟨⟨⟨wa,wi⟩,⟨wq,wj⟩,⟨w1a,w1c,w1l⟩,⟨w2a,w2c,w2l⟩⟩,Zr,Zs,ZH,Zv,ZT,ZC,ZA,Zw,Zq,Zy,Zp,Zz,⟨Zu,Zt,Zl⟩,ZG,ZJ⟩,⟨none,0,[]⟩⟩) 68)],rfl,(hm1.trans hm2),hw.c,rfl,⟨⟨⟨wa,wi⟩,⟨wq,wj⟩,⟨w1a,w1c,w1l⟩,⟨w2a,w2c,w2l⟩⟩,Zr,Zs,ZH,Zv,ZT,ZC,ZA,Zw,Zq,Zy,Zp,Zz,⟨Zu,Zt,Zl⟩,ZG,ZJ⟩,⟨none,0,[]⟩,rfl,?_,?_,⟨okl,((Yz.mono hm1).mono hm2)⟩,SlK.nil,fun y hy=>by cases hy⟩
     ·rw [h3] <;> rfl
     ·rw [h3] <;> rfl
   ·replace hc3:=dF hc3
    iterate 4 refine Ya ?_
    refine ZO ?_;refine Zo (Zn (Y_pk [60,3,0] ?_));refine Wn rfl ?_;refine YG ?_
    refine Yk (.inl rfl) (.nil) (fun w hw=>?_)
    have h2:ZR.nd ⟨⟨⟨wa,wi⟩,⟨wq,wj⟩,⟨w1a,w1c,w1l⟩,⟨w2a,w2c,w2l⟩⟩,Zr,Zs,ZH,Zv,ZT,ZC,ZA,Zw,Zq,Zy,Zp,Zz,⟨Zu,Zt,Zl⟩,ZG,ZJ⟩={ ZR.nd ⟨⟨⟨Za,Zb⟩,⟨Zf,Zh⟩,⟨Zj,Zi,Zg⟩,⟨Ze,Zd,Zc⟩⟩,Zr,Zs,ZH,Zv,ZT,ZC,ZA,Zw,Zq,Zy,Zp,Zz,⟨Zu,Zt,Zl⟩,ZG,ZJ⟩ with table:=byeT (ZR.nd ⟨⟨⟨Za,Zb⟩,⟨Zf,Zh⟩,⟨Zj,Zi,Zg⟩,⟨Ze,Zd,Zc⟩⟩,Zr,Zs,ZH,Zv,ZT,ZC,ZA,Zw,Zq,Zy,Zp,Zz,⟨Zu,Zt,Zl⟩,ZG,ZJ⟩) (ZP.lt ⟨Yb,⟨ZM,Ye⟩,YB,l_id,⟨ZY,ZX,ZN⟩,Ys,⟨ZI,ZS⟩,⟨ZZ,ZV,ZL⟩⟩) }:=by
     unfold byeT
     rw [if_pos (show (ZR.nd ⟨⟨⟨Za,Zb⟩,⟨Zf,Zh⟩,⟨Zj,Zi,Zg⟩,⟨Ze,Zd,Zc⟩⟩,Zr,Zs,ZH,Zv,ZT,ZC,ZA,Zw,Zq,Zy,Zp,Zz,⟨Zu,Zt,Zl⟩,ZG,ZJ⟩).table.pred.addr=(ZP.lt ⟨Yb,⟨ZM,Ye⟩,YB,l_id,⟨ZY,ZX,ZN⟩,Ys,⟨ZI,ZS⟩,⟨ZZ,ZV,ZL⟩⟩).frm.addr from (show Zf=ZM by assumption)),show Wm (ZR.nd ⟨⟨⟨Za,Zb⟩,⟨Zf,Zh⟩,⟨Zj,Zi,Zg⟩,⟨Ze,Zd,Zc⟩⟩,Zr,Zs,ZH,Zv,ZT,ZC,ZA,Zw,Zq,Zy,Zp,Zz,⟨Zu,Zt,Zl⟩,ZG,ZJ⟩).table (ZP.lt ⟨Yb,⟨ZM,Ye⟩,YB,l_id,⟨ZY,ZX,ZN⟩,Ys,⟨ZI,ZS⟩,⟨ZZ,ZV,ZL⟩⟩).frm.addr=_ from hot.symm,show Vs (ZQ.tb ⟨⟨oa,oi⟩,⟨oq,oj⟩,⟨o1a,o1c,o1l⟩,⟨o2a,o2c,o2l⟩⟩) (ZP.lt ⟨Yb,⟨ZM,Ye⟩,YB,l_id,⟨ZY,ZX,ZN⟩,Ys,⟨ZI,ZS⟩,⟨ZZ,ZV,ZL⟩⟩).peer=_ from hol.symm];rfl
    have h3:XO (ZR.nd ⟨⟨⟨Za,Zb⟩,⟨Zf,Zh⟩,⟨Zj,Zi,Zg⟩,⟨Ze,Zd,Zc⟩⟩,Zr,Zs,ZH,Zv,ZT,ZC,ZA,Zw,Zq,Zy,Zp,Zz,⟨Zu,Zt,Zl⟩,ZG,ZJ⟩) (ZP.lt ⟨Yb,⟨ZM,Ye⟩,YB,l_id,⟨ZY,ZX,ZN⟩,Ys,⟨ZI,ZS⟩,⟨ZZ,ZV,ZL⟩⟩)=(ZR.nd ⟨⟨⟨wa,wi⟩,⟨wq,wj⟩,⟨w1a,w1c,w1l⟩,⟨w2a,w2c,w2l⟩⟩,Zr,Zs,ZH,Zv,ZT,ZC,ZA,Zw,Zq,Zy,Zp,Zz,⟨Zu,Zt,Zl⟩,ZG,ZJ⟩,[]):=(does8 hk).trans (congrArg (fun x=>(x,([]:List Snd))) (bye_no h2 (fun q1 q2=>(by
     replace q1:(Wi (ZQ.tb ⟨⟨Za,Zb⟩,⟨Zf,Zh⟩,⟨Zj,Zi,Zg⟩,⟨Ze,Zd,Zc⟩⟩)).addr=ZM:=q1
     replace q2:0<ZL.length:=q2
     rw [hfi] at q1
     contradiction))))
    refine ⟨_,M2,[(bw,rowO (ZW.segs ⟨⟨⟨⟨wa,wi⟩,⟨wq,wj⟩,⟨w1a,w1c,w1l⟩,⟨w2a,w2c,w2l⟩⟩,Zr,Zs,ZH,Zv,ZT,ZC,ZA,Zw,Zq,Zy,Zp,Zz,⟨Zu,Zt,Zl⟩,ZG,ZJ⟩,⟨none,0,[]⟩⟩) 68)],rfl,(hm1.trans hm2),hw.c,rfl,⟨⟨⟨wa,wi⟩,⟨wq,wj⟩,⟨w1a,w1c,w1l⟩,⟨w2a,w2c,w2l⟩⟩,Zr,Zs,ZH,Zv,ZT,ZC,ZA,Zw,Zq,Zy,Zp,Zz,⟨Zu,Zt,Zl⟩,ZG,ZJ⟩,⟨none,0,[]⟩,rfl,?_,?_,⟨okl,((Yz.mono hm1).mono hm2)⟩,SlK.nil,fun y hy=>by cases hy⟩
    ·rw [h3] <;> rfl
    ·rw [h3] <;> rfl
  ·replace hc2:=dF hc2
   refine YG (Zn (Y_pk [5,3,0] ?_));refine ZK ?_
   have s_lp9:=XT.mono hm1
   refine Zm (l:=[0,1,2,3,4,5,6]) rfl ?_
   iterate 2 refine Zx ?_
   refine Yj 55 rfl (fun hc5=>?_) (fun hc5=>?_)
   ·replace hc5:=dT hc5
    refine Zk F.foff44_7 ?_;refine ZD F.lay26 ?_;refine YY F.elem26 ?_;refine YI ?_;refine ZO ?_;refine Zo (Zn (Y_pk [60,3,0] ?_))
    refine YA rfl (fun hc6=>?_) (fun hc6=>?_)
    ·replace hc6:=dT hc6
     refine C_region_anyW (l:=[0,1,2,3,4,5,6,7,8]) [8] #[0,0,2,6,14,0,32,96,255] (_) rfl (by kernel_rfl) (by kernel_rfl) St.drawn (fun _ h=>h) ?_;refine Zx ?_;refine Zk F.foff44_7 ?_;refine ZD F.lay26 ?_;refine YR rfl rfl rfl rfl F.elem26 (by rfl) (by (simp;omega)) (by exact SlM.plain (by assumption) (by (simp;omega))) rfl ?_;refine Xm rfl rfl rfl (by assumption) (by exact XP (by (simp;omega))) F.lay25 rfl rfl rfl ?_;refine Zk F.foff44_7 ?_;refine ZD F.lay26 ?_;refine WY rfl rfl rfl (.some (k:=1) rfl rfl) .none .none F.elem26 (by simp only [Option.getD_none];omega) (by simp only [Option.getD_some,Option.getD_none];omega) (by simp only [Option.getD_some,Option.getD_none];omega) (by simp) (pieceV_drop (l:=ZL) (k:=1)) rfl ?_;refine Vp rfl rfl rfl F.ok82 rfl (adopt_ok M1 bw oa oi oq oj o1a o2a Zu o1c o2c Zt o1l o2l Zl Zr Zs ZH Zv ZT ZC ZA Zw Zq Zy Zp Zz ZG ZJ okt ZL[0] ⟨_,_,ZL.drop 1⟩ ((Xb.mono hm1).drop 1 (by omega))) (by repeat first|exact Rem.here _|exact Rem.two|apply Rem.skip|apply Rem.over) (YV rfl) ?_
     rintro _ M3 hs3 hm3 ⟨rfl,⟨⟨ua,ui⟩,⟨uq,uj⟩,⟨u1a,u1c,u1l⟩,⟨u2a,u2c,u2l⟩⟩,rfl,oku,hv1⟩
     simp only [List.append_assoc,List.cons_append,List.nil_append]
     refine Zo (WP ?_)
     refine Yk (.inl rfl) (.nil) (fun w hw=>?_)
     have h2:ZR.nd ⟨⟨⟨oa,oi⟩,⟨oq,oj⟩,⟨o1a,o1c,o1l⟩,⟨o2a,o2c,o2l⟩⟩,Zr,Zs,ZH,Zv,ZT,ZC,ZA,Zw,Zq,Zy,Zp,Zz,⟨Zu,Zt,Zl⟩,ZG,ZJ⟩={ ZR.nd ⟨⟨⟨Za,Zb⟩,⟨Zf,Zh⟩,⟨Zj,Zi,Zg⟩,⟨Ze,Zd,Zc⟩⟩,Zr,Zs,ZH,Zv,ZT,ZC,ZA,Zw,Zq,Zy,Zp,Zz,⟨Zu,Zt,Zl⟩,ZG,ZJ⟩ with table:=byeT (ZR.nd ⟨⟨⟨Za,Zb⟩,⟨Zf,Zh⟩,⟨Zj,Zi,Zg⟩,⟨Ze,Zd,Zc⟩⟩,Zr,Zs,ZH,Zv,ZT,ZC,ZA,Zw,Zq,Zy,Zp,Zz,⟨Zu,Zt,Zl⟩,ZG,ZJ⟩) (ZP.lt ⟨Yb,⟨ZM,Ye⟩,YB,l_id,⟨ZY,ZX,ZN⟩,Ys,⟨ZI,ZS⟩,⟨ZZ,ZV,ZL⟩⟩) }:=by
      unfold byeT
      rw [if_neg (show ¬(ZR.nd ⟨⟨⟨Za,Zb⟩,⟨Zf,Zh⟩,⟨Zj,Zi,Zg⟩,⟨Ze,Zd,Zc⟩⟩,Zr,Zs,ZH,Zv,ZT,ZC,ZA,Zw,Zq,Zy,Zp,Zz,⟨Zu,Zt,Zl⟩,ZG,ZJ⟩).table.pred.addr=(ZP.lt ⟨Yb,⟨ZM,Ye⟩,YB,l_id,⟨ZY,ZX,ZN⟩,Ys,⟨ZI,ZS⟩,⟨ZZ,ZV,ZL⟩⟩).frm.addr from (show ¬Zf=ZM by assumption)),show Wm (ZR.nd ⟨⟨⟨Za,Zb⟩,⟨Zf,Zh⟩,⟨Zj,Zi,Zg⟩,⟨Ze,Zd,Zc⟩⟩,Zr,Zs,ZH,Zv,ZT,ZC,ZA,Zw,Zq,Zy,Zp,Zz,⟨Zu,Zt,Zl⟩,ZG,ZJ⟩).table (ZP.lt ⟨Yb,⟨ZM,Ye⟩,YB,l_id,⟨ZY,ZX,ZN⟩,Ys,⟨ZI,ZS⟩,⟨ZZ,ZV,ZL⟩⟩).frm.addr=_ from hot.symm];rfl
     have h3:XO (ZR.nd ⟨⟨⟨Za,Zb⟩,⟨Zf,Zh⟩,⟨Zj,Zi,Zg⟩,⟨Ze,Zd,Zc⟩⟩,Zr,Zs,ZH,Zv,ZT,ZC,ZA,Zw,Zq,Zy,Zp,Zz,⟨Zu,Zt,Zl⟩,ZG,ZJ⟩) (ZP.lt ⟨Yb,⟨ZM,Ye⟩,YB,l_id,⟨ZY,ZX,ZN⟩,Ys,⟨ZI,ZS⟩,⟨ZZ,ZV,ZL⟩⟩)=(ZR.nd ⟨⟨⟨ua,ui⟩,⟨uq,uj⟩,⟨u1a,u1c,u1l⟩,⟨u2a,u2c,u2l⟩⟩,Zr,Zs,ZH,Zv,ZT,ZC,ZA,Zw,Zq,Zy,Zp,Zz,⟨Zu,Zt,Zl⟩,ZG,ZJ⟩,[]):=(does8 hk).trans (congrArg (fun x=>(x,([]:List Snd))) ((bye_yes h2 (show (Wi (ZQ.tb ⟨⟨Za,Zb⟩,⟨Zf,Zh⟩,⟨Zj,Zi,Zg⟩,⟨Ze,Zd,Zc⟩⟩)).addr=ZM by rw [hfi];assumption) (show 0<ZL.length by omega)).trans hv1.symm))
     refine ⟨_,M3,[(bw,rowO (ZW.segs ⟨⟨⟨⟨ua,ui⟩,⟨uq,uj⟩,⟨u1a,u1c,u1l⟩,⟨u2a,u2c,u2l⟩⟩,Zr,Zs,ZH,Zv,ZT,ZC,ZA,Zw,Zq,Zy,Zp,Zz,⟨Zu,Zt,Zl⟩,ZG,ZJ⟩,⟨none,0,[]⟩⟩) 68)],rfl,(hm1.trans hm3),hw.c,rfl,⟨⟨⟨ua,ui⟩,⟨uq,uj⟩,⟨u1a,u1c,u1l⟩,⟨u2a,u2c,u2l⟩⟩,Zr,Zs,ZH,Zv,ZT,ZC,ZA,Zw,Zq,Zy,Zp,Zz,⟨Zu,Zt,Zl⟩,ZG,ZJ⟩,⟨none,0,[]⟩,rfl,?_,?_,⟨oku,(Yz.mono hm1).mono hm3⟩,SlK.nil,fun y hy=>by cases hy⟩
     ·rw [h3] <;> rfl
     ·rw [h3] <;> rfl
    ·replace hc6:=dF hc6
     refine YG ?_
     refine Yk (.inl rfl) (.nil) (fun w hw=>?_)
     have h2:ZR.nd ⟨⟨⟨oa,oi⟩,⟨oq,oj⟩,⟨o1a,o1c,o1l⟩,⟨o2a,o2c,o2l⟩⟩,Zr,Zs,ZH,Zv,ZT,ZC,ZA,Zw,Zq,Zy,Zp,Zz,⟨Zu,Zt,Zl⟩,ZG,ZJ⟩={ ZR.nd ⟨⟨⟨Za,Zb⟩,⟨Zf,Zh⟩,⟨Zj,Zi,Zg⟩,⟨Ze,Zd,Zc⟩⟩,Zr,Zs,ZH,Zv,ZT,ZC,ZA,Zw,Zq,Zy,Zp,Zz,⟨Zu,Zt,Zl⟩,ZG,ZJ⟩ with table:=byeT (ZR.nd ⟨⟨⟨Za,Zb⟩,⟨Zf,Zh⟩,⟨Zj,Zi,Zg⟩,⟨Ze,Zd,Zc⟩⟩,Zr,Zs,ZH,Zv,ZT,ZC,ZA,Zw,Zq,Zy,Zp,Zz,⟨Zu,Zt,Zl⟩,ZG,ZJ⟩) (ZP.lt ⟨Yb,⟨ZM,Ye⟩,YB,l_id,⟨ZY,ZX,ZN⟩,Ys,⟨ZI,ZS⟩,⟨ZZ,ZV,ZL⟩⟩) }:=by
      unfold byeT
      rw [if_neg (show ¬(ZR.nd ⟨⟨⟨Za,Zb⟩,⟨Zf,Zh⟩,⟨Zj,Zi,Zg⟩,⟨Ze,Zd,Zc⟩⟩,Zr,Zs,ZH,Zv,ZT,ZC,ZA,Zw,Zq,Zy,Zp,Zz,⟨Zu,Zt,Zl⟩,ZG,ZJ⟩).table.pred.addr=(ZP.lt ⟨Yb,⟨ZM,Ye⟩,YB,l_id,⟨ZY,ZX,ZN⟩,Ys,⟨ZI,ZS⟩,⟨ZZ,ZV,ZL⟩⟩).frm.addr from (show ¬Zf=ZM by assumption)),show Wm (ZR.nd ⟨⟨⟨Za,Zb⟩,⟨Zf,Zh⟩,⟨Zj,Zi,Zg⟩,⟨Ze,Zd,Zc⟩⟩,Zr,Zs,ZH,Zv,ZT,ZC,ZA,Zw,Zq,Zy,Zp,Zz,⟨Zu,Zt,Zl⟩,ZG,ZJ⟩).table (ZP.lt ⟨Yb,⟨ZM,Ye⟩,YB,l_id,⟨ZY,ZX,ZN⟩,Ys,⟨ZI,ZS⟩,⟨ZZ,ZV,ZL⟩⟩).frm.addr=_ from hot.symm];rfl
     have h3:XO (ZR.nd ⟨⟨⟨Za,Zb⟩,⟨Zf,Zh⟩,⟨Zj,Zi,Zg⟩,⟨Ze,Zd,Zc⟩⟩,Zr,Zs,ZH,Zv,ZT,ZC,ZA,Zw,Zq,Zy,Zp,Zz,⟨Zu,Zt,Zl⟩,ZG,ZJ⟩) (ZP.lt ⟨Yb,⟨ZM,Ye⟩,YB,l_id,⟨ZY,ZX,ZN⟩,Ys,⟨ZI,ZS⟩,⟨ZZ,ZV,ZL⟩⟩)=(ZR.nd ⟨⟨⟨oa,oi⟩,⟨oq,oj⟩,⟨o1a,o1c,o1l⟩,⟨o2a,o2c,o2l⟩⟩,Zr,Zs,ZH,Zv,ZT,ZC,ZA,Zw,Zq,Zy,Zp,Zz,⟨Zu,Zt,Zl⟩,ZG,ZJ⟩,[]):=(does8 hk).trans (congrArg (fun x=>(x,([]:List Snd))) (bye_no h2 (fun q1 q2=>(by
      replace q1:(Wi (ZQ.tb ⟨⟨Za,Zb⟩,⟨Zf,Zh⟩,⟨Zj,Zi,Zg⟩,⟨Ze,Zd,Zc⟩⟩)).addr=ZM:=q1
      replace q2:0<ZL.length:=q2
      rw [hfi] at q1
      (exfalso;omega)))))
     refine ⟨_,M1,[(bw,rowO (ZW.segs ⟨⟨⟨⟨oa,oi⟩,⟨oq,oj⟩,⟨o1a,o1c,o1l⟩,⟨o2a,o2c,o2l⟩⟩,Zr,Zs,ZH,Zv,ZT,ZC,ZA,Zw,Zq,Zy,Zp,Zz,⟨Zu,Zt,Zl⟩,ZG,ZJ⟩,⟨none,0,[]⟩⟩) 68)],rfl,hm1,hw.c,rfl,⟨⟨⟨oa,oi⟩,⟨oq,oj⟩,⟨o1a,o1c,o1l⟩,⟨o2a,o2c,o2l⟩⟩,Zr,Zs,ZH,Zv,ZT,ZC,ZA,Zw,Zq,Zy,Zp,Zz,⟨Zu,Zt,Zl⟩,ZG,ZJ⟩,⟨none,0,[]⟩,rfl,?_,?_,⟨okt,(Yz.mono hm1)⟩,SlK.nil,fun y hy=>by cases hy⟩
     ·rw [h3] <;> rfl
     ·rw [h3] <;> rfl
   ·replace hc5:=dF hc5
    iterate 4 refine Ya ?_
    refine ZO ?_;refine Zo (Zn (Y_pk [60,3,0] ?_));refine Wn rfl ?_;refine YG ?_
    refine Yk (.inl rfl) (.nil) (fun w hw=>?_)
    have h2:ZR.nd ⟨⟨⟨oa,oi⟩,⟨oq,oj⟩,⟨o1a,o1c,o1l⟩,⟨o2a,o2c,o2l⟩⟩,Zr,Zs,ZH,Zv,ZT,ZC,ZA,Zw,Zq,Zy,Zp,Zz,⟨Zu,Zt,Zl⟩,ZG,ZJ⟩={ ZR.nd ⟨⟨⟨Za,Zb⟩,⟨Zf,Zh⟩,⟨Zj,Zi,Zg⟩,⟨Ze,Zd,Zc⟩⟩,Zr,Zs,ZH,Zv,ZT,ZC,ZA,Zw,Zq,Zy,Zp,Zz,⟨Zu,Zt,Zl⟩,ZG,ZJ⟩ with table:=byeT (ZR.nd ⟨⟨⟨Za,Zb⟩,⟨Zf,Zh⟩,⟨Zj,Zi,Zg⟩,⟨Ze,Zd,Zc⟩⟩,Zr,Zs,ZH,Zv,ZT,ZC,ZA,Zw,Zq,Zy,Zp,Zz,⟨Zu,Zt,Zl⟩,ZG,ZJ⟩) (ZP.lt ⟨Yb,⟨ZM,Ye⟩,YB,l_id,⟨ZY,ZX,ZN⟩,Ys,⟨ZI,ZS⟩,⟨ZZ,ZV,ZL⟩⟩) }:=by
     unfold byeT
     rw [if_neg (show ¬(ZR.nd ⟨⟨⟨Za,Zb⟩,⟨Zf,Zh⟩,⟨Zj,Zi,Zg⟩,⟨Ze,Zd,Zc⟩⟩,Zr,Zs,ZH,Zv,ZT,ZC,ZA,Zw,Zq,Zy,Zp,Zz,⟨Zu,Zt,Zl⟩,ZG,ZJ⟩).table.pred.addr=(ZP.lt ⟨Yb,⟨ZM,Ye⟩,YB,l_id,⟨ZY,ZX,ZN⟩,Ys,⟨ZI,ZS⟩,⟨ZZ,ZV,ZL⟩⟩).frm.addr from (show ¬Zf=ZM by assumption)),show Wm (ZR.nd ⟨⟨⟨Za,Zb⟩,⟨Zf,Zh⟩,⟨Zj,Zi,Zg⟩,⟨Ze,Zd,Zc⟩⟩,Zr,Zs,ZH,Zv,ZT,ZC,ZA,Zw,Zq,Zy,Zp,Zz,⟨Zu,Zt,Zl⟩,ZG,ZJ⟩).table (ZP.lt ⟨Yb,⟨ZM,Ye⟩,YB,l_id,⟨ZY,ZX,ZN⟩,Ys,⟨ZI,ZS⟩,⟨ZZ,ZV,ZL⟩⟩).frm.addr=_ from hot.symm];rfl
    have h3:XO (ZR.nd ⟨⟨⟨Za,Zb⟩,⟨Zf,Zh⟩,⟨Zj,Zi,Zg⟩,⟨Ze,Zd,Zc⟩⟩,Zr,Zs,ZH,Zv,ZT,ZC,ZA,Zw,Zq,Zy,Zp,Zz,⟨Zu,Zt,Zl⟩,ZG,ZJ⟩) (ZP.lt ⟨Yb,⟨ZM,Ye⟩,YB,l_id,⟨ZY,ZX,ZN⟩,Ys,⟨ZI,ZS⟩,⟨ZZ,ZV,ZL⟩⟩)=(ZR.nd ⟨⟨⟨oa,oi⟩,⟨oq,oj⟩,⟨o1a,o1c,o1l⟩,⟨o2a,o2c,o2l⟩⟩,Zr,Zs,ZH,Zv,ZT,ZC,ZA,Zw,Zq,Zy,Zp,Zz,⟨Zu,Zt,Zl⟩,ZG,ZJ⟩,[]):=(does8 hk).trans (congrArg (fun x=>(x,([]:List Snd))) (bye_no h2 (fun q1 q2=>(by
     replace q1:(Wi (ZQ.tb ⟨⟨Za,Zb⟩,⟨Zf,Zh⟩,⟨Zj,Zi,Zg⟩,⟨Ze,Zd,Zc⟩⟩)).addr=ZM:=q1
     replace q2:0<ZL.length:=q2
     rw [hfi] at q1
     contradiction))))
    refine ⟨_,M1,[(bw,rowO (ZW.segs ⟨⟨⟨⟨oa,oi⟩,⟨oq,oj⟩,⟨o1a,o1c,o1l⟩,⟨o2a,o2c,o2l⟩⟩,Zr,Zs,ZH,Zv,ZT,ZC,ZA,Zw,Zq,Zy,Zp,Zz,⟨Zu,Zt,Zl⟩,ZG,ZJ⟩,⟨none,0,[]⟩⟩) 68)],rfl,hm1,hw.c,rfl,⟨⟨⟨oa,oi⟩,⟨oq,oj⟩,⟨o1a,o1c,o1l⟩,⟨o2a,o2c,o2l⟩⟩,Zr,Zs,ZH,Zv,ZT,ZC,ZA,Zw,Zq,Zy,Zp,Zz,⟨Zu,Zt,Zl⟩,ZG,ZJ⟩,⟨none,0,[]⟩,rfl,?_,?_,⟨okt,(Yz.mono hm1)⟩,SlK.nil,fun y hy=>by cases hy⟩
    ·rw [h3] <;> rfl
    ·rw [h3] <;> rfl
end Go.Proofs.YtajmnjefajknoaaGreat
namespace Go.Proofs.YtajmnjefajknoaaGreat
open Go.Esp
theorem F.map78:mapOf Tryz.prog 78=some (3,76):=by kernel_rfl
theorem F.ok30:okFn Tryz.prog 30=true:=by kernel_rfl
theorem F.ok45:okFn Tryz.prog 45=true:=by kernel_rfl
theorem F.ok46:okFn Tryz.prog 46=true:=by kernel_rfl
theorem F.ok47:okFn Tryz.prog 47=true:=by kernel_rfl
theorem F.ok48:okFn Tryz.prog 48=true:=by kernel_rfl
theorem F.ok49:okFn Tryz.prog 49=true:=by kernel_rfl
theorem F.ok50:okFn Tryz.prog 50=true:=by kernel_rfl
theorem F.ok51:okFn Tryz.prog 51=true:=by kernel_rfl
theorem F.ok52:okFn Tryz.prog 52=true:=by kernel_rfl
theorem F.zero76:WH Tryz.prog 76=some (.nilFunc):=by kernel_rfl
theorem Take_yes (M:Mem) (n:ZR) (l:ZP) (hn0:ZR.ok M n) (hl1:ZP.ok M l) (kind:Int) (fid:FuncId) (hkk:l.kind=kind) (hl:(Vt (VX (VX (VX (VX (VX (VX (VX (VX [] 1 (.func (.func 45) #[] #[])) 2 (.func (.func 46) #[] #[])) 3 (.func (.func 47) #[] #[])) 4 (.func (.func 48) #[] #[])) 5 (.func (.func 49) #[] #[])) 6 (.func (.func 50) #[] #[])) 7 (.func (.func 51) #[] #[])) 8 (.func (.func 52) #[] #[])) l.kind).getD .nilFunc=.func (.func fid) #[] #[]) (hok:okFn Tryz.prog fid=true)
   (hc:∀ (M:Mem) (bw:Nat) (Za:Int) (Zb:Plc) (Zf:Int) (Zh:Plc) (Zj Ze Zu:Option Addr) (Zi Zd Zt:Nat) (Zg Zc:List ZF) (Zl:List Int) (Zr:Int) (Zs:Bool) (ZH Zv ZT ZC ZA Zw Zq Zy Zp:Int) (Zz:Plc) (ZG ZJ:Int) (Yv:ZQ.ok M ⟨⟨Za,Zb⟩,⟨Zf,Zh⟩,⟨Zj,Zi,Zg⟩,⟨Ze,Zd,Zc⟩⟩) (Yz:SlK M (oneI .i64) 1 ⟨Zu,Zt,Zl⟩) (hbig:Zg.length≤40∧Zc.length≤200) (hLa:Zl.length≤1000) (hh:0≤ZG∧ZG≤1000) (l:ZP) (hl0:ZP.ok M l) (hLp:l.peers.l.length≤1000) (hk:l.kind=kind),Fh Tryz.prog fid [.pointer (some ⟨bw,0,none⟩),l.enc] M [(bw,rowO (ZW.segs ⟨⟨⟨⟨Za,Zb⟩,⟨Zf,Zh⟩,⟨Zj,Zi,Zg⟩,⟨Ze,Zd,Zc⟩⟩,Zr,Zs,ZH,Zv,ZT,ZC,ZA,Zw,Zq,Zy,Zp,Zz,⟨Zu,Zt,Zl⟩,ZG,ZJ⟩,⟨none,0,[]⟩⟩) 68)] (fun M' v Hout=>v=.tuple #[]∧WkF bw 68 M' Hout (XO (ZR.nd ⟨⟨⟨Za,Zb⟩,⟨Zf,Zh⟩,⟨Zj,Zi,Zg⟩,⟨Ze,Zd,Zc⟩⟩,Zr,Zs,ZH,Zv,ZT,ZC,ZA,Zw,Zq,Zy,Zp,Zz,⟨Zu,Zt,Zl⟩,ZG,ZJ⟩) l.lt))):Esp.Fn Tryz.prog 17 [n.enc,l.enc] M (fun M' v=>NtE M' v (Wz n.nd l.lt)):=by
  obtain ⟨⟨⟨Za,Zb⟩,⟨Zf,Zh⟩,⟨Zj,Zi,Zg⟩,⟨Ze,Zd,Zc⟩⟩,Zr,Zs,ZH,Zv,ZT,ZC,ZA,Zw,Zq,Zy,Zp,Zz,⟨Zu,Zt,Zl⟩,ZG,ZJ⟩:=n
  obtain ⟨Yb,⟨ZM,Ye⟩,YB,l_id,⟨ZY,ZX,ZN⟩,Ys,⟨ZI,ZS⟩,⟨ZZ,ZV,ZL⟩⟩:=l
  have Yv:ZQ.ok M ⟨⟨Za,Zb⟩,⟨Zf,Zh⟩,⟨Zj,Zi,Zg⟩,⟨Ze,Zd,Zc⟩⟩:=hn0.h0
  have YM:SlK M ZF.segs 21 ⟨Zj,Zi,Zg⟩:=hn0.h0.h0
  have Wo:SlM M Zj (Zg.map ZF.segs) 21:=YM.h1
  have Wp:(Zg.map ZF.segs).length=Zg.length:=List.length_map ..
  have Wq:Zg.length≤9223372036854775807:=YM.h2
  have Wr:Zg.length≤Zi:=YM.h3
  have Yx:SlK M ZF.segs 21 ⟨Ze,Zd,Zc⟩:=hn0.h0.h1
  have XV:SlM M Ze (Zc.map ZF.segs) 21:=Yx.h1
  have XW:(Zc.map ZF.segs).length=Zc.length:=List.length_map ..
  have XX:Zc.length≤9223372036854775807:=Yx.h2
  have XY:Zc.length≤Zd:=Yx.h3
  have Yz:SlK M (oneI .i64) 1 ⟨Zu,Zt,Zl⟩:=hn0.h1
  have WQ:SlM M Zu (Zl.map (oneI .i64)) 1:=Yz.h1
  have Vi:(Zl.map (oneI .i64)).length=Zl.length:=List.length_map ..
  have Va:Zl.length≤9223372036854775807:=Yz.h2
  have Vk:Zl.length≤Zt:=Yz.h3
  have Xl:SlK M (oneI .i64) 1 ⟨ZY,ZX,ZN⟩:=hl1.h0
  have Vu:SlM M ZY (ZN.map (oneI .i64)) 1:=Xl.h1
  have VK:(ZN.map (oneI .i64)).length=ZN.length:=List.length_map ..
  have Vx:ZN.length≤9223372036854775807:=Xl.h2
  have VM:ZN.length≤ZX:=Xl.h3
  have Xb:SlK M ZF.segs 21 ⟨ZZ,ZV,ZL⟩:=hl1.h1
  have XT:SlM M ZZ (ZL.map ZF.segs) 21:=Xb.h1
  have WR:(ZL.map ZF.segs).length=ZL.length:=List.length_map ..
  have Vw:ZL.length≤9223372036854775807:=Xb.h2
  have WS:ZL.length≤ZV:=Xb.h3
  subst hkk
  simp only at hl
  refine Wu Tryz.func17 rfl Tryz.ntmps17 rfl ?_;intro H
  refine ZK (Zm (l:=[0,1,2,3,4]) rfl ?_)
  refine Xk ?_;intro b1
  refine Xk ?_;intro b2
  refine YW F.zero32 ?_;intro b3
  iterate 2 refine ZB ?_
  refine Zo (Zn (Y_pk [6,5,4,3,2] ?_))
  iterate 2 refine ZK ?_
  refine Zm (l:=[0,1,2,3,4,5,6,7]) rfl ?_;refine ZD F.lay32 ?_;refine X_fs rfl rfl F.ok27 rfl (IsN_ok _ ⟨⟨⟨Za,Zb⟩,⟨Zf,Zh⟩,⟨Zj,Zi,Zg⟩,⟨Ze,Zd,Zc⟩⟩,Zr,Zs,ZH,Zv,ZT,ZC,ZA,Zw,Zq,Zy,Zp,Zz,⟨Zu,Zt,Zl⟩,ZG,ZJ⟩ hn0) rfl ?_
  rintro _ rfl
  refine Xj ?_;refine Zx ?_
  refine Yj 12 rfl (fun hc4=>?_) (fun hc4=>?_)
  ·replace hc4:=nT hc4
   iterate 3 refine Ya ?_
   refine ZO ?_;refine Zo (Zn (Y_pk [16,6,5,4,3,2] ?_));refine Xi rfl ?_;refine ZK (Zm (l:=[0,1,2,3]) rfl ?_);refine Xr rfl rfl F.bld32 (.nil) rfl rfl ?_;refine Xg F.lay32 ?_
   iterate 2 refine ZB ?_
   refine Zo (Zn (Y_pk [6,5,4,3,2] ?_));refine Yo (YS ?_)
   refine Yk (.inr rfl) (.cell rfl (by repeat first|exact List.Mem.head _|refine List.Mem.tail _ ?_|refine List.mem_append_right _ ?_) F.lay32 rfl rfl (.tmp rfl (.tmp rfl .nil))) (fun w hw=>?_)
   refine ⟨_,M,rfl,Mem.le.refl M,hw.c,ZR.zero,⟨none,0,[]⟩,?_,?_,?_,ZR.zero_ok _,SlK.nil,fun y hy=>by cases hy⟩
   ·rw [Vg (by (rintro ⟨q1,q2⟩;first|contradiction|(simp_all;done)))];rfl
   ·rw [Vg (by (rintro ⟨q1,q2⟩;first|contradiction|(simp_all;done)))];rfl
   ·rw [Vg (by (rintro ⟨q1,q2⟩;first|contradiction|(simp_all;done)))];rfl
  ·replace hc4:=nF hc4
   refine ZD F.lay44 ?_;refine X_fs rfl rfl F.ok30 rfl (IsL_ok _ ⟨Yb,⟨ZM,Ye⟩,YB,l_id,⟨ZY,ZX,ZN⟩,Ys,⟨ZI,ZS⟩,⟨ZZ,ZV,ZL⟩⟩ hl1) rfl ?_
   rintro _ rfl
   refine Xj ?_;refine ZO ?_;refine Zo (Zn (Y_pk [16,6,5,4,3,2] ?_))
   refine YA rfl (fun hc5=>?_) (fun hc5=>?_)
   ·replace hc5:=nT hc5
    refine ZK (Zm (l:=[0,1,2,3]) rfl ?_);refine Xr rfl rfl F.bld32 (.nil) rfl rfl ?_;refine Xg F.lay32 ?_
    iterate 2 refine ZB ?_
    refine Zo (Zn (Y_pk [6,5,4,3,2] ?_));refine Yo (YS ?_)
    refine Yk (.inr rfl) (.cell rfl (by repeat first|exact List.Mem.head _|refine List.Mem.tail _ ?_|refine List.mem_append_right _ ?_) F.lay32 rfl rfl (.tmp rfl (.tmp rfl .nil))) (fun w hw=>?_)
    refine ⟨_,M,rfl,Mem.le.refl M,hw.c,ZR.zero,⟨none,0,[]⟩,?_,?_,?_,ZR.zero_ok _,SlK.nil,fun y hy=>by cases hy⟩
    ·rw [Vg (by (rintro ⟨q1,q2⟩;first|contradiction|(simp_all;done)))];rfl
    ·rw [Vg (by (rintro ⟨q1,q2⟩;first|contradiction|(simp_all;done)))];rfl
    ·rw [Vg (by (rintro ⟨q1,q2⟩;first|contradiction|(simp_all;done)))];rfl
   ·replace hc5:=nF hc5
    refine YG (Zn (Y_pk [6,5,4,3,2] ?_));refine ZK ?_
    have hnd9:IsNd (ZR.nd ⟨⟨⟨Za,Zb⟩,⟨Zf,Zh⟩,⟨Zj,Zi,Zg⟩,⟨Ze,Zd,Zc⟩⟩,Zr,Zs,ZH,Zv,ZT,ZC,ZA,Zw,Zq,Zy,Zp,Zz,⟨Zu,Zt,Zl⟩,ZG,ZJ⟩):=by assumption
    have hlt9:IsLt (ZP.lt ⟨Yb,⟨ZM,Ye⟩,YB,l_id,⟨ZY,ZX,ZN⟩,Ys,⟨ZI,ZS⟩,⟨ZZ,ZV,ZL⟩⟩):=by assumption
    have htb9:IsTb (ZQ.tb ⟨⟨Za,Zb⟩,⟨Zf,Zh⟩,⟨Zj,Zi,Zg⟩,⟨Ze,Zd,Zc⟩⟩):=hnd9.1
    have hav9:Zl.length≤16:=hnd9.2.2.2.2.1
    have hho9:0≤ZG∧ZG≤64:=hnd9.2.2.2.2.2.1
    have hpl9:ZL.length≤8:=hlt9.2.2.2.1
    refine Zm (l:=[0,1,2,3,4,5,6,7,8,9,10]) rfl ?_
    refine X_makeMap rfl rfl rfl ?_;intro b6
    refine Vq rfl rfl rfl rfl rfl F.map78 imO_nil (by repeat first|exact List.Mem.head _|refine List.Mem.tail _ ?_|refine List.mem_append_right _ ?_) ?_;intro o7 him8;refine ⟨_,(by repeat first|exact Upd.head|apply Upd.tail|apply Upd.over),?_⟩
    refine Vq rfl rfl rfl rfl rfl F.map78 him8 (by repeat first|exact List.Mem.head _|refine List.Mem.tail _ ?_|refine List.mem_append_right _ ?_) ?_;intro o9 him10;refine ⟨_,(by repeat first|exact Upd.head|apply Upd.tail|apply Upd.over),?_⟩
    refine Vq rfl rfl rfl rfl rfl F.map78 him10 (by repeat first|exact List.Mem.head _|refine List.Mem.tail _ ?_|refine List.mem_append_right _ ?_) ?_;intro o11 him12;refine ⟨_,(by repeat first|exact Upd.head|apply Upd.tail|apply Upd.over),?_⟩
    refine Vq rfl rfl rfl rfl rfl F.map78 him12 (by repeat first|exact List.Mem.head _|refine List.Mem.tail _ ?_|refine List.mem_append_right _ ?_) ?_;intro o13 him14;refine ⟨_,(by repeat first|exact Upd.head|apply Upd.tail|apply Upd.over),?_⟩
    refine Vq rfl rfl rfl rfl rfl F.map78 him14 (by repeat first|exact List.Mem.head _|refine List.Mem.tail _ ?_|refine List.mem_append_right _ ?_) ?_;intro o15 him16;refine ⟨_,(by repeat first|exact Upd.head|apply Upd.tail|apply Upd.over),?_⟩
    refine Vq rfl rfl rfl rfl rfl F.map78 him16 (by repeat first|exact List.Mem.head _|refine List.Mem.tail _ ?_|refine List.mem_append_right _ ?_) ?_;intro o17 him18;refine ⟨_,(by repeat first|exact Upd.head|apply Upd.tail|apply Upd.over),?_⟩
    refine Vq rfl rfl rfl rfl rfl F.map78 him18 (by repeat first|exact List.Mem.head _|refine List.Mem.tail _ ?_|refine List.mem_append_right _ ?_) ?_;intro o19 him20;refine ⟨_,(by repeat first|exact Upd.head|apply Upd.tail|apply Upd.over),?_⟩
    refine Vq rfl rfl rfl rfl rfl F.map78 him20 (by repeat first|exact List.Mem.head _|refine List.Mem.tail _ ?_|refine List.mem_append_right _ ?_) ?_;intro o21 him22;refine ⟨_,(by repeat first|exact Upd.head|apply Upd.tail|apply Upd.over),?_⟩
    refine Zx ?_;refine ZB ?_;refine Zo (Zn (Y_pk [7,6,5,4,3,2] ?_));refine ZK (Zm (l:=[0,1,2]) rfl ?_);refine ZD F.lay32 ?_;refine Ur rfl rfl F.ok36 rfl (of_ok M _ _ _ _ _ _ _ _ _ _ _ _ _ _ _ _ _ _ _ _ _ _ _ _ _ _ _ Yz (by omega)) (by repeat first|exact Rem.here _|exact Rem.two|apply Rem.skip|apply Rem.over) (fun _ _ _ hm hw=>(hw.lower (by exact hm)).c) (YV rfl) ?_
    rintro v1 M1 hs1 hm1 ⟨hM1,bw,s_a,s_c,hs9,rfl,rfl,ho9⟩;subst M1
    simp only [List.append_assoc,List.cons_append,List.nil_append]
    refine ZB ?_;refine Zo (Zn (Y_pk [8,7,6,5,4,3] ?_))
    iterate 2 refine ZK ?_
    refine UG ho9 (by repeat first|exact Rem.here _|exact Rem.two|apply Rem.skip|apply Rem.over) (fun M2 hM2 k9=>?_)
    refine Zm (l:=[0,1,2,3]) rfl ?_;refine Zx ?_;refine Zk F.foff44_1 ?_;refine ZD F.lay25 ?_;refine X_fo rfl rfl F.ok53 rfl (wother_ok M2 bw Za Zb Zf Zh Zj Ze s_a Zi Zd s_c Zg Zc Zl Zr Zs ZH Zv ZT ZC ZA Zw Zq Zy Zp Zz ZG ZJ ⟨ZM,Ye⟩) (by repeat first|exact Rem.here _|exact Rem.two|apply Rem.skip|apply Rem.over) (YV rfl) ?_
    rintro _ MZ _ ⟨hMZ,rfl⟩;subst MZ
    refine Zo (Zn (Y_pk [25,8,7,6,5,4,3] ?_))
    refine YA rfl (fun hc23=>?_) (fun hc23=>?_)
    ·replace hc23:=dT hc23
     refine Wb (l:=[0,1,2,3,4,5,6]) [6] rfl ?_;refine Zx ?_;refine Zk F.foff44_0 ?_;refine ZD F.lay3 ?_;refine X_lookup rfl rfl rfl rfl F.map78 F.zero76 (by repeat first|exact List.Mem.head _|refine List.Mem.tail _ ?_|refine List.mem_append_right _ ?_) him22 (show (Vt (VX (VX (VX (VX (VX (VX (VX (VX [] 1 (.func (.func 45) #[] #[])) 2 (.func (.func 46) #[] #[])) 3 (.func (.func 47) #[] #[])) 4 (.func (.func 48) #[] #[])) 5 (.func (.func 49) #[] #[])) 6 (.func (.func 50) #[] #[])) 7 (.func (.func 51) #[] #[])) 8 (.func (.func 52) #[] #[])) Yb).getD .nilFunc=.func (.func fid) #[] #[] from hl) rfl ?_;refine Zx ?_;refine ZD F.lay44 ?_;refine X_fhVW (caps:=[]) rfl rfl rfl rfl hok rfl rfl (hc M2 bw Za Zb Zf Zh Zj Ze s_a Zi Zd s_c Zg Zc Zl Zr Zs ZH Zv ZT ZC ZA Zw Zq Zy Zp Zz ZG ZJ (Yv.mono hM2) k9 (isTb_small (t:=⟨⟨Za,Zb⟩,⟨Zf,Zh⟩,⟨Zj,Zi,Zg⟩,⟨Ze,Zd,Zc⟩⟩) htb9) (by omega) (by omega) ⟨Yb,⟨ZM,Ye⟩,YB,l_id,⟨ZY,ZX,ZN⟩,Ys,⟨ZI,ZS⟩,⟨ZZ,ZV,ZL⟩⟩ (hl1.mono hM2) (by show ZL.length≤1000;omega) rfl) (by repeat first|exact Rem.here _|exact Rem.two|apply Rem.skip|apply Rem.over) (YV rfl) ?_
     rintro _ M3 hs3 hm3 ⟨rfl,⟨⟨⟨Yw,YJ⟩,⟨YC,YL⟩,⟨YP,YO,YN⟩,⟨YF,YE,YD⟩⟩,Xz,XF,Wg,XB,WB,XM,XA,Xw,Xo,Xx,Xp,Xy,⟨Xu,Xt,Xs⟩,Wf,We⟩,⟨o_a,o_c,o_l⟩,rfl,hv1,hv2,okv,oko,okq⟩
     simp only [List.append_assoc,List.cons_append,List.nil_append]
     refine Zo (WP ?_);refine Zn (Y_pk [8,6,5,4] ?_);refine ZK (C_region_anyWR (l:=[0,1,2,3,4,5,6,7,8,9,10]) (Hin:=[(b3,_)]) [8] #[0,1,3,7,0,16,48,112,15,511,1023] (by repeat first|exact Rem.here _|exact Rem.two|apply Rem.skip|apply Rem.over) rfl (by kernel_rfl) (by kernel_rfl) ?_);refine Zx ?_;refine Yn ?_;refine Zk F.foff68_0 ?_;refine ZD F.lay32 ?_;refine Zx ?_;refine Yn ?_;refine Zk F.foff68_1 ?_;refine ZD F.lay35 ?_;refine X_storeE rfl rfl rfl rfl rfl (by constructor) (by ((try simp only [cat,List.cons_append,List.nil_append,List.append_nil]);(repeat (first|exact XG|refine XN ?_|(refine YU ?_ ?_;rfl)));done)) (by repeat first|exact Upd.head|apply Upd.tail|apply Upd.over) F.lay32 (by simp only [ZF.segs,ZQ.segs,ZR.segs,ZP.segs,Yr.segs,ZW.segs,YQ.segs,Yc.segs,cat,List.append_eq,List.cons_append,List.nil_append,List.append_nil,Segs.len,Seg.len,Yt]) (VT (m:=78) rfl (by simp only [ZF.segs,ZQ.segs,ZR.segs,ZP.segs,Yr.segs,ZW.segs,YQ.segs,Yc.segs,cat,List.append_eq,List.cons_append,List.nil_append,List.append_nil,Segs.len,Seg.len,Yt]) (by simp only [ZF.segs,ZQ.segs,ZR.segs,ZP.segs,Yr.segs,ZW.segs,YQ.segs,Yc.segs,cat,List.append_eq,List.cons_append,List.nil_append,List.append_nil,Segs.len,Seg.len,Yt])) (fun _ h=>h.c) ?_
     iterate 2 refine ZB ?_
     refine Zo (WP ?_);refine Zn (Y_pk [6,5,4] ?_);refine Yo ?_
     refine Yk (.inr rfl) (.cell rfl (by repeat first|exact List.Mem.head _|refine List.Mem.tail _ ?_|refine List.mem_append_right _ ?_) F.lay32 rfl rfl (.tmp rfl (.tmp rfl .nil))) (fun w hw=>?_)
     have h3:=VD (n:=(ZR.nd ⟨⟨⟨Za,Zb⟩,⟨Zf,Zh⟩,⟨Zj,Zi,Zg⟩,⟨Ze,Zd,Zc⟩⟩,Zr,Zs,ZH,Zv,ZT,ZC,ZA,Zw,Zq,Zy,Zp,Zz,⟨Zu,Zt,Zl⟩,ZG,ZJ⟩)) (l:=(ZP.lt ⟨Yb,⟨ZM,Ye⟩,YB,l_id,⟨ZY,ZX,ZN⟩,Ys,⟨ZI,ZS⟩,⟨ZZ,ZV,ZL⟩⟩)) hnd9 hlt9 (show Xn ⟨Za,Zb⟩ ⟨ZM,Ye⟩ by assumption)
     exact ⟨_,M3,rfl,hM2.trans hm3,hw.c,⟨⟨⟨Yw,YJ⟩,⟨YC,YL⟩,⟨YP,YO,YN⟩,⟨YF,YE,YD⟩⟩,Xz,XF,Wg,XB,WB,XM,XA,Xw,Xo,Xx,Xp,Xy,⟨Xu,Xt,Xs⟩,Wf,We⟩,⟨o_a,o_c,o_l⟩,by rw [h3] <;> rfl,by rw [h3];exact hv1,by rw [h3];exact hv2,okv,oko,okq⟩
    ·replace hc23:=dF hc23
     refine YG (Zn (Y_pk [8,6,5,4] ?_));refine ZK (C_region_anyWR (l:=[0,1,2,3,4,5,6,7,8,9,10]) (Hin:=[(b3,_)]) [8] #[0,1,3,7,0,16,48,112,15,511,1023] (by repeat first|exact Rem.here _|exact Rem.two|apply Rem.skip|apply Rem.over) rfl (by kernel_rfl) (by kernel_rfl) ?_);refine Zx ?_;refine Yn ?_;refine Zk F.foff68_0 ?_;refine ZD F.lay32 ?_;refine Zx ?_;refine Yn ?_;refine Zk F.foff68_1 ?_;refine ZD F.lay35 ?_;refine X_storeE rfl rfl rfl rfl rfl (by constructor) (by ((try simp only [cat,List.cons_append,List.nil_append,List.append_nil]);(repeat (first|exact XG|refine XN ?_|(refine YU ?_ ?_;rfl)));done)) (by repeat first|exact Upd.head|apply Upd.tail|apply Upd.over) F.lay32 (by simp only [ZF.segs,ZQ.segs,ZR.segs,ZP.segs,Yr.segs,ZW.segs,YQ.segs,Yc.segs,cat,List.append_eq,List.cons_append,List.nil_append,List.append_nil,Segs.len,Seg.len,Yt]) (VT (m:=78) rfl (by simp only [ZF.segs,ZQ.segs,ZR.segs,ZP.segs,Yr.segs,ZW.segs,YQ.segs,Yc.segs,cat,List.append_eq,List.cons_append,List.nil_append,List.append_nil,Segs.len,Seg.len,Yt]) (by simp only [ZF.segs,ZQ.segs,ZR.segs,ZP.segs,Yr.segs,ZW.segs,YQ.segs,Yc.segs,cat,List.append_eq,List.cons_append,List.nil_append,List.append_nil,Segs.len,Seg.len,Yt])) (fun _ h=>h.c) ?_
     iterate 2 refine ZB ?_
     refine Zo (WP ?_);refine Zn (Y_pk [6,5,4] ?_);refine Yo ?_
     refine Yk (.inr rfl) (.cell rfl (by repeat first|exact List.Mem.head _|refine List.Mem.tail _ ?_|refine List.mem_append_right _ ?_) F.lay32 rfl rfl (.tmp rfl (.tmp rfl .nil))) (fun w hw=>?_)
     have h3:=take_not (n:=(ZR.nd ⟨⟨⟨Za,Zb⟩,⟨Zf,Zh⟩,⟨Zj,Zi,Zg⟩,⟨Ze,Zd,Zc⟩⟩,Zr,Zs,ZH,Zv,ZT,ZC,ZA,Zw,Zq,Zy,Zp,Zz,⟨Zu,Zt,Zl⟩,ZG,ZJ⟩)) (l:=(ZP.lt ⟨Yb,⟨ZM,Ye⟩,YB,l_id,⟨ZY,ZX,ZN⟩,Ys,⟨ZI,ZS⟩,⟨ZZ,ZV,ZL⟩⟩)) hnd9 hlt9 (show ¬Xn ⟨Za,Zb⟩ ⟨ZM,Ye⟩ by assumption)
     exact ⟨_,M2,rfl,hM2,hw.c,⟨⟨⟨Za,Zb⟩,⟨Zf,Zh⟩,⟨Zj,Zi,Zg⟩,⟨Ze,Zd,Zc⟩⟩,Zr,Zs,ZH,Zv,ZT,ZC,ZA,Zw,Zq,Zy,Zp,Zz,⟨s_a,s_c,Zl⟩,ZG,ZJ⟩,⟨none,0,[]⟩,by rw [h3] <;> rfl,by rw [h3] <;> rfl,by rw [h3] <;> rfl,⟨Yv.mono hM2,k9⟩,SlK.nil,fun y hy=>by cases hy⟩
theorem Take_no (M:Mem) (n:ZR) (l:ZP) (hn0:ZR.ok M n) (hl1:ZP.ok M l) (hk:¬IsLt l.lt):Esp.Fn Tryz.prog 17 [n.enc,l.enc] M (fun M' v=>NtE M' v (Wz n.nd l.lt)):=by
  obtain ⟨⟨⟨Za,Zb⟩,⟨Zf,Zh⟩,⟨Zj,Zi,Zg⟩,⟨Ze,Zd,Zc⟩⟩,Zr,Zs,ZH,Zv,ZT,ZC,ZA,Zw,Zq,Zy,Zp,Zz,⟨Zu,Zt,Zl⟩,ZG,ZJ⟩:=n
  obtain ⟨Yb,⟨ZM,Ye⟩,YB,l_id,⟨ZY,ZX,ZN⟩,Ys,⟨ZI,ZS⟩,⟨ZZ,ZV,ZL⟩⟩:=l
  have Yv:ZQ.ok M ⟨⟨Za,Zb⟩,⟨Zf,Zh⟩,⟨Zj,Zi,Zg⟩,⟨Ze,Zd,Zc⟩⟩:=hn0.h0
  have YM:SlK M ZF.segs 21 ⟨Zj,Zi,Zg⟩:=hn0.h0.h0
  have Wo:SlM M Zj (Zg.map ZF.segs) 21:=YM.h1
  have Wp:(Zg.map ZF.segs).length=Zg.length:=List.length_map ..
  have Wq:Zg.length≤9223372036854775807:=YM.h2
  have Wr:Zg.length≤Zi:=YM.h3
  have Yx:SlK M ZF.segs 21 ⟨Ze,Zd,Zc⟩:=hn0.h0.h1
  have XV:SlM M Ze (Zc.map ZF.segs) 21:=Yx.h1
  have XW:(Zc.map ZF.segs).length=Zc.length:=List.length_map ..
  have XX:Zc.length≤9223372036854775807:=Yx.h2
  have XY:Zc.length≤Zd:=Yx.h3
  have Yz:SlK M (oneI .i64) 1 ⟨Zu,Zt,Zl⟩:=hn0.h1
  have WQ:SlM M Zu (Zl.map (oneI .i64)) 1:=Yz.h1
  have Vi:(Zl.map (oneI .i64)).length=Zl.length:=List.length_map ..
  have Va:Zl.length≤9223372036854775807:=Yz.h2
  have Vk:Zl.length≤Zt:=Yz.h3
  have Xl:SlK M (oneI .i64) 1 ⟨ZY,ZX,ZN⟩:=hl1.h0
  have Vu:SlM M ZY (ZN.map (oneI .i64)) 1:=Xl.h1
  have VK:(ZN.map (oneI .i64)).length=ZN.length:=List.length_map ..
  have Vx:ZN.length≤9223372036854775807:=Xl.h2
  have VM:ZN.length≤ZX:=Xl.h3
  have Xb:SlK M ZF.segs 21 ⟨ZZ,ZV,ZL⟩:=hl1.h1
  have XT:SlM M ZZ (ZL.map ZF.segs) 21:=Xb.h1
  have WR:(ZL.map ZF.segs).length=ZL.length:=List.length_map ..
  have Vw:ZL.length≤9223372036854775807:=Xb.h2
  have WS:ZL.length≤ZV:=Xb.h3
  refine Wu Tryz.func17 rfl Tryz.ntmps17 rfl ?_;intro H
  refine ZK (Zm (l:=[0,1,2,3,4]) rfl ?_)
  refine Xk ?_;intro b1
  refine Xk ?_;intro b2
  refine YW F.zero32 ?_;intro b3
  iterate 2 refine ZB ?_
  refine Zo (Zn (Y_pk [6,5,4,3,2] ?_))
  iterate 2 refine ZK ?_
  refine Zm (l:=[0,1,2,3,4,5,6,7]) rfl ?_;refine ZD F.lay32 ?_;refine X_fs rfl rfl F.ok27 rfl (IsN_ok _ ⟨⟨⟨Za,Zb⟩,⟨Zf,Zh⟩,⟨Zj,Zi,Zg⟩,⟨Ze,Zd,Zc⟩⟩,Zr,Zs,ZH,Zv,ZT,ZC,ZA,Zw,Zq,Zy,Zp,Zz,⟨Zu,Zt,Zl⟩,ZG,ZJ⟩ hn0) rfl ?_
  rintro _ rfl
  refine Xj ?_;refine Zx ?_
  refine Yj 12 rfl (fun hc4=>?_) (fun hc4=>?_)
  ·replace hc4:=nT hc4
   iterate 3 refine Ya ?_
   refine ZO ?_;refine Zo (Zn (Y_pk [16,6,5,4,3,2] ?_));refine Xi rfl ?_;refine ZK (Zm (l:=[0,1,2,3]) rfl ?_);refine Xr rfl rfl F.bld32 (.nil) rfl rfl ?_;refine Xg F.lay32 ?_
   iterate 2 refine ZB ?_
   refine Zo (Zn (Y_pk [6,5,4,3,2] ?_));refine Yo (YS ?_)
   refine Yk (.inr rfl) (.cell rfl (by repeat first|exact List.Mem.head _|refine List.Mem.tail _ ?_|refine List.mem_append_right _ ?_) F.lay32 rfl rfl (.tmp rfl (.tmp rfl .nil))) (fun w hw=>?_)
   refine ⟨_,M,rfl,Mem.le.refl M,hw.c,ZR.zero,⟨none,0,[]⟩,?_,?_,?_,ZR.zero_ok _,SlK.nil,fun y hy=>by cases hy⟩
   ·rw [Vg (by (rintro ⟨q1,q2⟩;first|contradiction|(simp_all;done)))];rfl
   ·rw [Vg (by (rintro ⟨q1,q2⟩;first|contradiction|(simp_all;done)))];rfl
   ·rw [Vg (by (rintro ⟨q1,q2⟩;first|contradiction|(simp_all;done)))];rfl
  ·replace hc4:=nF hc4
   refine ZD F.lay44 ?_;refine X_fs rfl rfl F.ok30 rfl (IsL_ok _ ⟨Yb,⟨ZM,Ye⟩,YB,l_id,⟨ZY,ZX,ZN⟩,Ys,⟨ZI,ZS⟩,⟨ZZ,ZV,ZL⟩⟩ hl1) rfl ?_
   rintro _ rfl
   refine Xj ?_;refine ZO ?_;refine Zo (Zn (Y_pk [16,6,5,4,3,2] ?_))
   refine YA rfl (fun hc5=>?_) (fun hc5=>?_)
   ·replace hc5:=nT hc5
    refine ZK (Zm (l:=[0,1,2,3]) rfl ?_);refine Xr rfl rfl F.bld32 (.nil) rfl rfl ?_;refine Xg F.lay32 ?_
    iterate 2 refine ZB ?_
    refine Zo (Zn (Y_pk [6,5,4,3,2] ?_));refine Yo (YS ?_)
    refine Yk (.inr rfl) (.cell rfl (by repeat first|exact List.Mem.head _|refine List.Mem.tail _ ?_|refine List.mem_append_right _ ?_) F.lay32 rfl rfl (.tmp rfl (.tmp rfl .nil))) (fun w hw=>?_)
    refine ⟨_,M,rfl,Mem.le.refl M,hw.c,ZR.zero,⟨none,0,[]⟩,?_,?_,?_,ZR.zero_ok _,SlK.nil,fun y hy=>by cases hy⟩
    ·rw [Vg (by (rintro ⟨q1,q2⟩;first|contradiction|(simp_all;done)))];rfl
    ·rw [Vg (by (rintro ⟨q1,q2⟩;first|contradiction|(simp_all;done)))];rfl
    ·rw [Vg (by (rintro ⟨q1,q2⟩;first|contradiction|(simp_all;done)))];rfl
   ·replace hc5:=nF hc5
    (exfalso;first|(simp [eqX] at hc5;done)|(simp_all;done))
theorem Take_ok (M:Mem) (n:ZR) (l:ZP) (hn0:ZR.ok M n) (hl1:ZP.ok M l):Esp.Fn Tryz.prog 17 [n.enc,l.enc] M (fun M' v=>NtE M' v (Wz n.nd l.lt)):=by
  by_cases h:IsLt l.lt
  ·have h8:1≤l.kind∧l.kind≤8:=h.1
   have h9:l.kind=1∨l.kind=2∨l.kind=3∨l.kind=4∨l.kind=5∨l.kind=6∨l.kind=7∨l.kind=8:=by omega
   rcases h9 with hk|hk|hk|hk|hk|hk|hk|hk
   ·exact Take_yes M n l hn0 hl1 1 45 hk (by rw [hk];rfl) F.ok45 (fun M bw Za Zb Zf Zh Zj Ze Zu Zi Zd Zt Zg Zc Zl Zr Zs ZH Zv ZT ZC ZA Zw Zq Zy Zp Zz ZG ZJ Yv Yz hbig hLa hh l hl0 hLp hk=>find_ok M bw Za Zb Zf Zh Zj Ze Zu Zi Zd Zt Zg Zc Zl Zr Zs ZH Zv ZT ZC ZA Zw Zq Zy Zp Zz ZG ZJ Yv Yz hbig hLa hh l hl0 hLp hk)
   ·exact Take_yes M n l hn0 hl1 2 46 hk (by rw [hk];rfl) F.ok46 (fun M bw Za Zb Zf Zh Zj Ze Zu Zi Zd Zt Zg Zc Zl Zr Zs ZH Zv ZT ZC ZA Zw Zq Zy Zp Zz ZG ZJ Yv Yz hbig hLa hh l hl0 hLp hk=>found_ok M bw Za Zb Zf Zh Zj Ze Zu Zi Zd Zt Zg Zc Zl Zr Zs ZH Zv ZT ZC ZA Zw Zq Zy Zp Zz ZG ZJ Yv Yz hbig hLa hh l hl0 hLp hk)
   ·exact Take_yes M n l hn0 hl1 3 47 hk (by rw [hk];rfl) F.ok47 (fun M bw Za Zb Zf Zh Zj Ze Zu Zi Zd Zt Zg Zc Zl Zr Zs ZH Zv ZT ZC ZA Zw Zq Zy Zp Zz ZG ZJ Yv Yz hbig hLa hh l hl0 hLp hk=>ask_ok M bw Za Zb Zf Zh Zj Ze Zu Zi Zd Zt Zg Zc Zl Zr Zs ZH Zv ZT ZC ZA Zw Zq Zy Zp Zz ZG ZJ Yv Yz hbig hLa hh l hl0 hLp hk)
   ·exact Take_yes M n l hn0 hl1 4 48 hk (by rw [hk];rfl) F.ok48 (fun M bw Za Zb Zf Zh Zj Ze Zu Zi Zd Zt Zg Zc Zl Zr Zs ZH Zv ZT ZC ZA Zw Zq Zy Zp Zz ZG ZJ Yv Yz hbig hLa hh l hl0 hLp hk=>told_ok M bw Za Zb Zf Zh Zj Ze Zu Zi Zd Zt Zg Zc Zl Zr Zs ZH Zv ZT ZC ZA Zw Zq Zy Zp Zz ZG ZJ Yv Yz hbig hLa hh l hl0 hLp hk)
   ·exact Take_yes M n l hn0 hl1 5 49 hk (by rw [hk];rfl) F.ok49 (fun M bw Za Zb Zf Zh Zj Ze Zu Zi Zd Zt Zg Zc Zl Zr Zs ZH Zv ZT ZC ZA Zw Zq Zy Zp Zz ZG ZJ Yv Yz hbig hLa hh l hl0 hLp hk=>notify_ok M bw Za Zb Zf Zh Zj Ze Zu Zi Zd Zt Zg Zc Zl Zr Zs ZH Zv ZT ZC ZA Zw Zq Zy Zp Zz ZG ZJ Yv Yz hbig hLa hh l hl0 hLp hk)
   ·exact Take_yes M n l hn0 hl1 6 50 hk (by rw [hk];rfl) F.ok50 (fun M bw Za Zb Zf Zh Zj Ze Zu Zi Zd Zt Zg Zc Zl Zr Zs ZH Zv ZT ZC ZA Zw Zq Zy Zp Zz ZG ZJ Yv Yz hbig hLa hh l hl0 hLp hk=>ping_ok M bw Za Zb Zf Zh Zj Ze Zu Zi Zd Zt Zg Zc Zl Zr Zs ZH Zv ZT ZC ZA Zw Zq Zy Zp Zz ZG ZJ Yv Yz hbig hLa hh l hl0 hLp hk)
   ·exact Take_yes M n l hn0 hl1 7 51 hk (by rw [hk];rfl) F.ok51 (fun M bw Za Zb Zf Zh Zj Ze Zu Zi Zd Zt Zg Zc Zl Zr Zs ZH Zv ZT ZC ZA Zw Zq Zy Zp Zz ZG ZJ Yv Yz hbig hLa hh l hl0 hLp hk=>pong_ok M bw Za Zb Zf Zh Zj Ze Zu Zi Zd Zt Zg Zc Zl Zr Zs ZH Zv ZT ZC ZA Zw Zq Zy Zp Zz ZG ZJ Yv Yz hbig hLa hh l hl0 hLp hk)
   ·exact Take_yes M n l hn0 hl1 8 52 hk (by rw [hk];rfl) F.ok52 (fun M bw Za Zb Zf Zh Zj Ze Zu Zi Zd Zt Zg Zc Zl Zr Zs ZH Zv ZT ZC ZA Zw Zq Zy Zp Zz ZG ZJ Yv Yz hbig hLa hh l hl0 hLp hk=>bye_ok M bw Za Zb Zf Zh Zj Ze Zu Zi Zd Zt Zg Zc Zl Zr Zs ZH Zv ZT ZC ZA Zw Zq Zy Zp Zz ZG ZJ Yv Yz hbig hLa hh l hl0 hLp hk)
  ·exact Take_no M n l hn0 hl1 h
end Go.Proofs.YtajmnjefajknoaaGreat
namespace Go.Proofs.YtajmnjefajknoaaGreat
open Go.Esp
theorem F.ok21:okFn Tryz.prog 21=true:=by kernel_rfl
theorem F.ok63:okFn Tryz.prog 63=true:=by kernel_rfl
theorem Alone_ok (M:Mem) (self:ZF) (r:Int):Esp.Fn Tryz.prog 21 [self.enc,.int .i64 r] M (fun M' v=>NeE M' v (Uz self r)):=by
  obtain ⟨self_addr,self_id⟩:=self
  refine Wu Tryz.func21 rfl Tryz.ntmps21 rfl ?_;intro H
  refine ZK (Zm (l:=[0,1,2]) rfl ?_)
  refine Xk ?_;intro b1
  refine YW F.zero32 ?_;intro b2
  refine ZB ?_;refine Zo (Zn (Y_pk [5,4,2,1] ?_));refine ZK (Zm (l:=[0,1,2,3,4,5,6,7]) rfl ?_);refine ZD F.lay25 ?_;refine X_fn rfl rfl F.ok63 rfl (New_ok _ ⟨self_addr,self_id⟩) rfl ?_
  rintro _ M1 hm1 ⟨_,rfl,⟨⟨oa,oi⟩,⟨oq,oj⟩,⟨o1a,o1c,o1l⟩,⟨o2a,o2c,o2l⟩⟩,rfl,hot,okt⟩
  have hne:=new_ok (s:=⟨self_addr,self_id⟩)
  obtain ⟨ne,hnv⟩:∃ x,(newT ⟨self_addr,self_id⟩).2=x:=⟨_,rfl⟩
  rw [hnv] at hne ⊢
  refine Zx ?_
  iterate 2 refine XU ?_
  refine YW F.zero28 ?_;intro b3
  refine Yh F.lay28 ?_;refine ZB ?_;refine Zo (Zn (Y_pk [7,6,5,4,1] ?_))
  iterate 2 refine ZK ?_
  refine Zm (l:=[0,1,2,3,4,5,6,7,8,9]) rfl ?_;refine Zx ?_;refine YI ?_;refine Zx ?_
  refine Yj 15 rfl (fun hc4=>?_) (fun hc4=>?_)
  ·replace hc4:=nT hc4
   iterate 2 refine Ya ?_
   refine ZO ?_;refine Zx ?_
   iterate 2 refine Ya ?_
   refine ZO ?_;refine Zo (Zn (Y_pk [22,6,5,4,1] ?_));refine Xi rfl ?_;refine ZK (Zm (l:=[0,1,2]) rfl ?_);refine Xr rfl rfl F.bld32 (.nil) rfl rfl ?_;refine Xg F.lay32 ?_;refine ZB ?_;refine Zo (Zn (Y_pk [5,6,4,1] ?_));refine Yo (YS ?_)
   refine Yk (.inr rfl) (.cell rfl (by repeat first|exact List.Mem.head _|refine List.Mem.tail _ ?_|refine List.mem_append_right _ ?_) F.lay32 rfl rfl (.tmp rfl .nil)) (fun w hw=>?_)
   refine ⟨_,M1,rfl,hm1,hw.c,ZR.zero,?_,?_,ZR.zero_ok _⟩
   ·rw [alone_no (by rintro ⟨q1,q2,q3⟩;have q4:=hne.2 q1;omega)];rfl
   ·rw [alone_no (by rintro ⟨q1,q2,q3⟩;have q4:=hne.2 q1;omega)];rfl
  ·replace hc4:=nF hc4
   refine Zx ?_;refine YI ?_;refine ZO ?_;refine Zx ?_
   refine Yj 19 rfl (fun hc5=>?_) (fun hc5=>?_)
   ·replace hc5:=dT hc5
    iterate 2 refine Ya ?_
    refine ZO ?_;refine Zo (Zn (Y_pk [22,6,5,4,1] ?_));refine Xi rfl ?_;refine ZK (Zm (l:=[0,1,2]) rfl ?_);refine Xr rfl rfl F.bld32 (.nil) rfl rfl ?_;refine Xg F.lay32 ?_;refine ZB ?_;refine Zo (Zn (Y_pk [5,6,4,1] ?_));refine Yo (YS ?_)
    refine Yk (.inr rfl) (.cell rfl (by repeat first|exact List.Mem.head _|refine List.Mem.tail _ ?_|refine List.mem_append_right _ ?_) F.lay32 rfl rfl (.tmp rfl .nil)) (fun w hw=>?_)
    refine ⟨_,M1,rfl,hm1,hw.c,ZR.zero,?_,?_,ZR.zero_ok _⟩
    ·rw [alone_no (by rintro ⟨q1,q2,q3⟩;have q4:=hne.2 q1;omega)];rfl
    ·rw [alone_no (by rintro ⟨q1,q2,q3⟩;have q4:=hne.2 q1;omega)];rfl
   ·replace hc5:=dF hc5
    refine Zx ?_;refine YI ?_;refine ZO ?_;refine Zo (Zn (Y_pk [22,6,5,4,1] ?_))
    refine YA rfl (fun hc6=>?_) (fun hc6=>?_)
    ·replace hc6:=dT hc6
     refine ZK (Zm (l:=[0,1,2]) rfl ?_);refine Xr rfl rfl F.bld32 (.nil) rfl rfl ?_;refine Xg F.lay32 ?_;refine ZB ?_;refine Zo (Zn (Y_pk [5,6,4,1] ?_));refine Yo (YS ?_)
     refine Yk (.inr rfl) (.cell rfl (by repeat first|exact List.Mem.head _|refine List.Mem.tail _ ?_|refine List.mem_append_right _ ?_) F.lay32 rfl rfl (.tmp rfl .nil)) (fun w hw=>?_)
     refine ⟨_,M1,rfl,hm1,hw.c,ZR.zero,?_,?_,ZR.zero_ok _⟩
     ·rw [alone_no (by rintro ⟨q1,q2,q3⟩;have q4:=hne.2 q1;omega)];rfl
     ·rw [alone_no (by rintro ⟨q1,q2,q3⟩;have q4:=hne.2 q1;omega)];rfl
    ·replace hc6:=dF hc6
     refine YG (Zn (Y_pk [6,5,4,1] ?_));refine ZK (Zm (l:=[0,1,2,3,4]) rfl ?_);refine ZD F.lay28 ?_;refine Zx ?_;refine Xr rfl rfl F.bld32 (.cons rfl (by constructor) (.cons rfl (by constructor) (.cons rfl (by constructor) (.cons rfl (by constructor) (.cons rfl (by constructor) (.cons rfl (by constructor) (.cons rfl (by constructor) .nil))))))) rfl rfl ?_;refine Xg F.lay32 ?_;refine ZB ?_;refine Zo (Zn (Y_pk [5,4] ?_));refine Yo ?_
     refine Yk (.inr rfl) (.cell rfl (by repeat first|exact List.Mem.head _|refine List.Mem.tail _ ?_|refine List.mem_append_right _ ?_) F.lay32 rfl rfl (.tmp rfl .nil)) (fun w hw=>?_)
     have h3:=alone_is (s:=⟨self_addr,self_id⟩) (r:=r) ⟨hne.1 (by omega),by omega,by omega⟩
     rw [show (newT ⟨self_addr,self_id⟩).1=_ from hot.symm] at h3
     exact ⟨_,M1,rfl,hm1,hw.c,⟨⟨⟨oa,oi⟩,⟨oq,oj⟩,⟨o1a,o1c,o1l⟩,⟨o2a,o2c,o2l⟩⟩,r,true,-1,0,0,-1,0,-1,0,-1,0,0,⟨none,0,[]⟩,0,0⟩,by rw [h3];rfl,by rw [h3];rfl,⟨okt,SlK.nil⟩⟩
theorem Joining_ok (M:Mem) (self:ZF) (r:Int) (boot:Int):Esp.Fn Tryz.prog 23 [self.enc,.int .i64 r,.int .i64 boot] M (fun M' v=>NeE M' v (joiningN self r boot)):=by
  obtain ⟨self_addr,self_id⟩:=self
  refine Wu Tryz.func23 rfl Tryz.ntmps23 rfl ?_;intro H
  refine ZK (Zm (l:=[0,1,2]) rfl ?_)
  refine Xk ?_;intro b1
  refine YW F.zero32 ?_;intro b2
  refine ZB ?_;refine Zo (Zn (Y_pk [7,6,3,1,2] ?_));refine ZK (Zm (l:=[0,1,2,3,4,5,6,7,8]) rfl ?_);refine ZD F.lay25 ?_;refine Zx ?_;refine X_fn rfl rfl F.ok21 rfl (Alone_ok _ ⟨self_addr,self_id⟩ r) rfl ?_
  rintro _ M1 hm1 ⟨⟨⟨⟨Yw,YJ⟩,⟨YC,YL⟩,⟨YP,YO,YN⟩,⟨YF,YE,YD⟩⟩,Xz,XF,Wg,XB,WB,XM,XA,Xw,Xo,Xx,Xp,Xy,⟨Xu,Xt,Xs⟩,Wf,We⟩,rfl,hv1,okv⟩
  obtain ⟨ae,hae⟩:∃ x,(Uz ⟨self_addr,self_id⟩ r).2=x:=⟨_,rfl⟩
  rw [hae]
  refine Zx ?_
  iterate 2 refine XU ?_
  refine YW F.zero32 ?_;intro b3
  refine Xg F.lay32 ?_;refine ZB ?_;refine Zo (Zn (Y_pk [9,8,7,6,3,2] ?_))
  iterate 2 refine ZK ?_
  refine Zm (l:=[0,1,2,3,4,5,6,7,8,9,10,11,12,13,14,15]) rfl ?_;refine Zx ?_;refine YI ?_;refine Zx ?_
  refine Yj 18 rfl (fun hc4=>?_) (fun hc4=>?_)
  ·replace hc4:=nT hc4
   iterate 2 refine Ya ?_
   refine ZO ?_;refine Zx ?_
   iterate 2 refine Ya ?_
   refine ZO ?_;refine Zx ?_
   iterate 4 refine Ya ?_
   refine ZO ?_;refine Zo (Zn (Y_pk [31,8,7,6,2] ?_));refine Xi rfl ?_;refine ZK (Zm (l:=[0,1,2]) rfl ?_);refine Xr rfl rfl F.bld32 (.nil) rfl rfl ?_;refine Xg F.lay32 ?_;refine ZB ?_;refine Zo (Zn (Y_pk [7,8,6,2] ?_));refine Yo (YS ?_)
   refine Yk (.inr rfl) (.cell rfl (by repeat first|exact List.Mem.head _|refine List.Mem.tail _ ?_|refine List.mem_append_right _ ?_) F.lay32 rfl rfl (.tmp rfl .nil)) (fun w hw=>?_)
   refine ⟨_,M1,rfl,hm1,hw.c,ZR.zero,?_,?_,ZR.zero_ok _⟩
   ·rw [joining_no (by rintro ⟨q1,⟨q2,q4⟩,q3⟩;replace q3:boot≠self_addr:=q3;rw [hae] at q1;omega)];rfl
   ·rw [joining_no (by rintro ⟨q1,⟨q2,q4⟩,q3⟩;replace q3:boot≠self_addr:=q3;rw [hae] at q1;omega)];rfl
  ·replace hc4:=nF hc4
   refine Zx ?_;refine YI ?_;refine ZO ?_;refine Zx ?_
   refine Yj 22 rfl (fun hc5=>?_) (fun hc5=>?_)
   ·replace hc5:=dT hc5
    iterate 2 refine Ya ?_
    refine ZO ?_;refine Zx ?_
    iterate 4 refine Ya ?_
    refine ZO ?_;refine Zo (Zn (Y_pk [31,8,7,6,2] ?_));refine Xi rfl ?_;refine ZK (Zm (l:=[0,1,2]) rfl ?_);refine Xr rfl rfl F.bld32 (.nil) rfl rfl ?_;refine Xg F.lay32 ?_;refine ZB ?_;refine Zo (Zn (Y_pk [7,8,6,2] ?_));refine Yo (YS ?_)
    refine Yk (.inr rfl) (.cell rfl (by repeat first|exact List.Mem.head _|refine List.Mem.tail _ ?_|refine List.mem_append_right _ ?_) F.lay32 rfl rfl (.tmp rfl .nil)) (fun w hw=>?_)
    refine ⟨_,M1,rfl,hm1,hw.c,ZR.zero,?_,?_,ZR.zero_ok _⟩
    ·rw [joining_no (by rintro ⟨q1,⟨q2,q4⟩,q3⟩;replace q3:boot≠self_addr:=q3;rw [hae] at q1;omega)];rfl
    ·rw [joining_no (by rintro ⟨q1,⟨q2,q4⟩,q3⟩;replace q3:boot≠self_addr:=q3;rw [hae] at q1;omega)];rfl
   ·replace hc5:=dF hc5
    refine Zx ?_;refine YI ?_;refine ZO ?_;refine Zx ?_
    refine Yj 26 rfl (fun hc6=>?_) (fun hc6=>?_)
    ·replace hc6:=dT hc6
     iterate 4 refine Ya ?_
     refine ZO ?_;refine Zo (Zn (Y_pk [31,8,7,6,2] ?_));refine Xi rfl ?_;refine ZK (Zm (l:=[0,1,2]) rfl ?_);refine Xr rfl rfl F.bld32 (.nil) rfl rfl ?_;refine Xg F.lay32 ?_;refine ZB ?_;refine Zo (Zn (Y_pk [7,8,6,2] ?_));refine Yo (YS ?_)
     refine Yk (.inr rfl) (.cell rfl (by repeat first|exact List.Mem.head _|refine List.Mem.tail _ ?_|refine List.mem_append_right _ ?_) F.lay32 rfl rfl (.tmp rfl .nil)) (fun w hw=>?_)
     refine ⟨_,M1,rfl,hm1,hw.c,ZR.zero,?_,?_,ZR.zero_ok _⟩
     ·rw [joining_no (by rintro ⟨q1,⟨q2,q4⟩,q3⟩;replace q3:boot≠self_addr:=q3;rw [hae] at q1;omega)];rfl
     ·rw [joining_no (by rintro ⟨q1,⟨q2,q4⟩,q3⟩;replace q3:boot≠self_addr:=q3;rw [hae] at q1;omega)];rfl
    ·replace hc6:=dF hc6
     refine Zx ?_;refine Zk F.foff25_0 ?_;refine ZD F.lay3 ?_;refine YI ?_;refine ZO ?_;refine Zo (Zn (Y_pk [31,8,7,6,2] ?_))
     refine YA rfl (fun hc7=>?_) (fun hc7=>?_)
     ·replace hc7:=dT hc7
      refine ZK (Zm (l:=[0,1,2]) rfl ?_);refine Xr rfl rfl F.bld32 (.nil) rfl rfl ?_;refine Xg F.lay32 ?_;refine ZB ?_;refine Zo (Zn (Y_pk [7,8,6,2] ?_));refine Yo (YS ?_)
      refine Yk (.inr rfl) (.cell rfl (by repeat first|exact List.Mem.head _|refine List.Mem.tail _ ?_|refine List.mem_append_right _ ?_) F.lay32 rfl rfl (.tmp rfl .nil)) (fun w hw=>?_)
      refine ⟨_,M1,rfl,hm1,hw.c,ZR.zero,?_,?_,ZR.zero_ok _⟩
      ·rw [joining_no (by rintro ⟨q1,⟨q2,q4⟩,q3⟩;replace q3:boot≠self_addr:=q3;rw [hae] at q1;omega)];rfl
      ·rw [joining_no (by rintro ⟨q1,⟨q2,q4⟩,q3⟩;replace q3:boot≠self_addr:=q3;rw [hae] at q1;omega)];rfl
     ·replace hc7:=dF hc7
      refine YG (Zn (Y_pk [8,7,6,2] ?_));refine ZK (Zm (l:=[0,1,2,3,4]) rfl ?_);refine Zx ?_;refine Zk F.foff32_2 ?_;refine Yh F.lay4 ?_;refine Zk F.foff32_3 ?_;refine Yh F.lay3 ?_;refine Zo (Zn (Y_pk [8,7,6] ?_));refine ZK (Zm (l:=[0,1,2]) rfl ?_);refine ZD F.lay32 ?_;refine Xg F.lay32 ?_;refine ZB ?_;refine Zo (Zn (Y_pk [7,6] ?_));refine Yo ?_
      refine Yk (.inr rfl) (.cell rfl (by repeat first|exact List.Mem.head _|refine List.Mem.tail _ ?_|refine List.mem_append_right _ ?_) F.lay32 rfl rfl (.tmp rfl .nil)) (fun w hw=>?_)
      have h3:=joining_is (s:=⟨self_addr,self_id⟩) (r:=r) (b:=boot) ⟨by rw [hae];omega,⟨by omega,by omega⟩,by show boot≠self_addr;omega⟩
      rw [← hv1] at h3
      exact ⟨_,M1,rfl,hm1,hw.c,⟨⟨⟨Yw,YJ⟩,⟨YC,YL⟩,⟨YP,YO,YN⟩,⟨YF,YE,YD⟩⟩,Xz,false,boot,XB,WB,XM,XA,Xw,Xo,Xx,Xp,Xy,⟨Xu,Xt,Xs⟩,Wf,We⟩,by rw [h3];rfl,by rw [h3];rfl,⟨okv.h0,okv.h1⟩⟩
end Go.Proofs.YtajmnjefajknoaaGreat
namespace Go.Esp
def xp (n:Int):ZF:=⟨n,smallP (10 * n)⟩
theorem xs10:smallP 10=10#160:=by kernel_rfl
theorem xs20:smallP 20=20#160:=by kernel_rfl
def xt:Tb:=⟨⟨1,10#160⟩,Xf,[],List.replicate 160 Xf⟩
def xu:Tb:={ xt with succ:=[⟨2,20#160⟩,⟨3,30#160⟩] }
def xv:Tb:={ xu with pred:=⟨3,30#160⟩ }
def xw:Tb:={ xv with fingers:=List.replicate 4 ⟨2,20#160⟩++List.replicate 156 Xf }
def xx:Tb:={ xv with succ:=[⟨3,30#160⟩],fingers:=List.replicate 160 Xf }
end Go.Esp
namespace Go.Esp
def nA:ZF:=⟨1,10#160⟩
def nB:ZF:=⟨2,20#160⟩
def nX:Nd:=(Uz ⟨1,10#160⟩ 2).1
def nY:Nd:=(joiningN ⟨2,20#160⟩ 2 1).1
def nL1:Lt:=⟨1,⟨2,20#160⟩,1,20#160,[],false,⟨-1,0⟩,[]⟩
def nL2:Lt:=⟨2,⟨1,10#160⟩,1,0,[],true,⟨1,10#160⟩,[]⟩
def nL3:Lt:=⟨3,⟨2,20#160⟩,2,0,[],false,⟨-1,0⟩,[]⟩
def nY1:Nd:=(Uy nY 1).1
def nY2:Nd:=(Wz nY1 nL2).1
def nY3:Nd:=(Uy nY2 1).1
theorem nx1:Uz ⟨1,10#160⟩ 2=(nX,0):=by kernel_rfl
theorem nx2:joiningN ⟨2,20#160⟩ 2 1=(nY,0):=by kernel_rfl
theorem nx3:Uy nY 1=(nY1,[⟨1,nL1⟩],0):=by kernel_rfl
theorem nx4:Wz nX nL1=(nX,[⟨2,nL2⟩],0):=by kernel_rfl
theorem nx5:Wz nY1 nL2=(nY2,[],0):=by kernel_rfl
theorem nx6:Uy nY2 1=(nY3,[⟨1,nL3⟩],0):=by kernel_rfl
theorem nx7:joiningN ⟨2,20#160⟩ 2 2=(Nd.zero,1):=by kernel_rfl
theorem nx8:nY2.joined=true:=by kernel_rfl
theorem nx9:Wi nY2.table=⟨1,10#160⟩:=by kernel_rfl
theorem nx10:IsNd nY2:=of_decide_eq_true (by kernel_rfl)
theorem sndl_one {l:List Yr} {s:Snd} (h:sndl l=[s]):∃ y,l=[y]∧y.snd=s:=by
  match l,h with
  | [y],h=>exact ⟨y,rfl,(List.cons.inj h).1⟩
end Go.Esp
namespace Go.Proofs.YtajmnjefajknoaaGreat
open Go.Esp
theorem F.ok11:okFn Tryz.prog 11=true:=by kernel_rfl
theorem F.ok17:okFn Tryz.prog 17=true:=by kernel_rfl
theorem F.ok23:okFn Tryz.prog 23=true:=by kernel_rfl
theorem F.ok40:okFn Tryz.prog 40=true:=by kernel_rfl
theorem small10_ok (M:Mem):Fs Tryz.prog 40 [.int .i64 10] M (fun v=>v=aggV [Yt 10#160]):=by
  have h:=Small_ok M 10 (by decide)
  rw [xs10] at h
  exact h
theorem small20_ok (M:Mem):Fs Tryz.prog 40 [.int .i64 20] M (fun v=>v=aggV [Yt 20#160]):=by
  have h:=Small_ok M 20 (by decide)
  rw [xs20] at h
  exact h
theorem noded_ok (M:Mem):Esp.Fn Tryz.prog 13 [] M (fun _ v=>v=.bool true):=by
  refine Wu Tryz.func13 rfl Tryz.ntmps13 rfl ?_;intro H
  refine ZK (Zm (l:=[0]) rfl ?_);refine ZB ?_;refine Zo (Zn (ZK (Zm (l:=[0,1,2,3]) rfl ?_)));refine X_fs rfl rfl F.ok40 rfl (small10_ok _) rfl ?_
  rintro _ rfl
  refine Xr rfl rfl F.bld25 (.cons rfl (by constructor) (.cons rfl (by constructor) .nil)) rfl rfl ?_
  refine YW F.zero25 ?_;intro b1
  refine Yh F.lay25 ?_;refine Zo (Zn (Y_pk [1,0] ?_));refine ZK (Zm (l:=[0,1,2,3]) rfl ?_);refine X_fs rfl rfl F.ok40 rfl (small20_ok _) rfl ?_
  rintro _ rfl
  refine Xr rfl rfl F.bld25 (.cons rfl (by constructor) (.cons rfl (by constructor) .nil)) rfl rfl ?_
  refine YW F.zero25 ?_;intro b2
  refine Yh F.lay25 ?_;refine Zo (Zn (Y_pk [2,1,0] ?_));refine ZK (Zm (l:=[0,1,2,3,4,5,6,7]) rfl ?_);refine ZD F.lay25 ?_;refine X_fn rfl rfl F.ok21 rfl (Alone_ok M ⟨1,10#160⟩ 2) rfl ?_
  rintro _ M1 hm1 hv
  rw [nx1] at hv
  simp only [NeE] at hv
  obtain ⟨⟨⟨⟨x_table_self_addr,x_table_self_id⟩,⟨x_table_pred_addr,x_table_pred_id⟩,⟨x_table_succ_a,x_table_succ_c,x_table_succ_l⟩,⟨x_table_fingers_a,x_table_fingers_c,x_table_fingers_l⟩⟩,x_copies,x_joined,x_boot,x_cursor,x_req,x_askTo,x_askReq,x_pingTo,x_pingReq,x_findTo,x_findReq,x_findID,⟨x_avoid_a,x_avoid_c,x_avoid_l⟩,x_hops,x_turn⟩,rfl,ex,okx⟩:=hv
  try simp only at ex
  refine Zx ?_
  iterate 2 refine XU ?_
  refine YW F.zero32 ?_;intro b3
  refine Xg F.lay32 ?_;refine ZB ?_;refine Zo (Zn (Y_pk [4,3,2,1,0] ?_));refine ZK (Zm (l:=[0,1,2,3,4,5,6,7]) rfl ?_);refine ZD F.lay25 ?_;refine X_fn rfl rfl F.ok23 rfl (Joining_ok M1 ⟨2,20#160⟩ 2 1) rfl ?_
  rintro _ M2 hm2 hv
  rw [nx2] at hv
  simp only [NeE] at hv
  obtain ⟨⟨⟨⟨y_table_self_addr,y_table_self_id⟩,⟨y_table_pred_addr,y_table_pred_id⟩,⟨y_table_succ_a,y_table_succ_c,y_table_succ_l⟩,⟨y_table_fingers_a,y_table_fingers_c,y_table_fingers_l⟩⟩,y_copies,y_joined,y_boot,y_cursor,y_req,y_askTo,y_askReq,y_pingTo,y_pingReq,y_findTo,y_findReq,y_findID,⟨y_avoid_a,y_avoid_c,y_avoid_l⟩,y_hops,y_turn⟩,rfl,ey,oky⟩:=hv
  try simp only at ey
  refine Zx ?_
  iterate 2 refine XU ?_
  refine YW F.zero32 ?_;intro b4
  refine Xg F.lay32 ?_;refine ZB ?_;refine Zo (Zn (Y_pk [6,5,4,3,2,1,0] ?_));refine ZK (Zm (l:=[0,1,2,3,4,5,6,7,8,9]) rfl ?_);refine ZD F.lay32 ?_;refine X_fn rfl rfl F.ok11 rfl (Tick_ok M2 ⟨⟨⟨y_table_self_addr,y_table_self_id⟩,⟨y_table_pred_addr,y_table_pred_id⟩,⟨y_table_succ_a,y_table_succ_c,y_table_succ_l⟩,⟨y_table_fingers_a,y_table_fingers_c,y_table_fingers_l⟩⟩,y_copies,y_joined,y_boot,y_cursor,y_req,y_askTo,y_askReq,y_pingTo,y_pingReq,y_findTo,y_findReq,y_findID,⟨y_avoid_a,y_avoid_c,y_avoid_l⟩,y_hops,y_turn⟩ 1 oky) rfl ?_
  rintro _ M3 hm3 hv
  rw [show Uy (ZR.nd ⟨⟨⟨y_table_self_addr,y_table_self_id⟩,⟨y_table_pred_addr,y_table_pred_id⟩,⟨y_table_succ_a,y_table_succ_c,y_table_succ_l⟩,⟨y_table_fingers_a,y_table_fingers_c,y_table_fingers_l⟩⟩,y_copies,y_joined,y_boot,y_cursor,y_req,y_askTo,y_askReq,y_pingTo,y_pingReq,y_findTo,y_findReq,y_findID,⟨y_avoid_a,y_avoid_c,y_avoid_l⟩,y_hops,y_turn⟩) 1=_ from (congrArg (fun n=>Uy n 1) ey).trans nx3] at hv
  simp only [NtE] at hv
  obtain ⟨⟨⟨⟨z_table_self_addr,z_table_self_id⟩,⟨z_table_pred_addr,z_table_pred_id⟩,⟨z_table_succ_a,z_table_succ_c,z_table_succ_l⟩,⟨z_table_fingers_a,z_table_fingers_c,z_table_fingers_l⟩⟩,z_copies,z_joined,z_boot,z_cursor,z_req,z_askTo,z_askReq,z_pingTo,z_pingReq,z_findTo,z_findReq,z_findID,⟨z_avoid_a,z_avoid_c,z_avoid_l⟩,z_hops,z_turn⟩,⟨so_a,so_c,so_l⟩,rfl,ez,sz,okz,kz,lz⟩:=hv
  try simp only at ez sz kz lz
  obtain ⟨⟨p_to,⟨p_kind,⟨p_frm_addr,p_frm_id⟩,p_req,p_id,⟨p_avoid_a,p_avoid_c,p_avoid_l⟩,p_done,⟨p_peer_addr,p_peer_id⟩,⟨p_peers_a,p_peers_c,p_peers_l⟩⟩⟩,rfl,hp⟩:=sndl_one sz
  simp only [Yr.snd,ZP.lt,nL1,Snd.mk.injEq,Lt.mk.injEq,ZF.mk.injEq] at hp
  obtain ⟨rfl,rfl,⟨rfl,rfl⟩,rfl,rfl,rfl,rfl,⟨rfl,rfl⟩,rfl⟩:=hp
  have s_so:=kz.h1
  try simp only at s_so
  refine Zx ?_
  iterate 3 refine XU ?_
  refine YW F.zero32 ?_;intro b5
  refine Xg F.lay32 ?_
  iterate 2 refine ZB ?_
  refine Zo (Zn (Y_pk [9,8,7,6,4,3,2,1,0] ?_))
  iterate 2 refine ZK ?_
  refine Zm (l:=[0,1,2,3,4,5,6,7,8,9,10,11,12,13,14,15,16,17,18,19,20,21,22,23,24,25,26,27,28,29,30,31]) rfl ?_;refine Zx ?_;refine YI ?_;refine Zx ?_
  refine Yj 43 rfl (fun hc6=>?_) (fun hc6=>?_)
  ·replace hc6:=nT hc6
   simp only [ZF.eta,ZQ.eta,ZR.eta,ZP.eta,Yr.eta,ZW.eta,YQ.eta,Yc.eta] at hc6
   (exfalso;simp [eqX] at hc6;done)
  ·replace hc6:=nF hc6
   simp only [ZF.eta,ZQ.eta,ZR.eta,ZP.eta,Yr.eta,ZW.eta,YQ.eta,Yc.eta] at hc6
   iterate 2 refine Zx ?_
   refine YI ?_;refine ZO ?_;refine Zx ?_
   refine Yj 48 rfl (fun hc7=>?_) (fun hc7=>?_)
   ·replace hc7:=nT hc7
    simp only [ZF.eta,ZQ.eta,ZR.eta,ZP.eta,Yr.eta,ZW.eta,YQ.eta,Yc.eta] at hc7
    (exfalso;simp [eqX] at hc7;done)
   ·replace hc7:=nF hc7
    simp only [ZF.eta,ZQ.eta,ZR.eta,ZP.eta,Yr.eta,ZW.eta,YQ.eta,Yc.eta] at hc7
    iterate 2 refine Zx ?_
    refine YI ?_;refine ZO ?_;refine Zx ?_
    refine Yj 53 rfl (fun hc8=>?_) (fun hc8=>?_)
    ·replace hc8:=nT hc8
     simp only [ZF.eta,ZQ.eta,ZR.eta,ZP.eta,Yr.eta,ZW.eta,YQ.eta,Yc.eta] at hc8
     (exfalso;simp [eqX] at hc8;done)
    ·replace hc8:=nF hc8
     simp only [ZF.eta,ZQ.eta,ZR.eta,ZP.eta,Yr.eta,ZW.eta,YQ.eta,Yc.eta] at hc8
     refine Zx ?_;refine YY F.elem35 ?_;refine YI ?_;refine ZO ?_;refine Zx ?_
     refine Yj 58 rfl (fun hc9=>?_) (fun hc9=>?_)
     ·replace hc9:=nT hc9
      (exfalso;simp [eqX] at hc9;done)
     ·replace hc9:=nF hc9
      refine Zx ?_;refine YR rfl rfl rfl rfl F.elem35 (by rfl) (by (simp;done)) (by exact SlM.plain (by assumption) (by (simp;done))) rfl ?_;refine XC rfl rfl rfl (by exact SlM.plain (by assumption) (by (simp;done))) F.foff49_0 rfl ?_;refine Xm rfl rfl rfl (by assumption) (by exact rfl) F.lay3 rfl rfl rfl ?_;refine YI ?_;refine ZO ?_;refine Zx ?_
      refine Yj 65 rfl (fun hc10=>?_) (fun hc10=>?_)
      ·replace hc10:=nT hc10
       simp only [ZF.eta,ZQ.eta,ZR.eta,ZP.eta,Yr.eta,ZW.eta,YQ.eta,Yc.eta] at hc10
       (exfalso;simp [eqX] at hc10;done)
      ·replace hc10:=nF hc10
       simp only [ZF.eta,ZQ.eta,ZR.eta,ZP.eta,Yr.eta,ZW.eta,YQ.eta,Yc.eta] at hc10
       refine Zx ?_;refine YR rfl rfl rfl rfl F.elem35 (by rfl) (by (simp;done)) (by exact SlM.plain (by assumption) (by (simp;done))) rfl ?_;refine XC rfl rfl rfl (by exact SlM.plain (by assumption) (by (simp;done))) F.foff49_1 rfl ?_;refine XC rfl rfl rfl (by exact SlM.plain (by assumption) (by (simp;done))) F.foff44_0 rfl ?_;refine Xm rfl rfl rfl (by assumption) (by exact rfl) F.lay3 rfl rfl rfl ?_;refine YI ?_;refine ZO ?_;refine Zo (Zn (Y_pk [72,8,7,3,2,1,0] ?_))
       refine YA rfl (fun hc11=>?_) (fun hc11=>?_)
       ·replace hc11:=nT hc11
        simp only [ZF.eta,ZQ.eta,ZR.eta,ZP.eta,Yr.eta,ZW.eta,YQ.eta,Yc.eta] at hc11
        (exfalso;simp [eqX] at hc11;done)
       ·replace hc11:=nF hc11
        simp only [ZF.eta,ZQ.eta,ZR.eta,ZP.eta,Yr.eta,ZW.eta,YQ.eta,Yc.eta] at hc11
        refine YG (Zn (Y_pk [8,7,3,2,1,0] ?_));refine ZK (YK (l:=[0,1,2,3,4,5,6,7,8,9,10,11,12,13]) #[0,0,2,6,14,31,63,127,127,127,0,1279,3583,8191] _ rfl (by kernel_rfl) (by kernel_rfl) St.drawn (fun _ h=>h) ?_);refine ZD F.lay32 ?_;refine Zx ?_;refine YR rfl rfl rfl rfl F.elem35 (by rfl) (by (simp;done)) (by exact SlM.plain (by assumption) (by (simp;done))) rfl ?_;refine XC rfl rfl rfl (by exact SlM.plain (by assumption) (by (simp;done))) F.foff49_1 rfl ?_;refine Xm rfl rfl rfl (by assumption) (by exact rfl) F.lay44 rfl rfl rfl ?_;refine X_fn rfl rfl F.ok17 rfl (Take_ok M3 ⟨⟨⟨x_table_self_addr,x_table_self_id⟩,⟨x_table_pred_addr,x_table_pred_id⟩,⟨x_table_succ_a,x_table_succ_c,x_table_succ_l⟩,⟨x_table_fingers_a,x_table_fingers_c,x_table_fingers_l⟩⟩,x_copies,x_joined,x_boot,x_cursor,x_req,x_askTo,x_askReq,x_pingTo,x_pingReq,x_findTo,x_findReq,x_findID,⟨x_avoid_a,x_avoid_c,x_avoid_l⟩,x_hops,x_turn⟩ ⟨1,⟨2,20#160⟩,1,20#160,⟨p_avoid_a,p_avoid_c,[]⟩,false,⟨-1,0⟩,⟨p_peers_a,p_peers_c,[]⟩⟩ (okx.mono (by (repeat first|assumption|refine Mem.le.trans (by assumption) ?_))) (lz _ (List.Mem.head _)).h0) rfl ?_
        rintro _ M4 hm4 hv
        rw [show Wz (ZR.nd ⟨⟨⟨x_table_self_addr,x_table_self_id⟩,⟨x_table_pred_addr,x_table_pred_id⟩,⟨x_table_succ_a,x_table_succ_c,x_table_succ_l⟩,⟨x_table_fingers_a,x_table_fingers_c,x_table_fingers_l⟩⟩,x_copies,x_joined,x_boot,x_cursor,x_req,x_askTo,x_askReq,x_pingTo,x_pingReq,x_findTo,x_findReq,x_findID,⟨x_avoid_a,x_avoid_c,x_avoid_l⟩,x_hops,x_turn⟩) (ZP.lt ⟨1,⟨2,20#160⟩,1,20#160,⟨p_avoid_a,p_avoid_c,[]⟩,false,⟨-1,0⟩,⟨p_peers_a,p_peers_c,[]⟩⟩)=_ from (congrArg (fun n=>Wz n (ZP.lt ⟨1,⟨2,20#160⟩,1,20#160,⟨p_avoid_a,p_avoid_c,[]⟩,false,⟨-1,0⟩,⟨p_peers_a,p_peers_c,[]⟩⟩)) ex).trans nx4] at hv
        simp only [NtE] at hv
        obtain ⟨⟨⟨⟨w_table_self_addr,w_table_self_id⟩,⟨w_table_pred_addr,w_table_pred_id⟩,⟨w_table_succ_a,w_table_succ_c,w_table_succ_l⟩,⟨w_table_fingers_a,w_table_fingers_c,w_table_fingers_l⟩⟩,w_copies,w_joined,w_boot,w_cursor,w_req,w_askTo,w_askReq,w_pingTo,w_pingReq,w_findTo,w_findReq,w_findID,⟨w_avoid_a,w_avoid_c,w_avoid_l⟩,w_hops,w_turn⟩,⟨to_a,to_c,to_l⟩,rfl,ew,sw,okw,kw,lw⟩:=hv
        try simp only at ew sw kw lw
        obtain ⟨⟨r_to,⟨r_kind,⟨r_frm_addr,r_frm_id⟩,r_req,r_id,⟨r_avoid_a,r_avoid_c,r_avoid_l⟩,r_done,⟨r_peer_addr,r_peer_id⟩,⟨r_peers_a,r_peers_c,r_peers_l⟩⟩⟩,rfl,hr⟩:=sndl_one sw
        simp only [Yr.snd,ZP.lt,nL2,Snd.mk.injEq,Lt.mk.injEq,ZF.mk.injEq] at hr
        obtain ⟨rfl,rfl,⟨rfl,rfl⟩,rfl,rfl,rfl,rfl,⟨rfl,rfl⟩,rfl⟩:=hr
        have s_to:=kw.h1
        try simp only at s_to
        refine Zx ?_
        iterate 3 refine XU ?_
        refine YW F.zero32 ?_;intro b12
        refine Xg F.lay32 ?_
        iterate 2 refine ZB ?_
        refine Zo (Zn (Y_pk [12,11,7,2,1,0] ?_))
        iterate 2 refine ZK ?_
        refine YK (l:=[0,1,2,3,4,5,6,7,8,9,10,11,12,13,14,15,16,17,18,19,20,21,22,23,24,25,26,27,28,29,30]) #[0,1,3,7,15,31,63,127,255,511,1023,2047,4095,8191,16383,32767,65535,131071,262143,524287,1048575,2097151,4194303,8388607,16777215,33554431,67108863,134217727,8388607,536870911,1073741823] _ rfl (by kernel_rfl) (by kernel_rfl) St.drawn (fun _ h=>h) ?_;refine Zx ?_;refine YI ?_;refine Zx ?_
        refine Yj 85 rfl (fun hc13=>?_) (fun hc13=>?_)
        ·replace hc13:=nT hc13
         simp only [ZF.eta,ZQ.eta,ZR.eta,ZP.eta,Yr.eta,ZW.eta,YQ.eta,Yc.eta] at hc13
         (exfalso;simp [eqX] at hc13;done)
        ·replace hc13:=nF hc13
         simp only [ZF.eta,ZQ.eta,ZR.eta,ZP.eta,Yr.eta,ZW.eta,YQ.eta,Yc.eta] at hc13
         refine Zx ?_;refine YY F.elem35 ?_;refine YI ?_;refine ZO ?_;refine Zx ?_
         refine Yj 90 rfl (fun hc14=>?_) (fun hc14=>?_)
         ·replace hc14:=nT hc14
          (exfalso;simp [eqX] at hc14;done)
         ·replace hc14:=nF hc14
          refine Zx ?_;refine YR rfl rfl rfl rfl F.elem35 (by rfl) (by (simp;done)) (by exact SlM.plain (by assumption) (by (simp;done))) rfl ?_;refine XC rfl rfl rfl (by exact SlM.plain (by assumption) (by (simp;done))) F.foff49_0 rfl ?_;refine Xm rfl rfl rfl (by assumption) (by exact rfl) F.lay3 rfl rfl rfl ?_;refine YI ?_;refine ZO ?_;refine Zx ?_
          refine Yj 97 rfl (fun hc15=>?_) (fun hc15=>?_)
          ·replace hc15:=nT hc15
           simp only [ZF.eta,ZQ.eta,ZR.eta,ZP.eta,Yr.eta,ZW.eta,YQ.eta,Yc.eta] at hc15
           (exfalso;simp [eqX] at hc15;done)
          ·replace hc15:=nF hc15
           simp only [ZF.eta,ZQ.eta,ZR.eta,ZP.eta,Yr.eta,ZW.eta,YQ.eta,Yc.eta] at hc15
           refine Zx ?_;refine YR rfl rfl rfl rfl F.elem35 (by rfl) (by (simp;done)) (by exact SlM.plain (by assumption) (by (simp;done))) rfl ?_;refine XC rfl rfl rfl (by exact SlM.plain (by assumption) (by (simp;done))) F.foff49_1 rfl ?_;refine XC rfl rfl rfl (by exact SlM.plain (by assumption) (by (simp;done))) F.foff44_5 rfl ?_;refine Xm rfl rfl rfl (by assumption) (by exact rfl) F.lay4 rfl rfl rfl ?_;refine Xj ?_;refine ZO ?_;refine Zx ?_
           refine Yj 105 rfl (fun hc16=>?_) (fun hc16=>?_)
           ·skip
            (exfalso;simp [eqX] at hc16;done)
           ·skip
            refine Zx ?_;refine YR rfl rfl rfl rfl F.elem35 (by rfl) (by (simp;done)) (by exact SlM.plain (by assumption) (by (simp;done))) rfl ?_;refine XC rfl rfl rfl (by exact SlM.plain (by assumption) (by (simp;done))) F.foff49_1 rfl ?_;refine XC rfl rfl rfl (by exact SlM.plain (by assumption) (by (simp;done))) F.foff44_6 rfl ?_;refine Xm rfl rfl rfl (by assumption) (by exact rfl) F.lay25 rfl rfl rfl ?_;refine ZD F.lay25 ?_
            refine WF (m:=20) rfl rfl rfl rfl rfl (by constructor) (by constructor) F.lay25 F.kinds25 rfl F.guard25 (by exact XL (⟨_,_⟩)) (by exact XL (⟨_,_⟩)) rfl rfl rfl ?_;intro c17 he18
            replace he18:c17=true↔¬(Segs.cells _=Segs.cells _):=he18
            obtain rfl:=neD he18 (ZF.inj (x:=⟨_,_⟩) (y:=⟨_,_⟩));clear he18
            refine ZO ?_;refine Zo (Zn (Y_pk [113,11,7,2,1,0] ?_))
            refine YA rfl (fun hc19=>?_) (fun hc19=>?_)
            ·replace hc19:=nT hc19
             simp only [ZF.eta,ZQ.eta,ZR.eta,ZP.eta,Yr.eta,ZW.eta,YQ.eta,Yc.eta] at hc19
             (exfalso;simp [eqX] at hc19;done)
            ·replace hc19:=nF hc19
             simp only [ZF.eta,ZQ.eta,ZR.eta,ZP.eta,Yr.eta,ZW.eta,YQ.eta,Yc.eta] at hc19
             refine YG (Zn (Y_pk [11,7,2,1,0] ?_));refine ZK (YK (l:=[0,1,2,3,4,5,6,7,8,9,10,11,12,13]) #[0,0,2,6,14,31,63,127,127,127,0,1279,3583,8191] _ rfl (by kernel_rfl) (by kernel_rfl) St.drawn (fun _ h=>h) ?_);refine ZD F.lay32 ?_;refine Zx ?_;refine YR rfl rfl rfl rfl F.elem35 (by rfl) (by (simp;done)) (by exact SlM.plain (by assumption) (by (simp;done))) rfl ?_;refine XC rfl rfl rfl (by exact SlM.plain (by assumption) (by (simp;done))) F.foff49_1 rfl ?_;refine Xm rfl rfl rfl (by assumption) (by exact rfl) F.lay44 rfl rfl rfl ?_;refine X_fn rfl rfl F.ok17 rfl (Take_ok M4 ⟨⟨⟨z_table_self_addr,z_table_self_id⟩,⟨z_table_pred_addr,z_table_pred_id⟩,⟨z_table_succ_a,z_table_succ_c,z_table_succ_l⟩,⟨z_table_fingers_a,z_table_fingers_c,z_table_fingers_l⟩⟩,z_copies,z_joined,z_boot,z_cursor,z_req,z_askTo,z_askReq,z_pingTo,z_pingReq,z_findTo,z_findReq,z_findID,⟨z_avoid_a,z_avoid_c,z_avoid_l⟩,z_hops,z_turn⟩ ⟨2,⟨1,10#160⟩,1,0,⟨r_avoid_a,r_avoid_c,[]⟩,true,⟨1,10#160⟩,⟨r_peers_a,r_peers_c,[]⟩⟩ (okz.mono hm4) (lw _ (List.Mem.head _)).h0) rfl ?_
             rintro _ M5 hm5 hv
             rw [show Wz (ZR.nd ⟨⟨⟨z_table_self_addr,z_table_self_id⟩,⟨z_table_pred_addr,z_table_pred_id⟩,⟨z_table_succ_a,z_table_succ_c,z_table_succ_l⟩,⟨z_table_fingers_a,z_table_fingers_c,z_table_fingers_l⟩⟩,z_copies,z_joined,z_boot,z_cursor,z_req,z_askTo,z_askReq,z_pingTo,z_pingReq,z_findTo,z_findReq,z_findID,⟨z_avoid_a,z_avoid_c,z_avoid_l⟩,z_hops,z_turn⟩) (ZP.lt ⟨2,⟨1,10#160⟩,1,0,⟨r_avoid_a,r_avoid_c,[]⟩,true,⟨1,10#160⟩,⟨r_peers_a,r_peers_c,[]⟩⟩)=_ from (congrArg (fun n=>Wz n (ZP.lt ⟨2,⟨1,10#160⟩,1,0,⟨r_avoid_a,r_avoid_c,[]⟩,true,⟨1,10#160⟩,⟨r_peers_a,r_peers_c,[]⟩⟩)) ez).trans nx5] at hv
             simp only [NtE] at hv
             obtain ⟨⟨⟨⟨v_table_self_addr,v_table_self_id⟩,⟨v_table_pred_addr,v_table_pred_id⟩,⟨v_table_succ_a,v_table_succ_c,v_table_succ_l⟩,⟨v_table_fingers_a,v_table_fingers_c,v_table_fingers_l⟩⟩,v_copies,v_joined,v_boot,v_cursor,v_req,v_askTo,v_askReq,v_pingTo,v_pingReq,v_findTo,v_findReq,v_findID,⟨v_avoid_a,v_avoid_c,v_avoid_l⟩,v_hops,v_turn⟩,⟨vo_a,vo_c,vo_l⟩,rfl,ev,sv,okv,kv,lv⟩:=hv
             try simp only at ev sv kv lv
             refine Zx ?_
             iterate 3 refine XU ?_
             refine YW F.zero32 ?_;intro b20
             refine Xg F.lay32 ?_
             iterate 2 refine ZB ?_
             refine Zo (Zn (Y_pk [15,13,2,1,0] ?_));refine ZK (Zm (l:=[0,1,2,3,4,5,6,7,8,9]) rfl ?_);refine ZD F.lay32 ?_;refine X_fn rfl rfl F.ok11 rfl (Tick_ok M5 ⟨⟨⟨v_table_self_addr,v_table_self_id⟩,⟨v_table_pred_addr,v_table_pred_id⟩,⟨v_table_succ_a,v_table_succ_c,v_table_succ_l⟩,⟨v_table_fingers_a,v_table_fingers_c,v_table_fingers_l⟩⟩,v_copies,v_joined,v_boot,v_cursor,v_req,v_askTo,v_askReq,v_pingTo,v_pingReq,v_findTo,v_findReq,v_findID,⟨v_avoid_a,v_avoid_c,v_avoid_l⟩,v_hops,v_turn⟩ 1 okv) rfl ?_
             rintro _ M6 hm6 hv
             rw [show Uy (ZR.nd ⟨⟨⟨v_table_self_addr,v_table_self_id⟩,⟨v_table_pred_addr,v_table_pred_id⟩,⟨v_table_succ_a,v_table_succ_c,v_table_succ_l⟩,⟨v_table_fingers_a,v_table_fingers_c,v_table_fingers_l⟩⟩,v_copies,v_joined,v_boot,v_cursor,v_req,v_askTo,v_askReq,v_pingTo,v_pingReq,v_findTo,v_findReq,v_findID,⟨v_avoid_a,v_avoid_c,v_avoid_l⟩,v_hops,v_turn⟩) 1=_ from (congrArg (fun n=>Uy n 1) ev).trans nx6] at hv
             simp only [NtE] at hv
             obtain ⟨⟨⟨⟨u_table_self_addr,u_table_self_id⟩,⟨u_table_pred_addr,u_table_pred_id⟩,⟨u_table_succ_a,u_table_succ_c,u_table_succ_l⟩,⟨u_table_fingers_a,u_table_fingers_c,u_table_fingers_l⟩⟩,u_copies,u_joined,u_boot,u_cursor,u_req,u_askTo,u_askReq,u_pingTo,u_pingReq,u_findTo,u_findReq,u_findID,⟨u_avoid_a,u_avoid_c,u_avoid_l⟩,u_hops,u_turn⟩,⟨uo_a,uo_c,uo_l⟩,rfl,eu,su,oku,ku,lu⟩:=hv
             try simp only at eu su ku lu
             obtain ⟨⟨q_to,⟨q_kind,⟨q_frm_addr,q_frm_id⟩,q_req,q_id,⟨q_avoid_a,q_avoid_c,q_avoid_l⟩,q_done,⟨q_peer_addr,q_peer_id⟩,⟨q_peers_a,q_peers_c,q_peers_l⟩⟩⟩,rfl,hq⟩:=sndl_one su
             simp only [Yr.snd,ZP.lt,nL3,Snd.mk.injEq,Lt.mk.injEq,ZF.mk.injEq] at hq
             obtain ⟨rfl,rfl,⟨rfl,rfl⟩,rfl,rfl,rfl,rfl,⟨rfl,rfl⟩,rfl⟩:=hq
             have s_uo:=ku.h1
             try simp only at s_uo
             refine Zx ?_
             iterate 3 refine XU ?_
             refine YW F.zero32 ?_;intro b21
             refine Xg F.lay32 ?_
             iterate 2 refine ZB ?_
             refine Zo (Zn (Y_pk [18,17,15,13,2,1,0] ?_));refine ZK (Zm (l:=[0,1,2,3,4,5,6,7]) rfl ?_);refine ZD F.lay25 ?_;refine X_fn rfl rfl F.ok23 rfl (Joining_ok M6 ⟨2,20#160⟩ 2 2) rfl ?_
             rintro _ M7 hm7 hv
             rw [nx7] at hv
             simp only [NeE] at hv
             obtain ⟨⟨⟨⟨j_table_self_addr,j_table_self_id⟩,⟨j_table_pred_addr,j_table_pred_id⟩,⟨j_table_succ_a,j_table_succ_c,j_table_succ_l⟩,⟨j_table_fingers_a,j_table_fingers_c,j_table_fingers_l⟩⟩,j_copies,j_joined,j_boot,j_cursor,j_req,j_askTo,j_askReq,j_pingTo,j_pingReq,j_findTo,j_findReq,j_findID,⟨j_avoid_a,j_avoid_c,j_avoid_l⟩,j_hops,j_turn⟩,rfl,ej,okj⟩:=hv
             try simp only at ej
             refine Zx ?_
             iterate 2 refine XU ?_
             refine YW F.zero32 ?_;intro b22
             refine Xg F.lay32 ?_;refine ZB ?_;refine Zo (Zn (Y_pk [20,18,17,15,13,1,0] ?_));refine ZK (YK (l:=[0,1,2,3,4,5,6,7,8,9,10,11,12,13,14,15,16,17,18,19,20,21,22,23,24,25,26,27,28,29,30,31,32,33,34,35,36,37,38]) #[0,1,3,7,15,31,63,127,255,511,127,2047,4095,8191,16383,32767,65535,131071,262143,524287,1048575,2097151,4194303,8388607,16777215,33554431,67108863,134217727,268435455,536870911,1073741823,2147483647,4294967295,8589934591,17179869183,34359738367,68719476735,137438953471,274877906943] _ rfl (by kernel_rfl) (by kernel_rfl) St.drawn (fun _ h=>h) ?_);refine Zx ?_;refine YI ?_;refine Zx ?_
             refine Yj 137 rfl (fun hc23=>?_) (fun hc23=>?_)
             ·replace hc23:=dT hc23
              simp only [ZF.eta,ZQ.eta,ZR.eta,ZP.eta,Yr.eta,ZW.eta,YQ.eta,Yc.eta] at hc23
              have hvj:v_joined=true:=(congrArg Nd.joined ev).trans nx8
              refine Zk F.foff32_2 ?_;refine ZD F.lay4 ?_;refine VA 139 rfl (show _=Value.bool true from congrArg Value.bool hvj) ?_;refine ZO ?_;refine Zx ?_
              refine Yj 141 rfl (fun hc24=>?_) (fun hc24=>?_)
              ·skip
               simp only [ZF.eta,ZQ.eta,ZR.eta,ZP.eta,Yr.eta,ZW.eta,YQ.eta,Yc.eta] at hc24
               refine Zk F.foff32_0 ?_;refine ZD F.lay28 ?_;refine X_fs rfl rfl F.ok41 rfl (First_ok _ ⟨⟨v_table_self_addr,v_table_self_id⟩,⟨v_table_pred_addr,v_table_pred_id⟩,⟨v_table_succ_a,v_table_succ_c,v_table_succ_l⟩,⟨v_table_fingers_a,v_table_fingers_c,v_table_fingers_l⟩⟩ (okv.h0.mono (by (repeat first|assumption|refine Mem.le.trans (by assumption) ?_)))) rfl ?_
               rintro _ hv
               have h9:Wi (ZQ.tb ⟨⟨v_table_self_addr,v_table_self_id⟩,⟨v_table_pred_addr,v_table_pred_id⟩,⟨v_table_succ_a,v_table_succ_c,v_table_succ_l⟩,⟨v_table_fingers_a,v_table_fingers_c,v_table_fingers_l⟩⟩)=⟨1,10#160⟩:=(congrArg (fun n:Nd=>Wi n.table) ev).trans nx9
               rw [h9] at hv
               subst hv
               refine ZD F.lay25 ?_
               refine WF (m:=20) rfl rfl rfl rfl rfl (by constructor) (by constructor) F.lay25 F.kinds25 rfl F.guard25 (by exact XL _) (by exact XL (⟨_,_⟩)) rfl rfl rfl ?_;intro c25 he26
               replace he26:c25=true↔Segs.cells _=Segs.cells _:=he26
               obtain rfl:=eqD he26 (ZF.inj (x:=⟨_,_⟩) (y:=⟨_,_⟩));clear he26
               refine ZO ?_;refine Zx ?_
               refine Yj 148 rfl (fun hc27=>?_) (fun hc27=>?_)
               ·replace hc27:=dT hc27
                simp only [ZF.eta,ZQ.eta,ZR.eta,ZP.eta,Yr.eta,ZW.eta,YQ.eta,Yc.eta] at hc27
                refine Zx ?_;refine YI ?_;refine ZO ?_;refine Zx ?_
                refine Yj 152 rfl (fun hc28=>?_) (fun hc28=>?_)
                ·replace hc28:=dT hc28
                 simp only [ZF.eta,ZQ.eta,ZR.eta,ZP.eta,Yr.eta,ZW.eta,YQ.eta,Yc.eta] at hc28
                 refine Zx ?_;refine YY F.elem35 ?_;refine YI ?_;refine ZO ?_;refine Zx ?_
                 refine Yj 157 rfl (fun hc29=>?_) (fun hc29=>?_)
                 ·replace hc29:=dT hc29
                  refine Zx ?_;refine YR rfl rfl rfl rfl F.elem35 (by rfl) (by (simp;done)) (by exact SlM.plain (by assumption) (by (simp;done))) rfl ?_;refine XC rfl rfl rfl (by exact SlM.plain (by assumption) (by (simp;done))) F.foff49_1 rfl ?_;refine XC rfl rfl rfl (by exact SlM.plain (by assumption) (by (simp;done))) F.foff44_0 rfl ?_;refine Xm rfl rfl rfl (by exact SlM.mono (by assumption) (by assumption)) (by exact rfl) F.lay3 rfl rfl rfl ?_;refine YI ?_;refine ZO ?_;refine Zx ?_
                  refine Yj 165 rfl (fun hc30=>?_) (fun hc30=>?_)
                  ·replace hc30:=dT hc30
                   simp only [ZF.eta,ZQ.eta,ZR.eta,ZP.eta,Yr.eta,ZW.eta,YQ.eta,Yc.eta] at hc30
                   refine Zx ?_;refine YI ?_;refine ZO ?_;refine Zx ?_
                   refine Yj 169 rfl (fun hc31=>?_) (fun hc31=>?_)
                   ·replace hc31:=dT hc31
                    simp only [ZF.eta,ZQ.eta,ZR.eta,ZP.eta,Yr.eta,ZW.eta,YQ.eta,Yc.eta] at hc31
                    refine ZD F.lay32 ?_;refine X_fs rfl rfl F.ok27 rfl (IsN_ok _ ⟨⟨⟨v_table_self_addr,v_table_self_id⟩,⟨v_table_pred_addr,v_table_pred_id⟩,⟨v_table_succ_a,v_table_succ_c,v_table_succ_l⟩,⟨v_table_fingers_a,v_table_fingers_c,v_table_fingers_l⟩⟩,v_copies,v_joined,v_boot,v_cursor,v_req,v_askTo,v_askReq,v_pingTo,v_pingReq,v_findTo,v_findReq,v_findID,⟨v_avoid_a,v_avoid_c,v_avoid_l⟩,v_hops,v_turn⟩ (okv.mono (by (repeat first|assumption|refine Mem.le.trans (by assumption) ?_)))) rfl ?_
                    rintro _ hv
                    have h9:IsNd (ZR.nd ⟨⟨⟨v_table_self_addr,v_table_self_id⟩,⟨v_table_pred_addr,v_table_pred_id⟩,⟨v_table_succ_a,v_table_succ_c,v_table_succ_l⟩,⟨v_table_fingers_a,v_table_fingers_c,v_table_fingers_l⟩⟩,v_copies,v_joined,v_boot,v_cursor,v_req,v_askTo,v_askReq,v_pingTo,v_pingReq,v_findTo,v_findReq,v_findID,⟨v_avoid_a,v_avoid_c,v_avoid_l⟩,v_hops,v_turn⟩):=ev.symm ▸ nx10
                    rw [decide_eq_true h9] at hv
                    subst hv
                    refine ZO ?_;refine ZB ?_;refine Zo (Zn (Y_pk [0] ?_));refine Yo ?_
                    refine Yk (.inr rfl) (.tmp rfl .nil) (fun w hw=>?_)
                    exact ⟨_,_,rfl,(by (repeat first|assumption|refine Mem.le.trans (by assumption) ?_)),hw.c,rfl⟩
                   ·replace hc31:=dF hc31
                    simp only [ZF.eta,ZQ.eta,ZR.eta,ZP.eta,Yr.eta,ZW.eta,YQ.eta,Yc.eta] at hc31
                    (exfalso;simp [eqX] at hc31;done)
                  ·replace hc30:=dF hc30
                   simp only [ZF.eta,ZQ.eta,ZR.eta,ZP.eta,Yr.eta,ZW.eta,YQ.eta,Yc.eta] at hc30
                   (exfalso;simp [eqX] at hc30;done)
                 ·replace hc29:=dF hc29
                  (exfalso;simp [eqX] at hc29;done)
                ·replace hc28:=dF hc28
                 simp only [ZF.eta,ZQ.eta,ZR.eta,ZP.eta,Yr.eta,ZW.eta,YQ.eta,Yc.eta] at hc28
                 (exfalso;simp [eqX] at hc28;done)
               ·replace hc27:=dF hc27
                simp only [ZF.eta,ZQ.eta,ZR.eta,ZP.eta,Yr.eta,ZW.eta,YQ.eta,Yc.eta] at hc27
                (exfalso;simp [eqX] at hc27;done)
              ·skip
               (exfalso;simp [eqX] at hc24;done)
             ·replace hc23:=dF hc23
              simp only [ZF.eta,ZQ.eta,ZR.eta,ZP.eta,Yr.eta,ZW.eta,YQ.eta,Yc.eta] at hc23
              (exfalso;simp [eqX] at hc23;done)
end Go.Proofs.YtajmnjefajknoaaGreat
namespace Go.Proofs.YtajmnjefajknoaaGreat
open Go.Esp
theorem F.ok13:okFn Tryz.prog 13=true:=by kernel_rfl
theorem F.ok14:okFn Tryz.prog 14=true:=by kernel_rfl
theorem F.ok15:okFn Tryz.prog 15=true:=by kernel_rfl
theorem F.ok16:okFn Tryz.prog 16=true:=by kernel_rfl
theorem F.ok18:okFn Tryz.prog 18=true:=by kernel_rfl
theorem F.ok9:okFn Tryz.prog 9=true:=by kernel_rfl
theorem lawTakes_ok (M:Mem) (n:ZR) (l:ZP) (hn0:ZR.ok M n) (hl1:ZP.ok M l):Esp.Fn Tryz.prog 4 [n.enc,l.enc] M (fun _ v=>v=.bool true):=by
  obtain ⟨⟨⟨Za,Zb⟩,⟨Zf,Zh⟩,⟨Zj,Zi,Zg⟩,⟨Ze,Zd,Zc⟩⟩,Zr,Zs,ZH,Zv,ZT,ZC,ZA,Zw,Zq,Zy,Zp,Zz,⟨Zu,Zt,Zl⟩,ZG,ZJ⟩:=n
  obtain ⟨Yb,⟨ZM,Ye⟩,YB,l_id,⟨ZY,ZX,ZN⟩,Ys,⟨ZI,ZS⟩,⟨ZZ,ZV,ZL⟩⟩:=l
  have Yv:ZQ.ok M ⟨⟨Za,Zb⟩,⟨Zf,Zh⟩,⟨Zj,Zi,Zg⟩,⟨Ze,Zd,Zc⟩⟩:=hn0.h0
  have YM:SlK M ZF.segs 21 ⟨Zj,Zi,Zg⟩:=hn0.h0.h0
  have Wo:SlM M Zj (Zg.map ZF.segs) 21:=YM.h1
  have Wp:(Zg.map ZF.segs).length=Zg.length:=List.length_map ..
  have Wq:Zg.length≤9223372036854775807:=YM.h2
  have Wr:Zg.length≤Zi:=YM.h3
  have Yx:SlK M ZF.segs 21 ⟨Ze,Zd,Zc⟩:=hn0.h0.h1
  have XV:SlM M Ze (Zc.map ZF.segs) 21:=Yx.h1
  have XW:(Zc.map ZF.segs).length=Zc.length:=List.length_map ..
  have XX:Zc.length≤9223372036854775807:=Yx.h2
  have XY:Zc.length≤Zd:=Yx.h3
  have Yz:SlK M (oneI .i64) 1 ⟨Zu,Zt,Zl⟩:=hn0.h1
  have WQ:SlM M Zu (Zl.map (oneI .i64)) 1:=Yz.h1
  have Vi:(Zl.map (oneI .i64)).length=Zl.length:=List.length_map ..
  have Va:Zl.length≤9223372036854775807:=Yz.h2
  have Vk:Zl.length≤Zt:=Yz.h3
  have Xl:SlK M (oneI .i64) 1 ⟨ZY,ZX,ZN⟩:=hl1.h0
  have Vu:SlM M ZY (ZN.map (oneI .i64)) 1:=Xl.h1
  have VK:(ZN.map (oneI .i64)).length=ZN.length:=List.length_map ..
  have Vx:ZN.length≤9223372036854775807:=Xl.h2
  have VM:ZN.length≤ZX:=Xl.h3
  have Xb:SlK M ZF.segs 21 ⟨ZZ,ZV,ZL⟩:=hl1.h1
  have XT:SlM M ZZ (ZL.map ZF.segs) 21:=Xb.h1
  have WR:(ZL.map ZF.segs).length=ZL.length:=List.length_map ..
  have Vw:ZL.length≤9223372036854775807:=Xb.h2
  have WS:ZL.length≤ZV:=Xb.h3
  obtain ⟨⟨T1,T2,T3⟩,hT⟩:∃ x,Wz (ZR.nd ⟨⟨⟨Za,Zb⟩,⟨Zf,Zh⟩,⟨Zj,Zi,Zg⟩,⟨Ze,Zd,Zc⟩⟩,Zr,Zs,ZH,Zv,ZT,ZC,ZA,Zw,Zq,Zy,Zp,Zz,⟨Zu,Zt,Zl⟩,ZG,ZJ⟩) (ZP.lt ⟨Yb,⟨ZM,Ye⟩,YB,l_id,⟨ZY,ZX,ZN⟩,Ys,⟨ZI,ZS⟩,⟨ZZ,ZV,ZL⟩⟩)=x:=⟨_,rfl⟩
  refine Wu Tryz.func4 rfl Tryz.ntmps4 rfl ?_;intro H
  refine ZK (Zm (l:=[0,1,2]) rfl ?_)
  refine Xk ?_;intro b1
  refine Xk ?_;intro b2
  refine ZB ?_;refine Zo (Zn (Y_pk [4,3,2] ?_))
  iterate 2 refine ZK ?_
  refine Zm (l:=[0,1,2,3,4,5]) rfl ?_;refine ZD F.lay32 ?_;refine X_fs rfl rfl F.ok9 rfl (BigN_ok _ ⟨⟨⟨Za,Zb⟩,⟨Zf,Zh⟩,⟨Zj,Zi,Zg⟩,⟨Ze,Zd,Zc⟩⟩,Zr,Zs,ZH,Zv,ZT,ZC,ZA,Zw,Zq,Zy,Zp,Zz,⟨Zu,Zt,Zl⟩,ZG,ZJ⟩ hn0) rfl ?_
  rintro _ ⟨bi,rfl,hbi⟩
  refine Zx ?_
  refine Yj 14 rfl (fun hc3=>?_) (fun hc3=>?_)
  ·skip
   iterate 2 refine Ya ?_
   refine ZO ?_;refine Zo (Zn (Y_pk [17,4,3,2] ?_));refine Xi rfl ?_;refine ZK (Zm (l:=[0]) rfl ?_);refine ZB ?_;refine Zo (Zn (Y_pk [4,3,2] ?_));refine Yo (YS ?_)
   refine Yk (.inr rfl) (.tmp rfl .nil) (fun w hw=>?_)
   refine ⟨_,_,rfl,(by exact Mem.le.refl _),hw.c,?_⟩
   clear hw
   rfl
  ·skip
   refine ZD F.lay44 ?_;refine X_fs rfl rfl F.ok16 rfl (BigL_ok _ ⟨Yb,⟨ZM,Ye⟩,YB,l_id,⟨ZY,ZX,ZN⟩,Ys,⟨ZI,ZS⟩,⟨ZZ,ZV,ZL⟩⟩ hl1) rfl ?_
   rintro _ ⟨bj,rfl,hbj⟩
   refine ZO ?_;refine Zo (Zn (Y_pk [17,4,3,2] ?_))
   refine YA rfl (fun hc4=>?_) (fun hc4=>?_)
   ·skip
    refine ZK (Zm (l:=[0]) rfl ?_);refine ZB ?_;refine Zo (Zn (Y_pk [4,3,2] ?_));refine Yo (YS ?_)
    refine Yk (.inr rfl) (.tmp rfl .nil) (fun w hw=>?_)
    refine ⟨_,_,rfl,(by exact Mem.le.refl _),hw.c,?_⟩
    clear hw
    rfl
   ·skip
    refine YG (Zn (Y_pk [4,3,2] ?_));refine ZK ?_
    obtain ⟨⟨hb1,hb2⟩,hb3⟩:=hbi (by assumption)
    try simp only at hb1 hb2 hb3
    refine Zm (l:=[0,1,2,3]) rfl ?_;refine ZD F.lay32 ?_;refine Ur rfl rfl F.ok10 rfl (rNOwn_ok M ⟨⟨⟨Za,Zb⟩,⟨Zf,Zh⟩,⟨Zj,Zi,Zg⟩,⟨Ze,Zd,Zc⟩⟩,Zr,Zs,ZH,Zv,ZT,ZC,ZA,Zw,Zq,Zy,Zp,Zz,⟨Zu,Zt,Zl⟩,ZG,ZJ⟩ hn0 ⟨hb1,hb2⟩ (by show Zl.length≤1000;omega)) (by repeat first|exact Rem.here _|exact Rem.two|apply Rem.skip|apply Rem.over) (fun _ _ _ hm hw=>(hw.lower (by exact hm)).c) (YV rfl) ?_
    rintro _ M1 hs5 hm1 ⟨⟨⟨oa,oi⟩,⟨oq,oj⟩,⟨o1a,o1c,o1l⟩,⟨o2a,o2c,o2l⟩⟩,⟨s_a,s_c,s_l⟩,rfl,hot,okt1,ho9,hl9⟩
    simp only [Sl.val] at ho9
    refine YW F.zero32 ?_;intro b5
    refine Xg F.lay32 ?_;refine Zo (Zn (Y_pk [5,4,3,2] ?_));refine ZK ?_
    refine UG ho9 (by repeat first|exact Rem.here _|exact Rem.two|apply Rem.skip|apply Rem.over) (fun M2 hM2 k9=>?_)
    have okO:ZR.ok M2 ⟨⟨⟨oa,oi⟩,⟨oq,oj⟩,⟨o1a,o1c,o1l⟩,⟨o2a,o2c,o2l⟩⟩,Zr,Zs,ZH,Zv,ZT,ZC,ZA,Zw,Zq,Zy,Zp,Zz,⟨s_a,s_c,s_l⟩,ZG,ZJ⟩:=⟨okt1.mono hM2,k9⟩
    have hon:ZR.nd ⟨⟨⟨oa,oi⟩,⟨oq,oj⟩,⟨o1a,o1c,o1l⟩,⟨o2a,o2c,o2l⟩⟩,Zr,Zs,ZH,Zv,ZT,ZC,ZA,Zw,Zq,Zy,Zp,Zz,⟨s_a,s_c,s_l⟩,ZG,ZJ⟩=(ZR.nd ⟨⟨⟨Za,Zb⟩,⟨Zf,Zh⟩,⟨Zj,Zi,Zg⟩,⟨Ze,Zd,Zc⟩⟩,Zr,Zs,ZH,Zv,ZT,ZC,ZA,Zw,Zq,Zy,Zp,Zz,⟨Zu,Zt,Zl⟩,ZG,ZJ⟩):=own_nd (n:=⟨⟨⟨Za,Zb⟩,⟨Zf,Zh⟩,⟨Zj,Zi,Zg⟩,⟨Ze,Zd,Zc⟩⟩,Zr,Zs,ZH,Zv,ZT,ZC,ZA,Zw,Zq,Zy,Zp,Zz,⟨Zu,Zt,Zl⟩,ZG,ZJ⟩) (t9:=⟨⟨oa,oi⟩,⟨oq,oj⟩,⟨o1a,o1c,o1l⟩,⟨o2a,o2c,o2l⟩⟩) (s9:=⟨s_a,s_c,s_l⟩) hot hl9
    refine Zm (l:=[0,1,2,3,4,5,6,7,8,9,10]) rfl ?_;refine ZD F.lay32 ?_;refine ZD F.lay44 ?_;refine X_fn rfl rfl F.ok17 rfl (Take_ok _ ⟨⟨⟨Za,Zb⟩,⟨Zf,Zh⟩,⟨Zj,Zi,Zg⟩,⟨Ze,Zd,Zc⟩⟩,Zr,Zs,ZH,Zv,ZT,ZC,ZA,Zw,Zq,Zy,Zp,Zz,⟨Zu,Zt,Zl⟩,ZG,ZJ⟩ ⟨Yb,⟨ZM,Ye⟩,YB,l_id,⟨ZY,ZX,ZN⟩,Ys,⟨ZI,ZS⟩,⟨ZZ,ZV,ZL⟩⟩ (hn0.mono (by (repeat first|assumption|refine Mem.le.trans (by assumption) ?_))) (hl1.mono (by (repeat first|assumption|refine Mem.le.trans (by assumption) ?_)))) rfl ?_
    rintro _ M3 hm3 hv
    rw [show Wz (ZR.nd ⟨⟨⟨Za,Zb⟩,⟨Zf,Zh⟩,⟨Zj,Zi,Zg⟩,⟨Ze,Zd,Zc⟩⟩,Zr,Zs,ZH,Zv,ZT,ZC,ZA,Zw,Zq,Zy,Zp,Zz,⟨Zu,Zt,Zl⟩,ZG,ZJ⟩) (ZP.lt ⟨Yb,⟨ZM,Ye⟩,YB,l_id,⟨ZY,ZX,ZN⟩,Ys,⟨ZI,ZS⟩,⟨ZZ,ZV,ZL⟩⟩)=_ from hT] at hv
    simp only [NtE] at hv
    obtain ⟨⟨⟨⟨a_table_self_addr,a_table_self_id⟩,⟨a_table_pred_addr,a_table_pred_id⟩,⟨a_table_succ_a,a_table_succ_c,WN⟩,⟨a_table_fingers_a,a_table_fingers_c,Wx⟩⟩,a_copies,a_joined,a_boot,a_cursor,a_req,a_askTo,a_askReq,a_pingTo,a_pingReq,a_findTo,a_findReq,a_findID,⟨a_avoid_a,a_avoid_c,WX⟩,a_hops,a_turn⟩,⟨a_a,a_c,a_l⟩,rfl,ea,sa,oka,ka,la⟩:=hv
    try simp only at ea sa ka la
    refine Zx ?_
    iterate 3 refine XU ?_
    refine YW F.zero32 ?_;intro b6
    refine Xg F.lay32 ?_
    iterate 2 refine ZB ?_
    refine Zo (Zn (Y_pk [8,7,6,5,4,3,2] ?_));refine ZK (Zm (l:=[0,1,2,3,4,5,6,7,8,9,10]) rfl ?_);refine ZD F.lay32 ?_;refine ZD F.lay44 ?_;refine X_fn rfl rfl F.ok18 rfl (rTake_ok _ ⟨⟨⟨oa,oi⟩,⟨oq,oj⟩,⟨o1a,o1c,o1l⟩,⟨o2a,o2c,o2l⟩⟩,Zr,Zs,ZH,Zv,ZT,ZC,ZA,Zw,Zq,Zy,Zp,Zz,⟨s_a,s_c,s_l⟩,ZG,ZJ⟩ ⟨Yb,⟨ZM,Ye⟩,YB,l_id,⟨ZY,ZX,ZN⟩,Ys,⟨ZI,ZS⟩,⟨ZZ,ZV,ZL⟩⟩ (okO.mono (by assumption)) (hl1.mono (by (repeat first|assumption|refine Mem.le.trans (by assumption) ?_)))) rfl ?_
    rintro _ M4 hm4 hv
    rw [show Wz (ZR.nd ⟨⟨⟨oa,oi⟩,⟨oq,oj⟩,⟨o1a,o1c,o1l⟩,⟨o2a,o2c,o2l⟩⟩,Zr,Zs,ZH,Zv,ZT,ZC,ZA,Zw,Zq,Zy,Zp,Zz,⟨s_a,s_c,s_l⟩,ZG,ZJ⟩) (ZP.lt ⟨Yb,⟨ZM,Ye⟩,YB,l_id,⟨ZY,ZX,ZN⟩,Ys,⟨ZI,ZS⟩,⟨ZZ,ZV,ZL⟩⟩)=_ from (congrArg (fun n=>Wz n (ZP.lt ⟨Yb,⟨ZM,Ye⟩,YB,l_id,⟨ZY,ZX,ZN⟩,Ys,⟨ZI,ZS⟩,⟨ZZ,ZV,ZL⟩⟩)) hon).trans hT] at hv
    simp only [NtE] at hv
    obtain ⟨⟨⟨⟨b_table_self_addr,b_table_self_id⟩,⟨b_table_pred_addr,b_table_pred_id⟩,⟨b_table_succ_a,b_table_succ_c,WM⟩,⟨b_table_fingers_a,b_table_fingers_c,Wv⟩⟩,b_copies,b_joined,b_boot,b_cursor,b_req,b_askTo,b_askReq,b_pingTo,b_pingReq,b_findTo,b_findReq,b_findID,⟨b_avoid_a,b_avoid_c,WW⟩,b_hops,b_turn⟩,⟨b_a,b_c,b_l⟩,rfl,eb,sb,okb,kb,lb⟩:=hv
    try simp only at eb sb kb lb
    refine Zx ?_
    iterate 3 refine XU ?_
    refine YW F.zero32 ?_;intro b7
    refine Xg F.lay32 ?_
    iterate 2 refine ZB ?_
    refine Zo (Zn (Y_pk [11,10,9,8,7,6,5,4,2] ?_));refine ZK (Zm (l:=[0,1,2,3,4,5,6,7,8,9,10,11,12,13,14,15,16,17,18,19,20,21]) rfl ?_);refine X_fn rfl rfl F.ok13 rfl (noded_ok _) rfl ?_
    rintro _ M99 hm99 rfl
    refine Zx ?_
    refine Yj 35 rfl (fun hc8=>?_) (fun hc8=>?_)
    ·skip
     simp only [ZF.eta,ZQ.eta,ZR.eta,ZP.eta,Yr.eta,ZW.eta,YQ.eta,Yc.eta] at hc8
     iterate 2 refine ZD F.lay32 ?_
     refine X_fs rfl rfl F.ok14 rfl (SameN_ok _ ⟨⟨⟨a_table_self_addr,a_table_self_id⟩,⟨a_table_pred_addr,a_table_pred_id⟩,⟨a_table_succ_a,a_table_succ_c,WN⟩,⟨a_table_fingers_a,a_table_fingers_c,Wx⟩⟩,a_copies,a_joined,a_boot,a_cursor,a_req,a_askTo,a_askReq,a_pingTo,a_pingReq,a_findTo,a_findReq,a_findID,⟨a_avoid_a,a_avoid_c,WX⟩,a_hops,a_turn⟩ ⟨⟨⟨b_table_self_addr,b_table_self_id⟩,⟨b_table_pred_addr,b_table_pred_id⟩,⟨b_table_succ_a,b_table_succ_c,WM⟩,⟨b_table_fingers_a,b_table_fingers_c,Wv⟩⟩,b_copies,b_joined,b_boot,b_cursor,b_req,b_askTo,b_askReq,b_pingTo,b_pingReq,b_findTo,b_findReq,b_findID,⟨b_avoid_a,b_avoid_c,WW⟩,b_hops,b_turn⟩ (oka.mono (by (repeat first|assumption|refine Mem.le.trans (by assumption) ?_))) (okb.mono (by assumption))) rfl ?_
     rintro _ hv
     rw [decide_eq_true (show ZR.nd ⟨⟨⟨a_table_self_addr,a_table_self_id⟩,⟨a_table_pred_addr,a_table_pred_id⟩,⟨a_table_succ_a,a_table_succ_c,WN⟩,⟨a_table_fingers_a,a_table_fingers_c,Wx⟩⟩,a_copies,a_joined,a_boot,a_cursor,a_req,a_askTo,a_askReq,a_pingTo,a_pingReq,a_findTo,a_findReq,a_findID,⟨a_avoid_a,a_avoid_c,WX⟩,a_hops,a_turn⟩=ZR.nd ⟨⟨⟨b_table_self_addr,b_table_self_id⟩,⟨b_table_pred_addr,b_table_pred_id⟩,⟨b_table_succ_a,b_table_succ_c,WM⟩,⟨b_table_fingers_a,b_table_fingers_c,Wv⟩⟩,b_copies,b_joined,b_boot,b_cursor,b_req,b_askTo,b_askReq,b_pingTo,b_pingReq,b_findTo,b_findReq,b_findID,⟨b_avoid_a,b_avoid_c,WW⟩,b_hops,b_turn⟩ from ea.trans eb.symm)] at hv
     subst hv
     refine ZO ?_;refine Zx ?_
     refine Yj 40 rfl (fun hc9=>?_) (fun hc9=>?_)
     ·skip
      simp only [ZF.eta,ZQ.eta,ZR.eta,ZP.eta,Yr.eta,ZW.eta,YQ.eta,Yc.eta] at hc9
      iterate 2 refine Zx ?_
      refine X_fs rfl rfl F.ok15 rfl (Sends_ok _ ⟨a_a,a_c,a_l⟩ ⟨b_a,b_c,b_l⟩ (ka.mono (by (repeat first|assumption|refine Mem.le.trans (by assumption) ?_))) (fun h hh=>(la h hh).mono (by (repeat first|assumption|refine Mem.le.trans (by assumption) ?_))) (kb.mono (by assumption)) (fun h hh=>(lb h hh).mono (by assumption))) rfl ?_
      rintro _ hv
      rw [decide_eq_true (show a_l.map Yr.snd=b_l.map Yr.snd from sa.trans sb.symm)] at hv
      subst hv
      refine ZO ?_;refine Zx ?_
      refine Yj 45 rfl (fun hc10=>?_) (fun hc10=>?_)
      ·skip
       simp only [ZF.eta,ZQ.eta,ZR.eta,ZP.eta,Yr.eta,ZW.eta,YQ.eta,Yc.eta] at hc10
       iterate 2 refine Zx ?_
       refine YI ?_;refine ZO ?_;refine Zx ?_
       refine Yj 50 rfl (fun hc11=>?_) (fun hc11=>?_)
       ·replace hc11:=dT hc11
        simp only [ZF.eta,ZQ.eta,ZR.eta,ZP.eta,Yr.eta,ZW.eta,YQ.eta,Yc.eta] at hc11
        iterate 2 refine ZD F.lay32 ?_
        refine X_fs rfl rfl F.ok14 rfl (SameN_ok _ ⟨⟨⟨Za,Zb⟩,⟨Zf,Zh⟩,⟨Zj,Zi,Zg⟩,⟨Ze,Zd,Zc⟩⟩,Zr,Zs,ZH,Zv,ZT,ZC,ZA,Zw,Zq,Zy,Zp,Zz,⟨Zu,Zt,Zl⟩,ZG,ZJ⟩ ⟨⟨⟨oa,oi⟩,⟨oq,oj⟩,⟨o1a,o1c,o1l⟩,⟨o2a,o2c,o2l⟩⟩,Zr,Zs,ZH,Zv,ZT,ZC,ZA,Zw,Zq,Zy,Zp,Zz,⟨s_a,s_c,s_l⟩,ZG,ZJ⟩ (hn0.mono (by (repeat first|assumption|refine Mem.le.trans (by assumption) ?_))) (okO.mono (by (repeat first|assumption|refine Mem.le.trans (by assumption) ?_)))) rfl ?_
        rintro _ hv
        rw [decide_eq_true (show ZR.nd ⟨⟨⟨Za,Zb⟩,⟨Zf,Zh⟩,⟨Zj,Zi,Zg⟩,⟨Ze,Zd,Zc⟩⟩,Zr,Zs,ZH,Zv,ZT,ZC,ZA,Zw,Zq,Zy,Zp,Zz,⟨Zu,Zt,Zl⟩,ZG,ZJ⟩=ZR.nd ⟨⟨⟨oa,oi⟩,⟨oq,oj⟩,⟨o1a,o1c,o1l⟩,⟨o2a,o2c,o2l⟩⟩,Zr,Zs,ZH,Zv,ZT,ZC,ZA,Zw,Zq,Zy,Zp,Zz,⟨s_a,s_c,s_l⟩,ZG,ZJ⟩ from hon.symm)] at hv
        subst hv
        refine ZO ?_;refine ZB ?_;refine Zo (Zn (Y_pk [4] ?_));refine Yo ?_
        refine Yk (.inr rfl) (.tmp rfl .nil) (fun w hw=>?_)
        refine ⟨_,_,rfl,(by exact (((hm1.trans hM2).trans hm3).trans hm4).trans hm99),hw.c,?_⟩
        clear hw
        rfl
       ·replace hc11:=dF hc11
        simp only [ZF.eta,ZQ.eta,ZR.eta,ZP.eta,Yr.eta,ZW.eta,YQ.eta,Yc.eta] at hc11
        (exfalso;simp [eqX] at hc11;done)
      ·skip
       (exfalso;simp [eqX] at hc10;done)
     ·skip
      (exfalso;simp [eqX] at hc9;done)
    ·skip
     (exfalso;simp [eqX] at hc8;done)
end Go.Proofs.YtajmnjefajknoaaGreat
