/-
  Texts of this claim, one behind the other: N1, N2, N3, N4, NodeH, N5, N6, N7, N8, N9, N10, N11, NodeF.
-/
import Derived.Test.YtajmnjefajknoaaGreatQL23
set_option linter.unusedSimpArgs false
set_option linter.unusedVariables false
set_option linter.unnecessarySimpa false
set_option maxRecDepth 8000
set_option maxHeartbeats 1000000
namespace Go.Proofs.YtajmnjefajknoaaGreat
open Go.Esp
theorem F.foff32_0:foff Tryz.prog 32 0=some 0:=by kernel_rfl
theorem F.foff32_1:foff Tryz.prog 32 1=some 44:=by kernel_rfl
theorem F.foff32_10:foff Tryz.prog 32 10=some 53:=by kernel_rfl
theorem F.foff32_13:foff Tryz.prog 32 13=some 75:=by kernel_rfl
theorem F.foff32_14:foff Tryz.prog 32 14=some 76:=by kernel_rfl
theorem F.foff32_15:foff Tryz.prog 32 15=some 77:=by kernel_rfl
theorem F.foff32_2:foff Tryz.prog 32 2=some 45:=by kernel_rfl
theorem F.foff32_3:foff Tryz.prog 32 3=some 46:=by kernel_rfl
theorem F.foff32_4:foff Tryz.prog 32 4=some 47:=by kernel_rfl
theorem F.foff32_6:foff Tryz.prog 32 6=some 49:=by kernel_rfl
theorem F.foff32_8:foff Tryz.prog 32 8=some 51:=by kernel_rfl
theorem F.lay30:lay Tryz.prog 30=some (false,1):=by kernel_rfl
theorem F.lay32:lay Tryz.prog 32=some (true,78):=by kernel_rfl
theorem F.lay4:lay Tryz.prog 4=some (false,1):=by kernel_rfl
theorem F.lay91:lay Tryz.prog 91=some (false,1):=by kernel_rfl
theorem F.ok120:okFn Tryz.prog 120=true:=by kernel_rfl
theorem F.ok69:okFn Tryz.prog 69=true:=by kernel_rfl
theorem F.ok71:okFn Tryz.prog 71=true:=by kernel_rfl
theorem F.ok72:okFn Tryz.prog 72=true:=by kernel_rfl
theorem F.ok74:okFn Tryz.prog 74=true:=by kernel_rfl
theorem F.zero91:WH Tryz.prog 91=some (.nilFunc):=by kernel_rfl
theorem btw_ok (M:Mem) (x:Int) (lo:Int) (hi:Int):Fs Tryz.prog 69 [.int .i64 x,.int .i64 lo,.int .i64 hi] M (fun v=>v=Value.bool (decide (lo≤x∧x≤hi))):=by
  refine Xv Tryz.func69 rfl Tryz.ntmps69 rfl ?_;intro H
  refine ZK (Zm (l:=[0]) rfl ?_);refine ZB ?_;refine Zo (Zn (ZK (Zm (l:=[0,1,2,3,4,5,6,7,8]) rfl ?_)))
  iterate 2 refine Zx ?_
  refine YI ?_;refine Zx ?_
  refine Yj 10 rfl (fun hc1=>?_) (fun hc1=>?_)
  ·replace hc1:=dT hc1
   iterate 2 refine Zx ?_
   refine YI ?_;refine ZO ?_;refine ZB ?_;refine Zo (Zn (Y_pk [6] ?_));refine Yo ?_
   refine Yk (.inr rfl) (.tmp rfl .nil) (fun w hw=>?_)
   refine ⟨_,rfl,(hw.c),?_⟩
   clear hw
   refine congrArg Value.bool ?_
   exact decide_eq_decide.2 ⟨fun h9=>⟨by omega,h9⟩,fun h9=>h9.2⟩
  ·replace hc1:=dF hc1
   iterate 3 refine Ya ?_
   refine ZO ?_;refine ZB ?_;refine Zo (Zn (Y_pk [6] ?_));refine Yo ?_
   refine Yk (.inr rfl) (.tmp rfl .nil) (fun w hw=>?_)
   refine ⟨_,rfl,(hw.c),?_⟩
   clear hw
   refine congrArg Value.bool ?_
   exact (decide_eq_false (fun h9=>by omega)).symm
theorem IndexFI_rd (M:Mem) (Hin:Hp) (l:Sl Int) (g:FuncId) (caps:List Value) (p:Int→Bool) (hl:RdS M Hin l.a (l.l.map (oneI .i64)) 1) (bl:l.l.length≤9223372036854775807) (hok:okFn Tryz.prog g=true) (hc:∀ x∈l.l,Fo Tryz.prog g ([.int .i64 x]++caps) M Hin (fun M' v=>M'=M∧v=.bool (p x))):Fo Tryz.prog 120 [l.val,.func (.func g) #[] caps.toArray] M Hin (fun M' v=>M'=M∧v=.int .i64 (idxF p l.l)):=by
  have nl:(l.l.map (oneI .i64)).length=l.l.length:=List.length_map ..
  refine VE Tryz.func120 rfl Tryz.ntmps120 rfl ?_;intro H
  have hrd:=hl.app H
  refine ZK (Zm (l:=[0]) rfl ?_);refine ZB ?_;refine Zo (Zn ?_)
  iterate 2 refine ZK ?_
  refine Zm (l:=[0,1,2]) rfl ?_;refine Zx ?_;refine YY F.elem30 ?_;refine Zx ?_;refine Zo (Zn (Y_pk [8,7,4,0,1] ?_));refine Xc (Y_pk [8,7,4,0,1] ?_);refine WV (.succ .zero) (fun (k:Nat) z=>z=[(8,.int .i64 (k:Int))]∧k≤l.l.length∧(∀ j (h:j<k) (h2:j<l.l.length),p l.l[j]=false)) (fun k=>l.l.length-k) (0) (⟨rfl,by omega,by (intro j hj;omega)⟩) ?_
  rintro k _ ⟨rfl,hk,hI⟩
  refine ZK (Zm (l:=[0]) rfl ?_);refine YI ?_;refine Zo (Zn (ZK ?_))
  refine YA rfl (fun hc1=>?_) (fun hc1=>?_)
  ·skip
   replace hc1:=dT hc1
   refine YG (Zn (ZK (Xc (ZK (Zm (l:=[0,1]) rfl ?_)))));refine Zx ?_;refine ZB ?_;refine Zo (Zn (ZK (Zm (l:=[0,1,2,3,4,5]) rfl ?_)))
   iterate 3 refine Zx ?_
   refine YR rfl rfl rfl rfl F.elem30 (by rfl) (by omega) (by exact RdS.plain (by assumption) (by (simp;omega))) rfl ?_;refine X_load_rd rfl rfl rfl (by assumption) (by exact XP (by omega)) F.lay3 rfl rfl rfl ?_;refine X_foV rfl rfl rfl hok rfl rfl (hc _ (List.getElem_mem (n:=k) (by omega))) (Rem.here _) (YV rfl) ?_
   rintro _ M1 _ ⟨hM1,rfl⟩;subst M1
   refine Zo (Zn ?_)
   refine YA rfl (fun hc2=>?_) (fun hc2=>?_)
   ·skip
    have hP:=hc2
    refine ZK (Zm (l:=[0,1]) rfl ?_);refine Zx ?_;refine ZB ?_;refine Zo (Zn (Yo (Xh ?_)))
    iterate 2 refine YS ?_
    refine Xh (YS ?_)
    refine Yk (.inr rfl) (.tmp rfl .nil) (fun w hw=>?_)
    refine ⟨_,M,rfl,Mem.le.refl M,hw.c,rfl,?_⟩
    refine congrArg (Value.int .i64) ?_
    exact (idxF_at (by omega) (fun j hj=>hI j hj _) hP).symm
   ·skip
    have hP:=hc2
    refine YG (XR (Zn (Zm (l:=[0,1]) rfl ?_)));refine XE rfl rfl rfl rfl rfl (by exact Xe (by decide) (by omega)) rfl ?_;refine Zx ?_;refine Zo ?_;refine WO (a':=[(8,_)]) (k+1) (.cons (k:=8) rfl (.cons (k:=7) rfl (.cons (k:=4) rfl (.cons (k:=0) rfl (.cons (k:=1) rfl (.nil)))))) (fun w hw=>by first|exact hw|exact hw.c) ?_ ?_
    ·refine ⟨rfl,by omega,?_⟩
     (intro j hj hj2;rcases Nat.lt_or_ge j k with h9|h9;exact hI j h9 hj2;obtain rfl:j=k:=(by omega);simp_all)
    ·omega
  ·skip
   replace hc1:=dF hc1
   refine XK ?_
   iterate 2 refine XH ?_
   refine Wh (Zn (Y_pk [4] ?_));refine ZK (Zm (l:=[0]) rfl ?_);refine ZB ?_;refine Zo (Zn (Yo ?_))
   refine Yk (.inr rfl) (.tmp rfl .nil) (fun w hw=>?_)
   refine ⟨_,M,rfl,Mem.le.refl M,hw.c,rfl,?_⟩
   refine congrArg (Value.int .i64) ?_
   exact (idxF_none (fun j hj=>hI j (by omega) hj)).symm
theorem ContainsFI_rd (M:Mem) (Hin:Hp) (l:Sl Int) (g:FuncId) (caps:List Value) (p:Int→Bool) (hl:RdS M Hin l.a (l.l.map (oneI .i64)) 1) (bl:l.l.length≤9223372036854775807) (hok:okFn Tryz.prog g=true) (hc:∀ x∈l.l,Fo Tryz.prog g ([.int .i64 x]++caps) M Hin (fun M' v=>M'=M∧v=.bool (p x))):Fo Tryz.prog 71 [l.val,.func (.func g) #[] caps.toArray] M Hin (fun M' v=>M'=M∧v=.bool (l.l.any p)):=by
  refine VE Tryz.func71 rfl Tryz.ntmps71 rfl ?_;intro H
  refine ZK (Zm (l:=[0]) rfl ?_);refine ZB ?_;refine Zo (Zn (ZK (Zm (l:=[0,1,2,3,4]) rfl ?_)))
  iterate 2 refine Zx ?_
  refine X_fo rfl rfl F.ok120 rfl (IndexFI_rd _ Hin ⟨_,_,_⟩ g caps p hl bl hok hc) (by repeat first|exact Rem.here _|exact Rem.two|apply Rem.skip|apply Rem.over) (YV rfl) ?_
  rintro _ M1 _ ⟨hM1,rfl⟩;subst M1
  refine YI ?_;refine ZB ?_;refine Zo (Zn (Y_pk [4] ?_));refine Yo ?_
  refine Yk (.inr rfl) (.tmp rfl .nil) (fun w hw=>?_)
  exact ⟨_,M,rfl,Mem.le.refl M,hw.c,rfl,congrArg Value.bool idxF_nn⟩
theorem avo_ok (M:Mem) (b:Nat) (a:Int):Fo Tryz.prog 72 ([.int .i64 a]++[.pointer (some ⟨b,0,none⟩)]) M [(b,rowO [.one (.func (.func 69) #[] #[])] 91)] (fun M' v=>M'=M∧v=.bool (decide (¬(0≤a∧a≤999)))):=by
  refine VE Tryz.func72 rfl Tryz.ntmps72 rfl ?_;intro H
  refine ZK (Zm (l:=[0]) rfl ?_);refine ZB ?_;refine Zo (Zn (ZK (Zm (l:=[0,1,2,3,4]) rfl ?_)));refine ZD F.lay91 ?_;refine Zx ?_;refine X_fsV rfl rfl rfl F.ok69 rfl rfl (btw_ok M _ _ _) rfl ?_
  rintro _ rfl
  refine Xj ?_;refine ZB ?_;refine Zo (Zn (Y_pk [3] ?_));refine Yo ?_
  refine Yk (.inr rfl) (.tmp rfl .nil) (fun w hw=>?_)
  refine ⟨_,M,rfl,Mem.le.refl M,hw.c,rfl,?_⟩
  clear hw
  refine congrArg Value.bool ?_
  (by_cases h9:0≤a∧a≤999 <;> simp [h9])
theorem IsN_ok (M:Mem) (n:ZR) (hn0:ZR.ok M n):Fs Tryz.prog 27 [n.enc] M (fun v=>v=Value.bool (decide (IsNd n.nd))):=by
  obtain ⟨⟨⟨Za,Zb⟩,⟨Zf,Zh⟩,⟨Zj,Zi,Zg⟩,⟨Ze,Zd,Zc⟩⟩,Zr,Zs,ZH,Zv,ZT,ZC,ZA,Zw,Zq,Zy,Zp,Zz,⟨Zu,Zt,Zl⟩,ZG,ZJ⟩:=n
  have Yv:ZQ.ok M ⟨⟨Za,Zb⟩,⟨Zf,Zh⟩,⟨Zj,Zi,Zg⟩,⟨Ze,Zd,Zc⟩⟩:=hn0.h0
  have YM:SlK M ZF.segs 21 ⟨Zj,Zi,Zg⟩:=hn0.h0.h0
  have Wo:SlM M Zj (Zg.map ZF.segs) 21:=YM.h1
  have Wp:(Zg.map ZF.segs).length=Zg.length:=List.length_map ..
  have Wq:Zg.length≤9223372036854775807:=YM.h2
  have Wr:Zg.length≤Zi:=YM.h3
  have Yx:SlK M ZF.segs 21 ⟨Ze,Zd,Zc⟩:=hn0.h0.h1
  have XV:SlM M Ze (Zc.map ZF.segs) 21:=Yx.h1
  have XW:(Zc.map ZF.segs).length=Zc.length:=List.length_map ..
  have XX:Zc.length≤9223372036854775807:=Yx.h2
  have XY:Zc.length≤Zd:=Yx.h3
  have Yz:SlK M (oneI .i64) 1 ⟨Zu,Zt,Zl⟩:=hn0.h1
  have WQ:SlM M Zu (Zl.map (oneI .i64)) 1:=Yz.h1
  have Vi:(Zl.map (oneI .i64)).length=Zl.length:=List.length_map ..
  have Va:Zl.length≤9223372036854775807:=Yz.h2
  have Vk:Zl.length≤Zt:=Yz.h3
  refine Xv Tryz.func27 rfl Tryz.ntmps27 rfl ?_;intro H
  refine ZK (Zm (l:=[0,1]) rfl ?_)
  refine Xk ?_;intro b1
  refine ZB ?_;refine Zo (Zn (Y_pk [2,1] ?_));refine ZK (Zm (l:=[0,1]) rfl ?_)
  refine YW F.zero91 ?_;intro b2
  refine Yh F.lay91 ?_;refine Zo (Zn ?_)
  iterate 2 refine ZK ?_
  refine Zm (l:=[0,1,2,3,4,5,6,7,8,9,10,11,12,13,14,15,16,17,18,19,20,21,22,23,24,25,26,27,28,29,30,31,32,33,34,35,36,37,38,39,40,41,42,43,44,45,46,47]) rfl ?_;refine Zk F.foff32_0 ?_;refine ZD F.lay28 ?_;refine X_fs rfl rfl F.ok70 rfl (IsT_ok _ ⟨⟨Za,Zb⟩,⟨Zf,Zh⟩,⟨Zj,Zi,Zg⟩,⟨Ze,Zd,Zc⟩⟩ Yv) rfl ?_
  rintro _ rfl
  refine Xj ?_;refine Zx ?_
  refine Yj 10 rfl (fun hc3=>?_) (fun hc3=>?_)
  ·replace hc3:=nT hc3
   iterate 5 refine Ya ?_
   refine ZO ?_;refine Zx ?_
   iterate 8 refine Ya ?_
   refine ZO ?_;refine Zx ?_
   iterate 5 refine Ya ?_
   refine ZO ?_;refine Zx ?_
   iterate 4 refine Ya ?_
   refine ZO ?_;refine Zx ?_
   iterate 5 refine Ya ?_
   refine ZO ?_;refine Zx ?_
   iterate 5 refine Ya ?_
   refine ZO ?_;refine Zo (Zn (Y_pk [53,3,2,1] ?_));refine Xi rfl ?_;refine ZK (Zm (l:=[0]) rfl ?_);refine ZB ?_;refine Zo (Zn (Y_pk [2,3,1] ?_));refine Yo (YS ?_)
   refine Yk (.inr rfl) (.tmp rfl .nil) (fun w hw=>?_)
   refine ⟨_,rfl,(hw.c),?_⟩
   clear hw
   show _=Value.bool (decide (IsTb (ZQ.tb ⟨⟨Za,Zb⟩,⟨Zf,Zh⟩,⟨Zj,Zi,Zg⟩,⟨Ze,Zd,Zc⟩⟩)∧(1≤Zr∧Zr≤8)∧(Zs=true∨ZH≠-1)∧(0≤Zv∧Zv≤159)∧Zl.length≤16∧(0≤ZG∧ZG≤64)∧(0≤ZJ∧ZJ≤999999)∧(YZ ⟨Za,Zb⟩ ZH∧YZ ⟨Za,Zb⟩ ZC∧YZ ⟨Za,Zb⟩ Zw∧YZ ⟨Za,Zb⟩ Zy)∧∀ a∈Zl,YX a))
   refine congrArg Value.bool ?_
   refine (decide_eq_false (fun h9=>?_)).symm
   obtain ⟨g1,g2,g3,g4,g5,g6,g7,⟨g8,g81,g82,g83⟩,g9⟩:=h9
   contradiction
  ·replace hc3:=nF hc3
   refine ZD F.lay91 ?_;refine Zk F.foff32_1 ?_;refine ZD F.lay3 ?_;refine X_fsV rfl rfl rfl F.ok69 rfl rfl (btw_ok M _ _ _) rfl ?_
   rintro _ rfl
   refine Xj ?_;refine ZO ?_;refine Zx ?_
   refine Yj 17 rfl (fun hc4=>?_) (fun hc4=>?_)
   ·replace hc4:=nT hc4
    iterate 8 refine Ya ?_
    refine ZO ?_;refine Zx ?_
    iterate 5 refine Ya ?_
    refine ZO ?_;refine Zx ?_
    iterate 4 refine Ya ?_
    refine ZO ?_;refine Zx ?_
    iterate 5 refine Ya ?_
    refine ZO ?_;refine Zx ?_
    iterate 5 refine Ya ?_
    refine ZO ?_;refine Zo (Zn (Y_pk [53,3,2,1] ?_));refine Xi rfl ?_;refine ZK (Zm (l:=[0]) rfl ?_);refine ZB ?_;refine Zo (Zn (Y_pk [2,3,1] ?_));refine Yo (YS ?_)
    refine Yk (.inr rfl) (.tmp rfl .nil) (fun w hw=>?_)
    refine ⟨_,rfl,(hw.c),?_⟩
    clear hw
    show _=Value.bool (decide (IsTb (ZQ.tb ⟨⟨Za,Zb⟩,⟨Zf,Zh⟩,⟨Zj,Zi,Zg⟩,⟨Ze,Zd,Zc⟩⟩)∧(1≤Zr∧Zr≤8)∧(Zs=true∨ZH≠-1)∧(0≤Zv∧Zv≤159)∧Zl.length≤16∧(0≤ZG∧ZG≤64)∧(0≤ZJ∧ZJ≤999999)∧(YZ ⟨Za,Zb⟩ ZH∧YZ ⟨Za,Zb⟩ ZC∧YZ ⟨Za,Zb⟩ Zw∧YZ ⟨Za,Zb⟩ Zy)∧∀ a∈Zl,YX a))
    refine congrArg Value.bool ?_
    refine (decide_eq_false (fun h9=>?_)).symm
    obtain ⟨g1,g2,g3,g4,g5,g6,g7,⟨g8,g81,g82,g83⟩,g9⟩:=h9
    contradiction
   ·replace hc4:=nF hc4
    refine Zk F.foff32_2 ?_;refine ZD F.lay4 ?_;refine Xj ?_;refine Zx ?_
    refine Yj 21 rfl (fun hc5=>?_) (fun hc5=>?_)
    ·skip
     refine Zk F.foff32_3 ?_;refine ZD F.lay3 ?_;refine YI ?_
     iterate 2 refine ZO ?_
     refine Zx ?_
     refine Yj 27 rfl (fun hc6=>?_) (fun hc6=>?_)
     ·replace hc6:=dT hc6
      iterate 5 refine Ya ?_
      refine ZO ?_;refine Zx ?_
      iterate 4 refine Ya ?_
      refine ZO ?_;refine Zx ?_
      iterate 5 refine Ya ?_
      refine ZO ?_;refine Zx ?_
      iterate 5 refine Ya ?_
      refine ZO ?_;refine Zo (Zn (Y_pk [53,3,2,1] ?_));refine Xi rfl ?_;refine ZK (Zm (l:=[0]) rfl ?_);refine ZB ?_;refine Zo (Zn (Y_pk [2,3,1] ?_));refine Yo (YS ?_)
      refine Yk (.inr rfl) (.tmp rfl .nil) (fun w hw=>?_)
      refine ⟨_,rfl,(hw.c),?_⟩
      clear hw
      show _=Value.bool (decide (IsTb (ZQ.tb ⟨⟨Za,Zb⟩,⟨Zf,Zh⟩,⟨Zj,Zi,Zg⟩,⟨Ze,Zd,Zc⟩⟩)∧(1≤Zr∧Zr≤8)∧(Zs=true∨ZH≠-1)∧(0≤Zv∧Zv≤159)∧Zl.length≤16∧(0≤ZG∧ZG≤64)∧(0≤ZJ∧ZJ≤999999)∧(YZ ⟨Za,Zb⟩ ZH∧YZ ⟨Za,Zb⟩ ZC∧YZ ⟨Za,Zb⟩ Zw∧YZ ⟨Za,Zb⟩ Zy)∧∀ a∈Zl,YX a))
      refine congrArg Value.bool ?_
      refine (decide_eq_false (fun h9=>?_)).symm
      obtain ⟨g1,g2,g3,g4,g5,g6,g7,⟨g8,g81,g82,g83⟩,g9⟩:=h9
      (simp_all;done)
     ·replace hc6:=dF hc6
      refine ZD F.lay91 ?_;refine Zk F.foff32_4 ?_;refine ZD F.lay3 ?_;refine X_fsV rfl rfl rfl F.ok69 rfl rfl (btw_ok M _ _ _) rfl ?_
      rintro _ rfl
      refine Xj ?_;refine ZO ?_;refine Zx ?_
      refine Yj 34 rfl (fun hc7=>?_) (fun hc7=>?_)
      ·replace hc7:=nT hc7
       iterate 4 refine Ya ?_
       refine ZO ?_;refine Zx ?_
       iterate 5 refine Ya ?_
       refine ZO ?_;refine Zx ?_
       iterate 5 refine Ya ?_
       refine ZO ?_;refine Zo (Zn (Y_pk [53,3,2,1] ?_));refine Xi rfl ?_;refine ZK (Zm (l:=[0]) rfl ?_);refine ZB ?_;refine Zo (Zn (Y_pk [2,3,1] ?_));refine Yo (YS ?_)
       refine Yk (.inr rfl) (.tmp rfl .nil) (fun w hw=>?_)
       refine ⟨_,rfl,(hw.c),?_⟩
       clear hw
       show _=Value.bool (decide (IsTb (ZQ.tb ⟨⟨Za,Zb⟩,⟨Zf,Zh⟩,⟨Zj,Zi,Zg⟩,⟨Ze,Zd,Zc⟩⟩)∧(1≤Zr∧Zr≤8)∧(Zs=true∨ZH≠-1)∧(0≤Zv∧Zv≤159)∧Zl.length≤16∧(0≤ZG∧ZG≤64)∧(0≤ZJ∧ZJ≤999999)∧(YZ ⟨Za,Zb⟩ ZH∧YZ ⟨Za,Zb⟩ ZC∧YZ ⟨Za,Zb⟩ Zw∧YZ ⟨Za,Zb⟩ Zy)∧∀ a∈Zl,YX a))
       refine congrArg Value.bool ?_
       refine (decide_eq_false (fun h9=>?_)).symm
       obtain ⟨g1,g2,g3,g4,g5,g6,g7,⟨g8,g81,g82,g83⟩,g9⟩:=h9
       contradiction
      ·replace hc7:=nF hc7
       refine Zk F.foff32_13 ?_;refine ZD F.lay30 ?_;refine YY F.elem30 ?_;refine YI ?_;refine ZO ?_;refine Zx ?_
       refine Yj 40 rfl (fun hc8=>?_) (fun hc8=>?_)
       ·replace hc8:=dT hc8
        iterate 5 refine Ya ?_
        refine ZO ?_;refine Zx ?_
        iterate 5 refine Ya ?_
        refine ZO ?_;refine Zo (Zn (Y_pk [53,3,2,1] ?_));refine Xi rfl ?_;refine ZK (Zm (l:=[0]) rfl ?_);refine ZB ?_;refine Zo (Zn (Y_pk [2,3,1] ?_));refine Yo (YS ?_)
        refine Yk (.inr rfl) (.tmp rfl .nil) (fun w hw=>?_)
        refine ⟨_,rfl,(hw.c),?_⟩
        clear hw
        show _=Value.bool (decide (IsTb (ZQ.tb ⟨⟨Za,Zb⟩,⟨Zf,Zh⟩,⟨Zj,Zi,Zg⟩,⟨Ze,Zd,Zc⟩⟩)∧(1≤Zr∧Zr≤8)∧(Zs=true∨ZH≠-1)∧(0≤Zv∧Zv≤159)∧Zl.length≤16∧(0≤ZG∧ZG≤64)∧(0≤ZJ∧ZJ≤999999)∧(YZ ⟨Za,Zb⟩ ZH∧YZ ⟨Za,Zb⟩ ZC∧YZ ⟨Za,Zb⟩ Zw∧YZ ⟨Za,Zb⟩ Zy)∧∀ a∈Zl,YX a))
        refine congrArg Value.bool ?_
        refine (decide_eq_false (fun h9=>?_)).symm
        obtain ⟨g1,g2,g3,g4,g5,g6,g7,⟨g8,g81,g82,g83⟩,g9⟩:=h9
        omega
       ·replace hc8:=dF hc8
        refine ZD F.lay91 ?_;refine Zk F.foff32_14 ?_;refine ZD F.lay3 ?_;refine X_fsV rfl rfl rfl F.ok69 rfl rfl (btw_ok M _ _ _) rfl ?_
        rintro _ rfl
        refine Xj ?_;refine ZO ?_;refine Zx ?_
        refine Yj 47 rfl (fun hc9=>?_) (fun hc9=>?_)
        ·replace hc9:=nT hc9
         iterate 5 refine Ya ?_
         refine ZO ?_;refine Zo (Zn (Y_pk [53,3,2,1] ?_));refine Xi rfl ?_;refine ZK (Zm (l:=[0]) rfl ?_);refine ZB ?_;refine Zo (Zn (Y_pk [2,3,1] ?_));refine Yo (YS ?_)
         refine Yk (.inr rfl) (.tmp rfl .nil) (fun w hw=>?_)
         refine ⟨_,rfl,(hw.c),?_⟩
         clear hw
         show _=Value.bool (decide (IsTb (ZQ.tb ⟨⟨Za,Zb⟩,⟨Zf,Zh⟩,⟨Zj,Zi,Zg⟩,⟨Ze,Zd,Zc⟩⟩)∧(1≤Zr∧Zr≤8)∧(Zs=true∨ZH≠-1)∧(0≤Zv∧Zv≤159)∧Zl.length≤16∧(0≤ZG∧ZG≤64)∧(0≤ZJ∧ZJ≤999999)∧(YZ ⟨Za,Zb⟩ ZH∧YZ ⟨Za,Zb⟩ ZC∧YZ ⟨Za,Zb⟩ Zw∧YZ ⟨Za,Zb⟩ Zy)∧∀ a∈Zl,YX a))
         refine congrArg Value.bool ?_
         refine (decide_eq_false (fun h9=>?_)).symm
         obtain ⟨g1,g2,g3,g4,g5,g6,g7,⟨g8,g81,g82,g83⟩,g9⟩:=h9
         contradiction
        ·replace hc9:=nF hc9
         refine ZD F.lay91 ?_;refine Zk F.foff32_15 ?_;refine ZD F.lay3 ?_;refine X_fsV rfl rfl rfl F.ok69 rfl rfl (btw_ok M _ _ _) rfl ?_
         rintro _ rfl
         refine Xj ?_;refine ZO ?_;refine Zo (Zn (Y_pk [53,3,2,1] ?_))
         refine YA rfl (fun hc10=>?_) (fun hc10=>?_)
         ·replace hc10:=nT hc10
          refine ZK (Zm (l:=[0]) rfl ?_);refine ZB ?_;refine Zo (Zn (Y_pk [2,3,1] ?_));refine Yo (YS ?_)
          refine Yk (.inr rfl) (.tmp rfl .nil) (fun w hw=>?_)
          refine ⟨_,rfl,(hw.c),?_⟩
          clear hw
          show _=Value.bool (decide (IsTb (ZQ.tb ⟨⟨Za,Zb⟩,⟨Zf,Zh⟩,⟨Zj,Zi,Zg⟩,⟨Ze,Zd,Zc⟩⟩)∧(1≤Zr∧Zr≤8)∧(Zs=true∨ZH≠-1)∧(0≤Zv∧Zv≤159)∧Zl.length≤16∧(0≤ZG∧ZG≤64)∧(0≤ZJ∧ZJ≤999999)∧(YZ ⟨Za,Zb⟩ ZH∧YZ ⟨Za,Zb⟩ ZC∧YZ ⟨Za,Zb⟩ Zw∧YZ ⟨Za,Zb⟩ Zy)∧∀ a∈Zl,YX a))
          refine congrArg Value.bool ?_
          refine (decide_eq_false (fun h9=>?_)).symm
          obtain ⟨g1,g2,g3,g4,g5,g6,g7,⟨g8,g81,g82,g83⟩,g9⟩:=h9
          contradiction
         ·replace hc10:=nF hc10
          refine YG (Zn (Y_pk [3,2,1] ?_))
          iterate 2 refine ZK ?_
          refine Zm (l:=[0,1,2,3,4,5,6,7,8,9,10]) rfl ?_;refine Zk F.foff32_3 ?_;refine ZD F.lay3 ?_;refine Zk F.foff32_6 ?_;refine ZD F.lay3 ?_;refine Zk F.foff32_8 ?_;refine ZD F.lay3 ?_;refine Zk F.foff32_10 ?_;refine ZD F.lay3 ?_
          refine Xq rfl rfl F.elem30 F.zero3 rfl rfl (.cons rfl (by constructor) (.cons rfl (by constructor) (.cons rfl (by constructor) (.cons rfl (by constructor) .nil)))) rfl rfl (by simp only [List.map_cons,List.map_nil] <;> rfl) rfl ?_;intro b11 hob12
          obtain ⟨L4,hL4⟩:∃ l,[ZH,ZC,Zw,Zy]=l:=⟨_,rfl⟩
          have ho4:=OSl.as9 hob12 (show _=L4.map (oneI .i64) by rw [← hL4];rfl)
          have hl4:L4.length=4:=by rw [← hL4];rfl
          have n_L4:(L4.map (oneI .i64)).length=L4.length:=List.length_map ..
          refine YY F.elem30 ?_;refine Zx ?_;refine Zo (Zn (Y_pk [64,63,62,3,2,1] ?_));refine Xc (Y_pk [64,63,62,3,2,1] ?_);refine WV (.succ .zero) (fun (k:Nat) z=>z=[(64,.int .i64 (k:Int))]∧k≤4∧∀ j (h:j<L4.length),j<k→YZ ⟨Za,Zb⟩ L4[j]) (fun k=>4-k) (0) (⟨rfl,by omega,fun j h hj=>by omega⟩) ?_
          rintro k _ ⟨rfl,hk,hI⟩
          refine ZK (Zm (l:=[0]) rfl ?_);refine YI ?_;refine Zo (Zn (ZK ?_))
          refine YA rfl (fun hc13=>?_) (fun hc13=>?_)
          ·replace hc13:=dT hc13
           refine YG (Zn (ZK (Xc (ZK (Zm (l:=[0,1,2]) rfl ?_)))));refine YR rfl rfl rfl rfl F.elem30 (by rfl) (by omega) (by exact ⟨_,_,rfl⟩) rfl ?_;refine X_load_osl rfl rfl rfl (by assumption) (by repeat first|exact Rem.here _|exact Rem.two|apply Rem.skip|apply Rem.over) (by exact XP (by omega)) F.lay3 rfl rfl rfl ?_;refine ZB ?_;refine Zo (Zn (ZK (Zm (l:=[0,1,2,3,4,5,6,7,8,9,10,11]) rfl ?_)));refine ZD F.lay91 ?_;refine Zx ?_;refine X_fsV rfl rfl rfl F.ok69 rfl rfl (btw_ok M _ _ _) rfl ?_
           rintro _ rfl
           refine Xj ?_;refine Zx ?_
           refine Yj 72 rfl (fun hc14=>?_) (fun hc14=>?_)
           ·replace hc14:=nT hc14
            iterate 6 refine Ya ?_
            refine ZO ?_;refine Zo (Zn (Xi rfl ?_));refine ZK (Zm (l:=[0]) rfl ?_);refine ZB ?_;refine Zo (Zn (Yo (Xh ?_)))
            iterate 2 refine YS ?_
            refine Xh (YS ?_)
            refine Yk (.inr rfl) (.tmp rfl .nil) (fun w hw=>?_)
            refine ⟨_,rfl,(hw.c),?_⟩
            clear hw
            show _=Value.bool (decide (IsTb (ZQ.tb ⟨⟨Za,Zb⟩,⟨Zf,Zh⟩,⟨Zj,Zi,Zg⟩,⟨Ze,Zd,Zc⟩⟩)∧(1≤Zr∧Zr≤8)∧(Zs=true∨ZH≠-1)∧(0≤Zv∧Zv≤159)∧Zl.length≤16∧(0≤ZG∧ZG≤64)∧(0≤ZJ∧ZJ≤999999)∧(YZ ⟨Za,Zb⟩ ZH∧YZ ⟨Za,Zb⟩ ZC∧YZ ⟨Za,Zb⟩ Zw∧YZ ⟨Za,Zb⟩ Zy)∧∀ a∈Zl,YX a))
            refine congrArg Value.bool ?_
            refine (decide_eq_false (fun h9=>?_)).symm
            obtain ⟨g1,g2,g3,g4,g5,g6,g7,⟨g8,g81,g82,g83⟩,g9⟩:=h9
            have h5:=(addr4 (s:=⟨Za,Zb⟩)).2 ⟨g8,g81,g82,g83⟩
            have h6:=fun j (h:j<L4.length)=>(show YZ ⟨Za,Zb⟩ L4[j] from by subst hL4;exact h5 j h)
            have h7:=h6 k (by omega)
            obtain ⟨h71,h72⟩:=h7
            contradiction
           ·replace hc14:=nF hc14
            refine Zx ?_;refine Zk F.foff32_0 ?_;refine Zk F.foff28_0 ?_;refine Zk F.foff25_0 ?_;refine ZD F.lay3 ?_;refine YI ?_;refine ZO ?_;refine Zo (Zn ?_)
            refine YA rfl (fun hc15=>?_) (fun hc15=>?_)
            ·replace hc15:=dT hc15
             refine ZK (Zm (l:=[0]) rfl ?_);refine ZB ?_;refine Zo (Zn (Yo (Xh ?_)))
             iterate 2 refine YS ?_
             refine Xh (YS ?_)
             refine Yk (.inr rfl) (.tmp rfl .nil) (fun w hw=>?_)
             refine ⟨_,rfl,(hw.c),?_⟩
             clear hw
             show _=Value.bool (decide (IsTb (ZQ.tb ⟨⟨Za,Zb⟩,⟨Zf,Zh⟩,⟨Zj,Zi,Zg⟩,⟨Ze,Zd,Zc⟩⟩)∧(1≤Zr∧Zr≤8)∧(Zs=true∨ZH≠-1)∧(0≤Zv∧Zv≤159)∧Zl.length≤16∧(0≤ZG∧ZG≤64)∧(0≤ZJ∧ZJ≤999999)∧(YZ ⟨Za,Zb⟩ ZH∧YZ ⟨Za,Zb⟩ ZC∧YZ ⟨Za,Zb⟩ Zw∧YZ ⟨Za,Zb⟩ Zy)∧∀ a∈Zl,YX a))
             refine congrArg Value.bool ?_
             refine (decide_eq_false (fun h9=>?_)).symm
             obtain ⟨g1,g2,g3,g4,g5,g6,g7,⟨g8,g81,g82,g83⟩,g9⟩:=h9
             have h5:=(addr4 (s:=⟨Za,Zb⟩)).2 ⟨g8,g81,g82,g83⟩
             have h6:=fun j (h:j<L4.length)=>(show YZ ⟨Za,Zb⟩ L4[j] from by subst hL4;exact h5 j h)
             have h7:=h6 k (by omega)
             obtain ⟨h71,h72⟩:=h7
             contradiction
            ·replace hc15:=dF hc15
             refine YG (XR (Zn (Zm (l:=[0,1]) rfl ?_)));refine XE rfl rfl rfl rfl rfl (by exact Xe (by decide) (by omega)) rfl ?_;refine Zx ?_;refine Zo ?_;refine WO (a':=[(64,_)]) (k+1) (.cons (k:=64) rfl (.cons (k:=63) rfl (.cons (k:=62) rfl (.cons (k:=3) rfl (.cons (k:=2) rfl (.cons (k:=1) rfl (.nil))))))) (fun w hw=>by first|exact hw|exact hw.c) ?_ ?_
             ·refine ⟨rfl,by omega,fun j h hj=>?_⟩
              rcases Nat.lt_or_ge j k with h9|h9
              ·exact hI j h h9
              ·have hjk:j=k:=by omega
               subst hjk
               exact ⟨by assumption,by assumption⟩
             ·omega
          ·replace hc13:=dF hc13
           refine XK ?_
           iterate 2 refine XH ?_
           refine Wh (Zn (Y_pk [3,2,1] ?_));refine ZK (Zm (l:=[0,1,2,3,4,5]) rfl ?_);refine Zk F.foff32_13 ?_;refine ZD F.lay30 ?_;refine X_makeFunc rfl rfl rfl rfl rfl ?_;refine X_fo rfl rfl F.ok71 rfl (ContainsFI_rd _ [(b2,_)] ⟨_,_,_⟩ 72 [_] (fun a=>decide (¬(0≤a∧a≤999))) (WQ.rd _) Va F.ok72 (fun x hx=>avo_ok M _ x)) (by repeat first|exact Rem.here _|exact Rem.two|apply Rem.skip|apply Rem.over) (YV rfl) ?_
           rintro _ M1 _ ⟨hM1,rfl⟩;subst M1
           refine Xj ?_;refine ZB ?_;refine Zo (Zn (Y_pk [2] ?_));refine Yo ?_
           refine Yk (.inr rfl) (.tmp rfl .nil) (fun w hw=>?_)
           refine ⟨_,rfl,(hw.c),?_⟩
           clear hw
           obtain rfl:k=4:=by omega
           have h4:∀ j (h:j<[ZH,ZC,Zw,Zy].length),YZ ⟨Za,Zb⟩ [ZH,ZC,Zw,Zy][j]:=by rw [hL4];exact fun j h=>hI j h (by omega)
           have h5:=addr4.1 h4
           show _=Value.bool (decide (IsTb (ZQ.tb ⟨⟨Za,Zb⟩,⟨Zf,Zh⟩,⟨Zj,Zi,Zg⟩,⟨Ze,Zd,Zc⟩⟩)∧(1≤Zr∧Zr≤8)∧(Zs=true∨ZH≠-1)∧(0≤Zv∧Zv≤159)∧Zl.length≤16∧(0≤ZG∧ZG≤64)∧(0≤ZJ∧ZJ≤999999)∧(YZ ⟨Za,Zb⟩ ZH∧YZ ⟨Za,Zb⟩ ZC∧YZ ⟨Za,Zb⟩ Zw∧YZ ⟨Za,Zb⟩ Zy)∧∀ a∈Zl,YX a))
           refine congrArg Value.bool ?_
           have h6:=any_odd (l:=Zl)
           obtain ⟨B,hB⟩:∃ b,(Zl.any fun a=>decide (¬(0≤a∧a≤999)))=b:=⟨_,rfl⟩
           rw [hB] at h6 ⊢
           cases B
           ·exact (decide_eq_true ⟨by assumption,by first|assumption|omega,by first|assumption|(simp_all;done),by first|assumption|omega,by omega,by first|assumption|omega,by first|assumption|omega,h5,h6.1 rfl⟩).symm
           ·exact (decide_eq_false (fun h9=>by have h8:=h6.2 h9.2.2.2.2.2.2.2.2;cases h8)).symm
    ·skip
     iterate 3 refine Ya ?_
     iterate 2 refine ZO ?_
     refine Zx ?_;refine ZD F.lay91 ?_;refine Zk F.foff32_4 ?_;refine ZD F.lay3 ?_;refine X_fsV rfl rfl rfl F.ok69 rfl rfl (btw_ok M _ _ _) rfl ?_
     rintro _ rfl
     refine Xj ?_;refine ZO ?_;refine Zx ?_
     refine Yj 34 rfl (fun hc16=>?_) (fun hc16=>?_)
     ·replace hc16:=nT hc16
      iterate 4 refine Ya ?_
      refine ZO ?_;refine Zx ?_
      iterate 5 refine Ya ?_
      refine ZO ?_;refine Zx ?_
      iterate 5 refine Ya ?_
      refine ZO ?_;refine Zo (Zn (Y_pk [53,3,2,1] ?_));refine Xi rfl ?_;refine ZK (Zm (l:=[0]) rfl ?_);refine ZB ?_;refine Zo (Zn (Y_pk [2,3,1] ?_));refine Yo (YS ?_)
      refine Yk (.inr rfl) (.tmp rfl .nil) (fun w hw=>?_)
      refine ⟨_,rfl,(hw.c),?_⟩
      clear hw
      show _=Value.bool (decide (IsTb (ZQ.tb ⟨⟨Za,Zb⟩,⟨Zf,Zh⟩,⟨Zj,Zi,Zg⟩,⟨Ze,Zd,Zc⟩⟩)∧(1≤Zr∧Zr≤8)∧(Zs=true∨ZH≠-1)∧(0≤Zv∧Zv≤159)∧Zl.length≤16∧(0≤ZG∧ZG≤64)∧(0≤ZJ∧ZJ≤999999)∧(YZ ⟨Za,Zb⟩ ZH∧YZ ⟨Za,Zb⟩ ZC∧YZ ⟨Za,Zb⟩ Zw∧YZ ⟨Za,Zb⟩ Zy)∧∀ a∈Zl,YX a))
      refine congrArg Value.bool ?_
      refine (decide_eq_false (fun h9=>?_)).symm
      obtain ⟨g1,g2,g3,g4,g5,g6,g7,⟨g8,g81,g82,g83⟩,g9⟩:=h9
      contradiction
     ·replace hc16:=nF hc16
      refine Zk F.foff32_13 ?_;refine ZD F.lay30 ?_;refine YY F.elem30 ?_;refine YI ?_;refine ZO ?_;refine Zx ?_
      refine Yj 40 rfl (fun hc17=>?_) (fun hc17=>?_)
      ·replace hc17:=dT hc17
       iterate 5 refine Ya ?_
       refine ZO ?_;refine Zx ?_
       iterate 5 refine Ya ?_
       refine ZO ?_;refine Zo (Zn (Y_pk [53,3,2,1] ?_));refine Xi rfl ?_;refine ZK (Zm (l:=[0]) rfl ?_);refine ZB ?_;refine Zo (Zn (Y_pk [2,3,1] ?_));refine Yo (YS ?_)
       refine Yk (.inr rfl) (.tmp rfl .nil) (fun w hw=>?_)
       refine ⟨_,rfl,(hw.c),?_⟩
       clear hw
       show _=Value.bool (decide (IsTb (ZQ.tb ⟨⟨Za,Zb⟩,⟨Zf,Zh⟩,⟨Zj,Zi,Zg⟩,⟨Ze,Zd,Zc⟩⟩)∧(1≤Zr∧Zr≤8)∧(Zs=true∨ZH≠-1)∧(0≤Zv∧Zv≤159)∧Zl.length≤16∧(0≤ZG∧ZG≤64)∧(0≤ZJ∧ZJ≤999999)∧(YZ ⟨Za,Zb⟩ ZH∧YZ ⟨Za,Zb⟩ ZC∧YZ ⟨Za,Zb⟩ Zw∧YZ ⟨Za,Zb⟩ Zy)∧∀ a∈Zl,YX a))
       refine congrArg Value.bool ?_
       refine (decide_eq_false (fun h9=>?_)).symm
       obtain ⟨g1,g2,g3,g4,g5,g6,g7,⟨g8,g81,g82,g83⟩,g9⟩:=h9
       omega
      ·replace hc17:=dF hc17
       refine ZD F.lay91 ?_;refine Zk F.foff32_14 ?_;refine ZD F.lay3 ?_;refine X_fsV rfl rfl rfl F.ok69 rfl rfl (btw_ok M _ _ _) rfl ?_
       rintro _ rfl
       refine Xj ?_;refine ZO ?_;refine Zx ?_
       refine Yj 47 rfl (fun hc18=>?_) (fun hc18=>?_)
       ·replace hc18:=nT hc18
        iterate 5 refine Ya ?_
        refine ZO ?_;refine Zo (Zn (Y_pk [53,3,2,1] ?_));refine Xi rfl ?_;refine ZK (Zm (l:=[0]) rfl ?_);refine ZB ?_;refine Zo (Zn (Y_pk [2,3,1] ?_));refine Yo (YS ?_)
        refine Yk (.inr rfl) (.tmp rfl .nil) (fun w hw=>?_)
        refine ⟨_,rfl,(hw.c),?_⟩
        clear hw
        show _=Value.bool (decide (IsTb (ZQ.tb ⟨⟨Za,Zb⟩,⟨Zf,Zh⟩,⟨Zj,Zi,Zg⟩,⟨Ze,Zd,Zc⟩⟩)∧(1≤Zr∧Zr≤8)∧(Zs=true∨ZH≠-1)∧(0≤Zv∧Zv≤159)∧Zl.length≤16∧(0≤ZG∧ZG≤64)∧(0≤ZJ∧ZJ≤999999)∧(YZ ⟨Za,Zb⟩ ZH∧YZ ⟨Za,Zb⟩ ZC∧YZ ⟨Za,Zb⟩ Zw∧YZ ⟨Za,Zb⟩ Zy)∧∀ a∈Zl,YX a))
        refine congrArg Value.bool ?_
        refine (decide_eq_false (fun h9=>?_)).symm
        obtain ⟨g1,g2,g3,g4,g5,g6,g7,⟨g8,g81,g82,g83⟩,g9⟩:=h9
        contradiction
       ·replace hc18:=nF hc18
        refine ZD F.lay91 ?_;refine Zk F.foff32_15 ?_;refine ZD F.lay3 ?_;refine X_fsV rfl rfl rfl F.ok69 rfl rfl (btw_ok M _ _ _) rfl ?_
        rintro _ rfl
        refine Xj ?_;refine ZO ?_;refine Zo (Zn (Y_pk [53,3,2,1] ?_))
        refine YA rfl (fun hc19=>?_) (fun hc19=>?_)
        ·replace hc19:=nT hc19
         refine ZK (Zm (l:=[0]) rfl ?_);refine ZB ?_;refine Zo (Zn (Y_pk [2,3,1] ?_));refine Yo (YS ?_)
         refine Yk (.inr rfl) (.tmp rfl .nil) (fun w hw=>?_)
         refine ⟨_,rfl,(hw.c),?_⟩
         clear hw
         show _=Value.bool (decide (IsTb (ZQ.tb ⟨⟨Za,Zb⟩,⟨Zf,Zh⟩,⟨Zj,Zi,Zg⟩,⟨Ze,Zd,Zc⟩⟩)∧(1≤Zr∧Zr≤8)∧(Zs=true∨ZH≠-1)∧(0≤Zv∧Zv≤159)∧Zl.length≤16∧(0≤ZG∧ZG≤64)∧(0≤ZJ∧ZJ≤999999)∧(YZ ⟨Za,Zb⟩ ZH∧YZ ⟨Za,Zb⟩ ZC∧YZ ⟨Za,Zb⟩ Zw∧YZ ⟨Za,Zb⟩ Zy)∧∀ a∈Zl,YX a))
         refine congrArg Value.bool ?_
         refine (decide_eq_false (fun h9=>?_)).symm
         obtain ⟨g1,g2,g3,g4,g5,g6,g7,⟨g8,g81,g82,g83⟩,g9⟩:=h9
         contradiction
        ·replace hc19:=nF hc19
         refine YG (Zn (Y_pk [3,2,1] ?_))
         iterate 2 refine ZK ?_
         refine Zm (l:=[0,1,2,3,4,5,6,7,8,9,10]) rfl ?_;refine Zk F.foff32_3 ?_;refine ZD F.lay3 ?_;refine Zk F.foff32_6 ?_;refine ZD F.lay3 ?_;refine Zk F.foff32_8 ?_;refine ZD F.lay3 ?_;refine Zk F.foff32_10 ?_;refine ZD F.lay3 ?_
         refine Xq rfl rfl F.elem30 F.zero3 rfl rfl (.cons rfl (by constructor) (.cons rfl (by constructor) (.cons rfl (by constructor) (.cons rfl (by constructor) .nil)))) rfl rfl (by simp only [List.map_cons,List.map_nil] <;> rfl) rfl ?_;intro b20 hob21
         obtain ⟨L4,hL4⟩:∃ l,[ZH,ZC,Zw,Zy]=l:=⟨_,rfl⟩
         have ho4:=OSl.as9 hob21 (show _=L4.map (oneI .i64) by rw [← hL4];rfl)
         have hl4:L4.length=4:=by rw [← hL4];rfl
         have n_L4:(L4.map (oneI .i64)).length=L4.length:=List.length_map ..
         refine YY F.elem30 ?_;refine Zx ?_;refine Zo (Zn (Y_pk [64,63,62,3,2,1] ?_));refine Xc (Y_pk [64,63,62,3,2,1] ?_);refine WV (.succ .zero) (fun (k:Nat) z=>z=[(64,.int .i64 (k:Int))]∧k≤4∧∀ j (h:j<L4.length),j<k→YZ ⟨Za,Zb⟩ L4[j]) (fun k=>4-k) (0) (⟨rfl,by omega,fun j h hj=>by omega⟩) ?_
         rintro k _ ⟨rfl,hk,hI⟩
         refine ZK (Zm (l:=[0]) rfl ?_);refine YI ?_;refine Zo (Zn (ZK ?_))
         refine YA rfl (fun hc22=>?_) (fun hc22=>?_)
         ·replace hc22:=dT hc22
          refine YG (Zn (ZK (Xc (ZK (Zm (l:=[0,1,2]) rfl ?_)))));refine YR rfl rfl rfl rfl F.elem30 (by rfl) (by omega) (by exact ⟨_,_,rfl⟩) rfl ?_;refine X_load_osl rfl rfl rfl (by assumption) (by repeat first|exact Rem.here _|exact Rem.two|apply Rem.skip|apply Rem.over) (by exact XP (by omega)) F.lay3 rfl rfl rfl ?_;refine ZB ?_;refine Zo (Zn (ZK (Zm (l:=[0,1,2,3,4,5,6,7,8,9,10,11]) rfl ?_)));refine ZD F.lay91 ?_;refine Zx ?_;refine X_fsV rfl rfl rfl F.ok69 rfl rfl (btw_ok M _ _ _) rfl ?_
          rintro _ rfl
          refine Xj ?_;refine Zx ?_
          refine Yj 72 rfl (fun hc23=>?_) (fun hc23=>?_)
          ·replace hc23:=nT hc23
           iterate 6 refine Ya ?_
           refine ZO ?_;refine Zo (Zn (Xi rfl ?_));refine ZK (Zm (l:=[0]) rfl ?_);refine ZB ?_;refine Zo (Zn (Yo (Xh ?_)))
           iterate 2 refine YS ?_
           refine Xh (YS ?_)
           refine Yk (.inr rfl) (.tmp rfl .nil) (fun w hw=>?_)
           refine ⟨_,rfl,(hw.c),?_⟩
           clear hw
           show _=Value.bool (decide (IsTb (ZQ.tb ⟨⟨Za,Zb⟩,⟨Zf,Zh⟩,⟨Zj,Zi,Zg⟩,⟨Ze,Zd,Zc⟩⟩)∧(1≤Zr∧Zr≤8)∧(Zs=true∨ZH≠-1)∧(0≤Zv∧Zv≤159)∧Zl.length≤16∧(0≤ZG∧ZG≤64)∧(0≤ZJ∧ZJ≤999999)∧(YZ ⟨Za,Zb⟩ ZH∧YZ ⟨Za,Zb⟩ ZC∧YZ ⟨Za,Zb⟩ Zw∧YZ ⟨Za,Zb⟩ Zy)∧∀ a∈Zl,YX a))
           refine congrArg Value.bool ?_
           refine (decide_eq_false (fun h9=>?_)).symm
           obtain ⟨g1,g2,g3,g4,g5,g6,g7,⟨g8,g81,g82,g83⟩,g9⟩:=h9
           have h5:=(addr4 (s:=⟨Za,Zb⟩)).2 ⟨g8,g81,g82,g83⟩
           have h6:=fun j (h:j<L4.length)=>(show YZ ⟨Za,Zb⟩ L4[j] from by subst hL4;exact h5 j h)
           have h7:=h6 k (by omega)
           obtain ⟨h71,h72⟩:=h7
           contradiction
          ·replace hc23:=nF hc23
           refine Zx ?_;refine Zk F.foff32_0 ?_;refine Zk F.foff28_0 ?_;refine Zk F.foff25_0 ?_;refine ZD F.lay3 ?_;refine YI ?_;refine ZO ?_;refine Zo (Zn ?_)
           refine YA rfl (fun hc24=>?_) (fun hc24=>?_)
           ·replace hc24:=dT hc24
            refine ZK (Zm (l:=[0]) rfl ?_);refine ZB ?_;refine Zo (Zn (Yo (Xh ?_)))
            iterate 2 refine YS ?_
            refine Xh (YS ?_)
            refine Yk (.inr rfl) (.tmp rfl .nil) (fun w hw=>?_)
            refine ⟨_,rfl,(hw.c),?_⟩
            clear hw
            show _=Value.bool (decide (IsTb (ZQ.tb ⟨⟨Za,Zb⟩,⟨Zf,Zh⟩,⟨Zj,Zi,Zg⟩,⟨Ze,Zd,Zc⟩⟩)∧(1≤Zr∧Zr≤8)∧(Zs=true∨ZH≠-1)∧(0≤Zv∧Zv≤159)∧Zl.length≤16∧(0≤ZG∧ZG≤64)∧(0≤ZJ∧ZJ≤999999)∧(YZ ⟨Za,Zb⟩ ZH∧YZ ⟨Za,Zb⟩ ZC∧YZ ⟨Za,Zb⟩ Zw∧YZ ⟨Za,Zb⟩ Zy)∧∀ a∈Zl,YX a))
            refine congrArg Value.bool ?_
            refine (decide_eq_false (fun h9=>?_)).symm
            obtain ⟨g1,g2,g3,g4,g5,g6,g7,⟨g8,g81,g82,g83⟩,g9⟩:=h9
            have h5:=(addr4 (s:=⟨Za,Zb⟩)).2 ⟨g8,g81,g82,g83⟩
            have h6:=fun j (h:j<L4.length)=>(show YZ ⟨Za,Zb⟩ L4[j] from by subst hL4;exact h5 j h)
            have h7:=h6 k (by omega)
            obtain ⟨h71,h72⟩:=h7
            contradiction
           ·replace hc24:=dF hc24
            refine YG (XR (Zn (Zm (l:=[0,1]) rfl ?_)));refine XE rfl rfl rfl rfl rfl (by exact Xe (by decide) (by omega)) rfl ?_;refine Zx ?_;refine Zo ?_;refine WO (a':=[(64,_)]) (k+1) (.cons (k:=64) rfl (.cons (k:=63) rfl (.cons (k:=62) rfl (.cons (k:=3) rfl (.cons (k:=2) rfl (.cons (k:=1) rfl (.nil))))))) (fun w hw=>by first|exact hw|exact hw.c) ?_ ?_
            ·refine ⟨rfl,by omega,fun j h hj=>?_⟩
             rcases Nat.lt_or_ge j k with h9|h9
             ·exact hI j h h9
             ·have hjk:j=k:=by omega
              subst hjk
              exact ⟨by assumption,by assumption⟩
            ·omega
         ·replace hc22:=dF hc22
          refine XK ?_
          iterate 2 refine XH ?_
          refine Wh (Zn (Y_pk [3,2,1] ?_));refine ZK (Zm (l:=[0,1,2,3,4,5]) rfl ?_);refine Zk F.foff32_13 ?_;refine ZD F.lay30 ?_;refine X_makeFunc rfl rfl rfl rfl rfl ?_;refine X_fo rfl rfl F.ok71 rfl (ContainsFI_rd _ [(b2,_)] ⟨_,_,_⟩ 72 [_] (fun a=>decide (¬(0≤a∧a≤999))) (WQ.rd _) Va F.ok72 (fun x hx=>avo_ok M _ x)) (by repeat first|exact Rem.here _|exact Rem.two|apply Rem.skip|apply Rem.over) (YV rfl) ?_
          rintro _ M1 _ ⟨hM1,rfl⟩;subst M1
          refine Xj ?_;refine ZB ?_;refine Zo (Zn (Y_pk [2] ?_));refine Yo ?_
          refine Yk (.inr rfl) (.tmp rfl .nil) (fun w hw=>?_)
          refine ⟨_,rfl,(hw.c),?_⟩
          clear hw
          obtain rfl:k=4:=by omega
          have h4:∀ j (h:j<[ZH,ZC,Zw,Zy].length),YZ ⟨Za,Zb⟩ [ZH,ZC,Zw,Zy][j]:=by rw [hL4];exact fun j h=>hI j h (by omega)
          have h5:=addr4.1 h4
          show _=Value.bool (decide (IsTb (ZQ.tb ⟨⟨Za,Zb⟩,⟨Zf,Zh⟩,⟨Zj,Zi,Zg⟩,⟨Ze,Zd,Zc⟩⟩)∧(1≤Zr∧Zr≤8)∧(Zs=true∨ZH≠-1)∧(0≤Zv∧Zv≤159)∧Zl.length≤16∧(0≤ZG∧ZG≤64)∧(0≤ZJ∧ZJ≤999999)∧(YZ ⟨Za,Zb⟩ ZH∧YZ ⟨Za,Zb⟩ ZC∧YZ ⟨Za,Zb⟩ Zw∧YZ ⟨Za,Zb⟩ Zy)∧∀ a∈Zl,YX a))
          refine congrArg Value.bool ?_
          have h6:=any_odd (l:=Zl)
          obtain ⟨B,hB⟩:∃ b,(Zl.any fun a=>decide (¬(0≤a∧a≤999)))=b:=⟨_,rfl⟩
          rw [hB] at h6 ⊢
          cases B
          ·exact (decide_eq_true ⟨by assumption,by first|assumption|omega,by first|assumption|(simp_all;done),by first|assumption|omega,by omega,by first|assumption|omega,by first|assumption|omega,h5,h6.1 rfl⟩).symm
          ·exact (decide_eq_false (fun h9=>by have h8:=h6.2 h9.2.2.2.2.2.2.2.2;cases h8)).symm
theorem addrN_ok (M:Mem) (n:ZR) (a:Int):Fs Tryz.prog 74 [n.enc,.int .i64 a] M (fun v=>v=Value.bool (decide (YZ n.table.self a))):=by
  obtain ⟨⟨⟨Za,Zb⟩,⟨Zf,Zh⟩,⟨Zj,Zi,Zg⟩,⟨Ze,Zd,Zc⟩⟩,Zr,Zs,ZH,Zv,ZT,ZC,ZA,Zw,Zq,Zy,Zp,Zz,⟨Zu,Zt,Zl⟩,ZG,ZJ⟩:=n
  refine Xv Tryz.func74 rfl Tryz.ntmps74 rfl ?_;intro H
  refine ZK (Zm (l:=[0,1]) rfl ?_)
  refine Xk ?_;intro b1
  refine ZB ?_;refine Zo (Zn (Y_pk [4,2,1] ?_));refine ZK (Zm (l:=[0,1,2,3,4,5,6,7,8,9,10,11,12,13,14]) rfl ?_);refine Zx ?_;refine YI ?_;refine Zx ?_
  refine Yj 7 rfl (fun hc2=>?_) (fun hc2=>?_)
  ·replace hc2:=dT hc2
   refine Zx ?_;refine YI ?_;refine ZO ?_;refine Zx ?_
   refine Yj 11 rfl (fun hc3=>?_) (fun hc3=>?_)
   ·replace hc3:=dT hc3
    refine Zx ?_;refine Zk F.foff32_0 ?_;refine Zk F.foff28_0 ?_;refine Zk F.foff25_0 ?_;refine ZD F.lay3 ?_;refine YI ?_;refine ZO ?_;refine ZB ?_;refine Zo (Zn (Y_pk [4] ?_));refine Yo ?_
    refine Yk (.inr rfl) (.tmp rfl .nil) (fun w hw=>?_)
    refine ⟨_,rfl,(hw.c),?_⟩
    clear hw
    refine congrArg Value.bool ?_
    (simp_all [YZ];done)
   ·replace hc3:=dF hc3
    iterate 6 refine Ya ?_
    refine ZO ?_;refine ZB ?_;refine Zo (Zn (Y_pk [4] ?_));refine Yo ?_
    refine Yk (.inr rfl) (.tmp rfl .nil) (fun w hw=>?_)
    refine ⟨_,rfl,(hw.c),?_⟩
    clear hw
    refine congrArg Value.bool ?_
    exact (decide_eq_false (fun h9=>by obtain ⟨h8,h7⟩:=h9;first|omega|contradiction)).symm
  ·replace hc2:=dF hc2
   iterate 2 refine Ya ?_
   refine ZO ?_;refine Zx ?_
   iterate 6 refine Ya ?_
   refine ZO ?_;refine ZB ?_;refine Zo (Zn (Y_pk [4] ?_));refine Yo ?_
   refine Yk (.inr rfl) (.tmp rfl .nil) (fun w hw=>?_)
   refine ⟨_,rfl,(hw.c),?_⟩
   clear hw
   refine congrArg Value.bool ?_
   exact (decide_eq_false (fun h9=>by obtain ⟨h8,h7⟩:=h9;first|omega|contradiction)).symm
theorem rIsN_ok (M:Mem) (n:ZR) (hn0:ZR.ok M n):Fs Tryz.prog 28 [n.enc] M (fun v=>v=Value.bool (decide (IsNd n.nd))):=by
  obtain ⟨⟨⟨Za,Zb⟩,⟨Zf,Zh⟩,⟨Zj,Zi,Zg⟩,⟨Ze,Zd,Zc⟩⟩,Zr,Zs,ZH,Zv,ZT,ZC,ZA,Zw,Zq,Zy,Zp,Zz,⟨Zu,Zt,Zl⟩,ZG,ZJ⟩:=n
  have Yv:ZQ.ok M ⟨⟨Za,Zb⟩,⟨Zf,Zh⟩,⟨Zj,Zi,Zg⟩,⟨Ze,Zd,Zc⟩⟩:=hn0.h0
  have YM:SlK M ZF.segs 21 ⟨Zj,Zi,Zg⟩:=hn0.h0.h0
  have Wo:SlM M Zj (Zg.map ZF.segs) 21:=YM.h1
  have Wp:(Zg.map ZF.segs).length=Zg.length:=List.length_map ..
  have Wq:Zg.length≤9223372036854775807:=YM.h2
  have Wr:Zg.length≤Zi:=YM.h3
  have Yx:SlK M ZF.segs 21 ⟨Ze,Zd,Zc⟩:=hn0.h0.h1
  have XV:SlM M Ze (Zc.map ZF.segs) 21:=Yx.h1
  have XW:(Zc.map ZF.segs).length=Zc.length:=List.length_map ..
  have XX:Zc.length≤9223372036854775807:=Yx.h2
  have XY:Zc.length≤Zd:=Yx.h3
  have Yz:SlK M (oneI .i64) 1 ⟨Zu,Zt,Zl⟩:=hn0.h1
  have WQ:SlM M Zu (Zl.map (oneI .i64)) 1:=Yz.h1
  have Vi:(Zl.map (oneI .i64)).length=Zl.length:=List.length_map ..
  have Va:Zl.length≤9223372036854775807:=Yz.h2
  have Vk:Zl.length≤Zt:=Yz.h3
  refine Xv Tryz.func28 rfl Tryz.ntmps28 rfl ?_;intro H
  refine ZK (Zm (l:=[0,1]) rfl ?_)
  refine Xk ?_;intro b1
  refine ZB ?_;refine Zo (Zn (Y_pk [2,1] ?_))
  iterate 2 refine ZK ?_
  refine Zm (l:=[0,1,2,3,4,5,6,7,8,9,10,11,12,13,14,15,16,17,18,19,20,21,22,23,24,25,26,27,28,29,30,31,32,33,34,35,36,37,38,39,40,41]) rfl ?_;refine Zk F.foff32_0 ?_;refine ZD F.lay28 ?_;refine X_fs rfl rfl F.ok73 rfl (rIsT_ok _ ⟨⟨Za,Zb⟩,⟨Zf,Zh⟩,⟨Zj,Zi,Zg⟩,⟨Ze,Zd,Zc⟩⟩ Yv) rfl ?_
  rintro _ rfl
  refine Xj ?_;refine Zx ?_
  refine Yj 8 rfl (fun hc2=>?_) (fun hc2=>?_)
  ·replace hc2:=nT hc2
   iterate 3 refine Ya ?_
   refine ZO ?_;refine Zx ?_
   iterate 3 refine Ya ?_
   refine ZO ?_;refine Zx ?_
   iterate 5 refine Ya ?_
   refine ZO ?_;refine Zx ?_
   iterate 5 refine Ya ?_
   refine ZO ?_;refine Zx ?_
   iterate 5 refine Ya ?_
   refine ZO ?_;refine Zx ?_
   iterate 5 refine Ya ?_
   refine ZO ?_;refine Zo (Zn (Y_pk [45,2,1] ?_));refine Xi rfl ?_;refine ZK (Zm (l:=[0]) rfl ?_);refine ZB ?_;refine Zo (Zn (Y_pk [2,1] ?_));refine Yo (YS ?_)
   refine Yk (.inr rfl) (.tmp rfl .nil) (fun w hw=>?_)
   refine ⟨_,rfl,(hw.c),?_⟩
   clear hw
   show _=Value.bool (decide (IsTb (ZQ.tb ⟨⟨Za,Zb⟩,⟨Zf,Zh⟩,⟨Zj,Zi,Zg⟩,⟨Ze,Zd,Zc⟩⟩)∧(1≤Zr∧Zr≤8)∧(Zs=true∨ZH≠-1)∧(0≤Zv∧Zv≤159)∧Zl.length≤16∧(0≤ZG∧ZG≤64)∧(0≤ZJ∧ZJ≤999999)∧(YZ ⟨Za,Zb⟩ ZH∧YZ ⟨Za,Zb⟩ ZC∧YZ ⟨Za,Zb⟩ Zw∧YZ ⟨Za,Zb⟩ Zy)∧∀ a∈Zl,YX a))
   refine congrArg Value.bool ?_
   refine (decide_eq_false (fun h9=>?_)).symm
   obtain ⟨g1,g2,g3,g4,g5,g6,g7,⟨g8,g81,g82,g83⟩,g9⟩:=h9
   contradiction
  ·replace hc2:=nF hc2
   refine Zk F.foff32_1 ?_;refine ZD F.lay3 ?_;refine YI ?_;refine ZO ?_;refine Zx ?_
   refine Yj 13 rfl (fun hc3=>?_) (fun hc3=>?_)
   ·replace hc3:=dT hc3
    iterate 3 refine Ya ?_
    refine ZO ?_;refine Zx ?_
    iterate 5 refine Ya ?_
    refine ZO ?_;refine Zx ?_
    iterate 5 refine Ya ?_
    refine ZO ?_;refine Zx ?_
    iterate 5 refine Ya ?_
    refine ZO ?_;refine Zx ?_
    iterate 5 refine Ya ?_
    refine ZO ?_;refine Zo (Zn (Y_pk [45,2,1] ?_));refine Xi rfl ?_;refine ZK (Zm (l:=[0]) rfl ?_);refine ZB ?_;refine Zo (Zn (Y_pk [2,1] ?_));refine Yo (YS ?_)
    refine Yk (.inr rfl) (.tmp rfl .nil) (fun w hw=>?_)
    refine ⟨_,rfl,(hw.c),?_⟩
    clear hw
    show _=Value.bool (decide (IsTb (ZQ.tb ⟨⟨Za,Zb⟩,⟨Zf,Zh⟩,⟨Zj,Zi,Zg⟩,⟨Ze,Zd,Zc⟩⟩)∧(1≤Zr∧Zr≤8)∧(Zs=true∨ZH≠-1)∧(0≤Zv∧Zv≤159)∧Zl.length≤16∧(0≤ZG∧ZG≤64)∧(0≤ZJ∧ZJ≤999999)∧(YZ ⟨Za,Zb⟩ ZH∧YZ ⟨Za,Zb⟩ ZC∧YZ ⟨Za,Zb⟩ Zw∧YZ ⟨Za,Zb⟩ Zy)∧∀ a∈Zl,YX a))
    refine congrArg Value.bool ?_
    refine (decide_eq_false (fun h9=>?_)).symm
    obtain ⟨g1,g2,g3,g4,g5,g6,g7,⟨g8,g81,g82,g83⟩,g9⟩:=h9
    omega
   ·replace hc3:=dF hc3
    refine Zk F.foff32_1 ?_;refine ZD F.lay3 ?_;refine YI ?_;refine ZO ?_;refine Zx ?_
    refine Yj 18 rfl (fun hc4=>?_) (fun hc4=>?_)
    ·replace hc4:=dT hc4
     iterate 5 refine Ya ?_
     refine ZO ?_;refine Zx ?_
     iterate 5 refine Ya ?_
     refine ZO ?_;refine Zx ?_
     iterate 5 refine Ya ?_
     refine ZO ?_;refine Zx ?_
     iterate 5 refine Ya ?_
     refine ZO ?_;refine Zo (Zn (Y_pk [45,2,1] ?_));refine Xi rfl ?_;refine ZK (Zm (l:=[0]) rfl ?_);refine ZB ?_;refine Zo (Zn (Y_pk [2,1] ?_));refine Yo (YS ?_)
     refine Yk (.inr rfl) (.tmp rfl .nil) (fun w hw=>?_)
     refine ⟨_,rfl,(hw.c),?_⟩
     clear hw
     show _=Value.bool (decide (IsTb (ZQ.tb ⟨⟨Za,Zb⟩,⟨Zf,Zh⟩,⟨Zj,Zi,Zg⟩,⟨Ze,Zd,Zc⟩⟩)∧(1≤Zr∧Zr≤8)∧(Zs=true∨ZH≠-1)∧(0≤Zv∧Zv≤159)∧Zl.length≤16∧(0≤ZG∧ZG≤64)∧(0≤ZJ∧ZJ≤999999)∧(YZ ⟨Za,Zb⟩ ZH∧YZ ⟨Za,Zb⟩ ZC∧YZ ⟨Za,Zb⟩ Zw∧YZ ⟨Za,Zb⟩ Zy)∧∀ a∈Zl,YX a))
     refine congrArg Value.bool ?_
     refine (decide_eq_false (fun h9=>?_)).symm
     obtain ⟨g1,g2,g3,g4,g5,g6,g7,⟨g8,g81,g82,g83⟩,g9⟩:=h9
     omega
    ·replace hc4:=dF hc4
     refine ZD F.lay32 ?_;refine Zk F.foff32_3 ?_;refine ZD F.lay3 ?_;refine X_fs rfl rfl F.ok74 rfl (addrN_ok _ ⟨⟨⟨Za,Zb⟩,⟨Zf,Zh⟩,⟨Zj,Zi,Zg⟩,⟨Ze,Zd,Zc⟩⟩,Zr,Zs,ZH,Zv,ZT,ZC,ZA,Zw,Zq,Zy,Zp,Zz,⟨Zu,Zt,Zl⟩,ZG,ZJ⟩ _) rfl ?_
     rintro _ rfl
     refine Xj ?_;refine ZO ?_;refine Zx ?_
     refine Yj 25 rfl (fun hc5=>?_) (fun hc5=>?_)
     ·replace hc5:=nT hc5
      simp only [ZF.eta,ZQ.eta,ZR.eta,ZP.eta,Yr.eta,ZW.eta,YQ.eta,Yc.eta] at hc5
      iterate 5 refine Ya ?_
      refine ZO ?_;refine Zx ?_
      iterate 5 refine Ya ?_
      refine ZO ?_;refine Zx ?_
      iterate 5 refine Ya ?_
      refine ZO ?_;refine Zo (Zn (Y_pk [45,2,1] ?_));refine Xi rfl ?_;refine ZK (Zm (l:=[0]) rfl ?_);refine ZB ?_;refine Zo (Zn (Y_pk [2,1] ?_));refine Yo (YS ?_)
      refine Yk (.inr rfl) (.tmp rfl .nil) (fun w hw=>?_)
      refine ⟨_,rfl,(hw.c),?_⟩
      clear hw
      show _=Value.bool (decide (IsTb (ZQ.tb ⟨⟨Za,Zb⟩,⟨Zf,Zh⟩,⟨Zj,Zi,Zg⟩,⟨Ze,Zd,Zc⟩⟩)∧(1≤Zr∧Zr≤8)∧(Zs=true∨ZH≠-1)∧(0≤Zv∧Zv≤159)∧Zl.length≤16∧(0≤ZG∧ZG≤64)∧(0≤ZJ∧ZJ≤999999)∧(YZ ⟨Za,Zb⟩ ZH∧YZ ⟨Za,Zb⟩ ZC∧YZ ⟨Za,Zb⟩ Zw∧YZ ⟨Za,Zb⟩ Zy)∧∀ a∈Zl,YX a))
      refine congrArg Value.bool ?_
      refine (decide_eq_false (fun h9=>?_)).symm
      obtain ⟨g1,g2,g3,g4,g5,g6,g7,⟨g8,g81,g82,g83⟩,g9⟩:=h9
      contradiction
     ·replace hc5:=nF hc5
      simp only [ZF.eta,ZQ.eta,ZR.eta,ZP.eta,Yr.eta,ZW.eta,YQ.eta,Yc.eta] at hc5
      refine ZD F.lay32 ?_;refine Zk F.foff32_6 ?_;refine ZD F.lay3 ?_;refine X_fs rfl rfl F.ok74 rfl (addrN_ok _ ⟨⟨⟨Za,Zb⟩,⟨Zf,Zh⟩,⟨Zj,Zi,Zg⟩,⟨Ze,Zd,Zc⟩⟩,Zr,Zs,ZH,Zv,ZT,ZC,ZA,Zw,Zq,Zy,Zp,Zz,⟨Zu,Zt,Zl⟩,ZG,ZJ⟩ _) rfl ?_
      rintro _ rfl
      refine Xj ?_;refine ZO ?_;refine Zx ?_
      refine Yj 32 rfl (fun hc6=>?_) (fun hc6=>?_)
      ·replace hc6:=nT hc6
       simp only [ZF.eta,ZQ.eta,ZR.eta,ZP.eta,Yr.eta,ZW.eta,YQ.eta,Yc.eta] at hc6
       iterate 5 refine Ya ?_
       refine ZO ?_;refine Zx ?_
       iterate 5 refine Ya ?_
       refine ZO ?_;refine Zo (Zn (Y_pk [45,2,1] ?_));refine Xi rfl ?_;refine ZK (Zm (l:=[0]) rfl ?_);refine ZB ?_;refine Zo (Zn (Y_pk [2,1] ?_));refine Yo (YS ?_)
       refine Yk (.inr rfl) (.tmp rfl .nil) (fun w hw=>?_)
       refine ⟨_,rfl,(hw.c),?_⟩
       clear hw
       show _=Value.bool (decide (IsTb (ZQ.tb ⟨⟨Za,Zb⟩,⟨Zf,Zh⟩,⟨Zj,Zi,Zg⟩,⟨Ze,Zd,Zc⟩⟩)∧(1≤Zr∧Zr≤8)∧(Zs=true∨ZH≠-1)∧(0≤Zv∧Zv≤159)∧Zl.length≤16∧(0≤ZG∧ZG≤64)∧(0≤ZJ∧ZJ≤999999)∧(YZ ⟨Za,Zb⟩ ZH∧YZ ⟨Za,Zb⟩ ZC∧YZ ⟨Za,Zb⟩ Zw∧YZ ⟨Za,Zb⟩ Zy)∧∀ a∈Zl,YX a))
       refine congrArg Value.bool ?_
       refine (decide_eq_false (fun h9=>?_)).symm
       obtain ⟨g1,g2,g3,g4,g5,g6,g7,⟨g8,g81,g82,g83⟩,g9⟩:=h9
       contradiction
      ·replace hc6:=nF hc6
       simp only [ZF.eta,ZQ.eta,ZR.eta,ZP.eta,Yr.eta,ZW.eta,YQ.eta,Yc.eta] at hc6
       refine ZD F.lay32 ?_;refine Zk F.foff32_8 ?_;refine ZD F.lay3 ?_;refine X_fs rfl rfl F.ok74 rfl (addrN_ok _ ⟨⟨⟨Za,Zb⟩,⟨Zf,Zh⟩,⟨Zj,Zi,Zg⟩,⟨Ze,Zd,Zc⟩⟩,Zr,Zs,ZH,Zv,ZT,ZC,ZA,Zw,Zq,Zy,Zp,Zz,⟨Zu,Zt,Zl⟩,ZG,ZJ⟩ _) rfl ?_
       rintro _ rfl
       refine Xj ?_;refine ZO ?_;refine Zx ?_
       refine Yj 39 rfl (fun hc7=>?_) (fun hc7=>?_)
       ·replace hc7:=nT hc7
        simp only [ZF.eta,ZQ.eta,ZR.eta,ZP.eta,Yr.eta,ZW.eta,YQ.eta,Yc.eta] at hc7
        iterate 5 refine Ya ?_
        refine ZO ?_;refine Zo (Zn (Y_pk [45,2,1] ?_));refine Xi rfl ?_;refine ZK (Zm (l:=[0]) rfl ?_);refine ZB ?_;refine Zo (Zn (Y_pk [2,1] ?_));refine Yo (YS ?_)
        refine Yk (.inr rfl) (.tmp rfl .nil) (fun w hw=>?_)
        refine ⟨_,rfl,(hw.c),?_⟩
        clear hw
        show _=Value.bool (decide (IsTb (ZQ.tb ⟨⟨Za,Zb⟩,⟨Zf,Zh⟩,⟨Zj,Zi,Zg⟩,⟨Ze,Zd,Zc⟩⟩)∧(1≤Zr∧Zr≤8)∧(Zs=true∨ZH≠-1)∧(0≤Zv∧Zv≤159)∧Zl.length≤16∧(0≤ZG∧ZG≤64)∧(0≤ZJ∧ZJ≤999999)∧(YZ ⟨Za,Zb⟩ ZH∧YZ ⟨Za,Zb⟩ ZC∧YZ ⟨Za,Zb⟩ Zw∧YZ ⟨Za,Zb⟩ Zy)∧∀ a∈Zl,YX a))
        refine congrArg Value.bool ?_
        refine (decide_eq_false (fun h9=>?_)).symm
        obtain ⟨g1,g2,g3,g4,g5,g6,g7,⟨g8,g81,g82,g83⟩,g9⟩:=h9
        contradiction
       ·replace hc7:=nF hc7
        simp only [ZF.eta,ZQ.eta,ZR.eta,ZP.eta,Yr.eta,ZW.eta,YQ.eta,Yc.eta] at hc7
        refine ZD F.lay32 ?_;refine Zk F.foff32_10 ?_;refine ZD F.lay3 ?_;refine X_fs rfl rfl F.ok74 rfl (addrN_ok _ ⟨⟨⟨Za,Zb⟩,⟨Zf,Zh⟩,⟨Zj,Zi,Zg⟩,⟨Ze,Zd,Zc⟩⟩,Zr,Zs,ZH,Zv,ZT,ZC,ZA,Zw,Zq,Zy,Zp,Zz,⟨Zu,Zt,Zl⟩,ZG,ZJ⟩ _) rfl ?_
        rintro _ rfl
        refine Xj ?_;refine ZO ?_;refine Zo (Zn (Y_pk [45,2,1] ?_))
        refine YA rfl (fun hc8=>?_) (fun hc8=>?_)
        ·replace hc8:=nT hc8
         simp only [ZF.eta,ZQ.eta,ZR.eta,ZP.eta,Yr.eta,ZW.eta,YQ.eta,Yc.eta] at hc8
         refine ZK (Zm (l:=[0]) rfl ?_);refine ZB ?_;refine Zo (Zn (Y_pk [2,1] ?_));refine Yo (YS ?_)
         refine Yk (.inr rfl) (.tmp rfl .nil) (fun w hw=>?_)
         refine ⟨_,rfl,(hw.c),?_⟩
         clear hw
         show _=Value.bool (decide (IsTb (ZQ.tb ⟨⟨Za,Zb⟩,⟨Zf,Zh⟩,⟨Zj,Zi,Zg⟩,⟨Ze,Zd,Zc⟩⟩)∧(1≤Zr∧Zr≤8)∧(Zs=true∨ZH≠-1)∧(0≤Zv∧Zv≤159)∧Zl.length≤16∧(0≤ZG∧ZG≤64)∧(0≤ZJ∧ZJ≤999999)∧(YZ ⟨Za,Zb⟩ ZH∧YZ ⟨Za,Zb⟩ ZC∧YZ ⟨Za,Zb⟩ Zw∧YZ ⟨Za,Zb⟩ Zy)∧∀ a∈Zl,YX a))
         refine congrArg Value.bool ?_
         refine (decide_eq_false (fun h9=>?_)).symm
         obtain ⟨g1,g2,g3,g4,g5,g6,g7,⟨g8,g81,g82,g83⟩,g9⟩:=h9
         contradiction
        ·replace hc8:=nF hc8
         simp only [ZF.eta,ZQ.eta,ZR.eta,ZP.eta,Yr.eta,ZW.eta,YQ.eta,Yc.eta] at hc8
         refine YG (Zn (Y_pk [2,1] ?_))
         iterate 2 refine ZK ?_
         refine Zm (l:=[0,1,2,3,4,5,6,7,8,9,10,11,12,13,14,15,16,17,18,19,20,21,22,23,24,25,26,27,28,29,30,31,32,33,34,35,36,37,38,39,40,41,42,43]) rfl ?_;refine Zk F.foff32_2 ?_;refine ZD F.lay4 ?_;refine Xj ?_;refine Zx ?_
         refine Yj 49 rfl (fun hc9=>?_) (fun hc9=>?_)
         ·skip
          refine Zk F.foff32_3 ?_;refine ZD F.lay3 ?_;refine YI ?_;refine ZO ?_;refine Zx ?_
          refine Yj 54 rfl (fun hc10=>?_) (fun hc10=>?_)
          ·replace hc10:=dT hc10
           iterate 3 refine Ya ?_
           refine ZO ?_;refine Zx ?_
           iterate 3 refine Ya ?_
           refine ZO ?_;refine Zx ?_
           iterate 4 refine Ya ?_
           refine ZO ?_;refine Zx ?_
           iterate 3 refine Ya ?_
           refine ZO ?_;refine Zx ?_
           iterate 3 refine Ya ?_
           refine ZO ?_;refine Zx ?_
           iterate 3 refine Ya ?_
           refine ZO ?_;refine Zx ?_
           iterate 3 refine Ya ?_
           refine ZO ?_;refine Zo (Zn (Y_pk [89,2,1] ?_));refine Xi rfl ?_;refine ZK (Zm (l:=[0]) rfl ?_);refine ZB ?_;refine Zo (Zn (Y_pk [2,1] ?_));refine Yo (YS ?_)
           refine Yk (.inr rfl) (.tmp rfl .nil) (fun w hw=>?_)
           refine ⟨_,rfl,(hw.c),?_⟩
           clear hw
           show _=Value.bool (decide (IsTb (ZQ.tb ⟨⟨Za,Zb⟩,⟨Zf,Zh⟩,⟨Zj,Zi,Zg⟩,⟨Ze,Zd,Zc⟩⟩)∧(1≤Zr∧Zr≤8)∧(Zs=true∨ZH≠-1)∧(0≤Zv∧Zv≤159)∧Zl.length≤16∧(0≤ZG∧ZG≤64)∧(0≤ZJ∧ZJ≤999999)∧(YZ ⟨Za,Zb⟩ ZH∧YZ ⟨Za,Zb⟩ ZC∧YZ ⟨Za,Zb⟩ Zw∧YZ ⟨Za,Zb⟩ Zy)∧∀ a∈Zl,YX a))
           refine congrArg Value.bool ?_
           refine (decide_eq_false (fun h9=>?_)).symm
           obtain ⟨g1,g2,g3,g4,g5,g6,g7,⟨g8,g81,g82,g83⟩,g9⟩:=h9
           (obtain ⟨⟨g84,_⟩,_⟩:=g8;rcases g3 with g3|g3 <;> first|(simp_all;done)|omega|(simp_all;omega))
          ·replace hc10:=dF hc10
           refine Zk F.foff32_4 ?_;refine ZD F.lay3 ?_;refine YI ?_;refine ZO ?_;refine Zx ?_
           refine Yj 59 rfl (fun hc11=>?_) (fun hc11=>?_)
           ·replace hc11:=dT hc11
            iterate 3 refine Ya ?_
            refine ZO ?_;refine Zx ?_
            iterate 4 refine Ya ?_
            refine ZO ?_;refine Zx ?_
            iterate 3 refine Ya ?_
            refine ZO ?_;refine Zx ?_
            iterate 3 refine Ya ?_
            refine ZO ?_;refine Zx ?_
            iterate 3 refine Ya ?_
            refine ZO ?_;refine Zx ?_
            iterate 3 refine Ya ?_
            refine ZO ?_;refine Zo (Zn (Y_pk [89,2,1] ?_));refine Xi rfl ?_;refine ZK (Zm (l:=[0]) rfl ?_);refine ZB ?_;refine Zo (Zn (Y_pk [2,1] ?_));refine Yo (YS ?_)
            refine Yk (.inr rfl) (.tmp rfl .nil) (fun w hw=>?_)
            refine ⟨_,rfl,(hw.c),?_⟩
            clear hw
            show _=Value.bool (decide (IsTb (ZQ.tb ⟨⟨Za,Zb⟩,⟨Zf,Zh⟩,⟨Zj,Zi,Zg⟩,⟨Ze,Zd,Zc⟩⟩)∧(1≤Zr∧Zr≤8)∧(Zs=true∨ZH≠-1)∧(0≤Zv∧Zv≤159)∧Zl.length≤16∧(0≤ZG∧ZG≤64)∧(0≤ZJ∧ZJ≤999999)∧(YZ ⟨Za,Zb⟩ ZH∧YZ ⟨Za,Zb⟩ ZC∧YZ ⟨Za,Zb⟩ Zw∧YZ ⟨Za,Zb⟩ Zy)∧∀ a∈Zl,YX a))
            refine congrArg Value.bool ?_
            refine (decide_eq_false (fun h9=>?_)).symm
            obtain ⟨g1,g2,g3,g4,g5,g6,g7,⟨g8,g81,g82,g83⟩,g9⟩:=h9
            omega
           ·replace hc11:=dF hc11
            refine Zk F.foff32_4 ?_;refine ZD F.lay3 ?_;refine YI ?_;refine ZO ?_;refine Zx ?_
            refine Yj 64 rfl (fun hc12=>?_) (fun hc12=>?_)
            ·replace hc12:=dT hc12
             iterate 4 refine Ya ?_
             refine ZO ?_;refine Zx ?_
             iterate 3 refine Ya ?_
             refine ZO ?_;refine Zx ?_
             iterate 3 refine Ya ?_
             refine ZO ?_;refine Zx ?_
             iterate 3 refine Ya ?_
             refine ZO ?_;refine Zx ?_
             iterate 3 refine Ya ?_
             refine ZO ?_;refine Zo (Zn (Y_pk [89,2,1] ?_));refine Xi rfl ?_;refine ZK (Zm (l:=[0]) rfl ?_);refine ZB ?_;refine Zo (Zn (Y_pk [2,1] ?_));refine Yo (YS ?_)
             refine Yk (.inr rfl) (.tmp rfl .nil) (fun w hw=>?_)
             refine ⟨_,rfl,(hw.c),?_⟩
             clear hw
             show _=Value.bool (decide (IsTb (ZQ.tb ⟨⟨Za,Zb⟩,⟨Zf,Zh⟩,⟨Zj,Zi,Zg⟩,⟨Ze,Zd,Zc⟩⟩)∧(1≤Zr∧Zr≤8)∧(Zs=true∨ZH≠-1)∧(0≤Zv∧Zv≤159)∧Zl.length≤16∧(0≤ZG∧ZG≤64)∧(0≤ZJ∧ZJ≤999999)∧(YZ ⟨Za,Zb⟩ ZH∧YZ ⟨Za,Zb⟩ ZC∧YZ ⟨Za,Zb⟩ Zw∧YZ ⟨Za,Zb⟩ Zy)∧∀ a∈Zl,YX a))
             refine congrArg Value.bool ?_
             refine (decide_eq_false (fun h9=>?_)).symm
             obtain ⟨g1,g2,g3,g4,g5,g6,g7,⟨g8,g81,g82,g83⟩,g9⟩:=h9
             omega
            ·replace hc12:=dF hc12
             refine Zk F.foff32_13 ?_;refine ZD F.lay30 ?_;refine YY F.elem30 ?_;refine YI ?_;refine ZO ?_;refine Zx ?_
             refine Yj 70 rfl (fun hc13=>?_) (fun hc13=>?_)
             ·replace hc13:=dT hc13
              iterate 3 refine Ya ?_
              refine ZO ?_;refine Zx ?_
              iterate 3 refine Ya ?_
              refine ZO ?_;refine Zx ?_
              iterate 3 refine Ya ?_
              refine ZO ?_;refine Zx ?_
              iterate 3 refine Ya ?_
              refine ZO ?_;refine Zo (Zn (Y_pk [89,2,1] ?_));refine Xi rfl ?_;refine ZK (Zm (l:=[0]) rfl ?_);refine ZB ?_;refine Zo (Zn (Y_pk [2,1] ?_));refine Yo (YS ?_)
              refine Yk (.inr rfl) (.tmp rfl .nil) (fun w hw=>?_)
              refine ⟨_,rfl,(hw.c),?_⟩
              clear hw
              show _=Value.bool (decide (IsTb (ZQ.tb ⟨⟨Za,Zb⟩,⟨Zf,Zh⟩,⟨Zj,Zi,Zg⟩,⟨Ze,Zd,Zc⟩⟩)∧(1≤Zr∧Zr≤8)∧(Zs=true∨ZH≠-1)∧(0≤Zv∧Zv≤159)∧Zl.length≤16∧(0≤ZG∧ZG≤64)∧(0≤ZJ∧ZJ≤999999)∧(YZ ⟨Za,Zb⟩ ZH∧YZ ⟨Za,Zb⟩ ZC∧YZ ⟨Za,Zb⟩ Zw∧YZ ⟨Za,Zb⟩ Zy)∧∀ a∈Zl,YX a))
              refine congrArg Value.bool ?_
              refine (decide_eq_false (fun h9=>?_)).symm
              obtain ⟨g1,g2,g3,g4,g5,g6,g7,⟨g8,g81,g82,g83⟩,g9⟩:=h9
              omega
             ·replace hc13:=dF hc13
              refine Zk F.foff32_14 ?_;refine ZD F.lay3 ?_;refine YI ?_;refine ZO ?_;refine Zx ?_
              refine Yj 75 rfl (fun hc14=>?_) (fun hc14=>?_)
              ·replace hc14:=dT hc14
               iterate 3 refine Ya ?_
               refine ZO ?_;refine Zx ?_
               iterate 3 refine Ya ?_
               refine ZO ?_;refine Zx ?_
               iterate 3 refine Ya ?_
               refine ZO ?_;refine Zo (Zn (Y_pk [89,2,1] ?_));refine Xi rfl ?_;refine ZK (Zm (l:=[0]) rfl ?_);refine ZB ?_;refine Zo (Zn (Y_pk [2,1] ?_));refine Yo (YS ?_)
               refine Yk (.inr rfl) (.tmp rfl .nil) (fun w hw=>?_)
               refine ⟨_,rfl,(hw.c),?_⟩
               clear hw
               show _=Value.bool (decide (IsTb (ZQ.tb ⟨⟨Za,Zb⟩,⟨Zf,Zh⟩,⟨Zj,Zi,Zg⟩,⟨Ze,Zd,Zc⟩⟩)∧(1≤Zr∧Zr≤8)∧(Zs=true∨ZH≠-1)∧(0≤Zv∧Zv≤159)∧Zl.length≤16∧(0≤ZG∧ZG≤64)∧(0≤ZJ∧ZJ≤999999)∧(YZ ⟨Za,Zb⟩ ZH∧YZ ⟨Za,Zb⟩ ZC∧YZ ⟨Za,Zb⟩ Zw∧YZ ⟨Za,Zb⟩ Zy)∧∀ a∈Zl,YX a))
               refine congrArg Value.bool ?_
               refine (decide_eq_false (fun h9=>?_)).symm
               obtain ⟨g1,g2,g3,g4,g5,g6,g7,⟨g8,g81,g82,g83⟩,g9⟩:=h9
               omega
              ·replace hc14:=dF hc14
               refine Zk F.foff32_14 ?_;refine ZD F.lay3 ?_;refine YI ?_;refine ZO ?_;refine Zx ?_
               refine Yj 80 rfl (fun hc15=>?_) (fun hc15=>?_)
               ·replace hc15:=dT hc15
                iterate 3 refine Ya ?_
                refine ZO ?_;refine Zx ?_
                iterate 3 refine Ya ?_
                refine ZO ?_;refine Zo (Zn (Y_pk [89,2,1] ?_));refine Xi rfl ?_;refine ZK (Zm (l:=[0]) rfl ?_);refine ZB ?_;refine Zo (Zn (Y_pk [2,1] ?_));refine Yo (YS ?_)
                refine Yk (.inr rfl) (.tmp rfl .nil) (fun w hw=>?_)
                refine ⟨_,rfl,(hw.c),?_⟩
                clear hw
                show _=Value.bool (decide (IsTb (ZQ.tb ⟨⟨Za,Zb⟩,⟨Zf,Zh⟩,⟨Zj,Zi,Zg⟩,⟨Ze,Zd,Zc⟩⟩)∧(1≤Zr∧Zr≤8)∧(Zs=true∨ZH≠-1)∧(0≤Zv∧Zv≤159)∧Zl.length≤16∧(0≤ZG∧ZG≤64)∧(0≤ZJ∧ZJ≤999999)∧(YZ ⟨Za,Zb⟩ ZH∧YZ ⟨Za,Zb⟩ ZC∧YZ ⟨Za,Zb⟩ Zw∧YZ ⟨Za,Zb⟩ Zy)∧∀ a∈Zl,YX a))
                refine congrArg Value.bool ?_
                refine (decide_eq_false (fun h9=>?_)).symm
                obtain ⟨g1,g2,g3,g4,g5,g6,g7,⟨g8,g81,g82,g83⟩,g9⟩:=h9
                omega
               ·replace hc15:=dF hc15
                refine Zk F.foff32_15 ?_;refine ZD F.lay3 ?_;refine YI ?_;refine ZO ?_;refine Zx ?_
                refine Yj 85 rfl (fun hc16=>?_) (fun hc16=>?_)
                ·replace hc16:=dT hc16
                 iterate 3 refine Ya ?_
                 refine ZO ?_;refine Zo (Zn (Y_pk [89,2,1] ?_));refine Xi rfl ?_;refine ZK (Zm (l:=[0]) rfl ?_);refine ZB ?_;refine Zo (Zn (Y_pk [2,1] ?_));refine Yo (YS ?_)
                 refine Yk (.inr rfl) (.tmp rfl .nil) (fun w hw=>?_)
                 refine ⟨_,rfl,(hw.c),?_⟩
                 clear hw
                 show _=Value.bool (decide (IsTb (ZQ.tb ⟨⟨Za,Zb⟩,⟨Zf,Zh⟩,⟨Zj,Zi,Zg⟩,⟨Ze,Zd,Zc⟩⟩)∧(1≤Zr∧Zr≤8)∧(Zs=true∨ZH≠-1)∧(0≤Zv∧Zv≤159)∧Zl.length≤16∧(0≤ZG∧ZG≤64)∧(0≤ZJ∧ZJ≤999999)∧(YZ ⟨Za,Zb⟩ ZH∧YZ ⟨Za,Zb⟩ ZC∧YZ ⟨Za,Zb⟩ Zw∧YZ ⟨Za,Zb⟩ Zy)∧∀ a∈Zl,YX a))
                 refine congrArg Value.bool ?_
                 refine (decide_eq_false (fun h9=>?_)).symm
                 obtain ⟨g1,g2,g3,g4,g5,g6,g7,⟨g8,g81,g82,g83⟩,g9⟩:=h9
                 omega
                ·replace hc16:=dF hc16
                 refine Zk F.foff32_15 ?_;refine ZD F.lay3 ?_;refine YI ?_;refine ZO ?_;refine Zo (Zn (Y_pk [89,2,1] ?_))
                 refine YA rfl (fun hc17=>?_) (fun hc17=>?_)
                 ·replace hc17:=dT hc17
                  refine ZK (Zm (l:=[0]) rfl ?_);refine ZB ?_;refine Zo (Zn (Y_pk [2,1] ?_));refine Yo (YS ?_)
                  refine Yk (.inr rfl) (.tmp rfl .nil) (fun w hw=>?_)
                  refine ⟨_,rfl,(hw.c),?_⟩
                  clear hw
                  show _=Value.bool (decide (IsTb (ZQ.tb ⟨⟨Za,Zb⟩,⟨Zf,Zh⟩,⟨Zj,Zi,Zg⟩,⟨Ze,Zd,Zc⟩⟩)∧(1≤Zr∧Zr≤8)∧(Zs=true∨ZH≠-1)∧(0≤Zv∧Zv≤159)∧Zl.length≤16∧(0≤ZG∧ZG≤64)∧(0≤ZJ∧ZJ≤999999)∧(YZ ⟨Za,Zb⟩ ZH∧YZ ⟨Za,Zb⟩ ZC∧YZ ⟨Za,Zb⟩ Zw∧YZ ⟨Za,Zb⟩ Zy)∧∀ a∈Zl,YX a))
                  refine congrArg Value.bool ?_
                  refine (decide_eq_false (fun h9=>?_)).symm
                  obtain ⟨g1,g2,g3,g4,g5,g6,g7,⟨g8,g81,g82,g83⟩,g9⟩:=h9
                  omega
                 ·replace hc17:=dF hc17
                  refine YG (Zn (Y_pk [2,1] ?_))
                  iterate 2 refine ZK ?_
                  refine Zm (l:=[0]) rfl ?_;refine ZB ?_;refine Zo (Zn (Xc (Y_pk [3,2,1] ?_)));refine WV (.succ .zero) (fun (k:Nat) z=>z=[(3,.int .i64 (k:Int))]∧k≤Zl.length∧(∀ j (h:j<k) (h2:j<Zl.length),YX Zl[j])) (fun k=>Zl.length-k) (0) (⟨rfl,by omega,by (intro j hj;omega)⟩) ?_
                  rintro k _ ⟨rfl,hk,hI⟩
                  iterate 2 refine ZK ?_
                  refine Zm (l:=[0,1,2,3,4]) rfl ?_;refine Zx ?_;refine Zk F.foff32_13 ?_;refine ZD F.lay30 ?_;refine YY F.elem30 ?_;refine YI ?_;refine Zo (Zn ?_)
                  refine YA rfl (fun hc18=>?_) (fun hc18=>?_)
                  ·replace hc18:=dT hc18
                   refine YG (Zn (ZK (Xc (ZK (Zm (l:=[0,1,2,3,4,5,6,7,8,9,10,11,12,13]) rfl ?_)))));refine Zk F.foff32_13 ?_;refine ZD F.lay30 ?_;refine Zx ?_;refine YR rfl rfl rfl rfl F.elem30 (by rfl) (by omega) (by exact SlM.plain (by assumption) (by (simp;omega))) rfl ?_;refine Xm rfl rfl rfl (by assumption) (by exact XP (by omega)) F.lay3 rfl rfl rfl ?_;refine YI ?_;refine Zx ?_
                   refine Yj 103 rfl (fun hc19=>?_) (fun hc19=>?_)
                   ·replace hc19:=dT hc19
                    iterate 6 refine Ya ?_
                    refine ZO ?_;refine Zo (Zn (Xi rfl ?_));refine ZK (Zm (l:=[0]) rfl ?_);refine ZB ?_;refine Zo (Zn (Yo (Xh ?_)))
                    iterate 2 refine YS ?_
                    refine Xh (YS ?_)
                    refine Yk (.inr rfl) (.tmp rfl .nil) (fun w hw=>?_)
                    refine ⟨_,rfl,(hw.c),?_⟩
                    clear hw
                    show _=Value.bool (decide (IsTb (ZQ.tb ⟨⟨Za,Zb⟩,⟨Zf,Zh⟩,⟨Zj,Zi,Zg⟩,⟨Ze,Zd,Zc⟩⟩)∧(1≤Zr∧Zr≤8)∧(Zs=true∨ZH≠-1)∧(0≤Zv∧Zv≤159)∧Zl.length≤16∧(0≤ZG∧ZG≤64)∧(0≤ZJ∧ZJ≤999999)∧(YZ ⟨Za,Zb⟩ ZH∧YZ ⟨Za,Zb⟩ ZC∧YZ ⟨Za,Zb⟩ Zw∧YZ ⟨Za,Zb⟩ Zy)∧∀ a∈Zl,YX a))
                    refine congrArg Value.bool ?_
                    refine (decide_eq_false (fun h9=>?_)).symm
                    obtain ⟨g1,g2,g3,g4,g5,g6,g7,⟨g8,g81,g82,g83⟩,g9⟩:=h9
                    have h8:=g9 _ (List.getElem_mem (n:=k) (by omega))
                    obtain ⟨h7,h6⟩:=h8
                    omega
                   ·replace hc19:=dF hc19
                    refine Zk F.foff32_13 ?_;refine ZD F.lay30 ?_;refine Zx ?_;refine YR rfl rfl rfl rfl F.elem30 (by rfl) (by omega) (by exact SlM.plain (by assumption) (by (simp;omega))) rfl ?_;refine Xm rfl rfl rfl (by assumption) (by exact XP (by omega)) F.lay3 rfl rfl rfl ?_;refine YI ?_;refine ZO ?_;refine Zo (Zn ?_)
                    refine YA rfl (fun hc20=>?_) (fun hc20=>?_)
                    ·replace hc20:=dT hc20
                     refine ZK (Zm (l:=[0]) rfl ?_);refine ZB ?_;refine Zo (Zn (Yo (Xh ?_)))
                     iterate 2 refine YS ?_
                     refine Xh (YS ?_)
                     refine Yk (.inr rfl) (.tmp rfl .nil) (fun w hw=>?_)
                     refine ⟨_,rfl,(hw.c),?_⟩
                     clear hw
                     show _=Value.bool (decide (IsTb (ZQ.tb ⟨⟨Za,Zb⟩,⟨Zf,Zh⟩,⟨Zj,Zi,Zg⟩,⟨Ze,Zd,Zc⟩⟩)∧(1≤Zr∧Zr≤8)∧(Zs=true∨ZH≠-1)∧(0≤Zv∧Zv≤159)∧Zl.length≤16∧(0≤ZG∧ZG≤64)∧(0≤ZJ∧ZJ≤999999)∧(YZ ⟨Za,Zb⟩ ZH∧YZ ⟨Za,Zb⟩ ZC∧YZ ⟨Za,Zb⟩ Zw∧YZ ⟨Za,Zb⟩ Zy)∧∀ a∈Zl,YX a))
                     refine congrArg Value.bool ?_
                     refine (decide_eq_false (fun h9=>?_)).symm
                     obtain ⟨g1,g2,g3,g4,g5,g6,g7,⟨g8,g81,g82,g83⟩,g9⟩:=h9
                     have h8:=g9 _ (List.getElem_mem (n:=k) (by omega))
                     obtain ⟨h7,h6⟩:=h8
                     omega
                    ·replace hc20:=dF hc20
                     refine YG (XR (Zn (Zm (l:=[0,1,2]) rfl ?_)));refine Zx ?_;refine XE rfl rfl rfl rfl rfl (by exact Xe (by decide) (by omega)) rfl ?_;refine ZB ?_;refine Zo ?_;refine WO (a':=[(3,_)]) (k+1) (.cons (k:=3) rfl (.cons (k:=2) rfl (.cons (k:=1) rfl (.nil)))) (fun w hw=>by first|exact hw|exact hw.c) ?_ ?_
                     ·refine ⟨rfl,by omega,?_⟩
                      (intro j hj hj2;rcases Nat.lt_or_ge j k with h9|h9;exact hI j h9 hj2;obtain rfl:j=k:=(by omega);exact ⟨by omega,by omega⟩)
                     ·omega
                  ·replace hc18:=dF hc18
                   refine XK ?_
                   iterate 2 refine XH ?_
                   refine Wh (Zn (Y_pk [2] ?_));refine ZK (Zm (l:=[0]) rfl ?_);refine ZB ?_;refine Zo (Zn (Yo ?_))
                   refine Yk (.inr rfl) (.tmp rfl .nil) (fun w hw=>?_)
                   refine ⟨_,rfl,(hw.c),?_⟩
                   clear hw
                   show _=Value.bool (decide (IsTb (ZQ.tb ⟨⟨Za,Zb⟩,⟨Zf,Zh⟩,⟨Zj,Zi,Zg⟩,⟨Ze,Zd,Zc⟩⟩)∧(1≤Zr∧Zr≤8)∧(Zs=true∨ZH≠-1)∧(0≤Zv∧Zv≤159)∧Zl.length≤16∧(0≤ZG∧ZG≤64)∧(0≤ZJ∧ZJ≤999999)∧(YZ ⟨Za,Zb⟩ ZH∧YZ ⟨Za,Zb⟩ ZC∧YZ ⟨Za,Zb⟩ Zw∧YZ ⟨Za,Zb⟩ Zy)∧∀ a∈Zl,YX a))
                   refine congrArg Value.bool ?_
                   exact (decide_eq_true ⟨by assumption,by omega,by first|(simp_all;done)|(cases Zs <;> simp_all <;> omega),by omega,by omega,by omega,by omega,⟨by assumption,by assumption,by assumption,by assumption⟩,fun a ha=>by obtain ⟨j,hj,rfl⟩:=List.getElem_of_mem ha;exact hI j (by omega) hj⟩).symm
         ·skip
          iterate 3 refine Ya ?_
          refine ZO ?_;refine Zx ?_;refine Zk F.foff32_4 ?_;refine ZD F.lay3 ?_;refine YI ?_;refine ZO ?_;refine Zx ?_
          refine Yj 59 rfl (fun hc21=>?_) (fun hc21=>?_)
          ·replace hc21:=dT hc21
           iterate 3 refine Ya ?_
           refine ZO ?_;refine Zx ?_
           iterate 4 refine Ya ?_
           refine ZO ?_;refine Zx ?_
           iterate 3 refine Ya ?_
           refine ZO ?_;refine Zx ?_
           iterate 3 refine Ya ?_
           refine ZO ?_;refine Zx ?_
           iterate 3 refine Ya ?_
           refine ZO ?_;refine Zx ?_
           iterate 3 refine Ya ?_
           refine ZO ?_;refine Zo (Zn (Y_pk [89,2,1] ?_));refine Xi rfl ?_;refine ZK (Zm (l:=[0]) rfl ?_);refine ZB ?_;refine Zo (Zn (Y_pk [2,1] ?_));refine Yo (YS ?_)
           refine Yk (.inr rfl) (.tmp rfl .nil) (fun w hw=>?_)
           refine ⟨_,rfl,(hw.c),?_⟩
           clear hw
           show _=Value.bool (decide (IsTb (ZQ.tb ⟨⟨Za,Zb⟩,⟨Zf,Zh⟩,⟨Zj,Zi,Zg⟩,⟨Ze,Zd,Zc⟩⟩)∧(1≤Zr∧Zr≤8)∧(Zs=true∨ZH≠-1)∧(0≤Zv∧Zv≤159)∧Zl.length≤16∧(0≤ZG∧ZG≤64)∧(0≤ZJ∧ZJ≤999999)∧(YZ ⟨Za,Zb⟩ ZH∧YZ ⟨Za,Zb⟩ ZC∧YZ ⟨Za,Zb⟩ Zw∧YZ ⟨Za,Zb⟩ Zy)∧∀ a∈Zl,YX a))
           refine congrArg Value.bool ?_
           refine (decide_eq_false (fun h9=>?_)).symm
           obtain ⟨g1,g2,g3,g4,g5,g6,g7,⟨g8,g81,g82,g83⟩,g9⟩:=h9
           omega
          ·replace hc21:=dF hc21
           refine Zk F.foff32_4 ?_;refine ZD F.lay3 ?_;refine YI ?_;refine ZO ?_;refine Zx ?_
           refine Yj 64 rfl (fun hc22=>?_) (fun hc22=>?_)
           ·replace hc22:=dT hc22
            iterate 4 refine Ya ?_
            refine ZO ?_;refine Zx ?_
            iterate 3 refine Ya ?_
            refine ZO ?_;refine Zx ?_
            iterate 3 refine Ya ?_
            refine ZO ?_;refine Zx ?_
            iterate 3 refine Ya ?_
            refine ZO ?_;refine Zx ?_
            iterate 3 refine Ya ?_
            refine ZO ?_;refine Zo (Zn (Y_pk [89,2,1] ?_));refine Xi rfl ?_;refine ZK (Zm (l:=[0]) rfl ?_);refine ZB ?_;refine Zo (Zn (Y_pk [2,1] ?_));refine Yo (YS ?_)
            refine Yk (.inr rfl) (.tmp rfl .nil) (fun w hw=>?_)
            refine ⟨_,rfl,(hw.c),?_⟩
            clear hw
            show _=Value.bool (decide (IsTb (ZQ.tb ⟨⟨Za,Zb⟩,⟨Zf,Zh⟩,⟨Zj,Zi,Zg⟩,⟨Ze,Zd,Zc⟩⟩)∧(1≤Zr∧Zr≤8)∧(Zs=true∨ZH≠-1)∧(0≤Zv∧Zv≤159)∧Zl.length≤16∧(0≤ZG∧ZG≤64)∧(0≤ZJ∧ZJ≤999999)∧(YZ ⟨Za,Zb⟩ ZH∧YZ ⟨Za,Zb⟩ ZC∧YZ ⟨Za,Zb⟩ Zw∧YZ ⟨Za,Zb⟩ Zy)∧∀ a∈Zl,YX a))
            refine congrArg Value.bool ?_
            refine (decide_eq_false (fun h9=>?_)).symm
            obtain ⟨g1,g2,g3,g4,g5,g6,g7,⟨g8,g81,g82,g83⟩,g9⟩:=h9
            omega
           ·replace hc22:=dF hc22
            refine Zk F.foff32_13 ?_;refine ZD F.lay30 ?_;refine YY F.elem30 ?_;refine YI ?_;refine ZO ?_;refine Zx ?_
            refine Yj 70 rfl (fun hc23=>?_) (fun hc23=>?_)
            ·replace hc23:=dT hc23
             iterate 3 refine Ya ?_
             refine ZO ?_;refine Zx ?_
             iterate 3 refine Ya ?_
             refine ZO ?_;refine Zx ?_
             iterate 3 refine Ya ?_
             refine ZO ?_;refine Zx ?_
             iterate 3 refine Ya ?_
             refine ZO ?_;refine Zo (Zn (Y_pk [89,2,1] ?_));refine Xi rfl ?_;refine ZK (Zm (l:=[0]) rfl ?_);refine ZB ?_;refine Zo (Zn (Y_pk [2,1] ?_));refine Yo (YS ?_)
             refine Yk (.inr rfl) (.tmp rfl .nil) (fun w hw=>?_)
             refine ⟨_,rfl,(hw.c),?_⟩
             clear hw
             show _=Value.bool (decide (IsTb (ZQ.tb ⟨⟨Za,Zb⟩,⟨Zf,Zh⟩,⟨Zj,Zi,Zg⟩,⟨Ze,Zd,Zc⟩⟩)∧(1≤Zr∧Zr≤8)∧(Zs=true∨ZH≠-1)∧(0≤Zv∧Zv≤159)∧Zl.length≤16∧(0≤ZG∧ZG≤64)∧(0≤ZJ∧ZJ≤999999)∧(YZ ⟨Za,Zb⟩ ZH∧YZ ⟨Za,Zb⟩ ZC∧YZ ⟨Za,Zb⟩ Zw∧YZ ⟨Za,Zb⟩ Zy)∧∀ a∈Zl,YX a))
             refine congrArg Value.bool ?_
             refine (decide_eq_false (fun h9=>?_)).symm
             obtain ⟨g1,g2,g3,g4,g5,g6,g7,⟨g8,g81,g82,g83⟩,g9⟩:=h9
             omega
            ·replace hc23:=dF hc23
             refine Zk F.foff32_14 ?_;refine ZD F.lay3 ?_;refine YI ?_;refine ZO ?_;refine Zx ?_
             refine Yj 75 rfl (fun hc24=>?_) (fun hc24=>?_)
             ·replace hc24:=dT hc24
              iterate 3 refine Ya ?_
              refine ZO ?_;refine Zx ?_
              iterate 3 refine Ya ?_
              refine ZO ?_;refine Zx ?_
              iterate 3 refine Ya ?_
              refine ZO ?_;refine Zo (Zn (Y_pk [89,2,1] ?_));refine Xi rfl ?_;refine ZK (Zm (l:=[0]) rfl ?_);refine ZB ?_;refine Zo (Zn (Y_pk [2,1] ?_));refine Yo (YS ?_)
              refine Yk (.inr rfl) (.tmp rfl .nil) (fun w hw=>?_)
              refine ⟨_,rfl,(hw.c),?_⟩
              clear hw
              show _=Value.bool (decide (IsTb (ZQ.tb ⟨⟨Za,Zb⟩,⟨Zf,Zh⟩,⟨Zj,Zi,Zg⟩,⟨Ze,Zd,Zc⟩⟩)∧(1≤Zr∧Zr≤8)∧(Zs=true∨ZH≠-1)∧(0≤Zv∧Zv≤159)∧Zl.length≤16∧(0≤ZG∧ZG≤64)∧(0≤ZJ∧ZJ≤999999)∧(YZ ⟨Za,Zb⟩ ZH∧YZ ⟨Za,Zb⟩ ZC∧YZ ⟨Za,Zb⟩ Zw∧YZ ⟨Za,Zb⟩ Zy)∧∀ a∈Zl,YX a))
              refine congrArg Value.bool ?_
              refine (decide_eq_false (fun h9=>?_)).symm
              obtain ⟨g1,g2,g3,g4,g5,g6,g7,⟨g8,g81,g82,g83⟩,g9⟩:=h9
              omega
             ·replace hc24:=dF hc24
              refine Zk F.foff32_14 ?_;refine ZD F.lay3 ?_;refine YI ?_;refine ZO ?_;refine Zx ?_
              refine Yj 80 rfl (fun hc25=>?_) (fun hc25=>?_)
              ·replace hc25:=dT hc25
               iterate 3 refine Ya ?_
               refine ZO ?_;refine Zx ?_
               iterate 3 refine Ya ?_
               refine ZO ?_;refine Zo (Zn (Y_pk [89,2,1] ?_));refine Xi rfl ?_;refine ZK (Zm (l:=[0]) rfl ?_);refine ZB ?_;refine Zo (Zn (Y_pk [2,1] ?_));refine Yo (YS ?_)
               refine Yk (.inr rfl) (.tmp rfl .nil) (fun w hw=>?_)
               refine ⟨_,rfl,(hw.c),?_⟩
               clear hw
               show _=Value.bool (decide (IsTb (ZQ.tb ⟨⟨Za,Zb⟩,⟨Zf,Zh⟩,⟨Zj,Zi,Zg⟩,⟨Ze,Zd,Zc⟩⟩)∧(1≤Zr∧Zr≤8)∧(Zs=true∨ZH≠-1)∧(0≤Zv∧Zv≤159)∧Zl.length≤16∧(0≤ZG∧ZG≤64)∧(0≤ZJ∧ZJ≤999999)∧(YZ ⟨Za,Zb⟩ ZH∧YZ ⟨Za,Zb⟩ ZC∧YZ ⟨Za,Zb⟩ Zw∧YZ ⟨Za,Zb⟩ Zy)∧∀ a∈Zl,YX a))
               refine congrArg Value.bool ?_
               refine (decide_eq_false (fun h9=>?_)).symm
               obtain ⟨g1,g2,g3,g4,g5,g6,g7,⟨g8,g81,g82,g83⟩,g9⟩:=h9
               omega
              ·replace hc25:=dF hc25
               refine Zk F.foff32_15 ?_;refine ZD F.lay3 ?_;refine YI ?_;refine ZO ?_;refine Zx ?_
               refine Yj 85 rfl (fun hc26=>?_) (fun hc26=>?_)
               ·replace hc26:=dT hc26
                iterate 3 refine Ya ?_
                refine ZO ?_;refine Zo (Zn (Y_pk [89,2,1] ?_));refine Xi rfl ?_;refine ZK (Zm (l:=[0]) rfl ?_);refine ZB ?_;refine Zo (Zn (Y_pk [2,1] ?_));refine Yo (YS ?_)
                refine Yk (.inr rfl) (.tmp rfl .nil) (fun w hw=>?_)
                refine ⟨_,rfl,(hw.c),?_⟩
                clear hw
                show _=Value.bool (decide (IsTb (ZQ.tb ⟨⟨Za,Zb⟩,⟨Zf,Zh⟩,⟨Zj,Zi,Zg⟩,⟨Ze,Zd,Zc⟩⟩)∧(1≤Zr∧Zr≤8)∧(Zs=true∨ZH≠-1)∧(0≤Zv∧Zv≤159)∧Zl.length≤16∧(0≤ZG∧ZG≤64)∧(0≤ZJ∧ZJ≤999999)∧(YZ ⟨Za,Zb⟩ ZH∧YZ ⟨Za,Zb⟩ ZC∧YZ ⟨Za,Zb⟩ Zw∧YZ ⟨Za,Zb⟩ Zy)∧∀ a∈Zl,YX a))
                refine congrArg Value.bool ?_
                refine (decide_eq_false (fun h9=>?_)).symm
                obtain ⟨g1,g2,g3,g4,g5,g6,g7,⟨g8,g81,g82,g83⟩,g9⟩:=h9
                omega
               ·replace hc26:=dF hc26
                refine Zk F.foff32_15 ?_;refine ZD F.lay3 ?_;refine YI ?_;refine ZO ?_;refine Zo (Zn (Y_pk [89,2,1] ?_))
                refine YA rfl (fun hc27=>?_) (fun hc27=>?_)
                ·replace hc27:=dT hc27
                 refine ZK (Zm (l:=[0]) rfl ?_);refine ZB ?_;refine Zo (Zn (Y_pk [2,1] ?_));refine Yo (YS ?_)
                 refine Yk (.inr rfl) (.tmp rfl .nil) (fun w hw=>?_)
                 refine ⟨_,rfl,(hw.c),?_⟩
                 clear hw
                 show _=Value.bool (decide (IsTb (ZQ.tb ⟨⟨Za,Zb⟩,⟨Zf,Zh⟩,⟨Zj,Zi,Zg⟩,⟨Ze,Zd,Zc⟩⟩)∧(1≤Zr∧Zr≤8)∧(Zs=true∨ZH≠-1)∧(0≤Zv∧Zv≤159)∧Zl.length≤16∧(0≤ZG∧ZG≤64)∧(0≤ZJ∧ZJ≤999999)∧(YZ ⟨Za,Zb⟩ ZH∧YZ ⟨Za,Zb⟩ ZC∧YZ ⟨Za,Zb⟩ Zw∧YZ ⟨Za,Zb⟩ Zy)∧∀ a∈Zl,YX a))
                 refine congrArg Value.bool ?_
                 refine (decide_eq_false (fun h9=>?_)).symm
                 obtain ⟨g1,g2,g3,g4,g5,g6,g7,⟨g8,g81,g82,g83⟩,g9⟩:=h9
                 omega
                ·replace hc27:=dF hc27
                 refine YG (Zn (Y_pk [2,1] ?_))
                 iterate 2 refine ZK ?_
                 refine Zm (l:=[0]) rfl ?_;refine ZB ?_;refine Zo (Zn (Xc (Y_pk [3,2,1] ?_)));refine WV (.succ .zero) (fun (k:Nat) z=>z=[(3,.int .i64 (k:Int))]∧k≤Zl.length∧(∀ j (h:j<k) (h2:j<Zl.length),YX Zl[j])) (fun k=>Zl.length-k) (0) (⟨rfl,by omega,by (intro j hj;omega)⟩) ?_
                 rintro k _ ⟨rfl,hk,hI⟩
                 iterate 2 refine ZK ?_
                 refine Zm (l:=[0,1,2,3,4]) rfl ?_;refine Zx ?_;refine Zk F.foff32_13 ?_;refine ZD F.lay30 ?_;refine YY F.elem30 ?_;refine YI ?_;refine Zo (Zn ?_)
                 refine YA rfl (fun hc28=>?_) (fun hc28=>?_)
                 ·replace hc28:=dT hc28
                  refine YG (Zn (ZK (Xc (ZK (Zm (l:=[0,1,2,3,4,5,6,7,8,9,10,11,12,13]) rfl ?_)))));refine Zk F.foff32_13 ?_;refine ZD F.lay30 ?_;refine Zx ?_;refine YR rfl rfl rfl rfl F.elem30 (by rfl) (by omega) (by exact SlM.plain (by assumption) (by (simp;omega))) rfl ?_;refine Xm rfl rfl rfl (by assumption) (by exact XP (by omega)) F.lay3 rfl rfl rfl ?_;refine YI ?_;refine Zx ?_
                  refine Yj 103 rfl (fun hc29=>?_) (fun hc29=>?_)
                  ·replace hc29:=dT hc29
                   iterate 6 refine Ya ?_
                   refine ZO ?_;refine Zo (Zn (Xi rfl ?_));refine ZK (Zm (l:=[0]) rfl ?_);refine ZB ?_;refine Zo (Zn (Yo (Xh ?_)))
                   iterate 2 refine YS ?_
                   refine Xh (YS ?_)
                   refine Yk (.inr rfl) (.tmp rfl .nil) (fun w hw=>?_)
                   refine ⟨_,rfl,(hw.c),?_⟩
                   clear hw
                   show _=Value.bool (decide (IsTb (ZQ.tb ⟨⟨Za,Zb⟩,⟨Zf,Zh⟩,⟨Zj,Zi,Zg⟩,⟨Ze,Zd,Zc⟩⟩)∧(1≤Zr∧Zr≤8)∧(Zs=true∨ZH≠-1)∧(0≤Zv∧Zv≤159)∧Zl.length≤16∧(0≤ZG∧ZG≤64)∧(0≤ZJ∧ZJ≤999999)∧(YZ ⟨Za,Zb⟩ ZH∧YZ ⟨Za,Zb⟩ ZC∧YZ ⟨Za,Zb⟩ Zw∧YZ ⟨Za,Zb⟩ Zy)∧∀ a∈Zl,YX a))
                   refine congrArg Value.bool ?_
                   refine (decide_eq_false (fun h9=>?_)).symm
                   obtain ⟨g1,g2,g3,g4,g5,g6,g7,⟨g8,g81,g82,g83⟩,g9⟩:=h9
                   have h8:=g9 _ (List.getElem_mem (n:=k) (by omega))
                   obtain ⟨h7,h6⟩:=h8
                   omega
                  ·replace hc29:=dF hc29
                   refine Zk F.foff32_13 ?_;refine ZD F.lay30 ?_;refine Zx ?_;refine YR rfl rfl rfl rfl F.elem30 (by rfl) (by omega) (by exact SlM.plain (by assumption) (by (simp;omega))) rfl ?_;refine Xm rfl rfl rfl (by assumption) (by exact XP (by omega)) F.lay3 rfl rfl rfl ?_;refine YI ?_;refine ZO ?_;refine Zo (Zn ?_)
                   refine YA rfl (fun hc30=>?_) (fun hc30=>?_)
                   ·replace hc30:=dT hc30
                    refine ZK (Zm (l:=[0]) rfl ?_);refine ZB ?_;refine Zo (Zn (Yo (Xh ?_)))
                    iterate 2 refine YS ?_
                    refine Xh (YS ?_)
                    refine Yk (.inr rfl) (.tmp rfl .nil) (fun w hw=>?_)
                    refine ⟨_,rfl,(hw.c),?_⟩
                    clear hw
                    show _=Value.bool (decide (IsTb (ZQ.tb ⟨⟨Za,Zb⟩,⟨Zf,Zh⟩,⟨Zj,Zi,Zg⟩,⟨Ze,Zd,Zc⟩⟩)∧(1≤Zr∧Zr≤8)∧(Zs=true∨ZH≠-1)∧(0≤Zv∧Zv≤159)∧Zl.length≤16∧(0≤ZG∧ZG≤64)∧(0≤ZJ∧ZJ≤999999)∧(YZ ⟨Za,Zb⟩ ZH∧YZ ⟨Za,Zb⟩ ZC∧YZ ⟨Za,Zb⟩ Zw∧YZ ⟨Za,Zb⟩ Zy)∧∀ a∈Zl,YX a))
                    refine congrArg Value.bool ?_
                    refine (decide_eq_false (fun h9=>?_)).symm
                    obtain ⟨g1,g2,g3,g4,g5,g6,g7,⟨g8,g81,g82,g83⟩,g9⟩:=h9
                    have h8:=g9 _ (List.getElem_mem (n:=k) (by omega))
                    obtain ⟨h7,h6⟩:=h8
                    omega
                   ·replace hc30:=dF hc30
                    refine YG (XR (Zn (Zm (l:=[0,1,2]) rfl ?_)));refine Zx ?_;refine XE rfl rfl rfl rfl rfl (by exact Xe (by decide) (by omega)) rfl ?_;refine ZB ?_;refine Zo ?_;refine WO (a':=[(3,_)]) (k+1) (.cons (k:=3) rfl (.cons (k:=2) rfl (.cons (k:=1) rfl (.nil)))) (fun w hw=>by first|exact hw|exact hw.c) ?_ ?_
                    ·refine ⟨rfl,by omega,?_⟩
                     (intro j hj hj2;rcases Nat.lt_or_ge j k with h9|h9;exact hI j h9 hj2;obtain rfl:j=k:=(by omega);exact ⟨by omega,by omega⟩)
                    ·omega
                 ·replace hc28:=dF hc28
                  refine XK ?_
                  iterate 2 refine XH ?_
                  refine Wh (Zn (Y_pk [2] ?_));refine ZK (Zm (l:=[0]) rfl ?_);refine ZB ?_;refine Zo (Zn (Yo ?_))
                  refine Yk (.inr rfl) (.tmp rfl .nil) (fun w hw=>?_)
                  refine ⟨_,rfl,(hw.c),?_⟩
                  clear hw
                  show _=Value.bool (decide (IsTb (ZQ.tb ⟨⟨Za,Zb⟩,⟨Zf,Zh⟩,⟨Zj,Zi,Zg⟩,⟨Ze,Zd,Zc⟩⟩)∧(1≤Zr∧Zr≤8)∧(Zs=true∨ZH≠-1)∧(0≤Zv∧Zv≤159)∧Zl.length≤16∧(0≤ZG∧ZG≤64)∧(0≤ZJ∧ZJ≤999999)∧(YZ ⟨Za,Zb⟩ ZH∧YZ ⟨Za,Zb⟩ ZC∧YZ ⟨Za,Zb⟩ Zw∧YZ ⟨Za,Zb⟩ Zy)∧∀ a∈Zl,YX a))
                  refine congrArg Value.bool ?_
                  exact (decide_eq_true ⟨by assumption,by omega,by first|(simp_all;done)|(cases Zs <;> simp_all <;> omega),by omega,by omega,by omega,by omega,⟨by assumption,by assumption,by assumption,by assumption⟩,fun a ha=>by obtain ⟨j,hj,rfl⟩:=List.getElem_of_mem ha;exact hI j (by omega) hj⟩).symm
end Go.Proofs.YtajmnjefajknoaaGreat
namespace Go.Proofs.YtajmnjefajknoaaGreat
open Go.Esp
theorem F.bld125:Bld Tryz.prog 125 [[.one (.int .i64 0)],[.one (.bool false)]]:=⟨by kernel_rfl,by kernel_rfl⟩
theorem F.elem126:slOf Tryz.prog 126=some (125,2,16):=by kernel_rfl
theorem F.foff125_0:foff Tryz.prog 125 0=some 0:=by kernel_rfl
theorem F.foff125_1:foff Tryz.prog 125 1=some 1:=by kernel_rfl
theorem F.foff44_0:foff Tryz.prog 44 0=some 0:=by kernel_rfl
theorem F.foff44_1:foff Tryz.prog 44 1=some 1:=by kernel_rfl
theorem F.foff44_2:foff Tryz.prog 44 2=some 22:=by kernel_rfl
theorem F.foff44_3:foff Tryz.prog 44 3=some 23:=by kernel_rfl
theorem F.foff44_4:foff Tryz.prog 44 4=some 43:=by kernel_rfl
theorem F.foff44_5:foff Tryz.prog 44 5=some 44:=by kernel_rfl
theorem F.foff44_6:foff Tryz.prog 44 6=some 45:=by kernel_rfl
theorem F.foff44_7:foff Tryz.prog 44 7=some 66:=by kernel_rfl
theorem F.lay125:lay Tryz.prog 125=some (true,2):=by kernel_rfl
theorem F.lay29:lay Tryz.prog 29=some (false,1):=by kernel_rfl
theorem F.lay44:lay Tryz.prog 44=some (true,67):=by kernel_rfl
theorem F.ok75:okFn Tryz.prog 75=true:=by kernel_rfl
theorem F.ok76:okFn Tryz.prog 76=true:=by kernel_rfl
theorem F.ok77:okFn Tryz.prog 77=true:=by kernel_rfl
theorem F.ok79:okFn Tryz.prog 79=true:=by kernel_rfl
theorem F.zero125:WH Tryz.prog 125=some (aggV [.one (.int .i64 0),.one (.bool false)]):=by kernel_rfl
theorem lodd_ok (M:Mem) (a:Int):Fs Tryz.prog 77 [.int .i64 a] M (fun v=>v=Value.bool (decide (¬(0≤a∧a≤999)))):=by
  refine Xv Tryz.func77 rfl Tryz.ntmps77 rfl ?_;intro H
  refine ZK (Zm (l:=[0]) rfl ?_);refine ZB ?_;refine Zo (Zn (ZK (Zm (l:=[0,1,2,3,4,5,6]) rfl ?_)));refine Zx ?_;refine YI ?_;refine Zx ?_
  refine Yj 5 rfl (fun hc1=>?_) (fun hc1=>?_)
  ·replace hc1:=dT hc1
   iterate 2 refine Ya ?_
   refine ZO ?_;refine ZB ?_;refine Zo (Zn (Y_pk [2] ?_));refine Yo ?_
   refine Yk (.inr rfl) (.tmp rfl .nil) (fun w hw=>?_)
   refine ⟨_,rfl,(hw.c),?_⟩
   clear hw
   refine congrArg Value.bool ?_
   exact (decide_eq_true (by omega)).symm
  ·replace hc1:=dF hc1
   refine Zx ?_;refine YI ?_;refine ZO ?_;refine ZB ?_;refine Zo (Zn (Y_pk [2] ?_));refine Yo ?_
   refine Yk (.inr rfl) (.tmp rfl .nil) (fun w hw=>?_)
   refine ⟨_,rfl,(hw.c),?_⟩
   clear hw
   refine congrArg Value.bool ?_
   exact decide_eq_decide.2 ⟨fun h9=>by omega,fun h9=>by omega⟩
theorem loddP_ok (M:Mem) (p:ZF):Fs Tryz.prog 79 [p.enc] M (fun v=>v=Value.bool (decide (¬YX p.addr))):=by
  obtain ⟨Xa,p_id⟩:=p
  refine Xv Tryz.func79 rfl Tryz.ntmps79 rfl ?_;intro H
  refine ZK (Zm (l:=[0,1]) rfl ?_)
  refine Xk ?_;intro b1
  refine ZB ?_;refine Zo (Zn (Y_pk [2,1] ?_));refine ZK (Zm (l:=[0,1,2,3]) rfl ?_);refine Zk F.foff25_0 ?_;refine ZD F.lay3 ?_;refine X_fs rfl rfl F.ok77 rfl (lodd_ok _ _) rfl ?_
  rintro _ rfl
  refine ZB ?_;refine Zo (Zn (Y_pk [2] ?_));refine Yo ?_
  refine Yk (.inr rfl) (.tmp rfl .nil) (fun w hw=>?_)
  refine ⟨_,rfl,(hw.c),?_⟩
  clear hw
  rfl
theorem parts_ok (M:Mem) (k:Int):Fs Tryz.prog 75 [.int .i64 k] M (fun v=>v=.tuple #[.int .i64 (Vr k).1,.bool (Vr k).2]):=by
  refine Xv Tryz.func75 rfl Tryz.ntmps75 rfl ?_;intro H
  refine ZK (Zm (l:=[0,1]) rfl ?_)
  iterate 2 refine ZB ?_
  refine Zo (Zn ?_)
  iterate 2 refine ZK ?_
  refine Zm (l:=[0]) rfl ?_;refine Zx ?_;refine Zo (Zn (Y_pk [4,3,2] ?_));refine Xc (ZK (Zm (l:=[0,1]) rfl ?_));refine YI ?_;refine ZB ?_;refine Zo (Zn (Y_pk [5,4,3,2] ?_))
  refine YA rfl (fun hc1=>?_) (fun hc1=>?_)
  ·replace hc1:=dT hc1
   refine ZK (Zm (l:=[0,1]) rfl ?_)
   iterate 2 refine ZB ?_
   refine Zo (Zn (Y_pk [3,2] ?_));refine Yo (Xh (YS ?_))
   refine Yk (.inr rfl) (.tmp rfl (.tmp rfl .nil)) (fun w hw=>?_)
   refine ⟨_,rfl,hw.c,?_⟩
   clear hw
   (subst_vars;rfl)
  ·replace hc1:=dF hc1
   refine ZK (Zm (l:=[0,1]) rfl ?_);refine YI ?_;refine ZB ?_;refine Zo (Zn (Y_pk [7,4,3,2] ?_))
   refine YA rfl (fun hc2=>?_) (fun hc2=>?_)
   ·replace hc2:=dT hc2
    refine ZK (Zm (l:=[0,1]) rfl ?_)
    iterate 2 refine ZB ?_
    refine Zo (Zn (Y_pk [3,2] ?_));refine Yo (Xh (YS ?_))
    refine Yk (.inr rfl) (.tmp rfl (.tmp rfl .nil)) (fun w hw=>?_)
    refine ⟨_,rfl,hw.c,?_⟩
    clear hw
    (subst_vars;rfl)
   ·replace hc2:=dF hc2
    iterate 2 refine ZK ?_
    refine Zm (l:=[0,1]) rfl ?_;refine YI ?_;refine ZB ?_;refine Zo (Zn (Y_pk [9,4,3,2] ?_))
    refine C_part 9 rfl (fun hc3=>?_) (fun hc3=>?_)
    ·replace hc3:=dT hc3
     refine Xi rfl ?_;refine YG (Zn (Xi rfl ?_));refine ZK (Zm (l:=[0,1]) rfl ?_)
     iterate 2 refine ZB ?_
     refine Zo (Zn (Y_pk [3,2] ?_));refine Yo (Xh (YS ?_))
     refine Yk (.inr rfl) (.tmp rfl (.tmp rfl .nil)) (fun w hw=>?_)
     refine ⟨_,rfl,hw.c,?_⟩
     clear hw
     (subst_vars;rfl)
    ·replace hc3:=dF hc3
     refine Wn rfl ?_;refine ZK (Zm (l:=[0,1]) rfl ?_);refine YI ?_;refine ZB ?_;refine Zo (Zn (Y_pk [9,4,3,2] ?_))
     refine C_part 9 rfl (fun hc4=>?_) (fun hc4=>?_)
     ·replace hc4:=dT hc4
      refine Xi rfl ?_;refine YG (Zn (Xi rfl ?_));refine ZK (Zm (l:=[0,1]) rfl ?_)
      iterate 2 refine ZB ?_
      refine Zo (Zn (Y_pk [3,2] ?_));refine Yo (Xh (YS ?_))
      refine Yk (.inr rfl) (.tmp rfl (.tmp rfl .nil)) (fun w hw=>?_)
      refine ⟨_,rfl,hw.c,?_⟩
      clear hw
      (subst_vars;rfl)
     ·replace hc4:=dF hc4
      refine Wn rfl ?_;refine Zm (l:=[0,1]) rfl ?_;refine YI ?_;refine ZB ?_;refine Zo (Zn (Y_pk [9,4,3,2] ?_))
      refine YA rfl (fun hc5=>?_) (fun hc5=>?_)
      ·replace hc5:=dT hc5
       refine ZK (Zm (l:=[0,1]) rfl ?_)
       iterate 2 refine ZB ?_
       refine Zo (Zn (Y_pk [3,2] ?_));refine Yo (Xh (YS ?_))
       refine Yk (.inr rfl) (.tmp rfl (.tmp rfl .nil)) (fun w hw=>?_)
       refine ⟨_,rfl,hw.c,?_⟩
       clear hw
       (subst_vars;rfl)
      ·replace hc5:=dF hc5
       refine ZK (Zm (l:=[0,1]) rfl ?_);refine YI ?_;refine ZB ?_;refine Zo (Zn (Y_pk [13,4,3,2] ?_))
       refine YA rfl (fun hc6=>?_) (fun hc6=>?_)
       ·replace hc6:=dT hc6
        refine ZK (Zm (l:=[0,1]) rfl ?_)
        iterate 2 refine ZB ?_
        refine Zo (Zn (Y_pk [3,2] ?_));refine Yo (Xh (YS ?_))
        refine Yk (.inr rfl) (.tmp rfl (.tmp rfl .nil)) (fun w hw=>?_)
        refine ⟨_,rfl,hw.c,?_⟩
        clear hw
        (subst_vars;rfl)
       ·replace hc6:=dF hc6
        refine ZK (Zm (l:=[0,1]) rfl ?_);refine YI ?_;refine ZB ?_;refine Zo (Zn (Y_pk [15,4,3,2] ?_))
        refine YA rfl (fun hc7=>?_) (fun hc7=>?_)
        ·replace hc7:=dT hc7
         refine ZK (Zm (l:=[0,1]) rfl ?_)
         iterate 2 refine ZB ?_
         refine Zo (Zn (Y_pk [3,2] ?_));refine Yo (Xh (YS ?_))
         refine Yk (.inr rfl) (.tmp rfl (.tmp rfl .nil)) (fun w hw=>?_)
         refine ⟨_,rfl,hw.c,?_⟩
         clear hw
         (subst_vars;rfl)
        ·replace hc7:=dF hc7
         refine ZK (Zm (l:=[0,1]) rfl ?_);refine YI ?_;refine ZB ?_;refine Zo (Zn (Y_pk [17,3,2] ?_))
         refine YA rfl (fun hc8=>?_) (fun hc8=>?_)
         ·replace hc8:=dT hc8
          refine ZK (Zm (l:=[0,1]) rfl ?_)
          iterate 2 refine ZB ?_
          refine Zo (Zn (Y_pk [3,2] ?_));refine Yo (Xh (YS ?_))
          refine Yk (.inr rfl) (.tmp rfl (.tmp rfl .nil)) (fun w hw=>?_)
          refine ⟨_,rfl,hw.c,?_⟩
          clear hw
          (subst_vars;rfl)
         ·replace hc8:=dF hc8
          refine YG (XR (Zn (Y_pk [3,2] ?_)));refine ZK (Zm (l:=[0,1]) rfl ?_)
          iterate 2 refine ZB ?_
          refine Zo (Zn (Yo ?_))
          refine Yk (.inr rfl) (.tmp rfl (.tmp rfl .nil)) (fun w hw=>?_)
          refine ⟨_,rfl,hw.c,?_⟩
          clear hw
          (rw [parts_no (by omega)];rfl)
theorem used_ok (M:Mem) (l:ZP) (hl0:ZP.ok M l):Fs Tryz.prog 76 [l.enc] M (fun v=>v=.int .i64 (Ut (UE (!decide (l.req=0)) (!decide (l.id=0)) (decide (0<(l.avoid.l.length:Int))) l.done (!decide (l.peer=Xf)) (decide (0<(l.peers.l.length:Int)))))):=by
  obtain ⟨Yb,⟨ZM,Ye⟩,YB,l_id,⟨ZY,ZX,ZN⟩,Ys,⟨ZI,ZS⟩,⟨ZZ,ZV,ZL⟩⟩:=l
  have Xl:SlK M (oneI .i64) 1 ⟨ZY,ZX,ZN⟩:=hl0.h0
  have Vu:SlM M ZY (ZN.map (oneI .i64)) 1:=Xl.h1
  have VK:(ZN.map (oneI .i64)).length=ZN.length:=List.length_map ..
  have Vx:ZN.length≤9223372036854775807:=Xl.h2
  have VM:ZN.length≤ZX:=Xl.h3
  have Xb:SlK M ZF.segs 21 ⟨ZZ,ZV,ZL⟩:=hl0.h1
  have XT:SlM M ZZ (ZL.map ZF.segs) 21:=Xb.h1
  have WR:(ZL.map ZF.segs).length=ZL.length:=List.length_map ..
  have Vw:ZL.length≤9223372036854775807:=Xb.h2
  have WS:ZL.length≤ZV:=Xb.h3
  refine Xv Tryz.func76 rfl Tryz.ntmps76 rfl ?_;intro H
  refine ZK (Zm (l:=[0,1]) rfl ?_)
  refine Xk ?_;intro b1
  refine ZB ?_;refine Zo (Zn (Y_pk [2,1] ?_));refine ZK (Zm (l:=[0]) rfl ?_);refine ZB ?_;refine Zo (Zn ?_)
  iterate 2 refine ZK ?_
  refine YK (l:=[0,1,2,3,4,5,6,7,8,9,10,11,12,13,14,15,16,17,18,19,20,21,22,23,24,25,26,27,28,29]) #[0,1,3,7,0,16,0,112,240,0,512,1536,3584,7680,0,16384,49152,0,131072,0,917504,1966080,0,4194304,12582912,29360128,62914560,134217727,268435455,0] _ rfl (by kernel_rfl) (by kernel_rfl) St.drawn (fun _ h=>h) ?_;refine Zk F.foff44_2 ?_;refine ZD F.lay29 ?_;refine YI ?_;refine Xr rfl rfl F.bld125 (.cons rfl (by constructor) (.cons rfl (by constructor) .nil)) rfl rfl ?_;refine Zk F.foff44_3 ?_;refine ZD F.lay23 ?_;refine X_build0 rfl rfl F.zero23 F.arr23 rfl ?_
  refine WF (m:=20) rfl rfl rfl rfl rfl (by constructor) (by constructor) F.lay23 F.kinds23 rfl F.guard23 (WZ WE) (WZ WE) rfl rfl rfl ?_;intro c2 he3
  replace he3:c2=true↔¬(Segs.cells _=Segs.cells _):=he3
  obtain rfl:=neD he3 (Vj (x:=_) (y:=_));clear he3
  refine Xr rfl rfl F.bld125 (.cons rfl (by constructor) (.cons rfl (by constructor) .nil)) rfl rfl ?_;refine Zk F.foff44_4 ?_;refine ZD F.lay30 ?_;refine YY F.elem30 ?_;refine YI ?_;refine Xr rfl rfl F.bld125 (.cons rfl (by constructor) (.cons rfl (by constructor) .nil)) rfl rfl ?_;refine Zk F.foff44_5 ?_;refine ZD F.lay4 ?_;refine Xr rfl rfl F.bld125 (.cons rfl (by constructor) (.cons rfl (by constructor) .nil)) rfl rfl ?_;refine Zk F.foff44_6 ?_;refine ZD F.lay25 ?_;refine X_fs rfl rfl F.ok66 rfl (VG _) rfl ?_
  rintro _ rfl
  refine VA 25 rfl (show _=aggV [.one (.int .i64 (-1)),Yt 0] from rfl) ?_
  refine WF (m:=20) rfl rfl rfl rfl rfl (by constructor) (by constructor) F.lay25 F.kinds25 rfl F.guard25 (by exact XL (⟨_,_⟩)) (by exact XL (⟨_,_⟩)) rfl rfl rfl ?_;intro c4 he5
  replace he5:c4=true↔¬(Segs.cells _=Segs.cells _):=he5
  obtain rfl:=neD he5 (ZF.inj (x:=⟨_,_⟩) (y:=⟨_,_⟩));clear he5
  refine Xr rfl rfl F.bld125 (.cons rfl (by constructor) (.cons rfl (by constructor) .nil)) rfl rfl ?_;refine Zk F.foff44_7 ?_;refine ZD F.lay26 ?_;refine YY F.elem26 ?_;refine YI ?_;refine Xr rfl rfl F.bld125 (.cons rfl (by constructor) (.cons rfl (by constructor) .nil)) rfl rfl ?_
  refine Xq rfl rfl F.elem126 F.zero125 rfl rfl (.cons rfl (by constructor) (.cons rfl (by constructor) (.cons rfl (by constructor) (.cons rfl (by constructor) (.cons rfl (by constructor) (.cons rfl (by constructor) .nil)))))) rfl rfl (by simp only [List.map_cons,List.map_nil] <;> rfl) rfl ?_;intro b6 hob7
  obtain ⟨HL,hHL⟩:∃ l,UE (!decide (YB=0)) (!decide (l_id=0)) (decide (0<(ZN.length:Int))) Ys (!decide ((⟨ZI,ZS⟩:ZF)=Xf)) (decide (0<(ZL.length:Int)))=l:=⟨_,rfl⟩
  have ho6:=OSl.as9 hob7 (show _=HL.map YQ.segs by rw [← hHL];rfl)
  have hl6:HL.length=6:=by rw [← hHL];rfl
  have n_L6:(HL.map YQ.segs).length=HL.length:=List.length_map ..
  refine YY F.elem126 ?_;refine Zx ?_;refine Zo (Zn (Y_pk [35,34,33,3,2] ?_));refine Xc (Y_pk [35,3,34,33,2] ?_);refine WV (.succ (.succ .zero)) (fun (k:Nat) z=>z=[(35,.int .i64 (k:Int)),(3,.int .i64 (Ut (HL.take k)))]∧k≤6) (fun k=>6-k) (0) (⟨rfl,by omega⟩) ?_
  rintro k _ ⟨rfl,hk⟩
  refine ZK (Zm (l:=[0]) rfl ?_);refine YI ?_;refine Zo (Zn (ZK ?_))
  refine YA rfl (fun hc8=>?_) (fun hc8=>?_)
  ·replace hc8:=dT hc8
   refine YG (Zn (ZK (Xc (ZK (Zm (l:=[0,1,2,3]) rfl ?_)))));refine YR rfl rfl rfl rfl F.elem126 (by rfl) (by omega) (by exact ⟨_,_,rfl⟩) rfl ?_;refine X_load_osl rfl rfl rfl (by assumption) (by repeat first|exact Rem.here _|exact Rem.two|apply Rem.skip|apply Rem.over) (by exact XP (by omega)) F.lay125 rfl rfl rfl ?_
   obtain ⟨⟨h_part,h_is⟩,hk9⟩:∃ h,HL[k]'(by omega)=h:=⟨_,rfl⟩
   refine VA 38 rfl (show _=aggV (YQ.segs ⟨h_part,h_is⟩) from by rw [← hk9];rfl) ?_
   refine YW F.zero125 ?_;intro b9
   refine Yh F.lay125 ?_;refine Zo (Zn (ZK (Zm (l:=[0,1]) rfl ?_)));refine Zk F.foff125_1 ?_;refine ZD F.lay4 ?_;refine Zo (Zn ?_)
   refine YA rfl (fun hc10=>?_) (fun hc10=>?_)
   ·skip
    refine Zm (l:=[0,1,2,3,4]) rfl ?_;refine Zx ?_;refine Zk F.foff125_0 ?_;refine ZD F.lay3 ?_;refine X_bits rfl rfl rfl rfl rfl rfl rfl ?_;refine ZB ?_;refine Zo (XR (Zn (Zm (l:=[0,1]) rfl ?_)));refine XE rfl rfl rfl rfl rfl (by exact Xe (by decide) (by omega)) rfl ?_;refine Zx ?_;refine Zo ?_;refine WO (a':=[(35,_),(3,_)]) (k+1) (.cons (k:=35) rfl (.cons (k:=3) rfl (.cons (k:=34) rfl (.cons (k:=33) rfl (.cons (k:=2) rfl (.nil)))))) (fun w hw=>by first|exact hw|exact hw.c) ?_ ?_
    ·refine ⟨?_,by omega⟩
     rw [usedH_take (by omega),hk9]
     simp only
     rw [show h_is=true from by assumption]
     rfl
    ·omega
   ·skip
    refine YG (XR (Zn (Zm (l:=[0,1]) rfl ?_)));refine XE rfl rfl rfl rfl rfl (by exact Xe (by decide) (by omega)) rfl ?_;refine Zx ?_;refine Zo ?_;refine WO (a':=[(35,_),(3,_)]) (k+1) (.cons (k:=35) rfl (.cons (k:=3) rfl (.cons (k:=34) rfl (.cons (k:=33) rfl (.cons (k:=2) rfl (.nil)))))) (fun w hw=>by first|exact hw|exact hw.c) ?_ ?_
    ·refine ⟨?_,by omega⟩
     rw [usedH_take (by omega),hk9]
     simp only
     rw [show h_is=false from by assumption]
     rfl
    ·omega
  ·replace hc8:=dF hc8
   refine XK ?_
   iterate 2 refine XH ?_
   refine Wh (Zn (Y_pk [3,2] ?_));refine ZK (Zm (l:=[0,1]) rfl ?_);refine Zx ?_;refine ZB ?_;refine Zo (Zn (Y_pk [2] ?_));refine Yo ?_
   refine Yk (.inr rfl) (.tmp rfl .nil) (fun w hw=>?_)
   obtain rfl:k=6:=by omega
   refine ⟨_,rfl,hw.c,?_⟩
   clear hw
   rw [List.take_of_length_le (by omega),← hHL]
   rfl
theorem IsL_ok (M:Mem) (l:ZP) (hl0:ZP.ok M l):Fs Tryz.prog 30 [l.enc] M (fun v=>v=Value.bool (decide (IsLt l.lt))):=by
  obtain ⟨Yb,⟨ZM,Ye⟩,YB,l_id,⟨ZY,ZX,ZN⟩,Ys,⟨ZI,ZS⟩,⟨ZZ,ZV,ZL⟩⟩:=l
  have Xl:SlK M (oneI .i64) 1 ⟨ZY,ZX,ZN⟩:=hl0.h0
  have Vu:SlM M ZY (ZN.map (oneI .i64)) 1:=Xl.h1
  have VK:(ZN.map (oneI .i64)).length=ZN.length:=List.length_map ..
  have Vx:ZN.length≤9223372036854775807:=Xl.h2
  have VM:ZN.length≤ZX:=Xl.h3
  have Xb:SlK M ZF.segs 21 ⟨ZZ,ZV,ZL⟩:=hl0.h1
  have XT:SlM M ZZ (ZL.map ZF.segs) 21:=Xb.h1
  have WR:(ZL.map ZF.segs).length=ZL.length:=List.length_map ..
  have Vw:ZL.length≤9223372036854775807:=Xb.h2
  have WS:ZL.length≤ZV:=Xb.h3
  refine Xv Tryz.func30 rfl Tryz.ntmps30 rfl ?_;intro H
  refine ZK (Zm (l:=[0,1]) rfl ?_)
  refine Xk ?_;intro b1
  refine ZB ?_;refine Zo (Zn (Y_pk [2,1] ?_));refine ZK (Zm (l:=[0,1,2,3,4,5,6,7]) rfl ?_);refine Zk F.foff44_0 ?_;refine ZD F.lay3 ?_;refine X_fs rfl rfl F.ok75 rfl (parts_ok _ _) rfl ?_
  rintro _ rfl
  refine Zx ?_
  iterate 2 refine XU ?_
  iterate 2 refine ZB ?_
  refine Zo (Zn (Y_pk [4,3,2,1] ?_));refine ZK (YK (l:=[0,1,2,3,4]) #[0,1,0,7,15] _ rfl (by kernel_rfl) (by kernel_rfl) St.drawn (fun _ h=>h) ?_);refine Zk F.foff44_6 ?_;refine ZD F.lay25 ?_;refine X_fs rfl rfl F.ok66 rfl (VG _) rfl ?_
  rintro _ rfl
  refine VA 14 rfl (show _=aggV [.one (.int .i64 (-1)),Yt 0] from rfl) ?_
  refine WF (m:=20) rfl rfl rfl rfl rfl (by constructor) (by constructor) F.lay25 F.kinds25 rfl F.guard25 (by exact XL (⟨_,_⟩)) (by exact XL (⟨_,_⟩)) rfl rfl rfl ?_;intro c2 he3
  replace he3:c2=true↔Segs.cells _=Segs.cells _:=he3
  obtain rfl:=eqD he3 (ZF.inj (x:=⟨_,_⟩) (y:=⟨_,_⟩));clear he3
  refine ZB ?_;refine Zo (Zn (Y_pk [5,4,3,2,1] ?_));refine ZK (Xc (ZK (Zm (l:=[0,1,2,3,4,5,6,7,8,9,10,11,12,13,14,15,16,17,18,19,20,21,22,23,24,25,26,27]) rfl ?_)));refine Zx ?_;refine Xj ?_;refine Zx ?_
  refine Yj 19 rfl (fun hc4=>?_) (fun hc4=>?_)
  ·skip
   iterate 5 refine Ya ?_
   refine ZO ?_;refine Zx ?_
   iterate 4 refine Ya ?_
   refine ZO ?_;refine Zx ?_
   iterate 4 refine Ya ?_
   refine ZO ?_;refine Zx ?_
   iterate 4 refine Ya ?_
   refine ZO ?_;refine ZB ?_;refine Zo (Zn (Y_pk [16,5,2,1] ?_));refine Xi rfl ?_;refine ZK (Zm (l:=[0]) rfl ?_);refine ZB ?_;refine Zo (Zn (Y_pk [2,1] ?_));refine Yo (Xh (YS ?_))
   refine Yk (.inr rfl) (.tmp rfl .nil) (fun w hw=>?_)
   refine ⟨_,rfl,(hw.c),?_⟩
   clear hw
   show _=Value.bool (decide ((1≤Yb∧Yb≤8)∧YX ZM∧ZN.length≤16∧ZL.length≤8∧((⟨ZI,ZS⟩:ZF)=Xf∨YX ZI)∧¬((⟨ZI,ZS⟩:ZF)=Xf∧Yb=2)∧(Vo Yb∨YB=0)∧(Yb=1∨l_id=0)∧(Yb=1∨ZN=[])∧(Yb=2∨Ys=false)∧(WU Yb∨(⟨ZI,ZS⟩:ZF)=Xf)∧(Wy Yb∨ZL=[])∧(∀ a∈ZN,YX a)∧∀ p∈ZL,YX p.addr))
   refine congrArg Value.bool ?_
   refine (decide_eq_false (fun h9=>?_)).symm
   obtain ⟨g1,g2,g3,g4,g5,g6,g7,g8,g9,g10,g11,g12,g13,g14⟩:=h9
   have h7:=parts_yes (k:=Yb)
   (have h8:=h7.2 g1;simp_all;done)
  ·skip
   refine ZD F.lay44 ?_;refine X_fs rfl rfl F.ok76 rfl (used_ok _ ⟨Yb,⟨ZM,Ye⟩,YB,l_id,⟨ZY,ZX,ZN⟩,Ys,⟨ZI,ZS⟩,⟨ZZ,ZV,ZL⟩⟩ hl0) rfl ?_
   rintro _ rfl
   refine Zx ?_;refine X_bits rfl rfl rfl rfl rfl rfl rfl ?_;refine YI ?_;refine ZO ?_;refine Zx ?_
   refine Yj 26 rfl (fun hc5=>?_) (fun hc5=>?_)
   ·replace hc5:=nT hc5
    simp only [ZF.eta,ZQ.eta,ZR.eta,ZP.eta,Yr.eta,ZW.eta,YQ.eta,Yc.eta] at hc5
    iterate 4 refine Ya ?_
    refine ZO ?_;refine Zx ?_
    iterate 4 refine Ya ?_
    refine ZO ?_;refine Zx ?_
    iterate 4 refine Ya ?_
    refine ZO ?_;refine ZB ?_;refine Zo (Zn (Y_pk [16,5,2,1] ?_));refine Xi rfl ?_;refine ZK (Zm (l:=[0]) rfl ?_);refine ZB ?_;refine Zo (Zn (Y_pk [2,1] ?_));refine Yo (Xh (YS ?_))
    refine Yk (.inr rfl) (.tmp rfl .nil) (fun w hw=>?_)
    refine ⟨_,rfl,(hw.c),?_⟩
    clear hw
    show _=Value.bool (decide ((1≤Yb∧Yb≤8)∧YX ZM∧ZN.length≤16∧ZL.length≤8∧((⟨ZI,ZS⟩:ZF)=Xf∨YX ZI)∧¬((⟨ZI,ZS⟩:ZF)=Xf∧Yb=2)∧(Vo Yb∨YB=0)∧(Yb=1∨l_id=0)∧(Yb=1∨ZN=[])∧(Yb=2∨Ys=false)∧(WU Yb∨(⟨ZI,ZS⟩:ZF)=Xf)∧(Wy Yb∨ZL=[])∧(∀ a∈ZN,YX a)∧∀ p∈ZL,YX p.addr))
    refine congrArg Value.bool ?_
    refine (decide_eq_false (fun h9=>?_)).symm
    obtain ⟨g1,g2,g3,g4,g5,g6,g7,g8,g9,g10,g11,g12,g13,g14⟩:=h9
    have hp8:(Vr Yb).2=true:=by first|assumption|(have h9:(!(Vr Yb).2)=false:=(by assumption);simpa using h9)
    exact absurd ((used_parts hp8 _ _ _ _ _ _).2 ⟨g7.imp id (fun h=>by simp [h]),g8.imp id (fun h=>by simp [h]),g9.imp id (fun h=>by simp [h]),g10,g11.imp id (fun h=>by simp [h]),g12.imp id (fun h=>by simp [h])⟩) (show ¬notK (Ut (UE (!decide (YB=0)) (!decide (l_id=0)) (decide (0<(ZN.length:Int))) Ys (!decide ((⟨ZI,ZS⟩:ZF)=Xf)) (decide (0<(ZL.length:Int))))) (Vr Yb).1=0 by assumption)
   ·replace hc5:=nF hc5
    simp only [ZF.eta,ZQ.eta,ZR.eta,ZP.eta,Yr.eta,ZW.eta,YQ.eta,Yc.eta] at hc5
    refine Zk F.foff44_1 ?_;refine Zk F.foff25_0 ?_;refine ZD F.lay3 ?_;refine X_fs rfl rfl F.ok77 rfl (lodd_ok _ _) rfl ?_
    rintro _ rfl
    refine ZO ?_;refine Zx ?_
    refine Yj 32 rfl (fun hc6=>?_) (fun hc6=>?_)
    ·replace hc6:=dT hc6
     iterate 4 refine Ya ?_
     refine ZO ?_;refine Zx ?_
     iterate 4 refine Ya ?_
     refine ZO ?_;refine ZB ?_;refine Zo (Zn (Y_pk [16,5,2,1] ?_));refine Xi rfl ?_;refine ZK (Zm (l:=[0]) rfl ?_);refine ZB ?_;refine Zo (Zn (Y_pk [2,1] ?_));refine Yo (Xh (YS ?_))
     refine Yk (.inr rfl) (.tmp rfl .nil) (fun w hw=>?_)
     refine ⟨_,rfl,(hw.c),?_⟩
     clear hw
     show _=Value.bool (decide ((1≤Yb∧Yb≤8)∧YX ZM∧ZN.length≤16∧ZL.length≤8∧((⟨ZI,ZS⟩:ZF)=Xf∨YX ZI)∧¬((⟨ZI,ZS⟩:ZF)=Xf∧Yb=2)∧(Vo Yb∨YB=0)∧(Yb=1∨l_id=0)∧(Yb=1∨ZN=[])∧(Yb=2∨Ys=false)∧(WU Yb∨(⟨ZI,ZS⟩:ZF)=Xf)∧(Wy Yb∨ZL=[])∧(∀ a∈ZN,YX a)∧∀ p∈ZL,YX p.addr))
     refine congrArg Value.bool ?_
     refine (decide_eq_false (fun h9=>?_)).symm
     obtain ⟨g1,g2,g3,g4,g5,g6,g7,g8,g9,g10,g11,g12,g13,g14⟩:=h9
     contradiction
    ·replace hc6:=dF hc6
     simp only [Classical.not_not] at hc6
     refine Zk F.foff44_4 ?_;refine ZD F.lay30 ?_;refine YY F.elem30 ?_;refine YI ?_;refine ZO ?_;refine Zx ?_
     refine Yj 38 rfl (fun hc7=>?_) (fun hc7=>?_)
     ·replace hc7:=dT hc7
      iterate 4 refine Ya ?_
      refine ZO ?_;refine ZB ?_;refine Zo (Zn (Y_pk [16,5,2,1] ?_));refine Xi rfl ?_;refine ZK (Zm (l:=[0]) rfl ?_);refine ZB ?_;refine Zo (Zn (Y_pk [2,1] ?_));refine Yo (Xh (YS ?_))
      refine Yk (.inr rfl) (.tmp rfl .nil) (fun w hw=>?_)
      refine ⟨_,rfl,(hw.c),?_⟩
      clear hw
      show _=Value.bool (decide ((1≤Yb∧Yb≤8)∧YX ZM∧ZN.length≤16∧ZL.length≤8∧((⟨ZI,ZS⟩:ZF)=Xf∨YX ZI)∧¬((⟨ZI,ZS⟩:ZF)=Xf∧Yb=2)∧(Vo Yb∨YB=0)∧(Yb=1∨l_id=0)∧(Yb=1∨ZN=[])∧(Yb=2∨Ys=false)∧(WU Yb∨(⟨ZI,ZS⟩:ZF)=Xf)∧(Wy Yb∨ZL=[])∧(∀ a∈ZN,YX a)∧∀ p∈ZL,YX p.addr))
      refine congrArg Value.bool ?_
      refine (decide_eq_false (fun h9=>?_)).symm
      obtain ⟨g1,g2,g3,g4,g5,g6,g7,g8,g9,g10,g11,g12,g13,g14⟩:=h9
      omega
     ·replace hc7:=dF hc7
      refine Zk F.foff44_7 ?_;refine ZD F.lay26 ?_;refine YY F.elem26 ?_;refine YI ?_;refine ZO ?_;refine ZB ?_;refine Zo (Zn (Y_pk [16,5,2,1] ?_))
      refine YA rfl (fun hc8=>?_) (fun hc8=>?_)
      ·replace hc8:=dT hc8
       refine ZK (Zm (l:=[0]) rfl ?_);refine ZB ?_;refine Zo (Zn (Y_pk [2,1] ?_));refine Yo (Xh (YS ?_))
       refine Yk (.inr rfl) (.tmp rfl .nil) (fun w hw=>?_)
       refine ⟨_,rfl,(hw.c),?_⟩
       clear hw
       show _=Value.bool (decide ((1≤Yb∧Yb≤8)∧YX ZM∧ZN.length≤16∧ZL.length≤8∧((⟨ZI,ZS⟩:ZF)=Xf∨YX ZI)∧¬((⟨ZI,ZS⟩:ZF)=Xf∧Yb=2)∧(Vo Yb∨YB=0)∧(Yb=1∨l_id=0)∧(Yb=1∨ZN=[])∧(Yb=2∨Ys=false)∧(WU Yb∨(⟨ZI,ZS⟩:ZF)=Xf)∧(Wy Yb∨ZL=[])∧(∀ a∈ZN,YX a)∧∀ p∈ZL,YX p.addr))
       refine congrArg Value.bool ?_
       refine (decide_eq_false (fun h9=>?_)).symm
       obtain ⟨g1,g2,g3,g4,g5,g6,g7,g8,g9,g10,g11,g12,g13,g14⟩:=h9
       omega
      ·replace hc8:=dF hc8
       refine ZK (Zm (l:=[0,1,2,3,4,5,6,7,8,9,10,11,12,13,14,15,16]) rfl ?_)
       iterate 2 refine Zx ?_
       refine Yj 46 rfl (fun hc9=>?_) (fun hc9=>?_)
       ·replace hc9:=dT hc9
        refine Zk F.foff44_0 ?_;refine ZD F.lay3 ?_;refine YI ?_;refine ZO ?_;refine Zx ?_
        refine Yj 51 rfl (fun hc10=>?_) (fun hc10=>?_)
        ·replace hc10:=dT hc10
         iterate 8 refine Ya ?_
         refine ZO ?_;refine ZB ?_;refine Zo (Zn (Y_pk [44,2,1] ?_));refine Xi rfl ?_;refine ZK (Zm (l:=[0]) rfl ?_);refine ZB ?_;refine Zo (Zn (Y_pk [2,1] ?_));refine Yo (Xh (YS ?_))
         refine Yk (.inr rfl) (.tmp rfl .nil) (fun w hw=>?_)
         refine ⟨_,rfl,(hw.c),?_⟩
         clear hw
         show _=Value.bool (decide ((1≤Yb∧Yb≤8)∧YX ZM∧ZN.length≤16∧ZL.length≤8∧((⟨ZI,ZS⟩:ZF)=Xf∨YX ZI)∧¬((⟨ZI,ZS⟩:ZF)=Xf∧Yb=2)∧(Vo Yb∨YB=0)∧(Yb=1∨l_id=0)∧(Yb=1∨ZN=[])∧(Yb=2∨Ys=false)∧(WU Yb∨(⟨ZI,ZS⟩:ZF)=Xf)∧(Wy Yb∨ZL=[])∧(∀ a∈ZN,YX a)∧∀ p∈ZL,YX p.addr))
         refine congrArg Value.bool ?_
         refine (decide_eq_false (fun h9=>?_)).symm
         obtain ⟨g1,g2,g3,g4,g5,g6,g7,g8,g9,g10,g11,g12,g13,g14⟩:=h9
         (simp_all [YX];done)
        ·replace hc10:=dF hc10
         refine Zx ?_;refine Xj ?_;refine Zx ?_
         refine Yj 54 rfl (fun hc11=>?_) (fun hc11=>?_)
         ·replace hc11:=nT hc11
          contradiction
         ·replace hc11:=nF hc11
          iterate 4 refine Ya ?_
          iterate 2 refine ZO ?_
          refine ZB ?_;refine Zo (Zn (Y_pk [44,2,1] ?_));refine Wn rfl ?_;refine YG (XR (Zn (Y_pk [2,1] ?_)));refine ZK (Zm (l:=[0,1,2,3,4,5,6,7,8,9,10]) rfl ?_);refine Zk F.foff44_4 ?_;refine ZD F.lay30 ?_;refine X_fo rfl rfl F.ok71 rfl ((ContainsFI_rd M [] ⟨ZY,ZX,ZN⟩ 77 [] (fun a=>decide (¬(0≤a∧a≤999))) (Vu.rd []) Vx F.ok77 (fun x hx=>(lodd_ok M x).foE []))) (by repeat first|exact Rem.here _|exact Rem.two|apply Rem.skip|apply Rem.over) (YV rfl) ?_
          rintro _ M1 _ ⟨hM1,rfl⟩;subst M1
          refine Xj ?_;refine Zx ?_
          refine Yj 65 rfl (fun hc14=>?_) (fun hc14=>?_)
          ·skip
           simp only [ZF.eta,ZQ.eta,ZR.eta,ZP.eta,Yr.eta,ZW.eta,YQ.eta,Yc.eta] at hc14
           refine Zk F.foff44_7 ?_;refine ZD F.lay26 ?_;refine X_fo rfl rfl F.ok78 rfl ((ContainsFP_rd M [] ⟨ZZ,ZV,ZL⟩ 79 [] (fun p=>decide (¬YX p.addr)) (XT.rd []) Vw F.ok79 (fun x hx=>(loddP_ok M x).foE []))) (by repeat first|exact Rem.here _|exact Rem.two|apply Rem.skip|apply Rem.over) (YV rfl) ?_
           rintro _ M1 _ ⟨hM1,rfl⟩;subst M1
           refine Xj ?_;refine ZO ?_;refine ZB ?_;refine Zo (Zn (Y_pk [2] ?_));refine Yo ?_
           refine Yk (.inr rfl) (.tmp rfl .nil) (fun w hw=>?_)
           refine ⟨_,rfl,(hw.c),?_⟩
           clear hw
           have hp8:(Vr Yb).2=true:=by first|assumption|(have h9:(!(Vr Yb).2)=false:=(by assumption);simpa using h9)
           have hp9:=parts_yes.1 hp8
           have hu9:=(used_parts hp8 _ _ _ _ _ _).1 (show notK (Ut (UE (!decide (YB=0)) (!decide (l_id=0)) (decide (0<(ZN.length:Int))) Ys (!decide ((⟨ZI,ZS⟩:ZF)=Xf)) (decide (0<(ZL.length:Int))))) (Vr Yb).1=0 by assumption)
           simp only [decide_eq_false_iff_not,Bool.not_eq_false',decide_eq_true_eq] at hu9
           obtain ⟨u1,u2,u3,u4,u5,u6⟩:=hu9
           have u3:Yb=1∨ZN=[]:=u3.imp id (fun h=>List.eq_nil_of_length_eq_zero (by omega))
           have u6:Wy Yb∨ZL=[]:=u6.imp id (fun h=>List.eq_nil_of_length_eq_zero (by omega))
           show _=Value.bool (decide ((1≤Yb∧Yb≤8)∧YX ZM∧ZN.length≤16∧ZL.length≤8∧((⟨ZI,ZS⟩:ZF)=Xf∨YX ZI)∧¬((⟨ZI,ZS⟩:ZF)=Xf∧Yb=2)∧(Vo Yb∨YB=0)∧(Yb=1∨l_id=0)∧(Yb=1∨ZN=[])∧(Yb=2∨Ys=false)∧(WU Yb∨(⟨ZI,ZS⟩:ZF)=Xf)∧(Wy Yb∨ZL=[])∧(∀ a∈ZN,YX a)∧∀ p∈ZL,YX p.addr))
           refine congrArg Value.bool ?_
           have h6:=any_odd (l:=ZN)
           have h7:=any_oddP (l:=ZL)
           have hA:(ZN.any fun a=>decide (¬(0≤a∧a≤999)))=false:=by first|assumption|(simp_all;done)
           obtain ⟨C,hC⟩:∃ b,(ZL.any fun p=>decide (¬YX p.addr))=b:=⟨_,rfl⟩
           rw [hC] at h7 ⊢
           have hpe:(⟨ZI,ZS⟩:ZF)=Xf∨YX ZI:=by first|exact .inl (by assumption)|exact .inr ⟨by omega,by omega⟩|(simp_all;done)
           have hf2:¬((⟨ZI,ZS⟩:ZF)=Xf∧Yb=2):=by first|(rintro ⟨q1,q2⟩;first|contradiction|omega|(simp_all;done))
           cases C
           ·exact (decide_eq_true ⟨hp9,⟨by omega,by omega⟩,by omega,by omega,hpe,hf2,u1,u2,u3,u4,u5,u6,h6.1 hA,h7.1 rfl⟩).symm
           ·exact (decide_eq_false (fun h9=>by have h8:=h7.2 h9.2.2.2.2.2.2.2.2.2.2.2.2.2;cases h8)).symm
          ·skip
           simp only [ZF.eta,ZQ.eta,ZR.eta,ZP.eta,Yr.eta,ZW.eta,YQ.eta,Yc.eta] at hc14
           iterate 4 refine Ya ?_
           refine ZO ?_;refine ZB ?_;refine Zo (Zn (Y_pk [2] ?_));refine Yo ?_
           refine Yk (.inr rfl) (.tmp rfl .nil) (fun w hw=>?_)
           refine ⟨_,rfl,(hw.c),?_⟩
           clear hw
           show _=Value.bool (decide ((1≤Yb∧Yb≤8)∧YX ZM∧ZN.length≤16∧ZL.length≤8∧((⟨ZI,ZS⟩:ZF)=Xf∨YX ZI)∧¬((⟨ZI,ZS⟩:ZF)=Xf∧Yb=2)∧(Vo Yb∨YB=0)∧(Yb=1∨l_id=0)∧(Yb=1∨ZN=[])∧(Yb=2∨Ys=false)∧(WU Yb∨(⟨ZI,ZS⟩:ZF)=Xf)∧(Wy Yb∨ZL=[])∧(∀ a∈ZN,YX a)∧∀ p∈ZL,YX p.addr))
           refine congrArg Value.bool ?_
           refine (decide_eq_false (fun h9=>?_)).symm
           obtain ⟨g1,g2,g3,g4,g5,g6,g7,g8,g9,g10,g11,g12,g13,g14⟩:=h9
           have h6:=(any_odd (l:=ZN)).2 g13
           have hq:(ZN.any fun a=>decide (¬(0≤a∧a≤999)))=true:=by first|assumption|(have h9:(!(ZN.any fun a=>decide (¬(0≤a∧a≤999))))=false:=(by assumption);simpa using h9)
           exact Bool.noConfusion (h6.symm.trans hq)
       ·replace hc9:=dF hc9
        iterate 3 refine Ya ?_
        refine ZO ?_
        iterate 2 refine Zx ?_
        refine Xj ?_;refine Zx ?_
        refine Yj 54 rfl (fun hc15=>?_) (fun hc15=>?_)
        ·replace hc15:=nT hc15
         refine Zk F.foff44_6 ?_;refine Zk F.foff25_0 ?_;refine ZD F.lay3 ?_;refine X_fs rfl rfl F.ok77 rfl (lodd_ok _ _) rfl ?_
         rintro _ rfl
         iterate 2 refine ZO ?_
         refine ZB ?_;refine Zo (Zn (Y_pk [44,2,1] ?_))
         refine YA rfl (fun hc16=>?_) (fun hc16=>?_)
         ·replace hc16:=dT hc16
          refine ZK (Zm (l:=[0]) rfl ?_);refine ZB ?_;refine Zo (Zn (Y_pk [2,1] ?_));refine Yo (Xh (YS ?_))
          refine Yk (.inr rfl) (.tmp rfl .nil) (fun w hw=>?_)
          refine ⟨_,rfl,(hw.c),?_⟩
          clear hw
          show _=Value.bool (decide ((1≤Yb∧Yb≤8)∧YX ZM∧ZN.length≤16∧ZL.length≤8∧((⟨ZI,ZS⟩:ZF)=Xf∨YX ZI)∧¬((⟨ZI,ZS⟩:ZF)=Xf∧Yb=2)∧(Vo Yb∨YB=0)∧(Yb=1∨l_id=0)∧(Yb=1∨ZN=[])∧(Yb=2∨Ys=false)∧(WU Yb∨(⟨ZI,ZS⟩:ZF)=Xf)∧(Wy Yb∨ZL=[])∧(∀ a∈ZN,YX a)∧∀ p∈ZL,YX p.addr))
          refine congrArg Value.bool ?_
          refine (decide_eq_false (fun h9=>?_)).symm
          obtain ⟨g1,g2,g3,g4,g5,g6,g7,g8,g9,g10,g11,g12,g13,g14⟩:=h9
          (rcases g5 with g5|⟨g51,g52⟩ <;> first|contradiction|omega|(simp_all [Xf];done))
         ·replace hc16:=dF hc16
          simp only [Classical.not_not] at hc16
          refine YG (XR (Zn (Y_pk [2,1] ?_)));refine ZK (Zm (l:=[0,1,2,3,4,5,6,7,8,9,10]) rfl ?_);refine Zk F.foff44_4 ?_;refine ZD F.lay30 ?_;refine X_fo rfl rfl F.ok71 rfl ((ContainsFI_rd M [] ⟨ZY,ZX,ZN⟩ 77 [] (fun a=>decide (¬(0≤a∧a≤999))) (Vu.rd []) Vx F.ok77 (fun x hx=>(lodd_ok M x).foE []))) (by repeat first|exact Rem.here _|exact Rem.two|apply Rem.skip|apply Rem.over) (YV rfl) ?_
          rintro _ M1 _ ⟨hM1,rfl⟩;subst M1
          refine Xj ?_;refine Zx ?_
          refine Yj 65 rfl (fun hc17=>?_) (fun hc17=>?_)
          ·skip
           simp only [ZF.eta,ZQ.eta,ZR.eta,ZP.eta,Yr.eta,ZW.eta,YQ.eta,Yc.eta] at hc17
           refine Zk F.foff44_7 ?_;refine ZD F.lay26 ?_;refine X_fo rfl rfl F.ok78 rfl ((ContainsFP_rd M [] ⟨ZZ,ZV,ZL⟩ 79 [] (fun p=>decide (¬YX p.addr)) (XT.rd []) Vw F.ok79 (fun x hx=>(loddP_ok M x).foE []))) (by repeat first|exact Rem.here _|exact Rem.two|apply Rem.skip|apply Rem.over) (YV rfl) ?_
           rintro _ M1 _ ⟨hM1,rfl⟩;subst M1
           refine Xj ?_;refine ZO ?_;refine ZB ?_;refine Zo (Zn (Y_pk [2] ?_));refine Yo ?_
           refine Yk (.inr rfl) (.tmp rfl .nil) (fun w hw=>?_)
           refine ⟨_,rfl,(hw.c),?_⟩
           clear hw
           have hp8:(Vr Yb).2=true:=by first|assumption|(have h9:(!(Vr Yb).2)=false:=(by assumption);simpa using h9)
           have hp9:=parts_yes.1 hp8
           have hu9:=(used_parts hp8 _ _ _ _ _ _).1 (show notK (Ut (UE (!decide (YB=0)) (!decide (l_id=0)) (decide (0<(ZN.length:Int))) Ys (!decide ((⟨ZI,ZS⟩:ZF)=Xf)) (decide (0<(ZL.length:Int))))) (Vr Yb).1=0 by assumption)
           simp only [decide_eq_false_iff_not,Bool.not_eq_false',decide_eq_true_eq] at hu9
           obtain ⟨u1,u2,u3,u4,u5,u6⟩:=hu9
           have u3:Yb=1∨ZN=[]:=u3.imp id (fun h=>List.eq_nil_of_length_eq_zero (by omega))
           have u6:Wy Yb∨ZL=[]:=u6.imp id (fun h=>List.eq_nil_of_length_eq_zero (by omega))
           show _=Value.bool (decide ((1≤Yb∧Yb≤8)∧YX ZM∧ZN.length≤16∧ZL.length≤8∧((⟨ZI,ZS⟩:ZF)=Xf∨YX ZI)∧¬((⟨ZI,ZS⟩:ZF)=Xf∧Yb=2)∧(Vo Yb∨YB=0)∧(Yb=1∨l_id=0)∧(Yb=1∨ZN=[])∧(Yb=2∨Ys=false)∧(WU Yb∨(⟨ZI,ZS⟩:ZF)=Xf)∧(Wy Yb∨ZL=[])∧(∀ a∈ZN,YX a)∧∀ p∈ZL,YX p.addr))
           refine congrArg Value.bool ?_
           have h6:=any_odd (l:=ZN)
           have h7:=any_oddP (l:=ZL)
           have hA:(ZN.any fun a=>decide (¬(0≤a∧a≤999)))=false:=by first|assumption|(simp_all;done)
           obtain ⟨C,hC⟩:∃ b,(ZL.any fun p=>decide (¬YX p.addr))=b:=⟨_,rfl⟩
           rw [hC] at h7 ⊢
           have hpe:(⟨ZI,ZS⟩:ZF)=Xf∨YX ZI:=by first|exact .inl (by assumption)|exact .inr ⟨by omega,by omega⟩|(simp_all;done)
           have hf2:¬((⟨ZI,ZS⟩:ZF)=Xf∧Yb=2):=by first|(rintro ⟨q1,q2⟩;first|contradiction|omega|(simp_all;done))
           cases C
           ·exact (decide_eq_true ⟨hp9,⟨by omega,by omega⟩,by omega,by omega,hpe,hf2,u1,u2,u3,u4,u5,u6,h6.1 hA,h7.1 rfl⟩).symm
           ·exact (decide_eq_false (fun h9=>by have h8:=h7.2 h9.2.2.2.2.2.2.2.2.2.2.2.2.2;cases h8)).symm
          ·skip
           simp only [ZF.eta,ZQ.eta,ZR.eta,ZP.eta,Yr.eta,ZW.eta,YQ.eta,Yc.eta] at hc17
           iterate 4 refine Ya ?_
           refine ZO ?_;refine ZB ?_;refine Zo (Zn (Y_pk [2] ?_));refine Yo ?_
           refine Yk (.inr rfl) (.tmp rfl .nil) (fun w hw=>?_)
           refine ⟨_,rfl,(hw.c),?_⟩
           clear hw
           show _=Value.bool (decide ((1≤Yb∧Yb≤8)∧YX ZM∧ZN.length≤16∧ZL.length≤8∧((⟨ZI,ZS⟩:ZF)=Xf∨YX ZI)∧¬((⟨ZI,ZS⟩:ZF)=Xf∧Yb=2)∧(Vo Yb∨YB=0)∧(Yb=1∨l_id=0)∧(Yb=1∨ZN=[])∧(Yb=2∨Ys=false)∧(WU Yb∨(⟨ZI,ZS⟩:ZF)=Xf)∧(Wy Yb∨ZL=[])∧(∀ a∈ZN,YX a)∧∀ p∈ZL,YX p.addr))
           refine congrArg Value.bool ?_
           refine (decide_eq_false (fun h9=>?_)).symm
           obtain ⟨g1,g2,g3,g4,g5,g6,g7,g8,g9,g10,g11,g12,g13,g14⟩:=h9
           have h6:=(any_odd (l:=ZN)).2 g13
           have hq:(ZN.any fun a=>decide (¬(0≤a∧a≤999)))=true:=by first|assumption|(have h9:(!(ZN.any fun a=>decide (¬(0≤a∧a≤999))))=false:=(by assumption);simpa using h9)
           exact Bool.noConfusion (h6.symm.trans hq)
        ·replace hc15:=nF hc15
         contradiction
end Go.Proofs.YtajmnjefajknoaaGreat
namespace Go.Proofs.YtajmnjefajknoaaGreat
open Go.Esp
theorem F.bld119:Bld Tryz.prog 119 [[.one (.bool false)],[.one (.bool false)],[.one (.bool false)],[.one (.bool false)],[.one (.bool false)],[.one (.bool false)]]:=⟨by kernel_rfl,by kernel_rfl⟩
theorem F.foff119_0:foff Tryz.prog 119 0=some 0:=by kernel_rfl
theorem F.foff119_1:foff Tryz.prog 119 1=some 1:=by kernel_rfl
theorem F.foff119_2:foff Tryz.prog 119 2=some 2:=by kernel_rfl
theorem F.foff119_3:foff Tryz.prog 119 3=some 3:=by kernel_rfl
theorem F.foff119_4:foff Tryz.prog 119 4=some 4:=by kernel_rfl
theorem F.foff119_5:foff Tryz.prog 119 5=some 5:=by kernel_rfl
theorem F.lay119:lay Tryz.prog 119=some (true,6):=by kernel_rfl
theorem F.ok109:okFn Tryz.prog 109=true:=by kernel_rfl
theorem F.ok110:okFn Tryz.prog 110=true:=by kernel_rfl
theorem F.zero119:WH Tryz.prog 119=some (aggV [.one (.bool false),.one (.bool false),.one (.bool false),.one (.bool false),.one (.bool false),.one (.bool false)]):=by kernel_rfl
theorem Of_ok (M:Mem) (k:Int):Fs Tryz.prog 109 [.int .i64 k] M (fun v=>v=(partsR k).enc):=by
  refine Xv Tryz.func109 rfl Tryz.ntmps109 rfl ?_;intro H
  refine ZK (Zm (l:=[0]) rfl ?_)
  refine YW F.zero119 ?_;intro b1
  refine Zo (Zn ?_)
  iterate 2 refine ZK ?_
  refine Zm (l:=[0]) rfl ?_;refine Zx ?_;refine Zo (Zn (Y_pk [3,2] ?_));refine Xc (ZK (Zm (l:=[0,1]) rfl ?_));refine YI ?_;refine ZB ?_;refine Zo (Zn (Y_pk [4,3,2] ?_))
  refine YA rfl (fun hc2=>?_) (fun hc2=>?_)
  ·replace hc2:=dT hc2
   refine ZK (Zm (l:=[0,1]) rfl ?_);refine Xr rfl rfl F.bld119 (.cons rfl (by constructor) (.cons rfl (by constructor) (.cons rfl (by constructor) .nil))) rfl rfl ?_;refine Yh F.lay119 ?_;refine Zo (Zn (Y_pk [2] ?_));refine Yo (Xh (YS ?_))
   refine Yk (.inr rfl) (.cell rfl (by repeat first|exact List.Mem.head _|refine List.Mem.tail _ ?_|refine List.mem_append_right _ ?_) F.lay119 rfl rfl .nil) (fun w hw=>?_)
   refine ⟨_,rfl,hw.c,?_⟩
   clear hw
   (subst_vars;rfl)
  ·replace hc2:=dF hc2
   refine ZK (Zm (l:=[0,1]) rfl ?_);refine YI ?_;refine ZB ?_;refine Zo (Zn (Y_pk [7,3,2] ?_))
   refine YA rfl (fun hc3=>?_) (fun hc3=>?_)
   ·replace hc3:=dT hc3
    refine ZK (Zm (l:=[0,1]) rfl ?_);refine Xr rfl rfl F.bld119 (.cons rfl (by constructor) (.cons rfl (by constructor) (.cons rfl (by constructor) .nil))) rfl rfl ?_;refine Yh F.lay119 ?_;refine Zo (Zn (Y_pk [2] ?_));refine Yo (Xh (YS ?_))
    refine Yk (.inr rfl) (.cell rfl (by repeat first|exact List.Mem.head _|refine List.Mem.tail _ ?_|refine List.mem_append_right _ ?_) F.lay119 rfl rfl .nil) (fun w hw=>?_)
    refine ⟨_,rfl,hw.c,?_⟩
    clear hw
    (subst_vars;rfl)
   ·replace hc3:=dF hc3
    iterate 2 refine ZK ?_
    refine Zm (l:=[0,1]) rfl ?_;refine YI ?_;refine ZB ?_;refine Zo (Zn (Y_pk [10,3,2] ?_))
    refine C_part 10 rfl (fun hc4=>?_) (fun hc4=>?_)
    ·replace hc4:=dT hc4
     refine Xi rfl ?_;refine YG (Zn (Xi rfl ?_));refine ZK (Zm (l:=[0,1]) rfl ?_);refine Xr rfl rfl F.bld119 (.cons rfl (by constructor) .nil) rfl rfl ?_;refine Yh F.lay119 ?_;refine Zo (Zn (Y_pk [2] ?_));refine Yo (Xh (YS ?_))
     refine Yk (.inr rfl) (.cell rfl (by repeat first|exact List.Mem.head _|refine List.Mem.tail _ ?_|refine List.mem_append_right _ ?_) F.lay119 rfl rfl .nil) (fun w hw=>?_)
     refine ⟨_,rfl,hw.c,?_⟩
     clear hw
     (subst_vars;rfl)
    ·replace hc4:=dF hc4
     refine Wn rfl ?_;refine ZK (Zm (l:=[0,1]) rfl ?_);refine YI ?_;refine ZB ?_;refine Zo (Zn (Y_pk [10,3,2] ?_))
     refine C_part 10 rfl (fun hc5=>?_) (fun hc5=>?_)
     ·replace hc5:=dT hc5
      refine Xi rfl ?_;refine YG (Zn (Xi rfl ?_));refine ZK (Zm (l:=[0,1]) rfl ?_);refine Xr rfl rfl F.bld119 (.cons rfl (by constructor) .nil) rfl rfl ?_;refine Yh F.lay119 ?_;refine Zo (Zn (Y_pk [2] ?_));refine Yo (Xh (YS ?_))
      refine Yk (.inr rfl) (.cell rfl (by repeat first|exact List.Mem.head _|refine List.Mem.tail _ ?_|refine List.mem_append_right _ ?_) F.lay119 rfl rfl .nil) (fun w hw=>?_)
      refine ⟨_,rfl,hw.c,?_⟩
      clear hw
      (subst_vars;rfl)
     ·replace hc5:=dF hc5
      refine Wn rfl ?_;refine Zm (l:=[0,1]) rfl ?_;refine YI ?_;refine ZB ?_;refine Zo (Zn (Y_pk [10,3,2] ?_))
      refine YA rfl (fun hc6=>?_) (fun hc6=>?_)
      ·replace hc6:=dT hc6
       refine ZK (Zm (l:=[0,1]) rfl ?_);refine Xr rfl rfl F.bld119 (.cons rfl (by constructor) .nil) rfl rfl ?_;refine Yh F.lay119 ?_;refine Zo (Zn (Y_pk [2] ?_));refine Yo (Xh (YS ?_))
       refine Yk (.inr rfl) (.cell rfl (by repeat first|exact List.Mem.head _|refine List.Mem.tail _ ?_|refine List.mem_append_right _ ?_) F.lay119 rfl rfl .nil) (fun w hw=>?_)
       refine ⟨_,rfl,hw.c,?_⟩
       clear hw
       (subst_vars;rfl)
      ·replace hc6:=dF hc6
       refine ZK (Zm (l:=[0,1]) rfl ?_);refine YI ?_;refine ZB ?_;refine Zo (Zn (Y_pk [15,3,2] ?_))
       refine YA rfl (fun hc7=>?_) (fun hc7=>?_)
       ·replace hc7:=dT hc7
        refine ZK (Zm (l:=[0,1]) rfl ?_);refine Xr rfl rfl F.bld119 (.cons rfl (by constructor) (.cons rfl (by constructor) (.cons rfl (by constructor) .nil))) rfl rfl ?_;refine Yh F.lay119 ?_;refine Zo (Zn (Y_pk [2] ?_));refine Yo (Xh (YS ?_))
        refine Yk (.inr rfl) (.cell rfl (by repeat first|exact List.Mem.head _|refine List.Mem.tail _ ?_|refine List.mem_append_right _ ?_) F.lay119 rfl rfl .nil) (fun w hw=>?_)
        refine ⟨_,rfl,hw.c,?_⟩
        clear hw
        (subst_vars;rfl)
       ·replace hc7:=dF hc7
        refine ZK (Zm (l:=[0,1]) rfl ?_);refine YI ?_;refine ZB ?_;refine Zo (Zn (Y_pk [18,2] ?_))
        refine YA rfl (fun hc8=>?_) (fun hc8=>?_)
        ·replace hc8:=dT hc8
         refine ZK (Zm (l:=[0,1]) rfl ?_);refine Xr rfl rfl F.bld119 (.cons rfl (by constructor) (.cons rfl (by constructor) .nil)) rfl rfl ?_;refine Yh F.lay119 ?_;refine Zo (Zn (Y_pk [2] ?_));refine Yo (Xh (YS ?_))
         refine Yk (.inr rfl) (.cell rfl (by repeat first|exact List.Mem.head _|refine List.Mem.tail _ ?_|refine List.mem_append_right _ ?_) F.lay119 rfl rfl .nil) (fun w hw=>?_)
         refine ⟨_,rfl,hw.c,?_⟩
         clear hw
         (subst_vars;rfl)
        ·replace hc8:=dF hc8
         refine YG (XR (Zn (Y_pk [2] ?_)));refine ZK (Zm (l:=[0,1]) rfl ?_);refine Xr rfl rfl F.bld119 (.nil) rfl rfl ?_;refine Yh F.lay119 ?_;refine Zo (Zn (Y_pk [2] ?_));refine Yo ?_
         refine Yk (.inr rfl) (.cell rfl (by repeat first|exact List.Mem.head _|refine List.Mem.tail _ ?_|refine List.mem_append_right _ ?_) F.lay119 rfl rfl .nil) (fun w hw=>?_)
         refine ⟨_,rfl,hw.c,?_⟩
         clear hw
         (rw [partsR_no (by omega)];rfl)
theorem laddr_ok (M:Mem) (a:Int):Fs Tryz.prog 110 [.int .i64 a] M (fun v=>v=Value.bool (decide (YX a))):=by
  refine Xv Tryz.func110 rfl Tryz.ntmps110 rfl ?_;intro H
  refine ZK (Zm (l:=[0]) rfl ?_);refine ZB ?_;refine Zo (Zn (ZK (Zm (l:=[0,1,2,3,4,5,6]) rfl ?_)));refine Zx ?_;refine YI ?_;refine Zx ?_
  refine Yj 5 rfl (fun hc1=>?_) (fun hc1=>?_)
  ·replace hc1:=dT hc1
   refine Zx ?_;refine YI ?_;refine ZO ?_;refine ZB ?_;refine Zo (Zn (Y_pk [2] ?_));refine Yo ?_
   refine Yk (.inr rfl) (.tmp rfl .nil) (fun w hw=>?_)
   refine ⟨_,rfl,(hw.c),?_⟩
   clear hw
   refine congrArg Value.bool ?_
   exact decide_eq_decide.2 ⟨fun h9=>⟨by omega,h9⟩,fun h9=>h9.2⟩
  ·replace hc1:=dF hc1
   iterate 2 refine Ya ?_
   refine ZO ?_;refine ZB ?_;refine Zo (Zn (Y_pk [2] ?_));refine Yo ?_
   refine Yk (.inr rfl) (.tmp rfl .nil) (fun w hw=>?_)
   refine ⟨_,rfl,(hw.c),?_⟩
   clear hw
   refine congrArg Value.bool ?_
   exact (decide_eq_false (fun h9=>by obtain ⟨h8,h7⟩:=h9;omega)).symm
theorem rIsL_ok (M:Mem) (l:ZP) (hl0:ZP.ok M l):Fs Tryz.prog 54 [l.enc] M (fun v=>v=Value.bool (decide (IsLt l.lt))):=by
  obtain ⟨Yb,⟨ZM,Ye⟩,YB,l_id,⟨ZY,ZX,ZN⟩,Ys,⟨ZI,ZS⟩,⟨ZZ,ZV,ZL⟩⟩:=l
  have Xl:SlK M (oneI .i64) 1 ⟨ZY,ZX,ZN⟩:=hl0.h0
  have Vu:SlM M ZY (ZN.map (oneI .i64)) 1:=Xl.h1
  have VK:(ZN.map (oneI .i64)).length=ZN.length:=List.length_map ..
  have Vx:ZN.length≤9223372036854775807:=Xl.h2
  have VM:ZN.length≤ZX:=Xl.h3
  have Xb:SlK M ZF.segs 21 ⟨ZZ,ZV,ZL⟩:=hl0.h1
  have XT:SlM M ZZ (ZL.map ZF.segs) 21:=Xb.h1
  have WR:(ZL.map ZF.segs).length=ZL.length:=List.length_map ..
  have Vw:ZL.length≤9223372036854775807:=Xb.h2
  have WS:ZL.length≤ZV:=Xb.h3
  refine Xv Tryz.func54 rfl Tryz.ntmps54 rfl ?_;intro H
  refine ZK (Zm (l:=[0,1]) rfl ?_)
  refine Xk ?_;intro b1
  refine ZB ?_;refine Zo (Zn (Y_pk [2,1] ?_));refine ZK (Zm (l:=[0,1,2,3,4]) rfl ?_);refine Zk F.foff44_0 ?_;refine ZD F.lay3 ?_;refine X_fs rfl rfl F.ok109 rfl (Of_ok _ _) rfl ?_
  rintro _ rfl
  refine YW F.zero119 ?_;intro b2
  refine Yh F.lay119 ?_;refine Zo (Zn (Y_pk [3,2,1] ?_));refine ZK (YK (l:=[0,1,2,3,4]) #[0,1,0,7,15] _ rfl (by kernel_rfl) (by kernel_rfl) St.drawn (fun _ h=>h) ?_);refine Zk F.foff44_6 ?_;refine ZD F.lay25 ?_;refine X_fs rfl rfl F.ok67 rfl (rNone_ok _) rfl ?_
  rintro _ rfl
  refine VA 12 rfl (show _=aggV [.one (.int .i64 (-1)),Yt 0] from rfl) ?_
  refine WF (m:=20) rfl rfl rfl rfl rfl (by constructor) (by constructor) F.lay25 F.kinds25 rfl F.guard25 (by exact XL (⟨_,_⟩)) (by exact XL (⟨_,_⟩)) rfl rfl rfl ?_;intro c3 he4
  replace he4:c3=true↔Segs.cells _=Segs.cells _:=he4
  obtain rfl:=eqD he4 (ZF.inj (x:=⟨_,_⟩) (y:=⟨_,_⟩));clear he4
  refine ZB ?_;refine Zo (Zn (Y_pk [4,3,2,1] ?_))
  iterate 2 refine ZK ?_
  refine C_cutX (α:=Bool) (fun b:Bool=>[(59,.bool b)]) (fun b:Bool=>(b=false↔((1≤Yb∧Yb≤8)∧YX ZM∧ZN.length≤16∧ZL.length≤8∧((⟨ZI,ZS⟩:ZF)=Xf∨YX ZI)∧¬((⟨ZI,ZS⟩:ZF)=Xf∧Yb=2)))) (.cons (k:=4) rfl (.cons (k:=3) rfl (.cons (k:=2) rfl (.cons (k:=1) rfl .nil)))) ?_ ?_
  ·skip
   refine Zm (l:=[0,1,2,3,4,5,6,7,8,9,10,11,12,13,14,15,16,17,18,19,20,21,22,23,24,25,26,27,28,29,30,31,32,33,34,35,36,37,38,39,40,41,42,43,44,45]) rfl ?_;refine Zk F.foff44_0 ?_;refine ZD F.lay3 ?_;refine YI ?_;refine Zx ?_
   refine Yj 17 rfl (fun hc5=>?_) (fun hc5=>?_)
   ·replace hc5:=dT hc5
    iterate 3 refine Ya ?_
    refine ZO ?_;refine Zx ?_
    iterate 5 refine Ya ?_
    refine ZO ?_;refine Zx ?_
    iterate 4 refine Ya ?_
    refine ZO ?_;refine Zx ?_
    iterate 4 refine Ya ?_
    refine ZO ?_;refine Zx ?_
    iterate 9 refine Ya ?_
    refine ZO ?_;refine Zx ?_
    iterate 6 refine Ya ?_
    refine ZO ?_;refine Zo ?_
    exact XS (_) ((by
     constructor
     ·intro h9
      (cases h9;done)
     ·rintro ⟨g1,g2,g3,g4,g5,g6⟩
      (exfalso;omega))) (.cons (k:=59) rfl (.cons (k:=4) rfl (.cons (k:=3) rfl (.cons (k:=2) rfl (.cons (k:=1) rfl .nil))))) (fun w hw=>by first|exact hw|exact hw.c)
   ·replace hc5:=dF hc5
    refine Zk F.foff44_0 ?_;refine ZD F.lay3 ?_;refine YI ?_;refine ZO ?_;refine Zx ?_
    refine Yj 22 rfl (fun hc6=>?_) (fun hc6=>?_)
    ·replace hc6:=dT hc6
     iterate 5 refine Ya ?_
     refine ZO ?_;refine Zx ?_
     iterate 4 refine Ya ?_
     refine ZO ?_;refine Zx ?_
     iterate 4 refine Ya ?_
     refine ZO ?_;refine Zx ?_
     iterate 9 refine Ya ?_
     refine ZO ?_;refine Zx ?_
     iterate 6 refine Ya ?_
     refine ZO ?_;refine Zo ?_
     exact XS (_) ((by
      constructor
      ·intro h9
       (cases h9;done)
      ·rintro ⟨g1,g2,g3,g4,g5,g6⟩
       (exfalso;omega))) (.cons (k:=59) rfl (.cons (k:=4) rfl (.cons (k:=3) rfl (.cons (k:=2) rfl (.cons (k:=1) rfl .nil))))) (fun w hw=>by first|exact hw|exact hw.c)
    ·replace hc6:=dF hc6
     refine Zk F.foff44_1 ?_;refine Zk F.foff25_0 ?_;refine ZD F.lay3 ?_;refine X_fs rfl rfl F.ok110 rfl (laddr_ok _ _) rfl ?_
     rintro _ rfl
     refine Xj ?_;refine ZO ?_;refine Zx ?_
     refine Yj 29 rfl (fun hc7=>?_) (fun hc7=>?_)
     ·replace hc7:=nT hc7
      iterate 4 refine Ya ?_
      refine ZO ?_;refine Zx ?_
      iterate 4 refine Ya ?_
      refine ZO ?_;refine Zx ?_
      iterate 9 refine Ya ?_
      refine ZO ?_;refine Zx ?_
      iterate 6 refine Ya ?_
      refine ZO ?_;refine Zo ?_
      exact XS (_) ((by
       constructor
       ·intro h9
        (cases h9;done)
       ·rintro ⟨g1,g2,g3,g4,g5,g6⟩
        contradiction)) (.cons (k:=59) rfl (.cons (k:=4) rfl (.cons (k:=3) rfl (.cons (k:=2) rfl (.cons (k:=1) rfl .nil))))) (fun w hw=>by first|exact hw|exact hw.c)
     ·replace hc7:=nF hc7
      refine Zk F.foff44_4 ?_;refine ZD F.lay30 ?_;refine YY F.elem30 ?_;refine YI ?_;refine ZO ?_;refine Zx ?_
      refine Yj 35 rfl (fun hc8=>?_) (fun hc8=>?_)
      ·replace hc8:=dT hc8
       iterate 4 refine Ya ?_
       refine ZO ?_;refine Zx ?_
       iterate 9 refine Ya ?_
       refine ZO ?_;refine Zx ?_
       iterate 6 refine Ya ?_
       refine ZO ?_;refine Zo ?_
       exact XS (_) ((by
        constructor
        ·intro h9
         (cases h9;done)
        ·rintro ⟨g1,g2,g3,g4,g5,g6⟩
         (exfalso;omega))) (.cons (k:=59) rfl (.cons (k:=4) rfl (.cons (k:=3) rfl (.cons (k:=2) rfl (.cons (k:=1) rfl .nil))))) (fun w hw=>by first|exact hw|exact hw.c)
      ·replace hc8:=dF hc8
       refine Zk F.foff44_7 ?_;refine ZD F.lay26 ?_;refine YY F.elem26 ?_;refine YI ?_;refine ZO ?_;refine Zx ?_
       refine Yj 41 rfl (fun hc9=>?_) (fun hc9=>?_)
       ·replace hc9:=dT hc9
        iterate 9 refine Ya ?_
        refine ZO ?_;refine Zx ?_
        iterate 6 refine Ya ?_
        refine ZO ?_;refine Zo ?_
        exact XS (_) ((by
         constructor
         ·intro h9
          (cases h9;done)
         ·rintro ⟨g1,g2,g3,g4,g5,g6⟩
          (exfalso;omega))) (.cons (k:=59) rfl (.cons (k:=4) rfl (.cons (k:=3) rfl (.cons (k:=2) rfl (.cons (k:=1) rfl .nil))))) (fun w hw=>by first|exact hw|exact hw.c)
       ·replace hc9:=dF hc9
        refine Zx ?_;refine Xj ?_;refine Zx ?_
        refine Yj 44 rfl (fun hc10=>?_) (fun hc10=>?_)
        ·replace hc10:=nT hc10
         refine Zk F.foff44_6 ?_;refine Zk F.foff25_0 ?_;refine ZD F.lay3 ?_;refine X_fs rfl rfl F.ok110 rfl (laddr_ok _ _) rfl ?_
         rintro _ rfl
         refine Xj ?_
         iterate 2 refine ZO ?_
         refine Zx ?_
         refine Yj 52 rfl (fun hc11=>?_) (fun hc11=>?_)
         ·replace hc11:=nT hc11
          iterate 6 refine Ya ?_
          refine ZO ?_;refine Zo ?_
          exact XS (_) ((by
           constructor
           ·intro h9
            (cases h9;done)
           ·rintro ⟨g1,g2,g3,g4,g5,g6⟩
            (rcases g5 with g5|g5 <;> first|contradiction|(exfalso;simp_all [Xf];done)))) (.cons (k:=59) rfl (.cons (k:=4) rfl (.cons (k:=3) rfl (.cons (k:=2) rfl (.cons (k:=1) rfl .nil))))) (fun w hw=>by first|exact hw|exact hw.c)
         ·replace hc11:=nF hc11
          iterate 2 refine Zx ?_
          refine Yj 54 rfl (fun hc12=>?_) (fun hc12=>?_)
          ·replace hc12:=dT hc12
           contradiction
          ·replace hc12:=dF hc12
           iterate 3 refine Ya ?_
           iterate 2 refine ZO ?_
           refine Zo ?_
           exact XS (_) ((by
            constructor
            ·intro h9
             exact ⟨⟨by omega,by omega⟩,by assumption,by omega,by omega,(by exact .inr (by assumption)),(by rintro ⟨q1,q2⟩;first|contradiction|omega|(simp_all;done))⟩
            ·rintro ⟨g1,g2,g3,g4,g5,g6⟩
             rfl)) (.cons (k:=59) rfl (.cons (k:=4) rfl (.cons (k:=3) rfl (.cons (k:=2) rfl (.cons (k:=1) rfl .nil))))) (fun w hw=>by first|exact hw|exact hw.c)
        ·replace hc10:=nF hc10
         iterate 5 refine Ya ?_
         iterate 2 refine ZO ?_
         iterate 3 refine Zx ?_
         refine Yj 54 rfl (fun hc13=>?_) (fun hc13=>?_)
         ·replace hc13:=dT hc13
          refine Zk F.foff44_0 ?_;refine ZD F.lay3 ?_;refine YI ?_
          iterate 2 refine ZO ?_
          refine Zo ?_
          exact XS (_) ((by
           constructor
           ·intro h9
            exact ⟨⟨by omega,by omega⟩,by assumption,by omega,by omega,(by exact .inl (by assumption)),(by rintro ⟨q1,q2⟩;first|contradiction|omega|(simp_all;done))⟩
           ·rintro ⟨g1,g2,g3,g4,g5,g6⟩
            (refine decide_eq_false (fun q2=>g6 ⟨?_,q2⟩);first|assumption|(simp_all;done)))) (.cons (k:=59) rfl (.cons (k:=4) rfl (.cons (k:=3) rfl (.cons (k:=2) rfl (.cons (k:=1) rfl .nil))))) (fun w hw=>by first|exact hw|exact hw.c)
         ·replace hc13:=dF hc13
          contradiction
  ·rintro b59 hb59
   refine YA rfl (fun hc14=>?_) (fun hc14=>?_)
   ·skip
    refine ZK (Zm (l:=[0]) rfl ?_);refine ZB ?_;refine Zo (Zn (Y_pk [2,4,3,1] ?_));refine Yo (YS ?_)
    refine Yk (.inr rfl) (.tmp rfl .nil) (fun w hw=>?_)
    refine ⟨_,rfl,(hw.c),?_⟩
    clear hw
    show _=Value.bool (decide ((1≤Yb∧Yb≤8)∧YX ZM∧ZN.length≤16∧ZL.length≤8∧((⟨ZI,ZS⟩:ZF)=Xf∨YX ZI)∧¬((⟨ZI,ZS⟩:ZF)=Xf∧Yb=2)∧(Vo Yb∨YB=0)∧(Yb=1∨l_id=0)∧(Yb=1∨ZN=[])∧(Yb=2∨Ys=false)∧(WU Yb∨(⟨ZI,ZS⟩:ZF)=Xf)∧(Wy Yb∨ZL=[])∧(∀ a∈ZN,YX a)∧∀ p∈ZL,YX p.addr))
    refine congrArg Value.bool ?_
    refine (decide_eq_false (fun h9=>?_)).symm
    obtain ⟨g1,g2,g3,g4,g5,g6,g7,g8,g9,g10,g11,g12,g13,g14⟩:=h9
    have h8:b59=true:=by assumption
    have h7:=hb59.2 ⟨g1,g2,g3,g4,g5,g6⟩
    rw [h8] at h7;cases h7
   ·skip
    refine YG (Zn (Y_pk [4,3,2,1] ?_))
    iterate 2 refine ZK ?_
    refine C_cutX (α:=Bool) (fun b:Bool=>[(118,.bool b)]) (fun b:Bool=>(b=false↔((Vo Yb∨YB=0)∧(Yb=1∨l_id=0)∧(Yb=1∨ZN=[])∧(Yb=2∨Ys=false)∧(WU Yb∨(⟨ZI,ZS⟩:ZF)=Xf)∧(Wy Yb∨ZL=[])))) (.cons (k:=2) rfl (.cons (k:=1) rfl .nil)) ?_ ?_
    ·skip
     refine Zm (l:=[0,1,2,3,4,5,6,7,8,9,10,11,12,13,14,15,16,17,18,19,20,21,22,23,24,25,26,27,28,29,30,31,32,33,34,35,36,37,38,39,40,41,42,43,44,45,46,47,48,49,50,51,52,53,54,55,56,57,58]) rfl ?_;refine Zk F.foff119_0 ?_;refine ZD F.lay4 ?_;refine Xj ?_;refine Zx ?_
     refine Yj 63 rfl (fun hc15=>?_) (fun hc15=>?_)
     ·replace hc15:=nT hc15
      refine Zk F.foff44_2 ?_;refine ZD F.lay29 ?_;refine YI ?_;refine ZO ?_;refine Zx ?_
      refine Yj 68 rfl (fun hc16=>?_) (fun hc16=>?_)
      ·replace hc16:=nT hc16
       iterate 9 refine Ya ?_
       refine ZO ?_;refine Zx ?_
       iterate 9 refine Ya ?_
       refine ZO ?_;refine Zx ?_
       iterate 7 refine Ya ?_
       refine ZO ?_;refine Zx ?_
       iterate 7 refine Ya ?_
       refine ZO ?_;refine Zx ?_
       iterate 9 refine Ya ?_
       refine ZO ?_;refine Zo ?_
       exact XS (_) ((by
        constructor
        ·intro h9
         (cases h9;done)
        ·rintro ⟨g1,g2,g3,g4,g5,g6⟩
         (exfalso;simp_all;done))) (.cons (k:=118) rfl (.cons (k:=2) rfl (.cons (k:=1) rfl .nil))) (fun w hw=>by first|exact hw|exact hw.c)
      ·replace hc16:=nF hc16
       refine Zk F.foff119_1 ?_;refine ZD F.lay4 ?_;refine Xj ?_;refine Zx ?_
       refine Yj 72 rfl (fun hc17=>?_) (fun hc17=>?_)
       ·replace hc17:=nT hc17
        refine Zk F.foff44_3 ?_;refine ZD F.lay23 ?_;refine X_build0 rfl rfl F.zero23 F.arr23 rfl ?_
        refine WF (m:=20) rfl rfl rfl rfl rfl (by constructor) (by constructor) F.lay23 F.kinds23 rfl F.guard23 (WZ WE) (WZ WE) rfl rfl rfl ?_;intro c18 he19
        replace he19:c18=true↔¬(Segs.cells _=Segs.cells _):=he19
        obtain rfl:=neD he19 (Vj (x:=_) (y:=_));clear he19
        iterate 2 refine ZO ?_
        refine Zx ?_
        refine Yj 79 rfl (fun hc20=>?_) (fun hc20=>?_)
        ·replace hc20:=nT hc20
         iterate 9 refine Ya ?_
         refine ZO ?_;refine Zx ?_
         iterate 7 refine Ya ?_
         refine ZO ?_;refine Zx ?_
         iterate 7 refine Ya ?_
         refine ZO ?_;refine Zx ?_
         iterate 9 refine Ya ?_
         refine ZO ?_;refine Zo ?_
         exact XS (_) ((by
          constructor
          ·intro h9
           (cases h9;done)
          ·rintro ⟨g1,g2,g3,g4,g5,g6⟩
           (exfalso;simp_all;done))) (.cons (k:=118) rfl (.cons (k:=2) rfl (.cons (k:=1) rfl .nil))) (fun w hw=>by first|exact hw|exact hw.c)
        ·replace hc20:=nF hc20
         refine Zk F.foff119_2 ?_;refine ZD F.lay4 ?_;refine Xj ?_;refine Zx ?_
         refine Yj 83 rfl (fun hc21=>?_) (fun hc21=>?_)
         ·replace hc21:=nT hc21
          refine Zk F.foff44_4 ?_;refine ZD F.lay30 ?_;refine YY F.elem30 ?_;refine YI ?_
          iterate 2 refine ZO ?_
          refine Zx ?_
          refine Yj 90 rfl (fun hc22=>?_) (fun hc22=>?_)
          ·replace hc22:=dT hc22
           iterate 7 refine Ya ?_
           refine ZO ?_;refine Zx ?_
           iterate 7 refine Ya ?_
           refine ZO ?_;refine Zx ?_
           iterate 9 refine Ya ?_
           refine ZO ?_;refine Zo ?_
           exact XS (_) ((by
            constructor
            ·intro h9
             (cases h9;done)
            ·rintro ⟨g1,g2,g3,g4,g5,g6⟩
             (exfalso;simp_all;done))) (.cons (k:=118) rfl (.cons (k:=2) rfl (.cons (k:=1) rfl .nil))) (fun w hw=>by first|exact hw|exact hw.c)
          ·replace hc22:=dF hc22
           refine Zk F.foff119_3 ?_;refine ZD F.lay4 ?_;refine Xj ?_;refine Zx ?_
           refine Yj 94 rfl (fun hc23=>?_) (fun hc23=>?_)
           ·replace hc23:=nT hc23
            refine Zk F.foff44_5 ?_;refine ZD F.lay4 ?_
            iterate 2 refine ZO ?_
            refine Zx ?_
            refine Yj 99 rfl (fun hc24=>?_) (fun hc24=>?_)
            ·skip
             iterate 7 refine Ya ?_
             refine ZO ?_;refine Zx ?_
             iterate 9 refine Ya ?_
             refine ZO ?_;refine Zo ?_
             exact XS (_) ((by
              constructor
              ·intro h9
               (cases h9;done)
              ·rintro ⟨g1,g2,g3,g4,g5,g6⟩
               (exfalso;simp_all;done))) (.cons (k:=118) rfl (.cons (k:=2) rfl (.cons (k:=1) rfl .nil))) (fun w hw=>by first|exact hw|exact hw.c)
            ·skip
             refine Zk F.foff119_4 ?_;refine ZD F.lay4 ?_;refine Xj ?_;refine Zx ?_
             refine Yj 103 rfl (fun hc25=>?_) (fun hc25=>?_)
             ·replace hc25:=nT hc25
              refine Zx ?_;refine Xj ?_
              iterate 2 refine ZO ?_
              refine Zx ?_
              refine Yj 108 rfl (fun hc26=>?_) (fun hc26=>?_)
              ·replace hc26:=nT hc26
               iterate 9 refine Ya ?_
               refine ZO ?_;refine Zo ?_
               exact XS (_) ((by
                constructor
                ·intro h9
                 (cases h9;done)
                ·rintro ⟨g1,g2,g3,g4,g5,g6⟩
                 (exfalso;rcases g5 with g5|g5 <;> first|contradiction|(simp_all [Xf];done)))) (.cons (k:=118) rfl (.cons (k:=2) rfl (.cons (k:=1) rfl .nil))) (fun w hw=>by first|exact hw|exact hw.c)
              ·replace hc26:=nF hc26
               refine Zk F.foff119_5 ?_;refine ZD F.lay4 ?_;refine Xj ?_;refine Zx ?_
               refine Yj 112 rfl (fun hc27=>?_) (fun hc27=>?_)
               ·replace hc27:=nT hc27
                refine Zk F.foff44_7 ?_;refine ZD F.lay26 ?_;refine YY F.elem26 ?_;refine YI ?_
                iterate 2 refine ZO ?_
                refine Zo ?_
                exact XS (_) ((by
                 constructor
                 ·intro h9
                  exact ⟨(by exact .inr (by assumption)),(by exact .inr (by assumption)),(by exact .inr (List.eq_nil_of_length_eq_zero (by omega))),(by exact .inr (by assumption)),(by exact .inr (by assumption)),(by exact .inr (List.eq_nil_of_length_eq_zero (by (have h8:=of_decide_eq_false h9;omega))))⟩
                 ·rintro ⟨g1,g2,g3,g4,g5,g6⟩
                  (rcases g6 with g6|g6 <;> first|contradiction|(subst g6;rfl)|(simp_all;done)))) (.cons (k:=118) rfl (.cons (k:=2) rfl (.cons (k:=1) rfl .nil))) (fun w hw=>by first|exact hw|exact hw.c)
               ·replace hc27:=nF hc27
                iterate 4 refine Ya ?_
                iterate 2 refine ZO ?_
                refine Zo ?_
                exact XS (_) ((by
                 constructor
                 ·intro h9
                  exact ⟨(by exact .inr (by assumption)),(by exact .inr (by assumption)),(by exact .inr (List.eq_nil_of_length_eq_zero (by omega))),(by exact .inr (by assumption)),(by exact .inr (by assumption)),(by exact .inl (by assumption))⟩
                 ·rintro ⟨g1,g2,g3,g4,g5,g6⟩
                  rfl)) (.cons (k:=118) rfl (.cons (k:=2) rfl (.cons (k:=1) rfl .nil))) (fun w hw=>by first|exact hw|exact hw.c)
             ·replace hc25:=nF hc25
              iterate 2 refine Ya ?_
              iterate 2 refine ZO ?_
              refine Zx ?_;refine Zk F.foff119_5 ?_;refine ZD F.lay4 ?_;refine Xj ?_;refine Zx ?_
              refine Yj 112 rfl (fun hc28=>?_) (fun hc28=>?_)
              ·replace hc28:=nT hc28
               refine Zk F.foff44_7 ?_;refine ZD F.lay26 ?_;refine YY F.elem26 ?_;refine YI ?_
               iterate 2 refine ZO ?_
               refine Zo ?_
               exact XS (_) ((by
                constructor
                ·intro h9
                 exact ⟨(by exact .inr (by assumption)),(by exact .inr (by assumption)),(by exact .inr (List.eq_nil_of_length_eq_zero (by omega))),(by exact .inr (by assumption)),(by exact .inl (by assumption)),(by exact .inr (List.eq_nil_of_length_eq_zero (by (have h8:=of_decide_eq_false h9;omega))))⟩
                ·rintro ⟨g1,g2,g3,g4,g5,g6⟩
                 (rcases g6 with g6|g6 <;> first|contradiction|(subst g6;rfl)|(simp_all;done)))) (.cons (k:=118) rfl (.cons (k:=2) rfl (.cons (k:=1) rfl .nil))) (fun w hw=>by first|exact hw|exact hw.c)
              ·replace hc28:=nF hc28
               iterate 4 refine Ya ?_
               iterate 2 refine ZO ?_
               refine Zo ?_
               exact XS (_) ((by
                constructor
                ·intro h9
                 exact ⟨(by exact .inr (by assumption)),(by exact .inr (by assumption)),(by exact .inr (List.eq_nil_of_length_eq_zero (by omega))),(by exact .inr (by assumption)),(by exact .inl (by assumption)),(by exact .inl (by assumption))⟩
                ·rintro ⟨g1,g2,g3,g4,g5,g6⟩
                 rfl)) (.cons (k:=118) rfl (.cons (k:=2) rfl (.cons (k:=1) rfl .nil))) (fun w hw=>by first|exact hw|exact hw.c)
           ·replace hc23:=nF hc23
            iterate 2 refine Ya ?_
            iterate 2 refine ZO ?_
            refine Zx ?_;refine Zk F.foff119_4 ?_;refine ZD F.lay4 ?_;refine Xj ?_;refine Zx ?_
            refine Yj 103 rfl (fun hc29=>?_) (fun hc29=>?_)
            ·replace hc29:=nT hc29
             refine Zx ?_;refine Xj ?_
             iterate 2 refine ZO ?_
             refine Zx ?_
             refine Yj 108 rfl (fun hc30=>?_) (fun hc30=>?_)
             ·replace hc30:=nT hc30
              iterate 9 refine Ya ?_
              refine ZO ?_;refine Zo ?_
              exact XS (_) ((by
               constructor
               ·intro h9
                (cases h9;done)
               ·rintro ⟨g1,g2,g3,g4,g5,g6⟩
                (exfalso;simp_all;done))) (.cons (k:=118) rfl (.cons (k:=2) rfl (.cons (k:=1) rfl .nil))) (fun w hw=>by first|exact hw|exact hw.c)
             ·replace hc30:=nF hc30
              refine Zk F.foff119_5 ?_;refine ZD F.lay4 ?_;refine Xj ?_;refine Zx ?_
              refine Yj 112 rfl (fun hc31=>?_) (fun hc31=>?_)
              ·replace hc31:=nT hc31
               refine Zk F.foff44_7 ?_;refine ZD F.lay26 ?_;refine YY F.elem26 ?_;refine YI ?_
               iterate 2 refine ZO ?_
               refine Zo ?_
               exact XS (_) ((by
                constructor
                ·intro h9
                 exact ⟨(by exact .inr (by assumption)),(by exact .inr (by assumption)),(by exact .inr (List.eq_nil_of_length_eq_zero (by omega))),(by exact .inl (by assumption)),(by exact .inr (by assumption)),(by exact .inr (List.eq_nil_of_length_eq_zero (by (have h8:=of_decide_eq_false h9;omega))))⟩
                ·rintro ⟨g1,g2,g3,g4,g5,g6⟩
                 (exfalso;simp_all;done))) (.cons (k:=118) rfl (.cons (k:=2) rfl (.cons (k:=1) rfl .nil))) (fun w hw=>by first|exact hw|exact hw.c)
              ·replace hc31:=nF hc31
               iterate 4 refine Ya ?_
               iterate 2 refine ZO ?_
               refine Zo ?_
               exact XS (_) ((by
                constructor
                ·intro h9
                 exact ⟨(by exact .inr (by assumption)),(by exact .inr (by assumption)),(by exact .inr (List.eq_nil_of_length_eq_zero (by omega))),(by exact .inl (by assumption)),(by exact .inr (by assumption)),(by exact .inl (by assumption))⟩
                ·rintro ⟨g1,g2,g3,g4,g5,g6⟩
                 rfl)) (.cons (k:=118) rfl (.cons (k:=2) rfl (.cons (k:=1) rfl .nil))) (fun w hw=>by first|exact hw|exact hw.c)
            ·replace hc29:=nF hc29
             iterate 2 refine Ya ?_
             iterate 2 refine ZO ?_
             refine Zx ?_;refine Zk F.foff119_5 ?_;refine ZD F.lay4 ?_;refine Xj ?_;refine Zx ?_
             refine Yj 112 rfl (fun hc32=>?_) (fun hc32=>?_)
             ·replace hc32:=nT hc32
              refine Zk F.foff44_7 ?_;refine ZD F.lay26 ?_;refine YY F.elem26 ?_;refine YI ?_
              iterate 2 refine ZO ?_
              refine Zo ?_
              exact XS (_) ((by
               constructor
               ·intro h9
                exact ⟨(by exact .inr (by assumption)),(by exact .inr (by assumption)),(by exact .inr (List.eq_nil_of_length_eq_zero (by omega))),(by exact .inl (by assumption)),(by exact .inl (by assumption)),(by exact .inr (List.eq_nil_of_length_eq_zero (by (have h8:=of_decide_eq_false h9;omega))))⟩
               ·rintro ⟨g1,g2,g3,g4,g5,g6⟩
                (rcases g6 with g6|g6 <;> first|contradiction|(subst g6;rfl)|(simp_all;done)))) (.cons (k:=118) rfl (.cons (k:=2) rfl (.cons (k:=1) rfl .nil))) (fun w hw=>by first|exact hw|exact hw.c)
             ·replace hc32:=nF hc32
              iterate 4 refine Ya ?_
              iterate 2 refine ZO ?_
              refine Zo ?_
              exact XS (_) ((by
               constructor
               ·intro h9
                exact ⟨(by exact .inr (by assumption)),(by exact .inr (by assumption)),(by exact .inr (List.eq_nil_of_length_eq_zero (by omega))),(by exact .inl (by assumption)),(by exact .inl (by assumption)),(by exact .inl (by assumption))⟩
               ·rintro ⟨g1,g2,g3,g4,g5,g6⟩
                rfl)) (.cons (k:=118) rfl (.cons (k:=2) rfl (.cons (k:=1) rfl .nil))) (fun w hw=>by first|exact hw|exact hw.c)
         ·replace hc21:=nF hc21
          (exfalso;omega)
       ·replace hc17:=nF hc17
        iterate 4 refine Ya ?_
        iterate 2 refine ZO ?_
        refine Zx ?_;refine Zk F.foff119_2 ?_;refine ZD F.lay4 ?_;refine Xj ?_;refine Zx ?_
        refine Yj 83 rfl (fun hc43=>?_) (fun hc43=>?_)
        ·replace hc43:=nT hc43
         (exfalso;omega)
        ·replace hc43:=nF hc43
         iterate 4 refine Ya ?_
         iterate 2 refine ZO ?_
         refine Zx ?_;refine Zk F.foff119_3 ?_;refine ZD F.lay4 ?_;refine Xj ?_;refine Zx ?_
         refine Yj 94 rfl (fun hc55=>?_) (fun hc55=>?_)
         ·replace hc55:=nT hc55
          refine Zk F.foff44_5 ?_;refine ZD F.lay4 ?_
          iterate 2 refine ZO ?_
          refine Zx ?_
          refine Yj 99 rfl (fun hc56=>?_) (fun hc56=>?_)
          ·skip
           iterate 7 refine Ya ?_
           refine ZO ?_;refine Zx ?_
           iterate 9 refine Ya ?_
           refine ZO ?_;refine Zo ?_
           exact XS (_) ((by
            constructor
            ·intro h9
             (cases h9;done)
            ·rintro ⟨g1,g2,g3,g4,g5,g6⟩
             (exfalso;simp_all;done))) (.cons (k:=118) rfl (.cons (k:=2) rfl (.cons (k:=1) rfl .nil))) (fun w hw=>by first|exact hw|exact hw.c)
          ·skip
           refine Zk F.foff119_4 ?_;refine ZD F.lay4 ?_;refine Xj ?_;refine Zx ?_
           refine Yj 103 rfl (fun hc57=>?_) (fun hc57=>?_)
           ·replace hc57:=nT hc57
            refine Zx ?_;refine Xj ?_
            iterate 2 refine ZO ?_
            refine Zx ?_
            refine Yj 108 rfl (fun hc58=>?_) (fun hc58=>?_)
            ·replace hc58:=nT hc58
             iterate 9 refine Ya ?_
             refine ZO ?_;refine Zo ?_
             exact XS (_) ((by
              constructor
              ·intro h9
               (cases h9;done)
              ·rintro ⟨g1,g2,g3,g4,g5,g6⟩
               (exfalso;rcases g5 with g5|g5 <;> first|contradiction|(simp_all [Xf];done)))) (.cons (k:=118) rfl (.cons (k:=2) rfl (.cons (k:=1) rfl .nil))) (fun w hw=>by first|exact hw|exact hw.c)
            ·replace hc58:=nF hc58
             refine Zk F.foff119_5 ?_;refine ZD F.lay4 ?_;refine Xj ?_;refine Zx ?_
             refine Yj 112 rfl (fun hc59=>?_) (fun hc59=>?_)
             ·replace hc59:=nT hc59
              refine Zk F.foff44_7 ?_;refine ZD F.lay26 ?_;refine YY F.elem26 ?_;refine YI ?_
              iterate 2 refine ZO ?_
              refine Zo ?_
              exact XS (_) ((by
               constructor
               ·intro h9
                exact ⟨(by exact .inr (by assumption)),(by exact .inl (by assumption)),(by exact .inl (by assumption)),(by exact .inr (by assumption)),(by exact .inr (by assumption)),(by exact .inr (List.eq_nil_of_length_eq_zero (by (have h8:=of_decide_eq_false h9;omega))))⟩
               ·rintro ⟨g1,g2,g3,g4,g5,g6⟩
                (rcases g6 with g6|g6 <;> first|contradiction|(subst g6;rfl)|(simp_all;done)))) (.cons (k:=118) rfl (.cons (k:=2) rfl (.cons (k:=1) rfl .nil))) (fun w hw=>by first|exact hw|exact hw.c)
             ·replace hc59:=nF hc59
              iterate 4 refine Ya ?_
              iterate 2 refine ZO ?_
              refine Zo ?_
              exact XS (_) ((by
               constructor
               ·intro h9
                exact ⟨(by exact .inr (by assumption)),(by exact .inl (by assumption)),(by exact .inl (by assumption)),(by exact .inr (by assumption)),(by exact .inr (by assumption)),(by exact .inl (by assumption))⟩
               ·rintro ⟨g1,g2,g3,g4,g5,g6⟩
                rfl)) (.cons (k:=118) rfl (.cons (k:=2) rfl (.cons (k:=1) rfl .nil))) (fun w hw=>by first|exact hw|exact hw.c)
           ·replace hc57:=nF hc57
            iterate 2 refine Ya ?_
            iterate 2 refine ZO ?_
            refine Zx ?_;refine Zk F.foff119_5 ?_;refine ZD F.lay4 ?_;refine Xj ?_;refine Zx ?_
            refine Yj 112 rfl (fun hc60=>?_) (fun hc60=>?_)
            ·replace hc60:=nT hc60
             refine Zk F.foff44_7 ?_;refine ZD F.lay26 ?_;refine YY F.elem26 ?_;refine YI ?_
             iterate 2 refine ZO ?_
             refine Zo ?_
             exact XS (_) ((by
              constructor
              ·intro h9
               exact ⟨(by exact .inr (by assumption)),(by exact .inl (by assumption)),(by exact .inl (by assumption)),(by exact .inr (by assumption)),(by exact .inl (by assumption)),(by exact .inr (List.eq_nil_of_length_eq_zero (by (have h8:=of_decide_eq_false h9;omega))))⟩
              ·rintro ⟨g1,g2,g3,g4,g5,g6⟩
               (rcases g6 with g6|g6 <;> first|contradiction|(subst g6;rfl)|(simp_all;done)))) (.cons (k:=118) rfl (.cons (k:=2) rfl (.cons (k:=1) rfl .nil))) (fun w hw=>by first|exact hw|exact hw.c)
            ·replace hc60:=nF hc60
             iterate 4 refine Ya ?_
             iterate 2 refine ZO ?_
             refine Zo ?_
             exact XS (_) ((by
              constructor
              ·intro h9
               exact ⟨(by exact .inr (by assumption)),(by exact .inl (by assumption)),(by exact .inl (by assumption)),(by exact .inr (by assumption)),(by exact .inl (by assumption)),(by exact .inl (by assumption))⟩
              ·rintro ⟨g1,g2,g3,g4,g5,g6⟩
               rfl)) (.cons (k:=118) rfl (.cons (k:=2) rfl (.cons (k:=1) rfl .nil))) (fun w hw=>by first|exact hw|exact hw.c)
         ·replace hc55:=nF hc55
          (exfalso;omega)
     ·replace hc15:=nF hc15
      iterate 3 refine Ya ?_
      refine ZO ?_;refine Zx ?_;refine Zk F.foff119_1 ?_;refine ZD F.lay4 ?_;refine Xj ?_;refine Zx ?_
      refine Yj 72 rfl (fun hc65=>?_) (fun hc65=>?_)
      ·replace hc65:=nT hc65
       refine Zk F.foff44_3 ?_;refine ZD F.lay23 ?_;refine X_build0 rfl rfl F.zero23 F.arr23 rfl ?_
       refine WF (m:=20) rfl rfl rfl rfl rfl (by constructor) (by constructor) F.lay23 F.kinds23 rfl F.guard23 (WZ WE) (WZ WE) rfl rfl rfl ?_;intro c66 he67
       replace he67:c66=true↔¬(Segs.cells _=Segs.cells _):=he67
       obtain rfl:=neD he67 (Vj (x:=_) (y:=_));clear he67
       iterate 2 refine ZO ?_
       refine Zx ?_
       refine Yj 79 rfl (fun hc68=>?_) (fun hc68=>?_)
       ·replace hc68:=nT hc68
        iterate 9 refine Ya ?_
        refine ZO ?_;refine Zx ?_
        iterate 7 refine Ya ?_
        refine ZO ?_;refine Zx ?_
        iterate 7 refine Ya ?_
        refine ZO ?_;refine Zx ?_
        iterate 9 refine Ya ?_
        refine ZO ?_;refine Zo ?_
        exact XS (_) ((by
         constructor
         ·intro h9
          (cases h9;done)
         ·rintro ⟨g1,g2,g3,g4,g5,g6⟩
          (exfalso;simp_all;done))) (.cons (k:=118) rfl (.cons (k:=2) rfl (.cons (k:=1) rfl .nil))) (fun w hw=>by first|exact hw|exact hw.c)
       ·replace hc68:=nF hc68
        refine Zk F.foff119_2 ?_;refine ZD F.lay4 ?_;refine Xj ?_;refine Zx ?_
        refine Yj 83 rfl (fun hc69=>?_) (fun hc69=>?_)
        ·replace hc69:=nT hc69
         refine Zk F.foff44_4 ?_;refine ZD F.lay30 ?_;refine YY F.elem30 ?_;refine YI ?_
         iterate 2 refine ZO ?_
         refine Zx ?_
         refine Yj 90 rfl (fun hc70=>?_) (fun hc70=>?_)
         ·replace hc70:=dT hc70
          iterate 7 refine Ya ?_
          refine ZO ?_;refine Zx ?_
          iterate 7 refine Ya ?_
          refine ZO ?_;refine Zx ?_
          iterate 9 refine Ya ?_
          refine ZO ?_;refine Zo ?_
          exact XS (_) ((by
           constructor
           ·intro h9
            (cases h9;done)
           ·rintro ⟨g1,g2,g3,g4,g5,g6⟩
            (exfalso;simp_all;done))) (.cons (k:=118) rfl (.cons (k:=2) rfl (.cons (k:=1) rfl .nil))) (fun w hw=>by first|exact hw|exact hw.c)
         ·replace hc70:=dF hc70
          refine Zk F.foff119_3 ?_;refine ZD F.lay4 ?_;refine Xj ?_;refine Zx ?_
          refine Yj 94 rfl (fun hc71=>?_) (fun hc71=>?_)
          ·replace hc71:=nT hc71
           refine Zk F.foff44_5 ?_;refine ZD F.lay4 ?_
           iterate 2 refine ZO ?_
           refine Zx ?_
           refine Yj 99 rfl (fun hc72=>?_) (fun hc72=>?_)
           ·skip
            iterate 7 refine Ya ?_
            refine ZO ?_;refine Zx ?_
            iterate 9 refine Ya ?_
            refine ZO ?_;refine Zo ?_
            exact XS (_) ((by
             constructor
             ·intro h9
              (cases h9;done)
             ·rintro ⟨g1,g2,g3,g4,g5,g6⟩
              (exfalso;simp_all;done))) (.cons (k:=118) rfl (.cons (k:=2) rfl (.cons (k:=1) rfl .nil))) (fun w hw=>by first|exact hw|exact hw.c)
           ·skip
            refine Zk F.foff119_4 ?_;refine ZD F.lay4 ?_;refine Xj ?_;refine Zx ?_
            refine Yj 103 rfl (fun hc73=>?_) (fun hc73=>?_)
            ·replace hc73:=nT hc73
             refine Zx ?_;refine Xj ?_
             iterate 2 refine ZO ?_
             refine Zx ?_
             refine Yj 108 rfl (fun hc74=>?_) (fun hc74=>?_)
             ·replace hc74:=nT hc74
              iterate 9 refine Ya ?_
              refine ZO ?_;refine Zo ?_
              exact XS (_) ((by
               constructor
               ·intro h9
                (cases h9;done)
               ·rintro ⟨g1,g2,g3,g4,g5,g6⟩
                (exfalso;rcases g5 with g5|g5 <;> first|contradiction|(simp_all [Xf];done)))) (.cons (k:=118) rfl (.cons (k:=2) rfl (.cons (k:=1) rfl .nil))) (fun w hw=>by first|exact hw|exact hw.c)
             ·replace hc74:=nF hc74
              refine Zk F.foff119_5 ?_;refine ZD F.lay4 ?_;refine Xj ?_;refine Zx ?_
              refine Yj 112 rfl (fun hc75=>?_) (fun hc75=>?_)
              ·replace hc75:=nT hc75
               refine Zk F.foff44_7 ?_;refine ZD F.lay26 ?_;refine YY F.elem26 ?_;refine YI ?_
               iterate 2 refine ZO ?_
               refine Zo ?_
               exact XS (_) ((by
                constructor
                ·intro h9
                 exact ⟨(by exact .inl (by assumption)),(by exact .inr (by assumption)),(by exact .inr (List.eq_nil_of_length_eq_zero (by omega))),(by exact .inr (by assumption)),(by exact .inr (by assumption)),(by exact .inr (List.eq_nil_of_length_eq_zero (by (have h8:=of_decide_eq_false h9;omega))))⟩
                ·rintro ⟨g1,g2,g3,g4,g5,g6⟩
                 (rcases g6 with g6|g6 <;> first|contradiction|(subst g6;rfl)|(simp_all;done)))) (.cons (k:=118) rfl (.cons (k:=2) rfl (.cons (k:=1) rfl .nil))) (fun w hw=>by first|exact hw|exact hw.c)
              ·replace hc75:=nF hc75
               iterate 4 refine Ya ?_
               iterate 2 refine ZO ?_
               refine Zo ?_
               exact XS (_) ((by
                constructor
                ·intro h9
                 exact ⟨(by exact .inl (by assumption)),(by exact .inr (by assumption)),(by exact .inr (List.eq_nil_of_length_eq_zero (by omega))),(by exact .inr (by assumption)),(by exact .inr (by assumption)),(by exact .inl (by assumption))⟩
                ·rintro ⟨g1,g2,g3,g4,g5,g6⟩
                 rfl)) (.cons (k:=118) rfl (.cons (k:=2) rfl (.cons (k:=1) rfl .nil))) (fun w hw=>by first|exact hw|exact hw.c)
            ·replace hc73:=nF hc73
             iterate 2 refine Ya ?_
             iterate 2 refine ZO ?_
             refine Zx ?_;refine Zk F.foff119_5 ?_;refine ZD F.lay4 ?_;refine Xj ?_;refine Zx ?_
             refine Yj 112 rfl (fun hc76=>?_) (fun hc76=>?_)
             ·replace hc76:=nT hc76
              refine Zk F.foff44_7 ?_;refine ZD F.lay26 ?_;refine YY F.elem26 ?_;refine YI ?_
              iterate 2 refine ZO ?_
              refine Zo ?_
              exact XS (_) ((by
               constructor
               ·intro h9
                exact ⟨(by exact .inl (by assumption)),(by exact .inr (by assumption)),(by exact .inr (List.eq_nil_of_length_eq_zero (by omega))),(by exact .inr (by assumption)),(by exact .inl (by assumption)),(by exact .inr (List.eq_nil_of_length_eq_zero (by (have h8:=of_decide_eq_false h9;omega))))⟩
               ·rintro ⟨g1,g2,g3,g4,g5,g6⟩
                (rcases g6 with g6|g6 <;> first|contradiction|(subst g6;rfl)|(simp_all;done)))) (.cons (k:=118) rfl (.cons (k:=2) rfl (.cons (k:=1) rfl .nil))) (fun w hw=>by first|exact hw|exact hw.c)
             ·replace hc76:=nF hc76
              iterate 4 refine Ya ?_
              iterate 2 refine ZO ?_
              refine Zo ?_
              exact XS (_) ((by
               constructor
               ·intro h9
                exact ⟨(by exact .inl (by assumption)),(by exact .inr (by assumption)),(by exact .inr (List.eq_nil_of_length_eq_zero (by omega))),(by exact .inr (by assumption)),(by exact .inl (by assumption)),(by exact .inl (by assumption))⟩
               ·rintro ⟨g1,g2,g3,g4,g5,g6⟩
                rfl)) (.cons (k:=118) rfl (.cons (k:=2) rfl (.cons (k:=1) rfl .nil))) (fun w hw=>by first|exact hw|exact hw.c)
          ·replace hc71:=nF hc71
           iterate 2 refine Ya ?_
           iterate 2 refine ZO ?_
           refine Zx ?_;refine Zk F.foff119_4 ?_;refine ZD F.lay4 ?_;refine Xj ?_;refine Zx ?_
           refine Yj 103 rfl (fun hc77=>?_) (fun hc77=>?_)
           ·replace hc77:=nT hc77
            refine Zx ?_;refine Xj ?_
            iterate 2 refine ZO ?_
            refine Zx ?_
            refine Yj 108 rfl (fun hc78=>?_) (fun hc78=>?_)
            ·replace hc78:=nT hc78
             iterate 9 refine Ya ?_
             refine ZO ?_;refine Zo ?_
             exact XS (_) ((by
              constructor
              ·intro h9
               (cases h9;done)
              ·rintro ⟨g1,g2,g3,g4,g5,g6⟩
               (exfalso;simp_all;done))) (.cons (k:=118) rfl (.cons (k:=2) rfl (.cons (k:=1) rfl .nil))) (fun w hw=>by first|exact hw|exact hw.c)
            ·replace hc78:=nF hc78
             refine Zk F.foff119_5 ?_;refine ZD F.lay4 ?_;refine Xj ?_;refine Zx ?_
             refine Yj 112 rfl (fun hc79=>?_) (fun hc79=>?_)
             ·replace hc79:=nT hc79
              refine Zk F.foff44_7 ?_;refine ZD F.lay26 ?_;refine YY F.elem26 ?_;refine YI ?_
              iterate 2 refine ZO ?_
              refine Zo ?_
              exact XS (_) ((by
               constructor
               ·intro h9
                exact ⟨(by exact .inl (by assumption)),(by exact .inr (by assumption)),(by exact .inr (List.eq_nil_of_length_eq_zero (by omega))),(by exact .inl (by assumption)),(by exact .inr (by assumption)),(by exact .inr (List.eq_nil_of_length_eq_zero (by (have h8:=of_decide_eq_false h9;omega))))⟩
               ·rintro ⟨g1,g2,g3,g4,g5,g6⟩
                (exfalso;simp_all;done))) (.cons (k:=118) rfl (.cons (k:=2) rfl (.cons (k:=1) rfl .nil))) (fun w hw=>by first|exact hw|exact hw.c)
             ·replace hc79:=nF hc79
              iterate 4 refine Ya ?_
              iterate 2 refine ZO ?_
              refine Zo ?_
              exact XS (_) ((by
               constructor
               ·intro h9
                exact ⟨(by exact .inl (by assumption)),(by exact .inr (by assumption)),(by exact .inr (List.eq_nil_of_length_eq_zero (by omega))),(by exact .inl (by assumption)),(by exact .inr (by assumption)),(by exact .inl (by assumption))⟩
               ·rintro ⟨g1,g2,g3,g4,g5,g6⟩
                rfl)) (.cons (k:=118) rfl (.cons (k:=2) rfl (.cons (k:=1) rfl .nil))) (fun w hw=>by first|exact hw|exact hw.c)
           ·replace hc77:=nF hc77
            iterate 2 refine Ya ?_
            iterate 2 refine ZO ?_
            refine Zx ?_;refine Zk F.foff119_5 ?_;refine ZD F.lay4 ?_;refine Xj ?_;refine Zx ?_
            refine Yj 112 rfl (fun hc80=>?_) (fun hc80=>?_)
            ·replace hc80:=nT hc80
             refine Zk F.foff44_7 ?_;refine ZD F.lay26 ?_;refine YY F.elem26 ?_;refine YI ?_
             iterate 2 refine ZO ?_
             refine Zo ?_
             exact XS (_) ((by
              constructor
              ·intro h9
               exact ⟨(by exact .inl (by assumption)),(by exact .inr (by assumption)),(by exact .inr (List.eq_nil_of_length_eq_zero (by omega))),(by exact .inl (by assumption)),(by exact .inl (by assumption)),(by exact .inr (List.eq_nil_of_length_eq_zero (by (have h8:=of_decide_eq_false h9;omega))))⟩
              ·rintro ⟨g1,g2,g3,g4,g5,g6⟩
               (rcases g6 with g6|g6 <;> first|contradiction|(subst g6;rfl)|(simp_all;done)))) (.cons (k:=118) rfl (.cons (k:=2) rfl (.cons (k:=1) rfl .nil))) (fun w hw=>by first|exact hw|exact hw.c)
            ·replace hc80:=nF hc80
             iterate 4 refine Ya ?_
             iterate 2 refine ZO ?_
             refine Zo ?_
             exact XS (_) ((by
              constructor
              ·intro h9
               exact ⟨(by exact .inl (by assumption)),(by exact .inr (by assumption)),(by exact .inr (List.eq_nil_of_length_eq_zero (by omega))),(by exact .inl (by assumption)),(by exact .inl (by assumption)),(by exact .inl (by assumption))⟩
              ·rintro ⟨g1,g2,g3,g4,g5,g6⟩
               rfl)) (.cons (k:=118) rfl (.cons (k:=2) rfl (.cons (k:=1) rfl .nil))) (fun w hw=>by first|exact hw|exact hw.c)
        ·replace hc69:=nF hc69
         (exfalso;omega)
      ·replace hc65:=nF hc65
       iterate 4 refine Ya ?_
       iterate 2 refine ZO ?_
       refine Zx ?_;refine Zk F.foff119_2 ?_;refine ZD F.lay4 ?_;refine Xj ?_;refine Zx ?_
       refine Yj 83 rfl (fun hc91=>?_) (fun hc91=>?_)
       ·replace hc91:=nT hc91
        (exfalso;omega)
       ·replace hc91:=nF hc91
        iterate 4 refine Ya ?_
        iterate 2 refine ZO ?_
        refine Zx ?_;refine Zk F.foff119_3 ?_;refine ZD F.lay4 ?_;refine Xj ?_;refine Zx ?_
        refine Yj 94 rfl (fun hc103=>?_) (fun hc103=>?_)
        ·replace hc103:=nT hc103
         refine Zk F.foff44_5 ?_;refine ZD F.lay4 ?_
         iterate 2 refine ZO ?_
         refine Zx ?_
         refine Yj 99 rfl (fun hc104=>?_) (fun hc104=>?_)
         ·skip
          iterate 7 refine Ya ?_
          refine ZO ?_;refine Zx ?_
          iterate 9 refine Ya ?_
          refine ZO ?_;refine Zo ?_
          exact XS (_) ((by
           constructor
           ·intro h9
            (cases h9;done)
           ·rintro ⟨g1,g2,g3,g4,g5,g6⟩
            (exfalso;simp_all;done))) (.cons (k:=118) rfl (.cons (k:=2) rfl (.cons (k:=1) rfl .nil))) (fun w hw=>by first|exact hw|exact hw.c)
         ·skip
          refine Zk F.foff119_4 ?_;refine ZD F.lay4 ?_;refine Xj ?_;refine Zx ?_
          refine Yj 103 rfl (fun hc105=>?_) (fun hc105=>?_)
          ·replace hc105:=nT hc105
           refine Zx ?_;refine Xj ?_
           iterate 2 refine ZO ?_
           refine Zx ?_
           refine Yj 108 rfl (fun hc106=>?_) (fun hc106=>?_)
           ·replace hc106:=nT hc106
            iterate 9 refine Ya ?_
            refine ZO ?_;refine Zo ?_
            exact XS (_) ((by
             constructor
             ·intro h9
              (cases h9;done)
             ·rintro ⟨g1,g2,g3,g4,g5,g6⟩
              (exfalso;rcases g5 with g5|g5 <;> first|contradiction|(simp_all [Xf];done)))) (.cons (k:=118) rfl (.cons (k:=2) rfl (.cons (k:=1) rfl .nil))) (fun w hw=>by first|exact hw|exact hw.c)
           ·replace hc106:=nF hc106
            refine Zk F.foff119_5 ?_;refine ZD F.lay4 ?_;refine Xj ?_;refine Zx ?_
            refine Yj 112 rfl (fun hc107=>?_) (fun hc107=>?_)
            ·replace hc107:=nT hc107
             refine Zk F.foff44_7 ?_;refine ZD F.lay26 ?_;refine YY F.elem26 ?_;refine YI ?_
             iterate 2 refine ZO ?_
             refine Zo ?_
             exact XS (_) ((by
              constructor
              ·intro h9
               exact ⟨(by exact .inl (by assumption)),(by exact .inl (by assumption)),(by exact .inl (by assumption)),(by exact .inr (by assumption)),(by exact .inr (by assumption)),(by exact .inr (List.eq_nil_of_length_eq_zero (by (have h8:=of_decide_eq_false h9;omega))))⟩
              ·rintro ⟨g1,g2,g3,g4,g5,g6⟩
               (rcases g6 with g6|g6 <;> first|contradiction|(subst g6;rfl)|(simp_all;done)))) (.cons (k:=118) rfl (.cons (k:=2) rfl (.cons (k:=1) rfl .nil))) (fun w hw=>by first|exact hw|exact hw.c)
            ·replace hc107:=nF hc107
             iterate 4 refine Ya ?_
             iterate 2 refine ZO ?_
             refine Zo ?_
             exact XS (_) ((by
              constructor
              ·intro h9
               exact ⟨(by exact .inl (by assumption)),(by exact .inl (by assumption)),(by exact .inl (by assumption)),(by exact .inr (by assumption)),(by exact .inr (by assumption)),(by exact .inl (by assumption))⟩
              ·rintro ⟨g1,g2,g3,g4,g5,g6⟩
               rfl)) (.cons (k:=118) rfl (.cons (k:=2) rfl (.cons (k:=1) rfl .nil))) (fun w hw=>by first|exact hw|exact hw.c)
          ·replace hc105:=nF hc105
           iterate 2 refine Ya ?_
           iterate 2 refine ZO ?_
           refine Zx ?_;refine Zk F.foff119_5 ?_;refine ZD F.lay4 ?_;refine Xj ?_;refine Zx ?_
           refine Yj 112 rfl (fun hc108=>?_) (fun hc108=>?_)
           ·replace hc108:=nT hc108
            refine Zk F.foff44_7 ?_;refine ZD F.lay26 ?_;refine YY F.elem26 ?_;refine YI ?_
            iterate 2 refine ZO ?_
            refine Zo ?_
            exact XS (_) ((by
             constructor
             ·intro h9
              exact ⟨(by exact .inl (by assumption)),(by exact .inl (by assumption)),(by exact .inl (by assumption)),(by exact .inr (by assumption)),(by exact .inl (by assumption)),(by exact .inr (List.eq_nil_of_length_eq_zero (by (have h8:=of_decide_eq_false h9;omega))))⟩
             ·rintro ⟨g1,g2,g3,g4,g5,g6⟩
              (rcases g6 with g6|g6 <;> first|contradiction|(subst g6;rfl)|(simp_all;done)))) (.cons (k:=118) rfl (.cons (k:=2) rfl (.cons (k:=1) rfl .nil))) (fun w hw=>by first|exact hw|exact hw.c)
           ·replace hc108:=nF hc108
            iterate 4 refine Ya ?_
            iterate 2 refine ZO ?_
            refine Zo ?_
            exact XS (_) ((by
             constructor
             ·intro h9
              exact ⟨(by exact .inl (by assumption)),(by exact .inl (by assumption)),(by exact .inl (by assumption)),(by exact .inr (by assumption)),(by exact .inl (by assumption)),(by exact .inl (by assumption))⟩
             ·rintro ⟨g1,g2,g3,g4,g5,g6⟩
              rfl)) (.cons (k:=118) rfl (.cons (k:=2) rfl (.cons (k:=1) rfl .nil))) (fun w hw=>by first|exact hw|exact hw.c)
        ·replace hc103:=nF hc103
         (exfalso;omega)
    ·rintro b118 hb118
     refine YA rfl (fun hc113=>?_) (fun hc113=>?_)
     ·skip
      refine ZK (Zm (l:=[0]) rfl ?_);refine ZB ?_;refine Zo (Zn (Y_pk [2,1] ?_));refine Yo (YS ?_)
      refine Yk (.inr rfl) (.tmp rfl .nil) (fun w hw=>?_)
      refine ⟨_,rfl,(hw.c),?_⟩
      clear hw
      show _=Value.bool (decide ((1≤Yb∧Yb≤8)∧YX ZM∧ZN.length≤16∧ZL.length≤8∧((⟨ZI,ZS⟩:ZF)=Xf∨YX ZI)∧¬((⟨ZI,ZS⟩:ZF)=Xf∧Yb=2)∧(Vo Yb∨YB=0)∧(Yb=1∨l_id=0)∧(Yb=1∨ZN=[])∧(Yb=2∨Ys=false)∧(WU Yb∨(⟨ZI,ZS⟩:ZF)=Xf)∧(Wy Yb∨ZL=[])∧(∀ a∈ZN,YX a)∧∀ p∈ZL,YX p.addr))
      refine congrArg Value.bool ?_
      refine (decide_eq_false (fun h9=>?_)).symm
      obtain ⟨g1,g2,g3,g4,g5,g6,g7,g8,g9,g10,g11,g12,g13,g14⟩:=h9
      have h8:b118=true:=by assumption
      have h7:=hb118.2 ⟨g7,g8,g9,g10,g11,g12⟩
      rw [h8] at h7;cases h7
     ·skip
      refine YG (Zn (Y_pk [2,1] ?_))
      iterate 2 refine ZK ?_
      refine Zm (l:=[0]) rfl ?_;refine ZB ?_;refine Zo (Zn (Xc (Y_pk [5,2,1] ?_)));refine WV (.succ .zero) (fun (k:Nat) z=>z=[(5,.int .i64 (k:Int))]∧k≤ZN.length∧(∀ j (h:j<k) (h2:j<ZN.length),YX ZN[j])) (fun k=>ZN.length-k) (0) (⟨rfl,by omega,by (intro j hj;omega)⟩) ?_
      rintro k _ ⟨rfl,hk,hI⟩
      iterate 2 refine ZK ?_
      refine Zm (l:=[0,1,2,3,4]) rfl ?_;refine Zx ?_;refine Zk F.foff44_4 ?_;refine ZD F.lay30 ?_;refine YY F.elem30 ?_;refine YI ?_;refine Zo (Zn ?_)
      refine YA rfl (fun hc114=>?_) (fun hc114=>?_)
      ·replace hc114:=dT hc114
       refine YG (Zn (ZK (Xc (ZK (Zm (l:=[0,1,2,3,4,5,6]) rfl ?_)))));refine Zk F.foff44_4 ?_;refine ZD F.lay30 ?_;refine Zx ?_;refine YR rfl rfl rfl rfl F.elem30 (by rfl) (by omega) (by exact SlM.plain (by assumption) (by (simp;omega))) rfl ?_;refine Xm rfl rfl rfl (by assumption) (by exact XP (by omega)) F.lay3 rfl rfl rfl ?_;refine X_fs rfl rfl F.ok110 rfl (laddr_ok _ _) rfl ?_
       rintro _ rfl
       refine Xj ?_;refine Zo (Zn ?_)
       refine YA rfl (fun hc115=>?_) (fun hc115=>?_)
       ·replace hc115:=nT hc115
        refine ZK (Zm (l:=[0]) rfl ?_);refine ZB ?_;refine Zo (Zn (Yo (Xh ?_)))
        iterate 2 refine YS ?_
        refine Xh (YS ?_)
        refine Yk (.inr rfl) (.tmp rfl .nil) (fun w hw=>?_)
        refine ⟨_,rfl,(hw.c),?_⟩
        clear hw
        show _=Value.bool (decide ((1≤Yb∧Yb≤8)∧YX ZM∧ZN.length≤16∧ZL.length≤8∧((⟨ZI,ZS⟩:ZF)=Xf∨YX ZI)∧¬((⟨ZI,ZS⟩:ZF)=Xf∧Yb=2)∧(Vo Yb∨YB=0)∧(Yb=1∨l_id=0)∧(Yb=1∨ZN=[])∧(Yb=2∨Ys=false)∧(WU Yb∨(⟨ZI,ZS⟩:ZF)=Xf)∧(Wy Yb∨ZL=[])∧(∀ a∈ZN,YX a)∧∀ p∈ZL,YX p.addr))
        refine congrArg Value.bool ?_
        refine (decide_eq_false (fun h9=>?_)).symm
        obtain ⟨g1,g2,g3,g4,g5,g6,g7,g8,g9,g10,g11,g12,g13,g14⟩:=h9
        have h8:=g13 _ (List.getElem_mem (n:=k) (by omega))
        contradiction
       ·replace hc115:=nF hc115
        refine YG (XR (Zn (Zm (l:=[0,1,2]) rfl ?_)));refine Zx ?_;refine XE rfl rfl rfl rfl rfl (by exact Xe (by decide) (by omega)) rfl ?_;refine ZB ?_;refine Zo ?_;refine WO (a':=[(5,_)]) (k+1) (.cons (k:=5) rfl (.cons (k:=2) rfl (.cons (k:=1) rfl (.nil)))) (fun w hw=>by first|exact hw|exact hw.c) ?_ ?_
        ·refine ⟨rfl,by omega,?_⟩
         (intro j hj hj2;rcases Nat.lt_or_ge j k with h9|h9;exact hI j h9 hj2;obtain rfl:j=k:=(by omega);assumption)
        ·omega
      ·replace hc114:=dF hc114
       refine XK ?_
       iterate 2 refine XH ?_
       refine Wh (Zn (Y_pk [2,1] ?_))
       iterate 2 refine ZK ?_
       refine Zm (l:=[0]) rfl ?_;refine ZB ?_;refine Zo (Zn (Xc (Y_pk [6,2,1] ?_)));refine WV (.succ .zero) (fun (k:Nat) z=>z=[(6,.int .i64 (k:Int))]∧k≤ZL.length∧(∀ j (h:j<k) (h2:j<ZL.length),YX ZL[j].addr)) (fun k=>ZL.length-k) (0) (⟨rfl,by omega,by (intro j hj;omega)⟩) ?_
       rintro k _ ⟨rfl,hk2,hJ⟩
       iterate 2 refine ZK ?_
       refine Zm (l:=[0,1,2,3,4]) rfl ?_;refine Zx ?_;refine Zk F.foff44_7 ?_;refine ZD F.lay26 ?_;refine YY F.elem26 ?_;refine YI ?_;refine Zo (Zn ?_)
       refine YA rfl (fun hc116=>?_) (fun hc116=>?_)
       ·replace hc116:=dT hc116
        refine YG (Zn (ZK (Xc (ZK (Zm (l:=[0,1,2,3,4,5,6,7]) rfl ?_)))));refine Zk F.foff44_7 ?_;refine ZD F.lay26 ?_;refine Zx ?_;refine YR rfl rfl rfl rfl F.elem26 (by rfl) (by omega) (by exact SlM.plain (by assumption) (by (simp;omega))) rfl ?_;refine XC rfl rfl rfl (by exact SlM.plain (by assumption) (by (simp;omega))) F.foff25_0 rfl ?_;refine Xm rfl rfl rfl (by assumption) (by exact XP (by omega)) F.lay3 rfl rfl rfl ?_;refine X_fs rfl rfl F.ok110 rfl (laddr_ok _ _) rfl ?_
        rintro _ rfl
        refine Xj ?_;refine Zo (Zn ?_)
        refine YA rfl (fun hc117=>?_) (fun hc117=>?_)
        ·replace hc117:=nT hc117
         simp only [List.get_eq_getElem] at hc117
         refine ZK (Zm (l:=[0]) rfl ?_);refine ZB ?_;refine Zo (Zn (Yo (Xh ?_)))
         iterate 2 refine YS ?_
         refine Xh (YS ?_)
         refine Yk (.inr rfl) (.tmp rfl .nil) (fun w hw=>?_)
         refine ⟨_,rfl,(hw.c),?_⟩
         clear hw
         show _=Value.bool (decide ((1≤Yb∧Yb≤8)∧YX ZM∧ZN.length≤16∧ZL.length≤8∧((⟨ZI,ZS⟩:ZF)=Xf∨YX ZI)∧¬((⟨ZI,ZS⟩:ZF)=Xf∧Yb=2)∧(Vo Yb∨YB=0)∧(Yb=1∨l_id=0)∧(Yb=1∨ZN=[])∧(Yb=2∨Ys=false)∧(WU Yb∨(⟨ZI,ZS⟩:ZF)=Xf)∧(Wy Yb∨ZL=[])∧(∀ a∈ZN,YX a)∧∀ p∈ZL,YX p.addr))
         refine congrArg Value.bool ?_
         refine (decide_eq_false (fun h9=>?_)).symm
         obtain ⟨g1,g2,g3,g4,g5,g6,g7,g8,g9,g10,g11,g12,g13,g14⟩:=h9
         have h8:=g14 _ (List.getElem_mem (n:=k) (by omega))
         contradiction
        ·replace hc117:=nF hc117
         simp only [List.get_eq_getElem] at hc117
         refine YG (XR (Zn (Zm (l:=[0,1,2]) rfl ?_)));refine Zx ?_;refine XE rfl rfl rfl rfl rfl (by exact Xe (by decide) (by omega)) rfl ?_;refine ZB ?_;refine Zo ?_;refine WO (a':=[(6,_)]) (k+1) (.cons (k:=6) rfl (.cons (k:=2) rfl (.cons (k:=1) rfl (.nil)))) (fun w hw=>by first|exact hw|exact hw.c) ?_ ?_
         ·refine ⟨rfl,by omega,?_⟩
          (intro j hj hj2;rcases Nat.lt_or_ge j k with h9|h9;exact hJ j h9 hj2;obtain rfl:j=k:=(by omega);assumption)
         ·omega
       ·replace hc116:=dF hc116
        refine XK ?_
        iterate 2 refine XH ?_
        refine Wh (Zn (Y_pk [2] ?_));refine ZK (Zm (l:=[0]) rfl ?_);refine ZB ?_;refine Zo (Zn (Yo ?_))
        refine Yk (.inr rfl) (.tmp rfl .nil) (fun w hw=>?_)
        refine ⟨_,rfl,(hw.c),?_⟩
        clear hw
        show _=Value.bool (decide ((1≤Yb∧Yb≤8)∧YX ZM∧ZN.length≤16∧ZL.length≤8∧((⟨ZI,ZS⟩:ZF)=Xf∨YX ZI)∧¬((⟨ZI,ZS⟩:ZF)=Xf∧Yb=2)∧(Vo Yb∨YB=0)∧(Yb=1∨l_id=0)∧(Yb=1∨ZN=[])∧(Yb=2∨Ys=false)∧(WU Yb∨(⟨ZI,ZS⟩:ZF)=Xf)∧(Wy Yb∨ZL=[])∧(∀ a∈ZN,YX a)∧∀ p∈ZL,YX p.addr))
        refine congrArg Value.bool ?_
        obtain ⟨z1,z2,z3,z4,z5,z6⟩:=hb59.1 (by assumption)
        obtain ⟨y1,y2,y3,y4,y5,y6⟩:=hb118.1 (by assumption)
        exact (decide_eq_true ⟨z1,z2,z3,z4,z5,z6,y1,y2,y3,y4,y5,y6,fun a ha=>by obtain ⟨j,hj,rfl⟩:=List.getElem_of_mem ha;exact hI j (by omega) hj,fun p hp=>by obtain ⟨j,hj,rfl⟩:=List.getElem_of_mem hp;exact hJ j (by omega) hj⟩).symm
end Go.Proofs.YtajmnjefajknoaaGreat
namespace Go.Proofs.YtajmnjefajknoaaGreat
open Go.Esp
theorem F.elem35:slOf Tryz.prog 35=some (49,68,168):=by kernel_rfl
theorem F.foff32_11:foff Tryz.prog 32 11=some 54:=by kernel_rfl
theorem F.foff32_12:foff Tryz.prog 32 12=some 55:=by kernel_rfl
theorem F.foff32_5:foff Tryz.prog 32 5=some 48:=by kernel_rfl
theorem F.foff32_7:foff Tryz.prog 32 7=some 50:=by kernel_rfl
theorem F.foff32_9:foff Tryz.prog 32 9=some 52:=by kernel_rfl
theorem F.foff49_0:foff Tryz.prog 49 0=some 0:=by kernel_rfl
theorem F.foff49_1:foff Tryz.prog 49 1=some 1:=by kernel_rfl
theorem F.ok31:okFn Tryz.prog 31=true:=by kernel_rfl
theorem F.ok42:okFn Tryz.prog 42=true:=by kernel_rfl
theorem F.ok43:okFn Tryz.prog 43=true:=by kernel_rfl
theorem F.ok44:okFn Tryz.prog 44=true:=by kernel_rfl
theorem inN_ok (M:Mem) (l:(Sl Int)) (a:Int) (hl0:SlK M (oneI .i64) 1 l):Fs Tryz.prog 111 [Sl.val l,.int .i64 a] M (fun v=>v=Value.bool (decide (a∈l.l))):=by
  obtain ⟨l_a,l_c,l_l⟩:=l
  have k_l:SlK M (oneI .i64) 1 ⟨l_a,l_c,l_l⟩:=hl0
  have s_l:SlM M l_a (l_l.map (oneI .i64)) 1:=k_l.h1
  have n_l:(l_l.map (oneI .i64)).length=l_l.length:=List.length_map ..
  have m_l:l_l.length≤9223372036854775807:=k_l.h2
  have c_l:l_l.length≤l_c:=k_l.h3
  refine Xv Tryz.func111 rfl Tryz.ntmps111 rfl ?_;intro H
  refine ZK (Zm (l:=[0]) rfl ?_);refine ZB ?_;refine Zo (Zn ?_)
  iterate 2 refine ZK ?_
  refine Zm (l:=[0]) rfl ?_;refine ZB ?_;refine Zo (Zn (Xc (Y_pk [5,4,0,1] ?_)));refine WV (.succ .zero) (fun (k:Nat) z=>z=[(5,.int .i64 (k:Int))]∧k≤l_l.length∧(∀ j (h:j<k) (h2:j<l_l.length),¬l_l[j]=a)) (fun k=>l_l.length-k) (0) (⟨rfl,by omega,by (intro j hj;omega)⟩) ?_
  rintro k _ ⟨rfl,hk,hI⟩
  iterate 2 refine ZK ?_
  refine Zm (l:=[0,1,2,3]) rfl ?_
  iterate 2 refine Zx ?_
  refine YY F.elem30 ?_;refine YI ?_;refine Zo (Zn ?_)
  refine YA rfl (fun hc1=>?_) (fun hc1=>?_)
  ·replace hc1:=dT hc1
   refine YG (Zn (ZK (Xc (ZK (Zm (l:=[0,1,2,3,4,5]) rfl ?_)))))
   iterate 2 refine Zx ?_
   refine YR rfl rfl rfl rfl F.elem30 (by rfl) (by omega) (by exact SlM.plain (by assumption) (by (simp;omega))) rfl ?_;refine Xm rfl rfl rfl (by assumption) (by exact XP (by omega)) F.lay3 rfl rfl rfl ?_;refine Zx ?_;refine YI ?_;refine Zo (Zn ?_)
   refine YA rfl (fun hc2=>?_) (fun hc2=>?_)
   ·replace hc2:=dT hc2
    refine ZK (Zm (l:=[0]) rfl ?_);refine ZB ?_;refine Zo (Zn (Yo (Xh ?_)))
    iterate 2 refine YS ?_
    refine Xh (YS ?_)
    refine Yk (.inr rfl) (.tmp rfl .nil) (fun w hw=>?_)
    refine ⟨_,rfl,(hw.c),?_⟩
    clear hw
    refine congrArg Value.bool ?_
    exact (decide_eq_true (by show a∈l_l;first|exact (by assumption:l_l[k]=a) ▸ List.getElem_mem (by omega)|(subst_vars;exact List.getElem_mem (by omega)))).symm
   ·replace hc2:=dF hc2
    refine YG (XR (Zn (Zm (l:=[0,1,2]) rfl ?_)));refine Zx ?_;refine XE rfl rfl rfl rfl rfl (by exact Xe (by decide) (by omega)) rfl ?_;refine ZB ?_;refine Zo ?_;refine WO (a':=[(5,_)]) (k+1) (.cons (k:=5) rfl (.cons (k:=4) rfl (.cons (k:=0) rfl (.cons (k:=1) rfl (.nil))))) (fun w hw=>by first|exact hw|exact hw.c) ?_ ?_
    ·refine ⟨rfl,by omega,?_⟩
     (intro j hj hj2;rcases Nat.lt_or_ge j k with h9|h9;exact hI j h9 hj2;obtain rfl:j=k:=(by omega);assumption)
    ·omega
  ·replace hc1:=dF hc1
   refine XK ?_
   iterate 2 refine XH ?_
   refine Wh (Zn (Y_pk [4] ?_));refine ZK (Zm (l:=[0]) rfl ?_);refine ZB ?_;refine Zo (Zn (Yo ?_))
   refine Yk (.inr rfl) (.tmp rfl .nil) (fun w hw=>?_)
   refine ⟨_,rfl,(hw.c),?_⟩
   clear hw
   refine congrArg Value.bool ?_
   exact (decide_eq_false (fun h9=>by obtain ⟨j,hj,h8⟩:=List.getElem_of_mem h9;exact hI j (by have h7:j<l_l.length:=hj;omega) hj h8)).symm
theorem map_ext9 {α β:Type} {f:α→β} {a b:List α} (hl:a.length=b.length) (h:∀ j (h2:j<a.length) (h3:j<b.length),f a[j]=f b[j]):a.map f=b.map f :=
  List.ext_getElem (by simp [hl]) fun j h2 h3=>by simpa using h j (by simpa using h2) (by simpa using h3)
theorem map_at9 {α β:Type} {f:α→β} {a b:List α} (h:a.map f=b.map f) {j:Nat} (h2:j<a.length) (h3:j<b.length):f a[j]=f b[j]:=by
  have e1:(a.map f)[j]?=some (f a[j]):=by simp [h2]
  have e2:(b.map f)[j]?=some (f b[j]):=by simp [h3]
  rw [h,e2] at e1;exact (Option.some.inj e1).symm
theorem map_len9 {α β:Type} {f:α→β} {a b:List α} (h:a.map f=b.map f):a.length=b.length:=by have:=congrArg List.length h;simpa using this
theorem snd_mk9 {x y:Yr} (h1:x.to=y.to) (h2:x.letter.lt=y.letter.lt):Yr.snd x=Yr.snd y:=by unfold Yr.snd;rw [h1,h2]
theorem Ints_ok (M:Mem) (a:(Sl Int)) (b:(Sl Int)) (ha0:SlK M (oneI .i64) 1 a) (hb1:SlK M (oneI .i64) 1 b):Fs Tryz.prog 43 [Sl.val a,Sl.val b] M (fun v=>v=Value.bool (decide (a.l.map (id:Int→Int)=b.l.map (id:Int→Int)))):=by
  obtain ⟨a_a,a_c,a_l⟩:=a
  obtain ⟨b_a,b_c,b_l⟩:=b
  have k_a:SlK M (oneI .i64) 1 ⟨a_a,a_c,a_l⟩:=ha0
  have s_a:SlM M a_a (a_l.map (oneI .i64)) 1:=k_a.h1
  have n_a:(a_l.map (oneI .i64)).length=a_l.length:=List.length_map ..
  have m_a:a_l.length≤9223372036854775807:=k_a.h2
  have c_a:a_l.length≤a_c:=k_a.h3
  have k_b:SlK M (oneI .i64) 1 ⟨b_a,b_c,b_l⟩:=hb1
  have s_b:SlM M b_a (b_l.map (oneI .i64)) 1:=k_b.h1
  have n_b:(b_l.map (oneI .i64)).length=b_l.length:=List.length_map ..
  have m_b:b_l.length≤9223372036854775807:=k_b.h2
  have c_b:b_l.length≤b_c:=k_b.h3
  refine Xv Tryz.func43 rfl Tryz.ntmps43 rfl ?_;intro H
  refine ZK (Zm (l:=[0]) rfl ?_);refine ZB ?_;refine Zo (Zn ?_)
  iterate 2 refine ZK ?_
  refine Zm (l:=[0,1,2,3,4]) rfl ?_;refine Zx ?_;refine YY F.elem30 ?_;refine Zx ?_;refine YY F.elem30 ?_;refine YI ?_;refine Zo (Zn (Y_pk [10,4,0,1] ?_))
  refine YA rfl (fun hc1=>?_) (fun hc1=>?_)
  ·replace hc1:=nT hc1
   refine ZK (Zm (l:=[0]) rfl ?_);refine ZB ?_;refine Zo (Zn (Y_pk [4,0,1] ?_));refine Yo (YS ?_)
   refine Yk (.inr rfl) (.tmp rfl .nil) (fun w hw=>?_)
   refine ⟨_,rfl,(hw.c),?_⟩
   clear hw
   show _=Value.bool (decide (a_l.map (id:Int→Int)=b_l.map (id:Int→Int)))
   exact congrArg Value.bool (decide_eq_false (fun h9=>by have h8:=map_len9 h9;omega)).symm
  ·replace hc1:=nF hc1
   refine YG (Zn (Y_pk [4,0,1] ?_))
   iterate 2 refine ZK ?_
   refine Zm (l:=[0]) rfl ?_;refine ZB ?_;refine Zo (Zn (Xc (Y_pk [5,4,0,1] ?_)));refine WV (.succ .zero) (fun (k:Nat) z=>z=[(5,.int .i64 (k:Int))]∧k≤a_l.length∧(∀ j (h2:j<a_l.length) (h3:j<b_l.length),j<k→(id:Int→Int) a_l[j]=(id:Int→Int) b_l[j])) (fun k=>a_l.length-k) (0) (⟨rfl,by omega,by (intro j h2 h3 hj;omega)⟩) ?_
   rintro k _ ⟨rfl,hk,hI⟩
   iterate 2 refine ZK ?_
   refine Zm (l:=[0,1,2,3]) rfl ?_
   iterate 2 refine Zx ?_
   refine YY F.elem30 ?_;refine YI ?_;refine Zo (Zn ?_)
   refine YA rfl (fun hc2=>?_) (fun hc2=>?_)
   ·replace hc2:=dT hc2
    refine YG (Zn (ZK (Xc (ZK (YK (l:=[0,1,2,3,4,5,6,7,8]) #[0,0,3,7,0,0,48,112,255] _ rfl (by kernel_rfl) (by kernel_rfl) St.drawn (fun _ h=>h) ?_)))))
    iterate 2 refine Zx ?_
    refine YR rfl rfl rfl rfl F.elem30 (by rfl) (by omega) (by exact SlM.plain (by assumption) (by (simp;omega))) rfl ?_;refine Xm rfl rfl rfl (by assumption) (by exact XP (by omega)) F.lay3 rfl rfl rfl ?_
    iterate 2 refine Zx ?_
    refine YR rfl rfl rfl rfl F.elem30 (by rfl) (by omega) (by exact SlM.plain (by assumption) (by (simp;omega))) rfl ?_;refine Xm rfl rfl rfl (by assumption) (by exact XP (by omega)) F.lay3 rfl rfl rfl ?_;refine YI ?_;refine Zo (Zn ?_)
    refine YA rfl (fun hc3=>?_) (fun hc3=>?_)
    ·replace hc3:=nT hc3
     refine ZK (Zm (l:=[0]) rfl ?_);refine ZB ?_;refine Zo (Zn (Yo (Xh ?_)))
     iterate 2 refine YS ?_
     refine Xh (YS ?_)
     refine Yk (.inr rfl) (.tmp rfl .nil) (fun w hw=>?_)
     refine ⟨_,rfl,(hw.c),?_⟩
     clear hw
     show _=Value.bool (decide (a_l.map (id:Int→Int)=b_l.map (id:Int→Int)))
     refine congrArg Value.bool (decide_eq_false (fun h9=>?_)).symm
     have h8:=map_at9 h9 (j:=k) (by omega) (by omega)
     replace h8:a_l[k]=b_l[k]:=h8
     contradiction
    ·replace hc3:=nF hc3
     refine YG (XR (Zn (Zm (l:=[0,1,2]) rfl ?_)));refine Zx ?_;refine XE rfl rfl rfl rfl rfl (by exact Xe (by decide) (by omega)) rfl ?_;refine ZB ?_;refine Zo ?_;refine WO (a':=[(5,_)]) (k+1) (.cons (k:=5) rfl (.cons (k:=4) rfl (.cons (k:=0) rfl (.cons (k:=1) rfl (.nil))))) (fun w hw=>by first|exact hw|exact hw.c) ?_ ?_
     ·refine ⟨rfl,by omega,?_⟩
      (intro j h2 h3 hj;rcases Nat.lt_or_ge j k with h9|h9;exact hI j h2 h3 h9;have hjk:j=k:=(by omega);subst hjk;first|assumption|exact snd_mk9 (by assumption) (by assumption)|(show id _=id _;unfold id;omega)|(simp_all;done))
     ·omega
   ·replace hc2:=dF hc2
    refine XK ?_
    iterate 2 refine XH ?_
    refine Wh (Zn (Y_pk [4] ?_));refine ZK (Zm (l:=[0]) rfl ?_);refine ZB ?_;refine Zo (Zn (Yo ?_))
    refine Yk (.inr rfl) (.tmp rfl .nil) (fun w hw=>?_)
    refine ⟨_,rfl,(hw.c),?_⟩
    clear hw
    show _=Value.bool (decide (a_l.map (id:Int→Int)=b_l.map (id:Int→Int)))
    exact congrArg Value.bool (decide_eq_true (map_ext9 (by omega) (fun j h2 h3=>hI j h2 h3 (by omega)))).symm
theorem SameL_ok (M:Mem) (a:ZP) (b:ZP) (ha0:ZP.ok M a) (hb1:ZP.ok M b):Fs Tryz.prog 44 [a.enc,b.enc] M (fun v=>v=Value.bool (decide (a.lt=b.lt))):=by
  obtain ⟨a_kind,⟨a_frm_addr,a_frm_id⟩,a_req,a_id,⟨a_avoid_a,a_avoid_c,WX⟩,a_done,⟨a_peer_addr,a_peer_id⟩,⟨a_peers_a,a_peers_c,a_peers_l⟩⟩:=a
  obtain ⟨b_kind,⟨b_frm_addr,b_frm_id⟩,b_req,b_id,⟨b_avoid_a,b_avoid_c,WW⟩,b_done,⟨b_peer_addr,b_peer_id⟩,⟨b_peers_a,b_peers_c,b_peers_l⟩⟩:=b
  have k_a_avoid:SlK M (oneI .i64) 1 ⟨a_avoid_a,a_avoid_c,WX⟩:=ha0.h0
  have s_a_avoid:SlM M a_avoid_a (WX.map (oneI .i64)) 1:=k_a_avoid.h1
  have n_a_avoid:(WX.map (oneI .i64)).length=WX.length:=List.length_map ..
  have m_a_avoid:WX.length≤9223372036854775807:=k_a_avoid.h2
  have c_a_avoid:WX.length≤a_avoid_c:=k_a_avoid.h3
  have k_a_peers:SlK M ZF.segs 21 ⟨a_peers_a,a_peers_c,a_peers_l⟩:=ha0.h1
  have s_a_peers:SlM M a_peers_a (a_peers_l.map ZF.segs) 21:=k_a_peers.h1
  have n_a_peers:(a_peers_l.map ZF.segs).length=a_peers_l.length:=List.length_map ..
  have m_a_peers:a_peers_l.length≤9223372036854775807:=k_a_peers.h2
  have c_a_peers:a_peers_l.length≤a_peers_c:=k_a_peers.h3
  have k_b_avoid:SlK M (oneI .i64) 1 ⟨b_avoid_a,b_avoid_c,WW⟩:=hb1.h0
  have s_b_avoid:SlM M b_avoid_a (WW.map (oneI .i64)) 1:=k_b_avoid.h1
  have n_b_avoid:(WW.map (oneI .i64)).length=WW.length:=List.length_map ..
  have m_b_avoid:WW.length≤9223372036854775807:=k_b_avoid.h2
  have c_b_avoid:WW.length≤b_avoid_c:=k_b_avoid.h3
  have k_b_peers:SlK M ZF.segs 21 ⟨b_peers_a,b_peers_c,b_peers_l⟩:=hb1.h1
  have s_b_peers:SlM M b_peers_a (b_peers_l.map ZF.segs) 21:=k_b_peers.h1
  have n_b_peers:(b_peers_l.map ZF.segs).length=b_peers_l.length:=List.length_map ..
  have m_b_peers:b_peers_l.length≤9223372036854775807:=k_b_peers.h2
  have c_b_peers:b_peers_l.length≤b_peers_c:=k_b_peers.h3
  refine Xv Tryz.func44 rfl Tryz.ntmps44 rfl ?_;intro H
  refine ZK (Zm (l:=[0,1,2]) rfl ?_)
  refine Xk ?_;intro b1
  refine Xk ?_;intro b2
  refine ZB ?_;refine Zo (Zn (Y_pk [4,3,2] ?_));refine ZK (Zm (l:=[0,1,2,3,4,5,6,7,8,9,10,11,12,13,14,15,16,17,18,19,20,21,22,23,24,25,26,27,28,29,30,31,32,33,34,35,36,37,38,39,40,41,42,43,44,45,46,47,48,49,50,51,52,53,54]) rfl ?_);refine Zk F.foff44_0 ?_;refine ZD F.lay3 ?_;refine Zk F.foff44_0 ?_;refine ZD F.lay3 ?_;refine YI ?_;refine Zx ?_
  refine Yj 10 rfl (fun hc3=>?_) (fun hc3=>?_)
  ·replace hc3:=dT hc3
   refine Zk F.foff44_1 ?_;refine ZD F.lay25 ?_;refine Zk F.foff44_1 ?_;refine ZD F.lay25 ?_
   refine WF (m:=20) rfl rfl rfl rfl rfl (by constructor) (by constructor) F.lay25 F.kinds25 rfl F.guard25 (by exact XL (⟨_,_⟩)) (by exact XL (⟨_,_⟩)) rfl rfl rfl ?_;intro c4 he5
   replace he5:c4=true↔Segs.cells _=Segs.cells _:=he5
   obtain rfl:=eqD he5 (ZF.inj (x:=⟨_,_⟩) (y:=⟨_,_⟩));clear he5
   refine ZO ?_;refine Zx ?_
   refine Yj 17 rfl (fun hc6=>?_) (fun hc6=>?_)
   ·replace hc6:=dT hc6
    refine Zk F.foff44_2 ?_;refine ZD F.lay29 ?_;refine Zk F.foff44_2 ?_;refine ZD F.lay29 ?_;refine YI ?_;refine ZO ?_;refine Zx ?_
    refine Yj 24 rfl (fun hc7=>?_) (fun hc7=>?_)
    ·replace hc7:=dT hc7
     refine Zk F.foff44_3 ?_;refine ZD F.lay23 ?_;refine Zk F.foff44_3 ?_;refine ZD F.lay23 ?_
     refine WF (m:=20) rfl rfl rfl rfl rfl (by constructor) (by constructor) F.lay23 F.kinds23 rfl F.guard23 (WZ WE) (WZ WE) rfl rfl rfl ?_;intro c8 he9
     replace he9:c8=true↔Segs.cells _=Segs.cells _:=he9
     obtain rfl:=eqD he9 (Vj (x:=_) (y:=_));clear he9
     refine ZO ?_;refine Zx ?_
     refine Yj 31 rfl (fun hc10=>?_) (fun hc10=>?_)
     ·replace hc10:=dT hc10
      refine Zk F.foff44_4 ?_;refine ZD F.lay30 ?_;refine Zk F.foff44_4 ?_;refine ZD F.lay30 ?_;refine X_fs rfl rfl F.ok43 rfl (Ints_ok _ ⟨a_avoid_a,a_avoid_c,WX⟩ ⟨b_avoid_a,b_avoid_c,WW⟩ k_a_avoid k_b_avoid) rfl ?_
      rintro _ rfl
      refine ZO ?_;refine Zx ?_
      refine Yj 38 rfl (fun hc11=>?_) (fun hc11=>?_)
      ·replace hc11:=dT hc11
       simp only [ZF.eta,ZQ.eta,ZR.eta,ZP.eta,Yr.eta,ZW.eta,YQ.eta,Yc.eta] at hc11
       refine Zk F.foff44_5 ?_;refine ZD F.lay4 ?_;refine Zk F.foff44_5 ?_;refine ZD F.lay4 ?_;refine X_eqb rfl rfl rfl rfl rfl Tryz.underlying4 rfl ?_;refine ZO ?_;refine Zx ?_
       refine Yj 45 rfl (fun hc12=>?_) (fun hc12=>?_)
       ·replace hc12:=dT hc12
        refine Zk F.foff44_6 ?_;refine ZD F.lay25 ?_;refine Zk F.foff44_6 ?_;refine ZD F.lay25 ?_
        refine WF (m:=20) rfl rfl rfl rfl rfl (by constructor) (by constructor) F.lay25 F.kinds25 rfl F.guard25 (by exact XL (⟨_,_⟩)) (by exact XL (⟨_,_⟩)) rfl rfl rfl ?_;intro c13 he14
        replace he14:c13=true↔Segs.cells _=Segs.cells _:=he14
        obtain rfl:=eqD he14 (ZF.inj (x:=⟨_,_⟩) (y:=⟨_,_⟩));clear he14
        refine ZO ?_;refine Zx ?_
        refine Yj 52 rfl (fun hc15=>?_) (fun hc15=>?_)
        ·replace hc15:=dT hc15
         refine Zk F.foff44_7 ?_;refine ZD F.lay26 ?_;refine Zk F.foff44_7 ?_;refine ZD F.lay26 ?_;refine X_fs rfl rfl F.ok20 rfl (SameP_ok _ ⟨a_peers_a,a_peers_c,a_peers_l⟩ ⟨b_peers_a,b_peers_c,b_peers_l⟩ k_a_peers k_b_peers) rfl ?_
         rintro _ rfl
         refine ZO ?_;refine ZB ?_;refine Zo (Zn (Y_pk [4] ?_));refine Yo ?_
         refine Yk (.inr rfl) (.tmp rfl .nil) (fun w hw=>?_)
         refine ⟨_,rfl,(hw.c),?_⟩
         clear hw
         try simp only [List.map_id] at *
         refine congrArg Value.bool ?_
         exact decide_eq_decide.2 ⟨fun h9=>by simp_all [ZP.lt],fun h9=>by simp only [Lt.mk.injEq,ZP.lt] at h9;simp_all⟩
        ·replace hc15:=dF hc15
         iterate 5 refine Ya ?_
         refine ZO ?_;refine ZB ?_;refine Zo (Zn (Y_pk [4] ?_));refine Yo ?_
         refine Yk (.inr rfl) (.tmp rfl .nil) (fun w hw=>?_)
         refine ⟨_,rfl,(hw.c),?_⟩
         clear hw
         try simp only [List.map_id] at *
         refine congrArg Value.bool ?_
         exact (decide_eq_false (fun h9=>by simp only [Lt.mk.injEq,ZP.lt] at h9;simp_all)).symm
       ·replace hc12:=dF hc12
        iterate 5 refine Ya ?_
        refine ZO ?_;refine Zx ?_
        iterate 5 refine Ya ?_
        refine ZO ?_;refine ZB ?_;refine Zo (Zn (Y_pk [4] ?_));refine Yo ?_
        refine Yk (.inr rfl) (.tmp rfl .nil) (fun w hw=>?_)
        refine ⟨_,rfl,(hw.c),?_⟩
        clear hw
        try simp only [List.map_id] at *
        refine congrArg Value.bool ?_
        exact (decide_eq_false (fun h9=>by simp only [Lt.mk.injEq,ZP.lt] at h9;simp_all)).symm
      ·replace hc11:=dF hc11
       simp only [ZF.eta,ZQ.eta,ZR.eta,ZP.eta,Yr.eta,ZW.eta,YQ.eta,Yc.eta] at hc11
       iterate 5 refine Ya ?_
       refine ZO ?_;refine Zx ?_
       iterate 5 refine Ya ?_
       refine ZO ?_;refine Zx ?_
       iterate 5 refine Ya ?_
       refine ZO ?_;refine ZB ?_;refine Zo (Zn (Y_pk [4] ?_));refine Yo ?_
       refine Yk (.inr rfl) (.tmp rfl .nil) (fun w hw=>?_)
       refine ⟨_,rfl,(hw.c),?_⟩
       clear hw
       try simp only [List.map_id] at *
       refine congrArg Value.bool ?_
       exact (decide_eq_false (fun h9=>by simp only [Lt.mk.injEq,ZP.lt] at h9;simp_all)).symm
     ·replace hc10:=dF hc10
      iterate 5 refine Ya ?_
      refine ZO ?_;refine Zx ?_
      iterate 5 refine Ya ?_
      refine ZO ?_;refine Zx ?_
      iterate 5 refine Ya ?_
      refine ZO ?_;refine Zx ?_
      iterate 5 refine Ya ?_
      refine ZO ?_;refine ZB ?_;refine Zo (Zn (Y_pk [4] ?_));refine Yo ?_
      refine Yk (.inr rfl) (.tmp rfl .nil) (fun w hw=>?_)
      refine ⟨_,rfl,(hw.c),?_⟩
      clear hw
      try simp only [List.map_id] at *
      refine congrArg Value.bool ?_
      exact (decide_eq_false (fun h9=>by simp only [Lt.mk.injEq,ZP.lt] at h9;simp_all)).symm
    ·replace hc7:=dF hc7
     iterate 5 refine Ya ?_
     refine ZO ?_;refine Zx ?_
     iterate 5 refine Ya ?_
     refine ZO ?_;refine Zx ?_
     iterate 5 refine Ya ?_
     refine ZO ?_;refine Zx ?_
     iterate 5 refine Ya ?_
     refine ZO ?_;refine Zx ?_
     iterate 5 refine Ya ?_
     refine ZO ?_;refine ZB ?_;refine Zo (Zn (Y_pk [4] ?_));refine Yo ?_
     refine Yk (.inr rfl) (.tmp rfl .nil) (fun w hw=>?_)
     refine ⟨_,rfl,(hw.c),?_⟩
     clear hw
     try simp only [List.map_id] at *
     refine congrArg Value.bool ?_
     exact (decide_eq_false (fun h9=>by simp only [Lt.mk.injEq,ZP.lt] at h9;simp_all)).symm
   ·replace hc6:=dF hc6
    iterate 5 refine Ya ?_
    refine ZO ?_;refine Zx ?_
    iterate 5 refine Ya ?_
    refine ZO ?_;refine Zx ?_
    iterate 5 refine Ya ?_
    refine ZO ?_;refine Zx ?_
    iterate 5 refine Ya ?_
    refine ZO ?_;refine Zx ?_
    iterate 5 refine Ya ?_
    refine ZO ?_;refine Zx ?_
    iterate 5 refine Ya ?_
    refine ZO ?_;refine ZB ?_;refine Zo (Zn (Y_pk [4] ?_));refine Yo ?_
    refine Yk (.inr rfl) (.tmp rfl .nil) (fun w hw=>?_)
    refine ⟨_,rfl,(hw.c),?_⟩
    clear hw
    try simp only [List.map_id] at *
    refine congrArg Value.bool ?_
    exact (decide_eq_false (fun h9=>by simp only [Lt.mk.injEq,ZP.lt] at h9;simp_all)).symm
  ·replace hc3:=dF hc3
   iterate 5 refine Ya ?_
   refine ZO ?_;refine Zx ?_
   iterate 5 refine Ya ?_
   refine ZO ?_;refine Zx ?_
   iterate 5 refine Ya ?_
   refine ZO ?_;refine Zx ?_
   iterate 5 refine Ya ?_
   refine ZO ?_;refine Zx ?_
   iterate 5 refine Ya ?_
   refine ZO ?_;refine Zx ?_
   iterate 5 refine Ya ?_
   refine ZO ?_;refine Zx ?_
   iterate 5 refine Ya ?_
   refine ZO ?_;refine ZB ?_;refine Zo (Zn (Y_pk [4] ?_));refine Yo ?_
   refine Yk (.inr rfl) (.tmp rfl .nil) (fun w hw=>?_)
   refine ⟨_,rfl,(hw.c),?_⟩
   clear hw
   try simp only [List.map_id] at *
   refine congrArg Value.bool ?_
   exact (decide_eq_false (fun h9=>by simp only [Lt.mk.injEq,ZP.lt] at h9;simp_all)).symm
theorem Sends_ok (M:Mem) (a:(Sl Yr)) (b:(Sl Yr)) (ha0:SlK M Yr.segs 68 a) (ha1:∀ y∈(a).l,Yr.ok M y) (hb2:SlK M Yr.segs 68 b) (hb3:∀ y∈(b).l,Yr.ok M y):Fs Tryz.prog 15 [Sl.val a,Sl.val b] M (fun v=>v=Value.bool (decide (a.l.map Yr.snd=b.l.map Yr.snd))):=by
  obtain ⟨a_a,a_c,a_l⟩:=a
  obtain ⟨b_a,b_c,b_l⟩:=b
  have k_a:SlK M Yr.segs 68 ⟨a_a,a_c,a_l⟩:=ha0
  have s_a:SlM M a_a (a_l.map Yr.segs) 68:=k_a.h1
  have n_a:(a_l.map Yr.segs).length=a_l.length:=List.length_map ..
  have m_a:a_l.length≤9223372036854775807:=k_a.h2
  have c_a:a_l.length≤a_c:=k_a.h3
  have l_a:∀ y∈a_l,Yr.ok M y:=ha1
  have k_b:SlK M Yr.segs 68 ⟨b_a,b_c,b_l⟩:=hb2
  have s_b:SlM M b_a (b_l.map Yr.segs) 68:=k_b.h1
  have n_b:(b_l.map Yr.segs).length=b_l.length:=List.length_map ..
  have m_b:b_l.length≤9223372036854775807:=k_b.h2
  have c_b:b_l.length≤b_c:=k_b.h3
  have l_b:∀ y∈b_l,Yr.ok M y:=hb3
  refine Xv Tryz.func15 rfl Tryz.ntmps15 rfl ?_;intro H
  refine ZK (Zm (l:=[0]) rfl ?_);refine ZB ?_;refine Zo (Zn ?_)
  iterate 2 refine ZK ?_
  refine Zm (l:=[0,1,2,3,4]) rfl ?_;refine Zx ?_;refine YY F.elem35 ?_;refine Zx ?_;refine YY F.elem35 ?_;refine YI ?_;refine Zo (Zn (Y_pk [10,4,0,1] ?_))
  refine YA rfl (fun hc1=>?_) (fun hc1=>?_)
  ·replace hc1:=nT hc1
   refine ZK (Zm (l:=[0]) rfl ?_);refine ZB ?_;refine Zo (Zn (Y_pk [4,0,1] ?_));refine Yo (YS ?_)
   refine Yk (.inr rfl) (.tmp rfl .nil) (fun w hw=>?_)
   refine ⟨_,rfl,(hw.c),?_⟩
   clear hw
   show _=Value.bool (decide (a_l.map Yr.snd=b_l.map Yr.snd))
   exact congrArg Value.bool (decide_eq_false (fun h9=>by have h8:=map_len9 h9;omega)).symm
  ·replace hc1:=nF hc1
   refine YG (Zn (Y_pk [4,0,1] ?_))
   iterate 2 refine ZK ?_
   refine Zm (l:=[0]) rfl ?_;refine ZB ?_;refine Zo (Zn (Xc (Y_pk [5,4,0,1] ?_)));refine WV (.succ .zero) (fun (k:Nat) z=>z=[(5,.int .i64 (k:Int))]∧k≤a_l.length∧(∀ j (h2:j<a_l.length) (h3:j<b_l.length),j<k→Yr.snd a_l[j]=Yr.snd b_l[j])) (fun k=>a_l.length-k) (0) (⟨rfl,by omega,by (intro j h2 h3 hj;omega)⟩) ?_
   rintro k _ ⟨rfl,hk,hI⟩
   iterate 2 refine ZK ?_
   refine Zm (l:=[0,1,2,3]) rfl ?_
   iterate 2 refine Zx ?_
   refine YY F.elem35 ?_;refine YI ?_;refine Zo (Zn ?_)
   refine YA rfl (fun hc2=>?_) (fun hc2=>?_)
   ·replace hc2:=dT hc2
    refine YG (Zn (ZK (Xc (ZK (YK (l:=[0,1,2,3,4,5,6,7,8,9,10,11,12,13,14,15,16,17,18,19,20,21,22,23,24]) #[0,0,3,7,15,0,0,96,224,480,1023,2047,4095,4095,16383,32767,65535,4095,4095,397311,921599,1970175,4194303,8388607,16777215] _ rfl (by kernel_rfl) (by kernel_rfl) St.drawn (fun _ h=>h) ?_)))))
    iterate 2 refine Zx ?_
    refine YR rfl rfl rfl rfl F.elem35 (by rfl) (by omega) (by exact SlM.plain (by assumption) (by (simp;omega))) rfl ?_;refine XC rfl rfl rfl (by exact SlM.plain (by assumption) (by (simp;omega))) F.foff49_0 rfl ?_;refine Xm rfl rfl rfl (by assumption) (by exact XP (by omega)) F.lay3 rfl rfl rfl ?_
    iterate 2 refine Zx ?_
    refine YR rfl rfl rfl rfl F.elem35 (by rfl) (by omega) (by exact SlM.plain (by assumption) (by (simp;omega))) rfl ?_;refine XC rfl rfl rfl (by exact SlM.plain (by assumption) (by (simp;omega))) F.foff49_0 rfl ?_;refine Xm rfl rfl rfl (by assumption) (by exact XP (by omega)) F.lay3 rfl rfl rfl ?_;refine YI ?_;refine Zx ?_
    refine Yj 28 rfl (fun hc3=>?_) (fun hc3=>?_)
    ·replace hc3:=nT hc3
     simp only [List.get_eq_getElem] at hc3
     iterate 12 refine Ya ?_
     refine ZO ?_;refine Zo (Zn (Xi rfl ?_));refine ZK (Zm (l:=[0]) rfl ?_);refine ZB ?_;refine Zo (Zn (Yo (Xh ?_)))
     iterate 2 refine YS ?_
     refine Xh (YS ?_)
     refine Yk (.inr rfl) (.tmp rfl .nil) (fun w hw=>?_)
     refine ⟨_,rfl,(hw.c),?_⟩
     clear hw
     show _=Value.bool (decide (a_l.map Yr.snd=b_l.map Yr.snd))
     refine congrArg Value.bool (decide_eq_false (fun h9=>?_)).symm
     have h8:=map_at9 h9 (j:=k) (by omega) (by omega)
     have h7:=congrArg Snd.to h8
     have h6:=congrArg Snd.letter h8
     simp only [Yr.snd] at h7 h6
     contradiction
    ·replace hc3:=nF hc3
     simp only [List.get_eq_getElem] at hc3
     iterate 2 refine Zx ?_
     refine YR rfl rfl rfl rfl F.elem35 (by rfl) (by omega) (by exact SlM.plain (by assumption) (by (simp;omega))) rfl ?_;refine XC rfl rfl rfl (by exact SlM.plain (by assumption) (by (simp;omega))) F.foff49_1 rfl ?_;refine Xm rfl rfl rfl (by assumption) (by exact XP (by omega)) F.lay44 rfl rfl rfl ?_
     iterate 2 refine Zx ?_
     refine YR rfl rfl rfl rfl F.elem35 (by rfl) (by omega) (by exact SlM.plain (by assumption) (by (simp;omega))) rfl ?_;refine XC rfl rfl rfl (by exact SlM.plain (by assumption) (by (simp;omega))) F.foff49_1 rfl ?_;refine Xm rfl rfl rfl (by assumption) (by exact XP (by omega)) F.lay44 rfl rfl rfl ?_;refine X_fs rfl rfl F.ok44 rfl (SameL_ok _ a_l[k].letter b_l[k].letter (l_a _ (List.getElem_mem (n:=k) (show k<a_l.length by omega))).h0 (l_b _ (List.getElem_mem (n:=k) (show k<b_l.length by omega))).h0) rfl ?_
     rintro _ rfl
     refine Xj ?_;refine ZO ?_;refine Zo (Zn ?_)
     refine YA rfl (fun hc4=>?_) (fun hc4=>?_)
     ·replace hc4:=nT hc4
      refine ZK (Zm (l:=[0]) rfl ?_);refine ZB ?_;refine Zo (Zn (Yo (Xh ?_)))
      iterate 2 refine YS ?_
      refine Xh (YS ?_)
      refine Yk (.inr rfl) (.tmp rfl .nil) (fun w hw=>?_)
      refine ⟨_,rfl,(hw.c),?_⟩
      clear hw
      show _=Value.bool (decide (a_l.map Yr.snd=b_l.map Yr.snd))
      refine congrArg Value.bool (decide_eq_false (fun h9=>?_)).symm
      have h8:=map_at9 h9 (j:=k) (by omega) (by omega)
      have h7:=congrArg Snd.to h8
      have h6:=congrArg Snd.letter h8
      simp only [Yr.snd] at h7 h6
      contradiction
     ·replace hc4:=nF hc4
      refine YG (XR (Zn (Zm (l:=[0,1,2]) rfl ?_)));refine Zx ?_;refine XE rfl rfl rfl rfl rfl (by exact Xe (by decide) (by omega)) rfl ?_;refine ZB ?_;refine Zo ?_;refine WO (a':=[(5,_)]) (k+1) (.cons (k:=5) rfl (.cons (k:=4) rfl (.cons (k:=0) rfl (.cons (k:=1) rfl (.nil))))) (fun w hw=>by first|exact hw|exact hw.c) ?_ ?_
      ·refine ⟨rfl,by omega,?_⟩
       (intro j h2 h3 hj;rcases Nat.lt_or_ge j k with h9|h9;exact hI j h2 h3 h9;have hjk:j=k:=(by omega);subst hjk;first|assumption|exact snd_mk9 (by assumption) (by assumption)|(show id _=id _;unfold id;omega)|(simp_all;done))
      ·omega
   ·replace hc2:=dF hc2
    refine XK ?_
    iterate 2 refine XH ?_
    refine Wh (Zn (Y_pk [4] ?_));refine ZK (Zm (l:=[0]) rfl ?_);refine ZB ?_;refine Zo (Zn (Yo ?_))
    refine Yk (.inr rfl) (.tmp rfl .nil) (fun w hw=>?_)
    refine ⟨_,rfl,(hw.c),?_⟩
    clear hw
    show _=Value.bool (decide (a_l.map Yr.snd=b_l.map Yr.snd))
    exact congrArg Value.bool (decide_eq_true (map_ext9 (by omega) (fun j h2 h3=>hI j h2 h3 (by omega)))).symm
theorem SameN_ok (M:Mem) (a:ZR) (b:ZR) (ha0:ZR.ok M a) (hb1:ZR.ok M b):Fs Tryz.prog 14 [a.enc,b.enc] M (fun v=>v=Value.bool (decide (a.nd=b.nd))):=by
  obtain ⟨⟨⟨a_table_self_addr,a_table_self_id⟩,⟨a_table_pred_addr,a_table_pred_id⟩,⟨a_table_succ_a,a_table_succ_c,WN⟩,⟨a_table_fingers_a,a_table_fingers_c,Wx⟩⟩,a_copies,a_joined,a_boot,a_cursor,a_req,a_askTo,a_askReq,a_pingTo,a_pingReq,a_findTo,a_findReq,a_findID,⟨a_avoid_a,a_avoid_c,WX⟩,a_hops,a_turn⟩:=a
  obtain ⟨⟨⟨b_table_self_addr,b_table_self_id⟩,⟨b_table_pred_addr,b_table_pred_id⟩,⟨b_table_succ_a,b_table_succ_c,WM⟩,⟨b_table_fingers_a,b_table_fingers_c,Wv⟩⟩,b_copies,b_joined,b_boot,b_cursor,b_req,b_askTo,b_askReq,b_pingTo,b_pingReq,b_findTo,b_findReq,b_findID,⟨b_avoid_a,b_avoid_c,WW⟩,b_hops,b_turn⟩:=b
  have k_a_table:ZQ.ok M ⟨⟨a_table_self_addr,a_table_self_id⟩,⟨a_table_pred_addr,a_table_pred_id⟩,⟨a_table_succ_a,a_table_succ_c,WN⟩,⟨a_table_fingers_a,a_table_fingers_c,Wx⟩⟩:=ha0.h0
  have k_a_table_succ:SlK M ZF.segs 21 ⟨a_table_succ_a,a_table_succ_c,WN⟩:=ha0.h0.h0
  have s_a_table_succ:SlM M a_table_succ_a (WN.map ZF.segs) 21:=k_a_table_succ.h1
  have n_a_table_succ:(WN.map ZF.segs).length=WN.length:=List.length_map ..
  have m_a_table_succ:WN.length≤9223372036854775807:=k_a_table_succ.h2
  have c_a_table_succ:WN.length≤a_table_succ_c:=k_a_table_succ.h3
  have k_a_table_fingers:SlK M ZF.segs 21 ⟨a_table_fingers_a,a_table_fingers_c,Wx⟩:=ha0.h0.h1
  have s_a_table_fingers:SlM M a_table_fingers_a (Wx.map ZF.segs) 21:=k_a_table_fingers.h1
  have n_a_table_fingers:(Wx.map ZF.segs).length=Wx.length:=List.length_map ..
  have m_a_table_fingers:Wx.length≤9223372036854775807:=k_a_table_fingers.h2
  have c_a_table_fingers:Wx.length≤a_table_fingers_c:=k_a_table_fingers.h3
  have k_a_avoid:SlK M (oneI .i64) 1 ⟨a_avoid_a,a_avoid_c,WX⟩:=ha0.h1
  have s_a_avoid:SlM M a_avoid_a (WX.map (oneI .i64)) 1:=k_a_avoid.h1
  have n_a_avoid:(WX.map (oneI .i64)).length=WX.length:=List.length_map ..
  have m_a_avoid:WX.length≤9223372036854775807:=k_a_avoid.h2
  have c_a_avoid:WX.length≤a_avoid_c:=k_a_avoid.h3
  have k_b_table:ZQ.ok M ⟨⟨b_table_self_addr,b_table_self_id⟩,⟨b_table_pred_addr,b_table_pred_id⟩,⟨b_table_succ_a,b_table_succ_c,WM⟩,⟨b_table_fingers_a,b_table_fingers_c,Wv⟩⟩:=hb1.h0
  have k_b_table_succ:SlK M ZF.segs 21 ⟨b_table_succ_a,b_table_succ_c,WM⟩:=hb1.h0.h0
  have s_b_table_succ:SlM M b_table_succ_a (WM.map ZF.segs) 21:=k_b_table_succ.h1
  have n_b_table_succ:(WM.map ZF.segs).length=WM.length:=List.length_map ..
  have m_b_table_succ:WM.length≤9223372036854775807:=k_b_table_succ.h2
  have c_b_table_succ:WM.length≤b_table_succ_c:=k_b_table_succ.h3
  have k_b_table_fingers:SlK M ZF.segs 21 ⟨b_table_fingers_a,b_table_fingers_c,Wv⟩:=hb1.h0.h1
  have s_b_table_fingers:SlM M b_table_fingers_a (Wv.map ZF.segs) 21:=k_b_table_fingers.h1
  have n_b_table_fingers:(Wv.map ZF.segs).length=Wv.length:=List.length_map ..
  have m_b_table_fingers:Wv.length≤9223372036854775807:=k_b_table_fingers.h2
  have c_b_table_fingers:Wv.length≤b_table_fingers_c:=k_b_table_fingers.h3
  have k_b_avoid:SlK M (oneI .i64) 1 ⟨b_avoid_a,b_avoid_c,WW⟩:=hb1.h1
  have s_b_avoid:SlM M b_avoid_a (WW.map (oneI .i64)) 1:=k_b_avoid.h1
  have n_b_avoid:(WW.map (oneI .i64)).length=WW.length:=List.length_map ..
  have m_b_avoid:WW.length≤9223372036854775807:=k_b_avoid.h2
  have c_b_avoid:WW.length≤b_avoid_c:=k_b_avoid.h3
  refine Xv Tryz.func14 rfl Tryz.ntmps14 rfl ?_;intro H
  refine ZK (Zm (l:=[0,1,2]) rfl ?_)
  refine Xk ?_;intro b1
  refine Xk ?_;intro b2
  refine ZB ?_;refine Zo (Zn (Y_pk [4,3,2] ?_));refine ZK ?_;refine C_cutX (α:=Bool) (fun b:Bool=>[(5,.bool b)]) (fun b:Bool=>(b=true↔a_copies=b_copies∧a_joined=b_joined∧a_boot=b_boot∧a_cursor=b_cursor∧a_req=b_req∧a_askTo=b_askTo∧a_askReq=b_askReq)) (.cons (k:=4) rfl (.cons (k:=3) rfl (.cons (k:=2) rfl .nil))) ?_ ?_
  ·skip
   refine Zm (l:=[0,1,2,3,4,5,6,7,8,9,10,11,12,13,14,15,16,17,18,19,20,21,22,23,24,25,26,27,28,29,30,31,32,33,34,35,36,37,38,39,40,41,42,43,44,45,46,47]) rfl ?_;refine Zk F.foff32_1 ?_;refine ZD F.lay3 ?_;refine Zk F.foff32_1 ?_;refine ZD F.lay3 ?_;refine YI ?_;refine Zx ?_
   refine Yj 12 rfl (fun hc3=>?_) (fun hc3=>?_)
   ·replace hc3:=dT hc3
    refine Zk F.foff32_2 ?_;refine ZD F.lay4 ?_;refine Zk F.foff32_2 ?_;refine ZD F.lay4 ?_;refine X_eqb rfl rfl rfl rfl rfl Tryz.underlying4 rfl ?_;refine ZO ?_;refine Zx ?_
    refine Yj 19 rfl (fun hc4=>?_) (fun hc4=>?_)
    ·replace hc4:=dT hc4
     refine Zk F.foff32_3 ?_;refine ZD F.lay3 ?_;refine Zk F.foff32_3 ?_;refine ZD F.lay3 ?_;refine YI ?_;refine ZO ?_;refine Zx ?_
     refine Yj 26 rfl (fun hc5=>?_) (fun hc5=>?_)
     ·replace hc5:=dT hc5
      refine Zk F.foff32_4 ?_;refine ZD F.lay3 ?_;refine Zk F.foff32_4 ?_;refine ZD F.lay3 ?_;refine YI ?_;refine ZO ?_;refine Zx ?_
      refine Yj 33 rfl (fun hc6=>?_) (fun hc6=>?_)
      ·replace hc6:=dT hc6
       refine Zk F.foff32_5 ?_;refine ZD F.lay29 ?_;refine Zk F.foff32_5 ?_;refine ZD F.lay29 ?_;refine YI ?_;refine ZO ?_;refine Zx ?_
       refine Yj 40 rfl (fun hc7=>?_) (fun hc7=>?_)
       ·replace hc7:=dT hc7
        refine Zk F.foff32_6 ?_;refine ZD F.lay3 ?_;refine Zk F.foff32_6 ?_;refine ZD F.lay3 ?_;refine YI ?_;refine ZO ?_;refine Zx ?_
        refine Yj 47 rfl (fun hc8=>?_) (fun hc8=>?_)
        ·replace hc8:=dT hc8
         refine Zk F.foff32_7 ?_;refine ZD F.lay29 ?_;refine Zk F.foff32_7 ?_;refine ZD F.lay29 ?_;refine YI ?_;refine ZO ?_;refine ZB ?_;refine Zo ?_
         exact XS (decide (a_askReq=b_askReq)) ((by constructor <;> intro h9 <;> simp_all)) (.cons (k:=5) rfl (.cons (k:=4) rfl (.cons (k:=3) rfl (.cons (k:=2) rfl .nil)))) (fun w hw=>by first|exact hw|exact hw.c)
        ·replace hc8:=dF hc8
         iterate 5 refine Ya ?_
         refine ZO ?_;refine ZB ?_;refine Zo ?_
         exact XS (false) ((by constructor <;> intro h9 <;> simp_all)) (.cons (k:=5) rfl (.cons (k:=4) rfl (.cons (k:=3) rfl (.cons (k:=2) rfl .nil)))) (fun w hw=>by first|exact hw|exact hw.c)
       ·replace hc7:=dF hc7
        iterate 5 refine Ya ?_
        refine ZO ?_;refine Zx ?_
        iterate 5 refine Ya ?_
        refine ZO ?_;refine ZB ?_;refine Zo ?_
        exact XS (false) ((by constructor <;> intro h9 <;> simp_all)) (.cons (k:=5) rfl (.cons (k:=4) rfl (.cons (k:=3) rfl (.cons (k:=2) rfl .nil)))) (fun w hw=>by first|exact hw|exact hw.c)
      ·replace hc6:=dF hc6
       iterate 5 refine Ya ?_
       refine ZO ?_;refine Zx ?_
       iterate 5 refine Ya ?_
       refine ZO ?_;refine Zx ?_
       iterate 5 refine Ya ?_
       refine ZO ?_;refine ZB ?_;refine Zo ?_
       exact XS (false) ((by constructor <;> intro h9 <;> simp_all)) (.cons (k:=5) rfl (.cons (k:=4) rfl (.cons (k:=3) rfl (.cons (k:=2) rfl .nil)))) (fun w hw=>by first|exact hw|exact hw.c)
     ·replace hc5:=dF hc5
      iterate 5 refine Ya ?_
      refine ZO ?_;refine Zx ?_
      iterate 5 refine Ya ?_
      refine ZO ?_;refine Zx ?_
      iterate 5 refine Ya ?_
      refine ZO ?_;refine Zx ?_
      iterate 5 refine Ya ?_
      refine ZO ?_;refine ZB ?_;refine Zo ?_
      exact XS (false) ((by constructor <;> intro h9 <;> simp_all)) (.cons (k:=5) rfl (.cons (k:=4) rfl (.cons (k:=3) rfl (.cons (k:=2) rfl .nil)))) (fun w hw=>by first|exact hw|exact hw.c)
    ·replace hc4:=dF hc4
     iterate 5 refine Ya ?_
     refine ZO ?_;refine Zx ?_
     iterate 5 refine Ya ?_
     refine ZO ?_;refine Zx ?_
     iterate 5 refine Ya ?_
     refine ZO ?_;refine Zx ?_
     iterate 5 refine Ya ?_
     refine ZO ?_;refine Zx ?_
     iterate 5 refine Ya ?_
     refine ZO ?_;refine ZB ?_;refine Zo ?_
     exact XS (false) ((by constructor <;> intro h9 <;> simp_all)) (.cons (k:=5) rfl (.cons (k:=4) rfl (.cons (k:=3) rfl (.cons (k:=2) rfl .nil)))) (fun w hw=>by first|exact hw|exact hw.c)
   ·replace hc3:=dF hc3
    iterate 5 refine Ya ?_
    refine ZO ?_;refine Zx ?_
    iterate 5 refine Ya ?_
    refine ZO ?_;refine Zx ?_
    iterate 5 refine Ya ?_
    refine ZO ?_;refine Zx ?_
    iterate 5 refine Ya ?_
    refine ZO ?_;refine Zx ?_
    iterate 5 refine Ya ?_
    refine ZO ?_;refine Zx ?_
    iterate 5 refine Ya ?_
    refine ZO ?_;refine ZB ?_;refine Zo ?_
    exact XS (false) ((by constructor <;> intro h9 <;> simp_all)) (.cons (k:=5) rfl (.cons (k:=4) rfl (.cons (k:=3) rfl (.cons (k:=2) rfl .nil)))) (fun w hw=>by first|exact hw|exact hw.c)
  ·rintro b5 hb5
   refine ZK ?_;refine C_cutX (α:=Bool) (fun b:Bool=>[(6,.bool b)]) (fun b:Bool=>(b=true↔a_pingTo=b_pingTo∧a_pingReq=b_pingReq∧a_findTo=b_findTo∧a_findReq=b_findReq∧a_findID=b_findID∧a_hops=b_hops∧a_turn=b_turn)) (.cons (k:=5) rfl (.cons (k:=4) rfl (.cons (k:=3) rfl (.cons (k:=2) rfl .nil)))) ?_ ?_
   ·skip
    refine Zm (l:=[0,1,2,3,4,5,6,7,8,9,10,11,12,13,14,15,16,17,18,19,20,21,22,23,24,25,26,27,28,29,30,31,32,33,34,35,36,37,38,39,40,41,42,43,44,45,46,47]) rfl ?_;refine Zk F.foff32_8 ?_;refine ZD F.lay3 ?_;refine Zk F.foff32_8 ?_;refine ZD F.lay3 ?_;refine YI ?_;refine Zx ?_
    refine Yj 59 rfl (fun hc9=>?_) (fun hc9=>?_)
    ·replace hc9:=dT hc9
     refine Zk F.foff32_9 ?_;refine ZD F.lay29 ?_;refine Zk F.foff32_9 ?_;refine ZD F.lay29 ?_;refine YI ?_;refine ZO ?_;refine Zx ?_
     refine Yj 66 rfl (fun hc10=>?_) (fun hc10=>?_)
     ·replace hc10:=dT hc10
      refine Zk F.foff32_10 ?_;refine ZD F.lay3 ?_;refine Zk F.foff32_10 ?_;refine ZD F.lay3 ?_;refine YI ?_;refine ZO ?_;refine Zx ?_
      refine Yj 73 rfl (fun hc11=>?_) (fun hc11=>?_)
      ·replace hc11:=dT hc11
       refine Zk F.foff32_11 ?_;refine ZD F.lay29 ?_;refine Zk F.foff32_11 ?_;refine ZD F.lay29 ?_;refine YI ?_;refine ZO ?_;refine Zx ?_
       refine Yj 80 rfl (fun hc12=>?_) (fun hc12=>?_)
       ·replace hc12:=dT hc12
        refine Zk F.foff32_12 ?_;refine ZD F.lay23 ?_;refine Zk F.foff32_12 ?_;refine ZD F.lay23 ?_
        refine WF (m:=20) rfl rfl rfl rfl rfl (by constructor) (by constructor) F.lay23 F.kinds23 rfl F.guard23 (WZ WE) (WZ WE) rfl rfl rfl ?_;intro c13 he14
        replace he14:c13=true↔Segs.cells _=Segs.cells _:=he14
        obtain rfl:=eqD he14 (Vj (x:=_) (y:=_));clear he14
        refine ZO ?_;refine Zx ?_
        refine Yj 87 rfl (fun hc15=>?_) (fun hc15=>?_)
        ·replace hc15:=dT hc15
         refine Zk F.foff32_14 ?_;refine ZD F.lay3 ?_;refine Zk F.foff32_14 ?_;refine ZD F.lay3 ?_;refine YI ?_;refine ZO ?_;refine Zx ?_
         refine Yj 94 rfl (fun hc16=>?_) (fun hc16=>?_)
         ·replace hc16:=dT hc16
          refine Zk F.foff32_15 ?_;refine ZD F.lay3 ?_;refine Zk F.foff32_15 ?_;refine ZD F.lay3 ?_;refine YI ?_;refine ZO ?_;refine ZB ?_;refine Zo ?_
          exact XS (decide (a_turn=b_turn)) ((by constructor <;> intro h9 <;> simp_all)) (.cons (k:=6) rfl (.cons (k:=5) rfl (.cons (k:=4) rfl (.cons (k:=3) rfl (.cons (k:=2) rfl .nil))))) (fun w hw=>by first|exact hw|exact hw.c)
         ·replace hc16:=dF hc16
          iterate 5 refine Ya ?_
          refine ZO ?_;refine ZB ?_;refine Zo ?_
          exact XS (false) ((by constructor <;> intro h9 <;> simp_all)) (.cons (k:=6) rfl (.cons (k:=5) rfl (.cons (k:=4) rfl (.cons (k:=3) rfl (.cons (k:=2) rfl .nil))))) (fun w hw=>by first|exact hw|exact hw.c)
        ·replace hc15:=dF hc15
         iterate 5 refine Ya ?_
         refine ZO ?_;refine Zx ?_
         iterate 5 refine Ya ?_
         refine ZO ?_;refine ZB ?_;refine Zo ?_
         exact XS (false) ((by constructor <;> intro h9 <;> simp_all)) (.cons (k:=6) rfl (.cons (k:=5) rfl (.cons (k:=4) rfl (.cons (k:=3) rfl (.cons (k:=2) rfl .nil))))) (fun w hw=>by first|exact hw|exact hw.c)
       ·replace hc12:=dF hc12
        iterate 5 refine Ya ?_
        refine ZO ?_;refine Zx ?_
        iterate 5 refine Ya ?_
        refine ZO ?_;refine Zx ?_
        iterate 5 refine Ya ?_
        refine ZO ?_;refine ZB ?_;refine Zo ?_
        exact XS (false) ((by constructor <;> intro h9 <;> simp_all)) (.cons (k:=6) rfl (.cons (k:=5) rfl (.cons (k:=4) rfl (.cons (k:=3) rfl (.cons (k:=2) rfl .nil))))) (fun w hw=>by first|exact hw|exact hw.c)
      ·replace hc11:=dF hc11
       iterate 5 refine Ya ?_
       refine ZO ?_;refine Zx ?_
       iterate 5 refine Ya ?_
       refine ZO ?_;refine Zx ?_
       iterate 5 refine Ya ?_
       refine ZO ?_;refine Zx ?_
       iterate 5 refine Ya ?_
       refine ZO ?_;refine ZB ?_;refine Zo ?_
       exact XS (false) ((by constructor <;> intro h9 <;> simp_all)) (.cons (k:=6) rfl (.cons (k:=5) rfl (.cons (k:=4) rfl (.cons (k:=3) rfl (.cons (k:=2) rfl .nil))))) (fun w hw=>by first|exact hw|exact hw.c)
     ·replace hc10:=dF hc10
      iterate 5 refine Ya ?_
      refine ZO ?_;refine Zx ?_
      iterate 5 refine Ya ?_
      refine ZO ?_;refine Zx ?_
      iterate 5 refine Ya ?_
      refine ZO ?_;refine Zx ?_
      iterate 5 refine Ya ?_
      refine ZO ?_;refine Zx ?_
      iterate 5 refine Ya ?_
      refine ZO ?_;refine ZB ?_;refine Zo ?_
      exact XS (false) ((by constructor <;> intro h9 <;> simp_all)) (.cons (k:=6) rfl (.cons (k:=5) rfl (.cons (k:=4) rfl (.cons (k:=3) rfl (.cons (k:=2) rfl .nil))))) (fun w hw=>by first|exact hw|exact hw.c)
    ·replace hc9:=dF hc9
     iterate 5 refine Ya ?_
     refine ZO ?_;refine Zx ?_
     iterate 5 refine Ya ?_
     refine ZO ?_;refine Zx ?_
     iterate 5 refine Ya ?_
     refine ZO ?_;refine Zx ?_
     iterate 5 refine Ya ?_
     refine ZO ?_;refine Zx ?_
     iterate 5 refine Ya ?_
     refine ZO ?_;refine Zx ?_
     iterate 5 refine Ya ?_
     refine ZO ?_;refine ZB ?_;refine Zo ?_
     exact XS (false) ((by constructor <;> intro h9 <;> simp_all)) (.cons (k:=6) rfl (.cons (k:=5) rfl (.cons (k:=4) rfl (.cons (k:=3) rfl (.cons (k:=2) rfl .nil))))) (fun w hw=>by first|exact hw|exact hw.c)
   ·rintro b6 hb6
    refine ZK (Zm (l:=[0,1,2,3,4,5,6,7,8,9,10,11,12,13,14,15,16,17,18]) rfl ?_);refine Zk F.foff32_0 ?_;refine ZD F.lay28 ?_;refine Zk F.foff32_0 ?_;refine ZD F.lay28 ?_;refine X_fs rfl rfl F.ok42 rfl (SameT_ok _ ⟨⟨a_table_self_addr,a_table_self_id⟩,⟨a_table_pred_addr,a_table_pred_id⟩,⟨a_table_succ_a,a_table_succ_c,WN⟩,⟨a_table_fingers_a,a_table_fingers_c,Wx⟩⟩ ⟨⟨b_table_self_addr,b_table_self_id⟩,⟨b_table_pred_addr,b_table_pred_id⟩,⟨b_table_succ_a,b_table_succ_c,WM⟩,⟨b_table_fingers_a,b_table_fingers_c,Wv⟩⟩ k_a_table k_b_table) rfl ?_
    rintro _ rfl
    refine Zx ?_
    refine Yj 106 rfl (fun hc17=>?_) (fun hc17=>?_)
    ·replace hc17:=dT hc17
     refine Zx ?_;refine ZO ?_;refine Zx ?_
     refine Yj 109 rfl (fun hc18=>?_) (fun hc18=>?_)
     ·skip
      refine Zx ?_;refine ZO ?_;refine Zx ?_
      refine Yj 112 rfl (fun hc19=>?_) (fun hc19=>?_)
      ·skip
       refine Zk F.foff32_13 ?_;refine ZD F.lay30 ?_;refine Zk F.foff32_13 ?_;refine ZD F.lay30 ?_;refine X_fs rfl rfl F.ok43 rfl (Ints_ok _ ⟨a_avoid_a,a_avoid_c,WX⟩ ⟨b_avoid_a,b_avoid_c,WW⟩ k_a_avoid k_b_avoid) rfl ?_
       rintro _ rfl
       refine ZO ?_;refine ZB ?_;refine Zo (Zn (Y_pk [4] ?_));refine Yo ?_
       refine Yk (.inr rfl) (.tmp rfl .nil) (fun w hw=>?_)
       refine ⟨_,rfl,(hw.c),?_⟩
       clear hw
       try simp only [List.map_id] at *
       refine congrArg Value.bool ?_
       exact decide_eq_decide.2 ⟨fun h9=>by simp_all [ZR.nd],fun h9=>by simp only [Nd.mk.injEq,ZR.nd] at h9;simp_all⟩
      ·skip
       iterate 5 refine Ya ?_
       refine ZO ?_;refine ZB ?_;refine Zo (Zn (Y_pk [4] ?_));refine Yo ?_
       refine Yk (.inr rfl) (.tmp rfl .nil) (fun w hw=>?_)
       refine ⟨_,rfl,(hw.c),?_⟩
       clear hw
       try simp only [List.map_id] at *
       refine congrArg Value.bool ?_
       exact (decide_eq_false (fun h9=>by simp only [Nd.mk.injEq,ZR.nd] at h9;simp_all)).symm
     ·skip
      refine Ya ?_;refine ZO ?_;refine Zx ?_
      iterate 5 refine Ya ?_
      refine ZO ?_;refine ZB ?_;refine Zo (Zn (Y_pk [4] ?_));refine Yo ?_
      refine Yk (.inr rfl) (.tmp rfl .nil) (fun w hw=>?_)
      refine ⟨_,rfl,(hw.c),?_⟩
      clear hw
      try simp only [List.map_id] at *
      refine congrArg Value.bool ?_
      exact (decide_eq_false (fun h9=>by simp only [Nd.mk.injEq,ZR.nd] at h9;simp_all)).symm
    ·replace hc17:=dF hc17
     refine Ya ?_;refine ZO ?_;refine Zx ?_;refine Ya ?_;refine ZO ?_;refine Zx ?_
     iterate 5 refine Ya ?_
     refine ZO ?_;refine ZB ?_;refine Zo (Zn (Y_pk [4] ?_));refine Yo ?_
     refine Yk (.inr rfl) (.tmp rfl .nil) (fun w hw=>?_)
     refine ⟨_,rfl,(hw.c),?_⟩
     clear hw
     try simp only [List.map_id] at *
     refine congrArg Value.bool ?_
     exact (decide_eq_false (fun h9=>by simp only [Nd.mk.injEq,ZR.nd] at h9;simp_all)).symm
theorem BigL_ok (M:Mem) (l:ZP) (hl0:ZP.ok M l):Fs Tryz.prog 16 [l.enc] M (fun v=>∃ b:Bool,v=.bool b∧(b=false→l.avoid.l.length≤60∧l.peers.l.length≤60)):=by
  obtain ⟨Yb,⟨ZM,Ye⟩,YB,l_id,⟨ZY,ZX,ZN⟩,Ys,⟨ZI,ZS⟩,⟨ZZ,ZV,ZL⟩⟩:=l
  have Xl:SlK M (oneI .i64) 1 ⟨ZY,ZX,ZN⟩:=hl0.h0
  have Vu:SlM M ZY (ZN.map (oneI .i64)) 1:=Xl.h1
  have VK:(ZN.map (oneI .i64)).length=ZN.length:=List.length_map ..
  have Vx:ZN.length≤9223372036854775807:=Xl.h2
  have VM:ZN.length≤ZX:=Xl.h3
  have Xb:SlK M ZF.segs 21 ⟨ZZ,ZV,ZL⟩:=hl0.h1
  have XT:SlM M ZZ (ZL.map ZF.segs) 21:=Xb.h1
  have WR:(ZL.map ZF.segs).length=ZL.length:=List.length_map ..
  have Vw:ZL.length≤9223372036854775807:=Xb.h2
  have WS:ZL.length≤ZV:=Xb.h3
  refine Xv Tryz.func16 rfl Tryz.ntmps16 rfl ?_;intro H
  refine ZK (Zm (l:=[0,1]) rfl ?_)
  refine Xk ?_;intro b1
  refine ZB ?_;refine Zo (Zn (Y_pk [2,1] ?_));refine ZK (Zm (l:=[0,1,2,3,4,5,6,7,8,9,10]) rfl ?_);refine Zk F.foff44_4 ?_;refine ZD F.lay30 ?_;refine YY F.elem30 ?_;refine YI ?_;refine Zx ?_
  refine Yj 7 rfl (fun hc2=>?_) (fun hc2=>?_)
  ·replace hc2:=dT hc2
   iterate 4 refine Ya ?_
   refine ZO ?_;refine ZB ?_;refine Zo (Zn (Y_pk [2] ?_));refine Yo ?_
   refine Yk (.inr rfl) (.tmp rfl .nil) (fun w hw=>?_)
   refine ⟨_,rfl,hw.c,_,rfl,?_⟩
   clear hw
   intro h9
   (cases h9;done)
  ·replace hc2:=dF hc2
   refine Zk F.foff44_7 ?_;refine ZD F.lay26 ?_;refine YY F.elem26 ?_;refine YI ?_;refine ZO ?_;refine ZB ?_;refine Zo (Zn (Y_pk [2] ?_));refine Yo ?_
   refine Yk (.inr rfl) (.tmp rfl .nil) (fun w hw=>?_)
   refine ⟨_,rfl,hw.c,_,rfl,?_⟩
   clear hw
   intro h9
   (have h8:=of_decide_eq_false h9;exact ⟨by show ZN.length≤60;omega,by show ZL.length≤60;omega⟩)
theorem BigN_ok (M:Mem) (n:ZR) (hn0:ZR.ok M n):Fs Tryz.prog 9 [n.enc] M (fun v=>∃ b:Bool,v=.bool b∧(b=false→(n.table.succ.l.length≤40∧n.table.fingers.l.length≤200)∧n.avoid.l.length≤60)):=by
  obtain ⟨⟨⟨Za,Zb⟩,⟨Zf,Zh⟩,⟨Zj,Zi,Zg⟩,⟨Ze,Zd,Zc⟩⟩,Zr,Zs,ZH,Zv,ZT,ZC,ZA,Zw,Zq,Zy,Zp,Zz,⟨Zu,Zt,Zl⟩,ZG,ZJ⟩:=n
  have Yv:ZQ.ok M ⟨⟨Za,Zb⟩,⟨Zf,Zh⟩,⟨Zj,Zi,Zg⟩,⟨Ze,Zd,Zc⟩⟩:=hn0.h0
  have YM:SlK M ZF.segs 21 ⟨Zj,Zi,Zg⟩:=hn0.h0.h0
  have Wo:SlM M Zj (Zg.map ZF.segs) 21:=YM.h1
  have Wp:(Zg.map ZF.segs).length=Zg.length:=List.length_map ..
  have Wq:Zg.length≤9223372036854775807:=YM.h2
  have Wr:Zg.length≤Zi:=YM.h3
  have Yx:SlK M ZF.segs 21 ⟨Ze,Zd,Zc⟩:=hn0.h0.h1
  have XV:SlM M Ze (Zc.map ZF.segs) 21:=Yx.h1
  have XW:(Zc.map ZF.segs).length=Zc.length:=List.length_map ..
  have XX:Zc.length≤9223372036854775807:=Yx.h2
  have XY:Zc.length≤Zd:=Yx.h3
  have Yz:SlK M (oneI .i64) 1 ⟨Zu,Zt,Zl⟩:=hn0.h1
  have WQ:SlM M Zu (Zl.map (oneI .i64)) 1:=Yz.h1
  have Vi:(Zl.map (oneI .i64)).length=Zl.length:=List.length_map ..
  have Va:Zl.length≤9223372036854775807:=Yz.h2
  have Vk:Zl.length≤Zt:=Yz.h3
  refine Xv Tryz.func9 rfl Tryz.ntmps9 rfl ?_;intro H
  refine ZK (Zm (l:=[0,1]) rfl ?_)
  refine Xk ?_;intro b1
  refine ZB ?_;refine Zo (Zn (Y_pk [2,1] ?_));refine ZK (Zm (l:=[0,1,2,3,4,5,6,7,8,9]) rfl ?_);refine Zk F.foff32_0 ?_;refine ZD F.lay28 ?_;refine X_fs rfl rfl F.ok31 rfl (BigT_ok _ ⟨⟨Za,Zb⟩,⟨Zf,Zh⟩,⟨Zj,Zi,Zg⟩,⟨Ze,Zd,Zc⟩⟩ Yv) rfl ?_
  rintro _ rfl
  refine Zx ?_
  refine Yj 6 rfl (fun hc2=>?_) (fun hc2=>?_)
  ·replace hc2:=dT hc2
   simp only [ZF.eta,ZQ.eta,ZR.eta,ZP.eta,Yr.eta,ZW.eta,YQ.eta,Yc.eta] at hc2
   iterate 4 refine Ya ?_
   refine ZO ?_;refine ZB ?_;refine Zo (Zn (Y_pk [2] ?_));refine Yo ?_
   refine Yk (.inr rfl) (.tmp rfl .nil) (fun w hw=>?_)
   refine ⟨_,rfl,hw.c,_,rfl,?_⟩
   clear hw
   intro h9
   (cases h9;done)
  ·replace hc2:=dF hc2
   simp only [ZF.eta,ZQ.eta,ZR.eta,ZP.eta,Yr.eta,ZW.eta,YQ.eta,Yc.eta] at hc2
   refine Zk F.foff32_13 ?_;refine ZD F.lay30 ?_;refine YY F.elem30 ?_;refine YI ?_;refine ZO ?_;refine ZB ?_;refine Zo (Zn (Y_pk [2] ?_));refine Yo ?_
   refine Yk (.inr rfl) (.tmp rfl .nil) (fun w hw=>?_)
   refine ⟨_,rfl,hw.c,_,rfl,?_⟩
   clear hw
   intro h9
   (have h8:=of_decide_eq_false h9;refine ⟨⟨?_,?_⟩,by show Zl.length≤60;omega⟩ <;> simp_all <;> omega)
end Go.Proofs.YtajmnjefajknoaaGreat
namespace Go.Esp
def Uu (l:List Int) (a:Int):List Int:=if a∈l∨16≤l.length then l else l++[a]
theorem shunN_l (n:Nd) (a:Int):shunN n a={ n with avoid:=Uu n.avoid a }:=by
  unfold shunN Uu
  split <;> rfl
theorem nx_w64 (r:Int):w64 (r+1)=nxR r:=by
  unfold nxR w64
  rfl
theorem stab_alone {n:Nd} {l:List Int} (hj:n.joined=false) (hl:l=if n.findTo≠-1∧n.findTo≠n.boot then Uu n.avoid n.findTo else n.avoid):stabN n=UC { n with findID:=n.table.self.id,hops:=0,avoid:=l } n.boot:=by
  subst hl
  unfold stabN
  rw [if_pos hj]
  by_cases h:n.findTo≠-1∧n.findTo≠n.boot
  · simp only [if_pos h,shunN_l]
  · simp only [if_neg h]
theorem stab_joined {n m m2:Nd} (hj:n.joined=true) (h1:m=if n.askTo≠-1 then { n with table:=Wm n.table n.askTo,askTo:=-1 } else n) (h2:m2=if m.table.succ=[]∧m.table.pred≠Xf then Vc m m.table.pred [] else m) :
    stabN n=if m2.table.succ=[] then (m2,[]) else ({ m2 with req:=nxR m2.req,askTo:=(Wi m2.table).addr,askReq:=nxR m2.req },[⟨(Wi m2.table).addr,lett m2 3 (nxR m2.req)⟩]):=by
  subst h1 h2
  unfold stabN
  rw [if_neg (by rw [hj];decide)]
theorem fix_eq {n m:Nd} {id:Plc} (hj:n.joined=true) (hm:m=if n.findTo=-1 then { n with avoid:=[] } else { n with avoid:=Uu n.avoid n.findTo,table:=Wm n.table n.findTo,findTo:=-1 }) (hid:id=m.table.self.id+powP m.cursor.toNat) :
    fixN n=if (VL m.table id).2 then (VW m (VL m.table id).1,[]) else if (Wj m.table id m.avoid).2=false then ({ m with cursor:=0 },[]) else UC { m with findID:=id,hops:=0 } (Wj m.table id m.avoid).1.addr:=by
  subst hid hm
  unfold fixN
  rw [if_neg (by rw [hj];decide)]
  by_cases h:n.findTo=-1
  · simp only [if_pos h]
  · simp only [if_neg h,shunN_l]
theorem forget_big {t9 t:Tb} {a:Int} (h:t9=Wm t a) (hb:t.succ.length≤40∧t.fingers.length≤200):t9.succ.length≤40∧t9.fingers.length≤200:=by
  subst h
  unfold Wm
  refine ⟨Nat.le_trans (List.length_filter_le _ _) hb.1,?_⟩
  simp only [List.length_map]
  exact hb.2
theorem check_nil {n m:Nd} (hm:m=if n.pingTo≠-1 then { n with table:=Wm n.table n.pingTo,pingTo:=-1 } else n) (hl:knownT m.table=[]):checkN n=(m,[]):=by
  subst hm
  unfold checkN
  simp only
  rw [hl]
theorem check_cons {n m:Nd} {l:List ZF} {k:Nat} {a:Int} (hm:m=if n.pingTo≠-1 then { n with table:=Wm n.table n.pingTo,pingTo:=-1 } else n) (hl:knownT m.table=l) (hk:k<l.length) (he:m.turn.toNat % l.length=k) (ha:a=l[k].addr) :
    checkN n=({ m with req:=nxR m.req,pingTo:=a,pingReq:=nxR m.req,turn:=(m.turn+1) % 1000000 },[⟨a,lett m 6 (nxR m.req)⟩]):=by
  subst hm
  unfold checkN
  simp only
  rw [hl]
  match l,hk,he,ha with
  | p::l,hk,he,ha =>
    have h:(((p::l)[(if n.pingTo≠-1 then { n with table:=Wm n.table n.pingTo,pingTo:=-1 } else n).turn.toNat % (l.length+1)]?).getD Xf).addr=a:=by
      rw [show l.length+1=(p::l).length from rfl,he,List.getElem?_eq_getElem hk,ha]
      rfl
    simp only [h]
theorem tick_yes {n:Nd} {k:Int} {r:Nd×List Snd} (h:IsNd n) (h1:1≤k∧k≤3) (hr:r=if k=1 then stabN n else if k=2 then fixN n else checkN n):Uy n k=(r.1,r.2,0):=by
  subst hr
  unfold Uy
  rw [if_pos ⟨h,h1.1,h1.2⟩]
theorem tick_no {n:Nd} {k:Int} (h:¬(IsNd n∧1≤k∧k≤3)):Uy n k=(Nd.zero,[],1):=by
  unfold Uy
  rw [if_neg h]
theorem own_nd {n:ZR} {t9:ZQ} {s9:Sl Int} (ht:t9.tb=n.table.tb) (hl:s9.l=n.avoid.l) :
    ZR.nd ⟨t9,n.copies,n.joined,n.boot,n.cursor,n.req,n.askTo,n.askReq,n.pingTo,n.pingReq,n.findTo,n.findReq,n.findID,s9,n.hops,n.turn⟩=n.nd:=by
  unfold ZR.nd
  rw [ht,hl]
theorem own_big {t9 t:ZQ} (h:t9.tb=t.tb) (hb:t.succ.l.length≤40∧t.fingers.l.length≤200):t9.succ.l.length≤40∧t9.fingers.l.length≤200:=by
  have h1:t9.succ.l=t.succ.l:=congrArg Tb.succ h
  have h2:t9.fingers.l=t.fingers.l:=congrArg Tb.fingers h
  rw [h1,h2]
  exact hb
def SnE (M:Mem) (v:Value) (X:List Snd):Prop:=∃ o9:Sl Yr,v=o9.val∧sndl o9.l=X∧SlK M Yr.segs 68 o9∧∀ y∈o9.l,Yr.ok M y
def NE (M:Mem) (v:Value) (X:Nd):Prop:=∃ n9:ZR,v=n9.enc∧n9.nd=X∧ZR.ok M n9
def NsE (M:Mem) (v:Value) (X:Nd×List Snd):Prop:=∃ (n9:ZR) (o9:Sl Yr),v=.tuple #[n9.enc,o9.val]∧n9.nd=X.1∧sndl o9.l=X.2∧ZR.ok M n9∧SlK M Yr.segs 68 o9∧∀ y∈o9.l,Yr.ok M y
def NtE (M:Mem) (v:Value) (X:Nd×List Snd×Int):Prop:=∃ (n9:ZR) (o9:Sl Yr),v=.tuple #[n9.enc,o9.val,.int .i64 X.2.2]∧n9.nd=X.1∧sndl o9.l=X.2.1∧ZR.ok M n9∧SlK M Yr.segs 68 o9∧∀ y∈o9.l,Yr.ok M y
end Go.Esp
namespace Go.Proofs.YtajmnjefajknoaaGreat
open Go.Esp
theorem F.bld44:Bld Tryz.prog 44 [[.one (.int .i64 0)],[.one (.int .i64 0),Yt 0],[.one (.int .u64 0)],[Yt 0],[.one (.slice none 0 0)],[.one (.bool false)],[.one (.int .i64 0),Yt 0],[.one (.slice none 0 0)]]:=by rw [Us];exact ⟨by kernel_rfl,by kernel_rfl⟩
theorem F.bld49:Bld Tryz.prog 49 [[.one (.int .i64 0)],[.one (.int .i64 0),.one (.int .i64 0),Yt 0,.one (.int .u64 0),Yt 0,.one (.slice none 0 0),.one (.bool false),.one (.int .i64 0),Yt 0,.one (.slice none 0 0)]]:=by rw [Us];exact ⟨by kernel_rfl,by kernel_rfl⟩
theorem F.ok111:okFn Tryz.prog 111=true:=by kernel_rfl
theorem F.ok130:okFn Tryz.prog 130=true:=by kernel_rfl
theorem F.ok132:okFn Tryz.prog 132=true:=by kernel_rfl
theorem F.ok58:okFn Tryz.prog 58=true:=by kernel_rfl
theorem F.zero32:WH Tryz.prog 32=some (aggV [.one (.int .i64 0),Yt 0,.one (.int .i64 0),Yt 0,.one (.slice none 0 0),.one (.slice none 0 0),.one (.int .i64 0),.one (.bool false),.one (.int .i64 0),.one (.int .i64 0),.one (.int .u64 0),.one (.int .i64 0),.one (.int .u64 0),.one (.int .i64 0),.one (.int .u64 0),.one (.int .i64 0),.one (.int .u64 0),Yt 0,.one (.slice none 0 0),.one (.int .i64 0),.one (.int .i64 0)]):=by rw [Us];kernel_rfl
theorem F.zero44:WH Tryz.prog 44=some (aggV [.one (.int .i64 0),.one (.int .i64 0),Yt 0,.one (.int .u64 0),Yt 0,.one (.slice none 0 0),.one (.bool false),.one (.int .i64 0),Yt 0,.one (.slice none 0 0)]):=by rw [Us];kernel_rfl
theorem F.zero49:WH Tryz.prog 49=some (aggV [.one (.int .i64 0),.one (.int .i64 0),.one (.int .i64 0),Yt 0,.one (.int .u64 0),Yt 0,.one (.slice none 0 0),.one (.bool false),.one (.int .i64 0),Yt 0,.one (.slice none 0 0)]):=by rw [Us];kernel_rfl
theorem rlett_ok (M:Mem) (n:ZR) (kind:Int) (req:Int):Fs Tryz.prog 58 [n.enc,.int .i64 kind,.int .u64 req] M (fun v=>v= ((ZP.mk kind n.table.self req 0 ⟨none,0,[]⟩ false Xf ⟨none,0,[]⟩).enc)):=by
  obtain ⟨⟨⟨Za,Zb⟩,⟨Zf,Zh⟩,⟨Zj,Zi,Zg⟩,⟨Ze,Zd,Zc⟩⟩,Zr,Zs,ZH,Zv,ZT,ZC,ZA,Zw,Zq,Zy,Zp,Zz,⟨Zu,Zt,Zl⟩,ZG,ZJ⟩:=n
  refine Xv Tryz.func58 rfl Tryz.ntmps58 rfl ?_;intro H
  refine ZK (Zm (l:=[0,1]) rfl ?_)
  refine Xk ?_;intro b1
  refine YW F.zero44 ?_;intro b2
  refine Zo (Zn (Y_pk [6,3,1,2] ?_));refine ZK (YK (l:=[0,1,2,3,4,5,6,7]) #[0,0,2,6,0,0,63,127] _ rfl (by kernel_rfl) (by kernel_rfl) St.drawn (fun _ h=>h) ?_);refine Zx ?_;refine Zk F.foff32_0 ?_;refine Zk F.foff28_0 ?_;refine ZD F.lay25 ?_;refine Zx ?_;refine X_fs rfl rfl F.ok67 rfl (rNone_ok _) rfl ?_
  rintro _ rfl
  refine VA 12 rfl (show _=aggV [.one (.int .i64 (-1)),Yt 0] from rfl) ?_;refine Xr rfl rfl F.bld44 (.cons rfl (by constructor) (.cons rfl (by constructor) (.cons rfl (by constructor) (.cons rfl (by constructor) .nil)))) rfl rfl ?_;refine X_store rfl rfl rfl rfl (by constructor) (by ((try simp only [cat,List.cons_append,List.nil_append,List.append_nil]);(repeat (first|exact XG|refine XN ?_|(refine YU ?_ ?_;rfl)));done)) (by repeat first|exact Upd.head|apply Upd.tail|apply Upd.over) F.lay44 (by simp only [ZF.segs,ZQ.segs,ZR.segs,ZP.segs,Yr.segs,ZW.segs,YQ.segs,Yc.segs,cat,List.cons_append,List.nil_append,List.append_nil,Segs.len,Seg.len,Yt]) (VT (m:=67) rfl (by simp only [ZF.segs,ZQ.segs,ZR.segs,ZP.segs,Yr.segs,ZW.segs,YQ.segs,Yc.segs,cat,List.cons_append,List.nil_append,List.append_nil,Segs.len,Seg.len,Yt]) (by simp only [ZF.segs,ZQ.segs,ZR.segs,ZP.segs,Yr.segs,ZW.segs,YQ.segs,Yc.segs,cat,List.cons_append,List.nil_append,List.append_nil,Segs.len,Seg.len,Yt])) ?_
  refine Zo (Zn (Y_pk [6] ?_));refine Yo ?_
  refine Yk (.inr rfl) (.cell rfl (by repeat first|exact List.Mem.head _|refine List.Mem.tail _ ?_|refine List.mem_append_right _ ?_) F.lay44 rfl rfl .nil) (fun w hw=>?_)
  refine ⟨_,rfl,(hw.c),?_⟩
  clear hw
  rfl
theorem rseek_ok (M:Mem) (n:ZR) (to:Int) (hn0:ZR.ok M n) (hLa:n.avoid.l.length≤1000):Esp.Fn Tryz.prog 93 [n.enc,.int .i64 to] M (fun M' v=>NsE M' v (UC n.nd to)):=by
  obtain ⟨⟨⟨Za,Zb⟩,⟨Zf,Zh⟩,⟨Zj,Zi,Zg⟩,⟨Ze,Zd,Zc⟩⟩,Zr,Zs,ZH,Zv,ZT,ZC,ZA,Zw,Zq,Zy,Zp,Zz,⟨Zu,Zt,Zl⟩,ZG,ZJ⟩:=n
  have Yv:ZQ.ok M ⟨⟨Za,Zb⟩,⟨Zf,Zh⟩,⟨Zj,Zi,Zg⟩,⟨Ze,Zd,Zc⟩⟩:=hn0.h0
  have YM:SlK M ZF.segs 21 ⟨Zj,Zi,Zg⟩:=hn0.h0.h0
  have Wo:SlM M Zj (Zg.map ZF.segs) 21:=YM.h1
  have Wp:(Zg.map ZF.segs).length=Zg.length:=List.length_map ..
  have Wq:Zg.length≤9223372036854775807:=YM.h2
  have Wr:Zg.length≤Zi:=YM.h3
  have Yx:SlK M ZF.segs 21 ⟨Ze,Zd,Zc⟩:=hn0.h0.h1
  have XV:SlM M Ze (Zc.map ZF.segs) 21:=Yx.h1
  have XW:(Zc.map ZF.segs).length=Zc.length:=List.length_map ..
  have XX:Zc.length≤9223372036854775807:=Yx.h2
  have XY:Zc.length≤Zd:=Yx.h3
  have Yz:SlK M (oneI .i64) 1 ⟨Zu,Zt,Zl⟩:=hn0.h1
  have WQ:SlM M Zu (Zl.map (oneI .i64)) 1:=Yz.h1
  have Vi:(Zl.map (oneI .i64)).length=Zl.length:=List.length_map ..
  have Va:Zl.length≤9223372036854775807:=Yz.h2
  have Vk:Zl.length≤Zt:=Yz.h3
  simp only at hLa
  refine Wu Tryz.func93 rfl Tryz.ntmps93 rfl ?_;intro H
  refine ZK (Zm (l:=[0,1,2]) rfl ?_)
  refine Xk ?_;intro b1
  refine YW F.zero32 ?_;intro b2
  refine ZB ?_;refine Zo (Zn (Y_pk [5,4,2,1] ?_));refine ZK (Zm (l:=[0,1,2,3,4]) rfl ?_);refine Zk F.foff32_5 ?_;refine ZD F.lay29 ?_;refine XE rfl rfl rfl rfl rfl (by exact wrap_u64 _) rfl ?_
  obtain ⟨r9,hr9⟩:∃ v,nxR ZT=v:=⟨_,rfl⟩
  refine VA 10 rfl (show _=Value.int .u64 r9 from by rw [← hr9];exact congrArg (Value.int .u64) (nx_w64 ZT)) ?_;refine Zk F.foff32_5 ?_;refine Yh F.lay29 ?_;refine Zo (Zn (Y_pk [5,4,2,1] ?_));refine ZK (Zm (l:=[0,1,2]) rfl ?_);refine Zx ?_;refine Zk F.foff32_10 ?_;refine Yh F.lay3 ?_;refine Zo (Zn (Y_pk [5,4,2,1] ?_));refine ZK (Zm (l:=[0,1,2,3]) rfl ?_);refine Zk F.foff32_5 ?_;refine ZD F.lay29 ?_;refine Zk F.foff32_11 ?_;refine Yh F.lay29 ?_;refine Zo (Zn (Y_pk [5,4,2,1] ?_));refine ZK (Zm (l:=[0,1,2,3,4,5]) rfl ?_);refine ZD F.lay32 ?_;refine Zk F.foff32_5 ?_;refine ZD F.lay29 ?_;refine X_fs rfl rfl F.ok58 rfl (rlett_ok _ ⟨⟨⟨Za,Zb⟩,⟨Zf,Zh⟩,⟨Zj,Zi,Zg⟩,⟨Ze,Zd,Zc⟩⟩,Zr,Zs,ZH,Zv,r9,ZC,ZA,Zw,Zq,to,r9,Zz,⟨Zu,Zt,Zl⟩,ZG,ZJ⟩ 1 r9) rfl ?_
  rintro _ rfl
  refine YW F.zero44 ?_;intro b3
  refine X_store rfl rfl rfl rfl (by constructor) (by ((try simp only [cat,List.cons_append,List.nil_append,List.append_nil]);(repeat (first|exact XG|refine XN ?_|(refine YU ?_ ?_;rfl)));done)) (by repeat first|exact Upd.head|apply Upd.tail|apply Upd.over) F.lay44 (by simp only [ZF.segs,ZQ.segs,ZR.segs,ZP.segs,Yr.segs,ZW.segs,YQ.segs,Yc.segs,cat,List.cons_append,List.nil_append,List.append_nil,Segs.len,Seg.len,Yt]) (VT (m:=67) rfl (by simp only [ZF.segs,ZQ.segs,ZR.segs,ZP.segs,Yr.segs,ZW.segs,YQ.segs,Yc.segs,cat,List.cons_append,List.nil_append,List.append_nil,Segs.len,Seg.len,Yt]) (by simp only [ZF.segs,ZQ.segs,ZR.segs,ZP.segs,Yr.segs,ZW.segs,YQ.segs,Yc.segs,cat,List.cons_append,List.nil_append,List.append_nil,Segs.len,Seg.len,Yt])) ?_
  refine Zo (Zn (Y_pk [6,5,4,2,1] ?_));refine ZK (Zm (l:=[0,1,2,3]) rfl ?_);refine Zk F.foff32_12 ?_;refine ZD F.lay23 ?_;refine Zk F.foff44_3 ?_;refine Yh F.lay23 ?_;refine Zo (Zn (Y_pk [6,5,4,2,1] ?_));refine ZK (Zm (l:=[0]) rfl ?_);refine ZB ?_;refine Zo (Zn (ZK (Zm (l:=[0,1,2,3,4]) rfl ?_)));refine Zx ?_;refine Zk F.foff32_13 ?_;refine ZD F.lay30 ?_
  refine Vy (m:=1000000) rfl rfl rfl rfl rfl F.elem30 F.zero3 (by rfl) rfl (by exact OSl.nil) (by repeat first|exact Rem.here _|exact Rem.two|apply Rem.skip|apply Rem.over) (WQ) (fun x:Int=>YU (show _ from rfl) XG) (by (simp;omega)) (by decide) rfl ?_;intro v6 hs5 ho4;obtain ⟨adv6,cpv6,rfl⟩:=ho4.val
  refine ZB ?_;refine Zo (Zn (Y_pk [7,6,5,4,2,1] ?_));refine ZK ?_
  have hmla:(([]:List Segs)++Zl.map (oneI .i64)).length=Zl.length:=by simp
  rw [hmla]
  have hoza:OSl 3 1 (.slice adv6 Zl.length cpv6) hs5 (Zl.map (oneI .i64)):=by have h9:=ho4;rw [hmla] at h9;exact h9
  refine UG hoza (by repeat first|exact Rem.here _|exact Rem.two|apply Rem.skip|apply Rem.over) (fun M0 hM0 k_av=>?_)
  refine Zm (l:=[0,1,2]) rfl ?_;refine Zx ?_;refine Zk F.foff44_4 ?_;refine Yh F.lay30 ?_;refine Zo (Zn (Y_pk [6,5,4,2,1] ?_));refine ZK (C_region_anyPR (Hin:=[(b2,_)]) [0,1,2,3,5,4,6] [5] #[0,0,0,6,14,1,63] (by repeat first|exact Rem.here _|exact Rem.two|apply Rem.skip|apply Rem.over) (by kernel_rfl) (by kernel_rfl) ?_);refine ZD F.lay32 ?_;refine Zx ?_;refine ZD F.lay44 ?_;refine Xr rfl rfl F.bld49 (.cons rfl (by constructor) (.cons rfl (by constructor) .nil)) rfl rfl ?_;refine X_storeE rfl rfl rfl rfl rfl (by constructor) (by ((try simp only [cat,List.cons_append,List.nil_append,List.append_nil]);(repeat (first|exact XG|refine XN ?_|(refine YU ?_ ?_;rfl)));done)) (by repeat first|exact Upd.head|apply Upd.tail|apply Upd.over) F.lay32 (by simp only [ZF.segs,ZQ.segs,ZR.segs,ZP.segs,Yr.segs,ZW.segs,YQ.segs,Yc.segs,cat,List.cons_append,List.nil_append,List.append_nil,Segs.len,Seg.len,Yt]) (VT (m:=78) rfl (by simp only [ZF.segs,ZQ.segs,ZR.segs,ZP.segs,Yr.segs,ZW.segs,YQ.segs,Yc.segs,cat,List.cons_append,List.nil_append,List.append_nil,Segs.len,Seg.len,Yt]) (by simp only [ZF.segs,ZQ.segs,ZR.segs,ZP.segs,Yr.segs,ZW.segs,YQ.segs,Yc.segs,cat,List.cons_append,List.nil_append,List.append_nil,Segs.len,Seg.len,Yt])) (fun _ h=>h.c) ?_
  refine Xq rfl rfl F.elem35 F.zero49 rfl rfl (.cons rfl (by constructor) .nil) rfl rfl (by simp only [List.map_cons,List.map_nil] <;> rfl) rfl ?_;intro b7 hob8
  refine ZB ?_;refine Zo (WP ?_);refine Zn (Y_pk [5,4] ?_);refine Yo ?_
  refine Yk (.inr rfl) (.cell rfl (by repeat first|exact List.Mem.head _|refine List.Mem.tail _ ?_|refine List.mem_append_right _ ?_) F.lay32 rfl rfl (.tmp rfl .nil)) (fun w hw=>?_)
  obtain ⟨M9,j1,j2,j3⟩:=OSl.frz (H:=H) (l:=[(⟨to,(⟨1,⟨Za,Zb⟩,r9,Zz,⟨adv6,cpv6,Zl⟩,false,Xf,⟨none,0,[]⟩⟩:ZP)⟩:Yr)]) (f:=Yr.segs) (show OSl 49 68 _ _ ([(⟨to,(⟨1,⟨Za,Zb⟩,r9,Zz,⟨adv6,cpv6,Zl⟩,false,Xf,⟨none,0,[]⟩⟩:ZP)⟩:Yr)].map Yr.segs) from hob8) (hw.c)
  refine ⟨_,M9,rfl,hM0.trans j1,j2,⟨⟨⟨Za,Zb⟩,⟨Zf,Zh⟩,⟨Zj,Zi,Zg⟩,⟨Ze,Zd,Zc⟩⟩,Zr,Zs,ZH,Zv,r9,ZC,ZA,Zw,Zq,to,r9,Zz,⟨Zu,Zt,Zl⟩,ZG,ZJ⟩,⟨_,1,[(⟨to,(⟨1,⟨Za,Zb⟩,r9,Zz,⟨adv6,cpv6,Zl⟩,false,Xf,⟨none,0,[]⟩⟩:ZP)⟩:Yr)]⟩,rfl,?_,?_,⟨hn0.h0.mono (hM0.trans j1),hn0.h1.mono (hM0.trans j1)⟩,j3,fun y hy=>by obtain rfl:=List.mem_singleton.1 hy;exact ⟨⟨k_av.mono j1,SlK.nil⟩⟩⟩
  ·show _=(UC _ to).1
   unfold UC;rw [← hr9];rfl
  ·show _=(UC _ to).2
   unfold UC;rw [← hr9];rfl
theorem radopt_ok (M:Mem) (n:ZR) (p:ZF) (q:(Sl ZF)) (hn0:ZR.ok M n) (hq1:SlK M ZF.segs 21 q):Esp.Fn Tryz.prog 95 [n.enc,p.enc,Sl.val q] M (fun M' v=>NE M' v (Vc n.nd p q.l)):=by
  obtain ⟨⟨⟨Za,Zb⟩,⟨Zf,Zh⟩,⟨Zj,Zi,Zg⟩,⟨Ze,Zd,Zc⟩⟩,Zr,Zs,ZH,Zv,ZT,ZC,ZA,Zw,Zq,Zy,Zp,Zz,⟨Zu,Zt,Zl⟩,ZG,ZJ⟩:=n
  obtain ⟨Xa,p_id⟩:=p
  obtain ⟨q_a,q_c,q_l⟩:=q
  have Yv:ZQ.ok M ⟨⟨Za,Zb⟩,⟨Zf,Zh⟩,⟨Zj,Zi,Zg⟩,⟨Ze,Zd,Zc⟩⟩:=hn0.h0
  have YM:SlK M ZF.segs 21 ⟨Zj,Zi,Zg⟩:=hn0.h0.h0
  have Wo:SlM M Zj (Zg.map ZF.segs) 21:=YM.h1
  have Wp:(Zg.map ZF.segs).length=Zg.length:=List.length_map ..
  have Wq:Zg.length≤9223372036854775807:=YM.h2
  have Wr:Zg.length≤Zi:=YM.h3
  have Yx:SlK M ZF.segs 21 ⟨Ze,Zd,Zc⟩:=hn0.h0.h1
  have XV:SlM M Ze (Zc.map ZF.segs) 21:=Yx.h1
  have XW:(Zc.map ZF.segs).length=Zc.length:=List.length_map ..
  have XX:Zc.length≤9223372036854775807:=Yx.h2
  have XY:Zc.length≤Zd:=Yx.h3
  have Yz:SlK M (oneI .i64) 1 ⟨Zu,Zt,Zl⟩:=hn0.h1
  have WQ:SlM M Zu (Zl.map (oneI .i64)) 1:=Yz.h1
  have Vi:(Zl.map (oneI .i64)).length=Zl.length:=List.length_map ..
  have Va:Zl.length≤9223372036854775807:=Yz.h2
  have Vk:Zl.length≤Zt:=Yz.h3
  have k_q:SlK M ZF.segs 21 ⟨q_a,q_c,q_l⟩:=hq1
  have s_q:SlM M q_a (q_l.map ZF.segs) 21:=k_q.h1
  have n_q:(q_l.map ZF.segs).length=q_l.length:=List.length_map ..
  have m_q:q_l.length≤9223372036854775807:=k_q.h2
  have c_q:q_l.length≤q_c:=k_q.h3
  refine Wu Tryz.func95 rfl Tryz.ntmps95 rfl ?_;intro H
  refine ZK (Zm (l:=[0,1,2]) rfl ?_)
  refine Xk ?_;intro b1
  refine Xk ?_;intro b2
  refine YW F.zero32 ?_;intro b3
  refine Zo (Zn (Y_pk [6,4,3,2] ?_));refine ZK (Zm (l:=[0,1,2,3,4,5,6,7,8,9,10,11,12]) rfl ?_);refine Zk F.foff32_0 ?_;refine ZD F.lay28 ?_;refine ZD F.lay25 ?_;refine Zx ?_;refine Zk F.foff32_1 ?_;refine ZD F.lay3 ?_;refine X_fn rfl rfl F.ok130 rfl (rAdopt_ok _ ⟨⟨Za,Zb⟩,⟨Zf,Zh⟩,⟨Zj,Zi,Zg⟩,⟨Ze,Zd,Zc⟩⟩ ⟨Xa,p_id⟩ ⟨q_a,q_c,q_l⟩ Zr Yv k_q) rfl ?_
  rintro _ M1 hm1 hv
  replace hv:TabE _ _ (Vl (ZQ.tb ⟨⟨Za,Zb⟩,⟨Zf,Zh⟩,⟨Zj,Zi,Zg⟩,⟨Ze,Zd,Zc⟩⟩) ⟨Xa,p_id⟩ q_l Zr):=hv
  obtain ⟨⟨A1,A2⟩,hA⟩:∃ x,Vl (ZQ.tb ⟨⟨Za,Zb⟩,⟨Zf,Zh⟩,⟨Zj,Zi,Zg⟩,⟨Ze,Zd,Zc⟩⟩) ⟨Xa,p_id⟩ q_l Zr=x:=⟨_,rfl⟩
  rw [hA] at hv
  obtain ⟨_,rfl,⟨⟨oa,oi⟩,⟨oq,oj⟩,⟨o1a,o1c,o1l⟩,⟨o2a,o2c,o2l⟩⟩,rfl,hot,oko⟩:=hv
  simp only at hot
  refine Zx ?_
  iterate 2 refine XU ?_
  refine YW F.zero28 ?_;intro b4
  refine Yh F.lay28 ?_;refine ZB ?_;refine Zo (Zn (Y_pk [8,7,6,3] ?_))
  iterate 2 refine ZK ?_
  refine Zm (l:=[0,1]) rfl ?_;refine Zx ?_;refine YI ?_;refine Zo (Zn (Y_pk [20,7,6,3] ?_))
  refine YA rfl (fun hc5=>?_) (fun hc5=>?_)
  ·replace hc5:=dT hc5
   simp only [ZF.eta,ZQ.eta,ZR.eta,ZP.eta,Yr.eta,ZW.eta,YQ.eta,Yc.eta] at hc5
   refine Zm (l:=[0,1,2]) rfl ?_;refine ZD F.lay28 ?_;refine Zk F.foff32_0 ?_;refine Yh F.lay28 ?_;refine Zo (Zn (Y_pk [6,3] ?_));refine ZK (Zm (l:=[0,1]) rfl ?_);refine ZD F.lay32 ?_;refine Xg F.lay32 ?_;refine Zo (Zn (Y_pk [6] ?_));refine Yo ?_
   refine Yk (.inr rfl) (.cell rfl (by repeat first|exact List.Mem.head _|refine List.Mem.tail _ ?_|refine List.mem_append_right _ ?_) F.lay32 rfl rfl .nil) (fun w hw=>?_)
   refine ⟨_,M1,rfl,hm1,hw.c,⟨⟨⟨oa,oi⟩,⟨oq,oj⟩,⟨o1a,o1c,o1l⟩,⟨o2a,o2c,o2l⟩⟩,Zr,Zs,ZH,Zv,ZT,ZC,ZA,Zw,Zq,Zy,Zp,Zz,⟨Zu,Zt,Zl⟩,ZG,ZJ⟩,rfl,?_,⟨oko,hn0.h1.mono hm1⟩⟩
   show _=Vc (ZR.nd ⟨⟨⟨Za,Zb⟩,⟨Zf,Zh⟩,⟨Zj,Zi,Zg⟩,⟨Ze,Zd,Zc⟩⟩,Zr,Zs,ZH,Zv,ZT,ZC,ZA,Zw,Zq,Zy,Zp,Zz,⟨Zu,Zt,Zl⟩,ZG,ZJ⟩) ⟨Xa,p_id⟩ q_l
   unfold Vc
   rw [show Vl (ZR.nd ⟨⟨⟨Za,Zb⟩,⟨Zf,Zh⟩,⟨Zj,Zi,Zg⟩,⟨Ze,Zd,Zc⟩⟩,Zr,Zs,ZH,Zv,ZT,ZC,ZA,Zw,Zq,Zy,Zp,Zz,⟨Zu,Zt,Zl⟩,ZG,ZJ⟩).table ⟨Xa,p_id⟩ q_l (ZR.nd ⟨⟨⟨Za,Zb⟩,⟨Zf,Zh⟩,⟨Zj,Zi,Zg⟩,⟨Ze,Zd,Zc⟩⟩,Zr,Zs,ZH,Zv,ZT,ZC,ZA,Zw,Zq,Zy,Zp,Zz,⟨Zu,Zt,Zl⟩,ZG,ZJ⟩).copies=_ from hA]
   rw [if_pos (by show A2=0;omega),← hot];rfl
  ·replace hc5:=dF hc5
   simp only [ZF.eta,ZQ.eta,ZR.eta,ZP.eta,Yr.eta,ZW.eta,YQ.eta,Yc.eta] at hc5
   refine YG (Zn (Y_pk [6,3] ?_));refine ZK (Zm (l:=[0,1]) rfl ?_);refine ZD F.lay32 ?_;refine Xg F.lay32 ?_;refine Zo (Zn (Y_pk [6] ?_));refine Yo ?_
   refine Yk (.inr rfl) (.cell rfl (by repeat first|exact List.Mem.head _|refine List.Mem.tail _ ?_|refine List.mem_append_right _ ?_) F.lay32 rfl rfl .nil) (fun w hw=>?_)
   refine ⟨_,M1,rfl,hm1,hw.c,⟨⟨⟨Za,Zb⟩,⟨Zf,Zh⟩,⟨Zj,Zi,Zg⟩,⟨Ze,Zd,Zc⟩⟩,Zr,Zs,ZH,Zv,ZT,ZC,ZA,Zw,Zq,Zy,Zp,Zz,⟨Zu,Zt,Zl⟩,ZG,ZJ⟩,rfl,?_,⟨Yv.mono hm1,hn0.h1.mono hm1⟩⟩
   show _=Vc (ZR.nd ⟨⟨⟨Za,Zb⟩,⟨Zf,Zh⟩,⟨Zj,Zi,Zg⟩,⟨Ze,Zd,Zc⟩⟩,Zr,Zs,ZH,Zv,ZT,ZC,ZA,Zw,Zq,Zy,Zp,Zz,⟨Zu,Zt,Zl⟩,ZG,ZJ⟩) ⟨Xa,p_id⟩ q_l
   unfold Vc
   rw [show Vl (ZR.nd ⟨⟨⟨Za,Zb⟩,⟨Zf,Zh⟩,⟨Zj,Zi,Zg⟩,⟨Ze,Zd,Zc⟩⟩,Zr,Zs,ZH,Zv,ZT,ZC,ZA,Zw,Zq,Zy,Zp,Zz,⟨Zu,Zt,Zl⟩,ZG,ZJ⟩).table ⟨Xa,p_id⟩ q_l (ZR.nd ⟨⟨⟨Za,Zb⟩,⟨Zf,Zh⟩,⟨Zj,Zi,Zg⟩,⟨Ze,Zd,Zc⟩⟩,Zr,Zs,ZH,Zv,ZT,ZC,ZA,Zw,Zq,Zy,Zp,Zz,⟨Zu,Zt,Zl⟩,ZG,ZJ⟩).copies=_ from hA]
   rw [if_neg (by show ¬A2=0;omega)]
theorem rpoint_ok (M:Mem) (n:ZR) (p:ZF) (hn0:ZR.ok M n):Esp.Fn Tryz.prog 99 [n.enc,p.enc] M (fun M' v=>NE M' v (VW n.nd p)):=by
  obtain ⟨⟨⟨Za,Zb⟩,⟨Zf,Zh⟩,⟨Zj,Zi,Zg⟩,⟨Ze,Zd,Zc⟩⟩,Zr,Zs,ZH,Zv,ZT,ZC,ZA,Zw,Zq,Zy,Zp,Zz,⟨Zu,Zt,Zl⟩,ZG,ZJ⟩:=n
  obtain ⟨Xa,p_id⟩:=p
  have Yv:ZQ.ok M ⟨⟨Za,Zb⟩,⟨Zf,Zh⟩,⟨Zj,Zi,Zg⟩,⟨Ze,Zd,Zc⟩⟩:=hn0.h0
  have YM:SlK M ZF.segs 21 ⟨Zj,Zi,Zg⟩:=hn0.h0.h0
  have Wo:SlM M Zj (Zg.map ZF.segs) 21:=YM.h1
  have Wp:(Zg.map ZF.segs).length=Zg.length:=List.length_map ..
  have Wq:Zg.length≤9223372036854775807:=YM.h2
  have Wr:Zg.length≤Zi:=YM.h3
  have Yx:SlK M ZF.segs 21 ⟨Ze,Zd,Zc⟩:=hn0.h0.h1
  have XV:SlM M Ze (Zc.map ZF.segs) 21:=Yx.h1
  have XW:(Zc.map ZF.segs).length=Zc.length:=List.length_map ..
  have XX:Zc.length≤9223372036854775807:=Yx.h2
  have XY:Zc.length≤Zd:=Yx.h3
  have Yz:SlK M (oneI .i64) 1 ⟨Zu,Zt,Zl⟩:=hn0.h1
  have WQ:SlM M Zu (Zl.map (oneI .i64)) 1:=Yz.h1
  have Vi:(Zl.map (oneI .i64)).length=Zl.length:=List.length_map ..
  have Va:Zl.length≤9223372036854775807:=Yz.h2
  have Vk:Zl.length≤Zt:=Yz.h3
  refine Wu Tryz.func99 rfl Tryz.ntmps99 rfl ?_;intro H
  refine ZK (Zm (l:=[0,1,2]) rfl ?_)
  refine Xk ?_;intro b1
  refine Xk ?_;intro b2
  refine YW F.zero32 ?_;intro b3
  refine Zo (Zn (Y_pk [4,3,2] ?_));refine ZK (Zm (l:=[0,1,2,3,4,5,6,7,8,9,10,11,12,13]) rfl ?_);refine Zk F.foff32_0 ?_;refine ZD F.lay28 ?_;refine Zk F.foff32_4 ?_;refine ZD F.lay3 ?_;refine ZD F.lay25 ?_;refine X_fn rfl rfl F.ok132 rfl (rPoint_ok _ ⟨⟨Za,Zb⟩,⟨Zf,Zh⟩,⟨Zj,Zi,Zg⟩,⟨Ze,Zd,Zc⟩⟩ Zv ⟨Xa,p_id⟩ Yv) rfl ?_
  rintro _ M1 hm1 hv
  replace hv:TabPE _ _ (WT (ZQ.tb ⟨⟨Za,Zb⟩,⟨Zf,Zh⟩,⟨Zj,Zi,Zg⟩,⟨Ze,Zd,Zc⟩⟩) Zv ⟨Xa,p_id⟩):=hv
  obtain ⟨⟨A1,A2,A3⟩,hA⟩:∃ x,WT (ZQ.tb ⟨⟨Za,Zb⟩,⟨Zf,Zh⟩,⟨Zj,Zi,Zg⟩,⟨Ze,Zd,Zc⟩⟩) Zv ⟨Xa,p_id⟩=x:=⟨_,rfl⟩
  rw [hA] at hv
  obtain ⟨_,rfl,⟨⟨oa,oi⟩,⟨oq,oj⟩,⟨o1a,o1c,o1l⟩,⟨o2a,o2c,o2l⟩⟩,rfl,hot,oko⟩:=hv
  simp only at hot
  refine Zx ?_
  iterate 3 refine XU ?_
  refine YW F.zero28 ?_;intro b4
  refine Yh F.lay28 ?_
  iterate 2 refine ZB ?_
  refine Zo (Zn (Y_pk [7,6,5,4,2] ?_))
  iterate 2 refine ZK ?_
  refine Zm (l:=[0,1]) rfl ?_;refine Zx ?_;refine YI ?_;refine Zo (Zn (Y_pk [19,6,5,4,2] ?_))
  refine YA rfl (fun hc5=>?_) (fun hc5=>?_)
  ·replace hc5:=dT hc5
   simp only [ZF.eta,ZQ.eta,ZR.eta,ZP.eta,Yr.eta,ZW.eta,YQ.eta,Yc.eta] at hc5
   refine ZK (Zm (l:=[0,1,2]) rfl ?_);refine ZD F.lay28 ?_;refine Zk F.foff32_0 ?_;refine Yh F.lay28 ?_;refine Zo (Zn (Y_pk [6,4,2] ?_));refine Zm (l:=[0,1,2]) rfl ?_;refine Zx ?_;refine Zk F.foff32_4 ?_;refine Yh F.lay3 ?_;refine Zo (Zn (Y_pk [4,2] ?_));refine ZK (Zm (l:=[0,1]) rfl ?_);refine ZD F.lay32 ?_;refine Xg F.lay32 ?_;refine Zo (Zn (Y_pk [4] ?_));refine Yo ?_
   refine Yk (.inr rfl) (.cell rfl (by repeat first|exact List.Mem.head _|refine List.Mem.tail _ ?_|refine List.mem_append_right _ ?_) F.lay32 rfl rfl .nil) (fun w hw=>?_)
   refine ⟨_,M1,rfl,hm1,hw.c,⟨⟨⟨oa,oi⟩,⟨oq,oj⟩,⟨o1a,o1c,o1l⟩,⟨o2a,o2c,o2l⟩⟩,Zr,Zs,ZH,A2,ZT,ZC,ZA,Zw,Zq,Zy,Zp,Zz,⟨Zu,Zt,Zl⟩,ZG,ZJ⟩,rfl,?_,⟨oko,hn0.h1.mono hm1⟩⟩
   show _=VW (ZR.nd ⟨⟨⟨Za,Zb⟩,⟨Zf,Zh⟩,⟨Zj,Zi,Zg⟩,⟨Ze,Zd,Zc⟩⟩,Zr,Zs,ZH,Zv,ZT,ZC,ZA,Zw,Zq,Zy,Zp,Zz,⟨Zu,Zt,Zl⟩,ZG,ZJ⟩) ⟨Xa,p_id⟩
   unfold VW
   rw [show WT (ZR.nd ⟨⟨⟨Za,Zb⟩,⟨Zf,Zh⟩,⟨Zj,Zi,Zg⟩,⟨Ze,Zd,Zc⟩⟩,Zr,Zs,ZH,Zv,ZT,ZC,ZA,Zw,Zq,Zy,Zp,Zz,⟨Zu,Zt,Zl⟩,ZG,ZJ⟩).table (ZR.nd ⟨⟨⟨Za,Zb⟩,⟨Zf,Zh⟩,⟨Zj,Zi,Zg⟩,⟨Ze,Zd,Zc⟩⟩,Zr,Zs,ZH,Zv,ZT,ZC,ZA,Zw,Zq,Zy,Zp,Zz,⟨Zu,Zt,Zl⟩,ZG,ZJ⟩).cursor ⟨Xa,p_id⟩=_ from hA]
   rw [if_pos (by show A3=0;omega),← hot];rfl
  ·replace hc5:=dF hc5
   simp only [ZF.eta,ZQ.eta,ZR.eta,ZP.eta,Yr.eta,ZW.eta,YQ.eta,Yc.eta] at hc5
   refine YG (Zn (Y_pk [4,2] ?_));refine ZK (Zm (l:=[0,1]) rfl ?_);refine ZD F.lay32 ?_;refine Xg F.lay32 ?_;refine Zo (Zn (Y_pk [4] ?_));refine Yo ?_
   refine Yk (.inr rfl) (.cell rfl (by repeat first|exact List.Mem.head _|refine List.Mem.tail _ ?_|refine List.mem_append_right _ ?_) F.lay32 rfl rfl .nil) (fun w hw=>?_)
   refine ⟨_,M1,rfl,hm1,hw.c,⟨⟨⟨Za,Zb⟩,⟨Zf,Zh⟩,⟨Zj,Zi,Zg⟩,⟨Ze,Zd,Zc⟩⟩,Zr,Zs,ZH,Zv,ZT,ZC,ZA,Zw,Zq,Zy,Zp,Zz,⟨Zu,Zt,Zl⟩,ZG,ZJ⟩,rfl,?_,⟨Yv.mono hm1,hn0.h1.mono hm1⟩⟩
   show _=VW (ZR.nd ⟨⟨⟨Za,Zb⟩,⟨Zf,Zh⟩,⟨Zj,Zi,Zg⟩,⟨Ze,Zd,Zc⟩⟩,Zr,Zs,ZH,Zv,ZT,ZC,ZA,Zw,Zq,Zy,Zp,Zz,⟨Zu,Zt,Zl⟩,ZG,ZJ⟩) ⟨Xa,p_id⟩
   unfold VW
   rw [show WT (ZR.nd ⟨⟨⟨Za,Zb⟩,⟨Zf,Zh⟩,⟨Zj,Zi,Zg⟩,⟨Ze,Zd,Zc⟩⟩,Zr,Zs,ZH,Zv,ZT,ZC,ZA,Zw,Zq,Zy,Zp,Zz,⟨Zu,Zt,Zl⟩,ZG,ZJ⟩).table (ZR.nd ⟨⟨⟨Za,Zb⟩,⟨Zf,Zh⟩,⟨Zj,Zi,Zg⟩,⟨Ze,Zd,Zc⟩⟩,Zr,Zs,ZH,Zv,ZT,ZC,ZA,Zw,Zq,Zy,Zp,Zz,⟨Zu,Zt,Zl⟩,ZG,ZJ⟩).cursor ⟨Xa,p_id⟩=_ from hA]
   rw [if_neg (by show ¬A3=0;omega)]
end Go.Proofs.YtajmnjefajknoaaGreat
namespace Go.Proofs.YtajmnjefajknoaaGreat
open Go.Esp
theorem rNOwn_ok (M:Mem) (n:ZR) (hn0:ZR.ok M n) (hbig:n.table.succ.l.length≤40∧n.table.fingers.l.length≤200) (hLa:n.avoid.l.length≤1000):Fh Tryz.prog 10 [n.enc] M [] (fun M' v Hout=>∃ (t9:ZQ) (s9:Sl Int),v=ZR.enc ⟨t9,n.copies,n.joined,n.boot,n.cursor,n.req,n.askTo,n.askReq,n.pingTo,n.pingReq,n.findTo,n.findReq,n.findID,s9,n.hops,n.turn⟩∧t9.tb=n.table.tb∧ZQ.ok M' t9∧OSl 3 1 s9.val Hout (s9.l.map (oneI .i64))∧s9.l=n.avoid.l):=by
  obtain ⟨⟨⟨Za,Zb⟩,⟨Zf,Zh⟩,⟨Zj,Zi,Zg⟩,⟨Ze,Zd,Zc⟩⟩,Zr,Zs,ZH,Zv,ZT,ZC,ZA,Zw,Zq,Zy,Zp,Zz,⟨Zu,Zt,Zl⟩,ZG,ZJ⟩:=n
  have Yv:ZQ.ok M ⟨⟨Za,Zb⟩,⟨Zf,Zh⟩,⟨Zj,Zi,Zg⟩,⟨Ze,Zd,Zc⟩⟩:=hn0.h0
  have YM:SlK M ZF.segs 21 ⟨Zj,Zi,Zg⟩:=hn0.h0.h0
  have Wo:SlM M Zj (Zg.map ZF.segs) 21:=YM.h1
  have Wp:(Zg.map ZF.segs).length=Zg.length:=List.length_map ..
  have Wq:Zg.length≤9223372036854775807:=YM.h2
  have Wr:Zg.length≤Zi:=YM.h3
  have Yx:SlK M ZF.segs 21 ⟨Ze,Zd,Zc⟩:=hn0.h0.h1
  have XV:SlM M Ze (Zc.map ZF.segs) 21:=Yx.h1
  have XW:(Zc.map ZF.segs).length=Zc.length:=List.length_map ..
  have XX:Zc.length≤9223372036854775807:=Yx.h2
  have XY:Zc.length≤Zd:=Yx.h3
  have Yz:SlK M (oneI .i64) 1 ⟨Zu,Zt,Zl⟩:=hn0.h1
  have WQ:SlM M Zu (Zl.map (oneI .i64)) 1:=Yz.h1
  have Vi:(Zl.map (oneI .i64)).length=Zl.length:=List.length_map ..
  have Va:Zl.length≤9223372036854775807:=Yz.h2
  have Vk:Zl.length≤Zt:=Yz.h3
  simp only at hbig hLa
  refine fh_enter Tryz.func10 rfl Tryz.ntmps10 rfl ?_;intro H
  refine ZK (Zm (l:=[0,1]) rfl ?_)
  refine Xk ?_;intro b1
  refine YW F.zero32 ?_;intro b2
  refine Zo (Zn (Y_pk [2,1] ?_));refine ZK (Zm (l:=[0,1,2,3,4]) rfl ?_);refine Zk F.foff32_0 ?_;refine ZD F.lay28 ?_;refine X_fn rfl rfl F.ok32 rfl (Own_ok _ ⟨⟨Za,Zb⟩,⟨Zf,Zh⟩,⟨Zj,Zi,Zg⟩,⟨Ze,Zd,Zc⟩⟩ Yv (by simp only;omega)) rfl ?_
  rintro _ M1 hm1 ⟨⟨⟨oa,oi⟩,⟨oq,oj⟩,⟨o1a,o1c,o1l⟩,⟨o2a,o2c,o2l⟩⟩,rfl,hot,oko⟩
  have s_av:=WQ.mono hm1
  refine Zk F.foff32_0 ?_;refine Yh F.lay28 ?_;refine Zo (Zn (Y_pk [2,1] ?_));refine ZK (Zm (l:=[0]) rfl ?_);refine ZB ?_;refine Zo (Zn (ZK (Zm (l:=[0,1,2,3,4]) rfl ?_)));refine Zx ?_;refine Zk F.foff32_13 ?_;refine ZD F.lay30 ?_
  refine Vy (m:=1000000) rfl rfl rfl rfl rfl F.elem30 F.zero3 (by rfl) rfl (by exact OSl.nil) (by repeat first|exact Rem.here _|exact Rem.two|apply Rem.skip|apply Rem.over) (s_av) (fun x:Int=>YU (show _ from rfl) XG) (by (simp;omega)) (by decide) rfl ?_;intro v5 hs4 ho3;obtain ⟨adv5,cpv5,rfl⟩:=ho3.val
  refine ZB ?_;refine Zo (Zn (Y_pk [3,2,1] ?_));refine ZK (Zm (l:=[0,1,2]) rfl ?_);refine Zx ?_;refine Zk F.foff32_13 ?_;refine Yh F.lay30 ?_;refine Zo (Zn (Y_pk [2,1] ?_));refine ZK (Zm (l:=[0,1]) rfl ?_);refine ZD F.lay32 ?_;refine Xg F.lay32 ?_;refine Zo (Zn (Y_pk [2] ?_));refine Yo ?_
  refine Yk (.inr rfl) (.cell rfl (by repeat first|exact List.Mem.head _|refine List.Mem.tail _ ?_|refine List.mem_append_right _ ?_) F.lay32 rfl rfl .nil) (fun w hw=>?_)
  have e9:(([]:List Segs)++Zl.map (oneI .i64)).length=Zl.length:=by rw [List.nil_append,List.length_map]
  have h9:=ho3
  rw [List.nil_append] at h9
  refine ⟨_,M1,hs4,rfl,hm1,hw.c,⟨⟨oa,oi⟩,⟨oq,oj⟩,⟨o1a,o1c,o1l⟩,⟨o2a,o2c,o2l⟩⟩,⟨adv5,cpv5,Zl⟩,?_,hot,oko,?_,rfl⟩
  ·show _=ZR.enc ⟨⟨⟨oa,oi⟩,⟨oq,oj⟩,⟨o1a,o1c,o1l⟩,⟨o2a,o2c,o2l⟩⟩,Zr,Zs,ZH,Zv,ZT,ZC,ZA,Zw,Zq,Zy,Zp,Zz,⟨adv5,cpv5,Zl⟩,ZG,ZJ⟩
   simp only [e9]
   rfl
  ·simp only [List.length_map] at h9
   exact h9
end Go.Proofs.YtajmnjefajknoaaGreat
namespace Go.Proofs.YtajmnjefajknoaaGreat
open Go.Esp
theorem F.ok93:okFn Tryz.prog 93=true:=by kernel_rfl
theorem F.ok94:okFn Tryz.prog 94=true:=by kernel_rfl
theorem F.ok95:okFn Tryz.prog 95=true:=by kernel_rfl
end Go.Proofs.YtajmnjefajknoaaGreat
namespace Go.Proofs.YtajmnjefajknoaaGreat
open Go.Esp
theorem F.ok100:okFn Tryz.prog 100=true:=by kernel_rfl
theorem F.ok98:okFn Tryz.prog 98=true:=by kernel_rfl
theorem F.ok99:okFn Tryz.prog 99=true:=by kernel_rfl
end Go.Proofs.YtajmnjefajknoaaGreat
namespace Go.Proofs.YtajmnjefajknoaaGreat
open Go.Esp
end Go.Proofs.YtajmnjefajknoaaGreat
namespace Go.Proofs.YtajmnjefajknoaaGreat
open Go.Esp
theorem F.bld32:Bld Tryz.prog 32 [[.one (.int .i64 0),Yt 0,.one (.int .i64 0),Yt 0,.one (.slice none 0 0),.one (.slice none 0 0)],[.one (.int .i64 0)],[.one (.bool false)],[.one (.int .i64 0)],[.one (.int .i64 0)],[.one (.int .u64 0)],[.one (.int .i64 0)],[.one (.int .u64 0)],[.one (.int .i64 0)],[.one (.int .u64 0)],[.one (.int .i64 0)],[.one (.int .u64 0)],[Yt 0],[.one (.slice none 0 0)],[.one (.int .i64 0)],[.one (.int .i64 0)]]:=by rw [Us];exact ⟨by kernel_rfl,by kernel_rfl⟩
theorem F.ok10:okFn Tryz.prog 10=true:=by kernel_rfl
theorem F.ok28:okFn Tryz.prog 28=true:=by kernel_rfl
end Go.Proofs.YtajmnjefajknoaaGreat
namespace Go.Proofs.YtajmnjefajknoaaGreat
open Go.Esp
theorem rfind_ok (M:Mem) (Za:Int) (Zb:Plc) (Zf:Int) (Zh:Plc) (Zj Ze Zu:Option Addr) (Zi Zd Zt:Nat) (Zg Zc:List ZF) (Zl:List Int) (Zr:Int) (Zs:Bool) (ZH Zv ZT ZC ZA Zw Zq Zy Zp:Int) (Zz:Plc) (ZG ZJ:Int) (Yv:ZQ.ok M ⟨⟨Za,Zb⟩,⟨Zf,Zh⟩,⟨Zj,Zi,Zg⟩,⟨Ze,Zd,Zc⟩⟩) (hbig:Zg.length≤40∧Zc.length≤200) (l:ZP) (hl0:ZP.ok M l):Esp.Fn Tryz.prog 56 [ZR.enc ⟨⟨⟨Za,Zb⟩,⟨Zf,Zh⟩,⟨Zj,Zi,Zg⟩,⟨Ze,Zd,Zc⟩⟩,Zr,Zs,ZH,Zv,ZT,ZC,ZA,Zw,Zq,Zy,Zp,Zz,⟨Zu,Zt,Zl⟩,ZG,ZJ⟩,l.enc] M (fun M' v=>SnE M' v (UL (ZR.nd ⟨⟨⟨Za,Zb⟩,⟨Zf,Zh⟩,⟨Zj,Zi,Zg⟩,⟨Ze,Zd,Zc⟩⟩,Zr,Zs,ZH,Zv,ZT,ZC,ZA,Zw,Zq,Zy,Zp,Zz,⟨Zu,Zt,Zl⟩,ZG,ZJ⟩) l.lt)):=by
  obtain ⟨Yb,⟨ZM,Ye⟩,YB,l_id,⟨ZY,ZX,ZN⟩,Ys,⟨ZI,ZS⟩,⟨ZZ,ZV,ZL⟩⟩:=l
  have Xl:SlK M (oneI .i64) 1 ⟨ZY,ZX,ZN⟩:=hl0.h0
  have Vu:SlM M ZY (ZN.map (oneI .i64)) 1:=Xl.h1
  have VK:(ZN.map (oneI .i64)).length=ZN.length:=List.length_map ..
  have Vx:ZN.length≤9223372036854775807:=Xl.h2
  have VM:ZN.length≤ZX:=Xl.h3
  have Xb:SlK M ZF.segs 21 ⟨ZZ,ZV,ZL⟩:=hl0.h1
  have XT:SlM M ZZ (ZL.map ZF.segs) 21:=Xb.h1
  have WR:(ZL.map ZF.segs).length=ZL.length:=List.length_map ..
  have Vw:ZL.length≤9223372036854775807:=Xb.h2
  have WS:ZL.length≤ZV:=Xb.h3
  refine Wu Tryz.func56 rfl Tryz.ntmps56 rfl ?_;intro H
  refine ZK (Zm (l:=[0,1,2]) rfl ?_)
  refine Xk ?_;intro b1
  refine Xk ?_;intro b2
  refine ZB ?_;refine Zo (Zn (Y_pk [4,3,2] ?_))
  iterate 2 refine ZK ?_
  refine Zm (l:=[0,1,2]) rfl ?_;refine Zk F.foff32_2 ?_;refine ZD F.lay4 ?_;refine Xj ?_;refine Zo (Zn (Y_pk [12,4,3,2] ?_))
  refine YA rfl (fun hc3=>?_) (fun hc3=>?_)
  ·skip
   refine ZK (Zm (l:=[0]) rfl ?_);refine ZB ?_;refine Zo (Zn (Y_pk [4,3,2] ?_));refine Yo (YS ?_)
   refine Yk (.inr rfl) (.tmp rfl .nil) (fun w hw=>?_)
   refine ⟨_,M,rfl,Mem.le.refl M,hw.c,⟨none,0,[]⟩,rfl,?_,SlK.nil,fun y hy=>by cases hy⟩
   unfold UL
   rw [if_pos (by show Zs=false;simp_all)];rfl
  ·skip
   refine YG (Zn (Y_pk [4,3,2] ?_));refine ZK (Zm (l:=[0,1,2,3,4,5]) rfl ?_);refine ZD F.lay32 ?_;refine Zk F.foff44_2 ?_;refine ZD F.lay29 ?_;refine X_fs rfl rfl F.ok58 rfl (rlett_ok _ ⟨⟨⟨Za,Zb⟩,⟨Zf,Zh⟩,⟨Zj,Zi,Zg⟩,⟨Ze,Zd,Zc⟩⟩,Zr,Zs,ZH,Zv,ZT,ZC,ZA,Zw,Zq,Zy,Zp,Zz,⟨Zu,Zt,Zl⟩,ZG,ZJ⟩ 2 YB) rfl ?_
   rintro _ rfl
   refine YW F.zero44 ?_;intro b4
   refine X_store rfl rfl rfl rfl (by constructor) (by ((try simp only [cat,List.cons_append,List.nil_append,List.append_nil]);(repeat (first|exact XG|refine XN ?_|(refine YU ?_ ?_;rfl)));done)) (by repeat first|exact Upd.head|apply Upd.tail|apply Upd.over) F.lay44 (by simp only [ZF.segs,ZQ.segs,ZR.segs,ZP.segs,Yr.segs,ZW.segs,YQ.segs,Yc.segs,cat,List.cons_append,List.nil_append,List.append_nil,Segs.len,Seg.len,Yt]) (VT (m:=67) rfl (by simp only [ZF.segs,ZQ.segs,ZR.segs,ZP.segs,Yr.segs,ZW.segs,YQ.segs,Yc.segs,cat,List.cons_append,List.nil_append,List.append_nil,Segs.len,Seg.len,Yt]) (by simp only [ZF.segs,ZQ.segs,ZR.segs,ZP.segs,Yr.segs,ZW.segs,YQ.segs,Yc.segs,cat,List.cons_append,List.nil_append,List.append_nil,Segs.len,Seg.len,Yt])) ?_
   refine Zo (Zn (Y_pk [5,4,3,2] ?_));refine ZK (Zm (l:=[0,1,2,3,4,5,6,7,8,9,10]) rfl ?_);refine Zk F.foff32_0 ?_;refine ZD F.lay28 ?_;refine Zk F.foff44_3 ?_;refine ZD F.lay23 ?_;refine X_fs rfl rfl F.ok98 rfl (rDone_ok _ ⟨⟨Za,Zb⟩,⟨Zf,Zh⟩,⟨Zj,Zi,Zg⟩,⟨Ze,Zd,Zc⟩⟩ l_id Yv) rfl ?_
   rintro _ rfl
   obtain ⟨⟨⟨da,di⟩,db⟩,hd⟩:∃ x,VL (ZQ.tb ⟨⟨Za,Zb⟩,⟨Zf,Zh⟩,⟨Zj,Zi,Zg⟩,⟨Ze,Zd,Zc⟩⟩) l_id=x:=⟨_,rfl⟩
   rw [hd]
   refine Zx ?_
   iterate 2 refine XU ?_
   refine YW F.zero25 ?_;intro b5
   refine Yh F.lay25 ?_;refine ZB ?_;refine Zo (Zn (Y_pk [7,6,5,4,3,2] ?_));refine ZK (Zm (l:=[0,1,2,3,4,5,6,7,8,9,10,11,12]) rfl ?_);refine Zk F.foff32_0 ?_;refine ZD F.lay28 ?_;refine Zk F.foff44_3 ?_;refine ZD F.lay23 ?_;refine Zk F.foff44_4 ?_;refine ZD F.lay30 ?_;refine X_fn rfl rfl F.ok100 rfl (rNearest_ok _ ⟨⟨Za,Zb⟩,⟨Zf,Zh⟩,⟨Zj,Zi,Zg⟩,⟨Ze,Zd,Zc⟩⟩ l_id ⟨ZY,ZX,ZN⟩ Yv Xl hbig) rfl ?_
   rintro _ M1 hm1 rfl
   obtain ⟨⟨⟨qa,qi⟩,qb⟩,hq⟩:∃ x,Wj (ZQ.tb ⟨⟨Za,Zb⟩,⟨Zf,Zh⟩,⟨Zj,Zi,Zg⟩,⟨Ze,Zd,Zc⟩⟩) l_id (⟨ZY,ZX,ZN⟩:Sl Int).l=x:=⟨_,rfl⟩
   rw [hq]
   refine Zx ?_
   iterate 2 refine XU ?_
   refine YW F.zero25 ?_;intro b6
   refine Yh F.lay25 ?_;refine ZB ?_;refine Zo (Zn (Y_pk [9,8,7,6,5,4,3] ?_));refine ZK (Zm (l:=[0,1,2,3,4,5,6]) rfl ?_)
   iterate 2 refine Zx ?_
   refine Yj 36 rfl (fun hc7=>?_) (fun hc7=>?_)
   ·skip
    simp only [ZF.eta,ZQ.eta,ZR.eta,ZP.eta,Yr.eta,ZW.eta,YQ.eta,Yc.eta] at hc7
    iterate 2 refine Ya ?_
    refine ZO ?_;refine Zk F.foff44_5 ?_;refine Yh F.lay4 ?_;refine Zo (Zn (Y_pk [8,6,5,4,3] ?_));refine ZK (Zm (l:=[0,1,2]) rfl ?_);refine ZD F.lay25 ?_;refine Zk F.foff44_6 ?_;refine Yh F.lay25 ?_;refine Zo (Zn (Y_pk [8,5,4,3] ?_))
    iterate 2 refine ZK ?_
    refine Zm (l:=[0,1,2]) rfl ?_;refine Zk F.foff44_5 ?_;refine ZD F.lay4 ?_;refine Xj ?_;refine Zo (Zn (Y_pk [45,8,5,4,3] ?_))
    refine YA rfl (fun hc8=>?_) (fun hc8=>?_)
    ·skip
     (exfalso;simp [eqX] at hc8;done)
    ·skip
     refine YG (Zn (Y_pk [5,4,3] ?_));refine ZK (Zm (l:=[0,1,2,3,4,5,6]) rfl ?_);refine Zk F.foff44_1 ?_;refine Zk F.foff25_0 ?_;refine ZD F.lay3 ?_;refine ZD F.lay44 ?_;refine Xr rfl rfl F.bld49 (.cons rfl (by constructor) (.cons rfl (by constructor) .nil)) rfl rfl ?_
     refine Xq rfl rfl F.elem35 F.zero49 rfl rfl (.cons rfl (by constructor) .nil) rfl rfl (by simp only [List.map_cons,List.map_nil] <;> rfl) rfl ?_;intro b11 hob12
     refine ZB ?_;refine Zo (Zn (Y_pk [4] ?_));refine Yo ?_
     refine Yk (.inr rfl) (.tmp rfl .nil) (fun w hw=>?_)
     obtain rfl:db=true:=by first|assumption|(simp_all;done)
     have hb9:(true || !qb)=true:=by first|rfl|(simp;done)
     obtain ⟨M9,j1,j2,j3⟩:=OSl.frz (H:=H) (l:=[(⟨ZM,(⟨2,⟨Za,Zb⟩,YB,0,⟨none,0,[]⟩,true,⟨da,di⟩,⟨none,0,[]⟩⟩:ZP)⟩:Yr)]) (f:=Yr.segs) (show OSl 49 68 _ _ ([(⟨ZM,(⟨2,⟨Za,Zb⟩,YB,0,⟨none,0,[]⟩,true,⟨da,di⟩,⟨none,0,[]⟩⟩:ZP)⟩:Yr)].map Yr.segs) from (by exact hob12)) (hw.c)
     refine ⟨_,M9,rfl,hm1.trans j1,j2,⟨_,1,[(⟨ZM,(⟨2,⟨Za,Zb⟩,YB,0,⟨none,0,[]⟩,true,⟨da,di⟩,⟨none,0,[]⟩⟩:ZP)⟩:Yr)]⟩,rfl,?_,j3,fun y hy=>by obtain rfl:=List.mem_singleton.1 hy;exact ⟨⟨SlK.nil,SlK.nil⟩⟩⟩
     unfold UL
     rw [if_neg (by show ¬Zs=false;simp_all)]
     show _=[(⟨ZM,{ lett _ 2 YB with done:=(VL (ZQ.tb ⟨⟨Za,Zb⟩,⟨Zf,Zh⟩,⟨Zj,Zi,Zg⟩,⟨Ze,Zd,Zc⟩⟩) l_id).2 || !(Wj (ZQ.tb ⟨⟨Za,Zb⟩,⟨Zf,Zh⟩,⟨Zj,Zi,Zg⟩,⟨Ze,Zd,Zc⟩⟩) l_id ZN).2,peer:=if ((VL (ZQ.tb ⟨⟨Za,Zb⟩,⟨Zf,Zh⟩,⟨Zj,Zi,Zg⟩,⟨Ze,Zd,Zc⟩⟩) l_id).2 || !(Wj (ZQ.tb ⟨⟨Za,Zb⟩,⟨Zf,Zh⟩,⟨Zj,Zi,Zg⟩,⟨Ze,Zd,Zc⟩⟩) l_id ZN).2)=true then (VL (ZQ.tb ⟨⟨Za,Zb⟩,⟨Zf,Zh⟩,⟨Zj,Zi,Zg⟩,⟨Ze,Zd,Zc⟩⟩) l_id).1 else (Wj (ZQ.tb ⟨⟨Za,Zb⟩,⟨Zf,Zh⟩,⟨Zj,Zi,Zg⟩,⟨Ze,Zd,Zc⟩⟩) l_id ZN).1 }⟩:Snd)]
     rw [hd,show Wj (ZQ.tb ⟨⟨Za,Zb⟩,⟨Zf,Zh⟩,⟨Zj,Zi,Zg⟩,⟨Ze,Zd,Zc⟩⟩) l_id ZN=_ from hq]
     simp only [hb9]
     rfl
   ·skip
    simp only [ZF.eta,ZQ.eta,ZR.eta,ZP.eta,Yr.eta,ZW.eta,YQ.eta,Yc.eta] at hc7
    refine Zx ?_;refine Xj ?_;refine ZO ?_;refine Zk F.foff44_5 ?_;refine Yh F.lay4 ?_;refine Zo (Zn (Y_pk [8,6,5,4,3] ?_));refine ZK (Zm (l:=[0,1,2]) rfl ?_);refine ZD F.lay25 ?_;refine Zk F.foff44_6 ?_;refine Yh F.lay25 ?_;refine Zo (Zn (Y_pk [8,5,4,3] ?_))
    iterate 2 refine ZK ?_
    refine Zm (l:=[0,1,2]) rfl ?_;refine Zk F.foff44_5 ?_;refine ZD F.lay4 ?_;refine Xj ?_;refine Zo (Zn (Y_pk [45,8,5,4,3] ?_))
    refine YA rfl (fun hc13=>?_) (fun hc13=>?_)
    ·skip
     simp only [ZF.eta,ZQ.eta,ZR.eta,ZP.eta,Yr.eta,ZW.eta,YQ.eta,Yc.eta] at hc13
     refine Zm (l:=[0,1,2]) rfl ?_;refine ZD F.lay25 ?_;refine Zk F.foff44_6 ?_;refine Yh F.lay25 ?_;refine Zo (Zn (Y_pk [5,4,3] ?_));refine ZK (Zm (l:=[0,1,2,3,4,5,6]) rfl ?_);refine Zk F.foff44_1 ?_;refine Zk F.foff25_0 ?_;refine ZD F.lay3 ?_;refine ZD F.lay44 ?_;refine Xr rfl rfl F.bld49 (.cons rfl (by constructor) (.cons rfl (by constructor) .nil)) rfl rfl ?_
     refine Xq rfl rfl F.elem35 F.zero49 rfl rfl (.cons rfl (by constructor) .nil) rfl rfl (by simp only [List.map_cons,List.map_nil] <;> rfl) rfl ?_;intro b14 hob15
     refine ZB ?_;refine Zo (Zn (Y_pk [4] ?_));refine Yo ?_
     refine Yk (.inr rfl) (.tmp rfl .nil) (fun w hw=>?_)
     obtain rfl:db=false:=by first|assumption|(simp_all;done)
     obtain rfl:qb=true:=by first|assumption|(simp_all;done)
     have hb9:(false || !true)=false:=by first|rfl|(simp;done)
     obtain ⟨M9,j1,j2,j3⟩:=OSl.frz (H:=H) (l:=[(⟨ZM,(⟨2,⟨Za,Zb⟩,YB,0,⟨none,0,[]⟩,false,⟨qa,qi⟩,⟨none,0,[]⟩⟩:ZP)⟩:Yr)]) (f:=Yr.segs) (show OSl 49 68 _ _ ([(⟨ZM,(⟨2,⟨Za,Zb⟩,YB,0,⟨none,0,[]⟩,false,⟨qa,qi⟩,⟨none,0,[]⟩⟩:ZP)⟩:Yr)].map Yr.segs) from (by exact hob15)) (hw.c)
     refine ⟨_,M9,rfl,hm1.trans j1,j2,⟨_,1,[(⟨ZM,(⟨2,⟨Za,Zb⟩,YB,0,⟨none,0,[]⟩,false,⟨qa,qi⟩,⟨none,0,[]⟩⟩:ZP)⟩:Yr)]⟩,rfl,?_,j3,fun y hy=>by obtain rfl:=List.mem_singleton.1 hy;exact ⟨⟨SlK.nil,SlK.nil⟩⟩⟩
     unfold UL
     rw [if_neg (by show ¬Zs=false;simp_all)]
     show _=[(⟨ZM,{ lett _ 2 YB with done:=(VL (ZQ.tb ⟨⟨Za,Zb⟩,⟨Zf,Zh⟩,⟨Zj,Zi,Zg⟩,⟨Ze,Zd,Zc⟩⟩) l_id).2 || !(Wj (ZQ.tb ⟨⟨Za,Zb⟩,⟨Zf,Zh⟩,⟨Zj,Zi,Zg⟩,⟨Ze,Zd,Zc⟩⟩) l_id ZN).2,peer:=if ((VL (ZQ.tb ⟨⟨Za,Zb⟩,⟨Zf,Zh⟩,⟨Zj,Zi,Zg⟩,⟨Ze,Zd,Zc⟩⟩) l_id).2 || !(Wj (ZQ.tb ⟨⟨Za,Zb⟩,⟨Zf,Zh⟩,⟨Zj,Zi,Zg⟩,⟨Ze,Zd,Zc⟩⟩) l_id ZN).2)=true then (VL (ZQ.tb ⟨⟨Za,Zb⟩,⟨Zf,Zh⟩,⟨Zj,Zi,Zg⟩,⟨Ze,Zd,Zc⟩⟩) l_id).1 else (Wj (ZQ.tb ⟨⟨Za,Zb⟩,⟨Zf,Zh⟩,⟨Zj,Zi,Zg⟩,⟨Ze,Zd,Zc⟩⟩) l_id ZN).1 }⟩:Snd)]
     rw [hd,show Wj (ZQ.tb ⟨⟨Za,Zb⟩,⟨Zf,Zh⟩,⟨Zj,Zi,Zg⟩,⟨Ze,Zd,Zc⟩⟩) l_id ZN=_ from hq]
     simp only [hb9]
     rfl
    ·skip
     simp only [ZF.eta,ZQ.eta,ZR.eta,ZP.eta,Yr.eta,ZW.eta,YQ.eta,Yc.eta] at hc13
     refine YG (Zn (Y_pk [5,4,3] ?_));refine ZK (Zm (l:=[0,1,2,3,4,5,6]) rfl ?_);refine Zk F.foff44_1 ?_;refine Zk F.foff25_0 ?_;refine ZD F.lay3 ?_;refine ZD F.lay44 ?_;refine Xr rfl rfl F.bld49 (.cons rfl (by constructor) (.cons rfl (by constructor) .nil)) rfl rfl ?_
     refine Xq rfl rfl F.elem35 F.zero49 rfl rfl (.cons rfl (by constructor) .nil) rfl rfl (by simp only [List.map_cons,List.map_nil] <;> rfl) rfl ?_;intro b16 hob17
     refine ZB ?_;refine Zo (Zn (Y_pk [4] ?_));refine Yo ?_
     refine Yk (.inr rfl) (.tmp rfl .nil) (fun w hw=>?_)
     obtain rfl:db=false:=by first|assumption|(simp_all;done)
     obtain rfl:qb=false:=by first|assumption|(simp_all;done)
     have hb9:(false || !false)=true:=by first|rfl|(simp;done)
     obtain ⟨M9,j1,j2,j3⟩:=OSl.frz (H:=H) (l:=[(⟨ZM,(⟨2,⟨Za,Zb⟩,YB,0,⟨none,0,[]⟩,true,⟨da,di⟩,⟨none,0,[]⟩⟩:ZP)⟩:Yr)]) (f:=Yr.segs) (show OSl 49 68 _ _ ([(⟨ZM,(⟨2,⟨Za,Zb⟩,YB,0,⟨none,0,[]⟩,true,⟨da,di⟩,⟨none,0,[]⟩⟩:ZP)⟩:Yr)].map Yr.segs) from (by exact hob17)) (hw.c)
     refine ⟨_,M9,rfl,hm1.trans j1,j2,⟨_,1,[(⟨ZM,(⟨2,⟨Za,Zb⟩,YB,0,⟨none,0,[]⟩,true,⟨da,di⟩,⟨none,0,[]⟩⟩:ZP)⟩:Yr)]⟩,rfl,?_,j3,fun y hy=>by obtain rfl:=List.mem_singleton.1 hy;exact ⟨⟨SlK.nil,SlK.nil⟩⟩⟩
     unfold UL
     rw [if_neg (by show ¬Zs=false;simp_all)]
     show _=[(⟨ZM,{ lett _ 2 YB with done:=(VL (ZQ.tb ⟨⟨Za,Zb⟩,⟨Zf,Zh⟩,⟨Zj,Zi,Zg⟩,⟨Ze,Zd,Zc⟩⟩) l_id).2 || !(Wj (ZQ.tb ⟨⟨Za,Zb⟩,⟨Zf,Zh⟩,⟨Zj,Zi,Zg⟩,⟨Ze,Zd,Zc⟩⟩) l_id ZN).2,peer:=if ((VL (ZQ.tb ⟨⟨Za,Zb⟩,⟨Zf,Zh⟩,⟨Zj,Zi,Zg⟩,⟨Ze,Zd,Zc⟩⟩) l_id).2 || !(Wj (ZQ.tb ⟨⟨Za,Zb⟩,⟨Zf,Zh⟩,⟨Zj,Zi,Zg⟩,⟨Ze,Zd,Zc⟩⟩) l_id ZN).2)=true then (VL (ZQ.tb ⟨⟨Za,Zb⟩,⟨Zf,Zh⟩,⟨Zj,Zi,Zg⟩,⟨Ze,Zd,Zc⟩⟩) l_id).1 else (Wj (ZQ.tb ⟨⟨Za,Zb⟩,⟨Zf,Zh⟩,⟨Zj,Zi,Zg⟩,⟨Ze,Zd,Zc⟩⟩) l_id ZN).1 }⟩:Snd)]
     rw [hd,show Wj (ZQ.tb ⟨⟨Za,Zb⟩,⟨Zf,Zh⟩,⟨Zj,Zi,Zg⟩,⟨Ze,Zd,Zc⟩⟩) l_id ZN=_ from hq]
     simp only [hb9]
     rfl
end Go.Proofs.YtajmnjefajknoaaGreat
namespace Go.Esp
theorem found_no {n:Nd} {l:Lt} (h:n.findTo≠l.frm.addr∨n.findReq≠l.req):Uj n l=(n,[]):=if_pos h
theorem found_in {n:Nd} {l:Lt} (h1:n.findTo=l.frm.addr) (h2:n.findReq=l.req):Uj n l =
    if l.done then (if n.joined=true∧(Xn n.table.self l.peer∨l.peer=n.table.self) then (VW { n with findTo:=-1 } l.peer,[]) else if n.joined=false∧Xn n.table.self l.peer then ({ Vc { n with findTo:=-1 } l.peer [] with joined:=true,cursor:=0,avoid:=[] },[]) else ({ n with findTo:=-1 },[]))
    else if ¬Xn n.table.self l.peer∨l.peer.addr∈n.avoid∨l.peer.addr=l.frm.addr∨32≤n.hops then ({ n with findTo:=-1 },[])
    else UC { n with hops:=n.hops+1 } l.peer.addr:=by
  unfold Uj
  rw [if_neg (by rintro (h|h);exact h h1;exact h h2)]
theorem found_point {n:Nd} {l:Lt} (h1:n.findTo=l.frm.addr) (h2:n.findReq=l.req) (h3:l.done=true) (h4:n.joined=true) (h5:Xn n.table.self l.peer∨l.peer=n.table.self):Uj n l=(VW { n with findTo:=-1 } l.peer,[]):=by
  rw [found_in h1 h2,if_pos h3,if_pos ⟨h4,h5⟩]
theorem found_adopt {n:Nd} {l:Lt} (h1:n.findTo=l.frm.addr) (h2:n.findReq=l.req) (h3:l.done=true) (h4:n.joined=false) (h5:Xn n.table.self l.peer):Uj n l=({ Vc { n with findTo:=-1 } l.peer [] with joined:=true,cursor:=0,avoid:=[] },[]):=by
  rw [found_in h1 h2,if_pos h3,if_neg (by rw [h4];simp),if_pos ⟨h4,h5⟩]
theorem found_done {n:Nd} {l:Lt} (h1:n.findTo=l.frm.addr) (h2:n.findReq=l.req) (h3:l.done=true) (h4:n.joined=true→¬Xn n.table.self l.peer∧l.peer≠n.table.self) (h5:n.joined=false→¬Xn n.table.self l.peer):Uj n l=({ n with findTo:=-1 },[]):=by
  rw [found_in h1 h2,if_pos h3,if_neg (by rintro ⟨q1,q2|q2⟩;exact (h4 q1).1 q2;exact (h4 q1).2 q2),if_neg (by rintro ⟨q1,q2⟩;exact h5 q1 q2)]
theorem found_drop {n:Nd} {l:Lt} (h1:n.findTo=l.frm.addr) (h2:n.findReq=l.req) (h3:l.done=false) (h4:¬Xn n.table.self l.peer∨l.peer.addr∈n.avoid∨l.peer.addr=l.frm.addr∨32≤n.hops):Uj n l=({ n with findTo:=-1 },[]):=by
  rw [found_in h1 h2,if_neg (by rw [h3];decide),if_pos h4]
theorem found_seek {n:Nd} {l:Lt} (h1:n.findTo=l.frm.addr) (h2:n.findReq=l.req) (h3:l.done=false) (h4:Xn n.table.self l.peer) (h5:l.peer.addr∉n.avoid) (h6:l.peer.addr≠l.frm.addr) (h7:¬32≤n.hops):Uj n l=UC { n with hops:=n.hops+1 } l.peer.addr:=by
  rw [found_in h1 h2,if_neg (by rw [h3];decide),if_neg (by rintro (q|q|q|q);exact q h4;exact h5 q;exact h6 q;exact h7 q)]
theorem told_no {n:Nd} {l:Lt} (h:n.askTo≠l.frm.addr∨n.askReq≠l.req):UH n l=(n,[]):=if_pos h
theorem told_yes {n m q:Nd} {l:Lt} (h1:n.askTo=l.frm.addr) (h2:n.askReq=l.req) (hm:m=Vc { n with askTo:=-1 } l.frm l.peers) (h3:VP m.table l.peer) (hq:q=Vc m l.peer (l.frm::l.peers)):UH n l=(q,[⟨(Wi q.table).addr,lett q 5 0⟩]):=by
  subst hm hq
  unfold UH
  rw [if_neg (by rintro (h|h);exact h h1;exact h h2)]
  simp only [if_pos h3]
theorem told_not {n m:Nd} {l:Lt} (h1:n.askTo=l.frm.addr) (h2:n.askReq=l.req) (hm:m=Vc { n with askTo:=-1 } l.frm l.peers) (h3:¬VP m.table l.peer):UH n l=(m,[⟨(Wi m.table).addr,lett m 5 0⟩]):=by
  subst hm
  unfold UH
  rw [if_neg (by rintro (h|h);exact h h1;exact h h2)]
  simp only [if_neg h3]
theorem adopt_not {n:Nd} {p:ZF} {l:List ZF} (h:¬Xn n.table.self p):Vc n p l=n:=by
  have h2:Vl n.table p l n.copies=(Tb.zero,1):=if_neg (by rintro ⟨_,q,_⟩;exact h q)
  unfold Vc
  rw [h2]
  exact if_neg (by decide)
def byeT (n:Nd) (l:Lt):Tb:=if n.table.pred.addr=l.frm.addr then Vs (Wm n.table l.frm.addr) l.peer else Wm n.table l.frm.addr
theorem bye_yes {n m:Nd} {l:Lt} (hm:m={ n with table:=byeT n l }) (h1:(Wi n.table).addr=l.frm.addr) (h2:0<l.peers.length):byeN n l=Vc m l.peers[0] (l.peers.drop 1):=by
  subst hm
  unfold byeN byeT
  match hl:l.peers,h2 with
  | p::ps,_=>simp only [if_pos h1,List.getElem_cons_zero,List.drop_succ_cons,List.drop_zero]
theorem bye_no {n m:Nd} {l:Lt} (hm:m={ n with table:=byeT n l }) (h:(Wi n.table).addr=l.frm.addr→∀ h:0<l.peers.length,¬Xn m.table.self l.peers[0]):byeN n l=m:=by
  by_cases h1:(Wi n.table).addr=l.frm.addr
  · by_cases h2:0<l.peers.length
    · rw [bye_yes hm h1 h2]
      exact adopt_not (h h1 h2)
    · have h3:l.peers=[]:=List.eq_nil_of_length_eq_zero (by omega)
      subst hm
      unfold byeN byeT
      rw [h3]
  · subst hm
    unfold byeN byeT
    match hl:l.peers with
    | []=>rfl
    | p::ps=>simp only [if_neg h1]
theorem Vg {n:Nd} {l:Lt} (h:¬(IsNd n∧IsLt l)):Wz n l=(Nd.zero,[],1):=if_neg h
theorem take_not {n:Nd} {l:Lt} (h1:IsNd n) (h2:IsLt l) (h:¬Xn n.table.self l.frm):Wz n l=(n,[],0):=by
  unfold Wz
  rw [if_pos ⟨h1,h2⟩,if_pos h]
def XO (n:Nd) (l:Lt):Nd×List Snd :=
  if l.kind=1 then (n,UL n l)
  else if l.kind=2 then Uj n l
  else if l.kind=3 then (n,if n.joined then [⟨l.frm.addr,{ lett n 4 l.req with peer:=n.table.pred,peers:=n.table.succ }⟩] else [])
  else if l.kind=4 then UH n l
  else if l.kind=5 then ({ n with table:=Vs n.table l.frm },[])
  else if l.kind=6 then (n,[⟨l.frm.addr,lett n 7 l.req⟩])
  else if l.kind=7 then (if n.pingTo=l.frm.addr∧n.pingReq=l.req then { n with pingTo:=-1 } else n,[])
  else (byeN n l,[])
theorem VD {n:Nd} {l:Lt} (h1:IsNd n) (h2:IsLt l) (h:Xn n.table.self l.frm):Wz n l=((XO n l).1,(XO n l).2,0):=by
  unfold Wz XO
  rw [if_pos ⟨h1,h2⟩,if_neg (fun q=>q h)]
  split
  · rfl
  split
  · rfl
  split
  · rfl
  split
  · rfl
  split
  · rfl
  split
  · rfl
  split <;> rfl
def LvE (M:Mem) (v:Value) (X:List Snd×Int):Prop:=∃ o9:Sl Yr,v=.tuple #[o9.val,.int .i64 X.2]∧sndl o9.l=X.1∧SlK M Yr.segs 68 o9∧∀ y∈o9.l,Yr.ok M y
def NeE (M:Mem) (v:Value) (X:Nd×Int):Prop:=∃ n9:ZR,v=.tuple #[n9.enc,.int .i64 X.2]∧n9.nd=X.1∧ZR.ok M n9
theorem alone_no {s:ZF} {r:Int} (h:¬(YX s.addr∧1≤r∧r≤8)):Uz s r=(Nd.zero,1):=if_neg h
theorem alone_is {s:ZF} {r:Int} (h:YX s.addr∧1≤r∧r≤8):Uz s r=(⟨(newT s).1,r,true,-1,0,0,-1,0,-1,0,-1,0,0,[],0,0⟩,0):=if_pos h
theorem new_ok {s:ZF}:(newT s).2=0↔YX s.addr:=by
  unfold newT
  split <;> simp_all
theorem joining_no {s:ZF} {r b:Int} (h:¬((Uz s r).2=0∧YX b∧b≠s.addr)):joiningN s r b=(Nd.zero,1):=if_neg h
theorem joining_is {s:ZF} {r b:Int} (h:(Uz s r).2=0∧YX b∧b≠s.addr):joiningN s r b=({ (Uz s r).1 with joined:=false,boot:=b },0):=if_pos h
theorem does1 {n:Nd} {l:Lt} (h:l.kind=1):XO n l=(n,UL n l):=if_pos h
theorem does2 {n:Nd} {l:Lt} (h:l.kind=2):XO n l=Uj n l:=by
  unfold XO
  rw [if_neg (by rw [h];decide),if_pos h]
theorem does3 {n:Nd} {l:Lt} (h:l.kind=3):XO n l=(n,if n.joined then [⟨l.frm.addr,{ lett n 4 l.req with peer:=n.table.pred,peers:=n.table.succ }⟩] else []):=by
  unfold XO
  rw [if_neg (by rw [h];decide),if_neg (by rw [h];decide),if_pos h]
theorem does3n {n:Nd} {l:Lt} (h:l.kind=3) (hj:n.joined=false):XO n l=(n,[]):=by
  rw [does3 h,hj]
  rfl
theorem does3y {n:Nd} {l:Lt} (h:l.kind=3) (hj:n.joined=true):XO n l=(n,[⟨l.frm.addr,{ lett n 4 l.req with peer:=n.table.pred,peers:=n.table.succ }⟩]):=by
  rw [does3 h,hj]
  rfl
theorem does4 {n:Nd} {l:Lt} (h:l.kind=4):XO n l=UH n l:=by
  unfold XO
  rw [if_neg (by rw [h];decide),if_neg (by rw [h];decide),if_neg (by rw [h];decide),if_pos h]
theorem does5 {n:Nd} {l:Lt} {T:Tb} (h:l.kind=5) (hT:T=Vs n.table l.frm):XO n l=({ n with table:=T },[]):=by
  subst hT
  unfold XO
  rw [if_neg (by rw [h];decide),if_neg (by rw [h];decide),if_neg (by rw [h];decide),if_neg (by rw [h];decide),if_pos h]
theorem does6 {n:Nd} {l:Lt} (h:l.kind=6):XO n l=(n,[⟨l.frm.addr,lett n 7 l.req⟩]):=by
  unfold XO
  rw [if_neg (by rw [h];decide),if_neg (by rw [h];decide),if_neg (by rw [h];decide),if_neg (by rw [h];decide),if_neg (by rw [h];decide),if_pos h]
theorem does7 {n:Nd} {l:Lt} (h:l.kind=7):XO n l=(if n.pingTo=l.frm.addr∧n.pingReq=l.req then { n with pingTo:=-1 } else n,[]):=by
  unfold XO
  rw [if_neg (by rw [h];decide),if_neg (by rw [h];decide),if_neg (by rw [h];decide),if_neg (by rw [h];decide),if_neg (by rw [h];decide),if_neg (by rw [h];decide),if_pos h]
theorem does7y {n:Nd} {l:Lt} (h:l.kind=7) (h1:n.pingTo=l.frm.addr∧n.pingReq=l.req):XO n l=({ n with pingTo:=-1 },[]):=by
  rw [does7 h,if_pos h1]
theorem does7n {n:Nd} {l:Lt} (h:l.kind=7) (h1:¬(n.pingTo=l.frm.addr∧n.pingReq=l.req)):XO n l=(n,[]):=by
  rw [does7 h,if_neg h1]
theorem does8 {n:Nd} {l:Lt} (h:l.kind=8):XO n l=(byeN n l,[]):=by
  unfold XO
  rw [if_neg (by rw [h];decide),if_neg (by rw [h];decide),if_neg (by rw [h];decide),if_neg (by rw [h];decide),if_neg (by rw [h];decide),if_neg (by rw [h];decide),if_neg (by rw [h];decide)]
theorem lt8 {l:Lt} (h:IsLt l) (h1:¬l.kind=1) (h2:¬l.kind=2) (h3:¬l.kind=3) (h4:¬l.kind=4) (h5:¬l.kind=5) (h6:¬l.kind=6) (h7:¬l.kind=7):l.kind=8:=by
  have:=h.1
  omega
end Go.Esp
