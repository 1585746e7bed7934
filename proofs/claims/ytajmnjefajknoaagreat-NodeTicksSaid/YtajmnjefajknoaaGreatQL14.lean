/-
  Texts of this claim, one behind the other: N1, N2, N3, N4, NodeH, N5, N6, N7, N8.
-/
import Derived.Test.YtajmnjefajknoaaGreatQL13
set_option linter.unusedSimpArgs false
set_option linter.unusedVariables false
set_option linter.unnecessarySimpa false
set_option maxRecDepth 8000
set_option maxHeartbeats 1000000
namespace Go.Proofs.YtajmnjefajknoaaGreat
open Go.Esp
theorem F.foff32_0:foff Tryz.prog 32 0=some 0:=by kernel_rfl
theorem F.foff32_1:foff Tryz.prog 32 1=some 44:=by kernel_rfl
theorem F.foff32_10:foff Tryz.prog 32 10=some 53:=by kernel_rfl
theorem F.foff32_13:foff Tryz.prog 32 13=some 75:=by kernel_rfl
theorem F.foff32_14:foff Tryz.prog 32 14=some 76:=by kernel_rfl
theorem F.foff32_15:foff Tryz.prog 32 15=some 77:=by kernel_rfl
theorem F.foff32_2:foff Tryz.prog 32 2=some 45:=by kernel_rfl
theorem F.foff32_3:foff Tryz.prog 32 3=some 46:=by kernel_rfl
theorem F.foff32_4:foff Tryz.prog 32 4=some 47:=by kernel_rfl
theorem F.foff32_6:foff Tryz.prog 32 6=some 49:=by kernel_rfl
theorem F.foff32_8:foff Tryz.prog 32 8=some 51:=by kernel_rfl
theorem F.lay30:lay Tryz.prog 30=some (false,1):=by kernel_rfl
theorem F.lay32:lay Tryz.prog 32=some (true,78):=by kernel_rfl
theorem F.lay4:lay Tryz.prog 4=some (false,1):=by kernel_rfl
theorem F.lay91:lay Tryz.prog 91=some (false,1):=by kernel_rfl
theorem F.ok120:okFn Tryz.prog 120=true:=by kernel_rfl
theorem F.ok69:okFn Tryz.prog 69=true:=by kernel_rfl
theorem F.ok71:okFn Tryz.prog 71=true:=by kernel_rfl
theorem F.ok72:okFn Tryz.prog 72=true:=by kernel_rfl
theorem F.ok74:okFn Tryz.prog 74=true:=by kernel_rfl
theorem F.zero91:WC Tryz.prog 91=some (.nilFunc):=by kernel_rfl
theorem btw_ok (M:Mem) (x:Int) (lo:Int) (hi:Int):Fs Tryz.prog 69 [.int .i64 x,.int .i64 lo,.int .i64 hi] M (fun v=>v=Value.bool (decide (lo≤x∧x≤hi))):=by
  refine XB Tryz.func69 rfl Tryz.ntmps69 rfl ?_;intro H
  refine ZJ (Zm (l:=[0]) rfl ?_);refine ZD ?_;refine Zw (Zp (ZJ (Zm (l:=[0,1,2,3,4,5,6,7,8]) rfl ?_)))
  iterate 2 refine ZA ?_
  refine YJ ?_;refine ZA ?_
  refine Yw 10 rfl (fun hc1=>?_) (fun hc1=>?_)
  ·replace hc1:=dT hc1
   iterate 2 refine ZA ?_
   refine YJ ?_;refine ZM ?_;refine ZD ?_;refine Zw (Zp (Y_pk [6] ?_));refine Yq ?_
   refine Yg (.inr rfl) (.tmp rfl .nil) (fun w hw=>?_)
   refine ⟨_,rfl,(hw.c),?_⟩
   clear hw
   refine congrArg Value.bool ?_
   exact decide_eq_decide.2 ⟨fun h9=>⟨by omega,h9⟩,fun h9=>h9.2⟩
  ·replace hc1:=dF hc1
   iterate 3 refine ZY ?_
   refine ZM ?_;refine ZD ?_;refine Zw (Zp (Y_pk [6] ?_));refine Yq ?_
   refine Yg (.inr rfl) (.tmp rfl .nil) (fun w hw=>?_)
   refine ⟨_,rfl,(hw.c),?_⟩
   clear hw
   refine congrArg Value.bool ?_
   exact (decide_eq_false (fun h9=>by omega)).symm
theorem IndexFI_rd (M:Mem) (Hin:Hp) (l:Sl Int) (g:FuncId) (caps:List Value) (p:Int→Bool) (hl:RdS M Hin l.a (l.l.map (oneI .i64)) 1) (bl:l.l.length≤9223372036854775807) (hok:okFn Tryz.prog g=true) (hc:∀ x∈l.l,Fo Tryz.prog g ([.int .i64 x]++caps) M Hin (fun M' v=>M'=M∧v=.bool (p x))):Fo Tryz.prog 120 [l.val,.func (.func g) #[] caps.toArray] M Hin (fun M' v=>M'=M∧v=.int .i64 (idxF p l.l)):=by
  have nl:(l.l.map (oneI .i64)).length=l.l.length:=List.length_map ..
  refine Vo Tryz.func120 rfl Tryz.ntmps120 rfl ?_;intro H
  have hrd:=hl.app H
  refine ZJ (Zm (l:=[0]) rfl ?_);refine ZD ?_;refine Zw (Zp ?_)
  iterate 2 refine ZJ ?_
  refine Zm (l:=[0,1,2]) rfl ?_;refine ZA ?_;refine YW F.elem30 ?_;refine ZA ?_;refine Zw (Zp (Y_pk [8,7,4,0,1] ?_));refine Xd (Y_pk [8,7,4,0,1] ?_);refine WT (.succ .zero) (fun (k:Nat) z=>z=[(8,.int .i64 (k:Int))]∧k≤l.l.length∧(∀ j (h:j<k) (h2:j<l.l.length),p l.l[j]=false)) (fun k=>l.l.length-k) (0) (⟨rfl,by omega,by (intro j hj;omega)⟩) ?_
  rintro k _ ⟨rfl,hk,hI⟩
  refine ZJ (Zm (l:=[0]) rfl ?_);refine YJ ?_;refine Zw (Zp (ZJ ?_))
  refine YC rfl (fun hc1=>?_) (fun hc1=>?_)
  ·skip
   replace hc1:=dT hc1
   refine YE (Zp (ZJ (Xd (ZJ (Zm (l:=[0,1]) rfl ?_)))));refine ZA ?_;refine ZD ?_;refine Zw (Zp (ZJ (Zm (l:=[0,1,2,3,4,5]) rfl ?_)))
   iterate 3 refine ZA ?_
   refine YM rfl rfl rfl rfl F.elem30 (by rfl) (by omega) (by exact RdS.plain (by assumption) (by (simp;omega))) rfl ?_;refine X_load_rd rfl rfl rfl (by assumption) (by exact XQ (by omega)) F.lay3 rfl rfl rfl ?_;refine X_foV rfl rfl rfl hok rfl rfl (hc _ (List.getElem_mem (n:=k) (by omega))) (Rem.here _) (YN rfl) ?_
   rintro _ M1 _ ⟨hM1,rfl⟩;subst M1
   refine Zw (Zp ?_)
   refine YC rfl (fun hc2=>?_) (fun hc2=>?_)
   ·skip
    have hP:=hc2
    refine ZJ (Zm (l:=[0,1]) rfl ?_);refine ZA ?_;refine ZD ?_;refine Zw (Zp (Yq (XA ?_)))
    iterate 2 refine YS ?_
    refine XA (YS ?_)
    refine Yg (.inr rfl) (.tmp rfl .nil) (fun w hw=>?_)
    refine ⟨_,M,rfl,Mem.le.refl M,hw.c,rfl,?_⟩
    refine congrArg (Value.int .i64) ?_
    exact (idxF_at (by omega) (fun j hj=>hI j hj _) hP).symm
   ·skip
    have hP:=hc2
    refine YE (XS (Zp (Zm (l:=[0,1]) rfl ?_)));refine Xz rfl rfl rfl rfl rfl (by exact Xg (by decide) (by omega)) rfl ?_;refine ZA ?_;refine Zw ?_;refine WQ (a':=[(8,_)]) (k+1) (.cons (k:=8) rfl (.cons (k:=7) rfl (.cons (k:=4) rfl (.cons (k:=0) rfl (.cons (k:=1) rfl (.nil)))))) (fun w hw=>by first|exact hw|exact hw.c) ?_ ?_
    ·refine ⟨rfl,by omega,?_⟩
     (intro j hj hj2;rcases Nat.lt_or_ge j k with h9|h9;exact hI j h9 hj2;obtain rfl:j=k:=(by omega);simp_all)
    ·omega
  ·skip
   replace hc1:=dF hc1
   refine XO ?_
   iterate 2 refine XJ ?_
   refine XZ (Zp (Y_pk [4] ?_));refine ZJ (Zm (l:=[0]) rfl ?_);refine ZD ?_;refine Zw (Zp (Yq ?_))
   refine Yg (.inr rfl) (.tmp rfl .nil) (fun w hw=>?_)
   refine ⟨_,M,rfl,Mem.le.refl M,hw.c,rfl,?_⟩
   refine congrArg (Value.int .i64) ?_
   exact (idxF_none (fun j hj=>hI j (by omega) hj)).symm
theorem ContainsFI_rd (M:Mem) (Hin:Hp) (l:Sl Int) (g:FuncId) (caps:List Value) (p:Int→Bool) (hl:RdS M Hin l.a (l.l.map (oneI .i64)) 1) (bl:l.l.length≤9223372036854775807) (hok:okFn Tryz.prog g=true) (hc:∀ x∈l.l,Fo Tryz.prog g ([.int .i64 x]++caps) M Hin (fun M' v=>M'=M∧v=.bool (p x))):Fo Tryz.prog 71 [l.val,.func (.func g) #[] caps.toArray] M Hin (fun M' v=>M'=M∧v=.bool (l.l.any p)):=by
  refine Vo Tryz.func71 rfl Tryz.ntmps71 rfl ?_;intro H
  refine ZJ (Zm (l:=[0]) rfl ?_);refine ZD ?_;refine Zw (Zp (ZJ (Zm (l:=[0,1,2,3,4]) rfl ?_)))
  iterate 2 refine ZA ?_
  refine X_fo rfl rfl F.ok120 rfl (IndexFI_rd _ Hin ⟨_,_,_⟩ g caps p hl bl hok hc) (by repeat first|exact Rem.here _|exact Rem.two|apply Rem.skip|apply Rem.over) (YN rfl) ?_
  rintro _ M1 _ ⟨hM1,rfl⟩;subst M1
  refine YJ ?_;refine ZD ?_;refine Zw (Zp (Y_pk [4] ?_));refine Yq ?_
  refine Yg (.inr rfl) (.tmp rfl .nil) (fun w hw=>?_)
  exact ⟨_,M,rfl,Mem.le.refl M,hw.c,rfl,congrArg Value.bool idxF_nn⟩
theorem avo_ok (M:Mem) (b:Nat) (a:Int):Fo Tryz.prog 72 ([.int .i64 a]++[.pointer (some ⟨b,0,none⟩)]) M [(b,rowO [.one (.func (.func 69) #[] #[])] 91)] (fun M' v=>M'=M∧v=.bool (decide (¬(0≤a∧a≤999)))):=by
  refine Vo Tryz.func72 rfl Tryz.ntmps72 rfl ?_;intro H
  refine ZJ (Zm (l:=[0]) rfl ?_);refine ZD ?_;refine Zw (Zp (ZJ (Zm (l:=[0,1,2,3,4]) rfl ?_)));refine ZH F.lay91 ?_;refine ZA ?_;refine X_fsV rfl rfl rfl F.ok69 rfl rfl (btw_ok M _ _ _) rfl ?_
  rintro _ rfl
  refine XP ?_;refine ZD ?_;refine Zw (Zp (Y_pk [3] ?_));refine Yq ?_
  refine Yg (.inr rfl) (.tmp rfl .nil) (fun w hw=>?_)
  refine ⟨_,M,rfl,Mem.le.refl M,hw.c,rfl,?_⟩
  clear hw
  refine congrArg Value.bool ?_
  (by_cases h9:0≤a∧a≤999 <;> simp [h9])
theorem IsN_ok (M:Mem) (n:ZK) (hn0:ZK.ok M n):Fs Tryz.prog 27 [n.enc] M (fun v=>v=Value.bool (decide (IsNd n.nd))):=by
  obtain ⟨⟨⟨Za,Zb⟩,⟨Zf,Zh⟩,⟨Zj,Zi,Zg⟩,⟨Ze,Zd,Zc⟩⟩,Zt,Zs,ZC,Zz,ZL,ZB,Zy,Zu,Zo,Zv,Zn,Zx,⟨Zr,Zq,Zl⟩,ZE,ZF⟩:=n
  have Yt:ZN.ok M ⟨⟨Za,Zb⟩,⟨Zf,Zh⟩,⟨Zj,Zi,Zg⟩,⟨Ze,Zd,Zc⟩⟩:=hn0.h0
  have YU:SlK M ZI.segs 21 ⟨Zj,Zi,Zg⟩:=hn0.h0.h0
  have Wt:SlM M Zj (Zg.map ZI.segs) 21:=YU.h1
  have Wv:(Zg.map ZI.segs).length=Zg.length:=List.length_map ..
  have Ww:Zg.length≤9223372036854775807:=YU.h2
  have Wx:Zg.length≤Zi:=YU.h3
  have YK:SlK M ZI.segs 21 ⟨Ze,Zd,Zc⟩:=hn0.h0.h1
  have Wd:SlM M Ze (Zc.map ZI.segs) 21:=YK.h1
  have Wf:(Zc.map ZI.segs).length=Zc.length:=List.length_map ..
  have Wg:Zc.length≤9223372036854775807:=YK.h2
  have Wh:Zc.length≤Zd:=YK.h3
  have YI:SlK M (oneI .i64) 1 ⟨Zr,Zq,Zl⟩:=hn0.h1
  have WZ:SlM M Zr (Zl.map (oneI .i64)) 1:=YI.h1
  have Vt:(Zl.map (oneI .i64)).length=Zl.length:=List.length_map ..
  have Vj:Zl.length≤9223372036854775807:=YI.h2
  have Vu:Zl.length≤Zq:=YI.h3
  refine XB Tryz.func27 rfl Tryz.ntmps27 rfl ?_;intro H
  refine ZJ (Zm (l:=[0,1]) rfl ?_)
  refine Xv ?_;intro b1
  refine ZD ?_;refine Zw (Zp (Y_pk [2,1] ?_));refine ZJ (Zm (l:=[0,1]) rfl ?_)
  refine YQ F.zero91 ?_;intro b2
  refine ZX F.lay91 ?_;refine Zw (Zp ?_)
  iterate 2 refine ZJ ?_
  refine Zm (l:=[0,1,2,3,4,5,6,7,8,9,10,11,12,13,14,15,16,17,18,19,20,21,22,23,24,25,26,27,28,29,30,31,32,33,34,35,36,37,38,39,40,41,42,43,44,45,46,47]) rfl ?_;refine Zk F.foff32_0 ?_;refine ZH F.lay28 ?_;refine X_fs rfl rfl F.ok70 rfl (IsT_ok _ ⟨⟨Za,Zb⟩,⟨Zf,Zh⟩,⟨Zj,Zi,Zg⟩,⟨Ze,Zd,Zc⟩⟩ Yt) rfl ?_
  rintro _ rfl
  refine XP ?_;refine ZA ?_
  refine Yw 10 rfl (fun hc3=>?_) (fun hc3=>?_)
  ·replace hc3:=nT hc3
   iterate 5 refine ZY ?_
   refine ZM ?_;refine ZA ?_
   iterate 8 refine ZY ?_
   refine ZM ?_;refine ZA ?_
   iterate 5 refine ZY ?_
   refine ZM ?_;refine ZA ?_
   iterate 4 refine ZY ?_
   refine ZM ?_;refine ZA ?_
   iterate 5 refine ZY ?_
   refine ZM ?_;refine ZA ?_
   iterate 5 refine ZY ?_
   refine ZM ?_;refine Zw (Zp (Y_pk [53,3,2,1] ?_));refine Xw rfl ?_;refine ZJ (Zm (l:=[0]) rfl ?_);refine ZD ?_;refine Zw (Zp (Y_pk [2,3,1] ?_));refine Yq (YS ?_)
   refine Yg (.inr rfl) (.tmp rfl .nil) (fun w hw=>?_)
   refine ⟨_,rfl,(hw.c),?_⟩
   clear hw
   show _=Value.bool (decide (IsTb (ZN.tb ⟨⟨Za,Zb⟩,⟨Zf,Zh⟩,⟨Zj,Zi,Zg⟩,⟨Ze,Zd,Zc⟩⟩)∧(1≤Zt∧Zt≤8)∧(Zs=true∨ZC≠-1)∧(0≤Zz∧Zz≤159)∧Zl.length≤16∧(0≤ZE∧ZE≤64)∧(0≤ZF∧ZF≤999999)∧(YV ⟨Za,Zb⟩ ZC∧YV ⟨Za,Zb⟩ ZB∧YV ⟨Za,Zb⟩ Zu∧YV ⟨Za,Zb⟩ Zv)∧∀ a∈Zl,Xf a))
   refine congrArg Value.bool ?_
   refine (decide_eq_false (fun h9=>?_)).symm
   obtain ⟨g1,g2,g3,g4,g5,g6,g7,⟨g8,g81,g82,g83⟩,g9⟩:=h9
   contradiction
  ·replace hc3:=nF hc3
   refine ZH F.lay91 ?_;refine Zk F.foff32_1 ?_;refine ZH F.lay3 ?_;refine X_fsV rfl rfl rfl F.ok69 rfl rfl (btw_ok M _ _ _) rfl ?_
   rintro _ rfl
   refine XP ?_;refine ZM ?_;refine ZA ?_
   refine Yw 17 rfl (fun hc4=>?_) (fun hc4=>?_)
   ·replace hc4:=nT hc4
    iterate 8 refine ZY ?_
    refine ZM ?_;refine ZA ?_
    iterate 5 refine ZY ?_
    refine ZM ?_;refine ZA ?_
    iterate 4 refine ZY ?_
    refine ZM ?_;refine ZA ?_
    iterate 5 refine ZY ?_
    refine ZM ?_;refine ZA ?_
    iterate 5 refine ZY ?_
    refine ZM ?_;refine Zw (Zp (Y_pk [53,3,2,1] ?_));refine Xw rfl ?_;refine ZJ (Zm (l:=[0]) rfl ?_);refine ZD ?_;refine Zw (Zp (Y_pk [2,3,1] ?_));refine Yq (YS ?_)
    refine Yg (.inr rfl) (.tmp rfl .nil) (fun w hw=>?_)
    refine ⟨_,rfl,(hw.c),?_⟩
    clear hw
    show _=Value.bool (decide (IsTb (ZN.tb ⟨⟨Za,Zb⟩,⟨Zf,Zh⟩,⟨Zj,Zi,Zg⟩,⟨Ze,Zd,Zc⟩⟩)∧(1≤Zt∧Zt≤8)∧(Zs=true∨ZC≠-1)∧(0≤Zz∧Zz≤159)∧Zl.length≤16∧(0≤ZE∧ZE≤64)∧(0≤ZF∧ZF≤999999)∧(YV ⟨Za,Zb⟩ ZC∧YV ⟨Za,Zb⟩ ZB∧YV ⟨Za,Zb⟩ Zu∧YV ⟨Za,Zb⟩ Zv)∧∀ a∈Zl,Xf a))
    refine congrArg Value.bool ?_
    refine (decide_eq_false (fun h9=>?_)).symm
    obtain ⟨g1,g2,g3,g4,g5,g6,g7,⟨g8,g81,g82,g83⟩,g9⟩:=h9
    contradiction
   ·replace hc4:=nF hc4
    refine Zk F.foff32_2 ?_;refine ZH F.lay4 ?_;refine XP ?_;refine ZA ?_
    refine Yw 21 rfl (fun hc5=>?_) (fun hc5=>?_)
    ·skip
     refine Zk F.foff32_3 ?_;refine ZH F.lay3 ?_;refine YJ ?_
     iterate 2 refine ZM ?_
     refine ZA ?_
     refine Yw 27 rfl (fun hc6=>?_) (fun hc6=>?_)
     ·replace hc6:=dT hc6
      iterate 5 refine ZY ?_
      refine ZM ?_;refine ZA ?_
      iterate 4 refine ZY ?_
      refine ZM ?_;refine ZA ?_
      iterate 5 refine ZY ?_
      refine ZM ?_;refine ZA ?_
      iterate 5 refine ZY ?_
      refine ZM ?_;refine Zw (Zp (Y_pk [53,3,2,1] ?_));refine Xw rfl ?_;refine ZJ (Zm (l:=[0]) rfl ?_);refine ZD ?_;refine Zw (Zp (Y_pk [2,3,1] ?_));refine Yq (YS ?_)
      refine Yg (.inr rfl) (.tmp rfl .nil) (fun w hw=>?_)
      refine ⟨_,rfl,(hw.c),?_⟩
      clear hw
      show _=Value.bool (decide (IsTb (ZN.tb ⟨⟨Za,Zb⟩,⟨Zf,Zh⟩,⟨Zj,Zi,Zg⟩,⟨Ze,Zd,Zc⟩⟩)∧(1≤Zt∧Zt≤8)∧(Zs=true∨ZC≠-1)∧(0≤Zz∧Zz≤159)∧Zl.length≤16∧(0≤ZE∧ZE≤64)∧(0≤ZF∧ZF≤999999)∧(YV ⟨Za,Zb⟩ ZC∧YV ⟨Za,Zb⟩ ZB∧YV ⟨Za,Zb⟩ Zu∧YV ⟨Za,Zb⟩ Zv)∧∀ a∈Zl,Xf a))
      refine congrArg Value.bool ?_
      refine (decide_eq_false (fun h9=>?_)).symm
      obtain ⟨g1,g2,g3,g4,g5,g6,g7,⟨g8,g81,g82,g83⟩,g9⟩:=h9
      (simp_all;done)
     ·replace hc6:=dF hc6
      refine ZH F.lay91 ?_;refine Zk F.foff32_4 ?_;refine ZH F.lay3 ?_;refine X_fsV rfl rfl rfl F.ok69 rfl rfl (btw_ok M _ _ _) rfl ?_
      rintro _ rfl
      refine XP ?_;refine ZM ?_;refine ZA ?_
      refine Yw 34 rfl (fun hc7=>?_) (fun hc7=>?_)
      ·replace hc7:=nT hc7
       iterate 4 refine ZY ?_
       refine ZM ?_;refine ZA ?_
       iterate 5 refine ZY ?_
       refine ZM ?_;refine ZA ?_
       iterate 5 refine ZY ?_
       refine ZM ?_;refine Zw (Zp (Y_pk [53,3,2,1] ?_));refine Xw rfl ?_;refine ZJ (Zm (l:=[0]) rfl ?_);refine ZD ?_;refine Zw (Zp (Y_pk [2,3,1] ?_));refine Yq (YS ?_)
       refine Yg (.inr rfl) (.tmp rfl .nil) (fun w hw=>?_)
       refine ⟨_,rfl,(hw.c),?_⟩
       clear hw
       show _=Value.bool (decide (IsTb (ZN.tb ⟨⟨Za,Zb⟩,⟨Zf,Zh⟩,⟨Zj,Zi,Zg⟩,⟨Ze,Zd,Zc⟩⟩)∧(1≤Zt∧Zt≤8)∧(Zs=true∨ZC≠-1)∧(0≤Zz∧Zz≤159)∧Zl.length≤16∧(0≤ZE∧ZE≤64)∧(0≤ZF∧ZF≤999999)∧(YV ⟨Za,Zb⟩ ZC∧YV ⟨Za,Zb⟩ ZB∧YV ⟨Za,Zb⟩ Zu∧YV ⟨Za,Zb⟩ Zv)∧∀ a∈Zl,Xf a))
       refine congrArg Value.bool ?_
       refine (decide_eq_false (fun h9=>?_)).symm
       obtain ⟨g1,g2,g3,g4,g5,g6,g7,⟨g8,g81,g82,g83⟩,g9⟩:=h9
       contradiction
      ·replace hc7:=nF hc7
       refine Zk F.foff32_13 ?_;refine ZH F.lay30 ?_;refine YW F.elem30 ?_;refine YJ ?_;refine ZM ?_;refine ZA ?_
       refine Yw 40 rfl (fun hc8=>?_) (fun hc8=>?_)
       ·replace hc8:=dT hc8
        iterate 5 refine ZY ?_
        refine ZM ?_;refine ZA ?_
        iterate 5 refine ZY ?_
        refine ZM ?_;refine Zw (Zp (Y_pk [53,3,2,1] ?_));refine Xw rfl ?_;refine ZJ (Zm (l:=[0]) rfl ?_);refine ZD ?_;refine Zw (Zp (Y_pk [2,3,1] ?_));refine Yq (YS ?_)
        refine Yg (.inr rfl) (.tmp rfl .nil) (fun w hw=>?_)
        refine ⟨_,rfl,(hw.c),?_⟩
        clear hw
        show _=Value.bool (decide (IsTb (ZN.tb ⟨⟨Za,Zb⟩,⟨Zf,Zh⟩,⟨Zj,Zi,Zg⟩,⟨Ze,Zd,Zc⟩⟩)∧(1≤Zt∧Zt≤8)∧(Zs=true∨ZC≠-1)∧(0≤Zz∧Zz≤159)∧Zl.length≤16∧(0≤ZE∧ZE≤64)∧(0≤ZF∧ZF≤999999)∧(YV ⟨Za,Zb⟩ ZC∧YV ⟨Za,Zb⟩ ZB∧YV ⟨Za,Zb⟩ Zu∧YV ⟨Za,Zb⟩ Zv)∧∀ a∈Zl,Xf a))
        refine congrArg Value.bool ?_
        refine (decide_eq_false (fun h9=>?_)).symm
        obtain ⟨g1,g2,g3,g4,g5,g6,g7,⟨g8,g81,g82,g83⟩,g9⟩:=h9
        omega
       ·replace hc8:=dF hc8
        refine ZH F.lay91 ?_;refine Zk F.foff32_14 ?_;refine ZH F.lay3 ?_;refine X_fsV rfl rfl rfl F.ok69 rfl rfl (btw_ok M _ _ _) rfl ?_
        rintro _ rfl
        refine XP ?_;refine ZM ?_;refine ZA ?_
        refine Yw 47 rfl (fun hc9=>?_) (fun hc9=>?_)
        ·replace hc9:=nT hc9
         iterate 5 refine ZY ?_
         refine ZM ?_;refine Zw (Zp (Y_pk [53,3,2,1] ?_));refine Xw rfl ?_;refine ZJ (Zm (l:=[0]) rfl ?_);refine ZD ?_;refine Zw (Zp (Y_pk [2,3,1] ?_));refine Yq (YS ?_)
         refine Yg (.inr rfl) (.tmp rfl .nil) (fun w hw=>?_)
         refine ⟨_,rfl,(hw.c),?_⟩
         clear hw
         show _=Value.bool (decide (IsTb (ZN.tb ⟨⟨Za,Zb⟩,⟨Zf,Zh⟩,⟨Zj,Zi,Zg⟩,⟨Ze,Zd,Zc⟩⟩)∧(1≤Zt∧Zt≤8)∧(Zs=true∨ZC≠-1)∧(0≤Zz∧Zz≤159)∧Zl.length≤16∧(0≤ZE∧ZE≤64)∧(0≤ZF∧ZF≤999999)∧(YV ⟨Za,Zb⟩ ZC∧YV ⟨Za,Zb⟩ ZB∧YV ⟨Za,Zb⟩ Zu∧YV ⟨Za,Zb⟩ Zv)∧∀ a∈Zl,Xf a))
         refine congrArg Value.bool ?_
         refine (decide_eq_false (fun h9=>?_)).symm
         obtain ⟨g1,g2,g3,g4,g5,g6,g7,⟨g8,g81,g82,g83⟩,g9⟩:=h9
         contradiction
        ·replace hc9:=nF hc9
         refine ZH F.lay91 ?_;refine Zk F.foff32_15 ?_;refine ZH F.lay3 ?_;refine X_fsV rfl rfl rfl F.ok69 rfl rfl (btw_ok M _ _ _) rfl ?_
         rintro _ rfl
         refine XP ?_;refine ZM ?_;refine Zw (Zp (Y_pk [53,3,2,1] ?_))
         refine YC rfl (fun hc10=>?_) (fun hc10=>?_)
         ·replace hc10:=nT hc10
          refine ZJ (Zm (l:=[0]) rfl ?_);refine ZD ?_;refine Zw (Zp (Y_pk [2,3,1] ?_));refine Yq (YS ?_)
          refine Yg (.inr rfl) (.tmp rfl .nil) (fun w hw=>?_)
          refine ⟨_,rfl,(hw.c),?_⟩
          clear hw
          show _=Value.bool (decide (IsTb (ZN.tb ⟨⟨Za,Zb⟩,⟨Zf,Zh⟩,⟨Zj,Zi,Zg⟩,⟨Ze,Zd,Zc⟩⟩)∧(1≤Zt∧Zt≤8)∧(Zs=true∨ZC≠-1)∧(0≤Zz∧Zz≤159)∧Zl.length≤16∧(0≤ZE∧ZE≤64)∧(0≤ZF∧ZF≤999999)∧(YV ⟨Za,Zb⟩ ZC∧YV ⟨Za,Zb⟩ ZB∧YV ⟨Za,Zb⟩ Zu∧YV ⟨Za,Zb⟩ Zv)∧∀ a∈Zl,Xf a))
          refine congrArg Value.bool ?_
          refine (decide_eq_false (fun h9=>?_)).symm
          obtain ⟨g1,g2,g3,g4,g5,g6,g7,⟨g8,g81,g82,g83⟩,g9⟩:=h9
          contradiction
         ·replace hc10:=nF hc10
          refine YE (Zp (Y_pk [3,2,1] ?_))
          iterate 2 refine ZJ ?_
          refine Zm (l:=[0,1,2,3,4,5,6,7,8,9,10]) rfl ?_;refine Zk F.foff32_3 ?_;refine ZH F.lay3 ?_;refine Zk F.foff32_6 ?_;refine ZH F.lay3 ?_;refine Zk F.foff32_8 ?_;refine ZH F.lay3 ?_;refine Zk F.foff32_10 ?_;refine ZH F.lay3 ?_
          refine Xu rfl rfl F.elem30 F.zero3 rfl rfl (.cons rfl (by constructor) (.cons rfl (by constructor) (.cons rfl (by constructor) (.cons rfl (by constructor) .nil)))) rfl rfl (by simp only [List.map_cons,List.map_nil] <;> rfl) rfl ?_;intro b11 hob12
          obtain ⟨L4,hL4⟩:∃ l,[ZC,ZB,Zu,Zv]=l:=⟨_,rfl⟩
          have ho4:=OSl.as9 hob12 (show _=L4.map (oneI .i64) by rw [← hL4];rfl)
          have hl4:L4.length=4:=by rw [← hL4];rfl
          have n_L4:(L4.map (oneI .i64)).length=L4.length:=List.length_map ..
          refine YW F.elem30 ?_;refine ZA ?_;refine Zw (Zp (Y_pk [64,63,62,3,2,1] ?_));refine Xd (Y_pk [64,63,62,3,2,1] ?_);refine WT (.succ .zero) (fun (k:Nat) z=>z=[(64,.int .i64 (k:Int))]∧k≤4∧∀ j (h:j<L4.length),j<k→YV ⟨Za,Zb⟩ L4[j]) (fun k=>4-k) (0) (⟨rfl,by omega,fun j h hj=>by omega⟩) ?_
          rintro k _ ⟨rfl,hk,hI⟩
          refine ZJ (Zm (l:=[0]) rfl ?_);refine YJ ?_;refine Zw (Zp (ZJ ?_))
          refine YC rfl (fun hc13=>?_) (fun hc13=>?_)
          ·replace hc13:=dT hc13
           refine YE (Zp (ZJ (Xd (ZJ (Zm (l:=[0,1,2]) rfl ?_)))));refine YM rfl rfl rfl rfl F.elem30 (by rfl) (by omega) (by exact ⟨_,_,rfl⟩) rfl ?_;refine X_load_osl rfl rfl rfl (by assumption) (by repeat first|exact Rem.here _|exact Rem.two|apply Rem.skip|apply Rem.over) (by exact XQ (by omega)) F.lay3 rfl rfl rfl ?_;refine ZD ?_;refine Zw (Zp (ZJ (Zm (l:=[0,1,2,3,4,5,6,7,8,9,10,11]) rfl ?_)));refine ZH F.lay91 ?_;refine ZA ?_;refine X_fsV rfl rfl rfl F.ok69 rfl rfl (btw_ok M _ _ _) rfl ?_
           rintro _ rfl
           refine XP ?_;refine ZA ?_
           refine Yw 72 rfl (fun hc14=>?_) (fun hc14=>?_)
           ·replace hc14:=nT hc14
            iterate 6 refine ZY ?_
            refine ZM ?_;refine Zw (Zp (Xw rfl ?_));refine ZJ (Zm (l:=[0]) rfl ?_);refine ZD ?_;refine Zw (Zp (Yq (XA ?_)))
            iterate 2 refine YS ?_
            refine XA (YS ?_)
            refine Yg (.inr rfl) (.tmp rfl .nil) (fun w hw=>?_)
            refine ⟨_,rfl,(hw.c),?_⟩
            clear hw
            show _=Value.bool (decide (IsTb (ZN.tb ⟨⟨Za,Zb⟩,⟨Zf,Zh⟩,⟨Zj,Zi,Zg⟩,⟨Ze,Zd,Zc⟩⟩)∧(1≤Zt∧Zt≤8)∧(Zs=true∨ZC≠-1)∧(0≤Zz∧Zz≤159)∧Zl.length≤16∧(0≤ZE∧ZE≤64)∧(0≤ZF∧ZF≤999999)∧(YV ⟨Za,Zb⟩ ZC∧YV ⟨Za,Zb⟩ ZB∧YV ⟨Za,Zb⟩ Zu∧YV ⟨Za,Zb⟩ Zv)∧∀ a∈Zl,Xf a))
            refine congrArg Value.bool ?_
            refine (decide_eq_false (fun h9=>?_)).symm
            obtain ⟨g1,g2,g3,g4,g5,g6,g7,⟨g8,g81,g82,g83⟩,g9⟩:=h9
            have h5:=(addr4 (s:=⟨Za,Zb⟩)).2 ⟨g8,g81,g82,g83⟩
            have h6:=fun j (h:j<L4.length)=>(show YV ⟨Za,Zb⟩ L4[j] from by subst hL4;exact h5 j h)
            have h7:=h6 k (by omega)
            obtain ⟨h71,h72⟩:=h7
            contradiction
           ·replace hc14:=nF hc14
            refine ZA ?_;refine Zk F.foff32_0 ?_;refine Zk F.foff28_0 ?_;refine Zk F.foff25_0 ?_;refine ZH F.lay3 ?_;refine YJ ?_;refine ZM ?_;refine Zw (Zp ?_)
            refine YC rfl (fun hc15=>?_) (fun hc15=>?_)
            ·replace hc15:=dT hc15
             refine ZJ (Zm (l:=[0]) rfl ?_);refine ZD ?_;refine Zw (Zp (Yq (XA ?_)))
             iterate 2 refine YS ?_
             refine XA (YS ?_)
             refine Yg (.inr rfl) (.tmp rfl .nil) (fun w hw=>?_)
             refine ⟨_,rfl,(hw.c),?_⟩
             clear hw
             show _=Value.bool (decide (IsTb (ZN.tb ⟨⟨Za,Zb⟩,⟨Zf,Zh⟩,⟨Zj,Zi,Zg⟩,⟨Ze,Zd,Zc⟩⟩)∧(1≤Zt∧Zt≤8)∧(Zs=true∨ZC≠-1)∧(0≤Zz∧Zz≤159)∧Zl.length≤16∧(0≤ZE∧ZE≤64)∧(0≤ZF∧ZF≤999999)∧(YV ⟨Za,Zb⟩ ZC∧YV ⟨Za,Zb⟩ ZB∧YV ⟨Za,Zb⟩ Zu∧YV ⟨Za,Zb⟩ Zv)∧∀ a∈Zl,Xf a))
             refine congrArg Value.bool ?_
             refine (decide_eq_false (fun h9=>?_)).symm
             obtain ⟨g1,g2,g3,g4,g5,g6,g7,⟨g8,g81,g82,g83⟩,g9⟩:=h9
             have h5:=(addr4 (s:=⟨Za,Zb⟩)).2 ⟨g8,g81,g82,g83⟩
             have h6:=fun j (h:j<L4.length)=>(show YV ⟨Za,Zb⟩ L4[j] from by subst hL4;exact h5 j h)
             have h7:=h6 k (by omega)
             obtain ⟨h71,h72⟩:=h7
             contradiction
            ·replace hc15:=dF hc15
             refine YE (XS (Zp (Zm (l:=[0,1]) rfl ?_)));refine Xz rfl rfl rfl rfl rfl (by exact Xg (by decide) (by omega)) rfl ?_;refine ZA ?_;refine Zw ?_;refine WQ (a':=[(64,_)]) (k+1) (.cons (k:=64) rfl (.cons (k:=63) rfl (.cons (k:=62) rfl (.cons (k:=3) rfl (.cons (k:=2) rfl (.cons (k:=1) rfl (.nil))))))) (fun w hw=>by first|exact hw|exact hw.c) ?_ ?_
             ·refine ⟨rfl,by omega,fun j h hj=>?_⟩
              rcases Nat.lt_or_ge j k with h9|h9
              ·exact hI j h h9
              ·have hjk:j=k:=by omega
               subst hjk
               exact ⟨by assumption,by assumption⟩
             ·omega
          ·replace hc13:=dF hc13
           refine XO ?_
           iterate 2 refine XJ ?_
           refine XZ (Zp (Y_pk [3,2,1] ?_));refine ZJ (Zm (l:=[0,1,2,3,4,5]) rfl ?_);refine Zk F.foff32_13 ?_;refine ZH F.lay30 ?_;refine X_makeFunc rfl rfl rfl rfl rfl ?_;refine X_fo rfl rfl F.ok71 rfl (ContainsFI_rd _ [(b2,_)] ⟨_,_,_⟩ 72 [_] (fun a=>decide (¬(0≤a∧a≤999))) (WZ.rd _) Vj F.ok72 (fun x hx=>avo_ok M _ x)) (by repeat first|exact Rem.here _|exact Rem.two|apply Rem.skip|apply Rem.over) (YN rfl) ?_
           rintro _ M1 _ ⟨hM1,rfl⟩;subst M1
           refine XP ?_;refine ZD ?_;refine Zw (Zp (Y_pk [2] ?_));refine Yq ?_
           refine Yg (.inr rfl) (.tmp rfl .nil) (fun w hw=>?_)
           refine ⟨_,rfl,(hw.c),?_⟩
           clear hw
           obtain rfl:k=4:=by omega
           have h4:∀ j (h:j<[ZC,ZB,Zu,Zv].length),YV ⟨Za,Zb⟩ [ZC,ZB,Zu,Zv][j]:=by rw [hL4];exact fun j h=>hI j h (by omega)
           have h5:=addr4.1 h4
           show _=Value.bool (decide (IsTb (ZN.tb ⟨⟨Za,Zb⟩,⟨Zf,Zh⟩,⟨Zj,Zi,Zg⟩,⟨Ze,Zd,Zc⟩⟩)∧(1≤Zt∧Zt≤8)∧(Zs=true∨ZC≠-1)∧(0≤Zz∧Zz≤159)∧Zl.length≤16∧(0≤ZE∧ZE≤64)∧(0≤ZF∧ZF≤999999)∧(YV ⟨Za,Zb⟩ ZC∧YV ⟨Za,Zb⟩ ZB∧YV ⟨Za,Zb⟩ Zu∧YV ⟨Za,Zb⟩ Zv)∧∀ a∈Zl,Xf a))
           refine congrArg Value.bool ?_
           have h6:=any_odd (l:=Zl)
           obtain ⟨B,hB⟩:∃ b,(Zl.any fun a=>decide (¬(0≤a∧a≤999)))=b:=⟨_,rfl⟩
           rw [hB] at h6 ⊢
           cases B
           ·exact (decide_eq_true ⟨by assumption,by first|assumption|omega,by first|assumption|(simp_all;done),by first|assumption|omega,by omega,by first|assumption|omega,by first|assumption|omega,h5,h6.1 rfl⟩).symm
           ·exact (decide_eq_false (fun h9=>by have h8:=h6.2 h9.2.2.2.2.2.2.2.2;cases h8)).symm
    ·skip
     iterate 3 refine ZY ?_
     iterate 2 refine ZM ?_
     refine ZA ?_;refine ZH F.lay91 ?_;refine Zk F.foff32_4 ?_;refine ZH F.lay3 ?_;refine X_fsV rfl rfl rfl F.ok69 rfl rfl (btw_ok M _ _ _) rfl ?_
     rintro _ rfl
     refine XP ?_;refine ZM ?_;refine ZA ?_
     refine Yw 34 rfl (fun hc16=>?_) (fun hc16=>?_)
     ·replace hc16:=nT hc16
      iterate 4 refine ZY ?_
      refine ZM ?_;refine ZA ?_
      iterate 5 refine ZY ?_
      refine ZM ?_;refine ZA ?_
      iterate 5 refine ZY ?_
      refine ZM ?_;refine Zw (Zp (Y_pk [53,3,2,1] ?_));refine Xw rfl ?_;refine ZJ (Zm (l:=[0]) rfl ?_);refine ZD ?_;refine Zw (Zp (Y_pk [2,3,1] ?_));refine Yq (YS ?_)
      refine Yg (.inr rfl) (.tmp rfl .nil) (fun w hw=>?_)
      refine ⟨_,rfl,(hw.c),?_⟩
      clear hw
      show _=Value.bool (decide (IsTb (ZN.tb ⟨⟨Za,Zb⟩,⟨Zf,Zh⟩,⟨Zj,Zi,Zg⟩,⟨Ze,Zd,Zc⟩⟩)∧(1≤Zt∧Zt≤8)∧(Zs=true∨ZC≠-1)∧(0≤Zz∧Zz≤159)∧Zl.length≤16∧(0≤ZE∧ZE≤64)∧(0≤ZF∧ZF≤999999)∧(YV ⟨Za,Zb⟩ ZC∧YV ⟨Za,Zb⟩ ZB∧YV ⟨Za,Zb⟩ Zu∧YV ⟨Za,Zb⟩ Zv)∧∀ a∈Zl,Xf a))
      refine congrArg Value.bool ?_
      refine (decide_eq_false (fun h9=>?_)).symm
      obtain ⟨g1,g2,g3,g4,g5,g6,g7,⟨g8,g81,g82,g83⟩,g9⟩:=h9
      contradiction
     ·replace hc16:=nF hc16
      refine Zk F.foff32_13 ?_;refine ZH F.lay30 ?_;refine YW F.elem30 ?_;refine YJ ?_;refine ZM ?_;refine ZA ?_
      refine Yw 40 rfl (fun hc17=>?_) (fun hc17=>?_)
      ·replace hc17:=dT hc17
       iterate 5 refine ZY ?_
       refine ZM ?_;refine ZA ?_
       iterate 5 refine ZY ?_
       refine ZM ?_;refine Zw (Zp (Y_pk [53,3,2,1] ?_));refine Xw rfl ?_;refine ZJ (Zm (l:=[0]) rfl ?_);refine ZD ?_;refine Zw (Zp (Y_pk [2,3,1] ?_));refine Yq (YS ?_)
       refine Yg (.inr rfl) (.tmp rfl .nil) (fun w hw=>?_)
       refine ⟨_,rfl,(hw.c),?_⟩
       clear hw
       show _=Value.bool (decide (IsTb (ZN.tb ⟨⟨Za,Zb⟩,⟨Zf,Zh⟩,⟨Zj,Zi,Zg⟩,⟨Ze,Zd,Zc⟩⟩)∧(1≤Zt∧Zt≤8)∧(Zs=true∨ZC≠-1)∧(0≤Zz∧Zz≤159)∧Zl.length≤16∧(0≤ZE∧ZE≤64)∧(0≤ZF∧ZF≤999999)∧(YV ⟨Za,Zb⟩ ZC∧YV ⟨Za,Zb⟩ ZB∧YV ⟨Za,Zb⟩ Zu∧YV ⟨Za,Zb⟩ Zv)∧∀ a∈Zl,Xf a))
       refine congrArg Value.bool ?_
       refine (decide_eq_false (fun h9=>?_)).symm
       obtain ⟨g1,g2,g3,g4,g5,g6,g7,⟨g8,g81,g82,g83⟩,g9⟩:=h9
       omega
      ·replace hc17:=dF hc17
       refine ZH F.lay91 ?_;refine Zk F.foff32_14 ?_;refine ZH F.lay3 ?_;refine X_fsV rfl rfl rfl F.ok69 rfl rfl (btw_ok M _ _ _) rfl ?_
       rintro _ rfl
       refine XP ?_;refine ZM ?_;refine ZA ?_
       refine Yw 47 rfl (fun hc18=>?_) (fun hc18=>?_)
       ·replace hc18:=nT hc18
        iterate 5 refine ZY ?_
        refine ZM ?_;refine Zw (Zp (Y_pk [53,3,2,1] ?_));refine Xw rfl ?_;refine ZJ (Zm (l:=[0]) rfl ?_);refine ZD ?_;refine Zw (Zp (Y_pk [2,3,1] ?_));refine Yq (YS ?_)
        refine Yg (.inr rfl) (.tmp rfl .nil) (fun w hw=>?_)
        refine ⟨_,rfl,(hw.c),?_⟩
        clear hw
        show _=Value.bool (decide (IsTb (ZN.tb ⟨⟨Za,Zb⟩,⟨Zf,Zh⟩,⟨Zj,Zi,Zg⟩,⟨Ze,Zd,Zc⟩⟩)∧(1≤Zt∧Zt≤8)∧(Zs=true∨ZC≠-1)∧(0≤Zz∧Zz≤159)∧Zl.length≤16∧(0≤ZE∧ZE≤64)∧(0≤ZF∧ZF≤999999)∧(YV ⟨Za,Zb⟩ ZC∧YV ⟨Za,Zb⟩ ZB∧YV ⟨Za,Zb⟩ Zu∧YV ⟨Za,Zb⟩ Zv)∧∀ a∈Zl,Xf a))
        refine congrArg Value.bool ?_
        refine (decide_eq_false (fun h9=>?_)).symm
        obtain ⟨g1,g2,g3,g4,g5,g6,g7,⟨g8,g81,g82,g83⟩,g9⟩:=h9
        contradiction
       ·replace hc18:=nF hc18
        refine ZH F.lay91 ?_;refine Zk F.foff32_15 ?_;refine ZH F.lay3 ?_;refine X_fsV rfl rfl rfl F.ok69 rfl rfl (btw_ok M _ _ _) rfl ?_
        rintro _ rfl
        refine XP ?_;refine ZM ?_;refine Zw (Zp (Y_pk [53,3,2,1] ?_))
        refine YC rfl (fun hc19=>?_) (fun hc19=>?_)
        ·replace hc19:=nT hc19
         refine ZJ (Zm (l:=[0]) rfl ?_);refine ZD ?_;refine Zw (Zp (Y_pk [2,3,1] ?_));refine Yq (YS ?_)
         refine Yg (.inr rfl) (.tmp rfl .nil) (fun w hw=>?_)
         refine ⟨_,rfl,(hw.c),?_⟩
         clear hw
         show _=Value.bool (decide (IsTb (ZN.tb ⟨⟨Za,Zb⟩,⟨Zf,Zh⟩,⟨Zj,Zi,Zg⟩,⟨Ze,Zd,Zc⟩⟩)∧(1≤Zt∧Zt≤8)∧(Zs=true∨ZC≠-1)∧(0≤Zz∧Zz≤159)∧Zl.length≤16∧(0≤ZE∧ZE≤64)∧(0≤ZF∧ZF≤999999)∧(YV ⟨Za,Zb⟩ ZC∧YV ⟨Za,Zb⟩ ZB∧YV ⟨Za,Zb⟩ Zu∧YV ⟨Za,Zb⟩ Zv)∧∀ a∈Zl,Xf a))
         refine congrArg Value.bool ?_
         refine (decide_eq_false (fun h9=>?_)).symm
         obtain ⟨g1,g2,g3,g4,g5,g6,g7,⟨g8,g81,g82,g83⟩,g9⟩:=h9
         contradiction
        ·replace hc19:=nF hc19
         refine YE (Zp (Y_pk [3,2,1] ?_))
         iterate 2 refine ZJ ?_
         refine Zm (l:=[0,1,2,3,4,5,6,7,8,9,10]) rfl ?_;refine Zk F.foff32_3 ?_;refine ZH F.lay3 ?_;refine Zk F.foff32_6 ?_;refine ZH F.lay3 ?_;refine Zk F.foff32_8 ?_;refine ZH F.lay3 ?_;refine Zk F.foff32_10 ?_;refine ZH F.lay3 ?_
         refine Xu rfl rfl F.elem30 F.zero3 rfl rfl (.cons rfl (by constructor) (.cons rfl (by constructor) (.cons rfl (by constructor) (.cons rfl (by constructor) .nil)))) rfl rfl (by simp only [List.map_cons,List.map_nil] <;> rfl) rfl ?_;intro b20 hob21
         obtain ⟨L4,hL4⟩:∃ l,[ZC,ZB,Zu,Zv]=l:=⟨_,rfl⟩
         have ho4:=OSl.as9 hob21 (show _=L4.map (oneI .i64) by rw [← hL4];rfl)
         have hl4:L4.length=4:=by rw [← hL4];rfl
         have n_L4:(L4.map (oneI .i64)).length=L4.length:=List.length_map ..
         refine YW F.elem30 ?_;refine ZA ?_;refine Zw (Zp (Y_pk [64,63,62,3,2,1] ?_));refine Xd (Y_pk [64,63,62,3,2,1] ?_);refine WT (.succ .zero) (fun (k:Nat) z=>z=[(64,.int .i64 (k:Int))]∧k≤4∧∀ j (h:j<L4.length),j<k→YV ⟨Za,Zb⟩ L4[j]) (fun k=>4-k) (0) (⟨rfl,by omega,fun j h hj=>by omega⟩) ?_
         rintro k _ ⟨rfl,hk,hI⟩
         refine ZJ (Zm (l:=[0]) rfl ?_);refine YJ ?_;refine Zw (Zp (ZJ ?_))
         refine YC rfl (fun hc22=>?_) (fun hc22=>?_)
         ·replace hc22:=dT hc22
          refine YE (Zp (ZJ (Xd (ZJ (Zm (l:=[0,1,2]) rfl ?_)))));refine YM rfl rfl rfl rfl F.elem30 (by rfl) (by omega) (by exact ⟨_,_,rfl⟩) rfl ?_;refine X_load_osl rfl rfl rfl (by assumption) (by repeat first|exact Rem.here _|exact Rem.two|apply Rem.skip|apply Rem.over) (by exact XQ (by omega)) F.lay3 rfl rfl rfl ?_;refine ZD ?_;refine Zw (Zp (ZJ (Zm (l:=[0,1,2,3,4,5,6,7,8,9,10,11]) rfl ?_)));refine ZH F.lay91 ?_;refine ZA ?_;refine X_fsV rfl rfl rfl F.ok69 rfl rfl (btw_ok M _ _ _) rfl ?_
          rintro _ rfl
          refine XP ?_;refine ZA ?_
          refine Yw 72 rfl (fun hc23=>?_) (fun hc23=>?_)
          ·replace hc23:=nT hc23
           iterate 6 refine ZY ?_
           refine ZM ?_;refine Zw (Zp (Xw rfl ?_));refine ZJ (Zm (l:=[0]) rfl ?_);refine ZD ?_;refine Zw (Zp (Yq (XA ?_)))
           iterate 2 refine YS ?_
           refine XA (YS ?_)
           refine Yg (.inr rfl) (.tmp rfl .nil) (fun w hw=>?_)
           refine ⟨_,rfl,(hw.c),?_⟩
           clear hw
           show _=Value.bool (decide (IsTb (ZN.tb ⟨⟨Za,Zb⟩,⟨Zf,Zh⟩,⟨Zj,Zi,Zg⟩,⟨Ze,Zd,Zc⟩⟩)∧(1≤Zt∧Zt≤8)∧(Zs=true∨ZC≠-1)∧(0≤Zz∧Zz≤159)∧Zl.length≤16∧(0≤ZE∧ZE≤64)∧(0≤ZF∧ZF≤999999)∧(YV ⟨Za,Zb⟩ ZC∧YV ⟨Za,Zb⟩ ZB∧YV ⟨Za,Zb⟩ Zu∧YV ⟨Za,Zb⟩ Zv)∧∀ a∈Zl,Xf a))
           refine congrArg Value.bool ?_
           refine (decide_eq_false (fun h9=>?_)).symm
           obtain ⟨g1,g2,g3,g4,g5,g6,g7,⟨g8,g81,g82,g83⟩,g9⟩:=h9
           have h5:=(addr4 (s:=⟨Za,Zb⟩)).2 ⟨g8,g81,g82,g83⟩
           have h6:=fun j (h:j<L4.length)=>(show YV ⟨Za,Zb⟩ L4[j] from by subst hL4;exact h5 j h)
           have h7:=h6 k (by omega)
           obtain ⟨h71,h72⟩:=h7
           contradiction
          ·replace hc23:=nF hc23
           refine ZA ?_;refine Zk F.foff32_0 ?_;refine Zk F.foff28_0 ?_;refine Zk F.foff25_0 ?_;refine ZH F.lay3 ?_;refine YJ ?_;refine ZM ?_;refine Zw (Zp ?_)
           refine YC rfl (fun hc24=>?_) (fun hc24=>?_)
           ·replace hc24:=dT hc24
            refine ZJ (Zm (l:=[0]) rfl ?_);refine ZD ?_;refine Zw (Zp (Yq (XA ?_)))
            iterate 2 refine YS ?_
            refine XA (YS ?_)
            refine Yg (.inr rfl) (.tmp rfl .nil) (fun w hw=>?_)
            refine ⟨_,rfl,(hw.c),?_⟩
            clear hw
            show _=Value.bool (decide (IsTb (ZN.tb ⟨⟨Za,Zb⟩,⟨Zf,Zh⟩,⟨Zj,Zi,Zg⟩,⟨Ze,Zd,Zc⟩⟩)∧(1≤Zt∧Zt≤8)∧(Zs=true∨ZC≠-1)∧(0≤Zz∧Zz≤159)∧Zl.length≤16∧(0≤ZE∧ZE≤64)∧(0≤ZF∧ZF≤999999)∧(YV ⟨Za,Zb⟩ ZC∧YV ⟨Za,Zb⟩ ZB∧YV ⟨Za,Zb⟩ Zu∧YV ⟨Za,Zb⟩ Zv)∧∀ a∈Zl,Xf a))
            refine congrArg Value.bool ?_
            refine (decide_eq_false (fun h9=>?_)).symm
            obtain ⟨g1,g2,g3,g4,g5,g6,g7,⟨g8,g81,g82,g83⟩,g9⟩:=h9
            have h5:=(addr4 (s:=⟨Za,Zb⟩)).2 ⟨g8,g81,g82,g83⟩
            have h6:=fun j (h:j<L4.length)=>(show YV ⟨Za,Zb⟩ L4[j] from by subst hL4;exact h5 j h)
            have h7:=h6 k (by omega)
            obtain ⟨h71,h72⟩:=h7
            contradiction
           ·replace hc24:=dF hc24
            refine YE (XS (Zp (Zm (l:=[0,1]) rfl ?_)));refine Xz rfl rfl rfl rfl rfl (by exact Xg (by decide) (by omega)) rfl ?_;refine ZA ?_;refine Zw ?_;refine WQ (a':=[(64,_)]) (k+1) (.cons (k:=64) rfl (.cons (k:=63) rfl (.cons (k:=62) rfl (.cons (k:=3) rfl (.cons (k:=2) rfl (.cons (k:=1) rfl (.nil))))))) (fun w hw=>by first|exact hw|exact hw.c) ?_ ?_
            ·refine ⟨rfl,by omega,fun j h hj=>?_⟩
             rcases Nat.lt_or_ge j k with h9|h9
             ·exact hI j h h9
             ·have hjk:j=k:=by omega
              subst hjk
              exact ⟨by assumption,by assumption⟩
            ·omega
         ·replace hc22:=dF hc22
          refine XO ?_
          iterate 2 refine XJ ?_
          refine XZ (Zp (Y_pk [3,2,1] ?_));refine ZJ (Zm (l:=[0,1,2,3,4,5]) rfl ?_);refine Zk F.foff32_13 ?_;refine ZH F.lay30 ?_;refine X_makeFunc rfl rfl rfl rfl rfl ?_;refine X_fo rfl rfl F.ok71 rfl (ContainsFI_rd _ [(b2,_)] ⟨_,_,_⟩ 72 [_] (fun a=>decide (¬(0≤a∧a≤999))) (WZ.rd _) Vj F.ok72 (fun x hx=>avo_ok M _ x)) (by repeat first|exact Rem.here _|exact Rem.two|apply Rem.skip|apply Rem.over) (YN rfl) ?_
          rintro _ M1 _ ⟨hM1,rfl⟩;subst M1
          refine XP ?_;refine ZD ?_;refine Zw (Zp (Y_pk [2] ?_));refine Yq ?_
          refine Yg (.inr rfl) (.tmp rfl .nil) (fun w hw=>?_)
          refine ⟨_,rfl,(hw.c),?_⟩
          clear hw
          obtain rfl:k=4:=by omega
          have h4:∀ j (h:j<[ZC,ZB,Zu,Zv].length),YV ⟨Za,Zb⟩ [ZC,ZB,Zu,Zv][j]:=by rw [hL4];exact fun j h=>hI j h (by omega)
          have h5:=addr4.1 h4
          show _=Value.bool (decide (IsTb (ZN.tb ⟨⟨Za,Zb⟩,⟨Zf,Zh⟩,⟨Zj,Zi,Zg⟩,⟨Ze,Zd,Zc⟩⟩)∧(1≤Zt∧Zt≤8)∧(Zs=true∨ZC≠-1)∧(0≤Zz∧Zz≤159)∧Zl.length≤16∧(0≤ZE∧ZE≤64)∧(0≤ZF∧ZF≤999999)∧(YV ⟨Za,Zb⟩ ZC∧YV ⟨Za,Zb⟩ ZB∧YV ⟨Za,Zb⟩ Zu∧YV ⟨Za,Zb⟩ Zv)∧∀ a∈Zl,Xf a))
          refine congrArg Value.bool ?_
          have h6:=any_odd (l:=Zl)
          obtain ⟨B,hB⟩:∃ b,(Zl.any fun a=>decide (¬(0≤a∧a≤999)))=b:=⟨_,rfl⟩
          rw [hB] at h6 ⊢
          cases B
          ·exact (decide_eq_true ⟨by assumption,by first|assumption|omega,by first|assumption|(simp_all;done),by first|assumption|omega,by omega,by first|assumption|omega,by first|assumption|omega,h5,h6.1 rfl⟩).symm
          ·exact (decide_eq_false (fun h9=>by have h8:=h6.2 h9.2.2.2.2.2.2.2.2;cases h8)).symm
theorem addrN_ok (M:Mem) (n:ZK) (a:Int):Fs Tryz.prog 74 [n.enc,.int .i64 a] M (fun v=>v=Value.bool (decide (YV n.table.self a))):=by
  obtain ⟨⟨⟨Za,Zb⟩,⟨Zf,Zh⟩,⟨Zj,Zi,Zg⟩,⟨Ze,Zd,Zc⟩⟩,Zt,Zs,ZC,Zz,ZL,ZB,Zy,Zu,Zo,Zv,Zn,Zx,⟨Zr,Zq,Zl⟩,ZE,ZF⟩:=n
  refine XB Tryz.func74 rfl Tryz.ntmps74 rfl ?_;intro H
  refine ZJ (Zm (l:=[0,1]) rfl ?_)
  refine Xv ?_;intro b1
  refine ZD ?_;refine Zw (Zp (Y_pk [4,2,1] ?_));refine ZJ (Zm (l:=[0,1,2,3,4,5,6,7,8,9,10,11,12,13,14]) rfl ?_);refine ZA ?_;refine YJ ?_;refine ZA ?_
  refine Yw 7 rfl (fun hc2=>?_) (fun hc2=>?_)
  ·replace hc2:=dT hc2
   refine ZA ?_;refine YJ ?_;refine ZM ?_;refine ZA ?_
   refine Yw 11 rfl (fun hc3=>?_) (fun hc3=>?_)
   ·replace hc3:=dT hc3
    refine ZA ?_;refine Zk F.foff32_0 ?_;refine Zk F.foff28_0 ?_;refine Zk F.foff25_0 ?_;refine ZH F.lay3 ?_;refine YJ ?_;refine ZM ?_;refine ZD ?_;refine Zw (Zp (Y_pk [4] ?_));refine Yq ?_
    refine Yg (.inr rfl) (.tmp rfl .nil) (fun w hw=>?_)
    refine ⟨_,rfl,(hw.c),?_⟩
    clear hw
    refine congrArg Value.bool ?_
    (simp_all [YV];done)
   ·replace hc3:=dF hc3
    iterate 6 refine ZY ?_
    refine ZM ?_;refine ZD ?_;refine Zw (Zp (Y_pk [4] ?_));refine Yq ?_
    refine Yg (.inr rfl) (.tmp rfl .nil) (fun w hw=>?_)
    refine ⟨_,rfl,(hw.c),?_⟩
    clear hw
    refine congrArg Value.bool ?_
    exact (decide_eq_false (fun h9=>by obtain ⟨h8,h7⟩:=h9;first|omega|contradiction)).symm
  ·replace hc2:=dF hc2
   iterate 2 refine ZY ?_
   refine ZM ?_;refine ZA ?_
   iterate 6 refine ZY ?_
   refine ZM ?_;refine ZD ?_;refine Zw (Zp (Y_pk [4] ?_));refine Yq ?_
   refine Yg (.inr rfl) (.tmp rfl .nil) (fun w hw=>?_)
   refine ⟨_,rfl,(hw.c),?_⟩
   clear hw
   refine congrArg Value.bool ?_
   exact (decide_eq_false (fun h9=>by obtain ⟨h8,h7⟩:=h9;first|omega|contradiction)).symm
theorem rIsN_ok (M:Mem) (n:ZK) (hn0:ZK.ok M n):Fs Tryz.prog 28 [n.enc] M (fun v=>v=Value.bool (decide (IsNd n.nd))):=by
  obtain ⟨⟨⟨Za,Zb⟩,⟨Zf,Zh⟩,⟨Zj,Zi,Zg⟩,⟨Ze,Zd,Zc⟩⟩,Zt,Zs,ZC,Zz,ZL,ZB,Zy,Zu,Zo,Zv,Zn,Zx,⟨Zr,Zq,Zl⟩,ZE,ZF⟩:=n
  have Yt:ZN.ok M ⟨⟨Za,Zb⟩,⟨Zf,Zh⟩,⟨Zj,Zi,Zg⟩,⟨Ze,Zd,Zc⟩⟩:=hn0.h0
  have YU:SlK M ZI.segs 21 ⟨Zj,Zi,Zg⟩:=hn0.h0.h0
  have Wt:SlM M Zj (Zg.map ZI.segs) 21:=YU.h1
  have Wv:(Zg.map ZI.segs).length=Zg.length:=List.length_map ..
  have Ww:Zg.length≤9223372036854775807:=YU.h2
  have Wx:Zg.length≤Zi:=YU.h3
  have YK:SlK M ZI.segs 21 ⟨Ze,Zd,Zc⟩:=hn0.h0.h1
  have Wd:SlM M Ze (Zc.map ZI.segs) 21:=YK.h1
  have Wf:(Zc.map ZI.segs).length=Zc.length:=List.length_map ..
  have Wg:Zc.length≤9223372036854775807:=YK.h2
  have Wh:Zc.length≤Zd:=YK.h3
  have YI:SlK M (oneI .i64) 1 ⟨Zr,Zq,Zl⟩:=hn0.h1
  have WZ:SlM M Zr (Zl.map (oneI .i64)) 1:=YI.h1
  have Vt:(Zl.map (oneI .i64)).length=Zl.length:=List.length_map ..
  have Vj:Zl.length≤9223372036854775807:=YI.h2
  have Vu:Zl.length≤Zq:=YI.h3
  refine XB Tryz.func28 rfl Tryz.ntmps28 rfl ?_;intro H
  refine ZJ (Zm (l:=[0,1]) rfl ?_)
  refine Xv ?_;intro b1
  refine ZD ?_;refine Zw (Zp (Y_pk [2,1] ?_))
  iterate 2 refine ZJ ?_
  refine Zm (l:=[0,1,2,3,4,5,6,7,8,9,10,11,12,13,14,15,16,17,18,19,20,21,22,23,24,25,26,27,28,29,30,31,32,33,34,35,36,37,38,39,40,41]) rfl ?_;refine Zk F.foff32_0 ?_;refine ZH F.lay28 ?_;refine X_fs rfl rfl F.ok73 rfl (rIsT_ok _ ⟨⟨Za,Zb⟩,⟨Zf,Zh⟩,⟨Zj,Zi,Zg⟩,⟨Ze,Zd,Zc⟩⟩ Yt) rfl ?_
  rintro _ rfl
  refine XP ?_;refine ZA ?_
  refine Yw 8 rfl (fun hc2=>?_) (fun hc2=>?_)
  ·replace hc2:=nT hc2
   iterate 3 refine ZY ?_
   refine ZM ?_;refine ZA ?_
   iterate 3 refine ZY ?_
   refine ZM ?_;refine ZA ?_
   iterate 5 refine ZY ?_
   refine ZM ?_;refine ZA ?_
   iterate 5 refine ZY ?_
   refine ZM ?_;refine ZA ?_
   iterate 5 refine ZY ?_
   refine ZM ?_;refine ZA ?_
   iterate 5 refine ZY ?_
   refine ZM ?_;refine Zw (Zp (Y_pk [45,2,1] ?_));refine Xw rfl ?_;refine ZJ (Zm (l:=[0]) rfl ?_);refine ZD ?_;refine Zw (Zp (Y_pk [2,1] ?_));refine Yq (YS ?_)
   refine Yg (.inr rfl) (.tmp rfl .nil) (fun w hw=>?_)
   refine ⟨_,rfl,(hw.c),?_⟩
   clear hw
   show _=Value.bool (decide (IsTb (ZN.tb ⟨⟨Za,Zb⟩,⟨Zf,Zh⟩,⟨Zj,Zi,Zg⟩,⟨Ze,Zd,Zc⟩⟩)∧(1≤Zt∧Zt≤8)∧(Zs=true∨ZC≠-1)∧(0≤Zz∧Zz≤159)∧Zl.length≤16∧(0≤ZE∧ZE≤64)∧(0≤ZF∧ZF≤999999)∧(YV ⟨Za,Zb⟩ ZC∧YV ⟨Za,Zb⟩ ZB∧YV ⟨Za,Zb⟩ Zu∧YV ⟨Za,Zb⟩ Zv)∧∀ a∈Zl,Xf a))
   refine congrArg Value.bool ?_
   refine (decide_eq_false (fun h9=>?_)).symm
   obtain ⟨g1,g2,g3,g4,g5,g6,g7,⟨g8,g81,g82,g83⟩,g9⟩:=h9
   contradiction
  ·replace hc2:=nF hc2
   refine Zk F.foff32_1 ?_;refine ZH F.lay3 ?_;refine YJ ?_;refine ZM ?_;refine ZA ?_
   refine Yw 13 rfl (fun hc3=>?_) (fun hc3=>?_)
   ·replace hc3:=dT hc3
    iterate 3 refine ZY ?_
    refine ZM ?_;refine ZA ?_
    iterate 5 refine ZY ?_
    refine ZM ?_;refine ZA ?_
    iterate 5 refine ZY ?_
    refine ZM ?_;refine ZA ?_
    iterate 5 refine ZY ?_
    refine ZM ?_;refine ZA ?_
    iterate 5 refine ZY ?_
    refine ZM ?_;refine Zw (Zp (Y_pk [45,2,1] ?_));refine Xw rfl ?_;refine ZJ (Zm (l:=[0]) rfl ?_);refine ZD ?_;refine Zw (Zp (Y_pk [2,1] ?_));refine Yq (YS ?_)
    refine Yg (.inr rfl) (.tmp rfl .nil) (fun w hw=>?_)
    refine ⟨_,rfl,(hw.c),?_⟩
    clear hw
    show _=Value.bool (decide (IsTb (ZN.tb ⟨⟨Za,Zb⟩,⟨Zf,Zh⟩,⟨Zj,Zi,Zg⟩,⟨Ze,Zd,Zc⟩⟩)∧(1≤Zt∧Zt≤8)∧(Zs=true∨ZC≠-1)∧(0≤Zz∧Zz≤159)∧Zl.length≤16∧(0≤ZE∧ZE≤64)∧(0≤ZF∧ZF≤999999)∧(YV ⟨Za,Zb⟩ ZC∧YV ⟨Za,Zb⟩ ZB∧YV ⟨Za,Zb⟩ Zu∧YV ⟨Za,Zb⟩ Zv)∧∀ a∈Zl,Xf a))
    refine congrArg Value.bool ?_
    refine (decide_eq_false (fun h9=>?_)).symm
    obtain ⟨g1,g2,g3,g4,g5,g6,g7,⟨g8,g81,g82,g83⟩,g9⟩:=h9
    omega
   ·replace hc3:=dF hc3
    refine Zk F.foff32_1 ?_;refine ZH F.lay3 ?_;refine YJ ?_;refine ZM ?_;refine ZA ?_
    refine Yw 18 rfl (fun hc4=>?_) (fun hc4=>?_)
    ·replace hc4:=dT hc4
     iterate 5 refine ZY ?_
     refine ZM ?_;refine ZA ?_
     iterate 5 refine ZY ?_
     refine ZM ?_;refine ZA ?_
     iterate 5 refine ZY ?_
     refine ZM ?_;refine ZA ?_
     iterate 5 refine ZY ?_
     refine ZM ?_;refine Zw (Zp (Y_pk [45,2,1] ?_));refine Xw rfl ?_;refine ZJ (Zm (l:=[0]) rfl ?_);refine ZD ?_;refine Zw (Zp (Y_pk [2,1] ?_));refine Yq (YS ?_)
     refine Yg (.inr rfl) (.tmp rfl .nil) (fun w hw=>?_)
     refine ⟨_,rfl,(hw.c),?_⟩
     clear hw
     show _=Value.bool (decide (IsTb (ZN.tb ⟨⟨Za,Zb⟩,⟨Zf,Zh⟩,⟨Zj,Zi,Zg⟩,⟨Ze,Zd,Zc⟩⟩)∧(1≤Zt∧Zt≤8)∧(Zs=true∨ZC≠-1)∧(0≤Zz∧Zz≤159)∧Zl.length≤16∧(0≤ZE∧ZE≤64)∧(0≤ZF∧ZF≤999999)∧(YV ⟨Za,Zb⟩ ZC∧YV ⟨Za,Zb⟩ ZB∧YV ⟨Za,Zb⟩ Zu∧YV ⟨Za,Zb⟩ Zv)∧∀ a∈Zl,Xf a))
     refine congrArg Value.bool ?_
     refine (decide_eq_false (fun h9=>?_)).symm
     obtain ⟨g1,g2,g3,g4,g5,g6,g7,⟨g8,g81,g82,g83⟩,g9⟩:=h9
     omega
    ·replace hc4:=dF hc4
     refine ZH F.lay32 ?_;refine Zk F.foff32_3 ?_;refine ZH F.lay3 ?_;refine X_fs rfl rfl F.ok74 rfl (addrN_ok _ ⟨⟨⟨Za,Zb⟩,⟨Zf,Zh⟩,⟨Zj,Zi,Zg⟩,⟨Ze,Zd,Zc⟩⟩,Zt,Zs,ZC,Zz,ZL,ZB,Zy,Zu,Zo,Zv,Zn,Zx,⟨Zr,Zq,Zl⟩,ZE,ZF⟩ _) rfl ?_
     rintro _ rfl
     refine XP ?_;refine ZM ?_;refine ZA ?_
     refine Yw 25 rfl (fun hc5=>?_) (fun hc5=>?_)
     ·replace hc5:=nT hc5
      simp only [ZI.eta,ZN.eta,ZK.eta,ZO.eta,Ys.eta,ZQ.eta,YO.eta,ZU.eta] at hc5
      iterate 5 refine ZY ?_
      refine ZM ?_;refine ZA ?_
      iterate 5 refine ZY ?_
      refine ZM ?_;refine ZA ?_
      iterate 5 refine ZY ?_
      refine ZM ?_;refine Zw (Zp (Y_pk [45,2,1] ?_));refine Xw rfl ?_;refine ZJ (Zm (l:=[0]) rfl ?_);refine ZD ?_;refine Zw (Zp (Y_pk [2,1] ?_));refine Yq (YS ?_)
      refine Yg (.inr rfl) (.tmp rfl .nil) (fun w hw=>?_)
      refine ⟨_,rfl,(hw.c),?_⟩
      clear hw
      show _=Value.bool (decide (IsTb (ZN.tb ⟨⟨Za,Zb⟩,⟨Zf,Zh⟩,⟨Zj,Zi,Zg⟩,⟨Ze,Zd,Zc⟩⟩)∧(1≤Zt∧Zt≤8)∧(Zs=true∨ZC≠-1)∧(0≤Zz∧Zz≤159)∧Zl.length≤16∧(0≤ZE∧ZE≤64)∧(0≤ZF∧ZF≤999999)∧(YV ⟨Za,Zb⟩ ZC∧YV ⟨Za,Zb⟩ ZB∧YV ⟨Za,Zb⟩ Zu∧YV ⟨Za,Zb⟩ Zv)∧∀ a∈Zl,Xf a))
      refine congrArg Value.bool ?_
      refine (decide_eq_false (fun h9=>?_)).symm
      obtain ⟨g1,g2,g3,g4,g5,g6,g7,⟨g8,g81,g82,g83⟩,g9⟩:=h9
      contradiction
     ·replace hc5:=nF hc5
      simp only [ZI.eta,ZN.eta,ZK.eta,ZO.eta,Ys.eta,ZQ.eta,YO.eta,ZU.eta] at hc5
      refine ZH F.lay32 ?_;refine Zk F.foff32_6 ?_;refine ZH F.lay3 ?_;refine X_fs rfl rfl F.ok74 rfl (addrN_ok _ ⟨⟨⟨Za,Zb⟩,⟨Zf,Zh⟩,⟨Zj,Zi,Zg⟩,⟨Ze,Zd,Zc⟩⟩,Zt,Zs,ZC,Zz,ZL,ZB,Zy,Zu,Zo,Zv,Zn,Zx,⟨Zr,Zq,Zl⟩,ZE,ZF⟩ _) rfl ?_
      rintro _ rfl
      refine XP ?_;refine ZM ?_;refine ZA ?_
      refine Yw 32 rfl (fun hc6=>?_) (fun hc6=>?_)
      ·replace hc6:=nT hc6
       simp only [ZI.eta,ZN.eta,ZK.eta,ZO.eta,Ys.eta,ZQ.eta,YO.eta,ZU.eta] at hc6
       iterate 5 refine ZY ?_
       refine ZM ?_;refine ZA ?_
       iterate 5 refine ZY ?_
       refine ZM ?_;refine Zw (Zp (Y_pk [45,2,1] ?_));refine Xw rfl ?_;refine ZJ (Zm (l:=[0]) rfl ?_);refine ZD ?_;refine Zw (Zp (Y_pk [2,1] ?_));refine Yq (YS ?_)
       refine Yg (.inr rfl) (.tmp rfl .nil) (fun w hw=>?_)
       refine ⟨_,rfl,(hw.c),?_⟩
       clear hw
       show _=Value.bool (decide (IsTb (ZN.tb ⟨⟨Za,Zb⟩,⟨Zf,Zh⟩,⟨Zj,Zi,Zg⟩,⟨Ze,Zd,Zc⟩⟩)∧(1≤Zt∧Zt≤8)∧(Zs=true∨ZC≠-1)∧(0≤Zz∧Zz≤159)∧Zl.length≤16∧(0≤ZE∧ZE≤64)∧(0≤ZF∧ZF≤999999)∧(YV ⟨Za,Zb⟩ ZC∧YV ⟨Za,Zb⟩ ZB∧YV ⟨Za,Zb⟩ Zu∧YV ⟨Za,Zb⟩ Zv)∧∀ a∈Zl,Xf a))
       refine congrArg Value.bool ?_
       refine (decide_eq_false (fun h9=>?_)).symm
       obtain ⟨g1,g2,g3,g4,g5,g6,g7,⟨g8,g81,g82,g83⟩,g9⟩:=h9
       contradiction
      ·replace hc6:=nF hc6
       simp only [ZI.eta,ZN.eta,ZK.eta,ZO.eta,Ys.eta,ZQ.eta,YO.eta,ZU.eta] at hc6
       refine ZH F.lay32 ?_;refine Zk F.foff32_8 ?_;refine ZH F.lay3 ?_;refine X_fs rfl rfl F.ok74 rfl (addrN_ok _ ⟨⟨⟨Za,Zb⟩,⟨Zf,Zh⟩,⟨Zj,Zi,Zg⟩,⟨Ze,Zd,Zc⟩⟩,Zt,Zs,ZC,Zz,ZL,ZB,Zy,Zu,Zo,Zv,Zn,Zx,⟨Zr,Zq,Zl⟩,ZE,ZF⟩ _) rfl ?_
       rintro _ rfl
       refine XP ?_;refine ZM ?_;refine ZA ?_
       refine Yw 39 rfl (fun hc7=>?_) (fun hc7=>?_)
       ·replace hc7:=nT hc7
        simp only [ZI.eta,ZN.eta,ZK.eta,ZO.eta,Ys.eta,ZQ.eta,YO.eta,ZU.eta] at hc7
        iterate 5 refine ZY ?_
        refine ZM ?_;refine Zw (Zp (Y_pk [45,2,1] ?_));refine Xw rfl ?_;refine ZJ (Zm (l:=[0]) rfl ?_);refine ZD ?_;refine Zw (Zp (Y_pk [2,1] ?_));refine Yq (YS ?_)
        refine Yg (.inr rfl) (.tmp rfl .nil) (fun w hw=>?_)
        refine ⟨_,rfl,(hw.c),?_⟩
        clear hw
        show _=Value.bool (decide (IsTb (ZN.tb ⟨⟨Za,Zb⟩,⟨Zf,Zh⟩,⟨Zj,Zi,Zg⟩,⟨Ze,Zd,Zc⟩⟩)∧(1≤Zt∧Zt≤8)∧(Zs=true∨ZC≠-1)∧(0≤Zz∧Zz≤159)∧Zl.length≤16∧(0≤ZE∧ZE≤64)∧(0≤ZF∧ZF≤999999)∧(YV ⟨Za,Zb⟩ ZC∧YV ⟨Za,Zb⟩ ZB∧YV ⟨Za,Zb⟩ Zu∧YV ⟨Za,Zb⟩ Zv)∧∀ a∈Zl,Xf a))
        refine congrArg Value.bool ?_
        refine (decide_eq_false (fun h9=>?_)).symm
        obtain ⟨g1,g2,g3,g4,g5,g6,g7,⟨g8,g81,g82,g83⟩,g9⟩:=h9
        contradiction
       ·replace hc7:=nF hc7
        simp only [ZI.eta,ZN.eta,ZK.eta,ZO.eta,Ys.eta,ZQ.eta,YO.eta,ZU.eta] at hc7
        refine ZH F.lay32 ?_;refine Zk F.foff32_10 ?_;refine ZH F.lay3 ?_;refine X_fs rfl rfl F.ok74 rfl (addrN_ok _ ⟨⟨⟨Za,Zb⟩,⟨Zf,Zh⟩,⟨Zj,Zi,Zg⟩,⟨Ze,Zd,Zc⟩⟩,Zt,Zs,ZC,Zz,ZL,ZB,Zy,Zu,Zo,Zv,Zn,Zx,⟨Zr,Zq,Zl⟩,ZE,ZF⟩ _) rfl ?_
        rintro _ rfl
        refine XP ?_;refine ZM ?_;refine Zw (Zp (Y_pk [45,2,1] ?_))
        refine YC rfl (fun hc8=>?_) (fun hc8=>?_)
        ·replace hc8:=nT hc8
         simp only [ZI.eta,ZN.eta,ZK.eta,ZO.eta,Ys.eta,ZQ.eta,YO.eta,ZU.eta] at hc8
         refine ZJ (Zm (l:=[0]) rfl ?_);refine ZD ?_;refine Zw (Zp (Y_pk [2,1] ?_));refine Yq (YS ?_)
         refine Yg (.inr rfl) (.tmp rfl .nil) (fun w hw=>?_)
         refine ⟨_,rfl,(hw.c),?_⟩
         clear hw
         show _=Value.bool (decide (IsTb (ZN.tb ⟨⟨Za,Zb⟩,⟨Zf,Zh⟩,⟨Zj,Zi,Zg⟩,⟨Ze,Zd,Zc⟩⟩)∧(1≤Zt∧Zt≤8)∧(Zs=true∨ZC≠-1)∧(0≤Zz∧Zz≤159)∧Zl.length≤16∧(0≤ZE∧ZE≤64)∧(0≤ZF∧ZF≤999999)∧(YV ⟨Za,Zb⟩ ZC∧YV ⟨Za,Zb⟩ ZB∧YV ⟨Za,Zb⟩ Zu∧YV ⟨Za,Zb⟩ Zv)∧∀ a∈Zl,Xf a))
         refine congrArg Value.bool ?_
         refine (decide_eq_false (fun h9=>?_)).symm
         obtain ⟨g1,g2,g3,g4,g5,g6,g7,⟨g8,g81,g82,g83⟩,g9⟩:=h9
         contradiction
        ·replace hc8:=nF hc8
         simp only [ZI.eta,ZN.eta,ZK.eta,ZO.eta,Ys.eta,ZQ.eta,YO.eta,ZU.eta] at hc8
         refine YE (Zp (Y_pk [2,1] ?_))
         iterate 2 refine ZJ ?_
         refine Zm (l:=[0,1,2,3,4,5,6,7,8,9,10,11,12,13,14,15,16,17,18,19,20,21,22,23,24,25,26,27,28,29,30,31,32,33,34,35,36,37,38,39,40,41,42,43]) rfl ?_;refine Zk F.foff32_2 ?_;refine ZH F.lay4 ?_;refine XP ?_;refine ZA ?_
         refine Yw 49 rfl (fun hc9=>?_) (fun hc9=>?_)
         ·skip
          refine Zk F.foff32_3 ?_;refine ZH F.lay3 ?_;refine YJ ?_;refine ZM ?_;refine ZA ?_
          refine Yw 54 rfl (fun hc10=>?_) (fun hc10=>?_)
          ·replace hc10:=dT hc10
           iterate 3 refine ZY ?_
           refine ZM ?_;refine ZA ?_
           iterate 3 refine ZY ?_
           refine ZM ?_;refine ZA ?_
           iterate 4 refine ZY ?_
           refine ZM ?_;refine ZA ?_
           iterate 3 refine ZY ?_
           refine ZM ?_;refine ZA ?_
           iterate 3 refine ZY ?_
           refine ZM ?_;refine ZA ?_
           iterate 3 refine ZY ?_
           refine ZM ?_;refine ZA ?_
           iterate 3 refine ZY ?_
           refine ZM ?_;refine Zw (Zp (Y_pk [89,2,1] ?_));refine Xw rfl ?_;refine ZJ (Zm (l:=[0]) rfl ?_);refine ZD ?_;refine Zw (Zp (Y_pk [2,1] ?_));refine Yq (YS ?_)
           refine Yg (.inr rfl) (.tmp rfl .nil) (fun w hw=>?_)
           refine ⟨_,rfl,(hw.c),?_⟩
           clear hw
           show _=Value.bool (decide (IsTb (ZN.tb ⟨⟨Za,Zb⟩,⟨Zf,Zh⟩,⟨Zj,Zi,Zg⟩,⟨Ze,Zd,Zc⟩⟩)∧(1≤Zt∧Zt≤8)∧(Zs=true∨ZC≠-1)∧(0≤Zz∧Zz≤159)∧Zl.length≤16∧(0≤ZE∧ZE≤64)∧(0≤ZF∧ZF≤999999)∧(YV ⟨Za,Zb⟩ ZC∧YV ⟨Za,Zb⟩ ZB∧YV ⟨Za,Zb⟩ Zu∧YV ⟨Za,Zb⟩ Zv)∧∀ a∈Zl,Xf a))
           refine congrArg Value.bool ?_
           refine (decide_eq_false (fun h9=>?_)).symm
           obtain ⟨g1,g2,g3,g4,g5,g6,g7,⟨g8,g81,g82,g83⟩,g9⟩:=h9
           (obtain ⟨⟨g84,_⟩,_⟩:=g8;rcases g3 with g3|g3 <;> first|(simp_all;done)|omega|(simp_all;omega))
          ·replace hc10:=dF hc10
           refine Zk F.foff32_4 ?_;refine ZH F.lay3 ?_;refine YJ ?_;refine ZM ?_;refine ZA ?_
           refine Yw 59 rfl (fun hc11=>?_) (fun hc11=>?_)
           ·replace hc11:=dT hc11
            iterate 3 refine ZY ?_
            refine ZM ?_;refine ZA ?_
            iterate 4 refine ZY ?_
            refine ZM ?_;refine ZA ?_
            iterate 3 refine ZY ?_
            refine ZM ?_;refine ZA ?_
            iterate 3 refine ZY ?_
            refine ZM ?_;refine ZA ?_
            iterate 3 refine ZY ?_
            refine ZM ?_;refine ZA ?_
            iterate 3 refine ZY ?_
            refine ZM ?_;refine Zw (Zp (Y_pk [89,2,1] ?_));refine Xw rfl ?_;refine ZJ (Zm (l:=[0]) rfl ?_);refine ZD ?_;refine Zw (Zp (Y_pk [2,1] ?_));refine Yq (YS ?_)
            refine Yg (.inr rfl) (.tmp rfl .nil) (fun w hw=>?_)
            refine ⟨_,rfl,(hw.c),?_⟩
            clear hw
            show _=Value.bool (decide (IsTb (ZN.tb ⟨⟨Za,Zb⟩,⟨Zf,Zh⟩,⟨Zj,Zi,Zg⟩,⟨Ze,Zd,Zc⟩⟩)∧(1≤Zt∧Zt≤8)∧(Zs=true∨ZC≠-1)∧(0≤Zz∧Zz≤159)∧Zl.length≤16∧(0≤ZE∧ZE≤64)∧(0≤ZF∧ZF≤999999)∧(YV ⟨Za,Zb⟩ ZC∧YV ⟨Za,Zb⟩ ZB∧YV ⟨Za,Zb⟩ Zu∧YV ⟨Za,Zb⟩ Zv)∧∀ a∈Zl,Xf a))
            refine congrArg Value.bool ?_
            refine (decide_eq_false (fun h9=>?_)).symm
            obtain ⟨g1,g2,g3,g4,g5,g6,g7,⟨g8,g81,g82,g83⟩,g9⟩:=h9
            omega
           ·replace hc11:=dF hc11
            refine Zk F.foff32_4 ?_;refine ZH F.lay3 ?_;refine YJ ?_;refine ZM ?_;refine ZA ?_
            refine Yw 64 rfl (fun hc12=>?_) (fun hc12=>?_)
            ·replace hc12:=dT hc12
             iterate 4 refine ZY ?_
             refine ZM ?_;refine ZA ?_
             iterate 3 refine ZY ?_
             refine ZM ?_;refine ZA ?_
             iterate 3 refine ZY ?_
             refine ZM ?_;refine ZA ?_
             iterate 3 refine ZY ?_
             refine ZM ?_;refine ZA ?_
             iterate 3 refine ZY ?_
             refine ZM ?_;refine Zw (Zp (Y_pk [89,2,1] ?_));refine Xw rfl ?_;refine ZJ (Zm (l:=[0]) rfl ?_);refine ZD ?_;refine Zw (Zp (Y_pk [2,1] ?_));refine Yq (YS ?_)
             refine Yg (.inr rfl) (.tmp rfl .nil) (fun w hw=>?_)
             refine ⟨_,rfl,(hw.c),?_⟩
             clear hw
             show _=Value.bool (decide (IsTb (ZN.tb ⟨⟨Za,Zb⟩,⟨Zf,Zh⟩,⟨Zj,Zi,Zg⟩,⟨Ze,Zd,Zc⟩⟩)∧(1≤Zt∧Zt≤8)∧(Zs=true∨ZC≠-1)∧(0≤Zz∧Zz≤159)∧Zl.length≤16∧(0≤ZE∧ZE≤64)∧(0≤ZF∧ZF≤999999)∧(YV ⟨Za,Zb⟩ ZC∧YV ⟨Za,Zb⟩ ZB∧YV ⟨Za,Zb⟩ Zu∧YV ⟨Za,Zb⟩ Zv)∧∀ a∈Zl,Xf a))
             refine congrArg Value.bool ?_
             refine (decide_eq_false (fun h9=>?_)).symm
             obtain ⟨g1,g2,g3,g4,g5,g6,g7,⟨g8,g81,g82,g83⟩,g9⟩:=h9
             omega
            ·replace hc12:=dF hc12
             refine Zk F.foff32_13 ?_;refine ZH F.lay30 ?_;refine YW F.elem30 ?_;refine YJ ?_;refine ZM ?_;refine ZA ?_
             refine Yw 70 rfl (fun hc13=>?_) (fun hc13=>?_)
             ·replace hc13:=dT hc13
              iterate 3 refine ZY ?_
              refine ZM ?_;refine ZA ?_
              iterate 3 refine ZY ?_
              refine ZM ?_;refine ZA ?_
              iterate 3 refine ZY ?_
              refine ZM ?_;refine ZA ?_
              iterate 3 refine ZY ?_
              refine ZM ?_;refine Zw (Zp (Y_pk [89,2,1] ?_));refine Xw rfl ?_;refine ZJ (Zm (l:=[0]) rfl ?_);refine ZD ?_;refine Zw (Zp (Y_pk [2,1] ?_));refine Yq (YS ?_)
              refine Yg (.inr rfl) (.tmp rfl .nil) (fun w hw=>?_)
              refine ⟨_,rfl,(hw.c),?_⟩
              clear hw
              show _=Value.bool (decide (IsTb (ZN.tb ⟨⟨Za,Zb⟩,⟨Zf,Zh⟩,⟨Zj,Zi,Zg⟩,⟨Ze,Zd,Zc⟩⟩)∧(1≤Zt∧Zt≤8)∧(Zs=true∨ZC≠-1)∧(0≤Zz∧Zz≤159)∧Zl.length≤16∧(0≤ZE∧ZE≤64)∧(0≤ZF∧ZF≤999999)∧(YV ⟨Za,Zb⟩ ZC∧YV ⟨Za,Zb⟩ ZB∧YV ⟨Za,Zb⟩ Zu∧YV ⟨Za,Zb⟩ Zv)∧∀ a∈Zl,Xf a))
              refine congrArg Value.bool ?_
              refine (decide_eq_false (fun h9=>?_)).symm
              obtain ⟨g1,g2,g3,g4,g5,g6,g7,⟨g8,g81,g82,g83⟩,g9⟩:=h9
              omega
             ·replace hc13:=dF hc13
              refine Zk F.foff32_14 ?_;refine ZH F.lay3 ?_;refine YJ ?_;refine ZM ?_;refine ZA ?_
              refine Yw 75 rfl (fun hc14=>?_) (fun hc14=>?_)
              ·replace hc14:=dT hc14
               iterate 3 refine ZY ?_
               refine ZM ?_;refine ZA ?_
               iterate 3 refine ZY ?_
               refine ZM ?_;refine ZA ?_
               iterate 3 refine ZY ?_
               refine ZM ?_;refine Zw (Zp (Y_pk [89,2,1] ?_));refine Xw rfl ?_;refine ZJ (Zm (l:=[0]) rfl ?_);refine ZD ?_;refine Zw (Zp (Y_pk [2,1] ?_));refine Yq (YS ?_)
               refine Yg (.inr rfl) (.tmp rfl .nil) (fun w hw=>?_)
               refine ⟨_,rfl,(hw.c),?_⟩
               clear hw
               show _=Value.bool (decide (IsTb (ZN.tb ⟨⟨Za,Zb⟩,⟨Zf,Zh⟩,⟨Zj,Zi,Zg⟩,⟨Ze,Zd,Zc⟩⟩)∧(1≤Zt∧Zt≤8)∧(Zs=true∨ZC≠-1)∧(0≤Zz∧Zz≤159)∧Zl.length≤16∧(0≤ZE∧ZE≤64)∧(0≤ZF∧ZF≤999999)∧(YV ⟨Za,Zb⟩ ZC∧YV ⟨Za,Zb⟩ ZB∧YV ⟨Za,Zb⟩ Zu∧YV ⟨Za,Zb⟩ Zv)∧∀ a∈Zl,Xf a))
               refine congrArg Value.bool ?_
               refine (decide_eq_false (fun h9=>?_)).symm
               obtain ⟨g1,g2,g3,g4,g5,g6,g7,⟨g8,g81,g82,g83⟩,g9⟩:=h9
               omega
              ·replace hc14:=dF hc14
               refine Zk F.foff32_14 ?_;refine ZH F.lay3 ?_;refine YJ ?_;refine ZM ?_;refine ZA ?_
               refine Yw 80 rfl (fun hc15=>?_) (fun hc15=>?_)
               ·replace hc15:=dT hc15
                iterate 3 refine ZY ?_
                refine ZM ?_;refine ZA ?_
                iterate 3 refine ZY ?_
                refine ZM ?_;refine Zw (Zp (Y_pk [89,2,1] ?_));refine Xw rfl ?_;refine ZJ (Zm (l:=[0]) rfl ?_);refine ZD ?_;refine Zw (Zp (Y_pk [2,1] ?_));refine Yq (YS ?_)
                refine Yg (.inr rfl) (.tmp rfl .nil) (fun w hw=>?_)
                refine ⟨_,rfl,(hw.c),?_⟩
                clear hw
                show _=Value.bool (decide (IsTb (ZN.tb ⟨⟨Za,Zb⟩,⟨Zf,Zh⟩,⟨Zj,Zi,Zg⟩,⟨Ze,Zd,Zc⟩⟩)∧(1≤Zt∧Zt≤8)∧(Zs=true∨ZC≠-1)∧(0≤Zz∧Zz≤159)∧Zl.length≤16∧(0≤ZE∧ZE≤64)∧(0≤ZF∧ZF≤999999)∧(YV ⟨Za,Zb⟩ ZC∧YV ⟨Za,Zb⟩ ZB∧YV ⟨Za,Zb⟩ Zu∧YV ⟨Za,Zb⟩ Zv)∧∀ a∈Zl,Xf a))
                refine congrArg Value.bool ?_
                refine (decide_eq_false (fun h9=>?_)).symm
                obtain ⟨g1,g2,g3,g4,g5,g6,g7,⟨g8,g81,g82,g83⟩,g9⟩:=h9
                omega
               ·replace hc15:=dF hc15
                refine Zk F.foff32_15 ?_;refine ZH F.lay3 ?_;refine YJ ?_;refine ZM ?_;refine ZA ?_
                refine Yw 85 rfl (fun hc16=>?_) (fun hc16=>?_)
                ·replace hc16:=dT hc16
                 iterate 3 refine ZY ?_
                 refine ZM ?_;refine Zw (Zp (Y_pk [89,2,1] ?_));refine Xw rfl ?_;refine ZJ (Zm (l:=[0]) rfl ?_);refine ZD ?_;refine Zw (Zp (Y_pk [2,1] ?_));refine Yq (YS ?_)
                 refine Yg (.inr rfl) (.tmp rfl .nil) (fun w hw=>?_)
                 refine ⟨_,rfl,(hw.c),?_⟩
                 clear hw
                 show _=Value.bool (decide (IsTb (ZN.tb ⟨⟨Za,Zb⟩,⟨Zf,Zh⟩,⟨Zj,Zi,Zg⟩,⟨Ze,Zd,Zc⟩⟩)∧(1≤Zt∧Zt≤8)∧(Zs=true∨ZC≠-1)∧(0≤Zz∧Zz≤159)∧Zl.length≤16∧(0≤ZE∧ZE≤64)∧(0≤ZF∧ZF≤999999)∧(YV ⟨Za,Zb⟩ ZC∧YV ⟨Za,Zb⟩ ZB∧YV ⟨Za,Zb⟩ Zu∧YV ⟨Za,Zb⟩ Zv)∧∀ a∈Zl,Xf a))
                 refine congrArg Value.bool ?_
                 refine (decide_eq_false (fun h9=>?_)).symm
                 obtain ⟨g1,g2,g3,g4,g5,g6,g7,⟨g8,g81,g82,g83⟩,g9⟩:=h9
                 omega
                ·replace hc16:=dF hc16
                 refine Zk F.foff32_15 ?_;refine ZH F.lay3 ?_;refine YJ ?_;refine ZM ?_;refine Zw (Zp (Y_pk [89,2,1] ?_))
                 refine YC rfl (fun hc17=>?_) (fun hc17=>?_)
                 ·replace hc17:=dT hc17
                  refine ZJ (Zm (l:=[0]) rfl ?_);refine ZD ?_;refine Zw (Zp (Y_pk [2,1] ?_));refine Yq (YS ?_)
                  refine Yg (.inr rfl) (.tmp rfl .nil) (fun w hw=>?_)
                  refine ⟨_,rfl,(hw.c),?_⟩
                  clear hw
                  show _=Value.bool (decide (IsTb (ZN.tb ⟨⟨Za,Zb⟩,⟨Zf,Zh⟩,⟨Zj,Zi,Zg⟩,⟨Ze,Zd,Zc⟩⟩)∧(1≤Zt∧Zt≤8)∧(Zs=true∨ZC≠-1)∧(0≤Zz∧Zz≤159)∧Zl.length≤16∧(0≤ZE∧ZE≤64)∧(0≤ZF∧ZF≤999999)∧(YV ⟨Za,Zb⟩ ZC∧YV ⟨Za,Zb⟩ ZB∧YV ⟨Za,Zb⟩ Zu∧YV ⟨Za,Zb⟩ Zv)∧∀ a∈Zl,Xf a))
                  refine congrArg Value.bool ?_
                  refine (decide_eq_false (fun h9=>?_)).symm
                  obtain ⟨g1,g2,g3,g4,g5,g6,g7,⟨g8,g81,g82,g83⟩,g9⟩:=h9
                  omega
                 ·replace hc17:=dF hc17
                  refine YE (Zp (Y_pk [2,1] ?_))
                  iterate 2 refine ZJ ?_
                  refine Zm (l:=[0]) rfl ?_;refine ZD ?_;refine Zw (Zp (Xd (Y_pk [3,2,1] ?_)));refine WT (.succ .zero) (fun (k:Nat) z=>z=[(3,.int .i64 (k:Int))]∧k≤Zl.length∧(∀ j (h:j<k) (h2:j<Zl.length),Xf Zl[j])) (fun k=>Zl.length-k) (0) (⟨rfl,by omega,by (intro j hj;omega)⟩) ?_
                  rintro k _ ⟨rfl,hk,hI⟩
                  iterate 2 refine ZJ ?_
                  refine Zm (l:=[0,1,2,3,4]) rfl ?_;refine ZA ?_;refine Zk F.foff32_13 ?_;refine ZH F.lay30 ?_;refine YW F.elem30 ?_;refine YJ ?_;refine Zw (Zp ?_)
                  refine YC rfl (fun hc18=>?_) (fun hc18=>?_)
                  ·replace hc18:=dT hc18
                   refine YE (Zp (ZJ (Xd (ZJ (Zm (l:=[0,1,2,3,4,5,6,7,8,9,10,11,12,13]) rfl ?_)))));refine Zk F.foff32_13 ?_;refine ZH F.lay30 ?_;refine ZA ?_;refine YM rfl rfl rfl rfl F.elem30 (by rfl) (by omega) (by exact SlM.plain (by assumption) (by (simp;omega))) rfl ?_;refine Xs rfl rfl rfl (by assumption) (by exact XQ (by omega)) F.lay3 rfl rfl rfl ?_;refine YJ ?_;refine ZA ?_
                   refine Yw 103 rfl (fun hc19=>?_) (fun hc19=>?_)
                   ·replace hc19:=dT hc19
                    iterate 6 refine ZY ?_
                    refine ZM ?_;refine Zw (Zp (Xw rfl ?_));refine ZJ (Zm (l:=[0]) rfl ?_);refine ZD ?_;refine Zw (Zp (Yq (XA ?_)))
                    iterate 2 refine YS ?_
                    refine XA (YS ?_)
                    refine Yg (.inr rfl) (.tmp rfl .nil) (fun w hw=>?_)
                    refine ⟨_,rfl,(hw.c),?_⟩
                    clear hw
                    show _=Value.bool (decide (IsTb (ZN.tb ⟨⟨Za,Zb⟩,⟨Zf,Zh⟩,⟨Zj,Zi,Zg⟩,⟨Ze,Zd,Zc⟩⟩)∧(1≤Zt∧Zt≤8)∧(Zs=true∨ZC≠-1)∧(0≤Zz∧Zz≤159)∧Zl.length≤16∧(0≤ZE∧ZE≤64)∧(0≤ZF∧ZF≤999999)∧(YV ⟨Za,Zb⟩ ZC∧YV ⟨Za,Zb⟩ ZB∧YV ⟨Za,Zb⟩ Zu∧YV ⟨Za,Zb⟩ Zv)∧∀ a∈Zl,Xf a))
                    refine congrArg Value.bool ?_
                    refine (decide_eq_false (fun h9=>?_)).symm
                    obtain ⟨g1,g2,g3,g4,g5,g6,g7,⟨g8,g81,g82,g83⟩,g9⟩:=h9
                    have h8:=g9 _ (List.getElem_mem (n:=k) (by omega))
                    obtain ⟨h7,h6⟩:=h8
                    omega
                   ·replace hc19:=dF hc19
                    refine Zk F.foff32_13 ?_;refine ZH F.lay30 ?_;refine ZA ?_;refine YM rfl rfl rfl rfl F.elem30 (by rfl) (by omega) (by exact SlM.plain (by assumption) (by (simp;omega))) rfl ?_;refine Xs rfl rfl rfl (by assumption) (by exact XQ (by omega)) F.lay3 rfl rfl rfl ?_;refine YJ ?_;refine ZM ?_;refine Zw (Zp ?_)
                    refine YC rfl (fun hc20=>?_) (fun hc20=>?_)
                    ·replace hc20:=dT hc20
                     refine ZJ (Zm (l:=[0]) rfl ?_);refine ZD ?_;refine Zw (Zp (Yq (XA ?_)))
                     iterate 2 refine YS ?_
                     refine XA (YS ?_)
                     refine Yg (.inr rfl) (.tmp rfl .nil) (fun w hw=>?_)
                     refine ⟨_,rfl,(hw.c),?_⟩
                     clear hw
                     show _=Value.bool (decide (IsTb (ZN.tb ⟨⟨Za,Zb⟩,⟨Zf,Zh⟩,⟨Zj,Zi,Zg⟩,⟨Ze,Zd,Zc⟩⟩)∧(1≤Zt∧Zt≤8)∧(Zs=true∨ZC≠-1)∧(0≤Zz∧Zz≤159)∧Zl.length≤16∧(0≤ZE∧ZE≤64)∧(0≤ZF∧ZF≤999999)∧(YV ⟨Za,Zb⟩ ZC∧YV ⟨Za,Zb⟩ ZB∧YV ⟨Za,Zb⟩ Zu∧YV ⟨Za,Zb⟩ Zv)∧∀ a∈Zl,Xf a))
                     refine congrArg Value.bool ?_
                     refine (decide_eq_false (fun h9=>?_)).symm
                     obtain ⟨g1,g2,g3,g4,g5,g6,g7,⟨g8,g81,g82,g83⟩,g9⟩:=h9
                     have h8:=g9 _ (List.getElem_mem (n:=k) (by omega))
                     obtain ⟨h7,h6⟩:=h8
                     omega
                    ·replace hc20:=dF hc20
                     refine YE (XS (Zp (Zm (l:=[0,1,2]) rfl ?_)));refine ZA ?_;refine Xz rfl rfl rfl rfl rfl (by exact Xg (by decide) (by omega)) rfl ?_;refine ZD ?_;refine Zw ?_;refine WQ (a':=[(3,_)]) (k+1) (.cons (k:=3) rfl (.cons (k:=2) rfl (.cons (k:=1) rfl (.nil)))) (fun w hw=>by first|exact hw|exact hw.c) ?_ ?_
                     ·refine ⟨rfl,by omega,?_⟩
                      (intro j hj hj2;rcases Nat.lt_or_ge j k with h9|h9;exact hI j h9 hj2;obtain rfl:j=k:=(by omega);exact ⟨by omega,by omega⟩)
                     ·omega
                  ·replace hc18:=dF hc18
                   refine XO ?_
                   iterate 2 refine XJ ?_
                   refine XZ (Zp (Y_pk [2] ?_));refine ZJ (Zm (l:=[0]) rfl ?_);refine ZD ?_;refine Zw (Zp (Yq ?_))
                   refine Yg (.inr rfl) (.tmp rfl .nil) (fun w hw=>?_)
                   refine ⟨_,rfl,(hw.c),?_⟩
                   clear hw
                   show _=Value.bool (decide (IsTb (ZN.tb ⟨⟨Za,Zb⟩,⟨Zf,Zh⟩,⟨Zj,Zi,Zg⟩,⟨Ze,Zd,Zc⟩⟩)∧(1≤Zt∧Zt≤8)∧(Zs=true∨ZC≠-1)∧(0≤Zz∧Zz≤159)∧Zl.length≤16∧(0≤ZE∧ZE≤64)∧(0≤ZF∧ZF≤999999)∧(YV ⟨Za,Zb⟩ ZC∧YV ⟨Za,Zb⟩ ZB∧YV ⟨Za,Zb⟩ Zu∧YV ⟨Za,Zb⟩ Zv)∧∀ a∈Zl,Xf a))
                   refine congrArg Value.bool ?_
                   exact (decide_eq_true ⟨by assumption,by omega,by first|(simp_all;done)|(cases Zs <;> simp_all <;> omega),by omega,by omega,by omega,by omega,⟨by assumption,by assumption,by assumption,by assumption⟩,fun a ha=>by obtain ⟨j,hj,rfl⟩:=List.getElem_of_mem ha;exact hI j (by omega) hj⟩).symm
         ·skip
          iterate 3 refine ZY ?_
          refine ZM ?_;refine ZA ?_;refine Zk F.foff32_4 ?_;refine ZH F.lay3 ?_;refine YJ ?_;refine ZM ?_;refine ZA ?_
          refine Yw 59 rfl (fun hc21=>?_) (fun hc21=>?_)
          ·replace hc21:=dT hc21
           iterate 3 refine ZY ?_
           refine ZM ?_;refine ZA ?_
           iterate 4 refine ZY ?_
           refine ZM ?_;refine ZA ?_
           iterate 3 refine ZY ?_
           refine ZM ?_;refine ZA ?_
           iterate 3 refine ZY ?_
           refine ZM ?_;refine ZA ?_
           iterate 3 refine ZY ?_
           refine ZM ?_;refine ZA ?_
           iterate 3 refine ZY ?_
           refine ZM ?_;refine Zw (Zp (Y_pk [89,2,1] ?_));refine Xw rfl ?_;refine ZJ (Zm (l:=[0]) rfl ?_);refine ZD ?_;refine Zw (Zp (Y_pk [2,1] ?_));refine Yq (YS ?_)
           refine Yg (.inr rfl) (.tmp rfl .nil) (fun w hw=>?_)
           refine ⟨_,rfl,(hw.c),?_⟩
           clear hw
           show _=Value.bool (decide (IsTb (ZN.tb ⟨⟨Za,Zb⟩,⟨Zf,Zh⟩,⟨Zj,Zi,Zg⟩,⟨Ze,Zd,Zc⟩⟩)∧(1≤Zt∧Zt≤8)∧(Zs=true∨ZC≠-1)∧(0≤Zz∧Zz≤159)∧Zl.length≤16∧(0≤ZE∧ZE≤64)∧(0≤ZF∧ZF≤999999)∧(YV ⟨Za,Zb⟩ ZC∧YV ⟨Za,Zb⟩ ZB∧YV ⟨Za,Zb⟩ Zu∧YV ⟨Za,Zb⟩ Zv)∧∀ a∈Zl,Xf a))
           refine congrArg Value.bool ?_
           refine (decide_eq_false (fun h9=>?_)).symm
           obtain ⟨g1,g2,g3,g4,g5,g6,g7,⟨g8,g81,g82,g83⟩,g9⟩:=h9
           omega
          ·replace hc21:=dF hc21
           refine Zk F.foff32_4 ?_;refine ZH F.lay3 ?_;refine YJ ?_;refine ZM ?_;refine ZA ?_
           refine Yw 64 rfl (fun hc22=>?_) (fun hc22=>?_)
           ·replace hc22:=dT hc22
            iterate 4 refine ZY ?_
            refine ZM ?_;refine ZA ?_
            iterate 3 refine ZY ?_
            refine ZM ?_;refine ZA ?_
            iterate 3 refine ZY ?_
            refine ZM ?_;refine ZA ?_
            iterate 3 refine ZY ?_
            refine ZM ?_;refine ZA ?_
            iterate 3 refine ZY ?_
            refine ZM ?_;refine Zw (Zp (Y_pk [89,2,1] ?_));refine Xw rfl ?_;refine ZJ (Zm (l:=[0]) rfl ?_);refine ZD ?_;refine Zw (Zp (Y_pk [2,1] ?_));refine Yq (YS ?_)
            refine Yg (.inr rfl) (.tmp rfl .nil) (fun w hw=>?_)
            refine ⟨_,rfl,(hw.c),?_⟩
            clear hw
            show _=Value.bool (decide (IsTb (ZN.tb ⟨⟨Za,Zb⟩,⟨Zf,Zh⟩,⟨Zj,Zi,Zg⟩,⟨Ze,Zd,Zc⟩⟩)∧(1≤Zt∧Zt≤8)∧(Zs=true∨ZC≠-1)∧(0≤Zz∧Zz≤159)∧Zl.length≤16∧(0≤ZE∧ZE≤64)∧(0≤ZF∧ZF≤999999)∧(YV ⟨Za,Zb⟩ ZC∧YV ⟨Za,Zb⟩ ZB∧YV ⟨Za,Zb⟩ Zu∧YV ⟨Za,Zb⟩ Zv)∧∀ a∈Zl,Xf a))
            refine congrArg Value.bool ?_
            refine (decide_eq_false (fun h9=>?_)).symm
            obtain ⟨g1,g2,g3,g4,g5,g6,g7,⟨g8,g81,g82,g83⟩,g9⟩:=h9
            omega
           ·replace hc22:=dF hc22
            refine Zk F.foff32_13 ?_;refine ZH F.lay30 ?_;refine YW F.elem30 ?_;refine YJ ?_;refine ZM ?_;refine ZA ?_
            refine Yw 70 rfl (fun hc23=>?_) (fun hc23=>?_)
            ·replace hc23:=dT hc23
             iterate 3 refine ZY ?_
             refine ZM ?_;refine ZA ?_
             iterate 3 refine ZY ?_
             refine ZM ?_;refine ZA ?_
             iterate 3 refine ZY ?_
             refine ZM ?_;refine ZA ?_
             iterate 3 refine ZY ?_
             refine ZM ?_;refine Zw (Zp (Y_pk [89,2,1] ?_));refine Xw rfl ?_;refine ZJ (Zm (l:=[0]) rfl ?_);refine ZD ?_;refine Zw (Zp (Y_pk [2,1] ?_));refine Yq (YS ?_)
             refine Yg (.inr rfl) (.tmp rfl .nil) (fun w hw=>?_)
             refine ⟨_,rfl,(hw.c),?_⟩
             clear hw
             show _=Value.bool (decide (IsTb (ZN.tb ⟨⟨Za,Zb⟩,⟨Zf,Zh⟩,⟨Zj,Zi,Zg⟩,⟨Ze,Zd,Zc⟩⟩)∧(1≤Zt∧Zt≤8)∧(Zs=true∨ZC≠-1)∧(0≤Zz∧Zz≤159)∧Zl.length≤16∧(0≤ZE∧ZE≤64)∧(0≤ZF∧ZF≤999999)∧(YV ⟨Za,Zb⟩ ZC∧YV ⟨Za,Zb⟩ ZB∧YV ⟨Za,Zb⟩ Zu∧YV ⟨Za,Zb⟩ Zv)∧∀ a∈Zl,Xf a))
             refine congrArg Value.bool ?_
             refine (decide_eq_false (fun h9=>?_)).symm
             obtain ⟨g1,g2,g3,g4,g5,g6,g7,⟨g8,g81,g82,g83⟩,g9⟩:=h9
             omega
            ·replace hc23:=dF hc23
             refine Zk F.foff32_14 ?_;refine ZH F.lay3 ?_;refine YJ ?_;refine ZM ?_;refine ZA ?_
             refine Yw 75 rfl (fun hc24=>?_) (fun hc24=>?_)
             ·replace hc24:=dT hc24
              iterate 3 refine ZY ?_
              refine ZM ?_;refine ZA ?_
              iterate 3 refine ZY ?_
              refine ZM ?_;refine ZA ?_
              iterate 3 refine ZY ?_
              refine ZM ?_;refine Zw (Zp (Y_pk [89,2,1] ?_));refine Xw rfl ?_;refine ZJ (Zm (l:=[0]) rfl ?_);refine ZD ?_;refine Zw (Zp (Y_pk [2,1] ?_));refine Yq (YS ?_)
              refine Yg (.inr rfl) (.tmp rfl .nil) (fun w hw=>?_)
              refine ⟨_,rfl,(hw.c),?_⟩
              clear hw
              show _=Value.bool (decide (IsTb (ZN.tb ⟨⟨Za,Zb⟩,⟨Zf,Zh⟩,⟨Zj,Zi,Zg⟩,⟨Ze,Zd,Zc⟩⟩)∧(1≤Zt∧Zt≤8)∧(Zs=true∨ZC≠-1)∧(0≤Zz∧Zz≤159)∧Zl.length≤16∧(0≤ZE∧ZE≤64)∧(0≤ZF∧ZF≤999999)∧(YV ⟨Za,Zb⟩ ZC∧YV ⟨Za,Zb⟩ ZB∧YV ⟨Za,Zb⟩ Zu∧YV ⟨Za,Zb⟩ Zv)∧∀ a∈Zl,Xf a))
              refine congrArg Value.bool ?_
              refine (decide_eq_false (fun h9=>?_)).symm
              obtain ⟨g1,g2,g3,g4,g5,g6,g7,⟨g8,g81,g82,g83⟩,g9⟩:=h9
              omega
             ·replace hc24:=dF hc24
              refine Zk F.foff32_14 ?_;refine ZH F.lay3 ?_;refine YJ ?_;refine ZM ?_;refine ZA ?_
              refine Yw 80 rfl (fun hc25=>?_) (fun hc25=>?_)
              ·replace hc25:=dT hc25
               iterate 3 refine ZY ?_
               refine ZM ?_;refine ZA ?_
               iterate 3 refine ZY ?_
               refine ZM ?_;refine Zw (Zp (Y_pk [89,2,1] ?_));refine Xw rfl ?_;refine ZJ (Zm (l:=[0]) rfl ?_);refine ZD ?_;refine Zw (Zp (Y_pk [2,1] ?_));refine Yq (YS ?_)
               refine Yg (.inr rfl) (.tmp rfl .nil) (fun w hw=>?_)
               refine ⟨_,rfl,(hw.c),?_⟩
               clear hw
               show _=Value.bool (decide (IsTb (ZN.tb ⟨⟨Za,Zb⟩,⟨Zf,Zh⟩,⟨Zj,Zi,Zg⟩,⟨Ze,Zd,Zc⟩⟩)∧(1≤Zt∧Zt≤8)∧(Zs=true∨ZC≠-1)∧(0≤Zz∧Zz≤159)∧Zl.length≤16∧(0≤ZE∧ZE≤64)∧(0≤ZF∧ZF≤999999)∧(YV ⟨Za,Zb⟩ ZC∧YV ⟨Za,Zb⟩ ZB∧YV ⟨Za,Zb⟩ Zu∧YV ⟨Za,Zb⟩ Zv)∧∀ a∈Zl,Xf a))
               refine congrArg Value.bool ?_
               refine (decide_eq_false (fun h9=>?_)).symm
               obtain ⟨g1,g2,g3,g4,g5,g6,g7,⟨g8,g81,g82,g83⟩,g9⟩:=h9
               omega
              ·replace hc25:=dF hc25
               refine Zk F.foff32_15 ?_;refine ZH F.lay3 ?_;refine YJ ?_;refine ZM ?_;refine ZA ?_
               refine Yw 85 rfl (fun hc26=>?_) (fun hc26=>?_)
               ·replace hc26:=dT hc26
                iterate 3 refine ZY ?_
                refine ZM ?_;refine Zw (Zp (Y_pk [89,2,1] ?_));refine Xw rfl ?_;refine ZJ (Zm (l:=[0]) rfl ?_);refine ZD ?_;refine Zw (Zp (Y_pk [2,1] ?_));refine Yq (YS ?_)
                refine Yg (.inr rfl) (.tmp rfl .nil) (fun w hw=>?_)
                refine ⟨_,rfl,(hw.c),?_⟩
                clear hw
                show _=Value.bool (decide (IsTb (ZN.tb ⟨⟨Za,Zb⟩,⟨Zf,Zh⟩,⟨Zj,Zi,Zg⟩,⟨Ze,Zd,Zc⟩⟩)∧(1≤Zt∧Zt≤8)∧(Zs=true∨ZC≠-1)∧(0≤Zz∧Zz≤159)∧Zl.length≤16∧(0≤ZE∧ZE≤64)∧(0≤ZF∧ZF≤999999)∧(YV ⟨Za,Zb⟩ ZC∧YV ⟨Za,Zb⟩ ZB∧YV ⟨Za,Zb⟩ Zu∧YV ⟨Za,Zb⟩ Zv)∧∀ a∈Zl,Xf a))
                refine congrArg Value.bool ?_
                refine (decide_eq_false (fun h9=>?_)).symm
                obtain ⟨g1,g2,g3,g4,g5,g6,g7,⟨g8,g81,g82,g83⟩,g9⟩:=h9
                omega
               ·replace hc26:=dF hc26
                refine Zk F.foff32_15 ?_;refine ZH F.lay3 ?_;refine YJ ?_;refine ZM ?_;refine Zw (Zp (Y_pk [89,2,1] ?_))
                refine YC rfl (fun hc27=>?_) (fun hc27=>?_)
                ·replace hc27:=dT hc27
                 refine ZJ (Zm (l:=[0]) rfl ?_);refine ZD ?_;refine Zw (Zp (Y_pk [2,1] ?_));refine Yq (YS ?_)
                 refine Yg (.inr rfl) (.tmp rfl .nil) (fun w hw=>?_)
                 refine ⟨_,rfl,(hw.c),?_⟩
                 clear hw
                 show _=Value.bool (decide (IsTb (ZN.tb ⟨⟨Za,Zb⟩,⟨Zf,Zh⟩,⟨Zj,Zi,Zg⟩,⟨Ze,Zd,Zc⟩⟩)∧(1≤Zt∧Zt≤8)∧(Zs=true∨ZC≠-1)∧(0≤Zz∧Zz≤159)∧Zl.length≤16∧(0≤ZE∧ZE≤64)∧(0≤ZF∧ZF≤999999)∧(YV ⟨Za,Zb⟩ ZC∧YV ⟨Za,Zb⟩ ZB∧YV ⟨Za,Zb⟩ Zu∧YV ⟨Za,Zb⟩ Zv)∧∀ a∈Zl,Xf a))
                 refine congrArg Value.bool ?_
                 refine (decide_eq_false (fun h9=>?_)).symm
                 obtain ⟨g1,g2,g3,g4,g5,g6,g7,⟨g8,g81,g82,g83⟩,g9⟩:=h9
                 omega
                ·replace hc27:=dF hc27
                 refine YE (Zp (Y_pk [2,1] ?_))
                 iterate 2 refine ZJ ?_
                 refine Zm (l:=[0]) rfl ?_;refine ZD ?_;refine Zw (Zp (Xd (Y_pk [3,2,1] ?_)));refine WT (.succ .zero) (fun (k:Nat) z=>z=[(3,.int .i64 (k:Int))]∧k≤Zl.length∧(∀ j (h:j<k) (h2:j<Zl.length),Xf Zl[j])) (fun k=>Zl.length-k) (0) (⟨rfl,by omega,by (intro j hj;omega)⟩) ?_
                 rintro k _ ⟨rfl,hk,hI⟩
                 iterate 2 refine ZJ ?_
                 refine Zm (l:=[0,1,2,3,4]) rfl ?_;refine ZA ?_;refine Zk F.foff32_13 ?_;refine ZH F.lay30 ?_;refine YW F.elem30 ?_;refine YJ ?_;refine Zw (Zp ?_)
                 refine YC rfl (fun hc28=>?_) (fun hc28=>?_)
                 ·replace hc28:=dT hc28
                  refine YE (Zp (ZJ (Xd (ZJ (Zm (l:=[0,1,2,3,4,5,6,7,8,9,10,11,12,13]) rfl ?_)))));refine Zk F.foff32_13 ?_;refine ZH F.lay30 ?_;refine ZA ?_;refine YM rfl rfl rfl rfl F.elem30 (by rfl) (by omega) (by exact SlM.plain (by assumption) (by (simp;omega))) rfl ?_;refine Xs rfl rfl rfl (by assumption) (by exact XQ (by omega)) F.lay3 rfl rfl rfl ?_;refine YJ ?_;refine ZA ?_
                  refine Yw 103 rfl (fun hc29=>?_) (fun hc29=>?_)
                  ·replace hc29:=dT hc29
                   iterate 6 refine ZY ?_
                   refine ZM ?_;refine Zw (Zp (Xw rfl ?_));refine ZJ (Zm (l:=[0]) rfl ?_);refine ZD ?_;refine Zw (Zp (Yq (XA ?_)))
                   iterate 2 refine YS ?_
                   refine XA (YS ?_)
                   refine Yg (.inr rfl) (.tmp rfl .nil) (fun w hw=>?_)
                   refine ⟨_,rfl,(hw.c),?_⟩
                   clear hw
                   show _=Value.bool (decide (IsTb (ZN.tb ⟨⟨Za,Zb⟩,⟨Zf,Zh⟩,⟨Zj,Zi,Zg⟩,⟨Ze,Zd,Zc⟩⟩)∧(1≤Zt∧Zt≤8)∧(Zs=true∨ZC≠-1)∧(0≤Zz∧Zz≤159)∧Zl.length≤16∧(0≤ZE∧ZE≤64)∧(0≤ZF∧ZF≤999999)∧(YV ⟨Za,Zb⟩ ZC∧YV ⟨Za,Zb⟩ ZB∧YV ⟨Za,Zb⟩ Zu∧YV ⟨Za,Zb⟩ Zv)∧∀ a∈Zl,Xf a))
                   refine congrArg Value.bool ?_
                   refine (decide_eq_false (fun h9=>?_)).symm
                   obtain ⟨g1,g2,g3,g4,g5,g6,g7,⟨g8,g81,g82,g83⟩,g9⟩:=h9
                   have h8:=g9 _ (List.getElem_mem (n:=k) (by omega))
                   obtain ⟨h7,h6⟩:=h8
                   omega
                  ·replace hc29:=dF hc29
                   refine Zk F.foff32_13 ?_;refine ZH F.lay30 ?_;refine ZA ?_;refine YM rfl rfl rfl rfl F.elem30 (by rfl) (by omega) (by exact SlM.plain (by assumption) (by (simp;omega))) rfl ?_;refine Xs rfl rfl rfl (by assumption) (by exact XQ (by omega)) F.lay3 rfl rfl rfl ?_;refine YJ ?_;refine ZM ?_;refine Zw (Zp ?_)
                   refine YC rfl (fun hc30=>?_) (fun hc30=>?_)
                   ·replace hc30:=dT hc30
                    refine ZJ (Zm (l:=[0]) rfl ?_);refine ZD ?_;refine Zw (Zp (Yq (XA ?_)))
                    iterate 2 refine YS ?_
                    refine XA (YS ?_)
                    refine Yg (.inr rfl) (.tmp rfl .nil) (fun w hw=>?_)
                    refine ⟨_,rfl,(hw.c),?_⟩
                    clear hw
                    show _=Value.bool (decide (IsTb (ZN.tb ⟨⟨Za,Zb⟩,⟨Zf,Zh⟩,⟨Zj,Zi,Zg⟩,⟨Ze,Zd,Zc⟩⟩)∧(1≤Zt∧Zt≤8)∧(Zs=true∨ZC≠-1)∧(0≤Zz∧Zz≤159)∧Zl.length≤16∧(0≤ZE∧ZE≤64)∧(0≤ZF∧ZF≤999999)∧(YV ⟨Za,Zb⟩ ZC∧YV ⟨Za,Zb⟩ ZB∧YV ⟨Za,Zb⟩ Zu∧YV ⟨Za,Zb⟩ Zv)∧∀ a∈Zl,Xf a))
                    refine congrArg Value.bool ?_
                    refine (decide_eq_false (fun h9=>?_)).symm
                    obtain ⟨g1,g2,g3,g4,g5,g6,g7,⟨g8,g81,g82,g83⟩,g9⟩:=h9
                    have h8:=g9 _ (List.getElem_mem (n:=k) (by omega))
                    obtain ⟨h7,h6⟩:=h8
                    omega
                   ·replace hc30:=dF hc30
                    refine YE (XS (Zp (Zm (l:=[0,1,2]) rfl ?_)));refine ZA ?_;refine Xz rfl rfl rfl rfl rfl (by exact Xg (by decide) (by omega)) rfl ?_;refine ZD ?_;refine Zw ?_;refine WQ (a':=[(3,_)]) (k+1) (.cons (k:=3) rfl (.cons (k:=2) rfl (.cons (k:=1) rfl (.nil)))) (fun w hw=>by first|exact hw|exact hw.c) ?_ ?_
                    ·refine ⟨rfl,by omega,?_⟩
                     (intro j hj hj2;rcases Nat.lt_or_ge j k with h9|h9;exact hI j h9 hj2;obtain rfl:j=k:=(by omega);exact ⟨by omega,by omega⟩)
                    ·omega
                 ·replace hc28:=dF hc28
                  refine XO ?_
                  iterate 2 refine XJ ?_
                  refine XZ (Zp (Y_pk [2] ?_));refine ZJ (Zm (l:=[0]) rfl ?_);refine ZD ?_;refine Zw (Zp (Yq ?_))
                  refine Yg (.inr rfl) (.tmp rfl .nil) (fun w hw=>?_)
                  refine ⟨_,rfl,(hw.c),?_⟩
                  clear hw
                  show _=Value.bool (decide (IsTb (ZN.tb ⟨⟨Za,Zb⟩,⟨Zf,Zh⟩,⟨Zj,Zi,Zg⟩,⟨Ze,Zd,Zc⟩⟩)∧(1≤Zt∧Zt≤8)∧(Zs=true∨ZC≠-1)∧(0≤Zz∧Zz≤159)∧Zl.length≤16∧(0≤ZE∧ZE≤64)∧(0≤ZF∧ZF≤999999)∧(YV ⟨Za,Zb⟩ ZC∧YV ⟨Za,Zb⟩ ZB∧YV ⟨Za,Zb⟩ Zu∧YV ⟨Za,Zb⟩ Zv)∧∀ a∈Zl,Xf a))
                  refine congrArg Value.bool ?_
                  exact (decide_eq_true ⟨by assumption,by omega,by first|(simp_all;done)|(cases Zs <;> simp_all <;> omega),by omega,by omega,by omega,by omega,⟨by assumption,by assumption,by assumption,by assumption⟩,fun a ha=>by obtain ⟨j,hj,rfl⟩:=List.getElem_of_mem ha;exact hI j (by omega) hj⟩).symm
end Go.Proofs.YtajmnjefajknoaaGreat
namespace Go.Proofs.YtajmnjefajknoaaGreat
open Go.Esp
theorem F.bld125:Bld Tryz.prog 125 [[.one (.int .i64 0)],[.one (.bool false)]]:=⟨by kernel_rfl,by kernel_rfl⟩
theorem F.elem126:slOf Tryz.prog 126=some (125,2,16):=by kernel_rfl
theorem F.foff125_0:foff Tryz.prog 125 0=some 0:=by kernel_rfl
theorem F.foff125_1:foff Tryz.prog 125 1=some 1:=by kernel_rfl
theorem F.foff44_0:foff Tryz.prog 44 0=some 0:=by kernel_rfl
theorem F.foff44_1:foff Tryz.prog 44 1=some 1:=by kernel_rfl
theorem F.foff44_2:foff Tryz.prog 44 2=some 22:=by kernel_rfl
theorem F.foff44_3:foff Tryz.prog 44 3=some 23:=by kernel_rfl
theorem F.foff44_4:foff Tryz.prog 44 4=some 43:=by kernel_rfl
theorem F.foff44_5:foff Tryz.prog 44 5=some 44:=by kernel_rfl
theorem F.foff44_6:foff Tryz.prog 44 6=some 45:=by kernel_rfl
theorem F.foff44_7:foff Tryz.prog 44 7=some 66:=by kernel_rfl
theorem F.lay125:lay Tryz.prog 125=some (true,2):=by kernel_rfl
theorem F.lay29:lay Tryz.prog 29=some (false,1):=by kernel_rfl
theorem F.lay44:lay Tryz.prog 44=some (true,67):=by kernel_rfl
theorem F.ok75:okFn Tryz.prog 75=true:=by kernel_rfl
theorem F.ok76:okFn Tryz.prog 76=true:=by kernel_rfl
theorem F.ok77:okFn Tryz.prog 77=true:=by kernel_rfl
theorem F.ok79:okFn Tryz.prog 79=true:=by kernel_rfl
theorem F.zero125:WC Tryz.prog 125=some (aggV [.one (.int .i64 0),.one (.bool false)]):=by kernel_rfl
theorem lodd_ok (M:Mem) (a:Int):Fs Tryz.prog 77 [.int .i64 a] M (fun v=>v=Value.bool (decide (¬(0≤a∧a≤999)))):=by
  refine XB Tryz.func77 rfl Tryz.ntmps77 rfl ?_;intro H
  refine ZJ (Zm (l:=[0]) rfl ?_);refine ZD ?_;refine Zw (Zp (ZJ (Zm (l:=[0,1,2,3,4,5,6]) rfl ?_)));refine ZA ?_;refine YJ ?_;refine ZA ?_
  refine Yw 5 rfl (fun hc1=>?_) (fun hc1=>?_)
  ·replace hc1:=dT hc1
   iterate 2 refine ZY ?_
   refine ZM ?_;refine ZD ?_;refine Zw (Zp (Y_pk [2] ?_));refine Yq ?_
   refine Yg (.inr rfl) (.tmp rfl .nil) (fun w hw=>?_)
   refine ⟨_,rfl,(hw.c),?_⟩
   clear hw
   refine congrArg Value.bool ?_
   exact (decide_eq_true (by omega)).symm
  ·replace hc1:=dF hc1
   refine ZA ?_;refine YJ ?_;refine ZM ?_;refine ZD ?_;refine Zw (Zp (Y_pk [2] ?_));refine Yq ?_
   refine Yg (.inr rfl) (.tmp rfl .nil) (fun w hw=>?_)
   refine ⟨_,rfl,(hw.c),?_⟩
   clear hw
   refine congrArg Value.bool ?_
   exact decide_eq_decide.2 ⟨fun h9=>by omega,fun h9=>by omega⟩
theorem loddP_ok (M:Mem) (p:ZI):Fs Tryz.prog 79 [p.enc] M (fun v=>v=Value.bool (decide (¬Xf p.addr))):=by
  obtain ⟨YX,p_id⟩:=p
  refine XB Tryz.func79 rfl Tryz.ntmps79 rfl ?_;intro H
  refine ZJ (Zm (l:=[0,1]) rfl ?_)
  refine Xv ?_;intro b1
  refine ZD ?_;refine Zw (Zp (Y_pk [2,1] ?_));refine ZJ (Zm (l:=[0,1,2,3]) rfl ?_);refine Zk F.foff25_0 ?_;refine ZH F.lay3 ?_;refine X_fs rfl rfl F.ok77 rfl (lodd_ok _ _) rfl ?_
  rintro _ rfl
  refine ZD ?_;refine Zw (Zp (Y_pk [2] ?_));refine Yq ?_
  refine Yg (.inr rfl) (.tmp rfl .nil) (fun w hw=>?_)
  refine ⟨_,rfl,(hw.c),?_⟩
  clear hw
  rfl
theorem parts_ok (M:Mem) (k:Int):Fs Tryz.prog 75 [.int .i64 k] M (fun v=>v=.tuple #[.int .i64 (Vl k).1,.bool (Vl k).2]):=by
  refine XB Tryz.func75 rfl Tryz.ntmps75 rfl ?_;intro H
  refine ZJ (Zm (l:=[0,1]) rfl ?_)
  iterate 2 refine ZD ?_
  refine Zw (Zp ?_)
  iterate 2 refine ZJ ?_
  refine Zm (l:=[0]) rfl ?_;refine ZA ?_;refine Zw (Zp (Y_pk [4,3,2] ?_));refine Xd (ZJ (Zm (l:=[0,1]) rfl ?_));refine YJ ?_;refine ZD ?_;refine Zw (Zp (Y_pk [5,4,3,2] ?_))
  refine YC rfl (fun hc1=>?_) (fun hc1=>?_)
  ·replace hc1:=dT hc1
   refine ZJ (Zm (l:=[0,1]) rfl ?_)
   iterate 2 refine ZD ?_
   refine Zw (Zp (Y_pk [3,2] ?_));refine Yq (XA (YS ?_))
   refine Yg (.inr rfl) (.tmp rfl (.tmp rfl .nil)) (fun w hw=>?_)
   refine ⟨_,rfl,hw.c,?_⟩
   clear hw
   (subst_vars;rfl)
  ·replace hc1:=dF hc1
   refine ZJ (Zm (l:=[0,1]) rfl ?_);refine YJ ?_;refine ZD ?_;refine Zw (Zp (Y_pk [7,4,3,2] ?_))
   refine YC rfl (fun hc2=>?_) (fun hc2=>?_)
   ·replace hc2:=dT hc2
    refine ZJ (Zm (l:=[0,1]) rfl ?_)
    iterate 2 refine ZD ?_
    refine Zw (Zp (Y_pk [3,2] ?_));refine Yq (XA (YS ?_))
    refine Yg (.inr rfl) (.tmp rfl (.tmp rfl .nil)) (fun w hw=>?_)
    refine ⟨_,rfl,hw.c,?_⟩
    clear hw
    (subst_vars;rfl)
   ·replace hc2:=dF hc2
    iterate 2 refine ZJ ?_
    refine Zm (l:=[0,1]) rfl ?_;refine YJ ?_;refine ZD ?_;refine Zw (Zp (Y_pk [9,4,3,2] ?_))
    refine C_part 9 rfl (fun hc3=>?_) (fun hc3=>?_)
    ·replace hc3:=dT hc3
     refine Xw rfl ?_;refine YE (Zp (Xw rfl ?_));refine ZJ (Zm (l:=[0,1]) rfl ?_)
     iterate 2 refine ZD ?_
     refine Zw (Zp (Y_pk [3,2] ?_));refine Yq (XA (YS ?_))
     refine Yg (.inr rfl) (.tmp rfl (.tmp rfl .nil)) (fun w hw=>?_)
     refine ⟨_,rfl,hw.c,?_⟩
     clear hw
     (subst_vars;rfl)
    ·replace hc3:=dF hc3
     refine Wz rfl ?_;refine ZJ (Zm (l:=[0,1]) rfl ?_);refine YJ ?_;refine ZD ?_;refine Zw (Zp (Y_pk [9,4,3,2] ?_))
     refine C_part 9 rfl (fun hc4=>?_) (fun hc4=>?_)
     ·replace hc4:=dT hc4
      refine Xw rfl ?_;refine YE (Zp (Xw rfl ?_));refine ZJ (Zm (l:=[0,1]) rfl ?_)
      iterate 2 refine ZD ?_
      refine Zw (Zp (Y_pk [3,2] ?_));refine Yq (XA (YS ?_))
      refine Yg (.inr rfl) (.tmp rfl (.tmp rfl .nil)) (fun w hw=>?_)
      refine ⟨_,rfl,hw.c,?_⟩
      clear hw
      (subst_vars;rfl)
     ·replace hc4:=dF hc4
      refine Wz rfl ?_;refine Zm (l:=[0,1]) rfl ?_;refine YJ ?_;refine ZD ?_;refine Zw (Zp (Y_pk [9,4,3,2] ?_))
      refine YC rfl (fun hc5=>?_) (fun hc5=>?_)
      ·replace hc5:=dT hc5
       refine ZJ (Zm (l:=[0,1]) rfl ?_)
       iterate 2 refine ZD ?_
       refine Zw (Zp (Y_pk [3,2] ?_));refine Yq (XA (YS ?_))
       refine Yg (.inr rfl) (.tmp rfl (.tmp rfl .nil)) (fun w hw=>?_)
       refine ⟨_,rfl,hw.c,?_⟩
       clear hw
       (subst_vars;rfl)
      ·replace hc5:=dF hc5
       refine ZJ (Zm (l:=[0,1]) rfl ?_);refine YJ ?_;refine ZD ?_;refine Zw (Zp (Y_pk [13,4,3,2] ?_))
       refine YC rfl (fun hc6=>?_) (fun hc6=>?_)
       ·replace hc6:=dT hc6
        refine ZJ (Zm (l:=[0,1]) rfl ?_)
        iterate 2 refine ZD ?_
        refine Zw (Zp (Y_pk [3,2] ?_));refine Yq (XA (YS ?_))
        refine Yg (.inr rfl) (.tmp rfl (.tmp rfl .nil)) (fun w hw=>?_)
        refine ⟨_,rfl,hw.c,?_⟩
        clear hw
        (subst_vars;rfl)
       ·replace hc6:=dF hc6
        refine ZJ (Zm (l:=[0,1]) rfl ?_);refine YJ ?_;refine ZD ?_;refine Zw (Zp (Y_pk [15,4,3,2] ?_))
        refine YC rfl (fun hc7=>?_) (fun hc7=>?_)
        ·replace hc7:=dT hc7
         refine ZJ (Zm (l:=[0,1]) rfl ?_)
         iterate 2 refine ZD ?_
         refine Zw (Zp (Y_pk [3,2] ?_));refine Yq (XA (YS ?_))
         refine Yg (.inr rfl) (.tmp rfl (.tmp rfl .nil)) (fun w hw=>?_)
         refine ⟨_,rfl,hw.c,?_⟩
         clear hw
         (subst_vars;rfl)
        ·replace hc7:=dF hc7
         refine ZJ (Zm (l:=[0,1]) rfl ?_);refine YJ ?_;refine ZD ?_;refine Zw (Zp (Y_pk [17,3,2] ?_))
         refine YC rfl (fun hc8=>?_) (fun hc8=>?_)
         ·replace hc8:=dT hc8
          refine ZJ (Zm (l:=[0,1]) rfl ?_)
          iterate 2 refine ZD ?_
          refine Zw (Zp (Y_pk [3,2] ?_));refine Yq (XA (YS ?_))
          refine Yg (.inr rfl) (.tmp rfl (.tmp rfl .nil)) (fun w hw=>?_)
          refine ⟨_,rfl,hw.c,?_⟩
          clear hw
          (subst_vars;rfl)
         ·replace hc8:=dF hc8
          refine YE (XS (Zp (Y_pk [3,2] ?_)));refine ZJ (Zm (l:=[0,1]) rfl ?_)
          iterate 2 refine ZD ?_
          refine Zw (Zp (Yq ?_))
          refine Yg (.inr rfl) (.tmp rfl (.tmp rfl .nil)) (fun w hw=>?_)
          refine ⟨_,rfl,hw.c,?_⟩
          clear hw
          (rw [parts_no (by omega)];rfl)
theorem used_ok (M:Mem) (l:ZO) (hl0:ZO.ok M l):Fs Tryz.prog 76 [l.enc] M (fun v=>v=.int .i64 (Us (UE (!decide (l.req=0)) (!decide (l.id=0)) (decide (0<(l.avoid.l.length:Int))) l.done (!decide (l.peer=Xi)) (decide (0<(l.peers.l.length:Int)))))):=by
  obtain ⟨YD,⟨Yb,YT⟩,Xr,l_id,⟨YH,YG,ZZ⟩,Xh,⟨ZS,Yo⟩,⟨YF,YB,ZT⟩⟩:=l
  have Wm:SlK M (oneI .i64) 1 ⟨YH,YG,ZZ⟩:=hl0.h0
  have s_l_avoid:SlM M YH (ZZ.map (oneI .i64)) 1:=Wm.h1
  have n_l_avoid:(ZZ.map (oneI .i64)).length=ZZ.length:=List.length_map ..
  have m_l_avoid:ZZ.length≤9223372036854775807:=Wm.h2
  have c_l_avoid:ZZ.length≤YG:=Wm.h3
  have XE:SlK M ZI.segs 21 ⟨YF,YB,ZT⟩:=hl0.h1
  have Wp:SlM M YF (ZT.map ZI.segs) 21:=XE.h1
  have VC:(ZT.map ZI.segs).length=ZT.length:=List.length_map ..
  have m_l_peers:ZT.length≤9223372036854775807:=XE.h2
  have VD:ZT.length≤YB:=XE.h3
  refine XB Tryz.func76 rfl Tryz.ntmps76 rfl ?_;intro H
  refine ZJ (Zm (l:=[0,1]) rfl ?_)
  refine Xv ?_;intro b1
  refine ZD ?_;refine Zw (Zp (Y_pk [2,1] ?_));refine ZJ (Zm (l:=[0]) rfl ?_);refine ZD ?_;refine Zw (Zp ?_)
  iterate 2 refine ZJ ?_
  refine YL (l:=[0,1,2,3,4,5,6,7,8,9,10,11,12,13,14,15,16,17,18,19,20,21,22,23,24,25,26,27,28,29]) #[0,1,3,7,0,16,0,112,240,0,512,1536,3584,7680,0,16384,49152,0,131072,0,917504,1966080,0,4194304,12582912,29360128,62914560,134217727,268435455,0] _ rfl (by kernel_rfl) (by kernel_rfl) St.drawn (fun _ h=>h) ?_;refine Zk F.foff44_2 ?_;refine ZH F.lay29 ?_;refine YJ ?_;refine Xy rfl rfl F.bld125 (.cons rfl (by constructor) (.cons rfl (by constructor) .nil)) rfl rfl ?_;refine Zk F.foff44_3 ?_;refine ZH F.lay23 ?_;refine X_build0 rfl rfl F.zero23 F.arr23 rfl ?_
  refine WI (m:=20) rfl rfl rfl rfl rfl (by constructor) (by constructor) F.lay23 F.kinds23 rfl F.guard23 (Vc WJ) (Vc WJ) rfl rfl rfl ?_;intro c2 he3
  replace he3:c2=true↔¬(Segs.cells _=Segs.cells _):=he3
  obtain rfl:=neD he3 (Vn (x:=_) (y:=_));clear he3
  refine Xy rfl rfl F.bld125 (.cons rfl (by constructor) (.cons rfl (by constructor) .nil)) rfl rfl ?_;refine Zk F.foff44_4 ?_;refine ZH F.lay30 ?_;refine YW F.elem30 ?_;refine YJ ?_;refine Xy rfl rfl F.bld125 (.cons rfl (by constructor) (.cons rfl (by constructor) .nil)) rfl rfl ?_;refine Zk F.foff44_5 ?_;refine ZH F.lay4 ?_;refine Xy rfl rfl F.bld125 (.cons rfl (by constructor) (.cons rfl (by constructor) .nil)) rfl rfl ?_;refine Zk F.foff44_6 ?_;refine ZH F.lay25 ?_;refine X_fs rfl rfl F.ok66 rfl (Vz _) rfl ?_
  rintro _ rfl
  refine WY 25 rfl (show _=aggV [.one (.int .i64 (-1)),Yr 0] from rfl) ?_
  refine WI (m:=20) rfl rfl rfl rfl rfl (by constructor) (by constructor) F.lay25 F.kinds25 rfl F.guard25 (by exact XR (⟨_,_⟩)) (by exact XR (⟨_,_⟩)) rfl rfl rfl ?_;intro c4 he5
  replace he5:c4=true↔¬(Segs.cells _=Segs.cells _):=he5
  obtain rfl:=neD he5 (ZI.inj (x:=⟨_,_⟩) (y:=⟨_,_⟩));clear he5
  refine Xy rfl rfl F.bld125 (.cons rfl (by constructor) (.cons rfl (by constructor) .nil)) rfl rfl ?_;refine Zk F.foff44_7 ?_;refine ZH F.lay26 ?_;refine YW F.elem26 ?_;refine YJ ?_;refine Xy rfl rfl F.bld125 (.cons rfl (by constructor) (.cons rfl (by constructor) .nil)) rfl rfl ?_
  refine Xu rfl rfl F.elem126 F.zero125 rfl rfl (.cons rfl (by constructor) (.cons rfl (by constructor) (.cons rfl (by constructor) (.cons rfl (by constructor) (.cons rfl (by constructor) (.cons rfl (by constructor) .nil)))))) rfl rfl (by simp only [List.map_cons,List.map_nil] <;> rfl) rfl ?_;intro b6 hob7
  obtain ⟨HL,hHL⟩:∃ l,UE (!decide (Xr=0)) (!decide (l_id=0)) (decide (0<(ZZ.length:Int))) Xh (!decide ((⟨ZS,Yo⟩:ZI)=Xi)) (decide (0<(ZT.length:Int)))=l:=⟨_,rfl⟩
  have ho6:=OSl.as9 hob7 (show _=HL.map YO.segs by rw [← hHL];rfl)
  have hl6:HL.length=6:=by rw [← hHL];rfl
  have n_L6:(HL.map YO.segs).length=HL.length:=List.length_map ..
  refine YW F.elem126 ?_;refine ZA ?_;refine Zw (Zp (Y_pk [35,34,33,3,2] ?_));refine Xd (Y_pk [35,3,34,33,2] ?_);refine WT (.succ (.succ .zero)) (fun (k:Nat) z=>z=[(35,.int .i64 (k:Int)),(3,.int .i64 (Us (HL.take k)))]∧k≤6) (fun k=>6-k) (0) (⟨rfl,by omega⟩) ?_
  rintro k _ ⟨rfl,hk⟩
  refine ZJ (Zm (l:=[0]) rfl ?_);refine YJ ?_;refine Zw (Zp (ZJ ?_))
  refine YC rfl (fun hc8=>?_) (fun hc8=>?_)
  ·replace hc8:=dT hc8
   refine YE (Zp (ZJ (Xd (ZJ (Zm (l:=[0,1,2,3]) rfl ?_)))));refine YM rfl rfl rfl rfl F.elem126 (by rfl) (by omega) (by exact ⟨_,_,rfl⟩) rfl ?_;refine X_load_osl rfl rfl rfl (by assumption) (by repeat first|exact Rem.here _|exact Rem.two|apply Rem.skip|apply Rem.over) (by exact XQ (by omega)) F.lay125 rfl rfl rfl ?_
   obtain ⟨⟨h_part,h_is⟩,hk9⟩:∃ h,HL[k]'(by omega)=h:=⟨_,rfl⟩
   refine WY 38 rfl (show _=aggV (YO.segs ⟨h_part,h_is⟩) from by rw [← hk9];rfl) ?_
   refine YQ F.zero125 ?_;intro b9
   refine ZX F.lay125 ?_;refine Zw (Zp (ZJ (Zm (l:=[0,1]) rfl ?_)));refine Zk F.foff125_1 ?_;refine ZH F.lay4 ?_;refine Zw (Zp ?_)
   refine YC rfl (fun hc10=>?_) (fun hc10=>?_)
   ·skip
    refine Zm (l:=[0,1,2,3,4]) rfl ?_;refine ZA ?_;refine Zk F.foff125_0 ?_;refine ZH F.lay3 ?_;refine X_bits rfl rfl rfl rfl rfl rfl rfl ?_;refine ZD ?_;refine Zw (XS (Zp (Zm (l:=[0,1]) rfl ?_)));refine Xz rfl rfl rfl rfl rfl (by exact Xg (by decide) (by omega)) rfl ?_;refine ZA ?_;refine Zw ?_;refine WQ (a':=[(35,_),(3,_)]) (k+1) (.cons (k:=35) rfl (.cons (k:=3) rfl (.cons (k:=34) rfl (.cons (k:=33) rfl (.cons (k:=2) rfl (.nil)))))) (fun w hw=>by first|exact hw|exact hw.c) ?_ ?_
    ·refine ⟨?_,by omega⟩
     rw [usedH_take (by omega),hk9]
     simp only
     rw [show h_is=true from by assumption]
     rfl
    ·omega
   ·skip
    refine YE (XS (Zp (Zm (l:=[0,1]) rfl ?_)));refine Xz rfl rfl rfl rfl rfl (by exact Xg (by decide) (by omega)) rfl ?_;refine ZA ?_;refine Zw ?_;refine WQ (a':=[(35,_),(3,_)]) (k+1) (.cons (k:=35) rfl (.cons (k:=3) rfl (.cons (k:=34) rfl (.cons (k:=33) rfl (.cons (k:=2) rfl (.nil)))))) (fun w hw=>by first|exact hw|exact hw.c) ?_ ?_
    ·refine ⟨?_,by omega⟩
     rw [usedH_take (by omega),hk9]
     simp only
     rw [show h_is=false from by assumption]
     rfl
    ·omega
  ·replace hc8:=dF hc8
   refine XO ?_
   iterate 2 refine XJ ?_
   refine XZ (Zp (Y_pk [3,2] ?_));refine ZJ (Zm (l:=[0,1]) rfl ?_);refine ZA ?_;refine ZD ?_;refine Zw (Zp (Y_pk [2] ?_));refine Yq ?_
   refine Yg (.inr rfl) (.tmp rfl .nil) (fun w hw=>?_)
   obtain rfl:k=6:=by omega
   refine ⟨_,rfl,hw.c,?_⟩
   clear hw
   rw [List.take_of_length_le (by omega),← hHL]
   rfl
theorem IsL_ok (M:Mem) (l:ZO) (hl0:ZO.ok M l):Fs Tryz.prog 30 [l.enc] M (fun v=>v=Value.bool (decide (IsLt l.lt))):=by
  obtain ⟨YD,⟨Yb,YT⟩,Xr,l_id,⟨YH,YG,ZZ⟩,Xh,⟨ZS,Yo⟩,⟨YF,YB,ZT⟩⟩:=l
  have Wm:SlK M (oneI .i64) 1 ⟨YH,YG,ZZ⟩:=hl0.h0
  have s_l_avoid:SlM M YH (ZZ.map (oneI .i64)) 1:=Wm.h1
  have n_l_avoid:(ZZ.map (oneI .i64)).length=ZZ.length:=List.length_map ..
  have m_l_avoid:ZZ.length≤9223372036854775807:=Wm.h2
  have c_l_avoid:ZZ.length≤YG:=Wm.h3
  have XE:SlK M ZI.segs 21 ⟨YF,YB,ZT⟩:=hl0.h1
  have Wp:SlM M YF (ZT.map ZI.segs) 21:=XE.h1
  have VC:(ZT.map ZI.segs).length=ZT.length:=List.length_map ..
  have m_l_peers:ZT.length≤9223372036854775807:=XE.h2
  have VD:ZT.length≤YB:=XE.h3
  refine XB Tryz.func30 rfl Tryz.ntmps30 rfl ?_;intro H
  refine ZJ (Zm (l:=[0,1]) rfl ?_)
  refine Xv ?_;intro b1
  refine ZD ?_;refine Zw (Zp (Y_pk [2,1] ?_));refine ZJ (Zm (l:=[0,1,2,3,4,5,6,7]) rfl ?_);refine Zk F.foff44_0 ?_;refine ZH F.lay3 ?_;refine X_fs rfl rfl F.ok75 rfl (parts_ok _ _) rfl ?_
  rintro _ rfl
  refine ZA ?_
  iterate 2 refine XF ?_
  iterate 2 refine ZD ?_
  refine Zw (Zp (Y_pk [4,3,2,1] ?_));refine ZJ (YL (l:=[0,1,2,3,4]) #[0,1,0,7,15] _ rfl (by kernel_rfl) (by kernel_rfl) St.drawn (fun _ h=>h) ?_);refine Zk F.foff44_6 ?_;refine ZH F.lay25 ?_;refine X_fs rfl rfl F.ok66 rfl (Vz _) rfl ?_
  rintro _ rfl
  refine WY 14 rfl (show _=aggV [.one (.int .i64 (-1)),Yr 0] from rfl) ?_
  refine WI (m:=20) rfl rfl rfl rfl rfl (by constructor) (by constructor) F.lay25 F.kinds25 rfl F.guard25 (by exact XR (⟨_,_⟩)) (by exact XR (⟨_,_⟩)) rfl rfl rfl ?_;intro c2 he3
  replace he3:c2=true↔Segs.cells _=Segs.cells _:=he3
  obtain rfl:=eqD he3 (ZI.inj (x:=⟨_,_⟩) (y:=⟨_,_⟩));clear he3
  refine ZD ?_;refine Zw (Zp (Y_pk [5,4,3,2,1] ?_));refine ZJ (Xd (ZJ (Zm (l:=[0,1,2,3,4,5,6,7,8,9,10,11,12,13,14,15,16,17,18,19,20,21,22,23,24,25,26,27]) rfl ?_)));refine ZA ?_;refine XP ?_;refine ZA ?_
  refine Yw 19 rfl (fun hc4=>?_) (fun hc4=>?_)
  ·skip
   iterate 5 refine ZY ?_
   refine ZM ?_;refine ZA ?_
   iterate 4 refine ZY ?_
   refine ZM ?_;refine ZA ?_
   iterate 4 refine ZY ?_
   refine ZM ?_;refine ZA ?_
   iterate 4 refine ZY ?_
   refine ZM ?_;refine ZD ?_;refine Zw (Zp (Y_pk [16,5,2,1] ?_));refine Xw rfl ?_;refine ZJ (Zm (l:=[0]) rfl ?_);refine ZD ?_;refine Zw (Zp (Y_pk [2,1] ?_));refine Yq (XA (YS ?_))
   refine Yg (.inr rfl) (.tmp rfl .nil) (fun w hw=>?_)
   refine ⟨_,rfl,(hw.c),?_⟩
   clear hw
   show _=Value.bool (decide ((1≤YD∧YD≤8)∧Xf Yb∧ZZ.length≤16∧ZT.length≤8∧((⟨ZS,Yo⟩:ZI)=Xi∨Xf ZS)∧¬((⟨ZS,Yo⟩:ZI)=Xi∧YD=2)∧(VK YD∨Xr=0)∧(YD=1∨l_id=0)∧(YD=1∨ZZ=[])∧(YD=2∨Xh=false)∧(Vq YD∨(⟨ZS,Yo⟩:ZI)=Xi)∧(WR YD∨ZT=[])∧(∀ a∈ZZ,Xf a)∧∀ p∈ZT,Xf p.addr))
   refine congrArg Value.bool ?_
   refine (decide_eq_false (fun h9=>?_)).symm
   obtain ⟨g1,g2,g3,g4,g5,g6,g7,g8,g9,g10,g11,g12,g13,g14⟩:=h9
   have h7:=parts_yes (k:=YD)
   (have h8:=h7.2 g1;simp_all;done)
  ·skip
   refine ZH F.lay44 ?_;refine X_fs rfl rfl F.ok76 rfl (used_ok _ ⟨YD,⟨Yb,YT⟩,Xr,l_id,⟨YH,YG,ZZ⟩,Xh,⟨ZS,Yo⟩,⟨YF,YB,ZT⟩⟩ hl0) rfl ?_
   rintro _ rfl
   refine ZA ?_;refine X_bits rfl rfl rfl rfl rfl rfl rfl ?_;refine YJ ?_;refine ZM ?_;refine ZA ?_
   refine Yw 26 rfl (fun hc5=>?_) (fun hc5=>?_)
   ·replace hc5:=nT hc5
    simp only [ZI.eta,ZN.eta,ZK.eta,ZO.eta,Ys.eta,ZQ.eta,YO.eta,ZU.eta] at hc5
    iterate 4 refine ZY ?_
    refine ZM ?_;refine ZA ?_
    iterate 4 refine ZY ?_
    refine ZM ?_;refine ZA ?_
    iterate 4 refine ZY ?_
    refine ZM ?_;refine ZD ?_;refine Zw (Zp (Y_pk [16,5,2,1] ?_));refine Xw rfl ?_;refine ZJ (Zm (l:=[0]) rfl ?_);refine ZD ?_;refine Zw (Zp (Y_pk [2,1] ?_));refine Yq (XA (YS ?_))
    refine Yg (.inr rfl) (.tmp rfl .nil) (fun w hw=>?_)
    refine ⟨_,rfl,(hw.c),?_⟩
    clear hw
    show _=Value.bool (decide ((1≤YD∧YD≤8)∧Xf Yb∧ZZ.length≤16∧ZT.length≤8∧((⟨ZS,Yo⟩:ZI)=Xi∨Xf ZS)∧¬((⟨ZS,Yo⟩:ZI)=Xi∧YD=2)∧(VK YD∨Xr=0)∧(YD=1∨l_id=0)∧(YD=1∨ZZ=[])∧(YD=2∨Xh=false)∧(Vq YD∨(⟨ZS,Yo⟩:ZI)=Xi)∧(WR YD∨ZT=[])∧(∀ a∈ZZ,Xf a)∧∀ p∈ZT,Xf p.addr))
    refine congrArg Value.bool ?_
    refine (decide_eq_false (fun h9=>?_)).symm
    obtain ⟨g1,g2,g3,g4,g5,g6,g7,g8,g9,g10,g11,g12,g13,g14⟩:=h9
    have hp8:(Vl YD).2=true:=by first|assumption|(have h9:(!(Vl YD).2)=false:=(by assumption);simpa using h9)
    exact absurd ((used_parts hp8 _ _ _ _ _ _).2 ⟨g7.imp id (fun h=>by simp [h]),g8.imp id (fun h=>by simp [h]),g9.imp id (fun h=>by simp [h]),g10,g11.imp id (fun h=>by simp [h]),g12.imp id (fun h=>by simp [h])⟩) (show ¬notK (Us (UE (!decide (Xr=0)) (!decide (l_id=0)) (decide (0<(ZZ.length:Int))) Xh (!decide ((⟨ZS,Yo⟩:ZI)=Xi)) (decide (0<(ZT.length:Int))))) (Vl YD).1=0 by assumption)
   ·replace hc5:=nF hc5
    simp only [ZI.eta,ZN.eta,ZK.eta,ZO.eta,Ys.eta,ZQ.eta,YO.eta,ZU.eta] at hc5
    refine Zk F.foff44_1 ?_;refine Zk F.foff25_0 ?_;refine ZH F.lay3 ?_;refine X_fs rfl rfl F.ok77 rfl (lodd_ok _ _) rfl ?_
    rintro _ rfl
    refine ZM ?_;refine ZA ?_
    refine Yw 32 rfl (fun hc6=>?_) (fun hc6=>?_)
    ·replace hc6:=dT hc6
     iterate 4 refine ZY ?_
     refine ZM ?_;refine ZA ?_
     iterate 4 refine ZY ?_
     refine ZM ?_;refine ZD ?_;refine Zw (Zp (Y_pk [16,5,2,1] ?_));refine Xw rfl ?_;refine ZJ (Zm (l:=[0]) rfl ?_);refine ZD ?_;refine Zw (Zp (Y_pk [2,1] ?_));refine Yq (XA (YS ?_))
     refine Yg (.inr rfl) (.tmp rfl .nil) (fun w hw=>?_)
     refine ⟨_,rfl,(hw.c),?_⟩
     clear hw
     show _=Value.bool (decide ((1≤YD∧YD≤8)∧Xf Yb∧ZZ.length≤16∧ZT.length≤8∧((⟨ZS,Yo⟩:ZI)=Xi∨Xf ZS)∧¬((⟨ZS,Yo⟩:ZI)=Xi∧YD=2)∧(VK YD∨Xr=0)∧(YD=1∨l_id=0)∧(YD=1∨ZZ=[])∧(YD=2∨Xh=false)∧(Vq YD∨(⟨ZS,Yo⟩:ZI)=Xi)∧(WR YD∨ZT=[])∧(∀ a∈ZZ,Xf a)∧∀ p∈ZT,Xf p.addr))
     refine congrArg Value.bool ?_
     refine (decide_eq_false (fun h9=>?_)).symm
     obtain ⟨g1,g2,g3,g4,g5,g6,g7,g8,g9,g10,g11,g12,g13,g14⟩:=h9
     contradiction
    ·replace hc6:=dF hc6
     simp only [Classical.not_not] at hc6
     refine Zk F.foff44_4 ?_;refine ZH F.lay30 ?_;refine YW F.elem30 ?_;refine YJ ?_;refine ZM ?_;refine ZA ?_
     refine Yw 38 rfl (fun hc7=>?_) (fun hc7=>?_)
     ·replace hc7:=dT hc7
      iterate 4 refine ZY ?_
      refine ZM ?_;refine ZD ?_;refine Zw (Zp (Y_pk [16,5,2,1] ?_));refine Xw rfl ?_;refine ZJ (Zm (l:=[0]) rfl ?_);refine ZD ?_;refine Zw (Zp (Y_pk [2,1] ?_));refine Yq (XA (YS ?_))
      refine Yg (.inr rfl) (.tmp rfl .nil) (fun w hw=>?_)
      refine ⟨_,rfl,(hw.c),?_⟩
      clear hw
      show _=Value.bool (decide ((1≤YD∧YD≤8)∧Xf Yb∧ZZ.length≤16∧ZT.length≤8∧((⟨ZS,Yo⟩:ZI)=Xi∨Xf ZS)∧¬((⟨ZS,Yo⟩:ZI)=Xi∧YD=2)∧(VK YD∨Xr=0)∧(YD=1∨l_id=0)∧(YD=1∨ZZ=[])∧(YD=2∨Xh=false)∧(Vq YD∨(⟨ZS,Yo⟩:ZI)=Xi)∧(WR YD∨ZT=[])∧(∀ a∈ZZ,Xf a)∧∀ p∈ZT,Xf p.addr))
      refine congrArg Value.bool ?_
      refine (decide_eq_false (fun h9=>?_)).symm
      obtain ⟨g1,g2,g3,g4,g5,g6,g7,g8,g9,g10,g11,g12,g13,g14⟩:=h9
      omega
     ·replace hc7:=dF hc7
      refine Zk F.foff44_7 ?_;refine ZH F.lay26 ?_;refine YW F.elem26 ?_;refine YJ ?_;refine ZM ?_;refine ZD ?_;refine Zw (Zp (Y_pk [16,5,2,1] ?_))
      refine YC rfl (fun hc8=>?_) (fun hc8=>?_)
      ·replace hc8:=dT hc8
       refine ZJ (Zm (l:=[0]) rfl ?_);refine ZD ?_;refine Zw (Zp (Y_pk [2,1] ?_));refine Yq (XA (YS ?_))
       refine Yg (.inr rfl) (.tmp rfl .nil) (fun w hw=>?_)
       refine ⟨_,rfl,(hw.c),?_⟩
       clear hw
       show _=Value.bool (decide ((1≤YD∧YD≤8)∧Xf Yb∧ZZ.length≤16∧ZT.length≤8∧((⟨ZS,Yo⟩:ZI)=Xi∨Xf ZS)∧¬((⟨ZS,Yo⟩:ZI)=Xi∧YD=2)∧(VK YD∨Xr=0)∧(YD=1∨l_id=0)∧(YD=1∨ZZ=[])∧(YD=2∨Xh=false)∧(Vq YD∨(⟨ZS,Yo⟩:ZI)=Xi)∧(WR YD∨ZT=[])∧(∀ a∈ZZ,Xf a)∧∀ p∈ZT,Xf p.addr))
       refine congrArg Value.bool ?_
       refine (decide_eq_false (fun h9=>?_)).symm
       obtain ⟨g1,g2,g3,g4,g5,g6,g7,g8,g9,g10,g11,g12,g13,g14⟩:=h9
       omega
      ·replace hc8:=dF hc8
       refine ZJ (Zm (l:=[0,1,2,3,4,5,6,7,8,9,10,11,12,13,14,15,16]) rfl ?_)
       iterate 2 refine ZA ?_
       refine Yw 46 rfl (fun hc9=>?_) (fun hc9=>?_)
       ·replace hc9:=dT hc9
        refine Zk F.foff44_0 ?_;refine ZH F.lay3 ?_;refine YJ ?_;refine ZM ?_;refine ZA ?_
        refine Yw 51 rfl (fun hc10=>?_) (fun hc10=>?_)
        ·replace hc10:=dT hc10
         iterate 8 refine ZY ?_
         refine ZM ?_;refine ZD ?_;refine Zw (Zp (Y_pk [44,2,1] ?_));refine Xw rfl ?_;refine ZJ (Zm (l:=[0]) rfl ?_);refine ZD ?_;refine Zw (Zp (Y_pk [2,1] ?_));refine Yq (XA (YS ?_))
         refine Yg (.inr rfl) (.tmp rfl .nil) (fun w hw=>?_)
         refine ⟨_,rfl,(hw.c),?_⟩
         clear hw
         show _=Value.bool (decide ((1≤YD∧YD≤8)∧Xf Yb∧ZZ.length≤16∧ZT.length≤8∧((⟨ZS,Yo⟩:ZI)=Xi∨Xf ZS)∧¬((⟨ZS,Yo⟩:ZI)=Xi∧YD=2)∧(VK YD∨Xr=0)∧(YD=1∨l_id=0)∧(YD=1∨ZZ=[])∧(YD=2∨Xh=false)∧(Vq YD∨(⟨ZS,Yo⟩:ZI)=Xi)∧(WR YD∨ZT=[])∧(∀ a∈ZZ,Xf a)∧∀ p∈ZT,Xf p.addr))
         refine congrArg Value.bool ?_
         refine (decide_eq_false (fun h9=>?_)).symm
         obtain ⟨g1,g2,g3,g4,g5,g6,g7,g8,g9,g10,g11,g12,g13,g14⟩:=h9
         (simp_all [Xf];done)
        ·replace hc10:=dF hc10
         refine ZA ?_;refine XP ?_;refine ZA ?_
         refine Yw 54 rfl (fun hc11=>?_) (fun hc11=>?_)
         ·replace hc11:=nT hc11
          contradiction
         ·replace hc11:=nF hc11
          iterate 4 refine ZY ?_
          iterate 2 refine ZM ?_
          refine ZD ?_;refine Zw (Zp (Y_pk [44,2,1] ?_));refine Wz rfl ?_;refine YE (XS (Zp (Y_pk [2,1] ?_)));refine ZJ (Zm (l:=[0,1,2,3,4,5,6,7,8,9,10]) rfl ?_);refine Zk F.foff44_4 ?_;refine ZH F.lay30 ?_;refine X_fo rfl rfl F.ok71 rfl ((ContainsFI_rd M [] ⟨YH,YG,ZZ⟩ 77 [] (fun a=>decide (¬(0≤a∧a≤999))) (s_l_avoid.rd []) m_l_avoid F.ok77 (fun x hx=>(lodd_ok M x).foE []))) (by repeat first|exact Rem.here _|exact Rem.two|apply Rem.skip|apply Rem.over) (YN rfl) ?_
          rintro _ M1 _ ⟨hM1,rfl⟩;subst M1
          refine XP ?_;refine ZA ?_
          refine Yw 65 rfl (fun hc14=>?_) (fun hc14=>?_)
          ·skip
           simp only [ZI.eta,ZN.eta,ZK.eta,ZO.eta,Ys.eta,ZQ.eta,YO.eta,ZU.eta] at hc14
           refine Zk F.foff44_7 ?_;refine ZH F.lay26 ?_;refine X_fo rfl rfl F.ok78 rfl ((ContainsFP_rd M [] ⟨YF,YB,ZT⟩ 79 [] (fun p=>decide (¬Xf p.addr)) (Wp.rd []) m_l_peers F.ok79 (fun x hx=>(loddP_ok M x).foE []))) (by repeat first|exact Rem.here _|exact Rem.two|apply Rem.skip|apply Rem.over) (YN rfl) ?_
           rintro _ M1 _ ⟨hM1,rfl⟩;subst M1
           refine XP ?_;refine ZM ?_;refine ZD ?_;refine Zw (Zp (Y_pk [2] ?_));refine Yq ?_
           refine Yg (.inr rfl) (.tmp rfl .nil) (fun w hw=>?_)
           refine ⟨_,rfl,(hw.c),?_⟩
           clear hw
           have hp8:(Vl YD).2=true:=by first|assumption|(have h9:(!(Vl YD).2)=false:=(by assumption);simpa using h9)
           have hp9:=parts_yes.1 hp8
           have hu9:=(used_parts hp8 _ _ _ _ _ _).1 (show notK (Us (UE (!decide (Xr=0)) (!decide (l_id=0)) (decide (0<(ZZ.length:Int))) Xh (!decide ((⟨ZS,Yo⟩:ZI)=Xi)) (decide (0<(ZT.length:Int))))) (Vl YD).1=0 by assumption)
           simp only [decide_eq_false_iff_not,Bool.not_eq_false',decide_eq_true_eq] at hu9
           obtain ⟨u1,u2,u3,u4,u5,u6⟩:=hu9
           have u3:YD=1∨ZZ=[]:=u3.imp id (fun h=>List.eq_nil_of_length_eq_zero (by omega))
           have u6:WR YD∨ZT=[]:=u6.imp id (fun h=>List.eq_nil_of_length_eq_zero (by omega))
           show _=Value.bool (decide ((1≤YD∧YD≤8)∧Xf Yb∧ZZ.length≤16∧ZT.length≤8∧((⟨ZS,Yo⟩:ZI)=Xi∨Xf ZS)∧¬((⟨ZS,Yo⟩:ZI)=Xi∧YD=2)∧(VK YD∨Xr=0)∧(YD=1∨l_id=0)∧(YD=1∨ZZ=[])∧(YD=2∨Xh=false)∧(Vq YD∨(⟨ZS,Yo⟩:ZI)=Xi)∧(WR YD∨ZT=[])∧(∀ a∈ZZ,Xf a)∧∀ p∈ZT,Xf p.addr))
           refine congrArg Value.bool ?_
           have h6:=any_odd (l:=ZZ)
           have h7:=any_oddP (l:=ZT)
           have hA:(ZZ.any fun a=>decide (¬(0≤a∧a≤999)))=false:=by first|assumption|(simp_all;done)
           obtain ⟨C,hC⟩:∃ b,(ZT.any fun p=>decide (¬Xf p.addr))=b:=⟨_,rfl⟩
           rw [hC] at h7 ⊢
           have hpe:(⟨ZS,Yo⟩:ZI)=Xi∨Xf ZS:=by first|exact .inl (by assumption)|exact .inr ⟨by omega,by omega⟩|(simp_all;done)
           have hf2:¬((⟨ZS,Yo⟩:ZI)=Xi∧YD=2):=by first|(rintro ⟨q1,q2⟩;first|contradiction|omega|(simp_all;done))
           cases C
           ·exact (decide_eq_true ⟨hp9,⟨by omega,by omega⟩,by omega,by omega,hpe,hf2,u1,u2,u3,u4,u5,u6,h6.1 hA,h7.1 rfl⟩).symm
           ·exact (decide_eq_false (fun h9=>by have h8:=h7.2 h9.2.2.2.2.2.2.2.2.2.2.2.2.2;cases h8)).symm
          ·skip
           simp only [ZI.eta,ZN.eta,ZK.eta,ZO.eta,Ys.eta,ZQ.eta,YO.eta,ZU.eta] at hc14
           iterate 4 refine ZY ?_
           refine ZM ?_;refine ZD ?_;refine Zw (Zp (Y_pk [2] ?_));refine Yq ?_
           refine Yg (.inr rfl) (.tmp rfl .nil) (fun w hw=>?_)
           refine ⟨_,rfl,(hw.c),?_⟩
           clear hw
           show _=Value.bool (decide ((1≤YD∧YD≤8)∧Xf Yb∧ZZ.length≤16∧ZT.length≤8∧((⟨ZS,Yo⟩:ZI)=Xi∨Xf ZS)∧¬((⟨ZS,Yo⟩:ZI)=Xi∧YD=2)∧(VK YD∨Xr=0)∧(YD=1∨l_id=0)∧(YD=1∨ZZ=[])∧(YD=2∨Xh=false)∧(Vq YD∨(⟨ZS,Yo⟩:ZI)=Xi)∧(WR YD∨ZT=[])∧(∀ a∈ZZ,Xf a)∧∀ p∈ZT,Xf p.addr))
           refine congrArg Value.bool ?_
           refine (decide_eq_false (fun h9=>?_)).symm
           obtain ⟨g1,g2,g3,g4,g5,g6,g7,g8,g9,g10,g11,g12,g13,g14⟩:=h9
           have h6:=(any_odd (l:=ZZ)).2 g13
           have hq:(ZZ.any fun a=>decide (¬(0≤a∧a≤999)))=true:=by first|assumption|(have h9:(!(ZZ.any fun a=>decide (¬(0≤a∧a≤999))))=false:=(by assumption);simpa using h9)
           exact Bool.noConfusion (h6.symm.trans hq)
       ·replace hc9:=dF hc9
        iterate 3 refine ZY ?_
        refine ZM ?_
        iterate 2 refine ZA ?_
        refine XP ?_;refine ZA ?_
        refine Yw 54 rfl (fun hc15=>?_) (fun hc15=>?_)
        ·replace hc15:=nT hc15
         refine Zk F.foff44_6 ?_;refine Zk F.foff25_0 ?_;refine ZH F.lay3 ?_;refine X_fs rfl rfl F.ok77 rfl (lodd_ok _ _) rfl ?_
         rintro _ rfl
         iterate 2 refine ZM ?_
         refine ZD ?_;refine Zw (Zp (Y_pk [44,2,1] ?_))
         refine YC rfl (fun hc16=>?_) (fun hc16=>?_)
         ·replace hc16:=dT hc16
          refine ZJ (Zm (l:=[0]) rfl ?_);refine ZD ?_;refine Zw (Zp (Y_pk [2,1] ?_));refine Yq (XA (YS ?_))
          refine Yg (.inr rfl) (.tmp rfl .nil) (fun w hw=>?_)
          refine ⟨_,rfl,(hw.c),?_⟩
          clear hw
          show _=Value.bool (decide ((1≤YD∧YD≤8)∧Xf Yb∧ZZ.length≤16∧ZT.length≤8∧((⟨ZS,Yo⟩:ZI)=Xi∨Xf ZS)∧¬((⟨ZS,Yo⟩:ZI)=Xi∧YD=2)∧(VK YD∨Xr=0)∧(YD=1∨l_id=0)∧(YD=1∨ZZ=[])∧(YD=2∨Xh=false)∧(Vq YD∨(⟨ZS,Yo⟩:ZI)=Xi)∧(WR YD∨ZT=[])∧(∀ a∈ZZ,Xf a)∧∀ p∈ZT,Xf p.addr))
          refine congrArg Value.bool ?_
          refine (decide_eq_false (fun h9=>?_)).symm
          obtain ⟨g1,g2,g3,g4,g5,g6,g7,g8,g9,g10,g11,g12,g13,g14⟩:=h9
          (rcases g5 with g5|⟨g51,g52⟩ <;> first|contradiction|omega|(simp_all [Xi];done))
         ·replace hc16:=dF hc16
          simp only [Classical.not_not] at hc16
          refine YE (XS (Zp (Y_pk [2,1] ?_)));refine ZJ (Zm (l:=[0,1,2,3,4,5,6,7,8,9,10]) rfl ?_);refine Zk F.foff44_4 ?_;refine ZH F.lay30 ?_;refine X_fo rfl rfl F.ok71 rfl ((ContainsFI_rd M [] ⟨YH,YG,ZZ⟩ 77 [] (fun a=>decide (¬(0≤a∧a≤999))) (s_l_avoid.rd []) m_l_avoid F.ok77 (fun x hx=>(lodd_ok M x).foE []))) (by repeat first|exact Rem.here _|exact Rem.two|apply Rem.skip|apply Rem.over) (YN rfl) ?_
          rintro _ M1 _ ⟨hM1,rfl⟩;subst M1
          refine XP ?_;refine ZA ?_
          refine Yw 65 rfl (fun hc17=>?_) (fun hc17=>?_)
          ·skip
           simp only [ZI.eta,ZN.eta,ZK.eta,ZO.eta,Ys.eta,ZQ.eta,YO.eta,ZU.eta] at hc17
           refine Zk F.foff44_7 ?_;refine ZH F.lay26 ?_;refine X_fo rfl rfl F.ok78 rfl ((ContainsFP_rd M [] ⟨YF,YB,ZT⟩ 79 [] (fun p=>decide (¬Xf p.addr)) (Wp.rd []) m_l_peers F.ok79 (fun x hx=>(loddP_ok M x).foE []))) (by repeat first|exact Rem.here _|exact Rem.two|apply Rem.skip|apply Rem.over) (YN rfl) ?_
           rintro _ M1 _ ⟨hM1,rfl⟩;subst M1
           refine XP ?_;refine ZM ?_;refine ZD ?_;refine Zw (Zp (Y_pk [2] ?_));refine Yq ?_
           refine Yg (.inr rfl) (.tmp rfl .nil) (fun w hw=>?_)
           refine ⟨_,rfl,(hw.c),?_⟩
           clear hw
           have hp8:(Vl YD).2=true:=by first|assumption|(have h9:(!(Vl YD).2)=false:=(by assumption);simpa using h9)
           have hp9:=parts_yes.1 hp8
           have hu9:=(used_parts hp8 _ _ _ _ _ _).1 (show notK (Us (UE (!decide (Xr=0)) (!decide (l_id=0)) (decide (0<(ZZ.length:Int))) Xh (!decide ((⟨ZS,Yo⟩:ZI)=Xi)) (decide (0<(ZT.length:Int))))) (Vl YD).1=0 by assumption)
           simp only [decide_eq_false_iff_not,Bool.not_eq_false',decide_eq_true_eq] at hu9
           obtain ⟨u1,u2,u3,u4,u5,u6⟩:=hu9
           have u3:YD=1∨ZZ=[]:=u3.imp id (fun h=>List.eq_nil_of_length_eq_zero (by omega))
           have u6:WR YD∨ZT=[]:=u6.imp id (fun h=>List.eq_nil_of_length_eq_zero (by omega))
           show _=Value.bool (decide ((1≤YD∧YD≤8)∧Xf Yb∧ZZ.length≤16∧ZT.length≤8∧((⟨ZS,Yo⟩:ZI)=Xi∨Xf ZS)∧¬((⟨ZS,Yo⟩:ZI)=Xi∧YD=2)∧(VK YD∨Xr=0)∧(YD=1∨l_id=0)∧(YD=1∨ZZ=[])∧(YD=2∨Xh=false)∧(Vq YD∨(⟨ZS,Yo⟩:ZI)=Xi)∧(WR YD∨ZT=[])∧(∀ a∈ZZ,Xf a)∧∀ p∈ZT,Xf p.addr))
           refine congrArg Value.bool ?_
           have h6:=any_odd (l:=ZZ)
           have h7:=any_oddP (l:=ZT)
           have hA:(ZZ.any fun a=>decide (¬(0≤a∧a≤999)))=false:=by first|assumption|(simp_all;done)
           obtain ⟨C,hC⟩:∃ b,(ZT.any fun p=>decide (¬Xf p.addr))=b:=⟨_,rfl⟩
           rw [hC] at h7 ⊢
           have hpe:(⟨ZS,Yo⟩:ZI)=Xi∨Xf ZS:=by first|exact .inl (by assumption)|exact .inr ⟨by omega,by omega⟩|(simp_all;done)
           have hf2:¬((⟨ZS,Yo⟩:ZI)=Xi∧YD=2):=by first|(rintro ⟨q1,q2⟩;first|contradiction|omega|(simp_all;done))
           cases C
           ·exact (decide_eq_true ⟨hp9,⟨by omega,by omega⟩,by omega,by omega,hpe,hf2,u1,u2,u3,u4,u5,u6,h6.1 hA,h7.1 rfl⟩).symm
           ·exact (decide_eq_false (fun h9=>by have h8:=h7.2 h9.2.2.2.2.2.2.2.2.2.2.2.2.2;cases h8)).symm
          ·skip
           simp only [ZI.eta,ZN.eta,ZK.eta,ZO.eta,Ys.eta,ZQ.eta,YO.eta,ZU.eta] at hc17
           iterate 4 refine ZY ?_
           refine ZM ?_;refine ZD ?_;refine Zw (Zp (Y_pk [2] ?_));refine Yq ?_
           refine Yg (.inr rfl) (.tmp rfl .nil) (fun w hw=>?_)
           refine ⟨_,rfl,(hw.c),?_⟩
           clear hw
           show _=Value.bool (decide ((1≤YD∧YD≤8)∧Xf Yb∧ZZ.length≤16∧ZT.length≤8∧((⟨ZS,Yo⟩:ZI)=Xi∨Xf ZS)∧¬((⟨ZS,Yo⟩:ZI)=Xi∧YD=2)∧(VK YD∨Xr=0)∧(YD=1∨l_id=0)∧(YD=1∨ZZ=[])∧(YD=2∨Xh=false)∧(Vq YD∨(⟨ZS,Yo⟩:ZI)=Xi)∧(WR YD∨ZT=[])∧(∀ a∈ZZ,Xf a)∧∀ p∈ZT,Xf p.addr))
           refine congrArg Value.bool ?_
           refine (decide_eq_false (fun h9=>?_)).symm
           obtain ⟨g1,g2,g3,g4,g5,g6,g7,g8,g9,g10,g11,g12,g13,g14⟩:=h9
           have h6:=(any_odd (l:=ZZ)).2 g13
           have hq:(ZZ.any fun a=>decide (¬(0≤a∧a≤999)))=true:=by first|assumption|(have h9:(!(ZZ.any fun a=>decide (¬(0≤a∧a≤999))))=false:=(by assumption);simpa using h9)
           exact Bool.noConfusion (h6.symm.trans hq)
        ·replace hc15:=nF hc15
         contradiction
end Go.Proofs.YtajmnjefajknoaaGreat
namespace Go.Proofs.YtajmnjefajknoaaGreat
open Go.Esp
end Go.Proofs.YtajmnjefajknoaaGreat
namespace Go.Proofs.YtajmnjefajknoaaGreat
open Go.Esp
theorem F.elem35:slOf Tryz.prog 35=some (49,68,168):=by kernel_rfl
theorem F.foff32_11:foff Tryz.prog 32 11=some 54:=by kernel_rfl
theorem F.foff32_12:foff Tryz.prog 32 12=some 55:=by kernel_rfl
theorem F.foff32_5:foff Tryz.prog 32 5=some 48:=by kernel_rfl
theorem F.foff32_7:foff Tryz.prog 32 7=some 50:=by kernel_rfl
theorem F.foff32_9:foff Tryz.prog 32 9=some 52:=by kernel_rfl
theorem F.foff49_0:foff Tryz.prog 49 0=some 0:=by kernel_rfl
theorem F.foff49_1:foff Tryz.prog 49 1=some 1:=by kernel_rfl
theorem F.ok31:okFn Tryz.prog 31=true:=by kernel_rfl
theorem F.ok42:okFn Tryz.prog 42=true:=by kernel_rfl
theorem F.ok43:okFn Tryz.prog 43=true:=by kernel_rfl
theorem F.ok44:okFn Tryz.prog 44=true:=by kernel_rfl
theorem map_ext9 {α β:Type} {f:α→β} {a b:List α} (hl:a.length=b.length) (h:∀ j (h2:j<a.length) (h3:j<b.length),f a[j]=f b[j]):a.map f=b.map f :=
  List.ext_getElem (by simp [hl]) fun j h2 h3=>by simpa using h j (by simpa using h2) (by simpa using h3)
theorem map_at9 {α β:Type} {f:α→β} {a b:List α} (h:a.map f=b.map f) {j:Nat} (h2:j<a.length) (h3:j<b.length):f a[j]=f b[j]:=by
  have e1:(a.map f)[j]?=some (f a[j]):=by simp [h2]
  have e2:(b.map f)[j]?=some (f b[j]):=by simp [h3]
  rw [h,e2] at e1;exact (Option.some.inj e1).symm
theorem map_len9 {α β:Type} {f:α→β} {a b:List α} (h:a.map f=b.map f):a.length=b.length:=by have:=congrArg List.length h;simpa using this
theorem snd_mk9 {x y:Ys} (h1:x.to=y.to) (h2:x.letter.lt=y.letter.lt):Ys.snd x=Ys.snd y:=by unfold Ys.snd;rw [h1,h2]
theorem Ints_ok (M:Mem) (a:(Sl Int)) (b:(Sl Int)) (ha0:SlK M (oneI .i64) 1 a) (hb1:SlK M (oneI .i64) 1 b):Fs Tryz.prog 43 [Sl.val a,Sl.val b] M (fun v=>v=Value.bool (decide (a.l.map (id:Int→Int)=b.l.map (id:Int→Int)))):=by
  obtain ⟨a_a,a_c,a_l⟩:=a
  obtain ⟨b_a,b_c,b_l⟩:=b
  have k_a:SlK M (oneI .i64) 1 ⟨a_a,a_c,a_l⟩:=ha0
  have s_a:SlM M a_a (a_l.map (oneI .i64)) 1:=k_a.h1
  have n_a:(a_l.map (oneI .i64)).length=a_l.length:=List.length_map ..
  have m_a:a_l.length≤9223372036854775807:=k_a.h2
  have c_a:a_l.length≤a_c:=k_a.h3
  have k_b:SlK M (oneI .i64) 1 ⟨b_a,b_c,b_l⟩:=hb1
  have s_b:SlM M b_a (b_l.map (oneI .i64)) 1:=k_b.h1
  have n_b:(b_l.map (oneI .i64)).length=b_l.length:=List.length_map ..
  have m_b:b_l.length≤9223372036854775807:=k_b.h2
  have c_b:b_l.length≤b_c:=k_b.h3
  refine XB Tryz.func43 rfl Tryz.ntmps43 rfl ?_;intro H
  refine ZJ (Zm (l:=[0]) rfl ?_);refine ZD ?_;refine Zw (Zp ?_)
  iterate 2 refine ZJ ?_
  refine Zm (l:=[0,1,2,3,4]) rfl ?_;refine ZA ?_;refine YW F.elem30 ?_;refine ZA ?_;refine YW F.elem30 ?_;refine YJ ?_;refine Zw (Zp (Y_pk [10,4,0,1] ?_))
  refine YC rfl (fun hc1=>?_) (fun hc1=>?_)
  ·replace hc1:=nT hc1
   refine ZJ (Zm (l:=[0]) rfl ?_);refine ZD ?_;refine Zw (Zp (Y_pk [4,0,1] ?_));refine Yq (YS ?_)
   refine Yg (.inr rfl) (.tmp rfl .nil) (fun w hw=>?_)
   refine ⟨_,rfl,(hw.c),?_⟩
   clear hw
   show _=Value.bool (decide (a_l.map (id:Int→Int)=b_l.map (id:Int→Int)))
   exact congrArg Value.bool (decide_eq_false (fun h9=>by have h8:=map_len9 h9;omega)).symm
  ·replace hc1:=nF hc1
   refine YE (Zp (Y_pk [4,0,1] ?_))
   iterate 2 refine ZJ ?_
   refine Zm (l:=[0]) rfl ?_;refine ZD ?_;refine Zw (Zp (Xd (Y_pk [5,4,0,1] ?_)));refine WT (.succ .zero) (fun (k:Nat) z=>z=[(5,.int .i64 (k:Int))]∧k≤a_l.length∧(∀ j (h2:j<a_l.length) (h3:j<b_l.length),j<k→(id:Int→Int) a_l[j]=(id:Int→Int) b_l[j])) (fun k=>a_l.length-k) (0) (⟨rfl,by omega,by (intro j h2 h3 hj;omega)⟩) ?_
   rintro k _ ⟨rfl,hk,hI⟩
   iterate 2 refine ZJ ?_
   refine Zm (l:=[0,1,2,3]) rfl ?_
   iterate 2 refine ZA ?_
   refine YW F.elem30 ?_;refine YJ ?_;refine Zw (Zp ?_)
   refine YC rfl (fun hc2=>?_) (fun hc2=>?_)
   ·replace hc2:=dT hc2
    refine YE (Zp (ZJ (Xd (ZJ (YL (l:=[0,1,2,3,4,5,6,7,8]) #[0,0,3,7,0,0,48,112,255] _ rfl (by kernel_rfl) (by kernel_rfl) St.drawn (fun _ h=>h) ?_)))))
    iterate 2 refine ZA ?_
    refine YM rfl rfl rfl rfl F.elem30 (by rfl) (by omega) (by exact SlM.plain (by assumption) (by (simp;omega))) rfl ?_;refine Xs rfl rfl rfl (by assumption) (by exact XQ (by omega)) F.lay3 rfl rfl rfl ?_
    iterate 2 refine ZA ?_
    refine YM rfl rfl rfl rfl F.elem30 (by rfl) (by omega) (by exact SlM.plain (by assumption) (by (simp;omega))) rfl ?_;refine Xs rfl rfl rfl (by assumption) (by exact XQ (by omega)) F.lay3 rfl rfl rfl ?_;refine YJ ?_;refine Zw (Zp ?_)
    refine YC rfl (fun hc3=>?_) (fun hc3=>?_)
    ·replace hc3:=nT hc3
     refine ZJ (Zm (l:=[0]) rfl ?_);refine ZD ?_;refine Zw (Zp (Yq (XA ?_)))
     iterate 2 refine YS ?_
     refine XA (YS ?_)
     refine Yg (.inr rfl) (.tmp rfl .nil) (fun w hw=>?_)
     refine ⟨_,rfl,(hw.c),?_⟩
     clear hw
     show _=Value.bool (decide (a_l.map (id:Int→Int)=b_l.map (id:Int→Int)))
     refine congrArg Value.bool (decide_eq_false (fun h9=>?_)).symm
     have h8:=map_at9 h9 (j:=k) (by omega) (by omega)
     replace h8:a_l[k]=b_l[k]:=h8
     contradiction
    ·replace hc3:=nF hc3
     refine YE (XS (Zp (Zm (l:=[0,1,2]) rfl ?_)));refine ZA ?_;refine Xz rfl rfl rfl rfl rfl (by exact Xg (by decide) (by omega)) rfl ?_;refine ZD ?_;refine Zw ?_;refine WQ (a':=[(5,_)]) (k+1) (.cons (k:=5) rfl (.cons (k:=4) rfl (.cons (k:=0) rfl (.cons (k:=1) rfl (.nil))))) (fun w hw=>by first|exact hw|exact hw.c) ?_ ?_
     ·refine ⟨rfl,by omega,?_⟩
      (intro j h2 h3 hj;rcases Nat.lt_or_ge j k with h9|h9;exact hI j h2 h3 h9;have hjk:j=k:=(by omega);subst hjk;first|assumption|exact snd_mk9 (by assumption) (by assumption)|(show id _=id _;unfold id;omega)|(simp_all;done))
     ·omega
   ·replace hc2:=dF hc2
    refine XO ?_
    iterate 2 refine XJ ?_
    refine XZ (Zp (Y_pk [4] ?_));refine ZJ (Zm (l:=[0]) rfl ?_);refine ZD ?_;refine Zw (Zp (Yq ?_))
    refine Yg (.inr rfl) (.tmp rfl .nil) (fun w hw=>?_)
    refine ⟨_,rfl,(hw.c),?_⟩
    clear hw
    show _=Value.bool (decide (a_l.map (id:Int→Int)=b_l.map (id:Int→Int)))
    exact congrArg Value.bool (decide_eq_true (map_ext9 (by omega) (fun j h2 h3=>hI j h2 h3 (by omega)))).symm
theorem SameL_ok (M:Mem) (a:ZO) (b:ZO) (ha0:ZO.ok M a) (hb1:ZO.ok M b):Fs Tryz.prog 44 [a.enc,b.enc] M (fun v=>v=Value.bool (decide (a.lt=b.lt))):=by
  obtain ⟨a_kind,⟨a_frm_addr,a_frm_id⟩,a_req,a_id,⟨a_avoid_a,a_avoid_c,WP⟩,a_done,⟨a_peer_addr,a_peer_id⟩,⟨a_peers_a,a_peers_c,a_peers_l⟩⟩:=a
  obtain ⟨b_kind,⟨b_frm_addr,b_frm_id⟩,b_req,b_id,⟨b_avoid_a,b_avoid_c,WO⟩,b_done,⟨b_peer_addr,b_peer_id⟩,⟨b_peers_a,b_peers_c,b_peers_l⟩⟩:=b
  have k_a_avoid:SlK M (oneI .i64) 1 ⟨a_avoid_a,a_avoid_c,WP⟩:=ha0.h0
  have s_a_avoid:SlM M a_avoid_a (WP.map (oneI .i64)) 1:=k_a_avoid.h1
  have n_a_avoid:(WP.map (oneI .i64)).length=WP.length:=List.length_map ..
  have m_a_avoid:WP.length≤9223372036854775807:=k_a_avoid.h2
  have c_a_avoid:WP.length≤a_avoid_c:=k_a_avoid.h3
  have k_a_peers:SlK M ZI.segs 21 ⟨a_peers_a,a_peers_c,a_peers_l⟩:=ha0.h1
  have s_a_peers:SlM M a_peers_a (a_peers_l.map ZI.segs) 21:=k_a_peers.h1
  have n_a_peers:(a_peers_l.map ZI.segs).length=a_peers_l.length:=List.length_map ..
  have m_a_peers:a_peers_l.length≤9223372036854775807:=k_a_peers.h2
  have c_a_peers:a_peers_l.length≤a_peers_c:=k_a_peers.h3
  have k_b_avoid:SlK M (oneI .i64) 1 ⟨b_avoid_a,b_avoid_c,WO⟩:=hb1.h0
  have s_b_avoid:SlM M b_avoid_a (WO.map (oneI .i64)) 1:=k_b_avoid.h1
  have n_b_avoid:(WO.map (oneI .i64)).length=WO.length:=List.length_map ..
  have m_b_avoid:WO.length≤9223372036854775807:=k_b_avoid.h2
  have c_b_avoid:WO.length≤b_avoid_c:=k_b_avoid.h3
  have k_b_peers:SlK M ZI.segs 21 ⟨b_peers_a,b_peers_c,b_peers_l⟩:=hb1.h1
  have s_b_peers:SlM M b_peers_a (b_peers_l.map ZI.segs) 21:=k_b_peers.h1
  have n_b_peers:(b_peers_l.map ZI.segs).length=b_peers_l.length:=List.length_map ..
  have m_b_peers:b_peers_l.length≤9223372036854775807:=k_b_peers.h2
  have c_b_peers:b_peers_l.length≤b_peers_c:=k_b_peers.h3
  refine XB Tryz.func44 rfl Tryz.ntmps44 rfl ?_;intro H
  refine ZJ (Zm (l:=[0,1,2]) rfl ?_)
  refine Xv ?_;intro b1
  refine Xv ?_;intro b2
  refine ZD ?_;refine Zw (Zp (Y_pk [4,3,2] ?_));refine ZJ (Zm (l:=[0,1,2,3,4,5,6,7,8,9,10,11,12,13,14,15,16,17,18,19,20,21,22,23,24,25,26,27,28,29,30,31,32,33,34,35,36,37,38,39,40,41,42,43,44,45,46,47,48,49,50,51,52,53,54]) rfl ?_);refine Zk F.foff44_0 ?_;refine ZH F.lay3 ?_;refine Zk F.foff44_0 ?_;refine ZH F.lay3 ?_;refine YJ ?_;refine ZA ?_
  refine Yw 10 rfl (fun hc3=>?_) (fun hc3=>?_)
  ·replace hc3:=dT hc3
   refine Zk F.foff44_1 ?_;refine ZH F.lay25 ?_;refine Zk F.foff44_1 ?_;refine ZH F.lay25 ?_
   refine WI (m:=20) rfl rfl rfl rfl rfl (by constructor) (by constructor) F.lay25 F.kinds25 rfl F.guard25 (by exact XR (⟨_,_⟩)) (by exact XR (⟨_,_⟩)) rfl rfl rfl ?_;intro c4 he5
   replace he5:c4=true↔Segs.cells _=Segs.cells _:=he5
   obtain rfl:=eqD he5 (ZI.inj (x:=⟨_,_⟩) (y:=⟨_,_⟩));clear he5
   refine ZM ?_;refine ZA ?_
   refine Yw 17 rfl (fun hc6=>?_) (fun hc6=>?_)
   ·replace hc6:=dT hc6
    refine Zk F.foff44_2 ?_;refine ZH F.lay29 ?_;refine Zk F.foff44_2 ?_;refine ZH F.lay29 ?_;refine YJ ?_;refine ZM ?_;refine ZA ?_
    refine Yw 24 rfl (fun hc7=>?_) (fun hc7=>?_)
    ·replace hc7:=dT hc7
     refine Zk F.foff44_3 ?_;refine ZH F.lay23 ?_;refine Zk F.foff44_3 ?_;refine ZH F.lay23 ?_
     refine WI (m:=20) rfl rfl rfl rfl rfl (by constructor) (by constructor) F.lay23 F.kinds23 rfl F.guard23 (Vc WJ) (Vc WJ) rfl rfl rfl ?_;intro c8 he9
     replace he9:c8=true↔Segs.cells _=Segs.cells _:=he9
     obtain rfl:=eqD he9 (Vn (x:=_) (y:=_));clear he9
     refine ZM ?_;refine ZA ?_
     refine Yw 31 rfl (fun hc10=>?_) (fun hc10=>?_)
     ·replace hc10:=dT hc10
      refine Zk F.foff44_4 ?_;refine ZH F.lay30 ?_;refine Zk F.foff44_4 ?_;refine ZH F.lay30 ?_;refine X_fs rfl rfl F.ok43 rfl (Ints_ok _ ⟨a_avoid_a,a_avoid_c,WP⟩ ⟨b_avoid_a,b_avoid_c,WO⟩ k_a_avoid k_b_avoid) rfl ?_
      rintro _ rfl
      refine ZM ?_;refine ZA ?_
      refine Yw 38 rfl (fun hc11=>?_) (fun hc11=>?_)
      ·replace hc11:=dT hc11
       simp only [ZI.eta,ZN.eta,ZK.eta,ZO.eta,Ys.eta,ZQ.eta,YO.eta,ZU.eta] at hc11
       refine Zk F.foff44_5 ?_;refine ZH F.lay4 ?_;refine Zk F.foff44_5 ?_;refine ZH F.lay4 ?_;refine X_eqb rfl rfl rfl rfl rfl Tryz.underlying4 rfl ?_;refine ZM ?_;refine ZA ?_
       refine Yw 45 rfl (fun hc12=>?_) (fun hc12=>?_)
       ·replace hc12:=dT hc12
        refine Zk F.foff44_6 ?_;refine ZH F.lay25 ?_;refine Zk F.foff44_6 ?_;refine ZH F.lay25 ?_
        refine WI (m:=20) rfl rfl rfl rfl rfl (by constructor) (by constructor) F.lay25 F.kinds25 rfl F.guard25 (by exact XR (⟨_,_⟩)) (by exact XR (⟨_,_⟩)) rfl rfl rfl ?_;intro c13 he14
        replace he14:c13=true↔Segs.cells _=Segs.cells _:=he14
        obtain rfl:=eqD he14 (ZI.inj (x:=⟨_,_⟩) (y:=⟨_,_⟩));clear he14
        refine ZM ?_;refine ZA ?_
        refine Yw 52 rfl (fun hc15=>?_) (fun hc15=>?_)
        ·replace hc15:=dT hc15
         refine Zk F.foff44_7 ?_;refine ZH F.lay26 ?_;refine Zk F.foff44_7 ?_;refine ZH F.lay26 ?_;refine X_fs rfl rfl F.ok20 rfl (SameP_ok _ ⟨a_peers_a,a_peers_c,a_peers_l⟩ ⟨b_peers_a,b_peers_c,b_peers_l⟩ k_a_peers k_b_peers) rfl ?_
         rintro _ rfl
         refine ZM ?_;refine ZD ?_;refine Zw (Zp (Y_pk [4] ?_));refine Yq ?_
         refine Yg (.inr rfl) (.tmp rfl .nil) (fun w hw=>?_)
         refine ⟨_,rfl,(hw.c),?_⟩
         clear hw
         try simp only [List.map_id] at *
         refine congrArg Value.bool ?_
         exact decide_eq_decide.2 ⟨fun h9=>by simp_all [ZO.lt],fun h9=>by simp only [Lt.mk.injEq,ZO.lt] at h9;simp_all⟩
        ·replace hc15:=dF hc15
         iterate 5 refine ZY ?_
         refine ZM ?_;refine ZD ?_;refine Zw (Zp (Y_pk [4] ?_));refine Yq ?_
         refine Yg (.inr rfl) (.tmp rfl .nil) (fun w hw=>?_)
         refine ⟨_,rfl,(hw.c),?_⟩
         clear hw
         try simp only [List.map_id] at *
         refine congrArg Value.bool ?_
         exact (decide_eq_false (fun h9=>by simp only [Lt.mk.injEq,ZO.lt] at h9;simp_all)).symm
       ·replace hc12:=dF hc12
        iterate 5 refine ZY ?_
        refine ZM ?_;refine ZA ?_
        iterate 5 refine ZY ?_
        refine ZM ?_;refine ZD ?_;refine Zw (Zp (Y_pk [4] ?_));refine Yq ?_
        refine Yg (.inr rfl) (.tmp rfl .nil) (fun w hw=>?_)
        refine ⟨_,rfl,(hw.c),?_⟩
        clear hw
        try simp only [List.map_id] at *
        refine congrArg Value.bool ?_
        exact (decide_eq_false (fun h9=>by simp only [Lt.mk.injEq,ZO.lt] at h9;simp_all)).symm
      ·replace hc11:=dF hc11
       simp only [ZI.eta,ZN.eta,ZK.eta,ZO.eta,Ys.eta,ZQ.eta,YO.eta,ZU.eta] at hc11
       iterate 5 refine ZY ?_
       refine ZM ?_;refine ZA ?_
       iterate 5 refine ZY ?_
       refine ZM ?_;refine ZA ?_
       iterate 5 refine ZY ?_
       refine ZM ?_;refine ZD ?_;refine Zw (Zp (Y_pk [4] ?_));refine Yq ?_
       refine Yg (.inr rfl) (.tmp rfl .nil) (fun w hw=>?_)
       refine ⟨_,rfl,(hw.c),?_⟩
       clear hw
       try simp only [List.map_id] at *
       refine congrArg Value.bool ?_
       exact (decide_eq_false (fun h9=>by simp only [Lt.mk.injEq,ZO.lt] at h9;simp_all)).symm
     ·replace hc10:=dF hc10
      iterate 5 refine ZY ?_
      refine ZM ?_;refine ZA ?_
      iterate 5 refine ZY ?_
      refine ZM ?_;refine ZA ?_
      iterate 5 refine ZY ?_
      refine ZM ?_;refine ZA ?_
      iterate 5 refine ZY ?_
      refine ZM ?_;refine ZD ?_;refine Zw (Zp (Y_pk [4] ?_));refine Yq ?_
      refine Yg (.inr rfl) (.tmp rfl .nil) (fun w hw=>?_)
      refine ⟨_,rfl,(hw.c),?_⟩
      clear hw
      try simp only [List.map_id] at *
      refine congrArg Value.bool ?_
      exact (decide_eq_false (fun h9=>by simp only [Lt.mk.injEq,ZO.lt] at h9;simp_all)).symm
    ·replace hc7:=dF hc7
     iterate 5 refine ZY ?_
     refine ZM ?_;refine ZA ?_
     iterate 5 refine ZY ?_
     refine ZM ?_;refine ZA ?_
     iterate 5 refine ZY ?_
     refine ZM ?_;refine ZA ?_
     iterate 5 refine ZY ?_
     refine ZM ?_;refine ZA ?_
     iterate 5 refine ZY ?_
     refine ZM ?_;refine ZD ?_;refine Zw (Zp (Y_pk [4] ?_));refine Yq ?_
     refine Yg (.inr rfl) (.tmp rfl .nil) (fun w hw=>?_)
     refine ⟨_,rfl,(hw.c),?_⟩
     clear hw
     try simp only [List.map_id] at *
     refine congrArg Value.bool ?_
     exact (decide_eq_false (fun h9=>by simp only [Lt.mk.injEq,ZO.lt] at h9;simp_all)).symm
   ·replace hc6:=dF hc6
    iterate 5 refine ZY ?_
    refine ZM ?_;refine ZA ?_
    iterate 5 refine ZY ?_
    refine ZM ?_;refine ZA ?_
    iterate 5 refine ZY ?_
    refine ZM ?_;refine ZA ?_
    iterate 5 refine ZY ?_
    refine ZM ?_;refine ZA ?_
    iterate 5 refine ZY ?_
    refine ZM ?_;refine ZA ?_
    iterate 5 refine ZY ?_
    refine ZM ?_;refine ZD ?_;refine Zw (Zp (Y_pk [4] ?_));refine Yq ?_
    refine Yg (.inr rfl) (.tmp rfl .nil) (fun w hw=>?_)
    refine ⟨_,rfl,(hw.c),?_⟩
    clear hw
    try simp only [List.map_id] at *
    refine congrArg Value.bool ?_
    exact (decide_eq_false (fun h9=>by simp only [Lt.mk.injEq,ZO.lt] at h9;simp_all)).symm
  ·replace hc3:=dF hc3
   iterate 5 refine ZY ?_
   refine ZM ?_;refine ZA ?_
   iterate 5 refine ZY ?_
   refine ZM ?_;refine ZA ?_
   iterate 5 refine ZY ?_
   refine ZM ?_;refine ZA ?_
   iterate 5 refine ZY ?_
   refine ZM ?_;refine ZA ?_
   iterate 5 refine ZY ?_
   refine ZM ?_;refine ZA ?_
   iterate 5 refine ZY ?_
   refine ZM ?_;refine ZA ?_
   iterate 5 refine ZY ?_
   refine ZM ?_;refine ZD ?_;refine Zw (Zp (Y_pk [4] ?_));refine Yq ?_
   refine Yg (.inr rfl) (.tmp rfl .nil) (fun w hw=>?_)
   refine ⟨_,rfl,(hw.c),?_⟩
   clear hw
   try simp only [List.map_id] at *
   refine congrArg Value.bool ?_
   exact (decide_eq_false (fun h9=>by simp only [Lt.mk.injEq,ZO.lt] at h9;simp_all)).symm
theorem Sends_ok (M:Mem) (a:(Sl Ys)) (b:(Sl Ys)) (ha0:SlK M Ys.segs 68 a) (ha1:∀ y∈(a).l,Ys.ok M y) (hb2:SlK M Ys.segs 68 b) (hb3:∀ y∈(b).l,Ys.ok M y):Fs Tryz.prog 15 [Sl.val a,Sl.val b] M (fun v=>v=Value.bool (decide (a.l.map Ys.snd=b.l.map Ys.snd))):=by
  obtain ⟨a_a,a_c,a_l⟩:=a
  obtain ⟨b_a,b_c,b_l⟩:=b
  have k_a:SlK M Ys.segs 68 ⟨a_a,a_c,a_l⟩:=ha0
  have s_a:SlM M a_a (a_l.map Ys.segs) 68:=k_a.h1
  have n_a:(a_l.map Ys.segs).length=a_l.length:=List.length_map ..
  have m_a:a_l.length≤9223372036854775807:=k_a.h2
  have c_a:a_l.length≤a_c:=k_a.h3
  have l_a:∀ y∈a_l,Ys.ok M y:=ha1
  have k_b:SlK M Ys.segs 68 ⟨b_a,b_c,b_l⟩:=hb2
  have s_b:SlM M b_a (b_l.map Ys.segs) 68:=k_b.h1
  have n_b:(b_l.map Ys.segs).length=b_l.length:=List.length_map ..
  have m_b:b_l.length≤9223372036854775807:=k_b.h2
  have c_b:b_l.length≤b_c:=k_b.h3
  have l_b:∀ y∈b_l,Ys.ok M y:=hb3
  refine XB Tryz.func15 rfl Tryz.ntmps15 rfl ?_;intro H
  refine ZJ (Zm (l:=[0]) rfl ?_);refine ZD ?_;refine Zw (Zp ?_)
  iterate 2 refine ZJ ?_
  refine Zm (l:=[0,1,2,3,4]) rfl ?_;refine ZA ?_;refine YW F.elem35 ?_;refine ZA ?_;refine YW F.elem35 ?_;refine YJ ?_;refine Zw (Zp (Y_pk [10,4,0,1] ?_))
  refine YC rfl (fun hc1=>?_) (fun hc1=>?_)
  ·replace hc1:=nT hc1
   refine ZJ (Zm (l:=[0]) rfl ?_);refine ZD ?_;refine Zw (Zp (Y_pk [4,0,1] ?_));refine Yq (YS ?_)
   refine Yg (.inr rfl) (.tmp rfl .nil) (fun w hw=>?_)
   refine ⟨_,rfl,(hw.c),?_⟩
   clear hw
   show _=Value.bool (decide (a_l.map Ys.snd=b_l.map Ys.snd))
   exact congrArg Value.bool (decide_eq_false (fun h9=>by have h8:=map_len9 h9;omega)).symm
  ·replace hc1:=nF hc1
   refine YE (Zp (Y_pk [4,0,1] ?_))
   iterate 2 refine ZJ ?_
   refine Zm (l:=[0]) rfl ?_;refine ZD ?_;refine Zw (Zp (Xd (Y_pk [5,4,0,1] ?_)));refine WT (.succ .zero) (fun (k:Nat) z=>z=[(5,.int .i64 (k:Int))]∧k≤a_l.length∧(∀ j (h2:j<a_l.length) (h3:j<b_l.length),j<k→Ys.snd a_l[j]=Ys.snd b_l[j])) (fun k=>a_l.length-k) (0) (⟨rfl,by omega,by (intro j h2 h3 hj;omega)⟩) ?_
   rintro k _ ⟨rfl,hk,hI⟩
   iterate 2 refine ZJ ?_
   refine Zm (l:=[0,1,2,3]) rfl ?_
   iterate 2 refine ZA ?_
   refine YW F.elem35 ?_;refine YJ ?_;refine Zw (Zp ?_)
   refine YC rfl (fun hc2=>?_) (fun hc2=>?_)
   ·replace hc2:=dT hc2
    refine YE (Zp (ZJ (Xd (ZJ (YL (l:=[0,1,2,3,4,5,6,7,8,9,10,11,12,13,14,15,16,17,18,19,20,21,22,23,24]) #[0,0,3,7,15,0,0,96,224,480,1023,2047,4095,4095,16383,32767,65535,4095,4095,397311,921599,1970175,4194303,8388607,16777215] _ rfl (by kernel_rfl) (by kernel_rfl) St.drawn (fun _ h=>h) ?_)))))
    iterate 2 refine ZA ?_
    refine YM rfl rfl rfl rfl F.elem35 (by rfl) (by omega) (by exact SlM.plain (by assumption) (by (simp;omega))) rfl ?_;refine Xt rfl rfl rfl (by exact SlM.plain (by assumption) (by (simp;omega))) F.foff49_0 rfl ?_;refine Xs rfl rfl rfl (by assumption) (by exact XQ (by omega)) F.lay3 rfl rfl rfl ?_
    iterate 2 refine ZA ?_
    refine YM rfl rfl rfl rfl F.elem35 (by rfl) (by omega) (by exact SlM.plain (by assumption) (by (simp;omega))) rfl ?_;refine Xt rfl rfl rfl (by exact SlM.plain (by assumption) (by (simp;omega))) F.foff49_0 rfl ?_;refine Xs rfl rfl rfl (by assumption) (by exact XQ (by omega)) F.lay3 rfl rfl rfl ?_;refine YJ ?_;refine ZA ?_
    refine Yw 28 rfl (fun hc3=>?_) (fun hc3=>?_)
    ·replace hc3:=nT hc3
     simp only [List.get_eq_getElem] at hc3
     iterate 12 refine ZY ?_
     refine ZM ?_;refine Zw (Zp (Xw rfl ?_));refine ZJ (Zm (l:=[0]) rfl ?_);refine ZD ?_;refine Zw (Zp (Yq (XA ?_)))
     iterate 2 refine YS ?_
     refine XA (YS ?_)
     refine Yg (.inr rfl) (.tmp rfl .nil) (fun w hw=>?_)
     refine ⟨_,rfl,(hw.c),?_⟩
     clear hw
     show _=Value.bool (decide (a_l.map Ys.snd=b_l.map Ys.snd))
     refine congrArg Value.bool (decide_eq_false (fun h9=>?_)).symm
     have h8:=map_at9 h9 (j:=k) (by omega) (by omega)
     have h7:=congrArg Snd.to h8
     have h6:=congrArg Snd.letter h8
     simp only [Ys.snd] at h7 h6
     contradiction
    ·replace hc3:=nF hc3
     simp only [List.get_eq_getElem] at hc3
     iterate 2 refine ZA ?_
     refine YM rfl rfl rfl rfl F.elem35 (by rfl) (by omega) (by exact SlM.plain (by assumption) (by (simp;omega))) rfl ?_;refine Xt rfl rfl rfl (by exact SlM.plain (by assumption) (by (simp;omega))) F.foff49_1 rfl ?_;refine Xs rfl rfl rfl (by assumption) (by exact XQ (by omega)) F.lay44 rfl rfl rfl ?_
     iterate 2 refine ZA ?_
     refine YM rfl rfl rfl rfl F.elem35 (by rfl) (by omega) (by exact SlM.plain (by assumption) (by (simp;omega))) rfl ?_;refine Xt rfl rfl rfl (by exact SlM.plain (by assumption) (by (simp;omega))) F.foff49_1 rfl ?_;refine Xs rfl rfl rfl (by assumption) (by exact XQ (by omega)) F.lay44 rfl rfl rfl ?_;refine X_fs rfl rfl F.ok44 rfl (SameL_ok _ a_l[k].letter b_l[k].letter (l_a _ (List.getElem_mem (n:=k) (show k<a_l.length by omega))).h0 (l_b _ (List.getElem_mem (n:=k) (show k<b_l.length by omega))).h0) rfl ?_
     rintro _ rfl
     refine XP ?_;refine ZM ?_;refine Zw (Zp ?_)
     refine YC rfl (fun hc4=>?_) (fun hc4=>?_)
     ·replace hc4:=nT hc4
      refine ZJ (Zm (l:=[0]) rfl ?_);refine ZD ?_;refine Zw (Zp (Yq (XA ?_)))
      iterate 2 refine YS ?_
      refine XA (YS ?_)
      refine Yg (.inr rfl) (.tmp rfl .nil) (fun w hw=>?_)
      refine ⟨_,rfl,(hw.c),?_⟩
      clear hw
      show _=Value.bool (decide (a_l.map Ys.snd=b_l.map Ys.snd))
      refine congrArg Value.bool (decide_eq_false (fun h9=>?_)).symm
      have h8:=map_at9 h9 (j:=k) (by omega) (by omega)
      have h7:=congrArg Snd.to h8
      have h6:=congrArg Snd.letter h8
      simp only [Ys.snd] at h7 h6
      contradiction
     ·replace hc4:=nF hc4
      refine YE (XS (Zp (Zm (l:=[0,1,2]) rfl ?_)));refine ZA ?_;refine Xz rfl rfl rfl rfl rfl (by exact Xg (by decide) (by omega)) rfl ?_;refine ZD ?_;refine Zw ?_;refine WQ (a':=[(5,_)]) (k+1) (.cons (k:=5) rfl (.cons (k:=4) rfl (.cons (k:=0) rfl (.cons (k:=1) rfl (.nil))))) (fun w hw=>by first|exact hw|exact hw.c) ?_ ?_
      ·refine ⟨rfl,by omega,?_⟩
       (intro j h2 h3 hj;rcases Nat.lt_or_ge j k with h9|h9;exact hI j h2 h3 h9;have hjk:j=k:=(by omega);subst hjk;first|assumption|exact snd_mk9 (by assumption) (by assumption)|(show id _=id _;unfold id;omega)|(simp_all;done))
      ·omega
   ·replace hc2:=dF hc2
    refine XO ?_
    iterate 2 refine XJ ?_
    refine XZ (Zp (Y_pk [4] ?_));refine ZJ (Zm (l:=[0]) rfl ?_);refine ZD ?_;refine Zw (Zp (Yq ?_))
    refine Yg (.inr rfl) (.tmp rfl .nil) (fun w hw=>?_)
    refine ⟨_,rfl,(hw.c),?_⟩
    clear hw
    show _=Value.bool (decide (a_l.map Ys.snd=b_l.map Ys.snd))
    exact congrArg Value.bool (decide_eq_true (map_ext9 (by omega) (fun j h2 h3=>hI j h2 h3 (by omega)))).symm
theorem SameN_ok (M:Mem) (a:ZK) (b:ZK) (ha0:ZK.ok M a) (hb1:ZK.ok M b):Fs Tryz.prog 14 [a.enc,b.enc] M (fun v=>v=Value.bool (decide (a.nd=b.nd))):=by
  obtain ⟨⟨⟨a_table_self_addr,a_table_self_id⟩,⟨a_table_pred_addr,a_table_pred_id⟩,⟨a_table_succ_a,a_table_succ_c,WH⟩,⟨a_table_fingers_a,a_table_fingers_c,Wl⟩⟩,a_copies,a_joined,a_boot,a_cursor,a_req,a_askTo,a_askReq,a_pingTo,a_pingReq,a_findTo,a_findReq,a_findID,⟨a_avoid_a,a_avoid_c,WP⟩,a_hops,a_turn⟩:=a
  obtain ⟨⟨⟨b_table_self_addr,b_table_self_id⟩,⟨b_table_pred_addr,b_table_pred_id⟩,⟨b_table_succ_a,b_table_succ_c,WG⟩,⟨b_table_fingers_a,b_table_fingers_c,Wk⟩⟩,b_copies,b_joined,b_boot,b_cursor,b_req,b_askTo,b_askReq,b_pingTo,b_pingReq,b_findTo,b_findReq,b_findID,⟨b_avoid_a,b_avoid_c,WO⟩,b_hops,b_turn⟩:=b
  have k_a_table:ZN.ok M ⟨⟨a_table_self_addr,a_table_self_id⟩,⟨a_table_pred_addr,a_table_pred_id⟩,⟨a_table_succ_a,a_table_succ_c,WH⟩,⟨a_table_fingers_a,a_table_fingers_c,Wl⟩⟩:=ha0.h0
  have k_a_table_succ:SlK M ZI.segs 21 ⟨a_table_succ_a,a_table_succ_c,WH⟩:=ha0.h0.h0
  have s_a_table_succ:SlM M a_table_succ_a (WH.map ZI.segs) 21:=k_a_table_succ.h1
  have n_a_table_succ:(WH.map ZI.segs).length=WH.length:=List.length_map ..
  have m_a_table_succ:WH.length≤9223372036854775807:=k_a_table_succ.h2
  have c_a_table_succ:WH.length≤a_table_succ_c:=k_a_table_succ.h3
  have k_a_table_fingers:SlK M ZI.segs 21 ⟨a_table_fingers_a,a_table_fingers_c,Wl⟩:=ha0.h0.h1
  have s_a_table_fingers:SlM M a_table_fingers_a (Wl.map ZI.segs) 21:=k_a_table_fingers.h1
  have n_a_table_fingers:(Wl.map ZI.segs).length=Wl.length:=List.length_map ..
  have m_a_table_fingers:Wl.length≤9223372036854775807:=k_a_table_fingers.h2
  have c_a_table_fingers:Wl.length≤a_table_fingers_c:=k_a_table_fingers.h3
  have k_a_avoid:SlK M (oneI .i64) 1 ⟨a_avoid_a,a_avoid_c,WP⟩:=ha0.h1
  have s_a_avoid:SlM M a_avoid_a (WP.map (oneI .i64)) 1:=k_a_avoid.h1
  have n_a_avoid:(WP.map (oneI .i64)).length=WP.length:=List.length_map ..
  have m_a_avoid:WP.length≤9223372036854775807:=k_a_avoid.h2
  have c_a_avoid:WP.length≤a_avoid_c:=k_a_avoid.h3
  have k_b_table:ZN.ok M ⟨⟨b_table_self_addr,b_table_self_id⟩,⟨b_table_pred_addr,b_table_pred_id⟩,⟨b_table_succ_a,b_table_succ_c,WG⟩,⟨b_table_fingers_a,b_table_fingers_c,Wk⟩⟩:=hb1.h0
  have k_b_table_succ:SlK M ZI.segs 21 ⟨b_table_succ_a,b_table_succ_c,WG⟩:=hb1.h0.h0
  have s_b_table_succ:SlM M b_table_succ_a (WG.map ZI.segs) 21:=k_b_table_succ.h1
  have n_b_table_succ:(WG.map ZI.segs).length=WG.length:=List.length_map ..
  have m_b_table_succ:WG.length≤9223372036854775807:=k_b_table_succ.h2
  have c_b_table_succ:WG.length≤b_table_succ_c:=k_b_table_succ.h3
  have k_b_table_fingers:SlK M ZI.segs 21 ⟨b_table_fingers_a,b_table_fingers_c,Wk⟩:=hb1.h0.h1
  have s_b_table_fingers:SlM M b_table_fingers_a (Wk.map ZI.segs) 21:=k_b_table_fingers.h1
  have n_b_table_fingers:(Wk.map ZI.segs).length=Wk.length:=List.length_map ..
  have m_b_table_fingers:Wk.length≤9223372036854775807:=k_b_table_fingers.h2
  have c_b_table_fingers:Wk.length≤b_table_fingers_c:=k_b_table_fingers.h3
  have k_b_avoid:SlK M (oneI .i64) 1 ⟨b_avoid_a,b_avoid_c,WO⟩:=hb1.h1
  have s_b_avoid:SlM M b_avoid_a (WO.map (oneI .i64)) 1:=k_b_avoid.h1
  have n_b_avoid:(WO.map (oneI .i64)).length=WO.length:=List.length_map ..
  have m_b_avoid:WO.length≤9223372036854775807:=k_b_avoid.h2
  have c_b_avoid:WO.length≤b_avoid_c:=k_b_avoid.h3
  refine XB Tryz.func14 rfl Tryz.ntmps14 rfl ?_;intro H
  refine ZJ (Zm (l:=[0,1,2]) rfl ?_)
  refine Xv ?_;intro b1
  refine Xv ?_;intro b2
  refine ZD ?_;refine Zw (Zp (Y_pk [4,3,2] ?_));refine ZJ ?_;refine C_cutX (α:=Bool) (fun b:Bool=>[(5,.bool b)]) (fun b:Bool=>(b=true↔a_copies=b_copies∧a_joined=b_joined∧a_boot=b_boot∧a_cursor=b_cursor∧a_req=b_req∧a_askTo=b_askTo∧a_askReq=b_askReq)) (.cons (k:=4) rfl (.cons (k:=3) rfl (.cons (k:=2) rfl .nil))) ?_ ?_
  ·skip
   refine Zm (l:=[0,1,2,3,4,5,6,7,8,9,10,11,12,13,14,15,16,17,18,19,20,21,22,23,24,25,26,27,28,29,30,31,32,33,34,35,36,37,38,39,40,41,42,43,44,45,46,47]) rfl ?_;refine Zk F.foff32_1 ?_;refine ZH F.lay3 ?_;refine Zk F.foff32_1 ?_;refine ZH F.lay3 ?_;refine YJ ?_;refine ZA ?_
   refine Yw 12 rfl (fun hc3=>?_) (fun hc3=>?_)
   ·replace hc3:=dT hc3
    refine Zk F.foff32_2 ?_;refine ZH F.lay4 ?_;refine Zk F.foff32_2 ?_;refine ZH F.lay4 ?_;refine X_eqb rfl rfl rfl rfl rfl Tryz.underlying4 rfl ?_;refine ZM ?_;refine ZA ?_
    refine Yw 19 rfl (fun hc4=>?_) (fun hc4=>?_)
    ·replace hc4:=dT hc4
     refine Zk F.foff32_3 ?_;refine ZH F.lay3 ?_;refine Zk F.foff32_3 ?_;refine ZH F.lay3 ?_;refine YJ ?_;refine ZM ?_;refine ZA ?_
     refine Yw 26 rfl (fun hc5=>?_) (fun hc5=>?_)
     ·replace hc5:=dT hc5
      refine Zk F.foff32_4 ?_;refine ZH F.lay3 ?_;refine Zk F.foff32_4 ?_;refine ZH F.lay3 ?_;refine YJ ?_;refine ZM ?_;refine ZA ?_
      refine Yw 33 rfl (fun hc6=>?_) (fun hc6=>?_)
      ·replace hc6:=dT hc6
       refine Zk F.foff32_5 ?_;refine ZH F.lay29 ?_;refine Zk F.foff32_5 ?_;refine ZH F.lay29 ?_;refine YJ ?_;refine ZM ?_;refine ZA ?_
       refine Yw 40 rfl (fun hc7=>?_) (fun hc7=>?_)
       ·replace hc7:=dT hc7
        refine Zk F.foff32_6 ?_;refine ZH F.lay3 ?_;refine Zk F.foff32_6 ?_;refine ZH F.lay3 ?_;refine YJ ?_;refine ZM ?_;refine ZA ?_
        refine Yw 47 rfl (fun hc8=>?_) (fun hc8=>?_)
        ·replace hc8:=dT hc8
         refine Zk F.foff32_7 ?_;refine ZH F.lay29 ?_;refine Zk F.foff32_7 ?_;refine ZH F.lay29 ?_;refine YJ ?_;refine ZM ?_;refine ZD ?_;refine Zw ?_
         exact Um (decide (a_askReq=b_askReq)) ((by constructor <;> intro h9 <;> simp_all)) (.cons (k:=5) rfl (.cons (k:=4) rfl (.cons (k:=3) rfl (.cons (k:=2) rfl .nil)))) (fun w hw=>by first|exact hw|exact hw.c)
        ·replace hc8:=dF hc8
         iterate 5 refine ZY ?_
         refine ZM ?_;refine ZD ?_;refine Zw ?_
         exact Um (false) ((by constructor <;> intro h9 <;> simp_all)) (.cons (k:=5) rfl (.cons (k:=4) rfl (.cons (k:=3) rfl (.cons (k:=2) rfl .nil)))) (fun w hw=>by first|exact hw|exact hw.c)
       ·replace hc7:=dF hc7
        iterate 5 refine ZY ?_
        refine ZM ?_;refine ZA ?_
        iterate 5 refine ZY ?_
        refine ZM ?_;refine ZD ?_;refine Zw ?_
        exact Um (false) ((by constructor <;> intro h9 <;> simp_all)) (.cons (k:=5) rfl (.cons (k:=4) rfl (.cons (k:=3) rfl (.cons (k:=2) rfl .nil)))) (fun w hw=>by first|exact hw|exact hw.c)
      ·replace hc6:=dF hc6
       iterate 5 refine ZY ?_
       refine ZM ?_;refine ZA ?_
       iterate 5 refine ZY ?_
       refine ZM ?_;refine ZA ?_
       iterate 5 refine ZY ?_
       refine ZM ?_;refine ZD ?_;refine Zw ?_
       exact Um (false) ((by constructor <;> intro h9 <;> simp_all)) (.cons (k:=5) rfl (.cons (k:=4) rfl (.cons (k:=3) rfl (.cons (k:=2) rfl .nil)))) (fun w hw=>by first|exact hw|exact hw.c)
     ·replace hc5:=dF hc5
      iterate 5 refine ZY ?_
      refine ZM ?_;refine ZA ?_
      iterate 5 refine ZY ?_
      refine ZM ?_;refine ZA ?_
      iterate 5 refine ZY ?_
      refine ZM ?_;refine ZA ?_
      iterate 5 refine ZY ?_
      refine ZM ?_;refine ZD ?_;refine Zw ?_
      exact Um (false) ((by constructor <;> intro h9 <;> simp_all)) (.cons (k:=5) rfl (.cons (k:=4) rfl (.cons (k:=3) rfl (.cons (k:=2) rfl .nil)))) (fun w hw=>by first|exact hw|exact hw.c)
    ·replace hc4:=dF hc4
     iterate 5 refine ZY ?_
     refine ZM ?_;refine ZA ?_
     iterate 5 refine ZY ?_
     refine ZM ?_;refine ZA ?_
     iterate 5 refine ZY ?_
     refine ZM ?_;refine ZA ?_
     iterate 5 refine ZY ?_
     refine ZM ?_;refine ZA ?_
     iterate 5 refine ZY ?_
     refine ZM ?_;refine ZD ?_;refine Zw ?_
     exact Um (false) ((by constructor <;> intro h9 <;> simp_all)) (.cons (k:=5) rfl (.cons (k:=4) rfl (.cons (k:=3) rfl (.cons (k:=2) rfl .nil)))) (fun w hw=>by first|exact hw|exact hw.c)
   ·replace hc3:=dF hc3
    iterate 5 refine ZY ?_
    refine ZM ?_;refine ZA ?_
    iterate 5 refine ZY ?_
    refine ZM ?_;refine ZA ?_
    iterate 5 refine ZY ?_
    refine ZM ?_;refine ZA ?_
    iterate 5 refine ZY ?_
    refine ZM ?_;refine ZA ?_
    iterate 5 refine ZY ?_
    refine ZM ?_;refine ZA ?_
    iterate 5 refine ZY ?_
    refine ZM ?_;refine ZD ?_;refine Zw ?_
    exact Um (false) ((by constructor <;> intro h9 <;> simp_all)) (.cons (k:=5) rfl (.cons (k:=4) rfl (.cons (k:=3) rfl (.cons (k:=2) rfl .nil)))) (fun w hw=>by first|exact hw|exact hw.c)
  ·rintro b5 hb5
   refine ZJ ?_;refine C_cutX (α:=Bool) (fun b:Bool=>[(6,.bool b)]) (fun b:Bool=>(b=true↔a_pingTo=b_pingTo∧a_pingReq=b_pingReq∧a_findTo=b_findTo∧a_findReq=b_findReq∧a_findID=b_findID∧a_hops=b_hops∧a_turn=b_turn)) (.cons (k:=5) rfl (.cons (k:=4) rfl (.cons (k:=3) rfl (.cons (k:=2) rfl .nil)))) ?_ ?_
   ·skip
    refine Zm (l:=[0,1,2,3,4,5,6,7,8,9,10,11,12,13,14,15,16,17,18,19,20,21,22,23,24,25,26,27,28,29,30,31,32,33,34,35,36,37,38,39,40,41,42,43,44,45,46,47]) rfl ?_;refine Zk F.foff32_8 ?_;refine ZH F.lay3 ?_;refine Zk F.foff32_8 ?_;refine ZH F.lay3 ?_;refine YJ ?_;refine ZA ?_
    refine Yw 59 rfl (fun hc9=>?_) (fun hc9=>?_)
    ·replace hc9:=dT hc9
     refine Zk F.foff32_9 ?_;refine ZH F.lay29 ?_;refine Zk F.foff32_9 ?_;refine ZH F.lay29 ?_;refine YJ ?_;refine ZM ?_;refine ZA ?_
     refine Yw 66 rfl (fun hc10=>?_) (fun hc10=>?_)
     ·replace hc10:=dT hc10
      refine Zk F.foff32_10 ?_;refine ZH F.lay3 ?_;refine Zk F.foff32_10 ?_;refine ZH F.lay3 ?_;refine YJ ?_;refine ZM ?_;refine ZA ?_
      refine Yw 73 rfl (fun hc11=>?_) (fun hc11=>?_)
      ·replace hc11:=dT hc11
       refine Zk F.foff32_11 ?_;refine ZH F.lay29 ?_;refine Zk F.foff32_11 ?_;refine ZH F.lay29 ?_;refine YJ ?_;refine ZM ?_;refine ZA ?_
       refine Yw 80 rfl (fun hc12=>?_) (fun hc12=>?_)
       ·replace hc12:=dT hc12
        refine Zk F.foff32_12 ?_;refine ZH F.lay23 ?_;refine Zk F.foff32_12 ?_;refine ZH F.lay23 ?_
        refine WI (m:=20) rfl rfl rfl rfl rfl (by constructor) (by constructor) F.lay23 F.kinds23 rfl F.guard23 (Vc WJ) (Vc WJ) rfl rfl rfl ?_;intro c13 he14
        replace he14:c13=true↔Segs.cells _=Segs.cells _:=he14
        obtain rfl:=eqD he14 (Vn (x:=_) (y:=_));clear he14
        refine ZM ?_;refine ZA ?_
        refine Yw 87 rfl (fun hc15=>?_) (fun hc15=>?_)
        ·replace hc15:=dT hc15
         refine Zk F.foff32_14 ?_;refine ZH F.lay3 ?_;refine Zk F.foff32_14 ?_;refine ZH F.lay3 ?_;refine YJ ?_;refine ZM ?_;refine ZA ?_
         refine Yw 94 rfl (fun hc16=>?_) (fun hc16=>?_)
         ·replace hc16:=dT hc16
          refine Zk F.foff32_15 ?_;refine ZH F.lay3 ?_;refine Zk F.foff32_15 ?_;refine ZH F.lay3 ?_;refine YJ ?_;refine ZM ?_;refine ZD ?_;refine Zw ?_
          exact Um (decide (a_turn=b_turn)) ((by constructor <;> intro h9 <;> simp_all)) (.cons (k:=6) rfl (.cons (k:=5) rfl (.cons (k:=4) rfl (.cons (k:=3) rfl (.cons (k:=2) rfl .nil))))) (fun w hw=>by first|exact hw|exact hw.c)
         ·replace hc16:=dF hc16
          iterate 5 refine ZY ?_
          refine ZM ?_;refine ZD ?_;refine Zw ?_
          exact Um (false) ((by constructor <;> intro h9 <;> simp_all)) (.cons (k:=6) rfl (.cons (k:=5) rfl (.cons (k:=4) rfl (.cons (k:=3) rfl (.cons (k:=2) rfl .nil))))) (fun w hw=>by first|exact hw|exact hw.c)
        ·replace hc15:=dF hc15
         iterate 5 refine ZY ?_
         refine ZM ?_;refine ZA ?_
         iterate 5 refine ZY ?_
         refine ZM ?_;refine ZD ?_;refine Zw ?_
         exact Um (false) ((by constructor <;> intro h9 <;> simp_all)) (.cons (k:=6) rfl (.cons (k:=5) rfl (.cons (k:=4) rfl (.cons (k:=3) rfl (.cons (k:=2) rfl .nil))))) (fun w hw=>by first|exact hw|exact hw.c)
       ·replace hc12:=dF hc12
        iterate 5 refine ZY ?_
        refine ZM ?_;refine ZA ?_
        iterate 5 refine ZY ?_
        refine ZM ?_;refine ZA ?_
        iterate 5 refine ZY ?_
        refine ZM ?_;refine ZD ?_;refine Zw ?_
        exact Um (false) ((by constructor <;> intro h9 <;> simp_all)) (.cons (k:=6) rfl (.cons (k:=5) rfl (.cons (k:=4) rfl (.cons (k:=3) rfl (.cons (k:=2) rfl .nil))))) (fun w hw=>by first|exact hw|exact hw.c)
      ·replace hc11:=dF hc11
       iterate 5 refine ZY ?_
       refine ZM ?_;refine ZA ?_
       iterate 5 refine ZY ?_
       refine ZM ?_;refine ZA ?_
       iterate 5 refine ZY ?_
       refine ZM ?_;refine ZA ?_
       iterate 5 refine ZY ?_
       refine ZM ?_;refine ZD ?_;refine Zw ?_
       exact Um (false) ((by constructor <;> intro h9 <;> simp_all)) (.cons (k:=6) rfl (.cons (k:=5) rfl (.cons (k:=4) rfl (.cons (k:=3) rfl (.cons (k:=2) rfl .nil))))) (fun w hw=>by first|exact hw|exact hw.c)
     ·replace hc10:=dF hc10
      iterate 5 refine ZY ?_
      refine ZM ?_;refine ZA ?_
      iterate 5 refine ZY ?_
      refine ZM ?_;refine ZA ?_
      iterate 5 refine ZY ?_
      refine ZM ?_;refine ZA ?_
      iterate 5 refine ZY ?_
      refine ZM ?_;refine ZA ?_
      iterate 5 refine ZY ?_
      refine ZM ?_;refine ZD ?_;refine Zw ?_
      exact Um (false) ((by constructor <;> intro h9 <;> simp_all)) (.cons (k:=6) rfl (.cons (k:=5) rfl (.cons (k:=4) rfl (.cons (k:=3) rfl (.cons (k:=2) rfl .nil))))) (fun w hw=>by first|exact hw|exact hw.c)
    ·replace hc9:=dF hc9
     iterate 5 refine ZY ?_
     refine ZM ?_;refine ZA ?_
     iterate 5 refine ZY ?_
     refine ZM ?_;refine ZA ?_
     iterate 5 refine ZY ?_
     refine ZM ?_;refine ZA ?_
     iterate 5 refine ZY ?_
     refine ZM ?_;refine ZA ?_
     iterate 5 refine ZY ?_
     refine ZM ?_;refine ZA ?_
     iterate 5 refine ZY ?_
     refine ZM ?_;refine ZD ?_;refine Zw ?_
     exact Um (false) ((by constructor <;> intro h9 <;> simp_all)) (.cons (k:=6) rfl (.cons (k:=5) rfl (.cons (k:=4) rfl (.cons (k:=3) rfl (.cons (k:=2) rfl .nil))))) (fun w hw=>by first|exact hw|exact hw.c)
   ·rintro b6 hb6
    refine ZJ (Zm (l:=[0,1,2,3,4,5,6,7,8,9,10,11,12,13,14,15,16,17,18]) rfl ?_);refine Zk F.foff32_0 ?_;refine ZH F.lay28 ?_;refine Zk F.foff32_0 ?_;refine ZH F.lay28 ?_;refine X_fs rfl rfl F.ok42 rfl (SameT_ok _ ⟨⟨a_table_self_addr,a_table_self_id⟩,⟨a_table_pred_addr,a_table_pred_id⟩,⟨a_table_succ_a,a_table_succ_c,WH⟩,⟨a_table_fingers_a,a_table_fingers_c,Wl⟩⟩ ⟨⟨b_table_self_addr,b_table_self_id⟩,⟨b_table_pred_addr,b_table_pred_id⟩,⟨b_table_succ_a,b_table_succ_c,WG⟩,⟨b_table_fingers_a,b_table_fingers_c,Wk⟩⟩ k_a_table k_b_table) rfl ?_
    rintro _ rfl
    refine ZA ?_
    refine Yw 106 rfl (fun hc17=>?_) (fun hc17=>?_)
    ·replace hc17:=dT hc17
     refine ZA ?_;refine ZM ?_;refine ZA ?_
     refine Yw 109 rfl (fun hc18=>?_) (fun hc18=>?_)
     ·skip
      refine ZA ?_;refine ZM ?_;refine ZA ?_
      refine Yw 112 rfl (fun hc19=>?_) (fun hc19=>?_)
      ·skip
       refine Zk F.foff32_13 ?_;refine ZH F.lay30 ?_;refine Zk F.foff32_13 ?_;refine ZH F.lay30 ?_;refine X_fs rfl rfl F.ok43 rfl (Ints_ok _ ⟨a_avoid_a,a_avoid_c,WP⟩ ⟨b_avoid_a,b_avoid_c,WO⟩ k_a_avoid k_b_avoid) rfl ?_
       rintro _ rfl
       refine ZM ?_;refine ZD ?_;refine Zw (Zp (Y_pk [4] ?_));refine Yq ?_
       refine Yg (.inr rfl) (.tmp rfl .nil) (fun w hw=>?_)
       refine ⟨_,rfl,(hw.c),?_⟩
       clear hw
       try simp only [List.map_id] at *
       refine congrArg Value.bool ?_
       exact decide_eq_decide.2 ⟨fun h9=>by simp_all [ZK.nd],fun h9=>by simp only [Nd.mk.injEq,ZK.nd] at h9;simp_all⟩
      ·skip
       iterate 5 refine ZY ?_
       refine ZM ?_;refine ZD ?_;refine Zw (Zp (Y_pk [4] ?_));refine Yq ?_
       refine Yg (.inr rfl) (.tmp rfl .nil) (fun w hw=>?_)
       refine ⟨_,rfl,(hw.c),?_⟩
       clear hw
       try simp only [List.map_id] at *
       refine congrArg Value.bool ?_
       exact (decide_eq_false (fun h9=>by simp only [Nd.mk.injEq,ZK.nd] at h9;simp_all)).symm
     ·skip
      refine ZY ?_;refine ZM ?_;refine ZA ?_
      iterate 5 refine ZY ?_
      refine ZM ?_;refine ZD ?_;refine Zw (Zp (Y_pk [4] ?_));refine Yq ?_
      refine Yg (.inr rfl) (.tmp rfl .nil) (fun w hw=>?_)
      refine ⟨_,rfl,(hw.c),?_⟩
      clear hw
      try simp only [List.map_id] at *
      refine congrArg Value.bool ?_
      exact (decide_eq_false (fun h9=>by simp only [Nd.mk.injEq,ZK.nd] at h9;simp_all)).symm
    ·replace hc17:=dF hc17
     refine ZY ?_;refine ZM ?_;refine ZA ?_;refine ZY ?_;refine ZM ?_;refine ZA ?_
     iterate 5 refine ZY ?_
     refine ZM ?_;refine ZD ?_;refine Zw (Zp (Y_pk [4] ?_));refine Yq ?_
     refine Yg (.inr rfl) (.tmp rfl .nil) (fun w hw=>?_)
     refine ⟨_,rfl,(hw.c),?_⟩
     clear hw
     try simp only [List.map_id] at *
     refine congrArg Value.bool ?_
     exact (decide_eq_false (fun h9=>by simp only [Nd.mk.injEq,ZK.nd] at h9;simp_all)).symm
theorem BigN_ok (M:Mem) (n:ZK) (hn0:ZK.ok M n):Fs Tryz.prog 9 [n.enc] M (fun v=>∃ b:Bool,v=.bool b∧(b=false→(n.table.succ.l.length≤40∧n.table.fingers.l.length≤200)∧n.avoid.l.length≤60)):=by
  obtain ⟨⟨⟨Za,Zb⟩,⟨Zf,Zh⟩,⟨Zj,Zi,Zg⟩,⟨Ze,Zd,Zc⟩⟩,Zt,Zs,ZC,Zz,ZL,ZB,Zy,Zu,Zo,Zv,Zn,Zx,⟨Zr,Zq,Zl⟩,ZE,ZF⟩:=n
  have Yt:ZN.ok M ⟨⟨Za,Zb⟩,⟨Zf,Zh⟩,⟨Zj,Zi,Zg⟩,⟨Ze,Zd,Zc⟩⟩:=hn0.h0
  have YU:SlK M ZI.segs 21 ⟨Zj,Zi,Zg⟩:=hn0.h0.h0
  have Wt:SlM M Zj (Zg.map ZI.segs) 21:=YU.h1
  have Wv:(Zg.map ZI.segs).length=Zg.length:=List.length_map ..
  have Ww:Zg.length≤9223372036854775807:=YU.h2
  have Wx:Zg.length≤Zi:=YU.h3
  have YK:SlK M ZI.segs 21 ⟨Ze,Zd,Zc⟩:=hn0.h0.h1
  have Wd:SlM M Ze (Zc.map ZI.segs) 21:=YK.h1
  have Wf:(Zc.map ZI.segs).length=Zc.length:=List.length_map ..
  have Wg:Zc.length≤9223372036854775807:=YK.h2
  have Wh:Zc.length≤Zd:=YK.h3
  have YI:SlK M (oneI .i64) 1 ⟨Zr,Zq,Zl⟩:=hn0.h1
  have WZ:SlM M Zr (Zl.map (oneI .i64)) 1:=YI.h1
  have Vt:(Zl.map (oneI .i64)).length=Zl.length:=List.length_map ..
  have Vj:Zl.length≤9223372036854775807:=YI.h2
  have Vu:Zl.length≤Zq:=YI.h3
  refine XB Tryz.func9 rfl Tryz.ntmps9 rfl ?_;intro H
  refine ZJ (Zm (l:=[0,1]) rfl ?_)
  refine Xv ?_;intro b1
  refine ZD ?_;refine Zw (Zp (Y_pk [2,1] ?_));refine ZJ (Zm (l:=[0,1,2,3,4,5,6,7,8,9]) rfl ?_);refine Zk F.foff32_0 ?_;refine ZH F.lay28 ?_;refine X_fs rfl rfl F.ok31 rfl (BigT_ok _ ⟨⟨Za,Zb⟩,⟨Zf,Zh⟩,⟨Zj,Zi,Zg⟩,⟨Ze,Zd,Zc⟩⟩ Yt) rfl ?_
  rintro _ rfl
  refine ZA ?_
  refine Yw 6 rfl (fun hc2=>?_) (fun hc2=>?_)
  ·replace hc2:=dT hc2
   simp only [ZI.eta,ZN.eta,ZK.eta,ZO.eta,Ys.eta,ZQ.eta,YO.eta,ZU.eta] at hc2
   iterate 4 refine ZY ?_
   refine ZM ?_;refine ZD ?_;refine Zw (Zp (Y_pk [2] ?_));refine Yq ?_
   refine Yg (.inr rfl) (.tmp rfl .nil) (fun w hw=>?_)
   refine ⟨_,rfl,hw.c,_,rfl,?_⟩
   clear hw
   intro h9
   (cases h9;done)
  ·replace hc2:=dF hc2
   simp only [ZI.eta,ZN.eta,ZK.eta,ZO.eta,Ys.eta,ZQ.eta,YO.eta,ZU.eta] at hc2
   refine Zk F.foff32_13 ?_;refine ZH F.lay30 ?_;refine YW F.elem30 ?_;refine YJ ?_;refine ZM ?_;refine ZD ?_;refine Zw (Zp (Y_pk [2] ?_));refine Yq ?_
   refine Yg (.inr rfl) (.tmp rfl .nil) (fun w hw=>?_)
   refine ⟨_,rfl,hw.c,_,rfl,?_⟩
   clear hw
   intro h9
   (have h8:=of_decide_eq_false h9;refine ⟨⟨?_,?_⟩,by show Zl.length≤60;omega⟩ <;> simp_all <;> omega)
end Go.Proofs.YtajmnjefajknoaaGreat
namespace Go.Esp
def Vh (l:List Int) (a:Int):List Int:=if a∈l∨16≤l.length then l else l++[a]
theorem shunN_l (n:Nd) (a:Int):shunN n a={ n with avoid:=Vh n.avoid a }:=by
  unfold shunN Vh
  split <;> rfl
theorem nx_w64 (r:Int):w64 (r+1)=nxR r:=by
  unfold nxR w64
  rfl
theorem first_at {t:Tb} (h:0<t.succ.length):Wi t=t.succ[0]:=by
  obtain ⟨a,b,su,f⟩:=t
  match su,h with
  | p::l,_=>rfl
theorem stab_alone {n:Nd} {l:List Int} (hj:n.joined=false) (hl:l=if n.findTo≠-1∧n.findTo≠n.boot then Vh n.avoid n.findTo else n.avoid):UC n=UB { n with findID:=n.table.self.id,hops:=0,avoid:=l } n.boot:=by
  subst hl
  unfold UC
  rw [if_pos hj]
  by_cases h:n.findTo≠-1∧n.findTo≠n.boot
  · simp only [if_pos h,shunN_l]
  · simp only [if_neg h]
theorem Va {n m m2:Nd} (hj:n.joined=true) (h1:m=if n.askTo≠-1 then { n with table:=XM n.table n.askTo,askTo:=-1 } else n) (h2:m2=if m.table.succ=[]∧m.table.pred≠Xi then WA m m.table.pred [] else m) :
    UC n=if m2.table.succ=[] then (m2,[]) else ({ m2 with req:=nxR m2.req,askTo:=(Wi m2.table).addr,askReq:=nxR m2.req },[⟨(Wi m2.table).addr,lett m2 3 (nxR m2.req)⟩]):=by
  subst h1 h2
  unfold UC
  rw [if_neg (by rw [hj];decide)]
theorem Ur {n m:Nd} {id:Plc} (hj:n.joined=true) (hm:m=if n.findTo=-1 then { n with avoid:=[] } else { n with avoid:=Vh n.avoid n.findTo,table:=XM n.table n.findTo,findTo:=-1 }) (hid:id=m.table.self.id+powP m.cursor.toNat) :
    fixN n=if (VI m.table id).2 then (VX m (VI m.table id).1,[]) else if (Wu m.table id m.avoid).2=false then ({ m with cursor:=0 },[]) else UB { m with findID:=id,hops:=0 } (Wu m.table id m.avoid).1.addr:=by
  subst hid hm
  unfold fixN
  rw [if_neg (by rw [hj];decide)]
  by_cases h:n.findTo=-1
  · simp only [if_pos h]
  · simp only [if_neg h,shunN_l]
theorem forget_big {t9 t:Tb} {a:Int} (h:t9=XM t a) (hb:t.succ.length≤40∧t.fingers.length≤200):t9.succ.length≤40∧t9.fingers.length≤200:=by
  subst h
  unfold XM
  refine ⟨Nat.le_trans (List.length_filter_le _ _) hb.1,?_⟩
  simp only [List.length_map]
  exact hb.2
theorem check_nil {n m:Nd} (hm:m=if n.pingTo≠-1 then { n with table:=XM n.table n.pingTo,pingTo:=-1 } else n) (hl:knownT m.table=[]):Ux n=(m,[]):=by
  subst hm
  unfold Ux
  simp only
  rw [hl]
theorem check_cons {n m:Nd} {l:List ZI} {k:Nat} {a:Int} (hm:m=if n.pingTo≠-1 then { n with table:=XM n.table n.pingTo,pingTo:=-1 } else n) (hl:knownT m.table=l) (hk:k<l.length) (he:m.turn.toNat % l.length=k) (ha:a=l[k].addr) :
    Ux n=({ m with req:=nxR m.req,pingTo:=a,pingReq:=nxR m.req,turn:=(m.turn+1) % 1000000 },[⟨a,lett m 6 (nxR m.req)⟩]):=by
  subst hm
  unfold Ux
  simp only
  rw [hl]
  match l,hk,he,ha with
  | p::l,hk,he,ha =>
    have h:(((p::l)[(if n.pingTo≠-1 then { n with table:=XM n.table n.pingTo,pingTo:=-1 } else n).turn.toNat % (l.length+1)]?).getD Xi).addr=a:=by
      rw [show l.length+1=(p::l).length from rfl,he,List.getElem?_eq_getElem hk,ha]
      rfl
    simp only [h]
theorem tick_yes {n:Nd} {k:Int} {r:Nd×List Snd} (h:IsNd n) (h1:1≤k∧k≤3) (hr:r=if k=1 then UC n else if k=2 then fixN n else Ux n):Ud n k=(r.1,r.2,0):=by
  subst hr
  unfold Ud
  rw [if_pos ⟨h,h1.1,h1.2⟩]
theorem VG {n:Nd} {k:Int} (h:¬(IsNd n∧1≤k∧k≤3)):Ud n k=(Nd.zero,[],1):=by
  unfold Ud
  rw [if_neg h]
theorem own_nd {n:ZK} {t9:ZN} {s9:Sl Int} (ht:t9.tb=n.table.tb) (hl:s9.l=n.avoid.l) :
    ZK.nd ⟨t9,n.copies,n.joined,n.boot,n.cursor,n.req,n.askTo,n.askReq,n.pingTo,n.pingReq,n.findTo,n.findReq,n.findID,s9,n.hops,n.turn⟩=n.nd:=by
  unfold ZK.nd
  rw [ht,hl]
theorem own_big {t9 t:ZN} (h:t9.tb=t.tb) (hb:t.succ.l.length≤40∧t.fingers.l.length≤200):t9.succ.l.length≤40∧t9.fingers.l.length≤200:=by
  have h1:t9.succ.l=t.succ.l:=congrArg Tb.succ h
  have h2:t9.fingers.l=t.fingers.l:=congrArg Tb.fingers h
  rw [h1,h2]
  exact hb
def SnE (M:Mem) (v:Value) (X:List Snd):Prop:=∃ o9:Sl Ys,v=o9.val∧sndl o9.l=X∧SlK M Ys.segs 68 o9∧∀ y∈o9.l,Ys.ok M y
def NE (M:Mem) (v:Value) (X:Nd):Prop:=∃ n9:ZK,v=n9.enc∧n9.nd=X∧ZK.ok M n9
def NsE (M:Mem) (v:Value) (X:Nd×List Snd):Prop:=∃ (n9:ZK) (o9:Sl Ys),v=.tuple #[n9.enc,o9.val]∧n9.nd=X.1∧sndl o9.l=X.2∧ZK.ok M n9∧SlK M Ys.segs 68 o9∧∀ y∈o9.l,Ys.ok M y
def NtE (M:Mem) (v:Value) (X:Nd×List Snd×Int):Prop:=∃ (n9:ZK) (o9:Sl Ys),v=.tuple #[n9.enc,o9.val,.int .i64 X.2.2]∧n9.nd=X.1∧sndl o9.l=X.2.1∧ZK.ok M n9∧SlK M Ys.segs 68 o9∧∀ y∈o9.l,Ys.ok M y
end Go.Esp
namespace Go.Proofs.YtajmnjefajknoaaGreat
open Go.Esp
theorem F.bld44:Bld Tryz.prog 44 [[.one (.int .i64 0)],[.one (.int .i64 0),Yr 0],[.one (.int .u64 0)],[Yr 0],[.one (.slice none 0 0)],[.one (.bool false)],[.one (.int .i64 0),Yr 0],[.one (.slice none 0 0)]]:=by rw [Uq];exact ⟨by kernel_rfl,by kernel_rfl⟩
theorem F.bld49:Bld Tryz.prog 49 [[.one (.int .i64 0)],[.one (.int .i64 0),.one (.int .i64 0),Yr 0,.one (.int .u64 0),Yr 0,.one (.slice none 0 0),.one (.bool false),.one (.int .i64 0),Yr 0,.one (.slice none 0 0)]]:=by rw [Uq];exact ⟨by kernel_rfl,by kernel_rfl⟩
theorem F.ok111:okFn Tryz.prog 111=true:=by kernel_rfl
theorem F.ok130:okFn Tryz.prog 130=true:=by kernel_rfl
theorem F.ok132:okFn Tryz.prog 132=true:=by kernel_rfl
theorem F.ok58:okFn Tryz.prog 58=true:=by kernel_rfl
theorem F.zero32:WC Tryz.prog 32=some (aggV [.one (.int .i64 0),Yr 0,.one (.int .i64 0),Yr 0,.one (.slice none 0 0),.one (.slice none 0 0),.one (.int .i64 0),.one (.bool false),.one (.int .i64 0),.one (.int .i64 0),.one (.int .u64 0),.one (.int .i64 0),.one (.int .u64 0),.one (.int .i64 0),.one (.int .u64 0),.one (.int .i64 0),.one (.int .u64 0),Yr 0,.one (.slice none 0 0),.one (.int .i64 0),.one (.int .i64 0)]):=by rw [Uq];kernel_rfl
theorem F.zero44:WC Tryz.prog 44=some (aggV [.one (.int .i64 0),.one (.int .i64 0),Yr 0,.one (.int .u64 0),Yr 0,.one (.slice none 0 0),.one (.bool false),.one (.int .i64 0),Yr 0,.one (.slice none 0 0)]):=by rw [Uq];kernel_rfl
theorem F.zero49:WC Tryz.prog 49=some (aggV [.one (.int .i64 0),.one (.int .i64 0),.one (.int .i64 0),Yr 0,.one (.int .u64 0),Yr 0,.one (.slice none 0 0),.one (.bool false),.one (.int .i64 0),Yr 0,.one (.slice none 0 0)]):=by rw [Uq];kernel_rfl
theorem rlett_ok (M:Mem) (n:ZK) (kind:Int) (req:Int):Fs Tryz.prog 58 [n.enc,.int .i64 kind,.int .u64 req] M (fun v=>v= ((ZO.mk kind n.table.self req 0 ⟨none,0,[]⟩ false Xi ⟨none,0,[]⟩).enc)):=by
  obtain ⟨⟨⟨Za,Zb⟩,⟨Zf,Zh⟩,⟨Zj,Zi,Zg⟩,⟨Ze,Zd,Zc⟩⟩,Zt,Zs,ZC,Zz,ZL,ZB,Zy,Zu,Zo,Zv,Zn,Zx,⟨Zr,Zq,Zl⟩,ZE,ZF⟩:=n
  refine XB Tryz.func58 rfl Tryz.ntmps58 rfl ?_;intro H
  refine ZJ (Zm (l:=[0,1]) rfl ?_)
  refine Xv ?_;intro b1
  refine YQ F.zero44 ?_;intro b2
  refine Zw (Zp (Y_pk [6,3,1,2] ?_));refine ZJ (YL (l:=[0,1,2,3,4,5,6,7]) #[0,0,2,6,0,0,63,127] _ rfl (by kernel_rfl) (by kernel_rfl) St.drawn (fun _ h=>h) ?_);refine ZA ?_;refine Zk F.foff32_0 ?_;refine Zk F.foff28_0 ?_;refine ZH F.lay25 ?_;refine ZA ?_;refine X_fs rfl rfl F.ok67 rfl (rNone_ok _) rfl ?_
  rintro _ rfl
  refine WY 12 rfl (show _=aggV [.one (.int .i64 (-1)),Yr 0] from rfl) ?_;refine Xy rfl rfl F.bld44 (.cons rfl (by constructor) (.cons rfl (by constructor) (.cons rfl (by constructor) (.cons rfl (by constructor) .nil)))) rfl rfl ?_;refine X_store rfl rfl rfl rfl (by constructor) (by ((try simp only [cat,List.cons_append,List.nil_append,List.append_nil]);(repeat (first|exact XC|refine XN ?_|(refine YP ?_ ?_;rfl)));done)) (by repeat first|exact Upd.head|apply Upd.tail|apply Upd.over) F.lay44 (by simp only [ZI.segs,ZN.segs,ZK.segs,ZO.segs,Ys.segs,ZQ.segs,YO.segs,ZU.segs,cat,List.cons_append,List.nil_append,List.append_nil,Segs.len,Seg.len,Yr]) (VN (m:=67) rfl (by simp only [ZI.segs,ZN.segs,ZK.segs,ZO.segs,Ys.segs,ZQ.segs,YO.segs,ZU.segs,cat,List.cons_append,List.nil_append,List.append_nil,Segs.len,Seg.len,Yr]) (by simp only [ZI.segs,ZN.segs,ZK.segs,ZO.segs,Ys.segs,ZQ.segs,YO.segs,ZU.segs,cat,List.cons_append,List.nil_append,List.append_nil,Segs.len,Seg.len,Yr])) ?_
  refine Zw (Zp (Y_pk [6] ?_));refine Yq ?_
  refine Yg (.inr rfl) (.cell rfl (by repeat first|exact List.Mem.head _|refine List.Mem.tail _ ?_|refine List.mem_append_right _ ?_) F.lay44 rfl rfl .nil) (fun w hw=>?_)
  refine ⟨_,rfl,(hw.c),?_⟩
  clear hw
  rfl
theorem inN_rd (M:Mem) (Hin:Hp) (l:Sl Int) (a:Int) (hl:RdS M Hin l.a (l.l.map (oneI .i64)) 1) (bl:l.l.length≤9223372036854775807):Fo Tryz.prog 111 [l.val,.int .i64 a] M Hin (fun M' v=>M'=M∧v=.bool (decide (a∈l.l))):=by
  obtain ⟨l_a,l_c,l_l⟩:=l
  simp only at hl bl
  have n_l:(l_l.map (oneI .i64)).length=l_l.length:=List.length_map ..
  refine Vo Tryz.func111 rfl Tryz.ntmps111 rfl ?_;intro H
  have hrd:=hl.app H
  refine ZJ (Zm (l:=[0]) rfl ?_);refine ZD ?_;refine Zw (Zp ?_)
  iterate 2 refine ZJ ?_
  refine Zm (l:=[0]) rfl ?_;refine ZD ?_;refine Zw (Zp (Xd (Y_pk [5,4,0,1] ?_)));refine WT (.succ .zero) (fun (k:Nat) z=>z=[(5,.int .i64 (k:Int))]∧k≤l_l.length∧(∀ j (h:j<k) (h2:j<l_l.length),¬l_l[j]=a)) (fun k=>l_l.length-k) (0) (⟨rfl,by omega,by (intro j hj;omega)⟩) ?_
  rintro k _ ⟨rfl,hk,hI⟩
  iterate 2 refine ZJ ?_
  refine Zm (l:=[0,1,2,3]) rfl ?_
  iterate 2 refine ZA ?_
  refine YW F.elem30 ?_;refine YJ ?_;refine Zw (Zp ?_)
  refine YC rfl (fun hc1=>?_) (fun hc1=>?_)
  ·replace hc1:=dT hc1
   refine YE (Zp (ZJ (Xd (ZJ (Zm (l:=[0,1,2,3,4,5]) rfl ?_)))))
   iterate 2 refine ZA ?_
   refine YM rfl rfl rfl rfl F.elem30 (by rfl) (by omega) (by exact RdS.plain (by assumption) (by (simp;omega))) rfl ?_;refine X_load_rd rfl rfl rfl (by assumption) (by exact XQ (by omega)) F.lay3 rfl rfl rfl ?_;refine ZA ?_;refine YJ ?_;refine Zw (Zp ?_)
   refine YC rfl (fun hc2=>?_) (fun hc2=>?_)
   ·replace hc2:=dT hc2
    refine ZJ (Zm (l:=[0]) rfl ?_);refine ZD ?_;refine Zw (Zp (Yq (XA ?_)))
    iterate 2 refine YS ?_
    refine XA (YS ?_)
    refine Yg (.inr rfl) (.tmp rfl .nil) (fun w hw=>?_)
    refine ⟨_,M,rfl,Mem.le.refl M,hw.c,rfl,?_⟩
    clear hw
    refine congrArg Value.bool ?_
    exact (decide_eq_true (by show a∈l_l;first|exact (by assumption:l_l[k]=a) ▸ List.getElem_mem (by omega)|(subst_vars;exact List.getElem_mem (by omega)))).symm
   ·replace hc2:=dF hc2
    refine YE (XS (Zp (Zm (l:=[0,1,2]) rfl ?_)));refine ZA ?_;refine Xz rfl rfl rfl rfl rfl (by exact Xg (by decide) (by omega)) rfl ?_;refine ZD ?_;refine Zw ?_;refine WQ (a':=[(5,_)]) (k+1) (.cons (k:=5) rfl (.cons (k:=4) rfl (.cons (k:=0) rfl (.cons (k:=1) rfl (.nil))))) (fun w hw=>by first|exact hw|exact hw.c) ?_ ?_
    ·refine ⟨rfl,by omega,?_⟩
     (intro j hj hj2;rcases Nat.lt_or_ge j k with h9|h9;exact hI j h9 hj2;obtain rfl:j=k:=(by omega);assumption)
    ·omega
  ·replace hc1:=dF hc1
   refine XO ?_
   iterate 2 refine XJ ?_
   refine XZ (Zp (Y_pk [4] ?_));refine ZJ (Zm (l:=[0]) rfl ?_);refine ZD ?_;refine Zw (Zp (Yq ?_))
   refine Yg (.inr rfl) (.tmp rfl .nil) (fun w hw=>?_)
   refine ⟨_,M,rfl,Mem.le.refl M,hw.c,rfl,?_⟩
   clear hw
   refine congrArg Value.bool ?_
   exact (decide_eq_false (fun h9=>by obtain ⟨j,hj,h8⟩:=List.getElem_of_mem h9;exact hI j (by have h7:j<l_l.length:=hj;omega) hj h8)).symm
theorem rshun_ok (M:Mem) (Za:Int) (Zb:Plc) (Zf:Int) (Zh:Plc) (Zj Ze Zr:Option Addr) (Zi Zd Zq:Nat) (Zg Zc:List ZI) (Zl:List Int) (Zt:Int) (Zs:Bool) (ZC Zz ZL ZB Zy Zu Zo Zv Zn:Int) (Zx:Plc) (ZE ZF:Int) (hav:Hp) (hA:OSl 3 1 (.slice Zr Zl.length Zq) hav (Zl.map (oneI .i64))) (hLa:Zl.length≤1000) (a:Int):Fh Tryz.prog 92 [ZK.enc ⟨⟨⟨Za,Zb⟩,⟨Zf,Zh⟩,⟨Zj,Zi,Zg⟩,⟨Ze,Zd,Zc⟩⟩,Zt,Zs,ZC,Zz,ZL,ZB,Zy,Zu,Zo,Zv,Zn,Zx,⟨Zr,Zq,Zl⟩,ZE,ZF⟩,.int .i64 a] M hav (fun M' v Hout=>M'=M∧∃ s9:Sl Int,v=ZK.enc ⟨⟨⟨Za,Zb⟩,⟨Zf,Zh⟩,⟨Zj,Zi,Zg⟩,⟨Ze,Zd,Zc⟩⟩,Zt,Zs,ZC,Zz,ZL,ZB,Zy,Zu,Zo,Zv,Zn,Zx,s9,ZE,ZF⟩∧OSl 3 1 s9.val Hout (s9.l.map (oneI .i64))∧s9.l=Vh Zl a):=by
  refine Vx Tryz.func92 rfl Tryz.ntmps92 rfl ?_;intro H
  refine ZJ (Zm (l:=[0,1]) rfl ?_)
  refine Xv ?_;intro b1
  refine YQ F.zero32 ?_;intro b2
  refine Zw (Zp (Y_pk [4,2,1] ?_))
  iterate 2 refine ZJ ?_
  refine Zm (l:=[0,1,2,3,4,5,6,7,8,9,10]) rfl ?_;refine Zk F.foff32_13 ?_;refine ZH F.lay30 ?_;refine ZA ?_;refine X_fo rfl rfl F.ok111 rfl (inN_rd M hav ⟨Zr,Zq,Zl⟩ a (OSl.rd hA _) (by show Zl.length≤9223372036854775807;omega)) (by repeat first|exact Rem.here _|exact Rem.two|apply Rem.skip|apply Rem.over) (YN rfl) ?_
  rintro _ M1 _ ⟨hM1,rfl⟩;subst M1
  refine XP ?_;refine ZA ?_
  refine Yw 10 rfl (fun hc3=>?_) (fun hc3=>?_)
  ·replace hc3:=nT hc3
   simp only [ZI.eta,ZN.eta,ZK.eta,ZO.eta,Ys.eta,ZQ.eta,YO.eta,ZU.eta] at hc3
   refine Zk F.foff32_13 ?_;refine ZH F.lay30 ?_;refine YW F.elem30 ?_;refine YJ ?_;refine ZM ?_;refine Zw (Zp (Y_pk [15,4,2,1] ?_))
   refine YC rfl (fun hc4=>?_) (fun hc4=>?_)
   ·replace hc4:=dT hc4
    refine Zm (l:=[0,1,2,3,4,5,6]) rfl ?_;refine Zk F.foff32_13 ?_;refine ZH F.lay30 ?_;refine ZA ?_
    refine Xu rfl rfl F.elem30 F.zero3 rfl rfl (.cons rfl (by constructor) .nil) rfl rfl (by simp only [List.map_cons,List.map_nil] <;> rfl) rfl ?_;intro b5 hob6
    have hAm:=hA
    rw [show Zl.length=(Zl.map (oneI .i64)).length from (List.length_map ..).symm] at hAm
    refine WX (m:=1000000) rfl rfl rfl rfl rfl F.elem30 F.zero3 (by rfl) rfl (by assumption) (by repeat first|exact Rem.here _|exact Rem.two|apply Rem.skip|apply Rem.over) (Src.own hob6.lens (by (refine Vi ?_;(repeat (first|exact XC|refine XN ?_|(refine YP ?_ ?_;rfl)));done)) rfl (by repeat first|exact List.Mem.head _|refine List.Mem.tail _ ?_|refine List.mem_append_right _ ?_)) (by (simp;omega)) (by decide) rfl ?_;intro v9 hs8 ho7;obtain ⟨adv9,cpv9,rfl⟩:=ho7.val
    refine Zk F.foff32_13 ?_;refine ZX F.lay30 ?_;refine Zw (Zp (Y_pk [4,2] ?_));refine ZJ (Zm (l:=[0,1]) rfl ?_);refine ZH F.lay32 ?_;refine Xq F.lay32 ?_;refine Zw (Zp (Y_pk [4] ?_));refine Yq ?_
    refine Yg (.inr rfl) (.cell rfl (by repeat first|exact List.Mem.head _|refine List.Mem.tail _ ?_|refine List.mem_append_right _ ?_) F.lay32 rfl rfl .nil) (fun w hw=>?_)
    have e9:(List.map (oneI .i64) Zl++[[Seg.one (.int .i64 a)]]).length=(Zl++[a]).length:=by rw [List.length_append,List.length_append,List.length_map];rfl
    have h9:=OSl.as9 ho7 (show _=(Zl++[a]).map (oneI .i64) by rw [List.map_append];rfl)
    refine ⟨_,M,hs8,rfl,Mem.le.refl M,hw.c,rfl,⟨adv9,cpv9,Zl++[a]⟩,?_,?_,?_⟩
    ·show _=ZK.enc ⟨⟨⟨Za,Zb⟩,⟨Zf,Zh⟩,⟨Zj,Zi,Zg⟩,⟨Ze,Zd,Zc⟩⟩,Zt,Zs,ZC,Zz,ZL,ZB,Zy,Zu,Zo,Zv,Zn,Zx,⟨adv9,cpv9,Zl++[a]⟩,ZE,ZF⟩
     simp only [e9]
     rfl
    ·simp only [e9] at h9
     exact h9
    ·show _=Vh Zl a
     unfold Vh
     rw [if_neg (by rintro (q1|q1) <;> first|contradiction|omega)]
   ·replace hc4:=dF hc4
    refine YE (Zp (Y_pk [4,2] ?_));refine ZJ (Zm (l:=[0,1]) rfl ?_);refine ZH F.lay32 ?_;refine Xq F.lay32 ?_;refine Zw (Zp (Y_pk [4] ?_));refine Yq ?_
    refine Yg (.inr rfl) (.cell rfl (by repeat first|exact List.Mem.head _|refine List.Mem.tail _ ?_|refine List.mem_append_right _ ?_) F.lay32 rfl rfl .nil) (fun w hw=>?_)
    refine ⟨_,M,hav,rfl,Mem.le.refl M,hw.c,rfl,⟨Zr,Zq,Zl⟩,rfl,hA,?_⟩
    show Zl=Vh Zl a
    unfold Vh
    rw [if_pos (by exact .inr (by omega))]
  ·replace hc3:=nF hc3
   simp only [ZI.eta,ZN.eta,ZK.eta,ZO.eta,Ys.eta,ZQ.eta,YO.eta,ZU.eta] at hc3
   iterate 4 refine ZY ?_
   refine ZM ?_;refine Zw (Zp (Y_pk [15,4,2,1] ?_));refine Wz rfl ?_;refine YE (Zp (Y_pk [4,2] ?_));refine ZJ (Zm (l:=[0,1]) rfl ?_);refine ZH F.lay32 ?_;refine Xq F.lay32 ?_;refine Zw (Zp (Y_pk [4] ?_));refine Yq ?_
   refine Yg (.inr rfl) (.cell rfl (by repeat first|exact List.Mem.head _|refine List.Mem.tail _ ?_|refine List.mem_append_right _ ?_) F.lay32 rfl rfl .nil) (fun w hw=>?_)
   refine ⟨_,M,hav,rfl,Mem.le.refl M,hw.c,rfl,⟨Zr,Zq,Zl⟩,rfl,hA,?_⟩
   show Zl=Vh Zl a
   unfold Vh
   rw [if_pos (by exact .inl (by assumption))]
theorem rseek_ok (M:Mem) (n:ZK) (to:Int) (hn0:ZK.ok M n) (hLa:n.avoid.l.length≤1000):Esp.Fn Tryz.prog 93 [n.enc,.int .i64 to] M (fun M' v=>NsE M' v (UB n.nd to)):=by
  obtain ⟨⟨⟨Za,Zb⟩,⟨Zf,Zh⟩,⟨Zj,Zi,Zg⟩,⟨Ze,Zd,Zc⟩⟩,Zt,Zs,ZC,Zz,ZL,ZB,Zy,Zu,Zo,Zv,Zn,Zx,⟨Zr,Zq,Zl⟩,ZE,ZF⟩:=n
  have Yt:ZN.ok M ⟨⟨Za,Zb⟩,⟨Zf,Zh⟩,⟨Zj,Zi,Zg⟩,⟨Ze,Zd,Zc⟩⟩:=hn0.h0
  have YU:SlK M ZI.segs 21 ⟨Zj,Zi,Zg⟩:=hn0.h0.h0
  have Wt:SlM M Zj (Zg.map ZI.segs) 21:=YU.h1
  have Wv:(Zg.map ZI.segs).length=Zg.length:=List.length_map ..
  have Ww:Zg.length≤9223372036854775807:=YU.h2
  have Wx:Zg.length≤Zi:=YU.h3
  have YK:SlK M ZI.segs 21 ⟨Ze,Zd,Zc⟩:=hn0.h0.h1
  have Wd:SlM M Ze (Zc.map ZI.segs) 21:=YK.h1
  have Wf:(Zc.map ZI.segs).length=Zc.length:=List.length_map ..
  have Wg:Zc.length≤9223372036854775807:=YK.h2
  have Wh:Zc.length≤Zd:=YK.h3
  have YI:SlK M (oneI .i64) 1 ⟨Zr,Zq,Zl⟩:=hn0.h1
  have WZ:SlM M Zr (Zl.map (oneI .i64)) 1:=YI.h1
  have Vt:(Zl.map (oneI .i64)).length=Zl.length:=List.length_map ..
  have Vj:Zl.length≤9223372036854775807:=YI.h2
  have Vu:Zl.length≤Zq:=YI.h3
  simp only at hLa
  refine WB Tryz.func93 rfl Tryz.ntmps93 rfl ?_;intro H
  refine ZJ (Zm (l:=[0,1,2]) rfl ?_)
  refine Xv ?_;intro b1
  refine YQ F.zero32 ?_;intro b2
  refine ZD ?_;refine Zw (Zp (Y_pk [5,4,2,1] ?_));refine ZJ (Zm (l:=[0,1,2,3,4]) rfl ?_);refine Zk F.foff32_5 ?_;refine ZH F.lay29 ?_;refine Xz rfl rfl rfl rfl rfl (by exact Vw _) rfl ?_
  obtain ⟨r9,hr9⟩:∃ v,nxR ZL=v:=⟨_,rfl⟩
  refine WY 10 rfl (show _=Value.int .u64 r9 from by rw [← hr9];exact congrArg (Value.int .u64) (nx_w64 ZL)) ?_;refine Zk F.foff32_5 ?_;refine ZX F.lay29 ?_;refine Zw (Zp (Y_pk [5,4,2,1] ?_));refine ZJ (Zm (l:=[0,1,2]) rfl ?_);refine ZA ?_;refine Zk F.foff32_10 ?_;refine ZX F.lay3 ?_;refine Zw (Zp (Y_pk [5,4,2,1] ?_));refine ZJ (Zm (l:=[0,1,2,3]) rfl ?_);refine Zk F.foff32_5 ?_;refine ZH F.lay29 ?_;refine Zk F.foff32_11 ?_;refine ZX F.lay29 ?_;refine Zw (Zp (Y_pk [5,4,2,1] ?_));refine ZJ (Zm (l:=[0,1,2,3,4,5]) rfl ?_);refine ZH F.lay32 ?_;refine Zk F.foff32_5 ?_;refine ZH F.lay29 ?_;refine X_fs rfl rfl F.ok58 rfl (rlett_ok _ ⟨⟨⟨Za,Zb⟩,⟨Zf,Zh⟩,⟨Zj,Zi,Zg⟩,⟨Ze,Zd,Zc⟩⟩,Zt,Zs,ZC,Zz,r9,ZB,Zy,Zu,Zo,to,r9,Zx,⟨Zr,Zq,Zl⟩,ZE,ZF⟩ 1 r9) rfl ?_
  rintro _ rfl
  refine YQ F.zero44 ?_;intro b3
  refine X_store rfl rfl rfl rfl (by constructor) (by ((try simp only [cat,List.cons_append,List.nil_append,List.append_nil]);(repeat (first|exact XC|refine XN ?_|(refine YP ?_ ?_;rfl)));done)) (by repeat first|exact Upd.head|apply Upd.tail|apply Upd.over) F.lay44 (by simp only [ZI.segs,ZN.segs,ZK.segs,ZO.segs,Ys.segs,ZQ.segs,YO.segs,ZU.segs,cat,List.cons_append,List.nil_append,List.append_nil,Segs.len,Seg.len,Yr]) (VN (m:=67) rfl (by simp only [ZI.segs,ZN.segs,ZK.segs,ZO.segs,Ys.segs,ZQ.segs,YO.segs,ZU.segs,cat,List.cons_append,List.nil_append,List.append_nil,Segs.len,Seg.len,Yr]) (by simp only [ZI.segs,ZN.segs,ZK.segs,ZO.segs,Ys.segs,ZQ.segs,YO.segs,ZU.segs,cat,List.cons_append,List.nil_append,List.append_nil,Segs.len,Seg.len,Yr])) ?_
  refine Zw (Zp (Y_pk [6,5,4,2,1] ?_));refine ZJ (Zm (l:=[0,1,2,3]) rfl ?_);refine Zk F.foff32_12 ?_;refine ZH F.lay23 ?_;refine Zk F.foff44_3 ?_;refine ZX F.lay23 ?_;refine Zw (Zp (Y_pk [6,5,4,2,1] ?_));refine ZJ (Zm (l:=[0]) rfl ?_);refine ZD ?_;refine Zw (Zp (ZJ (Zm (l:=[0,1,2,3,4]) rfl ?_)));refine ZA ?_;refine Zk F.foff32_13 ?_;refine ZH F.lay30 ?_
  refine Vv (m:=1000000) rfl rfl rfl rfl rfl F.elem30 F.zero3 (by rfl) rfl (by exact OSl.nil) (by repeat first|exact Rem.here _|exact Rem.two|apply Rem.skip|apply Rem.over) (WZ) (fun x:Int=>YP (show _ from rfl) XC) (by (simp;omega)) (by decide) rfl ?_;intro v6 hs5 ho4;obtain ⟨adv6,cpv6,rfl⟩:=ho4.val
  refine ZD ?_;refine Zw (Zp (Y_pk [7,6,5,4,2,1] ?_));refine ZJ ?_
  have hmla:(([]:List Segs)++Zl.map (oneI .i64)).length=Zl.length:=by simp
  rw [hmla]
  have hoza:OSl 3 1 (.slice adv6 Zl.length cpv6) hs5 (Zl.map (oneI .i64)):=by have h9:=ho4;rw [hmla] at h9;exact h9
  refine Un hoza (by repeat first|exact Rem.here _|exact Rem.two|apply Rem.skip|apply Rem.over) (fun M0 hM0 k_av=>?_)
  refine Zm (l:=[0,1,2]) rfl ?_;refine ZA ?_;refine Zk F.foff44_4 ?_;refine ZX F.lay30 ?_;refine Zw (Zp (Y_pk [6,5,4,2,1] ?_));refine ZJ (C_region_anyPR (Hin:=[(b2,_)]) [0,1,2,3,5,4,6] [5] #[0,0,0,6,14,1,63] (by repeat first|exact Rem.here _|exact Rem.two|apply Rem.skip|apply Rem.over) (by kernel_rfl) (by kernel_rfl) ?_);refine ZH F.lay32 ?_;refine ZA ?_;refine ZH F.lay44 ?_;refine Xy rfl rfl F.bld49 (.cons rfl (by constructor) (.cons rfl (by constructor) .nil)) rfl rfl ?_;refine X_storeE rfl rfl rfl rfl rfl (by constructor) (by ((try simp only [cat,List.cons_append,List.nil_append,List.append_nil]);(repeat (first|exact XC|refine XN ?_|(refine YP ?_ ?_;rfl)));done)) (by repeat first|exact Upd.head|apply Upd.tail|apply Upd.over) F.lay32 (by simp only [ZI.segs,ZN.segs,ZK.segs,ZO.segs,Ys.segs,ZQ.segs,YO.segs,ZU.segs,cat,List.cons_append,List.nil_append,List.append_nil,Segs.len,Seg.len,Yr]) (VN (m:=78) rfl (by simp only [ZI.segs,ZN.segs,ZK.segs,ZO.segs,Ys.segs,ZQ.segs,YO.segs,ZU.segs,cat,List.cons_append,List.nil_append,List.append_nil,Segs.len,Seg.len,Yr]) (by simp only [ZI.segs,ZN.segs,ZK.segs,ZO.segs,Ys.segs,ZQ.segs,YO.segs,ZU.segs,cat,List.cons_append,List.nil_append,List.append_nil,Segs.len,Seg.len,Yr])) (fun _ h=>h.c) ?_
  refine Xu rfl rfl F.elem35 F.zero49 rfl rfl (.cons rfl (by constructor) .nil) rfl rfl (by simp only [List.map_cons,List.map_nil] <;> rfl) rfl ?_;intro b7 hob8
  refine ZD ?_;refine Zw (WE ?_);refine Zp (Y_pk [5,4] ?_);refine Yq ?_
  refine Yg (.inr rfl) (.cell rfl (by repeat first|exact List.Mem.head _|refine List.Mem.tail _ ?_|refine List.mem_append_right _ ?_) F.lay32 rfl rfl (.tmp rfl .nil)) (fun w hw=>?_)
  obtain ⟨M9,j1,j2,j3⟩:=OSl.frz (H:=H) (l:=[(⟨to,(⟨1,⟨Za,Zb⟩,r9,Zx,⟨adv6,cpv6,Zl⟩,false,Xi,⟨none,0,[]⟩⟩:ZO)⟩:Ys)]) (f:=Ys.segs) (show OSl 49 68 _ _ ([(⟨to,(⟨1,⟨Za,Zb⟩,r9,Zx,⟨adv6,cpv6,Zl⟩,false,Xi,⟨none,0,[]⟩⟩:ZO)⟩:Ys)].map Ys.segs) from hob8) (hw.c)
  refine ⟨_,M9,rfl,hM0.trans j1,j2,⟨⟨⟨Za,Zb⟩,⟨Zf,Zh⟩,⟨Zj,Zi,Zg⟩,⟨Ze,Zd,Zc⟩⟩,Zt,Zs,ZC,Zz,r9,ZB,Zy,Zu,Zo,to,r9,Zx,⟨Zr,Zq,Zl⟩,ZE,ZF⟩,⟨_,1,[(⟨to,(⟨1,⟨Za,Zb⟩,r9,Zx,⟨adv6,cpv6,Zl⟩,false,Xi,⟨none,0,[]⟩⟩:ZO)⟩:Ys)]⟩,rfl,?_,?_,⟨hn0.h0.mono (hM0.trans j1),hn0.h1.mono (hM0.trans j1)⟩,j3,fun y hy=>by obtain rfl:=List.mem_singleton.1 hy;exact ⟨⟨k_av.mono j1,SlK.nil⟩⟩⟩
  ·show _=(UB _ to).1
   unfold UB;rw [← hr9];rfl
  ·show _=(UB _ to).2
   unfold UB;rw [← hr9];rfl
theorem radopt_ok (M:Mem) (n:ZK) (p:ZI) (q:(Sl ZI)) (hn0:ZK.ok M n) (hq1:SlK M ZI.segs 21 q):Esp.Fn Tryz.prog 95 [n.enc,p.enc,Sl.val q] M (fun M' v=>NE M' v (WA n.nd p q.l)):=by
  obtain ⟨⟨⟨Za,Zb⟩,⟨Zf,Zh⟩,⟨Zj,Zi,Zg⟩,⟨Ze,Zd,Zc⟩⟩,Zt,Zs,ZC,Zz,ZL,ZB,Zy,Zu,Zo,Zv,Zn,Zx,⟨Zr,Zq,Zl⟩,ZE,ZF⟩:=n
  obtain ⟨YX,p_id⟩:=p
  obtain ⟨q_a,q_c,q_l⟩:=q
  have Yt:ZN.ok M ⟨⟨Za,Zb⟩,⟨Zf,Zh⟩,⟨Zj,Zi,Zg⟩,⟨Ze,Zd,Zc⟩⟩:=hn0.h0
  have YU:SlK M ZI.segs 21 ⟨Zj,Zi,Zg⟩:=hn0.h0.h0
  have Wt:SlM M Zj (Zg.map ZI.segs) 21:=YU.h1
  have Wv:(Zg.map ZI.segs).length=Zg.length:=List.length_map ..
  have Ww:Zg.length≤9223372036854775807:=YU.h2
  have Wx:Zg.length≤Zi:=YU.h3
  have YK:SlK M ZI.segs 21 ⟨Ze,Zd,Zc⟩:=hn0.h0.h1
  have Wd:SlM M Ze (Zc.map ZI.segs) 21:=YK.h1
  have Wf:(Zc.map ZI.segs).length=Zc.length:=List.length_map ..
  have Wg:Zc.length≤9223372036854775807:=YK.h2
  have Wh:Zc.length≤Zd:=YK.h3
  have YI:SlK M (oneI .i64) 1 ⟨Zr,Zq,Zl⟩:=hn0.h1
  have WZ:SlM M Zr (Zl.map (oneI .i64)) 1:=YI.h1
  have Vt:(Zl.map (oneI .i64)).length=Zl.length:=List.length_map ..
  have Vj:Zl.length≤9223372036854775807:=YI.h2
  have Vu:Zl.length≤Zq:=YI.h3
  have k_q:SlK M ZI.segs 21 ⟨q_a,q_c,q_l⟩:=hq1
  have s_q:SlM M q_a (q_l.map ZI.segs) 21:=k_q.h1
  have n_q:(q_l.map ZI.segs).length=q_l.length:=List.length_map ..
  have m_q:q_l.length≤9223372036854775807:=k_q.h2
  have c_q:q_l.length≤q_c:=k_q.h3
  refine WB Tryz.func95 rfl Tryz.ntmps95 rfl ?_;intro H
  refine ZJ (Zm (l:=[0,1,2]) rfl ?_)
  refine Xv ?_;intro b1
  refine Xv ?_;intro b2
  refine YQ F.zero32 ?_;intro b3
  refine Zw (Zp (Y_pk [6,4,3,2] ?_));refine ZJ (Zm (l:=[0,1,2,3,4,5,6,7,8,9,10,11,12]) rfl ?_);refine Zk F.foff32_0 ?_;refine ZH F.lay28 ?_;refine ZH F.lay25 ?_;refine ZA ?_;refine Zk F.foff32_1 ?_;refine ZH F.lay3 ?_;refine X_fn rfl rfl F.ok130 rfl (rAdopt_ok _ ⟨⟨Za,Zb⟩,⟨Zf,Zh⟩,⟨Zj,Zi,Zg⟩,⟨Ze,Zd,Zc⟩⟩ ⟨YX,p_id⟩ ⟨q_a,q_c,q_l⟩ Zt Yt k_q) rfl ?_
  rintro _ M1 hm1 hv
  replace hv:TabE _ _ (Vd (ZN.tb ⟨⟨Za,Zb⟩,⟨Zf,Zh⟩,⟨Zj,Zi,Zg⟩,⟨Ze,Zd,Zc⟩⟩) ⟨YX,p_id⟩ q_l Zt):=hv
  obtain ⟨⟨A1,A2⟩,hA⟩:∃ x,Vd (ZN.tb ⟨⟨Za,Zb⟩,⟨Zf,Zh⟩,⟨Zj,Zi,Zg⟩,⟨Ze,Zd,Zc⟩⟩) ⟨YX,p_id⟩ q_l Zt=x:=⟨_,rfl⟩
  rw [hA] at hv
  obtain ⟨_,rfl,⟨⟨oa,oi⟩,⟨oq,oj⟩,⟨o1a,o1c,o1l⟩,⟨o2a,o2c,o2l⟩⟩,rfl,hot,oko⟩:=hv
  simp only at hot
  refine ZA ?_
  iterate 2 refine XF ?_
  refine YQ F.zero28 ?_;intro b4
  refine ZX F.lay28 ?_;refine ZD ?_;refine Zw (Zp (Y_pk [8,7,6,3] ?_))
  iterate 2 refine ZJ ?_
  refine Zm (l:=[0,1]) rfl ?_;refine ZA ?_;refine YJ ?_;refine Zw (Zp (Y_pk [20,7,6,3] ?_))
  refine YC rfl (fun hc5=>?_) (fun hc5=>?_)
  ·replace hc5:=dT hc5
   simp only [ZI.eta,ZN.eta,ZK.eta,ZO.eta,Ys.eta,ZQ.eta,YO.eta,ZU.eta] at hc5
   refine Zm (l:=[0,1,2]) rfl ?_;refine ZH F.lay28 ?_;refine Zk F.foff32_0 ?_;refine ZX F.lay28 ?_;refine Zw (Zp (Y_pk [6,3] ?_));refine ZJ (Zm (l:=[0,1]) rfl ?_);refine ZH F.lay32 ?_;refine Xq F.lay32 ?_;refine Zw (Zp (Y_pk [6] ?_));refine Yq ?_
   refine Yg (.inr rfl) (.cell rfl (by repeat first|exact List.Mem.head _|refine List.Mem.tail _ ?_|refine List.mem_append_right _ ?_) F.lay32 rfl rfl .nil) (fun w hw=>?_)
   refine ⟨_,M1,rfl,hm1,hw.c,⟨⟨⟨oa,oi⟩,⟨oq,oj⟩,⟨o1a,o1c,o1l⟩,⟨o2a,o2c,o2l⟩⟩,Zt,Zs,ZC,Zz,ZL,ZB,Zy,Zu,Zo,Zv,Zn,Zx,⟨Zr,Zq,Zl⟩,ZE,ZF⟩,rfl,?_,⟨oko,hn0.h1.mono hm1⟩⟩
   show _=WA (ZK.nd ⟨⟨⟨Za,Zb⟩,⟨Zf,Zh⟩,⟨Zj,Zi,Zg⟩,⟨Ze,Zd,Zc⟩⟩,Zt,Zs,ZC,Zz,ZL,ZB,Zy,Zu,Zo,Zv,Zn,Zx,⟨Zr,Zq,Zl⟩,ZE,ZF⟩) ⟨YX,p_id⟩ q_l
   unfold WA
   rw [show Vd (ZK.nd ⟨⟨⟨Za,Zb⟩,⟨Zf,Zh⟩,⟨Zj,Zi,Zg⟩,⟨Ze,Zd,Zc⟩⟩,Zt,Zs,ZC,Zz,ZL,ZB,Zy,Zu,Zo,Zv,Zn,Zx,⟨Zr,Zq,Zl⟩,ZE,ZF⟩).table ⟨YX,p_id⟩ q_l (ZK.nd ⟨⟨⟨Za,Zb⟩,⟨Zf,Zh⟩,⟨Zj,Zi,Zg⟩,⟨Ze,Zd,Zc⟩⟩,Zt,Zs,ZC,Zz,ZL,ZB,Zy,Zu,Zo,Zv,Zn,Zx,⟨Zr,Zq,Zl⟩,ZE,ZF⟩).copies=_ from hA]
   rw [if_pos (by show A2=0;omega),← hot];rfl
  ·replace hc5:=dF hc5
   simp only [ZI.eta,ZN.eta,ZK.eta,ZO.eta,Ys.eta,ZQ.eta,YO.eta,ZU.eta] at hc5
   refine YE (Zp (Y_pk [6,3] ?_));refine ZJ (Zm (l:=[0,1]) rfl ?_);refine ZH F.lay32 ?_;refine Xq F.lay32 ?_;refine Zw (Zp (Y_pk [6] ?_));refine Yq ?_
   refine Yg (.inr rfl) (.cell rfl (by repeat first|exact List.Mem.head _|refine List.Mem.tail _ ?_|refine List.mem_append_right _ ?_) F.lay32 rfl rfl .nil) (fun w hw=>?_)
   refine ⟨_,M1,rfl,hm1,hw.c,⟨⟨⟨Za,Zb⟩,⟨Zf,Zh⟩,⟨Zj,Zi,Zg⟩,⟨Ze,Zd,Zc⟩⟩,Zt,Zs,ZC,Zz,ZL,ZB,Zy,Zu,Zo,Zv,Zn,Zx,⟨Zr,Zq,Zl⟩,ZE,ZF⟩,rfl,?_,⟨Yt.mono hm1,hn0.h1.mono hm1⟩⟩
   show _=WA (ZK.nd ⟨⟨⟨Za,Zb⟩,⟨Zf,Zh⟩,⟨Zj,Zi,Zg⟩,⟨Ze,Zd,Zc⟩⟩,Zt,Zs,ZC,Zz,ZL,ZB,Zy,Zu,Zo,Zv,Zn,Zx,⟨Zr,Zq,Zl⟩,ZE,ZF⟩) ⟨YX,p_id⟩ q_l
   unfold WA
   rw [show Vd (ZK.nd ⟨⟨⟨Za,Zb⟩,⟨Zf,Zh⟩,⟨Zj,Zi,Zg⟩,⟨Ze,Zd,Zc⟩⟩,Zt,Zs,ZC,Zz,ZL,ZB,Zy,Zu,Zo,Zv,Zn,Zx,⟨Zr,Zq,Zl⟩,ZE,ZF⟩).table ⟨YX,p_id⟩ q_l (ZK.nd ⟨⟨⟨Za,Zb⟩,⟨Zf,Zh⟩,⟨Zj,Zi,Zg⟩,⟨Ze,Zd,Zc⟩⟩,Zt,Zs,ZC,Zz,ZL,ZB,Zy,Zu,Zo,Zv,Zn,Zx,⟨Zr,Zq,Zl⟩,ZE,ZF⟩).copies=_ from hA]
   rw [if_neg (by show ¬A2=0;omega)]
theorem rpoint_ok (M:Mem) (n:ZK) (p:ZI) (hn0:ZK.ok M n):Esp.Fn Tryz.prog 99 [n.enc,p.enc] M (fun M' v=>NE M' v (VX n.nd p)):=by
  obtain ⟨⟨⟨Za,Zb⟩,⟨Zf,Zh⟩,⟨Zj,Zi,Zg⟩,⟨Ze,Zd,Zc⟩⟩,Zt,Zs,ZC,Zz,ZL,ZB,Zy,Zu,Zo,Zv,Zn,Zx,⟨Zr,Zq,Zl⟩,ZE,ZF⟩:=n
  obtain ⟨YX,p_id⟩:=p
  have Yt:ZN.ok M ⟨⟨Za,Zb⟩,⟨Zf,Zh⟩,⟨Zj,Zi,Zg⟩,⟨Ze,Zd,Zc⟩⟩:=hn0.h0
  have YU:SlK M ZI.segs 21 ⟨Zj,Zi,Zg⟩:=hn0.h0.h0
  have Wt:SlM M Zj (Zg.map ZI.segs) 21:=YU.h1
  have Wv:(Zg.map ZI.segs).length=Zg.length:=List.length_map ..
  have Ww:Zg.length≤9223372036854775807:=YU.h2
  have Wx:Zg.length≤Zi:=YU.h3
  have YK:SlK M ZI.segs 21 ⟨Ze,Zd,Zc⟩:=hn0.h0.h1
  have Wd:SlM M Ze (Zc.map ZI.segs) 21:=YK.h1
  have Wf:(Zc.map ZI.segs).length=Zc.length:=List.length_map ..
  have Wg:Zc.length≤9223372036854775807:=YK.h2
  have Wh:Zc.length≤Zd:=YK.h3
  have YI:SlK M (oneI .i64) 1 ⟨Zr,Zq,Zl⟩:=hn0.h1
  have WZ:SlM M Zr (Zl.map (oneI .i64)) 1:=YI.h1
  have Vt:(Zl.map (oneI .i64)).length=Zl.length:=List.length_map ..
  have Vj:Zl.length≤9223372036854775807:=YI.h2
  have Vu:Zl.length≤Zq:=YI.h3
  refine WB Tryz.func99 rfl Tryz.ntmps99 rfl ?_;intro H
  refine ZJ (Zm (l:=[0,1,2]) rfl ?_)
  refine Xv ?_;intro b1
  refine Xv ?_;intro b2
  refine YQ F.zero32 ?_;intro b3
  refine Zw (Zp (Y_pk [4,3,2] ?_));refine ZJ (Zm (l:=[0,1,2,3,4,5,6,7,8,9,10,11,12,13]) rfl ?_);refine Zk F.foff32_0 ?_;refine ZH F.lay28 ?_;refine Zk F.foff32_4 ?_;refine ZH F.lay3 ?_;refine ZH F.lay25 ?_;refine X_fn rfl rfl F.ok132 rfl (rPoint_ok _ ⟨⟨Za,Zb⟩,⟨Zf,Zh⟩,⟨Zj,Zi,Zg⟩,⟨Ze,Zd,Zc⟩⟩ Zz ⟨YX,p_id⟩ Yt) rfl ?_
  rintro _ M1 hm1 hv
  replace hv:TabPE _ _ (WN (ZN.tb ⟨⟨Za,Zb⟩,⟨Zf,Zh⟩,⟨Zj,Zi,Zg⟩,⟨Ze,Zd,Zc⟩⟩) Zz ⟨YX,p_id⟩):=hv
  obtain ⟨⟨A1,A2,A3⟩,hA⟩:∃ x,WN (ZN.tb ⟨⟨Za,Zb⟩,⟨Zf,Zh⟩,⟨Zj,Zi,Zg⟩,⟨Ze,Zd,Zc⟩⟩) Zz ⟨YX,p_id⟩=x:=⟨_,rfl⟩
  rw [hA] at hv
  obtain ⟨_,rfl,⟨⟨oa,oi⟩,⟨oq,oj⟩,⟨o1a,o1c,o1l⟩,⟨o2a,o2c,o2l⟩⟩,rfl,hot,oko⟩:=hv
  simp only at hot
  refine ZA ?_
  iterate 3 refine XF ?_
  refine YQ F.zero28 ?_;intro b4
  refine ZX F.lay28 ?_
  iterate 2 refine ZD ?_
  refine Zw (Zp (Y_pk [7,6,5,4,2] ?_))
  iterate 2 refine ZJ ?_
  refine Zm (l:=[0,1]) rfl ?_;refine ZA ?_;refine YJ ?_;refine Zw (Zp (Y_pk [19,6,5,4,2] ?_))
  refine YC rfl (fun hc5=>?_) (fun hc5=>?_)
  ·replace hc5:=dT hc5
   simp only [ZI.eta,ZN.eta,ZK.eta,ZO.eta,Ys.eta,ZQ.eta,YO.eta,ZU.eta] at hc5
   refine ZJ (Zm (l:=[0,1,2]) rfl ?_);refine ZH F.lay28 ?_;refine Zk F.foff32_0 ?_;refine ZX F.lay28 ?_;refine Zw (Zp (Y_pk [6,4,2] ?_));refine Zm (l:=[0,1,2]) rfl ?_;refine ZA ?_;refine Zk F.foff32_4 ?_;refine ZX F.lay3 ?_;refine Zw (Zp (Y_pk [4,2] ?_));refine ZJ (Zm (l:=[0,1]) rfl ?_);refine ZH F.lay32 ?_;refine Xq F.lay32 ?_;refine Zw (Zp (Y_pk [4] ?_));refine Yq ?_
   refine Yg (.inr rfl) (.cell rfl (by repeat first|exact List.Mem.head _|refine List.Mem.tail _ ?_|refine List.mem_append_right _ ?_) F.lay32 rfl rfl .nil) (fun w hw=>?_)
   refine ⟨_,M1,rfl,hm1,hw.c,⟨⟨⟨oa,oi⟩,⟨oq,oj⟩,⟨o1a,o1c,o1l⟩,⟨o2a,o2c,o2l⟩⟩,Zt,Zs,ZC,A2,ZL,ZB,Zy,Zu,Zo,Zv,Zn,Zx,⟨Zr,Zq,Zl⟩,ZE,ZF⟩,rfl,?_,⟨oko,hn0.h1.mono hm1⟩⟩
   show _=VX (ZK.nd ⟨⟨⟨Za,Zb⟩,⟨Zf,Zh⟩,⟨Zj,Zi,Zg⟩,⟨Ze,Zd,Zc⟩⟩,Zt,Zs,ZC,Zz,ZL,ZB,Zy,Zu,Zo,Zv,Zn,Zx,⟨Zr,Zq,Zl⟩,ZE,ZF⟩) ⟨YX,p_id⟩
   unfold VX
   rw [show WN (ZK.nd ⟨⟨⟨Za,Zb⟩,⟨Zf,Zh⟩,⟨Zj,Zi,Zg⟩,⟨Ze,Zd,Zc⟩⟩,Zt,Zs,ZC,Zz,ZL,ZB,Zy,Zu,Zo,Zv,Zn,Zx,⟨Zr,Zq,Zl⟩,ZE,ZF⟩).table (ZK.nd ⟨⟨⟨Za,Zb⟩,⟨Zf,Zh⟩,⟨Zj,Zi,Zg⟩,⟨Ze,Zd,Zc⟩⟩,Zt,Zs,ZC,Zz,ZL,ZB,Zy,Zu,Zo,Zv,Zn,Zx,⟨Zr,Zq,Zl⟩,ZE,ZF⟩).cursor ⟨YX,p_id⟩=_ from hA]
   rw [if_pos (by show A3=0;omega),← hot];rfl
  ·replace hc5:=dF hc5
   simp only [ZI.eta,ZN.eta,ZK.eta,ZO.eta,Ys.eta,ZQ.eta,YO.eta,ZU.eta] at hc5
   refine YE (Zp (Y_pk [4,2] ?_));refine ZJ (Zm (l:=[0,1]) rfl ?_);refine ZH F.lay32 ?_;refine Xq F.lay32 ?_;refine Zw (Zp (Y_pk [4] ?_));refine Yq ?_
   refine Yg (.inr rfl) (.cell rfl (by repeat first|exact List.Mem.head _|refine List.Mem.tail _ ?_|refine List.mem_append_right _ ?_) F.lay32 rfl rfl .nil) (fun w hw=>?_)
   refine ⟨_,M1,rfl,hm1,hw.c,⟨⟨⟨Za,Zb⟩,⟨Zf,Zh⟩,⟨Zj,Zi,Zg⟩,⟨Ze,Zd,Zc⟩⟩,Zt,Zs,ZC,Zz,ZL,ZB,Zy,Zu,Zo,Zv,Zn,Zx,⟨Zr,Zq,Zl⟩,ZE,ZF⟩,rfl,?_,⟨Yt.mono hm1,hn0.h1.mono hm1⟩⟩
   show _=VX (ZK.nd ⟨⟨⟨Za,Zb⟩,⟨Zf,Zh⟩,⟨Zj,Zi,Zg⟩,⟨Ze,Zd,Zc⟩⟩,Zt,Zs,ZC,Zz,ZL,ZB,Zy,Zu,Zo,Zv,Zn,Zx,⟨Zr,Zq,Zl⟩,ZE,ZF⟩) ⟨YX,p_id⟩
   unfold VX
   rw [show WN (ZK.nd ⟨⟨⟨Za,Zb⟩,⟨Zf,Zh⟩,⟨Zj,Zi,Zg⟩,⟨Ze,Zd,Zc⟩⟩,Zt,Zs,ZC,Zz,ZL,ZB,Zy,Zu,Zo,Zv,Zn,Zx,⟨Zr,Zq,Zl⟩,ZE,ZF⟩).table (ZK.nd ⟨⟨⟨Za,Zb⟩,⟨Zf,Zh⟩,⟨Zj,Zi,Zg⟩,⟨Ze,Zd,Zc⟩⟩,Zt,Zs,ZC,Zz,ZL,ZB,Zy,Zu,Zo,Zv,Zn,Zx,⟨Zr,Zq,Zl⟩,ZE,ZF⟩).cursor ⟨YX,p_id⟩=_ from hA]
   rw [if_neg (by show ¬A3=0;omega)]
end Go.Proofs.YtajmnjefajknoaaGreat
namespace Go.Proofs.YtajmnjefajknoaaGreat
open Go.Esp
theorem rNOwn_ok (M:Mem) (n:ZK) (hn0:ZK.ok M n) (hbig:n.table.succ.l.length≤40∧n.table.fingers.l.length≤200) (hLa:n.avoid.l.length≤1000):Fh Tryz.prog 10 [n.enc] M [] (fun M' v Hout=>∃ (t9:ZN) (s9:Sl Int),v=ZK.enc ⟨t9,n.copies,n.joined,n.boot,n.cursor,n.req,n.askTo,n.askReq,n.pingTo,n.pingReq,n.findTo,n.findReq,n.findID,s9,n.hops,n.turn⟩∧t9.tb=n.table.tb∧ZN.ok M' t9∧OSl 3 1 s9.val Hout (s9.l.map (oneI .i64))∧s9.l=n.avoid.l):=by
  obtain ⟨⟨⟨Za,Zb⟩,⟨Zf,Zh⟩,⟨Zj,Zi,Zg⟩,⟨Ze,Zd,Zc⟩⟩,Zt,Zs,ZC,Zz,ZL,ZB,Zy,Zu,Zo,Zv,Zn,Zx,⟨Zr,Zq,Zl⟩,ZE,ZF⟩:=n
  have Yt:ZN.ok M ⟨⟨Za,Zb⟩,⟨Zf,Zh⟩,⟨Zj,Zi,Zg⟩,⟨Ze,Zd,Zc⟩⟩:=hn0.h0
  have YU:SlK M ZI.segs 21 ⟨Zj,Zi,Zg⟩:=hn0.h0.h0
  have Wt:SlM M Zj (Zg.map ZI.segs) 21:=YU.h1
  have Wv:(Zg.map ZI.segs).length=Zg.length:=List.length_map ..
  have Ww:Zg.length≤9223372036854775807:=YU.h2
  have Wx:Zg.length≤Zi:=YU.h3
  have YK:SlK M ZI.segs 21 ⟨Ze,Zd,Zc⟩:=hn0.h0.h1
  have Wd:SlM M Ze (Zc.map ZI.segs) 21:=YK.h1
  have Wf:(Zc.map ZI.segs).length=Zc.length:=List.length_map ..
  have Wg:Zc.length≤9223372036854775807:=YK.h2
  have Wh:Zc.length≤Zd:=YK.h3
  have YI:SlK M (oneI .i64) 1 ⟨Zr,Zq,Zl⟩:=hn0.h1
  have WZ:SlM M Zr (Zl.map (oneI .i64)) 1:=YI.h1
  have Vt:(Zl.map (oneI .i64)).length=Zl.length:=List.length_map ..
  have Vj:Zl.length≤9223372036854775807:=YI.h2
  have Vu:Zl.length≤Zq:=YI.h3
  simp only at hbig hLa
  refine Vx Tryz.func10 rfl Tryz.ntmps10 rfl ?_;intro H
  refine ZJ (Zm (l:=[0,1]) rfl ?_)
  refine Xv ?_;intro b1
  refine YQ F.zero32 ?_;intro b2
  refine Zw (Zp (Y_pk [2,1] ?_));refine ZJ (Zm (l:=[0,1,2,3,4]) rfl ?_);refine Zk F.foff32_0 ?_;refine ZH F.lay28 ?_;refine X_fn rfl rfl F.ok32 rfl (Own_ok _ ⟨⟨Za,Zb⟩,⟨Zf,Zh⟩,⟨Zj,Zi,Zg⟩,⟨Ze,Zd,Zc⟩⟩ Yt (by simp only;omega)) rfl ?_
  rintro _ M1 hm1 ⟨⟨⟨oa,oi⟩,⟨oq,oj⟩,⟨o1a,o1c,o1l⟩,⟨o2a,o2c,o2l⟩⟩,rfl,hot,oko⟩
  have s_av:=WZ.mono hm1
  refine Zk F.foff32_0 ?_;refine ZX F.lay28 ?_;refine Zw (Zp (Y_pk [2,1] ?_));refine ZJ (Zm (l:=[0]) rfl ?_);refine ZD ?_;refine Zw (Zp (ZJ (Zm (l:=[0,1,2,3,4]) rfl ?_)));refine ZA ?_;refine Zk F.foff32_13 ?_;refine ZH F.lay30 ?_
  refine Vv (m:=1000000) rfl rfl rfl rfl rfl F.elem30 F.zero3 (by rfl) rfl (by exact OSl.nil) (by repeat first|exact Rem.here _|exact Rem.two|apply Rem.skip|apply Rem.over) (s_av) (fun x:Int=>YP (show _ from rfl) XC) (by (simp;omega)) (by decide) rfl ?_;intro v5 hs4 ho3;obtain ⟨adv5,cpv5,rfl⟩:=ho3.val
  refine ZD ?_;refine Zw (Zp (Y_pk [3,2,1] ?_));refine ZJ (Zm (l:=[0,1,2]) rfl ?_);refine ZA ?_;refine Zk F.foff32_13 ?_;refine ZX F.lay30 ?_;refine Zw (Zp (Y_pk [2,1] ?_));refine ZJ (Zm (l:=[0,1]) rfl ?_);refine ZH F.lay32 ?_;refine Xq F.lay32 ?_;refine Zw (Zp (Y_pk [2] ?_));refine Yq ?_
  refine Yg (.inr rfl) (.cell rfl (by repeat first|exact List.Mem.head _|refine List.Mem.tail _ ?_|refine List.mem_append_right _ ?_) F.lay32 rfl rfl .nil) (fun w hw=>?_)
  have e9:(([]:List Segs)++Zl.map (oneI .i64)).length=Zl.length:=by rw [List.nil_append,List.length_map]
  have h9:=ho3
  rw [List.nil_append] at h9
  refine ⟨_,M1,hs4,rfl,hm1,hw.c,⟨⟨oa,oi⟩,⟨oq,oj⟩,⟨o1a,o1c,o1l⟩,⟨o2a,o2c,o2l⟩⟩,⟨adv5,cpv5,Zl⟩,?_,hot,oko,?_,rfl⟩
  ·show _=ZK.enc ⟨⟨⟨oa,oi⟩,⟨oq,oj⟩,⟨o1a,o1c,o1l⟩,⟨o2a,o2c,o2l⟩⟩,Zt,Zs,ZC,Zz,ZL,ZB,Zy,Zu,Zo,Zv,Zn,Zx,⟨adv5,cpv5,Zl⟩,ZE,ZF⟩
   simp only [e9]
   rfl
  ·simp only [List.length_map] at h9
   exact h9
end Go.Proofs.YtajmnjefajknoaaGreat
namespace Go.Proofs.YtajmnjefajknoaaGreat
open Go.Esp
theorem F.ok92:okFn Tryz.prog 92=true:=by kernel_rfl
theorem F.ok93:okFn Tryz.prog 93=true:=by kernel_rfl
theorem F.ok94:okFn Tryz.prog 94=true:=by kernel_rfl
theorem F.ok95:okFn Tryz.prog 95=true:=by kernel_rfl
theorem rstab_ok (M:Mem) (Za:Int) (Zb:Plc) (Zf:Int) (Zh:Plc) (Zj Ze Zr:Option Addr) (Zi Zd Zq:Nat) (Zg Zc:List ZI) (Zl:List Int) (Zt:Int) (Zs:Bool) (ZC Zz ZL ZB Zy Zu Zo Zv Zn:Int) (Zx:Plc) (ZE ZF:Int) (Yt:ZN.ok M ⟨⟨Za,Zb⟩,⟨Zf,Zh⟩,⟨Zj,Zi,Zg⟩,⟨Ze,Zd,Zc⟩⟩) (hbig:Zg.length≤40∧Zc.length≤200) (hav:Hp) (hA:OSl 3 1 (.slice Zr Zl.length Zq) hav (Zl.map (oneI .i64))) (hLa:Zl.length≤900):Fh Tryz.prog 37 [ZK.enc ⟨⟨⟨Za,Zb⟩,⟨Zf,Zh⟩,⟨Zj,Zi,Zg⟩,⟨Ze,Zd,Zc⟩⟩,Zt,Zs,ZC,Zz,ZL,ZB,Zy,Zu,Zo,Zv,Zn,Zx,⟨Zr,Zq,Zl⟩,ZE,ZF⟩] M hav (fun M' v Hout=>Hout=[]∧NsE M' v (UC (ZK.nd ⟨⟨⟨Za,Zb⟩,⟨Zf,Zh⟩,⟨Zj,Zi,Zg⟩,⟨Ze,Zd,Zc⟩⟩,Zt,Zs,ZC,Zz,ZL,ZB,Zy,Zu,Zo,Zv,Zn,Zx,⟨Zr,Zq,Zl⟩,ZE,ZF⟩))):=by
  refine Vx Tryz.func37 rfl Tryz.ntmps37 rfl ?_;intro H
  refine ZJ (Zm (l:=[0,1,2]) rfl ?_)
  refine Xv ?_;intro b1
  refine YQ F.zero32 ?_;intro b2
  refine ZD ?_;refine Zw (Zp (Y_pk [3,2,1] ?_))
  iterate 2 refine ZJ ?_
  refine Zm (l:=[0,1,2]) rfl ?_;refine Zk F.foff32_2 ?_;refine ZH F.lay4 ?_;refine XP ?_;refine Zw (Zp (Y_pk [8,3,2,1] ?_))
  refine YC rfl (fun hc3=>?_) (fun hc3=>?_)
  ·skip
   iterate 2 refine ZJ ?_
   refine Zm (l:=[0,1,2,3,4,5,6,7,8,9]) rfl ?_;refine Zk F.foff32_10 ?_;refine ZH F.lay3 ?_;refine YJ ?_;refine ZA ?_
   refine Yw 12 rfl (fun hc4=>?_) (fun hc4=>?_)
   ·replace hc4:=nT hc4
    refine Zk F.foff32_10 ?_;refine ZH F.lay3 ?_;refine Zk F.foff32_3 ?_;refine ZH F.lay3 ?_;refine YJ ?_;refine ZM ?_;refine Zw (Zp (Y_pk [18,3,2,1] ?_))
    refine YC rfl (fun hc5=>?_) (fun hc5=>?_)
    ·replace hc5:=nT hc5
     refine C_regionR (l:=[0,1,2,3,4]) (Hin:=hav) (by repeat first|exact Rem.here _|exact Rem.two|apply Rem.skip|apply Rem.over) rfl ?_;refine ZH F.lay32 ?_;refine Zk F.foff32_10 ?_;refine ZH F.lay3 ?_;refine VV rfl rfl F.ok92 rfl (rshun_ok M _ _ _ _ _ _ _ _ _ _ _ _ _ _ _ _ _ _ _ _ _ _ _ _ _ _ _ hav hA (by omega) Zv) (by repeat first|exact Rem.here _|exact Rem.two|apply Rem.skip|apply Rem.over) (fun _ _ _ hm hw=>(hw.lower (by exact hm)).c) (YN rfl) ?_
     rintro _ M1 hs5 hm1 ⟨hM1,⟨s_a,s_c,s_l⟩,rfl,ho9,hl9⟩
     subst M1
     simp only [Sl.val] at ho9
     simp only at hl9
     have hLs:s_l.length≤901:=by rw [hl9];unfold Vh;split;omega;(rw [List.length_append];simp only [List.length_cons,List.length_nil];omega)
     refine Xq F.lay32 ?_;refine Zw (Zp (Y_pk [3,2,1] ?_));refine ZJ ?_
     refine Un ho9 (by repeat first|exact Rem.here _|exact Rem.two|apply Rem.skip|apply Rem.over) (fun M2 hM2 k9=>?_)
     refine Zm (l:=[0,1,2,3,4,5]) rfl ?_;refine Zk F.foff32_0 ?_;refine Zk F.foff28_0 ?_;refine Zk F.foff25_1 ?_;refine ZH F.lay23 ?_;refine Zk F.foff32_12 ?_;refine ZX F.lay23 ?_;refine Zw (Zp (Y_pk [3,2,1] ?_));refine ZJ (Zm (l:=[0,1]) rfl ?_);refine Zk F.foff32_14 ?_;refine ZX F.lay3 ?_;refine Zw (Zp (Y_pk [3,2,1] ?_));refine ZJ (Zm (l:=[0,1,2,3,4,5,6,7,8,9]) rfl ?_);refine ZH F.lay32 ?_;refine Zk F.foff32_3 ?_;refine ZH F.lay3 ?_;refine X_fn rfl rfl F.ok93 rfl (rseek_ok _ ⟨⟨⟨Za,Zb⟩,⟨Zf,Zh⟩,⟨Zj,Zi,Zg⟩,⟨Ze,Zd,Zc⟩⟩,Zt,Zs,ZC,Zz,ZL,ZB,Zy,Zu,Zo,Zv,Zn,Zb,⟨s_a,s_c,s_l⟩,0,ZF⟩ ZC ⟨Yt.mono hM2,k9⟩ (by simp only;omega)) rfl ?_
     rintro _ M3 hm3 ⟨⟨⟨⟨Yc,Yp⟩,⟨Yh,Yu⟩,⟨YA,Yz,Ye⟩,⟨Yk,Yj,Yi⟩⟩,Xn,Xo,XI,Xm,XX,Xx,Xp,Xj,YY,Xk,YZ,Xl,⟨Xc,Xb,Xa⟩,XH,XG⟩,⟨o_a,o_c,o_l⟩,rfl,hv1,hv2,okv,oko,okq⟩
     refine ZA ?_
     iterate 2 refine XF ?_
     refine YQ F.zero32 ?_;intro b6
     refine Xq F.lay32 ?_;refine ZD ?_;refine Zw (Zp (Y_pk [5,4,3,2,1] ?_));refine ZJ (Zm (l:=[0,1,2,3]) rfl ?_);refine ZH F.lay32 ?_;refine ZA ?_;refine Xq F.lay32 ?_;refine ZD ?_;refine Zw (Zp (Y_pk [3,2,1] ?_));refine Yq (YS ?_)
     refine Yg (.inr rfl) (.cell rfl (by repeat first|exact List.Mem.head _|refine List.Mem.tail _ ?_|refine List.mem_append_right _ ?_) F.lay32 rfl rfl (.tmp rfl .nil)) (fun w hw=>?_)
     refine ⟨_,M3,[],rfl,hM2.trans hm3,hw.c,rfl,⟨⟨⟨Yc,Yp⟩,⟨Yh,Yu⟩,⟨YA,Yz,Ye⟩,⟨Yk,Yj,Yi⟩⟩,Xn,Xo,XI,Xm,XX,Xx,Xp,Xj,YY,Xk,YZ,Xl,⟨Xc,Xb,Xa⟩,XH,XG⟩,⟨o_a,o_c,o_l⟩,rfl,?_,?_,okv,oko,okq⟩
     ·rw [hv1,stab_alone (l:=s_l) (by show Zs=false;simp_all) (by rw [if_pos (by show Zv≠-1∧Zv≠ZC;first|assumption|(constructor <;> omega)),hl9];rfl)];rfl
     ·rw [hv2,stab_alone (l:=s_l) (by show Zs=false;simp_all) (by rw [if_pos (by show Zv≠-1∧Zv≠ZC;first|assumption|(constructor <;> omega)),hl9];rfl)];rfl
    ·replace hc5:=nF hc5
     refine YE (Zp (Y_pk [3,2,1] ?_));refine ZJ ?_
     refine Un hA (by repeat first|exact Rem.here _|exact Rem.two|apply Rem.skip|apply Rem.over) (fun M2 hM2 k9=>?_)
     refine Zm (l:=[0,1,2,3,4,5]) rfl ?_;refine Zk F.foff32_0 ?_;refine Zk F.foff28_0 ?_;refine Zk F.foff25_1 ?_;refine ZH F.lay23 ?_;refine Zk F.foff32_12 ?_;refine ZX F.lay23 ?_;refine Zw (Zp (Y_pk [3,2,1] ?_));refine ZJ (Zm (l:=[0,1]) rfl ?_);refine Zk F.foff32_14 ?_;refine ZX F.lay3 ?_;refine Zw (Zp (Y_pk [3,2,1] ?_));refine ZJ (Zm (l:=[0,1,2,3,4,5,6,7,8,9]) rfl ?_);refine ZH F.lay32 ?_;refine Zk F.foff32_3 ?_;refine ZH F.lay3 ?_;refine X_fn rfl rfl F.ok93 rfl (rseek_ok _ ⟨⟨⟨Za,Zb⟩,⟨Zf,Zh⟩,⟨Zj,Zi,Zg⟩,⟨Ze,Zd,Zc⟩⟩,Zt,Zs,ZC,Zz,ZL,ZB,Zy,Zu,Zo,Zv,Zn,Zb,⟨Zr,Zq,Zl⟩,0,ZF⟩ ZC ⟨Yt.mono hM2,k9⟩ (by simp only;omega)) rfl ?_
     rintro _ M3 hm3 ⟨⟨⟨⟨Yc,Yp⟩,⟨Yh,Yu⟩,⟨YA,Yz,Ye⟩,⟨Yk,Yj,Yi⟩⟩,Xn,Xo,XI,Xm,XX,Xx,Xp,Xj,YY,Xk,YZ,Xl,⟨Xc,Xb,Xa⟩,XH,XG⟩,⟨o_a,o_c,o_l⟩,rfl,hv1,hv2,okv,oko,okq⟩
     refine ZA ?_
     iterate 2 refine XF ?_
     refine YQ F.zero32 ?_;intro b7
     refine Xq F.lay32 ?_;refine ZD ?_;refine Zw (Zp (Y_pk [5,4,3,2,1] ?_));refine ZJ (Zm (l:=[0,1,2,3]) rfl ?_);refine ZH F.lay32 ?_;refine ZA ?_;refine Xq F.lay32 ?_;refine ZD ?_;refine Zw (Zp (Y_pk [3,2,1] ?_));refine Yq (YS ?_)
     refine Yg (.inr rfl) (.cell rfl (by repeat first|exact List.Mem.head _|refine List.Mem.tail _ ?_|refine List.mem_append_right _ ?_) F.lay32 rfl rfl (.tmp rfl .nil)) (fun w hw=>?_)
     refine ⟨_,M3,[],rfl,hM2.trans hm3,hw.c,rfl,⟨⟨⟨Yc,Yp⟩,⟨Yh,Yu⟩,⟨YA,Yz,Ye⟩,⟨Yk,Yj,Yi⟩⟩,Xn,Xo,XI,Xm,XX,Xx,Xp,Xj,YY,Xk,YZ,Xl,⟨Xc,Xb,Xa⟩,XH,XG⟩,⟨o_a,o_c,o_l⟩,rfl,?_,?_,okv,oko,okq⟩
     ·rw [hv1,stab_alone (l:=Zl) (by show Zs=false;simp_all) (by rw [if_neg (by show ¬(Zv≠-1∧Zv≠ZC);first|assumption|omega)];rfl)];rfl
     ·rw [hv2,stab_alone (l:=Zl) (by show Zs=false;simp_all) (by rw [if_neg (by show ¬(Zv≠-1∧Zv≠ZC);first|assumption|omega)];rfl)];rfl
   ·replace hc4:=nF hc4
    iterate 5 refine ZY ?_
    refine ZM ?_;refine Zw (Zp (Y_pk [18,3,2,1] ?_));refine Wz rfl ?_;refine YE (Zp (Y_pk [3,2,1] ?_));refine ZJ ?_
    refine Un hA (by repeat first|exact Rem.here _|exact Rem.two|apply Rem.skip|apply Rem.over) (fun M2 hM2 k9=>?_)
    refine Zm (l:=[0,1,2,3,4,5]) rfl ?_;refine Zk F.foff32_0 ?_;refine Zk F.foff28_0 ?_;refine Zk F.foff25_1 ?_;refine ZH F.lay23 ?_;refine Zk F.foff32_12 ?_;refine ZX F.lay23 ?_;refine Zw (Zp (Y_pk [3,2,1] ?_));refine ZJ (Zm (l:=[0,1]) rfl ?_);refine Zk F.foff32_14 ?_;refine ZX F.lay3 ?_;refine Zw (Zp (Y_pk [3,2,1] ?_));refine ZJ (Zm (l:=[0,1,2,3,4,5,6,7,8,9]) rfl ?_);refine ZH F.lay32 ?_;refine Zk F.foff32_3 ?_;refine ZH F.lay3 ?_;refine X_fn rfl rfl F.ok93 rfl (rseek_ok _ ⟨⟨⟨Za,Zb⟩,⟨Zf,Zh⟩,⟨Zj,Zi,Zg⟩,⟨Ze,Zd,Zc⟩⟩,Zt,Zs,ZC,Zz,ZL,ZB,Zy,Zu,Zo,Zv,Zn,Zb,⟨Zr,Zq,Zl⟩,0,ZF⟩ ZC ⟨Yt.mono hM2,k9⟩ (by simp only;omega)) rfl ?_
    rintro _ M3 hm3 ⟨⟨⟨⟨Yc,Yp⟩,⟨Yh,Yu⟩,⟨YA,Yz,Ye⟩,⟨Yk,Yj,Yi⟩⟩,Xn,Xo,XI,Xm,XX,Xx,Xp,Xj,YY,Xk,YZ,Xl,⟨Xc,Xb,Xa⟩,XH,XG⟩,⟨o_a,o_c,o_l⟩,rfl,hv1,hv2,okv,oko,okq⟩
    refine ZA ?_
    iterate 2 refine XF ?_
    refine YQ F.zero32 ?_;intro b8
    refine Xq F.lay32 ?_;refine ZD ?_;refine Zw (Zp (Y_pk [5,4,3,2,1] ?_));refine ZJ (Zm (l:=[0,1,2,3]) rfl ?_);refine ZH F.lay32 ?_;refine ZA ?_;refine Xq F.lay32 ?_;refine ZD ?_;refine Zw (Zp (Y_pk [3,2,1] ?_));refine Yq (YS ?_)
    refine Yg (.inr rfl) (.cell rfl (by repeat first|exact List.Mem.head _|refine List.Mem.tail _ ?_|refine List.mem_append_right _ ?_) F.lay32 rfl rfl (.tmp rfl .nil)) (fun w hw=>?_)
    refine ⟨_,M3,[],rfl,hM2.trans hm3,hw.c,rfl,⟨⟨⟨Yc,Yp⟩,⟨Yh,Yu⟩,⟨YA,Yz,Ye⟩,⟨Yk,Yj,Yi⟩⟩,Xn,Xo,XI,Xm,XX,Xx,Xp,Xj,YY,Xk,YZ,Xl,⟨Xc,Xb,Xa⟩,XH,XG⟩,⟨o_a,o_c,o_l⟩,rfl,?_,?_,okv,oko,okq⟩
    ·rw [hv1,stab_alone (l:=Zl) (by show Zs=false;simp_all) (by rw [if_neg (by show ¬(Zv≠-1∧Zv≠ZC);first|assumption|omega)];rfl)];rfl
    ·rw [hv2,stab_alone (l:=Zl) (by show Zs=false;simp_all) (by rw [if_neg (by show ¬(Zv≠-1∧Zv≠ZC);first|assumption|omega)];rfl)];rfl
  ·skip
   refine YE (Zp (Y_pk [3,2,1] ?_))
   iterate 2 refine ZJ ?_
   refine Un hA (by repeat first|exact Rem.here _|exact Rem.two|apply Rem.skip|apply Rem.over) (fun M2 hM2 k9=>?_)
   refine Zm (l:=[0,1,2]) rfl ?_;refine Zk F.foff32_6 ?_;refine ZH F.lay3 ?_;refine YJ ?_;refine Zw (Zp (Y_pk [40,3,2,1] ?_))
   refine YC rfl (fun hc9=>?_) (fun hc9=>?_)
   ·replace hc9:=nT hc9
    refine ZJ (Zm (l:=[0,1,2,3,4,5,6]) rfl ?_);refine Zk F.foff32_0 ?_;refine ZH F.lay28 ?_;refine Zk F.foff32_6 ?_;refine ZH F.lay3 ?_;refine X_fn rfl rfl F.ok94 rfl (rForget_ok _ ⟨⟨Za,Zb⟩,⟨Zf,Zh⟩,⟨Zj,Zi,Zg⟩,⟨Ze,Zd,Zc⟩⟩ ZB (Yt.mono hM2) hbig) rfl ?_
    rintro _ M3 hm3 ⟨⟨⟨oa,oi⟩,⟨oq,oj⟩,⟨o1a,o1c,o1l⟩,⟨o2a,o2c,o2l⟩⟩,rfl,hot,okt⟩
    refine Zk F.foff32_0 ?_;refine ZX F.lay28 ?_;refine Zw (Zp (Y_pk [3,2,1] ?_));refine Zm (l:=[0,1]) rfl ?_;refine Zk F.foff32_6 ?_;refine ZX F.lay3 ?_;refine Zw (Zp (Y_pk [3,2,1] ?_))
    iterate 2 refine ZJ ?_
    refine YL (l:=[0,1,2,3,4,5,6,7,8,9,10,11]) #[0,1,3,7,15,31,63,127,255,63,1023,2047] _ rfl (by kernel_rfl) (by kernel_rfl) St.drawn (fun _ h=>h) ?_;refine Zk F.foff32_0 ?_;refine Zk F.foff28_2 ?_;refine ZH F.lay26 ?_;refine YW F.elem26 ?_;refine YJ ?_;refine ZA ?_
    refine Yw 53 rfl (fun hc10=>?_) (fun hc10=>?_)
    ·replace hc10:=dT hc10
     refine Zk F.foff32_0 ?_;refine Zk F.foff28_1 ?_;refine ZH F.lay25 ?_;refine X_fs rfl rfl F.ok67 rfl (rNone_ok _) rfl ?_
     rintro _ rfl
     refine WY 57 rfl (show _=aggV [.one (.int .i64 (-1)),Yr 0] from rfl) ?_
     refine WI (m:=20) rfl rfl rfl rfl rfl (by constructor) (by constructor) F.lay25 F.kinds25 rfl F.guard25 (by exact XR (⟨_,_⟩)) (by exact XR (⟨_,_⟩)) rfl rfl rfl ?_;intro c11 he12
     replace he12:c11=true↔¬(Segs.cells _=Segs.cells _):=he12
     obtain rfl:=neD he12 (ZI.inj (x:=⟨_,_⟩) (y:=⟨_,_⟩));clear he12
     refine ZM ?_;refine Zw (Zp (Y_pk [59,3,2,1] ?_))
     refine YC rfl (fun hc13=>?_) (fun hc13=>?_)
     ·replace hc13:=nT hc13
      refine Zm (l:=[0,1,2,3,4,5]) rfl ?_;refine ZH F.lay32 ?_;refine Zk F.foff32_0 ?_;refine Zk F.foff28_1 ?_;refine ZH F.lay25 ?_;refine X_fn rfl rfl F.ok95 rfl (radopt_ok _ ⟨⟨⟨oa,oi⟩,⟨oq,oj⟩,⟨o1a,o1c,o1l⟩,⟨o2a,o2c,o2l⟩⟩,Zt,Zs,ZC,Zz,ZL,-1,Zy,Zu,Zo,Zv,Zn,Zx,⟨Zr,Zq,Zl⟩,ZE,ZF⟩ ⟨oq,oj⟩ ⟨none,0,[]⟩ ⟨okt,k9.mono hm3⟩ SlK.nil) rfl ?_
      rintro _ M4 hm4 ⟨⟨⟨⟨Yc,Yp⟩,⟨Yh,Yu⟩,⟨YA,Yz,Ye⟩,⟨Yk,Yj,Yi⟩⟩,Xn,Xo,XI,Xm,XX,Xx,Xp,Xj,YY,Xk,YZ,Xl,⟨Xc,Xb,Xa⟩,XH,XG⟩,rfl,hv1,okv⟩
      refine Xq F.lay32 ?_;refine Zw (Zp (Y_pk [3,2,1] ?_))
      iterate 2 refine ZJ ?_
      refine Zm (l:=[0,1,2,3,4]) rfl ?_;refine Zk F.foff32_0 ?_;refine Zk F.foff28_2 ?_;refine ZH F.lay26 ?_;refine YW F.elem26 ?_;refine YJ ?_;refine Zw (Zp (Y_pk [69,3,2,1] ?_))
      refine YC rfl (fun hc14=>?_) (fun hc14=>?_)
      ·replace hc14:=dT hc14
       refine ZJ (Zm (l:=[0,1,2]) rfl ?_);refine ZH F.lay32 ?_;refine Xq F.lay32 ?_;refine ZD ?_;refine Zw (Zp (Y_pk [3,2,1] ?_));refine Yq (YS ?_)
       refine Yg (.inr rfl) (.cell rfl (by repeat first|exact List.Mem.head _|refine List.Mem.tail _ ?_|refine List.mem_append_right _ ?_) F.lay32 rfl rfl (.tmp rfl .nil)) (fun w hw=>?_)
       have h1:ZK.nd ⟨⟨⟨oa,oi⟩,⟨oq,oj⟩,⟨o1a,o1c,o1l⟩,⟨o2a,o2c,o2l⟩⟩,Zt,Zs,ZC,Zz,ZL,-1,Zy,Zu,Zo,Zv,Zn,Zx,⟨Zr,Zq,Zl⟩,ZE,ZF⟩=if (ZK.nd ⟨⟨⟨Za,Zb⟩,⟨Zf,Zh⟩,⟨Zj,Zi,Zg⟩,⟨Ze,Zd,Zc⟩⟩,Zt,Zs,ZC,Zz,ZL,ZB,Zy,Zu,Zo,Zv,Zn,Zx,⟨Zr,Zq,Zl⟩,ZE,ZF⟩).askTo≠-1 then { (ZK.nd ⟨⟨⟨Za,Zb⟩,⟨Zf,Zh⟩,⟨Zj,Zi,Zg⟩,⟨Ze,Zd,Zc⟩⟩,Zt,Zs,ZC,Zz,ZL,ZB,Zy,Zu,Zo,Zv,Zn,Zx,⟨Zr,Zq,Zl⟩,ZE,ZF⟩) with table:=XM (ZK.nd ⟨⟨⟨Za,Zb⟩,⟨Zf,Zh⟩,⟨Zj,Zi,Zg⟩,⟨Ze,Zd,Zc⟩⟩,Zt,Zs,ZC,Zz,ZL,ZB,Zy,Zu,Zo,Zv,Zn,Zx,⟨Zr,Zq,Zl⟩,ZE,ZF⟩).table (ZK.nd ⟨⟨⟨Za,Zb⟩,⟨Zf,Zh⟩,⟨Zj,Zi,Zg⟩,⟨Ze,Zd,Zc⟩⟩,Zt,Zs,ZC,Zz,ZL,ZB,Zy,Zu,Zo,Zv,Zn,Zx,⟨Zr,Zq,Zl⟩,ZE,ZF⟩).askTo,askTo:=-1 } else (ZK.nd ⟨⟨⟨Za,Zb⟩,⟨Zf,Zh⟩,⟨Zj,Zi,Zg⟩,⟨Ze,Zd,Zc⟩⟩,Zt,Zs,ZC,Zz,ZL,ZB,Zy,Zu,Zo,Zv,Zn,Zx,⟨Zr,Zq,Zl⟩,ZE,ZF⟩):=by
        rw [if_pos (by show ZB≠-1;omega)]
        show _=_
        rw [show XM (ZK.nd ⟨⟨⟨Za,Zb⟩,⟨Zf,Zh⟩,⟨Zj,Zi,Zg⟩,⟨Ze,Zd,Zc⟩⟩,Zt,Zs,ZC,Zz,ZL,ZB,Zy,Zu,Zo,Zv,Zn,Zx,⟨Zr,Zq,Zl⟩,ZE,ZF⟩).table (ZK.nd ⟨⟨⟨Za,Zb⟩,⟨Zf,Zh⟩,⟨Zj,Zi,Zg⟩,⟨Ze,Zd,Zc⟩⟩,Zt,Zs,ZC,Zz,ZL,ZB,Zy,Zu,Zo,Zv,Zn,Zx,⟨Zr,Zq,Zl⟩,ZE,ZF⟩).askTo=_ from hot.symm];rfl
       have h2:ZK.nd ⟨⟨⟨Yc,Yp⟩,⟨Yh,Yu⟩,⟨YA,Yz,Ye⟩,⟨Yk,Yj,Yi⟩⟩,Xn,Xo,XI,Xm,XX,Xx,Xp,Xj,YY,Xk,YZ,Xl,⟨Xc,Xb,Xa⟩,XH,XG⟩=if (ZK.nd ⟨⟨⟨oa,oi⟩,⟨oq,oj⟩,⟨o1a,o1c,o1l⟩,⟨o2a,o2c,o2l⟩⟩,Zt,Zs,ZC,Zz,ZL,-1,Zy,Zu,Zo,Zv,Zn,Zx,⟨Zr,Zq,Zl⟩,ZE,ZF⟩).table.succ=[]∧(ZK.nd ⟨⟨⟨oa,oi⟩,⟨oq,oj⟩,⟨o1a,o1c,o1l⟩,⟨o2a,o2c,o2l⟩⟩,Zt,Zs,ZC,Zz,ZL,-1,Zy,Zu,Zo,Zv,Zn,Zx,⟨Zr,Zq,Zl⟩,ZE,ZF⟩).table.pred≠Xi then WA (ZK.nd ⟨⟨⟨oa,oi⟩,⟨oq,oj⟩,⟨o1a,o1c,o1l⟩,⟨o2a,o2c,o2l⟩⟩,Zt,Zs,ZC,Zz,ZL,-1,Zy,Zu,Zo,Zv,Zn,Zx,⟨Zr,Zq,Zl⟩,ZE,ZF⟩) (ZK.nd ⟨⟨⟨oa,oi⟩,⟨oq,oj⟩,⟨o1a,o1c,o1l⟩,⟨o2a,o2c,o2l⟩⟩,Zt,Zs,ZC,Zz,ZL,-1,Zy,Zu,Zo,Zv,Zn,Zx,⟨Zr,Zq,Zl⟩,ZE,ZF⟩).table.pred [] else (ZK.nd ⟨⟨⟨oa,oi⟩,⟨oq,oj⟩,⟨o1a,o1c,o1l⟩,⟨o2a,o2c,o2l⟩⟩,Zt,Zs,ZC,Zz,ZL,-1,Zy,Zu,Zo,Zv,Zn,Zx,⟨Zr,Zq,Zl⟩,ZE,ZF⟩):=by
        rw [if_pos ⟨show o1l=[] from List.length_eq_zero_iff.1 (by omega),show (⟨oq,oj⟩:ZI)≠Xi from (by assumption)⟩];exact hv1
       have h3:=Va (n:=ZK.nd ⟨⟨⟨Za,Zb⟩,⟨Zf,Zh⟩,⟨Zj,Zi,Zg⟩,⟨Ze,Zd,Zc⟩⟩,Zt,Zs,ZC,Zz,ZL,ZB,Zy,Zu,Zo,Zv,Zn,Zx,⟨Zr,Zq,Zl⟩,ZE,ZF⟩) (by show Zs=true;simp_all) h1 h2
       rw [if_pos (show (ZK.nd ⟨⟨⟨Yc,Yp⟩,⟨Yh,Yu⟩,⟨YA,Yz,Ye⟩,⟨Yk,Yj,Yi⟩⟩,Xn,Xo,XI,Xm,XX,Xx,Xp,Xj,YY,Xk,YZ,Xl,⟨Xc,Xb,Xa⟩,XH,XG⟩).table.succ=[] from List.length_eq_zero_iff.1 (show Ye.length=0 from by omega))] at h3
       exact ⟨_,M4,[],rfl,(hM2.trans (hm3.trans hm4)),hw.c,rfl,⟨⟨⟨Yc,Yp⟩,⟨Yh,Yu⟩,⟨YA,Yz,Ye⟩,⟨Yk,Yj,Yi⟩⟩,Xn,Xo,XI,Xm,XX,Xx,Xp,Xj,YY,Xk,YZ,Xl,⟨Xc,Xb,Xa⟩,XH,XG⟩,⟨none,0,[]⟩,rfl,by rw [h3],by rw [h3];rfl,okv,SlK.nil,fun y hy=>by cases hy⟩
      ·replace hc14:=dF hc14
       refine YE (Zp (Y_pk [3,2,1] ?_));refine ZJ ?_
       have s_m:=okv.h0.h0.h1
       simp only at s_m
       have n_m:(Ye.map ZI.segs).length=Ye.length:=List.length_map ..
       have c_m:0<Ye.length:=by omega
       refine Zm (l:=[0,1,2,3,4]) rfl ?_;refine Zk F.foff32_5 ?_;refine ZH F.lay29 ?_;refine Xz rfl rfl rfl rfl rfl (by exact Vw _) rfl ?_
       obtain ⟨r9,hr9⟩:∃ v,nxR XX=v:=⟨_,rfl⟩
       refine WY 73 rfl (show _=Value.int .u64 r9 from by rw [← hr9];exact congrArg (Value.int .u64) (nx_w64 _)) ?_;refine Zk F.foff32_5 ?_;refine ZX F.lay29 ?_;refine Zw (Zp (Y_pk [3,2,1] ?_));refine ZJ (Zm (l:=[0,1,2,3,4,5,6,7]) rfl ?_);refine Zk F.foff32_0 ?_;refine Zk F.foff28_2 ?_;refine ZH F.lay26 ?_;refine YM rfl rfl rfl rfl F.elem26 (by rfl) (by omega) (by exact SlM.plain (by assumption) (by (simp;omega))) rfl ?_;refine Xt rfl rfl rfl (by exact SlM.plain (by assumption) (by (simp;omega))) F.foff25_0 rfl ?_;refine Xs rfl rfl rfl (by assumption) (by exact XQ (by omega)) F.lay3 rfl rfl rfl ?_;refine Zk F.foff32_6 ?_;refine ZX F.lay3 ?_;refine Zw (Zp (Y_pk [3,2,1] ?_));refine ZJ (Zm (l:=[0,1,2,3]) rfl ?_)
       refine Zk F.foff32_5 ?_;refine ZH F.lay29 ?_;refine Zk F.foff32_7 ?_;refine ZX F.lay29 ?_;refine Zw (Zp (Y_pk [3,2,1] ?_));refine ZJ (C_region_anyPR (Hin:=[(b2,_)]) [0,1,2,3,4,5,6,7,9,8,10] [9] #[0,0,2,0,0,16,56,126,254,121,1023] (by repeat first|exact Rem.here _|exact Rem.two|apply Rem.skip|apply Rem.over) (by kernel_rfl) (by kernel_rfl) ?_);refine ZH F.lay32 ?_;refine Zk F.foff32_6 ?_;refine ZH F.lay3 ?_;refine ZH F.lay32 ?_;refine Zk F.foff32_5 ?_;refine ZH F.lay29 ?_;refine X_fs rfl rfl F.ok58 rfl (rlett_ok _ ⟨⟨⟨Yc,Yp⟩,⟨Yh,Yu⟩,⟨YA,Yz,Ye⟩,⟨Yk,Yj,Yi⟩⟩,Xn,Xo,XI,Xm,r9,Ye[0].addr,r9,Xj,YY,Xk,YZ,Xl,⟨Xc,Xb,Xa⟩,XH,XG⟩ 3 r9) rfl ?_
       rintro _ rfl
       refine Xy rfl rfl F.bld49 (.cons rfl (by constructor) (.cons rfl (by constructor) .nil)) rfl rfl ?_;refine X_storeE rfl rfl rfl rfl rfl (by constructor) (by ((try simp only [cat,List.cons_append,List.nil_append,List.append_nil]);(repeat (first|exact XC|refine XN ?_|(refine YP ?_ ?_;rfl)));done)) (by repeat first|exact Upd.head|apply Upd.tail|apply Upd.over) F.lay32 (by simp only [ZI.segs,ZN.segs,ZK.segs,ZO.segs,Ys.segs,ZQ.segs,YO.segs,ZU.segs,cat,List.cons_append,List.nil_append,List.append_nil,Segs.len,Seg.len,Yr]) (VN (m:=78) rfl (by simp only [ZI.segs,ZN.segs,ZK.segs,ZO.segs,Ys.segs,ZQ.segs,YO.segs,ZU.segs,cat,List.cons_append,List.nil_append,List.append_nil,Segs.len,Seg.len,Yr]) (by simp only [ZI.segs,ZN.segs,ZK.segs,ZO.segs,Ys.segs,ZQ.segs,YO.segs,ZU.segs,cat,List.cons_append,List.nil_append,List.append_nil,Segs.len,Seg.len,Yr])) (fun _ h=>h.c) ?_
       refine Xu rfl rfl F.elem35 F.zero49 rfl rfl (.cons rfl (by constructor) .nil) rfl rfl (by simp only [List.map_cons,List.map_nil] <;> rfl) rfl ?_;intro b15 hob16
       refine ZD ?_;refine Zw (WE ?_);refine Zp (Y_pk [3,2] ?_);refine Yq ?_
       refine Yg (.inr rfl) (.cell rfl (by repeat first|exact List.Mem.head _|refine List.Mem.tail _ ?_|refine List.mem_append_right _ ?_) F.lay32 rfl rfl (.tmp rfl .nil)) (fun w hw=>?_)
       have h1:ZK.nd ⟨⟨⟨oa,oi⟩,⟨oq,oj⟩,⟨o1a,o1c,o1l⟩,⟨o2a,o2c,o2l⟩⟩,Zt,Zs,ZC,Zz,ZL,-1,Zy,Zu,Zo,Zv,Zn,Zx,⟨Zr,Zq,Zl⟩,ZE,ZF⟩=if (ZK.nd ⟨⟨⟨Za,Zb⟩,⟨Zf,Zh⟩,⟨Zj,Zi,Zg⟩,⟨Ze,Zd,Zc⟩⟩,Zt,Zs,ZC,Zz,ZL,ZB,Zy,Zu,Zo,Zv,Zn,Zx,⟨Zr,Zq,Zl⟩,ZE,ZF⟩).askTo≠-1 then { (ZK.nd ⟨⟨⟨Za,Zb⟩,⟨Zf,Zh⟩,⟨Zj,Zi,Zg⟩,⟨Ze,Zd,Zc⟩⟩,Zt,Zs,ZC,Zz,ZL,ZB,Zy,Zu,Zo,Zv,Zn,Zx,⟨Zr,Zq,Zl⟩,ZE,ZF⟩) with table:=XM (ZK.nd ⟨⟨⟨Za,Zb⟩,⟨Zf,Zh⟩,⟨Zj,Zi,Zg⟩,⟨Ze,Zd,Zc⟩⟩,Zt,Zs,ZC,Zz,ZL,ZB,Zy,Zu,Zo,Zv,Zn,Zx,⟨Zr,Zq,Zl⟩,ZE,ZF⟩).table (ZK.nd ⟨⟨⟨Za,Zb⟩,⟨Zf,Zh⟩,⟨Zj,Zi,Zg⟩,⟨Ze,Zd,Zc⟩⟩,Zt,Zs,ZC,Zz,ZL,ZB,Zy,Zu,Zo,Zv,Zn,Zx,⟨Zr,Zq,Zl⟩,ZE,ZF⟩).askTo,askTo:=-1 } else (ZK.nd ⟨⟨⟨Za,Zb⟩,⟨Zf,Zh⟩,⟨Zj,Zi,Zg⟩,⟨Ze,Zd,Zc⟩⟩,Zt,Zs,ZC,Zz,ZL,ZB,Zy,Zu,Zo,Zv,Zn,Zx,⟨Zr,Zq,Zl⟩,ZE,ZF⟩):=by
        rw [if_pos (by show ZB≠-1;omega)]
        show _=_
        rw [show XM (ZK.nd ⟨⟨⟨Za,Zb⟩,⟨Zf,Zh⟩,⟨Zj,Zi,Zg⟩,⟨Ze,Zd,Zc⟩⟩,Zt,Zs,ZC,Zz,ZL,ZB,Zy,Zu,Zo,Zv,Zn,Zx,⟨Zr,Zq,Zl⟩,ZE,ZF⟩).table (ZK.nd ⟨⟨⟨Za,Zb⟩,⟨Zf,Zh⟩,⟨Zj,Zi,Zg⟩,⟨Ze,Zd,Zc⟩⟩,Zt,Zs,ZC,Zz,ZL,ZB,Zy,Zu,Zo,Zv,Zn,Zx,⟨Zr,Zq,Zl⟩,ZE,ZF⟩).askTo=_ from hot.symm];rfl
       have h2:ZK.nd ⟨⟨⟨Yc,Yp⟩,⟨Yh,Yu⟩,⟨YA,Yz,Ye⟩,⟨Yk,Yj,Yi⟩⟩,Xn,Xo,XI,Xm,XX,Xx,Xp,Xj,YY,Xk,YZ,Xl,⟨Xc,Xb,Xa⟩,XH,XG⟩=if (ZK.nd ⟨⟨⟨oa,oi⟩,⟨oq,oj⟩,⟨o1a,o1c,o1l⟩,⟨o2a,o2c,o2l⟩⟩,Zt,Zs,ZC,Zz,ZL,-1,Zy,Zu,Zo,Zv,Zn,Zx,⟨Zr,Zq,Zl⟩,ZE,ZF⟩).table.succ=[]∧(ZK.nd ⟨⟨⟨oa,oi⟩,⟨oq,oj⟩,⟨o1a,o1c,o1l⟩,⟨o2a,o2c,o2l⟩⟩,Zt,Zs,ZC,Zz,ZL,-1,Zy,Zu,Zo,Zv,Zn,Zx,⟨Zr,Zq,Zl⟩,ZE,ZF⟩).table.pred≠Xi then WA (ZK.nd ⟨⟨⟨oa,oi⟩,⟨oq,oj⟩,⟨o1a,o1c,o1l⟩,⟨o2a,o2c,o2l⟩⟩,Zt,Zs,ZC,Zz,ZL,-1,Zy,Zu,Zo,Zv,Zn,Zx,⟨Zr,Zq,Zl⟩,ZE,ZF⟩) (ZK.nd ⟨⟨⟨oa,oi⟩,⟨oq,oj⟩,⟨o1a,o1c,o1l⟩,⟨o2a,o2c,o2l⟩⟩,Zt,Zs,ZC,Zz,ZL,-1,Zy,Zu,Zo,Zv,Zn,Zx,⟨Zr,Zq,Zl⟩,ZE,ZF⟩).table.pred [] else (ZK.nd ⟨⟨⟨oa,oi⟩,⟨oq,oj⟩,⟨o1a,o1c,o1l⟩,⟨o2a,o2c,o2l⟩⟩,Zt,Zs,ZC,Zz,ZL,-1,Zy,Zu,Zo,Zv,Zn,Zx,⟨Zr,Zq,Zl⟩,ZE,ZF⟩):=by
        rw [if_pos ⟨show o1l=[] from List.length_eq_zero_iff.1 (by omega),show (⟨oq,oj⟩:ZI)≠Xi from (by assumption)⟩];exact hv1
       have h3:=Va (n:=ZK.nd ⟨⟨⟨Za,Zb⟩,⟨Zf,Zh⟩,⟨Zj,Zi,Zg⟩,⟨Ze,Zd,Zc⟩⟩,Zt,Zs,ZC,Zz,ZL,ZB,Zy,Zu,Zo,Zv,Zn,Zx,⟨Zr,Zq,Zl⟩,ZE,ZF⟩) (by show Zs=true;simp_all) h1 h2
       have hne:0<Ye.length:=by omega
       rw [if_neg (show ¬(ZK.nd ⟨⟨⟨Yc,Yp⟩,⟨Yh,Yu⟩,⟨YA,Yz,Ye⟩,⟨Yk,Yj,Yi⟩⟩,Xn,Xo,XI,Xm,XX,Xx,Xp,Xj,YY,Xk,YZ,Xl,⟨Xc,Xb,Xa⟩,XH,XG⟩).table.succ=[] from (fun q1=>absurd (show Ye.length=0 from congrArg List.length q1) (by omega))),show Wi (ZK.nd ⟨⟨⟨Yc,Yp⟩,⟨Yh,Yu⟩,⟨YA,Yz,Ye⟩,⟨Yk,Yj,Yi⟩⟩,Xn,Xo,XI,Xm,XX,Xx,Xp,Xj,YY,Xk,YZ,Xl,⟨Xc,Xb,Xa⟩,XH,XG⟩).table=Ye[0] from first_at (t:=(ZK.nd ⟨⟨⟨Yc,Yp⟩,⟨Yh,Yu⟩,⟨YA,Yz,Ye⟩,⟨Yk,Yj,Yi⟩⟩,Xn,Xo,XI,Xm,XX,Xx,Xp,Xj,YY,Xk,YZ,Xl,⟨Xc,Xb,Xa⟩,XH,XG⟩).table) hne] at h3
       obtain ⟨M9,j1,j2,j3⟩:=OSl.frz (H:=H) (l:=[(⟨Ye[0].addr,(⟨3,⟨Yc,Yp⟩,r9,0,⟨none,0,[]⟩,false,Xi,⟨none,0,[]⟩⟩:ZO)⟩:Ys)]) (f:=Ys.segs) (show OSl 49 68 _ _ ([(⟨Ye[0].addr,(⟨3,⟨Yc,Yp⟩,r9,0,⟨none,0,[]⟩,false,Xi,⟨none,0,[]⟩⟩:ZO)⟩:Ys)].map Ys.segs) from hob16) (hw.c)
       refine ⟨_,M9,[],rfl,Mem.le.trans (hM2.trans (hm3.trans hm4)) j1,j2,rfl,⟨⟨⟨Yc,Yp⟩,⟨Yh,Yu⟩,⟨YA,Yz,Ye⟩,⟨Yk,Yj,Yi⟩⟩,Xn,Xo,XI,Xm,r9,Ye[0].addr,r9,Xj,YY,Xk,YZ,Xl,⟨Xc,Xb,Xa⟩,XH,XG⟩,⟨_,1,[(⟨Ye[0].addr,(⟨3,⟨Yc,Yp⟩,r9,0,⟨none,0,[]⟩,false,Xi,⟨none,0,[]⟩⟩:ZO)⟩:Ys)]⟩,rfl,?_,?_,⟨(okv:ZK.ok _ ⟨⟨⟨Yc,Yp⟩,⟨Yh,Yu⟩,⟨YA,Yz,Ye⟩,⟨Yk,Yj,Yi⟩⟩,Xn,Xo,XI,Xm,XX,Xx,Xp,Xj,YY,Xk,YZ,Xl,⟨Xc,Xb,Xa⟩,XH,XG⟩).h0.mono j1,(okv:ZK.ok _ ⟨⟨⟨Yc,Yp⟩,⟨Yh,Yu⟩,⟨YA,Yz,Ye⟩,⟨Yk,Yj,Yi⟩⟩,Xn,Xo,XI,Xm,XX,Xx,Xp,Xj,YY,Xk,YZ,Xl,⟨Xc,Xb,Xa⟩,XH,XG⟩).h1.mono j1⟩,j3,fun y hy=>by obtain rfl:=List.mem_singleton.1 hy;exact ⟨⟨SlK.nil,SlK.nil⟩⟩⟩
       ·rw [h3,← hr9];rfl
       ·rw [h3,← hr9];rfl
     ·replace hc13:=nF hc13
      refine YE (Zp (Y_pk [3,2,1] ?_))
      iterate 2 refine ZJ ?_
      refine Zm (l:=[0,1,2,3,4]) rfl ?_;refine Zk F.foff32_0 ?_;refine Zk F.foff28_2 ?_;refine ZH F.lay26 ?_;refine YW F.elem26 ?_;refine YJ ?_;refine Zw (Zp (Y_pk [69,3,2,1] ?_))
      refine YC rfl (fun hc17=>?_) (fun hc17=>?_)
      ·replace hc17:=dT hc17
       refine ZJ (Zm (l:=[0,1,2]) rfl ?_);refine ZH F.lay32 ?_;refine Xq F.lay32 ?_;refine ZD ?_;refine Zw (Zp (Y_pk [3,2,1] ?_));refine Yq (YS ?_)
       refine Yg (.inr rfl) (.cell rfl (by repeat first|exact List.Mem.head _|refine List.Mem.tail _ ?_|refine List.mem_append_right _ ?_) F.lay32 rfl rfl (.tmp rfl .nil)) (fun w hw=>?_)
       have h1:ZK.nd ⟨⟨⟨oa,oi⟩,⟨oq,oj⟩,⟨o1a,o1c,o1l⟩,⟨o2a,o2c,o2l⟩⟩,Zt,Zs,ZC,Zz,ZL,-1,Zy,Zu,Zo,Zv,Zn,Zx,⟨Zr,Zq,Zl⟩,ZE,ZF⟩=if (ZK.nd ⟨⟨⟨Za,Zb⟩,⟨Zf,Zh⟩,⟨Zj,Zi,Zg⟩,⟨Ze,Zd,Zc⟩⟩,Zt,Zs,ZC,Zz,ZL,ZB,Zy,Zu,Zo,Zv,Zn,Zx,⟨Zr,Zq,Zl⟩,ZE,ZF⟩).askTo≠-1 then { (ZK.nd ⟨⟨⟨Za,Zb⟩,⟨Zf,Zh⟩,⟨Zj,Zi,Zg⟩,⟨Ze,Zd,Zc⟩⟩,Zt,Zs,ZC,Zz,ZL,ZB,Zy,Zu,Zo,Zv,Zn,Zx,⟨Zr,Zq,Zl⟩,ZE,ZF⟩) with table:=XM (ZK.nd ⟨⟨⟨Za,Zb⟩,⟨Zf,Zh⟩,⟨Zj,Zi,Zg⟩,⟨Ze,Zd,Zc⟩⟩,Zt,Zs,ZC,Zz,ZL,ZB,Zy,Zu,Zo,Zv,Zn,Zx,⟨Zr,Zq,Zl⟩,ZE,ZF⟩).table (ZK.nd ⟨⟨⟨Za,Zb⟩,⟨Zf,Zh⟩,⟨Zj,Zi,Zg⟩,⟨Ze,Zd,Zc⟩⟩,Zt,Zs,ZC,Zz,ZL,ZB,Zy,Zu,Zo,Zv,Zn,Zx,⟨Zr,Zq,Zl⟩,ZE,ZF⟩).askTo,askTo:=-1 } else (ZK.nd ⟨⟨⟨Za,Zb⟩,⟨Zf,Zh⟩,⟨Zj,Zi,Zg⟩,⟨Ze,Zd,Zc⟩⟩,Zt,Zs,ZC,Zz,ZL,ZB,Zy,Zu,Zo,Zv,Zn,Zx,⟨Zr,Zq,Zl⟩,ZE,ZF⟩):=by
        rw [if_pos (by show ZB≠-1;omega)]
        show _=_
        rw [show XM (ZK.nd ⟨⟨⟨Za,Zb⟩,⟨Zf,Zh⟩,⟨Zj,Zi,Zg⟩,⟨Ze,Zd,Zc⟩⟩,Zt,Zs,ZC,Zz,ZL,ZB,Zy,Zu,Zo,Zv,Zn,Zx,⟨Zr,Zq,Zl⟩,ZE,ZF⟩).table (ZK.nd ⟨⟨⟨Za,Zb⟩,⟨Zf,Zh⟩,⟨Zj,Zi,Zg⟩,⟨Ze,Zd,Zc⟩⟩,Zt,Zs,ZC,Zz,ZL,ZB,Zy,Zu,Zo,Zv,Zn,Zx,⟨Zr,Zq,Zl⟩,ZE,ZF⟩).askTo=_ from hot.symm];rfl
       have h2:ZK.nd ⟨⟨⟨oa,oi⟩,⟨oq,oj⟩,⟨o1a,o1c,o1l⟩,⟨o2a,o2c,o2l⟩⟩,Zt,Zs,ZC,Zz,ZL,-1,Zy,Zu,Zo,Zv,Zn,Zx,⟨Zr,Zq,Zl⟩,ZE,ZF⟩=if (ZK.nd ⟨⟨⟨oa,oi⟩,⟨oq,oj⟩,⟨o1a,o1c,o1l⟩,⟨o2a,o2c,o2l⟩⟩,Zt,Zs,ZC,Zz,ZL,-1,Zy,Zu,Zo,Zv,Zn,Zx,⟨Zr,Zq,Zl⟩,ZE,ZF⟩).table.succ=[]∧(ZK.nd ⟨⟨⟨oa,oi⟩,⟨oq,oj⟩,⟨o1a,o1c,o1l⟩,⟨o2a,o2c,o2l⟩⟩,Zt,Zs,ZC,Zz,ZL,-1,Zy,Zu,Zo,Zv,Zn,Zx,⟨Zr,Zq,Zl⟩,ZE,ZF⟩).table.pred≠Xi then WA (ZK.nd ⟨⟨⟨oa,oi⟩,⟨oq,oj⟩,⟨o1a,o1c,o1l⟩,⟨o2a,o2c,o2l⟩⟩,Zt,Zs,ZC,Zz,ZL,-1,Zy,Zu,Zo,Zv,Zn,Zx,⟨Zr,Zq,Zl⟩,ZE,ZF⟩) (ZK.nd ⟨⟨⟨oa,oi⟩,⟨oq,oj⟩,⟨o1a,o1c,o1l⟩,⟨o2a,o2c,o2l⟩⟩,Zt,Zs,ZC,Zz,ZL,-1,Zy,Zu,Zo,Zv,Zn,Zx,⟨Zr,Zq,Zl⟩,ZE,ZF⟩).table.pred [] else (ZK.nd ⟨⟨⟨oa,oi⟩,⟨oq,oj⟩,⟨o1a,o1c,o1l⟩,⟨o2a,o2c,o2l⟩⟩,Zt,Zs,ZC,Zz,ZL,-1,Zy,Zu,Zo,Zv,Zn,Zx,⟨Zr,Zq,Zl⟩,ZE,ZF⟩):=by
        rw [if_neg (by rintro ⟨q1,q2⟩;exact q2 (show (⟨oq,oj⟩:ZI)=Xi from (by assumption)))]
       have h3:=Va (n:=ZK.nd ⟨⟨⟨Za,Zb⟩,⟨Zf,Zh⟩,⟨Zj,Zi,Zg⟩,⟨Ze,Zd,Zc⟩⟩,Zt,Zs,ZC,Zz,ZL,ZB,Zy,Zu,Zo,Zv,Zn,Zx,⟨Zr,Zq,Zl⟩,ZE,ZF⟩) (by show Zs=true;simp_all) h1 h2
       rw [if_pos (show (ZK.nd ⟨⟨⟨oa,oi⟩,⟨oq,oj⟩,⟨o1a,o1c,o1l⟩,⟨o2a,o2c,o2l⟩⟩,Zt,Zs,ZC,Zz,ZL,-1,Zy,Zu,Zo,Zv,Zn,Zx,⟨Zr,Zq,Zl⟩,ZE,ZF⟩).table.succ=[] from List.length_eq_zero_iff.1 (show o1l.length=0 from by omega))] at h3
       exact ⟨_,M3,[],rfl,(hM2.trans hm3),hw.c,rfl,⟨⟨⟨oa,oi⟩,⟨oq,oj⟩,⟨o1a,o1c,o1l⟩,⟨o2a,o2c,o2l⟩⟩,Zt,Zs,ZC,Zz,ZL,-1,Zy,Zu,Zo,Zv,Zn,Zx,⟨Zr,Zq,Zl⟩,ZE,ZF⟩,⟨none,0,[]⟩,rfl,by rw [h3],by rw [h3];rfl,⟨okt,k9.mono hm3⟩,SlK.nil,fun y hy=>by cases hy⟩
      ·replace hc17:=dF hc17
       (exfalso;omega)
    ·replace hc10:=dF hc10
     iterate 5 refine ZY ?_
     refine ZM ?_;refine Zw (Zp (Y_pk [59,3,2,1] ?_));refine Wz rfl ?_;refine YE (Zp (Y_pk [3,2,1] ?_))
     iterate 2 refine ZJ ?_
     refine Zm (l:=[0,1,2,3,4]) rfl ?_;refine Zk F.foff32_0 ?_;refine Zk F.foff28_2 ?_;refine ZH F.lay26 ?_;refine YW F.elem26 ?_;refine YJ ?_;refine Zw (Zp (Y_pk [69,3,2,1] ?_))
     refine YC rfl (fun hc20=>?_) (fun hc20=>?_)
     ·replace hc20:=dT hc20
      (exfalso;omega)
     ·replace hc20:=dF hc20
      refine YE (Zp (Y_pk [3,2,1] ?_));refine ZJ ?_
      have s_o:=okt.h0.h1
      simp only at s_o
      have n_o:(o1l.map ZI.segs).length=o1l.length:=List.length_map ..
      have c_m:0<o1l.length:=by omega
      refine Zm (l:=[0,1,2,3,4]) rfl ?_;refine Zk F.foff32_5 ?_;refine ZH F.lay29 ?_;refine Xz rfl rfl rfl rfl rfl (by exact Vw _) rfl ?_
      obtain ⟨r9,hr9⟩:∃ v,nxR ZL=v:=⟨_,rfl⟩
      refine WY 73 rfl (show _=Value.int .u64 r9 from by rw [← hr9];exact congrArg (Value.int .u64) (nx_w64 _)) ?_;refine Zk F.foff32_5 ?_;refine ZX F.lay29 ?_;refine Zw (Zp (Y_pk [3,2,1] ?_));refine ZJ (Zm (l:=[0,1,2,3,4,5,6,7]) rfl ?_);refine Zk F.foff32_0 ?_;refine Zk F.foff28_2 ?_;refine ZH F.lay26 ?_;refine YM rfl rfl rfl rfl F.elem26 (by rfl) (by omega) (by exact SlM.plain (by assumption) (by (simp;omega))) rfl ?_;refine Xt rfl rfl rfl (by exact SlM.plain (by assumption) (by (simp;omega))) F.foff25_0 rfl ?_;refine Xs rfl rfl rfl (by assumption) (by exact XQ (by omega)) F.lay3 rfl rfl rfl ?_;refine Zk F.foff32_6 ?_;refine ZX F.lay3 ?_;refine Zw (Zp (Y_pk [3,2,1] ?_));refine ZJ (Zm (l:=[0,1,2,3]) rfl ?_)
      refine Zk F.foff32_5 ?_;refine ZH F.lay29 ?_;refine Zk F.foff32_7 ?_;refine ZX F.lay29 ?_;refine Zw (Zp (Y_pk [3,2,1] ?_));refine ZJ (C_region_anyPR (Hin:=[(b2,_)]) [0,1,2,3,4,5,6,7,9,8,10] [9] #[0,0,2,0,0,16,56,126,254,121,1023] (by repeat first|exact Rem.here _|exact Rem.two|apply Rem.skip|apply Rem.over) (by kernel_rfl) (by kernel_rfl) ?_);refine ZH F.lay32 ?_;refine Zk F.foff32_6 ?_;refine ZH F.lay3 ?_;refine ZH F.lay32 ?_;refine Zk F.foff32_5 ?_;refine ZH F.lay29 ?_;refine X_fs rfl rfl F.ok58 rfl (rlett_ok _ ⟨⟨⟨oa,oi⟩,⟨oq,oj⟩,⟨o1a,o1c,o1l⟩,⟨o2a,o2c,o2l⟩⟩,Zt,Zs,ZC,Zz,r9,o1l[0].addr,r9,Zu,Zo,Zv,Zn,Zx,⟨Zr,Zq,Zl⟩,ZE,ZF⟩ 3 r9) rfl ?_
      rintro _ rfl
      refine Xy rfl rfl F.bld49 (.cons rfl (by constructor) (.cons rfl (by constructor) .nil)) rfl rfl ?_;refine X_storeE rfl rfl rfl rfl rfl (by constructor) (by ((try simp only [cat,List.cons_append,List.nil_append,List.append_nil]);(repeat (first|exact XC|refine XN ?_|(refine YP ?_ ?_;rfl)));done)) (by repeat first|exact Upd.head|apply Upd.tail|apply Upd.over) F.lay32 (by simp only [ZI.segs,ZN.segs,ZK.segs,ZO.segs,Ys.segs,ZQ.segs,YO.segs,ZU.segs,cat,List.cons_append,List.nil_append,List.append_nil,Segs.len,Seg.len,Yr]) (VN (m:=78) rfl (by simp only [ZI.segs,ZN.segs,ZK.segs,ZO.segs,Ys.segs,ZQ.segs,YO.segs,ZU.segs,cat,List.cons_append,List.nil_append,List.append_nil,Segs.len,Seg.len,Yr]) (by simp only [ZI.segs,ZN.segs,ZK.segs,ZO.segs,Ys.segs,ZQ.segs,YO.segs,ZU.segs,cat,List.cons_append,List.nil_append,List.append_nil,Segs.len,Seg.len,Yr])) (fun _ h=>h.c) ?_
      refine Xu rfl rfl F.elem35 F.zero49 rfl rfl (.cons rfl (by constructor) .nil) rfl rfl (by simp only [List.map_cons,List.map_nil] <;> rfl) rfl ?_;intro b21 hob22
      refine ZD ?_;refine Zw (WE ?_);refine Zp (Y_pk [3,2] ?_);refine Yq ?_
      refine Yg (.inr rfl) (.cell rfl (by repeat first|exact List.Mem.head _|refine List.Mem.tail _ ?_|refine List.mem_append_right _ ?_) F.lay32 rfl rfl (.tmp rfl .nil)) (fun w hw=>?_)
      have h1:ZK.nd ⟨⟨⟨oa,oi⟩,⟨oq,oj⟩,⟨o1a,o1c,o1l⟩,⟨o2a,o2c,o2l⟩⟩,Zt,Zs,ZC,Zz,ZL,-1,Zy,Zu,Zo,Zv,Zn,Zx,⟨Zr,Zq,Zl⟩,ZE,ZF⟩=if (ZK.nd ⟨⟨⟨Za,Zb⟩,⟨Zf,Zh⟩,⟨Zj,Zi,Zg⟩,⟨Ze,Zd,Zc⟩⟩,Zt,Zs,ZC,Zz,ZL,ZB,Zy,Zu,Zo,Zv,Zn,Zx,⟨Zr,Zq,Zl⟩,ZE,ZF⟩).askTo≠-1 then { (ZK.nd ⟨⟨⟨Za,Zb⟩,⟨Zf,Zh⟩,⟨Zj,Zi,Zg⟩,⟨Ze,Zd,Zc⟩⟩,Zt,Zs,ZC,Zz,ZL,ZB,Zy,Zu,Zo,Zv,Zn,Zx,⟨Zr,Zq,Zl⟩,ZE,ZF⟩) with table:=XM (ZK.nd ⟨⟨⟨Za,Zb⟩,⟨Zf,Zh⟩,⟨Zj,Zi,Zg⟩,⟨Ze,Zd,Zc⟩⟩,Zt,Zs,ZC,Zz,ZL,ZB,Zy,Zu,Zo,Zv,Zn,Zx,⟨Zr,Zq,Zl⟩,ZE,ZF⟩).table (ZK.nd ⟨⟨⟨Za,Zb⟩,⟨Zf,Zh⟩,⟨Zj,Zi,Zg⟩,⟨Ze,Zd,Zc⟩⟩,Zt,Zs,ZC,Zz,ZL,ZB,Zy,Zu,Zo,Zv,Zn,Zx,⟨Zr,Zq,Zl⟩,ZE,ZF⟩).askTo,askTo:=-1 } else (ZK.nd ⟨⟨⟨Za,Zb⟩,⟨Zf,Zh⟩,⟨Zj,Zi,Zg⟩,⟨Ze,Zd,Zc⟩⟩,Zt,Zs,ZC,Zz,ZL,ZB,Zy,Zu,Zo,Zv,Zn,Zx,⟨Zr,Zq,Zl⟩,ZE,ZF⟩):=by
       rw [if_pos (by show ZB≠-1;omega)]
       show _=_
       rw [show XM (ZK.nd ⟨⟨⟨Za,Zb⟩,⟨Zf,Zh⟩,⟨Zj,Zi,Zg⟩,⟨Ze,Zd,Zc⟩⟩,Zt,Zs,ZC,Zz,ZL,ZB,Zy,Zu,Zo,Zv,Zn,Zx,⟨Zr,Zq,Zl⟩,ZE,ZF⟩).table (ZK.nd ⟨⟨⟨Za,Zb⟩,⟨Zf,Zh⟩,⟨Zj,Zi,Zg⟩,⟨Ze,Zd,Zc⟩⟩,Zt,Zs,ZC,Zz,ZL,ZB,Zy,Zu,Zo,Zv,Zn,Zx,⟨Zr,Zq,Zl⟩,ZE,ZF⟩).askTo=_ from hot.symm];rfl
      have h2:ZK.nd ⟨⟨⟨oa,oi⟩,⟨oq,oj⟩,⟨o1a,o1c,o1l⟩,⟨o2a,o2c,o2l⟩⟩,Zt,Zs,ZC,Zz,ZL,-1,Zy,Zu,Zo,Zv,Zn,Zx,⟨Zr,Zq,Zl⟩,ZE,ZF⟩=if (ZK.nd ⟨⟨⟨oa,oi⟩,⟨oq,oj⟩,⟨o1a,o1c,o1l⟩,⟨o2a,o2c,o2l⟩⟩,Zt,Zs,ZC,Zz,ZL,-1,Zy,Zu,Zo,Zv,Zn,Zx,⟨Zr,Zq,Zl⟩,ZE,ZF⟩).table.succ=[]∧(ZK.nd ⟨⟨⟨oa,oi⟩,⟨oq,oj⟩,⟨o1a,o1c,o1l⟩,⟨o2a,o2c,o2l⟩⟩,Zt,Zs,ZC,Zz,ZL,-1,Zy,Zu,Zo,Zv,Zn,Zx,⟨Zr,Zq,Zl⟩,ZE,ZF⟩).table.pred≠Xi then WA (ZK.nd ⟨⟨⟨oa,oi⟩,⟨oq,oj⟩,⟨o1a,o1c,o1l⟩,⟨o2a,o2c,o2l⟩⟩,Zt,Zs,ZC,Zz,ZL,-1,Zy,Zu,Zo,Zv,Zn,Zx,⟨Zr,Zq,Zl⟩,ZE,ZF⟩) (ZK.nd ⟨⟨⟨oa,oi⟩,⟨oq,oj⟩,⟨o1a,o1c,o1l⟩,⟨o2a,o2c,o2l⟩⟩,Zt,Zs,ZC,Zz,ZL,-1,Zy,Zu,Zo,Zv,Zn,Zx,⟨Zr,Zq,Zl⟩,ZE,ZF⟩).table.pred [] else (ZK.nd ⟨⟨⟨oa,oi⟩,⟨oq,oj⟩,⟨o1a,o1c,o1l⟩,⟨o2a,o2c,o2l⟩⟩,Zt,Zs,ZC,Zz,ZL,-1,Zy,Zu,Zo,Zv,Zn,Zx,⟨Zr,Zq,Zl⟩,ZE,ZF⟩):=by
       rw [if_neg (by rintro ⟨q1,q2⟩;have q3:o1l.length=0:=congrArg List.length q1;omega)]
      have h3:=Va (n:=ZK.nd ⟨⟨⟨Za,Zb⟩,⟨Zf,Zh⟩,⟨Zj,Zi,Zg⟩,⟨Ze,Zd,Zc⟩⟩,Zt,Zs,ZC,Zz,ZL,ZB,Zy,Zu,Zo,Zv,Zn,Zx,⟨Zr,Zq,Zl⟩,ZE,ZF⟩) (by show Zs=true;simp_all) h1 h2
      have hne:0<o1l.length:=by omega
      rw [if_neg (show ¬(ZK.nd ⟨⟨⟨oa,oi⟩,⟨oq,oj⟩,⟨o1a,o1c,o1l⟩,⟨o2a,o2c,o2l⟩⟩,Zt,Zs,ZC,Zz,ZL,-1,Zy,Zu,Zo,Zv,Zn,Zx,⟨Zr,Zq,Zl⟩,ZE,ZF⟩).table.succ=[] from (fun q1=>absurd (show o1l.length=0 from congrArg List.length q1) (by omega))),show Wi (ZK.nd ⟨⟨⟨oa,oi⟩,⟨oq,oj⟩,⟨o1a,o1c,o1l⟩,⟨o2a,o2c,o2l⟩⟩,Zt,Zs,ZC,Zz,ZL,-1,Zy,Zu,Zo,Zv,Zn,Zx,⟨Zr,Zq,Zl⟩,ZE,ZF⟩).table=o1l[0] from first_at (t:=(ZK.nd ⟨⟨⟨oa,oi⟩,⟨oq,oj⟩,⟨o1a,o1c,o1l⟩,⟨o2a,o2c,o2l⟩⟩,Zt,Zs,ZC,Zz,ZL,-1,Zy,Zu,Zo,Zv,Zn,Zx,⟨Zr,Zq,Zl⟩,ZE,ZF⟩).table) hne] at h3
      obtain ⟨M9,j1,j2,j3⟩:=OSl.frz (H:=H) (l:=[(⟨o1l[0].addr,(⟨3,⟨oa,oi⟩,r9,0,⟨none,0,[]⟩,false,Xi,⟨none,0,[]⟩⟩:ZO)⟩:Ys)]) (f:=Ys.segs) (show OSl 49 68 _ _ ([(⟨o1l[0].addr,(⟨3,⟨oa,oi⟩,r9,0,⟨none,0,[]⟩,false,Xi,⟨none,0,[]⟩⟩:ZO)⟩:Ys)].map Ys.segs) from hob22) (hw.c)
      refine ⟨_,M9,[],rfl,Mem.le.trans (hM2.trans hm3) j1,j2,rfl,⟨⟨⟨oa,oi⟩,⟨oq,oj⟩,⟨o1a,o1c,o1l⟩,⟨o2a,o2c,o2l⟩⟩,Zt,Zs,ZC,Zz,r9,o1l[0].addr,r9,Zu,Zo,Zv,Zn,Zx,⟨Zr,Zq,Zl⟩,ZE,ZF⟩,⟨_,1,[(⟨o1l[0].addr,(⟨3,⟨oa,oi⟩,r9,0,⟨none,0,[]⟩,false,Xi,⟨none,0,[]⟩⟩:ZO)⟩:Ys)]⟩,rfl,?_,?_,⟨(⟨okt,k9.mono hm3⟩:ZK.ok _ ⟨⟨⟨oa,oi⟩,⟨oq,oj⟩,⟨o1a,o1c,o1l⟩,⟨o2a,o2c,o2l⟩⟩,Zt,Zs,ZC,Zz,ZL,-1,Zy,Zu,Zo,Zv,Zn,Zx,⟨Zr,Zq,Zl⟩,ZE,ZF⟩).h0.mono j1,(⟨okt,k9.mono hm3⟩:ZK.ok _ ⟨⟨⟨oa,oi⟩,⟨oq,oj⟩,⟨o1a,o1c,o1l⟩,⟨o2a,o2c,o2l⟩⟩,Zt,Zs,ZC,Zz,ZL,-1,Zy,Zu,Zo,Zv,Zn,Zx,⟨Zr,Zq,Zl⟩,ZE,ZF⟩).h1.mono j1⟩,j3,fun y hy=>by obtain rfl:=List.mem_singleton.1 hy;exact ⟨⟨SlK.nil,SlK.nil⟩⟩⟩
      ·rw [h3,← hr9];rfl
      ·rw [h3,← hr9];rfl
   ·replace hc9:=nF hc9
    refine YE (Zp (Y_pk [3,2,1] ?_))
    iterate 2 refine ZJ ?_
    refine YL (l:=[0,1,2,3,4,5,6,7,8,9,10,11]) #[0,1,3,7,15,31,63,127,255,63,1023,2047] _ rfl (by kernel_rfl) (by kernel_rfl) St.drawn (fun _ h=>h) ?_;refine Zk F.foff32_0 ?_;refine Zk F.foff28_2 ?_;refine ZH F.lay26 ?_;refine YW F.elem26 ?_;refine YJ ?_;refine ZA ?_
    refine Yw 53 rfl (fun hc23=>?_) (fun hc23=>?_)
    ·replace hc23:=dT hc23
     refine Zk F.foff32_0 ?_;refine Zk F.foff28_1 ?_;refine ZH F.lay25 ?_;refine X_fs rfl rfl F.ok67 rfl (rNone_ok _) rfl ?_
     rintro _ rfl
     refine WY 57 rfl (show _=aggV [.one (.int .i64 (-1)),Yr 0] from rfl) ?_
     refine WI (m:=20) rfl rfl rfl rfl rfl (by constructor) (by constructor) F.lay25 F.kinds25 rfl F.guard25 (by exact XR (⟨_,_⟩)) (by exact XR (⟨_,_⟩)) rfl rfl rfl ?_;intro c24 he25
     replace he25:c24=true↔¬(Segs.cells _=Segs.cells _):=he25
     obtain rfl:=neD he25 (ZI.inj (x:=⟨_,_⟩) (y:=⟨_,_⟩));clear he25
     refine ZM ?_;refine Zw (Zp (Y_pk [59,3,2,1] ?_))
     refine YC rfl (fun hc26=>?_) (fun hc26=>?_)
     ·replace hc26:=nT hc26
      refine Zm (l:=[0,1,2,3,4,5]) rfl ?_;refine ZH F.lay32 ?_;refine Zk F.foff32_0 ?_;refine Zk F.foff28_1 ?_;refine ZH F.lay25 ?_;refine X_fn rfl rfl F.ok95 rfl (radopt_ok _ ⟨⟨⟨Za,Zb⟩,⟨Zf,Zh⟩,⟨Zj,Zi,Zg⟩,⟨Ze,Zd,Zc⟩⟩,Zt,Zs,ZC,Zz,ZL,ZB,Zy,Zu,Zo,Zv,Zn,Zx,⟨Zr,Zq,Zl⟩,ZE,ZF⟩ ⟨Zf,Zh⟩ ⟨none,0,[]⟩ ⟨(Yt.mono hM2),k9⟩ SlK.nil) rfl ?_
      rintro _ M4 hm4 ⟨⟨⟨⟨Yc,Yp⟩,⟨Yh,Yu⟩,⟨YA,Yz,Ye⟩,⟨Yk,Yj,Yi⟩⟩,Xn,Xo,XI,Xm,XX,Xx,Xp,Xj,YY,Xk,YZ,Xl,⟨Xc,Xb,Xa⟩,XH,XG⟩,rfl,hv1,okv⟩
      refine Xq F.lay32 ?_;refine Zw (Zp (Y_pk [3,2,1] ?_))
      iterate 2 refine ZJ ?_
      refine Zm (l:=[0,1,2,3,4]) rfl ?_;refine Zk F.foff32_0 ?_;refine Zk F.foff28_2 ?_;refine ZH F.lay26 ?_;refine YW F.elem26 ?_;refine YJ ?_;refine Zw (Zp (Y_pk [69,3,2,1] ?_))
      refine YC rfl (fun hc27=>?_) (fun hc27=>?_)
      ·replace hc27:=dT hc27
       refine ZJ (Zm (l:=[0,1,2]) rfl ?_);refine ZH F.lay32 ?_;refine Xq F.lay32 ?_;refine ZD ?_;refine Zw (Zp (Y_pk [3,2,1] ?_));refine Yq (YS ?_)
       refine Yg (.inr rfl) (.cell rfl (by repeat first|exact List.Mem.head _|refine List.Mem.tail _ ?_|refine List.mem_append_right _ ?_) F.lay32 rfl rfl (.tmp rfl .nil)) (fun w hw=>?_)
       have h1:ZK.nd ⟨⟨⟨Za,Zb⟩,⟨Zf,Zh⟩,⟨Zj,Zi,Zg⟩,⟨Ze,Zd,Zc⟩⟩,Zt,Zs,ZC,Zz,ZL,ZB,Zy,Zu,Zo,Zv,Zn,Zx,⟨Zr,Zq,Zl⟩,ZE,ZF⟩=if (ZK.nd ⟨⟨⟨Za,Zb⟩,⟨Zf,Zh⟩,⟨Zj,Zi,Zg⟩,⟨Ze,Zd,Zc⟩⟩,Zt,Zs,ZC,Zz,ZL,ZB,Zy,Zu,Zo,Zv,Zn,Zx,⟨Zr,Zq,Zl⟩,ZE,ZF⟩).askTo≠-1 then { (ZK.nd ⟨⟨⟨Za,Zb⟩,⟨Zf,Zh⟩,⟨Zj,Zi,Zg⟩,⟨Ze,Zd,Zc⟩⟩,Zt,Zs,ZC,Zz,ZL,ZB,Zy,Zu,Zo,Zv,Zn,Zx,⟨Zr,Zq,Zl⟩,ZE,ZF⟩) with table:=XM (ZK.nd ⟨⟨⟨Za,Zb⟩,⟨Zf,Zh⟩,⟨Zj,Zi,Zg⟩,⟨Ze,Zd,Zc⟩⟩,Zt,Zs,ZC,Zz,ZL,ZB,Zy,Zu,Zo,Zv,Zn,Zx,⟨Zr,Zq,Zl⟩,ZE,ZF⟩).table (ZK.nd ⟨⟨⟨Za,Zb⟩,⟨Zf,Zh⟩,⟨Zj,Zi,Zg⟩,⟨Ze,Zd,Zc⟩⟩,Zt,Zs,ZC,Zz,ZL,ZB,Zy,Zu,Zo,Zv,Zn,Zx,⟨Zr,Zq,Zl⟩,ZE,ZF⟩).askTo,askTo:=-1 } else (ZK.nd ⟨⟨⟨Za,Zb⟩,⟨Zf,Zh⟩,⟨Zj,Zi,Zg⟩,⟨Ze,Zd,Zc⟩⟩,Zt,Zs,ZC,Zz,ZL,ZB,Zy,Zu,Zo,Zv,Zn,Zx,⟨Zr,Zq,Zl⟩,ZE,ZF⟩):=by
        rw [if_neg (by show ¬ZB≠-1;omega)]
       have h2:ZK.nd ⟨⟨⟨Yc,Yp⟩,⟨Yh,Yu⟩,⟨YA,Yz,Ye⟩,⟨Yk,Yj,Yi⟩⟩,Xn,Xo,XI,Xm,XX,Xx,Xp,Xj,YY,Xk,YZ,Xl,⟨Xc,Xb,Xa⟩,XH,XG⟩=if (ZK.nd ⟨⟨⟨Za,Zb⟩,⟨Zf,Zh⟩,⟨Zj,Zi,Zg⟩,⟨Ze,Zd,Zc⟩⟩,Zt,Zs,ZC,Zz,ZL,ZB,Zy,Zu,Zo,Zv,Zn,Zx,⟨Zr,Zq,Zl⟩,ZE,ZF⟩).table.succ=[]∧(ZK.nd ⟨⟨⟨Za,Zb⟩,⟨Zf,Zh⟩,⟨Zj,Zi,Zg⟩,⟨Ze,Zd,Zc⟩⟩,Zt,Zs,ZC,Zz,ZL,ZB,Zy,Zu,Zo,Zv,Zn,Zx,⟨Zr,Zq,Zl⟩,ZE,ZF⟩).table.pred≠Xi then WA (ZK.nd ⟨⟨⟨Za,Zb⟩,⟨Zf,Zh⟩,⟨Zj,Zi,Zg⟩,⟨Ze,Zd,Zc⟩⟩,Zt,Zs,ZC,Zz,ZL,ZB,Zy,Zu,Zo,Zv,Zn,Zx,⟨Zr,Zq,Zl⟩,ZE,ZF⟩) (ZK.nd ⟨⟨⟨Za,Zb⟩,⟨Zf,Zh⟩,⟨Zj,Zi,Zg⟩,⟨Ze,Zd,Zc⟩⟩,Zt,Zs,ZC,Zz,ZL,ZB,Zy,Zu,Zo,Zv,Zn,Zx,⟨Zr,Zq,Zl⟩,ZE,ZF⟩).table.pred [] else (ZK.nd ⟨⟨⟨Za,Zb⟩,⟨Zf,Zh⟩,⟨Zj,Zi,Zg⟩,⟨Ze,Zd,Zc⟩⟩,Zt,Zs,ZC,Zz,ZL,ZB,Zy,Zu,Zo,Zv,Zn,Zx,⟨Zr,Zq,Zl⟩,ZE,ZF⟩):=by
        rw [if_pos ⟨show Zg=[] from List.length_eq_zero_iff.1 (by omega),show (⟨Zf,Zh⟩:ZI)≠Xi from (by assumption)⟩];exact hv1
       have h3:=Va (n:=ZK.nd ⟨⟨⟨Za,Zb⟩,⟨Zf,Zh⟩,⟨Zj,Zi,Zg⟩,⟨Ze,Zd,Zc⟩⟩,Zt,Zs,ZC,Zz,ZL,ZB,Zy,Zu,Zo,Zv,Zn,Zx,⟨Zr,Zq,Zl⟩,ZE,ZF⟩) (by show Zs=true;simp_all) h1 h2
       rw [if_pos (show (ZK.nd ⟨⟨⟨Yc,Yp⟩,⟨Yh,Yu⟩,⟨YA,Yz,Ye⟩,⟨Yk,Yj,Yi⟩⟩,Xn,Xo,XI,Xm,XX,Xx,Xp,Xj,YY,Xk,YZ,Xl,⟨Xc,Xb,Xa⟩,XH,XG⟩).table.succ=[] from List.length_eq_zero_iff.1 (show Ye.length=0 from by omega))] at h3
       exact ⟨_,M4,[],rfl,(hM2.trans hm4),hw.c,rfl,⟨⟨⟨Yc,Yp⟩,⟨Yh,Yu⟩,⟨YA,Yz,Ye⟩,⟨Yk,Yj,Yi⟩⟩,Xn,Xo,XI,Xm,XX,Xx,Xp,Xj,YY,Xk,YZ,Xl,⟨Xc,Xb,Xa⟩,XH,XG⟩,⟨none,0,[]⟩,rfl,by rw [h3],by rw [h3];rfl,okv,SlK.nil,fun y hy=>by cases hy⟩
      ·replace hc27:=dF hc27
       refine YE (Zp (Y_pk [3,2,1] ?_));refine ZJ ?_
       have s_m:=okv.h0.h0.h1
       simp only at s_m
       have n_m:(Ye.map ZI.segs).length=Ye.length:=List.length_map ..
       have c_m:0<Ye.length:=by omega
       refine Zm (l:=[0,1,2,3,4]) rfl ?_;refine Zk F.foff32_5 ?_;refine ZH F.lay29 ?_;refine Xz rfl rfl rfl rfl rfl (by exact Vw _) rfl ?_
       obtain ⟨r9,hr9⟩:∃ v,nxR XX=v:=⟨_,rfl⟩
       refine WY 73 rfl (show _=Value.int .u64 r9 from by rw [← hr9];exact congrArg (Value.int .u64) (nx_w64 _)) ?_;refine Zk F.foff32_5 ?_;refine ZX F.lay29 ?_;refine Zw (Zp (Y_pk [3,2,1] ?_));refine ZJ (Zm (l:=[0,1,2,3,4,5,6,7]) rfl ?_);refine Zk F.foff32_0 ?_;refine Zk F.foff28_2 ?_;refine ZH F.lay26 ?_;refine YM rfl rfl rfl rfl F.elem26 (by rfl) (by omega) (by exact SlM.plain (by assumption) (by (simp;omega))) rfl ?_;refine Xt rfl rfl rfl (by exact SlM.plain (by assumption) (by (simp;omega))) F.foff25_0 rfl ?_;refine Xs rfl rfl rfl (by assumption) (by exact XQ (by omega)) F.lay3 rfl rfl rfl ?_;refine Zk F.foff32_6 ?_;refine ZX F.lay3 ?_;refine Zw (Zp (Y_pk [3,2,1] ?_));refine ZJ (Zm (l:=[0,1,2,3]) rfl ?_)
       refine Zk F.foff32_5 ?_;refine ZH F.lay29 ?_;refine Zk F.foff32_7 ?_;refine ZX F.lay29 ?_;refine Zw (Zp (Y_pk [3,2,1] ?_));refine ZJ (C_region_anyPR (Hin:=[(b2,_)]) [0,1,2,3,4,5,6,7,9,8,10] [9] #[0,0,2,0,0,16,56,126,254,121,1023] (by repeat first|exact Rem.here _|exact Rem.two|apply Rem.skip|apply Rem.over) (by kernel_rfl) (by kernel_rfl) ?_);refine ZH F.lay32 ?_;refine Zk F.foff32_6 ?_;refine ZH F.lay3 ?_;refine ZH F.lay32 ?_;refine Zk F.foff32_5 ?_;refine ZH F.lay29 ?_;refine X_fs rfl rfl F.ok58 rfl (rlett_ok _ ⟨⟨⟨Yc,Yp⟩,⟨Yh,Yu⟩,⟨YA,Yz,Ye⟩,⟨Yk,Yj,Yi⟩⟩,Xn,Xo,XI,Xm,r9,Ye[0].addr,r9,Xj,YY,Xk,YZ,Xl,⟨Xc,Xb,Xa⟩,XH,XG⟩ 3 r9) rfl ?_
       rintro _ rfl
       refine Xy rfl rfl F.bld49 (.cons rfl (by constructor) (.cons rfl (by constructor) .nil)) rfl rfl ?_;refine X_storeE rfl rfl rfl rfl rfl (by constructor) (by ((try simp only [cat,List.cons_append,List.nil_append,List.append_nil]);(repeat (first|exact XC|refine XN ?_|(refine YP ?_ ?_;rfl)));done)) (by repeat first|exact Upd.head|apply Upd.tail|apply Upd.over) F.lay32 (by simp only [ZI.segs,ZN.segs,ZK.segs,ZO.segs,Ys.segs,ZQ.segs,YO.segs,ZU.segs,cat,List.cons_append,List.nil_append,List.append_nil,Segs.len,Seg.len,Yr]) (VN (m:=78) rfl (by simp only [ZI.segs,ZN.segs,ZK.segs,ZO.segs,Ys.segs,ZQ.segs,YO.segs,ZU.segs,cat,List.cons_append,List.nil_append,List.append_nil,Segs.len,Seg.len,Yr]) (by simp only [ZI.segs,ZN.segs,ZK.segs,ZO.segs,Ys.segs,ZQ.segs,YO.segs,ZU.segs,cat,List.cons_append,List.nil_append,List.append_nil,Segs.len,Seg.len,Yr])) (fun _ h=>h.c) ?_
       refine Xu rfl rfl F.elem35 F.zero49 rfl rfl (.cons rfl (by constructor) .nil) rfl rfl (by simp only [List.map_cons,List.map_nil] <;> rfl) rfl ?_;intro b28 hob29
       refine ZD ?_;refine Zw (WE ?_);refine Zp (Y_pk [3,2] ?_);refine Yq ?_
       refine Yg (.inr rfl) (.cell rfl (by repeat first|exact List.Mem.head _|refine List.Mem.tail _ ?_|refine List.mem_append_right _ ?_) F.lay32 rfl rfl (.tmp rfl .nil)) (fun w hw=>?_)
       have h1:ZK.nd ⟨⟨⟨Za,Zb⟩,⟨Zf,Zh⟩,⟨Zj,Zi,Zg⟩,⟨Ze,Zd,Zc⟩⟩,Zt,Zs,ZC,Zz,ZL,ZB,Zy,Zu,Zo,Zv,Zn,Zx,⟨Zr,Zq,Zl⟩,ZE,ZF⟩=if (ZK.nd ⟨⟨⟨Za,Zb⟩,⟨Zf,Zh⟩,⟨Zj,Zi,Zg⟩,⟨Ze,Zd,Zc⟩⟩,Zt,Zs,ZC,Zz,ZL,ZB,Zy,Zu,Zo,Zv,Zn,Zx,⟨Zr,Zq,Zl⟩,ZE,ZF⟩).askTo≠-1 then { (ZK.nd ⟨⟨⟨Za,Zb⟩,⟨Zf,Zh⟩,⟨Zj,Zi,Zg⟩,⟨Ze,Zd,Zc⟩⟩,Zt,Zs,ZC,Zz,ZL,ZB,Zy,Zu,Zo,Zv,Zn,Zx,⟨Zr,Zq,Zl⟩,ZE,ZF⟩) with table:=XM (ZK.nd ⟨⟨⟨Za,Zb⟩,⟨Zf,Zh⟩,⟨Zj,Zi,Zg⟩,⟨Ze,Zd,Zc⟩⟩,Zt,Zs,ZC,Zz,ZL,ZB,Zy,Zu,Zo,Zv,Zn,Zx,⟨Zr,Zq,Zl⟩,ZE,ZF⟩).table (ZK.nd ⟨⟨⟨Za,Zb⟩,⟨Zf,Zh⟩,⟨Zj,Zi,Zg⟩,⟨Ze,Zd,Zc⟩⟩,Zt,Zs,ZC,Zz,ZL,ZB,Zy,Zu,Zo,Zv,Zn,Zx,⟨Zr,Zq,Zl⟩,ZE,ZF⟩).askTo,askTo:=-1 } else (ZK.nd ⟨⟨⟨Za,Zb⟩,⟨Zf,Zh⟩,⟨Zj,Zi,Zg⟩,⟨Ze,Zd,Zc⟩⟩,Zt,Zs,ZC,Zz,ZL,ZB,Zy,Zu,Zo,Zv,Zn,Zx,⟨Zr,Zq,Zl⟩,ZE,ZF⟩):=by
        rw [if_neg (by show ¬ZB≠-1;omega)]
       have h2:ZK.nd ⟨⟨⟨Yc,Yp⟩,⟨Yh,Yu⟩,⟨YA,Yz,Ye⟩,⟨Yk,Yj,Yi⟩⟩,Xn,Xo,XI,Xm,XX,Xx,Xp,Xj,YY,Xk,YZ,Xl,⟨Xc,Xb,Xa⟩,XH,XG⟩=if (ZK.nd ⟨⟨⟨Za,Zb⟩,⟨Zf,Zh⟩,⟨Zj,Zi,Zg⟩,⟨Ze,Zd,Zc⟩⟩,Zt,Zs,ZC,Zz,ZL,ZB,Zy,Zu,Zo,Zv,Zn,Zx,⟨Zr,Zq,Zl⟩,ZE,ZF⟩).table.succ=[]∧(ZK.nd ⟨⟨⟨Za,Zb⟩,⟨Zf,Zh⟩,⟨Zj,Zi,Zg⟩,⟨Ze,Zd,Zc⟩⟩,Zt,Zs,ZC,Zz,ZL,ZB,Zy,Zu,Zo,Zv,Zn,Zx,⟨Zr,Zq,Zl⟩,ZE,ZF⟩).table.pred≠Xi then WA (ZK.nd ⟨⟨⟨Za,Zb⟩,⟨Zf,Zh⟩,⟨Zj,Zi,Zg⟩,⟨Ze,Zd,Zc⟩⟩,Zt,Zs,ZC,Zz,ZL,ZB,Zy,Zu,Zo,Zv,Zn,Zx,⟨Zr,Zq,Zl⟩,ZE,ZF⟩) (ZK.nd ⟨⟨⟨Za,Zb⟩,⟨Zf,Zh⟩,⟨Zj,Zi,Zg⟩,⟨Ze,Zd,Zc⟩⟩,Zt,Zs,ZC,Zz,ZL,ZB,Zy,Zu,Zo,Zv,Zn,Zx,⟨Zr,Zq,Zl⟩,ZE,ZF⟩).table.pred [] else (ZK.nd ⟨⟨⟨Za,Zb⟩,⟨Zf,Zh⟩,⟨Zj,Zi,Zg⟩,⟨Ze,Zd,Zc⟩⟩,Zt,Zs,ZC,Zz,ZL,ZB,Zy,Zu,Zo,Zv,Zn,Zx,⟨Zr,Zq,Zl⟩,ZE,ZF⟩):=by
        rw [if_pos ⟨show Zg=[] from List.length_eq_zero_iff.1 (by omega),show (⟨Zf,Zh⟩:ZI)≠Xi from (by assumption)⟩];exact hv1
       have h3:=Va (n:=ZK.nd ⟨⟨⟨Za,Zb⟩,⟨Zf,Zh⟩,⟨Zj,Zi,Zg⟩,⟨Ze,Zd,Zc⟩⟩,Zt,Zs,ZC,Zz,ZL,ZB,Zy,Zu,Zo,Zv,Zn,Zx,⟨Zr,Zq,Zl⟩,ZE,ZF⟩) (by show Zs=true;simp_all) h1 h2
       have hne:0<Ye.length:=by omega
       rw [if_neg (show ¬(ZK.nd ⟨⟨⟨Yc,Yp⟩,⟨Yh,Yu⟩,⟨YA,Yz,Ye⟩,⟨Yk,Yj,Yi⟩⟩,Xn,Xo,XI,Xm,XX,Xx,Xp,Xj,YY,Xk,YZ,Xl,⟨Xc,Xb,Xa⟩,XH,XG⟩).table.succ=[] from (fun q1=>absurd (show Ye.length=0 from congrArg List.length q1) (by omega))),show Wi (ZK.nd ⟨⟨⟨Yc,Yp⟩,⟨Yh,Yu⟩,⟨YA,Yz,Ye⟩,⟨Yk,Yj,Yi⟩⟩,Xn,Xo,XI,Xm,XX,Xx,Xp,Xj,YY,Xk,YZ,Xl,⟨Xc,Xb,Xa⟩,XH,XG⟩).table=Ye[0] from first_at (t:=(ZK.nd ⟨⟨⟨Yc,Yp⟩,⟨Yh,Yu⟩,⟨YA,Yz,Ye⟩,⟨Yk,Yj,Yi⟩⟩,Xn,Xo,XI,Xm,XX,Xx,Xp,Xj,YY,Xk,YZ,Xl,⟨Xc,Xb,Xa⟩,XH,XG⟩).table) hne] at h3
       obtain ⟨M9,j1,j2,j3⟩:=OSl.frz (H:=H) (l:=[(⟨Ye[0].addr,(⟨3,⟨Yc,Yp⟩,r9,0,⟨none,0,[]⟩,false,Xi,⟨none,0,[]⟩⟩:ZO)⟩:Ys)]) (f:=Ys.segs) (show OSl 49 68 _ _ ([(⟨Ye[0].addr,(⟨3,⟨Yc,Yp⟩,r9,0,⟨none,0,[]⟩,false,Xi,⟨none,0,[]⟩⟩:ZO)⟩:Ys)].map Ys.segs) from hob29) (hw.c)
       refine ⟨_,M9,[],rfl,Mem.le.trans (hM2.trans hm4) j1,j2,rfl,⟨⟨⟨Yc,Yp⟩,⟨Yh,Yu⟩,⟨YA,Yz,Ye⟩,⟨Yk,Yj,Yi⟩⟩,Xn,Xo,XI,Xm,r9,Ye[0].addr,r9,Xj,YY,Xk,YZ,Xl,⟨Xc,Xb,Xa⟩,XH,XG⟩,⟨_,1,[(⟨Ye[0].addr,(⟨3,⟨Yc,Yp⟩,r9,0,⟨none,0,[]⟩,false,Xi,⟨none,0,[]⟩⟩:ZO)⟩:Ys)]⟩,rfl,?_,?_,⟨(okv:ZK.ok _ ⟨⟨⟨Yc,Yp⟩,⟨Yh,Yu⟩,⟨YA,Yz,Ye⟩,⟨Yk,Yj,Yi⟩⟩,Xn,Xo,XI,Xm,XX,Xx,Xp,Xj,YY,Xk,YZ,Xl,⟨Xc,Xb,Xa⟩,XH,XG⟩).h0.mono j1,(okv:ZK.ok _ ⟨⟨⟨Yc,Yp⟩,⟨Yh,Yu⟩,⟨YA,Yz,Ye⟩,⟨Yk,Yj,Yi⟩⟩,Xn,Xo,XI,Xm,XX,Xx,Xp,Xj,YY,Xk,YZ,Xl,⟨Xc,Xb,Xa⟩,XH,XG⟩).h1.mono j1⟩,j3,fun y hy=>by obtain rfl:=List.mem_singleton.1 hy;exact ⟨⟨SlK.nil,SlK.nil⟩⟩⟩
       ·rw [h3,← hr9];rfl
       ·rw [h3,← hr9];rfl
     ·replace hc26:=nF hc26
      refine YE (Zp (Y_pk [3,2,1] ?_))
      iterate 2 refine ZJ ?_
      refine Zm (l:=[0,1,2,3,4]) rfl ?_;refine Zk F.foff32_0 ?_;refine Zk F.foff28_2 ?_;refine ZH F.lay26 ?_;refine YW F.elem26 ?_;refine YJ ?_;refine Zw (Zp (Y_pk [69,3,2,1] ?_))
      refine YC rfl (fun hc30=>?_) (fun hc30=>?_)
      ·replace hc30:=dT hc30
       refine ZJ (Zm (l:=[0,1,2]) rfl ?_);refine ZH F.lay32 ?_;refine Xq F.lay32 ?_;refine ZD ?_;refine Zw (Zp (Y_pk [3,2,1] ?_));refine Yq (YS ?_)
       refine Yg (.inr rfl) (.cell rfl (by repeat first|exact List.Mem.head _|refine List.Mem.tail _ ?_|refine List.mem_append_right _ ?_) F.lay32 rfl rfl (.tmp rfl .nil)) (fun w hw=>?_)
       have h1:ZK.nd ⟨⟨⟨Za,Zb⟩,⟨Zf,Zh⟩,⟨Zj,Zi,Zg⟩,⟨Ze,Zd,Zc⟩⟩,Zt,Zs,ZC,Zz,ZL,ZB,Zy,Zu,Zo,Zv,Zn,Zx,⟨Zr,Zq,Zl⟩,ZE,ZF⟩=if (ZK.nd ⟨⟨⟨Za,Zb⟩,⟨Zf,Zh⟩,⟨Zj,Zi,Zg⟩,⟨Ze,Zd,Zc⟩⟩,Zt,Zs,ZC,Zz,ZL,ZB,Zy,Zu,Zo,Zv,Zn,Zx,⟨Zr,Zq,Zl⟩,ZE,ZF⟩).askTo≠-1 then { (ZK.nd ⟨⟨⟨Za,Zb⟩,⟨Zf,Zh⟩,⟨Zj,Zi,Zg⟩,⟨Ze,Zd,Zc⟩⟩,Zt,Zs,ZC,Zz,ZL,ZB,Zy,Zu,Zo,Zv,Zn,Zx,⟨Zr,Zq,Zl⟩,ZE,ZF⟩) with table:=XM (ZK.nd ⟨⟨⟨Za,Zb⟩,⟨Zf,Zh⟩,⟨Zj,Zi,Zg⟩,⟨Ze,Zd,Zc⟩⟩,Zt,Zs,ZC,Zz,ZL,ZB,Zy,Zu,Zo,Zv,Zn,Zx,⟨Zr,Zq,Zl⟩,ZE,ZF⟩).table (ZK.nd ⟨⟨⟨Za,Zb⟩,⟨Zf,Zh⟩,⟨Zj,Zi,Zg⟩,⟨Ze,Zd,Zc⟩⟩,Zt,Zs,ZC,Zz,ZL,ZB,Zy,Zu,Zo,Zv,Zn,Zx,⟨Zr,Zq,Zl⟩,ZE,ZF⟩).askTo,askTo:=-1 } else (ZK.nd ⟨⟨⟨Za,Zb⟩,⟨Zf,Zh⟩,⟨Zj,Zi,Zg⟩,⟨Ze,Zd,Zc⟩⟩,Zt,Zs,ZC,Zz,ZL,ZB,Zy,Zu,Zo,Zv,Zn,Zx,⟨Zr,Zq,Zl⟩,ZE,ZF⟩):=by
        rw [if_neg (by show ¬ZB≠-1;omega)]
       have h2:ZK.nd ⟨⟨⟨Za,Zb⟩,⟨Zf,Zh⟩,⟨Zj,Zi,Zg⟩,⟨Ze,Zd,Zc⟩⟩,Zt,Zs,ZC,Zz,ZL,ZB,Zy,Zu,Zo,Zv,Zn,Zx,⟨Zr,Zq,Zl⟩,ZE,ZF⟩=if (ZK.nd ⟨⟨⟨Za,Zb⟩,⟨Zf,Zh⟩,⟨Zj,Zi,Zg⟩,⟨Ze,Zd,Zc⟩⟩,Zt,Zs,ZC,Zz,ZL,ZB,Zy,Zu,Zo,Zv,Zn,Zx,⟨Zr,Zq,Zl⟩,ZE,ZF⟩).table.succ=[]∧(ZK.nd ⟨⟨⟨Za,Zb⟩,⟨Zf,Zh⟩,⟨Zj,Zi,Zg⟩,⟨Ze,Zd,Zc⟩⟩,Zt,Zs,ZC,Zz,ZL,ZB,Zy,Zu,Zo,Zv,Zn,Zx,⟨Zr,Zq,Zl⟩,ZE,ZF⟩).table.pred≠Xi then WA (ZK.nd ⟨⟨⟨Za,Zb⟩,⟨Zf,Zh⟩,⟨Zj,Zi,Zg⟩,⟨Ze,Zd,Zc⟩⟩,Zt,Zs,ZC,Zz,ZL,ZB,Zy,Zu,Zo,Zv,Zn,Zx,⟨Zr,Zq,Zl⟩,ZE,ZF⟩) (ZK.nd ⟨⟨⟨Za,Zb⟩,⟨Zf,Zh⟩,⟨Zj,Zi,Zg⟩,⟨Ze,Zd,Zc⟩⟩,Zt,Zs,ZC,Zz,ZL,ZB,Zy,Zu,Zo,Zv,Zn,Zx,⟨Zr,Zq,Zl⟩,ZE,ZF⟩).table.pred [] else (ZK.nd ⟨⟨⟨Za,Zb⟩,⟨Zf,Zh⟩,⟨Zj,Zi,Zg⟩,⟨Ze,Zd,Zc⟩⟩,Zt,Zs,ZC,Zz,ZL,ZB,Zy,Zu,Zo,Zv,Zn,Zx,⟨Zr,Zq,Zl⟩,ZE,ZF⟩):=by
        rw [if_neg (by rintro ⟨q1,q2⟩;exact q2 (show (⟨Zf,Zh⟩:ZI)=Xi from (by assumption)))]
       have h3:=Va (n:=ZK.nd ⟨⟨⟨Za,Zb⟩,⟨Zf,Zh⟩,⟨Zj,Zi,Zg⟩,⟨Ze,Zd,Zc⟩⟩,Zt,Zs,ZC,Zz,ZL,ZB,Zy,Zu,Zo,Zv,Zn,Zx,⟨Zr,Zq,Zl⟩,ZE,ZF⟩) (by show Zs=true;simp_all) h1 h2
       rw [if_pos (show (ZK.nd ⟨⟨⟨Za,Zb⟩,⟨Zf,Zh⟩,⟨Zj,Zi,Zg⟩,⟨Ze,Zd,Zc⟩⟩,Zt,Zs,ZC,Zz,ZL,ZB,Zy,Zu,Zo,Zv,Zn,Zx,⟨Zr,Zq,Zl⟩,ZE,ZF⟩).table.succ=[] from List.length_eq_zero_iff.1 (show Zg.length=0 from by omega))] at h3
       exact ⟨_,M2,[],rfl,hM2,hw.c,rfl,⟨⟨⟨Za,Zb⟩,⟨Zf,Zh⟩,⟨Zj,Zi,Zg⟩,⟨Ze,Zd,Zc⟩⟩,Zt,Zs,ZC,Zz,ZL,ZB,Zy,Zu,Zo,Zv,Zn,Zx,⟨Zr,Zq,Zl⟩,ZE,ZF⟩,⟨none,0,[]⟩,rfl,by rw [h3],by rw [h3];rfl,⟨(Yt.mono hM2),k9⟩,SlK.nil,fun y hy=>by cases hy⟩
      ·replace hc30:=dF hc30
       (exfalso;omega)
    ·replace hc23:=dF hc23
     iterate 5 refine ZY ?_
     refine ZM ?_;refine Zw (Zp (Y_pk [59,3,2,1] ?_));refine Wz rfl ?_;refine YE (Zp (Y_pk [3,2,1] ?_))
     iterate 2 refine ZJ ?_
     refine Zm (l:=[0,1,2,3,4]) rfl ?_;refine Zk F.foff32_0 ?_;refine Zk F.foff28_2 ?_;refine ZH F.lay26 ?_;refine YW F.elem26 ?_;refine YJ ?_;refine Zw (Zp (Y_pk [69,3,2,1] ?_))
     refine YC rfl (fun hc33=>?_) (fun hc33=>?_)
     ·replace hc33:=dT hc33
      (exfalso;omega)
     ·replace hc33:=dF hc33
      refine YE (Zp (Y_pk [3,2,1] ?_));refine ZJ ?_
      have s_n:=(Yt.mono hM2).h0.h1
      simp only at s_n
      have n_m:(Zg.map ZI.segs).length=Zg.length:=List.length_map ..
      have c_m:0<Zg.length:=by omega
      refine Zm (l:=[0,1,2,3,4]) rfl ?_;refine Zk F.foff32_5 ?_;refine ZH F.lay29 ?_;refine Xz rfl rfl rfl rfl rfl (by exact Vw _) rfl ?_
      obtain ⟨r9,hr9⟩:∃ v,nxR ZL=v:=⟨_,rfl⟩
      refine WY 73 rfl (show _=Value.int .u64 r9 from by rw [← hr9];exact congrArg (Value.int .u64) (nx_w64 _)) ?_;refine Zk F.foff32_5 ?_;refine ZX F.lay29 ?_;refine Zw (Zp (Y_pk [3,2,1] ?_));refine ZJ (Zm (l:=[0,1,2,3,4,5,6,7]) rfl ?_);refine Zk F.foff32_0 ?_;refine Zk F.foff28_2 ?_;refine ZH F.lay26 ?_;refine YM rfl rfl rfl rfl F.elem26 (by rfl) (by omega) (by exact SlM.plain (by assumption) (by (simp;omega))) rfl ?_;refine Xt rfl rfl rfl (by exact SlM.plain (by assumption) (by (simp;omega))) F.foff25_0 rfl ?_;refine Xs rfl rfl rfl (by assumption) (by exact XQ (by omega)) F.lay3 rfl rfl rfl ?_;refine Zk F.foff32_6 ?_;refine ZX F.lay3 ?_;refine Zw (Zp (Y_pk [3,2,1] ?_));refine ZJ (Zm (l:=[0,1,2,3]) rfl ?_)
      refine Zk F.foff32_5 ?_;refine ZH F.lay29 ?_;refine Zk F.foff32_7 ?_;refine ZX F.lay29 ?_;refine Zw (Zp (Y_pk [3,2,1] ?_));refine ZJ (C_region_anyPR (Hin:=[(b2,_)]) [0,1,2,3,4,5,6,7,9,8,10] [9] #[0,0,2,0,0,16,56,126,254,121,1023] (by repeat first|exact Rem.here _|exact Rem.two|apply Rem.skip|apply Rem.over) (by kernel_rfl) (by kernel_rfl) ?_);refine ZH F.lay32 ?_;refine Zk F.foff32_6 ?_;refine ZH F.lay3 ?_;refine ZH F.lay32 ?_;refine Zk F.foff32_5 ?_;refine ZH F.lay29 ?_;refine X_fs rfl rfl F.ok58 rfl (rlett_ok _ ⟨⟨⟨Za,Zb⟩,⟨Zf,Zh⟩,⟨Zj,Zi,Zg⟩,⟨Ze,Zd,Zc⟩⟩,Zt,Zs,ZC,Zz,r9,Zg[0].addr,r9,Zu,Zo,Zv,Zn,Zx,⟨Zr,Zq,Zl⟩,ZE,ZF⟩ 3 r9) rfl ?_
      rintro _ rfl
      refine Xy rfl rfl F.bld49 (.cons rfl (by constructor) (.cons rfl (by constructor) .nil)) rfl rfl ?_;refine X_storeE rfl rfl rfl rfl rfl (by constructor) (by ((try simp only [cat,List.cons_append,List.nil_append,List.append_nil]);(repeat (first|exact XC|refine XN ?_|(refine YP ?_ ?_;rfl)));done)) (by repeat first|exact Upd.head|apply Upd.tail|apply Upd.over) F.lay32 (by simp only [ZI.segs,ZN.segs,ZK.segs,ZO.segs,Ys.segs,ZQ.segs,YO.segs,ZU.segs,cat,List.cons_append,List.nil_append,List.append_nil,Segs.len,Seg.len,Yr]) (VN (m:=78) rfl (by simp only [ZI.segs,ZN.segs,ZK.segs,ZO.segs,Ys.segs,ZQ.segs,YO.segs,ZU.segs,cat,List.cons_append,List.nil_append,List.append_nil,Segs.len,Seg.len,Yr]) (by simp only [ZI.segs,ZN.segs,ZK.segs,ZO.segs,Ys.segs,ZQ.segs,YO.segs,ZU.segs,cat,List.cons_append,List.nil_append,List.append_nil,Segs.len,Seg.len,Yr])) (fun _ h=>h.c) ?_
      refine Xu rfl rfl F.elem35 F.zero49 rfl rfl (.cons rfl (by constructor) .nil) rfl rfl (by simp only [List.map_cons,List.map_nil] <;> rfl) rfl ?_;intro b34 hob35
      refine ZD ?_;refine Zw (WE ?_);refine Zp (Y_pk [3,2] ?_);refine Yq ?_
      refine Yg (.inr rfl) (.cell rfl (by repeat first|exact List.Mem.head _|refine List.Mem.tail _ ?_|refine List.mem_append_right _ ?_) F.lay32 rfl rfl (.tmp rfl .nil)) (fun w hw=>?_)
      have h1:ZK.nd ⟨⟨⟨Za,Zb⟩,⟨Zf,Zh⟩,⟨Zj,Zi,Zg⟩,⟨Ze,Zd,Zc⟩⟩,Zt,Zs,ZC,Zz,ZL,ZB,Zy,Zu,Zo,Zv,Zn,Zx,⟨Zr,Zq,Zl⟩,ZE,ZF⟩=if (ZK.nd ⟨⟨⟨Za,Zb⟩,⟨Zf,Zh⟩,⟨Zj,Zi,Zg⟩,⟨Ze,Zd,Zc⟩⟩,Zt,Zs,ZC,Zz,ZL,ZB,Zy,Zu,Zo,Zv,Zn,Zx,⟨Zr,Zq,Zl⟩,ZE,ZF⟩).askTo≠-1 then { (ZK.nd ⟨⟨⟨Za,Zb⟩,⟨Zf,Zh⟩,⟨Zj,Zi,Zg⟩,⟨Ze,Zd,Zc⟩⟩,Zt,Zs,ZC,Zz,ZL,ZB,Zy,Zu,Zo,Zv,Zn,Zx,⟨Zr,Zq,Zl⟩,ZE,ZF⟩) with table:=XM (ZK.nd ⟨⟨⟨Za,Zb⟩,⟨Zf,Zh⟩,⟨Zj,Zi,Zg⟩,⟨Ze,Zd,Zc⟩⟩,Zt,Zs,ZC,Zz,ZL,ZB,Zy,Zu,Zo,Zv,Zn,Zx,⟨Zr,Zq,Zl⟩,ZE,ZF⟩).table (ZK.nd ⟨⟨⟨Za,Zb⟩,⟨Zf,Zh⟩,⟨Zj,Zi,Zg⟩,⟨Ze,Zd,Zc⟩⟩,Zt,Zs,ZC,Zz,ZL,ZB,Zy,Zu,Zo,Zv,Zn,Zx,⟨Zr,Zq,Zl⟩,ZE,ZF⟩).askTo,askTo:=-1 } else (ZK.nd ⟨⟨⟨Za,Zb⟩,⟨Zf,Zh⟩,⟨Zj,Zi,Zg⟩,⟨Ze,Zd,Zc⟩⟩,Zt,Zs,ZC,Zz,ZL,ZB,Zy,Zu,Zo,Zv,Zn,Zx,⟨Zr,Zq,Zl⟩,ZE,ZF⟩):=by
       rw [if_neg (by show ¬ZB≠-1;omega)]
      have h2:ZK.nd ⟨⟨⟨Za,Zb⟩,⟨Zf,Zh⟩,⟨Zj,Zi,Zg⟩,⟨Ze,Zd,Zc⟩⟩,Zt,Zs,ZC,Zz,ZL,ZB,Zy,Zu,Zo,Zv,Zn,Zx,⟨Zr,Zq,Zl⟩,ZE,ZF⟩=if (ZK.nd ⟨⟨⟨Za,Zb⟩,⟨Zf,Zh⟩,⟨Zj,Zi,Zg⟩,⟨Ze,Zd,Zc⟩⟩,Zt,Zs,ZC,Zz,ZL,ZB,Zy,Zu,Zo,Zv,Zn,Zx,⟨Zr,Zq,Zl⟩,ZE,ZF⟩).table.succ=[]∧(ZK.nd ⟨⟨⟨Za,Zb⟩,⟨Zf,Zh⟩,⟨Zj,Zi,Zg⟩,⟨Ze,Zd,Zc⟩⟩,Zt,Zs,ZC,Zz,ZL,ZB,Zy,Zu,Zo,Zv,Zn,Zx,⟨Zr,Zq,Zl⟩,ZE,ZF⟩).table.pred≠Xi then WA (ZK.nd ⟨⟨⟨Za,Zb⟩,⟨Zf,Zh⟩,⟨Zj,Zi,Zg⟩,⟨Ze,Zd,Zc⟩⟩,Zt,Zs,ZC,Zz,ZL,ZB,Zy,Zu,Zo,Zv,Zn,Zx,⟨Zr,Zq,Zl⟩,ZE,ZF⟩) (ZK.nd ⟨⟨⟨Za,Zb⟩,⟨Zf,Zh⟩,⟨Zj,Zi,Zg⟩,⟨Ze,Zd,Zc⟩⟩,Zt,Zs,ZC,Zz,ZL,ZB,Zy,Zu,Zo,Zv,Zn,Zx,⟨Zr,Zq,Zl⟩,ZE,ZF⟩).table.pred [] else (ZK.nd ⟨⟨⟨Za,Zb⟩,⟨Zf,Zh⟩,⟨Zj,Zi,Zg⟩,⟨Ze,Zd,Zc⟩⟩,Zt,Zs,ZC,Zz,ZL,ZB,Zy,Zu,Zo,Zv,Zn,Zx,⟨Zr,Zq,Zl⟩,ZE,ZF⟩):=by
       rw [if_neg (by rintro ⟨q1,q2⟩;have q3:Zg.length=0:=congrArg List.length q1;omega)]
      have h3:=Va (n:=ZK.nd ⟨⟨⟨Za,Zb⟩,⟨Zf,Zh⟩,⟨Zj,Zi,Zg⟩,⟨Ze,Zd,Zc⟩⟩,Zt,Zs,ZC,Zz,ZL,ZB,Zy,Zu,Zo,Zv,Zn,Zx,⟨Zr,Zq,Zl⟩,ZE,ZF⟩) (by show Zs=true;simp_all) h1 h2
      have hne:0<Zg.length:=by omega
      rw [if_neg (show ¬(ZK.nd ⟨⟨⟨Za,Zb⟩,⟨Zf,Zh⟩,⟨Zj,Zi,Zg⟩,⟨Ze,Zd,Zc⟩⟩,Zt,Zs,ZC,Zz,ZL,ZB,Zy,Zu,Zo,Zv,Zn,Zx,⟨Zr,Zq,Zl⟩,ZE,ZF⟩).table.succ=[] from (fun q1=>absurd (show Zg.length=0 from congrArg List.length q1) (by omega))),show Wi (ZK.nd ⟨⟨⟨Za,Zb⟩,⟨Zf,Zh⟩,⟨Zj,Zi,Zg⟩,⟨Ze,Zd,Zc⟩⟩,Zt,Zs,ZC,Zz,ZL,ZB,Zy,Zu,Zo,Zv,Zn,Zx,⟨Zr,Zq,Zl⟩,ZE,ZF⟩).table=Zg[0] from first_at (t:=(ZK.nd ⟨⟨⟨Za,Zb⟩,⟨Zf,Zh⟩,⟨Zj,Zi,Zg⟩,⟨Ze,Zd,Zc⟩⟩,Zt,Zs,ZC,Zz,ZL,ZB,Zy,Zu,Zo,Zv,Zn,Zx,⟨Zr,Zq,Zl⟩,ZE,ZF⟩).table) hne] at h3
      obtain ⟨M9,j1,j2,j3⟩:=OSl.frz (H:=H) (l:=[(⟨Zg[0].addr,(⟨3,⟨Za,Zb⟩,r9,0,⟨none,0,[]⟩,false,Xi,⟨none,0,[]⟩⟩:ZO)⟩:Ys)]) (f:=Ys.segs) (show OSl 49 68 _ _ ([(⟨Zg[0].addr,(⟨3,⟨Za,Zb⟩,r9,0,⟨none,0,[]⟩,false,Xi,⟨none,0,[]⟩⟩:ZO)⟩:Ys)].map Ys.segs) from hob35) (hw.c)
      refine ⟨_,M9,[],rfl,Mem.le.trans hM2 j1,j2,rfl,⟨⟨⟨Za,Zb⟩,⟨Zf,Zh⟩,⟨Zj,Zi,Zg⟩,⟨Ze,Zd,Zc⟩⟩,Zt,Zs,ZC,Zz,r9,Zg[0].addr,r9,Zu,Zo,Zv,Zn,Zx,⟨Zr,Zq,Zl⟩,ZE,ZF⟩,⟨_,1,[(⟨Zg[0].addr,(⟨3,⟨Za,Zb⟩,r9,0,⟨none,0,[]⟩,false,Xi,⟨none,0,[]⟩⟩:ZO)⟩:Ys)]⟩,rfl,?_,?_,⟨(⟨(Yt.mono hM2),k9⟩:ZK.ok _ ⟨⟨⟨Za,Zb⟩,⟨Zf,Zh⟩,⟨Zj,Zi,Zg⟩,⟨Ze,Zd,Zc⟩⟩,Zt,Zs,ZC,Zz,ZL,ZB,Zy,Zu,Zo,Zv,Zn,Zx,⟨Zr,Zq,Zl⟩,ZE,ZF⟩).h0.mono j1,(⟨(Yt.mono hM2),k9⟩:ZK.ok _ ⟨⟨⟨Za,Zb⟩,⟨Zf,Zh⟩,⟨Zj,Zi,Zg⟩,⟨Ze,Zd,Zc⟩⟩,Zt,Zs,ZC,Zz,ZL,ZB,Zy,Zu,Zo,Zv,Zn,Zx,⟨Zr,Zq,Zl⟩,ZE,ZF⟩).h1.mono j1⟩,j3,fun y hy=>by obtain rfl:=List.mem_singleton.1 hy;exact ⟨⟨SlK.nil,SlK.nil⟩⟩⟩
      ·rw [h3,← hr9];rfl
      ·rw [h3,← hr9];rfl
end Go.Proofs.YtajmnjefajknoaaGreat
namespace Go.Proofs.YtajmnjefajknoaaGreat
open Go.Esp
theorem F.ok100:okFn Tryz.prog 100=true:=by kernel_rfl
theorem F.ok98:okFn Tryz.prog 98=true:=by kernel_rfl
theorem F.ok99:okFn Tryz.prog 99=true:=by kernel_rfl
theorem rfix_ok (M:Mem) (Za:Int) (Zb:Plc) (Zf:Int) (Zh:Plc) (Zj Ze Zr:Option Addr) (Zi Zd Zq:Nat) (Zg Zc:List ZI) (Zl:List Int) (Zt:Int) (Zs:Bool) (ZC Zz ZL ZB Zy Zu Zo Zv Zn:Int) (Zx:Plc) (ZE ZF:Int) (Yt:ZN.ok M ⟨⟨Za,Zb⟩,⟨Zf,Zh⟩,⟨Zj,Zi,Zg⟩,⟨Ze,Zd,Zc⟩⟩) (hbig:Zg.length≤40∧Zc.length≤200) (hcu:0≤Zz∧Zz≤159) (hav:Hp) (hA:OSl 3 1 (.slice Zr Zl.length Zq) hav (Zl.map (oneI .i64))) (hLa:Zl.length≤900):Fh Tryz.prog 38 [ZK.enc ⟨⟨⟨Za,Zb⟩,⟨Zf,Zh⟩,⟨Zj,Zi,Zg⟩,⟨Ze,Zd,Zc⟩⟩,Zt,Zs,ZC,Zz,ZL,ZB,Zy,Zu,Zo,Zv,Zn,Zx,⟨Zr,Zq,Zl⟩,ZE,ZF⟩] M hav (fun M' v Hout=>Hout=[]∧NsE M' v (fixN (ZK.nd ⟨⟨⟨Za,Zb⟩,⟨Zf,Zh⟩,⟨Zj,Zi,Zg⟩,⟨Ze,Zd,Zc⟩⟩,Zt,Zs,ZC,Zz,ZL,ZB,Zy,Zu,Zo,Zv,Zn,Zx,⟨Zr,Zq,Zl⟩,ZE,ZF⟩))):=by
  obtain ⟨kn,rfl⟩:∃ kn:Nat,Zz=(kn:Int):=⟨Zz.toNat,by omega⟩
  refine Vx Tryz.func38 rfl Tryz.ntmps38 rfl ?_;intro H
  refine ZJ (Zm (l:=[0,1,2]) rfl ?_)
  refine Xv ?_;intro b1
  refine YQ F.zero32 ?_;intro b2
  refine ZD ?_;refine Zw (Zp (Y_pk [3,2,1] ?_))
  iterate 2 refine ZJ ?_
  refine Zm (l:=[0,1,2]) rfl ?_;refine Zk F.foff32_2 ?_;refine ZH F.lay4 ?_;refine XP ?_;refine Zw (Zp (Y_pk [15,3,2,1] ?_))
  refine YC rfl (fun hc3=>?_) (fun hc3=>?_)
  ·skip
   refine ZJ ?_
   refine Un hA (by repeat first|exact Rem.here _|exact Rem.two|apply Rem.skip|apply Rem.over) (fun M2 hM2 k9=>?_)
   refine Zm (l:=[0,1,2]) rfl ?_;refine ZH F.lay32 ?_;refine Xq F.lay32 ?_;refine ZD ?_;refine Zw (Zp (Y_pk [3,2,1] ?_));refine Yq (YS ?_)
   refine Yg (.inr rfl) (.cell rfl (by repeat first|exact List.Mem.head _|refine List.Mem.tail _ ?_|refine List.mem_append_right _ ?_) F.lay32 rfl rfl (.tmp rfl .nil)) (fun w hw=>?_)
   refine ⟨_,M2,[],rfl,hM2,hw.c,rfl,⟨⟨⟨Za,Zb⟩,⟨Zf,Zh⟩,⟨Zj,Zi,Zg⟩,⟨Ze,Zd,Zc⟩⟩,Zt,Zs,ZC,(kn:Int),ZL,ZB,Zy,Zu,Zo,Zv,Zn,Zx,⟨Zr,Zq,Zl⟩,ZE,ZF⟩,⟨none,0,[]⟩,rfl,?_,?_,⟨Yt.mono hM2,k9⟩,SlK.nil,fun y hy=>by cases hy⟩
   ·unfold fixN;rw [if_pos (by show Zs=false;simp_all)]
   ·unfold fixN;rw [if_pos (by show Zs=false;simp_all)];rfl
  ·skip
   refine YE (Zp (Y_pk [3,2,1] ?_))
   iterate 2 refine ZJ ?_
   refine Zm (l:=[0,1,2]) rfl ?_;refine Zk F.foff32_10 ?_;refine ZH F.lay3 ?_;refine YJ ?_;refine Zw (Zp (Y_pk [19,3,2,1] ?_))
   refine YC rfl (fun hc4=>?_) (fun hc4=>?_)
   ·replace hc4:=dT hc4
    refine Un hA (by repeat first|exact Rem.here _|exact Rem.two|apply Rem.skip|apply Rem.over) (fun M2 hM2 k9=>?_)
    refine Zm (l:=[0,1]) rfl ?_;refine Zk F.foff32_13 ?_;refine ZX F.lay30 ?_;refine Zw (Zp (Y_pk [3,2,1] ?_));refine ZJ (Zm (l:=[0,1,2,3,4,5,6,7,8]) rfl ?_);refine Zk F.foff32_4 ?_;refine ZH F.lay3 ?_;refine X_fs rfl rfl F.ok96 rfl (rPower_ok_in _ kn (by omega)) rfl ?_
    rintro _ rfl
    refine ZA ?_
    iterate 2 refine XF ?_
    refine YQ F.zero23 ?_;intro b5
    refine ZX F.lay23 ?_;refine ZD ?_;refine Zw (Zp (Y_pk [4,3,2,1] ?_));refine ZJ (Zm (l:=[0,1,2,3,4,5,6,7]) rfl ?_);refine Zk F.foff32_0 ?_;refine Zk F.foff28_0 ?_;refine Zk F.foff25_1 ?_
    iterate 2 refine ZH F.lay23 ?_
    refine X_fs rfl rfl F.ok97 rfl (rPlus_ok _ _ _) rfl ?_
    rintro _ rfl
    refine YQ F.zero23 ?_;intro b6
    refine ZX F.lay23 ?_;refine Zw (Zp (Y_pk [6,3,2,1] ?_));refine ZJ (Zm (l:=[0,1,2,3,4,5,6,7,8,9]) rfl ?_);refine Zk F.foff32_0 ?_;refine ZH F.lay28 ?_;refine ZH F.lay23 ?_;refine X_fs rfl rfl F.ok98 rfl (rDone_ok _ ⟨⟨Za,Zb⟩,⟨Zf,Zh⟩,⟨Zj,Zi,Zg⟩,⟨Ze,Zd,Zc⟩⟩ (Zb+powP kn) (Yt.mono hM2)) rfl ?_
    rintro _ rfl
    obtain ⟨⟨⟨da,di⟩,db⟩,hd⟩:∃ x,VI (ZN.tb ⟨⟨Za,Zb⟩,⟨Zf,Zh⟩,⟨Zj,Zi,Zg⟩,⟨Ze,Zd,Zc⟩⟩) (Zb+powP kn)=x:=⟨_,rfl⟩
    rw [hd]
    refine ZA ?_
    iterate 2 refine XF ?_
    refine YQ F.zero25 ?_;intro b7
    refine ZX F.lay25 ?_;refine ZD ?_;refine Zw (Zp (Y_pk [8,7,6,3,2,1] ?_))
    iterate 2 refine ZJ ?_
    refine Zm (l:=[0]) rfl ?_;refine ZA ?_;refine Zw (Zp (Y_pk [51,7,6,3,2,1] ?_))
    refine YC rfl (fun hc8=>?_) (fun hc8=>?_)
    ·skip
     simp only [ZI.eta,ZN.eta,ZK.eta,ZO.eta,Ys.eta,ZQ.eta,YO.eta,ZU.eta] at hc8
     refine ZJ (Zm (l:=[0,1,2,3,4]) rfl ?_);refine ZH F.lay32 ?_;refine ZH F.lay25 ?_;refine X_fn rfl rfl F.ok99 rfl (rpoint_ok _ ⟨⟨⟨Za,Zb⟩,⟨Zf,Zh⟩,⟨Zj,Zi,Zg⟩,⟨Ze,Zd,Zc⟩⟩,Zt,Zs,ZC,(kn:Int),ZL,ZB,Zy,Zu,Zo,Zv,Zn,Zx,⟨none,0,[]⟩,ZE,ZF⟩ ⟨da,di⟩ ⟨(Yt.mono hM2),SlK.nil⟩) rfl ?_
     rintro _ M4 hm4 ⟨⟨⟨⟨Yc,Yp⟩,⟨Yh,Yu⟩,⟨YA,Yz,Ye⟩,⟨Yk,Yj,Yi⟩⟩,Xn,Xo,XI,Xm,XX,Xx,Xp,Xj,YY,Xk,YZ,Xl,⟨Xc,Xb,Xa⟩,XH,XG⟩,rfl,hv1,okv⟩
     refine Xq F.lay32 ?_;refine ZD ?_;refine Zw (Zp (Y_pk [3,6,2,1] ?_));refine Yq (YS ?_)
     refine Yg (.inr rfl) (.cell rfl (by repeat first|exact List.Mem.head _|refine List.Mem.tail _ ?_|refine List.mem_append_right _ ?_) F.lay32 rfl rfl (.tmp rfl .nil)) (fun w hw=>?_)
     have h2:(ZK.nd ⟨⟨⟨Za,Zb⟩,⟨Zf,Zh⟩,⟨Zj,Zi,Zg⟩,⟨Ze,Zd,Zc⟩⟩,Zt,Zs,ZC,(kn:Int),ZL,ZB,Zy,Zu,Zo,Zv,Zn,Zx,⟨none,0,[]⟩,ZE,ZF⟩)=if (ZK.nd ⟨⟨⟨Za,Zb⟩,⟨Zf,Zh⟩,⟨Zj,Zi,Zg⟩,⟨Ze,Zd,Zc⟩⟩,Zt,Zs,ZC,(kn:Int),ZL,ZB,Zy,Zu,Zo,Zv,Zn,Zx,⟨Zr,Zq,Zl⟩,ZE,ZF⟩).findTo=-1 then { (ZK.nd ⟨⟨⟨Za,Zb⟩,⟨Zf,Zh⟩,⟨Zj,Zi,Zg⟩,⟨Ze,Zd,Zc⟩⟩,Zt,Zs,ZC,(kn:Int),ZL,ZB,Zy,Zu,Zo,Zv,Zn,Zx,⟨Zr,Zq,Zl⟩,ZE,ZF⟩) with avoid:=[] } else { (ZK.nd ⟨⟨⟨Za,Zb⟩,⟨Zf,Zh⟩,⟨Zj,Zi,Zg⟩,⟨Ze,Zd,Zc⟩⟩,Zt,Zs,ZC,(kn:Int),ZL,ZB,Zy,Zu,Zo,Zv,Zn,Zx,⟨Zr,Zq,Zl⟩,ZE,ZF⟩) with avoid:=Vh (ZK.nd ⟨⟨⟨Za,Zb⟩,⟨Zf,Zh⟩,⟨Zj,Zi,Zg⟩,⟨Ze,Zd,Zc⟩⟩,Zt,Zs,ZC,(kn:Int),ZL,ZB,Zy,Zu,Zo,Zv,Zn,Zx,⟨Zr,Zq,Zl⟩,ZE,ZF⟩).avoid (ZK.nd ⟨⟨⟨Za,Zb⟩,⟨Zf,Zh⟩,⟨Zj,Zi,Zg⟩,⟨Ze,Zd,Zc⟩⟩,Zt,Zs,ZC,(kn:Int),ZL,ZB,Zy,Zu,Zo,Zv,Zn,Zx,⟨Zr,Zq,Zl⟩,ZE,ZF⟩).findTo,table:=XM (ZK.nd ⟨⟨⟨Za,Zb⟩,⟨Zf,Zh⟩,⟨Zj,Zi,Zg⟩,⟨Ze,Zd,Zc⟩⟩,Zt,Zs,ZC,(kn:Int),ZL,ZB,Zy,Zu,Zo,Zv,Zn,Zx,⟨Zr,Zq,Zl⟩,ZE,ZF⟩).table (ZK.nd ⟨⟨⟨Za,Zb⟩,⟨Zf,Zh⟩,⟨Zj,Zi,Zg⟩,⟨Ze,Zd,Zc⟩⟩,Zt,Zs,ZC,(kn:Int),ZL,ZB,Zy,Zu,Zo,Zv,Zn,Zx,⟨Zr,Zq,Zl⟩,ZE,ZF⟩).findTo,findTo:=-1 }:=by
      rw [if_pos (by show Zv=-1;omega)];rfl
     have h3:=Ur (n:=ZK.nd ⟨⟨⟨Za,Zb⟩,⟨Zf,Zh⟩,⟨Zj,Zi,Zg⟩,⟨Ze,Zd,Zc⟩⟩,Zt,Zs,ZC,(kn:Int),ZL,ZB,Zy,Zu,Zo,Zv,Zn,Zx,⟨Zr,Zq,Zl⟩,ZE,ZF⟩) (id:=(Zb+powP kn)) (by show Zs=true;simp_all) h2 rfl
     rw [show VI (ZK.nd ⟨⟨⟨Za,Zb⟩,⟨Zf,Zh⟩,⟨Zj,Zi,Zg⟩,⟨Ze,Zd,Zc⟩⟩,Zt,Zs,ZC,(kn:Int),ZL,ZB,Zy,Zu,Zo,Zv,Zn,Zx,⟨none,0,[]⟩,ZE,ZF⟩).table (Zb+powP kn)=_ from hd] at h3
     rw [if_pos (by show db=true;simp_all)] at h3
     exact ⟨_,M4,[],rfl,hM2.trans hm4,hw.c,rfl,⟨⟨⟨Yc,Yp⟩,⟨Yh,Yu⟩,⟨YA,Yz,Ye⟩,⟨Yk,Yj,Yi⟩⟩,Xn,Xo,XI,Xm,XX,Xx,Xp,Xj,YY,Xk,YZ,Xl,⟨Xc,Xb,Xa⟩,XH,XG⟩,⟨none,0,[]⟩,rfl,by rw [h3];exact hv1,by rw [h3];rfl,okv,SlK.nil,fun y hy=>by cases hy⟩
    ·skip
     simp only [ZI.eta,ZN.eta,ZK.eta,ZO.eta,Ys.eta,ZQ.eta,YO.eta,ZU.eta] at hc8
     refine YE (Zp (Y_pk [6,3,2,1] ?_));refine ZJ (Zm (l:=[0,1,2,3,4,5,6,7,8,9,10,11]) rfl ?_);refine Zk F.foff32_0 ?_;refine ZH F.lay28 ?_;refine ZH F.lay23 ?_;refine Zk F.foff32_13 ?_;refine ZH F.lay30 ?_;refine X_fn rfl rfl F.ok100 rfl (rNearest_ok _ ⟨⟨Za,Zb⟩,⟨Zf,Zh⟩,⟨Zj,Zi,Zg⟩,⟨Ze,Zd,Zc⟩⟩ (Zb+powP kn) ⟨none,0,[]⟩ (Yt.mono hM2) SlK.nil hbig) rfl ?_
     rintro _ M4 hm4 rfl
     obtain ⟨⟨⟨qa,qi⟩,qb⟩,hq⟩:∃ x,Wu (ZN.tb ⟨⟨Za,Zb⟩,⟨Zf,Zh⟩,⟨Zj,Zi,Zg⟩,⟨Ze,Zd,Zc⟩⟩) (Zb+powP kn) (⟨none,0,[]⟩:Sl Int).l=x:=⟨_,rfl⟩
     rw [hq]
     refine ZA ?_
     iterate 2 refine XF ?_
     refine YQ F.zero25 ?_;intro b9
     refine ZX F.lay25 ?_;refine ZD ?_;refine Zw (Zp (Y_pk [10,9,6,3,2,1] ?_))
     iterate 2 refine ZJ ?_
     refine Zm (l:=[0,1]) rfl ?_;refine ZA ?_;refine XP ?_;refine Zw (Zp (Y_pk [65,9,6,3,2,1] ?_))
     refine YC rfl (fun hc10=>?_) (fun hc10=>?_)
     ·skip
      simp only [ZI.eta,ZN.eta,ZK.eta,ZO.eta,Ys.eta,ZQ.eta,YO.eta,ZU.eta] at hc10
      refine ZJ (Zm (l:=[0,1]) rfl ?_);refine Zk F.foff32_4 ?_;refine ZX F.lay3 ?_;refine Zw (Zp (Y_pk [9,6,3,2,1] ?_));refine ZJ (Zm (l:=[0,1,2]) rfl ?_);refine ZH F.lay32 ?_;refine Xq F.lay32 ?_;refine ZD ?_;refine Zw (Zp (Y_pk [3,9,6,2,1] ?_));refine Yq (YS ?_)
      refine Yg (.inr rfl) (.cell rfl (by repeat first|exact List.Mem.head _|refine List.Mem.tail _ ?_|refine List.mem_append_right _ ?_) F.lay32 rfl rfl (.tmp rfl .nil)) (fun w hw=>?_)
      have h2:(ZK.nd ⟨⟨⟨Za,Zb⟩,⟨Zf,Zh⟩,⟨Zj,Zi,Zg⟩,⟨Ze,Zd,Zc⟩⟩,Zt,Zs,ZC,(kn:Int),ZL,ZB,Zy,Zu,Zo,Zv,Zn,Zx,⟨none,0,[]⟩,ZE,ZF⟩)=if (ZK.nd ⟨⟨⟨Za,Zb⟩,⟨Zf,Zh⟩,⟨Zj,Zi,Zg⟩,⟨Ze,Zd,Zc⟩⟩,Zt,Zs,ZC,(kn:Int),ZL,ZB,Zy,Zu,Zo,Zv,Zn,Zx,⟨Zr,Zq,Zl⟩,ZE,ZF⟩).findTo=-1 then { (ZK.nd ⟨⟨⟨Za,Zb⟩,⟨Zf,Zh⟩,⟨Zj,Zi,Zg⟩,⟨Ze,Zd,Zc⟩⟩,Zt,Zs,ZC,(kn:Int),ZL,ZB,Zy,Zu,Zo,Zv,Zn,Zx,⟨Zr,Zq,Zl⟩,ZE,ZF⟩) with avoid:=[] } else { (ZK.nd ⟨⟨⟨Za,Zb⟩,⟨Zf,Zh⟩,⟨Zj,Zi,Zg⟩,⟨Ze,Zd,Zc⟩⟩,Zt,Zs,ZC,(kn:Int),ZL,ZB,Zy,Zu,Zo,Zv,Zn,Zx,⟨Zr,Zq,Zl⟩,ZE,ZF⟩) with avoid:=Vh (ZK.nd ⟨⟨⟨Za,Zb⟩,⟨Zf,Zh⟩,⟨Zj,Zi,Zg⟩,⟨Ze,Zd,Zc⟩⟩,Zt,Zs,ZC,(kn:Int),ZL,ZB,Zy,Zu,Zo,Zv,Zn,Zx,⟨Zr,Zq,Zl⟩,ZE,ZF⟩).avoid (ZK.nd ⟨⟨⟨Za,Zb⟩,⟨Zf,Zh⟩,⟨Zj,Zi,Zg⟩,⟨Ze,Zd,Zc⟩⟩,Zt,Zs,ZC,(kn:Int),ZL,ZB,Zy,Zu,Zo,Zv,Zn,Zx,⟨Zr,Zq,Zl⟩,ZE,ZF⟩).findTo,table:=XM (ZK.nd ⟨⟨⟨Za,Zb⟩,⟨Zf,Zh⟩,⟨Zj,Zi,Zg⟩,⟨Ze,Zd,Zc⟩⟩,Zt,Zs,ZC,(kn:Int),ZL,ZB,Zy,Zu,Zo,Zv,Zn,Zx,⟨Zr,Zq,Zl⟩,ZE,ZF⟩).table (ZK.nd ⟨⟨⟨Za,Zb⟩,⟨Zf,Zh⟩,⟨Zj,Zi,Zg⟩,⟨Ze,Zd,Zc⟩⟩,Zt,Zs,ZC,(kn:Int),ZL,ZB,Zy,Zu,Zo,Zv,Zn,Zx,⟨Zr,Zq,Zl⟩,ZE,ZF⟩).findTo,findTo:=-1 }:=by
       rw [if_pos (by show Zv=-1;omega)];rfl
      have h3:=Ur (n:=ZK.nd ⟨⟨⟨Za,Zb⟩,⟨Zf,Zh⟩,⟨Zj,Zi,Zg⟩,⟨Ze,Zd,Zc⟩⟩,Zt,Zs,ZC,(kn:Int),ZL,ZB,Zy,Zu,Zo,Zv,Zn,Zx,⟨Zr,Zq,Zl⟩,ZE,ZF⟩) (id:=(Zb+powP kn)) (by show Zs=true;simp_all) h2 rfl
      rw [show VI (ZK.nd ⟨⟨⟨Za,Zb⟩,⟨Zf,Zh⟩,⟨Zj,Zi,Zg⟩,⟨Ze,Zd,Zc⟩⟩,Zt,Zs,ZC,(kn:Int),ZL,ZB,Zy,Zu,Zo,Zv,Zn,Zx,⟨none,0,[]⟩,ZE,ZF⟩).table (Zb+powP kn)=_ from hd] at h3
      rw [if_neg (by show ¬db=true;simp_all),show Wu (ZK.nd ⟨⟨⟨Za,Zb⟩,⟨Zf,Zh⟩,⟨Zj,Zi,Zg⟩,⟨Ze,Zd,Zc⟩⟩,Zt,Zs,ZC,(kn:Int),ZL,ZB,Zy,Zu,Zo,Zv,Zn,Zx,⟨none,0,[]⟩,ZE,ZF⟩).table (Zb+powP kn) (ZK.nd ⟨⟨⟨Za,Zb⟩,⟨Zf,Zh⟩,⟨Zj,Zi,Zg⟩,⟨Ze,Zd,Zc⟩⟩,Zt,Zs,ZC,(kn:Int),ZL,ZB,Zy,Zu,Zo,Zv,Zn,Zx,⟨none,0,[]⟩,ZE,ZF⟩).avoid=_ from hq] at h3
      rw [if_pos (by show qb=false;simp_all)] at h3
      exact ⟨_,M4,[],rfl,hM2.trans hm4,hw.c,rfl,⟨⟨⟨Za,Zb⟩,⟨Zf,Zh⟩,⟨Zj,Zi,Zg⟩,⟨Ze,Zd,Zc⟩⟩,Zt,Zs,ZC,0,ZL,ZB,Zy,Zu,Zo,Zv,Zn,Zx,⟨none,0,[]⟩,ZE,ZF⟩,⟨none,0,[]⟩,rfl,by rw [h3];rfl,by rw [h3];rfl,⟨(Yt.mono hM2).mono hm4,SlK.nil.mono hm4⟩,SlK.nil,fun y hy=>by cases hy⟩
     ·skip
      simp only [ZI.eta,ZN.eta,ZK.eta,ZO.eta,Ys.eta,ZQ.eta,YO.eta,ZU.eta] at hc10
      refine YE (Zp (Y_pk [9,6,3,2,1] ?_));refine ZJ (Zm (l:=[0,1,2]) rfl ?_);refine ZH F.lay23 ?_;refine Zk F.foff32_12 ?_;refine ZX F.lay23 ?_;refine Zw (Zp (Y_pk [9,3,2,1] ?_));refine ZJ (Zm (l:=[0,1]) rfl ?_);refine Zk F.foff32_14 ?_;refine ZX F.lay3 ?_;refine Zw (Zp (Y_pk [9,3,2,1] ?_));refine ZJ (Zm (l:=[0,1,2,3,4,5,6,7,8,9]) rfl ?_);refine ZH F.lay32 ?_;refine Zk F.foff25_0 ?_;refine ZH F.lay3 ?_;refine X_fn rfl rfl F.ok93 rfl (rseek_ok _ ⟨⟨⟨Za,Zb⟩,⟨Zf,Zh⟩,⟨Zj,Zi,Zg⟩,⟨Ze,Zd,Zc⟩⟩,Zt,Zs,ZC,(kn:Int),ZL,ZB,Zy,Zu,Zo,Zv,Zn,(Zb+powP kn),⟨none,0,[]⟩,0,ZF⟩ qa ⟨(Yt.mono hM2).mono hm4,SlK.nil.mono hm4⟩ (by simp only;first|omega|decide)) rfl ?_
      rintro _ M5 hm5 ⟨⟨⟨⟨Yc,Yp⟩,⟨Yh,Yu⟩,⟨YA,Yz,Ye⟩,⟨Yk,Yj,Yi⟩⟩,Xn,Xo,XI,Xm,XX,Xx,Xp,Xj,YY,Xk,YZ,Xl,⟨Xc,Xb,Xa⟩,XH,XG⟩,⟨o_a,o_c,o_l⟩,rfl,hv1,hv2,okv,oko,okq⟩
      refine ZA ?_
      iterate 2 refine XF ?_
      refine YQ F.zero32 ?_;intro b11
      refine Xq F.lay32 ?_;refine ZD ?_;refine Zw (Zp (Y_pk [12,11,3,2] ?_));refine ZJ (Zm (l:=[0,1,2,3]) rfl ?_);refine ZH F.lay32 ?_;refine ZA ?_;refine Xq F.lay32 ?_;refine ZD ?_;refine Zw (Zp (Y_pk [3,2] ?_));refine Yq ?_
      refine Yg (.inr rfl) (.cell rfl (by repeat first|exact List.Mem.head _|refine List.Mem.tail _ ?_|refine List.mem_append_right _ ?_) F.lay32 rfl rfl (.tmp rfl .nil)) (fun w hw=>?_)
      have h2:(ZK.nd ⟨⟨⟨Za,Zb⟩,⟨Zf,Zh⟩,⟨Zj,Zi,Zg⟩,⟨Ze,Zd,Zc⟩⟩,Zt,Zs,ZC,(kn:Int),ZL,ZB,Zy,Zu,Zo,Zv,Zn,Zx,⟨none,0,[]⟩,ZE,ZF⟩)=if (ZK.nd ⟨⟨⟨Za,Zb⟩,⟨Zf,Zh⟩,⟨Zj,Zi,Zg⟩,⟨Ze,Zd,Zc⟩⟩,Zt,Zs,ZC,(kn:Int),ZL,ZB,Zy,Zu,Zo,Zv,Zn,Zx,⟨Zr,Zq,Zl⟩,ZE,ZF⟩).findTo=-1 then { (ZK.nd ⟨⟨⟨Za,Zb⟩,⟨Zf,Zh⟩,⟨Zj,Zi,Zg⟩,⟨Ze,Zd,Zc⟩⟩,Zt,Zs,ZC,(kn:Int),ZL,ZB,Zy,Zu,Zo,Zv,Zn,Zx,⟨Zr,Zq,Zl⟩,ZE,ZF⟩) with avoid:=[] } else { (ZK.nd ⟨⟨⟨Za,Zb⟩,⟨Zf,Zh⟩,⟨Zj,Zi,Zg⟩,⟨Ze,Zd,Zc⟩⟩,Zt,Zs,ZC,(kn:Int),ZL,ZB,Zy,Zu,Zo,Zv,Zn,Zx,⟨Zr,Zq,Zl⟩,ZE,ZF⟩) with avoid:=Vh (ZK.nd ⟨⟨⟨Za,Zb⟩,⟨Zf,Zh⟩,⟨Zj,Zi,Zg⟩,⟨Ze,Zd,Zc⟩⟩,Zt,Zs,ZC,(kn:Int),ZL,ZB,Zy,Zu,Zo,Zv,Zn,Zx,⟨Zr,Zq,Zl⟩,ZE,ZF⟩).avoid (ZK.nd ⟨⟨⟨Za,Zb⟩,⟨Zf,Zh⟩,⟨Zj,Zi,Zg⟩,⟨Ze,Zd,Zc⟩⟩,Zt,Zs,ZC,(kn:Int),ZL,ZB,Zy,Zu,Zo,Zv,Zn,Zx,⟨Zr,Zq,Zl⟩,ZE,ZF⟩).findTo,table:=XM (ZK.nd ⟨⟨⟨Za,Zb⟩,⟨Zf,Zh⟩,⟨Zj,Zi,Zg⟩,⟨Ze,Zd,Zc⟩⟩,Zt,Zs,ZC,(kn:Int),ZL,ZB,Zy,Zu,Zo,Zv,Zn,Zx,⟨Zr,Zq,Zl⟩,ZE,ZF⟩).table (ZK.nd ⟨⟨⟨Za,Zb⟩,⟨Zf,Zh⟩,⟨Zj,Zi,Zg⟩,⟨Ze,Zd,Zc⟩⟩,Zt,Zs,ZC,(kn:Int),ZL,ZB,Zy,Zu,Zo,Zv,Zn,Zx,⟨Zr,Zq,Zl⟩,ZE,ZF⟩).findTo,findTo:=-1 }:=by
       rw [if_pos (by show Zv=-1;omega)];rfl
      have h3:=Ur (n:=ZK.nd ⟨⟨⟨Za,Zb⟩,⟨Zf,Zh⟩,⟨Zj,Zi,Zg⟩,⟨Ze,Zd,Zc⟩⟩,Zt,Zs,ZC,(kn:Int),ZL,ZB,Zy,Zu,Zo,Zv,Zn,Zx,⟨Zr,Zq,Zl⟩,ZE,ZF⟩) (id:=(Zb+powP kn)) (by show Zs=true;simp_all) h2 rfl
      rw [show VI (ZK.nd ⟨⟨⟨Za,Zb⟩,⟨Zf,Zh⟩,⟨Zj,Zi,Zg⟩,⟨Ze,Zd,Zc⟩⟩,Zt,Zs,ZC,(kn:Int),ZL,ZB,Zy,Zu,Zo,Zv,Zn,Zx,⟨none,0,[]⟩,ZE,ZF⟩).table (Zb+powP kn)=_ from hd] at h3
      rw [if_neg (by show ¬db=true;simp_all),show Wu (ZK.nd ⟨⟨⟨Za,Zb⟩,⟨Zf,Zh⟩,⟨Zj,Zi,Zg⟩,⟨Ze,Zd,Zc⟩⟩,Zt,Zs,ZC,(kn:Int),ZL,ZB,Zy,Zu,Zo,Zv,Zn,Zx,⟨none,0,[]⟩,ZE,ZF⟩).table (Zb+powP kn) (ZK.nd ⟨⟨⟨Za,Zb⟩,⟨Zf,Zh⟩,⟨Zj,Zi,Zg⟩,⟨Ze,Zd,Zc⟩⟩,Zt,Zs,ZC,(kn:Int),ZL,ZB,Zy,Zu,Zo,Zv,Zn,Zx,⟨none,0,[]⟩,ZE,ZF⟩).avoid=_ from hq] at h3
      rw [if_neg (by show ¬qb=false;simp_all)] at h3
      refine ⟨_,M5,[],rfl,(hM2.trans hm4).trans hm5,hw.c,rfl,⟨⟨⟨Yc,Yp⟩,⟨Yh,Yu⟩,⟨YA,Yz,Ye⟩,⟨Yk,Yj,Yi⟩⟩,Xn,Xo,XI,Xm,XX,Xx,Xp,Xj,YY,Xk,YZ,Xl,⟨Xc,Xb,Xa⟩,XH,XG⟩,⟨o_a,o_c,o_l⟩,rfl,?_,?_,okv,oko,okq⟩
      ·rw [hv1,h3];rfl
      ·rw [hv2,h3];rfl
   ·replace hc4:=dF hc4
    refine ZJ (C_regionR (l:=[0,1,2,3,4]) (Hin:=hav) (by repeat first|exact Rem.here _|exact Rem.two|apply Rem.skip|apply Rem.over) rfl ?_);refine ZH F.lay32 ?_;refine Zk F.foff32_10 ?_;refine ZH F.lay3 ?_;refine VV rfl rfl F.ok92 rfl (rshun_ok M _ _ _ _ _ _ _ _ _ _ _ _ _ _ _ _ _ _ _ _ _ _ _ _ _ _ _ hav hA (by omega) Zv) (by repeat first|exact Rem.here _|exact Rem.two|apply Rem.skip|apply Rem.over) (fun _ _ _ hm hw=>(hw.lower (by exact hm)).c) (YN rfl) ?_
    rintro _ M1 hs5 hm1 ⟨hM1,⟨s_a,s_c,s_l⟩,rfl,ho9,hl9⟩
    subst M1
    simp only [Sl.val] at ho9
    simp only at hl9
    have hLs:s_l.length≤901:=by rw [hl9];unfold Vh;split;omega;(rw [List.length_append];simp only [List.length_cons,List.length_nil];omega)
    refine Xq F.lay32 ?_;refine Zw (Zp (Y_pk [3,2,1] ?_));refine ZJ ?_
    refine Un ho9 (by repeat first|exact Rem.here _|exact Rem.two|apply Rem.skip|apply Rem.over) (fun M2 hM2 k9=>?_)
    refine Zm (l:=[0,1,2,3,4,5,6]) rfl ?_;refine Zk F.foff32_0 ?_;refine ZH F.lay28 ?_;refine Zk F.foff32_10 ?_;refine ZH F.lay3 ?_;refine X_fn rfl rfl F.ok94 rfl (rForget_ok _ ⟨⟨Za,Zb⟩,⟨Zf,Zh⟩,⟨Zj,Zi,Zg⟩,⟨Ze,Zd,Zc⟩⟩ Zv (Yt.mono hM2) hbig) rfl ?_
    rintro _ M3 hm3 ⟨⟨⟨oa,oi⟩,⟨oq,oj⟩,⟨o1a,o1c,o1l⟩,⟨o2a,o2c,o2l⟩⟩,rfl,hot,okt⟩
    have hbo:o1l.length≤40∧o2l.length≤200:=forget_big hot hbig
    refine Zk F.foff32_0 ?_;refine ZX F.lay28 ?_;refine Zw (Zp (Y_pk [3,2,1] ?_));refine Zm (l:=[0,1]) rfl ?_;refine Zk F.foff32_10 ?_;refine ZX F.lay3 ?_;refine Zw (Zp (Y_pk [3,2,1] ?_));refine ZJ (Zm (l:=[0,1,2,3,4,5,6,7,8]) rfl ?_);refine Zk F.foff32_4 ?_;refine ZH F.lay3 ?_;refine X_fs rfl rfl F.ok96 rfl (rPower_ok_in _ kn (by omega)) rfl ?_
    rintro _ rfl
    refine ZA ?_
    iterate 2 refine XF ?_
    refine YQ F.zero23 ?_;intro b12
    refine ZX F.lay23 ?_;refine ZD ?_;refine Zw (Zp (Y_pk [4,3,2,1] ?_));refine ZJ (Zm (l:=[0,1,2,3,4,5,6,7]) rfl ?_);refine Zk F.foff32_0 ?_;refine Zk F.foff28_0 ?_;refine Zk F.foff25_1 ?_
    iterate 2 refine ZH F.lay23 ?_
    refine X_fs rfl rfl F.ok97 rfl (rPlus_ok _ _ _) rfl ?_
    rintro _ rfl
    refine YQ F.zero23 ?_;intro b13
    refine ZX F.lay23 ?_;refine Zw (Zp (Y_pk [6,3,2,1] ?_));refine ZJ (Zm (l:=[0,1,2,3,4,5,6,7,8,9]) rfl ?_);refine Zk F.foff32_0 ?_;refine ZH F.lay28 ?_;refine ZH F.lay23 ?_;refine X_fs rfl rfl F.ok98 rfl (rDone_ok _ ⟨⟨oa,oi⟩,⟨oq,oj⟩,⟨o1a,o1c,o1l⟩,⟨o2a,o2c,o2l⟩⟩ (oi+powP kn) okt) rfl ?_
    rintro _ rfl
    obtain ⟨⟨⟨da,di⟩,db⟩,hd⟩:∃ x,VI (ZN.tb ⟨⟨oa,oi⟩,⟨oq,oj⟩,⟨o1a,o1c,o1l⟩,⟨o2a,o2c,o2l⟩⟩) (oi+powP kn)=x:=⟨_,rfl⟩
    rw [hd]
    refine ZA ?_
    iterate 2 refine XF ?_
    refine YQ F.zero25 ?_;intro b14
    refine ZX F.lay25 ?_;refine ZD ?_;refine Zw (Zp (Y_pk [8,7,6,3,2,1] ?_))
    iterate 2 refine ZJ ?_
    refine Zm (l:=[0]) rfl ?_;refine ZA ?_;refine Zw (Zp (Y_pk [51,7,6,3,2,1] ?_))
    refine YC rfl (fun hc15=>?_) (fun hc15=>?_)
    ·skip
     simp only [ZI.eta,ZN.eta,ZK.eta,ZO.eta,Ys.eta,ZQ.eta,YO.eta,ZU.eta] at hc15
     refine ZJ (Zm (l:=[0,1,2,3,4]) rfl ?_);refine ZH F.lay32 ?_;refine ZH F.lay25 ?_;refine X_fn rfl rfl F.ok99 rfl (rpoint_ok _ ⟨⟨⟨oa,oi⟩,⟨oq,oj⟩,⟨o1a,o1c,o1l⟩,⟨o2a,o2c,o2l⟩⟩,Zt,Zs,ZC,(kn:Int),ZL,ZB,Zy,Zu,Zo,-1,Zn,Zx,⟨s_a,s_c,s_l⟩,ZE,ZF⟩ ⟨da,di⟩ ⟨okt,(k9.mono hm3)⟩) rfl ?_
     rintro _ M4 hm4 ⟨⟨⟨⟨Yc,Yp⟩,⟨Yh,Yu⟩,⟨YA,Yz,Ye⟩,⟨Yk,Yj,Yi⟩⟩,Xn,Xo,XI,Xm,XX,Xx,Xp,Xj,YY,Xk,YZ,Xl,⟨Xc,Xb,Xa⟩,XH,XG⟩,rfl,hv1,okv⟩
     refine Xq F.lay32 ?_;refine ZD ?_;refine Zw (Zp (Y_pk [3,6,2,1] ?_));refine Yq (YS ?_)
     refine Yg (.inr rfl) (.cell rfl (by repeat first|exact List.Mem.head _|refine List.Mem.tail _ ?_|refine List.mem_append_right _ ?_) F.lay32 rfl rfl (.tmp rfl .nil)) (fun w hw=>?_)
     have h2:(ZK.nd ⟨⟨⟨oa,oi⟩,⟨oq,oj⟩,⟨o1a,o1c,o1l⟩,⟨o2a,o2c,o2l⟩⟩,Zt,Zs,ZC,(kn:Int),ZL,ZB,Zy,Zu,Zo,-1,Zn,Zx,⟨s_a,s_c,s_l⟩,ZE,ZF⟩)=if (ZK.nd ⟨⟨⟨Za,Zb⟩,⟨Zf,Zh⟩,⟨Zj,Zi,Zg⟩,⟨Ze,Zd,Zc⟩⟩,Zt,Zs,ZC,(kn:Int),ZL,ZB,Zy,Zu,Zo,Zv,Zn,Zx,⟨Zr,Zq,Zl⟩,ZE,ZF⟩).findTo=-1 then { (ZK.nd ⟨⟨⟨Za,Zb⟩,⟨Zf,Zh⟩,⟨Zj,Zi,Zg⟩,⟨Ze,Zd,Zc⟩⟩,Zt,Zs,ZC,(kn:Int),ZL,ZB,Zy,Zu,Zo,Zv,Zn,Zx,⟨Zr,Zq,Zl⟩,ZE,ZF⟩) with avoid:=[] } else { (ZK.nd ⟨⟨⟨Za,Zb⟩,⟨Zf,Zh⟩,⟨Zj,Zi,Zg⟩,⟨Ze,Zd,Zc⟩⟩,Zt,Zs,ZC,(kn:Int),ZL,ZB,Zy,Zu,Zo,Zv,Zn,Zx,⟨Zr,Zq,Zl⟩,ZE,ZF⟩) with avoid:=Vh (ZK.nd ⟨⟨⟨Za,Zb⟩,⟨Zf,Zh⟩,⟨Zj,Zi,Zg⟩,⟨Ze,Zd,Zc⟩⟩,Zt,Zs,ZC,(kn:Int),ZL,ZB,Zy,Zu,Zo,Zv,Zn,Zx,⟨Zr,Zq,Zl⟩,ZE,ZF⟩).avoid (ZK.nd ⟨⟨⟨Za,Zb⟩,⟨Zf,Zh⟩,⟨Zj,Zi,Zg⟩,⟨Ze,Zd,Zc⟩⟩,Zt,Zs,ZC,(kn:Int),ZL,ZB,Zy,Zu,Zo,Zv,Zn,Zx,⟨Zr,Zq,Zl⟩,ZE,ZF⟩).findTo,table:=XM (ZK.nd ⟨⟨⟨Za,Zb⟩,⟨Zf,Zh⟩,⟨Zj,Zi,Zg⟩,⟨Ze,Zd,Zc⟩⟩,Zt,Zs,ZC,(kn:Int),ZL,ZB,Zy,Zu,Zo,Zv,Zn,Zx,⟨Zr,Zq,Zl⟩,ZE,ZF⟩).table (ZK.nd ⟨⟨⟨Za,Zb⟩,⟨Zf,Zh⟩,⟨Zj,Zi,Zg⟩,⟨Ze,Zd,Zc⟩⟩,Zt,Zs,ZC,(kn:Int),ZL,ZB,Zy,Zu,Zo,Zv,Zn,Zx,⟨Zr,Zq,Zl⟩,ZE,ZF⟩).findTo,findTo:=-1 }:=by
      rw [if_neg (by show ¬Zv=-1;omega)]
      rw [show XM (ZK.nd ⟨⟨⟨Za,Zb⟩,⟨Zf,Zh⟩,⟨Zj,Zi,Zg⟩,⟨Ze,Zd,Zc⟩⟩,Zt,Zs,ZC,(kn:Int),ZL,ZB,Zy,Zu,Zo,Zv,Zn,Zx,⟨Zr,Zq,Zl⟩,ZE,ZF⟩).table (ZK.nd ⟨⟨⟨Za,Zb⟩,⟨Zf,Zh⟩,⟨Zj,Zi,Zg⟩,⟨Ze,Zd,Zc⟩⟩,Zt,Zs,ZC,(kn:Int),ZL,ZB,Zy,Zu,Zo,Zv,Zn,Zx,⟨Zr,Zq,Zl⟩,ZE,ZF⟩).findTo=_ from hot.symm,show Vh (ZK.nd ⟨⟨⟨Za,Zb⟩,⟨Zf,Zh⟩,⟨Zj,Zi,Zg⟩,⟨Ze,Zd,Zc⟩⟩,Zt,Zs,ZC,(kn:Int),ZL,ZB,Zy,Zu,Zo,Zv,Zn,Zx,⟨Zr,Zq,Zl⟩,ZE,ZF⟩).avoid (ZK.nd ⟨⟨⟨Za,Zb⟩,⟨Zf,Zh⟩,⟨Zj,Zi,Zg⟩,⟨Ze,Zd,Zc⟩⟩,Zt,Zs,ZC,(kn:Int),ZL,ZB,Zy,Zu,Zo,Zv,Zn,Zx,⟨Zr,Zq,Zl⟩,ZE,ZF⟩).findTo=_ from hl9.symm];rfl
     have h3:=Ur (n:=ZK.nd ⟨⟨⟨Za,Zb⟩,⟨Zf,Zh⟩,⟨Zj,Zi,Zg⟩,⟨Ze,Zd,Zc⟩⟩,Zt,Zs,ZC,(kn:Int),ZL,ZB,Zy,Zu,Zo,Zv,Zn,Zx,⟨Zr,Zq,Zl⟩,ZE,ZF⟩) (id:=(oi+powP kn)) (by show Zs=true;simp_all) h2 rfl
     rw [show VI (ZK.nd ⟨⟨⟨oa,oi⟩,⟨oq,oj⟩,⟨o1a,o1c,o1l⟩,⟨o2a,o2c,o2l⟩⟩,Zt,Zs,ZC,(kn:Int),ZL,ZB,Zy,Zu,Zo,-1,Zn,Zx,⟨s_a,s_c,s_l⟩,ZE,ZF⟩).table (oi+powP kn)=_ from hd] at h3
     rw [if_pos (by show db=true;simp_all)] at h3
     exact ⟨_,M4,[],rfl,(hM2.trans hm3).trans hm4,hw.c,rfl,⟨⟨⟨Yc,Yp⟩,⟨Yh,Yu⟩,⟨YA,Yz,Ye⟩,⟨Yk,Yj,Yi⟩⟩,Xn,Xo,XI,Xm,XX,Xx,Xp,Xj,YY,Xk,YZ,Xl,⟨Xc,Xb,Xa⟩,XH,XG⟩,⟨none,0,[]⟩,rfl,by rw [h3];exact hv1,by rw [h3];rfl,okv,SlK.nil,fun y hy=>by cases hy⟩
    ·skip
     simp only [ZI.eta,ZN.eta,ZK.eta,ZO.eta,Ys.eta,ZQ.eta,YO.eta,ZU.eta] at hc15
     refine YE (Zp (Y_pk [6,3,2,1] ?_));refine ZJ (Zm (l:=[0,1,2,3,4,5,6,7,8,9,10,11]) rfl ?_);refine Zk F.foff32_0 ?_;refine ZH F.lay28 ?_;refine ZH F.lay23 ?_;refine Zk F.foff32_13 ?_;refine ZH F.lay30 ?_;refine X_fn rfl rfl F.ok100 rfl (rNearest_ok _ ⟨⟨oa,oi⟩,⟨oq,oj⟩,⟨o1a,o1c,o1l⟩,⟨o2a,o2c,o2l⟩⟩ (oi+powP kn) ⟨s_a,s_c,s_l⟩ okt (k9.mono hm3) hbo) rfl ?_
     rintro _ M4 hm4 rfl
     obtain ⟨⟨⟨qa,qi⟩,qb⟩,hq⟩:∃ x,Wu (ZN.tb ⟨⟨oa,oi⟩,⟨oq,oj⟩,⟨o1a,o1c,o1l⟩,⟨o2a,o2c,o2l⟩⟩) (oi+powP kn) (⟨s_a,s_c,s_l⟩:Sl Int).l=x:=⟨_,rfl⟩
     rw [hq]
     refine ZA ?_
     iterate 2 refine XF ?_
     refine YQ F.zero25 ?_;intro b16
     refine ZX F.lay25 ?_;refine ZD ?_;refine Zw (Zp (Y_pk [10,9,6,3,2,1] ?_))
     iterate 2 refine ZJ ?_
     refine Zm (l:=[0,1]) rfl ?_;refine ZA ?_;refine XP ?_;refine Zw (Zp (Y_pk [65,9,6,3,2,1] ?_))
     refine YC rfl (fun hc17=>?_) (fun hc17=>?_)
     ·skip
      simp only [ZI.eta,ZN.eta,ZK.eta,ZO.eta,Ys.eta,ZQ.eta,YO.eta,ZU.eta] at hc17
      refine ZJ (Zm (l:=[0,1]) rfl ?_);refine Zk F.foff32_4 ?_;refine ZX F.lay3 ?_;refine Zw (Zp (Y_pk [9,6,3,2,1] ?_));refine ZJ (Zm (l:=[0,1,2]) rfl ?_);refine ZH F.lay32 ?_;refine Xq F.lay32 ?_;refine ZD ?_;refine Zw (Zp (Y_pk [3,9,6,2,1] ?_));refine Yq (YS ?_)
      refine Yg (.inr rfl) (.cell rfl (by repeat first|exact List.Mem.head _|refine List.Mem.tail _ ?_|refine List.mem_append_right _ ?_) F.lay32 rfl rfl (.tmp rfl .nil)) (fun w hw=>?_)
      have h2:(ZK.nd ⟨⟨⟨oa,oi⟩,⟨oq,oj⟩,⟨o1a,o1c,o1l⟩,⟨o2a,o2c,o2l⟩⟩,Zt,Zs,ZC,(kn:Int),ZL,ZB,Zy,Zu,Zo,-1,Zn,Zx,⟨s_a,s_c,s_l⟩,ZE,ZF⟩)=if (ZK.nd ⟨⟨⟨Za,Zb⟩,⟨Zf,Zh⟩,⟨Zj,Zi,Zg⟩,⟨Ze,Zd,Zc⟩⟩,Zt,Zs,ZC,(kn:Int),ZL,ZB,Zy,Zu,Zo,Zv,Zn,Zx,⟨Zr,Zq,Zl⟩,ZE,ZF⟩).findTo=-1 then { (ZK.nd ⟨⟨⟨Za,Zb⟩,⟨Zf,Zh⟩,⟨Zj,Zi,Zg⟩,⟨Ze,Zd,Zc⟩⟩,Zt,Zs,ZC,(kn:Int),ZL,ZB,Zy,Zu,Zo,Zv,Zn,Zx,⟨Zr,Zq,Zl⟩,ZE,ZF⟩) with avoid:=[] } else { (ZK.nd ⟨⟨⟨Za,Zb⟩,⟨Zf,Zh⟩,⟨Zj,Zi,Zg⟩,⟨Ze,Zd,Zc⟩⟩,Zt,Zs,ZC,(kn:Int),ZL,ZB,Zy,Zu,Zo,Zv,Zn,Zx,⟨Zr,Zq,Zl⟩,ZE,ZF⟩) with avoid:=Vh (ZK.nd ⟨⟨⟨Za,Zb⟩,⟨Zf,Zh⟩,⟨Zj,Zi,Zg⟩,⟨Ze,Zd,Zc⟩⟩,Zt,Zs,ZC,(kn:Int),ZL,ZB,Zy,Zu,Zo,Zv,Zn,Zx,⟨Zr,Zq,Zl⟩,ZE,ZF⟩).avoid (ZK.nd ⟨⟨⟨Za,Zb⟩,⟨Zf,Zh⟩,⟨Zj,Zi,Zg⟩,⟨Ze,Zd,Zc⟩⟩,Zt,Zs,ZC,(kn:Int),ZL,ZB,Zy,Zu,Zo,Zv,Zn,Zx,⟨Zr,Zq,Zl⟩,ZE,ZF⟩).findTo,table:=XM (ZK.nd ⟨⟨⟨Za,Zb⟩,⟨Zf,Zh⟩,⟨Zj,Zi,Zg⟩,⟨Ze,Zd,Zc⟩⟩,Zt,Zs,ZC,(kn:Int),ZL,ZB,Zy,Zu,Zo,Zv,Zn,Zx,⟨Zr,Zq,Zl⟩,ZE,ZF⟩).table (ZK.nd ⟨⟨⟨Za,Zb⟩,⟨Zf,Zh⟩,⟨Zj,Zi,Zg⟩,⟨Ze,Zd,Zc⟩⟩,Zt,Zs,ZC,(kn:Int),ZL,ZB,Zy,Zu,Zo,Zv,Zn,Zx,⟨Zr,Zq,Zl⟩,ZE,ZF⟩).findTo,findTo:=-1 }:=by
       rw [if_neg (by show ¬Zv=-1;omega)]
       rw [show XM (ZK.nd ⟨⟨⟨Za,Zb⟩,⟨Zf,Zh⟩,⟨Zj,Zi,Zg⟩,⟨Ze,Zd,Zc⟩⟩,Zt,Zs,ZC,(kn:Int),ZL,ZB,Zy,Zu,Zo,Zv,Zn,Zx,⟨Zr,Zq,Zl⟩,ZE,ZF⟩).table (ZK.nd ⟨⟨⟨Za,Zb⟩,⟨Zf,Zh⟩,⟨Zj,Zi,Zg⟩,⟨Ze,Zd,Zc⟩⟩,Zt,Zs,ZC,(kn:Int),ZL,ZB,Zy,Zu,Zo,Zv,Zn,Zx,⟨Zr,Zq,Zl⟩,ZE,ZF⟩).findTo=_ from hot.symm,show Vh (ZK.nd ⟨⟨⟨Za,Zb⟩,⟨Zf,Zh⟩,⟨Zj,Zi,Zg⟩,⟨Ze,Zd,Zc⟩⟩,Zt,Zs,ZC,(kn:Int),ZL,ZB,Zy,Zu,Zo,Zv,Zn,Zx,⟨Zr,Zq,Zl⟩,ZE,ZF⟩).avoid (ZK.nd ⟨⟨⟨Za,Zb⟩,⟨Zf,Zh⟩,⟨Zj,Zi,Zg⟩,⟨Ze,Zd,Zc⟩⟩,Zt,Zs,ZC,(kn:Int),ZL,ZB,Zy,Zu,Zo,Zv,Zn,Zx,⟨Zr,Zq,Zl⟩,ZE,ZF⟩).findTo=_ from hl9.symm];rfl
      have h3:=Ur (n:=ZK.nd ⟨⟨⟨Za,Zb⟩,⟨Zf,Zh⟩,⟨Zj,Zi,Zg⟩,⟨Ze,Zd,Zc⟩⟩,Zt,Zs,ZC,(kn:Int),ZL,ZB,Zy,Zu,Zo,Zv,Zn,Zx,⟨Zr,Zq,Zl⟩,ZE,ZF⟩) (id:=(oi+powP kn)) (by show Zs=true;simp_all) h2 rfl
      rw [show VI (ZK.nd ⟨⟨⟨oa,oi⟩,⟨oq,oj⟩,⟨o1a,o1c,o1l⟩,⟨o2a,o2c,o2l⟩⟩,Zt,Zs,ZC,(kn:Int),ZL,ZB,Zy,Zu,Zo,-1,Zn,Zx,⟨s_a,s_c,s_l⟩,ZE,ZF⟩).table (oi+powP kn)=_ from hd] at h3
      rw [if_neg (by show ¬db=true;simp_all),show Wu (ZK.nd ⟨⟨⟨oa,oi⟩,⟨oq,oj⟩,⟨o1a,o1c,o1l⟩,⟨o2a,o2c,o2l⟩⟩,Zt,Zs,ZC,(kn:Int),ZL,ZB,Zy,Zu,Zo,-1,Zn,Zx,⟨s_a,s_c,s_l⟩,ZE,ZF⟩).table (oi+powP kn) (ZK.nd ⟨⟨⟨oa,oi⟩,⟨oq,oj⟩,⟨o1a,o1c,o1l⟩,⟨o2a,o2c,o2l⟩⟩,Zt,Zs,ZC,(kn:Int),ZL,ZB,Zy,Zu,Zo,-1,Zn,Zx,⟨s_a,s_c,s_l⟩,ZE,ZF⟩).avoid=_ from hq] at h3
      rw [if_pos (by show qb=false;simp_all)] at h3
      exact ⟨_,M4,[],rfl,(hM2.trans hm3).trans hm4,hw.c,rfl,⟨⟨⟨oa,oi⟩,⟨oq,oj⟩,⟨o1a,o1c,o1l⟩,⟨o2a,o2c,o2l⟩⟩,Zt,Zs,ZC,0,ZL,ZB,Zy,Zu,Zo,-1,Zn,Zx,⟨s_a,s_c,s_l⟩,ZE,ZF⟩,⟨none,0,[]⟩,rfl,by rw [h3];rfl,by rw [h3];rfl,⟨okt.mono hm4,(k9.mono hm3).mono hm4⟩,SlK.nil,fun y hy=>by cases hy⟩
     ·skip
      simp only [ZI.eta,ZN.eta,ZK.eta,ZO.eta,Ys.eta,ZQ.eta,YO.eta,ZU.eta] at hc17
      refine YE (Zp (Y_pk [9,6,3,2,1] ?_));refine ZJ (Zm (l:=[0,1,2]) rfl ?_);refine ZH F.lay23 ?_;refine Zk F.foff32_12 ?_;refine ZX F.lay23 ?_;refine Zw (Zp (Y_pk [9,3,2,1] ?_));refine ZJ (Zm (l:=[0,1]) rfl ?_);refine Zk F.foff32_14 ?_;refine ZX F.lay3 ?_;refine Zw (Zp (Y_pk [9,3,2,1] ?_));refine ZJ (Zm (l:=[0,1,2,3,4,5,6,7,8,9]) rfl ?_);refine ZH F.lay32 ?_;refine Zk F.foff25_0 ?_;refine ZH F.lay3 ?_;refine X_fn rfl rfl F.ok93 rfl (rseek_ok _ ⟨⟨⟨oa,oi⟩,⟨oq,oj⟩,⟨o1a,o1c,o1l⟩,⟨o2a,o2c,o2l⟩⟩,Zt,Zs,ZC,(kn:Int),ZL,ZB,Zy,Zu,Zo,-1,Zn,(oi+powP kn),⟨s_a,s_c,s_l⟩,0,ZF⟩ qa ⟨okt.mono hm4,(k9.mono hm3).mono hm4⟩ (by simp only;first|omega|decide)) rfl ?_
      rintro _ M5 hm5 ⟨⟨⟨⟨Yc,Yp⟩,⟨Yh,Yu⟩,⟨YA,Yz,Ye⟩,⟨Yk,Yj,Yi⟩⟩,Xn,Xo,XI,Xm,XX,Xx,Xp,Xj,YY,Xk,YZ,Xl,⟨Xc,Xb,Xa⟩,XH,XG⟩,⟨o_a,o_c,o_l⟩,rfl,hv1,hv2,okv,oko,okq⟩
      refine ZA ?_
      iterate 2 refine XF ?_
      refine YQ F.zero32 ?_;intro b18
      refine Xq F.lay32 ?_;refine ZD ?_;refine Zw (Zp (Y_pk [12,11,3,2] ?_));refine ZJ (Zm (l:=[0,1,2,3]) rfl ?_);refine ZH F.lay32 ?_;refine ZA ?_;refine Xq F.lay32 ?_;refine ZD ?_;refine Zw (Zp (Y_pk [3,2] ?_));refine Yq ?_
      refine Yg (.inr rfl) (.cell rfl (by repeat first|exact List.Mem.head _|refine List.Mem.tail _ ?_|refine List.mem_append_right _ ?_) F.lay32 rfl rfl (.tmp rfl .nil)) (fun w hw=>?_)
      have h2:(ZK.nd ⟨⟨⟨oa,oi⟩,⟨oq,oj⟩,⟨o1a,o1c,o1l⟩,⟨o2a,o2c,o2l⟩⟩,Zt,Zs,ZC,(kn:Int),ZL,ZB,Zy,Zu,Zo,-1,Zn,Zx,⟨s_a,s_c,s_l⟩,ZE,ZF⟩)=if (ZK.nd ⟨⟨⟨Za,Zb⟩,⟨Zf,Zh⟩,⟨Zj,Zi,Zg⟩,⟨Ze,Zd,Zc⟩⟩,Zt,Zs,ZC,(kn:Int),ZL,ZB,Zy,Zu,Zo,Zv,Zn,Zx,⟨Zr,Zq,Zl⟩,ZE,ZF⟩).findTo=-1 then { (ZK.nd ⟨⟨⟨Za,Zb⟩,⟨Zf,Zh⟩,⟨Zj,Zi,Zg⟩,⟨Ze,Zd,Zc⟩⟩,Zt,Zs,ZC,(kn:Int),ZL,ZB,Zy,Zu,Zo,Zv,Zn,Zx,⟨Zr,Zq,Zl⟩,ZE,ZF⟩) with avoid:=[] } else { (ZK.nd ⟨⟨⟨Za,Zb⟩,⟨Zf,Zh⟩,⟨Zj,Zi,Zg⟩,⟨Ze,Zd,Zc⟩⟩,Zt,Zs,ZC,(kn:Int),ZL,ZB,Zy,Zu,Zo,Zv,Zn,Zx,⟨Zr,Zq,Zl⟩,ZE,ZF⟩) with avoid:=Vh (ZK.nd ⟨⟨⟨Za,Zb⟩,⟨Zf,Zh⟩,⟨Zj,Zi,Zg⟩,⟨Ze,Zd,Zc⟩⟩,Zt,Zs,ZC,(kn:Int),ZL,ZB,Zy,Zu,Zo,Zv,Zn,Zx,⟨Zr,Zq,Zl⟩,ZE,ZF⟩).avoid (ZK.nd ⟨⟨⟨Za,Zb⟩,⟨Zf,Zh⟩,⟨Zj,Zi,Zg⟩,⟨Ze,Zd,Zc⟩⟩,Zt,Zs,ZC,(kn:Int),ZL,ZB,Zy,Zu,Zo,Zv,Zn,Zx,⟨Zr,Zq,Zl⟩,ZE,ZF⟩).findTo,table:=XM (ZK.nd ⟨⟨⟨Za,Zb⟩,⟨Zf,Zh⟩,⟨Zj,Zi,Zg⟩,⟨Ze,Zd,Zc⟩⟩,Zt,Zs,ZC,(kn:Int),ZL,ZB,Zy,Zu,Zo,Zv,Zn,Zx,⟨Zr,Zq,Zl⟩,ZE,ZF⟩).table (ZK.nd ⟨⟨⟨Za,Zb⟩,⟨Zf,Zh⟩,⟨Zj,Zi,Zg⟩,⟨Ze,Zd,Zc⟩⟩,Zt,Zs,ZC,(kn:Int),ZL,ZB,Zy,Zu,Zo,Zv,Zn,Zx,⟨Zr,Zq,Zl⟩,ZE,ZF⟩).findTo,findTo:=-1 }:=by
       rw [if_neg (by show ¬Zv=-1;omega)]
       rw [show XM (ZK.nd ⟨⟨⟨Za,Zb⟩,⟨Zf,Zh⟩,⟨Zj,Zi,Zg⟩,⟨Ze,Zd,Zc⟩⟩,Zt,Zs,ZC,(kn:Int),ZL,ZB,Zy,Zu,Zo,Zv,Zn,Zx,⟨Zr,Zq,Zl⟩,ZE,ZF⟩).table (ZK.nd ⟨⟨⟨Za,Zb⟩,⟨Zf,Zh⟩,⟨Zj,Zi,Zg⟩,⟨Ze,Zd,Zc⟩⟩,Zt,Zs,ZC,(kn:Int),ZL,ZB,Zy,Zu,Zo,Zv,Zn,Zx,⟨Zr,Zq,Zl⟩,ZE,ZF⟩).findTo=_ from hot.symm,show Vh (ZK.nd ⟨⟨⟨Za,Zb⟩,⟨Zf,Zh⟩,⟨Zj,Zi,Zg⟩,⟨Ze,Zd,Zc⟩⟩,Zt,Zs,ZC,(kn:Int),ZL,ZB,Zy,Zu,Zo,Zv,Zn,Zx,⟨Zr,Zq,Zl⟩,ZE,ZF⟩).avoid (ZK.nd ⟨⟨⟨Za,Zb⟩,⟨Zf,Zh⟩,⟨Zj,Zi,Zg⟩,⟨Ze,Zd,Zc⟩⟩,Zt,Zs,ZC,(kn:Int),ZL,ZB,Zy,Zu,Zo,Zv,Zn,Zx,⟨Zr,Zq,Zl⟩,ZE,ZF⟩).findTo=_ from hl9.symm];rfl
      have h3:=Ur (n:=ZK.nd ⟨⟨⟨Za,Zb⟩,⟨Zf,Zh⟩,⟨Zj,Zi,Zg⟩,⟨Ze,Zd,Zc⟩⟩,Zt,Zs,ZC,(kn:Int),ZL,ZB,Zy,Zu,Zo,Zv,Zn,Zx,⟨Zr,Zq,Zl⟩,ZE,ZF⟩) (id:=(oi+powP kn)) (by show Zs=true;simp_all) h2 rfl
      rw [show VI (ZK.nd ⟨⟨⟨oa,oi⟩,⟨oq,oj⟩,⟨o1a,o1c,o1l⟩,⟨o2a,o2c,o2l⟩⟩,Zt,Zs,ZC,(kn:Int),ZL,ZB,Zy,Zu,Zo,-1,Zn,Zx,⟨s_a,s_c,s_l⟩,ZE,ZF⟩).table (oi+powP kn)=_ from hd] at h3
      rw [if_neg (by show ¬db=true;simp_all),show Wu (ZK.nd ⟨⟨⟨oa,oi⟩,⟨oq,oj⟩,⟨o1a,o1c,o1l⟩,⟨o2a,o2c,o2l⟩⟩,Zt,Zs,ZC,(kn:Int),ZL,ZB,Zy,Zu,Zo,-1,Zn,Zx,⟨s_a,s_c,s_l⟩,ZE,ZF⟩).table (oi+powP kn) (ZK.nd ⟨⟨⟨oa,oi⟩,⟨oq,oj⟩,⟨o1a,o1c,o1l⟩,⟨o2a,o2c,o2l⟩⟩,Zt,Zs,ZC,(kn:Int),ZL,ZB,Zy,Zu,Zo,-1,Zn,Zx,⟨s_a,s_c,s_l⟩,ZE,ZF⟩).avoid=_ from hq] at h3
      rw [if_neg (by show ¬qb=false;simp_all)] at h3
      refine ⟨_,M5,[],rfl,((hM2.trans hm3).trans hm4).trans hm5,hw.c,rfl,⟨⟨⟨Yc,Yp⟩,⟨Yh,Yu⟩,⟨YA,Yz,Ye⟩,⟨Yk,Yj,Yi⟩⟩,Xn,Xo,XI,Xm,XX,Xx,Xp,Xj,YY,Xk,YZ,Xl,⟨Xc,Xb,Xa⟩,XH,XG⟩,⟨o_a,o_c,o_l⟩,rfl,?_,?_,okv,oko,okq⟩
      ·rw [hv1,h3];rfl
      ·rw [hv2,h3];rfl
end Go.Proofs.YtajmnjefajknoaaGreat
