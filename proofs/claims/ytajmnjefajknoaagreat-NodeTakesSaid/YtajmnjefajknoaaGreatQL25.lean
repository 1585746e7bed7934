/-
  Texts of this claim, one behind the other: N12, N13, N14, N15, N16, NodeW, E1, E2, E3, E4, E5, E6, E7, E8.
-/
import Derived.Test.YtajmnjefajknoaaGreatQL24
set_option linter.unusedSimpArgs false
set_option linter.unusedVariables false
set_option linter.unnecessarySimpa false
set_option maxRecDepth 8000
set_option maxHeartbeats 1000000
namespace Go.Proofs.YtajmnjefajknoaaGreat
open Go.Esp
theorem rfound_ok (M:Mem) (n:ZR) (l:ZP) (hn0:ZR.ok M n) (hl1:ZP.ok M l) (hbig:n.table.succ.l.length≤40∧n.table.fingers.l.length≤200) (hLa:n.avoid.l.length≤1000) (hh:0≤n.hops∧n.hops≤1000):Esp.Fn Tryz.prog 57 [n.enc,l.enc] M (fun M' v=>NsE M' v (Uj n.nd l.lt)):=by
  obtain ⟨⟨⟨Za,Zb⟩,⟨Zf,Zh⟩,⟨Zj,Zi,Zg⟩,⟨Ze,Zd,Zc⟩⟩,Zr,Zs,ZH,Zv,ZT,ZC,ZA,Zw,Zq,Zy,Zp,Zz,⟨Zu,Zt,Zl⟩,ZG,ZJ⟩:=n
  obtain ⟨Yb,⟨ZM,Ye⟩,YB,l_id,⟨ZY,ZX,ZN⟩,Ys,⟨ZI,ZS⟩,⟨ZZ,ZV,ZL⟩⟩:=l
  have Yv:ZQ.ok M ⟨⟨Za,Zb⟩,⟨Zf,Zh⟩,⟨Zj,Zi,Zg⟩,⟨Ze,Zd,Zc⟩⟩:=hn0.h0
  have YM:SlK M ZF.segs 21 ⟨Zj,Zi,Zg⟩:=hn0.h0.h0
  have Wo:SlM M Zj (Zg.map ZF.segs) 21:=YM.h1
  have Wp:(Zg.map ZF.segs).length=Zg.length:=List.length_map ..
  have Wq:Zg.length≤9223372036854775807:=YM.h2
  have Wr:Zg.length≤Zi:=YM.h3
  have Yx:SlK M ZF.segs 21 ⟨Ze,Zd,Zc⟩:=hn0.h0.h1
  have XV:SlM M Ze (Zc.map ZF.segs) 21:=Yx.h1
  have XW:(Zc.map ZF.segs).length=Zc.length:=List.length_map ..
  have XX:Zc.length≤9223372036854775807:=Yx.h2
  have XY:Zc.length≤Zd:=Yx.h3
  have Yz:SlK M (oneI .i64) 1 ⟨Zu,Zt,Zl⟩:=hn0.h1
  have WQ:SlM M Zu (Zl.map (oneI .i64)) 1:=Yz.h1
  have Vi:(Zl.map (oneI .i64)).length=Zl.length:=List.length_map ..
  have Va:Zl.length≤9223372036854775807:=Yz.h2
  have Vk:Zl.length≤Zt:=Yz.h3
  have Xl:SlK M (oneI .i64) 1 ⟨ZY,ZX,ZN⟩:=hl1.h0
  have Vu:SlM M ZY (ZN.map (oneI .i64)) 1:=Xl.h1
  have VK:(ZN.map (oneI .i64)).length=ZN.length:=List.length_map ..
  have Vx:ZN.length≤9223372036854775807:=Xl.h2
  have VM:ZN.length≤ZX:=Xl.h3
  have Xb:SlK M ZF.segs 21 ⟨ZZ,ZV,ZL⟩:=hl1.h1
  have XT:SlM M ZZ (ZL.map ZF.segs) 21:=Xb.h1
  have WR:(ZL.map ZF.segs).length=ZL.length:=List.length_map ..
  have Vw:ZL.length≤9223372036854775807:=Xb.h2
  have WS:ZL.length≤ZV:=Xb.h3
  simp only at hbig hLa hh
  refine Wu Tryz.func57 rfl Tryz.ntmps57 rfl ?_;intro H
  refine ZK (Zm (l:=[0,1,2,3]) rfl ?_)
  refine Xk ?_;intro b1
  refine Xk ?_;intro b2
  refine YW F.zero32 ?_;intro b3
  refine ZB ?_;refine Zo (Zn (Y_pk [5,4,3,2] ?_))
  iterate 2 refine ZK ?_
  refine Zm (l:=[0,1,2,3,4,5,6,7,8,9,10,11,12]) rfl ?_;refine Zk F.foff32_10 ?_;refine ZD F.lay3 ?_;refine Zk F.foff44_1 ?_;refine Zk F.foff25_0 ?_;refine ZD F.lay3 ?_;refine YI ?_;refine Zx ?_
  refine Yj 15 rfl (fun hc4=>?_) (fun hc4=>?_)
  ·replace hc4:=nT hc4
   iterate 5 refine Ya ?_
   refine ZO ?_;refine Zo (Zn (Y_pk [21,5,4,3,2] ?_));refine Xi rfl ?_;refine ZK (Zm (l:=[0,1,2]) rfl ?_);refine ZD F.lay32 ?_;refine Xg F.lay32 ?_;refine ZB ?_;refine Zo (Zn (Y_pk [5,4,3,2] ?_));refine Yo (YS ?_)
   refine Yk (.inr rfl) (.cell rfl (by repeat first|exact List.Mem.head _|refine List.Mem.tail _ ?_|refine List.mem_append_right _ ?_) F.lay32 rfl rfl (.tmp rfl .nil)) (fun w hw=>?_)
   refine ⟨_,M,rfl,Mem.le.refl M,hw.c,⟨⟨⟨Za,Zb⟩,⟨Zf,Zh⟩,⟨Zj,Zi,Zg⟩,⟨Ze,Zd,Zc⟩⟩,Zr,Zs,ZH,Zv,ZT,ZC,ZA,Zw,Zq,Zy,Zp,Zz,⟨Zu,Zt,Zl⟩,ZG,ZJ⟩,⟨none,0,[]⟩,rfl,?_,?_,⟨Yv,hn0.h1⟩,SlK.nil,fun y hy=>by cases hy⟩
   ·rw [found_no (n:=ZR.nd ⟨⟨⟨Za,Zb⟩,⟨Zf,Zh⟩,⟨Zj,Zi,Zg⟩,⟨Ze,Zd,Zc⟩⟩,Zr,Zs,ZH,Zv,ZT,ZC,ZA,Zw,Zq,Zy,Zp,Zz,⟨Zu,Zt,Zl⟩,ZG,ZJ⟩) (l:=ZP.lt ⟨Yb,⟨ZM,Ye⟩,YB,l_id,⟨ZY,ZX,ZN⟩,Ys,⟨ZI,ZS⟩,⟨ZZ,ZV,ZL⟩⟩) (by exact .inl (by assumption))]
   ·rw [found_no (n:=ZR.nd ⟨⟨⟨Za,Zb⟩,⟨Zf,Zh⟩,⟨Zj,Zi,Zg⟩,⟨Ze,Zd,Zc⟩⟩,Zr,Zs,ZH,Zv,ZT,ZC,ZA,Zw,Zq,Zy,Zp,Zz,⟨Zu,Zt,Zl⟩,ZG,ZJ⟩) (l:=ZP.lt ⟨Yb,⟨ZM,Ye⟩,YB,l_id,⟨ZY,ZX,ZN⟩,Ys,⟨ZI,ZS⟩,⟨ZZ,ZV,ZL⟩⟩) (by exact .inl (by assumption))];rfl
  ·replace hc4:=nF hc4
   refine Zk F.foff32_11 ?_;refine ZD F.lay29 ?_;refine Zk F.foff44_2 ?_;refine ZD F.lay29 ?_;refine YI ?_;refine ZO ?_;refine Zo (Zn (Y_pk [21,5,4,3,2] ?_))
   refine YA rfl (fun hc5=>?_) (fun hc5=>?_)
   ·replace hc5:=nT hc5
    refine ZK (Zm (l:=[0,1,2]) rfl ?_);refine ZD F.lay32 ?_;refine Xg F.lay32 ?_;refine ZB ?_;refine Zo (Zn (Y_pk [5,4,3,2] ?_));refine Yo (YS ?_)
    refine Yk (.inr rfl) (.cell rfl (by repeat first|exact List.Mem.head _|refine List.Mem.tail _ ?_|refine List.mem_append_right _ ?_) F.lay32 rfl rfl (.tmp rfl .nil)) (fun w hw=>?_)
    refine ⟨_,M,rfl,Mem.le.refl M,hw.c,⟨⟨⟨Za,Zb⟩,⟨Zf,Zh⟩,⟨Zj,Zi,Zg⟩,⟨Ze,Zd,Zc⟩⟩,Zr,Zs,ZH,Zv,ZT,ZC,ZA,Zw,Zq,Zy,Zp,Zz,⟨Zu,Zt,Zl⟩,ZG,ZJ⟩,⟨none,0,[]⟩,rfl,?_,?_,⟨Yv,hn0.h1⟩,SlK.nil,fun y hy=>by cases hy⟩
    ·rw [found_no (n:=ZR.nd ⟨⟨⟨Za,Zb⟩,⟨Zf,Zh⟩,⟨Zj,Zi,Zg⟩,⟨Ze,Zd,Zc⟩⟩,Zr,Zs,ZH,Zv,ZT,ZC,ZA,Zw,Zq,Zy,Zp,Zz,⟨Zu,Zt,Zl⟩,ZG,ZJ⟩) (l:=ZP.lt ⟨Yb,⟨ZM,Ye⟩,YB,l_id,⟨ZY,ZX,ZN⟩,Ys,⟨ZI,ZS⟩,⟨ZZ,ZV,ZL⟩⟩) (by exact .inr (by assumption))]
    ·rw [found_no (n:=ZR.nd ⟨⟨⟨Za,Zb⟩,⟨Zf,Zh⟩,⟨Zj,Zi,Zg⟩,⟨Ze,Zd,Zc⟩⟩,Zr,Zs,ZH,Zv,ZT,ZC,ZA,Zw,Zq,Zy,Zp,Zz,⟨Zu,Zt,Zl⟩,ZG,ZJ⟩) (l:=ZP.lt ⟨Yb,⟨ZM,Ye⟩,YB,l_id,⟨ZY,ZX,ZN⟩,Ys,⟨ZI,ZS⟩,⟨ZZ,ZV,ZL⟩⟩) (by exact .inr (by assumption))];rfl
   ·replace hc5:=nF hc5
    refine YG (Zn (Y_pk [5,4,3,2] ?_));refine ZK (Zm (l:=[0,1,2,3,4,5]) rfl ?_);refine Zk F.foff32_0 ?_;refine ZD F.lay28 ?_;refine Zk F.foff44_6 ?_;refine ZD F.lay25 ?_;refine X_fs rfl rfl F.ok55 rfl (VI _ ⟨⟨Za,Zb⟩,⟨Zf,Zh⟩,⟨Zj,Zi,Zg⟩,⟨Ze,Zd,Zc⟩⟩ ⟨ZI,ZS⟩) rfl ?_
    rintro _ rfl
    refine ZB ?_;refine Zo (Zn (Y_pk [6,5,4,3,2] ?_))
    iterate 2 refine ZK ?_
    refine Zm (l:=[0,1]) rfl ?_;refine Zk F.foff44_5 ?_;refine ZD F.lay4 ?_;refine Zo (Zn (Y_pk [29,6,5,4,3,2] ?_))
    refine YA rfl (fun hc6=>?_) (fun hc6=>?_)
    ·skip
     refine ZK (Zm (l:=[0,1]) rfl ?_);refine Zk F.foff32_10 ?_;refine Yh F.lay3 ?_;refine Zo (Zn (Y_pk [6,5,4,3,2] ?_))
     iterate 2 refine ZK ?_
     refine Zm (l:=[0,1,2,3,4,5,6,7,8,9,10,11,12]) rfl ?_;refine Zk F.foff32_2 ?_;refine ZD F.lay4 ?_;refine Zx ?_
     refine Yj 33 rfl (fun hc7=>?_) (fun hc7=>?_)
     ·skip
      iterate 2 refine Zx ?_
      refine Yj 35 rfl (fun hc8=>?_) (fun hc8=>?_)
      ·replace hc8:=dT hc8
       simp only [ZF.eta,ZQ.eta,ZR.eta,ZP.eta,Yr.eta,ZW.eta,YQ.eta,Yc.eta] at hc8
       iterate 6 refine Ya ?_
       iterate 2 refine ZO ?_
       refine Zo (Zn (Y_pk [43,6,5,4,3,2] ?_));refine Xi rfl ?_;refine ZK (Zm (l:=[0,1,2,3,4,5]) rfl ?_);refine ZD F.lay32 ?_;refine Zk F.foff44_6 ?_;refine ZD F.lay25 ?_;refine X_fn rfl rfl F.ok99 rfl (rpoint_ok _ ⟨⟨⟨Za,Zb⟩,⟨Zf,Zh⟩,⟨Zj,Zi,Zg⟩,⟨Ze,Zd,Zc⟩⟩,Zr,Zs,ZH,Zv,ZT,ZC,ZA,Zw,Zq,-1,Zp,Zz,⟨Zu,Zt,Zl⟩,ZG,ZJ⟩ ⟨ZI,ZS⟩ ⟨Yv,hn0.h1⟩) rfl ?_
       rintro _ M1 hm1 ⟨⟨⟨⟨Yw,YJ⟩,⟨YC,YL⟩,⟨YP,YO,YN⟩,⟨YF,YE,YD⟩⟩,Xz,XF,Wg,XB,WB,XM,XA,Xw,Xo,Xx,Xp,Xy,⟨Xu,Xt,Xs⟩,Wf,We⟩,rfl,hv1,okv⟩
       refine Xg F.lay32 ?_;refine ZB ?_;refine Zo (Zn (Y_pk [5,6,4,3,2] ?_));refine Yo ?_
       iterate 2 refine YS ?_
       refine Yk (.inr rfl) (.cell rfl (by repeat first|exact List.Mem.head _|refine List.Mem.tail _ ?_|refine List.mem_append_right _ ?_) F.lay32 rfl rfl (.tmp rfl .nil)) (fun w hw=>?_)
       have h3:=found_point (show (ZR.nd ⟨⟨⟨Za,Zb⟩,⟨Zf,Zh⟩,⟨Zj,Zi,Zg⟩,⟨Ze,Zd,Zc⟩⟩,Zr,Zs,ZH,Zv,ZT,ZC,ZA,Zw,Zq,Zy,Zp,Zz,⟨Zu,Zt,Zl⟩,ZG,ZJ⟩).findTo=(ZP.lt ⟨Yb,⟨ZM,Ye⟩,YB,l_id,⟨ZY,ZX,ZN⟩,Ys,⟨ZI,ZS⟩,⟨ZZ,ZV,ZL⟩⟩).frm.addr by show Zy=ZM;first|assumption|omega) (show (ZR.nd ⟨⟨⟨Za,Zb⟩,⟨Zf,Zh⟩,⟨Zj,Zi,Zg⟩,⟨Ze,Zd,Zc⟩⟩,Zr,Zs,ZH,Zv,ZT,ZC,ZA,Zw,Zq,Zy,Zp,Zz,⟨Zu,Zt,Zl⟩,ZG,ZJ⟩).findReq=(ZP.lt ⟨Yb,⟨ZM,Ye⟩,YB,l_id,⟨ZY,ZX,ZN⟩,Ys,⟨ZI,ZS⟩,⟨ZZ,ZV,ZL⟩⟩).req by show Zp=YB;first|assumption|omega) (show (ZP.lt ⟨Yb,⟨ZM,Ye⟩,YB,l_id,⟨ZY,ZX,ZN⟩,Ys,⟨ZI,ZS⟩,⟨ZZ,ZV,ZL⟩⟩).done=true by show Ys=true;first|assumption|(simp_all;done)) (show (ZR.nd ⟨⟨⟨Za,Zb⟩,⟨Zf,Zh⟩,⟨Zj,Zi,Zg⟩,⟨Ze,Zd,Zc⟩⟩,Zr,Zs,ZH,Zv,ZT,ZC,ZA,Zw,Zq,Zy,Zp,Zz,⟨Zu,Zt,Zl⟩,ZG,ZJ⟩).joined=true by show Zs=true;first|assumption|(simp_all;done)) (show Xn ⟨Za,Zb⟩ ⟨ZI,ZS⟩∨(⟨ZI,ZS⟩:ZF)=⟨Za,Zb⟩ by first|exact .inl (by assumption)|exact .inr (by assumption))
       exact ⟨_,M1,rfl,hm1,hw.c,⟨⟨⟨Yw,YJ⟩,⟨YC,YL⟩,⟨YP,YO,YN⟩,⟨YF,YE,YD⟩⟩,Xz,XF,Wg,XB,WB,XM,XA,Xw,Xo,Xx,Xp,Xy,⟨Xu,Xt,Xs⟩,Wf,We⟩,⟨none,0,[]⟩,rfl,by rw [h3];exact hv1,by rw [h3];rfl,okv,SlK.nil,fun y hy=>by cases hy⟩
      ·replace hc8:=dF hc8
       simp only [ZF.eta,ZQ.eta,ZR.eta,ZP.eta,Yr.eta,ZW.eta,YQ.eta,Yc.eta] at hc8
       refine Zk F.foff44_6 ?_;refine ZD F.lay25 ?_;refine Zk F.foff32_0 ?_;refine Zk F.foff28_0 ?_;refine ZD F.lay25 ?_
       refine WF (m:=20) rfl rfl rfl rfl rfl (by constructor) (by constructor) F.lay25 F.kinds25 rfl F.guard25 (by exact XL (⟨_,_⟩)) (by exact XL (⟨_,_⟩)) rfl rfl rfl ?_;intro c9 he10
       replace he10:c9=true↔Segs.cells _=Segs.cells _:=he10
       obtain rfl:=eqD he10 (ZF.inj (x:=⟨_,_⟩) (y:=⟨_,_⟩));clear he10
       iterate 2 refine ZO ?_
       refine Zo (Zn (Y_pk [43,6,5,4,3,2] ?_))
       refine YA rfl (fun hc11=>?_) (fun hc11=>?_)
       ·replace hc11:=dT hc11
        refine ZK (Zm (l:=[0,1,2,3,4,5]) rfl ?_);refine ZD F.lay32 ?_;refine Zk F.foff44_6 ?_;refine ZD F.lay25 ?_;refine X_fn rfl rfl F.ok99 rfl (rpoint_ok _ ⟨⟨⟨Za,Zb⟩,⟨Zf,Zh⟩,⟨Zj,Zi,Zg⟩,⟨Ze,Zd,Zc⟩⟩,Zr,Zs,ZH,Zv,ZT,ZC,ZA,Zw,Zq,-1,Zp,Zz,⟨Zu,Zt,Zl⟩,ZG,ZJ⟩ ⟨ZI,ZS⟩ ⟨Yv,hn0.h1⟩) rfl ?_
        rintro _ M1 hm1 ⟨⟨⟨⟨Yw,YJ⟩,⟨YC,YL⟩,⟨YP,YO,YN⟩,⟨YF,YE,YD⟩⟩,Xz,XF,Wg,XB,WB,XM,XA,Xw,Xo,Xx,Xp,Xy,⟨Xu,Xt,Xs⟩,Wf,We⟩,rfl,hv1,okv⟩
        refine Xg F.lay32 ?_;refine ZB ?_;refine Zo (Zn (Y_pk [5,6,4,3,2] ?_));refine Yo ?_
        iterate 2 refine YS ?_
        refine Yk (.inr rfl) (.cell rfl (by repeat first|exact List.Mem.head _|refine List.Mem.tail _ ?_|refine List.mem_append_right _ ?_) F.lay32 rfl rfl (.tmp rfl .nil)) (fun w hw=>?_)
        have h3:=found_point (show (ZR.nd ⟨⟨⟨Za,Zb⟩,⟨Zf,Zh⟩,⟨Zj,Zi,Zg⟩,⟨Ze,Zd,Zc⟩⟩,Zr,Zs,ZH,Zv,ZT,ZC,ZA,Zw,Zq,Zy,Zp,Zz,⟨Zu,Zt,Zl⟩,ZG,ZJ⟩).findTo=(ZP.lt ⟨Yb,⟨ZM,Ye⟩,YB,l_id,⟨ZY,ZX,ZN⟩,Ys,⟨ZI,ZS⟩,⟨ZZ,ZV,ZL⟩⟩).frm.addr by show Zy=ZM;first|assumption|omega) (show (ZR.nd ⟨⟨⟨Za,Zb⟩,⟨Zf,Zh⟩,⟨Zj,Zi,Zg⟩,⟨Ze,Zd,Zc⟩⟩,Zr,Zs,ZH,Zv,ZT,ZC,ZA,Zw,Zq,Zy,Zp,Zz,⟨Zu,Zt,Zl⟩,ZG,ZJ⟩).findReq=(ZP.lt ⟨Yb,⟨ZM,Ye⟩,YB,l_id,⟨ZY,ZX,ZN⟩,Ys,⟨ZI,ZS⟩,⟨ZZ,ZV,ZL⟩⟩).req by show Zp=YB;first|assumption|omega) (show (ZP.lt ⟨Yb,⟨ZM,Ye⟩,YB,l_id,⟨ZY,ZX,ZN⟩,Ys,⟨ZI,ZS⟩,⟨ZZ,ZV,ZL⟩⟩).done=true by show Ys=true;first|assumption|(simp_all;done)) (show (ZR.nd ⟨⟨⟨Za,Zb⟩,⟨Zf,Zh⟩,⟨Zj,Zi,Zg⟩,⟨Ze,Zd,Zc⟩⟩,Zr,Zs,ZH,Zv,ZT,ZC,ZA,Zw,Zq,Zy,Zp,Zz,⟨Zu,Zt,Zl⟩,ZG,ZJ⟩).joined=true by show Zs=true;first|assumption|(simp_all;done)) (show Xn ⟨Za,Zb⟩ ⟨ZI,ZS⟩∨(⟨ZI,ZS⟩:ZF)=⟨Za,Zb⟩ by first|exact .inl (by assumption)|exact .inr (by assumption))
        exact ⟨_,M1,rfl,hm1,hw.c,⟨⟨⟨Yw,YJ⟩,⟨YC,YL⟩,⟨YP,YO,YN⟩,⟨YF,YE,YD⟩⟩,Xz,XF,Wg,XB,WB,XM,XA,Xw,Xo,Xx,Xp,Xy,⟨Xu,Xt,Xs⟩,Wf,We⟩,⟨none,0,[]⟩,rfl,by rw [h3];exact hv1,by rw [h3];rfl,okv,SlK.nil,fun y hy=>by cases hy⟩
       ·replace hc11:=dF hc11
        refine YG (Zn (Y_pk [6,5,4,3,2] ?_))
        iterate 2 refine ZK ?_
        refine Zm (l:=[0,1,2,3,4,5]) rfl ?_;refine Zk F.foff32_2 ?_;refine ZD F.lay4 ?_;refine Xj ?_;refine Zx ?_
        refine Yj 51 rfl (fun hc12=>?_) (fun hc12=>?_)
        ·skip
         refine Zx ?_;refine ZO ?_;refine Zo (Zn (Y_pk [53,6,5,4,3,2] ?_))
         refine YA rfl (fun hc13=>?_) (fun hc13=>?_)
         ·replace hc13:=dT hc13
          simp only [ZF.eta,ZQ.eta,ZR.eta,ZP.eta,Yr.eta,ZW.eta,YQ.eta,Yc.eta] at hc13
          contradiction
         ·replace hc13:=dF hc13
          simp only [ZF.eta,ZQ.eta,ZR.eta,ZP.eta,Yr.eta,ZW.eta,YQ.eta,Yc.eta] at hc13
          refine YG (Zn (Y_pk [6,5,4,3,2] ?_));refine ZK (Zm (l:=[0,1,2]) rfl ?_);refine ZD F.lay32 ?_;refine Xg F.lay32 ?_;refine ZB ?_;refine Zo (Zn (Y_pk [5,6,4,3,2] ?_));refine Yo (YS ?_)
          refine Yk (.inr rfl) (.cell rfl (by repeat first|exact List.Mem.head _|refine List.Mem.tail _ ?_|refine List.mem_append_right _ ?_) F.lay32 rfl rfl (.tmp rfl .nil)) (fun w hw=>?_)
          (exfalso;simp_all;done)
        ·skip
         refine Ya ?_;refine ZO ?_;refine Zo (Zn (Y_pk [53,6,5,4,3,2] ?_));refine Wn rfl ?_;refine YG (Zn (Y_pk [6,5,4,3,2] ?_));refine ZK (Zm (l:=[0,1,2]) rfl ?_);refine ZD F.lay32 ?_;refine Xg F.lay32 ?_;refine ZB ?_;refine Zo (Zn (Y_pk [5,6,4,3,2] ?_));refine Yo (YS ?_)
         refine Yk (.inr rfl) (.cell rfl (by repeat first|exact List.Mem.head _|refine List.Mem.tail _ ?_|refine List.mem_append_right _ ?_) F.lay32 rfl rfl (.tmp rfl .nil)) (fun w hw=>?_)
         have h3:=found_done (show (ZR.nd ⟨⟨⟨Za,Zb⟩,⟨Zf,Zh⟩,⟨Zj,Zi,Zg⟩,⟨Ze,Zd,Zc⟩⟩,Zr,Zs,ZH,Zv,ZT,ZC,ZA,Zw,Zq,Zy,Zp,Zz,⟨Zu,Zt,Zl⟩,ZG,ZJ⟩).findTo=(ZP.lt ⟨Yb,⟨ZM,Ye⟩,YB,l_id,⟨ZY,ZX,ZN⟩,Ys,⟨ZI,ZS⟩,⟨ZZ,ZV,ZL⟩⟩).frm.addr by show Zy=ZM;first|assumption|omega) (show (ZR.nd ⟨⟨⟨Za,Zb⟩,⟨Zf,Zh⟩,⟨Zj,Zi,Zg⟩,⟨Ze,Zd,Zc⟩⟩,Zr,Zs,ZH,Zv,ZT,ZC,ZA,Zw,Zq,Zy,Zp,Zz,⟨Zu,Zt,Zl⟩,ZG,ZJ⟩).findReq=(ZP.lt ⟨Yb,⟨ZM,Ye⟩,YB,l_id,⟨ZY,ZX,ZN⟩,Ys,⟨ZI,ZS⟩,⟨ZZ,ZV,ZL⟩⟩).req by show Zp=YB;first|assumption|omega) (show (ZP.lt ⟨Yb,⟨ZM,Ye⟩,YB,l_id,⟨ZY,ZX,ZN⟩,Ys,⟨ZI,ZS⟩,⟨ZZ,ZV,ZL⟩⟩).done=true by show Ys=true;first|assumption|(simp_all;done)) (fun q=>by
           have q9:Zs=true:=q
           exact ⟨show ¬Xn ⟨Za,Zb⟩ ⟨ZI,ZS⟩ by first|assumption|(exfalso;simp_all;done),show ¬(⟨ZI,ZS⟩:ZF)=⟨Za,Zb⟩ by first|assumption|(exfalso;simp_all;done)⟩) (fun q=>by
           have q9:Zs=false:=q
           (show ¬Xn ⟨Za,Zb⟩ ⟨ZI,ZS⟩;assumption))
         exact ⟨_,M,rfl,Mem.le.refl M,hw.c,⟨⟨⟨Za,Zb⟩,⟨Zf,Zh⟩,⟨Zj,Zi,Zg⟩,⟨Ze,Zd,Zc⟩⟩,Zr,Zs,ZH,Zv,ZT,ZC,ZA,Zw,Zq,-1,Zp,Zz,⟨Zu,Zt,Zl⟩,ZG,ZJ⟩,⟨none,0,[]⟩,rfl,by rw [h3];rfl,by rw [h3];rfl,⟨Yv,hn0.h1⟩,SlK.nil,fun y hy=>by cases hy⟩
     ·skip
      iterate 9 refine Ya ?_
      refine ZO ?_;refine Zo (Zn (Y_pk [43,6,5,4,3,2] ?_));refine Wn rfl ?_;refine YG (Zn (Y_pk [6,5,4,3,2] ?_))
      iterate 2 refine ZK ?_
      refine Zm (l:=[0,1,2,3,4,5]) rfl ?_;refine Zk F.foff32_2 ?_;refine ZD F.lay4 ?_;refine Xj ?_;refine Zx ?_
      refine Yj 51 rfl (fun hc14=>?_) (fun hc14=>?_)
      ·skip
       refine Zx ?_;refine ZO ?_;refine Zo (Zn (Y_pk [53,6,5,4,3,2] ?_))
       refine YA rfl (fun hc15=>?_) (fun hc15=>?_)
       ·replace hc15:=dT hc15
        simp only [ZF.eta,ZQ.eta,ZR.eta,ZP.eta,Yr.eta,ZW.eta,YQ.eta,Yc.eta] at hc15
        refine ZK (Zm (l:=[0,1,2,3,4]) rfl ?_);refine ZD F.lay32 ?_;refine Zk F.foff44_6 ?_;refine ZD F.lay25 ?_;refine X_fn rfl rfl F.ok95 rfl (radopt_ok _ ⟨⟨⟨Za,Zb⟩,⟨Zf,Zh⟩,⟨Zj,Zi,Zg⟩,⟨Ze,Zd,Zc⟩⟩,Zr,Zs,ZH,Zv,ZT,ZC,ZA,Zw,Zq,-1,Zp,Zz,⟨Zu,Zt,Zl⟩,ZG,ZJ⟩ ⟨ZI,ZS⟩ ⟨none,0,[]⟩ ⟨Yv,hn0.h1⟩ SlK.nil) rfl ?_
        rintro _ M1 hm1 ⟨⟨⟨⟨Yw,YJ⟩,⟨YC,YL⟩,⟨YP,YO,YN⟩,⟨YF,YE,YD⟩⟩,Xz,XF,Wg,XB,WB,XM,XA,Xw,Xo,Xx,Xp,Xy,⟨Xu,Xt,Xs⟩,Wf,We⟩,rfl,hv1,okv⟩
        refine Xg F.lay32 ?_;refine Zo (Zn (Y_pk [6,5,4,3,2] ?_));refine ZK (Zm (l:=[0,1]) rfl ?_);refine Zk F.foff32_2 ?_;refine Yh F.lay4 ?_;refine Zo (Zn (Y_pk [6,5,4,3,2] ?_));refine ZK (Zm (l:=[0,1]) rfl ?_);refine Zk F.foff32_4 ?_;refine Yh F.lay3 ?_;refine Zo (Zn (Y_pk [6,5,4,3,2] ?_));refine Zm (l:=[0,1]) rfl ?_;refine Zk F.foff32_13 ?_;refine Yh F.lay30 ?_;refine Zo (Zn (Y_pk [6,5,4,3,2] ?_));refine ZK (Zm (l:=[0,1,2]) rfl ?_);refine ZD F.lay32 ?_;refine Xg F.lay32 ?_;refine ZB ?_;refine Zo (Zn (Y_pk [5,6,4,3,2] ?_));refine Yo (YS ?_)
        refine Yk (.inr rfl) (.cell rfl (by repeat first|exact List.Mem.head _|refine List.Mem.tail _ ?_|refine List.mem_append_right _ ?_) F.lay32 rfl rfl (.tmp rfl .nil)) (fun w hw=>?_)
        have h3:=found_adopt (show (ZR.nd ⟨⟨⟨Za,Zb⟩,⟨Zf,Zh⟩,⟨Zj,Zi,Zg⟩,⟨Ze,Zd,Zc⟩⟩,Zr,Zs,ZH,Zv,ZT,ZC,ZA,Zw,Zq,Zy,Zp,Zz,⟨Zu,Zt,Zl⟩,ZG,ZJ⟩).findTo=(ZP.lt ⟨Yb,⟨ZM,Ye⟩,YB,l_id,⟨ZY,ZX,ZN⟩,Ys,⟨ZI,ZS⟩,⟨ZZ,ZV,ZL⟩⟩).frm.addr by show Zy=ZM;first|assumption|omega) (show (ZR.nd ⟨⟨⟨Za,Zb⟩,⟨Zf,Zh⟩,⟨Zj,Zi,Zg⟩,⟨Ze,Zd,Zc⟩⟩,Zr,Zs,ZH,Zv,ZT,ZC,ZA,Zw,Zq,Zy,Zp,Zz,⟨Zu,Zt,Zl⟩,ZG,ZJ⟩).findReq=(ZP.lt ⟨Yb,⟨ZM,Ye⟩,YB,l_id,⟨ZY,ZX,ZN⟩,Ys,⟨ZI,ZS⟩,⟨ZZ,ZV,ZL⟩⟩).req by show Zp=YB;first|assumption|omega) (show (ZP.lt ⟨Yb,⟨ZM,Ye⟩,YB,l_id,⟨ZY,ZX,ZN⟩,Ys,⟨ZI,ZS⟩,⟨ZZ,ZV,ZL⟩⟩).done=true by show Ys=true;first|assumption|(simp_all;done)) (show (ZR.nd ⟨⟨⟨Za,Zb⟩,⟨Zf,Zh⟩,⟨Zj,Zi,Zg⟩,⟨Ze,Zd,Zc⟩⟩,Zr,Zs,ZH,Zv,ZT,ZC,ZA,Zw,Zq,Zy,Zp,Zz,⟨Zu,Zt,Zl⟩,ZG,ZJ⟩).joined=false by show Zs=false;first|assumption|(simp_all;done)) (show Xn ⟨Za,Zb⟩ ⟨ZI,ZS⟩ by assumption)
        exact ⟨_,M1,rfl,hm1,hw.c,⟨⟨⟨Yw,YJ⟩,⟨YC,YL⟩,⟨YP,YO,YN⟩,⟨YF,YE,YD⟩⟩,Xz,true,Wg,0,WB,XM,XA,Xw,Xo,Xx,Xp,Xy,⟨none,0,[]⟩,Wf,We⟩,⟨none,0,[]⟩,rfl,by rw [h3];exact (fun (X:Nd) (hX:ZR.nd ⟨⟨⟨Yw,YJ⟩,⟨YC,YL⟩,⟨YP,YO,YN⟩,⟨YF,YE,YD⟩⟩,Xz,XF,Wg,XB,WB,XM,XA,Xw,Xo,Xx,Xp,Xy,⟨Xu,Xt,Xs⟩,Wf,We⟩=X)=>(by subst hX;rfl:ZR.nd ⟨⟨⟨Yw,YJ⟩,⟨YC,YL⟩,⟨YP,YO,YN⟩,⟨YF,YE,YD⟩⟩,Xz,true,Wg,0,WB,XM,XA,Xw,Xo,Xx,Xp,Xy,⟨none,0,[]⟩,Wf,We⟩={ X with joined:=true,cursor:=0,avoid:=[] })) _ hv1,by rw [h3];rfl,⟨okv.h0,SlK.nil⟩,SlK.nil,fun y hy=>by cases hy⟩
       ·replace hc15:=dF hc15
        simp only [ZF.eta,ZQ.eta,ZR.eta,ZP.eta,Yr.eta,ZW.eta,YQ.eta,Yc.eta] at hc15
        refine YG (Zn (Y_pk [6,5,4,3,2] ?_));refine ZK (Zm (l:=[0,1,2]) rfl ?_);refine ZD F.lay32 ?_;refine Xg F.lay32 ?_;refine ZB ?_;refine Zo (Zn (Y_pk [5,6,4,3,2] ?_));refine Yo (YS ?_)
        refine Yk (.inr rfl) (.cell rfl (by repeat first|exact List.Mem.head _|refine List.Mem.tail _ ?_|refine List.mem_append_right _ ?_) F.lay32 rfl rfl (.tmp rfl .nil)) (fun w hw=>?_)
        have h3:=found_done (show (ZR.nd ⟨⟨⟨Za,Zb⟩,⟨Zf,Zh⟩,⟨Zj,Zi,Zg⟩,⟨Ze,Zd,Zc⟩⟩,Zr,Zs,ZH,Zv,ZT,ZC,ZA,Zw,Zq,Zy,Zp,Zz,⟨Zu,Zt,Zl⟩,ZG,ZJ⟩).findTo=(ZP.lt ⟨Yb,⟨ZM,Ye⟩,YB,l_id,⟨ZY,ZX,ZN⟩,Ys,⟨ZI,ZS⟩,⟨ZZ,ZV,ZL⟩⟩).frm.addr by show Zy=ZM;first|assumption|omega) (show (ZR.nd ⟨⟨⟨Za,Zb⟩,⟨Zf,Zh⟩,⟨Zj,Zi,Zg⟩,⟨Ze,Zd,Zc⟩⟩,Zr,Zs,ZH,Zv,ZT,ZC,ZA,Zw,Zq,Zy,Zp,Zz,⟨Zu,Zt,Zl⟩,ZG,ZJ⟩).findReq=(ZP.lt ⟨Yb,⟨ZM,Ye⟩,YB,l_id,⟨ZY,ZX,ZN⟩,Ys,⟨ZI,ZS⟩,⟨ZZ,ZV,ZL⟩⟩).req by show Zp=YB;first|assumption|omega) (show (ZP.lt ⟨Yb,⟨ZM,Ye⟩,YB,l_id,⟨ZY,ZX,ZN⟩,Ys,⟨ZI,ZS⟩,⟨ZZ,ZV,ZL⟩⟩).done=true by show Ys=true;first|assumption|(simp_all;done)) (fun q=>by
          have q9:Zs=true:=q
          exact ⟨show ¬Xn ⟨Za,Zb⟩ ⟨ZI,ZS⟩ by first|assumption|(exfalso;simp_all;done),show ¬(⟨ZI,ZS⟩:ZF)=⟨Za,Zb⟩ by first|assumption|(exfalso;simp_all;done)⟩) (fun q=>by
          have q9:Zs=false:=q
          (show ¬Xn ⟨Za,Zb⟩ ⟨ZI,ZS⟩;assumption))
        exact ⟨_,M,rfl,Mem.le.refl M,hw.c,⟨⟨⟨Za,Zb⟩,⟨Zf,Zh⟩,⟨Zj,Zi,Zg⟩,⟨Ze,Zd,Zc⟩⟩,Zr,Zs,ZH,Zv,ZT,ZC,ZA,Zw,Zq,-1,Zp,Zz,⟨Zu,Zt,Zl⟩,ZG,ZJ⟩,⟨none,0,[]⟩,rfl,by rw [h3];rfl,by rw [h3];rfl,⟨Yv,hn0.h1⟩,SlK.nil,fun y hy=>by cases hy⟩
      ·skip
       refine Ya ?_;refine ZO ?_;refine Zo (Zn (Y_pk [53,6,5,4,3,2] ?_));refine Wn rfl ?_;refine YG (Zn (Y_pk [6,5,4,3,2] ?_));refine ZK (Zm (l:=[0,1,2]) rfl ?_);refine ZD F.lay32 ?_;refine Xg F.lay32 ?_;refine ZB ?_;refine Zo (Zn (Y_pk [5,6,4,3,2] ?_));refine Yo (YS ?_)
       refine Yk (.inr rfl) (.cell rfl (by repeat first|exact List.Mem.head _|refine List.Mem.tail _ ?_|refine List.mem_append_right _ ?_) F.lay32 rfl rfl (.tmp rfl .nil)) (fun w hw=>?_)
       (exfalso;simp_all;done)
    ·skip
     refine YG (Zn (Y_pk [6,5,4,3,2] ?_))
     iterate 2 refine ZK ?_
     refine Zm (l:=[0,1,2,3,4,5,6,7,8,9,10,11,12,13,14,15,16,17,18,19,20,21,22,23]) rfl ?_;refine Zx ?_;refine Xj ?_;refine Zx ?_
     refine Yj 64 rfl (fun hc16=>?_) (fun hc16=>?_)
     ·replace hc16:=nT hc16
      simp only [ZF.eta,ZQ.eta,ZR.eta,ZP.eta,Yr.eta,ZW.eta,YQ.eta,Yc.eta] at hc16
      iterate 6 refine Ya ?_
      refine ZO ?_;refine Zx ?_
      iterate 7 refine Ya ?_
      refine ZO ?_;refine Zx ?_
      iterate 3 refine Ya ?_
      refine ZO ?_;refine Zo (Zn (Y_pk [85,5,4,3,2] ?_));refine Xi rfl ?_;refine ZK (Zm (l:=[0,1]) rfl ?_);refine Zk F.foff32_10 ?_;refine Yh F.lay3 ?_;refine Zo (Zn (Y_pk [5,4,3,2] ?_));refine ZK (Zm (l:=[0,1,2]) rfl ?_);refine ZD F.lay32 ?_;refine Xg F.lay32 ?_;refine ZB ?_;refine Zo (Zn (Y_pk [5,4,3,2] ?_));refine Yo (YS ?_)
      refine Yk (.inr rfl) (.cell rfl (by repeat first|exact List.Mem.head _|refine List.Mem.tail _ ?_|refine List.mem_append_right _ ?_) F.lay32 rfl rfl (.tmp rfl .nil)) (fun w hw=>?_)
      have h3:=found_drop (show (ZR.nd ⟨⟨⟨Za,Zb⟩,⟨Zf,Zh⟩,⟨Zj,Zi,Zg⟩,⟨Ze,Zd,Zc⟩⟩,Zr,Zs,ZH,Zv,ZT,ZC,ZA,Zw,Zq,Zy,Zp,Zz,⟨Zu,Zt,Zl⟩,ZG,ZJ⟩).findTo=(ZP.lt ⟨Yb,⟨ZM,Ye⟩,YB,l_id,⟨ZY,ZX,ZN⟩,Ys,⟨ZI,ZS⟩,⟨ZZ,ZV,ZL⟩⟩).frm.addr by show Zy=ZM;first|assumption|omega) (show (ZR.nd ⟨⟨⟨Za,Zb⟩,⟨Zf,Zh⟩,⟨Zj,Zi,Zg⟩,⟨Ze,Zd,Zc⟩⟩,Zr,Zs,ZH,Zv,ZT,ZC,ZA,Zw,Zq,Zy,Zp,Zz,⟨Zu,Zt,Zl⟩,ZG,ZJ⟩).findReq=(ZP.lt ⟨Yb,⟨ZM,Ye⟩,YB,l_id,⟨ZY,ZX,ZN⟩,Ys,⟨ZI,ZS⟩,⟨ZZ,ZV,ZL⟩⟩).req by show Zp=YB;first|assumption|omega) (show (ZP.lt ⟨Yb,⟨ZM,Ye⟩,YB,l_id,⟨ZY,ZX,ZN⟩,Ys,⟨ZI,ZS⟩,⟨ZZ,ZV,ZL⟩⟩).done=false by show Ys=false;first|assumption|(simp_all;done)) (show ¬Xn ⟨Za,Zb⟩ ⟨ZI,ZS⟩∨ZI∈Zl∨ZI=ZM∨32≤ZG by first|exact .inl (by assumption)|exact .inr (.inl (by assumption))|exact .inr (.inr (.inl (by assumption)))|exact .inr (.inr (.inr (by omega))))
      exact ⟨_,M,rfl,Mem.le.refl M,hw.c,⟨⟨⟨Za,Zb⟩,⟨Zf,Zh⟩,⟨Zj,Zi,Zg⟩,⟨Ze,Zd,Zc⟩⟩,Zr,Zs,ZH,Zv,ZT,ZC,ZA,Zw,Zq,-1,Zp,Zz,⟨Zu,Zt,Zl⟩,ZG,ZJ⟩,⟨none,0,[]⟩,rfl,by rw [h3];rfl,by rw [h3];rfl,⟨Yv,hn0.h1⟩,SlK.nil,fun y hy=>by cases hy⟩
     ·replace hc16:=nF hc16
      simp only [ZF.eta,ZQ.eta,ZR.eta,ZP.eta,Yr.eta,ZW.eta,YQ.eta,Yc.eta] at hc16
      refine Zk F.foff32_13 ?_;refine ZD F.lay30 ?_;refine Zk F.foff44_6 ?_;refine Zk F.foff25_0 ?_;refine ZD F.lay3 ?_;refine X_fs rfl rfl F.ok111 rfl (inN_ok _ ⟨Zu,Zt,Zl⟩ ZI hn0.h1) rfl ?_
      rintro _ rfl
      refine ZO ?_;refine Zx ?_
      refine Yj 72 rfl (fun hc17=>?_) (fun hc17=>?_)
      ·replace hc17:=dT hc17
       simp only [ZF.eta,ZQ.eta,ZR.eta,ZP.eta,Yr.eta,ZW.eta,YQ.eta,Yc.eta] at hc17
       iterate 7 refine Ya ?_
       refine ZO ?_;refine Zx ?_
       iterate 3 refine Ya ?_
       refine ZO ?_;refine Zo (Zn (Y_pk [85,5,4,3,2] ?_));refine Xi rfl ?_;refine ZK (Zm (l:=[0,1]) rfl ?_);refine Zk F.foff32_10 ?_;refine Yh F.lay3 ?_;refine Zo (Zn (Y_pk [5,4,3,2] ?_));refine ZK (Zm (l:=[0,1,2]) rfl ?_);refine ZD F.lay32 ?_;refine Xg F.lay32 ?_;refine ZB ?_;refine Zo (Zn (Y_pk [5,4,3,2] ?_));refine Yo (YS ?_)
       refine Yk (.inr rfl) (.cell rfl (by repeat first|exact List.Mem.head _|refine List.Mem.tail _ ?_|refine List.mem_append_right _ ?_) F.lay32 rfl rfl (.tmp rfl .nil)) (fun w hw=>?_)
       have h3:=found_drop (show (ZR.nd ⟨⟨⟨Za,Zb⟩,⟨Zf,Zh⟩,⟨Zj,Zi,Zg⟩,⟨Ze,Zd,Zc⟩⟩,Zr,Zs,ZH,Zv,ZT,ZC,ZA,Zw,Zq,Zy,Zp,Zz,⟨Zu,Zt,Zl⟩,ZG,ZJ⟩).findTo=(ZP.lt ⟨Yb,⟨ZM,Ye⟩,YB,l_id,⟨ZY,ZX,ZN⟩,Ys,⟨ZI,ZS⟩,⟨ZZ,ZV,ZL⟩⟩).frm.addr by show Zy=ZM;first|assumption|omega) (show (ZR.nd ⟨⟨⟨Za,Zb⟩,⟨Zf,Zh⟩,⟨Zj,Zi,Zg⟩,⟨Ze,Zd,Zc⟩⟩,Zr,Zs,ZH,Zv,ZT,ZC,ZA,Zw,Zq,Zy,Zp,Zz,⟨Zu,Zt,Zl⟩,ZG,ZJ⟩).findReq=(ZP.lt ⟨Yb,⟨ZM,Ye⟩,YB,l_id,⟨ZY,ZX,ZN⟩,Ys,⟨ZI,ZS⟩,⟨ZZ,ZV,ZL⟩⟩).req by show Zp=YB;first|assumption|omega) (show (ZP.lt ⟨Yb,⟨ZM,Ye⟩,YB,l_id,⟨ZY,ZX,ZN⟩,Ys,⟨ZI,ZS⟩,⟨ZZ,ZV,ZL⟩⟩).done=false by show Ys=false;first|assumption|(simp_all;done)) (show ¬Xn ⟨Za,Zb⟩ ⟨ZI,ZS⟩∨ZI∈Zl∨ZI=ZM∨32≤ZG by first|exact .inl (by assumption)|exact .inr (.inl (by assumption))|exact .inr (.inr (.inl (by assumption)))|exact .inr (.inr (.inr (by omega))))
       exact ⟨_,M,rfl,Mem.le.refl M,hw.c,⟨⟨⟨Za,Zb⟩,⟨Zf,Zh⟩,⟨Zj,Zi,Zg⟩,⟨Ze,Zd,Zc⟩⟩,Zr,Zs,ZH,Zv,ZT,ZC,ZA,Zw,Zq,-1,Zp,Zz,⟨Zu,Zt,Zl⟩,ZG,ZJ⟩,⟨none,0,[]⟩,rfl,by rw [h3];rfl,by rw [h3];rfl,⟨Yv,hn0.h1⟩,SlK.nil,fun y hy=>by cases hy⟩
      ·replace hc17:=dF hc17
       simp only [ZF.eta,ZQ.eta,ZR.eta,ZP.eta,Yr.eta,ZW.eta,YQ.eta,Yc.eta] at hc17
       refine Zk F.foff44_6 ?_;refine Zk F.foff25_0 ?_;refine ZD F.lay3 ?_;refine Zk F.foff44_1 ?_;refine Zk F.foff25_0 ?_;refine ZD F.lay3 ?_;refine YI ?_;refine ZO ?_;refine Zx ?_
       refine Yj 81 rfl (fun hc18=>?_) (fun hc18=>?_)
       ·replace hc18:=dT hc18
        iterate 3 refine Ya ?_
        refine ZO ?_;refine Zo (Zn (Y_pk [85,5,4,3,2] ?_));refine Xi rfl ?_;refine ZK (Zm (l:=[0,1]) rfl ?_);refine Zk F.foff32_10 ?_;refine Yh F.lay3 ?_;refine Zo (Zn (Y_pk [5,4,3,2] ?_));refine ZK (Zm (l:=[0,1,2]) rfl ?_);refine ZD F.lay32 ?_;refine Xg F.lay32 ?_;refine ZB ?_;refine Zo (Zn (Y_pk [5,4,3,2] ?_));refine Yo (YS ?_)
        refine Yk (.inr rfl) (.cell rfl (by repeat first|exact List.Mem.head _|refine List.Mem.tail _ ?_|refine List.mem_append_right _ ?_) F.lay32 rfl rfl (.tmp rfl .nil)) (fun w hw=>?_)
        have h3:=found_drop (show (ZR.nd ⟨⟨⟨Za,Zb⟩,⟨Zf,Zh⟩,⟨Zj,Zi,Zg⟩,⟨Ze,Zd,Zc⟩⟩,Zr,Zs,ZH,Zv,ZT,ZC,ZA,Zw,Zq,Zy,Zp,Zz,⟨Zu,Zt,Zl⟩,ZG,ZJ⟩).findTo=(ZP.lt ⟨Yb,⟨ZM,Ye⟩,YB,l_id,⟨ZY,ZX,ZN⟩,Ys,⟨ZI,ZS⟩,⟨ZZ,ZV,ZL⟩⟩).frm.addr by show Zy=ZM;first|assumption|omega) (show (ZR.nd ⟨⟨⟨Za,Zb⟩,⟨Zf,Zh⟩,⟨Zj,Zi,Zg⟩,⟨Ze,Zd,Zc⟩⟩,Zr,Zs,ZH,Zv,ZT,ZC,ZA,Zw,Zq,Zy,Zp,Zz,⟨Zu,Zt,Zl⟩,ZG,ZJ⟩).findReq=(ZP.lt ⟨Yb,⟨ZM,Ye⟩,YB,l_id,⟨ZY,ZX,ZN⟩,Ys,⟨ZI,ZS⟩,⟨ZZ,ZV,ZL⟩⟩).req by show Zp=YB;first|assumption|omega) (show (ZP.lt ⟨Yb,⟨ZM,Ye⟩,YB,l_id,⟨ZY,ZX,ZN⟩,Ys,⟨ZI,ZS⟩,⟨ZZ,ZV,ZL⟩⟩).done=false by show Ys=false;first|assumption|(simp_all;done)) (show ¬Xn ⟨Za,Zb⟩ ⟨ZI,ZS⟩∨ZI∈Zl∨ZI=ZM∨32≤ZG by first|exact .inl (by assumption)|exact .inr (.inl (by assumption))|exact .inr (.inr (.inl (by assumption)))|exact .inr (.inr (.inr (by omega))))
        exact ⟨_,M,rfl,Mem.le.refl M,hw.c,⟨⟨⟨Za,Zb⟩,⟨Zf,Zh⟩,⟨Zj,Zi,Zg⟩,⟨Ze,Zd,Zc⟩⟩,Zr,Zs,ZH,Zv,ZT,ZC,ZA,Zw,Zq,-1,Zp,Zz,⟨Zu,Zt,Zl⟩,ZG,ZJ⟩,⟨none,0,[]⟩,rfl,by rw [h3];rfl,by rw [h3];rfl,⟨Yv,hn0.h1⟩,SlK.nil,fun y hy=>by cases hy⟩
       ·replace hc18:=dF hc18
        refine Zk F.foff32_14 ?_;refine ZD F.lay3 ?_;refine YI ?_;refine ZO ?_;refine Zo (Zn (Y_pk [85,5,4,3,2] ?_))
        refine YA rfl (fun hc19=>?_) (fun hc19=>?_)
        ·replace hc19:=dT hc19
         refine ZK (Zm (l:=[0,1]) rfl ?_);refine Zk F.foff32_10 ?_;refine Yh F.lay3 ?_;refine Zo (Zn (Y_pk [5,4,3,2] ?_));refine ZK (Zm (l:=[0,1,2]) rfl ?_);refine ZD F.lay32 ?_;refine Xg F.lay32 ?_;refine ZB ?_;refine Zo (Zn (Y_pk [5,4,3,2] ?_));refine Yo (YS ?_)
         refine Yk (.inr rfl) (.cell rfl (by repeat first|exact List.Mem.head _|refine List.Mem.tail _ ?_|refine List.mem_append_right _ ?_) F.lay32 rfl rfl (.tmp rfl .nil)) (fun w hw=>?_)
         have h3:=found_drop (show (ZR.nd ⟨⟨⟨Za,Zb⟩,⟨Zf,Zh⟩,⟨Zj,Zi,Zg⟩,⟨Ze,Zd,Zc⟩⟩,Zr,Zs,ZH,Zv,ZT,ZC,ZA,Zw,Zq,Zy,Zp,Zz,⟨Zu,Zt,Zl⟩,ZG,ZJ⟩).findTo=(ZP.lt ⟨Yb,⟨ZM,Ye⟩,YB,l_id,⟨ZY,ZX,ZN⟩,Ys,⟨ZI,ZS⟩,⟨ZZ,ZV,ZL⟩⟩).frm.addr by show Zy=ZM;first|assumption|omega) (show (ZR.nd ⟨⟨⟨Za,Zb⟩,⟨Zf,Zh⟩,⟨Zj,Zi,Zg⟩,⟨Ze,Zd,Zc⟩⟩,Zr,Zs,ZH,Zv,ZT,ZC,ZA,Zw,Zq,Zy,Zp,Zz,⟨Zu,Zt,Zl⟩,ZG,ZJ⟩).findReq=(ZP.lt ⟨Yb,⟨ZM,Ye⟩,YB,l_id,⟨ZY,ZX,ZN⟩,Ys,⟨ZI,ZS⟩,⟨ZZ,ZV,ZL⟩⟩).req by show Zp=YB;first|assumption|omega) (show (ZP.lt ⟨Yb,⟨ZM,Ye⟩,YB,l_id,⟨ZY,ZX,ZN⟩,Ys,⟨ZI,ZS⟩,⟨ZZ,ZV,ZL⟩⟩).done=false by show Ys=false;first|assumption|(simp_all;done)) (show ¬Xn ⟨Za,Zb⟩ ⟨ZI,ZS⟩∨ZI∈Zl∨ZI=ZM∨32≤ZG by first|exact .inl (by assumption)|exact .inr (.inl (by assumption))|exact .inr (.inr (.inl (by assumption)))|exact .inr (.inr (.inr (by omega))))
         exact ⟨_,M,rfl,Mem.le.refl M,hw.c,⟨⟨⟨Za,Zb⟩,⟨Zf,Zh⟩,⟨Zj,Zi,Zg⟩,⟨Ze,Zd,Zc⟩⟩,Zr,Zs,ZH,Zv,ZT,ZC,ZA,Zw,Zq,-1,Zp,Zz,⟨Zu,Zt,Zl⟩,ZG,ZJ⟩,⟨none,0,[]⟩,rfl,by rw [h3];rfl,by rw [h3];rfl,⟨Yv,hn0.h1⟩,SlK.nil,fun y hy=>by cases hy⟩
        ·replace hc19:=dF hc19
         refine YG (Zn (Y_pk [5,4,3,2] ?_));refine ZK (Zm (l:=[0,1,2,3,4]) rfl ?_);refine Zk F.foff32_14 ?_;refine ZD F.lay3 ?_;refine XE rfl rfl rfl rfl rfl (by exact Xe (by decide) (by omega)) rfl ?_;refine Zk F.foff32_14 ?_;refine Yh F.lay3 ?_;refine Zo (Zn (Y_pk [5,4,3,2] ?_));refine ZK (Zm (l:=[0,1,2,3,4,5,6,7,8,9,10]) rfl ?_);refine ZD F.lay32 ?_;refine Zk F.foff44_6 ?_;refine Zk F.foff25_0 ?_;refine ZD F.lay3 ?_;refine X_fn rfl rfl F.ok93 rfl (rseek_ok _ ⟨⟨⟨Za,Zb⟩,⟨Zf,Zh⟩,⟨Zj,Zi,Zg⟩,⟨Ze,Zd,Zc⟩⟩,Zr,Zs,ZH,Zv,ZT,ZC,ZA,Zw,Zq,Zy,Zp,Zz,⟨Zu,Zt,Zl⟩,(ZG+1),ZJ⟩ ZI ⟨Yv,hn0.h1⟩ (by simp only;omega)) rfl ?_
         rintro _ M1 hm1 ⟨⟨⟨⟨Yw,YJ⟩,⟨YC,YL⟩,⟨YP,YO,YN⟩,⟨YF,YE,YD⟩⟩,Xz,XF,Wg,XB,WB,XM,XA,Xw,Xo,Xx,Xp,Xy,⟨Xu,Xt,Xs⟩,Wf,We⟩,⟨o_a,o_c,o_l⟩,rfl,hv1,hv2,okv,oko,okq⟩
         refine Zx ?_
         iterate 2 refine XU ?_
         refine YW F.zero32 ?_;intro b20
         refine Xg F.lay32 ?_;refine ZB ?_;refine Zo (Zn (Y_pk [8,7,5,4] ?_));refine ZK (Zm (l:=[0,1,2,3]) rfl ?_);refine ZD F.lay32 ?_;refine Zx ?_;refine Xg F.lay32 ?_;refine ZB ?_;refine Zo (Zn (Y_pk [5,4] ?_));refine Yo ?_
         refine Yk (.inr rfl) (.cell rfl (by repeat first|exact List.Mem.head _|refine List.Mem.tail _ ?_|refine List.mem_append_right _ ?_) F.lay32 rfl rfl (.tmp rfl .nil)) (fun w hw=>?_)
         have h3:=found_seek (show (ZR.nd ⟨⟨⟨Za,Zb⟩,⟨Zf,Zh⟩,⟨Zj,Zi,Zg⟩,⟨Ze,Zd,Zc⟩⟩,Zr,Zs,ZH,Zv,ZT,ZC,ZA,Zw,Zq,Zy,Zp,Zz,⟨Zu,Zt,Zl⟩,ZG,ZJ⟩).findTo=(ZP.lt ⟨Yb,⟨ZM,Ye⟩,YB,l_id,⟨ZY,ZX,ZN⟩,Ys,⟨ZI,ZS⟩,⟨ZZ,ZV,ZL⟩⟩).frm.addr by show Zy=ZM;first|assumption|omega) (show (ZR.nd ⟨⟨⟨Za,Zb⟩,⟨Zf,Zh⟩,⟨Zj,Zi,Zg⟩,⟨Ze,Zd,Zc⟩⟩,Zr,Zs,ZH,Zv,ZT,ZC,ZA,Zw,Zq,Zy,Zp,Zz,⟨Zu,Zt,Zl⟩,ZG,ZJ⟩).findReq=(ZP.lt ⟨Yb,⟨ZM,Ye⟩,YB,l_id,⟨ZY,ZX,ZN⟩,Ys,⟨ZI,ZS⟩,⟨ZZ,ZV,ZL⟩⟩).req by show Zp=YB;first|assumption|omega) (show (ZP.lt ⟨Yb,⟨ZM,Ye⟩,YB,l_id,⟨ZY,ZX,ZN⟩,Ys,⟨ZI,ZS⟩,⟨ZZ,ZV,ZL⟩⟩).done=false by show Ys=false;first|assumption|(simp_all;done)) (show Xn ⟨Za,Zb⟩ ⟨ZI,ZS⟩ by assumption) (show ZI∉Zl by assumption) (show ZI≠ZM by assumption) (show ¬32≤ZG by omega)
         exact ⟨_,M1,rfl,hm1,hw.c,⟨⟨⟨Yw,YJ⟩,⟨YC,YL⟩,⟨YP,YO,YN⟩,⟨YF,YE,YD⟩⟩,Xz,XF,Wg,XB,WB,XM,XA,Xw,Xo,Xx,Xp,Xy,⟨Xu,Xt,Xs⟩,Wf,We⟩,⟨o_a,o_c,o_l⟩,rfl,by rw [h3];exact hv1,by rw [h3];exact hv2,okv,oko,okq⟩
end Go.Proofs.YtajmnjefajknoaaGreat
namespace Go.Proofs.YtajmnjefajknoaaGreat
open Go.Esp
theorem F.fld25_0:fld Tryz.prog 25 0=some (0,3):=by kernel_rfl
theorem F.ok112:okFn Tryz.prog 112=true:=by kernel_rfl
theorem rtold_ok (M:Mem) (n:ZR) (l:ZP) (hn0:ZR.ok M n) (hl1:ZP.ok M l) (hbig:n.table.succ.l.length≤40∧n.table.fingers.l.length≤200) (hLp:l.peers.l.length≤1000):Esp.Fn Tryz.prog 59 [n.enc,l.enc] M (fun M' v=>NsE M' v (UH n.nd l.lt)):=by
  obtain ⟨⟨⟨Za,Zb⟩,⟨Zf,Zh⟩,⟨Zj,Zi,Zg⟩,⟨Ze,Zd,Zc⟩⟩,Zr,Zs,ZH,Zv,ZT,ZC,ZA,Zw,Zq,Zy,Zp,Zz,⟨Zu,Zt,Zl⟩,ZG,ZJ⟩:=n
  obtain ⟨Yb,⟨ZM,Ye⟩,YB,l_id,⟨ZY,ZX,ZN⟩,Ys,⟨ZI,ZS⟩,⟨ZZ,ZV,ZL⟩⟩:=l
  have Yv:ZQ.ok M ⟨⟨Za,Zb⟩,⟨Zf,Zh⟩,⟨Zj,Zi,Zg⟩,⟨Ze,Zd,Zc⟩⟩:=hn0.h0
  have YM:SlK M ZF.segs 21 ⟨Zj,Zi,Zg⟩:=hn0.h0.h0
  have Wo:SlM M Zj (Zg.map ZF.segs) 21:=YM.h1
  have Wp:(Zg.map ZF.segs).length=Zg.length:=List.length_map ..
  have Wq:Zg.length≤9223372036854775807:=YM.h2
  have Wr:Zg.length≤Zi:=YM.h3
  have Yx:SlK M ZF.segs 21 ⟨Ze,Zd,Zc⟩:=hn0.h0.h1
  have XV:SlM M Ze (Zc.map ZF.segs) 21:=Yx.h1
  have XW:(Zc.map ZF.segs).length=Zc.length:=List.length_map ..
  have XX:Zc.length≤9223372036854775807:=Yx.h2
  have XY:Zc.length≤Zd:=Yx.h3
  have Yz:SlK M (oneI .i64) 1 ⟨Zu,Zt,Zl⟩:=hn0.h1
  have WQ:SlM M Zu (Zl.map (oneI .i64)) 1:=Yz.h1
  have Vi:(Zl.map (oneI .i64)).length=Zl.length:=List.length_map ..
  have Va:Zl.length≤9223372036854775807:=Yz.h2
  have Vk:Zl.length≤Zt:=Yz.h3
  have Xl:SlK M (oneI .i64) 1 ⟨ZY,ZX,ZN⟩:=hl1.h0
  have Vu:SlM M ZY (ZN.map (oneI .i64)) 1:=Xl.h1
  have VK:(ZN.map (oneI .i64)).length=ZN.length:=List.length_map ..
  have Vx:ZN.length≤9223372036854775807:=Xl.h2
  have VM:ZN.length≤ZX:=Xl.h3
  have Xb:SlK M ZF.segs 21 ⟨ZZ,ZV,ZL⟩:=hl1.h1
  have XT:SlM M ZZ (ZL.map ZF.segs) 21:=Xb.h1
  have WR:(ZL.map ZF.segs).length=ZL.length:=List.length_map ..
  have Vw:ZL.length≤9223372036854775807:=Xb.h2
  have WS:ZL.length≤ZV:=Xb.h3
  simp only at hbig hLp
  refine Wu Tryz.func59 rfl Tryz.ntmps59 rfl ?_;intro H
  refine ZK (Zm (l:=[0,1,2,3]) rfl ?_)
  refine Xk ?_;intro b1
  refine Xk ?_;intro b2
  refine YW F.zero32 ?_;intro b3
  refine ZB ?_;refine Zo (Zn (Y_pk [5,4,3,2] ?_))
  iterate 2 refine ZK ?_
  refine Zm (l:=[0,1,2,3,4,5,6,7,8,9,10,11,12]) rfl ?_;refine Zk F.foff32_6 ?_;refine ZD F.lay3 ?_;refine Zk F.foff44_1 ?_;refine Zk F.foff25_0 ?_;refine ZD F.lay3 ?_;refine YI ?_;refine Zx ?_
  refine Yj 13 rfl (fun hc4=>?_) (fun hc4=>?_)
  ·replace hc4:=nT hc4
   iterate 5 refine Ya ?_
   refine ZO ?_;refine Zo (Zn (Y_pk [19,5,4,3,2] ?_));refine Xi rfl ?_;refine ZK (Zm (l:=[0,1,2]) rfl ?_);refine ZD F.lay32 ?_;refine Xg F.lay32 ?_;refine ZB ?_;refine Zo (Zn (Y_pk [5,4,3,2] ?_));refine Yo (YS ?_)
   refine Yk (.inr rfl) (.cell rfl (by repeat first|exact List.Mem.head _|refine List.Mem.tail _ ?_|refine List.mem_append_right _ ?_) F.lay32 rfl rfl (.tmp rfl .nil)) (fun w hw=>?_)
   refine ⟨_,M,rfl,Mem.le.refl M,hw.c,⟨⟨⟨Za,Zb⟩,⟨Zf,Zh⟩,⟨Zj,Zi,Zg⟩,⟨Ze,Zd,Zc⟩⟩,Zr,Zs,ZH,Zv,ZT,ZC,ZA,Zw,Zq,Zy,Zp,Zz,⟨Zu,Zt,Zl⟩,ZG,ZJ⟩,⟨none,0,[]⟩,rfl,?_,?_,⟨Yv,hn0.h1⟩,SlK.nil,fun y hy=>by cases hy⟩
   ·rw [told_no (n:=ZR.nd ⟨⟨⟨Za,Zb⟩,⟨Zf,Zh⟩,⟨Zj,Zi,Zg⟩,⟨Ze,Zd,Zc⟩⟩,Zr,Zs,ZH,Zv,ZT,ZC,ZA,Zw,Zq,Zy,Zp,Zz,⟨Zu,Zt,Zl⟩,ZG,ZJ⟩) (l:=ZP.lt ⟨Yb,⟨ZM,Ye⟩,YB,l_id,⟨ZY,ZX,ZN⟩,Ys,⟨ZI,ZS⟩,⟨ZZ,ZV,ZL⟩⟩) (by exact .inl (by assumption))]
   ·rw [told_no (n:=ZR.nd ⟨⟨⟨Za,Zb⟩,⟨Zf,Zh⟩,⟨Zj,Zi,Zg⟩,⟨Ze,Zd,Zc⟩⟩,Zr,Zs,ZH,Zv,ZT,ZC,ZA,Zw,Zq,Zy,Zp,Zz,⟨Zu,Zt,Zl⟩,ZG,ZJ⟩) (l:=ZP.lt ⟨Yb,⟨ZM,Ye⟩,YB,l_id,⟨ZY,ZX,ZN⟩,Ys,⟨ZI,ZS⟩,⟨ZZ,ZV,ZL⟩⟩) (by exact .inl (by assumption))];rfl
  ·replace hc4:=nF hc4
   refine Zk F.foff32_7 ?_;refine ZD F.lay29 ?_;refine Zk F.foff44_2 ?_;refine ZD F.lay29 ?_;refine YI ?_;refine ZO ?_;refine Zo (Zn (Y_pk [19,5,4,3,2] ?_))
   refine YA rfl (fun hc5=>?_) (fun hc5=>?_)
   ·replace hc5:=nT hc5
    refine ZK (Zm (l:=[0,1,2]) rfl ?_);refine ZD F.lay32 ?_;refine Xg F.lay32 ?_;refine ZB ?_;refine Zo (Zn (Y_pk [5,4,3,2] ?_));refine Yo (YS ?_)
    refine Yk (.inr rfl) (.cell rfl (by repeat first|exact List.Mem.head _|refine List.Mem.tail _ ?_|refine List.mem_append_right _ ?_) F.lay32 rfl rfl (.tmp rfl .nil)) (fun w hw=>?_)
    refine ⟨_,M,rfl,Mem.le.refl M,hw.c,⟨⟨⟨Za,Zb⟩,⟨Zf,Zh⟩,⟨Zj,Zi,Zg⟩,⟨Ze,Zd,Zc⟩⟩,Zr,Zs,ZH,Zv,ZT,ZC,ZA,Zw,Zq,Zy,Zp,Zz,⟨Zu,Zt,Zl⟩,ZG,ZJ⟩,⟨none,0,[]⟩,rfl,?_,?_,⟨Yv,hn0.h1⟩,SlK.nil,fun y hy=>by cases hy⟩
    ·rw [told_no (n:=ZR.nd ⟨⟨⟨Za,Zb⟩,⟨Zf,Zh⟩,⟨Zj,Zi,Zg⟩,⟨Ze,Zd,Zc⟩⟩,Zr,Zs,ZH,Zv,ZT,ZC,ZA,Zw,Zq,Zy,Zp,Zz,⟨Zu,Zt,Zl⟩,ZG,ZJ⟩) (l:=ZP.lt ⟨Yb,⟨ZM,Ye⟩,YB,l_id,⟨ZY,ZX,ZN⟩,Ys,⟨ZI,ZS⟩,⟨ZZ,ZV,ZL⟩⟩) (by exact .inr (by assumption))]
    ·rw [told_no (n:=ZR.nd ⟨⟨⟨Za,Zb⟩,⟨Zf,Zh⟩,⟨Zj,Zi,Zg⟩,⟨Ze,Zd,Zc⟩⟩,Zr,Zs,ZH,Zv,ZT,ZC,ZA,Zw,Zq,Zy,Zp,Zz,⟨Zu,Zt,Zl⟩,ZG,ZJ⟩) (l:=ZP.lt ⟨Yb,⟨ZM,Ye⟩,YB,l_id,⟨ZY,ZX,ZN⟩,Ys,⟨ZI,ZS⟩,⟨ZZ,ZV,ZL⟩⟩) (by exact .inr (by assumption))];rfl
   ·replace hc5:=nF hc5
    refine YG (Zn (Y_pk [5,4,3,2] ?_));refine ZK (Zm (l:=[0,1]) rfl ?_);refine Zk F.foff32_6 ?_;refine Yh F.lay3 ?_;refine Zo (Zn (Y_pk [5,4,3,2] ?_));refine ZK (Zm (l:=[0,1,2,3,4,5,6]) rfl ?_);refine ZD F.lay32 ?_;refine Zk F.foff44_1 ?_;refine ZD F.lay25 ?_;refine Zk F.foff44_7 ?_;refine ZD F.lay26 ?_;refine X_fn rfl rfl F.ok95 rfl (radopt_ok _ ⟨⟨⟨Za,Zb⟩,⟨Zf,Zh⟩,⟨Zj,Zi,Zg⟩,⟨Ze,Zd,Zc⟩⟩,Zr,Zs,ZH,Zv,ZT,-1,ZA,Zw,Zq,Zy,Zp,Zz,⟨Zu,Zt,Zl⟩,ZG,ZJ⟩ ⟨ZM,Ye⟩ ⟨ZZ,ZV,ZL⟩ ⟨Yv,hn0.h1⟩ Xb) rfl ?_
    rintro _ M1 hm1 ⟨⟨⟨⟨Yw,YJ⟩,⟨YC,YL⟩,⟨YP,YO,YN⟩,⟨YF,YE,YD⟩⟩,Xz,XF,Wg,XB,WB,XM,XA,Xw,Xo,Xx,Xp,Xy,⟨Xu,Xt,Xs⟩,Wf,We⟩,rfl,hv1,okv⟩
    refine Xg F.lay32 ?_;refine Zo (Zn (Y_pk [5,4,3,2] ?_))
    iterate 2 refine ZK ?_
    refine Zm (l:=[0,1,2,3,4]) rfl ?_;refine Zk F.foff32_0 ?_;refine ZD F.lay28 ?_;refine Zk F.foff44_6 ?_;refine ZD F.lay25 ?_;refine X_fs rfl rfl F.ok112 rfl (rCloser_ok _ ⟨⟨Yw,YJ⟩,⟨YC,YL⟩,⟨YP,YO,YN⟩,⟨YF,YE,YD⟩⟩ ⟨ZI,ZS⟩ okv.h0) rfl ?_
    rintro _ rfl
    refine Zo (Zn (Y_pk [32,5,4,3,2] ?_))
    refine YA rfl (fun hc6=>?_) (fun hc6=>?_)
    ·replace hc6:=dT hc6
     refine ZK (Zm (l:=[0,1,2,3]) rfl ?_);refine Zk F.foff44_1 ?_;refine ZD F.lay25 ?_
     refine Xq rfl rfl F.elem26 F.zero25 rfl rfl (.cons rfl (by constructor) .nil) rfl rfl (by simp only [List.map_cons,List.map_nil] <;> rfl) rfl ?_;intro b7 hob8
     refine ZB ?_;refine Zo (Zn (Y_pk [6,5,4,3,2] ?_));refine ZK (Zm (l:=[0,1,2,3,4]) rfl ?_);refine Zx ?_;refine Zk F.foff44_7 ?_;refine ZD F.lay26 ?_
     refine Vy (m:=1000000) rfl rfl rfl rfl rfl F.elem26 F.zero25 (by exact Ww rfl) rfl (by assumption) (by repeat first|exact Rem.here _|exact Rem.two|apply Rem.skip|apply Rem.over) ((XT.mono hm1)) ZF.flat (by (simp;omega)) (by decide) rfl ?_;intro v11 hs10 ho9;obtain ⟨adv11,cpv11,rfl⟩:=ho9.valAt (n:=ZL.length+1) (by (simp;done))
     refine ZB ?_;refine Zo (Zn (Y_pk [6,5,4,3,2] ?_))
     have hmle:([⟨ZM,Ye⟩]++ZL:List ZF).length=ZL.length+1:=rfl
     have hoz:OSl 25 21 (.slice adv11 (ZL.length+1) cpv11) hs10 ((⟨ZM,Ye⟩::ZL).map ZF.segs):=by have h9:=ho9;exact OSl.as9 (by exact h9) (by rfl)
     refine UG hoz (by repeat first|exact Rem.here _|exact Rem.two|apply Rem.skip|apply Rem.over) (fun M0 hM0 k_re=>?_)
     refine Zm (l:=[0,1,2,3,4,5]) rfl ?_;refine ZD F.lay32 ?_;refine Zk F.foff44_6 ?_;refine ZD F.lay25 ?_;refine Zx ?_;refine X_fn rfl rfl F.ok95 rfl (radopt_ok _ ⟨⟨⟨Yw,YJ⟩,⟨YC,YL⟩,⟨YP,YO,YN⟩,⟨YF,YE,YD⟩⟩,Xz,XF,Wg,XB,WB,XM,XA,Xw,Xo,Xx,Xp,Xy,⟨Xu,Xt,Xs⟩,Wf,We⟩ ⟨ZI,ZS⟩ ⟨adv11,cpv11,⟨ZM,Ye⟩::ZL⟩ (okv.mono hM0) k_re) rfl ?_
     rintro _ M2 hm2 ⟨⟨⟨⟨q_table_self_addr,q_table_self_id⟩,⟨q_table_pred_addr,q_table_pred_id⟩,⟨q_table_succ_a,q_table_succ_c,q_table_succ_l⟩,⟨q_table_fingers_a,q_table_fingers_c,q_table_fingers_l⟩⟩,q_copies,q_joined,q_boot,q_cursor,q_req,q_askTo,q_askReq,q_pingTo,q_pingReq,q_findTo,q_findReq,q_findID,⟨q_avoid_a,q_avoid_c,q_avoid_l⟩,q_hops,q_turn⟩,rfl,hv2,okq⟩
     refine Xg F.lay32 ?_;refine Zo (Zn (Y_pk [5,4,2] ?_));refine ZK (C_region_anyPR (Hin:=[(b3,_)]) [0,1,2,3,4,5,6,7,9,8,10] [9] #[0,0,2,6,14,0,46,126,254,111,1023] (by repeat first|exact Rem.here _|exact Rem.two|apply Rem.skip|apply Rem.over) (by kernel_rfl) (by kernel_rfl) ?_);refine ZD F.lay32 ?_;refine Zk F.foff32_0 ?_;refine ZD F.lay28 ?_;refine X_fs rfl rfl F.ok68 rfl (rFirst_ok _ ⟨⟨q_table_self_addr,q_table_self_id⟩,⟨q_table_pred_addr,q_table_pred_id⟩,⟨q_table_succ_a,q_table_succ_c,q_table_succ_l⟩,⟨q_table_fingers_a,q_table_fingers_c,q_table_fingers_l⟩⟩ okq.h0) rfl ?_
     rintro _ rfl
     obtain ⟨⟨fa,fi⟩,hfi⟩:∃ x,Wi (ZQ.tb ⟨⟨q_table_self_addr,q_table_self_id⟩,⟨q_table_pred_addr,q_table_pred_id⟩,⟨q_table_succ_a,q_table_succ_c,q_table_succ_l⟩,⟨q_table_fingers_a,q_table_fingers_c,q_table_fingers_l⟩⟩)=x:=⟨_,rfl⟩
     rw [hfi]
     refine Y_field F.fld25_0 F.lay3 ?_;refine ZD F.lay32 ?_;refine X_fs rfl rfl F.ok58 rfl (rlett_ok _ ⟨⟨⟨q_table_self_addr,q_table_self_id⟩,⟨q_table_pred_addr,q_table_pred_id⟩,⟨q_table_succ_a,q_table_succ_c,q_table_succ_l⟩,⟨q_table_fingers_a,q_table_fingers_c,q_table_fingers_l⟩⟩,q_copies,q_joined,q_boot,q_cursor,q_req,q_askTo,q_askReq,q_pingTo,q_pingReq,q_findTo,q_findReq,q_findID,⟨q_avoid_a,q_avoid_c,q_avoid_l⟩,q_hops,q_turn⟩ 5 0) rfl ?_
     rintro _ rfl
     refine Xr rfl rfl F.bld49 (.cons rfl (by constructor) (.cons rfl (by constructor) .nil)) rfl rfl ?_;refine X_storeE rfl rfl rfl rfl rfl (by constructor) (by ((try simp only [cat,List.cons_append,List.nil_append,List.append_nil]);(repeat (first|exact XG|refine XN ?_|(refine YU ?_ ?_;rfl)));done)) (by repeat first|exact Upd.head|apply Upd.tail|apply Upd.over) F.lay32 (by simp only [ZF.segs,ZQ.segs,ZR.segs,ZP.segs,Yr.segs,ZW.segs,YQ.segs,Yc.segs,cat,List.append_eq,List.cons_append,List.nil_append,List.append_nil,Segs.len,Seg.len,Yt]) (VT (m:=78) rfl (by simp only [ZF.segs,ZQ.segs,ZR.segs,ZP.segs,Yr.segs,ZW.segs,YQ.segs,Yc.segs,cat,List.append_eq,List.cons_append,List.nil_append,List.append_nil,Segs.len,Seg.len,Yt]) (by simp only [ZF.segs,ZQ.segs,ZR.segs,ZP.segs,Yr.segs,ZW.segs,YQ.segs,Yc.segs,cat,List.append_eq,List.cons_append,List.nil_append,List.append_nil,Segs.len,Seg.len,Yt])) (fun _ h=>h.c) ?_
     refine Xq rfl rfl F.elem35 F.zero49 rfl rfl (.cons rfl (by constructor) .nil) rfl rfl (by simp only [List.map_cons,List.map_nil] <;> rfl) rfl ?_;intro b12 hob13
     refine ZB ?_;refine Zo (WP ?_);refine Zn (Y_pk [5,4] ?_);refine Yo ?_
     refine Yk (.inr rfl) (.cell rfl (by repeat first|exact List.Mem.head _|refine List.Mem.tail _ ?_|refine List.mem_append_right _ ?_) F.lay32 rfl rfl (.tmp rfl .nil)) (fun w hw=>?_)
     have h3:=told_yes (show (ZR.nd ⟨⟨⟨Za,Zb⟩,⟨Zf,Zh⟩,⟨Zj,Zi,Zg⟩,⟨Ze,Zd,Zc⟩⟩,Zr,Zs,ZH,Zv,ZT,ZC,ZA,Zw,Zq,Zy,Zp,Zz,⟨Zu,Zt,Zl⟩,ZG,ZJ⟩).askTo=(ZP.lt ⟨Yb,⟨ZM,Ye⟩,YB,l_id,⟨ZY,ZX,ZN⟩,Ys,⟨ZI,ZS⟩,⟨ZZ,ZV,ZL⟩⟩).frm.addr by show ZC=ZM;first|assumption|omega) (show (ZR.nd ⟨⟨⟨Za,Zb⟩,⟨Zf,Zh⟩,⟨Zj,Zi,Zg⟩,⟨Ze,Zd,Zc⟩⟩,Zr,Zs,ZH,Zv,ZT,ZC,ZA,Zw,Zq,Zy,Zp,Zz,⟨Zu,Zt,Zl⟩,ZG,ZJ⟩).askReq=(ZP.lt ⟨Yb,⟨ZM,Ye⟩,YB,l_id,⟨ZY,ZX,ZN⟩,Ys,⟨ZI,ZS⟩,⟨ZZ,ZV,ZL⟩⟩).req by show ZA=YB;first|assumption|omega) hv1 (show VP (ZQ.tb ⟨⟨Yw,YJ⟩,⟨YC,YL⟩,⟨YP,YO,YN⟩,⟨YF,YE,YD⟩⟩) ⟨ZI,ZS⟩ by assumption) hv2
     rw [show Wi (ZR.nd ⟨⟨⟨q_table_self_addr,q_table_self_id⟩,⟨q_table_pred_addr,q_table_pred_id⟩,⟨q_table_succ_a,q_table_succ_c,q_table_succ_l⟩,⟨q_table_fingers_a,q_table_fingers_c,q_table_fingers_l⟩⟩,q_copies,q_joined,q_boot,q_cursor,q_req,q_askTo,q_askReq,q_pingTo,q_pingReq,q_findTo,q_findReq,q_findID,⟨q_avoid_a,q_avoid_c,q_avoid_l⟩,q_hops,q_turn⟩).table=⟨fa,fi⟩ from hfi] at h3
     obtain ⟨M9,j1,j2,j3⟩:=OSl.frz (H:=H) (l:=[(⟨fa,(⟨5,⟨q_table_self_addr,q_table_self_id⟩,0,0,⟨none,0,[]⟩,false,Xf,⟨none,0,[]⟩⟩:ZP)⟩:Yr)]) (f:=Yr.segs) (show OSl 49 68 _ _ ([(⟨fa,(⟨5,⟨q_table_self_addr,q_table_self_id⟩,0,0,⟨none,0,[]⟩,false,Xf,⟨none,0,[]⟩⟩:ZP)⟩:Yr)].map Yr.segs) from hob13) (hw.c)
     refine ⟨_,M9,rfl,Mem.le.trans ((hm1.trans hM0).trans hm2) j1,j2,⟨⟨⟨q_table_self_addr,q_table_self_id⟩,⟨q_table_pred_addr,q_table_pred_id⟩,⟨q_table_succ_a,q_table_succ_c,q_table_succ_l⟩,⟨q_table_fingers_a,q_table_fingers_c,q_table_fingers_l⟩⟩,q_copies,q_joined,q_boot,q_cursor,q_req,q_askTo,q_askReq,q_pingTo,q_pingReq,q_findTo,q_findReq,q_findID,⟨q_avoid_a,q_avoid_c,q_avoid_l⟩,q_hops,q_turn⟩,⟨_,1,[(⟨fa,(⟨5,⟨q_table_self_addr,q_table_self_id⟩,0,0,⟨none,0,[]⟩,false,Xf,⟨none,0,[]⟩⟩:ZP)⟩:Yr)]⟩,rfl,by rw [h3],by rw [h3];rfl,⟨okq.h0.mono j1,okq.h1.mono j1⟩,j3,fun y hy=>by obtain rfl:=List.mem_singleton.1 hy;exact ⟨⟨SlK.nil,SlK.nil⟩⟩⟩
    ·replace hc6:=dF hc6
     refine YG (Zn (Y_pk [5,4,2] ?_));refine ZK (C_region_anyPR (Hin:=[(b3,_)]) [0,1,2,3,4,5,6,7,9,8,10] [9] #[0,0,2,6,14,0,46,126,254,111,1023] (by repeat first|exact Rem.here _|exact Rem.two|apply Rem.skip|apply Rem.over) (by kernel_rfl) (by kernel_rfl) ?_);refine ZD F.lay32 ?_;refine Zk F.foff32_0 ?_;refine ZD F.lay28 ?_;refine X_fs rfl rfl F.ok68 rfl (rFirst_ok _ ⟨⟨Yw,YJ⟩,⟨YC,YL⟩,⟨YP,YO,YN⟩,⟨YF,YE,YD⟩⟩ okv.h0) rfl ?_
     rintro _ rfl
     obtain ⟨⟨fa,fi⟩,hfi⟩:∃ x,Wi (ZQ.tb ⟨⟨Yw,YJ⟩,⟨YC,YL⟩,⟨YP,YO,YN⟩,⟨YF,YE,YD⟩⟩)=x:=⟨_,rfl⟩
     rw [hfi]
     refine Y_field F.fld25_0 F.lay3 ?_;refine ZD F.lay32 ?_;refine X_fs rfl rfl F.ok58 rfl (rlett_ok _ ⟨⟨⟨Yw,YJ⟩,⟨YC,YL⟩,⟨YP,YO,YN⟩,⟨YF,YE,YD⟩⟩,Xz,XF,Wg,XB,WB,XM,XA,Xw,Xo,Xx,Xp,Xy,⟨Xu,Xt,Xs⟩,Wf,We⟩ 5 0) rfl ?_
     rintro _ rfl
     refine Xr rfl rfl F.bld49 (.cons rfl (by constructor) (.cons rfl (by constructor) .nil)) rfl rfl ?_;refine X_storeE rfl rfl rfl rfl rfl (by constructor) (by ((try simp only [cat,List.cons_append,List.nil_append,List.append_nil]);(repeat (first|exact XG|refine XN ?_|(refine YU ?_ ?_;rfl)));done)) (by repeat first|exact Upd.head|apply Upd.tail|apply Upd.over) F.lay32 (by simp only [ZF.segs,ZQ.segs,ZR.segs,ZP.segs,Yr.segs,ZW.segs,YQ.segs,Yc.segs,cat,List.append_eq,List.cons_append,List.nil_append,List.append_nil,Segs.len,Seg.len,Yt]) (VT (m:=78) rfl (by simp only [ZF.segs,ZQ.segs,ZR.segs,ZP.segs,Yr.segs,ZW.segs,YQ.segs,Yc.segs,cat,List.append_eq,List.cons_append,List.nil_append,List.append_nil,Segs.len,Seg.len,Yt]) (by simp only [ZF.segs,ZQ.segs,ZR.segs,ZP.segs,Yr.segs,ZW.segs,YQ.segs,Yc.segs,cat,List.append_eq,List.cons_append,List.nil_append,List.append_nil,Segs.len,Seg.len,Yt])) (fun _ h=>h.c) ?_
     refine Xq rfl rfl F.elem35 F.zero49 rfl rfl (.cons rfl (by constructor) .nil) rfl rfl (by simp only [List.map_cons,List.map_nil] <;> rfl) rfl ?_;intro b14 hob15
     refine ZB ?_;refine Zo (WP ?_);refine Zn (Y_pk [5,4] ?_);refine Yo ?_
     refine Yk (.inr rfl) (.cell rfl (by repeat first|exact List.Mem.head _|refine List.Mem.tail _ ?_|refine List.mem_append_right _ ?_) F.lay32 rfl rfl (.tmp rfl .nil)) (fun w hw=>?_)
     have h3:=told_not (show (ZR.nd ⟨⟨⟨Za,Zb⟩,⟨Zf,Zh⟩,⟨Zj,Zi,Zg⟩,⟨Ze,Zd,Zc⟩⟩,Zr,Zs,ZH,Zv,ZT,ZC,ZA,Zw,Zq,Zy,Zp,Zz,⟨Zu,Zt,Zl⟩,ZG,ZJ⟩).askTo=(ZP.lt ⟨Yb,⟨ZM,Ye⟩,YB,l_id,⟨ZY,ZX,ZN⟩,Ys,⟨ZI,ZS⟩,⟨ZZ,ZV,ZL⟩⟩).frm.addr by show ZC=ZM;first|assumption|omega) (show (ZR.nd ⟨⟨⟨Za,Zb⟩,⟨Zf,Zh⟩,⟨Zj,Zi,Zg⟩,⟨Ze,Zd,Zc⟩⟩,Zr,Zs,ZH,Zv,ZT,ZC,ZA,Zw,Zq,Zy,Zp,Zz,⟨Zu,Zt,Zl⟩,ZG,ZJ⟩).askReq=(ZP.lt ⟨Yb,⟨ZM,Ye⟩,YB,l_id,⟨ZY,ZX,ZN⟩,Ys,⟨ZI,ZS⟩,⟨ZZ,ZV,ZL⟩⟩).req by show ZA=YB;first|assumption|omega) hv1 (show ¬VP (ZQ.tb ⟨⟨Yw,YJ⟩,⟨YC,YL⟩,⟨YP,YO,YN⟩,⟨YF,YE,YD⟩⟩) ⟨ZI,ZS⟩ by assumption)
     rw [show Wi (ZR.nd ⟨⟨⟨Yw,YJ⟩,⟨YC,YL⟩,⟨YP,YO,YN⟩,⟨YF,YE,YD⟩⟩,Xz,XF,Wg,XB,WB,XM,XA,Xw,Xo,Xx,Xp,Xy,⟨Xu,Xt,Xs⟩,Wf,We⟩).table=⟨fa,fi⟩ from hfi] at h3
     obtain ⟨M9,j1,j2,j3⟩:=OSl.frz (H:=H) (l:=[(⟨fa,(⟨5,⟨Yw,YJ⟩,0,0,⟨none,0,[]⟩,false,Xf,⟨none,0,[]⟩⟩:ZP)⟩:Yr)]) (f:=Yr.segs) (show OSl 49 68 _ _ ([(⟨fa,(⟨5,⟨Yw,YJ⟩,0,0,⟨none,0,[]⟩,false,Xf,⟨none,0,[]⟩⟩:ZP)⟩:Yr)].map Yr.segs) from hob15) (hw.c)
     refine ⟨_,M9,rfl,Mem.le.trans hm1 j1,j2,⟨⟨⟨Yw,YJ⟩,⟨YC,YL⟩,⟨YP,YO,YN⟩,⟨YF,YE,YD⟩⟩,Xz,XF,Wg,XB,WB,XM,XA,Xw,Xo,Xx,Xp,Xy,⟨Xu,Xt,Xs⟩,Wf,We⟩,⟨_,1,[(⟨fa,(⟨5,⟨Yw,YJ⟩,0,0,⟨none,0,[]⟩,false,Xf,⟨none,0,[]⟩⟩:ZP)⟩:Yr)]⟩,rfl,by rw [h3],by rw [h3];rfl,⟨okv.h0.mono j1,okv.h1.mono j1⟩,j3,fun y hy=>by obtain rfl:=List.mem_singleton.1 hy;exact ⟨⟨SlK.nil,SlK.nil⟩⟩⟩
end Go.Proofs.YtajmnjefajknoaaGreat
namespace Go.Proofs.YtajmnjefajknoaaGreat
open Go.Esp
theorem F.ok60:okFn Tryz.prog 60=true:=by kernel_rfl
theorem rbye_ok (M:Mem) (n:ZR) (l:ZP) (hn0:ZR.ok M n) (hl1:ZP.ok M l) (hbig:n.table.succ.l.length≤40∧n.table.fingers.l.length≤200):Esp.Fn Tryz.prog 61 [n.enc,l.enc] M (fun M' v=>NE M' v (byeN n.nd l.lt)):=by
  obtain ⟨⟨⟨Za,Zb⟩,⟨Zf,Zh⟩,⟨Zj,Zi,Zg⟩,⟨Ze,Zd,Zc⟩⟩,Zr,Zs,ZH,Zv,ZT,ZC,ZA,Zw,Zq,Zy,Zp,Zz,⟨Zu,Zt,Zl⟩,ZG,ZJ⟩:=n
  obtain ⟨Yb,⟨ZM,Ye⟩,YB,l_id,⟨ZY,ZX,ZN⟩,Ys,⟨ZI,ZS⟩,⟨ZZ,ZV,ZL⟩⟩:=l
  have Yv:ZQ.ok M ⟨⟨Za,Zb⟩,⟨Zf,Zh⟩,⟨Zj,Zi,Zg⟩,⟨Ze,Zd,Zc⟩⟩:=hn0.h0
  have YM:SlK M ZF.segs 21 ⟨Zj,Zi,Zg⟩:=hn0.h0.h0
  have Wo:SlM M Zj (Zg.map ZF.segs) 21:=YM.h1
  have Wp:(Zg.map ZF.segs).length=Zg.length:=List.length_map ..
  have Wq:Zg.length≤9223372036854775807:=YM.h2
  have Wr:Zg.length≤Zi:=YM.h3
  have Yx:SlK M ZF.segs 21 ⟨Ze,Zd,Zc⟩:=hn0.h0.h1
  have XV:SlM M Ze (Zc.map ZF.segs) 21:=Yx.h1
  have XW:(Zc.map ZF.segs).length=Zc.length:=List.length_map ..
  have XX:Zc.length≤9223372036854775807:=Yx.h2
  have XY:Zc.length≤Zd:=Yx.h3
  have Yz:SlK M (oneI .i64) 1 ⟨Zu,Zt,Zl⟩:=hn0.h1
  have WQ:SlM M Zu (Zl.map (oneI .i64)) 1:=Yz.h1
  have Vi:(Zl.map (oneI .i64)).length=Zl.length:=List.length_map ..
  have Va:Zl.length≤9223372036854775807:=Yz.h2
  have Vk:Zl.length≤Zt:=Yz.h3
  have Xl:SlK M (oneI .i64) 1 ⟨ZY,ZX,ZN⟩:=hl1.h0
  have Vu:SlM M ZY (ZN.map (oneI .i64)) 1:=Xl.h1
  have VK:(ZN.map (oneI .i64)).length=ZN.length:=List.length_map ..
  have Vx:ZN.length≤9223372036854775807:=Xl.h2
  have VM:ZN.length≤ZX:=Xl.h3
  have Xb:SlK M ZF.segs 21 ⟨ZZ,ZV,ZL⟩:=hl1.h1
  have XT:SlM M ZZ (ZL.map ZF.segs) 21:=Xb.h1
  have WR:(ZL.map ZF.segs).length=ZL.length:=List.length_map ..
  have Vw:ZL.length≤9223372036854775807:=Xb.h2
  have WS:ZL.length≤ZV:=Xb.h3
  simp only at hbig
  refine Wu Tryz.func61 rfl Tryz.ntmps61 rfl ?_;intro H
  refine ZK (Zm (l:=[0,1,2]) rfl ?_)
  refine Xk ?_;intro b1
  refine Xk ?_;intro b2
  refine YW F.zero32 ?_;intro b3
  refine Zo (Zn (Y_pk [4,3,2] ?_));refine ZK (Zm (l:=[0,1,2,3,4,5,6,7,8]) rfl ?_);refine Zk F.foff32_0 ?_;refine Zk F.foff28_1 ?_;refine Zk F.foff25_0 ?_;refine ZD F.lay3 ?_;refine Zk F.foff44_1 ?_;refine Zk F.foff25_0 ?_;refine ZD F.lay3 ?_;refine YI ?_;refine ZB ?_;refine Zo (Zn (Y_pk [5,4,3,2] ?_));refine ZK (YK (l:=[0,1,2,3,4,5,6,7,8]) #[0,1,3,7,0,16,48,127,255] _ rfl (by kernel_rfl) (by kernel_rfl) St.drawn (fun _ h=>h) ?_);refine Zk F.foff32_0 ?_;refine ZD F.lay28 ?_;refine X_fs rfl rfl F.ok68 rfl (rFirst_ok _ ⟨⟨Za,Zb⟩,⟨Zf,Zh⟩,⟨Zj,Zi,Zg⟩,⟨Ze,Zd,Zc⟩⟩ Yv) rfl ?_
  rintro _ rfl
  obtain ⟨⟨fa,fi⟩,hfi⟩:∃ x,Wi (ZQ.tb ⟨⟨Za,Zb⟩,⟨Zf,Zh⟩,⟨Zj,Zi,Zg⟩,⟨Ze,Zd,Zc⟩⟩)=x:=⟨_,rfl⟩
  rw [hfi]
  refine Y_field F.fld25_0 F.lay3 ?_;refine Zk F.foff44_1 ?_;refine Zk F.foff25_0 ?_;refine ZD F.lay3 ?_;refine YI ?_;refine ZB ?_;refine Zo (Zn (Y_pk [6,5,4,3,2] ?_));refine ZK (Zm (l:=[0,1,2,3,4,5,6,7]) rfl ?_);refine Zk F.foff32_0 ?_;refine ZD F.lay28 ?_;refine Zk F.foff44_1 ?_;refine Zk F.foff25_0 ?_;refine ZD F.lay3 ?_;refine X_fn rfl rfl F.ok94 rfl (rForget_ok _ ⟨⟨Za,Zb⟩,⟨Zf,Zh⟩,⟨Zj,Zi,Zg⟩,⟨Ze,Zd,Zc⟩⟩ ZM Yv hbig) rfl ?_
  rintro _ M1 hm1 ⟨⟨⟨oa,oi⟩,⟨oq,oj⟩,⟨o1a,o1c,o1l⟩,⟨o2a,o2c,o2l⟩⟩,rfl,hot,okt⟩
  have hbo:o1l.length≤40∧o2l.length≤200:=forget_big hot hbig
  refine Zk F.foff32_0 ?_;refine Yh F.lay28 ?_;refine Zo (Zn (Y_pk [6,5,4,3,2] ?_))
  iterate 2 refine ZK ?_
  refine Zm (l:=[0]) rfl ?_;refine Zx ?_;refine Zo (Zn (Y_pk [30,6,4,3,2] ?_))
  refine YA rfl (fun hc4=>?_) (fun hc4=>?_)
  ·replace hc4:=dT hc4
   refine Zm (l:=[0,1,2,3,4,5,6]) rfl ?_;refine Zk F.foff32_0 ?_;refine ZD F.lay28 ?_;refine Zk F.foff44_6 ?_;refine ZD F.lay25 ?_;refine X_fn rfl rfl F.ok60 rfl (rLearn_ok _ ⟨⟨oa,oi⟩,⟨oq,oj⟩,⟨o1a,o1c,o1l⟩,⟨o2a,o2c,o2l⟩⟩ ⟨ZI,ZS⟩ okt hbo) rfl ?_
   rintro _ M2 hm2 ⟨⟨⟨wa,wi⟩,⟨wq,wj⟩,⟨w1a,w1c,w1l⟩,⟨w2a,w2c,w2l⟩⟩,rfl,hol,okl⟩
   refine Zk F.foff32_0 ?_;refine Yh F.lay28 ?_;refine Zo (Zn (Y_pk [6,4,3,2] ?_))
   iterate 2 refine ZK ?_
   have s_lp9:=XT.mono (hm1.trans hm2)
   refine YK (l:=[0,1,2,3,4,5,6,7,8,9,10,11,12,13,14,15]) #[0,1,3,7,15,31,63,127,255,511,255,1279,3327,7423,16383,32767] _ rfl (by kernel_rfl) (by kernel_rfl) St.drawn (fun _ h=>h) ?_
   iterate 2 refine Zx ?_
   refine Yj 38 rfl (fun hc5=>?_) (fun hc5=>?_)
   ·replace hc5:=dT hc5
    refine Zk F.foff44_7 ?_;refine ZD F.lay26 ?_;refine YY F.elem26 ?_;refine YI ?_;refine ZO ?_;refine Zx ?_
    refine Yj 44 rfl (fun hc6=>?_) (fun hc6=>?_)
    ·replace hc6:=dT hc6
     refine Zk F.foff32_0 ?_;refine ZD F.lay28 ?_;refine Zk F.foff44_7 ?_;refine ZD F.lay26 ?_;refine YR rfl rfl rfl rfl F.elem26 (by rfl) (by (simp;omega)) (by exact SlM.plain (by assumption) (by (simp;omega))) rfl ?_;refine Xm rfl rfl rfl (by assumption) (by exact XP (by (simp;omega))) F.lay25 rfl rfl rfl ?_;refine X_fs rfl rfl F.ok55 rfl (VI _ ⟨⟨wa,wi⟩,⟨wq,wj⟩,⟨w1a,w1c,w1l⟩,⟨w2a,w2c,w2l⟩⟩ ZL[0]) rfl ?_
     rintro _ rfl
     refine ZO ?_;refine Zo (Zn (Y_pk [52,4,3,2] ?_))
     refine YA rfl (fun hc7=>?_) (fun hc7=>?_)
     ·replace hc7:=dT hc7
      simp only [ZF.eta,ZQ.eta,ZR.eta,ZP.eta,Yr.eta,ZW.eta,YQ.eta,Yc.eta] at hc7
      refine YK (l:=[0,1,2,3,4,5,6,7,8,9]) #[0,0,2,6,14,0,32,96,255,511] _ rfl (by kernel_rfl) (by kernel_rfl) St.drawn (fun _ h=>h) ?_;refine ZD F.lay32 ?_;refine Zk F.foff44_7 ?_;refine ZD F.lay26 ?_;refine YR rfl rfl rfl rfl F.elem26 (by rfl) (by (simp;omega)) (by exact SlM.plain (by assumption) (by (simp;omega))) rfl ?_;refine Xm rfl rfl rfl (by assumption) (by exact XP (by (simp;omega))) F.lay25 rfl rfl rfl ?_;refine Zk F.foff44_7 ?_;refine ZD F.lay26 ?_;refine WY rfl rfl rfl (.some (k:=1) rfl rfl) .none .none F.elem26 (by simp only [Option.getD_none];omega) (by simp only [Option.getD_some,Option.getD_none];omega) (by simp only [Option.getD_some,Option.getD_none];omega) (by simp) (pieceV_drop (l:=ZL) (k:=1)) rfl ?_;refine X_fn rfl rfl F.ok95 rfl (radopt_ok _ ⟨⟨⟨wa,wi⟩,⟨wq,wj⟩,⟨w1a,w1c,w1l⟩,⟨w2a,w2c,w2l⟩⟩,Zr,Zs,ZH,Zv,ZT,ZC,ZA,Zw,Zq,Zy,Zp,Zz,⟨Zu,Zt,Zl⟩,ZG,ZJ⟩ ZL[0] ⟨_,_,ZL.drop 1⟩ ⟨okl,(hn0.h1.mono hm1).mono hm2⟩ (((Xb.mono hm1).mono hm2).drop 1 (by omega))) rfl ?_
      rintro _ M3 hm3 ⟨⟨⟨⟨Yw,YJ⟩,⟨YC,YL⟩,⟨YP,YO,YN⟩,⟨YF,YE,YD⟩⟩,Xz,XF,Wg,XB,WB,XM,XA,Xw,Xo,Xx,Xp,Xy,⟨Xu,Xt,Xs⟩,Wf,We⟩,rfl,hv1,okv⟩
      refine Xg F.lay32 ?_;refine Zo (Zn (Y_pk [4,2] ?_));refine ZK (Zm (l:=[0,1]) rfl ?_);refine ZD F.lay32 ?_;refine Xg F.lay32 ?_;refine Zo (Zn (Y_pk [4] ?_));refine Yo ?_
      refine Yk (.inr rfl) (.cell rfl (by repeat first|exact List.Mem.head _|refine List.Mem.tail _ ?_|refine List.mem_append_right _ ?_) F.lay32 rfl rfl .nil) (fun w hw=>?_)
      have h2:ZR.nd ⟨⟨⟨wa,wi⟩,⟨wq,wj⟩,⟨w1a,w1c,w1l⟩,⟨w2a,w2c,w2l⟩⟩,Zr,Zs,ZH,Zv,ZT,ZC,ZA,Zw,Zq,Zy,Zp,Zz,⟨Zu,Zt,Zl⟩,ZG,ZJ⟩={ ZR.nd ⟨⟨⟨Za,Zb⟩,⟨Zf,Zh⟩,⟨Zj,Zi,Zg⟩,⟨Ze,Zd,Zc⟩⟩,Zr,Zs,ZH,Zv,ZT,ZC,ZA,Zw,Zq,Zy,Zp,Zz,⟨Zu,Zt,Zl⟩,ZG,ZJ⟩ with table:=byeT (ZR.nd ⟨⟨⟨Za,Zb⟩,⟨Zf,Zh⟩,⟨Zj,Zi,Zg⟩,⟨Ze,Zd,Zc⟩⟩,Zr,Zs,ZH,Zv,ZT,ZC,ZA,Zw,Zq,Zy,Zp,Zz,⟨Zu,Zt,Zl⟩,ZG,ZJ⟩) (ZP.lt ⟨Yb,⟨ZM,Ye⟩,YB,l_id,⟨ZY,ZX,ZN⟩,Ys,⟨ZI,ZS⟩,⟨ZZ,ZV,ZL⟩⟩) }:=by
       unfold byeT
       rw [if_pos (show (ZR.nd ⟨⟨⟨Za,Zb⟩,⟨Zf,Zh⟩,⟨Zj,Zi,Zg⟩,⟨Ze,Zd,Zc⟩⟩,Zr,Zs,ZH,Zv,ZT,ZC,ZA,Zw,Zq,Zy,Zp,Zz,⟨Zu,Zt,Zl⟩,ZG,ZJ⟩).table.pred.addr=(ZP.lt ⟨Yb,⟨ZM,Ye⟩,YB,l_id,⟨ZY,ZX,ZN⟩,Ys,⟨ZI,ZS⟩,⟨ZZ,ZV,ZL⟩⟩).frm.addr from (show Zf=ZM by assumption)),show Wm (ZR.nd ⟨⟨⟨Za,Zb⟩,⟨Zf,Zh⟩,⟨Zj,Zi,Zg⟩,⟨Ze,Zd,Zc⟩⟩,Zr,Zs,ZH,Zv,ZT,ZC,ZA,Zw,Zq,Zy,Zp,Zz,⟨Zu,Zt,Zl⟩,ZG,ZJ⟩).table (ZP.lt ⟨Yb,⟨ZM,Ye⟩,YB,l_id,⟨ZY,ZX,ZN⟩,Ys,⟨ZI,ZS⟩,⟨ZZ,ZV,ZL⟩⟩).frm.addr=_ from hot.symm,show Vs (ZQ.tb ⟨⟨oa,oi⟩,⟨oq,oj⟩,⟨o1a,o1c,o1l⟩,⟨o2a,o2c,o2l⟩⟩) (ZP.lt ⟨Yb,⟨ZM,Ye⟩,YB,l_id,⟨ZY,ZX,ZN⟩,Ys,⟨ZI,ZS⟩,⟨ZZ,ZV,ZL⟩⟩).peer=_ from hol.symm];rfl
      have h3:=bye_yes h2 (show (Wi (ZQ.tb ⟨⟨Za,Zb⟩,⟨Zf,Zh⟩,⟨Zj,Zi,Zg⟩,⟨Ze,Zd,Zc⟩⟩)).addr=ZM by rw [hfi];assumption) (show 0<ZL.length by omega)
      exact ⟨_,M3,rfl,(hm1.trans hm2).trans hm3,hw.c,⟨⟨⟨Yw,YJ⟩,⟨YC,YL⟩,⟨YP,YO,YN⟩,⟨YF,YE,YD⟩⟩,Xz,XF,Wg,XB,WB,XM,XA,Xw,Xo,Xx,Xp,Xy,⟨Xu,Xt,Xs⟩,Wf,We⟩,rfl,hv1.trans h3.symm,okv⟩
     ·replace hc7:=dF hc7
      simp only [ZF.eta,ZQ.eta,ZR.eta,ZP.eta,Yr.eta,ZW.eta,YQ.eta,Yc.eta] at hc7
      refine YG (Zn (Y_pk [4,2] ?_));refine ZK (Zm (l:=[0,1]) rfl ?_);refine ZD F.lay32 ?_;refine Xg F.lay32 ?_;refine Zo (Zn (Y_pk [4] ?_));refine Yo ?_
      refine Yk (.inr rfl) (.cell rfl (by repeat first|exact List.Mem.head _|refine List.Mem.tail _ ?_|refine List.mem_append_right _ ?_) F.lay32 rfl rfl .nil) (fun w hw=>?_)
      have h2:ZR.nd ⟨⟨⟨wa,wi⟩,⟨wq,wj⟩,⟨w1a,w1c,w1l⟩,⟨w2a,w2c,w2l⟩⟩,Zr,Zs,ZH,Zv,ZT,ZC,ZA,Zw,Zq,Zy,Zp,Zz,⟨Zu,Zt,Zl⟩,ZG,ZJ⟩={ ZR.nd ⟨⟨⟨Za,Zb⟩,⟨Zf,Zh⟩,⟨Zj,Zi,Zg⟩,⟨Ze,Zd,Zc⟩⟩,Zr,Zs,ZH,Zv,ZT,ZC,ZA,Zw,Zq,Zy,Zp,Zz,⟨Zu,Zt,Zl⟩,ZG,ZJ⟩ with table:=byeT (ZR.nd ⟨⟨⟨Za,Zb⟩,⟨Zf,Zh⟩,⟨Zj,Zi,Zg⟩,⟨Ze,Zd,Zc⟩⟩,Zr,Zs,ZH,Zv,ZT,ZC,ZA,Zw,Zq,Zy,Zp,Zz,⟨Zu,Zt,Zl⟩,ZG,ZJ⟩) (ZP.lt ⟨Yb,⟨ZM,Ye⟩,YB,l_id,⟨ZY,ZX,ZN⟩,Ys,⟨ZI,ZS⟩,⟨ZZ,ZV,ZL⟩⟩) }:=by
       unfold byeT
       rw [if_pos (show (ZR.nd ⟨⟨⟨Za,Zb⟩,⟨Zf,Zh⟩,⟨Zj,Zi,Zg⟩,⟨Ze,Zd,Zc⟩⟩,Zr,Zs,ZH,Zv,ZT,ZC,ZA,Zw,Zq,Zy,Zp,Zz,⟨Zu,Zt,Zl⟩,ZG,ZJ⟩).table.pred.addr=(ZP.lt ⟨Yb,⟨ZM,Ye⟩,YB,l_id,⟨ZY,ZX,ZN⟩,Ys,⟨ZI,ZS⟩,⟨ZZ,ZV,ZL⟩⟩).frm.addr from (show Zf=ZM by assumption)),show Wm (ZR.nd ⟨⟨⟨Za,Zb⟩,⟨Zf,Zh⟩,⟨Zj,Zi,Zg⟩,⟨Ze,Zd,Zc⟩⟩,Zr,Zs,ZH,Zv,ZT,ZC,ZA,Zw,Zq,Zy,Zp,Zz,⟨Zu,Zt,Zl⟩,ZG,ZJ⟩).table (ZP.lt ⟨Yb,⟨ZM,Ye⟩,YB,l_id,⟨ZY,ZX,ZN⟩,Ys,⟨ZI,ZS⟩,⟨ZZ,ZV,ZL⟩⟩).frm.addr=_ from hot.symm,show Vs (ZQ.tb ⟨⟨oa,oi⟩,⟨oq,oj⟩,⟨o1a,o1c,o1l⟩,⟨o2a,o2c,o2l⟩⟩) (ZP.lt ⟨Yb,⟨ZM,Ye⟩,YB,l_id,⟨ZY,ZX,ZN⟩,Ys,⟨ZI,ZS⟩,⟨ZZ,ZV,ZL⟩⟩).peer=_ from hol.symm];rfl
      have h3:=bye_no h2 (fun q1 q2=>(by
       replace q1:(Wi (ZQ.tb ⟨⟨Za,Zb⟩,⟨Zf,Zh⟩,⟨Zj,Zi,Zg⟩,⟨Ze,Zd,Zc⟩⟩)).addr=ZM:=q1
       replace q2:0<ZL.length:=q2
       rw [hfi] at q1
       assumption))
      exact ⟨_,M2,rfl,(hm1.trans hm2),hw.c,⟨⟨⟨wa,wi⟩,⟨wq,wj⟩,⟨w1a,w1c,w1l⟩,⟨w2a,w2c,w2l⟩⟩,Zr,Zs,ZH,Zv,ZT,ZC,ZA,Zw,Zq,Zy,Zp,Zz,⟨Zu,Zt,Zl⟩,ZG,ZJ⟩,rfl,h3.symm,⟨okl,(hn0.h1.mono hm1).mono hm2⟩⟩
    ·replace hc6:=dF hc6
     iterate 7 refine Ya ?_
     refine ZO ?_;refine Zo (Zn (Y_pk [52,4,3,2] ?_));refine Wn rfl ?_;refine YG (Zn (Y_pk [4,2] ?_));refine ZK (Zm (l:=[0,1]) rfl ?_);refine ZD F.lay32 ?_;refine Xg F.lay32 ?_;refine Zo (Zn (Y_pk [4] ?_));refine Yo ?_
     refine Yk (.inr rfl) (.cell rfl (by repeat first|exact List.Mem.head _|refine List.Mem.tail _ ?_|refine List.mem_append_right _ ?_) F.lay32 rfl rfl .nil) (fun w hw=>?_)
     have h2:ZR.nd ⟨⟨⟨wa,wi⟩,⟨wq,wj⟩,⟨w1a,w1c,w1l⟩,⟨w2a,w2c,w2l⟩⟩,Zr,Zs,ZH,Zv,ZT,ZC,ZA,Zw,Zq,Zy,Zp,Zz,⟨Zu,Zt,Zl⟩,ZG,ZJ⟩={ ZR.nd ⟨⟨⟨Za,Zb⟩,⟨Zf,Zh⟩,⟨Zj,Zi,Zg⟩,⟨Ze,Zd,Zc⟩⟩,Zr,Zs,ZH,Zv,ZT,ZC,ZA,Zw,Zq,Zy,Zp,Zz,⟨Zu,Zt,Zl⟩,ZG,ZJ⟩ with table:=byeT (ZR.nd ⟨⟨⟨Za,Zb⟩,⟨Zf,Zh⟩,⟨Zj,Zi,Zg⟩,⟨Ze,Zd,Zc⟩⟩,Zr,Zs,ZH,Zv,ZT,ZC,ZA,Zw,Zq,Zy,Zp,Zz,⟨Zu,Zt,Zl⟩,ZG,ZJ⟩) (ZP.lt ⟨Yb,⟨ZM,Ye⟩,YB,l_id,⟨ZY,ZX,ZN⟩,Ys,⟨ZI,ZS⟩,⟨ZZ,ZV,ZL⟩⟩) }:=by
      unfold byeT
      rw [if_pos (show (ZR.nd ⟨⟨⟨Za,Zb⟩,⟨Zf,Zh⟩,⟨Zj,Zi,Zg⟩,⟨Ze,Zd,Zc⟩⟩,Zr,Zs,ZH,Zv,ZT,ZC,ZA,Zw,Zq,Zy,Zp,Zz,⟨Zu,Zt,Zl⟩,ZG,ZJ⟩).table.pred.addr=(ZP.lt ⟨Yb,⟨ZM,Ye⟩,YB,l_id,⟨ZY,ZX,ZN⟩,Ys,⟨ZI,ZS⟩,⟨ZZ,ZV,ZL⟩⟩).frm.addr from (show Zf=ZM by assumption)),show Wm (ZR.nd ⟨⟨⟨Za,Zb⟩,⟨Zf,Zh⟩,⟨Zj,Zi,Zg⟩,⟨Ze,Zd,Zc⟩⟩,Zr,Zs,ZH,Zv,ZT,ZC,ZA,Zw,Zq,Zy,Zp,Zz,⟨Zu,Zt,Zl⟩,ZG,ZJ⟩).table (ZP.lt ⟨Yb,⟨ZM,Ye⟩,YB,l_id,⟨ZY,ZX,ZN⟩,Ys,⟨ZI,ZS⟩,⟨ZZ,ZV,ZL⟩⟩).frm.addr=_ from hot.symm,show Vs (ZQ.tb ⟨⟨oa,oi⟩,⟨oq,oj⟩,⟨o1a,o1c,o1l⟩,⟨o2a,o2c,o2l⟩⟩) (ZP.lt ⟨Yb,⟨ZM,Ye⟩,YB,l_id,⟨ZY,ZX,ZN⟩,Ys,⟨ZI,ZS⟩,⟨ZZ,ZV,ZL⟩⟩).peer=_ from hol.symm];rfl
     have h3:=bye_no h2 (fun q1 q2=>(by
      replace q1:(Wi (ZQ.tb ⟨⟨Za,Zb⟩,⟨Zf,Zh⟩,⟨Zj,Zi,Zg⟩,⟨Ze,Zd,Zc⟩⟩)).addr=ZM:=q1
      replace q2:0<ZL.length:=q2
      rw [hfi] at q1
      (exfalso;omega)))
     exact ⟨_,M2,rfl,(hm1.trans hm2),hw.c,⟨⟨⟨wa,wi⟩,⟨wq,wj⟩,⟨w1a,w1c,w1l⟩,⟨w2a,w2c,w2l⟩⟩,Zr,Zs,ZH,Zv,ZT,ZC,ZA,Zw,Zq,Zy,Zp,Zz,⟨Zu,Zt,Zl⟩,ZG,ZJ⟩,rfl,h3.symm,⟨okl,(hn0.h1.mono hm1).mono hm2⟩⟩
   ·replace hc5:=dF hc5
    iterate 4 refine Ya ?_
    refine ZO ?_;refine Zx ?_
    iterate 7 refine Ya ?_
    refine ZO ?_;refine Zo (Zn (Y_pk [52,4,3,2] ?_));refine Wn rfl ?_;refine YG (Zn (Y_pk [4,2] ?_));refine ZK (Zm (l:=[0,1]) rfl ?_);refine ZD F.lay32 ?_;refine Xg F.lay32 ?_;refine Zo (Zn (Y_pk [4] ?_));refine Yo ?_
    refine Yk (.inr rfl) (.cell rfl (by repeat first|exact List.Mem.head _|refine List.Mem.tail _ ?_|refine List.mem_append_right _ ?_) F.lay32 rfl rfl .nil) (fun w hw=>?_)
    have h2:ZR.nd ⟨⟨⟨wa,wi⟩,⟨wq,wj⟩,⟨w1a,w1c,w1l⟩,⟨w2a,w2c,w2l⟩⟩,Zr,Zs,ZH,Zv,ZT,ZC,ZA,Zw,Zq,Zy,Zp,Zz,⟨Zu,Zt,Zl⟩,ZG,ZJ⟩={ ZR.nd ⟨⟨⟨Za,Zb⟩,⟨Zf,Zh⟩,⟨Zj,Zi,Zg⟩,⟨Ze,Zd,Zc⟩⟩,Zr,Zs,ZH,Zv,ZT,ZC,ZA,Zw,Zq,Zy,Zp,Zz,⟨Zu,Zt,Zl⟩,ZG,ZJ⟩ with table:=byeT (ZR.nd ⟨⟨⟨Za,Zb⟩,⟨Zf,Zh⟩,⟨Zj,Zi,Zg⟩,⟨Ze,Zd,Zc⟩⟩,Zr,Zs,ZH,Zv,ZT,ZC,ZA,Zw,Zq,Zy,Zp,Zz,⟨Zu,Zt,Zl⟩,ZG,ZJ⟩) (ZP.lt ⟨Yb,⟨ZM,Ye⟩,YB,l_id,⟨ZY,ZX,ZN⟩,Ys,⟨ZI,ZS⟩,⟨ZZ,ZV,ZL⟩⟩) }:=by
     unfold byeT
     rw [if_pos (show (ZR.nd ⟨⟨⟨Za,Zb⟩,⟨Zf,Zh⟩,⟨Zj,Zi,Zg⟩,⟨Ze,Zd,Zc⟩⟩,Zr,Zs,ZH,Zv,ZT,ZC,ZA,Zw,Zq,Zy,Zp,Zz,⟨Zu,Zt,Zl⟩,ZG,ZJ⟩).table.pred.addr=(ZP.lt ⟨Yb,⟨ZM,Ye⟩,YB,l_id,⟨ZY,ZX,ZN⟩,Ys,⟨ZI,ZS⟩,⟨ZZ,ZV,ZL⟩⟩).frm.addr from (show Zf=ZM by assumption)),show Wm (ZR.nd ⟨⟨⟨Za,Zb⟩,⟨Zf,Zh⟩,⟨Zj,Zi,Zg⟩,⟨Ze,Zd,Zc⟩⟩,Zr,Zs,ZH,Zv,ZT,ZC,ZA,Zw,Zq,Zy,Zp,Zz,⟨Zu,Zt,Zl⟩,ZG,ZJ⟩).table (ZP.lt ⟨Yb,⟨ZM,Ye⟩,YB,l_id,⟨ZY,ZX,ZN⟩,Ys,⟨ZI,ZS⟩,⟨ZZ,ZV,ZL⟩⟩).frm.addr=_ from hot.symm,show Vs (ZQ.tb ⟨⟨oa,oi⟩,⟨oq,oj⟩,⟨o1a,o1c,o1l⟩,⟨o2a,o2c,o2l⟩⟩) (ZP.lt ⟨Yb,⟨ZM,Ye⟩,YB,l_id,⟨ZY,ZX,ZN⟩,Ys,⟨ZI,ZS⟩,⟨ZZ,ZV,ZL⟩⟩).peer=_ from hol.symm];rfl
    have h3:=bye_no h2 (fun q1 q2=>(by
     replace q1:(Wi (ZQ.tb ⟨⟨Za,Zb⟩,⟨Zf,Zh⟩,⟨Zj,Zi,Zg⟩,⟨Ze,Zd,Zc⟩⟩)).addr=ZM:=q1
     replace q2:0<ZL.length:=q2
     rw [hfi] at q1
     contradiction))
    exact ⟨_,M2,rfl,(hm1.trans hm2),hw.c,⟨⟨⟨wa,wi⟩,⟨wq,wj⟩,⟨w1a,w1c,w1l⟩,⟨w2a,w2c,w2l⟩⟩,Zr,Zs,ZH,Zv,ZT,ZC,ZA,Zw,Zq,Zy,Zp,Zz,⟨Zu,Zt,Zl⟩,ZG,ZJ⟩,rfl,h3.symm,⟨okl,(hn0.h1.mono hm1).mono hm2⟩⟩
  ·replace hc4:=dF hc4
   refine YG (Zn (Y_pk [6,4,3,2] ?_))
   iterate 2 refine ZK ?_
   have s_lp9:=XT.mono hm1
   refine YK (l:=[0,1,2,3,4,5,6,7,8,9,10,11,12,13,14,15]) #[0,1,3,7,15,31,63,127,255,511,255,1279,3327,7423,16383,32767] _ rfl (by kernel_rfl) (by kernel_rfl) St.drawn (fun _ h=>h) ?_
   iterate 2 refine Zx ?_
   refine Yj 38 rfl (fun hc8=>?_) (fun hc8=>?_)
   ·replace hc8:=dT hc8
    refine Zk F.foff44_7 ?_;refine ZD F.lay26 ?_;refine YY F.elem26 ?_;refine YI ?_;refine ZO ?_;refine Zx ?_
    refine Yj 44 rfl (fun hc9=>?_) (fun hc9=>?_)
    ·replace hc9:=dT hc9
     refine Zk F.foff32_0 ?_;refine ZD F.lay28 ?_;refine Zk F.foff44_7 ?_;refine ZD F.lay26 ?_;refine YR rfl rfl rfl rfl F.elem26 (by rfl) (by (simp;omega)) (by exact SlM.plain (by assumption) (by (simp;omega))) rfl ?_;refine Xm rfl rfl rfl (by assumption) (by exact XP (by (simp;omega))) F.lay25 rfl rfl rfl ?_;refine X_fs rfl rfl F.ok55 rfl (VI _ ⟨⟨oa,oi⟩,⟨oq,oj⟩,⟨o1a,o1c,o1l⟩,⟨o2a,o2c,o2l⟩⟩ ZL[0]) rfl ?_
     rintro _ rfl
     refine ZO ?_;refine Zo (Zn (Y_pk [52,4,3,2] ?_))
     refine YA rfl (fun hc10=>?_) (fun hc10=>?_)
     ·replace hc10:=dT hc10
      simp only [ZF.eta,ZQ.eta,ZR.eta,ZP.eta,Yr.eta,ZW.eta,YQ.eta,Yc.eta] at hc10
      refine YK (l:=[0,1,2,3,4,5,6,7,8,9]) #[0,0,2,6,14,0,32,96,255,511] _ rfl (by kernel_rfl) (by kernel_rfl) St.drawn (fun _ h=>h) ?_;refine ZD F.lay32 ?_;refine Zk F.foff44_7 ?_;refine ZD F.lay26 ?_;refine YR rfl rfl rfl rfl F.elem26 (by rfl) (by (simp;omega)) (by exact SlM.plain (by assumption) (by (simp;omega))) rfl ?_;refine Xm rfl rfl rfl (by assumption) (by exact XP (by (simp;omega))) F.lay25 rfl rfl rfl ?_;refine Zk F.foff44_7 ?_;refine ZD F.lay26 ?_;refine WY rfl rfl rfl (.some (k:=1) rfl rfl) .none .none F.elem26 (by simp only [Option.getD_none];omega) (by simp only [Option.getD_some,Option.getD_none];omega) (by simp only [Option.getD_some,Option.getD_none];omega) (by simp) (pieceV_drop (l:=ZL) (k:=1)) rfl ?_;refine X_fn rfl rfl F.ok95 rfl (radopt_ok _ ⟨⟨⟨oa,oi⟩,⟨oq,oj⟩,⟨o1a,o1c,o1l⟩,⟨o2a,o2c,o2l⟩⟩,Zr,Zs,ZH,Zv,ZT,ZC,ZA,Zw,Zq,Zy,Zp,Zz,⟨Zu,Zt,Zl⟩,ZG,ZJ⟩ ZL[0] ⟨_,_,ZL.drop 1⟩ ⟨okt,hn0.h1.mono hm1⟩ ((Xb.mono hm1).drop 1 (by omega))) rfl ?_
      rintro _ M3 hm3 ⟨⟨⟨⟨Yw,YJ⟩,⟨YC,YL⟩,⟨YP,YO,YN⟩,⟨YF,YE,YD⟩⟩,Xz,XF,Wg,XB,WB,XM,XA,Xw,Xo,Xx,Xp,Xy,⟨Xu,Xt,Xs⟩,Wf,We⟩,rfl,hv1,okv⟩
      refine Xg F.lay32 ?_;refine Zo (Zn (Y_pk [4,2] ?_));refine ZK (Zm (l:=[0,1]) rfl ?_);refine ZD F.lay32 ?_;refine Xg F.lay32 ?_;refine Zo (Zn (Y_pk [4] ?_));refine Yo ?_
      refine Yk (.inr rfl) (.cell rfl (by repeat first|exact List.Mem.head _|refine List.Mem.tail _ ?_|refine List.mem_append_right _ ?_) F.lay32 rfl rfl .nil) (fun w hw=>?_)
      have h2:ZR.nd ⟨⟨⟨oa,oi⟩,⟨oq,oj⟩,⟨o1a,o1c,o1l⟩,⟨o2a,o2c,o2l⟩⟩,Zr,Zs,ZH,Zv,ZT,ZC,ZA,Zw,Zq,Zy,Zp,Zz,⟨Zu,Zt,Zl⟩,ZG,ZJ⟩={ ZR.nd ⟨⟨⟨Za,Zb⟩,⟨Zf,Zh⟩,⟨Zj,Zi,Zg⟩,⟨Ze,Zd,Zc⟩⟩,Zr,Zs,ZH,Zv,ZT,ZC,ZA,Zw,Zq,Zy,Zp,Zz,⟨Zu,Zt,Zl⟩,ZG,ZJ⟩ with table:=byeT (ZR.nd ⟨⟨⟨Za,Zb⟩,⟨Zf,Zh⟩,⟨Zj,Zi,Zg⟩,⟨Ze,Zd,Zc⟩⟩,Zr,Zs,ZH,Zv,ZT,ZC,ZA,Zw,Zq,Zy,Zp,Zz,⟨Zu,Zt,Zl⟩,ZG,ZJ⟩) (ZP.lt ⟨Yb,⟨ZM,Ye⟩,YB,l_id,⟨ZY,ZX,ZN⟩,Ys,⟨ZI,ZS⟩,⟨ZZ,ZV,ZL⟩⟩) }:=by
       unfold byeT
       rw [if_neg (show ¬(ZR.nd ⟨⟨⟨Za,Zb⟩,⟨Zf,Zh⟩,⟨Zj,Zi,Zg⟩,⟨Ze,Zd,Zc⟩⟩,Zr,Zs,ZH,Zv,ZT,ZC,ZA,Zw,Zq,Zy,Zp,Zz,⟨Zu,Zt,Zl⟩,ZG,ZJ⟩).table.pred.addr=(ZP.lt ⟨Yb,⟨ZM,Ye⟩,YB,l_id,⟨ZY,ZX,ZN⟩,Ys,⟨ZI,ZS⟩,⟨ZZ,ZV,ZL⟩⟩).frm.addr from (show ¬Zf=ZM by assumption)),show Wm (ZR.nd ⟨⟨⟨Za,Zb⟩,⟨Zf,Zh⟩,⟨Zj,Zi,Zg⟩,⟨Ze,Zd,Zc⟩⟩,Zr,Zs,ZH,Zv,ZT,ZC,ZA,Zw,Zq,Zy,Zp,Zz,⟨Zu,Zt,Zl⟩,ZG,ZJ⟩).table (ZP.lt ⟨Yb,⟨ZM,Ye⟩,YB,l_id,⟨ZY,ZX,ZN⟩,Ys,⟨ZI,ZS⟩,⟨ZZ,ZV,ZL⟩⟩).frm.addr=_ from hot.symm];rfl
      have h3:=bye_yes h2 (show (Wi (ZQ.tb ⟨⟨Za,Zb⟩,⟨Zf,Zh⟩,⟨Zj,Zi,Zg⟩,⟨Ze,Zd,Zc⟩⟩)).addr=ZM by rw [hfi];assumption) (show 0<ZL.length by omega)
      exact ⟨_,M3,rfl,hm1.trans hm3,hw.c,⟨⟨⟨Yw,YJ⟩,⟨YC,YL⟩,⟨YP,YO,YN⟩,⟨YF,YE,YD⟩⟩,Xz,XF,Wg,XB,WB,XM,XA,Xw,Xo,Xx,Xp,Xy,⟨Xu,Xt,Xs⟩,Wf,We⟩,rfl,hv1.trans h3.symm,okv⟩
     ·replace hc10:=dF hc10
      simp only [ZF.eta,ZQ.eta,ZR.eta,ZP.eta,Yr.eta,ZW.eta,YQ.eta,Yc.eta] at hc10
      refine YG (Zn (Y_pk [4,2] ?_));refine ZK (Zm (l:=[0,1]) rfl ?_);refine ZD F.lay32 ?_;refine Xg F.lay32 ?_;refine Zo (Zn (Y_pk [4] ?_));refine Yo ?_
      refine Yk (.inr rfl) (.cell rfl (by repeat first|exact List.Mem.head _|refine List.Mem.tail _ ?_|refine List.mem_append_right _ ?_) F.lay32 rfl rfl .nil) (fun w hw=>?_)
      have h2:ZR.nd ⟨⟨⟨oa,oi⟩,⟨oq,oj⟩,⟨o1a,o1c,o1l⟩,⟨o2a,o2c,o2l⟩⟩,Zr,Zs,ZH,Zv,ZT,ZC,ZA,Zw,Zq,Zy,Zp,Zz,⟨Zu,Zt,Zl⟩,ZG,ZJ⟩={ ZR.nd ⟨⟨⟨Za,Zb⟩,⟨Zf,Zh⟩,⟨Zj,Zi,Zg⟩,⟨Ze,Zd,Zc⟩⟩,Zr,Zs,ZH,Zv,ZT,ZC,ZA,Zw,Zq,Zy,Zp,Zz,⟨Zu,Zt,Zl⟩,ZG,ZJ⟩ with table:=byeT (ZR.nd ⟨⟨⟨Za,Zb⟩,⟨Zf,Zh⟩,⟨Zj,Zi,Zg⟩,⟨Ze,Zd,Zc⟩⟩,Zr,Zs,ZH,Zv,ZT,ZC,ZA,Zw,Zq,Zy,Zp,Zz,⟨Zu,Zt,Zl⟩,ZG,ZJ⟩) (ZP.lt ⟨Yb,⟨ZM,Ye⟩,YB,l_id,⟨ZY,ZX,ZN⟩,Ys,⟨ZI,ZS⟩,⟨ZZ,ZV,ZL⟩⟩) }:=by
       unfold byeT
       rw [if_neg (show ¬(ZR.nd ⟨⟨⟨Za,Zb⟩,⟨Zf,Zh⟩,⟨Zj,Zi,Zg⟩,⟨Ze,Zd,Zc⟩⟩,Zr,Zs,ZH,Zv,ZT,ZC,ZA,Zw,Zq,Zy,Zp,Zz,⟨Zu,Zt,Zl⟩,ZG,ZJ⟩).table.pred.addr=(ZP.lt ⟨Yb,⟨ZM,Ye⟩,YB,l_id,⟨ZY,ZX,ZN⟩,Ys,⟨ZI,ZS⟩,⟨ZZ,ZV,ZL⟩⟩).frm.addr from (show ¬Zf=ZM by assumption)),show Wm (ZR.nd ⟨⟨⟨Za,Zb⟩,⟨Zf,Zh⟩,⟨Zj,Zi,Zg⟩,⟨Ze,Zd,Zc⟩⟩,Zr,Zs,ZH,Zv,ZT,ZC,ZA,Zw,Zq,Zy,Zp,Zz,⟨Zu,Zt,Zl⟩,ZG,ZJ⟩).table (ZP.lt ⟨Yb,⟨ZM,Ye⟩,YB,l_id,⟨ZY,ZX,ZN⟩,Ys,⟨ZI,ZS⟩,⟨ZZ,ZV,ZL⟩⟩).frm.addr=_ from hot.symm];rfl
      have h3:=bye_no h2 (fun q1 q2=>(by
       replace q1:(Wi (ZQ.tb ⟨⟨Za,Zb⟩,⟨Zf,Zh⟩,⟨Zj,Zi,Zg⟩,⟨Ze,Zd,Zc⟩⟩)).addr=ZM:=q1
       replace q2:0<ZL.length:=q2
       rw [hfi] at q1
       assumption))
      exact ⟨_,M1,rfl,hm1,hw.c,⟨⟨⟨oa,oi⟩,⟨oq,oj⟩,⟨o1a,o1c,o1l⟩,⟨o2a,o2c,o2l⟩⟩,Zr,Zs,ZH,Zv,ZT,ZC,ZA,Zw,Zq,Zy,Zp,Zz,⟨Zu,Zt,Zl⟩,ZG,ZJ⟩,rfl,h3.symm,⟨okt,hn0.h1.mono hm1⟩⟩
    ·replace hc9:=dF hc9
     iterate 7 refine Ya ?_
     refine ZO ?_;refine Zo (Zn (Y_pk [52,4,3,2] ?_));refine Wn rfl ?_;refine YG (Zn (Y_pk [4,2] ?_));refine ZK (Zm (l:=[0,1]) rfl ?_);refine ZD F.lay32 ?_;refine Xg F.lay32 ?_;refine Zo (Zn (Y_pk [4] ?_));refine Yo ?_
     refine Yk (.inr rfl) (.cell rfl (by repeat first|exact List.Mem.head _|refine List.Mem.tail _ ?_|refine List.mem_append_right _ ?_) F.lay32 rfl rfl .nil) (fun w hw=>?_)
     have h2:ZR.nd ⟨⟨⟨oa,oi⟩,⟨oq,oj⟩,⟨o1a,o1c,o1l⟩,⟨o2a,o2c,o2l⟩⟩,Zr,Zs,ZH,Zv,ZT,ZC,ZA,Zw,Zq,Zy,Zp,Zz,⟨Zu,Zt,Zl⟩,ZG,ZJ⟩={ ZR.nd ⟨⟨⟨Za,Zb⟩,⟨Zf,Zh⟩,⟨Zj,Zi,Zg⟩,⟨Ze,Zd,Zc⟩⟩,Zr,Zs,ZH,Zv,ZT,ZC,ZA,Zw,Zq,Zy,Zp,Zz,⟨Zu,Zt,Zl⟩,ZG,ZJ⟩ with table:=byeT (ZR.nd ⟨⟨⟨Za,Zb⟩,⟨Zf,Zh⟩,⟨Zj,Zi,Zg⟩,⟨Ze,Zd,Zc⟩⟩,Zr,Zs,ZH,Zv,ZT,ZC,ZA,Zw,Zq,Zy,Zp,Zz,⟨Zu,Zt,Zl⟩,ZG,ZJ⟩) (ZP.lt ⟨Yb,⟨ZM,Ye⟩,YB,l_id,⟨ZY,ZX,ZN⟩,Ys,⟨ZI,ZS⟩,⟨ZZ,ZV,ZL⟩⟩) }:=by
      unfold byeT
      rw [if_neg (show ¬(ZR.nd ⟨⟨⟨Za,Zb⟩,⟨Zf,Zh⟩,⟨Zj,Zi,Zg⟩,⟨Ze,Zd,Zc⟩⟩,Zr,Zs,ZH,Zv,ZT,ZC,ZA,Zw,Zq,Zy,Zp,Zz,⟨Zu,Zt,Zl⟩,ZG,ZJ⟩).table.pred.addr=(ZP.lt ⟨Yb,⟨ZM,Ye⟩,YB,l_id,⟨ZY,ZX,ZN⟩,Ys,⟨ZI,ZS⟩,⟨ZZ,ZV,ZL⟩⟩).frm.addr from (show ¬Zf=ZM by assumption)),show Wm (ZR.nd ⟨⟨⟨Za,Zb⟩,⟨Zf,Zh⟩,⟨Zj,Zi,Zg⟩,⟨Ze,Zd,Zc⟩⟩,Zr,Zs,ZH,Zv,ZT,ZC,ZA,Zw,Zq,Zy,Zp,Zz,⟨Zu,Zt,Zl⟩,ZG,ZJ⟩).table (ZP.lt ⟨Yb,⟨ZM,Ye⟩,YB,l_id,⟨ZY,ZX,ZN⟩,Ys,⟨ZI,ZS⟩,⟨ZZ,ZV,ZL⟩⟩).frm.addr=_ from hot.symm];rfl
     have h3:=bye_no h2 (fun q1 q2=>(by
      replace q1:(Wi (ZQ.tb ⟨⟨Za,Zb⟩,⟨Zf,Zh⟩,⟨Zj,Zi,Zg⟩,⟨Ze,Zd,Zc⟩⟩)).addr=ZM:=q1
      replace q2:0<ZL.length:=q2
      rw [hfi] at q1
      (exfalso;omega)))
     exact ⟨_,M1,rfl,hm1,hw.c,⟨⟨⟨oa,oi⟩,⟨oq,oj⟩,⟨o1a,o1c,o1l⟩,⟨o2a,o2c,o2l⟩⟩,Zr,Zs,ZH,Zv,ZT,ZC,ZA,Zw,Zq,Zy,Zp,Zz,⟨Zu,Zt,Zl⟩,ZG,ZJ⟩,rfl,h3.symm,⟨okt,hn0.h1.mono hm1⟩⟩
   ·replace hc8:=dF hc8
    iterate 4 refine Ya ?_
    refine ZO ?_;refine Zx ?_
    iterate 7 refine Ya ?_
    refine ZO ?_;refine Zo (Zn (Y_pk [52,4,3,2] ?_));refine Wn rfl ?_;refine YG (Zn (Y_pk [4,2] ?_));refine ZK (Zm (l:=[0,1]) rfl ?_);refine ZD F.lay32 ?_;refine Xg F.lay32 ?_;refine Zo (Zn (Y_pk [4] ?_));refine Yo ?_
    refine Yk (.inr rfl) (.cell rfl (by repeat first|exact List.Mem.head _|refine List.Mem.tail _ ?_|refine List.mem_append_right _ ?_) F.lay32 rfl rfl .nil) (fun w hw=>?_)
    have h2:ZR.nd ⟨⟨⟨oa,oi⟩,⟨oq,oj⟩,⟨o1a,o1c,o1l⟩,⟨o2a,o2c,o2l⟩⟩,Zr,Zs,ZH,Zv,ZT,ZC,ZA,Zw,Zq,Zy,Zp,Zz,⟨Zu,Zt,Zl⟩,ZG,ZJ⟩={ ZR.nd ⟨⟨⟨Za,Zb⟩,⟨Zf,Zh⟩,⟨Zj,Zi,Zg⟩,⟨Ze,Zd,Zc⟩⟩,Zr,Zs,ZH,Zv,ZT,ZC,ZA,Zw,Zq,Zy,Zp,Zz,⟨Zu,Zt,Zl⟩,ZG,ZJ⟩ with table:=byeT (ZR.nd ⟨⟨⟨Za,Zb⟩,⟨Zf,Zh⟩,⟨Zj,Zi,Zg⟩,⟨Ze,Zd,Zc⟩⟩,Zr,Zs,ZH,Zv,ZT,ZC,ZA,Zw,Zq,Zy,Zp,Zz,⟨Zu,Zt,Zl⟩,ZG,ZJ⟩) (ZP.lt ⟨Yb,⟨ZM,Ye⟩,YB,l_id,⟨ZY,ZX,ZN⟩,Ys,⟨ZI,ZS⟩,⟨ZZ,ZV,ZL⟩⟩) }:=by
     unfold byeT
     rw [if_neg (show ¬(ZR.nd ⟨⟨⟨Za,Zb⟩,⟨Zf,Zh⟩,⟨Zj,Zi,Zg⟩,⟨Ze,Zd,Zc⟩⟩,Zr,Zs,ZH,Zv,ZT,ZC,ZA,Zw,Zq,Zy,Zp,Zz,⟨Zu,Zt,Zl⟩,ZG,ZJ⟩).table.pred.addr=(ZP.lt ⟨Yb,⟨ZM,Ye⟩,YB,l_id,⟨ZY,ZX,ZN⟩,Ys,⟨ZI,ZS⟩,⟨ZZ,ZV,ZL⟩⟩).frm.addr from (show ¬Zf=ZM by assumption)),show Wm (ZR.nd ⟨⟨⟨Za,Zb⟩,⟨Zf,Zh⟩,⟨Zj,Zi,Zg⟩,⟨Ze,Zd,Zc⟩⟩,Zr,Zs,ZH,Zv,ZT,ZC,ZA,Zw,Zq,Zy,Zp,Zz,⟨Zu,Zt,Zl⟩,ZG,ZJ⟩).table (ZP.lt ⟨Yb,⟨ZM,Ye⟩,YB,l_id,⟨ZY,ZX,ZN⟩,Ys,⟨ZI,ZS⟩,⟨ZZ,ZV,ZL⟩⟩).frm.addr=_ from hot.symm];rfl
    have h3:=bye_no h2 (fun q1 q2=>(by
     replace q1:(Wi (ZQ.tb ⟨⟨Za,Zb⟩,⟨Zf,Zh⟩,⟨Zj,Zi,Zg⟩,⟨Ze,Zd,Zc⟩⟩)).addr=ZM:=q1
     replace q2:0<ZL.length:=q2
     rw [hfi] at q1
     contradiction))
    exact ⟨_,M1,rfl,hm1,hw.c,⟨⟨⟨oa,oi⟩,⟨oq,oj⟩,⟨o1a,o1c,o1l⟩,⟨o2a,o2c,o2l⟩⟩,Zr,Zs,ZH,Zv,ZT,ZC,ZA,Zw,Zq,Zy,Zp,Zz,⟨Zu,Zt,Zl⟩,ZG,ZJ⟩,rfl,h3.symm,⟨okt,hn0.h1.mono hm1⟩⟩
end Go.Proofs.YtajmnjefajknoaaGreat
namespace Go.Proofs.YtajmnjefajknoaaGreat
open Go.Esp
theorem F.ok54:okFn Tryz.prog 54=true:=by kernel_rfl
theorem F.ok56:okFn Tryz.prog 56=true:=by kernel_rfl
theorem F.ok57:okFn Tryz.prog 57=true:=by kernel_rfl
theorem F.ok59:okFn Tryz.prog 59=true:=by kernel_rfl
theorem F.ok61:okFn Tryz.prog 61=true:=by kernel_rfl
theorem rTake_ok (M:Mem) (n:ZR) (l:ZP) (hn0:ZR.ok M n) (hl1:ZP.ok M l):Esp.Fn Tryz.prog 18 [n.enc,l.enc] M (fun M' v=>NtE M' v (Wz n.nd l.lt)):=by
  obtain ⟨⟨⟨Za,Zb⟩,⟨Zf,Zh⟩,⟨Zj,Zi,Zg⟩,⟨Ze,Zd,Zc⟩⟩,Zr,Zs,ZH,Zv,ZT,ZC,ZA,Zw,Zq,Zy,Zp,Zz,⟨Zu,Zt,Zl⟩,ZG,ZJ⟩:=n
  obtain ⟨Yb,⟨ZM,Ye⟩,YB,l_id,⟨ZY,ZX,ZN⟩,Ys,⟨ZI,ZS⟩,⟨ZZ,ZV,ZL⟩⟩:=l
  have Yv:ZQ.ok M ⟨⟨Za,Zb⟩,⟨Zf,Zh⟩,⟨Zj,Zi,Zg⟩,⟨Ze,Zd,Zc⟩⟩:=hn0.h0
  have YM:SlK M ZF.segs 21 ⟨Zj,Zi,Zg⟩:=hn0.h0.h0
  have Wo:SlM M Zj (Zg.map ZF.segs) 21:=YM.h1
  have Wp:(Zg.map ZF.segs).length=Zg.length:=List.length_map ..
  have Wq:Zg.length≤9223372036854775807:=YM.h2
  have Wr:Zg.length≤Zi:=YM.h3
  have Yx:SlK M ZF.segs 21 ⟨Ze,Zd,Zc⟩:=hn0.h0.h1
  have XV:SlM M Ze (Zc.map ZF.segs) 21:=Yx.h1
  have XW:(Zc.map ZF.segs).length=Zc.length:=List.length_map ..
  have XX:Zc.length≤9223372036854775807:=Yx.h2
  have XY:Zc.length≤Zd:=Yx.h3
  have Yz:SlK M (oneI .i64) 1 ⟨Zu,Zt,Zl⟩:=hn0.h1
  have WQ:SlM M Zu (Zl.map (oneI .i64)) 1:=Yz.h1
  have Vi:(Zl.map (oneI .i64)).length=Zl.length:=List.length_map ..
  have Va:Zl.length≤9223372036854775807:=Yz.h2
  have Vk:Zl.length≤Zt:=Yz.h3
  have Xl:SlK M (oneI .i64) 1 ⟨ZY,ZX,ZN⟩:=hl1.h0
  have Vu:SlM M ZY (ZN.map (oneI .i64)) 1:=Xl.h1
  have VK:(ZN.map (oneI .i64)).length=ZN.length:=List.length_map ..
  have Vx:ZN.length≤9223372036854775807:=Xl.h2
  have VM:ZN.length≤ZX:=Xl.h3
  have Xb:SlK M ZF.segs 21 ⟨ZZ,ZV,ZL⟩:=hl1.h1
  have XT:SlM M ZZ (ZL.map ZF.segs) 21:=Xb.h1
  have WR:(ZL.map ZF.segs).length=ZL.length:=List.length_map ..
  have Vw:ZL.length≤9223372036854775807:=Xb.h2
  have WS:ZL.length≤ZV:=Xb.h3
  refine Wu Tryz.func18 rfl Tryz.ntmps18 rfl ?_;intro H
  refine ZK (Zm (l:=[0,1,2,3,4]) rfl ?_)
  refine Xk ?_;intro b1
  refine Xk ?_;intro b2
  refine YW F.zero32 ?_;intro b3
  iterate 2 refine ZB ?_
  refine Zo (Zn (Y_pk [6,5,4,3,2] ?_))
  iterate 2 refine ZK ?_
  refine Zm (l:=[0,1,2,3,4,5,6,7]) rfl ?_;refine ZD F.lay32 ?_;refine X_fs rfl rfl F.ok28 rfl (rIsN_ok _ ⟨⟨⟨Za,Zb⟩,⟨Zf,Zh⟩,⟨Zj,Zi,Zg⟩,⟨Ze,Zd,Zc⟩⟩,Zr,Zs,ZH,Zv,ZT,ZC,ZA,Zw,Zq,Zy,Zp,Zz,⟨Zu,Zt,Zl⟩,ZG,ZJ⟩ hn0) rfl ?_
  rintro _ rfl
  refine Xj ?_;refine Zx ?_
  refine Yj 16 rfl (fun hc4=>?_) (fun hc4=>?_)
  ·replace hc4:=nT hc4
   iterate 3 refine Ya ?_
   refine ZO ?_;refine Zo (Zn (Y_pk [20,6,5,4,3,2] ?_));refine Xi rfl ?_;refine ZK (Zm (l:=[0,1,2,3]) rfl ?_);refine Xr rfl rfl F.bld32 (.nil) rfl rfl ?_;refine Xg F.lay32 ?_
   iterate 2 refine ZB ?_
   refine Zo (Zn (Y_pk [6,5,4,3,2] ?_));refine Yo (YS ?_)
   refine Yk (.inr rfl) (.cell rfl (by repeat first|exact List.Mem.head _|refine List.Mem.tail _ ?_|refine List.mem_append_right _ ?_) F.lay32 rfl rfl (.tmp rfl (.tmp rfl .nil))) (fun w hw=>?_)
   refine ⟨_,M,rfl,Mem.le.refl M,hw.c,ZR.zero,⟨none,0,[]⟩,?_,?_,?_,ZR.zero_ok _,SlK.nil,fun y hy=>by cases hy⟩
   ·rw [Vg (by (rintro ⟨q1,q2⟩;first|contradiction|(simp_all;done)))];rfl
   ·rw [Vg (by (rintro ⟨q1,q2⟩;first|contradiction|(simp_all;done)))];rfl
   ·rw [Vg (by (rintro ⟨q1,q2⟩;first|contradiction|(simp_all;done)))];rfl
  ·replace hc4:=nF hc4
   refine ZD F.lay44 ?_;refine X_fs rfl rfl F.ok54 rfl (rIsL_ok _ ⟨Yb,⟨ZM,Ye⟩,YB,l_id,⟨ZY,ZX,ZN⟩,Ys,⟨ZI,ZS⟩,⟨ZZ,ZV,ZL⟩⟩ hl1) rfl ?_
   rintro _ rfl
   refine Xj ?_;refine ZO ?_;refine Zo (Zn (Y_pk [20,6,5,4,3,2] ?_))
   refine YA rfl (fun hc5=>?_) (fun hc5=>?_)
   ·replace hc5:=nT hc5
    refine ZK (Zm (l:=[0,1,2,3]) rfl ?_);refine Xr rfl rfl F.bld32 (.nil) rfl rfl ?_;refine Xg F.lay32 ?_
    iterate 2 refine ZB ?_
    refine Zo (Zn (Y_pk [6,5,4,3,2] ?_));refine Yo (YS ?_)
    refine Yk (.inr rfl) (.cell rfl (by repeat first|exact List.Mem.head _|refine List.Mem.tail _ ?_|refine List.mem_append_right _ ?_) F.lay32 rfl rfl (.tmp rfl (.tmp rfl .nil))) (fun w hw=>?_)
    refine ⟨_,M,rfl,Mem.le.refl M,hw.c,ZR.zero,⟨none,0,[]⟩,?_,?_,?_,ZR.zero_ok _,SlK.nil,fun y hy=>by cases hy⟩
    ·rw [Vg (by (rintro ⟨q1,q2⟩;first|contradiction|(simp_all;done)))];rfl
    ·rw [Vg (by (rintro ⟨q1,q2⟩;first|contradiction|(simp_all;done)))];rfl
    ·rw [Vg (by (rintro ⟨q1,q2⟩;first|contradiction|(simp_all;done)))];rfl
   ·replace hc5:=nF hc5
    refine YG (Zn (Y_pk [6,5,4,3,2] ?_));refine ZK ?_
    have hnd9:IsNd (ZR.nd ⟨⟨⟨Za,Zb⟩,⟨Zf,Zh⟩,⟨Zj,Zi,Zg⟩,⟨Ze,Zd,Zc⟩⟩,Zr,Zs,ZH,Zv,ZT,ZC,ZA,Zw,Zq,Zy,Zp,Zz,⟨Zu,Zt,Zl⟩,ZG,ZJ⟩):=by assumption
    have hlt9:IsLt (ZP.lt ⟨Yb,⟨ZM,Ye⟩,YB,l_id,⟨ZY,ZX,ZN⟩,Ys,⟨ZI,ZS⟩,⟨ZZ,ZV,ZL⟩⟩):=by assumption
    have htb9:IsTb (ZQ.tb ⟨⟨Za,Zb⟩,⟨Zf,Zh⟩,⟨Zj,Zi,Zg⟩,⟨Ze,Zd,Zc⟩⟩):=hnd9.1
    have hav9:Zl.length≤16:=hnd9.2.2.2.2.1
    have hho9:0≤ZG∧ZG≤64:=hnd9.2.2.2.2.2.1
    have hpl9:ZL.length≤8:=hlt9.2.2.2.1
    refine Zm (l:=[0,1,2,3]) rfl ?_;refine ZD F.lay32 ?_;refine Ur rfl rfl F.ok10 rfl (rNOwn_ok M ⟨⟨⟨Za,Zb⟩,⟨Zf,Zh⟩,⟨Zj,Zi,Zg⟩,⟨Ze,Zd,Zc⟩⟩,Zr,Zs,ZH,Zv,ZT,ZC,ZA,Zw,Zq,Zy,Zp,Zz,⟨Zu,Zt,Zl⟩,ZG,ZJ⟩ hn0 (isTb_small (t:=⟨⟨Za,Zb⟩,⟨Zf,Zh⟩,⟨Zj,Zi,Zg⟩,⟨Ze,Zd,Zc⟩⟩) htb9) (by simp only;omega)) (by repeat first|exact Rem.here _|exact Rem.two|apply Rem.skip|apply Rem.over) (fun _ _ _ hm hw=>(hw.lower (by exact hm)).c) (YV rfl) ?_
    rintro _ M1 hs5 hm1 ⟨⟨⟨oa,oi⟩,⟨oq,oj⟩,⟨o1a,o1c,o1l⟩,⟨o2a,o2c,o2l⟩⟩,⟨s_a,s_c,s_l⟩,rfl,hot,okt1,ho9,hl9⟩
    simp only [Sl.val] at ho9
    refine YW F.zero32 ?_;intro b6
    refine Xg F.lay32 ?_;refine Zo (Zn (Y_pk [7,6,5,4,3] ?_))
    iterate 2 refine ZK ?_
    refine UG ho9 (by repeat first|exact Rem.here _|exact Rem.two|apply Rem.skip|apply Rem.over) (fun M2 hM2 k9=>?_)
    have okt:=okt1.mono hM2
    have hbo:=own_big hot (isTb_small (t:=⟨⟨Za,Zb⟩,⟨Zf,Zh⟩,⟨Zj,Zi,Zg⟩,⟨Ze,Zd,Zc⟩⟩) htb9)
    have hla9:s_l.length≤1000:=by have h8:s_l.length=Zl.length:=congrArg List.length hl9;omega
    have hnn:ZR.nd ⟨⟨⟨oa,oi⟩,⟨oq,oj⟩,⟨o1a,o1c,o1l⟩,⟨o2a,o2c,o2l⟩⟩,Zr,Zs,ZH,Zv,ZT,ZC,ZA,Zw,Zq,Zy,Zp,Zz,⟨s_a,s_c,s_l⟩,ZG,ZJ⟩=ZR.nd ⟨⟨⟨Za,Zb⟩,⟨Zf,Zh⟩,⟨Zj,Zi,Zg⟩,⟨Ze,Zd,Zc⟩⟩,Zr,Zs,ZH,Zv,ZT,ZC,ZA,Zw,Zq,Zy,Zp,Zz,⟨Zu,Zt,Zl⟩,ZG,ZJ⟩:=own_nd (n:=⟨⟨⟨Za,Zb⟩,⟨Zf,Zh⟩,⟨Zj,Zi,Zg⟩,⟨Ze,Zd,Zc⟩⟩,Zr,Zs,ZH,Zv,ZT,ZC,ZA,Zw,Zq,Zy,Zp,Zz,⟨Zu,Zt,Zl⟩,ZG,ZJ⟩) (t9:=⟨⟨oa,oi⟩,⟨oq,oj⟩,⟨o1a,o1c,o1l⟩,⟨o2a,o2c,o2l⟩⟩) (s9:=⟨s_a,s_c,s_l⟩) hot hl9
    have hl9m:=hl1.mono (hm1.trans hM2)
    refine Zm (l:=[0,1,2,3,4,5]) rfl ?_;refine Zk F.foff32_0 ?_;refine ZD F.lay28 ?_;refine Zk F.foff44_1 ?_;refine ZD F.lay25 ?_;refine X_fs rfl rfl F.ok55 rfl (VI _ ⟨⟨oa,oi⟩,⟨oq,oj⟩,⟨o1a,o1c,o1l⟩,⟨o2a,o2c,o2l⟩⟩ ⟨ZM,Ye⟩) rfl ?_
    rintro _ rfl
    refine Xj ?_;refine Zo (Zn (Y_pk [29,7,6,5,4,3] ?_))
    refine YA rfl (fun hc7=>?_) (fun hc7=>?_)
    ·replace hc7:=nT hc7
     simp only [ZF.eta,ZQ.eta,ZR.eta,ZP.eta,Yr.eta,ZW.eta,YQ.eta,Yc.eta] at hc7
     refine ZK (Zm (l:=[0,1,2,3]) rfl ?_);refine ZD F.lay32 ?_;refine Xg F.lay32 ?_
     iterate 2 refine ZB ?_
     refine Zo (Zn (Y_pk [6,5,7,4,3] ?_));refine Yo (YS ?_)
     refine Yk (.inr rfl) (.cell rfl (by repeat first|exact List.Mem.head _|refine List.Mem.tail _ ?_|refine List.mem_append_right _ ?_) F.lay32 rfl rfl (.tmp rfl (.tmp rfl .nil))) (fun w hw=>?_)
     have h3a:=take_not hnd9 hlt9 (show ¬Xn (ZR.nd ⟨⟨⟨Za,Zb⟩,⟨Zf,Zh⟩,⟨Zj,Zi,Zg⟩,⟨Ze,Zd,Zc⟩⟩,Zr,Zs,ZH,Zv,ZT,ZC,ZA,Zw,Zq,Zy,Zp,Zz,⟨Zu,Zt,Zl⟩,ZG,ZJ⟩).table.self ⟨ZM,Ye⟩ from by rw [← hnn];show ¬Xn ⟨oa,oi⟩ ⟨ZM,Ye⟩;assumption)
     have h3:=h3a.trans (show _=((ZR.nd ⟨⟨⟨oa,oi⟩,⟨oq,oj⟩,⟨o1a,o1c,o1l⟩,⟨o2a,o2c,o2l⟩⟩,Zr,Zs,ZH,Zv,ZT,ZC,ZA,Zw,Zq,Zy,Zp,Zz,⟨s_a,s_c,s_l⟩,ZG,ZJ⟩),[],0) by rw [hnn])
     exact ⟨_,M2,rfl,hm1.trans hM2,hw.c,⟨⟨⟨oa,oi⟩,⟨oq,oj⟩,⟨o1a,o1c,o1l⟩,⟨o2a,o2c,o2l⟩⟩,Zr,Zs,ZH,Zv,ZT,ZC,ZA,Zw,Zq,Zy,Zp,Zz,⟨s_a,s_c,s_l⟩,ZG,ZJ⟩,⟨none,0,[]⟩,by rw [show Wz _ _=_ from h3];rfl,by rw [show Wz _ _=_ from h3],by rw [show Wz _ _=_ from h3];rfl,⟨okt,k9⟩,SlK.nil,fun y hy=>by cases hy⟩
    ·replace hc7:=nF hc7
     simp only [ZF.eta,ZQ.eta,ZR.eta,ZP.eta,Yr.eta,ZW.eta,YQ.eta,Yc.eta] at hc7
     refine YG (Zn (Y_pk [7,6,5,4,3] ?_))
     iterate 2 refine ZK ?_
     refine Zm (l:=[0,1]) rfl ?_;refine Zk F.foff44_0 ?_;refine ZD F.lay3 ?_;refine Zo (Zn (Y_pk [32,7,6,5,4,3] ?_));refine Xc (ZK (Zm (l:=[0,1]) rfl ?_));refine YI ?_;refine ZB ?_;refine Zo (Zn (Y_pk [33,32,7,6,5,4,3] ?_))
     refine YA rfl (fun hc8=>?_) (fun hc8=>?_)
     ·replace hc8:=dT hc8
      refine ZK (YK (l:=[0,1,2,3,4,5,6]) #[0,0,0,6,15,31,63] _ rfl (by kernel_rfl) (by kernel_rfl) St.drawn (fun _ h=>h) ?_)
      iterate 2 refine ZD F.lay32 ?_
      refine ZD F.lay44 ?_;refine X_fn rfl rfl F.ok56 rfl (rfind_ok M2 _ _ _ _ _ _ _ _ _ _ _ _ _ _ _ _ _ _ _ _ _ _ _ _ _ _ _ okt hbo ⟨Yb,⟨ZM,Ye⟩,YB,l_id,⟨ZY,ZX,ZN⟩,Ys,⟨ZI,ZS⟩,⟨ZZ,ZV,ZL⟩⟩ hl9m) rfl ?_
      rintro _ M3 hm3 ⟨⟨o_a,o_c,o_l⟩,rfl,hv2,oko,okq⟩
      refine Xg F.lay32 ?_
      iterate 2 refine ZB ?_
      refine Zo (Zn (Y_pk [6,5,7,4,3] ?_));refine Yo (Xh (YS ?_))
      refine Yk (.inr rfl) (.cell rfl (by repeat first|exact List.Mem.head _|refine List.Mem.tail _ ?_|refine List.mem_append_right _ ?_) F.lay32 rfl rfl (.tmp rfl (.tmp rfl .nil))) (fun w hw=>?_)
      have h3a:=VD hnd9 hlt9 (show Xn (ZR.nd ⟨⟨⟨Za,Zb⟩,⟨Zf,Zh⟩,⟨Zj,Zi,Zg⟩,⟨Ze,Zd,Zc⟩⟩,Zr,Zs,ZH,Zv,ZT,ZC,ZA,Zw,Zq,Zy,Zp,Zz,⟨Zu,Zt,Zl⟩,ZG,ZJ⟩).table.self ⟨ZM,Ye⟩ from by rw [← hnn];show Xn ⟨oa,oi⟩ ⟨ZM,Ye⟩;assumption)
      have h3:=h3a.trans (show _=((XO (ZR.nd ⟨⟨⟨oa,oi⟩,⟨oq,oj⟩,⟨o1a,o1c,o1l⟩,⟨o2a,o2c,o2l⟩⟩,Zr,Zs,ZH,Zv,ZT,ZC,ZA,Zw,Zq,Zy,Zp,Zz,⟨s_a,s_c,s_l⟩,ZG,ZJ⟩) (ZP.lt ⟨Yb,⟨ZM,Ye⟩,YB,l_id,⟨ZY,ZX,ZN⟩,Ys,⟨ZI,ZS⟩,⟨ZZ,ZV,ZL⟩⟩)).1,(XO (ZR.nd ⟨⟨⟨oa,oi⟩,⟨oq,oj⟩,⟨o1a,o1c,o1l⟩,⟨o2a,o2c,o2l⟩⟩,Zr,Zs,ZH,Zv,ZT,ZC,ZA,Zw,Zq,Zy,Zp,Zz,⟨s_a,s_c,s_l⟩,ZG,ZJ⟩) (ZP.lt ⟨Yb,⟨ZM,Ye⟩,YB,l_id,⟨ZY,ZX,ZN⟩,Ys,⟨ZI,ZS⟩,⟨ZZ,ZV,ZL⟩⟩)).2,0) by rw [hnn])
      have h4:XO (ZR.nd ⟨⟨⟨oa,oi⟩,⟨oq,oj⟩,⟨o1a,o1c,o1l⟩,⟨o2a,o2c,o2l⟩⟩,Zr,Zs,ZH,Zv,ZT,ZC,ZA,Zw,Zq,Zy,Zp,Zz,⟨s_a,s_c,s_l⟩,ZG,ZJ⟩) (ZP.lt ⟨Yb,⟨ZM,Ye⟩,YB,l_id,⟨ZY,ZX,ZN⟩,Ys,⟨ZI,ZS⟩,⟨ZZ,ZV,ZL⟩⟩)=((ZR.nd ⟨⟨⟨oa,oi⟩,⟨oq,oj⟩,⟨o1a,o1c,o1l⟩,⟨o2a,o2c,o2l⟩⟩,Zr,Zs,ZH,Zv,ZT,ZC,ZA,Zw,Zq,Zy,Zp,Zz,⟨s_a,s_c,s_l⟩,ZG,ZJ⟩),UL (ZR.nd ⟨⟨⟨oa,oi⟩,⟨oq,oj⟩,⟨o1a,o1c,o1l⟩,⟨o2a,o2c,o2l⟩⟩,Zr,Zs,ZH,Zv,ZT,ZC,ZA,Zw,Zq,Zy,Zp,Zz,⟨s_a,s_c,s_l⟩,ZG,ZJ⟩) (ZP.lt ⟨Yb,⟨ZM,Ye⟩,YB,l_id,⟨ZY,ZX,ZN⟩,Ys,⟨ZI,ZS⟩,⟨ZZ,ZV,ZL⟩⟩)):=does1 (show Yb=1 by omega)
      exact ⟨_,M3,rfl,((hm1.trans hM2).trans hm3),hw.c,⟨⟨⟨oa,oi⟩,⟨oq,oj⟩,⟨o1a,o1c,o1l⟩,⟨o2a,o2c,o2l⟩⟩,Zr,Zs,ZH,Zv,ZT,ZC,ZA,Zw,Zq,Zy,Zp,Zz,⟨s_a,s_c,s_l⟩,ZG,ZJ⟩,⟨o_a,o_c,o_l⟩,by rw [show Wz _ _=_ from h3] <;> rfl,by rw [show Wz _ _=_ from h3,h4] <;> rfl,by rw [show Wz _ _=_ from h3,h4] <;> exact hv2,⟨okt.mono hm3,k9.mono hm3⟩,oko,okq⟩
     ·replace hc8:=dF hc8
      refine ZK (Zm (l:=[0,1]) rfl ?_);refine YI ?_;refine ZB ?_;refine Zo (Zn (Y_pk [39,32,7,6,5,4,3] ?_))
      refine YA rfl (fun hc9=>?_) (fun hc9=>?_)
      ·replace hc9:=dT hc9
       refine ZK (Zm (l:=[0,1,2,3,4,5,6,7,8]) rfl ?_);refine ZD F.lay32 ?_;refine ZD F.lay44 ?_;refine X_fn rfl rfl F.ok57 rfl (rfound_ok M2 ⟨⟨⟨oa,oi⟩,⟨oq,oj⟩,⟨o1a,o1c,o1l⟩,⟨o2a,o2c,o2l⟩⟩,Zr,Zs,ZH,Zv,ZT,ZC,ZA,Zw,Zq,Zy,Zp,Zz,⟨s_a,s_c,s_l⟩,ZG,ZJ⟩ ⟨Yb,⟨ZM,Ye⟩,YB,l_id,⟨ZY,ZX,ZN⟩,Ys,⟨ZI,ZS⟩,⟨ZZ,ZV,ZL⟩⟩ ⟨okt,k9⟩ hl9m hbo hla9 (by simp only;omega)) rfl ?_
       rintro _ M3 hm3 ⟨⟨⟨⟨Yw,YJ⟩,⟨YC,YL⟩,⟨YP,YO,YN⟩,⟨YF,YE,YD⟩⟩,Xz,XF,Wg,XB,WB,XM,XA,Xw,Xo,Xx,Xp,Xy,⟨Xu,Xt,Xs⟩,Wf,We⟩,⟨o_a,o_c,o_l⟩,rfl,hv1,hv2,okv,oko,okq⟩
       refine Zx ?_
       iterate 2 refine XU ?_
       refine YW F.zero32 ?_;intro b10
       refine Xg F.lay32 ?_;refine ZB ?_;refine Zo (Zn (Y_pk [9,8,7,6,5,4,3] ?_));refine ZK (Zm (l:=[0,1,2,3,4]) rfl ?_);refine ZD F.lay32 ?_;refine Zx ?_;refine Xg F.lay32 ?_
       iterate 2 refine ZB ?_
       refine Zo (Zn (Y_pk [6,5,7,4,3] ?_));refine Yo (Xh (YS ?_))
       refine Yk (.inr rfl) (.cell rfl (by repeat first|exact List.Mem.head _|refine List.Mem.tail _ ?_|refine List.mem_append_right _ ?_) F.lay32 rfl rfl (.tmp rfl (.tmp rfl .nil))) (fun w hw=>?_)
       have h3a:=VD hnd9 hlt9 (show Xn (ZR.nd ⟨⟨⟨Za,Zb⟩,⟨Zf,Zh⟩,⟨Zj,Zi,Zg⟩,⟨Ze,Zd,Zc⟩⟩,Zr,Zs,ZH,Zv,ZT,ZC,ZA,Zw,Zq,Zy,Zp,Zz,⟨Zu,Zt,Zl⟩,ZG,ZJ⟩).table.self ⟨ZM,Ye⟩ from by rw [← hnn];show Xn ⟨oa,oi⟩ ⟨ZM,Ye⟩;assumption)
       have h3:=h3a.trans (show _=((XO (ZR.nd ⟨⟨⟨oa,oi⟩,⟨oq,oj⟩,⟨o1a,o1c,o1l⟩,⟨o2a,o2c,o2l⟩⟩,Zr,Zs,ZH,Zv,ZT,ZC,ZA,Zw,Zq,Zy,Zp,Zz,⟨s_a,s_c,s_l⟩,ZG,ZJ⟩) (ZP.lt ⟨Yb,⟨ZM,Ye⟩,YB,l_id,⟨ZY,ZX,ZN⟩,Ys,⟨ZI,ZS⟩,⟨ZZ,ZV,ZL⟩⟩)).1,(XO (ZR.nd ⟨⟨⟨oa,oi⟩,⟨oq,oj⟩,⟨o1a,o1c,o1l⟩,⟨o2a,o2c,o2l⟩⟩,Zr,Zs,ZH,Zv,ZT,ZC,ZA,Zw,Zq,Zy,Zp,Zz,⟨s_a,s_c,s_l⟩,ZG,ZJ⟩) (ZP.lt ⟨Yb,⟨ZM,Ye⟩,YB,l_id,⟨ZY,ZX,ZN⟩,Ys,⟨ZI,ZS⟩,⟨ZZ,ZV,ZL⟩⟩)).2,0) by rw [hnn])
       have h4:XO (ZR.nd ⟨⟨⟨oa,oi⟩,⟨oq,oj⟩,⟨o1a,o1c,o1l⟩,⟨o2a,o2c,o2l⟩⟩,Zr,Zs,ZH,Zv,ZT,ZC,ZA,Zw,Zq,Zy,Zp,Zz,⟨s_a,s_c,s_l⟩,ZG,ZJ⟩) (ZP.lt ⟨Yb,⟨ZM,Ye⟩,YB,l_id,⟨ZY,ZX,ZN⟩,Ys,⟨ZI,ZS⟩,⟨ZZ,ZV,ZL⟩⟩)=Uj (ZR.nd ⟨⟨⟨oa,oi⟩,⟨oq,oj⟩,⟨o1a,o1c,o1l⟩,⟨o2a,o2c,o2l⟩⟩,Zr,Zs,ZH,Zv,ZT,ZC,ZA,Zw,Zq,Zy,Zp,Zz,⟨s_a,s_c,s_l⟩,ZG,ZJ⟩) (ZP.lt ⟨Yb,⟨ZM,Ye⟩,YB,l_id,⟨ZY,ZX,ZN⟩,Ys,⟨ZI,ZS⟩,⟨ZZ,ZV,ZL⟩⟩):=does2 (show Yb=2 by omega)
       exact ⟨_,M3,rfl,((hm1.trans hM2).trans hm3),hw.c,⟨⟨⟨Yw,YJ⟩,⟨YC,YL⟩,⟨YP,YO,YN⟩,⟨YF,YE,YD⟩⟩,Xz,XF,Wg,XB,WB,XM,XA,Xw,Xo,Xx,Xp,Xy,⟨Xu,Xt,Xs⟩,Wf,We⟩,⟨o_a,o_c,o_l⟩,by rw [show Wz _ _=_ from h3] <;> rfl,by rw [show Wz _ _=_ from h3,h4] <;> exact hv1,by rw [show Wz _ _=_ from h3,h4] <;> exact hv2,okv,oko,okq⟩
      ·replace hc9:=dF hc9
       refine ZK (Zm (l:=[0,1]) rfl ?_);refine YI ?_;refine ZB ?_;refine Zo (Zn (Y_pk [49,32,7,6,5,4,3] ?_))
       refine YA rfl (fun hc11=>?_) (fun hc11=>?_)
       ·replace hc11:=dT hc11
        iterate 2 refine ZK ?_
        refine Zm (l:=[0,1,2]) rfl ?_;refine Zk F.foff32_2 ?_;refine ZD F.lay4 ?_;refine Xj ?_;refine Zo (Zn (Y_pk [53,7,6,5,4,3] ?_))
        refine YA rfl (fun hc12=>?_) (fun hc12=>?_)
        ·skip
         simp only [ZF.eta,ZQ.eta,ZR.eta,ZP.eta,Yr.eta,ZW.eta,YQ.eta,Yc.eta] at hc12
         refine ZK (Zm (l:=[0,1,2,3]) rfl ?_);refine ZD F.lay32 ?_;refine Xg F.lay32 ?_
         iterate 2 refine ZB ?_
         refine Zo (Zn (Y_pk [6,5,7,4,3] ?_));refine Yo (YS (Xh (YS ?_)))
         refine Yk (.inr rfl) (.cell rfl (by repeat first|exact List.Mem.head _|refine List.Mem.tail _ ?_|refine List.mem_append_right _ ?_) F.lay32 rfl rfl (.tmp rfl (.tmp rfl .nil))) (fun w hw=>?_)
         have h3a:=VD hnd9 hlt9 (show Xn (ZR.nd ⟨⟨⟨Za,Zb⟩,⟨Zf,Zh⟩,⟨Zj,Zi,Zg⟩,⟨Ze,Zd,Zc⟩⟩,Zr,Zs,ZH,Zv,ZT,ZC,ZA,Zw,Zq,Zy,Zp,Zz,⟨Zu,Zt,Zl⟩,ZG,ZJ⟩).table.self ⟨ZM,Ye⟩ from by rw [← hnn];show Xn ⟨oa,oi⟩ ⟨ZM,Ye⟩;assumption)
         have h3:=h3a.trans (show _=((XO (ZR.nd ⟨⟨⟨oa,oi⟩,⟨oq,oj⟩,⟨o1a,o1c,o1l⟩,⟨o2a,o2c,o2l⟩⟩,Zr,Zs,ZH,Zv,ZT,ZC,ZA,Zw,Zq,Zy,Zp,Zz,⟨s_a,s_c,s_l⟩,ZG,ZJ⟩) (ZP.lt ⟨Yb,⟨ZM,Ye⟩,YB,l_id,⟨ZY,ZX,ZN⟩,Ys,⟨ZI,ZS⟩,⟨ZZ,ZV,ZL⟩⟩)).1,(XO (ZR.nd ⟨⟨⟨oa,oi⟩,⟨oq,oj⟩,⟨o1a,o1c,o1l⟩,⟨o2a,o2c,o2l⟩⟩,Zr,Zs,ZH,Zv,ZT,ZC,ZA,Zw,Zq,Zy,Zp,Zz,⟨s_a,s_c,s_l⟩,ZG,ZJ⟩) (ZP.lt ⟨Yb,⟨ZM,Ye⟩,YB,l_id,⟨ZY,ZX,ZN⟩,Ys,⟨ZI,ZS⟩,⟨ZZ,ZV,ZL⟩⟩)).2,0) by rw [hnn])
         have h4:XO (ZR.nd ⟨⟨⟨oa,oi⟩,⟨oq,oj⟩,⟨o1a,o1c,o1l⟩,⟨o2a,o2c,o2l⟩⟩,Zr,Zs,ZH,Zv,ZT,ZC,ZA,Zw,Zq,Zy,Zp,Zz,⟨s_a,s_c,s_l⟩,ZG,ZJ⟩) (ZP.lt ⟨Yb,⟨ZM,Ye⟩,YB,l_id,⟨ZY,ZX,ZN⟩,Ys,⟨ZI,ZS⟩,⟨ZZ,ZV,ZL⟩⟩)=((ZR.nd ⟨⟨⟨oa,oi⟩,⟨oq,oj⟩,⟨o1a,o1c,o1l⟩,⟨o2a,o2c,o2l⟩⟩,Zr,Zs,ZH,Zv,ZT,ZC,ZA,Zw,Zq,Zy,Zp,Zz,⟨s_a,s_c,s_l⟩,ZG,ZJ⟩),[]):=does3n (show Yb=3 by omega) (show Zs=false by simp_all)
         exact ⟨_,M2,rfl,(hm1.trans hM2),hw.c,⟨⟨⟨oa,oi⟩,⟨oq,oj⟩,⟨o1a,o1c,o1l⟩,⟨o2a,o2c,o2l⟩⟩,Zr,Zs,ZH,Zv,ZT,ZC,ZA,Zw,Zq,Zy,Zp,Zz,⟨s_a,s_c,s_l⟩,ZG,ZJ⟩,⟨none,0,[]⟩,by rw [show Wz _ _=_ from h3] <;> rfl,by rw [show Wz _ _=_ from h3,h4] <;> rfl,by rw [show Wz _ _=_ from h3,h4] <;> rfl,⟨okt,k9⟩,SlK.nil,fun y hy=>by cases hy⟩
        ·skip
         simp only [ZF.eta,ZQ.eta,ZR.eta,ZP.eta,Yr.eta,ZW.eta,YQ.eta,Yc.eta] at hc12
         refine YG (Zn (Y_pk [7,6,5,4,3] ?_));refine ZK (Zm (l:=[0,1,2,3,4,5]) rfl ?_);refine ZD F.lay32 ?_;refine Zk F.foff44_2 ?_;refine ZD F.lay29 ?_;refine X_fs rfl rfl F.ok58 rfl (rlett_ok _ ⟨⟨⟨oa,oi⟩,⟨oq,oj⟩,⟨o1a,o1c,o1l⟩,⟨o2a,o2c,o2l⟩⟩,Zr,Zs,ZH,Zv,ZT,ZC,ZA,Zw,Zq,Zy,Zp,Zz,⟨s_a,s_c,s_l⟩,ZG,ZJ⟩ 4 YB) rfl ?_
         rintro _ rfl
         refine YW F.zero44 ?_;intro b13
         refine X_store rfl rfl rfl rfl (by constructor) (by ((try simp only [cat,List.cons_append,List.nil_append,List.append_nil]);(repeat (first|exact XG|refine XN ?_|(refine YU ?_ ?_;rfl)));done)) (by repeat first|exact Upd.head|apply Upd.tail|apply Upd.over) F.lay44 (by simp only [ZF.segs,ZQ.segs,ZR.segs,ZP.segs,Yr.segs,ZW.segs,YQ.segs,Yc.segs,cat,List.append_eq,List.cons_append,List.nil_append,List.append_nil,Segs.len,Seg.len,Yt]) (VT (m:=67) rfl (by simp only [ZF.segs,ZQ.segs,ZR.segs,ZP.segs,Yr.segs,ZW.segs,YQ.segs,Yc.segs,cat,List.append_eq,List.cons_append,List.nil_append,List.append_nil,Segs.len,Seg.len,Yt]) (by simp only [ZF.segs,ZQ.segs,ZR.segs,ZP.segs,Yr.segs,ZW.segs,YQ.segs,Yc.segs,cat,List.append_eq,List.cons_append,List.nil_append,List.append_nil,Segs.len,Seg.len,Yt])) ?_
         refine Zo (Zn (Y_pk [10,7,6,5,4,3] ?_));refine ZK (Zm (l:=[0,1,2,3,4]) rfl ?_);refine Zk F.foff32_0 ?_;refine Zk F.foff28_1 ?_;refine ZD F.lay25 ?_;refine Zk F.foff44_6 ?_;refine Yh F.lay25 ?_;refine Zo (Zn (Y_pk [10,7,6,5,4,3] ?_));refine ZK (Zm (l:=[0,1,2,3,4]) rfl ?_);refine Zk F.foff32_0 ?_;refine Zk F.foff28_2 ?_;refine ZD F.lay26 ?_;refine Zk F.foff44_7 ?_;refine Yh F.lay26 ?_;refine Zo (Zn (Y_pk [10,7,6,5,4,3] ?_));refine ZK (C_region_anyPR (Hin:=[(b3,_)]) [0,1,2,3,4,5,7,6,8,9] [7] #[0,0,2,6,0,30,62,1,255,511] (by repeat first|exact Rem.here _|exact Rem.two|apply Rem.skip|apply Rem.over) (by kernel_rfl) (by kernel_rfl) ?_)
         refine ZD F.lay32 ?_;refine Zk F.foff44_1 ?_;refine Zk F.foff25_0 ?_;refine ZD F.lay3 ?_;refine ZD F.lay44 ?_;refine Xr rfl rfl F.bld49 (.cons rfl (by constructor) (.cons rfl (by constructor) .nil)) rfl rfl ?_;refine X_storeE rfl rfl rfl rfl rfl (by constructor) (by ((try simp only [cat,List.cons_append,List.nil_append,List.append_nil]);(repeat (first|exact XG|refine XN ?_|(refine YU ?_ ?_;rfl)));done)) (by repeat first|exact Upd.head|apply Upd.tail|apply Upd.over) F.lay32 (by simp only [ZF.segs,ZQ.segs,ZR.segs,ZP.segs,Yr.segs,ZW.segs,YQ.segs,Yc.segs,cat,List.append_eq,List.cons_append,List.nil_append,List.append_nil,Segs.len,Seg.len,Yt]) (VT (m:=78) rfl (by simp only [ZF.segs,ZQ.segs,ZR.segs,ZP.segs,Yr.segs,ZW.segs,YQ.segs,Yc.segs,cat,List.append_eq,List.cons_append,List.nil_append,List.append_nil,Segs.len,Seg.len,Yt]) (by simp only [ZF.segs,ZQ.segs,ZR.segs,ZP.segs,Yr.segs,ZW.segs,YQ.segs,Yc.segs,cat,List.append_eq,List.cons_append,List.nil_append,List.append_nil,Segs.len,Seg.len,Yt])) (fun _ h=>h.c) ?_
         refine Xq rfl rfl F.elem35 F.zero49 rfl rfl (.cons rfl (by constructor) .nil) rfl rfl (by simp only [List.map_cons,List.map_nil] <;> rfl) rfl ?_;intro b14 hob15
         iterate 2 refine ZB ?_
         refine Zo (WP ?_);refine Zn (Y_pk [6,5,7,4,3] ?_);refine Yo (Xh (YS ?_))
         refine Yk (.inr rfl) (.cell rfl (by repeat first|exact List.Mem.head _|refine List.Mem.tail _ ?_|refine List.mem_append_right _ ?_) F.lay32 rfl rfl (.tmp rfl (.tmp rfl .nil))) (fun w hw=>?_)
         have h3a:=VD hnd9 hlt9 (show Xn (ZR.nd ⟨⟨⟨Za,Zb⟩,⟨Zf,Zh⟩,⟨Zj,Zi,Zg⟩,⟨Ze,Zd,Zc⟩⟩,Zr,Zs,ZH,Zv,ZT,ZC,ZA,Zw,Zq,Zy,Zp,Zz,⟨Zu,Zt,Zl⟩,ZG,ZJ⟩).table.self ⟨ZM,Ye⟩ from by rw [← hnn];show Xn ⟨oa,oi⟩ ⟨ZM,Ye⟩;assumption)
         have h3:=h3a.trans (show _=((XO (ZR.nd ⟨⟨⟨oa,oi⟩,⟨oq,oj⟩,⟨o1a,o1c,o1l⟩,⟨o2a,o2c,o2l⟩⟩,Zr,Zs,ZH,Zv,ZT,ZC,ZA,Zw,Zq,Zy,Zp,Zz,⟨s_a,s_c,s_l⟩,ZG,ZJ⟩) (ZP.lt ⟨Yb,⟨ZM,Ye⟩,YB,l_id,⟨ZY,ZX,ZN⟩,Ys,⟨ZI,ZS⟩,⟨ZZ,ZV,ZL⟩⟩)).1,(XO (ZR.nd ⟨⟨⟨oa,oi⟩,⟨oq,oj⟩,⟨o1a,o1c,o1l⟩,⟨o2a,o2c,o2l⟩⟩,Zr,Zs,ZH,Zv,ZT,ZC,ZA,Zw,Zq,Zy,Zp,Zz,⟨s_a,s_c,s_l⟩,ZG,ZJ⟩) (ZP.lt ⟨Yb,⟨ZM,Ye⟩,YB,l_id,⟨ZY,ZX,ZN⟩,Ys,⟨ZI,ZS⟩,⟨ZZ,ZV,ZL⟩⟩)).2,0) by rw [hnn])
         have h4:XO (ZR.nd ⟨⟨⟨oa,oi⟩,⟨oq,oj⟩,⟨o1a,o1c,o1l⟩,⟨o2a,o2c,o2l⟩⟩,Zr,Zs,ZH,Zv,ZT,ZC,ZA,Zw,Zq,Zy,Zp,Zz,⟨s_a,s_c,s_l⟩,ZG,ZJ⟩) (ZP.lt ⟨Yb,⟨ZM,Ye⟩,YB,l_id,⟨ZY,ZX,ZN⟩,Ys,⟨ZI,ZS⟩,⟨ZZ,ZV,ZL⟩⟩)=((ZR.nd ⟨⟨⟨oa,oi⟩,⟨oq,oj⟩,⟨o1a,o1c,o1l⟩,⟨o2a,o2c,o2l⟩⟩,Zr,Zs,ZH,Zv,ZT,ZC,ZA,Zw,Zq,Zy,Zp,Zz,⟨s_a,s_c,s_l⟩,ZG,ZJ⟩),[Yr.snd (⟨ZM,(⟨4,⟨oa,oi⟩,YB,0,⟨none,0,[]⟩,false,⟨oq,oj⟩,⟨o1a,o1c,o1l⟩⟩:ZP)⟩:Yr)]):=does3y (show Yb=3 by omega) (show Zs=true by simp_all)
         obtain ⟨M9,j1,j2,j3⟩:=OSl.frz (H:=H) (l:=[(⟨ZM,(⟨4,⟨oa,oi⟩,YB,0,⟨none,0,[]⟩,false,⟨oq,oj⟩,⟨o1a,o1c,o1l⟩⟩:ZP)⟩:Yr)]) (f:=Yr.segs) (show OSl 49 68 _ _ ([(⟨ZM,(⟨4,⟨oa,oi⟩,YB,0,⟨none,0,[]⟩,false,⟨oq,oj⟩,⟨o1a,o1c,o1l⟩⟩:ZP)⟩:Yr)].map Yr.segs) from hob15) (hw.c)
         exact ⟨_,M9,rfl,Mem.le.trans (hm1.trans hM2) j1,j2,⟨⟨⟨oa,oi⟩,⟨oq,oj⟩,⟨o1a,o1c,o1l⟩,⟨o2a,o2c,o2l⟩⟩,Zr,Zs,ZH,Zv,ZT,ZC,ZA,Zw,Zq,Zy,Zp,Zz,⟨s_a,s_c,s_l⟩,ZG,ZJ⟩,⟨_,1,[(⟨ZM,(⟨4,⟨oa,oi⟩,YB,0,⟨none,0,[]⟩,false,⟨oq,oj⟩,⟨o1a,o1c,o1l⟩⟩:ZP)⟩:Yr)]⟩,by rw [show Wz _ _=_ from h3] <;> rfl,by rw [show Wz _ _=_ from h3,h4],by rw [show Wz _ _=_ from h3,h4] <;> rfl,⟨okt.mono j1,k9.mono j1⟩,j3,fun y hy=>by obtain rfl:=List.mem_singleton.1 hy;exact ⟨⟨SlK.nil,okt.h0.mono j1⟩⟩⟩
       ·replace hc11:=dF hc11
        refine ZK (Zm (l:=[0,1]) rfl ?_);refine YI ?_;refine ZB ?_;refine Zo (Zn (Y_pk [74,32,7,6,5,4,3] ?_))
        refine YA rfl (fun hc16=>?_) (fun hc16=>?_)
        ·replace hc16:=dT hc16
         refine ZK (Zm (l:=[0,1,2,3,4,5,6,7,8]) rfl ?_);refine ZD F.lay32 ?_;refine ZD F.lay44 ?_;refine X_fn rfl rfl F.ok59 rfl (rtold_ok M2 ⟨⟨⟨oa,oi⟩,⟨oq,oj⟩,⟨o1a,o1c,o1l⟩,⟨o2a,o2c,o2l⟩⟩,Zr,Zs,ZH,Zv,ZT,ZC,ZA,Zw,Zq,Zy,Zp,Zz,⟨s_a,s_c,s_l⟩,ZG,ZJ⟩ ⟨Yb,⟨ZM,Ye⟩,YB,l_id,⟨ZY,ZX,ZN⟩,Ys,⟨ZI,ZS⟩,⟨ZZ,ZV,ZL⟩⟩ ⟨okt,k9⟩ hl9m hbo (by simp only;omega)) rfl ?_
         rintro _ M3 hm3 ⟨⟨⟨⟨Yw,YJ⟩,⟨YC,YL⟩,⟨YP,YO,YN⟩,⟨YF,YE,YD⟩⟩,Xz,XF,Wg,XB,WB,XM,XA,Xw,Xo,Xx,Xp,Xy,⟨Xu,Xt,Xs⟩,Wf,We⟩,⟨o_a,o_c,o_l⟩,rfl,hv1,hv2,okv,oko,okq⟩
         refine Zx ?_
         iterate 2 refine XU ?_
         refine YW F.zero32 ?_;intro b17
         refine Xg F.lay32 ?_;refine ZB ?_;refine Zo (Zn (Y_pk [12,11,7,6,5,4,3] ?_));refine ZK (Zm (l:=[0,1,2,3,4]) rfl ?_);refine ZD F.lay32 ?_;refine Zx ?_;refine Xg F.lay32 ?_
         iterate 2 refine ZB ?_
         refine Zo (Zn (Y_pk [6,5,7,4,3] ?_));refine Yo (Xh (YS ?_))
         refine Yk (.inr rfl) (.cell rfl (by repeat first|exact List.Mem.head _|refine List.Mem.tail _ ?_|refine List.mem_append_right _ ?_) F.lay32 rfl rfl (.tmp rfl (.tmp rfl .nil))) (fun w hw=>?_)
         have h3a:=VD hnd9 hlt9 (show Xn (ZR.nd ⟨⟨⟨Za,Zb⟩,⟨Zf,Zh⟩,⟨Zj,Zi,Zg⟩,⟨Ze,Zd,Zc⟩⟩,Zr,Zs,ZH,Zv,ZT,ZC,ZA,Zw,Zq,Zy,Zp,Zz,⟨Zu,Zt,Zl⟩,ZG,ZJ⟩).table.self ⟨ZM,Ye⟩ from by rw [← hnn];show Xn ⟨oa,oi⟩ ⟨ZM,Ye⟩;assumption)
         have h3:=h3a.trans (show _=((XO (ZR.nd ⟨⟨⟨oa,oi⟩,⟨oq,oj⟩,⟨o1a,o1c,o1l⟩,⟨o2a,o2c,o2l⟩⟩,Zr,Zs,ZH,Zv,ZT,ZC,ZA,Zw,Zq,Zy,Zp,Zz,⟨s_a,s_c,s_l⟩,ZG,ZJ⟩) (ZP.lt ⟨Yb,⟨ZM,Ye⟩,YB,l_id,⟨ZY,ZX,ZN⟩,Ys,⟨ZI,ZS⟩,⟨ZZ,ZV,ZL⟩⟩)).1,(XO (ZR.nd ⟨⟨⟨oa,oi⟩,⟨oq,oj⟩,⟨o1a,o1c,o1l⟩,⟨o2a,o2c,o2l⟩⟩,Zr,Zs,ZH,Zv,ZT,ZC,ZA,Zw,Zq,Zy,Zp,Zz,⟨s_a,s_c,s_l⟩,ZG,ZJ⟩) (ZP.lt ⟨Yb,⟨ZM,Ye⟩,YB,l_id,⟨ZY,ZX,ZN⟩,Ys,⟨ZI,ZS⟩,⟨ZZ,ZV,ZL⟩⟩)).2,0) by rw [hnn])
         have h4:XO (ZR.nd ⟨⟨⟨oa,oi⟩,⟨oq,oj⟩,⟨o1a,o1c,o1l⟩,⟨o2a,o2c,o2l⟩⟩,Zr,Zs,ZH,Zv,ZT,ZC,ZA,Zw,Zq,Zy,Zp,Zz,⟨s_a,s_c,s_l⟩,ZG,ZJ⟩) (ZP.lt ⟨Yb,⟨ZM,Ye⟩,YB,l_id,⟨ZY,ZX,ZN⟩,Ys,⟨ZI,ZS⟩,⟨ZZ,ZV,ZL⟩⟩)=UH (ZR.nd ⟨⟨⟨oa,oi⟩,⟨oq,oj⟩,⟨o1a,o1c,o1l⟩,⟨o2a,o2c,o2l⟩⟩,Zr,Zs,ZH,Zv,ZT,ZC,ZA,Zw,Zq,Zy,Zp,Zz,⟨s_a,s_c,s_l⟩,ZG,ZJ⟩) (ZP.lt ⟨Yb,⟨ZM,Ye⟩,YB,l_id,⟨ZY,ZX,ZN⟩,Ys,⟨ZI,ZS⟩,⟨ZZ,ZV,ZL⟩⟩):=does4 (show Yb=4 by omega)
         exact ⟨_,M3,rfl,((hm1.trans hM2).trans hm3),hw.c,⟨⟨⟨Yw,YJ⟩,⟨YC,YL⟩,⟨YP,YO,YN⟩,⟨YF,YE,YD⟩⟩,Xz,XF,Wg,XB,WB,XM,XA,Xw,Xo,Xx,Xp,Xy,⟨Xu,Xt,Xs⟩,Wf,We⟩,⟨o_a,o_c,o_l⟩,by rw [show Wz _ _=_ from h3] <;> rfl,by rw [show Wz _ _=_ from h3,h4] <;> exact hv1,by rw [show Wz _ _=_ from h3,h4] <;> exact hv2,okv,oko,okq⟩
        ·replace hc16:=dF hc16
         refine ZK (Zm (l:=[0,1]) rfl ?_);refine YI ?_;refine ZB ?_;refine Zo (Zn (Y_pk [84,32,7,6,5,4,3] ?_))
         refine YA rfl (fun hc18=>?_) (fun hc18=>?_)
         ·replace hc18:=dT hc18
          refine ZK (Zm (l:=[0,1,2,3,4,5,6]) rfl ?_);refine Zk F.foff32_0 ?_;refine ZD F.lay28 ?_;refine Zk F.foff44_1 ?_;refine ZD F.lay25 ?_;refine X_fn rfl rfl F.ok60 rfl (rLearn_ok M2 ⟨⟨oa,oi⟩,⟨oq,oj⟩,⟨o1a,o1c,o1l⟩,⟨o2a,o2c,o2l⟩⟩ ⟨ZM,Ye⟩ okt hbo) rfl ?_
          rintro _ M3 hm3 ⟨⟨⟨wa,wi⟩,⟨wq,wj⟩,⟨w1a,w1c,w1l⟩,⟨w2a,w2c,w2l⟩⟩,rfl,hol,okl⟩
          refine Zk F.foff32_0 ?_;refine Yh F.lay28 ?_;refine Zo (Zn (Y_pk [7,6,5,4,3] ?_));refine ZK (Zm (l:=[0,1,2,3]) rfl ?_);refine ZD F.lay32 ?_;refine Xg F.lay32 ?_
          iterate 2 refine ZB ?_
          refine Zo (Zn (Y_pk [6,5,7,4,3] ?_));refine Yo (Xh (YS ?_))
          refine Yk (.inr rfl) (.cell rfl (by repeat first|exact List.Mem.head _|refine List.Mem.tail _ ?_|refine List.mem_append_right _ ?_) F.lay32 rfl rfl (.tmp rfl (.tmp rfl .nil))) (fun w hw=>?_)
          have h3a:=VD hnd9 hlt9 (show Xn (ZR.nd ⟨⟨⟨Za,Zb⟩,⟨Zf,Zh⟩,⟨Zj,Zi,Zg⟩,⟨Ze,Zd,Zc⟩⟩,Zr,Zs,ZH,Zv,ZT,ZC,ZA,Zw,Zq,Zy,Zp,Zz,⟨Zu,Zt,Zl⟩,ZG,ZJ⟩).table.self ⟨ZM,Ye⟩ from by rw [← hnn];show Xn ⟨oa,oi⟩ ⟨ZM,Ye⟩;assumption)
          have h3:=h3a.trans (show _=((XO (ZR.nd ⟨⟨⟨oa,oi⟩,⟨oq,oj⟩,⟨o1a,o1c,o1l⟩,⟨o2a,o2c,o2l⟩⟩,Zr,Zs,ZH,Zv,ZT,ZC,ZA,Zw,Zq,Zy,Zp,Zz,⟨s_a,s_c,s_l⟩,ZG,ZJ⟩) (ZP.lt ⟨Yb,⟨ZM,Ye⟩,YB,l_id,⟨ZY,ZX,ZN⟩,Ys,⟨ZI,ZS⟩,⟨ZZ,ZV,ZL⟩⟩)).1,(XO (ZR.nd ⟨⟨⟨oa,oi⟩,⟨oq,oj⟩,⟨o1a,o1c,o1l⟩,⟨o2a,o2c,o2l⟩⟩,Zr,Zs,ZH,Zv,ZT,ZC,ZA,Zw,Zq,Zy,Zp,Zz,⟨s_a,s_c,s_l⟩,ZG,ZJ⟩) (ZP.lt ⟨Yb,⟨ZM,Ye⟩,YB,l_id,⟨ZY,ZX,ZN⟩,Ys,⟨ZI,ZS⟩,⟨ZZ,ZV,ZL⟩⟩)).2,0) by rw [hnn])
          have h4:XO (ZR.nd ⟨⟨⟨oa,oi⟩,⟨oq,oj⟩,⟨o1a,o1c,o1l⟩,⟨o2a,o2c,o2l⟩⟩,Zr,Zs,ZH,Zv,ZT,ZC,ZA,Zw,Zq,Zy,Zp,Zz,⟨s_a,s_c,s_l⟩,ZG,ZJ⟩) (ZP.lt ⟨Yb,⟨ZM,Ye⟩,YB,l_id,⟨ZY,ZX,ZN⟩,Ys,⟨ZI,ZS⟩,⟨ZZ,ZV,ZL⟩⟩)=(ZR.nd ⟨⟨⟨wa,wi⟩,⟨wq,wj⟩,⟨w1a,w1c,w1l⟩,⟨w2a,w2c,w2l⟩⟩,Zr,Zs,ZH,Zv,ZT,ZC,ZA,Zw,Zq,Zy,Zp,Zz,⟨s_a,s_c,s_l⟩,ZG,ZJ⟩,[]):=does5 (show Yb=5 by omega) hol
          exact ⟨_,M3,rfl,((hm1.trans hM2).trans hm3),hw.c,⟨⟨⟨wa,wi⟩,⟨wq,wj⟩,⟨w1a,w1c,w1l⟩,⟨w2a,w2c,w2l⟩⟩,Zr,Zs,ZH,Zv,ZT,ZC,ZA,Zw,Zq,Zy,Zp,Zz,⟨s_a,s_c,s_l⟩,ZG,ZJ⟩,⟨none,0,[]⟩,by rw [show Wz _ _=_ from h3] <;> rfl,by rw [show Wz _ _=_ from h3,h4] <;> rfl,by rw [show Wz _ _=_ from h3,h4] <;> rfl,⟨okl,k9.mono hm3⟩,SlK.nil,fun y hy=>by cases hy⟩
         ·replace hc18:=dF hc18
          refine ZK (Zm (l:=[0,1]) rfl ?_);refine YI ?_;refine ZB ?_;refine Zo (Zn (Y_pk [93,32,7,6,5,4,3] ?_))
          refine YA rfl (fun hc19=>?_) (fun hc19=>?_)
          ·replace hc19:=dT hc19
           refine ZK (C_region_anyPR (Hin:=[(b3,_)]) [0,1,2,3,4,5,6,7,8,10,9,11,12] [10] #[0,0,2,6,0,0,32,112,254,510,241,2047,4095] (by repeat first|exact Rem.here _|exact Rem.two|apply Rem.skip|apply Rem.over) (by kernel_rfl) (by kernel_rfl) ?_);refine ZD F.lay32 ?_;refine Zk F.foff44_1 ?_;refine Zk F.foff25_0 ?_;refine ZD F.lay3 ?_;refine ZD F.lay32 ?_;refine Zk F.foff44_2 ?_;refine ZD F.lay29 ?_;refine X_fs rfl rfl F.ok58 rfl (rlett_ok _ ⟨⟨⟨oa,oi⟩,⟨oq,oj⟩,⟨o1a,o1c,o1l⟩,⟨o2a,o2c,o2l⟩⟩,Zr,Zs,ZH,Zv,ZT,ZC,ZA,Zw,Zq,Zy,Zp,Zz,⟨s_a,s_c,s_l⟩,ZG,ZJ⟩ 7 YB) rfl ?_
           rintro _ rfl
           refine Xr rfl rfl F.bld49 (.cons rfl (by constructor) (.cons rfl (by constructor) .nil)) rfl rfl ?_;refine X_storeE rfl rfl rfl rfl rfl (by constructor) (by ((try simp only [cat,List.cons_append,List.nil_append,List.append_nil]);(repeat (first|exact XG|refine XN ?_|(refine YU ?_ ?_;rfl)));done)) (by repeat first|exact Upd.head|apply Upd.tail|apply Upd.over) F.lay32 (by simp only [ZF.segs,ZQ.segs,ZR.segs,ZP.segs,Yr.segs,ZW.segs,YQ.segs,Yc.segs,cat,List.append_eq,List.cons_append,List.nil_append,List.append_nil,Segs.len,Seg.len,Yt]) (VT (m:=78) rfl (by simp only [ZF.segs,ZQ.segs,ZR.segs,ZP.segs,Yr.segs,ZW.segs,YQ.segs,Yc.segs,cat,List.append_eq,List.cons_append,List.nil_append,List.append_nil,Segs.len,Seg.len,Yt]) (by simp only [ZF.segs,ZQ.segs,ZR.segs,ZP.segs,Yr.segs,ZW.segs,YQ.segs,Yc.segs,cat,List.append_eq,List.cons_append,List.nil_append,List.append_nil,Segs.len,Seg.len,Yt])) (fun _ h=>h.c) ?_
           refine Xq rfl rfl F.elem35 F.zero49 rfl rfl (.cons rfl (by constructor) .nil) rfl rfl (by simp only [List.map_cons,List.map_nil] <;> rfl) rfl ?_;intro b20 hob21
           iterate 2 refine ZB ?_
           refine Zo (WP ?_);refine Zn (Y_pk [6,5,7,4,3] ?_);refine Yo (Xh (YS ?_))
           refine Yk (.inr rfl) (.cell rfl (by repeat first|exact List.Mem.head _|refine List.Mem.tail _ ?_|refine List.mem_append_right _ ?_) F.lay32 rfl rfl (.tmp rfl (.tmp rfl .nil))) (fun w hw=>?_)
           have h3a:=VD hnd9 hlt9 (show Xn (ZR.nd ⟨⟨⟨Za,Zb⟩,⟨Zf,Zh⟩,⟨Zj,Zi,Zg⟩,⟨Ze,Zd,Zc⟩⟩,Zr,Zs,ZH,Zv,ZT,ZC,ZA,Zw,Zq,Zy,Zp,Zz,⟨Zu,Zt,Zl⟩,ZG,ZJ⟩).table.self ⟨ZM,Ye⟩ from by rw [← hnn];show Xn ⟨oa,oi⟩ ⟨ZM,Ye⟩;assumption)
           have h3:=h3a.trans (show _=((XO (ZR.nd ⟨⟨⟨oa,oi⟩,⟨oq,oj⟩,⟨o1a,o1c,o1l⟩,⟨o2a,o2c,o2l⟩⟩,Zr,Zs,ZH,Zv,ZT,ZC,ZA,Zw,Zq,Zy,Zp,Zz,⟨s_a,s_c,s_l⟩,ZG,ZJ⟩) (ZP.lt ⟨Yb,⟨ZM,Ye⟩,YB,l_id,⟨ZY,ZX,ZN⟩,Ys,⟨ZI,ZS⟩,⟨ZZ,ZV,ZL⟩⟩)).1,(XO (ZR.nd ⟨⟨⟨oa,oi⟩,⟨oq,oj⟩,⟨o1a,o1c,o1l⟩,⟨o2a,o2c,o2l⟩⟩,Zr,Zs,ZH,Zv,ZT,ZC,ZA,Zw,Zq,Zy,Zp,Zz,⟨s_a,s_c,s_l⟩,ZG,ZJ⟩) (ZP.lt ⟨Yb,⟨ZM,Ye⟩,YB,l_id,⟨ZY,ZX,ZN⟩,Ys,⟨ZI,ZS⟩,⟨ZZ,ZV,ZL⟩⟩)).2,0) by rw [hnn])
           have h4:XO (ZR.nd ⟨⟨⟨oa,oi⟩,⟨oq,oj⟩,⟨o1a,o1c,o1l⟩,⟨o2a,o2c,o2l⟩⟩,Zr,Zs,ZH,Zv,ZT,ZC,ZA,Zw,Zq,Zy,Zp,Zz,⟨s_a,s_c,s_l⟩,ZG,ZJ⟩) (ZP.lt ⟨Yb,⟨ZM,Ye⟩,YB,l_id,⟨ZY,ZX,ZN⟩,Ys,⟨ZI,ZS⟩,⟨ZZ,ZV,ZL⟩⟩)=((ZR.nd ⟨⟨⟨oa,oi⟩,⟨oq,oj⟩,⟨o1a,o1c,o1l⟩,⟨o2a,o2c,o2l⟩⟩,Zr,Zs,ZH,Zv,ZT,ZC,ZA,Zw,Zq,Zy,Zp,Zz,⟨s_a,s_c,s_l⟩,ZG,ZJ⟩),[Yr.snd (⟨ZM,(⟨7,⟨oa,oi⟩,YB,0,⟨none,0,[]⟩,false,Xf,⟨none,0,[]⟩⟩:ZP)⟩:Yr)]):=does6 (show Yb=6 by omega)
           obtain ⟨M9,j1,j2,j3⟩:=OSl.frz (H:=H) (l:=[(⟨ZM,(⟨7,⟨oa,oi⟩,YB,0,⟨none,0,[]⟩,false,Xf,⟨none,0,[]⟩⟩:ZP)⟩:Yr)]) (f:=Yr.segs) (show OSl 49 68 _ _ ([(⟨ZM,(⟨7,⟨oa,oi⟩,YB,0,⟨none,0,[]⟩,false,Xf,⟨none,0,[]⟩⟩:ZP)⟩:Yr)].map Yr.segs) from hob21) (hw.c)
           exact ⟨_,M9,rfl,Mem.le.trans (hm1.trans hM2) j1,j2,⟨⟨⟨oa,oi⟩,⟨oq,oj⟩,⟨o1a,o1c,o1l⟩,⟨o2a,o2c,o2l⟩⟩,Zr,Zs,ZH,Zv,ZT,ZC,ZA,Zw,Zq,Zy,Zp,Zz,⟨s_a,s_c,s_l⟩,ZG,ZJ⟩,⟨_,1,[(⟨ZM,(⟨7,⟨oa,oi⟩,YB,0,⟨none,0,[]⟩,false,Xf,⟨none,0,[]⟩⟩:ZP)⟩:Yr)]⟩,by rw [show Wz _ _=_ from h3] <;> rfl,by rw [show Wz _ _=_ from h3,h4],by rw [show Wz _ _=_ from h3,h4] <;> rfl,⟨okt.mono j1,k9.mono j1⟩,j3,fun y hy=>by obtain rfl:=List.mem_singleton.1 hy;exact ⟨⟨SlK.nil,SlK.nil⟩⟩⟩
          ·replace hc19:=dF hc19
           refine ZK (Zm (l:=[0,1]) rfl ?_);refine YI ?_;refine ZB ?_;refine Zo (Zn (Y_pk [105,7,6,5,4,3] ?_))
           refine YA rfl (fun hc22=>?_) (fun hc22=>?_)
           ·replace hc22:=dT hc22
            iterate 2 refine ZK ?_
            refine Zm (l:=[0,1,2,3,4,5,6,7,8,9,10,11,12]) rfl ?_;refine Zk F.foff32_8 ?_;refine ZD F.lay3 ?_;refine Zk F.foff44_1 ?_;refine Zk F.foff25_0 ?_;refine ZD F.lay3 ?_;refine YI ?_;refine Zx ?_
            refine Yj 113 rfl (fun hc23=>?_) (fun hc23=>?_)
            ·replace hc23:=dT hc23
             simp only [ZF.eta,ZQ.eta,ZR.eta,ZP.eta,Yr.eta,ZW.eta,YQ.eta,Yc.eta] at hc23
             refine Zk F.foff32_9 ?_;refine ZD F.lay29 ?_;refine Zk F.foff44_2 ?_;refine ZD F.lay29 ?_;refine YI ?_;refine ZO ?_;refine Zo (Zn (Y_pk [119,7,6,5,4,3] ?_))
             refine YA rfl (fun hc24=>?_) (fun hc24=>?_)
             ·replace hc24:=dT hc24
              simp only [ZF.eta,ZQ.eta,ZR.eta,ZP.eta,Yr.eta,ZW.eta,YQ.eta,Yc.eta] at hc24
              refine Zm (l:=[0,1]) rfl ?_;refine Zk F.foff32_8 ?_;refine Yh F.lay3 ?_;refine Zo (Zn (Y_pk [7,6,5,4,3] ?_));refine ZK (Zm (l:=[0,1,2,3]) rfl ?_);refine ZD F.lay32 ?_;refine Xg F.lay32 ?_
              iterate 2 refine ZB ?_
              refine Zo (Zn (Y_pk [6,5,7,4,3] ?_));refine Yo (Xh (YS ?_))
              refine Yk (.inr rfl) (.cell rfl (by repeat first|exact List.Mem.head _|refine List.Mem.tail _ ?_|refine List.mem_append_right _ ?_) F.lay32 rfl rfl (.tmp rfl (.tmp rfl .nil))) (fun w hw=>?_)
              have h3a:=VD hnd9 hlt9 (show Xn (ZR.nd ⟨⟨⟨Za,Zb⟩,⟨Zf,Zh⟩,⟨Zj,Zi,Zg⟩,⟨Ze,Zd,Zc⟩⟩,Zr,Zs,ZH,Zv,ZT,ZC,ZA,Zw,Zq,Zy,Zp,Zz,⟨Zu,Zt,Zl⟩,ZG,ZJ⟩).table.self ⟨ZM,Ye⟩ from by rw [← hnn];show Xn ⟨oa,oi⟩ ⟨ZM,Ye⟩;assumption)
              have h3:=h3a.trans (show _=((XO (ZR.nd ⟨⟨⟨oa,oi⟩,⟨oq,oj⟩,⟨o1a,o1c,o1l⟩,⟨o2a,o2c,o2l⟩⟩,Zr,Zs,ZH,Zv,ZT,ZC,ZA,Zw,Zq,Zy,Zp,Zz,⟨s_a,s_c,s_l⟩,ZG,ZJ⟩) (ZP.lt ⟨Yb,⟨ZM,Ye⟩,YB,l_id,⟨ZY,ZX,ZN⟩,Ys,⟨ZI,ZS⟩,⟨ZZ,ZV,ZL⟩⟩)).1,(XO (ZR.nd ⟨⟨⟨oa,oi⟩,⟨oq,oj⟩,⟨o1a,o1c,o1l⟩,⟨o2a,o2c,o2l⟩⟩,Zr,Zs,ZH,Zv,ZT,ZC,ZA,Zw,Zq,Zy,Zp,Zz,⟨s_a,s_c,s_l⟩,ZG,ZJ⟩) (ZP.lt ⟨Yb,⟨ZM,Ye⟩,YB,l_id,⟨ZY,ZX,ZN⟩,Ys,⟨ZI,ZS⟩,⟨ZZ,ZV,ZL⟩⟩)).2,0) by rw [hnn])
              have h4:XO (ZR.nd ⟨⟨⟨oa,oi⟩,⟨oq,oj⟩,⟨o1a,o1c,o1l⟩,⟨o2a,o2c,o2l⟩⟩,Zr,Zs,ZH,Zv,ZT,ZC,ZA,Zw,Zq,Zy,Zp,Zz,⟨s_a,s_c,s_l⟩,ZG,ZJ⟩) (ZP.lt ⟨Yb,⟨ZM,Ye⟩,YB,l_id,⟨ZY,ZX,ZN⟩,Ys,⟨ZI,ZS⟩,⟨ZZ,ZV,ZL⟩⟩)=(ZR.nd ⟨⟨⟨oa,oi⟩,⟨oq,oj⟩,⟨o1a,o1c,o1l⟩,⟨o2a,o2c,o2l⟩⟩,Zr,Zs,ZH,Zv,ZT,ZC,ZA,-1,Zq,Zy,Zp,Zz,⟨s_a,s_c,s_l⟩,ZG,ZJ⟩,[]):=does7y (show Yb=7 by omega) (show Zw=ZM∧Zq=YB by constructor <;> first|assumption|omega)
              exact ⟨_,M2,rfl,(hm1.trans hM2),hw.c,⟨⟨⟨oa,oi⟩,⟨oq,oj⟩,⟨o1a,o1c,o1l⟩,⟨o2a,o2c,o2l⟩⟩,Zr,Zs,ZH,Zv,ZT,ZC,ZA,-1,Zq,Zy,Zp,Zz,⟨s_a,s_c,s_l⟩,ZG,ZJ⟩,⟨none,0,[]⟩,by rw [show Wz _ _=_ from h3] <;> rfl,by rw [show Wz _ _=_ from h3,h4] <;> rfl,by rw [show Wz _ _=_ from h3,h4] <;> rfl,⟨okt,k9⟩,SlK.nil,fun y hy=>by cases hy⟩
             ·replace hc24:=dF hc24
              simp only [ZF.eta,ZQ.eta,ZR.eta,ZP.eta,Yr.eta,ZW.eta,YQ.eta,Yc.eta] at hc24
              refine YG (Zn (Y_pk [7,6,5,4,3] ?_));refine ZK (Zm (l:=[0,1,2,3]) rfl ?_);refine ZD F.lay32 ?_;refine Xg F.lay32 ?_
              iterate 2 refine ZB ?_
              refine Zo (Zn (Y_pk [6,5,7,4,3] ?_));refine Yo (Xh (YS ?_))
              refine Yk (.inr rfl) (.cell rfl (by repeat first|exact List.Mem.head _|refine List.Mem.tail _ ?_|refine List.mem_append_right _ ?_) F.lay32 rfl rfl (.tmp rfl (.tmp rfl .nil))) (fun w hw=>?_)
              have h3a:=VD hnd9 hlt9 (show Xn (ZR.nd ⟨⟨⟨Za,Zb⟩,⟨Zf,Zh⟩,⟨Zj,Zi,Zg⟩,⟨Ze,Zd,Zc⟩⟩,Zr,Zs,ZH,Zv,ZT,ZC,ZA,Zw,Zq,Zy,Zp,Zz,⟨Zu,Zt,Zl⟩,ZG,ZJ⟩).table.self ⟨ZM,Ye⟩ from by rw [← hnn];show Xn ⟨oa,oi⟩ ⟨ZM,Ye⟩;assumption)
              have h3:=h3a.trans (show _=((XO (ZR.nd ⟨⟨⟨oa,oi⟩,⟨oq,oj⟩,⟨o1a,o1c,o1l⟩,⟨o2a,o2c,o2l⟩⟩,Zr,Zs,ZH,Zv,ZT,ZC,ZA,Zw,Zq,Zy,Zp,Zz,⟨s_a,s_c,s_l⟩,ZG,ZJ⟩) (ZP.lt ⟨Yb,⟨ZM,Ye⟩,YB,l_id,⟨ZY,ZX,ZN⟩,Ys,⟨ZI,ZS⟩,⟨ZZ,ZV,ZL⟩⟩)).1,(XO (ZR.nd ⟨⟨⟨oa,oi⟩,⟨oq,oj⟩,⟨o1a,o1c,o1l⟩,⟨o2a,o2c,o2l⟩⟩,Zr,Zs,ZH,Zv,ZT,ZC,ZA,Zw,Zq,Zy,Zp,Zz,⟨s_a,s_c,s_l⟩,ZG,ZJ⟩) (ZP.lt ⟨Yb,⟨ZM,Ye⟩,YB,l_id,⟨ZY,ZX,ZN⟩,Ys,⟨ZI,ZS⟩,⟨ZZ,ZV,ZL⟩⟩)).2,0) by rw [hnn])
              have h4:XO (ZR.nd ⟨⟨⟨oa,oi⟩,⟨oq,oj⟩,⟨o1a,o1c,o1l⟩,⟨o2a,o2c,o2l⟩⟩,Zr,Zs,ZH,Zv,ZT,ZC,ZA,Zw,Zq,Zy,Zp,Zz,⟨s_a,s_c,s_l⟩,ZG,ZJ⟩) (ZP.lt ⟨Yb,⟨ZM,Ye⟩,YB,l_id,⟨ZY,ZX,ZN⟩,Ys,⟨ZI,ZS⟩,⟨ZZ,ZV,ZL⟩⟩)=(ZR.nd ⟨⟨⟨oa,oi⟩,⟨oq,oj⟩,⟨o1a,o1c,o1l⟩,⟨o2a,o2c,o2l⟩⟩,Zr,Zs,ZH,Zv,ZT,ZC,ZA,Zw,Zq,Zy,Zp,Zz,⟨s_a,s_c,s_l⟩,ZG,ZJ⟩,[]):=does7n (show Yb=7 by omega) (show ¬(Zw=ZM∧Zq=YB) by rintro ⟨q1,q2⟩;first|contradiction|omega)
              exact ⟨_,M2,rfl,(hm1.trans hM2),hw.c,⟨⟨⟨oa,oi⟩,⟨oq,oj⟩,⟨o1a,o1c,o1l⟩,⟨o2a,o2c,o2l⟩⟩,Zr,Zs,ZH,Zv,ZT,ZC,ZA,Zw,Zq,Zy,Zp,Zz,⟨s_a,s_c,s_l⟩,ZG,ZJ⟩,⟨none,0,[]⟩,by rw [show Wz _ _=_ from h3] <;> rfl,by rw [show Wz _ _=_ from h3,h4] <;> rfl,by rw [show Wz _ _=_ from h3,h4] <;> rfl,⟨okt,k9⟩,SlK.nil,fun y hy=>by cases hy⟩
            ·replace hc23:=dF hc23
             simp only [ZF.eta,ZQ.eta,ZR.eta,ZP.eta,Yr.eta,ZW.eta,YQ.eta,Yc.eta] at hc23
             iterate 5 refine Ya ?_
             refine ZO ?_;refine Zo (Zn (Y_pk [119,7,6,5,4,3] ?_));refine Wn rfl ?_;refine YG (Zn (Y_pk [7,6,5,4,3] ?_));refine ZK (Zm (l:=[0,1,2,3]) rfl ?_);refine ZD F.lay32 ?_;refine Xg F.lay32 ?_
             iterate 2 refine ZB ?_
             refine Zo (Zn (Y_pk [6,5,7,4,3] ?_));refine Yo (Xh (YS ?_))
             refine Yk (.inr rfl) (.cell rfl (by repeat first|exact List.Mem.head _|refine List.Mem.tail _ ?_|refine List.mem_append_right _ ?_) F.lay32 rfl rfl (.tmp rfl (.tmp rfl .nil))) (fun w hw=>?_)
             have h3a:=VD hnd9 hlt9 (show Xn (ZR.nd ⟨⟨⟨Za,Zb⟩,⟨Zf,Zh⟩,⟨Zj,Zi,Zg⟩,⟨Ze,Zd,Zc⟩⟩,Zr,Zs,ZH,Zv,ZT,ZC,ZA,Zw,Zq,Zy,Zp,Zz,⟨Zu,Zt,Zl⟩,ZG,ZJ⟩).table.self ⟨ZM,Ye⟩ from by rw [← hnn];show Xn ⟨oa,oi⟩ ⟨ZM,Ye⟩;assumption)
             have h3:=h3a.trans (show _=((XO (ZR.nd ⟨⟨⟨oa,oi⟩,⟨oq,oj⟩,⟨o1a,o1c,o1l⟩,⟨o2a,o2c,o2l⟩⟩,Zr,Zs,ZH,Zv,ZT,ZC,ZA,Zw,Zq,Zy,Zp,Zz,⟨s_a,s_c,s_l⟩,ZG,ZJ⟩) (ZP.lt ⟨Yb,⟨ZM,Ye⟩,YB,l_id,⟨ZY,ZX,ZN⟩,Ys,⟨ZI,ZS⟩,⟨ZZ,ZV,ZL⟩⟩)).1,(XO (ZR.nd ⟨⟨⟨oa,oi⟩,⟨oq,oj⟩,⟨o1a,o1c,o1l⟩,⟨o2a,o2c,o2l⟩⟩,Zr,Zs,ZH,Zv,ZT,ZC,ZA,Zw,Zq,Zy,Zp,Zz,⟨s_a,s_c,s_l⟩,ZG,ZJ⟩) (ZP.lt ⟨Yb,⟨ZM,Ye⟩,YB,l_id,⟨ZY,ZX,ZN⟩,Ys,⟨ZI,ZS⟩,⟨ZZ,ZV,ZL⟩⟩)).2,0) by rw [hnn])
             have h4:XO (ZR.nd ⟨⟨⟨oa,oi⟩,⟨oq,oj⟩,⟨o1a,o1c,o1l⟩,⟨o2a,o2c,o2l⟩⟩,Zr,Zs,ZH,Zv,ZT,ZC,ZA,Zw,Zq,Zy,Zp,Zz,⟨s_a,s_c,s_l⟩,ZG,ZJ⟩) (ZP.lt ⟨Yb,⟨ZM,Ye⟩,YB,l_id,⟨ZY,ZX,ZN⟩,Ys,⟨ZI,ZS⟩,⟨ZZ,ZV,ZL⟩⟩)=(ZR.nd ⟨⟨⟨oa,oi⟩,⟨oq,oj⟩,⟨o1a,o1c,o1l⟩,⟨o2a,o2c,o2l⟩⟩,Zr,Zs,ZH,Zv,ZT,ZC,ZA,Zw,Zq,Zy,Zp,Zz,⟨s_a,s_c,s_l⟩,ZG,ZJ⟩,[]):=does7n (show Yb=7 by omega) (show ¬(Zw=ZM∧Zq=YB) by rintro ⟨q1,q2⟩;first|contradiction|omega)
             exact ⟨_,M2,rfl,(hm1.trans hM2),hw.c,⟨⟨⟨oa,oi⟩,⟨oq,oj⟩,⟨o1a,o1c,o1l⟩,⟨o2a,o2c,o2l⟩⟩,Zr,Zs,ZH,Zv,ZT,ZC,ZA,Zw,Zq,Zy,Zp,Zz,⟨s_a,s_c,s_l⟩,ZG,ZJ⟩,⟨none,0,[]⟩,by rw [show Wz _ _=_ from h3] <;> rfl,by rw [show Wz _ _=_ from h3,h4] <;> rfl,by rw [show Wz _ _=_ from h3,h4] <;> rfl,⟨okt,k9⟩,SlK.nil,fun y hy=>by cases hy⟩
           ·replace hc22:=dF hc22
            refine YG (XR (Zn (Y_pk [7,6,5,4,3] ?_)));refine ZK (Zm (l:=[0,1,2,3,4,5]) rfl ?_);refine ZD F.lay32 ?_;refine ZD F.lay44 ?_;refine X_fn rfl rfl F.ok61 rfl (rbye_ok M2 ⟨⟨⟨oa,oi⟩,⟨oq,oj⟩,⟨o1a,o1c,o1l⟩,⟨o2a,o2c,o2l⟩⟩,Zr,Zs,ZH,Zv,ZT,ZC,ZA,Zw,Zq,Zy,Zp,Zz,⟨s_a,s_c,s_l⟩,ZG,ZJ⟩ ⟨Yb,⟨ZM,Ye⟩,YB,l_id,⟨ZY,ZX,ZN⟩,Ys,⟨ZI,ZS⟩,⟨ZZ,ZV,ZL⟩⟩ ⟨okt,k9⟩ hl9m hbo) rfl ?_
            rintro _ M3 hm3 ⟨⟨⟨⟨Yw,YJ⟩,⟨YC,YL⟩,⟨YP,YO,YN⟩,⟨YF,YE,YD⟩⟩,Xz,XF,Wg,XB,WB,XM,XA,Xw,Xo,Xx,Xp,Xy,⟨Xu,Xt,Xs⟩,Wf,We⟩,rfl,hv1,okv⟩
            refine Xg F.lay32 ?_
            iterate 2 refine ZB ?_
            refine Zo (Zn (Y_pk [6,5,4] ?_));refine Yo ?_
            refine Yk (.inr rfl) (.cell rfl (by repeat first|exact List.Mem.head _|refine List.Mem.tail _ ?_|refine List.mem_append_right _ ?_) F.lay32 rfl rfl (.tmp rfl (.tmp rfl .nil))) (fun w hw=>?_)
            have h3a:=VD hnd9 hlt9 (show Xn (ZR.nd ⟨⟨⟨Za,Zb⟩,⟨Zf,Zh⟩,⟨Zj,Zi,Zg⟩,⟨Ze,Zd,Zc⟩⟩,Zr,Zs,ZH,Zv,ZT,ZC,ZA,Zw,Zq,Zy,Zp,Zz,⟨Zu,Zt,Zl⟩,ZG,ZJ⟩).table.self ⟨ZM,Ye⟩ from by rw [← hnn];show Xn ⟨oa,oi⟩ ⟨ZM,Ye⟩;assumption)
            have h3:=h3a.trans (show _=((XO (ZR.nd ⟨⟨⟨oa,oi⟩,⟨oq,oj⟩,⟨o1a,o1c,o1l⟩,⟨o2a,o2c,o2l⟩⟩,Zr,Zs,ZH,Zv,ZT,ZC,ZA,Zw,Zq,Zy,Zp,Zz,⟨s_a,s_c,s_l⟩,ZG,ZJ⟩) (ZP.lt ⟨Yb,⟨ZM,Ye⟩,YB,l_id,⟨ZY,ZX,ZN⟩,Ys,⟨ZI,ZS⟩,⟨ZZ,ZV,ZL⟩⟩)).1,(XO (ZR.nd ⟨⟨⟨oa,oi⟩,⟨oq,oj⟩,⟨o1a,o1c,o1l⟩,⟨o2a,o2c,o2l⟩⟩,Zr,Zs,ZH,Zv,ZT,ZC,ZA,Zw,Zq,Zy,Zp,Zz,⟨s_a,s_c,s_l⟩,ZG,ZJ⟩) (ZP.lt ⟨Yb,⟨ZM,Ye⟩,YB,l_id,⟨ZY,ZX,ZN⟩,Ys,⟨ZI,ZS⟩,⟨ZZ,ZV,ZL⟩⟩)).2,0) by rw [hnn])
            have hk8:=lt8 hlt9 (show ¬Yb=1 by omega) (show ¬Yb=2 by omega) (show ¬Yb=3 by omega) (show ¬Yb=4 by omega) (show ¬Yb=5 by omega) (show ¬Yb=6 by omega) (show ¬Yb=7 by omega)
            have h4:XO (ZR.nd ⟨⟨⟨oa,oi⟩,⟨oq,oj⟩,⟨o1a,o1c,o1l⟩,⟨o2a,o2c,o2l⟩⟩,Zr,Zs,ZH,Zv,ZT,ZC,ZA,Zw,Zq,Zy,Zp,Zz,⟨s_a,s_c,s_l⟩,ZG,ZJ⟩) (ZP.lt ⟨Yb,⟨ZM,Ye⟩,YB,l_id,⟨ZY,ZX,ZN⟩,Ys,⟨ZI,ZS⟩,⟨ZZ,ZV,ZL⟩⟩)=(byeN (ZR.nd ⟨⟨⟨oa,oi⟩,⟨oq,oj⟩,⟨o1a,o1c,o1l⟩,⟨o2a,o2c,o2l⟩⟩,Zr,Zs,ZH,Zv,ZT,ZC,ZA,Zw,Zq,Zy,Zp,Zz,⟨s_a,s_c,s_l⟩,ZG,ZJ⟩) (ZP.lt ⟨Yb,⟨ZM,Ye⟩,YB,l_id,⟨ZY,ZX,ZN⟩,Ys,⟨ZI,ZS⟩,⟨ZZ,ZV,ZL⟩⟩),[]):=does8 hk8
            exact ⟨_,M3,rfl,((hm1.trans hM2).trans hm3),hw.c,⟨⟨⟨Yw,YJ⟩,⟨YC,YL⟩,⟨YP,YO,YN⟩,⟨YF,YE,YD⟩⟩,Xz,XF,Wg,XB,WB,XM,XA,Xw,Xo,Xx,Xp,Xy,⟨Xu,Xt,Xs⟩,Wf,We⟩,⟨none,0,[]⟩,by rw [show Wz _ _=_ from h3] <;> rfl,by rw [show Wz _ _=_ from h3,h4] <;> exact hv1,by rw [show Wz _ _=_ from h3,h4] <;> rfl,okv,SlK.nil,fun y hy=>by cases hy⟩
end Go.Proofs.YtajmnjefajknoaaGreat
namespace Go.Proofs.YtajmnjefajknoaaGreat
open Go.Esp
end Go.Proofs.YtajmnjefajknoaaGreat
namespace Go.Esp
abbrev IntV:=Int
theorem IntV.flat (x:Int):Esp.flat (oneI .i64 x):=YU rfl XG
def WkF (bw tw:Nat) (M:Mem) (Hout:Hp) (X:Nd×List Snd):Prop :=
  ∃ (n9:ZR) (o9:Sl Yr),Hout=[(bw,rowO (ZW.segs ⟨n9,o9⟩) tw)]∧n9.nd=X.1∧sndl o9.l=X.2∧ZR.ok M n9∧SlK M Yr.segs 68 o9∧∀ y∈o9.l,Yr.ok M y
theorem fh_frz {P:Program} {f:FuncId} {vs:List Value} {M:Mem} {Hin:Hp} {R R':Mem→Value→Hp→Prop} (h:Fh P f vs M Hin R) (hr:∀ M' v Hout H w,R M' v Hout→St M' (Hout++H) w→∃ M'' Hout',M'.le M''∧St M'' (Hout'++H) w∧R' M'' v Hout'):Fh P f vs M Hin R':=fun H w hw =>
  (h H w hw).mono fun _ w' ⟨v,M',Ho,he,hm,hs,h9⟩=>let ⟨M2,Ho2,h1,h2,h3⟩:=hr M' v Ho H w' h9 hs;⟨v,M2,Ho2,he,hm.trans h1,h2,h3⟩
def Um (t:Tb) (a:Int):Tb×Int:=if a≠-1 then (Wm t a,-1) else (t,a)
theorem lost_big {t9 t:Tb} {a:Int} (h:t9=(Um t a).1) (hb:t.succ.length≤40∧t.fingers.length≤200):t9.succ.length≤40∧t9.fingers.length≤200:=by
  unfold Um at h
  split at h
  · exact forget_big h hb
  · subst h;exact hb
theorem lost_ask {n:Nd} {t:Tb} {a:Int} (h:(t,a)=Um n.table n.askTo):{ n with table:=t,askTo:=a }=if n.askTo≠-1 then { n with table:=Wm n.table n.askTo,askTo:=-1 } else n:=by
  unfold Um at h
  by_cases h1:n.askTo≠-1
  · rw [if_pos h1] at h ⊢
    cases h;rfl
  · rw [if_neg h1] at h ⊢
    cases h;rfl
theorem lost_ping {n:Nd} {t:Tb} {a:Int} (h:(t,a)=Um n.table n.pingTo):{ n with table:=t,pingTo:=a }=if n.pingTo≠-1 then { n with table:=Wm n.table n.pingTo,pingTo:=-1 } else n:=by
  unfold Um at h
  by_cases h1:n.pingTo≠-1
  · rw [if_pos h1] at h ⊢
    cases h;rfl
  · rw [if_neg h1] at h ⊢
    cases h;rfl
theorem fix_nil {n:Nd} {t:Tb} {a:Int} (h:(t,a)=Um n.table n.findTo) (h1:n.findTo=-1):{ n with table:=t,avoid:=[],findTo:=a }=if n.findTo=-1 then { n with avoid:=[] } else { n with avoid:=Uu n.avoid n.findTo,table:=Wm n.table n.findTo,findTo:=-1 }:=by
  unfold Um at h
  rw [if_neg (fun q=>q h1)] at h
  rw [if_pos h1]
  cases h;rfl
theorem fix_shun {n:Nd} {t:Tb} {a:Int} {l:List Int} (h:(t,a)=Um n.table n.findTo) (h1:n.findTo≠-1) (hl:l=Uu n.avoid n.findTo):{ n with table:=t,avoid:=l,findTo:=a }=if n.findTo=-1 then { n with avoid:=[] } else { n with avoid:=Uu n.avoid n.findTo,table:=Wm n.table n.findTo,findTo:=-1 }:=by
  unfold Um at h
  rw [if_pos h1] at h
  rw [if_neg h1]
  cases h;subst hl;rfl
theorem shun_len {l l9:List Int} {a:Int} {n:Nat} (h:l9=Uu l a) (hl:l.length≤n):l9.length≤n+1:=by
  subst h
  unfold Uu
  split
  · omega
  · rw [List.length_append]
    simp only [List.length_cons,List.length_nil]
    omega
theorem fix_out {n:Nd} (h:n.joined=false):fixN n=(n,[]):=if_pos h
def endN (n:Nd) (p:ZF):Nd :=
  if n.joined=true∧(Xn n.table.self p∨p=n.table.self) then VW n p
  else if n.joined=false∧Xn n.table.self p then { Vc n p [] with joined:=true,cursor:=0,avoid:=[] }
  else n
theorem end_point {n:Nd} {p:ZF} (h:n.joined=true) (h1:Xn n.table.self p∨p=n.table.self):endN n p=VW n p:=if_pos ⟨h,h1⟩
theorem end_adopt {n m:Nd} {p:ZF} (h:n.joined=false) (h1:Xn n.table.self p) (hm:m=Vc n p []):endN n p={ m with joined:=true,cursor:=0,avoid:=[] }:=by
  subst hm
  unfold endN
  rw [if_neg (by rw [h];simp),if_pos ⟨h,h1⟩]
theorem end_not {n:Nd} {p:ZF} (h:n.joined=true→¬Xn n.table.self p∧p≠n.table.self) (h1:n.joined=false→¬Xn n.table.self p):endN n p=n:=by
  unfold endN
  rw [if_neg (by rintro ⟨q1,q2|q2⟩;exact (h q1).1 q2;exact (h q1).2 q2),if_neg (by rintro ⟨q1,q2⟩;exact h1 q1 q2)]
theorem found_end {n:Nd} {l:Lt} (h1:n.findTo=l.frm.addr) (h2:n.findReq=l.req) (h3:l.done=true):Uj n l=(endN { n with findTo:=-1 } l.peer,[]):=by
  rw [found_in h1 h2,if_pos h3]
  unfold endN
  by_cases h:n.joined=true∧(Xn n.table.self l.peer∨l.peer=n.table.self)
  · rw [if_pos h,if_pos h]
  · rw [if_neg h,if_neg h]
    by_cases h:n.joined=false∧Xn n.table.self l.peer
    · rw [if_pos h,if_pos h]
    · rw [if_neg h,if_neg h]
theorem find_no {n:Nd} {l:Lt} (h:n.joined=false):UL n l=[]:=if_pos h
theorem find_yes {n:Nd} {l:Lt} {d q:ZF×Bool} (h:n.joined=true) (hd:VL n.table l.id=d) (hq:Wj n.table l.id l.avoid=q):UL n l=[⟨l.frm.addr,{ lett n 2 l.req with done:=d.2 || !q.2,peer:=if d.2 || !q.2 then d.1 else q.1 }⟩]:=by
  subst hd hq
  exact if_neg (by rw [h];decide)
def tickL (a b c:Nat):IM:=VX (VX (VX [] 1 (.func (.func a) #[] #[])) 2 (.func (.func b) #[] #[])) 3 (.func (.func c) #[] #[])
theorem tickL1 {a b c:Nat}:(Vt (tickL a b c) 1).getD .nilFunc=.func (.func a) #[] #[]:=rfl
theorem tickL2 {a b c:Nat}:(Vt (tickL a b c) 2).getD .nilFunc=.func (.func b) #[] #[]:=rfl
theorem tickL3 {a b c:Nat}:(Vt (tickL a b c) 3).getD .nilFunc=.func (.func c) #[] #[]:=rfl
theorem tickL0 {a b c:Nat} {k:Int} (h:¬(1≤k∧k≤3)):(Vt (tickL a b c) k).getD .nilFunc=.nilFunc:=by
  show (Vt [(1,Value.func (.func a) #[] #[]),(2,.func (.func b) #[] #[]),(3,.func (.func c) #[] #[])] k).getD .nilFunc=.nilFunc
  simp only [Vt]
  rw [if_neg (by omega),if_neg (by omega),if_neg (by omega)]
  rfl
theorem setParts_first {z r:Segs} {zs:List Segs} (h:Segs.len z=Segs.len r):VH (z::zs) [(0,r)]=some (r::zs):=by
  have h1:=setPart_at [] z r zs h
  simp only [List.nil_append,List.length_nil] at h1
  unfold VH
  rw [h1]
  rfl
theorem fh_thaw {α:Type} {T sz k cp:Nat} {f:α→Segs} {l:List α} {ad:Option Addr} {hs Hin:Hp} {P:Program} {g:FuncId} {vs:List Value} {M:Mem} {R:Mem→Value→Hp→Prop} (ho:OSl T sz (.slice ad k cp) hs (l.map f)) (h:∀ M',M.le M'→SlK M' f sz ⟨ad,cp,l⟩→Fh P g vs M' Hin R):Fh P g vs M (Hin++hs) R:=fun H w hw=>by
  obtain ⟨M',h1,h2,h3⟩:=ho.frz (H:=Hin++H) (hw.cnt (by intro zz;simp only [cnt_app];omega))
  exact (h M' h1 h3 H w h2).mono fun e w' ⟨v,M2,Ho,he,hm,hs,hr⟩=>⟨v,M2,Ho,he,h1.trans hm,hs,hr⟩
end Go.Esp
namespace Go.Proofs.YtajmnjefajknoaaGreat
open Go.Esp
theorem F.foff68_0:foff Tryz.prog 68 0=some 0:=by kernel_rfl
theorem F.foff68_1:foff Tryz.prog 68 1=some 78:=by kernel_rfl
theorem F.lay35:lay Tryz.prog 35=some (false,1):=by kernel_rfl
theorem F.ok65:okFn Tryz.prog 65=true:=by kernel_rfl
theorem F.ok83:okFn Tryz.prog 83=true:=by kernel_rfl
theorem F.ok91:okFn Tryz.prog 91=true:=by kernel_rfl
theorem CloneI_nil (M:Mem) (c:Nat) (l:List IntV) (k:SlK M (oneI .i64) 1 ⟨none,c,l⟩) (hb:l.length≤1000000):Fh Tryz.prog 91 [.slice none l.length c] M [] (fun M' v Hout=>M'=M∧OSl 3 1 v Hout (l.map (oneI .i64))):=by
  have hl0:l=[]:=SlM.none_nil k.h1
  subst hl0
  have hl0:([]:List IntV).map (oneI .i64)=[]:=rfl
  refine fh_enter Tryz.func91 rfl Tryz.ntmps91 rfl ?_;intro H
  refine ZK (Zm (l:=[0]) rfl ?_);refine ZB ?_;refine Zo (Zn ?_)
  iterate 2 refine ZK ?_
  refine Zm (l:=[0,1]) rfl ?_;refine Zx ?_;refine Y_nil Tryz.underlying30 ?_;refine Zo (Zn (Y_pk [4,2,0] ?_))
  refine YA rfl (fun hc1=>?_) (fun hc1=>?_)
  ·skip
   refine ZK (Zm (l:=[0]) rfl ?_);refine ZB ?_;refine Zo (Zn (Y_pk [2,0] ?_));refine Yo (YS ?_)
   refine Yk (.inr rfl) (.tmp rfl .nil) (fun w hw=>?_)
   exact ⟨_,M,[],rfl,Mem.le.refl M,hw.c,rfl,by rw [hl0];exact OSl.nil⟩
  ·skip
   (exfalso;simp [eqX] at hc1;done)
theorem CloneI_some (M:Mem) (ad:Addr) (c:Nat) (l:List IntV) (k:SlK M (oneI .i64) 1 ⟨some ad,c,l⟩) (hb:l.length≤1000000):Fh Tryz.prog 91 [.slice (some ad) l.length c] M [] (fun M' v Hout=>M'=M∧OSl 3 1 v Hout (l.map (oneI .i64))):=by
  have hml:l.length=(l.map (oneI .i64)).length:=(List.length_map ..).symm
  refine fh_enter Tryz.func91 rfl Tryz.ntmps91 rfl ?_;intro H
  refine ZK (Zm (l:=[0]) rfl ?_);refine ZB ?_;refine Zo (Zn ?_)
  iterate 2 refine ZK ?_
  refine Zm (l:=[0,1]) rfl ?_;refine Zx ?_;refine Y_nil Tryz.underlying30 ?_;refine Zo (Zn (Y_pk [4,2,0] ?_))
  refine YA rfl (fun hc1=>?_) (fun hc1=>?_)
  ·skip
   (exfalso;simp [eqX] at hc1;done)
  ·skip
   refine YG (Zn (Y_pk [2,0] ?_));refine ZK (Zm (l:=[0,1,2,3]) rfl ?_)
   refine Xq rfl rfl F.elem30 F.zero3 rfl rfl (.nil) rfl rfl (by simp only [List.map_cons,List.map_nil] <;> rfl) rfl ?_;intro b2 hob3
   refine Zx ?_
   refine Vh (m:=1000000) rfl rfl rfl rfl rfl F.elem30 F.zero3 (by rfl) rfl (by assumption) (by repeat first|exact Rem.here _|exact Rem.two|apply Rem.skip|apply Rem.over) (SlM.src k.h1 (rows_one IntV.flat _) hml) (by (simp;omega)) (by decide) rfl ?_;intro v6 hs5 ho4;obtain ⟨adv6,cpv6,rfl⟩:=ho4.val
   refine ZB ?_;refine Zo (Zn (Y_pk [2] ?_));refine Yo ?_
   refine Yk (.inr rfl) (.tmp rfl .nil) (fun w hw=>?_)
   exact ⟨_,M,_,rfl,Mem.le.refl M,hw.c,rfl,by assumption⟩
theorem CloneI_ok (M:Mem) (a:Option Addr) (c:Nat) (l:List IntV) (k:SlK M (oneI .i64) 1 ⟨a,c,l⟩) (hb:l.length≤1000000):Fh Tryz.prog 91 [.slice a l.length c] M [] (fun M' v Hout=>M'=M∧OSl 3 1 v Hout (l.map (oneI .i64))):=by
  cases a with
  |none=>exact CloneI_nil M c l k hb
  |some ad=>exact CloneI_some M ad c l k hb
theorem send_ok (M:Mem) (bw:Nat) (Za:Int) (Zb:Plc) (Zf:Int) (Zh:Plc) (Zj Ze Zu:Option Addr) (Zi Zd Zt:Nat) (Zg Zc:List ZF) (Zl:List Int) (Zr:Int) (Zs:Bool) (ZH Zv ZT ZC ZA Zw Zq Zy Zp:Int) (Zz:Plc) (ZG ZJ:Int) (o_a:Option Addr) (o_c:Nat) (o_l:List Yr) (ho:Hp) (hO:OSl 49 68 (.slice o_a o_l.length o_c) ho (o_l.map Yr.segs)) (hL:o_l.length≤1000) (to:Int) (l:ZP):Fh Tryz.prog 65 [.pointer (some ⟨bw,0,none⟩),.int .i64 to,l.enc] M ((bw,rowO (ZW.segs ⟨⟨⟨⟨Za,Zb⟩,⟨Zf,Zh⟩,⟨Zj,Zi,Zg⟩,⟨Ze,Zd,Zc⟩⟩,Zr,Zs,ZH,Zv,ZT,ZC,ZA,Zw,Zq,Zy,Zp,Zz,⟨Zu,Zt,Zl⟩,ZG,ZJ⟩,⟨o_a,o_c,o_l⟩⟩) 68)::ho) (fun M' v Hout=>M'=M∧v=.tuple #[]∧∃ (o9:Sl Yr) (ho9:Hp),Hout=(bw,rowO (ZW.segs ⟨⟨⟨⟨Za,Zb⟩,⟨Zf,Zh⟩,⟨Zj,Zi,Zg⟩,⟨Ze,Zd,Zc⟩⟩,Zr,Zs,ZH,Zv,ZT,ZC,ZA,Zw,Zq,Zy,Zp,Zz,⟨Zu,Zt,Zl⟩,ZG,ZJ⟩,o9⟩) 68)::ho9∧OSl 49 68 o9.val ho9 (o9.l.map Yr.segs)∧o9.l=o_l++[⟨to,{ l with frm:=⟨Za,Zb⟩ }⟩]):=by
  obtain ⟨Yb,⟨ZM,Ye⟩,YB,l_id,⟨ZY,ZX,ZN⟩,Ys,⟨ZI,ZS⟩,⟨ZZ,ZV,ZL⟩⟩:=l
  refine Wt (fun H=>(bw,rowO (ZW.segs ⟨⟨⟨⟨Za,Zb⟩,⟨Zf,Zh⟩,⟨Zj,Zi,Zg⟩,⟨Ze,Zd,Zc⟩⟩,Zr,Zs,ZH,Zv,ZT,ZC,ZA,Zw,Zq,Zy,Zp,Zz,⟨Zu,Zt,Zl⟩,ZG,ZJ⟩,⟨o_a,o_c,o_l⟩⟩) 68)::(ho++H)) (fun _=>by simp only [List.append_assoc,List.cons_append,List.nil_append]) Tryz.func65 rfl Tryz.ntmps65 rfl ?_;intro H
  refine ZK (Zm (l:=[0]) rfl ?_)
  refine Xk ?_;intro b1
  refine Zo (Zn (Y_pk [5,0,1] ?_));refine ZK (Zm (l:=[0,1,2,3,4,5,6,7]) rfl ?_);refine Zx ?_;refine Yn ?_;refine Zk F.foff68_0 ?_;refine Zk F.foff32_0 ?_;refine Zk F.foff28_0 ?_;refine ZD F.lay25 ?_;refine Zk F.foff44_1 ?_;refine Yh F.lay25 ?_;refine Zo (Zn (Y_pk [5,0,1] ?_));refine YK (l:=[0,1,2,3,4,5,6,7,8,9,10,11,12]) #[0,0,2,6,14,0,0,96,224,510,1023,2047,4095] _ rfl (by kernel_rfl) (by kernel_rfl) St.drawn (fun _ h=>h) ?_
  iterate 2 refine Zx ?_
  refine Yn ?_;refine Zk F.foff68_1 ?_;refine ZD F.lay35 ?_;refine Zx ?_;refine ZD F.lay44 ?_;refine Xr rfl rfl F.bld49 (.cons rfl (by constructor) (.cons rfl (by constructor) .nil)) rfl rfl ?_
  refine Xq rfl rfl F.elem35 F.zero49 rfl rfl (.cons rfl (by constructor) .nil) rfl rfl (by simp only [List.map_cons,List.map_nil] <;> rfl) rfl ?_;intro b2 hob3
  refine Vh (m:=1000000) rfl rfl rfl rfl rfl F.elem35 F.zero49 (by exact Ww rfl) rfl (by assumption) (by repeat first|exact Rem.here _|exact Rem.two|apply Rem.skip|apply Rem.over) (Src.own hob3.lens (by (refine Vv ?_;(repeat (first|exact XG|refine XN ?_|(refine YU ?_ ?_;rfl)));done)) rfl (by repeat first|exact List.Mem.head _|refine List.Mem.tail _ ?_|refine List.mem_append_right _ ?_)) (by (simp;omega)) (by decide) rfl ?_;intro v6 hs5 ho4;obtain ⟨adv6,cpv6,rfl⟩:=ho4.valAt (n:=o_l.length+1) (by (simp;done))
  refine Yn ?_;refine Zk F.foff68_1 ?_;refine Yh F.lay35 ?_;refine Zo ?_
  refine Yk (.inl rfl) (.nil) (fun w hw=>?_)
  have h9:=ho4
  have hln:o_l.length+1=(o_l++[(⟨to,(⟨Yb,⟨Za,Zb⟩,YB,l_id,⟨ZY,ZX,ZN⟩,Ys,⟨ZI,ZS⟩,⟨ZZ,ZV,ZL⟩⟩:ZP)⟩:Yr)]).length:=by rw [List.length_append];rfl
  rw [hln] at hw h9
  refine ⟨_,M,(bw,rowO (ZW.segs ⟨⟨⟨⟨Za,Zb⟩,⟨Zf,Zh⟩,⟨Zj,Zi,Zg⟩,⟨Ze,Zd,Zc⟩⟩,Zr,Zs,ZH,Zv,ZT,ZC,ZA,Zw,Zq,Zy,Zp,Zz,⟨Zu,Zt,Zl⟩,ZG,ZJ⟩,(⟨adv6,cpv6,o_l++[(⟨to,(⟨Yb,⟨Za,Zb⟩,YB,l_id,⟨ZY,ZX,ZN⟩,Ys,⟨ZI,ZS⟩,⟨ZZ,ZV,ZL⟩⟩:ZP)⟩:Yr)]⟩:Sl Yr)⟩) 68)::hs5,rfl,Mem.le.refl M,?_,rfl,rfl,(⟨adv6,cpv6,o_l++[(⟨to,(⟨Yb,⟨Za,Zb⟩,YB,l_id,⟨ZY,ZX,ZN⟩,Ys,⟨ZI,ZS⟩,⟨ZZ,ZV,ZL⟩⟩:ZP)⟩:Yr)]⟩:Sl Yr),hs5,rfl,?_,rfl⟩
  ·simp only [ZW.segs,Sl.val,List.length_nil] at hw ⊢
   exact hw.c
  ·exact OSl.as9 h9 (by rw [List.map_append];rfl)
theorem sendF_ok (M:Mem) (bw:Nat) (Za:Int) (Zb:Plc) (Zf:Int) (Zh:Plc) (Zj Ze Zu:Option Addr) (Zi Zd Zt:Nat) (Zg Zc:List ZF) (Zl:List Int) (Zr:Int) (Zs:Bool) (ZH Zv ZT ZC ZA Zw Zq Zy Zp:Int) (Zz:Plc) (ZG ZJ:Int) (to:Int) (l:ZP):Fh Tryz.prog 65 [.pointer (some ⟨bw,0,none⟩),.int .i64 to,l.enc] M [(bw,rowO (ZW.segs ⟨⟨⟨⟨Za,Zb⟩,⟨Zf,Zh⟩,⟨Zj,Zi,Zg⟩,⟨Ze,Zd,Zc⟩⟩,Zr,Zs,ZH,Zv,ZT,ZC,ZA,Zw,Zq,Zy,Zp,Zz,⟨Zu,Zt,Zl⟩,ZG,ZJ⟩,⟨none,0,[]⟩⟩) 68)] (fun M' v Hout=>v=.tuple #[]∧∃ (o9:Sl Yr),Hout=[(bw,rowO (ZW.segs ⟨⟨⟨⟨Za,Zb⟩,⟨Zf,Zh⟩,⟨Zj,Zi,Zg⟩,⟨Ze,Zd,Zc⟩⟩,Zr,Zs,ZH,Zv,ZT,ZC,ZA,Zw,Zq,Zy,Zp,Zz,⟨Zu,Zt,Zl⟩,ZG,ZJ⟩,o9⟩) 68)]∧SlK M' Yr.segs 68 o9∧o9.l=[⟨to,{ l with frm:=⟨Za,Zb⟩ }⟩]):=by
  refine fh_frz (send_ok M bw _ _ _ _ _ _ _ _ _ _ _ _ _ _ _ _ _ _ _ _ _ _ _ _ _ _ _ none 0 [] [] OSl.nil (by simp) to l) ?_
  rintro M' v _ H w ⟨rfl,rfl,⟨o9a,o9c,o9l⟩,ho9,rfl,hO9,hl9⟩ hs
  simp only at hl9 hO9
  simp only [Sl.val] at hO9
  obtain ⟨M2,j1,j2,j3⟩:=OSl.frz (H:=(bw,rowO (ZW.segs ⟨⟨⟨⟨Za,Zb⟩,⟨Zf,Zh⟩,⟨Zj,Zi,Zg⟩,⟨Ze,Zd,Zc⟩⟩,Zr,Zs,ZH,Zv,ZT,ZC,ZA,Zw,Zq,Zy,Zp,Zz,⟨Zu,Zt,Zl⟩,ZG,ZJ⟩,⟨o9a,o9c,o9l⟩⟩) 68)::H) hO9 (hs.c)
  exact ⟨M2,_,j1,j2,rfl,⟨o9a,o9c,o9l⟩,rfl,j3,hl9⟩
theorem request_ok (M:Mem) (bw:Nat) (Za:Int) (Zb:Plc) (Zf:Int) (Zh:Plc) (Zj Ze Zu:Option Addr) (Zi Zd Zt:Nat) (Zg Zc:List ZF) (Zl:List Int) (Zr:Int) (Zs:Bool) (ZH Zv ZT ZC ZA Zw Zq Zy Zp:Int) (Zz:Plc) (ZG ZJ:Int) (to:Int) (l:ZP):Fh Tryz.prog 83 [.pointer (some ⟨bw,0,none⟩),.int .i64 to,l.enc] M [(bw,rowO (ZW.segs ⟨⟨⟨⟨Za,Zb⟩,⟨Zf,Zh⟩,⟨Zj,Zi,Zg⟩,⟨Ze,Zd,Zc⟩⟩,Zr,Zs,ZH,Zv,ZT,ZC,ZA,Zw,Zq,Zy,Zp,Zz,⟨Zu,Zt,Zl⟩,ZG,ZJ⟩,⟨none,0,[]⟩⟩) 68)] (fun M' v Hout=>v=.int .u64 (nxR ZT)∧∃ (o9:Sl Yr),Hout=[(bw,rowO (ZW.segs ⟨⟨⟨⟨Za,Zb⟩,⟨Zf,Zh⟩,⟨Zj,Zi,Zg⟩,⟨Ze,Zd,Zc⟩⟩,Zr,Zs,ZH,Zv,(nxR ZT),ZC,ZA,Zw,Zq,Zy,Zp,Zz,⟨Zu,Zt,Zl⟩,ZG,ZJ⟩,o9⟩) 68)]∧SlK M' Yr.segs 68 o9∧o9.l=[⟨to,{ l with frm:=⟨Za,Zb⟩,req:=nxR ZT,peer:=Xf }⟩]):=by
  obtain ⟨Yb,⟨ZM,Ye⟩,YB,l_id,⟨ZY,ZX,ZN⟩,Ys,⟨ZI,ZS⟩,⟨ZZ,ZV,ZL⟩⟩:=l
  refine Wt (fun H=>(bw,rowO (ZW.segs ⟨⟨⟨⟨Za,Zb⟩,⟨Zf,Zh⟩,⟨Zj,Zi,Zg⟩,⟨Ze,Zd,Zc⟩⟩,Zr,Zs,ZH,Zv,ZT,ZC,ZA,Zw,Zq,Zy,Zp,Zz,⟨Zu,Zt,Zl⟩,ZG,ZJ⟩,⟨none,0,[]⟩⟩) 68)::H) (fun _=>by simp only [List.append_assoc,List.cons_append,List.nil_append]) Tryz.func83 rfl Tryz.ntmps83 rfl ?_;intro H
  refine ZK (Zm (l:=[0,1]) rfl ?_)
  refine Xk ?_;intro b1
  refine ZB ?_;refine Zo (Zn (Y_pk [6,5,0,1] ?_));refine ZK (Zm (l:=[0,1,2,3,4,5,6,7,8,9]) rfl ?_);refine Zx ?_;refine Yn ?_;refine Zk F.foff68_0 ?_;refine Zk F.foff32_5 ?_;refine ZD F.lay29 ?_;refine XE rfl rfl rfl rfl rfl (by exact wrap_u64 _) rfl ?_
  obtain ⟨r9,hr9⟩:∃ v,nxR ZT=v:=⟨_,rfl⟩
  refine VA 12 rfl (show _=Value.int .u64 r9 from by rw [← hr9];exact congrArg (Value.int .u64) (nx_w64 ZT)) ?_;refine Yn ?_;refine Zk F.foff68_0 ?_;refine Zk F.foff32_5 ?_;refine Yh F.lay29 ?_;refine Zo (Zn (Y_pk [6,5,0,1] ?_));refine ZK (YK (l:=[0,1,2,3,4,5,6,7,8,9]) #[0,1,3,7,15,0,31,127,255,511] _ rfl (by kernel_rfl) (by kernel_rfl) St.drawn (fun _ h=>h) ?_);refine Zx ?_;refine Yn ?_;refine Zk F.foff68_0 ?_;refine Zk F.foff32_5 ?_;refine ZD F.lay29 ?_;refine X_fs rfl rfl F.ok66 rfl (VG _) rfl ?_
  rintro _ rfl
  refine VA 21 rfl (show _=aggV [.one (.int .i64 (-1)),Yt 0] from rfl) ?_;refine Zk F.foff44_2 ?_;refine Yh F.lay29 ?_;refine Zk F.foff44_6 ?_;refine Yh F.lay25 ?_;refine Zo (Zn (Y_pk [6,5,0,1] ?_));refine ZK (Wb (l:=[0,1,2,3]) [3] rfl ?_)
  iterate 2 refine Zx ?_
  refine ZD F.lay44 ?_;refine Vp rfl rfl rfl F.ok65 rfl (sendF_ok M bw _ _ _ _ _ _ _ _ _ _ _ _ _ _ _ _ _ _ _ _ _ _ _ _ _ _ _ to ⟨Yb,⟨ZM,Ye⟩,r9,l_id,⟨ZY,ZX,ZN⟩,Ys,⟨-1,0⟩,⟨ZZ,ZV,ZL⟩⟩) (by repeat first|exact Rem.here _|exact Rem.two|apply Rem.skip|apply Rem.over) (YV rfl) ?_
  rintro _ M1 hs1 hm1 ⟨rfl,⟨o9a,o9c,o9l⟩,rfl,k9,hl9⟩
  simp only at hl9
  simp only [List.append_assoc,List.cons_append,List.nil_append]
  refine Zo (WP ?_);refine Zn (Y_pk [6,0] ?_);refine ZK (Zm (l:=[0,1,2,3,4,5]) rfl ?_);refine Zx ?_;refine Yn ?_;refine Zk F.foff68_0 ?_;refine Zk F.foff32_5 ?_;refine ZD F.lay29 ?_;refine ZB ?_;refine Zo (Zn (Y_pk [6] ?_));refine Yo ?_
  refine Yk (.inr rfl) (.tmp rfl .nil) (fun w hw=>?_)
  refine ⟨_,M1,[(bw,rowO (ZW.segs ⟨⟨⟨⟨Za,Zb⟩,⟨Zf,Zh⟩,⟨Zj,Zi,Zg⟩,⟨Ze,Zd,Zc⟩⟩,Zr,Zs,ZH,Zv,r9,ZC,ZA,Zw,Zq,Zy,Zp,Zz,⟨Zu,Zt,Zl⟩,ZG,ZJ⟩,⟨o9a,o9c,o9l⟩⟩) 68)],rfl,hm1,hw.c,?_,⟨o9a,o9c,o9l⟩,?_,k9,?_⟩
  ·rw [hr9];rfl
  ·rw [hr9]
  ·rw [hr9];exact hl9
theorem seek_ok (M:Mem) (bw:Nat) (Za:Int) (Zb:Plc) (Zf:Int) (Zh:Plc) (Zj Ze Zu:Option Addr) (Zi Zd Zt:Nat) (Zg Zc:List ZF) (Zl:List Int) (Zr:Int) (Zs:Bool) (ZH Zv ZT ZC ZA Zw Zq Zy Zp:Int) (Zz:Plc) (ZG ZJ:Int) (Yv:ZQ.ok M ⟨⟨Za,Zb⟩,⟨Zf,Zh⟩,⟨Zj,Zi,Zg⟩,⟨Ze,Zd,Zc⟩⟩) (Yz:SlK M (oneI .i64) 1 ⟨Zu,Zt,Zl⟩) (hLa:Zl.length≤1000) (to:Int):Fh Tryz.prog 89 [.pointer (some ⟨bw,0,none⟩),.int .i64 to] M [(bw,rowO (ZW.segs ⟨⟨⟨⟨Za,Zb⟩,⟨Zf,Zh⟩,⟨Zj,Zi,Zg⟩,⟨Ze,Zd,Zc⟩⟩,Zr,Zs,ZH,Zv,ZT,ZC,ZA,Zw,Zq,Zy,Zp,Zz,⟨Zu,Zt,Zl⟩,ZG,ZJ⟩,⟨none,0,[]⟩⟩) 68)] (fun M' v Hout=>v=.tuple #[]∧WkF bw 68 M' Hout (UC (ZR.nd ⟨⟨⟨Za,Zb⟩,⟨Zf,Zh⟩,⟨Zj,Zi,Zg⟩,⟨Ze,Zd,Zc⟩⟩,Zr,Zs,ZH,Zv,ZT,ZC,ZA,Zw,Zq,Zy,Zp,Zz,⟨Zu,Zt,Zl⟩,ZG,ZJ⟩) to)):=by
  refine Wt (fun H=>(bw,rowO (ZW.segs ⟨⟨⟨⟨Za,Zb⟩,⟨Zf,Zh⟩,⟨Zj,Zi,Zg⟩,⟨Ze,Zd,Zc⟩⟩,Zr,Zs,ZH,Zv,ZT,ZC,ZA,Zw,Zq,Zy,Zp,Zz,⟨Zu,Zt,Zl⟩,ZG,ZJ⟩,⟨none,0,[]⟩⟩) 68)::H) (fun _=>by simp only [List.append_assoc,List.cons_append,List.nil_append]) Tryz.func89 rfl Tryz.ntmps89 rfl ?_;intro H
  refine ZK (Zm (l:=[0,1,2,3,4,5]) rfl ?_)
  iterate 2 refine Zx ?_
  refine Yn ?_;refine Zk F.foff68_0 ?_;refine Zk F.foff32_10 ?_;refine Yh F.lay3 ?_;refine Zo (Zn (Y_pk [0,1] ?_));refine C_region_anyW (l:=[0,1,2,3,4,5,6,7,8,9,10,11,12,13,14,15,16,17,18,19]) [15] #[0,0,0,0,8,24,56,120,0,256,768,1792,3840,7936,16376,32766,65535,131071,262143,524287] (_) rfl (by kernel_rfl) (by kernel_rfl) St.drawn (fun _ h=>h) ?_
  iterate 4 refine Zx ?_
  refine Yn ?_;refine Zk F.foff68_0 ?_;refine Zk F.foff32_12 ?_;refine ZD F.lay23 ?_;refine Zx ?_;refine Yn ?_;refine Zk F.foff68_0 ?_;refine Zk F.foff32_13 ?_;refine ZD F.lay30 ?_;refine Ur rfl rfl F.ok91 rfl (CloneI_ok M Zu Zt Zl Yz (by omega)) (by repeat first|exact Rem.here _|exact Rem.two|apply Rem.skip|apply Rem.over) (fun _ _ _ hm hw=>(hw.lower (by exact hm)).c) (YV rfl) ?_
  rintro v0 M1 hs0 hm1 ⟨hM1,ho0⟩;subst M1
  obtain ⟨ad0,cp0,rfl⟩:=ho0.valL
  refine Xr rfl rfl F.bld44 (.cons rfl (by constructor) (.cons rfl (by constructor) (.cons rfl (by constructor) .nil))) rfl rfl ?_;refine Vp rfl rfl rfl F.ok83 rfl (request_ok M bw _ _ _ _ _ _ _ _ _ _ _ _ _ _ _ _ _ _ _ _ _ _ _ _ _ _ _ to ⟨1,⟨0,0⟩,0,Zz,⟨ad0,cp0,Zl⟩,false,⟨0,0⟩,⟨none,0,[]⟩⟩) (by repeat first|exact Rem.here _|exact Rem.two|apply Rem.skip|apply Rem.over) (YV rfl) ?_
  rintro _ M2 hs2 hm2 ⟨rfl,⟨o9a,o9c,o9l⟩,rfl,k9,hl9⟩
  simp only at hl9
  simp only [List.append_assoc,List.cons_append,List.nil_append]
  refine Yn ?_;refine Zk F.foff68_0 ?_;refine Zk F.foff32_11 ?_;refine Yh F.lay29 ?_;refine Zo (WP ?_)
  refine Yk (.inl rfl) (.nil) (fun w hw=>?_)
  obtain ⟨M9,j1,j2,j3⟩:=OSl.frz (H:=(bw,rowO (ZW.segs ⟨⟨⟨⟨Za,Zb⟩,⟨Zf,Zh⟩,⟨Zj,Zi,Zg⟩,⟨Ze,Zd,Zc⟩⟩,Zr,Zs,ZH,Zv,(nxR ZT),ZC,ZA,Zw,Zq,to,(nxR ZT),Zz,⟨Zu,Zt,Zl⟩,ZG,ZJ⟩,⟨o9a,o9c,o9l⟩⟩) 68)::H) (show OSl _ _ (.slice ad0 Zl.length cp0) hs0 (Zl.map (oneI .i64)) from ho0) (hw.c)
  refine ⟨_,M9,_,rfl,hm2.trans j1,j2,rfl,⟨⟨⟨Za,Zb⟩,⟨Zf,Zh⟩,⟨Zj,Zi,Zg⟩,⟨Ze,Zd,Zc⟩⟩,Zr,Zs,ZH,Zv,(nxR ZT),ZC,ZA,Zw,Zq,to,(nxR ZT),Zz,⟨Zu,Zt,Zl⟩,ZG,ZJ⟩,⟨o9a,o9c,o9l⟩,rfl,rfl,?_,⟨(Yv.mono hm2).mono j1,(Yz.mono hm2).mono j1⟩,k9.mono j1,fun y hy=>?_⟩
  ·show sndl o9l=_
   rw [hl9];rfl
  ·simp only at hy
   rw [hl9] at hy
   obtain rfl:=List.mem_singleton.1 hy
   exact ⟨⟨j3,SlK.nil⟩⟩
end Go.Proofs.YtajmnjefajknoaaGreat
namespace Go.Proofs.YtajmnjefajknoaaGreat
open Go.Esp
theorem F.ok108:okFn Tryz.prog 108=true:=by kernel_rfl
theorem shun_ok (M:Mem) (bw:Nat) (Za:Int) (Zb:Plc) (Zf:Int) (Zh:Plc) (Zj Ze Zu:Option Addr) (Zi Zd Zt:Nat) (Zg Zc:List ZF) (Zl:List Int) (Zr:Int) (Zs:Bool) (ZH Zv ZT ZC ZA Zw Zq Zy Zp:Int) (Zz:Plc) (ZG ZJ:Int) (hav:Hp) (hA:OSl 3 1 (.slice Zu Zl.length Zt) hav (Zl.map (oneI .i64))) (hLa:Zl.length≤900) (a:Int):Fh Tryz.prog 84 [.pointer (some ⟨bw,0,none⟩),.int .i64 a] M ((bw,rowO (ZW.segs ⟨⟨⟨⟨Za,Zb⟩,⟨Zf,Zh⟩,⟨Zj,Zi,Zg⟩,⟨Ze,Zd,Zc⟩⟩,Zr,Zs,ZH,Zv,ZT,ZC,ZA,Zw,Zq,Zy,Zp,Zz,⟨Zu,Zt,Zl⟩,ZG,ZJ⟩,⟨none,0,[]⟩⟩) 68)::hav) (fun M' v Hout=>M'=M∧v=.tuple #[]∧∃ (s9:Sl Int) (hs9:Hp),Hout=(bw,rowO (ZW.segs ⟨⟨⟨⟨Za,Zb⟩,⟨Zf,Zh⟩,⟨Zj,Zi,Zg⟩,⟨Ze,Zd,Zc⟩⟩,Zr,Zs,ZH,Zv,ZT,ZC,ZA,Zw,Zq,Zy,Zp,Zz,s9,ZG,ZJ⟩,⟨none,0,[]⟩⟩) 68)::hs9∧OSl 3 1 s9.val hs9 (s9.l.map (oneI .i64))∧s9.l=Uu Zl a):=by
  refine Wt (fun H=>(bw,rowO (ZW.segs ⟨⟨⟨⟨Za,Zb⟩,⟨Zf,Zh⟩,⟨Zj,Zi,Zg⟩,⟨Ze,Zd,Zc⟩⟩,Zr,Zs,ZH,Zv,ZT,ZC,ZA,Zw,Zq,Zy,Zp,Zz,⟨Zu,Zt,Zl⟩,ZG,ZJ⟩,⟨none,0,[]⟩⟩) 68)::(hav++H)) (fun _=>by simp only [List.append_assoc,List.cons_append,List.nil_append]) Tryz.func84 rfl Tryz.ntmps84 rfl ?_;intro H
  refine ZK (Zm (l:=[0,1,2,3,4,5,6,7,8,9,10,11,12,13,14,15,16]) rfl ?_);refine Zx ?_;refine Yn ?_;refine Zk F.foff68_0 ?_;refine Zk F.foff32_13 ?_;refine ZD F.lay30 ?_;refine Zx ?_;refine X_fo rfl rfl F.ok103 rfl (ContainsI_rd M hav ⟨Zu,Zt,Zl⟩ a (OSl.rd hA _) (by show Zl.length≤9223372036854775807;omega)) (by repeat first|exact Rem.here _|exact Rem.two|apply Rem.skip|apply Rem.over) (YV rfl) ?_
  rintro _ M1 _ ⟨hM1,rfl⟩;subst M1
  refine Xj ?_;refine Zx ?_
  refine Yj 12 rfl (fun hc1=>?_) (fun hc1=>?_)
  ·replace hc1:=nT hc1
   simp only [ZF.eta,ZQ.eta,ZR.eta,ZP.eta,Yr.eta,ZW.eta,YQ.eta,Yc.eta] at hc1
   refine Zx ?_;refine Yn ?_;refine Zk F.foff68_0 ?_;refine Zk F.foff32_13 ?_;refine ZD F.lay30 ?_;refine YY F.elem30 ?_;refine YI ?_;refine ZO ?_;refine Zo (Zn (Y_pk [20,0,1] ?_))
   refine YA rfl (fun hc2=>?_) (fun hc2=>?_)
   ·replace hc2:=dT hc2
    refine Zm (l:=[0,1,2,3,4,5,6,7,8,9,10,11,12]) rfl ?_
    iterate 2 refine Zx ?_
    refine Yn ?_;refine Zk F.foff68_0 ?_;refine Zk F.foff32_13 ?_;refine ZD F.lay30 ?_;refine Zx ?_
    refine Xq rfl rfl F.elem30 F.zero3 rfl rfl (.cons rfl (by constructor) .nil) rfl rfl (by simp only [List.map_cons,List.map_nil] <;> rfl) rfl ?_;intro b3 hob4
    have hAm:=hA
    rw [show Zl.length=(Zl.map (oneI .i64)).length from (List.length_map ..).symm] at hAm
    refine Vh (m:=1000000) rfl rfl rfl rfl rfl F.elem30 F.zero3 (by rfl) rfl (by assumption) (by repeat first|exact Rem.here _|exact Rem.two|apply Rem.skip|apply Rem.over) (Src.own hob4.lens (by (refine Vv ?_;(repeat (first|exact XG|refine XN ?_|(refine YU ?_ ?_;rfl)));done)) rfl (by repeat first|exact List.Mem.head _|refine List.Mem.tail _ ?_|refine List.mem_append_right _ ?_)) (by (simp;omega)) (by decide) rfl ?_;intro v7 hs6 ho5;obtain ⟨adv7,cpv7,rfl⟩:=ho5.valAt (n:=Zl.length+1) (by (simp;done))
    refine Yn ?_;refine Zk F.foff68_0 ?_;refine Zk F.foff32_13 ?_;refine Yh F.lay30 ?_;refine Zo ?_
    refine Yk (.inl rfl) (.nil) (fun w hw=>?_)
    have hln:Zl.length+1=(Zl++[a]).length:=by rw [List.length_append];rfl
    have h9:=ho5
    rw [hln] at hw h9
    refine ⟨_,M,(bw,rowO (ZW.segs ⟨⟨⟨⟨Za,Zb⟩,⟨Zf,Zh⟩,⟨Zj,Zi,Zg⟩,⟨Ze,Zd,Zc⟩⟩,Zr,Zs,ZH,Zv,ZT,ZC,ZA,Zw,Zq,Zy,Zp,Zz,⟨adv7,cpv7,Zl++[a]⟩,ZG,ZJ⟩,⟨none,0,[]⟩⟩) 68)::hs6,rfl,Mem.le.refl M,?_,rfl,rfl,⟨adv7,cpv7,Zl++[a]⟩,hs6,rfl,?_,?_⟩
    ·simp only [ZW.segs,Sl.val,List.length_nil] at hw ⊢
     exact hw.c
    ·exact OSl.as9 h9 (by rw [List.map_append];rfl)
    ·show Zl++[a]=Uu Zl a
     unfold Uu
     rw [if_neg (by rintro (q1|q1) <;> first|contradiction|omega)]
   ·replace hc2:=dF hc2
    refine YG ?_
    refine Yk (.inl rfl) (.nil) (fun w hw=>?_)
    refine ⟨_,M,(bw,rowO (ZW.segs ⟨⟨⟨⟨Za,Zb⟩,⟨Zf,Zh⟩,⟨Zj,Zi,Zg⟩,⟨Ze,Zd,Zc⟩⟩,Zr,Zs,ZH,Zv,ZT,ZC,ZA,Zw,Zq,Zy,Zp,Zz,⟨Zu,Zt,Zl⟩,ZG,ZJ⟩,⟨none,0,[]⟩⟩) 68)::hav,rfl,Mem.le.refl M,hw.c,rfl,rfl,⟨Zu,Zt,Zl⟩,hav,rfl,hA,?_⟩
    show Zl=Uu Zl a
    unfold Uu
    rw [if_pos (by exact .inr (by omega))]
  ·replace hc1:=nF hc1
   simp only [ZF.eta,ZQ.eta,ZR.eta,ZP.eta,Yr.eta,ZW.eta,YQ.eta,Yc.eta] at hc1
   iterate 7 refine Ya ?_
   refine ZO ?_;refine Zo (Zn (Y_pk [20,0,1] ?_));refine Wn rfl ?_;refine YG ?_
   refine Yk (.inl rfl) (.nil) (fun w hw=>?_)
   refine ⟨_,M,(bw,rowO (ZW.segs ⟨⟨⟨⟨Za,Zb⟩,⟨Zf,Zh⟩,⟨Zj,Zi,Zg⟩,⟨Ze,Zd,Zc⟩⟩,Zr,Zs,ZH,Zv,ZT,ZC,ZA,Zw,Zq,Zy,Zp,Zz,⟨Zu,Zt,Zl⟩,ZG,ZJ⟩,⟨none,0,[]⟩⟩) 68)::hav,rfl,Mem.le.refl M,hw.c,rfl,rfl,⟨Zu,Zt,Zl⟩,hav,rfl,hA,?_⟩
   show Zl=Uu Zl a
   unfold Uu
   rw [if_pos (by exact .inl (by assumption))]
theorem lostA_ok (M:Mem) (bw:Nat) (Za:Int) (Zb:Plc) (Zf:Int) (Zh:Plc) (Zj Ze Zu:Option Addr) (Zi Zd Zt:Nat) (Zg Zc:List ZF) (Zl:List Int) (Zr:Int) (Zs:Bool) (ZH Zv ZT ZC ZA Zw Zq Zy Zp:Int) (Zz:Plc) (ZG ZJ:Int) (Yv:ZQ.ok M ⟨⟨Za,Zb⟩,⟨Zf,Zh⟩,⟨Zj,Zi,Zg⟩,⟨Ze,Zd,Zc⟩⟩) (hbig:Zg.length≤40∧Zc.length≤200):Fh Tryz.prog 81 [.pointer (some ⟨bw,0,none⟩),.pointer (some ⟨bw,49,none⟩)] M [(bw,rowO (ZW.segs ⟨⟨⟨⟨Za,Zb⟩,⟨Zf,Zh⟩,⟨Zj,Zi,Zg⟩,⟨Ze,Zd,Zc⟩⟩,Zr,Zs,ZH,Zv,ZT,ZC,ZA,Zw,Zq,Zy,Zp,Zz,⟨Zu,Zt,Zl⟩,ZG,ZJ⟩,⟨none,0,[]⟩⟩) 68)] (fun M' v Hout=>v=.tuple #[]∧∃ (t9:ZQ) (a9:Int),Hout=[(bw,rowO (ZW.segs ⟨⟨t9,Zr,Zs,ZH,Zv,ZT,a9,ZA,Zw,Zq,Zy,Zp,Zz,⟨Zu,Zt,Zl⟩,ZG,ZJ⟩,⟨none,0,[]⟩⟩) 68)]∧ZQ.ok M' t9∧(t9.tb,a9)=Um (ZQ.tb ⟨⟨Za,Zb⟩,⟨Zf,Zh⟩,⟨Zj,Zi,Zg⟩,⟨Ze,Zd,Zc⟩⟩) ZC):=by
  refine Wt (fun H=>(bw,rowO (ZW.segs ⟨⟨⟨⟨Za,Zb⟩,⟨Zf,Zh⟩,⟨Zj,Zi,Zg⟩,⟨Ze,Zd,Zc⟩⟩,Zr,Zs,ZH,Zv,ZT,ZC,ZA,Zw,Zq,Zy,Zp,Zz,⟨Zu,Zt,Zl⟩,ZG,ZJ⟩,⟨none,0,[]⟩⟩) 68)::H) (fun _=>by simp only [List.append_assoc,List.cons_append,List.nil_append]) Tryz.func81 rfl Tryz.ntmps81 rfl ?_;intro H
  refine ZK (Zm (l:=[0,1,2,3]) rfl ?_);refine Zx ?_;refine Yn ?_;refine ZD F.lay3 ?_;refine YI ?_;refine Zo (Zn (Y_pk [7,0,1] ?_))
  refine YA rfl (fun hc1=>?_) (fun hc1=>?_)
  ·replace hc1:=nT hc1
   refine ZK (YK (l:=[0,1,2,3,4,5,6,7,8,9,10,11,12,13]) #[0,0,2,6,14,30,0,64,192,510,1023,2047,4095,8191] _ rfl (by kernel_rfl) (by kernel_rfl) St.drawn (fun _ h=>h) ?_)
   iterate 2 refine Zx ?_
   refine Yn ?_;refine Zk F.foff68_0 ?_;refine Zk F.foff32_0 ?_;refine ZD F.lay28 ?_;refine Zx ?_;refine Yn ?_;refine ZD F.lay3 ?_;refine X_fn rfl rfl F.ok108 rfl (Forget_ok _ ⟨⟨Za,Zb⟩,⟨Zf,Zh⟩,⟨Zj,Zi,Zg⟩,⟨Ze,Zd,Zc⟩⟩ ZC Yv hbig) rfl ?_
   rintro _ M1 hm1 ⟨⟨⟨oa,oi⟩,⟨oq,oj⟩,⟨o1a,o1c,o1l⟩,⟨o2a,o2c,o2l⟩⟩,rfl,hot,okt⟩
   refine Yn ?_;refine Zk F.foff68_0 ?_;refine Zk F.foff32_0 ?_;refine Yh F.lay28 ?_;refine Zo (Zn (Y_pk [1] ?_));refine Zm (l:=[0,1,2]) rfl ?_;refine Zx ?_;refine Yn ?_;refine Yh F.lay3 ?_;refine Zo ?_
   refine Yk (.inl rfl) (.nil) (fun w hw=>?_)
   refine ⟨_,M1,[(bw,rowO (ZW.segs ⟨⟨⟨⟨oa,oi⟩,⟨oq,oj⟩,⟨o1a,o1c,o1l⟩,⟨o2a,o2c,o2l⟩⟩,Zr,Zs,ZH,Zv,ZT,(-1),ZA,Zw,Zq,Zy,Zp,Zz,⟨Zu,Zt,Zl⟩,ZG,ZJ⟩,⟨none,0,[]⟩⟩) 68)],rfl,hm1,hw.c,rfl,⟨⟨oa,oi⟩,⟨oq,oj⟩,⟨o1a,o1c,o1l⟩,⟨o2a,o2c,o2l⟩⟩,-1,rfl,okt,?_⟩
   unfold Um
   rw [if_pos (by omega),hot]
  ·replace hc1:=nF hc1
   refine YG ?_
   refine Yk (.inl rfl) (.nil) (fun w hw=>?_)
   refine ⟨_,M,[(bw,rowO (ZW.segs ⟨⟨⟨⟨Za,Zb⟩,⟨Zf,Zh⟩,⟨Zj,Zi,Zg⟩,⟨Ze,Zd,Zc⟩⟩,Zr,Zs,ZH,Zv,ZT,ZC,ZA,Zw,Zq,Zy,Zp,Zz,⟨Zu,Zt,Zl⟩,ZG,ZJ⟩,⟨none,0,[]⟩⟩) 68)],rfl,Mem.le.refl M,hw.c,rfl,⟨⟨Za,Zb⟩,⟨Zf,Zh⟩,⟨Zj,Zi,Zg⟩,⟨Ze,Zd,Zc⟩⟩,ZC,rfl,Yv,?_⟩
   unfold Um
   rw [if_neg (by omega)]
theorem lostP_ok (M:Mem) (bw:Nat) (Za:Int) (Zb:Plc) (Zf:Int) (Zh:Plc) (Zj Ze Zu:Option Addr) (Zi Zd Zt:Nat) (Zg Zc:List ZF) (Zl:List Int) (Zr:Int) (Zs:Bool) (ZH Zv ZT ZC ZA Zw Zq Zy Zp:Int) (Zz:Plc) (ZG ZJ:Int) (Yv:ZQ.ok M ⟨⟨Za,Zb⟩,⟨Zf,Zh⟩,⟨Zj,Zi,Zg⟩,⟨Ze,Zd,Zc⟩⟩) (hbig:Zg.length≤40∧Zc.length≤200):Fh Tryz.prog 81 [.pointer (some ⟨bw,0,none⟩),.pointer (some ⟨bw,51,none⟩)] M [(bw,rowO (ZW.segs ⟨⟨⟨⟨Za,Zb⟩,⟨Zf,Zh⟩,⟨Zj,Zi,Zg⟩,⟨Ze,Zd,Zc⟩⟩,Zr,Zs,ZH,Zv,ZT,ZC,ZA,Zw,Zq,Zy,Zp,Zz,⟨Zu,Zt,Zl⟩,ZG,ZJ⟩,⟨none,0,[]⟩⟩) 68)] (fun M' v Hout=>v=.tuple #[]∧∃ (t9:ZQ) (a9:Int),Hout=[(bw,rowO (ZW.segs ⟨⟨t9,Zr,Zs,ZH,Zv,ZT,ZC,ZA,a9,Zq,Zy,Zp,Zz,⟨Zu,Zt,Zl⟩,ZG,ZJ⟩,⟨none,0,[]⟩⟩) 68)]∧ZQ.ok M' t9∧(t9.tb,a9)=Um (ZQ.tb ⟨⟨Za,Zb⟩,⟨Zf,Zh⟩,⟨Zj,Zi,Zg⟩,⟨Ze,Zd,Zc⟩⟩) Zw):=by
  refine Wt (fun H=>(bw,rowO (ZW.segs ⟨⟨⟨⟨Za,Zb⟩,⟨Zf,Zh⟩,⟨Zj,Zi,Zg⟩,⟨Ze,Zd,Zc⟩⟩,Zr,Zs,ZH,Zv,ZT,ZC,ZA,Zw,Zq,Zy,Zp,Zz,⟨Zu,Zt,Zl⟩,ZG,ZJ⟩,⟨none,0,[]⟩⟩) 68)::H) (fun _=>by simp only [List.append_assoc,List.cons_append,List.nil_append]) Tryz.func81 rfl Tryz.ntmps81 rfl ?_;intro H
  refine ZK (Zm (l:=[0,1,2,3]) rfl ?_);refine Zx ?_;refine Yn ?_;refine ZD F.lay3 ?_;refine YI ?_;refine Zo (Zn (Y_pk [7,0,1] ?_))
  refine YA rfl (fun hc1=>?_) (fun hc1=>?_)
  ·replace hc1:=nT hc1
   refine ZK (YK (l:=[0,1,2,3,4,5,6,7,8,9,10,11,12,13]) #[0,0,2,6,14,30,0,64,192,510,1023,2047,4095,8191] _ rfl (by kernel_rfl) (by kernel_rfl) St.drawn (fun _ h=>h) ?_)
   iterate 2 refine Zx ?_
   refine Yn ?_;refine Zk F.foff68_0 ?_;refine Zk F.foff32_0 ?_;refine ZD F.lay28 ?_;refine Zx ?_;refine Yn ?_;refine ZD F.lay3 ?_;refine X_fn rfl rfl F.ok108 rfl (Forget_ok _ ⟨⟨Za,Zb⟩,⟨Zf,Zh⟩,⟨Zj,Zi,Zg⟩,⟨Ze,Zd,Zc⟩⟩ Zw Yv hbig) rfl ?_
   rintro _ M1 hm1 ⟨⟨⟨oa,oi⟩,⟨oq,oj⟩,⟨o1a,o1c,o1l⟩,⟨o2a,o2c,o2l⟩⟩,rfl,hot,okt⟩
   refine Yn ?_;refine Zk F.foff68_0 ?_;refine Zk F.foff32_0 ?_;refine Yh F.lay28 ?_;refine Zo (Zn (Y_pk [1] ?_));refine Zm (l:=[0,1,2]) rfl ?_;refine Zx ?_;refine Yn ?_;refine Yh F.lay3 ?_;refine Zo ?_
   refine Yk (.inl rfl) (.nil) (fun w hw=>?_)
   refine ⟨_,M1,[(bw,rowO (ZW.segs ⟨⟨⟨⟨oa,oi⟩,⟨oq,oj⟩,⟨o1a,o1c,o1l⟩,⟨o2a,o2c,o2l⟩⟩,Zr,Zs,ZH,Zv,ZT,ZC,ZA,(-1),Zq,Zy,Zp,Zz,⟨Zu,Zt,Zl⟩,ZG,ZJ⟩,⟨none,0,[]⟩⟩) 68)],rfl,hm1,hw.c,rfl,⟨⟨oa,oi⟩,⟨oq,oj⟩,⟨o1a,o1c,o1l⟩,⟨o2a,o2c,o2l⟩⟩,-1,rfl,okt,?_⟩
   unfold Um
   rw [if_pos (by omega),hot]
  ·replace hc1:=nF hc1
   refine YG ?_
   refine Yk (.inl rfl) (.nil) (fun w hw=>?_)
   refine ⟨_,M,[(bw,rowO (ZW.segs ⟨⟨⟨⟨Za,Zb⟩,⟨Zf,Zh⟩,⟨Zj,Zi,Zg⟩,⟨Ze,Zd,Zc⟩⟩,Zr,Zs,ZH,Zv,ZT,ZC,ZA,Zw,Zq,Zy,Zp,Zz,⟨Zu,Zt,Zl⟩,ZG,ZJ⟩,⟨none,0,[]⟩⟩) 68)],rfl,Mem.le.refl M,hw.c,rfl,⟨⟨Za,Zb⟩,⟨Zf,Zh⟩,⟨Zj,Zi,Zg⟩,⟨Ze,Zd,Zc⟩⟩,Zw,rfl,Yv,?_⟩
   unfold Um
   rw [if_neg (by omega)]
theorem lostF_ok (M:Mem) (bw:Nat) (Za:Int) (Zb:Plc) (Zf:Int) (Zh:Plc) (Zj Ze Zu:Option Addr) (Zi Zd Zt:Nat) (Zg Zc:List ZF) (Zl:List Int) (Zr:Int) (Zs:Bool) (ZH Zv ZT ZC ZA Zw Zq Zy Zp:Int) (Zz:Plc) (ZG ZJ:Int) (Yv:ZQ.ok M ⟨⟨Za,Zb⟩,⟨Zf,Zh⟩,⟨Zj,Zi,Zg⟩,⟨Ze,Zd,Zc⟩⟩) (hbig:Zg.length≤40∧Zc.length≤200):Fh Tryz.prog 81 [.pointer (some ⟨bw,0,none⟩),.pointer (some ⟨bw,53,none⟩)] M [(bw,rowO (ZW.segs ⟨⟨⟨⟨Za,Zb⟩,⟨Zf,Zh⟩,⟨Zj,Zi,Zg⟩,⟨Ze,Zd,Zc⟩⟩,Zr,Zs,ZH,Zv,ZT,ZC,ZA,Zw,Zq,Zy,Zp,Zz,⟨Zu,Zt,Zl⟩,ZG,ZJ⟩,⟨none,0,[]⟩⟩) 68)] (fun M' v Hout=>v=.tuple #[]∧∃ (t9:ZQ) (a9:Int),Hout=[(bw,rowO (ZW.segs ⟨⟨t9,Zr,Zs,ZH,Zv,ZT,ZC,ZA,Zw,Zq,a9,Zp,Zz,⟨Zu,Zt,Zl⟩,ZG,ZJ⟩,⟨none,0,[]⟩⟩) 68)]∧ZQ.ok M' t9∧(t9.tb,a9)=Um (ZQ.tb ⟨⟨Za,Zb⟩,⟨Zf,Zh⟩,⟨Zj,Zi,Zg⟩,⟨Ze,Zd,Zc⟩⟩) Zy):=by
  refine Wt (fun H=>(bw,rowO (ZW.segs ⟨⟨⟨⟨Za,Zb⟩,⟨Zf,Zh⟩,⟨Zj,Zi,Zg⟩,⟨Ze,Zd,Zc⟩⟩,Zr,Zs,ZH,Zv,ZT,ZC,ZA,Zw,Zq,Zy,Zp,Zz,⟨Zu,Zt,Zl⟩,ZG,ZJ⟩,⟨none,0,[]⟩⟩) 68)::H) (fun _=>by simp only [List.append_assoc,List.cons_append,List.nil_append]) Tryz.func81 rfl Tryz.ntmps81 rfl ?_;intro H
  refine ZK (Zm (l:=[0,1,2,3]) rfl ?_);refine Zx ?_;refine Yn ?_;refine ZD F.lay3 ?_;refine YI ?_;refine Zo (Zn (Y_pk [7,0,1] ?_))
  refine YA rfl (fun hc1=>?_) (fun hc1=>?_)
  ·replace hc1:=nT hc1
   refine ZK (YK (l:=[0,1,2,3,4,5,6,7,8,9,10,11,12,13]) #[0,0,2,6,14,30,0,64,192,510,1023,2047,4095,8191] _ rfl (by kernel_rfl) (by kernel_rfl) St.drawn (fun _ h=>h) ?_)
   iterate 2 refine Zx ?_
   refine Yn ?_;refine Zk F.foff68_0 ?_;refine Zk F.foff32_0 ?_;refine ZD F.lay28 ?_;refine Zx ?_;refine Yn ?_;refine ZD F.lay3 ?_;refine X_fn rfl rfl F.ok108 rfl (Forget_ok _ ⟨⟨Za,Zb⟩,⟨Zf,Zh⟩,⟨Zj,Zi,Zg⟩,⟨Ze,Zd,Zc⟩⟩ Zy Yv hbig) rfl ?_
   rintro _ M1 hm1 ⟨⟨⟨oa,oi⟩,⟨oq,oj⟩,⟨o1a,o1c,o1l⟩,⟨o2a,o2c,o2l⟩⟩,rfl,hot,okt⟩
   refine Yn ?_;refine Zk F.foff68_0 ?_;refine Zk F.foff32_0 ?_;refine Yh F.lay28 ?_;refine Zo (Zn (Y_pk [1] ?_));refine Zm (l:=[0,1,2]) rfl ?_;refine Zx ?_;refine Yn ?_;refine Yh F.lay3 ?_;refine Zo ?_
   refine Yk (.inl rfl) (.nil) (fun w hw=>?_)
   refine ⟨_,M1,[(bw,rowO (ZW.segs ⟨⟨⟨⟨oa,oi⟩,⟨oq,oj⟩,⟨o1a,o1c,o1l⟩,⟨o2a,o2c,o2l⟩⟩,Zr,Zs,ZH,Zv,ZT,ZC,ZA,Zw,Zq,(-1),Zp,Zz,⟨Zu,Zt,Zl⟩,ZG,ZJ⟩,⟨none,0,[]⟩⟩) 68)],rfl,hm1,hw.c,rfl,⟨⟨oa,oi⟩,⟨oq,oj⟩,⟨o1a,o1c,o1l⟩,⟨o2a,o2c,o2l⟩⟩,-1,rfl,okt,?_⟩
   unfold Um
   rw [if_pos (by omega),hot]
  ·replace hc1:=nF hc1
   refine YG ?_
   refine Yk (.inl rfl) (.nil) (fun w hw=>?_)
   refine ⟨_,M,[(bw,rowO (ZW.segs ⟨⟨⟨⟨Za,Zb⟩,⟨Zf,Zh⟩,⟨Zj,Zi,Zg⟩,⟨Ze,Zd,Zc⟩⟩,Zr,Zs,ZH,Zv,ZT,ZC,ZA,Zw,Zq,Zy,Zp,Zz,⟨Zu,Zt,Zl⟩,ZG,ZJ⟩,⟨none,0,[]⟩⟩) 68)],rfl,Mem.le.refl M,hw.c,rfl,⟨⟨Za,Zb⟩,⟨Zf,Zh⟩,⟨Zj,Zi,Zg⟩,⟨Ze,Zd,Zc⟩⟩,Zy,rfl,Yv,?_⟩
   unfold Um
   rw [if_neg (by omega)]
end Go.Proofs.YtajmnjefajknoaaGreat
namespace Go.Proofs.YtajmnjefajknoaaGreat
open Go.Esp
theorem F.ok124:okFn Tryz.prog 124=true:=by kernel_rfl
theorem F.ok125:okFn Tryz.prog 125=true:=by kernel_rfl
theorem adopt_ok (M:Mem) (bw:Nat) (Za:Int) (Zb:Plc) (Zf:Int) (Zh:Plc) (Zj Ze Zu:Option Addr) (Zi Zd Zt:Nat) (Zg Zc:List ZF) (Zl:List Int) (Zr:Int) (Zs:Bool) (ZH Zv ZT ZC ZA Zw Zq Zy Zp:Int) (Zz:Plc) (ZG ZJ:Int) (Yv:ZQ.ok M ⟨⟨Za,Zb⟩,⟨Zf,Zh⟩,⟨Zj,Zi,Zg⟩,⟨Ze,Zd,Zc⟩⟩) (p:ZF) (q:Sl ZF) (k_q:SlK M ZF.segs 21 q):Fh Tryz.prog 82 [.pointer (some ⟨bw,0,none⟩),p.enc,q.val] M [(bw,rowO (ZW.segs ⟨⟨⟨⟨Za,Zb⟩,⟨Zf,Zh⟩,⟨Zj,Zi,Zg⟩,⟨Ze,Zd,Zc⟩⟩,Zr,Zs,ZH,Zv,ZT,ZC,ZA,Zw,Zq,Zy,Zp,Zz,⟨Zu,Zt,Zl⟩,ZG,ZJ⟩,⟨none,0,[]⟩⟩) 68)] (fun M' v Hout=>v=.tuple #[]∧∃ (t9:ZQ),Hout=[(bw,rowO (ZW.segs ⟨⟨t9,Zr,Zs,ZH,Zv,ZT,ZC,ZA,Zw,Zq,Zy,Zp,Zz,⟨Zu,Zt,Zl⟩,ZG,ZJ⟩,⟨none,0,[]⟩⟩) 68)]∧ZQ.ok M' t9∧ZR.nd ⟨t9,Zr,Zs,ZH,Zv,ZT,ZC,ZA,Zw,Zq,Zy,Zp,Zz,⟨Zu,Zt,Zl⟩,ZG,ZJ⟩=Vc (ZR.nd ⟨⟨⟨Za,Zb⟩,⟨Zf,Zh⟩,⟨Zj,Zi,Zg⟩,⟨Ze,Zd,Zc⟩⟩,Zr,Zs,ZH,Zv,ZT,ZC,ZA,Zw,Zq,Zy,Zp,Zz,⟨Zu,Zt,Zl⟩,ZG,ZJ⟩) p q.l):=by
  obtain ⟨Xa,p_id⟩:=p
  obtain ⟨q_a,q_c,q_l⟩:=q
  refine Wt (fun H=>(bw,rowO (ZW.segs ⟨⟨⟨⟨Za,Zb⟩,⟨Zf,Zh⟩,⟨Zj,Zi,Zg⟩,⟨Ze,Zd,Zc⟩⟩,Zr,Zs,ZH,Zv,ZT,ZC,ZA,Zw,Zq,Zy,Zp,Zz,⟨Zu,Zt,Zl⟩,ZG,ZJ⟩,⟨none,0,[]⟩⟩) 68)::H) (fun _=>by simp only [List.append_assoc,List.cons_append,List.nil_append]) Tryz.func82 rfl Tryz.ntmps82 rfl ?_;intro H
  refine ZK (Zm (l:=[0]) rfl ?_)
  refine Xk ?_;intro b1
  refine Zo (Zn (Y_pk [4,0,2] ?_));refine ZK (YK (l:=[0,1,2,3,4,5,6,7,8,9,10,11,12,13,14,15,16,17,18]) #[0,1,3,7,15,0,0,0,128,384,896,1920,4095,8191,16383,16383,0,98303,262143] _ rfl (by kernel_rfl) (by kernel_rfl) St.drawn (fun _ h=>h) ?_);refine Zx ?_;refine Yn ?_;refine Zk F.foff68_0 ?_;refine Zk F.foff32_0 ?_;refine ZD F.lay28 ?_;refine ZD F.lay25 ?_
  iterate 2 refine Zx ?_
  refine Yn ?_;refine Zk F.foff68_0 ?_;refine Zk F.foff32_1 ?_;refine ZD F.lay3 ?_;refine X_fn rfl rfl F.ok124 rfl (Adopt_ok _ ⟨⟨Za,Zb⟩,⟨Zf,Zh⟩,⟨Zj,Zi,Zg⟩,⟨Ze,Zd,Zc⟩⟩ ⟨Xa,p_id⟩ ⟨q_a,q_c,q_l⟩ Zr Yv k_q) rfl ?_
  rintro _ M1 hm1 hv
  replace hv:TabE _ _ (Vl (ZQ.tb ⟨⟨Za,Zb⟩,⟨Zf,Zh⟩,⟨Zj,Zi,Zg⟩,⟨Ze,Zd,Zc⟩⟩) ⟨Xa,p_id⟩ q_l Zr):=hv
  obtain ⟨⟨A1,A2⟩,hA⟩:∃ x,Vl (ZQ.tb ⟨⟨Za,Zb⟩,⟨Zf,Zh⟩,⟨Zj,Zi,Zg⟩,⟨Ze,Zd,Zc⟩⟩) ⟨Xa,p_id⟩ q_l Zr=x:=⟨_,rfl⟩
  rw [hA] at hv
  obtain ⟨_,rfl,⟨⟨oa,oi⟩,⟨oq,oj⟩,⟨o1a,o1c,o1l⟩,⟨o2a,o2c,o2l⟩⟩,rfl,hot,oko⟩:=hv
  simp only at hot
  refine Zx ?_
  iterate 2 refine XU ?_
  refine YW F.zero28 ?_;intro b2
  refine Yh F.lay28 ?_;refine ZB ?_;refine Zo (Zn (Y_pk [7,6,0] ?_));refine ZK (Zm (l:=[0,1]) rfl ?_);refine Zx ?_;refine YI ?_;refine Zo (Zn (Y_pk [25,6,0] ?_))
  refine YA rfl (fun hc3=>?_) (fun hc3=>?_)
  ·replace hc3:=dT hc3
   simp only [ZF.eta,ZQ.eta,ZR.eta,ZP.eta,Yr.eta,ZW.eta,YQ.eta,Yc.eta] at hc3
   refine Zm (l:=[0,1,2,3,4,5]) rfl ?_;refine Zx ?_;refine ZD F.lay28 ?_;refine Yn ?_;refine Zk F.foff68_0 ?_;refine Zk F.foff32_0 ?_;refine Yh F.lay28 ?_;refine Zo ?_
   refine Yk (.inl rfl) (.nil) (fun w hw=>?_)
   refine ⟨_,M1,[(bw,rowO (ZW.segs ⟨⟨⟨⟨oa,oi⟩,⟨oq,oj⟩,⟨o1a,o1c,o1l⟩,⟨o2a,o2c,o2l⟩⟩,Zr,Zs,ZH,Zv,ZT,ZC,ZA,Zw,Zq,Zy,Zp,Zz,⟨Zu,Zt,Zl⟩,ZG,ZJ⟩,⟨none,0,[]⟩⟩) 68)],rfl,hm1,hw.c,rfl,⟨⟨oa,oi⟩,⟨oq,oj⟩,⟨o1a,o1c,o1l⟩,⟨o2a,o2c,o2l⟩⟩,rfl,oko,?_⟩
   show _=Vc (ZR.nd ⟨⟨⟨Za,Zb⟩,⟨Zf,Zh⟩,⟨Zj,Zi,Zg⟩,⟨Ze,Zd,Zc⟩⟩,Zr,Zs,ZH,Zv,ZT,ZC,ZA,Zw,Zq,Zy,Zp,Zz,⟨Zu,Zt,Zl⟩,ZG,ZJ⟩) ⟨Xa,p_id⟩ q_l
   unfold Vc
   rw [show Vl (ZR.nd ⟨⟨⟨Za,Zb⟩,⟨Zf,Zh⟩,⟨Zj,Zi,Zg⟩,⟨Ze,Zd,Zc⟩⟩,Zr,Zs,ZH,Zv,ZT,ZC,ZA,Zw,Zq,Zy,Zp,Zz,⟨Zu,Zt,Zl⟩,ZG,ZJ⟩).table ⟨Xa,p_id⟩ q_l (ZR.nd ⟨⟨⟨Za,Zb⟩,⟨Zf,Zh⟩,⟨Zj,Zi,Zg⟩,⟨Ze,Zd,Zc⟩⟩,Zr,Zs,ZH,Zv,ZT,ZC,ZA,Zw,Zq,Zy,Zp,Zz,⟨Zu,Zt,Zl⟩,ZG,ZJ⟩).copies=_ from hA]
   rw [if_pos (by show A2=0;omega),← hot];rfl
  ·replace hc3:=dF hc3
   simp only [ZF.eta,ZQ.eta,ZR.eta,ZP.eta,Yr.eta,ZW.eta,YQ.eta,Yc.eta] at hc3
   refine YG ?_
   refine Yk (.inl rfl) (.nil) (fun w hw=>?_)
   refine ⟨_,M1,[(bw,rowO (ZW.segs ⟨⟨⟨⟨Za,Zb⟩,⟨Zf,Zh⟩,⟨Zj,Zi,Zg⟩,⟨Ze,Zd,Zc⟩⟩,Zr,Zs,ZH,Zv,ZT,ZC,ZA,Zw,Zq,Zy,Zp,Zz,⟨Zu,Zt,Zl⟩,ZG,ZJ⟩,⟨none,0,[]⟩⟩) 68)],rfl,hm1,hw.c,rfl,⟨⟨Za,Zb⟩,⟨Zf,Zh⟩,⟨Zj,Zi,Zg⟩,⟨Ze,Zd,Zc⟩⟩,rfl,Yv.mono hm1,?_⟩
   show _=Vc (ZR.nd ⟨⟨⟨Za,Zb⟩,⟨Zf,Zh⟩,⟨Zj,Zi,Zg⟩,⟨Ze,Zd,Zc⟩⟩,Zr,Zs,ZH,Zv,ZT,ZC,ZA,Zw,Zq,Zy,Zp,Zz,⟨Zu,Zt,Zl⟩,ZG,ZJ⟩) ⟨Xa,p_id⟩ q_l
   unfold Vc
   rw [show Vl (ZR.nd ⟨⟨⟨Za,Zb⟩,⟨Zf,Zh⟩,⟨Zj,Zi,Zg⟩,⟨Ze,Zd,Zc⟩⟩,Zr,Zs,ZH,Zv,ZT,ZC,ZA,Zw,Zq,Zy,Zp,Zz,⟨Zu,Zt,Zl⟩,ZG,ZJ⟩).table ⟨Xa,p_id⟩ q_l (ZR.nd ⟨⟨⟨Za,Zb⟩,⟨Zf,Zh⟩,⟨Zj,Zi,Zg⟩,⟨Ze,Zd,Zc⟩⟩,Zr,Zs,ZH,Zv,ZT,ZC,ZA,Zw,Zq,Zy,Zp,Zz,⟨Zu,Zt,Zl⟩,ZG,ZJ⟩).copies=_ from hA]
   rw [if_neg (by show ¬A2=0;omega)]
theorem point_ok (M:Mem) (bw:Nat) (Za:Int) (Zb:Plc) (Zf:Int) (Zh:Plc) (Zj Ze Zu:Option Addr) (Zi Zd Zt:Nat) (Zg Zc:List ZF) (Zl:List Int) (Zr:Int) (Zs:Bool) (ZH Zv ZT ZC ZA Zw Zq Zy Zp:Int) (Zz:Plc) (ZG ZJ:Int) (Yv:ZQ.ok M ⟨⟨Za,Zb⟩,⟨Zf,Zh⟩,⟨Zj,Zi,Zg⟩,⟨Ze,Zd,Zc⟩⟩) (p:ZF):Fh Tryz.prog 87 [.pointer (some ⟨bw,0,none⟩),p.enc] M [(bw,rowO (ZW.segs ⟨⟨⟨⟨Za,Zb⟩,⟨Zf,Zh⟩,⟨Zj,Zi,Zg⟩,⟨Ze,Zd,Zc⟩⟩,Zr,Zs,ZH,Zv,ZT,ZC,ZA,Zw,Zq,Zy,Zp,Zz,⟨Zu,Zt,Zl⟩,ZG,ZJ⟩,⟨none,0,[]⟩⟩) 68)] (fun M' v Hout=>v=.tuple #[]∧∃ (t9:ZQ) (c9:Int),Hout=[(bw,rowO (ZW.segs ⟨⟨t9,Zr,Zs,ZH,c9,ZT,ZC,ZA,Zw,Zq,Zy,Zp,Zz,⟨Zu,Zt,Zl⟩,ZG,ZJ⟩,⟨none,0,[]⟩⟩) 68)]∧ZQ.ok M' t9∧ZR.nd ⟨t9,Zr,Zs,ZH,c9,ZT,ZC,ZA,Zw,Zq,Zy,Zp,Zz,⟨Zu,Zt,Zl⟩,ZG,ZJ⟩=VW (ZR.nd ⟨⟨⟨Za,Zb⟩,⟨Zf,Zh⟩,⟨Zj,Zi,Zg⟩,⟨Ze,Zd,Zc⟩⟩,Zr,Zs,ZH,Zv,ZT,ZC,ZA,Zw,Zq,Zy,Zp,Zz,⟨Zu,Zt,Zl⟩,ZG,ZJ⟩) p):=by
  obtain ⟨Xa,p_id⟩:=p
  refine Wt (fun H=>(bw,rowO (ZW.segs ⟨⟨⟨⟨Za,Zb⟩,⟨Zf,Zh⟩,⟨Zj,Zi,Zg⟩,⟨Ze,Zd,Zc⟩⟩,Zr,Zs,ZH,Zv,ZT,ZC,ZA,Zw,Zq,Zy,Zp,Zz,⟨Zu,Zt,Zl⟩,ZG,ZJ⟩,⟨none,0,[]⟩⟩) 68)::H) (fun _=>by simp only [List.append_assoc,List.cons_append,List.nil_append]) Tryz.func87 rfl Tryz.ntmps87 rfl ?_;intro H
  refine ZK (Zm (l:=[0]) rfl ?_)
  refine Xk ?_;intro b1
  refine Zo (Zn (Y_pk [3,0] ?_));refine ZK (YK (l:=[0,1,2,3,4,5,6,7,8,9,10,11,12,13,14,15,16,17,18,19]) #[0,1,3,7,15,0,32,96,224,480,0,2047,4095,8191,8191,8191,0,81919,229375,524287] _ rfl (by kernel_rfl) (by kernel_rfl) St.drawn (fun _ h=>h) ?_);refine Zx ?_;refine Yn ?_;refine Zk F.foff68_0 ?_;refine Zk F.foff32_0 ?_;refine ZD F.lay28 ?_;refine Zx ?_;refine Yn ?_;refine Zk F.foff68_0 ?_;refine Zk F.foff32_4 ?_;refine ZD F.lay3 ?_;refine ZD F.lay25 ?_;refine X_fn rfl rfl F.ok125 rfl (Point_ok _ ⟨⟨Za,Zb⟩,⟨Zf,Zh⟩,⟨Zj,Zi,Zg⟩,⟨Ze,Zd,Zc⟩⟩ Zv ⟨Xa,p_id⟩ Yv) rfl ?_
  rintro _ M1 hm1 hv
  replace hv:TabPE _ _ (WT (ZQ.tb ⟨⟨Za,Zb⟩,⟨Zf,Zh⟩,⟨Zj,Zi,Zg⟩,⟨Ze,Zd,Zc⟩⟩) Zv ⟨Xa,p_id⟩):=hv
  obtain ⟨⟨A1,A2,A3⟩,hA⟩:∃ x,WT (ZQ.tb ⟨⟨Za,Zb⟩,⟨Zf,Zh⟩,⟨Zj,Zi,Zg⟩,⟨Ze,Zd,Zc⟩⟩) Zv ⟨Xa,p_id⟩=x:=⟨_,rfl⟩
  rw [hA] at hv
  obtain ⟨_,rfl,⟨⟨oa,oi⟩,⟨oq,oj⟩,⟨o1a,o1c,o1l⟩,⟨o2a,o2c,o2l⟩⟩,rfl,hot,oko⟩:=hv
  simp only at hot
  refine Zx ?_
  iterate 3 refine XU ?_
  refine YW F.zero28 ?_;intro b2
  refine Yh F.lay28 ?_
  iterate 2 refine ZB ?_
  refine Zo (Zn (Y_pk [6,5,4,0] ?_));refine ZK (Zm (l:=[0,1]) rfl ?_);refine Zx ?_;refine YI ?_;refine Zo (Zn (Y_pk [24,5,4,0] ?_))
  refine YA rfl (fun hc3=>?_) (fun hc3=>?_)
  ·replace hc3:=dT hc3
   simp only [ZF.eta,ZQ.eta,ZR.eta,ZP.eta,Yr.eta,ZW.eta,YQ.eta,Yc.eta] at hc3
   refine Zm (l:=[0,1,2,3,4,5,6,7,8,9,10,11]) rfl ?_
   iterate 2 refine Zx ?_
   refine ZD F.lay28 ?_;refine Zx ?_;refine Yn ?_;refine Zk F.foff68_0 ?_;refine Zk F.foff32_0 ?_;refine Yh F.lay28 ?_;refine Yn ?_;refine Zk F.foff68_0 ?_;refine Zk F.foff32_4 ?_;refine Yh F.lay3 ?_;refine Zo ?_
   refine Yk (.inl rfl) (.nil) (fun w hw=>?_)
   refine ⟨_,M1,[(bw,rowO (ZW.segs ⟨⟨⟨⟨oa,oi⟩,⟨oq,oj⟩,⟨o1a,o1c,o1l⟩,⟨o2a,o2c,o2l⟩⟩,Zr,Zs,ZH,A2,ZT,ZC,ZA,Zw,Zq,Zy,Zp,Zz,⟨Zu,Zt,Zl⟩,ZG,ZJ⟩,⟨none,0,[]⟩⟩) 68)],rfl,hm1,hw.c,rfl,⟨⟨oa,oi⟩,⟨oq,oj⟩,⟨o1a,o1c,o1l⟩,⟨o2a,o2c,o2l⟩⟩,A2,rfl,oko,?_⟩
   show _=VW (ZR.nd ⟨⟨⟨Za,Zb⟩,⟨Zf,Zh⟩,⟨Zj,Zi,Zg⟩,⟨Ze,Zd,Zc⟩⟩,Zr,Zs,ZH,Zv,ZT,ZC,ZA,Zw,Zq,Zy,Zp,Zz,⟨Zu,Zt,Zl⟩,ZG,ZJ⟩) ⟨Xa,p_id⟩
   unfold VW
   rw [show WT (ZR.nd ⟨⟨⟨Za,Zb⟩,⟨Zf,Zh⟩,⟨Zj,Zi,Zg⟩,⟨Ze,Zd,Zc⟩⟩,Zr,Zs,ZH,Zv,ZT,ZC,ZA,Zw,Zq,Zy,Zp,Zz,⟨Zu,Zt,Zl⟩,ZG,ZJ⟩).table (ZR.nd ⟨⟨⟨Za,Zb⟩,⟨Zf,Zh⟩,⟨Zj,Zi,Zg⟩,⟨Ze,Zd,Zc⟩⟩,Zr,Zs,ZH,Zv,ZT,ZC,ZA,Zw,Zq,Zy,Zp,Zz,⟨Zu,Zt,Zl⟩,ZG,ZJ⟩).cursor ⟨Xa,p_id⟩=_ from hA]
   rw [if_pos (by show A3=0;omega),← hot];rfl
  ·replace hc3:=dF hc3
   simp only [ZF.eta,ZQ.eta,ZR.eta,ZP.eta,Yr.eta,ZW.eta,YQ.eta,Yc.eta] at hc3
   refine YG ?_
   refine Yk (.inl rfl) (.nil) (fun w hw=>?_)
   refine ⟨_,M1,[(bw,rowO (ZW.segs ⟨⟨⟨⟨Za,Zb⟩,⟨Zf,Zh⟩,⟨Zj,Zi,Zg⟩,⟨Ze,Zd,Zc⟩⟩,Zr,Zs,ZH,Zv,ZT,ZC,ZA,Zw,Zq,Zy,Zp,Zz,⟨Zu,Zt,Zl⟩,ZG,ZJ⟩,⟨none,0,[]⟩⟩) 68)],rfl,hm1,hw.c,rfl,⟨⟨Za,Zb⟩,⟨Zf,Zh⟩,⟨Zj,Zi,Zg⟩,⟨Ze,Zd,Zc⟩⟩,Zv,rfl,Yv.mono hm1,?_⟩
   show _=VW (ZR.nd ⟨⟨⟨Za,Zb⟩,⟨Zf,Zh⟩,⟨Zj,Zi,Zg⟩,⟨Ze,Zd,Zc⟩⟩,Zr,Zs,ZH,Zv,ZT,ZC,ZA,Zw,Zq,Zy,Zp,Zz,⟨Zu,Zt,Zl⟩,ZG,ZJ⟩) ⟨Xa,p_id⟩
   unfold VW
   rw [show WT (ZR.nd ⟨⟨⟨Za,Zb⟩,⟨Zf,Zh⟩,⟨Zj,Zi,Zg⟩,⟨Ze,Zd,Zc⟩⟩,Zr,Zs,ZH,Zv,ZT,ZC,ZA,Zw,Zq,Zy,Zp,Zz,⟨Zu,Zt,Zl⟩,ZG,ZJ⟩).table (ZR.nd ⟨⟨⟨Za,Zb⟩,⟨Zf,Zh⟩,⟨Zj,Zi,Zg⟩,⟨Ze,Zd,Zc⟩⟩,Zr,Zs,ZH,Zv,ZT,ZC,ZA,Zw,Zq,Zy,Zp,Zz,⟨Zu,Zt,Zl⟩,ZG,ZJ⟩).cursor ⟨Xa,p_id⟩=_ from hA]
   rw [if_neg (by show ¬A3=0;omega)]
theorem wother_ok (M:Mem) (bw:Nat) (Za:Int) (Zb:Plc) (Zf:Int) (Zh:Plc) (Zj Ze Zu:Option Addr) (Zi Zd Zt:Nat) (Zg Zc:List ZF) (Zl:List Int) (Zr:Int) (Zs:Bool) (ZH Zv ZT ZC ZA Zw Zq Zy Zp:Int) (Zz:Plc) (ZG ZJ:Int) (p:ZF):Fo Tryz.prog 53 [.pointer (some ⟨bw,0,none⟩),p.enc] M [(bw,rowO (ZW.segs ⟨⟨⟨⟨Za,Zb⟩,⟨Zf,Zh⟩,⟨Zj,Zi,Zg⟩,⟨Ze,Zd,Zc⟩⟩,Zr,Zs,ZH,Zv,ZT,ZC,ZA,Zw,Zq,Zy,Zp,Zz,⟨Zu,Zt,Zl⟩,ZG,ZJ⟩,⟨none,0,[]⟩⟩) 68)] (fun M' v=>M'=M∧v=.bool (decide (Xn ⟨Za,Zb⟩ p))):=by
  obtain ⟨Xa,p_id⟩:=p
  refine VE Tryz.func53 rfl Tryz.ntmps53 rfl ?_;intro H
  refine ZK (Zm (l:=[0,1]) rfl ?_)
  refine Xk ?_;intro b1
  refine ZB ?_;refine Zo (Zn (Y_pk [4,3,0] ?_));refine ZK (Zm (l:=[0,1,2,3,4,5,6,7]) rfl ?_);refine Zx ?_;refine Yn ?_;refine Zk F.foff68_0 ?_;refine Zk F.foff32_0 ?_;refine Zk F.foff28_0 ?_;refine ZD F.lay25 ?_
  refine YW F.zero25 ?_;intro b2
  refine Yh F.lay25 ?_;refine Zo (Zn (Y_pk [5,4,3] ?_));refine ZK (Zm (l:=[0,1,2,3,4,5,6,7,8,9,10,11,12,13,14,15,16,17,18,19,20,21,22]) rfl ?_);refine Zk F.foff25_0 ?_;refine ZD F.lay3 ?_;refine YI ?_;refine Zx ?_
  refine Yj 15 rfl (fun hc3=>?_) (fun hc3=>?_)
  ·replace hc3:=dT hc3
   refine Zk F.foff25_0 ?_;refine ZD F.lay3 ?_;refine YI ?_;refine ZO ?_;refine Zx ?_
   refine Yj 20 rfl (fun hc4=>?_) (fun hc4=>?_)
   ·replace hc4:=dT hc4
    refine Zk F.foff25_0 ?_;refine ZD F.lay3 ?_;refine Zk F.foff25_0 ?_;refine ZD F.lay3 ?_;refine YI ?_;refine ZO ?_;refine Zx ?_
    refine Yj 27 rfl (fun hc5=>?_) (fun hc5=>?_)
    ·replace hc5:=nT hc5
     refine Zk F.foff25_1 ?_;refine ZD F.lay23 ?_;refine Zk F.foff25_1 ?_;refine ZD F.lay23 ?_
     refine WF (m:=20) rfl rfl rfl rfl rfl (by constructor) (by constructor) F.lay23 F.kinds23 rfl F.guard23 (WZ WE) (WZ WE) rfl rfl rfl ?_;intro c6 he7
     replace he7:c6=true↔¬(Segs.cells _=Segs.cells _):=he7
     obtain rfl:=neD he7 (Vj (x:=_) (y:=_));clear he7
     refine ZO ?_;refine ZB ?_;refine Zo (Zn (Y_pk [4] ?_));refine Yo ?_
     refine Yk (.inr rfl) (.tmp rfl .nil) (fun w hw=>?_)
     refine ⟨_,M,rfl,Mem.le.refl M,hw.c,rfl,?_⟩
     clear hw
     refine congrArg Value.bool ?_
     (simp_all [Xn,YX];done)
    ·replace hc5:=nF hc5
     iterate 5 refine Ya ?_
     refine ZO ?_;refine ZB ?_;refine Zo (Zn (Y_pk [4] ?_));refine Yo ?_
     refine Yk (.inr rfl) (.tmp rfl .nil) (fun w hw=>?_)
     refine ⟨_,M,rfl,Mem.le.refl M,hw.c,rfl,?_⟩
     clear hw
     refine congrArg Value.bool ?_
     exact (decide_eq_false (fun h9=>by obtain ⟨⟨h1,h2⟩,h3,h4⟩:=h9;simp only at h1 h2 h3 h4;first|omega|contradiction)).symm
   ·replace hc4:=dF hc4
    iterate 5 refine Ya ?_
    refine ZO ?_;refine Zx ?_
    iterate 5 refine Ya ?_
    refine ZO ?_;refine ZB ?_;refine Zo (Zn (Y_pk [4] ?_));refine Yo ?_
    refine Yk (.inr rfl) (.tmp rfl .nil) (fun w hw=>?_)
    refine ⟨_,M,rfl,Mem.le.refl M,hw.c,rfl,?_⟩
    clear hw
    refine congrArg Value.bool ?_
    exact (decide_eq_false (fun h9=>by obtain ⟨⟨h1,h2⟩,h3,h4⟩:=h9;simp only at h1 h2 h3 h4;first|omega|contradiction)).symm
  ·replace hc3:=dF hc3
   iterate 3 refine Ya ?_
   refine ZO ?_;refine Zx ?_
   iterate 5 refine Ya ?_
   refine ZO ?_;refine Zx ?_
   iterate 5 refine Ya ?_
   refine ZO ?_;refine ZB ?_;refine Zo (Zn (Y_pk [4] ?_));refine Yo ?_
   refine Yk (.inr rfl) (.tmp rfl .nil) (fun w hw=>?_)
   refine ⟨_,M,rfl,Mem.le.refl M,hw.c,rfl,?_⟩
   clear hw
   refine congrArg Value.bool ?_
   exact (decide_eq_false (fun h9=>by obtain ⟨⟨h1,h2⟩,h3,h4⟩:=h9;simp only at h1 h2 h3 h4;first|omega|contradiction)).symm
end Go.Proofs.YtajmnjefajknoaaGreat
namespace Go.Proofs.YtajmnjefajknoaaGreat
open Go.Esp
theorem F.ok80:okFn Tryz.prog 80=true:=by kernel_rfl
theorem F.ok81:okFn Tryz.prog 81=true:=by kernel_rfl
theorem F.ok82:okFn Tryz.prog 82=true:=by kernel_rfl
theorem F.ok84:okFn Tryz.prog 84=true:=by kernel_rfl
theorem F.ok89:okFn Tryz.prog 89=true:=by kernel_rfl
theorem join_ok (M:Mem) (bw:Nat) (Za:Int) (Zb:Plc) (Zf:Int) (Zh:Plc) (Zj Ze Zu:Option Addr) (Zi Zd Zt:Nat) (Zg Zc:List ZF) (Zl:List Int) (Zr:Int) (Zs:Bool) (ZH Zv ZT ZC ZA Zw Zq Zy Zp:Int) (Zz:Plc) (ZG ZJ:Int) (Yv:ZQ.ok M ⟨⟨Za,Zb⟩,⟨Zf,Zh⟩,⟨Zj,Zi,Zg⟩,⟨Ze,Zd,Zc⟩⟩) (hav:Hp) (hA:OSl 3 1 (.slice Zu Zl.length Zt) hav (Zl.map (oneI .i64))) (hLa:Zl.length≤900) (hj:Zs=false):Fh Tryz.prog 80 [.pointer (some ⟨bw,0,none⟩)] M ((bw,rowO (ZW.segs ⟨⟨⟨⟨Za,Zb⟩,⟨Zf,Zh⟩,⟨Zj,Zi,Zg⟩,⟨Ze,Zd,Zc⟩⟩,Zr,Zs,ZH,Zv,ZT,ZC,ZA,Zw,Zq,Zy,Zp,Zz,⟨Zu,Zt,Zl⟩,ZG,ZJ⟩,⟨none,0,[]⟩⟩) 68)::hav) (fun M' v Hout=>v=.tuple #[]∧WkF bw 68 M' Hout (stabN (ZR.nd ⟨⟨⟨Za,Zb⟩,⟨Zf,Zh⟩,⟨Zj,Zi,Zg⟩,⟨Ze,Zd,Zc⟩⟩,Zr,Zs,ZH,Zv,ZT,ZC,ZA,Zw,Zq,Zy,Zp,Zz,⟨Zu,Zt,Zl⟩,ZG,ZJ⟩))):=by
  refine Wt (fun H=>(bw,rowO (ZW.segs ⟨⟨⟨⟨Za,Zb⟩,⟨Zf,Zh⟩,⟨Zj,Zi,Zg⟩,⟨Ze,Zd,Zc⟩⟩,Zr,Zs,ZH,Zv,ZT,ZC,ZA,Zw,Zq,Zy,Zp,Zz,⟨Zu,Zt,Zl⟩,ZG,ZJ⟩,⟨none,0,[]⟩⟩) 68)::(hav++H)) (fun _=>by simp only [List.append_assoc,List.cons_append,List.nil_append]) Tryz.func80 rfl Tryz.ntmps80 rfl ?_;intro H
  iterate 2 refine ZK ?_
  refine YK (l:=[0,1,2,3,4,5,6,7,8,9,10,11,12,13,14,15,16,17,18]) #[0,1,3,7,15,31,63,127,255,511,1023,2047,127,4223,12415,28799,61567,131071,262143] _ rfl (by kernel_rfl) (by kernel_rfl) St.drawn (fun _ h=>h) ?_;refine Zx ?_;refine Yn ?_;refine Zk F.foff68_0 ?_;refine Zk F.foff32_10 ?_;refine ZD F.lay3 ?_;refine YI ?_;refine Zx ?_
  refine Yj 8 rfl (fun hc1=>?_) (fun hc1=>?_)
  ·replace hc1:=nT hc1
   refine Zx ?_;refine Yn ?_;refine Zk F.foff68_0 ?_;refine Zk F.foff32_10 ?_;refine ZD F.lay3 ?_;refine Zx ?_;refine Yn ?_;refine Zk F.foff68_0 ?_;refine Zk F.foff32_3 ?_;refine ZD F.lay3 ?_;refine YI ?_;refine ZO ?_;refine Zo (Zn (Y_pk [20,0] ?_))
   refine YA rfl (fun hc2=>?_) (fun hc2=>?_)
   ·replace hc2:=nT hc2
    refine Wb (l:=[0,1,2,3,4,5,6]) [6] rfl ?_
    iterate 2 refine Zx ?_
    refine Yn ?_;refine Zk F.foff68_0 ?_;refine Zk F.foff32_10 ?_;refine ZD F.lay3 ?_;refine Vp rfl rfl rfl F.ok84 rfl (shun_ok M bw _ _ _ _ _ _ _ _ _ _ _ _ _ _ _ _ _ _ _ _ _ _ _ _ _ _ _ hav hA (by omega) Zy) (by repeat first|exact Rem.here _|exact Rem.two|apply Rem.skip|apply Rem.over) (YV rfl) ?_
    rintro _ M1 hs1 hm1 ⟨hM1,rfl,⟨s_a,s_c,s_l⟩,hs9,rfl,ho9,hl9⟩
    subst M1
    simp only [Sl.val] at ho9
    simp only at hl9
    have hLs:s_l.length≤901:=shun_len hl9 hLa
    simp only [List.append_assoc,List.cons_append,List.nil_append]
    refine Zo (WP ?_);refine Zn (Y_pk [0] ?_);refine ZK ?_
    refine UG ho9 (by repeat first|exact Rem.here _|exact Rem.two|apply Rem.skip|apply Rem.over) (fun M2 hM2 k9=>?_)
    refine Zm (l:=[0,1,2,3,4,5,6,7,8,9,10,11,12,13,14,15,16]) rfl ?_
    iterate 3 refine Zx ?_
    refine Yn ?_;refine Zk F.foff68_0 ?_;refine Zk F.foff32_0 ?_;refine Zk F.foff28_0 ?_;refine Zk F.foff25_1 ?_;refine ZD F.lay23 ?_;refine Yn ?_;refine Zk F.foff68_0 ?_;refine Zk F.foff32_12 ?_;refine Yh F.lay23 ?_;refine Yn ?_;refine Zk F.foff68_0 ?_;refine Zk F.foff32_14 ?_;refine Yh F.lay3 ?_;refine Zo (Zn (Y_pk [0] ?_));refine Wb (l:=[0,1,2,3,4,5,6]) [6] rfl ?_
    iterate 2 refine Zx ?_
    refine Yn ?_;refine Zk F.foff68_0 ?_;refine Zk F.foff32_3 ?_;refine ZD F.lay3 ?_;refine Vp rfl rfl rfl F.ok89 rfl (seek_ok M2 bw _ _ _ _ _ _ _ _ _ _ _ _ _ _ _ _ _ _ _ _ _ _ _ _ _ _ _ (Yv.mono hM2) k9 (by omega) ZH) (by repeat first|exact Rem.here _|exact Rem.two|apply Rem.skip|apply Rem.over) (YV rfl) ?_
    rintro _ M3 hs3 hm3 ⟨rfl,⟨⟨⟨Yw,YJ⟩,⟨YC,YL⟩,⟨YP,YO,YN⟩,⟨YF,YE,YD⟩⟩,Xz,XF,Wg,XB,WB,XM,XA,Xw,Xo,Xx,Xp,Xy,⟨Xu,Xt,Xs⟩,Wf,We⟩,⟨o_a,o_c,o_l⟩,rfl,hv1,hv2,okv,oko,okq⟩
    simp only [List.append_assoc,List.cons_append,List.nil_append]
    refine Zo (WP ?_)
    refine Yk (.inl rfl) (.nil) (fun w hw=>?_)
    have h3:=stab_alone (n:=ZR.nd ⟨⟨⟨Za,Zb⟩,⟨Zf,Zh⟩,⟨Zj,Zi,Zg⟩,⟨Ze,Zd,Zc⟩⟩,Zr,Zs,ZH,Zv,ZT,ZC,ZA,Zw,Zq,Zy,Zp,Zz,⟨Zu,Zt,Zl⟩,ZG,ZJ⟩) (l:=s_l) (show Zs=false from hj) (by rw [if_pos (show (ZR.nd ⟨⟨⟨Za,Zb⟩,⟨Zf,Zh⟩,⟨Zj,Zi,Zg⟩,⟨Ze,Zd,Zc⟩⟩,Zr,Zs,ZH,Zv,ZT,ZC,ZA,Zw,Zq,Zy,Zp,Zz,⟨Zu,Zt,Zl⟩,ZG,ZJ⟩).findTo≠-1∧(ZR.nd ⟨⟨⟨Za,Zb⟩,⟨Zf,Zh⟩,⟨Zj,Zi,Zg⟩,⟨Ze,Zd,Zc⟩⟩,Zr,Zs,ZH,Zv,ZT,ZC,ZA,Zw,Zq,Zy,Zp,Zz,⟨Zu,Zt,Zl⟩,ZG,ZJ⟩).findTo≠(ZR.nd ⟨⟨⟨Za,Zb⟩,⟨Zf,Zh⟩,⟨Zj,Zi,Zg⟩,⟨Ze,Zd,Zc⟩⟩,Zr,Zs,ZH,Zv,ZT,ZC,ZA,Zw,Zq,Zy,Zp,Zz,⟨Zu,Zt,Zl⟩,ZG,ZJ⟩).boot from (show Zy≠-1∧Zy≠ZH by constructor <;> first|assumption|omega))];exact hl9)
    exact ⟨_,M3,[(bw,rowO (ZW.segs ⟨⟨⟨⟨Yw,YJ⟩,⟨YC,YL⟩,⟨YP,YO,YN⟩,⟨YF,YE,YD⟩⟩,Xz,XF,Wg,XB,WB,XM,XA,Xw,Xo,Xx,Xp,Xy,⟨Xu,Xt,Xs⟩,Wf,We⟩,⟨o_a,o_c,o_l⟩⟩) 68)],rfl,(hM2.trans hm3),hw.c,rfl,⟨⟨⟨Yw,YJ⟩,⟨YC,YL⟩,⟨YP,YO,YN⟩,⟨YF,YE,YD⟩⟩,Xz,XF,Wg,XB,WB,XM,XA,Xw,Xo,Xx,Xp,Xy,⟨Xu,Xt,Xs⟩,Wf,We⟩,⟨o_a,o_c,o_l⟩,rfl,by rw [h3];exact hv1,by rw [h3];exact hv2,okv,oko,okq⟩
   ·replace hc2:=nF hc2
    refine YG (Zn (Y_pk [0] ?_));refine ZK ?_
    refine UG hA (by repeat first|exact Rem.here _|exact Rem.two|apply Rem.skip|apply Rem.over) (fun M2 hM2 k9=>?_)
    refine Zm (l:=[0,1,2,3,4,5,6,7,8,9,10,11,12,13,14,15,16]) rfl ?_
    iterate 3 refine Zx ?_
    refine Yn ?_;refine Zk F.foff68_0 ?_;refine Zk F.foff32_0 ?_;refine Zk F.foff28_0 ?_;refine Zk F.foff25_1 ?_;refine ZD F.lay23 ?_;refine Yn ?_;refine Zk F.foff68_0 ?_;refine Zk F.foff32_12 ?_;refine Yh F.lay23 ?_;refine Yn ?_;refine Zk F.foff68_0 ?_;refine Zk F.foff32_14 ?_;refine Yh F.lay3 ?_;refine Zo (Zn (Y_pk [0] ?_));refine Wb (l:=[0,1,2,3,4,5,6]) [6] rfl ?_
    iterate 2 refine Zx ?_
    refine Yn ?_;refine Zk F.foff68_0 ?_;refine Zk F.foff32_3 ?_;refine ZD F.lay3 ?_;refine Vp rfl rfl rfl F.ok89 rfl (seek_ok M2 bw _ _ _ _ _ _ _ _ _ _ _ _ _ _ _ _ _ _ _ _ _ _ _ _ _ _ _ (Yv.mono hM2) k9 (by omega) ZH) (by repeat first|exact Rem.here _|exact Rem.two|apply Rem.skip|apply Rem.over) (YV rfl) ?_
    rintro _ M3 hs3 hm3 ⟨rfl,⟨⟨⟨Yw,YJ⟩,⟨YC,YL⟩,⟨YP,YO,YN⟩,⟨YF,YE,YD⟩⟩,Xz,XF,Wg,XB,WB,XM,XA,Xw,Xo,Xx,Xp,Xy,⟨Xu,Xt,Xs⟩,Wf,We⟩,⟨o_a,o_c,o_l⟩,rfl,hv1,hv2,okv,oko,okq⟩
    simp only [List.append_assoc,List.cons_append,List.nil_append]
    refine Zo (WP ?_)
    refine Yk (.inl rfl) (.nil) (fun w hw=>?_)
    have h3:=stab_alone (n:=ZR.nd ⟨⟨⟨Za,Zb⟩,⟨Zf,Zh⟩,⟨Zj,Zi,Zg⟩,⟨Ze,Zd,Zc⟩⟩,Zr,Zs,ZH,Zv,ZT,ZC,ZA,Zw,Zq,Zy,Zp,Zz,⟨Zu,Zt,Zl⟩,ZG,ZJ⟩) (l:=Zl) (show Zs=false from hj) (by rw [if_neg (show ¬((ZR.nd ⟨⟨⟨Za,Zb⟩,⟨Zf,Zh⟩,⟨Zj,Zi,Zg⟩,⟨Ze,Zd,Zc⟩⟩,Zr,Zs,ZH,Zv,ZT,ZC,ZA,Zw,Zq,Zy,Zp,Zz,⟨Zu,Zt,Zl⟩,ZG,ZJ⟩).findTo≠-1∧(ZR.nd ⟨⟨⟨Za,Zb⟩,⟨Zf,Zh⟩,⟨Zj,Zi,Zg⟩,⟨Ze,Zd,Zc⟩⟩,Zr,Zs,ZH,Zv,ZT,ZC,ZA,Zw,Zq,Zy,Zp,Zz,⟨Zu,Zt,Zl⟩,ZG,ZJ⟩).findTo≠(ZR.nd ⟨⟨⟨Za,Zb⟩,⟨Zf,Zh⟩,⟨Zj,Zi,Zg⟩,⟨Ze,Zd,Zc⟩⟩,Zr,Zs,ZH,Zv,ZT,ZC,ZA,Zw,Zq,Zy,Zp,Zz,⟨Zu,Zt,Zl⟩,ZG,ZJ⟩).boot) from (show ¬(Zy≠-1∧Zy≠ZH) by first|assumption|omega))];rfl)
    exact ⟨_,M3,[(bw,rowO (ZW.segs ⟨⟨⟨⟨Yw,YJ⟩,⟨YC,YL⟩,⟨YP,YO,YN⟩,⟨YF,YE,YD⟩⟩,Xz,XF,Wg,XB,WB,XM,XA,Xw,Xo,Xx,Xp,Xy,⟨Xu,Xt,Xs⟩,Wf,We⟩,⟨o_a,o_c,o_l⟩⟩) 68)],rfl,(hM2.trans hm3),hw.c,rfl,⟨⟨⟨Yw,YJ⟩,⟨YC,YL⟩,⟨YP,YO,YN⟩,⟨YF,YE,YD⟩⟩,Xz,XF,Wg,XB,WB,XM,XA,Xw,Xo,Xx,Xp,Xy,⟨Xu,Xt,Xs⟩,Wf,We⟩,⟨o_a,o_c,o_l⟩,rfl,by rw [h3];exact hv1,by rw [h3];exact hv2,okv,oko,okq⟩
  ·replace hc1:=nF hc1
   iterate 11 refine Ya ?_
   refine ZO ?_;refine Zo (Zn (Y_pk [20,0] ?_));refine Wn rfl ?_;refine YG (Zn (Y_pk [0] ?_));refine ZK ?_
   refine UG hA (by repeat first|exact Rem.here _|exact Rem.two|apply Rem.skip|apply Rem.over) (fun M2 hM2 k9=>?_)
   refine Zm (l:=[0,1,2,3,4,5,6,7,8,9,10,11,12,13,14,15,16]) rfl ?_
   iterate 3 refine Zx ?_
   refine Yn ?_;refine Zk F.foff68_0 ?_;refine Zk F.foff32_0 ?_;refine Zk F.foff28_0 ?_;refine Zk F.foff25_1 ?_;refine ZD F.lay23 ?_;refine Yn ?_;refine Zk F.foff68_0 ?_;refine Zk F.foff32_12 ?_;refine Yh F.lay23 ?_;refine Yn ?_;refine Zk F.foff68_0 ?_;refine Zk F.foff32_14 ?_;refine Yh F.lay3 ?_;refine Zo (Zn (Y_pk [0] ?_));refine Wb (l:=[0,1,2,3,4,5,6]) [6] rfl ?_
   iterate 2 refine Zx ?_
   refine Yn ?_;refine Zk F.foff68_0 ?_;refine Zk F.foff32_3 ?_;refine ZD F.lay3 ?_;refine Vp rfl rfl rfl F.ok89 rfl (seek_ok M2 bw _ _ _ _ _ _ _ _ _ _ _ _ _ _ _ _ _ _ _ _ _ _ _ _ _ _ _ (Yv.mono hM2) k9 (by omega) ZH) (by repeat first|exact Rem.here _|exact Rem.two|apply Rem.skip|apply Rem.over) (YV rfl) ?_
   rintro _ M3 hs3 hm3 ⟨rfl,⟨⟨⟨Yw,YJ⟩,⟨YC,YL⟩,⟨YP,YO,YN⟩,⟨YF,YE,YD⟩⟩,Xz,XF,Wg,XB,WB,XM,XA,Xw,Xo,Xx,Xp,Xy,⟨Xu,Xt,Xs⟩,Wf,We⟩,⟨o_a,o_c,o_l⟩,rfl,hv1,hv2,okv,oko,okq⟩
   simp only [List.append_assoc,List.cons_append,List.nil_append]
   refine Zo (WP ?_)
   refine Yk (.inl rfl) (.nil) (fun w hw=>?_)
   have h3:=stab_alone (n:=ZR.nd ⟨⟨⟨Za,Zb⟩,⟨Zf,Zh⟩,⟨Zj,Zi,Zg⟩,⟨Ze,Zd,Zc⟩⟩,Zr,Zs,ZH,Zv,ZT,ZC,ZA,Zw,Zq,Zy,Zp,Zz,⟨Zu,Zt,Zl⟩,ZG,ZJ⟩) (l:=Zl) (show Zs=false from hj) (by rw [if_neg (show ¬((ZR.nd ⟨⟨⟨Za,Zb⟩,⟨Zf,Zh⟩,⟨Zj,Zi,Zg⟩,⟨Ze,Zd,Zc⟩⟩,Zr,Zs,ZH,Zv,ZT,ZC,ZA,Zw,Zq,Zy,Zp,Zz,⟨Zu,Zt,Zl⟩,ZG,ZJ⟩).findTo≠-1∧(ZR.nd ⟨⟨⟨Za,Zb⟩,⟨Zf,Zh⟩,⟨Zj,Zi,Zg⟩,⟨Ze,Zd,Zc⟩⟩,Zr,Zs,ZH,Zv,ZT,ZC,ZA,Zw,Zq,Zy,Zp,Zz,⟨Zu,Zt,Zl⟩,ZG,ZJ⟩).findTo≠(ZR.nd ⟨⟨⟨Za,Zb⟩,⟨Zf,Zh⟩,⟨Zj,Zi,Zg⟩,⟨Ze,Zd,Zc⟩⟩,Zr,Zs,ZH,Zv,ZT,ZC,ZA,Zw,Zq,Zy,Zp,Zz,⟨Zu,Zt,Zl⟩,ZG,ZJ⟩).boot) from (show ¬(Zy≠-1∧Zy≠ZH) by first|assumption|omega))];rfl)
   exact ⟨_,M3,[(bw,rowO (ZW.segs ⟨⟨⟨⟨Yw,YJ⟩,⟨YC,YL⟩,⟨YP,YO,YN⟩,⟨YF,YE,YD⟩⟩,Xz,XF,Wg,XB,WB,XM,XA,Xw,Xo,Xx,Xp,Xy,⟨Xu,Xt,Xs⟩,Wf,We⟩,⟨o_a,o_c,o_l⟩⟩) 68)],rfl,(hM2.trans hm3),hw.c,rfl,⟨⟨⟨Yw,YJ⟩,⟨YC,YL⟩,⟨YP,YO,YN⟩,⟨YF,YE,YD⟩⟩,Xz,XF,Wg,XB,WB,XM,XA,Xw,Xo,Xx,Xp,Xy,⟨Xu,Xt,Xs⟩,Wf,We⟩,⟨o_a,o_c,o_l⟩,rfl,by rw [h3];exact hv1,by rw [h3];exact hv2,okv,oko,okq⟩
theorem stab_ok (M:Mem) (bw:Nat) (Za:Int) (Zb:Plc) (Zf:Int) (Zh:Plc) (Zj Ze Zu:Option Addr) (Zi Zd Zt:Nat) (Zg Zc:List ZF) (Zl:List Int) (Zr:Int) (Zs:Bool) (ZH Zv ZT ZC ZA Zw Zq Zy Zp:Int) (Zz:Plc) (ZG ZJ:Int) (Yv:ZQ.ok M ⟨⟨Za,Zb⟩,⟨Zf,Zh⟩,⟨Zj,Zi,Zg⟩,⟨Ze,Zd,Zc⟩⟩) (hbig:Zg.length≤40∧Zc.length≤200) (hav:Hp) (hA:OSl 3 1 (.slice Zu Zl.length Zt) hav (Zl.map (oneI .i64))) (hLa:Zl.length≤900):Fh Tryz.prog 33 [.pointer (some ⟨bw,0,none⟩)] M ((bw,rowO (ZW.segs ⟨⟨⟨⟨Za,Zb⟩,⟨Zf,Zh⟩,⟨Zj,Zi,Zg⟩,⟨Ze,Zd,Zc⟩⟩,Zr,Zs,ZH,Zv,ZT,ZC,ZA,Zw,Zq,Zy,Zp,Zz,⟨Zu,Zt,Zl⟩,ZG,ZJ⟩,⟨none,0,[]⟩⟩) 68)::hav) (fun M' v Hout=>v=.tuple #[]∧WkF bw 68 M' Hout (stabN (ZR.nd ⟨⟨⟨Za,Zb⟩,⟨Zf,Zh⟩,⟨Zj,Zi,Zg⟩,⟨Ze,Zd,Zc⟩⟩,Zr,Zs,ZH,Zv,ZT,ZC,ZA,Zw,Zq,Zy,Zp,Zz,⟨Zu,Zt,Zl⟩,ZG,ZJ⟩))):=by
  refine Wt (fun H=>(bw,rowO (ZW.segs ⟨⟨⟨⟨Za,Zb⟩,⟨Zf,Zh⟩,⟨Zj,Zi,Zg⟩,⟨Ze,Zd,Zc⟩⟩,Zr,Zs,ZH,Zv,ZT,ZC,ZA,Zw,Zq,Zy,Zp,Zz,⟨Zu,Zt,Zl⟩,ZG,ZJ⟩,⟨none,0,[]⟩⟩) 68)::(hav++H)) (fun _=>by simp only [List.append_assoc,List.cons_append,List.nil_append]) Tryz.func33 rfl Tryz.ntmps33 rfl ?_;intro H
  iterate 2 refine ZK ?_
  refine Zm (l:=[0,1,2,3,4,5]) rfl ?_;refine Zx ?_;refine Yn ?_;refine Zk F.foff68_0 ?_;refine Zk F.foff32_2 ?_;refine ZD F.lay4 ?_;refine Xj ?_;refine Zo (Zn (Y_pk [7,0] ?_))
  refine YA rfl (fun hc1=>?_) (fun hc1=>?_)
  ·skip
   refine ZK (Wb (l:=[0,1]) [1] rfl ?_);refine Zx ?_;refine Vp rfl rfl rfl F.ok80 rfl (join_ok M bw Za Zb Zf Zh Zj Ze Zu Zi Zd Zt Zg Zc Zl Zr Zs ZH Zv ZT ZC ZA Zw Zq Zy Zp Zz ZG ZJ Yv hav hA hLa (by (simp_all;done))) (by repeat first|exact Rem.here _|exact Rem.two|apply Rem.skip|apply Rem.over) (YV rfl) ?_
   rintro _ M1 hs1 hm1 ⟨rfl,⟨⟨⟨Yw,YJ⟩,⟨YC,YL⟩,⟨YP,YO,YN⟩,⟨YF,YE,YD⟩⟩,Xz,XF,Wg,XB,WB,XM,XA,Xw,Xo,Xx,Xp,Xy,⟨Xu,Xt,Xs⟩,Wf,We⟩,⟨o_a,o_c,o_l⟩,rfl,hv1,hv2,okv,oko,okq⟩
   simp only [List.append_assoc,List.cons_append,List.nil_append]
   refine Zo (WP ?_);refine Zn (Y_pk [0] ?_);refine Yo (YS ?_)
   refine Yk (.inr rfl) (.nil) (fun w hw=>?_)
   exact ⟨_,M1,[(bw,rowO (ZW.segs ⟨⟨⟨⟨Yw,YJ⟩,⟨YC,YL⟩,⟨YP,YO,YN⟩,⟨YF,YE,YD⟩⟩,Xz,XF,Wg,XB,WB,XM,XA,Xw,Xo,Xx,Xp,Xy,⟨Xu,Xt,Xs⟩,Wf,We⟩,⟨o_a,o_c,o_l⟩⟩) 68)],rfl,hm1,hw.c,rfl,⟨⟨⟨Yw,YJ⟩,⟨YC,YL⟩,⟨YP,YO,YN⟩,⟨YF,YE,YD⟩⟩,Xz,XF,Wg,XB,WB,XM,XA,Xw,Xo,Xx,Xp,Xy,⟨Xu,Xt,Xs⟩,Wf,We⟩,⟨o_a,o_c,o_l⟩,rfl,by exact hv1,by exact hv2,okv,oko,okq⟩
  ·skip
   refine YG (Zn (Y_pk [0] ?_));refine ZK ?_
   refine UG hA (by repeat first|exact Rem.here _|exact Rem.two|apply Rem.skip|apply Rem.over) (fun M2 hM2 k9=>?_)
   refine Wb (l:=[0,1,2,3,4,5]) [5] rfl ?_
   iterate 2 refine Zx ?_
   refine Yn ?_;refine Zk F.foff68_0 ?_;refine Zk F.foff32_6 ?_;refine Vp rfl rfl rfl F.ok81 rfl (lostA_ok M2 bw _ _ _ _ _ _ _ _ _ _ _ _ _ _ _ _ _ _ _ _ _ _ _ _ _ _ _ (Yv.mono hM2) hbig) (by repeat first|exact Rem.here _|exact Rem.two|apply Rem.skip|apply Rem.over) (YV rfl) ?_
   rintro _ M3 hs3 hm3 ⟨rfl,⟨⟨oa,oi⟩,⟨oq,oj⟩,⟨o1a,o1c,o1l⟩,⟨o2a,o2c,o2l⟩⟩,a9,rfl,okt,hlo⟩
   have h1:=lost_ask (n:=ZR.nd ⟨⟨⟨Za,Zb⟩,⟨Zf,Zh⟩,⟨Zj,Zi,Zg⟩,⟨Ze,Zd,Zc⟩⟩,Zr,Zs,ZH,Zv,ZT,ZC,ZA,Zw,Zq,Zy,Zp,Zz,⟨Zu,Zt,Zl⟩,ZG,ZJ⟩) hlo
   simp only [List.append_assoc,List.cons_append,List.nil_append]
   refine Zo (WP ?_);refine Zn (Y_pk [0] ?_)
   iterate 2 refine ZK ?_
   refine YK (l:=[0,1,2,3,4,5,6,7,8,9,10,11,12,13,14,15,16,17]) #[0,1,3,7,15,31,63,127,255,511,1023,2047,4095,8191,16383,511,65535,131071] _ rfl (by kernel_rfl) (by kernel_rfl) St.drawn (fun _ h=>h) ?_;refine Zx ?_;refine Yn ?_;refine Zk F.foff68_0 ?_;refine Zk F.foff32_0 ?_;refine Zk F.foff28_2 ?_;refine ZD F.lay26 ?_;refine YY F.elem26 ?_;refine YI ?_;refine Zx ?_
   refine Yj 24 rfl (fun hc2=>?_) (fun hc2=>?_)
   ·replace hc2:=dT hc2
    refine Zx ?_;refine Yn ?_;refine Zk F.foff68_0 ?_;refine Zk F.foff32_0 ?_;refine Zk F.foff28_1 ?_;refine ZD F.lay25 ?_;refine X_fs rfl rfl F.ok66 rfl (VG _) rfl ?_
    rintro _ rfl
    refine VA 31 rfl (show _=aggV [.one (.int .i64 (-1)),Yt 0] from rfl) ?_
    refine WF (m:=20) rfl rfl rfl rfl rfl (by constructor) (by constructor) F.lay25 F.kinds25 rfl F.guard25 (by exact XL (⟨_,_⟩)) (by exact XL (⟨_,_⟩)) rfl rfl rfl ?_;intro c3 he4
    replace he4:c3=true↔¬(Segs.cells _=Segs.cells _):=he4
    obtain rfl:=neD he4 (ZF.inj (x:=⟨_,_⟩) (y:=⟨_,_⟩));clear he4
    refine ZO ?_;refine Zo (Zn (Y_pk [33,0] ?_))
    refine YA rfl (fun hc5=>?_) (fun hc5=>?_)
    ·replace hc5:=nT hc5
     refine Wb (l:=[0,1,2,3,4,5,6,7]) [7] rfl ?_
     iterate 2 refine Zx ?_
     refine Yn ?_;refine Zk F.foff68_0 ?_;refine Zk F.foff32_0 ?_;refine Zk F.foff28_1 ?_;refine ZD F.lay25 ?_;refine Vp rfl rfl rfl F.ok82 rfl (adopt_ok M3 bw _ _ _ _ _ _ _ _ _ _ _ _ _ _ _ _ _ _ _ _ _ _ _ _ _ _ _ okt ⟨oq,oj⟩ ⟨none,0,[]⟩ SlK.nil) (by repeat first|exact Rem.here _|exact Rem.two|apply Rem.skip|apply Rem.over) (YV rfl) ?_
     rintro _ M4 hs4 hm4 ⟨rfl,⟨⟨wa,wi⟩,⟨wq,wj⟩,⟨w1a,w1c,w1l⟩,⟨w2a,w2c,w2l⟩⟩,rfl,okl,hv1⟩
     simp only [List.append_assoc,List.cons_append,List.nil_append]
     refine Zo (WP ?_);refine Zn (Y_pk [0] ?_);refine ZK (Zm (l:=[0,1,2,3,4,5,6,7]) rfl ?_);refine Zx ?_;refine Yn ?_;refine Zk F.foff68_0 ?_;refine Zk F.foff32_0 ?_;refine Zk F.foff28_2 ?_;refine ZD F.lay26 ?_;refine YY F.elem26 ?_;refine YI ?_;refine Zo (Zn (Y_pk [49,0] ?_))
     refine YA rfl (fun hc6=>?_) (fun hc6=>?_)
     ·replace hc6:=dT hc6
      refine ZK (Zm (l:=[0,1,2,3,4,5,6,7,8,9,10,11]) rfl ?_)
      iterate 2 refine Zx ?_
      refine Yn ?_;refine Zk F.foff68_0 ?_;refine Zk F.foff32_0 ?_;refine ZD F.lay28 ?_;refine X_fs rfl rfl F.ok41 rfl (First_ok _ ⟨⟨wa,wi⟩,⟨wq,wj⟩,⟨w1a,w1c,w1l⟩,⟨w2a,w2c,w2l⟩⟩ okl) rfl ?_
      rintro _ rfl
      obtain ⟨⟨fa,fi⟩,hfi⟩:∃ x,Wi (ZQ.tb ⟨⟨wa,wi⟩,⟨wq,wj⟩,⟨w1a,w1c,w1l⟩,⟨w2a,w2c,w2l⟩⟩)=x:=⟨_,rfl⟩
      rw [hfi]
      refine Y_field F.fld25_0 F.lay3 ?_;refine Yn ?_;refine Zk F.foff68_0 ?_;refine Zk F.foff32_6 ?_;refine Yh F.lay3 ?_;refine Zo (Zn (Y_pk [0] ?_));refine Wb (l:=[0,1,2,3,4,5,6,7,8,9,10,11,12]) [8] rfl ?_
      iterate 3 refine Zx ?_
      refine Yn ?_;refine Zk F.foff68_0 ?_;refine Zk F.foff32_6 ?_;refine ZD F.lay3 ?_;refine Xr rfl rfl F.bld44 (.cons rfl (by constructor) .nil) rfl rfl ?_;refine Vp rfl rfl rfl F.ok83 rfl (request_ok M4 bw _ _ _ _ _ _ _ _ _ _ _ _ _ _ _ _ _ _ _ _ _ _ _ _ _ _ _ fa ⟨3,⟨0,0⟩,0,0,⟨none,0,[]⟩,false,⟨0,0⟩,⟨none,0,[]⟩⟩) (by repeat first|exact Rem.here _|exact Rem.two|apply Rem.skip|apply Rem.over) (YV rfl) ?_
      rintro _ M5 hs5 hm5 ⟨rfl,⟨o9a,o9c,o9l⟩,rfl,k9o,hl9⟩
      simp only at hl9
      simp only [List.append_assoc,List.cons_append,List.nil_append]
      refine Yn ?_;refine Zk F.foff68_0 ?_;refine Zk F.foff32_7 ?_;refine Yh F.lay29 ?_;refine Zo (WP ?_)
      refine Yk (.inl rfl) (.nil) (fun w hw=>?_)
      have h2:ZR.nd ⟨⟨⟨wa,wi⟩,⟨wq,wj⟩,⟨w1a,w1c,w1l⟩,⟨w2a,w2c,w2l⟩⟩,Zr,Zs,ZH,Zv,ZT,a9,ZA,Zw,Zq,Zy,Zp,Zz,⟨Zu,Zt,Zl⟩,ZG,ZJ⟩=if (ZR.nd ⟨⟨⟨oa,oi⟩,⟨oq,oj⟩,⟨o1a,o1c,o1l⟩,⟨o2a,o2c,o2l⟩⟩,Zr,Zs,ZH,Zv,ZT,a9,ZA,Zw,Zq,Zy,Zp,Zz,⟨Zu,Zt,Zl⟩,ZG,ZJ⟩).table.succ=[]∧(ZR.nd ⟨⟨⟨oa,oi⟩,⟨oq,oj⟩,⟨o1a,o1c,o1l⟩,⟨o2a,o2c,o2l⟩⟩,Zr,Zs,ZH,Zv,ZT,a9,ZA,Zw,Zq,Zy,Zp,Zz,⟨Zu,Zt,Zl⟩,ZG,ZJ⟩).table.pred≠Xf then Vc (ZR.nd ⟨⟨⟨oa,oi⟩,⟨oq,oj⟩,⟨o1a,o1c,o1l⟩,⟨o2a,o2c,o2l⟩⟩,Zr,Zs,ZH,Zv,ZT,a9,ZA,Zw,Zq,Zy,Zp,Zz,⟨Zu,Zt,Zl⟩,ZG,ZJ⟩) (ZR.nd ⟨⟨⟨oa,oi⟩,⟨oq,oj⟩,⟨o1a,o1c,o1l⟩,⟨o2a,o2c,o2l⟩⟩,Zr,Zs,ZH,Zv,ZT,a9,ZA,Zw,Zq,Zy,Zp,Zz,⟨Zu,Zt,Zl⟩,ZG,ZJ⟩).table.pred [] else (ZR.nd ⟨⟨⟨oa,oi⟩,⟨oq,oj⟩,⟨o1a,o1c,o1l⟩,⟨o2a,o2c,o2l⟩⟩,Zr,Zs,ZH,Zv,ZT,a9,ZA,Zw,Zq,Zy,Zp,Zz,⟨Zu,Zt,Zl⟩,ZG,ZJ⟩):=by
       rw [if_pos ⟨show o1l=[] from List.length_eq_zero_iff.1 (by omega),show (⟨oq,oj⟩:ZF)≠Xf from (by assumption)⟩];exact hv1
      have h3:=stab_joined (n:=ZR.nd ⟨⟨⟨Za,Zb⟩,⟨Zf,Zh⟩,⟨Zj,Zi,Zg⟩,⟨Ze,Zd,Zc⟩⟩,Zr,Zs,ZH,Zv,ZT,ZC,ZA,Zw,Zq,Zy,Zp,Zz,⟨Zu,Zt,Zl⟩,ZG,ZJ⟩) (by show Zs=true;simp_all) h1 h2
      rw [if_neg (show ¬(ZR.nd ⟨⟨⟨wa,wi⟩,⟨wq,wj⟩,⟨w1a,w1c,w1l⟩,⟨w2a,w2c,w2l⟩⟩,Zr,Zs,ZH,Zv,ZT,a9,ZA,Zw,Zq,Zy,Zp,Zz,⟨Zu,Zt,Zl⟩,ZG,ZJ⟩).table.succ=[] from (fun q1=>absurd (show w1l.length=0 from congrArg List.length q1) (by omega))),show Wi (ZR.nd ⟨⟨⟨wa,wi⟩,⟨wq,wj⟩,⟨w1a,w1c,w1l⟩,⟨w2a,w2c,w2l⟩⟩,Zr,Zs,ZH,Zv,ZT,a9,ZA,Zw,Zq,Zy,Zp,Zz,⟨Zu,Zt,Zl⟩,ZG,ZJ⟩).table=⟨fa,fi⟩ from hfi] at h3
      refine ⟨_,M5,[(bw,rowO (ZW.segs ⟨⟨⟨⟨wa,wi⟩,⟨wq,wj⟩,⟨w1a,w1c,w1l⟩,⟨w2a,w2c,w2l⟩⟩,Zr,Zs,ZH,Zv,(nxR ZT),fa,(nxR ZT),Zw,Zq,Zy,Zp,Zz,⟨Zu,Zt,Zl⟩,ZG,ZJ⟩,⟨o9a,o9c,o9l⟩⟩) 68)],rfl,(((hM2.trans hm3).trans hm4).trans hm5),hw.c,rfl,⟨⟨⟨wa,wi⟩,⟨wq,wj⟩,⟨w1a,w1c,w1l⟩,⟨w2a,w2c,w2l⟩⟩,Zr,Zs,ZH,Zv,(nxR ZT),fa,(nxR ZT),Zw,Zq,Zy,Zp,Zz,⟨Zu,Zt,Zl⟩,ZG,ZJ⟩,⟨o9a,o9c,o9l⟩,rfl,?_,?_,⟨okl.mono hm5,((k9.mono hm3).mono hm4).mono hm5⟩,k9o,fun y hy=>?_⟩
      ·rw [h3] <;> rfl
      ·rw [h3]
       show sndl o9l=_
       rw [hl9];rfl
      ·simp only at hy
       rw [hl9] at hy
       obtain rfl:=List.mem_singleton.1 hy
       exact ⟨⟨SlK.nil,SlK.nil⟩⟩
     ·replace hc6:=dF hc6
      refine YG ?_
      refine Yk (.inl rfl) (.nil) (fun w hw=>?_)
      have h2:ZR.nd ⟨⟨⟨wa,wi⟩,⟨wq,wj⟩,⟨w1a,w1c,w1l⟩,⟨w2a,w2c,w2l⟩⟩,Zr,Zs,ZH,Zv,ZT,a9,ZA,Zw,Zq,Zy,Zp,Zz,⟨Zu,Zt,Zl⟩,ZG,ZJ⟩=if (ZR.nd ⟨⟨⟨oa,oi⟩,⟨oq,oj⟩,⟨o1a,o1c,o1l⟩,⟨o2a,o2c,o2l⟩⟩,Zr,Zs,ZH,Zv,ZT,a9,ZA,Zw,Zq,Zy,Zp,Zz,⟨Zu,Zt,Zl⟩,ZG,ZJ⟩).table.succ=[]∧(ZR.nd ⟨⟨⟨oa,oi⟩,⟨oq,oj⟩,⟨o1a,o1c,o1l⟩,⟨o2a,o2c,o2l⟩⟩,Zr,Zs,ZH,Zv,ZT,a9,ZA,Zw,Zq,Zy,Zp,Zz,⟨Zu,Zt,Zl⟩,ZG,ZJ⟩).table.pred≠Xf then Vc (ZR.nd ⟨⟨⟨oa,oi⟩,⟨oq,oj⟩,⟨o1a,o1c,o1l⟩,⟨o2a,o2c,o2l⟩⟩,Zr,Zs,ZH,Zv,ZT,a9,ZA,Zw,Zq,Zy,Zp,Zz,⟨Zu,Zt,Zl⟩,ZG,ZJ⟩) (ZR.nd ⟨⟨⟨oa,oi⟩,⟨oq,oj⟩,⟨o1a,o1c,o1l⟩,⟨o2a,o2c,o2l⟩⟩,Zr,Zs,ZH,Zv,ZT,a9,ZA,Zw,Zq,Zy,Zp,Zz,⟨Zu,Zt,Zl⟩,ZG,ZJ⟩).table.pred [] else (ZR.nd ⟨⟨⟨oa,oi⟩,⟨oq,oj⟩,⟨o1a,o1c,o1l⟩,⟨o2a,o2c,o2l⟩⟩,Zr,Zs,ZH,Zv,ZT,a9,ZA,Zw,Zq,Zy,Zp,Zz,⟨Zu,Zt,Zl⟩,ZG,ZJ⟩):=by
       rw [if_pos ⟨show o1l=[] from List.length_eq_zero_iff.1 (by omega),show (⟨oq,oj⟩:ZF)≠Xf from (by assumption)⟩];exact hv1
      have h3:=stab_joined (n:=ZR.nd ⟨⟨⟨Za,Zb⟩,⟨Zf,Zh⟩,⟨Zj,Zi,Zg⟩,⟨Ze,Zd,Zc⟩⟩,Zr,Zs,ZH,Zv,ZT,ZC,ZA,Zw,Zq,Zy,Zp,Zz,⟨Zu,Zt,Zl⟩,ZG,ZJ⟩) (by show Zs=true;simp_all) h1 h2
      rw [if_pos (show (ZR.nd ⟨⟨⟨wa,wi⟩,⟨wq,wj⟩,⟨w1a,w1c,w1l⟩,⟨w2a,w2c,w2l⟩⟩,Zr,Zs,ZH,Zv,ZT,a9,ZA,Zw,Zq,Zy,Zp,Zz,⟨Zu,Zt,Zl⟩,ZG,ZJ⟩).table.succ=[] from List.length_eq_zero_iff.1 (show w1l.length=0 from by omega))] at h3
      refine ⟨_,M4,[(bw,rowO (ZW.segs ⟨⟨⟨⟨wa,wi⟩,⟨wq,wj⟩,⟨w1a,w1c,w1l⟩,⟨w2a,w2c,w2l⟩⟩,Zr,Zs,ZH,Zv,ZT,a9,ZA,Zw,Zq,Zy,Zp,Zz,⟨Zu,Zt,Zl⟩,ZG,ZJ⟩,⟨none,0,[]⟩⟩) 68)],rfl,((hM2.trans hm3).trans hm4),hw.c,rfl,⟨⟨⟨wa,wi⟩,⟨wq,wj⟩,⟨w1a,w1c,w1l⟩,⟨w2a,w2c,w2l⟩⟩,Zr,Zs,ZH,Zv,ZT,a9,ZA,Zw,Zq,Zy,Zp,Zz,⟨Zu,Zt,Zl⟩,ZG,ZJ⟩,⟨none,0,[]⟩,rfl,?_,?_,⟨okl,((k9.mono hm3).mono hm4)⟩,SlK.nil,fun y hy=>by cases hy⟩
      ·rw [h3] <;> rfl
      ·rw [h3] <;> rfl
    ·replace hc5:=nF hc5
     refine YG (Zn (Y_pk [0] ?_));refine ZK (Zm (l:=[0,1,2,3,4,5,6,7]) rfl ?_);refine Zx ?_;refine Yn ?_;refine Zk F.foff68_0 ?_;refine Zk F.foff32_0 ?_;refine Zk F.foff28_2 ?_;refine ZD F.lay26 ?_;refine YY F.elem26 ?_;refine YI ?_;refine Zo (Zn (Y_pk [49,0] ?_))
     refine YA rfl (fun hc7=>?_) (fun hc7=>?_)
     ·replace hc7:=dT hc7
      (exfalso;omega)
     ·replace hc7:=dF hc7
      refine YG ?_
      refine Yk (.inl rfl) (.nil) (fun w hw=>?_)
      have h2:ZR.nd ⟨⟨⟨oa,oi⟩,⟨oq,oj⟩,⟨o1a,o1c,o1l⟩,⟨o2a,o2c,o2l⟩⟩,Zr,Zs,ZH,Zv,ZT,a9,ZA,Zw,Zq,Zy,Zp,Zz,⟨Zu,Zt,Zl⟩,ZG,ZJ⟩=if (ZR.nd ⟨⟨⟨oa,oi⟩,⟨oq,oj⟩,⟨o1a,o1c,o1l⟩,⟨o2a,o2c,o2l⟩⟩,Zr,Zs,ZH,Zv,ZT,a9,ZA,Zw,Zq,Zy,Zp,Zz,⟨Zu,Zt,Zl⟩,ZG,ZJ⟩).table.succ=[]∧(ZR.nd ⟨⟨⟨oa,oi⟩,⟨oq,oj⟩,⟨o1a,o1c,o1l⟩,⟨o2a,o2c,o2l⟩⟩,Zr,Zs,ZH,Zv,ZT,a9,ZA,Zw,Zq,Zy,Zp,Zz,⟨Zu,Zt,Zl⟩,ZG,ZJ⟩).table.pred≠Xf then Vc (ZR.nd ⟨⟨⟨oa,oi⟩,⟨oq,oj⟩,⟨o1a,o1c,o1l⟩,⟨o2a,o2c,o2l⟩⟩,Zr,Zs,ZH,Zv,ZT,a9,ZA,Zw,Zq,Zy,Zp,Zz,⟨Zu,Zt,Zl⟩,ZG,ZJ⟩) (ZR.nd ⟨⟨⟨oa,oi⟩,⟨oq,oj⟩,⟨o1a,o1c,o1l⟩,⟨o2a,o2c,o2l⟩⟩,Zr,Zs,ZH,Zv,ZT,a9,ZA,Zw,Zq,Zy,Zp,Zz,⟨Zu,Zt,Zl⟩,ZG,ZJ⟩).table.pred [] else (ZR.nd ⟨⟨⟨oa,oi⟩,⟨oq,oj⟩,⟨o1a,o1c,o1l⟩,⟨o2a,o2c,o2l⟩⟩,Zr,Zs,ZH,Zv,ZT,a9,ZA,Zw,Zq,Zy,Zp,Zz,⟨Zu,Zt,Zl⟩,ZG,ZJ⟩):=by
       rw [if_neg (by rintro ⟨q1,q2⟩;exact q2 (show (⟨oq,oj⟩:ZF)=Xf from (by assumption)))]
      have h3:=stab_joined (n:=ZR.nd ⟨⟨⟨Za,Zb⟩,⟨Zf,Zh⟩,⟨Zj,Zi,Zg⟩,⟨Ze,Zd,Zc⟩⟩,Zr,Zs,ZH,Zv,ZT,ZC,ZA,Zw,Zq,Zy,Zp,Zz,⟨Zu,Zt,Zl⟩,ZG,ZJ⟩) (by show Zs=true;simp_all) h1 h2
      rw [if_pos (show (ZR.nd ⟨⟨⟨oa,oi⟩,⟨oq,oj⟩,⟨o1a,o1c,o1l⟩,⟨o2a,o2c,o2l⟩⟩,Zr,Zs,ZH,Zv,ZT,a9,ZA,Zw,Zq,Zy,Zp,Zz,⟨Zu,Zt,Zl⟩,ZG,ZJ⟩).table.succ=[] from List.length_eq_zero_iff.1 (show o1l.length=0 from by omega))] at h3
      refine ⟨_,M3,[(bw,rowO (ZW.segs ⟨⟨⟨⟨oa,oi⟩,⟨oq,oj⟩,⟨o1a,o1c,o1l⟩,⟨o2a,o2c,o2l⟩⟩,Zr,Zs,ZH,Zv,ZT,a9,ZA,Zw,Zq,Zy,Zp,Zz,⟨Zu,Zt,Zl⟩,ZG,ZJ⟩,⟨none,0,[]⟩⟩) 68)],rfl,(hM2.trans hm3),hw.c,rfl,⟨⟨⟨oa,oi⟩,⟨oq,oj⟩,⟨o1a,o1c,o1l⟩,⟨o2a,o2c,o2l⟩⟩,Zr,Zs,ZH,Zv,ZT,a9,ZA,Zw,Zq,Zy,Zp,Zz,⟨Zu,Zt,Zl⟩,ZG,ZJ⟩,⟨none,0,[]⟩,rfl,?_,?_,⟨okt,(k9.mono hm3)⟩,SlK.nil,fun y hy=>by cases hy⟩
      ·rw [h3] <;> rfl
      ·rw [h3] <;> rfl
   ·replace hc2:=dF hc2
    iterate 8 refine Ya ?_
    refine ZO ?_;refine Zo (Zn (Y_pk [33,0] ?_));refine Wn rfl ?_;refine YG (Zn (Y_pk [0] ?_));refine ZK (Zm (l:=[0,1,2,3,4,5,6,7]) rfl ?_);refine Zx ?_;refine Yn ?_;refine Zk F.foff68_0 ?_;refine Zk F.foff32_0 ?_;refine Zk F.foff28_2 ?_;refine ZD F.lay26 ?_;refine YY F.elem26 ?_;refine YI ?_;refine Zo (Zn (Y_pk [49,0] ?_))
    refine YA rfl (fun hc8=>?_) (fun hc8=>?_)
    ·replace hc8:=dT hc8
     refine ZK (Zm (l:=[0,1,2,3,4,5,6,7,8,9,10,11]) rfl ?_)
     iterate 2 refine Zx ?_
     refine Yn ?_;refine Zk F.foff68_0 ?_;refine Zk F.foff32_0 ?_;refine ZD F.lay28 ?_;refine X_fs rfl rfl F.ok41 rfl (First_ok _ ⟨⟨oa,oi⟩,⟨oq,oj⟩,⟨o1a,o1c,o1l⟩,⟨o2a,o2c,o2l⟩⟩ okt) rfl ?_
     rintro _ rfl
     obtain ⟨⟨fa,fi⟩,hfi⟩:∃ x,Wi (ZQ.tb ⟨⟨oa,oi⟩,⟨oq,oj⟩,⟨o1a,o1c,o1l⟩,⟨o2a,o2c,o2l⟩⟩)=x:=⟨_,rfl⟩
     rw [hfi]
     refine Y_field F.fld25_0 F.lay3 ?_;refine Yn ?_;refine Zk F.foff68_0 ?_;refine Zk F.foff32_6 ?_;refine Yh F.lay3 ?_;refine Zo (Zn (Y_pk [0] ?_));refine Wb (l:=[0,1,2,3,4,5,6,7,8,9,10,11,12]) [8] rfl ?_
     iterate 3 refine Zx ?_
     refine Yn ?_;refine Zk F.foff68_0 ?_;refine Zk F.foff32_6 ?_;refine ZD F.lay3 ?_;refine Xr rfl rfl F.bld44 (.cons rfl (by constructor) .nil) rfl rfl ?_;refine Vp rfl rfl rfl F.ok83 rfl (request_ok M3 bw _ _ _ _ _ _ _ _ _ _ _ _ _ _ _ _ _ _ _ _ _ _ _ _ _ _ _ fa ⟨3,⟨0,0⟩,0,0,⟨none,0,[]⟩,false,⟨0,0⟩,⟨none,0,[]⟩⟩) (by repeat first|exact Rem.here _|exact Rem.two|apply Rem.skip|apply Rem.over) (YV rfl) ?_
     rintro _ M5 hs5 hm5 ⟨rfl,⟨o9a,o9c,o9l⟩,rfl,k9o,hl9⟩
     simp only at hl9
     simp only [List.append_assoc,List.cons_append,List.nil_append]
     refine Yn ?_;refine Zk F.foff68_0 ?_;refine Zk F.foff32_7 ?_;refine Yh F.lay29 ?_;refine Zo (WP ?_)
     refine Yk (.inl rfl) (.nil) (fun w hw=>?_)
     have h2:ZR.nd ⟨⟨⟨oa,oi⟩,⟨oq,oj⟩,⟨o1a,o1c,o1l⟩,⟨o2a,o2c,o2l⟩⟩,Zr,Zs,ZH,Zv,ZT,a9,ZA,Zw,Zq,Zy,Zp,Zz,⟨Zu,Zt,Zl⟩,ZG,ZJ⟩=if (ZR.nd ⟨⟨⟨oa,oi⟩,⟨oq,oj⟩,⟨o1a,o1c,o1l⟩,⟨o2a,o2c,o2l⟩⟩,Zr,Zs,ZH,Zv,ZT,a9,ZA,Zw,Zq,Zy,Zp,Zz,⟨Zu,Zt,Zl⟩,ZG,ZJ⟩).table.succ=[]∧(ZR.nd ⟨⟨⟨oa,oi⟩,⟨oq,oj⟩,⟨o1a,o1c,o1l⟩,⟨o2a,o2c,o2l⟩⟩,Zr,Zs,ZH,Zv,ZT,a9,ZA,Zw,Zq,Zy,Zp,Zz,⟨Zu,Zt,Zl⟩,ZG,ZJ⟩).table.pred≠Xf then Vc (ZR.nd ⟨⟨⟨oa,oi⟩,⟨oq,oj⟩,⟨o1a,o1c,o1l⟩,⟨o2a,o2c,o2l⟩⟩,Zr,Zs,ZH,Zv,ZT,a9,ZA,Zw,Zq,Zy,Zp,Zz,⟨Zu,Zt,Zl⟩,ZG,ZJ⟩) (ZR.nd ⟨⟨⟨oa,oi⟩,⟨oq,oj⟩,⟨o1a,o1c,o1l⟩,⟨o2a,o2c,o2l⟩⟩,Zr,Zs,ZH,Zv,ZT,a9,ZA,Zw,Zq,Zy,Zp,Zz,⟨Zu,Zt,Zl⟩,ZG,ZJ⟩).table.pred [] else (ZR.nd ⟨⟨⟨oa,oi⟩,⟨oq,oj⟩,⟨o1a,o1c,o1l⟩,⟨o2a,o2c,o2l⟩⟩,Zr,Zs,ZH,Zv,ZT,a9,ZA,Zw,Zq,Zy,Zp,Zz,⟨Zu,Zt,Zl⟩,ZG,ZJ⟩):=by
      rw [if_neg (by rintro ⟨q1,q2⟩;have q3:o1l.length=0:=congrArg List.length q1;omega)]
     have h3:=stab_joined (n:=ZR.nd ⟨⟨⟨Za,Zb⟩,⟨Zf,Zh⟩,⟨Zj,Zi,Zg⟩,⟨Ze,Zd,Zc⟩⟩,Zr,Zs,ZH,Zv,ZT,ZC,ZA,Zw,Zq,Zy,Zp,Zz,⟨Zu,Zt,Zl⟩,ZG,ZJ⟩) (by show Zs=true;simp_all) h1 h2
     rw [if_neg (show ¬(ZR.nd ⟨⟨⟨oa,oi⟩,⟨oq,oj⟩,⟨o1a,o1c,o1l⟩,⟨o2a,o2c,o2l⟩⟩,Zr,Zs,ZH,Zv,ZT,a9,ZA,Zw,Zq,Zy,Zp,Zz,⟨Zu,Zt,Zl⟩,ZG,ZJ⟩).table.succ=[] from (fun q1=>absurd (show o1l.length=0 from congrArg List.length q1) (by omega))),show Wi (ZR.nd ⟨⟨⟨oa,oi⟩,⟨oq,oj⟩,⟨o1a,o1c,o1l⟩,⟨o2a,o2c,o2l⟩⟩,Zr,Zs,ZH,Zv,ZT,a9,ZA,Zw,Zq,Zy,Zp,Zz,⟨Zu,Zt,Zl⟩,ZG,ZJ⟩).table=⟨fa,fi⟩ from hfi] at h3
     refine ⟨_,M5,[(bw,rowO (ZW.segs ⟨⟨⟨⟨oa,oi⟩,⟨oq,oj⟩,⟨o1a,o1c,o1l⟩,⟨o2a,o2c,o2l⟩⟩,Zr,Zs,ZH,Zv,(nxR ZT),fa,(nxR ZT),Zw,Zq,Zy,Zp,Zz,⟨Zu,Zt,Zl⟩,ZG,ZJ⟩,⟨o9a,o9c,o9l⟩⟩) 68)],rfl,((hM2.trans hm3).trans hm5),hw.c,rfl,⟨⟨⟨oa,oi⟩,⟨oq,oj⟩,⟨o1a,o1c,o1l⟩,⟨o2a,o2c,o2l⟩⟩,Zr,Zs,ZH,Zv,(nxR ZT),fa,(nxR ZT),Zw,Zq,Zy,Zp,Zz,⟨Zu,Zt,Zl⟩,ZG,ZJ⟩,⟨o9a,o9c,o9l⟩,rfl,?_,?_,⟨okt.mono hm5,(k9.mono hm3).mono hm5⟩,k9o,fun y hy=>?_⟩
     ·rw [h3] <;> rfl
     ·rw [h3]
      show sndl o9l=_
      rw [hl9];rfl
     ·simp only at hy
      rw [hl9] at hy
      obtain rfl:=List.mem_singleton.1 hy
      exact ⟨⟨SlK.nil,SlK.nil⟩⟩
    ·replace hc8:=dF hc8
     (exfalso;omega)
end Go.Proofs.YtajmnjefajknoaaGreat
namespace Go.Proofs.YtajmnjefajknoaaGreat
open Go.Esp
theorem F.ok19:okFn Tryz.prog 19=true:=by kernel_rfl
theorem F.ok87:okFn Tryz.prog 87=true:=by kernel_rfl
theorem F.ok88:okFn Tryz.prog 88=true:=by kernel_rfl
theorem fix_ok (M:Mem) (bw:Nat) (Za:Int) (Zb:Plc) (Zf:Int) (Zh:Plc) (Zj Ze Zu:Option Addr) (Zi Zd Zt:Nat) (Zg Zc:List ZF) (Zl:List Int) (Zr:Int) (Zs:Bool) (ZH Zv ZT ZC ZA Zw Zq Zy Zp:Int) (Zz:Plc) (ZG ZJ:Int) (Yv:ZQ.ok M ⟨⟨Za,Zb⟩,⟨Zf,Zh⟩,⟨Zj,Zi,Zg⟩,⟨Ze,Zd,Zc⟩⟩) (hbig:Zg.length≤40∧Zc.length≤200) (hcu:0≤Zv∧Zv≤159) (hav:Hp) (hA:OSl 3 1 (.slice Zu Zl.length Zt) hav (Zl.map (oneI .i64))) (hLa:Zl.length≤900):Fh Tryz.prog 34 [.pointer (some ⟨bw,0,none⟩)] M ((bw,rowO (ZW.segs ⟨⟨⟨⟨Za,Zb⟩,⟨Zf,Zh⟩,⟨Zj,Zi,Zg⟩,⟨Ze,Zd,Zc⟩⟩,Zr,Zs,ZH,Zv,ZT,ZC,ZA,Zw,Zq,Zy,Zp,Zz,⟨Zu,Zt,Zl⟩,ZG,ZJ⟩,⟨none,0,[]⟩⟩) 68)::hav) (fun M' v Hout=>v=.tuple #[]∧WkF bw 68 M' Hout (fixN (ZR.nd ⟨⟨⟨Za,Zb⟩,⟨Zf,Zh⟩,⟨Zj,Zi,Zg⟩,⟨Ze,Zd,Zc⟩⟩,Zr,Zs,ZH,Zv,ZT,ZC,ZA,Zw,Zq,Zy,Zp,Zz,⟨Zu,Zt,Zl⟩,ZG,ZJ⟩))):=by
  obtain ⟨kn,rfl⟩:∃ kn:Nat,Zv=(kn:Int):=⟨Zv.toNat,by omega⟩
  refine Wt (fun H=>(bw,rowO (ZW.segs ⟨⟨⟨⟨Za,Zb⟩,⟨Zf,Zh⟩,⟨Zj,Zi,Zg⟩,⟨Ze,Zd,Zc⟩⟩,Zr,Zs,ZH,(kn:Int),ZT,ZC,ZA,Zw,Zq,Zy,Zp,Zz,⟨Zu,Zt,Zl⟩,ZG,ZJ⟩,⟨none,0,[]⟩⟩) 68)::(hav++H)) (fun _=>by simp only [List.append_assoc,List.cons_append,List.nil_append]) Tryz.func34 rfl Tryz.ntmps34 rfl ?_;intro H
  iterate 2 refine ZK ?_
  refine Zm (l:=[0,1,2,3,4,5]) rfl ?_;refine Zx ?_;refine Yn ?_;refine Zk F.foff68_0 ?_;refine Zk F.foff32_2 ?_;refine ZD F.lay4 ?_;refine Xj ?_;refine Zo (Zn (Y_pk [14,0] ?_))
  refine YA rfl (fun hc1=>?_) (fun hc1=>?_)
  ·skip
   refine Yo (YS ?_)
   refine Yk (.inr rfl) (.nil) (fun w hw=>?_)
   obtain ⟨M9,j1,j2,j3⟩:=OSl.frz (H:=(bw,rowO (ZW.segs ⟨⟨⟨⟨Za,Zb⟩,⟨Zf,Zh⟩,⟨Zj,Zi,Zg⟩,⟨Ze,Zd,Zc⟩⟩,Zr,Zs,ZH,(kn:Int),ZT,ZC,ZA,Zw,Zq,Zy,Zp,Zz,⟨Zu,Zt,Zl⟩,ZG,ZJ⟩,⟨none,0,[]⟩⟩) 68)::H) hA (hw.c)
   refine ⟨_,M9,[(bw,rowO (ZW.segs ⟨⟨⟨⟨Za,Zb⟩,⟨Zf,Zh⟩,⟨Zj,Zi,Zg⟩,⟨Ze,Zd,Zc⟩⟩,Zr,Zs,ZH,(kn:Int),ZT,ZC,ZA,Zw,Zq,Zy,Zp,Zz,⟨Zu,Zt,Zl⟩,ZG,ZJ⟩,⟨none,0,[]⟩⟩) 68)],rfl,j1,j2,rfl,⟨⟨⟨Za,Zb⟩,⟨Zf,Zh⟩,⟨Zj,Zi,Zg⟩,⟨Ze,Zd,Zc⟩⟩,Zr,Zs,ZH,(kn:Int),ZT,ZC,ZA,Zw,Zq,Zy,Zp,Zz,⟨Zu,Zt,Zl⟩,ZG,ZJ⟩,⟨none,0,[]⟩,rfl,?_,?_,⟨Yv.mono j1,j3⟩,SlK.nil,fun y hy=>by cases hy⟩
   ·rw [fix_out (n:=ZR.nd ⟨⟨⟨Za,Zb⟩,⟨Zf,Zh⟩,⟨Zj,Zi,Zg⟩,⟨Ze,Zd,Zc⟩⟩,Zr,Zs,ZH,(kn:Int),ZT,ZC,ZA,Zw,Zq,Zy,Zp,Zz,⟨Zu,Zt,Zl⟩,ZG,ZJ⟩) (show Zs=false by simp_all)]
   ·rw [fix_out (n:=ZR.nd ⟨⟨⟨Za,Zb⟩,⟨Zf,Zh⟩,⟨Zj,Zi,Zg⟩,⟨Ze,Zd,Zc⟩⟩,Zr,Zs,ZH,(kn:Int),ZT,ZC,ZA,Zw,Zq,Zy,Zp,Zz,⟨Zu,Zt,Zl⟩,ZG,ZJ⟩) (show Zs=false by simp_all)] <;> rfl
  ·skip
   refine YG (Zn (Y_pk [0] ?_))
   iterate 2 refine ZK ?_
   refine Zm (l:=[0,1,2,3,4,5]) rfl ?_;refine Zx ?_;refine Yn ?_;refine Zk F.foff68_0 ?_;refine Zk F.foff32_10 ?_;refine ZD F.lay3 ?_;refine YI ?_;refine Zo (Zn (Y_pk [20,0] ?_))
   refine YA rfl (fun hc2=>?_) (fun hc2=>?_)
   ·replace hc2:=dT hc2
    refine Zm (l:=[0,1,2,3,4]) rfl ?_;refine Zx ?_;refine Yn ?_;refine Zk F.foff68_0 ?_;refine Zk F.foff32_13 ?_;refine Yh F.lay30 ?_;refine Zo (Zn (Y_pk [0] ?_));refine ZK ?_
    have hM2:=Mem.le.refl M
    have k9:SlK M (oneI .i64) 1 ⟨none,0,[]⟩:=SlK.nil
    refine Wb (l:=[0,1,2,3,4,5]) [5] rfl ?_
    iterate 2 refine Zx ?_
    refine Yn ?_;refine Zk F.foff68_0 ?_;refine Zk F.foff32_10 ?_;refine Vp rfl rfl rfl F.ok81 rfl (lostF_ok M bw Za Zb Zf Zh Zj Ze none Zi Zd 0 Zg Zc [] Zr Zs ZH (kn:Int) ZT ZC ZA Zw Zq Zy Zp Zz ZG ZJ (Yv.mono hM2) hbig) (by repeat first|exact Rem.here _|exact Rem.two|apply Rem.skip|apply Rem.over) (YV rfl) ?_
    rintro _ M3 hs3 hm3 ⟨rfl,⟨⟨oa,oi⟩,⟨oq,oj⟩,⟨o1a,o1c,o1l⟩,⟨o2a,o2c,o2l⟩⟩,a9,rfl,okt,hlo⟩
    have hbo:=lost_big (congrArg Prod.fst hlo) hbig
    have h2:=fix_nil (n:=ZR.nd ⟨⟨⟨Za,Zb⟩,⟨Zf,Zh⟩,⟨Zj,Zi,Zg⟩,⟨Ze,Zd,Zc⟩⟩,Zr,Zs,ZH,(kn:Int),ZT,ZC,ZA,Zw,Zq,Zy,Zp,Zz,⟨Zu,Zt,Zl⟩,ZG,ZJ⟩) hlo (show Zy=-1 by omega)
    simp only [List.append_assoc,List.cons_append,List.nil_append]
    refine Zo (WP ?_);refine Zn (Y_pk [0] ?_);refine ZK (Zm (l:=[0,1,2,3,4,5,6,7,8,9,10,11]) rfl ?_);refine Zx ?_;refine Yn ?_;refine Zk F.foff68_0 ?_;refine Zk F.foff32_4 ?_;refine ZD F.lay3 ?_;refine X_fs rfl rfl F.ok85 rfl (Power_ok_in _ kn (by omega)) rfl ?_
    rintro _ rfl
    refine Zx ?_
    iterate 2 refine XU ?_
    refine YW F.zero23 ?_;intro b3
    refine Yh F.lay23 ?_;refine ZB ?_;refine Zo (Zn (Y_pk [2,0] ?_));refine ZK (YK (l:=[0,1,2,3,4,5,6,7,8,9,10]) #[0,1,3,7,15,31,63,0,255,0,1023] _ rfl (by kernel_rfl) (by kernel_rfl) St.drawn (fun _ h=>h) ?_);refine Zx ?_;refine Yn ?_;refine Zk F.foff68_0 ?_;refine Zk F.foff32_0 ?_;refine Zk F.foff28_0 ?_;refine Zk F.foff25_1 ?_
    iterate 2 refine ZD F.lay23 ?_
    refine X_fs rfl rfl F.ok86 rfl (Plus_ok _ _ _) rfl ?_
    rintro _ rfl
    refine YW F.zero23 ?_;intro b4
    refine Yh F.lay23 ?_;refine Zo (Zn (Y_pk [4,0] ?_))
    iterate 2 refine ZK ?_
    refine YK (l:=[0,1,2,3,4,5,6,7,8,9,10,11,12]) #[0,1,3,7,15,0,63,127,255,255,0,1535,4095] _ rfl (by kernel_rfl) (by kernel_rfl) St.drawn (fun _ h=>h) ?_;refine Zx ?_;refine Yn ?_;refine Zk F.foff68_0 ?_;refine Zk F.foff32_0 ?_;refine ZD F.lay28 ?_;refine ZD F.lay23 ?_;refine X_fs rfl rfl F.ok19 rfl (Done_ok _ ⟨⟨oa,oi⟩,⟨oq,oj⟩,⟨o1a,o1c,o1l⟩,⟨o2a,o2c,o2l⟩⟩ (oi+powP kn) okt) rfl ?_
    rintro _ rfl
    obtain ⟨⟨⟨da,di⟩,db⟩,hd⟩:∃ x,VL (ZQ.tb ⟨⟨oa,oi⟩,⟨oq,oj⟩,⟨o1a,o1c,o1l⟩,⟨o2a,o2c,o2l⟩⟩) (oi+powP kn)=x:=⟨_,rfl⟩
    rw [hd]
    refine Zx ?_
    iterate 2 refine XU ?_
    refine YW F.zero25 ?_;intro b5
    refine Yh F.lay25 ?_;refine ZB ?_;refine Zo (Zn (Y_pk [6,5,4,0] ?_));refine ZK (Zm (l:=[0]) rfl ?_);refine Zx ?_;refine Zo (Zn (Y_pk [66,5,4,0] ?_))
    refine YA rfl (fun hc6=>?_) (fun hc6=>?_)
    ·skip
     simp only [ZF.eta,ZQ.eta,ZR.eta,ZP.eta,Yr.eta,ZW.eta,YQ.eta,Yc.eta] at hc6
     refine ZK (Wb (l:=[0,1,2]) [2] rfl ?_);refine Zx ?_;refine ZD F.lay25 ?_;refine Vp rfl rfl rfl F.ok87 rfl (point_ok M3 bw oa oi oq oj o1a o2a none o1c o2c 0 o1l o2l [] Zr Zs ZH (kn:Int) ZT ZC ZA Zw Zq a9 Zp Zz ZG ZJ okt ⟨da,di⟩) (by repeat first|exact Rem.here _|exact Rem.two|apply Rem.skip|apply Rem.over) (YV rfl) ?_
     rintro _ M4 hs4 hm4 ⟨rfl,⟨⟨wa,wi⟩,⟨wq,wj⟩,⟨w1a,w1c,w1l⟩,⟨w2a,w2c,w2l⟩⟩,c9,rfl,okl,hv1⟩
     simp only [List.append_assoc,List.cons_append,List.nil_append]
     refine Zo (WP ?_);refine Zn (Y_pk [4,0] ?_);refine Yo (YS ?_)
     refine Yk (.inr rfl) (.nil) (fun w hw=>?_)
     have h3:=fix_eq (n:=ZR.nd ⟨⟨⟨Za,Zb⟩,⟨Zf,Zh⟩,⟨Zj,Zi,Zg⟩,⟨Ze,Zd,Zc⟩⟩,Zr,Zs,ZH,(kn:Int),ZT,ZC,ZA,Zw,Zq,Zy,Zp,Zz,⟨Zu,Zt,Zl⟩,ZG,ZJ⟩) (m:=(ZR.nd ⟨⟨⟨oa,oi⟩,⟨oq,oj⟩,⟨o1a,o1c,o1l⟩,⟨o2a,o2c,o2l⟩⟩,Zr,Zs,ZH,(kn:Int),ZT,ZC,ZA,Zw,Zq,a9,Zp,Zz,⟨none,0,[]⟩,ZG,ZJ⟩)) (id:=(oi+powP kn)) (by show Zs=true;simp_all) h2 rfl
     rw [show VL (ZR.nd ⟨⟨⟨oa,oi⟩,⟨oq,oj⟩,⟨o1a,o1c,o1l⟩,⟨o2a,o2c,o2l⟩⟩,Zr,Zs,ZH,(kn:Int),ZT,ZC,ZA,Zw,Zq,a9,Zp,Zz,⟨none,0,[]⟩,ZG,ZJ⟩).table (oi+powP kn)=_ from hd] at h3
     rw [if_pos (by show db=true;simp_all)] at h3
     exact ⟨_,M4,[(bw,rowO (ZW.segs ⟨⟨⟨⟨wa,wi⟩,⟨wq,wj⟩,⟨w1a,w1c,w1l⟩,⟨w2a,w2c,w2l⟩⟩,Zr,Zs,ZH,c9,ZT,ZC,ZA,Zw,Zq,a9,Zp,Zz,⟨none,0,[]⟩,ZG,ZJ⟩,⟨none,0,[]⟩⟩) 68)],rfl,(hM2.trans hm3).trans hm4,hw.c,rfl,⟨⟨⟨wa,wi⟩,⟨wq,wj⟩,⟨w1a,w1c,w1l⟩,⟨w2a,w2c,w2l⟩⟩,Zr,Zs,ZH,c9,ZT,ZC,ZA,Zw,Zq,a9,Zp,Zz,⟨none,0,[]⟩,ZG,ZJ⟩,⟨none,0,[]⟩,rfl,by rw [h3];exact hv1,by rw [h3];rfl,⟨okl,(k9.mono hm3).mono hm4⟩,SlK.nil,fun y hy=>by cases hy⟩
    ·skip
     simp only [ZF.eta,ZQ.eta,ZR.eta,ZP.eta,Yr.eta,ZW.eta,YQ.eta,Yc.eta] at hc6
     refine YG (Zn (Y_pk [4,0] ?_));refine ZK (YK (l:=[0,1,2,3,4,5,6,7,8,9,10,11,12,13,14,15,16,17]) #[0,1,3,7,15,0,0,64,192,448,960,2047,4095,8191,8191,0,49151,131071] _ rfl (by kernel_rfl) (by kernel_rfl) St.drawn (fun _ h=>h) ?_);refine Zx ?_;refine Yn ?_;refine Zk F.foff68_0 ?_;refine Zk F.foff32_0 ?_;refine ZD F.lay28 ?_;refine ZD F.lay23 ?_;refine Zx ?_;refine Yn ?_;refine Zk F.foff68_0 ?_;refine Zk F.foff32_13 ?_;refine ZD F.lay30 ?_;refine X_fn rfl rfl F.ok88 rfl (Nearest_ok _ ⟨⟨oa,oi⟩,⟨oq,oj⟩,⟨o1a,o1c,o1l⟩,⟨o2a,o2c,o2l⟩⟩ (oi+powP kn) ⟨none,0,[]⟩ okt (k9.mono hm3) hbo) rfl ?_
     rintro _ M4 hm4 rfl
     obtain ⟨⟨⟨qa,qi⟩,qb⟩,hq⟩:∃ x,Wj (ZQ.tb ⟨⟨oa,oi⟩,⟨oq,oj⟩,⟨o1a,o1c,o1l⟩,⟨o2a,o2c,o2l⟩⟩) (oi+powP kn) (⟨none,0,[]⟩:Sl Int).l=x:=⟨_,rfl⟩
     rw [hq]
     refine Zx ?_
     iterate 2 refine XU ?_
     refine YW F.zero25 ?_;intro b7
     refine Yh F.lay25 ?_;refine ZB ?_;refine Zo (Zn (Y_pk [8,7,4,0] ?_))
     iterate 2 refine ZK ?_
     refine Zm (l:=[0,1]) rfl ?_;refine Zx ?_;refine Xj ?_;refine Zo (Zn (Y_pk [86,7,4,0] ?_))
     refine YA rfl (fun hc8=>?_) (fun hc8=>?_)
     ·skip
      simp only [ZF.eta,ZQ.eta,ZR.eta,ZP.eta,Yr.eta,ZW.eta,YQ.eta,Yc.eta] at hc8
      refine ZK (Zm (l:=[0,1,2,3,4]) rfl ?_);refine Zx ?_;refine Yn ?_;refine Zk F.foff68_0 ?_;refine Zk F.foff32_4 ?_;refine Yh F.lay3 ?_;refine Zo (Zn (Y_pk [7,4,0] ?_));refine Yo (YS ?_)
      refine Yk (.inr rfl) (.nil) (fun w hw=>?_)
      have h3:=fix_eq (n:=ZR.nd ⟨⟨⟨Za,Zb⟩,⟨Zf,Zh⟩,⟨Zj,Zi,Zg⟩,⟨Ze,Zd,Zc⟩⟩,Zr,Zs,ZH,(kn:Int),ZT,ZC,ZA,Zw,Zq,Zy,Zp,Zz,⟨Zu,Zt,Zl⟩,ZG,ZJ⟩) (m:=(ZR.nd ⟨⟨⟨oa,oi⟩,⟨oq,oj⟩,⟨o1a,o1c,o1l⟩,⟨o2a,o2c,o2l⟩⟩,Zr,Zs,ZH,(kn:Int),ZT,ZC,ZA,Zw,Zq,a9,Zp,Zz,⟨none,0,[]⟩,ZG,ZJ⟩)) (id:=(oi+powP kn)) (by show Zs=true;simp_all) h2 rfl
      rw [show VL (ZR.nd ⟨⟨⟨oa,oi⟩,⟨oq,oj⟩,⟨o1a,o1c,o1l⟩,⟨o2a,o2c,o2l⟩⟩,Zr,Zs,ZH,(kn:Int),ZT,ZC,ZA,Zw,Zq,a9,Zp,Zz,⟨none,0,[]⟩,ZG,ZJ⟩).table (oi+powP kn)=_ from hd] at h3
      rw [if_neg (by show ¬db=true;simp_all),show Wj (ZR.nd ⟨⟨⟨oa,oi⟩,⟨oq,oj⟩,⟨o1a,o1c,o1l⟩,⟨o2a,o2c,o2l⟩⟩,Zr,Zs,ZH,(kn:Int),ZT,ZC,ZA,Zw,Zq,a9,Zp,Zz,⟨none,0,[]⟩,ZG,ZJ⟩).table (oi+powP kn) (ZR.nd ⟨⟨⟨oa,oi⟩,⟨oq,oj⟩,⟨o1a,o1c,o1l⟩,⟨o2a,o2c,o2l⟩⟩,Zr,Zs,ZH,(kn:Int),ZT,ZC,ZA,Zw,Zq,a9,Zp,Zz,⟨none,0,[]⟩,ZG,ZJ⟩).avoid=_ from hq] at h3
      rw [if_pos (by show qb=false;simp_all)] at h3
      refine ⟨_,M4,[(bw,rowO (ZW.segs ⟨⟨⟨⟨oa,oi⟩,⟨oq,oj⟩,⟨o1a,o1c,o1l⟩,⟨o2a,o2c,o2l⟩⟩,Zr,Zs,ZH,0,ZT,ZC,ZA,Zw,Zq,a9,Zp,Zz,⟨none,0,[]⟩,ZG,ZJ⟩,⟨none,0,[]⟩⟩) 68)],rfl,((hM2.trans hm3).trans hm4),hw.c,rfl,⟨⟨⟨oa,oi⟩,⟨oq,oj⟩,⟨o1a,o1c,o1l⟩,⟨o2a,o2c,o2l⟩⟩,Zr,Zs,ZH,0,ZT,ZC,ZA,Zw,Zq,a9,Zp,Zz,⟨none,0,[]⟩,ZG,ZJ⟩,⟨none,0,[]⟩,rfl,?_,?_,⟨okt.mono hm4,(k9.mono hm3).mono hm4⟩,SlK.nil,fun y hy=>by cases hy⟩
      ·rw [h3] <;> rfl
      ·rw [h3] <;> rfl
     ·skip
      simp only [ZF.eta,ZQ.eta,ZR.eta,ZP.eta,Yr.eta,ZW.eta,YQ.eta,Yc.eta] at hc8
      refine YG (Zn (Y_pk [7,4,0] ?_));refine ZK (Zm (l:=[0,1,2,3,4,5,6,7,8,9,10]) rfl ?_)
      iterate 2 refine Zx ?_
      refine ZD F.lay23 ?_;refine Yn ?_;refine Zk F.foff68_0 ?_;refine Zk F.foff32_12 ?_;refine Yh F.lay23 ?_;refine Yn ?_;refine Zk F.foff68_0 ?_;refine Zk F.foff32_14 ?_;refine Yh F.lay3 ?_;refine Zo (Zn (Y_pk [7,0] ?_));refine Wb (l:=[0,1,2,3]) [3] rfl ?_;refine Zx ?_;refine Zk F.foff25_0 ?_;refine ZD F.lay3 ?_;refine Vp rfl rfl rfl F.ok89 rfl (seek_ok M4 bw oa oi oq oj o1a o2a none o1c o2c 0 o1l o2l [] Zr Zs ZH (kn:Int) ZT ZC ZA Zw Zq a9 Zp (oi+powP kn) 0 ZJ (okt.mono hm4) ((k9.mono hm3).mono hm4) (by (simp;done)) qa) (by repeat first|exact Rem.here _|exact Rem.two|apply Rem.skip|apply Rem.over) (YV rfl) ?_
      rintro _ M5 hs5 hm5 ⟨rfl,⟨⟨⟨Yw,YJ⟩,⟨YC,YL⟩,⟨YP,YO,YN⟩,⟨YF,YE,YD⟩⟩,Xz,XF,Wg,XB,WB,XM,XA,Xw,Xo,Xx,Xp,Xy,⟨Xu,Xt,Xs⟩,Wf,We⟩,⟨o_a,o_c,o_l⟩,rfl,hv1,hv2,okv,oko,okq⟩
      simp only [List.append_assoc,List.cons_append,List.nil_append]
      refine Zo (WP ?_)
      refine Yk (.inl rfl) (.nil) (fun w hw=>?_)
      have h3:=fix_eq (n:=ZR.nd ⟨⟨⟨Za,Zb⟩,⟨Zf,Zh⟩,⟨Zj,Zi,Zg⟩,⟨Ze,Zd,Zc⟩⟩,Zr,Zs,ZH,(kn:Int),ZT,ZC,ZA,Zw,Zq,Zy,Zp,Zz,⟨Zu,Zt,Zl⟩,ZG,ZJ⟩) (m:=(ZR.nd ⟨⟨⟨oa,oi⟩,⟨oq,oj⟩,⟨o1a,o1c,o1l⟩,⟨o2a,o2c,o2l⟩⟩,Zr,Zs,ZH,(kn:Int),ZT,ZC,ZA,Zw,Zq,a9,Zp,Zz,⟨none,0,[]⟩,ZG,ZJ⟩)) (id:=(oi+powP kn)) (by show Zs=true;simp_all) h2 rfl
      rw [show VL (ZR.nd ⟨⟨⟨oa,oi⟩,⟨oq,oj⟩,⟨o1a,o1c,o1l⟩,⟨o2a,o2c,o2l⟩⟩,Zr,Zs,ZH,(kn:Int),ZT,ZC,ZA,Zw,Zq,a9,Zp,Zz,⟨none,0,[]⟩,ZG,ZJ⟩).table (oi+powP kn)=_ from hd] at h3
      rw [if_neg (by show ¬db=true;simp_all),show Wj (ZR.nd ⟨⟨⟨oa,oi⟩,⟨oq,oj⟩,⟨o1a,o1c,o1l⟩,⟨o2a,o2c,o2l⟩⟩,Zr,Zs,ZH,(kn:Int),ZT,ZC,ZA,Zw,Zq,a9,Zp,Zz,⟨none,0,[]⟩,ZG,ZJ⟩).table (oi+powP kn) (ZR.nd ⟨⟨⟨oa,oi⟩,⟨oq,oj⟩,⟨o1a,o1c,o1l⟩,⟨o2a,o2c,o2l⟩⟩,Zr,Zs,ZH,(kn:Int),ZT,ZC,ZA,Zw,Zq,a9,Zp,Zz,⟨none,0,[]⟩,ZG,ZJ⟩).avoid=_ from hq] at h3
      rw [if_neg (by show ¬qb=false;simp_all)] at h3
      exact ⟨_,M5,[(bw,rowO (ZW.segs ⟨⟨⟨⟨Yw,YJ⟩,⟨YC,YL⟩,⟨YP,YO,YN⟩,⟨YF,YE,YD⟩⟩,Xz,XF,Wg,XB,WB,XM,XA,Xw,Xo,Xx,Xp,Xy,⟨Xu,Xt,Xs⟩,Wf,We⟩,⟨o_a,o_c,o_l⟩⟩) 68)],rfl,(((hM2.trans hm3).trans hm4).trans hm5),hw.c,rfl,⟨⟨⟨Yw,YJ⟩,⟨YC,YL⟩,⟨YP,YO,YN⟩,⟨YF,YE,YD⟩⟩,Xz,XF,Wg,XB,WB,XM,XA,Xw,Xo,Xx,Xp,Xy,⟨Xu,Xt,Xs⟩,Wf,We⟩,⟨o_a,o_c,o_l⟩,rfl,by rw [h3];exact hv1,by rw [h3];exact hv2,okv,oko,okq⟩
   ·replace hc2:=dF hc2
    refine Wb (l:=[0,1,2,3,4,5,6]) [6] rfl ?_
    iterate 2 refine Zx ?_
    refine Yn ?_;refine Zk F.foff68_0 ?_;refine Zk F.foff32_10 ?_;refine ZD F.lay3 ?_;refine Vp rfl rfl rfl F.ok84 rfl (shun_ok M bw _ _ _ _ _ _ _ _ _ _ _ _ _ _ _ _ _ _ _ _ _ _ _ _ _ _ _ hav hA (by omega) Zy) (by repeat first|exact Rem.here _|exact Rem.two|apply Rem.skip|apply Rem.over) (YV rfl) ?_
    rintro _ M1 hs1 hm1 ⟨hM1,rfl,⟨s_a,s_c,s_l⟩,hs9,rfl,ho9,hl9⟩
    subst M1
    simp only [Sl.val] at ho9
    simp only at hl9
    have hLs:s_l.length≤901:=shun_len hl9 hLa
    simp only [List.append_assoc,List.cons_append,List.nil_append]
    refine Zo (WP ?_);refine Zn (Y_pk [0] ?_);refine ZK ?_
    refine UG ho9 (by repeat first|exact Rem.here _|exact Rem.two|apply Rem.skip|apply Rem.over) (fun M2 hM2 k9=>?_)
    refine Wb (l:=[0,1,2,3,4,5]) [5] rfl ?_
    iterate 2 refine Zx ?_
    refine Yn ?_;refine Zk F.foff68_0 ?_;refine Zk F.foff32_10 ?_;refine Vp rfl rfl rfl F.ok81 rfl (lostF_ok M2 bw Za Zb Zf Zh Zj Ze s_a Zi Zd s_c Zg Zc s_l Zr Zs ZH (kn:Int) ZT ZC ZA Zw Zq Zy Zp Zz ZG ZJ (Yv.mono hM2) hbig) (by repeat first|exact Rem.here _|exact Rem.two|apply Rem.skip|apply Rem.over) (YV rfl) ?_
    rintro _ M3 hs3 hm3 ⟨rfl,⟨⟨oa,oi⟩,⟨oq,oj⟩,⟨o1a,o1c,o1l⟩,⟨o2a,o2c,o2l⟩⟩,a9,rfl,okt,hlo⟩
    have hbo:=lost_big (congrArg Prod.fst hlo) hbig
    have h2:=fix_shun (n:=ZR.nd ⟨⟨⟨Za,Zb⟩,⟨Zf,Zh⟩,⟨Zj,Zi,Zg⟩,⟨Ze,Zd,Zc⟩⟩,Zr,Zs,ZH,(kn:Int),ZT,ZC,ZA,Zw,Zq,Zy,Zp,Zz,⟨Zu,Zt,Zl⟩,ZG,ZJ⟩) (l:=s_l) hlo (show Zy≠-1 by omega) hl9
    simp only [List.append_assoc,List.cons_append,List.nil_append]
    refine Zo (WP ?_);refine Zn (Y_pk [0] ?_);refine ZK (Zm (l:=[0,1,2,3,4,5,6,7,8,9,10,11]) rfl ?_);refine Zx ?_;refine Yn ?_;refine Zk F.foff68_0 ?_;refine Zk F.foff32_4 ?_;refine ZD F.lay3 ?_;refine X_fs rfl rfl F.ok85 rfl (Power_ok_in _ kn (by omega)) rfl ?_
    rintro _ rfl
    refine Zx ?_
    iterate 2 refine XU ?_
    refine YW F.zero23 ?_;intro b9
    refine Yh F.lay23 ?_;refine ZB ?_;refine Zo (Zn (Y_pk [2,0] ?_));refine ZK (YK (l:=[0,1,2,3,4,5,6,7,8,9,10]) #[0,1,3,7,15,31,63,0,255,0,1023] _ rfl (by kernel_rfl) (by kernel_rfl) St.drawn (fun _ h=>h) ?_);refine Zx ?_;refine Yn ?_;refine Zk F.foff68_0 ?_;refine Zk F.foff32_0 ?_;refine Zk F.foff28_0 ?_;refine Zk F.foff25_1 ?_
    iterate 2 refine ZD F.lay23 ?_
    refine X_fs rfl rfl F.ok86 rfl (Plus_ok _ _ _) rfl ?_
    rintro _ rfl
    refine YW F.zero23 ?_;intro b10
    refine Yh F.lay23 ?_;refine Zo (Zn (Y_pk [4,0] ?_))
    iterate 2 refine ZK ?_
    refine YK (l:=[0,1,2,3,4,5,6,7,8,9,10,11,12]) #[0,1,3,7,15,0,63,127,255,255,0,1535,4095] _ rfl (by kernel_rfl) (by kernel_rfl) St.drawn (fun _ h=>h) ?_;refine Zx ?_;refine Yn ?_;refine Zk F.foff68_0 ?_;refine Zk F.foff32_0 ?_;refine ZD F.lay28 ?_;refine ZD F.lay23 ?_;refine X_fs rfl rfl F.ok19 rfl (Done_ok _ ⟨⟨oa,oi⟩,⟨oq,oj⟩,⟨o1a,o1c,o1l⟩,⟨o2a,o2c,o2l⟩⟩ (oi+powP kn) okt) rfl ?_
    rintro _ rfl
    obtain ⟨⟨⟨da,di⟩,db⟩,hd⟩:∃ x,VL (ZQ.tb ⟨⟨oa,oi⟩,⟨oq,oj⟩,⟨o1a,o1c,o1l⟩,⟨o2a,o2c,o2l⟩⟩) (oi+powP kn)=x:=⟨_,rfl⟩
    rw [hd]
    refine Zx ?_
    iterate 2 refine XU ?_
    refine YW F.zero25 ?_;intro b11
    refine Yh F.lay25 ?_;refine ZB ?_;refine Zo (Zn (Y_pk [6,5,4,0] ?_));refine ZK (Zm (l:=[0]) rfl ?_);refine Zx ?_;refine Zo (Zn (Y_pk [66,5,4,0] ?_))
    refine YA rfl (fun hc12=>?_) (fun hc12=>?_)
    ·skip
     simp only [ZF.eta,ZQ.eta,ZR.eta,ZP.eta,Yr.eta,ZW.eta,YQ.eta,Yc.eta] at hc12
     refine ZK (Wb (l:=[0,1,2]) [2] rfl ?_);refine Zx ?_;refine ZD F.lay25 ?_;refine Vp rfl rfl rfl F.ok87 rfl (point_ok M3 bw oa oi oq oj o1a o2a s_a o1c o2c s_c o1l o2l s_l Zr Zs ZH (kn:Int) ZT ZC ZA Zw Zq a9 Zp Zz ZG ZJ okt ⟨da,di⟩) (by repeat first|exact Rem.here _|exact Rem.two|apply Rem.skip|apply Rem.over) (YV rfl) ?_
     rintro _ M4 hs4 hm4 ⟨rfl,⟨⟨wa,wi⟩,⟨wq,wj⟩,⟨w1a,w1c,w1l⟩,⟨w2a,w2c,w2l⟩⟩,c9,rfl,okl,hv1⟩
     simp only [List.append_assoc,List.cons_append,List.nil_append]
     refine Zo (WP ?_);refine Zn (Y_pk [4,0] ?_);refine Yo (YS ?_)
     refine Yk (.inr rfl) (.nil) (fun w hw=>?_)
     have h3:=fix_eq (n:=ZR.nd ⟨⟨⟨Za,Zb⟩,⟨Zf,Zh⟩,⟨Zj,Zi,Zg⟩,⟨Ze,Zd,Zc⟩⟩,Zr,Zs,ZH,(kn:Int),ZT,ZC,ZA,Zw,Zq,Zy,Zp,Zz,⟨Zu,Zt,Zl⟩,ZG,ZJ⟩) (m:=(ZR.nd ⟨⟨⟨oa,oi⟩,⟨oq,oj⟩,⟨o1a,o1c,o1l⟩,⟨o2a,o2c,o2l⟩⟩,Zr,Zs,ZH,(kn:Int),ZT,ZC,ZA,Zw,Zq,a9,Zp,Zz,⟨s_a,s_c,s_l⟩,ZG,ZJ⟩)) (id:=(oi+powP kn)) (by show Zs=true;simp_all) h2 rfl
     rw [show VL (ZR.nd ⟨⟨⟨oa,oi⟩,⟨oq,oj⟩,⟨o1a,o1c,o1l⟩,⟨o2a,o2c,o2l⟩⟩,Zr,Zs,ZH,(kn:Int),ZT,ZC,ZA,Zw,Zq,a9,Zp,Zz,⟨s_a,s_c,s_l⟩,ZG,ZJ⟩).table (oi+powP kn)=_ from hd] at h3
     rw [if_pos (by show db=true;simp_all)] at h3
     exact ⟨_,M4,[(bw,rowO (ZW.segs ⟨⟨⟨⟨wa,wi⟩,⟨wq,wj⟩,⟨w1a,w1c,w1l⟩,⟨w2a,w2c,w2l⟩⟩,Zr,Zs,ZH,c9,ZT,ZC,ZA,Zw,Zq,a9,Zp,Zz,⟨s_a,s_c,s_l⟩,ZG,ZJ⟩,⟨none,0,[]⟩⟩) 68)],rfl,(hM2.trans hm3).trans hm4,hw.c,rfl,⟨⟨⟨wa,wi⟩,⟨wq,wj⟩,⟨w1a,w1c,w1l⟩,⟨w2a,w2c,w2l⟩⟩,Zr,Zs,ZH,c9,ZT,ZC,ZA,Zw,Zq,a9,Zp,Zz,⟨s_a,s_c,s_l⟩,ZG,ZJ⟩,⟨none,0,[]⟩,rfl,by rw [h3];exact hv1,by rw [h3];rfl,⟨okl,(k9.mono hm3).mono hm4⟩,SlK.nil,fun y hy=>by cases hy⟩
    ·skip
     simp only [ZF.eta,ZQ.eta,ZR.eta,ZP.eta,Yr.eta,ZW.eta,YQ.eta,Yc.eta] at hc12
     refine YG (Zn (Y_pk [4,0] ?_));refine ZK (YK (l:=[0,1,2,3,4,5,6,7,8,9,10,11,12,13,14,15,16,17]) #[0,1,3,7,15,0,0,64,192,448,960,2047,4095,8191,8191,0,49151,131071] _ rfl (by kernel_rfl) (by kernel_rfl) St.drawn (fun _ h=>h) ?_);refine Zx ?_;refine Yn ?_;refine Zk F.foff68_0 ?_;refine Zk F.foff32_0 ?_;refine ZD F.lay28 ?_;refine ZD F.lay23 ?_;refine Zx ?_;refine Yn ?_;refine Zk F.foff68_0 ?_;refine Zk F.foff32_13 ?_;refine ZD F.lay30 ?_;refine X_fn rfl rfl F.ok88 rfl (Nearest_ok _ ⟨⟨oa,oi⟩,⟨oq,oj⟩,⟨o1a,o1c,o1l⟩,⟨o2a,o2c,o2l⟩⟩ (oi+powP kn) ⟨s_a,s_c,s_l⟩ okt (k9.mono hm3) hbo) rfl ?_
     rintro _ M4 hm4 rfl
     obtain ⟨⟨⟨qa,qi⟩,qb⟩,hq⟩:∃ x,Wj (ZQ.tb ⟨⟨oa,oi⟩,⟨oq,oj⟩,⟨o1a,o1c,o1l⟩,⟨o2a,o2c,o2l⟩⟩) (oi+powP kn) (⟨s_a,s_c,s_l⟩:Sl Int).l=x:=⟨_,rfl⟩
     rw [hq]
     refine Zx ?_
     iterate 2 refine XU ?_
     refine YW F.zero25 ?_;intro b13
     refine Yh F.lay25 ?_;refine ZB ?_;refine Zo (Zn (Y_pk [8,7,4,0] ?_))
     iterate 2 refine ZK ?_
     refine Zm (l:=[0,1]) rfl ?_;refine Zx ?_;refine Xj ?_;refine Zo (Zn (Y_pk [86,7,4,0] ?_))
     refine YA rfl (fun hc14=>?_) (fun hc14=>?_)
     ·skip
      simp only [ZF.eta,ZQ.eta,ZR.eta,ZP.eta,Yr.eta,ZW.eta,YQ.eta,Yc.eta] at hc14
      refine ZK (Zm (l:=[0,1,2,3,4]) rfl ?_);refine Zx ?_;refine Yn ?_;refine Zk F.foff68_0 ?_;refine Zk F.foff32_4 ?_;refine Yh F.lay3 ?_;refine Zo (Zn (Y_pk [7,4,0] ?_));refine Yo (YS ?_)
      refine Yk (.inr rfl) (.nil) (fun w hw=>?_)
      have h3:=fix_eq (n:=ZR.nd ⟨⟨⟨Za,Zb⟩,⟨Zf,Zh⟩,⟨Zj,Zi,Zg⟩,⟨Ze,Zd,Zc⟩⟩,Zr,Zs,ZH,(kn:Int),ZT,ZC,ZA,Zw,Zq,Zy,Zp,Zz,⟨Zu,Zt,Zl⟩,ZG,ZJ⟩) (m:=(ZR.nd ⟨⟨⟨oa,oi⟩,⟨oq,oj⟩,⟨o1a,o1c,o1l⟩,⟨o2a,o2c,o2l⟩⟩,Zr,Zs,ZH,(kn:Int),ZT,ZC,ZA,Zw,Zq,a9,Zp,Zz,⟨s_a,s_c,s_l⟩,ZG,ZJ⟩)) (id:=(oi+powP kn)) (by show Zs=true;simp_all) h2 rfl
      rw [show VL (ZR.nd ⟨⟨⟨oa,oi⟩,⟨oq,oj⟩,⟨o1a,o1c,o1l⟩,⟨o2a,o2c,o2l⟩⟩,Zr,Zs,ZH,(kn:Int),ZT,ZC,ZA,Zw,Zq,a9,Zp,Zz,⟨s_a,s_c,s_l⟩,ZG,ZJ⟩).table (oi+powP kn)=_ from hd] at h3
      rw [if_neg (by show ¬db=true;simp_all),show Wj (ZR.nd ⟨⟨⟨oa,oi⟩,⟨oq,oj⟩,⟨o1a,o1c,o1l⟩,⟨o2a,o2c,o2l⟩⟩,Zr,Zs,ZH,(kn:Int),ZT,ZC,ZA,Zw,Zq,a9,Zp,Zz,⟨s_a,s_c,s_l⟩,ZG,ZJ⟩).table (oi+powP kn) (ZR.nd ⟨⟨⟨oa,oi⟩,⟨oq,oj⟩,⟨o1a,o1c,o1l⟩,⟨o2a,o2c,o2l⟩⟩,Zr,Zs,ZH,(kn:Int),ZT,ZC,ZA,Zw,Zq,a9,Zp,Zz,⟨s_a,s_c,s_l⟩,ZG,ZJ⟩).avoid=_ from hq] at h3
      rw [if_pos (by show qb=false;simp_all)] at h3
      refine ⟨_,M4,[(bw,rowO (ZW.segs ⟨⟨⟨⟨oa,oi⟩,⟨oq,oj⟩,⟨o1a,o1c,o1l⟩,⟨o2a,o2c,o2l⟩⟩,Zr,Zs,ZH,0,ZT,ZC,ZA,Zw,Zq,a9,Zp,Zz,⟨s_a,s_c,s_l⟩,ZG,ZJ⟩,⟨none,0,[]⟩⟩) 68)],rfl,((hM2.trans hm3).trans hm4),hw.c,rfl,⟨⟨⟨oa,oi⟩,⟨oq,oj⟩,⟨o1a,o1c,o1l⟩,⟨o2a,o2c,o2l⟩⟩,Zr,Zs,ZH,0,ZT,ZC,ZA,Zw,Zq,a9,Zp,Zz,⟨s_a,s_c,s_l⟩,ZG,ZJ⟩,⟨none,0,[]⟩,rfl,?_,?_,⟨okt.mono hm4,(k9.mono hm3).mono hm4⟩,SlK.nil,fun y hy=>by cases hy⟩
      ·rw [h3] <;> rfl
      ·rw [h3] <;> rfl
     ·skip
      simp only [ZF.eta,ZQ.eta,ZR.eta,ZP.eta,Yr.eta,ZW.eta,YQ.eta,Yc.eta] at hc14
      refine YG (Zn (Y_pk [7,4,0] ?_));refine ZK (Zm (l:=[0,1,2,3,4,5,6,7,8,9,10]) rfl ?_)
      iterate 2 refine Zx ?_
      refine ZD F.lay23 ?_;refine Yn ?_;refine Zk F.foff68_0 ?_;refine Zk F.foff32_12 ?_;refine Yh F.lay23 ?_;refine Yn ?_;refine Zk F.foff68_0 ?_;refine Zk F.foff32_14 ?_;refine Yh F.lay3 ?_;refine Zo (Zn (Y_pk [7,0] ?_));refine Wb (l:=[0,1,2,3]) [3] rfl ?_;refine Zx ?_;refine Zk F.foff25_0 ?_;refine ZD F.lay3 ?_;refine Vp rfl rfl rfl F.ok89 rfl (seek_ok M4 bw oa oi oq oj o1a o2a s_a o1c o2c s_c o1l o2l s_l Zr Zs ZH (kn:Int) ZT ZC ZA Zw Zq a9 Zp (oi+powP kn) 0 ZJ (okt.mono hm4) ((k9.mono hm3).mono hm4) (by omega) qa) (by repeat first|exact Rem.here _|exact Rem.two|apply Rem.skip|apply Rem.over) (YV rfl) ?_
      rintro _ M5 hs5 hm5 ⟨rfl,⟨⟨⟨Yw,YJ⟩,⟨YC,YL⟩,⟨YP,YO,YN⟩,⟨YF,YE,YD⟩⟩,Xz,XF,Wg,XB,WB,XM,XA,Xw,Xo,Xx,Xp,Xy,⟨Xu,Xt,Xs⟩,Wf,We⟩,⟨o_a,o_c,o_l⟩,rfl,hv1,hv2,okv,oko,okq⟩
      simp only [List.append_assoc,List.cons_append,List.nil_append]
      refine Zo (WP ?_)
      refine Yk (.inl rfl) (.nil) (fun w hw=>?_)
      have h3:=fix_eq (n:=ZR.nd ⟨⟨⟨Za,Zb⟩,⟨Zf,Zh⟩,⟨Zj,Zi,Zg⟩,⟨Ze,Zd,Zc⟩⟩,Zr,Zs,ZH,(kn:Int),ZT,ZC,ZA,Zw,Zq,Zy,Zp,Zz,⟨Zu,Zt,Zl⟩,ZG,ZJ⟩) (m:=(ZR.nd ⟨⟨⟨oa,oi⟩,⟨oq,oj⟩,⟨o1a,o1c,o1l⟩,⟨o2a,o2c,o2l⟩⟩,Zr,Zs,ZH,(kn:Int),ZT,ZC,ZA,Zw,Zq,a9,Zp,Zz,⟨s_a,s_c,s_l⟩,ZG,ZJ⟩)) (id:=(oi+powP kn)) (by show Zs=true;simp_all) h2 rfl
      rw [show VL (ZR.nd ⟨⟨⟨oa,oi⟩,⟨oq,oj⟩,⟨o1a,o1c,o1l⟩,⟨o2a,o2c,o2l⟩⟩,Zr,Zs,ZH,(kn:Int),ZT,ZC,ZA,Zw,Zq,a9,Zp,Zz,⟨s_a,s_c,s_l⟩,ZG,ZJ⟩).table (oi+powP kn)=_ from hd] at h3
      rw [if_neg (by show ¬db=true;simp_all),show Wj (ZR.nd ⟨⟨⟨oa,oi⟩,⟨oq,oj⟩,⟨o1a,o1c,o1l⟩,⟨o2a,o2c,o2l⟩⟩,Zr,Zs,ZH,(kn:Int),ZT,ZC,ZA,Zw,Zq,a9,Zp,Zz,⟨s_a,s_c,s_l⟩,ZG,ZJ⟩).table (oi+powP kn) (ZR.nd ⟨⟨⟨oa,oi⟩,⟨oq,oj⟩,⟨o1a,o1c,o1l⟩,⟨o2a,o2c,o2l⟩⟩,Zr,Zs,ZH,(kn:Int),ZT,ZC,ZA,Zw,Zq,a9,Zp,Zz,⟨s_a,s_c,s_l⟩,ZG,ZJ⟩).avoid=_ from hq] at h3
      rw [if_neg (by show ¬qb=false;simp_all)] at h3
      exact ⟨_,M5,[(bw,rowO (ZW.segs ⟨⟨⟨⟨Yw,YJ⟩,⟨YC,YL⟩,⟨YP,YO,YN⟩,⟨YF,YE,YD⟩⟩,Xz,XF,Wg,XB,WB,XM,XA,Xw,Xo,Xx,Xp,Xy,⟨Xu,Xt,Xs⟩,Wf,We⟩,⟨o_a,o_c,o_l⟩⟩) 68)],rfl,(((hM2.trans hm3).trans hm4).trans hm5),hw.c,rfl,⟨⟨⟨Yw,YJ⟩,⟨YC,YL⟩,⟨YP,YO,YN⟩,⟨YF,YE,YD⟩⟩,Xz,XF,Wg,XB,WB,XM,XA,Xw,Xo,Xx,Xp,Xy,⟨Xu,Xt,Xs⟩,Wf,We⟩,⟨o_a,o_c,o_l⟩,rfl,by rw [h3];exact hv1,by rw [h3];exact hv2,okv,oko,okq⟩
end Go.Proofs.YtajmnjefajknoaaGreat
namespace Go.Proofs.YtajmnjefajknoaaGreat
open Go.Esp
theorem check_ok (M:Mem) (bw:Nat) (Za:Int) (Zb:Plc) (Zf:Int) (Zh:Plc) (Zj Ze Zu:Option Addr) (Zi Zd Zt:Nat) (Zg Zc:List ZF) (Zl:List Int) (Zr:Int) (Zs:Bool) (ZH Zv ZT ZC ZA Zw Zq Zy Zp:Int) (Zz:Plc) (ZG ZJ:Int) (Yv:ZQ.ok M ⟨⟨Za,Zb⟩,⟨Zf,Zh⟩,⟨Zj,Zi,Zg⟩,⟨Ze,Zd,Zc⟩⟩) (hbig:Zg.length≤40∧Zc.length≤200) (htu:0≤ZJ∧ZJ≤999999) (hav:Hp) (hA:OSl 3 1 (.slice Zu Zl.length Zt) hav (Zl.map (oneI .i64))) (hLa:Zl.length≤900):Fh Tryz.prog 35 [.pointer (some ⟨bw,0,none⟩)] M ((bw,rowO (ZW.segs ⟨⟨⟨⟨Za,Zb⟩,⟨Zf,Zh⟩,⟨Zj,Zi,Zg⟩,⟨Ze,Zd,Zc⟩⟩,Zr,Zs,ZH,Zv,ZT,ZC,ZA,Zw,Zq,Zy,Zp,Zz,⟨Zu,Zt,Zl⟩,ZG,ZJ⟩,⟨none,0,[]⟩⟩) 68)::hav) (fun M' v Hout=>v=.tuple #[]∧WkF bw 68 M' Hout (checkN (ZR.nd ⟨⟨⟨Za,Zb⟩,⟨Zf,Zh⟩,⟨Zj,Zi,Zg⟩,⟨Ze,Zd,Zc⟩⟩,Zr,Zs,ZH,Zv,ZT,ZC,ZA,Zw,Zq,Zy,Zp,Zz,⟨Zu,Zt,Zl⟩,ZG,ZJ⟩))):=by
  obtain ⟨tn,rfl⟩:∃ tn:Nat,ZJ=(tn:Int):=⟨ZJ.toNat,by omega⟩
  refine Wt (fun H=>(bw,rowO (ZW.segs ⟨⟨⟨⟨Za,Zb⟩,⟨Zf,Zh⟩,⟨Zj,Zi,Zg⟩,⟨Ze,Zd,Zc⟩⟩,Zr,Zs,ZH,Zv,ZT,ZC,ZA,Zw,Zq,Zy,Zp,Zz,⟨Zu,Zt,Zl⟩,ZG,(tn:Int)⟩,⟨none,0,[]⟩⟩) 68)::(hav++H)) (fun _=>by simp only [List.append_assoc,List.cons_append,List.nil_append]) Tryz.func35 rfl Tryz.ntmps35 rfl ?_;intro H
  refine ZK ?_
  refine UG hA (by repeat first|exact Rem.here _|exact Rem.two|apply Rem.skip|apply Rem.over) (fun M2 hM2 k9=>?_)
  refine Wb (l:=[0,1,2,3,4,5]) [5] rfl ?_
  iterate 2 refine Zx ?_
  refine Yn ?_;refine Zk F.foff68_0 ?_;refine Zk F.foff32_8 ?_;refine Vp rfl rfl rfl F.ok81 rfl (lostP_ok M2 bw Za Zb Zf Zh Zj Ze Zu Zi Zd Zt Zg Zc Zl Zr Zs ZH Zv ZT ZC ZA Zw Zq Zy Zp Zz ZG (tn:Int) (Yv.mono hM2) hbig) (by repeat first|exact Rem.here _|exact Rem.two|apply Rem.skip|apply Rem.over) (YV rfl) ?_
  rintro _ M3 hs3 hm3 ⟨rfl,⟨⟨oa,oi⟩,⟨oq,oj⟩,⟨o1a,o1c,o1l⟩,⟨o2a,o2c,o2l⟩⟩,a9,rfl,okt,hlo⟩
  have hbo:=lost_big (congrArg Prod.fst hlo) hbig
  have h2:=lost_ping (n:=ZR.nd ⟨⟨⟨Za,Zb⟩,⟨Zf,Zh⟩,⟨Zj,Zi,Zg⟩,⟨Ze,Zd,Zc⟩⟩,Zr,Zs,ZH,Zv,ZT,ZC,ZA,Zw,Zq,Zy,Zp,Zz,⟨Zu,Zt,Zl⟩,ZG,(tn:Int)⟩) hlo
  simp only [List.append_assoc,List.cons_append,List.nil_append]
  refine Zo (WP ?_);refine Zn (Y_pk [0] ?_);refine ZK (Zm (l:=[0,1,2,3,4,5,6]) rfl ?_);refine Zx ?_;refine Yn ?_;refine Zk F.foff68_0 ?_;refine Zk F.foff32_0 ?_;refine ZD F.lay28 ?_;refine X_fn rfl rfl F.ok90 rfl (Known_ok _ ⟨⟨oa,oi⟩,⟨oq,oj⟩,⟨o1a,o1c,o1l⟩,⟨o2a,o2c,o2l⟩⟩ okt hbo) rfl ?_
  rintro _ M4 hm4 ⟨⟨l_a,l_c,l_l⟩,rfl,hkl,okl⟩
  simp only at hkl
  have s_l:=okl.h1
  simp only at s_l
  have n_l:(l_l.map ZF.segs).length=l_l.length:=List.length_map ..
  have m_l:l_l.length≤9223372036854775807:=okl.h2
  refine ZB ?_;refine Zo (Zn (Y_pk [2,0] ?_))
  iterate 2 refine ZK ?_
  refine Zm (l:=[0,1,2]) rfl ?_;refine Zx ?_;refine YY F.elem26 ?_;refine YI ?_;refine Zo (Zn (Y_pk [17,2,0] ?_))
  refine YA rfl (fun hc1=>?_) (fun hc1=>?_)
  ·replace hc1:=dT hc1
   refine Yo (YS ?_)
   refine Yk (.inr rfl) (.nil) (fun w hw=>?_)
   have hl0:l_l=[]:=List.length_eq_zero_iff.1 (by omega)
   rw [hl0] at hkl
   have h3:=check_nil (n:=(ZR.nd ⟨⟨⟨Za,Zb⟩,⟨Zf,Zh⟩,⟨Zj,Zi,Zg⟩,⟨Ze,Zd,Zc⟩⟩,Zr,Zs,ZH,Zv,ZT,ZC,ZA,Zw,Zq,Zy,Zp,Zz,⟨Zu,Zt,Zl⟩,ZG,(tn:Int)⟩)) (m:=(ZR.nd ⟨⟨⟨oa,oi⟩,⟨oq,oj⟩,⟨o1a,o1c,o1l⟩,⟨o2a,o2c,o2l⟩⟩,Zr,Zs,ZH,Zv,ZT,ZC,ZA,a9,Zq,Zy,Zp,Zz,⟨Zu,Zt,Zl⟩,ZG,(tn:Int)⟩)) h2 hkl.symm
   refine ⟨_,M4,[(bw,rowO (ZW.segs ⟨⟨⟨⟨oa,oi⟩,⟨oq,oj⟩,⟨o1a,o1c,o1l⟩,⟨o2a,o2c,o2l⟩⟩,Zr,Zs,ZH,Zv,ZT,ZC,ZA,a9,Zq,Zy,Zp,Zz,⟨Zu,Zt,Zl⟩,ZG,(tn:Int)⟩,⟨none,0,[]⟩⟩) 68)],rfl,((hM2.trans hm3).trans hm4),hw.c,rfl,⟨⟨⟨oa,oi⟩,⟨oq,oj⟩,⟨o1a,o1c,o1l⟩,⟨o2a,o2c,o2l⟩⟩,Zr,Zs,ZH,Zv,ZT,ZC,ZA,a9,Zq,Zy,Zp,Zz,⟨Zu,Zt,Zl⟩,ZG,(tn:Int)⟩,⟨none,0,[]⟩,rfl,?_,?_,⟨okt.mono hm4,(k9.mono hm3).mono hm4⟩,SlK.nil,fun y hy=>by cases hy⟩
   ·rw [h3] <;> rfl
   ·rw [h3] <;> rfl
  ·replace hc1:=dF hc1
   refine YG (Zn (Y_pk [2,0] ?_));refine ZK ?_
   obtain ⟨kk,hkt⟩:∃ kk,tn % l_l.length=kk:=⟨_,rfl⟩
   have hkk:kk<l_l.length:=by rw [← hkt];exact Nat.mod_lt _ (by omega)
   refine Zm (l:=[0,1,2,3,4,5,6,7,8,9,10,11,12,13,14,15,16]) rfl ?_
   iterate 3 refine Zx ?_
   refine Yn ?_;refine Zk F.foff68_0 ?_;refine Zk F.foff32_15 ?_;refine ZD F.lay3 ?_;refine Zx ?_;refine YY F.elem26 ?_;refine X_rem rfl rfl rfl rfl (by omega) (by exact rem_nn (by omega)) rfl ?_;refine VA 27 rfl (show _=Value.int .i64 (kk:Int) from by rw [← hkt];rfl) ?_;refine YR rfl rfl rfl rfl F.elem26 (by rfl) (by omega) (by exact SlM.plain (by assumption) (by (simp;omega))) rfl ?_;refine XC rfl rfl rfl (by exact SlM.plain (by assumption) (by (simp;omega))) F.foff25_0 rfl ?_;refine Xm rfl rfl rfl (by assumption) (by exact XP (by omega)) F.lay3 rfl rfl rfl ?_;refine Yn ?_;refine Zk F.foff68_0 ?_;refine Zk F.foff32_8 ?_;refine Yh F.lay3 ?_;refine Zo (Zn (Y_pk [0] ?_));refine ZK (Wb (l:=[0,1,2,3,4,5,6,7,8,9,10,11,12]) [8] rfl ?_)
   iterate 3 refine Zx ?_
   refine Yn ?_;refine Zk F.foff68_0 ?_;refine Zk F.foff32_8 ?_;refine ZD F.lay3 ?_;refine Xr rfl rfl F.bld44 (.cons rfl (by constructor) .nil) rfl rfl ?_;refine Vp rfl rfl rfl F.ok83 rfl (request_ok M4 bw oa oi oq oj o1a o2a Zu o1c o2c Zt o1l o2l Zl Zr Zs ZH Zv ZT ZC ZA l_l[kk].addr Zq Zy Zp Zz ZG (tn:Int) l_l[kk].addr ⟨6,⟨0,0⟩,0,0,⟨none,0,[]⟩,false,⟨0,0⟩,⟨none,0,[]⟩⟩) (by repeat first|exact Rem.here _|exact Rem.two|apply Rem.skip|apply Rem.over) (YV rfl) ?_
   rintro _ M5 hs5 hm5 ⟨rfl,⟨o9a,o9c,o9l⟩,rfl,k9o,hl9⟩
   simp only at hl9
   simp only [List.append_assoc,List.cons_append,List.nil_append]
   refine Yn ?_;refine Zk F.foff68_0 ?_;refine Zk F.foff32_9 ?_;refine Yh F.lay29 ?_;refine Zo (WP ?_);refine Zn (Y_pk [0] ?_);refine Zm (l:=[0,1,2,3,4,5,6,7,8,9,10,11]) rfl ?_
   iterate 2 refine Zx ?_
   refine Yn ?_;refine Zk F.foff68_0 ?_;refine Zk F.foff32_15 ?_;refine ZD F.lay3 ?_;refine XE rfl rfl rfl rfl rfl (by exact Xe (by decide) (by omega)) rfl ?_;refine X_rem rfl rfl rfl rfl (by decide) (by exact rem_nn (by omega)) rfl ?_;refine Yn ?_;refine Zk F.foff68_0 ?_;refine Zk F.foff32_15 ?_;refine Yh F.lay3 ?_;refine Zo ?_
   refine Yk (.inl rfl) (.nil) (fun w hw=>?_)
   have h3:=check_cons (n:=(ZR.nd ⟨⟨⟨Za,Zb⟩,⟨Zf,Zh⟩,⟨Zj,Zi,Zg⟩,⟨Ze,Zd,Zc⟩⟩,Zr,Zs,ZH,Zv,ZT,ZC,ZA,Zw,Zq,Zy,Zp,Zz,⟨Zu,Zt,Zl⟩,ZG,(tn:Int)⟩)) (m:=(ZR.nd ⟨⟨⟨oa,oi⟩,⟨oq,oj⟩,⟨o1a,o1c,o1l⟩,⟨o2a,o2c,o2l⟩⟩,Zr,Zs,ZH,Zv,ZT,ZC,ZA,a9,Zq,Zy,Zp,Zz,⟨Zu,Zt,Zl⟩,ZG,(tn:Int)⟩)) h2 hkl.symm hkk hkt rfl
   refine ⟨_,M5,[(bw,rowO (ZW.segs ⟨⟨⟨⟨oa,oi⟩,⟨oq,oj⟩,⟨o1a,o1c,o1l⟩,⟨o2a,o2c,o2l⟩⟩,Zr,Zs,ZH,Zv,(nxR ZT),ZC,ZA,l_l[kk].addr,(nxR ZT),Zy,Zp,Zz,⟨Zu,Zt,Zl⟩,ZG,(((tn:Int)+1) % 1000000)⟩,⟨o9a,o9c,o9l⟩⟩) 68)],rfl,(((hM2.trans hm3).trans hm4).trans hm5),hw.c,rfl,⟨⟨⟨oa,oi⟩,⟨oq,oj⟩,⟨o1a,o1c,o1l⟩,⟨o2a,o2c,o2l⟩⟩,Zr,Zs,ZH,Zv,(nxR ZT),ZC,ZA,l_l[kk].addr,(nxR ZT),Zy,Zp,Zz,⟨Zu,Zt,Zl⟩,ZG,(((tn:Int)+1) % 1000000)⟩,⟨o9a,o9c,o9l⟩,rfl,?_,?_,⟨(okt.mono hm4).mono hm5,((k9.mono hm3).mono hm4).mono hm5⟩,k9o,fun y hy=>?_⟩
   ·rw [h3] <;> rfl
   ·rw [h3]
    show sndl o9l=_
    rw [hl9];rfl
   ·simp only at hy
    rw [hl9] at hy
    obtain rfl:=List.mem_singleton.1 hy
    exact ⟨⟨SlK.nil,SlK.nil⟩⟩
end Go.Proofs.YtajmnjefajknoaaGreat
namespace Go.Proofs.YtajmnjefajknoaaGreat
open Go.Esp
theorem F.bld68:Bld Tryz.prog 68 [[.one (.int .i64 0),Yt 0,.one (.int .i64 0),Yt 0,.one (.slice none 0 0),.one (.slice none 0 0),.one (.int .i64 0),.one (.bool false),.one (.int .i64 0),.one (.int .i64 0),.one (.int .u64 0),.one (.int .i64 0),.one (.int .u64 0),.one (.int .i64 0),.one (.int .u64 0),.one (.int .i64 0),.one (.int .u64 0),Yt 0,.one (.slice none 0 0),.one (.int .i64 0),.one (.int .i64 0)],[.one (.slice none 0 0)]]:=by rw [Us];exact ⟨by kernel_rfl,by kernel_rfl⟩
theorem F.map65:mapOf Tryz.prog 65=some (3,63):=by kernel_rfl
theorem F.ok27:okFn Tryz.prog 27=true:=by kernel_rfl
theorem F.ok33:okFn Tryz.prog 33=true:=by kernel_rfl
theorem F.ok34:okFn Tryz.prog 34=true:=by kernel_rfl
theorem F.ok35:okFn Tryz.prog 35=true:=by kernel_rfl
theorem F.ok36:okFn Tryz.prog 36=true:=by kernel_rfl
theorem F.zero63:WH Tryz.prog 63=some (.nilFunc):=by kernel_rfl
theorem of_ok (M:Mem) (Za:Int) (Zb:Plc) (Zf:Int) (Zh:Plc) (Zj Ze Zu:Option Addr) (Zi Zd Zt:Nat) (Zg Zc:List ZF) (Zl:List Int) (Zr:Int) (Zs:Bool) (ZH Zv ZT ZC ZA Zw Zq Zy Zp:Int) (Zz:Plc) (ZG ZJ:Int) (Yz:SlK M (oneI .i64) 1 ⟨Zu,Zt,Zl⟩) (hLa:Zl.length≤1000):Fh Tryz.prog 36 [ZR.enc ⟨⟨⟨Za,Zb⟩,⟨Zf,Zh⟩,⟨Zj,Zi,Zg⟩,⟨Ze,Zd,Zc⟩⟩,Zr,Zs,ZH,Zv,ZT,ZC,ZA,Zw,Zq,Zy,Zp,Zz,⟨Zu,Zt,Zl⟩,ZG,ZJ⟩] M [] (fun M' v Hout=>M'=M∧∃ (bw:Nat) (a9:Option Addr) (c9:Nat) (hs9:Hp),v=.pointer (some ⟨bw,0,none⟩)∧Hout=(bw,rowO (ZW.segs ⟨⟨⟨⟨Za,Zb⟩,⟨Zf,Zh⟩,⟨Zj,Zi,Zg⟩,⟨Ze,Zd,Zc⟩⟩,Zr,Zs,ZH,Zv,ZT,ZC,ZA,Zw,Zq,Zy,Zp,Zz,⟨a9,c9,Zl⟩,ZG,ZJ⟩,⟨none,0,[]⟩⟩) 68)::hs9∧OSl 3 1 (.slice a9 Zl.length c9) hs9 (Zl.map (oneI .i64))):=by
  refine fh_enter Tryz.func36 rfl Tryz.ntmps36 rfl ?_;intro H
  refine ZK (Zm (l:=[0,1]) rfl ?_)
  refine Xk ?_;intro b1
  refine ZB ?_;refine Zo (Zn (Y_pk [2,1] ?_));refine ZK (Zm (l:=[0,1,2,3,4]) rfl ?_);refine Zk F.foff32_13 ?_;refine ZD F.lay30 ?_;refine Ur rfl rfl F.ok91 rfl (CloneI_ok M Zu Zt Zl Yz (by omega)) (by repeat first|exact Rem.here _|exact Rem.two|apply Rem.skip|apply Rem.over) (fun _ _ _ hm hw=>(hw.lower (by exact hm)).c) (YV rfl) ?_
  rintro v0 M1 hs0 hm1 ⟨hM1,ho0⟩;subst M1
  obtain ⟨ad0,cp0,rfl⟩:=ho0.valL
  refine Zk F.foff32_13 ?_;refine Yh F.lay30 ?_;refine Zo (Zn (Y_pk [2,1] ?_));refine ZK (Zm (l:=[0,1,2,3]) rfl ?_);refine ZD F.lay32 ?_;refine Xr rfl rfl F.bld68 (.cons rfl (by constructor) .nil) (setParts_first (by simp only [ZF.segs,ZQ.segs,ZR.segs,ZP.segs,Yr.segs,ZW.segs,YQ.segs,Yc.segs,cat,List.append_eq,List.cons_append,List.nil_append,List.append_nil,Segs.len,Seg.len,Yt])) rfl ?_
  refine Xk ?_;intro b2
  refine ZB ?_;refine Zo (Zn (Y_pk [2] ?_));refine Yo ?_
  refine Yk (.inr rfl) (.tmp rfl .nil) (fun w hw=>?_)
  refine ⟨_,M,(b2,rowO (ZW.segs ⟨⟨⟨⟨Za,Zb⟩,⟨Zf,Zh⟩,⟨Zj,Zi,Zg⟩,⟨Ze,Zd,Zc⟩⟩,Zr,Zs,ZH,Zv,ZT,ZC,ZA,Zw,Zq,Zy,Zp,Zz,⟨ad0,cp0,Zl⟩,ZG,ZJ⟩,⟨none,0,[]⟩⟩) 68)::hs0,rfl,Mem.le.refl M,?_,rfl,b2,ad0,cp0,hs0,rfl,rfl,ho0⟩
  simp only [ZW.segs,Sl.val,List.length_nil] at hw ⊢
  exact hw.c
theorem Tick_yes (M:Mem) (n:ZR) (hn0:ZR.ok M n) (kind:Int) (hk:1≤kind∧kind≤3) (fid:FuncId) (X:Nd→Nd×List Snd) (hl:(Vt (tickL 33 34 35) kind).getD .nilFunc=.func (.func fid) #[] #[]) (hok:okFn Tryz.prog fid=true) (hx:∀ n:Nd,X n=if kind=1 then stabN n else if kind=2 then fixN n else checkN n)
   (hc:∀ (M:Mem) (bw:Nat) (Za:Int) (Zb:Plc) (Zf:Int) (Zh:Plc) (Zj Ze Zu:Option Addr) (Zi Zd Zt:Nat) (Zg Zc:List ZF) (Zl:List Int) (Zr:Int) (Zs:Bool) (ZH Zv ZT ZC ZA Zw Zq Zy Zp:Int) (Zz:Plc) (ZG ZJ:Int) (Yv:ZQ.ok M ⟨⟨Za,Zb⟩,⟨Zf,Zh⟩,⟨Zj,Zi,Zg⟩,⟨Ze,Zd,Zc⟩⟩) (hbig:Zg.length≤40∧Zc.length≤200) (hcu:0≤Zv∧Zv≤159) (htu:0≤ZJ∧ZJ≤999999) (hav:Hp) (hA:OSl 3 1 (.slice Zu Zl.length Zt) hav (Zl.map (oneI .i64))) (hLa:Zl.length≤900),Fh Tryz.prog fid [.pointer (some ⟨bw,0,none⟩)] M ((bw,rowO (ZW.segs ⟨⟨⟨⟨Za,Zb⟩,⟨Zf,Zh⟩,⟨Zj,Zi,Zg⟩,⟨Ze,Zd,Zc⟩⟩,Zr,Zs,ZH,Zv,ZT,ZC,ZA,Zw,Zq,Zy,Zp,Zz,⟨Zu,Zt,Zl⟩,ZG,ZJ⟩,⟨none,0,[]⟩⟩) 68)::hav) (fun M' v Hout=>v=.tuple #[]∧WkF bw 68 M' Hout (X (ZR.nd ⟨⟨⟨Za,Zb⟩,⟨Zf,Zh⟩,⟨Zj,Zi,Zg⟩,⟨Ze,Zd,Zc⟩⟩,Zr,Zs,ZH,Zv,ZT,ZC,ZA,Zw,Zq,Zy,Zp,Zz,⟨Zu,Zt,Zl⟩,ZG,ZJ⟩)))):Esp.Fn Tryz.prog 11 [n.enc,.int .i64 kind] M (fun M' v=>NtE M' v (Uy n.nd kind)):=by
  obtain ⟨⟨⟨Za,Zb⟩,⟨Zf,Zh⟩,⟨Zj,Zi,Zg⟩,⟨Ze,Zd,Zc⟩⟩,Zr,Zs,ZH,Zv,ZT,ZC,ZA,Zw,Zq,Zy,Zp,Zz,⟨Zu,Zt,Zl⟩,ZG,ZJ⟩:=n
  have Yv:ZQ.ok M ⟨⟨Za,Zb⟩,⟨Zf,Zh⟩,⟨Zj,Zi,Zg⟩,⟨Ze,Zd,Zc⟩⟩:=hn0.h0
  have YM:SlK M ZF.segs 21 ⟨Zj,Zi,Zg⟩:=hn0.h0.h0
  have Wo:SlM M Zj (Zg.map ZF.segs) 21:=YM.h1
  have Wp:(Zg.map ZF.segs).length=Zg.length:=List.length_map ..
  have Wq:Zg.length≤9223372036854775807:=YM.h2
  have Wr:Zg.length≤Zi:=YM.h3
  have Yx:SlK M ZF.segs 21 ⟨Ze,Zd,Zc⟩:=hn0.h0.h1
  have XV:SlM M Ze (Zc.map ZF.segs) 21:=Yx.h1
  have XW:(Zc.map ZF.segs).length=Zc.length:=List.length_map ..
  have XX:Zc.length≤9223372036854775807:=Yx.h2
  have XY:Zc.length≤Zd:=Yx.h3
  have Yz:SlK M (oneI .i64) 1 ⟨Zu,Zt,Zl⟩:=hn0.h1
  have WQ:SlM M Zu (Zl.map (oneI .i64)) 1:=Yz.h1
  have Vi:(Zl.map (oneI .i64)).length=Zl.length:=List.length_map ..
  have Va:Zl.length≤9223372036854775807:=Yz.h2
  have Vk:Zl.length≤Zt:=Yz.h3
  refine Wu Tryz.func11 rfl Tryz.ntmps11 rfl ?_;intro H
  refine ZK (Zm (l:=[0,1,2,3]) rfl ?_)
  refine Xk ?_;intro b1
  refine YW F.zero32 ?_;intro b2
  iterate 2 refine ZB ?_
  refine Zo (Zn (Y_pk [6,5,4,2,1] ?_));refine ZK (Zm (l:=[0,1,2,3,4,5]) rfl ?_)
  refine X_makeMap rfl rfl rfl ?_;intro b3
  refine Vq rfl rfl rfl rfl rfl F.map65 imO_nil (by repeat first|exact List.Mem.head _|refine List.Mem.tail _ ?_|refine List.mem_append_right _ ?_) ?_;intro o4 him5;refine ⟨_,(by repeat first|exact Upd.head|apply Upd.tail|apply Upd.over),?_⟩
  refine Vq rfl rfl rfl rfl rfl F.map65 him5 (by repeat first|exact List.Mem.head _|refine List.Mem.tail _ ?_|refine List.mem_append_right _ ?_) ?_;intro o6 him7;refine ⟨_,(by repeat first|exact Upd.head|apply Upd.tail|apply Upd.over),?_⟩
  refine Vq rfl rfl rfl rfl rfl F.map65 him7 (by repeat first|exact List.Mem.head _|refine List.Mem.tail _ ?_|refine List.mem_append_right _ ?_) ?_;intro o8 him9;refine ⟨_,(by repeat first|exact Upd.head|apply Upd.tail|apply Upd.over),?_⟩
  refine Zx ?_;refine ZB ?_;refine Zo (Zn (Y_pk [7,6,5,4,2,1] ?_));refine ZK (Zm (l:=[0,1,2,3]) rfl ?_)
  iterate 2 refine Zx ?_
  refine X_lookup rfl rfl rfl rfl F.map65 F.zero63 (by repeat first|exact List.Mem.head _|refine List.Mem.tail _ ?_|refine List.mem_append_right _ ?_) him9 (show (Vt (tickL 33 34 35) kind).getD .nilFunc=.func (.func fid) #[] #[] from hl) rfl ?_;refine ZB ?_;refine Zo (Zn (Y_pk [8,6,5,4,2] ?_))
  iterate 2 refine ZK ?_
  refine Zm (l:=[0,1,2,3,4,5,6]) rfl ?_;refine Zx ?_;refine Y_nil Tryz.underlying63 ?_;refine Zx ?_
  refine Yj 17 rfl (fun hc10=>?_) (fun hc10=>?_)
  ·skip
   (exfalso;simp [eqX] at hc10;done)
  ·skip
   refine ZD F.lay32 ?_;refine X_fs rfl rfl F.ok27 rfl (IsN_ok _ ⟨⟨⟨Za,Zb⟩,⟨Zf,Zh⟩,⟨Zj,Zi,Zg⟩,⟨Ze,Zd,Zc⟩⟩,Zr,Zs,ZH,Zv,ZT,ZC,ZA,Zw,Zq,Zy,Zp,Zz,⟨Zu,Zt,Zl⟩,ZG,ZJ⟩ hn0) rfl ?_
   rintro _ rfl
   refine Xj ?_;refine ZO ?_;refine Zo (Zn (Y_pk [21,8,6,5,4,2] ?_))
   refine YA rfl (fun hc11=>?_) (fun hc11=>?_)
   ·replace hc11:=nT hc11
    refine ZK (Zm (l:=[0,1,2,3]) rfl ?_);refine Xr rfl rfl F.bld32 (.nil) rfl rfl ?_;refine Xg F.lay32 ?_
    iterate 2 refine ZB ?_
    refine Zo (Zn (Y_pk [6,5,8,4,2] ?_));refine Yo (YS ?_)
    refine Yk (.inr rfl) (.cell rfl (by repeat first|exact List.Mem.head _|refine List.Mem.tail _ ?_|refine List.mem_append_right _ ?_) F.lay32 rfl rfl (.tmp rfl (.tmp rfl .nil))) (fun w hw=>?_)
    refine ⟨_,M,rfl,Mem.le.refl M,hw.c,ZR.zero,⟨none,0,[]⟩,?_,?_,?_,ZR.zero_ok _,SlK.nil,fun y hy=>by cases hy⟩
    ·rw [tick_no (n:=ZR.nd ⟨⟨⟨Za,Zb⟩,⟨Zf,Zh⟩,⟨Zj,Zi,Zg⟩,⟨Ze,Zd,Zc⟩⟩,Zr,Zs,ZH,Zv,ZT,ZC,ZA,Zw,Zq,Zy,Zp,Zz,⟨Zu,Zt,Zl⟩,ZG,ZJ⟩) (fun q=>absurd q.1 (by assumption))];rfl
    ·rw [tick_no (n:=ZR.nd ⟨⟨⟨Za,Zb⟩,⟨Zf,Zh⟩,⟨Zj,Zi,Zg⟩,⟨Ze,Zd,Zc⟩⟩,Zr,Zs,ZH,Zv,ZT,ZC,ZA,Zw,Zq,Zy,Zp,Zz,⟨Zu,Zt,Zl⟩,ZG,ZJ⟩) (fun q=>absurd q.1 (by assumption))];rfl
    ·rw [tick_no (n:=ZR.nd ⟨⟨⟨Za,Zb⟩,⟨Zf,Zh⟩,⟨Zj,Zi,Zg⟩,⟨Ze,Zd,Zc⟩⟩,Zr,Zs,ZH,Zv,ZT,ZC,ZA,Zw,Zq,Zy,Zp,Zz,⟨Zu,Zt,Zl⟩,ZG,ZJ⟩) (fun q=>absurd q.1 (by assumption))];rfl
   ·replace hc11:=nF hc11
    refine YG (Zn (Y_pk [8,6,5,4,2] ?_));refine ZK ?_
    have hnd9:IsNd (ZR.nd ⟨⟨⟨Za,Zb⟩,⟨Zf,Zh⟩,⟨Zj,Zi,Zg⟩,⟨Ze,Zd,Zc⟩⟩,Zr,Zs,ZH,Zv,ZT,ZC,ZA,Zw,Zq,Zy,Zp,Zz,⟨Zu,Zt,Zl⟩,ZG,ZJ⟩):=by assumption
    have htb9:IsTb (ZQ.tb ⟨⟨Za,Zb⟩,⟨Zf,Zh⟩,⟨Zj,Zi,Zg⟩,⟨Ze,Zd,Zc⟩⟩):=hnd9.1
    have hcu9:0≤Zv∧Zv≤159:=hnd9.2.2.2.1
    have htu9:0≤ZJ∧ZJ≤999999:=hnd9.2.2.2.2.2.2.1
    have hav9:Zl.length≤16:=hnd9.2.2.2.2.1
    refine Zm (l:=[0,1,2]) rfl ?_;refine ZD F.lay32 ?_;refine Ur rfl rfl F.ok36 rfl (of_ok M _ _ _ _ _ _ _ _ _ _ _ _ _ _ _ _ _ _ _ _ _ _ _ _ _ _ _ Yz (by omega)) (by repeat first|exact Rem.here _|exact Rem.two|apply Rem.skip|apply Rem.over) (fun _ _ _ hm hw=>(hw.lower (by exact hm)).c) (YV rfl) ?_
    rintro v1 M1 hs1 hm1 ⟨hM1,bw,s_a,s_c,hs9,rfl,rfl,ho9⟩;subst M1
    simp only [List.append_assoc,List.cons_append,List.nil_append]
    refine ZB ?_;refine Zo (Zn (Y_pk [9,8,6,5,4] ?_));refine ZK (Wb (l:=[0,1,2]) [2] rfl ?_)
    iterate 2 refine Zx ?_
    refine X_fhVW (caps:=[]) rfl rfl rfl rfl hok rfl rfl (hc M bw Za Zb Zf Zh Zj Ze s_a Zi Zd s_c Zg Zc Zl Zr Zs ZH Zv ZT ZC ZA Zw Zq Zy Zp Zz ZG ZJ Yv (isTb_small (t:=⟨⟨Za,Zb⟩,⟨Zf,Zh⟩,⟨Zj,Zi,Zg⟩,⟨Ze,Zd,Zc⟩⟩) htb9) hcu9 htu9 hs9 ho9 (by omega)) (by repeat first|exact Rem.here _|exact Rem.two|apply Rem.skip|apply Rem.over) (YV rfl) ?_
    rintro _ M2 hs2 hm2 ⟨rfl,⟨⟨⟨Yw,YJ⟩,⟨YC,YL⟩,⟨YP,YO,YN⟩,⟨YF,YE,YD⟩⟩,Xz,XF,Wg,XB,WB,XM,XA,Xw,Xo,Xx,Xp,Xy,⟨Xu,Xt,Xs⟩,Wf,We⟩,⟨o_a,o_c,o_l⟩,rfl,hv1,hv2,okv,oko,okq⟩
    simp only [List.append_assoc,List.cons_append,List.nil_append]
    refine Zo (WP ?_);refine Zn (Y_pk [9,6,5,4] ?_);refine ZK (C_region_anyWR (l:=[0,1,2,3,4,5,6,7,8,9,10]) (Hin:=[(b2,_)]) [8] #[0,1,3,7,0,16,48,112,15,511,1023] (by repeat first|exact Rem.here _|exact Rem.two|apply Rem.skip|apply Rem.over) rfl (by kernel_rfl) (by kernel_rfl) ?_);refine Zx ?_;refine Yn ?_;refine Zk F.foff68_0 ?_;refine ZD F.lay32 ?_;refine Zx ?_;refine Yn ?_;refine Zk F.foff68_1 ?_;refine ZD F.lay35 ?_;refine X_storeE rfl rfl rfl rfl rfl (by constructor) (by ((try simp only [cat,List.cons_append,List.nil_append,List.append_nil]);(repeat (first|exact XG|refine XN ?_|(refine YU ?_ ?_;rfl)));done)) (by repeat first|exact Upd.head|apply Upd.tail|apply Upd.over) F.lay32 (by simp only [ZF.segs,ZQ.segs,ZR.segs,ZP.segs,Yr.segs,ZW.segs,YQ.segs,Yc.segs,cat,List.append_eq,List.cons_append,List.nil_append,List.append_nil,Segs.len,Seg.len,Yt]) (VT (m:=78) rfl (by simp only [ZF.segs,ZQ.segs,ZR.segs,ZP.segs,Yr.segs,ZW.segs,YQ.segs,Yc.segs,cat,List.append_eq,List.cons_append,List.nil_append,List.append_nil,Segs.len,Seg.len,Yt]) (by simp only [ZF.segs,ZQ.segs,ZR.segs,ZP.segs,Yr.segs,ZW.segs,YQ.segs,Yc.segs,cat,List.append_eq,List.cons_append,List.nil_append,List.append_nil,Segs.len,Seg.len,Yt])) (fun _ h=>h.c) ?_
    iterate 2 refine ZB ?_
    refine Zo (WP ?_);refine Zn (Y_pk [6,5,4] ?_);refine Yo ?_
    refine Yk (.inr rfl) (.cell rfl (by repeat first|exact List.Mem.head _|refine List.Mem.tail _ ?_|refine List.mem_append_right _ ?_) F.lay32 rfl rfl (.tmp rfl (.tmp rfl .nil))) (fun w hw=>?_)
    have h3:=tick_yes (n:=ZR.nd ⟨⟨⟨Za,Zb⟩,⟨Zf,Zh⟩,⟨Zj,Zi,Zg⟩,⟨Ze,Zd,Zc⟩⟩,Zr,Zs,ZH,Zv,ZT,ZC,ZA,Zw,Zq,Zy,Zp,Zz,⟨Zu,Zt,Zl⟩,ZG,ZJ⟩) (k:=kind) (r:=X (ZR.nd ⟨⟨⟨Za,Zb⟩,⟨Zf,Zh⟩,⟨Zj,Zi,Zg⟩,⟨Ze,Zd,Zc⟩⟩,Zr,Zs,ZH,Zv,ZT,ZC,ZA,Zw,Zq,Zy,Zp,Zz,⟨Zu,Zt,Zl⟩,ZG,ZJ⟩)) hnd9 hk (hx _)
    exact ⟨_,M2,rfl,hm2,hw.c,⟨⟨⟨Yw,YJ⟩,⟨YC,YL⟩,⟨YP,YO,YN⟩,⟨YF,YE,YD⟩⟩,Xz,XF,Wg,XB,WB,XM,XA,Xw,Xo,Xx,Xp,Xy,⟨Xu,Xt,Xs⟩,Wf,We⟩,⟨o_a,o_c,o_l⟩,by rw [h3] <;> rfl,by rw [h3];exact hv1,by rw [h3];exact hv2,okv,oko,okq⟩
theorem Tick_no (M:Mem) (n:ZR) (hn0:ZR.ok M n) (kind:Int) (hk:¬(1≤kind∧kind≤3)) (hl:(Vt (tickL 33 34 35) kind).getD .nilFunc=.nilFunc):Esp.Fn Tryz.prog 11 [n.enc,.int .i64 kind] M (fun M' v=>NtE M' v (Uy n.nd kind)):=by
  obtain ⟨⟨⟨Za,Zb⟩,⟨Zf,Zh⟩,⟨Zj,Zi,Zg⟩,⟨Ze,Zd,Zc⟩⟩,Zr,Zs,ZH,Zv,ZT,ZC,ZA,Zw,Zq,Zy,Zp,Zz,⟨Zu,Zt,Zl⟩,ZG,ZJ⟩:=n
  have Yv:ZQ.ok M ⟨⟨Za,Zb⟩,⟨Zf,Zh⟩,⟨Zj,Zi,Zg⟩,⟨Ze,Zd,Zc⟩⟩:=hn0.h0
  have YM:SlK M ZF.segs 21 ⟨Zj,Zi,Zg⟩:=hn0.h0.h0
  have Wo:SlM M Zj (Zg.map ZF.segs) 21:=YM.h1
  have Wp:(Zg.map ZF.segs).length=Zg.length:=List.length_map ..
  have Wq:Zg.length≤9223372036854775807:=YM.h2
  have Wr:Zg.length≤Zi:=YM.h3
  have Yx:SlK M ZF.segs 21 ⟨Ze,Zd,Zc⟩:=hn0.h0.h1
  have XV:SlM M Ze (Zc.map ZF.segs) 21:=Yx.h1
  have XW:(Zc.map ZF.segs).length=Zc.length:=List.length_map ..
  have XX:Zc.length≤9223372036854775807:=Yx.h2
  have XY:Zc.length≤Zd:=Yx.h3
  have Yz:SlK M (oneI .i64) 1 ⟨Zu,Zt,Zl⟩:=hn0.h1
  have WQ:SlM M Zu (Zl.map (oneI .i64)) 1:=Yz.h1
  have Vi:(Zl.map (oneI .i64)).length=Zl.length:=List.length_map ..
  have Va:Zl.length≤9223372036854775807:=Yz.h2
  have Vk:Zl.length≤Zt:=Yz.h3
  refine Wu Tryz.func11 rfl Tryz.ntmps11 rfl ?_;intro H
  refine ZK (Zm (l:=[0,1,2,3]) rfl ?_)
  refine Xk ?_;intro b1
  refine YW F.zero32 ?_;intro b2
  iterate 2 refine ZB ?_
  refine Zo (Zn (Y_pk [6,5,4,2,1] ?_));refine ZK (Zm (l:=[0,1,2,3,4,5]) rfl ?_)
  refine X_makeMap rfl rfl rfl ?_;intro b3
  refine Vq rfl rfl rfl rfl rfl F.map65 imO_nil (by repeat first|exact List.Mem.head _|refine List.Mem.tail _ ?_|refine List.mem_append_right _ ?_) ?_;intro o4 him5;refine ⟨_,(by repeat first|exact Upd.head|apply Upd.tail|apply Upd.over),?_⟩
  refine Vq rfl rfl rfl rfl rfl F.map65 him5 (by repeat first|exact List.Mem.head _|refine List.Mem.tail _ ?_|refine List.mem_append_right _ ?_) ?_;intro o6 him7;refine ⟨_,(by repeat first|exact Upd.head|apply Upd.tail|apply Upd.over),?_⟩
  refine Vq rfl rfl rfl rfl rfl F.map65 him7 (by repeat first|exact List.Mem.head _|refine List.Mem.tail _ ?_|refine List.mem_append_right _ ?_) ?_;intro o8 him9;refine ⟨_,(by repeat first|exact Upd.head|apply Upd.tail|apply Upd.over),?_⟩
  refine Zx ?_;refine ZB ?_;refine Zo (Zn (Y_pk [7,6,5,4,2,1] ?_));refine ZK (Zm (l:=[0,1,2,3]) rfl ?_)
  iterate 2 refine Zx ?_
  refine X_lookup rfl rfl rfl rfl F.map65 F.zero63 (by repeat first|exact List.Mem.head _|refine List.Mem.tail _ ?_|refine List.mem_append_right _ ?_) him9 (show (Vt (tickL 33 34 35) kind).getD .nilFunc=.nilFunc from hl) rfl ?_;refine ZB ?_;refine Zo (Zn (Y_pk [8,6,5,4,2] ?_))
  iterate 2 refine ZK ?_
  refine Zm (l:=[0,1,2,3,4,5,6]) rfl ?_;refine Zx ?_;refine Y_nil Tryz.underlying63 ?_;refine Zx ?_
  refine Yj 17 rfl (fun hc10=>?_) (fun hc10=>?_)
  ·skip
   iterate 3 refine Ya ?_
   refine ZO ?_;refine Zo (Zn (Y_pk [21,8,6,5,4,2] ?_));refine Xi rfl ?_;refine ZK (Zm (l:=[0,1,2,3]) rfl ?_);refine Xr rfl rfl F.bld32 (.nil) rfl rfl ?_;refine Xg F.lay32 ?_
   iterate 2 refine ZB ?_
   refine Zo (Zn (Y_pk [6,5,8,4,2] ?_));refine Yo (YS ?_)
   refine Yk (.inr rfl) (.cell rfl (by repeat first|exact List.Mem.head _|refine List.Mem.tail _ ?_|refine List.mem_append_right _ ?_) F.lay32 rfl rfl (.tmp rfl (.tmp rfl .nil))) (fun w hw=>?_)
   refine ⟨_,M,rfl,Mem.le.refl M,hw.c,ZR.zero,⟨none,0,[]⟩,?_,?_,?_,ZR.zero_ok _,SlK.nil,fun y hy=>by cases hy⟩
   ·rw [tick_no (fun q=>hk ⟨q.2.1,q.2.2⟩)];rfl
   ·rw [tick_no (fun q=>hk ⟨q.2.1,q.2.2⟩)];rfl
   ·rw [tick_no (fun q=>hk ⟨q.2.1,q.2.2⟩)];rfl
  ·skip
   (exfalso;simp [eqX] at hc10;done)
theorem Tick_ok (M:Mem) (n:ZR) (kind:Int) (hn0:ZR.ok M n):Esp.Fn Tryz.prog 11 [n.enc,.int .i64 kind] M (fun M' v=>NtE M' v (Uy n.nd kind)):=by
  by_cases h1:kind=1
  ·subst h1;exact Tick_yes M n hn0 1 ⟨by decide,by decide⟩ 33 stabN tickL1 F.ok33 (fun n=>rfl) (fun M bw Za Zb Zf Zh Zj Ze Zu Zi Zd Zt Zg Zc Zl Zr Zs ZH Zv ZT ZC ZA Zw Zq Zy Zp Zz ZG ZJ Yv hbig hcu htu hav hA hLa=>stab_ok M bw Za Zb Zf Zh Zj Ze Zu Zi Zd Zt Zg Zc Zl Zr Zs ZH Zv ZT ZC ZA Zw Zq Zy Zp Zz ZG ZJ Yv hbig hav hA hLa)
  by_cases h2:kind=2
  ·subst h2;exact Tick_yes M n hn0 2 ⟨by decide,by decide⟩ 34 fixN tickL2 F.ok34 (fun n=>rfl) (fun M bw Za Zb Zf Zh Zj Ze Zu Zi Zd Zt Zg Zc Zl Zr Zs ZH Zv ZT ZC ZA Zw Zq Zy Zp Zz ZG ZJ Yv hbig hcu htu hav hA hLa=>fix_ok M bw Za Zb Zf Zh Zj Ze Zu Zi Zd Zt Zg Zc Zl Zr Zs ZH Zv ZT ZC ZA Zw Zq Zy Zp Zz ZG ZJ Yv hbig hcu hav hA hLa)
  by_cases h3:kind=3
  ·subst h3;exact Tick_yes M n hn0 3 ⟨by decide,by decide⟩ 35 checkN tickL3 F.ok35 (fun n=>rfl) (fun M bw Za Zb Zf Zh Zj Ze Zu Zi Zd Zt Zg Zc Zl Zr Zs ZH Zv ZT ZC ZA Zw Zq Zy Zp Zz ZG ZJ Yv hbig hcu htu hav hA hLa=>check_ok M bw Za Zb Zf Zh Zj Ze Zu Zi Zd Zt Zg Zc Zl Zr Zs ZH Zv ZT ZC ZA Zw Zq Zy Zp Zz ZG ZJ Yv hbig htu hav hA hLa)
  have hk:¬(1≤kind∧kind≤3):=by omega
  exact Tick_no M n hn0 kind hk (tickL0 hk)
end Go.Proofs.YtajmnjefajknoaaGreat
namespace Go.Proofs.YtajmnjefajknoaaGreat
open Go.Esp
theorem F.ok107:okFn Tryz.prog 107=true:=by kernel_rfl
theorem find_ok (M:Mem) (bw:Nat) (Za:Int) (Zb:Plc) (Zf:Int) (Zh:Plc) (Zj Ze Zu:Option Addr) (Zi Zd Zt:Nat) (Zg Zc:List ZF) (Zl:List Int) (Zr:Int) (Zs:Bool) (ZH Zv ZT ZC ZA Zw Zq Zy Zp:Int) (Zz:Plc) (ZG ZJ:Int) (Yv:ZQ.ok M ⟨⟨Za,Zb⟩,⟨Zf,Zh⟩,⟨Zj,Zi,Zg⟩,⟨Ze,Zd,Zc⟩⟩) (Yz:SlK M (oneI .i64) 1 ⟨Zu,Zt,Zl⟩) (hbig:Zg.length≤40∧Zc.length≤200) (hLa:Zl.length≤1000) (hh:0≤ZG∧ZG≤1000) (l:ZP) (hl0:ZP.ok M l) (hLp:l.peers.l.length≤1000) (hk:l.kind=1):Fh Tryz.prog 45 [.pointer (some ⟨bw,0,none⟩),l.enc] M [(bw,rowO (ZW.segs ⟨⟨⟨⟨Za,Zb⟩,⟨Zf,Zh⟩,⟨Zj,Zi,Zg⟩,⟨Ze,Zd,Zc⟩⟩,Zr,Zs,ZH,Zv,ZT,ZC,ZA,Zw,Zq,Zy,Zp,Zz,⟨Zu,Zt,Zl⟩,ZG,ZJ⟩,⟨none,0,[]⟩⟩) 68)] (fun M' v Hout=>v=.tuple #[]∧WkF bw 68 M' Hout (XO (ZR.nd ⟨⟨⟨Za,Zb⟩,⟨Zf,Zh⟩,⟨Zj,Zi,Zg⟩,⟨Ze,Zd,Zc⟩⟩,Zr,Zs,ZH,Zv,ZT,ZC,ZA,Zw,Zq,Zy,Zp,Zz,⟨Zu,Zt,Zl⟩,ZG,ZJ⟩) l.lt)):=by
  obtain ⟨Yb,⟨ZM,Ye⟩,YB,l_id,⟨ZY,ZX,ZN⟩,Ys,⟨ZI,ZS⟩,⟨ZZ,ZV,ZL⟩⟩:=l
  simp only at hLp hk
  have Xl:SlK M (oneI .i64) 1 ⟨ZY,ZX,ZN⟩:=hl0.h0
  have Xb:SlK M ZF.segs 21 ⟨ZZ,ZV,ZL⟩:=hl0.h1
  have XT:=Xb.h1
  simp only at XT
  have WR:(ZL.map ZF.segs).length=ZL.length:=List.length_map ..
  have WS:ZL.length≤ZV:=Xb.h3
  refine Wt (fun H=>(bw,rowO (ZW.segs ⟨⟨⟨⟨Za,Zb⟩,⟨Zf,Zh⟩,⟨Zj,Zi,Zg⟩,⟨Ze,Zd,Zc⟩⟩,Zr,Zs,ZH,Zv,ZT,ZC,ZA,Zw,Zq,Zy,Zp,Zz,⟨Zu,Zt,Zl⟩,ZG,ZJ⟩,⟨none,0,[]⟩⟩) 68)::H) (fun _=>by simp only [List.append_assoc,List.cons_append,List.nil_append]) Tryz.func45 rfl Tryz.ntmps45 rfl ?_;intro H
  refine ZK (Zm (l:=[0]) rfl ?_)
  refine Xk ?_;intro b1
  refine Zo (Zn (Y_pk [3,0] ?_))
  iterate 2 refine ZK ?_
  refine Zm (l:=[0,1,2,3,4,5]) rfl ?_;refine Zx ?_;refine Yn ?_;refine Zk F.foff68_0 ?_;refine Zk F.foff32_2 ?_;refine ZD F.lay4 ?_;refine Xj ?_;refine Zo (Zn (Y_pk [12,3,0] ?_))
  refine YA rfl (fun hc2=>?_) (fun hc2=>?_)
  ·skip
   refine Yo (YS ?_)
   refine Yk (.inr rfl) (.nil) (fun w hw=>?_)
   have h3:XO (ZR.nd ⟨⟨⟨Za,Zb⟩,⟨Zf,Zh⟩,⟨Zj,Zi,Zg⟩,⟨Ze,Zd,Zc⟩⟩,Zr,Zs,ZH,Zv,ZT,ZC,ZA,Zw,Zq,Zy,Zp,Zz,⟨Zu,Zt,Zl⟩,ZG,ZJ⟩) (ZP.lt ⟨Yb,⟨ZM,Ye⟩,YB,l_id,⟨ZY,ZX,ZN⟩,Ys,⟨ZI,ZS⟩,⟨ZZ,ZV,ZL⟩⟩)=((ZR.nd ⟨⟨⟨Za,Zb⟩,⟨Zf,Zh⟩,⟨Zj,Zi,Zg⟩,⟨Ze,Zd,Zc⟩⟩,Zr,Zs,ZH,Zv,ZT,ZC,ZA,Zw,Zq,Zy,Zp,Zz,⟨Zu,Zt,Zl⟩,ZG,ZJ⟩),[]):=(does1 hk).trans (congrArg (Prod.mk (ZR.nd ⟨⟨⟨Za,Zb⟩,⟨Zf,Zh⟩,⟨Zj,Zi,Zg⟩,⟨Ze,Zd,Zc⟩⟩,Zr,Zs,ZH,Zv,ZT,ZC,ZA,Zw,Zq,Zy,Zp,Zz,⟨Zu,Zt,Zl⟩,ZG,ZJ⟩)) (find_no (show Zs=false by first|assumption|(simp_all;done))))
   refine ⟨_,M,[(bw,rowO (ZW.segs ⟨⟨⟨⟨Za,Zb⟩,⟨Zf,Zh⟩,⟨Zj,Zi,Zg⟩,⟨Ze,Zd,Zc⟩⟩,Zr,Zs,ZH,Zv,ZT,ZC,ZA,Zw,Zq,Zy,Zp,Zz,⟨Zu,Zt,Zl⟩,ZG,ZJ⟩,⟨none,0,[]⟩⟩) 68)],rfl,Mem.le.refl M,hw.c,rfl,⟨⟨⟨Za,Zb⟩,⟨Zf,Zh⟩,⟨Zj,Zi,Zg⟩,⟨Ze,Zd,Zc⟩⟩,Zr,Zs,ZH,Zv,ZT,ZC,ZA,Zw,Zq,Zy,Zp,Zz,⟨Zu,Zt,Zl⟩,ZG,ZJ⟩,⟨none,0,[]⟩,rfl,?_,?_,⟨Yv,Yz⟩,SlK.nil,fun y hy=>by cases hy⟩
   ·rw [h3] <;> rfl
   ·rw [h3] <;> rfl
  ·skip
   refine YG (Zn (Y_pk [3,0] ?_));refine ZK (Zm (l:=[0,1,2,3,4]) rfl ?_);refine Zk F.foff44_2 ?_;refine ZD F.lay29 ?_;refine Xr rfl rfl F.bld44 (.cons rfl (by constructor) (.cons rfl (by constructor) .nil)) rfl rfl ?_
   refine YW F.zero44 ?_;intro b3
   refine X_store rfl rfl rfl rfl (by constructor) (by ((try simp only [cat,List.cons_append,List.nil_append,List.append_nil]);(repeat (first|exact XG|refine XN ?_|(refine YU ?_ ?_;rfl)));done)) (by repeat first|exact Upd.head|apply Upd.tail|apply Upd.over) F.lay44 (by simp only [ZF.segs,ZQ.segs,ZR.segs,ZP.segs,Yr.segs,ZW.segs,YQ.segs,Yc.segs,cat,List.append_eq,List.cons_append,List.nil_append,List.append_nil,Segs.len,Seg.len,Yt]) (VT (m:=67) rfl (by simp only [ZF.segs,ZQ.segs,ZR.segs,ZP.segs,Yr.segs,ZW.segs,YQ.segs,Yc.segs,cat,List.append_eq,List.cons_append,List.nil_append,List.append_nil,Segs.len,Seg.len,Yt]) (by simp only [ZF.segs,ZQ.segs,ZR.segs,ZP.segs,Yr.segs,ZW.segs,YQ.segs,Yc.segs,cat,List.append_eq,List.cons_append,List.nil_append,List.append_nil,Segs.len,Seg.len,Yt])) ?_
   refine Zo (Zn (Y_pk [4,3,0] ?_));refine ZK (YK (l:=[0,1,2,3,4,5,6,7,8,9,10,11,12,13,14]) #[0,1,3,7,15,0,32,127,255,511,511,1023,3071,8191,16383] _ rfl (by kernel_rfl) (by kernel_rfl) St.drawn (fun _ h=>h) ?_);refine Zx ?_;refine Yn ?_;refine Zk F.foff68_0 ?_;refine Zk F.foff32_0 ?_;refine ZD F.lay28 ?_;refine Zk F.foff44_3 ?_;refine ZD F.lay23 ?_;refine X_fs rfl rfl F.ok19 rfl (Done_ok _ ⟨⟨Za,Zb⟩,⟨Zf,Zh⟩,⟨Zj,Zi,Zg⟩,⟨Ze,Zd,Zc⟩⟩ l_id Yv) rfl ?_
   rintro _ rfl
   obtain ⟨⟨⟨da,di⟩,db⟩,hd⟩:∃ x,VL (ZQ.tb ⟨⟨Za,Zb⟩,⟨Zf,Zh⟩,⟨Zj,Zi,Zg⟩,⟨Ze,Zd,Zc⟩⟩) l_id=x:=⟨_,rfl⟩
   rw [hd]
   refine Zx ?_
   iterate 2 refine XU ?_
   refine Zk F.foff44_6 ?_;refine Yh F.lay25 ?_;refine Zk F.foff44_5 ?_;refine Yh F.lay4 ?_;refine Zo (Zn (Y_pk [4,3,0] ?_))
   iterate 2 refine ZK ?_
   refine YK (l:=[0,1,2,3,4,5,6,7,8,9,10,11,12,13,14,15]) #[0,1,3,7,15,0,32,0,128,511,1023,2047,2047,0,12287,32767] _ rfl (by kernel_rfl) (by kernel_rfl) St.drawn (fun _ h=>h) ?_;refine Zx ?_;refine Yn ?_;refine Zk F.foff68_0 ?_;refine Zk F.foff32_0 ?_;refine ZD F.lay28 ?_;refine Zk F.foff44_3 ?_;refine ZD F.lay23 ?_;refine Zk F.foff44_4 ?_;refine ZD F.lay30 ?_;refine X_fn rfl rfl F.ok88 rfl (Nearest_ok _ ⟨⟨Za,Zb⟩,⟨Zf,Zh⟩,⟨Zj,Zi,Zg⟩,⟨Ze,Zd,Zc⟩⟩ l_id ⟨ZY,ZX,ZN⟩ Yv Xl hbig) rfl ?_
   rintro _ M1 hm1 rfl
   obtain ⟨⟨⟨qa,qi⟩,qb⟩,hq⟩:∃ x,Wj (ZQ.tb ⟨⟨Za,Zb⟩,⟨Zf,Zh⟩,⟨Zj,Zi,Zg⟩,⟨Ze,Zd,Zc⟩⟩) l_id (⟨ZY,ZX,ZN⟩:Sl Int).l=x:=⟨_,rfl⟩
   rw [hq]
   refine Zx ?_
   iterate 2 refine XU ?_
   refine YW F.zero25 ?_;intro b4
   refine Yh F.lay25 ?_;refine ZB ?_;refine Zo (Zn (Y_pk [6,5,4,3,0] ?_));refine ZK (Zm (l:=[0,1,2]) rfl ?_);refine Zk F.foff44_5 ?_;refine ZD F.lay4 ?_;refine Xj ?_;refine Zo (Zn (Y_pk [44,6,5,4,3,0] ?_))
   refine YA rfl (fun hc5=>?_) (fun hc5=>?_)
   ·skip
    simp only [ZF.eta,ZQ.eta,ZR.eta,ZP.eta,Yr.eta,ZW.eta,YQ.eta,Yc.eta] at hc5
    iterate 2 refine ZK ?_
    refine Zm (l:=[0]) rfl ?_;refine Zx ?_;refine Zo (Zn (Y_pk [45,6,5,4,3,0] ?_))
    refine YA rfl (fun hc6=>?_) (fun hc6=>?_)
    ·skip
     simp only [ZF.eta,ZQ.eta,ZR.eta,ZP.eta,Yr.eta,ZW.eta,YQ.eta,Yc.eta] at hc6
     refine Zm (l:=[0,1,2]) rfl ?_;refine ZD F.lay25 ?_;refine Zk F.foff44_6 ?_;refine Yh F.lay25 ?_;refine Zo (Zn (Y_pk [6,4,3,0] ?_));refine Zm (l:=[0,1,2,3]) rfl ?_;refine Zx ?_;refine Xj ?_;refine Zk F.foff44_5 ?_;refine Yh F.lay4 ?_;refine Zo (Zn (Y_pk [4,3,0] ?_));refine Wb (l:=[0,1,2,3,4,5]) [5] rfl ?_;refine Zx ?_;refine Zk F.foff44_1 ?_;refine Zk F.foff25_0 ?_;refine ZD F.lay3 ?_;refine ZD F.lay44 ?_;refine Vp rfl rfl rfl F.ok65 rfl (sendF_ok M1 bw Za Zb Zf Zh Zj Ze Zu Zi Zd Zt Zg Zc Zl Zr Zs ZH Zv ZT ZC ZA Zw Zq Zy Zp Zz ZG ZJ ZM ⟨2,⟨0,0⟩,YB,0,⟨none,0,[]⟩,(!qb),⟨qa,qi⟩,⟨none,0,[]⟩⟩) (by repeat first|exact Rem.here _|exact Rem.two|apply Rem.skip|apply Rem.over) (YV rfl) ?_
     rintro _ M2 hs2 hm2 ⟨rfl,⟨o9a,o9c,o9l⟩,rfl,k9o,hl9⟩
     simp only at hl9
     simp only [List.append_assoc,List.cons_append,List.nil_append]
     refine Zo (WP ?_)
     refine Yk (.inl rfl) (.nil) (fun w hw=>?_)
     obtain rfl:db=false:=by first|assumption|(simp_all;done)
     obtain rfl:qb=true:=by first|assumption|(simp_all;done)
     have h3:XO (ZR.nd ⟨⟨⟨Za,Zb⟩,⟨Zf,Zh⟩,⟨Zj,Zi,Zg⟩,⟨Ze,Zd,Zc⟩⟩,Zr,Zs,ZH,Zv,ZT,ZC,ZA,Zw,Zq,Zy,Zp,Zz,⟨Zu,Zt,Zl⟩,ZG,ZJ⟩) (ZP.lt ⟨Yb,⟨ZM,Ye⟩,YB,l_id,⟨ZY,ZX,ZN⟩,Ys,⟨ZI,ZS⟩,⟨ZZ,ZV,ZL⟩⟩)=(ZR.nd ⟨⟨⟨Za,Zb⟩,⟨Zf,Zh⟩,⟨Zj,Zi,Zg⟩,⟨Ze,Zd,Zc⟩⟩,Zr,Zs,ZH,Zv,ZT,ZC,ZA,Zw,Zq,Zy,Zp,Zz,⟨Zu,Zt,Zl⟩,ZG,ZJ⟩,[Yr.snd (⟨ZM,(⟨2,⟨Za,Zb⟩,YB,0,⟨none,0,[]⟩,false,⟨qa,qi⟩,⟨none,0,[]⟩⟩:ZP)⟩:Yr)]):=(does1 hk).trans (congrArg (Prod.mk (ZR.nd ⟨⟨⟨Za,Zb⟩,⟨Zf,Zh⟩,⟨Zj,Zi,Zg⟩,⟨Ze,Zd,Zc⟩⟩,Zr,Zs,ZH,Zv,ZT,ZC,ZA,Zw,Zq,Zy,Zp,Zz,⟨Zu,Zt,Zl⟩,ZG,ZJ⟩)) ((find_yes (n:=(ZR.nd ⟨⟨⟨Za,Zb⟩,⟨Zf,Zh⟩,⟨Zj,Zi,Zg⟩,⟨Ze,Zd,Zc⟩⟩,Zr,Zs,ZH,Zv,ZT,ZC,ZA,Zw,Zq,Zy,Zp,Zz,⟨Zu,Zt,Zl⟩,ZG,ZJ⟩)) (l:=(ZP.lt ⟨Yb,⟨ZM,Ye⟩,YB,l_id,⟨ZY,ZX,ZN⟩,Ys,⟨ZI,ZS⟩,⟨ZZ,ZV,ZL⟩⟩)) (show Zs=true by first|assumption|(simp_all;done)) hd hq).trans rfl))
     refine ⟨_,M2,[(bw,rowO (ZW.segs ⟨⟨⟨⟨Za,Zb⟩,⟨Zf,Zh⟩,⟨Zj,Zi,Zg⟩,⟨Ze,Zd,Zc⟩⟩,Zr,Zs,ZH,Zv,ZT,ZC,ZA,Zw,Zq,Zy,Zp,Zz,⟨Zu,Zt,Zl⟩,ZG,ZJ⟩,⟨o9a,o9c,o9l⟩⟩) 68)],rfl,(hm1.trans hm2),hw.c,rfl,⟨⟨⟨Za,Zb⟩,⟨Zf,Zh⟩,⟨Zj,Zi,Zg⟩,⟨Ze,Zd,Zc⟩⟩,Zr,Zs,ZH,Zv,ZT,ZC,ZA,Zw,Zq,Zy,Zp,Zz,⟨Zu,Zt,Zl⟩,ZG,ZJ⟩,⟨o9a,o9c,o9l⟩,rfl,?_,?_,⟨(Yv.mono hm1).mono hm2,(Yz.mono hm1).mono hm2⟩,k9o,fun y hy=>?_⟩
     ·rw [h3] <;> rfl
     ·rw [h3]
      show sndl o9l=_
      rw [hl9];rfl
     ·simp only at hy
      rw [hl9] at hy
      obtain rfl:=List.mem_singleton.1 hy
      exact ⟨⟨SlK.nil,SlK.nil⟩⟩
    ·skip
     simp only [ZF.eta,ZQ.eta,ZR.eta,ZP.eta,Yr.eta,ZW.eta,YQ.eta,Yc.eta] at hc6
     refine YG (Zn (Y_pk [6,4,3,0] ?_));refine Zm (l:=[0,1,2,3]) rfl ?_;refine Zx ?_;refine Xj ?_;refine Zk F.foff44_5 ?_;refine Yh F.lay4 ?_;refine Zo (Zn (Y_pk [4,3,0] ?_));refine Wb (l:=[0,1,2,3,4,5]) [5] rfl ?_;refine Zx ?_;refine Zk F.foff44_1 ?_;refine Zk F.foff25_0 ?_;refine ZD F.lay3 ?_;refine ZD F.lay44 ?_;refine Vp rfl rfl rfl F.ok65 rfl (sendF_ok M1 bw Za Zb Zf Zh Zj Ze Zu Zi Zd Zt Zg Zc Zl Zr Zs ZH Zv ZT ZC ZA Zw Zq Zy Zp Zz ZG ZJ ZM ⟨2,⟨0,0⟩,YB,0,⟨none,0,[]⟩,(!qb),⟨da,di⟩,⟨none,0,[]⟩⟩) (by repeat first|exact Rem.here _|exact Rem.two|apply Rem.skip|apply Rem.over) (YV rfl) ?_
     rintro _ M2 hs2 hm2 ⟨rfl,⟨o9a,o9c,o9l⟩,rfl,k9o,hl9⟩
     simp only at hl9
     simp only [List.append_assoc,List.cons_append,List.nil_append]
     refine Zo (WP ?_)
     refine Yk (.inl rfl) (.nil) (fun w hw=>?_)
     obtain rfl:db=false:=by first|assumption|(simp_all;done)
     obtain rfl:qb=false:=by first|assumption|(simp_all;done)
     have h3:XO (ZR.nd ⟨⟨⟨Za,Zb⟩,⟨Zf,Zh⟩,⟨Zj,Zi,Zg⟩,⟨Ze,Zd,Zc⟩⟩,Zr,Zs,ZH,Zv,ZT,ZC,ZA,Zw,Zq,Zy,Zp,Zz,⟨Zu,Zt,Zl⟩,ZG,ZJ⟩) (ZP.lt ⟨Yb,⟨ZM,Ye⟩,YB,l_id,⟨ZY,ZX,ZN⟩,Ys,⟨ZI,ZS⟩,⟨ZZ,ZV,ZL⟩⟩)=(ZR.nd ⟨⟨⟨Za,Zb⟩,⟨Zf,Zh⟩,⟨Zj,Zi,Zg⟩,⟨Ze,Zd,Zc⟩⟩,Zr,Zs,ZH,Zv,ZT,ZC,ZA,Zw,Zq,Zy,Zp,Zz,⟨Zu,Zt,Zl⟩,ZG,ZJ⟩,[Yr.snd (⟨ZM,(⟨2,⟨Za,Zb⟩,YB,0,⟨none,0,[]⟩,true,⟨da,di⟩,⟨none,0,[]⟩⟩:ZP)⟩:Yr)]):=(does1 hk).trans (congrArg (Prod.mk (ZR.nd ⟨⟨⟨Za,Zb⟩,⟨Zf,Zh⟩,⟨Zj,Zi,Zg⟩,⟨Ze,Zd,Zc⟩⟩,Zr,Zs,ZH,Zv,ZT,ZC,ZA,Zw,Zq,Zy,Zp,Zz,⟨Zu,Zt,Zl⟩,ZG,ZJ⟩)) ((find_yes (n:=(ZR.nd ⟨⟨⟨Za,Zb⟩,⟨Zf,Zh⟩,⟨Zj,Zi,Zg⟩,⟨Ze,Zd,Zc⟩⟩,Zr,Zs,ZH,Zv,ZT,ZC,ZA,Zw,Zq,Zy,Zp,Zz,⟨Zu,Zt,Zl⟩,ZG,ZJ⟩)) (l:=(ZP.lt ⟨Yb,⟨ZM,Ye⟩,YB,l_id,⟨ZY,ZX,ZN⟩,Ys,⟨ZI,ZS⟩,⟨ZZ,ZV,ZL⟩⟩)) (show Zs=true by first|assumption|(simp_all;done)) hd hq).trans rfl))
     refine ⟨_,M2,[(bw,rowO (ZW.segs ⟨⟨⟨⟨Za,Zb⟩,⟨Zf,Zh⟩,⟨Zj,Zi,Zg⟩,⟨Ze,Zd,Zc⟩⟩,Zr,Zs,ZH,Zv,ZT,ZC,ZA,Zw,Zq,Zy,Zp,Zz,⟨Zu,Zt,Zl⟩,ZG,ZJ⟩,⟨o9a,o9c,o9l⟩⟩) 68)],rfl,(hm1.trans hm2),hw.c,rfl,⟨⟨⟨Za,Zb⟩,⟨Zf,Zh⟩,⟨Zj,Zi,Zg⟩,⟨Ze,Zd,Zc⟩⟩,Zr,Zs,ZH,Zv,ZT,ZC,ZA,Zw,Zq,Zy,Zp,Zz,⟨Zu,Zt,Zl⟩,ZG,ZJ⟩,⟨o9a,o9c,o9l⟩,rfl,?_,?_,⟨(Yv.mono hm1).mono hm2,(Yz.mono hm1).mono hm2⟩,k9o,fun y hy=>?_⟩
     ·rw [h3] <;> rfl
     ·rw [h3]
      show sndl o9l=_
      rw [hl9];rfl
     ·simp only at hy
      rw [hl9] at hy
      obtain rfl:=List.mem_singleton.1 hy
      exact ⟨⟨SlK.nil,SlK.nil⟩⟩
   ·skip
    simp only [ZF.eta,ZQ.eta,ZR.eta,ZP.eta,Yr.eta,ZW.eta,YQ.eta,Yc.eta] at hc5
    refine YG (Zn (Y_pk [4,3,0] ?_));refine Wb (l:=[0,1,2,3,4,5]) [5] rfl ?_;refine Zx ?_;refine Zk F.foff44_1 ?_;refine Zk F.foff25_0 ?_;refine ZD F.lay3 ?_;refine ZD F.lay44 ?_;refine Vp rfl rfl rfl F.ok65 rfl (sendF_ok M1 bw Za Zb Zf Zh Zj Ze Zu Zi Zd Zt Zg Zc Zl Zr Zs ZH Zv ZT ZC ZA Zw Zq Zy Zp Zz ZG ZJ ZM ⟨2,⟨0,0⟩,YB,0,⟨none,0,[]⟩,db,⟨da,di⟩,⟨none,0,[]⟩⟩) (by repeat first|exact Rem.here _|exact Rem.two|apply Rem.skip|apply Rem.over) (YV rfl) ?_
    rintro _ M2 hs2 hm2 ⟨rfl,⟨o9a,o9c,o9l⟩,rfl,k9o,hl9⟩
    simp only at hl9
    simp only [List.append_assoc,List.cons_append,List.nil_append]
    refine Zo (WP ?_)
    refine Yk (.inl rfl) (.nil) (fun w hw=>?_)
    obtain rfl:db=true:=by first|assumption|(simp_all;done)
    have h3:XO (ZR.nd ⟨⟨⟨Za,Zb⟩,⟨Zf,Zh⟩,⟨Zj,Zi,Zg⟩,⟨Ze,Zd,Zc⟩⟩,Zr,Zs,ZH,Zv,ZT,ZC,ZA,Zw,Zq,Zy,Zp,Zz,⟨Zu,Zt,Zl⟩,ZG,ZJ⟩) (ZP.lt ⟨Yb,⟨ZM,Ye⟩,YB,l_id,⟨ZY,ZX,ZN⟩,Ys,⟨ZI,ZS⟩,⟨ZZ,ZV,ZL⟩⟩)=(ZR.nd ⟨⟨⟨Za,Zb⟩,⟨Zf,Zh⟩,⟨Zj,Zi,Zg⟩,⟨Ze,Zd,Zc⟩⟩,Zr,Zs,ZH,Zv,ZT,ZC,ZA,Zw,Zq,Zy,Zp,Zz,⟨Zu,Zt,Zl⟩,ZG,ZJ⟩,[Yr.snd (⟨ZM,(⟨2,⟨Za,Zb⟩,YB,0,⟨none,0,[]⟩,true,⟨da,di⟩,⟨none,0,[]⟩⟩:ZP)⟩:Yr)]):=(does1 hk).trans (congrArg (Prod.mk (ZR.nd ⟨⟨⟨Za,Zb⟩,⟨Zf,Zh⟩,⟨Zj,Zi,Zg⟩,⟨Ze,Zd,Zc⟩⟩,Zr,Zs,ZH,Zv,ZT,ZC,ZA,Zw,Zq,Zy,Zp,Zz,⟨Zu,Zt,Zl⟩,ZG,ZJ⟩)) ((find_yes (n:=(ZR.nd ⟨⟨⟨Za,Zb⟩,⟨Zf,Zh⟩,⟨Zj,Zi,Zg⟩,⟨Ze,Zd,Zc⟩⟩,Zr,Zs,ZH,Zv,ZT,ZC,ZA,Zw,Zq,Zy,Zp,Zz,⟨Zu,Zt,Zl⟩,ZG,ZJ⟩)) (l:=(ZP.lt ⟨Yb,⟨ZM,Ye⟩,YB,l_id,⟨ZY,ZX,ZN⟩,Ys,⟨ZI,ZS⟩,⟨ZZ,ZV,ZL⟩⟩)) (show Zs=true by first|assumption|(simp_all;done)) hd hq).trans rfl))
    refine ⟨_,M2,[(bw,rowO (ZW.segs ⟨⟨⟨⟨Za,Zb⟩,⟨Zf,Zh⟩,⟨Zj,Zi,Zg⟩,⟨Ze,Zd,Zc⟩⟩,Zr,Zs,ZH,Zv,ZT,ZC,ZA,Zw,Zq,Zy,Zp,Zz,⟨Zu,Zt,Zl⟩,ZG,ZJ⟩,⟨o9a,o9c,o9l⟩⟩) 68)],rfl,(hm1.trans hm2),hw.c,rfl,⟨⟨⟨Za,Zb⟩,⟨Zf,Zh⟩,⟨Zj,Zi,Zg⟩,⟨Ze,Zd,Zc⟩⟩,Zr,Zs,ZH,Zv,ZT,ZC,ZA,Zw,Zq,Zy,Zp,Zz,⟨Zu,Zt,Zl⟩,ZG,ZJ⟩,⟨o9a,o9c,o9l⟩,rfl,?_,?_,⟨(Yv.mono hm1).mono hm2,(Yz.mono hm1).mono hm2⟩,k9o,fun y hy=>?_⟩
    ·rw [h3] <;> rfl
    ·rw [h3]
     show sndl o9l=_
     rw [hl9];rfl
    ·simp only at hy
     rw [hl9] at hy
     obtain rfl:=List.mem_singleton.1 hy
     exact ⟨⟨SlK.nil,SlK.nil⟩⟩
theorem ask_ok (M:Mem) (bw:Nat) (Za:Int) (Zb:Plc) (Zf:Int) (Zh:Plc) (Zj Ze Zu:Option Addr) (Zi Zd Zt:Nat) (Zg Zc:List ZF) (Zl:List Int) (Zr:Int) (Zs:Bool) (ZH Zv ZT ZC ZA Zw Zq Zy Zp:Int) (Zz:Plc) (ZG ZJ:Int) (Yv:ZQ.ok M ⟨⟨Za,Zb⟩,⟨Zf,Zh⟩,⟨Zj,Zi,Zg⟩,⟨Ze,Zd,Zc⟩⟩) (Yz:SlK M (oneI .i64) 1 ⟨Zu,Zt,Zl⟩) (hbig:Zg.length≤40∧Zc.length≤200) (hLa:Zl.length≤1000) (hh:0≤ZG∧ZG≤1000) (l:ZP) (hl0:ZP.ok M l) (hLp:l.peers.l.length≤1000) (hk:l.kind=3):Fh Tryz.prog 47 [.pointer (some ⟨bw,0,none⟩),l.enc] M [(bw,rowO (ZW.segs ⟨⟨⟨⟨Za,Zb⟩,⟨Zf,Zh⟩,⟨Zj,Zi,Zg⟩,⟨Ze,Zd,Zc⟩⟩,Zr,Zs,ZH,Zv,ZT,ZC,ZA,Zw,Zq,Zy,Zp,Zz,⟨Zu,Zt,Zl⟩,ZG,ZJ⟩,⟨none,0,[]⟩⟩) 68)] (fun M' v Hout=>v=.tuple #[]∧WkF bw 68 M' Hout (XO (ZR.nd ⟨⟨⟨Za,Zb⟩,⟨Zf,Zh⟩,⟨Zj,Zi,Zg⟩,⟨Ze,Zd,Zc⟩⟩,Zr,Zs,ZH,Zv,ZT,ZC,ZA,Zw,Zq,Zy,Zp,Zz,⟨Zu,Zt,Zl⟩,ZG,ZJ⟩) l.lt)):=by
  obtain ⟨Yb,⟨ZM,Ye⟩,YB,l_id,⟨ZY,ZX,ZN⟩,Ys,⟨ZI,ZS⟩,⟨ZZ,ZV,ZL⟩⟩:=l
  simp only at hLp hk
  have Xl:SlK M (oneI .i64) 1 ⟨ZY,ZX,ZN⟩:=hl0.h0
  have Xb:SlK M ZF.segs 21 ⟨ZZ,ZV,ZL⟩:=hl0.h1
  have XT:=Xb.h1
  simp only at XT
  have WR:(ZL.map ZF.segs).length=ZL.length:=List.length_map ..
  have WS:ZL.length≤ZV:=Xb.h3
  refine Wt (fun H=>(bw,rowO (ZW.segs ⟨⟨⟨⟨Za,Zb⟩,⟨Zf,Zh⟩,⟨Zj,Zi,Zg⟩,⟨Ze,Zd,Zc⟩⟩,Zr,Zs,ZH,Zv,ZT,ZC,ZA,Zw,Zq,Zy,Zp,Zz,⟨Zu,Zt,Zl⟩,ZG,ZJ⟩,⟨none,0,[]⟩⟩) 68)::H) (fun _=>by simp only [List.append_assoc,List.cons_append,List.nil_append]) Tryz.func47 rfl Tryz.ntmps47 rfl ?_;intro H
  refine ZK (Zm (l:=[0]) rfl ?_)
  refine Xk ?_;intro b1
  refine Zo (Zn (Y_pk [3,0] ?_));refine ZK (Zm (l:=[0,1,2,3,4]) rfl ?_);refine Zx ?_;refine Yn ?_;refine Zk F.foff68_0 ?_;refine Zk F.foff32_2 ?_;refine ZD F.lay4 ?_;refine Zo (Zn (Y_pk [8,3,0] ?_))
  refine YA rfl (fun hc2=>?_) (fun hc2=>?_)
  ·skip
   refine C_region_anyW (l:=[0,1,2,3,4,5,6,7,8,9,10,11,12,13,14,15,16,17,18,19]) [19] #[0,0,2,6,0,16,0,64,192,448,960,1984,0,4096,12288,28672,61440,126976,262128,524287] (_) rfl (by kernel_rfl) (by kernel_rfl) St.drawn (fun _ h=>h) ?_;refine Zx ?_;refine Zk F.foff44_1 ?_;refine Zk F.foff25_0 ?_;refine ZD F.lay3 ?_;refine Zk F.foff44_2 ?_;refine ZD F.lay29 ?_;refine Zx ?_;refine Yn ?_;refine Zk F.foff68_0 ?_;refine Zk F.foff32_0 ?_;refine Zk F.foff28_1 ?_;refine ZD F.lay25 ?_;refine Zx ?_;refine Yn ?_;refine Zk F.foff68_0 ?_;refine Zk F.foff32_0 ?_;refine Zk F.foff28_2 ?_;refine ZD F.lay26 ?_;refine Xr rfl rfl F.bld44 (.cons rfl (by constructor) (.cons rfl (by constructor) (.cons rfl (by constructor) (.cons rfl (by constructor) .nil)))) rfl rfl ?_
   refine Vp rfl rfl rfl F.ok65 rfl (sendF_ok M bw Za Zb Zf Zh Zj Ze Zu Zi Zd Zt Zg Zc Zl Zr Zs ZH Zv ZT ZC ZA Zw Zq Zy Zp Zz ZG ZJ ZM ⟨4,⟨0,0⟩,YB,0,⟨none,0,[]⟩,false,⟨Zf,Zh⟩,⟨Zj,Zi,Zg⟩⟩) (by repeat first|exact Rem.here _|exact Rem.two|apply Rem.skip|apply Rem.over) (YV rfl) ?_
   rintro _ M2 hs2 hm2 ⟨rfl,⟨o9a,o9c,o9l⟩,rfl,k9o,hl9⟩
   simp only at hl9
   simp only [List.append_assoc,List.cons_append,List.nil_append]
   refine Zo (WP ?_)
   refine Yk (.inl rfl) (.nil) (fun w hw=>?_)
   have h3:XO (ZR.nd ⟨⟨⟨Za,Zb⟩,⟨Zf,Zh⟩,⟨Zj,Zi,Zg⟩,⟨Ze,Zd,Zc⟩⟩,Zr,Zs,ZH,Zv,ZT,ZC,ZA,Zw,Zq,Zy,Zp,Zz,⟨Zu,Zt,Zl⟩,ZG,ZJ⟩) (ZP.lt ⟨Yb,⟨ZM,Ye⟩,YB,l_id,⟨ZY,ZX,ZN⟩,Ys,⟨ZI,ZS⟩,⟨ZZ,ZV,ZL⟩⟩)=(ZR.nd ⟨⟨⟨Za,Zb⟩,⟨Zf,Zh⟩,⟨Zj,Zi,Zg⟩,⟨Ze,Zd,Zc⟩⟩,Zr,Zs,ZH,Zv,ZT,ZC,ZA,Zw,Zq,Zy,Zp,Zz,⟨Zu,Zt,Zl⟩,ZG,ZJ⟩,[Yr.snd (⟨ZM,(⟨4,⟨Za,Zb⟩,YB,0,⟨none,0,[]⟩,false,⟨Zf,Zh⟩,⟨Zj,Zi,Zg⟩⟩:ZP)⟩:Yr)]):=does3y hk (show Zs=true by first|assumption|(simp_all;done))
   refine ⟨_,M2,[(bw,rowO (ZW.segs ⟨⟨⟨⟨Za,Zb⟩,⟨Zf,Zh⟩,⟨Zj,Zi,Zg⟩,⟨Ze,Zd,Zc⟩⟩,Zr,Zs,ZH,Zv,ZT,ZC,ZA,Zw,Zq,Zy,Zp,Zz,⟨Zu,Zt,Zl⟩,ZG,ZJ⟩,⟨o9a,o9c,o9l⟩⟩) 68)],rfl,hm2,hw.c,rfl,⟨⟨⟨Za,Zb⟩,⟨Zf,Zh⟩,⟨Zj,Zi,Zg⟩,⟨Ze,Zd,Zc⟩⟩,Zr,Zs,ZH,Zv,ZT,ZC,ZA,Zw,Zq,Zy,Zp,Zz,⟨Zu,Zt,Zl⟩,ZG,ZJ⟩,⟨o9a,o9c,o9l⟩,rfl,?_,?_,⟨Yv.mono hm2,Yz.mono hm2⟩,k9o,fun y hy=>?_⟩
   ·rw [h3] <;> rfl
   ·rw [h3]
    show sndl o9l=_
    rw [hl9];rfl
   ·simp only at hy
    rw [hl9] at hy
    obtain rfl:=List.mem_singleton.1 hy
    exact ⟨⟨SlK.nil,(Yv.mono hm2).h0⟩⟩
  ·skip
   refine YG ?_
   refine Yk (.inl rfl) (.nil) (fun w hw=>?_)
   have h3:XO (ZR.nd ⟨⟨⟨Za,Zb⟩,⟨Zf,Zh⟩,⟨Zj,Zi,Zg⟩,⟨Ze,Zd,Zc⟩⟩,Zr,Zs,ZH,Zv,ZT,ZC,ZA,Zw,Zq,Zy,Zp,Zz,⟨Zu,Zt,Zl⟩,ZG,ZJ⟩) (ZP.lt ⟨Yb,⟨ZM,Ye⟩,YB,l_id,⟨ZY,ZX,ZN⟩,Ys,⟨ZI,ZS⟩,⟨ZZ,ZV,ZL⟩⟩)=((ZR.nd ⟨⟨⟨Za,Zb⟩,⟨Zf,Zh⟩,⟨Zj,Zi,Zg⟩,⟨Ze,Zd,Zc⟩⟩,Zr,Zs,ZH,Zv,ZT,ZC,ZA,Zw,Zq,Zy,Zp,Zz,⟨Zu,Zt,Zl⟩,ZG,ZJ⟩),[]):=does3n hk (show Zs=false by first|assumption|(simp_all;done))
   refine ⟨_,M,[(bw,rowO (ZW.segs ⟨⟨⟨⟨Za,Zb⟩,⟨Zf,Zh⟩,⟨Zj,Zi,Zg⟩,⟨Ze,Zd,Zc⟩⟩,Zr,Zs,ZH,Zv,ZT,ZC,ZA,Zw,Zq,Zy,Zp,Zz,⟨Zu,Zt,Zl⟩,ZG,ZJ⟩,⟨none,0,[]⟩⟩) 68)],rfl,Mem.le.refl M,hw.c,rfl,⟨⟨⟨Za,Zb⟩,⟨Zf,Zh⟩,⟨Zj,Zi,Zg⟩,⟨Ze,Zd,Zc⟩⟩,Zr,Zs,ZH,Zv,ZT,ZC,ZA,Zw,Zq,Zy,Zp,Zz,⟨Zu,Zt,Zl⟩,ZG,ZJ⟩,⟨none,0,[]⟩,rfl,?_,?_,⟨Yv,Yz⟩,SlK.nil,fun y hy=>by cases hy⟩
   ·rw [h3] <;> rfl
   ·rw [h3] <;> rfl
theorem notify_ok (M:Mem) (bw:Nat) (Za:Int) (Zb:Plc) (Zf:Int) (Zh:Plc) (Zj Ze Zu:Option Addr) (Zi Zd Zt:Nat) (Zg Zc:List ZF) (Zl:List Int) (Zr:Int) (Zs:Bool) (ZH Zv ZT ZC ZA Zw Zq Zy Zp:Int) (Zz:Plc) (ZG ZJ:Int) (Yv:ZQ.ok M ⟨⟨Za,Zb⟩,⟨Zf,Zh⟩,⟨Zj,Zi,Zg⟩,⟨Ze,Zd,Zc⟩⟩) (Yz:SlK M (oneI .i64) 1 ⟨Zu,Zt,Zl⟩) (hbig:Zg.length≤40∧Zc.length≤200) (hLa:Zl.length≤1000) (hh:0≤ZG∧ZG≤1000) (l:ZP) (hl0:ZP.ok M l) (hLp:l.peers.l.length≤1000) (hk:l.kind=5):Fh Tryz.prog 49 [.pointer (some ⟨bw,0,none⟩),l.enc] M [(bw,rowO (ZW.segs ⟨⟨⟨⟨Za,Zb⟩,⟨Zf,Zh⟩,⟨Zj,Zi,Zg⟩,⟨Ze,Zd,Zc⟩⟩,Zr,Zs,ZH,Zv,ZT,ZC,ZA,Zw,Zq,Zy,Zp,Zz,⟨Zu,Zt,Zl⟩,ZG,ZJ⟩,⟨none,0,[]⟩⟩) 68)] (fun M' v Hout=>v=.tuple #[]∧WkF bw 68 M' Hout (XO (ZR.nd ⟨⟨⟨Za,Zb⟩,⟨Zf,Zh⟩,⟨Zj,Zi,Zg⟩,⟨Ze,Zd,Zc⟩⟩,Zr,Zs,ZH,Zv,ZT,ZC,ZA,Zw,Zq,Zy,Zp,Zz,⟨Zu,Zt,Zl⟩,ZG,ZJ⟩) l.lt)):=by
  obtain ⟨Yb,⟨ZM,Ye⟩,YB,l_id,⟨ZY,ZX,ZN⟩,Ys,⟨ZI,ZS⟩,⟨ZZ,ZV,ZL⟩⟩:=l
  simp only at hLp hk
  have Xl:SlK M (oneI .i64) 1 ⟨ZY,ZX,ZN⟩:=hl0.h0
  have Xb:SlK M ZF.segs 21 ⟨ZZ,ZV,ZL⟩:=hl0.h1
  have XT:=Xb.h1
  simp only at XT
  have WR:(ZL.map ZF.segs).length=ZL.length:=List.length_map ..
  have WS:ZL.length≤ZV:=Xb.h3
  refine Wt (fun H=>(bw,rowO (ZW.segs ⟨⟨⟨⟨Za,Zb⟩,⟨Zf,Zh⟩,⟨Zj,Zi,Zg⟩,⟨Ze,Zd,Zc⟩⟩,Zr,Zs,ZH,Zv,ZT,ZC,ZA,Zw,Zq,Zy,Zp,Zz,⟨Zu,Zt,Zl⟩,ZG,ZJ⟩,⟨none,0,[]⟩⟩) 68)::H) (fun _=>by simp only [List.append_assoc,List.cons_append,List.nil_append]) Tryz.func49 rfl Tryz.ntmps49 rfl ?_;intro H
  refine ZK (Zm (l:=[0]) rfl ?_)
  refine Xk ?_;intro b1
  refine Zo (Zn (Y_pk [3,0] ?_));refine YK (l:=[0,1,2,3,4,5,6,7,8,9,10,11,12]) #[0,0,2,6,14,30,0,64,254,511,1023,2047,4095] _ rfl (by kernel_rfl) (by kernel_rfl) St.drawn (fun _ h=>h) ?_
  iterate 2 refine Zx ?_
  refine Yn ?_;refine Zk F.foff68_0 ?_;refine Zk F.foff32_0 ?_;refine ZD F.lay28 ?_;refine Zk F.foff44_1 ?_;refine ZD F.lay25 ?_;refine X_fn rfl rfl F.ok107 rfl (Learn_ok _ ⟨⟨Za,Zb⟩,⟨Zf,Zh⟩,⟨Zj,Zi,Zg⟩,⟨Ze,Zd,Zc⟩⟩ ⟨ZM,Ye⟩ Yv) rfl ?_
  rintro _ M1 hm1 ⟨⟨⟨wa,wi⟩,⟨wq,wj⟩,⟨w1a,w1c,w1l⟩,⟨w2a,w2c,w2l⟩⟩,rfl,hol,okl⟩
  refine Yn ?_;refine Zk F.foff68_0 ?_;refine Zk F.foff32_0 ?_;refine Yh F.lay28 ?_;refine Zo ?_
  refine Yk (.inl rfl) (.nil) (fun w hw=>?_)
  have h3:XO (ZR.nd ⟨⟨⟨Za,Zb⟩,⟨Zf,Zh⟩,⟨Zj,Zi,Zg⟩,⟨Ze,Zd,Zc⟩⟩,Zr,Zs,ZH,Zv,ZT,ZC,ZA,Zw,Zq,Zy,Zp,Zz,⟨Zu,Zt,Zl⟩,ZG,ZJ⟩) (ZP.lt ⟨Yb,⟨ZM,Ye⟩,YB,l_id,⟨ZY,ZX,ZN⟩,Ys,⟨ZI,ZS⟩,⟨ZZ,ZV,ZL⟩⟩)=(ZR.nd ⟨⟨⟨wa,wi⟩,⟨wq,wj⟩,⟨w1a,w1c,w1l⟩,⟨w2a,w2c,w2l⟩⟩,Zr,Zs,ZH,Zv,ZT,ZC,ZA,Zw,Zq,Zy,Zp,Zz,⟨Zu,Zt,Zl⟩,ZG,ZJ⟩,[]):=does5 hk hol
  refine ⟨_,M1,[(bw,rowO (ZW.segs ⟨⟨⟨⟨wa,wi⟩,⟨wq,wj⟩,⟨w1a,w1c,w1l⟩,⟨w2a,w2c,w2l⟩⟩,Zr,Zs,ZH,Zv,ZT,ZC,ZA,Zw,Zq,Zy,Zp,Zz,⟨Zu,Zt,Zl⟩,ZG,ZJ⟩,⟨none,0,[]⟩⟩) 68)],rfl,hm1,hw.c,rfl,⟨⟨⟨wa,wi⟩,⟨wq,wj⟩,⟨w1a,w1c,w1l⟩,⟨w2a,w2c,w2l⟩⟩,Zr,Zs,ZH,Zv,ZT,ZC,ZA,Zw,Zq,Zy,Zp,Zz,⟨Zu,Zt,Zl⟩,ZG,ZJ⟩,⟨none,0,[]⟩,rfl,?_,?_,⟨okl,Yz.mono hm1⟩,SlK.nil,fun y hy=>by cases hy⟩
  ·rw [h3] <;> rfl
  ·rw [h3] <;> rfl
theorem ping_ok (M:Mem) (bw:Nat) (Za:Int) (Zb:Plc) (Zf:Int) (Zh:Plc) (Zj Ze Zu:Option Addr) (Zi Zd Zt:Nat) (Zg Zc:List ZF) (Zl:List Int) (Zr:Int) (Zs:Bool) (ZH Zv ZT ZC ZA Zw Zq Zy Zp:Int) (Zz:Plc) (ZG ZJ:Int) (Yv:ZQ.ok M ⟨⟨Za,Zb⟩,⟨Zf,Zh⟩,⟨Zj,Zi,Zg⟩,⟨Ze,Zd,Zc⟩⟩) (Yz:SlK M (oneI .i64) 1 ⟨Zu,Zt,Zl⟩) (hbig:Zg.length≤40∧Zc.length≤200) (hLa:Zl.length≤1000) (hh:0≤ZG∧ZG≤1000) (l:ZP) (hl0:ZP.ok M l) (hLp:l.peers.l.length≤1000) (hk:l.kind=6):Fh Tryz.prog 50 [.pointer (some ⟨bw,0,none⟩),l.enc] M [(bw,rowO (ZW.segs ⟨⟨⟨⟨Za,Zb⟩,⟨Zf,Zh⟩,⟨Zj,Zi,Zg⟩,⟨Ze,Zd,Zc⟩⟩,Zr,Zs,ZH,Zv,ZT,ZC,ZA,Zw,Zq,Zy,Zp,Zz,⟨Zu,Zt,Zl⟩,ZG,ZJ⟩,⟨none,0,[]⟩⟩) 68)] (fun M' v Hout=>v=.tuple #[]∧WkF bw 68 M' Hout (XO (ZR.nd ⟨⟨⟨Za,Zb⟩,⟨Zf,Zh⟩,⟨Zj,Zi,Zg⟩,⟨Ze,Zd,Zc⟩⟩,Zr,Zs,ZH,Zv,ZT,ZC,ZA,Zw,Zq,Zy,Zp,Zz,⟨Zu,Zt,Zl⟩,ZG,ZJ⟩) l.lt)):=by
  obtain ⟨Yb,⟨ZM,Ye⟩,YB,l_id,⟨ZY,ZX,ZN⟩,Ys,⟨ZI,ZS⟩,⟨ZZ,ZV,ZL⟩⟩:=l
  simp only at hLp hk
  have Xl:SlK M (oneI .i64) 1 ⟨ZY,ZX,ZN⟩:=hl0.h0
  have Xb:SlK M ZF.segs 21 ⟨ZZ,ZV,ZL⟩:=hl0.h1
  have XT:=Xb.h1
  simp only at XT
  have WR:(ZL.map ZF.segs).length=ZL.length:=List.length_map ..
  have WS:ZL.length≤ZV:=Xb.h3
  refine Wt (fun H=>(bw,rowO (ZW.segs ⟨⟨⟨⟨Za,Zb⟩,⟨Zf,Zh⟩,⟨Zj,Zi,Zg⟩,⟨Ze,Zd,Zc⟩⟩,Zr,Zs,ZH,Zv,ZT,ZC,ZA,Zw,Zq,Zy,Zp,Zz,⟨Zu,Zt,Zl⟩,ZG,ZJ⟩,⟨none,0,[]⟩⟩) 68)::H) (fun _=>by simp only [List.append_assoc,List.cons_append,List.nil_append]) Tryz.func50 rfl Tryz.ntmps50 rfl ?_;intro H
  refine ZK (Zm (l:=[0]) rfl ?_)
  refine Xk ?_;intro b1
  refine Zo (Zn (Y_pk [3,0] ?_));refine C_region_anyW (l:=[0,1,2,3,4,5,6,7,8]) [8] #[0,0,2,6,0,16,0,112,255] (_) rfl (by kernel_rfl) (by kernel_rfl) St.drawn (fun _ h=>h) ?_;refine Zx ?_;refine Zk F.foff44_1 ?_;refine Zk F.foff25_0 ?_;refine ZD F.lay3 ?_;refine Zk F.foff44_2 ?_;refine ZD F.lay29 ?_;refine X_fs rfl rfl F.ok66 rfl (VG _) rfl ?_
  rintro _ rfl
  refine VA 10 rfl (show _=aggV [.one (.int .i64 (-1)),Yt 0] from rfl) ?_;refine Xr rfl rfl F.bld44 (.cons rfl (by constructor) (.cons rfl (by constructor) (.cons rfl (by constructor) .nil))) rfl rfl ?_;refine Vp rfl rfl rfl F.ok65 rfl (sendF_ok M bw Za Zb Zf Zh Zj Ze Zu Zi Zd Zt Zg Zc Zl Zr Zs ZH Zv ZT ZC ZA Zw Zq Zy Zp Zz ZG ZJ ZM ⟨7,⟨0,0⟩,YB,0,⟨none,0,[]⟩,false,⟨-1,0⟩,⟨none,0,[]⟩⟩) (by repeat first|exact Rem.here _|exact Rem.two|apply Rem.skip|apply Rem.over) (YV rfl) ?_
  rintro _ M2 hs2 hm2 ⟨rfl,⟨o9a,o9c,o9l⟩,rfl,k9o,hl9⟩
  simp only at hl9
  simp only [List.append_assoc,List.cons_append,List.nil_append]
  refine Zo (WP ?_)
  refine Yk (.inl rfl) (.nil) (fun w hw=>?_)
  have h3:XO (ZR.nd ⟨⟨⟨Za,Zb⟩,⟨Zf,Zh⟩,⟨Zj,Zi,Zg⟩,⟨Ze,Zd,Zc⟩⟩,Zr,Zs,ZH,Zv,ZT,ZC,ZA,Zw,Zq,Zy,Zp,Zz,⟨Zu,Zt,Zl⟩,ZG,ZJ⟩) (ZP.lt ⟨Yb,⟨ZM,Ye⟩,YB,l_id,⟨ZY,ZX,ZN⟩,Ys,⟨ZI,ZS⟩,⟨ZZ,ZV,ZL⟩⟩)=(ZR.nd ⟨⟨⟨Za,Zb⟩,⟨Zf,Zh⟩,⟨Zj,Zi,Zg⟩,⟨Ze,Zd,Zc⟩⟩,Zr,Zs,ZH,Zv,ZT,ZC,ZA,Zw,Zq,Zy,Zp,Zz,⟨Zu,Zt,Zl⟩,ZG,ZJ⟩,[Yr.snd (⟨ZM,(⟨7,⟨Za,Zb⟩,YB,0,⟨none,0,[]⟩,false,⟨-1,0⟩,⟨none,0,[]⟩⟩:ZP)⟩:Yr)]):=does6 hk
  refine ⟨_,M2,[(bw,rowO (ZW.segs ⟨⟨⟨⟨Za,Zb⟩,⟨Zf,Zh⟩,⟨Zj,Zi,Zg⟩,⟨Ze,Zd,Zc⟩⟩,Zr,Zs,ZH,Zv,ZT,ZC,ZA,Zw,Zq,Zy,Zp,Zz,⟨Zu,Zt,Zl⟩,ZG,ZJ⟩,⟨o9a,o9c,o9l⟩⟩) 68)],rfl,hm2,hw.c,rfl,⟨⟨⟨Za,Zb⟩,⟨Zf,Zh⟩,⟨Zj,Zi,Zg⟩,⟨Ze,Zd,Zc⟩⟩,Zr,Zs,ZH,Zv,ZT,ZC,ZA,Zw,Zq,Zy,Zp,Zz,⟨Zu,Zt,Zl⟩,ZG,ZJ⟩,⟨o9a,o9c,o9l⟩,rfl,?_,?_,⟨Yv.mono hm2,Yz.mono hm2⟩,k9o,fun y hy=>?_⟩
  ·rw [h3] <;> rfl
  ·rw [h3]
   show sndl o9l=_
   rw [hl9];rfl
  ·simp only at hy
   rw [hl9] at hy
   obtain rfl:=List.mem_singleton.1 hy
   exact ⟨⟨SlK.nil,SlK.nil⟩⟩
theorem pong_ok (M:Mem) (bw:Nat) (Za:Int) (Zb:Plc) (Zf:Int) (Zh:Plc) (Zj Ze Zu:Option Addr) (Zi Zd Zt:Nat) (Zg Zc:List ZF) (Zl:List Int) (Zr:Int) (Zs:Bool) (ZH Zv ZT ZC ZA Zw Zq Zy Zp:Int) (Zz:Plc) (ZG ZJ:Int) (Yv:ZQ.ok M ⟨⟨Za,Zb⟩,⟨Zf,Zh⟩,⟨Zj,Zi,Zg⟩,⟨Ze,Zd,Zc⟩⟩) (Yz:SlK M (oneI .i64) 1 ⟨Zu,Zt,Zl⟩) (hbig:Zg.length≤40∧Zc.length≤200) (hLa:Zl.length≤1000) (hh:0≤ZG∧ZG≤1000) (l:ZP) (hl0:ZP.ok M l) (hLp:l.peers.l.length≤1000) (hk:l.kind=7):Fh Tryz.prog 51 [.pointer (some ⟨bw,0,none⟩),l.enc] M [(bw,rowO (ZW.segs ⟨⟨⟨⟨Za,Zb⟩,⟨Zf,Zh⟩,⟨Zj,Zi,Zg⟩,⟨Ze,Zd,Zc⟩⟩,Zr,Zs,ZH,Zv,ZT,ZC,ZA,Zw,Zq,Zy,Zp,Zz,⟨Zu,Zt,Zl⟩,ZG,ZJ⟩,⟨none,0,[]⟩⟩) 68)] (fun M' v Hout=>v=.tuple #[]∧WkF bw 68 M' Hout (XO (ZR.nd ⟨⟨⟨Za,Zb⟩,⟨Zf,Zh⟩,⟨Zj,Zi,Zg⟩,⟨Ze,Zd,Zc⟩⟩,Zr,Zs,ZH,Zv,ZT,ZC,ZA,Zw,Zq,Zy,Zp,Zz,⟨Zu,Zt,Zl⟩,ZG,ZJ⟩) l.lt)):=by
  obtain ⟨Yb,⟨ZM,Ye⟩,YB,l_id,⟨ZY,ZX,ZN⟩,Ys,⟨ZI,ZS⟩,⟨ZZ,ZV,ZL⟩⟩:=l
  simp only at hLp hk
  have Xl:SlK M (oneI .i64) 1 ⟨ZY,ZX,ZN⟩:=hl0.h0
  have Xb:SlK M ZF.segs 21 ⟨ZZ,ZV,ZL⟩:=hl0.h1
  have XT:=Xb.h1
  simp only at XT
  have WR:(ZL.map ZF.segs).length=ZL.length:=List.length_map ..
  have WS:ZL.length≤ZV:=Xb.h3
  refine Wt (fun H=>(bw,rowO (ZW.segs ⟨⟨⟨⟨Za,Zb⟩,⟨Zf,Zh⟩,⟨Zj,Zi,Zg⟩,⟨Ze,Zd,Zc⟩⟩,Zr,Zs,ZH,Zv,ZT,ZC,ZA,Zw,Zq,Zy,Zp,Zz,⟨Zu,Zt,Zl⟩,ZG,ZJ⟩,⟨none,0,[]⟩⟩) 68)::H) (fun _=>by simp only [List.append_assoc,List.cons_append,List.nil_append]) Tryz.func51 rfl Tryz.ntmps51 rfl ?_;intro H
  refine ZK (Zm (l:=[0]) rfl ?_)
  refine Xk ?_;intro b1
  refine Zo (Zn (Y_pk [3,0] ?_));refine ZK (YK (l:=[0,1,2,3,4,5,6,7,8,9,10,11,12,13,14,15,16,17,18]) #[0,1,3,7,15,0,32,96,255,511,1023,2047,4095,8191,16383,1023,33791,131071,262143] _ rfl (by kernel_rfl) (by kernel_rfl) St.drawn (fun _ h=>h) ?_);refine Zx ?_;refine Yn ?_;refine Zk F.foff68_0 ?_;refine Zk F.foff32_8 ?_;refine ZD F.lay3 ?_;refine Zk F.foff44_1 ?_;refine Zk F.foff25_0 ?_;refine ZD F.lay3 ?_;refine YI ?_;refine Zx ?_
  refine Yj 13 rfl (fun hc2=>?_) (fun hc2=>?_)
  ·replace hc2:=dT hc2
   refine Zx ?_;refine Yn ?_;refine Zk F.foff68_0 ?_;refine Zk F.foff32_9 ?_;refine ZD F.lay29 ?_;refine Zk F.foff44_2 ?_;refine ZD F.lay29 ?_;refine YI ?_;refine ZO ?_;refine Zo (Zn (Y_pk [22,0] ?_))
   refine YA rfl (fun hc3=>?_) (fun hc3=>?_)
   ·replace hc3:=dT hc3
    refine Zm (l:=[0,1,2,3,4]) rfl ?_;refine Zx ?_;refine Yn ?_;refine Zk F.foff68_0 ?_;refine Zk F.foff32_8 ?_;refine Yh F.lay3 ?_;refine Zo ?_
    refine Yk (.inl rfl) (.nil) (fun w hw=>?_)
    have h3:XO (ZR.nd ⟨⟨⟨Za,Zb⟩,⟨Zf,Zh⟩,⟨Zj,Zi,Zg⟩,⟨Ze,Zd,Zc⟩⟩,Zr,Zs,ZH,Zv,ZT,ZC,ZA,Zw,Zq,Zy,Zp,Zz,⟨Zu,Zt,Zl⟩,ZG,ZJ⟩) (ZP.lt ⟨Yb,⟨ZM,Ye⟩,YB,l_id,⟨ZY,ZX,ZN⟩,Ys,⟨ZI,ZS⟩,⟨ZZ,ZV,ZL⟩⟩)=(ZR.nd ⟨⟨⟨Za,Zb⟩,⟨Zf,Zh⟩,⟨Zj,Zi,Zg⟩,⟨Ze,Zd,Zc⟩⟩,Zr,Zs,ZH,Zv,ZT,ZC,ZA,(-1),Zq,Zy,Zp,Zz,⟨Zu,Zt,Zl⟩,ZG,ZJ⟩,[]):=does7y hk (show Zw=ZM∧Zq=YB by constructor <;> first|assumption|omega)
    refine ⟨_,M,[(bw,rowO (ZW.segs ⟨⟨⟨⟨Za,Zb⟩,⟨Zf,Zh⟩,⟨Zj,Zi,Zg⟩,⟨Ze,Zd,Zc⟩⟩,Zr,Zs,ZH,Zv,ZT,ZC,ZA,(-1),Zq,Zy,Zp,Zz,⟨Zu,Zt,Zl⟩,ZG,ZJ⟩,⟨none,0,[]⟩⟩) 68)],rfl,Mem.le.refl M,hw.c,rfl,⟨⟨⟨Za,Zb⟩,⟨Zf,Zh⟩,⟨Zj,Zi,Zg⟩,⟨Ze,Zd,Zc⟩⟩,Zr,Zs,ZH,Zv,ZT,ZC,ZA,(-1),Zq,Zy,Zp,Zz,⟨Zu,Zt,Zl⟩,ZG,ZJ⟩,⟨none,0,[]⟩,rfl,?_,?_,⟨Yv,Yz⟩,SlK.nil,fun y hy=>by cases hy⟩
    ·rw [h3] <;> rfl
    ·rw [h3] <;> rfl
   ·replace hc3:=dF hc3
    refine YG ?_
    refine Yk (.inl rfl) (.nil) (fun w hw=>?_)
    have h3:XO (ZR.nd ⟨⟨⟨Za,Zb⟩,⟨Zf,Zh⟩,⟨Zj,Zi,Zg⟩,⟨Ze,Zd,Zc⟩⟩,Zr,Zs,ZH,Zv,ZT,ZC,ZA,Zw,Zq,Zy,Zp,Zz,⟨Zu,Zt,Zl⟩,ZG,ZJ⟩) (ZP.lt ⟨Yb,⟨ZM,Ye⟩,YB,l_id,⟨ZY,ZX,ZN⟩,Ys,⟨ZI,ZS⟩,⟨ZZ,ZV,ZL⟩⟩)=(ZR.nd ⟨⟨⟨Za,Zb⟩,⟨Zf,Zh⟩,⟨Zj,Zi,Zg⟩,⟨Ze,Zd,Zc⟩⟩,Zr,Zs,ZH,Zv,ZT,ZC,ZA,Zw,Zq,Zy,Zp,Zz,⟨Zu,Zt,Zl⟩,ZG,ZJ⟩,[]):=does7n hk (show ¬(Zw=ZM∧Zq=YB) by rintro ⟨q1,q2⟩;first|contradiction|omega)
    refine ⟨_,M,[(bw,rowO (ZW.segs ⟨⟨⟨⟨Za,Zb⟩,⟨Zf,Zh⟩,⟨Zj,Zi,Zg⟩,⟨Ze,Zd,Zc⟩⟩,Zr,Zs,ZH,Zv,ZT,ZC,ZA,Zw,Zq,Zy,Zp,Zz,⟨Zu,Zt,Zl⟩,ZG,ZJ⟩,⟨none,0,[]⟩⟩) 68)],rfl,Mem.le.refl M,hw.c,rfl,⟨⟨⟨Za,Zb⟩,⟨Zf,Zh⟩,⟨Zj,Zi,Zg⟩,⟨Ze,Zd,Zc⟩⟩,Zr,Zs,ZH,Zv,ZT,ZC,ZA,Zw,Zq,Zy,Zp,Zz,⟨Zu,Zt,Zl⟩,ZG,ZJ⟩,⟨none,0,[]⟩,rfl,?_,?_,⟨Yv,Yz⟩,SlK.nil,fun y hy=>by cases hy⟩
    ·rw [h3] <;> rfl
    ·rw [h3] <;> rfl
  ·replace hc2:=dF hc2
   iterate 8 refine Ya ?_
   refine ZO ?_;refine Zo (Zn (Y_pk [22,0] ?_));refine Wn rfl ?_;refine YG ?_
   refine Yk (.inl rfl) (.nil) (fun w hw=>?_)
   have h3:XO (ZR.nd ⟨⟨⟨Za,Zb⟩,⟨Zf,Zh⟩,⟨Zj,Zi,Zg⟩,⟨Ze,Zd,Zc⟩⟩,Zr,Zs,ZH,Zv,ZT,ZC,ZA,Zw,Zq,Zy,Zp,Zz,⟨Zu,Zt,Zl⟩,ZG,ZJ⟩) (ZP.lt ⟨Yb,⟨ZM,Ye⟩,YB,l_id,⟨ZY,ZX,ZN⟩,Ys,⟨ZI,ZS⟩,⟨ZZ,ZV,ZL⟩⟩)=(ZR.nd ⟨⟨⟨Za,Zb⟩,⟨Zf,Zh⟩,⟨Zj,Zi,Zg⟩,⟨Ze,Zd,Zc⟩⟩,Zr,Zs,ZH,Zv,ZT,ZC,ZA,Zw,Zq,Zy,Zp,Zz,⟨Zu,Zt,Zl⟩,ZG,ZJ⟩,[]):=does7n hk (show ¬(Zw=ZM∧Zq=YB) by rintro ⟨q1,q2⟩;first|contradiction|omega)
   refine ⟨_,M,[(bw,rowO (ZW.segs ⟨⟨⟨⟨Za,Zb⟩,⟨Zf,Zh⟩,⟨Zj,Zi,Zg⟩,⟨Ze,Zd,Zc⟩⟩,Zr,Zs,ZH,Zv,ZT,ZC,ZA,Zw,Zq,Zy,Zp,Zz,⟨Zu,Zt,Zl⟩,ZG,ZJ⟩,⟨none,0,[]⟩⟩) 68)],rfl,Mem.le.refl M,hw.c,rfl,⟨⟨⟨Za,Zb⟩,⟨Zf,Zh⟩,⟨Zj,Zi,Zg⟩,⟨Ze,Zd,Zc⟩⟩,Zr,Zs,ZH,Zv,ZT,ZC,ZA,Zw,Zq,Zy,Zp,Zz,⟨Zu,Zt,Zl⟩,ZG,ZJ⟩,⟨none,0,[]⟩,rfl,?_,?_,⟨Yv,Yz⟩,SlK.nil,fun y hy=>by cases hy⟩
   ·rw [h3] <;> rfl
   ·rw [h3] <;> rfl
end Go.Proofs.YtajmnjefajknoaaGreat
