/-
  Texts of this claim, one behind the other: E8, E9, InsL, E10, E11, E12, E13, E14, TableX, NodeX, F1, F2, F3, TableN, NodeL, F4, F5.
-/
import Derived.Test.YtajmnjefajknoaaGreatQL53
import Derived.KernelRfl
set_option linter.unusedSimpArgs false
set_option linter.unusedVariables false
set_option linter.unnecessarySimpa false
set_option maxRecDepth 8000
set_option maxHeartbeats 1000000
namespace Go.Proofs.YtajmnjefajknoaaGreat
open Go.Esp
theorem F.ok107:okFn Tryz.prog 107=true:=by kernel_rfl
theorem find_ok (M:Mem) (bw:Nat) (Za:Int) (Zc:Plc) (Zf:Int) (Zh:Plc) (Zj Ze Zp:Option Addr) (Zi Zd Zo:Nat) (Zg Zb:List ZE) (Zl:List Int) (Zs:Int) (Zr:Bool) (ZF Zz ZM ZB Zv Zu Zn Zy Zm:Int) (Zw:Plc) (ZD ZG:Int) (Yk:ZT.ok M ⟨⟨Za,Zc⟩,⟨Zf,Zh⟩,⟨Zj,Zi,Zg⟩,⟨Ze,Zd,Zb⟩⟩) (Yr:SlK M (oneI .i64) 1 ⟨Zp,Zo,Zl⟩) (hbig:Zg.length≤40∧Zb.length≤200) (hLa:Zl.length≤1000) (hh:0≤ZD∧ZD≤1000) (l:ZQ) (hl0:ZQ.ok M l) (hLp:l.peers.l.length≤1000) (hk:l.kind=1):Fh Tryz.prog 45 [.pointer (some ⟨bw,0,none⟩),l.enc] M [(bw,rowO (ZR.segs ⟨⟨⟨⟨Za,Zc⟩,⟨Zf,Zh⟩,⟨Zj,Zi,Zg⟩,⟨Ze,Zd,Zb⟩⟩,Zs,Zr,ZF,Zz,ZM,ZB,Zv,Zu,Zn,Zy,Zm,Zw,⟨Zp,Zo,Zl⟩,ZD,ZG⟩,⟨none,0,[]⟩⟩) 68)] (fun M' v Hout=>v=.tuple #[]∧WkF bw 68 M' Hout (XS (ZP.nd ⟨⟨⟨Za,Zc⟩,⟨Zf,Zh⟩,⟨Zj,Zi,Zg⟩,⟨Ze,Zd,Zb⟩⟩,Zs,Zr,ZF,Zz,ZM,ZB,Zv,Zu,Zn,Zy,Zm,Zw,⟨Zp,Zo,Zl⟩,ZD,ZG⟩) l.lt)):=by
  obtain ⟨ZZ,⟨ZN,Yq⟩,YG,l_id,⟨Yc,Yb,ZO⟩,YB,⟨ZL,ZV⟩,⟨Ya,ZX,ZK⟩⟩:=l
  simp only at hLp hk
  have Xm:SlK M (oneI .i64) 1 ⟨Yc,Yb,ZO⟩:=hl0.h0
  have YX:SlK M ZE.segs 21 ⟨Ya,ZX,ZK⟩:=hl0.h1
  have XP:=YX.h1
  simp only at XP
  have WI:(ZK.map ZE.segs).length=ZK.length:=List.length_map ..
  have WJ:ZK.length≤ZX:=YX.h3
  refine XQ (fun H=>(bw,rowO (ZR.segs ⟨⟨⟨⟨Za,Zc⟩,⟨Zf,Zh⟩,⟨Zj,Zi,Zg⟩,⟨Ze,Zd,Zb⟩⟩,Zs,Zr,ZF,Zz,ZM,ZB,Zv,Zu,Zn,Zy,Zm,Zw,⟨Zp,Zo,Zl⟩,ZD,ZG⟩,⟨none,0,[]⟩⟩) 68)::H) (fun _=>by simp only [List.append_assoc,List.cons_append,List.nil_append]) Tryz.func45 rfl Tryz.ntmps45 rfl ?_;intro H
  refine ZJ (Zq (l:=[0]) rfl ?_)
  refine Xk ?_;intro b1
  refine Zx (Zt (Y_pk [3,0] ?_))
  iterate 2 refine ZJ ?_
  refine Zq (l:=[0,1,2,3,4,5]) rfl ?_;refine ZA ?_;refine ZU ?_;refine Zk F.foff68_0 ?_;refine Zk F.foff32_2 ?_;refine ZI F.lay4 ?_;refine XA ?_;refine Zx (Zt (Y_pk [12,3,0] ?_))
  refine YA rfl (fun hc2=>?_) (fun hc2=>?_)
  ·skip
   refine Yu (YY ?_)
   refine Yj (.inr rfl) (.nil) (fun w hw=>?_)
   have h3:XS (ZP.nd ⟨⟨⟨Za,Zc⟩,⟨Zf,Zh⟩,⟨Zj,Zi,Zg⟩,⟨Ze,Zd,Zb⟩⟩,Zs,Zr,ZF,Zz,ZM,ZB,Zv,Zu,Zn,Zy,Zm,Zw,⟨Zp,Zo,Zl⟩,ZD,ZG⟩) (ZQ.lt ⟨ZZ,⟨ZN,Yq⟩,YG,l_id,⟨Yc,Yb,ZO⟩,YB,⟨ZL,ZV⟩,⟨Ya,ZX,ZK⟩⟩)=((ZP.nd ⟨⟨⟨Za,Zc⟩,⟨Zf,Zh⟩,⟨Zj,Zi,Zg⟩,⟨Ze,Zd,Zb⟩⟩,Zs,Zr,ZF,Zz,ZM,ZB,Zv,Zu,Zn,Zy,Zm,Zw,⟨Zp,Zo,Zl⟩,ZD,ZG⟩),[]):=(does1 hk).trans (congrArg (Prod.mk (ZP.nd ⟨⟨⟨Za,Zc⟩,⟨Zf,Zh⟩,⟨Zj,Zi,Zg⟩,⟨Ze,Zd,Zb⟩⟩,Zs,Zr,ZF,Zz,ZM,ZB,Zv,Zu,Zn,Zy,Zm,Zw,⟨Zp,Zo,Zl⟩,ZD,ZG⟩)) (find_no (show Zr=false by first|assumption|(simp_all;done))))
   refine ⟨_,M,[(bw,rowO (ZR.segs ⟨⟨⟨⟨Za,Zc⟩,⟨Zf,Zh⟩,⟨Zj,Zi,Zg⟩,⟨Ze,Zd,Zb⟩⟩,Zs,Zr,ZF,Zz,ZM,ZB,Zv,Zu,Zn,Zy,Zm,Zw,⟨Zp,Zo,Zl⟩,ZD,ZG⟩,⟨none,0,[]⟩⟩) 68)],rfl,Mem.le.refl M,hw.c,rfl,⟨⟨⟨Za,Zc⟩,⟨Zf,Zh⟩,⟨Zj,Zi,Zg⟩,⟨Ze,Zd,Zb⟩⟩,Zs,Zr,ZF,Zz,ZM,ZB,Zv,Zu,Zn,Zy,Zm,Zw,⟨Zp,Zo,Zl⟩,ZD,ZG⟩,⟨none,0,[]⟩,rfl,?_,?_,⟨Yk,Yr⟩,SlK.nil,fun y hy=>by cases hy⟩
   ·rw [h3] <;> rfl
   ·rw [h3] <;> rfl
  ·skip
   refine Yz (Zt (Y_pk [3,0] ?_));refine ZJ (Zq (l:=[0,1,2,3,4]) rfl ?_);refine Zk F.foff44_2 ?_;refine ZI F.lay29 ?_;refine Xq rfl rfl F.bld44 (.cons rfl (by constructor) (.cons rfl (by constructor) .nil)) rfl rfl ?_
   refine YW F.zero44 ?_;intro b3
   refine X_store rfl rfl rfl rfl (by constructor) (by ((try simp only [cat,List.cons_append,List.nil_append,List.append_nil]);(repeat (first|exact XV|refine XU ?_|(refine YE ?_ ?_;rfl)));done)) (by repeat first|exact Upd.head|apply Upd.tail|apply Upd.over) F.lay44 (by simp only [ZE.segs,ZT.segs,ZP.segs,ZQ.segs,Yw.segs,ZR.segs,YM.segs,ZY.segs,cat,List.append_eq,List.cons_append,List.nil_append,List.append_nil,Segs.len,Seg.len,Yn]) (put_all (m:=67) rfl (by simp only [ZE.segs,ZT.segs,ZP.segs,ZQ.segs,Yw.segs,ZR.segs,YM.segs,ZY.segs,cat,List.append_eq,List.cons_append,List.nil_append,List.append_nil,Segs.len,Seg.len,Yn]) (by simp only [ZE.segs,ZT.segs,ZP.segs,ZQ.segs,Yw.segs,ZR.segs,YM.segs,ZY.segs,cat,List.append_eq,List.cons_append,List.nil_append,List.append_nil,Segs.len,Seg.len,Yn])) ?_
   refine Zx (Zt (Y_pk [4,3,0] ?_));refine ZJ (YF (l:=[0,1,2,3,4,5,6,7,8,9,10,11,12,13,14]) #[0,1,3,7,15,0,32,127,255,511,511,1023,3071,8191,16383] _ rfl (by kernel_rfl) (by kernel_rfl) St.drawn (fun _ h=>h) ?_);refine ZA ?_;refine ZU ?_;refine Zk F.foff68_0 ?_;refine Zk F.foff32_0 ?_;refine ZI F.lay28 ?_;refine Zk F.foff44_3 ?_;refine ZI F.lay23 ?_;refine X_fs rfl rfl F.ok19 rfl (Done_ok _ ⟨⟨Za,Zc⟩,⟨Zf,Zh⟩,⟨Zj,Zi,Zg⟩,⟨Ze,Zd,Zb⟩⟩ l_id Yk) rfl ?_
   rintro _ rfl
   obtain ⟨⟨⟨da,di⟩,db⟩,hd⟩:∃ x,VV (ZT.tb ⟨⟨Za,Zc⟩,⟨Zf,Zh⟩,⟨Zj,Zi,Zg⟩,⟨Ze,Zd,Zb⟩⟩) l_id=x:=⟨_,rfl⟩
   rw [hd]
   refine ZA ?_
   iterate 2 refine XF ?_
   refine Zk F.foff44_6 ?_;refine Yi F.lay25 ?_;refine Zk F.foff44_5 ?_;refine Yi F.lay4 ?_;refine Zx (Zt (Y_pk [4,3,0] ?_))
   iterate 2 refine ZJ ?_
   refine YF (l:=[0,1,2,3,4,5,6,7,8,9,10,11,12,13,14,15]) #[0,1,3,7,15,0,32,0,128,511,1023,2047,2047,0,12287,32767] _ rfl (by kernel_rfl) (by kernel_rfl) St.drawn (fun _ h=>h) ?_;refine ZA ?_;refine ZU ?_;refine Zk F.foff68_0 ?_;refine Zk F.foff32_0 ?_;refine ZI F.lay28 ?_;refine Zk F.foff44_3 ?_;refine ZI F.lay23 ?_;refine Zk F.foff44_4 ?_;refine ZI F.lay30 ?_;refine X_fn rfl rfl F.ok88 rfl (Nearest_ok _ ⟨⟨Za,Zc⟩,⟨Zf,Zh⟩,⟨Zj,Zi,Zg⟩,⟨Ze,Zd,Zb⟩⟩ l_id ⟨Yc,Yb,ZO⟩ Yk Xm hbig) rfl ?_
   rintro _ M1 hm1 rfl
   obtain ⟨⟨⟨qa,qi⟩,qb⟩,hq⟩:∃ x,WF (ZT.tb ⟨⟨Za,Zc⟩,⟨Zf,Zh⟩,⟨Zj,Zi,Zg⟩,⟨Ze,Zd,Zb⟩⟩) l_id (⟨Yc,Yb,ZO⟩:Sl Int).l=x:=⟨_,rfl⟩
   rw [hq]
   refine ZA ?_
   iterate 2 refine XF ?_
   refine YW F.zero25 ?_;intro b4
   refine Yi F.lay25 ?_;refine ZC ?_;refine Zx (Zt (Y_pk [6,5,4,3,0] ?_));refine ZJ (Zq (l:=[0,1,2]) rfl ?_);refine Zk F.foff44_5 ?_;refine ZI F.lay4 ?_;refine XA ?_;refine Zx (Zt (Y_pk [44,6,5,4,3,0] ?_))
   refine YA rfl (fun hc5=>?_) (fun hc5=>?_)
   ·skip
    simp only [ZE.eta,ZT.eta,ZP.eta,ZQ.eta,Yw.eta,ZR.eta,YM.eta,ZY.eta] at hc5
    iterate 2 refine ZJ ?_
    refine Zq (l:=[0]) rfl ?_;refine ZA ?_;refine Zx (Zt (Y_pk [45,6,5,4,3,0] ?_))
    refine YA rfl (fun hc6=>?_) (fun hc6=>?_)
    ·skip
     simp only [ZE.eta,ZT.eta,ZP.eta,ZQ.eta,Yw.eta,ZR.eta,YM.eta,ZY.eta] at hc6
     refine Zq (l:=[0,1,2]) rfl ?_;refine ZI F.lay25 ?_;refine Zk F.foff44_6 ?_;refine Yi F.lay25 ?_;refine Zx (Zt (Y_pk [6,4,3,0] ?_));refine Zq (l:=[0,1,2,3]) rfl ?_;refine ZA ?_;refine XA ?_;refine Zk F.foff44_5 ?_;refine Yi F.lay4 ?_;refine Zx (Zt (Y_pk [4,3,0] ?_));refine Xn (l:=[0,1,2,3,4,5]) [5] rfl ?_;refine ZA ?_;refine Zk F.foff44_1 ?_;refine Zk F.foff25_0 ?_;refine ZI F.lay3 ?_;refine ZI F.lay44 ?_;refine WA rfl rfl rfl F.ok65 rfl (sendF_ok M1 bw Za Zc Zf Zh Zj Ze Zp Zi Zd Zo Zg Zb Zl Zs Zr ZF Zz ZM ZB Zv Zu Zn Zy Zm Zw ZD ZG ZN ⟨2,⟨0,0⟩,YG,0,⟨none,0,[]⟩,(!qb),⟨qa,qi⟩,⟨none,0,[]⟩⟩) (by repeat first|exact Rem.here _|exact Rem.two|apply Rem.skip|apply Rem.over) (Yv rfl) ?_
     rintro _ M2 hs2 hm2 ⟨rfl,⟨o9a,o9c,o9l⟩,rfl,k9o,hl9⟩
     simp only at hl9
     simp only [List.append_assoc,List.cons_append,List.nil_append]
     refine Zx (Wl ?_)
     refine Yj (.inl rfl) (.nil) (fun w hw=>?_)
     obtain rfl:db=false:=by first|assumption|(simp_all;done)
     obtain rfl:qb=true:=by first|assumption|(simp_all;done)
     have h3:XS (ZP.nd ⟨⟨⟨Za,Zc⟩,⟨Zf,Zh⟩,⟨Zj,Zi,Zg⟩,⟨Ze,Zd,Zb⟩⟩,Zs,Zr,ZF,Zz,ZM,ZB,Zv,Zu,Zn,Zy,Zm,Zw,⟨Zp,Zo,Zl⟩,ZD,ZG⟩) (ZQ.lt ⟨ZZ,⟨ZN,Yq⟩,YG,l_id,⟨Yc,Yb,ZO⟩,YB,⟨ZL,ZV⟩,⟨Ya,ZX,ZK⟩⟩)=(ZP.nd ⟨⟨⟨Za,Zc⟩,⟨Zf,Zh⟩,⟨Zj,Zi,Zg⟩,⟨Ze,Zd,Zb⟩⟩,Zs,Zr,ZF,Zz,ZM,ZB,Zv,Zu,Zn,Zy,Zm,Zw,⟨Zp,Zo,Zl⟩,ZD,ZG⟩,[Yw.snd (⟨ZN,(⟨2,⟨Za,Zc⟩,YG,0,⟨none,0,[]⟩,false,⟨qa,qi⟩,⟨none,0,[]⟩⟩:ZQ)⟩:Yw)]):=(does1 hk).trans (congrArg (Prod.mk (ZP.nd ⟨⟨⟨Za,Zc⟩,⟨Zf,Zh⟩,⟨Zj,Zi,Zg⟩,⟨Ze,Zd,Zb⟩⟩,Zs,Zr,ZF,Zz,ZM,ZB,Zv,Zu,Zn,Zy,Zm,Zw,⟨Zp,Zo,Zl⟩,ZD,ZG⟩)) ((find_yes (n:=(ZP.nd ⟨⟨⟨Za,Zc⟩,⟨Zf,Zh⟩,⟨Zj,Zi,Zg⟩,⟨Ze,Zd,Zb⟩⟩,Zs,Zr,ZF,Zz,ZM,ZB,Zv,Zu,Zn,Zy,Zm,Zw,⟨Zp,Zo,Zl⟩,ZD,ZG⟩)) (l:=(ZQ.lt ⟨ZZ,⟨ZN,Yq⟩,YG,l_id,⟨Yc,Yb,ZO⟩,YB,⟨ZL,ZV⟩,⟨Ya,ZX,ZK⟩⟩)) (show Zr=true by first|assumption|(simp_all;done)) hd hq).trans rfl))
     refine ⟨_,M2,[(bw,rowO (ZR.segs ⟨⟨⟨⟨Za,Zc⟩,⟨Zf,Zh⟩,⟨Zj,Zi,Zg⟩,⟨Ze,Zd,Zb⟩⟩,Zs,Zr,ZF,Zz,ZM,ZB,Zv,Zu,Zn,Zy,Zm,Zw,⟨Zp,Zo,Zl⟩,ZD,ZG⟩,⟨o9a,o9c,o9l⟩⟩) 68)],rfl,(hm1.trans hm2),hw.c,rfl,⟨⟨⟨Za,Zc⟩,⟨Zf,Zh⟩,⟨Zj,Zi,Zg⟩,⟨Ze,Zd,Zb⟩⟩,Zs,Zr,ZF,Zz,ZM,ZB,Zv,Zu,Zn,Zy,Zm,Zw,⟨Zp,Zo,Zl⟩,ZD,ZG⟩,⟨o9a,o9c,o9l⟩,rfl,?_,?_,⟨(Yk.mono hm1).mono hm2,(Yr.mono hm1).mono hm2⟩,k9o,fun y hy=>?_⟩
     ·rw [h3] <;> rfl
     ·rw [h3]
      show sndl o9l=_
      rw [hl9];rfl
     ·simp only at hy
      rw [hl9] at hy
      obtain rfl:=List.mem_singleton.1 hy
      exact ⟨⟨SlK.nil,SlK.nil⟩⟩
    ·skip
     simp only [ZE.eta,ZT.eta,ZP.eta,ZQ.eta,Yw.eta,ZR.eta,YM.eta,ZY.eta] at hc6
     refine Yz (Zt (Y_pk [6,4,3,0] ?_));refine Zq (l:=[0,1,2,3]) rfl ?_;refine ZA ?_;refine XA ?_;refine Zk F.foff44_5 ?_;refine Yi F.lay4 ?_;refine Zx (Zt (Y_pk [4,3,0] ?_));refine Xn (l:=[0,1,2,3,4,5]) [5] rfl ?_;refine ZA ?_;refine Zk F.foff44_1 ?_;refine Zk F.foff25_0 ?_;refine ZI F.lay3 ?_;refine ZI F.lay44 ?_;refine WA rfl rfl rfl F.ok65 rfl (sendF_ok M1 bw Za Zc Zf Zh Zj Ze Zp Zi Zd Zo Zg Zb Zl Zs Zr ZF Zz ZM ZB Zv Zu Zn Zy Zm Zw ZD ZG ZN ⟨2,⟨0,0⟩,YG,0,⟨none,0,[]⟩,(!qb),⟨da,di⟩,⟨none,0,[]⟩⟩) (by repeat first|exact Rem.here _|exact Rem.two|apply Rem.skip|apply Rem.over) (Yv rfl) ?_
     rintro _ M2 hs2 hm2 ⟨rfl,⟨o9a,o9c,o9l⟩,rfl,k9o,hl9⟩
     simp only at hl9
     simp only [List.append_assoc,List.cons_append,List.nil_append]
     refine Zx (Wl ?_)
     refine Yj (.inl rfl) (.nil) (fun w hw=>?_)
     obtain rfl:db=false:=by first|assumption|(simp_all;done)
     obtain rfl:qb=false:=by first|assumption|(simp_all;done)
     have h3:XS (ZP.nd ⟨⟨⟨Za,Zc⟩,⟨Zf,Zh⟩,⟨Zj,Zi,Zg⟩,⟨Ze,Zd,Zb⟩⟩,Zs,Zr,ZF,Zz,ZM,ZB,Zv,Zu,Zn,Zy,Zm,Zw,⟨Zp,Zo,Zl⟩,ZD,ZG⟩) (ZQ.lt ⟨ZZ,⟨ZN,Yq⟩,YG,l_id,⟨Yc,Yb,ZO⟩,YB,⟨ZL,ZV⟩,⟨Ya,ZX,ZK⟩⟩)=(ZP.nd ⟨⟨⟨Za,Zc⟩,⟨Zf,Zh⟩,⟨Zj,Zi,Zg⟩,⟨Ze,Zd,Zb⟩⟩,Zs,Zr,ZF,Zz,ZM,ZB,Zv,Zu,Zn,Zy,Zm,Zw,⟨Zp,Zo,Zl⟩,ZD,ZG⟩,[Yw.snd (⟨ZN,(⟨2,⟨Za,Zc⟩,YG,0,⟨none,0,[]⟩,true,⟨da,di⟩,⟨none,0,[]⟩⟩:ZQ)⟩:Yw)]):=(does1 hk).trans (congrArg (Prod.mk (ZP.nd ⟨⟨⟨Za,Zc⟩,⟨Zf,Zh⟩,⟨Zj,Zi,Zg⟩,⟨Ze,Zd,Zb⟩⟩,Zs,Zr,ZF,Zz,ZM,ZB,Zv,Zu,Zn,Zy,Zm,Zw,⟨Zp,Zo,Zl⟩,ZD,ZG⟩)) ((find_yes (n:=(ZP.nd ⟨⟨⟨Za,Zc⟩,⟨Zf,Zh⟩,⟨Zj,Zi,Zg⟩,⟨Ze,Zd,Zb⟩⟩,Zs,Zr,ZF,Zz,ZM,ZB,Zv,Zu,Zn,Zy,Zm,Zw,⟨Zp,Zo,Zl⟩,ZD,ZG⟩)) (l:=(ZQ.lt ⟨ZZ,⟨ZN,Yq⟩,YG,l_id,⟨Yc,Yb,ZO⟩,YB,⟨ZL,ZV⟩,⟨Ya,ZX,ZK⟩⟩)) (show Zr=true by first|assumption|(simp_all;done)) hd hq).trans rfl))
     refine ⟨_,M2,[(bw,rowO (ZR.segs ⟨⟨⟨⟨Za,Zc⟩,⟨Zf,Zh⟩,⟨Zj,Zi,Zg⟩,⟨Ze,Zd,Zb⟩⟩,Zs,Zr,ZF,Zz,ZM,ZB,Zv,Zu,Zn,Zy,Zm,Zw,⟨Zp,Zo,Zl⟩,ZD,ZG⟩,⟨o9a,o9c,o9l⟩⟩) 68)],rfl,(hm1.trans hm2),hw.c,rfl,⟨⟨⟨Za,Zc⟩,⟨Zf,Zh⟩,⟨Zj,Zi,Zg⟩,⟨Ze,Zd,Zb⟩⟩,Zs,Zr,ZF,Zz,ZM,ZB,Zv,Zu,Zn,Zy,Zm,Zw,⟨Zp,Zo,Zl⟩,ZD,ZG⟩,⟨o9a,o9c,o9l⟩,rfl,?_,?_,⟨(Yk.mono hm1).mono hm2,(Yr.mono hm1).mono hm2⟩,k9o,fun y hy=>?_⟩
     ·rw [h3] <;> rfl
     ·rw [h3]
      show sndl o9l=_
      rw [hl9];rfl
     ·simp only at hy
      rw [hl9] at hy
      obtain rfl:=List.mem_singleton.1 hy
      exact ⟨⟨SlK.nil,SlK.nil⟩⟩
   ·skip
    simp only [ZE.eta,ZT.eta,ZP.eta,ZQ.eta,Yw.eta,ZR.eta,YM.eta,ZY.eta] at hc5
    refine Yz (Zt (Y_pk [4,3,0] ?_));refine Xn (l:=[0,1,2,3,4,5]) [5] rfl ?_;refine ZA ?_;refine Zk F.foff44_1 ?_;refine Zk F.foff25_0 ?_;refine ZI F.lay3 ?_;refine ZI F.lay44 ?_;refine WA rfl rfl rfl F.ok65 rfl (sendF_ok M1 bw Za Zc Zf Zh Zj Ze Zp Zi Zd Zo Zg Zb Zl Zs Zr ZF Zz ZM ZB Zv Zu Zn Zy Zm Zw ZD ZG ZN ⟨2,⟨0,0⟩,YG,0,⟨none,0,[]⟩,db,⟨da,di⟩,⟨none,0,[]⟩⟩) (by repeat first|exact Rem.here _|exact Rem.two|apply Rem.skip|apply Rem.over) (Yv rfl) ?_
    rintro _ M2 hs2 hm2 ⟨rfl,⟨o9a,o9c,o9l⟩,rfl,k9o,hl9⟩
    simp only at hl9
    simp only [List.append_assoc,List.cons_append,List.nil_append]
    refine Zx (Wl ?_)
    refine Yj (.inl rfl) (.nil) (fun w hw=>?_)
    obtain rfl:db=true:=by first|assumption|(simp_all;done)
    have h3:XS (ZP.nd ⟨⟨⟨Za,Zc⟩,⟨Zf,Zh⟩,⟨Zj,Zi,Zg⟩,⟨Ze,Zd,Zb⟩⟩,Zs,Zr,ZF,Zz,ZM,ZB,Zv,Zu,Zn,Zy,Zm,Zw,⟨Zp,Zo,Zl⟩,ZD,ZG⟩) (ZQ.lt ⟨ZZ,⟨ZN,Yq⟩,YG,l_id,⟨Yc,Yb,ZO⟩,YB,⟨ZL,ZV⟩,⟨Ya,ZX,ZK⟩⟩)=(ZP.nd ⟨⟨⟨Za,Zc⟩,⟨Zf,Zh⟩,⟨Zj,Zi,Zg⟩,⟨Ze,Zd,Zb⟩⟩,Zs,Zr,ZF,Zz,ZM,ZB,Zv,Zu,Zn,Zy,Zm,Zw,⟨Zp,Zo,Zl⟩,ZD,ZG⟩,[Yw.snd (⟨ZN,(⟨2,⟨Za,Zc⟩,YG,0,⟨none,0,[]⟩,true,⟨da,di⟩,⟨none,0,[]⟩⟩:ZQ)⟩:Yw)]):=(does1 hk).trans (congrArg (Prod.mk (ZP.nd ⟨⟨⟨Za,Zc⟩,⟨Zf,Zh⟩,⟨Zj,Zi,Zg⟩,⟨Ze,Zd,Zb⟩⟩,Zs,Zr,ZF,Zz,ZM,ZB,Zv,Zu,Zn,Zy,Zm,Zw,⟨Zp,Zo,Zl⟩,ZD,ZG⟩)) ((find_yes (n:=(ZP.nd ⟨⟨⟨Za,Zc⟩,⟨Zf,Zh⟩,⟨Zj,Zi,Zg⟩,⟨Ze,Zd,Zb⟩⟩,Zs,Zr,ZF,Zz,ZM,ZB,Zv,Zu,Zn,Zy,Zm,Zw,⟨Zp,Zo,Zl⟩,ZD,ZG⟩)) (l:=(ZQ.lt ⟨ZZ,⟨ZN,Yq⟩,YG,l_id,⟨Yc,Yb,ZO⟩,YB,⟨ZL,ZV⟩,⟨Ya,ZX,ZK⟩⟩)) (show Zr=true by first|assumption|(simp_all;done)) hd hq).trans rfl))
    refine ⟨_,M2,[(bw,rowO (ZR.segs ⟨⟨⟨⟨Za,Zc⟩,⟨Zf,Zh⟩,⟨Zj,Zi,Zg⟩,⟨Ze,Zd,Zb⟩⟩,Zs,Zr,ZF,Zz,ZM,ZB,Zv,Zu,Zn,Zy,Zm,Zw,⟨Zp,Zo,Zl⟩,ZD,ZG⟩,⟨o9a,o9c,o9l⟩⟩) 68)],rfl,(hm1.trans hm2),hw.c,rfl,⟨⟨⟨Za,Zc⟩,⟨Zf,Zh⟩,⟨Zj,Zi,Zg⟩,⟨Ze,Zd,Zb⟩⟩,Zs,Zr,ZF,Zz,ZM,ZB,Zv,Zu,Zn,Zy,Zm,Zw,⟨Zp,Zo,Zl⟩,ZD,ZG⟩,⟨o9a,o9c,o9l⟩,rfl,?_,?_,⟨(Yk.mono hm1).mono hm2,(Yr.mono hm1).mono hm2⟩,k9o,fun y hy=>?_⟩
    ·rw [h3] <;> rfl
    ·rw [h3]
     show sndl o9l=_
     rw [hl9];rfl
    ·simp only at hy
     rw [hl9] at hy
     obtain rfl:=List.mem_singleton.1 hy
     exact ⟨⟨SlK.nil,SlK.nil⟩⟩
theorem ask_ok (M:Mem) (bw:Nat) (Za:Int) (Zc:Plc) (Zf:Int) (Zh:Plc) (Zj Ze Zp:Option Addr) (Zi Zd Zo:Nat) (Zg Zb:List ZE) (Zl:List Int) (Zs:Int) (Zr:Bool) (ZF Zz ZM ZB Zv Zu Zn Zy Zm:Int) (Zw:Plc) (ZD ZG:Int) (Yk:ZT.ok M ⟨⟨Za,Zc⟩,⟨Zf,Zh⟩,⟨Zj,Zi,Zg⟩,⟨Ze,Zd,Zb⟩⟩) (Yr:SlK M (oneI .i64) 1 ⟨Zp,Zo,Zl⟩) (hbig:Zg.length≤40∧Zb.length≤200) (hLa:Zl.length≤1000) (hh:0≤ZD∧ZD≤1000) (l:ZQ) (hl0:ZQ.ok M l) (hLp:l.peers.l.length≤1000) (hk:l.kind=3):Fh Tryz.prog 47 [.pointer (some ⟨bw,0,none⟩),l.enc] M [(bw,rowO (ZR.segs ⟨⟨⟨⟨Za,Zc⟩,⟨Zf,Zh⟩,⟨Zj,Zi,Zg⟩,⟨Ze,Zd,Zb⟩⟩,Zs,Zr,ZF,Zz,ZM,ZB,Zv,Zu,Zn,Zy,Zm,Zw,⟨Zp,Zo,Zl⟩,ZD,ZG⟩,⟨none,0,[]⟩⟩) 68)] (fun M' v Hout=>v=.tuple #[]∧WkF bw 68 M' Hout (XS (ZP.nd ⟨⟨⟨Za,Zc⟩,⟨Zf,Zh⟩,⟨Zj,Zi,Zg⟩,⟨Ze,Zd,Zb⟩⟩,Zs,Zr,ZF,Zz,ZM,ZB,Zv,Zu,Zn,Zy,Zm,Zw,⟨Zp,Zo,Zl⟩,ZD,ZG⟩) l.lt)):=by
  obtain ⟨ZZ,⟨ZN,Yq⟩,YG,l_id,⟨Yc,Yb,ZO⟩,YB,⟨ZL,ZV⟩,⟨Ya,ZX,ZK⟩⟩:=l
  simp only at hLp hk
  have Xm:SlK M (oneI .i64) 1 ⟨Yc,Yb,ZO⟩:=hl0.h0
  have YX:SlK M ZE.segs 21 ⟨Ya,ZX,ZK⟩:=hl0.h1
  have XP:=YX.h1
  simp only at XP
  have WI:(ZK.map ZE.segs).length=ZK.length:=List.length_map ..
  have WJ:ZK.length≤ZX:=YX.h3
  refine XQ (fun H=>(bw,rowO (ZR.segs ⟨⟨⟨⟨Za,Zc⟩,⟨Zf,Zh⟩,⟨Zj,Zi,Zg⟩,⟨Ze,Zd,Zb⟩⟩,Zs,Zr,ZF,Zz,ZM,ZB,Zv,Zu,Zn,Zy,Zm,Zw,⟨Zp,Zo,Zl⟩,ZD,ZG⟩,⟨none,0,[]⟩⟩) 68)::H) (fun _=>by simp only [List.append_assoc,List.cons_append,List.nil_append]) Tryz.func47 rfl Tryz.ntmps47 rfl ?_;intro H
  refine ZJ (Zq (l:=[0]) rfl ?_)
  refine Xk ?_;intro b1
  refine Zx (Zt (Y_pk [3,0] ?_));refine ZJ (Zq (l:=[0,1,2,3,4]) rfl ?_);refine ZA ?_;refine ZU ?_;refine Zk F.foff68_0 ?_;refine Zk F.foff32_2 ?_;refine ZI F.lay4 ?_;refine Zx (Zt (Y_pk [8,3,0] ?_))
  refine YA rfl (fun hc2=>?_) (fun hc2=>?_)
  ·skip
   refine C_region_anyW (l:=[0,1,2,3,4,5,6,7,8,9,10,11,12,13,14,15,16,17,18,19]) [19] #[0,0,2,6,0,16,0,64,192,448,960,1984,0,4096,12288,28672,61440,126976,262128,524287] (_) rfl (by kernel_rfl) (by kernel_rfl) St.drawn (fun _ h=>h) ?_;refine ZA ?_;refine Zk F.foff44_1 ?_;refine Zk F.foff25_0 ?_;refine ZI F.lay3 ?_;refine Zk F.foff44_2 ?_;refine ZI F.lay29 ?_;refine ZA ?_;refine ZU ?_;refine Zk F.foff68_0 ?_;refine Zk F.foff32_0 ?_;refine Zk F.foff28_1 ?_;refine ZI F.lay25 ?_;refine ZA ?_;refine ZU ?_;refine Zk F.foff68_0 ?_;refine Zk F.foff32_0 ?_;refine Zk F.foff28_2 ?_;refine ZI F.lay26 ?_;refine Xq rfl rfl F.bld44 (.cons rfl (by constructor) (.cons rfl (by constructor) (.cons rfl (by constructor) (.cons rfl (by constructor) .nil)))) rfl rfl ?_
   refine WA rfl rfl rfl F.ok65 rfl (sendF_ok M bw Za Zc Zf Zh Zj Ze Zp Zi Zd Zo Zg Zb Zl Zs Zr ZF Zz ZM ZB Zv Zu Zn Zy Zm Zw ZD ZG ZN ⟨4,⟨0,0⟩,YG,0,⟨none,0,[]⟩,false,⟨Zf,Zh⟩,⟨Zj,Zi,Zg⟩⟩) (by repeat first|exact Rem.here _|exact Rem.two|apply Rem.skip|apply Rem.over) (Yv rfl) ?_
   rintro _ M2 hs2 hm2 ⟨rfl,⟨o9a,o9c,o9l⟩,rfl,k9o,hl9⟩
   simp only at hl9
   simp only [List.append_assoc,List.cons_append,List.nil_append]
   refine Zx (Wl ?_)
   refine Yj (.inl rfl) (.nil) (fun w hw=>?_)
   have h3:XS (ZP.nd ⟨⟨⟨Za,Zc⟩,⟨Zf,Zh⟩,⟨Zj,Zi,Zg⟩,⟨Ze,Zd,Zb⟩⟩,Zs,Zr,ZF,Zz,ZM,ZB,Zv,Zu,Zn,Zy,Zm,Zw,⟨Zp,Zo,Zl⟩,ZD,ZG⟩) (ZQ.lt ⟨ZZ,⟨ZN,Yq⟩,YG,l_id,⟨Yc,Yb,ZO⟩,YB,⟨ZL,ZV⟩,⟨Ya,ZX,ZK⟩⟩)=(ZP.nd ⟨⟨⟨Za,Zc⟩,⟨Zf,Zh⟩,⟨Zj,Zi,Zg⟩,⟨Ze,Zd,Zb⟩⟩,Zs,Zr,ZF,Zz,ZM,ZB,Zv,Zu,Zn,Zy,Zm,Zw,⟨Zp,Zo,Zl⟩,ZD,ZG⟩,[Yw.snd (⟨ZN,(⟨4,⟨Za,Zc⟩,YG,0,⟨none,0,[]⟩,false,⟨Zf,Zh⟩,⟨Zj,Zi,Zg⟩⟩:ZQ)⟩:Yw)]):=does3y hk (show Zr=true by first|assumption|(simp_all;done))
   refine ⟨_,M2,[(bw,rowO (ZR.segs ⟨⟨⟨⟨Za,Zc⟩,⟨Zf,Zh⟩,⟨Zj,Zi,Zg⟩,⟨Ze,Zd,Zb⟩⟩,Zs,Zr,ZF,Zz,ZM,ZB,Zv,Zu,Zn,Zy,Zm,Zw,⟨Zp,Zo,Zl⟩,ZD,ZG⟩,⟨o9a,o9c,o9l⟩⟩) 68)],rfl,hm2,hw.c,rfl,⟨⟨⟨Za,Zc⟩,⟨Zf,Zh⟩,⟨Zj,Zi,Zg⟩,⟨Ze,Zd,Zb⟩⟩,Zs,Zr,ZF,Zz,ZM,ZB,Zv,Zu,Zn,Zy,Zm,Zw,⟨Zp,Zo,Zl⟩,ZD,ZG⟩,⟨o9a,o9c,o9l⟩,rfl,?_,?_,⟨Yk.mono hm2,Yr.mono hm2⟩,k9o,fun y hy=>?_⟩
   ·rw [h3] <;> rfl
   ·rw [h3]
    show sndl o9l=_
    rw [hl9];rfl
   ·simp only at hy
    rw [hl9] at hy
    obtain rfl:=List.mem_singleton.1 hy
    exact ⟨⟨SlK.nil,(Yk.mono hm2).h0⟩⟩
  ·skip
   refine Yz ?_
   refine Yj (.inl rfl) (.nil) (fun w hw=>?_)
   have h3:XS (ZP.nd ⟨⟨⟨Za,Zc⟩,⟨Zf,Zh⟩,⟨Zj,Zi,Zg⟩,⟨Ze,Zd,Zb⟩⟩,Zs,Zr,ZF,Zz,ZM,ZB,Zv,Zu,Zn,Zy,Zm,Zw,⟨Zp,Zo,Zl⟩,ZD,ZG⟩) (ZQ.lt ⟨ZZ,⟨ZN,Yq⟩,YG,l_id,⟨Yc,Yb,ZO⟩,YB,⟨ZL,ZV⟩,⟨Ya,ZX,ZK⟩⟩)=((ZP.nd ⟨⟨⟨Za,Zc⟩,⟨Zf,Zh⟩,⟨Zj,Zi,Zg⟩,⟨Ze,Zd,Zb⟩⟩,Zs,Zr,ZF,Zz,ZM,ZB,Zv,Zu,Zn,Zy,Zm,Zw,⟨Zp,Zo,Zl⟩,ZD,ZG⟩),[]):=does3n hk (show Zr=false by first|assumption|(simp_all;done))
   refine ⟨_,M,[(bw,rowO (ZR.segs ⟨⟨⟨⟨Za,Zc⟩,⟨Zf,Zh⟩,⟨Zj,Zi,Zg⟩,⟨Ze,Zd,Zb⟩⟩,Zs,Zr,ZF,Zz,ZM,ZB,Zv,Zu,Zn,Zy,Zm,Zw,⟨Zp,Zo,Zl⟩,ZD,ZG⟩,⟨none,0,[]⟩⟩) 68)],rfl,Mem.le.refl M,hw.c,rfl,⟨⟨⟨Za,Zc⟩,⟨Zf,Zh⟩,⟨Zj,Zi,Zg⟩,⟨Ze,Zd,Zb⟩⟩,Zs,Zr,ZF,Zz,ZM,ZB,Zv,Zu,Zn,Zy,Zm,Zw,⟨Zp,Zo,Zl⟩,ZD,ZG⟩,⟨none,0,[]⟩,rfl,?_,?_,⟨Yk,Yr⟩,SlK.nil,fun y hy=>by cases hy⟩
   ·rw [h3] <;> rfl
   ·rw [h3] <;> rfl
theorem notify_ok (M:Mem) (bw:Nat) (Za:Int) (Zc:Plc) (Zf:Int) (Zh:Plc) (Zj Ze Zp:Option Addr) (Zi Zd Zo:Nat) (Zg Zb:List ZE) (Zl:List Int) (Zs:Int) (Zr:Bool) (ZF Zz ZM ZB Zv Zu Zn Zy Zm:Int) (Zw:Plc) (ZD ZG:Int) (Yk:ZT.ok M ⟨⟨Za,Zc⟩,⟨Zf,Zh⟩,⟨Zj,Zi,Zg⟩,⟨Ze,Zd,Zb⟩⟩) (Yr:SlK M (oneI .i64) 1 ⟨Zp,Zo,Zl⟩) (hbig:Zg.length≤40∧Zb.length≤200) (hLa:Zl.length≤1000) (hh:0≤ZD∧ZD≤1000) (l:ZQ) (hl0:ZQ.ok M l) (hLp:l.peers.l.length≤1000) (hk:l.kind=5):Fh Tryz.prog 49 [.pointer (some ⟨bw,0,none⟩),l.enc] M [(bw,rowO (ZR.segs ⟨⟨⟨⟨Za,Zc⟩,⟨Zf,Zh⟩,⟨Zj,Zi,Zg⟩,⟨Ze,Zd,Zb⟩⟩,Zs,Zr,ZF,Zz,ZM,ZB,Zv,Zu,Zn,Zy,Zm,Zw,⟨Zp,Zo,Zl⟩,ZD,ZG⟩,⟨none,0,[]⟩⟩) 68)] (fun M' v Hout=>v=.tuple #[]∧WkF bw 68 M' Hout (XS (ZP.nd ⟨⟨⟨Za,Zc⟩,⟨Zf,Zh⟩,⟨Zj,Zi,Zg⟩,⟨Ze,Zd,Zb⟩⟩,Zs,Zr,ZF,Zz,ZM,ZB,Zv,Zu,Zn,Zy,Zm,Zw,⟨Zp,Zo,Zl⟩,ZD,ZG⟩) l.lt)):=by
  obtain ⟨ZZ,⟨ZN,Yq⟩,YG,l_id,⟨Yc,Yb,ZO⟩,YB,⟨ZL,ZV⟩,⟨Ya,ZX,ZK⟩⟩:=l
  simp only at hLp hk
  have Xm:SlK M (oneI .i64) 1 ⟨Yc,Yb,ZO⟩:=hl0.h0
  have YX:SlK M ZE.segs 21 ⟨Ya,ZX,ZK⟩:=hl0.h1
  have XP:=YX.h1
  simp only at XP
  have WI:(ZK.map ZE.segs).length=ZK.length:=List.length_map ..
  have WJ:ZK.length≤ZX:=YX.h3
  refine XQ (fun H=>(bw,rowO (ZR.segs ⟨⟨⟨⟨Za,Zc⟩,⟨Zf,Zh⟩,⟨Zj,Zi,Zg⟩,⟨Ze,Zd,Zb⟩⟩,Zs,Zr,ZF,Zz,ZM,ZB,Zv,Zu,Zn,Zy,Zm,Zw,⟨Zp,Zo,Zl⟩,ZD,ZG⟩,⟨none,0,[]⟩⟩) 68)::H) (fun _=>by simp only [List.append_assoc,List.cons_append,List.nil_append]) Tryz.func49 rfl Tryz.ntmps49 rfl ?_;intro H
  refine ZJ (Zq (l:=[0]) rfl ?_)
  refine Xk ?_;intro b1
  refine Zx (Zt (Y_pk [3,0] ?_));refine YF (l:=[0,1,2,3,4,5,6,7,8,9,10,11,12]) #[0,0,2,6,14,30,0,64,254,511,1023,2047,4095] _ rfl (by kernel_rfl) (by kernel_rfl) St.drawn (fun _ h=>h) ?_
  iterate 2 refine ZA ?_
  refine ZU ?_;refine Zk F.foff68_0 ?_;refine Zk F.foff32_0 ?_;refine ZI F.lay28 ?_;refine Zk F.foff44_1 ?_;refine ZI F.lay25 ?_;refine X_fn rfl rfl F.ok107 rfl (Learn_ok _ ⟨⟨Za,Zc⟩,⟨Zf,Zh⟩,⟨Zj,Zi,Zg⟩,⟨Ze,Zd,Zb⟩⟩ ⟨ZN,Yq⟩ Yk) rfl ?_
  rintro _ M1 hm1 ⟨⟨⟨wa,wi⟩,⟨wq,wj⟩,⟨w1a,w1c,w1l⟩,⟨w2a,w2c,w2l⟩⟩,rfl,hol,okl⟩
  refine ZU ?_;refine Zk F.foff68_0 ?_;refine Zk F.foff32_0 ?_;refine Yi F.lay28 ?_;refine Zx ?_
  refine Yj (.inl rfl) (.nil) (fun w hw=>?_)
  have h3:XS (ZP.nd ⟨⟨⟨Za,Zc⟩,⟨Zf,Zh⟩,⟨Zj,Zi,Zg⟩,⟨Ze,Zd,Zb⟩⟩,Zs,Zr,ZF,Zz,ZM,ZB,Zv,Zu,Zn,Zy,Zm,Zw,⟨Zp,Zo,Zl⟩,ZD,ZG⟩) (ZQ.lt ⟨ZZ,⟨ZN,Yq⟩,YG,l_id,⟨Yc,Yb,ZO⟩,YB,⟨ZL,ZV⟩,⟨Ya,ZX,ZK⟩⟩)=(ZP.nd ⟨⟨⟨wa,wi⟩,⟨wq,wj⟩,⟨w1a,w1c,w1l⟩,⟨w2a,w2c,w2l⟩⟩,Zs,Zr,ZF,Zz,ZM,ZB,Zv,Zu,Zn,Zy,Zm,Zw,⟨Zp,Zo,Zl⟩,ZD,ZG⟩,[]):=does5 hk hol
  refine ⟨_,M1,[(bw,rowO (ZR.segs ⟨⟨⟨⟨wa,wi⟩,⟨wq,wj⟩,⟨w1a,w1c,w1l⟩,⟨w2a,w2c,w2l⟩⟩,Zs,Zr,ZF,Zz,ZM,ZB,Zv,Zu,Zn,Zy,Zm,Zw,⟨Zp,Zo,Zl⟩,ZD,ZG⟩,⟨none,0,[]⟩⟩) 68)],rfl,hm1,hw.c,rfl,⟨⟨⟨wa,wi⟩,⟨wq,wj⟩,⟨w1a,w1c,w1l⟩,⟨w2a,w2c,w2l⟩⟩,Zs,Zr,ZF,Zz,ZM,ZB,Zv,Zu,Zn,Zy,Zm,Zw,⟨Zp,Zo,Zl⟩,ZD,ZG⟩,⟨none,0,[]⟩,rfl,?_,?_,⟨okl,Yr.mono hm1⟩,SlK.nil,fun y hy=>by cases hy⟩
  ·rw [h3] <;> rfl
  ·rw [h3] <;> rfl
theorem ping_ok (M:Mem) (bw:Nat) (Za:Int) (Zc:Plc) (Zf:Int) (Zh:Plc) (Zj Ze Zp:Option Addr) (Zi Zd Zo:Nat) (Zg Zb:List ZE) (Zl:List Int) (Zs:Int) (Zr:Bool) (ZF Zz ZM ZB Zv Zu Zn Zy Zm:Int) (Zw:Plc) (ZD ZG:Int) (Yk:ZT.ok M ⟨⟨Za,Zc⟩,⟨Zf,Zh⟩,⟨Zj,Zi,Zg⟩,⟨Ze,Zd,Zb⟩⟩) (Yr:SlK M (oneI .i64) 1 ⟨Zp,Zo,Zl⟩) (hbig:Zg.length≤40∧Zb.length≤200) (hLa:Zl.length≤1000) (hh:0≤ZD∧ZD≤1000) (l:ZQ) (hl0:ZQ.ok M l) (hLp:l.peers.l.length≤1000) (hk:l.kind=6):Fh Tryz.prog 50 [.pointer (some ⟨bw,0,none⟩),l.enc] M [(bw,rowO (ZR.segs ⟨⟨⟨⟨Za,Zc⟩,⟨Zf,Zh⟩,⟨Zj,Zi,Zg⟩,⟨Ze,Zd,Zb⟩⟩,Zs,Zr,ZF,Zz,ZM,ZB,Zv,Zu,Zn,Zy,Zm,Zw,⟨Zp,Zo,Zl⟩,ZD,ZG⟩,⟨none,0,[]⟩⟩) 68)] (fun M' v Hout=>v=.tuple #[]∧WkF bw 68 M' Hout (XS (ZP.nd ⟨⟨⟨Za,Zc⟩,⟨Zf,Zh⟩,⟨Zj,Zi,Zg⟩,⟨Ze,Zd,Zb⟩⟩,Zs,Zr,ZF,Zz,ZM,ZB,Zv,Zu,Zn,Zy,Zm,Zw,⟨Zp,Zo,Zl⟩,ZD,ZG⟩) l.lt)):=by
  obtain ⟨ZZ,⟨ZN,Yq⟩,YG,l_id,⟨Yc,Yb,ZO⟩,YB,⟨ZL,ZV⟩,⟨Ya,ZX,ZK⟩⟩:=l
  simp only at hLp hk
  have Xm:SlK M (oneI .i64) 1 ⟨Yc,Yb,ZO⟩:=hl0.h0
  have YX:SlK M ZE.segs 21 ⟨Ya,ZX,ZK⟩:=hl0.h1
  have XP:=YX.h1
  simp only at XP
  have WI:(ZK.map ZE.segs).length=ZK.length:=List.length_map ..
  have WJ:ZK.length≤ZX:=YX.h3
  refine XQ (fun H=>(bw,rowO (ZR.segs ⟨⟨⟨⟨Za,Zc⟩,⟨Zf,Zh⟩,⟨Zj,Zi,Zg⟩,⟨Ze,Zd,Zb⟩⟩,Zs,Zr,ZF,Zz,ZM,ZB,Zv,Zu,Zn,Zy,Zm,Zw,⟨Zp,Zo,Zl⟩,ZD,ZG⟩,⟨none,0,[]⟩⟩) 68)::H) (fun _=>by simp only [List.append_assoc,List.cons_append,List.nil_append]) Tryz.func50 rfl Tryz.ntmps50 rfl ?_;intro H
  refine ZJ (Zq (l:=[0]) rfl ?_)
  refine Xk ?_;intro b1
  refine Zx (Zt (Y_pk [3,0] ?_));refine C_region_anyW (l:=[0,1,2,3,4,5,6,7,8]) [8] #[0,0,2,6,0,16,0,112,255] (_) rfl (by kernel_rfl) (by kernel_rfl) St.drawn (fun _ h=>h) ?_;refine ZA ?_;refine Zk F.foff44_1 ?_;refine Zk F.foff25_0 ?_;refine ZI F.lay3 ?_;refine Zk F.foff44_2 ?_;refine ZI F.lay29 ?_;refine X_fs rfl rfl F.ok66 rfl (WY _) rfl ?_
  rintro _ rfl
  refine VF 10 rfl (show _=aggV [.one (.int .i64 (-1)),Yn 0] from rfl) ?_;refine Xq rfl rfl F.bld44 (.cons rfl (by constructor) (.cons rfl (by constructor) (.cons rfl (by constructor) .nil))) rfl rfl ?_;refine WA rfl rfl rfl F.ok65 rfl (sendF_ok M bw Za Zc Zf Zh Zj Ze Zp Zi Zd Zo Zg Zb Zl Zs Zr ZF Zz ZM ZB Zv Zu Zn Zy Zm Zw ZD ZG ZN ⟨7,⟨0,0⟩,YG,0,⟨none,0,[]⟩,false,⟨-1,0⟩,⟨none,0,[]⟩⟩) (by repeat first|exact Rem.here _|exact Rem.two|apply Rem.skip|apply Rem.over) (Yv rfl) ?_
  rintro _ M2 hs2 hm2 ⟨rfl,⟨o9a,o9c,o9l⟩,rfl,k9o,hl9⟩
  simp only at hl9
  simp only [List.append_assoc,List.cons_append,List.nil_append]
  refine Zx (Wl ?_)
  refine Yj (.inl rfl) (.nil) (fun w hw=>?_)
  have h3:XS (ZP.nd ⟨⟨⟨Za,Zc⟩,⟨Zf,Zh⟩,⟨Zj,Zi,Zg⟩,⟨Ze,Zd,Zb⟩⟩,Zs,Zr,ZF,Zz,ZM,ZB,Zv,Zu,Zn,Zy,Zm,Zw,⟨Zp,Zo,Zl⟩,ZD,ZG⟩) (ZQ.lt ⟨ZZ,⟨ZN,Yq⟩,YG,l_id,⟨Yc,Yb,ZO⟩,YB,⟨ZL,ZV⟩,⟨Ya,ZX,ZK⟩⟩)=(ZP.nd ⟨⟨⟨Za,Zc⟩,⟨Zf,Zh⟩,⟨Zj,Zi,Zg⟩,⟨Ze,Zd,Zb⟩⟩,Zs,Zr,ZF,Zz,ZM,ZB,Zv,Zu,Zn,Zy,Zm,Zw,⟨Zp,Zo,Zl⟩,ZD,ZG⟩,[Yw.snd (⟨ZN,(⟨7,⟨Za,Zc⟩,YG,0,⟨none,0,[]⟩,false,⟨-1,0⟩,⟨none,0,[]⟩⟩:ZQ)⟩:Yw)]):=does6 hk
  refine ⟨_,M2,[(bw,rowO (ZR.segs ⟨⟨⟨⟨Za,Zc⟩,⟨Zf,Zh⟩,⟨Zj,Zi,Zg⟩,⟨Ze,Zd,Zb⟩⟩,Zs,Zr,ZF,Zz,ZM,ZB,Zv,Zu,Zn,Zy,Zm,Zw,⟨Zp,Zo,Zl⟩,ZD,ZG⟩,⟨o9a,o9c,o9l⟩⟩) 68)],rfl,hm2,hw.c,rfl,⟨⟨⟨Za,Zc⟩,⟨Zf,Zh⟩,⟨Zj,Zi,Zg⟩,⟨Ze,Zd,Zb⟩⟩,Zs,Zr,ZF,Zz,ZM,ZB,Zv,Zu,Zn,Zy,Zm,Zw,⟨Zp,Zo,Zl⟩,ZD,ZG⟩,⟨o9a,o9c,o9l⟩,rfl,?_,?_,⟨Yk.mono hm2,Yr.mono hm2⟩,k9o,fun y hy=>?_⟩
  ·rw [h3] <;> rfl
  ·rw [h3]
   show sndl o9l=_
   rw [hl9];rfl
  ·simp only at hy
   rw [hl9] at hy
   obtain rfl:=List.mem_singleton.1 hy
   exact ⟨⟨SlK.nil,SlK.nil⟩⟩
theorem pong_ok (M:Mem) (bw:Nat) (Za:Int) (Zc:Plc) (Zf:Int) (Zh:Plc) (Zj Ze Zp:Option Addr) (Zi Zd Zo:Nat) (Zg Zb:List ZE) (Zl:List Int) (Zs:Int) (Zr:Bool) (ZF Zz ZM ZB Zv Zu Zn Zy Zm:Int) (Zw:Plc) (ZD ZG:Int) (Yk:ZT.ok M ⟨⟨Za,Zc⟩,⟨Zf,Zh⟩,⟨Zj,Zi,Zg⟩,⟨Ze,Zd,Zb⟩⟩) (Yr:SlK M (oneI .i64) 1 ⟨Zp,Zo,Zl⟩) (hbig:Zg.length≤40∧Zb.length≤200) (hLa:Zl.length≤1000) (hh:0≤ZD∧ZD≤1000) (l:ZQ) (hl0:ZQ.ok M l) (hLp:l.peers.l.length≤1000) (hk:l.kind=7):Fh Tryz.prog 51 [.pointer (some ⟨bw,0,none⟩),l.enc] M [(bw,rowO (ZR.segs ⟨⟨⟨⟨Za,Zc⟩,⟨Zf,Zh⟩,⟨Zj,Zi,Zg⟩,⟨Ze,Zd,Zb⟩⟩,Zs,Zr,ZF,Zz,ZM,ZB,Zv,Zu,Zn,Zy,Zm,Zw,⟨Zp,Zo,Zl⟩,ZD,ZG⟩,⟨none,0,[]⟩⟩) 68)] (fun M' v Hout=>v=.tuple #[]∧WkF bw 68 M' Hout (XS (ZP.nd ⟨⟨⟨Za,Zc⟩,⟨Zf,Zh⟩,⟨Zj,Zi,Zg⟩,⟨Ze,Zd,Zb⟩⟩,Zs,Zr,ZF,Zz,ZM,ZB,Zv,Zu,Zn,Zy,Zm,Zw,⟨Zp,Zo,Zl⟩,ZD,ZG⟩) l.lt)):=by
  obtain ⟨ZZ,⟨ZN,Yq⟩,YG,l_id,⟨Yc,Yb,ZO⟩,YB,⟨ZL,ZV⟩,⟨Ya,ZX,ZK⟩⟩:=l
  simp only at hLp hk
  have Xm:SlK M (oneI .i64) 1 ⟨Yc,Yb,ZO⟩:=hl0.h0
  have YX:SlK M ZE.segs 21 ⟨Ya,ZX,ZK⟩:=hl0.h1
  have XP:=YX.h1
  simp only at XP
  have WI:(ZK.map ZE.segs).length=ZK.length:=List.length_map ..
  have WJ:ZK.length≤ZX:=YX.h3
  refine XQ (fun H=>(bw,rowO (ZR.segs ⟨⟨⟨⟨Za,Zc⟩,⟨Zf,Zh⟩,⟨Zj,Zi,Zg⟩,⟨Ze,Zd,Zb⟩⟩,Zs,Zr,ZF,Zz,ZM,ZB,Zv,Zu,Zn,Zy,Zm,Zw,⟨Zp,Zo,Zl⟩,ZD,ZG⟩,⟨none,0,[]⟩⟩) 68)::H) (fun _=>by simp only [List.append_assoc,List.cons_append,List.nil_append]) Tryz.func51 rfl Tryz.ntmps51 rfl ?_;intro H
  refine ZJ (Zq (l:=[0]) rfl ?_)
  refine Xk ?_;intro b1
  refine Zx (Zt (Y_pk [3,0] ?_));refine ZJ (YF (l:=[0,1,2,3,4,5,6,7,8,9,10,11,12,13,14,15,16,17,18]) #[0,1,3,7,15,0,32,96,255,511,1023,2047,4095,8191,16383,1023,33791,131071,262143] _ rfl (by kernel_rfl) (by kernel_rfl) St.drawn (fun _ h=>h) ?_);refine ZA ?_;refine ZU ?_;refine Zk F.foff68_0 ?_;refine Zk F.foff32_8 ?_;refine ZI F.lay3 ?_;refine Zk F.foff44_1 ?_;refine Zk F.foff25_0 ?_;refine ZI F.lay3 ?_;refine YC ?_;refine ZA ?_
  refine Yp 13 rfl (fun hc2=>?_) (fun hc2=>?_)
  ·replace hc2:=dT hc2
   refine ZA ?_;refine ZU ?_;refine Zk F.foff68_0 ?_;refine Zk F.foff32_9 ?_;refine ZI F.lay29 ?_;refine Zk F.foff44_2 ?_;refine ZI F.lay29 ?_;refine YC ?_;refine ZS ?_;refine Zx (Zt (Y_pk [22,0] ?_))
   refine YA rfl (fun hc3=>?_) (fun hc3=>?_)
   ·replace hc3:=dT hc3
    refine Zq (l:=[0,1,2,3,4]) rfl ?_;refine ZA ?_;refine ZU ?_;refine Zk F.foff68_0 ?_;refine Zk F.foff32_8 ?_;refine Yi F.lay3 ?_;refine Zx ?_
    refine Yj (.inl rfl) (.nil) (fun w hw=>?_)
    have h3:XS (ZP.nd ⟨⟨⟨Za,Zc⟩,⟨Zf,Zh⟩,⟨Zj,Zi,Zg⟩,⟨Ze,Zd,Zb⟩⟩,Zs,Zr,ZF,Zz,ZM,ZB,Zv,Zu,Zn,Zy,Zm,Zw,⟨Zp,Zo,Zl⟩,ZD,ZG⟩) (ZQ.lt ⟨ZZ,⟨ZN,Yq⟩,YG,l_id,⟨Yc,Yb,ZO⟩,YB,⟨ZL,ZV⟩,⟨Ya,ZX,ZK⟩⟩)=(ZP.nd ⟨⟨⟨Za,Zc⟩,⟨Zf,Zh⟩,⟨Zj,Zi,Zg⟩,⟨Ze,Zd,Zb⟩⟩,Zs,Zr,ZF,Zz,ZM,ZB,Zv,(-1),Zn,Zy,Zm,Zw,⟨Zp,Zo,Zl⟩,ZD,ZG⟩,[]):=does7y hk (show Zu=ZN∧Zn=YG by constructor <;> first|assumption|omega)
    refine ⟨_,M,[(bw,rowO (ZR.segs ⟨⟨⟨⟨Za,Zc⟩,⟨Zf,Zh⟩,⟨Zj,Zi,Zg⟩,⟨Ze,Zd,Zb⟩⟩,Zs,Zr,ZF,Zz,ZM,ZB,Zv,(-1),Zn,Zy,Zm,Zw,⟨Zp,Zo,Zl⟩,ZD,ZG⟩,⟨none,0,[]⟩⟩) 68)],rfl,Mem.le.refl M,hw.c,rfl,⟨⟨⟨Za,Zc⟩,⟨Zf,Zh⟩,⟨Zj,Zi,Zg⟩,⟨Ze,Zd,Zb⟩⟩,Zs,Zr,ZF,Zz,ZM,ZB,Zv,(-1),Zn,Zy,Zm,Zw,⟨Zp,Zo,Zl⟩,ZD,ZG⟩,⟨none,0,[]⟩,rfl,?_,?_,⟨Yk,Yr⟩,SlK.nil,fun y hy=>by cases hy⟩
    ·rw [h3] <;> rfl
    ·rw [h3] <;> rfl
   ·replace hc3:=dF hc3
    refine Yz ?_
    refine Yj (.inl rfl) (.nil) (fun w hw=>?_)
    have h3:XS (ZP.nd ⟨⟨⟨Za,Zc⟩,⟨Zf,Zh⟩,⟨Zj,Zi,Zg⟩,⟨Ze,Zd,Zb⟩⟩,Zs,Zr,ZF,Zz,ZM,ZB,Zv,Zu,Zn,Zy,Zm,Zw,⟨Zp,Zo,Zl⟩,ZD,ZG⟩) (ZQ.lt ⟨ZZ,⟨ZN,Yq⟩,YG,l_id,⟨Yc,Yb,ZO⟩,YB,⟨ZL,ZV⟩,⟨Ya,ZX,ZK⟩⟩)=(ZP.nd ⟨⟨⟨Za,Zc⟩,⟨Zf,Zh⟩,⟨Zj,Zi,Zg⟩,⟨Ze,Zd,Zb⟩⟩,Zs,Zr,ZF,Zz,ZM,ZB,Zv,Zu,Zn,Zy,Zm,Zw,⟨Zp,Zo,Zl⟩,ZD,ZG⟩,[]):=does7n hk (show ¬(Zu=ZN∧Zn=YG) by rintro ⟨q1,q2⟩;first|contradiction|omega)
    refine ⟨_,M,[(bw,rowO (ZR.segs ⟨⟨⟨⟨Za,Zc⟩,⟨Zf,Zh⟩,⟨Zj,Zi,Zg⟩,⟨Ze,Zd,Zb⟩⟩,Zs,Zr,ZF,Zz,ZM,ZB,Zv,Zu,Zn,Zy,Zm,Zw,⟨Zp,Zo,Zl⟩,ZD,ZG⟩,⟨none,0,[]⟩⟩) 68)],rfl,Mem.le.refl M,hw.c,rfl,⟨⟨⟨Za,Zc⟩,⟨Zf,Zh⟩,⟨Zj,Zi,Zg⟩,⟨Ze,Zd,Zb⟩⟩,Zs,Zr,ZF,Zz,ZM,ZB,Zv,Zu,Zn,Zy,Zm,Zw,⟨Zp,Zo,Zl⟩,ZD,ZG⟩,⟨none,0,[]⟩,rfl,?_,?_,⟨Yk,Yr⟩,SlK.nil,fun y hy=>by cases hy⟩
    ·rw [h3] <;> rfl
    ·rw [h3] <;> rfl
  ·replace hc2:=dF hc2
   iterate 8 refine Yh ?_
   refine ZS ?_;refine Zx (Zt (Y_pk [22,0] ?_));refine Wq rfl ?_;refine Yz ?_
   refine Yj (.inl rfl) (.nil) (fun w hw=>?_)
   have h3:XS (ZP.nd ⟨⟨⟨Za,Zc⟩,⟨Zf,Zh⟩,⟨Zj,Zi,Zg⟩,⟨Ze,Zd,Zb⟩⟩,Zs,Zr,ZF,Zz,ZM,ZB,Zv,Zu,Zn,Zy,Zm,Zw,⟨Zp,Zo,Zl⟩,ZD,ZG⟩) (ZQ.lt ⟨ZZ,⟨ZN,Yq⟩,YG,l_id,⟨Yc,Yb,ZO⟩,YB,⟨ZL,ZV⟩,⟨Ya,ZX,ZK⟩⟩)=(ZP.nd ⟨⟨⟨Za,Zc⟩,⟨Zf,Zh⟩,⟨Zj,Zi,Zg⟩,⟨Ze,Zd,Zb⟩⟩,Zs,Zr,ZF,Zz,ZM,ZB,Zv,Zu,Zn,Zy,Zm,Zw,⟨Zp,Zo,Zl⟩,ZD,ZG⟩,[]):=does7n hk (show ¬(Zu=ZN∧Zn=YG) by rintro ⟨q1,q2⟩;first|contradiction|omega)
   refine ⟨_,M,[(bw,rowO (ZR.segs ⟨⟨⟨⟨Za,Zc⟩,⟨Zf,Zh⟩,⟨Zj,Zi,Zg⟩,⟨Ze,Zd,Zb⟩⟩,Zs,Zr,ZF,Zz,ZM,ZB,Zv,Zu,Zn,Zy,Zm,Zw,⟨Zp,Zo,Zl⟩,ZD,ZG⟩,⟨none,0,[]⟩⟩) 68)],rfl,Mem.le.refl M,hw.c,rfl,⟨⟨⟨Za,Zc⟩,⟨Zf,Zh⟩,⟨Zj,Zi,Zg⟩,⟨Ze,Zd,Zb⟩⟩,Zs,Zr,ZF,Zz,ZM,ZB,Zv,Zu,Zn,Zy,Zm,Zw,⟨Zp,Zo,Zl⟩,ZD,ZG⟩,⟨none,0,[]⟩,rfl,?_,?_,⟨Yk,Yr⟩,SlK.nil,fun y hy=>by cases hy⟩
   ·rw [h3] <;> rfl
   ·rw [h3] <;> rfl
end Go.Proofs.YtajmnjefajknoaaGreat
namespace Go.Proofs.YtajmnjefajknoaaGreat
open Go.Esp
theorem F.ok102:okFn Tryz.prog 102=true:=by kernel_rfl
theorem F.ok53:okFn Tryz.prog 53=true:=by kernel_rfl
theorem end_ok (M:Mem) (bw:Nat) (Za:Int) (Zc:Plc) (Zf:Int) (Zh:Plc) (Zj Ze Zp:Option Addr) (Zi Zd Zo:Nat) (Zg Zb:List ZE) (Zl:List Int) (Zs:Int) (Zr:Bool) (ZF Zz ZM ZB Zv Zu Zn Zy Zm:Int) (Zw:Plc) (ZD ZG:Int) (Yk:ZT.ok M ⟨⟨Za,Zc⟩,⟨Zf,Zh⟩,⟨Zj,Zi,Zg⟩,⟨Ze,Zd,Zb⟩⟩) (Yr:SlK M (oneI .i64) 1 ⟨Zp,Zo,Zl⟩) (p:ZE):Fh Tryz.prog 102 [.pointer (some ⟨bw,0,none⟩),p.enc] M [(bw,rowO (ZR.segs ⟨⟨⟨⟨Za,Zc⟩,⟨Zf,Zh⟩,⟨Zj,Zi,Zg⟩,⟨Ze,Zd,Zb⟩⟩,Zs,Zr,ZF,Zz,ZM,ZB,Zv,Zu,Zn,Zy,Zm,Zw,⟨Zp,Zo,Zl⟩,ZD,ZG⟩,⟨none,0,[]⟩⟩) 68)] (fun M' v Hout=>v=.tuple #[]∧∃ n9:ZP,Hout=[(bw,rowO (ZR.segs ⟨n9,⟨none,0,[]⟩⟩) 68)]∧ZP.ok M' n9∧n9.nd=endN (ZP.nd ⟨⟨⟨Za,Zc⟩,⟨Zf,Zh⟩,⟨Zj,Zi,Zg⟩,⟨Ze,Zd,Zb⟩⟩,Zs,Zr,ZF,Zz,ZM,ZB,Zv,Zu,Zn,Zy,Zm,Zw,⟨Zp,Zo,Zl⟩,ZD,ZG⟩) p):=by
  obtain ⟨YU,p_id⟩:=p
  refine XQ (fun H=>(bw,rowO (ZR.segs ⟨⟨⟨⟨Za,Zc⟩,⟨Zf,Zh⟩,⟨Zj,Zi,Zg⟩,⟨Ze,Zd,Zb⟩⟩,Zs,Zr,ZF,Zz,ZM,ZB,Zv,Zu,Zn,Zy,Zm,Zw,⟨Zp,Zo,Zl⟩,ZD,ZG⟩,⟨none,0,[]⟩⟩) 68)::H) (fun _=>by simp only [List.append_assoc,List.cons_append,List.nil_append]) Tryz.func102 rfl Tryz.ntmps102 rfl ?_;intro H
  refine ZJ (Zq (l:=[0]) rfl ?_)
  refine Xk ?_;intro b1
  refine Zx (Zt (Y_pk [3,0] ?_));refine Xe (ZJ (YF (l:=[0,1,2,3,4,5,6,7,8,9,10,11,12,13,14,15,16,17,18,19,20]) #[0,1,3,7,15,31,63,63,255,511,1023,1023,3071,7167,15359,31743,64511,131071,262143,524287,1048575] _ rfl (by kernel_rfl) (by kernel_rfl) St.drawn (fun _ h=>h) ?_));refine ZA ?_;refine ZU ?_;refine Zk F.foff68_0 ?_;refine Zk F.foff32_2 ?_;refine ZI F.lay4 ?_;refine ZA ?_
  refine Yp 10 rfl (fun hc2=>?_) (fun hc2=>?_)
  ·skip
   refine ZA ?_;refine ZI F.lay25 ?_;refine X_fo rfl rfl F.ok53 rfl (wother_ok M bw Za Zc Zf Zh Zj Ze Zp Zi Zd Zo Zg Zb Zl Zs Zr ZF Zz ZM ZB Zv Zu Zn Zy Zm Zw ZD ZG ⟨YU,p_id⟩) (by repeat first|exact Rem.here _|exact Rem.two|apply Rem.skip|apply Rem.over) (Yv rfl) ?_
   rintro _ M1 _ ⟨hM1,rfl⟩;subst M1
   refine ZA ?_
   refine Yp 14 rfl (fun hc3=>?_) (fun hc3=>?_)
   ·replace hc3:=dT hc3
    iterate 8 refine Yh ?_
    iterate 2 refine ZS ?_
    refine ZC ?_;refine Zx (Zt (Y_pk [4,3,0] ?_));refine Xz rfl ?_;refine Xn (l:=[0,1,2]) [2] rfl ?_;refine ZA ?_;refine ZI F.lay25 ?_;refine WA rfl rfl rfl F.ok87 rfl (point_ok M bw Za Zc Zf Zh Zj Ze Zp Zi Zd Zo Zg Zb Zl Zs Zr ZF Zz ZM ZB Zv Zu Zn Zy Zm Zw ZD ZG Yk ⟨YU,p_id⟩) (by repeat first|exact Rem.here _|exact Rem.two|apply Rem.skip|apply Rem.over) (Yv rfl) ?_
    rintro _ M1 hs1 hm1 ⟨rfl,⟨⟨wa,wi⟩,⟨wq,wj⟩,⟨w1a,w1c,w1l⟩,⟨w2a,w2c,w2l⟩⟩,c9,rfl,okl,hv1⟩
    simp only [List.append_assoc,List.cons_append,List.nil_append]
    refine Zx (Wl ?_);refine Wg ?_
    refine Yj (.inl rfl) (.nil) (fun w hw=>?_)
    (refine ⟨_,M1,[(bw,rowO (ZR.segs ⟨⟨⟨⟨wa,wi⟩,⟨wq,wj⟩,⟨w1a,w1c,w1l⟩,⟨w2a,w2c,w2l⟩⟩,Zs,Zr,ZF,c9,ZM,ZB,Zv,Zu,Zn,Zy,Zm,Zw,⟨Zp,Zo,Zl⟩,ZD,ZG⟩,⟨none,0,[]⟩⟩) 68)],rfl,hm1,?_,rfl,⟨⟨⟨wa,wi⟩,⟨wq,wj⟩,⟨w1a,w1c,w1l⟩,⟨w2a,w2c,w2l⟩⟩,Zs,Zr,ZF,c9,ZM,ZB,Zv,Zu,Zn,Zy,Zm,Zw,⟨Zp,Zo,Zl⟩,ZD,ZG⟩,rfl,⟨okl,Yr.mono hm1⟩,hv1.trans (end_point (n:=(ZP.nd ⟨⟨⟨Za,Zc⟩,⟨Zf,Zh⟩,⟨Zj,Zi,Zg⟩,⟨Ze,Zd,Zb⟩⟩,Zs,Zr,ZF,Zz,ZM,ZB,Zv,Zu,Zn,Zy,Zm,Zw,⟨Zp,Zo,Zl⟩,ZD,ZG⟩)) (show Zr=true by first|assumption|(simp_all;done)) (show Xr ⟨Za,Zc⟩ ⟨YU,p_id⟩∨(⟨YU,p_id⟩:ZE)=⟨Za,Zc⟩ by first|exact .inl (by assumption)|exact .inr (by assumption))).symm⟩;simp only [ZR.segs,Sl.val,List.length_nil] at hw ⊢;exact hw.c)
   ·replace hc3:=dF hc3
    refine ZI F.lay25 ?_;refine ZA ?_;refine ZU ?_;refine Zk F.foff68_0 ?_;refine Zk F.foff32_0 ?_;refine Zk F.foff28_0 ?_;refine ZI F.lay25 ?_
    refine WW (m:=20) rfl rfl rfl rfl rfl (by constructor) (by constructor) F.lay25 F.kinds25 rfl F.guard25 (by exact XT (⟨_,_⟩)) (by exact XT (⟨_,_⟩)) rfl rfl rfl ?_;intro c4 he5
    replace he5:c4=true↔Segs.cells _=Segs.cells _:=he5
    obtain rfl:=eqD he5 (ZE.inj (x:=⟨_,_⟩) (y:=⟨_,_⟩));clear he5
    iterate 2 refine ZS ?_
    refine ZC ?_;refine Zx (Zt (Y_pk [4,3,0] ?_))
    refine YA rfl (fun hc6=>?_) (fun hc6=>?_)
    ·replace hc6:=dT hc6
     refine Xn (l:=[0,1,2]) [2] rfl ?_;refine ZA ?_;refine ZI F.lay25 ?_;refine WA rfl rfl rfl F.ok87 rfl (point_ok M bw Za Zc Zf Zh Zj Ze Zp Zi Zd Zo Zg Zb Zl Zs Zr ZF Zz ZM ZB Zv Zu Zn Zy Zm Zw ZD ZG Yk ⟨YU,p_id⟩) (by repeat first|exact Rem.here _|exact Rem.two|apply Rem.skip|apply Rem.over) (Yv rfl) ?_
     rintro _ M1 hs1 hm1 ⟨rfl,⟨⟨wa,wi⟩,⟨wq,wj⟩,⟨w1a,w1c,w1l⟩,⟨w2a,w2c,w2l⟩⟩,c9,rfl,okl,hv1⟩
     simp only [List.append_assoc,List.cons_append,List.nil_append]
     refine Zx (Wl ?_);refine Wg ?_
     refine Yj (.inl rfl) (.nil) (fun w hw=>?_)
     (refine ⟨_,M1,[(bw,rowO (ZR.segs ⟨⟨⟨⟨wa,wi⟩,⟨wq,wj⟩,⟨w1a,w1c,w1l⟩,⟨w2a,w2c,w2l⟩⟩,Zs,Zr,ZF,c9,ZM,ZB,Zv,Zu,Zn,Zy,Zm,Zw,⟨Zp,Zo,Zl⟩,ZD,ZG⟩,⟨none,0,[]⟩⟩) 68)],rfl,hm1,?_,rfl,⟨⟨⟨wa,wi⟩,⟨wq,wj⟩,⟨w1a,w1c,w1l⟩,⟨w2a,w2c,w2l⟩⟩,Zs,Zr,ZF,c9,ZM,ZB,Zv,Zu,Zn,Zy,Zm,Zw,⟨Zp,Zo,Zl⟩,ZD,ZG⟩,rfl,⟨okl,Yr.mono hm1⟩,hv1.trans (end_point (n:=(ZP.nd ⟨⟨⟨Za,Zc⟩,⟨Zf,Zh⟩,⟨Zj,Zi,Zg⟩,⟨Ze,Zd,Zb⟩⟩,Zs,Zr,ZF,Zz,ZM,ZB,Zv,Zu,Zn,Zy,Zm,Zw,⟨Zp,Zo,Zl⟩,ZD,ZG⟩)) (show Zr=true by first|assumption|(simp_all;done)) (show Xr ⟨Za,Zc⟩ ⟨YU,p_id⟩∨(⟨YU,p_id⟩:ZE)=⟨Za,Zc⟩ by first|exact .inl (by assumption)|exact .inr (by assumption))).symm⟩;simp only [ZR.segs,Sl.val,List.length_nil] at hw ⊢;exact hw.c)
    ·replace hc6:=dF hc6
     refine ZJ (Zq (l:=[0,1,2,3,4,5,6,7,8,9,10,11]) rfl ?_);refine ZA ?_;refine ZU ?_;refine Zk F.foff68_0 ?_;refine Zk F.foff32_2 ?_;refine ZI F.lay4 ?_;refine XA ?_;refine ZA ?_
     refine Yp 35 rfl (fun hc7=>?_) (fun hc7=>?_)
     ·skip
      refine ZA ?_;refine ZI F.lay25 ?_;refine X_fo rfl rfl F.ok53 rfl (wother_ok M bw Za Zc Zf Zh Zj Ze Zp Zi Zd Zo Zg Zb Zl Zs Zr ZF Zz ZM ZB Zv Zu Zn Zy Zm Zw ZD ZG ⟨YU,p_id⟩) (by repeat first|exact Rem.here _|exact Rem.two|apply Rem.skip|apply Rem.over) (Yv rfl) ?_
      rintro _ M1 _ ⟨hM1,rfl⟩;subst M1
      refine ZS ?_;refine ZC ?_;refine Zx (Zt (Y_pk [28,3,0] ?_))
      refine YA rfl (fun hc8=>?_) (fun hc8=>?_)
      ·replace hc8:=dT hc8
       contradiction
      ·replace hc8:=dF hc8
       refine Yz (Wg ?_)
       refine Yj (.inl rfl) (.nil) (fun w hw=>?_)
       (exfalso;simp_all;done)
     ·skip
      iterate 3 refine Yh ?_
      refine ZS ?_;refine ZC ?_;refine Zx (Zt (Y_pk [28,3,0] ?_));refine Wq rfl ?_;refine Yz (Wg ?_)
      refine Yj (.inl rfl) (.nil) (fun w hw=>?_)
      (refine ⟨_,M,[(bw,rowO (ZR.segs ⟨⟨⟨⟨Za,Zc⟩,⟨Zf,Zh⟩,⟨Zj,Zi,Zg⟩,⟨Ze,Zd,Zb⟩⟩,Zs,Zr,ZF,Zz,ZM,ZB,Zv,Zu,Zn,Zy,Zm,Zw,⟨Zp,Zo,Zl⟩,ZD,ZG⟩,⟨none,0,[]⟩⟩) 68)],rfl,Mem.le.refl M,?_,rfl,⟨⟨⟨Za,Zc⟩,⟨Zf,Zh⟩,⟨Zj,Zi,Zg⟩,⟨Ze,Zd,Zb⟩⟩,Zs,Zr,ZF,Zz,ZM,ZB,Zv,Zu,Zn,Zy,Zm,Zw,⟨Zp,Zo,Zl⟩,ZD,ZG⟩,rfl,⟨Yk,Yr⟩,(end_not (n:=(ZP.nd ⟨⟨⟨Za,Zc⟩,⟨Zf,Zh⟩,⟨Zj,Zi,Zg⟩,⟨Ze,Zd,Zb⟩⟩,Zs,Zr,ZF,Zz,ZM,ZB,Zv,Zu,Zn,Zy,Zm,Zw,⟨Zp,Zo,Zl⟩,ZD,ZG⟩)) (p:=⟨YU,p_id⟩) (fun q=>by
       have q9:Zr=true:=q
       exact ⟨show ¬Xr ⟨Za,Zc⟩ ⟨YU,p_id⟩ by first|assumption|(exfalso;simp_all;done),show ¬(⟨YU,p_id⟩:ZE)=⟨Za,Zc⟩ by first|assumption|(exfalso;simp_all;done)⟩) (fun q=>by
       have q9:Zr=false:=q
       (show ¬Xr ⟨Za,Zc⟩ ⟨YU,p_id⟩;assumption))).symm⟩;simp only [ZR.segs,Sl.val,List.length_nil] at hw ⊢;exact hw.c)
  ·skip
   iterate 13 refine Yh ?_
   refine ZS ?_;refine ZC ?_;refine Zx (Zt (Y_pk [4,3,0] ?_));refine Wq rfl ?_;refine ZJ (Zq (l:=[0,1,2,3,4,5,6,7,8,9,10,11]) rfl ?_);refine ZA ?_;refine ZU ?_;refine Zk F.foff68_0 ?_;refine Zk F.foff32_2 ?_;refine ZI F.lay4 ?_;refine XA ?_;refine ZA ?_
   refine Yp 35 rfl (fun hc9=>?_) (fun hc9=>?_)
   ·skip
    refine ZA ?_;refine ZI F.lay25 ?_;refine X_fo rfl rfl F.ok53 rfl (wother_ok M bw Za Zc Zf Zh Zj Ze Zp Zi Zd Zo Zg Zb Zl Zs Zr ZF Zz ZM ZB Zv Zu Zn Zy Zm Zw ZD ZG ⟨YU,p_id⟩) (by repeat first|exact Rem.here _|exact Rem.two|apply Rem.skip|apply Rem.over) (Yv rfl) ?_
    rintro _ M1 _ ⟨hM1,rfl⟩;subst M1
    refine ZS ?_;refine ZC ?_;refine Zx (Zt (Y_pk [28,3,0] ?_))
    refine YA rfl (fun hc10=>?_) (fun hc10=>?_)
    ·replace hc10:=dT hc10
     refine ZJ (Xn (l:=[0,1,2]) [2] rfl ?_);refine ZA ?_;refine ZI F.lay25 ?_;refine WA rfl rfl rfl F.ok82 rfl (adopt_ok M bw Za Zc Zf Zh Zj Ze Zp Zi Zd Zo Zg Zb Zl Zs Zr ZF Zz ZM ZB Zv Zu Zn Zy Zm Zw ZD ZG Yk ⟨YU,p_id⟩ ⟨none,0,[]⟩ SlK.nil) (by repeat first|exact Rem.here _|exact Rem.two|apply Rem.skip|apply Rem.over) (Yv rfl) ?_
     rintro _ M1 hs1 hm1 ⟨rfl,⟨⟨wa,wi⟩,⟨wq,wj⟩,⟨w1a,w1c,w1l⟩,⟨w2a,w2c,w2l⟩⟩,rfl,okl,hv1⟩
     simp only [List.append_assoc,List.cons_append,List.nil_append]
     refine Zx (Wl ?_);refine Zt (Y_pk [0] ?_);refine Zq (l:=[0,1,2,3,4,5,6,7,8,9,10,11,12,13,14]) rfl ?_
     iterate 3 refine ZA ?_
     refine ZU ?_;refine Zk F.foff68_0 ?_;refine Zk F.foff32_2 ?_;refine Yi F.lay4 ?_;refine ZU ?_;refine Zk F.foff68_0 ?_;refine Zk F.foff32_4 ?_;refine Yi F.lay3 ?_;refine ZU ?_;refine Zk F.foff68_0 ?_;refine Zk F.foff32_13 ?_;refine Yi F.lay30 ?_;refine Zx (Wg ?_)
     refine Yj (.inl rfl) (.nil) (fun w hw=>?_)
     (refine ⟨_,M1,[(bw,rowO (ZR.segs ⟨⟨⟨⟨wa,wi⟩,⟨wq,wj⟩,⟨w1a,w1c,w1l⟩,⟨w2a,w2c,w2l⟩⟩,Zs,true,ZF,0,ZM,ZB,Zv,Zu,Zn,Zy,Zm,Zw,⟨none,0,[]⟩,ZD,ZG⟩,⟨none,0,[]⟩⟩) 68)],rfl,hm1,?_,rfl,⟨⟨⟨wa,wi⟩,⟨wq,wj⟩,⟨w1a,w1c,w1l⟩,⟨w2a,w2c,w2l⟩⟩,Zs,true,ZF,0,ZM,ZB,Zv,Zu,Zn,Zy,Zm,Zw,⟨none,0,[]⟩,ZD,ZG⟩,rfl,⟨okl,SlK.nil⟩,(end_adopt (n:=(ZP.nd ⟨⟨⟨Za,Zc⟩,⟨Zf,Zh⟩,⟨Zj,Zi,Zg⟩,⟨Ze,Zd,Zb⟩⟩,Zs,Zr,ZF,Zz,ZM,ZB,Zv,Zu,Zn,Zy,Zm,Zw,⟨Zp,Zo,Zl⟩,ZD,ZG⟩)) (show Zr=false by first|assumption|(simp_all;done)) (show Xr ⟨Za,Zc⟩ ⟨YU,p_id⟩ by assumption) hv1).symm⟩;simp only [ZR.segs,Sl.val,List.length_nil] at hw ⊢;exact hw.c)
    ·replace hc10:=dF hc10
     refine Yz (Wg ?_)
     refine Yj (.inl rfl) (.nil) (fun w hw=>?_)
     (refine ⟨_,M,[(bw,rowO (ZR.segs ⟨⟨⟨⟨Za,Zc⟩,⟨Zf,Zh⟩,⟨Zj,Zi,Zg⟩,⟨Ze,Zd,Zb⟩⟩,Zs,Zr,ZF,Zz,ZM,ZB,Zv,Zu,Zn,Zy,Zm,Zw,⟨Zp,Zo,Zl⟩,ZD,ZG⟩,⟨none,0,[]⟩⟩) 68)],rfl,Mem.le.refl M,?_,rfl,⟨⟨⟨Za,Zc⟩,⟨Zf,Zh⟩,⟨Zj,Zi,Zg⟩,⟨Ze,Zd,Zb⟩⟩,Zs,Zr,ZF,Zz,ZM,ZB,Zv,Zu,Zn,Zy,Zm,Zw,⟨Zp,Zo,Zl⟩,ZD,ZG⟩,rfl,⟨Yk,Yr⟩,(end_not (n:=(ZP.nd ⟨⟨⟨Za,Zc⟩,⟨Zf,Zh⟩,⟨Zj,Zi,Zg⟩,⟨Ze,Zd,Zb⟩⟩,Zs,Zr,ZF,Zz,ZM,ZB,Zv,Zu,Zn,Zy,Zm,Zw,⟨Zp,Zo,Zl⟩,ZD,ZG⟩)) (p:=⟨YU,p_id⟩) (fun q=>by
      have q9:Zr=true:=q
      exact ⟨show ¬Xr ⟨Za,Zc⟩ ⟨YU,p_id⟩ by first|assumption|(exfalso;simp_all;done),show ¬(⟨YU,p_id⟩:ZE)=⟨Za,Zc⟩ by first|assumption|(exfalso;simp_all;done)⟩) (fun q=>by
      have q9:Zr=false:=q
      (show ¬Xr ⟨Za,Zc⟩ ⟨YU,p_id⟩;assumption))).symm⟩;simp only [ZR.segs,Sl.val,List.length_nil] at hw ⊢;exact hw.c)
   ·skip
    iterate 3 refine Yh ?_
    refine ZS ?_;refine ZC ?_;refine Zx (Zt (Y_pk [28,3,0] ?_));refine Wq rfl ?_;refine Yz (Wg ?_)
    refine Yj (.inl rfl) (.nil) (fun w hw=>?_)
    (exfalso;simp_all;done)
theorem found_ok (M:Mem) (bw:Nat) (Za:Int) (Zc:Plc) (Zf:Int) (Zh:Plc) (Zj Ze Zp:Option Addr) (Zi Zd Zo:Nat) (Zg Zb:List ZE) (Zl:List Int) (Zs:Int) (Zr:Bool) (ZF Zz ZM ZB Zv Zu Zn Zy Zm:Int) (Zw:Plc) (ZD ZG:Int) (Yk:ZT.ok M ⟨⟨Za,Zc⟩,⟨Zf,Zh⟩,⟨Zj,Zi,Zg⟩,⟨Ze,Zd,Zb⟩⟩) (Yr:SlK M (oneI .i64) 1 ⟨Zp,Zo,Zl⟩) (hbig:Zg.length≤40∧Zb.length≤200) (hLa:Zl.length≤1000) (hh:0≤ZD∧ZD≤1000) (l:ZQ) (hl0:ZQ.ok M l) (hLp:l.peers.l.length≤1000) (hk:l.kind=2):Fh Tryz.prog 46 [.pointer (some ⟨bw,0,none⟩),l.enc] M [(bw,rowO (ZR.segs ⟨⟨⟨⟨Za,Zc⟩,⟨Zf,Zh⟩,⟨Zj,Zi,Zg⟩,⟨Ze,Zd,Zb⟩⟩,Zs,Zr,ZF,Zz,ZM,ZB,Zv,Zu,Zn,Zy,Zm,Zw,⟨Zp,Zo,Zl⟩,ZD,ZG⟩,⟨none,0,[]⟩⟩) 68)] (fun M' v Hout=>v=.tuple #[]∧WkF bw 68 M' Hout (XS (ZP.nd ⟨⟨⟨Za,Zc⟩,⟨Zf,Zh⟩,⟨Zj,Zi,Zg⟩,⟨Ze,Zd,Zb⟩⟩,Zs,Zr,ZF,Zz,ZM,ZB,Zv,Zu,Zn,Zy,Zm,Zw,⟨Zp,Zo,Zl⟩,ZD,ZG⟩) l.lt)):=by
  obtain ⟨ZZ,⟨ZN,Yq⟩,YG,l_id,⟨Yc,Yb,ZO⟩,YB,⟨ZL,ZV⟩,⟨Ya,ZX,ZK⟩⟩:=l
  simp only at hLp hk
  have Xm:SlK M (oneI .i64) 1 ⟨Yc,Yb,ZO⟩:=hl0.h0
  have YX:SlK M ZE.segs 21 ⟨Ya,ZX,ZK⟩:=hl0.h1
  have XP:=YX.h1
  simp only at XP
  have WI:(ZK.map ZE.segs).length=ZK.length:=List.length_map ..
  have WJ:ZK.length≤ZX:=YX.h3
  refine XQ (fun H=>(bw,rowO (ZR.segs ⟨⟨⟨⟨Za,Zc⟩,⟨Zf,Zh⟩,⟨Zj,Zi,Zg⟩,⟨Ze,Zd,Zb⟩⟩,Zs,Zr,ZF,Zz,ZM,ZB,Zv,Zu,Zn,Zy,Zm,Zw,⟨Zp,Zo,Zl⟩,ZD,ZG⟩,⟨none,0,[]⟩⟩) 68)::H) (fun _=>by simp only [List.append_assoc,List.cons_append,List.nil_append]) Tryz.func46 rfl Tryz.ntmps46 rfl ?_;intro H
  refine ZJ (Zq (l:=[0]) rfl ?_)
  refine Xk ?_;intro b1
  refine Zx (Zt (Y_pk [3,0] ?_))
  iterate 2 refine ZJ ?_
  refine YF (l:=[0,1,2,3,4,5,6,7,8,9,10,11,12,13,14,15,16,17,18]) #[0,1,3,7,15,0,32,96,255,511,1023,2047,4095,8191,16383,1023,33791,131071,262143] _ rfl (by kernel_rfl) (by kernel_rfl) St.drawn (fun _ h=>h) ?_;refine ZA ?_;refine ZU ?_;refine Zk F.foff68_0 ?_;refine Zk F.foff32_10 ?_;refine ZI F.lay3 ?_;refine Zk F.foff44_1 ?_;refine Zk F.foff25_0 ?_;refine ZI F.lay3 ?_;refine YC ?_;refine ZA ?_
  refine Yp 13 rfl (fun hc2=>?_) (fun hc2=>?_)
  ·replace hc2:=nT hc2
   iterate 8 refine Yh ?_
   refine ZS ?_;refine Zx (Zt (Y_pk [22,3,0] ?_));refine Xz rfl ?_;refine Yu (YY ?_)
   refine Yj (.inr rfl) (.nil) (fun w hw=>?_)
   have h3:XS (ZP.nd ⟨⟨⟨Za,Zc⟩,⟨Zf,Zh⟩,⟨Zj,Zi,Zg⟩,⟨Ze,Zd,Zb⟩⟩,Zs,Zr,ZF,Zz,ZM,ZB,Zv,Zu,Zn,Zy,Zm,Zw,⟨Zp,Zo,Zl⟩,ZD,ZG⟩) (ZQ.lt ⟨ZZ,⟨ZN,Yq⟩,YG,l_id,⟨Yc,Yb,ZO⟩,YB,⟨ZL,ZV⟩,⟨Ya,ZX,ZK⟩⟩)=((ZP.nd ⟨⟨⟨Za,Zc⟩,⟨Zf,Zh⟩,⟨Zj,Zi,Zg⟩,⟨Ze,Zd,Zb⟩⟩,Zs,Zr,ZF,Zz,ZM,ZB,Zv,Zu,Zn,Zy,Zm,Zw,⟨Zp,Zo,Zl⟩,ZD,ZG⟩),[]):=(does2 hk).trans (found_no (by exact .inl (by assumption)))
   refine ⟨_,M,[(bw,rowO (ZR.segs ⟨⟨⟨⟨Za,Zc⟩,⟨Zf,Zh⟩,⟨Zj,Zi,Zg⟩,⟨Ze,Zd,Zb⟩⟩,Zs,Zr,ZF,Zz,ZM,ZB,Zv,Zu,Zn,Zy,Zm,Zw,⟨Zp,Zo,Zl⟩,ZD,ZG⟩,⟨none,0,[]⟩⟩) 68)],rfl,Mem.le.refl M,hw.c,rfl,⟨⟨⟨Za,Zc⟩,⟨Zf,Zh⟩,⟨Zj,Zi,Zg⟩,⟨Ze,Zd,Zb⟩⟩,Zs,Zr,ZF,Zz,ZM,ZB,Zv,Zu,Zn,Zy,Zm,Zw,⟨Zp,Zo,Zl⟩,ZD,ZG⟩,⟨none,0,[]⟩,rfl,?_,?_,⟨Yk,Yr⟩,SlK.nil,fun y hy=>by cases hy⟩
   ·rw [h3] <;> rfl
   ·rw [h3] <;> rfl
  ·replace hc2:=nF hc2
   refine ZA ?_;refine ZU ?_;refine Zk F.foff68_0 ?_;refine Zk F.foff32_11 ?_;refine ZI F.lay29 ?_;refine Zk F.foff44_2 ?_;refine ZI F.lay29 ?_;refine YC ?_;refine ZS ?_;refine Zx (Zt (Y_pk [22,3,0] ?_))
   refine YA rfl (fun hc3=>?_) (fun hc3=>?_)
   ·replace hc3:=nT hc3
    refine Yu (YY ?_)
    refine Yj (.inr rfl) (.nil) (fun w hw=>?_)
    have h3:XS (ZP.nd ⟨⟨⟨Za,Zc⟩,⟨Zf,Zh⟩,⟨Zj,Zi,Zg⟩,⟨Ze,Zd,Zb⟩⟩,Zs,Zr,ZF,Zz,ZM,ZB,Zv,Zu,Zn,Zy,Zm,Zw,⟨Zp,Zo,Zl⟩,ZD,ZG⟩) (ZQ.lt ⟨ZZ,⟨ZN,Yq⟩,YG,l_id,⟨Yc,Yb,ZO⟩,YB,⟨ZL,ZV⟩,⟨Ya,ZX,ZK⟩⟩)=((ZP.nd ⟨⟨⟨Za,Zc⟩,⟨Zf,Zh⟩,⟨Zj,Zi,Zg⟩,⟨Ze,Zd,Zb⟩⟩,Zs,Zr,ZF,Zz,ZM,ZB,Zv,Zu,Zn,Zy,Zm,Zw,⟨Zp,Zo,Zl⟩,ZD,ZG⟩),[]):=(does2 hk).trans (found_no (by exact .inr (by assumption)))
    refine ⟨_,M,[(bw,rowO (ZR.segs ⟨⟨⟨⟨Za,Zc⟩,⟨Zf,Zh⟩,⟨Zj,Zi,Zg⟩,⟨Ze,Zd,Zb⟩⟩,Zs,Zr,ZF,Zz,ZM,ZB,Zv,Zu,Zn,Zy,Zm,Zw,⟨Zp,Zo,Zl⟩,ZD,ZG⟩,⟨none,0,[]⟩⟩) 68)],rfl,Mem.le.refl M,hw.c,rfl,⟨⟨⟨Za,Zc⟩,⟨Zf,Zh⟩,⟨Zj,Zi,Zg⟩,⟨Ze,Zd,Zb⟩⟩,Zs,Zr,ZF,Zz,ZM,ZB,Zv,Zu,Zn,Zy,Zm,Zw,⟨Zp,Zo,Zl⟩,ZD,ZG⟩,⟨none,0,[]⟩,rfl,?_,?_,⟨Yk,Yr⟩,SlK.nil,fun y hy=>by cases hy⟩
    ·rw [h3] <;> rfl
    ·rw [h3] <;> rfl
   ·replace hc3:=nF hc3
    refine Yz (Zt (Y_pk [3,0] ?_))
    iterate 2 refine ZJ ?_
    refine Zq (l:=[0,1]) rfl ?_;refine Zk F.foff44_5 ?_;refine ZI F.lay4 ?_;refine Zx (Zt (Y_pk [24,3,0] ?_))
    refine YA rfl (fun hc4=>?_) (fun hc4=>?_)
    ·skip
     refine ZJ (Zq (l:=[0,1,2,3,4]) rfl ?_);refine ZA ?_;refine ZU ?_;refine Zk F.foff68_0 ?_;refine Zk F.foff32_10 ?_;refine Yi F.lay3 ?_;refine Zx (Zt (Y_pk [3,0] ?_));refine ZJ (Xn (l:=[0,1,2,3]) [3] rfl ?_);refine ZA ?_;refine Zk F.foff44_6 ?_;refine ZI F.lay25 ?_;refine WA rfl rfl rfl F.ok102 rfl (end_ok M bw Za Zc Zf Zh Zj Ze Zp Zi Zd Zo Zg Zb Zl Zs Zr ZF Zz ZM ZB Zv Zu Zn (-1) Zm Zw ZD ZG Yk Yr ⟨ZL,ZV⟩) (by repeat first|exact Rem.here _|exact Rem.two|apply Rem.skip|apply Rem.over) (Yv rfl) ?_
     rintro _ M1 hs1 hm1 ⟨rfl,⟨⟨⟨YH,YO⟩,⟨YI,YP⟩,⟨YT,YS,YR⟩,⟨YL,YK,YJ⟩⟩,XN,XR,Wp,XM,WS,Wd,XO,XJ,Xt,XK,Xu,XL,⟨Xx,Xw,Xv⟩,Wo,Wn⟩,rfl,okv,hv1⟩
     simp only [List.append_assoc,List.cons_append,List.nil_append]
     refine Zx (Wl ?_);refine Zt (Y_pk [3,0] ?_);refine Yu (YY ?_)
     refine Yj (.inr rfl) (.nil) (fun w hw=>?_)
     have h3:XS (ZP.nd ⟨⟨⟨Za,Zc⟩,⟨Zf,Zh⟩,⟨Zj,Zi,Zg⟩,⟨Ze,Zd,Zb⟩⟩,Zs,Zr,ZF,Zz,ZM,ZB,Zv,Zu,Zn,Zy,Zm,Zw,⟨Zp,Zo,Zl⟩,ZD,ZG⟩) (ZQ.lt ⟨ZZ,⟨ZN,Yq⟩,YG,l_id,⟨Yc,Yb,ZO⟩,YB,⟨ZL,ZV⟩,⟨Ya,ZX,ZK⟩⟩)=(ZP.nd ⟨⟨⟨YH,YO⟩,⟨YI,YP⟩,⟨YT,YS,YR⟩,⟨YL,YK,YJ⟩⟩,XN,XR,Wp,XM,WS,Wd,XO,XJ,Xt,XK,Xu,XL,⟨Xx,Xw,Xv⟩,Wo,Wn⟩,[]):=(does2 hk).trans ((found_end (n:=(ZP.nd ⟨⟨⟨Za,Zc⟩,⟨Zf,Zh⟩,⟨Zj,Zi,Zg⟩,⟨Ze,Zd,Zb⟩⟩,Zs,Zr,ZF,Zz,ZM,ZB,Zv,Zu,Zn,Zy,Zm,Zw,⟨Zp,Zo,Zl⟩,ZD,ZG⟩)) (l:=(ZQ.lt ⟨ZZ,⟨ZN,Yq⟩,YG,l_id,⟨Yc,Yb,ZO⟩,YB,⟨ZL,ZV⟩,⟨Ya,ZX,ZK⟩⟩)) (show (ZP.nd ⟨⟨⟨Za,Zc⟩,⟨Zf,Zh⟩,⟨Zj,Zi,Zg⟩,⟨Ze,Zd,Zb⟩⟩,Zs,Zr,ZF,Zz,ZM,ZB,Zv,Zu,Zn,Zy,Zm,Zw,⟨Zp,Zo,Zl⟩,ZD,ZG⟩).findTo=(ZQ.lt ⟨ZZ,⟨ZN,Yq⟩,YG,l_id,⟨Yc,Yb,ZO⟩,YB,⟨ZL,ZV⟩,⟨Ya,ZX,ZK⟩⟩).frm.addr by show Zy=ZN;first|assumption|omega) (show (ZP.nd ⟨⟨⟨Za,Zc⟩,⟨Zf,Zh⟩,⟨Zj,Zi,Zg⟩,⟨Ze,Zd,Zb⟩⟩,Zs,Zr,ZF,Zz,ZM,ZB,Zv,Zu,Zn,Zy,Zm,Zw,⟨Zp,Zo,Zl⟩,ZD,ZG⟩).findReq=(ZQ.lt ⟨ZZ,⟨ZN,Yq⟩,YG,l_id,⟨Yc,Yb,ZO⟩,YB,⟨ZL,ZV⟩,⟨Ya,ZX,ZK⟩⟩).req by show Zm=YG;first|assumption|omega) (show YB=true by first|assumption|(simp_all;done))).trans (congrArg (fun x=>(x,([]:List Snd))) hv1.symm))
     refine ⟨_,M1,[(bw,rowO (ZR.segs ⟨⟨⟨⟨YH,YO⟩,⟨YI,YP⟩,⟨YT,YS,YR⟩,⟨YL,YK,YJ⟩⟩,XN,XR,Wp,XM,WS,Wd,XO,XJ,Xt,XK,Xu,XL,⟨Xx,Xw,Xv⟩,Wo,Wn⟩,⟨none,0,[]⟩⟩) 68)],rfl,hm1,hw.c,rfl,⟨⟨⟨YH,YO⟩,⟨YI,YP⟩,⟨YT,YS,YR⟩,⟨YL,YK,YJ⟩⟩,XN,XR,Wp,XM,WS,Wd,XO,XJ,Xt,XK,Xu,XL,⟨Xx,Xw,Xv⟩,Wo,Wn⟩,⟨none,0,[]⟩,rfl,?_,?_,okv,SlK.nil,fun y hy=>by cases hy⟩
     ·rw [h3] <;> rfl
     ·rw [h3] <;> rfl
    ·skip
     refine Yz (Zt (Y_pk [3,0] ?_))
     iterate 2 refine ZJ ?_
     refine YF (l:=[0,1,2,3,4,5,6,7,8,9,10,11,12,13,14,15,16,17,18,19,20,21,22,23,24,25,26,27,28,29,30,31,32]) #[0,0,2,7,15,31,63,127,255,511,1023,63,2111,6207,16383,32767,65535,131071,262143,524287,131071,1179647,3276799,8388607,16777215,33554431,67108863,134217727,268435455,536870911,1073741823,2147483647,4294967295] _ rfl (by kernel_rfl) (by kernel_rfl) St.drawn (fun _ h=>h) ?_;refine ZA ?_;refine Zk F.foff44_6 ?_;refine ZI F.lay25 ?_;refine X_fo rfl rfl F.ok53 rfl (wother_ok M bw Za Zc Zf Zh Zj Ze Zp Zi Zd Zo Zg Zb Zl Zs Zr ZF Zz ZM ZB Zv Zu Zn Zy Zm Zw ZD ZG ⟨ZL,ZV⟩) (by repeat first|exact Rem.here _|exact Rem.two|apply Rem.skip|apply Rem.over) (Yv rfl) ?_
     rintro _ M1 _ ⟨hM1,rfl⟩;subst M1
     refine XA ?_;refine ZA ?_
     refine Yp 38 rfl (fun hc5=>?_) (fun hc5=>?_)
     ·replace hc5:=nT hc5
      iterate 9 refine Yh ?_
      refine ZS ?_;refine ZA ?_
      iterate 7 refine Yh ?_
      refine ZS ?_;refine ZA ?_
      iterate 6 refine Yh ?_
      refine ZS ?_;refine Zx (Zt (Y_pk [65,3,0] ?_));refine Xz rfl ?_;refine ZJ (Zq (l:=[0,1,2,3,4]) rfl ?_);refine ZA ?_;refine ZU ?_;refine Zk F.foff68_0 ?_;refine Zk F.foff32_10 ?_;refine Yi F.lay3 ?_;refine Zx (Zt (Y_pk [3,0] ?_));refine Yu (YY ?_)
      refine Yj (.inr rfl) (.nil) (fun w hw=>?_)
      have h3:XS (ZP.nd ⟨⟨⟨Za,Zc⟩,⟨Zf,Zh⟩,⟨Zj,Zi,Zg⟩,⟨Ze,Zd,Zb⟩⟩,Zs,Zr,ZF,Zz,ZM,ZB,Zv,Zu,Zn,Zy,Zm,Zw,⟨Zp,Zo,Zl⟩,ZD,ZG⟩) (ZQ.lt ⟨ZZ,⟨ZN,Yq⟩,YG,l_id,⟨Yc,Yb,ZO⟩,YB,⟨ZL,ZV⟩,⟨Ya,ZX,ZK⟩⟩)=(ZP.nd ⟨⟨⟨Za,Zc⟩,⟨Zf,Zh⟩,⟨Zj,Zi,Zg⟩,⟨Ze,Zd,Zb⟩⟩,Zs,Zr,ZF,Zz,ZM,ZB,Zv,Zu,Zn,(-1),Zm,Zw,⟨Zp,Zo,Zl⟩,ZD,ZG⟩,[]):=(does2 hk).trans (found_drop (n:=(ZP.nd ⟨⟨⟨Za,Zc⟩,⟨Zf,Zh⟩,⟨Zj,Zi,Zg⟩,⟨Ze,Zd,Zb⟩⟩,Zs,Zr,ZF,Zz,ZM,ZB,Zv,Zu,Zn,Zy,Zm,Zw,⟨Zp,Zo,Zl⟩,ZD,ZG⟩)) (l:=(ZQ.lt ⟨ZZ,⟨ZN,Yq⟩,YG,l_id,⟨Yc,Yb,ZO⟩,YB,⟨ZL,ZV⟩,⟨Ya,ZX,ZK⟩⟩)) (show (ZP.nd ⟨⟨⟨Za,Zc⟩,⟨Zf,Zh⟩,⟨Zj,Zi,Zg⟩,⟨Ze,Zd,Zb⟩⟩,Zs,Zr,ZF,Zz,ZM,ZB,Zv,Zu,Zn,Zy,Zm,Zw,⟨Zp,Zo,Zl⟩,ZD,ZG⟩).findTo=(ZQ.lt ⟨ZZ,⟨ZN,Yq⟩,YG,l_id,⟨Yc,Yb,ZO⟩,YB,⟨ZL,ZV⟩,⟨Ya,ZX,ZK⟩⟩).frm.addr by show Zy=ZN;first|assumption|omega) (show (ZP.nd ⟨⟨⟨Za,Zc⟩,⟨Zf,Zh⟩,⟨Zj,Zi,Zg⟩,⟨Ze,Zd,Zb⟩⟩,Zs,Zr,ZF,Zz,ZM,ZB,Zv,Zu,Zn,Zy,Zm,Zw,⟨Zp,Zo,Zl⟩,ZD,ZG⟩).findReq=(ZQ.lt ⟨ZZ,⟨ZN,Yq⟩,YG,l_id,⟨Yc,Yb,ZO⟩,YB,⟨ZL,ZV⟩,⟨Ya,ZX,ZK⟩⟩).req by show Zm=YG;first|assumption|omega) (show YB=false by first|assumption|(simp_all;done)) (show ¬Xr ⟨Za,Zc⟩ ⟨ZL,ZV⟩∨ZL∈Zl∨ZL=ZN∨32≤ZD by first|exact .inl (by assumption)|exact .inr (.inl (by assumption))|exact .inr (.inr (.inl (by assumption)))|exact .inr (.inr (.inr (by omega)))))
      refine ⟨_,M,[(bw,rowO (ZR.segs ⟨⟨⟨⟨Za,Zc⟩,⟨Zf,Zh⟩,⟨Zj,Zi,Zg⟩,⟨Ze,Zd,Zb⟩⟩,Zs,Zr,ZF,Zz,ZM,ZB,Zv,Zu,Zn,(-1),Zm,Zw,⟨Zp,Zo,Zl⟩,ZD,ZG⟩,⟨none,0,[]⟩⟩) 68)],rfl,Mem.le.refl M,hw.c,rfl,⟨⟨⟨Za,Zc⟩,⟨Zf,Zh⟩,⟨Zj,Zi,Zg⟩,⟨Ze,Zd,Zb⟩⟩,Zs,Zr,ZF,Zz,ZM,ZB,Zv,Zu,Zn,(-1),Zm,Zw,⟨Zp,Zo,Zl⟩,ZD,ZG⟩,⟨none,0,[]⟩,rfl,?_,?_,⟨Yk,Yr⟩,SlK.nil,fun y hy=>by cases hy⟩
      ·rw [h3] <;> rfl
      ·rw [h3] <;> rfl
     ·replace hc5:=nF hc5
      refine ZA ?_;refine ZU ?_;refine Zk F.foff68_0 ?_;refine Zk F.foff32_13 ?_;refine ZI F.lay30 ?_;refine Zk F.foff44_6 ?_;refine Zk F.foff25_0 ?_;refine ZI F.lay3 ?_;refine X_fo rfl rfl F.ok103 rfl (ContainsI_rd M [] ⟨Zp,Zo,Zl⟩ ZL (Yr.h1.rd []) Yr.h2) (by repeat first|exact Rem.here _|exact Rem.two|apply Rem.skip|apply Rem.over) (Yv rfl) ?_
      rintro _ M1 _ ⟨hM1,rfl⟩;subst M1
      refine ZS ?_;refine ZA ?_
      refine Yp 49 rfl (fun hc6=>?_) (fun hc6=>?_)
      ·replace hc6:=dT hc6
       simp only [ZE.eta,ZT.eta,ZP.eta,ZQ.eta,Yw.eta,ZR.eta,YM.eta,ZY.eta] at hc6
       iterate 7 refine Yh ?_
       refine ZS ?_;refine ZA ?_
       iterate 6 refine Yh ?_
       refine ZS ?_;refine Zx (Zt (Y_pk [65,3,0] ?_));refine Xz rfl ?_;refine ZJ (Zq (l:=[0,1,2,3,4]) rfl ?_);refine ZA ?_;refine ZU ?_;refine Zk F.foff68_0 ?_;refine Zk F.foff32_10 ?_;refine Yi F.lay3 ?_;refine Zx (Zt (Y_pk [3,0] ?_));refine Yu (YY ?_)
       refine Yj (.inr rfl) (.nil) (fun w hw=>?_)
       have h3:XS (ZP.nd ⟨⟨⟨Za,Zc⟩,⟨Zf,Zh⟩,⟨Zj,Zi,Zg⟩,⟨Ze,Zd,Zb⟩⟩,Zs,Zr,ZF,Zz,ZM,ZB,Zv,Zu,Zn,Zy,Zm,Zw,⟨Zp,Zo,Zl⟩,ZD,ZG⟩) (ZQ.lt ⟨ZZ,⟨ZN,Yq⟩,YG,l_id,⟨Yc,Yb,ZO⟩,YB,⟨ZL,ZV⟩,⟨Ya,ZX,ZK⟩⟩)=(ZP.nd ⟨⟨⟨Za,Zc⟩,⟨Zf,Zh⟩,⟨Zj,Zi,Zg⟩,⟨Ze,Zd,Zb⟩⟩,Zs,Zr,ZF,Zz,ZM,ZB,Zv,Zu,Zn,(-1),Zm,Zw,⟨Zp,Zo,Zl⟩,ZD,ZG⟩,[]):=(does2 hk).trans (found_drop (n:=(ZP.nd ⟨⟨⟨Za,Zc⟩,⟨Zf,Zh⟩,⟨Zj,Zi,Zg⟩,⟨Ze,Zd,Zb⟩⟩,Zs,Zr,ZF,Zz,ZM,ZB,Zv,Zu,Zn,Zy,Zm,Zw,⟨Zp,Zo,Zl⟩,ZD,ZG⟩)) (l:=(ZQ.lt ⟨ZZ,⟨ZN,Yq⟩,YG,l_id,⟨Yc,Yb,ZO⟩,YB,⟨ZL,ZV⟩,⟨Ya,ZX,ZK⟩⟩)) (show (ZP.nd ⟨⟨⟨Za,Zc⟩,⟨Zf,Zh⟩,⟨Zj,Zi,Zg⟩,⟨Ze,Zd,Zb⟩⟩,Zs,Zr,ZF,Zz,ZM,ZB,Zv,Zu,Zn,Zy,Zm,Zw,⟨Zp,Zo,Zl⟩,ZD,ZG⟩).findTo=(ZQ.lt ⟨ZZ,⟨ZN,Yq⟩,YG,l_id,⟨Yc,Yb,ZO⟩,YB,⟨ZL,ZV⟩,⟨Ya,ZX,ZK⟩⟩).frm.addr by show Zy=ZN;first|assumption|omega) (show (ZP.nd ⟨⟨⟨Za,Zc⟩,⟨Zf,Zh⟩,⟨Zj,Zi,Zg⟩,⟨Ze,Zd,Zb⟩⟩,Zs,Zr,ZF,Zz,ZM,ZB,Zv,Zu,Zn,Zy,Zm,Zw,⟨Zp,Zo,Zl⟩,ZD,ZG⟩).findReq=(ZQ.lt ⟨ZZ,⟨ZN,Yq⟩,YG,l_id,⟨Yc,Yb,ZO⟩,YB,⟨ZL,ZV⟩,⟨Ya,ZX,ZK⟩⟩).req by show Zm=YG;first|assumption|omega) (show YB=false by first|assumption|(simp_all;done)) (show ¬Xr ⟨Za,Zc⟩ ⟨ZL,ZV⟩∨ZL∈Zl∨ZL=ZN∨32≤ZD by first|exact .inl (by assumption)|exact .inr (.inl (by assumption))|exact .inr (.inr (.inl (by assumption)))|exact .inr (.inr (.inr (by omega)))))
       refine ⟨_,M,[(bw,rowO (ZR.segs ⟨⟨⟨⟨Za,Zc⟩,⟨Zf,Zh⟩,⟨Zj,Zi,Zg⟩,⟨Ze,Zd,Zb⟩⟩,Zs,Zr,ZF,Zz,ZM,ZB,Zv,Zu,Zn,(-1),Zm,Zw,⟨Zp,Zo,Zl⟩,ZD,ZG⟩,⟨none,0,[]⟩⟩) 68)],rfl,Mem.le.refl M,hw.c,rfl,⟨⟨⟨Za,Zc⟩,⟨Zf,Zh⟩,⟨Zj,Zi,Zg⟩,⟨Ze,Zd,Zb⟩⟩,Zs,Zr,ZF,Zz,ZM,ZB,Zv,Zu,Zn,(-1),Zm,Zw,⟨Zp,Zo,Zl⟩,ZD,ZG⟩,⟨none,0,[]⟩,rfl,?_,?_,⟨Yk,Yr⟩,SlK.nil,fun y hy=>by cases hy⟩
       ·rw [h3] <;> rfl
       ·rw [h3] <;> rfl
      ·replace hc6:=dF hc6
       simp only [ZE.eta,ZT.eta,ZP.eta,ZQ.eta,Yw.eta,ZR.eta,YM.eta,ZY.eta] at hc6
       refine Zk F.foff44_6 ?_;refine Zk F.foff25_0 ?_;refine ZI F.lay3 ?_;refine Zk F.foff44_1 ?_;refine Zk F.foff25_0 ?_;refine ZI F.lay3 ?_;refine YC ?_;refine ZS ?_;refine ZA ?_
       refine Yp 58 rfl (fun hc7=>?_) (fun hc7=>?_)
       ·replace hc7:=dT hc7
        iterate 6 refine Yh ?_
        refine ZS ?_;refine Zx (Zt (Y_pk [65,3,0] ?_));refine Xz rfl ?_;refine ZJ (Zq (l:=[0,1,2,3,4]) rfl ?_);refine ZA ?_;refine ZU ?_;refine Zk F.foff68_0 ?_;refine Zk F.foff32_10 ?_;refine Yi F.lay3 ?_;refine Zx (Zt (Y_pk [3,0] ?_));refine Yu (YY ?_)
        refine Yj (.inr rfl) (.nil) (fun w hw=>?_)
        have h3:XS (ZP.nd ⟨⟨⟨Za,Zc⟩,⟨Zf,Zh⟩,⟨Zj,Zi,Zg⟩,⟨Ze,Zd,Zb⟩⟩,Zs,Zr,ZF,Zz,ZM,ZB,Zv,Zu,Zn,Zy,Zm,Zw,⟨Zp,Zo,Zl⟩,ZD,ZG⟩) (ZQ.lt ⟨ZZ,⟨ZN,Yq⟩,YG,l_id,⟨Yc,Yb,ZO⟩,YB,⟨ZL,ZV⟩,⟨Ya,ZX,ZK⟩⟩)=(ZP.nd ⟨⟨⟨Za,Zc⟩,⟨Zf,Zh⟩,⟨Zj,Zi,Zg⟩,⟨Ze,Zd,Zb⟩⟩,Zs,Zr,ZF,Zz,ZM,ZB,Zv,Zu,Zn,(-1),Zm,Zw,⟨Zp,Zo,Zl⟩,ZD,ZG⟩,[]):=(does2 hk).trans (found_drop (n:=(ZP.nd ⟨⟨⟨Za,Zc⟩,⟨Zf,Zh⟩,⟨Zj,Zi,Zg⟩,⟨Ze,Zd,Zb⟩⟩,Zs,Zr,ZF,Zz,ZM,ZB,Zv,Zu,Zn,Zy,Zm,Zw,⟨Zp,Zo,Zl⟩,ZD,ZG⟩)) (l:=(ZQ.lt ⟨ZZ,⟨ZN,Yq⟩,YG,l_id,⟨Yc,Yb,ZO⟩,YB,⟨ZL,ZV⟩,⟨Ya,ZX,ZK⟩⟩)) (show (ZP.nd ⟨⟨⟨Za,Zc⟩,⟨Zf,Zh⟩,⟨Zj,Zi,Zg⟩,⟨Ze,Zd,Zb⟩⟩,Zs,Zr,ZF,Zz,ZM,ZB,Zv,Zu,Zn,Zy,Zm,Zw,⟨Zp,Zo,Zl⟩,ZD,ZG⟩).findTo=(ZQ.lt ⟨ZZ,⟨ZN,Yq⟩,YG,l_id,⟨Yc,Yb,ZO⟩,YB,⟨ZL,ZV⟩,⟨Ya,ZX,ZK⟩⟩).frm.addr by show Zy=ZN;first|assumption|omega) (show (ZP.nd ⟨⟨⟨Za,Zc⟩,⟨Zf,Zh⟩,⟨Zj,Zi,Zg⟩,⟨Ze,Zd,Zb⟩⟩,Zs,Zr,ZF,Zz,ZM,ZB,Zv,Zu,Zn,Zy,Zm,Zw,⟨Zp,Zo,Zl⟩,ZD,ZG⟩).findReq=(ZQ.lt ⟨ZZ,⟨ZN,Yq⟩,YG,l_id,⟨Yc,Yb,ZO⟩,YB,⟨ZL,ZV⟩,⟨Ya,ZX,ZK⟩⟩).req by show Zm=YG;first|assumption|omega) (show YB=false by first|assumption|(simp_all;done)) (show ¬Xr ⟨Za,Zc⟩ ⟨ZL,ZV⟩∨ZL∈Zl∨ZL=ZN∨32≤ZD by first|exact .inl (by assumption)|exact .inr (.inl (by assumption))|exact .inr (.inr (.inl (by assumption)))|exact .inr (.inr (.inr (by omega)))))
        refine ⟨_,M,[(bw,rowO (ZR.segs ⟨⟨⟨⟨Za,Zc⟩,⟨Zf,Zh⟩,⟨Zj,Zi,Zg⟩,⟨Ze,Zd,Zb⟩⟩,Zs,Zr,ZF,Zz,ZM,ZB,Zv,Zu,Zn,(-1),Zm,Zw,⟨Zp,Zo,Zl⟩,ZD,ZG⟩,⟨none,0,[]⟩⟩) 68)],rfl,Mem.le.refl M,hw.c,rfl,⟨⟨⟨Za,Zc⟩,⟨Zf,Zh⟩,⟨Zj,Zi,Zg⟩,⟨Ze,Zd,Zb⟩⟩,Zs,Zr,ZF,Zz,ZM,ZB,Zv,Zu,Zn,(-1),Zm,Zw,⟨Zp,Zo,Zl⟩,ZD,ZG⟩,⟨none,0,[]⟩,rfl,?_,?_,⟨Yk,Yr⟩,SlK.nil,fun y hy=>by cases hy⟩
        ·rw [h3] <;> rfl
        ·rw [h3] <;> rfl
       ·replace hc7:=dF hc7
        refine ZA ?_;refine ZU ?_;refine Zk F.foff68_0 ?_;refine Zk F.foff32_14 ?_;refine ZI F.lay3 ?_;refine YC ?_;refine ZS ?_;refine Zx (Zt (Y_pk [65,3,0] ?_))
        refine YA rfl (fun hc8=>?_) (fun hc8=>?_)
        ·replace hc8:=dT hc8
         refine ZJ (Zq (l:=[0,1,2,3,4]) rfl ?_);refine ZA ?_;refine ZU ?_;refine Zk F.foff68_0 ?_;refine Zk F.foff32_10 ?_;refine Yi F.lay3 ?_;refine Zx (Zt (Y_pk [3,0] ?_));refine Yu (YY ?_)
         refine Yj (.inr rfl) (.nil) (fun w hw=>?_)
         have h3:XS (ZP.nd ⟨⟨⟨Za,Zc⟩,⟨Zf,Zh⟩,⟨Zj,Zi,Zg⟩,⟨Ze,Zd,Zb⟩⟩,Zs,Zr,ZF,Zz,ZM,ZB,Zv,Zu,Zn,Zy,Zm,Zw,⟨Zp,Zo,Zl⟩,ZD,ZG⟩) (ZQ.lt ⟨ZZ,⟨ZN,Yq⟩,YG,l_id,⟨Yc,Yb,ZO⟩,YB,⟨ZL,ZV⟩,⟨Ya,ZX,ZK⟩⟩)=(ZP.nd ⟨⟨⟨Za,Zc⟩,⟨Zf,Zh⟩,⟨Zj,Zi,Zg⟩,⟨Ze,Zd,Zb⟩⟩,Zs,Zr,ZF,Zz,ZM,ZB,Zv,Zu,Zn,(-1),Zm,Zw,⟨Zp,Zo,Zl⟩,ZD,ZG⟩,[]):=(does2 hk).trans (found_drop (n:=(ZP.nd ⟨⟨⟨Za,Zc⟩,⟨Zf,Zh⟩,⟨Zj,Zi,Zg⟩,⟨Ze,Zd,Zb⟩⟩,Zs,Zr,ZF,Zz,ZM,ZB,Zv,Zu,Zn,Zy,Zm,Zw,⟨Zp,Zo,Zl⟩,ZD,ZG⟩)) (l:=(ZQ.lt ⟨ZZ,⟨ZN,Yq⟩,YG,l_id,⟨Yc,Yb,ZO⟩,YB,⟨ZL,ZV⟩,⟨Ya,ZX,ZK⟩⟩)) (show (ZP.nd ⟨⟨⟨Za,Zc⟩,⟨Zf,Zh⟩,⟨Zj,Zi,Zg⟩,⟨Ze,Zd,Zb⟩⟩,Zs,Zr,ZF,Zz,ZM,ZB,Zv,Zu,Zn,Zy,Zm,Zw,⟨Zp,Zo,Zl⟩,ZD,ZG⟩).findTo=(ZQ.lt ⟨ZZ,⟨ZN,Yq⟩,YG,l_id,⟨Yc,Yb,ZO⟩,YB,⟨ZL,ZV⟩,⟨Ya,ZX,ZK⟩⟩).frm.addr by show Zy=ZN;first|assumption|omega) (show (ZP.nd ⟨⟨⟨Za,Zc⟩,⟨Zf,Zh⟩,⟨Zj,Zi,Zg⟩,⟨Ze,Zd,Zb⟩⟩,Zs,Zr,ZF,Zz,ZM,ZB,Zv,Zu,Zn,Zy,Zm,Zw,⟨Zp,Zo,Zl⟩,ZD,ZG⟩).findReq=(ZQ.lt ⟨ZZ,⟨ZN,Yq⟩,YG,l_id,⟨Yc,Yb,ZO⟩,YB,⟨ZL,ZV⟩,⟨Ya,ZX,ZK⟩⟩).req by show Zm=YG;first|assumption|omega) (show YB=false by first|assumption|(simp_all;done)) (show ¬Xr ⟨Za,Zc⟩ ⟨ZL,ZV⟩∨ZL∈Zl∨ZL=ZN∨32≤ZD by first|exact .inl (by assumption)|exact .inr (.inl (by assumption))|exact .inr (.inr (.inl (by assumption)))|exact .inr (.inr (.inr (by omega)))))
         refine ⟨_,M,[(bw,rowO (ZR.segs ⟨⟨⟨⟨Za,Zc⟩,⟨Zf,Zh⟩,⟨Zj,Zi,Zg⟩,⟨Ze,Zd,Zb⟩⟩,Zs,Zr,ZF,Zz,ZM,ZB,Zv,Zu,Zn,(-1),Zm,Zw,⟨Zp,Zo,Zl⟩,ZD,ZG⟩,⟨none,0,[]⟩⟩) 68)],rfl,Mem.le.refl M,hw.c,rfl,⟨⟨⟨Za,Zc⟩,⟨Zf,Zh⟩,⟨Zj,Zi,Zg⟩,⟨Ze,Zd,Zb⟩⟩,Zs,Zr,ZF,Zz,ZM,ZB,Zv,Zu,Zn,(-1),Zm,Zw,⟨Zp,Zo,Zl⟩,ZD,ZG⟩,⟨none,0,[]⟩,rfl,?_,?_,⟨Yk,Yr⟩,SlK.nil,fun y hy=>by cases hy⟩
         ·rw [h3] <;> rfl
         ·rw [h3] <;> rfl
        ·replace hc8:=dF hc8
         refine Yz (Zt (Y_pk [3,0] ?_));refine ZJ (Zq (l:=[0,1,2,3,4,5,6,7,8,9]) rfl ?_);refine ZA ?_;refine ZU ?_;refine Zk F.foff68_0 ?_;refine Zk F.foff32_14 ?_;refine ZI F.lay3 ?_;refine XY rfl rfl rfl rfl rfl (by exact Xl (by decide) (by omega)) rfl ?_;refine ZU ?_;refine Zk F.foff68_0 ?_;refine Zk F.foff32_14 ?_;refine Yi F.lay3 ?_;refine Zx (Zt (Y_pk [3,0] ?_));refine Xn (l:=[0,1,2,3,4]) [4] rfl ?_;refine ZA ?_;refine Zk F.foff44_6 ?_;refine Zk F.foff25_0 ?_;refine ZI F.lay3 ?_;refine WA rfl rfl rfl F.ok89 rfl (seek_ok M bw Za Zc Zf Zh Zj Ze Zp Zi Zd Zo Zg Zb Zl Zs Zr ZF Zz ZM ZB Zv Zu Zn Zy Zm Zw (ZD+1) ZG Yk Yr hLa ZL) (by repeat first|exact Rem.here _|exact Rem.two|apply Rem.skip|apply Rem.over) (Yv rfl) ?_
         rintro _ M2 hs2 hm2 ⟨rfl,⟨⟨⟨YH,YO⟩,⟨YI,YP⟩,⟨YT,YS,YR⟩,⟨YL,YK,YJ⟩⟩,XN,XR,Wp,XM,WS,Wd,XO,XJ,Xt,XK,Xu,XL,⟨Xx,Xw,Xv⟩,Wo,Wn⟩,⟨o_a,o_c,o_l⟩,rfl,hv1,hv2,okv,oko,okq⟩
         simp only [List.append_assoc,List.cons_append,List.nil_append]
         refine Zx (Wl ?_)
         refine Yj (.inl rfl) (.nil) (fun w hw=>?_)
         have h3:=(does2 (n:=(ZP.nd ⟨⟨⟨Za,Zc⟩,⟨Zf,Zh⟩,⟨Zj,Zi,Zg⟩,⟨Ze,Zd,Zb⟩⟩,Zs,Zr,ZF,Zz,ZM,ZB,Zv,Zu,Zn,Zy,Zm,Zw,⟨Zp,Zo,Zl⟩,ZD,ZG⟩)) (l:=(ZQ.lt ⟨ZZ,⟨ZN,Yq⟩,YG,l_id,⟨Yc,Yb,ZO⟩,YB,⟨ZL,ZV⟩,⟨Ya,ZX,ZK⟩⟩)) hk).trans (found_seek (n:=(ZP.nd ⟨⟨⟨Za,Zc⟩,⟨Zf,Zh⟩,⟨Zj,Zi,Zg⟩,⟨Ze,Zd,Zb⟩⟩,Zs,Zr,ZF,Zz,ZM,ZB,Zv,Zu,Zn,Zy,Zm,Zw,⟨Zp,Zo,Zl⟩,ZD,ZG⟩)) (l:=(ZQ.lt ⟨ZZ,⟨ZN,Yq⟩,YG,l_id,⟨Yc,Yb,ZO⟩,YB,⟨ZL,ZV⟩,⟨Ya,ZX,ZK⟩⟩)) (show (ZP.nd ⟨⟨⟨Za,Zc⟩,⟨Zf,Zh⟩,⟨Zj,Zi,Zg⟩,⟨Ze,Zd,Zb⟩⟩,Zs,Zr,ZF,Zz,ZM,ZB,Zv,Zu,Zn,Zy,Zm,Zw,⟨Zp,Zo,Zl⟩,ZD,ZG⟩).findTo=(ZQ.lt ⟨ZZ,⟨ZN,Yq⟩,YG,l_id,⟨Yc,Yb,ZO⟩,YB,⟨ZL,ZV⟩,⟨Ya,ZX,ZK⟩⟩).frm.addr by show Zy=ZN;first|assumption|omega) (show (ZP.nd ⟨⟨⟨Za,Zc⟩,⟨Zf,Zh⟩,⟨Zj,Zi,Zg⟩,⟨Ze,Zd,Zb⟩⟩,Zs,Zr,ZF,Zz,ZM,ZB,Zv,Zu,Zn,Zy,Zm,Zw,⟨Zp,Zo,Zl⟩,ZD,ZG⟩).findReq=(ZQ.lt ⟨ZZ,⟨ZN,Yq⟩,YG,l_id,⟨Yc,Yb,ZO⟩,YB,⟨ZL,ZV⟩,⟨Ya,ZX,ZK⟩⟩).req by show Zm=YG;first|assumption|omega) (show YB=false by first|assumption|(simp_all;done)) (show Xr ⟨Za,Zc⟩ ⟨ZL,ZV⟩ by assumption) (show ZL∉Zl by assumption) (show ZL≠ZN by assumption) (show ¬32≤ZD by omega))
         exact ⟨_,M2,[(bw,rowO (ZR.segs ⟨⟨⟨⟨YH,YO⟩,⟨YI,YP⟩,⟨YT,YS,YR⟩,⟨YL,YK,YJ⟩⟩,XN,XR,Wp,XM,WS,Wd,XO,XJ,Xt,XK,Xu,XL,⟨Xx,Xw,Xv⟩,Wo,Wn⟩,⟨o_a,o_c,o_l⟩⟩) 68)],rfl,hm2,hw.c,rfl,⟨⟨⟨YH,YO⟩,⟨YI,YP⟩,⟨YT,YS,YR⟩,⟨YL,YK,YJ⟩⟩,XN,XR,Wp,XM,WS,Wd,XO,XJ,Xt,XK,Xu,XL,⟨Xx,Xw,Xv⟩,Wo,Wn⟩,⟨o_a,o_c,o_l⟩,rfl,by rw [h3];exact hv1,by rw [h3];exact hv2,okv,oko,okq⟩
end Go.Proofs.YtajmnjefajknoaaGreat
namespace Go.Esp
variable {α:Type}
def insL (l:List α) (i:Nat) (x:α):List α:=l.take i++x::l.drop i
theorem insL_map {β:Type} (f:α→β) (l:List α) (i:Nat) (x:α):(insL l i x).map f=insL (l.map f) i (f x):=by unfold insL;simp
theorem insL_end (l:List α) (x:α):insL l l.length x=l++[x]:=by unfold insL;simp
theorem take_pre {a b:List α} {i:Nat} (h:a.length=i):(a++b).take i=a:=by subst h;exact List.take_left
theorem drop_pre {a b:List α} {i:Nat} (h:a.length=i):(a++b).drop i=b:=by subst h;exact List.drop_left
theorem ins_grow {rows zs:List α} {i:Nat} {x:α} (hi:i<rows.length) (hz:zs.length=rows.length+1-i) :
    (((rows.take i++zs).take i++[x]++(rows.take i++zs).drop (i+1)).take (i+1)++rows.drop i++((rows.take i++zs).take i++[x]++(rows.take i++zs).drop (i+1)).drop (i+1+(rows.drop i).length))=insL rows i x:=by
  have h1:(rows.take i).length=i:=by simp;omega
  rw [take_pre h1]
  have h2:(rows.take i++[x]).length=i+1:=by simp;omega
  rw [take_pre h2]
  have h3:(rows.take i++zs).length=rows.length+1:=by simp [hz];omega
  rw [List.drop_of_length_le (i:=i+1+(rows.drop i).length) (by simp only [List.length_append,List.length_drop,h3,h2,List.length_cons,List.length_nil,h1];omega)]
  unfold insL;simp
theorem ins_room {rows ext:List α} {i:Nat} {x:α} (hi:i<rows.length) (he:ext.length=1) :
    (((rows++ext).take (i+1)++rows.drop i++(rows++ext).drop (i+1+(rows.drop i).length)).take i++[x]++((rows++ext).take (i+1)++rows.drop i++(rows++ext).drop (i+1+(rows.drop i).length)).drop (i+1))=insL rows i x:=by
  have h1:((rows++ext).take (i+1)).length=i+1:=by simp;omega
  rw [List.drop_of_length_le (i:=i+1+(rows.drop i).length) (by simp [he];omega),List.append_nil,drop_pre h1]
  rw [List.take_append_of_le_length (by omega),List.take_take,Nat.min_eq_left (by omega),List.take_append_of_le_length (by omega)]
  unfold insL;simp
end Go.Esp
namespace Go.Proofs.YtajmnjefajknoaaGreat
open Go.Esp
theorem F.ext137:Ext Tryz.prog 137 (Extern.SlicesOverlaps.overlaps #[26,26] #[4]):=fun args w=>by kernel_rfl
theorem InsertP_nil (M:Mem) (x:ZE) (bv:Nat) (hv:Hp) (hob:OSl 25 21 (.slice (some ⟨bv,0,none⟩) 1 1) hv [ZE.segs x]):Fh Tryz.prog 105 [.slice none 0 0,.int .i64 ((0:Nat):Int),.slice (some ⟨bv,0,none⟩) 1 1] M hv (fun M' v Hout=>M'=M∧OSl 25 21 v Hout ([]++[ZE.segs x])):=by
  refine fh_enter Tryz.func105 rfl Tryz.ntmps105 rfl ?_;intro H
  refine ZJ (Zq (l:=[0]) rfl ?_);refine ZC ?_;refine Zx (Zt (ZJ (Zq (l:=[0,1,2]) rfl ?_)))
  iterate 2 refine ZA ?_
  refine WR rfl rfl rfl (.some (k:=0) rfl rfl) .none .none F.elem26 (by simp) (by simp) (by simp) (by simp) rfl rfl ?_;refine Zx (Zt (Y_pk [6,0,1,2] ?_));refine ZJ (Zq (l:=[0,1,2]) rfl ?_);refine ZA ?_;refine YZ F.elem26 ?_;refine ZC ?_;refine Zx (Zt (Y_pk [7,6,0,1,2] ?_))
  iterate 2 refine ZJ ?_
  refine Zq (l:=[0,1]) rfl ?_;refine ZA ?_;refine YC ?_;refine Zx (Zt (Y_pk [16,7,6,0,1,2] ?_))
  refine YA rfl (fun hc1=>?_) (fun hc1=>?_)
  ·replace hc1:=dT hc1
   (exfalso;omega)
  ·replace hc1:=dF hc1
   refine Yz (Zt (Y_pk [7,6,0,1,2] ?_));refine ZJ (Zq (l:=[0,1,2]) rfl ?_);refine ZA ?_;refine YZ F.elem26 ?_;refine ZC ?_;refine Zx (Zt (Y_pk [8,7,6,0,1,2] ?_))
   iterate 2 refine ZJ ?_
   refine Zq (l:=[0,1,2]) rfl ?_
   iterate 2 refine ZA ?_
   refine YC ?_;refine Zx (Zt (Y_pk [22,8,7,6,0,1,2] ?_))
   refine YA rfl (fun hc2=>?_) (fun hc2=>?_)
   ·replace hc2:=dT hc2
    simp only [ZE.eta,ZT.eta,ZP.eta,ZQ.eta,Yw.eta,ZR.eta,YM.eta,ZY.eta] at hc2
    refine ZJ (Zq (l:=[0,1,2,3]) rfl ?_)
    iterate 2 refine ZA ?_
    refine X_append (m:=1000000) rfl rfl rfl rfl rfl F.elem26 F.zero25 (by exact agg_size rfl) rfl (by exact OSl.nil) (by repeat first|exact Rem.here _|exact Rem.two|apply Rem.skip|apply Rem.over) (OSl.srcAll hob (by repeat first|exact Rem.here _|exact Rem.two|apply Rem.skip|apply Rem.over) (by intro u hu;exact rows_one ZE.flat [x] u (by simpa using hu))) (by (simp;done)) (by decide) rfl ?_;intro v5 hs4 ho3;obtain ⟨adv5,cpv5,rfl⟩:=ho3.val
    refine ZC ?_;refine Zx (Zt (Y_pk [6,8,7,0,1,2] ?_));refine Yu (YY ?_)
    refine Yj (.inr rfl) (.tmp rfl .nil) (fun w hw=>?_)
    exact ⟨_,M,hs4,rfl,Mem.le.refl M,hw.c,rfl,ho3⟩
   ·replace hc2:=dF hc2
    simp only [ZE.eta,ZT.eta,ZP.eta,ZQ.eta,Yw.eta,ZR.eta,YM.eta,ZY.eta] at hc2
    (exfalso;simp [eqX] at hc2;done)
theorem InsertP_some (M:Mem) (b:Nat) (c:Nat) (l:List ZE) (hs:Hp) (i:Nat) (hi:i≤l.length) (x:ZE) (bv:Nat) (hv:Hp) (hob:OSl 25 21 (.slice (some ⟨bv,0,none⟩) 1 1) hv [ZE.segs x]) (hb:l.length≤1000000) (ho:OSl 25 21 (.slice (some ⟨b,0,none⟩) l.length c) hs (l.map ZE.segs)):Fh Tryz.prog 105 [.slice (some ⟨b,0,none⟩) l.length c,.int .i64 (i:Int),.slice (some ⟨bv,0,none⟩) 1 1] M (hs++hv) (fun M' v Hout=>M'=M∧OSl 25 21 v Hout ((insL l i x).map ZE.segs)):=by
  have hcc:=ho.caps
  simp only [List.length_map] at hcc
  have hob9:=hob
  have hom:OSl 25 21 (.slice (some ⟨b,0,none⟩) (l.map ZE.segs).length c) hs (l.map ZE.segs):=by rw [List.length_map];exact ho
  obtain ⟨cv,rfl,_⟩:=hob9.inv
  refine fh_enter Tryz.func105 rfl Tryz.ntmps105 rfl ?_;intro H
  rw [List.append_assoc]
  refine ZJ (Zq (l:=[0]) rfl ?_);refine ZC ?_;refine Zx (Zt (ZJ (Zq (l:=[0,1,2]) rfl ?_)))
  iterate 2 refine ZA ?_
  refine WR rfl rfl rfl (.some (k:=i) rfl rfl) .none .none F.elem26 (by simp) (by simp only [Option.getD_some,Option.getD_none];omega) (by simp only [Option.getD_some,Option.getD_none];omega) (by simp) rfl rfl ?_;refine Zx (Zt (Y_pk [6,0,1,2] ?_));refine ZJ (Zq (l:=[0,1,2]) rfl ?_);refine ZA ?_;refine YZ F.elem26 ?_;refine ZC ?_;refine Zx (Zt (Y_pk [7,6,0,1,2] ?_))
  iterate 2 refine ZJ ?_
  refine Zq (l:=[0,1]) rfl ?_;refine ZA ?_;refine YC ?_;refine Zx (Zt (Y_pk [16,7,6,0,1,2] ?_))
  refine YA rfl (fun hc1=>?_) (fun hc1=>?_)
  ·replace hc1:=dT hc1
   (exfalso;omega)
  ·replace hc1:=dF hc1
   refine Yz (Zt (Y_pk [7,6,0,1,2] ?_));refine ZJ (Zq (l:=[0,1,2]) rfl ?_);refine ZA ?_;refine YZ F.elem26 ?_;refine ZC ?_;refine Zx (Zt (Y_pk [8,7,6,0,1,2] ?_))
   iterate 2 refine ZJ ?_
   refine Zq (l:=[0,1,2]) rfl ?_
   iterate 2 refine ZA ?_
   refine YC ?_;refine Zx (Zt (Y_pk [22,8,7,6,0,1,2] ?_))
   refine YA rfl (fun hc2=>?_) (fun hc2=>?_)
   ·replace hc2:=dT hc2
    refine ZJ (Zq (l:=[0,1,2,3]) rfl ?_)
    iterate 2 refine ZA ?_
    refine X_append (m:=1000001) rfl rfl rfl rfl rfl F.elem26 F.zero25 (by exact agg_size rfl) rfl (by assumption) (by repeat first|exact Rem.here _|exact Rem.two|apply Rem.skip|apply Rem.over) (OSl.srcAll hob (by repeat first|exact Rem.here _|exact Rem.two|apply Rem.skip|apply Rem.over) (by intro u hu;exact rows_one ZE.flat [x] u (by simpa using hu))) (by (simp;omega)) (by decide) rfl ?_;intro v5 hs4 ho3;obtain ⟨adv5,cpv5,rfl⟩:=ho3.val
    refine ZC ?_;refine Zx (Zt (Y_pk [6,8,7,0,1,2] ?_));refine Yu (YY ?_)
    refine Yj (.inr rfl) (.tmp rfl .nil) (fun w hw=>?_)
    obtain rfl:i=l.length:=by omega
    exact ⟨_,M,hs4,rfl,Mem.le.refl M,hw.c,rfl,by rw [insL_end,List.map_append];exact ho3⟩
   ·replace hc2:=dF hc2
    refine Yz (Zt (Y_pk [8,7,6,0,1,2] ?_))
    iterate 2 refine ZJ ?_
    refine Zq (l:=[0,1,2,3,4,5]) rfl ?_
    iterate 2 refine ZA ?_
    refine XY rfl rfl rfl rfl rfl (by exact Xl (by decide) (by omega)) rfl ?_;refine ZA ?_;refine X_cap_sl rfl rfl rfl rfl F.elem26 rfl ?_;refine YC ?_;refine Zx (Zt (Y_pk [31,8,7,6,0,1,2] ?_))
    refine YA rfl (fun hc6=>?_) (fun hc6=>?_)
    ·replace hc6:=dT hc6
     refine ZJ (Zq (l:=[0,1,2,3,4,5,6,7,8,9]) rfl ?_)
     iterate 2 refine ZA ?_
     refine WR rfl rfl rfl .none (.some (k:=i) rfl (by rfl)) .none F.elem26 (by simp) (by simp only [Option.getD_some,Option.getD_none];omega) (by simp only [Option.getD_some,Option.getD_none];omega) (by simp) (show WT (some ⟨_,0,none⟩) 21 0 (i) c=.slice (some ⟨_,0,none⟩) (i) c from pieceV_zero) rfl ?_
     iterate 2 refine ZA ?_
     refine XY rfl rfl rfl rfl rfl (by exact Xl (by decide) (by omega)) rfl ?_;refine ZA ?_;refine XY rfl rfl rfl rfl rfl (by exact Xl (by decide) (by omega)) rfl ?_
     rw [show (l.length:Int)+((1:Nat):Int)-(i:Int)=((l.length+1-i:Nat):Int) by omega]
     refine X_appendZO (j:=i) (k:=l.length+1-i) rfl rfl rfl rfl F.elem26 Tryz.underlying3 F.zero25 (by exact agg_size rfl) rfl ho (by repeat first|exact Rem.here _|exact Rem.two|apply Rem.skip|apply Rem.over) (by rw [List.length_map];omega) (by omega) (by omega) (by omega) (Nat.le_trans (Nat.mul_le_mul_right _ (show i+(l.length+1-i)≤1000001 by omega)) (by decide)) rfl ?_;intro b9 c9 hs9 zs9 hz9 ho9
     rw [show i+(l.length+1-i)=l.length+1 by omega] at ho9 ⊢
     have hn9:((l.map ZE.segs).take i++zs9).length=l.length+1:=by simp [hz9];omega
     have hc9:=ho9.caps
     refine ZC ?_;refine Zx (Zt (Y_pk [9,8,7,6,0,1,2] ?_));refine ZJ (Zq (l:=[0,1,2,3,4]) rfl ?_)
     iterate 2 refine ZA ?_
     refine WR rfl rfl rfl (.some (k:=i) rfl (by rfl)) .none .none F.elem26 (by simp) (by simp only [Option.getD_some,Option.getD_none];omega) (by simp only [Option.getD_some,Option.getD_none];omega) (by simp) (show WT (some ⟨_,0,none⟩) 21 (i) (l.length+1) (c9)=.slice (some ⟨_,0+(i) * 21,none⟩) (l.length+1-(i)) (c9-(i)) from pieceV_in (by omega)) rfl ?_;refine ZA ?_
     rw [Nat.zero_add]
     refine X_copyP (k:=i) (news:=[ZE.segs x]) rfl rfl rfl rfl rfl F.elem26 rfl (by rw [hn9];omega) ho9 (by repeat first|exact Rem.here _|exact Rem.two|apply Rem.skip|apply Rem.over) (OSl.srcAll hob (by repeat first|exact Rem.here _|exact Rem.two|apply Rem.skip|apply Rem.over) (by intro u hu;exact rows_one ZE.flat [x] u (by simpa using hu))) (by show 1=min 1 (l.length+1-i);omega) rfl ?_;intro hs10 ho10
     rw [hn9] at ho10
     refine Zx (Zt (Y_pk [9,8,7,6,0,1,2] ?_));refine ZJ (YF (l:=[0,1,2,3,4,5,6,7,8]) #[0,0,0,6,15,0,0,96,255] _ rfl (by kernel_rfl) (by kernel_rfl) St.drawn (fun _ h=>h) ?_)
     iterate 3 refine ZA ?_
     refine XY rfl rfl rfl rfl rfl (by exact Xl (by decide) (by omega)) rfl ?_;refine WR rfl rfl rfl (.some (k:=i+1) rfl (by rfl)) .none .none F.elem26 (by simp) (by simp only [Option.getD_some,Option.getD_none];omega) (by simp only [Option.getD_some,Option.getD_none];omega) (by simp) (show WT (some ⟨_,0,none⟩) 21 (i+1) (l.length+1) (c9)=.slice (some ⟨_,0+(i+1) * 21,none⟩) (l.length+1-(i+1)) (c9-(i+1)) from pieceV_in (by omega)) rfl ?_
     iterate 2 refine ZA ?_
     refine WR rfl rfl rfl (.some (k:=i) rfl (by rfl)) .none .none F.elem26 (by simp) (by simp only [Option.getD_some,Option.getD_none];omega) (by simp only [Option.getD_some,Option.getD_none];omega) (by simp) (show WT (some ⟨_,0,none⟩) 21 (i) (l.length) (c)=.slice (some ⟨_,0+(i) * 21,none⟩) (l.length-(i)) (c-(i)) from pieceV_in (by omega)) rfl ?_
     rw [Nat.zero_add,Nat.zero_add]
     have hn10:(((l.map ZE.segs).take i++zs9).take i++[ZE.segs x]++((l.map ZE.segs).take i++zs9).drop (i+[ZE.segs x].length)).length=l.length+1:=by simp only [List.length_append,List.length_take,List.length_drop,hn9,List.length_cons,List.length_nil];omega
     refine X_copyP (k:=i+1) (news:=(l.map ZE.segs).drop i) rfl rfl rfl rfl rfl F.elem26 rfl (by rw [hn10];omega) ho10 (by repeat first|exact Rem.here _|exact Rem.two|apply Rem.skip|apply Rem.over) (by rw [List.length_drop];exact hom.src (by repeat first|exact Rem.here _|exact Rem.two|apply Rem.skip|apply Rem.over) (by intro u hu;exact rows_one ZE.flat l u hu)) (by simp only [List.length_drop,List.length_map];omega) rfl ?_;intro hs11 ho11
     rw [hn10] at ho11
     rw [show i+[ZE.segs x].length=i+1 from rfl,ins_grow (by rw [List.length_map];omega) (by rw [List.length_map];exact hz9)] at ho11
     refine Zx (Zt (Y_pk [9,8,7,6,0,1,2] ?_));refine ZJ (Zq (l:=[0,1]) rfl ?_);refine ZA ?_;refine ZC ?_;refine Zx (Zt (Y_pk [6,8,7,0,1,2] ?_));refine Yu (YY ?_)
     refine Yj (.inr rfl) (.tmp rfl .nil) (fun w hw=>?_)
     exact ⟨_,M,hs11,rfl,Mem.le.refl M,hw.c,rfl,by rw [insL_map];exact ho11⟩
    ·replace hc6:=dF hc6
     refine Yz (Zt (Y_pk [8,7,6,0,1,2] ?_));refine ZJ (Zq (l:=[0,1,2,3,4,5]) rfl ?_)
     iterate 3 refine ZA ?_
     refine XY rfl rfl rfl rfl rfl (by exact Xl (by decide) (by omega)) rfl ?_;refine WR rfl rfl rfl .none (.some (k:=l.length+1) rfl (by rfl)) .none F.elem26 (by simp) (by simp only [Option.getD_some,Option.getD_none];omega) (by simp only [Option.getD_some,Option.getD_none];omega) (by simp) (show WT (some ⟨_,0,none⟩) 21 0 (l.length+1) c=.slice (some ⟨_,0,none⟩) (l.length+1) c from pieceV_zero) rfl ?_;refine ZC ?_;refine Zx (Zt (Y_pk [0,8,7,6,1,2] ?_))
     iterate 2 refine ZJ ?_
     refine Zq (l:=[0,1,2,3,4,5,6,7]) rfl ?_
     obtain ⟨ext,hext,ho13⟩:=OSl.extend (m:=1) (show OSl 25 21 (.slice (some ⟨b,0,none⟩) (l.map ZE.segs).length c) hs (l.map ZE.segs) by rw [List.length_map];exact ho) (by rw [List.length_map];omega)
     rw [List.length_map] at ho13
     iterate 4 refine ZA ?_
     refine XY rfl rfl rfl rfl rfl (by exact Xl (by decide) (by omega)) rfl ?_;refine WR rfl rfl rfl (.some (k:=i+1) rfl (by rfl)) .none .none F.elem26 (by simp) (by simp only [Option.getD_some,Option.getD_none];omega) (by simp only [Option.getD_some,Option.getD_none];omega) (by simp) (show WT (some ⟨_,0,none⟩) 21 (i+1) (l.length+1) (c)=.slice (some ⟨_,0+(i+1) * 21,none⟩) (l.length+1-(i+1)) (c-(i+1)) from pieceV_in (by omega)) rfl ?_;refine X_ext rfl rfl F.ext137 rfl (fun w hw=>run_apart (tR:=4) F.elem26 ho (by repeat first|exact Rem.here _|exact Rem.two|apply Rem.skip|apply Rem.over) (.head _) (Nat.mul_pos (by omega) (by decide)) hw) rfl ?_;refine XA ?_;refine Zx (Zt (Y_pk [68,0,8,7,6,1,2] ?_))
     refine YA rfl (fun hc7=>?_) (fun hc7=>?_)
     ·skip
      refine ZJ (YF (l:=[0,1,2,3,4,5,6,7,8]) #[0,0,0,6,15,0,0,96,255] _ rfl (by kernel_rfl) (by kernel_rfl) St.drawn (fun _ h=>h) ?_)
      iterate 3 refine ZA ?_
      refine XY rfl rfl rfl rfl rfl (by exact Xl (by decide) (by omega)) rfl ?_;refine WR rfl rfl rfl (.some (k:=i+1) rfl (by rfl)) .none .none F.elem26 (by simp) (by simp only [Option.getD_some,Option.getD_none];omega) (by simp only [Option.getD_some,Option.getD_none];omega) (by simp) (show WT (some ⟨_,0,none⟩) 21 (i+1) (l.length+1) (c)=.slice (some ⟨_,0+(i+1) * 21,none⟩) (l.length+1-(i+1)) (c-(i+1)) from pieceV_in (by omega)) rfl ?_
      iterate 2 refine ZA ?_
      refine WR rfl rfl rfl (.some (k:=i) rfl (by rfl)) .none .none F.elem26 (by simp) (by simp only [Option.getD_some,Option.getD_none];omega) (by simp only [Option.getD_some,Option.getD_none];omega) (by simp) (show WT (some ⟨_,0,none⟩) 21 (i) (l.length+1) (c)=.slice (some ⟨_,0+(i) * 21,none⟩) (l.length+1-(i)) (c-(i)) from pieceV_in (by omega)) rfl ?_
      rw [Nat.zero_add,Nat.zero_add]
      refine X_copyP (k:=i+1) (news:=(l.map ZE.segs).drop i) rfl rfl rfl rfl rfl F.elem26 rfl (by simp [hext];omega) ho13 (by repeat first|exact Rem.here _|exact Rem.two|apply Rem.skip|apply Rem.over) (by rw [List.length_drop];exact hom.src (by repeat first|exact Rem.here _|exact Rem.two|apply Rem.skip|apply Rem.over) (by intro u hu;exact rows_one ZE.flat l u hu)) (by simp only [List.length_drop,List.length_map];omega) rfl ?_;intro hs15 ho15
      have hn15:((l.map ZE.segs)++ext).length=l.length+1:=by simp [hext]
      rw [hn15] at ho15
      refine Zx (Zt (Y_pk [0,8,7,6,1,2] ?_));refine ZJ (Zq (l:=[0,1,2,3,4]) rfl ?_)
      iterate 2 refine ZA ?_
      refine WR rfl rfl rfl (.some (k:=i) rfl (by rfl)) .none .none F.elem26 (by simp) (by simp only [Option.getD_some,Option.getD_none];omega) (by simp only [Option.getD_some,Option.getD_none];omega) (by simp) (show WT (some ⟨_,0,none⟩) 21 (i) (l.length+1) (c)=.slice (some ⟨_,0+(i) * 21,none⟩) (l.length+1-(i)) (c-(i)) from pieceV_in (by omega)) rfl ?_;refine ZA ?_
      rw [Nat.zero_add]
      have hn16:(((l.map ZE.segs)++ext).take (i+1)++(l.map ZE.segs).drop i++((l.map ZE.segs)++ext).drop (i+1+((l.map ZE.segs).drop i).length)).length=l.length+1:=by simp only [List.length_append,List.length_take,List.length_drop,List.length_map,hext];omega
      refine X_copyP (k:=i) (news:=[ZE.segs x]) rfl rfl rfl rfl rfl F.elem26 rfl (by rw [hn16];omega) ho15 (by repeat first|exact Rem.here _|exact Rem.two|apply Rem.skip|apply Rem.over) (OSl.srcAll hob (by repeat first|exact Rem.here _|exact Rem.two|apply Rem.skip|apply Rem.over) (by intro u hu;exact rows_one ZE.flat [x] u (by simpa using hu))) (by show 1=min 1 (l.length+1-i);omega) rfl ?_;intro hs16 ho16
      rw [hn16] at ho16
      rw [show i+[ZE.segs x].length=i+1 from rfl,ins_room (by rw [List.length_map];omega) hext] at ho16
      refine Zx (Zt (Y_pk [0,8,7,6,1,2] ?_));refine ZJ (Zq (l:=[0,1]) rfl ?_);refine ZA ?_;refine ZC ?_;refine Zx (Zt (Y_pk [6,0,8,7,1,2] ?_));refine Yu (YY ?_)
      refine Yj (.inr rfl) (.tmp rfl .nil) (fun w hw=>?_)
      exact ⟨_,M,hs16,rfl,Mem.le.refl M,hw.c,rfl,by rw [insL_map];exact ho16⟩
     ·skip
      (exfalso;simp [eqX] at hc7;done)
theorem InsertP_ok (M:Mem) (a:Option Addr) (c:Nat) (l:List ZE) (hs:Hp) (i:Nat) (hi:i≤l.length) (x:ZE) (bv:Nat) (hv:Hp) (hob:OSl 25 21 (.slice (some ⟨bv,0,none⟩) 1 1) hv [ZE.segs x]) (hb:l.length≤1000000) (ho:OSl 25 21 (.slice a l.length c) hs (l.map ZE.segs)):Fh Tryz.prog 105 [.slice a l.length c,.int .i64 (i:Int),.slice (some ⟨bv,0,none⟩) 1 1] M (hs++hv) (fun M' v Hout=>M'=M∧OSl 25 21 v Hout ((insL l i x).map ZE.segs)):=by
  cases a with
  |none =>
   obtain ⟨rfl,rfl,rfl⟩:=ho.noneAll
   obtain rfl:i=0:=by simpa using hi
   exact InsertP_nil M x bv hv hob
  |some ad =>
   obtain ⟨b,rfl⟩:=ho.someAll
   exact InsertP_some M b c l hs i hi x bv hv hob hb ho
end Go.Proofs.YtajmnjefajknoaaGreat
namespace Go.Proofs.YtajmnjefajknoaaGreat
open Go.Esp
theorem F.ok104:okFn Tryz.prog 104=true:=by kernel_rfl
theorem F.ok105:okFn Tryz.prog 105=true:=by kernel_rfl
theorem told_ok (M:Mem) (bw:Nat) (Za:Int) (Zc:Plc) (Zf:Int) (Zh:Plc) (Zj Ze Zp:Option Addr) (Zi Zd Zo:Nat) (Zg Zb:List ZE) (Zl:List Int) (Zs:Int) (Zr:Bool) (ZF Zz ZM ZB Zv Zu Zn Zy Zm:Int) (Zw:Plc) (ZD ZG:Int) (Yk:ZT.ok M ⟨⟨Za,Zc⟩,⟨Zf,Zh⟩,⟨Zj,Zi,Zg⟩,⟨Ze,Zd,Zb⟩⟩) (Yr:SlK M (oneI .i64) 1 ⟨Zp,Zo,Zl⟩) (hbig:Zg.length≤40∧Zb.length≤200) (hLa:Zl.length≤1000) (hh:0≤ZD∧ZD≤1000) (l:ZQ) (hl0:ZQ.ok M l) (hLp:l.peers.l.length≤1000) (hk:l.kind=4):Fh Tryz.prog 48 [.pointer (some ⟨bw,0,none⟩),l.enc] M [(bw,rowO (ZR.segs ⟨⟨⟨⟨Za,Zc⟩,⟨Zf,Zh⟩,⟨Zj,Zi,Zg⟩,⟨Ze,Zd,Zb⟩⟩,Zs,Zr,ZF,Zz,ZM,ZB,Zv,Zu,Zn,Zy,Zm,Zw,⟨Zp,Zo,Zl⟩,ZD,ZG⟩,⟨none,0,[]⟩⟩) 68)] (fun M' v Hout=>v=.tuple #[]∧WkF bw 68 M' Hout (XS (ZP.nd ⟨⟨⟨Za,Zc⟩,⟨Zf,Zh⟩,⟨Zj,Zi,Zg⟩,⟨Ze,Zd,Zb⟩⟩,Zs,Zr,ZF,Zz,ZM,ZB,Zv,Zu,Zn,Zy,Zm,Zw,⟨Zp,Zo,Zl⟩,ZD,ZG⟩) l.lt)):=by
  obtain ⟨ZZ,⟨ZN,Yq⟩,YG,l_id,⟨Yc,Yb,ZO⟩,YB,⟨ZL,ZV⟩,⟨Ya,ZX,ZK⟩⟩:=l
  simp only at hLp hk
  have Xm:SlK M (oneI .i64) 1 ⟨Yc,Yb,ZO⟩:=hl0.h0
  have YX:SlK M ZE.segs 21 ⟨Ya,ZX,ZK⟩:=hl0.h1
  have XP:=YX.h1
  simp only at XP
  have WI:(ZK.map ZE.segs).length=ZK.length:=List.length_map ..
  have WJ:ZK.length≤ZX:=YX.h3
  refine XQ (fun H=>(bw,rowO (ZR.segs ⟨⟨⟨⟨Za,Zc⟩,⟨Zf,Zh⟩,⟨Zj,Zi,Zg⟩,⟨Ze,Zd,Zb⟩⟩,Zs,Zr,ZF,Zz,ZM,ZB,Zv,Zu,Zn,Zy,Zm,Zw,⟨Zp,Zo,Zl⟩,ZD,ZG⟩,⟨none,0,[]⟩⟩) 68)::H) (fun _=>by simp only [List.append_assoc,List.cons_append,List.nil_append]) Tryz.func48 rfl Tryz.ntmps48 rfl ?_;intro H
  refine ZJ (Zq (l:=[0]) rfl ?_)
  refine Xk ?_;intro b1
  refine Zx (Zt (Y_pk [3,0] ?_))
  iterate 2 refine ZJ ?_
  refine YF (l:=[0,1,2,3,4,5,6,7,8,9,10,11,12,13,14,15,16,17,18]) #[0,1,3,7,15,0,32,96,255,511,1023,2047,4095,8191,16383,1023,33791,131071,262143] _ rfl (by kernel_rfl) (by kernel_rfl) St.drawn (fun _ h=>h) ?_;refine ZA ?_;refine ZU ?_;refine Zk F.foff68_0 ?_;refine Zk F.foff32_6 ?_;refine ZI F.lay3 ?_;refine Zk F.foff44_1 ?_;refine Zk F.foff25_0 ?_;refine ZI F.lay3 ?_;refine YC ?_;refine ZA ?_
  refine Yp 13 rfl (fun hc2=>?_) (fun hc2=>?_)
  ·replace hc2:=nT hc2
   iterate 8 refine Yh ?_
   refine ZS ?_;refine Zx (Zt (Y_pk [22,3,0] ?_));refine Xz rfl ?_;refine Yu (YY ?_)
   refine Yj (.inr rfl) (.nil) (fun w hw=>?_)
   have h3:XS (ZP.nd ⟨⟨⟨Za,Zc⟩,⟨Zf,Zh⟩,⟨Zj,Zi,Zg⟩,⟨Ze,Zd,Zb⟩⟩,Zs,Zr,ZF,Zz,ZM,ZB,Zv,Zu,Zn,Zy,Zm,Zw,⟨Zp,Zo,Zl⟩,ZD,ZG⟩) (ZQ.lt ⟨ZZ,⟨ZN,Yq⟩,YG,l_id,⟨Yc,Yb,ZO⟩,YB,⟨ZL,ZV⟩,⟨Ya,ZX,ZK⟩⟩)=((ZP.nd ⟨⟨⟨Za,Zc⟩,⟨Zf,Zh⟩,⟨Zj,Zi,Zg⟩,⟨Ze,Zd,Zb⟩⟩,Zs,Zr,ZF,Zz,ZM,ZB,Zv,Zu,Zn,Zy,Zm,Zw,⟨Zp,Zo,Zl⟩,ZD,ZG⟩),[]):=(does4 hk).trans (told_no (by exact .inl (by assumption)))
   refine ⟨_,M,[(bw,rowO (ZR.segs ⟨⟨⟨⟨Za,Zc⟩,⟨Zf,Zh⟩,⟨Zj,Zi,Zg⟩,⟨Ze,Zd,Zb⟩⟩,Zs,Zr,ZF,Zz,ZM,ZB,Zv,Zu,Zn,Zy,Zm,Zw,⟨Zp,Zo,Zl⟩,ZD,ZG⟩,⟨none,0,[]⟩⟩) 68)],rfl,Mem.le.refl M,hw.c,rfl,⟨⟨⟨Za,Zc⟩,⟨Zf,Zh⟩,⟨Zj,Zi,Zg⟩,⟨Ze,Zd,Zb⟩⟩,Zs,Zr,ZF,Zz,ZM,ZB,Zv,Zu,Zn,Zy,Zm,Zw,⟨Zp,Zo,Zl⟩,ZD,ZG⟩,⟨none,0,[]⟩,rfl,?_,?_,⟨Yk,Yr⟩,SlK.nil,fun y hy=>by cases hy⟩
   ·rw [h3] <;> rfl
   ·rw [h3] <;> rfl
  ·replace hc2:=nF hc2
   refine ZA ?_;refine ZU ?_;refine Zk F.foff68_0 ?_;refine Zk F.foff32_7 ?_;refine ZI F.lay29 ?_;refine Zk F.foff44_2 ?_;refine ZI F.lay29 ?_;refine YC ?_;refine ZS ?_;refine Zx (Zt (Y_pk [22,3,0] ?_))
   refine YA rfl (fun hc3=>?_) (fun hc3=>?_)
   ·replace hc3:=nT hc3
    refine Yu (YY ?_)
    refine Yj (.inr rfl) (.nil) (fun w hw=>?_)
    have h3:XS (ZP.nd ⟨⟨⟨Za,Zc⟩,⟨Zf,Zh⟩,⟨Zj,Zi,Zg⟩,⟨Ze,Zd,Zb⟩⟩,Zs,Zr,ZF,Zz,ZM,ZB,Zv,Zu,Zn,Zy,Zm,Zw,⟨Zp,Zo,Zl⟩,ZD,ZG⟩) (ZQ.lt ⟨ZZ,⟨ZN,Yq⟩,YG,l_id,⟨Yc,Yb,ZO⟩,YB,⟨ZL,ZV⟩,⟨Ya,ZX,ZK⟩⟩)=((ZP.nd ⟨⟨⟨Za,Zc⟩,⟨Zf,Zh⟩,⟨Zj,Zi,Zg⟩,⟨Ze,Zd,Zb⟩⟩,Zs,Zr,ZF,Zz,ZM,ZB,Zv,Zu,Zn,Zy,Zm,Zw,⟨Zp,Zo,Zl⟩,ZD,ZG⟩),[]):=(does4 hk).trans (told_no (by exact .inr (by assumption)))
    refine ⟨_,M,[(bw,rowO (ZR.segs ⟨⟨⟨⟨Za,Zc⟩,⟨Zf,Zh⟩,⟨Zj,Zi,Zg⟩,⟨Ze,Zd,Zb⟩⟩,Zs,Zr,ZF,Zz,ZM,ZB,Zv,Zu,Zn,Zy,Zm,Zw,⟨Zp,Zo,Zl⟩,ZD,ZG⟩,⟨none,0,[]⟩⟩) 68)],rfl,Mem.le.refl M,hw.c,rfl,⟨⟨⟨Za,Zc⟩,⟨Zf,Zh⟩,⟨Zj,Zi,Zg⟩,⟨Ze,Zd,Zb⟩⟩,Zs,Zr,ZF,Zz,ZM,ZB,Zv,Zu,Zn,Zy,Zm,Zw,⟨Zp,Zo,Zl⟩,ZD,ZG⟩,⟨none,0,[]⟩,rfl,?_,?_,⟨Yk,Yr⟩,SlK.nil,fun y hy=>by cases hy⟩
    ·rw [h3] <;> rfl
    ·rw [h3] <;> rfl
   ·replace hc3:=nF hc3
    refine Yz (Zt (Y_pk [3,0] ?_));refine ZJ (Zq (l:=[0,1,2,3,4]) rfl ?_);refine ZA ?_;refine ZU ?_;refine Zk F.foff68_0 ?_;refine Zk F.foff32_6 ?_;refine Yi F.lay3 ?_;refine Zx (Zt (Y_pk [3,0] ?_));refine ZJ (Xn (l:=[0,1,2,3,4,5]) [5] rfl ?_);refine ZA ?_;refine Zk F.foff44_1 ?_;refine ZI F.lay25 ?_;refine Zk F.foff44_7 ?_;refine ZI F.lay26 ?_;refine WA rfl rfl rfl F.ok82 rfl (adopt_ok M bw Za Zc Zf Zh Zj Ze Zp Zi Zd Zo Zg Zb Zl Zs Zr ZF Zz ZM (-1) Zv Zu Zn Zy Zm Zw ZD ZG Yk ⟨ZN,Yq⟩ ⟨Ya,ZX,ZK⟩ YX) (by repeat first|exact Rem.here _|exact Rem.two|apply Rem.skip|apply Rem.over) (Yv rfl) ?_
    rintro _ M1 hs1 hm1 ⟨rfl,⟨⟨wa,wi⟩,⟨wq,wj⟩,⟨w1a,w1c,w1l⟩,⟨w2a,w2c,w2l⟩⟩,rfl,okt,hv1⟩
    simp only [List.append_assoc,List.cons_append,List.nil_append]
    refine Zx (Wl ?_);refine Zt (Y_pk [3,0] ?_)
    iterate 2 refine ZJ ?_
    refine YF (l:=[0,1,2,3,4,5,6,7]) #[0,1,3,7,15,0,32,127] _ rfl (by kernel_rfl) (by kernel_rfl) St.drawn (fun _ h=>h) ?_;refine ZA ?_;refine ZU ?_;refine Zk F.foff68_0 ?_;refine Zk F.foff32_0 ?_;refine ZI F.lay28 ?_;refine Zk F.foff44_6 ?_;refine ZI F.lay25 ?_;refine X_fs rfl rfl F.ok104 rfl (Closer_ok _ ⟨⟨wa,wi⟩,⟨wq,wj⟩,⟨w1a,w1c,w1l⟩,⟨w2a,w2c,w2l⟩⟩ ⟨ZL,ZV⟩ okt) rfl ?_
    rintro _ rfl
    refine Zx (Zt (Y_pk [40,3,0] ?_))
    refine YA rfl (fun hc4=>?_) (fun hc4=>?_)
    ·replace hc4:=dT hc4
     refine C_region_anyW (l:=[0,1,2,3,4,5,6,7,8,9,10]) [10] #[0,0,2,0,8,24,0,64,192,504,1023] (_) rfl (by kernel_rfl) (by kernel_rfl) St.drawn (fun _ h=>h) ?_;refine ZA ?_;refine Zk F.foff44_6 ?_;refine ZI F.lay25 ?_;refine Zk F.foff44_7 ?_;refine ZI F.lay26 ?_;refine Uc rfl rfl F.ok106 rfl (CloneP_ok M1 Ya ZX ZK (YX.mono hm1) (by omega)) (by repeat first|exact Rem.here _|exact Rem.two|apply Rem.skip|apply Rem.over) (fun _ _ _ hm hw=>(hw.lower (by exact hm)).c) (Yv rfl) ?_
     rintro v0 M2 hs0 hm2 ⟨hM2,ho0⟩;subst M2;clear hm2
     obtain ⟨ad0,cp0,rfl⟩:=ho0.valL
     refine Zk F.foff44_1 ?_;refine ZI F.lay25 ?_
     refine XZ rfl rfl F.elem26 F.zero25 rfl rfl (.cons rfl (by constructor) .nil) rfl rfl (by simp only [List.map_cons,List.map_nil] <;> rfl) rfl ?_;intro b5 hob6
     refine X_fhR2 rfl rfl F.ok105 rfl (InsertP_ok M1 ad0 cp0 ZK hs0 0 (Nat.zero_le _) ⟨ZN,Yq⟩ _ _ hob6 (by omega) ho0) (by repeat first|exact Rem.here _|exact Rem.two|apply Rem.skip|apply Rem.over) (by repeat first|exact Rem.here _|exact Rem.two|apply Rem.skip|apply Rem.over) (by rintro v M9 Ho w hm ⟨rfl,_⟩ hw;exact hw.c) (Yv rfl) ?_
     rintro v7 MX hs7 hmX ⟨hMX,ho7⟩
     subst MX
     clear hmX
     obtain ⟨ad7,cp7,rfl⟩:=ho7.valL
     simp only [List.append_assoc,List.cons_append,List.nil_append]
     refine X_fhW2 rfl rfl rfl F.ok82 rfl ((fh_thaw ho7 (fun M9 j1 j3=>adopt_ok M9 bw wa wi wq wj w1a w2a Zp w1c w2c Zo w1l w2l Zl Zs Zr ZF Zz ZM (-1) Zv Zu Zn Zy Zm Zw ZD ZG (okt.mono j1) ⟨ZL,ZV⟩ ⟨ad7,cp7,insL ZK 0 ⟨ZN,Yq⟩⟩ j3))) (by repeat first|exact Rem.here _|exact Rem.two|apply Rem.skip|apply Rem.over) (by repeat first|exact Rem.here _|exact Rem.two|apply Rem.skip|apply Rem.over) (Yv rfl) ?_
     rintro _ M2 hs2 hm2 ⟨rfl,⟨⟨ua,ui⟩,⟨uq,uj⟩,⟨u1a,u1c,u1l⟩,⟨u2a,u2c,u2l⟩⟩,rfl,oku,hv2⟩
     simp only [List.append_assoc,List.cons_append,List.nil_append]
     refine Zx (Wl ?_);refine Zt (Y_pk [0] ?_);refine Xn (l:=[0,1,2,3,4,5,6,7,8,9,10]) [10] rfl ?_
     iterate 2 refine ZA ?_
     refine ZU ?_;refine Zk F.foff68_0 ?_;refine Zk F.foff32_0 ?_;refine ZI F.lay28 ?_;refine X_fs rfl rfl F.ok41 rfl (First_ok _ ⟨⟨ua,ui⟩,⟨uq,uj⟩,⟨u1a,u1c,u1l⟩,⟨u2a,u2c,u2l⟩⟩ oku) rfl ?_
     rintro _ rfl
     obtain ⟨⟨fa,fi⟩,hfi⟩:∃ x,We (ZT.tb ⟨⟨ua,ui⟩,⟨uq,uj⟩,⟨u1a,u1c,u1l⟩,⟨u2a,u2c,u2l⟩⟩)=x:=⟨_,rfl⟩
     rw [hfi]
     refine Y_field F.fld25_0 F.lay3 ?_;refine X_fs rfl rfl F.ok66 rfl (WY _) rfl ?_
     rintro _ rfl
     refine VF 60 rfl (show _=aggV [.one (.int .i64 (-1)),Yn 0] from rfl) ?_;refine Xq rfl rfl F.bld44 (.cons rfl (by constructor) (.cons rfl (by constructor) .nil)) rfl rfl ?_;refine WA rfl rfl rfl F.ok65 rfl (sendF_ok M2 bw ua ui uq uj u1a u2a Zp u1c u2c Zo u1l u2l Zl Zs Zr ZF Zz ZM (-1) Zv Zu Zn Zy Zm Zw ZD ZG fa ⟨5,⟨0,0⟩,0,0,⟨none,0,[]⟩,false,⟨-1,0⟩,⟨none,0,[]⟩⟩) (by repeat first|exact Rem.here _|exact Rem.two|apply Rem.skip|apply Rem.over) (Yv rfl) ?_
     rintro _ M3 hs3 hm3 ⟨rfl,⟨o9a,o9c,o9l⟩,rfl,k9o,hl9⟩
     simp only at hl9
     simp only [List.append_assoc,List.cons_append,List.nil_append]
     refine Zx (Wl ?_)
     refine Yj (.inl rfl) (.nil) (fun w hw=>?_)
     have h3:=(does4 (n:=(ZP.nd ⟨⟨⟨Za,Zc⟩,⟨Zf,Zh⟩,⟨Zj,Zi,Zg⟩,⟨Ze,Zd,Zb⟩⟩,Zs,Zr,ZF,Zz,ZM,ZB,Zv,Zu,Zn,Zy,Zm,Zw,⟨Zp,Zo,Zl⟩,ZD,ZG⟩)) (l:=(ZQ.lt ⟨ZZ,⟨ZN,Yq⟩,YG,l_id,⟨Yc,Yb,ZO⟩,YB,⟨ZL,ZV⟩,⟨Ya,ZX,ZK⟩⟩)) hk).trans (told_yes (m:=ZP.nd ⟨⟨⟨wa,wi⟩,⟨wq,wj⟩,⟨w1a,w1c,w1l⟩,⟨w2a,w2c,w2l⟩⟩,Zs,Zr,ZF,Zz,ZM,(-1),Zv,Zu,Zn,Zy,Zm,Zw,⟨Zp,Zo,Zl⟩,ZD,ZG⟩) (show (ZP.nd ⟨⟨⟨Za,Zc⟩,⟨Zf,Zh⟩,⟨Zj,Zi,Zg⟩,⟨Ze,Zd,Zb⟩⟩,Zs,Zr,ZF,Zz,ZM,ZB,Zv,Zu,Zn,Zy,Zm,Zw,⟨Zp,Zo,Zl⟩,ZD,ZG⟩).askTo=(ZQ.lt ⟨ZZ,⟨ZN,Yq⟩,YG,l_id,⟨Yc,Yb,ZO⟩,YB,⟨ZL,ZV⟩,⟨Ya,ZX,ZK⟩⟩).frm.addr by show ZB=ZN;first|assumption|omega) (show (ZP.nd ⟨⟨⟨Za,Zc⟩,⟨Zf,Zh⟩,⟨Zj,Zi,Zg⟩,⟨Ze,Zd,Zb⟩⟩,Zs,Zr,ZF,Zz,ZM,ZB,Zv,Zu,Zn,Zy,Zm,Zw,⟨Zp,Zo,Zl⟩,ZD,ZG⟩).askReq=(ZQ.lt ⟨ZZ,⟨ZN,Yq⟩,YG,l_id,⟨Yc,Yb,ZO⟩,YB,⟨ZL,ZV⟩,⟨Ya,ZX,ZK⟩⟩).req by show Zv=YG;first|assumption|omega) hv1 (show CloserT (ZT.tb ⟨⟨wa,wi⟩,⟨wq,wj⟩,⟨w1a,w1c,w1l⟩,⟨w2a,w2c,w2l⟩⟩) ⟨ZL,ZV⟩ by assumption) (q:=ZP.nd ⟨⟨⟨ua,ui⟩,⟨uq,uj⟩,⟨u1a,u1c,u1l⟩,⟨u2a,u2c,u2l⟩⟩,Zs,Zr,ZF,Zz,ZM,(-1),Zv,Zu,Zn,Zy,Zm,Zw,⟨Zp,Zo,Zl⟩,ZD,ZG⟩) hv2)
     rw [show We (ZP.nd ⟨⟨⟨ua,ui⟩,⟨uq,uj⟩,⟨u1a,u1c,u1l⟩,⟨u2a,u2c,u2l⟩⟩,Zs,Zr,ZF,Zz,ZM,(-1),Zv,Zu,Zn,Zy,Zm,Zw,⟨Zp,Zo,Zl⟩,ZD,ZG⟩).table=⟨fa,fi⟩ from hfi] at h3
     refine ⟨_,M3,[(bw,rowO (ZR.segs ⟨⟨⟨⟨ua,ui⟩,⟨uq,uj⟩,⟨u1a,u1c,u1l⟩,⟨u2a,u2c,u2l⟩⟩,Zs,Zr,ZF,Zz,ZM,(-1),Zv,Zu,Zn,Zy,Zm,Zw,⟨Zp,Zo,Zl⟩,ZD,ZG⟩,⟨o9a,o9c,o9l⟩⟩) 68)],rfl,((hm1.trans hm2).trans hm3),hw.c,rfl,⟨⟨⟨ua,ui⟩,⟨uq,uj⟩,⟨u1a,u1c,u1l⟩,⟨u2a,u2c,u2l⟩⟩,Zs,Zr,ZF,Zz,ZM,(-1),Zv,Zu,Zn,Zy,Zm,Zw,⟨Zp,Zo,Zl⟩,ZD,ZG⟩,⟨o9a,o9c,o9l⟩,rfl,?_,?_,⟨oku.mono hm3,((Yr.mono hm1).mono hm2).mono hm3⟩,k9o,fun y hy=>?_⟩
     ·rw [h3] <;> rfl
     ·rw [h3]
      show sndl o9l=_
      rw [hl9];rfl
     ·simp only at hy
      rw [hl9] at hy
      obtain rfl:=List.mem_singleton.1 hy
      exact ⟨⟨SlK.nil,SlK.nil⟩⟩
    ·replace hc4:=dF hc4
     refine Yz (Zt (Y_pk [0] ?_));refine Xn (l:=[0,1,2,3,4,5,6,7,8,9,10]) [10] rfl ?_
     iterate 2 refine ZA ?_
     refine ZU ?_;refine Zk F.foff68_0 ?_;refine Zk F.foff32_0 ?_;refine ZI F.lay28 ?_;refine X_fs rfl rfl F.ok41 rfl (First_ok _ ⟨⟨wa,wi⟩,⟨wq,wj⟩,⟨w1a,w1c,w1l⟩,⟨w2a,w2c,w2l⟩⟩ okt) rfl ?_
     rintro _ rfl
     obtain ⟨⟨fa,fi⟩,hfi⟩:∃ x,We (ZT.tb ⟨⟨wa,wi⟩,⟨wq,wj⟩,⟨w1a,w1c,w1l⟩,⟨w2a,w2c,w2l⟩⟩)=x:=⟨_,rfl⟩
     rw [hfi]
     refine Y_field F.fld25_0 F.lay3 ?_;refine X_fs rfl rfl F.ok66 rfl (WY _) rfl ?_
     rintro _ rfl
     refine VF 60 rfl (show _=aggV [.one (.int .i64 (-1)),Yn 0] from rfl) ?_;refine Xq rfl rfl F.bld44 (.cons rfl (by constructor) (.cons rfl (by constructor) .nil)) rfl rfl ?_;refine WA rfl rfl rfl F.ok65 rfl (sendF_ok M1 bw wa wi wq wj w1a w2a Zp w1c w2c Zo w1l w2l Zl Zs Zr ZF Zz ZM (-1) Zv Zu Zn Zy Zm Zw ZD ZG fa ⟨5,⟨0,0⟩,0,0,⟨none,0,[]⟩,false,⟨-1,0⟩,⟨none,0,[]⟩⟩) (by repeat first|exact Rem.here _|exact Rem.two|apply Rem.skip|apply Rem.over) (Yv rfl) ?_
     rintro _ M3 hs3 hm3 ⟨rfl,⟨o9a,o9c,o9l⟩,rfl,k9o,hl9⟩
     simp only at hl9
     simp only [List.append_assoc,List.cons_append,List.nil_append]
     refine Zx (Wl ?_)
     refine Yj (.inl rfl) (.nil) (fun w hw=>?_)
     have h3:=(does4 (n:=(ZP.nd ⟨⟨⟨Za,Zc⟩,⟨Zf,Zh⟩,⟨Zj,Zi,Zg⟩,⟨Ze,Zd,Zb⟩⟩,Zs,Zr,ZF,Zz,ZM,ZB,Zv,Zu,Zn,Zy,Zm,Zw,⟨Zp,Zo,Zl⟩,ZD,ZG⟩)) (l:=(ZQ.lt ⟨ZZ,⟨ZN,Yq⟩,YG,l_id,⟨Yc,Yb,ZO⟩,YB,⟨ZL,ZV⟩,⟨Ya,ZX,ZK⟩⟩)) hk).trans (told_not (m:=ZP.nd ⟨⟨⟨wa,wi⟩,⟨wq,wj⟩,⟨w1a,w1c,w1l⟩,⟨w2a,w2c,w2l⟩⟩,Zs,Zr,ZF,Zz,ZM,(-1),Zv,Zu,Zn,Zy,Zm,Zw,⟨Zp,Zo,Zl⟩,ZD,ZG⟩) (show (ZP.nd ⟨⟨⟨Za,Zc⟩,⟨Zf,Zh⟩,⟨Zj,Zi,Zg⟩,⟨Ze,Zd,Zb⟩⟩,Zs,Zr,ZF,Zz,ZM,ZB,Zv,Zu,Zn,Zy,Zm,Zw,⟨Zp,Zo,Zl⟩,ZD,ZG⟩).askTo=(ZQ.lt ⟨ZZ,⟨ZN,Yq⟩,YG,l_id,⟨Yc,Yb,ZO⟩,YB,⟨ZL,ZV⟩,⟨Ya,ZX,ZK⟩⟩).frm.addr by show ZB=ZN;first|assumption|omega) (show (ZP.nd ⟨⟨⟨Za,Zc⟩,⟨Zf,Zh⟩,⟨Zj,Zi,Zg⟩,⟨Ze,Zd,Zb⟩⟩,Zs,Zr,ZF,Zz,ZM,ZB,Zv,Zu,Zn,Zy,Zm,Zw,⟨Zp,Zo,Zl⟩,ZD,ZG⟩).askReq=(ZQ.lt ⟨ZZ,⟨ZN,Yq⟩,YG,l_id,⟨Yc,Yb,ZO⟩,YB,⟨ZL,ZV⟩,⟨Ya,ZX,ZK⟩⟩).req by show Zv=YG;first|assumption|omega) hv1 (show ¬CloserT (ZT.tb ⟨⟨wa,wi⟩,⟨wq,wj⟩,⟨w1a,w1c,w1l⟩,⟨w2a,w2c,w2l⟩⟩) ⟨ZL,ZV⟩ by assumption))
     rw [show We (ZP.nd ⟨⟨⟨wa,wi⟩,⟨wq,wj⟩,⟨w1a,w1c,w1l⟩,⟨w2a,w2c,w2l⟩⟩,Zs,Zr,ZF,Zz,ZM,(-1),Zv,Zu,Zn,Zy,Zm,Zw,⟨Zp,Zo,Zl⟩,ZD,ZG⟩).table=⟨fa,fi⟩ from hfi] at h3
     refine ⟨_,M3,[(bw,rowO (ZR.segs ⟨⟨⟨⟨wa,wi⟩,⟨wq,wj⟩,⟨w1a,w1c,w1l⟩,⟨w2a,w2c,w2l⟩⟩,Zs,Zr,ZF,Zz,ZM,(-1),Zv,Zu,Zn,Zy,Zm,Zw,⟨Zp,Zo,Zl⟩,ZD,ZG⟩,⟨o9a,o9c,o9l⟩⟩) 68)],rfl,(hm1.trans hm3),hw.c,rfl,⟨⟨⟨wa,wi⟩,⟨wq,wj⟩,⟨w1a,w1c,w1l⟩,⟨w2a,w2c,w2l⟩⟩,Zs,Zr,ZF,Zz,ZM,(-1),Zv,Zu,Zn,Zy,Zm,Zw,⟨Zp,Zo,Zl⟩,ZD,ZG⟩,⟨o9a,o9c,o9l⟩,rfl,?_,?_,⟨okt.mono hm3,(Yr.mono hm1).mono hm3⟩,k9o,fun y hy=>?_⟩
     ·rw [h3] <;> rfl
     ·rw [h3]
      show sndl o9l=_
      rw [hl9];rfl
     ·simp only at hy
      rw [hl9] at hy
      obtain rfl:=List.mem_singleton.1 hy
      exact ⟨⟨SlK.nil,SlK.nil⟩⟩
end Go.Proofs.YtajmnjefajknoaaGreat
namespace Go.Proofs.YtajmnjefajknoaaGreat
open Go.Esp
theorem bye_ok (M:Mem) (bw:Nat) (Za:Int) (Zc:Plc) (Zf:Int) (Zh:Plc) (Zj Ze Zp:Option Addr) (Zi Zd Zo:Nat) (Zg Zb:List ZE) (Zl:List Int) (Zs:Int) (Zr:Bool) (ZF Zz ZM ZB Zv Zu Zn Zy Zm:Int) (Zw:Plc) (ZD ZG:Int) (Yk:ZT.ok M ⟨⟨Za,Zc⟩,⟨Zf,Zh⟩,⟨Zj,Zi,Zg⟩,⟨Ze,Zd,Zb⟩⟩) (Yr:SlK M (oneI .i64) 1 ⟨Zp,Zo,Zl⟩) (hbig:Zg.length≤40∧Zb.length≤200) (hLa:Zl.length≤1000) (hh:0≤ZD∧ZD≤1000) (l:ZQ) (hl0:ZQ.ok M l) (hLp:l.peers.l.length≤1000) (hk:l.kind=8):Fh Tryz.prog 52 [.pointer (some ⟨bw,0,none⟩),l.enc] M [(bw,rowO (ZR.segs ⟨⟨⟨⟨Za,Zc⟩,⟨Zf,Zh⟩,⟨Zj,Zi,Zg⟩,⟨Ze,Zd,Zb⟩⟩,Zs,Zr,ZF,Zz,ZM,ZB,Zv,Zu,Zn,Zy,Zm,Zw,⟨Zp,Zo,Zl⟩,ZD,ZG⟩,⟨none,0,[]⟩⟩) 68)] (fun M' v Hout=>v=.tuple #[]∧WkF bw 68 M' Hout (XS (ZP.nd ⟨⟨⟨Za,Zc⟩,⟨Zf,Zh⟩,⟨Zj,Zi,Zg⟩,⟨Ze,Zd,Zb⟩⟩,Zs,Zr,ZF,Zz,ZM,ZB,Zv,Zu,Zn,Zy,Zm,Zw,⟨Zp,Zo,Zl⟩,ZD,ZG⟩) l.lt)):=by
  obtain ⟨ZZ,⟨ZN,Yq⟩,YG,l_id,⟨Yc,Yb,ZO⟩,YB,⟨ZL,ZV⟩,⟨Ya,ZX,ZK⟩⟩:=l
  simp only at hLp hk
  have Xm:SlK M (oneI .i64) 1 ⟨Yc,Yb,ZO⟩:=hl0.h0
  have YX:SlK M ZE.segs 21 ⟨Ya,ZX,ZK⟩:=hl0.h1
  have XP:=YX.h1
  simp only at XP
  have WI:(ZK.map ZE.segs).length=ZK.length:=List.length_map ..
  have WJ:ZK.length≤ZX:=YX.h3
  refine XQ (fun H=>(bw,rowO (ZR.segs ⟨⟨⟨⟨Za,Zc⟩,⟨Zf,Zh⟩,⟨Zj,Zi,Zg⟩,⟨Ze,Zd,Zb⟩⟩,Zs,Zr,ZF,Zz,ZM,ZB,Zv,Zu,Zn,Zy,Zm,Zw,⟨Zp,Zo,Zl⟩,ZD,ZG⟩,⟨none,0,[]⟩⟩) 68)::H) (fun _=>by simp only [List.append_assoc,List.cons_append,List.nil_append]) Tryz.func52 rfl Tryz.ntmps52 rfl ?_;intro H
  refine ZJ (Zq (l:=[0]) rfl ?_)
  refine Xk ?_;intro b1
  refine Zx (Zt (Y_pk [3,0] ?_));refine ZJ (YF (l:=[0,1,2,3,4,5,6,7,8,9,10,11,12,13,14,15,16,17,18,19,20,21,22,23]) #[0,1,3,7,15,31,63,0,128,384,1023,0,2048,6144,14336,30720,63488,129024,0,262144,786432,2095104,131071,8388607] _ rfl (by kernel_rfl) (by kernel_rfl) St.drawn (fun _ h=>h) ?_);refine ZA ?_;refine ZU ?_;refine Zk F.foff68_0 ?_;refine Zk F.foff32_0 ?_;refine Zk F.foff28_1 ?_;refine Zk F.foff25_0 ?_;refine ZI F.lay3 ?_;refine Zk F.foff44_1 ?_;refine Zk F.foff25_0 ?_;refine ZI F.lay3 ?_;refine YC ?_;refine ZA ?_;refine ZU ?_;refine Zk F.foff68_0 ?_;refine Zk F.foff32_0 ?_;refine ZI F.lay28 ?_;refine X_fs rfl rfl F.ok41 rfl (First_ok _ ⟨⟨Za,Zc⟩,⟨Zf,Zh⟩,⟨Zj,Zi,Zg⟩,⟨Ze,Zd,Zb⟩⟩ Yk) rfl ?_
  rintro _ rfl
  obtain ⟨⟨fa,fi⟩,hfi⟩:∃ x,We (ZT.tb ⟨⟨Za,Zc⟩,⟨Zf,Zh⟩,⟨Zj,Zi,Zg⟩,⟨Ze,Zd,Zb⟩⟩)=x:=⟨_,rfl⟩
  rw [hfi]
  refine Y_field F.fld25_0 F.lay3 ?_;refine Zk F.foff44_1 ?_;refine Zk F.foff25_0 ?_;refine ZI F.lay3 ?_;refine YC ?_
  iterate 2 refine ZC ?_
  refine Zx (Zt (Y_pk [5,4,3,0] ?_));refine ZJ (YF (l:=[0,1,2,3,4,5,6,7,8,9,10,11,12,13]) #[0,0,2,6,14,30,0,64,192,510,1023,2047,4095,8191] _ rfl (by kernel_rfl) (by kernel_rfl) St.drawn (fun _ h=>h) ?_)
  iterate 2 refine ZA ?_
  refine ZU ?_;refine Zk F.foff68_0 ?_;refine Zk F.foff32_0 ?_;refine ZI F.lay28 ?_;refine Zk F.foff44_1 ?_;refine Zk F.foff25_0 ?_;refine ZI F.lay3 ?_;refine X_fn rfl rfl F.ok108 rfl (Forget_ok _ ⟨⟨Za,Zc⟩,⟨Zf,Zh⟩,⟨Zj,Zi,Zg⟩,⟨Ze,Zd,Zb⟩⟩ ZN Yk hbig) rfl ?_
  rintro _ M1 hm1 ⟨⟨⟨oa,oi⟩,⟨oq,oj⟩,⟨o1a,o1c,o1l⟩,⟨o2a,o2c,o2l⟩⟩,rfl,hot,okt⟩
  refine ZU ?_;refine Zk F.foff68_0 ?_;refine Zk F.foff32_0 ?_;refine Yi F.lay28 ?_;refine Zx (Zt (Y_pk [5,4,3,0] ?_))
  iterate 2 refine ZJ ?_
  refine Zq (l:=[0]) rfl ?_;refine ZA ?_;refine Zx (Zt (Y_pk [41,5,3,0] ?_))
  refine YA rfl (fun hc2=>?_) (fun hc2=>?_)
  ·replace hc2:=dT hc2
   refine YF (l:=[0,1,2,3,4,5,6,7,8,9,10,11,12]) #[0,0,2,6,14,30,0,64,254,511,1023,2047,4095] _ rfl (by kernel_rfl) (by kernel_rfl) St.drawn (fun _ h=>h) ?_
   iterate 2 refine ZA ?_
   refine ZU ?_;refine Zk F.foff68_0 ?_;refine Zk F.foff32_0 ?_;refine ZI F.lay28 ?_;refine Zk F.foff44_6 ?_;refine ZI F.lay25 ?_;refine X_fn rfl rfl F.ok107 rfl (Learn_ok _ ⟨⟨oa,oi⟩,⟨oq,oj⟩,⟨o1a,o1c,o1l⟩,⟨o2a,o2c,o2l⟩⟩ ⟨ZL,ZV⟩ okt) rfl ?_
   rintro _ M2 hm2 ⟨⟨⟨wa,wi⟩,⟨wq,wj⟩,⟨w1a,w1c,w1l⟩,⟨w2a,w2c,w2l⟩⟩,rfl,hol,okl⟩
   refine ZU ?_;refine Zk F.foff68_0 ?_;refine Zk F.foff32_0 ?_;refine Yi F.lay28 ?_;refine Zx (Zt (Y_pk [5,3,0] ?_));refine ZJ ?_
   have s_lp9:=XP.mono (hm1.trans hm2)
   refine Zq (l:=[0,1,2,3,4,5,6]) rfl ?_
   iterate 2 refine ZA ?_
   refine Yp 55 rfl (fun hc3=>?_) (fun hc3=>?_)
   ·replace hc3:=dT hc3
    refine Zk F.foff44_7 ?_;refine ZI F.lay26 ?_;refine YZ F.elem26 ?_;refine YC ?_;refine ZS ?_;refine Zx (Zt (Y_pk [60,3,0] ?_))
    refine YA rfl (fun hc4=>?_) (fun hc4=>?_)
    ·replace hc4:=dT hc4
     refine C_region_anyW (l:=[0,1,2,3,4,5,6,7,8]) [8] #[0,0,2,6,14,0,32,96,255] (_) rfl (by kernel_rfl) (by kernel_rfl) St.drawn (fun _ h=>h) ?_;refine ZA ?_;refine Zk F.foff44_7 ?_;refine ZI F.lay26 ?_;refine Xa rfl rfl rfl rfl F.elem26 (by rfl) (by (simp;omega)) (by exact SlM.plain (by assumption) (by (simp;omega))) rfl ?_;refine Wb rfl rfl rfl (by assumption) (by exact WB (by (simp;omega))) F.lay25 rfl rfl rfl ?_;refine Zk F.foff44_7 ?_;refine ZI F.lay26 ?_;refine WR rfl rfl rfl (.some (k:=1) rfl rfl) .none .none F.elem26 (by simp only [Option.getD_none];omega) (by simp only [Option.getD_some,Option.getD_none];omega) (by simp only [Option.getD_some,Option.getD_none];omega) (by simp) (pieceV_drop (l:=ZK) (k:=1)) rfl ?_;refine WA rfl rfl rfl F.ok82 rfl (adopt_ok M2 bw wa wi wq wj w1a w2a Zp w1c w2c Zo w1l w2l Zl Zs Zr ZF Zz ZM ZB Zv Zu Zn Zy Zm Zw ZD ZG okl ZK[0] ⟨_,_,ZK.drop 1⟩ ((YX.mono (hm1.trans hm2)).drop 1 (by omega))) (by repeat first|exact Rem.here _|exact Rem.two|apply Rem.skip|apply Rem.over) (Yv rfl) ?_
     rintro _ M3 hs3 hm3 ⟨rfl,⟨⟨ua,ui⟩,⟨uq,uj⟩,⟨u1a,u1c,u1l⟩,⟨u2a,u2c,u2l⟩⟩,rfl,oku,hv1⟩
     simp only [List.append_assoc,List.cons_append,List.nil_append]
     refine Zx (Wl ?_)
     refine Yj (.inl rfl) (.nil) (fun w hw=>?_)
     have h2:ZP.nd ⟨⟨⟨wa,wi⟩,⟨wq,wj⟩,⟨w1a,w1c,w1l⟩,⟨w2a,w2c,w2l⟩⟩,Zs,Zr,ZF,Zz,ZM,ZB,Zv,Zu,Zn,Zy,Zm,Zw,⟨Zp,Zo,Zl⟩,ZD,ZG⟩={ ZP.nd ⟨⟨⟨Za,Zc⟩,⟨Zf,Zh⟩,⟨Zj,Zi,Zg⟩,⟨Ze,Zd,Zb⟩⟩,Zs,Zr,ZF,Zz,ZM,ZB,Zv,Zu,Zn,Zy,Zm,Zw,⟨Zp,Zo,Zl⟩,ZD,ZG⟩ with table:=byeT (ZP.nd ⟨⟨⟨Za,Zc⟩,⟨Zf,Zh⟩,⟨Zj,Zi,Zg⟩,⟨Ze,Zd,Zb⟩⟩,Zs,Zr,ZF,Zz,ZM,ZB,Zv,Zu,Zn,Zy,Zm,Zw,⟨Zp,Zo,Zl⟩,ZD,ZG⟩) (ZQ.lt ⟨ZZ,⟨ZN,Yq⟩,YG,l_id,⟨Yc,Yb,ZO⟩,YB,⟨ZL,ZV⟩,⟨Ya,ZX,ZK⟩⟩) }:=by
      unfold byeT
      rw [if_pos (show (ZP.nd ⟨⟨⟨Za,Zc⟩,⟨Zf,Zh⟩,⟨Zj,Zi,Zg⟩,⟨Ze,Zd,Zb⟩⟩,Zs,Zr,ZF,Zz,ZM,ZB,Zv,Zu,Zn,Zy,Zm,Zw,⟨Zp,Zo,Zl⟩,ZD,ZG⟩).table.pred.addr=(ZQ.lt ⟨ZZ,⟨ZN,Yq⟩,YG,l_id,⟨Yc,Yb,ZO⟩,YB,⟨ZL,ZV⟩,⟨Ya,ZX,ZK⟩⟩).frm.addr from (show Zf=ZN by assumption)),show Wi (ZP.nd ⟨⟨⟨Za,Zc⟩,⟨Zf,Zh⟩,⟨Zj,Zi,Zg⟩,⟨Ze,Zd,Zb⟩⟩,Zs,Zr,ZF,Zz,ZM,ZB,Zv,Zu,Zn,Zy,Zm,Zw,⟨Zp,Zo,Zl⟩,ZD,ZG⟩).table (ZQ.lt ⟨ZZ,⟨ZN,Yq⟩,YG,l_id,⟨Yc,Yb,ZO⟩,YB,⟨ZL,ZV⟩,⟨Ya,ZX,ZK⟩⟩).frm.addr=_ from hot.symm,show VK (ZT.tb ⟨⟨oa,oi⟩,⟨oq,oj⟩,⟨o1a,o1c,o1l⟩,⟨o2a,o2c,o2l⟩⟩) (ZQ.lt ⟨ZZ,⟨ZN,Yq⟩,YG,l_id,⟨Yc,Yb,ZO⟩,YB,⟨ZL,ZV⟩,⟨Ya,ZX,ZK⟩⟩).peer=_ from hol.symm];rfl
     have h3:XS (ZP.nd ⟨⟨⟨Za,Zc⟩,⟨Zf,Zh⟩,⟨Zj,Zi,Zg⟩,⟨Ze,Zd,Zb⟩⟩,Zs,Zr,ZF,Zz,ZM,ZB,Zv,Zu,Zn,Zy,Zm,Zw,⟨Zp,Zo,Zl⟩,ZD,ZG⟩) (ZQ.lt ⟨ZZ,⟨ZN,Yq⟩,YG,l_id,⟨Yc,Yb,ZO⟩,YB,⟨ZL,ZV⟩,⟨Ya,ZX,ZK⟩⟩)=(ZP.nd ⟨⟨⟨ua,ui⟩,⟨uq,uj⟩,⟨u1a,u1c,u1l⟩,⟨u2a,u2c,u2l⟩⟩,Zs,Zr,ZF,Zz,ZM,ZB,Zv,Zu,Zn,Zy,Zm,Zw,⟨Zp,Zo,Zl⟩,ZD,ZG⟩,[]):=(does8 hk).trans (congrArg (fun x=>(x,([]:List Snd))) ((bye_yes h2 (show (We (ZT.tb ⟨⟨Za,Zc⟩,⟨Zf,Zh⟩,⟨Zj,Zi,Zg⟩,⟨Ze,Zd,Zb⟩⟩)).addr=ZN by rw [hfi];assumption) (show 0<ZK.length by omega)).trans hv1.symm))
     refine ⟨_,M3,[(bw,rowO (ZR.segs ⟨⟨⟨⟨ua,ui⟩,⟨uq,uj⟩,⟨u1a,u1c,u1l⟩,⟨u2a,u2c,u2l⟩⟩,Zs,Zr,ZF,Zz,ZM,ZB,Zv,Zu,Zn,Zy,Zm,Zw,⟨Zp,Zo,Zl⟩,ZD,ZG⟩,⟨none,0,[]⟩⟩) 68)],rfl,((hm1.trans hm2).trans hm3),hw.c,rfl,⟨⟨⟨ua,ui⟩,⟨uq,uj⟩,⟨u1a,u1c,u1l⟩,⟨u2a,u2c,u2l⟩⟩,Zs,Zr,ZF,Zz,ZM,ZB,Zv,Zu,Zn,Zy,Zm,Zw,⟨Zp,Zo,Zl⟩,ZD,ZG⟩,⟨none,0,[]⟩,rfl,?_,?_,⟨oku,((Yr.mono hm1).mono hm2).mono hm3⟩,SlK.nil,fun y hy=>by cases hy⟩
     ·rw [h3] <;> rfl
     ·rw [h3] <;> rfl
    ·replace hc4:=dF hc4
     refine Yz ?_
     refine Yj (.inl rfl) (.nil) (fun w hw=>?_)
     have h2:ZP.nd ⟨⟨⟨wa,wi⟩,⟨wq,wj⟩,⟨w1a,w1c,w1l⟩,⟨w2a,w2c,w2l⟩⟩,Zs,Zr,ZF,Zz,ZM,ZB,Zv,Zu,Zn,Zy,Zm,Zw,⟨Zp,Zo,Zl⟩,ZD,ZG⟩={ ZP.nd ⟨⟨⟨Za,Zc⟩,⟨Zf,Zh⟩,⟨Zj,Zi,Zg⟩,⟨Ze,Zd,Zb⟩⟩,Zs,Zr,ZF,Zz,ZM,ZB,Zv,Zu,Zn,Zy,Zm,Zw,⟨Zp,Zo,Zl⟩,ZD,ZG⟩ with table:=byeT (ZP.nd ⟨⟨⟨Za,Zc⟩,⟨Zf,Zh⟩,⟨Zj,Zi,Zg⟩,⟨Ze,Zd,Zb⟩⟩,Zs,Zr,ZF,Zz,ZM,ZB,Zv,Zu,Zn,Zy,Zm,Zw,⟨Zp,Zo,Zl⟩,ZD,ZG⟩) (ZQ.lt ⟨ZZ,⟨ZN,Yq⟩,YG,l_id,⟨Yc,Yb,ZO⟩,YB,⟨ZL,ZV⟩,⟨Ya,ZX,ZK⟩⟩) }:=by
      unfold byeT
      rw [if_pos (show (ZP.nd ⟨⟨⟨Za,Zc⟩,⟨Zf,Zh⟩,⟨Zj,Zi,Zg⟩,⟨Ze,Zd,Zb⟩⟩,Zs,Zr,ZF,Zz,ZM,ZB,Zv,Zu,Zn,Zy,Zm,Zw,⟨Zp,Zo,Zl⟩,ZD,ZG⟩).table.pred.addr=(ZQ.lt ⟨ZZ,⟨ZN,Yq⟩,YG,l_id,⟨Yc,Yb,ZO⟩,YB,⟨ZL,ZV⟩,⟨Ya,ZX,ZK⟩⟩).frm.addr from (show Zf=ZN by assumption)),show Wi (ZP.nd ⟨⟨⟨Za,Zc⟩,⟨Zf,Zh⟩,⟨Zj,Zi,Zg⟩,⟨Ze,Zd,Zb⟩⟩,Zs,Zr,ZF,Zz,ZM,ZB,Zv,Zu,Zn,Zy,Zm,Zw,⟨Zp,Zo,Zl⟩,ZD,ZG⟩).table (ZQ.lt ⟨ZZ,⟨ZN,Yq⟩,YG,l_id,⟨Yc,Yb,ZO⟩,YB,⟨ZL,ZV⟩,⟨Ya,ZX,ZK⟩⟩).frm.addr=_ from hot.symm,show VK (ZT.tb ⟨⟨oa,oi⟩,⟨oq,oj⟩,⟨o1a,o1c,o1l⟩,⟨o2a,o2c,o2l⟩⟩) (ZQ.lt ⟨ZZ,⟨ZN,Yq⟩,YG,l_id,⟨Yc,Yb,ZO⟩,YB,⟨ZL,ZV⟩,⟨Ya,ZX,ZK⟩⟩).peer=_ from hol.symm];rfl
     have h3:XS (ZP.nd ⟨⟨⟨Za,Zc⟩,⟨Zf,Zh⟩,⟨Zj,Zi,Zg⟩,⟨Ze,Zd,Zb⟩⟩,Zs,Zr,ZF,Zz,ZM,ZB,Zv,Zu,Zn,Zy,Zm,Zw,⟨Zp,Zo,Zl⟩,ZD,ZG⟩) (ZQ.lt ⟨ZZ,⟨ZN,Yq⟩,YG,l_id,⟨Yc,Yb,ZO⟩,YB,⟨ZL,ZV⟩,⟨Ya,ZX,ZK⟩⟩)=(ZP.nd ⟨⟨⟨wa,wi⟩,⟨wq,wj⟩,⟨w1a,w1c,w1l⟩,⟨w2a,w2c,w2l⟩⟩,Zs,Zr,ZF,Zz,ZM,ZB,Zv,Zu,Zn,Zy,Zm,Zw,⟨Zp,Zo,Zl⟩,ZD,ZG⟩,[]):=(does8 hk).trans (congrArg (fun x=>(x,([]:List Snd))) (bye_no h2 (fun q1 q2=>(by
      replace q1:(We (ZT.tb ⟨⟨Za,Zc⟩,⟨Zf,Zh⟩,⟨Zj,Zi,Zg⟩,⟨Ze,Zd,Zb⟩⟩)).addr=ZN:=q1
      replace q2:0<ZK.length:=q2
      rw [hfi] at q1
      (exfalso;omega)))))
     refine ⟨_,M2,[(bw,rowO (ZR.segs ⟨⟨⟨⟨wa,wi⟩,⟨wq,wj⟩,⟨w1a,w1c,w1l⟩,⟨w2a,w2c,w2l⟩⟩,Zs,Zr,ZF,Zz,ZM,ZB,Zv,Zu,Zn,Zy,Zm,Zw,⟨Zp,Zo,Zl⟩,ZD,ZG⟩,⟨none,0,[]⟩⟩) 68)],rfl,(hm1.trans hm2),hw.c,rfl,⟨⟨⟨wa,wi⟩,⟨wq,wj⟩,⟨w1a,w1c,w1l⟩,⟨w2a,w2c,w2l⟩⟩,Zs,Zr,ZF,Zz,ZM,ZB,Zv,Zu,Zn,Zy,Zm,Zw,⟨Zp,Zo,Zl⟩,ZD,ZG⟩,⟨none,0,[]⟩,rfl,?_,?_,⟨okl,((Yr.mono hm1).mono hm2)⟩,SlK.nil,fun y hy=>by cases hy⟩
     ·rw [h3] <;> rfl
     ·rw [h3] <;> rfl
   ·replace hc3:=dF hc3
    iterate 4 refine Yh ?_
    refine ZS ?_;refine Zx (Zt (Y_pk [60,3,0] ?_));refine Wq rfl ?_;refine Yz ?_
    refine Yj (.inl rfl) (.nil) (fun w hw=>?_)
    have h2:ZP.nd ⟨⟨⟨wa,wi⟩,⟨wq,wj⟩,⟨w1a,w1c,w1l⟩,⟨w2a,w2c,w2l⟩⟩,Zs,Zr,ZF,Zz,ZM,ZB,Zv,Zu,Zn,Zy,Zm,Zw,⟨Zp,Zo,Zl⟩,ZD,ZG⟩={ ZP.nd ⟨⟨⟨Za,Zc⟩,⟨Zf,Zh⟩,⟨Zj,Zi,Zg⟩,⟨Ze,Zd,Zb⟩⟩,Zs,Zr,ZF,Zz,ZM,ZB,Zv,Zu,Zn,Zy,Zm,Zw,⟨Zp,Zo,Zl⟩,ZD,ZG⟩ with table:=byeT (ZP.nd ⟨⟨⟨Za,Zc⟩,⟨Zf,Zh⟩,⟨Zj,Zi,Zg⟩,⟨Ze,Zd,Zb⟩⟩,Zs,Zr,ZF,Zz,ZM,ZB,Zv,Zu,Zn,Zy,Zm,Zw,⟨Zp,Zo,Zl⟩,ZD,ZG⟩) (ZQ.lt ⟨ZZ,⟨ZN,Yq⟩,YG,l_id,⟨Yc,Yb,ZO⟩,YB,⟨ZL,ZV⟩,⟨Ya,ZX,ZK⟩⟩) }:=by
     unfold byeT
     rw [if_pos (show (ZP.nd ⟨⟨⟨Za,Zc⟩,⟨Zf,Zh⟩,⟨Zj,Zi,Zg⟩,⟨Ze,Zd,Zb⟩⟩,Zs,Zr,ZF,Zz,ZM,ZB,Zv,Zu,Zn,Zy,Zm,Zw,⟨Zp,Zo,Zl⟩,ZD,ZG⟩).table.pred.addr=(ZQ.lt ⟨ZZ,⟨ZN,Yq⟩,YG,l_id,⟨Yc,Yb,ZO⟩,YB,⟨ZL,ZV⟩,⟨Ya,ZX,ZK⟩⟩).frm.addr from (show Zf=ZN by assumption)),show Wi (ZP.nd ⟨⟨⟨Za,Zc⟩,⟨Zf,Zh⟩,⟨Zj,Zi,Zg⟩,⟨Ze,Zd,Zb⟩⟩,Zs,Zr,ZF,Zz,ZM,ZB,Zv,Zu,Zn,Zy,Zm,Zw,⟨Zp,Zo,Zl⟩,ZD,ZG⟩).table (ZQ.lt ⟨ZZ,⟨ZN,Yq⟩,YG,l_id,⟨Yc,Yb,ZO⟩,YB,⟨ZL,ZV⟩,⟨Ya,ZX,ZK⟩⟩).frm.addr=_ from hot.symm,show VK (ZT.tb ⟨⟨oa,oi⟩,⟨oq,oj⟩,⟨o1a,o1c,o1l⟩,⟨o2a,o2c,o2l⟩⟩) (ZQ.lt ⟨ZZ,⟨ZN,Yq⟩,YG,l_id,⟨Yc,Yb,ZO⟩,YB,⟨ZL,ZV⟩,⟨Ya,ZX,ZK⟩⟩).peer=_ from hol.symm];rfl
    have h3:XS (ZP.nd ⟨⟨⟨Za,Zc⟩,⟨Zf,Zh⟩,⟨Zj,Zi,Zg⟩,⟨Ze,Zd,Zb⟩⟩,Zs,Zr,ZF,Zz,ZM,ZB,Zv,Zu,Zn,Zy,Zm,Zw,⟨Zp,Zo,Zl⟩,ZD,ZG⟩) (ZQ.lt ⟨ZZ,⟨ZN,Yq⟩,YG,l_id,⟨Yc,Yb,ZO⟩,YB,⟨ZL,ZV⟩,⟨Ya,ZX,ZK⟩⟩)=(ZP.nd ⟨⟨⟨wa,wi⟩,⟨wq,wj⟩,⟨w1a,w1c,w1l⟩,⟨w2a,w2c,w2l⟩⟩,Zs,Zr,ZF,Zz,ZM,ZB,Zv,Zu,Zn,Zy,Zm,Zw,⟨Zp,Zo,Zl⟩,ZD,ZG⟩,[]):=(does8 hk).trans (congrArg (fun x=>(x,([]:List Snd))) (bye_no h2 (fun q1 q2=>(by
     replace q1:(We (ZT.tb ⟨⟨Za,Zc⟩,⟨Zf,Zh⟩,⟨Zj,Zi,Zg⟩,⟨Ze,Zd,Zb⟩⟩)).addr=ZN:=q1
     replace q2:0<ZK.length:=q2
     rw [hfi] at q1
     contradiction))))
    refine ⟨_,M2,[(bw,rowO (ZR.segs ⟨⟨⟨⟨wa,wi⟩,⟨wq,wj⟩,⟨w1a,w1c,w1l⟩,⟨w2a,w2c,w2l⟩⟩,Zs,Zr,ZF,Zz,ZM,ZB,Zv,Zu,Zn,Zy,Zm,Zw,⟨Zp,Zo,Zl⟩,ZD,ZG⟩,⟨none,0,[]⟩⟩) 68)],rfl,(hm1.trans hm2),hw.c,rfl,⟨⟨⟨wa,wi⟩,⟨wq,wj⟩,⟨w1a,w1c,w1l⟩,⟨w2a,w2c,w2l⟩⟩,Zs,Zr,ZF,Zz,ZM,ZB,Zv,Zu,Zn,Zy,Zm,Zw,⟨Zp,Zo,Zl⟩,ZD,ZG⟩,⟨none,0,[]⟩,rfl,?_,?_,⟨okl,((Yr.mono hm1).mono hm2)⟩,SlK.nil,fun y hy=>by cases hy⟩
    ·rw [h3] <;> rfl
    ·rw [h3] <;> rfl
  ·replace hc2:=dF hc2
   refine Yz (Zt (Y_pk [5,3,0] ?_));refine ZJ ?_
   have s_lp9:=XP.mono hm1
   refine Zq (l:=[0,1,2,3,4,5,6]) rfl ?_
   iterate 2 refine ZA ?_
   refine Yp 55 rfl (fun hc5=>?_) (fun hc5=>?_)
   ·replace hc5:=dT hc5
    refine Zk F.foff44_7 ?_;refine ZI F.lay26 ?_;refine YZ F.elem26 ?_;refine YC ?_;refine ZS ?_;refine Zx (Zt (Y_pk [60,3,0] ?_))
    refine YA rfl (fun hc6=>?_) (fun hc6=>?_)
    ·replace hc6:=dT hc6
     refine C_region_anyW (l:=[0,1,2,3,4,5,6,7,8]) [8] #[0,0,2,6,14,0,32,96,255] (_) rfl (by kernel_rfl) (by kernel_rfl) St.drawn (fun _ h=>h) ?_;refine ZA ?_;refine Zk F.foff44_7 ?_;refine ZI F.lay26 ?_;refine Xa rfl rfl rfl rfl F.elem26 (by rfl) (by (simp;omega)) (by exact SlM.plain (by assumption) (by (simp;omega))) rfl ?_;refine Wb rfl rfl rfl (by assumption) (by exact WB (by (simp;omega))) F.lay25 rfl rfl rfl ?_;refine Zk F.foff44_7 ?_;refine ZI F.lay26 ?_;refine WR rfl rfl rfl (.some (k:=1) rfl rfl) .none .none F.elem26 (by simp only [Option.getD_none];omega) (by simp only [Option.getD_some,Option.getD_none];omega) (by simp only [Option.getD_some,Option.getD_none];omega) (by simp) (pieceV_drop (l:=ZK) (k:=1)) rfl ?_;refine WA rfl rfl rfl F.ok82 rfl (adopt_ok M1 bw oa oi oq oj o1a o2a Zp o1c o2c Zo o1l o2l Zl Zs Zr ZF Zz ZM ZB Zv Zu Zn Zy Zm Zw ZD ZG okt ZK[0] ⟨_,_,ZK.drop 1⟩ ((YX.mono hm1).drop 1 (by omega))) (by repeat first|exact Rem.here _|exact Rem.two|apply Rem.skip|apply Rem.over) (Yv rfl) ?_
     rintro _ M3 hs3 hm3 ⟨rfl,⟨⟨ua,ui⟩,⟨uq,uj⟩,⟨u1a,u1c,u1l⟩,⟨u2a,u2c,u2l⟩⟩,rfl,oku,hv1⟩
     simp only [List.append_assoc,List.cons_append,List.nil_append]
     refine Zx (Wl ?_)
     refine Yj (.inl rfl) (.nil) (fun w hw=>?_)
     have h2:ZP.nd ⟨⟨⟨oa,oi⟩,⟨oq,oj⟩,⟨o1a,o1c,o1l⟩,⟨o2a,o2c,o2l⟩⟩,Zs,Zr,ZF,Zz,ZM,ZB,Zv,Zu,Zn,Zy,Zm,Zw,⟨Zp,Zo,Zl⟩,ZD,ZG⟩={ ZP.nd ⟨⟨⟨Za,Zc⟩,⟨Zf,Zh⟩,⟨Zj,Zi,Zg⟩,⟨Ze,Zd,Zb⟩⟩,Zs,Zr,ZF,Zz,ZM,ZB,Zv,Zu,Zn,Zy,Zm,Zw,⟨Zp,Zo,Zl⟩,ZD,ZG⟩ with table:=byeT (ZP.nd ⟨⟨⟨Za,Zc⟩,⟨Zf,Zh⟩,⟨Zj,Zi,Zg⟩,⟨Ze,Zd,Zb⟩⟩,Zs,Zr,ZF,Zz,ZM,ZB,Zv,Zu,Zn,Zy,Zm,Zw,⟨Zp,Zo,Zl⟩,ZD,ZG⟩) (ZQ.lt ⟨ZZ,⟨ZN,Yq⟩,YG,l_id,⟨Yc,Yb,ZO⟩,YB,⟨ZL,ZV⟩,⟨Ya,ZX,ZK⟩⟩) }:=by
      unfold byeT
      rw [if_neg (show ¬(ZP.nd ⟨⟨⟨Za,Zc⟩,⟨Zf,Zh⟩,⟨Zj,Zi,Zg⟩,⟨Ze,Zd,Zb⟩⟩,Zs,Zr,ZF,Zz,ZM,ZB,Zv,Zu,Zn,Zy,Zm,Zw,⟨Zp,Zo,Zl⟩,ZD,ZG⟩).table.pred.addr=(ZQ.lt ⟨ZZ,⟨ZN,Yq⟩,YG,l_id,⟨Yc,Yb,ZO⟩,YB,⟨ZL,ZV⟩,⟨Ya,ZX,ZK⟩⟩).frm.addr from (show ¬Zf=ZN by assumption)),show Wi (ZP.nd ⟨⟨⟨Za,Zc⟩,⟨Zf,Zh⟩,⟨Zj,Zi,Zg⟩,⟨Ze,Zd,Zb⟩⟩,Zs,Zr,ZF,Zz,ZM,ZB,Zv,Zu,Zn,Zy,Zm,Zw,⟨Zp,Zo,Zl⟩,ZD,ZG⟩).table (ZQ.lt ⟨ZZ,⟨ZN,Yq⟩,YG,l_id,⟨Yc,Yb,ZO⟩,YB,⟨ZL,ZV⟩,⟨Ya,ZX,ZK⟩⟩).frm.addr=_ from hot.symm];rfl
     have h3:XS (ZP.nd ⟨⟨⟨Za,Zc⟩,⟨Zf,Zh⟩,⟨Zj,Zi,Zg⟩,⟨Ze,Zd,Zb⟩⟩,Zs,Zr,ZF,Zz,ZM,ZB,Zv,Zu,Zn,Zy,Zm,Zw,⟨Zp,Zo,Zl⟩,ZD,ZG⟩) (ZQ.lt ⟨ZZ,⟨ZN,Yq⟩,YG,l_id,⟨Yc,Yb,ZO⟩,YB,⟨ZL,ZV⟩,⟨Ya,ZX,ZK⟩⟩)=(ZP.nd ⟨⟨⟨ua,ui⟩,⟨uq,uj⟩,⟨u1a,u1c,u1l⟩,⟨u2a,u2c,u2l⟩⟩,Zs,Zr,ZF,Zz,ZM,ZB,Zv,Zu,Zn,Zy,Zm,Zw,⟨Zp,Zo,Zl⟩,ZD,ZG⟩,[]):=(does8 hk).trans (congrArg (fun x=>(x,([]:List Snd))) ((bye_yes h2 (show (We (ZT.tb ⟨⟨Za,Zc⟩,⟨Zf,Zh⟩,⟨Zj,Zi,Zg⟩,⟨Ze,Zd,Zb⟩⟩)).addr=ZN by rw [hfi];assumption) (show 0<ZK.length by omega)).trans hv1.symm))
     refine ⟨_,M3,[(bw,rowO (ZR.segs ⟨⟨⟨⟨ua,ui⟩,⟨uq,uj⟩,⟨u1a,u1c,u1l⟩,⟨u2a,u2c,u2l⟩⟩,Zs,Zr,ZF,Zz,ZM,ZB,Zv,Zu,Zn,Zy,Zm,Zw,⟨Zp,Zo,Zl⟩,ZD,ZG⟩,⟨none,0,[]⟩⟩) 68)],rfl,(hm1.trans hm3),hw.c,rfl,⟨⟨⟨ua,ui⟩,⟨uq,uj⟩,⟨u1a,u1c,u1l⟩,⟨u2a,u2c,u2l⟩⟩,Zs,Zr,ZF,Zz,ZM,ZB,Zv,Zu,Zn,Zy,Zm,Zw,⟨Zp,Zo,Zl⟩,ZD,ZG⟩,⟨none,0,[]⟩,rfl,?_,?_,⟨oku,(Yr.mono hm1).mono hm3⟩,SlK.nil,fun y hy=>by cases hy⟩
     ·rw [h3] <;> rfl
     ·rw [h3] <;> rfl
    ·replace hc6:=dF hc6
     refine Yz ?_
     refine Yj (.inl rfl) (.nil) (fun w hw=>?_)
     have h2:ZP.nd ⟨⟨⟨oa,oi⟩,⟨oq,oj⟩,⟨o1a,o1c,o1l⟩,⟨o2a,o2c,o2l⟩⟩,Zs,Zr,ZF,Zz,ZM,ZB,Zv,Zu,Zn,Zy,Zm,Zw,⟨Zp,Zo,Zl⟩,ZD,ZG⟩={ ZP.nd ⟨⟨⟨Za,Zc⟩,⟨Zf,Zh⟩,⟨Zj,Zi,Zg⟩,⟨Ze,Zd,Zb⟩⟩,Zs,Zr,ZF,Zz,ZM,ZB,Zv,Zu,Zn,Zy,Zm,Zw,⟨Zp,Zo,Zl⟩,ZD,ZG⟩ with table:=byeT (ZP.nd ⟨⟨⟨Za,Zc⟩,⟨Zf,Zh⟩,⟨Zj,Zi,Zg⟩,⟨Ze,Zd,Zb⟩⟩,Zs,Zr,ZF,Zz,ZM,ZB,Zv,Zu,Zn,Zy,Zm,Zw,⟨Zp,Zo,Zl⟩,ZD,ZG⟩) (ZQ.lt ⟨ZZ,⟨ZN,Yq⟩,YG,l_id,⟨Yc,Yb,ZO⟩,YB,⟨ZL,ZV⟩,⟨Ya,ZX,ZK⟩⟩) }:=by
      unfold byeT
      rw [if_neg (show ¬(ZP.nd ⟨⟨⟨Za,Zc⟩,⟨Zf,Zh⟩,⟨Zj,Zi,Zg⟩,⟨Ze,Zd,Zb⟩⟩,Zs,Zr,ZF,Zz,ZM,ZB,Zv,Zu,Zn,Zy,Zm,Zw,⟨Zp,Zo,Zl⟩,ZD,ZG⟩).table.pred.addr=(ZQ.lt ⟨ZZ,⟨ZN,Yq⟩,YG,l_id,⟨Yc,Yb,ZO⟩,YB,⟨ZL,ZV⟩,⟨Ya,ZX,ZK⟩⟩).frm.addr from (show ¬Zf=ZN by assumption)),show Wi (ZP.nd ⟨⟨⟨Za,Zc⟩,⟨Zf,Zh⟩,⟨Zj,Zi,Zg⟩,⟨Ze,Zd,Zb⟩⟩,Zs,Zr,ZF,Zz,ZM,ZB,Zv,Zu,Zn,Zy,Zm,Zw,⟨Zp,Zo,Zl⟩,ZD,ZG⟩).table (ZQ.lt ⟨ZZ,⟨ZN,Yq⟩,YG,l_id,⟨Yc,Yb,ZO⟩,YB,⟨ZL,ZV⟩,⟨Ya,ZX,ZK⟩⟩).frm.addr=_ from hot.symm];rfl
     have h3:XS (ZP.nd ⟨⟨⟨Za,Zc⟩,⟨Zf,Zh⟩,⟨Zj,Zi,Zg⟩,⟨Ze,Zd,Zb⟩⟩,Zs,Zr,ZF,Zz,ZM,ZB,Zv,Zu,Zn,Zy,Zm,Zw,⟨Zp,Zo,Zl⟩,ZD,ZG⟩) (ZQ.lt ⟨ZZ,⟨ZN,Yq⟩,YG,l_id,⟨Yc,Yb,ZO⟩,YB,⟨ZL,ZV⟩,⟨Ya,ZX,ZK⟩⟩)=(ZP.nd ⟨⟨⟨oa,oi⟩,⟨oq,oj⟩,⟨o1a,o1c,o1l⟩,⟨o2a,o2c,o2l⟩⟩,Zs,Zr,ZF,Zz,ZM,ZB,Zv,Zu,Zn,Zy,Zm,Zw,⟨Zp,Zo,Zl⟩,ZD,ZG⟩,[]):=(does8 hk).trans (congrArg (fun x=>(x,([]:List Snd))) (bye_no h2 (fun q1 q2=>(by
      replace q1:(We (ZT.tb ⟨⟨Za,Zc⟩,⟨Zf,Zh⟩,⟨Zj,Zi,Zg⟩,⟨Ze,Zd,Zb⟩⟩)).addr=ZN:=q1
      replace q2:0<ZK.length:=q2
      rw [hfi] at q1
      (exfalso;omega)))))
     refine ⟨_,M1,[(bw,rowO (ZR.segs ⟨⟨⟨⟨oa,oi⟩,⟨oq,oj⟩,⟨o1a,o1c,o1l⟩,⟨o2a,o2c,o2l⟩⟩,Zs,Zr,ZF,Zz,ZM,ZB,Zv,Zu,Zn,Zy,Zm,Zw,⟨Zp,Zo,Zl⟩,ZD,ZG⟩,⟨none,0,[]⟩⟩) 68)],rfl,hm1,hw.c,rfl,⟨⟨⟨oa,oi⟩,⟨oq,oj⟩,⟨o1a,o1c,o1l⟩,⟨o2a,o2c,o2l⟩⟩,Zs,Zr,ZF,Zz,ZM,ZB,Zv,Zu,Zn,Zy,Zm,Zw,⟨Zp,Zo,Zl⟩,ZD,ZG⟩,⟨none,0,[]⟩,rfl,?_,?_,⟨okt,(Yr.mono hm1)⟩,SlK.nil,fun y hy=>by cases hy⟩
     ·rw [h3] <;> rfl
     ·rw [h3] <;> rfl
   ·replace hc5:=dF hc5
    iterate 4 refine Yh ?_
    refine ZS ?_;refine Zx (Zt (Y_pk [60,3,0] ?_));refine Wq rfl ?_;refine Yz ?_
    refine Yj (.inl rfl) (.nil) (fun w hw=>?_)
    have h2:ZP.nd ⟨⟨⟨oa,oi⟩,⟨oq,oj⟩,⟨o1a,o1c,o1l⟩,⟨o2a,o2c,o2l⟩⟩,Zs,Zr,ZF,Zz,ZM,ZB,Zv,Zu,Zn,Zy,Zm,Zw,⟨Zp,Zo,Zl⟩,ZD,ZG⟩={ ZP.nd ⟨⟨⟨Za,Zc⟩,⟨Zf,Zh⟩,⟨Zj,Zi,Zg⟩,⟨Ze,Zd,Zb⟩⟩,Zs,Zr,ZF,Zz,ZM,ZB,Zv,Zu,Zn,Zy,Zm,Zw,⟨Zp,Zo,Zl⟩,ZD,ZG⟩ with table:=byeT (ZP.nd ⟨⟨⟨Za,Zc⟩,⟨Zf,Zh⟩,⟨Zj,Zi,Zg⟩,⟨Ze,Zd,Zb⟩⟩,Zs,Zr,ZF,Zz,ZM,ZB,Zv,Zu,Zn,Zy,Zm,Zw,⟨Zp,Zo,Zl⟩,ZD,ZG⟩) (ZQ.lt ⟨ZZ,⟨ZN,Yq⟩,YG,l_id,⟨Yc,Yb,ZO⟩,YB,⟨ZL,ZV⟩,⟨Ya,ZX,ZK⟩⟩) }:=by
     unfold byeT
     rw [if_neg (show ¬(ZP.nd ⟨⟨⟨Za,Zc⟩,⟨Zf,Zh⟩,⟨Zj,Zi,Zg⟩,⟨Ze,Zd,Zb⟩⟩,Zs,Zr,ZF,Zz,ZM,ZB,Zv,Zu,Zn,Zy,Zm,Zw,⟨Zp,Zo,Zl⟩,ZD,ZG⟩).table.pred.addr=(ZQ.lt ⟨ZZ,⟨ZN,Yq⟩,YG,l_id,⟨Yc,Yb,ZO⟩,YB,⟨ZL,ZV⟩,⟨Ya,ZX,ZK⟩⟩).frm.addr from (show ¬Zf=ZN by assumption)),show Wi (ZP.nd ⟨⟨⟨Za,Zc⟩,⟨Zf,Zh⟩,⟨Zj,Zi,Zg⟩,⟨Ze,Zd,Zb⟩⟩,Zs,Zr,ZF,Zz,ZM,ZB,Zv,Zu,Zn,Zy,Zm,Zw,⟨Zp,Zo,Zl⟩,ZD,ZG⟩).table (ZQ.lt ⟨ZZ,⟨ZN,Yq⟩,YG,l_id,⟨Yc,Yb,ZO⟩,YB,⟨ZL,ZV⟩,⟨Ya,ZX,ZK⟩⟩).frm.addr=_ from hot.symm];rfl
    have h3:XS (ZP.nd ⟨⟨⟨Za,Zc⟩,⟨Zf,Zh⟩,⟨Zj,Zi,Zg⟩,⟨Ze,Zd,Zb⟩⟩,Zs,Zr,ZF,Zz,ZM,ZB,Zv,Zu,Zn,Zy,Zm,Zw,⟨Zp,Zo,Zl⟩,ZD,ZG⟩) (ZQ.lt ⟨ZZ,⟨ZN,Yq⟩,YG,l_id,⟨Yc,Yb,ZO⟩,YB,⟨ZL,ZV⟩,⟨Ya,ZX,ZK⟩⟩)=(ZP.nd ⟨⟨⟨oa,oi⟩,⟨oq,oj⟩,⟨o1a,o1c,o1l⟩,⟨o2a,o2c,o2l⟩⟩,Zs,Zr,ZF,Zz,ZM,ZB,Zv,Zu,Zn,Zy,Zm,Zw,⟨Zp,Zo,Zl⟩,ZD,ZG⟩,[]):=(does8 hk).trans (congrArg (fun x=>(x,([]:List Snd))) (bye_no h2 (fun q1 q2=>(by
     replace q1:(We (ZT.tb ⟨⟨Za,Zc⟩,⟨Zf,Zh⟩,⟨Zj,Zi,Zg⟩,⟨Ze,Zd,Zb⟩⟩)).addr=ZN:=q1
     replace q2:0<ZK.length:=q2
     rw [hfi] at q1
     contradiction))))
    refine ⟨_,M1,[(bw,rowO (ZR.segs ⟨⟨⟨⟨oa,oi⟩,⟨oq,oj⟩,⟨o1a,o1c,o1l⟩,⟨o2a,o2c,o2l⟩⟩,Zs,Zr,ZF,Zz,ZM,ZB,Zv,Zu,Zn,Zy,Zm,Zw,⟨Zp,Zo,Zl⟩,ZD,ZG⟩,⟨none,0,[]⟩⟩) 68)],rfl,hm1,hw.c,rfl,⟨⟨⟨oa,oi⟩,⟨oq,oj⟩,⟨o1a,o1c,o1l⟩,⟨o2a,o2c,o2l⟩⟩,Zs,Zr,ZF,Zz,ZM,ZB,Zv,Zu,Zn,Zy,Zm,Zw,⟨Zp,Zo,Zl⟩,ZD,ZG⟩,⟨none,0,[]⟩,rfl,?_,?_,⟨okt,(Yr.mono hm1)⟩,SlK.nil,fun y hy=>by cases hy⟩
    ·rw [h3] <;> rfl
    ·rw [h3] <;> rfl
end Go.Proofs.YtajmnjefajknoaaGreat
namespace Go.Proofs.YtajmnjefajknoaaGreat
open Go.Esp
theorem F.map78:mapOf Tryz.prog 78=some (3,76):=by kernel_rfl
theorem F.ok30:okFn Tryz.prog 30=true:=by kernel_rfl
theorem F.ok45:okFn Tryz.prog 45=true:=by kernel_rfl
theorem F.ok46:okFn Tryz.prog 46=true:=by kernel_rfl
theorem F.ok47:okFn Tryz.prog 47=true:=by kernel_rfl
theorem F.ok48:okFn Tryz.prog 48=true:=by kernel_rfl
theorem F.ok49:okFn Tryz.prog 49=true:=by kernel_rfl
theorem F.ok50:okFn Tryz.prog 50=true:=by kernel_rfl
theorem F.ok51:okFn Tryz.prog 51=true:=by kernel_rfl
theorem F.ok52:okFn Tryz.prog 52=true:=by kernel_rfl
theorem F.zero76:Wh Tryz.prog 76=some (.nilFunc):=by kernel_rfl
theorem Take_yes (M:Mem) (n:ZP) (l:ZQ) (hn0:ZP.ok M n) (hl1:ZQ.ok M l) (kind:Int) (fid:FuncId) (hkk:l.kind=kind) (hl:(WH (Vv (Vv (Vv (Vv (Vv (Vv (Vv (Vv [] 1 (.func (.func 45) #[] #[])) 2 (.func (.func 46) #[] #[])) 3 (.func (.func 47) #[] #[])) 4 (.func (.func 48) #[] #[])) 5 (.func (.func 49) #[] #[])) 6 (.func (.func 50) #[] #[])) 7 (.func (.func 51) #[] #[])) 8 (.func (.func 52) #[] #[])) l.kind).getD .nilFunc=.func (.func fid) #[] #[]) (hok:okFn Tryz.prog fid=true)
   (hc:∀ (M:Mem) (bw:Nat) (Za:Int) (Zc:Plc) (Zf:Int) (Zh:Plc) (Zj Ze Zp:Option Addr) (Zi Zd Zo:Nat) (Zg Zb:List ZE) (Zl:List Int) (Zs:Int) (Zr:Bool) (ZF Zz ZM ZB Zv Zu Zn Zy Zm:Int) (Zw:Plc) (ZD ZG:Int) (Yk:ZT.ok M ⟨⟨Za,Zc⟩,⟨Zf,Zh⟩,⟨Zj,Zi,Zg⟩,⟨Ze,Zd,Zb⟩⟩) (Yr:SlK M (oneI .i64) 1 ⟨Zp,Zo,Zl⟩) (hbig:Zg.length≤40∧Zb.length≤200) (hLa:Zl.length≤1000) (hh:0≤ZD∧ZD≤1000) (l:ZQ) (hl0:ZQ.ok M l) (hLp:l.peers.l.length≤1000) (hk:l.kind=kind),Fh Tryz.prog fid [.pointer (some ⟨bw,0,none⟩),l.enc] M [(bw,rowO (ZR.segs ⟨⟨⟨⟨Za,Zc⟩,⟨Zf,Zh⟩,⟨Zj,Zi,Zg⟩,⟨Ze,Zd,Zb⟩⟩,Zs,Zr,ZF,Zz,ZM,ZB,Zv,Zu,Zn,Zy,Zm,Zw,⟨Zp,Zo,Zl⟩,ZD,ZG⟩,⟨none,0,[]⟩⟩) 68)] (fun M' v Hout=>v=.tuple #[]∧WkF bw 68 M' Hout (XS (ZP.nd ⟨⟨⟨Za,Zc⟩,⟨Zf,Zh⟩,⟨Zj,Zi,Zg⟩,⟨Ze,Zd,Zb⟩⟩,Zs,Zr,ZF,Zz,ZM,ZB,Zv,Zu,Zn,Zy,Zm,Zw,⟨Zp,Zo,Zl⟩,ZD,ZG⟩) l.lt))):Esp.Fn Tryz.prog 17 [n.enc,l.enc] M (fun M' v=>NtE M' v (VP n.nd l.lt)):=by
  obtain ⟨⟨⟨Za,Zc⟩,⟨Zf,Zh⟩,⟨Zj,Zi,Zg⟩,⟨Ze,Zd,Zb⟩⟩,Zs,Zr,ZF,Zz,ZM,ZB,Zv,Zu,Zn,Zy,Zm,Zw,⟨Zp,Zo,Zl⟩,ZD,ZG⟩:=n
  obtain ⟨ZZ,⟨ZN,Yq⟩,YG,l_id,⟨Yc,Yb,ZO⟩,YB,⟨ZL,ZV⟩,⟨Ya,ZX,ZK⟩⟩:=l
  have Yk:ZT.ok M ⟨⟨Za,Zc⟩,⟨Zf,Zh⟩,⟨Zj,Zi,Zg⟩,⟨Ze,Zd,Zb⟩⟩:=hn0.h0
  have Xb:SlK M ZE.segs 21 ⟨Zj,Zi,Zg⟩:=hn0.h0.h0
  have s_n_table_succ:SlM M Zj (Zg.map ZE.segs) 21:=Xb.h1
  have n_n_table_succ:(Zg.map ZE.segs).length=Zg.length:=List.length_map ..
  have m_n_table_succ:Zg.length≤9223372036854775807:=Xb.h2
  have c_n_table_succ:Zg.length≤Zi:=Xb.h3
  have YN:SlK M ZE.segs 21 ⟨Ze,Zd,Zb⟩:=hn0.h0.h1
  have s_n_table_fingers:SlM M Ze (Zb.map ZE.segs) 21:=YN.h1
  have n_n_table_fingers:(Zb.map ZE.segs).length=Zb.length:=List.length_map ..
  have m_n_table_fingers:Zb.length≤9223372036854775807:=YN.h2
  have c_n_table_fingers:Zb.length≤Zd:=YN.h3
  have Yr:SlK M (oneI .i64) 1 ⟨Zp,Zo,Zl⟩:=hn0.h1
  have s_n_avoid:SlM M Zp (Zl.map (oneI .i64)) 1:=Yr.h1
  have n_n_avoid:(Zl.map (oneI .i64)).length=Zl.length:=List.length_map ..
  have m_n_avoid:Zl.length≤9223372036854775807:=Yr.h2
  have c_n_avoid:Zl.length≤Zo:=Yr.h3
  have Xm:SlK M (oneI .i64) 1 ⟨Yc,Yb,ZO⟩:=hl1.h0
  have s_l_avoid:SlM M Yc (ZO.map (oneI .i64)) 1:=Xm.h1
  have n_l_avoid:(ZO.map (oneI .i64)).length=ZO.length:=List.length_map ..
  have m_l_avoid:ZO.length≤9223372036854775807:=Xm.h2
  have c_l_avoid:ZO.length≤Yb:=Xm.h3
  have YX:SlK M ZE.segs 21 ⟨Ya,ZX,ZK⟩:=hl1.h1
  have XP:SlM M Ya (ZK.map ZE.segs) 21:=YX.h1
  have WI:(ZK.map ZE.segs).length=ZK.length:=List.length_map ..
  have m_l_peers:ZK.length≤9223372036854775807:=YX.h2
  have WJ:ZK.length≤ZX:=YX.h3
  subst hkk
  simp only at hl
  refine WU Tryz.func17 rfl Tryz.ntmps17 rfl ?_;intro H
  refine ZJ (Zq (l:=[0,1,2,3,4]) rfl ?_)
  refine Xk ?_;intro b1
  refine Xk ?_;intro b2
  refine YW F.zero32 ?_;intro b3
  iterate 2 refine ZC ?_
  refine Zx (Zt (Y_pk [6,5,4,3,2] ?_))
  iterate 2 refine ZJ ?_
  refine Zq (l:=[0,1,2,3,4,5,6,7]) rfl ?_;refine ZI F.lay32 ?_;refine X_fs rfl rfl F.ok27 rfl (IsN_ok _ ⟨⟨⟨Za,Zc⟩,⟨Zf,Zh⟩,⟨Zj,Zi,Zg⟩,⟨Ze,Zd,Zb⟩⟩,Zs,Zr,ZF,Zz,ZM,ZB,Zv,Zu,Zn,Zy,Zm,Zw,⟨Zp,Zo,Zl⟩,ZD,ZG⟩ hn0) rfl ?_
  rintro _ rfl
  refine XA ?_;refine ZA ?_
  refine Yp 12 rfl (fun hc4=>?_) (fun hc4=>?_)
  ·replace hc4:=nT hc4
   iterate 3 refine Yh ?_
   refine ZS ?_;refine Zx (Zt (Y_pk [16,6,5,4,3,2] ?_));refine Xz rfl ?_;refine ZJ (Zq (l:=[0,1,2,3]) rfl ?_);refine Xq rfl rfl F.bld32 (.nil) rfl rfl ?_;refine XW F.lay32 ?_
   iterate 2 refine ZC ?_
   refine Zx (Zt (Y_pk [6,5,4,3,2] ?_));refine Yu (YY ?_)
   refine Yj (.inr rfl) (.cell rfl (by repeat first|exact List.Mem.head _|refine List.Mem.tail _ ?_|refine List.mem_append_right _ ?_) F.lay32 rfl rfl (.tmp rfl (.tmp rfl .nil))) (fun w hw=>?_)
   refine ⟨_,M,rfl,Mem.le.refl M,hw.c,ZP.zero,⟨none,0,[]⟩,?_,?_,?_,ZP.zero_ok _,SlK.nil,fun y hy=>by cases hy⟩
   ·rw [WZ (by (rintro ⟨q1,q2⟩;first|contradiction|(simp_all;done)))];rfl
   ·rw [WZ (by (rintro ⟨q1,q2⟩;first|contradiction|(simp_all;done)))];rfl
   ·rw [WZ (by (rintro ⟨q1,q2⟩;first|contradiction|(simp_all;done)))];rfl
  ·replace hc4:=nF hc4
   refine ZI F.lay44 ?_;refine X_fs rfl rfl F.ok30 rfl (IsL_ok _ ⟨ZZ,⟨ZN,Yq⟩,YG,l_id,⟨Yc,Yb,ZO⟩,YB,⟨ZL,ZV⟩,⟨Ya,ZX,ZK⟩⟩ hl1) rfl ?_
   rintro _ rfl
   refine XA ?_;refine ZS ?_;refine Zx (Zt (Y_pk [16,6,5,4,3,2] ?_))
   refine YA rfl (fun hc5=>?_) (fun hc5=>?_)
   ·replace hc5:=nT hc5
    refine ZJ (Zq (l:=[0,1,2,3]) rfl ?_);refine Xq rfl rfl F.bld32 (.nil) rfl rfl ?_;refine XW F.lay32 ?_
    iterate 2 refine ZC ?_
    refine Zx (Zt (Y_pk [6,5,4,3,2] ?_));refine Yu (YY ?_)
    refine Yj (.inr rfl) (.cell rfl (by repeat first|exact List.Mem.head _|refine List.Mem.tail _ ?_|refine List.mem_append_right _ ?_) F.lay32 rfl rfl (.tmp rfl (.tmp rfl .nil))) (fun w hw=>?_)
    refine ⟨_,M,rfl,Mem.le.refl M,hw.c,ZP.zero,⟨none,0,[]⟩,?_,?_,?_,ZP.zero_ok _,SlK.nil,fun y hy=>by cases hy⟩
    ·rw [WZ (by (rintro ⟨q1,q2⟩;first|contradiction|(simp_all;done)))];rfl
    ·rw [WZ (by (rintro ⟨q1,q2⟩;first|contradiction|(simp_all;done)))];rfl
    ·rw [WZ (by (rintro ⟨q1,q2⟩;first|contradiction|(simp_all;done)))];rfl
   ·replace hc5:=nF hc5
    refine Yz (Zt (Y_pk [6,5,4,3,2] ?_));refine ZJ ?_
    have hnd9:IsNd (ZP.nd ⟨⟨⟨Za,Zc⟩,⟨Zf,Zh⟩,⟨Zj,Zi,Zg⟩,⟨Ze,Zd,Zb⟩⟩,Zs,Zr,ZF,Zz,ZM,ZB,Zv,Zu,Zn,Zy,Zm,Zw,⟨Zp,Zo,Zl⟩,ZD,ZG⟩):=by assumption
    have hlt9:IsLt (ZQ.lt ⟨ZZ,⟨ZN,Yq⟩,YG,l_id,⟨Yc,Yb,ZO⟩,YB,⟨ZL,ZV⟩,⟨Ya,ZX,ZK⟩⟩):=by assumption
    have htb9:IsTb (ZT.tb ⟨⟨Za,Zc⟩,⟨Zf,Zh⟩,⟨Zj,Zi,Zg⟩,⟨Ze,Zd,Zb⟩⟩):=hnd9.1
    have hav9:Zl.length≤16:=hnd9.2.2.2.2.1
    have hho9:0≤ZD∧ZD≤64:=hnd9.2.2.2.2.2.1
    have hpl9:ZK.length≤8:=hlt9.2.2.2.1
    refine Zq (l:=[0,1,2,3,4,5,6,7,8,9,10]) rfl ?_
    refine X_makeMap rfl rfl rfl ?_;intro b6
    refine WC rfl rfl rfl rfl rfl F.map78 imO_nil (by repeat first|exact List.Mem.head _|refine List.Mem.tail _ ?_|refine List.mem_append_right _ ?_) ?_;intro o7 him8;refine ⟨_,(by repeat first|exact Upd.head|apply Upd.tail|apply Upd.over),?_⟩
    refine WC rfl rfl rfl rfl rfl F.map78 him8 (by repeat first|exact List.Mem.head _|refine List.Mem.tail _ ?_|refine List.mem_append_right _ ?_) ?_;intro o9 him10;refine ⟨_,(by repeat first|exact Upd.head|apply Upd.tail|apply Upd.over),?_⟩
    refine WC rfl rfl rfl rfl rfl F.map78 him10 (by repeat first|exact List.Mem.head _|refine List.Mem.tail _ ?_|refine List.mem_append_right _ ?_) ?_;intro o11 him12;refine ⟨_,(by repeat first|exact Upd.head|apply Upd.tail|apply Upd.over),?_⟩
    refine WC rfl rfl rfl rfl rfl F.map78 him12 (by repeat first|exact List.Mem.head _|refine List.Mem.tail _ ?_|refine List.mem_append_right _ ?_) ?_;intro o13 him14;refine ⟨_,(by repeat first|exact Upd.head|apply Upd.tail|apply Upd.over),?_⟩
    refine WC rfl rfl rfl rfl rfl F.map78 him14 (by repeat first|exact List.Mem.head _|refine List.Mem.tail _ ?_|refine List.mem_append_right _ ?_) ?_;intro o15 him16;refine ⟨_,(by repeat first|exact Upd.head|apply Upd.tail|apply Upd.over),?_⟩
    refine WC rfl rfl rfl rfl rfl F.map78 him16 (by repeat first|exact List.Mem.head _|refine List.Mem.tail _ ?_|refine List.mem_append_right _ ?_) ?_;intro o17 him18;refine ⟨_,(by repeat first|exact Upd.head|apply Upd.tail|apply Upd.over),?_⟩
    refine WC rfl rfl rfl rfl rfl F.map78 him18 (by repeat first|exact List.Mem.head _|refine List.Mem.tail _ ?_|refine List.mem_append_right _ ?_) ?_;intro o19 him20;refine ⟨_,(by repeat first|exact Upd.head|apply Upd.tail|apply Upd.over),?_⟩
    refine WC rfl rfl rfl rfl rfl F.map78 him20 (by repeat first|exact List.Mem.head _|refine List.Mem.tail _ ?_|refine List.mem_append_right _ ?_) ?_;intro o21 him22;refine ⟨_,(by repeat first|exact Upd.head|apply Upd.tail|apply Upd.over),?_⟩
    refine ZA ?_;refine ZC ?_;refine Zx (Zt (Y_pk [7,6,5,4,3,2] ?_));refine ZJ (Zq (l:=[0,1,2]) rfl ?_);refine ZI F.lay32 ?_;refine Uc rfl rfl F.ok36 rfl (of_ok M _ _ _ _ _ _ _ _ _ _ _ _ _ _ _ _ _ _ _ _ _ _ _ _ _ _ _ Yr (by omega)) (by repeat first|exact Rem.here _|exact Rem.two|apply Rem.skip|apply Rem.over) (fun _ _ _ hm hw=>(hw.lower (by exact hm)).c) (Yv rfl) ?_
    rintro v1 M1 hs1 hm1 ⟨hM1,bw,s_a,s_c,hs9,rfl,rfl,ho9⟩;subst M1
    simp only [List.append_assoc,List.cons_append,List.nil_append]
    refine ZC ?_;refine Zx (Zt (Y_pk [8,7,6,5,4,3] ?_))
    iterate 2 refine ZJ ?_
    refine C_frz ho9 (by repeat first|exact Rem.here _|exact Rem.two|apply Rem.skip|apply Rem.over) (fun M2 hM2 k9=>?_)
    refine Zq (l:=[0,1,2,3]) rfl ?_;refine ZA ?_;refine Zk F.foff44_1 ?_;refine ZI F.lay25 ?_;refine X_fo rfl rfl F.ok53 rfl (wother_ok M2 bw Za Zc Zf Zh Zj Ze s_a Zi Zd s_c Zg Zb Zl Zs Zr ZF Zz ZM ZB Zv Zu Zn Zy Zm Zw ZD ZG ⟨ZN,Yq⟩) (by repeat first|exact Rem.here _|exact Rem.two|apply Rem.skip|apply Rem.over) (Yv rfl) ?_
    rintro _ MZ _ ⟨hMZ,rfl⟩;subst MZ
    refine Zx (Zt (Y_pk [25,8,7,6,5,4,3] ?_))
    refine YA rfl (fun hc23=>?_) (fun hc23=>?_)
    ·replace hc23:=dT hc23
     refine Xn (l:=[0,1,2,3,4,5,6]) [6] rfl ?_;refine ZA ?_;refine Zk F.foff44_0 ?_;refine ZI F.lay3 ?_;refine X_lookup rfl rfl rfl rfl F.map78 F.zero76 (by repeat first|exact List.Mem.head _|refine List.Mem.tail _ ?_|refine List.mem_append_right _ ?_) him22 (show (WH (Vv (Vv (Vv (Vv (Vv (Vv (Vv (Vv [] 1 (.func (.func 45) #[] #[])) 2 (.func (.func 46) #[] #[])) 3 (.func (.func 47) #[] #[])) 4 (.func (.func 48) #[] #[])) 5 (.func (.func 49) #[] #[])) 6 (.func (.func 50) #[] #[])) 7 (.func (.func 51) #[] #[])) 8 (.func (.func 52) #[] #[])) ZZ).getD .nilFunc=.func (.func fid) #[] #[] from hl) rfl ?_;refine ZA ?_;refine ZI F.lay44 ?_;refine X_fhVW (caps:=[]) rfl rfl rfl rfl hok rfl rfl (hc M2 bw Za Zc Zf Zh Zj Ze s_a Zi Zd s_c Zg Zb Zl Zs Zr ZF Zz ZM ZB Zv Zu Zn Zy Zm Zw ZD ZG (Yk.mono hM2) k9 (isTb_small (t:=⟨⟨Za,Zc⟩,⟨Zf,Zh⟩,⟨Zj,Zi,Zg⟩,⟨Ze,Zd,Zb⟩⟩) htb9) (by omega) (by omega) ⟨ZZ,⟨ZN,Yq⟩,YG,l_id,⟨Yc,Yb,ZO⟩,YB,⟨ZL,ZV⟩,⟨Ya,ZX,ZK⟩⟩ (hl1.mono hM2) (by show ZK.length≤1000;omega) rfl) (by repeat first|exact Rem.here _|exact Rem.two|apply Rem.skip|apply Rem.over) (Yv rfl) ?_
     rintro _ M3 hs3 hm3 ⟨rfl,⟨⟨⟨YH,YO⟩,⟨YI,YP⟩,⟨YT,YS,YR⟩,⟨YL,YK,YJ⟩⟩,XN,XR,Wp,XM,WS,Wd,XO,XJ,Xt,XK,Xu,XL,⟨Xx,Xw,Xv⟩,Wo,Wn⟩,⟨o_a,o_c,o_l⟩,rfl,hv1,hv2,okv,oko,okq⟩
     simp only [List.append_assoc,List.cons_append,List.nil_append]
     refine Zx (Wl ?_);refine Zt (Y_pk [8,6,5,4] ?_);refine ZJ (C_region_anyWR (l:=[0,1,2,3,4,5,6,7,8,9,10]) (Hin:=[(b3,_)]) [8] #[0,1,3,7,0,16,48,112,15,511,1023] (by repeat first|exact Rem.here _|exact Rem.two|apply Rem.skip|apply Rem.over) rfl (by kernel_rfl) (by kernel_rfl) ?_);refine ZA ?_;refine ZU ?_;refine Zk F.foff68_0 ?_;refine ZI F.lay32 ?_;refine ZA ?_;refine ZU ?_;refine Zk F.foff68_1 ?_;refine ZI F.lay35 ?_;refine X_storeE rfl rfl rfl rfl rfl (by constructor) (by ((try simp only [cat,List.cons_append,List.nil_append,List.append_nil]);(repeat (first|exact XV|refine XU ?_|(refine YE ?_ ?_;rfl)));done)) (by repeat first|exact Upd.head|apply Upd.tail|apply Upd.over) F.lay32 (by simp only [ZE.segs,ZT.segs,ZP.segs,ZQ.segs,Yw.segs,ZR.segs,YM.segs,ZY.segs,cat,List.append_eq,List.cons_append,List.nil_append,List.append_nil,Segs.len,Seg.len,Yn]) (put_all (m:=78) rfl (by simp only [ZE.segs,ZT.segs,ZP.segs,ZQ.segs,Yw.segs,ZR.segs,YM.segs,ZY.segs,cat,List.append_eq,List.cons_append,List.nil_append,List.append_nil,Segs.len,Seg.len,Yn]) (by simp only [ZE.segs,ZT.segs,ZP.segs,ZQ.segs,Yw.segs,ZR.segs,YM.segs,ZY.segs,cat,List.append_eq,List.cons_append,List.nil_append,List.append_nil,Segs.len,Seg.len,Yn])) (fun _ h=>h.c) ?_
     iterate 2 refine ZC ?_
     refine Zx (Wl ?_);refine Zt (Y_pk [6,5,4] ?_);refine Yu ?_
     refine Yj (.inr rfl) (.cell rfl (by repeat first|exact List.Mem.head _|refine List.Mem.tail _ ?_|refine List.mem_append_right _ ?_) F.lay32 rfl rfl (.tmp rfl (.tmp rfl .nil))) (fun w hw=>?_)
     have h3:=take_does (n:=(ZP.nd ⟨⟨⟨Za,Zc⟩,⟨Zf,Zh⟩,⟨Zj,Zi,Zg⟩,⟨Ze,Zd,Zb⟩⟩,Zs,Zr,ZF,Zz,ZM,ZB,Zv,Zu,Zn,Zy,Zm,Zw,⟨Zp,Zo,Zl⟩,ZD,ZG⟩)) (l:=(ZQ.lt ⟨ZZ,⟨ZN,Yq⟩,YG,l_id,⟨Yc,Yb,ZO⟩,YB,⟨ZL,ZV⟩,⟨Ya,ZX,ZK⟩⟩)) hnd9 hlt9 (show Xr ⟨Za,Zc⟩ ⟨ZN,Yq⟩ by assumption)
     exact ⟨_,M3,rfl,hM2.trans hm3,hw.c,⟨⟨⟨YH,YO⟩,⟨YI,YP⟩,⟨YT,YS,YR⟩,⟨YL,YK,YJ⟩⟩,XN,XR,Wp,XM,WS,Wd,XO,XJ,Xt,XK,Xu,XL,⟨Xx,Xw,Xv⟩,Wo,Wn⟩,⟨o_a,o_c,o_l⟩,by rw [h3] <;> rfl,by rw [h3];exact hv1,by rw [h3];exact hv2,okv,oko,okq⟩
    ·replace hc23:=dF hc23
     refine Yz (Zt (Y_pk [8,6,5,4] ?_));refine ZJ (C_region_anyWR (l:=[0,1,2,3,4,5,6,7,8,9,10]) (Hin:=[(b3,_)]) [8] #[0,1,3,7,0,16,48,112,15,511,1023] (by repeat first|exact Rem.here _|exact Rem.two|apply Rem.skip|apply Rem.over) rfl (by kernel_rfl) (by kernel_rfl) ?_);refine ZA ?_;refine ZU ?_;refine Zk F.foff68_0 ?_;refine ZI F.lay32 ?_;refine ZA ?_;refine ZU ?_;refine Zk F.foff68_1 ?_;refine ZI F.lay35 ?_;refine X_storeE rfl rfl rfl rfl rfl (by constructor) (by ((try simp only [cat,List.cons_append,List.nil_append,List.append_nil]);(repeat (first|exact XV|refine XU ?_|(refine YE ?_ ?_;rfl)));done)) (by repeat first|exact Upd.head|apply Upd.tail|apply Upd.over) F.lay32 (by simp only [ZE.segs,ZT.segs,ZP.segs,ZQ.segs,Yw.segs,ZR.segs,YM.segs,ZY.segs,cat,List.append_eq,List.cons_append,List.nil_append,List.append_nil,Segs.len,Seg.len,Yn]) (put_all (m:=78) rfl (by simp only [ZE.segs,ZT.segs,ZP.segs,ZQ.segs,Yw.segs,ZR.segs,YM.segs,ZY.segs,cat,List.append_eq,List.cons_append,List.nil_append,List.append_nil,Segs.len,Seg.len,Yn]) (by simp only [ZE.segs,ZT.segs,ZP.segs,ZQ.segs,Yw.segs,ZR.segs,YM.segs,ZY.segs,cat,List.append_eq,List.cons_append,List.nil_append,List.append_nil,Segs.len,Seg.len,Yn])) (fun _ h=>h.c) ?_
     iterate 2 refine ZC ?_
     refine Zx (Wl ?_);refine Zt (Y_pk [6,5,4] ?_);refine Yu ?_
     refine Yj (.inr rfl) (.cell rfl (by repeat first|exact List.Mem.head _|refine List.Mem.tail _ ?_|refine List.mem_append_right _ ?_) F.lay32 rfl rfl (.tmp rfl (.tmp rfl .nil))) (fun w hw=>?_)
     have h3:=take_not (n:=(ZP.nd ⟨⟨⟨Za,Zc⟩,⟨Zf,Zh⟩,⟨Zj,Zi,Zg⟩,⟨Ze,Zd,Zb⟩⟩,Zs,Zr,ZF,Zz,ZM,ZB,Zv,Zu,Zn,Zy,Zm,Zw,⟨Zp,Zo,Zl⟩,ZD,ZG⟩)) (l:=(ZQ.lt ⟨ZZ,⟨ZN,Yq⟩,YG,l_id,⟨Yc,Yb,ZO⟩,YB,⟨ZL,ZV⟩,⟨Ya,ZX,ZK⟩⟩)) hnd9 hlt9 (show ¬Xr ⟨Za,Zc⟩ ⟨ZN,Yq⟩ by assumption)
     exact ⟨_,M2,rfl,hM2,hw.c,⟨⟨⟨Za,Zc⟩,⟨Zf,Zh⟩,⟨Zj,Zi,Zg⟩,⟨Ze,Zd,Zb⟩⟩,Zs,Zr,ZF,Zz,ZM,ZB,Zv,Zu,Zn,Zy,Zm,Zw,⟨s_a,s_c,Zl⟩,ZD,ZG⟩,⟨none,0,[]⟩,by rw [h3] <;> rfl,by rw [h3] <;> rfl,by rw [h3] <;> rfl,⟨Yk.mono hM2,k9⟩,SlK.nil,fun y hy=>by cases hy⟩
theorem Take_no (M:Mem) (n:ZP) (l:ZQ) (hn0:ZP.ok M n) (hl1:ZQ.ok M l) (hk:¬IsLt l.lt):Esp.Fn Tryz.prog 17 [n.enc,l.enc] M (fun M' v=>NtE M' v (VP n.nd l.lt)):=by
  obtain ⟨⟨⟨Za,Zc⟩,⟨Zf,Zh⟩,⟨Zj,Zi,Zg⟩,⟨Ze,Zd,Zb⟩⟩,Zs,Zr,ZF,Zz,ZM,ZB,Zv,Zu,Zn,Zy,Zm,Zw,⟨Zp,Zo,Zl⟩,ZD,ZG⟩:=n
  obtain ⟨ZZ,⟨ZN,Yq⟩,YG,l_id,⟨Yc,Yb,ZO⟩,YB,⟨ZL,ZV⟩,⟨Ya,ZX,ZK⟩⟩:=l
  have Yk:ZT.ok M ⟨⟨Za,Zc⟩,⟨Zf,Zh⟩,⟨Zj,Zi,Zg⟩,⟨Ze,Zd,Zb⟩⟩:=hn0.h0
  have Xb:SlK M ZE.segs 21 ⟨Zj,Zi,Zg⟩:=hn0.h0.h0
  have s_n_table_succ:SlM M Zj (Zg.map ZE.segs) 21:=Xb.h1
  have n_n_table_succ:(Zg.map ZE.segs).length=Zg.length:=List.length_map ..
  have m_n_table_succ:Zg.length≤9223372036854775807:=Xb.h2
  have c_n_table_succ:Zg.length≤Zi:=Xb.h3
  have YN:SlK M ZE.segs 21 ⟨Ze,Zd,Zb⟩:=hn0.h0.h1
  have s_n_table_fingers:SlM M Ze (Zb.map ZE.segs) 21:=YN.h1
  have n_n_table_fingers:(Zb.map ZE.segs).length=Zb.length:=List.length_map ..
  have m_n_table_fingers:Zb.length≤9223372036854775807:=YN.h2
  have c_n_table_fingers:Zb.length≤Zd:=YN.h3
  have Yr:SlK M (oneI .i64) 1 ⟨Zp,Zo,Zl⟩:=hn0.h1
  have s_n_avoid:SlM M Zp (Zl.map (oneI .i64)) 1:=Yr.h1
  have n_n_avoid:(Zl.map (oneI .i64)).length=Zl.length:=List.length_map ..
  have m_n_avoid:Zl.length≤9223372036854775807:=Yr.h2
  have c_n_avoid:Zl.length≤Zo:=Yr.h3
  have Xm:SlK M (oneI .i64) 1 ⟨Yc,Yb,ZO⟩:=hl1.h0
  have s_l_avoid:SlM M Yc (ZO.map (oneI .i64)) 1:=Xm.h1
  have n_l_avoid:(ZO.map (oneI .i64)).length=ZO.length:=List.length_map ..
  have m_l_avoid:ZO.length≤9223372036854775807:=Xm.h2
  have c_l_avoid:ZO.length≤Yb:=Xm.h3
  have YX:SlK M ZE.segs 21 ⟨Ya,ZX,ZK⟩:=hl1.h1
  have XP:SlM M Ya (ZK.map ZE.segs) 21:=YX.h1
  have WI:(ZK.map ZE.segs).length=ZK.length:=List.length_map ..
  have m_l_peers:ZK.length≤9223372036854775807:=YX.h2
  have WJ:ZK.length≤ZX:=YX.h3
  refine WU Tryz.func17 rfl Tryz.ntmps17 rfl ?_;intro H
  refine ZJ (Zq (l:=[0,1,2,3,4]) rfl ?_)
  refine Xk ?_;intro b1
  refine Xk ?_;intro b2
  refine YW F.zero32 ?_;intro b3
  iterate 2 refine ZC ?_
  refine Zx (Zt (Y_pk [6,5,4,3,2] ?_))
  iterate 2 refine ZJ ?_
  refine Zq (l:=[0,1,2,3,4,5,6,7]) rfl ?_;refine ZI F.lay32 ?_;refine X_fs rfl rfl F.ok27 rfl (IsN_ok _ ⟨⟨⟨Za,Zc⟩,⟨Zf,Zh⟩,⟨Zj,Zi,Zg⟩,⟨Ze,Zd,Zb⟩⟩,Zs,Zr,ZF,Zz,ZM,ZB,Zv,Zu,Zn,Zy,Zm,Zw,⟨Zp,Zo,Zl⟩,ZD,ZG⟩ hn0) rfl ?_
  rintro _ rfl
  refine XA ?_;refine ZA ?_
  refine Yp 12 rfl (fun hc4=>?_) (fun hc4=>?_)
  ·replace hc4:=nT hc4
   iterate 3 refine Yh ?_
   refine ZS ?_;refine Zx (Zt (Y_pk [16,6,5,4,3,2] ?_));refine Xz rfl ?_;refine ZJ (Zq (l:=[0,1,2,3]) rfl ?_);refine Xq rfl rfl F.bld32 (.nil) rfl rfl ?_;refine XW F.lay32 ?_
   iterate 2 refine ZC ?_
   refine Zx (Zt (Y_pk [6,5,4,3,2] ?_));refine Yu (YY ?_)
   refine Yj (.inr rfl) (.cell rfl (by repeat first|exact List.Mem.head _|refine List.Mem.tail _ ?_|refine List.mem_append_right _ ?_) F.lay32 rfl rfl (.tmp rfl (.tmp rfl .nil))) (fun w hw=>?_)
   refine ⟨_,M,rfl,Mem.le.refl M,hw.c,ZP.zero,⟨none,0,[]⟩,?_,?_,?_,ZP.zero_ok _,SlK.nil,fun y hy=>by cases hy⟩
   ·rw [WZ (by (rintro ⟨q1,q2⟩;first|contradiction|(simp_all;done)))];rfl
   ·rw [WZ (by (rintro ⟨q1,q2⟩;first|contradiction|(simp_all;done)))];rfl
   ·rw [WZ (by (rintro ⟨q1,q2⟩;first|contradiction|(simp_all;done)))];rfl
  ·replace hc4:=nF hc4
   refine ZI F.lay44 ?_;refine X_fs rfl rfl F.ok30 rfl (IsL_ok _ ⟨ZZ,⟨ZN,Yq⟩,YG,l_id,⟨Yc,Yb,ZO⟩,YB,⟨ZL,ZV⟩,⟨Ya,ZX,ZK⟩⟩ hl1) rfl ?_
   rintro _ rfl
   refine XA ?_;refine ZS ?_;refine Zx (Zt (Y_pk [16,6,5,4,3,2] ?_))
   refine YA rfl (fun hc5=>?_) (fun hc5=>?_)
   ·replace hc5:=nT hc5
    refine ZJ (Zq (l:=[0,1,2,3]) rfl ?_);refine Xq rfl rfl F.bld32 (.nil) rfl rfl ?_;refine XW F.lay32 ?_
    iterate 2 refine ZC ?_
    refine Zx (Zt (Y_pk [6,5,4,3,2] ?_));refine Yu (YY ?_)
    refine Yj (.inr rfl) (.cell rfl (by repeat first|exact List.Mem.head _|refine List.Mem.tail _ ?_|refine List.mem_append_right _ ?_) F.lay32 rfl rfl (.tmp rfl (.tmp rfl .nil))) (fun w hw=>?_)
    refine ⟨_,M,rfl,Mem.le.refl M,hw.c,ZP.zero,⟨none,0,[]⟩,?_,?_,?_,ZP.zero_ok _,SlK.nil,fun y hy=>by cases hy⟩
    ·rw [WZ (by (rintro ⟨q1,q2⟩;first|contradiction|(simp_all;done)))];rfl
    ·rw [WZ (by (rintro ⟨q1,q2⟩;first|contradiction|(simp_all;done)))];rfl
    ·rw [WZ (by (rintro ⟨q1,q2⟩;first|contradiction|(simp_all;done)))];rfl
   ·replace hc5:=nF hc5
    (exfalso;first|(simp [eqX] at hc5;done)|(simp_all;done))
theorem Take_ok (M:Mem) (n:ZP) (l:ZQ) (hn0:ZP.ok M n) (hl1:ZQ.ok M l):Esp.Fn Tryz.prog 17 [n.enc,l.enc] M (fun M' v=>NtE M' v (VP n.nd l.lt)):=by
  by_cases h:IsLt l.lt
  ·have h8:1≤l.kind∧l.kind≤8:=h.1
   have h9:l.kind=1∨l.kind=2∨l.kind=3∨l.kind=4∨l.kind=5∨l.kind=6∨l.kind=7∨l.kind=8:=by omega
   rcases h9 with hk|hk|hk|hk|hk|hk|hk|hk
   ·exact Take_yes M n l hn0 hl1 1 45 hk (by rw [hk];rfl) F.ok45 (fun M bw Za Zc Zf Zh Zj Ze Zp Zi Zd Zo Zg Zb Zl Zs Zr ZF Zz ZM ZB Zv Zu Zn Zy Zm Zw ZD ZG Yk Yr hbig hLa hh l hl0 hLp hk=>find_ok M bw Za Zc Zf Zh Zj Ze Zp Zi Zd Zo Zg Zb Zl Zs Zr ZF Zz ZM ZB Zv Zu Zn Zy Zm Zw ZD ZG Yk Yr hbig hLa hh l hl0 hLp hk)
   ·exact Take_yes M n l hn0 hl1 2 46 hk (by rw [hk];rfl) F.ok46 (fun M bw Za Zc Zf Zh Zj Ze Zp Zi Zd Zo Zg Zb Zl Zs Zr ZF Zz ZM ZB Zv Zu Zn Zy Zm Zw ZD ZG Yk Yr hbig hLa hh l hl0 hLp hk=>found_ok M bw Za Zc Zf Zh Zj Ze Zp Zi Zd Zo Zg Zb Zl Zs Zr ZF Zz ZM ZB Zv Zu Zn Zy Zm Zw ZD ZG Yk Yr hbig hLa hh l hl0 hLp hk)
   ·exact Take_yes M n l hn0 hl1 3 47 hk (by rw [hk];rfl) F.ok47 (fun M bw Za Zc Zf Zh Zj Ze Zp Zi Zd Zo Zg Zb Zl Zs Zr ZF Zz ZM ZB Zv Zu Zn Zy Zm Zw ZD ZG Yk Yr hbig hLa hh l hl0 hLp hk=>ask_ok M bw Za Zc Zf Zh Zj Ze Zp Zi Zd Zo Zg Zb Zl Zs Zr ZF Zz ZM ZB Zv Zu Zn Zy Zm Zw ZD ZG Yk Yr hbig hLa hh l hl0 hLp hk)
   ·exact Take_yes M n l hn0 hl1 4 48 hk (by rw [hk];rfl) F.ok48 (fun M bw Za Zc Zf Zh Zj Ze Zp Zi Zd Zo Zg Zb Zl Zs Zr ZF Zz ZM ZB Zv Zu Zn Zy Zm Zw ZD ZG Yk Yr hbig hLa hh l hl0 hLp hk=>told_ok M bw Za Zc Zf Zh Zj Ze Zp Zi Zd Zo Zg Zb Zl Zs Zr ZF Zz ZM ZB Zv Zu Zn Zy Zm Zw ZD ZG Yk Yr hbig hLa hh l hl0 hLp hk)
   ·exact Take_yes M n l hn0 hl1 5 49 hk (by rw [hk];rfl) F.ok49 (fun M bw Za Zc Zf Zh Zj Ze Zp Zi Zd Zo Zg Zb Zl Zs Zr ZF Zz ZM ZB Zv Zu Zn Zy Zm Zw ZD ZG Yk Yr hbig hLa hh l hl0 hLp hk=>notify_ok M bw Za Zc Zf Zh Zj Ze Zp Zi Zd Zo Zg Zb Zl Zs Zr ZF Zz ZM ZB Zv Zu Zn Zy Zm Zw ZD ZG Yk Yr hbig hLa hh l hl0 hLp hk)
   ·exact Take_yes M n l hn0 hl1 6 50 hk (by rw [hk];rfl) F.ok50 (fun M bw Za Zc Zf Zh Zj Ze Zp Zi Zd Zo Zg Zb Zl Zs Zr ZF Zz ZM ZB Zv Zu Zn Zy Zm Zw ZD ZG Yk Yr hbig hLa hh l hl0 hLp hk=>ping_ok M bw Za Zc Zf Zh Zj Ze Zp Zi Zd Zo Zg Zb Zl Zs Zr ZF Zz ZM ZB Zv Zu Zn Zy Zm Zw ZD ZG Yk Yr hbig hLa hh l hl0 hLp hk)
   ·exact Take_yes M n l hn0 hl1 7 51 hk (by rw [hk];rfl) F.ok51 (fun M bw Za Zc Zf Zh Zj Ze Zp Zi Zd Zo Zg Zb Zl Zs Zr ZF Zz ZM ZB Zv Zu Zn Zy Zm Zw ZD ZG Yk Yr hbig hLa hh l hl0 hLp hk=>pong_ok M bw Za Zc Zf Zh Zj Ze Zp Zi Zd Zo Zg Zb Zl Zs Zr ZF Zz ZM ZB Zv Zu Zn Zy Zm Zw ZD ZG Yk Yr hbig hLa hh l hl0 hLp hk)
   ·exact Take_yes M n l hn0 hl1 8 52 hk (by rw [hk];rfl) F.ok52 (fun M bw Za Zc Zf Zh Zj Ze Zp Zi Zd Zo Zg Zb Zl Zs Zr ZF Zz ZM ZB Zv Zu Zn Zy Zm Zw ZD ZG Yk Yr hbig hLa hh l hl0 hLp hk=>bye_ok M bw Za Zc Zf Zh Zj Ze Zp Zi Zd Zo Zg Zb Zl Zs Zr ZF Zz ZM ZB Zv Zu Zn Zy Zm Zw ZD ZG Yk Yr hbig hLa hh l hl0 hLp hk)
  ·exact Take_no M n l hn0 hl1 h
end Go.Proofs.YtajmnjefajknoaaGreat
namespace Go.Proofs.YtajmnjefajknoaaGreat
open Go.Esp
theorem F.ok21:okFn Tryz.prog 21=true:=by kernel_rfl
theorem F.ok63:okFn Tryz.prog 63=true:=by kernel_rfl
theorem Alone_ok (M:Mem) (self:ZE) (r:Int):Esp.Fn Tryz.prog 21 [self.enc,.int .i64 r] M (fun M' v=>NeE M' v (VZ self r)):=by
  obtain ⟨self_addr,self_id⟩:=self
  refine WU Tryz.func21 rfl Tryz.ntmps21 rfl ?_;intro H
  refine ZJ (Zq (l:=[0,1,2]) rfl ?_)
  refine Xk ?_;intro b1
  refine YW F.zero32 ?_;intro b2
  refine ZC ?_;refine Zx (Zt (Y_pk [5,4,2,1] ?_));refine ZJ (Zq (l:=[0,1,2,3,4,5,6,7]) rfl ?_);refine ZI F.lay25 ?_;refine X_fn rfl rfl F.ok63 rfl (New_ok _ ⟨self_addr,self_id⟩) rfl ?_
  rintro _ M1 hm1 ⟨_,rfl,⟨⟨oa,oi⟩,⟨oq,oj⟩,⟨o1a,o1c,o1l⟩,⟨o2a,o2c,o2l⟩⟩,rfl,hot,okt⟩
  have hne:=new_ok (s:=⟨self_addr,self_id⟩)
  obtain ⟨ne,hnv⟩:∃ x,(newT ⟨self_addr,self_id⟩).2=x:=⟨_,rfl⟩
  rw [hnv] at hne ⊢
  refine ZA ?_
  iterate 2 refine XF ?_
  refine YW F.zero28 ?_;intro b3
  refine Yi F.lay28 ?_;refine ZC ?_;refine Zx (Zt (Y_pk [7,6,5,4,1] ?_))
  iterate 2 refine ZJ ?_
  refine Zq (l:=[0,1,2,3,4,5,6,7,8,9]) rfl ?_;refine ZA ?_;refine YC ?_;refine ZA ?_
  refine Yp 15 rfl (fun hc4=>?_) (fun hc4=>?_)
  ·replace hc4:=nT hc4
   iterate 2 refine Yh ?_
   refine ZS ?_;refine ZA ?_
   iterate 2 refine Yh ?_
   refine ZS ?_;refine Zx (Zt (Y_pk [22,6,5,4,1] ?_));refine Xz rfl ?_;refine ZJ (Zq (l:=[0,1,2]) rfl ?_);refine Xq rfl rfl F.bld32 (.nil) rfl rfl ?_;refine XW F.lay32 ?_;refine ZC ?_;refine Zx (Zt (Y_pk [5,6,4,1] ?_));refine Yu (YY ?_)
   refine Yj (.inr rfl) (.cell rfl (by repeat first|exact List.Mem.head _|refine List.Mem.tail _ ?_|refine List.mem_append_right _ ?_) F.lay32 rfl rfl (.tmp rfl .nil)) (fun w hw=>?_)
   refine ⟨_,M1,rfl,hm1,hw.c,ZP.zero,?_,?_,ZP.zero_ok _⟩
   ·rw [alone_no (by rintro ⟨q1,q2,q3⟩;have q4:=hne.2 q1;omega)];rfl
   ·rw [alone_no (by rintro ⟨q1,q2,q3⟩;have q4:=hne.2 q1;omega)];rfl
  ·replace hc4:=nF hc4
   refine ZA ?_;refine YC ?_;refine ZS ?_;refine ZA ?_
   refine Yp 19 rfl (fun hc5=>?_) (fun hc5=>?_)
   ·replace hc5:=dT hc5
    iterate 2 refine Yh ?_
    refine ZS ?_;refine Zx (Zt (Y_pk [22,6,5,4,1] ?_));refine Xz rfl ?_;refine ZJ (Zq (l:=[0,1,2]) rfl ?_);refine Xq rfl rfl F.bld32 (.nil) rfl rfl ?_;refine XW F.lay32 ?_;refine ZC ?_;refine Zx (Zt (Y_pk [5,6,4,1] ?_));refine Yu (YY ?_)
    refine Yj (.inr rfl) (.cell rfl (by repeat first|exact List.Mem.head _|refine List.Mem.tail _ ?_|refine List.mem_append_right _ ?_) F.lay32 rfl rfl (.tmp rfl .nil)) (fun w hw=>?_)
    refine ⟨_,M1,rfl,hm1,hw.c,ZP.zero,?_,?_,ZP.zero_ok _⟩
    ·rw [alone_no (by rintro ⟨q1,q2,q3⟩;have q4:=hne.2 q1;omega)];rfl
    ·rw [alone_no (by rintro ⟨q1,q2,q3⟩;have q4:=hne.2 q1;omega)];rfl
   ·replace hc5:=dF hc5
    refine ZA ?_;refine YC ?_;refine ZS ?_;refine Zx (Zt (Y_pk [22,6,5,4,1] ?_))
    refine YA rfl (fun hc6=>?_) (fun hc6=>?_)
    ·replace hc6:=dT hc6
     refine ZJ (Zq (l:=[0,1,2]) rfl ?_);refine Xq rfl rfl F.bld32 (.nil) rfl rfl ?_;refine XW F.lay32 ?_;refine ZC ?_;refine Zx (Zt (Y_pk [5,6,4,1] ?_));refine Yu (YY ?_)
     refine Yj (.inr rfl) (.cell rfl (by repeat first|exact List.Mem.head _|refine List.Mem.tail _ ?_|refine List.mem_append_right _ ?_) F.lay32 rfl rfl (.tmp rfl .nil)) (fun w hw=>?_)
     refine ⟨_,M1,rfl,hm1,hw.c,ZP.zero,?_,?_,ZP.zero_ok _⟩
     ·rw [alone_no (by rintro ⟨q1,q2,q3⟩;have q4:=hne.2 q1;omega)];rfl
     ·rw [alone_no (by rintro ⟨q1,q2,q3⟩;have q4:=hne.2 q1;omega)];rfl
    ·replace hc6:=dF hc6
     refine Yz (Zt (Y_pk [6,5,4,1] ?_));refine ZJ (Zq (l:=[0,1,2,3,4]) rfl ?_);refine ZI F.lay28 ?_;refine ZA ?_;refine Xq rfl rfl F.bld32 (.cons rfl (by constructor) (.cons rfl (by constructor) (.cons rfl (by constructor) (.cons rfl (by constructor) (.cons rfl (by constructor) (.cons rfl (by constructor) (.cons rfl (by constructor) .nil))))))) rfl rfl ?_;refine XW F.lay32 ?_;refine ZC ?_;refine Zx (Zt (Y_pk [5,4] ?_));refine Yu ?_
     refine Yj (.inr rfl) (.cell rfl (by repeat first|exact List.Mem.head _|refine List.Mem.tail _ ?_|refine List.mem_append_right _ ?_) F.lay32 rfl rfl (.tmp rfl .nil)) (fun w hw=>?_)
     have h3:=alone_is (s:=⟨self_addr,self_id⟩) (r:=r) ⟨hne.1 (by omega),by omega,by omega⟩
     rw [show (newT ⟨self_addr,self_id⟩).1=_ from hot.symm] at h3
     exact ⟨_,M1,rfl,hm1,hw.c,⟨⟨⟨oa,oi⟩,⟨oq,oj⟩,⟨o1a,o1c,o1l⟩,⟨o2a,o2c,o2l⟩⟩,r,true,-1,0,0,-1,0,-1,0,-1,0,0,⟨none,0,[]⟩,0,0⟩,by rw [h3];rfl,by rw [h3];rfl,⟨okt,SlK.nil⟩⟩
theorem Joining_ok (M:Mem) (self:ZE) (r:Int) (boot:Int):Esp.Fn Tryz.prog 23 [self.enc,.int .i64 r,.int .i64 boot] M (fun M' v=>NeE M' v (joiningN self r boot)):=by
  obtain ⟨self_addr,self_id⟩:=self
  refine WU Tryz.func23 rfl Tryz.ntmps23 rfl ?_;intro H
  refine ZJ (Zq (l:=[0,1,2]) rfl ?_)
  refine Xk ?_;intro b1
  refine YW F.zero32 ?_;intro b2
  refine ZC ?_;refine Zx (Zt (Y_pk [7,6,3,1,2] ?_));refine ZJ (Zq (l:=[0,1,2,3,4,5,6,7,8]) rfl ?_);refine ZI F.lay25 ?_;refine ZA ?_;refine X_fn rfl rfl F.ok21 rfl (Alone_ok _ ⟨self_addr,self_id⟩ r) rfl ?_
  rintro _ M1 hm1 ⟨⟨⟨⟨YH,YO⟩,⟨YI,YP⟩,⟨YT,YS,YR⟩,⟨YL,YK,YJ⟩⟩,XN,XR,Wp,XM,WS,Wd,XO,XJ,Xt,XK,Xu,XL,⟨Xx,Xw,Xv⟩,Wo,Wn⟩,rfl,hv1,okv⟩
  obtain ⟨ae,hae⟩:∃ x,(VZ ⟨self_addr,self_id⟩ r).2=x:=⟨_,rfl⟩
  rw [hae]
  refine ZA ?_
  iterate 2 refine XF ?_
  refine YW F.zero32 ?_;intro b3
  refine XW F.lay32 ?_;refine ZC ?_;refine Zx (Zt (Y_pk [9,8,7,6,3,2] ?_))
  iterate 2 refine ZJ ?_
  refine Zq (l:=[0,1,2,3,4,5,6,7,8,9,10,11,12,13,14,15]) rfl ?_;refine ZA ?_;refine YC ?_;refine ZA ?_
  refine Yp 18 rfl (fun hc4=>?_) (fun hc4=>?_)
  ·replace hc4:=nT hc4
   iterate 2 refine Yh ?_
   refine ZS ?_;refine ZA ?_
   iterate 2 refine Yh ?_
   refine ZS ?_;refine ZA ?_
   iterate 4 refine Yh ?_
   refine ZS ?_;refine Zx (Zt (Y_pk [31,8,7,6,2] ?_));refine Xz rfl ?_;refine ZJ (Zq (l:=[0,1,2]) rfl ?_);refine Xq rfl rfl F.bld32 (.nil) rfl rfl ?_;refine XW F.lay32 ?_;refine ZC ?_;refine Zx (Zt (Y_pk [7,8,6,2] ?_));refine Yu (YY ?_)
   refine Yj (.inr rfl) (.cell rfl (by repeat first|exact List.Mem.head _|refine List.Mem.tail _ ?_|refine List.mem_append_right _ ?_) F.lay32 rfl rfl (.tmp rfl .nil)) (fun w hw=>?_)
   refine ⟨_,M1,rfl,hm1,hw.c,ZP.zero,?_,?_,ZP.zero_ok _⟩
   ·rw [joining_no (by rintro ⟨q1,⟨q2,q4⟩,q3⟩;replace q3:boot≠self_addr:=q3;rw [hae] at q1;omega)];rfl
   ·rw [joining_no (by rintro ⟨q1,⟨q2,q4⟩,q3⟩;replace q3:boot≠self_addr:=q3;rw [hae] at q1;omega)];rfl
  ·replace hc4:=nF hc4
   refine ZA ?_;refine YC ?_;refine ZS ?_;refine ZA ?_
   refine Yp 22 rfl (fun hc5=>?_) (fun hc5=>?_)
   ·replace hc5:=dT hc5
    iterate 2 refine Yh ?_
    refine ZS ?_;refine ZA ?_
    iterate 4 refine Yh ?_
    refine ZS ?_;refine Zx (Zt (Y_pk [31,8,7,6,2] ?_));refine Xz rfl ?_;refine ZJ (Zq (l:=[0,1,2]) rfl ?_);refine Xq rfl rfl F.bld32 (.nil) rfl rfl ?_;refine XW F.lay32 ?_;refine ZC ?_;refine Zx (Zt (Y_pk [7,8,6,2] ?_));refine Yu (YY ?_)
    refine Yj (.inr rfl) (.cell rfl (by repeat first|exact List.Mem.head _|refine List.Mem.tail _ ?_|refine List.mem_append_right _ ?_) F.lay32 rfl rfl (.tmp rfl .nil)) (fun w hw=>?_)
    refine ⟨_,M1,rfl,hm1,hw.c,ZP.zero,?_,?_,ZP.zero_ok _⟩
    ·rw [joining_no (by rintro ⟨q1,⟨q2,q4⟩,q3⟩;replace q3:boot≠self_addr:=q3;rw [hae] at q1;omega)];rfl
    ·rw [joining_no (by rintro ⟨q1,⟨q2,q4⟩,q3⟩;replace q3:boot≠self_addr:=q3;rw [hae] at q1;omega)];rfl
   ·replace hc5:=dF hc5
    refine ZA ?_;refine YC ?_;refine ZS ?_;refine ZA ?_
    refine Yp 26 rfl (fun hc6=>?_) (fun hc6=>?_)
    ·replace hc6:=dT hc6
     iterate 4 refine Yh ?_
     refine ZS ?_;refine Zx (Zt (Y_pk [31,8,7,6,2] ?_));refine Xz rfl ?_;refine ZJ (Zq (l:=[0,1,2]) rfl ?_);refine Xq rfl rfl F.bld32 (.nil) rfl rfl ?_;refine XW F.lay32 ?_;refine ZC ?_;refine Zx (Zt (Y_pk [7,8,6,2] ?_));refine Yu (YY ?_)
     refine Yj (.inr rfl) (.cell rfl (by repeat first|exact List.Mem.head _|refine List.Mem.tail _ ?_|refine List.mem_append_right _ ?_) F.lay32 rfl rfl (.tmp rfl .nil)) (fun w hw=>?_)
     refine ⟨_,M1,rfl,hm1,hw.c,ZP.zero,?_,?_,ZP.zero_ok _⟩
     ·rw [joining_no (by rintro ⟨q1,⟨q2,q4⟩,q3⟩;replace q3:boot≠self_addr:=q3;rw [hae] at q1;omega)];rfl
     ·rw [joining_no (by rintro ⟨q1,⟨q2,q4⟩,q3⟩;replace q3:boot≠self_addr:=q3;rw [hae] at q1;omega)];rfl
    ·replace hc6:=dF hc6
     refine ZA ?_;refine Zk F.foff25_0 ?_;refine ZI F.lay3 ?_;refine YC ?_;refine ZS ?_;refine Zx (Zt (Y_pk [31,8,7,6,2] ?_))
     refine YA rfl (fun hc7=>?_) (fun hc7=>?_)
     ·replace hc7:=dT hc7
      refine ZJ (Zq (l:=[0,1,2]) rfl ?_);refine Xq rfl rfl F.bld32 (.nil) rfl rfl ?_;refine XW F.lay32 ?_;refine ZC ?_;refine Zx (Zt (Y_pk [7,8,6,2] ?_));refine Yu (YY ?_)
      refine Yj (.inr rfl) (.cell rfl (by repeat first|exact List.Mem.head _|refine List.Mem.tail _ ?_|refine List.mem_append_right _ ?_) F.lay32 rfl rfl (.tmp rfl .nil)) (fun w hw=>?_)
      refine ⟨_,M1,rfl,hm1,hw.c,ZP.zero,?_,?_,ZP.zero_ok _⟩
      ·rw [joining_no (by rintro ⟨q1,⟨q2,q4⟩,q3⟩;replace q3:boot≠self_addr:=q3;rw [hae] at q1;omega)];rfl
      ·rw [joining_no (by rintro ⟨q1,⟨q2,q4⟩,q3⟩;replace q3:boot≠self_addr:=q3;rw [hae] at q1;omega)];rfl
     ·replace hc7:=dF hc7
      refine Yz (Zt (Y_pk [8,7,6,2] ?_));refine ZJ (Zq (l:=[0,1,2,3,4]) rfl ?_);refine ZA ?_;refine Zk F.foff32_2 ?_;refine Yi F.lay4 ?_;refine Zk F.foff32_3 ?_;refine Yi F.lay3 ?_;refine Zx (Zt (Y_pk [8,7,6] ?_));refine ZJ (Zq (l:=[0,1,2]) rfl ?_);refine ZI F.lay32 ?_;refine XW F.lay32 ?_;refine ZC ?_;refine Zx (Zt (Y_pk [7,6] ?_));refine Yu ?_
      refine Yj (.inr rfl) (.cell rfl (by repeat first|exact List.Mem.head _|refine List.Mem.tail _ ?_|refine List.mem_append_right _ ?_) F.lay32 rfl rfl (.tmp rfl .nil)) (fun w hw=>?_)
      have h3:=joining_is (s:=⟨self_addr,self_id⟩) (r:=r) (b:=boot) ⟨by rw [hae];omega,⟨by omega,by omega⟩,by show boot≠self_addr;omega⟩
      rw [← hv1] at h3
      exact ⟨_,M1,rfl,hm1,hw.c,⟨⟨⟨YH,YO⟩,⟨YI,YP⟩,⟨YT,YS,YR⟩,⟨YL,YK,YJ⟩⟩,XN,false,boot,XM,WS,Wd,XO,XJ,Xt,XK,Xu,XL,⟨Xx,Xw,Xv⟩,Wo,Wn⟩,by rw [h3];rfl,by rw [h3];rfl,⟨okv.h0,okv.h1⟩⟩
end Go.Proofs.YtajmnjefajknoaaGreat
namespace Go.Esp
def xp (n:Int):ZE:=⟨n,smallP (10 * n)⟩
theorem xs10:smallP 10=10#160:=by kernel_rfl
theorem xs20:smallP 20=20#160:=by kernel_rfl
def xt:Tb:=⟨⟨1,10#160⟩,Xc,[],List.replicate 160 Xc⟩
def xu:Tb:={ xt with succ:=[⟨2,20#160⟩,⟨3,30#160⟩] }
def xv:Tb:={ xu with pred:=⟨3,30#160⟩ }
def xw:Tb:={ xv with fingers:=List.replicate 4 ⟨2,20#160⟩++List.replicate 156 Xc }
def xx:Tb:={ xv with succ:=[⟨3,30#160⟩],fingers:=List.replicate 160 Xc }
end Go.Esp
namespace Go.Esp
def nA:ZE:=⟨1,10#160⟩
def nB:ZE:=⟨2,20#160⟩
def nX:Nd:=(VZ ⟨1,10#160⟩ 2).1
def nY:Nd:=(joiningN ⟨2,20#160⟩ 2 1).1
def nL1:Lt:=⟨1,⟨2,20#160⟩,1,20#160,[],false,⟨-1,0⟩,[]⟩
def nL2:Lt:=⟨2,⟨1,10#160⟩,1,0,[],true,⟨1,10#160⟩,[]⟩
def nL3:Lt:=⟨3,⟨2,20#160⟩,2,0,[],false,⟨-1,0⟩,[]⟩
def nY1:Nd:=(VX nY 1).1
def nY2:Nd:=(VP nY1 nL2).1
def nY3:Nd:=(VX nY2 1).1
theorem nx1:VZ ⟨1,10#160⟩ 2=(nX,0):=by kernel_rfl
theorem nx2:joiningN ⟨2,20#160⟩ 2 1=(nY,0):=by kernel_rfl
theorem nx3:VX nY 1=(nY1,[⟨1,nL1⟩],0):=by kernel_rfl
theorem nx4:VP nX nL1=(nX,[⟨2,nL2⟩],0):=by kernel_rfl
theorem nx5:VP nY1 nL2=(nY2,[],0):=by kernel_rfl
theorem nx6:VX nY2 1=(nY3,[⟨1,nL3⟩],0):=by kernel_rfl
theorem nx7:joiningN ⟨2,20#160⟩ 2 2=(Nd.zero,1):=by kernel_rfl
theorem nx8:nY2.joined=true:=by kernel_rfl
theorem nx9:We nY2.table=⟨1,10#160⟩:=by kernel_rfl
theorem nx10:IsNd nY2:=of_decide_eq_true (by kernel_rfl)
theorem sndl_one {l:List Yw} {s:Snd} (h:sndl l=[s]):∃ y,l=[y]∧y.snd=s:=by
  match l,h with
  | [y],h=>exact ⟨y,rfl,(List.cons.inj h).1⟩
end Go.Esp
namespace Go.Proofs.YtajmnjefajknoaaGreat
open Go.Esp
theorem F.ok11:okFn Tryz.prog 11=true:=by kernel_rfl
theorem F.ok17:okFn Tryz.prog 17=true:=by kernel_rfl
theorem F.ok23:okFn Tryz.prog 23=true:=by kernel_rfl
theorem F.ok40:okFn Tryz.prog 40=true:=by kernel_rfl
theorem small10_ok (M:Mem):Fs Tryz.prog 40 [.int .i64 10] M (fun v=>v=aggV [Yn 10#160]):=by
  have h:=Small_ok M 10 (by decide)
  rw [xs10] at h
  exact h
theorem small20_ok (M:Mem):Fs Tryz.prog 40 [.int .i64 20] M (fun v=>v=aggV [Yn 20#160]):=by
  have h:=Small_ok M 20 (by decide)
  rw [xs20] at h
  exact h
theorem noded_ok (M:Mem):Esp.Fn Tryz.prog 13 [] M (fun _ v=>v=.bool true):=by
  refine WU Tryz.func13 rfl Tryz.ntmps13 rfl ?_;intro H
  refine ZJ (Zq (l:=[0]) rfl ?_);refine ZC ?_;refine Zx (Zt (ZJ (Zq (l:=[0,1,2,3]) rfl ?_)));refine X_fs rfl rfl F.ok40 rfl (small10_ok _) rfl ?_
  rintro _ rfl
  refine Xq rfl rfl F.bld25 (.cons rfl (by constructor) (.cons rfl (by constructor) .nil)) rfl rfl ?_
  refine YW F.zero25 ?_;intro b1
  refine Yi F.lay25 ?_;refine Zx (Zt (Y_pk [1,0] ?_));refine ZJ (Zq (l:=[0,1,2,3]) rfl ?_);refine X_fs rfl rfl F.ok40 rfl (small20_ok _) rfl ?_
  rintro _ rfl
  refine Xq rfl rfl F.bld25 (.cons rfl (by constructor) (.cons rfl (by constructor) .nil)) rfl rfl ?_
  refine YW F.zero25 ?_;intro b2
  refine Yi F.lay25 ?_;refine Zx (Zt (Y_pk [2,1,0] ?_));refine ZJ (Zq (l:=[0,1,2,3,4,5,6,7]) rfl ?_);refine ZI F.lay25 ?_;refine X_fn rfl rfl F.ok21 rfl (Alone_ok M ⟨1,10#160⟩ 2) rfl ?_
  rintro _ M1 hm1 hv
  rw [nx1] at hv
  simp only [NeE] at hv
  obtain ⟨⟨⟨⟨x_table_self_addr,x_table_self_id⟩,⟨x_table_pred_addr,x_table_pred_id⟩,⟨x_table_succ_a,x_table_succ_c,x_table_succ_l⟩,⟨x_table_fingers_a,x_table_fingers_c,x_table_fingers_l⟩⟩,x_copies,x_joined,x_boot,x_cursor,x_req,x_askTo,x_askReq,x_pingTo,x_pingReq,x_findTo,x_findReq,x_findID,⟨x_avoid_a,x_avoid_c,x_avoid_l⟩,x_hops,x_turn⟩,rfl,ex,okx⟩:=hv
  try simp only at ex
  refine ZA ?_
  iterate 2 refine XF ?_
  refine YW F.zero32 ?_;intro b3
  refine XW F.lay32 ?_;refine ZC ?_;refine Zx (Zt (Y_pk [4,3,2,1,0] ?_));refine ZJ (Zq (l:=[0,1,2,3,4,5,6,7]) rfl ?_);refine ZI F.lay25 ?_;refine X_fn rfl rfl F.ok23 rfl (Joining_ok M1 ⟨2,20#160⟩ 2 1) rfl ?_
  rintro _ M2 hm2 hv
  rw [nx2] at hv
  simp only [NeE] at hv
  obtain ⟨⟨⟨⟨y_table_self_addr,y_table_self_id⟩,⟨y_table_pred_addr,y_table_pred_id⟩,⟨y_table_succ_a,y_table_succ_c,y_table_succ_l⟩,⟨y_table_fingers_a,y_table_fingers_c,y_table_fingers_l⟩⟩,y_copies,y_joined,y_boot,y_cursor,y_req,y_askTo,y_askReq,y_pingTo,y_pingReq,y_findTo,y_findReq,y_findID,⟨y_avoid_a,y_avoid_c,y_avoid_l⟩,y_hops,y_turn⟩,rfl,ey,oky⟩:=hv
  try simp only at ey
  refine ZA ?_
  iterate 2 refine XF ?_
  refine YW F.zero32 ?_;intro b4
  refine XW F.lay32 ?_;refine ZC ?_;refine Zx (Zt (Y_pk [6,5,4,3,2,1,0] ?_));refine ZJ (Zq (l:=[0,1,2,3,4,5,6,7,8,9]) rfl ?_);refine ZI F.lay32 ?_;refine X_fn rfl rfl F.ok11 rfl (Tick_ok M2 ⟨⟨⟨y_table_self_addr,y_table_self_id⟩,⟨y_table_pred_addr,y_table_pred_id⟩,⟨y_table_succ_a,y_table_succ_c,y_table_succ_l⟩,⟨y_table_fingers_a,y_table_fingers_c,y_table_fingers_l⟩⟩,y_copies,y_joined,y_boot,y_cursor,y_req,y_askTo,y_askReq,y_pingTo,y_pingReq,y_findTo,y_findReq,y_findID,⟨y_avoid_a,y_avoid_c,y_avoid_l⟩,y_hops,y_turn⟩ 1 oky) rfl ?_
  rintro _ M3 hm3 hv
  rw [show VX (ZP.nd ⟨⟨⟨y_table_self_addr,y_table_self_id⟩,⟨y_table_pred_addr,y_table_pred_id⟩,⟨y_table_succ_a,y_table_succ_c,y_table_succ_l⟩,⟨y_table_fingers_a,y_table_fingers_c,y_table_fingers_l⟩⟩,y_copies,y_joined,y_boot,y_cursor,y_req,y_askTo,y_askReq,y_pingTo,y_pingReq,y_findTo,y_findReq,y_findID,⟨y_avoid_a,y_avoid_c,y_avoid_l⟩,y_hops,y_turn⟩) 1=_ from (congrArg (fun n=>VX n 1) ey).trans nx3] at hv
  simp only [NtE] at hv
  obtain ⟨⟨⟨⟨z_table_self_addr,z_table_self_id⟩,⟨z_table_pred_addr,z_table_pred_id⟩,⟨z_table_succ_a,z_table_succ_c,z_table_succ_l⟩,⟨z_table_fingers_a,z_table_fingers_c,z_table_fingers_l⟩⟩,z_copies,z_joined,z_boot,z_cursor,z_req,z_askTo,z_askReq,z_pingTo,z_pingReq,z_findTo,z_findReq,z_findID,⟨z_avoid_a,z_avoid_c,z_avoid_l⟩,z_hops,z_turn⟩,⟨so_a,so_c,so_l⟩,rfl,ez,sz,okz,kz,lz⟩:=hv
  try simp only at ez sz kz lz
  obtain ⟨⟨p_to,⟨p_kind,⟨p_frm_addr,p_frm_id⟩,p_req,p_id,⟨p_avoid_a,p_avoid_c,p_avoid_l⟩,p_done,⟨p_peer_addr,p_peer_id⟩,⟨p_peers_a,p_peers_c,p_peers_l⟩⟩⟩,rfl,hp⟩:=sndl_one sz
  simp only [Yw.snd,ZQ.lt,nL1,Snd.mk.injEq,Lt.mk.injEq,ZE.mk.injEq] at hp
  obtain ⟨rfl,rfl,⟨rfl,rfl⟩,rfl,rfl,rfl,rfl,⟨rfl,rfl⟩,rfl⟩:=hp
  have s_so:=kz.h1
  try simp only at s_so
  refine ZA ?_
  iterate 3 refine XF ?_
  refine YW F.zero32 ?_;intro b5
  refine XW F.lay32 ?_
  iterate 2 refine ZC ?_
  refine Zx (Zt (Y_pk [9,8,7,6,4,3,2,1,0] ?_))
  iterate 2 refine ZJ ?_
  refine Zq (l:=[0,1,2,3,4,5,6,7,8,9,10,11,12,13,14,15,16,17,18,19,20,21,22,23,24,25,26,27,28,29,30,31]) rfl ?_;refine ZA ?_;refine YC ?_;refine ZA ?_
  refine Yp 43 rfl (fun hc6=>?_) (fun hc6=>?_)
  ·replace hc6:=nT hc6
   simp only [ZE.eta,ZT.eta,ZP.eta,ZQ.eta,Yw.eta,ZR.eta,YM.eta,ZY.eta] at hc6
   (exfalso;simp [eqX] at hc6;done)
  ·replace hc6:=nF hc6
   simp only [ZE.eta,ZT.eta,ZP.eta,ZQ.eta,Yw.eta,ZR.eta,YM.eta,ZY.eta] at hc6
   iterate 2 refine ZA ?_
   refine YC ?_;refine ZS ?_;refine ZA ?_
   refine Yp 48 rfl (fun hc7=>?_) (fun hc7=>?_)
   ·replace hc7:=nT hc7
    simp only [ZE.eta,ZT.eta,ZP.eta,ZQ.eta,Yw.eta,ZR.eta,YM.eta,ZY.eta] at hc7
    (exfalso;simp [eqX] at hc7;done)
   ·replace hc7:=nF hc7
    simp only [ZE.eta,ZT.eta,ZP.eta,ZQ.eta,Yw.eta,ZR.eta,YM.eta,ZY.eta] at hc7
    iterate 2 refine ZA ?_
    refine YC ?_;refine ZS ?_;refine ZA ?_
    refine Yp 53 rfl (fun hc8=>?_) (fun hc8=>?_)
    ·replace hc8:=nT hc8
     simp only [ZE.eta,ZT.eta,ZP.eta,ZQ.eta,Yw.eta,ZR.eta,YM.eta,ZY.eta] at hc8
     (exfalso;simp [eqX] at hc8;done)
    ·replace hc8:=nF hc8
     simp only [ZE.eta,ZT.eta,ZP.eta,ZQ.eta,Yw.eta,ZR.eta,YM.eta,ZY.eta] at hc8
     refine ZA ?_;refine YZ F.elem35 ?_;refine YC ?_;refine ZS ?_;refine ZA ?_
     refine Yp 58 rfl (fun hc9=>?_) (fun hc9=>?_)
     ·replace hc9:=nT hc9
      (exfalso;simp [eqX] at hc9;done)
     ·replace hc9:=nF hc9
      refine ZA ?_;refine Xa rfl rfl rfl rfl F.elem35 (by rfl) (by (simp;done)) (by exact SlM.plain (by assumption) (by (simp;done))) rfl ?_;refine XX rfl rfl rfl (by exact SlM.plain (by assumption) (by (simp;done))) F.foff49_0 rfl ?_;refine Wb rfl rfl rfl (by assumption) (by exact rfl) F.lay3 rfl rfl rfl ?_;refine YC ?_;refine ZS ?_;refine ZA ?_
      refine Yp 65 rfl (fun hc10=>?_) (fun hc10=>?_)
      ·replace hc10:=nT hc10
       simp only [ZE.eta,ZT.eta,ZP.eta,ZQ.eta,Yw.eta,ZR.eta,YM.eta,ZY.eta] at hc10
       (exfalso;simp [eqX] at hc10;done)
      ·replace hc10:=nF hc10
       simp only [ZE.eta,ZT.eta,ZP.eta,ZQ.eta,Yw.eta,ZR.eta,YM.eta,ZY.eta] at hc10
       refine ZA ?_;refine Xa rfl rfl rfl rfl F.elem35 (by rfl) (by (simp;done)) (by exact SlM.plain (by assumption) (by (simp;done))) rfl ?_;refine XX rfl rfl rfl (by exact SlM.plain (by assumption) (by (simp;done))) F.foff49_1 rfl ?_;refine XX rfl rfl rfl (by exact SlM.plain (by assumption) (by (simp;done))) F.foff44_0 rfl ?_;refine Wb rfl rfl rfl (by assumption) (by exact rfl) F.lay3 rfl rfl rfl ?_;refine YC ?_;refine ZS ?_;refine Zx (Zt (Y_pk [72,8,7,3,2,1,0] ?_))
       refine YA rfl (fun hc11=>?_) (fun hc11=>?_)
       ·replace hc11:=nT hc11
        simp only [ZE.eta,ZT.eta,ZP.eta,ZQ.eta,Yw.eta,ZR.eta,YM.eta,ZY.eta] at hc11
        (exfalso;simp [eqX] at hc11;done)
       ·replace hc11:=nF hc11
        simp only [ZE.eta,ZT.eta,ZP.eta,ZQ.eta,Yw.eta,ZR.eta,YM.eta,ZY.eta] at hc11
        refine Yz (Zt (Y_pk [8,7,3,2,1,0] ?_));refine ZJ (YF (l:=[0,1,2,3,4,5,6,7,8,9,10,11,12,13]) #[0,0,2,6,14,31,63,127,127,127,0,1279,3583,8191] _ rfl (by kernel_rfl) (by kernel_rfl) St.drawn (fun _ h=>h) ?_);refine ZI F.lay32 ?_;refine ZA ?_;refine Xa rfl rfl rfl rfl F.elem35 (by rfl) (by (simp;done)) (by exact SlM.plain (by assumption) (by (simp;done))) rfl ?_;refine XX rfl rfl rfl (by exact SlM.plain (by assumption) (by (simp;done))) F.foff49_1 rfl ?_;refine Wb rfl rfl rfl (by assumption) (by exact rfl) F.lay44 rfl rfl rfl ?_;refine X_fn rfl rfl F.ok17 rfl (Take_ok M3 ⟨⟨⟨x_table_self_addr,x_table_self_id⟩,⟨x_table_pred_addr,x_table_pred_id⟩,⟨x_table_succ_a,x_table_succ_c,x_table_succ_l⟩,⟨x_table_fingers_a,x_table_fingers_c,x_table_fingers_l⟩⟩,x_copies,x_joined,x_boot,x_cursor,x_req,x_askTo,x_askReq,x_pingTo,x_pingReq,x_findTo,x_findReq,x_findID,⟨x_avoid_a,x_avoid_c,x_avoid_l⟩,x_hops,x_turn⟩ ⟨1,⟨2,20#160⟩,1,20#160,⟨p_avoid_a,p_avoid_c,[]⟩,false,⟨-1,0⟩,⟨p_peers_a,p_peers_c,[]⟩⟩ (okx.mono (by (repeat first|assumption|refine Mem.le.trans (by assumption) ?_))) (lz _ (List.Mem.head _)).h0) rfl ?_
        rintro _ M4 hm4 hv
        rw [show VP (ZP.nd ⟨⟨⟨x_table_self_addr,x_table_self_id⟩,⟨x_table_pred_addr,x_table_pred_id⟩,⟨x_table_succ_a,x_table_succ_c,x_table_succ_l⟩,⟨x_table_fingers_a,x_table_fingers_c,x_table_fingers_l⟩⟩,x_copies,x_joined,x_boot,x_cursor,x_req,x_askTo,x_askReq,x_pingTo,x_pingReq,x_findTo,x_findReq,x_findID,⟨x_avoid_a,x_avoid_c,x_avoid_l⟩,x_hops,x_turn⟩) (ZQ.lt ⟨1,⟨2,20#160⟩,1,20#160,⟨p_avoid_a,p_avoid_c,[]⟩,false,⟨-1,0⟩,⟨p_peers_a,p_peers_c,[]⟩⟩)=_ from (congrArg (fun n=>VP n (ZQ.lt ⟨1,⟨2,20#160⟩,1,20#160,⟨p_avoid_a,p_avoid_c,[]⟩,false,⟨-1,0⟩,⟨p_peers_a,p_peers_c,[]⟩⟩)) ex).trans nx4] at hv
        simp only [NtE] at hv
        obtain ⟨⟨⟨⟨w_table_self_addr,w_table_self_id⟩,⟨w_table_pred_addr,w_table_pred_id⟩,⟨w_table_succ_a,w_table_succ_c,w_table_succ_l⟩,⟨w_table_fingers_a,w_table_fingers_c,w_table_fingers_l⟩⟩,w_copies,w_joined,w_boot,w_cursor,w_req,w_askTo,w_askReq,w_pingTo,w_pingReq,w_findTo,w_findReq,w_findID,⟨w_avoid_a,w_avoid_c,w_avoid_l⟩,w_hops,w_turn⟩,⟨to_a,to_c,to_l⟩,rfl,ew,sw,okw,kw,lw⟩:=hv
        try simp only at ew sw kw lw
        obtain ⟨⟨r_to,⟨r_kind,⟨r_frm_addr,r_frm_id⟩,r_req,r_id,⟨r_avoid_a,r_avoid_c,r_avoid_l⟩,r_done,⟨r_peer_addr,r_peer_id⟩,⟨r_peers_a,r_peers_c,r_peers_l⟩⟩⟩,rfl,hr⟩:=sndl_one sw
        simp only [Yw.snd,ZQ.lt,nL2,Snd.mk.injEq,Lt.mk.injEq,ZE.mk.injEq] at hr
        obtain ⟨rfl,rfl,⟨rfl,rfl⟩,rfl,rfl,rfl,rfl,⟨rfl,rfl⟩,rfl⟩:=hr
        have s_to:=kw.h1
        try simp only at s_to
        refine ZA ?_
        iterate 3 refine XF ?_
        refine YW F.zero32 ?_;intro b12
        refine XW F.lay32 ?_
        iterate 2 refine ZC ?_
        refine Zx (Zt (Y_pk [12,11,7,2,1,0] ?_))
        iterate 2 refine ZJ ?_
        refine YF (l:=[0,1,2,3,4,5,6,7,8,9,10,11,12,13,14,15,16,17,18,19,20,21,22,23,24,25,26,27,28,29,30]) #[0,1,3,7,15,31,63,127,255,511,1023,2047,4095,8191,16383,32767,65535,131071,262143,524287,1048575,2097151,4194303,8388607,16777215,33554431,67108863,134217727,8388607,536870911,1073741823] _ rfl (by kernel_rfl) (by kernel_rfl) St.drawn (fun _ h=>h) ?_;refine ZA ?_;refine YC ?_;refine ZA ?_
        refine Yp 85 rfl (fun hc13=>?_) (fun hc13=>?_)
        ·replace hc13:=nT hc13
         simp only [ZE.eta,ZT.eta,ZP.eta,ZQ.eta,Yw.eta,ZR.eta,YM.eta,ZY.eta] at hc13
         (exfalso;simp [eqX] at hc13;done)
        ·replace hc13:=nF hc13
         simp only [ZE.eta,ZT.eta,ZP.eta,ZQ.eta,Yw.eta,ZR.eta,YM.eta,ZY.eta] at hc13
         refine ZA ?_;refine YZ F.elem35 ?_;refine YC ?_;refine ZS ?_;refine ZA ?_
         refine Yp 90 rfl (fun hc14=>?_) (fun hc14=>?_)
         ·replace hc14:=nT hc14
          (exfalso;simp [eqX] at hc14;done)
         ·replace hc14:=nF hc14
          refine ZA ?_;refine Xa rfl rfl rfl rfl F.elem35 (by rfl) (by (simp;done)) (by exact SlM.plain (by assumption) (by (simp;done))) rfl ?_;refine XX rfl rfl rfl (by exact SlM.plain (by assumption) (by (simp;done))) F.foff49_0 rfl ?_;refine Wb rfl rfl rfl (by assumption) (by exact rfl) F.lay3 rfl rfl rfl ?_;refine YC ?_;refine ZS ?_;refine ZA ?_
          refine Yp 97 rfl (fun hc15=>?_) (fun hc15=>?_)
          ·replace hc15:=nT hc15
           simp only [ZE.eta,ZT.eta,ZP.eta,ZQ.eta,Yw.eta,ZR.eta,YM.eta,ZY.eta] at hc15
           (exfalso;simp [eqX] at hc15;done)
          ·replace hc15:=nF hc15
           simp only [ZE.eta,ZT.eta,ZP.eta,ZQ.eta,Yw.eta,ZR.eta,YM.eta,ZY.eta] at hc15
           refine ZA ?_;refine Xa rfl rfl rfl rfl F.elem35 (by rfl) (by (simp;done)) (by exact SlM.plain (by assumption) (by (simp;done))) rfl ?_;refine XX rfl rfl rfl (by exact SlM.plain (by assumption) (by (simp;done))) F.foff49_1 rfl ?_;refine XX rfl rfl rfl (by exact SlM.plain (by assumption) (by (simp;done))) F.foff44_5 rfl ?_;refine Wb rfl rfl rfl (by assumption) (by exact rfl) F.lay4 rfl rfl rfl ?_;refine XA ?_;refine ZS ?_;refine ZA ?_
           refine Yp 105 rfl (fun hc16=>?_) (fun hc16=>?_)
           ·skip
            (exfalso;simp [eqX] at hc16;done)
           ·skip
            refine ZA ?_;refine Xa rfl rfl rfl rfl F.elem35 (by rfl) (by (simp;done)) (by exact SlM.plain (by assumption) (by (simp;done))) rfl ?_;refine XX rfl rfl rfl (by exact SlM.plain (by assumption) (by (simp;done))) F.foff49_1 rfl ?_;refine XX rfl rfl rfl (by exact SlM.plain (by assumption) (by (simp;done))) F.foff44_6 rfl ?_;refine Wb rfl rfl rfl (by assumption) (by exact rfl) F.lay25 rfl rfl rfl ?_;refine ZI F.lay25 ?_
            refine WW (m:=20) rfl rfl rfl rfl rfl (by constructor) (by constructor) F.lay25 F.kinds25 rfl F.guard25 (by exact XT (⟨_,_⟩)) (by exact XT (⟨_,_⟩)) rfl rfl rfl ?_;intro c17 he18
            replace he18:c17=true↔¬(Segs.cells _=Segs.cells _):=he18
            obtain rfl:=neD he18 (ZE.inj (x:=⟨_,_⟩) (y:=⟨_,_⟩));clear he18
            refine ZS ?_;refine Zx (Zt (Y_pk [113,11,7,2,1,0] ?_))
            refine YA rfl (fun hc19=>?_) (fun hc19=>?_)
            ·replace hc19:=nT hc19
             simp only [ZE.eta,ZT.eta,ZP.eta,ZQ.eta,Yw.eta,ZR.eta,YM.eta,ZY.eta] at hc19
             (exfalso;simp [eqX] at hc19;done)
            ·replace hc19:=nF hc19
             simp only [ZE.eta,ZT.eta,ZP.eta,ZQ.eta,Yw.eta,ZR.eta,YM.eta,ZY.eta] at hc19
             refine Yz (Zt (Y_pk [11,7,2,1,0] ?_));refine ZJ (YF (l:=[0,1,2,3,4,5,6,7,8,9,10,11,12,13]) #[0,0,2,6,14,31,63,127,127,127,0,1279,3583,8191] _ rfl (by kernel_rfl) (by kernel_rfl) St.drawn (fun _ h=>h) ?_);refine ZI F.lay32 ?_;refine ZA ?_;refine Xa rfl rfl rfl rfl F.elem35 (by rfl) (by (simp;done)) (by exact SlM.plain (by assumption) (by (simp;done))) rfl ?_;refine XX rfl rfl rfl (by exact SlM.plain (by assumption) (by (simp;done))) F.foff49_1 rfl ?_;refine Wb rfl rfl rfl (by assumption) (by exact rfl) F.lay44 rfl rfl rfl ?_;refine X_fn rfl rfl F.ok17 rfl (Take_ok M4 ⟨⟨⟨z_table_self_addr,z_table_self_id⟩,⟨z_table_pred_addr,z_table_pred_id⟩,⟨z_table_succ_a,z_table_succ_c,z_table_succ_l⟩,⟨z_table_fingers_a,z_table_fingers_c,z_table_fingers_l⟩⟩,z_copies,z_joined,z_boot,z_cursor,z_req,z_askTo,z_askReq,z_pingTo,z_pingReq,z_findTo,z_findReq,z_findID,⟨z_avoid_a,z_avoid_c,z_avoid_l⟩,z_hops,z_turn⟩ ⟨2,⟨1,10#160⟩,1,0,⟨r_avoid_a,r_avoid_c,[]⟩,true,⟨1,10#160⟩,⟨r_peers_a,r_peers_c,[]⟩⟩ (okz.mono hm4) (lw _ (List.Mem.head _)).h0) rfl ?_
             rintro _ M5 hm5 hv
             rw [show VP (ZP.nd ⟨⟨⟨z_table_self_addr,z_table_self_id⟩,⟨z_table_pred_addr,z_table_pred_id⟩,⟨z_table_succ_a,z_table_succ_c,z_table_succ_l⟩,⟨z_table_fingers_a,z_table_fingers_c,z_table_fingers_l⟩⟩,z_copies,z_joined,z_boot,z_cursor,z_req,z_askTo,z_askReq,z_pingTo,z_pingReq,z_findTo,z_findReq,z_findID,⟨z_avoid_a,z_avoid_c,z_avoid_l⟩,z_hops,z_turn⟩) (ZQ.lt ⟨2,⟨1,10#160⟩,1,0,⟨r_avoid_a,r_avoid_c,[]⟩,true,⟨1,10#160⟩,⟨r_peers_a,r_peers_c,[]⟩⟩)=_ from (congrArg (fun n=>VP n (ZQ.lt ⟨2,⟨1,10#160⟩,1,0,⟨r_avoid_a,r_avoid_c,[]⟩,true,⟨1,10#160⟩,⟨r_peers_a,r_peers_c,[]⟩⟩)) ez).trans nx5] at hv
             simp only [NtE] at hv
             obtain ⟨⟨⟨⟨v_table_self_addr,v_table_self_id⟩,⟨v_table_pred_addr,v_table_pred_id⟩,⟨v_table_succ_a,v_table_succ_c,v_table_succ_l⟩,⟨v_table_fingers_a,v_table_fingers_c,v_table_fingers_l⟩⟩,v_copies,v_joined,v_boot,v_cursor,v_req,v_askTo,v_askReq,v_pingTo,v_pingReq,v_findTo,v_findReq,v_findID,⟨v_avoid_a,v_avoid_c,v_avoid_l⟩,v_hops,v_turn⟩,⟨vo_a,vo_c,vo_l⟩,rfl,ev,sv,okv,kv,lv⟩:=hv
             try simp only at ev sv kv lv
             refine ZA ?_
             iterate 3 refine XF ?_
             refine YW F.zero32 ?_;intro b20
             refine XW F.lay32 ?_
             iterate 2 refine ZC ?_
             refine Zx (Zt (Y_pk [15,13,2,1,0] ?_));refine ZJ (Zq (l:=[0,1,2,3,4,5,6,7,8,9]) rfl ?_);refine ZI F.lay32 ?_;refine X_fn rfl rfl F.ok11 rfl (Tick_ok M5 ⟨⟨⟨v_table_self_addr,v_table_self_id⟩,⟨v_table_pred_addr,v_table_pred_id⟩,⟨v_table_succ_a,v_table_succ_c,v_table_succ_l⟩,⟨v_table_fingers_a,v_table_fingers_c,v_table_fingers_l⟩⟩,v_copies,v_joined,v_boot,v_cursor,v_req,v_askTo,v_askReq,v_pingTo,v_pingReq,v_findTo,v_findReq,v_findID,⟨v_avoid_a,v_avoid_c,v_avoid_l⟩,v_hops,v_turn⟩ 1 okv) rfl ?_
             rintro _ M6 hm6 hv
             rw [show VX (ZP.nd ⟨⟨⟨v_table_self_addr,v_table_self_id⟩,⟨v_table_pred_addr,v_table_pred_id⟩,⟨v_table_succ_a,v_table_succ_c,v_table_succ_l⟩,⟨v_table_fingers_a,v_table_fingers_c,v_table_fingers_l⟩⟩,v_copies,v_joined,v_boot,v_cursor,v_req,v_askTo,v_askReq,v_pingTo,v_pingReq,v_findTo,v_findReq,v_findID,⟨v_avoid_a,v_avoid_c,v_avoid_l⟩,v_hops,v_turn⟩) 1=_ from (congrArg (fun n=>VX n 1) ev).trans nx6] at hv
             simp only [NtE] at hv
             obtain ⟨⟨⟨⟨u_table_self_addr,u_table_self_id⟩,⟨u_table_pred_addr,u_table_pred_id⟩,⟨u_table_succ_a,u_table_succ_c,u_table_succ_l⟩,⟨u_table_fingers_a,u_table_fingers_c,u_table_fingers_l⟩⟩,u_copies,u_joined,u_boot,u_cursor,u_req,u_askTo,u_askReq,u_pingTo,u_pingReq,u_findTo,u_findReq,u_findID,⟨u_avoid_a,u_avoid_c,u_avoid_l⟩,u_hops,u_turn⟩,⟨uo_a,uo_c,uo_l⟩,rfl,eu,su,oku,ku,lu⟩:=hv
             try simp only at eu su ku lu
             obtain ⟨⟨q_to,⟨q_kind,⟨q_frm_addr,q_frm_id⟩,q_req,q_id,⟨q_avoid_a,q_avoid_c,q_avoid_l⟩,q_done,⟨q_peer_addr,q_peer_id⟩,⟨q_peers_a,q_peers_c,q_peers_l⟩⟩⟩,rfl,hq⟩:=sndl_one su
             simp only [Yw.snd,ZQ.lt,nL3,Snd.mk.injEq,Lt.mk.injEq,ZE.mk.injEq] at hq
             obtain ⟨rfl,rfl,⟨rfl,rfl⟩,rfl,rfl,rfl,rfl,⟨rfl,rfl⟩,rfl⟩:=hq
             have s_uo:=ku.h1
             try simp only at s_uo
             refine ZA ?_
             iterate 3 refine XF ?_
             refine YW F.zero32 ?_;intro b21
             refine XW F.lay32 ?_
             iterate 2 refine ZC ?_
             refine Zx (Zt (Y_pk [18,17,15,13,2,1,0] ?_));refine ZJ (Zq (l:=[0,1,2,3,4,5,6,7]) rfl ?_);refine ZI F.lay25 ?_;refine X_fn rfl rfl F.ok23 rfl (Joining_ok M6 ⟨2,20#160⟩ 2 2) rfl ?_
             rintro _ M7 hm7 hv
             rw [nx7] at hv
             simp only [NeE] at hv
             obtain ⟨⟨⟨⟨j_table_self_addr,j_table_self_id⟩,⟨j_table_pred_addr,j_table_pred_id⟩,⟨j_table_succ_a,j_table_succ_c,j_table_succ_l⟩,⟨j_table_fingers_a,j_table_fingers_c,j_table_fingers_l⟩⟩,j_copies,j_joined,j_boot,j_cursor,j_req,j_askTo,j_askReq,j_pingTo,j_pingReq,j_findTo,j_findReq,j_findID,⟨j_avoid_a,j_avoid_c,j_avoid_l⟩,j_hops,j_turn⟩,rfl,ej,okj⟩:=hv
             try simp only at ej
             refine ZA ?_
             iterate 2 refine XF ?_
             refine YW F.zero32 ?_;intro b22
             refine XW F.lay32 ?_;refine ZC ?_;refine Zx (Zt (Y_pk [20,18,17,15,13,1,0] ?_));refine ZJ (YF (l:=[0,1,2,3,4,5,6,7,8,9,10,11,12,13,14,15,16,17,18,19,20,21,22,23,24,25,26,27,28,29,30,31,32,33,34,35,36,37,38]) #[0,1,3,7,15,31,63,127,255,511,127,2047,4095,8191,16383,32767,65535,131071,262143,524287,1048575,2097151,4194303,8388607,16777215,33554431,67108863,134217727,268435455,536870911,1073741823,2147483647,4294967295,8589934591,17179869183,34359738367,68719476735,137438953471,274877906943] _ rfl (by kernel_rfl) (by kernel_rfl) St.drawn (fun _ h=>h) ?_);refine ZA ?_;refine YC ?_;refine ZA ?_
             refine Yp 137 rfl (fun hc23=>?_) (fun hc23=>?_)
             ·replace hc23:=dT hc23
              simp only [ZE.eta,ZT.eta,ZP.eta,ZQ.eta,Yw.eta,ZR.eta,YM.eta,ZY.eta] at hc23
              have hvj:v_joined=true:=(congrArg Nd.joined ev).trans nx8
              refine Zk F.foff32_2 ?_;refine ZI F.lay4 ?_;refine VF 139 rfl (show _=Value.bool true from congrArg Value.bool hvj) ?_;refine ZS ?_;refine ZA ?_
              refine Yp 141 rfl (fun hc24=>?_) (fun hc24=>?_)
              ·skip
               simp only [ZE.eta,ZT.eta,ZP.eta,ZQ.eta,Yw.eta,ZR.eta,YM.eta,ZY.eta] at hc24
               refine Zk F.foff32_0 ?_;refine ZI F.lay28 ?_;refine X_fs rfl rfl F.ok41 rfl (First_ok _ ⟨⟨v_table_self_addr,v_table_self_id⟩,⟨v_table_pred_addr,v_table_pred_id⟩,⟨v_table_succ_a,v_table_succ_c,v_table_succ_l⟩,⟨v_table_fingers_a,v_table_fingers_c,v_table_fingers_l⟩⟩ (okv.h0.mono (by (repeat first|assumption|refine Mem.le.trans (by assumption) ?_)))) rfl ?_
               rintro _ hv
               have h9:We (ZT.tb ⟨⟨v_table_self_addr,v_table_self_id⟩,⟨v_table_pred_addr,v_table_pred_id⟩,⟨v_table_succ_a,v_table_succ_c,v_table_succ_l⟩,⟨v_table_fingers_a,v_table_fingers_c,v_table_fingers_l⟩⟩)=⟨1,10#160⟩:=(congrArg (fun n:Nd=>We n.table) ev).trans nx9
               rw [h9] at hv
               subst hv
               refine ZI F.lay25 ?_
               refine WW (m:=20) rfl rfl rfl rfl rfl (by constructor) (by constructor) F.lay25 F.kinds25 rfl F.guard25 (by exact XT _) (by exact XT (⟨_,_⟩)) rfl rfl rfl ?_;intro c25 he26
               replace he26:c25=true↔Segs.cells _=Segs.cells _:=he26
               obtain rfl:=eqD he26 (ZE.inj (x:=⟨_,_⟩) (y:=⟨_,_⟩));clear he26
               refine ZS ?_;refine ZA ?_
               refine Yp 148 rfl (fun hc27=>?_) (fun hc27=>?_)
               ·replace hc27:=dT hc27
                simp only [ZE.eta,ZT.eta,ZP.eta,ZQ.eta,Yw.eta,ZR.eta,YM.eta,ZY.eta] at hc27
                refine ZA ?_;refine YC ?_;refine ZS ?_;refine ZA ?_
                refine Yp 152 rfl (fun hc28=>?_) (fun hc28=>?_)
                ·replace hc28:=dT hc28
                 simp only [ZE.eta,ZT.eta,ZP.eta,ZQ.eta,Yw.eta,ZR.eta,YM.eta,ZY.eta] at hc28
                 refine ZA ?_;refine YZ F.elem35 ?_;refine YC ?_;refine ZS ?_;refine ZA ?_
                 refine Yp 157 rfl (fun hc29=>?_) (fun hc29=>?_)
                 ·replace hc29:=dT hc29
                  refine ZA ?_;refine Xa rfl rfl rfl rfl F.elem35 (by rfl) (by (simp;done)) (by exact SlM.plain (by assumption) (by (simp;done))) rfl ?_;refine XX rfl rfl rfl (by exact SlM.plain (by assumption) (by (simp;done))) F.foff49_1 rfl ?_;refine XX rfl rfl rfl (by exact SlM.plain (by assumption) (by (simp;done))) F.foff44_0 rfl ?_;refine Wb rfl rfl rfl (by exact SlM.mono (by assumption) (by assumption)) (by exact rfl) F.lay3 rfl rfl rfl ?_;refine YC ?_;refine ZS ?_;refine ZA ?_
                  refine Yp 165 rfl (fun hc30=>?_) (fun hc30=>?_)
                  ·replace hc30:=dT hc30
                   simp only [ZE.eta,ZT.eta,ZP.eta,ZQ.eta,Yw.eta,ZR.eta,YM.eta,ZY.eta] at hc30
                   refine ZA ?_;refine YC ?_;refine ZS ?_;refine ZA ?_
                   refine Yp 169 rfl (fun hc31=>?_) (fun hc31=>?_)
                   ·replace hc31:=dT hc31
                    simp only [ZE.eta,ZT.eta,ZP.eta,ZQ.eta,Yw.eta,ZR.eta,YM.eta,ZY.eta] at hc31
                    refine ZI F.lay32 ?_;refine X_fs rfl rfl F.ok27 rfl (IsN_ok _ ⟨⟨⟨v_table_self_addr,v_table_self_id⟩,⟨v_table_pred_addr,v_table_pred_id⟩,⟨v_table_succ_a,v_table_succ_c,v_table_succ_l⟩,⟨v_table_fingers_a,v_table_fingers_c,v_table_fingers_l⟩⟩,v_copies,v_joined,v_boot,v_cursor,v_req,v_askTo,v_askReq,v_pingTo,v_pingReq,v_findTo,v_findReq,v_findID,⟨v_avoid_a,v_avoid_c,v_avoid_l⟩,v_hops,v_turn⟩ (okv.mono (by (repeat first|assumption|refine Mem.le.trans (by assumption) ?_)))) rfl ?_
                    rintro _ hv
                    have h9:IsNd (ZP.nd ⟨⟨⟨v_table_self_addr,v_table_self_id⟩,⟨v_table_pred_addr,v_table_pred_id⟩,⟨v_table_succ_a,v_table_succ_c,v_table_succ_l⟩,⟨v_table_fingers_a,v_table_fingers_c,v_table_fingers_l⟩⟩,v_copies,v_joined,v_boot,v_cursor,v_req,v_askTo,v_askReq,v_pingTo,v_pingReq,v_findTo,v_findReq,v_findID,⟨v_avoid_a,v_avoid_c,v_avoid_l⟩,v_hops,v_turn⟩):=ev.symm ▸ nx10
                    rw [decide_eq_true h9] at hv
                    subst hv
                    refine ZS ?_;refine ZC ?_;refine Zx (Zt (Y_pk [0] ?_));refine Yu ?_
                    refine Yj (.inr rfl) (.tmp rfl .nil) (fun w hw=>?_)
                    exact ⟨_,_,rfl,(by (repeat first|assumption|refine Mem.le.trans (by assumption) ?_)),hw.c,rfl⟩
                   ·replace hc31:=dF hc31
                    simp only [ZE.eta,ZT.eta,ZP.eta,ZQ.eta,Yw.eta,ZR.eta,YM.eta,ZY.eta] at hc31
                    (exfalso;simp [eqX] at hc31;done)
                  ·replace hc30:=dF hc30
                   simp only [ZE.eta,ZT.eta,ZP.eta,ZQ.eta,Yw.eta,ZR.eta,YM.eta,ZY.eta] at hc30
                   (exfalso;simp [eqX] at hc30;done)
                 ·replace hc29:=dF hc29
                  (exfalso;simp [eqX] at hc29;done)
                ·replace hc28:=dF hc28
                 simp only [ZE.eta,ZT.eta,ZP.eta,ZQ.eta,Yw.eta,ZR.eta,YM.eta,ZY.eta] at hc28
                 (exfalso;simp [eqX] at hc28;done)
               ·replace hc27:=dF hc27
                simp only [ZE.eta,ZT.eta,ZP.eta,ZQ.eta,Yw.eta,ZR.eta,YM.eta,ZY.eta] at hc27
                (exfalso;simp [eqX] at hc27;done)
              ·skip
               (exfalso;simp [eqX] at hc24;done)
             ·replace hc23:=dF hc23
              simp only [ZE.eta,ZT.eta,ZP.eta,ZQ.eta,Yw.eta,ZR.eta,YM.eta,ZY.eta] at hc23
              (exfalso;simp [eqX] at hc23;done)
end Go.Proofs.YtajmnjefajknoaaGreat
namespace Go.Proofs.YtajmnjefajknoaaGreat
open Go.Esp
theorem F.ok13:okFn Tryz.prog 13=true:=by kernel_rfl
theorem F.ok14:okFn Tryz.prog 14=true:=by kernel_rfl
theorem F.ok16:okFn Tryz.prog 16=true:=by kernel_rfl
theorem F.ok9:okFn Tryz.prog 9=true:=by kernel_rfl
end Go.Proofs.YtajmnjefajknoaaGreat
namespace Go.Proofs.YtajmnjefajknoaaGreat
open Go.Esp
end Go.Proofs.YtajmnjefajknoaaGreat
namespace Go.Esp
def CandP (s:ZE) (id:Plc) (avoid:List Int) (p:ZE):Prop:=Uf s.id p.id id∧p.addr∉avoid
instance (s:ZE) (id:Plc) (avoid:List Int) (p:ZE):Decidable (CandP s id avoid p):=by unfold CandP;exact inferInstance
structure NearOk (s:ZE) (id:Plc) (avoid:List Int) (l:List ZE) (r:ZE×Bool):Prop where
  no:r.2=false→r.1=Xc∧∀ x∈l,¬CandP s id avoid x
  yes:r.2=true→r.1∈l∧CandP s id avoid r.1∧∀ x∈l,CandP s id avoid x→¬Uf r.1.id x.id id
end Go.Esp
namespace Go.Esp
def FairS (p:ZE) (s:Snd):Prop:=IsLt s.letter∧s.letter.frm=p∧YQ s.to∧s.to≠p.addr
def StayN (n:Nd) (r:Nd×List Snd):Prop:=IsNd r.1∧r.1.table.self=n.table.self∧(∀ s∈r.2,FairS n.table.self s)∧r.2.length≤1
theorem take_ign {n:Nd} {l:Lt} {r:Nd×List Snd×Int} (h:(l.kind=2∧(l.req≠n.findReq∨l.frm.addr≠n.findTo))∨(l.kind=4∧(l.req≠n.askReq∨l.frm.addr≠n.askTo))∨(l.kind=7∧(l.req≠n.pingReq∨l.frm.addr≠n.pingTo))∨l.frm.addr=n.table.self.addr) (hr:VP n l=r) (h0:r.2.2=0):r.1=n∧r.2.1=[]:=by
  subst hr
  by_cases h1:IsNd n∧IsLt l
  · by_cases hf:Xr n.table.self l.frm
    · rw [take_does h1.1 h1.2 hf]
      rcases h with ⟨k,h⟩|⟨k,h⟩|⟨k,h⟩|h
      · rw [does2 k,found_no (h.elim (fun q=>.inr (fun e=>q e.symm)) (fun q=>.inl (fun e=>q e.symm)))];exact ⟨rfl,rfl⟩
      · rw [does4 k,told_no (h.elim (fun q=>.inr (fun e=>q e.symm)) (fun q=>.inl (fun e=>q e.symm)))];exact ⟨rfl,rfl⟩
      · rw [does7n k (fun q=>h.elim (fun e=>e q.2.symm) (fun e=>e q.1.symm))];exact ⟨rfl,rfl⟩
      · exact absurd h hf.2.1
    · rw [take_not h1.1 h1.2 hf];exact ⟨rfl,rfl⟩
  · rw [WZ h1] at h0
    exact absurd h0 (by decide)
end Go.Esp
namespace Go.Proofs.YtajmnjefajknoaaGreat
open Go.Esp
end Go.Proofs.YtajmnjefajknoaaGreat
namespace Go.Proofs.YtajmnjefajknoaaGreat
open Go.Esp
theorem lawIgnores_ok (M:Mem) (n:ZP) (l:ZQ) (hn0:ZP.ok M n) (hl1:ZQ.ok M l):Esp.Fn Tryz.prog 5 [n.enc,l.enc] M (fun _ v=>v=.bool true):=by
  obtain ⟨⟨⟨Za,Zc⟩,⟨Zf,Zh⟩,⟨Zj,Zi,Zg⟩,⟨Ze,Zd,Zb⟩⟩,Zs,Zr,ZF,Zz,ZM,ZB,Zv,Zu,Zn,Zy,Zm,Zw,⟨Zp,Zo,Zl⟩,ZD,ZG⟩:=n
  obtain ⟨ZZ,⟨ZN,Yq⟩,YG,l_id,⟨Yc,Yb,ZO⟩,YB,⟨ZL,ZV⟩,⟨Ya,ZX,ZK⟩⟩:=l
  have Yk:ZT.ok M ⟨⟨Za,Zc⟩,⟨Zf,Zh⟩,⟨Zj,Zi,Zg⟩,⟨Ze,Zd,Zb⟩⟩:=hn0.h0
  have Xb:SlK M ZE.segs 21 ⟨Zj,Zi,Zg⟩:=hn0.h0.h0
  have s_n_table_succ:SlM M Zj (Zg.map ZE.segs) 21:=Xb.h1
  have n_n_table_succ:(Zg.map ZE.segs).length=Zg.length:=List.length_map ..
  have m_n_table_succ:Zg.length≤9223372036854775807:=Xb.h2
  have c_n_table_succ:Zg.length≤Zi:=Xb.h3
  have YN:SlK M ZE.segs 21 ⟨Ze,Zd,Zb⟩:=hn0.h0.h1
  have s_n_table_fingers:SlM M Ze (Zb.map ZE.segs) 21:=YN.h1
  have n_n_table_fingers:(Zb.map ZE.segs).length=Zb.length:=List.length_map ..
  have m_n_table_fingers:Zb.length≤9223372036854775807:=YN.h2
  have c_n_table_fingers:Zb.length≤Zd:=YN.h3
  have Yr:SlK M (oneI .i64) 1 ⟨Zp,Zo,Zl⟩:=hn0.h1
  have s_n_avoid:SlM M Zp (Zl.map (oneI .i64)) 1:=Yr.h1
  have n_n_avoid:(Zl.map (oneI .i64)).length=Zl.length:=List.length_map ..
  have m_n_avoid:Zl.length≤9223372036854775807:=Yr.h2
  have c_n_avoid:Zl.length≤Zo:=Yr.h3
  have Xm:SlK M (oneI .i64) 1 ⟨Yc,Yb,ZO⟩:=hl1.h0
  have s_l_avoid:SlM M Yc (ZO.map (oneI .i64)) 1:=Xm.h1
  have n_l_avoid:(ZO.map (oneI .i64)).length=ZO.length:=List.length_map ..
  have m_l_avoid:ZO.length≤9223372036854775807:=Xm.h2
  have c_l_avoid:ZO.length≤Yb:=Xm.h3
  have YX:SlK M ZE.segs 21 ⟨Ya,ZX,ZK⟩:=hl1.h1
  have XP:SlM M Ya (ZK.map ZE.segs) 21:=YX.h1
  have WI:(ZK.map ZE.segs).length=ZK.length:=List.length_map ..
  have m_l_peers:ZK.length≤9223372036854775807:=YX.h2
  have WJ:ZK.length≤ZX:=YX.h3
  obtain ⟨⟨T1,T2,T3⟩,hT⟩:∃ x,VP (ZP.nd ⟨⟨⟨Za,Zc⟩,⟨Zf,Zh⟩,⟨Zj,Zi,Zg⟩,⟨Ze,Zd,Zb⟩⟩,Zs,Zr,ZF,Zz,ZM,ZB,Zv,Zu,Zn,Zy,Zm,Zw,⟨Zp,Zo,Zl⟩,ZD,ZG⟩) (ZQ.lt ⟨ZZ,⟨ZN,Yq⟩,YG,l_id,⟨Yc,Yb,ZO⟩,YB,⟨ZL,ZV⟩,⟨Ya,ZX,ZK⟩⟩)=x:=⟨_,rfl⟩
  refine WU Tryz.func5 rfl Tryz.ntmps5 rfl ?_;intro H
  refine ZJ (Zq (l:=[0,1,2]) rfl ?_)
  refine Xk ?_;intro b1
  refine Xk ?_;intro b2
  refine ZC ?_;refine Zx (Zt (Y_pk [4,3,2] ?_))
  iterate 2 refine ZJ ?_
  refine Zq (l:=[0,1,2,3,4,5]) rfl ?_;refine ZI F.lay32 ?_;refine X_fs rfl rfl F.ok9 rfl (BigN_ok _ ⟨⟨⟨Za,Zc⟩,⟨Zf,Zh⟩,⟨Zj,Zi,Zg⟩,⟨Ze,Zd,Zb⟩⟩,Zs,Zr,ZF,Zz,ZM,ZB,Zv,Zu,Zn,Zy,Zm,Zw,⟨Zp,Zo,Zl⟩,ZD,ZG⟩ hn0) rfl ?_
  rintro _ ⟨bi,rfl,hbi⟩
  refine ZA ?_
  refine Yp 14 rfl (fun hc3=>?_) (fun hc3=>?_)
  ·skip
   iterate 2 refine Yh ?_
   refine ZS ?_;refine Zx (Zt (Y_pk [17,4,3,2] ?_));refine Xz rfl ?_;refine ZJ (Zq (l:=[0]) rfl ?_);refine ZC ?_;refine Zx (Zt (Y_pk [4,3,2] ?_));refine Yu (YY ?_)
   refine Yj (.inr rfl) (.tmp rfl .nil) (fun w hw=>?_)
   refine ⟨_,_,rfl,(by exact Mem.le.refl _),hw.c,?_⟩
   clear hw
   rfl
  ·skip
   refine ZI F.lay44 ?_;refine X_fs rfl rfl F.ok16 rfl (BigL_ok _ ⟨ZZ,⟨ZN,Yq⟩,YG,l_id,⟨Yc,Yb,ZO⟩,YB,⟨ZL,ZV⟩,⟨Ya,ZX,ZK⟩⟩ hl1) rfl ?_
   rintro _ ⟨bj,rfl,hbj⟩
   refine ZS ?_;refine Zx (Zt (Y_pk [17,4,3,2] ?_))
   refine YA rfl (fun hc4=>?_) (fun hc4=>?_)
   ·skip
    refine ZJ (Zq (l:=[0]) rfl ?_);refine ZC ?_;refine Zx (Zt (Y_pk [4,3,2] ?_));refine Yu (YY ?_)
    refine Yj (.inr rfl) (.tmp rfl .nil) (fun w hw=>?_)
    refine ⟨_,_,rfl,(by exact Mem.le.refl _),hw.c,?_⟩
    clear hw
    rfl
   ·skip
    refine Yz (Zt (Y_pk [4,3,2] ?_));refine ZJ ?_;refine C_cutX (α:=Bool) (fun b:Bool=>[(5,.bool b)]) (fun b:Bool=>(b=true↔(ZZ=2∧(YG≠Zm∨ZN≠Zy)))) (.cons (k:=4) rfl (.cons (k:=3) rfl (.cons (k:=2) rfl .nil))) ?_ ?_
    ·skip
     obtain ⟨⟨hb1,hb2⟩,hb3⟩:=hbi (by assumption)
     try simp only at hb1 hb2 hb3
     refine Zq (l:=[0,1,2,3,4,5,6,7,8,9,10,11,12,13,14,15,16,17,18]) rfl ?_;refine Zk F.foff44_0 ?_;refine ZI F.lay3 ?_;refine YC ?_;refine ZA ?_
     refine Yp 21 rfl (fun hc5=>?_) (fun hc5=>?_)
     ·replace hc5:=dT hc5
      refine Zk F.foff44_2 ?_;refine ZI F.lay29 ?_;refine Zk F.foff32_11 ?_;refine ZI F.lay29 ?_;refine YC ?_;refine ZA ?_
      refine Yp 27 rfl (fun hc6=>?_) (fun hc6=>?_)
      ·replace hc6:=nT hc6
       iterate 6 refine Yh ?_
       iterate 2 refine ZS ?_
       refine ZC ?_;refine Zx ?_
       exact WP (_) ((by constructor <;> intro h9 <;> first|omega|rfl|contradiction|(exfalso;omega)|(simp_all;done)|(simp_all;omega)|(simp only [decide_eq_true_eq] at h9 ⊢;omega))) (.cons (k:=5) rfl (.cons (k:=4) rfl (.cons (k:=3) rfl (.cons (k:=2) rfl .nil)))) (fun w hw=>by first|exact hw|exact hw.c)
      ·replace hc6:=nF hc6
       refine Zk F.foff44_1 ?_;refine Zk F.foff25_0 ?_;refine ZI F.lay3 ?_;refine Zk F.foff32_10 ?_;refine ZI F.lay3 ?_;refine YC ?_
       iterate 2 refine ZS ?_
       refine ZC ?_;refine Zx ?_
       exact WP (_) ((by constructor <;> intro h9 <;> first|omega|rfl|contradiction|(exfalso;omega)|(simp_all;done)|(simp_all;omega)|(simp only [decide_eq_true_eq] at h9 ⊢;omega))) (.cons (k:=5) rfl (.cons (k:=4) rfl (.cons (k:=3) rfl (.cons (k:=2) rfl .nil)))) (fun w hw=>by first|exact hw|exact hw.c)
     ·replace hc5:=dF hc5
      iterate 13 refine Yh ?_
      refine ZS ?_;refine ZC ?_;refine Zx ?_
      exact WP (_) ((by constructor <;> intro h9 <;> first|omega|rfl|contradiction|(exfalso;omega)|(simp_all;done)|(simp_all;omega)|(simp only [decide_eq_true_eq] at h9 ⊢;omega))) (.cons (k:=5) rfl (.cons (k:=4) rfl (.cons (k:=3) rfl (.cons (k:=2) rfl .nil)))) (fun w hw=>by first|exact hw|exact hw.c)
    ·rintro b5 hb5
     refine ZJ ?_;refine C_cutX (α:=Bool) (fun b:Bool=>[(6,.bool b)]) (fun b:Bool=>(b=true↔(ZZ=4∧(YG≠Zv∨ZN≠ZB)))) (.cons (k:=5) rfl (.cons (k:=4) rfl (.cons (k:=3) rfl (.cons (k:=2) rfl .nil)))) ?_ ?_
     ·skip
      refine Zq (l:=[0,1,2,3,4,5,6,7,8,9,10,11,12,13,14,15,16,17,18]) rfl ?_;refine Zk F.foff44_0 ?_;refine ZI F.lay3 ?_;refine YC ?_;refine ZA ?_
      refine Yp 39 rfl (fun hc7=>?_) (fun hc7=>?_)
      ·replace hc7:=dT hc7
       refine Zk F.foff44_2 ?_;refine ZI F.lay29 ?_;refine Zk F.foff32_7 ?_;refine ZI F.lay29 ?_;refine YC ?_;refine ZA ?_
       refine Yp 45 rfl (fun hc8=>?_) (fun hc8=>?_)
       ·replace hc8:=nT hc8
        iterate 6 refine Yh ?_
        iterate 2 refine ZS ?_
        refine ZC ?_;refine Zx ?_
        exact WP (_) ((by constructor <;> intro h9 <;> first|omega|rfl|contradiction|(exfalso;omega)|(simp_all;done)|(simp_all;omega)|(simp only [decide_eq_true_eq] at h9 ⊢;omega))) (.cons (k:=6) rfl (.cons (k:=5) rfl (.cons (k:=4) rfl (.cons (k:=3) rfl (.cons (k:=2) rfl .nil))))) (fun w hw=>by first|exact hw|exact hw.c)
       ·replace hc8:=nF hc8
        refine Zk F.foff44_1 ?_;refine Zk F.foff25_0 ?_;refine ZI F.lay3 ?_;refine Zk F.foff32_6 ?_;refine ZI F.lay3 ?_;refine YC ?_
        iterate 2 refine ZS ?_
        refine ZC ?_;refine Zx ?_
        exact WP (_) ((by constructor <;> intro h9 <;> first|omega|rfl|contradiction|(exfalso;omega)|(simp_all;done)|(simp_all;omega)|(simp only [decide_eq_true_eq] at h9 ⊢;omega))) (.cons (k:=6) rfl (.cons (k:=5) rfl (.cons (k:=4) rfl (.cons (k:=3) rfl (.cons (k:=2) rfl .nil))))) (fun w hw=>by first|exact hw|exact hw.c)
      ·replace hc7:=dF hc7
       iterate 13 refine Yh ?_
       refine ZS ?_;refine ZC ?_;refine Zx ?_
       exact WP (_) ((by constructor <;> intro h9 <;> first|omega|rfl|contradiction|(exfalso;omega)|(simp_all;done)|(simp_all;omega)|(simp only [decide_eq_true_eq] at h9 ⊢;omega))) (.cons (k:=6) rfl (.cons (k:=5) rfl (.cons (k:=4) rfl (.cons (k:=3) rfl (.cons (k:=2) rfl .nil))))) (fun w hw=>by first|exact hw|exact hw.c)
     ·rintro b6 hb6
      refine ZJ ?_;refine C_cutX (α:=Bool) (fun b:Bool=>[(7,.bool b)]) (fun b:Bool=>(b=true↔(ZZ=7∧(YG≠Zn∨ZN≠Zu)))) (.cons (k:=6) rfl (.cons (k:=5) rfl (.cons (k:=4) rfl (.cons (k:=3) rfl (.cons (k:=2) rfl .nil))))) ?_ ?_
      ·skip
       refine Zq (l:=[0,1,2,3,4,5,6,7,8,9,10,11,12,13,14,15,16,17,18]) rfl ?_;refine Zk F.foff44_0 ?_;refine ZI F.lay3 ?_;refine YC ?_;refine ZA ?_
       refine Yp 57 rfl (fun hc9=>?_) (fun hc9=>?_)
       ·replace hc9:=dT hc9
        refine Zk F.foff44_2 ?_;refine ZI F.lay29 ?_;refine Zk F.foff32_9 ?_;refine ZI F.lay29 ?_;refine YC ?_;refine ZA ?_
        refine Yp 63 rfl (fun hc10=>?_) (fun hc10=>?_)
        ·replace hc10:=nT hc10
         iterate 6 refine Yh ?_
         iterate 2 refine ZS ?_
         refine ZC ?_;refine Zx ?_
         exact WP (_) ((by constructor <;> intro h9 <;> first|omega|rfl|contradiction|(exfalso;omega)|(simp_all;done)|(simp_all;omega)|(simp only [decide_eq_true_eq] at h9 ⊢;omega))) (.cons (k:=7) rfl (.cons (k:=6) rfl (.cons (k:=5) rfl (.cons (k:=4) rfl (.cons (k:=3) rfl (.cons (k:=2) rfl .nil)))))) (fun w hw=>by first|exact hw|exact hw.c)
        ·replace hc10:=nF hc10
         refine Zk F.foff44_1 ?_;refine Zk F.foff25_0 ?_;refine ZI F.lay3 ?_;refine Zk F.foff32_8 ?_;refine ZI F.lay3 ?_;refine YC ?_
         iterate 2 refine ZS ?_
         refine ZC ?_;refine Zx ?_
         exact WP (_) ((by constructor <;> intro h9 <;> first|omega|rfl|contradiction|(exfalso;omega)|(simp_all;done)|(simp_all;omega)|(simp only [decide_eq_true_eq] at h9 ⊢;omega))) (.cons (k:=7) rfl (.cons (k:=6) rfl (.cons (k:=5) rfl (.cons (k:=4) rfl (.cons (k:=3) rfl (.cons (k:=2) rfl .nil)))))) (fun w hw=>by first|exact hw|exact hw.c)
       ·replace hc9:=dF hc9
        iterate 13 refine Yh ?_
        refine ZS ?_;refine ZC ?_;refine Zx ?_
        exact WP (_) ((by constructor <;> intro h9 <;> first|omega|rfl|contradiction|(exfalso;omega)|(simp_all;done)|(simp_all;omega)|(simp only [decide_eq_true_eq] at h9 ⊢;omega))) (.cons (k:=7) rfl (.cons (k:=6) rfl (.cons (k:=5) rfl (.cons (k:=4) rfl (.cons (k:=3) rfl (.cons (k:=2) rfl .nil)))))) (fun w hw=>by first|exact hw|exact hw.c)
      ·rintro b7 hb7
       refine ZJ (Zq (l:=[0,1,2,3,4,5,6,7,8]) rfl ?_);refine Zk F.foff44_1 ?_;refine Zk F.foff25_0 ?_;refine ZI F.lay3 ?_;refine Zk F.foff32_0 ?_;refine Zk F.foff28_0 ?_;refine Zk F.foff25_0 ?_;refine ZI F.lay3 ?_;refine YC ?_;refine ZC ?_;refine Zx (Zt (Y_pk [8,7,6,5,4,3,2] ?_))
       iterate 2 refine ZJ ?_
       refine Zq (l:=[0,1,2,3,4,5,6,7,8,9,10,11,12,13]) rfl ?_;refine ZA ?_;refine XA ?_;refine ZA ?_
       refine Yp 82 rfl (fun hc11=>?_) (fun hc11=>?_)
       ·skip
        refine ZA ?_;refine XA ?_;refine ZS ?_;refine ZA ?_
        refine Yp 86 rfl (fun hc12=>?_) (fun hc12=>?_)
        ·skip
         refine ZA ?_;refine XA ?_;refine ZS ?_;refine ZA ?_
         refine Yp 90 rfl (fun hc13=>?_) (fun hc13=>?_)
         ·skip
          refine ZA ?_;refine XA ?_;refine ZS ?_;refine Zx (Zt (Y_pk [93,4,3,2] ?_))
          refine YA rfl (fun hc14=>?_) (fun hc14=>?_)
          ·replace hc14:=nT hc14
           refine ZJ (Zq (l:=[0,1]) rfl ?_);refine X_fn rfl rfl F.ok13 rfl (noded_ok _) rfl ?_
           rintro _ M99 hm99 rfl
           refine ZC ?_;refine Zx (Zt (Y_pk [4,3,2] ?_));refine Yu (YY ?_)
           refine Yj (.inr rfl) (.tmp rfl .nil) (fun w hw=>?_)
           refine ⟨_,_,rfl,(by assumption),hw.c,?_⟩
           clear hw
           rfl
          ·replace hc14:=nF hc14
           refine Yz (Zt (Y_pk [4,3,2] ?_));refine ZJ ?_
           have hz:T3=0→T1=(ZP.nd ⟨⟨⟨Za,Zc⟩,⟨Zf,Zh⟩,⟨Zj,Zi,Zg⟩,⟨Ze,Zd,Zb⟩⟩,Zs,Zr,ZF,Zz,ZM,ZB,Zv,Zu,Zn,Zy,Zm,Zw,⟨Zp,Zo,Zl⟩,ZD,ZG⟩)∧T2=[]:=fun h0=>take_ign (n:=(ZP.nd ⟨⟨⟨Za,Zc⟩,⟨Zf,Zh⟩,⟨Zj,Zi,Zg⟩,⟨Ze,Zd,Zb⟩⟩,Zs,Zr,ZF,Zz,ZM,ZB,Zv,Zu,Zn,Zy,Zm,Zw,⟨Zp,Zo,Zl⟩,ZD,ZG⟩)) (l:=(ZQ.lt ⟨ZZ,⟨ZN,Yq⟩,YG,l_id,⟨Yc,Yb,ZO⟩,YB,⟨ZL,ZV⟩,⟨Ya,ZX,ZK⟩⟩)) (show (ZZ=2∧(YG≠Zm∨ZN≠Zy))∨(ZZ=4∧(YG≠Zv∨ZN≠ZB))∨(ZZ=7∧(YG≠Zn∨ZN≠Zu))∨ZN=Za by first|(simp_all;done)|(by_cases g1:b5=true;exact .inl (hb5.1 g1);by_cases g2:b6=true;exact .inr (.inl (hb6.1 g2));by_cases g3:b7=true;exact .inr (.inr (.inl (hb7.1 g3)));(simp_all;done))) hT h0
           refine Zq (l:=[0,1,2,3,4,5,6,7,8,9,10]) rfl ?_;refine ZI F.lay32 ?_;refine ZI F.lay44 ?_;refine X_fn rfl rfl F.ok17 rfl (Take_ok _ ⟨⟨⟨Za,Zc⟩,⟨Zf,Zh⟩,⟨Zj,Zi,Zg⟩,⟨Ze,Zd,Zb⟩⟩,Zs,Zr,ZF,Zz,ZM,ZB,Zv,Zu,Zn,Zy,Zm,Zw,⟨Zp,Zo,Zl⟩,ZD,ZG⟩ ⟨ZZ,⟨ZN,Yq⟩,YG,l_id,⟨Yc,Yb,ZO⟩,YB,⟨ZL,ZV⟩,⟨Ya,ZX,ZK⟩⟩ (hn0.mono (by exact Mem.le.refl _)) (hl1.mono (by exact Mem.le.refl _))) rfl ?_
           rintro _ M1 hm1 hv
           rw [hT] at hv
           simp only [NtE] at hv
           obtain ⟨⟨⟨⟨Xo,XH⟩,⟨Xp,XI⟩,⟨XC,XB,Xj⟩,⟨Xi,Xh,Xd⟩⟩,Vj,Vf,VO,Vi,Ub,Vz,WV,Ve,WK,Vg,WL,Vh,⟨Wx,Ww,Wj⟩,VN,VM⟩,⟨a_a,a_c,a_l⟩,rfl,ea,sa,oka,ka,la⟩:=hv
           try simp only at ea sa ka la
           refine ZA ?_
           iterate 3 refine XF ?_
           refine YW F.zero32 ?_;intro b15
           refine XW F.lay32 ?_
           iterate 2 refine ZC ?_
           refine Zx (Zt (Y_pk [11,10,9,4,2] ?_));refine ZJ (Zq (l:=[0,1,2,3,4,5,6,7,8,9,10,11,12,13,14,15]) rfl ?_);refine X_fn rfl rfl F.ok13 rfl (noded_ok _) rfl ?_
           rintro _ M99 hm99 rfl
           refine ZA ?_
           refine Yp 103 rfl (fun hc16=>?_) (fun hc16=>?_)
           ·skip
            simp only [ZE.eta,ZT.eta,ZP.eta,ZQ.eta,Yw.eta,ZR.eta,YM.eta,ZY.eta] at hc16
            refine ZA ?_;refine YC ?_;refine ZA ?_
            refine Yp 106 rfl (fun hc17=>?_) (fun hc17=>?_)
            ·replace hc17:=nT hc17
             iterate 8 refine Yh ?_
             iterate 2 refine ZS ?_
             refine ZC ?_;refine Zx (Zt (Y_pk [4] ?_));refine Yu ?_
             refine Yj (.inr rfl) (.tmp rfl .nil) (fun w hw=>?_)
             refine ⟨_,_,rfl,(by exact hm1.trans hm99),hw.c,?_⟩
             clear hw
             rfl
            ·replace hc17:=nF hc17
             iterate 2 refine ZI F.lay32 ?_
             refine X_fs rfl rfl F.ok14 rfl (SameN_ok _ ⟨⟨⟨Xo,XH⟩,⟨Xp,XI⟩,⟨XC,XB,Xj⟩,⟨Xi,Xh,Xd⟩⟩,Vj,Vf,VO,Vi,Ub,Vz,WV,Ve,WK,Vg,WL,Vh,⟨Wx,Ww,Wj⟩,VN,VM⟩ ⟨⟨⟨Za,Zc⟩,⟨Zf,Zh⟩,⟨Zj,Zi,Zg⟩,⟨Ze,Zd,Zb⟩⟩,Zs,Zr,ZF,Zz,ZM,ZB,Zv,Zu,Zn,Zy,Zm,Zw,⟨Zp,Zo,Zl⟩,ZD,ZG⟩ (oka.mono (by assumption)) (hn0.mono (by (repeat first|assumption|refine Mem.le.trans (by assumption) ?_)))) rfl ?_
             rintro _ hv
             obtain ⟨hz1,hz2⟩:=hz (by assumption)
             rw [decide_eq_true (show ZP.nd ⟨⟨⟨Xo,XH⟩,⟨Xp,XI⟩,⟨XC,XB,Xj⟩,⟨Xi,Xh,Xd⟩⟩,Vj,Vf,VO,Vi,Ub,Vz,WV,Ve,WK,Vg,WL,Vh,⟨Wx,Ww,Wj⟩,VN,VM⟩=ZP.nd ⟨⟨⟨Za,Zc⟩,⟨Zf,Zh⟩,⟨Zj,Zi,Zg⟩,⟨Ze,Zd,Zb⟩⟩,Zs,Zr,ZF,Zz,ZM,ZB,Zv,Zu,Zn,Zy,Zm,Zw,⟨Zp,Zo,Zl⟩,ZD,ZG⟩ from ea.trans hz1)] at hv
             subst hv
             have hla:a_l.length=0:=by rw [← sndl_len,sa,hz2];rfl
             refine ZA ?_
             refine Yp 110 rfl (fun hc18=>?_) (fun hc18=>?_)
             ·skip
              simp only [ZE.eta,ZT.eta,ZP.eta,ZQ.eta,Yw.eta,ZR.eta,YM.eta,ZY.eta] at hc18
              refine ZA ?_;refine YZ F.elem35 ?_;refine YC ?_
              iterate 3 refine ZS ?_
              refine ZC ?_;refine Zx (Zt (Y_pk [4] ?_));refine Yu ?_
              refine Yj (.inr rfl) (.tmp rfl .nil) (fun w hw=>?_)
              refine ⟨_,_,rfl,(by exact hm1.trans hm99),hw.c,?_⟩
              clear hw
              exact congrArg Value.bool (decide_eq_true (by omega))
             ·skip
              (exfalso;simp [eqX] at hc18;done)
           ·skip
            (exfalso;simp [eqX] at hc16;done)
         ·skip
          iterate 2 refine Yh ?_
          refine ZS ?_;refine Zx (Zt (Y_pk [93,4,3,2] ?_));refine Wq rfl ?_;refine Yz (Zt (Y_pk [4,3,2] ?_));refine ZJ ?_
          have hz:T3=0→T1=(ZP.nd ⟨⟨⟨Za,Zc⟩,⟨Zf,Zh⟩,⟨Zj,Zi,Zg⟩,⟨Ze,Zd,Zb⟩⟩,Zs,Zr,ZF,Zz,ZM,ZB,Zv,Zu,Zn,Zy,Zm,Zw,⟨Zp,Zo,Zl⟩,ZD,ZG⟩)∧T2=[]:=fun h0=>take_ign (n:=(ZP.nd ⟨⟨⟨Za,Zc⟩,⟨Zf,Zh⟩,⟨Zj,Zi,Zg⟩,⟨Ze,Zd,Zb⟩⟩,Zs,Zr,ZF,Zz,ZM,ZB,Zv,Zu,Zn,Zy,Zm,Zw,⟨Zp,Zo,Zl⟩,ZD,ZG⟩)) (l:=(ZQ.lt ⟨ZZ,⟨ZN,Yq⟩,YG,l_id,⟨Yc,Yb,ZO⟩,YB,⟨ZL,ZV⟩,⟨Ya,ZX,ZK⟩⟩)) (show (ZZ=2∧(YG≠Zm∨ZN≠Zy))∨(ZZ=4∧(YG≠Zv∨ZN≠ZB))∨(ZZ=7∧(YG≠Zn∨ZN≠Zu))∨ZN=Za by first|(simp_all;done)|(by_cases g1:b5=true;exact .inl (hb5.1 g1);by_cases g2:b6=true;exact .inr (.inl (hb6.1 g2));by_cases g3:b7=true;exact .inr (.inr (.inl (hb7.1 g3)));(simp_all;done))) hT h0
          refine Zq (l:=[0,1,2,3,4,5,6,7,8,9,10]) rfl ?_;refine ZI F.lay32 ?_;refine ZI F.lay44 ?_;refine X_fn rfl rfl F.ok17 rfl (Take_ok _ ⟨⟨⟨Za,Zc⟩,⟨Zf,Zh⟩,⟨Zj,Zi,Zg⟩,⟨Ze,Zd,Zb⟩⟩,Zs,Zr,ZF,Zz,ZM,ZB,Zv,Zu,Zn,Zy,Zm,Zw,⟨Zp,Zo,Zl⟩,ZD,ZG⟩ ⟨ZZ,⟨ZN,Yq⟩,YG,l_id,⟨Yc,Yb,ZO⟩,YB,⟨ZL,ZV⟩,⟨Ya,ZX,ZK⟩⟩ (hn0.mono (by exact Mem.le.refl _)) (hl1.mono (by exact Mem.le.refl _))) rfl ?_
          rintro _ M1 hm1 hv
          rw [hT] at hv
          simp only [NtE] at hv
          obtain ⟨⟨⟨⟨Xo,XH⟩,⟨Xp,XI⟩,⟨XC,XB,Xj⟩,⟨Xi,Xh,Xd⟩⟩,Vj,Vf,VO,Vi,Ub,Vz,WV,Ve,WK,Vg,WL,Vh,⟨Wx,Ww,Wj⟩,VN,VM⟩,⟨a_a,a_c,a_l⟩,rfl,ea,sa,oka,ka,la⟩:=hv
          try simp only at ea sa ka la
          refine ZA ?_
          iterate 3 refine XF ?_
          refine YW F.zero32 ?_;intro b19
          refine XW F.lay32 ?_
          iterate 2 refine ZC ?_
          refine Zx (Zt (Y_pk [11,10,9,4,2] ?_));refine ZJ (Zq (l:=[0,1,2,3,4,5,6,7,8,9,10,11,12,13,14,15]) rfl ?_);refine X_fn rfl rfl F.ok13 rfl (noded_ok _) rfl ?_
          rintro _ M99 hm99 rfl
          refine ZA ?_
          refine Yp 103 rfl (fun hc20=>?_) (fun hc20=>?_)
          ·skip
           simp only [ZE.eta,ZT.eta,ZP.eta,ZQ.eta,Yw.eta,ZR.eta,YM.eta,ZY.eta] at hc20
           refine ZA ?_;refine YC ?_;refine ZA ?_
           refine Yp 106 rfl (fun hc21=>?_) (fun hc21=>?_)
           ·replace hc21:=nT hc21
            iterate 8 refine Yh ?_
            iterate 2 refine ZS ?_
            refine ZC ?_;refine Zx (Zt (Y_pk [4] ?_));refine Yu ?_
            refine Yj (.inr rfl) (.tmp rfl .nil) (fun w hw=>?_)
            refine ⟨_,_,rfl,(by exact hm1.trans hm99),hw.c,?_⟩
            clear hw
            rfl
           ·replace hc21:=nF hc21
            iterate 2 refine ZI F.lay32 ?_
            refine X_fs rfl rfl F.ok14 rfl (SameN_ok _ ⟨⟨⟨Xo,XH⟩,⟨Xp,XI⟩,⟨XC,XB,Xj⟩,⟨Xi,Xh,Xd⟩⟩,Vj,Vf,VO,Vi,Ub,Vz,WV,Ve,WK,Vg,WL,Vh,⟨Wx,Ww,Wj⟩,VN,VM⟩ ⟨⟨⟨Za,Zc⟩,⟨Zf,Zh⟩,⟨Zj,Zi,Zg⟩,⟨Ze,Zd,Zb⟩⟩,Zs,Zr,ZF,Zz,ZM,ZB,Zv,Zu,Zn,Zy,Zm,Zw,⟨Zp,Zo,Zl⟩,ZD,ZG⟩ (oka.mono (by assumption)) (hn0.mono (by (repeat first|assumption|refine Mem.le.trans (by assumption) ?_)))) rfl ?_
            rintro _ hv
            obtain ⟨hz1,hz2⟩:=hz (by assumption)
            rw [decide_eq_true (show ZP.nd ⟨⟨⟨Xo,XH⟩,⟨Xp,XI⟩,⟨XC,XB,Xj⟩,⟨Xi,Xh,Xd⟩⟩,Vj,Vf,VO,Vi,Ub,Vz,WV,Ve,WK,Vg,WL,Vh,⟨Wx,Ww,Wj⟩,VN,VM⟩=ZP.nd ⟨⟨⟨Za,Zc⟩,⟨Zf,Zh⟩,⟨Zj,Zi,Zg⟩,⟨Ze,Zd,Zb⟩⟩,Zs,Zr,ZF,Zz,ZM,ZB,Zv,Zu,Zn,Zy,Zm,Zw,⟨Zp,Zo,Zl⟩,ZD,ZG⟩ from ea.trans hz1)] at hv
            subst hv
            have hla:a_l.length=0:=by rw [← sndl_len,sa,hz2];rfl
            refine ZA ?_
            refine Yp 110 rfl (fun hc22=>?_) (fun hc22=>?_)
            ·skip
             simp only [ZE.eta,ZT.eta,ZP.eta,ZQ.eta,Yw.eta,ZR.eta,YM.eta,ZY.eta] at hc22
             refine ZA ?_;refine YZ F.elem35 ?_;refine YC ?_
             iterate 3 refine ZS ?_
             refine ZC ?_;refine Zx (Zt (Y_pk [4] ?_));refine Yu ?_
             refine Yj (.inr rfl) (.tmp rfl .nil) (fun w hw=>?_)
             refine ⟨_,_,rfl,(by exact hm1.trans hm99),hw.c,?_⟩
             clear hw
             exact congrArg Value.bool (decide_eq_true (by omega))
            ·skip
             (exfalso;simp [eqX] at hc22;done)
          ·skip
           (exfalso;simp [eqX] at hc20;done)
        ·skip
         iterate 2 refine Yh ?_
         refine ZS ?_;refine ZA ?_
         iterate 2 refine Yh ?_
         refine ZS ?_;refine Zx (Zt (Y_pk [93,4,3,2] ?_));refine Wq rfl ?_;refine Yz (Zt (Y_pk [4,3,2] ?_));refine ZJ ?_
         have hz:T3=0→T1=(ZP.nd ⟨⟨⟨Za,Zc⟩,⟨Zf,Zh⟩,⟨Zj,Zi,Zg⟩,⟨Ze,Zd,Zb⟩⟩,Zs,Zr,ZF,Zz,ZM,ZB,Zv,Zu,Zn,Zy,Zm,Zw,⟨Zp,Zo,Zl⟩,ZD,ZG⟩)∧T2=[]:=fun h0=>take_ign (n:=(ZP.nd ⟨⟨⟨Za,Zc⟩,⟨Zf,Zh⟩,⟨Zj,Zi,Zg⟩,⟨Ze,Zd,Zb⟩⟩,Zs,Zr,ZF,Zz,ZM,ZB,Zv,Zu,Zn,Zy,Zm,Zw,⟨Zp,Zo,Zl⟩,ZD,ZG⟩)) (l:=(ZQ.lt ⟨ZZ,⟨ZN,Yq⟩,YG,l_id,⟨Yc,Yb,ZO⟩,YB,⟨ZL,ZV⟩,⟨Ya,ZX,ZK⟩⟩)) (show (ZZ=2∧(YG≠Zm∨ZN≠Zy))∨(ZZ=4∧(YG≠Zv∨ZN≠ZB))∨(ZZ=7∧(YG≠Zn∨ZN≠Zu))∨ZN=Za by first|(simp_all;done)|(by_cases g1:b5=true;exact .inl (hb5.1 g1);by_cases g2:b6=true;exact .inr (.inl (hb6.1 g2));by_cases g3:b7=true;exact .inr (.inr (.inl (hb7.1 g3)));(simp_all;done))) hT h0
         refine Zq (l:=[0,1,2,3,4,5,6,7,8,9,10]) rfl ?_;refine ZI F.lay32 ?_;refine ZI F.lay44 ?_;refine X_fn rfl rfl F.ok17 rfl (Take_ok _ ⟨⟨⟨Za,Zc⟩,⟨Zf,Zh⟩,⟨Zj,Zi,Zg⟩,⟨Ze,Zd,Zb⟩⟩,Zs,Zr,ZF,Zz,ZM,ZB,Zv,Zu,Zn,Zy,Zm,Zw,⟨Zp,Zo,Zl⟩,ZD,ZG⟩ ⟨ZZ,⟨ZN,Yq⟩,YG,l_id,⟨Yc,Yb,ZO⟩,YB,⟨ZL,ZV⟩,⟨Ya,ZX,ZK⟩⟩ (hn0.mono (by exact Mem.le.refl _)) (hl1.mono (by exact Mem.le.refl _))) rfl ?_
         rintro _ M1 hm1 hv
         rw [hT] at hv
         simp only [NtE] at hv
         obtain ⟨⟨⟨⟨Xo,XH⟩,⟨Xp,XI⟩,⟨XC,XB,Xj⟩,⟨Xi,Xh,Xd⟩⟩,Vj,Vf,VO,Vi,Ub,Vz,WV,Ve,WK,Vg,WL,Vh,⟨Wx,Ww,Wj⟩,VN,VM⟩,⟨a_a,a_c,a_l⟩,rfl,ea,sa,oka,ka,la⟩:=hv
         try simp only at ea sa ka la
         refine ZA ?_
         iterate 3 refine XF ?_
         refine YW F.zero32 ?_;intro b23
         refine XW F.lay32 ?_
         iterate 2 refine ZC ?_
         refine Zx (Zt (Y_pk [11,10,9,4,2] ?_));refine ZJ (Zq (l:=[0,1,2,3,4,5,6,7,8,9,10,11,12,13,14,15]) rfl ?_);refine X_fn rfl rfl F.ok13 rfl (noded_ok _) rfl ?_
         rintro _ M99 hm99 rfl
         refine ZA ?_
         refine Yp 103 rfl (fun hc24=>?_) (fun hc24=>?_)
         ·skip
          simp only [ZE.eta,ZT.eta,ZP.eta,ZQ.eta,Yw.eta,ZR.eta,YM.eta,ZY.eta] at hc24
          refine ZA ?_;refine YC ?_;refine ZA ?_
          refine Yp 106 rfl (fun hc25=>?_) (fun hc25=>?_)
          ·replace hc25:=nT hc25
           iterate 8 refine Yh ?_
           iterate 2 refine ZS ?_
           refine ZC ?_;refine Zx (Zt (Y_pk [4] ?_));refine Yu ?_
           refine Yj (.inr rfl) (.tmp rfl .nil) (fun w hw=>?_)
           refine ⟨_,_,rfl,(by exact hm1.trans hm99),hw.c,?_⟩
           clear hw
           rfl
          ·replace hc25:=nF hc25
           iterate 2 refine ZI F.lay32 ?_
           refine X_fs rfl rfl F.ok14 rfl (SameN_ok _ ⟨⟨⟨Xo,XH⟩,⟨Xp,XI⟩,⟨XC,XB,Xj⟩,⟨Xi,Xh,Xd⟩⟩,Vj,Vf,VO,Vi,Ub,Vz,WV,Ve,WK,Vg,WL,Vh,⟨Wx,Ww,Wj⟩,VN,VM⟩ ⟨⟨⟨Za,Zc⟩,⟨Zf,Zh⟩,⟨Zj,Zi,Zg⟩,⟨Ze,Zd,Zb⟩⟩,Zs,Zr,ZF,Zz,ZM,ZB,Zv,Zu,Zn,Zy,Zm,Zw,⟨Zp,Zo,Zl⟩,ZD,ZG⟩ (oka.mono (by assumption)) (hn0.mono (by (repeat first|assumption|refine Mem.le.trans (by assumption) ?_)))) rfl ?_
           rintro _ hv
           obtain ⟨hz1,hz2⟩:=hz (by assumption)
           rw [decide_eq_true (show ZP.nd ⟨⟨⟨Xo,XH⟩,⟨Xp,XI⟩,⟨XC,XB,Xj⟩,⟨Xi,Xh,Xd⟩⟩,Vj,Vf,VO,Vi,Ub,Vz,WV,Ve,WK,Vg,WL,Vh,⟨Wx,Ww,Wj⟩,VN,VM⟩=ZP.nd ⟨⟨⟨Za,Zc⟩,⟨Zf,Zh⟩,⟨Zj,Zi,Zg⟩,⟨Ze,Zd,Zb⟩⟩,Zs,Zr,ZF,Zz,ZM,ZB,Zv,Zu,Zn,Zy,Zm,Zw,⟨Zp,Zo,Zl⟩,ZD,ZG⟩ from ea.trans hz1)] at hv
           subst hv
           have hla:a_l.length=0:=by rw [← sndl_len,sa,hz2];rfl
           refine ZA ?_
           refine Yp 110 rfl (fun hc26=>?_) (fun hc26=>?_)
           ·skip
            simp only [ZE.eta,ZT.eta,ZP.eta,ZQ.eta,Yw.eta,ZR.eta,YM.eta,ZY.eta] at hc26
            refine ZA ?_;refine YZ F.elem35 ?_;refine YC ?_
            iterate 3 refine ZS ?_
            refine ZC ?_;refine Zx (Zt (Y_pk [4] ?_));refine Yu ?_
            refine Yj (.inr rfl) (.tmp rfl .nil) (fun w hw=>?_)
            refine ⟨_,_,rfl,(by exact hm1.trans hm99),hw.c,?_⟩
            clear hw
            exact congrArg Value.bool (decide_eq_true (by omega))
           ·skip
            (exfalso;simp [eqX] at hc26;done)
         ·skip
          (exfalso;simp [eqX] at hc24;done)
       ·skip
        iterate 2 refine Yh ?_
        refine ZS ?_;refine ZA ?_
        iterate 2 refine Yh ?_
        refine ZS ?_;refine ZA ?_
        iterate 2 refine Yh ?_
        refine ZS ?_;refine Zx (Zt (Y_pk [93,4,3,2] ?_));refine Wq rfl ?_;refine Yz (Zt (Y_pk [4,3,2] ?_));refine ZJ ?_
        have hz:T3=0→T1=(ZP.nd ⟨⟨⟨Za,Zc⟩,⟨Zf,Zh⟩,⟨Zj,Zi,Zg⟩,⟨Ze,Zd,Zb⟩⟩,Zs,Zr,ZF,Zz,ZM,ZB,Zv,Zu,Zn,Zy,Zm,Zw,⟨Zp,Zo,Zl⟩,ZD,ZG⟩)∧T2=[]:=fun h0=>take_ign (n:=(ZP.nd ⟨⟨⟨Za,Zc⟩,⟨Zf,Zh⟩,⟨Zj,Zi,Zg⟩,⟨Ze,Zd,Zb⟩⟩,Zs,Zr,ZF,Zz,ZM,ZB,Zv,Zu,Zn,Zy,Zm,Zw,⟨Zp,Zo,Zl⟩,ZD,ZG⟩)) (l:=(ZQ.lt ⟨ZZ,⟨ZN,Yq⟩,YG,l_id,⟨Yc,Yb,ZO⟩,YB,⟨ZL,ZV⟩,⟨Ya,ZX,ZK⟩⟩)) (show (ZZ=2∧(YG≠Zm∨ZN≠Zy))∨(ZZ=4∧(YG≠Zv∨ZN≠ZB))∨(ZZ=7∧(YG≠Zn∨ZN≠Zu))∨ZN=Za by first|(simp_all;done)|(by_cases g1:b5=true;exact .inl (hb5.1 g1);by_cases g2:b6=true;exact .inr (.inl (hb6.1 g2));by_cases g3:b7=true;exact .inr (.inr (.inl (hb7.1 g3)));(simp_all;done))) hT h0
        refine Zq (l:=[0,1,2,3,4,5,6,7,8,9,10]) rfl ?_;refine ZI F.lay32 ?_;refine ZI F.lay44 ?_;refine X_fn rfl rfl F.ok17 rfl (Take_ok _ ⟨⟨⟨Za,Zc⟩,⟨Zf,Zh⟩,⟨Zj,Zi,Zg⟩,⟨Ze,Zd,Zb⟩⟩,Zs,Zr,ZF,Zz,ZM,ZB,Zv,Zu,Zn,Zy,Zm,Zw,⟨Zp,Zo,Zl⟩,ZD,ZG⟩ ⟨ZZ,⟨ZN,Yq⟩,YG,l_id,⟨Yc,Yb,ZO⟩,YB,⟨ZL,ZV⟩,⟨Ya,ZX,ZK⟩⟩ (hn0.mono (by exact Mem.le.refl _)) (hl1.mono (by exact Mem.le.refl _))) rfl ?_
        rintro _ M1 hm1 hv
        rw [hT] at hv
        simp only [NtE] at hv
        obtain ⟨⟨⟨⟨Xo,XH⟩,⟨Xp,XI⟩,⟨XC,XB,Xj⟩,⟨Xi,Xh,Xd⟩⟩,Vj,Vf,VO,Vi,Ub,Vz,WV,Ve,WK,Vg,WL,Vh,⟨Wx,Ww,Wj⟩,VN,VM⟩,⟨a_a,a_c,a_l⟩,rfl,ea,sa,oka,ka,la⟩:=hv
        try simp only at ea sa ka la
        refine ZA ?_
        iterate 3 refine XF ?_
        refine YW F.zero32 ?_;intro b27
        refine XW F.lay32 ?_
        iterate 2 refine ZC ?_
        refine Zx (Zt (Y_pk [11,10,9,4,2] ?_));refine ZJ (Zq (l:=[0,1,2,3,4,5,6,7,8,9,10,11,12,13,14,15]) rfl ?_);refine X_fn rfl rfl F.ok13 rfl (noded_ok _) rfl ?_
        rintro _ M99 hm99 rfl
        refine ZA ?_
        refine Yp 103 rfl (fun hc28=>?_) (fun hc28=>?_)
        ·skip
         simp only [ZE.eta,ZT.eta,ZP.eta,ZQ.eta,Yw.eta,ZR.eta,YM.eta,ZY.eta] at hc28
         refine ZA ?_;refine YC ?_;refine ZA ?_
         refine Yp 106 rfl (fun hc29=>?_) (fun hc29=>?_)
         ·replace hc29:=nT hc29
          iterate 8 refine Yh ?_
          iterate 2 refine ZS ?_
          refine ZC ?_;refine Zx (Zt (Y_pk [4] ?_));refine Yu ?_
          refine Yj (.inr rfl) (.tmp rfl .nil) (fun w hw=>?_)
          refine ⟨_,_,rfl,(by exact hm1.trans hm99),hw.c,?_⟩
          clear hw
          rfl
         ·replace hc29:=nF hc29
          iterate 2 refine ZI F.lay32 ?_
          refine X_fs rfl rfl F.ok14 rfl (SameN_ok _ ⟨⟨⟨Xo,XH⟩,⟨Xp,XI⟩,⟨XC,XB,Xj⟩,⟨Xi,Xh,Xd⟩⟩,Vj,Vf,VO,Vi,Ub,Vz,WV,Ve,WK,Vg,WL,Vh,⟨Wx,Ww,Wj⟩,VN,VM⟩ ⟨⟨⟨Za,Zc⟩,⟨Zf,Zh⟩,⟨Zj,Zi,Zg⟩,⟨Ze,Zd,Zb⟩⟩,Zs,Zr,ZF,Zz,ZM,ZB,Zv,Zu,Zn,Zy,Zm,Zw,⟨Zp,Zo,Zl⟩,ZD,ZG⟩ (oka.mono (by assumption)) (hn0.mono (by (repeat first|assumption|refine Mem.le.trans (by assumption) ?_)))) rfl ?_
          rintro _ hv
          obtain ⟨hz1,hz2⟩:=hz (by assumption)
          rw [decide_eq_true (show ZP.nd ⟨⟨⟨Xo,XH⟩,⟨Xp,XI⟩,⟨XC,XB,Xj⟩,⟨Xi,Xh,Xd⟩⟩,Vj,Vf,VO,Vi,Ub,Vz,WV,Ve,WK,Vg,WL,Vh,⟨Wx,Ww,Wj⟩,VN,VM⟩=ZP.nd ⟨⟨⟨Za,Zc⟩,⟨Zf,Zh⟩,⟨Zj,Zi,Zg⟩,⟨Ze,Zd,Zb⟩⟩,Zs,Zr,ZF,Zz,ZM,ZB,Zv,Zu,Zn,Zy,Zm,Zw,⟨Zp,Zo,Zl⟩,ZD,ZG⟩ from ea.trans hz1)] at hv
          subst hv
          have hla:a_l.length=0:=by rw [← sndl_len,sa,hz2];rfl
          refine ZA ?_
          refine Yp 110 rfl (fun hc30=>?_) (fun hc30=>?_)
          ·skip
           simp only [ZE.eta,ZT.eta,ZP.eta,ZQ.eta,Yw.eta,ZR.eta,YM.eta,ZY.eta] at hc30
           refine ZA ?_;refine YZ F.elem35 ?_;refine YC ?_
           iterate 3 refine ZS ?_
           refine ZC ?_;refine Zx (Zt (Y_pk [4] ?_));refine Yu ?_
           refine Yj (.inr rfl) (.tmp rfl .nil) (fun w hw=>?_)
           refine ⟨_,_,rfl,(by exact hm1.trans hm99),hw.c,?_⟩
           clear hw
           exact congrArg Value.bool (decide_eq_true (by omega))
          ·skip
           (exfalso;simp [eqX] at hc30;done)
        ·skip
         (exfalso;simp [eqX] at hc28;done)
end Go.Proofs.YtajmnjefajknoaaGreat
