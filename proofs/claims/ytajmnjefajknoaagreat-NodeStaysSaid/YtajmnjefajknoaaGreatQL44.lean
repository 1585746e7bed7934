/-
  Texts of this claim, one behind the other: E8, E9, InsL, E10, E11, E12, E13, E14, TableX, NodeX, F1, F2, F3, TableN, NodeL, F4.
-/
import Derived.Test.YtajmnjefajknoaaGreatQL43
import Derived.KernelRfl
set_option linter.unusedSimpArgs false
set_option linter.unusedVariables false
set_option linter.unnecessarySimpa false
set_option maxRecDepth 8000
set_option maxHeartbeats 1000000
namespace Go.Proofs.YtajmnjefajknoaaGreat
open Go.Esp
theorem F.ok107:okFn Tryz.prog 107=true:=by kernel_rfl
theorem find_ok (M:Mem) (bw:Nat) (Za:Int) (Zc:Plc) (Zd:Int) (Zh:Plc) (Zj Zf Zp:Option Addr) (Zi Ze Zo:Nat) (Zg Zb:List ZC) (Zl:List Int) (Zt:Int) (Zr:Bool) (ZE Zy ZM ZB Zw Zu Zn Zx Zm:Int) (Zv:Plc) (ZD ZF:Int) (Yh:ZR.ok M ⟨⟨Za,Zc⟩,⟨Zd,Zh⟩,⟨Zj,Zi,Zg⟩,⟨Zf,Ze,Zb⟩⟩) (Yp:SlK M (oneI .i64) 1 ⟨Zp,Zo,Zl⟩) (hbig:Zg.length≤40∧Zb.length≤200) (hLa:Zl.length≤1000) (hh:0≤ZD∧ZD≤1000) (l:ZN) (hl0:ZN.ok M l) (hLp:l.peers.l.length≤1000) (hk:l.kind=1):Fh Tryz.prog 45 [.pointer (some ⟨bw,0,none⟩),l.enc] M [(bw,rowO (ZQ.segs ⟨⟨⟨⟨Za,Zc⟩,⟨Zd,Zh⟩,⟨Zj,Zi,Zg⟩,⟨Zf,Ze,Zb⟩⟩,Zt,Zr,ZE,Zy,ZM,ZB,Zw,Zu,Zn,Zx,Zm,Zv,⟨Zp,Zo,Zl⟩,ZD,ZF⟩,⟨none,0,[]⟩⟩) 68)] (fun M' v Hout=>v=.tuple #[]∧WkF bw 68 M' Hout (XL (ZP.nd ⟨⟨⟨Za,Zc⟩,⟨Zd,Zh⟩,⟨Zj,Zi,Zg⟩,⟨Zf,Ze,Zb⟩⟩,Zt,Zr,ZE,Zy,ZM,ZB,Zw,Zu,Zn,Zx,Zm,Zv,⟨Zp,Zo,Zl⟩,ZD,ZF⟩) l.lt)):=by
  obtain ⟨Yc,⟨ZS,Yq⟩,YM,l_id,⟨Yb,Ya,ZO⟩,YC,⟨ZL,ZV⟩,⟨ZZ,ZX,ZK⟩⟩:=l
  simp only at hLp hk
  have Xm:SlK M (oneI .i64) 1 ⟨Yb,Ya,ZO⟩:=hl0.h0
  have YZ:SlK M ZC.segs 21 ⟨ZZ,ZX,ZK⟩:=hl0.h1
  have XI:=YZ.h1
  simp only at XI
  have WA:(ZK.map ZC.segs).length=ZK.length:=List.length_map ..
  have WB:ZK.length≤ZX:=YZ.h3
  refine XJ (fun H=>(bw,rowO (ZQ.segs ⟨⟨⟨⟨Za,Zc⟩,⟨Zd,Zh⟩,⟨Zj,Zi,Zg⟩,⟨Zf,Ze,Zb⟩⟩,Zt,Zr,ZE,Zy,ZM,ZB,Zw,Zu,Zn,Zx,Zm,Zv,⟨Zp,Zo,Zl⟩,ZD,ZF⟩,⟨none,0,[]⟩⟩) 68)::H) (fun _=>by simp only [List.append_assoc,List.cons_append,List.nil_append]) Tryz.func45 rfl Tryz.ntmps45 rfl ?_;intro H
  refine ZJ (Zq (l:=[0]) rfl ?_)
  refine Xl ?_;intro b1
  refine Zz (Zs (Y_pk [3,0] ?_))
  iterate 2 refine ZJ ?_
  refine Zq (l:=[0,1,2,3,4,5]) rfl ?_;refine ZA ?_;refine ZT ?_;refine Zk F.foff68_0 ?_;refine Zk F.foff32_2 ?_;refine ZI F.lay4 ?_;refine Xp ?_;refine Zz (Zs (Y_pk [12,3,0] ?_))
  refine YB rfl (fun hc2=>?_) (fun hc2=>?_)
  ·skip
   refine Yv (Xc ?_)
   refine Yk (.inr rfl) (.nil) (fun w hw=>?_)
   have h3:XL (ZP.nd ⟨⟨⟨Za,Zc⟩,⟨Zd,Zh⟩,⟨Zj,Zi,Zg⟩,⟨Zf,Ze,Zb⟩⟩,Zt,Zr,ZE,Zy,ZM,ZB,Zw,Zu,Zn,Zx,Zm,Zv,⟨Zp,Zo,Zl⟩,ZD,ZF⟩) (ZN.lt ⟨Yc,⟨ZS,Yq⟩,YM,l_id,⟨Yb,Ya,ZO⟩,YC,⟨ZL,ZV⟩,⟨ZZ,ZX,ZK⟩⟩)=((ZP.nd ⟨⟨⟨Za,Zc⟩,⟨Zd,Zh⟩,⟨Zj,Zi,Zg⟩,⟨Zf,Ze,Zb⟩⟩,Zt,Zr,ZE,Zy,ZM,ZB,Zw,Zu,Zn,Zx,Zm,Zv,⟨Zp,Zo,Zl⟩,ZD,ZF⟩),[]):=(does1 hk).trans (congrArg (Prod.mk (ZP.nd ⟨⟨⟨Za,Zc⟩,⟨Zd,Zh⟩,⟨Zj,Zi,Zg⟩,⟨Zf,Ze,Zb⟩⟩,Zt,Zr,ZE,Zy,ZM,ZB,Zw,Zu,Zn,Zx,Zm,Zv,⟨Zp,Zo,Zl⟩,ZD,ZF⟩)) (find_no (show Zr=false by first|assumption|(simp_all;done))))
   refine ⟨_,M,[(bw,rowO (ZQ.segs ⟨⟨⟨⟨Za,Zc⟩,⟨Zd,Zh⟩,⟨Zj,Zi,Zg⟩,⟨Zf,Ze,Zb⟩⟩,Zt,Zr,ZE,Zy,ZM,ZB,Zw,Zu,Zn,Zx,Zm,Zv,⟨Zp,Zo,Zl⟩,ZD,ZF⟩,⟨none,0,[]⟩⟩) 68)],rfl,Mem.le.refl M,hw.c,rfl,⟨⟨⟨Za,Zc⟩,⟨Zd,Zh⟩,⟨Zj,Zi,Zg⟩,⟨Zf,Ze,Zb⟩⟩,Zt,Zr,ZE,Zy,ZM,ZB,Zw,Zu,Zn,Zx,Zm,Zv,⟨Zp,Zo,Zl⟩,ZD,ZF⟩,⟨none,0,[]⟩,rfl,?_,?_,⟨Yh,Yp⟩,SlK.nil,fun y hy=>by cases hy⟩
   ·rw [h3] <;> rfl
   ·rw [h3] <;> rfl
  ·skip
   refine Yy (Zs (Y_pk [3,0] ?_));refine ZJ (Zq (l:=[0,1,2,3,4]) rfl ?_);refine Zk F.foff44_2 ?_;refine ZI F.lay29 ?_;refine Xo rfl rfl F.bld44 (.cons rfl (by constructor) (.cons rfl (by constructor) .nil)) rfl rfl ?_
   refine YT F.zero44 ?_;intro b3
   refine X_store rfl rfl rfl rfl (by constructor) (by ((try simp only [cat,List.cons_append,List.nil_append,List.append_nil]);(repeat (first|exact XO|refine XN ?_|(refine YE ?_ ?_;rfl)));done)) (by repeat first|exact Upd.head|apply Upd.tail|apply Upd.over) F.lay44 (by simp only [ZC.segs,ZR.segs,ZP.segs,ZN.segs,Yr.segs,ZQ.segs,YN.segs,ZY.segs,cat,List.append_eq,List.cons_append,List.nil_append,List.append_nil,Segs.len,Seg.len,Ym]) (put_all (m:=67) rfl (by simp only [ZC.segs,ZR.segs,ZP.segs,ZN.segs,Yr.segs,ZQ.segs,YN.segs,ZY.segs,cat,List.append_eq,List.cons_append,List.nil_append,List.append_nil,Segs.len,Seg.len,Ym]) (by simp only [ZC.segs,ZR.segs,ZP.segs,ZN.segs,Yr.segs,ZQ.segs,YN.segs,ZY.segs,cat,List.append_eq,List.cons_append,List.nil_append,List.append_nil,Segs.len,Seg.len,Ym])) ?_
   refine Zz (Zs (Y_pk [4,3,0] ?_));refine ZJ (YD (l:=[0,1,2,3,4,5,6,7,8,9,10,11,12,13,14]) #[0,1,3,7,15,0,32,127,255,511,511,1023,3071,8191,16383] _ rfl (by kernel_rfl) (by kernel_rfl) St.drawn (fun _ h=>h) ?_);refine ZA ?_;refine ZT ?_;refine Zk F.foff68_0 ?_;refine Zk F.foff32_0 ?_;refine ZI F.lay28 ?_;refine Zk F.foff44_3 ?_;refine ZI F.lay23 ?_;refine X_fs rfl rfl F.ok19 rfl (Done_ok _ ⟨⟨Za,Zc⟩,⟨Zd,Zh⟩,⟨Zj,Zi,Zg⟩,⟨Zf,Ze,Zb⟩⟩ l_id Yh) rfl ?_
   rintro _ rfl
   obtain ⟨⟨⟨da,di⟩,db⟩,hd⟩:∃ x,Vu (ZR.tb ⟨⟨Za,Zc⟩,⟨Zd,Zh⟩,⟨Zj,Zi,Zg⟩,⟨Zf,Ze,Zb⟩⟩) l_id=x:=⟨_,rfl⟩
   rw [hd]
   refine ZA ?_
   iterate 2 refine XA ?_
   refine Zk F.foff44_6 ?_;refine Yi F.lay25 ?_;refine Zk F.foff44_5 ?_;refine Yi F.lay4 ?_;refine Zz (Zs (Y_pk [4,3,0] ?_))
   iterate 2 refine ZJ ?_
   refine YD (l:=[0,1,2,3,4,5,6,7,8,9,10,11,12,13,14,15]) #[0,1,3,7,15,0,32,0,128,511,1023,2047,2047,0,12287,32767] _ rfl (by kernel_rfl) (by kernel_rfl) St.drawn (fun _ h=>h) ?_;refine ZA ?_;refine ZT ?_;refine Zk F.foff68_0 ?_;refine Zk F.foff32_0 ?_;refine ZI F.lay28 ?_;refine Zk F.foff44_3 ?_;refine ZI F.lay23 ?_;refine Zk F.foff44_4 ?_;refine ZI F.lay30 ?_;refine X_fn rfl rfl F.ok88 rfl (Nearest_ok _ ⟨⟨Za,Zc⟩,⟨Zd,Zh⟩,⟨Zj,Zi,Zg⟩,⟨Zf,Ze,Zb⟩⟩ l_id ⟨Yb,Ya,ZO⟩ Yh Xm hbig) rfl ?_
   rintro _ M1 hm1 rfl
   obtain ⟨⟨⟨qa,qi⟩,qb⟩,hq⟩:∃ x,Wa (ZR.tb ⟨⟨Za,Zc⟩,⟨Zd,Zh⟩,⟨Zj,Zi,Zg⟩,⟨Zf,Ze,Zb⟩⟩) l_id (⟨Yb,Ya,ZO⟩:Sl Int).l=x:=⟨_,rfl⟩
   rw [hq]
   refine ZA ?_
   iterate 2 refine XA ?_
   refine YT F.zero25 ?_;intro b4
   refine Yi F.lay25 ?_;refine ZG ?_;refine Zz (Zs (Y_pk [6,5,4,3,0] ?_));refine ZJ (Zq (l:=[0,1,2]) rfl ?_);refine Zk F.foff44_5 ?_;refine ZI F.lay4 ?_;refine Xp ?_;refine Zz (Zs (Y_pk [44,6,5,4,3,0] ?_))
   refine YB rfl (fun hc5=>?_) (fun hc5=>?_)
   ·skip
    simp only [ZC.eta,ZR.eta,ZP.eta,ZN.eta,Yr.eta,ZQ.eta,YN.eta,ZY.eta] at hc5
    iterate 2 refine ZJ ?_
    refine Zq (l:=[0]) rfl ?_;refine ZA ?_;refine Zz (Zs (Y_pk [45,6,5,4,3,0] ?_))
    refine YB rfl (fun hc6=>?_) (fun hc6=>?_)
    ·skip
     simp only [ZC.eta,ZR.eta,ZP.eta,ZN.eta,Yr.eta,ZQ.eta,YN.eta,ZY.eta] at hc6
     refine Zq (l:=[0,1,2]) rfl ?_;refine ZI F.lay25 ?_;refine Zk F.foff44_6 ?_;refine Yi F.lay25 ?_;refine Zz (Zs (Y_pk [6,4,3,0] ?_));refine Zq (l:=[0,1,2,3]) rfl ?_;refine ZA ?_;refine Xp ?_;refine Zk F.foff44_5 ?_;refine Yi F.lay4 ?_;refine Zz (Zs (Y_pk [4,3,0] ?_));refine Xi (l:=[0,1,2,3,4,5]) [5] rfl ?_;refine ZA ?_;refine Zk F.foff44_1 ?_;refine Zk F.foff25_0 ?_;refine ZI F.lay3 ?_;refine ZI F.lay44 ?_;refine Wo rfl rfl rfl F.ok65 rfl (sendF_ok M1 bw Za Zc Zd Zh Zj Zf Zp Zi Ze Zo Zg Zb Zl Zt Zr ZE Zy ZM ZB Zw Zu Zn Zx Zm Zv ZD ZF ZS ⟨2,⟨0,0⟩,YM,0,⟨none,0,[]⟩,(!qb),⟨qa,qi⟩,⟨none,0,[]⟩⟩) (by repeat first|exact Rem.here _|exact Rem.two|apply Rem.skip|apply Rem.over) (Yu rfl) ?_
     rintro _ M2 hs2 hm2 ⟨rfl,⟨o9a,o9c,o9l⟩,rfl,k9o,hl9⟩
     simp only at hl9
     simp only [List.append_assoc,List.cons_append,List.nil_append]
     refine Zz (Wb ?_)
     refine Yk (.inl rfl) (.nil) (fun w hw=>?_)
     obtain rfl:db=false:=by first|assumption|(simp_all;done)
     obtain rfl:qb=true:=by first|assumption|(simp_all;done)
     have h3:XL (ZP.nd ⟨⟨⟨Za,Zc⟩,⟨Zd,Zh⟩,⟨Zj,Zi,Zg⟩,⟨Zf,Ze,Zb⟩⟩,Zt,Zr,ZE,Zy,ZM,ZB,Zw,Zu,Zn,Zx,Zm,Zv,⟨Zp,Zo,Zl⟩,ZD,ZF⟩) (ZN.lt ⟨Yc,⟨ZS,Yq⟩,YM,l_id,⟨Yb,Ya,ZO⟩,YC,⟨ZL,ZV⟩,⟨ZZ,ZX,ZK⟩⟩)=(ZP.nd ⟨⟨⟨Za,Zc⟩,⟨Zd,Zh⟩,⟨Zj,Zi,Zg⟩,⟨Zf,Ze,Zb⟩⟩,Zt,Zr,ZE,Zy,ZM,ZB,Zw,Zu,Zn,Zx,Zm,Zv,⟨Zp,Zo,Zl⟩,ZD,ZF⟩,[Yr.snd (⟨ZS,(⟨2,⟨Za,Zc⟩,YM,0,⟨none,0,[]⟩,false,⟨qa,qi⟩,⟨none,0,[]⟩⟩:ZN)⟩:Yr)]):=(does1 hk).trans (congrArg (Prod.mk (ZP.nd ⟨⟨⟨Za,Zc⟩,⟨Zd,Zh⟩,⟨Zj,Zi,Zg⟩,⟨Zf,Ze,Zb⟩⟩,Zt,Zr,ZE,Zy,ZM,ZB,Zw,Zu,Zn,Zx,Zm,Zv,⟨Zp,Zo,Zl⟩,ZD,ZF⟩)) ((find_yes (n:=(ZP.nd ⟨⟨⟨Za,Zc⟩,⟨Zd,Zh⟩,⟨Zj,Zi,Zg⟩,⟨Zf,Ze,Zb⟩⟩,Zt,Zr,ZE,Zy,ZM,ZB,Zw,Zu,Zn,Zx,Zm,Zv,⟨Zp,Zo,Zl⟩,ZD,ZF⟩)) (l:=(ZN.lt ⟨Yc,⟨ZS,Yq⟩,YM,l_id,⟨Yb,Ya,ZO⟩,YC,⟨ZL,ZV⟩,⟨ZZ,ZX,ZK⟩⟩)) (show Zr=true by first|assumption|(simp_all;done)) hd hq).trans rfl))
     refine ⟨_,M2,[(bw,rowO (ZQ.segs ⟨⟨⟨⟨Za,Zc⟩,⟨Zd,Zh⟩,⟨Zj,Zi,Zg⟩,⟨Zf,Ze,Zb⟩⟩,Zt,Zr,ZE,Zy,ZM,ZB,Zw,Zu,Zn,Zx,Zm,Zv,⟨Zp,Zo,Zl⟩,ZD,ZF⟩,⟨o9a,o9c,o9l⟩⟩) 68)],rfl,(hm1.trans hm2),hw.c,rfl,⟨⟨⟨Za,Zc⟩,⟨Zd,Zh⟩,⟨Zj,Zi,Zg⟩,⟨Zf,Ze,Zb⟩⟩,Zt,Zr,ZE,Zy,ZM,ZB,Zw,Zu,Zn,Zx,Zm,Zv,⟨Zp,Zo,Zl⟩,ZD,ZF⟩,⟨o9a,o9c,o9l⟩,rfl,?_,?_,⟨(Yh.mono hm1).mono hm2,(Yp.mono hm1).mono hm2⟩,k9o,fun y hy=>?_⟩
     ·rw [h3] <;> rfl
     ·rw [h3]
      show sndl o9l=_
      rw [hl9];rfl
     ·simp only at hy
      rw [hl9] at hy
      obtain rfl:=List.mem_singleton.1 hy
      exact ⟨⟨SlK.nil,SlK.nil⟩⟩
    ·skip
     simp only [ZC.eta,ZR.eta,ZP.eta,ZN.eta,Yr.eta,ZQ.eta,YN.eta,ZY.eta] at hc6
     refine Yy (Zs (Y_pk [6,4,3,0] ?_));refine Zq (l:=[0,1,2,3]) rfl ?_;refine ZA ?_;refine Xp ?_;refine Zk F.foff44_5 ?_;refine Yi F.lay4 ?_;refine Zz (Zs (Y_pk [4,3,0] ?_));refine Xi (l:=[0,1,2,3,4,5]) [5] rfl ?_;refine ZA ?_;refine Zk F.foff44_1 ?_;refine Zk F.foff25_0 ?_;refine ZI F.lay3 ?_;refine ZI F.lay44 ?_;refine Wo rfl rfl rfl F.ok65 rfl (sendF_ok M1 bw Za Zc Zd Zh Zj Zf Zp Zi Ze Zo Zg Zb Zl Zt Zr ZE Zy ZM ZB Zw Zu Zn Zx Zm Zv ZD ZF ZS ⟨2,⟨0,0⟩,YM,0,⟨none,0,[]⟩,(!qb),⟨da,di⟩,⟨none,0,[]⟩⟩) (by repeat first|exact Rem.here _|exact Rem.two|apply Rem.skip|apply Rem.over) (Yu rfl) ?_
     rintro _ M2 hs2 hm2 ⟨rfl,⟨o9a,o9c,o9l⟩,rfl,k9o,hl9⟩
     simp only at hl9
     simp only [List.append_assoc,List.cons_append,List.nil_append]
     refine Zz (Wb ?_)
     refine Yk (.inl rfl) (.nil) (fun w hw=>?_)
     obtain rfl:db=false:=by first|assumption|(simp_all;done)
     obtain rfl:qb=false:=by first|assumption|(simp_all;done)
     have h3:XL (ZP.nd ⟨⟨⟨Za,Zc⟩,⟨Zd,Zh⟩,⟨Zj,Zi,Zg⟩,⟨Zf,Ze,Zb⟩⟩,Zt,Zr,ZE,Zy,ZM,ZB,Zw,Zu,Zn,Zx,Zm,Zv,⟨Zp,Zo,Zl⟩,ZD,ZF⟩) (ZN.lt ⟨Yc,⟨ZS,Yq⟩,YM,l_id,⟨Yb,Ya,ZO⟩,YC,⟨ZL,ZV⟩,⟨ZZ,ZX,ZK⟩⟩)=(ZP.nd ⟨⟨⟨Za,Zc⟩,⟨Zd,Zh⟩,⟨Zj,Zi,Zg⟩,⟨Zf,Ze,Zb⟩⟩,Zt,Zr,ZE,Zy,ZM,ZB,Zw,Zu,Zn,Zx,Zm,Zv,⟨Zp,Zo,Zl⟩,ZD,ZF⟩,[Yr.snd (⟨ZS,(⟨2,⟨Za,Zc⟩,YM,0,⟨none,0,[]⟩,true,⟨da,di⟩,⟨none,0,[]⟩⟩:ZN)⟩:Yr)]):=(does1 hk).trans (congrArg (Prod.mk (ZP.nd ⟨⟨⟨Za,Zc⟩,⟨Zd,Zh⟩,⟨Zj,Zi,Zg⟩,⟨Zf,Ze,Zb⟩⟩,Zt,Zr,ZE,Zy,ZM,ZB,Zw,Zu,Zn,Zx,Zm,Zv,⟨Zp,Zo,Zl⟩,ZD,ZF⟩)) ((find_yes (n:=(ZP.nd ⟨⟨⟨Za,Zc⟩,⟨Zd,Zh⟩,⟨Zj,Zi,Zg⟩,⟨Zf,Ze,Zb⟩⟩,Zt,Zr,ZE,Zy,ZM,ZB,Zw,Zu,Zn,Zx,Zm,Zv,⟨Zp,Zo,Zl⟩,ZD,ZF⟩)) (l:=(ZN.lt ⟨Yc,⟨ZS,Yq⟩,YM,l_id,⟨Yb,Ya,ZO⟩,YC,⟨ZL,ZV⟩,⟨ZZ,ZX,ZK⟩⟩)) (show Zr=true by first|assumption|(simp_all;done)) hd hq).trans rfl))
     refine ⟨_,M2,[(bw,rowO (ZQ.segs ⟨⟨⟨⟨Za,Zc⟩,⟨Zd,Zh⟩,⟨Zj,Zi,Zg⟩,⟨Zf,Ze,Zb⟩⟩,Zt,Zr,ZE,Zy,ZM,ZB,Zw,Zu,Zn,Zx,Zm,Zv,⟨Zp,Zo,Zl⟩,ZD,ZF⟩,⟨o9a,o9c,o9l⟩⟩) 68)],rfl,(hm1.trans hm2),hw.c,rfl,⟨⟨⟨Za,Zc⟩,⟨Zd,Zh⟩,⟨Zj,Zi,Zg⟩,⟨Zf,Ze,Zb⟩⟩,Zt,Zr,ZE,Zy,ZM,ZB,Zw,Zu,Zn,Zx,Zm,Zv,⟨Zp,Zo,Zl⟩,ZD,ZF⟩,⟨o9a,o9c,o9l⟩,rfl,?_,?_,⟨(Yh.mono hm1).mono hm2,(Yp.mono hm1).mono hm2⟩,k9o,fun y hy=>?_⟩
     ·rw [h3] <;> rfl
     ·rw [h3]
      show sndl o9l=_
      rw [hl9];rfl
     ·simp only at hy
      rw [hl9] at hy
      obtain rfl:=List.mem_singleton.1 hy
      exact ⟨⟨SlK.nil,SlK.nil⟩⟩
   ·skip
    simp only [ZC.eta,ZR.eta,ZP.eta,ZN.eta,Yr.eta,ZQ.eta,YN.eta,ZY.eta] at hc5
    refine Yy (Zs (Y_pk [4,3,0] ?_));refine Xi (l:=[0,1,2,3,4,5]) [5] rfl ?_;refine ZA ?_;refine Zk F.foff44_1 ?_;refine Zk F.foff25_0 ?_;refine ZI F.lay3 ?_;refine ZI F.lay44 ?_;refine Wo rfl rfl rfl F.ok65 rfl (sendF_ok M1 bw Za Zc Zd Zh Zj Zf Zp Zi Ze Zo Zg Zb Zl Zt Zr ZE Zy ZM ZB Zw Zu Zn Zx Zm Zv ZD ZF ZS ⟨2,⟨0,0⟩,YM,0,⟨none,0,[]⟩,db,⟨da,di⟩,⟨none,0,[]⟩⟩) (by repeat first|exact Rem.here _|exact Rem.two|apply Rem.skip|apply Rem.over) (Yu rfl) ?_
    rintro _ M2 hs2 hm2 ⟨rfl,⟨o9a,o9c,o9l⟩,rfl,k9o,hl9⟩
    simp only at hl9
    simp only [List.append_assoc,List.cons_append,List.nil_append]
    refine Zz (Wb ?_)
    refine Yk (.inl rfl) (.nil) (fun w hw=>?_)
    obtain rfl:db=true:=by first|assumption|(simp_all;done)
    have h3:XL (ZP.nd ⟨⟨⟨Za,Zc⟩,⟨Zd,Zh⟩,⟨Zj,Zi,Zg⟩,⟨Zf,Ze,Zb⟩⟩,Zt,Zr,ZE,Zy,ZM,ZB,Zw,Zu,Zn,Zx,Zm,Zv,⟨Zp,Zo,Zl⟩,ZD,ZF⟩) (ZN.lt ⟨Yc,⟨ZS,Yq⟩,YM,l_id,⟨Yb,Ya,ZO⟩,YC,⟨ZL,ZV⟩,⟨ZZ,ZX,ZK⟩⟩)=(ZP.nd ⟨⟨⟨Za,Zc⟩,⟨Zd,Zh⟩,⟨Zj,Zi,Zg⟩,⟨Zf,Ze,Zb⟩⟩,Zt,Zr,ZE,Zy,ZM,ZB,Zw,Zu,Zn,Zx,Zm,Zv,⟨Zp,Zo,Zl⟩,ZD,ZF⟩,[Yr.snd (⟨ZS,(⟨2,⟨Za,Zc⟩,YM,0,⟨none,0,[]⟩,true,⟨da,di⟩,⟨none,0,[]⟩⟩:ZN)⟩:Yr)]):=(does1 hk).trans (congrArg (Prod.mk (ZP.nd ⟨⟨⟨Za,Zc⟩,⟨Zd,Zh⟩,⟨Zj,Zi,Zg⟩,⟨Zf,Ze,Zb⟩⟩,Zt,Zr,ZE,Zy,ZM,ZB,Zw,Zu,Zn,Zx,Zm,Zv,⟨Zp,Zo,Zl⟩,ZD,ZF⟩)) ((find_yes (n:=(ZP.nd ⟨⟨⟨Za,Zc⟩,⟨Zd,Zh⟩,⟨Zj,Zi,Zg⟩,⟨Zf,Ze,Zb⟩⟩,Zt,Zr,ZE,Zy,ZM,ZB,Zw,Zu,Zn,Zx,Zm,Zv,⟨Zp,Zo,Zl⟩,ZD,ZF⟩)) (l:=(ZN.lt ⟨Yc,⟨ZS,Yq⟩,YM,l_id,⟨Yb,Ya,ZO⟩,YC,⟨ZL,ZV⟩,⟨ZZ,ZX,ZK⟩⟩)) (show Zr=true by first|assumption|(simp_all;done)) hd hq).trans rfl))
    refine ⟨_,M2,[(bw,rowO (ZQ.segs ⟨⟨⟨⟨Za,Zc⟩,⟨Zd,Zh⟩,⟨Zj,Zi,Zg⟩,⟨Zf,Ze,Zb⟩⟩,Zt,Zr,ZE,Zy,ZM,ZB,Zw,Zu,Zn,Zx,Zm,Zv,⟨Zp,Zo,Zl⟩,ZD,ZF⟩,⟨o9a,o9c,o9l⟩⟩) 68)],rfl,(hm1.trans hm2),hw.c,rfl,⟨⟨⟨Za,Zc⟩,⟨Zd,Zh⟩,⟨Zj,Zi,Zg⟩,⟨Zf,Ze,Zb⟩⟩,Zt,Zr,ZE,Zy,ZM,ZB,Zw,Zu,Zn,Zx,Zm,Zv,⟨Zp,Zo,Zl⟩,ZD,ZF⟩,⟨o9a,o9c,o9l⟩,rfl,?_,?_,⟨(Yh.mono hm1).mono hm2,(Yp.mono hm1).mono hm2⟩,k9o,fun y hy=>?_⟩
    ·rw [h3] <;> rfl
    ·rw [h3]
     show sndl o9l=_
     rw [hl9];rfl
    ·simp only at hy
     rw [hl9] at hy
     obtain rfl:=List.mem_singleton.1 hy
     exact ⟨⟨SlK.nil,SlK.nil⟩⟩
theorem ask_ok (M:Mem) (bw:Nat) (Za:Int) (Zc:Plc) (Zd:Int) (Zh:Plc) (Zj Zf Zp:Option Addr) (Zi Ze Zo:Nat) (Zg Zb:List ZC) (Zl:List Int) (Zt:Int) (Zr:Bool) (ZE Zy ZM ZB Zw Zu Zn Zx Zm:Int) (Zv:Plc) (ZD ZF:Int) (Yh:ZR.ok M ⟨⟨Za,Zc⟩,⟨Zd,Zh⟩,⟨Zj,Zi,Zg⟩,⟨Zf,Ze,Zb⟩⟩) (Yp:SlK M (oneI .i64) 1 ⟨Zp,Zo,Zl⟩) (hbig:Zg.length≤40∧Zb.length≤200) (hLa:Zl.length≤1000) (hh:0≤ZD∧ZD≤1000) (l:ZN) (hl0:ZN.ok M l) (hLp:l.peers.l.length≤1000) (hk:l.kind=3):Fh Tryz.prog 47 [.pointer (some ⟨bw,0,none⟩),l.enc] M [(bw,rowO (ZQ.segs ⟨⟨⟨⟨Za,Zc⟩,⟨Zd,Zh⟩,⟨Zj,Zi,Zg⟩,⟨Zf,Ze,Zb⟩⟩,Zt,Zr,ZE,Zy,ZM,ZB,Zw,Zu,Zn,Zx,Zm,Zv,⟨Zp,Zo,Zl⟩,ZD,ZF⟩,⟨none,0,[]⟩⟩) 68)] (fun M' v Hout=>v=.tuple #[]∧WkF bw 68 M' Hout (XL (ZP.nd ⟨⟨⟨Za,Zc⟩,⟨Zd,Zh⟩,⟨Zj,Zi,Zg⟩,⟨Zf,Ze,Zb⟩⟩,Zt,Zr,ZE,Zy,ZM,ZB,Zw,Zu,Zn,Zx,Zm,Zv,⟨Zp,Zo,Zl⟩,ZD,ZF⟩) l.lt)):=by
  obtain ⟨Yc,⟨ZS,Yq⟩,YM,l_id,⟨Yb,Ya,ZO⟩,YC,⟨ZL,ZV⟩,⟨ZZ,ZX,ZK⟩⟩:=l
  simp only at hLp hk
  have Xm:SlK M (oneI .i64) 1 ⟨Yb,Ya,ZO⟩:=hl0.h0
  have YZ:SlK M ZC.segs 21 ⟨ZZ,ZX,ZK⟩:=hl0.h1
  have XI:=YZ.h1
  simp only at XI
  have WA:(ZK.map ZC.segs).length=ZK.length:=List.length_map ..
  have WB:ZK.length≤ZX:=YZ.h3
  refine XJ (fun H=>(bw,rowO (ZQ.segs ⟨⟨⟨⟨Za,Zc⟩,⟨Zd,Zh⟩,⟨Zj,Zi,Zg⟩,⟨Zf,Ze,Zb⟩⟩,Zt,Zr,ZE,Zy,ZM,ZB,Zw,Zu,Zn,Zx,Zm,Zv,⟨Zp,Zo,Zl⟩,ZD,ZF⟩,⟨none,0,[]⟩⟩) 68)::H) (fun _=>by simp only [List.append_assoc,List.cons_append,List.nil_append]) Tryz.func47 rfl Tryz.ntmps47 rfl ?_;intro H
  refine ZJ (Zq (l:=[0]) rfl ?_)
  refine Xl ?_;intro b1
  refine Zz (Zs (Y_pk [3,0] ?_));refine ZJ (Zq (l:=[0,1,2,3,4]) rfl ?_);refine ZA ?_;refine ZT ?_;refine Zk F.foff68_0 ?_;refine Zk F.foff32_2 ?_;refine ZI F.lay4 ?_;refine Zz (Zs (Y_pk [8,3,0] ?_))
  refine YB rfl (fun hc2=>?_) (fun hc2=>?_)
  ·skip
   refine C_region_anyW (l:=[0,1,2,3,4,5,6,7,8,9,10,11,12,13,14,15,16,17,18,19]) [19] #[0,0,2,6,0,16,0,64,192,448,960,1984,0,4096,12288,28672,61440,126976,262128,524287] (_) rfl (by kernel_rfl) (by kernel_rfl) St.drawn (fun _ h=>h) ?_;refine ZA ?_;refine Zk F.foff44_1 ?_;refine Zk F.foff25_0 ?_;refine ZI F.lay3 ?_;refine Zk F.foff44_2 ?_;refine ZI F.lay29 ?_;refine ZA ?_;refine ZT ?_;refine Zk F.foff68_0 ?_;refine Zk F.foff32_0 ?_;refine Zk F.foff28_1 ?_;refine ZI F.lay25 ?_;refine ZA ?_;refine ZT ?_;refine Zk F.foff68_0 ?_;refine Zk F.foff32_0 ?_;refine Zk F.foff28_2 ?_;refine ZI F.lay26 ?_;refine Xo rfl rfl F.bld44 (.cons rfl (by constructor) (.cons rfl (by constructor) (.cons rfl (by constructor) (.cons rfl (by constructor) .nil)))) rfl rfl ?_
   refine Wo rfl rfl rfl F.ok65 rfl (sendF_ok M bw Za Zc Zd Zh Zj Zf Zp Zi Ze Zo Zg Zb Zl Zt Zr ZE Zy ZM ZB Zw Zu Zn Zx Zm Zv ZD ZF ZS ⟨4,⟨0,0⟩,YM,0,⟨none,0,[]⟩,false,⟨Zd,Zh⟩,⟨Zj,Zi,Zg⟩⟩) (by repeat first|exact Rem.here _|exact Rem.two|apply Rem.skip|apply Rem.over) (Yu rfl) ?_
   rintro _ M2 hs2 hm2 ⟨rfl,⟨o9a,o9c,o9l⟩,rfl,k9o,hl9⟩
   simp only at hl9
   simp only [List.append_assoc,List.cons_append,List.nil_append]
   refine Zz (Wb ?_)
   refine Yk (.inl rfl) (.nil) (fun w hw=>?_)
   have h3:XL (ZP.nd ⟨⟨⟨Za,Zc⟩,⟨Zd,Zh⟩,⟨Zj,Zi,Zg⟩,⟨Zf,Ze,Zb⟩⟩,Zt,Zr,ZE,Zy,ZM,ZB,Zw,Zu,Zn,Zx,Zm,Zv,⟨Zp,Zo,Zl⟩,ZD,ZF⟩) (ZN.lt ⟨Yc,⟨ZS,Yq⟩,YM,l_id,⟨Yb,Ya,ZO⟩,YC,⟨ZL,ZV⟩,⟨ZZ,ZX,ZK⟩⟩)=(ZP.nd ⟨⟨⟨Za,Zc⟩,⟨Zd,Zh⟩,⟨Zj,Zi,Zg⟩,⟨Zf,Ze,Zb⟩⟩,Zt,Zr,ZE,Zy,ZM,ZB,Zw,Zu,Zn,Zx,Zm,Zv,⟨Zp,Zo,Zl⟩,ZD,ZF⟩,[Yr.snd (⟨ZS,(⟨4,⟨Za,Zc⟩,YM,0,⟨none,0,[]⟩,false,⟨Zd,Zh⟩,⟨Zj,Zi,Zg⟩⟩:ZN)⟩:Yr)]):=does3y hk (show Zr=true by first|assumption|(simp_all;done))
   refine ⟨_,M2,[(bw,rowO (ZQ.segs ⟨⟨⟨⟨Za,Zc⟩,⟨Zd,Zh⟩,⟨Zj,Zi,Zg⟩,⟨Zf,Ze,Zb⟩⟩,Zt,Zr,ZE,Zy,ZM,ZB,Zw,Zu,Zn,Zx,Zm,Zv,⟨Zp,Zo,Zl⟩,ZD,ZF⟩,⟨o9a,o9c,o9l⟩⟩) 68)],rfl,hm2,hw.c,rfl,⟨⟨⟨Za,Zc⟩,⟨Zd,Zh⟩,⟨Zj,Zi,Zg⟩,⟨Zf,Ze,Zb⟩⟩,Zt,Zr,ZE,Zy,ZM,ZB,Zw,Zu,Zn,Zx,Zm,Zv,⟨Zp,Zo,Zl⟩,ZD,ZF⟩,⟨o9a,o9c,o9l⟩,rfl,?_,?_,⟨Yh.mono hm2,Yp.mono hm2⟩,k9o,fun y hy=>?_⟩
   ·rw [h3] <;> rfl
   ·rw [h3]
    show sndl o9l=_
    rw [hl9];rfl
   ·simp only at hy
    rw [hl9] at hy
    obtain rfl:=List.mem_singleton.1 hy
    exact ⟨⟨SlK.nil,(Yh.mono hm2).h0⟩⟩
  ·skip
   refine Yy ?_
   refine Yk (.inl rfl) (.nil) (fun w hw=>?_)
   have h3:XL (ZP.nd ⟨⟨⟨Za,Zc⟩,⟨Zd,Zh⟩,⟨Zj,Zi,Zg⟩,⟨Zf,Ze,Zb⟩⟩,Zt,Zr,ZE,Zy,ZM,ZB,Zw,Zu,Zn,Zx,Zm,Zv,⟨Zp,Zo,Zl⟩,ZD,ZF⟩) (ZN.lt ⟨Yc,⟨ZS,Yq⟩,YM,l_id,⟨Yb,Ya,ZO⟩,YC,⟨ZL,ZV⟩,⟨ZZ,ZX,ZK⟩⟩)=((ZP.nd ⟨⟨⟨Za,Zc⟩,⟨Zd,Zh⟩,⟨Zj,Zi,Zg⟩,⟨Zf,Ze,Zb⟩⟩,Zt,Zr,ZE,Zy,ZM,ZB,Zw,Zu,Zn,Zx,Zm,Zv,⟨Zp,Zo,Zl⟩,ZD,ZF⟩),[]):=does3n hk (show Zr=false by first|assumption|(simp_all;done))
   refine ⟨_,M,[(bw,rowO (ZQ.segs ⟨⟨⟨⟨Za,Zc⟩,⟨Zd,Zh⟩,⟨Zj,Zi,Zg⟩,⟨Zf,Ze,Zb⟩⟩,Zt,Zr,ZE,Zy,ZM,ZB,Zw,Zu,Zn,Zx,Zm,Zv,⟨Zp,Zo,Zl⟩,ZD,ZF⟩,⟨none,0,[]⟩⟩) 68)],rfl,Mem.le.refl M,hw.c,rfl,⟨⟨⟨Za,Zc⟩,⟨Zd,Zh⟩,⟨Zj,Zi,Zg⟩,⟨Zf,Ze,Zb⟩⟩,Zt,Zr,ZE,Zy,ZM,ZB,Zw,Zu,Zn,Zx,Zm,Zv,⟨Zp,Zo,Zl⟩,ZD,ZF⟩,⟨none,0,[]⟩,rfl,?_,?_,⟨Yh,Yp⟩,SlK.nil,fun y hy=>by cases hy⟩
   ·rw [h3] <;> rfl
   ·rw [h3] <;> rfl
theorem notify_ok (M:Mem) (bw:Nat) (Za:Int) (Zc:Plc) (Zd:Int) (Zh:Plc) (Zj Zf Zp:Option Addr) (Zi Ze Zo:Nat) (Zg Zb:List ZC) (Zl:List Int) (Zt:Int) (Zr:Bool) (ZE Zy ZM ZB Zw Zu Zn Zx Zm:Int) (Zv:Plc) (ZD ZF:Int) (Yh:ZR.ok M ⟨⟨Za,Zc⟩,⟨Zd,Zh⟩,⟨Zj,Zi,Zg⟩,⟨Zf,Ze,Zb⟩⟩) (Yp:SlK M (oneI .i64) 1 ⟨Zp,Zo,Zl⟩) (hbig:Zg.length≤40∧Zb.length≤200) (hLa:Zl.length≤1000) (hh:0≤ZD∧ZD≤1000) (l:ZN) (hl0:ZN.ok M l) (hLp:l.peers.l.length≤1000) (hk:l.kind=5):Fh Tryz.prog 49 [.pointer (some ⟨bw,0,none⟩),l.enc] M [(bw,rowO (ZQ.segs ⟨⟨⟨⟨Za,Zc⟩,⟨Zd,Zh⟩,⟨Zj,Zi,Zg⟩,⟨Zf,Ze,Zb⟩⟩,Zt,Zr,ZE,Zy,ZM,ZB,Zw,Zu,Zn,Zx,Zm,Zv,⟨Zp,Zo,Zl⟩,ZD,ZF⟩,⟨none,0,[]⟩⟩) 68)] (fun M' v Hout=>v=.tuple #[]∧WkF bw 68 M' Hout (XL (ZP.nd ⟨⟨⟨Za,Zc⟩,⟨Zd,Zh⟩,⟨Zj,Zi,Zg⟩,⟨Zf,Ze,Zb⟩⟩,Zt,Zr,ZE,Zy,ZM,ZB,Zw,Zu,Zn,Zx,Zm,Zv,⟨Zp,Zo,Zl⟩,ZD,ZF⟩) l.lt)):=by
  obtain ⟨Yc,⟨ZS,Yq⟩,YM,l_id,⟨Yb,Ya,ZO⟩,YC,⟨ZL,ZV⟩,⟨ZZ,ZX,ZK⟩⟩:=l
  simp only at hLp hk
  have Xm:SlK M (oneI .i64) 1 ⟨Yb,Ya,ZO⟩:=hl0.h0
  have YZ:SlK M ZC.segs 21 ⟨ZZ,ZX,ZK⟩:=hl0.h1
  have XI:=YZ.h1
  simp only at XI
  have WA:(ZK.map ZC.segs).length=ZK.length:=List.length_map ..
  have WB:ZK.length≤ZX:=YZ.h3
  refine XJ (fun H=>(bw,rowO (ZQ.segs ⟨⟨⟨⟨Za,Zc⟩,⟨Zd,Zh⟩,⟨Zj,Zi,Zg⟩,⟨Zf,Ze,Zb⟩⟩,Zt,Zr,ZE,Zy,ZM,ZB,Zw,Zu,Zn,Zx,Zm,Zv,⟨Zp,Zo,Zl⟩,ZD,ZF⟩,⟨none,0,[]⟩⟩) 68)::H) (fun _=>by simp only [List.append_assoc,List.cons_append,List.nil_append]) Tryz.func49 rfl Tryz.ntmps49 rfl ?_;intro H
  refine ZJ (Zq (l:=[0]) rfl ?_)
  refine Xl ?_;intro b1
  refine Zz (Zs (Y_pk [3,0] ?_));refine YD (l:=[0,1,2,3,4,5,6,7,8,9,10,11,12]) #[0,0,2,6,14,30,0,64,254,511,1023,2047,4095] _ rfl (by kernel_rfl) (by kernel_rfl) St.drawn (fun _ h=>h) ?_
  iterate 2 refine ZA ?_
  refine ZT ?_;refine Zk F.foff68_0 ?_;refine Zk F.foff32_0 ?_;refine ZI F.lay28 ?_;refine Zk F.foff44_1 ?_;refine ZI F.lay25 ?_;refine X_fn rfl rfl F.ok107 rfl (Learn_ok _ ⟨⟨Za,Zc⟩,⟨Zd,Zh⟩,⟨Zj,Zi,Zg⟩,⟨Zf,Ze,Zb⟩⟩ ⟨ZS,Yq⟩ Yh) rfl ?_
  rintro _ M1 hm1 ⟨⟨⟨wa,wi⟩,⟨wq,wj⟩,⟨w1a,w1c,w1l⟩,⟨w2a,w2c,w2l⟩⟩,rfl,hol,okl⟩
  refine ZT ?_;refine Zk F.foff68_0 ?_;refine Zk F.foff32_0 ?_;refine Yi F.lay28 ?_;refine Zz ?_
  refine Yk (.inl rfl) (.nil) (fun w hw=>?_)
  have h3:XL (ZP.nd ⟨⟨⟨Za,Zc⟩,⟨Zd,Zh⟩,⟨Zj,Zi,Zg⟩,⟨Zf,Ze,Zb⟩⟩,Zt,Zr,ZE,Zy,ZM,ZB,Zw,Zu,Zn,Zx,Zm,Zv,⟨Zp,Zo,Zl⟩,ZD,ZF⟩) (ZN.lt ⟨Yc,⟨ZS,Yq⟩,YM,l_id,⟨Yb,Ya,ZO⟩,YC,⟨ZL,ZV⟩,⟨ZZ,ZX,ZK⟩⟩)=(ZP.nd ⟨⟨⟨wa,wi⟩,⟨wq,wj⟩,⟨w1a,w1c,w1l⟩,⟨w2a,w2c,w2l⟩⟩,Zt,Zr,ZE,Zy,ZM,ZB,Zw,Zu,Zn,Zx,Zm,Zv,⟨Zp,Zo,Zl⟩,ZD,ZF⟩,[]):=does5 hk hol
  refine ⟨_,M1,[(bw,rowO (ZQ.segs ⟨⟨⟨⟨wa,wi⟩,⟨wq,wj⟩,⟨w1a,w1c,w1l⟩,⟨w2a,w2c,w2l⟩⟩,Zt,Zr,ZE,Zy,ZM,ZB,Zw,Zu,Zn,Zx,Zm,Zv,⟨Zp,Zo,Zl⟩,ZD,ZF⟩,⟨none,0,[]⟩⟩) 68)],rfl,hm1,hw.c,rfl,⟨⟨⟨wa,wi⟩,⟨wq,wj⟩,⟨w1a,w1c,w1l⟩,⟨w2a,w2c,w2l⟩⟩,Zt,Zr,ZE,Zy,ZM,ZB,Zw,Zu,Zn,Zx,Zm,Zv,⟨Zp,Zo,Zl⟩,ZD,ZF⟩,⟨none,0,[]⟩,rfl,?_,?_,⟨okl,Yp.mono hm1⟩,SlK.nil,fun y hy=>by cases hy⟩
  ·rw [h3] <;> rfl
  ·rw [h3] <;> rfl
theorem ping_ok (M:Mem) (bw:Nat) (Za:Int) (Zc:Plc) (Zd:Int) (Zh:Plc) (Zj Zf Zp:Option Addr) (Zi Ze Zo:Nat) (Zg Zb:List ZC) (Zl:List Int) (Zt:Int) (Zr:Bool) (ZE Zy ZM ZB Zw Zu Zn Zx Zm:Int) (Zv:Plc) (ZD ZF:Int) (Yh:ZR.ok M ⟨⟨Za,Zc⟩,⟨Zd,Zh⟩,⟨Zj,Zi,Zg⟩,⟨Zf,Ze,Zb⟩⟩) (Yp:SlK M (oneI .i64) 1 ⟨Zp,Zo,Zl⟩) (hbig:Zg.length≤40∧Zb.length≤200) (hLa:Zl.length≤1000) (hh:0≤ZD∧ZD≤1000) (l:ZN) (hl0:ZN.ok M l) (hLp:l.peers.l.length≤1000) (hk:l.kind=6):Fh Tryz.prog 50 [.pointer (some ⟨bw,0,none⟩),l.enc] M [(bw,rowO (ZQ.segs ⟨⟨⟨⟨Za,Zc⟩,⟨Zd,Zh⟩,⟨Zj,Zi,Zg⟩,⟨Zf,Ze,Zb⟩⟩,Zt,Zr,ZE,Zy,ZM,ZB,Zw,Zu,Zn,Zx,Zm,Zv,⟨Zp,Zo,Zl⟩,ZD,ZF⟩,⟨none,0,[]⟩⟩) 68)] (fun M' v Hout=>v=.tuple #[]∧WkF bw 68 M' Hout (XL (ZP.nd ⟨⟨⟨Za,Zc⟩,⟨Zd,Zh⟩,⟨Zj,Zi,Zg⟩,⟨Zf,Ze,Zb⟩⟩,Zt,Zr,ZE,Zy,ZM,ZB,Zw,Zu,Zn,Zx,Zm,Zv,⟨Zp,Zo,Zl⟩,ZD,ZF⟩) l.lt)):=by
  obtain ⟨Yc,⟨ZS,Yq⟩,YM,l_id,⟨Yb,Ya,ZO⟩,YC,⟨ZL,ZV⟩,⟨ZZ,ZX,ZK⟩⟩:=l
  simp only at hLp hk
  have Xm:SlK M (oneI .i64) 1 ⟨Yb,Ya,ZO⟩:=hl0.h0
  have YZ:SlK M ZC.segs 21 ⟨ZZ,ZX,ZK⟩:=hl0.h1
  have XI:=YZ.h1
  simp only at XI
  have WA:(ZK.map ZC.segs).length=ZK.length:=List.length_map ..
  have WB:ZK.length≤ZX:=YZ.h3
  refine XJ (fun H=>(bw,rowO (ZQ.segs ⟨⟨⟨⟨Za,Zc⟩,⟨Zd,Zh⟩,⟨Zj,Zi,Zg⟩,⟨Zf,Ze,Zb⟩⟩,Zt,Zr,ZE,Zy,ZM,ZB,Zw,Zu,Zn,Zx,Zm,Zv,⟨Zp,Zo,Zl⟩,ZD,ZF⟩,⟨none,0,[]⟩⟩) 68)::H) (fun _=>by simp only [List.append_assoc,List.cons_append,List.nil_append]) Tryz.func50 rfl Tryz.ntmps50 rfl ?_;intro H
  refine ZJ (Zq (l:=[0]) rfl ?_)
  refine Xl ?_;intro b1
  refine Zz (Zs (Y_pk [3,0] ?_));refine C_region_anyW (l:=[0,1,2,3,4,5,6,7,8]) [8] #[0,0,2,6,0,16,0,112,255] (_) rfl (by kernel_rfl) (by kernel_rfl) St.drawn (fun _ h=>h) ?_;refine ZA ?_;refine Zk F.foff44_1 ?_;refine Zk F.foff25_0 ?_;refine ZI F.lay3 ?_;refine Zk F.foff44_2 ?_;refine ZI F.lay29 ?_;refine X_fs rfl rfl F.ok66 rfl (WI _) rfl ?_
  rintro _ rfl
  refine Vf 10 rfl (show _=aggV [.one (.int .i64 (-1)),Ym 0] from rfl) ?_;refine Xo rfl rfl F.bld44 (.cons rfl (by constructor) (.cons rfl (by constructor) (.cons rfl (by constructor) .nil))) rfl rfl ?_;refine Wo rfl rfl rfl F.ok65 rfl (sendF_ok M bw Za Zc Zd Zh Zj Zf Zp Zi Ze Zo Zg Zb Zl Zt Zr ZE Zy ZM ZB Zw Zu Zn Zx Zm Zv ZD ZF ZS ⟨7,⟨0,0⟩,YM,0,⟨none,0,[]⟩,false,⟨-1,0⟩,⟨none,0,[]⟩⟩) (by repeat first|exact Rem.here _|exact Rem.two|apply Rem.skip|apply Rem.over) (Yu rfl) ?_
  rintro _ M2 hs2 hm2 ⟨rfl,⟨o9a,o9c,o9l⟩,rfl,k9o,hl9⟩
  simp only at hl9
  simp only [List.append_assoc,List.cons_append,List.nil_append]
  refine Zz (Wb ?_)
  refine Yk (.inl rfl) (.nil) (fun w hw=>?_)
  have h3:XL (ZP.nd ⟨⟨⟨Za,Zc⟩,⟨Zd,Zh⟩,⟨Zj,Zi,Zg⟩,⟨Zf,Ze,Zb⟩⟩,Zt,Zr,ZE,Zy,ZM,ZB,Zw,Zu,Zn,Zx,Zm,Zv,⟨Zp,Zo,Zl⟩,ZD,ZF⟩) (ZN.lt ⟨Yc,⟨ZS,Yq⟩,YM,l_id,⟨Yb,Ya,ZO⟩,YC,⟨ZL,ZV⟩,⟨ZZ,ZX,ZK⟩⟩)=(ZP.nd ⟨⟨⟨Za,Zc⟩,⟨Zd,Zh⟩,⟨Zj,Zi,Zg⟩,⟨Zf,Ze,Zb⟩⟩,Zt,Zr,ZE,Zy,ZM,ZB,Zw,Zu,Zn,Zx,Zm,Zv,⟨Zp,Zo,Zl⟩,ZD,ZF⟩,[Yr.snd (⟨ZS,(⟨7,⟨Za,Zc⟩,YM,0,⟨none,0,[]⟩,false,⟨-1,0⟩,⟨none,0,[]⟩⟩:ZN)⟩:Yr)]):=does6 hk
  refine ⟨_,M2,[(bw,rowO (ZQ.segs ⟨⟨⟨⟨Za,Zc⟩,⟨Zd,Zh⟩,⟨Zj,Zi,Zg⟩,⟨Zf,Ze,Zb⟩⟩,Zt,Zr,ZE,Zy,ZM,ZB,Zw,Zu,Zn,Zx,Zm,Zv,⟨Zp,Zo,Zl⟩,ZD,ZF⟩,⟨o9a,o9c,o9l⟩⟩) 68)],rfl,hm2,hw.c,rfl,⟨⟨⟨Za,Zc⟩,⟨Zd,Zh⟩,⟨Zj,Zi,Zg⟩,⟨Zf,Ze,Zb⟩⟩,Zt,Zr,ZE,Zy,ZM,ZB,Zw,Zu,Zn,Zx,Zm,Zv,⟨Zp,Zo,Zl⟩,ZD,ZF⟩,⟨o9a,o9c,o9l⟩,rfl,?_,?_,⟨Yh.mono hm2,Yp.mono hm2⟩,k9o,fun y hy=>?_⟩
  ·rw [h3] <;> rfl
  ·rw [h3]
   show sndl o9l=_
   rw [hl9];rfl
  ·simp only at hy
   rw [hl9] at hy
   obtain rfl:=List.mem_singleton.1 hy
   exact ⟨⟨SlK.nil,SlK.nil⟩⟩
theorem pong_ok (M:Mem) (bw:Nat) (Za:Int) (Zc:Plc) (Zd:Int) (Zh:Plc) (Zj Zf Zp:Option Addr) (Zi Ze Zo:Nat) (Zg Zb:List ZC) (Zl:List Int) (Zt:Int) (Zr:Bool) (ZE Zy ZM ZB Zw Zu Zn Zx Zm:Int) (Zv:Plc) (ZD ZF:Int) (Yh:ZR.ok M ⟨⟨Za,Zc⟩,⟨Zd,Zh⟩,⟨Zj,Zi,Zg⟩,⟨Zf,Ze,Zb⟩⟩) (Yp:SlK M (oneI .i64) 1 ⟨Zp,Zo,Zl⟩) (hbig:Zg.length≤40∧Zb.length≤200) (hLa:Zl.length≤1000) (hh:0≤ZD∧ZD≤1000) (l:ZN) (hl0:ZN.ok M l) (hLp:l.peers.l.length≤1000) (hk:l.kind=7):Fh Tryz.prog 51 [.pointer (some ⟨bw,0,none⟩),l.enc] M [(bw,rowO (ZQ.segs ⟨⟨⟨⟨Za,Zc⟩,⟨Zd,Zh⟩,⟨Zj,Zi,Zg⟩,⟨Zf,Ze,Zb⟩⟩,Zt,Zr,ZE,Zy,ZM,ZB,Zw,Zu,Zn,Zx,Zm,Zv,⟨Zp,Zo,Zl⟩,ZD,ZF⟩,⟨none,0,[]⟩⟩) 68)] (fun M' v Hout=>v=.tuple #[]∧WkF bw 68 M' Hout (XL (ZP.nd ⟨⟨⟨Za,Zc⟩,⟨Zd,Zh⟩,⟨Zj,Zi,Zg⟩,⟨Zf,Ze,Zb⟩⟩,Zt,Zr,ZE,Zy,ZM,ZB,Zw,Zu,Zn,Zx,Zm,Zv,⟨Zp,Zo,Zl⟩,ZD,ZF⟩) l.lt)):=by
  obtain ⟨Yc,⟨ZS,Yq⟩,YM,l_id,⟨Yb,Ya,ZO⟩,YC,⟨ZL,ZV⟩,⟨ZZ,ZX,ZK⟩⟩:=l
  simp only at hLp hk
  have Xm:SlK M (oneI .i64) 1 ⟨Yb,Ya,ZO⟩:=hl0.h0
  have YZ:SlK M ZC.segs 21 ⟨ZZ,ZX,ZK⟩:=hl0.h1
  have XI:=YZ.h1
  simp only at XI
  have WA:(ZK.map ZC.segs).length=ZK.length:=List.length_map ..
  have WB:ZK.length≤ZX:=YZ.h3
  refine XJ (fun H=>(bw,rowO (ZQ.segs ⟨⟨⟨⟨Za,Zc⟩,⟨Zd,Zh⟩,⟨Zj,Zi,Zg⟩,⟨Zf,Ze,Zb⟩⟩,Zt,Zr,ZE,Zy,ZM,ZB,Zw,Zu,Zn,Zx,Zm,Zv,⟨Zp,Zo,Zl⟩,ZD,ZF⟩,⟨none,0,[]⟩⟩) 68)::H) (fun _=>by simp only [List.append_assoc,List.cons_append,List.nil_append]) Tryz.func51 rfl Tryz.ntmps51 rfl ?_;intro H
  refine ZJ (Zq (l:=[0]) rfl ?_)
  refine Xl ?_;intro b1
  refine Zz (Zs (Y_pk [3,0] ?_));refine ZJ (YD (l:=[0,1,2,3,4,5,6,7,8,9,10,11,12,13,14,15,16,17,18]) #[0,1,3,7,15,0,32,96,255,511,1023,2047,4095,8191,16383,1023,33791,131071,262143] _ rfl (by kernel_rfl) (by kernel_rfl) St.drawn (fun _ h=>h) ?_);refine ZA ?_;refine ZT ?_;refine Zk F.foff68_0 ?_;refine Zk F.foff32_8 ?_;refine ZI F.lay3 ?_;refine Zk F.foff44_1 ?_;refine Zk F.foff25_0 ?_;refine ZI F.lay3 ?_;refine YA ?_;refine ZA ?_
  refine Yj 13 rfl (fun hc2=>?_) (fun hc2=>?_)
  ·replace hc2:=dT hc2
   refine ZA ?_;refine ZT ?_;refine Zk F.foff68_0 ?_;refine Zk F.foff32_9 ?_;refine ZI F.lay29 ?_;refine Zk F.foff44_2 ?_;refine ZI F.lay29 ?_;refine YA ?_;refine ZU ?_;refine Zz (Zs (Y_pk [22,0] ?_))
   refine YB rfl (fun hc3=>?_) (fun hc3=>?_)
   ·replace hc3:=dT hc3
    refine Zq (l:=[0,1,2,3,4]) rfl ?_;refine ZA ?_;refine ZT ?_;refine Zk F.foff68_0 ?_;refine Zk F.foff32_8 ?_;refine Yi F.lay3 ?_;refine Zz ?_
    refine Yk (.inl rfl) (.nil) (fun w hw=>?_)
    have h3:XL (ZP.nd ⟨⟨⟨Za,Zc⟩,⟨Zd,Zh⟩,⟨Zj,Zi,Zg⟩,⟨Zf,Ze,Zb⟩⟩,Zt,Zr,ZE,Zy,ZM,ZB,Zw,Zu,Zn,Zx,Zm,Zv,⟨Zp,Zo,Zl⟩,ZD,ZF⟩) (ZN.lt ⟨Yc,⟨ZS,Yq⟩,YM,l_id,⟨Yb,Ya,ZO⟩,YC,⟨ZL,ZV⟩,⟨ZZ,ZX,ZK⟩⟩)=(ZP.nd ⟨⟨⟨Za,Zc⟩,⟨Zd,Zh⟩,⟨Zj,Zi,Zg⟩,⟨Zf,Ze,Zb⟩⟩,Zt,Zr,ZE,Zy,ZM,ZB,Zw,(-1),Zn,Zx,Zm,Zv,⟨Zp,Zo,Zl⟩,ZD,ZF⟩,[]):=does7y hk (show Zu=ZS∧Zn=YM by constructor <;> first|assumption|omega)
    refine ⟨_,M,[(bw,rowO (ZQ.segs ⟨⟨⟨⟨Za,Zc⟩,⟨Zd,Zh⟩,⟨Zj,Zi,Zg⟩,⟨Zf,Ze,Zb⟩⟩,Zt,Zr,ZE,Zy,ZM,ZB,Zw,(-1),Zn,Zx,Zm,Zv,⟨Zp,Zo,Zl⟩,ZD,ZF⟩,⟨none,0,[]⟩⟩) 68)],rfl,Mem.le.refl M,hw.c,rfl,⟨⟨⟨Za,Zc⟩,⟨Zd,Zh⟩,⟨Zj,Zi,Zg⟩,⟨Zf,Ze,Zb⟩⟩,Zt,Zr,ZE,Zy,ZM,ZB,Zw,(-1),Zn,Zx,Zm,Zv,⟨Zp,Zo,Zl⟩,ZD,ZF⟩,⟨none,0,[]⟩,rfl,?_,?_,⟨Yh,Yp⟩,SlK.nil,fun y hy=>by cases hy⟩
    ·rw [h3] <;> rfl
    ·rw [h3] <;> rfl
   ·replace hc3:=dF hc3
    refine Yy ?_
    refine Yk (.inl rfl) (.nil) (fun w hw=>?_)
    have h3:XL (ZP.nd ⟨⟨⟨Za,Zc⟩,⟨Zd,Zh⟩,⟨Zj,Zi,Zg⟩,⟨Zf,Ze,Zb⟩⟩,Zt,Zr,ZE,Zy,ZM,ZB,Zw,Zu,Zn,Zx,Zm,Zv,⟨Zp,Zo,Zl⟩,ZD,ZF⟩) (ZN.lt ⟨Yc,⟨ZS,Yq⟩,YM,l_id,⟨Yb,Ya,ZO⟩,YC,⟨ZL,ZV⟩,⟨ZZ,ZX,ZK⟩⟩)=(ZP.nd ⟨⟨⟨Za,Zc⟩,⟨Zd,Zh⟩,⟨Zj,Zi,Zg⟩,⟨Zf,Ze,Zb⟩⟩,Zt,Zr,ZE,Zy,ZM,ZB,Zw,Zu,Zn,Zx,Zm,Zv,⟨Zp,Zo,Zl⟩,ZD,ZF⟩,[]):=does7n hk (show ¬(Zu=ZS∧Zn=YM) by rintro ⟨q1,q2⟩;first|contradiction|omega)
    refine ⟨_,M,[(bw,rowO (ZQ.segs ⟨⟨⟨⟨Za,Zc⟩,⟨Zd,Zh⟩,⟨Zj,Zi,Zg⟩,⟨Zf,Ze,Zb⟩⟩,Zt,Zr,ZE,Zy,ZM,ZB,Zw,Zu,Zn,Zx,Zm,Zv,⟨Zp,Zo,Zl⟩,ZD,ZF⟩,⟨none,0,[]⟩⟩) 68)],rfl,Mem.le.refl M,hw.c,rfl,⟨⟨⟨Za,Zc⟩,⟨Zd,Zh⟩,⟨Zj,Zi,Zg⟩,⟨Zf,Ze,Zb⟩⟩,Zt,Zr,ZE,Zy,ZM,ZB,Zw,Zu,Zn,Zx,Zm,Zv,⟨Zp,Zo,Zl⟩,ZD,ZF⟩,⟨none,0,[]⟩,rfl,?_,?_,⟨Yh,Yp⟩,SlK.nil,fun y hy=>by cases hy⟩
    ·rw [h3] <;> rfl
    ·rw [h3] <;> rfl
  ·replace hc2:=dF hc2
   iterate 8 refine Yw ?_
   refine ZU ?_;refine Zz (Zs (Y_pk [22,0] ?_));refine Wd rfl ?_;refine Yy ?_
   refine Yk (.inl rfl) (.nil) (fun w hw=>?_)
   have h3:XL (ZP.nd ⟨⟨⟨Za,Zc⟩,⟨Zd,Zh⟩,⟨Zj,Zi,Zg⟩,⟨Zf,Ze,Zb⟩⟩,Zt,Zr,ZE,Zy,ZM,ZB,Zw,Zu,Zn,Zx,Zm,Zv,⟨Zp,Zo,Zl⟩,ZD,ZF⟩) (ZN.lt ⟨Yc,⟨ZS,Yq⟩,YM,l_id,⟨Yb,Ya,ZO⟩,YC,⟨ZL,ZV⟩,⟨ZZ,ZX,ZK⟩⟩)=(ZP.nd ⟨⟨⟨Za,Zc⟩,⟨Zd,Zh⟩,⟨Zj,Zi,Zg⟩,⟨Zf,Ze,Zb⟩⟩,Zt,Zr,ZE,Zy,ZM,ZB,Zw,Zu,Zn,Zx,Zm,Zv,⟨Zp,Zo,Zl⟩,ZD,ZF⟩,[]):=does7n hk (show ¬(Zu=ZS∧Zn=YM) by rintro ⟨q1,q2⟩;first|contradiction|omega)
   refine ⟨_,M,[(bw,rowO (ZQ.segs ⟨⟨⟨⟨Za,Zc⟩,⟨Zd,Zh⟩,⟨Zj,Zi,Zg⟩,⟨Zf,Ze,Zb⟩⟩,Zt,Zr,ZE,Zy,ZM,ZB,Zw,Zu,Zn,Zx,Zm,Zv,⟨Zp,Zo,Zl⟩,ZD,ZF⟩,⟨none,0,[]⟩⟩) 68)],rfl,Mem.le.refl M,hw.c,rfl,⟨⟨⟨Za,Zc⟩,⟨Zd,Zh⟩,⟨Zj,Zi,Zg⟩,⟨Zf,Ze,Zb⟩⟩,Zt,Zr,ZE,Zy,ZM,ZB,Zw,Zu,Zn,Zx,Zm,Zv,⟨Zp,Zo,Zl⟩,ZD,ZF⟩,⟨none,0,[]⟩,rfl,?_,?_,⟨Yh,Yp⟩,SlK.nil,fun y hy=>by cases hy⟩
   ·rw [h3] <;> rfl
   ·rw [h3] <;> rfl
end Go.Proofs.YtajmnjefajknoaaGreat
namespace Go.Proofs.YtajmnjefajknoaaGreat
open Go.Esp
theorem F.ok102:okFn Tryz.prog 102=true:=by kernel_rfl
theorem F.ok53:okFn Tryz.prog 53=true:=by kernel_rfl
theorem end_ok (M:Mem) (bw:Nat) (Za:Int) (Zc:Plc) (Zd:Int) (Zh:Plc) (Zj Zf Zp:Option Addr) (Zi Ze Zo:Nat) (Zg Zb:List ZC) (Zl:List Int) (Zt:Int) (Zr:Bool) (ZE Zy ZM ZB Zw Zu Zn Zx Zm:Int) (Zv:Plc) (ZD ZF:Int) (Yh:ZR.ok M ⟨⟨Za,Zc⟩,⟨Zd,Zh⟩,⟨Zj,Zi,Zg⟩,⟨Zf,Ze,Zb⟩⟩) (Yp:SlK M (oneI .i64) 1 ⟨Zp,Zo,Zl⟩) (p:ZC):Fh Tryz.prog 102 [.pointer (some ⟨bw,0,none⟩),p.enc] M [(bw,rowO (ZQ.segs ⟨⟨⟨⟨Za,Zc⟩,⟨Zd,Zh⟩,⟨Zj,Zi,Zg⟩,⟨Zf,Ze,Zb⟩⟩,Zt,Zr,ZE,Zy,ZM,ZB,Zw,Zu,Zn,Zx,Zm,Zv,⟨Zp,Zo,Zl⟩,ZD,ZF⟩,⟨none,0,[]⟩⟩) 68)] (fun M' v Hout=>v=.tuple #[]∧∃ n9:ZP,Hout=[(bw,rowO (ZQ.segs ⟨n9,⟨none,0,[]⟩⟩) 68)]∧ZP.ok M' n9∧n9.nd=endN (ZP.nd ⟨⟨⟨Za,Zc⟩,⟨Zd,Zh⟩,⟨Zj,Zi,Zg⟩,⟨Zf,Ze,Zb⟩⟩,Zt,Zr,ZE,Zy,ZM,ZB,Zw,Zu,Zn,Zx,Zm,Zv,⟨Zp,Zo,Zl⟩,ZD,ZF⟩) p):=by
  obtain ⟨YR,p_id⟩:=p
  refine XJ (fun H=>(bw,rowO (ZQ.segs ⟨⟨⟨⟨Za,Zc⟩,⟨Zd,Zh⟩,⟨Zj,Zi,Zg⟩,⟨Zf,Ze,Zb⟩⟩,Zt,Zr,ZE,Zy,ZM,ZB,Zw,Zu,Zn,Zx,Zm,Zv,⟨Zp,Zo,Zl⟩,ZD,ZF⟩,⟨none,0,[]⟩⟩) 68)::H) (fun _=>by simp only [List.append_assoc,List.cons_append,List.nil_append]) Tryz.func102 rfl Tryz.ntmps102 rfl ?_;intro H
  refine ZJ (Zq (l:=[0]) rfl ?_)
  refine Xl ?_;intro b1
  refine Zz (Zs (Y_pk [3,0] ?_));refine Xg (ZJ (YD (l:=[0,1,2,3,4,5,6,7,8,9,10,11,12,13,14,15,16,17,18,19,20]) #[0,1,3,7,15,31,63,63,255,511,1023,1023,3071,7167,15359,31743,64511,131071,262143,524287,1048575] _ rfl (by kernel_rfl) (by kernel_rfl) St.drawn (fun _ h=>h) ?_));refine ZA ?_;refine ZT ?_;refine Zk F.foff68_0 ?_;refine Zk F.foff32_2 ?_;refine ZI F.lay4 ?_;refine ZA ?_
  refine Yj 10 rfl (fun hc2=>?_) (fun hc2=>?_)
  ·skip
   refine ZA ?_;refine ZI F.lay25 ?_;refine X_fo rfl rfl F.ok53 rfl (wother_ok M bw Za Zc Zd Zh Zj Zf Zp Zi Ze Zo Zg Zb Zl Zt Zr ZE Zy ZM ZB Zw Zu Zn Zx Zm Zv ZD ZF ⟨YR,p_id⟩) (by repeat first|exact Rem.here _|exact Rem.two|apply Rem.skip|apply Rem.over) (Yu rfl) ?_
   rintro _ M1 _ ⟨hM1,rfl⟩;subst M1
   refine ZA ?_
   refine Yj 14 rfl (fun hc3=>?_) (fun hc3=>?_)
   ·replace hc3:=dT hc3
    iterate 8 refine Yw ?_
    iterate 2 refine ZU ?_
    refine ZG ?_;refine Zz (Zs (Y_pk [4,3,0] ?_));refine Xq rfl ?_;refine Xi (l:=[0,1,2]) [2] rfl ?_;refine ZA ?_;refine ZI F.lay25 ?_;refine Wo rfl rfl rfl F.ok87 rfl (point_ok M bw Za Zc Zd Zh Zj Zf Zp Zi Ze Zo Zg Zb Zl Zt Zr ZE Zy ZM ZB Zw Zu Zn Zx Zm Zv ZD ZF Yh ⟨YR,p_id⟩) (by repeat first|exact Rem.here _|exact Rem.two|apply Rem.skip|apply Rem.over) (Yu rfl) ?_
    rintro _ M1 hs1 hm1 ⟨rfl,⟨⟨wa,wi⟩,⟨wq,wj⟩,⟨w1a,w1c,w1l⟩,⟨w2a,w2c,w2l⟩⟩,c9,rfl,okl,hv1⟩
    simp only [List.append_assoc,List.cons_append,List.nil_append]
    refine Zz (Wb ?_);refine XY ?_
    refine Yk (.inl rfl) (.nil) (fun w hw=>?_)
    (refine ⟨_,M1,[(bw,rowO (ZQ.segs ⟨⟨⟨⟨wa,wi⟩,⟨wq,wj⟩,⟨w1a,w1c,w1l⟩,⟨w2a,w2c,w2l⟩⟩,Zt,Zr,ZE,c9,ZM,ZB,Zw,Zu,Zn,Zx,Zm,Zv,⟨Zp,Zo,Zl⟩,ZD,ZF⟩,⟨none,0,[]⟩⟩) 68)],rfl,hm1,?_,rfl,⟨⟨⟨wa,wi⟩,⟨wq,wj⟩,⟨w1a,w1c,w1l⟩,⟨w2a,w2c,w2l⟩⟩,Zt,Zr,ZE,c9,ZM,ZB,Zw,Zu,Zn,Zx,Zm,Zv,⟨Zp,Zo,Zl⟩,ZD,ZF⟩,rfl,⟨okl,Yp.mono hm1⟩,hv1.trans (end_point (n:=(ZP.nd ⟨⟨⟨Za,Zc⟩,⟨Zd,Zh⟩,⟨Zj,Zi,Zg⟩,⟨Zf,Ze,Zb⟩⟩,Zt,Zr,ZE,Zy,ZM,ZB,Zw,Zu,Zn,Zx,Zm,Zv,⟨Zp,Zo,Zl⟩,ZD,ZF⟩)) (show Zr=true by first|assumption|(simp_all;done)) (show Xf ⟨Za,Zc⟩ ⟨YR,p_id⟩∨(⟨YR,p_id⟩:ZC)=⟨Za,Zc⟩ by first|exact .inl (by assumption)|exact .inr (by assumption))).symm⟩;simp only [ZQ.segs,Sl.val,List.length_nil] at hw ⊢;exact hw.c)
   ·replace hc3:=dF hc3
    refine ZI F.lay25 ?_;refine ZA ?_;refine ZT ?_;refine Zk F.foff68_0 ?_;refine Zk F.foff32_0 ?_;refine Zk F.foff28_0 ?_;refine ZI F.lay25 ?_
    refine Wu (m:=20) rfl rfl rfl rfl rfl (by constructor) (by constructor) F.lay25 F.kinds25 rfl F.guard25 (by exact Xj (⟨_,_⟩)) (by exact Xj (⟨_,_⟩)) rfl rfl rfl ?_;intro c4 he5
    replace he5:c4=true↔Segs.cells _=Segs.cells _:=he5
    obtain rfl:=eqD he5 (ZC.inj (x:=⟨_,_⟩) (y:=⟨_,_⟩));clear he5
    iterate 2 refine ZU ?_
    refine ZG ?_;refine Zz (Zs (Y_pk [4,3,0] ?_))
    refine YB rfl (fun hc6=>?_) (fun hc6=>?_)
    ·replace hc6:=dT hc6
     refine Xi (l:=[0,1,2]) [2] rfl ?_;refine ZA ?_;refine ZI F.lay25 ?_;refine Wo rfl rfl rfl F.ok87 rfl (point_ok M bw Za Zc Zd Zh Zj Zf Zp Zi Ze Zo Zg Zb Zl Zt Zr ZE Zy ZM ZB Zw Zu Zn Zx Zm Zv ZD ZF Yh ⟨YR,p_id⟩) (by repeat first|exact Rem.here _|exact Rem.two|apply Rem.skip|apply Rem.over) (Yu rfl) ?_
     rintro _ M1 hs1 hm1 ⟨rfl,⟨⟨wa,wi⟩,⟨wq,wj⟩,⟨w1a,w1c,w1l⟩,⟨w2a,w2c,w2l⟩⟩,c9,rfl,okl,hv1⟩
     simp only [List.append_assoc,List.cons_append,List.nil_append]
     refine Zz (Wb ?_);refine XY ?_
     refine Yk (.inl rfl) (.nil) (fun w hw=>?_)
     (refine ⟨_,M1,[(bw,rowO (ZQ.segs ⟨⟨⟨⟨wa,wi⟩,⟨wq,wj⟩,⟨w1a,w1c,w1l⟩,⟨w2a,w2c,w2l⟩⟩,Zt,Zr,ZE,c9,ZM,ZB,Zw,Zu,Zn,Zx,Zm,Zv,⟨Zp,Zo,Zl⟩,ZD,ZF⟩,⟨none,0,[]⟩⟩) 68)],rfl,hm1,?_,rfl,⟨⟨⟨wa,wi⟩,⟨wq,wj⟩,⟨w1a,w1c,w1l⟩,⟨w2a,w2c,w2l⟩⟩,Zt,Zr,ZE,c9,ZM,ZB,Zw,Zu,Zn,Zx,Zm,Zv,⟨Zp,Zo,Zl⟩,ZD,ZF⟩,rfl,⟨okl,Yp.mono hm1⟩,hv1.trans (end_point (n:=(ZP.nd ⟨⟨⟨Za,Zc⟩,⟨Zd,Zh⟩,⟨Zj,Zi,Zg⟩,⟨Zf,Ze,Zb⟩⟩,Zt,Zr,ZE,Zy,ZM,ZB,Zw,Zu,Zn,Zx,Zm,Zv,⟨Zp,Zo,Zl⟩,ZD,ZF⟩)) (show Zr=true by first|assumption|(simp_all;done)) (show Xf ⟨Za,Zc⟩ ⟨YR,p_id⟩∨(⟨YR,p_id⟩:ZC)=⟨Za,Zc⟩ by first|exact .inl (by assumption)|exact .inr (by assumption))).symm⟩;simp only [ZQ.segs,Sl.val,List.length_nil] at hw ⊢;exact hw.c)
    ·replace hc6:=dF hc6
     refine ZJ (Zq (l:=[0,1,2,3,4,5,6,7,8,9,10,11]) rfl ?_);refine ZA ?_;refine ZT ?_;refine Zk F.foff68_0 ?_;refine Zk F.foff32_2 ?_;refine ZI F.lay4 ?_;refine Xp ?_;refine ZA ?_
     refine Yj 35 rfl (fun hc7=>?_) (fun hc7=>?_)
     ·skip
      refine ZA ?_;refine ZI F.lay25 ?_;refine X_fo rfl rfl F.ok53 rfl (wother_ok M bw Za Zc Zd Zh Zj Zf Zp Zi Ze Zo Zg Zb Zl Zt Zr ZE Zy ZM ZB Zw Zu Zn Zx Zm Zv ZD ZF ⟨YR,p_id⟩) (by repeat first|exact Rem.here _|exact Rem.two|apply Rem.skip|apply Rem.over) (Yu rfl) ?_
      rintro _ M1 _ ⟨hM1,rfl⟩;subst M1
      refine ZU ?_;refine ZG ?_;refine Zz (Zs (Y_pk [28,3,0] ?_))
      refine YB rfl (fun hc8=>?_) (fun hc8=>?_)
      ·replace hc8:=dT hc8
       contradiction
      ·replace hc8:=dF hc8
       refine Yy (XY ?_)
       refine Yk (.inl rfl) (.nil) (fun w hw=>?_)
       (exfalso;simp_all;done)
     ·skip
      iterate 3 refine Yw ?_
      refine ZU ?_;refine ZG ?_;refine Zz (Zs (Y_pk [28,3,0] ?_));refine Wd rfl ?_;refine Yy (XY ?_)
      refine Yk (.inl rfl) (.nil) (fun w hw=>?_)
      (refine ⟨_,M,[(bw,rowO (ZQ.segs ⟨⟨⟨⟨Za,Zc⟩,⟨Zd,Zh⟩,⟨Zj,Zi,Zg⟩,⟨Zf,Ze,Zb⟩⟩,Zt,Zr,ZE,Zy,ZM,ZB,Zw,Zu,Zn,Zx,Zm,Zv,⟨Zp,Zo,Zl⟩,ZD,ZF⟩,⟨none,0,[]⟩⟩) 68)],rfl,Mem.le.refl M,?_,rfl,⟨⟨⟨Za,Zc⟩,⟨Zd,Zh⟩,⟨Zj,Zi,Zg⟩,⟨Zf,Ze,Zb⟩⟩,Zt,Zr,ZE,Zy,ZM,ZB,Zw,Zu,Zn,Zx,Zm,Zv,⟨Zp,Zo,Zl⟩,ZD,ZF⟩,rfl,⟨Yh,Yp⟩,(end_not (n:=(ZP.nd ⟨⟨⟨Za,Zc⟩,⟨Zd,Zh⟩,⟨Zj,Zi,Zg⟩,⟨Zf,Ze,Zb⟩⟩,Zt,Zr,ZE,Zy,ZM,ZB,Zw,Zu,Zn,Zx,Zm,Zv,⟨Zp,Zo,Zl⟩,ZD,ZF⟩)) (p:=⟨YR,p_id⟩) (fun q=>by
       have q9:Zr=true:=q
       exact ⟨show ¬Xf ⟨Za,Zc⟩ ⟨YR,p_id⟩ by first|assumption|(exfalso;simp_all;done),show ¬(⟨YR,p_id⟩:ZC)=⟨Za,Zc⟩ by first|assumption|(exfalso;simp_all;done)⟩) (fun q=>by
       have q9:Zr=false:=q
       (show ¬Xf ⟨Za,Zc⟩ ⟨YR,p_id⟩;assumption))).symm⟩;simp only [ZQ.segs,Sl.val,List.length_nil] at hw ⊢;exact hw.c)
  ·skip
   iterate 13 refine Yw ?_
   refine ZU ?_;refine ZG ?_;refine Zz (Zs (Y_pk [4,3,0] ?_));refine Wd rfl ?_;refine ZJ (Zq (l:=[0,1,2,3,4,5,6,7,8,9,10,11]) rfl ?_);refine ZA ?_;refine ZT ?_;refine Zk F.foff68_0 ?_;refine Zk F.foff32_2 ?_;refine ZI F.lay4 ?_;refine Xp ?_;refine ZA ?_
   refine Yj 35 rfl (fun hc9=>?_) (fun hc9=>?_)
   ·skip
    refine ZA ?_;refine ZI F.lay25 ?_;refine X_fo rfl rfl F.ok53 rfl (wother_ok M bw Za Zc Zd Zh Zj Zf Zp Zi Ze Zo Zg Zb Zl Zt Zr ZE Zy ZM ZB Zw Zu Zn Zx Zm Zv ZD ZF ⟨YR,p_id⟩) (by repeat first|exact Rem.here _|exact Rem.two|apply Rem.skip|apply Rem.over) (Yu rfl) ?_
    rintro _ M1 _ ⟨hM1,rfl⟩;subst M1
    refine ZU ?_;refine ZG ?_;refine Zz (Zs (Y_pk [28,3,0] ?_))
    refine YB rfl (fun hc10=>?_) (fun hc10=>?_)
    ·replace hc10:=dT hc10
     refine ZJ (Xi (l:=[0,1,2]) [2] rfl ?_);refine ZA ?_;refine ZI F.lay25 ?_;refine Wo rfl rfl rfl F.ok82 rfl (adopt_ok M bw Za Zc Zd Zh Zj Zf Zp Zi Ze Zo Zg Zb Zl Zt Zr ZE Zy ZM ZB Zw Zu Zn Zx Zm Zv ZD ZF Yh ⟨YR,p_id⟩ ⟨none,0,[]⟩ SlK.nil) (by repeat first|exact Rem.here _|exact Rem.two|apply Rem.skip|apply Rem.over) (Yu rfl) ?_
     rintro _ M1 hs1 hm1 ⟨rfl,⟨⟨wa,wi⟩,⟨wq,wj⟩,⟨w1a,w1c,w1l⟩,⟨w2a,w2c,w2l⟩⟩,rfl,okl,hv1⟩
     simp only [List.append_assoc,List.cons_append,List.nil_append]
     refine Zz (Wb ?_);refine Zs (Y_pk [0] ?_);refine Zq (l:=[0,1,2,3,4,5,6,7,8,9,10,11,12,13,14]) rfl ?_
     iterate 3 refine ZA ?_
     refine ZT ?_;refine Zk F.foff68_0 ?_;refine Zk F.foff32_2 ?_;refine Yi F.lay4 ?_;refine ZT ?_;refine Zk F.foff68_0 ?_;refine Zk F.foff32_4 ?_;refine Yi F.lay3 ?_;refine ZT ?_;refine Zk F.foff68_0 ?_;refine Zk F.foff32_13 ?_;refine Yi F.lay30 ?_;refine Zz (XY ?_)
     refine Yk (.inl rfl) (.nil) (fun w hw=>?_)
     (refine ⟨_,M1,[(bw,rowO (ZQ.segs ⟨⟨⟨⟨wa,wi⟩,⟨wq,wj⟩,⟨w1a,w1c,w1l⟩,⟨w2a,w2c,w2l⟩⟩,Zt,true,ZE,0,ZM,ZB,Zw,Zu,Zn,Zx,Zm,Zv,⟨none,0,[]⟩,ZD,ZF⟩,⟨none,0,[]⟩⟩) 68)],rfl,hm1,?_,rfl,⟨⟨⟨wa,wi⟩,⟨wq,wj⟩,⟨w1a,w1c,w1l⟩,⟨w2a,w2c,w2l⟩⟩,Zt,true,ZE,0,ZM,ZB,Zw,Zu,Zn,Zx,Zm,Zv,⟨none,0,[]⟩,ZD,ZF⟩,rfl,⟨okl,SlK.nil⟩,(end_adopt (n:=(ZP.nd ⟨⟨⟨Za,Zc⟩,⟨Zd,Zh⟩,⟨Zj,Zi,Zg⟩,⟨Zf,Ze,Zb⟩⟩,Zt,Zr,ZE,Zy,ZM,ZB,Zw,Zu,Zn,Zx,Zm,Zv,⟨Zp,Zo,Zl⟩,ZD,ZF⟩)) (show Zr=false by first|assumption|(simp_all;done)) (show Xf ⟨Za,Zc⟩ ⟨YR,p_id⟩ by assumption) hv1).symm⟩;simp only [ZQ.segs,Sl.val,List.length_nil] at hw ⊢;exact hw.c)
    ·replace hc10:=dF hc10
     refine Yy (XY ?_)
     refine Yk (.inl rfl) (.nil) (fun w hw=>?_)
     (refine ⟨_,M,[(bw,rowO (ZQ.segs ⟨⟨⟨⟨Za,Zc⟩,⟨Zd,Zh⟩,⟨Zj,Zi,Zg⟩,⟨Zf,Ze,Zb⟩⟩,Zt,Zr,ZE,Zy,ZM,ZB,Zw,Zu,Zn,Zx,Zm,Zv,⟨Zp,Zo,Zl⟩,ZD,ZF⟩,⟨none,0,[]⟩⟩) 68)],rfl,Mem.le.refl M,?_,rfl,⟨⟨⟨Za,Zc⟩,⟨Zd,Zh⟩,⟨Zj,Zi,Zg⟩,⟨Zf,Ze,Zb⟩⟩,Zt,Zr,ZE,Zy,ZM,ZB,Zw,Zu,Zn,Zx,Zm,Zv,⟨Zp,Zo,Zl⟩,ZD,ZF⟩,rfl,⟨Yh,Yp⟩,(end_not (n:=(ZP.nd ⟨⟨⟨Za,Zc⟩,⟨Zd,Zh⟩,⟨Zj,Zi,Zg⟩,⟨Zf,Ze,Zb⟩⟩,Zt,Zr,ZE,Zy,ZM,ZB,Zw,Zu,Zn,Zx,Zm,Zv,⟨Zp,Zo,Zl⟩,ZD,ZF⟩)) (p:=⟨YR,p_id⟩) (fun q=>by
      have q9:Zr=true:=q
      exact ⟨show ¬Xf ⟨Za,Zc⟩ ⟨YR,p_id⟩ by first|assumption|(exfalso;simp_all;done),show ¬(⟨YR,p_id⟩:ZC)=⟨Za,Zc⟩ by first|assumption|(exfalso;simp_all;done)⟩) (fun q=>by
      have q9:Zr=false:=q
      (show ¬Xf ⟨Za,Zc⟩ ⟨YR,p_id⟩;assumption))).symm⟩;simp only [ZQ.segs,Sl.val,List.length_nil] at hw ⊢;exact hw.c)
   ·skip
    iterate 3 refine Yw ?_
    refine ZU ?_;refine ZG ?_;refine Zz (Zs (Y_pk [28,3,0] ?_));refine Wd rfl ?_;refine Yy (XY ?_)
    refine Yk (.inl rfl) (.nil) (fun w hw=>?_)
    (exfalso;simp_all;done)
theorem found_ok (M:Mem) (bw:Nat) (Za:Int) (Zc:Plc) (Zd:Int) (Zh:Plc) (Zj Zf Zp:Option Addr) (Zi Ze Zo:Nat) (Zg Zb:List ZC) (Zl:List Int) (Zt:Int) (Zr:Bool) (ZE Zy ZM ZB Zw Zu Zn Zx Zm:Int) (Zv:Plc) (ZD ZF:Int) (Yh:ZR.ok M ⟨⟨Za,Zc⟩,⟨Zd,Zh⟩,⟨Zj,Zi,Zg⟩,⟨Zf,Ze,Zb⟩⟩) (Yp:SlK M (oneI .i64) 1 ⟨Zp,Zo,Zl⟩) (hbig:Zg.length≤40∧Zb.length≤200) (hLa:Zl.length≤1000) (hh:0≤ZD∧ZD≤1000) (l:ZN) (hl0:ZN.ok M l) (hLp:l.peers.l.length≤1000) (hk:l.kind=2):Fh Tryz.prog 46 [.pointer (some ⟨bw,0,none⟩),l.enc] M [(bw,rowO (ZQ.segs ⟨⟨⟨⟨Za,Zc⟩,⟨Zd,Zh⟩,⟨Zj,Zi,Zg⟩,⟨Zf,Ze,Zb⟩⟩,Zt,Zr,ZE,Zy,ZM,ZB,Zw,Zu,Zn,Zx,Zm,Zv,⟨Zp,Zo,Zl⟩,ZD,ZF⟩,⟨none,0,[]⟩⟩) 68)] (fun M' v Hout=>v=.tuple #[]∧WkF bw 68 M' Hout (XL (ZP.nd ⟨⟨⟨Za,Zc⟩,⟨Zd,Zh⟩,⟨Zj,Zi,Zg⟩,⟨Zf,Ze,Zb⟩⟩,Zt,Zr,ZE,Zy,ZM,ZB,Zw,Zu,Zn,Zx,Zm,Zv,⟨Zp,Zo,Zl⟩,ZD,ZF⟩) l.lt)):=by
  obtain ⟨Yc,⟨ZS,Yq⟩,YM,l_id,⟨Yb,Ya,ZO⟩,YC,⟨ZL,ZV⟩,⟨ZZ,ZX,ZK⟩⟩:=l
  simp only at hLp hk
  have Xm:SlK M (oneI .i64) 1 ⟨Yb,Ya,ZO⟩:=hl0.h0
  have YZ:SlK M ZC.segs 21 ⟨ZZ,ZX,ZK⟩:=hl0.h1
  have XI:=YZ.h1
  simp only at XI
  have WA:(ZK.map ZC.segs).length=ZK.length:=List.length_map ..
  have WB:ZK.length≤ZX:=YZ.h3
  refine XJ (fun H=>(bw,rowO (ZQ.segs ⟨⟨⟨⟨Za,Zc⟩,⟨Zd,Zh⟩,⟨Zj,Zi,Zg⟩,⟨Zf,Ze,Zb⟩⟩,Zt,Zr,ZE,Zy,ZM,ZB,Zw,Zu,Zn,Zx,Zm,Zv,⟨Zp,Zo,Zl⟩,ZD,ZF⟩,⟨none,0,[]⟩⟩) 68)::H) (fun _=>by simp only [List.append_assoc,List.cons_append,List.nil_append]) Tryz.func46 rfl Tryz.ntmps46 rfl ?_;intro H
  refine ZJ (Zq (l:=[0]) rfl ?_)
  refine Xl ?_;intro b1
  refine Zz (Zs (Y_pk [3,0] ?_))
  iterate 2 refine ZJ ?_
  refine YD (l:=[0,1,2,3,4,5,6,7,8,9,10,11,12,13,14,15,16,17,18]) #[0,1,3,7,15,0,32,96,255,511,1023,2047,4095,8191,16383,1023,33791,131071,262143] _ rfl (by kernel_rfl) (by kernel_rfl) St.drawn (fun _ h=>h) ?_;refine ZA ?_;refine ZT ?_;refine Zk F.foff68_0 ?_;refine Zk F.foff32_10 ?_;refine ZI F.lay3 ?_;refine Zk F.foff44_1 ?_;refine Zk F.foff25_0 ?_;refine ZI F.lay3 ?_;refine YA ?_;refine ZA ?_
  refine Yj 13 rfl (fun hc2=>?_) (fun hc2=>?_)
  ·replace hc2:=nT hc2
   iterate 8 refine Yw ?_
   refine ZU ?_;refine Zz (Zs (Y_pk [22,3,0] ?_));refine Xq rfl ?_;refine Yv (Xc ?_)
   refine Yk (.inr rfl) (.nil) (fun w hw=>?_)
   have h3:XL (ZP.nd ⟨⟨⟨Za,Zc⟩,⟨Zd,Zh⟩,⟨Zj,Zi,Zg⟩,⟨Zf,Ze,Zb⟩⟩,Zt,Zr,ZE,Zy,ZM,ZB,Zw,Zu,Zn,Zx,Zm,Zv,⟨Zp,Zo,Zl⟩,ZD,ZF⟩) (ZN.lt ⟨Yc,⟨ZS,Yq⟩,YM,l_id,⟨Yb,Ya,ZO⟩,YC,⟨ZL,ZV⟩,⟨ZZ,ZX,ZK⟩⟩)=((ZP.nd ⟨⟨⟨Za,Zc⟩,⟨Zd,Zh⟩,⟨Zj,Zi,Zg⟩,⟨Zf,Ze,Zb⟩⟩,Zt,Zr,ZE,Zy,ZM,ZB,Zw,Zu,Zn,Zx,Zm,Zv,⟨Zp,Zo,Zl⟩,ZD,ZF⟩),[]):=(does2 hk).trans (found_no (by exact .inl (by assumption)))
   refine ⟨_,M,[(bw,rowO (ZQ.segs ⟨⟨⟨⟨Za,Zc⟩,⟨Zd,Zh⟩,⟨Zj,Zi,Zg⟩,⟨Zf,Ze,Zb⟩⟩,Zt,Zr,ZE,Zy,ZM,ZB,Zw,Zu,Zn,Zx,Zm,Zv,⟨Zp,Zo,Zl⟩,ZD,ZF⟩,⟨none,0,[]⟩⟩) 68)],rfl,Mem.le.refl M,hw.c,rfl,⟨⟨⟨Za,Zc⟩,⟨Zd,Zh⟩,⟨Zj,Zi,Zg⟩,⟨Zf,Ze,Zb⟩⟩,Zt,Zr,ZE,Zy,ZM,ZB,Zw,Zu,Zn,Zx,Zm,Zv,⟨Zp,Zo,Zl⟩,ZD,ZF⟩,⟨none,0,[]⟩,rfl,?_,?_,⟨Yh,Yp⟩,SlK.nil,fun y hy=>by cases hy⟩
   ·rw [h3] <;> rfl
   ·rw [h3] <;> rfl
  ·replace hc2:=nF hc2
   refine ZA ?_;refine ZT ?_;refine Zk F.foff68_0 ?_;refine Zk F.foff32_11 ?_;refine ZI F.lay29 ?_;refine Zk F.foff44_2 ?_;refine ZI F.lay29 ?_;refine YA ?_;refine ZU ?_;refine Zz (Zs (Y_pk [22,3,0] ?_))
   refine YB rfl (fun hc3=>?_) (fun hc3=>?_)
   ·replace hc3:=nT hc3
    refine Yv (Xc ?_)
    refine Yk (.inr rfl) (.nil) (fun w hw=>?_)
    have h3:XL (ZP.nd ⟨⟨⟨Za,Zc⟩,⟨Zd,Zh⟩,⟨Zj,Zi,Zg⟩,⟨Zf,Ze,Zb⟩⟩,Zt,Zr,ZE,Zy,ZM,ZB,Zw,Zu,Zn,Zx,Zm,Zv,⟨Zp,Zo,Zl⟩,ZD,ZF⟩) (ZN.lt ⟨Yc,⟨ZS,Yq⟩,YM,l_id,⟨Yb,Ya,ZO⟩,YC,⟨ZL,ZV⟩,⟨ZZ,ZX,ZK⟩⟩)=((ZP.nd ⟨⟨⟨Za,Zc⟩,⟨Zd,Zh⟩,⟨Zj,Zi,Zg⟩,⟨Zf,Ze,Zb⟩⟩,Zt,Zr,ZE,Zy,ZM,ZB,Zw,Zu,Zn,Zx,Zm,Zv,⟨Zp,Zo,Zl⟩,ZD,ZF⟩),[]):=(does2 hk).trans (found_no (by exact .inr (by assumption)))
    refine ⟨_,M,[(bw,rowO (ZQ.segs ⟨⟨⟨⟨Za,Zc⟩,⟨Zd,Zh⟩,⟨Zj,Zi,Zg⟩,⟨Zf,Ze,Zb⟩⟩,Zt,Zr,ZE,Zy,ZM,ZB,Zw,Zu,Zn,Zx,Zm,Zv,⟨Zp,Zo,Zl⟩,ZD,ZF⟩,⟨none,0,[]⟩⟩) 68)],rfl,Mem.le.refl M,hw.c,rfl,⟨⟨⟨Za,Zc⟩,⟨Zd,Zh⟩,⟨Zj,Zi,Zg⟩,⟨Zf,Ze,Zb⟩⟩,Zt,Zr,ZE,Zy,ZM,ZB,Zw,Zu,Zn,Zx,Zm,Zv,⟨Zp,Zo,Zl⟩,ZD,ZF⟩,⟨none,0,[]⟩,rfl,?_,?_,⟨Yh,Yp⟩,SlK.nil,fun y hy=>by cases hy⟩
    ·rw [h3] <;> rfl
    ·rw [h3] <;> rfl
   ·replace hc3:=nF hc3
    refine Yy (Zs (Y_pk [3,0] ?_))
    iterate 2 refine ZJ ?_
    refine Zq (l:=[0,1]) rfl ?_;refine Zk F.foff44_5 ?_;refine ZI F.lay4 ?_;refine Zz (Zs (Y_pk [24,3,0] ?_))
    refine YB rfl (fun hc4=>?_) (fun hc4=>?_)
    ·skip
     refine ZJ (Zq (l:=[0,1,2,3,4]) rfl ?_);refine ZA ?_;refine ZT ?_;refine Zk F.foff68_0 ?_;refine Zk F.foff32_10 ?_;refine Yi F.lay3 ?_;refine Zz (Zs (Y_pk [3,0] ?_));refine ZJ (Xi (l:=[0,1,2,3]) [3] rfl ?_);refine ZA ?_;refine Zk F.foff44_6 ?_;refine ZI F.lay25 ?_;refine Wo rfl rfl rfl F.ok102 rfl (end_ok M bw Za Zc Zd Zh Zj Zf Zp Zi Ze Zo Zg Zb Zl Zt Zr ZE Zy ZM ZB Zw Zu Zn (-1) Zm Zv ZD ZF Yh Yp ⟨ZL,ZV⟩) (by repeat first|exact Rem.here _|exact Rem.two|apply Rem.skip|apply Rem.over) (Yu rfl) ?_
     rintro _ M1 hs1 hm1 ⟨rfl,⟨⟨⟨YH,YP⟩,⟨YI,YQ⟩,⟨YW,YV,YU⟩,⟨YL,YK,YJ⟩⟩,XG,XK,Wk,XF,WJ,XW,XH,XB,Xr,XC,Xs,XE,⟨Xv,Xu,Xt⟩,Wi,Wh⟩,rfl,okv,hv1⟩
     simp only [List.append_assoc,List.cons_append,List.nil_append]
     refine Zz (Wb ?_);refine Zs (Y_pk [3,0] ?_);refine Yv (Xc ?_)
     refine Yk (.inr rfl) (.nil) (fun w hw=>?_)
     have h3:XL (ZP.nd ⟨⟨⟨Za,Zc⟩,⟨Zd,Zh⟩,⟨Zj,Zi,Zg⟩,⟨Zf,Ze,Zb⟩⟩,Zt,Zr,ZE,Zy,ZM,ZB,Zw,Zu,Zn,Zx,Zm,Zv,⟨Zp,Zo,Zl⟩,ZD,ZF⟩) (ZN.lt ⟨Yc,⟨ZS,Yq⟩,YM,l_id,⟨Yb,Ya,ZO⟩,YC,⟨ZL,ZV⟩,⟨ZZ,ZX,ZK⟩⟩)=(ZP.nd ⟨⟨⟨YH,YP⟩,⟨YI,YQ⟩,⟨YW,YV,YU⟩,⟨YL,YK,YJ⟩⟩,XG,XK,Wk,XF,WJ,XW,XH,XB,Xr,XC,Xs,XE,⟨Xv,Xu,Xt⟩,Wi,Wh⟩,[]):=(does2 hk).trans ((found_end (n:=(ZP.nd ⟨⟨⟨Za,Zc⟩,⟨Zd,Zh⟩,⟨Zj,Zi,Zg⟩,⟨Zf,Ze,Zb⟩⟩,Zt,Zr,ZE,Zy,ZM,ZB,Zw,Zu,Zn,Zx,Zm,Zv,⟨Zp,Zo,Zl⟩,ZD,ZF⟩)) (l:=(ZN.lt ⟨Yc,⟨ZS,Yq⟩,YM,l_id,⟨Yb,Ya,ZO⟩,YC,⟨ZL,ZV⟩,⟨ZZ,ZX,ZK⟩⟩)) (show (ZP.nd ⟨⟨⟨Za,Zc⟩,⟨Zd,Zh⟩,⟨Zj,Zi,Zg⟩,⟨Zf,Ze,Zb⟩⟩,Zt,Zr,ZE,Zy,ZM,ZB,Zw,Zu,Zn,Zx,Zm,Zv,⟨Zp,Zo,Zl⟩,ZD,ZF⟩).findTo=(ZN.lt ⟨Yc,⟨ZS,Yq⟩,YM,l_id,⟨Yb,Ya,ZO⟩,YC,⟨ZL,ZV⟩,⟨ZZ,ZX,ZK⟩⟩).frm.addr by show Zx=ZS;first|assumption|omega) (show (ZP.nd ⟨⟨⟨Za,Zc⟩,⟨Zd,Zh⟩,⟨Zj,Zi,Zg⟩,⟨Zf,Ze,Zb⟩⟩,Zt,Zr,ZE,Zy,ZM,ZB,Zw,Zu,Zn,Zx,Zm,Zv,⟨Zp,Zo,Zl⟩,ZD,ZF⟩).findReq=(ZN.lt ⟨Yc,⟨ZS,Yq⟩,YM,l_id,⟨Yb,Ya,ZO⟩,YC,⟨ZL,ZV⟩,⟨ZZ,ZX,ZK⟩⟩).req by show Zm=YM;first|assumption|omega) (show YC=true by first|assumption|(simp_all;done))).trans (congrArg (fun x=>(x,([]:List Snd))) hv1.symm))
     refine ⟨_,M1,[(bw,rowO (ZQ.segs ⟨⟨⟨⟨YH,YP⟩,⟨YI,YQ⟩,⟨YW,YV,YU⟩,⟨YL,YK,YJ⟩⟩,XG,XK,Wk,XF,WJ,XW,XH,XB,Xr,XC,Xs,XE,⟨Xv,Xu,Xt⟩,Wi,Wh⟩,⟨none,0,[]⟩⟩) 68)],rfl,hm1,hw.c,rfl,⟨⟨⟨YH,YP⟩,⟨YI,YQ⟩,⟨YW,YV,YU⟩,⟨YL,YK,YJ⟩⟩,XG,XK,Wk,XF,WJ,XW,XH,XB,Xr,XC,Xs,XE,⟨Xv,Xu,Xt⟩,Wi,Wh⟩,⟨none,0,[]⟩,rfl,?_,?_,okv,SlK.nil,fun y hy=>by cases hy⟩
     ·rw [h3] <;> rfl
     ·rw [h3] <;> rfl
    ·skip
     refine Yy (Zs (Y_pk [3,0] ?_))
     iterate 2 refine ZJ ?_
     refine YD (l:=[0,1,2,3,4,5,6,7,8,9,10,11,12,13,14,15,16,17,18,19,20,21,22,23,24,25,26,27,28,29,30,31,32]) #[0,0,2,7,15,31,63,127,255,511,1023,63,2111,6207,16383,32767,65535,131071,262143,524287,131071,1179647,3276799,8388607,16777215,33554431,67108863,134217727,268435455,536870911,1073741823,2147483647,4294967295] _ rfl (by kernel_rfl) (by kernel_rfl) St.drawn (fun _ h=>h) ?_;refine ZA ?_;refine Zk F.foff44_6 ?_;refine ZI F.lay25 ?_;refine X_fo rfl rfl F.ok53 rfl (wother_ok M bw Za Zc Zd Zh Zj Zf Zp Zi Ze Zo Zg Zb Zl Zt Zr ZE Zy ZM ZB Zw Zu Zn Zx Zm Zv ZD ZF ⟨ZL,ZV⟩) (by repeat first|exact Rem.here _|exact Rem.two|apply Rem.skip|apply Rem.over) (Yu rfl) ?_
     rintro _ M1 _ ⟨hM1,rfl⟩;subst M1
     refine Xp ?_;refine ZA ?_
     refine Yj 38 rfl (fun hc5=>?_) (fun hc5=>?_)
     ·replace hc5:=nT hc5
      iterate 9 refine Yw ?_
      refine ZU ?_;refine ZA ?_
      iterate 7 refine Yw ?_
      refine ZU ?_;refine ZA ?_
      iterate 6 refine Yw ?_
      refine ZU ?_;refine Zz (Zs (Y_pk [65,3,0] ?_));refine Xq rfl ?_;refine ZJ (Zq (l:=[0,1,2,3,4]) rfl ?_);refine ZA ?_;refine ZT ?_;refine Zk F.foff68_0 ?_;refine Zk F.foff32_10 ?_;refine Yi F.lay3 ?_;refine Zz (Zs (Y_pk [3,0] ?_));refine Yv (Xc ?_)
      refine Yk (.inr rfl) (.nil) (fun w hw=>?_)
      have h3:XL (ZP.nd ⟨⟨⟨Za,Zc⟩,⟨Zd,Zh⟩,⟨Zj,Zi,Zg⟩,⟨Zf,Ze,Zb⟩⟩,Zt,Zr,ZE,Zy,ZM,ZB,Zw,Zu,Zn,Zx,Zm,Zv,⟨Zp,Zo,Zl⟩,ZD,ZF⟩) (ZN.lt ⟨Yc,⟨ZS,Yq⟩,YM,l_id,⟨Yb,Ya,ZO⟩,YC,⟨ZL,ZV⟩,⟨ZZ,ZX,ZK⟩⟩)=(ZP.nd ⟨⟨⟨Za,Zc⟩,⟨Zd,Zh⟩,⟨Zj,Zi,Zg⟩,⟨Zf,Ze,Zb⟩⟩,Zt,Zr,ZE,Zy,ZM,ZB,Zw,Zu,Zn,(-1),Zm,Zv,⟨Zp,Zo,Zl⟩,ZD,ZF⟩,[]):=(does2 hk).trans (found_drop (n:=(ZP.nd ⟨⟨⟨Za,Zc⟩,⟨Zd,Zh⟩,⟨Zj,Zi,Zg⟩,⟨Zf,Ze,Zb⟩⟩,Zt,Zr,ZE,Zy,ZM,ZB,Zw,Zu,Zn,Zx,Zm,Zv,⟨Zp,Zo,Zl⟩,ZD,ZF⟩)) (l:=(ZN.lt ⟨Yc,⟨ZS,Yq⟩,YM,l_id,⟨Yb,Ya,ZO⟩,YC,⟨ZL,ZV⟩,⟨ZZ,ZX,ZK⟩⟩)) (show (ZP.nd ⟨⟨⟨Za,Zc⟩,⟨Zd,Zh⟩,⟨Zj,Zi,Zg⟩,⟨Zf,Ze,Zb⟩⟩,Zt,Zr,ZE,Zy,ZM,ZB,Zw,Zu,Zn,Zx,Zm,Zv,⟨Zp,Zo,Zl⟩,ZD,ZF⟩).findTo=(ZN.lt ⟨Yc,⟨ZS,Yq⟩,YM,l_id,⟨Yb,Ya,ZO⟩,YC,⟨ZL,ZV⟩,⟨ZZ,ZX,ZK⟩⟩).frm.addr by show Zx=ZS;first|assumption|omega) (show (ZP.nd ⟨⟨⟨Za,Zc⟩,⟨Zd,Zh⟩,⟨Zj,Zi,Zg⟩,⟨Zf,Ze,Zb⟩⟩,Zt,Zr,ZE,Zy,ZM,ZB,Zw,Zu,Zn,Zx,Zm,Zv,⟨Zp,Zo,Zl⟩,ZD,ZF⟩).findReq=(ZN.lt ⟨Yc,⟨ZS,Yq⟩,YM,l_id,⟨Yb,Ya,ZO⟩,YC,⟨ZL,ZV⟩,⟨ZZ,ZX,ZK⟩⟩).req by show Zm=YM;first|assumption|omega) (show YC=false by first|assumption|(simp_all;done)) (show ¬Xf ⟨Za,Zc⟩ ⟨ZL,ZV⟩∨ZL∈Zl∨ZL=ZS∨32≤ZD by first|exact .inl (by assumption)|exact .inr (.inl (by assumption))|exact .inr (.inr (.inl (by assumption)))|exact .inr (.inr (.inr (by omega)))))
      refine ⟨_,M,[(bw,rowO (ZQ.segs ⟨⟨⟨⟨Za,Zc⟩,⟨Zd,Zh⟩,⟨Zj,Zi,Zg⟩,⟨Zf,Ze,Zb⟩⟩,Zt,Zr,ZE,Zy,ZM,ZB,Zw,Zu,Zn,(-1),Zm,Zv,⟨Zp,Zo,Zl⟩,ZD,ZF⟩,⟨none,0,[]⟩⟩) 68)],rfl,Mem.le.refl M,hw.c,rfl,⟨⟨⟨Za,Zc⟩,⟨Zd,Zh⟩,⟨Zj,Zi,Zg⟩,⟨Zf,Ze,Zb⟩⟩,Zt,Zr,ZE,Zy,ZM,ZB,Zw,Zu,Zn,(-1),Zm,Zv,⟨Zp,Zo,Zl⟩,ZD,ZF⟩,⟨none,0,[]⟩,rfl,?_,?_,⟨Yh,Yp⟩,SlK.nil,fun y hy=>by cases hy⟩
      ·rw [h3] <;> rfl
      ·rw [h3] <;> rfl
     ·replace hc5:=nF hc5
      refine ZA ?_;refine ZT ?_;refine Zk F.foff68_0 ?_;refine Zk F.foff32_13 ?_;refine ZI F.lay30 ?_;refine Zk F.foff44_6 ?_;refine Zk F.foff25_0 ?_;refine ZI F.lay3 ?_;refine X_fo rfl rfl F.ok103 rfl (ContainsI_rd M [] ⟨Zp,Zo,Zl⟩ ZL (Yp.h1.rd []) Yp.h2) (by repeat first|exact Rem.here _|exact Rem.two|apply Rem.skip|apply Rem.over) (Yu rfl) ?_
      rintro _ M1 _ ⟨hM1,rfl⟩;subst M1
      refine ZU ?_;refine ZA ?_
      refine Yj 49 rfl (fun hc6=>?_) (fun hc6=>?_)
      ·replace hc6:=dT hc6
       simp only [ZC.eta,ZR.eta,ZP.eta,ZN.eta,Yr.eta,ZQ.eta,YN.eta,ZY.eta] at hc6
       iterate 7 refine Yw ?_
       refine ZU ?_;refine ZA ?_
       iterate 6 refine Yw ?_
       refine ZU ?_;refine Zz (Zs (Y_pk [65,3,0] ?_));refine Xq rfl ?_;refine ZJ (Zq (l:=[0,1,2,3,4]) rfl ?_);refine ZA ?_;refine ZT ?_;refine Zk F.foff68_0 ?_;refine Zk F.foff32_10 ?_;refine Yi F.lay3 ?_;refine Zz (Zs (Y_pk [3,0] ?_));refine Yv (Xc ?_)
       refine Yk (.inr rfl) (.nil) (fun w hw=>?_)
       have h3:XL (ZP.nd ⟨⟨⟨Za,Zc⟩,⟨Zd,Zh⟩,⟨Zj,Zi,Zg⟩,⟨Zf,Ze,Zb⟩⟩,Zt,Zr,ZE,Zy,ZM,ZB,Zw,Zu,Zn,Zx,Zm,Zv,⟨Zp,Zo,Zl⟩,ZD,ZF⟩) (ZN.lt ⟨Yc,⟨ZS,Yq⟩,YM,l_id,⟨Yb,Ya,ZO⟩,YC,⟨ZL,ZV⟩,⟨ZZ,ZX,ZK⟩⟩)=(ZP.nd ⟨⟨⟨Za,Zc⟩,⟨Zd,Zh⟩,⟨Zj,Zi,Zg⟩,⟨Zf,Ze,Zb⟩⟩,Zt,Zr,ZE,Zy,ZM,ZB,Zw,Zu,Zn,(-1),Zm,Zv,⟨Zp,Zo,Zl⟩,ZD,ZF⟩,[]):=(does2 hk).trans (found_drop (n:=(ZP.nd ⟨⟨⟨Za,Zc⟩,⟨Zd,Zh⟩,⟨Zj,Zi,Zg⟩,⟨Zf,Ze,Zb⟩⟩,Zt,Zr,ZE,Zy,ZM,ZB,Zw,Zu,Zn,Zx,Zm,Zv,⟨Zp,Zo,Zl⟩,ZD,ZF⟩)) (l:=(ZN.lt ⟨Yc,⟨ZS,Yq⟩,YM,l_id,⟨Yb,Ya,ZO⟩,YC,⟨ZL,ZV⟩,⟨ZZ,ZX,ZK⟩⟩)) (show (ZP.nd ⟨⟨⟨Za,Zc⟩,⟨Zd,Zh⟩,⟨Zj,Zi,Zg⟩,⟨Zf,Ze,Zb⟩⟩,Zt,Zr,ZE,Zy,ZM,ZB,Zw,Zu,Zn,Zx,Zm,Zv,⟨Zp,Zo,Zl⟩,ZD,ZF⟩).findTo=(ZN.lt ⟨Yc,⟨ZS,Yq⟩,YM,l_id,⟨Yb,Ya,ZO⟩,YC,⟨ZL,ZV⟩,⟨ZZ,ZX,ZK⟩⟩).frm.addr by show Zx=ZS;first|assumption|omega) (show (ZP.nd ⟨⟨⟨Za,Zc⟩,⟨Zd,Zh⟩,⟨Zj,Zi,Zg⟩,⟨Zf,Ze,Zb⟩⟩,Zt,Zr,ZE,Zy,ZM,ZB,Zw,Zu,Zn,Zx,Zm,Zv,⟨Zp,Zo,Zl⟩,ZD,ZF⟩).findReq=(ZN.lt ⟨Yc,⟨ZS,Yq⟩,YM,l_id,⟨Yb,Ya,ZO⟩,YC,⟨ZL,ZV⟩,⟨ZZ,ZX,ZK⟩⟩).req by show Zm=YM;first|assumption|omega) (show YC=false by first|assumption|(simp_all;done)) (show ¬Xf ⟨Za,Zc⟩ ⟨ZL,ZV⟩∨ZL∈Zl∨ZL=ZS∨32≤ZD by first|exact .inl (by assumption)|exact .inr (.inl (by assumption))|exact .inr (.inr (.inl (by assumption)))|exact .inr (.inr (.inr (by omega)))))
       refine ⟨_,M,[(bw,rowO (ZQ.segs ⟨⟨⟨⟨Za,Zc⟩,⟨Zd,Zh⟩,⟨Zj,Zi,Zg⟩,⟨Zf,Ze,Zb⟩⟩,Zt,Zr,ZE,Zy,ZM,ZB,Zw,Zu,Zn,(-1),Zm,Zv,⟨Zp,Zo,Zl⟩,ZD,ZF⟩,⟨none,0,[]⟩⟩) 68)],rfl,Mem.le.refl M,hw.c,rfl,⟨⟨⟨Za,Zc⟩,⟨Zd,Zh⟩,⟨Zj,Zi,Zg⟩,⟨Zf,Ze,Zb⟩⟩,Zt,Zr,ZE,Zy,ZM,ZB,Zw,Zu,Zn,(-1),Zm,Zv,⟨Zp,Zo,Zl⟩,ZD,ZF⟩,⟨none,0,[]⟩,rfl,?_,?_,⟨Yh,Yp⟩,SlK.nil,fun y hy=>by cases hy⟩
       ·rw [h3] <;> rfl
       ·rw [h3] <;> rfl
      ·replace hc6:=dF hc6
       simp only [ZC.eta,ZR.eta,ZP.eta,ZN.eta,Yr.eta,ZQ.eta,YN.eta,ZY.eta] at hc6
       refine Zk F.foff44_6 ?_;refine Zk F.foff25_0 ?_;refine ZI F.lay3 ?_;refine Zk F.foff44_1 ?_;refine Zk F.foff25_0 ?_;refine ZI F.lay3 ?_;refine YA ?_;refine ZU ?_;refine ZA ?_
       refine Yj 58 rfl (fun hc7=>?_) (fun hc7=>?_)
       ·replace hc7:=dT hc7
        iterate 6 refine Yw ?_
        refine ZU ?_;refine Zz (Zs (Y_pk [65,3,0] ?_));refine Xq rfl ?_;refine ZJ (Zq (l:=[0,1,2,3,4]) rfl ?_);refine ZA ?_;refine ZT ?_;refine Zk F.foff68_0 ?_;refine Zk F.foff32_10 ?_;refine Yi F.lay3 ?_;refine Zz (Zs (Y_pk [3,0] ?_));refine Yv (Xc ?_)
        refine Yk (.inr rfl) (.nil) (fun w hw=>?_)
        have h3:XL (ZP.nd ⟨⟨⟨Za,Zc⟩,⟨Zd,Zh⟩,⟨Zj,Zi,Zg⟩,⟨Zf,Ze,Zb⟩⟩,Zt,Zr,ZE,Zy,ZM,ZB,Zw,Zu,Zn,Zx,Zm,Zv,⟨Zp,Zo,Zl⟩,ZD,ZF⟩) (ZN.lt ⟨Yc,⟨ZS,Yq⟩,YM,l_id,⟨Yb,Ya,ZO⟩,YC,⟨ZL,ZV⟩,⟨ZZ,ZX,ZK⟩⟩)=(ZP.nd ⟨⟨⟨Za,Zc⟩,⟨Zd,Zh⟩,⟨Zj,Zi,Zg⟩,⟨Zf,Ze,Zb⟩⟩,Zt,Zr,ZE,Zy,ZM,ZB,Zw,Zu,Zn,(-1),Zm,Zv,⟨Zp,Zo,Zl⟩,ZD,ZF⟩,[]):=(does2 hk).trans (found_drop (n:=(ZP.nd ⟨⟨⟨Za,Zc⟩,⟨Zd,Zh⟩,⟨Zj,Zi,Zg⟩,⟨Zf,Ze,Zb⟩⟩,Zt,Zr,ZE,Zy,ZM,ZB,Zw,Zu,Zn,Zx,Zm,Zv,⟨Zp,Zo,Zl⟩,ZD,ZF⟩)) (l:=(ZN.lt ⟨Yc,⟨ZS,Yq⟩,YM,l_id,⟨Yb,Ya,ZO⟩,YC,⟨ZL,ZV⟩,⟨ZZ,ZX,ZK⟩⟩)) (show (ZP.nd ⟨⟨⟨Za,Zc⟩,⟨Zd,Zh⟩,⟨Zj,Zi,Zg⟩,⟨Zf,Ze,Zb⟩⟩,Zt,Zr,ZE,Zy,ZM,ZB,Zw,Zu,Zn,Zx,Zm,Zv,⟨Zp,Zo,Zl⟩,ZD,ZF⟩).findTo=(ZN.lt ⟨Yc,⟨ZS,Yq⟩,YM,l_id,⟨Yb,Ya,ZO⟩,YC,⟨ZL,ZV⟩,⟨ZZ,ZX,ZK⟩⟩).frm.addr by show Zx=ZS;first|assumption|omega) (show (ZP.nd ⟨⟨⟨Za,Zc⟩,⟨Zd,Zh⟩,⟨Zj,Zi,Zg⟩,⟨Zf,Ze,Zb⟩⟩,Zt,Zr,ZE,Zy,ZM,ZB,Zw,Zu,Zn,Zx,Zm,Zv,⟨Zp,Zo,Zl⟩,ZD,ZF⟩).findReq=(ZN.lt ⟨Yc,⟨ZS,Yq⟩,YM,l_id,⟨Yb,Ya,ZO⟩,YC,⟨ZL,ZV⟩,⟨ZZ,ZX,ZK⟩⟩).req by show Zm=YM;first|assumption|omega) (show YC=false by first|assumption|(simp_all;done)) (show ¬Xf ⟨Za,Zc⟩ ⟨ZL,ZV⟩∨ZL∈Zl∨ZL=ZS∨32≤ZD by first|exact .inl (by assumption)|exact .inr (.inl (by assumption))|exact .inr (.inr (.inl (by assumption)))|exact .inr (.inr (.inr (by omega)))))
        refine ⟨_,M,[(bw,rowO (ZQ.segs ⟨⟨⟨⟨Za,Zc⟩,⟨Zd,Zh⟩,⟨Zj,Zi,Zg⟩,⟨Zf,Ze,Zb⟩⟩,Zt,Zr,ZE,Zy,ZM,ZB,Zw,Zu,Zn,(-1),Zm,Zv,⟨Zp,Zo,Zl⟩,ZD,ZF⟩,⟨none,0,[]⟩⟩) 68)],rfl,Mem.le.refl M,hw.c,rfl,⟨⟨⟨Za,Zc⟩,⟨Zd,Zh⟩,⟨Zj,Zi,Zg⟩,⟨Zf,Ze,Zb⟩⟩,Zt,Zr,ZE,Zy,ZM,ZB,Zw,Zu,Zn,(-1),Zm,Zv,⟨Zp,Zo,Zl⟩,ZD,ZF⟩,⟨none,0,[]⟩,rfl,?_,?_,⟨Yh,Yp⟩,SlK.nil,fun y hy=>by cases hy⟩
        ·rw [h3] <;> rfl
        ·rw [h3] <;> rfl
       ·replace hc7:=dF hc7
        refine ZA ?_;refine ZT ?_;refine Zk F.foff68_0 ?_;refine Zk F.foff32_14 ?_;refine ZI F.lay3 ?_;refine YA ?_;refine ZU ?_;refine Zz (Zs (Y_pk [65,3,0] ?_))
        refine YB rfl (fun hc8=>?_) (fun hc8=>?_)
        ·replace hc8:=dT hc8
         refine ZJ (Zq (l:=[0,1,2,3,4]) rfl ?_);refine ZA ?_;refine ZT ?_;refine Zk F.foff68_0 ?_;refine Zk F.foff32_10 ?_;refine Yi F.lay3 ?_;refine Zz (Zs (Y_pk [3,0] ?_));refine Yv (Xc ?_)
         refine Yk (.inr rfl) (.nil) (fun w hw=>?_)
         have h3:XL (ZP.nd ⟨⟨⟨Za,Zc⟩,⟨Zd,Zh⟩,⟨Zj,Zi,Zg⟩,⟨Zf,Ze,Zb⟩⟩,Zt,Zr,ZE,Zy,ZM,ZB,Zw,Zu,Zn,Zx,Zm,Zv,⟨Zp,Zo,Zl⟩,ZD,ZF⟩) (ZN.lt ⟨Yc,⟨ZS,Yq⟩,YM,l_id,⟨Yb,Ya,ZO⟩,YC,⟨ZL,ZV⟩,⟨ZZ,ZX,ZK⟩⟩)=(ZP.nd ⟨⟨⟨Za,Zc⟩,⟨Zd,Zh⟩,⟨Zj,Zi,Zg⟩,⟨Zf,Ze,Zb⟩⟩,Zt,Zr,ZE,Zy,ZM,ZB,Zw,Zu,Zn,(-1),Zm,Zv,⟨Zp,Zo,Zl⟩,ZD,ZF⟩,[]):=(does2 hk).trans (found_drop (n:=(ZP.nd ⟨⟨⟨Za,Zc⟩,⟨Zd,Zh⟩,⟨Zj,Zi,Zg⟩,⟨Zf,Ze,Zb⟩⟩,Zt,Zr,ZE,Zy,ZM,ZB,Zw,Zu,Zn,Zx,Zm,Zv,⟨Zp,Zo,Zl⟩,ZD,ZF⟩)) (l:=(ZN.lt ⟨Yc,⟨ZS,Yq⟩,YM,l_id,⟨Yb,Ya,ZO⟩,YC,⟨ZL,ZV⟩,⟨ZZ,ZX,ZK⟩⟩)) (show (ZP.nd ⟨⟨⟨Za,Zc⟩,⟨Zd,Zh⟩,⟨Zj,Zi,Zg⟩,⟨Zf,Ze,Zb⟩⟩,Zt,Zr,ZE,Zy,ZM,ZB,Zw,Zu,Zn,Zx,Zm,Zv,⟨Zp,Zo,Zl⟩,ZD,ZF⟩).findTo=(ZN.lt ⟨Yc,⟨ZS,Yq⟩,YM,l_id,⟨Yb,Ya,ZO⟩,YC,⟨ZL,ZV⟩,⟨ZZ,ZX,ZK⟩⟩).frm.addr by show Zx=ZS;first|assumption|omega) (show (ZP.nd ⟨⟨⟨Za,Zc⟩,⟨Zd,Zh⟩,⟨Zj,Zi,Zg⟩,⟨Zf,Ze,Zb⟩⟩,Zt,Zr,ZE,Zy,ZM,ZB,Zw,Zu,Zn,Zx,Zm,Zv,⟨Zp,Zo,Zl⟩,ZD,ZF⟩).findReq=(ZN.lt ⟨Yc,⟨ZS,Yq⟩,YM,l_id,⟨Yb,Ya,ZO⟩,YC,⟨ZL,ZV⟩,⟨ZZ,ZX,ZK⟩⟩).req by show Zm=YM;first|assumption|omega) (show YC=false by first|assumption|(simp_all;done)) (show ¬Xf ⟨Za,Zc⟩ ⟨ZL,ZV⟩∨ZL∈Zl∨ZL=ZS∨32≤ZD by first|exact .inl (by assumption)|exact .inr (.inl (by assumption))|exact .inr (.inr (.inl (by assumption)))|exact .inr (.inr (.inr (by omega)))))
         refine ⟨_,M,[(bw,rowO (ZQ.segs ⟨⟨⟨⟨Za,Zc⟩,⟨Zd,Zh⟩,⟨Zj,Zi,Zg⟩,⟨Zf,Ze,Zb⟩⟩,Zt,Zr,ZE,Zy,ZM,ZB,Zw,Zu,Zn,(-1),Zm,Zv,⟨Zp,Zo,Zl⟩,ZD,ZF⟩,⟨none,0,[]⟩⟩) 68)],rfl,Mem.le.refl M,hw.c,rfl,⟨⟨⟨Za,Zc⟩,⟨Zd,Zh⟩,⟨Zj,Zi,Zg⟩,⟨Zf,Ze,Zb⟩⟩,Zt,Zr,ZE,Zy,ZM,ZB,Zw,Zu,Zn,(-1),Zm,Zv,⟨Zp,Zo,Zl⟩,ZD,ZF⟩,⟨none,0,[]⟩,rfl,?_,?_,⟨Yh,Yp⟩,SlK.nil,fun y hy=>by cases hy⟩
         ·rw [h3] <;> rfl
         ·rw [h3] <;> rfl
        ·replace hc8:=dF hc8
         refine Yy (Zs (Y_pk [3,0] ?_));refine ZJ (Zq (l:=[0,1,2,3,4,5,6,7,8,9]) rfl ?_);refine ZA ?_;refine ZT ?_;refine Zk F.foff68_0 ?_;refine Zk F.foff32_14 ?_;refine ZI F.lay3 ?_;refine XS rfl rfl rfl rfl rfl (by exact Xn (by decide) (by omega)) rfl ?_;refine ZT ?_;refine Zk F.foff68_0 ?_;refine Zk F.foff32_14 ?_;refine Yi F.lay3 ?_;refine Zz (Zs (Y_pk [3,0] ?_));refine Xi (l:=[0,1,2,3,4]) [4] rfl ?_;refine ZA ?_;refine Zk F.foff44_6 ?_;refine Zk F.foff25_0 ?_;refine ZI F.lay3 ?_;refine Wo rfl rfl rfl F.ok89 rfl (seek_ok M bw Za Zc Zd Zh Zj Zf Zp Zi Ze Zo Zg Zb Zl Zt Zr ZE Zy ZM ZB Zw Zu Zn Zx Zm Zv (ZD+1) ZF Yh Yp hLa ZL) (by repeat first|exact Rem.here _|exact Rem.two|apply Rem.skip|apply Rem.over) (Yu rfl) ?_
         rintro _ M2 hs2 hm2 ⟨rfl,⟨⟨⟨YH,YP⟩,⟨YI,YQ⟩,⟨YW,YV,YU⟩,⟨YL,YK,YJ⟩⟩,XG,XK,Wk,XF,WJ,XW,XH,XB,Xr,XC,Xs,XE,⟨Xv,Xu,Xt⟩,Wi,Wh⟩,⟨o_a,o_c,o_l⟩,rfl,hv1,hv2,okv,oko,okq⟩
         simp only [List.append_assoc,List.cons_append,List.nil_append]
         refine Zz (Wb ?_)
         refine Yk (.inl rfl) (.nil) (fun w hw=>?_)
         have h3:=(does2 (n:=(ZP.nd ⟨⟨⟨Za,Zc⟩,⟨Zd,Zh⟩,⟨Zj,Zi,Zg⟩,⟨Zf,Ze,Zb⟩⟩,Zt,Zr,ZE,Zy,ZM,ZB,Zw,Zu,Zn,Zx,Zm,Zv,⟨Zp,Zo,Zl⟩,ZD,ZF⟩)) (l:=(ZN.lt ⟨Yc,⟨ZS,Yq⟩,YM,l_id,⟨Yb,Ya,ZO⟩,YC,⟨ZL,ZV⟩,⟨ZZ,ZX,ZK⟩⟩)) hk).trans (found_seek (n:=(ZP.nd ⟨⟨⟨Za,Zc⟩,⟨Zd,Zh⟩,⟨Zj,Zi,Zg⟩,⟨Zf,Ze,Zb⟩⟩,Zt,Zr,ZE,Zy,ZM,ZB,Zw,Zu,Zn,Zx,Zm,Zv,⟨Zp,Zo,Zl⟩,ZD,ZF⟩)) (l:=(ZN.lt ⟨Yc,⟨ZS,Yq⟩,YM,l_id,⟨Yb,Ya,ZO⟩,YC,⟨ZL,ZV⟩,⟨ZZ,ZX,ZK⟩⟩)) (show (ZP.nd ⟨⟨⟨Za,Zc⟩,⟨Zd,Zh⟩,⟨Zj,Zi,Zg⟩,⟨Zf,Ze,Zb⟩⟩,Zt,Zr,ZE,Zy,ZM,ZB,Zw,Zu,Zn,Zx,Zm,Zv,⟨Zp,Zo,Zl⟩,ZD,ZF⟩).findTo=(ZN.lt ⟨Yc,⟨ZS,Yq⟩,YM,l_id,⟨Yb,Ya,ZO⟩,YC,⟨ZL,ZV⟩,⟨ZZ,ZX,ZK⟩⟩).frm.addr by show Zx=ZS;first|assumption|omega) (show (ZP.nd ⟨⟨⟨Za,Zc⟩,⟨Zd,Zh⟩,⟨Zj,Zi,Zg⟩,⟨Zf,Ze,Zb⟩⟩,Zt,Zr,ZE,Zy,ZM,ZB,Zw,Zu,Zn,Zx,Zm,Zv,⟨Zp,Zo,Zl⟩,ZD,ZF⟩).findReq=(ZN.lt ⟨Yc,⟨ZS,Yq⟩,YM,l_id,⟨Yb,Ya,ZO⟩,YC,⟨ZL,ZV⟩,⟨ZZ,ZX,ZK⟩⟩).req by show Zm=YM;first|assumption|omega) (show YC=false by first|assumption|(simp_all;done)) (show Xf ⟨Za,Zc⟩ ⟨ZL,ZV⟩ by assumption) (show ZL∉Zl by assumption) (show ZL≠ZS by assumption) (show ¬32≤ZD by omega))
         exact ⟨_,M2,[(bw,rowO (ZQ.segs ⟨⟨⟨⟨YH,YP⟩,⟨YI,YQ⟩,⟨YW,YV,YU⟩,⟨YL,YK,YJ⟩⟩,XG,XK,Wk,XF,WJ,XW,XH,XB,Xr,XC,Xs,XE,⟨Xv,Xu,Xt⟩,Wi,Wh⟩,⟨o_a,o_c,o_l⟩⟩) 68)],rfl,hm2,hw.c,rfl,⟨⟨⟨YH,YP⟩,⟨YI,YQ⟩,⟨YW,YV,YU⟩,⟨YL,YK,YJ⟩⟩,XG,XK,Wk,XF,WJ,XW,XH,XB,Xr,XC,Xs,XE,⟨Xv,Xu,Xt⟩,Wi,Wh⟩,⟨o_a,o_c,o_l⟩,rfl,by rw [h3];exact hv1,by rw [h3];exact hv2,okv,oko,okq⟩
end Go.Proofs.YtajmnjefajknoaaGreat
namespace Go.Esp
variable {α:Type}
def insL (l:List α) (i:Nat) (x:α):List α:=l.take i++x::l.drop i
theorem insL_map {β:Type} (f:α→β) (l:List α) (i:Nat) (x:α):(insL l i x).map f=insL (l.map f) i (f x):=by unfold insL;simp
theorem insL_end (l:List α) (x:α):insL l l.length x=l++[x]:=by unfold insL;simp
theorem take_pre {a b:List α} {i:Nat} (h:a.length=i):(a++b).take i=a:=by subst h;exact List.take_left
theorem drop_pre {a b:List α} {i:Nat} (h:a.length=i):(a++b).drop i=b:=by subst h;exact List.drop_left
theorem ins_grow {rows zs:List α} {i:Nat} {x:α} (hi:i<rows.length) (hz:zs.length=rows.length+1-i) :
    (((rows.take i++zs).take i++[x]++(rows.take i++zs).drop (i+1)).take (i+1)++rows.drop i++((rows.take i++zs).take i++[x]++(rows.take i++zs).drop (i+1)).drop (i+1+(rows.drop i).length))=insL rows i x:=by
  have h1:(rows.take i).length=i:=by simp;omega
  rw [take_pre h1]
  have h2:(rows.take i++[x]).length=i+1:=by simp;omega
  rw [take_pre h2]
  have h3:(rows.take i++zs).length=rows.length+1:=by simp [hz];omega
  rw [List.drop_of_length_le (i:=i+1+(rows.drop i).length) (by simp only [List.length_append,List.length_drop,h3,h2,List.length_cons,List.length_nil,h1];omega)]
  unfold insL;simp
theorem ins_room {rows ext:List α} {i:Nat} {x:α} (hi:i<rows.length) (he:ext.length=1) :
    (((rows++ext).take (i+1)++rows.drop i++(rows++ext).drop (i+1+(rows.drop i).length)).take i++[x]++((rows++ext).take (i+1)++rows.drop i++(rows++ext).drop (i+1+(rows.drop i).length)).drop (i+1))=insL rows i x:=by
  have h1:((rows++ext).take (i+1)).length=i+1:=by simp;omega
  rw [List.drop_of_length_le (i:=i+1+(rows.drop i).length) (by simp [he];omega),List.append_nil,drop_pre h1]
  rw [List.take_append_of_le_length (by omega),List.take_take,Nat.min_eq_left (by omega),List.take_append_of_le_length (by omega)]
  unfold insL;simp
end Go.Esp
namespace Go.Proofs.YtajmnjefajknoaaGreat
open Go.Esp
theorem F.ext137:Ext Tryz.prog 137 (Extern.SlicesOverlaps.overlaps #[26,26] #[4]):=fun args w=>by kernel_rfl
theorem InsertP_nil (M:Mem) (x:ZC) (bv:Nat) (hv:Hp) (hob:OSl 25 21 (.slice (some ⟨bv,0,none⟩) 1 1) hv [ZC.segs x]):Fh Tryz.prog 105 [.slice none 0 0,.int .i64 ((0:Nat):Int),.slice (some ⟨bv,0,none⟩) 1 1] M hv (fun M' v Hout=>M'=M∧OSl 25 21 v Hout ([]++[ZC.segs x])):=by
  refine fh_enter Tryz.func105 rfl Tryz.ntmps105 rfl ?_;intro H
  refine ZJ (Zq (l:=[0]) rfl ?_);refine ZG ?_;refine Zz (Zs (ZJ (Zq (l:=[0,1,2]) rfl ?_)))
  iterate 2 refine ZA ?_
  refine WH rfl rfl rfl (.some (k:=0) rfl rfl) .none .none F.elem26 (by simp) (by simp) (by simp) (by simp) rfl rfl ?_;refine Zz (Zs (Y_pk [6,0,1,2] ?_));refine ZJ (Zq (l:=[0,1,2]) rfl ?_);refine ZA ?_;refine Xa F.elem26 ?_;refine ZG ?_;refine Zz (Zs (Y_pk [7,6,0,1,2] ?_))
  iterate 2 refine ZJ ?_
  refine Zq (l:=[0,1]) rfl ?_;refine ZA ?_;refine YA ?_;refine Zz (Zs (Y_pk [16,7,6,0,1,2] ?_))
  refine YB rfl (fun hc1=>?_) (fun hc1=>?_)
  ·replace hc1:=dT hc1
   (exfalso;omega)
  ·replace hc1:=dF hc1
   refine Yy (Zs (Y_pk [7,6,0,1,2] ?_));refine ZJ (Zq (l:=[0,1,2]) rfl ?_);refine ZA ?_;refine Xa F.elem26 ?_;refine ZG ?_;refine Zz (Zs (Y_pk [8,7,6,0,1,2] ?_))
   iterate 2 refine ZJ ?_
   refine Zq (l:=[0,1,2]) rfl ?_
   iterate 2 refine ZA ?_
   refine YA ?_;refine Zz (Zs (Y_pk [22,8,7,6,0,1,2] ?_))
   refine YB rfl (fun hc2=>?_) (fun hc2=>?_)
   ·replace hc2:=dT hc2
    simp only [ZC.eta,ZR.eta,ZP.eta,ZN.eta,Yr.eta,ZQ.eta,YN.eta,ZY.eta] at hc2
    refine ZJ (Zq (l:=[0,1,2,3]) rfl ?_)
    iterate 2 refine ZA ?_
    refine X_append (m:=1000000) rfl rfl rfl rfl rfl F.elem26 F.zero25 (by exact agg_size rfl) rfl (by exact OSl.nil) (by repeat first|exact Rem.here _|exact Rem.two|apply Rem.skip|apply Rem.over) (OSl.srcAll hob (by repeat first|exact Rem.here _|exact Rem.two|apply Rem.skip|apply Rem.over) (by intro u hu;exact rows_one ZC.flat [x] u (by simpa using hu))) (by (simp;done)) (by decide) rfl ?_;intro v5 hs4 ho3;obtain ⟨adv5,cpv5,rfl⟩:=ho3.val
    refine ZG ?_;refine Zz (Zs (Y_pk [6,8,7,0,1,2] ?_));refine Yv (Xc ?_)
    refine Yk (.inr rfl) (.tmp rfl .nil) (fun w hw=>?_)
    exact ⟨_,M,hs4,rfl,Mem.le.refl M,hw.c,rfl,ho3⟩
   ·replace hc2:=dF hc2
    simp only [ZC.eta,ZR.eta,ZP.eta,ZN.eta,Yr.eta,ZQ.eta,YN.eta,ZY.eta] at hc2
    (exfalso;simp [eqX] at hc2;done)
theorem InsertP_some (M:Mem) (b:Nat) (c:Nat) (l:List ZC) (hs:Hp) (i:Nat) (hi:i≤l.length) (x:ZC) (bv:Nat) (hv:Hp) (hob:OSl 25 21 (.slice (some ⟨bv,0,none⟩) 1 1) hv [ZC.segs x]) (hb:l.length≤1000000) (ho:OSl 25 21 (.slice (some ⟨b,0,none⟩) l.length c) hs (l.map ZC.segs)):Fh Tryz.prog 105 [.slice (some ⟨b,0,none⟩) l.length c,.int .i64 (i:Int),.slice (some ⟨bv,0,none⟩) 1 1] M (hs++hv) (fun M' v Hout=>M'=M∧OSl 25 21 v Hout ((insL l i x).map ZC.segs)):=by
  have hcc:=ho.caps
  simp only [List.length_map] at hcc
  have hob9:=hob
  have hom:OSl 25 21 (.slice (some ⟨b,0,none⟩) (l.map ZC.segs).length c) hs (l.map ZC.segs):=by rw [List.length_map];exact ho
  obtain ⟨cv,rfl,_⟩:=hob9.inv
  refine fh_enter Tryz.func105 rfl Tryz.ntmps105 rfl ?_;intro H
  rw [List.append_assoc]
  refine ZJ (Zq (l:=[0]) rfl ?_);refine ZG ?_;refine Zz (Zs (ZJ (Zq (l:=[0,1,2]) rfl ?_)))
  iterate 2 refine ZA ?_
  refine WH rfl rfl rfl (.some (k:=i) rfl rfl) .none .none F.elem26 (by simp) (by simp only [Option.getD_some,Option.getD_none];omega) (by simp only [Option.getD_some,Option.getD_none];omega) (by simp) rfl rfl ?_;refine Zz (Zs (Y_pk [6,0,1,2] ?_));refine ZJ (Zq (l:=[0,1,2]) rfl ?_);refine ZA ?_;refine Xa F.elem26 ?_;refine ZG ?_;refine Zz (Zs (Y_pk [7,6,0,1,2] ?_))
  iterate 2 refine ZJ ?_
  refine Zq (l:=[0,1]) rfl ?_;refine ZA ?_;refine YA ?_;refine Zz (Zs (Y_pk [16,7,6,0,1,2] ?_))
  refine YB rfl (fun hc1=>?_) (fun hc1=>?_)
  ·replace hc1:=dT hc1
   (exfalso;omega)
  ·replace hc1:=dF hc1
   refine Yy (Zs (Y_pk [7,6,0,1,2] ?_));refine ZJ (Zq (l:=[0,1,2]) rfl ?_);refine ZA ?_;refine Xa F.elem26 ?_;refine ZG ?_;refine Zz (Zs (Y_pk [8,7,6,0,1,2] ?_))
   iterate 2 refine ZJ ?_
   refine Zq (l:=[0,1,2]) rfl ?_
   iterate 2 refine ZA ?_
   refine YA ?_;refine Zz (Zs (Y_pk [22,8,7,6,0,1,2] ?_))
   refine YB rfl (fun hc2=>?_) (fun hc2=>?_)
   ·replace hc2:=dT hc2
    refine ZJ (Zq (l:=[0,1,2,3]) rfl ?_)
    iterate 2 refine ZA ?_
    refine X_append (m:=1000001) rfl rfl rfl rfl rfl F.elem26 F.zero25 (by exact agg_size rfl) rfl (by assumption) (by repeat first|exact Rem.here _|exact Rem.two|apply Rem.skip|apply Rem.over) (OSl.srcAll hob (by repeat first|exact Rem.here _|exact Rem.two|apply Rem.skip|apply Rem.over) (by intro u hu;exact rows_one ZC.flat [x] u (by simpa using hu))) (by (simp;omega)) (by decide) rfl ?_;intro v5 hs4 ho3;obtain ⟨adv5,cpv5,rfl⟩:=ho3.val
    refine ZG ?_;refine Zz (Zs (Y_pk [6,8,7,0,1,2] ?_));refine Yv (Xc ?_)
    refine Yk (.inr rfl) (.tmp rfl .nil) (fun w hw=>?_)
    obtain rfl:i=l.length:=by omega
    exact ⟨_,M,hs4,rfl,Mem.le.refl M,hw.c,rfl,by rw [insL_end,List.map_append];exact ho3⟩
   ·replace hc2:=dF hc2
    refine Yy (Zs (Y_pk [8,7,6,0,1,2] ?_))
    iterate 2 refine ZJ ?_
    refine Zq (l:=[0,1,2,3,4,5]) rfl ?_
    iterate 2 refine ZA ?_
    refine XS rfl rfl rfl rfl rfl (by exact Xn (by decide) (by omega)) rfl ?_;refine ZA ?_;refine X_cap_sl rfl rfl rfl rfl F.elem26 rfl ?_;refine YA ?_;refine Zz (Zs (Y_pk [31,8,7,6,0,1,2] ?_))
    refine YB rfl (fun hc6=>?_) (fun hc6=>?_)
    ·replace hc6:=dT hc6
     refine ZJ (Zq (l:=[0,1,2,3,4,5,6,7,8,9]) rfl ?_)
     iterate 2 refine ZA ?_
     refine WH rfl rfl rfl .none (.some (k:=i) rfl (by rfl)) .none F.elem26 (by simp) (by simp only [Option.getD_some,Option.getD_none];omega) (by simp only [Option.getD_some,Option.getD_none];omega) (by simp) (show WK (some ⟨_,0,none⟩) 21 0 (i) c=.slice (some ⟨_,0,none⟩) (i) c from pieceV_zero) rfl ?_
     iterate 2 refine ZA ?_
     refine XS rfl rfl rfl rfl rfl (by exact Xn (by decide) (by omega)) rfl ?_;refine ZA ?_;refine XS rfl rfl rfl rfl rfl (by exact Xn (by decide) (by omega)) rfl ?_
     rw [show (l.length:Int)+((1:Nat):Int)-(i:Int)=((l.length+1-i:Nat):Int) by omega]
     refine X_appendZO (j:=i) (k:=l.length+1-i) rfl rfl rfl rfl F.elem26 Tryz.underlying3 F.zero25 (by exact agg_size rfl) rfl ho (by repeat first|exact Rem.here _|exact Rem.two|apply Rem.skip|apply Rem.over) (by rw [List.length_map];omega) (by omega) (by omega) (by omega) (Nat.le_trans (Nat.mul_le_mul_right _ (show i+(l.length+1-i)≤1000001 by omega)) (by decide)) rfl ?_;intro b9 c9 hs9 zs9 hz9 ho9
     rw [show i+(l.length+1-i)=l.length+1 by omega] at ho9 ⊢
     have hn9:((l.map ZC.segs).take i++zs9).length=l.length+1:=by simp [hz9];omega
     have hc9:=ho9.caps
     refine ZG ?_;refine Zz (Zs (Y_pk [9,8,7,6,0,1,2] ?_));refine ZJ (Zq (l:=[0,1,2,3,4]) rfl ?_)
     iterate 2 refine ZA ?_
     refine WH rfl rfl rfl (.some (k:=i) rfl (by rfl)) .none .none F.elem26 (by simp) (by simp only [Option.getD_some,Option.getD_none];omega) (by simp only [Option.getD_some,Option.getD_none];omega) (by simp) (show WK (some ⟨_,0,none⟩) 21 (i) (l.length+1) (c9)=.slice (some ⟨_,0+(i) * 21,none⟩) (l.length+1-(i)) (c9-(i)) from pieceV_in (by omega)) rfl ?_;refine ZA ?_
     rw [Nat.zero_add]
     refine X_copyP (k:=i) (news:=[ZC.segs x]) rfl rfl rfl rfl rfl F.elem26 rfl (by rw [hn9];omega) ho9 (by repeat first|exact Rem.here _|exact Rem.two|apply Rem.skip|apply Rem.over) (OSl.srcAll hob (by repeat first|exact Rem.here _|exact Rem.two|apply Rem.skip|apply Rem.over) (by intro u hu;exact rows_one ZC.flat [x] u (by simpa using hu))) (by show 1=min 1 (l.length+1-i);omega) rfl ?_;intro hs10 ho10
     rw [hn9] at ho10
     refine Zz (Zs (Y_pk [9,8,7,6,0,1,2] ?_));refine ZJ (YD (l:=[0,1,2,3,4,5,6,7,8]) #[0,0,0,6,15,0,0,96,255] _ rfl (by kernel_rfl) (by kernel_rfl) St.drawn (fun _ h=>h) ?_)
     iterate 3 refine ZA ?_
     refine XS rfl rfl rfl rfl rfl (by exact Xn (by decide) (by omega)) rfl ?_;refine WH rfl rfl rfl (.some (k:=i+1) rfl (by rfl)) .none .none F.elem26 (by simp) (by simp only [Option.getD_some,Option.getD_none];omega) (by simp only [Option.getD_some,Option.getD_none];omega) (by simp) (show WK (some ⟨_,0,none⟩) 21 (i+1) (l.length+1) (c9)=.slice (some ⟨_,0+(i+1) * 21,none⟩) (l.length+1-(i+1)) (c9-(i+1)) from pieceV_in (by omega)) rfl ?_
     iterate 2 refine ZA ?_
     refine WH rfl rfl rfl (.some (k:=i) rfl (by rfl)) .none .none F.elem26 (by simp) (by simp only [Option.getD_some,Option.getD_none];omega) (by simp only [Option.getD_some,Option.getD_none];omega) (by simp) (show WK (some ⟨_,0,none⟩) 21 (i) (l.length) (c)=.slice (some ⟨_,0+(i) * 21,none⟩) (l.length-(i)) (c-(i)) from pieceV_in (by omega)) rfl ?_
     rw [Nat.zero_add,Nat.zero_add]
     have hn10:(((l.map ZC.segs).take i++zs9).take i++[ZC.segs x]++((l.map ZC.segs).take i++zs9).drop (i+[ZC.segs x].length)).length=l.length+1:=by simp only [List.length_append,List.length_take,List.length_drop,hn9,List.length_cons,List.length_nil];omega
     refine X_copyP (k:=i+1) (news:=(l.map ZC.segs).drop i) rfl rfl rfl rfl rfl F.elem26 rfl (by rw [hn10];omega) ho10 (by repeat first|exact Rem.here _|exact Rem.two|apply Rem.skip|apply Rem.over) (by rw [List.length_drop];exact hom.src (by repeat first|exact Rem.here _|exact Rem.two|apply Rem.skip|apply Rem.over) (by intro u hu;exact rows_one ZC.flat l u hu)) (by simp only [List.length_drop,List.length_map];omega) rfl ?_;intro hs11 ho11
     rw [hn10] at ho11
     rw [show i+[ZC.segs x].length=i+1 from rfl,ins_grow (by rw [List.length_map];omega) (by rw [List.length_map];exact hz9)] at ho11
     refine Zz (Zs (Y_pk [9,8,7,6,0,1,2] ?_));refine ZJ (Zq (l:=[0,1]) rfl ?_);refine ZA ?_;refine ZG ?_;refine Zz (Zs (Y_pk [6,8,7,0,1,2] ?_));refine Yv (Xc ?_)
     refine Yk (.inr rfl) (.tmp rfl .nil) (fun w hw=>?_)
     exact ⟨_,M,hs11,rfl,Mem.le.refl M,hw.c,rfl,by rw [insL_map];exact ho11⟩
    ·replace hc6:=dF hc6
     refine Yy (Zs (Y_pk [8,7,6,0,1,2] ?_));refine ZJ (Zq (l:=[0,1,2,3,4,5]) rfl ?_)
     iterate 3 refine ZA ?_
     refine XS rfl rfl rfl rfl rfl (by exact Xn (by decide) (by omega)) rfl ?_;refine WH rfl rfl rfl .none (.some (k:=l.length+1) rfl (by rfl)) .none F.elem26 (by simp) (by simp only [Option.getD_some,Option.getD_none];omega) (by simp only [Option.getD_some,Option.getD_none];omega) (by simp) (show WK (some ⟨_,0,none⟩) 21 0 (l.length+1) c=.slice (some ⟨_,0,none⟩) (l.length+1) c from pieceV_zero) rfl ?_;refine ZG ?_;refine Zz (Zs (Y_pk [0,8,7,6,1,2] ?_))
     iterate 2 refine ZJ ?_
     refine Zq (l:=[0,1,2,3,4,5,6,7]) rfl ?_
     obtain ⟨ext,hext,ho13⟩:=OSl.extend (m:=1) (show OSl 25 21 (.slice (some ⟨b,0,none⟩) (l.map ZC.segs).length c) hs (l.map ZC.segs) by rw [List.length_map];exact ho) (by rw [List.length_map];omega)
     rw [List.length_map] at ho13
     iterate 4 refine ZA ?_
     refine XS rfl rfl rfl rfl rfl (by exact Xn (by decide) (by omega)) rfl ?_;refine WH rfl rfl rfl (.some (k:=i+1) rfl (by rfl)) .none .none F.elem26 (by simp) (by simp only [Option.getD_some,Option.getD_none];omega) (by simp only [Option.getD_some,Option.getD_none];omega) (by simp) (show WK (some ⟨_,0,none⟩) 21 (i+1) (l.length+1) (c)=.slice (some ⟨_,0+(i+1) * 21,none⟩) (l.length+1-(i+1)) (c-(i+1)) from pieceV_in (by omega)) rfl ?_;refine X_ext rfl rfl F.ext137 rfl (fun w hw=>run_apart (tR:=4) F.elem26 ho (by repeat first|exact Rem.here _|exact Rem.two|apply Rem.skip|apply Rem.over) (.head _) (Nat.mul_pos (by omega) (by decide)) hw) rfl ?_;refine Xp ?_;refine Zz (Zs (Y_pk [68,0,8,7,6,1,2] ?_))
     refine YB rfl (fun hc7=>?_) (fun hc7=>?_)
     ·skip
      refine ZJ (YD (l:=[0,1,2,3,4,5,6,7,8]) #[0,0,0,6,15,0,0,96,255] _ rfl (by kernel_rfl) (by kernel_rfl) St.drawn (fun _ h=>h) ?_)
      iterate 3 refine ZA ?_
      refine XS rfl rfl rfl rfl rfl (by exact Xn (by decide) (by omega)) rfl ?_;refine WH rfl rfl rfl (.some (k:=i+1) rfl (by rfl)) .none .none F.elem26 (by simp) (by simp only [Option.getD_some,Option.getD_none];omega) (by simp only [Option.getD_some,Option.getD_none];omega) (by simp) (show WK (some ⟨_,0,none⟩) 21 (i+1) (l.length+1) (c)=.slice (some ⟨_,0+(i+1) * 21,none⟩) (l.length+1-(i+1)) (c-(i+1)) from pieceV_in (by omega)) rfl ?_
      iterate 2 refine ZA ?_
      refine WH rfl rfl rfl (.some (k:=i) rfl (by rfl)) .none .none F.elem26 (by simp) (by simp only [Option.getD_some,Option.getD_none];omega) (by simp only [Option.getD_some,Option.getD_none];omega) (by simp) (show WK (some ⟨_,0,none⟩) 21 (i) (l.length+1) (c)=.slice (some ⟨_,0+(i) * 21,none⟩) (l.length+1-(i)) (c-(i)) from pieceV_in (by omega)) rfl ?_
      rw [Nat.zero_add,Nat.zero_add]
      refine X_copyP (k:=i+1) (news:=(l.map ZC.segs).drop i) rfl rfl rfl rfl rfl F.elem26 rfl (by simp [hext];omega) ho13 (by repeat first|exact Rem.here _|exact Rem.two|apply Rem.skip|apply Rem.over) (by rw [List.length_drop];exact hom.src (by repeat first|exact Rem.here _|exact Rem.two|apply Rem.skip|apply Rem.over) (by intro u hu;exact rows_one ZC.flat l u hu)) (by simp only [List.length_drop,List.length_map];omega) rfl ?_;intro hs15 ho15
      have hn15:((l.map ZC.segs)++ext).length=l.length+1:=by simp [hext]
      rw [hn15] at ho15
      refine Zz (Zs (Y_pk [0,8,7,6,1,2] ?_));refine ZJ (Zq (l:=[0,1,2,3,4]) rfl ?_)
      iterate 2 refine ZA ?_
      refine WH rfl rfl rfl (.some (k:=i) rfl (by rfl)) .none .none F.elem26 (by simp) (by simp only [Option.getD_some,Option.getD_none];omega) (by simp only [Option.getD_some,Option.getD_none];omega) (by simp) (show WK (some ⟨_,0,none⟩) 21 (i) (l.length+1) (c)=.slice (some ⟨_,0+(i) * 21,none⟩) (l.length+1-(i)) (c-(i)) from pieceV_in (by omega)) rfl ?_;refine ZA ?_
      rw [Nat.zero_add]
      have hn16:(((l.map ZC.segs)++ext).take (i+1)++(l.map ZC.segs).drop i++((l.map ZC.segs)++ext).drop (i+1+((l.map ZC.segs).drop i).length)).length=l.length+1:=by simp only [List.length_append,List.length_take,List.length_drop,List.length_map,hext];omega
      refine X_copyP (k:=i) (news:=[ZC.segs x]) rfl rfl rfl rfl rfl F.elem26 rfl (by rw [hn16];omega) ho15 (by repeat first|exact Rem.here _|exact Rem.two|apply Rem.skip|apply Rem.over) (OSl.srcAll hob (by repeat first|exact Rem.here _|exact Rem.two|apply Rem.skip|apply Rem.over) (by intro u hu;exact rows_one ZC.flat [x] u (by simpa using hu))) (by show 1=min 1 (l.length+1-i);omega) rfl ?_;intro hs16 ho16
      rw [hn16] at ho16
      rw [show i+[ZC.segs x].length=i+1 from rfl,ins_room (by rw [List.length_map];omega) hext] at ho16
      refine Zz (Zs (Y_pk [0,8,7,6,1,2] ?_));refine ZJ (Zq (l:=[0,1]) rfl ?_);refine ZA ?_;refine ZG ?_;refine Zz (Zs (Y_pk [6,0,8,7,1,2] ?_));refine Yv (Xc ?_)
      refine Yk (.inr rfl) (.tmp rfl .nil) (fun w hw=>?_)
      exact ⟨_,M,hs16,rfl,Mem.le.refl M,hw.c,rfl,by rw [insL_map];exact ho16⟩
     ·skip
      (exfalso;simp [eqX] at hc7;done)
theorem InsertP_ok (M:Mem) (a:Option Addr) (c:Nat) (l:List ZC) (hs:Hp) (i:Nat) (hi:i≤l.length) (x:ZC) (bv:Nat) (hv:Hp) (hob:OSl 25 21 (.slice (some ⟨bv,0,none⟩) 1 1) hv [ZC.segs x]) (hb:l.length≤1000000) (ho:OSl 25 21 (.slice a l.length c) hs (l.map ZC.segs)):Fh Tryz.prog 105 [.slice a l.length c,.int .i64 (i:Int),.slice (some ⟨bv,0,none⟩) 1 1] M (hs++hv) (fun M' v Hout=>M'=M∧OSl 25 21 v Hout ((insL l i x).map ZC.segs)):=by
  cases a with
  |none =>
   obtain ⟨rfl,rfl,rfl⟩:=ho.noneAll
   obtain rfl:i=0:=by simpa using hi
   exact InsertP_nil M x bv hv hob
  |some ad =>
   obtain ⟨b,rfl⟩:=ho.someAll
   exact InsertP_some M b c l hs i hi x bv hv hob hb ho
end Go.Proofs.YtajmnjefajknoaaGreat
namespace Go.Proofs.YtajmnjefajknoaaGreat
open Go.Esp
theorem F.ok104:okFn Tryz.prog 104=true:=by kernel_rfl
theorem F.ok105:okFn Tryz.prog 105=true:=by kernel_rfl
theorem told_ok (M:Mem) (bw:Nat) (Za:Int) (Zc:Plc) (Zd:Int) (Zh:Plc) (Zj Zf Zp:Option Addr) (Zi Ze Zo:Nat) (Zg Zb:List ZC) (Zl:List Int) (Zt:Int) (Zr:Bool) (ZE Zy ZM ZB Zw Zu Zn Zx Zm:Int) (Zv:Plc) (ZD ZF:Int) (Yh:ZR.ok M ⟨⟨Za,Zc⟩,⟨Zd,Zh⟩,⟨Zj,Zi,Zg⟩,⟨Zf,Ze,Zb⟩⟩) (Yp:SlK M (oneI .i64) 1 ⟨Zp,Zo,Zl⟩) (hbig:Zg.length≤40∧Zb.length≤200) (hLa:Zl.length≤1000) (hh:0≤ZD∧ZD≤1000) (l:ZN) (hl0:ZN.ok M l) (hLp:l.peers.l.length≤1000) (hk:l.kind=4):Fh Tryz.prog 48 [.pointer (some ⟨bw,0,none⟩),l.enc] M [(bw,rowO (ZQ.segs ⟨⟨⟨⟨Za,Zc⟩,⟨Zd,Zh⟩,⟨Zj,Zi,Zg⟩,⟨Zf,Ze,Zb⟩⟩,Zt,Zr,ZE,Zy,ZM,ZB,Zw,Zu,Zn,Zx,Zm,Zv,⟨Zp,Zo,Zl⟩,ZD,ZF⟩,⟨none,0,[]⟩⟩) 68)] (fun M' v Hout=>v=.tuple #[]∧WkF bw 68 M' Hout (XL (ZP.nd ⟨⟨⟨Za,Zc⟩,⟨Zd,Zh⟩,⟨Zj,Zi,Zg⟩,⟨Zf,Ze,Zb⟩⟩,Zt,Zr,ZE,Zy,ZM,ZB,Zw,Zu,Zn,Zx,Zm,Zv,⟨Zp,Zo,Zl⟩,ZD,ZF⟩) l.lt)):=by
  obtain ⟨Yc,⟨ZS,Yq⟩,YM,l_id,⟨Yb,Ya,ZO⟩,YC,⟨ZL,ZV⟩,⟨ZZ,ZX,ZK⟩⟩:=l
  simp only at hLp hk
  have Xm:SlK M (oneI .i64) 1 ⟨Yb,Ya,ZO⟩:=hl0.h0
  have YZ:SlK M ZC.segs 21 ⟨ZZ,ZX,ZK⟩:=hl0.h1
  have XI:=YZ.h1
  simp only at XI
  have WA:(ZK.map ZC.segs).length=ZK.length:=List.length_map ..
  have WB:ZK.length≤ZX:=YZ.h3
  refine XJ (fun H=>(bw,rowO (ZQ.segs ⟨⟨⟨⟨Za,Zc⟩,⟨Zd,Zh⟩,⟨Zj,Zi,Zg⟩,⟨Zf,Ze,Zb⟩⟩,Zt,Zr,ZE,Zy,ZM,ZB,Zw,Zu,Zn,Zx,Zm,Zv,⟨Zp,Zo,Zl⟩,ZD,ZF⟩,⟨none,0,[]⟩⟩) 68)::H) (fun _=>by simp only [List.append_assoc,List.cons_append,List.nil_append]) Tryz.func48 rfl Tryz.ntmps48 rfl ?_;intro H
  refine ZJ (Zq (l:=[0]) rfl ?_)
  refine Xl ?_;intro b1
  refine Zz (Zs (Y_pk [3,0] ?_))
  iterate 2 refine ZJ ?_
  refine YD (l:=[0,1,2,3,4,5,6,7,8,9,10,11,12,13,14,15,16,17,18]) #[0,1,3,7,15,0,32,96,255,511,1023,2047,4095,8191,16383,1023,33791,131071,262143] _ rfl (by kernel_rfl) (by kernel_rfl) St.drawn (fun _ h=>h) ?_;refine ZA ?_;refine ZT ?_;refine Zk F.foff68_0 ?_;refine Zk F.foff32_6 ?_;refine ZI F.lay3 ?_;refine Zk F.foff44_1 ?_;refine Zk F.foff25_0 ?_;refine ZI F.lay3 ?_;refine YA ?_;refine ZA ?_
  refine Yj 13 rfl (fun hc2=>?_) (fun hc2=>?_)
  ·replace hc2:=nT hc2
   iterate 8 refine Yw ?_
   refine ZU ?_;refine Zz (Zs (Y_pk [22,3,0] ?_));refine Xq rfl ?_;refine Yv (Xc ?_)
   refine Yk (.inr rfl) (.nil) (fun w hw=>?_)
   have h3:XL (ZP.nd ⟨⟨⟨Za,Zc⟩,⟨Zd,Zh⟩,⟨Zj,Zi,Zg⟩,⟨Zf,Ze,Zb⟩⟩,Zt,Zr,ZE,Zy,ZM,ZB,Zw,Zu,Zn,Zx,Zm,Zv,⟨Zp,Zo,Zl⟩,ZD,ZF⟩) (ZN.lt ⟨Yc,⟨ZS,Yq⟩,YM,l_id,⟨Yb,Ya,ZO⟩,YC,⟨ZL,ZV⟩,⟨ZZ,ZX,ZK⟩⟩)=((ZP.nd ⟨⟨⟨Za,Zc⟩,⟨Zd,Zh⟩,⟨Zj,Zi,Zg⟩,⟨Zf,Ze,Zb⟩⟩,Zt,Zr,ZE,Zy,ZM,ZB,Zw,Zu,Zn,Zx,Zm,Zv,⟨Zp,Zo,Zl⟩,ZD,ZF⟩),[]):=(does4 hk).trans (told_no (by exact .inl (by assumption)))
   refine ⟨_,M,[(bw,rowO (ZQ.segs ⟨⟨⟨⟨Za,Zc⟩,⟨Zd,Zh⟩,⟨Zj,Zi,Zg⟩,⟨Zf,Ze,Zb⟩⟩,Zt,Zr,ZE,Zy,ZM,ZB,Zw,Zu,Zn,Zx,Zm,Zv,⟨Zp,Zo,Zl⟩,ZD,ZF⟩,⟨none,0,[]⟩⟩) 68)],rfl,Mem.le.refl M,hw.c,rfl,⟨⟨⟨Za,Zc⟩,⟨Zd,Zh⟩,⟨Zj,Zi,Zg⟩,⟨Zf,Ze,Zb⟩⟩,Zt,Zr,ZE,Zy,ZM,ZB,Zw,Zu,Zn,Zx,Zm,Zv,⟨Zp,Zo,Zl⟩,ZD,ZF⟩,⟨none,0,[]⟩,rfl,?_,?_,⟨Yh,Yp⟩,SlK.nil,fun y hy=>by cases hy⟩
   ·rw [h3] <;> rfl
   ·rw [h3] <;> rfl
  ·replace hc2:=nF hc2
   refine ZA ?_;refine ZT ?_;refine Zk F.foff68_0 ?_;refine Zk F.foff32_7 ?_;refine ZI F.lay29 ?_;refine Zk F.foff44_2 ?_;refine ZI F.lay29 ?_;refine YA ?_;refine ZU ?_;refine Zz (Zs (Y_pk [22,3,0] ?_))
   refine YB rfl (fun hc3=>?_) (fun hc3=>?_)
   ·replace hc3:=nT hc3
    refine Yv (Xc ?_)
    refine Yk (.inr rfl) (.nil) (fun w hw=>?_)
    have h3:XL (ZP.nd ⟨⟨⟨Za,Zc⟩,⟨Zd,Zh⟩,⟨Zj,Zi,Zg⟩,⟨Zf,Ze,Zb⟩⟩,Zt,Zr,ZE,Zy,ZM,ZB,Zw,Zu,Zn,Zx,Zm,Zv,⟨Zp,Zo,Zl⟩,ZD,ZF⟩) (ZN.lt ⟨Yc,⟨ZS,Yq⟩,YM,l_id,⟨Yb,Ya,ZO⟩,YC,⟨ZL,ZV⟩,⟨ZZ,ZX,ZK⟩⟩)=((ZP.nd ⟨⟨⟨Za,Zc⟩,⟨Zd,Zh⟩,⟨Zj,Zi,Zg⟩,⟨Zf,Ze,Zb⟩⟩,Zt,Zr,ZE,Zy,ZM,ZB,Zw,Zu,Zn,Zx,Zm,Zv,⟨Zp,Zo,Zl⟩,ZD,ZF⟩),[]):=(does4 hk).trans (told_no (by exact .inr (by assumption)))
    refine ⟨_,M,[(bw,rowO (ZQ.segs ⟨⟨⟨⟨Za,Zc⟩,⟨Zd,Zh⟩,⟨Zj,Zi,Zg⟩,⟨Zf,Ze,Zb⟩⟩,Zt,Zr,ZE,Zy,ZM,ZB,Zw,Zu,Zn,Zx,Zm,Zv,⟨Zp,Zo,Zl⟩,ZD,ZF⟩,⟨none,0,[]⟩⟩) 68)],rfl,Mem.le.refl M,hw.c,rfl,⟨⟨⟨Za,Zc⟩,⟨Zd,Zh⟩,⟨Zj,Zi,Zg⟩,⟨Zf,Ze,Zb⟩⟩,Zt,Zr,ZE,Zy,ZM,ZB,Zw,Zu,Zn,Zx,Zm,Zv,⟨Zp,Zo,Zl⟩,ZD,ZF⟩,⟨none,0,[]⟩,rfl,?_,?_,⟨Yh,Yp⟩,SlK.nil,fun y hy=>by cases hy⟩
    ·rw [h3] <;> rfl
    ·rw [h3] <;> rfl
   ·replace hc3:=nF hc3
    refine Yy (Zs (Y_pk [3,0] ?_));refine ZJ (Zq (l:=[0,1,2,3,4]) rfl ?_);refine ZA ?_;refine ZT ?_;refine Zk F.foff68_0 ?_;refine Zk F.foff32_6 ?_;refine Yi F.lay3 ?_;refine Zz (Zs (Y_pk [3,0] ?_));refine ZJ (Xi (l:=[0,1,2,3,4,5]) [5] rfl ?_);refine ZA ?_;refine Zk F.foff44_1 ?_;refine ZI F.lay25 ?_;refine Zk F.foff44_7 ?_;refine ZI F.lay26 ?_;refine Wo rfl rfl rfl F.ok82 rfl (adopt_ok M bw Za Zc Zd Zh Zj Zf Zp Zi Ze Zo Zg Zb Zl Zt Zr ZE Zy ZM (-1) Zw Zu Zn Zx Zm Zv ZD ZF Yh ⟨ZS,Yq⟩ ⟨ZZ,ZX,ZK⟩ YZ) (by repeat first|exact Rem.here _|exact Rem.two|apply Rem.skip|apply Rem.over) (Yu rfl) ?_
    rintro _ M1 hs1 hm1 ⟨rfl,⟨⟨wa,wi⟩,⟨wq,wj⟩,⟨w1a,w1c,w1l⟩,⟨w2a,w2c,w2l⟩⟩,rfl,okt,hv1⟩
    simp only [List.append_assoc,List.cons_append,List.nil_append]
    refine Zz (Wb ?_);refine Zs (Y_pk [3,0] ?_)
    iterate 2 refine ZJ ?_
    refine YD (l:=[0,1,2,3,4,5,6,7]) #[0,1,3,7,15,0,32,127] _ rfl (by kernel_rfl) (by kernel_rfl) St.drawn (fun _ h=>h) ?_;refine ZA ?_;refine ZT ?_;refine Zk F.foff68_0 ?_;refine Zk F.foff32_0 ?_;refine ZI F.lay28 ?_;refine Zk F.foff44_6 ?_;refine ZI F.lay25 ?_;refine X_fs rfl rfl F.ok104 rfl (Closer_ok _ ⟨⟨wa,wi⟩,⟨wq,wj⟩,⟨w1a,w1c,w1l⟩,⟨w2a,w2c,w2l⟩⟩ ⟨ZL,ZV⟩ okt) rfl ?_
    rintro _ rfl
    refine Zz (Zs (Y_pk [40,3,0] ?_))
    refine YB rfl (fun hc4=>?_) (fun hc4=>?_)
    ·replace hc4:=dT hc4
     refine C_region_anyW (l:=[0,1,2,3,4,5,6,7,8,9,10]) [10] #[0,0,2,0,8,24,0,64,192,504,1023] (_) rfl (by kernel_rfl) (by kernel_rfl) St.drawn (fun _ h=>h) ?_;refine ZA ?_;refine Zk F.foff44_6 ?_;refine ZI F.lay25 ?_;refine Zk F.foff44_7 ?_;refine ZI F.lay26 ?_;refine VJ rfl rfl F.ok106 rfl (CloneP_ok M1 ZZ ZX ZK (YZ.mono hm1) (by omega)) (by repeat first|exact Rem.here _|exact Rem.two|apply Rem.skip|apply Rem.over) (fun _ _ _ hm hw=>(hw.lower (by exact hm)).c) (Yu rfl) ?_
     rintro v0 M2 hs0 hm2 ⟨hM2,ho0⟩;subst M2;clear hm2
     obtain ⟨ad0,cp0,rfl⟩:=ho0.valL
     refine Zk F.foff44_1 ?_;refine ZI F.lay25 ?_
     refine XR rfl rfl F.elem26 F.zero25 rfl rfl (.cons rfl (by constructor) .nil) rfl rfl (by simp only [List.map_cons,List.map_nil] <;> rfl) rfl ?_;intro b5 hob6
     refine X_fhR2 rfl rfl F.ok105 rfl (InsertP_ok M1 ad0 cp0 ZK hs0 0 (Nat.zero_le _) ⟨ZS,Yq⟩ _ _ hob6 (by omega) ho0) (by repeat first|exact Rem.here _|exact Rem.two|apply Rem.skip|apply Rem.over) (by repeat first|exact Rem.here _|exact Rem.two|apply Rem.skip|apply Rem.over) (by rintro v M9 Ho w hm ⟨rfl,_⟩ hw;exact hw.c) (Yu rfl) ?_
     rintro v7 MX hs7 hmX ⟨hMX,ho7⟩
     subst MX
     clear hmX
     obtain ⟨ad7,cp7,rfl⟩:=ho7.valL
     simp only [List.append_assoc,List.cons_append,List.nil_append]
     refine X_fhW2 rfl rfl rfl F.ok82 rfl ((fh_thaw ho7 (fun M9 j1 j3=>adopt_ok M9 bw wa wi wq wj w1a w2a Zp w1c w2c Zo w1l w2l Zl Zt Zr ZE Zy ZM (-1) Zw Zu Zn Zx Zm Zv ZD ZF (okt.mono j1) ⟨ZL,ZV⟩ ⟨ad7,cp7,insL ZK 0 ⟨ZS,Yq⟩⟩ j3))) (by repeat first|exact Rem.here _|exact Rem.two|apply Rem.skip|apply Rem.over) (by repeat first|exact Rem.here _|exact Rem.two|apply Rem.skip|apply Rem.over) (Yu rfl) ?_
     rintro _ M2 hs2 hm2 ⟨rfl,⟨⟨ua,ui⟩,⟨uq,uj⟩,⟨u1a,u1c,u1l⟩,⟨u2a,u2c,u2l⟩⟩,rfl,oku,hv2⟩
     simp only [List.append_assoc,List.cons_append,List.nil_append]
     refine Zz (Wb ?_);refine Zs (Y_pk [0] ?_);refine Xi (l:=[0,1,2,3,4,5,6,7,8,9,10]) [10] rfl ?_
     iterate 2 refine ZA ?_
     refine ZT ?_;refine Zk F.foff68_0 ?_;refine Zk F.foff32_0 ?_;refine ZI F.lay28 ?_;refine X_fs rfl rfl F.ok41 rfl (Vg _ ⟨⟨ua,ui⟩,⟨uq,uj⟩,⟨u1a,u1c,u1l⟩,⟨u2a,u2c,u2l⟩⟩ oku) rfl ?_
     rintro _ rfl
     obtain ⟨⟨fa,fi⟩,hfi⟩:∃ x,Xh (ZR.tb ⟨⟨ua,ui⟩,⟨uq,uj⟩,⟨u1a,u1c,u1l⟩,⟨u2a,u2c,u2l⟩⟩)=x:=⟨_,rfl⟩
     rw [hfi]
     refine Y_field F.fld25_0 F.lay3 ?_;refine X_fs rfl rfl F.ok66 rfl (WI _) rfl ?_
     rintro _ rfl
     refine Vf 60 rfl (show _=aggV [.one (.int .i64 (-1)),Ym 0] from rfl) ?_;refine Xo rfl rfl F.bld44 (.cons rfl (by constructor) (.cons rfl (by constructor) .nil)) rfl rfl ?_;refine Wo rfl rfl rfl F.ok65 rfl (sendF_ok M2 bw ua ui uq uj u1a u2a Zp u1c u2c Zo u1l u2l Zl Zt Zr ZE Zy ZM (-1) Zw Zu Zn Zx Zm Zv ZD ZF fa ⟨5,⟨0,0⟩,0,0,⟨none,0,[]⟩,false,⟨-1,0⟩,⟨none,0,[]⟩⟩) (by repeat first|exact Rem.here _|exact Rem.two|apply Rem.skip|apply Rem.over) (Yu rfl) ?_
     rintro _ M3 hs3 hm3 ⟨rfl,⟨o9a,o9c,o9l⟩,rfl,k9o,hl9⟩
     simp only at hl9
     simp only [List.append_assoc,List.cons_append,List.nil_append]
     refine Zz (Wb ?_)
     refine Yk (.inl rfl) (.nil) (fun w hw=>?_)
     have h3:=(does4 (n:=(ZP.nd ⟨⟨⟨Za,Zc⟩,⟨Zd,Zh⟩,⟨Zj,Zi,Zg⟩,⟨Zf,Ze,Zb⟩⟩,Zt,Zr,ZE,Zy,ZM,ZB,Zw,Zu,Zn,Zx,Zm,Zv,⟨Zp,Zo,Zl⟩,ZD,ZF⟩)) (l:=(ZN.lt ⟨Yc,⟨ZS,Yq⟩,YM,l_id,⟨Yb,Ya,ZO⟩,YC,⟨ZL,ZV⟩,⟨ZZ,ZX,ZK⟩⟩)) hk).trans (told_yes (m:=ZP.nd ⟨⟨⟨wa,wi⟩,⟨wq,wj⟩,⟨w1a,w1c,w1l⟩,⟨w2a,w2c,w2l⟩⟩,Zt,Zr,ZE,Zy,ZM,(-1),Zw,Zu,Zn,Zx,Zm,Zv,⟨Zp,Zo,Zl⟩,ZD,ZF⟩) (show (ZP.nd ⟨⟨⟨Za,Zc⟩,⟨Zd,Zh⟩,⟨Zj,Zi,Zg⟩,⟨Zf,Ze,Zb⟩⟩,Zt,Zr,ZE,Zy,ZM,ZB,Zw,Zu,Zn,Zx,Zm,Zv,⟨Zp,Zo,Zl⟩,ZD,ZF⟩).askTo=(ZN.lt ⟨Yc,⟨ZS,Yq⟩,YM,l_id,⟨Yb,Ya,ZO⟩,YC,⟨ZL,ZV⟩,⟨ZZ,ZX,ZK⟩⟩).frm.addr by show ZB=ZS;first|assumption|omega) (show (ZP.nd ⟨⟨⟨Za,Zc⟩,⟨Zd,Zh⟩,⟨Zj,Zi,Zg⟩,⟨Zf,Ze,Zb⟩⟩,Zt,Zr,ZE,Zy,ZM,ZB,Zw,Zu,Zn,Zx,Zm,Zv,⟨Zp,Zo,Zl⟩,ZD,ZF⟩).askReq=(ZN.lt ⟨Yc,⟨ZS,Yq⟩,YM,l_id,⟨Yb,Ya,ZO⟩,YC,⟨ZL,ZV⟩,⟨ZZ,ZX,ZK⟩⟩).req by show Zw=YM;first|assumption|omega) hv1 (show Vv (ZR.tb ⟨⟨wa,wi⟩,⟨wq,wj⟩,⟨w1a,w1c,w1l⟩,⟨w2a,w2c,w2l⟩⟩) ⟨ZL,ZV⟩ by assumption) (q:=ZP.nd ⟨⟨⟨ua,ui⟩,⟨uq,uj⟩,⟨u1a,u1c,u1l⟩,⟨u2a,u2c,u2l⟩⟩,Zt,Zr,ZE,Zy,ZM,(-1),Zw,Zu,Zn,Zx,Zm,Zv,⟨Zp,Zo,Zl⟩,ZD,ZF⟩) hv2)
     rw [show Xh (ZP.nd ⟨⟨⟨ua,ui⟩,⟨uq,uj⟩,⟨u1a,u1c,u1l⟩,⟨u2a,u2c,u2l⟩⟩,Zt,Zr,ZE,Zy,ZM,(-1),Zw,Zu,Zn,Zx,Zm,Zv,⟨Zp,Zo,Zl⟩,ZD,ZF⟩).table=⟨fa,fi⟩ from hfi] at h3
     refine ⟨_,M3,[(bw,rowO (ZQ.segs ⟨⟨⟨⟨ua,ui⟩,⟨uq,uj⟩,⟨u1a,u1c,u1l⟩,⟨u2a,u2c,u2l⟩⟩,Zt,Zr,ZE,Zy,ZM,(-1),Zw,Zu,Zn,Zx,Zm,Zv,⟨Zp,Zo,Zl⟩,ZD,ZF⟩,⟨o9a,o9c,o9l⟩⟩) 68)],rfl,((hm1.trans hm2).trans hm3),hw.c,rfl,⟨⟨⟨ua,ui⟩,⟨uq,uj⟩,⟨u1a,u1c,u1l⟩,⟨u2a,u2c,u2l⟩⟩,Zt,Zr,ZE,Zy,ZM,(-1),Zw,Zu,Zn,Zx,Zm,Zv,⟨Zp,Zo,Zl⟩,ZD,ZF⟩,⟨o9a,o9c,o9l⟩,rfl,?_,?_,⟨oku.mono hm3,((Yp.mono hm1).mono hm2).mono hm3⟩,k9o,fun y hy=>?_⟩
     ·rw [h3] <;> rfl
     ·rw [h3]
      show sndl o9l=_
      rw [hl9];rfl
     ·simp only at hy
      rw [hl9] at hy
      obtain rfl:=List.mem_singleton.1 hy
      exact ⟨⟨SlK.nil,SlK.nil⟩⟩
    ·replace hc4:=dF hc4
     refine Yy (Zs (Y_pk [0] ?_));refine Xi (l:=[0,1,2,3,4,5,6,7,8,9,10]) [10] rfl ?_
     iterate 2 refine ZA ?_
     refine ZT ?_;refine Zk F.foff68_0 ?_;refine Zk F.foff32_0 ?_;refine ZI F.lay28 ?_;refine X_fs rfl rfl F.ok41 rfl (Vg _ ⟨⟨wa,wi⟩,⟨wq,wj⟩,⟨w1a,w1c,w1l⟩,⟨w2a,w2c,w2l⟩⟩ okt) rfl ?_
     rintro _ rfl
     obtain ⟨⟨fa,fi⟩,hfi⟩:∃ x,Xh (ZR.tb ⟨⟨wa,wi⟩,⟨wq,wj⟩,⟨w1a,w1c,w1l⟩,⟨w2a,w2c,w2l⟩⟩)=x:=⟨_,rfl⟩
     rw [hfi]
     refine Y_field F.fld25_0 F.lay3 ?_;refine X_fs rfl rfl F.ok66 rfl (WI _) rfl ?_
     rintro _ rfl
     refine Vf 60 rfl (show _=aggV [.one (.int .i64 (-1)),Ym 0] from rfl) ?_;refine Xo rfl rfl F.bld44 (.cons rfl (by constructor) (.cons rfl (by constructor) .nil)) rfl rfl ?_;refine Wo rfl rfl rfl F.ok65 rfl (sendF_ok M1 bw wa wi wq wj w1a w2a Zp w1c w2c Zo w1l w2l Zl Zt Zr ZE Zy ZM (-1) Zw Zu Zn Zx Zm Zv ZD ZF fa ⟨5,⟨0,0⟩,0,0,⟨none,0,[]⟩,false,⟨-1,0⟩,⟨none,0,[]⟩⟩) (by repeat first|exact Rem.here _|exact Rem.two|apply Rem.skip|apply Rem.over) (Yu rfl) ?_
     rintro _ M3 hs3 hm3 ⟨rfl,⟨o9a,o9c,o9l⟩,rfl,k9o,hl9⟩
     simp only at hl9
     simp only [List.append_assoc,List.cons_append,List.nil_append]
     refine Zz (Wb ?_)
     refine Yk (.inl rfl) (.nil) (fun w hw=>?_)
     have h3:=(does4 (n:=(ZP.nd ⟨⟨⟨Za,Zc⟩,⟨Zd,Zh⟩,⟨Zj,Zi,Zg⟩,⟨Zf,Ze,Zb⟩⟩,Zt,Zr,ZE,Zy,ZM,ZB,Zw,Zu,Zn,Zx,Zm,Zv,⟨Zp,Zo,Zl⟩,ZD,ZF⟩)) (l:=(ZN.lt ⟨Yc,⟨ZS,Yq⟩,YM,l_id,⟨Yb,Ya,ZO⟩,YC,⟨ZL,ZV⟩,⟨ZZ,ZX,ZK⟩⟩)) hk).trans (told_not (m:=ZP.nd ⟨⟨⟨wa,wi⟩,⟨wq,wj⟩,⟨w1a,w1c,w1l⟩,⟨w2a,w2c,w2l⟩⟩,Zt,Zr,ZE,Zy,ZM,(-1),Zw,Zu,Zn,Zx,Zm,Zv,⟨Zp,Zo,Zl⟩,ZD,ZF⟩) (show (ZP.nd ⟨⟨⟨Za,Zc⟩,⟨Zd,Zh⟩,⟨Zj,Zi,Zg⟩,⟨Zf,Ze,Zb⟩⟩,Zt,Zr,ZE,Zy,ZM,ZB,Zw,Zu,Zn,Zx,Zm,Zv,⟨Zp,Zo,Zl⟩,ZD,ZF⟩).askTo=(ZN.lt ⟨Yc,⟨ZS,Yq⟩,YM,l_id,⟨Yb,Ya,ZO⟩,YC,⟨ZL,ZV⟩,⟨ZZ,ZX,ZK⟩⟩).frm.addr by show ZB=ZS;first|assumption|omega) (show (ZP.nd ⟨⟨⟨Za,Zc⟩,⟨Zd,Zh⟩,⟨Zj,Zi,Zg⟩,⟨Zf,Ze,Zb⟩⟩,Zt,Zr,ZE,Zy,ZM,ZB,Zw,Zu,Zn,Zx,Zm,Zv,⟨Zp,Zo,Zl⟩,ZD,ZF⟩).askReq=(ZN.lt ⟨Yc,⟨ZS,Yq⟩,YM,l_id,⟨Yb,Ya,ZO⟩,YC,⟨ZL,ZV⟩,⟨ZZ,ZX,ZK⟩⟩).req by show Zw=YM;first|assumption|omega) hv1 (show ¬Vv (ZR.tb ⟨⟨wa,wi⟩,⟨wq,wj⟩,⟨w1a,w1c,w1l⟩,⟨w2a,w2c,w2l⟩⟩) ⟨ZL,ZV⟩ by assumption))
     rw [show Xh (ZP.nd ⟨⟨⟨wa,wi⟩,⟨wq,wj⟩,⟨w1a,w1c,w1l⟩,⟨w2a,w2c,w2l⟩⟩,Zt,Zr,ZE,Zy,ZM,(-1),Zw,Zu,Zn,Zx,Zm,Zv,⟨Zp,Zo,Zl⟩,ZD,ZF⟩).table=⟨fa,fi⟩ from hfi] at h3
     refine ⟨_,M3,[(bw,rowO (ZQ.segs ⟨⟨⟨⟨wa,wi⟩,⟨wq,wj⟩,⟨w1a,w1c,w1l⟩,⟨w2a,w2c,w2l⟩⟩,Zt,Zr,ZE,Zy,ZM,(-1),Zw,Zu,Zn,Zx,Zm,Zv,⟨Zp,Zo,Zl⟩,ZD,ZF⟩,⟨o9a,o9c,o9l⟩⟩) 68)],rfl,(hm1.trans hm3),hw.c,rfl,⟨⟨⟨wa,wi⟩,⟨wq,wj⟩,⟨w1a,w1c,w1l⟩,⟨w2a,w2c,w2l⟩⟩,Zt,Zr,ZE,Zy,ZM,(-1),Zw,Zu,Zn,Zx,Zm,Zv,⟨Zp,Zo,Zl⟩,ZD,ZF⟩,⟨o9a,o9c,o9l⟩,rfl,?_,?_,⟨okt.mono hm3,(Yp.mono hm1).mono hm3⟩,k9o,fun y hy=>?_⟩
     ·rw [h3] <;> rfl
     ·rw [h3]
      show sndl o9l=_
      rw [hl9];rfl
     ·simp only at hy
      rw [hl9] at hy
      obtain rfl:=List.mem_singleton.1 hy
      exact ⟨⟨SlK.nil,SlK.nil⟩⟩
end Go.Proofs.YtajmnjefajknoaaGreat
namespace Go.Proofs.YtajmnjefajknoaaGreat
open Go.Esp
theorem bye_ok (M:Mem) (bw:Nat) (Za:Int) (Zc:Plc) (Zd:Int) (Zh:Plc) (Zj Zf Zp:Option Addr) (Zi Ze Zo:Nat) (Zg Zb:List ZC) (Zl:List Int) (Zt:Int) (Zr:Bool) (ZE Zy ZM ZB Zw Zu Zn Zx Zm:Int) (Zv:Plc) (ZD ZF:Int) (Yh:ZR.ok M ⟨⟨Za,Zc⟩,⟨Zd,Zh⟩,⟨Zj,Zi,Zg⟩,⟨Zf,Ze,Zb⟩⟩) (Yp:SlK M (oneI .i64) 1 ⟨Zp,Zo,Zl⟩) (hbig:Zg.length≤40∧Zb.length≤200) (hLa:Zl.length≤1000) (hh:0≤ZD∧ZD≤1000) (l:ZN) (hl0:ZN.ok M l) (hLp:l.peers.l.length≤1000) (hk:l.kind=8):Fh Tryz.prog 52 [.pointer (some ⟨bw,0,none⟩),l.enc] M [(bw,rowO (ZQ.segs ⟨⟨⟨⟨Za,Zc⟩,⟨Zd,Zh⟩,⟨Zj,Zi,Zg⟩,⟨Zf,Ze,Zb⟩⟩,Zt,Zr,ZE,Zy,ZM,ZB,Zw,Zu,Zn,Zx,Zm,Zv,⟨Zp,Zo,Zl⟩,ZD,ZF⟩,⟨none,0,[]⟩⟩) 68)] (fun M' v Hout=>v=.tuple #[]∧WkF bw 68 M' Hout (XL (ZP.nd ⟨⟨⟨Za,Zc⟩,⟨Zd,Zh⟩,⟨Zj,Zi,Zg⟩,⟨Zf,Ze,Zb⟩⟩,Zt,Zr,ZE,Zy,ZM,ZB,Zw,Zu,Zn,Zx,Zm,Zv,⟨Zp,Zo,Zl⟩,ZD,ZF⟩) l.lt)):=by
  obtain ⟨Yc,⟨ZS,Yq⟩,YM,l_id,⟨Yb,Ya,ZO⟩,YC,⟨ZL,ZV⟩,⟨ZZ,ZX,ZK⟩⟩:=l
  simp only at hLp hk
  have Xm:SlK M (oneI .i64) 1 ⟨Yb,Ya,ZO⟩:=hl0.h0
  have YZ:SlK M ZC.segs 21 ⟨ZZ,ZX,ZK⟩:=hl0.h1
  have XI:=YZ.h1
  simp only at XI
  have WA:(ZK.map ZC.segs).length=ZK.length:=List.length_map ..
  have WB:ZK.length≤ZX:=YZ.h3
  refine XJ (fun H=>(bw,rowO (ZQ.segs ⟨⟨⟨⟨Za,Zc⟩,⟨Zd,Zh⟩,⟨Zj,Zi,Zg⟩,⟨Zf,Ze,Zb⟩⟩,Zt,Zr,ZE,Zy,ZM,ZB,Zw,Zu,Zn,Zx,Zm,Zv,⟨Zp,Zo,Zl⟩,ZD,ZF⟩,⟨none,0,[]⟩⟩) 68)::H) (fun _=>by simp only [List.append_assoc,List.cons_append,List.nil_append]) Tryz.func52 rfl Tryz.ntmps52 rfl ?_;intro H
  refine ZJ (Zq (l:=[0]) rfl ?_)
  refine Xl ?_;intro b1
  refine Zz (Zs (Y_pk [3,0] ?_));refine ZJ (YD (l:=[0,1,2,3,4,5,6,7,8,9,10,11,12,13,14,15,16,17,18,19,20,21,22,23]) #[0,1,3,7,15,31,63,0,128,384,1023,0,2048,6144,14336,30720,63488,129024,0,262144,786432,2095104,131071,8388607] _ rfl (by kernel_rfl) (by kernel_rfl) St.drawn (fun _ h=>h) ?_);refine ZA ?_;refine ZT ?_;refine Zk F.foff68_0 ?_;refine Zk F.foff32_0 ?_;refine Zk F.foff28_1 ?_;refine Zk F.foff25_0 ?_;refine ZI F.lay3 ?_;refine Zk F.foff44_1 ?_;refine Zk F.foff25_0 ?_;refine ZI F.lay3 ?_;refine YA ?_;refine ZA ?_;refine ZT ?_;refine Zk F.foff68_0 ?_;refine Zk F.foff32_0 ?_;refine ZI F.lay28 ?_;refine X_fs rfl rfl F.ok41 rfl (Vg _ ⟨⟨Za,Zc⟩,⟨Zd,Zh⟩,⟨Zj,Zi,Zg⟩,⟨Zf,Ze,Zb⟩⟩ Yh) rfl ?_
  rintro _ rfl
  obtain ⟨⟨fa,fi⟩,hfi⟩:∃ x,Xh (ZR.tb ⟨⟨Za,Zc⟩,⟨Zd,Zh⟩,⟨Zj,Zi,Zg⟩,⟨Zf,Ze,Zb⟩⟩)=x:=⟨_,rfl⟩
  rw [hfi]
  refine Y_field F.fld25_0 F.lay3 ?_;refine Zk F.foff44_1 ?_;refine Zk F.foff25_0 ?_;refine ZI F.lay3 ?_;refine YA ?_
  iterate 2 refine ZG ?_
  refine Zz (Zs (Y_pk [5,4,3,0] ?_));refine ZJ (YD (l:=[0,1,2,3,4,5,6,7,8,9,10,11,12,13]) #[0,0,2,6,14,30,0,64,192,510,1023,2047,4095,8191] _ rfl (by kernel_rfl) (by kernel_rfl) St.drawn (fun _ h=>h) ?_)
  iterate 2 refine ZA ?_
  refine ZT ?_;refine Zk F.foff68_0 ?_;refine Zk F.foff32_0 ?_;refine ZI F.lay28 ?_;refine Zk F.foff44_1 ?_;refine Zk F.foff25_0 ?_;refine ZI F.lay3 ?_;refine X_fn rfl rfl F.ok108 rfl (Forget_ok _ ⟨⟨Za,Zc⟩,⟨Zd,Zh⟩,⟨Zj,Zi,Zg⟩,⟨Zf,Ze,Zb⟩⟩ ZS Yh hbig) rfl ?_
  rintro _ M1 hm1 ⟨⟨⟨oa,oi⟩,⟨oq,oj⟩,⟨o1a,o1c,o1l⟩,⟨o2a,o2c,o2l⟩⟩,rfl,hot,okt⟩
  refine ZT ?_;refine Zk F.foff68_0 ?_;refine Zk F.foff32_0 ?_;refine Yi F.lay28 ?_;refine Zz (Zs (Y_pk [5,4,3,0] ?_))
  iterate 2 refine ZJ ?_
  refine Zq (l:=[0]) rfl ?_;refine ZA ?_;refine Zz (Zs (Y_pk [41,5,3,0] ?_))
  refine YB rfl (fun hc2=>?_) (fun hc2=>?_)
  ·replace hc2:=dT hc2
   refine YD (l:=[0,1,2,3,4,5,6,7,8,9,10,11,12]) #[0,0,2,6,14,30,0,64,254,511,1023,2047,4095] _ rfl (by kernel_rfl) (by kernel_rfl) St.drawn (fun _ h=>h) ?_
   iterate 2 refine ZA ?_
   refine ZT ?_;refine Zk F.foff68_0 ?_;refine Zk F.foff32_0 ?_;refine ZI F.lay28 ?_;refine Zk F.foff44_6 ?_;refine ZI F.lay25 ?_;refine X_fn rfl rfl F.ok107 rfl (Learn_ok _ ⟨⟨oa,oi⟩,⟨oq,oj⟩,⟨o1a,o1c,o1l⟩,⟨o2a,o2c,o2l⟩⟩ ⟨ZL,ZV⟩ okt) rfl ?_
   rintro _ M2 hm2 ⟨⟨⟨wa,wi⟩,⟨wq,wj⟩,⟨w1a,w1c,w1l⟩,⟨w2a,w2c,w2l⟩⟩,rfl,hol,okl⟩
   refine ZT ?_;refine Zk F.foff68_0 ?_;refine Zk F.foff32_0 ?_;refine Yi F.lay28 ?_;refine Zz (Zs (Y_pk [5,3,0] ?_));refine ZJ ?_
   have s_lp9:=XI.mono (hm1.trans hm2)
   refine Zq (l:=[0,1,2,3,4,5,6]) rfl ?_
   iterate 2 refine ZA ?_
   refine Yj 55 rfl (fun hc3=>?_) (fun hc3=>?_)
   ·replace hc3:=dT hc3
    refine Zk F.foff44_7 ?_;refine ZI F.lay26 ?_;refine Xa F.elem26 ?_;refine YA ?_;refine ZU ?_;refine Zz (Zs (Y_pk [60,3,0] ?_))
    refine YB rfl (fun hc4=>?_) (fun hc4=>?_)
    ·replace hc4:=dT hc4
     refine C_region_anyW (l:=[0,1,2,3,4,5,6,7,8]) [8] #[0,0,2,6,14,0,32,96,255] (_) rfl (by kernel_rfl) (by kernel_rfl) St.drawn (fun _ h=>h) ?_;refine ZA ?_;refine Zk F.foff44_7 ?_;refine ZI F.lay26 ?_;refine Xb rfl rfl rfl rfl F.elem26 (by rfl) (by (simp;omega)) (by exact SlM.plain (by assumption) (by (simp;omega))) rfl ?_;refine XQ rfl rfl rfl (by assumption) (by exact Wr (by (simp;omega))) F.lay25 rfl rfl rfl ?_;refine Zk F.foff44_7 ?_;refine ZI F.lay26 ?_;refine WH rfl rfl rfl (.some (k:=1) rfl rfl) .none .none F.elem26 (by simp only [Option.getD_none];omega) (by simp only [Option.getD_some,Option.getD_none];omega) (by simp only [Option.getD_some,Option.getD_none];omega) (by simp) (pieceV_drop (l:=ZK) (k:=1)) rfl ?_;refine Wo rfl rfl rfl F.ok82 rfl (adopt_ok M2 bw wa wi wq wj w1a w2a Zp w1c w2c Zo w1l w2l Zl Zt Zr ZE Zy ZM ZB Zw Zu Zn Zx Zm Zv ZD ZF okl ZK[0] ⟨_,_,ZK.drop 1⟩ ((YZ.mono (hm1.trans hm2)).drop 1 (by omega))) (by repeat first|exact Rem.here _|exact Rem.two|apply Rem.skip|apply Rem.over) (Yu rfl) ?_
     rintro _ M3 hs3 hm3 ⟨rfl,⟨⟨ua,ui⟩,⟨uq,uj⟩,⟨u1a,u1c,u1l⟩,⟨u2a,u2c,u2l⟩⟩,rfl,oku,hv1⟩
     simp only [List.append_assoc,List.cons_append,List.nil_append]
     refine Zz (Wb ?_)
     refine Yk (.inl rfl) (.nil) (fun w hw=>?_)
     have h2:ZP.nd ⟨⟨⟨wa,wi⟩,⟨wq,wj⟩,⟨w1a,w1c,w1l⟩,⟨w2a,w2c,w2l⟩⟩,Zt,Zr,ZE,Zy,ZM,ZB,Zw,Zu,Zn,Zx,Zm,Zv,⟨Zp,Zo,Zl⟩,ZD,ZF⟩={ ZP.nd ⟨⟨⟨Za,Zc⟩,⟨Zd,Zh⟩,⟨Zj,Zi,Zg⟩,⟨Zf,Ze,Zb⟩⟩,Zt,Zr,ZE,Zy,ZM,ZB,Zw,Zu,Zn,Zx,Zm,Zv,⟨Zp,Zo,Zl⟩,ZD,ZF⟩ with table:=byeT (ZP.nd ⟨⟨⟨Za,Zc⟩,⟨Zd,Zh⟩,⟨Zj,Zi,Zg⟩,⟨Zf,Ze,Zb⟩⟩,Zt,Zr,ZE,Zy,ZM,ZB,Zw,Zu,Zn,Zx,Zm,Zv,⟨Zp,Zo,Zl⟩,ZD,ZF⟩) (ZN.lt ⟨Yc,⟨ZS,Yq⟩,YM,l_id,⟨Yb,Ya,ZO⟩,YC,⟨ZL,ZV⟩,⟨ZZ,ZX,ZK⟩⟩) }:=by
      unfold byeT
      rw [if_pos (show (ZP.nd ⟨⟨⟨Za,Zc⟩,⟨Zd,Zh⟩,⟨Zj,Zi,Zg⟩,⟨Zf,Ze,Zb⟩⟩,Zt,Zr,ZE,Zy,ZM,ZB,Zw,Zu,Zn,Zx,Zm,Zv,⟨Zp,Zo,Zl⟩,ZD,ZF⟩).table.pred.addr=(ZN.lt ⟨Yc,⟨ZS,Yq⟩,YM,l_id,⟨Yb,Ya,ZO⟩,YC,⟨ZL,ZV⟩,⟨ZZ,ZX,ZK⟩⟩).frm.addr from (show Zd=ZS by assumption)),show XM (ZP.nd ⟨⟨⟨Za,Zc⟩,⟨Zd,Zh⟩,⟨Zj,Zi,Zg⟩,⟨Zf,Ze,Zb⟩⟩,Zt,Zr,ZE,Zy,ZM,ZB,Zw,Zu,Zn,Zx,Zm,Zv,⟨Zp,Zo,Zl⟩,ZD,ZF⟩).table (ZN.lt ⟨Yc,⟨ZS,Yq⟩,YM,l_id,⟨Yb,Ya,ZO⟩,YC,⟨ZL,ZV⟩,⟨ZZ,ZX,ZK⟩⟩).frm.addr=_ from hot.symm,show WV (ZR.tb ⟨⟨oa,oi⟩,⟨oq,oj⟩,⟨o1a,o1c,o1l⟩,⟨o2a,o2c,o2l⟩⟩) (ZN.lt ⟨Yc,⟨ZS,Yq⟩,YM,l_id,⟨Yb,Ya,ZO⟩,YC,⟨ZL,ZV⟩,⟨ZZ,ZX,ZK⟩⟩).peer=_ from hol.symm];rfl
     have h3:XL (ZP.nd ⟨⟨⟨Za,Zc⟩,⟨Zd,Zh⟩,⟨Zj,Zi,Zg⟩,⟨Zf,Ze,Zb⟩⟩,Zt,Zr,ZE,Zy,ZM,ZB,Zw,Zu,Zn,Zx,Zm,Zv,⟨Zp,Zo,Zl⟩,ZD,ZF⟩) (ZN.lt ⟨Yc,⟨ZS,Yq⟩,YM,l_id,⟨Yb,Ya,ZO⟩,YC,⟨ZL,ZV⟩,⟨ZZ,ZX,ZK⟩⟩)=(ZP.nd ⟨⟨⟨ua,ui⟩,⟨uq,uj⟩,⟨u1a,u1c,u1l⟩,⟨u2a,u2c,u2l⟩⟩,Zt,Zr,ZE,Zy,ZM,ZB,Zw,Zu,Zn,Zx,Zm,Zv,⟨Zp,Zo,Zl⟩,ZD,ZF⟩,[]):=(does8 hk).trans (congrArg (fun x=>(x,([]:List Snd))) ((bye_yes h2 (show (Xh (ZR.tb ⟨⟨Za,Zc⟩,⟨Zd,Zh⟩,⟨Zj,Zi,Zg⟩,⟨Zf,Ze,Zb⟩⟩)).addr=ZS by rw [hfi];assumption) (show 0<ZK.length by omega)).trans hv1.symm))
     refine ⟨_,M3,[(bw,rowO (ZQ.segs ⟨⟨⟨⟨ua,ui⟩,⟨uq,uj⟩,⟨u1a,u1c,u1l⟩,⟨u2a,u2c,u2l⟩⟩,Zt,Zr,ZE,Zy,ZM,ZB,Zw,Zu,Zn,Zx,Zm,Zv,⟨Zp,Zo,Zl⟩,ZD,ZF⟩,⟨none,0,[]⟩⟩) 68)],rfl,((hm1.trans hm2).trans hm3),hw.c,rfl,⟨⟨⟨ua,ui⟩,⟨uq,uj⟩,⟨u1a,u1c,u1l⟩,⟨u2a,u2c,u2l⟩⟩,Zt,Zr,ZE,Zy,ZM,ZB,Zw,Zu,Zn,Zx,Zm,Zv,⟨Zp,Zo,Zl⟩,ZD,ZF⟩,⟨none,0,[]⟩,rfl,?_,?_,⟨oku,((Yp.mono hm1).mono hm2).mono hm3⟩,SlK.nil,fun y hy=>by cases hy⟩
     ·rw [h3] <;> rfl
     ·rw [h3] <;> rfl
    ·replace hc4:=dF hc4
     refine Yy ?_
     refine Yk (.inl rfl) (.nil) (fun w hw=>?_)
     have h2:ZP.nd ⟨⟨⟨wa,wi⟩,⟨wq,wj⟩,⟨w1a,w1c,w1l⟩,⟨w2a,w2c,w2l⟩⟩,Zt,Zr,ZE,Zy,ZM,ZB,Zw,Zu,Zn,Zx,Zm,Zv,⟨Zp,Zo,Zl⟩,ZD,ZF⟩={ ZP.nd ⟨⟨⟨Za,Zc⟩,⟨Zd,Zh⟩,⟨Zj,Zi,Zg⟩,⟨Zf,Ze,Zb⟩⟩,Zt,Zr,ZE,Zy,ZM,ZB,Zw,Zu,Zn,Zx,Zm,Zv,⟨Zp,Zo,Zl⟩,ZD,ZF⟩ with table:=byeT (ZP.nd ⟨⟨⟨Za,Zc⟩,⟨Zd,Zh⟩,⟨Zj,Zi,Zg⟩,⟨Zf,Ze,Zb⟩⟩,Zt,Zr,ZE,Zy,ZM,ZB,Zw,Zu,Zn,Zx,Zm,Zv,⟨Zp,Zo,Zl⟩,ZD,ZF⟩) (ZN.lt ⟨Yc,⟨ZS,Yq⟩,YM,l_id,⟨Yb,Ya,ZO⟩,YC,⟨ZL,ZV⟩,⟨ZZ,ZX,ZK⟩⟩) }:=by
      unfold byeT
      rw [if_pos (show (ZP.nd ⟨⟨⟨Za,Zc⟩,⟨Zd,Zh⟩,⟨Zj,Zi,Zg⟩,⟨Zf,Ze,Zb⟩⟩,Zt,Zr,ZE,Zy,ZM,ZB,Zw,Zu,Zn,Zx,Zm,Zv,⟨Zp,Zo,Zl⟩,ZD,ZF⟩).table.pred.addr=(ZN.lt ⟨Yc,⟨ZS,Yq⟩,YM,l_id,⟨Yb,Ya,ZO⟩,YC,⟨ZL,ZV⟩,⟨ZZ,ZX,ZK⟩⟩).frm.addr from (show Zd=ZS by assumption)),show XM (ZP.nd ⟨⟨⟨Za,Zc⟩,⟨Zd,Zh⟩,⟨Zj,Zi,Zg⟩,⟨Zf,Ze,Zb⟩⟩,Zt,Zr,ZE,Zy,ZM,ZB,Zw,Zu,Zn,Zx,Zm,Zv,⟨Zp,Zo,Zl⟩,ZD,ZF⟩).table (ZN.lt ⟨Yc,⟨ZS,Yq⟩,YM,l_id,⟨Yb,Ya,ZO⟩,YC,⟨ZL,ZV⟩,⟨ZZ,ZX,ZK⟩⟩).frm.addr=_ from hot.symm,show WV (ZR.tb ⟨⟨oa,oi⟩,⟨oq,oj⟩,⟨o1a,o1c,o1l⟩,⟨o2a,o2c,o2l⟩⟩) (ZN.lt ⟨Yc,⟨ZS,Yq⟩,YM,l_id,⟨Yb,Ya,ZO⟩,YC,⟨ZL,ZV⟩,⟨ZZ,ZX,ZK⟩⟩).peer=_ from hol.symm];rfl
     have h3:XL (ZP.nd ⟨⟨⟨Za,Zc⟩,⟨Zd,Zh⟩,⟨Zj,Zi,Zg⟩,⟨Zf,Ze,Zb⟩⟩,Zt,Zr,ZE,Zy,ZM,ZB,Zw,Zu,Zn,Zx,Zm,Zv,⟨Zp,Zo,Zl⟩,ZD,ZF⟩) (ZN.lt ⟨Yc,⟨ZS,Yq⟩,YM,l_id,⟨Yb,Ya,ZO⟩,YC,⟨ZL,ZV⟩,⟨ZZ,ZX,ZK⟩⟩)=(ZP.nd ⟨⟨⟨wa,wi⟩,⟨wq,wj⟩,⟨w1a,w1c,w1l⟩,⟨w2a,w2c,w2l⟩⟩,Zt,Zr,ZE,Zy,ZM,ZB,Zw,Zu,Zn,Zx,Zm,Zv,⟨Zp,Zo,Zl⟩,ZD,ZF⟩,[]):=(does8 hk).trans (congrArg (fun x=>(x,([]:List Snd))) (bye_no h2 (fun q1 q2=>(by
      replace q1:(Xh (ZR.tb ⟨⟨Za,Zc⟩,⟨Zd,Zh⟩,⟨Zj,Zi,Zg⟩,⟨Zf,Ze,Zb⟩⟩)).addr=ZS:=q1
      replace q2:0<ZK.length:=q2
      rw [hfi] at q1
      (exfalso;omega)))))
     refine ⟨_,M2,[(bw,rowO (ZQ.segs ⟨⟨⟨⟨wa,wi⟩,⟨wq,wj⟩,⟨w1a,w1c,w1l⟩,⟨w2a,w2c,w2l⟩⟩,Zt,Zr,ZE,Zy,ZM,ZB,Zw,Zu,Zn,Zx,Zm,Zv,⟨Zp,Zo,Zl⟩,ZD,ZF⟩,⟨none,0,[]⟩⟩) 68)],rfl,(hm1.trans hm2),hw.c,rfl,⟨⟨⟨wa,wi⟩,⟨wq,wj⟩,⟨w1a,w1c,w1l⟩,⟨w2a,w2c,w2l⟩⟩,Zt,Zr,ZE,Zy,ZM,ZB,Zw,Zu,Zn,Zx,Zm,Zv,⟨Zp,Zo,Zl⟩,ZD,ZF⟩,⟨none,0,[]⟩,rfl,?_,?_,⟨okl,((Yp.mono hm1).mono hm2)⟩,SlK.nil,fun y hy=>by cases hy⟩
     ·rw [h3] <;> rfl
     ·rw [h3] <;> rfl
   ·replace hc3:=dF hc3
    iterate 4 refine Yw ?_
    refine ZU ?_;refine Zz (Zs (Y_pk [60,3,0] ?_));refine Wd rfl ?_;refine Yy ?_
    refine Yk (.inl rfl) (.nil) (fun w hw=>?_)
    have h2:ZP.nd ⟨⟨⟨wa,wi⟩,⟨wq,wj⟩,⟨w1a,w1c,w1l⟩,⟨w2a,w2c,w2l⟩⟩,Zt,Zr,ZE,Zy,ZM,ZB,Zw,Zu,Zn,Zx,Zm,Zv,⟨Zp,Zo,Zl⟩,ZD,ZF⟩={ ZP.nd ⟨⟨⟨Za,Zc⟩,⟨Zd,Zh⟩,⟨Zj,Zi,Zg⟩,⟨Zf,Ze,Zb⟩⟩,Zt,Zr,ZE,Zy,ZM,ZB,Zw,Zu,Zn,Zx,Zm,Zv,⟨Zp,Zo,Zl⟩,ZD,ZF⟩ with table:=byeT (ZP.nd ⟨⟨⟨Za,Zc⟩,⟨Zd,Zh⟩,⟨Zj,Zi,Zg⟩,⟨Zf,Ze,Zb⟩⟩,Zt,Zr,ZE,Zy,ZM,ZB,Zw,Zu,Zn,Zx,Zm,Zv,⟨Zp,Zo,Zl⟩,ZD,ZF⟩) (ZN.lt ⟨Yc,⟨ZS,Yq⟩,YM,l_id,⟨Yb,Ya,ZO⟩,YC,⟨ZL,ZV⟩,⟨ZZ,ZX,ZK⟩⟩) }:=by
     unfold byeT
     rw [if_pos (show (ZP.nd ⟨⟨⟨Za,Zc⟩,⟨Zd,Zh⟩,⟨Zj,Zi,Zg⟩,⟨Zf,Ze,Zb⟩⟩,Zt,Zr,ZE,Zy,ZM,ZB,Zw,Zu,Zn,Zx,Zm,Zv,⟨Zp,Zo,Zl⟩,ZD,ZF⟩).table.pred.addr=(ZN.lt ⟨Yc,⟨ZS,Yq⟩,YM,l_id,⟨Yb,Ya,ZO⟩,YC,⟨ZL,ZV⟩,⟨ZZ,ZX,ZK⟩⟩).frm.addr from (show Zd=ZS by assumption)),show XM (ZP.nd ⟨⟨⟨Za,Zc⟩,⟨Zd,Zh⟩,⟨Zj,Zi,Zg⟩,⟨Zf,Ze,Zb⟩⟩,Zt,Zr,ZE,Zy,ZM,ZB,Zw,Zu,Zn,Zx,Zm,Zv,⟨Zp,Zo,Zl⟩,ZD,ZF⟩).table (ZN.lt ⟨Yc,⟨ZS,Yq⟩,YM,l_id,⟨Yb,Ya,ZO⟩,YC,⟨ZL,ZV⟩,⟨ZZ,ZX,ZK⟩⟩).frm.addr=_ from hot.symm,show WV (ZR.tb ⟨⟨oa,oi⟩,⟨oq,oj⟩,⟨o1a,o1c,o1l⟩,⟨o2a,o2c,o2l⟩⟩) (ZN.lt ⟨Yc,⟨ZS,Yq⟩,YM,l_id,⟨Yb,Ya,ZO⟩,YC,⟨ZL,ZV⟩,⟨ZZ,ZX,ZK⟩⟩).peer=_ from hol.symm];rfl
    have h3:XL (ZP.nd ⟨⟨⟨Za,Zc⟩,⟨Zd,Zh⟩,⟨Zj,Zi,Zg⟩,⟨Zf,Ze,Zb⟩⟩,Zt,Zr,ZE,Zy,ZM,ZB,Zw,Zu,Zn,Zx,Zm,Zv,⟨Zp,Zo,Zl⟩,ZD,ZF⟩) (ZN.lt ⟨Yc,⟨ZS,Yq⟩,YM,l_id,⟨Yb,Ya,ZO⟩,YC,⟨ZL,ZV⟩,⟨ZZ,ZX,ZK⟩⟩)=(ZP.nd ⟨⟨⟨wa,wi⟩,⟨wq,wj⟩,⟨w1a,w1c,w1l⟩,⟨w2a,w2c,w2l⟩⟩,Zt,Zr,ZE,Zy,ZM,ZB,Zw,Zu,Zn,Zx,Zm,Zv,⟨Zp,Zo,Zl⟩,ZD,ZF⟩,[]):=(does8 hk).trans (congrArg (fun x=>(x,([]:List Snd))) (bye_no h2 (fun q1 q2=>(by
     replace q1:(Xh (ZR.tb ⟨⟨Za,Zc⟩,⟨Zd,Zh⟩,⟨Zj,Zi,Zg⟩,⟨Zf,Ze,Zb⟩⟩)).addr=ZS:=q1
     replace q2:0<ZK.length:=q2
     rw [hfi] at q1
     contradiction))))
    refine ⟨_,M2,[(bw,rowO (ZQ.segs ⟨⟨⟨⟨wa,wi⟩,⟨wq,wj⟩,⟨w1a,w1c,w1l⟩,⟨w2a,w2c,w2l⟩⟩,Zt,Zr,ZE,Zy,ZM,ZB,Zw,Zu,Zn,Zx,Zm,Zv,⟨Zp,Zo,Zl⟩,ZD,ZF⟩,⟨none,0,[]⟩⟩) 68)],rfl,(hm1.trans hm2),hw.c,rfl,⟨⟨⟨wa,wi⟩,⟨wq,wj⟩,⟨w1a,w1c,w1l⟩,⟨w2a,w2c,w2l⟩⟩,Zt,Zr,ZE,Zy,ZM,ZB,Zw,Zu,Zn,Zx,Zm,Zv,⟨Zp,Zo,Zl⟩,ZD,ZF⟩,⟨none,0,[]⟩,rfl,?_,?_,⟨okl,((Yp.mono hm1).mono hm2)⟩,SlK.nil,fun y hy=>by cases hy⟩
    ·rw [h3] <;> rfl
    ·rw [h3] <;> rfl
  ·replace hc2:=dF hc2
   refine Yy (Zs (Y_pk [5,3,0] ?_));refine ZJ ?_
   have s_lp9:=XI.mono hm1
   refine Zq (l:=[0,1,2,3,4,5,6]) rfl ?_
   iterate 2 refine ZA ?_
   refine Yj 55 rfl (fun hc5=>?_) (fun hc5=>?_)
   ·replace hc5:=dT hc5
    refine Zk F.foff44_7 ?_;refine ZI F.lay26 ?_;refine Xa F.elem26 ?_;refine YA ?_;refine ZU ?_;refine Zz (Zs (Y_pk [60,3,0] ?_))
    refine YB rfl (fun hc6=>?_) (fun hc6=>?_)
    ·replace hc6:=dT hc6
     refine C_region_anyW (l:=[0,1,2,3,4,5,6,7,8]) [8] #[0,0,2,6,14,0,32,96,255] (_) rfl (by kernel_rfl) (by kernel_rfl) St.drawn (fun _ h=>h) ?_;refine ZA ?_;refine Zk F.foff44_7 ?_;refine ZI F.lay26 ?_;refine Xb rfl rfl rfl rfl F.elem26 (by rfl) (by (simp;omega)) (by exact SlM.plain (by assumption) (by (simp;omega))) rfl ?_;refine XQ rfl rfl rfl (by assumption) (by exact Wr (by (simp;omega))) F.lay25 rfl rfl rfl ?_;refine Zk F.foff44_7 ?_;refine ZI F.lay26 ?_;refine WH rfl rfl rfl (.some (k:=1) rfl rfl) .none .none F.elem26 (by simp only [Option.getD_none];omega) (by simp only [Option.getD_some,Option.getD_none];omega) (by simp only [Option.getD_some,Option.getD_none];omega) (by simp) (pieceV_drop (l:=ZK) (k:=1)) rfl ?_;refine Wo rfl rfl rfl F.ok82 rfl (adopt_ok M1 bw oa oi oq oj o1a o2a Zp o1c o2c Zo o1l o2l Zl Zt Zr ZE Zy ZM ZB Zw Zu Zn Zx Zm Zv ZD ZF okt ZK[0] ⟨_,_,ZK.drop 1⟩ ((YZ.mono hm1).drop 1 (by omega))) (by repeat first|exact Rem.here _|exact Rem.two|apply Rem.skip|apply Rem.over) (Yu rfl) ?_
     rintro _ M3 hs3 hm3 ⟨rfl,⟨⟨ua,ui⟩,⟨uq,uj⟩,⟨u1a,u1c,u1l⟩,⟨u2a,u2c,u2l⟩⟩,rfl,oku,hv1⟩
     simp only [List.append_assoc,List.cons_append,List.nil_append]
     refine Zz (Wb ?_)
     refine Yk (.inl rfl) (.nil) (fun w hw=>?_)
     have h2:ZP.nd ⟨⟨⟨oa,oi⟩,⟨oq,oj⟩,⟨o1a,o1c,o1l⟩,⟨o2a,o2c,o2l⟩⟩,Zt,Zr,ZE,Zy,ZM,ZB,Zw,Zu,Zn,Zx,Zm,Zv,⟨Zp,Zo,Zl⟩,ZD,ZF⟩={ ZP.nd ⟨⟨⟨Za,Zc⟩,⟨Zd,Zh⟩,⟨Zj,Zi,Zg⟩,⟨Zf,Ze,Zb⟩⟩,Zt,Zr,ZE,Zy,ZM,ZB,Zw,Zu,Zn,Zx,Zm,Zv,⟨Zp,Zo,Zl⟩,ZD,ZF⟩ with table:=byeT (ZP.nd ⟨⟨⟨Za,Zc⟩,⟨Zd,Zh⟩,⟨Zj,Zi,Zg⟩,⟨Zf,Ze,Zb⟩⟩,Zt,Zr,ZE,Zy,ZM,ZB,Zw,Zu,Zn,Zx,Zm,Zv,⟨Zp,Zo,Zl⟩,ZD,ZF⟩) (ZN.lt ⟨Yc,⟨ZS,Yq⟩,YM,l_id,⟨Yb,Ya,ZO⟩,YC,⟨ZL,ZV⟩,⟨ZZ,ZX,ZK⟩⟩) }:=by
      unfold byeT
      rw [if_neg (show ¬(ZP.nd ⟨⟨⟨Za,Zc⟩,⟨Zd,Zh⟩,⟨Zj,Zi,Zg⟩,⟨Zf,Ze,Zb⟩⟩,Zt,Zr,ZE,Zy,ZM,ZB,Zw,Zu,Zn,Zx,Zm,Zv,⟨Zp,Zo,Zl⟩,ZD,ZF⟩).table.pred.addr=(ZN.lt ⟨Yc,⟨ZS,Yq⟩,YM,l_id,⟨Yb,Ya,ZO⟩,YC,⟨ZL,ZV⟩,⟨ZZ,ZX,ZK⟩⟩).frm.addr from (show ¬Zd=ZS by assumption)),show XM (ZP.nd ⟨⟨⟨Za,Zc⟩,⟨Zd,Zh⟩,⟨Zj,Zi,Zg⟩,⟨Zf,Ze,Zb⟩⟩,Zt,Zr,ZE,Zy,ZM,ZB,Zw,Zu,Zn,Zx,Zm,Zv,⟨Zp,Zo,Zl⟩,ZD,ZF⟩).table (ZN.lt ⟨Yc,⟨ZS,Yq⟩,YM,l_id,⟨Yb,Ya,ZO⟩,YC,⟨ZL,ZV⟩,⟨ZZ,ZX,ZK⟩⟩).frm.addr=_ from hot.symm];rfl
     have h3:XL (ZP.nd ⟨⟨⟨Za,Zc⟩,⟨Zd,Zh⟩,⟨Zj,Zi,Zg⟩,⟨Zf,Ze,Zb⟩⟩,Zt,Zr,ZE,Zy,ZM,ZB,Zw,Zu,Zn,Zx,Zm,Zv,⟨Zp,Zo,Zl⟩,ZD,ZF⟩) (ZN.lt ⟨Yc,⟨ZS,Yq⟩,YM,l_id,⟨Yb,Ya,ZO⟩,YC,⟨ZL,ZV⟩,⟨ZZ,ZX,ZK⟩⟩)=(ZP.nd ⟨⟨⟨ua,ui⟩,⟨uq,uj⟩,⟨u1a,u1c,u1l⟩,⟨u2a,u2c,u2l⟩⟩,Zt,Zr,ZE,Zy,ZM,ZB,Zw,Zu,Zn,Zx,Zm,Zv,⟨Zp,Zo,Zl⟩,ZD,ZF⟩,[]):=(does8 hk).trans (congrArg (fun x=>(x,([]:List Snd))) ((bye_yes h2 (show (Xh (ZR.tb ⟨⟨Za,Zc⟩,⟨Zd,Zh⟩,⟨Zj,Zi,Zg⟩,⟨Zf,Ze,Zb⟩⟩)).addr=ZS by rw [hfi];assumption) (show 0<ZK.length by omega)).trans hv1.symm))
     refine ⟨_,M3,[(bw,rowO (ZQ.segs ⟨⟨⟨⟨ua,ui⟩,⟨uq,uj⟩,⟨u1a,u1c,u1l⟩,⟨u2a,u2c,u2l⟩⟩,Zt,Zr,ZE,Zy,ZM,ZB,Zw,Zu,Zn,Zx,Zm,Zv,⟨Zp,Zo,Zl⟩,ZD,ZF⟩,⟨none,0,[]⟩⟩) 68)],rfl,(hm1.trans hm3),hw.c,rfl,⟨⟨⟨ua,ui⟩,⟨uq,uj⟩,⟨u1a,u1c,u1l⟩,⟨u2a,u2c,u2l⟩⟩,Zt,Zr,ZE,Zy,ZM,ZB,Zw,Zu,Zn,Zx,Zm,Zv,⟨Zp,Zo,Zl⟩,ZD,ZF⟩,⟨none,0,[]⟩,rfl,?_,?_,⟨oku,(Yp.mono hm1).mono hm3⟩,SlK.nil,fun y hy=>by cases hy⟩
     ·rw [h3] <;> rfl
     ·rw [h3] <;> rfl
    ·replace hc6:=dF hc6
     refine Yy ?_
     refine Yk (.inl rfl) (.nil) (fun w hw=>?_)
     have h2:ZP.nd ⟨⟨⟨oa,oi⟩,⟨oq,oj⟩,⟨o1a,o1c,o1l⟩,⟨o2a,o2c,o2l⟩⟩,Zt,Zr,ZE,Zy,ZM,ZB,Zw,Zu,Zn,Zx,Zm,Zv,⟨Zp,Zo,Zl⟩,ZD,ZF⟩={ ZP.nd ⟨⟨⟨Za,Zc⟩,⟨Zd,Zh⟩,⟨Zj,Zi,Zg⟩,⟨Zf,Ze,Zb⟩⟩,Zt,Zr,ZE,Zy,ZM,ZB,Zw,Zu,Zn,Zx,Zm,Zv,⟨Zp,Zo,Zl⟩,ZD,ZF⟩ with table:=byeT (ZP.nd ⟨⟨⟨Za,Zc⟩,⟨Zd,Zh⟩,⟨Zj,Zi,Zg⟩,⟨Zf,Ze,Zb⟩⟩,Zt,Zr,ZE,Zy,ZM,ZB,Zw,Zu,Zn,Zx,Zm,Zv,⟨Zp,Zo,Zl⟩,ZD,ZF⟩) (ZN.lt ⟨Yc,⟨ZS,Yq⟩,YM,l_id,⟨Yb,Ya,ZO⟩,YC,⟨ZL,ZV⟩,⟨ZZ,ZX,ZK⟩⟩) }:=by
      unfold byeT
      rw [if_neg (show ¬(ZP.nd ⟨⟨⟨Za,Zc⟩,⟨Zd,Zh⟩,⟨Zj,Zi,Zg⟩,⟨Zf,Ze,Zb⟩⟩,Zt,Zr,ZE,Zy,ZM,ZB,Zw,Zu,Zn,Zx,Zm,Zv,⟨Zp,Zo,Zl⟩,ZD,ZF⟩).table.pred.addr=(ZN.lt ⟨Yc,⟨ZS,Yq⟩,YM,l_id,⟨Yb,Ya,ZO⟩,YC,⟨ZL,ZV⟩,⟨ZZ,ZX,ZK⟩⟩).frm.addr from (show ¬Zd=ZS by assumption)),show XM (ZP.nd ⟨⟨⟨Za,Zc⟩,⟨Zd,Zh⟩,⟨Zj,Zi,Zg⟩,⟨Zf,Ze,Zb⟩⟩,Zt,Zr,ZE,Zy,ZM,ZB,Zw,Zu,Zn,Zx,Zm,Zv,⟨Zp,Zo,Zl⟩,ZD,ZF⟩).table (ZN.lt ⟨Yc,⟨ZS,Yq⟩,YM,l_id,⟨Yb,Ya,ZO⟩,YC,⟨ZL,ZV⟩,⟨ZZ,ZX,ZK⟩⟩).frm.addr=_ from hot.symm];rfl
     have h3:XL (ZP.nd ⟨⟨⟨Za,Zc⟩,⟨Zd,Zh⟩,⟨Zj,Zi,Zg⟩,⟨Zf,Ze,Zb⟩⟩,Zt,Zr,ZE,Zy,ZM,ZB,Zw,Zu,Zn,Zx,Zm,Zv,⟨Zp,Zo,Zl⟩,ZD,ZF⟩) (ZN.lt ⟨Yc,⟨ZS,Yq⟩,YM,l_id,⟨Yb,Ya,ZO⟩,YC,⟨ZL,ZV⟩,⟨ZZ,ZX,ZK⟩⟩)=(ZP.nd ⟨⟨⟨oa,oi⟩,⟨oq,oj⟩,⟨o1a,o1c,o1l⟩,⟨o2a,o2c,o2l⟩⟩,Zt,Zr,ZE,Zy,ZM,ZB,Zw,Zu,Zn,Zx,Zm,Zv,⟨Zp,Zo,Zl⟩,ZD,ZF⟩,[]):=(does8 hk).trans (congrArg (fun x=>(x,([]:List Snd))) (bye_no h2 (fun q1 q2=>(by
      replace q1:(Xh (ZR.tb ⟨⟨Za,Zc⟩,⟨Zd,Zh⟩,⟨Zj,Zi,Zg⟩,⟨Zf,Ze,Zb⟩⟩)).addr=ZS:=q1
      replace q2:0<ZK.length:=q2
      rw [hfi] at q1
      (exfalso;omega)))))
     refine ⟨_,M1,[(bw,rowO (ZQ.segs ⟨⟨⟨⟨oa,oi⟩,⟨oq,oj⟩,⟨o1a,o1c,o1l⟩,⟨o2a,o2c,o2l⟩⟩,Zt,Zr,ZE,Zy,ZM,ZB,Zw,Zu,Zn,Zx,Zm,Zv,⟨Zp,Zo,Zl⟩,ZD,ZF⟩,⟨none,0,[]⟩⟩) 68)],rfl,hm1,hw.c,rfl,⟨⟨⟨oa,oi⟩,⟨oq,oj⟩,⟨o1a,o1c,o1l⟩,⟨o2a,o2c,o2l⟩⟩,Zt,Zr,ZE,Zy,ZM,ZB,Zw,Zu,Zn,Zx,Zm,Zv,⟨Zp,Zo,Zl⟩,ZD,ZF⟩,⟨none,0,[]⟩,rfl,?_,?_,⟨okt,(Yp.mono hm1)⟩,SlK.nil,fun y hy=>by cases hy⟩
     ·rw [h3] <;> rfl
     ·rw [h3] <;> rfl
   ·replace hc5:=dF hc5
    iterate 4 refine Yw ?_
    refine ZU ?_;refine Zz (Zs (Y_pk [60,3,0] ?_));refine Wd rfl ?_;refine Yy ?_
    refine Yk (.inl rfl) (.nil) (fun w hw=>?_)
    have h2:ZP.nd ⟨⟨⟨oa,oi⟩,⟨oq,oj⟩,⟨o1a,o1c,o1l⟩,⟨o2a,o2c,o2l⟩⟩,Zt,Zr,ZE,Zy,ZM,ZB,Zw,Zu,Zn,Zx,Zm,Zv,⟨Zp,Zo,Zl⟩,ZD,ZF⟩={ ZP.nd ⟨⟨⟨Za,Zc⟩,⟨Zd,Zh⟩,⟨Zj,Zi,Zg⟩,⟨Zf,Ze,Zb⟩⟩,Zt,Zr,ZE,Zy,ZM,ZB,Zw,Zu,Zn,Zx,Zm,Zv,⟨Zp,Zo,Zl⟩,ZD,ZF⟩ with table:=byeT (ZP.nd ⟨⟨⟨Za,Zc⟩,⟨Zd,Zh⟩,⟨Zj,Zi,Zg⟩,⟨Zf,Ze,Zb⟩⟩,Zt,Zr,ZE,Zy,ZM,ZB,Zw,Zu,Zn,Zx,Zm,Zv,⟨Zp,Zo,Zl⟩,ZD,ZF⟩) (ZN.lt ⟨Yc,⟨ZS,Yq⟩,YM,l_id,⟨Yb,Ya,ZO⟩,YC,⟨ZL,ZV⟩,⟨ZZ,ZX,ZK⟩⟩) }:=by
     unfold byeT
     rw [if_neg (show ¬(ZP.nd ⟨⟨⟨Za,Zc⟩,⟨Zd,Zh⟩,⟨Zj,Zi,Zg⟩,⟨Zf,Ze,Zb⟩⟩,Zt,Zr,ZE,Zy,ZM,ZB,Zw,Zu,Zn,Zx,Zm,Zv,⟨Zp,Zo,Zl⟩,ZD,ZF⟩).table.pred.addr=(ZN.lt ⟨Yc,⟨ZS,Yq⟩,YM,l_id,⟨Yb,Ya,ZO⟩,YC,⟨ZL,ZV⟩,⟨ZZ,ZX,ZK⟩⟩).frm.addr from (show ¬Zd=ZS by assumption)),show XM (ZP.nd ⟨⟨⟨Za,Zc⟩,⟨Zd,Zh⟩,⟨Zj,Zi,Zg⟩,⟨Zf,Ze,Zb⟩⟩,Zt,Zr,ZE,Zy,ZM,ZB,Zw,Zu,Zn,Zx,Zm,Zv,⟨Zp,Zo,Zl⟩,ZD,ZF⟩).table (ZN.lt ⟨Yc,⟨ZS,Yq⟩,YM,l_id,⟨Yb,Ya,ZO⟩,YC,⟨ZL,ZV⟩,⟨ZZ,ZX,ZK⟩⟩).frm.addr=_ from hot.symm];rfl
    have h3:XL (ZP.nd ⟨⟨⟨Za,Zc⟩,⟨Zd,Zh⟩,⟨Zj,Zi,Zg⟩,⟨Zf,Ze,Zb⟩⟩,Zt,Zr,ZE,Zy,ZM,ZB,Zw,Zu,Zn,Zx,Zm,Zv,⟨Zp,Zo,Zl⟩,ZD,ZF⟩) (ZN.lt ⟨Yc,⟨ZS,Yq⟩,YM,l_id,⟨Yb,Ya,ZO⟩,YC,⟨ZL,ZV⟩,⟨ZZ,ZX,ZK⟩⟩)=(ZP.nd ⟨⟨⟨oa,oi⟩,⟨oq,oj⟩,⟨o1a,o1c,o1l⟩,⟨o2a,o2c,o2l⟩⟩,Zt,Zr,ZE,Zy,ZM,ZB,Zw,Zu,Zn,Zx,Zm,Zv,⟨Zp,Zo,Zl⟩,ZD,ZF⟩,[]):=(does8 hk).trans (congrArg (fun x=>(x,([]:List Snd))) (bye_no h2 (fun q1 q2=>(by
     replace q1:(Xh (ZR.tb ⟨⟨Za,Zc⟩,⟨Zd,Zh⟩,⟨Zj,Zi,Zg⟩,⟨Zf,Ze,Zb⟩⟩)).addr=ZS:=q1
     replace q2:0<ZK.length:=q2
     rw [hfi] at q1
     contradiction))))
    refine ⟨_,M1,[(bw,rowO (ZQ.segs ⟨⟨⟨⟨oa,oi⟩,⟨oq,oj⟩,⟨o1a,o1c,o1l⟩,⟨o2a,o2c,o2l⟩⟩,Zt,Zr,ZE,Zy,ZM,ZB,Zw,Zu,Zn,Zx,Zm,Zv,⟨Zp,Zo,Zl⟩,ZD,ZF⟩,⟨none,0,[]⟩⟩) 68)],rfl,hm1,hw.c,rfl,⟨⟨⟨oa,oi⟩,⟨oq,oj⟩,⟨o1a,o1c,o1l⟩,⟨o2a,o2c,o2l⟩⟩,Zt,Zr,ZE,Zy,ZM,ZB,Zw,Zu,Zn,Zx,Zm,Zv,⟨Zp,Zo,Zl⟩,ZD,ZF⟩,⟨none,0,[]⟩,rfl,?_,?_,⟨okt,(Yp.mono hm1)⟩,SlK.nil,fun y hy=>by cases hy⟩
    ·rw [h3] <;> rfl
    ·rw [h3] <;> rfl
end Go.Proofs.YtajmnjefajknoaaGreat
namespace Go.Proofs.YtajmnjefajknoaaGreat
open Go.Esp
theorem F.map78:mapOf Tryz.prog 78=some (3,76):=by kernel_rfl
theorem F.ok30:okFn Tryz.prog 30=true:=by kernel_rfl
theorem F.ok45:okFn Tryz.prog 45=true:=by kernel_rfl
theorem F.ok46:okFn Tryz.prog 46=true:=by kernel_rfl
theorem F.ok47:okFn Tryz.prog 47=true:=by kernel_rfl
theorem F.ok48:okFn Tryz.prog 48=true:=by kernel_rfl
theorem F.ok49:okFn Tryz.prog 49=true:=by kernel_rfl
theorem F.ok50:okFn Tryz.prog 50=true:=by kernel_rfl
theorem F.ok51:okFn Tryz.prog 51=true:=by kernel_rfl
theorem F.ok52:okFn Tryz.prog 52=true:=by kernel_rfl
theorem F.zero76:XZ Tryz.prog 76=some (.nilFunc):=by kernel_rfl
theorem Take_yes (M:Mem) (n:ZP) (l:ZN) (hn0:ZP.ok M n) (hl1:ZN.ok M l) (kind:Int) (fid:FuncId) (hkk:l.kind=kind) (hl:(Wz (Vc (Vc (Vc (Vc (Vc (Vc (Vc (Vc [] 1 (.func (.func 45) #[] #[])) 2 (.func (.func 46) #[] #[])) 3 (.func (.func 47) #[] #[])) 4 (.func (.func 48) #[] #[])) 5 (.func (.func 49) #[] #[])) 6 (.func (.func 50) #[] #[])) 7 (.func (.func 51) #[] #[])) 8 (.func (.func 52) #[] #[])) l.kind).getD .nilFunc=.func (.func fid) #[] #[]) (hok:okFn Tryz.prog fid=true)
   (hc:∀ (M:Mem) (bw:Nat) (Za:Int) (Zc:Plc) (Zd:Int) (Zh:Plc) (Zj Zf Zp:Option Addr) (Zi Ze Zo:Nat) (Zg Zb:List ZC) (Zl:List Int) (Zt:Int) (Zr:Bool) (ZE Zy ZM ZB Zw Zu Zn Zx Zm:Int) (Zv:Plc) (ZD ZF:Int) (Yh:ZR.ok M ⟨⟨Za,Zc⟩,⟨Zd,Zh⟩,⟨Zj,Zi,Zg⟩,⟨Zf,Ze,Zb⟩⟩) (Yp:SlK M (oneI .i64) 1 ⟨Zp,Zo,Zl⟩) (hbig:Zg.length≤40∧Zb.length≤200) (hLa:Zl.length≤1000) (hh:0≤ZD∧ZD≤1000) (l:ZN) (hl0:ZN.ok M l) (hLp:l.peers.l.length≤1000) (hk:l.kind=kind),Fh Tryz.prog fid [.pointer (some ⟨bw,0,none⟩),l.enc] M [(bw,rowO (ZQ.segs ⟨⟨⟨⟨Za,Zc⟩,⟨Zd,Zh⟩,⟨Zj,Zi,Zg⟩,⟨Zf,Ze,Zb⟩⟩,Zt,Zr,ZE,Zy,ZM,ZB,Zw,Zu,Zn,Zx,Zm,Zv,⟨Zp,Zo,Zl⟩,ZD,ZF⟩,⟨none,0,[]⟩⟩) 68)] (fun M' v Hout=>v=.tuple #[]∧WkF bw 68 M' Hout (XL (ZP.nd ⟨⟨⟨Za,Zc⟩,⟨Zd,Zh⟩,⟨Zj,Zi,Zg⟩,⟨Zf,Ze,Zb⟩⟩,Zt,Zr,ZE,Zy,ZM,ZB,Zw,Zu,Zn,Zx,Zm,Zv,⟨Zp,Zo,Zl⟩,ZD,ZF⟩) l.lt))):Esp.Fn Tryz.prog 17 [n.enc,l.enc] M (fun M' v=>NtE M' v (Vq n.nd l.lt)):=by
  obtain ⟨⟨⟨Za,Zc⟩,⟨Zd,Zh⟩,⟨Zj,Zi,Zg⟩,⟨Zf,Ze,Zb⟩⟩,Zt,Zr,ZE,Zy,ZM,ZB,Zw,Zu,Zn,Zx,Zm,Zv,⟨Zp,Zo,Zl⟩,ZD,ZF⟩:=n
  obtain ⟨Yc,⟨ZS,Yq⟩,YM,l_id,⟨Yb,Ya,ZO⟩,YC,⟨ZL,ZV⟩,⟨ZZ,ZX,ZK⟩⟩:=l
  have Yh:ZR.ok M ⟨⟨Za,Zc⟩,⟨Zd,Zh⟩,⟨Zj,Zi,Zg⟩,⟨Zf,Ze,Zb⟩⟩:=hn0.h0
  have YS:SlK M ZC.segs 21 ⟨Zj,Zi,Zg⟩:=hn0.h0.h0
  have s_n_table_succ:SlM M Zj (Zg.map ZC.segs) 21:=YS.h1
  have n_n_table_succ:(Zg.map ZC.segs).length=Zg.length:=List.length_map ..
  have m_n_table_succ:Zg.length≤9223372036854775807:=YS.h2
  have c_n_table_succ:Zg.length≤Zi:=YS.h3
  have YG:SlK M ZC.segs 21 ⟨Zf,Ze,Zb⟩:=hn0.h0.h1
  have s_n_table_fingers:SlM M Zf (Zb.map ZC.segs) 21:=YG.h1
  have n_n_table_fingers:(Zb.map ZC.segs).length=Zb.length:=List.length_map ..
  have m_n_table_fingers:Zb.length≤9223372036854775807:=YG.h2
  have c_n_table_fingers:Zb.length≤Ze:=YG.h3
  have Yp:SlK M (oneI .i64) 1 ⟨Zp,Zo,Zl⟩:=hn0.h1
  have s_n_avoid:SlM M Zp (Zl.map (oneI .i64)) 1:=Yp.h1
  have n_n_avoid:(Zl.map (oneI .i64)).length=Zl.length:=List.length_map ..
  have m_n_avoid:Zl.length≤9223372036854775807:=Yp.h2
  have c_n_avoid:Zl.length≤Zo:=Yp.h3
  have Xm:SlK M (oneI .i64) 1 ⟨Yb,Ya,ZO⟩:=hl1.h0
  have s_l_avoid:SlM M Yb (ZO.map (oneI .i64)) 1:=Xm.h1
  have n_l_avoid:(ZO.map (oneI .i64)).length=ZO.length:=List.length_map ..
  have m_l_avoid:ZO.length≤9223372036854775807:=Xm.h2
  have c_l_avoid:ZO.length≤Ya:=Xm.h3
  have YZ:SlK M ZC.segs 21 ⟨ZZ,ZX,ZK⟩:=hl1.h1
  have XI:SlM M ZZ (ZK.map ZC.segs) 21:=YZ.h1
  have WA:(ZK.map ZC.segs).length=ZK.length:=List.length_map ..
  have m_l_peers:ZK.length≤9223372036854775807:=YZ.h2
  have WB:ZK.length≤ZX:=YZ.h3
  subst hkk
  simp only at hl
  refine WE Tryz.func17 rfl Tryz.ntmps17 rfl ?_;intro H
  refine ZJ (Zq (l:=[0,1,2,3,4]) rfl ?_)
  refine Xl ?_;intro b1
  refine Xl ?_;intro b2
  refine YT F.zero32 ?_;intro b3
  iterate 2 refine ZG ?_
  refine Zz (Zs (Y_pk [6,5,4,3,2] ?_))
  iterate 2 refine ZJ ?_
  refine Zq (l:=[0,1,2,3,4,5,6,7]) rfl ?_;refine ZI F.lay32 ?_;refine X_fs rfl rfl F.ok27 rfl (IsN_ok _ ⟨⟨⟨Za,Zc⟩,⟨Zd,Zh⟩,⟨Zj,Zi,Zg⟩,⟨Zf,Ze,Zb⟩⟩,Zt,Zr,ZE,Zy,ZM,ZB,Zw,Zu,Zn,Zx,Zm,Zv,⟨Zp,Zo,Zl⟩,ZD,ZF⟩ hn0) rfl ?_
  rintro _ rfl
  refine Xp ?_;refine ZA ?_
  refine Yj 12 rfl (fun hc4=>?_) (fun hc4=>?_)
  ·replace hc4:=nT hc4
   iterate 3 refine Yw ?_
   refine ZU ?_;refine Zz (Zs (Y_pk [16,6,5,4,3,2] ?_));refine Xq rfl ?_;refine ZJ (Zq (l:=[0,1,2,3]) rfl ?_);refine Xo rfl rfl F.bld32 (.nil) rfl rfl ?_;refine XU F.lay32 ?_
   iterate 2 refine ZG ?_
   refine Zz (Zs (Y_pk [6,5,4,3,2] ?_));refine Yv (Xc ?_)
   refine Yk (.inr rfl) (.cell rfl (by repeat first|exact List.Mem.head _|refine List.Mem.tail _ ?_|refine List.mem_append_right _ ?_) F.lay32 rfl rfl (.tmp rfl (.tmp rfl .nil))) (fun w hw=>?_)
   refine ⟨_,M,rfl,Mem.le.refl M,hw.c,ZP.zero,⟨none,0,[]⟩,?_,?_,?_,ZP.zero_ok _,SlK.nil,fun y hy=>by cases hy⟩
   ·rw [WM (by (rintro ⟨q1,q2⟩;first|contradiction|(simp_all;done)))];rfl
   ·rw [WM (by (rintro ⟨q1,q2⟩;first|contradiction|(simp_all;done)))];rfl
   ·rw [WM (by (rintro ⟨q1,q2⟩;first|contradiction|(simp_all;done)))];rfl
  ·replace hc4:=nF hc4
   refine ZI F.lay44 ?_;refine X_fs rfl rfl F.ok30 rfl (IsL_ok _ ⟨Yc,⟨ZS,Yq⟩,YM,l_id,⟨Yb,Ya,ZO⟩,YC,⟨ZL,ZV⟩,⟨ZZ,ZX,ZK⟩⟩ hl1) rfl ?_
   rintro _ rfl
   refine Xp ?_;refine ZU ?_;refine Zz (Zs (Y_pk [16,6,5,4,3,2] ?_))
   refine YB rfl (fun hc5=>?_) (fun hc5=>?_)
   ·replace hc5:=nT hc5
    refine ZJ (Zq (l:=[0,1,2,3]) rfl ?_);refine Xo rfl rfl F.bld32 (.nil) rfl rfl ?_;refine XU F.lay32 ?_
    iterate 2 refine ZG ?_
    refine Zz (Zs (Y_pk [6,5,4,3,2] ?_));refine Yv (Xc ?_)
    refine Yk (.inr rfl) (.cell rfl (by repeat first|exact List.Mem.head _|refine List.Mem.tail _ ?_|refine List.mem_append_right _ ?_) F.lay32 rfl rfl (.tmp rfl (.tmp rfl .nil))) (fun w hw=>?_)
    refine ⟨_,M,rfl,Mem.le.refl M,hw.c,ZP.zero,⟨none,0,[]⟩,?_,?_,?_,ZP.zero_ok _,SlK.nil,fun y hy=>by cases hy⟩
    ·rw [WM (by (rintro ⟨q1,q2⟩;first|contradiction|(simp_all;done)))];rfl
    ·rw [WM (by (rintro ⟨q1,q2⟩;first|contradiction|(simp_all;done)))];rfl
    ·rw [WM (by (rintro ⟨q1,q2⟩;first|contradiction|(simp_all;done)))];rfl
   ·replace hc5:=nF hc5
    refine Yy (Zs (Y_pk [6,5,4,3,2] ?_));refine ZJ ?_
    have hnd9:IsNd (ZP.nd ⟨⟨⟨Za,Zc⟩,⟨Zd,Zh⟩,⟨Zj,Zi,Zg⟩,⟨Zf,Ze,Zb⟩⟩,Zt,Zr,ZE,Zy,ZM,ZB,Zw,Zu,Zn,Zx,Zm,Zv,⟨Zp,Zo,Zl⟩,ZD,ZF⟩):=by assumption
    have hlt9:IsLt (ZN.lt ⟨Yc,⟨ZS,Yq⟩,YM,l_id,⟨Yb,Ya,ZO⟩,YC,⟨ZL,ZV⟩,⟨ZZ,ZX,ZK⟩⟩):=by assumption
    have htb9:IsTb (ZR.tb ⟨⟨Za,Zc⟩,⟨Zd,Zh⟩,⟨Zj,Zi,Zg⟩,⟨Zf,Ze,Zb⟩⟩):=hnd9.1
    have hav9:Zl.length≤16:=hnd9.2.2.2.2.1
    have hho9:0≤ZD∧ZD≤64:=hnd9.2.2.2.2.2.1
    have hpl9:ZK.length≤8:=hlt9.2.2.2.1
    refine Zq (l:=[0,1,2,3,4,5,6,7,8,9,10]) rfl ?_
    refine X_makeMap rfl rfl rfl ?_;intro b6
    refine Wv rfl rfl rfl rfl rfl F.map78 imO_nil (by repeat first|exact List.Mem.head _|refine List.Mem.tail _ ?_|refine List.mem_append_right _ ?_) ?_;intro o7 him8;refine ⟨_,(by repeat first|exact Upd.head|apply Upd.tail|apply Upd.over),?_⟩
    refine Wv rfl rfl rfl rfl rfl F.map78 him8 (by repeat first|exact List.Mem.head _|refine List.Mem.tail _ ?_|refine List.mem_append_right _ ?_) ?_;intro o9 him10;refine ⟨_,(by repeat first|exact Upd.head|apply Upd.tail|apply Upd.over),?_⟩
    refine Wv rfl rfl rfl rfl rfl F.map78 him10 (by repeat first|exact List.Mem.head _|refine List.Mem.tail _ ?_|refine List.mem_append_right _ ?_) ?_;intro o11 him12;refine ⟨_,(by repeat first|exact Upd.head|apply Upd.tail|apply Upd.over),?_⟩
    refine Wv rfl rfl rfl rfl rfl F.map78 him12 (by repeat first|exact List.Mem.head _|refine List.Mem.tail _ ?_|refine List.mem_append_right _ ?_) ?_;intro o13 him14;refine ⟨_,(by repeat first|exact Upd.head|apply Upd.tail|apply Upd.over),?_⟩
    refine Wv rfl rfl rfl rfl rfl F.map78 him14 (by repeat first|exact List.Mem.head _|refine List.Mem.tail _ ?_|refine List.mem_append_right _ ?_) ?_;intro o15 him16;refine ⟨_,(by repeat first|exact Upd.head|apply Upd.tail|apply Upd.over),?_⟩
    refine Wv rfl rfl rfl rfl rfl F.map78 him16 (by repeat first|exact List.Mem.head _|refine List.Mem.tail _ ?_|refine List.mem_append_right _ ?_) ?_;intro o17 him18;refine ⟨_,(by repeat first|exact Upd.head|apply Upd.tail|apply Upd.over),?_⟩
    refine Wv rfl rfl rfl rfl rfl F.map78 him18 (by repeat first|exact List.Mem.head _|refine List.Mem.tail _ ?_|refine List.mem_append_right _ ?_) ?_;intro o19 him20;refine ⟨_,(by repeat first|exact Upd.head|apply Upd.tail|apply Upd.over),?_⟩
    refine Wv rfl rfl rfl rfl rfl F.map78 him20 (by repeat first|exact List.Mem.head _|refine List.Mem.tail _ ?_|refine List.mem_append_right _ ?_) ?_;intro o21 him22;refine ⟨_,(by repeat first|exact Upd.head|apply Upd.tail|apply Upd.over),?_⟩
    refine ZA ?_;refine ZG ?_;refine Zz (Zs (Y_pk [7,6,5,4,3,2] ?_));refine ZJ (Zq (l:=[0,1,2]) rfl ?_);refine ZI F.lay32 ?_;refine VJ rfl rfl F.ok36 rfl (of_ok M _ _ _ _ _ _ _ _ _ _ _ _ _ _ _ _ _ _ _ _ _ _ _ _ _ _ _ Yp (by omega)) (by repeat first|exact Rem.here _|exact Rem.two|apply Rem.skip|apply Rem.over) (fun _ _ _ hm hw=>(hw.lower (by exact hm)).c) (Yu rfl) ?_
    rintro v1 M1 hs1 hm1 ⟨hM1,bw,s_a,s_c,hs9,rfl,rfl,ho9⟩;subst M1
    simp only [List.append_assoc,List.cons_append,List.nil_append]
    refine ZG ?_;refine Zz (Zs (Y_pk [8,7,6,5,4,3] ?_))
    iterate 2 refine ZJ ?_
    refine C_frz ho9 (by repeat first|exact Rem.here _|exact Rem.two|apply Rem.skip|apply Rem.over) (fun M2 hM2 k9=>?_)
    refine Zq (l:=[0,1,2,3]) rfl ?_;refine ZA ?_;refine Zk F.foff44_1 ?_;refine ZI F.lay25 ?_;refine X_fo rfl rfl F.ok53 rfl (wother_ok M2 bw Za Zc Zd Zh Zj Zf s_a Zi Ze s_c Zg Zb Zl Zt Zr ZE Zy ZM ZB Zw Zu Zn Zx Zm Zv ZD ZF ⟨ZS,Yq⟩) (by repeat first|exact Rem.here _|exact Rem.two|apply Rem.skip|apply Rem.over) (Yu rfl) ?_
    rintro _ MZ _ ⟨hMZ,rfl⟩;subst MZ
    refine Zz (Zs (Y_pk [25,8,7,6,5,4,3] ?_))
    refine YB rfl (fun hc23=>?_) (fun hc23=>?_)
    ·replace hc23:=dT hc23
     refine Xi (l:=[0,1,2,3,4,5,6]) [6] rfl ?_;refine ZA ?_;refine Zk F.foff44_0 ?_;refine ZI F.lay3 ?_;refine X_lookup rfl rfl rfl rfl F.map78 F.zero76 (by repeat first|exact List.Mem.head _|refine List.Mem.tail _ ?_|refine List.mem_append_right _ ?_) him22 (show (Wz (Vc (Vc (Vc (Vc (Vc (Vc (Vc (Vc [] 1 (.func (.func 45) #[] #[])) 2 (.func (.func 46) #[] #[])) 3 (.func (.func 47) #[] #[])) 4 (.func (.func 48) #[] #[])) 5 (.func (.func 49) #[] #[])) 6 (.func (.func 50) #[] #[])) 7 (.func (.func 51) #[] #[])) 8 (.func (.func 52) #[] #[])) Yc).getD .nilFunc=.func (.func fid) #[] #[] from hl) rfl ?_;refine ZA ?_;refine ZI F.lay44 ?_;refine X_fhVW (caps:=[]) rfl rfl rfl rfl hok rfl rfl (hc M2 bw Za Zc Zd Zh Zj Zf s_a Zi Ze s_c Zg Zb Zl Zt Zr ZE Zy ZM ZB Zw Zu Zn Zx Zm Zv ZD ZF (Yh.mono hM2) k9 (isTb_small (t:=⟨⟨Za,Zc⟩,⟨Zd,Zh⟩,⟨Zj,Zi,Zg⟩,⟨Zf,Ze,Zb⟩⟩) htb9) (by omega) (by omega) ⟨Yc,⟨ZS,Yq⟩,YM,l_id,⟨Yb,Ya,ZO⟩,YC,⟨ZL,ZV⟩,⟨ZZ,ZX,ZK⟩⟩ (hl1.mono hM2) (by show ZK.length≤1000;omega) rfl) (by repeat first|exact Rem.here _|exact Rem.two|apply Rem.skip|apply Rem.over) (Yu rfl) ?_
     rintro _ M3 hs3 hm3 ⟨rfl,⟨⟨⟨YH,YP⟩,⟨YI,YQ⟩,⟨YW,YV,YU⟩,⟨YL,YK,YJ⟩⟩,XG,XK,Wk,XF,WJ,XW,XH,XB,Xr,XC,Xs,XE,⟨Xv,Xu,Xt⟩,Wi,Wh⟩,⟨o_a,o_c,o_l⟩,rfl,hv1,hv2,okv,oko,okq⟩
     simp only [List.append_assoc,List.cons_append,List.nil_append]
     refine Zz (Wb ?_);refine Zs (Y_pk [8,6,5,4] ?_);refine ZJ (C_region_anyWR (l:=[0,1,2,3,4,5,6,7,8,9,10]) (Hin:=[(b3,_)]) [8] #[0,1,3,7,0,16,48,112,15,511,1023] (by repeat first|exact Rem.here _|exact Rem.two|apply Rem.skip|apply Rem.over) rfl (by kernel_rfl) (by kernel_rfl) ?_);refine ZA ?_;refine ZT ?_;refine Zk F.foff68_0 ?_;refine ZI F.lay32 ?_;refine ZA ?_;refine ZT ?_;refine Zk F.foff68_1 ?_;refine ZI F.lay35 ?_;refine X_storeE rfl rfl rfl rfl rfl (by constructor) (by ((try simp only [cat,List.cons_append,List.nil_append,List.append_nil]);(repeat (first|exact XO|refine XN ?_|(refine YE ?_ ?_;rfl)));done)) (by repeat first|exact Upd.head|apply Upd.tail|apply Upd.over) F.lay32 (by simp only [ZC.segs,ZR.segs,ZP.segs,ZN.segs,Yr.segs,ZQ.segs,YN.segs,ZY.segs,cat,List.append_eq,List.cons_append,List.nil_append,List.append_nil,Segs.len,Seg.len,Ym]) (put_all (m:=78) rfl (by simp only [ZC.segs,ZR.segs,ZP.segs,ZN.segs,Yr.segs,ZQ.segs,YN.segs,ZY.segs,cat,List.append_eq,List.cons_append,List.nil_append,List.append_nil,Segs.len,Seg.len,Ym]) (by simp only [ZC.segs,ZR.segs,ZP.segs,ZN.segs,Yr.segs,ZQ.segs,YN.segs,ZY.segs,cat,List.append_eq,List.cons_append,List.nil_append,List.append_nil,Segs.len,Seg.len,Ym])) (fun _ h=>h.c) ?_
     iterate 2 refine ZG ?_
     refine Zz (Wb ?_);refine Zs (Y_pk [6,5,4] ?_);refine Yv ?_
     refine Yk (.inr rfl) (.cell rfl (by repeat first|exact List.Mem.head _|refine List.Mem.tail _ ?_|refine List.mem_append_right _ ?_) F.lay32 rfl rfl (.tmp rfl (.tmp rfl .nil))) (fun w hw=>?_)
     have h3:=take_does (n:=(ZP.nd ⟨⟨⟨Za,Zc⟩,⟨Zd,Zh⟩,⟨Zj,Zi,Zg⟩,⟨Zf,Ze,Zb⟩⟩,Zt,Zr,ZE,Zy,ZM,ZB,Zw,Zu,Zn,Zx,Zm,Zv,⟨Zp,Zo,Zl⟩,ZD,ZF⟩)) (l:=(ZN.lt ⟨Yc,⟨ZS,Yq⟩,YM,l_id,⟨Yb,Ya,ZO⟩,YC,⟨ZL,ZV⟩,⟨ZZ,ZX,ZK⟩⟩)) hnd9 hlt9 (show Xf ⟨Za,Zc⟩ ⟨ZS,Yq⟩ by assumption)
     exact ⟨_,M3,rfl,hM2.trans hm3,hw.c,⟨⟨⟨YH,YP⟩,⟨YI,YQ⟩,⟨YW,YV,YU⟩,⟨YL,YK,YJ⟩⟩,XG,XK,Wk,XF,WJ,XW,XH,XB,Xr,XC,Xs,XE,⟨Xv,Xu,Xt⟩,Wi,Wh⟩,⟨o_a,o_c,o_l⟩,by rw [h3] <;> rfl,by rw [h3];exact hv1,by rw [h3];exact hv2,okv,oko,okq⟩
    ·replace hc23:=dF hc23
     refine Yy (Zs (Y_pk [8,6,5,4] ?_));refine ZJ (C_region_anyWR (l:=[0,1,2,3,4,5,6,7,8,9,10]) (Hin:=[(b3,_)]) [8] #[0,1,3,7,0,16,48,112,15,511,1023] (by repeat first|exact Rem.here _|exact Rem.two|apply Rem.skip|apply Rem.over) rfl (by kernel_rfl) (by kernel_rfl) ?_);refine ZA ?_;refine ZT ?_;refine Zk F.foff68_0 ?_;refine ZI F.lay32 ?_;refine ZA ?_;refine ZT ?_;refine Zk F.foff68_1 ?_;refine ZI F.lay35 ?_;refine X_storeE rfl rfl rfl rfl rfl (by constructor) (by ((try simp only [cat,List.cons_append,List.nil_append,List.append_nil]);(repeat (first|exact XO|refine XN ?_|(refine YE ?_ ?_;rfl)));done)) (by repeat first|exact Upd.head|apply Upd.tail|apply Upd.over) F.lay32 (by simp only [ZC.segs,ZR.segs,ZP.segs,ZN.segs,Yr.segs,ZQ.segs,YN.segs,ZY.segs,cat,List.append_eq,List.cons_append,List.nil_append,List.append_nil,Segs.len,Seg.len,Ym]) (put_all (m:=78) rfl (by simp only [ZC.segs,ZR.segs,ZP.segs,ZN.segs,Yr.segs,ZQ.segs,YN.segs,ZY.segs,cat,List.append_eq,List.cons_append,List.nil_append,List.append_nil,Segs.len,Seg.len,Ym]) (by simp only [ZC.segs,ZR.segs,ZP.segs,ZN.segs,Yr.segs,ZQ.segs,YN.segs,ZY.segs,cat,List.append_eq,List.cons_append,List.nil_append,List.append_nil,Segs.len,Seg.len,Ym])) (fun _ h=>h.c) ?_
     iterate 2 refine ZG ?_
     refine Zz (Wb ?_);refine Zs (Y_pk [6,5,4] ?_);refine Yv ?_
     refine Yk (.inr rfl) (.cell rfl (by repeat first|exact List.Mem.head _|refine List.Mem.tail _ ?_|refine List.mem_append_right _ ?_) F.lay32 rfl rfl (.tmp rfl (.tmp rfl .nil))) (fun w hw=>?_)
     have h3:=take_not (n:=(ZP.nd ⟨⟨⟨Za,Zc⟩,⟨Zd,Zh⟩,⟨Zj,Zi,Zg⟩,⟨Zf,Ze,Zb⟩⟩,Zt,Zr,ZE,Zy,ZM,ZB,Zw,Zu,Zn,Zx,Zm,Zv,⟨Zp,Zo,Zl⟩,ZD,ZF⟩)) (l:=(ZN.lt ⟨Yc,⟨ZS,Yq⟩,YM,l_id,⟨Yb,Ya,ZO⟩,YC,⟨ZL,ZV⟩,⟨ZZ,ZX,ZK⟩⟩)) hnd9 hlt9 (show ¬Xf ⟨Za,Zc⟩ ⟨ZS,Yq⟩ by assumption)
     exact ⟨_,M2,rfl,hM2,hw.c,⟨⟨⟨Za,Zc⟩,⟨Zd,Zh⟩,⟨Zj,Zi,Zg⟩,⟨Zf,Ze,Zb⟩⟩,Zt,Zr,ZE,Zy,ZM,ZB,Zw,Zu,Zn,Zx,Zm,Zv,⟨s_a,s_c,Zl⟩,ZD,ZF⟩,⟨none,0,[]⟩,by rw [h3] <;> rfl,by rw [h3] <;> rfl,by rw [h3] <;> rfl,⟨Yh.mono hM2,k9⟩,SlK.nil,fun y hy=>by cases hy⟩
theorem Take_no (M:Mem) (n:ZP) (l:ZN) (hn0:ZP.ok M n) (hl1:ZN.ok M l) (hk:¬IsLt l.lt):Esp.Fn Tryz.prog 17 [n.enc,l.enc] M (fun M' v=>NtE M' v (Vq n.nd l.lt)):=by
  obtain ⟨⟨⟨Za,Zc⟩,⟨Zd,Zh⟩,⟨Zj,Zi,Zg⟩,⟨Zf,Ze,Zb⟩⟩,Zt,Zr,ZE,Zy,ZM,ZB,Zw,Zu,Zn,Zx,Zm,Zv,⟨Zp,Zo,Zl⟩,ZD,ZF⟩:=n
  obtain ⟨Yc,⟨ZS,Yq⟩,YM,l_id,⟨Yb,Ya,ZO⟩,YC,⟨ZL,ZV⟩,⟨ZZ,ZX,ZK⟩⟩:=l
  have Yh:ZR.ok M ⟨⟨Za,Zc⟩,⟨Zd,Zh⟩,⟨Zj,Zi,Zg⟩,⟨Zf,Ze,Zb⟩⟩:=hn0.h0
  have YS:SlK M ZC.segs 21 ⟨Zj,Zi,Zg⟩:=hn0.h0.h0
  have s_n_table_succ:SlM M Zj (Zg.map ZC.segs) 21:=YS.h1
  have n_n_table_succ:(Zg.map ZC.segs).length=Zg.length:=List.length_map ..
  have m_n_table_succ:Zg.length≤9223372036854775807:=YS.h2
  have c_n_table_succ:Zg.length≤Zi:=YS.h3
  have YG:SlK M ZC.segs 21 ⟨Zf,Ze,Zb⟩:=hn0.h0.h1
  have s_n_table_fingers:SlM M Zf (Zb.map ZC.segs) 21:=YG.h1
  have n_n_table_fingers:(Zb.map ZC.segs).length=Zb.length:=List.length_map ..
  have m_n_table_fingers:Zb.length≤9223372036854775807:=YG.h2
  have c_n_table_fingers:Zb.length≤Ze:=YG.h3
  have Yp:SlK M (oneI .i64) 1 ⟨Zp,Zo,Zl⟩:=hn0.h1
  have s_n_avoid:SlM M Zp (Zl.map (oneI .i64)) 1:=Yp.h1
  have n_n_avoid:(Zl.map (oneI .i64)).length=Zl.length:=List.length_map ..
  have m_n_avoid:Zl.length≤9223372036854775807:=Yp.h2
  have c_n_avoid:Zl.length≤Zo:=Yp.h3
  have Xm:SlK M (oneI .i64) 1 ⟨Yb,Ya,ZO⟩:=hl1.h0
  have s_l_avoid:SlM M Yb (ZO.map (oneI .i64)) 1:=Xm.h1
  have n_l_avoid:(ZO.map (oneI .i64)).length=ZO.length:=List.length_map ..
  have m_l_avoid:ZO.length≤9223372036854775807:=Xm.h2
  have c_l_avoid:ZO.length≤Ya:=Xm.h3
  have YZ:SlK M ZC.segs 21 ⟨ZZ,ZX,ZK⟩:=hl1.h1
  have XI:SlM M ZZ (ZK.map ZC.segs) 21:=YZ.h1
  have WA:(ZK.map ZC.segs).length=ZK.length:=List.length_map ..
  have m_l_peers:ZK.length≤9223372036854775807:=YZ.h2
  have WB:ZK.length≤ZX:=YZ.h3
  refine WE Tryz.func17 rfl Tryz.ntmps17 rfl ?_;intro H
  refine ZJ (Zq (l:=[0,1,2,3,4]) rfl ?_)
  refine Xl ?_;intro b1
  refine Xl ?_;intro b2
  refine YT F.zero32 ?_;intro b3
  iterate 2 refine ZG ?_
  refine Zz (Zs (Y_pk [6,5,4,3,2] ?_))
  iterate 2 refine ZJ ?_
  refine Zq (l:=[0,1,2,3,4,5,6,7]) rfl ?_;refine ZI F.lay32 ?_;refine X_fs rfl rfl F.ok27 rfl (IsN_ok _ ⟨⟨⟨Za,Zc⟩,⟨Zd,Zh⟩,⟨Zj,Zi,Zg⟩,⟨Zf,Ze,Zb⟩⟩,Zt,Zr,ZE,Zy,ZM,ZB,Zw,Zu,Zn,Zx,Zm,Zv,⟨Zp,Zo,Zl⟩,ZD,ZF⟩ hn0) rfl ?_
  rintro _ rfl
  refine Xp ?_;refine ZA ?_
  refine Yj 12 rfl (fun hc4=>?_) (fun hc4=>?_)
  ·replace hc4:=nT hc4
   iterate 3 refine Yw ?_
   refine ZU ?_;refine Zz (Zs (Y_pk [16,6,5,4,3,2] ?_));refine Xq rfl ?_;refine ZJ (Zq (l:=[0,1,2,3]) rfl ?_);refine Xo rfl rfl F.bld32 (.nil) rfl rfl ?_;refine XU F.lay32 ?_
   iterate 2 refine ZG ?_
   refine Zz (Zs (Y_pk [6,5,4,3,2] ?_));refine Yv (Xc ?_)
   refine Yk (.inr rfl) (.cell rfl (by repeat first|exact List.Mem.head _|refine List.Mem.tail _ ?_|refine List.mem_append_right _ ?_) F.lay32 rfl rfl (.tmp rfl (.tmp rfl .nil))) (fun w hw=>?_)
   refine ⟨_,M,rfl,Mem.le.refl M,hw.c,ZP.zero,⟨none,0,[]⟩,?_,?_,?_,ZP.zero_ok _,SlK.nil,fun y hy=>by cases hy⟩
   ·rw [WM (by (rintro ⟨q1,q2⟩;first|contradiction|(simp_all;done)))];rfl
   ·rw [WM (by (rintro ⟨q1,q2⟩;first|contradiction|(simp_all;done)))];rfl
   ·rw [WM (by (rintro ⟨q1,q2⟩;first|contradiction|(simp_all;done)))];rfl
  ·replace hc4:=nF hc4
   refine ZI F.lay44 ?_;refine X_fs rfl rfl F.ok30 rfl (IsL_ok _ ⟨Yc,⟨ZS,Yq⟩,YM,l_id,⟨Yb,Ya,ZO⟩,YC,⟨ZL,ZV⟩,⟨ZZ,ZX,ZK⟩⟩ hl1) rfl ?_
   rintro _ rfl
   refine Xp ?_;refine ZU ?_;refine Zz (Zs (Y_pk [16,6,5,4,3,2] ?_))
   refine YB rfl (fun hc5=>?_) (fun hc5=>?_)
   ·replace hc5:=nT hc5
    refine ZJ (Zq (l:=[0,1,2,3]) rfl ?_);refine Xo rfl rfl F.bld32 (.nil) rfl rfl ?_;refine XU F.lay32 ?_
    iterate 2 refine ZG ?_
    refine Zz (Zs (Y_pk [6,5,4,3,2] ?_));refine Yv (Xc ?_)
    refine Yk (.inr rfl) (.cell rfl (by repeat first|exact List.Mem.head _|refine List.Mem.tail _ ?_|refine List.mem_append_right _ ?_) F.lay32 rfl rfl (.tmp rfl (.tmp rfl .nil))) (fun w hw=>?_)
    refine ⟨_,M,rfl,Mem.le.refl M,hw.c,ZP.zero,⟨none,0,[]⟩,?_,?_,?_,ZP.zero_ok _,SlK.nil,fun y hy=>by cases hy⟩
    ·rw [WM (by (rintro ⟨q1,q2⟩;first|contradiction|(simp_all;done)))];rfl
    ·rw [WM (by (rintro ⟨q1,q2⟩;first|contradiction|(simp_all;done)))];rfl
    ·rw [WM (by (rintro ⟨q1,q2⟩;first|contradiction|(simp_all;done)))];rfl
   ·replace hc5:=nF hc5
    (exfalso;first|(simp [eqX] at hc5;done)|(simp_all;done))
theorem Take_ok (M:Mem) (n:ZP) (l:ZN) (hn0:ZP.ok M n) (hl1:ZN.ok M l):Esp.Fn Tryz.prog 17 [n.enc,l.enc] M (fun M' v=>NtE M' v (Vq n.nd l.lt)):=by
  by_cases h:IsLt l.lt
  ·have h8:1≤l.kind∧l.kind≤8:=h.1
   have h9:l.kind=1∨l.kind=2∨l.kind=3∨l.kind=4∨l.kind=5∨l.kind=6∨l.kind=7∨l.kind=8:=by omega
   rcases h9 with hk|hk|hk|hk|hk|hk|hk|hk
   ·exact Take_yes M n l hn0 hl1 1 45 hk (by rw [hk];rfl) F.ok45 (fun M bw Za Zc Zd Zh Zj Zf Zp Zi Ze Zo Zg Zb Zl Zt Zr ZE Zy ZM ZB Zw Zu Zn Zx Zm Zv ZD ZF Yh Yp hbig hLa hh l hl0 hLp hk=>find_ok M bw Za Zc Zd Zh Zj Zf Zp Zi Ze Zo Zg Zb Zl Zt Zr ZE Zy ZM ZB Zw Zu Zn Zx Zm Zv ZD ZF Yh Yp hbig hLa hh l hl0 hLp hk)
   ·exact Take_yes M n l hn0 hl1 2 46 hk (by rw [hk];rfl) F.ok46 (fun M bw Za Zc Zd Zh Zj Zf Zp Zi Ze Zo Zg Zb Zl Zt Zr ZE Zy ZM ZB Zw Zu Zn Zx Zm Zv ZD ZF Yh Yp hbig hLa hh l hl0 hLp hk=>found_ok M bw Za Zc Zd Zh Zj Zf Zp Zi Ze Zo Zg Zb Zl Zt Zr ZE Zy ZM ZB Zw Zu Zn Zx Zm Zv ZD ZF Yh Yp hbig hLa hh l hl0 hLp hk)
   ·exact Take_yes M n l hn0 hl1 3 47 hk (by rw [hk];rfl) F.ok47 (fun M bw Za Zc Zd Zh Zj Zf Zp Zi Ze Zo Zg Zb Zl Zt Zr ZE Zy ZM ZB Zw Zu Zn Zx Zm Zv ZD ZF Yh Yp hbig hLa hh l hl0 hLp hk=>ask_ok M bw Za Zc Zd Zh Zj Zf Zp Zi Ze Zo Zg Zb Zl Zt Zr ZE Zy ZM ZB Zw Zu Zn Zx Zm Zv ZD ZF Yh Yp hbig hLa hh l hl0 hLp hk)
   ·exact Take_yes M n l hn0 hl1 4 48 hk (by rw [hk];rfl) F.ok48 (fun M bw Za Zc Zd Zh Zj Zf Zp Zi Ze Zo Zg Zb Zl Zt Zr ZE Zy ZM ZB Zw Zu Zn Zx Zm Zv ZD ZF Yh Yp hbig hLa hh l hl0 hLp hk=>told_ok M bw Za Zc Zd Zh Zj Zf Zp Zi Ze Zo Zg Zb Zl Zt Zr ZE Zy ZM ZB Zw Zu Zn Zx Zm Zv ZD ZF Yh Yp hbig hLa hh l hl0 hLp hk)
   ·exact Take_yes M n l hn0 hl1 5 49 hk (by rw [hk];rfl) F.ok49 (fun M bw Za Zc Zd Zh Zj Zf Zp Zi Ze Zo Zg Zb Zl Zt Zr ZE Zy ZM ZB Zw Zu Zn Zx Zm Zv ZD ZF Yh Yp hbig hLa hh l hl0 hLp hk=>notify_ok M bw Za Zc Zd Zh Zj Zf Zp Zi Ze Zo Zg Zb Zl Zt Zr ZE Zy ZM ZB Zw Zu Zn Zx Zm Zv ZD ZF Yh Yp hbig hLa hh l hl0 hLp hk)
   ·exact Take_yes M n l hn0 hl1 6 50 hk (by rw [hk];rfl) F.ok50 (fun M bw Za Zc Zd Zh Zj Zf Zp Zi Ze Zo Zg Zb Zl Zt Zr ZE Zy ZM ZB Zw Zu Zn Zx Zm Zv ZD ZF Yh Yp hbig hLa hh l hl0 hLp hk=>ping_ok M bw Za Zc Zd Zh Zj Zf Zp Zi Ze Zo Zg Zb Zl Zt Zr ZE Zy ZM ZB Zw Zu Zn Zx Zm Zv ZD ZF Yh Yp hbig hLa hh l hl0 hLp hk)
   ·exact Take_yes M n l hn0 hl1 7 51 hk (by rw [hk];rfl) F.ok51 (fun M bw Za Zc Zd Zh Zj Zf Zp Zi Ze Zo Zg Zb Zl Zt Zr ZE Zy ZM ZB Zw Zu Zn Zx Zm Zv ZD ZF Yh Yp hbig hLa hh l hl0 hLp hk=>pong_ok M bw Za Zc Zd Zh Zj Zf Zp Zi Ze Zo Zg Zb Zl Zt Zr ZE Zy ZM ZB Zw Zu Zn Zx Zm Zv ZD ZF Yh Yp hbig hLa hh l hl0 hLp hk)
   ·exact Take_yes M n l hn0 hl1 8 52 hk (by rw [hk];rfl) F.ok52 (fun M bw Za Zc Zd Zh Zj Zf Zp Zi Ze Zo Zg Zb Zl Zt Zr ZE Zy ZM ZB Zw Zu Zn Zx Zm Zv ZD ZF Yh Yp hbig hLa hh l hl0 hLp hk=>bye_ok M bw Za Zc Zd Zh Zj Zf Zp Zi Ze Zo Zg Zb Zl Zt Zr ZE Zy ZM ZB Zw Zu Zn Zx Zm Zv ZD ZF Yh Yp hbig hLa hh l hl0 hLp hk)
  ·exact Take_no M n l hn0 hl1 h
end Go.Proofs.YtajmnjefajknoaaGreat
namespace Go.Proofs.YtajmnjefajknoaaGreat
open Go.Esp
theorem F.ok21:okFn Tryz.prog 21=true:=by kernel_rfl
theorem F.ok63:okFn Tryz.prog 63=true:=by kernel_rfl
theorem Leave_ok (M:Mem) (n:ZP) (hn0:ZP.ok M n):Esp.Fn Tryz.prog 25 [n.enc] M (fun M' v=>LvE M' v (leaveN n.nd)):=by
  obtain ⟨⟨⟨Za,Zc⟩,⟨Zd,Zh⟩,⟨Zj,Zi,Zg⟩,⟨Zf,Ze,Zb⟩⟩,Zt,Zr,ZE,Zy,ZM,ZB,Zw,Zu,Zn,Zx,Zm,Zv,⟨Zp,Zo,Zl⟩,ZD,ZF⟩:=n
  have Yh:ZR.ok M ⟨⟨Za,Zc⟩,⟨Zd,Zh⟩,⟨Zj,Zi,Zg⟩,⟨Zf,Ze,Zb⟩⟩:=hn0.h0
  have YS:SlK M ZC.segs 21 ⟨Zj,Zi,Zg⟩:=hn0.h0.h0
  have s_n_table_succ:SlM M Zj (Zg.map ZC.segs) 21:=YS.h1
  have n_n_table_succ:(Zg.map ZC.segs).length=Zg.length:=List.length_map ..
  have m_n_table_succ:Zg.length≤9223372036854775807:=YS.h2
  have c_n_table_succ:Zg.length≤Zi:=YS.h3
  have YG:SlK M ZC.segs 21 ⟨Zf,Ze,Zb⟩:=hn0.h0.h1
  have s_n_table_fingers:SlM M Zf (Zb.map ZC.segs) 21:=YG.h1
  have n_n_table_fingers:(Zb.map ZC.segs).length=Zb.length:=List.length_map ..
  have m_n_table_fingers:Zb.length≤9223372036854775807:=YG.h2
  have c_n_table_fingers:Zb.length≤Ze:=YG.h3
  have Yp:SlK M (oneI .i64) 1 ⟨Zp,Zo,Zl⟩:=hn0.h1
  have s_n_avoid:SlM M Zp (Zl.map (oneI .i64)) 1:=Yp.h1
  have n_n_avoid:(Zl.map (oneI .i64)).length=Zl.length:=List.length_map ..
  have m_n_avoid:Zl.length≤9223372036854775807:=Yp.h2
  have c_n_avoid:Zl.length≤Zo:=Yp.h3
  refine WE Tryz.func25 rfl Tryz.ntmps25 rfl ?_;intro H
  refine ZJ (Zq (l:=[0,1,2]) rfl ?_)
  refine Xl ?_;intro b1
  iterate 2 refine ZG ?_
  refine Zz (Zs (Y_pk [3,2,1] ?_))
  iterate 2 refine ZJ ?_
  refine Zq (l:=[0,1,2]) rfl ?_;refine ZI F.lay32 ?_;refine X_fs rfl rfl F.ok27 rfl (IsN_ok _ ⟨⟨⟨Za,Zc⟩,⟨Zd,Zh⟩,⟨Zj,Zi,Zg⟩,⟨Zf,Ze,Zb⟩⟩,Zt,Zr,ZE,Zy,ZM,ZB,Zw,Zu,Zn,Zx,Zm,Zv,⟨Zp,Zo,Zl⟩,ZD,ZF⟩ hn0) rfl ?_
  rintro _ rfl
  refine Xp ?_;refine Zz (Zs (Y_pk [10,3,2,1] ?_))
  refine YB rfl (fun hc2=>?_) (fun hc2=>?_)
  ·replace hc2:=nT hc2
   refine ZJ (Zq (l:=[0,1]) rfl ?_)
   iterate 2 refine ZG ?_
   refine Zz (Zs (Y_pk [3,2,1] ?_));refine Yv (Xc ?_)
   refine Yk (.inr rfl) (.tmp rfl (.tmp rfl .nil)) (fun w hw=>?_)
   refine ⟨_,M,rfl,Mem.le.refl M,hw.c,⟨none,0,[]⟩,?_,?_,SlK.nil,fun y hy=>by cases hy⟩
   ·rw [leave_odd (by assumption)];rfl
   ·rw [leave_odd (by assumption)];rfl
  ·replace hc2:=nF hc2
   refine Yy (Zs (Y_pk [3,2,1] ?_));refine ZJ ?_
   have hnd9:IsNd (ZP.nd ⟨⟨⟨Za,Zc⟩,⟨Zd,Zh⟩,⟨Zj,Zi,Zg⟩,⟨Zf,Ze,Zb⟩⟩,Zt,Zr,ZE,Zy,ZM,ZB,Zw,Zu,Zn,Zx,Zm,Zv,⟨Zp,Zo,Zl⟩,ZD,ZF⟩):=by assumption
   have htb9:IsTb (ZR.tb ⟨⟨Za,Zc⟩,⟨Zd,Zh⟩,⟨Zj,Zi,Zg⟩,⟨Zf,Ze,Zb⟩⟩):=hnd9.1
   have hav9:Zl.length≤16:=hnd9.2.2.2.2.1
   refine Zq (l:=[0,1,2]) rfl ?_;refine ZI F.lay32 ?_;refine VJ rfl rfl F.ok36 rfl (of_ok M _ _ _ _ _ _ _ _ _ _ _ _ _ _ _ _ _ _ _ _ _ _ _ _ _ _ _ Yp (by omega)) (by repeat first|exact Rem.here _|exact Rem.two|apply Rem.skip|apply Rem.over) (fun _ _ _ hm hw=>(hw.lower (by exact hm)).c) (Yu rfl) ?_
   rintro v1 M1 hs1 hm1 ⟨hM1,bw,s_a,s_c,hs9,rfl,rfl,ho9⟩;subst M1
   simp only [List.append_assoc,List.cons_append,List.nil_append]
   refine ZG ?_;refine Zz (Zs (Y_pk [4,3,2] ?_));refine ZJ (YD (l:=[0,1,2,3,4,5,6,7,8,9,10,11,12,13,14]) #[0,1,3,7,15,31,0,64,192,448,960,1984,4095,0,16383] _ rfl (by kernel_rfl) (by kernel_rfl) St.drawn (fun _ h=>h) ?_);refine ZA ?_;refine ZT ?_;refine Zk F.foff68_0 ?_;refine Zk F.foff32_0 ?_;refine Zk F.foff28_1 ?_;refine ZI F.lay25 ?_;refine ZA ?_;refine ZT ?_;refine Zk F.foff68_0 ?_;refine Zk F.foff32_0 ?_;refine Zk F.foff28_2 ?_;refine ZI F.lay26 ?_;refine Xo rfl rfl F.bld44 (.cons rfl (by constructor) (.cons rfl (by constructor) (.cons rfl (by constructor) .nil))) rfl rfl ?_
   refine YT F.zero44 ?_;intro b3
   refine X_store rfl rfl rfl rfl (by constructor) (by ((try simp only [cat,List.cons_append,List.nil_append,List.append_nil]);(repeat (first|exact XO|refine XN ?_|(refine YE ?_ ?_;rfl)));done)) (by repeat first|exact Upd.head|apply Upd.tail|apply Upd.over) F.lay44 (by simp only [ZC.segs,ZR.segs,ZP.segs,ZN.segs,Yr.segs,ZQ.segs,YN.segs,ZY.segs,cat,List.append_eq,List.cons_append,List.nil_append,List.append_nil,Segs.len,Seg.len,Ym]) (put_all (m:=67) rfl (by simp only [ZC.segs,ZR.segs,ZP.segs,ZN.segs,Yr.segs,ZQ.segs,YN.segs,ZY.segs,cat,List.append_eq,List.cons_append,List.nil_append,List.append_nil,Segs.len,Seg.len,Ym]) (by simp only [ZC.segs,ZR.segs,ZP.segs,ZN.segs,Yr.segs,ZQ.segs,YN.segs,ZY.segs,cat,List.append_eq,List.cons_append,List.nil_append,List.append_nil,Segs.len,Seg.len,Ym])) ?_
   refine Zz (Zs (Y_pk [5,4,3,2] ?_))
   iterate 2 refine ZJ ?_
   refine Zq (l:=[0,1,2,3,4,5,6,7]) rfl ?_;refine ZA ?_;refine ZT ?_;refine Zk F.foff68_0 ?_;refine Zk F.foff32_0 ?_;refine ZI F.lay28 ?_;refine X_fs rfl rfl F.ok41 rfl (Vg _ ⟨⟨Za,Zc⟩,⟨Zd,Zh⟩,⟨Zj,Zi,Zg⟩,⟨Zf,Ze,Zb⟩⟩ Yh) rfl ?_
   rintro _ rfl
   obtain ⟨⟨fa,fi⟩,hfi⟩:∃ x,Xh (ZR.tb ⟨⟨Za,Zc⟩,⟨Zd,Zh⟩,⟨Zj,Zi,Zg⟩,⟨Zf,Ze,Zb⟩⟩)=x:=⟨_,rfl⟩
   rw [hfi]
   refine YT F.zero25 ?_;intro b4
   refine Yi F.lay25 ?_;refine Zz (Zs (Y_pk [6,5,4,3,2] ?_));refine ZJ (YD (l:=[0,1,2,3,4,5,6,7]) #[0,0,2,6,14,30,62,127] _ rfl (by kernel_rfl) (by kernel_rfl) St.drawn (fun _ h=>h) ?_);refine ZI F.lay25 ?_;refine ZA ?_;refine ZT ?_;refine Zk F.foff68_0 ?_;refine Zk F.foff32_0 ?_;refine Zk F.foff28_0 ?_;refine ZI F.lay25 ?_
   refine Wu (m:=20) rfl rfl rfl rfl rfl (by constructor) (by constructor) F.lay25 F.kinds25 rfl F.guard25 (by exact Xj (⟨_,_⟩)) (by exact Xj (⟨_,_⟩)) rfl rfl rfl ?_;intro c5 he6
   replace he6:c5=true↔¬(Segs.cells _=Segs.cells _):=he6
   obtain rfl:=neD he6 (ZC.inj (x:=⟨_,_⟩) (y:=⟨_,_⟩));clear he6
   refine Zz (Zs (Y_pk [39,6,5,4,3,2] ?_))
   refine YB rfl (fun hc7=>?_) (fun hc7=>?_)
   ·replace hc7:=nT hc7
    refine Xi (l:=[0,1,2,3,4]) [4] rfl ?_;refine ZA ?_;refine Zk F.foff25_0 ?_;refine ZI F.lay3 ?_;refine ZI F.lay44 ?_;refine Wo rfl rfl rfl F.ok65 rfl (send_ok M bw Za Zc Zd Zh Zj Zf s_a Zi Ze s_c Zg Zb Zl Zt Zr ZE Zy ZM ZB Zw Zu Zn Zx Zm Zv ZD ZF none 0 [] [] OSl.nil (by simp) fa ⟨8,⟨0,0⟩,0,0,⟨none,0,[]⟩,false,⟨Zd,Zh⟩,⟨Zj,Zi,Zg⟩⟩) (by repeat first|exact Rem.here _|exact Rem.two|apply Rem.skip|apply Rem.over) (Yu rfl) ?_
    rintro _ M1 hsA hm1 ⟨hM1,rfl,⟨oA_a,oA_c,oA_l⟩,hoA,rfl,hOA,hlA⟩;subst M1
    simp only at hlA hOA
    simp only [List.nil_append] at hlA
    have hcA:oA_l.length≤1000:=by rw [hlA];simp
    simp only [List.append_assoc,List.cons_append,List.nil_append]
    refine Zz (Wb ?_);refine Zs (Y_pk [5,4,3,2] ?_)
    iterate 2 refine ZJ ?_
    refine Zq (l:=[0,1,2,3,4,5,6,7]) rfl ?_;refine ZA ?_;refine ZT ?_;refine Zk F.foff68_0 ?_;refine Zk F.foff32_0 ?_;refine Zk F.foff28_1 ?_;refine ZI F.lay25 ?_
    refine YT F.zero25 ?_;intro b8
    refine Yi F.lay25 ?_;refine Zz (Zs (Y_pk [7,5,4,3,2] ?_));refine ZJ (YD (l:=[0,1,2,3,4,5,6,7,8,9,10,11,12]) #[0,0,3,7,15,15,47,111,239,495,1007,2047,4095] _ rfl (by kernel_rfl) (by kernel_rfl) St.drawn (fun _ h=>h) ?_);refine ZI F.lay25 ?_;refine X_fs rfl rfl F.ok66 rfl (WI _) rfl ?_
    rintro _ rfl
    refine Vf 52 rfl (show _=aggV [.one (.int .i64 (-1)),Ym 0] from rfl) ?_
    refine Wu (m:=20) rfl rfl rfl rfl rfl (by constructor) (by constructor) F.lay25 F.kinds25 rfl F.guard25 (by exact Xj (⟨_,_⟩)) (by exact Xj (⟨_,_⟩)) rfl rfl rfl ?_;intro c9 he10
    replace he10:c9=true↔¬(Segs.cells _=Segs.cells _):=he10
    obtain rfl:=neD he10 (ZC.inj (x:=⟨_,_⟩) (y:=⟨_,_⟩));clear he10
    refine ZA ?_
    refine Yj 54 rfl (fun hc11=>?_) (fun hc11=>?_)
    ·replace hc11:=nT hc11
     refine ZI F.lay25 ?_;refine ZA ?_;refine ZT ?_;refine Zk F.foff68_0 ?_;refine Zk F.foff32_0 ?_;refine ZI F.lay28 ?_;refine X_fs rfl rfl F.ok41 rfl (Vg _ ⟨⟨Za,Zc⟩,⟨Zd,Zh⟩,⟨Zj,Zi,Zg⟩,⟨Zf,Ze,Zb⟩⟩ Yh) rfl ?_
     rintro _ rfl
     rw [hfi]
     refine Wu (m:=20) rfl rfl rfl rfl rfl (by constructor) (by constructor) F.lay25 F.kinds25 rfl F.guard25 (by exact Xj (⟨_,_⟩)) (by exact Xj _) rfl rfl rfl ?_;intro c12 he13
     replace he13:c12=true↔¬(Segs.cells _=Segs.cells _):=he13
     obtain rfl:=neD he13 (ZC.inj (x:=⟨_,_⟩) (y:=⟨_,_⟩));clear he13
     refine ZU ?_;refine Zz (Zs (Y_pk [63,7,5,4,3,2] ?_))
     refine YB rfl (fun hc14=>?_) (fun hc14=>?_)
     ·replace hc14:=nT hc14
      refine Xi (l:=[0,1,2,3,4]) [4] rfl ?_;refine ZA ?_;refine Zk F.foff25_0 ?_;refine ZI F.lay3 ?_;refine ZI F.lay44 ?_;refine Wo rfl rfl rfl F.ok65 rfl (send_ok M bw Za Zc Zd Zh Zj Zf s_a Zi Ze s_c Zg Zb Zl Zt Zr ZE Zy ZM ZB Zw Zu Zn Zx Zm Zv ZD ZF oA_a oA_c oA_l hoA hOA hcA Zd ⟨8,⟨0,0⟩,0,0,⟨none,0,[]⟩,false,⟨Zd,Zh⟩,⟨Zj,Zi,Zg⟩⟩) (by repeat first|exact Rem.here _|exact Rem.two|apply Rem.skip|apply Rem.over) (Yu rfl) ?_
      rintro _ M1 hsB hm1 ⟨hM1,rfl,⟨oB_a,oB_c,oB_l⟩,hoB,rfl,hOB,hlB⟩;subst M1
      simp only at hlB hOB
      simp only [List.append_assoc,List.cons_append,List.nil_append]
      refine Zz (Wb ?_);refine Zs (Y_pk [4,3,2] ?_);refine ZJ (Zq (l:=[0,1,2,3,4,5]) rfl ?_);refine ZA ?_;refine ZT ?_;refine Zk F.foff68_1 ?_;refine ZI F.lay35 ?_
      iterate 2 refine ZG ?_
      refine Zz (Zs (Y_pk [3,2] ?_));refine Yv ?_
      refine Yk (.inr rfl) (.tmp rfl (.tmp rfl .nil)) (fun w hw=>?_)
      have hs0:0<Zg.length:=first_ne (t:=ZR.tb ⟨⟨Za,Zc⟩,⟨Zd,Zh⟩,⟨Zj,Zi,Zg⟩,⟨Zf,Ze,Zb⟩⟩) (by rw [hfi];show (⟨fa,fi⟩:ZC)≠⟨Za,Zc⟩;assumption)
      have hf0:Zg[0]=⟨fa,fi⟩:=(first_at (t:=ZR.tb ⟨⟨Za,Zc⟩,⟨Zd,Zh⟩,⟨Zj,Zi,Zg⟩,⟨Zf,Ze,Zb⟩⟩) hs0).symm.trans hfi
      have h3:=leave_is (n:=ZP.nd ⟨⟨⟨Za,Zc⟩,⟨Zd,Zh⟩,⟨Zj,Zi,Zg⟩,⟨Zf,Ze,Zb⟩⟩,Zt,Zr,ZE,Zy,ZM,ZB,Zw,Zu,Zn,Zx,Zm,Zv,⟨Zp,Zo,Zl⟩,ZD,ZF⟩) (a:=[Yr.snd (⟨fa,(⟨8,⟨Za,Zc⟩,0,0,⟨none,0,[]⟩,false,⟨Zd,Zh⟩,⟨Zj,Zi,Zg⟩⟩:ZN)⟩:Yr)]) (b:=[Yr.snd (⟨Zd,(⟨8,⟨Za,Zc⟩,0,0,⟨none,0,[]⟩,false,⟨Zd,Zh⟩,⟨Zj,Zi,Zg⟩⟩:ZN)⟩:Yr)]) hnd9 (.inr ⟨hs0,by show [Yr.snd (⟨fa,(⟨8,⟨Za,Zc⟩,0,0,⟨none,0,[]⟩,false,⟨Zd,Zh⟩,⟨Zj,Zi,Zg⟩⟩:ZN)⟩:Yr)]=[Yr.snd (⟨Zg[0].addr,(⟨8,⟨Za,Zc⟩,0,0,⟨none,0,[]⟩,false,⟨Zd,Zh⟩,⟨Zj,Zi,Zg⟩⟩:ZN)⟩:Yr)];rw [hf0]⟩) (.inr ⟨⟨show (⟨Zd,Zh⟩:ZC)≠YX by first|assumption|(simp_all;done),show (⟨Zd,Zh⟩:ZC)≠Xh (ZR.tb ⟨⟨Za,Zc⟩,⟨Zd,Zh⟩,⟨Zj,Zi,Zg⟩,⟨Zf,Ze,Zb⟩⟩) from by rw [hfi];first|assumption|(simp_all;done)⟩,rfl⟩)
      obtain ⟨M9,j1,j2,j3⟩:=OSl.frz (H:=H) hOB (hw.c)
      refine ⟨_,M9,rfl,j1,j2,⟨oB_a,oB_c,oB_l⟩,?_,?_,j3,fun y hy=>?_⟩
      ·rw [h3] <;> rfl
      ·rw [h3]
       show sndl oB_l=_
       rw [hlB,hlA];rfl
      ·simp only at hy
       rw [hlB,hlA] at hy
       have k8:=Yh.h0.mono j1
       simp only [List.mem_append,List.mem_cons,List.not_mem_nil,or_false] at hy
       rcases hy with rfl|rfl <;> exact ⟨⟨SlK.nil,k8⟩⟩
     ·replace hc14:=nF hc14
      refine Yy (Zs (Y_pk [4,3,2] ?_));refine ZJ (Zq (l:=[0,1,2,3,4,5]) rfl ?_);refine ZA ?_;refine ZT ?_;refine Zk F.foff68_1 ?_;refine ZI F.lay35 ?_
      iterate 2 refine ZG ?_
      refine Zz (Zs (Y_pk [3,2] ?_));refine Yv ?_
      refine Yk (.inr rfl) (.tmp rfl (.tmp rfl .nil)) (fun w hw=>?_)
      have hs0:0<Zg.length:=first_ne (t:=ZR.tb ⟨⟨Za,Zc⟩,⟨Zd,Zh⟩,⟨Zj,Zi,Zg⟩,⟨Zf,Ze,Zb⟩⟩) (by rw [hfi];show (⟨fa,fi⟩:ZC)≠⟨Za,Zc⟩;assumption)
      have hf0:Zg[0]=⟨fa,fi⟩:=(first_at (t:=ZR.tb ⟨⟨Za,Zc⟩,⟨Zd,Zh⟩,⟨Zj,Zi,Zg⟩,⟨Zf,Ze,Zb⟩⟩) hs0).symm.trans hfi
      have h3:=leave_is (n:=ZP.nd ⟨⟨⟨Za,Zc⟩,⟨Zd,Zh⟩,⟨Zj,Zi,Zg⟩,⟨Zf,Ze,Zb⟩⟩,Zt,Zr,ZE,Zy,ZM,ZB,Zw,Zu,Zn,Zx,Zm,Zv,⟨Zp,Zo,Zl⟩,ZD,ZF⟩) (a:=[Yr.snd (⟨fa,(⟨8,⟨Za,Zc⟩,0,0,⟨none,0,[]⟩,false,⟨Zd,Zh⟩,⟨Zj,Zi,Zg⟩⟩:ZN)⟩:Yr)]) (b:=[]) hnd9 (.inr ⟨hs0,by show [Yr.snd (⟨fa,(⟨8,⟨Za,Zc⟩,0,0,⟨none,0,[]⟩,false,⟨Zd,Zh⟩,⟨Zj,Zi,Zg⟩⟩:ZN)⟩:Yr)]=[Yr.snd (⟨Zg[0].addr,(⟨8,⟨Za,Zc⟩,0,0,⟨none,0,[]⟩,false,⟨Zd,Zh⟩,⟨Zj,Zi,Zg⟩⟩:ZN)⟩:Yr)];rw [hf0]⟩) (.inl ⟨by first|(refine .inl ?_;show (⟨Zd,Zh⟩:ZC)=YX;assumption)|(refine .inr ?_;show (⟨Zd,Zh⟩:ZC)=Xh (ZR.tb ⟨⟨Za,Zc⟩,⟨Zd,Zh⟩,⟨Zj,Zi,Zg⟩,⟨Zf,Ze,Zb⟩⟩);rw [hfi];assumption)|(refine .inl ?_;show (⟨Zd,Zh⟩:ZC)=YX;simp_all;done)|(refine .inr ?_;show (⟨Zd,Zh⟩:ZC)=Xh (ZR.tb ⟨⟨Za,Zc⟩,⟨Zd,Zh⟩,⟨Zj,Zi,Zg⟩,⟨Zf,Ze,Zb⟩⟩);rw [hfi];simp_all;done),rfl⟩)
      obtain ⟨M9,j1,j2,j3⟩:=OSl.frz (H:=H) hOA (hw.c)
      refine ⟨_,M9,rfl,j1,j2,⟨oA_a,oA_c,oA_l⟩,?_,?_,j3,fun y hy=>?_⟩
      ·rw [h3] <;> rfl
      ·rw [h3]
       show sndl oA_l=_
       rw [hlA];rfl
      ·simp only at hy
       rw [hlA] at hy
       have k8:=Yh.h0.mono j1
       simp only [List.mem_append,List.mem_cons,List.not_mem_nil,or_false] at hy
       subst hy
       exact ⟨⟨SlK.nil,k8⟩⟩
    ·replace hc11:=nF hc11
     iterate 8 refine Yw ?_
     refine ZU ?_;refine Zz (Zs (Y_pk [63,7,5,4,3,2] ?_));refine Wd rfl ?_;refine Yy (Zs (Y_pk [4,3,2] ?_));refine ZJ (Zq (l:=[0,1,2,3,4,5]) rfl ?_);refine ZA ?_;refine ZT ?_;refine Zk F.foff68_1 ?_;refine ZI F.lay35 ?_
     iterate 2 refine ZG ?_
     refine Zz (Zs (Y_pk [3,2] ?_));refine Yv ?_
     refine Yk (.inr rfl) (.tmp rfl (.tmp rfl .nil)) (fun w hw=>?_)
     have hs0:0<Zg.length:=first_ne (t:=ZR.tb ⟨⟨Za,Zc⟩,⟨Zd,Zh⟩,⟨Zj,Zi,Zg⟩,⟨Zf,Ze,Zb⟩⟩) (by rw [hfi];show (⟨fa,fi⟩:ZC)≠⟨Za,Zc⟩;assumption)
     have hf0:Zg[0]=⟨fa,fi⟩:=(first_at (t:=ZR.tb ⟨⟨Za,Zc⟩,⟨Zd,Zh⟩,⟨Zj,Zi,Zg⟩,⟨Zf,Ze,Zb⟩⟩) hs0).symm.trans hfi
     have h3:=leave_is (n:=ZP.nd ⟨⟨⟨Za,Zc⟩,⟨Zd,Zh⟩,⟨Zj,Zi,Zg⟩,⟨Zf,Ze,Zb⟩⟩,Zt,Zr,ZE,Zy,ZM,ZB,Zw,Zu,Zn,Zx,Zm,Zv,⟨Zp,Zo,Zl⟩,ZD,ZF⟩) (a:=[Yr.snd (⟨fa,(⟨8,⟨Za,Zc⟩,0,0,⟨none,0,[]⟩,false,⟨Zd,Zh⟩,⟨Zj,Zi,Zg⟩⟩:ZN)⟩:Yr)]) (b:=[]) hnd9 (.inr ⟨hs0,by show [Yr.snd (⟨fa,(⟨8,⟨Za,Zc⟩,0,0,⟨none,0,[]⟩,false,⟨Zd,Zh⟩,⟨Zj,Zi,Zg⟩⟩:ZN)⟩:Yr)]=[Yr.snd (⟨Zg[0].addr,(⟨8,⟨Za,Zc⟩,0,0,⟨none,0,[]⟩,false,⟨Zd,Zh⟩,⟨Zj,Zi,Zg⟩⟩:ZN)⟩:Yr)];rw [hf0]⟩) (.inl ⟨by first|(refine .inl ?_;show (⟨Zd,Zh⟩:ZC)=YX;assumption)|(refine .inr ?_;show (⟨Zd,Zh⟩:ZC)=Xh (ZR.tb ⟨⟨Za,Zc⟩,⟨Zd,Zh⟩,⟨Zj,Zi,Zg⟩,⟨Zf,Ze,Zb⟩⟩);rw [hfi];assumption)|(refine .inl ?_;show (⟨Zd,Zh⟩:ZC)=YX;simp_all;done)|(refine .inr ?_;show (⟨Zd,Zh⟩:ZC)=Xh (ZR.tb ⟨⟨Za,Zc⟩,⟨Zd,Zh⟩,⟨Zj,Zi,Zg⟩,⟨Zf,Ze,Zb⟩⟩);rw [hfi];simp_all;done),rfl⟩)
     obtain ⟨M9,j1,j2,j3⟩:=OSl.frz (H:=H) hOA (hw.c)
     refine ⟨_,M9,rfl,j1,j2,⟨oA_a,oA_c,oA_l⟩,?_,?_,j3,fun y hy=>?_⟩
     ·rw [h3] <;> rfl
     ·rw [h3]
      show sndl oA_l=_
      rw [hlA];rfl
     ·simp only at hy
      rw [hlA] at hy
      have k8:=Yh.h0.mono j1
      simp only [List.mem_append,List.mem_cons,List.not_mem_nil,or_false] at hy
      subst hy
      exact ⟨⟨SlK.nil,k8⟩⟩
   ·replace hc7:=nF hc7
    refine Yy (Zs (Y_pk [5,4,3,2] ?_))
    iterate 2 refine ZJ ?_
    refine Zq (l:=[0,1,2,3,4,5,6,7]) rfl ?_;refine ZA ?_;refine ZT ?_;refine Zk F.foff68_0 ?_;refine Zk F.foff32_0 ?_;refine Zk F.foff28_1 ?_;refine ZI F.lay25 ?_
    refine YT F.zero25 ?_;intro b15
    refine Yi F.lay25 ?_;refine Zz (Zs (Y_pk [7,5,4,3,2] ?_));refine ZJ (YD (l:=[0,1,2,3,4,5,6,7,8,9,10,11,12]) #[0,0,3,7,15,15,47,111,239,495,1007,2047,4095] _ rfl (by kernel_rfl) (by kernel_rfl) St.drawn (fun _ h=>h) ?_);refine ZI F.lay25 ?_;refine X_fs rfl rfl F.ok66 rfl (WI _) rfl ?_
    rintro _ rfl
    refine Vf 52 rfl (show _=aggV [.one (.int .i64 (-1)),Ym 0] from rfl) ?_
    refine Wu (m:=20) rfl rfl rfl rfl rfl (by constructor) (by constructor) F.lay25 F.kinds25 rfl F.guard25 (by exact Xj (⟨_,_⟩)) (by exact Xj (⟨_,_⟩)) rfl rfl rfl ?_;intro c16 he17
    replace he17:c16=true↔¬(Segs.cells _=Segs.cells _):=he17
    obtain rfl:=neD he17 (ZC.inj (x:=⟨_,_⟩) (y:=⟨_,_⟩));clear he17
    refine ZA ?_
    refine Yj 54 rfl (fun hc18=>?_) (fun hc18=>?_)
    ·replace hc18:=nT hc18
     refine ZI F.lay25 ?_;refine ZA ?_;refine ZT ?_;refine Zk F.foff68_0 ?_;refine Zk F.foff32_0 ?_;refine ZI F.lay28 ?_;refine X_fs rfl rfl F.ok41 rfl (Vg _ ⟨⟨Za,Zc⟩,⟨Zd,Zh⟩,⟨Zj,Zi,Zg⟩,⟨Zf,Ze,Zb⟩⟩ Yh) rfl ?_
     rintro _ rfl
     rw [hfi]
     refine Wu (m:=20) rfl rfl rfl rfl rfl (by constructor) (by constructor) F.lay25 F.kinds25 rfl F.guard25 (by exact Xj (⟨_,_⟩)) (by exact Xj _) rfl rfl rfl ?_;intro c19 he20
     replace he20:c19=true↔¬(Segs.cells _=Segs.cells _):=he20
     obtain rfl:=neD he20 (ZC.inj (x:=⟨_,_⟩) (y:=⟨_,_⟩));clear he20
     refine ZU ?_;refine Zz (Zs (Y_pk [63,7,5,4,3,2] ?_))
     refine YB rfl (fun hc21=>?_) (fun hc21=>?_)
     ·replace hc21:=nT hc21
      refine Xi (l:=[0,1,2,3,4]) [4] rfl ?_;refine ZA ?_;refine Zk F.foff25_0 ?_;refine ZI F.lay3 ?_;refine ZI F.lay44 ?_;refine Wo rfl rfl rfl F.ok65 rfl (send_ok M bw Za Zc Zd Zh Zj Zf s_a Zi Ze s_c Zg Zb Zl Zt Zr ZE Zy ZM ZB Zw Zu Zn Zx Zm Zv ZD ZF none 0 [] [] OSl.nil (by simp) Zd ⟨8,⟨0,0⟩,0,0,⟨none,0,[]⟩,false,⟨Zd,Zh⟩,⟨Zj,Zi,Zg⟩⟩) (by repeat first|exact Rem.here _|exact Rem.two|apply Rem.skip|apply Rem.over) (Yu rfl) ?_
      rintro _ M1 hsB hm1 ⟨hM1,rfl,⟨oB_a,oB_c,oB_l⟩,hoB,rfl,hOB,hlB⟩;subst M1
      simp only at hlB hOB
      simp only [List.nil_append] at hlB
      simp only [List.append_assoc,List.cons_append,List.nil_append]
      refine Zz (Wb ?_);refine Zs (Y_pk [4,3,2] ?_);refine ZJ (Zq (l:=[0,1,2,3,4,5]) rfl ?_);refine ZA ?_;refine ZT ?_;refine Zk F.foff68_1 ?_;refine ZI F.lay35 ?_
      iterate 2 refine ZG ?_
      refine Zz (Zs (Y_pk [3,2] ?_));refine Yv ?_
      refine Yk (.inr rfl) (.tmp rfl (.tmp rfl .nil)) (fun w hw=>?_)
      have h3:=leave_is (n:=ZP.nd ⟨⟨⟨Za,Zc⟩,⟨Zd,Zh⟩,⟨Zj,Zi,Zg⟩,⟨Zf,Ze,Zb⟩⟩,Zt,Zr,ZE,Zy,ZM,ZB,Zw,Zu,Zn,Zx,Zm,Zv,⟨Zp,Zo,Zl⟩,ZD,ZF⟩) (a:=[]) (b:=[Yr.snd (⟨Zd,(⟨8,⟨Za,Zc⟩,0,0,⟨none,0,[]⟩,false,⟨Zd,Zh⟩,⟨Zj,Zi,Zg⟩⟩:ZN)⟩:Yr)]) hnd9 (.inl ⟨first_eq (t:=ZR.tb ⟨⟨Za,Zc⟩,⟨Zd,Zh⟩,⟨Zj,Zi,Zg⟩,⟨Zf,Ze,Zb⟩⟩) htb9 (by rw [hfi];show (⟨fa,fi⟩:ZC)=⟨Za,Zc⟩;first|assumption|(simp_all;done)),rfl⟩) (.inr ⟨⟨show (⟨Zd,Zh⟩:ZC)≠YX by first|assumption|(simp_all;done),show (⟨Zd,Zh⟩:ZC)≠Xh (ZR.tb ⟨⟨Za,Zc⟩,⟨Zd,Zh⟩,⟨Zj,Zi,Zg⟩,⟨Zf,Ze,Zb⟩⟩) from by rw [hfi];first|assumption|(simp_all;done)⟩,rfl⟩)
      obtain ⟨M9,j1,j2,j3⟩:=OSl.frz (H:=H) hOB (hw.c)
      refine ⟨_,M9,rfl,j1,j2,⟨oB_a,oB_c,oB_l⟩,?_,?_,j3,fun y hy=>?_⟩
      ·rw [h3] <;> rfl
      ·rw [h3]
       show sndl oB_l=_
       rw [hlB];rfl
      ·simp only at hy
       rw [hlB] at hy
       have k8:=Yh.h0.mono j1
       simp only [List.mem_append,List.mem_cons,List.not_mem_nil,or_false] at hy
       subst hy
       exact ⟨⟨SlK.nil,k8⟩⟩
     ·replace hc21:=nF hc21
      refine Yy (Zs (Y_pk [4,3,2] ?_));refine ZJ (Zq (l:=[0,1,2,3,4,5]) rfl ?_);refine ZA ?_;refine ZT ?_;refine Zk F.foff68_1 ?_;refine ZI F.lay35 ?_
      iterate 2 refine ZG ?_
      refine Zz (Zs (Y_pk [3,2] ?_));refine Yv ?_
      refine Yk (.inr rfl) (.tmp rfl (.tmp rfl .nil)) (fun w hw=>?_)
      have h3:=leave_is (n:=ZP.nd ⟨⟨⟨Za,Zc⟩,⟨Zd,Zh⟩,⟨Zj,Zi,Zg⟩,⟨Zf,Ze,Zb⟩⟩,Zt,Zr,ZE,Zy,ZM,ZB,Zw,Zu,Zn,Zx,Zm,Zv,⟨Zp,Zo,Zl⟩,ZD,ZF⟩) (a:=[]) (b:=[]) hnd9 (.inl ⟨first_eq (t:=ZR.tb ⟨⟨Za,Zc⟩,⟨Zd,Zh⟩,⟨Zj,Zi,Zg⟩,⟨Zf,Ze,Zb⟩⟩) htb9 (by rw [hfi];show (⟨fa,fi⟩:ZC)=⟨Za,Zc⟩;first|assumption|(simp_all;done)),rfl⟩) (.inl ⟨by first|(refine .inl ?_;show (⟨Zd,Zh⟩:ZC)=YX;assumption)|(refine .inr ?_;show (⟨Zd,Zh⟩:ZC)=Xh (ZR.tb ⟨⟨Za,Zc⟩,⟨Zd,Zh⟩,⟨Zj,Zi,Zg⟩,⟨Zf,Ze,Zb⟩⟩);rw [hfi];assumption)|(refine .inl ?_;show (⟨Zd,Zh⟩:ZC)=YX;simp_all;done)|(refine .inr ?_;show (⟨Zd,Zh⟩:ZC)=Xh (ZR.tb ⟨⟨Za,Zc⟩,⟨Zd,Zh⟩,⟨Zj,Zi,Zg⟩,⟨Zf,Ze,Zb⟩⟩);rw [hfi];simp_all;done),rfl⟩)
      exact ⟨_,M,rfl,Mem.le.refl M,hw.c,⟨none,0,[]⟩,by rw [h3] <;> rfl,by rw [h3] <;> rfl,SlK.nil,fun y hy=>by cases hy⟩
    ·replace hc18:=nF hc18
     iterate 8 refine Yw ?_
     refine ZU ?_;refine Zz (Zs (Y_pk [63,7,5,4,3,2] ?_));refine Wd rfl ?_;refine Yy (Zs (Y_pk [4,3,2] ?_));refine ZJ (Zq (l:=[0,1,2,3,4,5]) rfl ?_);refine ZA ?_;refine ZT ?_;refine Zk F.foff68_1 ?_;refine ZI F.lay35 ?_
     iterate 2 refine ZG ?_
     refine Zz (Zs (Y_pk [3,2] ?_));refine Yv ?_
     refine Yk (.inr rfl) (.tmp rfl (.tmp rfl .nil)) (fun w hw=>?_)
     have h3:=leave_is (n:=ZP.nd ⟨⟨⟨Za,Zc⟩,⟨Zd,Zh⟩,⟨Zj,Zi,Zg⟩,⟨Zf,Ze,Zb⟩⟩,Zt,Zr,ZE,Zy,ZM,ZB,Zw,Zu,Zn,Zx,Zm,Zv,⟨Zp,Zo,Zl⟩,ZD,ZF⟩) (a:=[]) (b:=[]) hnd9 (.inl ⟨first_eq (t:=ZR.tb ⟨⟨Za,Zc⟩,⟨Zd,Zh⟩,⟨Zj,Zi,Zg⟩,⟨Zf,Ze,Zb⟩⟩) htb9 (by rw [hfi];show (⟨fa,fi⟩:ZC)=⟨Za,Zc⟩;first|assumption|(simp_all;done)),rfl⟩) (.inl ⟨by first|(refine .inl ?_;show (⟨Zd,Zh⟩:ZC)=YX;assumption)|(refine .inr ?_;show (⟨Zd,Zh⟩:ZC)=Xh (ZR.tb ⟨⟨Za,Zc⟩,⟨Zd,Zh⟩,⟨Zj,Zi,Zg⟩,⟨Zf,Ze,Zb⟩⟩);rw [hfi];assumption)|(refine .inl ?_;show (⟨Zd,Zh⟩:ZC)=YX;simp_all;done)|(refine .inr ?_;show (⟨Zd,Zh⟩:ZC)=Xh (ZR.tb ⟨⟨Za,Zc⟩,⟨Zd,Zh⟩,⟨Zj,Zi,Zg⟩,⟨Zf,Ze,Zb⟩⟩);rw [hfi];simp_all;done),rfl⟩)
     exact ⟨_,M,rfl,Mem.le.refl M,hw.c,⟨none,0,[]⟩,by rw [h3] <;> rfl,by rw [h3] <;> rfl,SlK.nil,fun y hy=>by cases hy⟩
theorem Alone_ok (M:Mem) (self:ZC) (r:Int):Esp.Fn Tryz.prog 21 [self.enc,.int .i64 r] M (fun M' v=>NeE M' v (VF self r)):=by
  obtain ⟨self_addr,self_id⟩:=self
  refine WE Tryz.func21 rfl Tryz.ntmps21 rfl ?_;intro H
  refine ZJ (Zq (l:=[0,1,2]) rfl ?_)
  refine Xl ?_;intro b1
  refine YT F.zero32 ?_;intro b2
  refine ZG ?_;refine Zz (Zs (Y_pk [5,4,2,1] ?_));refine ZJ (Zq (l:=[0,1,2,3,4,5,6,7]) rfl ?_);refine ZI F.lay25 ?_;refine X_fn rfl rfl F.ok63 rfl (New_ok _ ⟨self_addr,self_id⟩) rfl ?_
  rintro _ M1 hm1 ⟨_,rfl,⟨⟨oa,oi⟩,⟨oq,oj⟩,⟨o1a,o1c,o1l⟩,⟨o2a,o2c,o2l⟩⟩,rfl,hot,okt⟩
  have hne:=new_ok (s:=⟨self_addr,self_id⟩)
  obtain ⟨ne,hnv⟩:∃ x,(newT ⟨self_addr,self_id⟩).2=x:=⟨_,rfl⟩
  rw [hnv] at hne ⊢
  refine ZA ?_
  iterate 2 refine XA ?_
  refine YT F.zero28 ?_;intro b3
  refine Yi F.lay28 ?_;refine ZG ?_;refine Zz (Zs (Y_pk [7,6,5,4,1] ?_))
  iterate 2 refine ZJ ?_
  refine Zq (l:=[0,1,2,3,4,5,6,7,8,9]) rfl ?_;refine ZA ?_;refine YA ?_;refine ZA ?_
  refine Yj 15 rfl (fun hc4=>?_) (fun hc4=>?_)
  ·replace hc4:=nT hc4
   iterate 2 refine Yw ?_
   refine ZU ?_;refine ZA ?_
   iterate 2 refine Yw ?_
   refine ZU ?_;refine Zz (Zs (Y_pk [22,6,5,4,1] ?_));refine Xq rfl ?_;refine ZJ (Zq (l:=[0,1,2]) rfl ?_);refine Xo rfl rfl F.bld32 (.nil) rfl rfl ?_;refine XU F.lay32 ?_;refine ZG ?_;refine Zz (Zs (Y_pk [5,6,4,1] ?_));refine Yv (Xc ?_)
   refine Yk (.inr rfl) (.cell rfl (by repeat first|exact List.Mem.head _|refine List.Mem.tail _ ?_|refine List.mem_append_right _ ?_) F.lay32 rfl rfl (.tmp rfl .nil)) (fun w hw=>?_)
   refine ⟨_,M1,rfl,hm1,hw.c,ZP.zero,?_,?_,ZP.zero_ok _⟩
   ·rw [alone_no (by rintro ⟨q1,q2,q3⟩;have q4:=hne.2 q1;omega)];rfl
   ·rw [alone_no (by rintro ⟨q1,q2,q3⟩;have q4:=hne.2 q1;omega)];rfl
  ·replace hc4:=nF hc4
   refine ZA ?_;refine YA ?_;refine ZU ?_;refine ZA ?_
   refine Yj 19 rfl (fun hc5=>?_) (fun hc5=>?_)
   ·replace hc5:=dT hc5
    iterate 2 refine Yw ?_
    refine ZU ?_;refine Zz (Zs (Y_pk [22,6,5,4,1] ?_));refine Xq rfl ?_;refine ZJ (Zq (l:=[0,1,2]) rfl ?_);refine Xo rfl rfl F.bld32 (.nil) rfl rfl ?_;refine XU F.lay32 ?_;refine ZG ?_;refine Zz (Zs (Y_pk [5,6,4,1] ?_));refine Yv (Xc ?_)
    refine Yk (.inr rfl) (.cell rfl (by repeat first|exact List.Mem.head _|refine List.Mem.tail _ ?_|refine List.mem_append_right _ ?_) F.lay32 rfl rfl (.tmp rfl .nil)) (fun w hw=>?_)
    refine ⟨_,M1,rfl,hm1,hw.c,ZP.zero,?_,?_,ZP.zero_ok _⟩
    ·rw [alone_no (by rintro ⟨q1,q2,q3⟩;have q4:=hne.2 q1;omega)];rfl
    ·rw [alone_no (by rintro ⟨q1,q2,q3⟩;have q4:=hne.2 q1;omega)];rfl
   ·replace hc5:=dF hc5
    refine ZA ?_;refine YA ?_;refine ZU ?_;refine Zz (Zs (Y_pk [22,6,5,4,1] ?_))
    refine YB rfl (fun hc6=>?_) (fun hc6=>?_)
    ·replace hc6:=dT hc6
     refine ZJ (Zq (l:=[0,1,2]) rfl ?_);refine Xo rfl rfl F.bld32 (.nil) rfl rfl ?_;refine XU F.lay32 ?_;refine ZG ?_;refine Zz (Zs (Y_pk [5,6,4,1] ?_));refine Yv (Xc ?_)
     refine Yk (.inr rfl) (.cell rfl (by repeat first|exact List.Mem.head _|refine List.Mem.tail _ ?_|refine List.mem_append_right _ ?_) F.lay32 rfl rfl (.tmp rfl .nil)) (fun w hw=>?_)
     refine ⟨_,M1,rfl,hm1,hw.c,ZP.zero,?_,?_,ZP.zero_ok _⟩
     ·rw [alone_no (by rintro ⟨q1,q2,q3⟩;have q4:=hne.2 q1;omega)];rfl
     ·rw [alone_no (by rintro ⟨q1,q2,q3⟩;have q4:=hne.2 q1;omega)];rfl
    ·replace hc6:=dF hc6
     refine Yy (Zs (Y_pk [6,5,4,1] ?_));refine ZJ (Zq (l:=[0,1,2,3,4]) rfl ?_);refine ZI F.lay28 ?_;refine ZA ?_;refine Xo rfl rfl F.bld32 (.cons rfl (by constructor) (.cons rfl (by constructor) (.cons rfl (by constructor) (.cons rfl (by constructor) (.cons rfl (by constructor) (.cons rfl (by constructor) (.cons rfl (by constructor) .nil))))))) rfl rfl ?_;refine XU F.lay32 ?_;refine ZG ?_;refine Zz (Zs (Y_pk [5,4] ?_));refine Yv ?_
     refine Yk (.inr rfl) (.cell rfl (by repeat first|exact List.Mem.head _|refine List.Mem.tail _ ?_|refine List.mem_append_right _ ?_) F.lay32 rfl rfl (.tmp rfl .nil)) (fun w hw=>?_)
     have h3:=alone_is (s:=⟨self_addr,self_id⟩) (r:=r) ⟨hne.1 (by omega),by omega,by omega⟩
     rw [show (newT ⟨self_addr,self_id⟩).1=_ from hot.symm] at h3
     exact ⟨_,M1,rfl,hm1,hw.c,⟨⟨⟨oa,oi⟩,⟨oq,oj⟩,⟨o1a,o1c,o1l⟩,⟨o2a,o2c,o2l⟩⟩,r,true,-1,0,0,-1,0,-1,0,-1,0,0,⟨none,0,[]⟩,0,0⟩,by rw [h3];rfl,by rw [h3];rfl,⟨okt,SlK.nil⟩⟩
theorem Joining_ok (M:Mem) (self:ZC) (r:Int) (boot:Int):Esp.Fn Tryz.prog 23 [self.enc,.int .i64 r,.int .i64 boot] M (fun M' v=>NeE M' v (joiningN self r boot)):=by
  obtain ⟨self_addr,self_id⟩:=self
  refine WE Tryz.func23 rfl Tryz.ntmps23 rfl ?_;intro H
  refine ZJ (Zq (l:=[0,1,2]) rfl ?_)
  refine Xl ?_;intro b1
  refine YT F.zero32 ?_;intro b2
  refine ZG ?_;refine Zz (Zs (Y_pk [7,6,3,1,2] ?_));refine ZJ (Zq (l:=[0,1,2,3,4,5,6,7,8]) rfl ?_);refine ZI F.lay25 ?_;refine ZA ?_;refine X_fn rfl rfl F.ok21 rfl (Alone_ok _ ⟨self_addr,self_id⟩ r) rfl ?_
  rintro _ M1 hm1 ⟨⟨⟨⟨YH,YP⟩,⟨YI,YQ⟩,⟨YW,YV,YU⟩,⟨YL,YK,YJ⟩⟩,XG,XK,Wk,XF,WJ,XW,XH,XB,Xr,XC,Xs,XE,⟨Xv,Xu,Xt⟩,Wi,Wh⟩,rfl,hv1,okv⟩
  obtain ⟨ae,hae⟩:∃ x,(VF ⟨self_addr,self_id⟩ r).2=x:=⟨_,rfl⟩
  rw [hae]
  refine ZA ?_
  iterate 2 refine XA ?_
  refine YT F.zero32 ?_;intro b3
  refine XU F.lay32 ?_;refine ZG ?_;refine Zz (Zs (Y_pk [9,8,7,6,3,2] ?_))
  iterate 2 refine ZJ ?_
  refine Zq (l:=[0,1,2,3,4,5,6,7,8,9,10,11,12,13,14,15]) rfl ?_;refine ZA ?_;refine YA ?_;refine ZA ?_
  refine Yj 18 rfl (fun hc4=>?_) (fun hc4=>?_)
  ·replace hc4:=nT hc4
   iterate 2 refine Yw ?_
   refine ZU ?_;refine ZA ?_
   iterate 2 refine Yw ?_
   refine ZU ?_;refine ZA ?_
   iterate 4 refine Yw ?_
   refine ZU ?_;refine Zz (Zs (Y_pk [31,8,7,6,2] ?_));refine Xq rfl ?_;refine ZJ (Zq (l:=[0,1,2]) rfl ?_);refine Xo rfl rfl F.bld32 (.nil) rfl rfl ?_;refine XU F.lay32 ?_;refine ZG ?_;refine Zz (Zs (Y_pk [7,8,6,2] ?_));refine Yv (Xc ?_)
   refine Yk (.inr rfl) (.cell rfl (by repeat first|exact List.Mem.head _|refine List.Mem.tail _ ?_|refine List.mem_append_right _ ?_) F.lay32 rfl rfl (.tmp rfl .nil)) (fun w hw=>?_)
   refine ⟨_,M1,rfl,hm1,hw.c,ZP.zero,?_,?_,ZP.zero_ok _⟩
   ·rw [joining_no (by rintro ⟨q1,⟨q2,q4⟩,q3⟩;replace q3:boot≠self_addr:=q3;rw [hae] at q1;omega)];rfl
   ·rw [joining_no (by rintro ⟨q1,⟨q2,q4⟩,q3⟩;replace q3:boot≠self_addr:=q3;rw [hae] at q1;omega)];rfl
  ·replace hc4:=nF hc4
   refine ZA ?_;refine YA ?_;refine ZU ?_;refine ZA ?_
   refine Yj 22 rfl (fun hc5=>?_) (fun hc5=>?_)
   ·replace hc5:=dT hc5
    iterate 2 refine Yw ?_
    refine ZU ?_;refine ZA ?_
    iterate 4 refine Yw ?_
    refine ZU ?_;refine Zz (Zs (Y_pk [31,8,7,6,2] ?_));refine Xq rfl ?_;refine ZJ (Zq (l:=[0,1,2]) rfl ?_);refine Xo rfl rfl F.bld32 (.nil) rfl rfl ?_;refine XU F.lay32 ?_;refine ZG ?_;refine Zz (Zs (Y_pk [7,8,6,2] ?_));refine Yv (Xc ?_)
    refine Yk (.inr rfl) (.cell rfl (by repeat first|exact List.Mem.head _|refine List.Mem.tail _ ?_|refine List.mem_append_right _ ?_) F.lay32 rfl rfl (.tmp rfl .nil)) (fun w hw=>?_)
    refine ⟨_,M1,rfl,hm1,hw.c,ZP.zero,?_,?_,ZP.zero_ok _⟩
    ·rw [joining_no (by rintro ⟨q1,⟨q2,q4⟩,q3⟩;replace q3:boot≠self_addr:=q3;rw [hae] at q1;omega)];rfl
    ·rw [joining_no (by rintro ⟨q1,⟨q2,q4⟩,q3⟩;replace q3:boot≠self_addr:=q3;rw [hae] at q1;omega)];rfl
   ·replace hc5:=dF hc5
    refine ZA ?_;refine YA ?_;refine ZU ?_;refine ZA ?_
    refine Yj 26 rfl (fun hc6=>?_) (fun hc6=>?_)
    ·replace hc6:=dT hc6
     iterate 4 refine Yw ?_
     refine ZU ?_;refine Zz (Zs (Y_pk [31,8,7,6,2] ?_));refine Xq rfl ?_;refine ZJ (Zq (l:=[0,1,2]) rfl ?_);refine Xo rfl rfl F.bld32 (.nil) rfl rfl ?_;refine XU F.lay32 ?_;refine ZG ?_;refine Zz (Zs (Y_pk [7,8,6,2] ?_));refine Yv (Xc ?_)
     refine Yk (.inr rfl) (.cell rfl (by repeat first|exact List.Mem.head _|refine List.Mem.tail _ ?_|refine List.mem_append_right _ ?_) F.lay32 rfl rfl (.tmp rfl .nil)) (fun w hw=>?_)
     refine ⟨_,M1,rfl,hm1,hw.c,ZP.zero,?_,?_,ZP.zero_ok _⟩
     ·rw [joining_no (by rintro ⟨q1,⟨q2,q4⟩,q3⟩;replace q3:boot≠self_addr:=q3;rw [hae] at q1;omega)];rfl
     ·rw [joining_no (by rintro ⟨q1,⟨q2,q4⟩,q3⟩;replace q3:boot≠self_addr:=q3;rw [hae] at q1;omega)];rfl
    ·replace hc6:=dF hc6
     refine ZA ?_;refine Zk F.foff25_0 ?_;refine ZI F.lay3 ?_;refine YA ?_;refine ZU ?_;refine Zz (Zs (Y_pk [31,8,7,6,2] ?_))
     refine YB rfl (fun hc7=>?_) (fun hc7=>?_)
     ·replace hc7:=dT hc7
      refine ZJ (Zq (l:=[0,1,2]) rfl ?_);refine Xo rfl rfl F.bld32 (.nil) rfl rfl ?_;refine XU F.lay32 ?_;refine ZG ?_;refine Zz (Zs (Y_pk [7,8,6,2] ?_));refine Yv (Xc ?_)
      refine Yk (.inr rfl) (.cell rfl (by repeat first|exact List.Mem.head _|refine List.Mem.tail _ ?_|refine List.mem_append_right _ ?_) F.lay32 rfl rfl (.tmp rfl .nil)) (fun w hw=>?_)
      refine ⟨_,M1,rfl,hm1,hw.c,ZP.zero,?_,?_,ZP.zero_ok _⟩
      ·rw [joining_no (by rintro ⟨q1,⟨q2,q4⟩,q3⟩;replace q3:boot≠self_addr:=q3;rw [hae] at q1;omega)];rfl
      ·rw [joining_no (by rintro ⟨q1,⟨q2,q4⟩,q3⟩;replace q3:boot≠self_addr:=q3;rw [hae] at q1;omega)];rfl
     ·replace hc7:=dF hc7
      refine Yy (Zs (Y_pk [8,7,6,2] ?_));refine ZJ (Zq (l:=[0,1,2,3,4]) rfl ?_);refine ZA ?_;refine Zk F.foff32_2 ?_;refine Yi F.lay4 ?_;refine Zk F.foff32_3 ?_;refine Yi F.lay3 ?_;refine Zz (Zs (Y_pk [8,7,6] ?_));refine ZJ (Zq (l:=[0,1,2]) rfl ?_);refine ZI F.lay32 ?_;refine XU F.lay32 ?_;refine ZG ?_;refine Zz (Zs (Y_pk [7,6] ?_));refine Yv ?_
      refine Yk (.inr rfl) (.cell rfl (by repeat first|exact List.Mem.head _|refine List.Mem.tail _ ?_|refine List.mem_append_right _ ?_) F.lay32 rfl rfl (.tmp rfl .nil)) (fun w hw=>?_)
      have h3:=joining_is (s:=⟨self_addr,self_id⟩) (r:=r) (b:=boot) ⟨by rw [hae];omega,⟨by omega,by omega⟩,by show boot≠self_addr;omega⟩
      rw [← hv1] at h3
      exact ⟨_,M1,rfl,hm1,hw.c,⟨⟨⟨YH,YP⟩,⟨YI,YQ⟩,⟨YW,YV,YU⟩,⟨YL,YK,YJ⟩⟩,XG,false,boot,XF,WJ,XW,XH,XB,Xr,XC,Xs,XE,⟨Xv,Xu,Xt⟩,Wi,Wh⟩,by rw [h3];rfl,by rw [h3];rfl,⟨okv.h0,okv.h1⟩⟩
end Go.Proofs.YtajmnjefajknoaaGreat
namespace Go.Esp
def xp (n:Int):ZC:=⟨n,smallP (10 * n)⟩
theorem xs10:smallP 10=10#160:=by kernel_rfl
theorem xs20:smallP 20=20#160:=by kernel_rfl
def xt:Tb:=⟨⟨1,10#160⟩,YX,[],List.replicate 160 YX⟩
def xu:Tb:={ xt with succ:=[⟨2,20#160⟩,⟨3,30#160⟩] }
def xv:Tb:={ xu with pred:=⟨3,30#160⟩ }
def xw:Tb:={ xv with fingers:=List.replicate 4 ⟨2,20#160⟩++List.replicate 156 YX }
def xx:Tb:={ xv with succ:=[⟨3,30#160⟩],fingers:=List.replicate 160 YX }
end Go.Esp
namespace Go.Esp
def nA:ZC:=⟨1,10#160⟩
def nB:ZC:=⟨2,20#160⟩
def nX:Nd:=(VF ⟨1,10#160⟩ 2).1
def nY:Nd:=(joiningN ⟨2,20#160⟩ 2 1).1
def nL1:Lt:=⟨1,⟨2,20#160⟩,1,20#160,[],false,⟨-1,0⟩,[]⟩
def nL2:Lt:=⟨2,⟨1,10#160⟩,1,0,[],true,⟨1,10#160⟩,[]⟩
def nL3:Lt:=⟨3,⟨2,20#160⟩,2,0,[],false,⟨-1,0⟩,[]⟩
def nY1:Nd:=(Vp nY 1).1
def nY2:Nd:=(Vq nY1 nL2).1
def nY3:Nd:=(Vp nY2 1).1
theorem nx1:VF ⟨1,10#160⟩ 2=(nX,0):=by kernel_rfl
theorem nx2:joiningN ⟨2,20#160⟩ 2 1=(nY,0):=by kernel_rfl
theorem nx3:Vp nY 1=(nY1,[⟨1,nL1⟩],0):=by kernel_rfl
theorem nx4:Vq nX nL1=(nX,[⟨2,nL2⟩],0):=by kernel_rfl
theorem nx5:Vq nY1 nL2=(nY2,[],0):=by kernel_rfl
theorem nx6:Vp nY2 1=(nY3,[⟨1,nL3⟩],0):=by kernel_rfl
theorem nx7:joiningN ⟨2,20#160⟩ 2 2=(Nd.zero,1):=by kernel_rfl
theorem nx8:nY2.joined=true:=by kernel_rfl
theorem nx9:Xh nY2.table=⟨1,10#160⟩:=by kernel_rfl
theorem nx10:IsNd nY2:=of_decide_eq_true (by kernel_rfl)
theorem sndl_one {l:List Yr} {s:Snd} (h:sndl l=[s]):∃ y,l=[y]∧y.snd=s:=by
  match l,h with
  | [y],h=>exact ⟨y,rfl,(List.cons.inj h).1⟩
end Go.Esp
namespace Go.Proofs.YtajmnjefajknoaaGreat
open Go.Esp
theorem F.ok11:okFn Tryz.prog 11=true:=by kernel_rfl
theorem F.ok17:okFn Tryz.prog 17=true:=by kernel_rfl
theorem F.ok23:okFn Tryz.prog 23=true:=by kernel_rfl
theorem F.ok40:okFn Tryz.prog 40=true:=by kernel_rfl
theorem small10_ok (M:Mem):Fs Tryz.prog 40 [.int .i64 10] M (fun v=>v=aggV [Ym 10#160]):=by
  have h:=Small_ok M 10 (by decide)
  rw [xs10] at h
  exact h
theorem small20_ok (M:Mem):Fs Tryz.prog 40 [.int .i64 20] M (fun v=>v=aggV [Ym 20#160]):=by
  have h:=Small_ok M 20 (by decide)
  rw [xs20] at h
  exact h
theorem noded_ok (M:Mem):Esp.Fn Tryz.prog 13 [] M (fun _ v=>v=.bool true):=by
  refine WE Tryz.func13 rfl Tryz.ntmps13 rfl ?_;intro H
  refine ZJ (Zq (l:=[0]) rfl ?_);refine ZG ?_;refine Zz (Zs (ZJ (Zq (l:=[0,1,2,3]) rfl ?_)));refine X_fs rfl rfl F.ok40 rfl (small10_ok _) rfl ?_
  rintro _ rfl
  refine Xo rfl rfl F.bld25 (.cons rfl (by constructor) (.cons rfl (by constructor) .nil)) rfl rfl ?_
  refine YT F.zero25 ?_;intro b1
  refine Yi F.lay25 ?_;refine Zz (Zs (Y_pk [1,0] ?_));refine ZJ (Zq (l:=[0,1,2,3]) rfl ?_);refine X_fs rfl rfl F.ok40 rfl (small20_ok _) rfl ?_
  rintro _ rfl
  refine Xo rfl rfl F.bld25 (.cons rfl (by constructor) (.cons rfl (by constructor) .nil)) rfl rfl ?_
  refine YT F.zero25 ?_;intro b2
  refine Yi F.lay25 ?_;refine Zz (Zs (Y_pk [2,1,0] ?_));refine ZJ (Zq (l:=[0,1,2,3,4,5,6,7]) rfl ?_);refine ZI F.lay25 ?_;refine X_fn rfl rfl F.ok21 rfl (Alone_ok M ⟨1,10#160⟩ 2) rfl ?_
  rintro _ M1 hm1 hv
  rw [nx1] at hv
  simp only [NeE] at hv
  obtain ⟨⟨⟨⟨x_table_self_addr,x_table_self_id⟩,⟨x_table_pred_addr,x_table_pred_id⟩,⟨x_table_succ_a,x_table_succ_c,x_table_succ_l⟩,⟨x_table_fingers_a,x_table_fingers_c,x_table_fingers_l⟩⟩,x_copies,x_joined,x_boot,x_cursor,x_req,x_askTo,x_askReq,x_pingTo,x_pingReq,x_findTo,x_findReq,x_findID,⟨x_avoid_a,x_avoid_c,x_avoid_l⟩,x_hops,x_turn⟩,rfl,ex,okx⟩:=hv
  try simp only at ex
  refine ZA ?_
  iterate 2 refine XA ?_
  refine YT F.zero32 ?_;intro b3
  refine XU F.lay32 ?_;refine ZG ?_;refine Zz (Zs (Y_pk [4,3,2,1,0] ?_));refine ZJ (Zq (l:=[0,1,2,3,4,5,6,7]) rfl ?_);refine ZI F.lay25 ?_;refine X_fn rfl rfl F.ok23 rfl (Joining_ok M1 ⟨2,20#160⟩ 2 1) rfl ?_
  rintro _ M2 hm2 hv
  rw [nx2] at hv
  simp only [NeE] at hv
  obtain ⟨⟨⟨⟨y_table_self_addr,y_table_self_id⟩,⟨y_table_pred_addr,y_table_pred_id⟩,⟨y_table_succ_a,y_table_succ_c,y_table_succ_l⟩,⟨y_table_fingers_a,y_table_fingers_c,y_table_fingers_l⟩⟩,y_copies,y_joined,y_boot,y_cursor,y_req,y_askTo,y_askReq,y_pingTo,y_pingReq,y_findTo,y_findReq,y_findID,⟨y_avoid_a,y_avoid_c,y_avoid_l⟩,y_hops,y_turn⟩,rfl,ey,oky⟩:=hv
  try simp only at ey
  refine ZA ?_
  iterate 2 refine XA ?_
  refine YT F.zero32 ?_;intro b4
  refine XU F.lay32 ?_;refine ZG ?_;refine Zz (Zs (Y_pk [6,5,4,3,2,1,0] ?_));refine ZJ (Zq (l:=[0,1,2,3,4,5,6,7,8,9]) rfl ?_);refine ZI F.lay32 ?_;refine X_fn rfl rfl F.ok11 rfl (Tick_ok M2 ⟨⟨⟨y_table_self_addr,y_table_self_id⟩,⟨y_table_pred_addr,y_table_pred_id⟩,⟨y_table_succ_a,y_table_succ_c,y_table_succ_l⟩,⟨y_table_fingers_a,y_table_fingers_c,y_table_fingers_l⟩⟩,y_copies,y_joined,y_boot,y_cursor,y_req,y_askTo,y_askReq,y_pingTo,y_pingReq,y_findTo,y_findReq,y_findID,⟨y_avoid_a,y_avoid_c,y_avoid_l⟩,y_hops,y_turn⟩ 1 oky) rfl ?_
  rintro _ M3 hm3 hv
  rw [show Vp (ZP.nd ⟨⟨⟨y_table_self_addr,y_table_self_id⟩,⟨y_table_pred_addr,y_table_pred_id⟩,⟨y_table_succ_a,y_table_succ_c,y_table_succ_l⟩,⟨y_table_fingers_a,y_table_fingers_c,y_table_fingers_l⟩⟩,y_copies,y_joined,y_boot,y_cursor,y_req,y_askTo,y_askReq,y_pingTo,y_pingReq,y_findTo,y_findReq,y_findID,⟨y_avoid_a,y_avoid_c,y_avoid_l⟩,y_hops,y_turn⟩) 1=_ from (congrArg (fun n=>Vp n 1) ey).trans nx3] at hv
  simp only [NtE] at hv
  obtain ⟨⟨⟨⟨z_table_self_addr,z_table_self_id⟩,⟨z_table_pred_addr,z_table_pred_id⟩,⟨z_table_succ_a,z_table_succ_c,z_table_succ_l⟩,⟨z_table_fingers_a,z_table_fingers_c,z_table_fingers_l⟩⟩,z_copies,z_joined,z_boot,z_cursor,z_req,z_askTo,z_askReq,z_pingTo,z_pingReq,z_findTo,z_findReq,z_findID,⟨z_avoid_a,z_avoid_c,z_avoid_l⟩,z_hops,z_turn⟩,⟨so_a,so_c,so_l⟩,rfl,ez,sz,okz,kz,lz⟩:=hv
  try simp only at ez sz kz lz
  obtain ⟨⟨p_to,⟨p_kind,⟨p_frm_addr,p_frm_id⟩,p_req,p_id,⟨p_avoid_a,p_avoid_c,p_avoid_l⟩,p_done,⟨p_peer_addr,p_peer_id⟩,⟨p_peers_a,p_peers_c,p_peers_l⟩⟩⟩,rfl,hp⟩:=sndl_one sz
  simp only [Yr.snd,ZN.lt,nL1,Snd.mk.injEq,Lt.mk.injEq,ZC.mk.injEq] at hp
  obtain ⟨rfl,rfl,⟨rfl,rfl⟩,rfl,rfl,rfl,rfl,⟨rfl,rfl⟩,rfl⟩:=hp
  have s_so:=kz.h1
  try simp only at s_so
  refine ZA ?_
  iterate 3 refine XA ?_
  refine YT F.zero32 ?_;intro b5
  refine XU F.lay32 ?_
  iterate 2 refine ZG ?_
  refine Zz (Zs (Y_pk [9,8,7,6,4,3,2,1,0] ?_))
  iterate 2 refine ZJ ?_
  refine Zq (l:=[0,1,2,3,4,5,6,7,8,9,10,11,12,13,14,15,16,17,18,19,20,21,22,23,24,25,26,27,28,29,30,31]) rfl ?_;refine ZA ?_;refine YA ?_;refine ZA ?_
  refine Yj 43 rfl (fun hc6=>?_) (fun hc6=>?_)
  ·replace hc6:=nT hc6
   simp only [ZC.eta,ZR.eta,ZP.eta,ZN.eta,Yr.eta,ZQ.eta,YN.eta,ZY.eta] at hc6
   (exfalso;simp [eqX] at hc6;done)
  ·replace hc6:=nF hc6
   simp only [ZC.eta,ZR.eta,ZP.eta,ZN.eta,Yr.eta,ZQ.eta,YN.eta,ZY.eta] at hc6
   iterate 2 refine ZA ?_
   refine YA ?_;refine ZU ?_;refine ZA ?_
   refine Yj 48 rfl (fun hc7=>?_) (fun hc7=>?_)
   ·replace hc7:=nT hc7
    simp only [ZC.eta,ZR.eta,ZP.eta,ZN.eta,Yr.eta,ZQ.eta,YN.eta,ZY.eta] at hc7
    (exfalso;simp [eqX] at hc7;done)
   ·replace hc7:=nF hc7
    simp only [ZC.eta,ZR.eta,ZP.eta,ZN.eta,Yr.eta,ZQ.eta,YN.eta,ZY.eta] at hc7
    iterate 2 refine ZA ?_
    refine YA ?_;refine ZU ?_;refine ZA ?_
    refine Yj 53 rfl (fun hc8=>?_) (fun hc8=>?_)
    ·replace hc8:=nT hc8
     simp only [ZC.eta,ZR.eta,ZP.eta,ZN.eta,Yr.eta,ZQ.eta,YN.eta,ZY.eta] at hc8
     (exfalso;simp [eqX] at hc8;done)
    ·replace hc8:=nF hc8
     simp only [ZC.eta,ZR.eta,ZP.eta,ZN.eta,Yr.eta,ZQ.eta,YN.eta,ZY.eta] at hc8
     refine ZA ?_;refine Xa F.elem35 ?_;refine YA ?_;refine ZU ?_;refine ZA ?_
     refine Yj 58 rfl (fun hc9=>?_) (fun hc9=>?_)
     ·replace hc9:=nT hc9
      (exfalso;simp [eqX] at hc9;done)
     ·replace hc9:=nF hc9
      refine ZA ?_;refine Xb rfl rfl rfl rfl F.elem35 (by rfl) (by (simp;done)) (by exact SlM.plain (by assumption) (by (simp;done))) rfl ?_;refine Xk rfl rfl rfl (by exact SlM.plain (by assumption) (by (simp;done))) F.foff49_0 rfl ?_;refine XQ rfl rfl rfl (by assumption) (by exact rfl) F.lay3 rfl rfl rfl ?_;refine YA ?_;refine ZU ?_;refine ZA ?_
      refine Yj 65 rfl (fun hc10=>?_) (fun hc10=>?_)
      ·replace hc10:=nT hc10
       simp only [ZC.eta,ZR.eta,ZP.eta,ZN.eta,Yr.eta,ZQ.eta,YN.eta,ZY.eta] at hc10
       (exfalso;simp [eqX] at hc10;done)
      ·replace hc10:=nF hc10
       simp only [ZC.eta,ZR.eta,ZP.eta,ZN.eta,Yr.eta,ZQ.eta,YN.eta,ZY.eta] at hc10
       refine ZA ?_;refine Xb rfl rfl rfl rfl F.elem35 (by rfl) (by (simp;done)) (by exact SlM.plain (by assumption) (by (simp;done))) rfl ?_;refine Xk rfl rfl rfl (by exact SlM.plain (by assumption) (by (simp;done))) F.foff49_1 rfl ?_;refine Xk rfl rfl rfl (by exact SlM.plain (by assumption) (by (simp;done))) F.foff44_0 rfl ?_;refine XQ rfl rfl rfl (by assumption) (by exact rfl) F.lay3 rfl rfl rfl ?_;refine YA ?_;refine ZU ?_;refine Zz (Zs (Y_pk [72,8,7,3,2,1,0] ?_))
       refine YB rfl (fun hc11=>?_) (fun hc11=>?_)
       ·replace hc11:=nT hc11
        simp only [ZC.eta,ZR.eta,ZP.eta,ZN.eta,Yr.eta,ZQ.eta,YN.eta,ZY.eta] at hc11
        (exfalso;simp [eqX] at hc11;done)
       ·replace hc11:=nF hc11
        simp only [ZC.eta,ZR.eta,ZP.eta,ZN.eta,Yr.eta,ZQ.eta,YN.eta,ZY.eta] at hc11
        refine Yy (Zs (Y_pk [8,7,3,2,1,0] ?_));refine ZJ (YD (l:=[0,1,2,3,4,5,6,7,8,9,10,11,12,13]) #[0,0,2,6,14,31,63,127,127,127,0,1279,3583,8191] _ rfl (by kernel_rfl) (by kernel_rfl) St.drawn (fun _ h=>h) ?_);refine ZI F.lay32 ?_;refine ZA ?_;refine Xb rfl rfl rfl rfl F.elem35 (by rfl) (by (simp;done)) (by exact SlM.plain (by assumption) (by (simp;done))) rfl ?_;refine Xk rfl rfl rfl (by exact SlM.plain (by assumption) (by (simp;done))) F.foff49_1 rfl ?_;refine XQ rfl rfl rfl (by assumption) (by exact rfl) F.lay44 rfl rfl rfl ?_;refine X_fn rfl rfl F.ok17 rfl (Take_ok M3 ⟨⟨⟨x_table_self_addr,x_table_self_id⟩,⟨x_table_pred_addr,x_table_pred_id⟩,⟨x_table_succ_a,x_table_succ_c,x_table_succ_l⟩,⟨x_table_fingers_a,x_table_fingers_c,x_table_fingers_l⟩⟩,x_copies,x_joined,x_boot,x_cursor,x_req,x_askTo,x_askReq,x_pingTo,x_pingReq,x_findTo,x_findReq,x_findID,⟨x_avoid_a,x_avoid_c,x_avoid_l⟩,x_hops,x_turn⟩ ⟨1,⟨2,20#160⟩,1,20#160,⟨p_avoid_a,p_avoid_c,[]⟩,false,⟨-1,0⟩,⟨p_peers_a,p_peers_c,[]⟩⟩ (okx.mono (by (repeat first|assumption|refine Mem.le.trans (by assumption) ?_))) (lz _ (List.Mem.head _)).h0) rfl ?_
        rintro _ M4 hm4 hv
        rw [show Vq (ZP.nd ⟨⟨⟨x_table_self_addr,x_table_self_id⟩,⟨x_table_pred_addr,x_table_pred_id⟩,⟨x_table_succ_a,x_table_succ_c,x_table_succ_l⟩,⟨x_table_fingers_a,x_table_fingers_c,x_table_fingers_l⟩⟩,x_copies,x_joined,x_boot,x_cursor,x_req,x_askTo,x_askReq,x_pingTo,x_pingReq,x_findTo,x_findReq,x_findID,⟨x_avoid_a,x_avoid_c,x_avoid_l⟩,x_hops,x_turn⟩) (ZN.lt ⟨1,⟨2,20#160⟩,1,20#160,⟨p_avoid_a,p_avoid_c,[]⟩,false,⟨-1,0⟩,⟨p_peers_a,p_peers_c,[]⟩⟩)=_ from (congrArg (fun n=>Vq n (ZN.lt ⟨1,⟨2,20#160⟩,1,20#160,⟨p_avoid_a,p_avoid_c,[]⟩,false,⟨-1,0⟩,⟨p_peers_a,p_peers_c,[]⟩⟩)) ex).trans nx4] at hv
        simp only [NtE] at hv
        obtain ⟨⟨⟨⟨w_table_self_addr,w_table_self_id⟩,⟨w_table_pred_addr,w_table_pred_id⟩,⟨w_table_succ_a,w_table_succ_c,w_table_succ_l⟩,⟨w_table_fingers_a,w_table_fingers_c,w_table_fingers_l⟩⟩,w_copies,w_joined,w_boot,w_cursor,w_req,w_askTo,w_askReq,w_pingTo,w_pingReq,w_findTo,w_findReq,w_findID,⟨w_avoid_a,w_avoid_c,w_avoid_l⟩,w_hops,w_turn⟩,⟨to_a,to_c,to_l⟩,rfl,ew,sw,okw,kw,lw⟩:=hv
        try simp only at ew sw kw lw
        obtain ⟨⟨r_to,⟨r_kind,⟨r_frm_addr,r_frm_id⟩,r_req,r_id,⟨r_avoid_a,r_avoid_c,r_avoid_l⟩,r_done,⟨r_peer_addr,r_peer_id⟩,⟨r_peers_a,r_peers_c,r_peers_l⟩⟩⟩,rfl,hr⟩:=sndl_one sw
        simp only [Yr.snd,ZN.lt,nL2,Snd.mk.injEq,Lt.mk.injEq,ZC.mk.injEq] at hr
        obtain ⟨rfl,rfl,⟨rfl,rfl⟩,rfl,rfl,rfl,rfl,⟨rfl,rfl⟩,rfl⟩:=hr
        have s_to:=kw.h1
        try simp only at s_to
        refine ZA ?_
        iterate 3 refine XA ?_
        refine YT F.zero32 ?_;intro b12
        refine XU F.lay32 ?_
        iterate 2 refine ZG ?_
        refine Zz (Zs (Y_pk [12,11,7,2,1,0] ?_))
        iterate 2 refine ZJ ?_
        refine YD (l:=[0,1,2,3,4,5,6,7,8,9,10,11,12,13,14,15,16,17,18,19,20,21,22,23,24,25,26,27,28,29,30]) #[0,1,3,7,15,31,63,127,255,511,1023,2047,4095,8191,16383,32767,65535,131071,262143,524287,1048575,2097151,4194303,8388607,16777215,33554431,67108863,134217727,8388607,536870911,1073741823] _ rfl (by kernel_rfl) (by kernel_rfl) St.drawn (fun _ h=>h) ?_;refine ZA ?_;refine YA ?_;refine ZA ?_
        refine Yj 85 rfl (fun hc13=>?_) (fun hc13=>?_)
        ·replace hc13:=nT hc13
         simp only [ZC.eta,ZR.eta,ZP.eta,ZN.eta,Yr.eta,ZQ.eta,YN.eta,ZY.eta] at hc13
         (exfalso;simp [eqX] at hc13;done)
        ·replace hc13:=nF hc13
         simp only [ZC.eta,ZR.eta,ZP.eta,ZN.eta,Yr.eta,ZQ.eta,YN.eta,ZY.eta] at hc13
         refine ZA ?_;refine Xa F.elem35 ?_;refine YA ?_;refine ZU ?_;refine ZA ?_
         refine Yj 90 rfl (fun hc14=>?_) (fun hc14=>?_)
         ·replace hc14:=nT hc14
          (exfalso;simp [eqX] at hc14;done)
         ·replace hc14:=nF hc14
          refine ZA ?_;refine Xb rfl rfl rfl rfl F.elem35 (by rfl) (by (simp;done)) (by exact SlM.plain (by assumption) (by (simp;done))) rfl ?_;refine Xk rfl rfl rfl (by exact SlM.plain (by assumption) (by (simp;done))) F.foff49_0 rfl ?_;refine XQ rfl rfl rfl (by assumption) (by exact rfl) F.lay3 rfl rfl rfl ?_;refine YA ?_;refine ZU ?_;refine ZA ?_
          refine Yj 97 rfl (fun hc15=>?_) (fun hc15=>?_)
          ·replace hc15:=nT hc15
           simp only [ZC.eta,ZR.eta,ZP.eta,ZN.eta,Yr.eta,ZQ.eta,YN.eta,ZY.eta] at hc15
           (exfalso;simp [eqX] at hc15;done)
          ·replace hc15:=nF hc15
           simp only [ZC.eta,ZR.eta,ZP.eta,ZN.eta,Yr.eta,ZQ.eta,YN.eta,ZY.eta] at hc15
           refine ZA ?_;refine Xb rfl rfl rfl rfl F.elem35 (by rfl) (by (simp;done)) (by exact SlM.plain (by assumption) (by (simp;done))) rfl ?_;refine Xk rfl rfl rfl (by exact SlM.plain (by assumption) (by (simp;done))) F.foff49_1 rfl ?_;refine Xk rfl rfl rfl (by exact SlM.plain (by assumption) (by (simp;done))) F.foff44_5 rfl ?_;refine XQ rfl rfl rfl (by assumption) (by exact rfl) F.lay4 rfl rfl rfl ?_;refine Xp ?_;refine ZU ?_;refine ZA ?_
           refine Yj 105 rfl (fun hc16=>?_) (fun hc16=>?_)
           ·skip
            (exfalso;simp [eqX] at hc16;done)
           ·skip
            refine ZA ?_;refine Xb rfl rfl rfl rfl F.elem35 (by rfl) (by (simp;done)) (by exact SlM.plain (by assumption) (by (simp;done))) rfl ?_;refine Xk rfl rfl rfl (by exact SlM.plain (by assumption) (by (simp;done))) F.foff49_1 rfl ?_;refine Xk rfl rfl rfl (by exact SlM.plain (by assumption) (by (simp;done))) F.foff44_6 rfl ?_;refine XQ rfl rfl rfl (by assumption) (by exact rfl) F.lay25 rfl rfl rfl ?_;refine ZI F.lay25 ?_
            refine Wu (m:=20) rfl rfl rfl rfl rfl (by constructor) (by constructor) F.lay25 F.kinds25 rfl F.guard25 (by exact Xj (⟨_,_⟩)) (by exact Xj (⟨_,_⟩)) rfl rfl rfl ?_;intro c17 he18
            replace he18:c17=true↔¬(Segs.cells _=Segs.cells _):=he18
            obtain rfl:=neD he18 (ZC.inj (x:=⟨_,_⟩) (y:=⟨_,_⟩));clear he18
            refine ZU ?_;refine Zz (Zs (Y_pk [113,11,7,2,1,0] ?_))
            refine YB rfl (fun hc19=>?_) (fun hc19=>?_)
            ·replace hc19:=nT hc19
             simp only [ZC.eta,ZR.eta,ZP.eta,ZN.eta,Yr.eta,ZQ.eta,YN.eta,ZY.eta] at hc19
             (exfalso;simp [eqX] at hc19;done)
            ·replace hc19:=nF hc19
             simp only [ZC.eta,ZR.eta,ZP.eta,ZN.eta,Yr.eta,ZQ.eta,YN.eta,ZY.eta] at hc19
             refine Yy (Zs (Y_pk [11,7,2,1,0] ?_));refine ZJ (YD (l:=[0,1,2,3,4,5,6,7,8,9,10,11,12,13]) #[0,0,2,6,14,31,63,127,127,127,0,1279,3583,8191] _ rfl (by kernel_rfl) (by kernel_rfl) St.drawn (fun _ h=>h) ?_);refine ZI F.lay32 ?_;refine ZA ?_;refine Xb rfl rfl rfl rfl F.elem35 (by rfl) (by (simp;done)) (by exact SlM.plain (by assumption) (by (simp;done))) rfl ?_;refine Xk rfl rfl rfl (by exact SlM.plain (by assumption) (by (simp;done))) F.foff49_1 rfl ?_;refine XQ rfl rfl rfl (by assumption) (by exact rfl) F.lay44 rfl rfl rfl ?_;refine X_fn rfl rfl F.ok17 rfl (Take_ok M4 ⟨⟨⟨z_table_self_addr,z_table_self_id⟩,⟨z_table_pred_addr,z_table_pred_id⟩,⟨z_table_succ_a,z_table_succ_c,z_table_succ_l⟩,⟨z_table_fingers_a,z_table_fingers_c,z_table_fingers_l⟩⟩,z_copies,z_joined,z_boot,z_cursor,z_req,z_askTo,z_askReq,z_pingTo,z_pingReq,z_findTo,z_findReq,z_findID,⟨z_avoid_a,z_avoid_c,z_avoid_l⟩,z_hops,z_turn⟩ ⟨2,⟨1,10#160⟩,1,0,⟨r_avoid_a,r_avoid_c,[]⟩,true,⟨1,10#160⟩,⟨r_peers_a,r_peers_c,[]⟩⟩ (okz.mono hm4) (lw _ (List.Mem.head _)).h0) rfl ?_
             rintro _ M5 hm5 hv
             rw [show Vq (ZP.nd ⟨⟨⟨z_table_self_addr,z_table_self_id⟩,⟨z_table_pred_addr,z_table_pred_id⟩,⟨z_table_succ_a,z_table_succ_c,z_table_succ_l⟩,⟨z_table_fingers_a,z_table_fingers_c,z_table_fingers_l⟩⟩,z_copies,z_joined,z_boot,z_cursor,z_req,z_askTo,z_askReq,z_pingTo,z_pingReq,z_findTo,z_findReq,z_findID,⟨z_avoid_a,z_avoid_c,z_avoid_l⟩,z_hops,z_turn⟩) (ZN.lt ⟨2,⟨1,10#160⟩,1,0,⟨r_avoid_a,r_avoid_c,[]⟩,true,⟨1,10#160⟩,⟨r_peers_a,r_peers_c,[]⟩⟩)=_ from (congrArg (fun n=>Vq n (ZN.lt ⟨2,⟨1,10#160⟩,1,0,⟨r_avoid_a,r_avoid_c,[]⟩,true,⟨1,10#160⟩,⟨r_peers_a,r_peers_c,[]⟩⟩)) ez).trans nx5] at hv
             simp only [NtE] at hv
             obtain ⟨⟨⟨⟨v_table_self_addr,v_table_self_id⟩,⟨v_table_pred_addr,v_table_pred_id⟩,⟨v_table_succ_a,v_table_succ_c,v_table_succ_l⟩,⟨v_table_fingers_a,v_table_fingers_c,v_table_fingers_l⟩⟩,v_copies,v_joined,v_boot,v_cursor,v_req,v_askTo,v_askReq,v_pingTo,v_pingReq,v_findTo,v_findReq,v_findID,⟨v_avoid_a,v_avoid_c,v_avoid_l⟩,v_hops,v_turn⟩,⟨vo_a,vo_c,vo_l⟩,rfl,ev,sv,okv,kv,lv⟩:=hv
             try simp only at ev sv kv lv
             refine ZA ?_
             iterate 3 refine XA ?_
             refine YT F.zero32 ?_;intro b20
             refine XU F.lay32 ?_
             iterate 2 refine ZG ?_
             refine Zz (Zs (Y_pk [15,13,2,1,0] ?_));refine ZJ (Zq (l:=[0,1,2,3,4,5,6,7,8,9]) rfl ?_);refine ZI F.lay32 ?_;refine X_fn rfl rfl F.ok11 rfl (Tick_ok M5 ⟨⟨⟨v_table_self_addr,v_table_self_id⟩,⟨v_table_pred_addr,v_table_pred_id⟩,⟨v_table_succ_a,v_table_succ_c,v_table_succ_l⟩,⟨v_table_fingers_a,v_table_fingers_c,v_table_fingers_l⟩⟩,v_copies,v_joined,v_boot,v_cursor,v_req,v_askTo,v_askReq,v_pingTo,v_pingReq,v_findTo,v_findReq,v_findID,⟨v_avoid_a,v_avoid_c,v_avoid_l⟩,v_hops,v_turn⟩ 1 okv) rfl ?_
             rintro _ M6 hm6 hv
             rw [show Vp (ZP.nd ⟨⟨⟨v_table_self_addr,v_table_self_id⟩,⟨v_table_pred_addr,v_table_pred_id⟩,⟨v_table_succ_a,v_table_succ_c,v_table_succ_l⟩,⟨v_table_fingers_a,v_table_fingers_c,v_table_fingers_l⟩⟩,v_copies,v_joined,v_boot,v_cursor,v_req,v_askTo,v_askReq,v_pingTo,v_pingReq,v_findTo,v_findReq,v_findID,⟨v_avoid_a,v_avoid_c,v_avoid_l⟩,v_hops,v_turn⟩) 1=_ from (congrArg (fun n=>Vp n 1) ev).trans nx6] at hv
             simp only [NtE] at hv
             obtain ⟨⟨⟨⟨u_table_self_addr,u_table_self_id⟩,⟨u_table_pred_addr,u_table_pred_id⟩,⟨u_table_succ_a,u_table_succ_c,u_table_succ_l⟩,⟨u_table_fingers_a,u_table_fingers_c,u_table_fingers_l⟩⟩,u_copies,u_joined,u_boot,u_cursor,u_req,u_askTo,u_askReq,u_pingTo,u_pingReq,u_findTo,u_findReq,u_findID,⟨u_avoid_a,u_avoid_c,u_avoid_l⟩,u_hops,u_turn⟩,⟨uo_a,uo_c,uo_l⟩,rfl,eu,su,oku,ku,lu⟩:=hv
             try simp only at eu su ku lu
             obtain ⟨⟨q_to,⟨q_kind,⟨q_frm_addr,q_frm_id⟩,q_req,q_id,⟨q_avoid_a,q_avoid_c,q_avoid_l⟩,q_done,⟨q_peer_addr,q_peer_id⟩,⟨q_peers_a,q_peers_c,q_peers_l⟩⟩⟩,rfl,hq⟩:=sndl_one su
             simp only [Yr.snd,ZN.lt,nL3,Snd.mk.injEq,Lt.mk.injEq,ZC.mk.injEq] at hq
             obtain ⟨rfl,rfl,⟨rfl,rfl⟩,rfl,rfl,rfl,rfl,⟨rfl,rfl⟩,rfl⟩:=hq
             have s_uo:=ku.h1
             try simp only at s_uo
             refine ZA ?_
             iterate 3 refine XA ?_
             refine YT F.zero32 ?_;intro b21
             refine XU F.lay32 ?_
             iterate 2 refine ZG ?_
             refine Zz (Zs (Y_pk [18,17,15,13,2,1,0] ?_));refine ZJ (Zq (l:=[0,1,2,3,4,5,6,7]) rfl ?_);refine ZI F.lay25 ?_;refine X_fn rfl rfl F.ok23 rfl (Joining_ok M6 ⟨2,20#160⟩ 2 2) rfl ?_
             rintro _ M7 hm7 hv
             rw [nx7] at hv
             simp only [NeE] at hv
             obtain ⟨⟨⟨⟨j_table_self_addr,j_table_self_id⟩,⟨j_table_pred_addr,j_table_pred_id⟩,⟨j_table_succ_a,j_table_succ_c,j_table_succ_l⟩,⟨j_table_fingers_a,j_table_fingers_c,j_table_fingers_l⟩⟩,j_copies,j_joined,j_boot,j_cursor,j_req,j_askTo,j_askReq,j_pingTo,j_pingReq,j_findTo,j_findReq,j_findID,⟨j_avoid_a,j_avoid_c,j_avoid_l⟩,j_hops,j_turn⟩,rfl,ej,okj⟩:=hv
             try simp only at ej
             refine ZA ?_
             iterate 2 refine XA ?_
             refine YT F.zero32 ?_;intro b22
             refine XU F.lay32 ?_;refine ZG ?_;refine Zz (Zs (Y_pk [20,18,17,15,13,1,0] ?_));refine ZJ (YD (l:=[0,1,2,3,4,5,6,7,8,9,10,11,12,13,14,15,16,17,18,19,20,21,22,23,24,25,26,27,28,29,30,31,32,33,34,35,36,37,38]) #[0,1,3,7,15,31,63,127,255,511,127,2047,4095,8191,16383,32767,65535,131071,262143,524287,1048575,2097151,4194303,8388607,16777215,33554431,67108863,134217727,268435455,536870911,1073741823,2147483647,4294967295,8589934591,17179869183,34359738367,68719476735,137438953471,274877906943] _ rfl (by kernel_rfl) (by kernel_rfl) St.drawn (fun _ h=>h) ?_);refine ZA ?_;refine YA ?_;refine ZA ?_
             refine Yj 137 rfl (fun hc23=>?_) (fun hc23=>?_)
             ·replace hc23:=dT hc23
              simp only [ZC.eta,ZR.eta,ZP.eta,ZN.eta,Yr.eta,ZQ.eta,YN.eta,ZY.eta] at hc23
              have hvj:v_joined=true:=(congrArg Nd.joined ev).trans nx8
              refine Zk F.foff32_2 ?_;refine ZI F.lay4 ?_;refine Vf 139 rfl (show _=Value.bool true from congrArg Value.bool hvj) ?_;refine ZU ?_;refine ZA ?_
              refine Yj 141 rfl (fun hc24=>?_) (fun hc24=>?_)
              ·skip
               simp only [ZC.eta,ZR.eta,ZP.eta,ZN.eta,Yr.eta,ZQ.eta,YN.eta,ZY.eta] at hc24
               refine Zk F.foff32_0 ?_;refine ZI F.lay28 ?_;refine X_fs rfl rfl F.ok41 rfl (Vg _ ⟨⟨v_table_self_addr,v_table_self_id⟩,⟨v_table_pred_addr,v_table_pred_id⟩,⟨v_table_succ_a,v_table_succ_c,v_table_succ_l⟩,⟨v_table_fingers_a,v_table_fingers_c,v_table_fingers_l⟩⟩ (okv.h0.mono (by (repeat first|assumption|refine Mem.le.trans (by assumption) ?_)))) rfl ?_
               rintro _ hv
               have h9:Xh (ZR.tb ⟨⟨v_table_self_addr,v_table_self_id⟩,⟨v_table_pred_addr,v_table_pred_id⟩,⟨v_table_succ_a,v_table_succ_c,v_table_succ_l⟩,⟨v_table_fingers_a,v_table_fingers_c,v_table_fingers_l⟩⟩)=⟨1,10#160⟩:=(congrArg (fun n:Nd=>Xh n.table) ev).trans nx9
               rw [h9] at hv
               subst hv
               refine ZI F.lay25 ?_
               refine Wu (m:=20) rfl rfl rfl rfl rfl (by constructor) (by constructor) F.lay25 F.kinds25 rfl F.guard25 (by exact Xj _) (by exact Xj (⟨_,_⟩)) rfl rfl rfl ?_;intro c25 he26
               replace he26:c25=true↔Segs.cells _=Segs.cells _:=he26
               obtain rfl:=eqD he26 (ZC.inj (x:=⟨_,_⟩) (y:=⟨_,_⟩));clear he26
               refine ZU ?_;refine ZA ?_
               refine Yj 148 rfl (fun hc27=>?_) (fun hc27=>?_)
               ·replace hc27:=dT hc27
                simp only [ZC.eta,ZR.eta,ZP.eta,ZN.eta,Yr.eta,ZQ.eta,YN.eta,ZY.eta] at hc27
                refine ZA ?_;refine YA ?_;refine ZU ?_;refine ZA ?_
                refine Yj 152 rfl (fun hc28=>?_) (fun hc28=>?_)
                ·replace hc28:=dT hc28
                 simp only [ZC.eta,ZR.eta,ZP.eta,ZN.eta,Yr.eta,ZQ.eta,YN.eta,ZY.eta] at hc28
                 refine ZA ?_;refine Xa F.elem35 ?_;refine YA ?_;refine ZU ?_;refine ZA ?_
                 refine Yj 157 rfl (fun hc29=>?_) (fun hc29=>?_)
                 ·replace hc29:=dT hc29
                  refine ZA ?_;refine Xb rfl rfl rfl rfl F.elem35 (by rfl) (by (simp;done)) (by exact SlM.plain (by assumption) (by (simp;done))) rfl ?_;refine Xk rfl rfl rfl (by exact SlM.plain (by assumption) (by (simp;done))) F.foff49_1 rfl ?_;refine Xk rfl rfl rfl (by exact SlM.plain (by assumption) (by (simp;done))) F.foff44_0 rfl ?_;refine XQ rfl rfl rfl (by exact SlM.mono (by assumption) (by assumption)) (by exact rfl) F.lay3 rfl rfl rfl ?_;refine YA ?_;refine ZU ?_;refine ZA ?_
                  refine Yj 165 rfl (fun hc30=>?_) (fun hc30=>?_)
                  ·replace hc30:=dT hc30
                   simp only [ZC.eta,ZR.eta,ZP.eta,ZN.eta,Yr.eta,ZQ.eta,YN.eta,ZY.eta] at hc30
                   refine ZA ?_;refine YA ?_;refine ZU ?_;refine ZA ?_
                   refine Yj 169 rfl (fun hc31=>?_) (fun hc31=>?_)
                   ·replace hc31:=dT hc31
                    simp only [ZC.eta,ZR.eta,ZP.eta,ZN.eta,Yr.eta,ZQ.eta,YN.eta,ZY.eta] at hc31
                    refine ZI F.lay32 ?_;refine X_fs rfl rfl F.ok27 rfl (IsN_ok _ ⟨⟨⟨v_table_self_addr,v_table_self_id⟩,⟨v_table_pred_addr,v_table_pred_id⟩,⟨v_table_succ_a,v_table_succ_c,v_table_succ_l⟩,⟨v_table_fingers_a,v_table_fingers_c,v_table_fingers_l⟩⟩,v_copies,v_joined,v_boot,v_cursor,v_req,v_askTo,v_askReq,v_pingTo,v_pingReq,v_findTo,v_findReq,v_findID,⟨v_avoid_a,v_avoid_c,v_avoid_l⟩,v_hops,v_turn⟩ (okv.mono (by (repeat first|assumption|refine Mem.le.trans (by assumption) ?_)))) rfl ?_
                    rintro _ hv
                    have h9:IsNd (ZP.nd ⟨⟨⟨v_table_self_addr,v_table_self_id⟩,⟨v_table_pred_addr,v_table_pred_id⟩,⟨v_table_succ_a,v_table_succ_c,v_table_succ_l⟩,⟨v_table_fingers_a,v_table_fingers_c,v_table_fingers_l⟩⟩,v_copies,v_joined,v_boot,v_cursor,v_req,v_askTo,v_askReq,v_pingTo,v_pingReq,v_findTo,v_findReq,v_findID,⟨v_avoid_a,v_avoid_c,v_avoid_l⟩,v_hops,v_turn⟩):=ev.symm ▸ nx10
                    rw [decide_eq_true h9] at hv
                    subst hv
                    refine ZU ?_;refine ZG ?_;refine Zz (Zs (Y_pk [0] ?_));refine Yv ?_
                    refine Yk (.inr rfl) (.tmp rfl .nil) (fun w hw=>?_)
                    exact ⟨_,_,rfl,(by (repeat first|assumption|refine Mem.le.trans (by assumption) ?_)),hw.c,rfl⟩
                   ·replace hc31:=dF hc31
                    simp only [ZC.eta,ZR.eta,ZP.eta,ZN.eta,Yr.eta,ZQ.eta,YN.eta,ZY.eta] at hc31
                    (exfalso;simp [eqX] at hc31;done)
                  ·replace hc30:=dF hc30
                   simp only [ZC.eta,ZR.eta,ZP.eta,ZN.eta,Yr.eta,ZQ.eta,YN.eta,ZY.eta] at hc30
                   (exfalso;simp [eqX] at hc30;done)
                 ·replace hc29:=dF hc29
                  (exfalso;simp [eqX] at hc29;done)
                ·replace hc28:=dF hc28
                 simp only [ZC.eta,ZR.eta,ZP.eta,ZN.eta,Yr.eta,ZQ.eta,YN.eta,ZY.eta] at hc28
                 (exfalso;simp [eqX] at hc28;done)
               ·replace hc27:=dF hc27
                simp only [ZC.eta,ZR.eta,ZP.eta,ZN.eta,Yr.eta,ZQ.eta,YN.eta,ZY.eta] at hc27
                (exfalso;simp [eqX] at hc27;done)
              ·skip
               (exfalso;simp [eqX] at hc24;done)
             ·replace hc23:=dF hc23
              simp only [ZC.eta,ZR.eta,ZP.eta,ZN.eta,Yr.eta,ZQ.eta,YN.eta,ZY.eta] at hc23
              (exfalso;simp [eqX] at hc23;done)
end Go.Proofs.YtajmnjefajknoaaGreat
namespace Go.Proofs.YtajmnjefajknoaaGreat
open Go.Esp
theorem F.ok13:okFn Tryz.prog 13=true:=by kernel_rfl
theorem F.ok16:okFn Tryz.prog 16=true:=by kernel_rfl
theorem F.ok9:okFn Tryz.prog 9=true:=by kernel_rfl
end Go.Proofs.YtajmnjefajknoaaGreat
namespace Go.Proofs.YtajmnjefajknoaaGreat
open Go.Esp
theorem F.ok25:okFn Tryz.prog 25=true:=by kernel_rfl
end Go.Proofs.YtajmnjefajknoaaGreat
namespace Go.Esp
def CandP (s:ZC) (id:Plc) (avoid:List Int) (p:ZC):Prop:=Vm s.id p.id id∧p.addr∉avoid
instance (s:ZC) (id:Plc) (avoid:List Int) (p:ZC):Decidable (CandP s id avoid p):=by unfold CandP;exact inferInstance
structure NearOk (s:ZC) (id:Plc) (avoid:List Int) (l:List ZC) (r:ZC×Bool):Prop where
  no:r.2=false→r.1=YX∧∀ x∈l,¬CandP s id avoid x
  yes:r.2=true→r.1∈l∧CandP s id avoid r.1∧∀ x∈l,CandP s id avoid x→¬Vm r.1.id x.id id
theorem near_step {s:ZC} {id:Plc} {avoid:List Int} {l:List ZC} {r:ZC×Bool} {p:ZC} (h:NearOk s id avoid l r):NearOk s id avoid (l++[p]) (WU s id avoid r p):=by
  obtain ⟨b,f⟩:=r
  unfold WU
  by_cases hc:p.addr∈avoid∨¬Vm s.id p.id id
  · rw [if_pos hc]
    have hn:¬CandP s id avoid p:=fun h9=>hc.elim h9.2 (fun h8=>h8 h9.1)
    refine ⟨fun h1=>⟨(h.no h1).1,fun x hx=>?_⟩,fun h1=>⟨List.mem_append_left _ (h.yes h1).1,(h.yes h1).2.1,fun x hx hcx=>?_⟩⟩
    · rcases List.mem_append.1 hx with hx|hx
      · exact (h.no h1).2 x hx
      · rw [List.mem_singleton.1 hx];exact hn
    · rcases List.mem_append.1 hx with hx|hx
      · exact (h.yes h1).2.2 x hx hcx
      · rw [List.mem_singleton.1 hx] at hcx;exact (hn hcx).elim
  · rw [if_neg hc]
    have hp:CandP s id avoid p:=⟨Decidable.byContradiction fun h9=>hc (.inr h9),fun h9=>hc (.inl h9)⟩
    by_cases hd:f=false∨Vm b.id p.id id
    · rw [if_pos (show (b,f).2=false∨Vm (b,f).1.id p.id id from hd)]
      refine ⟨fun h1=>(by cases h1),fun _=>⟨List.mem_append_right _ (List.mem_singleton.2 rfl),hp,fun x hx hcx ho=>?_⟩⟩
      rcases List.mem_append.1 hx with hx|hx
      · cases f with
        | false=>exact (h.no rfl).2 x hx hcx
        | true =>
          have hb:=h.yes rfl
          have ho2:Vm b.id p.id id:=hd.resolve_left (by simp)
          have h1:=(open_less hb.2.1.1 hp.1).1 ho2
          have h2:=(open_less hp.1 hcx.1).1 ho
          exact hb.2.2 x hx hcx ((open_less hb.2.1.1 hcx.1).2 (Nat.lt_trans h1 h2))
      · rw [List.mem_singleton.1 hx] at ho;exact ho.1 rfl
    · rw [if_neg (show ¬((b,f).2=false∨Vm (b,f).1.id p.id id) from hd)]
      refine ⟨fun h1=>(hd (.inl h1)).elim,fun h1=>⟨List.mem_append_left _ (h.yes h1).1,(h.yes h1).2.1,fun x hx hcx=>?_⟩⟩
      rcases List.mem_append.1 hx with hx|hx
      · exact (h.yes h1).2.2 x hx hcx
      · rw [List.mem_singleton.1 hx];exact fun h9=>hd (.inr h9)
theorem near_fold {s:ZC} {id:Plc} {avoid:List Int}:∀ {xs l:List ZC} {r:ZC×Bool},NearOk s id avoid l r→NearOk s id avoid (l++xs) (xs.foldl (WU s id avoid) r)
  | [],l,r,h=>by rw [List.append_nil];exact h
  | p::xs,l,r,h=>by
    have:=near_fold (xs:=xs) (near_step (p:=p) h)
    rw [List.append_assoc] at this
    exact this
theorem near_ok {t:Tb} {id:Plc} {avoid:List Int}:NearOk t.self id avoid (knownT t) (Wa t id avoid) :=
  near_fold (l:=[]) ⟨fun _=>⟨rfl,by simp⟩,fun h=>by cases h⟩
end Go.Esp
namespace Go.Esp
def FairS (p:ZC) (s:Snd):Prop:=IsLt s.letter∧s.letter.frm=p∧YO s.to∧s.to≠p.addr
def VE (n:Nd) (r:Nd×List Snd):Prop:=IsNd r.1∧r.1.table.self=n.table.self∧(∀ s∈r.2,FairS n.table.self s)∧r.2.length≤1
theorem none_addr {p:ZC} (h:YO p.addr):p≠YX:=fun e=>by
  rw [e] at h
  exact absurd h.1 (by decide)
theorem addrN_ok {s:ZC} {a:Int} (h:YO a) (h1:a≠s.addr):Xd s a:=⟨⟨by have:=h.1;omega,h.2⟩,h1⟩
theorem addrN_none {s:ZC} (h:YO s.addr):Xd s (-1):=⟨⟨by decide,by decide⟩,fun e=>by have:=h.1;omega⟩
theorem addrN_at {s:ZC} {a:Int} (h:Xd s a) (h1:a≠-1):YO a:=⟨by have:=h.1.1;omega,h.1.2⟩
theorem learn_self (t:Tb) (p:ZC):(WV t p).self=t.self:=by
  unfold WV
  split <;> rfl
theorem adoptN_is {n:Nd} {p:ZC} {l:List ZC} (h:IsNd n) (ho:Xf n.table.self p):∃ t,Wj n p l={ n with table:=t }∧IsTb t∧t.self=n.table.self∧Xh t=p:=by
  have hc:IsTb n.table∧Xf n.table.self p∧1≤n.copies∧n.copies≤8:=⟨h.1,ho,h.2.1.1,h.2.1.2⟩
  have h0:(Wx n.table p l n.copies).2=0:=by
    unfold Wx
    rw [if_pos hc]
  have h1:=stay_adopt (p:=p) (l:=l) (r:=n.copies) h.1 h0
  refine ⟨(Wx n.table p l n.copies).1,?_,h1.1,?_,h1.2.1⟩
  · unfold Wj
    rw [if_pos h0]
  · unfold Wx
    rw [if_pos hc]
theorem with_table {n:Nd} {t:Tb} (h:IsNd n) (ht:IsTb t) (hs:t.self=n.table.self):IsNd { n with table:=t }:=by
  obtain ⟨h1,h2,h3,h4,h5,h6,h7,h8,h9⟩:=h
  refine ⟨ht,h2,h3,h4,h5,h6,h7,?_,h9⟩
  show Xd t.self _∧Xd t.self _∧Xd t.self _∧Xd t.self _
  rw [hs]
  exact h8
theorem stay_adoptN {n:Nd} {p:ZC} {l:List ZC} (h:IsNd n):IsNd (Wj n p l)∧(Wj n p l).table.self=n.table.self:=by
  by_cases ho:Xf n.table.self p
  · obtain ⟨t,h1,h2,h3,_⟩:=adoptN_is (l:=l) h ho
    rw [h1]
    exact ⟨with_table h h2 h3,h3⟩
  · rw [adopt_not ho]
    exact ⟨h,rfl⟩
theorem point_self {t:Tb} {k:Int} {p:ZC} (he:(We t k p).2.2=0):(We t k p).1.self=t.self:=by
  unfold We at *
  split at he
  · rename_i hc
    rw [if_pos hc]
  · cases he
theorem stay_pointN {n:Nd} {p:ZC} (h:IsNd n):IsNd (Vr n p)∧(Vr n p).table.self=n.table.self:=by
  unfold Vr
  split
  · rename_i h0
    have h1:=stay_point h.1 h0
    have hs:=point_self h0
    have hw:=with_table h h1.1 hs
    obtain ⟨g1,g2,g3,g4,g5,g6,g7,g8,g9⟩:=hw
    exact ⟨⟨g1,g2,g3,⟨h1.2.1,by have:=h1.2.2.1;show (We n.table n.cursor p).2.1≤159;omega⟩,g5,g6,g7,g8,g9⟩,hs⟩
  · exact ⟨h,rfl⟩
theorem stay_shunN {n:Nd} {a:Int} (h:IsNd n) (ha:YO a):IsNd (VP n a)∧(VP n a).table=n.table∧(VP n a).boot=n.boot∧(VP n a).findTo=n.findTo∧(VP n a).joined=n.joined:=by
  unfold VP
  split
  · exact ⟨h,rfl,rfl,rfl,rfl⟩
  · rename_i hc
    obtain ⟨g1,g2,g3,g4,g5,g6,g7,g8,g9⟩:=h
    refine ⟨⟨g1,g2,g3,g4,?_,g6,g7,g8,fun x hx=>?_⟩,rfl,rfl,rfl,rfl⟩
    · have h16:¬16≤n.avoid.length:=fun q=>hc (.inr q)
      show (n.avoid++[a]).length≤16
      rw [List.length_append]
      simp only [List.length_cons,List.length_nil]
      omega
    · rcases List.mem_append.1 hx with hx|hx
      · exact g9 x hx
      · rw [List.mem_singleton.1 hx];exact ha
theorem stay_seekN {n:Nd} {to:Int} (h:IsNd n) (ht:YO to) (hn:to≠n.table.self.addr):VE n (seekN n to):=by
  obtain ⟨g1,g2,g3,g4,g5,g6,g7,⟨g8,g81,g82,g83⟩,g9⟩:=h
  refine ⟨⟨g1,g2,g3,g4,g5,g6,g7,⟨g8,g81,g82,addrN_ok ht hn⟩,g9⟩,rfl,fun s hs=>?_,Nat.le_refl 1⟩
  obtain rfl:=List.mem_singleton.1 hs
  exact ⟨⟨⟨by show (1:Int)≤1;decide,by show (1:Int)≤8;decide⟩,g1.1,g5,Nat.zero_le _,.inl rfl,fun q=>absurd q.2 (by show ¬(1:Int)=2;decide),.inl (.inl rfl),.inl rfl,.inl rfl,.inr rfl,.inr rfl,.inr rfl,g9,fun p hp=>by cases hp⟩,rfl,ht,hn⟩
theorem known_step {s:ZC}:∀ {xs out:List ZC},(∀ p∈xs,VI s p)→(∀ p∈out,Xf s p)→∀ p∈xs.foldl (knownStep s) out,Xf s p
  | [],out,_,h2=>h2
  | q::xs,out,h1,h2=>by
    refine known_step (xs:=xs) (fun p hp=>h1 p (.tail _ hp)) (fun p hp=>?_)
    unfold knownStep at hp
    split at hp
    · exact h2 p hp
    · rename_i hc
      have hq:Xf s q:=(h1 q (.head _)).resolve_left (fun e=>hc (.inl (by rw [e];decide)))
      have hm:∀ {l:List ZC} {x:ZC},x∈insP q l→x=q∨x∈l:=by
        intro l
        induction l with
        | nil=>intro x hx;exact .inl (List.mem_singleton.1 hx)
        | cons a l ih =>
          intro x hx
          unfold insP at hx
          split at hx
          · rcases List.mem_cons.1 hx with rfl|hx
            · exact .inr (.head _)
            · exact (ih hx).imp id (.tail _)
          · exact (List.mem_cons.1 hx).imp id id
      rcases hm hp with rfl|hp
      · exact hq
      · exact h2 p hp
theorem known_other {t:Tb} (h:IsTb t):∀ p∈knownT t,Xf t.self p :=
  known_step (fun p hp=>by
    rcases List.mem_cons.1 hp with rfl|hp
    · exact h.2.1
    · rcases List.mem_append.1 hp with hp|hp
      · exact .inr (h.2.2.2.2.1.1 p hp)
      · exact h.2.2.2.2.2 p hp) (fun p hp=>by cases hp)
theorem near_other {t:Tb} {id:Plc} {av:List Int} (h:IsTb t) (hn:(Wa t id av).2=true):Xf t.self (Wa t id av).1 :=
  known_other h _ ((near_ok (t:=t) (id:=id) (avoid:=av)).yes hn).1
theorem first_other {t:Tb} (h:IsTb t) (hs:t.succ≠[]):Xf t.self (Xh t):=by
  obtain ⟨a,b,su,f⟩:=t
  match su,h,hs with
  | p::l,h,_=>exact h.2.2.2.2.1.1 p (.head _)
theorem first_okA {t:Tb} (h:IsTb t):YO (Xh t).addr:=by
  by_cases hs:t.succ=[]
  · obtain ⟨a,b,su,f⟩:=t
    simp only at hs
    subst hs
    exact h.1
  · exact (first_other h hs).1
theorem fair_one {p:ZC} {s:Snd} (h:FairS p s):∀ x∈[s],FairS p x:=fun x hx=>by
  obtain rfl:=List.mem_singleton.1 hx
  exact h
theorem lett_is {n:Nd} {k req:Int} (hk:k=3∨k=6∨k=7∨(k=5∧req=0)) (h:YO n.table.self.addr):IsLt (lett n k req):=by
  have hk8:1≤k∧k≤8:=by omega
  refine ⟨hk8,h,Nat.zero_le _,Nat.zero_le _,.inl rfl,fun q=>?_,?_,.inr rfl,.inr rfl,.inr rfl,.inr rfl,.inr rfl,fun a ha=>(by cases ha),fun p hp=>(by cases hp)⟩
  · have:k=2:=q.2
    omega
  · unfold WR
    show (k=1∨k=2∨k=3∨k=6∨k=7∨k=4)∨req=0
    omega
theorem XP {n m:Nd} (h:IsNd m) (hs:m.table.self=n.table.self):VE n (m,[]):=⟨h,hs,fun s hs=>(by cases hs),Nat.zero_le _⟩
theorem stay_from {n m:Nd} {r:Nd×List Snd} (hs:m.table.self=n.table.self) (h:VE m r):VE n r:=⟨h.1,h.2.1.trans hs,fun s hx=>hs ▸ h.2.2.1 s hx,h.2.2.2⟩
theorem with_ask {n:Nd} {a r q:Int} (h:IsNd n) (ha:Xd n.table.self a):IsNd { n with req:=q,askTo:=a,askReq:=r }:=by
  obtain ⟨g1,g2,g3,g4,g5,g6,g7,⟨g8,g81,g82,g83⟩,g9⟩:=h
  exact ⟨g1,g2,g3,g4,g5,g6,g7,⟨g8,ha,g82,g83⟩,g9⟩
theorem stay_stabN {n:Nd} (h:IsNd n):VE n (VK n):=by
  by_cases hj:n.joined=false
  · unfold VK
    rw [if_pos hj]
    have hb:n.boot≠-1:=h.2.2.1.resolve_left (by rw [hj];decide)
    have hbo:YO n.boot:=addrN_at h.2.2.2.2.2.2.2.1.1 hb
    have hbn:n.boot≠n.table.self.addr:=h.2.2.2.2.2.2.2.1.1.2
    obtain ⟨m,hm,h1,h2,h3⟩:∃ m,m=(if n.findTo≠-1∧n.findTo≠n.boot then VP n n.findTo else n)∧IsNd m∧m.table=n.table∧m.boot=n.boot:=by
      refine ⟨_,rfl,?_⟩
      split
      · rename_i hc
        have:=stay_shunN (a:=n.findTo) h (addrN_at h.2.2.2.2.2.2.2.1.2.2.2 hc.1)
        exact ⟨this.1,this.2.1,this.2.2.1⟩
      · exact ⟨h,rfl,rfl⟩
    rw [← hm]
    refine stay_from (m:={ m with findID:=m.table.self.id,hops:=0 }) (congrArg Tb.self h2) (stay_seekN ?_ (by rw [h3];exact hbo) (by show m.boot≠m.table.self.addr;rw [h3,h2];exact hbn))
    obtain ⟨g1,g2,g3,g4,g5,g6,g7,g8,g9⟩:=h1
    exact ⟨g1,g2,g3,g4,g5,⟨Int.le_refl 0,by show (0:Int)≤64;decide⟩,g7,g8,g9⟩
  · have hj:n.joined=true:=by simpa using hj
    obtain ⟨m,hm,h1,h2⟩:∃ m,m=(if n.askTo≠-1 then { n with table:=XM n.table n.askTo,askTo:=-1 } else n)∧IsNd m∧m.table.self=n.table.self:=by
      refine ⟨_,rfl,?_⟩
      split
      · have hw:=with_table (t:=XM n.table n.askTo) h (stay_forget h.1) rfl
        exact ⟨with_ask (q:=n.req) (r:=n.askReq) hw (addrN_none h.1.1),rfl⟩
      · exact ⟨h,rfl⟩
    obtain ⟨m2,hm2,h3,h4⟩:∃ m2,m2=(if m.table.succ=[]∧m.table.pred≠YX then Wj m m.table.pred [] else m)∧IsNd m2∧m2.table.self=n.table.self:=by
      refine ⟨_,rfl,?_⟩
      split
      · have:=stay_adoptN (p:=m.table.pred) (l:=[]) h1
        exact ⟨this.1,this.2.trans h2⟩
      · exact ⟨h1,h2⟩
    rw [stab_joined hj hm hm2]
    by_cases hs:m2.table.succ=[]
    · rw [if_pos hs];exact XP h3 h4
    · rw [if_neg hs]
      have ho:=first_other h3.1 hs
      refine stay_from h4 ⟨with_ask h3 (addrN_ok ho.1 ho.2.1),rfl,fair_one ⟨lett_is (.inl rfl) h3.1.1,rfl,ho.1,ho.2.1⟩,Nat.le_refl 1⟩
theorem with_find {n:Nd} {l:List Int} {a:Int} (h:IsNd n) (hl:l.length≤16∧∀ x∈l,YO x) (ha:Xd n.table.self a):IsNd { n with avoid:=l,findTo:=a }:=by
  obtain ⟨g1,g2,g3,g4,g5,g6,g7,⟨g8,g81,g82,g83⟩,g9⟩:=h
  exact ⟨g1,g2,g3,g4,hl.1,g6,g7,⟨g8,g81,g82,ha⟩,hl.2⟩
theorem stay_fixN {n:Nd} (h:IsNd n):VE n (fixN n):=by
  by_cases hj:n.joined=false
  · rw [fix_out hj];exact XP h rfl
  · have hj:n.joined=true:=by simpa using hj
    obtain ⟨m,hm,h1,h2⟩:∃ m,m=(if n.findTo=-1 then { n with avoid:=[] } else { n with avoid:=Vy n.avoid n.findTo,table:=XM n.table n.findTo,findTo:=-1 })∧IsNd m∧m.table.self=n.table.self:=by
      refine ⟨_,rfl,?_⟩
      split
      · exact ⟨with_find (a:=n.findTo) h ⟨Nat.zero_le _,fun x hx=>by cases hx⟩ h.2.2.2.2.2.2.2.1.2.2.2,rfl⟩
      · rename_i hf
        have hs:=(stay_shunN (a:=n.findTo) h (addrN_at h.2.2.2.2.2.2.2.1.2.2.2 hf)).1
        rw [shunN_l] at hs
        have hw:=with_table (t:=XM n.table n.findTo) hs (stay_forget h.1) rfl
        exact ⟨with_find (a:=-1) hw ⟨hw.2.2.2.2.1,hw.2.2.2.2.2.2.2.2⟩ (addrN_none h.1.1),rfl⟩
    rw [fix_eq hj hm rfl]
    split
    · have:=stay_pointN (p:=(Vu m.table (m.table.self.id+powP m.cursor.toNat)).1) h1
      exact XP this.1 (this.2.trans h2)
    · split
      · obtain ⟨g1,g2,g3,g4,g5,g6,g7,g8,g9⟩:=h1
        exact XP ⟨g1,g2,g3,⟨Int.le_refl 0,by show (0:Int)≤159;decide⟩,g5,g6,g7,g8,g9⟩ h2
      · rename_i hq
        have ho:=near_other (id:=m.table.self.id+powP m.cursor.toNat) (av:=m.avoid) h1.1 (by simpa using hq)
        refine stay_from (m:={ m with findID:=m.table.self.id+powP m.cursor.toNat,hops:=0 }) h2 (stay_seekN ?_ ho.1 ho.2.1)
        obtain ⟨g1,g2,g3,g4,g5,g6,g7,g8,g9⟩:=h1
        exact ⟨g1,g2,g3,g4,g5,⟨Int.le_refl 0,by show (0:Int)≤64;decide⟩,g7,g8,g9⟩
theorem with_ping {n:Nd} {a r q t:Int} (h:IsNd n) (ha:Xd n.table.self a) (ht:0≤t∧t≤999999):IsNd { n with req:=q,pingTo:=a,pingReq:=r,turn:=t }:=by
  obtain ⟨g1,g2,g3,g4,g5,g6,g7,⟨g8,g81,g82,g83⟩,g9⟩:=h
  exact ⟨g1,g2,g3,g4,g5,g6,ht,⟨g8,g81,ha,g83⟩,g9⟩
theorem stay_checkN {n:Nd} (h:IsNd n):VE n (checkN n):=by
  obtain ⟨m,hm,h1,h2⟩:∃ m,m=(if n.pingTo≠-1 then { n with table:=XM n.table n.pingTo,pingTo:=-1 } else n)∧IsNd m∧m.table.self=n.table.self:=by
    refine ⟨_,rfl,?_⟩
    split
    · have hw:=with_table (t:=XM n.table n.pingTo) h (stay_forget h.1) rfl
      exact ⟨with_ping (q:=n.req) (r:=n.pingReq) (t:=n.turn) hw (addrN_none h.1.1) h.2.2.2.2.2.2.1,rfl⟩
    · exact ⟨h,rfl⟩
  cases hl:knownT m.table with
  | nil=>rw [check_nil hm hl];exact XP h1 h2
  | cons p l =>
    have hk:m.turn.toNat % (p::l).length<(p::l).length:=Nat.mod_lt _ (Nat.succ_pos _)
    rw [check_cons hm hl hk rfl rfl]
    have ho:=known_other h1.1 ((p::l)[m.turn.toNat % (p::l).length]) (by rw [hl];exact List.getElem_mem hk)
    have ht:=h1.2.2.2.2.2.2.1
    refine stay_from h2 ⟨with_ping h1 (addrN_ok ho.1 ho.2.1) (by omega),rfl,fair_one ⟨lett_is (.inr (.inl rfl)) h1.1.1,rfl,ho.1,ho.2.1⟩,Nat.le_refl 1⟩
theorem stay_tick {n:Nd} {k:Int} (h:IsNd n) (hk:1≤k∧k≤3):∃ r,Vp n k=(r.1,r.2,0)∧VE n r:=by
  refine ⟨_,tick_yes h hk rfl,?_⟩
  split
  · exact stay_stabN h
  · split
    · exact stay_fixN h
    · exact stay_checkN h
theorem stay_findN {n:Nd} {l:Lt} (h:IsNd n) (hf:Xf n.table.self l.frm):VE n (n,findN n l):=by
  unfold findN
  split
  · exact XP h rfl
  · refine ⟨h,rfl,fair_one ⟨?_,rfl,hf.1,hf.2.1⟩,Nat.le_refl 1⟩
    have hp:YO (if (Vu n.table l.id).2 || !(Wa n.table l.id l.avoid).2 then (Vu n.table l.id).1 else (Wa n.table l.id l.avoid).1).addr:=by
      split
      · exact first_okA h.1
      · rename_i hc
        have:(Wa n.table l.id l.avoid).2=true:=by simp only [Bool.or_eq_true,Bool.not_eq_true'] at hc;simp at hc;exact hc.2
        exact (near_other h.1 this).1
    exact ⟨⟨by show (1:Int)≤2;decide,by show (2:Int)≤8;decide⟩,h.1.1,Nat.zero_le _,Nat.zero_le _,.inr hp,fun q=>none_addr hp q.1,.inl (.inr (.inl rfl)),.inr rfl,.inr rfl,.inl rfl,.inl (.inl rfl),.inr rfl,fun a ha=>(by cases ha),fun p hp=>(by cases hp)⟩
theorem stay_foundN {n:Nd} {l:Lt} (h:IsNd n):VE n (VA n l):=by
  have hq:IsNd { n with findTo:=-1 }:=with_find (l:=n.avoid) (a:=-1) h ⟨h.2.2.2.2.1,h.2.2.2.2.2.2.2.2⟩ (addrN_none h.1.1)
  unfold VA
  split
  · exact XP h rfl
  split
  · simp only
    split
    · have:=stay_pointN (p:=l.peer) hq
      exact XP this.1 this.2
    split
    · rename_i hc
      have h1:=stay_adoptN (p:=l.peer) (l:=[]) hq
      obtain ⟨g1,g2,g3,g4,g5,g6,g7,g8,g9⟩:=h1.1
      exact XP ⟨g1,g2,.inl rfl,⟨Int.le_refl 0,by show (0:Int)≤159;decide⟩,Nat.zero_le _,g6,g7,g8,fun x hx=>(by cases hx)⟩ h1.2
    · exact XP hq rfl
  split
  · exact XP hq rfl
  · rename_i hc
    have ho:Xf n.table.self l.peer:=Decidable.byContradiction fun q=>hc (.inl q)
    have hh:¬32≤n.hops:=fun q=>hc (.inr (.inr (.inr q)))
    refine stay_from (m:={ n with hops:=n.hops+1 }) rfl (stay_seekN ?_ ho.1 ho.2.1)
    obtain ⟨g1,g2,g3,g4,g5,g6,g7,g8,g9⟩:=h
    exact ⟨g1,g2,g3,g4,g5,⟨by show (0:Int)≤n.hops+1;omega,by show n.hops+1≤(64:Int);omega⟩,g7,g8,g9⟩
theorem stay_toldN {n:Nd} {l:Lt} (h:IsNd n) (hf:Xf n.table.self l.frm):VE n (toldN n l):=by
  by_cases h0:n.askTo≠l.frm.addr∨n.askReq≠l.req
  · rw [told_no h0];exact XP h rfl
  · have e1:n.askTo=l.frm.addr:=Decidable.byContradiction fun q=>h0 (.inl q)
    have e2:n.askReq=l.req:=Decidable.byContradiction fun q=>h0 (.inr q)
    have hq:IsNd { n with askTo:=-1 }:=with_ask (q:=n.req) (r:=n.askReq) h (addrN_none h.1.1)
    obtain ⟨t,ht,h1,h2,h3⟩:=adoptN_is (l:=l.peers) hq (show Xf n.table.self l.frm from hf)
    have hm:=with_table hq h1 h2
    obtain ⟨m,hmm⟩:∃ m:Nd,{ { n with askTo:=-1 } with table:=t }=m:=⟨_,rfl⟩
    have ht9:m=Wj { n with askTo:=-1 } l.frm l.peers:=(ht.trans hmm).symm
    have hmt:m.table=t:=by rw [← hmm]
    rw [show ({ table:=t,copies:=n.copies,joined:=n.joined,boot:=n.boot,cursor:=n.cursor,req:=n.req,askTo:=-1,askReq:=n.askReq,pingTo:=n.pingTo,pingReq:=n.pingReq,findTo:=n.findTo,findReq:=n.findReq,findID:=n.findID,avoid:=n.avoid,hops:=n.hops,turn:=n.turn }:Nd)=m from hmm] at hm
    have hms:m.table.self=n.table.self:=by rw [hmt];exact h2
    by_cases hc:Vv m.table l.peer
    · obtain ⟨t2,ht2,k1,k2,k3⟩:=adoptN_is (l:=l.frm::l.peers) hm hc.1
      rw [told_yes e1 e2 ht9 hc ht2.symm]
      have hm2:=with_table hm k1 k2
      have ho:Xf n.table.self l.peer:=hms ▸ hc.1
      refine ⟨hm2,k2.trans hms,fair_one ⟨?_,k2.trans hms,?_,?_⟩,Nat.le_refl 1⟩
      · exact lett_is (.inr (.inr (.inr ⟨rfl,rfl⟩))) (by show YO t2.self.addr;rw [k2];exact hm.1.1)
      · show YO (Xh t2).addr;rw [k3];exact ho.1
      · show (Xh t2).addr≠_;rw [k3];exact ho.2.1
    · rw [told_not e1 e2 ht9 hc]
      refine ⟨hm,hms,fair_one ⟨?_,hms,?_,?_⟩,Nat.le_refl 1⟩
      · exact lett_is (.inr (.inr (.inr ⟨rfl,rfl⟩))) hm.1.1
      · show YO (Xh m.table).addr;rw [hmt,h3];exact hf.1
      · show (Xh m.table).addr≠_;rw [hmt,h3];exact hf.2.1
theorem stay_byeN {n:Nd} {l:Lt} (h:IsNd n):VE n (byeN n l,[]):=by
  have ht:IsTb (byeT n l)∧(byeT n l).self=n.table.self:=by
    unfold byeT
    split
    · exact ⟨stay_learn (stay_forget h.1),learn_self _ _⟩
    · exact ⟨stay_forget h.1,rfl⟩
  have hw:=with_table h ht.1 ht.2
  obtain ⟨m,hm⟩:∃ m:Nd,m={ n with table:=byeT n l }:=⟨_,rfl⟩
  rw [← hm] at hw
  have hs:m.table.self=n.table.self:=by rw [hm];exact ht.2
  by_cases h1:(Xh n.table).addr=l.frm.addr
  · by_cases h2:0<l.peers.length
    · rw [bye_yes hm h1 h2]
      have:=stay_adoptN (p:=l.peers[0]) (l:=l.peers.drop 1) hw
      exact XP this.1 (this.2.trans hs)
    · rw [bye_no hm (fun _ q=>absurd q h2)]
      exact XP hw hs
  · rw [bye_no hm (fun q=>absurd q h1)]
    exact XP hw hs
theorem stay_does {n:Nd} {l:Lt} (h:IsNd n) (hl:IsLt l) (hf:Xf n.table.self l.frm):VE n (XL n l):=by
  have hk:=hl.1
  have h8:l.kind=1∨l.kind=2∨l.kind=3∨l.kind=4∨l.kind=5∨l.kind=6∨l.kind=7∨l.kind=8:=by omega
  rcases h8 with k|k|k|k|k|k|k|k
  · rw [does1 k];exact stay_findN h hf
  · rw [does2 k];exact stay_foundN h
  · cases hj:n.joined with
    | false=>rw [does3n k hj];exact XP h rfl
    | true =>
      rw [does3y k hj]
      refine ⟨h,rfl,fair_one ⟨?_,rfl,hf.1,hf.2.1⟩,Nat.le_refl 1⟩
      refine ⟨⟨by show (1:Int)≤4;decide,by show (4:Int)≤8;decide⟩,h.1.1,Nat.zero_le _,h.1.2.2.1,h.1.2.1.imp id (fun q=>q.1),fun q=>absurd q.2 (by show ¬(4:Int)=2;decide),.inl (.inr (.inr (.inr (.inr (.inr rfl))))),.inr rfl,.inr rfl,.inr rfl,.inl (.inr (.inl rfl)),.inl (.inl rfl),fun a ha=>(by cases ha),fun p hp=>(h.1.2.2.2.2.1.1 p hp).1⟩
  · rw [does4 k];exact stay_toldN h hf
  · rw [does5 k rfl];exact XP (with_table h (stay_learn h.1) (learn_self _ _)) (learn_self _ _)
  · rw [does6 k];exact ⟨h,rfl,fair_one ⟨lett_is (.inr (.inr (.inl rfl))) h.1.1,rfl,hf.1,hf.2.1⟩,Nat.le_refl 1⟩
  · rw [does7 k]
    split
    · exact XP (with_ping (q:=n.req) (r:=n.pingReq) (t:=n.turn) h (addrN_none h.1.1) h.2.2.2.2.2.2.1) rfl
    · exact XP h rfl
  · rw [does8 k];exact stay_byeN h
theorem stay_take {n:Nd} {l:Lt} (h:IsNd n) (hl:IsLt l):∃ r,Vq n l=(r.1,r.2,0)∧VE n r:=by
  by_cases hf:Xf n.table.self l.frm
  · exact ⟨_,take_does h hl hf,stay_does h hl hf⟩
  · exact ⟨(n,[]),take_not h hl hf,XP h rfl⟩
theorem fair_leave {n:Nd} (h:IsNd n):∃ s,leaveN n=(s,0)∧(∀ x∈s,FairS n.table.self x)∧s.length≤2:=by
  have hl:IsLt { lett n 8 0 with peer:=n.table.pred,peers:=n.table.succ } :=
    ⟨⟨by show (1:Int)≤8;decide,by show (8:Int)≤8;decide⟩,h.1.1,Nat.zero_le _,h.1.2.2.1,h.1.2.1.imp id (fun q=>q.1),fun q=>absurd q.2 (by show ¬(8:Int)=2;decide),.inr rfl,.inr rfl,.inr rfl,.inr rfl,.inl (.inr (.inr rfl)),.inl (.inr rfl),fun a ha=>(by cases ha),fun p hp=>(h.1.2.2.2.2.1.1 p hp).1⟩
  refine ⟨_,by unfold leaveN;rw [if_pos h],?_,?_⟩
  · intro x hx
    rcases List.mem_append.1 hx with hx|hx
    · split at hx
      · cases hx
      · rename_i hs
        obtain rfl:=List.mem_singleton.1 hx
        have ho:=first_other h.1 hs
        exact ⟨hl,rfl,ho.1,ho.2.1⟩
    · split at hx
      · rename_i hc
        obtain rfl:=List.mem_singleton.1 hx
        have ho:=h.1.2.1.resolve_left hc.1
        exact ⟨hl,rfl,ho.1,ho.2.1⟩
      · cases hx
  · rw [List.length_append]
    have e1:∀ {p:Prop} [Decidable p] {s:Snd},(if p then ([]:List Snd) else [s]).length≤1:=by intro p _ s;split;exact Nat.zero_le _;exact Nat.le_refl 1
    have e2:∀ {p:Prop} [Decidable p] {s:Snd},(if p then [s] else ([]:List Snd)).length≤1:=by intro p _ s;split;exact Nat.le_refl 1;exact Nat.zero_le _
    exact Nat.add_le_add e1 e2
theorem tick_law {n:Nd} {k:Int} {r:Nd×List Snd×Int} (h:IsNd n) (hr:Vp n k=r):(r.2.2=0↔1≤k∧k≤3)∧(r.2.2=0→VE n (r.1,r.2.1)):=by
  subst hr
  by_cases hk:1≤k∧k≤3
  · obtain ⟨r,h1,h2⟩:=stay_tick h hk
    rw [h1]
    exact ⟨⟨fun _=>hk,fun _=>rfl⟩,fun _=>h2⟩
  · rw [tick_no (fun q=>hk q.2)]
    exact ⟨⟨fun q=>absurd q (by decide),fun q=>absurd q hk⟩,fun q=>absurd q (by decide)⟩
theorem take_law {n:Nd} {l:Lt} {r:Nd×List Snd×Int} (h:IsNd n) (hr:Vq n l=r):(r.2.2=0↔IsLt l)∧(r.2.2=0→VE n (r.1,r.2.1)):=by
  subst hr
  by_cases hl:IsLt l
  · obtain ⟨r,h1,h2⟩:=stay_take h hl
    rw [h1]
    exact ⟨⟨fun _=>hl,fun _=>rfl⟩,fun _=>h2⟩
  · rw [WM (fun q=>hl q.2)]
    exact ⟨⟨fun q=>absurd q (by decide),fun q=>absurd q hl⟩,fun q=>absurd q (by decide)⟩
theorem leave_law {n:Nd} {r:List Snd×Int} (h:IsNd n) (hr:leaveN n=r):r.2=0∧(∀ x∈r.1,FairS n.table.self x)∧r.1.length≤2:=by
  subst hr
  obtain ⟨s,h1,h2,h3⟩:=fair_leave h
  rw [h1]
  exact ⟨rfl,h2,h3⟩
end Go.Esp
namespace Go.Proofs.YtajmnjefajknoaaGreat
open Go.Esp
theorem F.ok29:okFn Tryz.prog 29=true:=by kernel_rfl
theorem fair_ok (M:Mem) (s:(Sl Yr)) (p:ZC) (hs0:SlK M Yr.segs 68 s) (hs1:∀ y∈(s).l,Yr.ok M y) (hF:∀ x∈sndl s.l,FairS p x):Fs Tryz.prog 29 [Sl.val s,p.enc] M (fun v=>v=Value.bool (true)):=by
  obtain ⟨s_a,s_c,s_l⟩:=s
  obtain ⟨YR,p_id⟩:=p
  have k_s:SlK M Yr.segs 68 ⟨s_a,s_c,s_l⟩:=hs0
  have s_s:SlM M s_a (s_l.map Yr.segs) 68:=k_s.h1
  have n_s:(s_l.map Yr.segs).length=s_l.length:=List.length_map ..
  have m_s:s_l.length≤9223372036854775807:=k_s.h2
  have c_s:s_l.length≤s_c:=k_s.h3
  have l_s:∀ y∈s_l,Yr.ok M y:=hs1
  refine Xw Tryz.func29 rfl Tryz.ntmps29 rfl ?_;intro H
  refine ZJ (Zq (l:=[0,1]) rfl ?_)
  refine Xl ?_;intro b1
  refine ZG ?_;refine Zz (Zs (Y_pk [4,3,0] ?_))
  iterate 2 refine ZJ ?_
  refine Zq (l:=[0]) rfl ?_;refine ZG ?_;refine Zz (Zs (Xg (Y_pk [5,4,3,0] ?_)));refine Vo (.succ .zero) (fun (k:Nat) z=>z=[(5,.int .i64 (k:Int))]∧k≤s_l.length∧(True)) (fun k=>s_l.length-k) (0) (⟨rfl,by omega,by trivial⟩) ?_
  rintro k _ ⟨rfl,hk,hI⟩
  iterate 2 refine ZJ ?_
  refine Zq (l:=[0,1,2,3]) rfl ?_
  iterate 2 refine ZA ?_
  refine Xa F.elem35 ?_;refine YA ?_;refine Zz (Zs ?_)
  refine YB rfl (fun hc2=>?_) (fun hc2=>?_)
  ·replace hc2:=dT hc2
   refine Yy (Zs (ZJ (Xg (ZJ ?_))))
   obtain ⟨f1,f2,⟨f3,f4⟩,f5⟩:=hF (Yr.snd s_l[k]) (List.mem_map_of_mem (f:=Yr.snd) (List.getElem_mem (l:=s_l) (by omega)))
   replace f1:IsLt (ZN.lt s_l[k].letter):=f1
   replace f2:s_l[k].letter.frm=⟨YR,p_id⟩:=f2
   replace f3:0≤s_l[k].to:=f3
   replace f4:s_l[k].to≤999:=f4
   replace f5:s_l[k].to≠YR:=f5
   have f6:s_l[k].letter.frm.addr=YR:=congrArg ZC.addr f2
   have f7:s_l[k].letter.frm.id=p_id:=congrArg ZC.id f2
   refine YD (l:=[0,1,2,3,4,5,6,7,8,9,10,11,12,13,14,15,16,17,18,19,20,21,22,23,24,25,26,27,28,29,30,31,32,33,34,35,36,37,38,39,40,41,42]) #[0,0,3,7,15,31,63,127,255,255,1023,2047,4095,8191,255,32767,65535,131071,262143,262143,1048575,2097151,4194303,262143,8650751,33554431,67108863,134217727,268435455,268435455,1073741823,2147483647,4294967295,8589934591,17179869183,34359738367,68719476735,68719476735,274877906943,549755813887,1099511627775,2199023255551,4398046511103] _ rfl (by kernel_rfl) (by kernel_rfl) St.drawn (fun _ h=>h) ?_
   iterate 2 refine ZA ?_
   refine Xb rfl rfl rfl rfl F.elem35 (by rfl) (by omega) (by exact SlM.plain (by assumption) (by (simp;omega))) rfl ?_;refine Xk rfl rfl rfl (by exact SlM.plain (by assumption) (by (simp;omega))) F.foff49_1 rfl ?_;refine XQ rfl rfl rfl (by assumption) (by exact Wr (by omega)) F.lay44 rfl rfl rfl ?_;refine X_fs rfl rfl F.ok30 rfl (IsL_ok _ s_l[k].letter (hs1 s_l[k] (List.getElem_mem (l:=s_l) (by omega))).h0) rfl ?_
   rintro _ hv
   rw [decide_eq_true f1] at hv
   subst hv
   refine Xp ?_;refine ZA ?_
   refine Yj 19 rfl (fun hc3=>?_) (fun hc3=>?_)
   ·skip
    (exfalso;first|(simp [eqX] at hc3;done)|(simp_all;done))
   ·skip
    iterate 2 refine ZA ?_
    refine Xb rfl rfl rfl rfl F.elem35 (by rfl) (by omega) (by exact SlM.plain (by assumption) (by (simp;omega))) rfl ?_;refine Xk rfl rfl rfl (by exact SlM.plain (by assumption) (by (simp;omega))) F.foff49_1 rfl ?_;refine Xk rfl rfl rfl (by exact SlM.plain (by assumption) (by (simp;omega))) F.foff44_1 rfl ?_;refine XQ rfl rfl rfl (by assumption) (by exact Wr (by omega)) F.lay25 rfl rfl rfl ?_;refine ZI F.lay25 ?_
    refine Wu (m:=20) rfl rfl rfl rfl rfl (by constructor) (by constructor) F.lay25 F.kinds25 rfl F.guard25 (by exact Xj _) (by exact Xj (⟨_,_⟩)) rfl rfl rfl ?_;intro c4 he5
    replace he5:c4=true↔¬(Segs.cells _=Segs.cells _):=he5
    obtain rfl:=neD he5 (ZC.inj (x:=⟨_,_⟩) (y:=⟨_,_⟩));clear he5
    refine ZU ?_;refine ZA ?_
    refine Yj 29 rfl (fun hc6=>?_) (fun hc6=>?_)
    ·replace hc6:=nT hc6
     simp only [ZC.eta,ZR.eta,ZP.eta,ZN.eta,Yr.eta,ZQ.eta,YN.eta,ZY.eta] at hc6
     simp only [List.get_eq_getElem] at hc6
     (exfalso;first|(simp [eqX] at hc6;done)|(simp_all;done))
    ·replace hc6:=nF hc6
     simp only [ZC.eta,ZR.eta,ZP.eta,ZN.eta,Yr.eta,ZQ.eta,YN.eta,ZY.eta] at hc6
     simp only [List.get_eq_getElem] at hc6
     iterate 2 refine ZA ?_
     refine Xb rfl rfl rfl rfl F.elem35 (by rfl) (by omega) (by exact SlM.plain (by assumption) (by (simp;omega))) rfl ?_;refine Xk rfl rfl rfl (by exact SlM.plain (by assumption) (by (simp;omega))) F.foff49_0 rfl ?_;refine XQ rfl rfl rfl (by assumption) (by exact Wr (by omega)) F.lay3 rfl rfl rfl ?_;refine Zk F.foff25_0 ?_;refine ZI F.lay3 ?_;refine YA ?_;refine ZU ?_;refine ZA ?_
     refine Yj 39 rfl (fun hc7=>?_) (fun hc7=>?_)
     ·replace hc7:=dT hc7
      simp only [List.get_eq_getElem] at hc7
      (exfalso;omega)
     ·replace hc7:=dF hc7
      simp only [List.get_eq_getElem] at hc7
      iterate 2 refine ZA ?_
      refine Xb rfl rfl rfl rfl F.elem35 (by rfl) (by omega) (by exact SlM.plain (by assumption) (by (simp;omega))) rfl ?_;refine Xk rfl rfl rfl (by exact SlM.plain (by assumption) (by (simp;omega))) F.foff49_0 rfl ?_;refine XQ rfl rfl rfl (by assumption) (by exact Wr (by omega)) F.lay3 rfl rfl rfl ?_;refine YA ?_;refine ZU ?_;refine ZA ?_
      refine Yj 47 rfl (fun hc8=>?_) (fun hc8=>?_)
      ·replace hc8:=dT hc8
       simp only [List.get_eq_getElem] at hc8
       (exfalso;omega)
      ·replace hc8:=dF hc8
       simp only [List.get_eq_getElem] at hc8
       iterate 2 refine ZA ?_
       refine Xb rfl rfl rfl rfl F.elem35 (by rfl) (by omega) (by exact SlM.plain (by assumption) (by (simp;omega))) rfl ?_;refine Xk rfl rfl rfl (by exact SlM.plain (by assumption) (by (simp;omega))) F.foff49_0 rfl ?_;refine XQ rfl rfl rfl (by assumption) (by exact Wr (by omega)) F.lay3 rfl rfl rfl ?_;refine YA ?_;refine ZU ?_;refine Zz (Zs ?_)
       refine YB rfl (fun hc9=>?_) (fun hc9=>?_)
       ·replace hc9:=dT hc9
        simp only [List.get_eq_getElem] at hc9
        (exfalso;omega)
       ·replace hc9:=dF hc9
        simp only [List.get_eq_getElem] at hc9
        refine Yy (XY (Zs (Zq (l:=[0,1,2]) rfl ?_)));refine ZA ?_;refine XS rfl rfl rfl rfl rfl (by exact Xn (by decide) (by omega)) rfl ?_;refine ZG ?_;refine Zz ?_;refine K_roundS (a':=[(5,_)]) (k+1) (.cons (k:=5) rfl (.cons (k:=4) rfl (.cons (k:=3) rfl (.cons (k:=0) rfl (.nil))))) (fun w hw=>by first|exact hw|exact hw.c) ?_ ?_
        ·refine ⟨rfl,by omega,?_⟩
         trivial
        ·omega
  ·replace hc2:=dF hc2
   refine XX ?_
   iterate 2 refine XT ?_
   refine Wq (Zs (Y_pk [4] ?_));refine ZJ (Zq (l:=[0]) rfl ?_);refine ZG ?_;refine Zz (Zs (Yv ?_))
   refine Yk (.inr rfl) (.tmp rfl .nil) (fun w hw=>?_)
   refine ⟨_,rfl,(hw.c),?_⟩
   clear hw
   rfl
theorem lawStays_ok (M:Mem) (n:ZP) (l:ZN) (kind:Int) (hn0:ZP.ok M n) (hl1:ZN.ok M l):Esp.Fn Tryz.prog 8 [n.enc,l.enc,.int .i64 kind] M (fun _ v=>v=.bool true):=by
  obtain ⟨⟨⟨Za,Zc⟩,⟨Zd,Zh⟩,⟨Zj,Zi,Zg⟩,⟨Zf,Ze,Zb⟩⟩,Zt,Zr,ZE,Zy,ZM,ZB,Zw,Zu,Zn,Zx,Zm,Zv,⟨Zp,Zo,Zl⟩,ZD,ZF⟩:=n
  obtain ⟨Yc,⟨ZS,Yq⟩,YM,l_id,⟨Yb,Ya,ZO⟩,YC,⟨ZL,ZV⟩,⟨ZZ,ZX,ZK⟩⟩:=l
  have Yh:ZR.ok M ⟨⟨Za,Zc⟩,⟨Zd,Zh⟩,⟨Zj,Zi,Zg⟩,⟨Zf,Ze,Zb⟩⟩:=hn0.h0
  have YS:SlK M ZC.segs 21 ⟨Zj,Zi,Zg⟩:=hn0.h0.h0
  have s_n_table_succ:SlM M Zj (Zg.map ZC.segs) 21:=YS.h1
  have n_n_table_succ:(Zg.map ZC.segs).length=Zg.length:=List.length_map ..
  have m_n_table_succ:Zg.length≤9223372036854775807:=YS.h2
  have c_n_table_succ:Zg.length≤Zi:=YS.h3
  have YG:SlK M ZC.segs 21 ⟨Zf,Ze,Zb⟩:=hn0.h0.h1
  have s_n_table_fingers:SlM M Zf (Zb.map ZC.segs) 21:=YG.h1
  have n_n_table_fingers:(Zb.map ZC.segs).length=Zb.length:=List.length_map ..
  have m_n_table_fingers:Zb.length≤9223372036854775807:=YG.h2
  have c_n_table_fingers:Zb.length≤Ze:=YG.h3
  have Yp:SlK M (oneI .i64) 1 ⟨Zp,Zo,Zl⟩:=hn0.h1
  have s_n_avoid:SlM M Zp (Zl.map (oneI .i64)) 1:=Yp.h1
  have n_n_avoid:(Zl.map (oneI .i64)).length=Zl.length:=List.length_map ..
  have m_n_avoid:Zl.length≤9223372036854775807:=Yp.h2
  have c_n_avoid:Zl.length≤Zo:=Yp.h3
  have Xm:SlK M (oneI .i64) 1 ⟨Yb,Ya,ZO⟩:=hl1.h0
  have s_l_avoid:SlM M Yb (ZO.map (oneI .i64)) 1:=Xm.h1
  have n_l_avoid:(ZO.map (oneI .i64)).length=ZO.length:=List.length_map ..
  have m_l_avoid:ZO.length≤9223372036854775807:=Xm.h2
  have c_l_avoid:ZO.length≤Ya:=Xm.h3
  have YZ:SlK M ZC.segs 21 ⟨ZZ,ZX,ZK⟩:=hl1.h1
  have XI:SlM M ZZ (ZK.map ZC.segs) 21:=YZ.h1
  have WA:(ZK.map ZC.segs).length=ZK.length:=List.length_map ..
  have m_l_peers:ZK.length≤9223372036854775807:=YZ.h2
  have WB:ZK.length≤ZX:=YZ.h3
  obtain ⟨⟨T1,T2,T3⟩,hT⟩:∃ x,Vp (ZP.nd ⟨⟨⟨Za,Zc⟩,⟨Zd,Zh⟩,⟨Zj,Zi,Zg⟩,⟨Zf,Ze,Zb⟩⟩,Zt,Zr,ZE,Zy,ZM,ZB,Zw,Zu,Zn,Zx,Zm,Zv,⟨Zp,Zo,Zl⟩,ZD,ZF⟩) kind=x:=⟨_,rfl⟩
  obtain ⟨⟨U1,U2,U3⟩,hU⟩:∃ x,Vq (ZP.nd ⟨⟨⟨Za,Zc⟩,⟨Zd,Zh⟩,⟨Zj,Zi,Zg⟩,⟨Zf,Ze,Zb⟩⟩,Zt,Zr,ZE,Zy,ZM,ZB,Zw,Zu,Zn,Zx,Zm,Zv,⟨Zp,Zo,Zl⟩,ZD,ZF⟩) (ZN.lt ⟨Yc,⟨ZS,Yq⟩,YM,l_id,⟨Yb,Ya,ZO⟩,YC,⟨ZL,ZV⟩,⟨ZZ,ZX,ZK⟩⟩)=x:=⟨_,rfl⟩
  obtain ⟨⟨V1,V2⟩,hV⟩:∃ x,leaveN (ZP.nd ⟨⟨⟨Za,Zc⟩,⟨Zd,Zh⟩,⟨Zj,Zi,Zg⟩,⟨Zf,Ze,Zb⟩⟩,Zt,Zr,ZE,Zy,ZM,ZB,Zw,Zu,Zn,Zx,Zm,Zv,⟨Zp,Zo,Zl⟩,ZD,ZF⟩)=x:=⟨_,rfl⟩
  refine WE Tryz.func8 rfl Tryz.ntmps8 rfl ?_;intro H
  refine ZJ (Zq (l:=[0,1,2]) rfl ?_)
  refine Xl ?_;intro b1
  refine Xl ?_;intro b2
  refine ZG ?_;refine Zz (Zs (Y_pk [6,4,3,2] ?_))
  iterate 2 refine ZJ ?_
  refine Zq (l:=[0,1,2,3,4,5,6,7,8,9,10]) rfl ?_;refine ZI F.lay32 ?_;refine X_fs rfl rfl F.ok9 rfl (BigN_ok _ ⟨⟨⟨Za,Zc⟩,⟨Zd,Zh⟩,⟨Zj,Zi,Zg⟩,⟨Zf,Ze,Zb⟩⟩,Zt,Zr,ZE,Zy,ZM,ZB,Zw,Zu,Zn,Zx,Zm,Zv,⟨Zp,Zo,Zl⟩,ZD,ZF⟩ hn0) rfl ?_
  rintro _ ⟨bi,rfl,hbi⟩
  refine ZA ?_
  refine Yj 17 rfl (fun hc3=>?_) (fun hc3=>?_)
  ·skip
   iterate 2 refine Yw ?_
   refine ZU ?_;refine ZA ?_
   iterate 3 refine Yw ?_
   refine ZU ?_;refine Zz (Zs (Y_pk [25,6,4,3,2] ?_));refine Xq rfl ?_;refine ZJ (Zq (l:=[0,1]) rfl ?_);refine X_fn rfl rfl F.ok13 rfl (noded_ok _) rfl ?_
   rintro _ M99 hm99 rfl
   refine ZG ?_;refine Zz (Zs (Y_pk [6,4,3,2] ?_));refine Yv (Xc ?_)
   refine Yk (.inr rfl) (.tmp rfl .nil) (fun w hw=>?_)
   refine ⟨_,_,rfl,(by assumption),hw.c,?_⟩
   clear hw
   rfl
  ·skip
   refine ZI F.lay44 ?_;refine X_fs rfl rfl F.ok16 rfl (BigL_ok _ ⟨Yc,⟨ZS,Yq⟩,YM,l_id,⟨Yb,Ya,ZO⟩,YC,⟨ZL,ZV⟩,⟨ZZ,ZX,ZK⟩⟩ hl1) rfl ?_
   rintro _ ⟨bj,rfl,hbj⟩
   refine ZU ?_;refine ZA ?_
   refine Yj 21 rfl (fun hc4=>?_) (fun hc4=>?_)
   ·skip
    iterate 3 refine Yw ?_
    refine ZU ?_;refine Zz (Zs (Y_pk [25,6,4,3,2] ?_));refine Xq rfl ?_;refine ZJ (Zq (l:=[0,1]) rfl ?_);refine X_fn rfl rfl F.ok13 rfl (noded_ok _) rfl ?_
    rintro _ M99 hm99 rfl
    refine ZG ?_;refine Zz (Zs (Y_pk [6,4,3,2] ?_));refine Yv (Xc ?_)
    refine Yk (.inr rfl) (.tmp rfl .nil) (fun w hw=>?_)
    refine ⟨_,_,rfl,(by assumption),hw.c,?_⟩
    clear hw
    rfl
   ·skip
    refine ZI F.lay32 ?_;refine X_fs rfl rfl F.ok27 rfl (IsN_ok _ ⟨⟨⟨Za,Zc⟩,⟨Zd,Zh⟩,⟨Zj,Zi,Zg⟩,⟨Zf,Ze,Zb⟩⟩,Zt,Zr,ZE,Zy,ZM,ZB,Zw,Zu,Zn,Zx,Zm,Zv,⟨Zp,Zo,Zl⟩,ZD,ZF⟩ hn0) rfl ?_
    rintro _ rfl
    refine Xp ?_;refine ZU ?_;refine Zz (Zs (Y_pk [25,6,4,3,2] ?_))
    refine YB rfl (fun hc5=>?_) (fun hc5=>?_)
    ·replace hc5:=nT hc5
     refine ZJ (Zq (l:=[0,1]) rfl ?_);refine X_fn rfl rfl F.ok13 rfl (noded_ok _) rfl ?_
     rintro _ M99 hm99 rfl
     refine ZG ?_;refine Zz (Zs (Y_pk [6,4,3,2] ?_));refine Yv (Xc ?_)
     refine Yk (.inr rfl) (.tmp rfl .nil) (fun w hw=>?_)
     refine ⟨_,_,rfl,(by assumption),hw.c,?_⟩
     clear hw
     rfl
    ·replace hc5:=nF hc5
     refine Yy (Zs (Y_pk [6,4,3,2] ?_));refine ZJ ?_
     have hnd9:IsNd (ZP.nd ⟨⟨⟨Za,Zc⟩,⟨Zd,Zh⟩,⟨Zj,Zi,Zg⟩,⟨Zf,Ze,Zb⟩⟩,Zt,Zr,ZE,Zy,ZM,ZB,Zw,Zu,Zn,Zx,Zm,Zv,⟨Zp,Zo,Zl⟩,ZD,ZF⟩):=(by assumption)
     obtain ⟨hT1,hT2⟩:=tick_law hnd9 hT
     obtain ⟨hU1,hU2⟩:=take_law hnd9 hU
     obtain ⟨hV1,hV2,hV3⟩:=leave_law hnd9 hV
     simp only at hT1 hT2 hU1 hU2 hV1 hV2 hV3
     refine Zq (l:=[0,1,2,3,4,5,6,7,8,9,10]) rfl ?_;refine ZI F.lay32 ?_;refine ZA ?_;refine X_fn rfl rfl F.ok11 rfl (Tick_ok _ ⟨⟨⟨Za,Zc⟩,⟨Zd,Zh⟩,⟨Zj,Zi,Zg⟩,⟨Zf,Ze,Zb⟩⟩,Zt,Zr,ZE,Zy,ZM,ZB,Zw,Zu,Zn,Zx,Zm,Zv,⟨Zp,Zo,Zl⟩,ZD,ZF⟩ kind (hn0.mono (by exact Mem.le.refl _))) rfl ?_
     rintro _ M1 hm1 hv
     rw [show Vp (ZP.nd ⟨⟨⟨Za,Zc⟩,⟨Zd,Zh⟩,⟨Zj,Zi,Zg⟩,⟨Zf,Ze,Zb⟩⟩,Zt,Zr,ZE,Zy,ZM,ZB,Zw,Zu,Zn,Zx,Zm,Zv,⟨Zp,Zo,Zl⟩,ZD,ZF⟩) kind=_ from hT] at hv
     simp only [NtE] at hv
     obtain ⟨⟨⟨⟨a_table_self_addr,a_table_self_id⟩,⟨a_table_pred_addr,a_table_pred_id⟩,⟨a_table_succ_a,a_table_succ_c,a_table_succ_l⟩,⟨a_table_fingers_a,a_table_fingers_c,a_table_fingers_l⟩⟩,a_copies,a_joined,a_boot,a_cursor,a_req,a_askTo,a_askReq,a_pingTo,a_pingReq,a_findTo,a_findReq,a_findID,⟨a_avoid_a,a_avoid_c,a_avoid_l⟩,a_hops,a_turn⟩,⟨a_a,a_c,a_l⟩,rfl,ea,sa,oka,ka,la⟩:=hv
     try simp only at ea sa ka la
     refine ZA ?_
     iterate 3 refine XA ?_
     refine YT F.zero32 ?_;intro b6
     refine XU F.lay32 ?_
     iterate 2 refine ZG ?_
     refine Zz (Zs (Y_pk [9,8,7,6,4,3,2] ?_));refine ZJ (Zq (l:=[0,1,2,3,4,5,6,7,8,9,10]) rfl ?_);refine ZI F.lay32 ?_;refine ZI F.lay44 ?_;refine X_fn rfl rfl F.ok17 rfl (Take_ok _ ⟨⟨⟨Za,Zc⟩,⟨Zd,Zh⟩,⟨Zj,Zi,Zg⟩,⟨Zf,Ze,Zb⟩⟩,Zt,Zr,ZE,Zy,ZM,ZB,Zw,Zu,Zn,Zx,Zm,Zv,⟨Zp,Zo,Zl⟩,ZD,ZF⟩ ⟨Yc,⟨ZS,Yq⟩,YM,l_id,⟨Yb,Ya,ZO⟩,YC,⟨ZL,ZV⟩,⟨ZZ,ZX,ZK⟩⟩ (hn0.mono (by assumption)) (hl1.mono (by assumption))) rfl ?_
     rintro _ M2 hm2 hv
     rw [show Vq (ZP.nd ⟨⟨⟨Za,Zc⟩,⟨Zd,Zh⟩,⟨Zj,Zi,Zg⟩,⟨Zf,Ze,Zb⟩⟩,Zt,Zr,ZE,Zy,ZM,ZB,Zw,Zu,Zn,Zx,Zm,Zv,⟨Zp,Zo,Zl⟩,ZD,ZF⟩) (ZN.lt ⟨Yc,⟨ZS,Yq⟩,YM,l_id,⟨Yb,Ya,ZO⟩,YC,⟨ZL,ZV⟩,⟨ZZ,ZX,ZK⟩⟩)=_ from hU] at hv
     simp only [NtE] at hv
     obtain ⟨⟨⟨⟨b_table_self_addr,b_table_self_id⟩,⟨b_table_pred_addr,b_table_pred_id⟩,⟨b_table_succ_a,b_table_succ_c,b_table_succ_l⟩,⟨b_table_fingers_a,b_table_fingers_c,b_table_fingers_l⟩⟩,b_copies,b_joined,b_boot,b_cursor,b_req,b_askTo,b_askReq,b_pingTo,b_pingReq,b_findTo,b_findReq,b_findID,⟨b_avoid_a,b_avoid_c,b_avoid_l⟩,b_hops,b_turn⟩,⟨b_a,b_c,b_l⟩,rfl,eb,sb,okb,kb,lb⟩:=hv
     try simp only at eb sb kb lb
     refine ZA ?_
     iterate 3 refine XA ?_
     refine YT F.zero32 ?_;intro b7
     refine XU F.lay32 ?_
     iterate 2 refine ZG ?_
     refine Zz (Zs (Y_pk [12,11,10,9,8,7,6,4,3,2] ?_));refine ZJ (Zq (l:=[0,1,2,3,4,5,6]) rfl ?_);refine ZI F.lay32 ?_;refine X_fn rfl rfl F.ok25 rfl (Leave_ok _ ⟨⟨⟨Za,Zc⟩,⟨Zd,Zh⟩,⟨Zj,Zi,Zg⟩,⟨Zf,Ze,Zb⟩⟩,Zt,Zr,ZE,Zy,ZM,ZB,Zw,Zu,Zn,Zx,Zm,Zv,⟨Zp,Zo,Zl⟩,ZD,ZF⟩ (hn0.mono (by (repeat first|assumption|refine Mem.le.trans (by assumption) ?_)))) rfl ?_
     rintro _ M3 hm3 hv
     rw [hV] at hv
     simp only [LvE] at hv
     obtain ⟨⟨s_a,s_c,s_l⟩,rfl,ss,ks,ls⟩:=hv
     try simp only at ss ks ls
     have qs6:s_l.length≤2:=by rw [← sndl_len,ss];exact hV3
     refine ZA ?_
     iterate 2 refine XA ?_
     iterate 2 refine ZG ?_
     refine Zz (Zs (Y_pk [14,13,12,11,10,9,8,7,6,4,3,2] ?_))
     iterate 2 refine ZJ ?_
     refine Zq (l:=[0,1,2,3,4,5,6,7,8,9,10,11,12,13,14,15,16,17,18,19,20,21,22,23,24,25,26,27,28]) rfl ?_;refine ZA ?_;refine YA ?_;refine ZA ?_
     refine Yj 48 rfl (fun hc8=>?_) (fun hc8=>?_)
     ·replace hc8:=dT hc8
      refine ZI F.lay32 ?_;refine X_fs rfl rfl F.ok27 rfl (IsN_ok _ ⟨⟨⟨a_table_self_addr,a_table_self_id⟩,⟨a_table_pred_addr,a_table_pred_id⟩,⟨a_table_succ_a,a_table_succ_c,a_table_succ_l⟩,⟨a_table_fingers_a,a_table_fingers_c,a_table_fingers_l⟩⟩,a_copies,a_joined,a_boot,a_cursor,a_req,a_askTo,a_askReq,a_pingTo,a_pingReq,a_findTo,a_findReq,a_findID,⟨a_avoid_a,a_avoid_c,a_avoid_l⟩,a_hops,a_turn⟩ (oka.mono (by (repeat first|assumption|refine Mem.le.trans (by assumption) ?_)))) rfl ?_
      rintro _ hv
      obtain ⟨qa1,qa2,qa3,qa4⟩:=hT2 (by assumption)
      simp only at qa1 qa2 qa3 qa4
      rw [decide_eq_true (show IsNd (ZP.nd ⟨⟨⟨a_table_self_addr,a_table_self_id⟩,⟨a_table_pred_addr,a_table_pred_id⟩,⟨a_table_succ_a,a_table_succ_c,a_table_succ_l⟩,⟨a_table_fingers_a,a_table_fingers_c,a_table_fingers_l⟩⟩,a_copies,a_joined,a_boot,a_cursor,a_req,a_askTo,a_askReq,a_pingTo,a_pingReq,a_findTo,a_findReq,a_findID,⟨a_avoid_a,a_avoid_c,a_avoid_l⟩,a_hops,a_turn⟩) from by rw [ea];exact qa1)] at hv
      subst hv
      have qa5:(⟨a_table_self_addr,a_table_self_id⟩:ZC)=⟨Za,Zc⟩:=(congrArg (fun n:Nd=>n.table.self) ea).trans qa2
      have qa6:a_l.length≤1:=by rw [← sndl_len,sa];exact qa4
      refine Xp ?_;refine ZA ?_
      refine Yj 52 rfl (fun hc9=>?_) (fun hc9=>?_)
      ·skip
       (exfalso;first|(simp [eqX] at hc9;done)|contradiction|(simp_all;done)|(simp_all;omega))
      ·skip
       refine Zk F.foff32_0 ?_;refine Zk F.foff28_0 ?_;refine ZI F.lay25 ?_;refine Zk F.foff32_0 ?_;refine Zk F.foff28_0 ?_;refine ZI F.lay25 ?_
       refine Wu (m:=20) rfl rfl rfl rfl rfl (by constructor) (by constructor) F.lay25 F.kinds25 rfl F.guard25 (by exact Xj (⟨_,_⟩)) (by exact Xj (⟨_,_⟩)) rfl rfl rfl ?_;intro c10 he11
       replace he11:c10=true↔¬(Segs.cells _=Segs.cells _):=he11
       obtain rfl:=neD he11 (ZC.inj (x:=⟨_,_⟩) (y:=⟨_,_⟩));clear he11
       refine ZU ?_;refine ZA ?_
       refine Yj 61 rfl (fun hc12=>?_) (fun hc12=>?_)
       ·replace hc12:=nT hc12
        (exfalso;first|(simp [eqX] at hc12;done)|contradiction|(simp_all;done)|(simp_all;omega))
       ·replace hc12:=nF hc12
        refine ZA ?_;refine Zk F.foff32_0 ?_;refine Zk F.foff28_0 ?_;refine ZI F.lay25 ?_;refine X_fs rfl rfl F.ok29 rfl (fair_ok _ ⟨a_a,a_c,a_l⟩ ⟨Za,Zc⟩ (ka.mono (by (repeat first|assumption|refine Mem.le.trans (by assumption) ?_))) (fun h hh=>(la h hh).mono (by (repeat first|assumption|refine Mem.le.trans (by assumption) ?_))) (fun y hy=>qa3 y (sa ▸ hy))) rfl ?_
        rintro _ rfl
        refine Xp ?_;refine ZU ?_;refine ZA ?_
        refine Yj 69 rfl (fun hc13=>?_) (fun hc13=>?_)
        ·skip
         (exfalso;first|(simp [eqX] at hc13;done)|contradiction|(simp_all;done)|(simp_all;omega))
        ·skip
         refine ZA ?_;refine Xa F.elem35 ?_;refine YA ?_
         iterate 2 refine ZU ?_
         refine Zz (Zs (Y_pk [74,14,13,12,11,10,9,6,4,3,2] ?_))
         refine YB rfl (fun hc14=>?_) (fun hc14=>?_)
         ·replace hc14:=dT hc14
          (exfalso;omega)
         ·replace hc14:=dF hc14
          refine Yy (Zs (Y_pk [14,13,12,11,10,9,6,4,3,2] ?_))
          iterate 2 refine ZJ ?_
          refine Zq (l:=[0,1,2,3,4,5,6,7,8,9,10,11,12,13,14,15,16,17,18,19,20,21,22,23,24,25,26,27,28]) rfl ?_;refine ZA ?_;refine YA ?_;refine ZA ?_
          refine Yj 77 rfl (fun hc15=>?_) (fun hc15=>?_)
          ·replace hc15:=dT hc15
           refine ZI F.lay32 ?_;refine X_fs rfl rfl F.ok27 rfl (IsN_ok _ ⟨⟨⟨b_table_self_addr,b_table_self_id⟩,⟨b_table_pred_addr,b_table_pred_id⟩,⟨b_table_succ_a,b_table_succ_c,b_table_succ_l⟩,⟨b_table_fingers_a,b_table_fingers_c,b_table_fingers_l⟩⟩,b_copies,b_joined,b_boot,b_cursor,b_req,b_askTo,b_askReq,b_pingTo,b_pingReq,b_findTo,b_findReq,b_findID,⟨b_avoid_a,b_avoid_c,b_avoid_l⟩,b_hops,b_turn⟩ (okb.mono (by assumption))) rfl ?_
           rintro _ hv
           obtain ⟨qb1,qb2,qb3,qb4⟩:=hU2 (by assumption)
           simp only at qb1 qb2 qb3 qb4
           rw [decide_eq_true (show IsNd (ZP.nd ⟨⟨⟨b_table_self_addr,b_table_self_id⟩,⟨b_table_pred_addr,b_table_pred_id⟩,⟨b_table_succ_a,b_table_succ_c,b_table_succ_l⟩,⟨b_table_fingers_a,b_table_fingers_c,b_table_fingers_l⟩⟩,b_copies,b_joined,b_boot,b_cursor,b_req,b_askTo,b_askReq,b_pingTo,b_pingReq,b_findTo,b_findReq,b_findID,⟨b_avoid_a,b_avoid_c,b_avoid_l⟩,b_hops,b_turn⟩) from by rw [eb];exact qb1)] at hv
           subst hv
           have qb5:(⟨b_table_self_addr,b_table_self_id⟩:ZC)=⟨Za,Zc⟩:=(congrArg (fun n:Nd=>n.table.self) eb).trans qb2
           have qb6:b_l.length≤1:=by rw [← sndl_len,sb];exact qb4
           refine Xp ?_;refine ZA ?_
           refine Yj 81 rfl (fun hc16=>?_) (fun hc16=>?_)
           ·skip
            (exfalso;first|(simp [eqX] at hc16;done)|contradiction|(simp_all;done)|(simp_all;omega))
           ·skip
            refine Zk F.foff32_0 ?_;refine Zk F.foff28_0 ?_;refine ZI F.lay25 ?_;refine Zk F.foff32_0 ?_;refine Zk F.foff28_0 ?_;refine ZI F.lay25 ?_
            refine Wu (m:=20) rfl rfl rfl rfl rfl (by constructor) (by constructor) F.lay25 F.kinds25 rfl F.guard25 (by exact Xj (⟨_,_⟩)) (by exact Xj (⟨_,_⟩)) rfl rfl rfl ?_;intro c17 he18
            replace he18:c17=true↔¬(Segs.cells _=Segs.cells _):=he18
            obtain rfl:=neD he18 (ZC.inj (x:=⟨_,_⟩) (y:=⟨_,_⟩));clear he18
            refine ZU ?_;refine ZA ?_
            refine Yj 90 rfl (fun hc19=>?_) (fun hc19=>?_)
            ·replace hc19:=nT hc19
             (exfalso;first|(simp [eqX] at hc19;done)|contradiction|(simp_all;done)|(simp_all;omega))
            ·replace hc19:=nF hc19
             refine ZA ?_;refine Zk F.foff32_0 ?_;refine Zk F.foff28_0 ?_;refine ZI F.lay25 ?_;refine X_fs rfl rfl F.ok29 rfl (fair_ok _ ⟨b_a,b_c,b_l⟩ ⟨Za,Zc⟩ (kb.mono (by assumption)) (fun h hh=>(lb h hh).mono (by assumption)) (fun y hy=>qb3 y (sb ▸ hy))) rfl ?_
             rintro _ rfl
             refine Xp ?_;refine ZU ?_;refine ZA ?_
             refine Yj 98 rfl (fun hc20=>?_) (fun hc20=>?_)
             ·skip
              (exfalso;first|(simp [eqX] at hc20;done)|contradiction|(simp_all;done)|(simp_all;omega))
             ·skip
              refine ZA ?_;refine Xa F.elem35 ?_;refine YA ?_
              iterate 2 refine ZU ?_
              refine Zz (Zs (Y_pk [103,14,13,12,9,6,4,3,2] ?_))
              refine YB rfl (fun hc21=>?_) (fun hc21=>?_)
              ·replace hc21:=dT hc21
               (exfalso;omega)
              ·replace hc21:=dF hc21
               refine Yy (Zs (Y_pk [14,13,12,9,6,4,3,2] ?_));refine ZJ (Zq (l:=[0,1,2,3,4,5,6,7,8,9,10,11,12,13,14,15,16,17,18,19,20,21,22,23,24,25,26,27,28,29,30,31,32,33,34,35]) rfl ?_);refine X_fn rfl rfl F.ok13 rfl (noded_ok _) rfl ?_
               rintro _ M99 hm99 rfl
               refine ZA ?_
               refine Yj 105 rfl (fun hc22=>?_) (fun hc22=>?_)
               ·skip
                simp only [ZC.eta,ZR.eta,ZP.eta,ZN.eta,Yr.eta,ZQ.eta,YN.eta,ZY.eta] at hc22
                refine ZA ?_;refine YA ?_;refine ZA ?_;refine YA ?_;refine ZA ?_
                refine Yj 110 rfl (fun hc23=>?_) (fun hc23=>?_)
                ·replace hc23:=dT hc23
                 refine ZA ?_;refine YA ?_;refine ZU ?_;refine VN rfl rfl rfl rfl rfl Tryz.underlying4 rfl ?_;refine ZU ?_;refine ZA ?_
                 refine Yj 116 rfl (fun hc24=>?_) (fun hc24=>?_)
                 ·replace hc24:=dT hc24
                  refine ZA ?_;refine YA ?_;refine ZI F.lay44 ?_;refine X_fs rfl rfl F.ok30 rfl (IsL_ok _ ⟨Yc,⟨ZS,Yq⟩,YM,l_id,⟨Yb,Ya,ZO⟩,YC,⟨ZL,ZV⟩,⟨ZZ,ZX,ZK⟩⟩ (hl1.mono (by (repeat first|assumption|refine Mem.le.trans (by assumption) ?_)))) rfl ?_
                  rintro _ rfl
                  refine VN rfl rfl rfl rfl rfl Tryz.underlying4 rfl ?_;refine ZU ?_;refine ZA ?_
                  refine Yj 123 rfl (fun hc25=>?_) (fun hc25=>?_)
                  ·replace hc25:=dT hc25
                   refine ZA ?_;refine YA ?_;refine ZU ?_;refine ZA ?_
                   refine Yj 127 rfl (fun hc26=>?_) (fun hc26=>?_)
                   ·replace hc26:=dT hc26
                    refine ZA ?_;refine Zk F.foff32_0 ?_;refine Zk F.foff28_0 ?_;refine ZI F.lay25 ?_;refine X_fs rfl rfl F.ok29 rfl (fair_ok _ ⟨s_a,s_c,s_l⟩ ⟨Za,Zc⟩ (ks.mono (by assumption)) (fun h hh=>(ls h hh).mono (by assumption)) (fun y hy=>hV2 y (ss ▸ hy))) rfl ?_
                    rintro _ rfl
                    refine ZU ?_;refine ZA ?_
                    refine Yj 134 rfl (fun hc27=>?_) (fun hc27=>?_)
                    ·skip
                     simp only [ZC.eta,ZR.eta,ZP.eta,ZN.eta,Yr.eta,ZQ.eta,YN.eta,ZY.eta] at hc27
                     refine ZA ?_;refine Xa F.elem35 ?_;refine YA ?_;refine ZU ?_;refine ZG ?_;refine Zz (Zs (Y_pk [6] ?_));refine Yv ?_
                     refine Yk (.inr rfl) (.tmp rfl .nil) (fun w hw=>?_)
                     refine ⟨_,_,rfl,(by exact (((hm1.trans hm2).trans hm3).trans hm99)),hw.c,?_⟩
                     clear hw
                     exact congrArg Value.bool (decide_eq_true (by omega))
                    ·skip
                     (exfalso;first|(simp [eqX] at hc27;done)|contradiction|(simp_all;done)|(simp_all;omega))
                   ·replace hc26:=dF hc26
                    (exfalso;omega)
                  ·replace hc25:=dF hc25
                   (exfalso;first|(simp [eqX] at hc25;done)|contradiction|(simp_all;done)|(simp_all;omega))
                 ·replace hc24:=dF hc24
                  (exfalso;first|(simp [eqX] at hc24;done)|contradiction|(simp_all;done)|(simp_all;omega))
                ·replace hc23:=dF hc23
                 (exfalso;omega)
               ·skip
                (exfalso;first|(simp [eqX] at hc22;done)|contradiction|(simp_all;done)|(simp_all;omega))
          ·replace hc15:=dF hc15
           iterate 25 refine Yw ?_
           refine ZU ?_;refine Zz (Zs (Y_pk [103,14,13,12,9,6,4,3,2] ?_));refine Wd rfl ?_;refine Yy (Zs (Y_pk [14,13,12,9,6,4,3,2] ?_));refine ZJ (Zq (l:=[0,1,2,3,4,5,6,7,8,9,10,11,12,13,14,15,16,17,18,19,20,21,22,23,24,25,26,27,28,29,30,31,32,33,34,35]) rfl ?_);refine X_fn rfl rfl F.ok13 rfl (noded_ok _) rfl ?_
           rintro _ M99 hm99 rfl
           refine ZA ?_
           refine Yj 105 rfl (fun hc32=>?_) (fun hc32=>?_)
           ·skip
            simp only [ZC.eta,ZR.eta,ZP.eta,ZN.eta,Yr.eta,ZQ.eta,YN.eta,ZY.eta] at hc32
            refine ZA ?_;refine YA ?_;refine ZA ?_;refine YA ?_;refine ZA ?_
            refine Yj 110 rfl (fun hc33=>?_) (fun hc33=>?_)
            ·replace hc33:=dT hc33
             refine ZA ?_;refine YA ?_;refine ZU ?_;refine VN rfl rfl rfl rfl rfl Tryz.underlying4 rfl ?_;refine ZU ?_;refine ZA ?_
             refine Yj 116 rfl (fun hc34=>?_) (fun hc34=>?_)
             ·replace hc34:=dT hc34
              refine ZA ?_;refine YA ?_;refine ZI F.lay44 ?_;refine X_fs rfl rfl F.ok30 rfl (IsL_ok _ ⟨Yc,⟨ZS,Yq⟩,YM,l_id,⟨Yb,Ya,ZO⟩,YC,⟨ZL,ZV⟩,⟨ZZ,ZX,ZK⟩⟩ (hl1.mono (by (repeat first|assumption|refine Mem.le.trans (by assumption) ?_)))) rfl ?_
              rintro _ rfl
              refine VN rfl rfl rfl rfl rfl Tryz.underlying4 rfl ?_;refine ZU ?_;refine ZA ?_
              refine Yj 123 rfl (fun hc35=>?_) (fun hc35=>?_)
              ·replace hc35:=dT hc35
               refine ZA ?_;refine YA ?_;refine ZU ?_;refine ZA ?_
               refine Yj 127 rfl (fun hc36=>?_) (fun hc36=>?_)
               ·replace hc36:=dT hc36
                refine ZA ?_;refine Zk F.foff32_0 ?_;refine Zk F.foff28_0 ?_;refine ZI F.lay25 ?_;refine X_fs rfl rfl F.ok29 rfl (fair_ok _ ⟨s_a,s_c,s_l⟩ ⟨Za,Zc⟩ (ks.mono (by assumption)) (fun h hh=>(ls h hh).mono (by assumption)) (fun y hy=>hV2 y (ss ▸ hy))) rfl ?_
                rintro _ rfl
                refine ZU ?_;refine ZA ?_
                refine Yj 134 rfl (fun hc37=>?_) (fun hc37=>?_)
                ·skip
                 simp only [ZC.eta,ZR.eta,ZP.eta,ZN.eta,Yr.eta,ZQ.eta,YN.eta,ZY.eta] at hc37
                 refine ZA ?_;refine Xa F.elem35 ?_;refine YA ?_;refine ZU ?_;refine ZG ?_;refine Zz (Zs (Y_pk [6] ?_));refine Yv ?_
                 refine Yk (.inr rfl) (.tmp rfl .nil) (fun w hw=>?_)
                 refine ⟨_,_,rfl,(by exact (((hm1.trans hm2).trans hm3).trans hm99)),hw.c,?_⟩
                 clear hw
                 exact congrArg Value.bool (decide_eq_true (by omega))
                ·skip
                 (exfalso;first|(simp [eqX] at hc37;done)|contradiction|(simp_all;done)|(simp_all;omega))
               ·replace hc36:=dF hc36
                (exfalso;omega)
              ·replace hc35:=dF hc35
               (exfalso;first|(simp [eqX] at hc35;done)|contradiction|(simp_all;done)|(simp_all;omega))
             ·replace hc34:=dF hc34
              (exfalso;first|(simp [eqX] at hc34;done)|contradiction|(simp_all;done)|(simp_all;omega))
            ·replace hc33:=dF hc33
             (exfalso;omega)
           ·skip
            (exfalso;first|(simp [eqX] at hc32;done)|contradiction|(simp_all;done)|(simp_all;omega))
     ·replace hc8:=dF hc8
      iterate 25 refine Yw ?_
      refine ZU ?_;refine Zz (Zs (Y_pk [74,14,13,12,11,10,9,6,4,3,2] ?_));refine Wd rfl ?_;refine Yy (Zs (Y_pk [14,13,12,11,10,9,6,4,3,2] ?_))
      iterate 2 refine ZJ ?_
      refine Zq (l:=[0,1,2,3,4,5,6,7,8,9,10,11,12,13,14,15,16,17,18,19,20,21,22,23,24,25,26,27,28]) rfl ?_;refine ZA ?_;refine YA ?_;refine ZA ?_
      refine Yj 77 rfl (fun hc42=>?_) (fun hc42=>?_)
      ·replace hc42:=dT hc42
       refine ZI F.lay32 ?_;refine X_fs rfl rfl F.ok27 rfl (IsN_ok _ ⟨⟨⟨b_table_self_addr,b_table_self_id⟩,⟨b_table_pred_addr,b_table_pred_id⟩,⟨b_table_succ_a,b_table_succ_c,b_table_succ_l⟩,⟨b_table_fingers_a,b_table_fingers_c,b_table_fingers_l⟩⟩,b_copies,b_joined,b_boot,b_cursor,b_req,b_askTo,b_askReq,b_pingTo,b_pingReq,b_findTo,b_findReq,b_findID,⟨b_avoid_a,b_avoid_c,b_avoid_l⟩,b_hops,b_turn⟩ (okb.mono (by assumption))) rfl ?_
       rintro _ hv
       obtain ⟨qb1,qb2,qb3,qb4⟩:=hU2 (by assumption)
       simp only at qb1 qb2 qb3 qb4
       rw [decide_eq_true (show IsNd (ZP.nd ⟨⟨⟨b_table_self_addr,b_table_self_id⟩,⟨b_table_pred_addr,b_table_pred_id⟩,⟨b_table_succ_a,b_table_succ_c,b_table_succ_l⟩,⟨b_table_fingers_a,b_table_fingers_c,b_table_fingers_l⟩⟩,b_copies,b_joined,b_boot,b_cursor,b_req,b_askTo,b_askReq,b_pingTo,b_pingReq,b_findTo,b_findReq,b_findID,⟨b_avoid_a,b_avoid_c,b_avoid_l⟩,b_hops,b_turn⟩) from by rw [eb];exact qb1)] at hv
       subst hv
       have qb5:(⟨b_table_self_addr,b_table_self_id⟩:ZC)=⟨Za,Zc⟩:=(congrArg (fun n:Nd=>n.table.self) eb).trans qb2
       have qb6:b_l.length≤1:=by rw [← sndl_len,sb];exact qb4
       refine Xp ?_;refine ZA ?_
       refine Yj 81 rfl (fun hc43=>?_) (fun hc43=>?_)
       ·skip
        (exfalso;first|(simp [eqX] at hc43;done)|contradiction|(simp_all;done)|(simp_all;omega))
       ·skip
        refine Zk F.foff32_0 ?_;refine Zk F.foff28_0 ?_;refine ZI F.lay25 ?_;refine Zk F.foff32_0 ?_;refine Zk F.foff28_0 ?_;refine ZI F.lay25 ?_
        refine Wu (m:=20) rfl rfl rfl rfl rfl (by constructor) (by constructor) F.lay25 F.kinds25 rfl F.guard25 (by exact Xj (⟨_,_⟩)) (by exact Xj (⟨_,_⟩)) rfl rfl rfl ?_;intro c44 he45
        replace he45:c44=true↔¬(Segs.cells _=Segs.cells _):=he45
        obtain rfl:=neD he45 (ZC.inj (x:=⟨_,_⟩) (y:=⟨_,_⟩));clear he45
        refine ZU ?_;refine ZA ?_
        refine Yj 90 rfl (fun hc46=>?_) (fun hc46=>?_)
        ·replace hc46:=nT hc46
         (exfalso;first|(simp [eqX] at hc46;done)|contradiction|(simp_all;done)|(simp_all;omega))
        ·replace hc46:=nF hc46
         refine ZA ?_;refine Zk F.foff32_0 ?_;refine Zk F.foff28_0 ?_;refine ZI F.lay25 ?_;refine X_fs rfl rfl F.ok29 rfl (fair_ok _ ⟨b_a,b_c,b_l⟩ ⟨Za,Zc⟩ (kb.mono (by assumption)) (fun h hh=>(lb h hh).mono (by assumption)) (fun y hy=>qb3 y (sb ▸ hy))) rfl ?_
         rintro _ rfl
         refine Xp ?_;refine ZU ?_;refine ZA ?_
         refine Yj 98 rfl (fun hc47=>?_) (fun hc47=>?_)
         ·skip
          (exfalso;first|(simp [eqX] at hc47;done)|contradiction|(simp_all;done)|(simp_all;omega))
         ·skip
          refine ZA ?_;refine Xa F.elem35 ?_;refine YA ?_
          iterate 2 refine ZU ?_
          refine Zz (Zs (Y_pk [103,14,13,12,9,6,4,3,2] ?_))
          refine YB rfl (fun hc48=>?_) (fun hc48=>?_)
          ·replace hc48:=dT hc48
           (exfalso;omega)
          ·replace hc48:=dF hc48
           refine Yy (Zs (Y_pk [14,13,12,9,6,4,3,2] ?_));refine ZJ (Zq (l:=[0,1,2,3,4,5,6,7,8,9,10,11,12,13,14,15,16,17,18,19,20,21,22,23,24,25,26,27,28,29,30,31,32,33,34,35]) rfl ?_);refine X_fn rfl rfl F.ok13 rfl (noded_ok _) rfl ?_
           rintro _ M99 hm99 rfl
           refine ZA ?_
           refine Yj 105 rfl (fun hc49=>?_) (fun hc49=>?_)
           ·skip
            simp only [ZC.eta,ZR.eta,ZP.eta,ZN.eta,Yr.eta,ZQ.eta,YN.eta,ZY.eta] at hc49
            refine ZA ?_;refine YA ?_;refine ZA ?_;refine YA ?_;refine ZA ?_
            refine Yj 110 rfl (fun hc50=>?_) (fun hc50=>?_)
            ·replace hc50:=dT hc50
             refine ZA ?_;refine YA ?_;refine ZU ?_;refine VN rfl rfl rfl rfl rfl Tryz.underlying4 rfl ?_;refine ZU ?_;refine ZA ?_
             refine Yj 116 rfl (fun hc51=>?_) (fun hc51=>?_)
             ·replace hc51:=dT hc51
              refine ZA ?_;refine YA ?_;refine ZI F.lay44 ?_;refine X_fs rfl rfl F.ok30 rfl (IsL_ok _ ⟨Yc,⟨ZS,Yq⟩,YM,l_id,⟨Yb,Ya,ZO⟩,YC,⟨ZL,ZV⟩,⟨ZZ,ZX,ZK⟩⟩ (hl1.mono (by (repeat first|assumption|refine Mem.le.trans (by assumption) ?_)))) rfl ?_
              rintro _ rfl
              refine VN rfl rfl rfl rfl rfl Tryz.underlying4 rfl ?_;refine ZU ?_;refine ZA ?_
              refine Yj 123 rfl (fun hc52=>?_) (fun hc52=>?_)
              ·replace hc52:=dT hc52
               refine ZA ?_;refine YA ?_;refine ZU ?_;refine ZA ?_
               refine Yj 127 rfl (fun hc53=>?_) (fun hc53=>?_)
               ·replace hc53:=dT hc53
                refine ZA ?_;refine Zk F.foff32_0 ?_;refine Zk F.foff28_0 ?_;refine ZI F.lay25 ?_;refine X_fs rfl rfl F.ok29 rfl (fair_ok _ ⟨s_a,s_c,s_l⟩ ⟨Za,Zc⟩ (ks.mono (by assumption)) (fun h hh=>(ls h hh).mono (by assumption)) (fun y hy=>hV2 y (ss ▸ hy))) rfl ?_
                rintro _ rfl
                refine ZU ?_;refine ZA ?_
                refine Yj 134 rfl (fun hc54=>?_) (fun hc54=>?_)
                ·skip
                 simp only [ZC.eta,ZR.eta,ZP.eta,ZN.eta,Yr.eta,ZQ.eta,YN.eta,ZY.eta] at hc54
                 refine ZA ?_;refine Xa F.elem35 ?_;refine YA ?_;refine ZU ?_;refine ZG ?_;refine Zz (Zs (Y_pk [6] ?_));refine Yv ?_
                 refine Yk (.inr rfl) (.tmp rfl .nil) (fun w hw=>?_)
                 refine ⟨_,_,rfl,(by exact (((hm1.trans hm2).trans hm3).trans hm99)),hw.c,?_⟩
                 clear hw
                 exact congrArg Value.bool (decide_eq_true (by omega))
                ·skip
                 (exfalso;first|(simp [eqX] at hc54;done)|contradiction|(simp_all;done)|(simp_all;omega))
               ·replace hc53:=dF hc53
                (exfalso;omega)
              ·replace hc52:=dF hc52
               (exfalso;first|(simp [eqX] at hc52;done)|contradiction|(simp_all;done)|(simp_all;omega))
             ·replace hc51:=dF hc51
              (exfalso;first|(simp [eqX] at hc51;done)|contradiction|(simp_all;done)|(simp_all;omega))
            ·replace hc50:=dF hc50
             iterate 2 refine Yw ?_
             refine ZU ?_;refine VN rfl rfl rfl rfl rfl Tryz.underlying4 rfl ?_;refine ZU ?_;refine ZA ?_
             refine Yj 116 rfl (fun hc55=>?_) (fun hc55=>?_)
             ·replace hc55:=dT hc55
              refine ZA ?_;refine YA ?_;refine ZI F.lay44 ?_;refine X_fs rfl rfl F.ok30 rfl (IsL_ok _ ⟨Yc,⟨ZS,Yq⟩,YM,l_id,⟨Yb,Ya,ZO⟩,YC,⟨ZL,ZV⟩,⟨ZZ,ZX,ZK⟩⟩ (hl1.mono (by (repeat first|assumption|refine Mem.le.trans (by assumption) ?_)))) rfl ?_
              rintro _ rfl
              refine VN rfl rfl rfl rfl rfl Tryz.underlying4 rfl ?_;refine ZU ?_;refine ZA ?_
              refine Yj 123 rfl (fun hc56=>?_) (fun hc56=>?_)
              ·replace hc56:=dT hc56
               refine ZA ?_;refine YA ?_;refine ZU ?_;refine ZA ?_
               refine Yj 127 rfl (fun hc57=>?_) (fun hc57=>?_)
               ·replace hc57:=dT hc57
                refine ZA ?_;refine Zk F.foff32_0 ?_;refine Zk F.foff28_0 ?_;refine ZI F.lay25 ?_;refine X_fs rfl rfl F.ok29 rfl (fair_ok _ ⟨s_a,s_c,s_l⟩ ⟨Za,Zc⟩ (ks.mono (by assumption)) (fun h hh=>(ls h hh).mono (by assumption)) (fun y hy=>hV2 y (ss ▸ hy))) rfl ?_
                rintro _ rfl
                refine ZU ?_;refine ZA ?_
                refine Yj 134 rfl (fun hc58=>?_) (fun hc58=>?_)
                ·skip
                 simp only [ZC.eta,ZR.eta,ZP.eta,ZN.eta,Yr.eta,ZQ.eta,YN.eta,ZY.eta] at hc58
                 refine ZA ?_;refine Xa F.elem35 ?_;refine YA ?_;refine ZU ?_;refine ZG ?_;refine Zz (Zs (Y_pk [6] ?_));refine Yv ?_
                 refine Yk (.inr rfl) (.tmp rfl .nil) (fun w hw=>?_)
                 refine ⟨_,_,rfl,(by exact (((hm1.trans hm2).trans hm3).trans hm99)),hw.c,?_⟩
                 clear hw
                 exact congrArg Value.bool (decide_eq_true (by omega))
                ·skip
                 (exfalso;first|(simp [eqX] at hc58;done)|contradiction|(simp_all;done)|(simp_all;omega))
               ·replace hc57:=dF hc57
                (exfalso;omega)
              ·replace hc56:=dF hc56
               (exfalso;first|(simp [eqX] at hc56;done)|contradiction|(simp_all;done)|(simp_all;omega))
             ·replace hc55:=dF hc55
              (exfalso;first|(simp [eqX] at hc55;done)|contradiction|(simp_all;done)|(simp_all;omega))
           ·skip
            (exfalso;first|(simp [eqX] at hc49;done)|contradiction|(simp_all;done)|(simp_all;omega))
      ·replace hc42:=dF hc42
       iterate 25 refine Yw ?_
       refine ZU ?_;refine Zz (Zs (Y_pk [103,14,13,12,9,6,4,3,2] ?_));refine Wd rfl ?_;refine Yy (Zs (Y_pk [14,13,12,9,6,4,3,2] ?_));refine ZJ (Zq (l:=[0,1,2,3,4,5,6,7,8,9,10,11,12,13,14,15,16,17,18,19,20,21,22,23,24,25,26,27,28,29,30,31,32,33,34,35]) rfl ?_);refine X_fn rfl rfl F.ok13 rfl (noded_ok _) rfl ?_
       rintro _ M99 hm99 rfl
       refine ZA ?_
       refine Yj 105 rfl (fun hc59=>?_) (fun hc59=>?_)
       ·skip
        simp only [ZC.eta,ZR.eta,ZP.eta,ZN.eta,Yr.eta,ZQ.eta,YN.eta,ZY.eta] at hc59
        refine ZA ?_;refine YA ?_;refine ZA ?_;refine YA ?_;refine ZA ?_
        refine Yj 110 rfl (fun hc60=>?_) (fun hc60=>?_)
        ·replace hc60:=dT hc60
         refine ZA ?_;refine YA ?_;refine ZU ?_;refine VN rfl rfl rfl rfl rfl Tryz.underlying4 rfl ?_;refine ZU ?_;refine ZA ?_
         refine Yj 116 rfl (fun hc61=>?_) (fun hc61=>?_)
         ·replace hc61:=dT hc61
          refine ZA ?_;refine YA ?_;refine ZI F.lay44 ?_;refine X_fs rfl rfl F.ok30 rfl (IsL_ok _ ⟨Yc,⟨ZS,Yq⟩,YM,l_id,⟨Yb,Ya,ZO⟩,YC,⟨ZL,ZV⟩,⟨ZZ,ZX,ZK⟩⟩ (hl1.mono (by (repeat first|assumption|refine Mem.le.trans (by assumption) ?_)))) rfl ?_
          rintro _ rfl
          refine VN rfl rfl rfl rfl rfl Tryz.underlying4 rfl ?_;refine ZU ?_;refine ZA ?_
          refine Yj 123 rfl (fun hc62=>?_) (fun hc62=>?_)
          ·replace hc62:=dT hc62
           refine ZA ?_;refine YA ?_;refine ZU ?_;refine ZA ?_
           refine Yj 127 rfl (fun hc63=>?_) (fun hc63=>?_)
           ·replace hc63:=dT hc63
            refine ZA ?_;refine Zk F.foff32_0 ?_;refine Zk F.foff28_0 ?_;refine ZI F.lay25 ?_;refine X_fs rfl rfl F.ok29 rfl (fair_ok _ ⟨s_a,s_c,s_l⟩ ⟨Za,Zc⟩ (ks.mono (by assumption)) (fun h hh=>(ls h hh).mono (by assumption)) (fun y hy=>hV2 y (ss ▸ hy))) rfl ?_
            rintro _ rfl
            refine ZU ?_;refine ZA ?_
            refine Yj 134 rfl (fun hc64=>?_) (fun hc64=>?_)
            ·skip
             simp only [ZC.eta,ZR.eta,ZP.eta,ZN.eta,Yr.eta,ZQ.eta,YN.eta,ZY.eta] at hc64
             refine ZA ?_;refine Xa F.elem35 ?_;refine YA ?_;refine ZU ?_;refine ZG ?_;refine Zz (Zs (Y_pk [6] ?_));refine Yv ?_
             refine Yk (.inr rfl) (.tmp rfl .nil) (fun w hw=>?_)
             refine ⟨_,_,rfl,(by exact (((hm1.trans hm2).trans hm3).trans hm99)),hw.c,?_⟩
             clear hw
             exact congrArg Value.bool (decide_eq_true (by omega))
            ·skip
             (exfalso;first|(simp [eqX] at hc64;done)|contradiction|(simp_all;done)|(simp_all;omega))
           ·replace hc63:=dF hc63
            (exfalso;omega)
          ·replace hc62:=dF hc62
           (exfalso;first|(simp [eqX] at hc62;done)|contradiction|(simp_all;done)|(simp_all;omega))
         ·replace hc61:=dF hc61
          (exfalso;first|(simp [eqX] at hc61;done)|contradiction|(simp_all;done)|(simp_all;omega))
        ·replace hc60:=dF hc60
         iterate 2 refine Yw ?_
         refine ZU ?_;refine VN rfl rfl rfl rfl rfl Tryz.underlying4 rfl ?_;refine ZU ?_;refine ZA ?_
         refine Yj 116 rfl (fun hc65=>?_) (fun hc65=>?_)
         ·replace hc65:=dT hc65
          refine ZA ?_;refine YA ?_;refine ZI F.lay44 ?_;refine X_fs rfl rfl F.ok30 rfl (IsL_ok _ ⟨Yc,⟨ZS,Yq⟩,YM,l_id,⟨Yb,Ya,ZO⟩,YC,⟨ZL,ZV⟩,⟨ZZ,ZX,ZK⟩⟩ (hl1.mono (by (repeat first|assumption|refine Mem.le.trans (by assumption) ?_)))) rfl ?_
          rintro _ rfl
          refine VN rfl rfl rfl rfl rfl Tryz.underlying4 rfl ?_;refine ZU ?_;refine ZA ?_
          refine Yj 123 rfl (fun hc66=>?_) (fun hc66=>?_)
          ·replace hc66:=dT hc66
           refine ZA ?_;refine YA ?_;refine ZU ?_;refine ZA ?_
           refine Yj 127 rfl (fun hc67=>?_) (fun hc67=>?_)
           ·replace hc67:=dT hc67
            refine ZA ?_;refine Zk F.foff32_0 ?_;refine Zk F.foff28_0 ?_;refine ZI F.lay25 ?_;refine X_fs rfl rfl F.ok29 rfl (fair_ok _ ⟨s_a,s_c,s_l⟩ ⟨Za,Zc⟩ (ks.mono (by assumption)) (fun h hh=>(ls h hh).mono (by assumption)) (fun y hy=>hV2 y (ss ▸ hy))) rfl ?_
            rintro _ rfl
            refine ZU ?_;refine ZA ?_
            refine Yj 134 rfl (fun hc68=>?_) (fun hc68=>?_)
            ·skip
             simp only [ZC.eta,ZR.eta,ZP.eta,ZN.eta,Yr.eta,ZQ.eta,YN.eta,ZY.eta] at hc68
             refine ZA ?_;refine Xa F.elem35 ?_;refine YA ?_;refine ZU ?_;refine ZG ?_;refine Zz (Zs (Y_pk [6] ?_));refine Yv ?_
             refine Yk (.inr rfl) (.tmp rfl .nil) (fun w hw=>?_)
             refine ⟨_,_,rfl,(by exact (((hm1.trans hm2).trans hm3).trans hm99)),hw.c,?_⟩
             clear hw
             exact congrArg Value.bool (decide_eq_true (by omega))
            ·skip
             (exfalso;first|(simp [eqX] at hc68;done)|contradiction|(simp_all;done)|(simp_all;omega))
           ·replace hc67:=dF hc67
            (exfalso;omega)
          ·replace hc66:=dF hc66
           (exfalso;first|(simp [eqX] at hc66;done)|contradiction|(simp_all;done)|(simp_all;omega))
         ·replace hc65:=dF hc65
          (exfalso;first|(simp [eqX] at hc65;done)|contradiction|(simp_all;done)|(simp_all;omega))
       ·skip
        (exfalso;first|(simp [eqX] at hc59;done)|contradiction|(simp_all;done)|(simp_all;omega))
end Go.Proofs.YtajmnjefajknoaaGreat
