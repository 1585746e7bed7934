/-
  Texts of this claim, one behind the other: E8, E9, InsL, E10, E11, E12, E13, E14, TableX, NodeX, F1, F2, F3, TableN, NodeL, F4, F5, F6.
-/
import Derived.Test.YtajmnjefajknoaaGreatQL63
import Derived.KernelRfl
set_option linter.unusedSimpArgs false
set_option linter.unusedVariables false
set_option linter.unnecessarySimpa false
set_option maxRecDepth 8000
set_option maxHeartbeats 1000000
namespace Go.Proofs.YtajmnjefajknoaaGreat
open Go.Esp
theorem F.ok107:okFn Tryz.prog 107=true:=by kernel_rfl
theorem find_ok (M:Mem) (bw:Nat) (Za:Int) (Zc:Plc) (Zf:Int) (Zh:Plc) (Zj Ze Zq:Option Addr) (Zi Zd Zp:Nat) (Zg Zb:List ZD) (Zl:List Int) (Zt:Int) (Zs:Bool) (ZF Zz ZM ZB Zx Zv Zo Zy Zn:Int) (Zw:Plc) (ZE ZG:Int) (Ym:ZS.ok M ⟨⟨Za,Zc⟩,⟨Zf,Zh⟩,⟨Zj,Zi,Zg⟩,⟨Ze,Zd,Zb⟩⟩) (Yq:SlK M (oneI .i64) 1 ⟨Zq,Zp,Zl⟩) (hbig:Zg.length≤40∧Zb.length≤200) (hLa:Zl.length≤1000) (hh:0≤ZE∧ZE≤1000) (l:ZQ) (hl0:ZQ.ok M l) (hLp:l.peers.l.length≤1000) (hk:l.kind=1):Fh Tryz.prog 45 [.pointer (some ⟨bw,0,none⟩),l.enc] M [(bw,rowO (ZO.segs ⟨⟨⟨⟨Za,Zc⟩,⟨Zf,Zh⟩,⟨Zj,Zi,Zg⟩,⟨Ze,Zd,Zb⟩⟩,Zt,Zs,ZF,Zz,ZM,ZB,Zx,Zv,Zo,Zy,Zn,Zw,⟨Zq,Zp,Zl⟩,ZE,ZG⟩,⟨none,0,[]⟩⟩) 68)] (fun M' v Hout=>v=.tuple #[]∧WkF bw 68 M' Hout (XO (ZP.nd ⟨⟨⟨Za,Zc⟩,⟨Zf,Zh⟩,⟨Zj,Zi,Zg⟩,⟨Ze,Zd,Zb⟩⟩,Zt,Zs,ZF,Zz,ZM,ZB,Zx,Zv,Zo,Zy,Zn,Zw,⟨Zq,Zp,Zl⟩,ZE,ZG⟩) l.lt)):=by
  obtain ⟨ZZ,⟨ZT,Yr⟩,YM,l_id,⟨Ye,Yd,ZR⟩,YF,⟨ZL,ZV⟩,⟨Yc,ZY,ZK⟩⟩:=l
  simp only at hLp hk
  have Xk:SlK M (oneI .i64) 1 ⟨Ye,Yd,ZR⟩:=hl0.h0
  have YZ:SlK M ZD.segs 21 ⟨Yc,ZY,ZK⟩:=hl0.h1
  have XI:=YZ.h1
  simp only at XI
  have Wx:(ZK.map ZD.segs).length=ZK.length:=List.length_map ..
  have Wy:ZK.length≤ZY:=YZ.h3
  refine XJ (fun H=>(bw,rowO (ZO.segs ⟨⟨⟨⟨Za,Zc⟩,⟨Zf,Zh⟩,⟨Zj,Zi,Zg⟩,⟨Ze,Zd,Zb⟩⟩,Zt,Zs,ZF,Zz,ZM,ZB,Zx,Zv,Zo,Zy,Zn,Zw,⟨Zq,Zp,Zl⟩,ZE,ZG⟩,⟨none,0,[]⟩⟩) 68)::H) (fun _=>by simp only [List.append_assoc,List.cons_append,List.nil_append]) Tryz.func45 rfl Tryz.ntmps45 rfl ?_;intro H
  refine ZJ (Zm (l:=[0]) rfl ?_)
  refine Xi ?_;intro b1
  refine Zu (Zr (Y_pk [3,0] ?_))
  iterate 2 refine ZJ ?_
  refine Zm (l:=[0,1,2,3,4,5]) rfl ?_;refine ZA ?_;refine ZU ?_;refine Zk F.foff68_0 ?_;refine Zk F.foff32_2 ?_;refine ZH F.lay4 ?_;refine Xw ?_;refine Zu (Zr (Y_pk [12,3,0] ?_))
  refine Yz rfl (fun hc2=>?_) (fun hc2=>?_)
  ·skip
   refine Yu (YS ?_)
   refine Yk (.inr rfl) (.nil) (fun w hw=>?_)
   have h3:XO (ZP.nd ⟨⟨⟨Za,Zc⟩,⟨Zf,Zh⟩,⟨Zj,Zi,Zg⟩,⟨Ze,Zd,Zb⟩⟩,Zt,Zs,ZF,Zz,ZM,ZB,Zx,Zv,Zo,Zy,Zn,Zw,⟨Zq,Zp,Zl⟩,ZE,ZG⟩) (ZQ.lt ⟨ZZ,⟨ZT,Yr⟩,YM,l_id,⟨Ye,Yd,ZR⟩,YF,⟨ZL,ZV⟩,⟨Yc,ZY,ZK⟩⟩)=((ZP.nd ⟨⟨⟨Za,Zc⟩,⟨Zf,Zh⟩,⟨Zj,Zi,Zg⟩,⟨Ze,Zd,Zb⟩⟩,Zt,Zs,ZF,Zz,ZM,ZB,Zx,Zv,Zo,Zy,Zn,Zw,⟨Zq,Zp,Zl⟩,ZE,ZG⟩),[]):=(does1 hk).trans (congrArg (Prod.mk (ZP.nd ⟨⟨⟨Za,Zc⟩,⟨Zf,Zh⟩,⟨Zj,Zi,Zg⟩,⟨Ze,Zd,Zb⟩⟩,Zt,Zs,ZF,Zz,ZM,ZB,Zx,Zv,Zo,Zy,Zn,Zw,⟨Zq,Zp,Zl⟩,ZE,ZG⟩)) (find_no (show Zs=false by first|assumption|(simp_all;done))))
   refine ⟨_,M,[(bw,rowO (ZO.segs ⟨⟨⟨⟨Za,Zc⟩,⟨Zf,Zh⟩,⟨Zj,Zi,Zg⟩,⟨Ze,Zd,Zb⟩⟩,Zt,Zs,ZF,Zz,ZM,ZB,Zx,Zv,Zo,Zy,Zn,Zw,⟨Zq,Zp,Zl⟩,ZE,ZG⟩,⟨none,0,[]⟩⟩) 68)],rfl,Mem.le.refl M,hw.c,rfl,⟨⟨⟨Za,Zc⟩,⟨Zf,Zh⟩,⟨Zj,Zi,Zg⟩,⟨Ze,Zd,Zb⟩⟩,Zt,Zs,ZF,Zz,ZM,ZB,Zx,Zv,Zo,Zy,Zn,Zw,⟨Zq,Zp,Zl⟩,ZE,ZG⟩,⟨none,0,[]⟩,rfl,?_,?_,⟨Ym,Yq⟩,SlK.nil,fun y hy=>by cases hy⟩
   ·rw [h3] <;> rfl
   ·rw [h3] <;> rfl
  ·skip
   refine YB (Zr (Y_pk [3,0] ?_));refine ZJ (Zm (l:=[0,1,2,3,4]) rfl ?_);refine Zk F.foff44_2 ?_;refine ZH F.lay29 ?_;refine Xn rfl rfl F.bld44 (.cons rfl (by constructor) (.cons rfl (by constructor) .nil)) rfl rfl ?_
   refine YW F.zero44 ?_;intro b3
   refine X_store rfl rfl rfl rfl (by constructor) (by ((try simp only [cat,List.cons_append,List.nil_append,List.append_nil]);(repeat (first|exact XL|refine XM ?_|(refine YC ?_ ?_;rfl)));done)) (by repeat first|exact Upd.head|apply Upd.tail|apply Upd.over) F.lay44 (by simp only [ZD.segs,ZS.segs,ZP.segs,ZQ.segs,Yv.segs,ZO.segs,YL.segs,ZW.segs,cat,List.append_eq,List.cons_append,List.nil_append,List.append_nil,Segs.len,Seg.len,Yn]) (put_all (m:=67) rfl (by simp only [ZD.segs,ZS.segs,ZP.segs,ZQ.segs,Yv.segs,ZO.segs,YL.segs,ZW.segs,cat,List.append_eq,List.cons_append,List.nil_append,List.append_nil,Segs.len,Seg.len,Yn]) (by simp only [ZD.segs,ZS.segs,ZP.segs,ZQ.segs,Yv.segs,ZO.segs,YL.segs,ZW.segs,cat,List.append_eq,List.cons_append,List.nil_append,List.append_nil,Segs.len,Seg.len,Yn])) ?_
   refine Zu (Zr (Y_pk [4,3,0] ?_));refine ZJ (YE (l:=[0,1,2,3,4,5,6,7,8,9,10,11,12,13,14]) #[0,1,3,7,15,0,32,127,255,511,511,1023,3071,8191,16383] _ rfl (by kernel_rfl) (by kernel_rfl) St.drawn (fun _ h=>h) ?_);refine ZA ?_;refine ZU ?_;refine Zk F.foff68_0 ?_;refine Zk F.foff32_0 ?_;refine ZH F.lay28 ?_;refine Zk F.foff44_3 ?_;refine ZH F.lay23 ?_;refine X_fs rfl rfl F.ok19 rfl (Done_ok _ ⟨⟨Za,Zc⟩,⟨Zf,Zh⟩,⟨Zj,Zi,Zg⟩,⟨Ze,Zd,Zb⟩⟩ l_id Ym) rfl ?_
   rintro _ rfl
   obtain ⟨⟨⟨da,di⟩,db⟩,hd⟩:∃ x,WU (ZS.tb ⟨⟨Za,Zc⟩,⟨Zf,Zh⟩,⟨Zj,Zi,Zg⟩,⟨Ze,Zd,Zb⟩⟩) l_id=x:=⟨_,rfl⟩
   rw [hd]
   refine ZA ?_
   iterate 2 refine XA ?_
   refine Zk F.foff44_6 ?_;refine Yi F.lay25 ?_;refine Zk F.foff44_5 ?_;refine Yi F.lay4 ?_;refine Zu (Zr (Y_pk [4,3,0] ?_))
   iterate 2 refine ZJ ?_
   refine YE (l:=[0,1,2,3,4,5,6,7,8,9,10,11,12,13,14,15]) #[0,1,3,7,15,0,32,0,128,511,1023,2047,2047,0,12287,32767] _ rfl (by kernel_rfl) (by kernel_rfl) St.drawn (fun _ h=>h) ?_;refine ZA ?_;refine ZU ?_;refine Zk F.foff68_0 ?_;refine Zk F.foff32_0 ?_;refine ZH F.lay28 ?_;refine Zk F.foff44_3 ?_;refine ZH F.lay23 ?_;refine Zk F.foff44_4 ?_;refine ZH F.lay30 ?_;refine X_fn rfl rfl F.ok88 rfl (Nearest_ok _ ⟨⟨Za,Zc⟩,⟨Zf,Zh⟩,⟨Zj,Zi,Zg⟩,⟨Ze,Zd,Zb⟩⟩ l_id ⟨Ye,Yd,ZR⟩ Ym Xk hbig) rfl ?_
   rintro _ M1 hm1 rfl
   obtain ⟨⟨⟨qa,qi⟩,qb⟩,hq⟩:∃ x,Wb (ZS.tb ⟨⟨Za,Zc⟩,⟨Zf,Zh⟩,⟨Zj,Zi,Zg⟩,⟨Ze,Zd,Zb⟩⟩) l_id (⟨Ye,Yd,ZR⟩:Sl Int).l=x:=⟨_,rfl⟩
   rw [hq]
   refine ZA ?_
   iterate 2 refine XA ?_
   refine YW F.zero25 ?_;intro b4
   refine Yi F.lay25 ?_;refine ZC ?_;refine Zu (Zr (Y_pk [6,5,4,3,0] ?_));refine ZJ (Zm (l:=[0,1,2]) rfl ?_);refine Zk F.foff44_5 ?_;refine ZH F.lay4 ?_;refine Xw ?_;refine Zu (Zr (Y_pk [44,6,5,4,3,0] ?_))
   refine Yz rfl (fun hc5=>?_) (fun hc5=>?_)
   ·skip
    simp only [ZD.eta,ZS.eta,ZP.eta,ZQ.eta,Yv.eta,ZO.eta,YL.eta,ZW.eta] at hc5
    iterate 2 refine ZJ ?_
    refine Zm (l:=[0]) rfl ?_;refine ZA ?_;refine Zu (Zr (Y_pk [45,6,5,4,3,0] ?_))
    refine Yz rfl (fun hc6=>?_) (fun hc6=>?_)
    ·skip
     simp only [ZD.eta,ZS.eta,ZP.eta,ZQ.eta,Yv.eta,ZO.eta,YL.eta,ZW.eta] at hc6
     refine Zm (l:=[0,1,2]) rfl ?_;refine ZH F.lay25 ?_;refine Zk F.foff44_6 ?_;refine Yi F.lay25 ?_;refine Zu (Zr (Y_pk [6,4,3,0] ?_));refine Zm (l:=[0,1,2,3]) rfl ?_;refine ZA ?_;refine Xw ?_;refine Zk F.foff44_5 ?_;refine Yi F.lay4 ?_;refine Zu (Zr (Y_pk [4,3,0] ?_));refine Xl (l:=[0,1,2,3,4,5]) [5] rfl ?_;refine ZA ?_;refine Zk F.foff44_1 ?_;refine Zk F.foff25_0 ?_;refine ZH F.lay3 ?_;refine ZH F.lay44 ?_;refine Wq rfl rfl rfl F.ok65 rfl (sendF_ok M1 bw Za Zc Zf Zh Zj Ze Zq Zi Zd Zp Zg Zb Zl Zt Zs ZF Zz ZM ZB Zx Zv Zo Zy Zn Zw ZE ZG ZT ⟨2,⟨0,0⟩,YM,0,⟨none,0,[]⟩,(!qb),⟨qa,qi⟩,⟨none,0,[]⟩⟩) (by repeat first|exact Rem.here _|exact Rem.two|apply Rem.skip|apply Rem.over) (Yw rfl) ?_
     rintro _ M2 hs2 hm2 ⟨rfl,⟨o9a,o9c,o9l⟩,rfl,k9o,hl9⟩
     simp only at hl9
     simp only [List.append_assoc,List.cons_append,List.nil_append]
     refine Zu (Wd ?_)
     refine Yk (.inl rfl) (.nil) (fun w hw=>?_)
     obtain rfl:db=false:=by first|assumption|(simp_all;done)
     obtain rfl:qb=true:=by first|assumption|(simp_all;done)
     have h3:XO (ZP.nd ⟨⟨⟨Za,Zc⟩,⟨Zf,Zh⟩,⟨Zj,Zi,Zg⟩,⟨Ze,Zd,Zb⟩⟩,Zt,Zs,ZF,Zz,ZM,ZB,Zx,Zv,Zo,Zy,Zn,Zw,⟨Zq,Zp,Zl⟩,ZE,ZG⟩) (ZQ.lt ⟨ZZ,⟨ZT,Yr⟩,YM,l_id,⟨Ye,Yd,ZR⟩,YF,⟨ZL,ZV⟩,⟨Yc,ZY,ZK⟩⟩)=(ZP.nd ⟨⟨⟨Za,Zc⟩,⟨Zf,Zh⟩,⟨Zj,Zi,Zg⟩,⟨Ze,Zd,Zb⟩⟩,Zt,Zs,ZF,Zz,ZM,ZB,Zx,Zv,Zo,Zy,Zn,Zw,⟨Zq,Zp,Zl⟩,ZE,ZG⟩,[Yv.snd (⟨ZT,(⟨2,⟨Za,Zc⟩,YM,0,⟨none,0,[]⟩,false,⟨qa,qi⟩,⟨none,0,[]⟩⟩:ZQ)⟩:Yv)]):=(does1 hk).trans (congrArg (Prod.mk (ZP.nd ⟨⟨⟨Za,Zc⟩,⟨Zf,Zh⟩,⟨Zj,Zi,Zg⟩,⟨Ze,Zd,Zb⟩⟩,Zt,Zs,ZF,Zz,ZM,ZB,Zx,Zv,Zo,Zy,Zn,Zw,⟨Zq,Zp,Zl⟩,ZE,ZG⟩)) ((find_yes (n:=(ZP.nd ⟨⟨⟨Za,Zc⟩,⟨Zf,Zh⟩,⟨Zj,Zi,Zg⟩,⟨Ze,Zd,Zb⟩⟩,Zt,Zs,ZF,Zz,ZM,ZB,Zx,Zv,Zo,Zy,Zn,Zw,⟨Zq,Zp,Zl⟩,ZE,ZG⟩)) (l:=(ZQ.lt ⟨ZZ,⟨ZT,Yr⟩,YM,l_id,⟨Ye,Yd,ZR⟩,YF,⟨ZL,ZV⟩,⟨Yc,ZY,ZK⟩⟩)) (show Zs=true by first|assumption|(simp_all;done)) hd hq).trans rfl))
     refine ⟨_,M2,[(bw,rowO (ZO.segs ⟨⟨⟨⟨Za,Zc⟩,⟨Zf,Zh⟩,⟨Zj,Zi,Zg⟩,⟨Ze,Zd,Zb⟩⟩,Zt,Zs,ZF,Zz,ZM,ZB,Zx,Zv,Zo,Zy,Zn,Zw,⟨Zq,Zp,Zl⟩,ZE,ZG⟩,⟨o9a,o9c,o9l⟩⟩) 68)],rfl,(hm1.trans hm2),hw.c,rfl,⟨⟨⟨Za,Zc⟩,⟨Zf,Zh⟩,⟨Zj,Zi,Zg⟩,⟨Ze,Zd,Zb⟩⟩,Zt,Zs,ZF,Zz,ZM,ZB,Zx,Zv,Zo,Zy,Zn,Zw,⟨Zq,Zp,Zl⟩,ZE,ZG⟩,⟨o9a,o9c,o9l⟩,rfl,?_,?_,⟨(Ym.mono hm1).mono hm2,(Yq.mono hm1).mono hm2⟩,k9o,fun y hy=>?_⟩
     ·rw [h3] <;> rfl
     ·rw [h3]
      show sndl o9l=_
      rw [hl9];rfl
     ·simp only at hy
      rw [hl9] at hy
      obtain rfl:=List.mem_singleton.1 hy
      exact ⟨⟨SlK.nil,SlK.nil⟩⟩
    ·skip
     simp only [ZD.eta,ZS.eta,ZP.eta,ZQ.eta,Yv.eta,ZO.eta,YL.eta,ZW.eta] at hc6
     refine YB (Zr (Y_pk [6,4,3,0] ?_));refine Zm (l:=[0,1,2,3]) rfl ?_;refine ZA ?_;refine Xw ?_;refine Zk F.foff44_5 ?_;refine Yi F.lay4 ?_;refine Zu (Zr (Y_pk [4,3,0] ?_));refine Xl (l:=[0,1,2,3,4,5]) [5] rfl ?_;refine ZA ?_;refine Zk F.foff44_1 ?_;refine Zk F.foff25_0 ?_;refine ZH F.lay3 ?_;refine ZH F.lay44 ?_;refine Wq rfl rfl rfl F.ok65 rfl (sendF_ok M1 bw Za Zc Zf Zh Zj Ze Zq Zi Zd Zp Zg Zb Zl Zt Zs ZF Zz ZM ZB Zx Zv Zo Zy Zn Zw ZE ZG ZT ⟨2,⟨0,0⟩,YM,0,⟨none,0,[]⟩,(!qb),⟨da,di⟩,⟨none,0,[]⟩⟩) (by repeat first|exact Rem.here _|exact Rem.two|apply Rem.skip|apply Rem.over) (Yw rfl) ?_
     rintro _ M2 hs2 hm2 ⟨rfl,⟨o9a,o9c,o9l⟩,rfl,k9o,hl9⟩
     simp only at hl9
     simp only [List.append_assoc,List.cons_append,List.nil_append]
     refine Zu (Wd ?_)
     refine Yk (.inl rfl) (.nil) (fun w hw=>?_)
     obtain rfl:db=false:=by first|assumption|(simp_all;done)
     obtain rfl:qb=false:=by first|assumption|(simp_all;done)
     have h3:XO (ZP.nd ⟨⟨⟨Za,Zc⟩,⟨Zf,Zh⟩,⟨Zj,Zi,Zg⟩,⟨Ze,Zd,Zb⟩⟩,Zt,Zs,ZF,Zz,ZM,ZB,Zx,Zv,Zo,Zy,Zn,Zw,⟨Zq,Zp,Zl⟩,ZE,ZG⟩) (ZQ.lt ⟨ZZ,⟨ZT,Yr⟩,YM,l_id,⟨Ye,Yd,ZR⟩,YF,⟨ZL,ZV⟩,⟨Yc,ZY,ZK⟩⟩)=(ZP.nd ⟨⟨⟨Za,Zc⟩,⟨Zf,Zh⟩,⟨Zj,Zi,Zg⟩,⟨Ze,Zd,Zb⟩⟩,Zt,Zs,ZF,Zz,ZM,ZB,Zx,Zv,Zo,Zy,Zn,Zw,⟨Zq,Zp,Zl⟩,ZE,ZG⟩,[Yv.snd (⟨ZT,(⟨2,⟨Za,Zc⟩,YM,0,⟨none,0,[]⟩,true,⟨da,di⟩,⟨none,0,[]⟩⟩:ZQ)⟩:Yv)]):=(does1 hk).trans (congrArg (Prod.mk (ZP.nd ⟨⟨⟨Za,Zc⟩,⟨Zf,Zh⟩,⟨Zj,Zi,Zg⟩,⟨Ze,Zd,Zb⟩⟩,Zt,Zs,ZF,Zz,ZM,ZB,Zx,Zv,Zo,Zy,Zn,Zw,⟨Zq,Zp,Zl⟩,ZE,ZG⟩)) ((find_yes (n:=(ZP.nd ⟨⟨⟨Za,Zc⟩,⟨Zf,Zh⟩,⟨Zj,Zi,Zg⟩,⟨Ze,Zd,Zb⟩⟩,Zt,Zs,ZF,Zz,ZM,ZB,Zx,Zv,Zo,Zy,Zn,Zw,⟨Zq,Zp,Zl⟩,ZE,ZG⟩)) (l:=(ZQ.lt ⟨ZZ,⟨ZT,Yr⟩,YM,l_id,⟨Ye,Yd,ZR⟩,YF,⟨ZL,ZV⟩,⟨Yc,ZY,ZK⟩⟩)) (show Zs=true by first|assumption|(simp_all;done)) hd hq).trans rfl))
     refine ⟨_,M2,[(bw,rowO (ZO.segs ⟨⟨⟨⟨Za,Zc⟩,⟨Zf,Zh⟩,⟨Zj,Zi,Zg⟩,⟨Ze,Zd,Zb⟩⟩,Zt,Zs,ZF,Zz,ZM,ZB,Zx,Zv,Zo,Zy,Zn,Zw,⟨Zq,Zp,Zl⟩,ZE,ZG⟩,⟨o9a,o9c,o9l⟩⟩) 68)],rfl,(hm1.trans hm2),hw.c,rfl,⟨⟨⟨Za,Zc⟩,⟨Zf,Zh⟩,⟨Zj,Zi,Zg⟩,⟨Ze,Zd,Zb⟩⟩,Zt,Zs,ZF,Zz,ZM,ZB,Zx,Zv,Zo,Zy,Zn,Zw,⟨Zq,Zp,Zl⟩,ZE,ZG⟩,⟨o9a,o9c,o9l⟩,rfl,?_,?_,⟨(Ym.mono hm1).mono hm2,(Yq.mono hm1).mono hm2⟩,k9o,fun y hy=>?_⟩
     ·rw [h3] <;> rfl
     ·rw [h3]
      show sndl o9l=_
      rw [hl9];rfl
     ·simp only at hy
      rw [hl9] at hy
      obtain rfl:=List.mem_singleton.1 hy
      exact ⟨⟨SlK.nil,SlK.nil⟩⟩
   ·skip
    simp only [ZD.eta,ZS.eta,ZP.eta,ZQ.eta,Yv.eta,ZO.eta,YL.eta,ZW.eta] at hc5
    refine YB (Zr (Y_pk [4,3,0] ?_));refine Xl (l:=[0,1,2,3,4,5]) [5] rfl ?_;refine ZA ?_;refine Zk F.foff44_1 ?_;refine Zk F.foff25_0 ?_;refine ZH F.lay3 ?_;refine ZH F.lay44 ?_;refine Wq rfl rfl rfl F.ok65 rfl (sendF_ok M1 bw Za Zc Zf Zh Zj Ze Zq Zi Zd Zp Zg Zb Zl Zt Zs ZF Zz ZM ZB Zx Zv Zo Zy Zn Zw ZE ZG ZT ⟨2,⟨0,0⟩,YM,0,⟨none,0,[]⟩,db,⟨da,di⟩,⟨none,0,[]⟩⟩) (by repeat first|exact Rem.here _|exact Rem.two|apply Rem.skip|apply Rem.over) (Yw rfl) ?_
    rintro _ M2 hs2 hm2 ⟨rfl,⟨o9a,o9c,o9l⟩,rfl,k9o,hl9⟩
    simp only at hl9
    simp only [List.append_assoc,List.cons_append,List.nil_append]
    refine Zu (Wd ?_)
    refine Yk (.inl rfl) (.nil) (fun w hw=>?_)
    obtain rfl:db=true:=by first|assumption|(simp_all;done)
    have h3:XO (ZP.nd ⟨⟨⟨Za,Zc⟩,⟨Zf,Zh⟩,⟨Zj,Zi,Zg⟩,⟨Ze,Zd,Zb⟩⟩,Zt,Zs,ZF,Zz,ZM,ZB,Zx,Zv,Zo,Zy,Zn,Zw,⟨Zq,Zp,Zl⟩,ZE,ZG⟩) (ZQ.lt ⟨ZZ,⟨ZT,Yr⟩,YM,l_id,⟨Ye,Yd,ZR⟩,YF,⟨ZL,ZV⟩,⟨Yc,ZY,ZK⟩⟩)=(ZP.nd ⟨⟨⟨Za,Zc⟩,⟨Zf,Zh⟩,⟨Zj,Zi,Zg⟩,⟨Ze,Zd,Zb⟩⟩,Zt,Zs,ZF,Zz,ZM,ZB,Zx,Zv,Zo,Zy,Zn,Zw,⟨Zq,Zp,Zl⟩,ZE,ZG⟩,[Yv.snd (⟨ZT,(⟨2,⟨Za,Zc⟩,YM,0,⟨none,0,[]⟩,true,⟨da,di⟩,⟨none,0,[]⟩⟩:ZQ)⟩:Yv)]):=(does1 hk).trans (congrArg (Prod.mk (ZP.nd ⟨⟨⟨Za,Zc⟩,⟨Zf,Zh⟩,⟨Zj,Zi,Zg⟩,⟨Ze,Zd,Zb⟩⟩,Zt,Zs,ZF,Zz,ZM,ZB,Zx,Zv,Zo,Zy,Zn,Zw,⟨Zq,Zp,Zl⟩,ZE,ZG⟩)) ((find_yes (n:=(ZP.nd ⟨⟨⟨Za,Zc⟩,⟨Zf,Zh⟩,⟨Zj,Zi,Zg⟩,⟨Ze,Zd,Zb⟩⟩,Zt,Zs,ZF,Zz,ZM,ZB,Zx,Zv,Zo,Zy,Zn,Zw,⟨Zq,Zp,Zl⟩,ZE,ZG⟩)) (l:=(ZQ.lt ⟨ZZ,⟨ZT,Yr⟩,YM,l_id,⟨Ye,Yd,ZR⟩,YF,⟨ZL,ZV⟩,⟨Yc,ZY,ZK⟩⟩)) (show Zs=true by first|assumption|(simp_all;done)) hd hq).trans rfl))
    refine ⟨_,M2,[(bw,rowO (ZO.segs ⟨⟨⟨⟨Za,Zc⟩,⟨Zf,Zh⟩,⟨Zj,Zi,Zg⟩,⟨Ze,Zd,Zb⟩⟩,Zt,Zs,ZF,Zz,ZM,ZB,Zx,Zv,Zo,Zy,Zn,Zw,⟨Zq,Zp,Zl⟩,ZE,ZG⟩,⟨o9a,o9c,o9l⟩⟩) 68)],rfl,(hm1.trans hm2),hw.c,rfl,⟨⟨⟨Za,Zc⟩,⟨Zf,Zh⟩,⟨Zj,Zi,Zg⟩,⟨Ze,Zd,Zb⟩⟩,Zt,Zs,ZF,Zz,ZM,ZB,Zx,Zv,Zo,Zy,Zn,Zw,⟨Zq,Zp,Zl⟩,ZE,ZG⟩,⟨o9a,o9c,o9l⟩,rfl,?_,?_,⟨(Ym.mono hm1).mono hm2,(Yq.mono hm1).mono hm2⟩,k9o,fun y hy=>?_⟩
    ·rw [h3] <;> rfl
    ·rw [h3]
     show sndl o9l=_
     rw [hl9];rfl
    ·simp only at hy
     rw [hl9] at hy
     obtain rfl:=List.mem_singleton.1 hy
     exact ⟨⟨SlK.nil,SlK.nil⟩⟩
theorem ask_ok (M:Mem) (bw:Nat) (Za:Int) (Zc:Plc) (Zf:Int) (Zh:Plc) (Zj Ze Zq:Option Addr) (Zi Zd Zp:Nat) (Zg Zb:List ZD) (Zl:List Int) (Zt:Int) (Zs:Bool) (ZF Zz ZM ZB Zx Zv Zo Zy Zn:Int) (Zw:Plc) (ZE ZG:Int) (Ym:ZS.ok M ⟨⟨Za,Zc⟩,⟨Zf,Zh⟩,⟨Zj,Zi,Zg⟩,⟨Ze,Zd,Zb⟩⟩) (Yq:SlK M (oneI .i64) 1 ⟨Zq,Zp,Zl⟩) (hbig:Zg.length≤40∧Zb.length≤200) (hLa:Zl.length≤1000) (hh:0≤ZE∧ZE≤1000) (l:ZQ) (hl0:ZQ.ok M l) (hLp:l.peers.l.length≤1000) (hk:l.kind=3):Fh Tryz.prog 47 [.pointer (some ⟨bw,0,none⟩),l.enc] M [(bw,rowO (ZO.segs ⟨⟨⟨⟨Za,Zc⟩,⟨Zf,Zh⟩,⟨Zj,Zi,Zg⟩,⟨Ze,Zd,Zb⟩⟩,Zt,Zs,ZF,Zz,ZM,ZB,Zx,Zv,Zo,Zy,Zn,Zw,⟨Zq,Zp,Zl⟩,ZE,ZG⟩,⟨none,0,[]⟩⟩) 68)] (fun M' v Hout=>v=.tuple #[]∧WkF bw 68 M' Hout (XO (ZP.nd ⟨⟨⟨Za,Zc⟩,⟨Zf,Zh⟩,⟨Zj,Zi,Zg⟩,⟨Ze,Zd,Zb⟩⟩,Zt,Zs,ZF,Zz,ZM,ZB,Zx,Zv,Zo,Zy,Zn,Zw,⟨Zq,Zp,Zl⟩,ZE,ZG⟩) l.lt)):=by
  obtain ⟨ZZ,⟨ZT,Yr⟩,YM,l_id,⟨Ye,Yd,ZR⟩,YF,⟨ZL,ZV⟩,⟨Yc,ZY,ZK⟩⟩:=l
  simp only at hLp hk
  have Xk:SlK M (oneI .i64) 1 ⟨Ye,Yd,ZR⟩:=hl0.h0
  have YZ:SlK M ZD.segs 21 ⟨Yc,ZY,ZK⟩:=hl0.h1
  have XI:=YZ.h1
  simp only at XI
  have Wx:(ZK.map ZD.segs).length=ZK.length:=List.length_map ..
  have Wy:ZK.length≤ZY:=YZ.h3
  refine XJ (fun H=>(bw,rowO (ZO.segs ⟨⟨⟨⟨Za,Zc⟩,⟨Zf,Zh⟩,⟨Zj,Zi,Zg⟩,⟨Ze,Zd,Zb⟩⟩,Zt,Zs,ZF,Zz,ZM,ZB,Zx,Zv,Zo,Zy,Zn,Zw,⟨Zq,Zp,Zl⟩,ZE,ZG⟩,⟨none,0,[]⟩⟩) 68)::H) (fun _=>by simp only [List.append_assoc,List.cons_append,List.nil_append]) Tryz.func47 rfl Tryz.ntmps47 rfl ?_;intro H
  refine ZJ (Zm (l:=[0]) rfl ?_)
  refine Xi ?_;intro b1
  refine Zu (Zr (Y_pk [3,0] ?_));refine ZJ (Zm (l:=[0,1,2,3,4]) rfl ?_);refine ZA ?_;refine ZU ?_;refine Zk F.foff68_0 ?_;refine Zk F.foff32_2 ?_;refine ZH F.lay4 ?_;refine Zu (Zr (Y_pk [8,3,0] ?_))
  refine Yz rfl (fun hc2=>?_) (fun hc2=>?_)
  ·skip
   refine C_region_anyW (l:=[0,1,2,3,4,5,6,7,8,9,10,11,12,13,14,15,16,17,18,19]) [19] #[0,0,2,6,0,16,0,64,192,448,960,1984,0,4096,12288,28672,61440,126976,262128,524287] (_) rfl (by kernel_rfl) (by kernel_rfl) St.drawn (fun _ h=>h) ?_;refine ZA ?_;refine Zk F.foff44_1 ?_;refine Zk F.foff25_0 ?_;refine ZH F.lay3 ?_;refine Zk F.foff44_2 ?_;refine ZH F.lay29 ?_;refine ZA ?_;refine ZU ?_;refine Zk F.foff68_0 ?_;refine Zk F.foff32_0 ?_;refine Zk F.foff28_1 ?_;refine ZH F.lay25 ?_;refine ZA ?_;refine ZU ?_;refine Zk F.foff68_0 ?_;refine Zk F.foff32_0 ?_;refine Zk F.foff28_2 ?_;refine ZH F.lay26 ?_;refine Xn rfl rfl F.bld44 (.cons rfl (by constructor) (.cons rfl (by constructor) (.cons rfl (by constructor) (.cons rfl (by constructor) .nil)))) rfl rfl ?_
   refine Wq rfl rfl rfl F.ok65 rfl (sendF_ok M bw Za Zc Zf Zh Zj Ze Zq Zi Zd Zp Zg Zb Zl Zt Zs ZF Zz ZM ZB Zx Zv Zo Zy Zn Zw ZE ZG ZT ⟨4,⟨0,0⟩,YM,0,⟨none,0,[]⟩,false,⟨Zf,Zh⟩,⟨Zj,Zi,Zg⟩⟩) (by repeat first|exact Rem.here _|exact Rem.two|apply Rem.skip|apply Rem.over) (Yw rfl) ?_
   rintro _ M2 hs2 hm2 ⟨rfl,⟨o9a,o9c,o9l⟩,rfl,k9o,hl9⟩
   simp only at hl9
   simp only [List.append_assoc,List.cons_append,List.nil_append]
   refine Zu (Wd ?_)
   refine Yk (.inl rfl) (.nil) (fun w hw=>?_)
   have h3:XO (ZP.nd ⟨⟨⟨Za,Zc⟩,⟨Zf,Zh⟩,⟨Zj,Zi,Zg⟩,⟨Ze,Zd,Zb⟩⟩,Zt,Zs,ZF,Zz,ZM,ZB,Zx,Zv,Zo,Zy,Zn,Zw,⟨Zq,Zp,Zl⟩,ZE,ZG⟩) (ZQ.lt ⟨ZZ,⟨ZT,Yr⟩,YM,l_id,⟨Ye,Yd,ZR⟩,YF,⟨ZL,ZV⟩,⟨Yc,ZY,ZK⟩⟩)=(ZP.nd ⟨⟨⟨Za,Zc⟩,⟨Zf,Zh⟩,⟨Zj,Zi,Zg⟩,⟨Ze,Zd,Zb⟩⟩,Zt,Zs,ZF,Zz,ZM,ZB,Zx,Zv,Zo,Zy,Zn,Zw,⟨Zq,Zp,Zl⟩,ZE,ZG⟩,[Yv.snd (⟨ZT,(⟨4,⟨Za,Zc⟩,YM,0,⟨none,0,[]⟩,false,⟨Zf,Zh⟩,⟨Zj,Zi,Zg⟩⟩:ZQ)⟩:Yv)]):=does3y hk (show Zs=true by first|assumption|(simp_all;done))
   refine ⟨_,M2,[(bw,rowO (ZO.segs ⟨⟨⟨⟨Za,Zc⟩,⟨Zf,Zh⟩,⟨Zj,Zi,Zg⟩,⟨Ze,Zd,Zb⟩⟩,Zt,Zs,ZF,Zz,ZM,ZB,Zx,Zv,Zo,Zy,Zn,Zw,⟨Zq,Zp,Zl⟩,ZE,ZG⟩,⟨o9a,o9c,o9l⟩⟩) 68)],rfl,hm2,hw.c,rfl,⟨⟨⟨Za,Zc⟩,⟨Zf,Zh⟩,⟨Zj,Zi,Zg⟩,⟨Ze,Zd,Zb⟩⟩,Zt,Zs,ZF,Zz,ZM,ZB,Zx,Zv,Zo,Zy,Zn,Zw,⟨Zq,Zp,Zl⟩,ZE,ZG⟩,⟨o9a,o9c,o9l⟩,rfl,?_,?_,⟨Ym.mono hm2,Yq.mono hm2⟩,k9o,fun y hy=>?_⟩
   ·rw [h3] <;> rfl
   ·rw [h3]
    show sndl o9l=_
    rw [hl9];rfl
   ·simp only at hy
    rw [hl9] at hy
    obtain rfl:=List.mem_singleton.1 hy
    exact ⟨⟨SlK.nil,(Ym.mono hm2).h0⟩⟩
  ·skip
   refine YB ?_
   refine Yk (.inl rfl) (.nil) (fun w hw=>?_)
   have h3:XO (ZP.nd ⟨⟨⟨Za,Zc⟩,⟨Zf,Zh⟩,⟨Zj,Zi,Zg⟩,⟨Ze,Zd,Zb⟩⟩,Zt,Zs,ZF,Zz,ZM,ZB,Zx,Zv,Zo,Zy,Zn,Zw,⟨Zq,Zp,Zl⟩,ZE,ZG⟩) (ZQ.lt ⟨ZZ,⟨ZT,Yr⟩,YM,l_id,⟨Ye,Yd,ZR⟩,YF,⟨ZL,ZV⟩,⟨Yc,ZY,ZK⟩⟩)=((ZP.nd ⟨⟨⟨Za,Zc⟩,⟨Zf,Zh⟩,⟨Zj,Zi,Zg⟩,⟨Ze,Zd,Zb⟩⟩,Zt,Zs,ZF,Zz,ZM,ZB,Zx,Zv,Zo,Zy,Zn,Zw,⟨Zq,Zp,Zl⟩,ZE,ZG⟩),[]):=does3n hk (show Zs=false by first|assumption|(simp_all;done))
   refine ⟨_,M,[(bw,rowO (ZO.segs ⟨⟨⟨⟨Za,Zc⟩,⟨Zf,Zh⟩,⟨Zj,Zi,Zg⟩,⟨Ze,Zd,Zb⟩⟩,Zt,Zs,ZF,Zz,ZM,ZB,Zx,Zv,Zo,Zy,Zn,Zw,⟨Zq,Zp,Zl⟩,ZE,ZG⟩,⟨none,0,[]⟩⟩) 68)],rfl,Mem.le.refl M,hw.c,rfl,⟨⟨⟨Za,Zc⟩,⟨Zf,Zh⟩,⟨Zj,Zi,Zg⟩,⟨Ze,Zd,Zb⟩⟩,Zt,Zs,ZF,Zz,ZM,ZB,Zx,Zv,Zo,Zy,Zn,Zw,⟨Zq,Zp,Zl⟩,ZE,ZG⟩,⟨none,0,[]⟩,rfl,?_,?_,⟨Ym,Yq⟩,SlK.nil,fun y hy=>by cases hy⟩
   ·rw [h3] <;> rfl
   ·rw [h3] <;> rfl
theorem notify_ok (M:Mem) (bw:Nat) (Za:Int) (Zc:Plc) (Zf:Int) (Zh:Plc) (Zj Ze Zq:Option Addr) (Zi Zd Zp:Nat) (Zg Zb:List ZD) (Zl:List Int) (Zt:Int) (Zs:Bool) (ZF Zz ZM ZB Zx Zv Zo Zy Zn:Int) (Zw:Plc) (ZE ZG:Int) (Ym:ZS.ok M ⟨⟨Za,Zc⟩,⟨Zf,Zh⟩,⟨Zj,Zi,Zg⟩,⟨Ze,Zd,Zb⟩⟩) (Yq:SlK M (oneI .i64) 1 ⟨Zq,Zp,Zl⟩) (hbig:Zg.length≤40∧Zb.length≤200) (hLa:Zl.length≤1000) (hh:0≤ZE∧ZE≤1000) (l:ZQ) (hl0:ZQ.ok M l) (hLp:l.peers.l.length≤1000) (hk:l.kind=5):Fh Tryz.prog 49 [.pointer (some ⟨bw,0,none⟩),l.enc] M [(bw,rowO (ZO.segs ⟨⟨⟨⟨Za,Zc⟩,⟨Zf,Zh⟩,⟨Zj,Zi,Zg⟩,⟨Ze,Zd,Zb⟩⟩,Zt,Zs,ZF,Zz,ZM,ZB,Zx,Zv,Zo,Zy,Zn,Zw,⟨Zq,Zp,Zl⟩,ZE,ZG⟩,⟨none,0,[]⟩⟩) 68)] (fun M' v Hout=>v=.tuple #[]∧WkF bw 68 M' Hout (XO (ZP.nd ⟨⟨⟨Za,Zc⟩,⟨Zf,Zh⟩,⟨Zj,Zi,Zg⟩,⟨Ze,Zd,Zb⟩⟩,Zt,Zs,ZF,Zz,ZM,ZB,Zx,Zv,Zo,Zy,Zn,Zw,⟨Zq,Zp,Zl⟩,ZE,ZG⟩) l.lt)):=by
  obtain ⟨ZZ,⟨ZT,Yr⟩,YM,l_id,⟨Ye,Yd,ZR⟩,YF,⟨ZL,ZV⟩,⟨Yc,ZY,ZK⟩⟩:=l
  simp only at hLp hk
  have Xk:SlK M (oneI .i64) 1 ⟨Ye,Yd,ZR⟩:=hl0.h0
  have YZ:SlK M ZD.segs 21 ⟨Yc,ZY,ZK⟩:=hl0.h1
  have XI:=YZ.h1
  simp only at XI
  have Wx:(ZK.map ZD.segs).length=ZK.length:=List.length_map ..
  have Wy:ZK.length≤ZY:=YZ.h3
  refine XJ (fun H=>(bw,rowO (ZO.segs ⟨⟨⟨⟨Za,Zc⟩,⟨Zf,Zh⟩,⟨Zj,Zi,Zg⟩,⟨Ze,Zd,Zb⟩⟩,Zt,Zs,ZF,Zz,ZM,ZB,Zx,Zv,Zo,Zy,Zn,Zw,⟨Zq,Zp,Zl⟩,ZE,ZG⟩,⟨none,0,[]⟩⟩) 68)::H) (fun _=>by simp only [List.append_assoc,List.cons_append,List.nil_append]) Tryz.func49 rfl Tryz.ntmps49 rfl ?_;intro H
  refine ZJ (Zm (l:=[0]) rfl ?_)
  refine Xi ?_;intro b1
  refine Zu (Zr (Y_pk [3,0] ?_));refine YE (l:=[0,1,2,3,4,5,6,7,8,9,10,11,12]) #[0,0,2,6,14,30,0,64,254,511,1023,2047,4095] _ rfl (by kernel_rfl) (by kernel_rfl) St.drawn (fun _ h=>h) ?_
  iterate 2 refine ZA ?_
  refine ZU ?_;refine Zk F.foff68_0 ?_;refine Zk F.foff32_0 ?_;refine ZH F.lay28 ?_;refine Zk F.foff44_1 ?_;refine ZH F.lay25 ?_;refine X_fn rfl rfl F.ok107 rfl (Learn_ok _ ⟨⟨Za,Zc⟩,⟨Zf,Zh⟩,⟨Zj,Zi,Zg⟩,⟨Ze,Zd,Zb⟩⟩ ⟨ZT,Yr⟩ Ym) rfl ?_
  rintro _ M1 hm1 ⟨⟨⟨wa,wi⟩,⟨wq,wj⟩,⟨w1a,w1c,w1l⟩,⟨w2a,w2c,w2l⟩⟩,rfl,hol,okl⟩
  refine ZU ?_;refine Zk F.foff68_0 ?_;refine Zk F.foff32_0 ?_;refine Yi F.lay28 ?_;refine Zu ?_
  refine Yk (.inl rfl) (.nil) (fun w hw=>?_)
  have h3:XO (ZP.nd ⟨⟨⟨Za,Zc⟩,⟨Zf,Zh⟩,⟨Zj,Zi,Zg⟩,⟨Ze,Zd,Zb⟩⟩,Zt,Zs,ZF,Zz,ZM,ZB,Zx,Zv,Zo,Zy,Zn,Zw,⟨Zq,Zp,Zl⟩,ZE,ZG⟩) (ZQ.lt ⟨ZZ,⟨ZT,Yr⟩,YM,l_id,⟨Ye,Yd,ZR⟩,YF,⟨ZL,ZV⟩,⟨Yc,ZY,ZK⟩⟩)=(ZP.nd ⟨⟨⟨wa,wi⟩,⟨wq,wj⟩,⟨w1a,w1c,w1l⟩,⟨w2a,w2c,w2l⟩⟩,Zt,Zs,ZF,Zz,ZM,ZB,Zx,Zv,Zo,Zy,Zn,Zw,⟨Zq,Zp,Zl⟩,ZE,ZG⟩,[]):=does5 hk hol
  refine ⟨_,M1,[(bw,rowO (ZO.segs ⟨⟨⟨⟨wa,wi⟩,⟨wq,wj⟩,⟨w1a,w1c,w1l⟩,⟨w2a,w2c,w2l⟩⟩,Zt,Zs,ZF,Zz,ZM,ZB,Zx,Zv,Zo,Zy,Zn,Zw,⟨Zq,Zp,Zl⟩,ZE,ZG⟩,⟨none,0,[]⟩⟩) 68)],rfl,hm1,hw.c,rfl,⟨⟨⟨wa,wi⟩,⟨wq,wj⟩,⟨w1a,w1c,w1l⟩,⟨w2a,w2c,w2l⟩⟩,Zt,Zs,ZF,Zz,ZM,ZB,Zx,Zv,Zo,Zy,Zn,Zw,⟨Zq,Zp,Zl⟩,ZE,ZG⟩,⟨none,0,[]⟩,rfl,?_,?_,⟨okl,Yq.mono hm1⟩,SlK.nil,fun y hy=>by cases hy⟩
  ·rw [h3] <;> rfl
  ·rw [h3] <;> rfl
theorem ping_ok (M:Mem) (bw:Nat) (Za:Int) (Zc:Plc) (Zf:Int) (Zh:Plc) (Zj Ze Zq:Option Addr) (Zi Zd Zp:Nat) (Zg Zb:List ZD) (Zl:List Int) (Zt:Int) (Zs:Bool) (ZF Zz ZM ZB Zx Zv Zo Zy Zn:Int) (Zw:Plc) (ZE ZG:Int) (Ym:ZS.ok M ⟨⟨Za,Zc⟩,⟨Zf,Zh⟩,⟨Zj,Zi,Zg⟩,⟨Ze,Zd,Zb⟩⟩) (Yq:SlK M (oneI .i64) 1 ⟨Zq,Zp,Zl⟩) (hbig:Zg.length≤40∧Zb.length≤200) (hLa:Zl.length≤1000) (hh:0≤ZE∧ZE≤1000) (l:ZQ) (hl0:ZQ.ok M l) (hLp:l.peers.l.length≤1000) (hk:l.kind=6):Fh Tryz.prog 50 [.pointer (some ⟨bw,0,none⟩),l.enc] M [(bw,rowO (ZO.segs ⟨⟨⟨⟨Za,Zc⟩,⟨Zf,Zh⟩,⟨Zj,Zi,Zg⟩,⟨Ze,Zd,Zb⟩⟩,Zt,Zs,ZF,Zz,ZM,ZB,Zx,Zv,Zo,Zy,Zn,Zw,⟨Zq,Zp,Zl⟩,ZE,ZG⟩,⟨none,0,[]⟩⟩) 68)] (fun M' v Hout=>v=.tuple #[]∧WkF bw 68 M' Hout (XO (ZP.nd ⟨⟨⟨Za,Zc⟩,⟨Zf,Zh⟩,⟨Zj,Zi,Zg⟩,⟨Ze,Zd,Zb⟩⟩,Zt,Zs,ZF,Zz,ZM,ZB,Zx,Zv,Zo,Zy,Zn,Zw,⟨Zq,Zp,Zl⟩,ZE,ZG⟩) l.lt)):=by
  obtain ⟨ZZ,⟨ZT,Yr⟩,YM,l_id,⟨Ye,Yd,ZR⟩,YF,⟨ZL,ZV⟩,⟨Yc,ZY,ZK⟩⟩:=l
  simp only at hLp hk
  have Xk:SlK M (oneI .i64) 1 ⟨Ye,Yd,ZR⟩:=hl0.h0
  have YZ:SlK M ZD.segs 21 ⟨Yc,ZY,ZK⟩:=hl0.h1
  have XI:=YZ.h1
  simp only at XI
  have Wx:(ZK.map ZD.segs).length=ZK.length:=List.length_map ..
  have Wy:ZK.length≤ZY:=YZ.h3
  refine XJ (fun H=>(bw,rowO (ZO.segs ⟨⟨⟨⟨Za,Zc⟩,⟨Zf,Zh⟩,⟨Zj,Zi,Zg⟩,⟨Ze,Zd,Zb⟩⟩,Zt,Zs,ZF,Zz,ZM,ZB,Zx,Zv,Zo,Zy,Zn,Zw,⟨Zq,Zp,Zl⟩,ZE,ZG⟩,⟨none,0,[]⟩⟩) 68)::H) (fun _=>by simp only [List.append_assoc,List.cons_append,List.nil_append]) Tryz.func50 rfl Tryz.ntmps50 rfl ?_;intro H
  refine ZJ (Zm (l:=[0]) rfl ?_)
  refine Xi ?_;intro b1
  refine Zu (Zr (Y_pk [3,0] ?_));refine C_region_anyW (l:=[0,1,2,3,4,5,6,7,8]) [8] #[0,0,2,6,0,16,0,112,255] (_) rfl (by kernel_rfl) (by kernel_rfl) St.drawn (fun _ h=>h) ?_;refine ZA ?_;refine Zk F.foff44_1 ?_;refine Zk F.foff25_0 ?_;refine ZH F.lay3 ?_;refine Zk F.foff44_2 ?_;refine ZH F.lay29 ?_;refine X_fs rfl rfl F.ok66 rfl (WK _) rfl ?_
  rintro _ rfl
  refine Vo 10 rfl (show _=aggV [.one (.int .i64 (-1)),Yn 0] from rfl) ?_;refine Xn rfl rfl F.bld44 (.cons rfl (by constructor) (.cons rfl (by constructor) (.cons rfl (by constructor) .nil))) rfl rfl ?_;refine Wq rfl rfl rfl F.ok65 rfl (sendF_ok M bw Za Zc Zf Zh Zj Ze Zq Zi Zd Zp Zg Zb Zl Zt Zs ZF Zz ZM ZB Zx Zv Zo Zy Zn Zw ZE ZG ZT ⟨7,⟨0,0⟩,YM,0,⟨none,0,[]⟩,false,⟨-1,0⟩,⟨none,0,[]⟩⟩) (by repeat first|exact Rem.here _|exact Rem.two|apply Rem.skip|apply Rem.over) (Yw rfl) ?_
  rintro _ M2 hs2 hm2 ⟨rfl,⟨o9a,o9c,o9l⟩,rfl,k9o,hl9⟩
  simp only at hl9
  simp only [List.append_assoc,List.cons_append,List.nil_append]
  refine Zu (Wd ?_)
  refine Yk (.inl rfl) (.nil) (fun w hw=>?_)
  have h3:XO (ZP.nd ⟨⟨⟨Za,Zc⟩,⟨Zf,Zh⟩,⟨Zj,Zi,Zg⟩,⟨Ze,Zd,Zb⟩⟩,Zt,Zs,ZF,Zz,ZM,ZB,Zx,Zv,Zo,Zy,Zn,Zw,⟨Zq,Zp,Zl⟩,ZE,ZG⟩) (ZQ.lt ⟨ZZ,⟨ZT,Yr⟩,YM,l_id,⟨Ye,Yd,ZR⟩,YF,⟨ZL,ZV⟩,⟨Yc,ZY,ZK⟩⟩)=(ZP.nd ⟨⟨⟨Za,Zc⟩,⟨Zf,Zh⟩,⟨Zj,Zi,Zg⟩,⟨Ze,Zd,Zb⟩⟩,Zt,Zs,ZF,Zz,ZM,ZB,Zx,Zv,Zo,Zy,Zn,Zw,⟨Zq,Zp,Zl⟩,ZE,ZG⟩,[Yv.snd (⟨ZT,(⟨7,⟨Za,Zc⟩,YM,0,⟨none,0,[]⟩,false,⟨-1,0⟩,⟨none,0,[]⟩⟩:ZQ)⟩:Yv)]):=does6 hk
  refine ⟨_,M2,[(bw,rowO (ZO.segs ⟨⟨⟨⟨Za,Zc⟩,⟨Zf,Zh⟩,⟨Zj,Zi,Zg⟩,⟨Ze,Zd,Zb⟩⟩,Zt,Zs,ZF,Zz,ZM,ZB,Zx,Zv,Zo,Zy,Zn,Zw,⟨Zq,Zp,Zl⟩,ZE,ZG⟩,⟨o9a,o9c,o9l⟩⟩) 68)],rfl,hm2,hw.c,rfl,⟨⟨⟨Za,Zc⟩,⟨Zf,Zh⟩,⟨Zj,Zi,Zg⟩,⟨Ze,Zd,Zb⟩⟩,Zt,Zs,ZF,Zz,ZM,ZB,Zx,Zv,Zo,Zy,Zn,Zw,⟨Zq,Zp,Zl⟩,ZE,ZG⟩,⟨o9a,o9c,o9l⟩,rfl,?_,?_,⟨Ym.mono hm2,Yq.mono hm2⟩,k9o,fun y hy=>?_⟩
  ·rw [h3] <;> rfl
  ·rw [h3]
   show sndl o9l=_
   rw [hl9];rfl
  ·simp only at hy
   rw [hl9] at hy
   obtain rfl:=List.mem_singleton.1 hy
   exact ⟨⟨SlK.nil,SlK.nil⟩⟩
theorem pong_ok (M:Mem) (bw:Nat) (Za:Int) (Zc:Plc) (Zf:Int) (Zh:Plc) (Zj Ze Zq:Option Addr) (Zi Zd Zp:Nat) (Zg Zb:List ZD) (Zl:List Int) (Zt:Int) (Zs:Bool) (ZF Zz ZM ZB Zx Zv Zo Zy Zn:Int) (Zw:Plc) (ZE ZG:Int) (Ym:ZS.ok M ⟨⟨Za,Zc⟩,⟨Zf,Zh⟩,⟨Zj,Zi,Zg⟩,⟨Ze,Zd,Zb⟩⟩) (Yq:SlK M (oneI .i64) 1 ⟨Zq,Zp,Zl⟩) (hbig:Zg.length≤40∧Zb.length≤200) (hLa:Zl.length≤1000) (hh:0≤ZE∧ZE≤1000) (l:ZQ) (hl0:ZQ.ok M l) (hLp:l.peers.l.length≤1000) (hk:l.kind=7):Fh Tryz.prog 51 [.pointer (some ⟨bw,0,none⟩),l.enc] M [(bw,rowO (ZO.segs ⟨⟨⟨⟨Za,Zc⟩,⟨Zf,Zh⟩,⟨Zj,Zi,Zg⟩,⟨Ze,Zd,Zb⟩⟩,Zt,Zs,ZF,Zz,ZM,ZB,Zx,Zv,Zo,Zy,Zn,Zw,⟨Zq,Zp,Zl⟩,ZE,ZG⟩,⟨none,0,[]⟩⟩) 68)] (fun M' v Hout=>v=.tuple #[]∧WkF bw 68 M' Hout (XO (ZP.nd ⟨⟨⟨Za,Zc⟩,⟨Zf,Zh⟩,⟨Zj,Zi,Zg⟩,⟨Ze,Zd,Zb⟩⟩,Zt,Zs,ZF,Zz,ZM,ZB,Zx,Zv,Zo,Zy,Zn,Zw,⟨Zq,Zp,Zl⟩,ZE,ZG⟩) l.lt)):=by
  obtain ⟨ZZ,⟨ZT,Yr⟩,YM,l_id,⟨Ye,Yd,ZR⟩,YF,⟨ZL,ZV⟩,⟨Yc,ZY,ZK⟩⟩:=l
  simp only at hLp hk
  have Xk:SlK M (oneI .i64) 1 ⟨Ye,Yd,ZR⟩:=hl0.h0
  have YZ:SlK M ZD.segs 21 ⟨Yc,ZY,ZK⟩:=hl0.h1
  have XI:=YZ.h1
  simp only at XI
  have Wx:(ZK.map ZD.segs).length=ZK.length:=List.length_map ..
  have Wy:ZK.length≤ZY:=YZ.h3
  refine XJ (fun H=>(bw,rowO (ZO.segs ⟨⟨⟨⟨Za,Zc⟩,⟨Zf,Zh⟩,⟨Zj,Zi,Zg⟩,⟨Ze,Zd,Zb⟩⟩,Zt,Zs,ZF,Zz,ZM,ZB,Zx,Zv,Zo,Zy,Zn,Zw,⟨Zq,Zp,Zl⟩,ZE,ZG⟩,⟨none,0,[]⟩⟩) 68)::H) (fun _=>by simp only [List.append_assoc,List.cons_append,List.nil_append]) Tryz.func51 rfl Tryz.ntmps51 rfl ?_;intro H
  refine ZJ (Zm (l:=[0]) rfl ?_)
  refine Xi ?_;intro b1
  refine Zu (Zr (Y_pk [3,0] ?_));refine ZJ (YE (l:=[0,1,2,3,4,5,6,7,8,9,10,11,12,13,14,15,16,17,18]) #[0,1,3,7,15,0,32,96,255,511,1023,2047,4095,8191,16383,1023,33791,131071,262143] _ rfl (by kernel_rfl) (by kernel_rfl) St.drawn (fun _ h=>h) ?_);refine ZA ?_;refine ZU ?_;refine Zk F.foff68_0 ?_;refine Zk F.foff32_8 ?_;refine ZH F.lay3 ?_;refine Zk F.foff44_1 ?_;refine Zk F.foff25_0 ?_;refine ZH F.lay3 ?_;refine Yy ?_;refine ZA ?_
  refine Yj 13 rfl (fun hc2=>?_) (fun hc2=>?_)
  ·replace hc2:=dT hc2
   refine ZA ?_;refine ZU ?_;refine Zk F.foff68_0 ?_;refine Zk F.foff32_9 ?_;refine ZH F.lay29 ?_;refine Zk F.foff44_2 ?_;refine ZH F.lay29 ?_;refine Yy ?_;refine ZN ?_;refine Zu (Zr (Y_pk [22,0] ?_))
   refine Yz rfl (fun hc3=>?_) (fun hc3=>?_)
   ·replace hc3:=dT hc3
    refine Zm (l:=[0,1,2,3,4]) rfl ?_;refine ZA ?_;refine ZU ?_;refine Zk F.foff68_0 ?_;refine Zk F.foff32_8 ?_;refine Yi F.lay3 ?_;refine Zu ?_
    refine Yk (.inl rfl) (.nil) (fun w hw=>?_)
    have h3:XO (ZP.nd ⟨⟨⟨Za,Zc⟩,⟨Zf,Zh⟩,⟨Zj,Zi,Zg⟩,⟨Ze,Zd,Zb⟩⟩,Zt,Zs,ZF,Zz,ZM,ZB,Zx,Zv,Zo,Zy,Zn,Zw,⟨Zq,Zp,Zl⟩,ZE,ZG⟩) (ZQ.lt ⟨ZZ,⟨ZT,Yr⟩,YM,l_id,⟨Ye,Yd,ZR⟩,YF,⟨ZL,ZV⟩,⟨Yc,ZY,ZK⟩⟩)=(ZP.nd ⟨⟨⟨Za,Zc⟩,⟨Zf,Zh⟩,⟨Zj,Zi,Zg⟩,⟨Ze,Zd,Zb⟩⟩,Zt,Zs,ZF,Zz,ZM,ZB,Zx,(-1),Zo,Zy,Zn,Zw,⟨Zq,Zp,Zl⟩,ZE,ZG⟩,[]):=does7y hk (show Zv=ZT∧Zo=YM by constructor <;> first|assumption|omega)
    refine ⟨_,M,[(bw,rowO (ZO.segs ⟨⟨⟨⟨Za,Zc⟩,⟨Zf,Zh⟩,⟨Zj,Zi,Zg⟩,⟨Ze,Zd,Zb⟩⟩,Zt,Zs,ZF,Zz,ZM,ZB,Zx,(-1),Zo,Zy,Zn,Zw,⟨Zq,Zp,Zl⟩,ZE,ZG⟩,⟨none,0,[]⟩⟩) 68)],rfl,Mem.le.refl M,hw.c,rfl,⟨⟨⟨Za,Zc⟩,⟨Zf,Zh⟩,⟨Zj,Zi,Zg⟩,⟨Ze,Zd,Zb⟩⟩,Zt,Zs,ZF,Zz,ZM,ZB,Zx,(-1),Zo,Zy,Zn,Zw,⟨Zq,Zp,Zl⟩,ZE,ZG⟩,⟨none,0,[]⟩,rfl,?_,?_,⟨Ym,Yq⟩,SlK.nil,fun y hy=>by cases hy⟩
    ·rw [h3] <;> rfl
    ·rw [h3] <;> rfl
   ·replace hc3:=dF hc3
    refine YB ?_
    refine Yk (.inl rfl) (.nil) (fun w hw=>?_)
    have h3:XO (ZP.nd ⟨⟨⟨Za,Zc⟩,⟨Zf,Zh⟩,⟨Zj,Zi,Zg⟩,⟨Ze,Zd,Zb⟩⟩,Zt,Zs,ZF,Zz,ZM,ZB,Zx,Zv,Zo,Zy,Zn,Zw,⟨Zq,Zp,Zl⟩,ZE,ZG⟩) (ZQ.lt ⟨ZZ,⟨ZT,Yr⟩,YM,l_id,⟨Ye,Yd,ZR⟩,YF,⟨ZL,ZV⟩,⟨Yc,ZY,ZK⟩⟩)=(ZP.nd ⟨⟨⟨Za,Zc⟩,⟨Zf,Zh⟩,⟨Zj,Zi,Zg⟩,⟨Ze,Zd,Zb⟩⟩,Zt,Zs,ZF,Zz,ZM,ZB,Zx,Zv,Zo,Zy,Zn,Zw,⟨Zq,Zp,Zl⟩,ZE,ZG⟩,[]):=does7n hk (show ¬(Zv=ZT∧Zo=YM) by rintro ⟨q1,q2⟩;first|contradiction|omega)
    refine ⟨_,M,[(bw,rowO (ZO.segs ⟨⟨⟨⟨Za,Zc⟩,⟨Zf,Zh⟩,⟨Zj,Zi,Zg⟩,⟨Ze,Zd,Zb⟩⟩,Zt,Zs,ZF,Zz,ZM,ZB,Zx,Zv,Zo,Zy,Zn,Zw,⟨Zq,Zp,Zl⟩,ZE,ZG⟩,⟨none,0,[]⟩⟩) 68)],rfl,Mem.le.refl M,hw.c,rfl,⟨⟨⟨Za,Zc⟩,⟨Zf,Zh⟩,⟨Zj,Zi,Zg⟩,⟨Ze,Zd,Zb⟩⟩,Zt,Zs,ZF,Zz,ZM,ZB,Zx,Zv,Zo,Zy,Zn,Zw,⟨Zq,Zp,Zl⟩,ZE,ZG⟩,⟨none,0,[]⟩,rfl,?_,?_,⟨Ym,Yq⟩,SlK.nil,fun y hy=>by cases hy⟩
    ·rw [h3] <;> rfl
    ·rw [h3] <;> rfl
  ·replace hc2:=dF hc2
   iterate 8 refine Ya ?_
   refine ZN ?_;refine Zu (Zr (Y_pk [22,0] ?_));refine Wn rfl ?_;refine YB ?_
   refine Yk (.inl rfl) (.nil) (fun w hw=>?_)
   have h3:XO (ZP.nd ⟨⟨⟨Za,Zc⟩,⟨Zf,Zh⟩,⟨Zj,Zi,Zg⟩,⟨Ze,Zd,Zb⟩⟩,Zt,Zs,ZF,Zz,ZM,ZB,Zx,Zv,Zo,Zy,Zn,Zw,⟨Zq,Zp,Zl⟩,ZE,ZG⟩) (ZQ.lt ⟨ZZ,⟨ZT,Yr⟩,YM,l_id,⟨Ye,Yd,ZR⟩,YF,⟨ZL,ZV⟩,⟨Yc,ZY,ZK⟩⟩)=(ZP.nd ⟨⟨⟨Za,Zc⟩,⟨Zf,Zh⟩,⟨Zj,Zi,Zg⟩,⟨Ze,Zd,Zb⟩⟩,Zt,Zs,ZF,Zz,ZM,ZB,Zx,Zv,Zo,Zy,Zn,Zw,⟨Zq,Zp,Zl⟩,ZE,ZG⟩,[]):=does7n hk (show ¬(Zv=ZT∧Zo=YM) by rintro ⟨q1,q2⟩;first|contradiction|omega)
   refine ⟨_,M,[(bw,rowO (ZO.segs ⟨⟨⟨⟨Za,Zc⟩,⟨Zf,Zh⟩,⟨Zj,Zi,Zg⟩,⟨Ze,Zd,Zb⟩⟩,Zt,Zs,ZF,Zz,ZM,ZB,Zx,Zv,Zo,Zy,Zn,Zw,⟨Zq,Zp,Zl⟩,ZE,ZG⟩,⟨none,0,[]⟩⟩) 68)],rfl,Mem.le.refl M,hw.c,rfl,⟨⟨⟨Za,Zc⟩,⟨Zf,Zh⟩,⟨Zj,Zi,Zg⟩,⟨Ze,Zd,Zb⟩⟩,Zt,Zs,ZF,Zz,ZM,ZB,Zx,Zv,Zo,Zy,Zn,Zw,⟨Zq,Zp,Zl⟩,ZE,ZG⟩,⟨none,0,[]⟩,rfl,?_,?_,⟨Ym,Yq⟩,SlK.nil,fun y hy=>by cases hy⟩
   ·rw [h3] <;> rfl
   ·rw [h3] <;> rfl
end Go.Proofs.YtajmnjefajknoaaGreat
namespace Go.Proofs.YtajmnjefajknoaaGreat
open Go.Esp
theorem F.ok102:okFn Tryz.prog 102=true:=by kernel_rfl
theorem F.ok53:okFn Tryz.prog 53=true:=by kernel_rfl
theorem end_ok (M:Mem) (bw:Nat) (Za:Int) (Zc:Plc) (Zf:Int) (Zh:Plc) (Zj Ze Zq:Option Addr) (Zi Zd Zp:Nat) (Zg Zb:List ZD) (Zl:List Int) (Zt:Int) (Zs:Bool) (ZF Zz ZM ZB Zx Zv Zo Zy Zn:Int) (Zw:Plc) (ZE ZG:Int) (Ym:ZS.ok M ⟨⟨Za,Zc⟩,⟨Zf,Zh⟩,⟨Zj,Zi,Zg⟩,⟨Ze,Zd,Zb⟩⟩) (Yq:SlK M (oneI .i64) 1 ⟨Zq,Zp,Zl⟩) (p:ZD):Fh Tryz.prog 102 [.pointer (some ⟨bw,0,none⟩),p.enc] M [(bw,rowO (ZO.segs ⟨⟨⟨⟨Za,Zc⟩,⟨Zf,Zh⟩,⟨Zj,Zi,Zg⟩,⟨Ze,Zd,Zb⟩⟩,Zt,Zs,ZF,Zz,ZM,ZB,Zx,Zv,Zo,Zy,Zn,Zw,⟨Zq,Zp,Zl⟩,ZE,ZG⟩,⟨none,0,[]⟩⟩) 68)] (fun M' v Hout=>v=.tuple #[]∧∃ n9:ZP,Hout=[(bw,rowO (ZO.segs ⟨n9,⟨none,0,[]⟩⟩) 68)]∧ZP.ok M' n9∧n9.nd=endN (ZP.nd ⟨⟨⟨Za,Zc⟩,⟨Zf,Zh⟩,⟨Zj,Zi,Zg⟩,⟨Ze,Zd,Zb⟩⟩,Zt,Zs,ZF,Zz,ZM,ZB,Zx,Zv,Zo,Zy,Zn,Zw,⟨Zq,Zp,Zl⟩,ZE,ZG⟩) p):=by
  obtain ⟨YX,p_id⟩:=p
  refine XJ (fun H=>(bw,rowO (ZO.segs ⟨⟨⟨⟨Za,Zc⟩,⟨Zf,Zh⟩,⟨Zj,Zi,Zg⟩,⟨Ze,Zd,Zb⟩⟩,Zt,Zs,ZF,Zz,ZM,ZB,Zx,Zv,Zo,Zy,Zn,Zw,⟨Zq,Zp,Zl⟩,ZE,ZG⟩,⟨none,0,[]⟩⟩) 68)::H) (fun _=>by simp only [List.append_assoc,List.cons_append,List.nil_append]) Tryz.func102 rfl Tryz.ntmps102 rfl ?_;intro H
  refine ZJ (Zm (l:=[0]) rfl ?_)
  refine Xi ?_;intro b1
  refine Zu (Zr (Y_pk [3,0] ?_));refine Xd (ZJ (YE (l:=[0,1,2,3,4,5,6,7,8,9,10,11,12,13,14,15,16,17,18,19,20]) #[0,1,3,7,15,31,63,63,255,511,1023,1023,3071,7167,15359,31743,64511,131071,262143,524287,1048575] _ rfl (by kernel_rfl) (by kernel_rfl) St.drawn (fun _ h=>h) ?_));refine ZA ?_;refine ZU ?_;refine Zk F.foff68_0 ?_;refine Zk F.foff32_2 ?_;refine ZH F.lay4 ?_;refine ZA ?_
  refine Yj 10 rfl (fun hc2=>?_) (fun hc2=>?_)
  ·skip
   refine ZA ?_;refine ZH F.lay25 ?_;refine X_fo rfl rfl F.ok53 rfl (wother_ok M bw Za Zc Zf Zh Zj Ze Zq Zi Zd Zp Zg Zb Zl Zt Zs ZF Zz ZM ZB Zx Zv Zo Zy Zn Zw ZE ZG ⟨YX,p_id⟩) (by repeat first|exact Rem.here _|exact Rem.two|apply Rem.skip|apply Rem.over) (Yw rfl) ?_
   rintro _ M1 _ ⟨hM1,rfl⟩;subst M1
   refine ZA ?_
   refine Yj 14 rfl (fun hc3=>?_) (fun hc3=>?_)
   ·replace hc3:=dT hc3
    iterate 8 refine Ya ?_
    iterate 2 refine ZN ?_
    refine ZC ?_;refine Zu (Zr (Y_pk [4,3,0] ?_));refine Xm rfl ?_;refine Xl (l:=[0,1,2]) [2] rfl ?_;refine ZA ?_;refine ZH F.lay25 ?_;refine Wq rfl rfl rfl F.ok87 rfl (point_ok M bw Za Zc Zf Zh Zj Ze Zq Zi Zd Zp Zg Zb Zl Zt Zs ZF Zz ZM ZB Zx Zv Zo Zy Zn Zw ZE ZG Ym ⟨YX,p_id⟩) (by repeat first|exact Rem.here _|exact Rem.two|apply Rem.skip|apply Rem.over) (Yw rfl) ?_
    rintro _ M1 hs1 hm1 ⟨rfl,⟨⟨wa,wi⟩,⟨wq,wj⟩,⟨w1a,w1c,w1l⟩,⟨w2a,w2c,w2l⟩⟩,c9,rfl,okl,hv1⟩
    simp only [List.append_assoc,List.cons_append,List.nil_append]
    refine Zu (Wd ?_);refine XX ?_
    refine Yk (.inl rfl) (.nil) (fun w hw=>?_)
    (refine ⟨_,M1,[(bw,rowO (ZO.segs ⟨⟨⟨⟨wa,wi⟩,⟨wq,wj⟩,⟨w1a,w1c,w1l⟩,⟨w2a,w2c,w2l⟩⟩,Zt,Zs,ZF,c9,ZM,ZB,Zx,Zv,Zo,Zy,Zn,Zw,⟨Zq,Zp,Zl⟩,ZE,ZG⟩,⟨none,0,[]⟩⟩) 68)],rfl,hm1,?_,rfl,⟨⟨⟨wa,wi⟩,⟨wq,wj⟩,⟨w1a,w1c,w1l⟩,⟨w2a,w2c,w2l⟩⟩,Zt,Zs,ZF,c9,ZM,ZB,Zx,Zv,Zo,Zy,Zn,Zw,⟨Zq,Zp,Zl⟩,ZE,ZG⟩,rfl,⟨okl,Yq.mono hm1⟩,hv1.trans (end_point (n:=(ZP.nd ⟨⟨⟨Za,Zc⟩,⟨Zf,Zh⟩,⟨Zj,Zi,Zg⟩,⟨Ze,Zd,Zb⟩⟩,Zt,Zs,ZF,Zz,ZM,ZB,Zx,Zv,Zo,Zy,Zn,Zw,⟨Zq,Zp,Zl⟩,ZE,ZG⟩)) (show Zs=true by first|assumption|(simp_all;done)) (show Xh ⟨Za,Zc⟩ ⟨YX,p_id⟩∨(⟨YX,p_id⟩:ZD)=⟨Za,Zc⟩ by first|exact .inl (by assumption)|exact .inr (by assumption))).symm⟩;simp only [ZO.segs,Sl.val,List.length_nil] at hw ⊢;exact hw.c)
   ·replace hc3:=dF hc3
    refine ZH F.lay25 ?_;refine ZA ?_;refine ZU ?_;refine Zk F.foff68_0 ?_;refine Zk F.foff32_0 ?_;refine Zk F.foff28_0 ?_;refine ZH F.lay25 ?_
    refine Wu (m:=20) rfl rfl rfl rfl rfl (by constructor) (by constructor) F.lay25 F.kinds25 rfl F.guard25 (by exact Xv (⟨_,_⟩)) (by exact Xv (⟨_,_⟩)) rfl rfl rfl ?_;intro c4 he5
    replace he5:c4=true↔Segs.cells _=Segs.cells _:=he5
    obtain rfl:=eqD he5 (ZD.inj (x:=⟨_,_⟩) (y:=⟨_,_⟩));clear he5
    iterate 2 refine ZN ?_
    refine ZC ?_;refine Zu (Zr (Y_pk [4,3,0] ?_))
    refine Yz rfl (fun hc6=>?_) (fun hc6=>?_)
    ·replace hc6:=dT hc6
     refine Xl (l:=[0,1,2]) [2] rfl ?_;refine ZA ?_;refine ZH F.lay25 ?_;refine Wq rfl rfl rfl F.ok87 rfl (point_ok M bw Za Zc Zf Zh Zj Ze Zq Zi Zd Zp Zg Zb Zl Zt Zs ZF Zz ZM ZB Zx Zv Zo Zy Zn Zw ZE ZG Ym ⟨YX,p_id⟩) (by repeat first|exact Rem.here _|exact Rem.two|apply Rem.skip|apply Rem.over) (Yw rfl) ?_
     rintro _ M1 hs1 hm1 ⟨rfl,⟨⟨wa,wi⟩,⟨wq,wj⟩,⟨w1a,w1c,w1l⟩,⟨w2a,w2c,w2l⟩⟩,c9,rfl,okl,hv1⟩
     simp only [List.append_assoc,List.cons_append,List.nil_append]
     refine Zu (Wd ?_);refine XX ?_
     refine Yk (.inl rfl) (.nil) (fun w hw=>?_)
     (refine ⟨_,M1,[(bw,rowO (ZO.segs ⟨⟨⟨⟨wa,wi⟩,⟨wq,wj⟩,⟨w1a,w1c,w1l⟩,⟨w2a,w2c,w2l⟩⟩,Zt,Zs,ZF,c9,ZM,ZB,Zx,Zv,Zo,Zy,Zn,Zw,⟨Zq,Zp,Zl⟩,ZE,ZG⟩,⟨none,0,[]⟩⟩) 68)],rfl,hm1,?_,rfl,⟨⟨⟨wa,wi⟩,⟨wq,wj⟩,⟨w1a,w1c,w1l⟩,⟨w2a,w2c,w2l⟩⟩,Zt,Zs,ZF,c9,ZM,ZB,Zx,Zv,Zo,Zy,Zn,Zw,⟨Zq,Zp,Zl⟩,ZE,ZG⟩,rfl,⟨okl,Yq.mono hm1⟩,hv1.trans (end_point (n:=(ZP.nd ⟨⟨⟨Za,Zc⟩,⟨Zf,Zh⟩,⟨Zj,Zi,Zg⟩,⟨Ze,Zd,Zb⟩⟩,Zt,Zs,ZF,Zz,ZM,ZB,Zx,Zv,Zo,Zy,Zn,Zw,⟨Zq,Zp,Zl⟩,ZE,ZG⟩)) (show Zs=true by first|assumption|(simp_all;done)) (show Xh ⟨Za,Zc⟩ ⟨YX,p_id⟩∨(⟨YX,p_id⟩:ZD)=⟨Za,Zc⟩ by first|exact .inl (by assumption)|exact .inr (by assumption))).symm⟩;simp only [ZO.segs,Sl.val,List.length_nil] at hw ⊢;exact hw.c)
    ·replace hc6:=dF hc6
     refine ZJ (Zm (l:=[0,1,2,3,4,5,6,7,8,9,10,11]) rfl ?_);refine ZA ?_;refine ZU ?_;refine Zk F.foff68_0 ?_;refine Zk F.foff32_2 ?_;refine ZH F.lay4 ?_;refine Xw ?_;refine ZA ?_
     refine Yj 35 rfl (fun hc7=>?_) (fun hc7=>?_)
     ·skip
      refine ZA ?_;refine ZH F.lay25 ?_;refine X_fo rfl rfl F.ok53 rfl (wother_ok M bw Za Zc Zf Zh Zj Ze Zq Zi Zd Zp Zg Zb Zl Zt Zs ZF Zz ZM ZB Zx Zv Zo Zy Zn Zw ZE ZG ⟨YX,p_id⟩) (by repeat first|exact Rem.here _|exact Rem.two|apply Rem.skip|apply Rem.over) (Yw rfl) ?_
      rintro _ M1 _ ⟨hM1,rfl⟩;subst M1
      refine ZN ?_;refine ZC ?_;refine Zu (Zr (Y_pk [28,3,0] ?_))
      refine Yz rfl (fun hc8=>?_) (fun hc8=>?_)
      ·replace hc8:=dT hc8
       contradiction
      ·replace hc8:=dF hc8
       refine YB (XX ?_)
       refine Yk (.inl rfl) (.nil) (fun w hw=>?_)
       (exfalso;simp_all;done)
     ·skip
      iterate 3 refine Ya ?_
      refine ZN ?_;refine ZC ?_;refine Zu (Zr (Y_pk [28,3,0] ?_));refine Wn rfl ?_;refine YB (XX ?_)
      refine Yk (.inl rfl) (.nil) (fun w hw=>?_)
      (refine ⟨_,M,[(bw,rowO (ZO.segs ⟨⟨⟨⟨Za,Zc⟩,⟨Zf,Zh⟩,⟨Zj,Zi,Zg⟩,⟨Ze,Zd,Zb⟩⟩,Zt,Zs,ZF,Zz,ZM,ZB,Zx,Zv,Zo,Zy,Zn,Zw,⟨Zq,Zp,Zl⟩,ZE,ZG⟩,⟨none,0,[]⟩⟩) 68)],rfl,Mem.le.refl M,?_,rfl,⟨⟨⟨Za,Zc⟩,⟨Zf,Zh⟩,⟨Zj,Zi,Zg⟩,⟨Ze,Zd,Zb⟩⟩,Zt,Zs,ZF,Zz,ZM,ZB,Zx,Zv,Zo,Zy,Zn,Zw,⟨Zq,Zp,Zl⟩,ZE,ZG⟩,rfl,⟨Ym,Yq⟩,(end_not (n:=(ZP.nd ⟨⟨⟨Za,Zc⟩,⟨Zf,Zh⟩,⟨Zj,Zi,Zg⟩,⟨Ze,Zd,Zb⟩⟩,Zt,Zs,ZF,Zz,ZM,ZB,Zx,Zv,Zo,Zy,Zn,Zw,⟨Zq,Zp,Zl⟩,ZE,ZG⟩)) (p:=⟨YX,p_id⟩) (fun q=>by
       have q9:Zs=true:=q
       exact ⟨show ¬Xh ⟨Za,Zc⟩ ⟨YX,p_id⟩ by first|assumption|(exfalso;simp_all;done),show ¬(⟨YX,p_id⟩:ZD)=⟨Za,Zc⟩ by first|assumption|(exfalso;simp_all;done)⟩) (fun q=>by
       have q9:Zs=false:=q
       (show ¬Xh ⟨Za,Zc⟩ ⟨YX,p_id⟩;assumption))).symm⟩;simp only [ZO.segs,Sl.val,List.length_nil] at hw ⊢;exact hw.c)
  ·skip
   iterate 13 refine Ya ?_
   refine ZN ?_;refine ZC ?_;refine Zu (Zr (Y_pk [4,3,0] ?_));refine Wn rfl ?_;refine ZJ (Zm (l:=[0,1,2,3,4,5,6,7,8,9,10,11]) rfl ?_);refine ZA ?_;refine ZU ?_;refine Zk F.foff68_0 ?_;refine Zk F.foff32_2 ?_;refine ZH F.lay4 ?_;refine Xw ?_;refine ZA ?_
   refine Yj 35 rfl (fun hc9=>?_) (fun hc9=>?_)
   ·skip
    refine ZA ?_;refine ZH F.lay25 ?_;refine X_fo rfl rfl F.ok53 rfl (wother_ok M bw Za Zc Zf Zh Zj Ze Zq Zi Zd Zp Zg Zb Zl Zt Zs ZF Zz ZM ZB Zx Zv Zo Zy Zn Zw ZE ZG ⟨YX,p_id⟩) (by repeat first|exact Rem.here _|exact Rem.two|apply Rem.skip|apply Rem.over) (Yw rfl) ?_
    rintro _ M1 _ ⟨hM1,rfl⟩;subst M1
    refine ZN ?_;refine ZC ?_;refine Zu (Zr (Y_pk [28,3,0] ?_))
    refine Yz rfl (fun hc10=>?_) (fun hc10=>?_)
    ·replace hc10:=dT hc10
     refine ZJ (Xl (l:=[0,1,2]) [2] rfl ?_);refine ZA ?_;refine ZH F.lay25 ?_;refine Wq rfl rfl rfl F.ok82 rfl (adopt_ok M bw Za Zc Zf Zh Zj Ze Zq Zi Zd Zp Zg Zb Zl Zt Zs ZF Zz ZM ZB Zx Zv Zo Zy Zn Zw ZE ZG Ym ⟨YX,p_id⟩ ⟨none,0,[]⟩ SlK.nil) (by repeat first|exact Rem.here _|exact Rem.two|apply Rem.skip|apply Rem.over) (Yw rfl) ?_
     rintro _ M1 hs1 hm1 ⟨rfl,⟨⟨wa,wi⟩,⟨wq,wj⟩,⟨w1a,w1c,w1l⟩,⟨w2a,w2c,w2l⟩⟩,rfl,okl,hv1⟩
     simp only [List.append_assoc,List.cons_append,List.nil_append]
     refine Zu (Wd ?_);refine Zr (Y_pk [0] ?_);refine Zm (l:=[0,1,2,3,4,5,6,7,8,9,10,11,12,13,14]) rfl ?_
     iterate 3 refine ZA ?_
     refine ZU ?_;refine Zk F.foff68_0 ?_;refine Zk F.foff32_2 ?_;refine Yi F.lay4 ?_;refine ZU ?_;refine Zk F.foff68_0 ?_;refine Zk F.foff32_4 ?_;refine Yi F.lay3 ?_;refine ZU ?_;refine Zk F.foff68_0 ?_;refine Zk F.foff32_13 ?_;refine Yi F.lay30 ?_;refine Zu (XX ?_)
     refine Yk (.inl rfl) (.nil) (fun w hw=>?_)
     (refine ⟨_,M1,[(bw,rowO (ZO.segs ⟨⟨⟨⟨wa,wi⟩,⟨wq,wj⟩,⟨w1a,w1c,w1l⟩,⟨w2a,w2c,w2l⟩⟩,Zt,true,ZF,0,ZM,ZB,Zx,Zv,Zo,Zy,Zn,Zw,⟨none,0,[]⟩,ZE,ZG⟩,⟨none,0,[]⟩⟩) 68)],rfl,hm1,?_,rfl,⟨⟨⟨wa,wi⟩,⟨wq,wj⟩,⟨w1a,w1c,w1l⟩,⟨w2a,w2c,w2l⟩⟩,Zt,true,ZF,0,ZM,ZB,Zx,Zv,Zo,Zy,Zn,Zw,⟨none,0,[]⟩,ZE,ZG⟩,rfl,⟨okl,SlK.nil⟩,(end_adopt (n:=(ZP.nd ⟨⟨⟨Za,Zc⟩,⟨Zf,Zh⟩,⟨Zj,Zi,Zg⟩,⟨Ze,Zd,Zb⟩⟩,Zt,Zs,ZF,Zz,ZM,ZB,Zx,Zv,Zo,Zy,Zn,Zw,⟨Zq,Zp,Zl⟩,ZE,ZG⟩)) (show Zs=false by first|assumption|(simp_all;done)) (show Xh ⟨Za,Zc⟩ ⟨YX,p_id⟩ by assumption) hv1).symm⟩;simp only [ZO.segs,Sl.val,List.length_nil] at hw ⊢;exact hw.c)
    ·replace hc10:=dF hc10
     refine YB (XX ?_)
     refine Yk (.inl rfl) (.nil) (fun w hw=>?_)
     (refine ⟨_,M,[(bw,rowO (ZO.segs ⟨⟨⟨⟨Za,Zc⟩,⟨Zf,Zh⟩,⟨Zj,Zi,Zg⟩,⟨Ze,Zd,Zb⟩⟩,Zt,Zs,ZF,Zz,ZM,ZB,Zx,Zv,Zo,Zy,Zn,Zw,⟨Zq,Zp,Zl⟩,ZE,ZG⟩,⟨none,0,[]⟩⟩) 68)],rfl,Mem.le.refl M,?_,rfl,⟨⟨⟨Za,Zc⟩,⟨Zf,Zh⟩,⟨Zj,Zi,Zg⟩,⟨Ze,Zd,Zb⟩⟩,Zt,Zs,ZF,Zz,ZM,ZB,Zx,Zv,Zo,Zy,Zn,Zw,⟨Zq,Zp,Zl⟩,ZE,ZG⟩,rfl,⟨Ym,Yq⟩,(end_not (n:=(ZP.nd ⟨⟨⟨Za,Zc⟩,⟨Zf,Zh⟩,⟨Zj,Zi,Zg⟩,⟨Ze,Zd,Zb⟩⟩,Zt,Zs,ZF,Zz,ZM,ZB,Zx,Zv,Zo,Zy,Zn,Zw,⟨Zq,Zp,Zl⟩,ZE,ZG⟩)) (p:=⟨YX,p_id⟩) (fun q=>by
      have q9:Zs=true:=q
      exact ⟨show ¬Xh ⟨Za,Zc⟩ ⟨YX,p_id⟩ by first|assumption|(exfalso;simp_all;done),show ¬(⟨YX,p_id⟩:ZD)=⟨Za,Zc⟩ by first|assumption|(exfalso;simp_all;done)⟩) (fun q=>by
      have q9:Zs=false:=q
      (show ¬Xh ⟨Za,Zc⟩ ⟨YX,p_id⟩;assumption))).symm⟩;simp only [ZO.segs,Sl.val,List.length_nil] at hw ⊢;exact hw.c)
   ·skip
    iterate 3 refine Ya ?_
    refine ZN ?_;refine ZC ?_;refine Zu (Zr (Y_pk [28,3,0] ?_));refine Wn rfl ?_;refine YB (XX ?_)
    refine Yk (.inl rfl) (.nil) (fun w hw=>?_)
    (exfalso;simp_all;done)
theorem found_ok (M:Mem) (bw:Nat) (Za:Int) (Zc:Plc) (Zf:Int) (Zh:Plc) (Zj Ze Zq:Option Addr) (Zi Zd Zp:Nat) (Zg Zb:List ZD) (Zl:List Int) (Zt:Int) (Zs:Bool) (ZF Zz ZM ZB Zx Zv Zo Zy Zn:Int) (Zw:Plc) (ZE ZG:Int) (Ym:ZS.ok M ⟨⟨Za,Zc⟩,⟨Zf,Zh⟩,⟨Zj,Zi,Zg⟩,⟨Ze,Zd,Zb⟩⟩) (Yq:SlK M (oneI .i64) 1 ⟨Zq,Zp,Zl⟩) (hbig:Zg.length≤40∧Zb.length≤200) (hLa:Zl.length≤1000) (hh:0≤ZE∧ZE≤1000) (l:ZQ) (hl0:ZQ.ok M l) (hLp:l.peers.l.length≤1000) (hk:l.kind=2):Fh Tryz.prog 46 [.pointer (some ⟨bw,0,none⟩),l.enc] M [(bw,rowO (ZO.segs ⟨⟨⟨⟨Za,Zc⟩,⟨Zf,Zh⟩,⟨Zj,Zi,Zg⟩,⟨Ze,Zd,Zb⟩⟩,Zt,Zs,ZF,Zz,ZM,ZB,Zx,Zv,Zo,Zy,Zn,Zw,⟨Zq,Zp,Zl⟩,ZE,ZG⟩,⟨none,0,[]⟩⟩) 68)] (fun M' v Hout=>v=.tuple #[]∧WkF bw 68 M' Hout (XO (ZP.nd ⟨⟨⟨Za,Zc⟩,⟨Zf,Zh⟩,⟨Zj,Zi,Zg⟩,⟨Ze,Zd,Zb⟩⟩,Zt,Zs,ZF,Zz,ZM,ZB,Zx,Zv,Zo,Zy,Zn,Zw,⟨Zq,Zp,Zl⟩,ZE,ZG⟩) l.lt)):=by
  obtain ⟨ZZ,⟨ZT,Yr⟩,YM,l_id,⟨Ye,Yd,ZR⟩,YF,⟨ZL,ZV⟩,⟨Yc,ZY,ZK⟩⟩:=l
  simp only at hLp hk
  have Xk:SlK M (oneI .i64) 1 ⟨Ye,Yd,ZR⟩:=hl0.h0
  have YZ:SlK M ZD.segs 21 ⟨Yc,ZY,ZK⟩:=hl0.h1
  have XI:=YZ.h1
  simp only at XI
  have Wx:(ZK.map ZD.segs).length=ZK.length:=List.length_map ..
  have Wy:ZK.length≤ZY:=YZ.h3
  refine XJ (fun H=>(bw,rowO (ZO.segs ⟨⟨⟨⟨Za,Zc⟩,⟨Zf,Zh⟩,⟨Zj,Zi,Zg⟩,⟨Ze,Zd,Zb⟩⟩,Zt,Zs,ZF,Zz,ZM,ZB,Zx,Zv,Zo,Zy,Zn,Zw,⟨Zq,Zp,Zl⟩,ZE,ZG⟩,⟨none,0,[]⟩⟩) 68)::H) (fun _=>by simp only [List.append_assoc,List.cons_append,List.nil_append]) Tryz.func46 rfl Tryz.ntmps46 rfl ?_;intro H
  refine ZJ (Zm (l:=[0]) rfl ?_)
  refine Xi ?_;intro b1
  refine Zu (Zr (Y_pk [3,0] ?_))
  iterate 2 refine ZJ ?_
  refine YE (l:=[0,1,2,3,4,5,6,7,8,9,10,11,12,13,14,15,16,17,18]) #[0,1,3,7,15,0,32,96,255,511,1023,2047,4095,8191,16383,1023,33791,131071,262143] _ rfl (by kernel_rfl) (by kernel_rfl) St.drawn (fun _ h=>h) ?_;refine ZA ?_;refine ZU ?_;refine Zk F.foff68_0 ?_;refine Zk F.foff32_10 ?_;refine ZH F.lay3 ?_;refine Zk F.foff44_1 ?_;refine Zk F.foff25_0 ?_;refine ZH F.lay3 ?_;refine Yy ?_;refine ZA ?_
  refine Yj 13 rfl (fun hc2=>?_) (fun hc2=>?_)
  ·replace hc2:=nT hc2
   iterate 8 refine Ya ?_
   refine ZN ?_;refine Zu (Zr (Y_pk [22,3,0] ?_));refine Xm rfl ?_;refine Yu (YS ?_)
   refine Yk (.inr rfl) (.nil) (fun w hw=>?_)
   have h3:XO (ZP.nd ⟨⟨⟨Za,Zc⟩,⟨Zf,Zh⟩,⟨Zj,Zi,Zg⟩,⟨Ze,Zd,Zb⟩⟩,Zt,Zs,ZF,Zz,ZM,ZB,Zx,Zv,Zo,Zy,Zn,Zw,⟨Zq,Zp,Zl⟩,ZE,ZG⟩) (ZQ.lt ⟨ZZ,⟨ZT,Yr⟩,YM,l_id,⟨Ye,Yd,ZR⟩,YF,⟨ZL,ZV⟩,⟨Yc,ZY,ZK⟩⟩)=((ZP.nd ⟨⟨⟨Za,Zc⟩,⟨Zf,Zh⟩,⟨Zj,Zi,Zg⟩,⟨Ze,Zd,Zb⟩⟩,Zt,Zs,ZF,Zz,ZM,ZB,Zx,Zv,Zo,Zy,Zn,Zw,⟨Zq,Zp,Zl⟩,ZE,ZG⟩),[]):=(does2 hk).trans (found_no (by exact .inl (by assumption)))
   refine ⟨_,M,[(bw,rowO (ZO.segs ⟨⟨⟨⟨Za,Zc⟩,⟨Zf,Zh⟩,⟨Zj,Zi,Zg⟩,⟨Ze,Zd,Zb⟩⟩,Zt,Zs,ZF,Zz,ZM,ZB,Zx,Zv,Zo,Zy,Zn,Zw,⟨Zq,Zp,Zl⟩,ZE,ZG⟩,⟨none,0,[]⟩⟩) 68)],rfl,Mem.le.refl M,hw.c,rfl,⟨⟨⟨Za,Zc⟩,⟨Zf,Zh⟩,⟨Zj,Zi,Zg⟩,⟨Ze,Zd,Zb⟩⟩,Zt,Zs,ZF,Zz,ZM,ZB,Zx,Zv,Zo,Zy,Zn,Zw,⟨Zq,Zp,Zl⟩,ZE,ZG⟩,⟨none,0,[]⟩,rfl,?_,?_,⟨Ym,Yq⟩,SlK.nil,fun y hy=>by cases hy⟩
   ·rw [h3] <;> rfl
   ·rw [h3] <;> rfl
  ·replace hc2:=nF hc2
   refine ZA ?_;refine ZU ?_;refine Zk F.foff68_0 ?_;refine Zk F.foff32_11 ?_;refine ZH F.lay29 ?_;refine Zk F.foff44_2 ?_;refine ZH F.lay29 ?_;refine Yy ?_;refine ZN ?_;refine Zu (Zr (Y_pk [22,3,0] ?_))
   refine Yz rfl (fun hc3=>?_) (fun hc3=>?_)
   ·replace hc3:=nT hc3
    refine Yu (YS ?_)
    refine Yk (.inr rfl) (.nil) (fun w hw=>?_)
    have h3:XO (ZP.nd ⟨⟨⟨Za,Zc⟩,⟨Zf,Zh⟩,⟨Zj,Zi,Zg⟩,⟨Ze,Zd,Zb⟩⟩,Zt,Zs,ZF,Zz,ZM,ZB,Zx,Zv,Zo,Zy,Zn,Zw,⟨Zq,Zp,Zl⟩,ZE,ZG⟩) (ZQ.lt ⟨ZZ,⟨ZT,Yr⟩,YM,l_id,⟨Ye,Yd,ZR⟩,YF,⟨ZL,ZV⟩,⟨Yc,ZY,ZK⟩⟩)=((ZP.nd ⟨⟨⟨Za,Zc⟩,⟨Zf,Zh⟩,⟨Zj,Zi,Zg⟩,⟨Ze,Zd,Zb⟩⟩,Zt,Zs,ZF,Zz,ZM,ZB,Zx,Zv,Zo,Zy,Zn,Zw,⟨Zq,Zp,Zl⟩,ZE,ZG⟩),[]):=(does2 hk).trans (found_no (by exact .inr (by assumption)))
    refine ⟨_,M,[(bw,rowO (ZO.segs ⟨⟨⟨⟨Za,Zc⟩,⟨Zf,Zh⟩,⟨Zj,Zi,Zg⟩,⟨Ze,Zd,Zb⟩⟩,Zt,Zs,ZF,Zz,ZM,ZB,Zx,Zv,Zo,Zy,Zn,Zw,⟨Zq,Zp,Zl⟩,ZE,ZG⟩,⟨none,0,[]⟩⟩) 68)],rfl,Mem.le.refl M,hw.c,rfl,⟨⟨⟨Za,Zc⟩,⟨Zf,Zh⟩,⟨Zj,Zi,Zg⟩,⟨Ze,Zd,Zb⟩⟩,Zt,Zs,ZF,Zz,ZM,ZB,Zx,Zv,Zo,Zy,Zn,Zw,⟨Zq,Zp,Zl⟩,ZE,ZG⟩,⟨none,0,[]⟩,rfl,?_,?_,⟨Ym,Yq⟩,SlK.nil,fun y hy=>by cases hy⟩
    ·rw [h3] <;> rfl
    ·rw [h3] <;> rfl
   ·replace hc3:=nF hc3
    refine YB (Zr (Y_pk [3,0] ?_))
    iterate 2 refine ZJ ?_
    refine Zm (l:=[0,1]) rfl ?_;refine Zk F.foff44_5 ?_;refine ZH F.lay4 ?_;refine Zu (Zr (Y_pk [24,3,0] ?_))
    refine Yz rfl (fun hc4=>?_) (fun hc4=>?_)
    ·skip
     refine ZJ (Zm (l:=[0,1,2,3,4]) rfl ?_);refine ZA ?_;refine ZU ?_;refine Zk F.foff68_0 ?_;refine Zk F.foff32_10 ?_;refine Yi F.lay3 ?_;refine Zu (Zr (Y_pk [3,0] ?_));refine ZJ (Xl (l:=[0,1,2,3]) [3] rfl ?_);refine ZA ?_;refine Zk F.foff44_6 ?_;refine ZH F.lay25 ?_;refine Wq rfl rfl rfl F.ok102 rfl (end_ok M bw Za Zc Zf Zh Zj Ze Zq Zi Zd Zp Zg Zb Zl Zt Zs ZF Zz ZM ZB Zx Zv Zo (-1) Zn Zw ZE ZG Ym Yq ⟨ZL,ZV⟩) (by repeat first|exact Rem.here _|exact Rem.two|apply Rem.skip|apply Rem.over) (Yw rfl) ?_
     rintro _ M1 hs1 hm1 ⟨rfl,⟨⟨⟨YG,YP⟩,⟨YH,YQ⟩,⟨YV,YU,YT⟩,⟨YK,YJ,YI⟩⟩,XG,XK,Wh,XF,WF,XT,XH,XB,Xp,XC,Xq,XE,⟨Xt,Xs,Xr⟩,Wg,Wf⟩,rfl,okv,hv1⟩
     simp only [List.append_assoc,List.cons_append,List.nil_append]
     refine Zu (Wd ?_);refine Zr (Y_pk [3,0] ?_);refine Yu (YS ?_)
     refine Yk (.inr rfl) (.nil) (fun w hw=>?_)
     have h3:XO (ZP.nd ⟨⟨⟨Za,Zc⟩,⟨Zf,Zh⟩,⟨Zj,Zi,Zg⟩,⟨Ze,Zd,Zb⟩⟩,Zt,Zs,ZF,Zz,ZM,ZB,Zx,Zv,Zo,Zy,Zn,Zw,⟨Zq,Zp,Zl⟩,ZE,ZG⟩) (ZQ.lt ⟨ZZ,⟨ZT,Yr⟩,YM,l_id,⟨Ye,Yd,ZR⟩,YF,⟨ZL,ZV⟩,⟨Yc,ZY,ZK⟩⟩)=(ZP.nd ⟨⟨⟨YG,YP⟩,⟨YH,YQ⟩,⟨YV,YU,YT⟩,⟨YK,YJ,YI⟩⟩,XG,XK,Wh,XF,WF,XT,XH,XB,Xp,XC,Xq,XE,⟨Xt,Xs,Xr⟩,Wg,Wf⟩,[]):=(does2 hk).trans ((found_end (n:=(ZP.nd ⟨⟨⟨Za,Zc⟩,⟨Zf,Zh⟩,⟨Zj,Zi,Zg⟩,⟨Ze,Zd,Zb⟩⟩,Zt,Zs,ZF,Zz,ZM,ZB,Zx,Zv,Zo,Zy,Zn,Zw,⟨Zq,Zp,Zl⟩,ZE,ZG⟩)) (l:=(ZQ.lt ⟨ZZ,⟨ZT,Yr⟩,YM,l_id,⟨Ye,Yd,ZR⟩,YF,⟨ZL,ZV⟩,⟨Yc,ZY,ZK⟩⟩)) (show (ZP.nd ⟨⟨⟨Za,Zc⟩,⟨Zf,Zh⟩,⟨Zj,Zi,Zg⟩,⟨Ze,Zd,Zb⟩⟩,Zt,Zs,ZF,Zz,ZM,ZB,Zx,Zv,Zo,Zy,Zn,Zw,⟨Zq,Zp,Zl⟩,ZE,ZG⟩).findTo=(ZQ.lt ⟨ZZ,⟨ZT,Yr⟩,YM,l_id,⟨Ye,Yd,ZR⟩,YF,⟨ZL,ZV⟩,⟨Yc,ZY,ZK⟩⟩).frm.addr by show Zy=ZT;first|assumption|omega) (show (ZP.nd ⟨⟨⟨Za,Zc⟩,⟨Zf,Zh⟩,⟨Zj,Zi,Zg⟩,⟨Ze,Zd,Zb⟩⟩,Zt,Zs,ZF,Zz,ZM,ZB,Zx,Zv,Zo,Zy,Zn,Zw,⟨Zq,Zp,Zl⟩,ZE,ZG⟩).findReq=(ZQ.lt ⟨ZZ,⟨ZT,Yr⟩,YM,l_id,⟨Ye,Yd,ZR⟩,YF,⟨ZL,ZV⟩,⟨Yc,ZY,ZK⟩⟩).req by show Zn=YM;first|assumption|omega) (show YF=true by first|assumption|(simp_all;done))).trans (congrArg (fun x=>(x,([]:List Snd))) hv1.symm))
     refine ⟨_,M1,[(bw,rowO (ZO.segs ⟨⟨⟨⟨YG,YP⟩,⟨YH,YQ⟩,⟨YV,YU,YT⟩,⟨YK,YJ,YI⟩⟩,XG,XK,Wh,XF,WF,XT,XH,XB,Xp,XC,Xq,XE,⟨Xt,Xs,Xr⟩,Wg,Wf⟩,⟨none,0,[]⟩⟩) 68)],rfl,hm1,hw.c,rfl,⟨⟨⟨YG,YP⟩,⟨YH,YQ⟩,⟨YV,YU,YT⟩,⟨YK,YJ,YI⟩⟩,XG,XK,Wh,XF,WF,XT,XH,XB,Xp,XC,Xq,XE,⟨Xt,Xs,Xr⟩,Wg,Wf⟩,⟨none,0,[]⟩,rfl,?_,?_,okv,SlK.nil,fun y hy=>by cases hy⟩
     ·rw [h3] <;> rfl
     ·rw [h3] <;> rfl
    ·skip
     refine YB (Zr (Y_pk [3,0] ?_))
     iterate 2 refine ZJ ?_
     refine YE (l:=[0,1,2,3,4,5,6,7,8,9,10,11,12,13,14,15,16,17,18,19,20,21,22,23,24,25,26,27,28,29,30,31,32]) #[0,0,2,7,15,31,63,127,255,511,1023,63,2111,6207,16383,32767,65535,131071,262143,524287,131071,1179647,3276799,8388607,16777215,33554431,67108863,134217727,268435455,536870911,1073741823,2147483647,4294967295] _ rfl (by kernel_rfl) (by kernel_rfl) St.drawn (fun _ h=>h) ?_;refine ZA ?_;refine Zk F.foff44_6 ?_;refine ZH F.lay25 ?_;refine X_fo rfl rfl F.ok53 rfl (wother_ok M bw Za Zc Zf Zh Zj Ze Zq Zi Zd Zp Zg Zb Zl Zt Zs ZF Zz ZM ZB Zx Zv Zo Zy Zn Zw ZE ZG ⟨ZL,ZV⟩) (by repeat first|exact Rem.here _|exact Rem.two|apply Rem.skip|apply Rem.over) (Yw rfl) ?_
     rintro _ M1 _ ⟨hM1,rfl⟩;subst M1
     refine Xw ?_;refine ZA ?_
     refine Yj 38 rfl (fun hc5=>?_) (fun hc5=>?_)
     ·replace hc5:=nT hc5
      iterate 9 refine Ya ?_
      refine ZN ?_;refine ZA ?_
      iterate 7 refine Ya ?_
      refine ZN ?_;refine ZA ?_
      iterate 6 refine Ya ?_
      refine ZN ?_;refine Zu (Zr (Y_pk [65,3,0] ?_));refine Xm rfl ?_;refine ZJ (Zm (l:=[0,1,2,3,4]) rfl ?_);refine ZA ?_;refine ZU ?_;refine Zk F.foff68_0 ?_;refine Zk F.foff32_10 ?_;refine Yi F.lay3 ?_;refine Zu (Zr (Y_pk [3,0] ?_));refine Yu (YS ?_)
      refine Yk (.inr rfl) (.nil) (fun w hw=>?_)
      have h3:XO (ZP.nd ⟨⟨⟨Za,Zc⟩,⟨Zf,Zh⟩,⟨Zj,Zi,Zg⟩,⟨Ze,Zd,Zb⟩⟩,Zt,Zs,ZF,Zz,ZM,ZB,Zx,Zv,Zo,Zy,Zn,Zw,⟨Zq,Zp,Zl⟩,ZE,ZG⟩) (ZQ.lt ⟨ZZ,⟨ZT,Yr⟩,YM,l_id,⟨Ye,Yd,ZR⟩,YF,⟨ZL,ZV⟩,⟨Yc,ZY,ZK⟩⟩)=(ZP.nd ⟨⟨⟨Za,Zc⟩,⟨Zf,Zh⟩,⟨Zj,Zi,Zg⟩,⟨Ze,Zd,Zb⟩⟩,Zt,Zs,ZF,Zz,ZM,ZB,Zx,Zv,Zo,(-1),Zn,Zw,⟨Zq,Zp,Zl⟩,ZE,ZG⟩,[]):=(does2 hk).trans (found_drop (n:=(ZP.nd ⟨⟨⟨Za,Zc⟩,⟨Zf,Zh⟩,⟨Zj,Zi,Zg⟩,⟨Ze,Zd,Zb⟩⟩,Zt,Zs,ZF,Zz,ZM,ZB,Zx,Zv,Zo,Zy,Zn,Zw,⟨Zq,Zp,Zl⟩,ZE,ZG⟩)) (l:=(ZQ.lt ⟨ZZ,⟨ZT,Yr⟩,YM,l_id,⟨Ye,Yd,ZR⟩,YF,⟨ZL,ZV⟩,⟨Yc,ZY,ZK⟩⟩)) (show (ZP.nd ⟨⟨⟨Za,Zc⟩,⟨Zf,Zh⟩,⟨Zj,Zi,Zg⟩,⟨Ze,Zd,Zb⟩⟩,Zt,Zs,ZF,Zz,ZM,ZB,Zx,Zv,Zo,Zy,Zn,Zw,⟨Zq,Zp,Zl⟩,ZE,ZG⟩).findTo=(ZQ.lt ⟨ZZ,⟨ZT,Yr⟩,YM,l_id,⟨Ye,Yd,ZR⟩,YF,⟨ZL,ZV⟩,⟨Yc,ZY,ZK⟩⟩).frm.addr by show Zy=ZT;first|assumption|omega) (show (ZP.nd ⟨⟨⟨Za,Zc⟩,⟨Zf,Zh⟩,⟨Zj,Zi,Zg⟩,⟨Ze,Zd,Zb⟩⟩,Zt,Zs,ZF,Zz,ZM,ZB,Zx,Zv,Zo,Zy,Zn,Zw,⟨Zq,Zp,Zl⟩,ZE,ZG⟩).findReq=(ZQ.lt ⟨ZZ,⟨ZT,Yr⟩,YM,l_id,⟨Ye,Yd,ZR⟩,YF,⟨ZL,ZV⟩,⟨Yc,ZY,ZK⟩⟩).req by show Zn=YM;first|assumption|omega) (show YF=false by first|assumption|(simp_all;done)) (show ¬Xh ⟨Za,Zc⟩ ⟨ZL,ZV⟩∨ZL∈Zl∨ZL=ZT∨32≤ZE by first|exact .inl (by assumption)|exact .inr (.inl (by assumption))|exact .inr (.inr (.inl (by assumption)))|exact .inr (.inr (.inr (by omega)))))
      refine ⟨_,M,[(bw,rowO (ZO.segs ⟨⟨⟨⟨Za,Zc⟩,⟨Zf,Zh⟩,⟨Zj,Zi,Zg⟩,⟨Ze,Zd,Zb⟩⟩,Zt,Zs,ZF,Zz,ZM,ZB,Zx,Zv,Zo,(-1),Zn,Zw,⟨Zq,Zp,Zl⟩,ZE,ZG⟩,⟨none,0,[]⟩⟩) 68)],rfl,Mem.le.refl M,hw.c,rfl,⟨⟨⟨Za,Zc⟩,⟨Zf,Zh⟩,⟨Zj,Zi,Zg⟩,⟨Ze,Zd,Zb⟩⟩,Zt,Zs,ZF,Zz,ZM,ZB,Zx,Zv,Zo,(-1),Zn,Zw,⟨Zq,Zp,Zl⟩,ZE,ZG⟩,⟨none,0,[]⟩,rfl,?_,?_,⟨Ym,Yq⟩,SlK.nil,fun y hy=>by cases hy⟩
      ·rw [h3] <;> rfl
      ·rw [h3] <;> rfl
     ·replace hc5:=nF hc5
      refine ZA ?_;refine ZU ?_;refine Zk F.foff68_0 ?_;refine Zk F.foff32_13 ?_;refine ZH F.lay30 ?_;refine Zk F.foff44_6 ?_;refine Zk F.foff25_0 ?_;refine ZH F.lay3 ?_;refine X_fo rfl rfl F.ok103 rfl (ContainsI_rd M [] ⟨Zq,Zp,Zl⟩ ZL (Yq.h1.rd []) Yq.h2) (by repeat first|exact Rem.here _|exact Rem.two|apply Rem.skip|apply Rem.over) (Yw rfl) ?_
      rintro _ M1 _ ⟨hM1,rfl⟩;subst M1
      refine ZN ?_;refine ZA ?_
      refine Yj 49 rfl (fun hc6=>?_) (fun hc6=>?_)
      ·replace hc6:=dT hc6
       simp only [ZD.eta,ZS.eta,ZP.eta,ZQ.eta,Yv.eta,ZO.eta,YL.eta,ZW.eta] at hc6
       iterate 7 refine Ya ?_
       refine ZN ?_;refine ZA ?_
       iterate 6 refine Ya ?_
       refine ZN ?_;refine Zu (Zr (Y_pk [65,3,0] ?_));refine Xm rfl ?_;refine ZJ (Zm (l:=[0,1,2,3,4]) rfl ?_);refine ZA ?_;refine ZU ?_;refine Zk F.foff68_0 ?_;refine Zk F.foff32_10 ?_;refine Yi F.lay3 ?_;refine Zu (Zr (Y_pk [3,0] ?_));refine Yu (YS ?_)
       refine Yk (.inr rfl) (.nil) (fun w hw=>?_)
       have h3:XO (ZP.nd ⟨⟨⟨Za,Zc⟩,⟨Zf,Zh⟩,⟨Zj,Zi,Zg⟩,⟨Ze,Zd,Zb⟩⟩,Zt,Zs,ZF,Zz,ZM,ZB,Zx,Zv,Zo,Zy,Zn,Zw,⟨Zq,Zp,Zl⟩,ZE,ZG⟩) (ZQ.lt ⟨ZZ,⟨ZT,Yr⟩,YM,l_id,⟨Ye,Yd,ZR⟩,YF,⟨ZL,ZV⟩,⟨Yc,ZY,ZK⟩⟩)=(ZP.nd ⟨⟨⟨Za,Zc⟩,⟨Zf,Zh⟩,⟨Zj,Zi,Zg⟩,⟨Ze,Zd,Zb⟩⟩,Zt,Zs,ZF,Zz,ZM,ZB,Zx,Zv,Zo,(-1),Zn,Zw,⟨Zq,Zp,Zl⟩,ZE,ZG⟩,[]):=(does2 hk).trans (found_drop (n:=(ZP.nd ⟨⟨⟨Za,Zc⟩,⟨Zf,Zh⟩,⟨Zj,Zi,Zg⟩,⟨Ze,Zd,Zb⟩⟩,Zt,Zs,ZF,Zz,ZM,ZB,Zx,Zv,Zo,Zy,Zn,Zw,⟨Zq,Zp,Zl⟩,ZE,ZG⟩)) (l:=(ZQ.lt ⟨ZZ,⟨ZT,Yr⟩,YM,l_id,⟨Ye,Yd,ZR⟩,YF,⟨ZL,ZV⟩,⟨Yc,ZY,ZK⟩⟩)) (show (ZP.nd ⟨⟨⟨Za,Zc⟩,⟨Zf,Zh⟩,⟨Zj,Zi,Zg⟩,⟨Ze,Zd,Zb⟩⟩,Zt,Zs,ZF,Zz,ZM,ZB,Zx,Zv,Zo,Zy,Zn,Zw,⟨Zq,Zp,Zl⟩,ZE,ZG⟩).findTo=(ZQ.lt ⟨ZZ,⟨ZT,Yr⟩,YM,l_id,⟨Ye,Yd,ZR⟩,YF,⟨ZL,ZV⟩,⟨Yc,ZY,ZK⟩⟩).frm.addr by show Zy=ZT;first|assumption|omega) (show (ZP.nd ⟨⟨⟨Za,Zc⟩,⟨Zf,Zh⟩,⟨Zj,Zi,Zg⟩,⟨Ze,Zd,Zb⟩⟩,Zt,Zs,ZF,Zz,ZM,ZB,Zx,Zv,Zo,Zy,Zn,Zw,⟨Zq,Zp,Zl⟩,ZE,ZG⟩).findReq=(ZQ.lt ⟨ZZ,⟨ZT,Yr⟩,YM,l_id,⟨Ye,Yd,ZR⟩,YF,⟨ZL,ZV⟩,⟨Yc,ZY,ZK⟩⟩).req by show Zn=YM;first|assumption|omega) (show YF=false by first|assumption|(simp_all;done)) (show ¬Xh ⟨Za,Zc⟩ ⟨ZL,ZV⟩∨ZL∈Zl∨ZL=ZT∨32≤ZE by first|exact .inl (by assumption)|exact .inr (.inl (by assumption))|exact .inr (.inr (.inl (by assumption)))|exact .inr (.inr (.inr (by omega)))))
       refine ⟨_,M,[(bw,rowO (ZO.segs ⟨⟨⟨⟨Za,Zc⟩,⟨Zf,Zh⟩,⟨Zj,Zi,Zg⟩,⟨Ze,Zd,Zb⟩⟩,Zt,Zs,ZF,Zz,ZM,ZB,Zx,Zv,Zo,(-1),Zn,Zw,⟨Zq,Zp,Zl⟩,ZE,ZG⟩,⟨none,0,[]⟩⟩) 68)],rfl,Mem.le.refl M,hw.c,rfl,⟨⟨⟨Za,Zc⟩,⟨Zf,Zh⟩,⟨Zj,Zi,Zg⟩,⟨Ze,Zd,Zb⟩⟩,Zt,Zs,ZF,Zz,ZM,ZB,Zx,Zv,Zo,(-1),Zn,Zw,⟨Zq,Zp,Zl⟩,ZE,ZG⟩,⟨none,0,[]⟩,rfl,?_,?_,⟨Ym,Yq⟩,SlK.nil,fun y hy=>by cases hy⟩
       ·rw [h3] <;> rfl
       ·rw [h3] <;> rfl
      ·replace hc6:=dF hc6
       simp only [ZD.eta,ZS.eta,ZP.eta,ZQ.eta,Yv.eta,ZO.eta,YL.eta,ZW.eta] at hc6
       refine Zk F.foff44_6 ?_;refine Zk F.foff25_0 ?_;refine ZH F.lay3 ?_;refine Zk F.foff44_1 ?_;refine Zk F.foff25_0 ?_;refine ZH F.lay3 ?_;refine Yy ?_;refine ZN ?_;refine ZA ?_
       refine Yj 58 rfl (fun hc7=>?_) (fun hc7=>?_)
       ·replace hc7:=dT hc7
        iterate 6 refine Ya ?_
        refine ZN ?_;refine Zu (Zr (Y_pk [65,3,0] ?_));refine Xm rfl ?_;refine ZJ (Zm (l:=[0,1,2,3,4]) rfl ?_);refine ZA ?_;refine ZU ?_;refine Zk F.foff68_0 ?_;refine Zk F.foff32_10 ?_;refine Yi F.lay3 ?_;refine Zu (Zr (Y_pk [3,0] ?_));refine Yu (YS ?_)
        refine Yk (.inr rfl) (.nil) (fun w hw=>?_)
        have h3:XO (ZP.nd ⟨⟨⟨Za,Zc⟩,⟨Zf,Zh⟩,⟨Zj,Zi,Zg⟩,⟨Ze,Zd,Zb⟩⟩,Zt,Zs,ZF,Zz,ZM,ZB,Zx,Zv,Zo,Zy,Zn,Zw,⟨Zq,Zp,Zl⟩,ZE,ZG⟩) (ZQ.lt ⟨ZZ,⟨ZT,Yr⟩,YM,l_id,⟨Ye,Yd,ZR⟩,YF,⟨ZL,ZV⟩,⟨Yc,ZY,ZK⟩⟩)=(ZP.nd ⟨⟨⟨Za,Zc⟩,⟨Zf,Zh⟩,⟨Zj,Zi,Zg⟩,⟨Ze,Zd,Zb⟩⟩,Zt,Zs,ZF,Zz,ZM,ZB,Zx,Zv,Zo,(-1),Zn,Zw,⟨Zq,Zp,Zl⟩,ZE,ZG⟩,[]):=(does2 hk).trans (found_drop (n:=(ZP.nd ⟨⟨⟨Za,Zc⟩,⟨Zf,Zh⟩,⟨Zj,Zi,Zg⟩,⟨Ze,Zd,Zb⟩⟩,Zt,Zs,ZF,Zz,ZM,ZB,Zx,Zv,Zo,Zy,Zn,Zw,⟨Zq,Zp,Zl⟩,ZE,ZG⟩)) (l:=(ZQ.lt ⟨ZZ,⟨ZT,Yr⟩,YM,l_id,⟨Ye,Yd,ZR⟩,YF,⟨ZL,ZV⟩,⟨Yc,ZY,ZK⟩⟩)) (show (ZP.nd ⟨⟨⟨Za,Zc⟩,⟨Zf,Zh⟩,⟨Zj,Zi,Zg⟩,⟨Ze,Zd,Zb⟩⟩,Zt,Zs,ZF,Zz,ZM,ZB,Zx,Zv,Zo,Zy,Zn,Zw,⟨Zq,Zp,Zl⟩,ZE,ZG⟩).findTo=(ZQ.lt ⟨ZZ,⟨ZT,Yr⟩,YM,l_id,⟨Ye,Yd,ZR⟩,YF,⟨ZL,ZV⟩,⟨Yc,ZY,ZK⟩⟩).frm.addr by show Zy=ZT;first|assumption|omega) (show (ZP.nd ⟨⟨⟨Za,Zc⟩,⟨Zf,Zh⟩,⟨Zj,Zi,Zg⟩,⟨Ze,Zd,Zb⟩⟩,Zt,Zs,ZF,Zz,ZM,ZB,Zx,Zv,Zo,Zy,Zn,Zw,⟨Zq,Zp,Zl⟩,ZE,ZG⟩).findReq=(ZQ.lt ⟨ZZ,⟨ZT,Yr⟩,YM,l_id,⟨Ye,Yd,ZR⟩,YF,⟨ZL,ZV⟩,⟨Yc,ZY,ZK⟩⟩).req by show Zn=YM;first|assumption|omega) (show YF=false by first|assumption|(simp_all;done)) (show ¬Xh ⟨Za,Zc⟩ ⟨ZL,ZV⟩∨ZL∈Zl∨ZL=ZT∨32≤ZE by first|exact .inl (by assumption)|exact .inr (.inl (by assumption))|exact .inr (.inr (.inl (by assumption)))|exact .inr (.inr (.inr (by omega)))))
        refine ⟨_,M,[(bw,rowO (ZO.segs ⟨⟨⟨⟨Za,Zc⟩,⟨Zf,Zh⟩,⟨Zj,Zi,Zg⟩,⟨Ze,Zd,Zb⟩⟩,Zt,Zs,ZF,Zz,ZM,ZB,Zx,Zv,Zo,(-1),Zn,Zw,⟨Zq,Zp,Zl⟩,ZE,ZG⟩,⟨none,0,[]⟩⟩) 68)],rfl,Mem.le.refl M,hw.c,rfl,⟨⟨⟨Za,Zc⟩,⟨Zf,Zh⟩,⟨Zj,Zi,Zg⟩,⟨Ze,Zd,Zb⟩⟩,Zt,Zs,ZF,Zz,ZM,ZB,Zx,Zv,Zo,(-1),Zn,Zw,⟨Zq,Zp,Zl⟩,ZE,ZG⟩,⟨none,0,[]⟩,rfl,?_,?_,⟨Ym,Yq⟩,SlK.nil,fun y hy=>by cases hy⟩
        ·rw [h3] <;> rfl
        ·rw [h3] <;> rfl
       ·replace hc7:=dF hc7
        refine ZA ?_;refine ZU ?_;refine Zk F.foff68_0 ?_;refine Zk F.foff32_14 ?_;refine ZH F.lay3 ?_;refine Yy ?_;refine ZN ?_;refine Zu (Zr (Y_pk [65,3,0] ?_))
        refine Yz rfl (fun hc8=>?_) (fun hc8=>?_)
        ·replace hc8:=dT hc8
         refine ZJ (Zm (l:=[0,1,2,3,4]) rfl ?_);refine ZA ?_;refine ZU ?_;refine Zk F.foff68_0 ?_;refine Zk F.foff32_10 ?_;refine Yi F.lay3 ?_;refine Zu (Zr (Y_pk [3,0] ?_));refine Yu (YS ?_)
         refine Yk (.inr rfl) (.nil) (fun w hw=>?_)
         have h3:XO (ZP.nd ⟨⟨⟨Za,Zc⟩,⟨Zf,Zh⟩,⟨Zj,Zi,Zg⟩,⟨Ze,Zd,Zb⟩⟩,Zt,Zs,ZF,Zz,ZM,ZB,Zx,Zv,Zo,Zy,Zn,Zw,⟨Zq,Zp,Zl⟩,ZE,ZG⟩) (ZQ.lt ⟨ZZ,⟨ZT,Yr⟩,YM,l_id,⟨Ye,Yd,ZR⟩,YF,⟨ZL,ZV⟩,⟨Yc,ZY,ZK⟩⟩)=(ZP.nd ⟨⟨⟨Za,Zc⟩,⟨Zf,Zh⟩,⟨Zj,Zi,Zg⟩,⟨Ze,Zd,Zb⟩⟩,Zt,Zs,ZF,Zz,ZM,ZB,Zx,Zv,Zo,(-1),Zn,Zw,⟨Zq,Zp,Zl⟩,ZE,ZG⟩,[]):=(does2 hk).trans (found_drop (n:=(ZP.nd ⟨⟨⟨Za,Zc⟩,⟨Zf,Zh⟩,⟨Zj,Zi,Zg⟩,⟨Ze,Zd,Zb⟩⟩,Zt,Zs,ZF,Zz,ZM,ZB,Zx,Zv,Zo,Zy,Zn,Zw,⟨Zq,Zp,Zl⟩,ZE,ZG⟩)) (l:=(ZQ.lt ⟨ZZ,⟨ZT,Yr⟩,YM,l_id,⟨Ye,Yd,ZR⟩,YF,⟨ZL,ZV⟩,⟨Yc,ZY,ZK⟩⟩)) (show (ZP.nd ⟨⟨⟨Za,Zc⟩,⟨Zf,Zh⟩,⟨Zj,Zi,Zg⟩,⟨Ze,Zd,Zb⟩⟩,Zt,Zs,ZF,Zz,ZM,ZB,Zx,Zv,Zo,Zy,Zn,Zw,⟨Zq,Zp,Zl⟩,ZE,ZG⟩).findTo=(ZQ.lt ⟨ZZ,⟨ZT,Yr⟩,YM,l_id,⟨Ye,Yd,ZR⟩,YF,⟨ZL,ZV⟩,⟨Yc,ZY,ZK⟩⟩).frm.addr by show Zy=ZT;first|assumption|omega) (show (ZP.nd ⟨⟨⟨Za,Zc⟩,⟨Zf,Zh⟩,⟨Zj,Zi,Zg⟩,⟨Ze,Zd,Zb⟩⟩,Zt,Zs,ZF,Zz,ZM,ZB,Zx,Zv,Zo,Zy,Zn,Zw,⟨Zq,Zp,Zl⟩,ZE,ZG⟩).findReq=(ZQ.lt ⟨ZZ,⟨ZT,Yr⟩,YM,l_id,⟨Ye,Yd,ZR⟩,YF,⟨ZL,ZV⟩,⟨Yc,ZY,ZK⟩⟩).req by show Zn=YM;first|assumption|omega) (show YF=false by first|assumption|(simp_all;done)) (show ¬Xh ⟨Za,Zc⟩ ⟨ZL,ZV⟩∨ZL∈Zl∨ZL=ZT∨32≤ZE by first|exact .inl (by assumption)|exact .inr (.inl (by assumption))|exact .inr (.inr (.inl (by assumption)))|exact .inr (.inr (.inr (by omega)))))
         refine ⟨_,M,[(bw,rowO (ZO.segs ⟨⟨⟨⟨Za,Zc⟩,⟨Zf,Zh⟩,⟨Zj,Zi,Zg⟩,⟨Ze,Zd,Zb⟩⟩,Zt,Zs,ZF,Zz,ZM,ZB,Zx,Zv,Zo,(-1),Zn,Zw,⟨Zq,Zp,Zl⟩,ZE,ZG⟩,⟨none,0,[]⟩⟩) 68)],rfl,Mem.le.refl M,hw.c,rfl,⟨⟨⟨Za,Zc⟩,⟨Zf,Zh⟩,⟨Zj,Zi,Zg⟩,⟨Ze,Zd,Zb⟩⟩,Zt,Zs,ZF,Zz,ZM,ZB,Zx,Zv,Zo,(-1),Zn,Zw,⟨Zq,Zp,Zl⟩,ZE,ZG⟩,⟨none,0,[]⟩,rfl,?_,?_,⟨Ym,Yq⟩,SlK.nil,fun y hy=>by cases hy⟩
         ·rw [h3] <;> rfl
         ·rw [h3] <;> rfl
        ·replace hc8:=dF hc8
         refine YB (Zr (Y_pk [3,0] ?_));refine ZJ (Zm (l:=[0,1,2,3,4,5,6,7,8,9]) rfl ?_);refine ZA ?_;refine ZU ?_;refine Zk F.foff68_0 ?_;refine Zk F.foff32_14 ?_;refine ZH F.lay3 ?_;refine XP rfl rfl rfl rfl rfl (by exact Xj (by decide) (by omega)) rfl ?_;refine ZU ?_;refine Zk F.foff68_0 ?_;refine Zk F.foff32_14 ?_;refine Yi F.lay3 ?_;refine Zu (Zr (Y_pk [3,0] ?_));refine Xl (l:=[0,1,2,3,4]) [4] rfl ?_;refine ZA ?_;refine Zk F.foff44_6 ?_;refine Zk F.foff25_0 ?_;refine ZH F.lay3 ?_;refine Wq rfl rfl rfl F.ok89 rfl (seek_ok M bw Za Zc Zf Zh Zj Ze Zq Zi Zd Zp Zg Zb Zl Zt Zs ZF Zz ZM ZB Zx Zv Zo Zy Zn Zw (ZE+1) ZG Ym Yq hLa ZL) (by repeat first|exact Rem.here _|exact Rem.two|apply Rem.skip|apply Rem.over) (Yw rfl) ?_
         rintro _ M2 hs2 hm2 ⟨rfl,⟨⟨⟨YG,YP⟩,⟨YH,YQ⟩,⟨YV,YU,YT⟩,⟨YK,YJ,YI⟩⟩,XG,XK,Wh,XF,WF,XT,XH,XB,Xp,XC,Xq,XE,⟨Xt,Xs,Xr⟩,Wg,Wf⟩,⟨o_a,o_c,o_l⟩,rfl,hv1,hv2,okv,oko,okq⟩
         simp only [List.append_assoc,List.cons_append,List.nil_append]
         refine Zu (Wd ?_)
         refine Yk (.inl rfl) (.nil) (fun w hw=>?_)
         have h3:=(does2 (n:=(ZP.nd ⟨⟨⟨Za,Zc⟩,⟨Zf,Zh⟩,⟨Zj,Zi,Zg⟩,⟨Ze,Zd,Zb⟩⟩,Zt,Zs,ZF,Zz,ZM,ZB,Zx,Zv,Zo,Zy,Zn,Zw,⟨Zq,Zp,Zl⟩,ZE,ZG⟩)) (l:=(ZQ.lt ⟨ZZ,⟨ZT,Yr⟩,YM,l_id,⟨Ye,Yd,ZR⟩,YF,⟨ZL,ZV⟩,⟨Yc,ZY,ZK⟩⟩)) hk).trans (found_seek (n:=(ZP.nd ⟨⟨⟨Za,Zc⟩,⟨Zf,Zh⟩,⟨Zj,Zi,Zg⟩,⟨Ze,Zd,Zb⟩⟩,Zt,Zs,ZF,Zz,ZM,ZB,Zx,Zv,Zo,Zy,Zn,Zw,⟨Zq,Zp,Zl⟩,ZE,ZG⟩)) (l:=(ZQ.lt ⟨ZZ,⟨ZT,Yr⟩,YM,l_id,⟨Ye,Yd,ZR⟩,YF,⟨ZL,ZV⟩,⟨Yc,ZY,ZK⟩⟩)) (show (ZP.nd ⟨⟨⟨Za,Zc⟩,⟨Zf,Zh⟩,⟨Zj,Zi,Zg⟩,⟨Ze,Zd,Zb⟩⟩,Zt,Zs,ZF,Zz,ZM,ZB,Zx,Zv,Zo,Zy,Zn,Zw,⟨Zq,Zp,Zl⟩,ZE,ZG⟩).findTo=(ZQ.lt ⟨ZZ,⟨ZT,Yr⟩,YM,l_id,⟨Ye,Yd,ZR⟩,YF,⟨ZL,ZV⟩,⟨Yc,ZY,ZK⟩⟩).frm.addr by show Zy=ZT;first|assumption|omega) (show (ZP.nd ⟨⟨⟨Za,Zc⟩,⟨Zf,Zh⟩,⟨Zj,Zi,Zg⟩,⟨Ze,Zd,Zb⟩⟩,Zt,Zs,ZF,Zz,ZM,ZB,Zx,Zv,Zo,Zy,Zn,Zw,⟨Zq,Zp,Zl⟩,ZE,ZG⟩).findReq=(ZQ.lt ⟨ZZ,⟨ZT,Yr⟩,YM,l_id,⟨Ye,Yd,ZR⟩,YF,⟨ZL,ZV⟩,⟨Yc,ZY,ZK⟩⟩).req by show Zn=YM;first|assumption|omega) (show YF=false by first|assumption|(simp_all;done)) (show Xh ⟨Za,Zc⟩ ⟨ZL,ZV⟩ by assumption) (show ZL∉Zl by assumption) (show ZL≠ZT by assumption) (show ¬32≤ZE by omega))
         exact ⟨_,M2,[(bw,rowO (ZO.segs ⟨⟨⟨⟨YG,YP⟩,⟨YH,YQ⟩,⟨YV,YU,YT⟩,⟨YK,YJ,YI⟩⟩,XG,XK,Wh,XF,WF,XT,XH,XB,Xp,XC,Xq,XE,⟨Xt,Xs,Xr⟩,Wg,Wf⟩,⟨o_a,o_c,o_l⟩⟩) 68)],rfl,hm2,hw.c,rfl,⟨⟨⟨YG,YP⟩,⟨YH,YQ⟩,⟨YV,YU,YT⟩,⟨YK,YJ,YI⟩⟩,XG,XK,Wh,XF,WF,XT,XH,XB,Xp,XC,Xq,XE,⟨Xt,Xs,Xr⟩,Wg,Wf⟩,⟨o_a,o_c,o_l⟩,rfl,by rw [h3];exact hv1,by rw [h3];exact hv2,okv,oko,okq⟩
end Go.Proofs.YtajmnjefajknoaaGreat
namespace Go.Esp
variable {α:Type}
def insL (l:List α) (i:Nat) (x:α):List α:=l.take i++x::l.drop i
theorem insL_map {β:Type} (f:α→β) (l:List α) (i:Nat) (x:α):(insL l i x).map f=insL (l.map f) i (f x):=by unfold insL;simp
theorem insL_end (l:List α) (x:α):insL l l.length x=l++[x]:=by unfold insL;simp
theorem take_pre {a b:List α} {i:Nat} (h:a.length=i):(a++b).take i=a:=by subst h;exact List.take_left
theorem drop_pre {a b:List α} {i:Nat} (h:a.length=i):(a++b).drop i=b:=by subst h;exact List.drop_left
theorem ins_grow {rows zs:List α} {i:Nat} {x:α} (hi:i<rows.length) (hz:zs.length=rows.length+1-i) :
    (((rows.take i++zs).take i++[x]++(rows.take i++zs).drop (i+1)).take (i+1)++rows.drop i++((rows.take i++zs).take i++[x]++(rows.take i++zs).drop (i+1)).drop (i+1+(rows.drop i).length))=insL rows i x:=by
  have h1:(rows.take i).length=i:=by simp;omega
  rw [take_pre h1]
  have h2:(rows.take i++[x]).length=i+1:=by simp;omega
  rw [take_pre h2]
  have h3:(rows.take i++zs).length=rows.length+1:=by simp [hz];omega
  rw [List.drop_of_length_le (i:=i+1+(rows.drop i).length) (by simp only [List.length_append,List.length_drop,h3,h2,List.length_cons,List.length_nil,h1];omega)]
  unfold insL;simp
theorem ins_room {rows ext:List α} {i:Nat} {x:α} (hi:i<rows.length) (he:ext.length=1) :
    (((rows++ext).take (i+1)++rows.drop i++(rows++ext).drop (i+1+(rows.drop i).length)).take i++[x]++((rows++ext).take (i+1)++rows.drop i++(rows++ext).drop (i+1+(rows.drop i).length)).drop (i+1))=insL rows i x:=by
  have h1:((rows++ext).take (i+1)).length=i+1:=by simp;omega
  rw [List.drop_of_length_le (i:=i+1+(rows.drop i).length) (by simp [he];omega),List.append_nil,drop_pre h1]
  rw [List.take_append_of_le_length (by omega),List.take_take,Nat.min_eq_left (by omega),List.take_append_of_le_length (by omega)]
  unfold insL;simp
end Go.Esp
namespace Go.Proofs.YtajmnjefajknoaaGreat
open Go.Esp
theorem F.ext137:Ext Tryz.prog 137 (Extern.SlicesOverlaps.overlaps #[26,26] #[4]):=fun args w=>by kernel_rfl
theorem InsertP_nil (M:Mem) (x:ZD) (bv:Nat) (hv:Hp) (hob:OSl 25 21 (.slice (some ⟨bv,0,none⟩) 1 1) hv [ZD.segs x]):Fh Tryz.prog 105 [.slice none 0 0,.int .i64 ((0:Nat):Int),.slice (some ⟨bv,0,none⟩) 1 1] M hv (fun M' v Hout=>M'=M∧OSl 25 21 v Hout ([]++[ZD.segs x])):=by
  refine fh_enter Tryz.func105 rfl Tryz.ntmps105 rfl ?_;intro H
  refine ZJ (Zm (l:=[0]) rfl ?_);refine ZC ?_;refine Zu (Zr (ZJ (Zm (l:=[0,1,2]) rfl ?_)))
  iterate 2 refine ZA ?_
  refine WE rfl rfl rfl (.some (k:=0) rfl rfl) .none .none F.elem26 (by simp) (by simp) (by simp) (by simp) rfl rfl ?_;refine Zu (Zr (Y_pk [6,0,1,2] ?_));refine ZJ (Zm (l:=[0,1,2]) rfl ?_);refine ZA ?_;refine Xa F.elem26 ?_;refine ZC ?_;refine Zu (Zr (Y_pk [7,6,0,1,2] ?_))
  iterate 2 refine ZJ ?_
  refine Zm (l:=[0,1]) rfl ?_;refine ZA ?_;refine Yy ?_;refine Zu (Zr (Y_pk [16,7,6,0,1,2] ?_))
  refine Yz rfl (fun hc1=>?_) (fun hc1=>?_)
  ·replace hc1:=dT hc1
   (exfalso;omega)
  ·replace hc1:=dF hc1
   refine YB (Zr (Y_pk [7,6,0,1,2] ?_));refine ZJ (Zm (l:=[0,1,2]) rfl ?_);refine ZA ?_;refine Xa F.elem26 ?_;refine ZC ?_;refine Zu (Zr (Y_pk [8,7,6,0,1,2] ?_))
   iterate 2 refine ZJ ?_
   refine Zm (l:=[0,1,2]) rfl ?_
   iterate 2 refine ZA ?_
   refine Yy ?_;refine Zu (Zr (Y_pk [22,8,7,6,0,1,2] ?_))
   refine Yz rfl (fun hc2=>?_) (fun hc2=>?_)
   ·replace hc2:=dT hc2
    simp only [ZD.eta,ZS.eta,ZP.eta,ZQ.eta,Yv.eta,ZO.eta,YL.eta,ZW.eta] at hc2
    refine ZJ (Zm (l:=[0,1,2,3]) rfl ?_)
    iterate 2 refine ZA ?_
    refine X_append (m:=1000000) rfl rfl rfl rfl rfl F.elem26 F.zero25 (by exact agg_size rfl) rfl (by exact OSl.nil) (by repeat first|exact Rem.here _|exact Rem.two|apply Rem.skip|apply Rem.over) (OSl.srcAll hob (by repeat first|exact Rem.here _|exact Rem.two|apply Rem.skip|apply Rem.over) (by intro u hu;exact rows_one ZD.flat [x] u (by simpa using hu))) (by (simp;done)) (by decide) rfl ?_;intro v5 hs4 ho3;obtain ⟨adv5,cpv5,rfl⟩:=ho3.val
    refine ZC ?_;refine Zu (Zr (Y_pk [6,8,7,0,1,2] ?_));refine Yu (YS ?_)
    refine Yk (.inr rfl) (.tmp rfl .nil) (fun w hw=>?_)
    exact ⟨_,M,hs4,rfl,Mem.le.refl M,hw.c,rfl,ho3⟩
   ·replace hc2:=dF hc2
    simp only [ZD.eta,ZS.eta,ZP.eta,ZQ.eta,Yv.eta,ZO.eta,YL.eta,ZW.eta] at hc2
    (exfalso;simp [eqX] at hc2;done)
theorem InsertP_some (M:Mem) (b:Nat) (c:Nat) (l:List ZD) (hs:Hp) (i:Nat) (hi:i≤l.length) (x:ZD) (bv:Nat) (hv:Hp) (hob:OSl 25 21 (.slice (some ⟨bv,0,none⟩) 1 1) hv [ZD.segs x]) (hb:l.length≤1000000) (ho:OSl 25 21 (.slice (some ⟨b,0,none⟩) l.length c) hs (l.map ZD.segs)):Fh Tryz.prog 105 [.slice (some ⟨b,0,none⟩) l.length c,.int .i64 (i:Int),.slice (some ⟨bv,0,none⟩) 1 1] M (hs++hv) (fun M' v Hout=>M'=M∧OSl 25 21 v Hout ((insL l i x).map ZD.segs)):=by
  have hcc:=ho.caps
  simp only [List.length_map] at hcc
  have hob9:=hob
  have hom:OSl 25 21 (.slice (some ⟨b,0,none⟩) (l.map ZD.segs).length c) hs (l.map ZD.segs):=by rw [List.length_map];exact ho
  obtain ⟨cv,rfl,_⟩:=hob9.inv
  refine fh_enter Tryz.func105 rfl Tryz.ntmps105 rfl ?_;intro H
  rw [List.append_assoc]
  refine ZJ (Zm (l:=[0]) rfl ?_);refine ZC ?_;refine Zu (Zr (ZJ (Zm (l:=[0,1,2]) rfl ?_)))
  iterate 2 refine ZA ?_
  refine WE rfl rfl rfl (.some (k:=i) rfl rfl) .none .none F.elem26 (by simp) (by simp only [Option.getD_some,Option.getD_none];omega) (by simp only [Option.getD_some,Option.getD_none];omega) (by simp) rfl rfl ?_;refine Zu (Zr (Y_pk [6,0,1,2] ?_));refine ZJ (Zm (l:=[0,1,2]) rfl ?_);refine ZA ?_;refine Xa F.elem26 ?_;refine ZC ?_;refine Zu (Zr (Y_pk [7,6,0,1,2] ?_))
  iterate 2 refine ZJ ?_
  refine Zm (l:=[0,1]) rfl ?_;refine ZA ?_;refine Yy ?_;refine Zu (Zr (Y_pk [16,7,6,0,1,2] ?_))
  refine Yz rfl (fun hc1=>?_) (fun hc1=>?_)
  ·replace hc1:=dT hc1
   (exfalso;omega)
  ·replace hc1:=dF hc1
   refine YB (Zr (Y_pk [7,6,0,1,2] ?_));refine ZJ (Zm (l:=[0,1,2]) rfl ?_);refine ZA ?_;refine Xa F.elem26 ?_;refine ZC ?_;refine Zu (Zr (Y_pk [8,7,6,0,1,2] ?_))
   iterate 2 refine ZJ ?_
   refine Zm (l:=[0,1,2]) rfl ?_
   iterate 2 refine ZA ?_
   refine Yy ?_;refine Zu (Zr (Y_pk [22,8,7,6,0,1,2] ?_))
   refine Yz rfl (fun hc2=>?_) (fun hc2=>?_)
   ·replace hc2:=dT hc2
    refine ZJ (Zm (l:=[0,1,2,3]) rfl ?_)
    iterate 2 refine ZA ?_
    refine X_append (m:=1000001) rfl rfl rfl rfl rfl F.elem26 F.zero25 (by exact agg_size rfl) rfl (by assumption) (by repeat first|exact Rem.here _|exact Rem.two|apply Rem.skip|apply Rem.over) (OSl.srcAll hob (by repeat first|exact Rem.here _|exact Rem.two|apply Rem.skip|apply Rem.over) (by intro u hu;exact rows_one ZD.flat [x] u (by simpa using hu))) (by (simp;omega)) (by decide) rfl ?_;intro v5 hs4 ho3;obtain ⟨adv5,cpv5,rfl⟩:=ho3.val
    refine ZC ?_;refine Zu (Zr (Y_pk [6,8,7,0,1,2] ?_));refine Yu (YS ?_)
    refine Yk (.inr rfl) (.tmp rfl .nil) (fun w hw=>?_)
    obtain rfl:i=l.length:=by omega
    exact ⟨_,M,hs4,rfl,Mem.le.refl M,hw.c,rfl,by rw [insL_end,List.map_append];exact ho3⟩
   ·replace hc2:=dF hc2
    refine YB (Zr (Y_pk [8,7,6,0,1,2] ?_))
    iterate 2 refine ZJ ?_
    refine Zm (l:=[0,1,2,3,4,5]) rfl ?_
    iterate 2 refine ZA ?_
    refine XP rfl rfl rfl rfl rfl (by exact Xj (by decide) (by omega)) rfl ?_;refine ZA ?_;refine X_cap_sl rfl rfl rfl rfl F.elem26 rfl ?_;refine Yy ?_;refine Zu (Zr (Y_pk [31,8,7,6,0,1,2] ?_))
    refine Yz rfl (fun hc6=>?_) (fun hc6=>?_)
    ·replace hc6:=dT hc6
     refine ZJ (Zm (l:=[0,1,2,3,4,5,6,7,8,9]) rfl ?_)
     iterate 2 refine ZA ?_
     refine WE rfl rfl rfl .none (.some (k:=i) rfl (by rfl)) .none F.elem26 (by simp) (by simp only [Option.getD_some,Option.getD_none];omega) (by simp only [Option.getD_some,Option.getD_none];omega) (by simp) (show WG (some ⟨_,0,none⟩) 21 0 (i) c=.slice (some ⟨_,0,none⟩) (i) c from pieceV_zero) rfl ?_
     iterate 2 refine ZA ?_
     refine XP rfl rfl rfl rfl rfl (by exact Xj (by decide) (by omega)) rfl ?_;refine ZA ?_;refine XP rfl rfl rfl rfl rfl (by exact Xj (by decide) (by omega)) rfl ?_
     rw [show (l.length:Int)+((1:Nat):Int)-(i:Int)=((l.length+1-i:Nat):Int) by omega]
     refine X_appendZO (j:=i) (k:=l.length+1-i) rfl rfl rfl rfl F.elem26 Tryz.underlying3 F.zero25 (by exact agg_size rfl) rfl ho (by repeat first|exact Rem.here _|exact Rem.two|apply Rem.skip|apply Rem.over) (by rw [List.length_map];omega) (by omega) (by omega) (by omega) (Nat.le_trans (Nat.mul_le_mul_right _ (show i+(l.length+1-i)≤1000001 by omega)) (by decide)) rfl ?_;intro b9 c9 hs9 zs9 hz9 ho9
     rw [show i+(l.length+1-i)=l.length+1 by omega] at ho9 ⊢
     have hn9:((l.map ZD.segs).take i++zs9).length=l.length+1:=by simp [hz9];omega
     have hc9:=ho9.caps
     refine ZC ?_;refine Zu (Zr (Y_pk [9,8,7,6,0,1,2] ?_));refine ZJ (Zm (l:=[0,1,2,3,4]) rfl ?_)
     iterate 2 refine ZA ?_
     refine WE rfl rfl rfl (.some (k:=i) rfl (by rfl)) .none .none F.elem26 (by simp) (by simp only [Option.getD_some,Option.getD_none];omega) (by simp only [Option.getD_some,Option.getD_none];omega) (by simp) (show WG (some ⟨_,0,none⟩) 21 (i) (l.length+1) (c9)=.slice (some ⟨_,0+(i) * 21,none⟩) (l.length+1-(i)) (c9-(i)) from pieceV_in (by omega)) rfl ?_;refine ZA ?_
     rw [Nat.zero_add]
     refine X_copyP (k:=i) (news:=[ZD.segs x]) rfl rfl rfl rfl rfl F.elem26 rfl (by rw [hn9];omega) ho9 (by repeat first|exact Rem.here _|exact Rem.two|apply Rem.skip|apply Rem.over) (OSl.srcAll hob (by repeat first|exact Rem.here _|exact Rem.two|apply Rem.skip|apply Rem.over) (by intro u hu;exact rows_one ZD.flat [x] u (by simpa using hu))) (by show 1=min 1 (l.length+1-i);omega) rfl ?_;intro hs10 ho10
     rw [hn9] at ho10
     refine Zu (Zr (Y_pk [9,8,7,6,0,1,2] ?_));refine ZJ (YE (l:=[0,1,2,3,4,5,6,7,8]) #[0,0,0,6,15,0,0,96,255] _ rfl (by kernel_rfl) (by kernel_rfl) St.drawn (fun _ h=>h) ?_)
     iterate 3 refine ZA ?_
     refine XP rfl rfl rfl rfl rfl (by exact Xj (by decide) (by omega)) rfl ?_;refine WE rfl rfl rfl (.some (k:=i+1) rfl (by rfl)) .none .none F.elem26 (by simp) (by simp only [Option.getD_some,Option.getD_none];omega) (by simp only [Option.getD_some,Option.getD_none];omega) (by simp) (show WG (some ⟨_,0,none⟩) 21 (i+1) (l.length+1) (c9)=.slice (some ⟨_,0+(i+1) * 21,none⟩) (l.length+1-(i+1)) (c9-(i+1)) from pieceV_in (by omega)) rfl ?_
     iterate 2 refine ZA ?_
     refine WE rfl rfl rfl (.some (k:=i) rfl (by rfl)) .none .none F.elem26 (by simp) (by simp only [Option.getD_some,Option.getD_none];omega) (by simp only [Option.getD_some,Option.getD_none];omega) (by simp) (show WG (some ⟨_,0,none⟩) 21 (i) (l.length) (c)=.slice (some ⟨_,0+(i) * 21,none⟩) (l.length-(i)) (c-(i)) from pieceV_in (by omega)) rfl ?_
     rw [Nat.zero_add,Nat.zero_add]
     have hn10:(((l.map ZD.segs).take i++zs9).take i++[ZD.segs x]++((l.map ZD.segs).take i++zs9).drop (i+[ZD.segs x].length)).length=l.length+1:=by simp only [List.length_append,List.length_take,List.length_drop,hn9,List.length_cons,List.length_nil];omega
     refine X_copyP (k:=i+1) (news:=(l.map ZD.segs).drop i) rfl rfl rfl rfl rfl F.elem26 rfl (by rw [hn10];omega) ho10 (by repeat first|exact Rem.here _|exact Rem.two|apply Rem.skip|apply Rem.over) (by rw [List.length_drop];exact hom.src (by repeat first|exact Rem.here _|exact Rem.two|apply Rem.skip|apply Rem.over) (by intro u hu;exact rows_one ZD.flat l u hu)) (by simp only [List.length_drop,List.length_map];omega) rfl ?_;intro hs11 ho11
     rw [hn10] at ho11
     rw [show i+[ZD.segs x].length=i+1 from rfl,ins_grow (by rw [List.length_map];omega) (by rw [List.length_map];exact hz9)] at ho11
     refine Zu (Zr (Y_pk [9,8,7,6,0,1,2] ?_));refine ZJ (Zm (l:=[0,1]) rfl ?_);refine ZA ?_;refine ZC ?_;refine Zu (Zr (Y_pk [6,8,7,0,1,2] ?_));refine Yu (YS ?_)
     refine Yk (.inr rfl) (.tmp rfl .nil) (fun w hw=>?_)
     exact ⟨_,M,hs11,rfl,Mem.le.refl M,hw.c,rfl,by rw [insL_map];exact ho11⟩
    ·replace hc6:=dF hc6
     refine YB (Zr (Y_pk [8,7,6,0,1,2] ?_));refine ZJ (Zm (l:=[0,1,2,3,4,5]) rfl ?_)
     iterate 3 refine ZA ?_
     refine XP rfl rfl rfl rfl rfl (by exact Xj (by decide) (by omega)) rfl ?_;refine WE rfl rfl rfl .none (.some (k:=l.length+1) rfl (by rfl)) .none F.elem26 (by simp) (by simp only [Option.getD_some,Option.getD_none];omega) (by simp only [Option.getD_some,Option.getD_none];omega) (by simp) (show WG (some ⟨_,0,none⟩) 21 0 (l.length+1) c=.slice (some ⟨_,0,none⟩) (l.length+1) c from pieceV_zero) rfl ?_;refine ZC ?_;refine Zu (Zr (Y_pk [0,8,7,6,1,2] ?_))
     iterate 2 refine ZJ ?_
     refine Zm (l:=[0,1,2,3,4,5,6,7]) rfl ?_
     obtain ⟨ext,hext,ho13⟩:=OSl.extend (m:=1) (show OSl 25 21 (.slice (some ⟨b,0,none⟩) (l.map ZD.segs).length c) hs (l.map ZD.segs) by rw [List.length_map];exact ho) (by rw [List.length_map];omega)
     rw [List.length_map] at ho13
     iterate 4 refine ZA ?_
     refine XP rfl rfl rfl rfl rfl (by exact Xj (by decide) (by omega)) rfl ?_;refine WE rfl rfl rfl (.some (k:=i+1) rfl (by rfl)) .none .none F.elem26 (by simp) (by simp only [Option.getD_some,Option.getD_none];omega) (by simp only [Option.getD_some,Option.getD_none];omega) (by simp) (show WG (some ⟨_,0,none⟩) 21 (i+1) (l.length+1) (c)=.slice (some ⟨_,0+(i+1) * 21,none⟩) (l.length+1-(i+1)) (c-(i+1)) from pieceV_in (by omega)) rfl ?_;refine X_ext rfl rfl F.ext137 rfl (fun w hw=>run_apart (tR:=4) F.elem26 ho (by repeat first|exact Rem.here _|exact Rem.two|apply Rem.skip|apply Rem.over) (.head _) (Nat.mul_pos (by omega) (by decide)) hw) rfl ?_;refine Xw ?_;refine Zu (Zr (Y_pk [68,0,8,7,6,1,2] ?_))
     refine Yz rfl (fun hc7=>?_) (fun hc7=>?_)
     ·skip
      refine ZJ (YE (l:=[0,1,2,3,4,5,6,7,8]) #[0,0,0,6,15,0,0,96,255] _ rfl (by kernel_rfl) (by kernel_rfl) St.drawn (fun _ h=>h) ?_)
      iterate 3 refine ZA ?_
      refine XP rfl rfl rfl rfl rfl (by exact Xj (by decide) (by omega)) rfl ?_;refine WE rfl rfl rfl (.some (k:=i+1) rfl (by rfl)) .none .none F.elem26 (by simp) (by simp only [Option.getD_some,Option.getD_none];omega) (by simp only [Option.getD_some,Option.getD_none];omega) (by simp) (show WG (some ⟨_,0,none⟩) 21 (i+1) (l.length+1) (c)=.slice (some ⟨_,0+(i+1) * 21,none⟩) (l.length+1-(i+1)) (c-(i+1)) from pieceV_in (by omega)) rfl ?_
      iterate 2 refine ZA ?_
      refine WE rfl rfl rfl (.some (k:=i) rfl (by rfl)) .none .none F.elem26 (by simp) (by simp only [Option.getD_some,Option.getD_none];omega) (by simp only [Option.getD_some,Option.getD_none];omega) (by simp) (show WG (some ⟨_,0,none⟩) 21 (i) (l.length+1) (c)=.slice (some ⟨_,0+(i) * 21,none⟩) (l.length+1-(i)) (c-(i)) from pieceV_in (by omega)) rfl ?_
      rw [Nat.zero_add,Nat.zero_add]
      refine X_copyP (k:=i+1) (news:=(l.map ZD.segs).drop i) rfl rfl rfl rfl rfl F.elem26 rfl (by simp [hext];omega) ho13 (by repeat first|exact Rem.here _|exact Rem.two|apply Rem.skip|apply Rem.over) (by rw [List.length_drop];exact hom.src (by repeat first|exact Rem.here _|exact Rem.two|apply Rem.skip|apply Rem.over) (by intro u hu;exact rows_one ZD.flat l u hu)) (by simp only [List.length_drop,List.length_map];omega) rfl ?_;intro hs15 ho15
      have hn15:((l.map ZD.segs)++ext).length=l.length+1:=by simp [hext]
      rw [hn15] at ho15
      refine Zu (Zr (Y_pk [0,8,7,6,1,2] ?_));refine ZJ (Zm (l:=[0,1,2,3,4]) rfl ?_)
      iterate 2 refine ZA ?_
      refine WE rfl rfl rfl (.some (k:=i) rfl (by rfl)) .none .none F.elem26 (by simp) (by simp only [Option.getD_some,Option.getD_none];omega) (by simp only [Option.getD_some,Option.getD_none];omega) (by simp) (show WG (some ⟨_,0,none⟩) 21 (i) (l.length+1) (c)=.slice (some ⟨_,0+(i) * 21,none⟩) (l.length+1-(i)) (c-(i)) from pieceV_in (by omega)) rfl ?_;refine ZA ?_
      rw [Nat.zero_add]
      have hn16:(((l.map ZD.segs)++ext).take (i+1)++(l.map ZD.segs).drop i++((l.map ZD.segs)++ext).drop (i+1+((l.map ZD.segs).drop i).length)).length=l.length+1:=by simp only [List.length_append,List.length_take,List.length_drop,List.length_map,hext];omega
      refine X_copyP (k:=i) (news:=[ZD.segs x]) rfl rfl rfl rfl rfl F.elem26 rfl (by rw [hn16];omega) ho15 (by repeat first|exact Rem.here _|exact Rem.two|apply Rem.skip|apply Rem.over) (OSl.srcAll hob (by repeat first|exact Rem.here _|exact Rem.two|apply Rem.skip|apply Rem.over) (by intro u hu;exact rows_one ZD.flat [x] u (by simpa using hu))) (by show 1=min 1 (l.length+1-i);omega) rfl ?_;intro hs16 ho16
      rw [hn16] at ho16
      rw [show i+[ZD.segs x].length=i+1 from rfl,ins_room (by rw [List.length_map];omega) hext] at ho16
      refine Zu (Zr (Y_pk [0,8,7,6,1,2] ?_));refine ZJ (Zm (l:=[0,1]) rfl ?_);refine ZA ?_;refine ZC ?_;refine Zu (Zr (Y_pk [6,0,8,7,1,2] ?_));refine Yu (YS ?_)
      refine Yk (.inr rfl) (.tmp rfl .nil) (fun w hw=>?_)
      exact ⟨_,M,hs16,rfl,Mem.le.refl M,hw.c,rfl,by rw [insL_map];exact ho16⟩
     ·skip
      (exfalso;simp [eqX] at hc7;done)
theorem InsertP_ok (M:Mem) (a:Option Addr) (c:Nat) (l:List ZD) (hs:Hp) (i:Nat) (hi:i≤l.length) (x:ZD) (bv:Nat) (hv:Hp) (hob:OSl 25 21 (.slice (some ⟨bv,0,none⟩) 1 1) hv [ZD.segs x]) (hb:l.length≤1000000) (ho:OSl 25 21 (.slice a l.length c) hs (l.map ZD.segs)):Fh Tryz.prog 105 [.slice a l.length c,.int .i64 (i:Int),.slice (some ⟨bv,0,none⟩) 1 1] M (hs++hv) (fun M' v Hout=>M'=M∧OSl 25 21 v Hout ((insL l i x).map ZD.segs)):=by
  cases a with
  |none =>
   obtain ⟨rfl,rfl,rfl⟩:=ho.noneAll
   obtain rfl:i=0:=by simpa using hi
   exact InsertP_nil M x bv hv hob
  |some ad =>
   obtain ⟨b,rfl⟩:=ho.someAll
   exact InsertP_some M b c l hs i hi x bv hv hob hb ho
end Go.Proofs.YtajmnjefajknoaaGreat
namespace Go.Proofs.YtajmnjefajknoaaGreat
open Go.Esp
theorem F.ok104:okFn Tryz.prog 104=true:=by kernel_rfl
theorem F.ok105:okFn Tryz.prog 105=true:=by kernel_rfl
theorem told_ok (M:Mem) (bw:Nat) (Za:Int) (Zc:Plc) (Zf:Int) (Zh:Plc) (Zj Ze Zq:Option Addr) (Zi Zd Zp:Nat) (Zg Zb:List ZD) (Zl:List Int) (Zt:Int) (Zs:Bool) (ZF Zz ZM ZB Zx Zv Zo Zy Zn:Int) (Zw:Plc) (ZE ZG:Int) (Ym:ZS.ok M ⟨⟨Za,Zc⟩,⟨Zf,Zh⟩,⟨Zj,Zi,Zg⟩,⟨Ze,Zd,Zb⟩⟩) (Yq:SlK M (oneI .i64) 1 ⟨Zq,Zp,Zl⟩) (hbig:Zg.length≤40∧Zb.length≤200) (hLa:Zl.length≤1000) (hh:0≤ZE∧ZE≤1000) (l:ZQ) (hl0:ZQ.ok M l) (hLp:l.peers.l.length≤1000) (hk:l.kind=4):Fh Tryz.prog 48 [.pointer (some ⟨bw,0,none⟩),l.enc] M [(bw,rowO (ZO.segs ⟨⟨⟨⟨Za,Zc⟩,⟨Zf,Zh⟩,⟨Zj,Zi,Zg⟩,⟨Ze,Zd,Zb⟩⟩,Zt,Zs,ZF,Zz,ZM,ZB,Zx,Zv,Zo,Zy,Zn,Zw,⟨Zq,Zp,Zl⟩,ZE,ZG⟩,⟨none,0,[]⟩⟩) 68)] (fun M' v Hout=>v=.tuple #[]∧WkF bw 68 M' Hout (XO (ZP.nd ⟨⟨⟨Za,Zc⟩,⟨Zf,Zh⟩,⟨Zj,Zi,Zg⟩,⟨Ze,Zd,Zb⟩⟩,Zt,Zs,ZF,Zz,ZM,ZB,Zx,Zv,Zo,Zy,Zn,Zw,⟨Zq,Zp,Zl⟩,ZE,ZG⟩) l.lt)):=by
  obtain ⟨ZZ,⟨ZT,Yr⟩,YM,l_id,⟨Ye,Yd,ZR⟩,YF,⟨ZL,ZV⟩,⟨Yc,ZY,ZK⟩⟩:=l
  simp only at hLp hk
  have Xk:SlK M (oneI .i64) 1 ⟨Ye,Yd,ZR⟩:=hl0.h0
  have YZ:SlK M ZD.segs 21 ⟨Yc,ZY,ZK⟩:=hl0.h1
  have XI:=YZ.h1
  simp only at XI
  have Wx:(ZK.map ZD.segs).length=ZK.length:=List.length_map ..
  have Wy:ZK.length≤ZY:=YZ.h3
  refine XJ (fun H=>(bw,rowO (ZO.segs ⟨⟨⟨⟨Za,Zc⟩,⟨Zf,Zh⟩,⟨Zj,Zi,Zg⟩,⟨Ze,Zd,Zb⟩⟩,Zt,Zs,ZF,Zz,ZM,ZB,Zx,Zv,Zo,Zy,Zn,Zw,⟨Zq,Zp,Zl⟩,ZE,ZG⟩,⟨none,0,[]⟩⟩) 68)::H) (fun _=>by simp only [List.append_assoc,List.cons_append,List.nil_append]) Tryz.func48 rfl Tryz.ntmps48 rfl ?_;intro H
  refine ZJ (Zm (l:=[0]) rfl ?_)
  refine Xi ?_;intro b1
  refine Zu (Zr (Y_pk [3,0] ?_))
  iterate 2 refine ZJ ?_
  refine YE (l:=[0,1,2,3,4,5,6,7,8,9,10,11,12,13,14,15,16,17,18]) #[0,1,3,7,15,0,32,96,255,511,1023,2047,4095,8191,16383,1023,33791,131071,262143] _ rfl (by kernel_rfl) (by kernel_rfl) St.drawn (fun _ h=>h) ?_;refine ZA ?_;refine ZU ?_;refine Zk F.foff68_0 ?_;refine Zk F.foff32_6 ?_;refine ZH F.lay3 ?_;refine Zk F.foff44_1 ?_;refine Zk F.foff25_0 ?_;refine ZH F.lay3 ?_;refine Yy ?_;refine ZA ?_
  refine Yj 13 rfl (fun hc2=>?_) (fun hc2=>?_)
  ·replace hc2:=nT hc2
   iterate 8 refine Ya ?_
   refine ZN ?_;refine Zu (Zr (Y_pk [22,3,0] ?_));refine Xm rfl ?_;refine Yu (YS ?_)
   refine Yk (.inr rfl) (.nil) (fun w hw=>?_)
   have h3:XO (ZP.nd ⟨⟨⟨Za,Zc⟩,⟨Zf,Zh⟩,⟨Zj,Zi,Zg⟩,⟨Ze,Zd,Zb⟩⟩,Zt,Zs,ZF,Zz,ZM,ZB,Zx,Zv,Zo,Zy,Zn,Zw,⟨Zq,Zp,Zl⟩,ZE,ZG⟩) (ZQ.lt ⟨ZZ,⟨ZT,Yr⟩,YM,l_id,⟨Ye,Yd,ZR⟩,YF,⟨ZL,ZV⟩,⟨Yc,ZY,ZK⟩⟩)=((ZP.nd ⟨⟨⟨Za,Zc⟩,⟨Zf,Zh⟩,⟨Zj,Zi,Zg⟩,⟨Ze,Zd,Zb⟩⟩,Zt,Zs,ZF,Zz,ZM,ZB,Zx,Zv,Zo,Zy,Zn,Zw,⟨Zq,Zp,Zl⟩,ZE,ZG⟩),[]):=(does4 hk).trans (told_no (by exact .inl (by assumption)))
   refine ⟨_,M,[(bw,rowO (ZO.segs ⟨⟨⟨⟨Za,Zc⟩,⟨Zf,Zh⟩,⟨Zj,Zi,Zg⟩,⟨Ze,Zd,Zb⟩⟩,Zt,Zs,ZF,Zz,ZM,ZB,Zx,Zv,Zo,Zy,Zn,Zw,⟨Zq,Zp,Zl⟩,ZE,ZG⟩,⟨none,0,[]⟩⟩) 68)],rfl,Mem.le.refl M,hw.c,rfl,⟨⟨⟨Za,Zc⟩,⟨Zf,Zh⟩,⟨Zj,Zi,Zg⟩,⟨Ze,Zd,Zb⟩⟩,Zt,Zs,ZF,Zz,ZM,ZB,Zx,Zv,Zo,Zy,Zn,Zw,⟨Zq,Zp,Zl⟩,ZE,ZG⟩,⟨none,0,[]⟩,rfl,?_,?_,⟨Ym,Yq⟩,SlK.nil,fun y hy=>by cases hy⟩
   ·rw [h3] <;> rfl
   ·rw [h3] <;> rfl
  ·replace hc2:=nF hc2
   refine ZA ?_;refine ZU ?_;refine Zk F.foff68_0 ?_;refine Zk F.foff32_7 ?_;refine ZH F.lay29 ?_;refine Zk F.foff44_2 ?_;refine ZH F.lay29 ?_;refine Yy ?_;refine ZN ?_;refine Zu (Zr (Y_pk [22,3,0] ?_))
   refine Yz rfl (fun hc3=>?_) (fun hc3=>?_)
   ·replace hc3:=nT hc3
    refine Yu (YS ?_)
    refine Yk (.inr rfl) (.nil) (fun w hw=>?_)
    have h3:XO (ZP.nd ⟨⟨⟨Za,Zc⟩,⟨Zf,Zh⟩,⟨Zj,Zi,Zg⟩,⟨Ze,Zd,Zb⟩⟩,Zt,Zs,ZF,Zz,ZM,ZB,Zx,Zv,Zo,Zy,Zn,Zw,⟨Zq,Zp,Zl⟩,ZE,ZG⟩) (ZQ.lt ⟨ZZ,⟨ZT,Yr⟩,YM,l_id,⟨Ye,Yd,ZR⟩,YF,⟨ZL,ZV⟩,⟨Yc,ZY,ZK⟩⟩)=((ZP.nd ⟨⟨⟨Za,Zc⟩,⟨Zf,Zh⟩,⟨Zj,Zi,Zg⟩,⟨Ze,Zd,Zb⟩⟩,Zt,Zs,ZF,Zz,ZM,ZB,Zx,Zv,Zo,Zy,Zn,Zw,⟨Zq,Zp,Zl⟩,ZE,ZG⟩),[]):=(does4 hk).trans (told_no (by exact .inr (by assumption)))
    refine ⟨_,M,[(bw,rowO (ZO.segs ⟨⟨⟨⟨Za,Zc⟩,⟨Zf,Zh⟩,⟨Zj,Zi,Zg⟩,⟨Ze,Zd,Zb⟩⟩,Zt,Zs,ZF,Zz,ZM,ZB,Zx,Zv,Zo,Zy,Zn,Zw,⟨Zq,Zp,Zl⟩,ZE,ZG⟩,⟨none,0,[]⟩⟩) 68)],rfl,Mem.le.refl M,hw.c,rfl,⟨⟨⟨Za,Zc⟩,⟨Zf,Zh⟩,⟨Zj,Zi,Zg⟩,⟨Ze,Zd,Zb⟩⟩,Zt,Zs,ZF,Zz,ZM,ZB,Zx,Zv,Zo,Zy,Zn,Zw,⟨Zq,Zp,Zl⟩,ZE,ZG⟩,⟨none,0,[]⟩,rfl,?_,?_,⟨Ym,Yq⟩,SlK.nil,fun y hy=>by cases hy⟩
    ·rw [h3] <;> rfl
    ·rw [h3] <;> rfl
   ·replace hc3:=nF hc3
    refine YB (Zr (Y_pk [3,0] ?_));refine ZJ (Zm (l:=[0,1,2,3,4]) rfl ?_);refine ZA ?_;refine ZU ?_;refine Zk F.foff68_0 ?_;refine Zk F.foff32_6 ?_;refine Yi F.lay3 ?_;refine Zu (Zr (Y_pk [3,0] ?_));refine ZJ (Xl (l:=[0,1,2,3,4,5]) [5] rfl ?_);refine ZA ?_;refine Zk F.foff44_1 ?_;refine ZH F.lay25 ?_;refine Zk F.foff44_7 ?_;refine ZH F.lay26 ?_;refine Wq rfl rfl rfl F.ok82 rfl (adopt_ok M bw Za Zc Zf Zh Zj Ze Zq Zi Zd Zp Zg Zb Zl Zt Zs ZF Zz ZM (-1) Zx Zv Zo Zy Zn Zw ZE ZG Ym ⟨ZT,Yr⟩ ⟨Yc,ZY,ZK⟩ YZ) (by repeat first|exact Rem.here _|exact Rem.two|apply Rem.skip|apply Rem.over) (Yw rfl) ?_
    rintro _ M1 hs1 hm1 ⟨rfl,⟨⟨wa,wi⟩,⟨wq,wj⟩,⟨w1a,w1c,w1l⟩,⟨w2a,w2c,w2l⟩⟩,rfl,okt,hv1⟩
    simp only [List.append_assoc,List.cons_append,List.nil_append]
    refine Zu (Wd ?_);refine Zr (Y_pk [3,0] ?_)
    iterate 2 refine ZJ ?_
    refine YE (l:=[0,1,2,3,4,5,6,7]) #[0,1,3,7,15,0,32,127] _ rfl (by kernel_rfl) (by kernel_rfl) St.drawn (fun _ h=>h) ?_;refine ZA ?_;refine ZU ?_;refine Zk F.foff68_0 ?_;refine Zk F.foff32_0 ?_;refine ZH F.lay28 ?_;refine Zk F.foff44_6 ?_;refine ZH F.lay25 ?_;refine X_fs rfl rfl F.ok104 rfl (Closer_ok _ ⟨⟨wa,wi⟩,⟨wq,wj⟩,⟨w1a,w1c,w1l⟩,⟨w2a,w2c,w2l⟩⟩ ⟨ZL,ZV⟩ okt) rfl ?_
    rintro _ rfl
    refine Zu (Zr (Y_pk [40,3,0] ?_))
    refine Yz rfl (fun hc4=>?_) (fun hc4=>?_)
    ·replace hc4:=dT hc4
     refine C_region_anyW (l:=[0,1,2,3,4,5,6,7,8,9,10]) [10] #[0,0,2,0,8,24,0,64,192,504,1023] (_) rfl (by kernel_rfl) (by kernel_rfl) St.drawn (fun _ h=>h) ?_;refine ZA ?_;refine Zk F.foff44_6 ?_;refine ZH F.lay25 ?_;refine Zk F.foff44_7 ?_;refine ZH F.lay26 ?_;refine VG rfl rfl F.ok106 rfl (CloneP_ok M1 Yc ZY ZK (YZ.mono hm1) (by omega)) (by repeat first|exact Rem.here _|exact Rem.two|apply Rem.skip|apply Rem.over) (fun _ _ _ hm hw=>(hw.lower (by exact hm)).c) (Yw rfl) ?_
     rintro v0 M2 hs0 hm2 ⟨hM2,ho0⟩;subst M2;clear hm2
     obtain ⟨ad0,cp0,rfl⟩:=ho0.valL
     refine Zk F.foff44_1 ?_;refine ZH F.lay25 ?_
     refine XQ rfl rfl F.elem26 F.zero25 rfl rfl (.cons rfl (by constructor) .nil) rfl rfl (by simp only [List.map_cons,List.map_nil] <;> rfl) rfl ?_;intro b5 hob6
     refine X_fhR2 rfl rfl F.ok105 rfl (InsertP_ok M1 ad0 cp0 ZK hs0 0 (Nat.zero_le _) ⟨ZT,Yr⟩ _ _ hob6 (by omega) ho0) (by repeat first|exact Rem.here _|exact Rem.two|apply Rem.skip|apply Rem.over) (by repeat first|exact Rem.here _|exact Rem.two|apply Rem.skip|apply Rem.over) (by rintro v M9 Ho w hm ⟨rfl,_⟩ hw;exact hw.c) (Yw rfl) ?_
     rintro v7 MX hs7 hmX ⟨hMX,ho7⟩
     subst MX
     clear hmX
     obtain ⟨ad7,cp7,rfl⟩:=ho7.valL
     simp only [List.append_assoc,List.cons_append,List.nil_append]
     refine X_fhW2 rfl rfl rfl F.ok82 rfl ((fh_thaw ho7 (fun M9 j1 j3=>adopt_ok M9 bw wa wi wq wj w1a w2a Zq w1c w2c Zp w1l w2l Zl Zt Zs ZF Zz ZM (-1) Zx Zv Zo Zy Zn Zw ZE ZG (okt.mono j1) ⟨ZL,ZV⟩ ⟨ad7,cp7,insL ZK 0 ⟨ZT,Yr⟩⟩ j3))) (by repeat first|exact Rem.here _|exact Rem.two|apply Rem.skip|apply Rem.over) (by repeat first|exact Rem.here _|exact Rem.two|apply Rem.skip|apply Rem.over) (Yw rfl) ?_
     rintro _ M2 hs2 hm2 ⟨rfl,⟨⟨ua,ui⟩,⟨uq,uj⟩,⟨u1a,u1c,u1l⟩,⟨u2a,u2c,u2l⟩⟩,rfl,oku,hv2⟩
     simp only [List.append_assoc,List.cons_append,List.nil_append]
     refine Zu (Wd ?_);refine Zr (Y_pk [0] ?_);refine Xl (l:=[0,1,2,3,4,5,6,7,8,9,10]) [10] rfl ?_
     iterate 2 refine ZA ?_
     refine ZU ?_;refine Zk F.foff68_0 ?_;refine Zk F.foff32_0 ?_;refine ZH F.lay28 ?_;refine X_fs rfl rfl F.ok41 rfl (First_ok _ ⟨⟨ua,ui⟩,⟨uq,uj⟩,⟨u1a,u1c,u1l⟩,⟨u2a,u2c,u2l⟩⟩ oku) rfl ?_
     rintro _ rfl
     obtain ⟨⟨fa,fi⟩,hfi⟩:∃ x,XU (ZS.tb ⟨⟨ua,ui⟩,⟨uq,uj⟩,⟨u1a,u1c,u1l⟩,⟨u2a,u2c,u2l⟩⟩)=x:=⟨_,rfl⟩
     rw [hfi]
     refine Y_field F.fld25_0 F.lay3 ?_;refine X_fs rfl rfl F.ok66 rfl (WK _) rfl ?_
     rintro _ rfl
     refine Vo 60 rfl (show _=aggV [.one (.int .i64 (-1)),Yn 0] from rfl) ?_;refine Xn rfl rfl F.bld44 (.cons rfl (by constructor) (.cons rfl (by constructor) .nil)) rfl rfl ?_;refine Wq rfl rfl rfl F.ok65 rfl (sendF_ok M2 bw ua ui uq uj u1a u2a Zq u1c u2c Zp u1l u2l Zl Zt Zs ZF Zz ZM (-1) Zx Zv Zo Zy Zn Zw ZE ZG fa ⟨5,⟨0,0⟩,0,0,⟨none,0,[]⟩,false,⟨-1,0⟩,⟨none,0,[]⟩⟩) (by repeat first|exact Rem.here _|exact Rem.two|apply Rem.skip|apply Rem.over) (Yw rfl) ?_
     rintro _ M3 hs3 hm3 ⟨rfl,⟨o9a,o9c,o9l⟩,rfl,k9o,hl9⟩
     simp only at hl9
     simp only [List.append_assoc,List.cons_append,List.nil_append]
     refine Zu (Wd ?_)
     refine Yk (.inl rfl) (.nil) (fun w hw=>?_)
     have h3:=(does4 (n:=(ZP.nd ⟨⟨⟨Za,Zc⟩,⟨Zf,Zh⟩,⟨Zj,Zi,Zg⟩,⟨Ze,Zd,Zb⟩⟩,Zt,Zs,ZF,Zz,ZM,ZB,Zx,Zv,Zo,Zy,Zn,Zw,⟨Zq,Zp,Zl⟩,ZE,ZG⟩)) (l:=(ZQ.lt ⟨ZZ,⟨ZT,Yr⟩,YM,l_id,⟨Ye,Yd,ZR⟩,YF,⟨ZL,ZV⟩,⟨Yc,ZY,ZK⟩⟩)) hk).trans (told_yes (m:=ZP.nd ⟨⟨⟨wa,wi⟩,⟨wq,wj⟩,⟨w1a,w1c,w1l⟩,⟨w2a,w2c,w2l⟩⟩,Zt,Zs,ZF,Zz,ZM,(-1),Zx,Zv,Zo,Zy,Zn,Zw,⟨Zq,Zp,Zl⟩,ZE,ZG⟩) (show (ZP.nd ⟨⟨⟨Za,Zc⟩,⟨Zf,Zh⟩,⟨Zj,Zi,Zg⟩,⟨Ze,Zd,Zb⟩⟩,Zt,Zs,ZF,Zz,ZM,ZB,Zx,Zv,Zo,Zy,Zn,Zw,⟨Zq,Zp,Zl⟩,ZE,ZG⟩).askTo=(ZQ.lt ⟨ZZ,⟨ZT,Yr⟩,YM,l_id,⟨Ye,Yd,ZR⟩,YF,⟨ZL,ZV⟩,⟨Yc,ZY,ZK⟩⟩).frm.addr by show ZB=ZT;first|assumption|omega) (show (ZP.nd ⟨⟨⟨Za,Zc⟩,⟨Zf,Zh⟩,⟨Zj,Zi,Zg⟩,⟨Ze,Zd,Zb⟩⟩,Zt,Zs,ZF,Zz,ZM,ZB,Zx,Zv,Zo,Zy,Zn,Zw,⟨Zq,Zp,Zl⟩,ZE,ZG⟩).askReq=(ZQ.lt ⟨ZZ,⟨ZT,Yr⟩,YM,l_id,⟨Ye,Yd,ZR⟩,YF,⟨ZL,ZV⟩,⟨Yc,ZY,ZK⟩⟩).req by show Zx=YM;first|assumption|omega) hv1 (show CloserT (ZS.tb ⟨⟨wa,wi⟩,⟨wq,wj⟩,⟨w1a,w1c,w1l⟩,⟨w2a,w2c,w2l⟩⟩) ⟨ZL,ZV⟩ by assumption) (q:=ZP.nd ⟨⟨⟨ua,ui⟩,⟨uq,uj⟩,⟨u1a,u1c,u1l⟩,⟨u2a,u2c,u2l⟩⟩,Zt,Zs,ZF,Zz,ZM,(-1),Zx,Zv,Zo,Zy,Zn,Zw,⟨Zq,Zp,Zl⟩,ZE,ZG⟩) hv2)
     rw [show XU (ZP.nd ⟨⟨⟨ua,ui⟩,⟨uq,uj⟩,⟨u1a,u1c,u1l⟩,⟨u2a,u2c,u2l⟩⟩,Zt,Zs,ZF,Zz,ZM,(-1),Zx,Zv,Zo,Zy,Zn,Zw,⟨Zq,Zp,Zl⟩,ZE,ZG⟩).table=⟨fa,fi⟩ from hfi] at h3
     refine ⟨_,M3,[(bw,rowO (ZO.segs ⟨⟨⟨⟨ua,ui⟩,⟨uq,uj⟩,⟨u1a,u1c,u1l⟩,⟨u2a,u2c,u2l⟩⟩,Zt,Zs,ZF,Zz,ZM,(-1),Zx,Zv,Zo,Zy,Zn,Zw,⟨Zq,Zp,Zl⟩,ZE,ZG⟩,⟨o9a,o9c,o9l⟩⟩) 68)],rfl,((hm1.trans hm2).trans hm3),hw.c,rfl,⟨⟨⟨ua,ui⟩,⟨uq,uj⟩,⟨u1a,u1c,u1l⟩,⟨u2a,u2c,u2l⟩⟩,Zt,Zs,ZF,Zz,ZM,(-1),Zx,Zv,Zo,Zy,Zn,Zw,⟨Zq,Zp,Zl⟩,ZE,ZG⟩,⟨o9a,o9c,o9l⟩,rfl,?_,?_,⟨oku.mono hm3,((Yq.mono hm1).mono hm2).mono hm3⟩,k9o,fun y hy=>?_⟩
     ·rw [h3] <;> rfl
     ·rw [h3]
      show sndl o9l=_
      rw [hl9];rfl
     ·simp only at hy
      rw [hl9] at hy
      obtain rfl:=List.mem_singleton.1 hy
      exact ⟨⟨SlK.nil,SlK.nil⟩⟩
    ·replace hc4:=dF hc4
     refine YB (Zr (Y_pk [0] ?_));refine Xl (l:=[0,1,2,3,4,5,6,7,8,9,10]) [10] rfl ?_
     iterate 2 refine ZA ?_
     refine ZU ?_;refine Zk F.foff68_0 ?_;refine Zk F.foff32_0 ?_;refine ZH F.lay28 ?_;refine X_fs rfl rfl F.ok41 rfl (First_ok _ ⟨⟨wa,wi⟩,⟨wq,wj⟩,⟨w1a,w1c,w1l⟩,⟨w2a,w2c,w2l⟩⟩ okt) rfl ?_
     rintro _ rfl
     obtain ⟨⟨fa,fi⟩,hfi⟩:∃ x,XU (ZS.tb ⟨⟨wa,wi⟩,⟨wq,wj⟩,⟨w1a,w1c,w1l⟩,⟨w2a,w2c,w2l⟩⟩)=x:=⟨_,rfl⟩
     rw [hfi]
     refine Y_field F.fld25_0 F.lay3 ?_;refine X_fs rfl rfl F.ok66 rfl (WK _) rfl ?_
     rintro _ rfl
     refine Vo 60 rfl (show _=aggV [.one (.int .i64 (-1)),Yn 0] from rfl) ?_;refine Xn rfl rfl F.bld44 (.cons rfl (by constructor) (.cons rfl (by constructor) .nil)) rfl rfl ?_;refine Wq rfl rfl rfl F.ok65 rfl (sendF_ok M1 bw wa wi wq wj w1a w2a Zq w1c w2c Zp w1l w2l Zl Zt Zs ZF Zz ZM (-1) Zx Zv Zo Zy Zn Zw ZE ZG fa ⟨5,⟨0,0⟩,0,0,⟨none,0,[]⟩,false,⟨-1,0⟩,⟨none,0,[]⟩⟩) (by repeat first|exact Rem.here _|exact Rem.two|apply Rem.skip|apply Rem.over) (Yw rfl) ?_
     rintro _ M3 hs3 hm3 ⟨rfl,⟨o9a,o9c,o9l⟩,rfl,k9o,hl9⟩
     simp only at hl9
     simp only [List.append_assoc,List.cons_append,List.nil_append]
     refine Zu (Wd ?_)
     refine Yk (.inl rfl) (.nil) (fun w hw=>?_)
     have h3:=(does4 (n:=(ZP.nd ⟨⟨⟨Za,Zc⟩,⟨Zf,Zh⟩,⟨Zj,Zi,Zg⟩,⟨Ze,Zd,Zb⟩⟩,Zt,Zs,ZF,Zz,ZM,ZB,Zx,Zv,Zo,Zy,Zn,Zw,⟨Zq,Zp,Zl⟩,ZE,ZG⟩)) (l:=(ZQ.lt ⟨ZZ,⟨ZT,Yr⟩,YM,l_id,⟨Ye,Yd,ZR⟩,YF,⟨ZL,ZV⟩,⟨Yc,ZY,ZK⟩⟩)) hk).trans (told_not (m:=ZP.nd ⟨⟨⟨wa,wi⟩,⟨wq,wj⟩,⟨w1a,w1c,w1l⟩,⟨w2a,w2c,w2l⟩⟩,Zt,Zs,ZF,Zz,ZM,(-1),Zx,Zv,Zo,Zy,Zn,Zw,⟨Zq,Zp,Zl⟩,ZE,ZG⟩) (show (ZP.nd ⟨⟨⟨Za,Zc⟩,⟨Zf,Zh⟩,⟨Zj,Zi,Zg⟩,⟨Ze,Zd,Zb⟩⟩,Zt,Zs,ZF,Zz,ZM,ZB,Zx,Zv,Zo,Zy,Zn,Zw,⟨Zq,Zp,Zl⟩,ZE,ZG⟩).askTo=(ZQ.lt ⟨ZZ,⟨ZT,Yr⟩,YM,l_id,⟨Ye,Yd,ZR⟩,YF,⟨ZL,ZV⟩,⟨Yc,ZY,ZK⟩⟩).frm.addr by show ZB=ZT;first|assumption|omega) (show (ZP.nd ⟨⟨⟨Za,Zc⟩,⟨Zf,Zh⟩,⟨Zj,Zi,Zg⟩,⟨Ze,Zd,Zb⟩⟩,Zt,Zs,ZF,Zz,ZM,ZB,Zx,Zv,Zo,Zy,Zn,Zw,⟨Zq,Zp,Zl⟩,ZE,ZG⟩).askReq=(ZQ.lt ⟨ZZ,⟨ZT,Yr⟩,YM,l_id,⟨Ye,Yd,ZR⟩,YF,⟨ZL,ZV⟩,⟨Yc,ZY,ZK⟩⟩).req by show Zx=YM;first|assumption|omega) hv1 (show ¬CloserT (ZS.tb ⟨⟨wa,wi⟩,⟨wq,wj⟩,⟨w1a,w1c,w1l⟩,⟨w2a,w2c,w2l⟩⟩) ⟨ZL,ZV⟩ by assumption))
     rw [show XU (ZP.nd ⟨⟨⟨wa,wi⟩,⟨wq,wj⟩,⟨w1a,w1c,w1l⟩,⟨w2a,w2c,w2l⟩⟩,Zt,Zs,ZF,Zz,ZM,(-1),Zx,Zv,Zo,Zy,Zn,Zw,⟨Zq,Zp,Zl⟩,ZE,ZG⟩).table=⟨fa,fi⟩ from hfi] at h3
     refine ⟨_,M3,[(bw,rowO (ZO.segs ⟨⟨⟨⟨wa,wi⟩,⟨wq,wj⟩,⟨w1a,w1c,w1l⟩,⟨w2a,w2c,w2l⟩⟩,Zt,Zs,ZF,Zz,ZM,(-1),Zx,Zv,Zo,Zy,Zn,Zw,⟨Zq,Zp,Zl⟩,ZE,ZG⟩,⟨o9a,o9c,o9l⟩⟩) 68)],rfl,(hm1.trans hm3),hw.c,rfl,⟨⟨⟨wa,wi⟩,⟨wq,wj⟩,⟨w1a,w1c,w1l⟩,⟨w2a,w2c,w2l⟩⟩,Zt,Zs,ZF,Zz,ZM,(-1),Zx,Zv,Zo,Zy,Zn,Zw,⟨Zq,Zp,Zl⟩,ZE,ZG⟩,⟨o9a,o9c,o9l⟩,rfl,?_,?_,⟨okt.mono hm3,(Yq.mono hm1).mono hm3⟩,k9o,fun y hy=>?_⟩
     ·rw [h3] <;> rfl
     ·rw [h3]
      show sndl o9l=_
      rw [hl9];rfl
     ·simp only at hy
      rw [hl9] at hy
      obtain rfl:=List.mem_singleton.1 hy
      exact ⟨⟨SlK.nil,SlK.nil⟩⟩
end Go.Proofs.YtajmnjefajknoaaGreat
namespace Go.Proofs.YtajmnjefajknoaaGreat
open Go.Esp
theorem bye_ok (M:Mem) (bw:Nat) (Za:Int) (Zc:Plc) (Zf:Int) (Zh:Plc) (Zj Ze Zq:Option Addr) (Zi Zd Zp:Nat) (Zg Zb:List ZD) (Zl:List Int) (Zt:Int) (Zs:Bool) (ZF Zz ZM ZB Zx Zv Zo Zy Zn:Int) (Zw:Plc) (ZE ZG:Int) (Ym:ZS.ok M ⟨⟨Za,Zc⟩,⟨Zf,Zh⟩,⟨Zj,Zi,Zg⟩,⟨Ze,Zd,Zb⟩⟩) (Yq:SlK M (oneI .i64) 1 ⟨Zq,Zp,Zl⟩) (hbig:Zg.length≤40∧Zb.length≤200) (hLa:Zl.length≤1000) (hh:0≤ZE∧ZE≤1000) (l:ZQ) (hl0:ZQ.ok M l) (hLp:l.peers.l.length≤1000) (hk:l.kind=8):Fh Tryz.prog 52 [.pointer (some ⟨bw,0,none⟩),l.enc] M [(bw,rowO (ZO.segs ⟨⟨⟨⟨Za,Zc⟩,⟨Zf,Zh⟩,⟨Zj,Zi,Zg⟩,⟨Ze,Zd,Zb⟩⟩,Zt,Zs,ZF,Zz,ZM,ZB,Zx,Zv,Zo,Zy,Zn,Zw,⟨Zq,Zp,Zl⟩,ZE,ZG⟩,⟨none,0,[]⟩⟩) 68)] (fun M' v Hout=>v=.tuple #[]∧WkF bw 68 M' Hout (XO (ZP.nd ⟨⟨⟨Za,Zc⟩,⟨Zf,Zh⟩,⟨Zj,Zi,Zg⟩,⟨Ze,Zd,Zb⟩⟩,Zt,Zs,ZF,Zz,ZM,ZB,Zx,Zv,Zo,Zy,Zn,Zw,⟨Zq,Zp,Zl⟩,ZE,ZG⟩) l.lt)):=by
  obtain ⟨ZZ,⟨ZT,Yr⟩,YM,l_id,⟨Ye,Yd,ZR⟩,YF,⟨ZL,ZV⟩,⟨Yc,ZY,ZK⟩⟩:=l
  simp only at hLp hk
  have Xk:SlK M (oneI .i64) 1 ⟨Ye,Yd,ZR⟩:=hl0.h0
  have YZ:SlK M ZD.segs 21 ⟨Yc,ZY,ZK⟩:=hl0.h1
  have XI:=YZ.h1
  simp only at XI
  have Wx:(ZK.map ZD.segs).length=ZK.length:=List.length_map ..
  have Wy:ZK.length≤ZY:=YZ.h3
  refine XJ (fun H=>(bw,rowO (ZO.segs ⟨⟨⟨⟨Za,Zc⟩,⟨Zf,Zh⟩,⟨Zj,Zi,Zg⟩,⟨Ze,Zd,Zb⟩⟩,Zt,Zs,ZF,Zz,ZM,ZB,Zx,Zv,Zo,Zy,Zn,Zw,⟨Zq,Zp,Zl⟩,ZE,ZG⟩,⟨none,0,[]⟩⟩) 68)::H) (fun _=>by simp only [List.append_assoc,List.cons_append,List.nil_append]) Tryz.func52 rfl Tryz.ntmps52 rfl ?_;intro H
  refine ZJ (Zm (l:=[0]) rfl ?_)
  refine Xi ?_;intro b1
  refine Zu (Zr (Y_pk [3,0] ?_));refine ZJ (YE (l:=[0,1,2,3,4,5,6,7,8,9,10,11,12,13,14,15,16,17,18,19,20,21,22,23]) #[0,1,3,7,15,31,63,0,128,384,1023,0,2048,6144,14336,30720,63488,129024,0,262144,786432,2095104,131071,8388607] _ rfl (by kernel_rfl) (by kernel_rfl) St.drawn (fun _ h=>h) ?_);refine ZA ?_;refine ZU ?_;refine Zk F.foff68_0 ?_;refine Zk F.foff32_0 ?_;refine Zk F.foff28_1 ?_;refine Zk F.foff25_0 ?_;refine ZH F.lay3 ?_;refine Zk F.foff44_1 ?_;refine Zk F.foff25_0 ?_;refine ZH F.lay3 ?_;refine Yy ?_;refine ZA ?_;refine ZU ?_;refine Zk F.foff68_0 ?_;refine Zk F.foff32_0 ?_;refine ZH F.lay28 ?_;refine X_fs rfl rfl F.ok41 rfl (First_ok _ ⟨⟨Za,Zc⟩,⟨Zf,Zh⟩,⟨Zj,Zi,Zg⟩,⟨Ze,Zd,Zb⟩⟩ Ym) rfl ?_
  rintro _ rfl
  obtain ⟨⟨fa,fi⟩,hfi⟩:∃ x,XU (ZS.tb ⟨⟨Za,Zc⟩,⟨Zf,Zh⟩,⟨Zj,Zi,Zg⟩,⟨Ze,Zd,Zb⟩⟩)=x:=⟨_,rfl⟩
  rw [hfi]
  refine Y_field F.fld25_0 F.lay3 ?_;refine Zk F.foff44_1 ?_;refine Zk F.foff25_0 ?_;refine ZH F.lay3 ?_;refine Yy ?_
  iterate 2 refine ZC ?_
  refine Zu (Zr (Y_pk [5,4,3,0] ?_));refine ZJ (YE (l:=[0,1,2,3,4,5,6,7,8,9,10,11,12,13]) #[0,0,2,6,14,30,0,64,192,510,1023,2047,4095,8191] _ rfl (by kernel_rfl) (by kernel_rfl) St.drawn (fun _ h=>h) ?_)
  iterate 2 refine ZA ?_
  refine ZU ?_;refine Zk F.foff68_0 ?_;refine Zk F.foff32_0 ?_;refine ZH F.lay28 ?_;refine Zk F.foff44_1 ?_;refine Zk F.foff25_0 ?_;refine ZH F.lay3 ?_;refine X_fn rfl rfl F.ok108 rfl (Forget_ok _ ⟨⟨Za,Zc⟩,⟨Zf,Zh⟩,⟨Zj,Zi,Zg⟩,⟨Ze,Zd,Zb⟩⟩ ZT Ym hbig) rfl ?_
  rintro _ M1 hm1 ⟨⟨⟨oa,oi⟩,⟨oq,oj⟩,⟨o1a,o1c,o1l⟩,⟨o2a,o2c,o2l⟩⟩,rfl,hot,okt⟩
  refine ZU ?_;refine Zk F.foff68_0 ?_;refine Zk F.foff32_0 ?_;refine Yi F.lay28 ?_;refine Zu (Zr (Y_pk [5,4,3,0] ?_))
  iterate 2 refine ZJ ?_
  refine Zm (l:=[0]) rfl ?_;refine ZA ?_;refine Zu (Zr (Y_pk [41,5,3,0] ?_))
  refine Yz rfl (fun hc2=>?_) (fun hc2=>?_)
  ·replace hc2:=dT hc2
   refine YE (l:=[0,1,2,3,4,5,6,7,8,9,10,11,12]) #[0,0,2,6,14,30,0,64,254,511,1023,2047,4095] _ rfl (by kernel_rfl) (by kernel_rfl) St.drawn (fun _ h=>h) ?_
   iterate 2 refine ZA ?_
   refine ZU ?_;refine Zk F.foff68_0 ?_;refine Zk F.foff32_0 ?_;refine ZH F.lay28 ?_;refine Zk F.foff44_6 ?_;refine ZH F.lay25 ?_;refine X_fn rfl rfl F.ok107 rfl (Learn_ok _ ⟨⟨oa,oi⟩,⟨oq,oj⟩,⟨o1a,o1c,o1l⟩,⟨o2a,o2c,o2l⟩⟩ ⟨ZL,ZV⟩ okt) rfl ?_
   rintro _ M2 hm2 ⟨⟨⟨wa,wi⟩,⟨wq,wj⟩,⟨w1a,w1c,w1l⟩,⟨w2a,w2c,w2l⟩⟩,rfl,hol,okl⟩
   refine ZU ?_;refine Zk F.foff68_0 ?_;refine Zk F.foff32_0 ?_;refine Yi F.lay28 ?_;refine Zu (Zr (Y_pk [5,3,0] ?_));refine ZJ ?_
   have s_lp9:=XI.mono (hm1.trans hm2)
   refine Zm (l:=[0,1,2,3,4,5,6]) rfl ?_
   iterate 2 refine ZA ?_
   refine Yj 55 rfl (fun hc3=>?_) (fun hc3=>?_)
   ·replace hc3:=dT hc3
    refine Zk F.foff44_7 ?_;refine ZH F.lay26 ?_;refine Xa F.elem26 ?_;refine Yy ?_;refine ZN ?_;refine Zu (Zr (Y_pk [60,3,0] ?_))
    refine Yz rfl (fun hc4=>?_) (fun hc4=>?_)
    ·replace hc4:=dT hc4
     refine C_region_anyW (l:=[0,1,2,3,4,5,6,7,8]) [8] #[0,0,2,6,14,0,32,96,255] (_) rfl (by kernel_rfl) (by kernel_rfl) St.drawn (fun _ h=>h) ?_;refine ZA ?_;refine Zk F.foff44_7 ?_;refine ZH F.lay26 ?_;refine YO rfl rfl rfl rfl F.elem26 (by rfl) (by (simp;omega)) (by exact SlM.plain (by assumption) (by (simp;omega))) rfl ?_;refine Xx rfl rfl rfl (by assumption) (by exact Wr (by (simp;omega))) F.lay25 rfl rfl rfl ?_;refine Zk F.foff44_7 ?_;refine ZH F.lay26 ?_;refine WE rfl rfl rfl (.some (k:=1) rfl rfl) .none .none F.elem26 (by simp only [Option.getD_none];omega) (by simp only [Option.getD_some,Option.getD_none];omega) (by simp only [Option.getD_some,Option.getD_none];omega) (by simp) (pieceV_drop (l:=ZK) (k:=1)) rfl ?_;refine Wq rfl rfl rfl F.ok82 rfl (adopt_ok M2 bw wa wi wq wj w1a w2a Zq w1c w2c Zp w1l w2l Zl Zt Zs ZF Zz ZM ZB Zx Zv Zo Zy Zn Zw ZE ZG okl ZK[0] ⟨_,_,ZK.drop 1⟩ ((YZ.mono (hm1.trans hm2)).drop 1 (by omega))) (by repeat first|exact Rem.here _|exact Rem.two|apply Rem.skip|apply Rem.over) (Yw rfl) ?_
     rintro _ M3 hs3 hm3 ⟨rfl,⟨⟨ua,ui⟩,⟨uq,uj⟩,⟨u1a,u1c,u1l⟩,⟨u2a,u2c,u2l⟩⟩,rfl,oku,hv1⟩
     simp only [List.append_assoc,List.cons_append,List.nil_append]
     refine Zu (Wd ?_)
     refine Yk (.inl rfl) (.nil) (fun w hw=>?_)
     have h2:ZP.nd ⟨⟨⟨wa,wi⟩,⟨wq,wj⟩,⟨w1a,w1c,w1l⟩,⟨w2a,w2c,w2l⟩⟩,Zt,Zs,ZF,Zz,ZM,ZB,Zx,Zv,Zo,Zy,Zn,Zw,⟨Zq,Zp,Zl⟩,ZE,ZG⟩={ ZP.nd ⟨⟨⟨Za,Zc⟩,⟨Zf,Zh⟩,⟨Zj,Zi,Zg⟩,⟨Ze,Zd,Zb⟩⟩,Zt,Zs,ZF,Zz,ZM,ZB,Zx,Zv,Zo,Zy,Zn,Zw,⟨Zq,Zp,Zl⟩,ZE,ZG⟩ with table:=byeT (ZP.nd ⟨⟨⟨Za,Zc⟩,⟨Zf,Zh⟩,⟨Zj,Zi,Zg⟩,⟨Ze,Zd,Zb⟩⟩,Zt,Zs,ZF,Zz,ZM,ZB,Zx,Zv,Zo,Zy,Zn,Zw,⟨Zq,Zp,Zl⟩,ZE,ZG⟩) (ZQ.lt ⟨ZZ,⟨ZT,Yr⟩,YM,l_id,⟨Ye,Yd,ZR⟩,YF,⟨ZL,ZV⟩,⟨Yc,ZY,ZK⟩⟩) }:=by
      unfold byeT
      rw [if_pos (show (ZP.nd ⟨⟨⟨Za,Zc⟩,⟨Zf,Zh⟩,⟨Zj,Zi,Zg⟩,⟨Ze,Zd,Zb⟩⟩,Zt,Zs,ZF,Zz,ZM,ZB,Zx,Zv,Zo,Zy,Zn,Zw,⟨Zq,Zp,Zl⟩,ZE,ZG⟩).table.pred.addr=(ZQ.lt ⟨ZZ,⟨ZT,Yr⟩,YM,l_id,⟨Ye,Yd,ZR⟩,YF,⟨ZL,ZV⟩,⟨Yc,ZY,ZK⟩⟩).frm.addr from (show Zf=ZT by assumption)),show Wa (ZP.nd ⟨⟨⟨Za,Zc⟩,⟨Zf,Zh⟩,⟨Zj,Zi,Zg⟩,⟨Ze,Zd,Zb⟩⟩,Zt,Zs,ZF,Zz,ZM,ZB,Zx,Zv,Zo,Zy,Zn,Zw,⟨Zq,Zp,Zl⟩,ZE,ZG⟩).table (ZQ.lt ⟨ZZ,⟨ZT,Yr⟩,YM,l_id,⟨Ye,Yd,ZR⟩,YF,⟨ZL,ZV⟩,⟨Yc,ZY,ZK⟩⟩).frm.addr=_ from hot.symm,show Vt (ZS.tb ⟨⟨oa,oi⟩,⟨oq,oj⟩,⟨o1a,o1c,o1l⟩,⟨o2a,o2c,o2l⟩⟩) (ZQ.lt ⟨ZZ,⟨ZT,Yr⟩,YM,l_id,⟨Ye,Yd,ZR⟩,YF,⟨ZL,ZV⟩,⟨Yc,ZY,ZK⟩⟩).peer=_ from hol.symm];rfl
     have h3:XO (ZP.nd ⟨⟨⟨Za,Zc⟩,⟨Zf,Zh⟩,⟨Zj,Zi,Zg⟩,⟨Ze,Zd,Zb⟩⟩,Zt,Zs,ZF,Zz,ZM,ZB,Zx,Zv,Zo,Zy,Zn,Zw,⟨Zq,Zp,Zl⟩,ZE,ZG⟩) (ZQ.lt ⟨ZZ,⟨ZT,Yr⟩,YM,l_id,⟨Ye,Yd,ZR⟩,YF,⟨ZL,ZV⟩,⟨Yc,ZY,ZK⟩⟩)=(ZP.nd ⟨⟨⟨ua,ui⟩,⟨uq,uj⟩,⟨u1a,u1c,u1l⟩,⟨u2a,u2c,u2l⟩⟩,Zt,Zs,ZF,Zz,ZM,ZB,Zx,Zv,Zo,Zy,Zn,Zw,⟨Zq,Zp,Zl⟩,ZE,ZG⟩,[]):=(does8 hk).trans (congrArg (fun x=>(x,([]:List Snd))) ((bye_yes h2 (show (XU (ZS.tb ⟨⟨Za,Zc⟩,⟨Zf,Zh⟩,⟨Zj,Zi,Zg⟩,⟨Ze,Zd,Zb⟩⟩)).addr=ZT by rw [hfi];assumption) (show 0<ZK.length by omega)).trans hv1.symm))
     refine ⟨_,M3,[(bw,rowO (ZO.segs ⟨⟨⟨⟨ua,ui⟩,⟨uq,uj⟩,⟨u1a,u1c,u1l⟩,⟨u2a,u2c,u2l⟩⟩,Zt,Zs,ZF,Zz,ZM,ZB,Zx,Zv,Zo,Zy,Zn,Zw,⟨Zq,Zp,Zl⟩,ZE,ZG⟩,⟨none,0,[]⟩⟩) 68)],rfl,((hm1.trans hm2).trans hm3),hw.c,rfl,⟨⟨⟨ua,ui⟩,⟨uq,uj⟩,⟨u1a,u1c,u1l⟩,⟨u2a,u2c,u2l⟩⟩,Zt,Zs,ZF,Zz,ZM,ZB,Zx,Zv,Zo,Zy,Zn,Zw,⟨Zq,Zp,Zl⟩,ZE,ZG⟩,⟨none,0,[]⟩,rfl,?_,?_,⟨oku,((Yq.mono hm1).mono hm2).mono hm3⟩,SlK.nil,fun y hy=>by cases hy⟩
     ·rw [h3] <;> rfl
     ·rw [h3] <;> rfl
    ·replace hc4:=dF hc4
     refine YB ?_
     refine Yk (.inl rfl) (.nil) (fun w hw=>?_)
     have h2:ZP.nd ⟨⟨⟨wa,wi⟩,⟨wq,wj⟩,⟨w1a,w1c,w1l⟩,⟨w2a,w2c,w2l⟩⟩,Zt,Zs,ZF,Zz,ZM,ZB,Zx,Zv,Zo,Zy,Zn,Zw,⟨Zq,Zp,Zl⟩,ZE,ZG⟩={ ZP.nd ⟨⟨⟨Za,Zc⟩,⟨Zf,Zh⟩,⟨Zj,Zi,Zg⟩,⟨Ze,Zd,Zb⟩⟩,Zt,Zs,ZF,Zz,ZM,ZB,Zx,Zv,Zo,Zy,Zn,Zw,⟨Zq,Zp,Zl⟩,ZE,ZG⟩ with table:=byeT (ZP.nd ⟨⟨⟨Za,Zc⟩,⟨Zf,Zh⟩,⟨Zj,Zi,Zg⟩,⟨Ze,Zd,Zb⟩⟩,Zt,Zs,ZF,Zz,ZM,ZB,Zx,Zv,Zo,Zy,Zn,Zw,⟨Zq,Zp,Zl⟩,ZE,ZG⟩) (ZQ.lt ⟨ZZ,⟨ZT,Yr⟩,YM,l_id,⟨Ye,Yd,ZR⟩,YF,⟨ZL,ZV⟩,⟨Yc,ZY,ZK⟩⟩) }:=by
      unfold byeT
      rw [if_pos (show (ZP.nd ⟨⟨⟨Za,Zc⟩,⟨Zf,Zh⟩,⟨Zj,Zi,Zg⟩,⟨Ze,Zd,Zb⟩⟩,Zt,Zs,ZF,Zz,ZM,ZB,Zx,Zv,Zo,Zy,Zn,Zw,⟨Zq,Zp,Zl⟩,ZE,ZG⟩).table.pred.addr=(ZQ.lt ⟨ZZ,⟨ZT,Yr⟩,YM,l_id,⟨Ye,Yd,ZR⟩,YF,⟨ZL,ZV⟩,⟨Yc,ZY,ZK⟩⟩).frm.addr from (show Zf=ZT by assumption)),show Wa (ZP.nd ⟨⟨⟨Za,Zc⟩,⟨Zf,Zh⟩,⟨Zj,Zi,Zg⟩,⟨Ze,Zd,Zb⟩⟩,Zt,Zs,ZF,Zz,ZM,ZB,Zx,Zv,Zo,Zy,Zn,Zw,⟨Zq,Zp,Zl⟩,ZE,ZG⟩).table (ZQ.lt ⟨ZZ,⟨ZT,Yr⟩,YM,l_id,⟨Ye,Yd,ZR⟩,YF,⟨ZL,ZV⟩,⟨Yc,ZY,ZK⟩⟩).frm.addr=_ from hot.symm,show Vt (ZS.tb ⟨⟨oa,oi⟩,⟨oq,oj⟩,⟨o1a,o1c,o1l⟩,⟨o2a,o2c,o2l⟩⟩) (ZQ.lt ⟨ZZ,⟨ZT,Yr⟩,YM,l_id,⟨Ye,Yd,ZR⟩,YF,⟨ZL,ZV⟩,⟨Yc,ZY,ZK⟩⟩).peer=_ from hol.symm];rfl
     have h3:XO (ZP.nd ⟨⟨⟨Za,Zc⟩,⟨Zf,Zh⟩,⟨Zj,Zi,Zg⟩,⟨Ze,Zd,Zb⟩⟩,Zt,Zs,ZF,Zz,ZM,ZB,Zx,Zv,Zo,Zy,Zn,Zw,⟨Zq,Zp,Zl⟩,ZE,ZG⟩) (ZQ.lt ⟨ZZ,⟨ZT,Yr⟩,YM,l_id,⟨Ye,Yd,ZR⟩,YF,⟨ZL,ZV⟩,⟨Yc,ZY,ZK⟩⟩)=(ZP.nd ⟨⟨⟨wa,wi⟩,⟨wq,wj⟩,⟨w1a,w1c,w1l⟩,⟨w2a,w2c,w2l⟩⟩,Zt,Zs,ZF,Zz,ZM,ZB,Zx,Zv,Zo,Zy,Zn,Zw,⟨Zq,Zp,Zl⟩,ZE,ZG⟩,[]):=(does8 hk).trans (congrArg (fun x=>(x,([]:List Snd))) (bye_no h2 (fun q1 q2=>(by
      replace q1:(XU (ZS.tb ⟨⟨Za,Zc⟩,⟨Zf,Zh⟩,⟨Zj,Zi,Zg⟩,⟨Ze,Zd,Zb⟩⟩)).addr=ZT:=q1
      replace q2:0<ZK.length:=q2
      rw [hfi] at q1
      (exfalso;omega)))))
     refine ⟨_,M2,[(bw,rowO (ZO.segs ⟨⟨⟨⟨wa,wi⟩,⟨wq,wj⟩,⟨w1a,w1c,w1l⟩,⟨w2a,w2c,w2l⟩⟩,Zt,Zs,ZF,Zz,ZM,ZB,Zx,Zv,Zo,Zy,Zn,Zw,⟨Zq,Zp,Zl⟩,ZE,ZG⟩,⟨none,0,[]⟩⟩) 68)],rfl,(hm1.trans hm2),hw.c,rfl,⟨⟨⟨wa,wi⟩,⟨wq,wj⟩,⟨w1a,w1c,w1l⟩,⟨w2a,w2c,w2l⟩⟩,Zt,Zs,ZF,Zz,ZM,ZB,Zx,Zv,Zo,Zy,Zn,Zw,⟨Zq,Zp,Zl⟩,ZE,ZG⟩,⟨none,0,[]⟩,rfl,?_,?_,⟨okl,((Yq.mono hm1).mono hm2)⟩,SlK.nil,fun y hy=>by cases hy⟩
     ·rw [h3] <;> rfl
     ·rw [h3] <;> rfl
   ·replace hc3:=dF hc3
    iterate 4 refine Ya ?_
    refine ZN ?_;refine Zu (Zr (Y_pk [60,3,0] ?_));refine Wn rfl ?_;refine YB ?_
    refine Yk (.inl rfl) (.nil) (fun w hw=>?_)
    have h2:ZP.nd ⟨⟨⟨wa,wi⟩,⟨wq,wj⟩,⟨w1a,w1c,w1l⟩,⟨w2a,w2c,w2l⟩⟩,Zt,Zs,ZF,Zz,ZM,ZB,Zx,Zv,Zo,Zy,Zn,Zw,⟨Zq,Zp,Zl⟩,ZE,ZG⟩={ ZP.nd ⟨⟨⟨Za,Zc⟩,⟨Zf,Zh⟩,⟨Zj,Zi,Zg⟩,⟨Ze,Zd,Zb⟩⟩,Zt,Zs,ZF,Zz,ZM,ZB,Zx,Zv,Zo,Zy,Zn,Zw,⟨Zq,Zp,Zl⟩,ZE,ZG⟩ with table:=byeT (ZP.nd ⟨⟨⟨Za,Zc⟩,⟨Zf,Zh⟩,⟨Zj,Zi,Zg⟩,⟨Ze,Zd,Zb⟩⟩,Zt,Zs,ZF,Zz,ZM,ZB,Zx,Zv,Zo,Zy,Zn,Zw,⟨Zq,Zp,Zl⟩,ZE,ZG⟩) (ZQ.lt ⟨ZZ,⟨ZT,Yr⟩,YM,l_id,⟨Ye,Yd,ZR⟩,YF,⟨ZL,ZV⟩,⟨Yc,ZY,ZK⟩⟩) }:=by
     unfold byeT
     rw [if_pos (show (ZP.nd ⟨⟨⟨Za,Zc⟩,⟨Zf,Zh⟩,⟨Zj,Zi,Zg⟩,⟨Ze,Zd,Zb⟩⟩,Zt,Zs,ZF,Zz,ZM,ZB,Zx,Zv,Zo,Zy,Zn,Zw,⟨Zq,Zp,Zl⟩,ZE,ZG⟩).table.pred.addr=(ZQ.lt ⟨ZZ,⟨ZT,Yr⟩,YM,l_id,⟨Ye,Yd,ZR⟩,YF,⟨ZL,ZV⟩,⟨Yc,ZY,ZK⟩⟩).frm.addr from (show Zf=ZT by assumption)),show Wa (ZP.nd ⟨⟨⟨Za,Zc⟩,⟨Zf,Zh⟩,⟨Zj,Zi,Zg⟩,⟨Ze,Zd,Zb⟩⟩,Zt,Zs,ZF,Zz,ZM,ZB,Zx,Zv,Zo,Zy,Zn,Zw,⟨Zq,Zp,Zl⟩,ZE,ZG⟩).table (ZQ.lt ⟨ZZ,⟨ZT,Yr⟩,YM,l_id,⟨Ye,Yd,ZR⟩,YF,⟨ZL,ZV⟩,⟨Yc,ZY,ZK⟩⟩).frm.addr=_ from hot.symm,show Vt (ZS.tb ⟨⟨oa,oi⟩,⟨oq,oj⟩,⟨o1a,o1c,o1l⟩,⟨o2a,o2c,o2l⟩⟩) (ZQ.lt ⟨ZZ,⟨ZT,Yr⟩,YM,l_id,⟨Ye,Yd,ZR⟩,YF,⟨ZL,ZV⟩,⟨Yc,ZY,ZK⟩⟩).peer=_ from hol.symm];rfl
    have h3:XO (ZP.nd ⟨⟨⟨Za,Zc⟩,⟨Zf,Zh⟩,⟨Zj,Zi,Zg⟩,⟨Ze,Zd,Zb⟩⟩,Zt,Zs,ZF,Zz,ZM,ZB,Zx,Zv,Zo,Zy,Zn,Zw,⟨Zq,Zp,Zl⟩,ZE,ZG⟩) (ZQ.lt ⟨ZZ,⟨ZT,Yr⟩,YM,l_id,⟨Ye,Yd,ZR⟩,YF,⟨ZL,ZV⟩,⟨Yc,ZY,ZK⟩⟩)=(ZP.nd ⟨⟨⟨wa,wi⟩,⟨wq,wj⟩,⟨w1a,w1c,w1l⟩,⟨w2a,w2c,w2l⟩⟩,Zt,Zs,ZF,Zz,ZM,ZB,Zx,Zv,Zo,Zy,Zn,Zw,⟨Zq,Zp,Zl⟩,ZE,ZG⟩,[]):=(does8 hk).trans (congrArg (fun x=>(x,([]:List Snd))) (bye_no h2 (fun q1 q2=>(by
     replace q1:(XU (ZS.tb ⟨⟨Za,Zc⟩,⟨Zf,Zh⟩,⟨Zj,Zi,Zg⟩,⟨Ze,Zd,Zb⟩⟩)).addr=ZT:=q1
     replace q2:0<ZK.length:=q2
     rw [hfi] at q1
     contradiction))))
    refine ⟨_,M2,[(bw,rowO (ZO.segs ⟨⟨⟨⟨wa,wi⟩,⟨wq,wj⟩,⟨w1a,w1c,w1l⟩,⟨w2a,w2c,w2l⟩⟩,Zt,Zs,ZF,Zz,ZM,ZB,Zx,Zv,Zo,Zy,Zn,Zw,⟨Zq,Zp,Zl⟩,ZE,ZG⟩,⟨none,0,[]⟩⟩) 68)],rfl,(hm1.trans hm2),hw.c,rfl,⟨⟨⟨wa,wi⟩,⟨wq,wj⟩,⟨w1a,w1c,w1l⟩,⟨w2a,w2c,w2l⟩⟩,Zt,Zs,ZF,Zz,ZM,ZB,Zx,Zv,Zo,Zy,Zn,Zw,⟨Zq,Zp,Zl⟩,ZE,ZG⟩,⟨none,0,[]⟩,rfl,?_,?_,⟨okl,((Yq.mono hm1).mono hm2)⟩,SlK.nil,fun y hy=>by cases hy⟩
    ·rw [h3] <;> rfl
    ·rw [h3] <;> rfl
  ·replace hc2:=dF hc2
   refine YB (Zr (Y_pk [5,3,0] ?_));refine ZJ ?_
   have s_lp9:=XI.mono hm1
   refine Zm (l:=[0,1,2,3,4,5,6]) rfl ?_
   iterate 2 refine ZA ?_
   refine Yj 55 rfl (fun hc5=>?_) (fun hc5=>?_)
   ·replace hc5:=dT hc5
    refine Zk F.foff44_7 ?_;refine ZH F.lay26 ?_;refine Xa F.elem26 ?_;refine Yy ?_;refine ZN ?_;refine Zu (Zr (Y_pk [60,3,0] ?_))
    refine Yz rfl (fun hc6=>?_) (fun hc6=>?_)
    ·replace hc6:=dT hc6
     refine C_region_anyW (l:=[0,1,2,3,4,5,6,7,8]) [8] #[0,0,2,6,14,0,32,96,255] (_) rfl (by kernel_rfl) (by kernel_rfl) St.drawn (fun _ h=>h) ?_;refine ZA ?_;refine Zk F.foff44_7 ?_;refine ZH F.lay26 ?_;refine YO rfl rfl rfl rfl F.elem26 (by rfl) (by (simp;omega)) (by exact SlM.plain (by assumption) (by (simp;omega))) rfl ?_;refine Xx rfl rfl rfl (by assumption) (by exact Wr (by (simp;omega))) F.lay25 rfl rfl rfl ?_;refine Zk F.foff44_7 ?_;refine ZH F.lay26 ?_;refine WE rfl rfl rfl (.some (k:=1) rfl rfl) .none .none F.elem26 (by simp only [Option.getD_none];omega) (by simp only [Option.getD_some,Option.getD_none];omega) (by simp only [Option.getD_some,Option.getD_none];omega) (by simp) (pieceV_drop (l:=ZK) (k:=1)) rfl ?_;refine Wq rfl rfl rfl F.ok82 rfl (adopt_ok M1 bw oa oi oq oj o1a o2a Zq o1c o2c Zp o1l o2l Zl Zt Zs ZF Zz ZM ZB Zx Zv Zo Zy Zn Zw ZE ZG okt ZK[0] ⟨_,_,ZK.drop 1⟩ ((YZ.mono hm1).drop 1 (by omega))) (by repeat first|exact Rem.here _|exact Rem.two|apply Rem.skip|apply Rem.over) (Yw rfl) ?_
     rintro _ M3 hs3 hm3 ⟨rfl,⟨⟨ua,ui⟩,⟨uq,uj⟩,⟨u1a,u1c,u1l⟩,⟨u2a,u2c,u2l⟩⟩,rfl,oku,hv1⟩
     simp only [List.append_assoc,List.cons_append,List.nil_append]
     refine Zu (Wd ?_)
     refine Yk (.inl rfl) (.nil) (fun w hw=>?_)
     have h2:ZP.nd ⟨⟨⟨oa,oi⟩,⟨oq,oj⟩,⟨o1a,o1c,o1l⟩,⟨o2a,o2c,o2l⟩⟩,Zt,Zs,ZF,Zz,ZM,ZB,Zx,Zv,Zo,Zy,Zn,Zw,⟨Zq,Zp,Zl⟩,ZE,ZG⟩={ ZP.nd ⟨⟨⟨Za,Zc⟩,⟨Zf,Zh⟩,⟨Zj,Zi,Zg⟩,⟨Ze,Zd,Zb⟩⟩,Zt,Zs,ZF,Zz,ZM,ZB,Zx,Zv,Zo,Zy,Zn,Zw,⟨Zq,Zp,Zl⟩,ZE,ZG⟩ with table:=byeT (ZP.nd ⟨⟨⟨Za,Zc⟩,⟨Zf,Zh⟩,⟨Zj,Zi,Zg⟩,⟨Ze,Zd,Zb⟩⟩,Zt,Zs,ZF,Zz,ZM,ZB,Zx,Zv,Zo,Zy,Zn,Zw,⟨Zq,Zp,Zl⟩,ZE,ZG⟩) (ZQ.lt ⟨ZZ,⟨ZT,Yr⟩,YM,l_id,⟨Ye,Yd,ZR⟩,YF,⟨ZL,ZV⟩,⟨Yc,ZY,ZK⟩⟩) }:=by
      unfold byeT
      rw [if_neg (show ¬(ZP.nd ⟨⟨⟨Za,Zc⟩,⟨Zf,Zh⟩,⟨Zj,Zi,Zg⟩,⟨Ze,Zd,Zb⟩⟩,Zt,Zs,ZF,Zz,ZM,ZB,Zx,Zv,Zo,Zy,Zn,Zw,⟨Zq,Zp,Zl⟩,ZE,ZG⟩).table.pred.addr=(ZQ.lt ⟨ZZ,⟨ZT,Yr⟩,YM,l_id,⟨Ye,Yd,ZR⟩,YF,⟨ZL,ZV⟩,⟨Yc,ZY,ZK⟩⟩).frm.addr from (show ¬Zf=ZT by assumption)),show Wa (ZP.nd ⟨⟨⟨Za,Zc⟩,⟨Zf,Zh⟩,⟨Zj,Zi,Zg⟩,⟨Ze,Zd,Zb⟩⟩,Zt,Zs,ZF,Zz,ZM,ZB,Zx,Zv,Zo,Zy,Zn,Zw,⟨Zq,Zp,Zl⟩,ZE,ZG⟩).table (ZQ.lt ⟨ZZ,⟨ZT,Yr⟩,YM,l_id,⟨Ye,Yd,ZR⟩,YF,⟨ZL,ZV⟩,⟨Yc,ZY,ZK⟩⟩).frm.addr=_ from hot.symm];rfl
     have h3:XO (ZP.nd ⟨⟨⟨Za,Zc⟩,⟨Zf,Zh⟩,⟨Zj,Zi,Zg⟩,⟨Ze,Zd,Zb⟩⟩,Zt,Zs,ZF,Zz,ZM,ZB,Zx,Zv,Zo,Zy,Zn,Zw,⟨Zq,Zp,Zl⟩,ZE,ZG⟩) (ZQ.lt ⟨ZZ,⟨ZT,Yr⟩,YM,l_id,⟨Ye,Yd,ZR⟩,YF,⟨ZL,ZV⟩,⟨Yc,ZY,ZK⟩⟩)=(ZP.nd ⟨⟨⟨ua,ui⟩,⟨uq,uj⟩,⟨u1a,u1c,u1l⟩,⟨u2a,u2c,u2l⟩⟩,Zt,Zs,ZF,Zz,ZM,ZB,Zx,Zv,Zo,Zy,Zn,Zw,⟨Zq,Zp,Zl⟩,ZE,ZG⟩,[]):=(does8 hk).trans (congrArg (fun x=>(x,([]:List Snd))) ((bye_yes h2 (show (XU (ZS.tb ⟨⟨Za,Zc⟩,⟨Zf,Zh⟩,⟨Zj,Zi,Zg⟩,⟨Ze,Zd,Zb⟩⟩)).addr=ZT by rw [hfi];assumption) (show 0<ZK.length by omega)).trans hv1.symm))
     refine ⟨_,M3,[(bw,rowO (ZO.segs ⟨⟨⟨⟨ua,ui⟩,⟨uq,uj⟩,⟨u1a,u1c,u1l⟩,⟨u2a,u2c,u2l⟩⟩,Zt,Zs,ZF,Zz,ZM,ZB,Zx,Zv,Zo,Zy,Zn,Zw,⟨Zq,Zp,Zl⟩,ZE,ZG⟩,⟨none,0,[]⟩⟩) 68)],rfl,(hm1.trans hm3),hw.c,rfl,⟨⟨⟨ua,ui⟩,⟨uq,uj⟩,⟨u1a,u1c,u1l⟩,⟨u2a,u2c,u2l⟩⟩,Zt,Zs,ZF,Zz,ZM,ZB,Zx,Zv,Zo,Zy,Zn,Zw,⟨Zq,Zp,Zl⟩,ZE,ZG⟩,⟨none,0,[]⟩,rfl,?_,?_,⟨oku,(Yq.mono hm1).mono hm3⟩,SlK.nil,fun y hy=>by cases hy⟩
     ·rw [h3] <;> rfl
     ·rw [h3] <;> rfl
    ·replace hc6:=dF hc6
     refine YB ?_
     refine Yk (.inl rfl) (.nil) (fun w hw=>?_)
     have h2:ZP.nd ⟨⟨⟨oa,oi⟩,⟨oq,oj⟩,⟨o1a,o1c,o1l⟩,⟨o2a,o2c,o2l⟩⟩,Zt,Zs,ZF,Zz,ZM,ZB,Zx,Zv,Zo,Zy,Zn,Zw,⟨Zq,Zp,Zl⟩,ZE,ZG⟩={ ZP.nd ⟨⟨⟨Za,Zc⟩,⟨Zf,Zh⟩,⟨Zj,Zi,Zg⟩,⟨Ze,Zd,Zb⟩⟩,Zt,Zs,ZF,Zz,ZM,ZB,Zx,Zv,Zo,Zy,Zn,Zw,⟨Zq,Zp,Zl⟩,ZE,ZG⟩ with table:=byeT (ZP.nd ⟨⟨⟨Za,Zc⟩,⟨Zf,Zh⟩,⟨Zj,Zi,Zg⟩,⟨Ze,Zd,Zb⟩⟩,Zt,Zs,ZF,Zz,ZM,ZB,Zx,Zv,Zo,Zy,Zn,Zw,⟨Zq,Zp,Zl⟩,ZE,ZG⟩) (ZQ.lt ⟨ZZ,⟨ZT,Yr⟩,YM,l_id,⟨Ye,Yd,ZR⟩,YF,⟨ZL,ZV⟩,⟨Yc,ZY,ZK⟩⟩) }:=by
      unfold byeT
      rw [if_neg (show ¬(ZP.nd ⟨⟨⟨Za,Zc⟩,⟨Zf,Zh⟩,⟨Zj,Zi,Zg⟩,⟨Ze,Zd,Zb⟩⟩,Zt,Zs,ZF,Zz,ZM,ZB,Zx,Zv,Zo,Zy,Zn,Zw,⟨Zq,Zp,Zl⟩,ZE,ZG⟩).table.pred.addr=(ZQ.lt ⟨ZZ,⟨ZT,Yr⟩,YM,l_id,⟨Ye,Yd,ZR⟩,YF,⟨ZL,ZV⟩,⟨Yc,ZY,ZK⟩⟩).frm.addr from (show ¬Zf=ZT by assumption)),show Wa (ZP.nd ⟨⟨⟨Za,Zc⟩,⟨Zf,Zh⟩,⟨Zj,Zi,Zg⟩,⟨Ze,Zd,Zb⟩⟩,Zt,Zs,ZF,Zz,ZM,ZB,Zx,Zv,Zo,Zy,Zn,Zw,⟨Zq,Zp,Zl⟩,ZE,ZG⟩).table (ZQ.lt ⟨ZZ,⟨ZT,Yr⟩,YM,l_id,⟨Ye,Yd,ZR⟩,YF,⟨ZL,ZV⟩,⟨Yc,ZY,ZK⟩⟩).frm.addr=_ from hot.symm];rfl
     have h3:XO (ZP.nd ⟨⟨⟨Za,Zc⟩,⟨Zf,Zh⟩,⟨Zj,Zi,Zg⟩,⟨Ze,Zd,Zb⟩⟩,Zt,Zs,ZF,Zz,ZM,ZB,Zx,Zv,Zo,Zy,Zn,Zw,⟨Zq,Zp,Zl⟩,ZE,ZG⟩) (ZQ.lt ⟨ZZ,⟨ZT,Yr⟩,YM,l_id,⟨Ye,Yd,ZR⟩,YF,⟨ZL,ZV⟩,⟨Yc,ZY,ZK⟩⟩)=(ZP.nd ⟨⟨⟨oa,oi⟩,⟨oq,oj⟩,⟨o1a,o1c,o1l⟩,⟨o2a,o2c,o2l⟩⟩,Zt,Zs,ZF,Zz,ZM,ZB,Zx,Zv,Zo,Zy,Zn,Zw,⟨Zq,Zp,Zl⟩,ZE,ZG⟩,[]):=(does8 hk).trans (congrArg (fun x=>(x,([]:List Snd))) (bye_no h2 (fun q1 q2=>(by
      replace q1:(XU (ZS.tb ⟨⟨Za,Zc⟩,⟨Zf,Zh⟩,⟨Zj,Zi,Zg⟩,⟨Ze,Zd,Zb⟩⟩)).addr=ZT:=q1
      replace q2:0<ZK.length:=q2
      rw [hfi] at q1
      (exfalso;omega)))))
     refine ⟨_,M1,[(bw,rowO (ZO.segs ⟨⟨⟨⟨oa,oi⟩,⟨oq,oj⟩,⟨o1a,o1c,o1l⟩,⟨o2a,o2c,o2l⟩⟩,Zt,Zs,ZF,Zz,ZM,ZB,Zx,Zv,Zo,Zy,Zn,Zw,⟨Zq,Zp,Zl⟩,ZE,ZG⟩,⟨none,0,[]⟩⟩) 68)],rfl,hm1,hw.c,rfl,⟨⟨⟨oa,oi⟩,⟨oq,oj⟩,⟨o1a,o1c,o1l⟩,⟨o2a,o2c,o2l⟩⟩,Zt,Zs,ZF,Zz,ZM,ZB,Zx,Zv,Zo,Zy,Zn,Zw,⟨Zq,Zp,Zl⟩,ZE,ZG⟩,⟨none,0,[]⟩,rfl,?_,?_,⟨okt,(Yq.mono hm1)⟩,SlK.nil,fun y hy=>by cases hy⟩
     ·rw [h3] <;> rfl
     ·rw [h3] <;> rfl
   ·replace hc5:=dF hc5
    iterate 4 refine Ya ?_
    refine ZN ?_;refine Zu (Zr (Y_pk [60,3,0] ?_));refine Wn rfl ?_;refine YB ?_
    refine Yk (.inl rfl) (.nil) (fun w hw=>?_)
    have h2:ZP.nd ⟨⟨⟨oa,oi⟩,⟨oq,oj⟩,⟨o1a,o1c,o1l⟩,⟨o2a,o2c,o2l⟩⟩,Zt,Zs,ZF,Zz,ZM,ZB,Zx,Zv,Zo,Zy,Zn,Zw,⟨Zq,Zp,Zl⟩,ZE,ZG⟩={ ZP.nd ⟨⟨⟨Za,Zc⟩,⟨Zf,Zh⟩,⟨Zj,Zi,Zg⟩,⟨Ze,Zd,Zb⟩⟩,Zt,Zs,ZF,Zz,ZM,ZB,Zx,Zv,Zo,Zy,Zn,Zw,⟨Zq,Zp,Zl⟩,ZE,ZG⟩ with table:=byeT (ZP.nd ⟨⟨⟨Za,Zc⟩,⟨Zf,Zh⟩,⟨Zj,Zi,Zg⟩,⟨Ze,Zd,Zb⟩⟩,Zt,Zs,ZF,Zz,ZM,ZB,Zx,Zv,Zo,Zy,Zn,Zw,⟨Zq,Zp,Zl⟩,ZE,ZG⟩) (ZQ.lt ⟨ZZ,⟨ZT,Yr⟩,YM,l_id,⟨Ye,Yd,ZR⟩,YF,⟨ZL,ZV⟩,⟨Yc,ZY,ZK⟩⟩) }:=by
     unfold byeT
     rw [if_neg (show ¬(ZP.nd ⟨⟨⟨Za,Zc⟩,⟨Zf,Zh⟩,⟨Zj,Zi,Zg⟩,⟨Ze,Zd,Zb⟩⟩,Zt,Zs,ZF,Zz,ZM,ZB,Zx,Zv,Zo,Zy,Zn,Zw,⟨Zq,Zp,Zl⟩,ZE,ZG⟩).table.pred.addr=(ZQ.lt ⟨ZZ,⟨ZT,Yr⟩,YM,l_id,⟨Ye,Yd,ZR⟩,YF,⟨ZL,ZV⟩,⟨Yc,ZY,ZK⟩⟩).frm.addr from (show ¬Zf=ZT by assumption)),show Wa (ZP.nd ⟨⟨⟨Za,Zc⟩,⟨Zf,Zh⟩,⟨Zj,Zi,Zg⟩,⟨Ze,Zd,Zb⟩⟩,Zt,Zs,ZF,Zz,ZM,ZB,Zx,Zv,Zo,Zy,Zn,Zw,⟨Zq,Zp,Zl⟩,ZE,ZG⟩).table (ZQ.lt ⟨ZZ,⟨ZT,Yr⟩,YM,l_id,⟨Ye,Yd,ZR⟩,YF,⟨ZL,ZV⟩,⟨Yc,ZY,ZK⟩⟩).frm.addr=_ from hot.symm];rfl
    have h3:XO (ZP.nd ⟨⟨⟨Za,Zc⟩,⟨Zf,Zh⟩,⟨Zj,Zi,Zg⟩,⟨Ze,Zd,Zb⟩⟩,Zt,Zs,ZF,Zz,ZM,ZB,Zx,Zv,Zo,Zy,Zn,Zw,⟨Zq,Zp,Zl⟩,ZE,ZG⟩) (ZQ.lt ⟨ZZ,⟨ZT,Yr⟩,YM,l_id,⟨Ye,Yd,ZR⟩,YF,⟨ZL,ZV⟩,⟨Yc,ZY,ZK⟩⟩)=(ZP.nd ⟨⟨⟨oa,oi⟩,⟨oq,oj⟩,⟨o1a,o1c,o1l⟩,⟨o2a,o2c,o2l⟩⟩,Zt,Zs,ZF,Zz,ZM,ZB,Zx,Zv,Zo,Zy,Zn,Zw,⟨Zq,Zp,Zl⟩,ZE,ZG⟩,[]):=(does8 hk).trans (congrArg (fun x=>(x,([]:List Snd))) (bye_no h2 (fun q1 q2=>(by
     replace q1:(XU (ZS.tb ⟨⟨Za,Zc⟩,⟨Zf,Zh⟩,⟨Zj,Zi,Zg⟩,⟨Ze,Zd,Zb⟩⟩)).addr=ZT:=q1
     replace q2:0<ZK.length:=q2
     rw [hfi] at q1
     contradiction))))
    refine ⟨_,M1,[(bw,rowO (ZO.segs ⟨⟨⟨⟨oa,oi⟩,⟨oq,oj⟩,⟨o1a,o1c,o1l⟩,⟨o2a,o2c,o2l⟩⟩,Zt,Zs,ZF,Zz,ZM,ZB,Zx,Zv,Zo,Zy,Zn,Zw,⟨Zq,Zp,Zl⟩,ZE,ZG⟩,⟨none,0,[]⟩⟩) 68)],rfl,hm1,hw.c,rfl,⟨⟨⟨oa,oi⟩,⟨oq,oj⟩,⟨o1a,o1c,o1l⟩,⟨o2a,o2c,o2l⟩⟩,Zt,Zs,ZF,Zz,ZM,ZB,Zx,Zv,Zo,Zy,Zn,Zw,⟨Zq,Zp,Zl⟩,ZE,ZG⟩,⟨none,0,[]⟩,rfl,?_,?_,⟨okt,(Yq.mono hm1)⟩,SlK.nil,fun y hy=>by cases hy⟩
    ·rw [h3] <;> rfl
    ·rw [h3] <;> rfl
end Go.Proofs.YtajmnjefajknoaaGreat
namespace Go.Proofs.YtajmnjefajknoaaGreat
open Go.Esp
theorem F.map78:mapOf Tryz.prog 78=some (3,76):=by kernel_rfl
theorem F.ok30:okFn Tryz.prog 30=true:=by kernel_rfl
theorem F.ok45:okFn Tryz.prog 45=true:=by kernel_rfl
theorem F.ok46:okFn Tryz.prog 46=true:=by kernel_rfl
theorem F.ok47:okFn Tryz.prog 47=true:=by kernel_rfl
theorem F.ok48:okFn Tryz.prog 48=true:=by kernel_rfl
theorem F.ok49:okFn Tryz.prog 49=true:=by kernel_rfl
theorem F.ok50:okFn Tryz.prog 50=true:=by kernel_rfl
theorem F.ok51:okFn Tryz.prog 51=true:=by kernel_rfl
theorem F.ok52:okFn Tryz.prog 52=true:=by kernel_rfl
theorem F.zero76:XY Tryz.prog 76=some (.nilFunc):=by kernel_rfl
theorem Take_yes (M:Mem) (n:ZP) (l:ZQ) (hn0:ZP.ok M n) (hl1:ZQ.ok M l) (kind:Int) (fid:FuncId) (hkk:l.kind=kind) (hl:(Ww (Vd (Vd (Vd (Vd (Vd (Vd (Vd (Vd [] 1 (.func (.func 45) #[] #[])) 2 (.func (.func 46) #[] #[])) 3 (.func (.func 47) #[] #[])) 4 (.func (.func 48) #[] #[])) 5 (.func (.func 49) #[] #[])) 6 (.func (.func 50) #[] #[])) 7 (.func (.func 51) #[] #[])) 8 (.func (.func 52) #[] #[])) l.kind).getD .nilFunc=.func (.func fid) #[] #[]) (hok:okFn Tryz.prog fid=true)
   (hc:∀ (M:Mem) (bw:Nat) (Za:Int) (Zc:Plc) (Zf:Int) (Zh:Plc) (Zj Ze Zq:Option Addr) (Zi Zd Zp:Nat) (Zg Zb:List ZD) (Zl:List Int) (Zt:Int) (Zs:Bool) (ZF Zz ZM ZB Zx Zv Zo Zy Zn:Int) (Zw:Plc) (ZE ZG:Int) (Ym:ZS.ok M ⟨⟨Za,Zc⟩,⟨Zf,Zh⟩,⟨Zj,Zi,Zg⟩,⟨Ze,Zd,Zb⟩⟩) (Yq:SlK M (oneI .i64) 1 ⟨Zq,Zp,Zl⟩) (hbig:Zg.length≤40∧Zb.length≤200) (hLa:Zl.length≤1000) (hh:0≤ZE∧ZE≤1000) (l:ZQ) (hl0:ZQ.ok M l) (hLp:l.peers.l.length≤1000) (hk:l.kind=kind),Fh Tryz.prog fid [.pointer (some ⟨bw,0,none⟩),l.enc] M [(bw,rowO (ZO.segs ⟨⟨⟨⟨Za,Zc⟩,⟨Zf,Zh⟩,⟨Zj,Zi,Zg⟩,⟨Ze,Zd,Zb⟩⟩,Zt,Zs,ZF,Zz,ZM,ZB,Zx,Zv,Zo,Zy,Zn,Zw,⟨Zq,Zp,Zl⟩,ZE,ZG⟩,⟨none,0,[]⟩⟩) 68)] (fun M' v Hout=>v=.tuple #[]∧WkF bw 68 M' Hout (XO (ZP.nd ⟨⟨⟨Za,Zc⟩,⟨Zf,Zh⟩,⟨Zj,Zi,Zg⟩,⟨Ze,Zd,Zb⟩⟩,Zt,Zs,ZF,Zz,ZM,ZB,Zx,Zv,Zo,Zy,Zn,Zw,⟨Zq,Zp,Zl⟩,ZE,ZG⟩) l.lt))):Esp.Fn Tryz.prog 17 [n.enc,l.enc] M (fun M' v=>NtE M' v (Vw n.nd l.lt)):=by
  obtain ⟨⟨⟨Za,Zc⟩,⟨Zf,Zh⟩,⟨Zj,Zi,Zg⟩,⟨Ze,Zd,Zb⟩⟩,Zt,Zs,ZF,Zz,ZM,ZB,Zx,Zv,Zo,Zy,Zn,Zw,⟨Zq,Zp,Zl⟩,ZE,ZG⟩:=n
  obtain ⟨ZZ,⟨ZT,Yr⟩,YM,l_id,⟨Ye,Yd,ZR⟩,YF,⟨ZL,ZV⟩,⟨Yc,ZY,ZK⟩⟩:=l
  have Ym:ZS.ok M ⟨⟨Za,Zc⟩,⟨Zf,Zh⟩,⟨Zj,Zi,Zg⟩,⟨Ze,Zd,Zb⟩⟩:=hn0.h0
  have Xb:SlK M ZD.segs 21 ⟨Zj,Zi,Zg⟩:=hn0.h0.h0
  have s_n_table_succ:SlM M Zj (Zg.map ZD.segs) 21:=Xb.h1
  have n_n_table_succ:(Zg.map ZD.segs).length=Zg.length:=List.length_map ..
  have m_n_table_succ:Zg.length≤9223372036854775807:=Xb.h2
  have c_n_table_succ:Zg.length≤Zi:=Xb.h3
  have YN:SlK M ZD.segs 21 ⟨Ze,Zd,Zb⟩:=hn0.h0.h1
  have s_n_table_fingers:SlM M Ze (Zb.map ZD.segs) 21:=YN.h1
  have n_n_table_fingers:(Zb.map ZD.segs).length=Zb.length:=List.length_map ..
  have m_n_table_fingers:Zb.length≤9223372036854775807:=YN.h2
  have c_n_table_fingers:Zb.length≤Zd:=YN.h3
  have Yq:SlK M (oneI .i64) 1 ⟨Zq,Zp,Zl⟩:=hn0.h1
  have s_n_avoid:SlM M Zq (Zl.map (oneI .i64)) 1:=Yq.h1
  have n_n_avoid:(Zl.map (oneI .i64)).length=Zl.length:=List.length_map ..
  have m_n_avoid:Zl.length≤9223372036854775807:=Yq.h2
  have c_n_avoid:Zl.length≤Zp:=Yq.h3
  have Xk:SlK M (oneI .i64) 1 ⟨Ye,Yd,ZR⟩:=hl1.h0
  have s_l_avoid:SlM M Ye (ZR.map (oneI .i64)) 1:=Xk.h1
  have n_l_avoid:(ZR.map (oneI .i64)).length=ZR.length:=List.length_map ..
  have m_l_avoid:ZR.length≤9223372036854775807:=Xk.h2
  have c_l_avoid:ZR.length≤Yd:=Xk.h3
  have YZ:SlK M ZD.segs 21 ⟨Yc,ZY,ZK⟩:=hl1.h1
  have XI:SlM M Yc (ZK.map ZD.segs) 21:=YZ.h1
  have Wx:(ZK.map ZD.segs).length=ZK.length:=List.length_map ..
  have m_l_peers:ZK.length≤9223372036854775807:=YZ.h2
  have Wy:ZK.length≤ZY:=YZ.h3
  subst hkk
  simp only at hl
  refine WH Tryz.func17 rfl Tryz.ntmps17 rfl ?_;intro H
  refine ZJ (Zm (l:=[0,1,2,3,4]) rfl ?_)
  refine Xi ?_;intro b1
  refine Xi ?_;intro b2
  refine YW F.zero32 ?_;intro b3
  iterate 2 refine ZC ?_
  refine Zu (Zr (Y_pk [6,5,4,3,2] ?_))
  iterate 2 refine ZJ ?_
  refine Zm (l:=[0,1,2,3,4,5,6,7]) rfl ?_;refine ZH F.lay32 ?_;refine X_fs rfl rfl F.ok27 rfl (IsN_ok _ ⟨⟨⟨Za,Zc⟩,⟨Zf,Zh⟩,⟨Zj,Zi,Zg⟩,⟨Ze,Zd,Zb⟩⟩,Zt,Zs,ZF,Zz,ZM,ZB,Zx,Zv,Zo,Zy,Zn,Zw,⟨Zq,Zp,Zl⟩,ZE,ZG⟩ hn0) rfl ?_
  rintro _ rfl
  refine Xw ?_;refine ZA ?_
  refine Yj 12 rfl (fun hc4=>?_) (fun hc4=>?_)
  ·replace hc4:=nT hc4
   iterate 3 refine Ya ?_
   refine ZN ?_;refine Zu (Zr (Y_pk [16,6,5,4,3,2] ?_));refine Xm rfl ?_;refine ZJ (Zm (l:=[0,1,2,3]) rfl ?_);refine Xn rfl rfl F.bld32 (.nil) rfl rfl ?_;refine XW F.lay32 ?_
   iterate 2 refine ZC ?_
   refine Zu (Zr (Y_pk [6,5,4,3,2] ?_));refine Yu (YS ?_)
   refine Yk (.inr rfl) (.cell rfl (by repeat first|exact List.Mem.head _|refine List.Mem.tail _ ?_|refine List.mem_append_right _ ?_) F.lay32 rfl rfl (.tmp rfl (.tmp rfl .nil))) (fun w hw=>?_)
   refine ⟨_,M,rfl,Mem.le.refl M,hw.c,ZP.zero,⟨none,0,[]⟩,?_,?_,?_,ZP.zero_ok _,SlK.nil,fun y hy=>by cases hy⟩
   ·rw [WL (by (rintro ⟨q1,q2⟩;first|contradiction|(simp_all;done)))];rfl
   ·rw [WL (by (rintro ⟨q1,q2⟩;first|contradiction|(simp_all;done)))];rfl
   ·rw [WL (by (rintro ⟨q1,q2⟩;first|contradiction|(simp_all;done)))];rfl
  ·replace hc4:=nF hc4
   refine ZH F.lay44 ?_;refine X_fs rfl rfl F.ok30 rfl (IsL_ok _ ⟨ZZ,⟨ZT,Yr⟩,YM,l_id,⟨Ye,Yd,ZR⟩,YF,⟨ZL,ZV⟩,⟨Yc,ZY,ZK⟩⟩ hl1) rfl ?_
   rintro _ rfl
   refine Xw ?_;refine ZN ?_;refine Zu (Zr (Y_pk [16,6,5,4,3,2] ?_))
   refine Yz rfl (fun hc5=>?_) (fun hc5=>?_)
   ·replace hc5:=nT hc5
    refine ZJ (Zm (l:=[0,1,2,3]) rfl ?_);refine Xn rfl rfl F.bld32 (.nil) rfl rfl ?_;refine XW F.lay32 ?_
    iterate 2 refine ZC ?_
    refine Zu (Zr (Y_pk [6,5,4,3,2] ?_));refine Yu (YS ?_)
    refine Yk (.inr rfl) (.cell rfl (by repeat first|exact List.Mem.head _|refine List.Mem.tail _ ?_|refine List.mem_append_right _ ?_) F.lay32 rfl rfl (.tmp rfl (.tmp rfl .nil))) (fun w hw=>?_)
    refine ⟨_,M,rfl,Mem.le.refl M,hw.c,ZP.zero,⟨none,0,[]⟩,?_,?_,?_,ZP.zero_ok _,SlK.nil,fun y hy=>by cases hy⟩
    ·rw [WL (by (rintro ⟨q1,q2⟩;first|contradiction|(simp_all;done)))];rfl
    ·rw [WL (by (rintro ⟨q1,q2⟩;first|contradiction|(simp_all;done)))];rfl
    ·rw [WL (by (rintro ⟨q1,q2⟩;first|contradiction|(simp_all;done)))];rfl
   ·replace hc5:=nF hc5
    refine YB (Zr (Y_pk [6,5,4,3,2] ?_));refine ZJ ?_
    have hnd9:IsNd (ZP.nd ⟨⟨⟨Za,Zc⟩,⟨Zf,Zh⟩,⟨Zj,Zi,Zg⟩,⟨Ze,Zd,Zb⟩⟩,Zt,Zs,ZF,Zz,ZM,ZB,Zx,Zv,Zo,Zy,Zn,Zw,⟨Zq,Zp,Zl⟩,ZE,ZG⟩):=by assumption
    have hlt9:IsLt (ZQ.lt ⟨ZZ,⟨ZT,Yr⟩,YM,l_id,⟨Ye,Yd,ZR⟩,YF,⟨ZL,ZV⟩,⟨Yc,ZY,ZK⟩⟩):=by assumption
    have htb9:IsTb (ZS.tb ⟨⟨Za,Zc⟩,⟨Zf,Zh⟩,⟨Zj,Zi,Zg⟩,⟨Ze,Zd,Zb⟩⟩):=hnd9.1
    have hav9:Zl.length≤16:=hnd9.2.2.2.2.1
    have hho9:0≤ZE∧ZE≤64:=hnd9.2.2.2.2.2.1
    have hpl9:ZK.length≤8:=hlt9.2.2.2.1
    refine Zm (l:=[0,1,2,3,4,5,6,7,8,9,10]) rfl ?_
    refine X_makeMap rfl rfl rfl ?_;intro b6
    refine Ws rfl rfl rfl rfl rfl F.map78 imO_nil (by repeat first|exact List.Mem.head _|refine List.Mem.tail _ ?_|refine List.mem_append_right _ ?_) ?_;intro o7 him8;refine ⟨_,(by repeat first|exact Upd.head|apply Upd.tail|apply Upd.over),?_⟩
    refine Ws rfl rfl rfl rfl rfl F.map78 him8 (by repeat first|exact List.Mem.head _|refine List.Mem.tail _ ?_|refine List.mem_append_right _ ?_) ?_;intro o9 him10;refine ⟨_,(by repeat first|exact Upd.head|apply Upd.tail|apply Upd.over),?_⟩
    refine Ws rfl rfl rfl rfl rfl F.map78 him10 (by repeat first|exact List.Mem.head _|refine List.Mem.tail _ ?_|refine List.mem_append_right _ ?_) ?_;intro o11 him12;refine ⟨_,(by repeat first|exact Upd.head|apply Upd.tail|apply Upd.over),?_⟩
    refine Ws rfl rfl rfl rfl rfl F.map78 him12 (by repeat first|exact List.Mem.head _|refine List.Mem.tail _ ?_|refine List.mem_append_right _ ?_) ?_;intro o13 him14;refine ⟨_,(by repeat first|exact Upd.head|apply Upd.tail|apply Upd.over),?_⟩
    refine Ws rfl rfl rfl rfl rfl F.map78 him14 (by repeat first|exact List.Mem.head _|refine List.Mem.tail _ ?_|refine List.mem_append_right _ ?_) ?_;intro o15 him16;refine ⟨_,(by repeat first|exact Upd.head|apply Upd.tail|apply Upd.over),?_⟩
    refine Ws rfl rfl rfl rfl rfl F.map78 him16 (by repeat first|exact List.Mem.head _|refine List.Mem.tail _ ?_|refine List.mem_append_right _ ?_) ?_;intro o17 him18;refine ⟨_,(by repeat first|exact Upd.head|apply Upd.tail|apply Upd.over),?_⟩
    refine Ws rfl rfl rfl rfl rfl F.map78 him18 (by repeat first|exact List.Mem.head _|refine List.Mem.tail _ ?_|refine List.mem_append_right _ ?_) ?_;intro o19 him20;refine ⟨_,(by repeat first|exact Upd.head|apply Upd.tail|apply Upd.over),?_⟩
    refine Ws rfl rfl rfl rfl rfl F.map78 him20 (by repeat first|exact List.Mem.head _|refine List.Mem.tail _ ?_|refine List.mem_append_right _ ?_) ?_;intro o21 him22;refine ⟨_,(by repeat first|exact Upd.head|apply Upd.tail|apply Upd.over),?_⟩
    refine ZA ?_;refine ZC ?_;refine Zu (Zr (Y_pk [7,6,5,4,3,2] ?_));refine ZJ (Zm (l:=[0,1,2]) rfl ?_);refine ZH F.lay32 ?_;refine VG rfl rfl F.ok36 rfl (of_ok M _ _ _ _ _ _ _ _ _ _ _ _ _ _ _ _ _ _ _ _ _ _ _ _ _ _ _ Yq (by omega)) (by repeat first|exact Rem.here _|exact Rem.two|apply Rem.skip|apply Rem.over) (fun _ _ _ hm hw=>(hw.lower (by exact hm)).c) (Yw rfl) ?_
    rintro v1 M1 hs1 hm1 ⟨hM1,bw,s_a,s_c,hs9,rfl,rfl,ho9⟩;subst M1
    simp only [List.append_assoc,List.cons_append,List.nil_append]
    refine ZC ?_;refine Zu (Zr (Y_pk [8,7,6,5,4,3] ?_))
    iterate 2 refine ZJ ?_
    refine C_frz ho9 (by repeat first|exact Rem.here _|exact Rem.two|apply Rem.skip|apply Rem.over) (fun M2 hM2 k9=>?_)
    refine Zm (l:=[0,1,2,3]) rfl ?_;refine ZA ?_;refine Zk F.foff44_1 ?_;refine ZH F.lay25 ?_;refine X_fo rfl rfl F.ok53 rfl (wother_ok M2 bw Za Zc Zf Zh Zj Ze s_a Zi Zd s_c Zg Zb Zl Zt Zs ZF Zz ZM ZB Zx Zv Zo Zy Zn Zw ZE ZG ⟨ZT,Yr⟩) (by repeat first|exact Rem.here _|exact Rem.two|apply Rem.skip|apply Rem.over) (Yw rfl) ?_
    rintro _ MZ _ ⟨hMZ,rfl⟩;subst MZ
    refine Zu (Zr (Y_pk [25,8,7,6,5,4,3] ?_))
    refine Yz rfl (fun hc23=>?_) (fun hc23=>?_)
    ·replace hc23:=dT hc23
     refine Xl (l:=[0,1,2,3,4,5,6]) [6] rfl ?_;refine ZA ?_;refine Zk F.foff44_0 ?_;refine ZH F.lay3 ?_;refine X_lookup rfl rfl rfl rfl F.map78 F.zero76 (by repeat first|exact List.Mem.head _|refine List.Mem.tail _ ?_|refine List.mem_append_right _ ?_) him22 (show (Ww (Vd (Vd (Vd (Vd (Vd (Vd (Vd (Vd [] 1 (.func (.func 45) #[] #[])) 2 (.func (.func 46) #[] #[])) 3 (.func (.func 47) #[] #[])) 4 (.func (.func 48) #[] #[])) 5 (.func (.func 49) #[] #[])) 6 (.func (.func 50) #[] #[])) 7 (.func (.func 51) #[] #[])) 8 (.func (.func 52) #[] #[])) ZZ).getD .nilFunc=.func (.func fid) #[] #[] from hl) rfl ?_;refine ZA ?_;refine ZH F.lay44 ?_;refine X_fhVW (caps:=[]) rfl rfl rfl rfl hok rfl rfl (hc M2 bw Za Zc Zf Zh Zj Ze s_a Zi Zd s_c Zg Zb Zl Zt Zs ZF Zz ZM ZB Zx Zv Zo Zy Zn Zw ZE ZG (Ym.mono hM2) k9 (isTb_small (t:=⟨⟨Za,Zc⟩,⟨Zf,Zh⟩,⟨Zj,Zi,Zg⟩,⟨Ze,Zd,Zb⟩⟩) htb9) (by omega) (by omega) ⟨ZZ,⟨ZT,Yr⟩,YM,l_id,⟨Ye,Yd,ZR⟩,YF,⟨ZL,ZV⟩,⟨Yc,ZY,ZK⟩⟩ (hl1.mono hM2) (by show ZK.length≤1000;omega) rfl) (by repeat first|exact Rem.here _|exact Rem.two|apply Rem.skip|apply Rem.over) (Yw rfl) ?_
     rintro _ M3 hs3 hm3 ⟨rfl,⟨⟨⟨YG,YP⟩,⟨YH,YQ⟩,⟨YV,YU,YT⟩,⟨YK,YJ,YI⟩⟩,XG,XK,Wh,XF,WF,XT,XH,XB,Xp,XC,Xq,XE,⟨Xt,Xs,Xr⟩,Wg,Wf⟩,⟨o_a,o_c,o_l⟩,rfl,hv1,hv2,okv,oko,okq⟩
     simp only [List.append_assoc,List.cons_append,List.nil_append]
     refine Zu (Wd ?_);refine Zr (Y_pk [8,6,5,4] ?_);refine ZJ (C_region_anyWR (l:=[0,1,2,3,4,5,6,7,8,9,10]) (Hin:=[(b3,_)]) [8] #[0,1,3,7,0,16,48,112,15,511,1023] (by repeat first|exact Rem.here _|exact Rem.two|apply Rem.skip|apply Rem.over) rfl (by kernel_rfl) (by kernel_rfl) ?_);refine ZA ?_;refine ZU ?_;refine Zk F.foff68_0 ?_;refine ZH F.lay32 ?_;refine ZA ?_;refine ZU ?_;refine Zk F.foff68_1 ?_;refine ZH F.lay35 ?_;refine X_storeE rfl rfl rfl rfl rfl (by constructor) (by ((try simp only [cat,List.cons_append,List.nil_append,List.append_nil]);(repeat (first|exact XL|refine XM ?_|(refine YC ?_ ?_;rfl)));done)) (by repeat first|exact Upd.head|apply Upd.tail|apply Upd.over) F.lay32 (by simp only [ZD.segs,ZS.segs,ZP.segs,ZQ.segs,Yv.segs,ZO.segs,YL.segs,ZW.segs,cat,List.append_eq,List.cons_append,List.nil_append,List.append_nil,Segs.len,Seg.len,Yn]) (put_all (m:=78) rfl (by simp only [ZD.segs,ZS.segs,ZP.segs,ZQ.segs,Yv.segs,ZO.segs,YL.segs,ZW.segs,cat,List.append_eq,List.cons_append,List.nil_append,List.append_nil,Segs.len,Seg.len,Yn]) (by simp only [ZD.segs,ZS.segs,ZP.segs,ZQ.segs,Yv.segs,ZO.segs,YL.segs,ZW.segs,cat,List.append_eq,List.cons_append,List.nil_append,List.append_nil,Segs.len,Seg.len,Yn])) (fun _ h=>h.c) ?_
     iterate 2 refine ZC ?_
     refine Zu (Wd ?_);refine Zr (Y_pk [6,5,4] ?_);refine Yu ?_
     refine Yk (.inr rfl) (.cell rfl (by repeat first|exact List.Mem.head _|refine List.Mem.tail _ ?_|refine List.mem_append_right _ ?_) F.lay32 rfl rfl (.tmp rfl (.tmp rfl .nil))) (fun w hw=>?_)
     have h3:=take_does (n:=(ZP.nd ⟨⟨⟨Za,Zc⟩,⟨Zf,Zh⟩,⟨Zj,Zi,Zg⟩,⟨Ze,Zd,Zb⟩⟩,Zt,Zs,ZF,Zz,ZM,ZB,Zx,Zv,Zo,Zy,Zn,Zw,⟨Zq,Zp,Zl⟩,ZE,ZG⟩)) (l:=(ZQ.lt ⟨ZZ,⟨ZT,Yr⟩,YM,l_id,⟨Ye,Yd,ZR⟩,YF,⟨ZL,ZV⟩,⟨Yc,ZY,ZK⟩⟩)) hnd9 hlt9 (show Xh ⟨Za,Zc⟩ ⟨ZT,Yr⟩ by assumption)
     exact ⟨_,M3,rfl,hM2.trans hm3,hw.c,⟨⟨⟨YG,YP⟩,⟨YH,YQ⟩,⟨YV,YU,YT⟩,⟨YK,YJ,YI⟩⟩,XG,XK,Wh,XF,WF,XT,XH,XB,Xp,XC,Xq,XE,⟨Xt,Xs,Xr⟩,Wg,Wf⟩,⟨o_a,o_c,o_l⟩,by rw [h3] <;> rfl,by rw [h3];exact hv1,by rw [h3];exact hv2,okv,oko,okq⟩
    ·replace hc23:=dF hc23
     refine YB (Zr (Y_pk [8,6,5,4] ?_));refine ZJ (C_region_anyWR (l:=[0,1,2,3,4,5,6,7,8,9,10]) (Hin:=[(b3,_)]) [8] #[0,1,3,7,0,16,48,112,15,511,1023] (by repeat first|exact Rem.here _|exact Rem.two|apply Rem.skip|apply Rem.over) rfl (by kernel_rfl) (by kernel_rfl) ?_);refine ZA ?_;refine ZU ?_;refine Zk F.foff68_0 ?_;refine ZH F.lay32 ?_;refine ZA ?_;refine ZU ?_;refine Zk F.foff68_1 ?_;refine ZH F.lay35 ?_;refine X_storeE rfl rfl rfl rfl rfl (by constructor) (by ((try simp only [cat,List.cons_append,List.nil_append,List.append_nil]);(repeat (first|exact XL|refine XM ?_|(refine YC ?_ ?_;rfl)));done)) (by repeat first|exact Upd.head|apply Upd.tail|apply Upd.over) F.lay32 (by simp only [ZD.segs,ZS.segs,ZP.segs,ZQ.segs,Yv.segs,ZO.segs,YL.segs,ZW.segs,cat,List.append_eq,List.cons_append,List.nil_append,List.append_nil,Segs.len,Seg.len,Yn]) (put_all (m:=78) rfl (by simp only [ZD.segs,ZS.segs,ZP.segs,ZQ.segs,Yv.segs,ZO.segs,YL.segs,ZW.segs,cat,List.append_eq,List.cons_append,List.nil_append,List.append_nil,Segs.len,Seg.len,Yn]) (by simp only [ZD.segs,ZS.segs,ZP.segs,ZQ.segs,Yv.segs,ZO.segs,YL.segs,ZW.segs,cat,List.append_eq,List.cons_append,List.nil_append,List.append_nil,Segs.len,Seg.len,Yn])) (fun _ h=>h.c) ?_
     iterate 2 refine ZC ?_
     refine Zu (Wd ?_);refine Zr (Y_pk [6,5,4] ?_);refine Yu ?_
     refine Yk (.inr rfl) (.cell rfl (by repeat first|exact List.Mem.head _|refine List.Mem.tail _ ?_|refine List.mem_append_right _ ?_) F.lay32 rfl rfl (.tmp rfl (.tmp rfl .nil))) (fun w hw=>?_)
     have h3:=take_not (n:=(ZP.nd ⟨⟨⟨Za,Zc⟩,⟨Zf,Zh⟩,⟨Zj,Zi,Zg⟩,⟨Ze,Zd,Zb⟩⟩,Zt,Zs,ZF,Zz,ZM,ZB,Zx,Zv,Zo,Zy,Zn,Zw,⟨Zq,Zp,Zl⟩,ZE,ZG⟩)) (l:=(ZQ.lt ⟨ZZ,⟨ZT,Yr⟩,YM,l_id,⟨Ye,Yd,ZR⟩,YF,⟨ZL,ZV⟩,⟨Yc,ZY,ZK⟩⟩)) hnd9 hlt9 (show ¬Xh ⟨Za,Zc⟩ ⟨ZT,Yr⟩ by assumption)
     exact ⟨_,M2,rfl,hM2,hw.c,⟨⟨⟨Za,Zc⟩,⟨Zf,Zh⟩,⟨Zj,Zi,Zg⟩,⟨Ze,Zd,Zb⟩⟩,Zt,Zs,ZF,Zz,ZM,ZB,Zx,Zv,Zo,Zy,Zn,Zw,⟨s_a,s_c,Zl⟩,ZE,ZG⟩,⟨none,0,[]⟩,by rw [h3] <;> rfl,by rw [h3] <;> rfl,by rw [h3] <;> rfl,⟨Ym.mono hM2,k9⟩,SlK.nil,fun y hy=>by cases hy⟩
theorem Take_no (M:Mem) (n:ZP) (l:ZQ) (hn0:ZP.ok M n) (hl1:ZQ.ok M l) (hk:¬IsLt l.lt):Esp.Fn Tryz.prog 17 [n.enc,l.enc] M (fun M' v=>NtE M' v (Vw n.nd l.lt)):=by
  obtain ⟨⟨⟨Za,Zc⟩,⟨Zf,Zh⟩,⟨Zj,Zi,Zg⟩,⟨Ze,Zd,Zb⟩⟩,Zt,Zs,ZF,Zz,ZM,ZB,Zx,Zv,Zo,Zy,Zn,Zw,⟨Zq,Zp,Zl⟩,ZE,ZG⟩:=n
  obtain ⟨ZZ,⟨ZT,Yr⟩,YM,l_id,⟨Ye,Yd,ZR⟩,YF,⟨ZL,ZV⟩,⟨Yc,ZY,ZK⟩⟩:=l
  have Ym:ZS.ok M ⟨⟨Za,Zc⟩,⟨Zf,Zh⟩,⟨Zj,Zi,Zg⟩,⟨Ze,Zd,Zb⟩⟩:=hn0.h0
  have Xb:SlK M ZD.segs 21 ⟨Zj,Zi,Zg⟩:=hn0.h0.h0
  have s_n_table_succ:SlM M Zj (Zg.map ZD.segs) 21:=Xb.h1
  have n_n_table_succ:(Zg.map ZD.segs).length=Zg.length:=List.length_map ..
  have m_n_table_succ:Zg.length≤9223372036854775807:=Xb.h2
  have c_n_table_succ:Zg.length≤Zi:=Xb.h3
  have YN:SlK M ZD.segs 21 ⟨Ze,Zd,Zb⟩:=hn0.h0.h1
  have s_n_table_fingers:SlM M Ze (Zb.map ZD.segs) 21:=YN.h1
  have n_n_table_fingers:(Zb.map ZD.segs).length=Zb.length:=List.length_map ..
  have m_n_table_fingers:Zb.length≤9223372036854775807:=YN.h2
  have c_n_table_fingers:Zb.length≤Zd:=YN.h3
  have Yq:SlK M (oneI .i64) 1 ⟨Zq,Zp,Zl⟩:=hn0.h1
  have s_n_avoid:SlM M Zq (Zl.map (oneI .i64)) 1:=Yq.h1
  have n_n_avoid:(Zl.map (oneI .i64)).length=Zl.length:=List.length_map ..
  have m_n_avoid:Zl.length≤9223372036854775807:=Yq.h2
  have c_n_avoid:Zl.length≤Zp:=Yq.h3
  have Xk:SlK M (oneI .i64) 1 ⟨Ye,Yd,ZR⟩:=hl1.h0
  have s_l_avoid:SlM M Ye (ZR.map (oneI .i64)) 1:=Xk.h1
  have n_l_avoid:(ZR.map (oneI .i64)).length=ZR.length:=List.length_map ..
  have m_l_avoid:ZR.length≤9223372036854775807:=Xk.h2
  have c_l_avoid:ZR.length≤Yd:=Xk.h3
  have YZ:SlK M ZD.segs 21 ⟨Yc,ZY,ZK⟩:=hl1.h1
  have XI:SlM M Yc (ZK.map ZD.segs) 21:=YZ.h1
  have Wx:(ZK.map ZD.segs).length=ZK.length:=List.length_map ..
  have m_l_peers:ZK.length≤9223372036854775807:=YZ.h2
  have Wy:ZK.length≤ZY:=YZ.h3
  refine WH Tryz.func17 rfl Tryz.ntmps17 rfl ?_;intro H
  refine ZJ (Zm (l:=[0,1,2,3,4]) rfl ?_)
  refine Xi ?_;intro b1
  refine Xi ?_;intro b2
  refine YW F.zero32 ?_;intro b3
  iterate 2 refine ZC ?_
  refine Zu (Zr (Y_pk [6,5,4,3,2] ?_))
  iterate 2 refine ZJ ?_
  refine Zm (l:=[0,1,2,3,4,5,6,7]) rfl ?_;refine ZH F.lay32 ?_;refine X_fs rfl rfl F.ok27 rfl (IsN_ok _ ⟨⟨⟨Za,Zc⟩,⟨Zf,Zh⟩,⟨Zj,Zi,Zg⟩,⟨Ze,Zd,Zb⟩⟩,Zt,Zs,ZF,Zz,ZM,ZB,Zx,Zv,Zo,Zy,Zn,Zw,⟨Zq,Zp,Zl⟩,ZE,ZG⟩ hn0) rfl ?_
  rintro _ rfl
  refine Xw ?_;refine ZA ?_
  refine Yj 12 rfl (fun hc4=>?_) (fun hc4=>?_)
  ·replace hc4:=nT hc4
   iterate 3 refine Ya ?_
   refine ZN ?_;refine Zu (Zr (Y_pk [16,6,5,4,3,2] ?_));refine Xm rfl ?_;refine ZJ (Zm (l:=[0,1,2,3]) rfl ?_);refine Xn rfl rfl F.bld32 (.nil) rfl rfl ?_;refine XW F.lay32 ?_
   iterate 2 refine ZC ?_
   refine Zu (Zr (Y_pk [6,5,4,3,2] ?_));refine Yu (YS ?_)
   refine Yk (.inr rfl) (.cell rfl (by repeat first|exact List.Mem.head _|refine List.Mem.tail _ ?_|refine List.mem_append_right _ ?_) F.lay32 rfl rfl (.tmp rfl (.tmp rfl .nil))) (fun w hw=>?_)
   refine ⟨_,M,rfl,Mem.le.refl M,hw.c,ZP.zero,⟨none,0,[]⟩,?_,?_,?_,ZP.zero_ok _,SlK.nil,fun y hy=>by cases hy⟩
   ·rw [WL (by (rintro ⟨q1,q2⟩;first|contradiction|(simp_all;done)))];rfl
   ·rw [WL (by (rintro ⟨q1,q2⟩;first|contradiction|(simp_all;done)))];rfl
   ·rw [WL (by (rintro ⟨q1,q2⟩;first|contradiction|(simp_all;done)))];rfl
  ·replace hc4:=nF hc4
   refine ZH F.lay44 ?_;refine X_fs rfl rfl F.ok30 rfl (IsL_ok _ ⟨ZZ,⟨ZT,Yr⟩,YM,l_id,⟨Ye,Yd,ZR⟩,YF,⟨ZL,ZV⟩,⟨Yc,ZY,ZK⟩⟩ hl1) rfl ?_
   rintro _ rfl
   refine Xw ?_;refine ZN ?_;refine Zu (Zr (Y_pk [16,6,5,4,3,2] ?_))
   refine Yz rfl (fun hc5=>?_) (fun hc5=>?_)
   ·replace hc5:=nT hc5
    refine ZJ (Zm (l:=[0,1,2,3]) rfl ?_);refine Xn rfl rfl F.bld32 (.nil) rfl rfl ?_;refine XW F.lay32 ?_
    iterate 2 refine ZC ?_
    refine Zu (Zr (Y_pk [6,5,4,3,2] ?_));refine Yu (YS ?_)
    refine Yk (.inr rfl) (.cell rfl (by repeat first|exact List.Mem.head _|refine List.Mem.tail _ ?_|refine List.mem_append_right _ ?_) F.lay32 rfl rfl (.tmp rfl (.tmp rfl .nil))) (fun w hw=>?_)
    refine ⟨_,M,rfl,Mem.le.refl M,hw.c,ZP.zero,⟨none,0,[]⟩,?_,?_,?_,ZP.zero_ok _,SlK.nil,fun y hy=>by cases hy⟩
    ·rw [WL (by (rintro ⟨q1,q2⟩;first|contradiction|(simp_all;done)))];rfl
    ·rw [WL (by (rintro ⟨q1,q2⟩;first|contradiction|(simp_all;done)))];rfl
    ·rw [WL (by (rintro ⟨q1,q2⟩;first|contradiction|(simp_all;done)))];rfl
   ·replace hc5:=nF hc5
    (exfalso;first|(simp [eqX] at hc5;done)|(simp_all;done))
theorem Take_ok (M:Mem) (n:ZP) (l:ZQ) (hn0:ZP.ok M n) (hl1:ZQ.ok M l):Esp.Fn Tryz.prog 17 [n.enc,l.enc] M (fun M' v=>NtE M' v (Vw n.nd l.lt)):=by
  by_cases h:IsLt l.lt
  ·have h8:1≤l.kind∧l.kind≤8:=h.1
   have h9:l.kind=1∨l.kind=2∨l.kind=3∨l.kind=4∨l.kind=5∨l.kind=6∨l.kind=7∨l.kind=8:=by omega
   rcases h9 with hk|hk|hk|hk|hk|hk|hk|hk
   ·exact Take_yes M n l hn0 hl1 1 45 hk (by rw [hk];rfl) F.ok45 (fun M bw Za Zc Zf Zh Zj Ze Zq Zi Zd Zp Zg Zb Zl Zt Zs ZF Zz ZM ZB Zx Zv Zo Zy Zn Zw ZE ZG Ym Yq hbig hLa hh l hl0 hLp hk=>find_ok M bw Za Zc Zf Zh Zj Ze Zq Zi Zd Zp Zg Zb Zl Zt Zs ZF Zz ZM ZB Zx Zv Zo Zy Zn Zw ZE ZG Ym Yq hbig hLa hh l hl0 hLp hk)
   ·exact Take_yes M n l hn0 hl1 2 46 hk (by rw [hk];rfl) F.ok46 (fun M bw Za Zc Zf Zh Zj Ze Zq Zi Zd Zp Zg Zb Zl Zt Zs ZF Zz ZM ZB Zx Zv Zo Zy Zn Zw ZE ZG Ym Yq hbig hLa hh l hl0 hLp hk=>found_ok M bw Za Zc Zf Zh Zj Ze Zq Zi Zd Zp Zg Zb Zl Zt Zs ZF Zz ZM ZB Zx Zv Zo Zy Zn Zw ZE ZG Ym Yq hbig hLa hh l hl0 hLp hk)
   ·exact Take_yes M n l hn0 hl1 3 47 hk (by rw [hk];rfl) F.ok47 (fun M bw Za Zc Zf Zh Zj Ze Zq Zi Zd Zp Zg Zb Zl Zt Zs ZF Zz ZM ZB Zx Zv Zo Zy Zn Zw ZE ZG Ym Yq hbig hLa hh l hl0 hLp hk=>ask_ok M bw Za Zc Zf Zh Zj Ze Zq Zi Zd Zp Zg Zb Zl Zt Zs ZF Zz ZM ZB Zx Zv Zo Zy Zn Zw ZE ZG Ym Yq hbig hLa hh l hl0 hLp hk)
   ·exact Take_yes M n l hn0 hl1 4 48 hk (by rw [hk];rfl) F.ok48 (fun M bw Za Zc Zf Zh Zj Ze Zq Zi Zd Zp Zg Zb Zl Zt Zs ZF Zz ZM ZB Zx Zv Zo Zy Zn Zw ZE ZG Ym Yq hbig hLa hh l hl0 hLp hk=>told_ok M bw Za Zc Zf Zh Zj Ze Zq Zi Zd Zp Zg Zb Zl Zt Zs ZF Zz ZM ZB Zx Zv Zo Zy Zn Zw ZE ZG Ym Yq hbig hLa hh l hl0 hLp hk)
   ·exact Take_yes M n l hn0 hl1 5 49 hk (by rw [hk];rfl) F.ok49 (fun M bw Za Zc Zf Zh Zj Ze Zq Zi Zd Zp Zg Zb Zl Zt Zs ZF Zz ZM ZB Zx Zv Zo Zy Zn Zw ZE ZG Ym Yq hbig hLa hh l hl0 hLp hk=>notify_ok M bw Za Zc Zf Zh Zj Ze Zq Zi Zd Zp Zg Zb Zl Zt Zs ZF Zz ZM ZB Zx Zv Zo Zy Zn Zw ZE ZG Ym Yq hbig hLa hh l hl0 hLp hk)
   ·exact Take_yes M n l hn0 hl1 6 50 hk (by rw [hk];rfl) F.ok50 (fun M bw Za Zc Zf Zh Zj Ze Zq Zi Zd Zp Zg Zb Zl Zt Zs ZF Zz ZM ZB Zx Zv Zo Zy Zn Zw ZE ZG Ym Yq hbig hLa hh l hl0 hLp hk=>ping_ok M bw Za Zc Zf Zh Zj Ze Zq Zi Zd Zp Zg Zb Zl Zt Zs ZF Zz ZM ZB Zx Zv Zo Zy Zn Zw ZE ZG Ym Yq hbig hLa hh l hl0 hLp hk)
   ·exact Take_yes M n l hn0 hl1 7 51 hk (by rw [hk];rfl) F.ok51 (fun M bw Za Zc Zf Zh Zj Ze Zq Zi Zd Zp Zg Zb Zl Zt Zs ZF Zz ZM ZB Zx Zv Zo Zy Zn Zw ZE ZG Ym Yq hbig hLa hh l hl0 hLp hk=>pong_ok M bw Za Zc Zf Zh Zj Ze Zq Zi Zd Zp Zg Zb Zl Zt Zs ZF Zz ZM ZB Zx Zv Zo Zy Zn Zw ZE ZG Ym Yq hbig hLa hh l hl0 hLp hk)
   ·exact Take_yes M n l hn0 hl1 8 52 hk (by rw [hk];rfl) F.ok52 (fun M bw Za Zc Zf Zh Zj Ze Zq Zi Zd Zp Zg Zb Zl Zt Zs ZF Zz ZM ZB Zx Zv Zo Zy Zn Zw ZE ZG Ym Yq hbig hLa hh l hl0 hLp hk=>bye_ok M bw Za Zc Zf Zh Zj Ze Zq Zi Zd Zp Zg Zb Zl Zt Zs ZF Zz ZM ZB Zx Zv Zo Zy Zn Zw ZE ZG Ym Yq hbig hLa hh l hl0 hLp hk)
  ·exact Take_no M n l hn0 hl1 h
end Go.Proofs.YtajmnjefajknoaaGreat
namespace Go.Proofs.YtajmnjefajknoaaGreat
open Go.Esp
theorem F.ok21:okFn Tryz.prog 21=true:=by kernel_rfl
theorem F.ok63:okFn Tryz.prog 63=true:=by kernel_rfl
theorem Alone_ok (M:Mem) (self:ZD) (r:Int):Esp.Fn Tryz.prog 21 [self.enc,.int .i64 r] M (fun M' v=>NeE M' v (VE self r)):=by
  obtain ⟨self_addr,self_id⟩:=self
  refine WH Tryz.func21 rfl Tryz.ntmps21 rfl ?_;intro H
  refine ZJ (Zm (l:=[0,1,2]) rfl ?_)
  refine Xi ?_;intro b1
  refine YW F.zero32 ?_;intro b2
  refine ZC ?_;refine Zu (Zr (Y_pk [5,4,2,1] ?_));refine ZJ (Zm (l:=[0,1,2,3,4,5,6,7]) rfl ?_);refine ZH F.lay25 ?_;refine X_fn rfl rfl F.ok63 rfl (New_ok _ ⟨self_addr,self_id⟩) rfl ?_
  rintro _ M1 hm1 ⟨_,rfl,⟨⟨oa,oi⟩,⟨oq,oj⟩,⟨o1a,o1c,o1l⟩,⟨o2a,o2c,o2l⟩⟩,rfl,hot,okt⟩
  have hne:=new_ok (s:=⟨self_addr,self_id⟩)
  obtain ⟨ne,hnv⟩:∃ x,(newT ⟨self_addr,self_id⟩).2=x:=⟨_,rfl⟩
  rw [hnv] at hne ⊢
  refine ZA ?_
  iterate 2 refine XA ?_
  refine YW F.zero28 ?_;intro b3
  refine Yi F.lay28 ?_;refine ZC ?_;refine Zu (Zr (Y_pk [7,6,5,4,1] ?_))
  iterate 2 refine ZJ ?_
  refine Zm (l:=[0,1,2,3,4,5,6,7,8,9]) rfl ?_;refine ZA ?_;refine Yy ?_;refine ZA ?_
  refine Yj 15 rfl (fun hc4=>?_) (fun hc4=>?_)
  ·replace hc4:=nT hc4
   iterate 2 refine Ya ?_
   refine ZN ?_;refine ZA ?_
   iterate 2 refine Ya ?_
   refine ZN ?_;refine Zu (Zr (Y_pk [22,6,5,4,1] ?_));refine Xm rfl ?_;refine ZJ (Zm (l:=[0,1,2]) rfl ?_);refine Xn rfl rfl F.bld32 (.nil) rfl rfl ?_;refine XW F.lay32 ?_;refine ZC ?_;refine Zu (Zr (Y_pk [5,6,4,1] ?_));refine Yu (YS ?_)
   refine Yk (.inr rfl) (.cell rfl (by repeat first|exact List.Mem.head _|refine List.Mem.tail _ ?_|refine List.mem_append_right _ ?_) F.lay32 rfl rfl (.tmp rfl .nil)) (fun w hw=>?_)
   refine ⟨_,M1,rfl,hm1,hw.c,ZP.zero,?_,?_,ZP.zero_ok _⟩
   ·rw [alone_no (by rintro ⟨q1,q2,q3⟩;have q4:=hne.2 q1;omega)];rfl
   ·rw [alone_no (by rintro ⟨q1,q2,q3⟩;have q4:=hne.2 q1;omega)];rfl
  ·replace hc4:=nF hc4
   refine ZA ?_;refine Yy ?_;refine ZN ?_;refine ZA ?_
   refine Yj 19 rfl (fun hc5=>?_) (fun hc5=>?_)
   ·replace hc5:=dT hc5
    iterate 2 refine Ya ?_
    refine ZN ?_;refine Zu (Zr (Y_pk [22,6,5,4,1] ?_));refine Xm rfl ?_;refine ZJ (Zm (l:=[0,1,2]) rfl ?_);refine Xn rfl rfl F.bld32 (.nil) rfl rfl ?_;refine XW F.lay32 ?_;refine ZC ?_;refine Zu (Zr (Y_pk [5,6,4,1] ?_));refine Yu (YS ?_)
    refine Yk (.inr rfl) (.cell rfl (by repeat first|exact List.Mem.head _|refine List.Mem.tail _ ?_|refine List.mem_append_right _ ?_) F.lay32 rfl rfl (.tmp rfl .nil)) (fun w hw=>?_)
    refine ⟨_,M1,rfl,hm1,hw.c,ZP.zero,?_,?_,ZP.zero_ok _⟩
    ·rw [alone_no (by rintro ⟨q1,q2,q3⟩;have q4:=hne.2 q1;omega)];rfl
    ·rw [alone_no (by rintro ⟨q1,q2,q3⟩;have q4:=hne.2 q1;omega)];rfl
   ·replace hc5:=dF hc5
    refine ZA ?_;refine Yy ?_;refine ZN ?_;refine Zu (Zr (Y_pk [22,6,5,4,1] ?_))
    refine Yz rfl (fun hc6=>?_) (fun hc6=>?_)
    ·replace hc6:=dT hc6
     refine ZJ (Zm (l:=[0,1,2]) rfl ?_);refine Xn rfl rfl F.bld32 (.nil) rfl rfl ?_;refine XW F.lay32 ?_;refine ZC ?_;refine Zu (Zr (Y_pk [5,6,4,1] ?_));refine Yu (YS ?_)
     refine Yk (.inr rfl) (.cell rfl (by repeat first|exact List.Mem.head _|refine List.Mem.tail _ ?_|refine List.mem_append_right _ ?_) F.lay32 rfl rfl (.tmp rfl .nil)) (fun w hw=>?_)
     refine ⟨_,M1,rfl,hm1,hw.c,ZP.zero,?_,?_,ZP.zero_ok _⟩
     ·rw [alone_no (by rintro ⟨q1,q2,q3⟩;have q4:=hne.2 q1;omega)];rfl
     ·rw [alone_no (by rintro ⟨q1,q2,q3⟩;have q4:=hne.2 q1;omega)];rfl
    ·replace hc6:=dF hc6
     refine YB (Zr (Y_pk [6,5,4,1] ?_));refine ZJ (Zm (l:=[0,1,2,3,4]) rfl ?_);refine ZH F.lay28 ?_;refine ZA ?_;refine Xn rfl rfl F.bld32 (.cons rfl (by constructor) (.cons rfl (by constructor) (.cons rfl (by constructor) (.cons rfl (by constructor) (.cons rfl (by constructor) (.cons rfl (by constructor) (.cons rfl (by constructor) .nil))))))) rfl rfl ?_;refine XW F.lay32 ?_;refine ZC ?_;refine Zu (Zr (Y_pk [5,4] ?_));refine Yu ?_
     refine Yk (.inr rfl) (.cell rfl (by repeat first|exact List.Mem.head _|refine List.Mem.tail _ ?_|refine List.mem_append_right _ ?_) F.lay32 rfl rfl (.tmp rfl .nil)) (fun w hw=>?_)
     have h3:=alone_is (s:=⟨self_addr,self_id⟩) (r:=r) ⟨hne.1 (by omega),by omega,by omega⟩
     rw [show (newT ⟨self_addr,self_id⟩).1=_ from hot.symm] at h3
     exact ⟨_,M1,rfl,hm1,hw.c,⟨⟨⟨oa,oi⟩,⟨oq,oj⟩,⟨o1a,o1c,o1l⟩,⟨o2a,o2c,o2l⟩⟩,r,true,-1,0,0,-1,0,-1,0,-1,0,0,⟨none,0,[]⟩,0,0⟩,by rw [h3];rfl,by rw [h3];rfl,⟨okt,SlK.nil⟩⟩
theorem Joining_ok (M:Mem) (self:ZD) (r:Int) (boot:Int):Esp.Fn Tryz.prog 23 [self.enc,.int .i64 r,.int .i64 boot] M (fun M' v=>NeE M' v (joiningN self r boot)):=by
  obtain ⟨self_addr,self_id⟩:=self
  refine WH Tryz.func23 rfl Tryz.ntmps23 rfl ?_;intro H
  refine ZJ (Zm (l:=[0,1,2]) rfl ?_)
  refine Xi ?_;intro b1
  refine YW F.zero32 ?_;intro b2
  refine ZC ?_;refine Zu (Zr (Y_pk [7,6,3,1,2] ?_));refine ZJ (Zm (l:=[0,1,2,3,4,5,6,7,8]) rfl ?_);refine ZH F.lay25 ?_;refine ZA ?_;refine X_fn rfl rfl F.ok21 rfl (Alone_ok _ ⟨self_addr,self_id⟩ r) rfl ?_
  rintro _ M1 hm1 ⟨⟨⟨⟨YG,YP⟩,⟨YH,YQ⟩,⟨YV,YU,YT⟩,⟨YK,YJ,YI⟩⟩,XG,XK,Wh,XF,WF,XT,XH,XB,Xp,XC,Xq,XE,⟨Xt,Xs,Xr⟩,Wg,Wf⟩,rfl,hv1,okv⟩
  obtain ⟨ae,hae⟩:∃ x,(VE ⟨self_addr,self_id⟩ r).2=x:=⟨_,rfl⟩
  rw [hae]
  refine ZA ?_
  iterate 2 refine XA ?_
  refine YW F.zero32 ?_;intro b3
  refine XW F.lay32 ?_;refine ZC ?_;refine Zu (Zr (Y_pk [9,8,7,6,3,2] ?_))
  iterate 2 refine ZJ ?_
  refine Zm (l:=[0,1,2,3,4,5,6,7,8,9,10,11,12,13,14,15]) rfl ?_;refine ZA ?_;refine Yy ?_;refine ZA ?_
  refine Yj 18 rfl (fun hc4=>?_) (fun hc4=>?_)
  ·replace hc4:=nT hc4
   iterate 2 refine Ya ?_
   refine ZN ?_;refine ZA ?_
   iterate 2 refine Ya ?_
   refine ZN ?_;refine ZA ?_
   iterate 4 refine Ya ?_
   refine ZN ?_;refine Zu (Zr (Y_pk [31,8,7,6,2] ?_));refine Xm rfl ?_;refine ZJ (Zm (l:=[0,1,2]) rfl ?_);refine Xn rfl rfl F.bld32 (.nil) rfl rfl ?_;refine XW F.lay32 ?_;refine ZC ?_;refine Zu (Zr (Y_pk [7,8,6,2] ?_));refine Yu (YS ?_)
   refine Yk (.inr rfl) (.cell rfl (by repeat first|exact List.Mem.head _|refine List.Mem.tail _ ?_|refine List.mem_append_right _ ?_) F.lay32 rfl rfl (.tmp rfl .nil)) (fun w hw=>?_)
   refine ⟨_,M1,rfl,hm1,hw.c,ZP.zero,?_,?_,ZP.zero_ok _⟩
   ·rw [joining_no (by rintro ⟨q1,⟨q2,q4⟩,q3⟩;replace q3:boot≠self_addr:=q3;rw [hae] at q1;omega)];rfl
   ·rw [joining_no (by rintro ⟨q1,⟨q2,q4⟩,q3⟩;replace q3:boot≠self_addr:=q3;rw [hae] at q1;omega)];rfl
  ·replace hc4:=nF hc4
   refine ZA ?_;refine Yy ?_;refine ZN ?_;refine ZA ?_
   refine Yj 22 rfl (fun hc5=>?_) (fun hc5=>?_)
   ·replace hc5:=dT hc5
    iterate 2 refine Ya ?_
    refine ZN ?_;refine ZA ?_
    iterate 4 refine Ya ?_
    refine ZN ?_;refine Zu (Zr (Y_pk [31,8,7,6,2] ?_));refine Xm rfl ?_;refine ZJ (Zm (l:=[0,1,2]) rfl ?_);refine Xn rfl rfl F.bld32 (.nil) rfl rfl ?_;refine XW F.lay32 ?_;refine ZC ?_;refine Zu (Zr (Y_pk [7,8,6,2] ?_));refine Yu (YS ?_)
    refine Yk (.inr rfl) (.cell rfl (by repeat first|exact List.Mem.head _|refine List.Mem.tail _ ?_|refine List.mem_append_right _ ?_) F.lay32 rfl rfl (.tmp rfl .nil)) (fun w hw=>?_)
    refine ⟨_,M1,rfl,hm1,hw.c,ZP.zero,?_,?_,ZP.zero_ok _⟩
    ·rw [joining_no (by rintro ⟨q1,⟨q2,q4⟩,q3⟩;replace q3:boot≠self_addr:=q3;rw [hae] at q1;omega)];rfl
    ·rw [joining_no (by rintro ⟨q1,⟨q2,q4⟩,q3⟩;replace q3:boot≠self_addr:=q3;rw [hae] at q1;omega)];rfl
   ·replace hc5:=dF hc5
    refine ZA ?_;refine Yy ?_;refine ZN ?_;refine ZA ?_
    refine Yj 26 rfl (fun hc6=>?_) (fun hc6=>?_)
    ·replace hc6:=dT hc6
     iterate 4 refine Ya ?_
     refine ZN ?_;refine Zu (Zr (Y_pk [31,8,7,6,2] ?_));refine Xm rfl ?_;refine ZJ (Zm (l:=[0,1,2]) rfl ?_);refine Xn rfl rfl F.bld32 (.nil) rfl rfl ?_;refine XW F.lay32 ?_;refine ZC ?_;refine Zu (Zr (Y_pk [7,8,6,2] ?_));refine Yu (YS ?_)
     refine Yk (.inr rfl) (.cell rfl (by repeat first|exact List.Mem.head _|refine List.Mem.tail _ ?_|refine List.mem_append_right _ ?_) F.lay32 rfl rfl (.tmp rfl .nil)) (fun w hw=>?_)
     refine ⟨_,M1,rfl,hm1,hw.c,ZP.zero,?_,?_,ZP.zero_ok _⟩
     ·rw [joining_no (by rintro ⟨q1,⟨q2,q4⟩,q3⟩;replace q3:boot≠self_addr:=q3;rw [hae] at q1;omega)];rfl
     ·rw [joining_no (by rintro ⟨q1,⟨q2,q4⟩,q3⟩;replace q3:boot≠self_addr:=q3;rw [hae] at q1;omega)];rfl
    ·replace hc6:=dF hc6
     refine ZA ?_;refine Zk F.foff25_0 ?_;refine ZH F.lay3 ?_;refine Yy ?_;refine ZN ?_;refine Zu (Zr (Y_pk [31,8,7,6,2] ?_))
     refine Yz rfl (fun hc7=>?_) (fun hc7=>?_)
     ·replace hc7:=dT hc7
      refine ZJ (Zm (l:=[0,1,2]) rfl ?_);refine Xn rfl rfl F.bld32 (.nil) rfl rfl ?_;refine XW F.lay32 ?_;refine ZC ?_;refine Zu (Zr (Y_pk [7,8,6,2] ?_));refine Yu (YS ?_)
      refine Yk (.inr rfl) (.cell rfl (by repeat first|exact List.Mem.head _|refine List.Mem.tail _ ?_|refine List.mem_append_right _ ?_) F.lay32 rfl rfl (.tmp rfl .nil)) (fun w hw=>?_)
      refine ⟨_,M1,rfl,hm1,hw.c,ZP.zero,?_,?_,ZP.zero_ok _⟩
      ·rw [joining_no (by rintro ⟨q1,⟨q2,q4⟩,q3⟩;replace q3:boot≠self_addr:=q3;rw [hae] at q1;omega)];rfl
      ·rw [joining_no (by rintro ⟨q1,⟨q2,q4⟩,q3⟩;replace q3:boot≠self_addr:=q3;rw [hae] at q1;omega)];rfl
     ·replace hc7:=dF hc7
      refine YB (Zr (Y_pk [8,7,6,2] ?_));refine ZJ (Zm (l:=[0,1,2,3,4]) rfl ?_);refine ZA ?_;refine Zk F.foff32_2 ?_;refine Yi F.lay4 ?_;refine Zk F.foff32_3 ?_;refine Yi F.lay3 ?_;refine Zu (Zr (Y_pk [8,7,6] ?_));refine ZJ (Zm (l:=[0,1,2]) rfl ?_);refine ZH F.lay32 ?_;refine XW F.lay32 ?_;refine ZC ?_;refine Zu (Zr (Y_pk [7,6] ?_));refine Yu ?_
      refine Yk (.inr rfl) (.cell rfl (by repeat first|exact List.Mem.head _|refine List.Mem.tail _ ?_|refine List.mem_append_right _ ?_) F.lay32 rfl rfl (.tmp rfl .nil)) (fun w hw=>?_)
      have h3:=joining_is (s:=⟨self_addr,self_id⟩) (r:=r) (b:=boot) ⟨by rw [hae];omega,⟨by omega,by omega⟩,by show boot≠self_addr;omega⟩
      rw [← hv1] at h3
      exact ⟨_,M1,rfl,hm1,hw.c,⟨⟨⟨YG,YP⟩,⟨YH,YQ⟩,⟨YV,YU,YT⟩,⟨YK,YJ,YI⟩⟩,XG,false,boot,XF,WF,XT,XH,XB,Xp,XC,Xq,XE,⟨Xt,Xs,Xr⟩,Wg,Wf⟩,by rw [h3];rfl,by rw [h3];rfl,⟨okv.h0,okv.h1⟩⟩
end Go.Proofs.YtajmnjefajknoaaGreat
namespace Go.Esp
def xp (n:Int):ZD:=⟨n,smallP (10 * n)⟩
theorem xs10:smallP 10=10#160:=by kernel_rfl
theorem xs20:smallP 20=20#160:=by kernel_rfl
def xt:Tb:=⟨⟨1,10#160⟩,Xc,[],List.replicate 160 Xc⟩
def xu:Tb:={ xt with succ:=[⟨2,20#160⟩,⟨3,30#160⟩] }
def xv:Tb:={ xu with pred:=⟨3,30#160⟩ }
def xw:Tb:={ xv with fingers:=List.replicate 4 ⟨2,20#160⟩++List.replicate 156 Xc }
def xx:Tb:={ xv with succ:=[⟨3,30#160⟩],fingers:=List.replicate 160 Xc }
end Go.Esp
namespace Go.Esp
def nA:ZD:=⟨1,10#160⟩
def nB:ZD:=⟨2,20#160⟩
def nX:Nd:=(VE ⟨1,10#160⟩ 2).1
def nY:Nd:=(joiningN ⟨2,20#160⟩ 2 1).1
def nL1:Lt:=⟨1,⟨2,20#160⟩,1,20#160,[],false,⟨-1,0⟩,[]⟩
def nL2:Lt:=⟨2,⟨1,10#160⟩,1,0,[],true,⟨1,10#160⟩,[]⟩
def nL3:Lt:=⟨3,⟨2,20#160⟩,2,0,[],false,⟨-1,0⟩,[]⟩
def nY1:Nd:=(VC nY 1).1
def nY2:Nd:=(Vw nY1 nL2).1
def nY3:Nd:=(VC nY2 1).1
theorem nx1:VE ⟨1,10#160⟩ 2=(nX,0):=by kernel_rfl
theorem nx2:joiningN ⟨2,20#160⟩ 2 1=(nY,0):=by kernel_rfl
theorem nx3:VC nY 1=(nY1,[⟨1,nL1⟩],0):=by kernel_rfl
theorem nx4:Vw nX nL1=(nX,[⟨2,nL2⟩],0):=by kernel_rfl
theorem nx5:Vw nY1 nL2=(nY2,[],0):=by kernel_rfl
theorem nx6:VC nY2 1=(nY3,[⟨1,nL3⟩],0):=by kernel_rfl
theorem nx7:joiningN ⟨2,20#160⟩ 2 2=(Nd.zero,1):=by kernel_rfl
theorem nx8:nY2.joined=true:=by kernel_rfl
theorem nx9:XU nY2.table=⟨1,10#160⟩:=by kernel_rfl
theorem nx10:IsNd nY2:=of_decide_eq_true (by kernel_rfl)
theorem sndl_one {l:List Yv} {s:Snd} (h:sndl l=[s]):∃ y,l=[y]∧y.snd=s:=by
  match l,h with
  | [y],h=>exact ⟨y,rfl,(List.cons.inj h).1⟩
end Go.Esp
namespace Go.Proofs.YtajmnjefajknoaaGreat
open Go.Esp
theorem F.ok11:okFn Tryz.prog 11=true:=by kernel_rfl
theorem F.ok17:okFn Tryz.prog 17=true:=by kernel_rfl
theorem F.ok23:okFn Tryz.prog 23=true:=by kernel_rfl
theorem F.ok40:okFn Tryz.prog 40=true:=by kernel_rfl
theorem small10_ok (M:Mem):Fs Tryz.prog 40 [.int .i64 10] M (fun v=>v=aggV [Yn 10#160]):=by
  have h:=Small_ok M 10 (by decide)
  rw [xs10] at h
  exact h
theorem small20_ok (M:Mem):Fs Tryz.prog 40 [.int .i64 20] M (fun v=>v=aggV [Yn 20#160]):=by
  have h:=Small_ok M 20 (by decide)
  rw [xs20] at h
  exact h
theorem Va (M:Mem):Esp.Fn Tryz.prog 13 [] M (fun _ v=>v=.bool true):=by
  refine WH Tryz.func13 rfl Tryz.ntmps13 rfl ?_;intro H
  refine ZJ (Zm (l:=[0]) rfl ?_);refine ZC ?_;refine Zu (Zr (ZJ (Zm (l:=[0,1,2,3]) rfl ?_)));refine X_fs rfl rfl F.ok40 rfl (small10_ok _) rfl ?_
  rintro _ rfl
  refine Xn rfl rfl F.bld25 (.cons rfl (by constructor) (.cons rfl (by constructor) .nil)) rfl rfl ?_
  refine YW F.zero25 ?_;intro b1
  refine Yi F.lay25 ?_;refine Zu (Zr (Y_pk [1,0] ?_));refine ZJ (Zm (l:=[0,1,2,3]) rfl ?_);refine X_fs rfl rfl F.ok40 rfl (small20_ok _) rfl ?_
  rintro _ rfl
  refine Xn rfl rfl F.bld25 (.cons rfl (by constructor) (.cons rfl (by constructor) .nil)) rfl rfl ?_
  refine YW F.zero25 ?_;intro b2
  refine Yi F.lay25 ?_;refine Zu (Zr (Y_pk [2,1,0] ?_));refine ZJ (Zm (l:=[0,1,2,3,4,5,6,7]) rfl ?_);refine ZH F.lay25 ?_;refine X_fn rfl rfl F.ok21 rfl (Alone_ok M ⟨1,10#160⟩ 2) rfl ?_
  rintro _ M1 hm1 hv
  rw [nx1] at hv
  simp only [NeE] at hv
  obtain ⟨⟨⟨⟨x_table_self_addr,x_table_self_id⟩,⟨x_table_pred_addr,x_table_pred_id⟩,⟨x_table_succ_a,x_table_succ_c,x_table_succ_l⟩,⟨x_table_fingers_a,x_table_fingers_c,x_table_fingers_l⟩⟩,x_copies,x_joined,x_boot,x_cursor,x_req,x_askTo,x_askReq,x_pingTo,x_pingReq,x_findTo,x_findReq,x_findID,⟨x_avoid_a,x_avoid_c,x_avoid_l⟩,x_hops,x_turn⟩,rfl,ex,okx⟩:=hv
  try simp only at ex
  refine ZA ?_
  iterate 2 refine XA ?_
  refine YW F.zero32 ?_;intro b3
  refine XW F.lay32 ?_;refine ZC ?_;refine Zu (Zr (Y_pk [4,3,2,1,0] ?_));refine ZJ (Zm (l:=[0,1,2,3,4,5,6,7]) rfl ?_);refine ZH F.lay25 ?_;refine X_fn rfl rfl F.ok23 rfl (Joining_ok M1 ⟨2,20#160⟩ 2 1) rfl ?_
  rintro _ M2 hm2 hv
  rw [nx2] at hv
  simp only [NeE] at hv
  obtain ⟨⟨⟨⟨y_table_self_addr,y_table_self_id⟩,⟨y_table_pred_addr,y_table_pred_id⟩,⟨y_table_succ_a,y_table_succ_c,y_table_succ_l⟩,⟨y_table_fingers_a,y_table_fingers_c,y_table_fingers_l⟩⟩,y_copies,y_joined,y_boot,y_cursor,y_req,y_askTo,y_askReq,y_pingTo,y_pingReq,y_findTo,y_findReq,y_findID,⟨y_avoid_a,y_avoid_c,y_avoid_l⟩,y_hops,y_turn⟩,rfl,ey,oky⟩:=hv
  try simp only at ey
  refine ZA ?_
  iterate 2 refine XA ?_
  refine YW F.zero32 ?_;intro b4
  refine XW F.lay32 ?_;refine ZC ?_;refine Zu (Zr (Y_pk [6,5,4,3,2,1,0] ?_));refine ZJ (Zm (l:=[0,1,2,3,4,5,6,7,8,9]) rfl ?_);refine ZH F.lay32 ?_;refine X_fn rfl rfl F.ok11 rfl (Tick_ok M2 ⟨⟨⟨y_table_self_addr,y_table_self_id⟩,⟨y_table_pred_addr,y_table_pred_id⟩,⟨y_table_succ_a,y_table_succ_c,y_table_succ_l⟩,⟨y_table_fingers_a,y_table_fingers_c,y_table_fingers_l⟩⟩,y_copies,y_joined,y_boot,y_cursor,y_req,y_askTo,y_askReq,y_pingTo,y_pingReq,y_findTo,y_findReq,y_findID,⟨y_avoid_a,y_avoid_c,y_avoid_l⟩,y_hops,y_turn⟩ 1 oky) rfl ?_
  rintro _ M3 hm3 hv
  rw [show VC (ZP.nd ⟨⟨⟨y_table_self_addr,y_table_self_id⟩,⟨y_table_pred_addr,y_table_pred_id⟩,⟨y_table_succ_a,y_table_succ_c,y_table_succ_l⟩,⟨y_table_fingers_a,y_table_fingers_c,y_table_fingers_l⟩⟩,y_copies,y_joined,y_boot,y_cursor,y_req,y_askTo,y_askReq,y_pingTo,y_pingReq,y_findTo,y_findReq,y_findID,⟨y_avoid_a,y_avoid_c,y_avoid_l⟩,y_hops,y_turn⟩) 1=_ from (congrArg (fun n=>VC n 1) ey).trans nx3] at hv
  simp only [NtE] at hv
  obtain ⟨⟨⟨⟨z_table_self_addr,z_table_self_id⟩,⟨z_table_pred_addr,z_table_pred_id⟩,⟨z_table_succ_a,z_table_succ_c,z_table_succ_l⟩,⟨z_table_fingers_a,z_table_fingers_c,z_table_fingers_l⟩⟩,z_copies,z_joined,z_boot,z_cursor,z_req,z_askTo,z_askReq,z_pingTo,z_pingReq,z_findTo,z_findReq,z_findID,⟨z_avoid_a,z_avoid_c,z_avoid_l⟩,z_hops,z_turn⟩,⟨so_a,so_c,so_l⟩,rfl,ez,sz,okz,kz,lz⟩:=hv
  try simp only at ez sz kz lz
  obtain ⟨⟨p_to,⟨p_kind,⟨p_frm_addr,p_frm_id⟩,p_req,p_id,⟨p_avoid_a,p_avoid_c,p_avoid_l⟩,p_done,⟨p_peer_addr,p_peer_id⟩,⟨p_peers_a,p_peers_c,p_peers_l⟩⟩⟩,rfl,hp⟩:=sndl_one sz
  simp only [Yv.snd,ZQ.lt,nL1,Snd.mk.injEq,Lt.mk.injEq,ZD.mk.injEq] at hp
  obtain ⟨rfl,rfl,⟨rfl,rfl⟩,rfl,rfl,rfl,rfl,⟨rfl,rfl⟩,rfl⟩:=hp
  have s_so:=kz.h1
  try simp only at s_so
  refine ZA ?_
  iterate 3 refine XA ?_
  refine YW F.zero32 ?_;intro b5
  refine XW F.lay32 ?_
  iterate 2 refine ZC ?_
  refine Zu (Zr (Y_pk [9,8,7,6,4,3,2,1,0] ?_))
  iterate 2 refine ZJ ?_
  refine Zm (l:=[0,1,2,3,4,5,6,7,8,9,10,11,12,13,14,15,16,17,18,19,20,21,22,23,24,25,26,27,28,29,30,31]) rfl ?_;refine ZA ?_;refine Yy ?_;refine ZA ?_
  refine Yj 43 rfl (fun hc6=>?_) (fun hc6=>?_)
  ·replace hc6:=nT hc6
   simp only [ZD.eta,ZS.eta,ZP.eta,ZQ.eta,Yv.eta,ZO.eta,YL.eta,ZW.eta] at hc6
   (exfalso;simp [eqX] at hc6;done)
  ·replace hc6:=nF hc6
   simp only [ZD.eta,ZS.eta,ZP.eta,ZQ.eta,Yv.eta,ZO.eta,YL.eta,ZW.eta] at hc6
   iterate 2 refine ZA ?_
   refine Yy ?_;refine ZN ?_;refine ZA ?_
   refine Yj 48 rfl (fun hc7=>?_) (fun hc7=>?_)
   ·replace hc7:=nT hc7
    simp only [ZD.eta,ZS.eta,ZP.eta,ZQ.eta,Yv.eta,ZO.eta,YL.eta,ZW.eta] at hc7
    (exfalso;simp [eqX] at hc7;done)
   ·replace hc7:=nF hc7
    simp only [ZD.eta,ZS.eta,ZP.eta,ZQ.eta,Yv.eta,ZO.eta,YL.eta,ZW.eta] at hc7
    iterate 2 refine ZA ?_
    refine Yy ?_;refine ZN ?_;refine ZA ?_
    refine Yj 53 rfl (fun hc8=>?_) (fun hc8=>?_)
    ·replace hc8:=nT hc8
     simp only [ZD.eta,ZS.eta,ZP.eta,ZQ.eta,Yv.eta,ZO.eta,YL.eta,ZW.eta] at hc8
     (exfalso;simp [eqX] at hc8;done)
    ·replace hc8:=nF hc8
     simp only [ZD.eta,ZS.eta,ZP.eta,ZQ.eta,Yv.eta,ZO.eta,YL.eta,ZW.eta] at hc8
     refine ZA ?_;refine Xa F.elem35 ?_;refine Yy ?_;refine ZN ?_;refine ZA ?_
     refine Yj 58 rfl (fun hc9=>?_) (fun hc9=>?_)
     ·replace hc9:=nT hc9
      (exfalso;simp [eqX] at hc9;done)
     ·replace hc9:=nF hc9
      refine ZA ?_;refine YO rfl rfl rfl rfl F.elem35 (by rfl) (by (simp;done)) (by exact SlM.plain (by assumption) (by (simp;done))) rfl ?_;refine Xf rfl rfl rfl (by exact SlM.plain (by assumption) (by (simp;done))) F.foff49_0 rfl ?_;refine Xx rfl rfl rfl (by assumption) (by exact rfl) F.lay3 rfl rfl rfl ?_;refine Yy ?_;refine ZN ?_;refine ZA ?_
      refine Yj 65 rfl (fun hc10=>?_) (fun hc10=>?_)
      ·replace hc10:=nT hc10
       simp only [ZD.eta,ZS.eta,ZP.eta,ZQ.eta,Yv.eta,ZO.eta,YL.eta,ZW.eta] at hc10
       (exfalso;simp [eqX] at hc10;done)
      ·replace hc10:=nF hc10
       simp only [ZD.eta,ZS.eta,ZP.eta,ZQ.eta,Yv.eta,ZO.eta,YL.eta,ZW.eta] at hc10
       refine ZA ?_;refine YO rfl rfl rfl rfl F.elem35 (by rfl) (by (simp;done)) (by exact SlM.plain (by assumption) (by (simp;done))) rfl ?_;refine Xf rfl rfl rfl (by exact SlM.plain (by assumption) (by (simp;done))) F.foff49_1 rfl ?_;refine Xf rfl rfl rfl (by exact SlM.plain (by assumption) (by (simp;done))) F.foff44_0 rfl ?_;refine Xx rfl rfl rfl (by assumption) (by exact rfl) F.lay3 rfl rfl rfl ?_;refine Yy ?_;refine ZN ?_;refine Zu (Zr (Y_pk [72,8,7,3,2,1,0] ?_))
       refine Yz rfl (fun hc11=>?_) (fun hc11=>?_)
       ·replace hc11:=nT hc11
        simp only [ZD.eta,ZS.eta,ZP.eta,ZQ.eta,Yv.eta,ZO.eta,YL.eta,ZW.eta] at hc11
        (exfalso;simp [eqX] at hc11;done)
       ·replace hc11:=nF hc11
        simp only [ZD.eta,ZS.eta,ZP.eta,ZQ.eta,Yv.eta,ZO.eta,YL.eta,ZW.eta] at hc11
        refine YB (Zr (Y_pk [8,7,3,2,1,0] ?_));refine ZJ (YE (l:=[0,1,2,3,4,5,6,7,8,9,10,11,12,13]) #[0,0,2,6,14,31,63,127,127,127,0,1279,3583,8191] _ rfl (by kernel_rfl) (by kernel_rfl) St.drawn (fun _ h=>h) ?_);refine ZH F.lay32 ?_;refine ZA ?_;refine YO rfl rfl rfl rfl F.elem35 (by rfl) (by (simp;done)) (by exact SlM.plain (by assumption) (by (simp;done))) rfl ?_;refine Xf rfl rfl rfl (by exact SlM.plain (by assumption) (by (simp;done))) F.foff49_1 rfl ?_;refine Xx rfl rfl rfl (by assumption) (by exact rfl) F.lay44 rfl rfl rfl ?_;refine X_fn rfl rfl F.ok17 rfl (Take_ok M3 ⟨⟨⟨x_table_self_addr,x_table_self_id⟩,⟨x_table_pred_addr,x_table_pred_id⟩,⟨x_table_succ_a,x_table_succ_c,x_table_succ_l⟩,⟨x_table_fingers_a,x_table_fingers_c,x_table_fingers_l⟩⟩,x_copies,x_joined,x_boot,x_cursor,x_req,x_askTo,x_askReq,x_pingTo,x_pingReq,x_findTo,x_findReq,x_findID,⟨x_avoid_a,x_avoid_c,x_avoid_l⟩,x_hops,x_turn⟩ ⟨1,⟨2,20#160⟩,1,20#160,⟨p_avoid_a,p_avoid_c,[]⟩,false,⟨-1,0⟩,⟨p_peers_a,p_peers_c,[]⟩⟩ (okx.mono (by (repeat first|assumption|refine Mem.le.trans (by assumption) ?_))) (lz _ (List.Mem.head _)).h0) rfl ?_
        rintro _ M4 hm4 hv
        rw [show Vw (ZP.nd ⟨⟨⟨x_table_self_addr,x_table_self_id⟩,⟨x_table_pred_addr,x_table_pred_id⟩,⟨x_table_succ_a,x_table_succ_c,x_table_succ_l⟩,⟨x_table_fingers_a,x_table_fingers_c,x_table_fingers_l⟩⟩,x_copies,x_joined,x_boot,x_cursor,x_req,x_askTo,x_askReq,x_pingTo,x_pingReq,x_findTo,x_findReq,x_findID,⟨x_avoid_a,x_avoid_c,x_avoid_l⟩,x_hops,x_turn⟩) (ZQ.lt ⟨1,⟨2,20#160⟩,1,20#160,⟨p_avoid_a,p_avoid_c,[]⟩,false,⟨-1,0⟩,⟨p_peers_a,p_peers_c,[]⟩⟩)=_ from (congrArg (fun n=>Vw n (ZQ.lt ⟨1,⟨2,20#160⟩,1,20#160,⟨p_avoid_a,p_avoid_c,[]⟩,false,⟨-1,0⟩,⟨p_peers_a,p_peers_c,[]⟩⟩)) ex).trans nx4] at hv
        simp only [NtE] at hv
        obtain ⟨⟨⟨⟨w_table_self_addr,w_table_self_id⟩,⟨w_table_pred_addr,w_table_pred_id⟩,⟨w_table_succ_a,w_table_succ_c,w_table_succ_l⟩,⟨w_table_fingers_a,w_table_fingers_c,w_table_fingers_l⟩⟩,w_copies,w_joined,w_boot,w_cursor,w_req,w_askTo,w_askReq,w_pingTo,w_pingReq,w_findTo,w_findReq,w_findID,⟨w_avoid_a,w_avoid_c,w_avoid_l⟩,w_hops,w_turn⟩,⟨to_a,to_c,to_l⟩,rfl,ew,sw,okw,kw,lw⟩:=hv
        try simp only at ew sw kw lw
        obtain ⟨⟨r_to,⟨r_kind,⟨r_frm_addr,r_frm_id⟩,r_req,r_id,⟨r_avoid_a,r_avoid_c,r_avoid_l⟩,r_done,⟨r_peer_addr,r_peer_id⟩,⟨r_peers_a,r_peers_c,r_peers_l⟩⟩⟩,rfl,hr⟩:=sndl_one sw
        simp only [Yv.snd,ZQ.lt,nL2,Snd.mk.injEq,Lt.mk.injEq,ZD.mk.injEq] at hr
        obtain ⟨rfl,rfl,⟨rfl,rfl⟩,rfl,rfl,rfl,rfl,⟨rfl,rfl⟩,rfl⟩:=hr
        have s_to:=kw.h1
        try simp only at s_to
        refine ZA ?_
        iterate 3 refine XA ?_
        refine YW F.zero32 ?_;intro b12
        refine XW F.lay32 ?_
        iterate 2 refine ZC ?_
        refine Zu (Zr (Y_pk [12,11,7,2,1,0] ?_))
        iterate 2 refine ZJ ?_
        refine YE (l:=[0,1,2,3,4,5,6,7,8,9,10,11,12,13,14,15,16,17,18,19,20,21,22,23,24,25,26,27,28,29,30]) #[0,1,3,7,15,31,63,127,255,511,1023,2047,4095,8191,16383,32767,65535,131071,262143,524287,1048575,2097151,4194303,8388607,16777215,33554431,67108863,134217727,8388607,536870911,1073741823] _ rfl (by kernel_rfl) (by kernel_rfl) St.drawn (fun _ h=>h) ?_;refine ZA ?_;refine Yy ?_;refine ZA ?_
        refine Yj 85 rfl (fun hc13=>?_) (fun hc13=>?_)
        ·replace hc13:=nT hc13
         simp only [ZD.eta,ZS.eta,ZP.eta,ZQ.eta,Yv.eta,ZO.eta,YL.eta,ZW.eta] at hc13
         (exfalso;simp [eqX] at hc13;done)
        ·replace hc13:=nF hc13
         simp only [ZD.eta,ZS.eta,ZP.eta,ZQ.eta,Yv.eta,ZO.eta,YL.eta,ZW.eta] at hc13
         refine ZA ?_;refine Xa F.elem35 ?_;refine Yy ?_;refine ZN ?_;refine ZA ?_
         refine Yj 90 rfl (fun hc14=>?_) (fun hc14=>?_)
         ·replace hc14:=nT hc14
          (exfalso;simp [eqX] at hc14;done)
         ·replace hc14:=nF hc14
          refine ZA ?_;refine YO rfl rfl rfl rfl F.elem35 (by rfl) (by (simp;done)) (by exact SlM.plain (by assumption) (by (simp;done))) rfl ?_;refine Xf rfl rfl rfl (by exact SlM.plain (by assumption) (by (simp;done))) F.foff49_0 rfl ?_;refine Xx rfl rfl rfl (by assumption) (by exact rfl) F.lay3 rfl rfl rfl ?_;refine Yy ?_;refine ZN ?_;refine ZA ?_
          refine Yj 97 rfl (fun hc15=>?_) (fun hc15=>?_)
          ·replace hc15:=nT hc15
           simp only [ZD.eta,ZS.eta,ZP.eta,ZQ.eta,Yv.eta,ZO.eta,YL.eta,ZW.eta] at hc15
           (exfalso;simp [eqX] at hc15;done)
          ·replace hc15:=nF hc15
           simp only [ZD.eta,ZS.eta,ZP.eta,ZQ.eta,Yv.eta,ZO.eta,YL.eta,ZW.eta] at hc15
           refine ZA ?_;refine YO rfl rfl rfl rfl F.elem35 (by rfl) (by (simp;done)) (by exact SlM.plain (by assumption) (by (simp;done))) rfl ?_;refine Xf rfl rfl rfl (by exact SlM.plain (by assumption) (by (simp;done))) F.foff49_1 rfl ?_;refine Xf rfl rfl rfl (by exact SlM.plain (by assumption) (by (simp;done))) F.foff44_5 rfl ?_;refine Xx rfl rfl rfl (by assumption) (by exact rfl) F.lay4 rfl rfl rfl ?_;refine Xw ?_;refine ZN ?_;refine ZA ?_
           refine Yj 105 rfl (fun hc16=>?_) (fun hc16=>?_)
           ·skip
            (exfalso;simp [eqX] at hc16;done)
           ·skip
            refine ZA ?_;refine YO rfl rfl rfl rfl F.elem35 (by rfl) (by (simp;done)) (by exact SlM.plain (by assumption) (by (simp;done))) rfl ?_;refine Xf rfl rfl rfl (by exact SlM.plain (by assumption) (by (simp;done))) F.foff49_1 rfl ?_;refine Xf rfl rfl rfl (by exact SlM.plain (by assumption) (by (simp;done))) F.foff44_6 rfl ?_;refine Xx rfl rfl rfl (by assumption) (by exact rfl) F.lay25 rfl rfl rfl ?_;refine ZH F.lay25 ?_
            refine Wu (m:=20) rfl rfl rfl rfl rfl (by constructor) (by constructor) F.lay25 F.kinds25 rfl F.guard25 (by exact Xv (⟨_,_⟩)) (by exact Xv (⟨_,_⟩)) rfl rfl rfl ?_;intro c17 he18
            replace he18:c17=true↔¬(Segs.cells _=Segs.cells _):=he18
            obtain rfl:=neD he18 (ZD.inj (x:=⟨_,_⟩) (y:=⟨_,_⟩));clear he18
            refine ZN ?_;refine Zu (Zr (Y_pk [113,11,7,2,1,0] ?_))
            refine Yz rfl (fun hc19=>?_) (fun hc19=>?_)
            ·replace hc19:=nT hc19
             simp only [ZD.eta,ZS.eta,ZP.eta,ZQ.eta,Yv.eta,ZO.eta,YL.eta,ZW.eta] at hc19
             (exfalso;simp [eqX] at hc19;done)
            ·replace hc19:=nF hc19
             simp only [ZD.eta,ZS.eta,ZP.eta,ZQ.eta,Yv.eta,ZO.eta,YL.eta,ZW.eta] at hc19
             refine YB (Zr (Y_pk [11,7,2,1,0] ?_));refine ZJ (YE (l:=[0,1,2,3,4,5,6,7,8,9,10,11,12,13]) #[0,0,2,6,14,31,63,127,127,127,0,1279,3583,8191] _ rfl (by kernel_rfl) (by kernel_rfl) St.drawn (fun _ h=>h) ?_);refine ZH F.lay32 ?_;refine ZA ?_;refine YO rfl rfl rfl rfl F.elem35 (by rfl) (by (simp;done)) (by exact SlM.plain (by assumption) (by (simp;done))) rfl ?_;refine Xf rfl rfl rfl (by exact SlM.plain (by assumption) (by (simp;done))) F.foff49_1 rfl ?_;refine Xx rfl rfl rfl (by assumption) (by exact rfl) F.lay44 rfl rfl rfl ?_;refine X_fn rfl rfl F.ok17 rfl (Take_ok M4 ⟨⟨⟨z_table_self_addr,z_table_self_id⟩,⟨z_table_pred_addr,z_table_pred_id⟩,⟨z_table_succ_a,z_table_succ_c,z_table_succ_l⟩,⟨z_table_fingers_a,z_table_fingers_c,z_table_fingers_l⟩⟩,z_copies,z_joined,z_boot,z_cursor,z_req,z_askTo,z_askReq,z_pingTo,z_pingReq,z_findTo,z_findReq,z_findID,⟨z_avoid_a,z_avoid_c,z_avoid_l⟩,z_hops,z_turn⟩ ⟨2,⟨1,10#160⟩,1,0,⟨r_avoid_a,r_avoid_c,[]⟩,true,⟨1,10#160⟩,⟨r_peers_a,r_peers_c,[]⟩⟩ (okz.mono hm4) (lw _ (List.Mem.head _)).h0) rfl ?_
             rintro _ M5 hm5 hv
             rw [show Vw (ZP.nd ⟨⟨⟨z_table_self_addr,z_table_self_id⟩,⟨z_table_pred_addr,z_table_pred_id⟩,⟨z_table_succ_a,z_table_succ_c,z_table_succ_l⟩,⟨z_table_fingers_a,z_table_fingers_c,z_table_fingers_l⟩⟩,z_copies,z_joined,z_boot,z_cursor,z_req,z_askTo,z_askReq,z_pingTo,z_pingReq,z_findTo,z_findReq,z_findID,⟨z_avoid_a,z_avoid_c,z_avoid_l⟩,z_hops,z_turn⟩) (ZQ.lt ⟨2,⟨1,10#160⟩,1,0,⟨r_avoid_a,r_avoid_c,[]⟩,true,⟨1,10#160⟩,⟨r_peers_a,r_peers_c,[]⟩⟩)=_ from (congrArg (fun n=>Vw n (ZQ.lt ⟨2,⟨1,10#160⟩,1,0,⟨r_avoid_a,r_avoid_c,[]⟩,true,⟨1,10#160⟩,⟨r_peers_a,r_peers_c,[]⟩⟩)) ez).trans nx5] at hv
             simp only [NtE] at hv
             obtain ⟨⟨⟨⟨v_table_self_addr,v_table_self_id⟩,⟨v_table_pred_addr,v_table_pred_id⟩,⟨v_table_succ_a,v_table_succ_c,v_table_succ_l⟩,⟨v_table_fingers_a,v_table_fingers_c,v_table_fingers_l⟩⟩,v_copies,v_joined,v_boot,v_cursor,v_req,v_askTo,v_askReq,v_pingTo,v_pingReq,v_findTo,v_findReq,v_findID,⟨v_avoid_a,v_avoid_c,v_avoid_l⟩,v_hops,v_turn⟩,⟨vo_a,vo_c,vo_l⟩,rfl,ev,sv,okv,kv,lv⟩:=hv
             try simp only at ev sv kv lv
             refine ZA ?_
             iterate 3 refine XA ?_
             refine YW F.zero32 ?_;intro b20
             refine XW F.lay32 ?_
             iterate 2 refine ZC ?_
             refine Zu (Zr (Y_pk [15,13,2,1,0] ?_));refine ZJ (Zm (l:=[0,1,2,3,4,5,6,7,8,9]) rfl ?_);refine ZH F.lay32 ?_;refine X_fn rfl rfl F.ok11 rfl (Tick_ok M5 ⟨⟨⟨v_table_self_addr,v_table_self_id⟩,⟨v_table_pred_addr,v_table_pred_id⟩,⟨v_table_succ_a,v_table_succ_c,v_table_succ_l⟩,⟨v_table_fingers_a,v_table_fingers_c,v_table_fingers_l⟩⟩,v_copies,v_joined,v_boot,v_cursor,v_req,v_askTo,v_askReq,v_pingTo,v_pingReq,v_findTo,v_findReq,v_findID,⟨v_avoid_a,v_avoid_c,v_avoid_l⟩,v_hops,v_turn⟩ 1 okv) rfl ?_
             rintro _ M6 hm6 hv
             rw [show VC (ZP.nd ⟨⟨⟨v_table_self_addr,v_table_self_id⟩,⟨v_table_pred_addr,v_table_pred_id⟩,⟨v_table_succ_a,v_table_succ_c,v_table_succ_l⟩,⟨v_table_fingers_a,v_table_fingers_c,v_table_fingers_l⟩⟩,v_copies,v_joined,v_boot,v_cursor,v_req,v_askTo,v_askReq,v_pingTo,v_pingReq,v_findTo,v_findReq,v_findID,⟨v_avoid_a,v_avoid_c,v_avoid_l⟩,v_hops,v_turn⟩) 1=_ from (congrArg (fun n=>VC n 1) ev).trans nx6] at hv
             simp only [NtE] at hv
             obtain ⟨⟨⟨⟨u_table_self_addr,u_table_self_id⟩,⟨u_table_pred_addr,u_table_pred_id⟩,⟨u_table_succ_a,u_table_succ_c,u_table_succ_l⟩,⟨u_table_fingers_a,u_table_fingers_c,u_table_fingers_l⟩⟩,u_copies,u_joined,u_boot,u_cursor,u_req,u_askTo,u_askReq,u_pingTo,u_pingReq,u_findTo,u_findReq,u_findID,⟨u_avoid_a,u_avoid_c,u_avoid_l⟩,u_hops,u_turn⟩,⟨uo_a,uo_c,uo_l⟩,rfl,eu,su,oku,ku,lu⟩:=hv
             try simp only at eu su ku lu
             obtain ⟨⟨q_to,⟨q_kind,⟨q_frm_addr,q_frm_id⟩,q_req,q_id,⟨q_avoid_a,q_avoid_c,q_avoid_l⟩,q_done,⟨q_peer_addr,q_peer_id⟩,⟨q_peers_a,q_peers_c,q_peers_l⟩⟩⟩,rfl,hq⟩:=sndl_one su
             simp only [Yv.snd,ZQ.lt,nL3,Snd.mk.injEq,Lt.mk.injEq,ZD.mk.injEq] at hq
             obtain ⟨rfl,rfl,⟨rfl,rfl⟩,rfl,rfl,rfl,rfl,⟨rfl,rfl⟩,rfl⟩:=hq
             have s_uo:=ku.h1
             try simp only at s_uo
             refine ZA ?_
             iterate 3 refine XA ?_
             refine YW F.zero32 ?_;intro b21
             refine XW F.lay32 ?_
             iterate 2 refine ZC ?_
             refine Zu (Zr (Y_pk [18,17,15,13,2,1,0] ?_));refine ZJ (Zm (l:=[0,1,2,3,4,5,6,7]) rfl ?_);refine ZH F.lay25 ?_;refine X_fn rfl rfl F.ok23 rfl (Joining_ok M6 ⟨2,20#160⟩ 2 2) rfl ?_
             rintro _ M7 hm7 hv
             rw [nx7] at hv
             simp only [NeE] at hv
             obtain ⟨⟨⟨⟨j_table_self_addr,j_table_self_id⟩,⟨j_table_pred_addr,j_table_pred_id⟩,⟨j_table_succ_a,j_table_succ_c,j_table_succ_l⟩,⟨j_table_fingers_a,j_table_fingers_c,j_table_fingers_l⟩⟩,j_copies,j_joined,j_boot,j_cursor,j_req,j_askTo,j_askReq,j_pingTo,j_pingReq,j_findTo,j_findReq,j_findID,⟨j_avoid_a,j_avoid_c,j_avoid_l⟩,j_hops,j_turn⟩,rfl,ej,okj⟩:=hv
             try simp only at ej
             refine ZA ?_
             iterate 2 refine XA ?_
             refine YW F.zero32 ?_;intro b22
             refine XW F.lay32 ?_;refine ZC ?_;refine Zu (Zr (Y_pk [20,18,17,15,13,1,0] ?_));refine ZJ (YE (l:=[0,1,2,3,4,5,6,7,8,9,10,11,12,13,14,15,16,17,18,19,20,21,22,23,24,25,26,27,28,29,30,31,32,33,34,35,36,37,38]) #[0,1,3,7,15,31,63,127,255,511,127,2047,4095,8191,16383,32767,65535,131071,262143,524287,1048575,2097151,4194303,8388607,16777215,33554431,67108863,134217727,268435455,536870911,1073741823,2147483647,4294967295,8589934591,17179869183,34359738367,68719476735,137438953471,274877906943] _ rfl (by kernel_rfl) (by kernel_rfl) St.drawn (fun _ h=>h) ?_);refine ZA ?_;refine Yy ?_;refine ZA ?_
             refine Yj 137 rfl (fun hc23=>?_) (fun hc23=>?_)
             ·replace hc23:=dT hc23
              simp only [ZD.eta,ZS.eta,ZP.eta,ZQ.eta,Yv.eta,ZO.eta,YL.eta,ZW.eta] at hc23
              have hvj:v_joined=true:=(congrArg Nd.joined ev).trans nx8
              refine Zk F.foff32_2 ?_;refine ZH F.lay4 ?_;refine Vo 139 rfl (show _=Value.bool true from congrArg Value.bool hvj) ?_;refine ZN ?_;refine ZA ?_
              refine Yj 141 rfl (fun hc24=>?_) (fun hc24=>?_)
              ·skip
               simp only [ZD.eta,ZS.eta,ZP.eta,ZQ.eta,Yv.eta,ZO.eta,YL.eta,ZW.eta] at hc24
               refine Zk F.foff32_0 ?_;refine ZH F.lay28 ?_;refine X_fs rfl rfl F.ok41 rfl (First_ok _ ⟨⟨v_table_self_addr,v_table_self_id⟩,⟨v_table_pred_addr,v_table_pred_id⟩,⟨v_table_succ_a,v_table_succ_c,v_table_succ_l⟩,⟨v_table_fingers_a,v_table_fingers_c,v_table_fingers_l⟩⟩ (okv.h0.mono (by (repeat first|assumption|refine Mem.le.trans (by assumption) ?_)))) rfl ?_
               rintro _ hv
               have h9:XU (ZS.tb ⟨⟨v_table_self_addr,v_table_self_id⟩,⟨v_table_pred_addr,v_table_pred_id⟩,⟨v_table_succ_a,v_table_succ_c,v_table_succ_l⟩,⟨v_table_fingers_a,v_table_fingers_c,v_table_fingers_l⟩⟩)=⟨1,10#160⟩:=(congrArg (fun n:Nd=>XU n.table) ev).trans nx9
               rw [h9] at hv
               subst hv
               refine ZH F.lay25 ?_
               refine Wu (m:=20) rfl rfl rfl rfl rfl (by constructor) (by constructor) F.lay25 F.kinds25 rfl F.guard25 (by exact Xv _) (by exact Xv (⟨_,_⟩)) rfl rfl rfl ?_;intro c25 he26
               replace he26:c25=true↔Segs.cells _=Segs.cells _:=he26
               obtain rfl:=eqD he26 (ZD.inj (x:=⟨_,_⟩) (y:=⟨_,_⟩));clear he26
               refine ZN ?_;refine ZA ?_
               refine Yj 148 rfl (fun hc27=>?_) (fun hc27=>?_)
               ·replace hc27:=dT hc27
                simp only [ZD.eta,ZS.eta,ZP.eta,ZQ.eta,Yv.eta,ZO.eta,YL.eta,ZW.eta] at hc27
                refine ZA ?_;refine Yy ?_;refine ZN ?_;refine ZA ?_
                refine Yj 152 rfl (fun hc28=>?_) (fun hc28=>?_)
                ·replace hc28:=dT hc28
                 simp only [ZD.eta,ZS.eta,ZP.eta,ZQ.eta,Yv.eta,ZO.eta,YL.eta,ZW.eta] at hc28
                 refine ZA ?_;refine Xa F.elem35 ?_;refine Yy ?_;refine ZN ?_;refine ZA ?_
                 refine Yj 157 rfl (fun hc29=>?_) (fun hc29=>?_)
                 ·replace hc29:=dT hc29
                  refine ZA ?_;refine YO rfl rfl rfl rfl F.elem35 (by rfl) (by (simp;done)) (by exact SlM.plain (by assumption) (by (simp;done))) rfl ?_;refine Xf rfl rfl rfl (by exact SlM.plain (by assumption) (by (simp;done))) F.foff49_1 rfl ?_;refine Xf rfl rfl rfl (by exact SlM.plain (by assumption) (by (simp;done))) F.foff44_0 rfl ?_;refine Xx rfl rfl rfl (by exact SlM.mono (by assumption) (by assumption)) (by exact rfl) F.lay3 rfl rfl rfl ?_;refine Yy ?_;refine ZN ?_;refine ZA ?_
                  refine Yj 165 rfl (fun hc30=>?_) (fun hc30=>?_)
                  ·replace hc30:=dT hc30
                   simp only [ZD.eta,ZS.eta,ZP.eta,ZQ.eta,Yv.eta,ZO.eta,YL.eta,ZW.eta] at hc30
                   refine ZA ?_;refine Yy ?_;refine ZN ?_;refine ZA ?_
                   refine Yj 169 rfl (fun hc31=>?_) (fun hc31=>?_)
                   ·replace hc31:=dT hc31
                    simp only [ZD.eta,ZS.eta,ZP.eta,ZQ.eta,Yv.eta,ZO.eta,YL.eta,ZW.eta] at hc31
                    refine ZH F.lay32 ?_;refine X_fs rfl rfl F.ok27 rfl (IsN_ok _ ⟨⟨⟨v_table_self_addr,v_table_self_id⟩,⟨v_table_pred_addr,v_table_pred_id⟩,⟨v_table_succ_a,v_table_succ_c,v_table_succ_l⟩,⟨v_table_fingers_a,v_table_fingers_c,v_table_fingers_l⟩⟩,v_copies,v_joined,v_boot,v_cursor,v_req,v_askTo,v_askReq,v_pingTo,v_pingReq,v_findTo,v_findReq,v_findID,⟨v_avoid_a,v_avoid_c,v_avoid_l⟩,v_hops,v_turn⟩ (okv.mono (by (repeat first|assumption|refine Mem.le.trans (by assumption) ?_)))) rfl ?_
                    rintro _ hv
                    have h9:IsNd (ZP.nd ⟨⟨⟨v_table_self_addr,v_table_self_id⟩,⟨v_table_pred_addr,v_table_pred_id⟩,⟨v_table_succ_a,v_table_succ_c,v_table_succ_l⟩,⟨v_table_fingers_a,v_table_fingers_c,v_table_fingers_l⟩⟩,v_copies,v_joined,v_boot,v_cursor,v_req,v_askTo,v_askReq,v_pingTo,v_pingReq,v_findTo,v_findReq,v_findID,⟨v_avoid_a,v_avoid_c,v_avoid_l⟩,v_hops,v_turn⟩):=ev.symm ▸ nx10
                    rw [decide_eq_true h9] at hv
                    subst hv
                    refine ZN ?_;refine ZC ?_;refine Zu (Zr (Y_pk [0] ?_));refine Yu ?_
                    refine Yk (.inr rfl) (.tmp rfl .nil) (fun w hw=>?_)
                    exact ⟨_,_,rfl,(by (repeat first|assumption|refine Mem.le.trans (by assumption) ?_)),hw.c,rfl⟩
                   ·replace hc31:=dF hc31
                    simp only [ZD.eta,ZS.eta,ZP.eta,ZQ.eta,Yv.eta,ZO.eta,YL.eta,ZW.eta] at hc31
                    (exfalso;simp [eqX] at hc31;done)
                  ·replace hc30:=dF hc30
                   simp only [ZD.eta,ZS.eta,ZP.eta,ZQ.eta,Yv.eta,ZO.eta,YL.eta,ZW.eta] at hc30
                   (exfalso;simp [eqX] at hc30;done)
                 ·replace hc29:=dF hc29
                  (exfalso;simp [eqX] at hc29;done)
                ·replace hc28:=dF hc28
                 simp only [ZD.eta,ZS.eta,ZP.eta,ZQ.eta,Yv.eta,ZO.eta,YL.eta,ZW.eta] at hc28
                 (exfalso;simp [eqX] at hc28;done)
               ·replace hc27:=dF hc27
                simp only [ZD.eta,ZS.eta,ZP.eta,ZQ.eta,Yv.eta,ZO.eta,YL.eta,ZW.eta] at hc27
                (exfalso;simp [eqX] at hc27;done)
              ·skip
               (exfalso;simp [eqX] at hc24;done)
             ·replace hc23:=dF hc23
              simp only [ZD.eta,ZS.eta,ZP.eta,ZQ.eta,Yv.eta,ZO.eta,YL.eta,ZW.eta] at hc23
              (exfalso;simp [eqX] at hc23;done)
end Go.Proofs.YtajmnjefajknoaaGreat
namespace Go.Proofs.YtajmnjefajknoaaGreat
open Go.Esp
theorem F.ok13:okFn Tryz.prog 13=true:=by kernel_rfl
theorem F.ok14:okFn Tryz.prog 14=true:=by kernel_rfl
theorem F.ok16:okFn Tryz.prog 16=true:=by kernel_rfl
theorem F.ok9:okFn Tryz.prog 9=true:=by kernel_rfl
end Go.Proofs.YtajmnjefajknoaaGreat
namespace Go.Proofs.YtajmnjefajknoaaGreat
open Go.Esp
end Go.Proofs.YtajmnjefajknoaaGreat
namespace Go.Esp
def CandP (s:ZD) (id:Plc) (avoid:List Int) (p:ZD):Prop:=Vp s.id p.id id∧p.addr∉avoid
instance (s:ZD) (id:Plc) (avoid:List Int) (p:ZD):Decidable (CandP s id avoid p):=by unfold CandP;exact inferInstance
structure NearOk (s:ZD) (id:Plc) (avoid:List Int) (l:List ZD) (r:ZD×Bool):Prop where
  no:r.2=false→r.1=Xc∧∀ x∈l,¬CandP s id avoid x
  yes:r.2=true→r.1∈l∧CandP s id avoid r.1∧∀ x∈l,CandP s id avoid x→¬Vp r.1.id x.id id
theorem near_step {s:ZD} {id:Plc} {avoid:List Int} {l:List ZD} {r:ZD×Bool} {p:ZD} (h:NearOk s id avoid l r):NearOk s id avoid (l++[p]) (WT s id avoid r p):=by
  obtain ⟨b,f⟩:=r
  unfold WT
  by_cases hc:p.addr∈avoid∨¬Vp s.id p.id id
  · rw [if_pos hc]
    have hn:¬CandP s id avoid p:=fun h9=>hc.elim h9.2 (fun h8=>h8 h9.1)
    refine ⟨fun h1=>⟨(h.no h1).1,fun x hx=>?_⟩,fun h1=>⟨List.mem_append_left _ (h.yes h1).1,(h.yes h1).2.1,fun x hx hcx=>?_⟩⟩
    · rcases List.mem_append.1 hx with hx|hx
      · exact (h.no h1).2 x hx
      · rw [List.mem_singleton.1 hx];exact hn
    · rcases List.mem_append.1 hx with hx|hx
      · exact (h.yes h1).2.2 x hx hcx
      · rw [List.mem_singleton.1 hx] at hcx;exact (hn hcx).elim
  · rw [if_neg hc]
    have hp:CandP s id avoid p:=⟨Decidable.byContradiction fun h9=>hc (.inr h9),fun h9=>hc (.inl h9)⟩
    by_cases hd:f=false∨Vp b.id p.id id
    · rw [if_pos (show (b,f).2=false∨Vp (b,f).1.id p.id id from hd)]
      refine ⟨fun h1=>(by cases h1),fun _=>⟨List.mem_append_right _ (List.mem_singleton.2 rfl),hp,fun x hx hcx ho=>?_⟩⟩
      rcases List.mem_append.1 hx with hx|hx
      · cases f with
        | false=>exact (h.no rfl).2 x hx hcx
        | true =>
          have hb:=h.yes rfl
          have ho2:Vp b.id p.id id:=hd.resolve_left (by simp)
          have h1:=(open_less hb.2.1.1 hp.1).1 ho2
          have h2:=(open_less hp.1 hcx.1).1 ho
          exact hb.2.2 x hx hcx ((open_less hb.2.1.1 hcx.1).2 (Nat.lt_trans h1 h2))
      · rw [List.mem_singleton.1 hx] at ho;exact ho.1 rfl
    · rw [if_neg (show ¬((b,f).2=false∨Vp (b,f).1.id p.id id) from hd)]
      refine ⟨fun h1=>(hd (.inl h1)).elim,fun h1=>⟨List.mem_append_left _ (h.yes h1).1,(h.yes h1).2.1,fun x hx hcx=>?_⟩⟩
      rcases List.mem_append.1 hx with hx|hx
      · exact (h.yes h1).2.2 x hx hcx
      · rw [List.mem_singleton.1 hx];exact fun h9=>hd (.inr h9)
theorem near_fold {s:ZD} {id:Plc} {avoid:List Int}:∀ {xs l:List ZD} {r:ZD×Bool},NearOk s id avoid l r→NearOk s id avoid (l++xs) (xs.foldl (WT s id avoid) r)
  | [],l,r,h=>by rw [List.append_nil];exact h
  | p::xs,l,r,h=>by
    have:=near_fold (xs:=xs) (near_step (p:=p) h)
    rw [List.append_assoc] at this
    exact this
theorem near_ok {t:Tb} {id:Plc} {avoid:List Int}:NearOk t.self id avoid (knownT t) (Wb t id avoid) :=
  near_fold (l:=[]) ⟨fun _=>⟨rfl,by simp⟩,fun h=>by cases h⟩
end Go.Esp
namespace Go.Esp
def FairS (p:ZD) (s:Snd):Prop:=IsLt s.letter∧s.letter.frm=p∧YR s.to∧s.to≠p.addr
def StayN (n:Nd) (r:Nd×List Snd):Prop:=IsNd r.1∧r.1.table.self=n.table.self∧(∀ s∈r.2,FairS n.table.self s)∧r.2.length≤1
theorem known_step {s:ZD}:∀ {xs out:List ZD},(∀ p∈xs,MaybeP s p)→(∀ p∈out,Xh s p)→∀ p∈xs.foldl (knownStep s) out,Xh s p
  | [],out,_,h2=>h2
  | q::xs,out,h1,h2=>by
    refine known_step (xs:=xs) (fun p hp=>h1 p (.tail _ hp)) (fun p hp=>?_)
    unfold knownStep at hp
    split at hp
    · exact h2 p hp
    · rename_i hc
      have hq:Xh s q:=(h1 q (.head _)).resolve_left (fun e=>hc (.inl (by rw [e];decide)))
      have hm:∀ {l:List ZD} {x:ZD},x∈insP q l→x=q∨x∈l:=by
        intro l
        induction l with
        | nil=>intro x hx;exact .inl (List.mem_singleton.1 hx)
        | cons a l ih =>
          intro x hx
          unfold insP at hx
          split at hx
          · rcases List.mem_cons.1 hx with rfl|hx
            · exact .inr (.head _)
            · exact (ih hx).imp id (.tail _)
          · exact (List.mem_cons.1 hx).imp id id
      rcases hm hp with rfl|hp
      · exact hq
      · exact h2 p hp
theorem known_other {t:Tb} (h:IsTb t):∀ p∈knownT t,Xh t.self p :=
  known_step (fun p hp=>by
    rcases List.mem_cons.1 hp with rfl|hp
    · exact h.2.1
    · rcases List.mem_append.1 hp with hp|hp
      · exact .inr (h.2.2.2.2.1.1 p hp)
      · exact h.2.2.2.2.2 p hp) (fun p hp=>by cases hp)
theorem near_other {t:Tb} {id:Plc} {av:List Int} (h:IsTb t) (hn:(Wb t id av).2=true):Xh t.self (Wb t id av).1 :=
  known_other h _ ((near_ok (t:=t) (id:=id) (avoid:=av)).yes hn).1
theorem take_ans {n:Nd} {l:Lt} {r:Nd×List Snd×Int} (h:l.kind=1∨l.kind=3∨l.kind=6) (ha:l.frm.addr≠n.table.self.addr) (hi:l.frm.id≠n.table.self.id) (hr:Vw n l=r) (h0:r.2.2=0) :
    r.1=n∧(n.joined=false∧l.kind≠6→r.2.1=[])∧(n.joined=true∨l.kind=6→∃ s,r.2.1=[s]∧s.to=l.frm.addr∧s.letter.req=l.req ∧
      (l.kind=1→s.letter.kind=2∧((WU n.table l.id).2=true→s.letter.done=true∧s.letter.peer=(WU n.table l.id).1)∧(s.letter.done=true∨s.letter.peer≠n.table.self)) ∧
      (l.kind=3→s.letter.kind=4∧s.letter.peer=n.table.pred∧s.letter.peers=n.table.succ)∧(l.kind=6→s.letter.kind=7)):=by
  subst hr
  by_cases h1:IsNd n∧IsLt l
  · have hf:Xh n.table.self l.frm:=⟨h1.2.2.1,ha,hi⟩
    rw [take_does h1.1 h1.2 hf]
    rcases h with k|k|k
    · rw [does1 k]
      refine ⟨rfl,fun q=>find_no q.1,fun q=>?_⟩
      have hj:n.joined=true:=q.resolve_right (by rw [k];decide)
      refine ⟨_,find_yes hj rfl rfl,rfl,rfl,fun _=>⟨rfl,fun hd=>?_,?_⟩,fun k3=>absurd (k.symm.trans k3) (by decide),fun k3=>absurd (k.symm.trans k3) (by decide)⟩
      · simp only [hd,Bool.true_or,if_true,and_self]
      · cases hd:(WU n.table l.id).2 with
        | true=>exact .inl (by simp)
        | false =>
          cases hq:(Wb n.table l.id l.avoid).2 with
          | false=>exact .inl (by simp)
          | true =>
            refine .inr ?_
            simp only [Bool.not_true,Bool.or_false,Bool.false_eq_true,if_false]
            exact fun e=>(near_other h1.1.1 hq).2.1 (congrArg ZD.addr e)
    · cases hj:n.joined with
      | false =>
        rw [does3n k hj]
        exact ⟨rfl,fun _=>rfl,fun q=>absurd (q.resolve_left (by decide)) (by rw [k];decide)⟩
      | true =>
        rw [does3y k hj]
        exact ⟨rfl,fun q=>absurd q.1 (by decide),fun _=>⟨_,rfl,rfl,rfl,fun k3=>absurd (k.symm.trans k3) (by decide),fun _=>⟨rfl,rfl,rfl⟩,fun k3=>absurd (k.symm.trans k3) (by decide)⟩⟩
    · rw [does6 k]
      exact ⟨rfl,fun q=>absurd k q.2,fun _=>⟨_,rfl,rfl,rfl,fun k3=>absurd (k.symm.trans k3) (by decide),fun k3=>absurd (k.symm.trans k3) (by decide),fun _=>rfl⟩⟩
  · rw [WL h1] at h0
    exact absurd h0 (by decide)
end Go.Esp
namespace Go.Proofs.YtajmnjefajknoaaGreat
open Go.Esp
end Go.Proofs.YtajmnjefajknoaaGreat
namespace Go.Proofs.YtajmnjefajknoaaGreat
open Go.Esp
end Go.Proofs.YtajmnjefajknoaaGreat
namespace Go.Proofs.YtajmnjefajknoaaGreat
open Go.Esp
theorem lawAnswers_ok (M:Mem) (n:ZP) (l:ZQ) (hn0:ZP.ok M n) (hl1:ZQ.ok M l):Esp.Fn Tryz.prog 6 [n.enc,l.enc] M (fun _ v=>v=.bool true):=by
  obtain ⟨⟨⟨Za,Zc⟩,⟨Zf,Zh⟩,⟨Zj,Zi,Zg⟩,⟨Ze,Zd,Zb⟩⟩,Zt,Zs,ZF,Zz,ZM,ZB,Zx,Zv,Zo,Zy,Zn,Zw,⟨Zq,Zp,Zl⟩,ZE,ZG⟩:=n
  obtain ⟨ZZ,⟨ZT,Yr⟩,YM,l_id,⟨Ye,Yd,ZR⟩,YF,⟨ZL,ZV⟩,⟨Yc,ZY,ZK⟩⟩:=l
  have Ym:ZS.ok M ⟨⟨Za,Zc⟩,⟨Zf,Zh⟩,⟨Zj,Zi,Zg⟩,⟨Ze,Zd,Zb⟩⟩:=hn0.h0
  have Xb:SlK M ZD.segs 21 ⟨Zj,Zi,Zg⟩:=hn0.h0.h0
  have s_n_table_succ:SlM M Zj (Zg.map ZD.segs) 21:=Xb.h1
  have n_n_table_succ:(Zg.map ZD.segs).length=Zg.length:=List.length_map ..
  have m_n_table_succ:Zg.length≤9223372036854775807:=Xb.h2
  have c_n_table_succ:Zg.length≤Zi:=Xb.h3
  have YN:SlK M ZD.segs 21 ⟨Ze,Zd,Zb⟩:=hn0.h0.h1
  have s_n_table_fingers:SlM M Ze (Zb.map ZD.segs) 21:=YN.h1
  have n_n_table_fingers:(Zb.map ZD.segs).length=Zb.length:=List.length_map ..
  have m_n_table_fingers:Zb.length≤9223372036854775807:=YN.h2
  have c_n_table_fingers:Zb.length≤Zd:=YN.h3
  have Yq:SlK M (oneI .i64) 1 ⟨Zq,Zp,Zl⟩:=hn0.h1
  have s_n_avoid:SlM M Zq (Zl.map (oneI .i64)) 1:=Yq.h1
  have n_n_avoid:(Zl.map (oneI .i64)).length=Zl.length:=List.length_map ..
  have m_n_avoid:Zl.length≤9223372036854775807:=Yq.h2
  have c_n_avoid:Zl.length≤Zp:=Yq.h3
  have Xk:SlK M (oneI .i64) 1 ⟨Ye,Yd,ZR⟩:=hl1.h0
  have s_l_avoid:SlM M Ye (ZR.map (oneI .i64)) 1:=Xk.h1
  have n_l_avoid:(ZR.map (oneI .i64)).length=ZR.length:=List.length_map ..
  have m_l_avoid:ZR.length≤9223372036854775807:=Xk.h2
  have c_l_avoid:ZR.length≤Yd:=Xk.h3
  have YZ:SlK M ZD.segs 21 ⟨Yc,ZY,ZK⟩:=hl1.h1
  have XI:SlM M Yc (ZK.map ZD.segs) 21:=YZ.h1
  have Wx:(ZK.map ZD.segs).length=ZK.length:=List.length_map ..
  have m_l_peers:ZK.length≤9223372036854775807:=YZ.h2
  have Wy:ZK.length≤ZY:=YZ.h3
  obtain ⟨⟨T1,T2,T3⟩,hT⟩:∃ x,Vw (ZP.nd ⟨⟨⟨Za,Zc⟩,⟨Zf,Zh⟩,⟨Zj,Zi,Zg⟩,⟨Ze,Zd,Zb⟩⟩,Zt,Zs,ZF,Zz,ZM,ZB,Zx,Zv,Zo,Zy,Zn,Zw,⟨Zq,Zp,Zl⟩,ZE,ZG⟩) (ZQ.lt ⟨ZZ,⟨ZT,Yr⟩,YM,l_id,⟨Ye,Yd,ZR⟩,YF,⟨ZL,ZV⟩,⟨Yc,ZY,ZK⟩⟩)=x:=⟨_,rfl⟩
  refine WH Tryz.func6 rfl Tryz.ntmps6 rfl ?_;intro H
  refine ZJ (Zm (l:=[0,1,2]) rfl ?_)
  refine Xi ?_;intro b1
  refine Xi ?_;intro b2
  refine ZC ?_;refine Zu (Zr (Y_pk [4,3,2] ?_))
  iterate 2 refine ZJ ?_
  refine Zm (l:=[0,1,2,3,4,5]) rfl ?_;refine ZH F.lay32 ?_;refine X_fs rfl rfl F.ok9 rfl (BigN_ok _ ⟨⟨⟨Za,Zc⟩,⟨Zf,Zh⟩,⟨Zj,Zi,Zg⟩,⟨Ze,Zd,Zb⟩⟩,Zt,Zs,ZF,Zz,ZM,ZB,Zx,Zv,Zo,Zy,Zn,Zw,⟨Zq,Zp,Zl⟩,ZE,ZG⟩ hn0) rfl ?_
  rintro _ ⟨bi,rfl,hbi⟩
  refine ZA ?_
  refine Yj 17 rfl (fun hc3=>?_) (fun hc3=>?_)
  ·skip
   iterate 2 refine Ya ?_
   refine ZN ?_;refine Zu (Zr (Y_pk [20,4,3,2] ?_));refine Xm rfl ?_;refine ZJ (Zm (l:=[0]) rfl ?_);refine ZC ?_;refine Zu (Zr (Y_pk [4,3,2] ?_));refine Yu (YS ?_)
   refine Yk (.inr rfl) (.tmp rfl .nil) (fun w hw=>?_)
   refine ⟨_,_,rfl,(by exact Mem.le.refl _),hw.c,?_⟩
   clear hw
   rfl
  ·skip
   refine ZH F.lay44 ?_;refine X_fs rfl rfl F.ok16 rfl (BigL_ok _ ⟨ZZ,⟨ZT,Yr⟩,YM,l_id,⟨Ye,Yd,ZR⟩,YF,⟨ZL,ZV⟩,⟨Yc,ZY,ZK⟩⟩ hl1) rfl ?_
   rintro _ ⟨bj,rfl,hbj⟩
   refine ZN ?_;refine Zu (Zr (Y_pk [20,4,3,2] ?_))
   refine Yz rfl (fun hc4=>?_) (fun hc4=>?_)
   ·skip
    refine ZJ (Zm (l:=[0]) rfl ?_);refine ZC ?_;refine Zu (Zr (Y_pk [4,3,2] ?_));refine Yu (YS ?_)
    refine Yk (.inr rfl) (.tmp rfl .nil) (fun w hw=>?_)
    refine ⟨_,_,rfl,(by exact Mem.le.refl _),hw.c,?_⟩
    clear hw
    rfl
   ·skip
    refine YB (Zr (Y_pk [4,3,2] ?_));refine ZJ ?_
    obtain ⟨⟨hb1,hb2⟩,hb3⟩:=hbi (by assumption)
    try simp only at hb1 hb2 hb3
    refine Zm (l:=[0,1,2,3,4,5,6,7,8,9,10]) rfl ?_;refine ZH F.lay32 ?_;refine ZH F.lay44 ?_;refine X_fn rfl rfl F.ok17 rfl (Take_ok _ ⟨⟨⟨Za,Zc⟩,⟨Zf,Zh⟩,⟨Zj,Zi,Zg⟩,⟨Ze,Zd,Zb⟩⟩,Zt,Zs,ZF,Zz,ZM,ZB,Zx,Zv,Zo,Zy,Zn,Zw,⟨Zq,Zp,Zl⟩,ZE,ZG⟩ ⟨ZZ,⟨ZT,Yr⟩,YM,l_id,⟨Ye,Yd,ZR⟩,YF,⟨ZL,ZV⟩,⟨Yc,ZY,ZK⟩⟩ (hn0.mono (by exact Mem.le.refl _)) (hl1.mono (by exact Mem.le.refl _))) rfl ?_
    rintro _ M1 hm1 hv
    rw [hT] at hv
    simp only [NtE] at hv
    obtain ⟨⟨⟨⟨a_table_self_addr,a_table_self_id⟩,⟨a_table_pred_addr,a_table_pred_id⟩,⟨a_table_succ_a,a_table_succ_c,XZ⟩,⟨a_table_fingers_a,a_table_fingers_c,XN⟩⟩,a_copies,a_joined,a_boot,a_cursor,a_req,a_askTo,a_askReq,a_pingTo,a_pingReq,a_findTo,a_findReq,a_findID,⟨a_avoid_a,a_avoid_c,a_avoid_l⟩,a_hops,a_turn⟩,⟨a_a,a_c,a_l⟩,rfl,ea,sa,oka,ka,la⟩:=hv
    try simp only at ea sa ka la
    refine ZA ?_
    iterate 3 refine XA ?_
    refine YW F.zero32 ?_;intro b5
    refine XW F.lay32 ?_
    iterate 2 refine ZC ?_
    refine Zu (Zr (Y_pk [7,6,5,4,3,2] ?_));refine ZJ ?_;refine C_cutX (α:=Bool) (fun b:Bool=>[(8,.bool b)]) (fun b:Bool=>(b=true↔(ZZ=1∨ZZ=3∨ZZ=6))) (.cons (k:=7) rfl (.cons (k:=6) rfl (.cons (k:=5) rfl (.cons (k:=4) rfl (.cons (k:=3) rfl (.cons (k:=2) rfl .nil)))))) ?_ ?_
    ·skip
     refine Zm (l:=[0,1,2,3,4,5,6,7,8,9,10,11,12,13]) rfl ?_;refine Zk F.foff44_0 ?_;refine ZH F.lay3 ?_;refine Yy ?_;refine ZA ?_
     refine Yj 31 rfl (fun hc6=>?_) (fun hc6=>?_)
     ·replace hc6:=dT hc6
      iterate 3 refine Ya ?_
      refine ZN ?_;refine ZA ?_
      iterate 3 refine Ya ?_
      refine ZN ?_;refine ZC ?_;refine Zu ?_
      exact Vh (_) ((by constructor <;> intro h9 <;> first|omega|rfl|contradiction|(exfalso;omega)|(simp_all;done)|(simp_all;omega)|(simp only [decide_eq_true_eq] at h9 ⊢;omega))) (.cons (k:=8) rfl (.cons (k:=7) rfl (.cons (k:=6) rfl (.cons (k:=5) rfl (.cons (k:=4) rfl (.cons (k:=3) rfl (.cons (k:=2) rfl .nil))))))) (fun w hw=>by first|exact hw|exact hw.c)
     ·replace hc6:=dF hc6
      refine Zk F.foff44_0 ?_;refine ZH F.lay3 ?_;refine Yy ?_;refine ZN ?_;refine ZA ?_
      refine Yj 36 rfl (fun hc7=>?_) (fun hc7=>?_)
      ·replace hc7:=dT hc7
       iterate 3 refine Ya ?_
       refine ZN ?_;refine ZC ?_;refine Zu ?_
       exact Vh (_) ((by constructor <;> intro h9 <;> first|omega|rfl|contradiction|(exfalso;omega)|(simp_all;done)|(simp_all;omega)|(simp only [decide_eq_true_eq] at h9 ⊢;omega))) (.cons (k:=8) rfl (.cons (k:=7) rfl (.cons (k:=6) rfl (.cons (k:=5) rfl (.cons (k:=4) rfl (.cons (k:=3) rfl (.cons (k:=2) rfl .nil))))))) (fun w hw=>by first|exact hw|exact hw.c)
      ·replace hc7:=dF hc7
       refine Zk F.foff44_0 ?_;refine ZH F.lay3 ?_;refine Yy ?_;refine ZN ?_;refine ZC ?_;refine Zu ?_
       exact Vh (_) ((by constructor <;> intro h9 <;> first|omega|rfl|contradiction|(exfalso;omega)|(simp_all;done)|(simp_all;omega)|(simp only [decide_eq_true_eq] at h9 ⊢;omega))) (.cons (k:=8) rfl (.cons (k:=7) rfl (.cons (k:=6) rfl (.cons (k:=5) rfl (.cons (k:=4) rfl (.cons (k:=3) rfl (.cons (k:=2) rfl .nil))))))) (fun w hw=>by first|exact hw|exact hw.c)
    ·rintro b8 hb8
     iterate 2 refine ZJ ?_
     refine Zm (l:=[0,1,2,3,4,5,6,7,8,9,10,11,12,13,14,15,16,17,18,19,20,21,22,23,24,25]) rfl ?_;refine ZA ?_;refine Yy ?_;refine ZA ?_
     refine Yj 43 rfl (fun hc8=>?_) (fun hc8=>?_)
     ·replace hc8:=nT hc8
      iterate 2 refine Ya ?_
      refine ZN ?_;refine ZA ?_
      iterate 8 refine Ya ?_
      refine ZN ?_;refine ZA ?_
      iterate 8 refine Ya ?_
      refine ZN ?_;refine Zu (Zr (Y_pk [66,6,5,4,3,2] ?_));refine Xm rfl ?_;refine ZJ (Zm (l:=[0,1]) rfl ?_);refine X_fn rfl rfl F.ok13 rfl (Va _) rfl ?_
      rintro _ M99 hm99 rfl
      refine ZC ?_;refine Zu (Zr (Y_pk [4,6,5,3,2] ?_));refine Yu (YS ?_)
      refine Yk (.inr rfl) (.tmp rfl .nil) (fun w hw=>?_)
      refine ⟨_,_,rfl,(by exact hm1.trans hm99),hw.c,?_⟩
      clear hw
      rfl
     ·replace hc8:=nF hc8
      refine ZA ?_;refine Xw ?_;refine ZN ?_;refine ZA ?_
      refine Yj 47 rfl (fun hc9=>?_) (fun hc9=>?_)
      ·skip
       iterate 8 refine Ya ?_
       refine ZN ?_;refine ZA ?_
       iterate 8 refine Ya ?_
       refine ZN ?_;refine Zu (Zr (Y_pk [66,6,5,4,3,2] ?_));refine Xm rfl ?_;refine ZJ (Zm (l:=[0,1]) rfl ?_);refine X_fn rfl rfl F.ok13 rfl (Va _) rfl ?_
       rintro _ M99 hm99 rfl
       refine ZC ?_;refine Zu (Zr (Y_pk [4,6,5,3,2] ?_));refine Yu (YS ?_)
       refine Yk (.inr rfl) (.tmp rfl .nil) (fun w hw=>?_)
       refine ⟨_,_,rfl,(by exact hm1.trans hm99),hw.c,?_⟩
       clear hw
       rfl
      ·skip
       refine Zk F.foff44_1 ?_;refine Zk F.foff25_0 ?_;refine ZH F.lay3 ?_;refine Zk F.foff32_0 ?_;refine Zk F.foff28_0 ?_;refine Zk F.foff25_0 ?_;refine ZH F.lay3 ?_;refine Yy ?_;refine ZN ?_;refine ZA ?_
       refine Yj 57 rfl (fun hc10=>?_) (fun hc10=>?_)
       ·replace hc10:=dT hc10
        iterate 8 refine Ya ?_
        refine ZN ?_;refine Zu (Zr (Y_pk [66,6,5,4,3,2] ?_));refine Xm rfl ?_;refine ZJ (Zm (l:=[0,1]) rfl ?_);refine X_fn rfl rfl F.ok13 rfl (Va _) rfl ?_
        rintro _ M99 hm99 rfl
        refine ZC ?_;refine Zu (Zr (Y_pk [4,6,5,3,2] ?_));refine Yu (YS ?_)
        refine Yk (.inr rfl) (.tmp rfl .nil) (fun w hw=>?_)
        refine ⟨_,_,rfl,(by exact hm1.trans hm99),hw.c,?_⟩
        clear hw
        rfl
       ·replace hc10:=dF hc10
        refine Zk F.foff44_1 ?_;refine Zk F.foff25_1 ?_;refine ZH F.lay23 ?_;refine Zk F.foff32_0 ?_;refine Zk F.foff28_0 ?_;refine Zk F.foff25_1 ?_;refine ZH F.lay23 ?_
        refine Wu (m:=20) rfl rfl rfl rfl rfl (by constructor) (by constructor) F.lay23 F.kinds23 rfl F.guard23 (Ve WI) (Ve WI) rfl rfl rfl ?_;intro c11 he12
        replace he12:c11=true↔Segs.cells _=Segs.cells _:=he12
        obtain rfl:=eqD he12 (cells_id1 (x:=_) (y:=_));clear he12
        refine ZN ?_;refine Zu (Zr (Y_pk [66,6,5,4,3,2] ?_))
        refine Yz rfl (fun hc13=>?_) (fun hc13=>?_)
        ·replace hc13:=dT hc13
         refine ZJ (Zm (l:=[0,1]) rfl ?_);refine X_fn rfl rfl F.ok13 rfl (Va _) rfl ?_
         rintro _ M99 hm99 rfl
         refine ZC ?_;refine Zu (Zr (Y_pk [4,6,5,3,2] ?_));refine Yu (YS ?_)
         refine Yk (.inr rfl) (.tmp rfl .nil) (fun w hw=>?_)
         refine ⟨_,_,rfl,(by exact hm1.trans hm99),hw.c,?_⟩
         clear hw
         rfl
        ·replace hc13:=dF hc13
         refine YB (Zr (Y_pk [6,5,4,3,2] ?_))
         iterate 2 refine ZJ ?_
         have hk3:(ZZ=1∨ZZ=3∨ZZ=6):=hb8.1 (by (simp_all;done))
         obtain ⟨hz1,hz2,hz3⟩:=take_ans (n:=(ZP.nd ⟨⟨⟨Za,Zc⟩,⟨Zf,Zh⟩,⟨Zj,Zi,Zg⟩,⟨Ze,Zd,Zb⟩⟩,Zt,Zs,ZF,Zz,ZM,ZB,Zx,Zv,Zo,Zy,Zn,Zw,⟨Zq,Zp,Zl⟩,ZE,ZG⟩)) (l:=(ZQ.lt ⟨ZZ,⟨ZT,Yr⟩,YM,l_id,⟨Ye,Yd,ZR⟩,YF,⟨ZL,ZV⟩,⟨Yc,ZY,ZK⟩⟩)) hk3 (show ZT≠Za by assumption) (show Yr≠Zc by assumption) hT (show T3=0 by first|assumption|omega)
         replace hz2:Zs=false∧ZZ≠6→T2=[]:=hz2
         refine Zm (l:=[0,1,2,3]) rfl ?_
         iterate 2 refine ZH F.lay32 ?_
         refine X_fs rfl rfl F.ok14 rfl (SameN_ok _ ⟨⟨⟨a_table_self_addr,a_table_self_id⟩,⟨a_table_pred_addr,a_table_pred_id⟩,⟨a_table_succ_a,a_table_succ_c,XZ⟩,⟨a_table_fingers_a,a_table_fingers_c,XN⟩⟩,a_copies,a_joined,a_boot,a_cursor,a_req,a_askTo,a_askReq,a_pingTo,a_pingReq,a_findTo,a_findReq,a_findID,⟨a_avoid_a,a_avoid_c,a_avoid_l⟩,a_hops,a_turn⟩ ⟨⟨⟨Za,Zc⟩,⟨Zf,Zh⟩,⟨Zj,Zi,Zg⟩,⟨Ze,Zd,Zb⟩⟩,Zt,Zs,ZF,Zz,ZM,ZB,Zx,Zv,Zo,Zy,Zn,Zw,⟨Zq,Zp,Zl⟩,ZE,ZG⟩ (oka.mono (by exact Mem.le.refl _)) (hn0.mono (by assumption))) rfl ?_
         rintro _ hv
         rw [decide_eq_true (show ZP.nd ⟨⟨⟨a_table_self_addr,a_table_self_id⟩,⟨a_table_pred_addr,a_table_pred_id⟩,⟨a_table_succ_a,a_table_succ_c,XZ⟩,⟨a_table_fingers_a,a_table_fingers_c,XN⟩⟩,a_copies,a_joined,a_boot,a_cursor,a_req,a_askTo,a_askReq,a_pingTo,a_pingReq,a_findTo,a_findReq,a_findID,⟨a_avoid_a,a_avoid_c,a_avoid_l⟩,a_hops,a_turn⟩=ZP.nd ⟨⟨⟨Za,Zc⟩,⟨Zf,Zh⟩,⟨Zj,Zi,Zg⟩,⟨Ze,Zd,Zb⟩⟩,Zt,Zs,ZF,Zz,ZM,ZB,Zx,Zv,Zo,Zy,Zn,Zw,⟨Zq,Zp,Zl⟩,ZE,ZG⟩ from ea.trans hz1)] at hv
         subst hv
         refine Xw ?_;refine Zu (Zr (Y_pk [71,6,4,3,2] ?_))
         refine Yz rfl (fun hc14=>?_) (fun hc14=>?_)
         ·skip
          (exfalso;first|contradiction|(rcases hk3 with q|q|q <;> contradiction)|omega)
         ·skip
          refine YB (Zr (Y_pk [6,4,3,2] ?_))
          iterate 2 refine ZJ ?_
          refine Zm (l:=[0,1,2,3,4,5,6,7]) rfl ?_;refine Zk F.foff32_2 ?_;refine ZH F.lay4 ?_;refine Xw ?_;refine ZA ?_
          refine Yj 75 rfl (fun hc15=>?_) (fun hc15=>?_)
          ·skip
           refine Zk F.foff44_0 ?_;refine ZH F.lay3 ?_;refine Yy ?_;refine ZN ?_;refine Zu (Zr (Y_pk [79,6,4,3,2] ?_))
           refine Yz rfl (fun hc16=>?_) (fun hc16=>?_)
           ·replace hc16:=nT hc16
            refine ZJ ?_
            have hla:a_l.length=0:=by rw [← sndl_len,sa,hz2 ⟨by first|assumption|(simp_all;done),by first|assumption|omega⟩];rfl
            refine Zm (l:=[0,1,2,3,4,5,6]) rfl ?_;refine X_fn rfl rfl F.ok13 rfl (Va _) rfl ?_
            rintro _ M99 hm99 rfl
            refine ZA ?_
            refine Yj 81 rfl (fun hc17=>?_) (fun hc17=>?_)
            ·skip
             simp only [ZD.eta,ZS.eta,ZP.eta,ZQ.eta,Yv.eta,ZO.eta,YL.eta,ZW.eta] at hc17
             refine ZA ?_;refine Xa F.elem35 ?_;refine Yy ?_;refine ZN ?_;refine ZC ?_;refine Zu (Zr (Y_pk [4,6,3,2] ?_));refine Yu (YS ?_)
             refine Yk (.inr rfl) (.tmp rfl .nil) (fun w hw=>?_)
             refine ⟨_,_,rfl,(by exact hm1.trans hm99),hw.c,?_⟩
             clear hw
             exact congrArg Value.bool (decide_eq_true (by omega))
            ·skip
             (exfalso;first|contradiction|(rcases hk3 with q|q|q <;> contradiction)|omega)
           ·replace hc16:=nF hc16
            refine YB (Zr (Y_pk [6,4,3,2] ?_))
            iterate 2 refine ZJ ?_
            obtain ⟨s9,hs9,g1,g2,g3,g4,g5⟩:=hz3 (show Zs=true∨ZZ=6 by first|exact .inl (by assumption)|exact .inr (by assumption)|exact .inr (by omega)|exact .inl (by simp_all))
            obtain ⟨⟨y_to,⟨y_kind,⟨y_frm_addr,y_frm_id⟩,y_req,y_id,⟨y_avoid_a,y_avoid_c,y_avoid_l⟩,y_done,⟨y_peer_addr,y_peer_id⟩,⟨y_peers_a,y_peers_c,y_peers_l⟩⟩⟩,rfl,hy9⟩:=sndl_one (sa.trans hs9)
            subst hy9
            replace g1:y_to=ZT:=g1
            replace g2:y_req=YM:=g2
            obtain ⟨⟨⟨da,di⟩,db⟩,hd⟩:∃ x,WU (ZS.tb ⟨⟨Za,Zc⟩,⟨Zf,Zh⟩,⟨Zj,Zi,Zg⟩,⟨Ze,Zd,Zb⟩⟩) l_id=x:=⟨_,rfl⟩
            replace g3:ZZ=1→y_kind=2∧((WU (ZS.tb ⟨⟨Za,Zc⟩,⟨Zf,Zh⟩,⟨Zj,Zi,Zg⟩,⟨Ze,Zd,Zb⟩⟩) l_id).2=true→y_done=true∧(⟨y_peer_addr,y_peer_id⟩:ZD)=(WU (ZS.tb ⟨⟨Za,Zc⟩,⟨Zf,Zh⟩,⟨Zj,Zi,Zg⟩,⟨Ze,Zd,Zb⟩⟩) l_id).1)∧(y_done=true∨(⟨y_peer_addr,y_peer_id⟩:ZD)≠⟨Za,Zc⟩):=g3
            rw [hd] at g3
            simp only at g3
            replace g4:ZZ=3→y_kind=4∧(⟨y_peer_addr,y_peer_id⟩:ZD)=⟨Zf,Zh⟩∧y_peers_l=Zg:=g4
            replace g5:ZZ=6→y_kind=7:=g5
            have s_y:=ka.h1
            have ky:=(la _ (List.Mem.head _)).h0
            have n_y:([⟨y_to,⟨y_kind,⟨y_frm_addr,y_frm_id⟩,y_req,y_id,⟨y_avoid_a,y_avoid_c,y_avoid_l⟩,y_done,⟨y_peer_addr,y_peer_id⟩,⟨y_peers_a,y_peers_c,y_peers_l⟩⟩⟩].map Yv.segs).length=1:=rfl
            refine YE (l:=[0,1,2,3,4,5,6,7,8,9,10,11,12,13,14,15,16,17,18,19,20,21,22]) #[0,1,3,7,15,31,63,127,15,271,783,2047,4095,8191,16383,32767,65535,131071,262143,16383,540671,2097151,4194303] _ rfl (by kernel_rfl) (by kernel_rfl) St.drawn (fun _ h=>h) ?_;refine ZA ?_;refine Xa F.elem35 ?_;refine Yy ?_;refine ZA ?_
            refine Yj 89 rfl (fun hc18=>?_) (fun hc18=>?_)
            ·replace hc18:=nT hc18
             (exfalso;first|contradiction|(rcases hk3 with q|q|q <;> contradiction)|omega)
            ·replace hc18:=nF hc18
             refine ZA ?_;refine YO rfl rfl rfl rfl F.elem35 (by rfl) (by (simp;done)) (by exact SlM.plain (by assumption) (by (simp;done))) rfl ?_;refine Xf rfl rfl rfl (by exact SlM.plain (by assumption) (by (simp;done))) F.foff49_0 rfl ?_;refine Xx rfl rfl rfl (by assumption) (by exact rfl) F.lay3 rfl rfl rfl ?_;refine Zk F.foff44_1 ?_;refine Zk F.foff25_0 ?_;refine ZH F.lay3 ?_;refine Yy ?_;refine ZN ?_;refine ZA ?_
             refine Yj 99 rfl (fun hc19=>?_) (fun hc19=>?_)
             ·replace hc19:=nT hc19
              (exfalso;first|contradiction|(rcases hk3 with q|q|q <;> contradiction)|omega)
             ·replace hc19:=nF hc19
              refine ZA ?_;refine YO rfl rfl rfl rfl F.elem35 (by rfl) (by (simp;done)) (by exact SlM.plain (by assumption) (by (simp;done))) rfl ?_;refine Xf rfl rfl rfl (by exact SlM.plain (by assumption) (by (simp;done))) F.foff49_1 rfl ?_;refine Xf rfl rfl rfl (by exact SlM.plain (by assumption) (by (simp;done))) F.foff44_2 rfl ?_;refine Xx rfl rfl rfl (by assumption) (by exact rfl) F.lay29 rfl rfl rfl ?_;refine Zk F.foff44_2 ?_;refine ZH F.lay29 ?_;refine Yy ?_;refine ZN ?_;refine Zu (Zr (Y_pk [108,6,4,3,2] ?_))
              refine Yz rfl (fun hc20=>?_) (fun hc20=>?_)
              ·replace hc20:=nT hc20
               (exfalso;first|contradiction|(rcases hk3 with q|q|q <;> contradiction)|omega)
              ·replace hc20:=nF hc20
               refine YB (Zr (Y_pk [6,4,3,2] ?_));refine ZJ (Zm (l:=[0,1,2,3,4,5]) rfl ?_);refine ZA ?_;refine YO rfl rfl rfl rfl F.elem35 (by rfl) (by (simp;done)) (by exact SlM.plain (by assumption) (by (simp;done))) rfl ?_;refine Xf rfl rfl rfl (by exact SlM.plain (by assumption) (by (simp;done))) F.foff49_1 rfl ?_;refine Xx rfl rfl rfl (by assumption) (by exact rfl) F.lay44 rfl rfl rfl ?_
               refine YW F.zero44 ?_;intro b21
               refine X_store rfl rfl rfl rfl (by constructor) (by ((try simp only [cat,List.cons_append,List.nil_append,List.append_nil]);(repeat (first|exact XL|refine XM ?_|(refine YC ?_ ?_;rfl)));done)) (by repeat first|exact Upd.head|apply Upd.tail|apply Upd.over) F.lay44 (by simp only [ZD.segs,ZS.segs,ZP.segs,ZQ.segs,Yv.segs,ZO.segs,YL.segs,ZW.segs,cat,List.append_eq,List.cons_append,List.nil_append,List.append_nil,Segs.len,Seg.len,Yn]) (put_all (m:=67) rfl (by simp only [ZD.segs,ZS.segs,ZP.segs,ZQ.segs,Yv.segs,ZO.segs,YL.segs,ZW.segs,cat,List.append_eq,List.cons_append,List.nil_append,List.append_nil,Segs.len,Seg.len,Yn]) (by simp only [ZD.segs,ZS.segs,ZP.segs,ZQ.segs,Yv.segs,ZO.segs,YL.segs,ZW.segs,cat,List.append_eq,List.cons_append,List.nil_append,List.append_nil,Segs.len,Seg.len,Yn])) ?_
               refine Zu (Zr (Y_pk [9,4,3,2] ?_));refine ZJ (Zm (l:=[0,1,2,3,4,5,6,7,8,9,10]) rfl ?_);refine Zk F.foff32_0 ?_;refine ZH F.lay28 ?_;refine Zk F.foff44_3 ?_;refine ZH F.lay23 ?_;refine X_fs rfl rfl F.ok19 rfl (Done_ok _ ⟨⟨Za,Zc⟩,⟨Zf,Zh⟩,⟨Zj,Zi,Zg⟩,⟨Ze,Zd,Zb⟩⟩ l_id (hn0.h0.mono (by assumption))) rfl ?_
               rintro _ hv
               rw [hd] at hv
               subst hv
               refine ZA ?_
               iterate 2 refine XA ?_
               refine YW F.zero25 ?_;intro b22
               refine Yi F.lay25 ?_;refine ZC ?_;refine Zu (Zr (Y_pk [11,10,9,4,3,2] ?_));refine ZJ (Zm (l:=[0,1,2,3,4,5,6,7,8,9,10,11,12,13,14,15,16,17,18,19,20,21,22,23,24,25,26,27,28,29,30,31,32,33,34]) rfl ?_);refine Zk F.foff44_0 ?_;refine ZH F.lay3 ?_;refine Yy ?_;refine ZA ?_
               refine Yj 124 rfl (fun hc23=>?_) (fun hc23=>?_)
               ·replace hc23:=dT hc23
                (exfalso;first|contradiction|(rcases hk3 with q|q|q <;> contradiction)|omega)
               ·replace hc23:=dF hc23
                iterate 3 refine Ya ?_
                refine ZN ?_;refine ZA ?_
                iterate 12 refine Ya ?_
                refine ZN ?_;refine ZA ?_
                iterate 10 refine Ya ?_
                refine ZN ?_;refine ZC ?_;refine Zu (Zr (Y_pk [12,9,4,3,2] ?_));refine ZJ (Zm (l:=[0,1,2,3,4,5,6,7,8,9,10,11,12,13,14,15,16,17,18,19,20,21,22,23,24]) rfl ?_);refine Zk F.foff44_0 ?_;refine ZH F.lay3 ?_;refine Yy ?_;refine ZA ?_
                refine Yj 158 rfl (fun hc88=>?_) (fun hc88=>?_)
                ·replace hc88:=dT hc88
                 (exfalso;first|contradiction|(rcases hk3 with q|q|q <;> contradiction)|omega)
                ·replace hc88:=dF hc88
                 iterate 3 refine Ya ?_
                 refine ZN ?_;refine ZA ?_
                 iterate 6 refine Ya ?_
                 refine ZN ?_;refine ZA ?_
                 iterate 6 refine Ya ?_
                 refine ZN ?_;refine ZC ?_;refine Zu (Zr (Y_pk [13,12,9,4,3] ?_));refine ZJ (Zm (l:=[0,1,2,3,4,5,6,7,8]) rfl ?_);refine Zk F.foff44_0 ?_;refine ZH F.lay3 ?_;refine Yy ?_;refine ZA ?_
                 refine Yj 182 rfl (fun hc98=>?_) (fun hc98=>?_)
                 ·replace hc98:=dT hc98
                  refine Zk F.foff44_0 ?_;refine ZH F.lay3 ?_;refine Yy ?_;refine ZN ?_;refine ZC ?_;refine Zu (Zr (Y_pk [14,13,12,4] ?_));refine ZJ (Zm (l:=[0,1,2,3,4,5,6,7,8,9,10]) rfl ?_);refine X_fn rfl rfl F.ok13 rfl (Va _) rfl ?_
                  rintro _ M99 hm99 rfl
                  refine ZA ?_
                  refine Yj 188 rfl (fun hc99=>?_) (fun hc99=>?_)
                  ·skip
                   simp only [ZD.eta,ZS.eta,ZP.eta,ZQ.eta,Yv.eta,ZO.eta,YL.eta,ZW.eta] at hc99
                   iterate 3 refine ZA ?_
                   refine ZN ?_
                   iterate 2 refine ZA ?_
                   iterate 2 refine ZN ?_
                   refine ZC ?_;refine Zu (Zr (Y_pk [4] ?_));refine Yu ?_
                   refine Yk (.inr rfl) (.tmp rfl .nil) (fun w hw=>?_)
                   refine ⟨_,_,rfl,(by exact hm1.trans hm99),hw.c,?_⟩
                   clear hw
                   exact congrArg Value.bool (decide_eq_true (by omega))
                  ·skip
                   (exfalso;first|contradiction|(rcases hk3 with q|q|q <;> contradiction)|omega)
                 ·replace hc98:=dF hc98
                  (exfalso;first|contradiction|(rcases hk3 with q|q|q <;> contradiction)|omega)
          ·skip
           iterate 3 refine Ya ?_
           refine ZN ?_;refine Zu (Zr (Y_pk [79,6,4,3,2] ?_));refine Wn rfl ?_;refine YB (Zr (Y_pk [6,4,3,2] ?_))
           iterate 2 refine ZJ ?_
           obtain ⟨s9,hs9,g1,g2,g3,g4,g5⟩:=hz3 (show Zs=true∨ZZ=6 by first|exact .inl (by assumption)|exact .inr (by assumption)|exact .inr (by omega)|exact .inl (by simp_all))
           obtain ⟨⟨y_to,⟨y_kind,⟨y_frm_addr,y_frm_id⟩,y_req,y_id,⟨y_avoid_a,y_avoid_c,y_avoid_l⟩,y_done,⟨y_peer_addr,y_peer_id⟩,⟨y_peers_a,y_peers_c,y_peers_l⟩⟩⟩,rfl,hy9⟩:=sndl_one (sa.trans hs9)
           subst hy9
           replace g1:y_to=ZT:=g1
           replace g2:y_req=YM:=g2
           obtain ⟨⟨⟨da,di⟩,db⟩,hd⟩:∃ x,WU (ZS.tb ⟨⟨Za,Zc⟩,⟨Zf,Zh⟩,⟨Zj,Zi,Zg⟩,⟨Ze,Zd,Zb⟩⟩) l_id=x:=⟨_,rfl⟩
           replace g3:ZZ=1→y_kind=2∧((WU (ZS.tb ⟨⟨Za,Zc⟩,⟨Zf,Zh⟩,⟨Zj,Zi,Zg⟩,⟨Ze,Zd,Zb⟩⟩) l_id).2=true→y_done=true∧(⟨y_peer_addr,y_peer_id⟩:ZD)=(WU (ZS.tb ⟨⟨Za,Zc⟩,⟨Zf,Zh⟩,⟨Zj,Zi,Zg⟩,⟨Ze,Zd,Zb⟩⟩) l_id).1)∧(y_done=true∨(⟨y_peer_addr,y_peer_id⟩:ZD)≠⟨Za,Zc⟩):=g3
           rw [hd] at g3
           simp only at g3
           replace g4:ZZ=3→y_kind=4∧(⟨y_peer_addr,y_peer_id⟩:ZD)=⟨Zf,Zh⟩∧y_peers_l=Zg:=g4
           replace g5:ZZ=6→y_kind=7:=g5
           have s_y:=ka.h1
           have ky:=(la _ (List.Mem.head _)).h0
           have n_y:([⟨y_to,⟨y_kind,⟨y_frm_addr,y_frm_id⟩,y_req,y_id,⟨y_avoid_a,y_avoid_c,y_avoid_l⟩,y_done,⟨y_peer_addr,y_peer_id⟩,⟨y_peers_a,y_peers_c,y_peers_l⟩⟩⟩].map Yv.segs).length=1:=rfl
           refine YE (l:=[0,1,2,3,4,5,6,7,8,9,10,11,12,13,14,15,16,17,18,19,20,21,22]) #[0,1,3,7,15,31,63,127,15,271,783,2047,4095,8191,16383,32767,65535,131071,262143,16383,540671,2097151,4194303] _ rfl (by kernel_rfl) (by kernel_rfl) St.drawn (fun _ h=>h) ?_;refine ZA ?_;refine Xa F.elem35 ?_;refine Yy ?_;refine ZA ?_
           refine Yj 89 rfl (fun hc101=>?_) (fun hc101=>?_)
           ·replace hc101:=nT hc101
            (exfalso;first|contradiction|(rcases hk3 with q|q|q <;> contradiction)|omega)
           ·replace hc101:=nF hc101
            refine ZA ?_;refine YO rfl rfl rfl rfl F.elem35 (by rfl) (by (simp;done)) (by exact SlM.plain (by assumption) (by (simp;done))) rfl ?_;refine Xf rfl rfl rfl (by exact SlM.plain (by assumption) (by (simp;done))) F.foff49_0 rfl ?_;refine Xx rfl rfl rfl (by assumption) (by exact rfl) F.lay3 rfl rfl rfl ?_;refine Zk F.foff44_1 ?_;refine Zk F.foff25_0 ?_;refine ZH F.lay3 ?_;refine Yy ?_;refine ZN ?_;refine ZA ?_
            refine Yj 99 rfl (fun hc102=>?_) (fun hc102=>?_)
            ·replace hc102:=nT hc102
             (exfalso;first|contradiction|(rcases hk3 with q|q|q <;> contradiction)|omega)
            ·replace hc102:=nF hc102
             refine ZA ?_;refine YO rfl rfl rfl rfl F.elem35 (by rfl) (by (simp;done)) (by exact SlM.plain (by assumption) (by (simp;done))) rfl ?_;refine Xf rfl rfl rfl (by exact SlM.plain (by assumption) (by (simp;done))) F.foff49_1 rfl ?_;refine Xf rfl rfl rfl (by exact SlM.plain (by assumption) (by (simp;done))) F.foff44_2 rfl ?_;refine Xx rfl rfl rfl (by assumption) (by exact rfl) F.lay29 rfl rfl rfl ?_;refine Zk F.foff44_2 ?_;refine ZH F.lay29 ?_;refine Yy ?_;refine ZN ?_;refine Zu (Zr (Y_pk [108,6,4,3,2] ?_))
             refine Yz rfl (fun hc103=>?_) (fun hc103=>?_)
             ·replace hc103:=nT hc103
              (exfalso;first|contradiction|(rcases hk3 with q|q|q <;> contradiction)|omega)
             ·replace hc103:=nF hc103
              refine YB (Zr (Y_pk [6,4,3,2] ?_));refine ZJ (Zm (l:=[0,1,2,3,4,5]) rfl ?_);refine ZA ?_;refine YO rfl rfl rfl rfl F.elem35 (by rfl) (by (simp;done)) (by exact SlM.plain (by assumption) (by (simp;done))) rfl ?_;refine Xf rfl rfl rfl (by exact SlM.plain (by assumption) (by (simp;done))) F.foff49_1 rfl ?_;refine Xx rfl rfl rfl (by assumption) (by exact rfl) F.lay44 rfl rfl rfl ?_
              refine YW F.zero44 ?_;intro b104
              refine X_store rfl rfl rfl rfl (by constructor) (by ((try simp only [cat,List.cons_append,List.nil_append,List.append_nil]);(repeat (first|exact XL|refine XM ?_|(refine YC ?_ ?_;rfl)));done)) (by repeat first|exact Upd.head|apply Upd.tail|apply Upd.over) F.lay44 (by simp only [ZD.segs,ZS.segs,ZP.segs,ZQ.segs,Yv.segs,ZO.segs,YL.segs,ZW.segs,cat,List.append_eq,List.cons_append,List.nil_append,List.append_nil,Segs.len,Seg.len,Yn]) (put_all (m:=67) rfl (by simp only [ZD.segs,ZS.segs,ZP.segs,ZQ.segs,Yv.segs,ZO.segs,YL.segs,ZW.segs,cat,List.append_eq,List.cons_append,List.nil_append,List.append_nil,Segs.len,Seg.len,Yn]) (by simp only [ZD.segs,ZS.segs,ZP.segs,ZQ.segs,Yv.segs,ZO.segs,YL.segs,ZW.segs,cat,List.append_eq,List.cons_append,List.nil_append,List.append_nil,Segs.len,Seg.len,Yn])) ?_
              refine Zu (Zr (Y_pk [9,4,3,2] ?_));refine ZJ (Zm (l:=[0,1,2,3,4,5,6,7,8,9,10]) rfl ?_);refine Zk F.foff32_0 ?_;refine ZH F.lay28 ?_;refine Zk F.foff44_3 ?_;refine ZH F.lay23 ?_;refine X_fs rfl rfl F.ok19 rfl (Done_ok _ ⟨⟨Za,Zc⟩,⟨Zf,Zh⟩,⟨Zj,Zi,Zg⟩,⟨Ze,Zd,Zb⟩⟩ l_id (hn0.h0.mono (by assumption))) rfl ?_
              rintro _ hv
              rw [hd] at hv
              subst hv
              refine ZA ?_
              iterate 2 refine XA ?_
              refine YW F.zero25 ?_;intro b105
              refine Yi F.lay25 ?_;refine ZC ?_;refine Zu (Zr (Y_pk [11,10,9,4,3,2] ?_));refine ZJ (Zm (l:=[0,1,2,3,4,5,6,7,8,9,10,11,12,13,14,15,16,17,18,19,20,21,22,23,24,25,26,27,28,29,30,31,32,33,34]) rfl ?_);refine Zk F.foff44_0 ?_;refine ZH F.lay3 ?_;refine Yy ?_;refine ZA ?_
              refine Yj 124 rfl (fun hc106=>?_) (fun hc106=>?_)
              ·replace hc106:=dT hc106
               refine Zk F.foff44_0 ?_;refine ZH F.lay3 ?_;refine Yy ?_;refine ZN ?_;refine ZA ?_
               refine Yj 129 rfl (fun hc107=>?_) (fun hc107=>?_)
               ·replace hc107:=dT hc107
                refine ZA ?_;refine Xw ?_;refine ZA ?_
                refine Yj 132 rfl (fun hc108=>?_) (fun hc108=>?_)
                ·skip
                 simp only [ZD.eta,ZS.eta,ZP.eta,ZQ.eta,Yv.eta,ZO.eta,YL.eta,ZW.eta] at hc108
                 iterate 8 refine Ya ?_
                 iterate 2 refine ZN ?_
                 refine ZA ?_;refine Zk F.foff44_5 ?_;refine ZH F.lay4 ?_;refine ZA ?_
                 refine Yj 146 rfl (fun hc109=>?_) (fun hc109=>?_)
                 ·skip
                  iterate 6 refine Ya ?_
                  iterate 2 refine ZN ?_
                  refine ZC ?_;refine Zu (Zr (Y_pk [12,9,4,3,2] ?_));refine ZJ (Zm (l:=[0,1,2,3,4,5,6,7,8,9,10,11,12,13,14,15,16,17,18,19,20,21,22,23,24]) rfl ?_);refine Zk F.foff44_0 ?_;refine ZH F.lay3 ?_;refine Yy ?_;refine ZA ?_
                  refine Yj 158 rfl (fun hc110=>?_) (fun hc110=>?_)
                  ·replace hc110:=dT hc110
                   (exfalso;first|contradiction|(rcases hk3 with q|q|q <;> contradiction)|omega)
                  ·replace hc110:=dF hc110
                   iterate 3 refine Ya ?_
                   refine ZN ?_;refine ZA ?_
                   iterate 6 refine Ya ?_
                   refine ZN ?_;refine ZA ?_
                   iterate 6 refine Ya ?_
                   refine ZN ?_;refine ZC ?_;refine Zu (Zr (Y_pk [13,12,9,4,3] ?_));refine ZJ (Zm (l:=[0,1,2,3,4,5,6,7,8]) rfl ?_);refine Zk F.foff44_0 ?_;refine ZH F.lay3 ?_;refine Yy ?_;refine ZA ?_
                   refine Yj 182 rfl (fun hc118=>?_) (fun hc118=>?_)
                   ·replace hc118:=dT hc118
                    (exfalso;first|contradiction|(rcases hk3 with q|q|q <;> contradiction)|omega)
                   ·replace hc118:=dF hc118
                    iterate 3 refine Ya ?_
                    refine ZN ?_;refine ZC ?_;refine Zu (Zr (Y_pk [14,13,12,4] ?_));refine ZJ (Zm (l:=[0,1,2,3,4,5,6,7,8,9,10]) rfl ?_);refine X_fn rfl rfl F.ok13 rfl (Va _) rfl ?_
                    rintro _ M99 hm99 rfl
                    refine ZA ?_
                    refine Yj 188 rfl (fun hc120=>?_) (fun hc120=>?_)
                    ·skip
                     simp only [ZD.eta,ZS.eta,ZP.eta,ZQ.eta,Yv.eta,ZO.eta,YL.eta,ZW.eta] at hc120
                     iterate 2 refine ZA ?_
                     refine Ya ?_;refine ZN ?_;refine ZA ?_;refine Ya ?_
                     iterate 2 refine ZN ?_
                     refine ZC ?_;refine Zu (Zr (Y_pk [4] ?_));refine Yu ?_
                     refine Yk (.inr rfl) (.tmp rfl .nil) (fun w hw=>?_)
                     refine ⟨_,_,rfl,(by exact hm1.trans hm99),hw.c,?_⟩
                     clear hw
                     rfl
                    ·skip
                     (exfalso;first|contradiction|(rcases hk3 with q|q|q <;> contradiction)|omega)
                 ·skip
                  refine Zk F.foff44_6 ?_;refine ZH F.lay25 ?_;refine Zk F.foff32_0 ?_;refine Zk F.foff28_0 ?_;refine ZH F.lay25 ?_
                  refine Wu (m:=20) rfl rfl rfl rfl rfl (by constructor) (by constructor) F.lay25 F.kinds25 rfl F.guard25 (by exact Xv (⟨_,_⟩)) (by exact Xv (⟨_,_⟩)) rfl rfl rfl ?_;intro c121 he122
                  replace he122:c121=true↔¬(Segs.cells _=Segs.cells _):=he122
                  obtain rfl:=neD he122 (ZD.inj (x:=⟨_,_⟩) (y:=⟨_,_⟩));clear he122
                  iterate 2 refine ZN ?_
                  refine ZC ?_;refine Zu (Zr (Y_pk [12,9,4,3,2] ?_));refine ZJ (Zm (l:=[0,1,2,3,4,5,6,7,8,9,10,11,12,13,14,15,16,17,18,19,20,21,22,23,24]) rfl ?_);refine Zk F.foff44_0 ?_;refine ZH F.lay3 ?_;refine Yy ?_;refine ZA ?_
                  refine Yj 158 rfl (fun hc123=>?_) (fun hc123=>?_)
                  ·replace hc123:=dT hc123
                   (exfalso;first|contradiction|(rcases hk3 with q|q|q <;> contradiction)|omega)
                  ·replace hc123:=dF hc123
                   iterate 3 refine Ya ?_
                   refine ZN ?_;refine ZA ?_
                   iterate 6 refine Ya ?_
                   refine ZN ?_;refine ZA ?_
                   iterate 6 refine Ya ?_
                   refine ZN ?_;refine ZC ?_;refine Zu (Zr (Y_pk [13,12,9,4,3] ?_));refine ZJ (Zm (l:=[0,1,2,3,4,5,6,7,8]) rfl ?_);refine Zk F.foff44_0 ?_;refine ZH F.lay3 ?_;refine Yy ?_;refine ZA ?_
                   refine Yj 182 rfl (fun hc133=>?_) (fun hc133=>?_)
                   ·replace hc133:=dT hc133
                    (exfalso;first|contradiction|(rcases hk3 with q|q|q <;> contradiction)|omega)
                   ·replace hc133:=dF hc133
                    iterate 3 refine Ya ?_
                    refine ZN ?_;refine ZC ?_;refine Zu (Zr (Y_pk [14,13,12,4] ?_));refine ZJ (Zm (l:=[0,1,2,3,4,5,6,7,8,9,10]) rfl ?_);refine X_fn rfl rfl F.ok13 rfl (Va _) rfl ?_
                    rintro _ M99 hm99 rfl
                    refine ZA ?_
                    refine Yj 188 rfl (fun hc136=>?_) (fun hc136=>?_)
                    ·skip
                     simp only [ZD.eta,ZS.eta,ZP.eta,ZQ.eta,Yv.eta,ZO.eta,YL.eta,ZW.eta] at hc136
                     iterate 2 refine ZA ?_
                     refine Yj 190 rfl (fun hc137=>?_) (fun hc137=>?_)
                     ·replace hc137:=nT hc137
                      refine Ya ?_;refine ZN ?_;refine ZA ?_;refine Ya ?_
                      iterate 2 refine ZN ?_
                      refine ZC ?_;refine Zu (Zr (Y_pk [4] ?_));refine Yu ?_
                      refine Yk (.inr rfl) (.tmp rfl .nil) (fun w hw=>?_)
                      refine ⟨_,_,rfl,(by exact hm1.trans hm99),hw.c,?_⟩
                      clear hw
                      rfl
                     ·replace hc137:=nF hc137
                      (exfalso;first|(simp [eqX] at hc137;done)|(have q1:=g3 (by assumption);simp_all;done)|(have q1:=g4 (by first|assumption|omega);simp_all;done)|(have q1:=g5 (by first|assumption|omega);first|omega|(simp_all;done)))
                    ·skip
                     (exfalso;first|contradiction|(rcases hk3 with q|q|q <;> contradiction)|omega)
                ·skip
                 simp only [ZD.eta,ZS.eta,ZP.eta,ZQ.eta,Yv.eta,ZO.eta,YL.eta,ZW.eta] at hc108
                 refine Zk F.foff44_5 ?_;refine ZH F.lay4 ?_;refine ZA ?_
                 refine Yj 135 rfl (fun hc138=>?_) (fun hc138=>?_)
                 ·skip
                  refine Zk F.foff44_6 ?_
                  iterate 2 refine ZH F.lay25 ?_
                  refine Wu (m:=20) rfl rfl rfl rfl rfl (by constructor) (by constructor) F.lay25 F.kinds25 rfl F.guard25 (by exact Xv (⟨_,_⟩)) (by exact Xv (⟨_,_⟩)) rfl rfl rfl ?_;intro c139 he140
                  replace he140:c139=true↔Segs.cells _=Segs.cells _:=he140
                  obtain rfl:=eqD he140 (ZD.inj (x:=⟨_,_⟩) (y:=⟨_,_⟩));clear he140
                  iterate 3 refine ZN ?_
                  refine ZA ?_
                  refine Yj 143 rfl (fun hc141=>?_) (fun hc141=>?_)
                  ·replace hc141:=dT hc141
                   refine Zk F.foff44_5 ?_;refine ZH F.lay4 ?_;refine ZA ?_
                   refine Yj 146 rfl (fun hc142=>?_) (fun hc142=>?_)
                   ·skip
                    iterate 6 refine Ya ?_
                    iterate 2 refine ZN ?_
                    refine ZC ?_;refine Zu (Zr (Y_pk [12,9,4,3,2] ?_));refine ZJ (Zm (l:=[0,1,2,3,4,5,6,7,8,9,10,11,12,13,14,15,16,17,18,19,20,21,22,23,24]) rfl ?_);refine Zk F.foff44_0 ?_;refine ZH F.lay3 ?_;refine Yy ?_;refine ZA ?_
                    refine Yj 158 rfl (fun hc143=>?_) (fun hc143=>?_)
                    ·replace hc143:=dT hc143
                     (exfalso;first|contradiction|(rcases hk3 with q|q|q <;> contradiction)|omega)
                    ·replace hc143:=dF hc143
                     iterate 3 refine Ya ?_
                     refine ZN ?_;refine ZA ?_
                     iterate 6 refine Ya ?_
                     refine ZN ?_;refine ZA ?_
                     iterate 6 refine Ya ?_
                     refine ZN ?_;refine ZC ?_;refine Zu (Zr (Y_pk [13,12,9,4,3] ?_));refine ZJ (Zm (l:=[0,1,2,3,4,5,6,7,8]) rfl ?_);refine Zk F.foff44_0 ?_;refine ZH F.lay3 ?_;refine Yy ?_;refine ZA ?_
                     refine Yj 182 rfl (fun hc151=>?_) (fun hc151=>?_)
                     ·replace hc151:=dT hc151
                      (exfalso;first|contradiction|(rcases hk3 with q|q|q <;> contradiction)|omega)
                     ·replace hc151:=dF hc151
                      iterate 3 refine Ya ?_
                      refine ZN ?_;refine ZC ?_;refine Zu (Zr (Y_pk [14,13,12,4] ?_));refine ZJ (Zm (l:=[0,1,2,3,4,5,6,7,8,9,10]) rfl ?_);refine X_fn rfl rfl F.ok13 rfl (Va _) rfl ?_
                      rintro _ M99 hm99 rfl
                      refine ZA ?_
                      refine Yj 188 rfl (fun hc153=>?_) (fun hc153=>?_)
                      ·skip
                       simp only [ZD.eta,ZS.eta,ZP.eta,ZQ.eta,Yv.eta,ZO.eta,YL.eta,ZW.eta] at hc153
                       iterate 2 refine ZA ?_
                       refine Ya ?_;refine ZN ?_;refine ZA ?_;refine Ya ?_
                       iterate 2 refine ZN ?_
                       refine ZC ?_;refine Zu (Zr (Y_pk [4] ?_));refine Yu ?_
                       refine Yk (.inr rfl) (.tmp rfl .nil) (fun w hw=>?_)
                       refine ⟨_,_,rfl,(by exact hm1.trans hm99),hw.c,?_⟩
                       clear hw
                       rfl
                      ·skip
                       (exfalso;first|contradiction|(rcases hk3 with q|q|q <;> contradiction)|omega)
                   ·skip
                    (exfalso;first|(simp [eqX] at hc142;done)|(have q1:=g3 (by assumption);simp_all;done)|(have q1:=g4 (by first|assumption|omega);simp_all;done)|(have q1:=g5 (by first|assumption|omega);first|omega|(simp_all;done)))
                  ·replace hc141:=dF hc141
                   (exfalso;first|(simp [eqX] at hc141;done)|(have q1:=g3 (by assumption);simp_all;done)|(have q1:=g4 (by first|assumption|omega);simp_all;done)|(have q1:=g5 (by first|assumption|omega);first|omega|(simp_all;done)))
                 ·skip
                  (exfalso;first|(simp [eqX] at hc138;done)|(have q1:=g3 (by assumption);simp_all;done)|(have q1:=g4 (by first|assumption|omega);simp_all;done)|(have q1:=g5 (by first|assumption|omega);first|omega|(simp_all;done)))
               ·replace hc107:=dF hc107
                (exfalso;first|contradiction|(rcases hk3 with q|q|q <;> contradiction)|omega)
              ·replace hc106:=dF hc106
               iterate 3 refine Ya ?_
               refine ZN ?_;refine ZA ?_
               iterate 12 refine Ya ?_
               refine ZN ?_;refine ZA ?_
               iterate 10 refine Ya ?_
               refine ZN ?_;refine ZC ?_;refine Zu (Zr (Y_pk [12,9,4,3,2] ?_));refine ZJ (Zm (l:=[0,1,2,3,4,5,6,7,8,9,10,11,12,13,14,15,16,17,18,19,20,21,22,23,24]) rfl ?_);refine Zk F.foff44_0 ?_;refine ZH F.lay3 ?_;refine Yy ?_;refine ZA ?_
               refine Yj 158 rfl (fun hc171=>?_) (fun hc171=>?_)
               ·replace hc171:=dT hc171
                refine Zk F.foff44_0 ?_;refine ZH F.lay3 ?_;refine Yy ?_;refine ZN ?_;refine ZA ?_
                refine Yj 163 rfl (fun hc172=>?_) (fun hc172=>?_)
                ·replace hc172:=dT hc172
                 refine Zk F.foff44_6 ?_;refine ZH F.lay25 ?_;refine Zk F.foff32_0 ?_;refine Zk F.foff28_1 ?_;refine ZH F.lay25 ?_
                 refine Wu (m:=20) rfl rfl rfl rfl rfl (by constructor) (by constructor) F.lay25 F.kinds25 rfl F.guard25 (by exact Xv (⟨_,_⟩)) (by exact Xv (⟨_,_⟩)) rfl rfl rfl ?_;intro c173 he174
                 replace he174:c173=true↔Segs.cells _=Segs.cells _:=he174
                 obtain rfl:=eqD he174 (ZD.inj (x:=⟨_,_⟩) (y:=⟨_,_⟩));clear he174
                 refine ZN ?_;refine ZA ?_
                 refine Yj 171 rfl (fun hc175=>?_) (fun hc175=>?_)
                 ·replace hc175:=dT hc175
                  refine Zk F.foff44_7 ?_;refine ZH F.lay26 ?_;refine Zk F.foff32_0 ?_;refine Zk F.foff28_2 ?_;refine ZH F.lay26 ?_;refine X_fs rfl rfl F.ok20 rfl (SameP_ok _ ⟨y_peers_a,y_peers_c,y_peers_l⟩ ⟨Zj,Zi,Zg⟩ (ky.h1.mono (by exact Mem.le.refl _)) (Ym.h0.mono (by assumption))) rfl ?_
                  rintro _ hv
                  rw [decide_eq_true (show y_peers_l=Zg from (g4 (by assumption)).2.2)] at hv
                  subst hv
                  refine ZN ?_;refine ZC ?_;refine Zu (Zr (Y_pk [13,12,9,4,3] ?_));refine ZJ (Zm (l:=[0,1,2,3,4,5,6,7,8]) rfl ?_);refine Zk F.foff44_0 ?_;refine ZH F.lay3 ?_;refine Yy ?_;refine ZA ?_
                  refine Yj 182 rfl (fun hc176=>?_) (fun hc176=>?_)
                  ·replace hc176:=dT hc176
                   (exfalso;first|contradiction|(rcases hk3 with q|q|q <;> contradiction)|omega)
                  ·replace hc176:=dF hc176
                   iterate 3 refine Ya ?_
                   refine ZN ?_;refine ZC ?_;refine Zu (Zr (Y_pk [14,13,12,4] ?_));refine ZJ (Zm (l:=[0,1,2,3,4,5,6,7,8,9,10]) rfl ?_);refine X_fn rfl rfl F.ok13 rfl (Va _) rfl ?_
                   rintro _ M99 hm99 rfl
                   refine ZA ?_
                   refine Yj 188 rfl (fun hc179=>?_) (fun hc179=>?_)
                   ·skip
                    simp only [ZD.eta,ZS.eta,ZP.eta,ZQ.eta,Yv.eta,ZO.eta,YL.eta,ZW.eta] at hc179
                    iterate 3 refine ZA ?_
                    refine ZN ?_;refine ZA ?_
                    refine Yj 193 rfl (fun hc180=>?_) (fun hc180=>?_)
                    ·skip
                     simp only [ZD.eta,ZS.eta,ZP.eta,ZQ.eta,Yv.eta,ZO.eta,YL.eta,ZW.eta] at hc180
                     refine Ya ?_
                     iterate 2 refine ZN ?_
                     refine ZC ?_;refine Zu (Zr (Y_pk [4] ?_));refine Yu ?_
                     refine Yk (.inr rfl) (.tmp rfl .nil) (fun w hw=>?_)
                     refine ⟨_,_,rfl,(by exact hm1.trans hm99),hw.c,?_⟩
                     clear hw
                     rfl
                    ·skip
                     (exfalso;first|contradiction|(rcases hk3 with q|q|q <;> contradiction)|omega)
                   ·skip
                    (exfalso;first|contradiction|(rcases hk3 with q|q|q <;> contradiction)|omega)
                 ·replace hc175:=dF hc175
                  (exfalso;first|(simp [eqX] at hc175;done)|(have q1:=g3 (by first|assumption|omega);simp_all;done)|(have q1:=g4 (by assumption);simp_all;done)|(have q1:=g5 (by first|assumption|omega);first|omega|(simp_all;done)))
                ·replace hc172:=dF hc172
                 (exfalso;first|contradiction|(rcases hk3 with q|q|q <;> contradiction)|omega)
               ·replace hc171:=dF hc171
                iterate 3 refine Ya ?_
                refine ZN ?_;refine ZA ?_
                iterate 6 refine Ya ?_
                refine ZN ?_;refine ZA ?_
                iterate 6 refine Ya ?_
                refine ZN ?_;refine ZC ?_;refine Zu (Zr (Y_pk [13,12,9,4,3] ?_));refine ZJ (Zm (l:=[0,1,2,3,4,5,6,7,8]) rfl ?_);refine Zk F.foff44_0 ?_;refine ZH F.lay3 ?_;refine Yy ?_;refine ZA ?_
                refine Yj 182 rfl (fun hc181=>?_) (fun hc181=>?_)
                ·replace hc181:=dT hc181
                 refine Zk F.foff44_0 ?_;refine ZH F.lay3 ?_;refine Yy ?_;refine ZN ?_;refine ZC ?_;refine Zu (Zr (Y_pk [14,13,12,4] ?_));refine ZJ (Zm (l:=[0,1,2,3,4,5,6,7,8,9,10]) rfl ?_);refine X_fn rfl rfl F.ok13 rfl (Va _) rfl ?_
                 rintro _ M99 hm99 rfl
                 refine ZA ?_
                 refine Yj 188 rfl (fun hc182=>?_) (fun hc182=>?_)
                 ·skip
                  simp only [ZD.eta,ZS.eta,ZP.eta,ZQ.eta,Yv.eta,ZO.eta,YL.eta,ZW.eta] at hc182
                  iterate 3 refine ZA ?_
                  refine ZN ?_
                  iterate 2 refine ZA ?_
                  iterate 2 refine ZN ?_
                  refine ZC ?_;refine Zu (Zr (Y_pk [4] ?_));refine Yu ?_
                  refine Yk (.inr rfl) (.tmp rfl .nil) (fun w hw=>?_)
                  refine ⟨_,_,rfl,(by exact hm1.trans hm99),hw.c,?_⟩
                  clear hw
                  exact congrArg Value.bool (decide_eq_true (by omega))
                 ·skip
                  (exfalso;first|contradiction|(rcases hk3 with q|q|q <;> contradiction)|omega)
                ·replace hc181:=dF hc181
                 (exfalso;first|contradiction|(rcases hk3 with q|q|q <;> contradiction)|omega)
end Go.Proofs.YtajmnjefajknoaaGreat
