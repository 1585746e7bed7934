/-
  Texts of this claim, one behind the other: E12, E13, E14, TableX, NodeX, F1, F2.
-/
import Derived.Test.YtajmnjefajknoaaGreatQL15
import Derived.KernelRfl
set_option linter.unusedSimpArgs false
set_option linter.unusedVariables false
set_option linter.unnecessarySimpa false
set_option maxRecDepth 8000
set_option maxHeartbeats 1000000
namespace Go.Proofs.YtajmnjefajknoaaGreat
open Go.Esp
theorem bye_ok (M:Mem) (bw:Nat) (Za:Int) (Zb:Plc) (Zf:Int) (Zh:Plc) (Zj Ze Zr:Option Addr) (Zi Zd Zq:Nat) (Zg Zc:List ZI) (Zl:List Int) (Zt:Int) (Zs:Bool) (ZC Zz ZL ZB Zy Zu Zo Zv Zn:Int) (Zx:Plc) (ZE ZF:Int) (Yt:ZN.ok M ⟨⟨Za,Zb⟩,⟨Zf,Zh⟩,⟨Zj,Zi,Zg⟩,⟨Ze,Zd,Zc⟩⟩) (YI:SlK M (oneI .i64) 1 ⟨Zr,Zq,Zl⟩) (hbig:Zg.length≤40∧Zc.length≤200) (hLa:Zl.length≤1000) (hh:0≤ZE∧ZE≤1000) (l:ZO) (hl0:ZO.ok M l) (hLp:l.peers.l.length≤1000) (hk:l.kind=8):Fh Tryz.prog 52 [.pointer (some ⟨bw,0,none⟩),l.enc] M [(bw,rowO (ZQ.segs ⟨⟨⟨⟨Za,Zb⟩,⟨Zf,Zh⟩,⟨Zj,Zi,Zg⟩,⟨Ze,Zd,Zc⟩⟩,Zt,Zs,ZC,Zz,ZL,ZB,Zy,Zu,Zo,Zv,Zn,Zx,⟨Zr,Zq,Zl⟩,ZE,ZF⟩,⟨none,0,[]⟩⟩) 68)] (fun M' v Hout=>v=.tuple #[]∧WkF bw 68 M' Hout (Wn (ZK.nd ⟨⟨⟨Za,Zb⟩,⟨Zf,Zh⟩,⟨Zj,Zi,Zg⟩,⟨Ze,Zd,Zc⟩⟩,Zt,Zs,ZC,Zz,ZL,ZB,Zy,Zu,Zo,Zv,Zn,Zx,⟨Zr,Zq,Zl⟩,ZE,ZF⟩) l.lt)):=by
  obtain ⟨YD,⟨Yb,YT⟩,Xr,l_id,⟨YH,YG,ZZ⟩,Xh,⟨ZS,Yo⟩,⟨YF,YB,ZT⟩⟩:=l
  simp only at hLp hk
  have Wm:SlK M (oneI .i64) 1 ⟨YH,YG,ZZ⟩:=hl0.h0
  have XE:SlK M ZI.segs 21 ⟨YF,YB,ZT⟩:=hl0.h1
  have Wp:=XE.h1
  simp only at Wp
  have VC:(ZT.map ZI.segs).length=ZT.length:=List.length_map ..
  have VD:ZT.length≤YB:=XE.h3
  refine Wj (fun H=>(bw,rowO (ZQ.segs ⟨⟨⟨⟨Za,Zb⟩,⟨Zf,Zh⟩,⟨Zj,Zi,Zg⟩,⟨Ze,Zd,Zc⟩⟩,Zt,Zs,ZC,Zz,ZL,ZB,Zy,Zu,Zo,Zv,Zn,Zx,⟨Zr,Zq,Zl⟩,ZE,ZF⟩,⟨none,0,[]⟩⟩) 68)::H) (fun _=>by simp only [List.append_assoc,List.cons_append,List.nil_append]) Tryz.func52 rfl Tryz.ntmps52 rfl ?_;intro H
  refine ZJ (Zm (l:=[0]) rfl ?_)
  refine Xv ?_;intro b1
  refine Zw (Zp (Y_pk [3,0] ?_));refine ZJ (YL (l:=[0,1,2,3,4,5,6,7,8,9,10,11,12,13,14,15,16,17,18,19,20,21,22,23]) #[0,1,3,7,15,31,63,0,128,384,1023,0,2048,6144,14336,30720,63488,129024,0,262144,786432,2095104,131071,8388607] _ rfl (by kernel_rfl) (by kernel_rfl) St.drawn (fun _ h=>h) ?_);refine ZA ?_;refine Yf ?_;refine Zk F.foff68_0 ?_;refine Zk F.foff32_0 ?_;refine Zk F.foff28_1 ?_;refine Zk F.foff25_0 ?_;refine ZH F.lay3 ?_;refine Zk F.foff44_1 ?_;refine Zk F.foff25_0 ?_;refine ZH F.lay3 ?_;refine YJ ?_;refine ZA ?_;refine Yf ?_;refine Zk F.foff68_0 ?_;refine Zk F.foff32_0 ?_;refine ZH F.lay28 ?_;refine X_fs rfl rfl F.ok41 rfl (First_ok _ ⟨⟨Za,Zb⟩,⟨Zf,Zh⟩,⟨Zj,Zi,Zg⟩,⟨Ze,Zd,Zc⟩⟩ Yt) rfl ?_
  rintro _ rfl
  obtain ⟨⟨fa,fi⟩,hfi⟩:∃ x,Wi (ZN.tb ⟨⟨Za,Zb⟩,⟨Zf,Zh⟩,⟨Zj,Zi,Zg⟩,⟨Ze,Zd,Zc⟩⟩)=x:=⟨_,rfl⟩
  rw [hfi]
  refine Y_field F.fld25_0 F.lay3 ?_;refine Zk F.foff44_1 ?_;refine Zk F.foff25_0 ?_;refine ZH F.lay3 ?_;refine YJ ?_
  iterate 2 refine ZD ?_
  refine Zw (Zp (Y_pk [5,4,3,0] ?_));refine ZJ (YL (l:=[0,1,2,3,4,5,6,7,8,9,10,11,12,13]) #[0,0,2,6,14,30,0,64,192,510,1023,2047,4095,8191] _ rfl (by kernel_rfl) (by kernel_rfl) St.drawn (fun _ h=>h) ?_)
  iterate 2 refine ZA ?_
  refine Yf ?_;refine Zk F.foff68_0 ?_;refine Zk F.foff32_0 ?_;refine ZH F.lay28 ?_;refine Zk F.foff44_1 ?_;refine Zk F.foff25_0 ?_;refine ZH F.lay3 ?_;refine X_fn rfl rfl F.ok108 rfl (Forget_ok _ ⟨⟨Za,Zb⟩,⟨Zf,Zh⟩,⟨Zj,Zi,Zg⟩,⟨Ze,Zd,Zc⟩⟩ Yb Yt hbig) rfl ?_
  rintro _ M1 hm1 ⟨⟨⟨oa,oi⟩,⟨oq,oj⟩,⟨o1a,o1c,o1l⟩,⟨o2a,o2c,o2l⟩⟩,rfl,hot,okt⟩
  refine Yf ?_;refine Zk F.foff68_0 ?_;refine Zk F.foff32_0 ?_;refine ZX F.lay28 ?_;refine Zw (Zp (Y_pk [5,4,3,0] ?_))
  iterate 2 refine ZJ ?_
  refine Zm (l:=[0]) rfl ?_;refine ZA ?_;refine Zw (Zp (Y_pk [41,5,3,0] ?_))
  refine YC rfl (fun hc2=>?_) (fun hc2=>?_)
  ·replace hc2:=dT hc2
   refine YL (l:=[0,1,2,3,4,5,6,7,8,9,10,11,12]) #[0,0,2,6,14,30,0,64,254,511,1023,2047,4095] _ rfl (by kernel_rfl) (by kernel_rfl) St.drawn (fun _ h=>h) ?_
   iterate 2 refine ZA ?_
   refine Yf ?_;refine Zk F.foff68_0 ?_;refine Zk F.foff32_0 ?_;refine ZH F.lay28 ?_;refine Zk F.foff44_6 ?_;refine ZH F.lay25 ?_;refine X_fn rfl rfl F.ok107 rfl (Learn_ok _ ⟨⟨oa,oi⟩,⟨oq,oj⟩,⟨o1a,o1c,o1l⟩,⟨o2a,o2c,o2l⟩⟩ ⟨ZS,Yo⟩ okt) rfl ?_
   rintro _ M2 hm2 ⟨⟨⟨wa,wi⟩,⟨wq,wj⟩,⟨w1a,w1c,w1l⟩,⟨w2a,w2c,w2l⟩⟩,rfl,hol,okl⟩
   refine Yf ?_;refine Zk F.foff68_0 ?_;refine Zk F.foff32_0 ?_;refine ZX F.lay28 ?_;refine Zw (Zp (Y_pk [5,3,0] ?_));refine ZJ ?_
   have s_lp9:=Wp.mono (hm1.trans hm2)
   refine Zm (l:=[0,1,2,3,4,5,6]) rfl ?_
   iterate 2 refine ZA ?_
   refine Yw 55 rfl (fun hc3=>?_) (fun hc3=>?_)
   ·replace hc3:=dT hc3
    refine Zk F.foff44_7 ?_;refine ZH F.lay26 ?_;refine YW F.elem26 ?_;refine YJ ?_;refine ZM ?_;refine Zw (Zp (Y_pk [60,3,0] ?_))
    refine YC rfl (fun hc4=>?_) (fun hc4=>?_)
    ·replace hc4:=dT hc4
     refine C_region_anyW (l:=[0,1,2,3,4,5,6,7,8]) [8] #[0,0,2,6,14,0,32,96,255] (_) rfl (by kernel_rfl) (by kernel_rfl) St.drawn (fun _ h=>h) ?_;refine ZA ?_;refine Zk F.foff44_7 ?_;refine ZH F.lay26 ?_;refine YM rfl rfl rfl rfl F.elem26 (by rfl) (by (simp;omega)) (by exact SlM.plain (by assumption) (by (simp;omega))) rfl ?_;refine Xs rfl rfl rfl (by assumption) (by exact XQ (by (simp;omega))) F.lay25 rfl rfl rfl ?_;refine Zk F.foff44_7 ?_;refine ZH F.lay26 ?_;refine WW rfl rfl rfl (.some (k:=1) rfl rfl) .none .none F.elem26 (by simp only [Option.getD_none];omega) (by simp only [Option.getD_some,Option.getD_none];omega) (by simp only [Option.getD_some,Option.getD_none];omega) (by simp) (pieceV_drop (l:=ZT) (k:=1)) rfl ?_;refine Vg rfl rfl rfl F.ok82 rfl (adopt_ok M2 bw wa wi wq wj w1a w2a Zr w1c w2c Zq w1l w2l Zl Zt Zs ZC Zz ZL ZB Zy Zu Zo Zv Zn Zx ZE ZF okl ZT[0] ⟨_,_,ZT.drop 1⟩ ((XE.mono (hm1.trans hm2)).drop 1 (by omega))) (by repeat first|exact Rem.here _|exact Rem.two|apply Rem.skip|apply Rem.over) (YN rfl) ?_
     rintro _ M3 hs3 hm3 ⟨rfl,⟨⟨ua,ui⟩,⟨uq,uj⟩,⟨u1a,u1c,u1l⟩,⟨u2a,u2c,u2l⟩⟩,rfl,oku,hv1⟩
     simp only [List.append_assoc,List.cons_append,List.nil_append]
     refine Zw (WE ?_)
     refine Yg (.inl rfl) (.nil) (fun w hw=>?_)
     have h2:ZK.nd ⟨⟨⟨wa,wi⟩,⟨wq,wj⟩,⟨w1a,w1c,w1l⟩,⟨w2a,w2c,w2l⟩⟩,Zt,Zs,ZC,Zz,ZL,ZB,Zy,Zu,Zo,Zv,Zn,Zx,⟨Zr,Zq,Zl⟩,ZE,ZF⟩={ ZK.nd ⟨⟨⟨Za,Zb⟩,⟨Zf,Zh⟩,⟨Zj,Zi,Zg⟩,⟨Ze,Zd,Zc⟩⟩,Zt,Zs,ZC,Zz,ZL,ZB,Zy,Zu,Zo,Zv,Zn,Zx,⟨Zr,Zq,Zl⟩,ZE,ZF⟩ with table:=byeT (ZK.nd ⟨⟨⟨Za,Zb⟩,⟨Zf,Zh⟩,⟨Zj,Zi,Zg⟩,⟨Ze,Zd,Zc⟩⟩,Zt,Zs,ZC,Zz,ZL,ZB,Zy,Zu,Zo,Zv,Zn,Zx,⟨Zr,Zq,Zl⟩,ZE,ZF⟩) (ZO.lt ⟨YD,⟨Yb,YT⟩,Xr,l_id,⟨YH,YG,ZZ⟩,Xh,⟨ZS,Yo⟩,⟨YF,YB,ZT⟩⟩) }:=by
      unfold byeT
      rw [if_pos (show (ZK.nd ⟨⟨⟨Za,Zb⟩,⟨Zf,Zh⟩,⟨Zj,Zi,Zg⟩,⟨Ze,Zd,Zc⟩⟩,Zt,Zs,ZC,Zz,ZL,ZB,Zy,Zu,Zo,Zv,Zn,Zx,⟨Zr,Zq,Zl⟩,ZE,ZF⟩).table.pred.addr=(ZO.lt ⟨YD,⟨Yb,YT⟩,Xr,l_id,⟨YH,YG,ZZ⟩,Xh,⟨ZS,Yo⟩,⟨YF,YB,ZT⟩⟩).frm.addr from (show Zf=Yb by assumption)),show XM (ZK.nd ⟨⟨⟨Za,Zb⟩,⟨Zf,Zh⟩,⟨Zj,Zi,Zg⟩,⟨Ze,Zd,Zc⟩⟩,Zt,Zs,ZC,Zz,ZL,ZB,Zy,Zu,Zo,Zv,Zn,Zx,⟨Zr,Zq,Zl⟩,ZE,ZF⟩).table (ZO.lt ⟨YD,⟨Yb,YT⟩,Xr,l_id,⟨YH,YG,ZZ⟩,Xh,⟨ZS,Yo⟩,⟨YF,YB,ZT⟩⟩).frm.addr=_ from hot.symm,show Ui (ZN.tb ⟨⟨oa,oi⟩,⟨oq,oj⟩,⟨o1a,o1c,o1l⟩,⟨o2a,o2c,o2l⟩⟩) (ZO.lt ⟨YD,⟨Yb,YT⟩,Xr,l_id,⟨YH,YG,ZZ⟩,Xh,⟨ZS,Yo⟩,⟨YF,YB,ZT⟩⟩).peer=_ from hol.symm];rfl
     have h3:Wn (ZK.nd ⟨⟨⟨Za,Zb⟩,⟨Zf,Zh⟩,⟨Zj,Zi,Zg⟩,⟨Ze,Zd,Zc⟩⟩,Zt,Zs,ZC,Zz,ZL,ZB,Zy,Zu,Zo,Zv,Zn,Zx,⟨Zr,Zq,Zl⟩,ZE,ZF⟩) (ZO.lt ⟨YD,⟨Yb,YT⟩,Xr,l_id,⟨YH,YG,ZZ⟩,Xh,⟨ZS,Yo⟩,⟨YF,YB,ZT⟩⟩)=(ZK.nd ⟨⟨⟨ua,ui⟩,⟨uq,uj⟩,⟨u1a,u1c,u1l⟩,⟨u2a,u2c,u2l⟩⟩,Zt,Zs,ZC,Zz,ZL,ZB,Zy,Zu,Zo,Zv,Zn,Zx,⟨Zr,Zq,Zl⟩,ZE,ZF⟩,[]):=(does8 hk).trans (congrArg (fun x=>(x,([]:List Snd))) ((bye_yes h2 (show (Wi (ZN.tb ⟨⟨Za,Zb⟩,⟨Zf,Zh⟩,⟨Zj,Zi,Zg⟩,⟨Ze,Zd,Zc⟩⟩)).addr=Yb by rw [hfi];assumption) (show 0<ZT.length by omega)).trans hv1.symm))
     refine ⟨_,M3,[(bw,rowO (ZQ.segs ⟨⟨⟨⟨ua,ui⟩,⟨uq,uj⟩,⟨u1a,u1c,u1l⟩,⟨u2a,u2c,u2l⟩⟩,Zt,Zs,ZC,Zz,ZL,ZB,Zy,Zu,Zo,Zv,Zn,Zx,⟨Zr,Zq,Zl⟩,ZE,ZF⟩,⟨none,0,[]⟩⟩) 68)],rfl,((hm1.trans hm2).trans hm3),hw.c,rfl,⟨⟨⟨ua,ui⟩,⟨uq,uj⟩,⟨u1a,u1c,u1l⟩,⟨u2a,u2c,u2l⟩⟩,Zt,Zs,ZC,Zz,ZL,ZB,Zy,Zu,Zo,Zv,Zn,Zx,⟨Zr,Zq,Zl⟩,ZE,ZF⟩,⟨none,0,[]⟩,rfl,?_,?_,⟨oku,((YI.mono hm1).mono hm2).mono hm3⟩,SlK.nil,fun y hy=>by cases hy⟩
     ·rw [h3] <;> rfl
     ·rw [h3] <;> rfl
    ·replace hc4:=dF hc4
     refine YE ?_
     refine Yg (.inl rfl) (.nil) (fun w hw=>?_)
     have h2:ZK.nd ⟨⟨⟨wa,wi⟩,⟨wq,wj⟩,⟨w1a,w1c,w1l⟩,⟨w2a,w2c,w2l⟩⟩,Zt,Zs,ZC,Zz,ZL,ZB,Zy,Zu,Zo,Zv,Zn,Zx,⟨Zr,Zq,Zl⟩,ZE,ZF⟩={ ZK.nd ⟨⟨⟨Za,Zb⟩,⟨Zf,Zh⟩,⟨Zj,Zi,Zg⟩,⟨Ze,Zd,Zc⟩⟩,Zt,Zs,ZC,Zz,ZL,ZB,Zy,Zu,Zo,Zv,Zn,Zx,⟨Zr,Zq,Zl⟩,ZE,ZF⟩ with table:=byeT (ZK.nd ⟨⟨⟨Za,Zb⟩,⟨Zf,Zh⟩,⟨Zj,Zi,Zg⟩,⟨Ze,Zd,Zc⟩⟩,Zt,Zs,ZC,Zz,ZL,ZB,Zy,Zu,Zo,Zv,Zn,Zx,⟨Zr,Zq,Zl⟩,ZE,ZF⟩) (ZO.lt ⟨YD,⟨Yb,YT⟩,Xr,l_id,⟨YH,YG,ZZ⟩,Xh,⟨ZS,Yo⟩,⟨YF,YB,ZT⟩⟩) }:=by
      unfold byeT
      rw [if_pos (show (ZK.nd ⟨⟨⟨Za,Zb⟩,⟨Zf,Zh⟩,⟨Zj,Zi,Zg⟩,⟨Ze,Zd,Zc⟩⟩,Zt,Zs,ZC,Zz,ZL,ZB,Zy,Zu,Zo,Zv,Zn,Zx,⟨Zr,Zq,Zl⟩,ZE,ZF⟩).table.pred.addr=(ZO.lt ⟨YD,⟨Yb,YT⟩,Xr,l_id,⟨YH,YG,ZZ⟩,Xh,⟨ZS,Yo⟩,⟨YF,YB,ZT⟩⟩).frm.addr from (show Zf=Yb by assumption)),show XM (ZK.nd ⟨⟨⟨Za,Zb⟩,⟨Zf,Zh⟩,⟨Zj,Zi,Zg⟩,⟨Ze,Zd,Zc⟩⟩,Zt,Zs,ZC,Zz,ZL,ZB,Zy,Zu,Zo,Zv,Zn,Zx,⟨Zr,Zq,Zl⟩,ZE,ZF⟩).table (ZO.lt ⟨YD,⟨Yb,YT⟩,Xr,l_id,⟨YH,YG,ZZ⟩,Xh,⟨ZS,Yo⟩,⟨YF,YB,ZT⟩⟩).frm.addr=_ from hot.symm,show Ui (ZN.tb ⟨⟨oa,oi⟩,⟨oq,oj⟩,⟨o1a,o1c,o1l⟩,⟨o2a,o2c,o2l⟩⟩) (ZO.lt ⟨YD,⟨Yb,YT⟩,Xr,l_id,⟨YH,YG,ZZ⟩,Xh,⟨ZS,Yo⟩,⟨YF,YB,ZT⟩⟩).peer=_ from hol.symm];rfl
     have h3:Wn (ZK.nd ⟨⟨⟨Za,Zb⟩,⟨Zf,Zh⟩,⟨Zj,Zi,Zg⟩,⟨Ze,Zd,Zc⟩⟩,Zt,Zs,ZC,Zz,ZL,ZB,Zy,Zu,Zo,Zv,Zn,Zx,⟨Zr,Zq,Zl⟩,ZE,ZF⟩) (ZO.lt ⟨YD,⟨Yb,YT⟩,Xr,l_id,⟨YH,YG,ZZ⟩,Xh,⟨ZS,Yo⟩,⟨YF,YB,ZT⟩⟩)=(ZK.nd ⟨⟨⟨wa,wi⟩,⟨wq,wj⟩,⟨w1a,w1c,w1l⟩,⟨w2a,w2c,w2l⟩⟩,Zt,Zs,ZC,Zz,ZL,ZB,Zy,Zu,Zo,Zv,Zn,Zx,⟨Zr,Zq,Zl⟩,ZE,ZF⟩,[]):=(does8 hk).trans (congrArg (fun x=>(x,([]:List Snd))) (bye_no h2 (fun q1 q2=>(by
      replace q1:(Wi (ZN.tb ⟨⟨Za,Zb⟩,⟨Zf,Zh⟩,⟨Zj,Zi,Zg⟩,⟨Ze,Zd,Zc⟩⟩)).addr=Yb:=q1
      replace q2:0<ZT.length:=q2
      rw [hfi] at q1
      (exfalso;omega)))))
     refine ⟨_,M2,[(bw,rowO (ZQ.segs ⟨⟨⟨⟨wa,wi⟩,⟨wq,wj⟩,⟨w1a,w1c,w1l⟩,⟨w2a,w2c,w2l⟩⟩,Zt,Zs,ZC,Zz,ZL,ZB,Zy,Zu,Zo,Zv,Zn,Zx,⟨Zr,Zq,Zl⟩,ZE,ZF⟩,⟨none,0,[]⟩⟩) 68)],rfl,(hm1.trans hm2),hw.c,rfl,⟨⟨⟨wa,wi⟩,⟨wq,wj⟩,⟨w1a,w1c,w1l⟩,⟨w2a,w2c,w2l⟩⟩,Zt,Zs,ZC,Zz,ZL,ZB,Zy,Zu,Zo,Zv,Zn,Zx,⟨Zr,Zq,Zl⟩,ZE,ZF⟩,⟨none,0,[]⟩,rfl,?_,?_,⟨okl,((YI.mono hm1).mono hm2)⟩,SlK.nil,fun y hy=>by cases hy⟩
     ·rw [h3] <;> rfl
     ·rw [h3] <;> rfl
   ·replace hc3:=dF hc3
    iterate 4 refine ZY ?_
    refine ZM ?_;refine Zw (Zp (Y_pk [60,3,0] ?_));refine Wz rfl ?_;refine YE ?_
    refine Yg (.inl rfl) (.nil) (fun w hw=>?_)
    have h2:ZK.nd ⟨⟨⟨wa,wi⟩,⟨wq,wj⟩,⟨w1a,w1c,w1l⟩,⟨w2a,w2c,w2l⟩⟩,Zt,Zs,ZC,Zz,ZL,ZB,Zy,Zu,Zo,Zv,Zn,Zx,⟨Zr,Zq,Zl⟩,ZE,ZF⟩={ ZK.nd ⟨⟨⟨Za,Zb⟩,⟨Zf,Zh⟩,⟨Zj,Zi,Zg⟩,⟨Ze,Zd,Zc⟩⟩,Zt,Zs,ZC,Zz,ZL,ZB,Zy,Zu,Zo,Zv,Zn,Zx,⟨Zr,Zq,Zl⟩,ZE,ZF⟩ with table:=byeT (ZK.nd ⟨⟨⟨Za,Zb⟩,⟨Zf,Zh⟩,⟨Zj,Zi,Zg⟩,⟨Ze,Zd,Zc⟩⟩,Zt,Zs,ZC,Zz,ZL,ZB,Zy,Zu,Zo,Zv,Zn,Zx,⟨Zr,Zq,Zl⟩,ZE,ZF⟩) (ZO.lt ⟨YD,⟨Yb,YT⟩,Xr,l_id,⟨YH,YG,ZZ⟩,Xh,⟨ZS,Yo⟩,⟨YF,YB,ZT⟩⟩) }:=by
     unfold byeT
     rw [if_pos (show (ZK.nd ⟨⟨⟨Za,Zb⟩,⟨Zf,Zh⟩,⟨Zj,Zi,Zg⟩,⟨Ze,Zd,Zc⟩⟩,Zt,Zs,ZC,Zz,ZL,ZB,Zy,Zu,Zo,Zv,Zn,Zx,⟨Zr,Zq,Zl⟩,ZE,ZF⟩).table.pred.addr=(ZO.lt ⟨YD,⟨Yb,YT⟩,Xr,l_id,⟨YH,YG,ZZ⟩,Xh,⟨ZS,Yo⟩,⟨YF,YB,ZT⟩⟩).frm.addr from (show Zf=Yb by assumption)),show XM (ZK.nd ⟨⟨⟨Za,Zb⟩,⟨Zf,Zh⟩,⟨Zj,Zi,Zg⟩,⟨Ze,Zd,Zc⟩⟩,Zt,Zs,ZC,Zz,ZL,ZB,Zy,Zu,Zo,Zv,Zn,Zx,⟨Zr,Zq,Zl⟩,ZE,ZF⟩).table (ZO.lt ⟨YD,⟨Yb,YT⟩,Xr,l_id,⟨YH,YG,ZZ⟩,Xh,⟨ZS,Yo⟩,⟨YF,YB,ZT⟩⟩).frm.addr=_ from hot.symm,show Ui (ZN.tb ⟨⟨oa,oi⟩,⟨oq,oj⟩,⟨o1a,o1c,o1l⟩,⟨o2a,o2c,o2l⟩⟩) (ZO.lt ⟨YD,⟨Yb,YT⟩,Xr,l_id,⟨YH,YG,ZZ⟩,Xh,⟨ZS,Yo⟩,⟨YF,YB,ZT⟩⟩).peer=_ from hol.symm];rfl
    have h3:Wn (ZK.nd ⟨⟨⟨Za,Zb⟩,⟨Zf,Zh⟩,⟨Zj,Zi,Zg⟩,⟨Ze,Zd,Zc⟩⟩,Zt,Zs,ZC,Zz,ZL,ZB,Zy,Zu,Zo,Zv,Zn,Zx,⟨Zr,Zq,Zl⟩,ZE,ZF⟩) (ZO.lt ⟨YD,⟨Yb,YT⟩,Xr,l_id,⟨YH,YG,ZZ⟩,Xh,⟨ZS,Yo⟩,⟨YF,YB,ZT⟩⟩)=(ZK.nd ⟨⟨⟨wa,wi⟩,⟨wq,wj⟩,⟨w1a,w1c,w1l⟩,⟨w2a,w2c,w2l⟩⟩,Zt,Zs,ZC,Zz,ZL,ZB,Zy,Zu,Zo,Zv,Zn,Zx,⟨Zr,Zq,Zl⟩,ZE,ZF⟩,[]):=(does8 hk).trans (congrArg (fun x=>(x,([]:List Snd))) (bye_no h2 (fun q1 q2=>(by
     replace q1:(Wi (ZN.tb ⟨⟨Za,Zb⟩,⟨Zf,Zh⟩,⟨Zj,Zi,Zg⟩,⟨Ze,Zd,Zc⟩⟩)).addr=Yb:=q1
     replace q2:0<ZT.length:=q2
     rw [hfi] at q1
     contradiction))))
    refine ⟨_,M2,[(bw,rowO (ZQ.segs ⟨⟨⟨⟨wa,wi⟩,⟨wq,wj⟩,⟨w1a,w1c,w1l⟩,⟨w2a,w2c,w2l⟩⟩,Zt,Zs,ZC,Zz,ZL,ZB,Zy,Zu,Zo,Zv,Zn,Zx,⟨Zr,Zq,Zl⟩,ZE,ZF⟩,⟨none,0,[]⟩⟩) 68)],rfl,(hm1.trans hm2),hw.c,rfl,⟨⟨⟨wa,wi⟩,⟨wq,wj⟩,⟨w1a,w1c,w1l⟩,⟨w2a,w2c,w2l⟩⟩,Zt,Zs,ZC,Zz,ZL,ZB,Zy,Zu,Zo,Zv,Zn,Zx,⟨Zr,Zq,Zl⟩,ZE,ZF⟩,⟨none,0,[]⟩,rfl,?_,?_,⟨okl,((YI.mono hm1).mono hm2)⟩,SlK.nil,fun y hy=>by cases hy⟩
    ·rw [h3] <;> rfl
    ·rw [h3] <;> rfl
  ·replace hc2:=dF hc2
   refine YE (Zp (Y_pk [5,3,0] ?_));refine ZJ ?_
   have s_lp9:=Wp.mono hm1
   refine Zm (l:=[0,1,2,3,4,5,6]) rfl ?_
   iterate 2 refine ZA ?_
   refine Yw 55 rfl (fun hc5=>?_) (fun hc5=>?_)
   ·replace hc5:=dT hc5
    refine Zk F.foff44_7 ?_;refine ZH F.lay26 ?_;refine YW F.elem26 ?_;refine YJ ?_;refine ZM ?_;refine Zw (Zp (Y_pk [60,3,0] ?_))
    refine YC rfl (fun hc6=>?_) (fun hc6=>?_)
    ·replace hc6:=dT hc6
     refine C_region_anyW (l:=[0,1,2,3,4,5,6,7,8]) [8] #[0,0,2,6,14,0,32,96,255] (_) rfl (by kernel_rfl) (by kernel_rfl) St.drawn (fun _ h=>h) ?_;refine ZA ?_;refine Zk F.foff44_7 ?_;refine ZH F.lay26 ?_;refine YM rfl rfl rfl rfl F.elem26 (by rfl) (by (simp;omega)) (by exact SlM.plain (by assumption) (by (simp;omega))) rfl ?_;refine Xs rfl rfl rfl (by assumption) (by exact XQ (by (simp;omega))) F.lay25 rfl rfl rfl ?_;refine Zk F.foff44_7 ?_;refine ZH F.lay26 ?_;refine WW rfl rfl rfl (.some (k:=1) rfl rfl) .none .none F.elem26 (by simp only [Option.getD_none];omega) (by simp only [Option.getD_some,Option.getD_none];omega) (by simp only [Option.getD_some,Option.getD_none];omega) (by simp) (pieceV_drop (l:=ZT) (k:=1)) rfl ?_;refine Vg rfl rfl rfl F.ok82 rfl (adopt_ok M1 bw oa oi oq oj o1a o2a Zr o1c o2c Zq o1l o2l Zl Zt Zs ZC Zz ZL ZB Zy Zu Zo Zv Zn Zx ZE ZF okt ZT[0] ⟨_,_,ZT.drop 1⟩ ((XE.mono hm1).drop 1 (by omega))) (by repeat first|exact Rem.here _|exact Rem.two|apply Rem.skip|apply Rem.over) (YN rfl) ?_
     rintro _ M3 hs3 hm3 ⟨rfl,⟨⟨ua,ui⟩,⟨uq,uj⟩,⟨u1a,u1c,u1l⟩,⟨u2a,u2c,u2l⟩⟩,rfl,oku,hv1⟩
     simp only [List.append_assoc,List.cons_append,List.nil_append]
     refine Zw (WE ?_)
     refine Yg (.inl rfl) (.nil) (fun w hw=>?_)
     have h2:ZK.nd ⟨⟨⟨oa,oi⟩,⟨oq,oj⟩,⟨o1a,o1c,o1l⟩,⟨o2a,o2c,o2l⟩⟩,Zt,Zs,ZC,Zz,ZL,ZB,Zy,Zu,Zo,Zv,Zn,Zx,⟨Zr,Zq,Zl⟩,ZE,ZF⟩={ ZK.nd ⟨⟨⟨Za,Zb⟩,⟨Zf,Zh⟩,⟨Zj,Zi,Zg⟩,⟨Ze,Zd,Zc⟩⟩,Zt,Zs,ZC,Zz,ZL,ZB,Zy,Zu,Zo,Zv,Zn,Zx,⟨Zr,Zq,Zl⟩,ZE,ZF⟩ with table:=byeT (ZK.nd ⟨⟨⟨Za,Zb⟩,⟨Zf,Zh⟩,⟨Zj,Zi,Zg⟩,⟨Ze,Zd,Zc⟩⟩,Zt,Zs,ZC,Zz,ZL,ZB,Zy,Zu,Zo,Zv,Zn,Zx,⟨Zr,Zq,Zl⟩,ZE,ZF⟩) (ZO.lt ⟨YD,⟨Yb,YT⟩,Xr,l_id,⟨YH,YG,ZZ⟩,Xh,⟨ZS,Yo⟩,⟨YF,YB,ZT⟩⟩) }:=by
      unfold byeT
      rw [if_neg (show ¬(ZK.nd ⟨⟨⟨Za,Zb⟩,⟨Zf,Zh⟩,⟨Zj,Zi,Zg⟩,⟨Ze,Zd,Zc⟩⟩,Zt,Zs,ZC,Zz,ZL,ZB,Zy,Zu,Zo,Zv,Zn,Zx,⟨Zr,Zq,Zl⟩,ZE,ZF⟩).table.pred.addr=(ZO.lt ⟨YD,⟨Yb,YT⟩,Xr,l_id,⟨YH,YG,ZZ⟩,Xh,⟨ZS,Yo⟩,⟨YF,YB,ZT⟩⟩).frm.addr from (show ¬Zf=Yb by assumption)),show XM (ZK.nd ⟨⟨⟨Za,Zb⟩,⟨Zf,Zh⟩,⟨Zj,Zi,Zg⟩,⟨Ze,Zd,Zc⟩⟩,Zt,Zs,ZC,Zz,ZL,ZB,Zy,Zu,Zo,Zv,Zn,Zx,⟨Zr,Zq,Zl⟩,ZE,ZF⟩).table (ZO.lt ⟨YD,⟨Yb,YT⟩,Xr,l_id,⟨YH,YG,ZZ⟩,Xh,⟨ZS,Yo⟩,⟨YF,YB,ZT⟩⟩).frm.addr=_ from hot.symm];rfl
     have h3:Wn (ZK.nd ⟨⟨⟨Za,Zb⟩,⟨Zf,Zh⟩,⟨Zj,Zi,Zg⟩,⟨Ze,Zd,Zc⟩⟩,Zt,Zs,ZC,Zz,ZL,ZB,Zy,Zu,Zo,Zv,Zn,Zx,⟨Zr,Zq,Zl⟩,ZE,ZF⟩) (ZO.lt ⟨YD,⟨Yb,YT⟩,Xr,l_id,⟨YH,YG,ZZ⟩,Xh,⟨ZS,Yo⟩,⟨YF,YB,ZT⟩⟩)=(ZK.nd ⟨⟨⟨ua,ui⟩,⟨uq,uj⟩,⟨u1a,u1c,u1l⟩,⟨u2a,u2c,u2l⟩⟩,Zt,Zs,ZC,Zz,ZL,ZB,Zy,Zu,Zo,Zv,Zn,Zx,⟨Zr,Zq,Zl⟩,ZE,ZF⟩,[]):=(does8 hk).trans (congrArg (fun x=>(x,([]:List Snd))) ((bye_yes h2 (show (Wi (ZN.tb ⟨⟨Za,Zb⟩,⟨Zf,Zh⟩,⟨Zj,Zi,Zg⟩,⟨Ze,Zd,Zc⟩⟩)).addr=Yb by rw [hfi];assumption) (show 0<ZT.length by omega)).trans hv1.symm))
     refine ⟨_,M3,[(bw,rowO (ZQ.segs ⟨⟨⟨⟨ua,ui⟩,⟨uq,uj⟩,⟨u1a,u1c,u1l⟩,⟨u2a,u2c,u2l⟩⟩,Zt,Zs,ZC,Zz,ZL,ZB,Zy,Zu,Zo,Zv,Zn,Zx,⟨Zr,Zq,Zl⟩,ZE,ZF⟩,⟨none,0,[]⟩⟩) 68)],rfl,(hm1.trans hm3),hw.c,rfl,⟨⟨⟨ua,ui⟩,⟨uq,uj⟩,⟨u1a,u1c,u1l⟩,⟨u2a,u2c,u2l⟩⟩,Zt,Zs,ZC,Zz,ZL,ZB,Zy,Zu,Zo,Zv,Zn,Zx,⟨Zr,Zq,Zl⟩,ZE,ZF⟩,⟨none,0,[]⟩,rfl,?_,?_,⟨oku,(YI.mono hm1).mono hm3⟩,SlK.nil,fun y hy=>by cases hy⟩
     ·rw [h3] <;> rfl
     ·rw [h3] <;> rfl
    ·replace hc6:=dF hc6
     refine YE ?_
     refine Yg (.inl rfl) (.nil) (fun w hw=>?_)
     have h2:ZK.nd ⟨⟨⟨oa,oi⟩,⟨oq,oj⟩,⟨o1a,o1c,o1l⟩,⟨o2a,o2c,o2l⟩⟩,Zt,Zs,ZC,Zz,ZL,ZB,Zy,Zu,Zo,Zv,Zn,Zx,⟨Zr,Zq,Zl⟩,ZE,ZF⟩={ ZK.nd ⟨⟨⟨Za,Zb⟩,⟨Zf,Zh⟩,⟨Zj,Zi,Zg⟩,⟨Ze,Zd,Zc⟩⟩,Zt,Zs,ZC,Zz,ZL,ZB,Zy,Zu,Zo,Zv,Zn,Zx,⟨Zr,Zq,Zl⟩,ZE,ZF⟩ with table:=byeT (ZK.nd ⟨⟨⟨Za,Zb⟩,⟨Zf,Zh⟩,⟨Zj,Zi,Zg⟩,⟨Ze,Zd,Zc⟩⟩,Zt,Zs,ZC,Zz,ZL,ZB,Zy,Zu,Zo,Zv,Zn,Zx,⟨Zr,Zq,Zl⟩,ZE,ZF⟩) (ZO.lt ⟨YD,⟨Yb,YT⟩,Xr,l_id,⟨YH,YG,ZZ⟩,Xh,⟨ZS,Yo⟩,⟨YF,YB,ZT⟩⟩) }:=by
      unfold byeT
      rw [if_neg (show ¬(ZK.nd ⟨⟨⟨Za,Zb⟩,⟨Zf,Zh⟩,⟨Zj,Zi,Zg⟩,⟨Ze,Zd,Zc⟩⟩,Zt,Zs,ZC,Zz,ZL,ZB,Zy,Zu,Zo,Zv,Zn,Zx,⟨Zr,Zq,Zl⟩,ZE,ZF⟩).table.pred.addr=(ZO.lt ⟨YD,⟨Yb,YT⟩,Xr,l_id,⟨YH,YG,ZZ⟩,Xh,⟨ZS,Yo⟩,⟨YF,YB,ZT⟩⟩).frm.addr from (show ¬Zf=Yb by assumption)),show XM (ZK.nd ⟨⟨⟨Za,Zb⟩,⟨Zf,Zh⟩,⟨Zj,Zi,Zg⟩,⟨Ze,Zd,Zc⟩⟩,Zt,Zs,ZC,Zz,ZL,ZB,Zy,Zu,Zo,Zv,Zn,Zx,⟨Zr,Zq,Zl⟩,ZE,ZF⟩).table (ZO.lt ⟨YD,⟨Yb,YT⟩,Xr,l_id,⟨YH,YG,ZZ⟩,Xh,⟨ZS,Yo⟩,⟨YF,YB,ZT⟩⟩).frm.addr=_ from hot.symm];rfl
     have h3:Wn (ZK.nd ⟨⟨⟨Za,Zb⟩,⟨Zf,Zh⟩,⟨Zj,Zi,Zg⟩,⟨Ze,Zd,Zc⟩⟩,Zt,Zs,ZC,Zz,ZL,ZB,Zy,Zu,Zo,Zv,Zn,Zx,⟨Zr,Zq,Zl⟩,ZE,ZF⟩) (ZO.lt ⟨YD,⟨Yb,YT⟩,Xr,l_id,⟨YH,YG,ZZ⟩,Xh,⟨ZS,Yo⟩,⟨YF,YB,ZT⟩⟩)=(ZK.nd ⟨⟨⟨oa,oi⟩,⟨oq,oj⟩,⟨o1a,o1c,o1l⟩,⟨o2a,o2c,o2l⟩⟩,Zt,Zs,ZC,Zz,ZL,ZB,Zy,Zu,Zo,Zv,Zn,Zx,⟨Zr,Zq,Zl⟩,ZE,ZF⟩,[]):=(does8 hk).trans (congrArg (fun x=>(x,([]:List Snd))) (bye_no h2 (fun q1 q2=>(by
      replace q1:(Wi (ZN.tb ⟨⟨Za,Zb⟩,⟨Zf,Zh⟩,⟨Zj,Zi,Zg⟩,⟨Ze,Zd,Zc⟩⟩)).addr=Yb:=q1
      replace q2:0<ZT.length:=q2
      rw [hfi] at q1
      (exfalso;omega)))))
     refine ⟨_,M1,[(bw,rowO (ZQ.segs ⟨⟨⟨⟨oa,oi⟩,⟨oq,oj⟩,⟨o1a,o1c,o1l⟩,⟨o2a,o2c,o2l⟩⟩,Zt,Zs,ZC,Zz,ZL,ZB,Zy,Zu,Zo,Zv,Zn,Zx,⟨Zr,Zq,Zl⟩,ZE,ZF⟩,⟨none,0,[]⟩⟩) 68)],rfl,hm1,hw.c,rfl,⟨⟨⟨oa,oi⟩,⟨oq,oj⟩,⟨o1a,o1c,o1l⟩,⟨o2a,o2c,o2l⟩⟩,Zt,Zs,ZC,Zz,ZL,ZB,Zy,Zu,Zo,Zv,Zn,Zx,⟨Zr,Zq,Zl⟩,ZE,ZF⟩,⟨none,0,[]⟩,rfl,?_,?_,⟨okt,(YI.mono hm1)⟩,SlK.nil,fun y hy=>by cases hy⟩
     ·rw [h3] <;> rfl
     ·rw [h3] <;> rfl
   ·replace hc5:=dF hc5
    iterate 4 refine ZY ?_
    refine ZM ?_;refine Zw (Zp (Y_pk [60,3,0] ?_));refine Wz rfl ?_;refine YE ?_
    refine Yg (.inl rfl) (.nil) (fun w hw=>?_)
    have h2:ZK.nd ⟨⟨⟨oa,oi⟩,⟨oq,oj⟩,⟨o1a,o1c,o1l⟩,⟨o2a,o2c,o2l⟩⟩,Zt,Zs,ZC,Zz,ZL,ZB,Zy,Zu,Zo,Zv,Zn,Zx,⟨Zr,Zq,Zl⟩,ZE,ZF⟩={ ZK.nd ⟨⟨⟨Za,Zb⟩,⟨Zf,Zh⟩,⟨Zj,Zi,Zg⟩,⟨Ze,Zd,Zc⟩⟩,Zt,Zs,ZC,Zz,ZL,ZB,Zy,Zu,Zo,Zv,Zn,Zx,⟨Zr,Zq,Zl⟩,ZE,ZF⟩ with table:=byeT (ZK.nd ⟨⟨⟨Za,Zb⟩,⟨Zf,Zh⟩,⟨Zj,Zi,Zg⟩,⟨Ze,Zd,Zc⟩⟩,Zt,Zs,ZC,Zz,ZL,ZB,Zy,Zu,Zo,Zv,Zn,Zx,⟨Zr,Zq,Zl⟩,ZE,ZF⟩) (ZO.lt ⟨YD,⟨Yb,YT⟩,Xr,l_id,⟨YH,YG,ZZ⟩,Xh,⟨ZS,Yo⟩,⟨YF,YB,ZT⟩⟩) }:=by
     unfold byeT
     rw [if_neg (show ¬(ZK.nd ⟨⟨⟨Za,Zb⟩,⟨Zf,Zh⟩,⟨Zj,Zi,Zg⟩,⟨Ze,Zd,Zc⟩⟩,Zt,Zs,ZC,Zz,ZL,ZB,Zy,Zu,Zo,Zv,Zn,Zx,⟨Zr,Zq,Zl⟩,ZE,ZF⟩).table.pred.addr=(ZO.lt ⟨YD,⟨Yb,YT⟩,Xr,l_id,⟨YH,YG,ZZ⟩,Xh,⟨ZS,Yo⟩,⟨YF,YB,ZT⟩⟩).frm.addr from (show ¬Zf=Yb by assumption)),show XM (ZK.nd ⟨⟨⟨Za,Zb⟩,⟨Zf,Zh⟩,⟨Zj,Zi,Zg⟩,⟨Ze,Zd,Zc⟩⟩,Zt,Zs,ZC,Zz,ZL,ZB,Zy,Zu,Zo,Zv,Zn,Zx,⟨Zr,Zq,Zl⟩,ZE,ZF⟩).table (ZO.lt ⟨YD,⟨Yb,YT⟩,Xr,l_id,⟨YH,YG,ZZ⟩,Xh,⟨ZS,Yo⟩,⟨YF,YB,ZT⟩⟩).frm.addr=_ from hot.symm];rfl
    have h3:Wn (ZK.nd ⟨⟨⟨Za,Zb⟩,⟨Zf,Zh⟩,⟨Zj,Zi,Zg⟩,⟨Ze,Zd,Zc⟩⟩,Zt,Zs,ZC,Zz,ZL,ZB,Zy,Zu,Zo,Zv,Zn,Zx,⟨Zr,Zq,Zl⟩,ZE,ZF⟩) (ZO.lt ⟨YD,⟨Yb,YT⟩,Xr,l_id,⟨YH,YG,ZZ⟩,Xh,⟨ZS,Yo⟩,⟨YF,YB,ZT⟩⟩)=(ZK.nd ⟨⟨⟨oa,oi⟩,⟨oq,oj⟩,⟨o1a,o1c,o1l⟩,⟨o2a,o2c,o2l⟩⟩,Zt,Zs,ZC,Zz,ZL,ZB,Zy,Zu,Zo,Zv,Zn,Zx,⟨Zr,Zq,Zl⟩,ZE,ZF⟩,[]):=(does8 hk).trans (congrArg (fun x=>(x,([]:List Snd))) (bye_no h2 (fun q1 q2=>(by
     replace q1:(Wi (ZN.tb ⟨⟨Za,Zb⟩,⟨Zf,Zh⟩,⟨Zj,Zi,Zg⟩,⟨Ze,Zd,Zc⟩⟩)).addr=Yb:=q1
     replace q2:0<ZT.length:=q2
     rw [hfi] at q1
     contradiction))))
    refine ⟨_,M1,[(bw,rowO (ZQ.segs ⟨⟨⟨⟨oa,oi⟩,⟨oq,oj⟩,⟨o1a,o1c,o1l⟩,⟨o2a,o2c,o2l⟩⟩,Zt,Zs,ZC,Zz,ZL,ZB,Zy,Zu,Zo,Zv,Zn,Zx,⟨Zr,Zq,Zl⟩,ZE,ZF⟩,⟨none,0,[]⟩⟩) 68)],rfl,hm1,hw.c,rfl,⟨⟨⟨oa,oi⟩,⟨oq,oj⟩,⟨o1a,o1c,o1l⟩,⟨o2a,o2c,o2l⟩⟩,Zt,Zs,ZC,Zz,ZL,ZB,Zy,Zu,Zo,Zv,Zn,Zx,⟨Zr,Zq,Zl⟩,ZE,ZF⟩,⟨none,0,[]⟩,rfl,?_,?_,⟨okt,(YI.mono hm1)⟩,SlK.nil,fun y hy=>by cases hy⟩
    ·rw [h3] <;> rfl
    ·rw [h3] <;> rfl
end Go.Proofs.YtajmnjefajknoaaGreat
namespace Go.Proofs.YtajmnjefajknoaaGreat
open Go.Esp
theorem F.map78:mapOf Tryz.prog 78=some (3,76):=by kernel_rfl
theorem F.ok30:okFn Tryz.prog 30=true:=by kernel_rfl
theorem F.ok45:okFn Tryz.prog 45=true:=by kernel_rfl
theorem F.ok46:okFn Tryz.prog 46=true:=by kernel_rfl
theorem F.ok47:okFn Tryz.prog 47=true:=by kernel_rfl
theorem F.ok48:okFn Tryz.prog 48=true:=by kernel_rfl
theorem F.ok49:okFn Tryz.prog 49=true:=by kernel_rfl
theorem F.ok50:okFn Tryz.prog 50=true:=by kernel_rfl
theorem F.ok51:okFn Tryz.prog 51=true:=by kernel_rfl
theorem F.ok52:okFn Tryz.prog 52=true:=by kernel_rfl
theorem F.zero76:WC Tryz.prog 76=some (.nilFunc):=by kernel_rfl
theorem Take_yes (M:Mem) (n:ZK) (l:ZO) (hn0:ZK.ok M n) (hl1:ZO.ok M l) (kind:Int) (fid:FuncId) (hkk:l.kind=kind) (hl:(Vm (VQ (VQ (VQ (VQ (VQ (VQ (VQ (VQ [] 1 (.func (.func 45) #[] #[])) 2 (.func (.func 46) #[] #[])) 3 (.func (.func 47) #[] #[])) 4 (.func (.func 48) #[] #[])) 5 (.func (.func 49) #[] #[])) 6 (.func (.func 50) #[] #[])) 7 (.func (.func 51) #[] #[])) 8 (.func (.func 52) #[] #[])) l.kind).getD .nilFunc=.func (.func fid) #[] #[]) (hok:okFn Tryz.prog fid=true)
   (hc:∀ (M:Mem) (bw:Nat) (Za:Int) (Zb:Plc) (Zf:Int) (Zh:Plc) (Zj Ze Zr:Option Addr) (Zi Zd Zq:Nat) (Zg Zc:List ZI) (Zl:List Int) (Zt:Int) (Zs:Bool) (ZC Zz ZL ZB Zy Zu Zo Zv Zn:Int) (Zx:Plc) (ZE ZF:Int) (Yt:ZN.ok M ⟨⟨Za,Zb⟩,⟨Zf,Zh⟩,⟨Zj,Zi,Zg⟩,⟨Ze,Zd,Zc⟩⟩) (YI:SlK M (oneI .i64) 1 ⟨Zr,Zq,Zl⟩) (hbig:Zg.length≤40∧Zc.length≤200) (hLa:Zl.length≤1000) (hh:0≤ZE∧ZE≤1000) (l:ZO) (hl0:ZO.ok M l) (hLp:l.peers.l.length≤1000) (hk:l.kind=kind),Fh Tryz.prog fid [.pointer (some ⟨bw,0,none⟩),l.enc] M [(bw,rowO (ZQ.segs ⟨⟨⟨⟨Za,Zb⟩,⟨Zf,Zh⟩,⟨Zj,Zi,Zg⟩,⟨Ze,Zd,Zc⟩⟩,Zt,Zs,ZC,Zz,ZL,ZB,Zy,Zu,Zo,Zv,Zn,Zx,⟨Zr,Zq,Zl⟩,ZE,ZF⟩,⟨none,0,[]⟩⟩) 68)] (fun M' v Hout=>v=.tuple #[]∧WkF bw 68 M' Hout (Wn (ZK.nd ⟨⟨⟨Za,Zb⟩,⟨Zf,Zh⟩,⟨Zj,Zi,Zg⟩,⟨Ze,Zd,Zc⟩⟩,Zt,Zs,ZC,Zz,ZL,ZB,Zy,Zu,Zo,Zv,Zn,Zx,⟨Zr,Zq,Zl⟩,ZE,ZF⟩) l.lt))):Esp.Fn Tryz.prog 17 [n.enc,l.enc] M (fun M' v=>NtE M' v (Uw n.nd l.lt)):=by
  obtain ⟨⟨⟨Za,Zb⟩,⟨Zf,Zh⟩,⟨Zj,Zi,Zg⟩,⟨Ze,Zd,Zc⟩⟩,Zt,Zs,ZC,Zz,ZL,ZB,Zy,Zu,Zo,Zv,Zn,Zx,⟨Zr,Zq,Zl⟩,ZE,ZF⟩:=n
  obtain ⟨YD,⟨Yb,YT⟩,Xr,l_id,⟨YH,YG,ZZ⟩,Xh,⟨ZS,Yo⟩,⟨YF,YB,ZT⟩⟩:=l
  have Yt:ZN.ok M ⟨⟨Za,Zb⟩,⟨Zf,Zh⟩,⟨Zj,Zi,Zg⟩,⟨Ze,Zd,Zc⟩⟩:=hn0.h0
  have YU:SlK M ZI.segs 21 ⟨Zj,Zi,Zg⟩:=hn0.h0.h0
  have Wt:SlM M Zj (Zg.map ZI.segs) 21:=YU.h1
  have Wv:(Zg.map ZI.segs).length=Zg.length:=List.length_map ..
  have Ww:Zg.length≤9223372036854775807:=YU.h2
  have Wx:Zg.length≤Zi:=YU.h3
  have YK:SlK M ZI.segs 21 ⟨Ze,Zd,Zc⟩:=hn0.h0.h1
  have Wd:SlM M Ze (Zc.map ZI.segs) 21:=YK.h1
  have Wf:(Zc.map ZI.segs).length=Zc.length:=List.length_map ..
  have Wg:Zc.length≤9223372036854775807:=YK.h2
  have Wh:Zc.length≤Zd:=YK.h3
  have YI:SlK M (oneI .i64) 1 ⟨Zr,Zq,Zl⟩:=hn0.h1
  have WZ:SlM M Zr (Zl.map (oneI .i64)) 1:=YI.h1
  have Vt:(Zl.map (oneI .i64)).length=Zl.length:=List.length_map ..
  have Vj:Zl.length≤9223372036854775807:=YI.h2
  have Vu:Zl.length≤Zq:=YI.h3
  have Wm:SlK M (oneI .i64) 1 ⟨YH,YG,ZZ⟩:=hl1.h0
  have s_l_avoid:SlM M YH (ZZ.map (oneI .i64)) 1:=Wm.h1
  have n_l_avoid:(ZZ.map (oneI .i64)).length=ZZ.length:=List.length_map ..
  have m_l_avoid:ZZ.length≤9223372036854775807:=Wm.h2
  have c_l_avoid:ZZ.length≤YG:=Wm.h3
  have XE:SlK M ZI.segs 21 ⟨YF,YB,ZT⟩:=hl1.h1
  have Wp:SlM M YF (ZT.map ZI.segs) 21:=XE.h1
  have VC:(ZT.map ZI.segs).length=ZT.length:=List.length_map ..
  have m_l_peers:ZT.length≤9223372036854775807:=XE.h2
  have VD:ZT.length≤YB:=XE.h3
  subst hkk
  simp only at hl
  refine WB Tryz.func17 rfl Tryz.ntmps17 rfl ?_;intro H
  refine ZJ (Zm (l:=[0,1,2,3,4]) rfl ?_)
  refine Xv ?_;intro b1
  refine Xv ?_;intro b2
  refine YQ F.zero32 ?_;intro b3
  iterate 2 refine ZD ?_
  refine Zw (Zp (Y_pk [6,5,4,3,2] ?_))
  iterate 2 refine ZJ ?_
  refine Zm (l:=[0,1,2,3,4,5,6,7]) rfl ?_;refine ZH F.lay32 ?_;refine X_fs rfl rfl F.ok27 rfl (IsN_ok _ ⟨⟨⟨Za,Zb⟩,⟨Zf,Zh⟩,⟨Zj,Zi,Zg⟩,⟨Ze,Zd,Zc⟩⟩,Zt,Zs,ZC,Zz,ZL,ZB,Zy,Zu,Zo,Zv,Zn,Zx,⟨Zr,Zq,Zl⟩,ZE,ZF⟩ hn0) rfl ?_
  rintro _ rfl
  refine XP ?_;refine ZA ?_
  refine Yw 12 rfl (fun hc4=>?_) (fun hc4=>?_)
  ·replace hc4:=nT hc4
   iterate 3 refine ZY ?_
   refine ZM ?_;refine Zw (Zp (Y_pk [16,6,5,4,3,2] ?_));refine Xw rfl ?_;refine ZJ (Zm (l:=[0,1,2,3]) rfl ?_);refine Xy rfl rfl F.bld32 (.nil) rfl rfl ?_;refine Xq F.lay32 ?_
   iterate 2 refine ZD ?_
   refine Zw (Zp (Y_pk [6,5,4,3,2] ?_));refine Yq (YS ?_)
   refine Yg (.inr rfl) (.cell rfl (by repeat first|exact List.Mem.head _|refine List.Mem.tail _ ?_|refine List.mem_append_right _ ?_) F.lay32 rfl rfl (.tmp rfl (.tmp rfl .nil))) (fun w hw=>?_)
   refine ⟨_,M,rfl,Mem.le.refl M,hw.c,ZK.zero,⟨none,0,[]⟩,?_,?_,?_,ZK.zero_ok _,SlK.nil,fun y hy=>by cases hy⟩
   ·rw [VH (by (rintro ⟨q1,q2⟩;first|contradiction|(simp_all;done)))];rfl
   ·rw [VH (by (rintro ⟨q1,q2⟩;first|contradiction|(simp_all;done)))];rfl
   ·rw [VH (by (rintro ⟨q1,q2⟩;first|contradiction|(simp_all;done)))];rfl
  ·replace hc4:=nF hc4
   refine ZH F.lay44 ?_;refine X_fs rfl rfl F.ok30 rfl (IsL_ok _ ⟨YD,⟨Yb,YT⟩,Xr,l_id,⟨YH,YG,ZZ⟩,Xh,⟨ZS,Yo⟩,⟨YF,YB,ZT⟩⟩ hl1) rfl ?_
   rintro _ rfl
   refine XP ?_;refine ZM ?_;refine Zw (Zp (Y_pk [16,6,5,4,3,2] ?_))
   refine YC rfl (fun hc5=>?_) (fun hc5=>?_)
   ·replace hc5:=nT hc5
    refine ZJ (Zm (l:=[0,1,2,3]) rfl ?_);refine Xy rfl rfl F.bld32 (.nil) rfl rfl ?_;refine Xq F.lay32 ?_
    iterate 2 refine ZD ?_
    refine Zw (Zp (Y_pk [6,5,4,3,2] ?_));refine Yq (YS ?_)
    refine Yg (.inr rfl) (.cell rfl (by repeat first|exact List.Mem.head _|refine List.Mem.tail _ ?_|refine List.mem_append_right _ ?_) F.lay32 rfl rfl (.tmp rfl (.tmp rfl .nil))) (fun w hw=>?_)
    refine ⟨_,M,rfl,Mem.le.refl M,hw.c,ZK.zero,⟨none,0,[]⟩,?_,?_,?_,ZK.zero_ok _,SlK.nil,fun y hy=>by cases hy⟩
    ·rw [VH (by (rintro ⟨q1,q2⟩;first|contradiction|(simp_all;done)))];rfl
    ·rw [VH (by (rintro ⟨q1,q2⟩;first|contradiction|(simp_all;done)))];rfl
    ·rw [VH (by (rintro ⟨q1,q2⟩;first|contradiction|(simp_all;done)))];rfl
   ·replace hc5:=nF hc5
    refine YE (Zp (Y_pk [6,5,4,3,2] ?_));refine ZJ ?_
    have hnd9:IsNd (ZK.nd ⟨⟨⟨Za,Zb⟩,⟨Zf,Zh⟩,⟨Zj,Zi,Zg⟩,⟨Ze,Zd,Zc⟩⟩,Zt,Zs,ZC,Zz,ZL,ZB,Zy,Zu,Zo,Zv,Zn,Zx,⟨Zr,Zq,Zl⟩,ZE,ZF⟩):=by assumption
    have hlt9:IsLt (ZO.lt ⟨YD,⟨Yb,YT⟩,Xr,l_id,⟨YH,YG,ZZ⟩,Xh,⟨ZS,Yo⟩,⟨YF,YB,ZT⟩⟩):=by assumption
    have htb9:IsTb (ZN.tb ⟨⟨Za,Zb⟩,⟨Zf,Zh⟩,⟨Zj,Zi,Zg⟩,⟨Ze,Zd,Zc⟩⟩):=hnd9.1
    have hav9:Zl.length≤16:=hnd9.2.2.2.2.1
    have hho9:0≤ZE∧ZE≤64:=hnd9.2.2.2.2.2.1
    have hpl9:ZT.length≤8:=hlt9.2.2.2.1
    refine Zm (l:=[0,1,2,3,4,5,6,7,8,9,10]) rfl ?_
    refine X_makeMap rfl rfl rfl ?_;intro b6
    refine Vk rfl rfl rfl rfl rfl F.map78 imO_nil (by repeat first|exact List.Mem.head _|refine List.Mem.tail _ ?_|refine List.mem_append_right _ ?_) ?_;intro o7 him8;refine ⟨_,(by repeat first|exact Upd.head|apply Upd.tail|apply Upd.over),?_⟩
    refine Vk rfl rfl rfl rfl rfl F.map78 him8 (by repeat first|exact List.Mem.head _|refine List.Mem.tail _ ?_|refine List.mem_append_right _ ?_) ?_;intro o9 him10;refine ⟨_,(by repeat first|exact Upd.head|apply Upd.tail|apply Upd.over),?_⟩
    refine Vk rfl rfl rfl rfl rfl F.map78 him10 (by repeat first|exact List.Mem.head _|refine List.Mem.tail _ ?_|refine List.mem_append_right _ ?_) ?_;intro o11 him12;refine ⟨_,(by repeat first|exact Upd.head|apply Upd.tail|apply Upd.over),?_⟩
    refine Vk rfl rfl rfl rfl rfl F.map78 him12 (by repeat first|exact List.Mem.head _|refine List.Mem.tail _ ?_|refine List.mem_append_right _ ?_) ?_;intro o13 him14;refine ⟨_,(by repeat first|exact Upd.head|apply Upd.tail|apply Upd.over),?_⟩
    refine Vk rfl rfl rfl rfl rfl F.map78 him14 (by repeat first|exact List.Mem.head _|refine List.Mem.tail _ ?_|refine List.mem_append_right _ ?_) ?_;intro o15 him16;refine ⟨_,(by repeat first|exact Upd.head|apply Upd.tail|apply Upd.over),?_⟩
    refine Vk rfl rfl rfl rfl rfl F.map78 him16 (by repeat first|exact List.Mem.head _|refine List.Mem.tail _ ?_|refine List.mem_append_right _ ?_) ?_;intro o17 him18;refine ⟨_,(by repeat first|exact Upd.head|apply Upd.tail|apply Upd.over),?_⟩
    refine Vk rfl rfl rfl rfl rfl F.map78 him18 (by repeat first|exact List.Mem.head _|refine List.Mem.tail _ ?_|refine List.mem_append_right _ ?_) ?_;intro o19 him20;refine ⟨_,(by repeat first|exact Upd.head|apply Upd.tail|apply Upd.over),?_⟩
    refine Vk rfl rfl rfl rfl rfl F.map78 him20 (by repeat first|exact List.Mem.head _|refine List.Mem.tail _ ?_|refine List.mem_append_right _ ?_) ?_;intro o21 him22;refine ⟨_,(by repeat first|exact Upd.head|apply Upd.tail|apply Upd.over),?_⟩
    refine ZA ?_;refine ZD ?_;refine Zw (Zp (Y_pk [7,6,5,4,3,2] ?_));refine ZJ (Zm (l:=[0,1,2]) rfl ?_);refine ZH F.lay32 ?_;refine VV rfl rfl F.ok36 rfl (of_ok M _ _ _ _ _ _ _ _ _ _ _ _ _ _ _ _ _ _ _ _ _ _ _ _ _ _ _ YI (by omega)) (by repeat first|exact Rem.here _|exact Rem.two|apply Rem.skip|apply Rem.over) (fun _ _ _ hm hw=>(hw.lower (by exact hm)).c) (YN rfl) ?_
    rintro v1 M1 hs1 hm1 ⟨hM1,bw,s_a,s_c,hs9,rfl,rfl,ho9⟩;subst M1
    simp only [List.append_assoc,List.cons_append,List.nil_append]
    refine ZD ?_;refine Zw (Zp (Y_pk [8,7,6,5,4,3] ?_))
    iterate 2 refine ZJ ?_
    refine Un ho9 (by repeat first|exact Rem.here _|exact Rem.two|apply Rem.skip|apply Rem.over) (fun M2 hM2 k9=>?_)
    refine Zm (l:=[0,1,2,3]) rfl ?_;refine ZA ?_;refine Zk F.foff44_1 ?_;refine ZH F.lay25 ?_;refine X_fo rfl rfl F.ok53 rfl (wother_ok M2 bw Za Zb Zf Zh Zj Ze s_a Zi Zd s_c Zg Zc Zl Zt Zs ZC Zz ZL ZB Zy Zu Zo Zv Zn Zx ZE ZF ⟨Yb,YT⟩) (by repeat first|exact Rem.here _|exact Rem.two|apply Rem.skip|apply Rem.over) (YN rfl) ?_
    rintro _ MZ _ ⟨hMZ,rfl⟩;subst MZ
    refine Zw (Zp (Y_pk [25,8,7,6,5,4,3] ?_))
    refine YC rfl (fun hc23=>?_) (fun hc23=>?_)
    ·replace hc23:=dT hc23
     refine XW (l:=[0,1,2,3,4,5,6]) [6] rfl ?_;refine ZA ?_;refine Zk F.foff44_0 ?_;refine ZH F.lay3 ?_;refine X_lookup rfl rfl rfl rfl F.map78 F.zero76 (by repeat first|exact List.Mem.head _|refine List.Mem.tail _ ?_|refine List.mem_append_right _ ?_) him22 (show (Vm (VQ (VQ (VQ (VQ (VQ (VQ (VQ (VQ [] 1 (.func (.func 45) #[] #[])) 2 (.func (.func 46) #[] #[])) 3 (.func (.func 47) #[] #[])) 4 (.func (.func 48) #[] #[])) 5 (.func (.func 49) #[] #[])) 6 (.func (.func 50) #[] #[])) 7 (.func (.func 51) #[] #[])) 8 (.func (.func 52) #[] #[])) YD).getD .nilFunc=.func (.func fid) #[] #[] from hl) rfl ?_;refine ZA ?_;refine ZH F.lay44 ?_;refine X_fhVW (caps:=[]) rfl rfl rfl rfl hok rfl rfl (hc M2 bw Za Zb Zf Zh Zj Ze s_a Zi Zd s_c Zg Zc Zl Zt Zs ZC Zz ZL ZB Zy Zu Zo Zv Zn Zx ZE ZF (Yt.mono hM2) k9 (isTb_small (t:=⟨⟨Za,Zb⟩,⟨Zf,Zh⟩,⟨Zj,Zi,Zg⟩,⟨Ze,Zd,Zc⟩⟩) htb9) (by omega) (by omega) ⟨YD,⟨Yb,YT⟩,Xr,l_id,⟨YH,YG,ZZ⟩,Xh,⟨ZS,Yo⟩,⟨YF,YB,ZT⟩⟩ (hl1.mono hM2) (by show ZT.length≤1000;omega) rfl) (by repeat first|exact Rem.here _|exact Rem.two|apply Rem.skip|apply Rem.over) (YN rfl) ?_
     rintro _ M3 hs3 hm3 ⟨rfl,⟨⟨⟨Yc,Yp⟩,⟨Yh,Yu⟩,⟨YA,Yz,Ye⟩,⟨Yk,Yj,Yi⟩⟩,Xn,Xo,XI,Xm,XX,Xx,Xp,Xj,YY,Xk,YZ,Xl,⟨Xc,Xb,Xa⟩,XH,XG⟩,⟨o_a,o_c,o_l⟩,rfl,hv1,hv2,okv,oko,okq⟩
     simp only [List.append_assoc,List.cons_append,List.nil_append]
     refine Zw (WE ?_);refine Zp (Y_pk [8,6,5,4] ?_);refine ZJ (C_region_anyWR (l:=[0,1,2,3,4,5,6,7,8,9,10]) (Hin:=[(b3,_)]) [8] #[0,1,3,7,0,16,48,112,15,511,1023] (by repeat first|exact Rem.here _|exact Rem.two|apply Rem.skip|apply Rem.over) rfl (by kernel_rfl) (by kernel_rfl) ?_);refine ZA ?_;refine Yf ?_;refine Zk F.foff68_0 ?_;refine ZH F.lay32 ?_;refine ZA ?_;refine Yf ?_;refine Zk F.foff68_1 ?_;refine ZH F.lay35 ?_;refine X_storeE rfl rfl rfl rfl rfl (by constructor) (by ((try simp only [cat,List.cons_append,List.nil_append,List.append_nil]);(repeat (first|exact XC|refine XN ?_|(refine YP ?_ ?_;rfl)));done)) (by repeat first|exact Upd.head|apply Upd.tail|apply Upd.over) F.lay32 (by simp only [ZI.segs,ZN.segs,ZK.segs,ZO.segs,Ys.segs,ZQ.segs,YO.segs,ZU.segs,cat,List.append_eq,List.cons_append,List.nil_append,List.append_nil,Segs.len,Seg.len,Yr]) (VN (m:=78) rfl (by simp only [ZI.segs,ZN.segs,ZK.segs,ZO.segs,Ys.segs,ZQ.segs,YO.segs,ZU.segs,cat,List.append_eq,List.cons_append,List.nil_append,List.append_nil,Segs.len,Seg.len,Yr]) (by simp only [ZI.segs,ZN.segs,ZK.segs,ZO.segs,Ys.segs,ZQ.segs,YO.segs,ZU.segs,cat,List.append_eq,List.cons_append,List.nil_append,List.append_nil,Segs.len,Seg.len,Yr])) (fun _ h=>h.c) ?_
     iterate 2 refine ZD ?_
     refine Zw (WE ?_);refine Zp (Y_pk [6,5,4] ?_);refine Yq ?_
     refine Yg (.inr rfl) (.cell rfl (by repeat first|exact List.Mem.head _|refine List.Mem.tail _ ?_|refine List.mem_append_right _ ?_) F.lay32 rfl rfl (.tmp rfl (.tmp rfl .nil))) (fun w hw=>?_)
     have h3:=take_does (n:=(ZK.nd ⟨⟨⟨Za,Zb⟩,⟨Zf,Zh⟩,⟨Zj,Zi,Zg⟩,⟨Ze,Zd,Zc⟩⟩,Zt,Zs,ZC,Zz,ZL,ZB,Zy,Zu,Zo,Zv,Zn,Zx,⟨Zr,Zq,Zl⟩,ZE,ZF⟩)) (l:=(ZO.lt ⟨YD,⟨Yb,YT⟩,Xr,l_id,⟨YH,YG,ZZ⟩,Xh,⟨ZS,Yo⟩,⟨YF,YB,ZT⟩⟩)) hnd9 hlt9 (show XU ⟨Za,Zb⟩ ⟨Yb,YT⟩ by assumption)
     exact ⟨_,M3,rfl,hM2.trans hm3,hw.c,⟨⟨⟨Yc,Yp⟩,⟨Yh,Yu⟩,⟨YA,Yz,Ye⟩,⟨Yk,Yj,Yi⟩⟩,Xn,Xo,XI,Xm,XX,Xx,Xp,Xj,YY,Xk,YZ,Xl,⟨Xc,Xb,Xa⟩,XH,XG⟩,⟨o_a,o_c,o_l⟩,by rw [h3] <;> rfl,by rw [h3];exact hv1,by rw [h3];exact hv2,okv,oko,okq⟩
    ·replace hc23:=dF hc23
     refine YE (Zp (Y_pk [8,6,5,4] ?_));refine ZJ (C_region_anyWR (l:=[0,1,2,3,4,5,6,7,8,9,10]) (Hin:=[(b3,_)]) [8] #[0,1,3,7,0,16,48,112,15,511,1023] (by repeat first|exact Rem.here _|exact Rem.two|apply Rem.skip|apply Rem.over) rfl (by kernel_rfl) (by kernel_rfl) ?_);refine ZA ?_;refine Yf ?_;refine Zk F.foff68_0 ?_;refine ZH F.lay32 ?_;refine ZA ?_;refine Yf ?_;refine Zk F.foff68_1 ?_;refine ZH F.lay35 ?_;refine X_storeE rfl rfl rfl rfl rfl (by constructor) (by ((try simp only [cat,List.cons_append,List.nil_append,List.append_nil]);(repeat (first|exact XC|refine XN ?_|(refine YP ?_ ?_;rfl)));done)) (by repeat first|exact Upd.head|apply Upd.tail|apply Upd.over) F.lay32 (by simp only [ZI.segs,ZN.segs,ZK.segs,ZO.segs,Ys.segs,ZQ.segs,YO.segs,ZU.segs,cat,List.append_eq,List.cons_append,List.nil_append,List.append_nil,Segs.len,Seg.len,Yr]) (VN (m:=78) rfl (by simp only [ZI.segs,ZN.segs,ZK.segs,ZO.segs,Ys.segs,ZQ.segs,YO.segs,ZU.segs,cat,List.append_eq,List.cons_append,List.nil_append,List.append_nil,Segs.len,Seg.len,Yr]) (by simp only [ZI.segs,ZN.segs,ZK.segs,ZO.segs,Ys.segs,ZQ.segs,YO.segs,ZU.segs,cat,List.append_eq,List.cons_append,List.nil_append,List.append_nil,Segs.len,Seg.len,Yr])) (fun _ h=>h.c) ?_
     iterate 2 refine ZD ?_
     refine Zw (WE ?_);refine Zp (Y_pk [6,5,4] ?_);refine Yq ?_
     refine Yg (.inr rfl) (.cell rfl (by repeat first|exact List.Mem.head _|refine List.Mem.tail _ ?_|refine List.mem_append_right _ ?_) F.lay32 rfl rfl (.tmp rfl (.tmp rfl .nil))) (fun w hw=>?_)
     have h3:=take_not (n:=(ZK.nd ⟨⟨⟨Za,Zb⟩,⟨Zf,Zh⟩,⟨Zj,Zi,Zg⟩,⟨Ze,Zd,Zc⟩⟩,Zt,Zs,ZC,Zz,ZL,ZB,Zy,Zu,Zo,Zv,Zn,Zx,⟨Zr,Zq,Zl⟩,ZE,ZF⟩)) (l:=(ZO.lt ⟨YD,⟨Yb,YT⟩,Xr,l_id,⟨YH,YG,ZZ⟩,Xh,⟨ZS,Yo⟩,⟨YF,YB,ZT⟩⟩)) hnd9 hlt9 (show ¬XU ⟨Za,Zb⟩ ⟨Yb,YT⟩ by assumption)
     exact ⟨_,M2,rfl,hM2,hw.c,⟨⟨⟨Za,Zb⟩,⟨Zf,Zh⟩,⟨Zj,Zi,Zg⟩,⟨Ze,Zd,Zc⟩⟩,Zt,Zs,ZC,Zz,ZL,ZB,Zy,Zu,Zo,Zv,Zn,Zx,⟨s_a,s_c,Zl⟩,ZE,ZF⟩,⟨none,0,[]⟩,by rw [h3] <;> rfl,by rw [h3] <;> rfl,by rw [h3] <;> rfl,⟨Yt.mono hM2,k9⟩,SlK.nil,fun y hy=>by cases hy⟩
theorem Take_no (M:Mem) (n:ZK) (l:ZO) (hn0:ZK.ok M n) (hl1:ZO.ok M l) (hk:¬IsLt l.lt):Esp.Fn Tryz.prog 17 [n.enc,l.enc] M (fun M' v=>NtE M' v (Uw n.nd l.lt)):=by
  obtain ⟨⟨⟨Za,Zb⟩,⟨Zf,Zh⟩,⟨Zj,Zi,Zg⟩,⟨Ze,Zd,Zc⟩⟩,Zt,Zs,ZC,Zz,ZL,ZB,Zy,Zu,Zo,Zv,Zn,Zx,⟨Zr,Zq,Zl⟩,ZE,ZF⟩:=n
  obtain ⟨YD,⟨Yb,YT⟩,Xr,l_id,⟨YH,YG,ZZ⟩,Xh,⟨ZS,Yo⟩,⟨YF,YB,ZT⟩⟩:=l
  have Yt:ZN.ok M ⟨⟨Za,Zb⟩,⟨Zf,Zh⟩,⟨Zj,Zi,Zg⟩,⟨Ze,Zd,Zc⟩⟩:=hn0.h0
  have YU:SlK M ZI.segs 21 ⟨Zj,Zi,Zg⟩:=hn0.h0.h0
  have Wt:SlM M Zj (Zg.map ZI.segs) 21:=YU.h1
  have Wv:(Zg.map ZI.segs).length=Zg.length:=List.length_map ..
  have Ww:Zg.length≤9223372036854775807:=YU.h2
  have Wx:Zg.length≤Zi:=YU.h3
  have YK:SlK M ZI.segs 21 ⟨Ze,Zd,Zc⟩:=hn0.h0.h1
  have Wd:SlM M Ze (Zc.map ZI.segs) 21:=YK.h1
  have Wf:(Zc.map ZI.segs).length=Zc.length:=List.length_map ..
  have Wg:Zc.length≤9223372036854775807:=YK.h2
  have Wh:Zc.length≤Zd:=YK.h3
  have YI:SlK M (oneI .i64) 1 ⟨Zr,Zq,Zl⟩:=hn0.h1
  have WZ:SlM M Zr (Zl.map (oneI .i64)) 1:=YI.h1
  have Vt:(Zl.map (oneI .i64)).length=Zl.length:=List.length_map ..
  have Vj:Zl.length≤9223372036854775807:=YI.h2
  have Vu:Zl.length≤Zq:=YI.h3
  have Wm:SlK M (oneI .i64) 1 ⟨YH,YG,ZZ⟩:=hl1.h0
  have s_l_avoid:SlM M YH (ZZ.map (oneI .i64)) 1:=Wm.h1
  have n_l_avoid:(ZZ.map (oneI .i64)).length=ZZ.length:=List.length_map ..
  have m_l_avoid:ZZ.length≤9223372036854775807:=Wm.h2
  have c_l_avoid:ZZ.length≤YG:=Wm.h3
  have XE:SlK M ZI.segs 21 ⟨YF,YB,ZT⟩:=hl1.h1
  have Wp:SlM M YF (ZT.map ZI.segs) 21:=XE.h1
  have VC:(ZT.map ZI.segs).length=ZT.length:=List.length_map ..
  have m_l_peers:ZT.length≤9223372036854775807:=XE.h2
  have VD:ZT.length≤YB:=XE.h3
  refine WB Tryz.func17 rfl Tryz.ntmps17 rfl ?_;intro H
  refine ZJ (Zm (l:=[0,1,2,3,4]) rfl ?_)
  refine Xv ?_;intro b1
  refine Xv ?_;intro b2
  refine YQ F.zero32 ?_;intro b3
  iterate 2 refine ZD ?_
  refine Zw (Zp (Y_pk [6,5,4,3,2] ?_))
  iterate 2 refine ZJ ?_
  refine Zm (l:=[0,1,2,3,4,5,6,7]) rfl ?_;refine ZH F.lay32 ?_;refine X_fs rfl rfl F.ok27 rfl (IsN_ok _ ⟨⟨⟨Za,Zb⟩,⟨Zf,Zh⟩,⟨Zj,Zi,Zg⟩,⟨Ze,Zd,Zc⟩⟩,Zt,Zs,ZC,Zz,ZL,ZB,Zy,Zu,Zo,Zv,Zn,Zx,⟨Zr,Zq,Zl⟩,ZE,ZF⟩ hn0) rfl ?_
  rintro _ rfl
  refine XP ?_;refine ZA ?_
  refine Yw 12 rfl (fun hc4=>?_) (fun hc4=>?_)
  ·replace hc4:=nT hc4
   iterate 3 refine ZY ?_
   refine ZM ?_;refine Zw (Zp (Y_pk [16,6,5,4,3,2] ?_));refine Xw rfl ?_;refine ZJ (Zm (l:=[0,1,2,3]) rfl ?_);refine Xy rfl rfl F.bld32 (.nil) rfl rfl ?_;refine Xq F.lay32 ?_
   iterate 2 refine ZD ?_
   refine Zw (Zp (Y_pk [6,5,4,3,2] ?_));refine Yq (YS ?_)
   refine Yg (.inr rfl) (.cell rfl (by repeat first|exact List.Mem.head _|refine List.Mem.tail _ ?_|refine List.mem_append_right _ ?_) F.lay32 rfl rfl (.tmp rfl (.tmp rfl .nil))) (fun w hw=>?_)
   refine ⟨_,M,rfl,Mem.le.refl M,hw.c,ZK.zero,⟨none,0,[]⟩,?_,?_,?_,ZK.zero_ok _,SlK.nil,fun y hy=>by cases hy⟩
   ·rw [VH (by (rintro ⟨q1,q2⟩;first|contradiction|(simp_all;done)))];rfl
   ·rw [VH (by (rintro ⟨q1,q2⟩;first|contradiction|(simp_all;done)))];rfl
   ·rw [VH (by (rintro ⟨q1,q2⟩;first|contradiction|(simp_all;done)))];rfl
  ·replace hc4:=nF hc4
   refine ZH F.lay44 ?_;refine X_fs rfl rfl F.ok30 rfl (IsL_ok _ ⟨YD,⟨Yb,YT⟩,Xr,l_id,⟨YH,YG,ZZ⟩,Xh,⟨ZS,Yo⟩,⟨YF,YB,ZT⟩⟩ hl1) rfl ?_
   rintro _ rfl
   refine XP ?_;refine ZM ?_;refine Zw (Zp (Y_pk [16,6,5,4,3,2] ?_))
   refine YC rfl (fun hc5=>?_) (fun hc5=>?_)
   ·replace hc5:=nT hc5
    refine ZJ (Zm (l:=[0,1,2,3]) rfl ?_);refine Xy rfl rfl F.bld32 (.nil) rfl rfl ?_;refine Xq F.lay32 ?_
    iterate 2 refine ZD ?_
    refine Zw (Zp (Y_pk [6,5,4,3,2] ?_));refine Yq (YS ?_)
    refine Yg (.inr rfl) (.cell rfl (by repeat first|exact List.Mem.head _|refine List.Mem.tail _ ?_|refine List.mem_append_right _ ?_) F.lay32 rfl rfl (.tmp rfl (.tmp rfl .nil))) (fun w hw=>?_)
    refine ⟨_,M,rfl,Mem.le.refl M,hw.c,ZK.zero,⟨none,0,[]⟩,?_,?_,?_,ZK.zero_ok _,SlK.nil,fun y hy=>by cases hy⟩
    ·rw [VH (by (rintro ⟨q1,q2⟩;first|contradiction|(simp_all;done)))];rfl
    ·rw [VH (by (rintro ⟨q1,q2⟩;first|contradiction|(simp_all;done)))];rfl
    ·rw [VH (by (rintro ⟨q1,q2⟩;first|contradiction|(simp_all;done)))];rfl
   ·replace hc5:=nF hc5
    (exfalso;first|(simp [eqX] at hc5;done)|(simp_all;done))
theorem Take_ok (M:Mem) (n:ZK) (l:ZO) (hn0:ZK.ok M n) (hl1:ZO.ok M l):Esp.Fn Tryz.prog 17 [n.enc,l.enc] M (fun M' v=>NtE M' v (Uw n.nd l.lt)):=by
  by_cases h:IsLt l.lt
  ·have h8:1≤l.kind∧l.kind≤8:=h.1
   have h9:l.kind=1∨l.kind=2∨l.kind=3∨l.kind=4∨l.kind=5∨l.kind=6∨l.kind=7∨l.kind=8:=by omega
   rcases h9 with hk|hk|hk|hk|hk|hk|hk|hk
   ·exact Take_yes M n l hn0 hl1 1 45 hk (by rw [hk];rfl) F.ok45 (fun M bw Za Zb Zf Zh Zj Ze Zr Zi Zd Zq Zg Zc Zl Zt Zs ZC Zz ZL ZB Zy Zu Zo Zv Zn Zx ZE ZF Yt YI hbig hLa hh l hl0 hLp hk=>find_ok M bw Za Zb Zf Zh Zj Ze Zr Zi Zd Zq Zg Zc Zl Zt Zs ZC Zz ZL ZB Zy Zu Zo Zv Zn Zx ZE ZF Yt YI hbig hLa hh l hl0 hLp hk)
   ·exact Take_yes M n l hn0 hl1 2 46 hk (by rw [hk];rfl) F.ok46 (fun M bw Za Zb Zf Zh Zj Ze Zr Zi Zd Zq Zg Zc Zl Zt Zs ZC Zz ZL ZB Zy Zu Zo Zv Zn Zx ZE ZF Yt YI hbig hLa hh l hl0 hLp hk=>found_ok M bw Za Zb Zf Zh Zj Ze Zr Zi Zd Zq Zg Zc Zl Zt Zs ZC Zz ZL ZB Zy Zu Zo Zv Zn Zx ZE ZF Yt YI hbig hLa hh l hl0 hLp hk)
   ·exact Take_yes M n l hn0 hl1 3 47 hk (by rw [hk];rfl) F.ok47 (fun M bw Za Zb Zf Zh Zj Ze Zr Zi Zd Zq Zg Zc Zl Zt Zs ZC Zz ZL ZB Zy Zu Zo Zv Zn Zx ZE ZF Yt YI hbig hLa hh l hl0 hLp hk=>ask_ok M bw Za Zb Zf Zh Zj Ze Zr Zi Zd Zq Zg Zc Zl Zt Zs ZC Zz ZL ZB Zy Zu Zo Zv Zn Zx ZE ZF Yt YI hbig hLa hh l hl0 hLp hk)
   ·exact Take_yes M n l hn0 hl1 4 48 hk (by rw [hk];rfl) F.ok48 (fun M bw Za Zb Zf Zh Zj Ze Zr Zi Zd Zq Zg Zc Zl Zt Zs ZC Zz ZL ZB Zy Zu Zo Zv Zn Zx ZE ZF Yt YI hbig hLa hh l hl0 hLp hk=>told_ok M bw Za Zb Zf Zh Zj Ze Zr Zi Zd Zq Zg Zc Zl Zt Zs ZC Zz ZL ZB Zy Zu Zo Zv Zn Zx ZE ZF Yt YI hbig hLa hh l hl0 hLp hk)
   ·exact Take_yes M n l hn0 hl1 5 49 hk (by rw [hk];rfl) F.ok49 (fun M bw Za Zb Zf Zh Zj Ze Zr Zi Zd Zq Zg Zc Zl Zt Zs ZC Zz ZL ZB Zy Zu Zo Zv Zn Zx ZE ZF Yt YI hbig hLa hh l hl0 hLp hk=>notify_ok M bw Za Zb Zf Zh Zj Ze Zr Zi Zd Zq Zg Zc Zl Zt Zs ZC Zz ZL ZB Zy Zu Zo Zv Zn Zx ZE ZF Yt YI hbig hLa hh l hl0 hLp hk)
   ·exact Take_yes M n l hn0 hl1 6 50 hk (by rw [hk];rfl) F.ok50 (fun M bw Za Zb Zf Zh Zj Ze Zr Zi Zd Zq Zg Zc Zl Zt Zs ZC Zz ZL ZB Zy Zu Zo Zv Zn Zx ZE ZF Yt YI hbig hLa hh l hl0 hLp hk=>ping_ok M bw Za Zb Zf Zh Zj Ze Zr Zi Zd Zq Zg Zc Zl Zt Zs ZC Zz ZL ZB Zy Zu Zo Zv Zn Zx ZE ZF Yt YI hbig hLa hh l hl0 hLp hk)
   ·exact Take_yes M n l hn0 hl1 7 51 hk (by rw [hk];rfl) F.ok51 (fun M bw Za Zb Zf Zh Zj Ze Zr Zi Zd Zq Zg Zc Zl Zt Zs ZC Zz ZL ZB Zy Zu Zo Zv Zn Zx ZE ZF Yt YI hbig hLa hh l hl0 hLp hk=>pong_ok M bw Za Zb Zf Zh Zj Ze Zr Zi Zd Zq Zg Zc Zl Zt Zs ZC Zz ZL ZB Zy Zu Zo Zv Zn Zx ZE ZF Yt YI hbig hLa hh l hl0 hLp hk)
   ·exact Take_yes M n l hn0 hl1 8 52 hk (by rw [hk];rfl) F.ok52 (fun M bw Za Zb Zf Zh Zj Ze Zr Zi Zd Zq Zg Zc Zl Zt Zs ZC Zz ZL ZB Zy Zu Zo Zv Zn Zx ZE ZF Yt YI hbig hLa hh l hl0 hLp hk=>bye_ok M bw Za Zb Zf Zh Zj Ze Zr Zi Zd Zq Zg Zc Zl Zt Zs ZC Zz ZL ZB Zy Zu Zo Zv Zn Zx ZE ZF Yt YI hbig hLa hh l hl0 hLp hk)
  ·exact Take_no M n l hn0 hl1 h
end Go.Proofs.YtajmnjefajknoaaGreat
namespace Go.Proofs.YtajmnjefajknoaaGreat
open Go.Esp
theorem F.ok21:okFn Tryz.prog 21=true:=by kernel_rfl
theorem F.ok63:okFn Tryz.prog 63=true:=by kernel_rfl
theorem Alone_ok (M:Mem) (self:ZI) (r:Int):Esp.Fn Tryz.prog 21 [self.enc,.int .i64 r] M (fun M' v=>NeE M' v (Uy self r)):=by
  obtain ⟨self_addr,self_id⟩:=self
  refine WB Tryz.func21 rfl Tryz.ntmps21 rfl ?_;intro H
  refine ZJ (Zm (l:=[0,1,2]) rfl ?_)
  refine Xv ?_;intro b1
  refine YQ F.zero32 ?_;intro b2
  refine ZD ?_;refine Zw (Zp (Y_pk [5,4,2,1] ?_));refine ZJ (Zm (l:=[0,1,2,3,4,5,6,7]) rfl ?_);refine ZH F.lay25 ?_;refine X_fn rfl rfl F.ok63 rfl (New_ok _ ⟨self_addr,self_id⟩) rfl ?_
  rintro _ M1 hm1 ⟨_,rfl,⟨⟨oa,oi⟩,⟨oq,oj⟩,⟨o1a,o1c,o1l⟩,⟨o2a,o2c,o2l⟩⟩,rfl,hot,okt⟩
  have hne:=new_ok (s:=⟨self_addr,self_id⟩)
  obtain ⟨ne,hnv⟩:∃ x,(newT ⟨self_addr,self_id⟩).2=x:=⟨_,rfl⟩
  rw [hnv] at hne ⊢
  refine ZA ?_
  iterate 2 refine XF ?_
  refine YQ F.zero28 ?_;intro b3
  refine ZX F.lay28 ?_;refine ZD ?_;refine Zw (Zp (Y_pk [7,6,5,4,1] ?_))
  iterate 2 refine ZJ ?_
  refine Zm (l:=[0,1,2,3,4,5,6,7,8,9]) rfl ?_;refine ZA ?_;refine YJ ?_;refine ZA ?_
  refine Yw 15 rfl (fun hc4=>?_) (fun hc4=>?_)
  ·replace hc4:=nT hc4
   iterate 2 refine ZY ?_
   refine ZM ?_;refine ZA ?_
   iterate 2 refine ZY ?_
   refine ZM ?_;refine Zw (Zp (Y_pk [22,6,5,4,1] ?_));refine Xw rfl ?_;refine ZJ (Zm (l:=[0,1,2]) rfl ?_);refine Xy rfl rfl F.bld32 (.nil) rfl rfl ?_;refine Xq F.lay32 ?_;refine ZD ?_;refine Zw (Zp (Y_pk [5,6,4,1] ?_));refine Yq (YS ?_)
   refine Yg (.inr rfl) (.cell rfl (by repeat first|exact List.Mem.head _|refine List.Mem.tail _ ?_|refine List.mem_append_right _ ?_) F.lay32 rfl rfl (.tmp rfl .nil)) (fun w hw=>?_)
   refine ⟨_,M1,rfl,hm1,hw.c,ZK.zero,?_,?_,ZK.zero_ok _⟩
   ·rw [alone_no (by rintro ⟨q1,q2,q3⟩;have q4:=hne.2 q1;omega)];rfl
   ·rw [alone_no (by rintro ⟨q1,q2,q3⟩;have q4:=hne.2 q1;omega)];rfl
  ·replace hc4:=nF hc4
   refine ZA ?_;refine YJ ?_;refine ZM ?_;refine ZA ?_
   refine Yw 19 rfl (fun hc5=>?_) (fun hc5=>?_)
   ·replace hc5:=dT hc5
    iterate 2 refine ZY ?_
    refine ZM ?_;refine Zw (Zp (Y_pk [22,6,5,4,1] ?_));refine Xw rfl ?_;refine ZJ (Zm (l:=[0,1,2]) rfl ?_);refine Xy rfl rfl F.bld32 (.nil) rfl rfl ?_;refine Xq F.lay32 ?_;refine ZD ?_;refine Zw (Zp (Y_pk [5,6,4,1] ?_));refine Yq (YS ?_)
    refine Yg (.inr rfl) (.cell rfl (by repeat first|exact List.Mem.head _|refine List.Mem.tail _ ?_|refine List.mem_append_right _ ?_) F.lay32 rfl rfl (.tmp rfl .nil)) (fun w hw=>?_)
    refine ⟨_,M1,rfl,hm1,hw.c,ZK.zero,?_,?_,ZK.zero_ok _⟩
    ·rw [alone_no (by rintro ⟨q1,q2,q3⟩;have q4:=hne.2 q1;omega)];rfl
    ·rw [alone_no (by rintro ⟨q1,q2,q3⟩;have q4:=hne.2 q1;omega)];rfl
   ·replace hc5:=dF hc5
    refine ZA ?_;refine YJ ?_;refine ZM ?_;refine Zw (Zp (Y_pk [22,6,5,4,1] ?_))
    refine YC rfl (fun hc6=>?_) (fun hc6=>?_)
    ·replace hc6:=dT hc6
     refine ZJ (Zm (l:=[0,1,2]) rfl ?_);refine Xy rfl rfl F.bld32 (.nil) rfl rfl ?_;refine Xq F.lay32 ?_;refine ZD ?_;refine Zw (Zp (Y_pk [5,6,4,1] ?_));refine Yq (YS ?_)
     refine Yg (.inr rfl) (.cell rfl (by repeat first|exact List.Mem.head _|refine List.Mem.tail _ ?_|refine List.mem_append_right _ ?_) F.lay32 rfl rfl (.tmp rfl .nil)) (fun w hw=>?_)
     refine ⟨_,M1,rfl,hm1,hw.c,ZK.zero,?_,?_,ZK.zero_ok _⟩
     ·rw [alone_no (by rintro ⟨q1,q2,q3⟩;have q4:=hne.2 q1;omega)];rfl
     ·rw [alone_no (by rintro ⟨q1,q2,q3⟩;have q4:=hne.2 q1;omega)];rfl
    ·replace hc6:=dF hc6
     refine YE (Zp (Y_pk [6,5,4,1] ?_));refine ZJ (Zm (l:=[0,1,2,3,4]) rfl ?_);refine ZH F.lay28 ?_;refine ZA ?_;refine Xy rfl rfl F.bld32 (.cons rfl (by constructor) (.cons rfl (by constructor) (.cons rfl (by constructor) (.cons rfl (by constructor) (.cons rfl (by constructor) (.cons rfl (by constructor) (.cons rfl (by constructor) .nil))))))) rfl rfl ?_;refine Xq F.lay32 ?_;refine ZD ?_;refine Zw (Zp (Y_pk [5,4] ?_));refine Yq ?_
     refine Yg (.inr rfl) (.cell rfl (by repeat first|exact List.Mem.head _|refine List.Mem.tail _ ?_|refine List.mem_append_right _ ?_) F.lay32 rfl rfl (.tmp rfl .nil)) (fun w hw=>?_)
     have h3:=alone_is (s:=⟨self_addr,self_id⟩) (r:=r) ⟨hne.1 (by omega),by omega,by omega⟩
     rw [show (newT ⟨self_addr,self_id⟩).1=_ from hot.symm] at h3
     exact ⟨_,M1,rfl,hm1,hw.c,⟨⟨⟨oa,oi⟩,⟨oq,oj⟩,⟨o1a,o1c,o1l⟩,⟨o2a,o2c,o2l⟩⟩,r,true,-1,0,0,-1,0,-1,0,-1,0,0,⟨none,0,[]⟩,0,0⟩,by rw [h3];rfl,by rw [h3];rfl,⟨okt,SlK.nil⟩⟩
theorem Joining_ok (M:Mem) (self:ZI) (r:Int) (boot:Int):Esp.Fn Tryz.prog 23 [self.enc,.int .i64 r,.int .i64 boot] M (fun M' v=>NeE M' v (joiningN self r boot)):=by
  obtain ⟨self_addr,self_id⟩:=self
  refine WB Tryz.func23 rfl Tryz.ntmps23 rfl ?_;intro H
  refine ZJ (Zm (l:=[0,1,2]) rfl ?_)
  refine Xv ?_;intro b1
  refine YQ F.zero32 ?_;intro b2
  refine ZD ?_;refine Zw (Zp (Y_pk [7,6,3,1,2] ?_));refine ZJ (Zm (l:=[0,1,2,3,4,5,6,7,8]) rfl ?_);refine ZH F.lay25 ?_;refine ZA ?_;refine X_fn rfl rfl F.ok21 rfl (Alone_ok _ ⟨self_addr,self_id⟩ r) rfl ?_
  rintro _ M1 hm1 ⟨⟨⟨⟨Yc,Yp⟩,⟨Yh,Yu⟩,⟨YA,Yz,Ye⟩,⟨Yk,Yj,Yi⟩⟩,Xn,Xo,XI,Xm,XX,Xx,Xp,Xj,YY,Xk,YZ,Xl,⟨Xc,Xb,Xa⟩,XH,XG⟩,rfl,hv1,okv⟩
  obtain ⟨ae,hae⟩:∃ x,(Uy ⟨self_addr,self_id⟩ r).2=x:=⟨_,rfl⟩
  rw [hae]
  refine ZA ?_
  iterate 2 refine XF ?_
  refine YQ F.zero32 ?_;intro b3
  refine Xq F.lay32 ?_;refine ZD ?_;refine Zw (Zp (Y_pk [9,8,7,6,3,2] ?_))
  iterate 2 refine ZJ ?_
  refine Zm (l:=[0,1,2,3,4,5,6,7,8,9,10,11,12,13,14,15]) rfl ?_;refine ZA ?_;refine YJ ?_;refine ZA ?_
  refine Yw 18 rfl (fun hc4=>?_) (fun hc4=>?_)
  ·replace hc4:=nT hc4
   iterate 2 refine ZY ?_
   refine ZM ?_;refine ZA ?_
   iterate 2 refine ZY ?_
   refine ZM ?_;refine ZA ?_
   iterate 4 refine ZY ?_
   refine ZM ?_;refine Zw (Zp (Y_pk [31,8,7,6,2] ?_));refine Xw rfl ?_;refine ZJ (Zm (l:=[0,1,2]) rfl ?_);refine Xy rfl rfl F.bld32 (.nil) rfl rfl ?_;refine Xq F.lay32 ?_;refine ZD ?_;refine Zw (Zp (Y_pk [7,8,6,2] ?_));refine Yq (YS ?_)
   refine Yg (.inr rfl) (.cell rfl (by repeat first|exact List.Mem.head _|refine List.Mem.tail _ ?_|refine List.mem_append_right _ ?_) F.lay32 rfl rfl (.tmp rfl .nil)) (fun w hw=>?_)
   refine ⟨_,M1,rfl,hm1,hw.c,ZK.zero,?_,?_,ZK.zero_ok _⟩
   ·rw [joining_no (by rintro ⟨q1,⟨q2,q4⟩,q3⟩;replace q3:boot≠self_addr:=q3;rw [hae] at q1;omega)];rfl
   ·rw [joining_no (by rintro ⟨q1,⟨q2,q4⟩,q3⟩;replace q3:boot≠self_addr:=q3;rw [hae] at q1;omega)];rfl
  ·replace hc4:=nF hc4
   refine ZA ?_;refine YJ ?_;refine ZM ?_;refine ZA ?_
   refine Yw 22 rfl (fun hc5=>?_) (fun hc5=>?_)
   ·replace hc5:=dT hc5
    iterate 2 refine ZY ?_
    refine ZM ?_;refine ZA ?_
    iterate 4 refine ZY ?_
    refine ZM ?_;refine Zw (Zp (Y_pk [31,8,7,6,2] ?_));refine Xw rfl ?_;refine ZJ (Zm (l:=[0,1,2]) rfl ?_);refine Xy rfl rfl F.bld32 (.nil) rfl rfl ?_;refine Xq F.lay32 ?_;refine ZD ?_;refine Zw (Zp (Y_pk [7,8,6,2] ?_));refine Yq (YS ?_)
    refine Yg (.inr rfl) (.cell rfl (by repeat first|exact List.Mem.head _|refine List.Mem.tail _ ?_|refine List.mem_append_right _ ?_) F.lay32 rfl rfl (.tmp rfl .nil)) (fun w hw=>?_)
    refine ⟨_,M1,rfl,hm1,hw.c,ZK.zero,?_,?_,ZK.zero_ok _⟩
    ·rw [joining_no (by rintro ⟨q1,⟨q2,q4⟩,q3⟩;replace q3:boot≠self_addr:=q3;rw [hae] at q1;omega)];rfl
    ·rw [joining_no (by rintro ⟨q1,⟨q2,q4⟩,q3⟩;replace q3:boot≠self_addr:=q3;rw [hae] at q1;omega)];rfl
   ·replace hc5:=dF hc5
    refine ZA ?_;refine YJ ?_;refine ZM ?_;refine ZA ?_
    refine Yw 26 rfl (fun hc6=>?_) (fun hc6=>?_)
    ·replace hc6:=dT hc6
     iterate 4 refine ZY ?_
     refine ZM ?_;refine Zw (Zp (Y_pk [31,8,7,6,2] ?_));refine Xw rfl ?_;refine ZJ (Zm (l:=[0,1,2]) rfl ?_);refine Xy rfl rfl F.bld32 (.nil) rfl rfl ?_;refine Xq F.lay32 ?_;refine ZD ?_;refine Zw (Zp (Y_pk [7,8,6,2] ?_));refine Yq (YS ?_)
     refine Yg (.inr rfl) (.cell rfl (by repeat first|exact List.Mem.head _|refine List.Mem.tail _ ?_|refine List.mem_append_right _ ?_) F.lay32 rfl rfl (.tmp rfl .nil)) (fun w hw=>?_)
     refine ⟨_,M1,rfl,hm1,hw.c,ZK.zero,?_,?_,ZK.zero_ok _⟩
     ·rw [joining_no (by rintro ⟨q1,⟨q2,q4⟩,q3⟩;replace q3:boot≠self_addr:=q3;rw [hae] at q1;omega)];rfl
     ·rw [joining_no (by rintro ⟨q1,⟨q2,q4⟩,q3⟩;replace q3:boot≠self_addr:=q3;rw [hae] at q1;omega)];rfl
    ·replace hc6:=dF hc6
     refine ZA ?_;refine Zk F.foff25_0 ?_;refine ZH F.lay3 ?_;refine YJ ?_;refine ZM ?_;refine Zw (Zp (Y_pk [31,8,7,6,2] ?_))
     refine YC rfl (fun hc7=>?_) (fun hc7=>?_)
     ·replace hc7:=dT hc7
      refine ZJ (Zm (l:=[0,1,2]) rfl ?_);refine Xy rfl rfl F.bld32 (.nil) rfl rfl ?_;refine Xq F.lay32 ?_;refine ZD ?_;refine Zw (Zp (Y_pk [7,8,6,2] ?_));refine Yq (YS ?_)
      refine Yg (.inr rfl) (.cell rfl (by repeat first|exact List.Mem.head _|refine List.Mem.tail _ ?_|refine List.mem_append_right _ ?_) F.lay32 rfl rfl (.tmp rfl .nil)) (fun w hw=>?_)
      refine ⟨_,M1,rfl,hm1,hw.c,ZK.zero,?_,?_,ZK.zero_ok _⟩
      ·rw [joining_no (by rintro ⟨q1,⟨q2,q4⟩,q3⟩;replace q3:boot≠self_addr:=q3;rw [hae] at q1;omega)];rfl
      ·rw [joining_no (by rintro ⟨q1,⟨q2,q4⟩,q3⟩;replace q3:boot≠self_addr:=q3;rw [hae] at q1;omega)];rfl
     ·replace hc7:=dF hc7
      refine YE (Zp (Y_pk [8,7,6,2] ?_));refine ZJ (Zm (l:=[0,1,2,3,4]) rfl ?_);refine ZA ?_;refine Zk F.foff32_2 ?_;refine ZX F.lay4 ?_;refine Zk F.foff32_3 ?_;refine ZX F.lay3 ?_;refine Zw (Zp (Y_pk [8,7,6] ?_));refine ZJ (Zm (l:=[0,1,2]) rfl ?_);refine ZH F.lay32 ?_;refine Xq F.lay32 ?_;refine ZD ?_;refine Zw (Zp (Y_pk [7,6] ?_));refine Yq ?_
      refine Yg (.inr rfl) (.cell rfl (by repeat first|exact List.Mem.head _|refine List.Mem.tail _ ?_|refine List.mem_append_right _ ?_) F.lay32 rfl rfl (.tmp rfl .nil)) (fun w hw=>?_)
      have h3:=joining_is (s:=⟨self_addr,self_id⟩) (r:=r) (b:=boot) ⟨by rw [hae];omega,⟨by omega,by omega⟩,by show boot≠self_addr;omega⟩
      rw [← hv1] at h3
      exact ⟨_,M1,rfl,hm1,hw.c,⟨⟨⟨Yc,Yp⟩,⟨Yh,Yu⟩,⟨YA,Yz,Ye⟩,⟨Yk,Yj,Yi⟩⟩,Xn,false,boot,Xm,XX,Xx,Xp,Xj,YY,Xk,YZ,Xl,⟨Xc,Xb,Xa⟩,XH,XG⟩,by rw [h3];rfl,by rw [h3];rfl,⟨okv.h0,okv.h1⟩⟩
end Go.Proofs.YtajmnjefajknoaaGreat
namespace Go.Esp
def xp (n:Int):ZI:=⟨n,smallP (10 * n)⟩
theorem xs10:smallP 10=10#160:=by kernel_rfl
theorem xs20:smallP 20=20#160:=by kernel_rfl
def xt:Tb:=⟨⟨1,10#160⟩,Xi,[],List.replicate 160 Xi⟩
def xu:Tb:={ xt with succ:=[⟨2,20#160⟩,⟨3,30#160⟩] }
def xv:Tb:={ xu with pred:=⟨3,30#160⟩ }
def xw:Tb:={ xv with fingers:=List.replicate 4 ⟨2,20#160⟩++List.replicate 156 Xi }
def xx:Tb:={ xv with succ:=[⟨3,30#160⟩],fingers:=List.replicate 160 Xi }
end Go.Esp
namespace Go.Esp
def nA:ZI:=⟨1,10#160⟩
def nB:ZI:=⟨2,20#160⟩
def nX:Nd:=(Uy ⟨1,10#160⟩ 2).1
def nY:Nd:=(joiningN ⟨2,20#160⟩ 2 1).1
def nL1:Lt:=⟨1,⟨2,20#160⟩,1,20#160,[],false,⟨-1,0⟩,[]⟩
def nL2:Lt:=⟨2,⟨1,10#160⟩,1,0,[],true,⟨1,10#160⟩,[]⟩
def nL3:Lt:=⟨3,⟨2,20#160⟩,2,0,[],false,⟨-1,0⟩,[]⟩
def nY1:Nd:=(Ud nY 1).1
def nY2:Nd:=(Uw nY1 nL2).1
def nY3:Nd:=(Ud nY2 1).1
theorem nx1:Uy ⟨1,10#160⟩ 2=(nX,0):=by kernel_rfl
theorem nx2:joiningN ⟨2,20#160⟩ 2 1=(nY,0):=by kernel_rfl
theorem nx3:Ud nY 1=(nY1,[⟨1,nL1⟩],0):=by kernel_rfl
theorem nx4:Uw nX nL1=(nX,[⟨2,nL2⟩],0):=by kernel_rfl
theorem nx5:Uw nY1 nL2=(nY2,[],0):=by kernel_rfl
theorem nx6:Ud nY2 1=(nY3,[⟨1,nL3⟩],0):=by kernel_rfl
theorem nx7:joiningN ⟨2,20#160⟩ 2 2=(Nd.zero,1):=by kernel_rfl
theorem nx8:nY2.joined=true:=by kernel_rfl
theorem nx9:Wi nY2.table=⟨1,10#160⟩:=by kernel_rfl
theorem nx10:IsNd nY2:=of_decide_eq_true (by kernel_rfl)
theorem sndl_one {l:List Ys} {s:Snd} (h:sndl l=[s]):∃ y,l=[y]∧y.snd=s:=by
  match l,h with
  | [y],h=>exact ⟨y,rfl,(List.cons.inj h).1⟩
end Go.Esp
namespace Go.Proofs.YtajmnjefajknoaaGreat
open Go.Esp
theorem F.ok11:okFn Tryz.prog 11=true:=by kernel_rfl
theorem F.ok17:okFn Tryz.prog 17=true:=by kernel_rfl
theorem F.ok23:okFn Tryz.prog 23=true:=by kernel_rfl
theorem F.ok40:okFn Tryz.prog 40=true:=by kernel_rfl
theorem small10_ok (M:Mem):Fs Tryz.prog 40 [.int .i64 10] M (fun v=>v=aggV [Yr 10#160]):=by
  have h:=Small_ok M 10 (by decide)
  rw [xs10] at h
  exact h
theorem small20_ok (M:Mem):Fs Tryz.prog 40 [.int .i64 20] M (fun v=>v=aggV [Yr 20#160]):=by
  have h:=Small_ok M 20 (by decide)
  rw [xs20] at h
  exact h
theorem noded_ok (M:Mem):Esp.Fn Tryz.prog 13 [] M (fun _ v=>v=.bool true):=by
  refine WB Tryz.func13 rfl Tryz.ntmps13 rfl ?_;intro H
  refine ZJ (Zm (l:=[0]) rfl ?_);refine ZD ?_;refine Zw (Zp (ZJ (Zm (l:=[0,1,2,3]) rfl ?_)));refine X_fs rfl rfl F.ok40 rfl (small10_ok _) rfl ?_
  rintro _ rfl
  refine Xy rfl rfl F.bld25 (.cons rfl (by constructor) (.cons rfl (by constructor) .nil)) rfl rfl ?_
  refine YQ F.zero25 ?_;intro b1
  refine ZX F.lay25 ?_;refine Zw (Zp (Y_pk [1,0] ?_));refine ZJ (Zm (l:=[0,1,2,3]) rfl ?_);refine X_fs rfl rfl F.ok40 rfl (small20_ok _) rfl ?_
  rintro _ rfl
  refine Xy rfl rfl F.bld25 (.cons rfl (by constructor) (.cons rfl (by constructor) .nil)) rfl rfl ?_
  refine YQ F.zero25 ?_;intro b2
  refine ZX F.lay25 ?_;refine Zw (Zp (Y_pk [2,1,0] ?_));refine ZJ (Zm (l:=[0,1,2,3,4,5,6,7]) rfl ?_);refine ZH F.lay25 ?_;refine X_fn rfl rfl F.ok21 rfl (Alone_ok M ⟨1,10#160⟩ 2) rfl ?_
  rintro _ M1 hm1 hv
  rw [nx1] at hv
  simp only [NeE] at hv
  obtain ⟨⟨⟨⟨x_table_self_addr,x_table_self_id⟩,⟨x_table_pred_addr,x_table_pred_id⟩,⟨x_table_succ_a,x_table_succ_c,x_table_succ_l⟩,⟨x_table_fingers_a,x_table_fingers_c,x_table_fingers_l⟩⟩,x_copies,x_joined,x_boot,x_cursor,x_req,x_askTo,x_askReq,x_pingTo,x_pingReq,x_findTo,x_findReq,x_findID,⟨x_avoid_a,x_avoid_c,x_avoid_l⟩,x_hops,x_turn⟩,rfl,ex,okx⟩:=hv
  try simp only at ex
  refine ZA ?_
  iterate 2 refine XF ?_
  refine YQ F.zero32 ?_;intro b3
  refine Xq F.lay32 ?_;refine ZD ?_;refine Zw (Zp (Y_pk [4,3,2,1,0] ?_));refine ZJ (Zm (l:=[0,1,2,3,4,5,6,7]) rfl ?_);refine ZH F.lay25 ?_;refine X_fn rfl rfl F.ok23 rfl (Joining_ok M1 ⟨2,20#160⟩ 2 1) rfl ?_
  rintro _ M2 hm2 hv
  rw [nx2] at hv
  simp only [NeE] at hv
  obtain ⟨⟨⟨⟨y_table_self_addr,y_table_self_id⟩,⟨y_table_pred_addr,y_table_pred_id⟩,⟨y_table_succ_a,y_table_succ_c,y_table_succ_l⟩,⟨y_table_fingers_a,y_table_fingers_c,y_table_fingers_l⟩⟩,y_copies,y_joined,y_boot,y_cursor,y_req,y_askTo,y_askReq,y_pingTo,y_pingReq,y_findTo,y_findReq,y_findID,⟨y_avoid_a,y_avoid_c,y_avoid_l⟩,y_hops,y_turn⟩,rfl,ey,oky⟩:=hv
  try simp only at ey
  refine ZA ?_
  iterate 2 refine XF ?_
  refine YQ F.zero32 ?_;intro b4
  refine Xq F.lay32 ?_;refine ZD ?_;refine Zw (Zp (Y_pk [6,5,4,3,2,1,0] ?_));refine ZJ (Zm (l:=[0,1,2,3,4,5,6,7,8,9]) rfl ?_);refine ZH F.lay32 ?_;refine X_fn rfl rfl F.ok11 rfl (Tick_ok M2 ⟨⟨⟨y_table_self_addr,y_table_self_id⟩,⟨y_table_pred_addr,y_table_pred_id⟩,⟨y_table_succ_a,y_table_succ_c,y_table_succ_l⟩,⟨y_table_fingers_a,y_table_fingers_c,y_table_fingers_l⟩⟩,y_copies,y_joined,y_boot,y_cursor,y_req,y_askTo,y_askReq,y_pingTo,y_pingReq,y_findTo,y_findReq,y_findID,⟨y_avoid_a,y_avoid_c,y_avoid_l⟩,y_hops,y_turn⟩ 1 oky) rfl ?_
  rintro _ M3 hm3 hv
  rw [show Ud (ZK.nd ⟨⟨⟨y_table_self_addr,y_table_self_id⟩,⟨y_table_pred_addr,y_table_pred_id⟩,⟨y_table_succ_a,y_table_succ_c,y_table_succ_l⟩,⟨y_table_fingers_a,y_table_fingers_c,y_table_fingers_l⟩⟩,y_copies,y_joined,y_boot,y_cursor,y_req,y_askTo,y_askReq,y_pingTo,y_pingReq,y_findTo,y_findReq,y_findID,⟨y_avoid_a,y_avoid_c,y_avoid_l⟩,y_hops,y_turn⟩) 1=_ from (congrArg (fun n=>Ud n 1) ey).trans nx3] at hv
  simp only [NtE] at hv
  obtain ⟨⟨⟨⟨z_table_self_addr,z_table_self_id⟩,⟨z_table_pred_addr,z_table_pred_id⟩,⟨z_table_succ_a,z_table_succ_c,z_table_succ_l⟩,⟨z_table_fingers_a,z_table_fingers_c,z_table_fingers_l⟩⟩,z_copies,z_joined,z_boot,z_cursor,z_req,z_askTo,z_askReq,z_pingTo,z_pingReq,z_findTo,z_findReq,z_findID,⟨z_avoid_a,z_avoid_c,z_avoid_l⟩,z_hops,z_turn⟩,⟨so_a,so_c,so_l⟩,rfl,ez,sz,okz,kz,lz⟩:=hv
  try simp only at ez sz kz lz
  obtain ⟨⟨p_to,⟨p_kind,⟨p_frm_addr,p_frm_id⟩,p_req,p_id,⟨p_avoid_a,p_avoid_c,p_avoid_l⟩,p_done,⟨p_peer_addr,p_peer_id⟩,⟨p_peers_a,p_peers_c,p_peers_l⟩⟩⟩,rfl,hp⟩:=sndl_one sz
  simp only [Ys.snd,ZO.lt,nL1,Snd.mk.injEq,Lt.mk.injEq,ZI.mk.injEq] at hp
  obtain ⟨rfl,rfl,⟨rfl,rfl⟩,rfl,rfl,rfl,rfl,⟨rfl,rfl⟩,rfl⟩:=hp
  have s_so:=kz.h1
  try simp only at s_so
  refine ZA ?_
  iterate 3 refine XF ?_
  refine YQ F.zero32 ?_;intro b5
  refine Xq F.lay32 ?_
  iterate 2 refine ZD ?_
  refine Zw (Zp (Y_pk [9,8,7,6,4,3,2,1,0] ?_))
  iterate 2 refine ZJ ?_
  refine Zm (l:=[0,1,2,3,4,5,6,7,8,9,10,11,12,13,14,15,16,17,18,19,20,21,22,23,24,25,26,27,28,29,30,31]) rfl ?_;refine ZA ?_;refine YJ ?_;refine ZA ?_
  refine Yw 43 rfl (fun hc6=>?_) (fun hc6=>?_)
  ·replace hc6:=nT hc6
   simp only [ZI.eta,ZN.eta,ZK.eta,ZO.eta,Ys.eta,ZQ.eta,YO.eta,ZU.eta] at hc6
   (exfalso;simp [eqX] at hc6;done)
  ·replace hc6:=nF hc6
   simp only [ZI.eta,ZN.eta,ZK.eta,ZO.eta,Ys.eta,ZQ.eta,YO.eta,ZU.eta] at hc6
   iterate 2 refine ZA ?_
   refine YJ ?_;refine ZM ?_;refine ZA ?_
   refine Yw 48 rfl (fun hc7=>?_) (fun hc7=>?_)
   ·replace hc7:=nT hc7
    simp only [ZI.eta,ZN.eta,ZK.eta,ZO.eta,Ys.eta,ZQ.eta,YO.eta,ZU.eta] at hc7
    (exfalso;simp [eqX] at hc7;done)
   ·replace hc7:=nF hc7
    simp only [ZI.eta,ZN.eta,ZK.eta,ZO.eta,Ys.eta,ZQ.eta,YO.eta,ZU.eta] at hc7
    iterate 2 refine ZA ?_
    refine YJ ?_;refine ZM ?_;refine ZA ?_
    refine Yw 53 rfl (fun hc8=>?_) (fun hc8=>?_)
    ·replace hc8:=nT hc8
     simp only [ZI.eta,ZN.eta,ZK.eta,ZO.eta,Ys.eta,ZQ.eta,YO.eta,ZU.eta] at hc8
     (exfalso;simp [eqX] at hc8;done)
    ·replace hc8:=nF hc8
     simp only [ZI.eta,ZN.eta,ZK.eta,ZO.eta,Ys.eta,ZQ.eta,YO.eta,ZU.eta] at hc8
     refine ZA ?_;refine YW F.elem35 ?_;refine YJ ?_;refine ZM ?_;refine ZA ?_
     refine Yw 58 rfl (fun hc9=>?_) (fun hc9=>?_)
     ·replace hc9:=nT hc9
      (exfalso;simp [eqX] at hc9;done)
     ·replace hc9:=nF hc9
      refine ZA ?_;refine YM rfl rfl rfl rfl F.elem35 (by rfl) (by (simp;done)) (by exact SlM.plain (by assumption) (by (simp;done))) rfl ?_;refine Xt rfl rfl rfl (by exact SlM.plain (by assumption) (by (simp;done))) F.foff49_0 rfl ?_;refine Xs rfl rfl rfl (by assumption) (by exact rfl) F.lay3 rfl rfl rfl ?_;refine YJ ?_;refine ZM ?_;refine ZA ?_
      refine Yw 65 rfl (fun hc10=>?_) (fun hc10=>?_)
      ·replace hc10:=nT hc10
       simp only [ZI.eta,ZN.eta,ZK.eta,ZO.eta,Ys.eta,ZQ.eta,YO.eta,ZU.eta] at hc10
       (exfalso;simp [eqX] at hc10;done)
      ·replace hc10:=nF hc10
       simp only [ZI.eta,ZN.eta,ZK.eta,ZO.eta,Ys.eta,ZQ.eta,YO.eta,ZU.eta] at hc10
       refine ZA ?_;refine YM rfl rfl rfl rfl F.elem35 (by rfl) (by (simp;done)) (by exact SlM.plain (by assumption) (by (simp;done))) rfl ?_;refine Xt rfl rfl rfl (by exact SlM.plain (by assumption) (by (simp;done))) F.foff49_1 rfl ?_;refine Xt rfl rfl rfl (by exact SlM.plain (by assumption) (by (simp;done))) F.foff44_0 rfl ?_;refine Xs rfl rfl rfl (by assumption) (by exact rfl) F.lay3 rfl rfl rfl ?_;refine YJ ?_;refine ZM ?_;refine Zw (Zp (Y_pk [72,8,7,3,2,1,0] ?_))
       refine YC rfl (fun hc11=>?_) (fun hc11=>?_)
       ·replace hc11:=nT hc11
        simp only [ZI.eta,ZN.eta,ZK.eta,ZO.eta,Ys.eta,ZQ.eta,YO.eta,ZU.eta] at hc11
        (exfalso;simp [eqX] at hc11;done)
       ·replace hc11:=nF hc11
        simp only [ZI.eta,ZN.eta,ZK.eta,ZO.eta,Ys.eta,ZQ.eta,YO.eta,ZU.eta] at hc11
        refine YE (Zp (Y_pk [8,7,3,2,1,0] ?_));refine ZJ (YL (l:=[0,1,2,3,4,5,6,7,8,9,10,11,12,13]) #[0,0,2,6,14,31,63,127,127,127,0,1279,3583,8191] _ rfl (by kernel_rfl) (by kernel_rfl) St.drawn (fun _ h=>h) ?_);refine ZH F.lay32 ?_;refine ZA ?_;refine YM rfl rfl rfl rfl F.elem35 (by rfl) (by (simp;done)) (by exact SlM.plain (by assumption) (by (simp;done))) rfl ?_;refine Xt rfl rfl rfl (by exact SlM.plain (by assumption) (by (simp;done))) F.foff49_1 rfl ?_;refine Xs rfl rfl rfl (by assumption) (by exact rfl) F.lay44 rfl rfl rfl ?_;refine X_fn rfl rfl F.ok17 rfl (Take_ok M3 ⟨⟨⟨x_table_self_addr,x_table_self_id⟩,⟨x_table_pred_addr,x_table_pred_id⟩,⟨x_table_succ_a,x_table_succ_c,x_table_succ_l⟩,⟨x_table_fingers_a,x_table_fingers_c,x_table_fingers_l⟩⟩,x_copies,x_joined,x_boot,x_cursor,x_req,x_askTo,x_askReq,x_pingTo,x_pingReq,x_findTo,x_findReq,x_findID,⟨x_avoid_a,x_avoid_c,x_avoid_l⟩,x_hops,x_turn⟩ ⟨1,⟨2,20#160⟩,1,20#160,⟨p_avoid_a,p_avoid_c,[]⟩,false,⟨-1,0⟩,⟨p_peers_a,p_peers_c,[]⟩⟩ (okx.mono (by (repeat first|assumption|refine Mem.le.trans (by assumption) ?_))) (lz _ (List.Mem.head _)).h0) rfl ?_
        rintro _ M4 hm4 hv
        rw [show Uw (ZK.nd ⟨⟨⟨x_table_self_addr,x_table_self_id⟩,⟨x_table_pred_addr,x_table_pred_id⟩,⟨x_table_succ_a,x_table_succ_c,x_table_succ_l⟩,⟨x_table_fingers_a,x_table_fingers_c,x_table_fingers_l⟩⟩,x_copies,x_joined,x_boot,x_cursor,x_req,x_askTo,x_askReq,x_pingTo,x_pingReq,x_findTo,x_findReq,x_findID,⟨x_avoid_a,x_avoid_c,x_avoid_l⟩,x_hops,x_turn⟩) (ZO.lt ⟨1,⟨2,20#160⟩,1,20#160,⟨p_avoid_a,p_avoid_c,[]⟩,false,⟨-1,0⟩,⟨p_peers_a,p_peers_c,[]⟩⟩)=_ from (congrArg (fun n=>Uw n (ZO.lt ⟨1,⟨2,20#160⟩,1,20#160,⟨p_avoid_a,p_avoid_c,[]⟩,false,⟨-1,0⟩,⟨p_peers_a,p_peers_c,[]⟩⟩)) ex).trans nx4] at hv
        simp only [NtE] at hv
        obtain ⟨⟨⟨⟨w_table_self_addr,w_table_self_id⟩,⟨w_table_pred_addr,w_table_pred_id⟩,⟨w_table_succ_a,w_table_succ_c,w_table_succ_l⟩,⟨w_table_fingers_a,w_table_fingers_c,w_table_fingers_l⟩⟩,w_copies,w_joined,w_boot,w_cursor,w_req,w_askTo,w_askReq,w_pingTo,w_pingReq,w_findTo,w_findReq,w_findID,⟨w_avoid_a,w_avoid_c,w_avoid_l⟩,w_hops,w_turn⟩,⟨to_a,to_c,to_l⟩,rfl,ew,sw,okw,kw,lw⟩:=hv
        try simp only at ew sw kw lw
        obtain ⟨⟨r_to,⟨r_kind,⟨r_frm_addr,r_frm_id⟩,r_req,r_id,⟨r_avoid_a,r_avoid_c,r_avoid_l⟩,r_done,⟨r_peer_addr,r_peer_id⟩,⟨r_peers_a,r_peers_c,r_peers_l⟩⟩⟩,rfl,hr⟩:=sndl_one sw
        simp only [Ys.snd,ZO.lt,nL2,Snd.mk.injEq,Lt.mk.injEq,ZI.mk.injEq] at hr
        obtain ⟨rfl,rfl,⟨rfl,rfl⟩,rfl,rfl,rfl,rfl,⟨rfl,rfl⟩,rfl⟩:=hr
        have s_to:=kw.h1
        try simp only at s_to
        refine ZA ?_
        iterate 3 refine XF ?_
        refine YQ F.zero32 ?_;intro b12
        refine Xq F.lay32 ?_
        iterate 2 refine ZD ?_
        refine Zw (Zp (Y_pk [12,11,7,2,1,0] ?_))
        iterate 2 refine ZJ ?_
        refine YL (l:=[0,1,2,3,4,5,6,7,8,9,10,11,12,13,14,15,16,17,18,19,20,21,22,23,24,25,26,27,28,29,30]) #[0,1,3,7,15,31,63,127,255,511,1023,2047,4095,8191,16383,32767,65535,131071,262143,524287,1048575,2097151,4194303,8388607,16777215,33554431,67108863,134217727,8388607,536870911,1073741823] _ rfl (by kernel_rfl) (by kernel_rfl) St.drawn (fun _ h=>h) ?_;refine ZA ?_;refine YJ ?_;refine ZA ?_
        refine Yw 85 rfl (fun hc13=>?_) (fun hc13=>?_)
        ·replace hc13:=nT hc13
         simp only [ZI.eta,ZN.eta,ZK.eta,ZO.eta,Ys.eta,ZQ.eta,YO.eta,ZU.eta] at hc13
         (exfalso;simp [eqX] at hc13;done)
        ·replace hc13:=nF hc13
         simp only [ZI.eta,ZN.eta,ZK.eta,ZO.eta,Ys.eta,ZQ.eta,YO.eta,ZU.eta] at hc13
         refine ZA ?_;refine YW F.elem35 ?_;refine YJ ?_;refine ZM ?_;refine ZA ?_
         refine Yw 90 rfl (fun hc14=>?_) (fun hc14=>?_)
         ·replace hc14:=nT hc14
          (exfalso;simp [eqX] at hc14;done)
         ·replace hc14:=nF hc14
          refine ZA ?_;refine YM rfl rfl rfl rfl F.elem35 (by rfl) (by (simp;done)) (by exact SlM.plain (by assumption) (by (simp;done))) rfl ?_;refine Xt rfl rfl rfl (by exact SlM.plain (by assumption) (by (simp;done))) F.foff49_0 rfl ?_;refine Xs rfl rfl rfl (by assumption) (by exact rfl) F.lay3 rfl rfl rfl ?_;refine YJ ?_;refine ZM ?_;refine ZA ?_
          refine Yw 97 rfl (fun hc15=>?_) (fun hc15=>?_)
          ·replace hc15:=nT hc15
           simp only [ZI.eta,ZN.eta,ZK.eta,ZO.eta,Ys.eta,ZQ.eta,YO.eta,ZU.eta] at hc15
           (exfalso;simp [eqX] at hc15;done)
          ·replace hc15:=nF hc15
           simp only [ZI.eta,ZN.eta,ZK.eta,ZO.eta,Ys.eta,ZQ.eta,YO.eta,ZU.eta] at hc15
           refine ZA ?_;refine YM rfl rfl rfl rfl F.elem35 (by rfl) (by (simp;done)) (by exact SlM.plain (by assumption) (by (simp;done))) rfl ?_;refine Xt rfl rfl rfl (by exact SlM.plain (by assumption) (by (simp;done))) F.foff49_1 rfl ?_;refine Xt rfl rfl rfl (by exact SlM.plain (by assumption) (by (simp;done))) F.foff44_5 rfl ?_;refine Xs rfl rfl rfl (by assumption) (by exact rfl) F.lay4 rfl rfl rfl ?_;refine XP ?_;refine ZM ?_;refine ZA ?_
           refine Yw 105 rfl (fun hc16=>?_) (fun hc16=>?_)
           ·skip
            (exfalso;simp [eqX] at hc16;done)
           ·skip
            refine ZA ?_;refine YM rfl rfl rfl rfl F.elem35 (by rfl) (by (simp;done)) (by exact SlM.plain (by assumption) (by (simp;done))) rfl ?_;refine Xt rfl rfl rfl (by exact SlM.plain (by assumption) (by (simp;done))) F.foff49_1 rfl ?_;refine Xt rfl rfl rfl (by exact SlM.plain (by assumption) (by (simp;done))) F.foff44_6 rfl ?_;refine Xs rfl rfl rfl (by assumption) (by exact rfl) F.lay25 rfl rfl rfl ?_;refine ZH F.lay25 ?_
            refine WI (m:=20) rfl rfl rfl rfl rfl (by constructor) (by constructor) F.lay25 F.kinds25 rfl F.guard25 (by exact XR (⟨_,_⟩)) (by exact XR (⟨_,_⟩)) rfl rfl rfl ?_;intro c17 he18
            replace he18:c17=true↔¬(Segs.cells _=Segs.cells _):=he18
            obtain rfl:=neD he18 (ZI.inj (x:=⟨_,_⟩) (y:=⟨_,_⟩));clear he18
            refine ZM ?_;refine Zw (Zp (Y_pk [113,11,7,2,1,0] ?_))
            refine YC rfl (fun hc19=>?_) (fun hc19=>?_)
            ·replace hc19:=nT hc19
             simp only [ZI.eta,ZN.eta,ZK.eta,ZO.eta,Ys.eta,ZQ.eta,YO.eta,ZU.eta] at hc19
             (exfalso;simp [eqX] at hc19;done)
            ·replace hc19:=nF hc19
             simp only [ZI.eta,ZN.eta,ZK.eta,ZO.eta,Ys.eta,ZQ.eta,YO.eta,ZU.eta] at hc19
             refine YE (Zp (Y_pk [11,7,2,1,0] ?_));refine ZJ (YL (l:=[0,1,2,3,4,5,6,7,8,9,10,11,12,13]) #[0,0,2,6,14,31,63,127,127,127,0,1279,3583,8191] _ rfl (by kernel_rfl) (by kernel_rfl) St.drawn (fun _ h=>h) ?_);refine ZH F.lay32 ?_;refine ZA ?_;refine YM rfl rfl rfl rfl F.elem35 (by rfl) (by (simp;done)) (by exact SlM.plain (by assumption) (by (simp;done))) rfl ?_;refine Xt rfl rfl rfl (by exact SlM.plain (by assumption) (by (simp;done))) F.foff49_1 rfl ?_;refine Xs rfl rfl rfl (by assumption) (by exact rfl) F.lay44 rfl rfl rfl ?_;refine X_fn rfl rfl F.ok17 rfl (Take_ok M4 ⟨⟨⟨z_table_self_addr,z_table_self_id⟩,⟨z_table_pred_addr,z_table_pred_id⟩,⟨z_table_succ_a,z_table_succ_c,z_table_succ_l⟩,⟨z_table_fingers_a,z_table_fingers_c,z_table_fingers_l⟩⟩,z_copies,z_joined,z_boot,z_cursor,z_req,z_askTo,z_askReq,z_pingTo,z_pingReq,z_findTo,z_findReq,z_findID,⟨z_avoid_a,z_avoid_c,z_avoid_l⟩,z_hops,z_turn⟩ ⟨2,⟨1,10#160⟩,1,0,⟨r_avoid_a,r_avoid_c,[]⟩,true,⟨1,10#160⟩,⟨r_peers_a,r_peers_c,[]⟩⟩ (okz.mono hm4) (lw _ (List.Mem.head _)).h0) rfl ?_
             rintro _ M5 hm5 hv
             rw [show Uw (ZK.nd ⟨⟨⟨z_table_self_addr,z_table_self_id⟩,⟨z_table_pred_addr,z_table_pred_id⟩,⟨z_table_succ_a,z_table_succ_c,z_table_succ_l⟩,⟨z_table_fingers_a,z_table_fingers_c,z_table_fingers_l⟩⟩,z_copies,z_joined,z_boot,z_cursor,z_req,z_askTo,z_askReq,z_pingTo,z_pingReq,z_findTo,z_findReq,z_findID,⟨z_avoid_a,z_avoid_c,z_avoid_l⟩,z_hops,z_turn⟩) (ZO.lt ⟨2,⟨1,10#160⟩,1,0,⟨r_avoid_a,r_avoid_c,[]⟩,true,⟨1,10#160⟩,⟨r_peers_a,r_peers_c,[]⟩⟩)=_ from (congrArg (fun n=>Uw n (ZO.lt ⟨2,⟨1,10#160⟩,1,0,⟨r_avoid_a,r_avoid_c,[]⟩,true,⟨1,10#160⟩,⟨r_peers_a,r_peers_c,[]⟩⟩)) ez).trans nx5] at hv
             simp only [NtE] at hv
             obtain ⟨⟨⟨⟨v_table_self_addr,v_table_self_id⟩,⟨v_table_pred_addr,v_table_pred_id⟩,⟨v_table_succ_a,v_table_succ_c,v_table_succ_l⟩,⟨v_table_fingers_a,v_table_fingers_c,v_table_fingers_l⟩⟩,v_copies,v_joined,v_boot,v_cursor,v_req,v_askTo,v_askReq,v_pingTo,v_pingReq,v_findTo,v_findReq,v_findID,⟨v_avoid_a,v_avoid_c,v_avoid_l⟩,v_hops,v_turn⟩,⟨vo_a,vo_c,vo_l⟩,rfl,ev,sv,okv,kv,lv⟩:=hv
             try simp only at ev sv kv lv
             refine ZA ?_
             iterate 3 refine XF ?_
             refine YQ F.zero32 ?_;intro b20
             refine Xq F.lay32 ?_
             iterate 2 refine ZD ?_
             refine Zw (Zp (Y_pk [15,13,2,1,0] ?_));refine ZJ (Zm (l:=[0,1,2,3,4,5,6,7,8,9]) rfl ?_);refine ZH F.lay32 ?_;refine X_fn rfl rfl F.ok11 rfl (Tick_ok M5 ⟨⟨⟨v_table_self_addr,v_table_self_id⟩,⟨v_table_pred_addr,v_table_pred_id⟩,⟨v_table_succ_a,v_table_succ_c,v_table_succ_l⟩,⟨v_table_fingers_a,v_table_fingers_c,v_table_fingers_l⟩⟩,v_copies,v_joined,v_boot,v_cursor,v_req,v_askTo,v_askReq,v_pingTo,v_pingReq,v_findTo,v_findReq,v_findID,⟨v_avoid_a,v_avoid_c,v_avoid_l⟩,v_hops,v_turn⟩ 1 okv) rfl ?_
             rintro _ M6 hm6 hv
             rw [show Ud (ZK.nd ⟨⟨⟨v_table_self_addr,v_table_self_id⟩,⟨v_table_pred_addr,v_table_pred_id⟩,⟨v_table_succ_a,v_table_succ_c,v_table_succ_l⟩,⟨v_table_fingers_a,v_table_fingers_c,v_table_fingers_l⟩⟩,v_copies,v_joined,v_boot,v_cursor,v_req,v_askTo,v_askReq,v_pingTo,v_pingReq,v_findTo,v_findReq,v_findID,⟨v_avoid_a,v_avoid_c,v_avoid_l⟩,v_hops,v_turn⟩) 1=_ from (congrArg (fun n=>Ud n 1) ev).trans nx6] at hv
             simp only [NtE] at hv
             obtain ⟨⟨⟨⟨u_table_self_addr,u_table_self_id⟩,⟨u_table_pred_addr,u_table_pred_id⟩,⟨u_table_succ_a,u_table_succ_c,u_table_succ_l⟩,⟨u_table_fingers_a,u_table_fingers_c,u_table_fingers_l⟩⟩,u_copies,u_joined,u_boot,u_cursor,u_req,u_askTo,u_askReq,u_pingTo,u_pingReq,u_findTo,u_findReq,u_findID,⟨u_avoid_a,u_avoid_c,u_avoid_l⟩,u_hops,u_turn⟩,⟨uo_a,uo_c,uo_l⟩,rfl,eu,su,oku,ku,lu⟩:=hv
             try simp only at eu su ku lu
             obtain ⟨⟨q_to,⟨q_kind,⟨q_frm_addr,q_frm_id⟩,q_req,q_id,⟨q_avoid_a,q_avoid_c,q_avoid_l⟩,q_done,⟨q_peer_addr,q_peer_id⟩,⟨q_peers_a,q_peers_c,q_peers_l⟩⟩⟩,rfl,hq⟩:=sndl_one su
             simp only [Ys.snd,ZO.lt,nL3,Snd.mk.injEq,Lt.mk.injEq,ZI.mk.injEq] at hq
             obtain ⟨rfl,rfl,⟨rfl,rfl⟩,rfl,rfl,rfl,rfl,⟨rfl,rfl⟩,rfl⟩:=hq
             have s_uo:=ku.h1
             try simp only at s_uo
             refine ZA ?_
             iterate 3 refine XF ?_
             refine YQ F.zero32 ?_;intro b21
             refine Xq F.lay32 ?_
             iterate 2 refine ZD ?_
             refine Zw (Zp (Y_pk [18,17,15,13,2,1,0] ?_));refine ZJ (Zm (l:=[0,1,2,3,4,5,6,7]) rfl ?_);refine ZH F.lay25 ?_;refine X_fn rfl rfl F.ok23 rfl (Joining_ok M6 ⟨2,20#160⟩ 2 2) rfl ?_
             rintro _ M7 hm7 hv
             rw [nx7] at hv
             simp only [NeE] at hv
             obtain ⟨⟨⟨⟨j_table_self_addr,j_table_self_id⟩,⟨j_table_pred_addr,j_table_pred_id⟩,⟨j_table_succ_a,j_table_succ_c,j_table_succ_l⟩,⟨j_table_fingers_a,j_table_fingers_c,j_table_fingers_l⟩⟩,j_copies,j_joined,j_boot,j_cursor,j_req,j_askTo,j_askReq,j_pingTo,j_pingReq,j_findTo,j_findReq,j_findID,⟨j_avoid_a,j_avoid_c,j_avoid_l⟩,j_hops,j_turn⟩,rfl,ej,okj⟩:=hv
             try simp only at ej
             refine ZA ?_
             iterate 2 refine XF ?_
             refine YQ F.zero32 ?_;intro b22
             refine Xq F.lay32 ?_;refine ZD ?_;refine Zw (Zp (Y_pk [20,18,17,15,13,1,0] ?_));refine ZJ (YL (l:=[0,1,2,3,4,5,6,7,8,9,10,11,12,13,14,15,16,17,18,19,20,21,22,23,24,25,26,27,28,29,30,31,32,33,34,35,36,37,38]) #[0,1,3,7,15,31,63,127,255,511,127,2047,4095,8191,16383,32767,65535,131071,262143,524287,1048575,2097151,4194303,8388607,16777215,33554431,67108863,134217727,268435455,536870911,1073741823,2147483647,4294967295,8589934591,17179869183,34359738367,68719476735,137438953471,274877906943] _ rfl (by kernel_rfl) (by kernel_rfl) St.drawn (fun _ h=>h) ?_);refine ZA ?_;refine YJ ?_;refine ZA ?_
             refine Yw 137 rfl (fun hc23=>?_) (fun hc23=>?_)
             ·replace hc23:=dT hc23
              simp only [ZI.eta,ZN.eta,ZK.eta,ZO.eta,Ys.eta,ZQ.eta,YO.eta,ZU.eta] at hc23
              have hvj:v_joined=true:=(congrArg Nd.joined ev).trans nx8
              refine Zk F.foff32_2 ?_;refine ZH F.lay4 ?_;refine WY 139 rfl (show _=Value.bool true from congrArg Value.bool hvj) ?_;refine ZM ?_;refine ZA ?_
              refine Yw 141 rfl (fun hc24=>?_) (fun hc24=>?_)
              ·skip
               simp only [ZI.eta,ZN.eta,ZK.eta,ZO.eta,Ys.eta,ZQ.eta,YO.eta,ZU.eta] at hc24
               refine Zk F.foff32_0 ?_;refine ZH F.lay28 ?_;refine X_fs rfl rfl F.ok41 rfl (First_ok _ ⟨⟨v_table_self_addr,v_table_self_id⟩,⟨v_table_pred_addr,v_table_pred_id⟩,⟨v_table_succ_a,v_table_succ_c,v_table_succ_l⟩,⟨v_table_fingers_a,v_table_fingers_c,v_table_fingers_l⟩⟩ (okv.h0.mono (by (repeat first|assumption|refine Mem.le.trans (by assumption) ?_)))) rfl ?_
               rintro _ hv
               have h9:Wi (ZN.tb ⟨⟨v_table_self_addr,v_table_self_id⟩,⟨v_table_pred_addr,v_table_pred_id⟩,⟨v_table_succ_a,v_table_succ_c,v_table_succ_l⟩,⟨v_table_fingers_a,v_table_fingers_c,v_table_fingers_l⟩⟩)=⟨1,10#160⟩:=(congrArg (fun n:Nd=>Wi n.table) ev).trans nx9
               rw [h9] at hv
               subst hv
               refine ZH F.lay25 ?_
               refine WI (m:=20) rfl rfl rfl rfl rfl (by constructor) (by constructor) F.lay25 F.kinds25 rfl F.guard25 (by exact XR _) (by exact XR (⟨_,_⟩)) rfl rfl rfl ?_;intro c25 he26
               replace he26:c25=true↔Segs.cells _=Segs.cells _:=he26
               obtain rfl:=eqD he26 (ZI.inj (x:=⟨_,_⟩) (y:=⟨_,_⟩));clear he26
               refine ZM ?_;refine ZA ?_
               refine Yw 148 rfl (fun hc27=>?_) (fun hc27=>?_)
               ·replace hc27:=dT hc27
                simp only [ZI.eta,ZN.eta,ZK.eta,ZO.eta,Ys.eta,ZQ.eta,YO.eta,ZU.eta] at hc27
                refine ZA ?_;refine YJ ?_;refine ZM ?_;refine ZA ?_
                refine Yw 152 rfl (fun hc28=>?_) (fun hc28=>?_)
                ·replace hc28:=dT hc28
                 simp only [ZI.eta,ZN.eta,ZK.eta,ZO.eta,Ys.eta,ZQ.eta,YO.eta,ZU.eta] at hc28
                 refine ZA ?_;refine YW F.elem35 ?_;refine YJ ?_;refine ZM ?_;refine ZA ?_
                 refine Yw 157 rfl (fun hc29=>?_) (fun hc29=>?_)
                 ·replace hc29:=dT hc29
                  refine ZA ?_;refine YM rfl rfl rfl rfl F.elem35 (by rfl) (by (simp;done)) (by exact SlM.plain (by assumption) (by (simp;done))) rfl ?_;refine Xt rfl rfl rfl (by exact SlM.plain (by assumption) (by (simp;done))) F.foff49_1 rfl ?_;refine Xt rfl rfl rfl (by exact SlM.plain (by assumption) (by (simp;done))) F.foff44_0 rfl ?_;refine Xs rfl rfl rfl (by exact SlM.mono (by assumption) (by assumption)) (by exact rfl) F.lay3 rfl rfl rfl ?_;refine YJ ?_;refine ZM ?_;refine ZA ?_
                  refine Yw 165 rfl (fun hc30=>?_) (fun hc30=>?_)
                  ·replace hc30:=dT hc30
                   simp only [ZI.eta,ZN.eta,ZK.eta,ZO.eta,Ys.eta,ZQ.eta,YO.eta,ZU.eta] at hc30
                   refine ZA ?_;refine YJ ?_;refine ZM ?_;refine ZA ?_
                   refine Yw 169 rfl (fun hc31=>?_) (fun hc31=>?_)
                   ·replace hc31:=dT hc31
                    simp only [ZI.eta,ZN.eta,ZK.eta,ZO.eta,Ys.eta,ZQ.eta,YO.eta,ZU.eta] at hc31
                    refine ZH F.lay32 ?_;refine X_fs rfl rfl F.ok27 rfl (IsN_ok _ ⟨⟨⟨v_table_self_addr,v_table_self_id⟩,⟨v_table_pred_addr,v_table_pred_id⟩,⟨v_table_succ_a,v_table_succ_c,v_table_succ_l⟩,⟨v_table_fingers_a,v_table_fingers_c,v_table_fingers_l⟩⟩,v_copies,v_joined,v_boot,v_cursor,v_req,v_askTo,v_askReq,v_pingTo,v_pingReq,v_findTo,v_findReq,v_findID,⟨v_avoid_a,v_avoid_c,v_avoid_l⟩,v_hops,v_turn⟩ (okv.mono (by (repeat first|assumption|refine Mem.le.trans (by assumption) ?_)))) rfl ?_
                    rintro _ hv
                    have h9:IsNd (ZK.nd ⟨⟨⟨v_table_self_addr,v_table_self_id⟩,⟨v_table_pred_addr,v_table_pred_id⟩,⟨v_table_succ_a,v_table_succ_c,v_table_succ_l⟩,⟨v_table_fingers_a,v_table_fingers_c,v_table_fingers_l⟩⟩,v_copies,v_joined,v_boot,v_cursor,v_req,v_askTo,v_askReq,v_pingTo,v_pingReq,v_findTo,v_findReq,v_findID,⟨v_avoid_a,v_avoid_c,v_avoid_l⟩,v_hops,v_turn⟩):=ev.symm ▸ nx10
                    rw [decide_eq_true h9] at hv
                    subst hv
                    refine ZM ?_;refine ZD ?_;refine Zw (Zp (Y_pk [0] ?_));refine Yq ?_
                    refine Yg (.inr rfl) (.tmp rfl .nil) (fun w hw=>?_)
                    exact ⟨_,_,rfl,(by (repeat first|assumption|refine Mem.le.trans (by assumption) ?_)),hw.c,rfl⟩
                   ·replace hc31:=dF hc31
                    simp only [ZI.eta,ZN.eta,ZK.eta,ZO.eta,Ys.eta,ZQ.eta,YO.eta,ZU.eta] at hc31
                    (exfalso;simp [eqX] at hc31;done)
                  ·replace hc30:=dF hc30
                   simp only [ZI.eta,ZN.eta,ZK.eta,ZO.eta,Ys.eta,ZQ.eta,YO.eta,ZU.eta] at hc30
                   (exfalso;simp [eqX] at hc30;done)
                 ·replace hc29:=dF hc29
                  (exfalso;simp [eqX] at hc29;done)
                ·replace hc28:=dF hc28
                 simp only [ZI.eta,ZN.eta,ZK.eta,ZO.eta,Ys.eta,ZQ.eta,YO.eta,ZU.eta] at hc28
                 (exfalso;simp [eqX] at hc28;done)
               ·replace hc27:=dF hc27
                simp only [ZI.eta,ZN.eta,ZK.eta,ZO.eta,Ys.eta,ZQ.eta,YO.eta,ZU.eta] at hc27
                (exfalso;simp [eqX] at hc27;done)
              ·skip
               (exfalso;simp [eqX] at hc24;done)
             ·replace hc23:=dF hc23
              simp only [ZI.eta,ZN.eta,ZK.eta,ZO.eta,Ys.eta,ZQ.eta,YO.eta,ZU.eta] at hc23
              (exfalso;simp [eqX] at hc23;done)
end Go.Proofs.YtajmnjefajknoaaGreat
namespace Go.Proofs.YtajmnjefajknoaaGreat
open Go.Esp
theorem F.ok12:okFn Tryz.prog 12=true:=by kernel_rfl
theorem F.ok13:okFn Tryz.prog 13=true:=by kernel_rfl
theorem F.ok14:okFn Tryz.prog 14=true:=by kernel_rfl
theorem F.ok15:okFn Tryz.prog 15=true:=by kernel_rfl
theorem F.ok9:okFn Tryz.prog 9=true:=by kernel_rfl
theorem lawTicks_ok (M:Mem) (n:ZK) (kind:Int) (hn0:ZK.ok M n):Esp.Fn Tryz.prog 3 [n.enc,.int .i64 kind] M (fun _ v=>v=.bool true):=by
  obtain ⟨⟨⟨Za,Zb⟩,⟨Zf,Zh⟩,⟨Zj,Zi,Zg⟩,⟨Ze,Zd,Zc⟩⟩,Zt,Zs,ZC,Zz,ZL,ZB,Zy,Zu,Zo,Zv,Zn,Zx,⟨Zr,Zq,Zl⟩,ZE,ZF⟩:=n
  have Yt:ZN.ok M ⟨⟨Za,Zb⟩,⟨Zf,Zh⟩,⟨Zj,Zi,Zg⟩,⟨Ze,Zd,Zc⟩⟩:=hn0.h0
  have YU:SlK M ZI.segs 21 ⟨Zj,Zi,Zg⟩:=hn0.h0.h0
  have Wt:SlM M Zj (Zg.map ZI.segs) 21:=YU.h1
  have Wv:(Zg.map ZI.segs).length=Zg.length:=List.length_map ..
  have Ww:Zg.length≤9223372036854775807:=YU.h2
  have Wx:Zg.length≤Zi:=YU.h3
  have YK:SlK M ZI.segs 21 ⟨Ze,Zd,Zc⟩:=hn0.h0.h1
  have Wd:SlM M Ze (Zc.map ZI.segs) 21:=YK.h1
  have Wf:(Zc.map ZI.segs).length=Zc.length:=List.length_map ..
  have Wg:Zc.length≤9223372036854775807:=YK.h2
  have Wh:Zc.length≤Zd:=YK.h3
  have YI:SlK M (oneI .i64) 1 ⟨Zr,Zq,Zl⟩:=hn0.h1
  have WZ:SlM M Zr (Zl.map (oneI .i64)) 1:=YI.h1
  have Vt:(Zl.map (oneI .i64)).length=Zl.length:=List.length_map ..
  have Vj:Zl.length≤9223372036854775807:=YI.h2
  have Vu:Zl.length≤Zq:=YI.h3
  obtain ⟨⟨T1,T2,T3⟩,hT⟩:∃ x,Ud (ZK.nd ⟨⟨⟨Za,Zb⟩,⟨Zf,Zh⟩,⟨Zj,Zi,Zg⟩,⟨Ze,Zd,Zc⟩⟩,Zt,Zs,ZC,Zz,ZL,ZB,Zy,Zu,Zo,Zv,Zn,Zx,⟨Zr,Zq,Zl⟩,ZE,ZF⟩) kind=x:=⟨_,rfl⟩
  refine WB Tryz.func3 rfl Tryz.ntmps3 rfl ?_;intro H
  refine ZJ (Zm (l:=[0,1]) rfl ?_)
  refine Xv ?_;intro b1
  refine ZD ?_;refine Zw (Zp (Y_pk [4,2,1] ?_))
  iterate 2 refine ZJ ?_
  refine Zm (l:=[0,1]) rfl ?_;refine ZH F.lay32 ?_;refine X_fs rfl rfl F.ok9 rfl (BigN_ok _ ⟨⟨⟨Za,Zb⟩,⟨Zf,Zh⟩,⟨Zj,Zi,Zg⟩,⟨Ze,Zd,Zc⟩⟩,Zt,Zs,ZC,Zz,ZL,ZB,Zy,Zu,Zo,Zv,Zn,Zx,⟨Zr,Zq,Zl⟩,ZE,ZF⟩ hn0) rfl ?_
  rintro _ ⟨bi,rfl,hbi⟩
  refine Zw (Zp (Y_pk [13,4,2,1] ?_))
  refine YC rfl (fun hc2=>?_) (fun hc2=>?_)
  ·skip
   refine ZJ (Zm (l:=[0]) rfl ?_);refine ZD ?_;refine Zw (Zp (Y_pk [4,2,1] ?_));refine Yq (YS ?_)
   refine Yg (.inr rfl) (.tmp rfl .nil) (fun w hw=>?_)
   refine ⟨_,_,rfl,(by exact Mem.le.refl _),hw.c,?_⟩
   clear hw
   rfl
  ·skip
   refine YE (Zp (Y_pk [4,2,1] ?_));refine ZJ ?_
   obtain ⟨⟨hb1,hb2⟩,hb3⟩:=hbi (by assumption)
   try simp only at hb1 hb2 hb3
   refine Zm (l:=[0,1,2,3]) rfl ?_;refine ZH F.lay32 ?_;refine VV rfl rfl F.ok10 rfl (rNOwn_ok M ⟨⟨⟨Za,Zb⟩,⟨Zf,Zh⟩,⟨Zj,Zi,Zg⟩,⟨Ze,Zd,Zc⟩⟩,Zt,Zs,ZC,Zz,ZL,ZB,Zy,Zu,Zo,Zv,Zn,Zx,⟨Zr,Zq,Zl⟩,ZE,ZF⟩ hn0 ⟨hb1,hb2⟩ (by show Zl.length≤1000;omega)) (by repeat first|exact Rem.here _|exact Rem.two|apply Rem.skip|apply Rem.over) (fun _ _ _ hm hw=>(hw.lower (by exact hm)).c) (YN rfl) ?_
   rintro _ M1 hs5 hm1 ⟨⟨⟨oa,oi⟩,⟨oq,oj⟩,⟨o1a,o1c,o1l⟩,⟨o2a,o2c,o2l⟩⟩,⟨s_a,s_c,s_l⟩,rfl,hot,okt1,ho9,hl9⟩
   simp only [Sl.val] at ho9
   refine YQ F.zero32 ?_;intro b3
   refine Xq F.lay32 ?_;refine Zw (Zp (Y_pk [5,4,2,1] ?_));refine ZJ ?_
   refine Un ho9 (by repeat first|exact Rem.here _|exact Rem.two|apply Rem.skip|apply Rem.over) (fun M2 hM2 k9=>?_)
   have okO:ZK.ok M2 ⟨⟨⟨oa,oi⟩,⟨oq,oj⟩,⟨o1a,o1c,o1l⟩,⟨o2a,o2c,o2l⟩⟩,Zt,Zs,ZC,Zz,ZL,ZB,Zy,Zu,Zo,Zv,Zn,Zx,⟨s_a,s_c,s_l⟩,ZE,ZF⟩:=⟨okt1.mono hM2,k9⟩
   have hon:ZK.nd ⟨⟨⟨oa,oi⟩,⟨oq,oj⟩,⟨o1a,o1c,o1l⟩,⟨o2a,o2c,o2l⟩⟩,Zt,Zs,ZC,Zz,ZL,ZB,Zy,Zu,Zo,Zv,Zn,Zx,⟨s_a,s_c,s_l⟩,ZE,ZF⟩=(ZK.nd ⟨⟨⟨Za,Zb⟩,⟨Zf,Zh⟩,⟨Zj,Zi,Zg⟩,⟨Ze,Zd,Zc⟩⟩,Zt,Zs,ZC,Zz,ZL,ZB,Zy,Zu,Zo,Zv,Zn,Zx,⟨Zr,Zq,Zl⟩,ZE,ZF⟩):=own_nd (n:=⟨⟨⟨Za,Zb⟩,⟨Zf,Zh⟩,⟨Zj,Zi,Zg⟩,⟨Ze,Zd,Zc⟩⟩,Zt,Zs,ZC,Zz,ZL,ZB,Zy,Zu,Zo,Zv,Zn,Zx,⟨Zr,Zq,Zl⟩,ZE,ZF⟩) (t9:=⟨⟨oa,oi⟩,⟨oq,oj⟩,⟨o1a,o1c,o1l⟩,⟨o2a,o2c,o2l⟩⟩) (s9:=⟨s_a,s_c,s_l⟩) hot hl9
   refine Zm (l:=[0,1,2,3,4,5,6,7,8,9,10]) rfl ?_;refine ZH F.lay32 ?_;refine ZA ?_;refine X_fn rfl rfl F.ok11 rfl (Tick_ok _ ⟨⟨⟨Za,Zb⟩,⟨Zf,Zh⟩,⟨Zj,Zi,Zg⟩,⟨Ze,Zd,Zc⟩⟩,Zt,Zs,ZC,Zz,ZL,ZB,Zy,Zu,Zo,Zv,Zn,Zx,⟨Zr,Zq,Zl⟩,ZE,ZF⟩ kind (hn0.mono (by (repeat first|assumption|refine Mem.le.trans (by assumption) ?_)))) rfl ?_
   rintro _ M3 hm3 hv
   rw [show Ud (ZK.nd ⟨⟨⟨Za,Zb⟩,⟨Zf,Zh⟩,⟨Zj,Zi,Zg⟩,⟨Ze,Zd,Zc⟩⟩,Zt,Zs,ZC,Zz,ZL,ZB,Zy,Zu,Zo,Zv,Zn,Zx,⟨Zr,Zq,Zl⟩,ZE,ZF⟩) kind=_ from hT] at hv
   simp only [NtE] at hv
   obtain ⟨⟨⟨⟨a_table_self_addr,a_table_self_id⟩,⟨a_table_pred_addr,a_table_pred_id⟩,⟨a_table_succ_a,a_table_succ_c,WH⟩,⟨a_table_fingers_a,a_table_fingers_c,Wl⟩⟩,a_copies,a_joined,a_boot,a_cursor,a_req,a_askTo,a_askReq,a_pingTo,a_pingReq,a_findTo,a_findReq,a_findID,⟨a_avoid_a,a_avoid_c,WP⟩,a_hops,a_turn⟩,⟨a_a,a_c,a_l⟩,rfl,ea,sa,oka,ka,la⟩:=hv
   try simp only at ea sa ka la
   refine ZA ?_
   iterate 3 refine XF ?_
   refine YQ F.zero32 ?_;intro b4
   refine Xq F.lay32 ?_
   iterate 2 refine ZD ?_
   refine Zw (Zp (Y_pk [8,7,6,5,4,2,1] ?_));refine ZJ (Zm (l:=[0,1,2,3,4,5,6,7,8,9,10]) rfl ?_);refine ZH F.lay32 ?_;refine ZA ?_;refine X_fn rfl rfl F.ok12 rfl (rTick_ok _ ⟨⟨⟨oa,oi⟩,⟨oq,oj⟩,⟨o1a,o1c,o1l⟩,⟨o2a,o2c,o2l⟩⟩,Zt,Zs,ZC,Zz,ZL,ZB,Zy,Zu,Zo,Zv,Zn,Zx,⟨s_a,s_c,s_l⟩,ZE,ZF⟩ kind (okO.mono (by assumption))) rfl ?_
   rintro _ M4 hm4 hv
   rw [show Ud (ZK.nd ⟨⟨⟨oa,oi⟩,⟨oq,oj⟩,⟨o1a,o1c,o1l⟩,⟨o2a,o2c,o2l⟩⟩,Zt,Zs,ZC,Zz,ZL,ZB,Zy,Zu,Zo,Zv,Zn,Zx,⟨s_a,s_c,s_l⟩,ZE,ZF⟩) kind=_ from (congrArg (fun n=>Ud n kind) hon).trans hT] at hv
   simp only [NtE] at hv
   obtain ⟨⟨⟨⟨b_table_self_addr,b_table_self_id⟩,⟨b_table_pred_addr,b_table_pred_id⟩,⟨b_table_succ_a,b_table_succ_c,WG⟩,⟨b_table_fingers_a,b_table_fingers_c,Wk⟩⟩,b_copies,b_joined,b_boot,b_cursor,b_req,b_askTo,b_askReq,b_pingTo,b_pingReq,b_findTo,b_findReq,b_findID,⟨b_avoid_a,b_avoid_c,WO⟩,b_hops,b_turn⟩,⟨b_a,b_c,b_l⟩,rfl,eb,sb,okb,kb,lb⟩:=hv
   try simp only at eb sb kb lb
   refine ZA ?_
   iterate 3 refine XF ?_
   refine YQ F.zero32 ?_;intro b5
   refine Xq F.lay32 ?_
   iterate 2 refine ZD ?_
   refine Zw (Zp (Y_pk [11,10,9,8,7,6,5,4,2] ?_));refine ZJ (Zm (l:=[0,1,2,3,4,5,6,7,8,9,10,11,12,13,14,15,16,17,18,19,20,21]) rfl ?_);refine X_fn rfl rfl F.ok13 rfl (noded_ok _) rfl ?_
   rintro _ M99 hm99 rfl
   refine ZA ?_
   refine Yw 31 rfl (fun hc6=>?_) (fun hc6=>?_)
   ·skip
    simp only [ZI.eta,ZN.eta,ZK.eta,ZO.eta,Ys.eta,ZQ.eta,YO.eta,ZU.eta] at hc6
    iterate 2 refine ZH F.lay32 ?_
    refine X_fs rfl rfl F.ok14 rfl (SameN_ok _ ⟨⟨⟨a_table_self_addr,a_table_self_id⟩,⟨a_table_pred_addr,a_table_pred_id⟩,⟨a_table_succ_a,a_table_succ_c,WH⟩,⟨a_table_fingers_a,a_table_fingers_c,Wl⟩⟩,a_copies,a_joined,a_boot,a_cursor,a_req,a_askTo,a_askReq,a_pingTo,a_pingReq,a_findTo,a_findReq,a_findID,⟨a_avoid_a,a_avoid_c,WP⟩,a_hops,a_turn⟩ ⟨⟨⟨b_table_self_addr,b_table_self_id⟩,⟨b_table_pred_addr,b_table_pred_id⟩,⟨b_table_succ_a,b_table_succ_c,WG⟩,⟨b_table_fingers_a,b_table_fingers_c,Wk⟩⟩,b_copies,b_joined,b_boot,b_cursor,b_req,b_askTo,b_askReq,b_pingTo,b_pingReq,b_findTo,b_findReq,b_findID,⟨b_avoid_a,b_avoid_c,WO⟩,b_hops,b_turn⟩ (oka.mono (by (repeat first|assumption|refine Mem.le.trans (by assumption) ?_))) (okb.mono (by assumption))) rfl ?_
    rintro _ hv
    rw [decide_eq_true (show ZK.nd ⟨⟨⟨a_table_self_addr,a_table_self_id⟩,⟨a_table_pred_addr,a_table_pred_id⟩,⟨a_table_succ_a,a_table_succ_c,WH⟩,⟨a_table_fingers_a,a_table_fingers_c,Wl⟩⟩,a_copies,a_joined,a_boot,a_cursor,a_req,a_askTo,a_askReq,a_pingTo,a_pingReq,a_findTo,a_findReq,a_findID,⟨a_avoid_a,a_avoid_c,WP⟩,a_hops,a_turn⟩=ZK.nd ⟨⟨⟨b_table_self_addr,b_table_self_id⟩,⟨b_table_pred_addr,b_table_pred_id⟩,⟨b_table_succ_a,b_table_succ_c,WG⟩,⟨b_table_fingers_a,b_table_fingers_c,Wk⟩⟩,b_copies,b_joined,b_boot,b_cursor,b_req,b_askTo,b_askReq,b_pingTo,b_pingReq,b_findTo,b_findReq,b_findID,⟨b_avoid_a,b_avoid_c,WO⟩,b_hops,b_turn⟩ from ea.trans eb.symm)] at hv
    subst hv
    refine ZM ?_;refine ZA ?_
    refine Yw 36 rfl (fun hc7=>?_) (fun hc7=>?_)
    ·skip
     simp only [ZI.eta,ZN.eta,ZK.eta,ZO.eta,Ys.eta,ZQ.eta,YO.eta,ZU.eta] at hc7
     iterate 2 refine ZA ?_
     refine X_fs rfl rfl F.ok15 rfl (Sends_ok _ ⟨a_a,a_c,a_l⟩ ⟨b_a,b_c,b_l⟩ (ka.mono (by (repeat first|assumption|refine Mem.le.trans (by assumption) ?_))) (fun h hh=>(la h hh).mono (by (repeat first|assumption|refine Mem.le.trans (by assumption) ?_))) (kb.mono (by assumption)) (fun h hh=>(lb h hh).mono (by assumption))) rfl ?_
     rintro _ hv
     rw [decide_eq_true (show a_l.map Ys.snd=b_l.map Ys.snd from sa.trans sb.symm)] at hv
     subst hv
     refine ZM ?_;refine ZA ?_
     refine Yw 41 rfl (fun hc8=>?_) (fun hc8=>?_)
     ·skip
      simp only [ZI.eta,ZN.eta,ZK.eta,ZO.eta,Ys.eta,ZQ.eta,YO.eta,ZU.eta] at hc8
      iterate 2 refine ZA ?_
      refine YJ ?_;refine ZM ?_;refine ZA ?_
      refine Yw 46 rfl (fun hc9=>?_) (fun hc9=>?_)
      ·replace hc9:=dT hc9
       simp only [ZI.eta,ZN.eta,ZK.eta,ZO.eta,Ys.eta,ZQ.eta,YO.eta,ZU.eta] at hc9
       iterate 2 refine ZH F.lay32 ?_
       refine X_fs rfl rfl F.ok14 rfl (SameN_ok _ ⟨⟨⟨Za,Zb⟩,⟨Zf,Zh⟩,⟨Zj,Zi,Zg⟩,⟨Ze,Zd,Zc⟩⟩,Zt,Zs,ZC,Zz,ZL,ZB,Zy,Zu,Zo,Zv,Zn,Zx,⟨Zr,Zq,Zl⟩,ZE,ZF⟩ ⟨⟨⟨oa,oi⟩,⟨oq,oj⟩,⟨o1a,o1c,o1l⟩,⟨o2a,o2c,o2l⟩⟩,Zt,Zs,ZC,Zz,ZL,ZB,Zy,Zu,Zo,Zv,Zn,Zx,⟨s_a,s_c,s_l⟩,ZE,ZF⟩ (hn0.mono (by (repeat first|assumption|refine Mem.le.trans (by assumption) ?_))) (okO.mono (by (repeat first|assumption|refine Mem.le.trans (by assumption) ?_)))) rfl ?_
       rintro _ hv
       rw [decide_eq_true (show ZK.nd ⟨⟨⟨Za,Zb⟩,⟨Zf,Zh⟩,⟨Zj,Zi,Zg⟩,⟨Ze,Zd,Zc⟩⟩,Zt,Zs,ZC,Zz,ZL,ZB,Zy,Zu,Zo,Zv,Zn,Zx,⟨Zr,Zq,Zl⟩,ZE,ZF⟩=ZK.nd ⟨⟨⟨oa,oi⟩,⟨oq,oj⟩,⟨o1a,o1c,o1l⟩,⟨o2a,o2c,o2l⟩⟩,Zt,Zs,ZC,Zz,ZL,ZB,Zy,Zu,Zo,Zv,Zn,Zx,⟨s_a,s_c,s_l⟩,ZE,ZF⟩ from hon.symm)] at hv
       subst hv
       refine ZM ?_;refine ZD ?_;refine Zw (Zp (Y_pk [4] ?_));refine Yq ?_
       refine Yg (.inr rfl) (.tmp rfl .nil) (fun w hw=>?_)
       refine ⟨_,_,rfl,(by exact (((hm1.trans hM2).trans hm3).trans hm4).trans hm99),hw.c,?_⟩
       clear hw
       rfl
      ·replace hc9:=dF hc9
       simp only [ZI.eta,ZN.eta,ZK.eta,ZO.eta,Ys.eta,ZQ.eta,YO.eta,ZU.eta] at hc9
       (exfalso;simp [eqX] at hc9;done)
     ·skip
      (exfalso;simp [eqX] at hc8;done)
    ·skip
     (exfalso;simp [eqX] at hc7;done)
   ·skip
    (exfalso;simp [eqX] at hc6;done)
end Go.Proofs.YtajmnjefajknoaaGreat
