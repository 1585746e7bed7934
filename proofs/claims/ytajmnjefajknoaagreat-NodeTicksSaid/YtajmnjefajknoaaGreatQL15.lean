/-
  Texts of this claim, one behind the other: N9, N10, N11, NodeF, N12, N13, N14, N15, N16, NodeW, E1, E2, E3, E4, E5, E6, E7, E8, E9, InsL, E10, E11.
-/
import Derived.Test.YtajmnjefajknoaaGreatQL14
set_option linter.unusedSimpArgs false
set_option linter.unusedVariables false
set_option linter.unnecessarySimpa false
set_option maxRecDepth 8000
set_option maxHeartbeats 1000000
namespace Go.Proofs.YtajmnjefajknoaaGreat
open Go.Esp
theorem rcheck_ok (M:Mem) (Za:Int) (Zb:Plc) (Zf:Int) (Zh:Plc) (Zj Ze Zr:Option Addr) (Zi Zd Zq:Nat) (Zg Zc:List ZI) (Zl:List Int) (Zt:Int) (Zs:Bool) (ZC Zz ZL ZB Zy Zu Zo Zv Zn:Int) (Zx:Plc) (ZE ZF:Int) (Yt:ZN.ok M ⟨⟨Za,Zb⟩,⟨Zf,Zh⟩,⟨Zj,Zi,Zg⟩,⟨Ze,Zd,Zc⟩⟩) (hbig:Zg.length≤40∧Zc.length≤200) (htu:0≤ZF∧ZF≤999999) (hav:Hp) (hA:OSl 3 1 (.slice Zr Zl.length Zq) hav (Zl.map (oneI .i64))) (hLa:Zl.length≤900):Fh Tryz.prog 39 [ZK.enc ⟨⟨⟨Za,Zb⟩,⟨Zf,Zh⟩,⟨Zj,Zi,Zg⟩,⟨Ze,Zd,Zc⟩⟩,Zt,Zs,ZC,Zz,ZL,ZB,Zy,Zu,Zo,Zv,Zn,Zx,⟨Zr,Zq,Zl⟩,ZE,ZF⟩] M hav (fun M' v Hout=>Hout=[]∧NsE M' v (Ux (ZK.nd ⟨⟨⟨Za,Zb⟩,⟨Zf,Zh⟩,⟨Zj,Zi,Zg⟩,⟨Ze,Zd,Zc⟩⟩,Zt,Zs,ZC,Zz,ZL,ZB,Zy,Zu,Zo,Zv,Zn,Zx,⟨Zr,Zq,Zl⟩,ZE,ZF⟩))):=by
  obtain ⟨tn,rfl⟩:∃ tn:Nat,ZF=(tn:Int):=⟨ZF.toNat,by omega⟩
  refine Vx Tryz.func39 rfl Tryz.ntmps39 rfl ?_;intro H
  refine ZJ (Zm (l:=[0,1,2]) rfl ?_)
  refine Xv ?_;intro b1
  refine YQ F.zero32 ?_;intro b2
  refine ZD ?_;refine Zw (Zp (Y_pk [3,2,1] ?_))
  iterate 2 refine ZJ ?_
  refine Un hA (by repeat first|exact Rem.here _|exact Rem.two|apply Rem.skip|apply Rem.over) (fun M2 hM2 k9=>?_)
  refine Zm (l:=[0,1,2]) rfl ?_;refine Zk F.foff32_8 ?_;refine ZH F.lay3 ?_;refine YJ ?_;refine Zw (Zp (Y_pk [7,3,2,1] ?_))
  refine YC rfl (fun hc3=>?_) (fun hc3=>?_)
  ·replace hc3:=nT hc3
   refine ZJ (Zm (l:=[0,1,2,3,4,5,6]) rfl ?_);refine Zk F.foff32_0 ?_;refine ZH F.lay28 ?_;refine Zk F.foff32_8 ?_;refine ZH F.lay3 ?_;refine X_fn rfl rfl F.ok94 rfl (rForget_ok _ ⟨⟨Za,Zb⟩,⟨Zf,Zh⟩,⟨Zj,Zi,Zg⟩,⟨Ze,Zd,Zc⟩⟩ Zu (Yt.mono hM2) hbig) rfl ?_
   rintro _ M3 hm3 ⟨⟨⟨oa,oi⟩,⟨oq,oj⟩,⟨o1a,o1c,o1l⟩,⟨o2a,o2c,o2l⟩⟩,rfl,hot,okt⟩
   have hbo:o1l.length≤40∧o2l.length≤200:=forget_big hot hbig
   refine Zk F.foff32_0 ?_;refine ZX F.lay28 ?_;refine Zw (Zp (Y_pk [3,2,1] ?_));refine Zm (l:=[0,1]) rfl ?_;refine Zk F.foff32_8 ?_;refine ZX F.lay3 ?_;refine Zw (Zp (Y_pk [3,2,1] ?_));refine ZJ (Zm (l:=[0,1,2,3]) rfl ?_);refine Zk F.foff32_0 ?_;refine ZH F.lay28 ?_;refine X_fn rfl rfl F.ok101 rfl (rKnown_ok _ ⟨⟨oa,oi⟩,⟨oq,oj⟩,⟨o1a,o1c,o1l⟩,⟨o2a,o2c,o2l⟩⟩ okt hbo) rfl ?_
   rintro _ M4 hm4 ⟨⟨l_a,l_c,l_l⟩,rfl,hkl,okl⟩
   simp only at hkl
   have s_l:=okl.h1
   simp only at s_l
   have n_l:(l_l.map ZI.segs).length=l_l.length:=List.length_map ..
   have m_l:l_l.length≤9223372036854775807:=okl.h2
   refine ZD ?_;refine Zw (Zp (Y_pk [4,3,2,1] ?_))
   iterate 2 refine ZJ ?_
   refine Zm (l:=[0,1,2]) rfl ?_;refine ZA ?_;refine YW F.elem26 ?_;refine YJ ?_;refine Zw (Zp (Y_pk [20,4,3,2,1] ?_))
   refine YC rfl (fun hc4=>?_) (fun hc4=>?_)
   ·replace hc4:=dT hc4
    refine ZJ (Zm (l:=[0,1,2]) rfl ?_);refine ZH F.lay32 ?_;refine Xq F.lay32 ?_;refine ZD ?_;refine Zw (Zp (Y_pk [3,4,2,1] ?_));refine Yq (YS ?_)
    refine Yg (.inr rfl) (.cell rfl (by repeat first|exact List.Mem.head _|refine List.Mem.tail _ ?_|refine List.mem_append_right _ ?_) F.lay32 rfl rfl (.tmp rfl .nil)) (fun w hw=>?_)
    have h2:(ZK.nd ⟨⟨⟨oa,oi⟩,⟨oq,oj⟩,⟨o1a,o1c,o1l⟩,⟨o2a,o2c,o2l⟩⟩,Zt,Zs,ZC,Zz,ZL,ZB,Zy,-1,Zo,Zv,Zn,Zx,⟨Zr,Zq,Zl⟩,ZE,(tn:Int)⟩)=if (ZK.nd ⟨⟨⟨Za,Zb⟩,⟨Zf,Zh⟩,⟨Zj,Zi,Zg⟩,⟨Ze,Zd,Zc⟩⟩,Zt,Zs,ZC,Zz,ZL,ZB,Zy,Zu,Zo,Zv,Zn,Zx,⟨Zr,Zq,Zl⟩,ZE,(tn:Int)⟩).pingTo≠-1 then { (ZK.nd ⟨⟨⟨Za,Zb⟩,⟨Zf,Zh⟩,⟨Zj,Zi,Zg⟩,⟨Ze,Zd,Zc⟩⟩,Zt,Zs,ZC,Zz,ZL,ZB,Zy,Zu,Zo,Zv,Zn,Zx,⟨Zr,Zq,Zl⟩,ZE,(tn:Int)⟩) with table:=XM (ZK.nd ⟨⟨⟨Za,Zb⟩,⟨Zf,Zh⟩,⟨Zj,Zi,Zg⟩,⟨Ze,Zd,Zc⟩⟩,Zt,Zs,ZC,Zz,ZL,ZB,Zy,Zu,Zo,Zv,Zn,Zx,⟨Zr,Zq,Zl⟩,ZE,(tn:Int)⟩).table (ZK.nd ⟨⟨⟨Za,Zb⟩,⟨Zf,Zh⟩,⟨Zj,Zi,Zg⟩,⟨Ze,Zd,Zc⟩⟩,Zt,Zs,ZC,Zz,ZL,ZB,Zy,Zu,Zo,Zv,Zn,Zx,⟨Zr,Zq,Zl⟩,ZE,(tn:Int)⟩).pingTo,pingTo:=-1 } else (ZK.nd ⟨⟨⟨Za,Zb⟩,⟨Zf,Zh⟩,⟨Zj,Zi,Zg⟩,⟨Ze,Zd,Zc⟩⟩,Zt,Zs,ZC,Zz,ZL,ZB,Zy,Zu,Zo,Zv,Zn,Zx,⟨Zr,Zq,Zl⟩,ZE,(tn:Int)⟩):=by
     rw [if_pos (by show Zu≠-1;omega),show XM (ZK.nd ⟨⟨⟨Za,Zb⟩,⟨Zf,Zh⟩,⟨Zj,Zi,Zg⟩,⟨Ze,Zd,Zc⟩⟩,Zt,Zs,ZC,Zz,ZL,ZB,Zy,Zu,Zo,Zv,Zn,Zx,⟨Zr,Zq,Zl⟩,ZE,(tn:Int)⟩).table (ZK.nd ⟨⟨⟨Za,Zb⟩,⟨Zf,Zh⟩,⟨Zj,Zi,Zg⟩,⟨Ze,Zd,Zc⟩⟩,Zt,Zs,ZC,Zz,ZL,ZB,Zy,Zu,Zo,Zv,Zn,Zx,⟨Zr,Zq,Zl⟩,ZE,(tn:Int)⟩).pingTo=_ from hot.symm];rfl
    have hl0:l_l=[]:=List.length_eq_zero_iff.1 (by omega)
    rw [hl0] at hkl
    have h3:=check_nil h2 hkl.symm
    exact ⟨_,M4,[],rfl,(hM2.trans hm3).trans hm4,hw.c,rfl,⟨⟨⟨oa,oi⟩,⟨oq,oj⟩,⟨o1a,o1c,o1l⟩,⟨o2a,o2c,o2l⟩⟩,Zt,Zs,ZC,Zz,ZL,ZB,Zy,-1,Zo,Zv,Zn,Zx,⟨Zr,Zq,Zl⟩,ZE,(tn:Int)⟩,⟨none,0,[]⟩,rfl,by rw [h3],by rw [h3];rfl,⟨okt.mono hm4,(k9.mono hm3).mono hm4⟩,SlK.nil,fun y hy=>by cases hy⟩
   ·replace hc4:=dF hc4
    refine YE (Zp (Y_pk [4,3,2,1] ?_));refine ZJ ?_
    obtain ⟨kk,hkt⟩:∃ kk,tn % l_l.length=kk:=⟨_,rfl⟩
    have hkk:kk<l_l.length:=by rw [← hkt];exact Nat.mod_lt _ (by omega)
    refine Zm (l:=[0,1,2,3,4]) rfl ?_;refine Zk F.foff32_5 ?_;refine ZH F.lay29 ?_;refine Xz rfl rfl rfl rfl rfl (by exact Vw _) rfl ?_
    obtain ⟨r9,hr9⟩:∃ v,nxR ZL=v:=⟨_,rfl⟩
    refine WY 24 rfl (show _=Value.int .u64 r9 from by rw [← hr9];exact congrArg (Value.int .u64) (nx_w64 _)) ?_;refine Zk F.foff32_5 ?_;refine ZX F.lay29 ?_;refine Zw (Zp (Y_pk [4,3,2,1] ?_));refine ZJ (Zm (l:=[0,1,2,3,4,5,6,7,8,9,10]) rfl ?_);refine ZA ?_;refine Zk F.foff32_15 ?_;refine ZH F.lay3 ?_;refine ZA ?_;refine YW F.elem26 ?_;refine UF rfl rfl rfl rfl (by omega) (by exact Up (by omega)) rfl ?_;refine WY 31 rfl (show _=Value.int .i64 (kk:Int) from by rw [← hkt];rfl) ?_;refine YM rfl rfl rfl rfl F.elem26 (by rfl) (by omega) (by exact SlM.plain (by assumption) (by (simp;omega))) rfl ?_;refine Xt rfl rfl rfl (by exact SlM.plain (by assumption) (by (simp;omega))) F.foff25_0 rfl ?_;refine Xs rfl rfl rfl (by assumption) (by exact XQ (by omega)) F.lay3 rfl rfl rfl ?_
    refine Zk F.foff32_8 ?_;refine ZX F.lay3 ?_;refine Zw (Zp (Y_pk [3,2,1] ?_));refine ZJ (Zm (l:=[0,1,2,3]) rfl ?_);refine Zk F.foff32_5 ?_;refine ZH F.lay29 ?_;refine Zk F.foff32_9 ?_;refine ZX F.lay29 ?_;refine Zw (Zp (Y_pk [3,2,1] ?_));refine ZJ (Zm (l:=[0,1,2,3,4,5]) rfl ?_);refine Zk F.foff32_15 ?_;refine ZH F.lay3 ?_;refine Xz rfl rfl rfl rfl rfl (by exact Xg (by decide) (by omega)) rfl ?_;refine UF rfl rfl rfl rfl (by decide) (by exact Up (by omega)) rfl ?_;refine Zk F.foff32_15 ?_;refine ZX F.lay3 ?_;refine Zw (Zp (Y_pk [3,2,1] ?_));refine ZJ (C_region_anyPR (Hin:=[(b2,_)]) [0,1,2,3,4,5,6,7,9,8,10] [9] #[0,0,2,0,0,16,56,126,254,121,1023] (by repeat first|exact Rem.here _|exact Rem.two|apply Rem.skip|apply Rem.over) (by kernel_rfl) (by kernel_rfl) ?_)
    refine ZH F.lay32 ?_;refine Zk F.foff32_8 ?_;refine ZH F.lay3 ?_;refine ZH F.lay32 ?_;refine Zk F.foff32_5 ?_;refine ZH F.lay29 ?_;refine X_fs rfl rfl F.ok58 rfl (rlett_ok _ ⟨⟨⟨oa,oi⟩,⟨oq,oj⟩,⟨o1a,o1c,o1l⟩,⟨o2a,o2c,o2l⟩⟩,Zt,Zs,ZC,Zz,r9,ZB,Zy,l_l[kk].addr,r9,Zv,Zn,Zx,⟨Zr,Zq,Zl⟩,ZE,(((tn:Int)+1) % 1000000)⟩ 6 r9) rfl ?_
    rintro _ rfl
    refine Xy rfl rfl F.bld49 (.cons rfl (by constructor) (.cons rfl (by constructor) .nil)) rfl rfl ?_;refine X_storeE rfl rfl rfl rfl rfl (by constructor) (by ((try simp only [cat,List.cons_append,List.nil_append,List.append_nil]);(repeat (first|exact XC|refine XN ?_|(refine YP ?_ ?_;rfl)));done)) (by repeat first|exact Upd.head|apply Upd.tail|apply Upd.over) F.lay32 (by simp only [ZI.segs,ZN.segs,ZK.segs,ZO.segs,Ys.segs,ZQ.segs,YO.segs,ZU.segs,cat,List.cons_append,List.nil_append,List.append_nil,Segs.len,Seg.len,Yr]) (VN (m:=78) rfl (by simp only [ZI.segs,ZN.segs,ZK.segs,ZO.segs,Ys.segs,ZQ.segs,YO.segs,ZU.segs,cat,List.cons_append,List.nil_append,List.append_nil,Segs.len,Seg.len,Yr]) (by simp only [ZI.segs,ZN.segs,ZK.segs,ZO.segs,Ys.segs,ZQ.segs,YO.segs,ZU.segs,cat,List.cons_append,List.nil_append,List.append_nil,Segs.len,Seg.len,Yr])) (fun _ h=>h.c) ?_
    refine Xu rfl rfl F.elem35 F.zero49 rfl rfl (.cons rfl (by constructor) .nil) rfl rfl (by simp only [List.map_cons,List.map_nil] <;> rfl) rfl ?_;intro b5 hob6
    refine ZD ?_;refine Zw (WE ?_);refine Zp (Y_pk [3,2] ?_);refine Yq ?_
    refine Yg (.inr rfl) (.cell rfl (by repeat first|exact List.Mem.head _|refine List.Mem.tail _ ?_|refine List.mem_append_right _ ?_) F.lay32 rfl rfl (.tmp rfl .nil)) (fun w hw=>?_)
    have h2:(ZK.nd ⟨⟨⟨oa,oi⟩,⟨oq,oj⟩,⟨o1a,o1c,o1l⟩,⟨o2a,o2c,o2l⟩⟩,Zt,Zs,ZC,Zz,ZL,ZB,Zy,-1,Zo,Zv,Zn,Zx,⟨Zr,Zq,Zl⟩,ZE,(tn:Int)⟩)=if (ZK.nd ⟨⟨⟨Za,Zb⟩,⟨Zf,Zh⟩,⟨Zj,Zi,Zg⟩,⟨Ze,Zd,Zc⟩⟩,Zt,Zs,ZC,Zz,ZL,ZB,Zy,Zu,Zo,Zv,Zn,Zx,⟨Zr,Zq,Zl⟩,ZE,(tn:Int)⟩).pingTo≠-1 then { (ZK.nd ⟨⟨⟨Za,Zb⟩,⟨Zf,Zh⟩,⟨Zj,Zi,Zg⟩,⟨Ze,Zd,Zc⟩⟩,Zt,Zs,ZC,Zz,ZL,ZB,Zy,Zu,Zo,Zv,Zn,Zx,⟨Zr,Zq,Zl⟩,ZE,(tn:Int)⟩) with table:=XM (ZK.nd ⟨⟨⟨Za,Zb⟩,⟨Zf,Zh⟩,⟨Zj,Zi,Zg⟩,⟨Ze,Zd,Zc⟩⟩,Zt,Zs,ZC,Zz,ZL,ZB,Zy,Zu,Zo,Zv,Zn,Zx,⟨Zr,Zq,Zl⟩,ZE,(tn:Int)⟩).table (ZK.nd ⟨⟨⟨Za,Zb⟩,⟨Zf,Zh⟩,⟨Zj,Zi,Zg⟩,⟨Ze,Zd,Zc⟩⟩,Zt,Zs,ZC,Zz,ZL,ZB,Zy,Zu,Zo,Zv,Zn,Zx,⟨Zr,Zq,Zl⟩,ZE,(tn:Int)⟩).pingTo,pingTo:=-1 } else (ZK.nd ⟨⟨⟨Za,Zb⟩,⟨Zf,Zh⟩,⟨Zj,Zi,Zg⟩,⟨Ze,Zd,Zc⟩⟩,Zt,Zs,ZC,Zz,ZL,ZB,Zy,Zu,Zo,Zv,Zn,Zx,⟨Zr,Zq,Zl⟩,ZE,(tn:Int)⟩):=by
     rw [if_pos (by show Zu≠-1;omega),show XM (ZK.nd ⟨⟨⟨Za,Zb⟩,⟨Zf,Zh⟩,⟨Zj,Zi,Zg⟩,⟨Ze,Zd,Zc⟩⟩,Zt,Zs,ZC,Zz,ZL,ZB,Zy,Zu,Zo,Zv,Zn,Zx,⟨Zr,Zq,Zl⟩,ZE,(tn:Int)⟩).table (ZK.nd ⟨⟨⟨Za,Zb⟩,⟨Zf,Zh⟩,⟨Zj,Zi,Zg⟩,⟨Ze,Zd,Zc⟩⟩,Zt,Zs,ZC,Zz,ZL,ZB,Zy,Zu,Zo,Zv,Zn,Zx,⟨Zr,Zq,Zl⟩,ZE,(tn:Int)⟩).pingTo=_ from hot.symm];rfl
    have h3:=check_cons h2 hkl.symm hkk hkt rfl
    obtain ⟨M9,j1,j2,j3⟩:=OSl.frz (H:=H) (l:=[(⟨l_l[kk].addr,(⟨6,⟨oa,oi⟩,r9,0,⟨none,0,[]⟩,false,Xi,⟨none,0,[]⟩⟩:ZO)⟩:Ys)]) (f:=Ys.segs) (show OSl 49 68 _ _ ([(⟨l_l[kk].addr,(⟨6,⟨oa,oi⟩,r9,0,⟨none,0,[]⟩,false,Xi,⟨none,0,[]⟩⟩:ZO)⟩:Ys)].map Ys.segs) from hob6) (hw.c)
    refine ⟨_,M9,[],rfl,Mem.le.trans ((hM2.trans hm3).trans hm4) j1,j2,rfl,⟨⟨⟨oa,oi⟩,⟨oq,oj⟩,⟨o1a,o1c,o1l⟩,⟨o2a,o2c,o2l⟩⟩,Zt,Zs,ZC,Zz,r9,ZB,Zy,l_l[kk].addr,r9,Zv,Zn,Zx,⟨Zr,Zq,Zl⟩,ZE,(((tn:Int)+1) % 1000000)⟩,⟨_,1,[(⟨l_l[kk].addr,(⟨6,⟨oa,oi⟩,r9,0,⟨none,0,[]⟩,false,Xi,⟨none,0,[]⟩⟩:ZO)⟩:Ys)]⟩,rfl,?_,?_,⟨(okt.mono hm4).mono j1,((k9.mono hm3).mono hm4).mono j1⟩,j3,fun y hy=>by obtain rfl:=List.mem_singleton.1 hy;exact ⟨⟨SlK.nil,SlK.nil⟩⟩⟩
    ·rw [h3,← hr9];rfl
    ·rw [h3,← hr9];rfl
  ·replace hc3:=nF hc3
   refine YE (Zp (Y_pk [3,2,1] ?_));refine ZJ (Zm (l:=[0,1,2,3]) rfl ?_);refine Zk F.foff32_0 ?_;refine ZH F.lay28 ?_;refine X_fn rfl rfl F.ok101 rfl (rKnown_ok _ ⟨⟨Za,Zb⟩,⟨Zf,Zh⟩,⟨Zj,Zi,Zg⟩,⟨Ze,Zd,Zc⟩⟩ (Yt.mono hM2) hbig) rfl ?_
   rintro _ M4 hm4 ⟨⟨l_a,l_c,l_l⟩,rfl,hkl,okl⟩
   simp only at hkl
   have s_l:=okl.h1
   simp only at s_l
   have n_l:(l_l.map ZI.segs).length=l_l.length:=List.length_map ..
   have m_l:l_l.length≤9223372036854775807:=okl.h2
   refine ZD ?_;refine Zw (Zp (Y_pk [4,3,2,1] ?_))
   iterate 2 refine ZJ ?_
   refine Zm (l:=[0,1,2]) rfl ?_;refine ZA ?_;refine YW F.elem26 ?_;refine YJ ?_;refine Zw (Zp (Y_pk [20,4,3,2,1] ?_))
   refine YC rfl (fun hc7=>?_) (fun hc7=>?_)
   ·replace hc7:=dT hc7
    refine ZJ (Zm (l:=[0,1,2]) rfl ?_);refine ZH F.lay32 ?_;refine Xq F.lay32 ?_;refine ZD ?_;refine Zw (Zp (Y_pk [3,4,2,1] ?_));refine Yq (YS ?_)
    refine Yg (.inr rfl) (.cell rfl (by repeat first|exact List.Mem.head _|refine List.Mem.tail _ ?_|refine List.mem_append_right _ ?_) F.lay32 rfl rfl (.tmp rfl .nil)) (fun w hw=>?_)
    have h2:(ZK.nd ⟨⟨⟨Za,Zb⟩,⟨Zf,Zh⟩,⟨Zj,Zi,Zg⟩,⟨Ze,Zd,Zc⟩⟩,Zt,Zs,ZC,Zz,ZL,ZB,Zy,Zu,Zo,Zv,Zn,Zx,⟨Zr,Zq,Zl⟩,ZE,(tn:Int)⟩)=if (ZK.nd ⟨⟨⟨Za,Zb⟩,⟨Zf,Zh⟩,⟨Zj,Zi,Zg⟩,⟨Ze,Zd,Zc⟩⟩,Zt,Zs,ZC,Zz,ZL,ZB,Zy,Zu,Zo,Zv,Zn,Zx,⟨Zr,Zq,Zl⟩,ZE,(tn:Int)⟩).pingTo≠-1 then { (ZK.nd ⟨⟨⟨Za,Zb⟩,⟨Zf,Zh⟩,⟨Zj,Zi,Zg⟩,⟨Ze,Zd,Zc⟩⟩,Zt,Zs,ZC,Zz,ZL,ZB,Zy,Zu,Zo,Zv,Zn,Zx,⟨Zr,Zq,Zl⟩,ZE,(tn:Int)⟩) with table:=XM (ZK.nd ⟨⟨⟨Za,Zb⟩,⟨Zf,Zh⟩,⟨Zj,Zi,Zg⟩,⟨Ze,Zd,Zc⟩⟩,Zt,Zs,ZC,Zz,ZL,ZB,Zy,Zu,Zo,Zv,Zn,Zx,⟨Zr,Zq,Zl⟩,ZE,(tn:Int)⟩).table (ZK.nd ⟨⟨⟨Za,Zb⟩,⟨Zf,Zh⟩,⟨Zj,Zi,Zg⟩,⟨Ze,Zd,Zc⟩⟩,Zt,Zs,ZC,Zz,ZL,ZB,Zy,Zu,Zo,Zv,Zn,Zx,⟨Zr,Zq,Zl⟩,ZE,(tn:Int)⟩).pingTo,pingTo:=-1 } else (ZK.nd ⟨⟨⟨Za,Zb⟩,⟨Zf,Zh⟩,⟨Zj,Zi,Zg⟩,⟨Ze,Zd,Zc⟩⟩,Zt,Zs,ZC,Zz,ZL,ZB,Zy,Zu,Zo,Zv,Zn,Zx,⟨Zr,Zq,Zl⟩,ZE,(tn:Int)⟩):=by
     rw [if_neg (by show ¬Zu≠-1;omega)]
    have hl0:l_l=[]:=List.length_eq_zero_iff.1 (by omega)
    rw [hl0] at hkl
    have h3:=check_nil h2 hkl.symm
    exact ⟨_,M4,[],rfl,hM2.trans hm4,hw.c,rfl,⟨⟨⟨Za,Zb⟩,⟨Zf,Zh⟩,⟨Zj,Zi,Zg⟩,⟨Ze,Zd,Zc⟩⟩,Zt,Zs,ZC,Zz,ZL,ZB,Zy,Zu,Zo,Zv,Zn,Zx,⟨Zr,Zq,Zl⟩,ZE,(tn:Int)⟩,⟨none,0,[]⟩,rfl,by rw [h3],by rw [h3];rfl,⟨(Yt.mono hM2).mono hm4,k9.mono hm4⟩,SlK.nil,fun y hy=>by cases hy⟩
   ·replace hc7:=dF hc7
    refine YE (Zp (Y_pk [4,3,2,1] ?_));refine ZJ ?_
    obtain ⟨kk,hkt⟩:∃ kk,tn % l_l.length=kk:=⟨_,rfl⟩
    have hkk:kk<l_l.length:=by rw [← hkt];exact Nat.mod_lt _ (by omega)
    refine Zm (l:=[0,1,2,3,4]) rfl ?_;refine Zk F.foff32_5 ?_;refine ZH F.lay29 ?_;refine Xz rfl rfl rfl rfl rfl (by exact Vw _) rfl ?_
    obtain ⟨r9,hr9⟩:∃ v,nxR ZL=v:=⟨_,rfl⟩
    refine WY 24 rfl (show _=Value.int .u64 r9 from by rw [← hr9];exact congrArg (Value.int .u64) (nx_w64 _)) ?_;refine Zk F.foff32_5 ?_;refine ZX F.lay29 ?_;refine Zw (Zp (Y_pk [4,3,2,1] ?_));refine ZJ (Zm (l:=[0,1,2,3,4,5,6,7,8,9,10]) rfl ?_);refine ZA ?_;refine Zk F.foff32_15 ?_;refine ZH F.lay3 ?_;refine ZA ?_;refine YW F.elem26 ?_;refine UF rfl rfl rfl rfl (by omega) (by exact Up (by omega)) rfl ?_;refine WY 31 rfl (show _=Value.int .i64 (kk:Int) from by rw [← hkt];rfl) ?_;refine YM rfl rfl rfl rfl F.elem26 (by rfl) (by omega) (by exact SlM.plain (by assumption) (by (simp;omega))) rfl ?_;refine Xt rfl rfl rfl (by exact SlM.plain (by assumption) (by (simp;omega))) F.foff25_0 rfl ?_;refine Xs rfl rfl rfl (by assumption) (by exact XQ (by omega)) F.lay3 rfl rfl rfl ?_
    refine Zk F.foff32_8 ?_;refine ZX F.lay3 ?_;refine Zw (Zp (Y_pk [3,2,1] ?_));refine ZJ (Zm (l:=[0,1,2,3]) rfl ?_);refine Zk F.foff32_5 ?_;refine ZH F.lay29 ?_;refine Zk F.foff32_9 ?_;refine ZX F.lay29 ?_;refine Zw (Zp (Y_pk [3,2,1] ?_));refine ZJ (Zm (l:=[0,1,2,3,4,5]) rfl ?_);refine Zk F.foff32_15 ?_;refine ZH F.lay3 ?_;refine Xz rfl rfl rfl rfl rfl (by exact Xg (by decide) (by omega)) rfl ?_;refine UF rfl rfl rfl rfl (by decide) (by exact Up (by omega)) rfl ?_;refine Zk F.foff32_15 ?_;refine ZX F.lay3 ?_;refine Zw (Zp (Y_pk [3,2,1] ?_));refine ZJ (C_region_anyPR (Hin:=[(b2,_)]) [0,1,2,3,4,5,6,7,9,8,10] [9] #[0,0,2,0,0,16,56,126,254,121,1023] (by repeat first|exact Rem.here _|exact Rem.two|apply Rem.skip|apply Rem.over) (by kernel_rfl) (by kernel_rfl) ?_)
    refine ZH F.lay32 ?_;refine Zk F.foff32_8 ?_;refine ZH F.lay3 ?_;refine ZH F.lay32 ?_;refine Zk F.foff32_5 ?_;refine ZH F.lay29 ?_;refine X_fs rfl rfl F.ok58 rfl (rlett_ok _ ⟨⟨⟨Za,Zb⟩,⟨Zf,Zh⟩,⟨Zj,Zi,Zg⟩,⟨Ze,Zd,Zc⟩⟩,Zt,Zs,ZC,Zz,r9,ZB,Zy,l_l[kk].addr,r9,Zv,Zn,Zx,⟨Zr,Zq,Zl⟩,ZE,(((tn:Int)+1) % 1000000)⟩ 6 r9) rfl ?_
    rintro _ rfl
    refine Xy rfl rfl F.bld49 (.cons rfl (by constructor) (.cons rfl (by constructor) .nil)) rfl rfl ?_;refine X_storeE rfl rfl rfl rfl rfl (by constructor) (by ((try simp only [cat,List.cons_append,List.nil_append,List.append_nil]);(repeat (first|exact XC|refine XN ?_|(refine YP ?_ ?_;rfl)));done)) (by repeat first|exact Upd.head|apply Upd.tail|apply Upd.over) F.lay32 (by simp only [ZI.segs,ZN.segs,ZK.segs,ZO.segs,Ys.segs,ZQ.segs,YO.segs,ZU.segs,cat,List.cons_append,List.nil_append,List.append_nil,Segs.len,Seg.len,Yr]) (VN (m:=78) rfl (by simp only [ZI.segs,ZN.segs,ZK.segs,ZO.segs,Ys.segs,ZQ.segs,YO.segs,ZU.segs,cat,List.cons_append,List.nil_append,List.append_nil,Segs.len,Seg.len,Yr]) (by simp only [ZI.segs,ZN.segs,ZK.segs,ZO.segs,Ys.segs,ZQ.segs,YO.segs,ZU.segs,cat,List.cons_append,List.nil_append,List.append_nil,Segs.len,Seg.len,Yr])) (fun _ h=>h.c) ?_
    refine Xu rfl rfl F.elem35 F.zero49 rfl rfl (.cons rfl (by constructor) .nil) rfl rfl (by simp only [List.map_cons,List.map_nil] <;> rfl) rfl ?_;intro b8 hob9
    refine ZD ?_;refine Zw (WE ?_);refine Zp (Y_pk [3,2] ?_);refine Yq ?_
    refine Yg (.inr rfl) (.cell rfl (by repeat first|exact List.Mem.head _|refine List.Mem.tail _ ?_|refine List.mem_append_right _ ?_) F.lay32 rfl rfl (.tmp rfl .nil)) (fun w hw=>?_)
    have h2:(ZK.nd ⟨⟨⟨Za,Zb⟩,⟨Zf,Zh⟩,⟨Zj,Zi,Zg⟩,⟨Ze,Zd,Zc⟩⟩,Zt,Zs,ZC,Zz,ZL,ZB,Zy,Zu,Zo,Zv,Zn,Zx,⟨Zr,Zq,Zl⟩,ZE,(tn:Int)⟩)=if (ZK.nd ⟨⟨⟨Za,Zb⟩,⟨Zf,Zh⟩,⟨Zj,Zi,Zg⟩,⟨Ze,Zd,Zc⟩⟩,Zt,Zs,ZC,Zz,ZL,ZB,Zy,Zu,Zo,Zv,Zn,Zx,⟨Zr,Zq,Zl⟩,ZE,(tn:Int)⟩).pingTo≠-1 then { (ZK.nd ⟨⟨⟨Za,Zb⟩,⟨Zf,Zh⟩,⟨Zj,Zi,Zg⟩,⟨Ze,Zd,Zc⟩⟩,Zt,Zs,ZC,Zz,ZL,ZB,Zy,Zu,Zo,Zv,Zn,Zx,⟨Zr,Zq,Zl⟩,ZE,(tn:Int)⟩) with table:=XM (ZK.nd ⟨⟨⟨Za,Zb⟩,⟨Zf,Zh⟩,⟨Zj,Zi,Zg⟩,⟨Ze,Zd,Zc⟩⟩,Zt,Zs,ZC,Zz,ZL,ZB,Zy,Zu,Zo,Zv,Zn,Zx,⟨Zr,Zq,Zl⟩,ZE,(tn:Int)⟩).table (ZK.nd ⟨⟨⟨Za,Zb⟩,⟨Zf,Zh⟩,⟨Zj,Zi,Zg⟩,⟨Ze,Zd,Zc⟩⟩,Zt,Zs,ZC,Zz,ZL,ZB,Zy,Zu,Zo,Zv,Zn,Zx,⟨Zr,Zq,Zl⟩,ZE,(tn:Int)⟩).pingTo,pingTo:=-1 } else (ZK.nd ⟨⟨⟨Za,Zb⟩,⟨Zf,Zh⟩,⟨Zj,Zi,Zg⟩,⟨Ze,Zd,Zc⟩⟩,Zt,Zs,ZC,Zz,ZL,ZB,Zy,Zu,Zo,Zv,Zn,Zx,⟨Zr,Zq,Zl⟩,ZE,(tn:Int)⟩):=by
     rw [if_neg (by show ¬Zu≠-1;omega)]
    have h3:=check_cons h2 hkl.symm hkk hkt rfl
    obtain ⟨M9,j1,j2,j3⟩:=OSl.frz (H:=H) (l:=[(⟨l_l[kk].addr,(⟨6,⟨Za,Zb⟩,r9,0,⟨none,0,[]⟩,false,Xi,⟨none,0,[]⟩⟩:ZO)⟩:Ys)]) (f:=Ys.segs) (show OSl 49 68 _ _ ([(⟨l_l[kk].addr,(⟨6,⟨Za,Zb⟩,r9,0,⟨none,0,[]⟩,false,Xi,⟨none,0,[]⟩⟩:ZO)⟩:Ys)].map Ys.segs) from hob9) (hw.c)
    refine ⟨_,M9,[],rfl,Mem.le.trans (hM2.trans hm4) j1,j2,rfl,⟨⟨⟨Za,Zb⟩,⟨Zf,Zh⟩,⟨Zj,Zi,Zg⟩,⟨Ze,Zd,Zc⟩⟩,Zt,Zs,ZC,Zz,r9,ZB,Zy,l_l[kk].addr,r9,Zv,Zn,Zx,⟨Zr,Zq,Zl⟩,ZE,(((tn:Int)+1) % 1000000)⟩,⟨_,1,[(⟨l_l[kk].addr,(⟨6,⟨Za,Zb⟩,r9,0,⟨none,0,[]⟩,false,Xi,⟨none,0,[]⟩⟩:ZO)⟩:Ys)]⟩,rfl,?_,?_,⟨((Yt.mono hM2).mono hm4).mono j1,(k9.mono hm4).mono j1⟩,j3,fun y hy=>by obtain rfl:=List.mem_singleton.1 hy;exact ⟨⟨SlK.nil,SlK.nil⟩⟩⟩
    ·rw [h3,← hr9];rfl
    ·rw [h3,← hr9];rfl
end Go.Proofs.YtajmnjefajknoaaGreat
namespace Go.Proofs.YtajmnjefajknoaaGreat
open Go.Esp
theorem F.bld32:Bld Tryz.prog 32 [[.one (.int .i64 0),Yr 0,.one (.int .i64 0),Yr 0,.one (.slice none 0 0),.one (.slice none 0 0)],[.one (.int .i64 0)],[.one (.bool false)],[.one (.int .i64 0)],[.one (.int .i64 0)],[.one (.int .u64 0)],[.one (.int .i64 0)],[.one (.int .u64 0)],[.one (.int .i64 0)],[.one (.int .u64 0)],[.one (.int .i64 0)],[.one (.int .u64 0)],[Yr 0],[.one (.slice none 0 0)],[.one (.int .i64 0)],[.one (.int .i64 0)]]:=by rw [Uq];exact ⟨by kernel_rfl,by kernel_rfl⟩
theorem F.ok10:okFn Tryz.prog 10=true:=by kernel_rfl
theorem F.ok28:okFn Tryz.prog 28=true:=by kernel_rfl
theorem F.ok37:okFn Tryz.prog 37=true:=by kernel_rfl
theorem F.ok38:okFn Tryz.prog 38=true:=by kernel_rfl
theorem F.ok39:okFn Tryz.prog 39=true:=by kernel_rfl
theorem rTick_ok (M:Mem) (n:ZK) (kind:Int) (hn0:ZK.ok M n):Esp.Fn Tryz.prog 12 [n.enc,.int .i64 kind] M (fun M' v=>NtE M' v (Ud n.nd kind)):=by
  obtain ⟨⟨⟨Za,Zb⟩,⟨Zf,Zh⟩,⟨Zj,Zi,Zg⟩,⟨Ze,Zd,Zc⟩⟩,Zt,Zs,ZC,Zz,ZL,ZB,Zy,Zu,Zo,Zv,Zn,Zx,⟨Zr,Zq,Zl⟩,ZE,ZF⟩:=n
  have Yt:ZN.ok M ⟨⟨Za,Zb⟩,⟨Zf,Zh⟩,⟨Zj,Zi,Zg⟩,⟨Ze,Zd,Zc⟩⟩:=hn0.h0
  have YU:SlK M ZI.segs 21 ⟨Zj,Zi,Zg⟩:=hn0.h0.h0
  have Wt:SlM M Zj (Zg.map ZI.segs) 21:=YU.h1
  have Wv:(Zg.map ZI.segs).length=Zg.length:=List.length_map ..
  have Ww:Zg.length≤9223372036854775807:=YU.h2
  have Wx:Zg.length≤Zi:=YU.h3
  have YK:SlK M ZI.segs 21 ⟨Ze,Zd,Zc⟩:=hn0.h0.h1
  have Wd:SlM M Ze (Zc.map ZI.segs) 21:=YK.h1
  have Wf:(Zc.map ZI.segs).length=Zc.length:=List.length_map ..
  have Wg:Zc.length≤9223372036854775807:=YK.h2
  have Wh:Zc.length≤Zd:=YK.h3
  have YI:SlK M (oneI .i64) 1 ⟨Zr,Zq,Zl⟩:=hn0.h1
  have WZ:SlM M Zr (Zl.map (oneI .i64)) 1:=YI.h1
  have Vt:(Zl.map (oneI .i64)).length=Zl.length:=List.length_map ..
  have Vj:Zl.length≤9223372036854775807:=YI.h2
  have Vu:Zl.length≤Zq:=YI.h3
  refine WB Tryz.func12 rfl Tryz.ntmps12 rfl ?_;intro H
  refine ZJ (Zm (l:=[0,1,2,3]) rfl ?_)
  refine Xv ?_;intro b1
  refine YQ F.zero32 ?_;intro b2
  iterate 2 refine ZD ?_
  refine Zw (Zp (Y_pk [6,5,4,2,1] ?_))
  iterate 2 refine ZJ ?_
  refine Zm (l:=[0,1,2,3,4,5,6,7,8,9,10]) rfl ?_;refine ZH F.lay32 ?_;refine X_fs rfl rfl F.ok28 rfl (rIsN_ok _ ⟨⟨⟨Za,Zb⟩,⟨Zf,Zh⟩,⟨Zj,Zi,Zg⟩,⟨Ze,Zd,Zc⟩⟩,Zt,Zs,ZC,Zz,ZL,ZB,Zy,Zu,Zo,Zv,Zn,Zx,⟨Zr,Zq,Zl⟩,ZE,ZF⟩ hn0) rfl ?_
  rintro _ rfl
  refine XP ?_;refine ZA ?_
  refine Yw 17 rfl (fun hc3=>?_) (fun hc3=>?_)
  ·replace hc3:=nT hc3
   iterate 2 refine ZY ?_
   refine ZM ?_;refine ZA ?_
   iterate 2 refine ZY ?_
   refine ZM ?_;refine Zw (Zp (Y_pk [24,6,5,4,2,1] ?_));refine Xw rfl ?_;refine ZJ (Zm (l:=[0,1,2,3]) rfl ?_);refine Xy rfl rfl F.bld32 (.nil) rfl rfl ?_;refine Xq F.lay32 ?_
   iterate 2 refine ZD ?_
   refine Zw (Zp (Y_pk [6,5,4,2,1] ?_));refine Yq (YS ?_)
   refine Yg (.inr rfl) (.cell rfl (by repeat first|exact List.Mem.head _|refine List.Mem.tail _ ?_|refine List.mem_append_right _ ?_) F.lay32 rfl rfl (.tmp rfl (.tmp rfl .nil))) (fun w hw=>?_)
   refine ⟨_,M,rfl,Mem.le.refl M,hw.c,ZK.zero,⟨none,0,[]⟩,?_,?_,?_,ZK.zero_ok _,SlK.nil,fun y hy=>by cases hy⟩
   ·rw [VG (by (rintro ⟨q1,q2,q3⟩;first|contradiction|omega))];rfl
   ·rw [VG (by (rintro ⟨q1,q2,q3⟩;first|contradiction|omega))];rfl
   ·rw [VG (by (rintro ⟨q1,q2,q3⟩;first|contradiction|omega))];rfl
  ·replace hc3:=nF hc3
   refine ZA ?_;refine YJ ?_;refine ZM ?_;refine ZA ?_
   refine Yw 21 rfl (fun hc4=>?_) (fun hc4=>?_)
   ·replace hc4:=dT hc4
    iterate 2 refine ZY ?_
    refine ZM ?_;refine Zw (Zp (Y_pk [24,6,5,4,2,1] ?_));refine Xw rfl ?_;refine ZJ (Zm (l:=[0,1,2,3]) rfl ?_);refine Xy rfl rfl F.bld32 (.nil) rfl rfl ?_;refine Xq F.lay32 ?_
    iterate 2 refine ZD ?_
    refine Zw (Zp (Y_pk [6,5,4,2,1] ?_));refine Yq (YS ?_)
    refine Yg (.inr rfl) (.cell rfl (by repeat first|exact List.Mem.head _|refine List.Mem.tail _ ?_|refine List.mem_append_right _ ?_) F.lay32 rfl rfl (.tmp rfl (.tmp rfl .nil))) (fun w hw=>?_)
    refine ⟨_,M,rfl,Mem.le.refl M,hw.c,ZK.zero,⟨none,0,[]⟩,?_,?_,?_,ZK.zero_ok _,SlK.nil,fun y hy=>by cases hy⟩
    ·rw [VG (by (rintro ⟨q1,q2,q3⟩;first|contradiction|omega))];rfl
    ·rw [VG (by (rintro ⟨q1,q2,q3⟩;first|contradiction|omega))];rfl
    ·rw [VG (by (rintro ⟨q1,q2,q3⟩;first|contradiction|omega))];rfl
   ·replace hc4:=dF hc4
    refine ZA ?_;refine YJ ?_;refine ZM ?_;refine Zw (Zp (Y_pk [24,6,5,4,2,1] ?_))
    refine YC rfl (fun hc5=>?_) (fun hc5=>?_)
    ·replace hc5:=dT hc5
     refine ZJ (Zm (l:=[0,1,2,3]) rfl ?_);refine Xy rfl rfl F.bld32 (.nil) rfl rfl ?_;refine Xq F.lay32 ?_
     iterate 2 refine ZD ?_
     refine Zw (Zp (Y_pk [6,5,4,2,1] ?_));refine Yq (YS ?_)
     refine Yg (.inr rfl) (.cell rfl (by repeat first|exact List.Mem.head _|refine List.Mem.tail _ ?_|refine List.mem_append_right _ ?_) F.lay32 rfl rfl (.tmp rfl (.tmp rfl .nil))) (fun w hw=>?_)
     refine ⟨_,M,rfl,Mem.le.refl M,hw.c,ZK.zero,⟨none,0,[]⟩,?_,?_,?_,ZK.zero_ok _,SlK.nil,fun y hy=>by cases hy⟩
     ·rw [VG (by (rintro ⟨q1,q2,q3⟩;first|contradiction|omega))];rfl
     ·rw [VG (by (rintro ⟨q1,q2,q3⟩;first|contradiction|omega))];rfl
     ·rw [VG (by (rintro ⟨q1,q2,q3⟩;first|contradiction|omega))];rfl
    ·replace hc5:=dF hc5
     refine YE (Zp (Y_pk [6,5,4,2,1] ?_));refine ZJ ?_
     have hnd9:IsNd (ZK.nd ⟨⟨⟨Za,Zb⟩,⟨Zf,Zh⟩,⟨Zj,Zi,Zg⟩,⟨Ze,Zd,Zc⟩⟩,Zt,Zs,ZC,Zz,ZL,ZB,Zy,Zu,Zo,Zv,Zn,Zx,⟨Zr,Zq,Zl⟩,ZE,ZF⟩):=by assumption
     have htb9:IsTb (ZN.tb ⟨⟨Za,Zb⟩,⟨Zf,Zh⟩,⟨Zj,Zi,Zg⟩,⟨Ze,Zd,Zc⟩⟩):=hnd9.1
     have hcu9:0≤Zz∧Zz≤159:=hnd9.2.2.2.1
     have htu9:0≤ZF∧ZF≤999999:=hnd9.2.2.2.2.2.2.1
     have hav9:Zl.length≤16:=hnd9.2.2.2.2.1
     refine Zm (l:=[0,1,2,3]) rfl ?_;refine ZH F.lay32 ?_;refine VV rfl rfl F.ok10 rfl (rNOwn_ok M ⟨⟨⟨Za,Zb⟩,⟨Zf,Zh⟩,⟨Zj,Zi,Zg⟩,⟨Ze,Zd,Zc⟩⟩,Zt,Zs,ZC,Zz,ZL,ZB,Zy,Zu,Zo,Zv,Zn,Zx,⟨Zr,Zq,Zl⟩,ZE,ZF⟩ hn0 (isTb_small (t:=⟨⟨Za,Zb⟩,⟨Zf,Zh⟩,⟨Zj,Zi,Zg⟩,⟨Ze,Zd,Zc⟩⟩) (by assumption)) (by have h9:=(show IsNd (ZK.nd ⟨⟨⟨Za,Zb⟩,⟨Zf,Zh⟩,⟨Zj,Zi,Zg⟩,⟨Ze,Zd,Zc⟩⟩,Zt,Zs,ZC,Zz,ZL,ZB,Zy,Zu,Zo,Zv,Zn,Zx,⟨Zr,Zq,Zl⟩,ZE,ZF⟩) by assumption).2.2.2.2.1;have h8:Zl.length≤16:=h9;simp only;omega)) (by repeat first|exact Rem.here _|exact Rem.two|apply Rem.skip|apply Rem.over) (fun _ _ _ hm hw=>(hw.lower (by exact hm)).c) (YN rfl) ?_
     rintro _ M1 hs5 hm1 ⟨⟨⟨oa,oi⟩,⟨oq,oj⟩,⟨o1a,o1c,o1l⟩,⟨o2a,o2c,o2l⟩⟩,⟨s_a,s_c,s_l⟩,rfl,hot,okt,ho9,hl9⟩
     simp only [Sl.val] at ho9
     refine YQ F.zero32 ?_;intro b6
     refine Xq F.lay32 ?_;refine Zw (Zp (Y_pk [7,6,5,4,1] ?_))
     iterate 2 refine ZJ ?_
     have hla9:s_l.length≤900:=by have h8:s_l.length=Zl.length:=congrArg List.length hl9;omega
     refine Zm (l:=[0,1]) rfl ?_;refine ZA ?_;refine YJ ?_;refine Zw (Zp (Y_pk [29,7,6,5,4,1] ?_))
     refine YC rfl (fun hc7=>?_) (fun hc7=>?_)
     ·replace hc7:=dT hc7
      refine ZJ (C_regionR (l:=[0,1,2,3,4,5,6,7]) (Hin:=hs5) (by repeat first|exact Rem.here _|exact Rem.two|apply Rem.skip|apply Rem.over) rfl ?_);refine ZH F.lay32 ?_;refine VV rfl rfl F.ok37 rfl (rstab_ok M1 _ _ _ _ _ _ _ _ _ _ _ _ _ _ _ _ _ _ _ _ _ _ _ _ _ _ _ okt (own_big hot (isTb_small (t:=⟨⟨Za,Zb⟩,⟨Zf,Zh⟩,⟨Zj,Zi,Zg⟩,⟨Ze,Zd,Zc⟩⟩) (by assumption))) _ ho9 (by assumption)) (by repeat first|exact Rem.here _|exact Rem.two|apply Rem.skip|apply Rem.over) (fun _ _ _ hm hw=>(hw.lower (by exact hm)).c) (YN rfl) ?_
      rintro _ M2 hs6 hm2 ⟨rfl,⟨⟨⟨Yc,Yp⟩,⟨Yh,Yu⟩,⟨YA,Yz,Ye⟩,⟨Yk,Yj,Yi⟩⟩,Xn,Xo,XI,Xm,XX,Xx,Xp,Xj,YY,Xk,YZ,Xl,⟨Xc,Xb,Xa⟩,XH,XG⟩,⟨o_a,o_c,o_l⟩,rfl,hv1,hv2,okv,oko,okq⟩
      refine ZA ?_
      iterate 2 refine XF ?_
      refine YQ F.zero32 ?_;intro b8
      refine Xq F.lay32 ?_;refine ZD ?_;refine Zw (Zp (Y_pk [9,8,7,6,5,4,1] ?_));refine ZJ (Zm (l:=[0,1,2,3,4]) rfl ?_);refine ZH F.lay32 ?_;refine ZA ?_;refine Xq F.lay32 ?_
      iterate 2 refine ZD ?_
      refine Zw (Zp (Y_pk [6,5,7,4,1] ?_));refine Yq (YS ?_)
      refine Yg (.inr rfl) (.cell rfl (by repeat first|exact List.Mem.head _|refine List.Mem.tail _ ?_|refine List.mem_append_right _ ?_) F.lay32 rfl rfl (.tmp rfl (.tmp rfl .nil))) (fun w hw=>?_)
      have h3:=tick_yes (n:=ZK.nd ⟨⟨⟨Za,Zb⟩,⟨Zf,Zh⟩,⟨Zj,Zi,Zg⟩,⟨Ze,Zd,Zc⟩⟩,Zt,Zs,ZC,Zz,ZL,ZB,Zy,Zu,Zo,Zv,Zn,Zx,⟨Zr,Zq,Zl⟩,ZE,ZF⟩) (k:=kind) (r:=UC (ZK.nd ⟨⟨⟨oa,oi⟩,⟨oq,oj⟩,⟨o1a,o1c,o1l⟩,⟨o2a,o2c,o2l⟩⟩,Zt,Zs,ZC,Zz,ZL,ZB,Zy,Zu,Zo,Zv,Zn,Zx,⟨s_a,s_c,s_l⟩,ZE,ZF⟩)) hnd9 ⟨by omega,by omega⟩ (by rw [if_pos (show kind=1 by omega),show ZK.nd ⟨⟨⟨oa,oi⟩,⟨oq,oj⟩,⟨o1a,o1c,o1l⟩,⟨o2a,o2c,o2l⟩⟩,Zt,Zs,ZC,Zz,ZL,ZB,Zy,Zu,Zo,Zv,Zn,Zx,⟨s_a,s_c,s_l⟩,ZE,ZF⟩=ZK.nd ⟨⟨⟨Za,Zb⟩,⟨Zf,Zh⟩,⟨Zj,Zi,Zg⟩,⟨Ze,Zd,Zc⟩⟩,Zt,Zs,ZC,Zz,ZL,ZB,Zy,Zu,Zo,Zv,Zn,Zx,⟨Zr,Zq,Zl⟩,ZE,ZF⟩ from own_nd (n:=⟨⟨⟨Za,Zb⟩,⟨Zf,Zh⟩,⟨Zj,Zi,Zg⟩,⟨Ze,Zd,Zc⟩⟩,Zt,Zs,ZC,Zz,ZL,ZB,Zy,Zu,Zo,Zv,Zn,Zx,⟨Zr,Zq,Zl⟩,ZE,ZF⟩) (t9:=⟨⟨oa,oi⟩,⟨oq,oj⟩,⟨o1a,o1c,o1l⟩,⟨o2a,o2c,o2l⟩⟩) (s9:=⟨s_a,s_c,s_l⟩) hot hl9])
      refine ⟨_,M2,rfl,hm1.trans hm2,hw.c,⟨⟨⟨Yc,Yp⟩,⟨Yh,Yu⟩,⟨YA,Yz,Ye⟩,⟨Yk,Yj,Yi⟩⟩,Xn,Xo,XI,Xm,XX,Xx,Xp,Xj,YY,Xk,YZ,Xl,⟨Xc,Xb,Xa⟩,XH,XG⟩,⟨o_a,o_c,o_l⟩,?_,?_,?_,okv,oko,okq⟩
      ·rw [h3];rfl
      ·rw [h3];exact hv1
      ·rw [h3];exact hv2
     ·replace hc7:=dF hc7
      refine YE (Zp (Y_pk [7,6,5,4,1] ?_))
      iterate 2 refine ZJ ?_
      refine Zm (l:=[0,1]) rfl ?_;refine ZA ?_;refine YJ ?_;refine Zw (Zp (Y_pk [38,7,6,5,4] ?_))
      refine YC rfl (fun hc9=>?_) (fun hc9=>?_)
      ·replace hc9:=dT hc9
       refine ZJ (C_regionR (l:=[0,1,2,3,4,5,6,7]) (Hin:=hs5) (by repeat first|exact Rem.here _|exact Rem.two|apply Rem.skip|apply Rem.over) rfl ?_);refine ZH F.lay32 ?_;refine VV rfl rfl F.ok38 rfl (rfix_ok M1 _ _ _ _ _ _ _ _ _ _ _ _ _ _ _ _ _ _ _ _ _ _ _ _ _ _ _ okt (own_big hot (isTb_small (t:=⟨⟨Za,Zb⟩,⟨Zf,Zh⟩,⟨Zj,Zi,Zg⟩,⟨Ze,Zd,Zc⟩⟩) (by assumption))) hcu9 _ ho9 (by assumption)) (by repeat first|exact Rem.here _|exact Rem.two|apply Rem.skip|apply Rem.over) (fun _ _ _ hm hw=>(hw.lower (by exact hm)).c) (YN rfl) ?_
       rintro _ M2 hs6 hm2 ⟨rfl,⟨⟨⟨Yc,Yp⟩,⟨Yh,Yu⟩,⟨YA,Yz,Ye⟩,⟨Yk,Yj,Yi⟩⟩,Xn,Xo,XI,Xm,XX,Xx,Xp,Xj,YY,Xk,YZ,Xl,⟨Xc,Xb,Xa⟩,XH,XG⟩,⟨o_a,o_c,o_l⟩,rfl,hv1,hv2,okv,oko,okq⟩
       refine ZA ?_
       iterate 2 refine XF ?_
       refine YQ F.zero32 ?_;intro b10
       refine Xq F.lay32 ?_;refine ZD ?_;refine Zw (Zp (Y_pk [11,10,7,6,5,4] ?_));refine ZJ (Zm (l:=[0,1,2,3,4]) rfl ?_);refine ZH F.lay32 ?_;refine ZA ?_;refine Xq F.lay32 ?_
       iterate 2 refine ZD ?_
       refine Zw (Zp (Y_pk [6,5,7,4] ?_));refine Yq (YS ?_)
       refine Yg (.inr rfl) (.cell rfl (by repeat first|exact List.Mem.head _|refine List.Mem.tail _ ?_|refine List.mem_append_right _ ?_) F.lay32 rfl rfl (.tmp rfl (.tmp rfl .nil))) (fun w hw=>?_)
       have h3:=tick_yes (n:=ZK.nd ⟨⟨⟨Za,Zb⟩,⟨Zf,Zh⟩,⟨Zj,Zi,Zg⟩,⟨Ze,Zd,Zc⟩⟩,Zt,Zs,ZC,Zz,ZL,ZB,Zy,Zu,Zo,Zv,Zn,Zx,⟨Zr,Zq,Zl⟩,ZE,ZF⟩) (k:=kind) (r:=fixN (ZK.nd ⟨⟨⟨oa,oi⟩,⟨oq,oj⟩,⟨o1a,o1c,o1l⟩,⟨o2a,o2c,o2l⟩⟩,Zt,Zs,ZC,Zz,ZL,ZB,Zy,Zu,Zo,Zv,Zn,Zx,⟨s_a,s_c,s_l⟩,ZE,ZF⟩)) hnd9 ⟨by omega,by omega⟩ (by rw [if_neg (show ¬kind=1 by omega),if_pos (show kind=2 by omega),show ZK.nd ⟨⟨⟨oa,oi⟩,⟨oq,oj⟩,⟨o1a,o1c,o1l⟩,⟨o2a,o2c,o2l⟩⟩,Zt,Zs,ZC,Zz,ZL,ZB,Zy,Zu,Zo,Zv,Zn,Zx,⟨s_a,s_c,s_l⟩,ZE,ZF⟩=ZK.nd ⟨⟨⟨Za,Zb⟩,⟨Zf,Zh⟩,⟨Zj,Zi,Zg⟩,⟨Ze,Zd,Zc⟩⟩,Zt,Zs,ZC,Zz,ZL,ZB,Zy,Zu,Zo,Zv,Zn,Zx,⟨Zr,Zq,Zl⟩,ZE,ZF⟩ from own_nd (n:=⟨⟨⟨Za,Zb⟩,⟨Zf,Zh⟩,⟨Zj,Zi,Zg⟩,⟨Ze,Zd,Zc⟩⟩,Zt,Zs,ZC,Zz,ZL,ZB,Zy,Zu,Zo,Zv,Zn,Zx,⟨Zr,Zq,Zl⟩,ZE,ZF⟩) (t9:=⟨⟨oa,oi⟩,⟨oq,oj⟩,⟨o1a,o1c,o1l⟩,⟨o2a,o2c,o2l⟩⟩) (s9:=⟨s_a,s_c,s_l⟩) hot hl9])
       refine ⟨_,M2,rfl,hm1.trans hm2,hw.c,⟨⟨⟨Yc,Yp⟩,⟨Yh,Yu⟩,⟨YA,Yz,Ye⟩,⟨Yk,Yj,Yi⟩⟩,Xn,Xo,XI,Xm,XX,Xx,Xp,Xj,YY,Xk,YZ,Xl,⟨Xc,Xb,Xa⟩,XH,XG⟩,⟨o_a,o_c,o_l⟩,?_,?_,?_,okv,oko,okq⟩
       ·rw [h3];rfl
       ·rw [h3];exact hv1
       ·rw [h3];exact hv2
      ·replace hc9:=dF hc9
       refine YE (Zp (Y_pk [7,6,5,4] ?_));refine ZJ (C_regionR (l:=[0,1,2,3,4,5,6,7]) (Hin:=hs5) (by repeat first|exact Rem.here _|exact Rem.two|apply Rem.skip|apply Rem.over) rfl ?_);refine ZH F.lay32 ?_;refine VV rfl rfl F.ok39 rfl (rcheck_ok M1 _ _ _ _ _ _ _ _ _ _ _ _ _ _ _ _ _ _ _ _ _ _ _ _ _ _ _ okt (own_big hot (isTb_small (t:=⟨⟨Za,Zb⟩,⟨Zf,Zh⟩,⟨Zj,Zi,Zg⟩,⟨Ze,Zd,Zc⟩⟩) (by assumption))) htu9 _ ho9 (by assumption)) (by repeat first|exact Rem.here _|exact Rem.two|apply Rem.skip|apply Rem.over) (fun _ _ _ hm hw=>(hw.lower (by exact hm)).c) (YN rfl) ?_
       rintro _ M2 hs6 hm2 ⟨rfl,⟨⟨⟨Yc,Yp⟩,⟨Yh,Yu⟩,⟨YA,Yz,Ye⟩,⟨Yk,Yj,Yi⟩⟩,Xn,Xo,XI,Xm,XX,Xx,Xp,Xj,YY,Xk,YZ,Xl,⟨Xc,Xb,Xa⟩,XH,XG⟩,⟨o_a,o_c,o_l⟩,rfl,hv1,hv2,okv,oko,okq⟩
       refine ZA ?_
       iterate 2 refine XF ?_
       refine YQ F.zero32 ?_;intro b11
       refine Xq F.lay32 ?_;refine ZD ?_;refine Zw (Zp (Y_pk [13,12,6,5,4] ?_));refine ZJ (Zm (l:=[0,1,2,3,4]) rfl ?_);refine ZH F.lay32 ?_;refine ZA ?_;refine Xq F.lay32 ?_
       iterate 2 refine ZD ?_
       refine Zw (Zp (Y_pk [6,5,4] ?_));refine Yq ?_
       refine Yg (.inr rfl) (.cell rfl (by repeat first|exact List.Mem.head _|refine List.Mem.tail _ ?_|refine List.mem_append_right _ ?_) F.lay32 rfl rfl (.tmp rfl (.tmp rfl .nil))) (fun w hw=>?_)
       have h3:=tick_yes (n:=ZK.nd ⟨⟨⟨Za,Zb⟩,⟨Zf,Zh⟩,⟨Zj,Zi,Zg⟩,⟨Ze,Zd,Zc⟩⟩,Zt,Zs,ZC,Zz,ZL,ZB,Zy,Zu,Zo,Zv,Zn,Zx,⟨Zr,Zq,Zl⟩,ZE,ZF⟩) (k:=kind) (r:=Ux (ZK.nd ⟨⟨⟨oa,oi⟩,⟨oq,oj⟩,⟨o1a,o1c,o1l⟩,⟨o2a,o2c,o2l⟩⟩,Zt,Zs,ZC,Zz,ZL,ZB,Zy,Zu,Zo,Zv,Zn,Zx,⟨s_a,s_c,s_l⟩,ZE,ZF⟩)) hnd9 ⟨by omega,by omega⟩ (by rw [if_neg (show ¬kind=1 by omega),if_neg (show ¬kind=2 by omega),show ZK.nd ⟨⟨⟨oa,oi⟩,⟨oq,oj⟩,⟨o1a,o1c,o1l⟩,⟨o2a,o2c,o2l⟩⟩,Zt,Zs,ZC,Zz,ZL,ZB,Zy,Zu,Zo,Zv,Zn,Zx,⟨s_a,s_c,s_l⟩,ZE,ZF⟩=ZK.nd ⟨⟨⟨Za,Zb⟩,⟨Zf,Zh⟩,⟨Zj,Zi,Zg⟩,⟨Ze,Zd,Zc⟩⟩,Zt,Zs,ZC,Zz,ZL,ZB,Zy,Zu,Zo,Zv,Zn,Zx,⟨Zr,Zq,Zl⟩,ZE,ZF⟩ from own_nd (n:=⟨⟨⟨Za,Zb⟩,⟨Zf,Zh⟩,⟨Zj,Zi,Zg⟩,⟨Ze,Zd,Zc⟩⟩,Zt,Zs,ZC,Zz,ZL,ZB,Zy,Zu,Zo,Zv,Zn,Zx,⟨Zr,Zq,Zl⟩,ZE,ZF⟩) (t9:=⟨⟨oa,oi⟩,⟨oq,oj⟩,⟨o1a,o1c,o1l⟩,⟨o2a,o2c,o2l⟩⟩) (s9:=⟨s_a,s_c,s_l⟩) hot hl9])
       refine ⟨_,M2,rfl,hm1.trans hm2,hw.c,⟨⟨⟨Yc,Yp⟩,⟨Yh,Yu⟩,⟨YA,Yz,Ye⟩,⟨Yk,Yj,Yi⟩⟩,Xn,Xo,XI,Xm,XX,Xx,Xp,Xj,YY,Xk,YZ,Xl,⟨Xc,Xb,Xa⟩,XH,XG⟩,⟨o_a,o_c,o_l⟩,?_,?_,?_,okv,oko,okq⟩
       ·rw [h3];rfl
       ·rw [h3];exact hv1
       ·rw [h3];exact hv2
end Go.Proofs.YtajmnjefajknoaaGreat
namespace Go.Proofs.YtajmnjefajknoaaGreat
open Go.Esp
end Go.Proofs.YtajmnjefajknoaaGreat
namespace Go.Esp
theorem found_no {n:Nd} {l:Lt} (h:n.findTo≠l.frm.addr∨n.findReq≠l.req):foundN n l=(n,[]):=if_pos h
theorem found_in {n:Nd} {l:Lt} (h1:n.findTo=l.frm.addr) (h2:n.findReq=l.req):foundN n l =
    if l.done then (if n.joined=true∧(XU n.table.self l.peer∨l.peer=n.table.self) then (VX { n with findTo:=-1 } l.peer,[]) else if n.joined=false∧XU n.table.self l.peer then ({ WA { n with findTo:=-1 } l.peer [] with joined:=true,cursor:=0,avoid:=[] },[]) else ({ n with findTo:=-1 },[]))
    else if ¬XU n.table.self l.peer∨l.peer.addr∈n.avoid∨l.peer.addr=l.frm.addr∨32≤n.hops then ({ n with findTo:=-1 },[])
    else UB { n with hops:=n.hops+1 } l.peer.addr:=by
  unfold foundN
  rw [if_neg (by rintro (h|h);exact h h1;exact h h2)]
theorem found_drop {n:Nd} {l:Lt} (h1:n.findTo=l.frm.addr) (h2:n.findReq=l.req) (h3:l.done=false) (h4:¬XU n.table.self l.peer∨l.peer.addr∈n.avoid∨l.peer.addr=l.frm.addr∨32≤n.hops):foundN n l=({ n with findTo:=-1 },[]):=by
  rw [found_in h1 h2,if_neg (by rw [h3];decide),if_pos h4]
theorem found_seek {n:Nd} {l:Lt} (h1:n.findTo=l.frm.addr) (h2:n.findReq=l.req) (h3:l.done=false) (h4:XU n.table.self l.peer) (h5:l.peer.addr∉n.avoid) (h6:l.peer.addr≠l.frm.addr) (h7:¬32≤n.hops):foundN n l=UB { n with hops:=n.hops+1 } l.peer.addr:=by
  rw [found_in h1 h2,if_neg (by rw [h3];decide),if_neg (by rintro (q|q|q|q);exact q h4;exact h5 q;exact h6 q;exact h7 q)]
theorem told_no {n:Nd} {l:Lt} (h:n.askTo≠l.frm.addr∨n.askReq≠l.req):toldN n l=(n,[]):=if_pos h
theorem told_yes {n m q:Nd} {l:Lt} (h1:n.askTo=l.frm.addr) (h2:n.askReq=l.req) (hm:m=WA { n with askTo:=-1 } l.frm l.peers) (h3:CloserT m.table l.peer) (hq:q=WA m l.peer (l.frm::l.peers)):toldN n l=(q,[⟨(Wi q.table).addr,lett q 5 0⟩]):=by
  subst hm hq
  unfold toldN
  rw [if_neg (by rintro (h|h);exact h h1;exact h h2)]
  simp only [if_pos h3]
theorem told_not {n m:Nd} {l:Lt} (h1:n.askTo=l.frm.addr) (h2:n.askReq=l.req) (hm:m=WA { n with askTo:=-1 } l.frm l.peers) (h3:¬CloserT m.table l.peer):toldN n l=(m,[⟨(Wi m.table).addr,lett m 5 0⟩]):=by
  subst hm
  unfold toldN
  rw [if_neg (by rintro (h|h);exact h h1;exact h h2)]
  simp only [if_neg h3]
theorem adopt_not {n:Nd} {p:ZI} {l:List ZI} (h:¬XU n.table.self p):WA n p l=n:=by
  have h2:Vd n.table p l n.copies=(Tb.zero,1):=if_neg (by rintro ⟨_,q,_⟩;exact h q)
  unfold WA
  rw [h2]
  exact if_neg (by decide)
def byeT (n:Nd) (l:Lt):Tb:=if n.table.pred.addr=l.frm.addr then Ui (XM n.table l.frm.addr) l.peer else XM n.table l.frm.addr
theorem bye_yes {n m:Nd} {l:Lt} (hm:m={ n with table:=byeT n l }) (h1:(Wi n.table).addr=l.frm.addr) (h2:0<l.peers.length):byeN n l=WA m l.peers[0] (l.peers.drop 1):=by
  subst hm
  unfold byeN byeT
  match hl:l.peers,h2 with
  | p::ps,_=>simp only [if_pos h1,List.getElem_cons_zero,List.drop_succ_cons,List.drop_zero]
theorem bye_no {n m:Nd} {l:Lt} (hm:m={ n with table:=byeT n l }) (h:(Wi n.table).addr=l.frm.addr→∀ h:0<l.peers.length,¬XU m.table.self l.peers[0]):byeN n l=m:=by
  by_cases h1:(Wi n.table).addr=l.frm.addr
  · by_cases h2:0<l.peers.length
    · rw [bye_yes hm h1 h2]
      exact adopt_not (h h1 h2)
    · have h3:l.peers=[]:=List.eq_nil_of_length_eq_zero (by omega)
      subst hm
      unfold byeN byeT
      rw [h3]
  · subst hm
    unfold byeN byeT
    match hl:l.peers with
    | []=>rfl
    | p::ps=>simp only [if_neg h1]
theorem VH {n:Nd} {l:Lt} (h:¬(IsNd n∧IsLt l)):Uw n l=(Nd.zero,[],1):=if_neg h
theorem take_not {n:Nd} {l:Lt} (h1:IsNd n) (h2:IsLt l) (h:¬XU n.table.self l.frm):Uw n l=(n,[],0):=by
  unfold Uw
  rw [if_pos ⟨h1,h2⟩,if_pos h]
def Wn (n:Nd) (l:Lt):Nd×List Snd :=
  if l.kind=1 then (n,findN n l)
  else if l.kind=2 then foundN n l
  else if l.kind=3 then (n,if n.joined then [⟨l.frm.addr,{ lett n 4 l.req with peer:=n.table.pred,peers:=n.table.succ }⟩] else [])
  else if l.kind=4 then toldN n l
  else if l.kind=5 then ({ n with table:=Ui n.table l.frm },[])
  else if l.kind=6 then (n,[⟨l.frm.addr,lett n 7 l.req⟩])
  else if l.kind=7 then (if n.pingTo=l.frm.addr∧n.pingReq=l.req then { n with pingTo:=-1 } else n,[])
  else (byeN n l,[])
theorem take_does {n:Nd} {l:Lt} (h1:IsNd n) (h2:IsLt l) (h:XU n.table.self l.frm):Uw n l=((Wn n l).1,(Wn n l).2,0):=by
  unfold Uw Wn
  rw [if_pos ⟨h1,h2⟩,if_neg (fun q=>q h)]
  split
  · rfl
  split
  · rfl
  split
  · rfl
  split
  · rfl
  split
  · rfl
  split
  · rfl
  split <;> rfl
def LvE (M:Mem) (v:Value) (X:List Snd×Int):Prop:=∃ o9:Sl Ys,v=.tuple #[o9.val,.int .i64 X.2]∧sndl o9.l=X.1∧SlK M Ys.segs 68 o9∧∀ y∈o9.l,Ys.ok M y
def NeE (M:Mem) (v:Value) (X:Nd×Int):Prop:=∃ n9:ZK,v=.tuple #[n9.enc,.int .i64 X.2]∧n9.nd=X.1∧ZK.ok M n9
theorem alone_no {s:ZI} {r:Int} (h:¬(Xf s.addr∧1≤r∧r≤8)):Uy s r=(Nd.zero,1):=if_neg h
theorem alone_is {s:ZI} {r:Int} (h:Xf s.addr∧1≤r∧r≤8):Uy s r=(⟨(newT s).1,r,true,-1,0,0,-1,0,-1,0,-1,0,0,[],0,0⟩,0):=if_pos h
theorem new_ok {s:ZI}:(newT s).2=0↔Xf s.addr:=by
  unfold newT
  split <;> simp_all
theorem joining_no {s:ZI} {r b:Int} (h:¬((Uy s r).2=0∧Xf b∧b≠s.addr)):joiningN s r b=(Nd.zero,1):=if_neg h
theorem joining_is {s:ZI} {r b:Int} (h:(Uy s r).2=0∧Xf b∧b≠s.addr):joiningN s r b=({ (Uy s r).1 with joined:=false,boot:=b },0):=if_pos h
theorem does1 {n:Nd} {l:Lt} (h:l.kind=1):Wn n l=(n,findN n l):=if_pos h
theorem does2 {n:Nd} {l:Lt} (h:l.kind=2):Wn n l=foundN n l:=by
  unfold Wn
  rw [if_neg (by rw [h];decide),if_pos h]
theorem does3 {n:Nd} {l:Lt} (h:l.kind=3):Wn n l=(n,if n.joined then [⟨l.frm.addr,{ lett n 4 l.req with peer:=n.table.pred,peers:=n.table.succ }⟩] else []):=by
  unfold Wn
  rw [if_neg (by rw [h];decide),if_neg (by rw [h];decide),if_pos h]
theorem does3n {n:Nd} {l:Lt} (h:l.kind=3) (hj:n.joined=false):Wn n l=(n,[]):=by
  rw [does3 h,hj]
  rfl
theorem does3y {n:Nd} {l:Lt} (h:l.kind=3) (hj:n.joined=true):Wn n l=(n,[⟨l.frm.addr,{ lett n 4 l.req with peer:=n.table.pred,peers:=n.table.succ }⟩]):=by
  rw [does3 h,hj]
  rfl
theorem does4 {n:Nd} {l:Lt} (h:l.kind=4):Wn n l=toldN n l:=by
  unfold Wn
  rw [if_neg (by rw [h];decide),if_neg (by rw [h];decide),if_neg (by rw [h];decide),if_pos h]
theorem does5 {n:Nd} {l:Lt} {T:Tb} (h:l.kind=5) (hT:T=Ui n.table l.frm):Wn n l=({ n with table:=T },[]):=by
  subst hT
  unfold Wn
  rw [if_neg (by rw [h];decide),if_neg (by rw [h];decide),if_neg (by rw [h];decide),if_neg (by rw [h];decide),if_pos h]
theorem does6 {n:Nd} {l:Lt} (h:l.kind=6):Wn n l=(n,[⟨l.frm.addr,lett n 7 l.req⟩]):=by
  unfold Wn
  rw [if_neg (by rw [h];decide),if_neg (by rw [h];decide),if_neg (by rw [h];decide),if_neg (by rw [h];decide),if_neg (by rw [h];decide),if_pos h]
theorem does7 {n:Nd} {l:Lt} (h:l.kind=7):Wn n l=(if n.pingTo=l.frm.addr∧n.pingReq=l.req then { n with pingTo:=-1 } else n,[]):=by
  unfold Wn
  rw [if_neg (by rw [h];decide),if_neg (by rw [h];decide),if_neg (by rw [h];decide),if_neg (by rw [h];decide),if_neg (by rw [h];decide),if_neg (by rw [h];decide),if_pos h]
theorem does7y {n:Nd} {l:Lt} (h:l.kind=7) (h1:n.pingTo=l.frm.addr∧n.pingReq=l.req):Wn n l=({ n with pingTo:=-1 },[]):=by
  rw [does7 h,if_pos h1]
theorem does7n {n:Nd} {l:Lt} (h:l.kind=7) (h1:¬(n.pingTo=l.frm.addr∧n.pingReq=l.req)):Wn n l=(n,[]):=by
  rw [does7 h,if_neg h1]
theorem does8 {n:Nd} {l:Lt} (h:l.kind=8):Wn n l=(byeN n l,[]):=by
  unfold Wn
  rw [if_neg (by rw [h];decide),if_neg (by rw [h];decide),if_neg (by rw [h];decide),if_neg (by rw [h];decide),if_neg (by rw [h];decide),if_neg (by rw [h];decide),if_neg (by rw [h];decide)]
end Go.Esp
namespace Go.Proofs.YtajmnjefajknoaaGreat
open Go.Esp
end Go.Proofs.YtajmnjefajknoaaGreat
namespace Go.Proofs.YtajmnjefajknoaaGreat
open Go.Esp
theorem F.fld25_0:fld Tryz.prog 25 0=some (0,3):=by kernel_rfl
end Go.Proofs.YtajmnjefajknoaaGreat
namespace Go.Proofs.YtajmnjefajknoaaGreat
open Go.Esp
end Go.Proofs.YtajmnjefajknoaaGreat
namespace Go.Proofs.YtajmnjefajknoaaGreat
open Go.Esp
end Go.Proofs.YtajmnjefajknoaaGreat
namespace Go.Proofs.YtajmnjefajknoaaGreat
open Go.Esp
end Go.Proofs.YtajmnjefajknoaaGreat
namespace Go.Esp
abbrev IntV:=Int
theorem IntV.flat (x:Int):Esp.flat (oneI .i64 x):=YP rfl XC
def WkF (bw tw:Nat) (M:Mem) (Hout:Hp) (X:Nd×List Snd):Prop :=
  ∃ (n9:ZK) (o9:Sl Ys),Hout=[(bw,rowO (ZQ.segs ⟨n9,o9⟩) tw)]∧n9.nd=X.1∧sndl o9.l=X.2∧ZK.ok M n9∧SlK M Ys.segs 68 o9∧∀ y∈o9.l,Ys.ok M y
theorem fh_frz {P:Program} {f:FuncId} {vs:List Value} {M:Mem} {Hin:Hp} {R R':Mem→Value→Hp→Prop} (h:Fh P f vs M Hin R) (hr:∀ M' v Hout H w,R M' v Hout→St M' (Hout++H) w→∃ M'' Hout',M'.le M''∧St M'' (Hout'++H) w∧R' M'' v Hout'):Fh P f vs M Hin R':=fun H w hw =>
  (h H w hw).mono fun _ w' ⟨v,M',Ho,he,hm,hs,h9⟩=>let ⟨M2,Ho2,h1,h2,h3⟩:=hr M' v Ho H w' h9 hs;⟨v,M2,Ho2,he,hm.trans h1,h2,h3⟩
def Uh (t:Tb) (a:Int):Tb×Int:=if a≠-1 then (XM t a,-1) else (t,a)
theorem lost_big {t9 t:Tb} {a:Int} (h:t9=(Uh t a).1) (hb:t.succ.length≤40∧t.fingers.length≤200):t9.succ.length≤40∧t9.fingers.length≤200:=by
  unfold Uh at h
  split at h
  · exact forget_big h hb
  · subst h;exact hb
theorem lost_ask {n:Nd} {t:Tb} {a:Int} (h:(t,a)=Uh n.table n.askTo):{ n with table:=t,askTo:=a }=if n.askTo≠-1 then { n with table:=XM n.table n.askTo,askTo:=-1 } else n:=by
  unfold Uh at h
  by_cases h1:n.askTo≠-1
  · rw [if_pos h1] at h ⊢
    cases h;rfl
  · rw [if_neg h1] at h ⊢
    cases h;rfl
theorem lost_ping {n:Nd} {t:Tb} {a:Int} (h:(t,a)=Uh n.table n.pingTo):{ n with table:=t,pingTo:=a }=if n.pingTo≠-1 then { n with table:=XM n.table n.pingTo,pingTo:=-1 } else n:=by
  unfold Uh at h
  by_cases h1:n.pingTo≠-1
  · rw [if_pos h1] at h ⊢
    cases h;rfl
  · rw [if_neg h1] at h ⊢
    cases h;rfl
theorem fix_nil {n:Nd} {t:Tb} {a:Int} (h:(t,a)=Uh n.table n.findTo) (h1:n.findTo=-1):{ n with table:=t,avoid:=[],findTo:=a }=if n.findTo=-1 then { n with avoid:=[] } else { n with avoid:=Vh n.avoid n.findTo,table:=XM n.table n.findTo,findTo:=-1 }:=by
  unfold Uh at h
  rw [if_neg (fun q=>q h1)] at h
  rw [if_pos h1]
  cases h;rfl
theorem fix_shun {n:Nd} {t:Tb} {a:Int} {l:List Int} (h:(t,a)=Uh n.table n.findTo) (h1:n.findTo≠-1) (hl:l=Vh n.avoid n.findTo):{ n with table:=t,avoid:=l,findTo:=a }=if n.findTo=-1 then { n with avoid:=[] } else { n with avoid:=Vh n.avoid n.findTo,table:=XM n.table n.findTo,findTo:=-1 }:=by
  unfold Uh at h
  rw [if_pos h1] at h
  rw [if_neg h1]
  cases h;subst hl;rfl
theorem shun_len {l l9:List Int} {a:Int} {n:Nat} (h:l9=Vh l a) (hl:l.length≤n):l9.length≤n+1:=by
  subst h
  unfold Vh
  split
  · omega
  · rw [List.length_append]
    simp only [List.length_cons,List.length_nil]
    omega
theorem fix_out {n:Nd} (h:n.joined=false):fixN n=(n,[]):=if_pos h
def endN (n:Nd) (p:ZI):Nd :=
  if n.joined=true∧(XU n.table.self p∨p=n.table.self) then VX n p
  else if n.joined=false∧XU n.table.self p then { WA n p [] with joined:=true,cursor:=0,avoid:=[] }
  else n
theorem end_point {n:Nd} {p:ZI} (h:n.joined=true) (h1:XU n.table.self p∨p=n.table.self):endN n p=VX n p:=if_pos ⟨h,h1⟩
theorem end_adopt {n m:Nd} {p:ZI} (h:n.joined=false) (h1:XU n.table.self p) (hm:m=WA n p []):endN n p={ m with joined:=true,cursor:=0,avoid:=[] }:=by
  subst hm
  unfold endN
  rw [if_neg (by rw [h];simp),if_pos ⟨h,h1⟩]
theorem end_not {n:Nd} {p:ZI} (h:n.joined=true→¬XU n.table.self p∧p≠n.table.self) (h1:n.joined=false→¬XU n.table.self p):endN n p=n:=by
  unfold endN
  rw [if_neg (by rintro ⟨q1,q2|q2⟩;exact (h q1).1 q2;exact (h q1).2 q2),if_neg (by rintro ⟨q1,q2⟩;exact h1 q1 q2)]
theorem found_end {n:Nd} {l:Lt} (h1:n.findTo=l.frm.addr) (h2:n.findReq=l.req) (h3:l.done=true):foundN n l=(endN { n with findTo:=-1 } l.peer,[]):=by
  rw [found_in h1 h2,if_pos h3]
  unfold endN
  by_cases h:n.joined=true∧(XU n.table.self l.peer∨l.peer=n.table.self)
  · rw [if_pos h,if_pos h]
  · rw [if_neg h,if_neg h]
    by_cases h:n.joined=false∧XU n.table.self l.peer
    · rw [if_pos h,if_pos h]
    · rw [if_neg h,if_neg h]
theorem find_no {n:Nd} {l:Lt} (h:n.joined=false):findN n l=[]:=if_pos h
theorem find_yes {n:Nd} {l:Lt} {d q:ZI×Bool} (h:n.joined=true) (hd:VI n.table l.id=d) (hq:Wu n.table l.id l.avoid=q):findN n l=[⟨l.frm.addr,{ lett n 2 l.req with done:=d.2 || !q.2,peer:=if d.2 || !q.2 then d.1 else q.1 }⟩]:=by
  subst hd hq
  exact if_neg (by rw [h];decide)
def tickL (a b c:Nat):IM:=VQ (VQ (VQ [] 1 (.func (.func a) #[] #[])) 2 (.func (.func b) #[] #[])) 3 (.func (.func c) #[] #[])
theorem tickL1 {a b c:Nat}:(Vm (tickL a b c) 1).getD .nilFunc=.func (.func a) #[] #[]:=rfl
theorem tickL2 {a b c:Nat}:(Vm (tickL a b c) 2).getD .nilFunc=.func (.func b) #[] #[]:=rfl
theorem tickL3 {a b c:Nat}:(Vm (tickL a b c) 3).getD .nilFunc=.func (.func c) #[] #[]:=rfl
theorem tickL0 {a b c:Nat} {k:Int} (h:¬(1≤k∧k≤3)):(Vm (tickL a b c) k).getD .nilFunc=.nilFunc:=by
  show (Vm [(1,Value.func (.func a) #[] #[]),(2,.func (.func b) #[] #[]),(3,.func (.func c) #[] #[])] k).getD .nilFunc=.nilFunc
  simp only [Vm]
  rw [if_neg (by omega),if_neg (by omega),if_neg (by omega)]
  rfl
theorem setParts_first {z r:Segs} {zs:List Segs} (h:Segs.len z=Segs.len r):VA (z::zs) [(0,r)]=some (r::zs):=by
  have h1:=setPart_at [] z r zs h
  simp only [List.nil_append,List.length_nil] at h1
  unfold VA
  rw [h1]
  rfl
theorem fh_thaw {α:Type} {T sz k cp:Nat} {f:α→Segs} {l:List α} {ad:Option Addr} {hs Hin:Hp} {P:Program} {g:FuncId} {vs:List Value} {M:Mem} {R:Mem→Value→Hp→Prop} (ho:OSl T sz (.slice ad k cp) hs (l.map f)) (h:∀ M',M.le M'→SlK M' f sz ⟨ad,cp,l⟩→Fh P g vs M' Hin R):Fh P g vs M (Hin++hs) R:=fun H w hw=>by
  obtain ⟨M',h1,h2,h3⟩:=ho.frz (H:=Hin++H) (hw.cnt (by intro zz;simp only [cnt_app];omega))
  exact (h M' h1 h3 H w h2).mono fun e w' ⟨v,M2,Ho,he,hm,hs,hr⟩=>⟨v,M2,Ho,he,h1.trans hm,hs,hr⟩
end Go.Esp
namespace Go.Proofs.YtajmnjefajknoaaGreat
open Go.Esp
theorem F.foff68_0:foff Tryz.prog 68 0=some 0:=by kernel_rfl
theorem F.foff68_1:foff Tryz.prog 68 1=some 78:=by kernel_rfl
theorem F.lay35:lay Tryz.prog 35=some (false,1):=by kernel_rfl
theorem F.ok65:okFn Tryz.prog 65=true:=by kernel_rfl
theorem F.ok83:okFn Tryz.prog 83=true:=by kernel_rfl
theorem F.ok91:okFn Tryz.prog 91=true:=by kernel_rfl
theorem CloneI_nil (M:Mem) (c:Nat) (l:List IntV) (k:SlK M (oneI .i64) 1 ⟨none,c,l⟩) (hb:l.length≤1000000):Fh Tryz.prog 91 [.slice none l.length c] M [] (fun M' v Hout=>M'=M∧OSl 3 1 v Hout (l.map (oneI .i64))):=by
  have hl0:l=[]:=SlM.none_nil k.h1
  subst hl0
  have hl0:([]:List IntV).map (oneI .i64)=[]:=rfl
  refine Vx Tryz.func91 rfl Tryz.ntmps91 rfl ?_;intro H
  refine ZJ (Zm (l:=[0]) rfl ?_);refine ZD ?_;refine Zw (Zp ?_)
  iterate 2 refine ZJ ?_
  refine Zm (l:=[0,1]) rfl ?_;refine ZA ?_;refine Y_nil Tryz.underlying30 ?_;refine Zw (Zp (Y_pk [4,2,0] ?_))
  refine YC rfl (fun hc1=>?_) (fun hc1=>?_)
  ·skip
   refine ZJ (Zm (l:=[0]) rfl ?_);refine ZD ?_;refine Zw (Zp (Y_pk [2,0] ?_));refine Yq (YS ?_)
   refine Yg (.inr rfl) (.tmp rfl .nil) (fun w hw=>?_)
   exact ⟨_,M,[],rfl,Mem.le.refl M,hw.c,rfl,by rw [hl0];exact OSl.nil⟩
  ·skip
   (exfalso;simp [eqX] at hc1;done)
theorem CloneI_some (M:Mem) (ad:Addr) (c:Nat) (l:List IntV) (k:SlK M (oneI .i64) 1 ⟨some ad,c,l⟩) (hb:l.length≤1000000):Fh Tryz.prog 91 [.slice (some ad) l.length c] M [] (fun M' v Hout=>M'=M∧OSl 3 1 v Hout (l.map (oneI .i64))):=by
  have hml:l.length=(l.map (oneI .i64)).length:=(List.length_map ..).symm
  refine Vx Tryz.func91 rfl Tryz.ntmps91 rfl ?_;intro H
  refine ZJ (Zm (l:=[0]) rfl ?_);refine ZD ?_;refine Zw (Zp ?_)
  iterate 2 refine ZJ ?_
  refine Zm (l:=[0,1]) rfl ?_;refine ZA ?_;refine Y_nil Tryz.underlying30 ?_;refine Zw (Zp (Y_pk [4,2,0] ?_))
  refine YC rfl (fun hc1=>?_) (fun hc1=>?_)
  ·skip
   (exfalso;simp [eqX] at hc1;done)
  ·skip
   refine YE (Zp (Y_pk [2,0] ?_));refine ZJ (Zm (l:=[0,1,2,3]) rfl ?_)
   refine Xu rfl rfl F.elem30 F.zero3 rfl rfl (.nil) rfl rfl (by simp only [List.map_cons,List.map_nil] <;> rfl) rfl ?_;intro b2 hob3
   refine ZA ?_
   refine WX (m:=1000000) rfl rfl rfl rfl rfl F.elem30 F.zero3 (by rfl) rfl (by assumption) (by repeat first|exact Rem.here _|exact Rem.two|apply Rem.skip|apply Rem.over) (SlM.src k.h1 (rows_one IntV.flat _) hml) (by (simp;omega)) (by decide) rfl ?_;intro v6 hs5 ho4;obtain ⟨adv6,cpv6,rfl⟩:=ho4.val
   refine ZD ?_;refine Zw (Zp (Y_pk [2] ?_));refine Yq ?_
   refine Yg (.inr rfl) (.tmp rfl .nil) (fun w hw=>?_)
   exact ⟨_,M,_,rfl,Mem.le.refl M,hw.c,rfl,by assumption⟩
theorem CloneI_ok (M:Mem) (a:Option Addr) (c:Nat) (l:List IntV) (k:SlK M (oneI .i64) 1 ⟨a,c,l⟩) (hb:l.length≤1000000):Fh Tryz.prog 91 [.slice a l.length c] M [] (fun M' v Hout=>M'=M∧OSl 3 1 v Hout (l.map (oneI .i64))):=by
  cases a with
  |none=>exact CloneI_nil M c l k hb
  |some ad=>exact CloneI_some M ad c l k hb
theorem send_ok (M:Mem) (bw:Nat) (Za:Int) (Zb:Plc) (Zf:Int) (Zh:Plc) (Zj Ze Zr:Option Addr) (Zi Zd Zq:Nat) (Zg Zc:List ZI) (Zl:List Int) (Zt:Int) (Zs:Bool) (ZC Zz ZL ZB Zy Zu Zo Zv Zn:Int) (Zx:Plc) (ZE ZF:Int) (o_a:Option Addr) (o_c:Nat) (o_l:List Ys) (ho:Hp) (hO:OSl 49 68 (.slice o_a o_l.length o_c) ho (o_l.map Ys.segs)) (hL:o_l.length≤1000) (to:Int) (l:ZO):Fh Tryz.prog 65 [.pointer (some ⟨bw,0,none⟩),.int .i64 to,l.enc] M ((bw,rowO (ZQ.segs ⟨⟨⟨⟨Za,Zb⟩,⟨Zf,Zh⟩,⟨Zj,Zi,Zg⟩,⟨Ze,Zd,Zc⟩⟩,Zt,Zs,ZC,Zz,ZL,ZB,Zy,Zu,Zo,Zv,Zn,Zx,⟨Zr,Zq,Zl⟩,ZE,ZF⟩,⟨o_a,o_c,o_l⟩⟩) 68)::ho) (fun M' v Hout=>M'=M∧v=.tuple #[]∧∃ (o9:Sl Ys) (ho9:Hp),Hout=(bw,rowO (ZQ.segs ⟨⟨⟨⟨Za,Zb⟩,⟨Zf,Zh⟩,⟨Zj,Zi,Zg⟩,⟨Ze,Zd,Zc⟩⟩,Zt,Zs,ZC,Zz,ZL,ZB,Zy,Zu,Zo,Zv,Zn,Zx,⟨Zr,Zq,Zl⟩,ZE,ZF⟩,o9⟩) 68)::ho9∧OSl 49 68 o9.val ho9 (o9.l.map Ys.segs)∧o9.l=o_l++[⟨to,{ l with frm:=⟨Za,Zb⟩ }⟩]):=by
  obtain ⟨YD,⟨Yb,YT⟩,Xr,l_id,⟨YH,YG,ZZ⟩,Xh,⟨ZS,Yo⟩,⟨YF,YB,ZT⟩⟩:=l
  refine Wj (fun H=>(bw,rowO (ZQ.segs ⟨⟨⟨⟨Za,Zb⟩,⟨Zf,Zh⟩,⟨Zj,Zi,Zg⟩,⟨Ze,Zd,Zc⟩⟩,Zt,Zs,ZC,Zz,ZL,ZB,Zy,Zu,Zo,Zv,Zn,Zx,⟨Zr,Zq,Zl⟩,ZE,ZF⟩,⟨o_a,o_c,o_l⟩⟩) 68)::(ho++H)) (fun _=>by simp only [List.append_assoc,List.cons_append,List.nil_append]) Tryz.func65 rfl Tryz.ntmps65 rfl ?_;intro H
  refine ZJ (Zm (l:=[0]) rfl ?_)
  refine Xv ?_;intro b1
  refine Zw (Zp (Y_pk [5,0,1] ?_));refine ZJ (Zm (l:=[0,1,2,3,4,5,6,7]) rfl ?_);refine ZA ?_;refine Yf ?_;refine Zk F.foff68_0 ?_;refine Zk F.foff32_0 ?_;refine Zk F.foff28_0 ?_;refine ZH F.lay25 ?_;refine Zk F.foff44_1 ?_;refine ZX F.lay25 ?_;refine Zw (Zp (Y_pk [5,0,1] ?_));refine YL (l:=[0,1,2,3,4,5,6,7,8,9,10,11,12]) #[0,0,2,6,14,0,0,96,224,510,1023,2047,4095] _ rfl (by kernel_rfl) (by kernel_rfl) St.drawn (fun _ h=>h) ?_
  iterate 2 refine ZA ?_
  refine Yf ?_;refine Zk F.foff68_1 ?_;refine ZH F.lay35 ?_;refine ZA ?_;refine ZH F.lay44 ?_;refine Xy rfl rfl F.bld49 (.cons rfl (by constructor) (.cons rfl (by constructor) .nil)) rfl rfl ?_
  refine Xu rfl rfl F.elem35 F.zero49 rfl rfl (.cons rfl (by constructor) .nil) rfl rfl (by simp only [List.map_cons,List.map_nil] <;> rfl) rfl ?_;intro b2 hob3
  refine WX (m:=1000000) rfl rfl rfl rfl rfl F.elem35 F.zero49 (by exact Wo rfl) rfl (by assumption) (by repeat first|exact Rem.here _|exact Rem.two|apply Rem.skip|apply Rem.over) (Src.own hob3.lens (by (refine Vi ?_;(repeat (first|exact XC|refine XN ?_|(refine YP ?_ ?_;rfl)));done)) rfl (by repeat first|exact List.Mem.head _|refine List.Mem.tail _ ?_|refine List.mem_append_right _ ?_)) (by (simp;omega)) (by decide) rfl ?_;intro v6 hs5 ho4;obtain ⟨adv6,cpv6,rfl⟩:=ho4.valAt (n:=o_l.length+1) (by (simp;done))
  refine Yf ?_;refine Zk F.foff68_1 ?_;refine ZX F.lay35 ?_;refine Zw ?_
  refine Yg (.inl rfl) (.nil) (fun w hw=>?_)
  have h9:=ho4
  have hln:o_l.length+1=(o_l++[(⟨to,(⟨YD,⟨Za,Zb⟩,Xr,l_id,⟨YH,YG,ZZ⟩,Xh,⟨ZS,Yo⟩,⟨YF,YB,ZT⟩⟩:ZO)⟩:Ys)]).length:=by rw [List.length_append];rfl
  rw [hln] at hw h9
  refine ⟨_,M,(bw,rowO (ZQ.segs ⟨⟨⟨⟨Za,Zb⟩,⟨Zf,Zh⟩,⟨Zj,Zi,Zg⟩,⟨Ze,Zd,Zc⟩⟩,Zt,Zs,ZC,Zz,ZL,ZB,Zy,Zu,Zo,Zv,Zn,Zx,⟨Zr,Zq,Zl⟩,ZE,ZF⟩,(⟨adv6,cpv6,o_l++[(⟨to,(⟨YD,⟨Za,Zb⟩,Xr,l_id,⟨YH,YG,ZZ⟩,Xh,⟨ZS,Yo⟩,⟨YF,YB,ZT⟩⟩:ZO)⟩:Ys)]⟩:Sl Ys)⟩) 68)::hs5,rfl,Mem.le.refl M,?_,rfl,rfl,(⟨adv6,cpv6,o_l++[(⟨to,(⟨YD,⟨Za,Zb⟩,Xr,l_id,⟨YH,YG,ZZ⟩,Xh,⟨ZS,Yo⟩,⟨YF,YB,ZT⟩⟩:ZO)⟩:Ys)]⟩:Sl Ys),hs5,rfl,?_,rfl⟩
  ·simp only [ZQ.segs,Sl.val,List.length_nil] at hw ⊢
   exact hw.c
  ·exact OSl.as9 h9 (by rw [List.map_append];rfl)
theorem sendF_ok (M:Mem) (bw:Nat) (Za:Int) (Zb:Plc) (Zf:Int) (Zh:Plc) (Zj Ze Zr:Option Addr) (Zi Zd Zq:Nat) (Zg Zc:List ZI) (Zl:List Int) (Zt:Int) (Zs:Bool) (ZC Zz ZL ZB Zy Zu Zo Zv Zn:Int) (Zx:Plc) (ZE ZF:Int) (to:Int) (l:ZO):Fh Tryz.prog 65 [.pointer (some ⟨bw,0,none⟩),.int .i64 to,l.enc] M [(bw,rowO (ZQ.segs ⟨⟨⟨⟨Za,Zb⟩,⟨Zf,Zh⟩,⟨Zj,Zi,Zg⟩,⟨Ze,Zd,Zc⟩⟩,Zt,Zs,ZC,Zz,ZL,ZB,Zy,Zu,Zo,Zv,Zn,Zx,⟨Zr,Zq,Zl⟩,ZE,ZF⟩,⟨none,0,[]⟩⟩) 68)] (fun M' v Hout=>v=.tuple #[]∧∃ (o9:Sl Ys),Hout=[(bw,rowO (ZQ.segs ⟨⟨⟨⟨Za,Zb⟩,⟨Zf,Zh⟩,⟨Zj,Zi,Zg⟩,⟨Ze,Zd,Zc⟩⟩,Zt,Zs,ZC,Zz,ZL,ZB,Zy,Zu,Zo,Zv,Zn,Zx,⟨Zr,Zq,Zl⟩,ZE,ZF⟩,o9⟩) 68)]∧SlK M' Ys.segs 68 o9∧o9.l=[⟨to,{ l with frm:=⟨Za,Zb⟩ }⟩]):=by
  refine fh_frz (send_ok M bw _ _ _ _ _ _ _ _ _ _ _ _ _ _ _ _ _ _ _ _ _ _ _ _ _ _ _ none 0 [] [] OSl.nil (by simp) to l) ?_
  rintro M' v _ H w ⟨rfl,rfl,⟨o9a,o9c,o9l⟩,ho9,rfl,hO9,hl9⟩ hs
  simp only at hl9 hO9
  simp only [Sl.val] at hO9
  obtain ⟨M2,j1,j2,j3⟩:=OSl.frz (H:=(bw,rowO (ZQ.segs ⟨⟨⟨⟨Za,Zb⟩,⟨Zf,Zh⟩,⟨Zj,Zi,Zg⟩,⟨Ze,Zd,Zc⟩⟩,Zt,Zs,ZC,Zz,ZL,ZB,Zy,Zu,Zo,Zv,Zn,Zx,⟨Zr,Zq,Zl⟩,ZE,ZF⟩,⟨o9a,o9c,o9l⟩⟩) 68)::H) hO9 (hs.c)
  exact ⟨M2,_,j1,j2,rfl,⟨o9a,o9c,o9l⟩,rfl,j3,hl9⟩
theorem request_ok (M:Mem) (bw:Nat) (Za:Int) (Zb:Plc) (Zf:Int) (Zh:Plc) (Zj Ze Zr:Option Addr) (Zi Zd Zq:Nat) (Zg Zc:List ZI) (Zl:List Int) (Zt:Int) (Zs:Bool) (ZC Zz ZL ZB Zy Zu Zo Zv Zn:Int) (Zx:Plc) (ZE ZF:Int) (to:Int) (l:ZO):Fh Tryz.prog 83 [.pointer (some ⟨bw,0,none⟩),.int .i64 to,l.enc] M [(bw,rowO (ZQ.segs ⟨⟨⟨⟨Za,Zb⟩,⟨Zf,Zh⟩,⟨Zj,Zi,Zg⟩,⟨Ze,Zd,Zc⟩⟩,Zt,Zs,ZC,Zz,ZL,ZB,Zy,Zu,Zo,Zv,Zn,Zx,⟨Zr,Zq,Zl⟩,ZE,ZF⟩,⟨none,0,[]⟩⟩) 68)] (fun M' v Hout=>v=.int .u64 (nxR ZL)∧∃ (o9:Sl Ys),Hout=[(bw,rowO (ZQ.segs ⟨⟨⟨⟨Za,Zb⟩,⟨Zf,Zh⟩,⟨Zj,Zi,Zg⟩,⟨Ze,Zd,Zc⟩⟩,Zt,Zs,ZC,Zz,(nxR ZL),ZB,Zy,Zu,Zo,Zv,Zn,Zx,⟨Zr,Zq,Zl⟩,ZE,ZF⟩,o9⟩) 68)]∧SlK M' Ys.segs 68 o9∧o9.l=[⟨to,{ l with frm:=⟨Za,Zb⟩,req:=nxR ZL,peer:=Xi }⟩]):=by
  obtain ⟨YD,⟨Yb,YT⟩,Xr,l_id,⟨YH,YG,ZZ⟩,Xh,⟨ZS,Yo⟩,⟨YF,YB,ZT⟩⟩:=l
  refine Wj (fun H=>(bw,rowO (ZQ.segs ⟨⟨⟨⟨Za,Zb⟩,⟨Zf,Zh⟩,⟨Zj,Zi,Zg⟩,⟨Ze,Zd,Zc⟩⟩,Zt,Zs,ZC,Zz,ZL,ZB,Zy,Zu,Zo,Zv,Zn,Zx,⟨Zr,Zq,Zl⟩,ZE,ZF⟩,⟨none,0,[]⟩⟩) 68)::H) (fun _=>by simp only [List.append_assoc,List.cons_append,List.nil_append]) Tryz.func83 rfl Tryz.ntmps83 rfl ?_;intro H
  refine ZJ (Zm (l:=[0,1]) rfl ?_)
  refine Xv ?_;intro b1
  refine ZD ?_;refine Zw (Zp (Y_pk [6,5,0,1] ?_));refine ZJ (Zm (l:=[0,1,2,3,4,5,6,7,8,9]) rfl ?_);refine ZA ?_;refine Yf ?_;refine Zk F.foff68_0 ?_;refine Zk F.foff32_5 ?_;refine ZH F.lay29 ?_;refine Xz rfl rfl rfl rfl rfl (by exact Vw _) rfl ?_
  obtain ⟨r9,hr9⟩:∃ v,nxR ZL=v:=⟨_,rfl⟩
  refine WY 12 rfl (show _=Value.int .u64 r9 from by rw [← hr9];exact congrArg (Value.int .u64) (nx_w64 ZL)) ?_;refine Yf ?_;refine Zk F.foff68_0 ?_;refine Zk F.foff32_5 ?_;refine ZX F.lay29 ?_;refine Zw (Zp (Y_pk [6,5,0,1] ?_));refine ZJ (YL (l:=[0,1,2,3,4,5,6,7,8,9]) #[0,1,3,7,15,0,31,127,255,511] _ rfl (by kernel_rfl) (by kernel_rfl) St.drawn (fun _ h=>h) ?_);refine ZA ?_;refine Yf ?_;refine Zk F.foff68_0 ?_;refine Zk F.foff32_5 ?_;refine ZH F.lay29 ?_;refine X_fs rfl rfl F.ok66 rfl (Vz _) rfl ?_
  rintro _ rfl
  refine WY 21 rfl (show _=aggV [.one (.int .i64 (-1)),Yr 0] from rfl) ?_;refine Zk F.foff44_2 ?_;refine ZX F.lay29 ?_;refine Zk F.foff44_6 ?_;refine ZX F.lay25 ?_;refine Zw (Zp (Y_pk [6,5,0,1] ?_));refine ZJ (XW (l:=[0,1,2,3]) [3] rfl ?_)
  iterate 2 refine ZA ?_
  refine ZH F.lay44 ?_;refine Vg rfl rfl rfl F.ok65 rfl (sendF_ok M bw _ _ _ _ _ _ _ _ _ _ _ _ _ _ _ _ _ _ _ _ _ _ _ _ _ _ _ to ⟨YD,⟨Yb,YT⟩,r9,l_id,⟨YH,YG,ZZ⟩,Xh,⟨-1,0⟩,⟨YF,YB,ZT⟩⟩) (by repeat first|exact Rem.here _|exact Rem.two|apply Rem.skip|apply Rem.over) (YN rfl) ?_
  rintro _ M1 hs1 hm1 ⟨rfl,⟨o9a,o9c,o9l⟩,rfl,k9,hl9⟩
  simp only at hl9
  simp only [List.append_assoc,List.cons_append,List.nil_append]
  refine Zw (WE ?_);refine Zp (Y_pk [6,0] ?_);refine ZJ (Zm (l:=[0,1,2,3,4,5]) rfl ?_);refine ZA ?_;refine Yf ?_;refine Zk F.foff68_0 ?_;refine Zk F.foff32_5 ?_;refine ZH F.lay29 ?_;refine ZD ?_;refine Zw (Zp (Y_pk [6] ?_));refine Yq ?_
  refine Yg (.inr rfl) (.tmp rfl .nil) (fun w hw=>?_)
  refine ⟨_,M1,[(bw,rowO (ZQ.segs ⟨⟨⟨⟨Za,Zb⟩,⟨Zf,Zh⟩,⟨Zj,Zi,Zg⟩,⟨Ze,Zd,Zc⟩⟩,Zt,Zs,ZC,Zz,r9,ZB,Zy,Zu,Zo,Zv,Zn,Zx,⟨Zr,Zq,Zl⟩,ZE,ZF⟩,⟨o9a,o9c,o9l⟩⟩) 68)],rfl,hm1,hw.c,?_,⟨o9a,o9c,o9l⟩,?_,k9,?_⟩
  ·rw [hr9];rfl
  ·rw [hr9]
  ·rw [hr9];exact hl9
theorem seek_ok (M:Mem) (bw:Nat) (Za:Int) (Zb:Plc) (Zf:Int) (Zh:Plc) (Zj Ze Zr:Option Addr) (Zi Zd Zq:Nat) (Zg Zc:List ZI) (Zl:List Int) (Zt:Int) (Zs:Bool) (ZC Zz ZL ZB Zy Zu Zo Zv Zn:Int) (Zx:Plc) (ZE ZF:Int) (Yt:ZN.ok M ⟨⟨Za,Zb⟩,⟨Zf,Zh⟩,⟨Zj,Zi,Zg⟩,⟨Ze,Zd,Zc⟩⟩) (YI:SlK M (oneI .i64) 1 ⟨Zr,Zq,Zl⟩) (hLa:Zl.length≤1000) (to:Int):Fh Tryz.prog 89 [.pointer (some ⟨bw,0,none⟩),.int .i64 to] M [(bw,rowO (ZQ.segs ⟨⟨⟨⟨Za,Zb⟩,⟨Zf,Zh⟩,⟨Zj,Zi,Zg⟩,⟨Ze,Zd,Zc⟩⟩,Zt,Zs,ZC,Zz,ZL,ZB,Zy,Zu,Zo,Zv,Zn,Zx,⟨Zr,Zq,Zl⟩,ZE,ZF⟩,⟨none,0,[]⟩⟩) 68)] (fun M' v Hout=>v=.tuple #[]∧WkF bw 68 M' Hout (UB (ZK.nd ⟨⟨⟨Za,Zb⟩,⟨Zf,Zh⟩,⟨Zj,Zi,Zg⟩,⟨Ze,Zd,Zc⟩⟩,Zt,Zs,ZC,Zz,ZL,ZB,Zy,Zu,Zo,Zv,Zn,Zx,⟨Zr,Zq,Zl⟩,ZE,ZF⟩) to)):=by
  refine Wj (fun H=>(bw,rowO (ZQ.segs ⟨⟨⟨⟨Za,Zb⟩,⟨Zf,Zh⟩,⟨Zj,Zi,Zg⟩,⟨Ze,Zd,Zc⟩⟩,Zt,Zs,ZC,Zz,ZL,ZB,Zy,Zu,Zo,Zv,Zn,Zx,⟨Zr,Zq,Zl⟩,ZE,ZF⟩,⟨none,0,[]⟩⟩) 68)::H) (fun _=>by simp only [List.append_assoc,List.cons_append,List.nil_append]) Tryz.func89 rfl Tryz.ntmps89 rfl ?_;intro H
  refine ZJ (Zm (l:=[0,1,2,3,4,5]) rfl ?_)
  iterate 2 refine ZA ?_
  refine Yf ?_;refine Zk F.foff68_0 ?_;refine Zk F.foff32_10 ?_;refine ZX F.lay3 ?_;refine Zw (Zp (Y_pk [0,1] ?_));refine C_region_anyW (l:=[0,1,2,3,4,5,6,7,8,9,10,11,12,13,14,15,16,17,18,19]) [15] #[0,0,0,0,8,24,56,120,0,256,768,1792,3840,7936,16376,32766,65535,131071,262143,524287] (_) rfl (by kernel_rfl) (by kernel_rfl) St.drawn (fun _ h=>h) ?_
  iterate 4 refine ZA ?_
  refine Yf ?_;refine Zk F.foff68_0 ?_;refine Zk F.foff32_12 ?_;refine ZH F.lay23 ?_;refine ZA ?_;refine Yf ?_;refine Zk F.foff68_0 ?_;refine Zk F.foff32_13 ?_;refine ZH F.lay30 ?_;refine VV rfl rfl F.ok91 rfl (CloneI_ok M Zr Zq Zl YI (by omega)) (by repeat first|exact Rem.here _|exact Rem.two|apply Rem.skip|apply Rem.over) (fun _ _ _ hm hw=>(hw.lower (by exact hm)).c) (YN rfl) ?_
  rintro v0 M1 hs0 hm1 ⟨hM1,ho0⟩;subst M1
  obtain ⟨ad0,cp0,rfl⟩:=ho0.valL
  refine Xy rfl rfl F.bld44 (.cons rfl (by constructor) (.cons rfl (by constructor) (.cons rfl (by constructor) .nil))) rfl rfl ?_;refine Vg rfl rfl rfl F.ok83 rfl (request_ok M bw _ _ _ _ _ _ _ _ _ _ _ _ _ _ _ _ _ _ _ _ _ _ _ _ _ _ _ to ⟨1,⟨0,0⟩,0,Zx,⟨ad0,cp0,Zl⟩,false,⟨0,0⟩,⟨none,0,[]⟩⟩) (by repeat first|exact Rem.here _|exact Rem.two|apply Rem.skip|apply Rem.over) (YN rfl) ?_
  rintro _ M2 hs2 hm2 ⟨rfl,⟨o9a,o9c,o9l⟩,rfl,k9,hl9⟩
  simp only at hl9
  simp only [List.append_assoc,List.cons_append,List.nil_append]
  refine Yf ?_;refine Zk F.foff68_0 ?_;refine Zk F.foff32_11 ?_;refine ZX F.lay29 ?_;refine Zw (WE ?_)
  refine Yg (.inl rfl) (.nil) (fun w hw=>?_)
  obtain ⟨M9,j1,j2,j3⟩:=OSl.frz (H:=(bw,rowO (ZQ.segs ⟨⟨⟨⟨Za,Zb⟩,⟨Zf,Zh⟩,⟨Zj,Zi,Zg⟩,⟨Ze,Zd,Zc⟩⟩,Zt,Zs,ZC,Zz,(nxR ZL),ZB,Zy,Zu,Zo,to,(nxR ZL),Zx,⟨Zr,Zq,Zl⟩,ZE,ZF⟩,⟨o9a,o9c,o9l⟩⟩) 68)::H) (show OSl _ _ (.slice ad0 Zl.length cp0) hs0 (Zl.map (oneI .i64)) from ho0) (hw.c)
  refine ⟨_,M9,_,rfl,hm2.trans j1,j2,rfl,⟨⟨⟨Za,Zb⟩,⟨Zf,Zh⟩,⟨Zj,Zi,Zg⟩,⟨Ze,Zd,Zc⟩⟩,Zt,Zs,ZC,Zz,(nxR ZL),ZB,Zy,Zu,Zo,to,(nxR ZL),Zx,⟨Zr,Zq,Zl⟩,ZE,ZF⟩,⟨o9a,o9c,o9l⟩,rfl,rfl,?_,⟨(Yt.mono hm2).mono j1,(YI.mono hm2).mono j1⟩,k9.mono j1,fun y hy=>?_⟩
  ·show sndl o9l=_
   rw [hl9];rfl
  ·simp only at hy
   rw [hl9] at hy
   obtain rfl:=List.mem_singleton.1 hy
   exact ⟨⟨j3,SlK.nil⟩⟩
end Go.Proofs.YtajmnjefajknoaaGreat
namespace Go.Proofs.YtajmnjefajknoaaGreat
open Go.Esp
theorem F.ok108:okFn Tryz.prog 108=true:=by kernel_rfl
theorem shun_ok (M:Mem) (bw:Nat) (Za:Int) (Zb:Plc) (Zf:Int) (Zh:Plc) (Zj Ze Zr:Option Addr) (Zi Zd Zq:Nat) (Zg Zc:List ZI) (Zl:List Int) (Zt:Int) (Zs:Bool) (ZC Zz ZL ZB Zy Zu Zo Zv Zn:Int) (Zx:Plc) (ZE ZF:Int) (hav:Hp) (hA:OSl 3 1 (.slice Zr Zl.length Zq) hav (Zl.map (oneI .i64))) (hLa:Zl.length≤900) (a:Int):Fh Tryz.prog 84 [.pointer (some ⟨bw,0,none⟩),.int .i64 a] M ((bw,rowO (ZQ.segs ⟨⟨⟨⟨Za,Zb⟩,⟨Zf,Zh⟩,⟨Zj,Zi,Zg⟩,⟨Ze,Zd,Zc⟩⟩,Zt,Zs,ZC,Zz,ZL,ZB,Zy,Zu,Zo,Zv,Zn,Zx,⟨Zr,Zq,Zl⟩,ZE,ZF⟩,⟨none,0,[]⟩⟩) 68)::hav) (fun M' v Hout=>M'=M∧v=.tuple #[]∧∃ (s9:Sl Int) (hs9:Hp),Hout=(bw,rowO (ZQ.segs ⟨⟨⟨⟨Za,Zb⟩,⟨Zf,Zh⟩,⟨Zj,Zi,Zg⟩,⟨Ze,Zd,Zc⟩⟩,Zt,Zs,ZC,Zz,ZL,ZB,Zy,Zu,Zo,Zv,Zn,Zx,s9,ZE,ZF⟩,⟨none,0,[]⟩⟩) 68)::hs9∧OSl 3 1 s9.val hs9 (s9.l.map (oneI .i64))∧s9.l=Vh Zl a):=by
  refine Wj (fun H=>(bw,rowO (ZQ.segs ⟨⟨⟨⟨Za,Zb⟩,⟨Zf,Zh⟩,⟨Zj,Zi,Zg⟩,⟨Ze,Zd,Zc⟩⟩,Zt,Zs,ZC,Zz,ZL,ZB,Zy,Zu,Zo,Zv,Zn,Zx,⟨Zr,Zq,Zl⟩,ZE,ZF⟩,⟨none,0,[]⟩⟩) 68)::(hav++H)) (fun _=>by simp only [List.append_assoc,List.cons_append,List.nil_append]) Tryz.func84 rfl Tryz.ntmps84 rfl ?_;intro H
  refine ZJ (Zm (l:=[0,1,2,3,4,5,6,7,8,9,10,11,12,13,14,15,16]) rfl ?_);refine ZA ?_;refine Yf ?_;refine Zk F.foff68_0 ?_;refine Zk F.foff32_13 ?_;refine ZH F.lay30 ?_;refine ZA ?_;refine X_fo rfl rfl F.ok103 rfl (ContainsI_rd M hav ⟨Zr,Zq,Zl⟩ a (OSl.rd hA _) (by show Zl.length≤9223372036854775807;omega)) (by repeat first|exact Rem.here _|exact Rem.two|apply Rem.skip|apply Rem.over) (YN rfl) ?_
  rintro _ M1 _ ⟨hM1,rfl⟩;subst M1
  refine XP ?_;refine ZA ?_
  refine Yw 12 rfl (fun hc1=>?_) (fun hc1=>?_)
  ·replace hc1:=nT hc1
   simp only [ZI.eta,ZN.eta,ZK.eta,ZO.eta,Ys.eta,ZQ.eta,YO.eta,ZU.eta] at hc1
   refine ZA ?_;refine Yf ?_;refine Zk F.foff68_0 ?_;refine Zk F.foff32_13 ?_;refine ZH F.lay30 ?_;refine YW F.elem30 ?_;refine YJ ?_;refine ZM ?_;refine Zw (Zp (Y_pk [20,0,1] ?_))
   refine YC rfl (fun hc2=>?_) (fun hc2=>?_)
   ·replace hc2:=dT hc2
    refine Zm (l:=[0,1,2,3,4,5,6,7,8,9,10,11,12]) rfl ?_
    iterate 2 refine ZA ?_
    refine Yf ?_;refine Zk F.foff68_0 ?_;refine Zk F.foff32_13 ?_;refine ZH F.lay30 ?_;refine ZA ?_
    refine Xu rfl rfl F.elem30 F.zero3 rfl rfl (.cons rfl (by constructor) .nil) rfl rfl (by simp only [List.map_cons,List.map_nil] <;> rfl) rfl ?_;intro b3 hob4
    have hAm:=hA
    rw [show Zl.length=(Zl.map (oneI .i64)).length from (List.length_map ..).symm] at hAm
    refine WX (m:=1000000) rfl rfl rfl rfl rfl F.elem30 F.zero3 (by rfl) rfl (by assumption) (by repeat first|exact Rem.here _|exact Rem.two|apply Rem.skip|apply Rem.over) (Src.own hob4.lens (by (refine Vi ?_;(repeat (first|exact XC|refine XN ?_|(refine YP ?_ ?_;rfl)));done)) rfl (by repeat first|exact List.Mem.head _|refine List.Mem.tail _ ?_|refine List.mem_append_right _ ?_)) (by (simp;omega)) (by decide) rfl ?_;intro v7 hs6 ho5;obtain ⟨adv7,cpv7,rfl⟩:=ho5.valAt (n:=Zl.length+1) (by (simp;done))
    refine Yf ?_;refine Zk F.foff68_0 ?_;refine Zk F.foff32_13 ?_;refine ZX F.lay30 ?_;refine Zw ?_
    refine Yg (.inl rfl) (.nil) (fun w hw=>?_)
    have hln:Zl.length+1=(Zl++[a]).length:=by rw [List.length_append];rfl
    have h9:=ho5
    rw [hln] at hw h9
    refine ⟨_,M,(bw,rowO (ZQ.segs ⟨⟨⟨⟨Za,Zb⟩,⟨Zf,Zh⟩,⟨Zj,Zi,Zg⟩,⟨Ze,Zd,Zc⟩⟩,Zt,Zs,ZC,Zz,ZL,ZB,Zy,Zu,Zo,Zv,Zn,Zx,⟨adv7,cpv7,Zl++[a]⟩,ZE,ZF⟩,⟨none,0,[]⟩⟩) 68)::hs6,rfl,Mem.le.refl M,?_,rfl,rfl,⟨adv7,cpv7,Zl++[a]⟩,hs6,rfl,?_,?_⟩
    ·simp only [ZQ.segs,Sl.val,List.length_nil] at hw ⊢
     exact hw.c
    ·exact OSl.as9 h9 (by rw [List.map_append];rfl)
    ·show Zl++[a]=Vh Zl a
     unfold Vh
     rw [if_neg (by rintro (q1|q1) <;> first|contradiction|omega)]
   ·replace hc2:=dF hc2
    refine YE ?_
    refine Yg (.inl rfl) (.nil) (fun w hw=>?_)
    refine ⟨_,M,(bw,rowO (ZQ.segs ⟨⟨⟨⟨Za,Zb⟩,⟨Zf,Zh⟩,⟨Zj,Zi,Zg⟩,⟨Ze,Zd,Zc⟩⟩,Zt,Zs,ZC,Zz,ZL,ZB,Zy,Zu,Zo,Zv,Zn,Zx,⟨Zr,Zq,Zl⟩,ZE,ZF⟩,⟨none,0,[]⟩⟩) 68)::hav,rfl,Mem.le.refl M,hw.c,rfl,rfl,⟨Zr,Zq,Zl⟩,hav,rfl,hA,?_⟩
    show Zl=Vh Zl a
    unfold Vh
    rw [if_pos (by exact .inr (by omega))]
  ·replace hc1:=nF hc1
   simp only [ZI.eta,ZN.eta,ZK.eta,ZO.eta,Ys.eta,ZQ.eta,YO.eta,ZU.eta] at hc1
   iterate 7 refine ZY ?_
   refine ZM ?_;refine Zw (Zp (Y_pk [20,0,1] ?_));refine Wz rfl ?_;refine YE ?_
   refine Yg (.inl rfl) (.nil) (fun w hw=>?_)
   refine ⟨_,M,(bw,rowO (ZQ.segs ⟨⟨⟨⟨Za,Zb⟩,⟨Zf,Zh⟩,⟨Zj,Zi,Zg⟩,⟨Ze,Zd,Zc⟩⟩,Zt,Zs,ZC,Zz,ZL,ZB,Zy,Zu,Zo,Zv,Zn,Zx,⟨Zr,Zq,Zl⟩,ZE,ZF⟩,⟨none,0,[]⟩⟩) 68)::hav,rfl,Mem.le.refl M,hw.c,rfl,rfl,⟨Zr,Zq,Zl⟩,hav,rfl,hA,?_⟩
   show Zl=Vh Zl a
   unfold Vh
   rw [if_pos (by exact .inl (by assumption))]
theorem lostA_ok (M:Mem) (bw:Nat) (Za:Int) (Zb:Plc) (Zf:Int) (Zh:Plc) (Zj Ze Zr:Option Addr) (Zi Zd Zq:Nat) (Zg Zc:List ZI) (Zl:List Int) (Zt:Int) (Zs:Bool) (ZC Zz ZL ZB Zy Zu Zo Zv Zn:Int) (Zx:Plc) (ZE ZF:Int) (Yt:ZN.ok M ⟨⟨Za,Zb⟩,⟨Zf,Zh⟩,⟨Zj,Zi,Zg⟩,⟨Ze,Zd,Zc⟩⟩) (hbig:Zg.length≤40∧Zc.length≤200):Fh Tryz.prog 81 [.pointer (some ⟨bw,0,none⟩),.pointer (some ⟨bw,49,none⟩)] M [(bw,rowO (ZQ.segs ⟨⟨⟨⟨Za,Zb⟩,⟨Zf,Zh⟩,⟨Zj,Zi,Zg⟩,⟨Ze,Zd,Zc⟩⟩,Zt,Zs,ZC,Zz,ZL,ZB,Zy,Zu,Zo,Zv,Zn,Zx,⟨Zr,Zq,Zl⟩,ZE,ZF⟩,⟨none,0,[]⟩⟩) 68)] (fun M' v Hout=>v=.tuple #[]∧∃ (t9:ZN) (a9:Int),Hout=[(bw,rowO (ZQ.segs ⟨⟨t9,Zt,Zs,ZC,Zz,ZL,a9,Zy,Zu,Zo,Zv,Zn,Zx,⟨Zr,Zq,Zl⟩,ZE,ZF⟩,⟨none,0,[]⟩⟩) 68)]∧ZN.ok M' t9∧(t9.tb,a9)=Uh (ZN.tb ⟨⟨Za,Zb⟩,⟨Zf,Zh⟩,⟨Zj,Zi,Zg⟩,⟨Ze,Zd,Zc⟩⟩) ZB):=by
  refine Wj (fun H=>(bw,rowO (ZQ.segs ⟨⟨⟨⟨Za,Zb⟩,⟨Zf,Zh⟩,⟨Zj,Zi,Zg⟩,⟨Ze,Zd,Zc⟩⟩,Zt,Zs,ZC,Zz,ZL,ZB,Zy,Zu,Zo,Zv,Zn,Zx,⟨Zr,Zq,Zl⟩,ZE,ZF⟩,⟨none,0,[]⟩⟩) 68)::H) (fun _=>by simp only [List.append_assoc,List.cons_append,List.nil_append]) Tryz.func81 rfl Tryz.ntmps81 rfl ?_;intro H
  refine ZJ (Zm (l:=[0,1,2,3]) rfl ?_);refine ZA ?_;refine Yf ?_;refine ZH F.lay3 ?_;refine YJ ?_;refine Zw (Zp (Y_pk [7,0,1] ?_))
  refine YC rfl (fun hc1=>?_) (fun hc1=>?_)
  ·replace hc1:=nT hc1
   refine ZJ (YL (l:=[0,1,2,3,4,5,6,7,8,9,10,11,12,13]) #[0,0,2,6,14,30,0,64,192,510,1023,2047,4095,8191] _ rfl (by kernel_rfl) (by kernel_rfl) St.drawn (fun _ h=>h) ?_)
   iterate 2 refine ZA ?_
   refine Yf ?_;refine Zk F.foff68_0 ?_;refine Zk F.foff32_0 ?_;refine ZH F.lay28 ?_;refine ZA ?_;refine Yf ?_;refine ZH F.lay3 ?_;refine X_fn rfl rfl F.ok108 rfl (Forget_ok _ ⟨⟨Za,Zb⟩,⟨Zf,Zh⟩,⟨Zj,Zi,Zg⟩,⟨Ze,Zd,Zc⟩⟩ ZB Yt hbig) rfl ?_
   rintro _ M1 hm1 ⟨⟨⟨oa,oi⟩,⟨oq,oj⟩,⟨o1a,o1c,o1l⟩,⟨o2a,o2c,o2l⟩⟩,rfl,hot,okt⟩
   refine Yf ?_;refine Zk F.foff68_0 ?_;refine Zk F.foff32_0 ?_;refine ZX F.lay28 ?_;refine Zw (Zp (Y_pk [1] ?_));refine Zm (l:=[0,1,2]) rfl ?_;refine ZA ?_;refine Yf ?_;refine ZX F.lay3 ?_;refine Zw ?_
   refine Yg (.inl rfl) (.nil) (fun w hw=>?_)
   refine ⟨_,M1,[(bw,rowO (ZQ.segs ⟨⟨⟨⟨oa,oi⟩,⟨oq,oj⟩,⟨o1a,o1c,o1l⟩,⟨o2a,o2c,o2l⟩⟩,Zt,Zs,ZC,Zz,ZL,(-1),Zy,Zu,Zo,Zv,Zn,Zx,⟨Zr,Zq,Zl⟩,ZE,ZF⟩,⟨none,0,[]⟩⟩) 68)],rfl,hm1,hw.c,rfl,⟨⟨oa,oi⟩,⟨oq,oj⟩,⟨o1a,o1c,o1l⟩,⟨o2a,o2c,o2l⟩⟩,-1,rfl,okt,?_⟩
   unfold Uh
   rw [if_pos (by omega),hot]
  ·replace hc1:=nF hc1
   refine YE ?_
   refine Yg (.inl rfl) (.nil) (fun w hw=>?_)
   refine ⟨_,M,[(bw,rowO (ZQ.segs ⟨⟨⟨⟨Za,Zb⟩,⟨Zf,Zh⟩,⟨Zj,Zi,Zg⟩,⟨Ze,Zd,Zc⟩⟩,Zt,Zs,ZC,Zz,ZL,ZB,Zy,Zu,Zo,Zv,Zn,Zx,⟨Zr,Zq,Zl⟩,ZE,ZF⟩,⟨none,0,[]⟩⟩) 68)],rfl,Mem.le.refl M,hw.c,rfl,⟨⟨Za,Zb⟩,⟨Zf,Zh⟩,⟨Zj,Zi,Zg⟩,⟨Ze,Zd,Zc⟩⟩,ZB,rfl,Yt,?_⟩
   unfold Uh
   rw [if_neg (by omega)]
theorem lostP_ok (M:Mem) (bw:Nat) (Za:Int) (Zb:Plc) (Zf:Int) (Zh:Plc) (Zj Ze Zr:Option Addr) (Zi Zd Zq:Nat) (Zg Zc:List ZI) (Zl:List Int) (Zt:Int) (Zs:Bool) (ZC Zz ZL ZB Zy Zu Zo Zv Zn:Int) (Zx:Plc) (ZE ZF:Int) (Yt:ZN.ok M ⟨⟨Za,Zb⟩,⟨Zf,Zh⟩,⟨Zj,Zi,Zg⟩,⟨Ze,Zd,Zc⟩⟩) (hbig:Zg.length≤40∧Zc.length≤200):Fh Tryz.prog 81 [.pointer (some ⟨bw,0,none⟩),.pointer (some ⟨bw,51,none⟩)] M [(bw,rowO (ZQ.segs ⟨⟨⟨⟨Za,Zb⟩,⟨Zf,Zh⟩,⟨Zj,Zi,Zg⟩,⟨Ze,Zd,Zc⟩⟩,Zt,Zs,ZC,Zz,ZL,ZB,Zy,Zu,Zo,Zv,Zn,Zx,⟨Zr,Zq,Zl⟩,ZE,ZF⟩,⟨none,0,[]⟩⟩) 68)] (fun M' v Hout=>v=.tuple #[]∧∃ (t9:ZN) (a9:Int),Hout=[(bw,rowO (ZQ.segs ⟨⟨t9,Zt,Zs,ZC,Zz,ZL,ZB,Zy,a9,Zo,Zv,Zn,Zx,⟨Zr,Zq,Zl⟩,ZE,ZF⟩,⟨none,0,[]⟩⟩) 68)]∧ZN.ok M' t9∧(t9.tb,a9)=Uh (ZN.tb ⟨⟨Za,Zb⟩,⟨Zf,Zh⟩,⟨Zj,Zi,Zg⟩,⟨Ze,Zd,Zc⟩⟩) Zu):=by
  refine Wj (fun H=>(bw,rowO (ZQ.segs ⟨⟨⟨⟨Za,Zb⟩,⟨Zf,Zh⟩,⟨Zj,Zi,Zg⟩,⟨Ze,Zd,Zc⟩⟩,Zt,Zs,ZC,Zz,ZL,ZB,Zy,Zu,Zo,Zv,Zn,Zx,⟨Zr,Zq,Zl⟩,ZE,ZF⟩,⟨none,0,[]⟩⟩) 68)::H) (fun _=>by simp only [List.append_assoc,List.cons_append,List.nil_append]) Tryz.func81 rfl Tryz.ntmps81 rfl ?_;intro H
  refine ZJ (Zm (l:=[0,1,2,3]) rfl ?_);refine ZA ?_;refine Yf ?_;refine ZH F.lay3 ?_;refine YJ ?_;refine Zw (Zp (Y_pk [7,0,1] ?_))
  refine YC rfl (fun hc1=>?_) (fun hc1=>?_)
  ·replace hc1:=nT hc1
   refine ZJ (YL (l:=[0,1,2,3,4,5,6,7,8,9,10,11,12,13]) #[0,0,2,6,14,30,0,64,192,510,1023,2047,4095,8191] _ rfl (by kernel_rfl) (by kernel_rfl) St.drawn (fun _ h=>h) ?_)
   iterate 2 refine ZA ?_
   refine Yf ?_;refine Zk F.foff68_0 ?_;refine Zk F.foff32_0 ?_;refine ZH F.lay28 ?_;refine ZA ?_;refine Yf ?_;refine ZH F.lay3 ?_;refine X_fn rfl rfl F.ok108 rfl (Forget_ok _ ⟨⟨Za,Zb⟩,⟨Zf,Zh⟩,⟨Zj,Zi,Zg⟩,⟨Ze,Zd,Zc⟩⟩ Zu Yt hbig) rfl ?_
   rintro _ M1 hm1 ⟨⟨⟨oa,oi⟩,⟨oq,oj⟩,⟨o1a,o1c,o1l⟩,⟨o2a,o2c,o2l⟩⟩,rfl,hot,okt⟩
   refine Yf ?_;refine Zk F.foff68_0 ?_;refine Zk F.foff32_0 ?_;refine ZX F.lay28 ?_;refine Zw (Zp (Y_pk [1] ?_));refine Zm (l:=[0,1,2]) rfl ?_;refine ZA ?_;refine Yf ?_;refine ZX F.lay3 ?_;refine Zw ?_
   refine Yg (.inl rfl) (.nil) (fun w hw=>?_)
   refine ⟨_,M1,[(bw,rowO (ZQ.segs ⟨⟨⟨⟨oa,oi⟩,⟨oq,oj⟩,⟨o1a,o1c,o1l⟩,⟨o2a,o2c,o2l⟩⟩,Zt,Zs,ZC,Zz,ZL,ZB,Zy,(-1),Zo,Zv,Zn,Zx,⟨Zr,Zq,Zl⟩,ZE,ZF⟩,⟨none,0,[]⟩⟩) 68)],rfl,hm1,hw.c,rfl,⟨⟨oa,oi⟩,⟨oq,oj⟩,⟨o1a,o1c,o1l⟩,⟨o2a,o2c,o2l⟩⟩,-1,rfl,okt,?_⟩
   unfold Uh
   rw [if_pos (by omega),hot]
  ·replace hc1:=nF hc1
   refine YE ?_
   refine Yg (.inl rfl) (.nil) (fun w hw=>?_)
   refine ⟨_,M,[(bw,rowO (ZQ.segs ⟨⟨⟨⟨Za,Zb⟩,⟨Zf,Zh⟩,⟨Zj,Zi,Zg⟩,⟨Ze,Zd,Zc⟩⟩,Zt,Zs,ZC,Zz,ZL,ZB,Zy,Zu,Zo,Zv,Zn,Zx,⟨Zr,Zq,Zl⟩,ZE,ZF⟩,⟨none,0,[]⟩⟩) 68)],rfl,Mem.le.refl M,hw.c,rfl,⟨⟨Za,Zb⟩,⟨Zf,Zh⟩,⟨Zj,Zi,Zg⟩,⟨Ze,Zd,Zc⟩⟩,Zu,rfl,Yt,?_⟩
   unfold Uh
   rw [if_neg (by omega)]
theorem lostF_ok (M:Mem) (bw:Nat) (Za:Int) (Zb:Plc) (Zf:Int) (Zh:Plc) (Zj Ze Zr:Option Addr) (Zi Zd Zq:Nat) (Zg Zc:List ZI) (Zl:List Int) (Zt:Int) (Zs:Bool) (ZC Zz ZL ZB Zy Zu Zo Zv Zn:Int) (Zx:Plc) (ZE ZF:Int) (Yt:ZN.ok M ⟨⟨Za,Zb⟩,⟨Zf,Zh⟩,⟨Zj,Zi,Zg⟩,⟨Ze,Zd,Zc⟩⟩) (hbig:Zg.length≤40∧Zc.length≤200):Fh Tryz.prog 81 [.pointer (some ⟨bw,0,none⟩),.pointer (some ⟨bw,53,none⟩)] M [(bw,rowO (ZQ.segs ⟨⟨⟨⟨Za,Zb⟩,⟨Zf,Zh⟩,⟨Zj,Zi,Zg⟩,⟨Ze,Zd,Zc⟩⟩,Zt,Zs,ZC,Zz,ZL,ZB,Zy,Zu,Zo,Zv,Zn,Zx,⟨Zr,Zq,Zl⟩,ZE,ZF⟩,⟨none,0,[]⟩⟩) 68)] (fun M' v Hout=>v=.tuple #[]∧∃ (t9:ZN) (a9:Int),Hout=[(bw,rowO (ZQ.segs ⟨⟨t9,Zt,Zs,ZC,Zz,ZL,ZB,Zy,Zu,Zo,a9,Zn,Zx,⟨Zr,Zq,Zl⟩,ZE,ZF⟩,⟨none,0,[]⟩⟩) 68)]∧ZN.ok M' t9∧(t9.tb,a9)=Uh (ZN.tb ⟨⟨Za,Zb⟩,⟨Zf,Zh⟩,⟨Zj,Zi,Zg⟩,⟨Ze,Zd,Zc⟩⟩) Zv):=by
  refine Wj (fun H=>(bw,rowO (ZQ.segs ⟨⟨⟨⟨Za,Zb⟩,⟨Zf,Zh⟩,⟨Zj,Zi,Zg⟩,⟨Ze,Zd,Zc⟩⟩,Zt,Zs,ZC,Zz,ZL,ZB,Zy,Zu,Zo,Zv,Zn,Zx,⟨Zr,Zq,Zl⟩,ZE,ZF⟩,⟨none,0,[]⟩⟩) 68)::H) (fun _=>by simp only [List.append_assoc,List.cons_append,List.nil_append]) Tryz.func81 rfl Tryz.ntmps81 rfl ?_;intro H
  refine ZJ (Zm (l:=[0,1,2,3]) rfl ?_);refine ZA ?_;refine Yf ?_;refine ZH F.lay3 ?_;refine YJ ?_;refine Zw (Zp (Y_pk [7,0,1] ?_))
  refine YC rfl (fun hc1=>?_) (fun hc1=>?_)
  ·replace hc1:=nT hc1
   refine ZJ (YL (l:=[0,1,2,3,4,5,6,7,8,9,10,11,12,13]) #[0,0,2,6,14,30,0,64,192,510,1023,2047,4095,8191] _ rfl (by kernel_rfl) (by kernel_rfl) St.drawn (fun _ h=>h) ?_)
   iterate 2 refine ZA ?_
   refine Yf ?_;refine Zk F.foff68_0 ?_;refine Zk F.foff32_0 ?_;refine ZH F.lay28 ?_;refine ZA ?_;refine Yf ?_;refine ZH F.lay3 ?_;refine X_fn rfl rfl F.ok108 rfl (Forget_ok _ ⟨⟨Za,Zb⟩,⟨Zf,Zh⟩,⟨Zj,Zi,Zg⟩,⟨Ze,Zd,Zc⟩⟩ Zv Yt hbig) rfl ?_
   rintro _ M1 hm1 ⟨⟨⟨oa,oi⟩,⟨oq,oj⟩,⟨o1a,o1c,o1l⟩,⟨o2a,o2c,o2l⟩⟩,rfl,hot,okt⟩
   refine Yf ?_;refine Zk F.foff68_0 ?_;refine Zk F.foff32_0 ?_;refine ZX F.lay28 ?_;refine Zw (Zp (Y_pk [1] ?_));refine Zm (l:=[0,1,2]) rfl ?_;refine ZA ?_;refine Yf ?_;refine ZX F.lay3 ?_;refine Zw ?_
   refine Yg (.inl rfl) (.nil) (fun w hw=>?_)
   refine ⟨_,M1,[(bw,rowO (ZQ.segs ⟨⟨⟨⟨oa,oi⟩,⟨oq,oj⟩,⟨o1a,o1c,o1l⟩,⟨o2a,o2c,o2l⟩⟩,Zt,Zs,ZC,Zz,ZL,ZB,Zy,Zu,Zo,(-1),Zn,Zx,⟨Zr,Zq,Zl⟩,ZE,ZF⟩,⟨none,0,[]⟩⟩) 68)],rfl,hm1,hw.c,rfl,⟨⟨oa,oi⟩,⟨oq,oj⟩,⟨o1a,o1c,o1l⟩,⟨o2a,o2c,o2l⟩⟩,-1,rfl,okt,?_⟩
   unfold Uh
   rw [if_pos (by omega),hot]
  ·replace hc1:=nF hc1
   refine YE ?_
   refine Yg (.inl rfl) (.nil) (fun w hw=>?_)
   refine ⟨_,M,[(bw,rowO (ZQ.segs ⟨⟨⟨⟨Za,Zb⟩,⟨Zf,Zh⟩,⟨Zj,Zi,Zg⟩,⟨Ze,Zd,Zc⟩⟩,Zt,Zs,ZC,Zz,ZL,ZB,Zy,Zu,Zo,Zv,Zn,Zx,⟨Zr,Zq,Zl⟩,ZE,ZF⟩,⟨none,0,[]⟩⟩) 68)],rfl,Mem.le.refl M,hw.c,rfl,⟨⟨Za,Zb⟩,⟨Zf,Zh⟩,⟨Zj,Zi,Zg⟩,⟨Ze,Zd,Zc⟩⟩,Zv,rfl,Yt,?_⟩
   unfold Uh
   rw [if_neg (by omega)]
end Go.Proofs.YtajmnjefajknoaaGreat
namespace Go.Proofs.YtajmnjefajknoaaGreat
open Go.Esp
theorem F.ok124:okFn Tryz.prog 124=true:=by kernel_rfl
theorem F.ok125:okFn Tryz.prog 125=true:=by kernel_rfl
theorem adopt_ok (M:Mem) (bw:Nat) (Za:Int) (Zb:Plc) (Zf:Int) (Zh:Plc) (Zj Ze Zr:Option Addr) (Zi Zd Zq:Nat) (Zg Zc:List ZI) (Zl:List Int) (Zt:Int) (Zs:Bool) (ZC Zz ZL ZB Zy Zu Zo Zv Zn:Int) (Zx:Plc) (ZE ZF:Int) (Yt:ZN.ok M ⟨⟨Za,Zb⟩,⟨Zf,Zh⟩,⟨Zj,Zi,Zg⟩,⟨Ze,Zd,Zc⟩⟩) (p:ZI) (q:Sl ZI) (k_q:SlK M ZI.segs 21 q):Fh Tryz.prog 82 [.pointer (some ⟨bw,0,none⟩),p.enc,q.val] M [(bw,rowO (ZQ.segs ⟨⟨⟨⟨Za,Zb⟩,⟨Zf,Zh⟩,⟨Zj,Zi,Zg⟩,⟨Ze,Zd,Zc⟩⟩,Zt,Zs,ZC,Zz,ZL,ZB,Zy,Zu,Zo,Zv,Zn,Zx,⟨Zr,Zq,Zl⟩,ZE,ZF⟩,⟨none,0,[]⟩⟩) 68)] (fun M' v Hout=>v=.tuple #[]∧∃ (t9:ZN),Hout=[(bw,rowO (ZQ.segs ⟨⟨t9,Zt,Zs,ZC,Zz,ZL,ZB,Zy,Zu,Zo,Zv,Zn,Zx,⟨Zr,Zq,Zl⟩,ZE,ZF⟩,⟨none,0,[]⟩⟩) 68)]∧ZN.ok M' t9∧ZK.nd ⟨t9,Zt,Zs,ZC,Zz,ZL,ZB,Zy,Zu,Zo,Zv,Zn,Zx,⟨Zr,Zq,Zl⟩,ZE,ZF⟩=WA (ZK.nd ⟨⟨⟨Za,Zb⟩,⟨Zf,Zh⟩,⟨Zj,Zi,Zg⟩,⟨Ze,Zd,Zc⟩⟩,Zt,Zs,ZC,Zz,ZL,ZB,Zy,Zu,Zo,Zv,Zn,Zx,⟨Zr,Zq,Zl⟩,ZE,ZF⟩) p q.l):=by
  obtain ⟨YX,p_id⟩:=p
  obtain ⟨q_a,q_c,q_l⟩:=q
  refine Wj (fun H=>(bw,rowO (ZQ.segs ⟨⟨⟨⟨Za,Zb⟩,⟨Zf,Zh⟩,⟨Zj,Zi,Zg⟩,⟨Ze,Zd,Zc⟩⟩,Zt,Zs,ZC,Zz,ZL,ZB,Zy,Zu,Zo,Zv,Zn,Zx,⟨Zr,Zq,Zl⟩,ZE,ZF⟩,⟨none,0,[]⟩⟩) 68)::H) (fun _=>by simp only [List.append_assoc,List.cons_append,List.nil_append]) Tryz.func82 rfl Tryz.ntmps82 rfl ?_;intro H
  refine ZJ (Zm (l:=[0]) rfl ?_)
  refine Xv ?_;intro b1
  refine Zw (Zp (Y_pk [4,0,2] ?_));refine ZJ (YL (l:=[0,1,2,3,4,5,6,7,8,9,10,11,12,13,14,15,16,17,18]) #[0,1,3,7,15,0,0,0,128,384,896,1920,4095,8191,16383,16383,0,98303,262143] _ rfl (by kernel_rfl) (by kernel_rfl) St.drawn (fun _ h=>h) ?_);refine ZA ?_;refine Yf ?_;refine Zk F.foff68_0 ?_;refine Zk F.foff32_0 ?_;refine ZH F.lay28 ?_;refine ZH F.lay25 ?_
  iterate 2 refine ZA ?_
  refine Yf ?_;refine Zk F.foff68_0 ?_;refine Zk F.foff32_1 ?_;refine ZH F.lay3 ?_;refine X_fn rfl rfl F.ok124 rfl (Adopt_ok _ ⟨⟨Za,Zb⟩,⟨Zf,Zh⟩,⟨Zj,Zi,Zg⟩,⟨Ze,Zd,Zc⟩⟩ ⟨YX,p_id⟩ ⟨q_a,q_c,q_l⟩ Zt Yt k_q) rfl ?_
  rintro _ M1 hm1 hv
  replace hv:TabE _ _ (Vd (ZN.tb ⟨⟨Za,Zb⟩,⟨Zf,Zh⟩,⟨Zj,Zi,Zg⟩,⟨Ze,Zd,Zc⟩⟩) ⟨YX,p_id⟩ q_l Zt):=hv
  obtain ⟨⟨A1,A2⟩,hA⟩:∃ x,Vd (ZN.tb ⟨⟨Za,Zb⟩,⟨Zf,Zh⟩,⟨Zj,Zi,Zg⟩,⟨Ze,Zd,Zc⟩⟩) ⟨YX,p_id⟩ q_l Zt=x:=⟨_,rfl⟩
  rw [hA] at hv
  obtain ⟨_,rfl,⟨⟨oa,oi⟩,⟨oq,oj⟩,⟨o1a,o1c,o1l⟩,⟨o2a,o2c,o2l⟩⟩,rfl,hot,oko⟩:=hv
  simp only at hot
  refine ZA ?_
  iterate 2 refine XF ?_
  refine YQ F.zero28 ?_;intro b2
  refine ZX F.lay28 ?_;refine ZD ?_;refine Zw (Zp (Y_pk [7,6,0] ?_));refine ZJ (Zm (l:=[0,1]) rfl ?_);refine ZA ?_;refine YJ ?_;refine Zw (Zp (Y_pk [25,6,0] ?_))
  refine YC rfl (fun hc3=>?_) (fun hc3=>?_)
  ·replace hc3:=dT hc3
   simp only [ZI.eta,ZN.eta,ZK.eta,ZO.eta,Ys.eta,ZQ.eta,YO.eta,ZU.eta] at hc3
   refine Zm (l:=[0,1,2,3,4,5]) rfl ?_;refine ZA ?_;refine ZH F.lay28 ?_;refine Yf ?_;refine Zk F.foff68_0 ?_;refine Zk F.foff32_0 ?_;refine ZX F.lay28 ?_;refine Zw ?_
   refine Yg (.inl rfl) (.nil) (fun w hw=>?_)
   refine ⟨_,M1,[(bw,rowO (ZQ.segs ⟨⟨⟨⟨oa,oi⟩,⟨oq,oj⟩,⟨o1a,o1c,o1l⟩,⟨o2a,o2c,o2l⟩⟩,Zt,Zs,ZC,Zz,ZL,ZB,Zy,Zu,Zo,Zv,Zn,Zx,⟨Zr,Zq,Zl⟩,ZE,ZF⟩,⟨none,0,[]⟩⟩) 68)],rfl,hm1,hw.c,rfl,⟨⟨oa,oi⟩,⟨oq,oj⟩,⟨o1a,o1c,o1l⟩,⟨o2a,o2c,o2l⟩⟩,rfl,oko,?_⟩
   show _=WA (ZK.nd ⟨⟨⟨Za,Zb⟩,⟨Zf,Zh⟩,⟨Zj,Zi,Zg⟩,⟨Ze,Zd,Zc⟩⟩,Zt,Zs,ZC,Zz,ZL,ZB,Zy,Zu,Zo,Zv,Zn,Zx,⟨Zr,Zq,Zl⟩,ZE,ZF⟩) ⟨YX,p_id⟩ q_l
   unfold WA
   rw [show Vd (ZK.nd ⟨⟨⟨Za,Zb⟩,⟨Zf,Zh⟩,⟨Zj,Zi,Zg⟩,⟨Ze,Zd,Zc⟩⟩,Zt,Zs,ZC,Zz,ZL,ZB,Zy,Zu,Zo,Zv,Zn,Zx,⟨Zr,Zq,Zl⟩,ZE,ZF⟩).table ⟨YX,p_id⟩ q_l (ZK.nd ⟨⟨⟨Za,Zb⟩,⟨Zf,Zh⟩,⟨Zj,Zi,Zg⟩,⟨Ze,Zd,Zc⟩⟩,Zt,Zs,ZC,Zz,ZL,ZB,Zy,Zu,Zo,Zv,Zn,Zx,⟨Zr,Zq,Zl⟩,ZE,ZF⟩).copies=_ from hA]
   rw [if_pos (by show A2=0;omega),← hot];rfl
  ·replace hc3:=dF hc3
   simp only [ZI.eta,ZN.eta,ZK.eta,ZO.eta,Ys.eta,ZQ.eta,YO.eta,ZU.eta] at hc3
   refine YE ?_
   refine Yg (.inl rfl) (.nil) (fun w hw=>?_)
   refine ⟨_,M1,[(bw,rowO (ZQ.segs ⟨⟨⟨⟨Za,Zb⟩,⟨Zf,Zh⟩,⟨Zj,Zi,Zg⟩,⟨Ze,Zd,Zc⟩⟩,Zt,Zs,ZC,Zz,ZL,ZB,Zy,Zu,Zo,Zv,Zn,Zx,⟨Zr,Zq,Zl⟩,ZE,ZF⟩,⟨none,0,[]⟩⟩) 68)],rfl,hm1,hw.c,rfl,⟨⟨Za,Zb⟩,⟨Zf,Zh⟩,⟨Zj,Zi,Zg⟩,⟨Ze,Zd,Zc⟩⟩,rfl,Yt.mono hm1,?_⟩
   show _=WA (ZK.nd ⟨⟨⟨Za,Zb⟩,⟨Zf,Zh⟩,⟨Zj,Zi,Zg⟩,⟨Ze,Zd,Zc⟩⟩,Zt,Zs,ZC,Zz,ZL,ZB,Zy,Zu,Zo,Zv,Zn,Zx,⟨Zr,Zq,Zl⟩,ZE,ZF⟩) ⟨YX,p_id⟩ q_l
   unfold WA
   rw [show Vd (ZK.nd ⟨⟨⟨Za,Zb⟩,⟨Zf,Zh⟩,⟨Zj,Zi,Zg⟩,⟨Ze,Zd,Zc⟩⟩,Zt,Zs,ZC,Zz,ZL,ZB,Zy,Zu,Zo,Zv,Zn,Zx,⟨Zr,Zq,Zl⟩,ZE,ZF⟩).table ⟨YX,p_id⟩ q_l (ZK.nd ⟨⟨⟨Za,Zb⟩,⟨Zf,Zh⟩,⟨Zj,Zi,Zg⟩,⟨Ze,Zd,Zc⟩⟩,Zt,Zs,ZC,Zz,ZL,ZB,Zy,Zu,Zo,Zv,Zn,Zx,⟨Zr,Zq,Zl⟩,ZE,ZF⟩).copies=_ from hA]
   rw [if_neg (by show ¬A2=0;omega)]
theorem point_ok (M:Mem) (bw:Nat) (Za:Int) (Zb:Plc) (Zf:Int) (Zh:Plc) (Zj Ze Zr:Option Addr) (Zi Zd Zq:Nat) (Zg Zc:List ZI) (Zl:List Int) (Zt:Int) (Zs:Bool) (ZC Zz ZL ZB Zy Zu Zo Zv Zn:Int) (Zx:Plc) (ZE ZF:Int) (Yt:ZN.ok M ⟨⟨Za,Zb⟩,⟨Zf,Zh⟩,⟨Zj,Zi,Zg⟩,⟨Ze,Zd,Zc⟩⟩) (p:ZI):Fh Tryz.prog 87 [.pointer (some ⟨bw,0,none⟩),p.enc] M [(bw,rowO (ZQ.segs ⟨⟨⟨⟨Za,Zb⟩,⟨Zf,Zh⟩,⟨Zj,Zi,Zg⟩,⟨Ze,Zd,Zc⟩⟩,Zt,Zs,ZC,Zz,ZL,ZB,Zy,Zu,Zo,Zv,Zn,Zx,⟨Zr,Zq,Zl⟩,ZE,ZF⟩,⟨none,0,[]⟩⟩) 68)] (fun M' v Hout=>v=.tuple #[]∧∃ (t9:ZN) (c9:Int),Hout=[(bw,rowO (ZQ.segs ⟨⟨t9,Zt,Zs,ZC,c9,ZL,ZB,Zy,Zu,Zo,Zv,Zn,Zx,⟨Zr,Zq,Zl⟩,ZE,ZF⟩,⟨none,0,[]⟩⟩) 68)]∧ZN.ok M' t9∧ZK.nd ⟨t9,Zt,Zs,ZC,c9,ZL,ZB,Zy,Zu,Zo,Zv,Zn,Zx,⟨Zr,Zq,Zl⟩,ZE,ZF⟩=VX (ZK.nd ⟨⟨⟨Za,Zb⟩,⟨Zf,Zh⟩,⟨Zj,Zi,Zg⟩,⟨Ze,Zd,Zc⟩⟩,Zt,Zs,ZC,Zz,ZL,ZB,Zy,Zu,Zo,Zv,Zn,Zx,⟨Zr,Zq,Zl⟩,ZE,ZF⟩) p):=by
  obtain ⟨YX,p_id⟩:=p
  refine Wj (fun H=>(bw,rowO (ZQ.segs ⟨⟨⟨⟨Za,Zb⟩,⟨Zf,Zh⟩,⟨Zj,Zi,Zg⟩,⟨Ze,Zd,Zc⟩⟩,Zt,Zs,ZC,Zz,ZL,ZB,Zy,Zu,Zo,Zv,Zn,Zx,⟨Zr,Zq,Zl⟩,ZE,ZF⟩,⟨none,0,[]⟩⟩) 68)::H) (fun _=>by simp only [List.append_assoc,List.cons_append,List.nil_append]) Tryz.func87 rfl Tryz.ntmps87 rfl ?_;intro H
  refine ZJ (Zm (l:=[0]) rfl ?_)
  refine Xv ?_;intro b1
  refine Zw (Zp (Y_pk [3,0] ?_));refine ZJ (YL (l:=[0,1,2,3,4,5,6,7,8,9,10,11,12,13,14,15,16,17,18,19]) #[0,1,3,7,15,0,32,96,224,480,0,2047,4095,8191,8191,8191,0,81919,229375,524287] _ rfl (by kernel_rfl) (by kernel_rfl) St.drawn (fun _ h=>h) ?_);refine ZA ?_;refine Yf ?_;refine Zk F.foff68_0 ?_;refine Zk F.foff32_0 ?_;refine ZH F.lay28 ?_;refine ZA ?_;refine Yf ?_;refine Zk F.foff68_0 ?_;refine Zk F.foff32_4 ?_;refine ZH F.lay3 ?_;refine ZH F.lay25 ?_;refine X_fn rfl rfl F.ok125 rfl (Point_ok _ ⟨⟨Za,Zb⟩,⟨Zf,Zh⟩,⟨Zj,Zi,Zg⟩,⟨Ze,Zd,Zc⟩⟩ Zz ⟨YX,p_id⟩ Yt) rfl ?_
  rintro _ M1 hm1 hv
  replace hv:TabPE _ _ (WN (ZN.tb ⟨⟨Za,Zb⟩,⟨Zf,Zh⟩,⟨Zj,Zi,Zg⟩,⟨Ze,Zd,Zc⟩⟩) Zz ⟨YX,p_id⟩):=hv
  obtain ⟨⟨A1,A2,A3⟩,hA⟩:∃ x,WN (ZN.tb ⟨⟨Za,Zb⟩,⟨Zf,Zh⟩,⟨Zj,Zi,Zg⟩,⟨Ze,Zd,Zc⟩⟩) Zz ⟨YX,p_id⟩=x:=⟨_,rfl⟩
  rw [hA] at hv
  obtain ⟨_,rfl,⟨⟨oa,oi⟩,⟨oq,oj⟩,⟨o1a,o1c,o1l⟩,⟨o2a,o2c,o2l⟩⟩,rfl,hot,oko⟩:=hv
  simp only at hot
  refine ZA ?_
  iterate 3 refine XF ?_
  refine YQ F.zero28 ?_;intro b2
  refine ZX F.lay28 ?_
  iterate 2 refine ZD ?_
  refine Zw (Zp (Y_pk [6,5,4,0] ?_));refine ZJ (Zm (l:=[0,1]) rfl ?_);refine ZA ?_;refine YJ ?_;refine Zw (Zp (Y_pk [24,5,4,0] ?_))
  refine YC rfl (fun hc3=>?_) (fun hc3=>?_)
  ·replace hc3:=dT hc3
   simp only [ZI.eta,ZN.eta,ZK.eta,ZO.eta,Ys.eta,ZQ.eta,YO.eta,ZU.eta] at hc3
   refine Zm (l:=[0,1,2,3,4,5,6,7,8,9,10,11]) rfl ?_
   iterate 2 refine ZA ?_
   refine ZH F.lay28 ?_;refine ZA ?_;refine Yf ?_;refine Zk F.foff68_0 ?_;refine Zk F.foff32_0 ?_;refine ZX F.lay28 ?_;refine Yf ?_;refine Zk F.foff68_0 ?_;refine Zk F.foff32_4 ?_;refine ZX F.lay3 ?_;refine Zw ?_
   refine Yg (.inl rfl) (.nil) (fun w hw=>?_)
   refine ⟨_,M1,[(bw,rowO (ZQ.segs ⟨⟨⟨⟨oa,oi⟩,⟨oq,oj⟩,⟨o1a,o1c,o1l⟩,⟨o2a,o2c,o2l⟩⟩,Zt,Zs,ZC,A2,ZL,ZB,Zy,Zu,Zo,Zv,Zn,Zx,⟨Zr,Zq,Zl⟩,ZE,ZF⟩,⟨none,0,[]⟩⟩) 68)],rfl,hm1,hw.c,rfl,⟨⟨oa,oi⟩,⟨oq,oj⟩,⟨o1a,o1c,o1l⟩,⟨o2a,o2c,o2l⟩⟩,A2,rfl,oko,?_⟩
   show _=VX (ZK.nd ⟨⟨⟨Za,Zb⟩,⟨Zf,Zh⟩,⟨Zj,Zi,Zg⟩,⟨Ze,Zd,Zc⟩⟩,Zt,Zs,ZC,Zz,ZL,ZB,Zy,Zu,Zo,Zv,Zn,Zx,⟨Zr,Zq,Zl⟩,ZE,ZF⟩) ⟨YX,p_id⟩
   unfold VX
   rw [show WN (ZK.nd ⟨⟨⟨Za,Zb⟩,⟨Zf,Zh⟩,⟨Zj,Zi,Zg⟩,⟨Ze,Zd,Zc⟩⟩,Zt,Zs,ZC,Zz,ZL,ZB,Zy,Zu,Zo,Zv,Zn,Zx,⟨Zr,Zq,Zl⟩,ZE,ZF⟩).table (ZK.nd ⟨⟨⟨Za,Zb⟩,⟨Zf,Zh⟩,⟨Zj,Zi,Zg⟩,⟨Ze,Zd,Zc⟩⟩,Zt,Zs,ZC,Zz,ZL,ZB,Zy,Zu,Zo,Zv,Zn,Zx,⟨Zr,Zq,Zl⟩,ZE,ZF⟩).cursor ⟨YX,p_id⟩=_ from hA]
   rw [if_pos (by show A3=0;omega),← hot];rfl
  ·replace hc3:=dF hc3
   simp only [ZI.eta,ZN.eta,ZK.eta,ZO.eta,Ys.eta,ZQ.eta,YO.eta,ZU.eta] at hc3
   refine YE ?_
   refine Yg (.inl rfl) (.nil) (fun w hw=>?_)
   refine ⟨_,M1,[(bw,rowO (ZQ.segs ⟨⟨⟨⟨Za,Zb⟩,⟨Zf,Zh⟩,⟨Zj,Zi,Zg⟩,⟨Ze,Zd,Zc⟩⟩,Zt,Zs,ZC,Zz,ZL,ZB,Zy,Zu,Zo,Zv,Zn,Zx,⟨Zr,Zq,Zl⟩,ZE,ZF⟩,⟨none,0,[]⟩⟩) 68)],rfl,hm1,hw.c,rfl,⟨⟨Za,Zb⟩,⟨Zf,Zh⟩,⟨Zj,Zi,Zg⟩,⟨Ze,Zd,Zc⟩⟩,Zz,rfl,Yt.mono hm1,?_⟩
   show _=VX (ZK.nd ⟨⟨⟨Za,Zb⟩,⟨Zf,Zh⟩,⟨Zj,Zi,Zg⟩,⟨Ze,Zd,Zc⟩⟩,Zt,Zs,ZC,Zz,ZL,ZB,Zy,Zu,Zo,Zv,Zn,Zx,⟨Zr,Zq,Zl⟩,ZE,ZF⟩) ⟨YX,p_id⟩
   unfold VX
   rw [show WN (ZK.nd ⟨⟨⟨Za,Zb⟩,⟨Zf,Zh⟩,⟨Zj,Zi,Zg⟩,⟨Ze,Zd,Zc⟩⟩,Zt,Zs,ZC,Zz,ZL,ZB,Zy,Zu,Zo,Zv,Zn,Zx,⟨Zr,Zq,Zl⟩,ZE,ZF⟩).table (ZK.nd ⟨⟨⟨Za,Zb⟩,⟨Zf,Zh⟩,⟨Zj,Zi,Zg⟩,⟨Ze,Zd,Zc⟩⟩,Zt,Zs,ZC,Zz,ZL,ZB,Zy,Zu,Zo,Zv,Zn,Zx,⟨Zr,Zq,Zl⟩,ZE,ZF⟩).cursor ⟨YX,p_id⟩=_ from hA]
   rw [if_neg (by show ¬A3=0;omega)]
theorem wother_ok (M:Mem) (bw:Nat) (Za:Int) (Zb:Plc) (Zf:Int) (Zh:Plc) (Zj Ze Zr:Option Addr) (Zi Zd Zq:Nat) (Zg Zc:List ZI) (Zl:List Int) (Zt:Int) (Zs:Bool) (ZC Zz ZL ZB Zy Zu Zo Zv Zn:Int) (Zx:Plc) (ZE ZF:Int) (p:ZI):Fo Tryz.prog 53 [.pointer (some ⟨bw,0,none⟩),p.enc] M [(bw,rowO (ZQ.segs ⟨⟨⟨⟨Za,Zb⟩,⟨Zf,Zh⟩,⟨Zj,Zi,Zg⟩,⟨Ze,Zd,Zc⟩⟩,Zt,Zs,ZC,Zz,ZL,ZB,Zy,Zu,Zo,Zv,Zn,Zx,⟨Zr,Zq,Zl⟩,ZE,ZF⟩,⟨none,0,[]⟩⟩) 68)] (fun M' v=>M'=M∧v=.bool (decide (XU ⟨Za,Zb⟩ p))):=by
  obtain ⟨YX,p_id⟩:=p
  refine Vo Tryz.func53 rfl Tryz.ntmps53 rfl ?_;intro H
  refine ZJ (Zm (l:=[0,1]) rfl ?_)
  refine Xv ?_;intro b1
  refine ZD ?_;refine Zw (Zp (Y_pk [4,3,0] ?_));refine ZJ (Zm (l:=[0,1,2,3,4,5,6,7]) rfl ?_);refine ZA ?_;refine Yf ?_;refine Zk F.foff68_0 ?_;refine Zk F.foff32_0 ?_;refine Zk F.foff28_0 ?_;refine ZH F.lay25 ?_
  refine YQ F.zero25 ?_;intro b2
  refine ZX F.lay25 ?_;refine Zw (Zp (Y_pk [5,4,3] ?_));refine ZJ (Zm (l:=[0,1,2,3,4,5,6,7,8,9,10,11,12,13,14,15,16,17,18,19,20,21,22]) rfl ?_);refine Zk F.foff25_0 ?_;refine ZH F.lay3 ?_;refine YJ ?_;refine ZA ?_
  refine Yw 15 rfl (fun hc3=>?_) (fun hc3=>?_)
  ·replace hc3:=dT hc3
   refine Zk F.foff25_0 ?_;refine ZH F.lay3 ?_;refine YJ ?_;refine ZM ?_;refine ZA ?_
   refine Yw 20 rfl (fun hc4=>?_) (fun hc4=>?_)
   ·replace hc4:=dT hc4
    refine Zk F.foff25_0 ?_;refine ZH F.lay3 ?_;refine Zk F.foff25_0 ?_;refine ZH F.lay3 ?_;refine YJ ?_;refine ZM ?_;refine ZA ?_
    refine Yw 27 rfl (fun hc5=>?_) (fun hc5=>?_)
    ·replace hc5:=nT hc5
     refine Zk F.foff25_1 ?_;refine ZH F.lay23 ?_;refine Zk F.foff25_1 ?_;refine ZH F.lay23 ?_
     refine WI (m:=20) rfl rfl rfl rfl rfl (by constructor) (by constructor) F.lay23 F.kinds23 rfl F.guard23 (Vc WJ) (Vc WJ) rfl rfl rfl ?_;intro c6 he7
     replace he7:c6=true↔¬(Segs.cells _=Segs.cells _):=he7
     obtain rfl:=neD he7 (Vn (x:=_) (y:=_));clear he7
     refine ZM ?_;refine ZD ?_;refine Zw (Zp (Y_pk [4] ?_));refine Yq ?_
     refine Yg (.inr rfl) (.tmp rfl .nil) (fun w hw=>?_)
     refine ⟨_,M,rfl,Mem.le.refl M,hw.c,rfl,?_⟩
     clear hw
     refine congrArg Value.bool ?_
     (simp_all [XU,Xf];done)
    ·replace hc5:=nF hc5
     iterate 5 refine ZY ?_
     refine ZM ?_;refine ZD ?_;refine Zw (Zp (Y_pk [4] ?_));refine Yq ?_
     refine Yg (.inr rfl) (.tmp rfl .nil) (fun w hw=>?_)
     refine ⟨_,M,rfl,Mem.le.refl M,hw.c,rfl,?_⟩
     clear hw
     refine congrArg Value.bool ?_
     exact (decide_eq_false (fun h9=>by obtain ⟨⟨h1,h2⟩,h3,h4⟩:=h9;simp only at h1 h2 h3 h4;first|omega|contradiction)).symm
   ·replace hc4:=dF hc4
    iterate 5 refine ZY ?_
    refine ZM ?_;refine ZA ?_
    iterate 5 refine ZY ?_
    refine ZM ?_;refine ZD ?_;refine Zw (Zp (Y_pk [4] ?_));refine Yq ?_
    refine Yg (.inr rfl) (.tmp rfl .nil) (fun w hw=>?_)
    refine ⟨_,M,rfl,Mem.le.refl M,hw.c,rfl,?_⟩
    clear hw
    refine congrArg Value.bool ?_
    exact (decide_eq_false (fun h9=>by obtain ⟨⟨h1,h2⟩,h3,h4⟩:=h9;simp only at h1 h2 h3 h4;first|omega|contradiction)).symm
  ·replace hc3:=dF hc3
   iterate 3 refine ZY ?_
   refine ZM ?_;refine ZA ?_
   iterate 5 refine ZY ?_
   refine ZM ?_;refine ZA ?_
   iterate 5 refine ZY ?_
   refine ZM ?_;refine ZD ?_;refine Zw (Zp (Y_pk [4] ?_));refine Yq ?_
   refine Yg (.inr rfl) (.tmp rfl .nil) (fun w hw=>?_)
   refine ⟨_,M,rfl,Mem.le.refl M,hw.c,rfl,?_⟩
   clear hw
   refine congrArg Value.bool ?_
   exact (decide_eq_false (fun h9=>by obtain ⟨⟨h1,h2⟩,h3,h4⟩:=h9;simp only at h1 h2 h3 h4;first|omega|contradiction)).symm
end Go.Proofs.YtajmnjefajknoaaGreat
namespace Go.Proofs.YtajmnjefajknoaaGreat
open Go.Esp
theorem F.ok80:okFn Tryz.prog 80=true:=by kernel_rfl
theorem F.ok81:okFn Tryz.prog 81=true:=by kernel_rfl
theorem F.ok82:okFn Tryz.prog 82=true:=by kernel_rfl
theorem F.ok84:okFn Tryz.prog 84=true:=by kernel_rfl
theorem F.ok89:okFn Tryz.prog 89=true:=by kernel_rfl
theorem join_ok (M:Mem) (bw:Nat) (Za:Int) (Zb:Plc) (Zf:Int) (Zh:Plc) (Zj Ze Zr:Option Addr) (Zi Zd Zq:Nat) (Zg Zc:List ZI) (Zl:List Int) (Zt:Int) (Zs:Bool) (ZC Zz ZL ZB Zy Zu Zo Zv Zn:Int) (Zx:Plc) (ZE ZF:Int) (Yt:ZN.ok M ⟨⟨Za,Zb⟩,⟨Zf,Zh⟩,⟨Zj,Zi,Zg⟩,⟨Ze,Zd,Zc⟩⟩) (hav:Hp) (hA:OSl 3 1 (.slice Zr Zl.length Zq) hav (Zl.map (oneI .i64))) (hLa:Zl.length≤900) (hj:Zs=false):Fh Tryz.prog 80 [.pointer (some ⟨bw,0,none⟩)] M ((bw,rowO (ZQ.segs ⟨⟨⟨⟨Za,Zb⟩,⟨Zf,Zh⟩,⟨Zj,Zi,Zg⟩,⟨Ze,Zd,Zc⟩⟩,Zt,Zs,ZC,Zz,ZL,ZB,Zy,Zu,Zo,Zv,Zn,Zx,⟨Zr,Zq,Zl⟩,ZE,ZF⟩,⟨none,0,[]⟩⟩) 68)::hav) (fun M' v Hout=>v=.tuple #[]∧WkF bw 68 M' Hout (UC (ZK.nd ⟨⟨⟨Za,Zb⟩,⟨Zf,Zh⟩,⟨Zj,Zi,Zg⟩,⟨Ze,Zd,Zc⟩⟩,Zt,Zs,ZC,Zz,ZL,ZB,Zy,Zu,Zo,Zv,Zn,Zx,⟨Zr,Zq,Zl⟩,ZE,ZF⟩))):=by
  refine Wj (fun H=>(bw,rowO (ZQ.segs ⟨⟨⟨⟨Za,Zb⟩,⟨Zf,Zh⟩,⟨Zj,Zi,Zg⟩,⟨Ze,Zd,Zc⟩⟩,Zt,Zs,ZC,Zz,ZL,ZB,Zy,Zu,Zo,Zv,Zn,Zx,⟨Zr,Zq,Zl⟩,ZE,ZF⟩,⟨none,0,[]⟩⟩) 68)::(hav++H)) (fun _=>by simp only [List.append_assoc,List.cons_append,List.nil_append]) Tryz.func80 rfl Tryz.ntmps80 rfl ?_;intro H
  iterate 2 refine ZJ ?_
  refine YL (l:=[0,1,2,3,4,5,6,7,8,9,10,11,12,13,14,15,16,17,18]) #[0,1,3,7,15,31,63,127,255,511,1023,2047,127,4223,12415,28799,61567,131071,262143] _ rfl (by kernel_rfl) (by kernel_rfl) St.drawn (fun _ h=>h) ?_;refine ZA ?_;refine Yf ?_;refine Zk F.foff68_0 ?_;refine Zk F.foff32_10 ?_;refine ZH F.lay3 ?_;refine YJ ?_;refine ZA ?_
  refine Yw 8 rfl (fun hc1=>?_) (fun hc1=>?_)
  ·replace hc1:=nT hc1
   refine ZA ?_;refine Yf ?_;refine Zk F.foff68_0 ?_;refine Zk F.foff32_10 ?_;refine ZH F.lay3 ?_;refine ZA ?_;refine Yf ?_;refine Zk F.foff68_0 ?_;refine Zk F.foff32_3 ?_;refine ZH F.lay3 ?_;refine YJ ?_;refine ZM ?_;refine Zw (Zp (Y_pk [20,0] ?_))
   refine YC rfl (fun hc2=>?_) (fun hc2=>?_)
   ·replace hc2:=nT hc2
    refine XW (l:=[0,1,2,3,4,5,6]) [6] rfl ?_
    iterate 2 refine ZA ?_
    refine Yf ?_;refine Zk F.foff68_0 ?_;refine Zk F.foff32_10 ?_;refine ZH F.lay3 ?_;refine Vg rfl rfl rfl F.ok84 rfl (shun_ok M bw _ _ _ _ _ _ _ _ _ _ _ _ _ _ _ _ _ _ _ _ _ _ _ _ _ _ _ hav hA (by omega) Zv) (by repeat first|exact Rem.here _|exact Rem.two|apply Rem.skip|apply Rem.over) (YN rfl) ?_
    rintro _ M1 hs1 hm1 ⟨hM1,rfl,⟨s_a,s_c,s_l⟩,hs9,rfl,ho9,hl9⟩
    subst M1
    simp only [Sl.val] at ho9
    simp only at hl9
    have hLs:s_l.length≤901:=shun_len hl9 hLa
    simp only [List.append_assoc,List.cons_append,List.nil_append]
    refine Zw (WE ?_);refine Zp (Y_pk [0] ?_);refine ZJ ?_
    refine Un ho9 (by repeat first|exact Rem.here _|exact Rem.two|apply Rem.skip|apply Rem.over) (fun M2 hM2 k9=>?_)
    refine Zm (l:=[0,1,2,3,4,5,6,7,8,9,10,11,12,13,14,15,16]) rfl ?_
    iterate 3 refine ZA ?_
    refine Yf ?_;refine Zk F.foff68_0 ?_;refine Zk F.foff32_0 ?_;refine Zk F.foff28_0 ?_;refine Zk F.foff25_1 ?_;refine ZH F.lay23 ?_;refine Yf ?_;refine Zk F.foff68_0 ?_;refine Zk F.foff32_12 ?_;refine ZX F.lay23 ?_;refine Yf ?_;refine Zk F.foff68_0 ?_;refine Zk F.foff32_14 ?_;refine ZX F.lay3 ?_;refine Zw (Zp (Y_pk [0] ?_));refine XW (l:=[0,1,2,3,4,5,6]) [6] rfl ?_
    iterate 2 refine ZA ?_
    refine Yf ?_;refine Zk F.foff68_0 ?_;refine Zk F.foff32_3 ?_;refine ZH F.lay3 ?_;refine Vg rfl rfl rfl F.ok89 rfl (seek_ok M2 bw _ _ _ _ _ _ _ _ _ _ _ _ _ _ _ _ _ _ _ _ _ _ _ _ _ _ _ (Yt.mono hM2) k9 (by omega) ZC) (by repeat first|exact Rem.here _|exact Rem.two|apply Rem.skip|apply Rem.over) (YN rfl) ?_
    rintro _ M3 hs3 hm3 ⟨rfl,⟨⟨⟨Yc,Yp⟩,⟨Yh,Yu⟩,⟨YA,Yz,Ye⟩,⟨Yk,Yj,Yi⟩⟩,Xn,Xo,XI,Xm,XX,Xx,Xp,Xj,YY,Xk,YZ,Xl,⟨Xc,Xb,Xa⟩,XH,XG⟩,⟨o_a,o_c,o_l⟩,rfl,hv1,hv2,okv,oko,okq⟩
    simp only [List.append_assoc,List.cons_append,List.nil_append]
    refine Zw (WE ?_)
    refine Yg (.inl rfl) (.nil) (fun w hw=>?_)
    have h3:=stab_alone (n:=ZK.nd ⟨⟨⟨Za,Zb⟩,⟨Zf,Zh⟩,⟨Zj,Zi,Zg⟩,⟨Ze,Zd,Zc⟩⟩,Zt,Zs,ZC,Zz,ZL,ZB,Zy,Zu,Zo,Zv,Zn,Zx,⟨Zr,Zq,Zl⟩,ZE,ZF⟩) (l:=s_l) (show Zs=false from hj) (by rw [if_pos (show (ZK.nd ⟨⟨⟨Za,Zb⟩,⟨Zf,Zh⟩,⟨Zj,Zi,Zg⟩,⟨Ze,Zd,Zc⟩⟩,Zt,Zs,ZC,Zz,ZL,ZB,Zy,Zu,Zo,Zv,Zn,Zx,⟨Zr,Zq,Zl⟩,ZE,ZF⟩).findTo≠-1∧(ZK.nd ⟨⟨⟨Za,Zb⟩,⟨Zf,Zh⟩,⟨Zj,Zi,Zg⟩,⟨Ze,Zd,Zc⟩⟩,Zt,Zs,ZC,Zz,ZL,ZB,Zy,Zu,Zo,Zv,Zn,Zx,⟨Zr,Zq,Zl⟩,ZE,ZF⟩).findTo≠(ZK.nd ⟨⟨⟨Za,Zb⟩,⟨Zf,Zh⟩,⟨Zj,Zi,Zg⟩,⟨Ze,Zd,Zc⟩⟩,Zt,Zs,ZC,Zz,ZL,ZB,Zy,Zu,Zo,Zv,Zn,Zx,⟨Zr,Zq,Zl⟩,ZE,ZF⟩).boot from (show Zv≠-1∧Zv≠ZC by constructor <;> first|assumption|omega))];exact hl9)
    exact ⟨_,M3,[(bw,rowO (ZQ.segs ⟨⟨⟨⟨Yc,Yp⟩,⟨Yh,Yu⟩,⟨YA,Yz,Ye⟩,⟨Yk,Yj,Yi⟩⟩,Xn,Xo,XI,Xm,XX,Xx,Xp,Xj,YY,Xk,YZ,Xl,⟨Xc,Xb,Xa⟩,XH,XG⟩,⟨o_a,o_c,o_l⟩⟩) 68)],rfl,(hM2.trans hm3),hw.c,rfl,⟨⟨⟨Yc,Yp⟩,⟨Yh,Yu⟩,⟨YA,Yz,Ye⟩,⟨Yk,Yj,Yi⟩⟩,Xn,Xo,XI,Xm,XX,Xx,Xp,Xj,YY,Xk,YZ,Xl,⟨Xc,Xb,Xa⟩,XH,XG⟩,⟨o_a,o_c,o_l⟩,rfl,by rw [h3];exact hv1,by rw [h3];exact hv2,okv,oko,okq⟩
   ·replace hc2:=nF hc2
    refine YE (Zp (Y_pk [0] ?_));refine ZJ ?_
    refine Un hA (by repeat first|exact Rem.here _|exact Rem.two|apply Rem.skip|apply Rem.over) (fun M2 hM2 k9=>?_)
    refine Zm (l:=[0,1,2,3,4,5,6,7,8,9,10,11,12,13,14,15,16]) rfl ?_
    iterate 3 refine ZA ?_
    refine Yf ?_;refine Zk F.foff68_0 ?_;refine Zk F.foff32_0 ?_;refine Zk F.foff28_0 ?_;refine Zk F.foff25_1 ?_;refine ZH F.lay23 ?_;refine Yf ?_;refine Zk F.foff68_0 ?_;refine Zk F.foff32_12 ?_;refine ZX F.lay23 ?_;refine Yf ?_;refine Zk F.foff68_0 ?_;refine Zk F.foff32_14 ?_;refine ZX F.lay3 ?_;refine Zw (Zp (Y_pk [0] ?_));refine XW (l:=[0,1,2,3,4,5,6]) [6] rfl ?_
    iterate 2 refine ZA ?_
    refine Yf ?_;refine Zk F.foff68_0 ?_;refine Zk F.foff32_3 ?_;refine ZH F.lay3 ?_;refine Vg rfl rfl rfl F.ok89 rfl (seek_ok M2 bw _ _ _ _ _ _ _ _ _ _ _ _ _ _ _ _ _ _ _ _ _ _ _ _ _ _ _ (Yt.mono hM2) k9 (by omega) ZC) (by repeat first|exact Rem.here _|exact Rem.two|apply Rem.skip|apply Rem.over) (YN rfl) ?_
    rintro _ M3 hs3 hm3 ⟨rfl,⟨⟨⟨Yc,Yp⟩,⟨Yh,Yu⟩,⟨YA,Yz,Ye⟩,⟨Yk,Yj,Yi⟩⟩,Xn,Xo,XI,Xm,XX,Xx,Xp,Xj,YY,Xk,YZ,Xl,⟨Xc,Xb,Xa⟩,XH,XG⟩,⟨o_a,o_c,o_l⟩,rfl,hv1,hv2,okv,oko,okq⟩
    simp only [List.append_assoc,List.cons_append,List.nil_append]
    refine Zw (WE ?_)
    refine Yg (.inl rfl) (.nil) (fun w hw=>?_)
    have h3:=stab_alone (n:=ZK.nd ⟨⟨⟨Za,Zb⟩,⟨Zf,Zh⟩,⟨Zj,Zi,Zg⟩,⟨Ze,Zd,Zc⟩⟩,Zt,Zs,ZC,Zz,ZL,ZB,Zy,Zu,Zo,Zv,Zn,Zx,⟨Zr,Zq,Zl⟩,ZE,ZF⟩) (l:=Zl) (show Zs=false from hj) (by rw [if_neg (show ¬((ZK.nd ⟨⟨⟨Za,Zb⟩,⟨Zf,Zh⟩,⟨Zj,Zi,Zg⟩,⟨Ze,Zd,Zc⟩⟩,Zt,Zs,ZC,Zz,ZL,ZB,Zy,Zu,Zo,Zv,Zn,Zx,⟨Zr,Zq,Zl⟩,ZE,ZF⟩).findTo≠-1∧(ZK.nd ⟨⟨⟨Za,Zb⟩,⟨Zf,Zh⟩,⟨Zj,Zi,Zg⟩,⟨Ze,Zd,Zc⟩⟩,Zt,Zs,ZC,Zz,ZL,ZB,Zy,Zu,Zo,Zv,Zn,Zx,⟨Zr,Zq,Zl⟩,ZE,ZF⟩).findTo≠(ZK.nd ⟨⟨⟨Za,Zb⟩,⟨Zf,Zh⟩,⟨Zj,Zi,Zg⟩,⟨Ze,Zd,Zc⟩⟩,Zt,Zs,ZC,Zz,ZL,ZB,Zy,Zu,Zo,Zv,Zn,Zx,⟨Zr,Zq,Zl⟩,ZE,ZF⟩).boot) from (show ¬(Zv≠-1∧Zv≠ZC) by first|assumption|omega))];rfl)
    exact ⟨_,M3,[(bw,rowO (ZQ.segs ⟨⟨⟨⟨Yc,Yp⟩,⟨Yh,Yu⟩,⟨YA,Yz,Ye⟩,⟨Yk,Yj,Yi⟩⟩,Xn,Xo,XI,Xm,XX,Xx,Xp,Xj,YY,Xk,YZ,Xl,⟨Xc,Xb,Xa⟩,XH,XG⟩,⟨o_a,o_c,o_l⟩⟩) 68)],rfl,(hM2.trans hm3),hw.c,rfl,⟨⟨⟨Yc,Yp⟩,⟨Yh,Yu⟩,⟨YA,Yz,Ye⟩,⟨Yk,Yj,Yi⟩⟩,Xn,Xo,XI,Xm,XX,Xx,Xp,Xj,YY,Xk,YZ,Xl,⟨Xc,Xb,Xa⟩,XH,XG⟩,⟨o_a,o_c,o_l⟩,rfl,by rw [h3];exact hv1,by rw [h3];exact hv2,okv,oko,okq⟩
  ·replace hc1:=nF hc1
   iterate 11 refine ZY ?_
   refine ZM ?_;refine Zw (Zp (Y_pk [20,0] ?_));refine Wz rfl ?_;refine YE (Zp (Y_pk [0] ?_));refine ZJ ?_
   refine Un hA (by repeat first|exact Rem.here _|exact Rem.two|apply Rem.skip|apply Rem.over) (fun M2 hM2 k9=>?_)
   refine Zm (l:=[0,1,2,3,4,5,6,7,8,9,10,11,12,13,14,15,16]) rfl ?_
   iterate 3 refine ZA ?_
   refine Yf ?_;refine Zk F.foff68_0 ?_;refine Zk F.foff32_0 ?_;refine Zk F.foff28_0 ?_;refine Zk F.foff25_1 ?_;refine ZH F.lay23 ?_;refine Yf ?_;refine Zk F.foff68_0 ?_;refine Zk F.foff32_12 ?_;refine ZX F.lay23 ?_;refine Yf ?_;refine Zk F.foff68_0 ?_;refine Zk F.foff32_14 ?_;refine ZX F.lay3 ?_;refine Zw (Zp (Y_pk [0] ?_));refine XW (l:=[0,1,2,3,4,5,6]) [6] rfl ?_
   iterate 2 refine ZA ?_
   refine Yf ?_;refine Zk F.foff68_0 ?_;refine Zk F.foff32_3 ?_;refine ZH F.lay3 ?_;refine Vg rfl rfl rfl F.ok89 rfl (seek_ok M2 bw _ _ _ _ _ _ _ _ _ _ _ _ _ _ _ _ _ _ _ _ _ _ _ _ _ _ _ (Yt.mono hM2) k9 (by omega) ZC) (by repeat first|exact Rem.here _|exact Rem.two|apply Rem.skip|apply Rem.over) (YN rfl) ?_
   rintro _ M3 hs3 hm3 ⟨rfl,⟨⟨⟨Yc,Yp⟩,⟨Yh,Yu⟩,⟨YA,Yz,Ye⟩,⟨Yk,Yj,Yi⟩⟩,Xn,Xo,XI,Xm,XX,Xx,Xp,Xj,YY,Xk,YZ,Xl,⟨Xc,Xb,Xa⟩,XH,XG⟩,⟨o_a,o_c,o_l⟩,rfl,hv1,hv2,okv,oko,okq⟩
   simp only [List.append_assoc,List.cons_append,List.nil_append]
   refine Zw (WE ?_)
   refine Yg (.inl rfl) (.nil) (fun w hw=>?_)
   have h3:=stab_alone (n:=ZK.nd ⟨⟨⟨Za,Zb⟩,⟨Zf,Zh⟩,⟨Zj,Zi,Zg⟩,⟨Ze,Zd,Zc⟩⟩,Zt,Zs,ZC,Zz,ZL,ZB,Zy,Zu,Zo,Zv,Zn,Zx,⟨Zr,Zq,Zl⟩,ZE,ZF⟩) (l:=Zl) (show Zs=false from hj) (by rw [if_neg (show ¬((ZK.nd ⟨⟨⟨Za,Zb⟩,⟨Zf,Zh⟩,⟨Zj,Zi,Zg⟩,⟨Ze,Zd,Zc⟩⟩,Zt,Zs,ZC,Zz,ZL,ZB,Zy,Zu,Zo,Zv,Zn,Zx,⟨Zr,Zq,Zl⟩,ZE,ZF⟩).findTo≠-1∧(ZK.nd ⟨⟨⟨Za,Zb⟩,⟨Zf,Zh⟩,⟨Zj,Zi,Zg⟩,⟨Ze,Zd,Zc⟩⟩,Zt,Zs,ZC,Zz,ZL,ZB,Zy,Zu,Zo,Zv,Zn,Zx,⟨Zr,Zq,Zl⟩,ZE,ZF⟩).findTo≠(ZK.nd ⟨⟨⟨Za,Zb⟩,⟨Zf,Zh⟩,⟨Zj,Zi,Zg⟩,⟨Ze,Zd,Zc⟩⟩,Zt,Zs,ZC,Zz,ZL,ZB,Zy,Zu,Zo,Zv,Zn,Zx,⟨Zr,Zq,Zl⟩,ZE,ZF⟩).boot) from (show ¬(Zv≠-1∧Zv≠ZC) by first|assumption|omega))];rfl)
   exact ⟨_,M3,[(bw,rowO (ZQ.segs ⟨⟨⟨⟨Yc,Yp⟩,⟨Yh,Yu⟩,⟨YA,Yz,Ye⟩,⟨Yk,Yj,Yi⟩⟩,Xn,Xo,XI,Xm,XX,Xx,Xp,Xj,YY,Xk,YZ,Xl,⟨Xc,Xb,Xa⟩,XH,XG⟩,⟨o_a,o_c,o_l⟩⟩) 68)],rfl,(hM2.trans hm3),hw.c,rfl,⟨⟨⟨Yc,Yp⟩,⟨Yh,Yu⟩,⟨YA,Yz,Ye⟩,⟨Yk,Yj,Yi⟩⟩,Xn,Xo,XI,Xm,XX,Xx,Xp,Xj,YY,Xk,YZ,Xl,⟨Xc,Xb,Xa⟩,XH,XG⟩,⟨o_a,o_c,o_l⟩,rfl,by rw [h3];exact hv1,by rw [h3];exact hv2,okv,oko,okq⟩
theorem stab_ok (M:Mem) (bw:Nat) (Za:Int) (Zb:Plc) (Zf:Int) (Zh:Plc) (Zj Ze Zr:Option Addr) (Zi Zd Zq:Nat) (Zg Zc:List ZI) (Zl:List Int) (Zt:Int) (Zs:Bool) (ZC Zz ZL ZB Zy Zu Zo Zv Zn:Int) (Zx:Plc) (ZE ZF:Int) (Yt:ZN.ok M ⟨⟨Za,Zb⟩,⟨Zf,Zh⟩,⟨Zj,Zi,Zg⟩,⟨Ze,Zd,Zc⟩⟩) (hbig:Zg.length≤40∧Zc.length≤200) (hav:Hp) (hA:OSl 3 1 (.slice Zr Zl.length Zq) hav (Zl.map (oneI .i64))) (hLa:Zl.length≤900):Fh Tryz.prog 33 [.pointer (some ⟨bw,0,none⟩)] M ((bw,rowO (ZQ.segs ⟨⟨⟨⟨Za,Zb⟩,⟨Zf,Zh⟩,⟨Zj,Zi,Zg⟩,⟨Ze,Zd,Zc⟩⟩,Zt,Zs,ZC,Zz,ZL,ZB,Zy,Zu,Zo,Zv,Zn,Zx,⟨Zr,Zq,Zl⟩,ZE,ZF⟩,⟨none,0,[]⟩⟩) 68)::hav) (fun M' v Hout=>v=.tuple #[]∧WkF bw 68 M' Hout (UC (ZK.nd ⟨⟨⟨Za,Zb⟩,⟨Zf,Zh⟩,⟨Zj,Zi,Zg⟩,⟨Ze,Zd,Zc⟩⟩,Zt,Zs,ZC,Zz,ZL,ZB,Zy,Zu,Zo,Zv,Zn,Zx,⟨Zr,Zq,Zl⟩,ZE,ZF⟩))):=by
  refine Wj (fun H=>(bw,rowO (ZQ.segs ⟨⟨⟨⟨Za,Zb⟩,⟨Zf,Zh⟩,⟨Zj,Zi,Zg⟩,⟨Ze,Zd,Zc⟩⟩,Zt,Zs,ZC,Zz,ZL,ZB,Zy,Zu,Zo,Zv,Zn,Zx,⟨Zr,Zq,Zl⟩,ZE,ZF⟩,⟨none,0,[]⟩⟩) 68)::(hav++H)) (fun _=>by simp only [List.append_assoc,List.cons_append,List.nil_append]) Tryz.func33 rfl Tryz.ntmps33 rfl ?_;intro H
  iterate 2 refine ZJ ?_
  refine Zm (l:=[0,1,2,3,4,5]) rfl ?_;refine ZA ?_;refine Yf ?_;refine Zk F.foff68_0 ?_;refine Zk F.foff32_2 ?_;refine ZH F.lay4 ?_;refine XP ?_;refine Zw (Zp (Y_pk [7,0] ?_))
  refine YC rfl (fun hc1=>?_) (fun hc1=>?_)
  ·skip
   refine ZJ (XW (l:=[0,1]) [1] rfl ?_);refine ZA ?_;refine Vg rfl rfl rfl F.ok80 rfl (join_ok M bw Za Zb Zf Zh Zj Ze Zr Zi Zd Zq Zg Zc Zl Zt Zs ZC Zz ZL ZB Zy Zu Zo Zv Zn Zx ZE ZF Yt hav hA hLa (by (simp_all;done))) (by repeat first|exact Rem.here _|exact Rem.two|apply Rem.skip|apply Rem.over) (YN rfl) ?_
   rintro _ M1 hs1 hm1 ⟨rfl,⟨⟨⟨Yc,Yp⟩,⟨Yh,Yu⟩,⟨YA,Yz,Ye⟩,⟨Yk,Yj,Yi⟩⟩,Xn,Xo,XI,Xm,XX,Xx,Xp,Xj,YY,Xk,YZ,Xl,⟨Xc,Xb,Xa⟩,XH,XG⟩,⟨o_a,o_c,o_l⟩,rfl,hv1,hv2,okv,oko,okq⟩
   simp only [List.append_assoc,List.cons_append,List.nil_append]
   refine Zw (WE ?_);refine Zp (Y_pk [0] ?_);refine Yq (YS ?_)
   refine Yg (.inr rfl) (.nil) (fun w hw=>?_)
   exact ⟨_,M1,[(bw,rowO (ZQ.segs ⟨⟨⟨⟨Yc,Yp⟩,⟨Yh,Yu⟩,⟨YA,Yz,Ye⟩,⟨Yk,Yj,Yi⟩⟩,Xn,Xo,XI,Xm,XX,Xx,Xp,Xj,YY,Xk,YZ,Xl,⟨Xc,Xb,Xa⟩,XH,XG⟩,⟨o_a,o_c,o_l⟩⟩) 68)],rfl,hm1,hw.c,rfl,⟨⟨⟨Yc,Yp⟩,⟨Yh,Yu⟩,⟨YA,Yz,Ye⟩,⟨Yk,Yj,Yi⟩⟩,Xn,Xo,XI,Xm,XX,Xx,Xp,Xj,YY,Xk,YZ,Xl,⟨Xc,Xb,Xa⟩,XH,XG⟩,⟨o_a,o_c,o_l⟩,rfl,by exact hv1,by exact hv2,okv,oko,okq⟩
  ·skip
   refine YE (Zp (Y_pk [0] ?_));refine ZJ ?_
   refine Un hA (by repeat first|exact Rem.here _|exact Rem.two|apply Rem.skip|apply Rem.over) (fun M2 hM2 k9=>?_)
   refine XW (l:=[0,1,2,3,4,5]) [5] rfl ?_
   iterate 2 refine ZA ?_
   refine Yf ?_;refine Zk F.foff68_0 ?_;refine Zk F.foff32_6 ?_;refine Vg rfl rfl rfl F.ok81 rfl (lostA_ok M2 bw _ _ _ _ _ _ _ _ _ _ _ _ _ _ _ _ _ _ _ _ _ _ _ _ _ _ _ (Yt.mono hM2) hbig) (by repeat first|exact Rem.here _|exact Rem.two|apply Rem.skip|apply Rem.over) (YN rfl) ?_
   rintro _ M3 hs3 hm3 ⟨rfl,⟨⟨oa,oi⟩,⟨oq,oj⟩,⟨o1a,o1c,o1l⟩,⟨o2a,o2c,o2l⟩⟩,a9,rfl,okt,hlo⟩
   have h1:=lost_ask (n:=ZK.nd ⟨⟨⟨Za,Zb⟩,⟨Zf,Zh⟩,⟨Zj,Zi,Zg⟩,⟨Ze,Zd,Zc⟩⟩,Zt,Zs,ZC,Zz,ZL,ZB,Zy,Zu,Zo,Zv,Zn,Zx,⟨Zr,Zq,Zl⟩,ZE,ZF⟩) hlo
   simp only [List.append_assoc,List.cons_append,List.nil_append]
   refine Zw (WE ?_);refine Zp (Y_pk [0] ?_)
   iterate 2 refine ZJ ?_
   refine YL (l:=[0,1,2,3,4,5,6,7,8,9,10,11,12,13,14,15,16,17]) #[0,1,3,7,15,31,63,127,255,511,1023,2047,4095,8191,16383,511,65535,131071] _ rfl (by kernel_rfl) (by kernel_rfl) St.drawn (fun _ h=>h) ?_;refine ZA ?_;refine Yf ?_;refine Zk F.foff68_0 ?_;refine Zk F.foff32_0 ?_;refine Zk F.foff28_2 ?_;refine ZH F.lay26 ?_;refine YW F.elem26 ?_;refine YJ ?_;refine ZA ?_
   refine Yw 24 rfl (fun hc2=>?_) (fun hc2=>?_)
   ·replace hc2:=dT hc2
    refine ZA ?_;refine Yf ?_;refine Zk F.foff68_0 ?_;refine Zk F.foff32_0 ?_;refine Zk F.foff28_1 ?_;refine ZH F.lay25 ?_;refine X_fs rfl rfl F.ok66 rfl (Vz _) rfl ?_
    rintro _ rfl
    refine WY 31 rfl (show _=aggV [.one (.int .i64 (-1)),Yr 0] from rfl) ?_
    refine WI (m:=20) rfl rfl rfl rfl rfl (by constructor) (by constructor) F.lay25 F.kinds25 rfl F.guard25 (by exact XR (⟨_,_⟩)) (by exact XR (⟨_,_⟩)) rfl rfl rfl ?_;intro c3 he4
    replace he4:c3=true↔¬(Segs.cells _=Segs.cells _):=he4
    obtain rfl:=neD he4 (ZI.inj (x:=⟨_,_⟩) (y:=⟨_,_⟩));clear he4
    refine ZM ?_;refine Zw (Zp (Y_pk [33,0] ?_))
    refine YC rfl (fun hc5=>?_) (fun hc5=>?_)
    ·replace hc5:=nT hc5
     refine XW (l:=[0,1,2,3,4,5,6,7]) [7] rfl ?_
     iterate 2 refine ZA ?_
     refine Yf ?_;refine Zk F.foff68_0 ?_;refine Zk F.foff32_0 ?_;refine Zk F.foff28_1 ?_;refine ZH F.lay25 ?_;refine Vg rfl rfl rfl F.ok82 rfl (adopt_ok M3 bw _ _ _ _ _ _ _ _ _ _ _ _ _ _ _ _ _ _ _ _ _ _ _ _ _ _ _ okt ⟨oq,oj⟩ ⟨none,0,[]⟩ SlK.nil) (by repeat first|exact Rem.here _|exact Rem.two|apply Rem.skip|apply Rem.over) (YN rfl) ?_
     rintro _ M4 hs4 hm4 ⟨rfl,⟨⟨wa,wi⟩,⟨wq,wj⟩,⟨w1a,w1c,w1l⟩,⟨w2a,w2c,w2l⟩⟩,rfl,okl,hv1⟩
     simp only [List.append_assoc,List.cons_append,List.nil_append]
     refine Zw (WE ?_);refine Zp (Y_pk [0] ?_);refine ZJ (Zm (l:=[0,1,2,3,4,5,6,7]) rfl ?_);refine ZA ?_;refine Yf ?_;refine Zk F.foff68_0 ?_;refine Zk F.foff32_0 ?_;refine Zk F.foff28_2 ?_;refine ZH F.lay26 ?_;refine YW F.elem26 ?_;refine YJ ?_;refine Zw (Zp (Y_pk [49,0] ?_))
     refine YC rfl (fun hc6=>?_) (fun hc6=>?_)
     ·replace hc6:=dT hc6
      refine ZJ (Zm (l:=[0,1,2,3,4,5,6,7,8,9,10,11]) rfl ?_)
      iterate 2 refine ZA ?_
      refine Yf ?_;refine Zk F.foff68_0 ?_;refine Zk F.foff32_0 ?_;refine ZH F.lay28 ?_;refine X_fs rfl rfl F.ok41 rfl (First_ok _ ⟨⟨wa,wi⟩,⟨wq,wj⟩,⟨w1a,w1c,w1l⟩,⟨w2a,w2c,w2l⟩⟩ okl) rfl ?_
      rintro _ rfl
      obtain ⟨⟨fa,fi⟩,hfi⟩:∃ x,Wi (ZN.tb ⟨⟨wa,wi⟩,⟨wq,wj⟩,⟨w1a,w1c,w1l⟩,⟨w2a,w2c,w2l⟩⟩)=x:=⟨_,rfl⟩
      rw [hfi]
      refine Y_field F.fld25_0 F.lay3 ?_;refine Yf ?_;refine Zk F.foff68_0 ?_;refine Zk F.foff32_6 ?_;refine ZX F.lay3 ?_;refine Zw (Zp (Y_pk [0] ?_));refine XW (l:=[0,1,2,3,4,5,6,7,8,9,10,11,12]) [8] rfl ?_
      iterate 3 refine ZA ?_
      refine Yf ?_;refine Zk F.foff68_0 ?_;refine Zk F.foff32_6 ?_;refine ZH F.lay3 ?_;refine Xy rfl rfl F.bld44 (.cons rfl (by constructor) .nil) rfl rfl ?_;refine Vg rfl rfl rfl F.ok83 rfl (request_ok M4 bw _ _ _ _ _ _ _ _ _ _ _ _ _ _ _ _ _ _ _ _ _ _ _ _ _ _ _ fa ⟨3,⟨0,0⟩,0,0,⟨none,0,[]⟩,false,⟨0,0⟩,⟨none,0,[]⟩⟩) (by repeat first|exact Rem.here _|exact Rem.two|apply Rem.skip|apply Rem.over) (YN rfl) ?_
      rintro _ M5 hs5 hm5 ⟨rfl,⟨o9a,o9c,o9l⟩,rfl,k9o,hl9⟩
      simp only at hl9
      simp only [List.append_assoc,List.cons_append,List.nil_append]
      refine Yf ?_;refine Zk F.foff68_0 ?_;refine Zk F.foff32_7 ?_;refine ZX F.lay29 ?_;refine Zw (WE ?_)
      refine Yg (.inl rfl) (.nil) (fun w hw=>?_)
      have h2:ZK.nd ⟨⟨⟨wa,wi⟩,⟨wq,wj⟩,⟨w1a,w1c,w1l⟩,⟨w2a,w2c,w2l⟩⟩,Zt,Zs,ZC,Zz,ZL,a9,Zy,Zu,Zo,Zv,Zn,Zx,⟨Zr,Zq,Zl⟩,ZE,ZF⟩=if (ZK.nd ⟨⟨⟨oa,oi⟩,⟨oq,oj⟩,⟨o1a,o1c,o1l⟩,⟨o2a,o2c,o2l⟩⟩,Zt,Zs,ZC,Zz,ZL,a9,Zy,Zu,Zo,Zv,Zn,Zx,⟨Zr,Zq,Zl⟩,ZE,ZF⟩).table.succ=[]∧(ZK.nd ⟨⟨⟨oa,oi⟩,⟨oq,oj⟩,⟨o1a,o1c,o1l⟩,⟨o2a,o2c,o2l⟩⟩,Zt,Zs,ZC,Zz,ZL,a9,Zy,Zu,Zo,Zv,Zn,Zx,⟨Zr,Zq,Zl⟩,ZE,ZF⟩).table.pred≠Xi then WA (ZK.nd ⟨⟨⟨oa,oi⟩,⟨oq,oj⟩,⟨o1a,o1c,o1l⟩,⟨o2a,o2c,o2l⟩⟩,Zt,Zs,ZC,Zz,ZL,a9,Zy,Zu,Zo,Zv,Zn,Zx,⟨Zr,Zq,Zl⟩,ZE,ZF⟩) (ZK.nd ⟨⟨⟨oa,oi⟩,⟨oq,oj⟩,⟨o1a,o1c,o1l⟩,⟨o2a,o2c,o2l⟩⟩,Zt,Zs,ZC,Zz,ZL,a9,Zy,Zu,Zo,Zv,Zn,Zx,⟨Zr,Zq,Zl⟩,ZE,ZF⟩).table.pred [] else (ZK.nd ⟨⟨⟨oa,oi⟩,⟨oq,oj⟩,⟨o1a,o1c,o1l⟩,⟨o2a,o2c,o2l⟩⟩,Zt,Zs,ZC,Zz,ZL,a9,Zy,Zu,Zo,Zv,Zn,Zx,⟨Zr,Zq,Zl⟩,ZE,ZF⟩):=by
       rw [if_pos ⟨show o1l=[] from List.length_eq_zero_iff.1 (by omega),show (⟨oq,oj⟩:ZI)≠Xi from (by assumption)⟩];exact hv1
      have h3:=Va (n:=ZK.nd ⟨⟨⟨Za,Zb⟩,⟨Zf,Zh⟩,⟨Zj,Zi,Zg⟩,⟨Ze,Zd,Zc⟩⟩,Zt,Zs,ZC,Zz,ZL,ZB,Zy,Zu,Zo,Zv,Zn,Zx,⟨Zr,Zq,Zl⟩,ZE,ZF⟩) (by show Zs=true;simp_all) h1 h2
      rw [if_neg (show ¬(ZK.nd ⟨⟨⟨wa,wi⟩,⟨wq,wj⟩,⟨w1a,w1c,w1l⟩,⟨w2a,w2c,w2l⟩⟩,Zt,Zs,ZC,Zz,ZL,a9,Zy,Zu,Zo,Zv,Zn,Zx,⟨Zr,Zq,Zl⟩,ZE,ZF⟩).table.succ=[] from (fun q1=>absurd (show w1l.length=0 from congrArg List.length q1) (by omega))),show Wi (ZK.nd ⟨⟨⟨wa,wi⟩,⟨wq,wj⟩,⟨w1a,w1c,w1l⟩,⟨w2a,w2c,w2l⟩⟩,Zt,Zs,ZC,Zz,ZL,a9,Zy,Zu,Zo,Zv,Zn,Zx,⟨Zr,Zq,Zl⟩,ZE,ZF⟩).table=⟨fa,fi⟩ from hfi] at h3
      refine ⟨_,M5,[(bw,rowO (ZQ.segs ⟨⟨⟨⟨wa,wi⟩,⟨wq,wj⟩,⟨w1a,w1c,w1l⟩,⟨w2a,w2c,w2l⟩⟩,Zt,Zs,ZC,Zz,(nxR ZL),fa,(nxR ZL),Zu,Zo,Zv,Zn,Zx,⟨Zr,Zq,Zl⟩,ZE,ZF⟩,⟨o9a,o9c,o9l⟩⟩) 68)],rfl,(((hM2.trans hm3).trans hm4).trans hm5),hw.c,rfl,⟨⟨⟨wa,wi⟩,⟨wq,wj⟩,⟨w1a,w1c,w1l⟩,⟨w2a,w2c,w2l⟩⟩,Zt,Zs,ZC,Zz,(nxR ZL),fa,(nxR ZL),Zu,Zo,Zv,Zn,Zx,⟨Zr,Zq,Zl⟩,ZE,ZF⟩,⟨o9a,o9c,o9l⟩,rfl,?_,?_,⟨okl.mono hm5,((k9.mono hm3).mono hm4).mono hm5⟩,k9o,fun y hy=>?_⟩
      ·rw [h3] <;> rfl
      ·rw [h3]
       show sndl o9l=_
       rw [hl9];rfl
      ·simp only at hy
       rw [hl9] at hy
       obtain rfl:=List.mem_singleton.1 hy
       exact ⟨⟨SlK.nil,SlK.nil⟩⟩
     ·replace hc6:=dF hc6
      refine YE ?_
      refine Yg (.inl rfl) (.nil) (fun w hw=>?_)
      have h2:ZK.nd ⟨⟨⟨wa,wi⟩,⟨wq,wj⟩,⟨w1a,w1c,w1l⟩,⟨w2a,w2c,w2l⟩⟩,Zt,Zs,ZC,Zz,ZL,a9,Zy,Zu,Zo,Zv,Zn,Zx,⟨Zr,Zq,Zl⟩,ZE,ZF⟩=if (ZK.nd ⟨⟨⟨oa,oi⟩,⟨oq,oj⟩,⟨o1a,o1c,o1l⟩,⟨o2a,o2c,o2l⟩⟩,Zt,Zs,ZC,Zz,ZL,a9,Zy,Zu,Zo,Zv,Zn,Zx,⟨Zr,Zq,Zl⟩,ZE,ZF⟩).table.succ=[]∧(ZK.nd ⟨⟨⟨oa,oi⟩,⟨oq,oj⟩,⟨o1a,o1c,o1l⟩,⟨o2a,o2c,o2l⟩⟩,Zt,Zs,ZC,Zz,ZL,a9,Zy,Zu,Zo,Zv,Zn,Zx,⟨Zr,Zq,Zl⟩,ZE,ZF⟩).table.pred≠Xi then WA (ZK.nd ⟨⟨⟨oa,oi⟩,⟨oq,oj⟩,⟨o1a,o1c,o1l⟩,⟨o2a,o2c,o2l⟩⟩,Zt,Zs,ZC,Zz,ZL,a9,Zy,Zu,Zo,Zv,Zn,Zx,⟨Zr,Zq,Zl⟩,ZE,ZF⟩) (ZK.nd ⟨⟨⟨oa,oi⟩,⟨oq,oj⟩,⟨o1a,o1c,o1l⟩,⟨o2a,o2c,o2l⟩⟩,Zt,Zs,ZC,Zz,ZL,a9,Zy,Zu,Zo,Zv,Zn,Zx,⟨Zr,Zq,Zl⟩,ZE,ZF⟩).table.pred [] else (ZK.nd ⟨⟨⟨oa,oi⟩,⟨oq,oj⟩,⟨o1a,o1c,o1l⟩,⟨o2a,o2c,o2l⟩⟩,Zt,Zs,ZC,Zz,ZL,a9,Zy,Zu,Zo,Zv,Zn,Zx,⟨Zr,Zq,Zl⟩,ZE,ZF⟩):=by
       rw [if_pos ⟨show o1l=[] from List.length_eq_zero_iff.1 (by omega),show (⟨oq,oj⟩:ZI)≠Xi from (by assumption)⟩];exact hv1
      have h3:=Va (n:=ZK.nd ⟨⟨⟨Za,Zb⟩,⟨Zf,Zh⟩,⟨Zj,Zi,Zg⟩,⟨Ze,Zd,Zc⟩⟩,Zt,Zs,ZC,Zz,ZL,ZB,Zy,Zu,Zo,Zv,Zn,Zx,⟨Zr,Zq,Zl⟩,ZE,ZF⟩) (by show Zs=true;simp_all) h1 h2
      rw [if_pos (show (ZK.nd ⟨⟨⟨wa,wi⟩,⟨wq,wj⟩,⟨w1a,w1c,w1l⟩,⟨w2a,w2c,w2l⟩⟩,Zt,Zs,ZC,Zz,ZL,a9,Zy,Zu,Zo,Zv,Zn,Zx,⟨Zr,Zq,Zl⟩,ZE,ZF⟩).table.succ=[] from List.length_eq_zero_iff.1 (show w1l.length=0 from by omega))] at h3
      refine ⟨_,M4,[(bw,rowO (ZQ.segs ⟨⟨⟨⟨wa,wi⟩,⟨wq,wj⟩,⟨w1a,w1c,w1l⟩,⟨w2a,w2c,w2l⟩⟩,Zt,Zs,ZC,Zz,ZL,a9,Zy,Zu,Zo,Zv,Zn,Zx,⟨Zr,Zq,Zl⟩,ZE,ZF⟩,⟨none,0,[]⟩⟩) 68)],rfl,((hM2.trans hm3).trans hm4),hw.c,rfl,⟨⟨⟨wa,wi⟩,⟨wq,wj⟩,⟨w1a,w1c,w1l⟩,⟨w2a,w2c,w2l⟩⟩,Zt,Zs,ZC,Zz,ZL,a9,Zy,Zu,Zo,Zv,Zn,Zx,⟨Zr,Zq,Zl⟩,ZE,ZF⟩,⟨none,0,[]⟩,rfl,?_,?_,⟨okl,((k9.mono hm3).mono hm4)⟩,SlK.nil,fun y hy=>by cases hy⟩
      ·rw [h3] <;> rfl
      ·rw [h3] <;> rfl
    ·replace hc5:=nF hc5
     refine YE (Zp (Y_pk [0] ?_));refine ZJ (Zm (l:=[0,1,2,3,4,5,6,7]) rfl ?_);refine ZA ?_;refine Yf ?_;refine Zk F.foff68_0 ?_;refine Zk F.foff32_0 ?_;refine Zk F.foff28_2 ?_;refine ZH F.lay26 ?_;refine YW F.elem26 ?_;refine YJ ?_;refine Zw (Zp (Y_pk [49,0] ?_))
     refine YC rfl (fun hc7=>?_) (fun hc7=>?_)
     ·replace hc7:=dT hc7
      (exfalso;omega)
     ·replace hc7:=dF hc7
      refine YE ?_
      refine Yg (.inl rfl) (.nil) (fun w hw=>?_)
      have h2:ZK.nd ⟨⟨⟨oa,oi⟩,⟨oq,oj⟩,⟨o1a,o1c,o1l⟩,⟨o2a,o2c,o2l⟩⟩,Zt,Zs,ZC,Zz,ZL,a9,Zy,Zu,Zo,Zv,Zn,Zx,⟨Zr,Zq,Zl⟩,ZE,ZF⟩=if (ZK.nd ⟨⟨⟨oa,oi⟩,⟨oq,oj⟩,⟨o1a,o1c,o1l⟩,⟨o2a,o2c,o2l⟩⟩,Zt,Zs,ZC,Zz,ZL,a9,Zy,Zu,Zo,Zv,Zn,Zx,⟨Zr,Zq,Zl⟩,ZE,ZF⟩).table.succ=[]∧(ZK.nd ⟨⟨⟨oa,oi⟩,⟨oq,oj⟩,⟨o1a,o1c,o1l⟩,⟨o2a,o2c,o2l⟩⟩,Zt,Zs,ZC,Zz,ZL,a9,Zy,Zu,Zo,Zv,Zn,Zx,⟨Zr,Zq,Zl⟩,ZE,ZF⟩).table.pred≠Xi then WA (ZK.nd ⟨⟨⟨oa,oi⟩,⟨oq,oj⟩,⟨o1a,o1c,o1l⟩,⟨o2a,o2c,o2l⟩⟩,Zt,Zs,ZC,Zz,ZL,a9,Zy,Zu,Zo,Zv,Zn,Zx,⟨Zr,Zq,Zl⟩,ZE,ZF⟩) (ZK.nd ⟨⟨⟨oa,oi⟩,⟨oq,oj⟩,⟨o1a,o1c,o1l⟩,⟨o2a,o2c,o2l⟩⟩,Zt,Zs,ZC,Zz,ZL,a9,Zy,Zu,Zo,Zv,Zn,Zx,⟨Zr,Zq,Zl⟩,ZE,ZF⟩).table.pred [] else (ZK.nd ⟨⟨⟨oa,oi⟩,⟨oq,oj⟩,⟨o1a,o1c,o1l⟩,⟨o2a,o2c,o2l⟩⟩,Zt,Zs,ZC,Zz,ZL,a9,Zy,Zu,Zo,Zv,Zn,Zx,⟨Zr,Zq,Zl⟩,ZE,ZF⟩):=by
       rw [if_neg (by rintro ⟨q1,q2⟩;exact q2 (show (⟨oq,oj⟩:ZI)=Xi from (by assumption)))]
      have h3:=Va (n:=ZK.nd ⟨⟨⟨Za,Zb⟩,⟨Zf,Zh⟩,⟨Zj,Zi,Zg⟩,⟨Ze,Zd,Zc⟩⟩,Zt,Zs,ZC,Zz,ZL,ZB,Zy,Zu,Zo,Zv,Zn,Zx,⟨Zr,Zq,Zl⟩,ZE,ZF⟩) (by show Zs=true;simp_all) h1 h2
      rw [if_pos (show (ZK.nd ⟨⟨⟨oa,oi⟩,⟨oq,oj⟩,⟨o1a,o1c,o1l⟩,⟨o2a,o2c,o2l⟩⟩,Zt,Zs,ZC,Zz,ZL,a9,Zy,Zu,Zo,Zv,Zn,Zx,⟨Zr,Zq,Zl⟩,ZE,ZF⟩).table.succ=[] from List.length_eq_zero_iff.1 (show o1l.length=0 from by omega))] at h3
      refine ⟨_,M3,[(bw,rowO (ZQ.segs ⟨⟨⟨⟨oa,oi⟩,⟨oq,oj⟩,⟨o1a,o1c,o1l⟩,⟨o2a,o2c,o2l⟩⟩,Zt,Zs,ZC,Zz,ZL,a9,Zy,Zu,Zo,Zv,Zn,Zx,⟨Zr,Zq,Zl⟩,ZE,ZF⟩,⟨none,0,[]⟩⟩) 68)],rfl,(hM2.trans hm3),hw.c,rfl,⟨⟨⟨oa,oi⟩,⟨oq,oj⟩,⟨o1a,o1c,o1l⟩,⟨o2a,o2c,o2l⟩⟩,Zt,Zs,ZC,Zz,ZL,a9,Zy,Zu,Zo,Zv,Zn,Zx,⟨Zr,Zq,Zl⟩,ZE,ZF⟩,⟨none,0,[]⟩,rfl,?_,?_,⟨okt,(k9.mono hm3)⟩,SlK.nil,fun y hy=>by cases hy⟩
      ·rw [h3] <;> rfl
      ·rw [h3] <;> rfl
   ·replace hc2:=dF hc2
    iterate 8 refine ZY ?_
    refine ZM ?_;refine Zw (Zp (Y_pk [33,0] ?_));refine Wz rfl ?_;refine YE (Zp (Y_pk [0] ?_));refine ZJ (Zm (l:=[0,1,2,3,4,5,6,7]) rfl ?_);refine ZA ?_;refine Yf ?_;refine Zk F.foff68_0 ?_;refine Zk F.foff32_0 ?_;refine Zk F.foff28_2 ?_;refine ZH F.lay26 ?_;refine YW F.elem26 ?_;refine YJ ?_;refine Zw (Zp (Y_pk [49,0] ?_))
    refine YC rfl (fun hc8=>?_) (fun hc8=>?_)
    ·replace hc8:=dT hc8
     refine ZJ (Zm (l:=[0,1,2,3,4,5,6,7,8,9,10,11]) rfl ?_)
     iterate 2 refine ZA ?_
     refine Yf ?_;refine Zk F.foff68_0 ?_;refine Zk F.foff32_0 ?_;refine ZH F.lay28 ?_;refine X_fs rfl rfl F.ok41 rfl (First_ok _ ⟨⟨oa,oi⟩,⟨oq,oj⟩,⟨o1a,o1c,o1l⟩,⟨o2a,o2c,o2l⟩⟩ okt) rfl ?_
     rintro _ rfl
     obtain ⟨⟨fa,fi⟩,hfi⟩:∃ x,Wi (ZN.tb ⟨⟨oa,oi⟩,⟨oq,oj⟩,⟨o1a,o1c,o1l⟩,⟨o2a,o2c,o2l⟩⟩)=x:=⟨_,rfl⟩
     rw [hfi]
     refine Y_field F.fld25_0 F.lay3 ?_;refine Yf ?_;refine Zk F.foff68_0 ?_;refine Zk F.foff32_6 ?_;refine ZX F.lay3 ?_;refine Zw (Zp (Y_pk [0] ?_));refine XW (l:=[0,1,2,3,4,5,6,7,8,9,10,11,12]) [8] rfl ?_
     iterate 3 refine ZA ?_
     refine Yf ?_;refine Zk F.foff68_0 ?_;refine Zk F.foff32_6 ?_;refine ZH F.lay3 ?_;refine Xy rfl rfl F.bld44 (.cons rfl (by constructor) .nil) rfl rfl ?_;refine Vg rfl rfl rfl F.ok83 rfl (request_ok M3 bw _ _ _ _ _ _ _ _ _ _ _ _ _ _ _ _ _ _ _ _ _ _ _ _ _ _ _ fa ⟨3,⟨0,0⟩,0,0,⟨none,0,[]⟩,false,⟨0,0⟩,⟨none,0,[]⟩⟩) (by repeat first|exact Rem.here _|exact Rem.two|apply Rem.skip|apply Rem.over) (YN rfl) ?_
     rintro _ M5 hs5 hm5 ⟨rfl,⟨o9a,o9c,o9l⟩,rfl,k9o,hl9⟩
     simp only at hl9
     simp only [List.append_assoc,List.cons_append,List.nil_append]
     refine Yf ?_;refine Zk F.foff68_0 ?_;refine Zk F.foff32_7 ?_;refine ZX F.lay29 ?_;refine Zw (WE ?_)
     refine Yg (.inl rfl) (.nil) (fun w hw=>?_)
     have h2:ZK.nd ⟨⟨⟨oa,oi⟩,⟨oq,oj⟩,⟨o1a,o1c,o1l⟩,⟨o2a,o2c,o2l⟩⟩,Zt,Zs,ZC,Zz,ZL,a9,Zy,Zu,Zo,Zv,Zn,Zx,⟨Zr,Zq,Zl⟩,ZE,ZF⟩=if (ZK.nd ⟨⟨⟨oa,oi⟩,⟨oq,oj⟩,⟨o1a,o1c,o1l⟩,⟨o2a,o2c,o2l⟩⟩,Zt,Zs,ZC,Zz,ZL,a9,Zy,Zu,Zo,Zv,Zn,Zx,⟨Zr,Zq,Zl⟩,ZE,ZF⟩).table.succ=[]∧(ZK.nd ⟨⟨⟨oa,oi⟩,⟨oq,oj⟩,⟨o1a,o1c,o1l⟩,⟨o2a,o2c,o2l⟩⟩,Zt,Zs,ZC,Zz,ZL,a9,Zy,Zu,Zo,Zv,Zn,Zx,⟨Zr,Zq,Zl⟩,ZE,ZF⟩).table.pred≠Xi then WA (ZK.nd ⟨⟨⟨oa,oi⟩,⟨oq,oj⟩,⟨o1a,o1c,o1l⟩,⟨o2a,o2c,o2l⟩⟩,Zt,Zs,ZC,Zz,ZL,a9,Zy,Zu,Zo,Zv,Zn,Zx,⟨Zr,Zq,Zl⟩,ZE,ZF⟩) (ZK.nd ⟨⟨⟨oa,oi⟩,⟨oq,oj⟩,⟨o1a,o1c,o1l⟩,⟨o2a,o2c,o2l⟩⟩,Zt,Zs,ZC,Zz,ZL,a9,Zy,Zu,Zo,Zv,Zn,Zx,⟨Zr,Zq,Zl⟩,ZE,ZF⟩).table.pred [] else (ZK.nd ⟨⟨⟨oa,oi⟩,⟨oq,oj⟩,⟨o1a,o1c,o1l⟩,⟨o2a,o2c,o2l⟩⟩,Zt,Zs,ZC,Zz,ZL,a9,Zy,Zu,Zo,Zv,Zn,Zx,⟨Zr,Zq,Zl⟩,ZE,ZF⟩):=by
      rw [if_neg (by rintro ⟨q1,q2⟩;have q3:o1l.length=0:=congrArg List.length q1;omega)]
     have h3:=Va (n:=ZK.nd ⟨⟨⟨Za,Zb⟩,⟨Zf,Zh⟩,⟨Zj,Zi,Zg⟩,⟨Ze,Zd,Zc⟩⟩,Zt,Zs,ZC,Zz,ZL,ZB,Zy,Zu,Zo,Zv,Zn,Zx,⟨Zr,Zq,Zl⟩,ZE,ZF⟩) (by show Zs=true;simp_all) h1 h2
     rw [if_neg (show ¬(ZK.nd ⟨⟨⟨oa,oi⟩,⟨oq,oj⟩,⟨o1a,o1c,o1l⟩,⟨o2a,o2c,o2l⟩⟩,Zt,Zs,ZC,Zz,ZL,a9,Zy,Zu,Zo,Zv,Zn,Zx,⟨Zr,Zq,Zl⟩,ZE,ZF⟩).table.succ=[] from (fun q1=>absurd (show o1l.length=0 from congrArg List.length q1) (by omega))),show Wi (ZK.nd ⟨⟨⟨oa,oi⟩,⟨oq,oj⟩,⟨o1a,o1c,o1l⟩,⟨o2a,o2c,o2l⟩⟩,Zt,Zs,ZC,Zz,ZL,a9,Zy,Zu,Zo,Zv,Zn,Zx,⟨Zr,Zq,Zl⟩,ZE,ZF⟩).table=⟨fa,fi⟩ from hfi] at h3
     refine ⟨_,M5,[(bw,rowO (ZQ.segs ⟨⟨⟨⟨oa,oi⟩,⟨oq,oj⟩,⟨o1a,o1c,o1l⟩,⟨o2a,o2c,o2l⟩⟩,Zt,Zs,ZC,Zz,(nxR ZL),fa,(nxR ZL),Zu,Zo,Zv,Zn,Zx,⟨Zr,Zq,Zl⟩,ZE,ZF⟩,⟨o9a,o9c,o9l⟩⟩) 68)],rfl,((hM2.trans hm3).trans hm5),hw.c,rfl,⟨⟨⟨oa,oi⟩,⟨oq,oj⟩,⟨o1a,o1c,o1l⟩,⟨o2a,o2c,o2l⟩⟩,Zt,Zs,ZC,Zz,(nxR ZL),fa,(nxR ZL),Zu,Zo,Zv,Zn,Zx,⟨Zr,Zq,Zl⟩,ZE,ZF⟩,⟨o9a,o9c,o9l⟩,rfl,?_,?_,⟨okt.mono hm5,(k9.mono hm3).mono hm5⟩,k9o,fun y hy=>?_⟩
     ·rw [h3] <;> rfl
     ·rw [h3]
      show sndl o9l=_
      rw [hl9];rfl
     ·simp only at hy
      rw [hl9] at hy
      obtain rfl:=List.mem_singleton.1 hy
      exact ⟨⟨SlK.nil,SlK.nil⟩⟩
    ·replace hc8:=dF hc8
     (exfalso;omega)
end Go.Proofs.YtajmnjefajknoaaGreat
namespace Go.Proofs.YtajmnjefajknoaaGreat
open Go.Esp
theorem F.ok19:okFn Tryz.prog 19=true:=by kernel_rfl
theorem F.ok87:okFn Tryz.prog 87=true:=by kernel_rfl
theorem F.ok88:okFn Tryz.prog 88=true:=by kernel_rfl
theorem fix_ok (M:Mem) (bw:Nat) (Za:Int) (Zb:Plc) (Zf:Int) (Zh:Plc) (Zj Ze Zr:Option Addr) (Zi Zd Zq:Nat) (Zg Zc:List ZI) (Zl:List Int) (Zt:Int) (Zs:Bool) (ZC Zz ZL ZB Zy Zu Zo Zv Zn:Int) (Zx:Plc) (ZE ZF:Int) (Yt:ZN.ok M ⟨⟨Za,Zb⟩,⟨Zf,Zh⟩,⟨Zj,Zi,Zg⟩,⟨Ze,Zd,Zc⟩⟩) (hbig:Zg.length≤40∧Zc.length≤200) (hcu:0≤Zz∧Zz≤159) (hav:Hp) (hA:OSl 3 1 (.slice Zr Zl.length Zq) hav (Zl.map (oneI .i64))) (hLa:Zl.length≤900):Fh Tryz.prog 34 [.pointer (some ⟨bw,0,none⟩)] M ((bw,rowO (ZQ.segs ⟨⟨⟨⟨Za,Zb⟩,⟨Zf,Zh⟩,⟨Zj,Zi,Zg⟩,⟨Ze,Zd,Zc⟩⟩,Zt,Zs,ZC,Zz,ZL,ZB,Zy,Zu,Zo,Zv,Zn,Zx,⟨Zr,Zq,Zl⟩,ZE,ZF⟩,⟨none,0,[]⟩⟩) 68)::hav) (fun M' v Hout=>v=.tuple #[]∧WkF bw 68 M' Hout (fixN (ZK.nd ⟨⟨⟨Za,Zb⟩,⟨Zf,Zh⟩,⟨Zj,Zi,Zg⟩,⟨Ze,Zd,Zc⟩⟩,Zt,Zs,ZC,Zz,ZL,ZB,Zy,Zu,Zo,Zv,Zn,Zx,⟨Zr,Zq,Zl⟩,ZE,ZF⟩))):=by
  obtain ⟨kn,rfl⟩:∃ kn:Nat,Zz=(kn:Int):=⟨Zz.toNat,by omega⟩
  refine Wj (fun H=>(bw,rowO (ZQ.segs ⟨⟨⟨⟨Za,Zb⟩,⟨Zf,Zh⟩,⟨Zj,Zi,Zg⟩,⟨Ze,Zd,Zc⟩⟩,Zt,Zs,ZC,(kn:Int),ZL,ZB,Zy,Zu,Zo,Zv,Zn,Zx,⟨Zr,Zq,Zl⟩,ZE,ZF⟩,⟨none,0,[]⟩⟩) 68)::(hav++H)) (fun _=>by simp only [List.append_assoc,List.cons_append,List.nil_append]) Tryz.func34 rfl Tryz.ntmps34 rfl ?_;intro H
  iterate 2 refine ZJ ?_
  refine Zm (l:=[0,1,2,3,4,5]) rfl ?_;refine ZA ?_;refine Yf ?_;refine Zk F.foff68_0 ?_;refine Zk F.foff32_2 ?_;refine ZH F.lay4 ?_;refine XP ?_;refine Zw (Zp (Y_pk [14,0] ?_))
  refine YC rfl (fun hc1=>?_) (fun hc1=>?_)
  ·skip
   refine Yq (YS ?_)
   refine Yg (.inr rfl) (.nil) (fun w hw=>?_)
   obtain ⟨M9,j1,j2,j3⟩:=OSl.frz (H:=(bw,rowO (ZQ.segs ⟨⟨⟨⟨Za,Zb⟩,⟨Zf,Zh⟩,⟨Zj,Zi,Zg⟩,⟨Ze,Zd,Zc⟩⟩,Zt,Zs,ZC,(kn:Int),ZL,ZB,Zy,Zu,Zo,Zv,Zn,Zx,⟨Zr,Zq,Zl⟩,ZE,ZF⟩,⟨none,0,[]⟩⟩) 68)::H) hA (hw.c)
   refine ⟨_,M9,[(bw,rowO (ZQ.segs ⟨⟨⟨⟨Za,Zb⟩,⟨Zf,Zh⟩,⟨Zj,Zi,Zg⟩,⟨Ze,Zd,Zc⟩⟩,Zt,Zs,ZC,(kn:Int),ZL,ZB,Zy,Zu,Zo,Zv,Zn,Zx,⟨Zr,Zq,Zl⟩,ZE,ZF⟩,⟨none,0,[]⟩⟩) 68)],rfl,j1,j2,rfl,⟨⟨⟨Za,Zb⟩,⟨Zf,Zh⟩,⟨Zj,Zi,Zg⟩,⟨Ze,Zd,Zc⟩⟩,Zt,Zs,ZC,(kn:Int),ZL,ZB,Zy,Zu,Zo,Zv,Zn,Zx,⟨Zr,Zq,Zl⟩,ZE,ZF⟩,⟨none,0,[]⟩,rfl,?_,?_,⟨Yt.mono j1,j3⟩,SlK.nil,fun y hy=>by cases hy⟩
   ·rw [fix_out (n:=ZK.nd ⟨⟨⟨Za,Zb⟩,⟨Zf,Zh⟩,⟨Zj,Zi,Zg⟩,⟨Ze,Zd,Zc⟩⟩,Zt,Zs,ZC,(kn:Int),ZL,ZB,Zy,Zu,Zo,Zv,Zn,Zx,⟨Zr,Zq,Zl⟩,ZE,ZF⟩) (show Zs=false by simp_all)]
   ·rw [fix_out (n:=ZK.nd ⟨⟨⟨Za,Zb⟩,⟨Zf,Zh⟩,⟨Zj,Zi,Zg⟩,⟨Ze,Zd,Zc⟩⟩,Zt,Zs,ZC,(kn:Int),ZL,ZB,Zy,Zu,Zo,Zv,Zn,Zx,⟨Zr,Zq,Zl⟩,ZE,ZF⟩) (show Zs=false by simp_all)] <;> rfl
  ·skip
   refine YE (Zp (Y_pk [0] ?_))
   iterate 2 refine ZJ ?_
   refine Zm (l:=[0,1,2,3,4,5]) rfl ?_;refine ZA ?_;refine Yf ?_;refine Zk F.foff68_0 ?_;refine Zk F.foff32_10 ?_;refine ZH F.lay3 ?_;refine YJ ?_;refine Zw (Zp (Y_pk [20,0] ?_))
   refine YC rfl (fun hc2=>?_) (fun hc2=>?_)
   ·replace hc2:=dT hc2
    refine Zm (l:=[0,1,2,3,4]) rfl ?_;refine ZA ?_;refine Yf ?_;refine Zk F.foff68_0 ?_;refine Zk F.foff32_13 ?_;refine ZX F.lay30 ?_;refine Zw (Zp (Y_pk [0] ?_));refine ZJ ?_
    have hM2:=Mem.le.refl M
    have k9:SlK M (oneI .i64) 1 ⟨none,0,[]⟩:=SlK.nil
    refine XW (l:=[0,1,2,3,4,5]) [5] rfl ?_
    iterate 2 refine ZA ?_
    refine Yf ?_;refine Zk F.foff68_0 ?_;refine Zk F.foff32_10 ?_;refine Vg rfl rfl rfl F.ok81 rfl (lostF_ok M bw Za Zb Zf Zh Zj Ze none Zi Zd 0 Zg Zc [] Zt Zs ZC (kn:Int) ZL ZB Zy Zu Zo Zv Zn Zx ZE ZF (Yt.mono hM2) hbig) (by repeat first|exact Rem.here _|exact Rem.two|apply Rem.skip|apply Rem.over) (YN rfl) ?_
    rintro _ M3 hs3 hm3 ⟨rfl,⟨⟨oa,oi⟩,⟨oq,oj⟩,⟨o1a,o1c,o1l⟩,⟨o2a,o2c,o2l⟩⟩,a9,rfl,okt,hlo⟩
    have hbo:=lost_big (congrArg Prod.fst hlo) hbig
    have h2:=fix_nil (n:=ZK.nd ⟨⟨⟨Za,Zb⟩,⟨Zf,Zh⟩,⟨Zj,Zi,Zg⟩,⟨Ze,Zd,Zc⟩⟩,Zt,Zs,ZC,(kn:Int),ZL,ZB,Zy,Zu,Zo,Zv,Zn,Zx,⟨Zr,Zq,Zl⟩,ZE,ZF⟩) hlo (show Zv=-1 by omega)
    simp only [List.append_assoc,List.cons_append,List.nil_append]
    refine Zw (WE ?_);refine Zp (Y_pk [0] ?_);refine ZJ (Zm (l:=[0,1,2,3,4,5,6,7,8,9,10,11]) rfl ?_);refine ZA ?_;refine Yf ?_;refine Zk F.foff68_0 ?_;refine Zk F.foff32_4 ?_;refine ZH F.lay3 ?_;refine X_fs rfl rfl F.ok85 rfl (Power_ok_in _ kn (by omega)) rfl ?_
    rintro _ rfl
    refine ZA ?_
    iterate 2 refine XF ?_
    refine YQ F.zero23 ?_;intro b3
    refine ZX F.lay23 ?_;refine ZD ?_;refine Zw (Zp (Y_pk [2,0] ?_));refine ZJ (YL (l:=[0,1,2,3,4,5,6,7,8,9,10]) #[0,1,3,7,15,31,63,0,255,0,1023] _ rfl (by kernel_rfl) (by kernel_rfl) St.drawn (fun _ h=>h) ?_);refine ZA ?_;refine Yf ?_;refine Zk F.foff68_0 ?_;refine Zk F.foff32_0 ?_;refine Zk F.foff28_0 ?_;refine Zk F.foff25_1 ?_
    iterate 2 refine ZH F.lay23 ?_
    refine X_fs rfl rfl F.ok86 rfl (Plus_ok _ _ _) rfl ?_
    rintro _ rfl
    refine YQ F.zero23 ?_;intro b4
    refine ZX F.lay23 ?_;refine Zw (Zp (Y_pk [4,0] ?_))
    iterate 2 refine ZJ ?_
    refine YL (l:=[0,1,2,3,4,5,6,7,8,9,10,11,12]) #[0,1,3,7,15,0,63,127,255,255,0,1535,4095] _ rfl (by kernel_rfl) (by kernel_rfl) St.drawn (fun _ h=>h) ?_;refine ZA ?_;refine Yf ?_;refine Zk F.foff68_0 ?_;refine Zk F.foff32_0 ?_;refine ZH F.lay28 ?_;refine ZH F.lay23 ?_;refine X_fs rfl rfl F.ok19 rfl (Done_ok _ ⟨⟨oa,oi⟩,⟨oq,oj⟩,⟨o1a,o1c,o1l⟩,⟨o2a,o2c,o2l⟩⟩ (oi+powP kn) okt) rfl ?_
    rintro _ rfl
    obtain ⟨⟨⟨da,di⟩,db⟩,hd⟩:∃ x,VI (ZN.tb ⟨⟨oa,oi⟩,⟨oq,oj⟩,⟨o1a,o1c,o1l⟩,⟨o2a,o2c,o2l⟩⟩) (oi+powP kn)=x:=⟨_,rfl⟩
    rw [hd]
    refine ZA ?_
    iterate 2 refine XF ?_
    refine YQ F.zero25 ?_;intro b5
    refine ZX F.lay25 ?_;refine ZD ?_;refine Zw (Zp (Y_pk [6,5,4,0] ?_));refine ZJ (Zm (l:=[0]) rfl ?_);refine ZA ?_;refine Zw (Zp (Y_pk [66,5,4,0] ?_))
    refine YC rfl (fun hc6=>?_) (fun hc6=>?_)
    ·skip
     simp only [ZI.eta,ZN.eta,ZK.eta,ZO.eta,Ys.eta,ZQ.eta,YO.eta,ZU.eta] at hc6
     refine ZJ (XW (l:=[0,1,2]) [2] rfl ?_);refine ZA ?_;refine ZH F.lay25 ?_;refine Vg rfl rfl rfl F.ok87 rfl (point_ok M3 bw oa oi oq oj o1a o2a none o1c o2c 0 o1l o2l [] Zt Zs ZC (kn:Int) ZL ZB Zy Zu Zo a9 Zn Zx ZE ZF okt ⟨da,di⟩) (by repeat first|exact Rem.here _|exact Rem.two|apply Rem.skip|apply Rem.over) (YN rfl) ?_
     rintro _ M4 hs4 hm4 ⟨rfl,⟨⟨wa,wi⟩,⟨wq,wj⟩,⟨w1a,w1c,w1l⟩,⟨w2a,w2c,w2l⟩⟩,c9,rfl,okl,hv1⟩
     simp only [List.append_assoc,List.cons_append,List.nil_append]
     refine Zw (WE ?_);refine Zp (Y_pk [4,0] ?_);refine Yq (YS ?_)
     refine Yg (.inr rfl) (.nil) (fun w hw=>?_)
     have h3:=Ur (n:=ZK.nd ⟨⟨⟨Za,Zb⟩,⟨Zf,Zh⟩,⟨Zj,Zi,Zg⟩,⟨Ze,Zd,Zc⟩⟩,Zt,Zs,ZC,(kn:Int),ZL,ZB,Zy,Zu,Zo,Zv,Zn,Zx,⟨Zr,Zq,Zl⟩,ZE,ZF⟩) (m:=(ZK.nd ⟨⟨⟨oa,oi⟩,⟨oq,oj⟩,⟨o1a,o1c,o1l⟩,⟨o2a,o2c,o2l⟩⟩,Zt,Zs,ZC,(kn:Int),ZL,ZB,Zy,Zu,Zo,a9,Zn,Zx,⟨none,0,[]⟩,ZE,ZF⟩)) (id:=(oi+powP kn)) (by show Zs=true;simp_all) h2 rfl
     rw [show VI (ZK.nd ⟨⟨⟨oa,oi⟩,⟨oq,oj⟩,⟨o1a,o1c,o1l⟩,⟨o2a,o2c,o2l⟩⟩,Zt,Zs,ZC,(kn:Int),ZL,ZB,Zy,Zu,Zo,a9,Zn,Zx,⟨none,0,[]⟩,ZE,ZF⟩).table (oi+powP kn)=_ from hd] at h3
     rw [if_pos (by show db=true;simp_all)] at h3
     exact ⟨_,M4,[(bw,rowO (ZQ.segs ⟨⟨⟨⟨wa,wi⟩,⟨wq,wj⟩,⟨w1a,w1c,w1l⟩,⟨w2a,w2c,w2l⟩⟩,Zt,Zs,ZC,c9,ZL,ZB,Zy,Zu,Zo,a9,Zn,Zx,⟨none,0,[]⟩,ZE,ZF⟩,⟨none,0,[]⟩⟩) 68)],rfl,(hM2.trans hm3).trans hm4,hw.c,rfl,⟨⟨⟨wa,wi⟩,⟨wq,wj⟩,⟨w1a,w1c,w1l⟩,⟨w2a,w2c,w2l⟩⟩,Zt,Zs,ZC,c9,ZL,ZB,Zy,Zu,Zo,a9,Zn,Zx,⟨none,0,[]⟩,ZE,ZF⟩,⟨none,0,[]⟩,rfl,by rw [h3];exact hv1,by rw [h3];rfl,⟨okl,(k9.mono hm3).mono hm4⟩,SlK.nil,fun y hy=>by cases hy⟩
    ·skip
     simp only [ZI.eta,ZN.eta,ZK.eta,ZO.eta,Ys.eta,ZQ.eta,YO.eta,ZU.eta] at hc6
     refine YE (Zp (Y_pk [4,0] ?_));refine ZJ (YL (l:=[0,1,2,3,4,5,6,7,8,9,10,11,12,13,14,15,16,17]) #[0,1,3,7,15,0,0,64,192,448,960,2047,4095,8191,8191,0,49151,131071] _ rfl (by kernel_rfl) (by kernel_rfl) St.drawn (fun _ h=>h) ?_);refine ZA ?_;refine Yf ?_;refine Zk F.foff68_0 ?_;refine Zk F.foff32_0 ?_;refine ZH F.lay28 ?_;refine ZH F.lay23 ?_;refine ZA ?_;refine Yf ?_;refine Zk F.foff68_0 ?_;refine Zk F.foff32_13 ?_;refine ZH F.lay30 ?_;refine X_fn rfl rfl F.ok88 rfl (Nearest_ok _ ⟨⟨oa,oi⟩,⟨oq,oj⟩,⟨o1a,o1c,o1l⟩,⟨o2a,o2c,o2l⟩⟩ (oi+powP kn) ⟨none,0,[]⟩ okt (k9.mono hm3) hbo) rfl ?_
     rintro _ M4 hm4 rfl
     obtain ⟨⟨⟨qa,qi⟩,qb⟩,hq⟩:∃ x,Wu (ZN.tb ⟨⟨oa,oi⟩,⟨oq,oj⟩,⟨o1a,o1c,o1l⟩,⟨o2a,o2c,o2l⟩⟩) (oi+powP kn) (⟨none,0,[]⟩:Sl Int).l=x:=⟨_,rfl⟩
     rw [hq]
     refine ZA ?_
     iterate 2 refine XF ?_
     refine YQ F.zero25 ?_;intro b7
     refine ZX F.lay25 ?_;refine ZD ?_;refine Zw (Zp (Y_pk [8,7,4,0] ?_))
     iterate 2 refine ZJ ?_
     refine Zm (l:=[0,1]) rfl ?_;refine ZA ?_;refine XP ?_;refine Zw (Zp (Y_pk [86,7,4,0] ?_))
     refine YC rfl (fun hc8=>?_) (fun hc8=>?_)
     ·skip
      simp only [ZI.eta,ZN.eta,ZK.eta,ZO.eta,Ys.eta,ZQ.eta,YO.eta,ZU.eta] at hc8
      refine ZJ (Zm (l:=[0,1,2,3,4]) rfl ?_);refine ZA ?_;refine Yf ?_;refine Zk F.foff68_0 ?_;refine Zk F.foff32_4 ?_;refine ZX F.lay3 ?_;refine Zw (Zp (Y_pk [7,4,0] ?_));refine Yq (YS ?_)
      refine Yg (.inr rfl) (.nil) (fun w hw=>?_)
      have h3:=Ur (n:=ZK.nd ⟨⟨⟨Za,Zb⟩,⟨Zf,Zh⟩,⟨Zj,Zi,Zg⟩,⟨Ze,Zd,Zc⟩⟩,Zt,Zs,ZC,(kn:Int),ZL,ZB,Zy,Zu,Zo,Zv,Zn,Zx,⟨Zr,Zq,Zl⟩,ZE,ZF⟩) (m:=(ZK.nd ⟨⟨⟨oa,oi⟩,⟨oq,oj⟩,⟨o1a,o1c,o1l⟩,⟨o2a,o2c,o2l⟩⟩,Zt,Zs,ZC,(kn:Int),ZL,ZB,Zy,Zu,Zo,a9,Zn,Zx,⟨none,0,[]⟩,ZE,ZF⟩)) (id:=(oi+powP kn)) (by show Zs=true;simp_all) h2 rfl
      rw [show VI (ZK.nd ⟨⟨⟨oa,oi⟩,⟨oq,oj⟩,⟨o1a,o1c,o1l⟩,⟨o2a,o2c,o2l⟩⟩,Zt,Zs,ZC,(kn:Int),ZL,ZB,Zy,Zu,Zo,a9,Zn,Zx,⟨none,0,[]⟩,ZE,ZF⟩).table (oi+powP kn)=_ from hd] at h3
      rw [if_neg (by show ¬db=true;simp_all),show Wu (ZK.nd ⟨⟨⟨oa,oi⟩,⟨oq,oj⟩,⟨o1a,o1c,o1l⟩,⟨o2a,o2c,o2l⟩⟩,Zt,Zs,ZC,(kn:Int),ZL,ZB,Zy,Zu,Zo,a9,Zn,Zx,⟨none,0,[]⟩,ZE,ZF⟩).table (oi+powP kn) (ZK.nd ⟨⟨⟨oa,oi⟩,⟨oq,oj⟩,⟨o1a,o1c,o1l⟩,⟨o2a,o2c,o2l⟩⟩,Zt,Zs,ZC,(kn:Int),ZL,ZB,Zy,Zu,Zo,a9,Zn,Zx,⟨none,0,[]⟩,ZE,ZF⟩).avoid=_ from hq] at h3
      rw [if_pos (by show qb=false;simp_all)] at h3
      refine ⟨_,M4,[(bw,rowO (ZQ.segs ⟨⟨⟨⟨oa,oi⟩,⟨oq,oj⟩,⟨o1a,o1c,o1l⟩,⟨o2a,o2c,o2l⟩⟩,Zt,Zs,ZC,0,ZL,ZB,Zy,Zu,Zo,a9,Zn,Zx,⟨none,0,[]⟩,ZE,ZF⟩,⟨none,0,[]⟩⟩) 68)],rfl,((hM2.trans hm3).trans hm4),hw.c,rfl,⟨⟨⟨oa,oi⟩,⟨oq,oj⟩,⟨o1a,o1c,o1l⟩,⟨o2a,o2c,o2l⟩⟩,Zt,Zs,ZC,0,ZL,ZB,Zy,Zu,Zo,a9,Zn,Zx,⟨none,0,[]⟩,ZE,ZF⟩,⟨none,0,[]⟩,rfl,?_,?_,⟨okt.mono hm4,(k9.mono hm3).mono hm4⟩,SlK.nil,fun y hy=>by cases hy⟩
      ·rw [h3] <;> rfl
      ·rw [h3] <;> rfl
     ·skip
      simp only [ZI.eta,ZN.eta,ZK.eta,ZO.eta,Ys.eta,ZQ.eta,YO.eta,ZU.eta] at hc8
      refine YE (Zp (Y_pk [7,4,0] ?_));refine ZJ (Zm (l:=[0,1,2,3,4,5,6,7,8,9,10]) rfl ?_)
      iterate 2 refine ZA ?_
      refine ZH F.lay23 ?_;refine Yf ?_;refine Zk F.foff68_0 ?_;refine Zk F.foff32_12 ?_;refine ZX F.lay23 ?_;refine Yf ?_;refine Zk F.foff68_0 ?_;refine Zk F.foff32_14 ?_;refine ZX F.lay3 ?_;refine Zw (Zp (Y_pk [7,0] ?_));refine XW (l:=[0,1,2,3]) [3] rfl ?_;refine ZA ?_;refine Zk F.foff25_0 ?_;refine ZH F.lay3 ?_;refine Vg rfl rfl rfl F.ok89 rfl (seek_ok M4 bw oa oi oq oj o1a o2a none o1c o2c 0 o1l o2l [] Zt Zs ZC (kn:Int) ZL ZB Zy Zu Zo a9 Zn (oi+powP kn) 0 ZF (okt.mono hm4) ((k9.mono hm3).mono hm4) (by (simp;done)) qa) (by repeat first|exact Rem.here _|exact Rem.two|apply Rem.skip|apply Rem.over) (YN rfl) ?_
      rintro _ M5 hs5 hm5 ⟨rfl,⟨⟨⟨Yc,Yp⟩,⟨Yh,Yu⟩,⟨YA,Yz,Ye⟩,⟨Yk,Yj,Yi⟩⟩,Xn,Xo,XI,Xm,XX,Xx,Xp,Xj,YY,Xk,YZ,Xl,⟨Xc,Xb,Xa⟩,XH,XG⟩,⟨o_a,o_c,o_l⟩,rfl,hv1,hv2,okv,oko,okq⟩
      simp only [List.append_assoc,List.cons_append,List.nil_append]
      refine Zw (WE ?_)
      refine Yg (.inl rfl) (.nil) (fun w hw=>?_)
      have h3:=Ur (n:=ZK.nd ⟨⟨⟨Za,Zb⟩,⟨Zf,Zh⟩,⟨Zj,Zi,Zg⟩,⟨Ze,Zd,Zc⟩⟩,Zt,Zs,ZC,(kn:Int),ZL,ZB,Zy,Zu,Zo,Zv,Zn,Zx,⟨Zr,Zq,Zl⟩,ZE,ZF⟩) (m:=(ZK.nd ⟨⟨⟨oa,oi⟩,⟨oq,oj⟩,⟨o1a,o1c,o1l⟩,⟨o2a,o2c,o2l⟩⟩,Zt,Zs,ZC,(kn:Int),ZL,ZB,Zy,Zu,Zo,a9,Zn,Zx,⟨none,0,[]⟩,ZE,ZF⟩)) (id:=(oi+powP kn)) (by show Zs=true;simp_all) h2 rfl
      rw [show VI (ZK.nd ⟨⟨⟨oa,oi⟩,⟨oq,oj⟩,⟨o1a,o1c,o1l⟩,⟨o2a,o2c,o2l⟩⟩,Zt,Zs,ZC,(kn:Int),ZL,ZB,Zy,Zu,Zo,a9,Zn,Zx,⟨none,0,[]⟩,ZE,ZF⟩).table (oi+powP kn)=_ from hd] at h3
      rw [if_neg (by show ¬db=true;simp_all),show Wu (ZK.nd ⟨⟨⟨oa,oi⟩,⟨oq,oj⟩,⟨o1a,o1c,o1l⟩,⟨o2a,o2c,o2l⟩⟩,Zt,Zs,ZC,(kn:Int),ZL,ZB,Zy,Zu,Zo,a9,Zn,Zx,⟨none,0,[]⟩,ZE,ZF⟩).table (oi+powP kn) (ZK.nd ⟨⟨⟨oa,oi⟩,⟨oq,oj⟩,⟨o1a,o1c,o1l⟩,⟨o2a,o2c,o2l⟩⟩,Zt,Zs,ZC,(kn:Int),ZL,ZB,Zy,Zu,Zo,a9,Zn,Zx,⟨none,0,[]⟩,ZE,ZF⟩).avoid=_ from hq] at h3
      rw [if_neg (by show ¬qb=false;simp_all)] at h3
      exact ⟨_,M5,[(bw,rowO (ZQ.segs ⟨⟨⟨⟨Yc,Yp⟩,⟨Yh,Yu⟩,⟨YA,Yz,Ye⟩,⟨Yk,Yj,Yi⟩⟩,Xn,Xo,XI,Xm,XX,Xx,Xp,Xj,YY,Xk,YZ,Xl,⟨Xc,Xb,Xa⟩,XH,XG⟩,⟨o_a,o_c,o_l⟩⟩) 68)],rfl,(((hM2.trans hm3).trans hm4).trans hm5),hw.c,rfl,⟨⟨⟨Yc,Yp⟩,⟨Yh,Yu⟩,⟨YA,Yz,Ye⟩,⟨Yk,Yj,Yi⟩⟩,Xn,Xo,XI,Xm,XX,Xx,Xp,Xj,YY,Xk,YZ,Xl,⟨Xc,Xb,Xa⟩,XH,XG⟩,⟨o_a,o_c,o_l⟩,rfl,by rw [h3];exact hv1,by rw [h3];exact hv2,okv,oko,okq⟩
   ·replace hc2:=dF hc2
    refine XW (l:=[0,1,2,3,4,5,6]) [6] rfl ?_
    iterate 2 refine ZA ?_
    refine Yf ?_;refine Zk F.foff68_0 ?_;refine Zk F.foff32_10 ?_;refine ZH F.lay3 ?_;refine Vg rfl rfl rfl F.ok84 rfl (shun_ok M bw _ _ _ _ _ _ _ _ _ _ _ _ _ _ _ _ _ _ _ _ _ _ _ _ _ _ _ hav hA (by omega) Zv) (by repeat first|exact Rem.here _|exact Rem.two|apply Rem.skip|apply Rem.over) (YN rfl) ?_
    rintro _ M1 hs1 hm1 ⟨hM1,rfl,⟨s_a,s_c,s_l⟩,hs9,rfl,ho9,hl9⟩
    subst M1
    simp only [Sl.val] at ho9
    simp only at hl9
    have hLs:s_l.length≤901:=shun_len hl9 hLa
    simp only [List.append_assoc,List.cons_append,List.nil_append]
    refine Zw (WE ?_);refine Zp (Y_pk [0] ?_);refine ZJ ?_
    refine Un ho9 (by repeat first|exact Rem.here _|exact Rem.two|apply Rem.skip|apply Rem.over) (fun M2 hM2 k9=>?_)
    refine XW (l:=[0,1,2,3,4,5]) [5] rfl ?_
    iterate 2 refine ZA ?_
    refine Yf ?_;refine Zk F.foff68_0 ?_;refine Zk F.foff32_10 ?_;refine Vg rfl rfl rfl F.ok81 rfl (lostF_ok M2 bw Za Zb Zf Zh Zj Ze s_a Zi Zd s_c Zg Zc s_l Zt Zs ZC (kn:Int) ZL ZB Zy Zu Zo Zv Zn Zx ZE ZF (Yt.mono hM2) hbig) (by repeat first|exact Rem.here _|exact Rem.two|apply Rem.skip|apply Rem.over) (YN rfl) ?_
    rintro _ M3 hs3 hm3 ⟨rfl,⟨⟨oa,oi⟩,⟨oq,oj⟩,⟨o1a,o1c,o1l⟩,⟨o2a,o2c,o2l⟩⟩,a9,rfl,okt,hlo⟩
    have hbo:=lost_big (congrArg Prod.fst hlo) hbig
    have h2:=fix_shun (n:=ZK.nd ⟨⟨⟨Za,Zb⟩,⟨Zf,Zh⟩,⟨Zj,Zi,Zg⟩,⟨Ze,Zd,Zc⟩⟩,Zt,Zs,ZC,(kn:Int),ZL,ZB,Zy,Zu,Zo,Zv,Zn,Zx,⟨Zr,Zq,Zl⟩,ZE,ZF⟩) (l:=s_l) hlo (show Zv≠-1 by omega) hl9
    simp only [List.append_assoc,List.cons_append,List.nil_append]
    refine Zw (WE ?_);refine Zp (Y_pk [0] ?_);refine ZJ (Zm (l:=[0,1,2,3,4,5,6,7,8,9,10,11]) rfl ?_);refine ZA ?_;refine Yf ?_;refine Zk F.foff68_0 ?_;refine Zk F.foff32_4 ?_;refine ZH F.lay3 ?_;refine X_fs rfl rfl F.ok85 rfl (Power_ok_in _ kn (by omega)) rfl ?_
    rintro _ rfl
    refine ZA ?_
    iterate 2 refine XF ?_
    refine YQ F.zero23 ?_;intro b9
    refine ZX F.lay23 ?_;refine ZD ?_;refine Zw (Zp (Y_pk [2,0] ?_));refine ZJ (YL (l:=[0,1,2,3,4,5,6,7,8,9,10]) #[0,1,3,7,15,31,63,0,255,0,1023] _ rfl (by kernel_rfl) (by kernel_rfl) St.drawn (fun _ h=>h) ?_);refine ZA ?_;refine Yf ?_;refine Zk F.foff68_0 ?_;refine Zk F.foff32_0 ?_;refine Zk F.foff28_0 ?_;refine Zk F.foff25_1 ?_
    iterate 2 refine ZH F.lay23 ?_
    refine X_fs rfl rfl F.ok86 rfl (Plus_ok _ _ _) rfl ?_
    rintro _ rfl
    refine YQ F.zero23 ?_;intro b10
    refine ZX F.lay23 ?_;refine Zw (Zp (Y_pk [4,0] ?_))
    iterate 2 refine ZJ ?_
    refine YL (l:=[0,1,2,3,4,5,6,7,8,9,10,11,12]) #[0,1,3,7,15,0,63,127,255,255,0,1535,4095] _ rfl (by kernel_rfl) (by kernel_rfl) St.drawn (fun _ h=>h) ?_;refine ZA ?_;refine Yf ?_;refine Zk F.foff68_0 ?_;refine Zk F.foff32_0 ?_;refine ZH F.lay28 ?_;refine ZH F.lay23 ?_;refine X_fs rfl rfl F.ok19 rfl (Done_ok _ ⟨⟨oa,oi⟩,⟨oq,oj⟩,⟨o1a,o1c,o1l⟩,⟨o2a,o2c,o2l⟩⟩ (oi+powP kn) okt) rfl ?_
    rintro _ rfl
    obtain ⟨⟨⟨da,di⟩,db⟩,hd⟩:∃ x,VI (ZN.tb ⟨⟨oa,oi⟩,⟨oq,oj⟩,⟨o1a,o1c,o1l⟩,⟨o2a,o2c,o2l⟩⟩) (oi+powP kn)=x:=⟨_,rfl⟩
    rw [hd]
    refine ZA ?_
    iterate 2 refine XF ?_
    refine YQ F.zero25 ?_;intro b11
    refine ZX F.lay25 ?_;refine ZD ?_;refine Zw (Zp (Y_pk [6,5,4,0] ?_));refine ZJ (Zm (l:=[0]) rfl ?_);refine ZA ?_;refine Zw (Zp (Y_pk [66,5,4,0] ?_))
    refine YC rfl (fun hc12=>?_) (fun hc12=>?_)
    ·skip
     simp only [ZI.eta,ZN.eta,ZK.eta,ZO.eta,Ys.eta,ZQ.eta,YO.eta,ZU.eta] at hc12
     refine ZJ (XW (l:=[0,1,2]) [2] rfl ?_);refine ZA ?_;refine ZH F.lay25 ?_;refine Vg rfl rfl rfl F.ok87 rfl (point_ok M3 bw oa oi oq oj o1a o2a s_a o1c o2c s_c o1l o2l s_l Zt Zs ZC (kn:Int) ZL ZB Zy Zu Zo a9 Zn Zx ZE ZF okt ⟨da,di⟩) (by repeat first|exact Rem.here _|exact Rem.two|apply Rem.skip|apply Rem.over) (YN rfl) ?_
     rintro _ M4 hs4 hm4 ⟨rfl,⟨⟨wa,wi⟩,⟨wq,wj⟩,⟨w1a,w1c,w1l⟩,⟨w2a,w2c,w2l⟩⟩,c9,rfl,okl,hv1⟩
     simp only [List.append_assoc,List.cons_append,List.nil_append]
     refine Zw (WE ?_);refine Zp (Y_pk [4,0] ?_);refine Yq (YS ?_)
     refine Yg (.inr rfl) (.nil) (fun w hw=>?_)
     have h3:=Ur (n:=ZK.nd ⟨⟨⟨Za,Zb⟩,⟨Zf,Zh⟩,⟨Zj,Zi,Zg⟩,⟨Ze,Zd,Zc⟩⟩,Zt,Zs,ZC,(kn:Int),ZL,ZB,Zy,Zu,Zo,Zv,Zn,Zx,⟨Zr,Zq,Zl⟩,ZE,ZF⟩) (m:=(ZK.nd ⟨⟨⟨oa,oi⟩,⟨oq,oj⟩,⟨o1a,o1c,o1l⟩,⟨o2a,o2c,o2l⟩⟩,Zt,Zs,ZC,(kn:Int),ZL,ZB,Zy,Zu,Zo,a9,Zn,Zx,⟨s_a,s_c,s_l⟩,ZE,ZF⟩)) (id:=(oi+powP kn)) (by show Zs=true;simp_all) h2 rfl
     rw [show VI (ZK.nd ⟨⟨⟨oa,oi⟩,⟨oq,oj⟩,⟨o1a,o1c,o1l⟩,⟨o2a,o2c,o2l⟩⟩,Zt,Zs,ZC,(kn:Int),ZL,ZB,Zy,Zu,Zo,a9,Zn,Zx,⟨s_a,s_c,s_l⟩,ZE,ZF⟩).table (oi+powP kn)=_ from hd] at h3
     rw [if_pos (by show db=true;simp_all)] at h3
     exact ⟨_,M4,[(bw,rowO (ZQ.segs ⟨⟨⟨⟨wa,wi⟩,⟨wq,wj⟩,⟨w1a,w1c,w1l⟩,⟨w2a,w2c,w2l⟩⟩,Zt,Zs,ZC,c9,ZL,ZB,Zy,Zu,Zo,a9,Zn,Zx,⟨s_a,s_c,s_l⟩,ZE,ZF⟩,⟨none,0,[]⟩⟩) 68)],rfl,(hM2.trans hm3).trans hm4,hw.c,rfl,⟨⟨⟨wa,wi⟩,⟨wq,wj⟩,⟨w1a,w1c,w1l⟩,⟨w2a,w2c,w2l⟩⟩,Zt,Zs,ZC,c9,ZL,ZB,Zy,Zu,Zo,a9,Zn,Zx,⟨s_a,s_c,s_l⟩,ZE,ZF⟩,⟨none,0,[]⟩,rfl,by rw [h3];exact hv1,by rw [h3];rfl,⟨okl,(k9.mono hm3).mono hm4⟩,SlK.nil,fun y hy=>by cases hy⟩
    ·skip
     simp only [ZI.eta,ZN.eta,ZK.eta,ZO.eta,Ys.eta,ZQ.eta,YO.eta,ZU.eta] at hc12
     refine YE (Zp (Y_pk [4,0] ?_));refine ZJ (YL (l:=[0,1,2,3,4,5,6,7,8,9,10,11,12,13,14,15,16,17]) #[0,1,3,7,15,0,0,64,192,448,960,2047,4095,8191,8191,0,49151,131071] _ rfl (by kernel_rfl) (by kernel_rfl) St.drawn (fun _ h=>h) ?_);refine ZA ?_;refine Yf ?_;refine Zk F.foff68_0 ?_;refine Zk F.foff32_0 ?_;refine ZH F.lay28 ?_;refine ZH F.lay23 ?_;refine ZA ?_;refine Yf ?_;refine Zk F.foff68_0 ?_;refine Zk F.foff32_13 ?_;refine ZH F.lay30 ?_;refine X_fn rfl rfl F.ok88 rfl (Nearest_ok _ ⟨⟨oa,oi⟩,⟨oq,oj⟩,⟨o1a,o1c,o1l⟩,⟨o2a,o2c,o2l⟩⟩ (oi+powP kn) ⟨s_a,s_c,s_l⟩ okt (k9.mono hm3) hbo) rfl ?_
     rintro _ M4 hm4 rfl
     obtain ⟨⟨⟨qa,qi⟩,qb⟩,hq⟩:∃ x,Wu (ZN.tb ⟨⟨oa,oi⟩,⟨oq,oj⟩,⟨o1a,o1c,o1l⟩,⟨o2a,o2c,o2l⟩⟩) (oi+powP kn) (⟨s_a,s_c,s_l⟩:Sl Int).l=x:=⟨_,rfl⟩
     rw [hq]
     refine ZA ?_
     iterate 2 refine XF ?_
     refine YQ F.zero25 ?_;intro b13
     refine ZX F.lay25 ?_;refine ZD ?_;refine Zw (Zp (Y_pk [8,7,4,0] ?_))
     iterate 2 refine ZJ ?_
     refine Zm (l:=[0,1]) rfl ?_;refine ZA ?_;refine XP ?_;refine Zw (Zp (Y_pk [86,7,4,0] ?_))
     refine YC rfl (fun hc14=>?_) (fun hc14=>?_)
     ·skip
      simp only [ZI.eta,ZN.eta,ZK.eta,ZO.eta,Ys.eta,ZQ.eta,YO.eta,ZU.eta] at hc14
      refine ZJ (Zm (l:=[0,1,2,3,4]) rfl ?_);refine ZA ?_;refine Yf ?_;refine Zk F.foff68_0 ?_;refine Zk F.foff32_4 ?_;refine ZX F.lay3 ?_;refine Zw (Zp (Y_pk [7,4,0] ?_));refine Yq (YS ?_)
      refine Yg (.inr rfl) (.nil) (fun w hw=>?_)
      have h3:=Ur (n:=ZK.nd ⟨⟨⟨Za,Zb⟩,⟨Zf,Zh⟩,⟨Zj,Zi,Zg⟩,⟨Ze,Zd,Zc⟩⟩,Zt,Zs,ZC,(kn:Int),ZL,ZB,Zy,Zu,Zo,Zv,Zn,Zx,⟨Zr,Zq,Zl⟩,ZE,ZF⟩) (m:=(ZK.nd ⟨⟨⟨oa,oi⟩,⟨oq,oj⟩,⟨o1a,o1c,o1l⟩,⟨o2a,o2c,o2l⟩⟩,Zt,Zs,ZC,(kn:Int),ZL,ZB,Zy,Zu,Zo,a9,Zn,Zx,⟨s_a,s_c,s_l⟩,ZE,ZF⟩)) (id:=(oi+powP kn)) (by show Zs=true;simp_all) h2 rfl
      rw [show VI (ZK.nd ⟨⟨⟨oa,oi⟩,⟨oq,oj⟩,⟨o1a,o1c,o1l⟩,⟨o2a,o2c,o2l⟩⟩,Zt,Zs,ZC,(kn:Int),ZL,ZB,Zy,Zu,Zo,a9,Zn,Zx,⟨s_a,s_c,s_l⟩,ZE,ZF⟩).table (oi+powP kn)=_ from hd] at h3
      rw [if_neg (by show ¬db=true;simp_all),show Wu (ZK.nd ⟨⟨⟨oa,oi⟩,⟨oq,oj⟩,⟨o1a,o1c,o1l⟩,⟨o2a,o2c,o2l⟩⟩,Zt,Zs,ZC,(kn:Int),ZL,ZB,Zy,Zu,Zo,a9,Zn,Zx,⟨s_a,s_c,s_l⟩,ZE,ZF⟩).table (oi+powP kn) (ZK.nd ⟨⟨⟨oa,oi⟩,⟨oq,oj⟩,⟨o1a,o1c,o1l⟩,⟨o2a,o2c,o2l⟩⟩,Zt,Zs,ZC,(kn:Int),ZL,ZB,Zy,Zu,Zo,a9,Zn,Zx,⟨s_a,s_c,s_l⟩,ZE,ZF⟩).avoid=_ from hq] at h3
      rw [if_pos (by show qb=false;simp_all)] at h3
      refine ⟨_,M4,[(bw,rowO (ZQ.segs ⟨⟨⟨⟨oa,oi⟩,⟨oq,oj⟩,⟨o1a,o1c,o1l⟩,⟨o2a,o2c,o2l⟩⟩,Zt,Zs,ZC,0,ZL,ZB,Zy,Zu,Zo,a9,Zn,Zx,⟨s_a,s_c,s_l⟩,ZE,ZF⟩,⟨none,0,[]⟩⟩) 68)],rfl,((hM2.trans hm3).trans hm4),hw.c,rfl,⟨⟨⟨oa,oi⟩,⟨oq,oj⟩,⟨o1a,o1c,o1l⟩,⟨o2a,o2c,o2l⟩⟩,Zt,Zs,ZC,0,ZL,ZB,Zy,Zu,Zo,a9,Zn,Zx,⟨s_a,s_c,s_l⟩,ZE,ZF⟩,⟨none,0,[]⟩,rfl,?_,?_,⟨okt.mono hm4,(k9.mono hm3).mono hm4⟩,SlK.nil,fun y hy=>by cases hy⟩
      ·rw [h3] <;> rfl
      ·rw [h3] <;> rfl
     ·skip
      simp only [ZI.eta,ZN.eta,ZK.eta,ZO.eta,Ys.eta,ZQ.eta,YO.eta,ZU.eta] at hc14
      refine YE (Zp (Y_pk [7,4,0] ?_));refine ZJ (Zm (l:=[0,1,2,3,4,5,6,7,8,9,10]) rfl ?_)
      iterate 2 refine ZA ?_
      refine ZH F.lay23 ?_;refine Yf ?_;refine Zk F.foff68_0 ?_;refine Zk F.foff32_12 ?_;refine ZX F.lay23 ?_;refine Yf ?_;refine Zk F.foff68_0 ?_;refine Zk F.foff32_14 ?_;refine ZX F.lay3 ?_;refine Zw (Zp (Y_pk [7,0] ?_));refine XW (l:=[0,1,2,3]) [3] rfl ?_;refine ZA ?_;refine Zk F.foff25_0 ?_;refine ZH F.lay3 ?_;refine Vg rfl rfl rfl F.ok89 rfl (seek_ok M4 bw oa oi oq oj o1a o2a s_a o1c o2c s_c o1l o2l s_l Zt Zs ZC (kn:Int) ZL ZB Zy Zu Zo a9 Zn (oi+powP kn) 0 ZF (okt.mono hm4) ((k9.mono hm3).mono hm4) (by omega) qa) (by repeat first|exact Rem.here _|exact Rem.two|apply Rem.skip|apply Rem.over) (YN rfl) ?_
      rintro _ M5 hs5 hm5 ⟨rfl,⟨⟨⟨Yc,Yp⟩,⟨Yh,Yu⟩,⟨YA,Yz,Ye⟩,⟨Yk,Yj,Yi⟩⟩,Xn,Xo,XI,Xm,XX,Xx,Xp,Xj,YY,Xk,YZ,Xl,⟨Xc,Xb,Xa⟩,XH,XG⟩,⟨o_a,o_c,o_l⟩,rfl,hv1,hv2,okv,oko,okq⟩
      simp only [List.append_assoc,List.cons_append,List.nil_append]
      refine Zw (WE ?_)
      refine Yg (.inl rfl) (.nil) (fun w hw=>?_)
      have h3:=Ur (n:=ZK.nd ⟨⟨⟨Za,Zb⟩,⟨Zf,Zh⟩,⟨Zj,Zi,Zg⟩,⟨Ze,Zd,Zc⟩⟩,Zt,Zs,ZC,(kn:Int),ZL,ZB,Zy,Zu,Zo,Zv,Zn,Zx,⟨Zr,Zq,Zl⟩,ZE,ZF⟩) (m:=(ZK.nd ⟨⟨⟨oa,oi⟩,⟨oq,oj⟩,⟨o1a,o1c,o1l⟩,⟨o2a,o2c,o2l⟩⟩,Zt,Zs,ZC,(kn:Int),ZL,ZB,Zy,Zu,Zo,a9,Zn,Zx,⟨s_a,s_c,s_l⟩,ZE,ZF⟩)) (id:=(oi+powP kn)) (by show Zs=true;simp_all) h2 rfl
      rw [show VI (ZK.nd ⟨⟨⟨oa,oi⟩,⟨oq,oj⟩,⟨o1a,o1c,o1l⟩,⟨o2a,o2c,o2l⟩⟩,Zt,Zs,ZC,(kn:Int),ZL,ZB,Zy,Zu,Zo,a9,Zn,Zx,⟨s_a,s_c,s_l⟩,ZE,ZF⟩).table (oi+powP kn)=_ from hd] at h3
      rw [if_neg (by show ¬db=true;simp_all),show Wu (ZK.nd ⟨⟨⟨oa,oi⟩,⟨oq,oj⟩,⟨o1a,o1c,o1l⟩,⟨o2a,o2c,o2l⟩⟩,Zt,Zs,ZC,(kn:Int),ZL,ZB,Zy,Zu,Zo,a9,Zn,Zx,⟨s_a,s_c,s_l⟩,ZE,ZF⟩).table (oi+powP kn) (ZK.nd ⟨⟨⟨oa,oi⟩,⟨oq,oj⟩,⟨o1a,o1c,o1l⟩,⟨o2a,o2c,o2l⟩⟩,Zt,Zs,ZC,(kn:Int),ZL,ZB,Zy,Zu,Zo,a9,Zn,Zx,⟨s_a,s_c,s_l⟩,ZE,ZF⟩).avoid=_ from hq] at h3
      rw [if_neg (by show ¬qb=false;simp_all)] at h3
      exact ⟨_,M5,[(bw,rowO (ZQ.segs ⟨⟨⟨⟨Yc,Yp⟩,⟨Yh,Yu⟩,⟨YA,Yz,Ye⟩,⟨Yk,Yj,Yi⟩⟩,Xn,Xo,XI,Xm,XX,Xx,Xp,Xj,YY,Xk,YZ,Xl,⟨Xc,Xb,Xa⟩,XH,XG⟩,⟨o_a,o_c,o_l⟩⟩) 68)],rfl,(((hM2.trans hm3).trans hm4).trans hm5),hw.c,rfl,⟨⟨⟨Yc,Yp⟩,⟨Yh,Yu⟩,⟨YA,Yz,Ye⟩,⟨Yk,Yj,Yi⟩⟩,Xn,Xo,XI,Xm,XX,Xx,Xp,Xj,YY,Xk,YZ,Xl,⟨Xc,Xb,Xa⟩,XH,XG⟩,⟨o_a,o_c,o_l⟩,rfl,by rw [h3];exact hv1,by rw [h3];exact hv2,okv,oko,okq⟩
end Go.Proofs.YtajmnjefajknoaaGreat
namespace Go.Proofs.YtajmnjefajknoaaGreat
open Go.Esp
theorem check_ok (M:Mem) (bw:Nat) (Za:Int) (Zb:Plc) (Zf:Int) (Zh:Plc) (Zj Ze Zr:Option Addr) (Zi Zd Zq:Nat) (Zg Zc:List ZI) (Zl:List Int) (Zt:Int) (Zs:Bool) (ZC Zz ZL ZB Zy Zu Zo Zv Zn:Int) (Zx:Plc) (ZE ZF:Int) (Yt:ZN.ok M ⟨⟨Za,Zb⟩,⟨Zf,Zh⟩,⟨Zj,Zi,Zg⟩,⟨Ze,Zd,Zc⟩⟩) (hbig:Zg.length≤40∧Zc.length≤200) (htu:0≤ZF∧ZF≤999999) (hav:Hp) (hA:OSl 3 1 (.slice Zr Zl.length Zq) hav (Zl.map (oneI .i64))) (hLa:Zl.length≤900):Fh Tryz.prog 35 [.pointer (some ⟨bw,0,none⟩)] M ((bw,rowO (ZQ.segs ⟨⟨⟨⟨Za,Zb⟩,⟨Zf,Zh⟩,⟨Zj,Zi,Zg⟩,⟨Ze,Zd,Zc⟩⟩,Zt,Zs,ZC,Zz,ZL,ZB,Zy,Zu,Zo,Zv,Zn,Zx,⟨Zr,Zq,Zl⟩,ZE,ZF⟩,⟨none,0,[]⟩⟩) 68)::hav) (fun M' v Hout=>v=.tuple #[]∧WkF bw 68 M' Hout (Ux (ZK.nd ⟨⟨⟨Za,Zb⟩,⟨Zf,Zh⟩,⟨Zj,Zi,Zg⟩,⟨Ze,Zd,Zc⟩⟩,Zt,Zs,ZC,Zz,ZL,ZB,Zy,Zu,Zo,Zv,Zn,Zx,⟨Zr,Zq,Zl⟩,ZE,ZF⟩))):=by
  obtain ⟨tn,rfl⟩:∃ tn:Nat,ZF=(tn:Int):=⟨ZF.toNat,by omega⟩
  refine Wj (fun H=>(bw,rowO (ZQ.segs ⟨⟨⟨⟨Za,Zb⟩,⟨Zf,Zh⟩,⟨Zj,Zi,Zg⟩,⟨Ze,Zd,Zc⟩⟩,Zt,Zs,ZC,Zz,ZL,ZB,Zy,Zu,Zo,Zv,Zn,Zx,⟨Zr,Zq,Zl⟩,ZE,(tn:Int)⟩,⟨none,0,[]⟩⟩) 68)::(hav++H)) (fun _=>by simp only [List.append_assoc,List.cons_append,List.nil_append]) Tryz.func35 rfl Tryz.ntmps35 rfl ?_;intro H
  refine ZJ ?_
  refine Un hA (by repeat first|exact Rem.here _|exact Rem.two|apply Rem.skip|apply Rem.over) (fun M2 hM2 k9=>?_)
  refine XW (l:=[0,1,2,3,4,5]) [5] rfl ?_
  iterate 2 refine ZA ?_
  refine Yf ?_;refine Zk F.foff68_0 ?_;refine Zk F.foff32_8 ?_;refine Vg rfl rfl rfl F.ok81 rfl (lostP_ok M2 bw Za Zb Zf Zh Zj Ze Zr Zi Zd Zq Zg Zc Zl Zt Zs ZC Zz ZL ZB Zy Zu Zo Zv Zn Zx ZE (tn:Int) (Yt.mono hM2) hbig) (by repeat first|exact Rem.here _|exact Rem.two|apply Rem.skip|apply Rem.over) (YN rfl) ?_
  rintro _ M3 hs3 hm3 ⟨rfl,⟨⟨oa,oi⟩,⟨oq,oj⟩,⟨o1a,o1c,o1l⟩,⟨o2a,o2c,o2l⟩⟩,a9,rfl,okt,hlo⟩
  have hbo:=lost_big (congrArg Prod.fst hlo) hbig
  have h2:=lost_ping (n:=ZK.nd ⟨⟨⟨Za,Zb⟩,⟨Zf,Zh⟩,⟨Zj,Zi,Zg⟩,⟨Ze,Zd,Zc⟩⟩,Zt,Zs,ZC,Zz,ZL,ZB,Zy,Zu,Zo,Zv,Zn,Zx,⟨Zr,Zq,Zl⟩,ZE,(tn:Int)⟩) hlo
  simp only [List.append_assoc,List.cons_append,List.nil_append]
  refine Zw (WE ?_);refine Zp (Y_pk [0] ?_);refine ZJ (Zm (l:=[0,1,2,3,4,5,6]) rfl ?_);refine ZA ?_;refine Yf ?_;refine Zk F.foff68_0 ?_;refine Zk F.foff32_0 ?_;refine ZH F.lay28 ?_;refine X_fn rfl rfl F.ok90 rfl (Known_ok _ ⟨⟨oa,oi⟩,⟨oq,oj⟩,⟨o1a,o1c,o1l⟩,⟨o2a,o2c,o2l⟩⟩ okt hbo) rfl ?_
  rintro _ M4 hm4 ⟨⟨l_a,l_c,l_l⟩,rfl,hkl,okl⟩
  simp only at hkl
  have s_l:=okl.h1
  simp only at s_l
  have n_l:(l_l.map ZI.segs).length=l_l.length:=List.length_map ..
  have m_l:l_l.length≤9223372036854775807:=okl.h2
  refine ZD ?_;refine Zw (Zp (Y_pk [2,0] ?_))
  iterate 2 refine ZJ ?_
  refine Zm (l:=[0,1,2]) rfl ?_;refine ZA ?_;refine YW F.elem26 ?_;refine YJ ?_;refine Zw (Zp (Y_pk [17,2,0] ?_))
  refine YC rfl (fun hc1=>?_) (fun hc1=>?_)
  ·replace hc1:=dT hc1
   refine Yq (YS ?_)
   refine Yg (.inr rfl) (.nil) (fun w hw=>?_)
   have hl0:l_l=[]:=List.length_eq_zero_iff.1 (by omega)
   rw [hl0] at hkl
   have h3:=check_nil (n:=(ZK.nd ⟨⟨⟨Za,Zb⟩,⟨Zf,Zh⟩,⟨Zj,Zi,Zg⟩,⟨Ze,Zd,Zc⟩⟩,Zt,Zs,ZC,Zz,ZL,ZB,Zy,Zu,Zo,Zv,Zn,Zx,⟨Zr,Zq,Zl⟩,ZE,(tn:Int)⟩)) (m:=(ZK.nd ⟨⟨⟨oa,oi⟩,⟨oq,oj⟩,⟨o1a,o1c,o1l⟩,⟨o2a,o2c,o2l⟩⟩,Zt,Zs,ZC,Zz,ZL,ZB,Zy,a9,Zo,Zv,Zn,Zx,⟨Zr,Zq,Zl⟩,ZE,(tn:Int)⟩)) h2 hkl.symm
   refine ⟨_,M4,[(bw,rowO (ZQ.segs ⟨⟨⟨⟨oa,oi⟩,⟨oq,oj⟩,⟨o1a,o1c,o1l⟩,⟨o2a,o2c,o2l⟩⟩,Zt,Zs,ZC,Zz,ZL,ZB,Zy,a9,Zo,Zv,Zn,Zx,⟨Zr,Zq,Zl⟩,ZE,(tn:Int)⟩,⟨none,0,[]⟩⟩) 68)],rfl,((hM2.trans hm3).trans hm4),hw.c,rfl,⟨⟨⟨oa,oi⟩,⟨oq,oj⟩,⟨o1a,o1c,o1l⟩,⟨o2a,o2c,o2l⟩⟩,Zt,Zs,ZC,Zz,ZL,ZB,Zy,a9,Zo,Zv,Zn,Zx,⟨Zr,Zq,Zl⟩,ZE,(tn:Int)⟩,⟨none,0,[]⟩,rfl,?_,?_,⟨okt.mono hm4,(k9.mono hm3).mono hm4⟩,SlK.nil,fun y hy=>by cases hy⟩
   ·rw [h3] <;> rfl
   ·rw [h3] <;> rfl
  ·replace hc1:=dF hc1
   refine YE (Zp (Y_pk [2,0] ?_));refine ZJ ?_
   obtain ⟨kk,hkt⟩:∃ kk,tn % l_l.length=kk:=⟨_,rfl⟩
   have hkk:kk<l_l.length:=by rw [← hkt];exact Nat.mod_lt _ (by omega)
   refine Zm (l:=[0,1,2,3,4,5,6,7,8,9,10,11,12,13,14,15,16]) rfl ?_
   iterate 3 refine ZA ?_
   refine Yf ?_;refine Zk F.foff68_0 ?_;refine Zk F.foff32_15 ?_;refine ZH F.lay3 ?_;refine ZA ?_;refine YW F.elem26 ?_;refine UF rfl rfl rfl rfl (by omega) (by exact Up (by omega)) rfl ?_;refine WY 27 rfl (show _=Value.int .i64 (kk:Int) from by rw [← hkt];rfl) ?_;refine YM rfl rfl rfl rfl F.elem26 (by rfl) (by omega) (by exact SlM.plain (by assumption) (by (simp;omega))) rfl ?_;refine Xt rfl rfl rfl (by exact SlM.plain (by assumption) (by (simp;omega))) F.foff25_0 rfl ?_;refine Xs rfl rfl rfl (by assumption) (by exact XQ (by omega)) F.lay3 rfl rfl rfl ?_;refine Yf ?_;refine Zk F.foff68_0 ?_;refine Zk F.foff32_8 ?_;refine ZX F.lay3 ?_;refine Zw (Zp (Y_pk [0] ?_));refine ZJ (XW (l:=[0,1,2,3,4,5,6,7,8,9,10,11,12]) [8] rfl ?_)
   iterate 3 refine ZA ?_
   refine Yf ?_;refine Zk F.foff68_0 ?_;refine Zk F.foff32_8 ?_;refine ZH F.lay3 ?_;refine Xy rfl rfl F.bld44 (.cons rfl (by constructor) .nil) rfl rfl ?_;refine Vg rfl rfl rfl F.ok83 rfl (request_ok M4 bw oa oi oq oj o1a o2a Zr o1c o2c Zq o1l o2l Zl Zt Zs ZC Zz ZL ZB Zy l_l[kk].addr Zo Zv Zn Zx ZE (tn:Int) l_l[kk].addr ⟨6,⟨0,0⟩,0,0,⟨none,0,[]⟩,false,⟨0,0⟩,⟨none,0,[]⟩⟩) (by repeat first|exact Rem.here _|exact Rem.two|apply Rem.skip|apply Rem.over) (YN rfl) ?_
   rintro _ M5 hs5 hm5 ⟨rfl,⟨o9a,o9c,o9l⟩,rfl,k9o,hl9⟩
   simp only at hl9
   simp only [List.append_assoc,List.cons_append,List.nil_append]
   refine Yf ?_;refine Zk F.foff68_0 ?_;refine Zk F.foff32_9 ?_;refine ZX F.lay29 ?_;refine Zw (WE ?_);refine Zp (Y_pk [0] ?_);refine Zm (l:=[0,1,2,3,4,5,6,7,8,9,10,11]) rfl ?_
   iterate 2 refine ZA ?_
   refine Yf ?_;refine Zk F.foff68_0 ?_;refine Zk F.foff32_15 ?_;refine ZH F.lay3 ?_;refine Xz rfl rfl rfl rfl rfl (by exact Xg (by decide) (by omega)) rfl ?_;refine UF rfl rfl rfl rfl (by decide) (by exact Up (by omega)) rfl ?_;refine Yf ?_;refine Zk F.foff68_0 ?_;refine Zk F.foff32_15 ?_;refine ZX F.lay3 ?_;refine Zw ?_
   refine Yg (.inl rfl) (.nil) (fun w hw=>?_)
   have h3:=check_cons (n:=(ZK.nd ⟨⟨⟨Za,Zb⟩,⟨Zf,Zh⟩,⟨Zj,Zi,Zg⟩,⟨Ze,Zd,Zc⟩⟩,Zt,Zs,ZC,Zz,ZL,ZB,Zy,Zu,Zo,Zv,Zn,Zx,⟨Zr,Zq,Zl⟩,ZE,(tn:Int)⟩)) (m:=(ZK.nd ⟨⟨⟨oa,oi⟩,⟨oq,oj⟩,⟨o1a,o1c,o1l⟩,⟨o2a,o2c,o2l⟩⟩,Zt,Zs,ZC,Zz,ZL,ZB,Zy,a9,Zo,Zv,Zn,Zx,⟨Zr,Zq,Zl⟩,ZE,(tn:Int)⟩)) h2 hkl.symm hkk hkt rfl
   refine ⟨_,M5,[(bw,rowO (ZQ.segs ⟨⟨⟨⟨oa,oi⟩,⟨oq,oj⟩,⟨o1a,o1c,o1l⟩,⟨o2a,o2c,o2l⟩⟩,Zt,Zs,ZC,Zz,(nxR ZL),ZB,Zy,l_l[kk].addr,(nxR ZL),Zv,Zn,Zx,⟨Zr,Zq,Zl⟩,ZE,(((tn:Int)+1) % 1000000)⟩,⟨o9a,o9c,o9l⟩⟩) 68)],rfl,(((hM2.trans hm3).trans hm4).trans hm5),hw.c,rfl,⟨⟨⟨oa,oi⟩,⟨oq,oj⟩,⟨o1a,o1c,o1l⟩,⟨o2a,o2c,o2l⟩⟩,Zt,Zs,ZC,Zz,(nxR ZL),ZB,Zy,l_l[kk].addr,(nxR ZL),Zv,Zn,Zx,⟨Zr,Zq,Zl⟩,ZE,(((tn:Int)+1) % 1000000)⟩,⟨o9a,o9c,o9l⟩,rfl,?_,?_,⟨(okt.mono hm4).mono hm5,((k9.mono hm3).mono hm4).mono hm5⟩,k9o,fun y hy=>?_⟩
   ·rw [h3] <;> rfl
   ·rw [h3]
    show sndl o9l=_
    rw [hl9];rfl
   ·simp only at hy
    rw [hl9] at hy
    obtain rfl:=List.mem_singleton.1 hy
    exact ⟨⟨SlK.nil,SlK.nil⟩⟩
end Go.Proofs.YtajmnjefajknoaaGreat
namespace Go.Proofs.YtajmnjefajknoaaGreat
open Go.Esp
theorem F.bld68:Bld Tryz.prog 68 [[.one (.int .i64 0),Yr 0,.one (.int .i64 0),Yr 0,.one (.slice none 0 0),.one (.slice none 0 0),.one (.int .i64 0),.one (.bool false),.one (.int .i64 0),.one (.int .i64 0),.one (.int .u64 0),.one (.int .i64 0),.one (.int .u64 0),.one (.int .i64 0),.one (.int .u64 0),.one (.int .i64 0),.one (.int .u64 0),Yr 0,.one (.slice none 0 0),.one (.int .i64 0),.one (.int .i64 0)],[.one (.slice none 0 0)]]:=by rw [Uq];exact ⟨by kernel_rfl,by kernel_rfl⟩
theorem F.map65:mapOf Tryz.prog 65=some (3,63):=by kernel_rfl
theorem F.ok27:okFn Tryz.prog 27=true:=by kernel_rfl
theorem F.ok33:okFn Tryz.prog 33=true:=by kernel_rfl
theorem F.ok34:okFn Tryz.prog 34=true:=by kernel_rfl
theorem F.ok35:okFn Tryz.prog 35=true:=by kernel_rfl
theorem F.ok36:okFn Tryz.prog 36=true:=by kernel_rfl
theorem F.zero63:WC Tryz.prog 63=some (.nilFunc):=by kernel_rfl
theorem of_ok (M:Mem) (Za:Int) (Zb:Plc) (Zf:Int) (Zh:Plc) (Zj Ze Zr:Option Addr) (Zi Zd Zq:Nat) (Zg Zc:List ZI) (Zl:List Int) (Zt:Int) (Zs:Bool) (ZC Zz ZL ZB Zy Zu Zo Zv Zn:Int) (Zx:Plc) (ZE ZF:Int) (YI:SlK M (oneI .i64) 1 ⟨Zr,Zq,Zl⟩) (hLa:Zl.length≤1000):Fh Tryz.prog 36 [ZK.enc ⟨⟨⟨Za,Zb⟩,⟨Zf,Zh⟩,⟨Zj,Zi,Zg⟩,⟨Ze,Zd,Zc⟩⟩,Zt,Zs,ZC,Zz,ZL,ZB,Zy,Zu,Zo,Zv,Zn,Zx,⟨Zr,Zq,Zl⟩,ZE,ZF⟩] M [] (fun M' v Hout=>M'=M∧∃ (bw:Nat) (a9:Option Addr) (c9:Nat) (hs9:Hp),v=.pointer (some ⟨bw,0,none⟩)∧Hout=(bw,rowO (ZQ.segs ⟨⟨⟨⟨Za,Zb⟩,⟨Zf,Zh⟩,⟨Zj,Zi,Zg⟩,⟨Ze,Zd,Zc⟩⟩,Zt,Zs,ZC,Zz,ZL,ZB,Zy,Zu,Zo,Zv,Zn,Zx,⟨a9,c9,Zl⟩,ZE,ZF⟩,⟨none,0,[]⟩⟩) 68)::hs9∧OSl 3 1 (.slice a9 Zl.length c9) hs9 (Zl.map (oneI .i64))):=by
  refine Vx Tryz.func36 rfl Tryz.ntmps36 rfl ?_;intro H
  refine ZJ (Zm (l:=[0,1]) rfl ?_)
  refine Xv ?_;intro b1
  refine ZD ?_;refine Zw (Zp (Y_pk [2,1] ?_));refine ZJ (Zm (l:=[0,1,2,3,4]) rfl ?_);refine Zk F.foff32_13 ?_;refine ZH F.lay30 ?_;refine VV rfl rfl F.ok91 rfl (CloneI_ok M Zr Zq Zl YI (by omega)) (by repeat first|exact Rem.here _|exact Rem.two|apply Rem.skip|apply Rem.over) (fun _ _ _ hm hw=>(hw.lower (by exact hm)).c) (YN rfl) ?_
  rintro v0 M1 hs0 hm1 ⟨hM1,ho0⟩;subst M1
  obtain ⟨ad0,cp0,rfl⟩:=ho0.valL
  refine Zk F.foff32_13 ?_;refine ZX F.lay30 ?_;refine Zw (Zp (Y_pk [2,1] ?_));refine ZJ (Zm (l:=[0,1,2,3]) rfl ?_);refine ZH F.lay32 ?_;refine Xy rfl rfl F.bld68 (.cons rfl (by constructor) .nil) (setParts_first (by simp only [ZI.segs,ZN.segs,ZK.segs,ZO.segs,Ys.segs,ZQ.segs,YO.segs,ZU.segs,cat,List.append_eq,List.cons_append,List.nil_append,List.append_nil,Segs.len,Seg.len,Yr])) rfl ?_
  refine Xv ?_;intro b2
  refine ZD ?_;refine Zw (Zp (Y_pk [2] ?_));refine Yq ?_
  refine Yg (.inr rfl) (.tmp rfl .nil) (fun w hw=>?_)
  refine ⟨_,M,(b2,rowO (ZQ.segs ⟨⟨⟨⟨Za,Zb⟩,⟨Zf,Zh⟩,⟨Zj,Zi,Zg⟩,⟨Ze,Zd,Zc⟩⟩,Zt,Zs,ZC,Zz,ZL,ZB,Zy,Zu,Zo,Zv,Zn,Zx,⟨ad0,cp0,Zl⟩,ZE,ZF⟩,⟨none,0,[]⟩⟩) 68)::hs0,rfl,Mem.le.refl M,?_,rfl,b2,ad0,cp0,hs0,rfl,rfl,ho0⟩
  simp only [ZQ.segs,Sl.val,List.length_nil] at hw ⊢
  exact hw.c
theorem Tick_yes (M:Mem) (n:ZK) (hn0:ZK.ok M n) (kind:Int) (hk:1≤kind∧kind≤3) (fid:FuncId) (X:Nd→Nd×List Snd) (hl:(Vm (tickL 33 34 35) kind).getD .nilFunc=.func (.func fid) #[] #[]) (hok:okFn Tryz.prog fid=true) (hx:∀ n:Nd,X n=if kind=1 then UC n else if kind=2 then fixN n else Ux n)
   (hc:∀ (M:Mem) (bw:Nat) (Za:Int) (Zb:Plc) (Zf:Int) (Zh:Plc) (Zj Ze Zr:Option Addr) (Zi Zd Zq:Nat) (Zg Zc:List ZI) (Zl:List Int) (Zt:Int) (Zs:Bool) (ZC Zz ZL ZB Zy Zu Zo Zv Zn:Int) (Zx:Plc) (ZE ZF:Int) (Yt:ZN.ok M ⟨⟨Za,Zb⟩,⟨Zf,Zh⟩,⟨Zj,Zi,Zg⟩,⟨Ze,Zd,Zc⟩⟩) (hbig:Zg.length≤40∧Zc.length≤200) (hcu:0≤Zz∧Zz≤159) (htu:0≤ZF∧ZF≤999999) (hav:Hp) (hA:OSl 3 1 (.slice Zr Zl.length Zq) hav (Zl.map (oneI .i64))) (hLa:Zl.length≤900),Fh Tryz.prog fid [.pointer (some ⟨bw,0,none⟩)] M ((bw,rowO (ZQ.segs ⟨⟨⟨⟨Za,Zb⟩,⟨Zf,Zh⟩,⟨Zj,Zi,Zg⟩,⟨Ze,Zd,Zc⟩⟩,Zt,Zs,ZC,Zz,ZL,ZB,Zy,Zu,Zo,Zv,Zn,Zx,⟨Zr,Zq,Zl⟩,ZE,ZF⟩,⟨none,0,[]⟩⟩) 68)::hav) (fun M' v Hout=>v=.tuple #[]∧WkF bw 68 M' Hout (X (ZK.nd ⟨⟨⟨Za,Zb⟩,⟨Zf,Zh⟩,⟨Zj,Zi,Zg⟩,⟨Ze,Zd,Zc⟩⟩,Zt,Zs,ZC,Zz,ZL,ZB,Zy,Zu,Zo,Zv,Zn,Zx,⟨Zr,Zq,Zl⟩,ZE,ZF⟩)))):Esp.Fn Tryz.prog 11 [n.enc,.int .i64 kind] M (fun M' v=>NtE M' v (Ud n.nd kind)):=by
  obtain ⟨⟨⟨Za,Zb⟩,⟨Zf,Zh⟩,⟨Zj,Zi,Zg⟩,⟨Ze,Zd,Zc⟩⟩,Zt,Zs,ZC,Zz,ZL,ZB,Zy,Zu,Zo,Zv,Zn,Zx,⟨Zr,Zq,Zl⟩,ZE,ZF⟩:=n
  have Yt:ZN.ok M ⟨⟨Za,Zb⟩,⟨Zf,Zh⟩,⟨Zj,Zi,Zg⟩,⟨Ze,Zd,Zc⟩⟩:=hn0.h0
  have YU:SlK M ZI.segs 21 ⟨Zj,Zi,Zg⟩:=hn0.h0.h0
  have Wt:SlM M Zj (Zg.map ZI.segs) 21:=YU.h1
  have Wv:(Zg.map ZI.segs).length=Zg.length:=List.length_map ..
  have Ww:Zg.length≤9223372036854775807:=YU.h2
  have Wx:Zg.length≤Zi:=YU.h3
  have YK:SlK M ZI.segs 21 ⟨Ze,Zd,Zc⟩:=hn0.h0.h1
  have Wd:SlM M Ze (Zc.map ZI.segs) 21:=YK.h1
  have Wf:(Zc.map ZI.segs).length=Zc.length:=List.length_map ..
  have Wg:Zc.length≤9223372036854775807:=YK.h2
  have Wh:Zc.length≤Zd:=YK.h3
  have YI:SlK M (oneI .i64) 1 ⟨Zr,Zq,Zl⟩:=hn0.h1
  have WZ:SlM M Zr (Zl.map (oneI .i64)) 1:=YI.h1
  have Vt:(Zl.map (oneI .i64)).length=Zl.length:=List.length_map ..
  have Vj:Zl.length≤9223372036854775807:=YI.h2
  have Vu:Zl.length≤Zq:=YI.h3
  refine WB Tryz.func11 rfl Tryz.ntmps11 rfl ?_;intro H
  refine ZJ (Zm (l:=[0,1,2,3]) rfl ?_)
  refine Xv ?_;intro b1
  refine YQ F.zero32 ?_;intro b2
  iterate 2 refine ZD ?_
  refine Zw (Zp (Y_pk [6,5,4,2,1] ?_));refine ZJ (Zm (l:=[0,1,2,3,4,5]) rfl ?_)
  refine X_makeMap rfl rfl rfl ?_;intro b3
  refine Vk rfl rfl rfl rfl rfl F.map65 imO_nil (by repeat first|exact List.Mem.head _|refine List.Mem.tail _ ?_|refine List.mem_append_right _ ?_) ?_;intro o4 him5;refine ⟨_,(by repeat first|exact Upd.head|apply Upd.tail|apply Upd.over),?_⟩
  refine Vk rfl rfl rfl rfl rfl F.map65 him5 (by repeat first|exact List.Mem.head _|refine List.Mem.tail _ ?_|refine List.mem_append_right _ ?_) ?_;intro o6 him7;refine ⟨_,(by repeat first|exact Upd.head|apply Upd.tail|apply Upd.over),?_⟩
  refine Vk rfl rfl rfl rfl rfl F.map65 him7 (by repeat first|exact List.Mem.head _|refine List.Mem.tail _ ?_|refine List.mem_append_right _ ?_) ?_;intro o8 him9;refine ⟨_,(by repeat first|exact Upd.head|apply Upd.tail|apply Upd.over),?_⟩
  refine ZA ?_;refine ZD ?_;refine Zw (Zp (Y_pk [7,6,5,4,2,1] ?_));refine ZJ (Zm (l:=[0,1,2,3]) rfl ?_)
  iterate 2 refine ZA ?_
  refine X_lookup rfl rfl rfl rfl F.map65 F.zero63 (by repeat first|exact List.Mem.head _|refine List.Mem.tail _ ?_|refine List.mem_append_right _ ?_) him9 (show (Vm (tickL 33 34 35) kind).getD .nilFunc=.func (.func fid) #[] #[] from hl) rfl ?_;refine ZD ?_;refine Zw (Zp (Y_pk [8,6,5,4,2] ?_))
  iterate 2 refine ZJ ?_
  refine Zm (l:=[0,1,2,3,4,5,6]) rfl ?_;refine ZA ?_;refine Y_nil Tryz.underlying63 ?_;refine ZA ?_
  refine Yw 17 rfl (fun hc10=>?_) (fun hc10=>?_)
  ·skip
   (exfalso;simp [eqX] at hc10;done)
  ·skip
   refine ZH F.lay32 ?_;refine X_fs rfl rfl F.ok27 rfl (IsN_ok _ ⟨⟨⟨Za,Zb⟩,⟨Zf,Zh⟩,⟨Zj,Zi,Zg⟩,⟨Ze,Zd,Zc⟩⟩,Zt,Zs,ZC,Zz,ZL,ZB,Zy,Zu,Zo,Zv,Zn,Zx,⟨Zr,Zq,Zl⟩,ZE,ZF⟩ hn0) rfl ?_
   rintro _ rfl
   refine XP ?_;refine ZM ?_;refine Zw (Zp (Y_pk [21,8,6,5,4,2] ?_))
   refine YC rfl (fun hc11=>?_) (fun hc11=>?_)
   ·replace hc11:=nT hc11
    refine ZJ (Zm (l:=[0,1,2,3]) rfl ?_);refine Xy rfl rfl F.bld32 (.nil) rfl rfl ?_;refine Xq F.lay32 ?_
    iterate 2 refine ZD ?_
    refine Zw (Zp (Y_pk [6,5,8,4,2] ?_));refine Yq (YS ?_)
    refine Yg (.inr rfl) (.cell rfl (by repeat first|exact List.Mem.head _|refine List.Mem.tail _ ?_|refine List.mem_append_right _ ?_) F.lay32 rfl rfl (.tmp rfl (.tmp rfl .nil))) (fun w hw=>?_)
    refine ⟨_,M,rfl,Mem.le.refl M,hw.c,ZK.zero,⟨none,0,[]⟩,?_,?_,?_,ZK.zero_ok _,SlK.nil,fun y hy=>by cases hy⟩
    ·rw [VG (n:=ZK.nd ⟨⟨⟨Za,Zb⟩,⟨Zf,Zh⟩,⟨Zj,Zi,Zg⟩,⟨Ze,Zd,Zc⟩⟩,Zt,Zs,ZC,Zz,ZL,ZB,Zy,Zu,Zo,Zv,Zn,Zx,⟨Zr,Zq,Zl⟩,ZE,ZF⟩) (fun q=>absurd q.1 (by assumption))];rfl
    ·rw [VG (n:=ZK.nd ⟨⟨⟨Za,Zb⟩,⟨Zf,Zh⟩,⟨Zj,Zi,Zg⟩,⟨Ze,Zd,Zc⟩⟩,Zt,Zs,ZC,Zz,ZL,ZB,Zy,Zu,Zo,Zv,Zn,Zx,⟨Zr,Zq,Zl⟩,ZE,ZF⟩) (fun q=>absurd q.1 (by assumption))];rfl
    ·rw [VG (n:=ZK.nd ⟨⟨⟨Za,Zb⟩,⟨Zf,Zh⟩,⟨Zj,Zi,Zg⟩,⟨Ze,Zd,Zc⟩⟩,Zt,Zs,ZC,Zz,ZL,ZB,Zy,Zu,Zo,Zv,Zn,Zx,⟨Zr,Zq,Zl⟩,ZE,ZF⟩) (fun q=>absurd q.1 (by assumption))];rfl
   ·replace hc11:=nF hc11
    refine YE (Zp (Y_pk [8,6,5,4,2] ?_));refine ZJ ?_
    have hnd9:IsNd (ZK.nd ⟨⟨⟨Za,Zb⟩,⟨Zf,Zh⟩,⟨Zj,Zi,Zg⟩,⟨Ze,Zd,Zc⟩⟩,Zt,Zs,ZC,Zz,ZL,ZB,Zy,Zu,Zo,Zv,Zn,Zx,⟨Zr,Zq,Zl⟩,ZE,ZF⟩):=by assumption
    have htb9:IsTb (ZN.tb ⟨⟨Za,Zb⟩,⟨Zf,Zh⟩,⟨Zj,Zi,Zg⟩,⟨Ze,Zd,Zc⟩⟩):=hnd9.1
    have hcu9:0≤Zz∧Zz≤159:=hnd9.2.2.2.1
    have htu9:0≤ZF∧ZF≤999999:=hnd9.2.2.2.2.2.2.1
    have hav9:Zl.length≤16:=hnd9.2.2.2.2.1
    refine Zm (l:=[0,1,2]) rfl ?_;refine ZH F.lay32 ?_;refine VV rfl rfl F.ok36 rfl (of_ok M _ _ _ _ _ _ _ _ _ _ _ _ _ _ _ _ _ _ _ _ _ _ _ _ _ _ _ YI (by omega)) (by repeat first|exact Rem.here _|exact Rem.two|apply Rem.skip|apply Rem.over) (fun _ _ _ hm hw=>(hw.lower (by exact hm)).c) (YN rfl) ?_
    rintro v1 M1 hs1 hm1 ⟨hM1,bw,s_a,s_c,hs9,rfl,rfl,ho9⟩;subst M1
    simp only [List.append_assoc,List.cons_append,List.nil_append]
    refine ZD ?_;refine Zw (Zp (Y_pk [9,8,6,5,4] ?_));refine ZJ (XW (l:=[0,1,2]) [2] rfl ?_)
    iterate 2 refine ZA ?_
    refine X_fhVW (caps:=[]) rfl rfl rfl rfl hok rfl rfl (hc M bw Za Zb Zf Zh Zj Ze s_a Zi Zd s_c Zg Zc Zl Zt Zs ZC Zz ZL ZB Zy Zu Zo Zv Zn Zx ZE ZF Yt (isTb_small (t:=⟨⟨Za,Zb⟩,⟨Zf,Zh⟩,⟨Zj,Zi,Zg⟩,⟨Ze,Zd,Zc⟩⟩) htb9) hcu9 htu9 hs9 ho9 (by omega)) (by repeat first|exact Rem.here _|exact Rem.two|apply Rem.skip|apply Rem.over) (YN rfl) ?_
    rintro _ M2 hs2 hm2 ⟨rfl,⟨⟨⟨Yc,Yp⟩,⟨Yh,Yu⟩,⟨YA,Yz,Ye⟩,⟨Yk,Yj,Yi⟩⟩,Xn,Xo,XI,Xm,XX,Xx,Xp,Xj,YY,Xk,YZ,Xl,⟨Xc,Xb,Xa⟩,XH,XG⟩,⟨o_a,o_c,o_l⟩,rfl,hv1,hv2,okv,oko,okq⟩
    simp only [List.append_assoc,List.cons_append,List.nil_append]
    refine Zw (WE ?_);refine Zp (Y_pk [9,6,5,4] ?_);refine ZJ (C_region_anyWR (l:=[0,1,2,3,4,5,6,7,8,9,10]) (Hin:=[(b2,_)]) [8] #[0,1,3,7,0,16,48,112,15,511,1023] (by repeat first|exact Rem.here _|exact Rem.two|apply Rem.skip|apply Rem.over) rfl (by kernel_rfl) (by kernel_rfl) ?_);refine ZA ?_;refine Yf ?_;refine Zk F.foff68_0 ?_;refine ZH F.lay32 ?_;refine ZA ?_;refine Yf ?_;refine Zk F.foff68_1 ?_;refine ZH F.lay35 ?_;refine X_storeE rfl rfl rfl rfl rfl (by constructor) (by ((try simp only [cat,List.cons_append,List.nil_append,List.append_nil]);(repeat (first|exact XC|refine XN ?_|(refine YP ?_ ?_;rfl)));done)) (by repeat first|exact Upd.head|apply Upd.tail|apply Upd.over) F.lay32 (by simp only [ZI.segs,ZN.segs,ZK.segs,ZO.segs,Ys.segs,ZQ.segs,YO.segs,ZU.segs,cat,List.append_eq,List.cons_append,List.nil_append,List.append_nil,Segs.len,Seg.len,Yr]) (VN (m:=78) rfl (by simp only [ZI.segs,ZN.segs,ZK.segs,ZO.segs,Ys.segs,ZQ.segs,YO.segs,ZU.segs,cat,List.append_eq,List.cons_append,List.nil_append,List.append_nil,Segs.len,Seg.len,Yr]) (by simp only [ZI.segs,ZN.segs,ZK.segs,ZO.segs,Ys.segs,ZQ.segs,YO.segs,ZU.segs,cat,List.append_eq,List.cons_append,List.nil_append,List.append_nil,Segs.len,Seg.len,Yr])) (fun _ h=>h.c) ?_
    iterate 2 refine ZD ?_
    refine Zw (WE ?_);refine Zp (Y_pk [6,5,4] ?_);refine Yq ?_
    refine Yg (.inr rfl) (.cell rfl (by repeat first|exact List.Mem.head _|refine List.Mem.tail _ ?_|refine List.mem_append_right _ ?_) F.lay32 rfl rfl (.tmp rfl (.tmp rfl .nil))) (fun w hw=>?_)
    have h3:=tick_yes (n:=ZK.nd ⟨⟨⟨Za,Zb⟩,⟨Zf,Zh⟩,⟨Zj,Zi,Zg⟩,⟨Ze,Zd,Zc⟩⟩,Zt,Zs,ZC,Zz,ZL,ZB,Zy,Zu,Zo,Zv,Zn,Zx,⟨Zr,Zq,Zl⟩,ZE,ZF⟩) (k:=kind) (r:=X (ZK.nd ⟨⟨⟨Za,Zb⟩,⟨Zf,Zh⟩,⟨Zj,Zi,Zg⟩,⟨Ze,Zd,Zc⟩⟩,Zt,Zs,ZC,Zz,ZL,ZB,Zy,Zu,Zo,Zv,Zn,Zx,⟨Zr,Zq,Zl⟩,ZE,ZF⟩)) hnd9 hk (hx _)
    exact ⟨_,M2,rfl,hm2,hw.c,⟨⟨⟨Yc,Yp⟩,⟨Yh,Yu⟩,⟨YA,Yz,Ye⟩,⟨Yk,Yj,Yi⟩⟩,Xn,Xo,XI,Xm,XX,Xx,Xp,Xj,YY,Xk,YZ,Xl,⟨Xc,Xb,Xa⟩,XH,XG⟩,⟨o_a,o_c,o_l⟩,by rw [h3] <;> rfl,by rw [h3];exact hv1,by rw [h3];exact hv2,okv,oko,okq⟩
theorem Tick_no (M:Mem) (n:ZK) (hn0:ZK.ok M n) (kind:Int) (hk:¬(1≤kind∧kind≤3)) (hl:(Vm (tickL 33 34 35) kind).getD .nilFunc=.nilFunc):Esp.Fn Tryz.prog 11 [n.enc,.int .i64 kind] M (fun M' v=>NtE M' v (Ud n.nd kind)):=by
  obtain ⟨⟨⟨Za,Zb⟩,⟨Zf,Zh⟩,⟨Zj,Zi,Zg⟩,⟨Ze,Zd,Zc⟩⟩,Zt,Zs,ZC,Zz,ZL,ZB,Zy,Zu,Zo,Zv,Zn,Zx,⟨Zr,Zq,Zl⟩,ZE,ZF⟩:=n
  have Yt:ZN.ok M ⟨⟨Za,Zb⟩,⟨Zf,Zh⟩,⟨Zj,Zi,Zg⟩,⟨Ze,Zd,Zc⟩⟩:=hn0.h0
  have YU:SlK M ZI.segs 21 ⟨Zj,Zi,Zg⟩:=hn0.h0.h0
  have Wt:SlM M Zj (Zg.map ZI.segs) 21:=YU.h1
  have Wv:(Zg.map ZI.segs).length=Zg.length:=List.length_map ..
  have Ww:Zg.length≤9223372036854775807:=YU.h2
  have Wx:Zg.length≤Zi:=YU.h3
  have YK:SlK M ZI.segs 21 ⟨Ze,Zd,Zc⟩:=hn0.h0.h1
  have Wd:SlM M Ze (Zc.map ZI.segs) 21:=YK.h1
  have Wf:(Zc.map ZI.segs).length=Zc.length:=List.length_map ..
  have Wg:Zc.length≤9223372036854775807:=YK.h2
  have Wh:Zc.length≤Zd:=YK.h3
  have YI:SlK M (oneI .i64) 1 ⟨Zr,Zq,Zl⟩:=hn0.h1
  have WZ:SlM M Zr (Zl.map (oneI .i64)) 1:=YI.h1
  have Vt:(Zl.map (oneI .i64)).length=Zl.length:=List.length_map ..
  have Vj:Zl.length≤9223372036854775807:=YI.h2
  have Vu:Zl.length≤Zq:=YI.h3
  refine WB Tryz.func11 rfl Tryz.ntmps11 rfl ?_;intro H
  refine ZJ (Zm (l:=[0,1,2,3]) rfl ?_)
  refine Xv ?_;intro b1
  refine YQ F.zero32 ?_;intro b2
  iterate 2 refine ZD ?_
  refine Zw (Zp (Y_pk [6,5,4,2,1] ?_));refine ZJ (Zm (l:=[0,1,2,3,4,5]) rfl ?_)
  refine X_makeMap rfl rfl rfl ?_;intro b3
  refine Vk rfl rfl rfl rfl rfl F.map65 imO_nil (by repeat first|exact List.Mem.head _|refine List.Mem.tail _ ?_|refine List.mem_append_right _ ?_) ?_;intro o4 him5;refine ⟨_,(by repeat first|exact Upd.head|apply Upd.tail|apply Upd.over),?_⟩
  refine Vk rfl rfl rfl rfl rfl F.map65 him5 (by repeat first|exact List.Mem.head _|refine List.Mem.tail _ ?_|refine List.mem_append_right _ ?_) ?_;intro o6 him7;refine ⟨_,(by repeat first|exact Upd.head|apply Upd.tail|apply Upd.over),?_⟩
  refine Vk rfl rfl rfl rfl rfl F.map65 him7 (by repeat first|exact List.Mem.head _|refine List.Mem.tail _ ?_|refine List.mem_append_right _ ?_) ?_;intro o8 him9;refine ⟨_,(by repeat first|exact Upd.head|apply Upd.tail|apply Upd.over),?_⟩
  refine ZA ?_;refine ZD ?_;refine Zw (Zp (Y_pk [7,6,5,4,2,1] ?_));refine ZJ (Zm (l:=[0,1,2,3]) rfl ?_)
  iterate 2 refine ZA ?_
  refine X_lookup rfl rfl rfl rfl F.map65 F.zero63 (by repeat first|exact List.Mem.head _|refine List.Mem.tail _ ?_|refine List.mem_append_right _ ?_) him9 (show (Vm (tickL 33 34 35) kind).getD .nilFunc=.nilFunc from hl) rfl ?_;refine ZD ?_;refine Zw (Zp (Y_pk [8,6,5,4,2] ?_))
  iterate 2 refine ZJ ?_
  refine Zm (l:=[0,1,2,3,4,5,6]) rfl ?_;refine ZA ?_;refine Y_nil Tryz.underlying63 ?_;refine ZA ?_
  refine Yw 17 rfl (fun hc10=>?_) (fun hc10=>?_)
  ·skip
   iterate 3 refine ZY ?_
   refine ZM ?_;refine Zw (Zp (Y_pk [21,8,6,5,4,2] ?_));refine Xw rfl ?_;refine ZJ (Zm (l:=[0,1,2,3]) rfl ?_);refine Xy rfl rfl F.bld32 (.nil) rfl rfl ?_;refine Xq F.lay32 ?_
   iterate 2 refine ZD ?_
   refine Zw (Zp (Y_pk [6,5,8,4,2] ?_));refine Yq (YS ?_)
   refine Yg (.inr rfl) (.cell rfl (by repeat first|exact List.Mem.head _|refine List.Mem.tail _ ?_|refine List.mem_append_right _ ?_) F.lay32 rfl rfl (.tmp rfl (.tmp rfl .nil))) (fun w hw=>?_)
   refine ⟨_,M,rfl,Mem.le.refl M,hw.c,ZK.zero,⟨none,0,[]⟩,?_,?_,?_,ZK.zero_ok _,SlK.nil,fun y hy=>by cases hy⟩
   ·rw [VG (fun q=>hk ⟨q.2.1,q.2.2⟩)];rfl
   ·rw [VG (fun q=>hk ⟨q.2.1,q.2.2⟩)];rfl
   ·rw [VG (fun q=>hk ⟨q.2.1,q.2.2⟩)];rfl
  ·skip
   (exfalso;simp [eqX] at hc10;done)
theorem Tick_ok (M:Mem) (n:ZK) (kind:Int) (hn0:ZK.ok M n):Esp.Fn Tryz.prog 11 [n.enc,.int .i64 kind] M (fun M' v=>NtE M' v (Ud n.nd kind)):=by
  by_cases h1:kind=1
  ·subst h1;exact Tick_yes M n hn0 1 ⟨by decide,by decide⟩ 33 UC tickL1 F.ok33 (fun n=>rfl) (fun M bw Za Zb Zf Zh Zj Ze Zr Zi Zd Zq Zg Zc Zl Zt Zs ZC Zz ZL ZB Zy Zu Zo Zv Zn Zx ZE ZF Yt hbig hcu htu hav hA hLa=>stab_ok M bw Za Zb Zf Zh Zj Ze Zr Zi Zd Zq Zg Zc Zl Zt Zs ZC Zz ZL ZB Zy Zu Zo Zv Zn Zx ZE ZF Yt hbig hav hA hLa)
  by_cases h2:kind=2
  ·subst h2;exact Tick_yes M n hn0 2 ⟨by decide,by decide⟩ 34 fixN tickL2 F.ok34 (fun n=>rfl) (fun M bw Za Zb Zf Zh Zj Ze Zr Zi Zd Zq Zg Zc Zl Zt Zs ZC Zz ZL ZB Zy Zu Zo Zv Zn Zx ZE ZF Yt hbig hcu htu hav hA hLa=>fix_ok M bw Za Zb Zf Zh Zj Ze Zr Zi Zd Zq Zg Zc Zl Zt Zs ZC Zz ZL ZB Zy Zu Zo Zv Zn Zx ZE ZF Yt hbig hcu hav hA hLa)
  by_cases h3:kind=3
  ·subst h3;exact Tick_yes M n hn0 3 ⟨by decide,by decide⟩ 35 Ux tickL3 F.ok35 (fun n=>rfl) (fun M bw Za Zb Zf Zh Zj Ze Zr Zi Zd Zq Zg Zc Zl Zt Zs ZC Zz ZL ZB Zy Zu Zo Zv Zn Zx ZE ZF Yt hbig hcu htu hav hA hLa=>check_ok M bw Za Zb Zf Zh Zj Ze Zr Zi Zd Zq Zg Zc Zl Zt Zs ZC Zz ZL ZB Zy Zu Zo Zv Zn Zx ZE ZF Yt hbig htu hav hA hLa)
  have hk:¬(1≤kind∧kind≤3):=by omega
  exact Tick_no M n hn0 kind hk (tickL0 hk)
end Go.Proofs.YtajmnjefajknoaaGreat
namespace Go.Proofs.YtajmnjefajknoaaGreat
open Go.Esp
theorem F.ok107:okFn Tryz.prog 107=true:=by kernel_rfl
theorem find_ok (M:Mem) (bw:Nat) (Za:Int) (Zb:Plc) (Zf:Int) (Zh:Plc) (Zj Ze Zr:Option Addr) (Zi Zd Zq:Nat) (Zg Zc:List ZI) (Zl:List Int) (Zt:Int) (Zs:Bool) (ZC Zz ZL ZB Zy Zu Zo Zv Zn:Int) (Zx:Plc) (ZE ZF:Int) (Yt:ZN.ok M ⟨⟨Za,Zb⟩,⟨Zf,Zh⟩,⟨Zj,Zi,Zg⟩,⟨Ze,Zd,Zc⟩⟩) (YI:SlK M (oneI .i64) 1 ⟨Zr,Zq,Zl⟩) (hbig:Zg.length≤40∧Zc.length≤200) (hLa:Zl.length≤1000) (hh:0≤ZE∧ZE≤1000) (l:ZO) (hl0:ZO.ok M l) (hLp:l.peers.l.length≤1000) (hk:l.kind=1):Fh Tryz.prog 45 [.pointer (some ⟨bw,0,none⟩),l.enc] M [(bw,rowO (ZQ.segs ⟨⟨⟨⟨Za,Zb⟩,⟨Zf,Zh⟩,⟨Zj,Zi,Zg⟩,⟨Ze,Zd,Zc⟩⟩,Zt,Zs,ZC,Zz,ZL,ZB,Zy,Zu,Zo,Zv,Zn,Zx,⟨Zr,Zq,Zl⟩,ZE,ZF⟩,⟨none,0,[]⟩⟩) 68)] (fun M' v Hout=>v=.tuple #[]∧WkF bw 68 M' Hout (Wn (ZK.nd ⟨⟨⟨Za,Zb⟩,⟨Zf,Zh⟩,⟨Zj,Zi,Zg⟩,⟨Ze,Zd,Zc⟩⟩,Zt,Zs,ZC,Zz,ZL,ZB,Zy,Zu,Zo,Zv,Zn,Zx,⟨Zr,Zq,Zl⟩,ZE,ZF⟩) l.lt)):=by
  obtain ⟨YD,⟨Yb,YT⟩,Xr,l_id,⟨YH,YG,ZZ⟩,Xh,⟨ZS,Yo⟩,⟨YF,YB,ZT⟩⟩:=l
  simp only at hLp hk
  have Wm:SlK M (oneI .i64) 1 ⟨YH,YG,ZZ⟩:=hl0.h0
  have XE:SlK M ZI.segs 21 ⟨YF,YB,ZT⟩:=hl0.h1
  have Wp:=XE.h1
  simp only at Wp
  have VC:(ZT.map ZI.segs).length=ZT.length:=List.length_map ..
  have VD:ZT.length≤YB:=XE.h3
  refine Wj (fun H=>(bw,rowO (ZQ.segs ⟨⟨⟨⟨Za,Zb⟩,⟨Zf,Zh⟩,⟨Zj,Zi,Zg⟩,⟨Ze,Zd,Zc⟩⟩,Zt,Zs,ZC,Zz,ZL,ZB,Zy,Zu,Zo,Zv,Zn,Zx,⟨Zr,Zq,Zl⟩,ZE,ZF⟩,⟨none,0,[]⟩⟩) 68)::H) (fun _=>by simp only [List.append_assoc,List.cons_append,List.nil_append]) Tryz.func45 rfl Tryz.ntmps45 rfl ?_;intro H
  refine ZJ (Zm (l:=[0]) rfl ?_)
  refine Xv ?_;intro b1
  refine Zw (Zp (Y_pk [3,0] ?_))
  iterate 2 refine ZJ ?_
  refine Zm (l:=[0,1,2,3,4,5]) rfl ?_;refine ZA ?_;refine Yf ?_;refine Zk F.foff68_0 ?_;refine Zk F.foff32_2 ?_;refine ZH F.lay4 ?_;refine XP ?_;refine Zw (Zp (Y_pk [12,3,0] ?_))
  refine YC rfl (fun hc2=>?_) (fun hc2=>?_)
  ·skip
   refine Yq (YS ?_)
   refine Yg (.inr rfl) (.nil) (fun w hw=>?_)
   have h3:Wn (ZK.nd ⟨⟨⟨Za,Zb⟩,⟨Zf,Zh⟩,⟨Zj,Zi,Zg⟩,⟨Ze,Zd,Zc⟩⟩,Zt,Zs,ZC,Zz,ZL,ZB,Zy,Zu,Zo,Zv,Zn,Zx,⟨Zr,Zq,Zl⟩,ZE,ZF⟩) (ZO.lt ⟨YD,⟨Yb,YT⟩,Xr,l_id,⟨YH,YG,ZZ⟩,Xh,⟨ZS,Yo⟩,⟨YF,YB,ZT⟩⟩)=((ZK.nd ⟨⟨⟨Za,Zb⟩,⟨Zf,Zh⟩,⟨Zj,Zi,Zg⟩,⟨Ze,Zd,Zc⟩⟩,Zt,Zs,ZC,Zz,ZL,ZB,Zy,Zu,Zo,Zv,Zn,Zx,⟨Zr,Zq,Zl⟩,ZE,ZF⟩),[]):=(does1 hk).trans (congrArg (Prod.mk (ZK.nd ⟨⟨⟨Za,Zb⟩,⟨Zf,Zh⟩,⟨Zj,Zi,Zg⟩,⟨Ze,Zd,Zc⟩⟩,Zt,Zs,ZC,Zz,ZL,ZB,Zy,Zu,Zo,Zv,Zn,Zx,⟨Zr,Zq,Zl⟩,ZE,ZF⟩)) (find_no (show Zs=false by first|assumption|(simp_all;done))))
   refine ⟨_,M,[(bw,rowO (ZQ.segs ⟨⟨⟨⟨Za,Zb⟩,⟨Zf,Zh⟩,⟨Zj,Zi,Zg⟩,⟨Ze,Zd,Zc⟩⟩,Zt,Zs,ZC,Zz,ZL,ZB,Zy,Zu,Zo,Zv,Zn,Zx,⟨Zr,Zq,Zl⟩,ZE,ZF⟩,⟨none,0,[]⟩⟩) 68)],rfl,Mem.le.refl M,hw.c,rfl,⟨⟨⟨Za,Zb⟩,⟨Zf,Zh⟩,⟨Zj,Zi,Zg⟩,⟨Ze,Zd,Zc⟩⟩,Zt,Zs,ZC,Zz,ZL,ZB,Zy,Zu,Zo,Zv,Zn,Zx,⟨Zr,Zq,Zl⟩,ZE,ZF⟩,⟨none,0,[]⟩,rfl,?_,?_,⟨Yt,YI⟩,SlK.nil,fun y hy=>by cases hy⟩
   ·rw [h3] <;> rfl
   ·rw [h3] <;> rfl
  ·skip
   refine YE (Zp (Y_pk [3,0] ?_));refine ZJ (Zm (l:=[0,1,2,3,4]) rfl ?_);refine Zk F.foff44_2 ?_;refine ZH F.lay29 ?_;refine Xy rfl rfl F.bld44 (.cons rfl (by constructor) (.cons rfl (by constructor) .nil)) rfl rfl ?_
   refine YQ F.zero44 ?_;intro b3
   refine X_store rfl rfl rfl rfl (by constructor) (by ((try simp only [cat,List.cons_append,List.nil_append,List.append_nil]);(repeat (first|exact XC|refine XN ?_|(refine YP ?_ ?_;rfl)));done)) (by repeat first|exact Upd.head|apply Upd.tail|apply Upd.over) F.lay44 (by simp only [ZI.segs,ZN.segs,ZK.segs,ZO.segs,Ys.segs,ZQ.segs,YO.segs,ZU.segs,cat,List.append_eq,List.cons_append,List.nil_append,List.append_nil,Segs.len,Seg.len,Yr]) (VN (m:=67) rfl (by simp only [ZI.segs,ZN.segs,ZK.segs,ZO.segs,Ys.segs,ZQ.segs,YO.segs,ZU.segs,cat,List.append_eq,List.cons_append,List.nil_append,List.append_nil,Segs.len,Seg.len,Yr]) (by simp only [ZI.segs,ZN.segs,ZK.segs,ZO.segs,Ys.segs,ZQ.segs,YO.segs,ZU.segs,cat,List.append_eq,List.cons_append,List.nil_append,List.append_nil,Segs.len,Seg.len,Yr])) ?_
   refine Zw (Zp (Y_pk [4,3,0] ?_));refine ZJ (YL (l:=[0,1,2,3,4,5,6,7,8,9,10,11,12,13,14]) #[0,1,3,7,15,0,32,127,255,511,511,1023,3071,8191,16383] _ rfl (by kernel_rfl) (by kernel_rfl) St.drawn (fun _ h=>h) ?_);refine ZA ?_;refine Yf ?_;refine Zk F.foff68_0 ?_;refine Zk F.foff32_0 ?_;refine ZH F.lay28 ?_;refine Zk F.foff44_3 ?_;refine ZH F.lay23 ?_;refine X_fs rfl rfl F.ok19 rfl (Done_ok _ ⟨⟨Za,Zb⟩,⟨Zf,Zh⟩,⟨Zj,Zi,Zg⟩,⟨Ze,Zd,Zc⟩⟩ l_id Yt) rfl ?_
   rintro _ rfl
   obtain ⟨⟨⟨da,di⟩,db⟩,hd⟩:∃ x,VI (ZN.tb ⟨⟨Za,Zb⟩,⟨Zf,Zh⟩,⟨Zj,Zi,Zg⟩,⟨Ze,Zd,Zc⟩⟩) l_id=x:=⟨_,rfl⟩
   rw [hd]
   refine ZA ?_
   iterate 2 refine XF ?_
   refine Zk F.foff44_6 ?_;refine ZX F.lay25 ?_;refine Zk F.foff44_5 ?_;refine ZX F.lay4 ?_;refine Zw (Zp (Y_pk [4,3,0] ?_))
   iterate 2 refine ZJ ?_
   refine YL (l:=[0,1,2,3,4,5,6,7,8,9,10,11,12,13,14,15]) #[0,1,3,7,15,0,32,0,128,511,1023,2047,2047,0,12287,32767] _ rfl (by kernel_rfl) (by kernel_rfl) St.drawn (fun _ h=>h) ?_;refine ZA ?_;refine Yf ?_;refine Zk F.foff68_0 ?_;refine Zk F.foff32_0 ?_;refine ZH F.lay28 ?_;refine Zk F.foff44_3 ?_;refine ZH F.lay23 ?_;refine Zk F.foff44_4 ?_;refine ZH F.lay30 ?_;refine X_fn rfl rfl F.ok88 rfl (Nearest_ok _ ⟨⟨Za,Zb⟩,⟨Zf,Zh⟩,⟨Zj,Zi,Zg⟩,⟨Ze,Zd,Zc⟩⟩ l_id ⟨YH,YG,ZZ⟩ Yt Wm hbig) rfl ?_
   rintro _ M1 hm1 rfl
   obtain ⟨⟨⟨qa,qi⟩,qb⟩,hq⟩:∃ x,Wu (ZN.tb ⟨⟨Za,Zb⟩,⟨Zf,Zh⟩,⟨Zj,Zi,Zg⟩,⟨Ze,Zd,Zc⟩⟩) l_id (⟨YH,YG,ZZ⟩:Sl Int).l=x:=⟨_,rfl⟩
   rw [hq]
   refine ZA ?_
   iterate 2 refine XF ?_
   refine YQ F.zero25 ?_;intro b4
   refine ZX F.lay25 ?_;refine ZD ?_;refine Zw (Zp (Y_pk [6,5,4,3,0] ?_));refine ZJ (Zm (l:=[0,1,2]) rfl ?_);refine Zk F.foff44_5 ?_;refine ZH F.lay4 ?_;refine XP ?_;refine Zw (Zp (Y_pk [44,6,5,4,3,0] ?_))
   refine YC rfl (fun hc5=>?_) (fun hc5=>?_)
   ·skip
    simp only [ZI.eta,ZN.eta,ZK.eta,ZO.eta,Ys.eta,ZQ.eta,YO.eta,ZU.eta] at hc5
    iterate 2 refine ZJ ?_
    refine Zm (l:=[0]) rfl ?_;refine ZA ?_;refine Zw (Zp (Y_pk [45,6,5,4,3,0] ?_))
    refine YC rfl (fun hc6=>?_) (fun hc6=>?_)
    ·skip
     simp only [ZI.eta,ZN.eta,ZK.eta,ZO.eta,Ys.eta,ZQ.eta,YO.eta,ZU.eta] at hc6
     refine Zm (l:=[0,1,2]) rfl ?_;refine ZH F.lay25 ?_;refine Zk F.foff44_6 ?_;refine ZX F.lay25 ?_;refine Zw (Zp (Y_pk [6,4,3,0] ?_));refine Zm (l:=[0,1,2,3]) rfl ?_;refine ZA ?_;refine XP ?_;refine Zk F.foff44_5 ?_;refine ZX F.lay4 ?_;refine Zw (Zp (Y_pk [4,3,0] ?_));refine XW (l:=[0,1,2,3,4,5]) [5] rfl ?_;refine ZA ?_;refine Zk F.foff44_1 ?_;refine Zk F.foff25_0 ?_;refine ZH F.lay3 ?_;refine ZH F.lay44 ?_;refine Vg rfl rfl rfl F.ok65 rfl (sendF_ok M1 bw Za Zb Zf Zh Zj Ze Zr Zi Zd Zq Zg Zc Zl Zt Zs ZC Zz ZL ZB Zy Zu Zo Zv Zn Zx ZE ZF Yb ⟨2,⟨0,0⟩,Xr,0,⟨none,0,[]⟩,(!qb),⟨qa,qi⟩,⟨none,0,[]⟩⟩) (by repeat first|exact Rem.here _|exact Rem.two|apply Rem.skip|apply Rem.over) (YN rfl) ?_
     rintro _ M2 hs2 hm2 ⟨rfl,⟨o9a,o9c,o9l⟩,rfl,k9o,hl9⟩
     simp only at hl9
     simp only [List.append_assoc,List.cons_append,List.nil_append]
     refine Zw (WE ?_)
     refine Yg (.inl rfl) (.nil) (fun w hw=>?_)
     obtain rfl:db=false:=by first|assumption|(simp_all;done)
     obtain rfl:qb=true:=by first|assumption|(simp_all;done)
     have h3:Wn (ZK.nd ⟨⟨⟨Za,Zb⟩,⟨Zf,Zh⟩,⟨Zj,Zi,Zg⟩,⟨Ze,Zd,Zc⟩⟩,Zt,Zs,ZC,Zz,ZL,ZB,Zy,Zu,Zo,Zv,Zn,Zx,⟨Zr,Zq,Zl⟩,ZE,ZF⟩) (ZO.lt ⟨YD,⟨Yb,YT⟩,Xr,l_id,⟨YH,YG,ZZ⟩,Xh,⟨ZS,Yo⟩,⟨YF,YB,ZT⟩⟩)=(ZK.nd ⟨⟨⟨Za,Zb⟩,⟨Zf,Zh⟩,⟨Zj,Zi,Zg⟩,⟨Ze,Zd,Zc⟩⟩,Zt,Zs,ZC,Zz,ZL,ZB,Zy,Zu,Zo,Zv,Zn,Zx,⟨Zr,Zq,Zl⟩,ZE,ZF⟩,[Ys.snd (⟨Yb,(⟨2,⟨Za,Zb⟩,Xr,0,⟨none,0,[]⟩,false,⟨qa,qi⟩,⟨none,0,[]⟩⟩:ZO)⟩:Ys)]):=(does1 hk).trans (congrArg (Prod.mk (ZK.nd ⟨⟨⟨Za,Zb⟩,⟨Zf,Zh⟩,⟨Zj,Zi,Zg⟩,⟨Ze,Zd,Zc⟩⟩,Zt,Zs,ZC,Zz,ZL,ZB,Zy,Zu,Zo,Zv,Zn,Zx,⟨Zr,Zq,Zl⟩,ZE,ZF⟩)) ((find_yes (n:=(ZK.nd ⟨⟨⟨Za,Zb⟩,⟨Zf,Zh⟩,⟨Zj,Zi,Zg⟩,⟨Ze,Zd,Zc⟩⟩,Zt,Zs,ZC,Zz,ZL,ZB,Zy,Zu,Zo,Zv,Zn,Zx,⟨Zr,Zq,Zl⟩,ZE,ZF⟩)) (l:=(ZO.lt ⟨YD,⟨Yb,YT⟩,Xr,l_id,⟨YH,YG,ZZ⟩,Xh,⟨ZS,Yo⟩,⟨YF,YB,ZT⟩⟩)) (show Zs=true by first|assumption|(simp_all;done)) hd hq).trans rfl))
     refine ⟨_,M2,[(bw,rowO (ZQ.segs ⟨⟨⟨⟨Za,Zb⟩,⟨Zf,Zh⟩,⟨Zj,Zi,Zg⟩,⟨Ze,Zd,Zc⟩⟩,Zt,Zs,ZC,Zz,ZL,ZB,Zy,Zu,Zo,Zv,Zn,Zx,⟨Zr,Zq,Zl⟩,ZE,ZF⟩,⟨o9a,o9c,o9l⟩⟩) 68)],rfl,(hm1.trans hm2),hw.c,rfl,⟨⟨⟨Za,Zb⟩,⟨Zf,Zh⟩,⟨Zj,Zi,Zg⟩,⟨Ze,Zd,Zc⟩⟩,Zt,Zs,ZC,Zz,ZL,ZB,Zy,Zu,Zo,Zv,Zn,Zx,⟨Zr,Zq,Zl⟩,ZE,ZF⟩,⟨o9a,o9c,o9l⟩,rfl,?_,?_,⟨(Yt.mono hm1).mono hm2,(YI.mono hm1).mono hm2⟩,k9o,fun y hy=>?_⟩
     ·rw [h3] <;> rfl
     ·rw [h3]
      show sndl o9l=_
      rw [hl9];rfl
     ·simp only at hy
      rw [hl9] at hy
      obtain rfl:=List.mem_singleton.1 hy
      exact ⟨⟨SlK.nil,SlK.nil⟩⟩
    ·skip
     simp only [ZI.eta,ZN.eta,ZK.eta,ZO.eta,Ys.eta,ZQ.eta,YO.eta,ZU.eta] at hc6
     refine YE (Zp (Y_pk [6,4,3,0] ?_));refine Zm (l:=[0,1,2,3]) rfl ?_;refine ZA ?_;refine XP ?_;refine Zk F.foff44_5 ?_;refine ZX F.lay4 ?_;refine Zw (Zp (Y_pk [4,3,0] ?_));refine XW (l:=[0,1,2,3,4,5]) [5] rfl ?_;refine ZA ?_;refine Zk F.foff44_1 ?_;refine Zk F.foff25_0 ?_;refine ZH F.lay3 ?_;refine ZH F.lay44 ?_;refine Vg rfl rfl rfl F.ok65 rfl (sendF_ok M1 bw Za Zb Zf Zh Zj Ze Zr Zi Zd Zq Zg Zc Zl Zt Zs ZC Zz ZL ZB Zy Zu Zo Zv Zn Zx ZE ZF Yb ⟨2,⟨0,0⟩,Xr,0,⟨none,0,[]⟩,(!qb),⟨da,di⟩,⟨none,0,[]⟩⟩) (by repeat first|exact Rem.here _|exact Rem.two|apply Rem.skip|apply Rem.over) (YN rfl) ?_
     rintro _ M2 hs2 hm2 ⟨rfl,⟨o9a,o9c,o9l⟩,rfl,k9o,hl9⟩
     simp only at hl9
     simp only [List.append_assoc,List.cons_append,List.nil_append]
     refine Zw (WE ?_)
     refine Yg (.inl rfl) (.nil) (fun w hw=>?_)
     obtain rfl:db=false:=by first|assumption|(simp_all;done)
     obtain rfl:qb=false:=by first|assumption|(simp_all;done)
     have h3:Wn (ZK.nd ⟨⟨⟨Za,Zb⟩,⟨Zf,Zh⟩,⟨Zj,Zi,Zg⟩,⟨Ze,Zd,Zc⟩⟩,Zt,Zs,ZC,Zz,ZL,ZB,Zy,Zu,Zo,Zv,Zn,Zx,⟨Zr,Zq,Zl⟩,ZE,ZF⟩) (ZO.lt ⟨YD,⟨Yb,YT⟩,Xr,l_id,⟨YH,YG,ZZ⟩,Xh,⟨ZS,Yo⟩,⟨YF,YB,ZT⟩⟩)=(ZK.nd ⟨⟨⟨Za,Zb⟩,⟨Zf,Zh⟩,⟨Zj,Zi,Zg⟩,⟨Ze,Zd,Zc⟩⟩,Zt,Zs,ZC,Zz,ZL,ZB,Zy,Zu,Zo,Zv,Zn,Zx,⟨Zr,Zq,Zl⟩,ZE,ZF⟩,[Ys.snd (⟨Yb,(⟨2,⟨Za,Zb⟩,Xr,0,⟨none,0,[]⟩,true,⟨da,di⟩,⟨none,0,[]⟩⟩:ZO)⟩:Ys)]):=(does1 hk).trans (congrArg (Prod.mk (ZK.nd ⟨⟨⟨Za,Zb⟩,⟨Zf,Zh⟩,⟨Zj,Zi,Zg⟩,⟨Ze,Zd,Zc⟩⟩,Zt,Zs,ZC,Zz,ZL,ZB,Zy,Zu,Zo,Zv,Zn,Zx,⟨Zr,Zq,Zl⟩,ZE,ZF⟩)) ((find_yes (n:=(ZK.nd ⟨⟨⟨Za,Zb⟩,⟨Zf,Zh⟩,⟨Zj,Zi,Zg⟩,⟨Ze,Zd,Zc⟩⟩,Zt,Zs,ZC,Zz,ZL,ZB,Zy,Zu,Zo,Zv,Zn,Zx,⟨Zr,Zq,Zl⟩,ZE,ZF⟩)) (l:=(ZO.lt ⟨YD,⟨Yb,YT⟩,Xr,l_id,⟨YH,YG,ZZ⟩,Xh,⟨ZS,Yo⟩,⟨YF,YB,ZT⟩⟩)) (show Zs=true by first|assumption|(simp_all;done)) hd hq).trans rfl))
     refine ⟨_,M2,[(bw,rowO (ZQ.segs ⟨⟨⟨⟨Za,Zb⟩,⟨Zf,Zh⟩,⟨Zj,Zi,Zg⟩,⟨Ze,Zd,Zc⟩⟩,Zt,Zs,ZC,Zz,ZL,ZB,Zy,Zu,Zo,Zv,Zn,Zx,⟨Zr,Zq,Zl⟩,ZE,ZF⟩,⟨o9a,o9c,o9l⟩⟩) 68)],rfl,(hm1.trans hm2),hw.c,rfl,⟨⟨⟨Za,Zb⟩,⟨Zf,Zh⟩,⟨Zj,Zi,Zg⟩,⟨Ze,Zd,Zc⟩⟩,Zt,Zs,ZC,Zz,ZL,ZB,Zy,Zu,Zo,Zv,Zn,Zx,⟨Zr,Zq,Zl⟩,ZE,ZF⟩,⟨o9a,o9c,o9l⟩,rfl,?_,?_,⟨(Yt.mono hm1).mono hm2,(YI.mono hm1).mono hm2⟩,k9o,fun y hy=>?_⟩
     ·rw [h3] <;> rfl
     ·rw [h3]
      show sndl o9l=_
      rw [hl9];rfl
     ·simp only at hy
      rw [hl9] at hy
      obtain rfl:=List.mem_singleton.1 hy
      exact ⟨⟨SlK.nil,SlK.nil⟩⟩
   ·skip
    simp only [ZI.eta,ZN.eta,ZK.eta,ZO.eta,Ys.eta,ZQ.eta,YO.eta,ZU.eta] at hc5
    refine YE (Zp (Y_pk [4,3,0] ?_));refine XW (l:=[0,1,2,3,4,5]) [5] rfl ?_;refine ZA ?_;refine Zk F.foff44_1 ?_;refine Zk F.foff25_0 ?_;refine ZH F.lay3 ?_;refine ZH F.lay44 ?_;refine Vg rfl rfl rfl F.ok65 rfl (sendF_ok M1 bw Za Zb Zf Zh Zj Ze Zr Zi Zd Zq Zg Zc Zl Zt Zs ZC Zz ZL ZB Zy Zu Zo Zv Zn Zx ZE ZF Yb ⟨2,⟨0,0⟩,Xr,0,⟨none,0,[]⟩,db,⟨da,di⟩,⟨none,0,[]⟩⟩) (by repeat first|exact Rem.here _|exact Rem.two|apply Rem.skip|apply Rem.over) (YN rfl) ?_
    rintro _ M2 hs2 hm2 ⟨rfl,⟨o9a,o9c,o9l⟩,rfl,k9o,hl9⟩
    simp only at hl9
    simp only [List.append_assoc,List.cons_append,List.nil_append]
    refine Zw (WE ?_)
    refine Yg (.inl rfl) (.nil) (fun w hw=>?_)
    obtain rfl:db=true:=by first|assumption|(simp_all;done)
    have h3:Wn (ZK.nd ⟨⟨⟨Za,Zb⟩,⟨Zf,Zh⟩,⟨Zj,Zi,Zg⟩,⟨Ze,Zd,Zc⟩⟩,Zt,Zs,ZC,Zz,ZL,ZB,Zy,Zu,Zo,Zv,Zn,Zx,⟨Zr,Zq,Zl⟩,ZE,ZF⟩) (ZO.lt ⟨YD,⟨Yb,YT⟩,Xr,l_id,⟨YH,YG,ZZ⟩,Xh,⟨ZS,Yo⟩,⟨YF,YB,ZT⟩⟩)=(ZK.nd ⟨⟨⟨Za,Zb⟩,⟨Zf,Zh⟩,⟨Zj,Zi,Zg⟩,⟨Ze,Zd,Zc⟩⟩,Zt,Zs,ZC,Zz,ZL,ZB,Zy,Zu,Zo,Zv,Zn,Zx,⟨Zr,Zq,Zl⟩,ZE,ZF⟩,[Ys.snd (⟨Yb,(⟨2,⟨Za,Zb⟩,Xr,0,⟨none,0,[]⟩,true,⟨da,di⟩,⟨none,0,[]⟩⟩:ZO)⟩:Ys)]):=(does1 hk).trans (congrArg (Prod.mk (ZK.nd ⟨⟨⟨Za,Zb⟩,⟨Zf,Zh⟩,⟨Zj,Zi,Zg⟩,⟨Ze,Zd,Zc⟩⟩,Zt,Zs,ZC,Zz,ZL,ZB,Zy,Zu,Zo,Zv,Zn,Zx,⟨Zr,Zq,Zl⟩,ZE,ZF⟩)) ((find_yes (n:=(ZK.nd ⟨⟨⟨Za,Zb⟩,⟨Zf,Zh⟩,⟨Zj,Zi,Zg⟩,⟨Ze,Zd,Zc⟩⟩,Zt,Zs,ZC,Zz,ZL,ZB,Zy,Zu,Zo,Zv,Zn,Zx,⟨Zr,Zq,Zl⟩,ZE,ZF⟩)) (l:=(ZO.lt ⟨YD,⟨Yb,YT⟩,Xr,l_id,⟨YH,YG,ZZ⟩,Xh,⟨ZS,Yo⟩,⟨YF,YB,ZT⟩⟩)) (show Zs=true by first|assumption|(simp_all;done)) hd hq).trans rfl))
    refine ⟨_,M2,[(bw,rowO (ZQ.segs ⟨⟨⟨⟨Za,Zb⟩,⟨Zf,Zh⟩,⟨Zj,Zi,Zg⟩,⟨Ze,Zd,Zc⟩⟩,Zt,Zs,ZC,Zz,ZL,ZB,Zy,Zu,Zo,Zv,Zn,Zx,⟨Zr,Zq,Zl⟩,ZE,ZF⟩,⟨o9a,o9c,o9l⟩⟩) 68)],rfl,(hm1.trans hm2),hw.c,rfl,⟨⟨⟨Za,Zb⟩,⟨Zf,Zh⟩,⟨Zj,Zi,Zg⟩,⟨Ze,Zd,Zc⟩⟩,Zt,Zs,ZC,Zz,ZL,ZB,Zy,Zu,Zo,Zv,Zn,Zx,⟨Zr,Zq,Zl⟩,ZE,ZF⟩,⟨o9a,o9c,o9l⟩,rfl,?_,?_,⟨(Yt.mono hm1).mono hm2,(YI.mono hm1).mono hm2⟩,k9o,fun y hy=>?_⟩
    ·rw [h3] <;> rfl
    ·rw [h3]
     show sndl o9l=_
     rw [hl9];rfl
    ·simp only at hy
     rw [hl9] at hy
     obtain rfl:=List.mem_singleton.1 hy
     exact ⟨⟨SlK.nil,SlK.nil⟩⟩
theorem ask_ok (M:Mem) (bw:Nat) (Za:Int) (Zb:Plc) (Zf:Int) (Zh:Plc) (Zj Ze Zr:Option Addr) (Zi Zd Zq:Nat) (Zg Zc:List ZI) (Zl:List Int) (Zt:Int) (Zs:Bool) (ZC Zz ZL ZB Zy Zu Zo Zv Zn:Int) (Zx:Plc) (ZE ZF:Int) (Yt:ZN.ok M ⟨⟨Za,Zb⟩,⟨Zf,Zh⟩,⟨Zj,Zi,Zg⟩,⟨Ze,Zd,Zc⟩⟩) (YI:SlK M (oneI .i64) 1 ⟨Zr,Zq,Zl⟩) (hbig:Zg.length≤40∧Zc.length≤200) (hLa:Zl.length≤1000) (hh:0≤ZE∧ZE≤1000) (l:ZO) (hl0:ZO.ok M l) (hLp:l.peers.l.length≤1000) (hk:l.kind=3):Fh Tryz.prog 47 [.pointer (some ⟨bw,0,none⟩),l.enc] M [(bw,rowO (ZQ.segs ⟨⟨⟨⟨Za,Zb⟩,⟨Zf,Zh⟩,⟨Zj,Zi,Zg⟩,⟨Ze,Zd,Zc⟩⟩,Zt,Zs,ZC,Zz,ZL,ZB,Zy,Zu,Zo,Zv,Zn,Zx,⟨Zr,Zq,Zl⟩,ZE,ZF⟩,⟨none,0,[]⟩⟩) 68)] (fun M' v Hout=>v=.tuple #[]∧WkF bw 68 M' Hout (Wn (ZK.nd ⟨⟨⟨Za,Zb⟩,⟨Zf,Zh⟩,⟨Zj,Zi,Zg⟩,⟨Ze,Zd,Zc⟩⟩,Zt,Zs,ZC,Zz,ZL,ZB,Zy,Zu,Zo,Zv,Zn,Zx,⟨Zr,Zq,Zl⟩,ZE,ZF⟩) l.lt)):=by
  obtain ⟨YD,⟨Yb,YT⟩,Xr,l_id,⟨YH,YG,ZZ⟩,Xh,⟨ZS,Yo⟩,⟨YF,YB,ZT⟩⟩:=l
  simp only at hLp hk
  have Wm:SlK M (oneI .i64) 1 ⟨YH,YG,ZZ⟩:=hl0.h0
  have XE:SlK M ZI.segs 21 ⟨YF,YB,ZT⟩:=hl0.h1
  have Wp:=XE.h1
  simp only at Wp
  have VC:(ZT.map ZI.segs).length=ZT.length:=List.length_map ..
  have VD:ZT.length≤YB:=XE.h3
  refine Wj (fun H=>(bw,rowO (ZQ.segs ⟨⟨⟨⟨Za,Zb⟩,⟨Zf,Zh⟩,⟨Zj,Zi,Zg⟩,⟨Ze,Zd,Zc⟩⟩,Zt,Zs,ZC,Zz,ZL,ZB,Zy,Zu,Zo,Zv,Zn,Zx,⟨Zr,Zq,Zl⟩,ZE,ZF⟩,⟨none,0,[]⟩⟩) 68)::H) (fun _=>by simp only [List.append_assoc,List.cons_append,List.nil_append]) Tryz.func47 rfl Tryz.ntmps47 rfl ?_;intro H
  refine ZJ (Zm (l:=[0]) rfl ?_)
  refine Xv ?_;intro b1
  refine Zw (Zp (Y_pk [3,0] ?_));refine ZJ (Zm (l:=[0,1,2,3,4]) rfl ?_);refine ZA ?_;refine Yf ?_;refine Zk F.foff68_0 ?_;refine Zk F.foff32_2 ?_;refine ZH F.lay4 ?_;refine Zw (Zp (Y_pk [8,3,0] ?_))
  refine YC rfl (fun hc2=>?_) (fun hc2=>?_)
  ·skip
   refine C_region_anyW (l:=[0,1,2,3,4,5,6,7,8,9,10,11,12,13,14,15,16,17,18,19]) [19] #[0,0,2,6,0,16,0,64,192,448,960,1984,0,4096,12288,28672,61440,126976,262128,524287] (_) rfl (by kernel_rfl) (by kernel_rfl) St.drawn (fun _ h=>h) ?_;refine ZA ?_;refine Zk F.foff44_1 ?_;refine Zk F.foff25_0 ?_;refine ZH F.lay3 ?_;refine Zk F.foff44_2 ?_;refine ZH F.lay29 ?_;refine ZA ?_;refine Yf ?_;refine Zk F.foff68_0 ?_;refine Zk F.foff32_0 ?_;refine Zk F.foff28_1 ?_;refine ZH F.lay25 ?_;refine ZA ?_;refine Yf ?_;refine Zk F.foff68_0 ?_;refine Zk F.foff32_0 ?_;refine Zk F.foff28_2 ?_;refine ZH F.lay26 ?_;refine Xy rfl rfl F.bld44 (.cons rfl (by constructor) (.cons rfl (by constructor) (.cons rfl (by constructor) (.cons rfl (by constructor) .nil)))) rfl rfl ?_
   refine Vg rfl rfl rfl F.ok65 rfl (sendF_ok M bw Za Zb Zf Zh Zj Ze Zr Zi Zd Zq Zg Zc Zl Zt Zs ZC Zz ZL ZB Zy Zu Zo Zv Zn Zx ZE ZF Yb ⟨4,⟨0,0⟩,Xr,0,⟨none,0,[]⟩,false,⟨Zf,Zh⟩,⟨Zj,Zi,Zg⟩⟩) (by repeat first|exact Rem.here _|exact Rem.two|apply Rem.skip|apply Rem.over) (YN rfl) ?_
   rintro _ M2 hs2 hm2 ⟨rfl,⟨o9a,o9c,o9l⟩,rfl,k9o,hl9⟩
   simp only at hl9
   simp only [List.append_assoc,List.cons_append,List.nil_append]
   refine Zw (WE ?_)
   refine Yg (.inl rfl) (.nil) (fun w hw=>?_)
   have h3:Wn (ZK.nd ⟨⟨⟨Za,Zb⟩,⟨Zf,Zh⟩,⟨Zj,Zi,Zg⟩,⟨Ze,Zd,Zc⟩⟩,Zt,Zs,ZC,Zz,ZL,ZB,Zy,Zu,Zo,Zv,Zn,Zx,⟨Zr,Zq,Zl⟩,ZE,ZF⟩) (ZO.lt ⟨YD,⟨Yb,YT⟩,Xr,l_id,⟨YH,YG,ZZ⟩,Xh,⟨ZS,Yo⟩,⟨YF,YB,ZT⟩⟩)=(ZK.nd ⟨⟨⟨Za,Zb⟩,⟨Zf,Zh⟩,⟨Zj,Zi,Zg⟩,⟨Ze,Zd,Zc⟩⟩,Zt,Zs,ZC,Zz,ZL,ZB,Zy,Zu,Zo,Zv,Zn,Zx,⟨Zr,Zq,Zl⟩,ZE,ZF⟩,[Ys.snd (⟨Yb,(⟨4,⟨Za,Zb⟩,Xr,0,⟨none,0,[]⟩,false,⟨Zf,Zh⟩,⟨Zj,Zi,Zg⟩⟩:ZO)⟩:Ys)]):=does3y hk (show Zs=true by first|assumption|(simp_all;done))
   refine ⟨_,M2,[(bw,rowO (ZQ.segs ⟨⟨⟨⟨Za,Zb⟩,⟨Zf,Zh⟩,⟨Zj,Zi,Zg⟩,⟨Ze,Zd,Zc⟩⟩,Zt,Zs,ZC,Zz,ZL,ZB,Zy,Zu,Zo,Zv,Zn,Zx,⟨Zr,Zq,Zl⟩,ZE,ZF⟩,⟨o9a,o9c,o9l⟩⟩) 68)],rfl,hm2,hw.c,rfl,⟨⟨⟨Za,Zb⟩,⟨Zf,Zh⟩,⟨Zj,Zi,Zg⟩,⟨Ze,Zd,Zc⟩⟩,Zt,Zs,ZC,Zz,ZL,ZB,Zy,Zu,Zo,Zv,Zn,Zx,⟨Zr,Zq,Zl⟩,ZE,ZF⟩,⟨o9a,o9c,o9l⟩,rfl,?_,?_,⟨Yt.mono hm2,YI.mono hm2⟩,k9o,fun y hy=>?_⟩
   ·rw [h3] <;> rfl
   ·rw [h3]
    show sndl o9l=_
    rw [hl9];rfl
   ·simp only at hy
    rw [hl9] at hy
    obtain rfl:=List.mem_singleton.1 hy
    exact ⟨⟨SlK.nil,(Yt.mono hm2).h0⟩⟩
  ·skip
   refine YE ?_
   refine Yg (.inl rfl) (.nil) (fun w hw=>?_)
   have h3:Wn (ZK.nd ⟨⟨⟨Za,Zb⟩,⟨Zf,Zh⟩,⟨Zj,Zi,Zg⟩,⟨Ze,Zd,Zc⟩⟩,Zt,Zs,ZC,Zz,ZL,ZB,Zy,Zu,Zo,Zv,Zn,Zx,⟨Zr,Zq,Zl⟩,ZE,ZF⟩) (ZO.lt ⟨YD,⟨Yb,YT⟩,Xr,l_id,⟨YH,YG,ZZ⟩,Xh,⟨ZS,Yo⟩,⟨YF,YB,ZT⟩⟩)=((ZK.nd ⟨⟨⟨Za,Zb⟩,⟨Zf,Zh⟩,⟨Zj,Zi,Zg⟩,⟨Ze,Zd,Zc⟩⟩,Zt,Zs,ZC,Zz,ZL,ZB,Zy,Zu,Zo,Zv,Zn,Zx,⟨Zr,Zq,Zl⟩,ZE,ZF⟩),[]):=does3n hk (show Zs=false by first|assumption|(simp_all;done))
   refine ⟨_,M,[(bw,rowO (ZQ.segs ⟨⟨⟨⟨Za,Zb⟩,⟨Zf,Zh⟩,⟨Zj,Zi,Zg⟩,⟨Ze,Zd,Zc⟩⟩,Zt,Zs,ZC,Zz,ZL,ZB,Zy,Zu,Zo,Zv,Zn,Zx,⟨Zr,Zq,Zl⟩,ZE,ZF⟩,⟨none,0,[]⟩⟩) 68)],rfl,Mem.le.refl M,hw.c,rfl,⟨⟨⟨Za,Zb⟩,⟨Zf,Zh⟩,⟨Zj,Zi,Zg⟩,⟨Ze,Zd,Zc⟩⟩,Zt,Zs,ZC,Zz,ZL,ZB,Zy,Zu,Zo,Zv,Zn,Zx,⟨Zr,Zq,Zl⟩,ZE,ZF⟩,⟨none,0,[]⟩,rfl,?_,?_,⟨Yt,YI⟩,SlK.nil,fun y hy=>by cases hy⟩
   ·rw [h3] <;> rfl
   ·rw [h3] <;> rfl
theorem notify_ok (M:Mem) (bw:Nat) (Za:Int) (Zb:Plc) (Zf:Int) (Zh:Plc) (Zj Ze Zr:Option Addr) (Zi Zd Zq:Nat) (Zg Zc:List ZI) (Zl:List Int) (Zt:Int) (Zs:Bool) (ZC Zz ZL ZB Zy Zu Zo Zv Zn:Int) (Zx:Plc) (ZE ZF:Int) (Yt:ZN.ok M ⟨⟨Za,Zb⟩,⟨Zf,Zh⟩,⟨Zj,Zi,Zg⟩,⟨Ze,Zd,Zc⟩⟩) (YI:SlK M (oneI .i64) 1 ⟨Zr,Zq,Zl⟩) (hbig:Zg.length≤40∧Zc.length≤200) (hLa:Zl.length≤1000) (hh:0≤ZE∧ZE≤1000) (l:ZO) (hl0:ZO.ok M l) (hLp:l.peers.l.length≤1000) (hk:l.kind=5):Fh Tryz.prog 49 [.pointer (some ⟨bw,0,none⟩),l.enc] M [(bw,rowO (ZQ.segs ⟨⟨⟨⟨Za,Zb⟩,⟨Zf,Zh⟩,⟨Zj,Zi,Zg⟩,⟨Ze,Zd,Zc⟩⟩,Zt,Zs,ZC,Zz,ZL,ZB,Zy,Zu,Zo,Zv,Zn,Zx,⟨Zr,Zq,Zl⟩,ZE,ZF⟩,⟨none,0,[]⟩⟩) 68)] (fun M' v Hout=>v=.tuple #[]∧WkF bw 68 M' Hout (Wn (ZK.nd ⟨⟨⟨Za,Zb⟩,⟨Zf,Zh⟩,⟨Zj,Zi,Zg⟩,⟨Ze,Zd,Zc⟩⟩,Zt,Zs,ZC,Zz,ZL,ZB,Zy,Zu,Zo,Zv,Zn,Zx,⟨Zr,Zq,Zl⟩,ZE,ZF⟩) l.lt)):=by
  obtain ⟨YD,⟨Yb,YT⟩,Xr,l_id,⟨YH,YG,ZZ⟩,Xh,⟨ZS,Yo⟩,⟨YF,YB,ZT⟩⟩:=l
  simp only at hLp hk
  have Wm:SlK M (oneI .i64) 1 ⟨YH,YG,ZZ⟩:=hl0.h0
  have XE:SlK M ZI.segs 21 ⟨YF,YB,ZT⟩:=hl0.h1
  have Wp:=XE.h1
  simp only at Wp
  have VC:(ZT.map ZI.segs).length=ZT.length:=List.length_map ..
  have VD:ZT.length≤YB:=XE.h3
  refine Wj (fun H=>(bw,rowO (ZQ.segs ⟨⟨⟨⟨Za,Zb⟩,⟨Zf,Zh⟩,⟨Zj,Zi,Zg⟩,⟨Ze,Zd,Zc⟩⟩,Zt,Zs,ZC,Zz,ZL,ZB,Zy,Zu,Zo,Zv,Zn,Zx,⟨Zr,Zq,Zl⟩,ZE,ZF⟩,⟨none,0,[]⟩⟩) 68)::H) (fun _=>by simp only [List.append_assoc,List.cons_append,List.nil_append]) Tryz.func49 rfl Tryz.ntmps49 rfl ?_;intro H
  refine ZJ (Zm (l:=[0]) rfl ?_)
  refine Xv ?_;intro b1
  refine Zw (Zp (Y_pk [3,0] ?_));refine YL (l:=[0,1,2,3,4,5,6,7,8,9,10,11,12]) #[0,0,2,6,14,30,0,64,254,511,1023,2047,4095] _ rfl (by kernel_rfl) (by kernel_rfl) St.drawn (fun _ h=>h) ?_
  iterate 2 refine ZA ?_
  refine Yf ?_;refine Zk F.foff68_0 ?_;refine Zk F.foff32_0 ?_;refine ZH F.lay28 ?_;refine Zk F.foff44_1 ?_;refine ZH F.lay25 ?_;refine X_fn rfl rfl F.ok107 rfl (Learn_ok _ ⟨⟨Za,Zb⟩,⟨Zf,Zh⟩,⟨Zj,Zi,Zg⟩,⟨Ze,Zd,Zc⟩⟩ ⟨Yb,YT⟩ Yt) rfl ?_
  rintro _ M1 hm1 ⟨⟨⟨wa,wi⟩,⟨wq,wj⟩,⟨w1a,w1c,w1l⟩,⟨w2a,w2c,w2l⟩⟩,rfl,hol,okl⟩
  refine Yf ?_;refine Zk F.foff68_0 ?_;refine Zk F.foff32_0 ?_;refine ZX F.lay28 ?_;refine Zw ?_
  refine Yg (.inl rfl) (.nil) (fun w hw=>?_)
  have h3:Wn (ZK.nd ⟨⟨⟨Za,Zb⟩,⟨Zf,Zh⟩,⟨Zj,Zi,Zg⟩,⟨Ze,Zd,Zc⟩⟩,Zt,Zs,ZC,Zz,ZL,ZB,Zy,Zu,Zo,Zv,Zn,Zx,⟨Zr,Zq,Zl⟩,ZE,ZF⟩) (ZO.lt ⟨YD,⟨Yb,YT⟩,Xr,l_id,⟨YH,YG,ZZ⟩,Xh,⟨ZS,Yo⟩,⟨YF,YB,ZT⟩⟩)=(ZK.nd ⟨⟨⟨wa,wi⟩,⟨wq,wj⟩,⟨w1a,w1c,w1l⟩,⟨w2a,w2c,w2l⟩⟩,Zt,Zs,ZC,Zz,ZL,ZB,Zy,Zu,Zo,Zv,Zn,Zx,⟨Zr,Zq,Zl⟩,ZE,ZF⟩,[]):=does5 hk hol
  refine ⟨_,M1,[(bw,rowO (ZQ.segs ⟨⟨⟨⟨wa,wi⟩,⟨wq,wj⟩,⟨w1a,w1c,w1l⟩,⟨w2a,w2c,w2l⟩⟩,Zt,Zs,ZC,Zz,ZL,ZB,Zy,Zu,Zo,Zv,Zn,Zx,⟨Zr,Zq,Zl⟩,ZE,ZF⟩,⟨none,0,[]⟩⟩) 68)],rfl,hm1,hw.c,rfl,⟨⟨⟨wa,wi⟩,⟨wq,wj⟩,⟨w1a,w1c,w1l⟩,⟨w2a,w2c,w2l⟩⟩,Zt,Zs,ZC,Zz,ZL,ZB,Zy,Zu,Zo,Zv,Zn,Zx,⟨Zr,Zq,Zl⟩,ZE,ZF⟩,⟨none,0,[]⟩,rfl,?_,?_,⟨okl,YI.mono hm1⟩,SlK.nil,fun y hy=>by cases hy⟩
  ·rw [h3] <;> rfl
  ·rw [h3] <;> rfl
theorem ping_ok (M:Mem) (bw:Nat) (Za:Int) (Zb:Plc) (Zf:Int) (Zh:Plc) (Zj Ze Zr:Option Addr) (Zi Zd Zq:Nat) (Zg Zc:List ZI) (Zl:List Int) (Zt:Int) (Zs:Bool) (ZC Zz ZL ZB Zy Zu Zo Zv Zn:Int) (Zx:Plc) (ZE ZF:Int) (Yt:ZN.ok M ⟨⟨Za,Zb⟩,⟨Zf,Zh⟩,⟨Zj,Zi,Zg⟩,⟨Ze,Zd,Zc⟩⟩) (YI:SlK M (oneI .i64) 1 ⟨Zr,Zq,Zl⟩) (hbig:Zg.length≤40∧Zc.length≤200) (hLa:Zl.length≤1000) (hh:0≤ZE∧ZE≤1000) (l:ZO) (hl0:ZO.ok M l) (hLp:l.peers.l.length≤1000) (hk:l.kind=6):Fh Tryz.prog 50 [.pointer (some ⟨bw,0,none⟩),l.enc] M [(bw,rowO (ZQ.segs ⟨⟨⟨⟨Za,Zb⟩,⟨Zf,Zh⟩,⟨Zj,Zi,Zg⟩,⟨Ze,Zd,Zc⟩⟩,Zt,Zs,ZC,Zz,ZL,ZB,Zy,Zu,Zo,Zv,Zn,Zx,⟨Zr,Zq,Zl⟩,ZE,ZF⟩,⟨none,0,[]⟩⟩) 68)] (fun M' v Hout=>v=.tuple #[]∧WkF bw 68 M' Hout (Wn (ZK.nd ⟨⟨⟨Za,Zb⟩,⟨Zf,Zh⟩,⟨Zj,Zi,Zg⟩,⟨Ze,Zd,Zc⟩⟩,Zt,Zs,ZC,Zz,ZL,ZB,Zy,Zu,Zo,Zv,Zn,Zx,⟨Zr,Zq,Zl⟩,ZE,ZF⟩) l.lt)):=by
  obtain ⟨YD,⟨Yb,YT⟩,Xr,l_id,⟨YH,YG,ZZ⟩,Xh,⟨ZS,Yo⟩,⟨YF,YB,ZT⟩⟩:=l
  simp only at hLp hk
  have Wm:SlK M (oneI .i64) 1 ⟨YH,YG,ZZ⟩:=hl0.h0
  have XE:SlK M ZI.segs 21 ⟨YF,YB,ZT⟩:=hl0.h1
  have Wp:=XE.h1
  simp only at Wp
  have VC:(ZT.map ZI.segs).length=ZT.length:=List.length_map ..
  have VD:ZT.length≤YB:=XE.h3
  refine Wj (fun H=>(bw,rowO (ZQ.segs ⟨⟨⟨⟨Za,Zb⟩,⟨Zf,Zh⟩,⟨Zj,Zi,Zg⟩,⟨Ze,Zd,Zc⟩⟩,Zt,Zs,ZC,Zz,ZL,ZB,Zy,Zu,Zo,Zv,Zn,Zx,⟨Zr,Zq,Zl⟩,ZE,ZF⟩,⟨none,0,[]⟩⟩) 68)::H) (fun _=>by simp only [List.append_assoc,List.cons_append,List.nil_append]) Tryz.func50 rfl Tryz.ntmps50 rfl ?_;intro H
  refine ZJ (Zm (l:=[0]) rfl ?_)
  refine Xv ?_;intro b1
  refine Zw (Zp (Y_pk [3,0] ?_));refine C_region_anyW (l:=[0,1,2,3,4,5,6,7,8]) [8] #[0,0,2,6,0,16,0,112,255] (_) rfl (by kernel_rfl) (by kernel_rfl) St.drawn (fun _ h=>h) ?_;refine ZA ?_;refine Zk F.foff44_1 ?_;refine Zk F.foff25_0 ?_;refine ZH F.lay3 ?_;refine Zk F.foff44_2 ?_;refine ZH F.lay29 ?_;refine X_fs rfl rfl F.ok66 rfl (Vz _) rfl ?_
  rintro _ rfl
  refine WY 10 rfl (show _=aggV [.one (.int .i64 (-1)),Yr 0] from rfl) ?_;refine Xy rfl rfl F.bld44 (.cons rfl (by constructor) (.cons rfl (by constructor) (.cons rfl (by constructor) .nil))) rfl rfl ?_;refine Vg rfl rfl rfl F.ok65 rfl (sendF_ok M bw Za Zb Zf Zh Zj Ze Zr Zi Zd Zq Zg Zc Zl Zt Zs ZC Zz ZL ZB Zy Zu Zo Zv Zn Zx ZE ZF Yb ⟨7,⟨0,0⟩,Xr,0,⟨none,0,[]⟩,false,⟨-1,0⟩,⟨none,0,[]⟩⟩) (by repeat first|exact Rem.here _|exact Rem.two|apply Rem.skip|apply Rem.over) (YN rfl) ?_
  rintro _ M2 hs2 hm2 ⟨rfl,⟨o9a,o9c,o9l⟩,rfl,k9o,hl9⟩
  simp only at hl9
  simp only [List.append_assoc,List.cons_append,List.nil_append]
  refine Zw (WE ?_)
  refine Yg (.inl rfl) (.nil) (fun w hw=>?_)
  have h3:Wn (ZK.nd ⟨⟨⟨Za,Zb⟩,⟨Zf,Zh⟩,⟨Zj,Zi,Zg⟩,⟨Ze,Zd,Zc⟩⟩,Zt,Zs,ZC,Zz,ZL,ZB,Zy,Zu,Zo,Zv,Zn,Zx,⟨Zr,Zq,Zl⟩,ZE,ZF⟩) (ZO.lt ⟨YD,⟨Yb,YT⟩,Xr,l_id,⟨YH,YG,ZZ⟩,Xh,⟨ZS,Yo⟩,⟨YF,YB,ZT⟩⟩)=(ZK.nd ⟨⟨⟨Za,Zb⟩,⟨Zf,Zh⟩,⟨Zj,Zi,Zg⟩,⟨Ze,Zd,Zc⟩⟩,Zt,Zs,ZC,Zz,ZL,ZB,Zy,Zu,Zo,Zv,Zn,Zx,⟨Zr,Zq,Zl⟩,ZE,ZF⟩,[Ys.snd (⟨Yb,(⟨7,⟨Za,Zb⟩,Xr,0,⟨none,0,[]⟩,false,⟨-1,0⟩,⟨none,0,[]⟩⟩:ZO)⟩:Ys)]):=does6 hk
  refine ⟨_,M2,[(bw,rowO (ZQ.segs ⟨⟨⟨⟨Za,Zb⟩,⟨Zf,Zh⟩,⟨Zj,Zi,Zg⟩,⟨Ze,Zd,Zc⟩⟩,Zt,Zs,ZC,Zz,ZL,ZB,Zy,Zu,Zo,Zv,Zn,Zx,⟨Zr,Zq,Zl⟩,ZE,ZF⟩,⟨o9a,o9c,o9l⟩⟩) 68)],rfl,hm2,hw.c,rfl,⟨⟨⟨Za,Zb⟩,⟨Zf,Zh⟩,⟨Zj,Zi,Zg⟩,⟨Ze,Zd,Zc⟩⟩,Zt,Zs,ZC,Zz,ZL,ZB,Zy,Zu,Zo,Zv,Zn,Zx,⟨Zr,Zq,Zl⟩,ZE,ZF⟩,⟨o9a,o9c,o9l⟩,rfl,?_,?_,⟨Yt.mono hm2,YI.mono hm2⟩,k9o,fun y hy=>?_⟩
  ·rw [h3] <;> rfl
  ·rw [h3]
   show sndl o9l=_
   rw [hl9];rfl
  ·simp only at hy
   rw [hl9] at hy
   obtain rfl:=List.mem_singleton.1 hy
   exact ⟨⟨SlK.nil,SlK.nil⟩⟩
theorem pong_ok (M:Mem) (bw:Nat) (Za:Int) (Zb:Plc) (Zf:Int) (Zh:Plc) (Zj Ze Zr:Option Addr) (Zi Zd Zq:Nat) (Zg Zc:List ZI) (Zl:List Int) (Zt:Int) (Zs:Bool) (ZC Zz ZL ZB Zy Zu Zo Zv Zn:Int) (Zx:Plc) (ZE ZF:Int) (Yt:ZN.ok M ⟨⟨Za,Zb⟩,⟨Zf,Zh⟩,⟨Zj,Zi,Zg⟩,⟨Ze,Zd,Zc⟩⟩) (YI:SlK M (oneI .i64) 1 ⟨Zr,Zq,Zl⟩) (hbig:Zg.length≤40∧Zc.length≤200) (hLa:Zl.length≤1000) (hh:0≤ZE∧ZE≤1000) (l:ZO) (hl0:ZO.ok M l) (hLp:l.peers.l.length≤1000) (hk:l.kind=7):Fh Tryz.prog 51 [.pointer (some ⟨bw,0,none⟩),l.enc] M [(bw,rowO (ZQ.segs ⟨⟨⟨⟨Za,Zb⟩,⟨Zf,Zh⟩,⟨Zj,Zi,Zg⟩,⟨Ze,Zd,Zc⟩⟩,Zt,Zs,ZC,Zz,ZL,ZB,Zy,Zu,Zo,Zv,Zn,Zx,⟨Zr,Zq,Zl⟩,ZE,ZF⟩,⟨none,0,[]⟩⟩) 68)] (fun M' v Hout=>v=.tuple #[]∧WkF bw 68 M' Hout (Wn (ZK.nd ⟨⟨⟨Za,Zb⟩,⟨Zf,Zh⟩,⟨Zj,Zi,Zg⟩,⟨Ze,Zd,Zc⟩⟩,Zt,Zs,ZC,Zz,ZL,ZB,Zy,Zu,Zo,Zv,Zn,Zx,⟨Zr,Zq,Zl⟩,ZE,ZF⟩) l.lt)):=by
  obtain ⟨YD,⟨Yb,YT⟩,Xr,l_id,⟨YH,YG,ZZ⟩,Xh,⟨ZS,Yo⟩,⟨YF,YB,ZT⟩⟩:=l
  simp only at hLp hk
  have Wm:SlK M (oneI .i64) 1 ⟨YH,YG,ZZ⟩:=hl0.h0
  have XE:SlK M ZI.segs 21 ⟨YF,YB,ZT⟩:=hl0.h1
  have Wp:=XE.h1
  simp only at Wp
  have VC:(ZT.map ZI.segs).length=ZT.length:=List.length_map ..
  have VD:ZT.length≤YB:=XE.h3
  refine Wj (fun H=>(bw,rowO (ZQ.segs ⟨⟨⟨⟨Za,Zb⟩,⟨Zf,Zh⟩,⟨Zj,Zi,Zg⟩,⟨Ze,Zd,Zc⟩⟩,Zt,Zs,ZC,Zz,ZL,ZB,Zy,Zu,Zo,Zv,Zn,Zx,⟨Zr,Zq,Zl⟩,ZE,ZF⟩,⟨none,0,[]⟩⟩) 68)::H) (fun _=>by simp only [List.append_assoc,List.cons_append,List.nil_append]) Tryz.func51 rfl Tryz.ntmps51 rfl ?_;intro H
  refine ZJ (Zm (l:=[0]) rfl ?_)
  refine Xv ?_;intro b1
  refine Zw (Zp (Y_pk [3,0] ?_));refine ZJ (YL (l:=[0,1,2,3,4,5,6,7,8,9,10,11,12,13,14,15,16,17,18]) #[0,1,3,7,15,0,32,96,255,511,1023,2047,4095,8191,16383,1023,33791,131071,262143] _ rfl (by kernel_rfl) (by kernel_rfl) St.drawn (fun _ h=>h) ?_);refine ZA ?_;refine Yf ?_;refine Zk F.foff68_0 ?_;refine Zk F.foff32_8 ?_;refine ZH F.lay3 ?_;refine Zk F.foff44_1 ?_;refine Zk F.foff25_0 ?_;refine ZH F.lay3 ?_;refine YJ ?_;refine ZA ?_
  refine Yw 13 rfl (fun hc2=>?_) (fun hc2=>?_)
  ·replace hc2:=dT hc2
   refine ZA ?_;refine Yf ?_;refine Zk F.foff68_0 ?_;refine Zk F.foff32_9 ?_;refine ZH F.lay29 ?_;refine Zk F.foff44_2 ?_;refine ZH F.lay29 ?_;refine YJ ?_;refine ZM ?_;refine Zw (Zp (Y_pk [22,0] ?_))
   refine YC rfl (fun hc3=>?_) (fun hc3=>?_)
   ·replace hc3:=dT hc3
    refine Zm (l:=[0,1,2,3,4]) rfl ?_;refine ZA ?_;refine Yf ?_;refine Zk F.foff68_0 ?_;refine Zk F.foff32_8 ?_;refine ZX F.lay3 ?_;refine Zw ?_
    refine Yg (.inl rfl) (.nil) (fun w hw=>?_)
    have h3:Wn (ZK.nd ⟨⟨⟨Za,Zb⟩,⟨Zf,Zh⟩,⟨Zj,Zi,Zg⟩,⟨Ze,Zd,Zc⟩⟩,Zt,Zs,ZC,Zz,ZL,ZB,Zy,Zu,Zo,Zv,Zn,Zx,⟨Zr,Zq,Zl⟩,ZE,ZF⟩) (ZO.lt ⟨YD,⟨Yb,YT⟩,Xr,l_id,⟨YH,YG,ZZ⟩,Xh,⟨ZS,Yo⟩,⟨YF,YB,ZT⟩⟩)=(ZK.nd ⟨⟨⟨Za,Zb⟩,⟨Zf,Zh⟩,⟨Zj,Zi,Zg⟩,⟨Ze,Zd,Zc⟩⟩,Zt,Zs,ZC,Zz,ZL,ZB,Zy,(-1),Zo,Zv,Zn,Zx,⟨Zr,Zq,Zl⟩,ZE,ZF⟩,[]):=does7y hk (show Zu=Yb∧Zo=Xr by constructor <;> first|assumption|omega)
    refine ⟨_,M,[(bw,rowO (ZQ.segs ⟨⟨⟨⟨Za,Zb⟩,⟨Zf,Zh⟩,⟨Zj,Zi,Zg⟩,⟨Ze,Zd,Zc⟩⟩,Zt,Zs,ZC,Zz,ZL,ZB,Zy,(-1),Zo,Zv,Zn,Zx,⟨Zr,Zq,Zl⟩,ZE,ZF⟩,⟨none,0,[]⟩⟩) 68)],rfl,Mem.le.refl M,hw.c,rfl,⟨⟨⟨Za,Zb⟩,⟨Zf,Zh⟩,⟨Zj,Zi,Zg⟩,⟨Ze,Zd,Zc⟩⟩,Zt,Zs,ZC,Zz,ZL,ZB,Zy,(-1),Zo,Zv,Zn,Zx,⟨Zr,Zq,Zl⟩,ZE,ZF⟩,⟨none,0,[]⟩,rfl,?_,?_,⟨Yt,YI⟩,SlK.nil,fun y hy=>by cases hy⟩
    ·rw [h3] <;> rfl
    ·rw [h3] <;> rfl
   ·replace hc3:=dF hc3
    refine YE ?_
    refine Yg (.inl rfl) (.nil) (fun w hw=>?_)
    have h3:Wn (ZK.nd ⟨⟨⟨Za,Zb⟩,⟨Zf,Zh⟩,⟨Zj,Zi,Zg⟩,⟨Ze,Zd,Zc⟩⟩,Zt,Zs,ZC,Zz,ZL,ZB,Zy,Zu,Zo,Zv,Zn,Zx,⟨Zr,Zq,Zl⟩,ZE,ZF⟩) (ZO.lt ⟨YD,⟨Yb,YT⟩,Xr,l_id,⟨YH,YG,ZZ⟩,Xh,⟨ZS,Yo⟩,⟨YF,YB,ZT⟩⟩)=(ZK.nd ⟨⟨⟨Za,Zb⟩,⟨Zf,Zh⟩,⟨Zj,Zi,Zg⟩,⟨Ze,Zd,Zc⟩⟩,Zt,Zs,ZC,Zz,ZL,ZB,Zy,Zu,Zo,Zv,Zn,Zx,⟨Zr,Zq,Zl⟩,ZE,ZF⟩,[]):=does7n hk (show ¬(Zu=Yb∧Zo=Xr) by rintro ⟨q1,q2⟩;first|contradiction|omega)
    refine ⟨_,M,[(bw,rowO (ZQ.segs ⟨⟨⟨⟨Za,Zb⟩,⟨Zf,Zh⟩,⟨Zj,Zi,Zg⟩,⟨Ze,Zd,Zc⟩⟩,Zt,Zs,ZC,Zz,ZL,ZB,Zy,Zu,Zo,Zv,Zn,Zx,⟨Zr,Zq,Zl⟩,ZE,ZF⟩,⟨none,0,[]⟩⟩) 68)],rfl,Mem.le.refl M,hw.c,rfl,⟨⟨⟨Za,Zb⟩,⟨Zf,Zh⟩,⟨Zj,Zi,Zg⟩,⟨Ze,Zd,Zc⟩⟩,Zt,Zs,ZC,Zz,ZL,ZB,Zy,Zu,Zo,Zv,Zn,Zx,⟨Zr,Zq,Zl⟩,ZE,ZF⟩,⟨none,0,[]⟩,rfl,?_,?_,⟨Yt,YI⟩,SlK.nil,fun y hy=>by cases hy⟩
    ·rw [h3] <;> rfl
    ·rw [h3] <;> rfl
  ·replace hc2:=dF hc2
   iterate 8 refine ZY ?_
   refine ZM ?_;refine Zw (Zp (Y_pk [22,0] ?_));refine Wz rfl ?_;refine YE ?_
   refine Yg (.inl rfl) (.nil) (fun w hw=>?_)
   have h3:Wn (ZK.nd ⟨⟨⟨Za,Zb⟩,⟨Zf,Zh⟩,⟨Zj,Zi,Zg⟩,⟨Ze,Zd,Zc⟩⟩,Zt,Zs,ZC,Zz,ZL,ZB,Zy,Zu,Zo,Zv,Zn,Zx,⟨Zr,Zq,Zl⟩,ZE,ZF⟩) (ZO.lt ⟨YD,⟨Yb,YT⟩,Xr,l_id,⟨YH,YG,ZZ⟩,Xh,⟨ZS,Yo⟩,⟨YF,YB,ZT⟩⟩)=(ZK.nd ⟨⟨⟨Za,Zb⟩,⟨Zf,Zh⟩,⟨Zj,Zi,Zg⟩,⟨Ze,Zd,Zc⟩⟩,Zt,Zs,ZC,Zz,ZL,ZB,Zy,Zu,Zo,Zv,Zn,Zx,⟨Zr,Zq,Zl⟩,ZE,ZF⟩,[]):=does7n hk (show ¬(Zu=Yb∧Zo=Xr) by rintro ⟨q1,q2⟩;first|contradiction|omega)
   refine ⟨_,M,[(bw,rowO (ZQ.segs ⟨⟨⟨⟨Za,Zb⟩,⟨Zf,Zh⟩,⟨Zj,Zi,Zg⟩,⟨Ze,Zd,Zc⟩⟩,Zt,Zs,ZC,Zz,ZL,ZB,Zy,Zu,Zo,Zv,Zn,Zx,⟨Zr,Zq,Zl⟩,ZE,ZF⟩,⟨none,0,[]⟩⟩) 68)],rfl,Mem.le.refl M,hw.c,rfl,⟨⟨⟨Za,Zb⟩,⟨Zf,Zh⟩,⟨Zj,Zi,Zg⟩,⟨Ze,Zd,Zc⟩⟩,Zt,Zs,ZC,Zz,ZL,ZB,Zy,Zu,Zo,Zv,Zn,Zx,⟨Zr,Zq,Zl⟩,ZE,ZF⟩,⟨none,0,[]⟩,rfl,?_,?_,⟨Yt,YI⟩,SlK.nil,fun y hy=>by cases hy⟩
   ·rw [h3] <;> rfl
   ·rw [h3] <;> rfl
end Go.Proofs.YtajmnjefajknoaaGreat
namespace Go.Proofs.YtajmnjefajknoaaGreat
open Go.Esp
theorem F.ok102:okFn Tryz.prog 102=true:=by kernel_rfl
theorem F.ok53:okFn Tryz.prog 53=true:=by kernel_rfl
theorem end_ok (M:Mem) (bw:Nat) (Za:Int) (Zb:Plc) (Zf:Int) (Zh:Plc) (Zj Ze Zr:Option Addr) (Zi Zd Zq:Nat) (Zg Zc:List ZI) (Zl:List Int) (Zt:Int) (Zs:Bool) (ZC Zz ZL ZB Zy Zu Zo Zv Zn:Int) (Zx:Plc) (ZE ZF:Int) (Yt:ZN.ok M ⟨⟨Za,Zb⟩,⟨Zf,Zh⟩,⟨Zj,Zi,Zg⟩,⟨Ze,Zd,Zc⟩⟩) (YI:SlK M (oneI .i64) 1 ⟨Zr,Zq,Zl⟩) (p:ZI):Fh Tryz.prog 102 [.pointer (some ⟨bw,0,none⟩),p.enc] M [(bw,rowO (ZQ.segs ⟨⟨⟨⟨Za,Zb⟩,⟨Zf,Zh⟩,⟨Zj,Zi,Zg⟩,⟨Ze,Zd,Zc⟩⟩,Zt,Zs,ZC,Zz,ZL,ZB,Zy,Zu,Zo,Zv,Zn,Zx,⟨Zr,Zq,Zl⟩,ZE,ZF⟩,⟨none,0,[]⟩⟩) 68)] (fun M' v Hout=>v=.tuple #[]∧∃ n9:ZK,Hout=[(bw,rowO (ZQ.segs ⟨n9,⟨none,0,[]⟩⟩) 68)]∧ZK.ok M' n9∧n9.nd=endN (ZK.nd ⟨⟨⟨Za,Zb⟩,⟨Zf,Zh⟩,⟨Zj,Zi,Zg⟩,⟨Ze,Zd,Zc⟩⟩,Zt,Zs,ZC,Zz,ZL,ZB,Zy,Zu,Zo,Zv,Zn,Zx,⟨Zr,Zq,Zl⟩,ZE,ZF⟩) p):=by
  obtain ⟨YX,p_id⟩:=p
  refine Wj (fun H=>(bw,rowO (ZQ.segs ⟨⟨⟨⟨Za,Zb⟩,⟨Zf,Zh⟩,⟨Zj,Zi,Zg⟩,⟨Ze,Zd,Zc⟩⟩,Zt,Zs,ZC,Zz,ZL,ZB,Zy,Zu,Zo,Zv,Zn,Zx,⟨Zr,Zq,Zl⟩,ZE,ZF⟩,⟨none,0,[]⟩⟩) 68)::H) (fun _=>by simp only [List.append_assoc,List.cons_append,List.nil_append]) Tryz.func102 rfl Tryz.ntmps102 rfl ?_;intro H
  refine ZJ (Zm (l:=[0]) rfl ?_)
  refine Xv ?_;intro b1
  refine Zw (Zp (Y_pk [3,0] ?_));refine Xd (ZJ (YL (l:=[0,1,2,3,4,5,6,7,8,9,10,11,12,13,14,15,16,17,18,19,20]) #[0,1,3,7,15,31,63,63,255,511,1023,1023,3071,7167,15359,31743,64511,131071,262143,524287,1048575] _ rfl (by kernel_rfl) (by kernel_rfl) St.drawn (fun _ h=>h) ?_));refine ZA ?_;refine Yf ?_;refine Zk F.foff68_0 ?_;refine Zk F.foff32_2 ?_;refine ZH F.lay4 ?_;refine ZA ?_
  refine Yw 10 rfl (fun hc2=>?_) (fun hc2=>?_)
  ·skip
   refine ZA ?_;refine ZH F.lay25 ?_;refine X_fo rfl rfl F.ok53 rfl (wother_ok M bw Za Zb Zf Zh Zj Ze Zr Zi Zd Zq Zg Zc Zl Zt Zs ZC Zz ZL ZB Zy Zu Zo Zv Zn Zx ZE ZF ⟨YX,p_id⟩) (by repeat first|exact Rem.here _|exact Rem.two|apply Rem.skip|apply Rem.over) (YN rfl) ?_
   rintro _ M1 _ ⟨hM1,rfl⟩;subst M1
   refine ZA ?_
   refine Yw 14 rfl (fun hc3=>?_) (fun hc3=>?_)
   ·replace hc3:=dT hc3
    iterate 8 refine ZY ?_
    iterate 2 refine ZM ?_
    refine ZD ?_;refine Zw (Zp (Y_pk [4,3,0] ?_));refine Xw rfl ?_;refine XW (l:=[0,1,2]) [2] rfl ?_;refine ZA ?_;refine ZH F.lay25 ?_;refine Vg rfl rfl rfl F.ok87 rfl (point_ok M bw Za Zb Zf Zh Zj Ze Zr Zi Zd Zq Zg Zc Zl Zt Zs ZC Zz ZL ZB Zy Zu Zo Zv Zn Zx ZE ZF Yt ⟨YX,p_id⟩) (by repeat first|exact Rem.here _|exact Rem.two|apply Rem.skip|apply Rem.over) (YN rfl) ?_
    rintro _ M1 hs1 hm1 ⟨rfl,⟨⟨wa,wi⟩,⟨wq,wj⟩,⟨w1a,w1c,w1l⟩,⟨w2a,w2c,w2l⟩⟩,c9,rfl,okl,hv1⟩
    simp only [List.append_assoc,List.cons_append,List.nil_append]
    refine Zw (WE ?_);refine XS ?_
    refine Yg (.inl rfl) (.nil) (fun w hw=>?_)
    (refine ⟨_,M1,[(bw,rowO (ZQ.segs ⟨⟨⟨⟨wa,wi⟩,⟨wq,wj⟩,⟨w1a,w1c,w1l⟩,⟨w2a,w2c,w2l⟩⟩,Zt,Zs,ZC,c9,ZL,ZB,Zy,Zu,Zo,Zv,Zn,Zx,⟨Zr,Zq,Zl⟩,ZE,ZF⟩,⟨none,0,[]⟩⟩) 68)],rfl,hm1,?_,rfl,⟨⟨⟨wa,wi⟩,⟨wq,wj⟩,⟨w1a,w1c,w1l⟩,⟨w2a,w2c,w2l⟩⟩,Zt,Zs,ZC,c9,ZL,ZB,Zy,Zu,Zo,Zv,Zn,Zx,⟨Zr,Zq,Zl⟩,ZE,ZF⟩,rfl,⟨okl,YI.mono hm1⟩,hv1.trans (end_point (n:=(ZK.nd ⟨⟨⟨Za,Zb⟩,⟨Zf,Zh⟩,⟨Zj,Zi,Zg⟩,⟨Ze,Zd,Zc⟩⟩,Zt,Zs,ZC,Zz,ZL,ZB,Zy,Zu,Zo,Zv,Zn,Zx,⟨Zr,Zq,Zl⟩,ZE,ZF⟩)) (show Zs=true by first|assumption|(simp_all;done)) (show XU ⟨Za,Zb⟩ ⟨YX,p_id⟩∨(⟨YX,p_id⟩:ZI)=⟨Za,Zb⟩ by first|exact .inl (by assumption)|exact .inr (by assumption))).symm⟩;simp only [ZQ.segs,Sl.val,List.length_nil] at hw ⊢;exact hw.c)
   ·replace hc3:=dF hc3
    refine ZH F.lay25 ?_;refine ZA ?_;refine Yf ?_;refine Zk F.foff68_0 ?_;refine Zk F.foff32_0 ?_;refine Zk F.foff28_0 ?_;refine ZH F.lay25 ?_
    refine WI (m:=20) rfl rfl rfl rfl rfl (by constructor) (by constructor) F.lay25 F.kinds25 rfl F.guard25 (by exact XR (⟨_,_⟩)) (by exact XR (⟨_,_⟩)) rfl rfl rfl ?_;intro c4 he5
    replace he5:c4=true↔Segs.cells _=Segs.cells _:=he5
    obtain rfl:=eqD he5 (ZI.inj (x:=⟨_,_⟩) (y:=⟨_,_⟩));clear he5
    iterate 2 refine ZM ?_
    refine ZD ?_;refine Zw (Zp (Y_pk [4,3,0] ?_))
    refine YC rfl (fun hc6=>?_) (fun hc6=>?_)
    ·replace hc6:=dT hc6
     refine XW (l:=[0,1,2]) [2] rfl ?_;refine ZA ?_;refine ZH F.lay25 ?_;refine Vg rfl rfl rfl F.ok87 rfl (point_ok M bw Za Zb Zf Zh Zj Ze Zr Zi Zd Zq Zg Zc Zl Zt Zs ZC Zz ZL ZB Zy Zu Zo Zv Zn Zx ZE ZF Yt ⟨YX,p_id⟩) (by repeat first|exact Rem.here _|exact Rem.two|apply Rem.skip|apply Rem.over) (YN rfl) ?_
     rintro _ M1 hs1 hm1 ⟨rfl,⟨⟨wa,wi⟩,⟨wq,wj⟩,⟨w1a,w1c,w1l⟩,⟨w2a,w2c,w2l⟩⟩,c9,rfl,okl,hv1⟩
     simp only [List.append_assoc,List.cons_append,List.nil_append]
     refine Zw (WE ?_);refine XS ?_
     refine Yg (.inl rfl) (.nil) (fun w hw=>?_)
     (refine ⟨_,M1,[(bw,rowO (ZQ.segs ⟨⟨⟨⟨wa,wi⟩,⟨wq,wj⟩,⟨w1a,w1c,w1l⟩,⟨w2a,w2c,w2l⟩⟩,Zt,Zs,ZC,c9,ZL,ZB,Zy,Zu,Zo,Zv,Zn,Zx,⟨Zr,Zq,Zl⟩,ZE,ZF⟩,⟨none,0,[]⟩⟩) 68)],rfl,hm1,?_,rfl,⟨⟨⟨wa,wi⟩,⟨wq,wj⟩,⟨w1a,w1c,w1l⟩,⟨w2a,w2c,w2l⟩⟩,Zt,Zs,ZC,c9,ZL,ZB,Zy,Zu,Zo,Zv,Zn,Zx,⟨Zr,Zq,Zl⟩,ZE,ZF⟩,rfl,⟨okl,YI.mono hm1⟩,hv1.trans (end_point (n:=(ZK.nd ⟨⟨⟨Za,Zb⟩,⟨Zf,Zh⟩,⟨Zj,Zi,Zg⟩,⟨Ze,Zd,Zc⟩⟩,Zt,Zs,ZC,Zz,ZL,ZB,Zy,Zu,Zo,Zv,Zn,Zx,⟨Zr,Zq,Zl⟩,ZE,ZF⟩)) (show Zs=true by first|assumption|(simp_all;done)) (show XU ⟨Za,Zb⟩ ⟨YX,p_id⟩∨(⟨YX,p_id⟩:ZI)=⟨Za,Zb⟩ by first|exact .inl (by assumption)|exact .inr (by assumption))).symm⟩;simp only [ZQ.segs,Sl.val,List.length_nil] at hw ⊢;exact hw.c)
    ·replace hc6:=dF hc6
     refine ZJ (Zm (l:=[0,1,2,3,4,5,6,7,8,9,10,11]) rfl ?_);refine ZA ?_;refine Yf ?_;refine Zk F.foff68_0 ?_;refine Zk F.foff32_2 ?_;refine ZH F.lay4 ?_;refine XP ?_;refine ZA ?_
     refine Yw 35 rfl (fun hc7=>?_) (fun hc7=>?_)
     ·skip
      refine ZA ?_;refine ZH F.lay25 ?_;refine X_fo rfl rfl F.ok53 rfl (wother_ok M bw Za Zb Zf Zh Zj Ze Zr Zi Zd Zq Zg Zc Zl Zt Zs ZC Zz ZL ZB Zy Zu Zo Zv Zn Zx ZE ZF ⟨YX,p_id⟩) (by repeat first|exact Rem.here _|exact Rem.two|apply Rem.skip|apply Rem.over) (YN rfl) ?_
      rintro _ M1 _ ⟨hM1,rfl⟩;subst M1
      refine ZM ?_;refine ZD ?_;refine Zw (Zp (Y_pk [28,3,0] ?_))
      refine YC rfl (fun hc8=>?_) (fun hc8=>?_)
      ·replace hc8:=dT hc8
       contradiction
      ·replace hc8:=dF hc8
       refine YE (XS ?_)
       refine Yg (.inl rfl) (.nil) (fun w hw=>?_)
       (exfalso;simp_all;done)
     ·skip
      iterate 3 refine ZY ?_
      refine ZM ?_;refine ZD ?_;refine Zw (Zp (Y_pk [28,3,0] ?_));refine Wz rfl ?_;refine YE (XS ?_)
      refine Yg (.inl rfl) (.nil) (fun w hw=>?_)
      (refine ⟨_,M,[(bw,rowO (ZQ.segs ⟨⟨⟨⟨Za,Zb⟩,⟨Zf,Zh⟩,⟨Zj,Zi,Zg⟩,⟨Ze,Zd,Zc⟩⟩,Zt,Zs,ZC,Zz,ZL,ZB,Zy,Zu,Zo,Zv,Zn,Zx,⟨Zr,Zq,Zl⟩,ZE,ZF⟩,⟨none,0,[]⟩⟩) 68)],rfl,Mem.le.refl M,?_,rfl,⟨⟨⟨Za,Zb⟩,⟨Zf,Zh⟩,⟨Zj,Zi,Zg⟩,⟨Ze,Zd,Zc⟩⟩,Zt,Zs,ZC,Zz,ZL,ZB,Zy,Zu,Zo,Zv,Zn,Zx,⟨Zr,Zq,Zl⟩,ZE,ZF⟩,rfl,⟨Yt,YI⟩,(end_not (n:=(ZK.nd ⟨⟨⟨Za,Zb⟩,⟨Zf,Zh⟩,⟨Zj,Zi,Zg⟩,⟨Ze,Zd,Zc⟩⟩,Zt,Zs,ZC,Zz,ZL,ZB,Zy,Zu,Zo,Zv,Zn,Zx,⟨Zr,Zq,Zl⟩,ZE,ZF⟩)) (p:=⟨YX,p_id⟩) (fun q=>by
       have q9:Zs=true:=q
       exact ⟨show ¬XU ⟨Za,Zb⟩ ⟨YX,p_id⟩ by first|assumption|(exfalso;simp_all;done),show ¬(⟨YX,p_id⟩:ZI)=⟨Za,Zb⟩ by first|assumption|(exfalso;simp_all;done)⟩) (fun q=>by
       have q9:Zs=false:=q
       (show ¬XU ⟨Za,Zb⟩ ⟨YX,p_id⟩;assumption))).symm⟩;simp only [ZQ.segs,Sl.val,List.length_nil] at hw ⊢;exact hw.c)
  ·skip
   iterate 13 refine ZY ?_
   refine ZM ?_;refine ZD ?_;refine Zw (Zp (Y_pk [4,3,0] ?_));refine Wz rfl ?_;refine ZJ (Zm (l:=[0,1,2,3,4,5,6,7,8,9,10,11]) rfl ?_);refine ZA ?_;refine Yf ?_;refine Zk F.foff68_0 ?_;refine Zk F.foff32_2 ?_;refine ZH F.lay4 ?_;refine XP ?_;refine ZA ?_
   refine Yw 35 rfl (fun hc9=>?_) (fun hc9=>?_)
   ·skip
    refine ZA ?_;refine ZH F.lay25 ?_;refine X_fo rfl rfl F.ok53 rfl (wother_ok M bw Za Zb Zf Zh Zj Ze Zr Zi Zd Zq Zg Zc Zl Zt Zs ZC Zz ZL ZB Zy Zu Zo Zv Zn Zx ZE ZF ⟨YX,p_id⟩) (by repeat first|exact Rem.here _|exact Rem.two|apply Rem.skip|apply Rem.over) (YN rfl) ?_
    rintro _ M1 _ ⟨hM1,rfl⟩;subst M1
    refine ZM ?_;refine ZD ?_;refine Zw (Zp (Y_pk [28,3,0] ?_))
    refine YC rfl (fun hc10=>?_) (fun hc10=>?_)
    ·replace hc10:=dT hc10
     refine ZJ (XW (l:=[0,1,2]) [2] rfl ?_);refine ZA ?_;refine ZH F.lay25 ?_;refine Vg rfl rfl rfl F.ok82 rfl (adopt_ok M bw Za Zb Zf Zh Zj Ze Zr Zi Zd Zq Zg Zc Zl Zt Zs ZC Zz ZL ZB Zy Zu Zo Zv Zn Zx ZE ZF Yt ⟨YX,p_id⟩ ⟨none,0,[]⟩ SlK.nil) (by repeat first|exact Rem.here _|exact Rem.two|apply Rem.skip|apply Rem.over) (YN rfl) ?_
     rintro _ M1 hs1 hm1 ⟨rfl,⟨⟨wa,wi⟩,⟨wq,wj⟩,⟨w1a,w1c,w1l⟩,⟨w2a,w2c,w2l⟩⟩,rfl,okl,hv1⟩
     simp only [List.append_assoc,List.cons_append,List.nil_append]
     refine Zw (WE ?_);refine Zp (Y_pk [0] ?_);refine Zm (l:=[0,1,2,3,4,5,6,7,8,9,10,11,12,13,14]) rfl ?_
     iterate 3 refine ZA ?_
     refine Yf ?_;refine Zk F.foff68_0 ?_;refine Zk F.foff32_2 ?_;refine ZX F.lay4 ?_;refine Yf ?_;refine Zk F.foff68_0 ?_;refine Zk F.foff32_4 ?_;refine ZX F.lay3 ?_;refine Yf ?_;refine Zk F.foff68_0 ?_;refine Zk F.foff32_13 ?_;refine ZX F.lay30 ?_;refine Zw (XS ?_)
     refine Yg (.inl rfl) (.nil) (fun w hw=>?_)
     (refine ⟨_,M1,[(bw,rowO (ZQ.segs ⟨⟨⟨⟨wa,wi⟩,⟨wq,wj⟩,⟨w1a,w1c,w1l⟩,⟨w2a,w2c,w2l⟩⟩,Zt,true,ZC,0,ZL,ZB,Zy,Zu,Zo,Zv,Zn,Zx,⟨none,0,[]⟩,ZE,ZF⟩,⟨none,0,[]⟩⟩) 68)],rfl,hm1,?_,rfl,⟨⟨⟨wa,wi⟩,⟨wq,wj⟩,⟨w1a,w1c,w1l⟩,⟨w2a,w2c,w2l⟩⟩,Zt,true,ZC,0,ZL,ZB,Zy,Zu,Zo,Zv,Zn,Zx,⟨none,0,[]⟩,ZE,ZF⟩,rfl,⟨okl,SlK.nil⟩,(end_adopt (n:=(ZK.nd ⟨⟨⟨Za,Zb⟩,⟨Zf,Zh⟩,⟨Zj,Zi,Zg⟩,⟨Ze,Zd,Zc⟩⟩,Zt,Zs,ZC,Zz,ZL,ZB,Zy,Zu,Zo,Zv,Zn,Zx,⟨Zr,Zq,Zl⟩,ZE,ZF⟩)) (show Zs=false by first|assumption|(simp_all;done)) (show XU ⟨Za,Zb⟩ ⟨YX,p_id⟩ by assumption) hv1).symm⟩;simp only [ZQ.segs,Sl.val,List.length_nil] at hw ⊢;exact hw.c)
    ·replace hc10:=dF hc10
     refine YE (XS ?_)
     refine Yg (.inl rfl) (.nil) (fun w hw=>?_)
     (refine ⟨_,M,[(bw,rowO (ZQ.segs ⟨⟨⟨⟨Za,Zb⟩,⟨Zf,Zh⟩,⟨Zj,Zi,Zg⟩,⟨Ze,Zd,Zc⟩⟩,Zt,Zs,ZC,Zz,ZL,ZB,Zy,Zu,Zo,Zv,Zn,Zx,⟨Zr,Zq,Zl⟩,ZE,ZF⟩,⟨none,0,[]⟩⟩) 68)],rfl,Mem.le.refl M,?_,rfl,⟨⟨⟨Za,Zb⟩,⟨Zf,Zh⟩,⟨Zj,Zi,Zg⟩,⟨Ze,Zd,Zc⟩⟩,Zt,Zs,ZC,Zz,ZL,ZB,Zy,Zu,Zo,Zv,Zn,Zx,⟨Zr,Zq,Zl⟩,ZE,ZF⟩,rfl,⟨Yt,YI⟩,(end_not (n:=(ZK.nd ⟨⟨⟨Za,Zb⟩,⟨Zf,Zh⟩,⟨Zj,Zi,Zg⟩,⟨Ze,Zd,Zc⟩⟩,Zt,Zs,ZC,Zz,ZL,ZB,Zy,Zu,Zo,Zv,Zn,Zx,⟨Zr,Zq,Zl⟩,ZE,ZF⟩)) (p:=⟨YX,p_id⟩) (fun q=>by
      have q9:Zs=true:=q
      exact ⟨show ¬XU ⟨Za,Zb⟩ ⟨YX,p_id⟩ by first|assumption|(exfalso;simp_all;done),show ¬(⟨YX,p_id⟩:ZI)=⟨Za,Zb⟩ by first|assumption|(exfalso;simp_all;done)⟩) (fun q=>by
      have q9:Zs=false:=q
      (show ¬XU ⟨Za,Zb⟩ ⟨YX,p_id⟩;assumption))).symm⟩;simp only [ZQ.segs,Sl.val,List.length_nil] at hw ⊢;exact hw.c)
   ·skip
    iterate 3 refine ZY ?_
    refine ZM ?_;refine ZD ?_;refine Zw (Zp (Y_pk [28,3,0] ?_));refine Wz rfl ?_;refine YE (XS ?_)
    refine Yg (.inl rfl) (.nil) (fun w hw=>?_)
    (exfalso;simp_all;done)
theorem found_ok (M:Mem) (bw:Nat) (Za:Int) (Zb:Plc) (Zf:Int) (Zh:Plc) (Zj Ze Zr:Option Addr) (Zi Zd Zq:Nat) (Zg Zc:List ZI) (Zl:List Int) (Zt:Int) (Zs:Bool) (ZC Zz ZL ZB Zy Zu Zo Zv Zn:Int) (Zx:Plc) (ZE ZF:Int) (Yt:ZN.ok M ⟨⟨Za,Zb⟩,⟨Zf,Zh⟩,⟨Zj,Zi,Zg⟩,⟨Ze,Zd,Zc⟩⟩) (YI:SlK M (oneI .i64) 1 ⟨Zr,Zq,Zl⟩) (hbig:Zg.length≤40∧Zc.length≤200) (hLa:Zl.length≤1000) (hh:0≤ZE∧ZE≤1000) (l:ZO) (hl0:ZO.ok M l) (hLp:l.peers.l.length≤1000) (hk:l.kind=2):Fh Tryz.prog 46 [.pointer (some ⟨bw,0,none⟩),l.enc] M [(bw,rowO (ZQ.segs ⟨⟨⟨⟨Za,Zb⟩,⟨Zf,Zh⟩,⟨Zj,Zi,Zg⟩,⟨Ze,Zd,Zc⟩⟩,Zt,Zs,ZC,Zz,ZL,ZB,Zy,Zu,Zo,Zv,Zn,Zx,⟨Zr,Zq,Zl⟩,ZE,ZF⟩,⟨none,0,[]⟩⟩) 68)] (fun M' v Hout=>v=.tuple #[]∧WkF bw 68 M' Hout (Wn (ZK.nd ⟨⟨⟨Za,Zb⟩,⟨Zf,Zh⟩,⟨Zj,Zi,Zg⟩,⟨Ze,Zd,Zc⟩⟩,Zt,Zs,ZC,Zz,ZL,ZB,Zy,Zu,Zo,Zv,Zn,Zx,⟨Zr,Zq,Zl⟩,ZE,ZF⟩) l.lt)):=by
  obtain ⟨YD,⟨Yb,YT⟩,Xr,l_id,⟨YH,YG,ZZ⟩,Xh,⟨ZS,Yo⟩,⟨YF,YB,ZT⟩⟩:=l
  simp only at hLp hk
  have Wm:SlK M (oneI .i64) 1 ⟨YH,YG,ZZ⟩:=hl0.h0
  have XE:SlK M ZI.segs 21 ⟨YF,YB,ZT⟩:=hl0.h1
  have Wp:=XE.h1
  simp only at Wp
  have VC:(ZT.map ZI.segs).length=ZT.length:=List.length_map ..
  have VD:ZT.length≤YB:=XE.h3
  refine Wj (fun H=>(bw,rowO (ZQ.segs ⟨⟨⟨⟨Za,Zb⟩,⟨Zf,Zh⟩,⟨Zj,Zi,Zg⟩,⟨Ze,Zd,Zc⟩⟩,Zt,Zs,ZC,Zz,ZL,ZB,Zy,Zu,Zo,Zv,Zn,Zx,⟨Zr,Zq,Zl⟩,ZE,ZF⟩,⟨none,0,[]⟩⟩) 68)::H) (fun _=>by simp only [List.append_assoc,List.cons_append,List.nil_append]) Tryz.func46 rfl Tryz.ntmps46 rfl ?_;intro H
  refine ZJ (Zm (l:=[0]) rfl ?_)
  refine Xv ?_;intro b1
  refine Zw (Zp (Y_pk [3,0] ?_))
  iterate 2 refine ZJ ?_
  refine YL (l:=[0,1,2,3,4,5,6,7,8,9,10,11,12,13,14,15,16,17,18]) #[0,1,3,7,15,0,32,96,255,511,1023,2047,4095,8191,16383,1023,33791,131071,262143] _ rfl (by kernel_rfl) (by kernel_rfl) St.drawn (fun _ h=>h) ?_;refine ZA ?_;refine Yf ?_;refine Zk F.foff68_0 ?_;refine Zk F.foff32_10 ?_;refine ZH F.lay3 ?_;refine Zk F.foff44_1 ?_;refine Zk F.foff25_0 ?_;refine ZH F.lay3 ?_;refine YJ ?_;refine ZA ?_
  refine Yw 13 rfl (fun hc2=>?_) (fun hc2=>?_)
  ·replace hc2:=nT hc2
   iterate 8 refine ZY ?_
   refine ZM ?_;refine Zw (Zp (Y_pk [22,3,0] ?_));refine Xw rfl ?_;refine Yq (YS ?_)
   refine Yg (.inr rfl) (.nil) (fun w hw=>?_)
   have h3:Wn (ZK.nd ⟨⟨⟨Za,Zb⟩,⟨Zf,Zh⟩,⟨Zj,Zi,Zg⟩,⟨Ze,Zd,Zc⟩⟩,Zt,Zs,ZC,Zz,ZL,ZB,Zy,Zu,Zo,Zv,Zn,Zx,⟨Zr,Zq,Zl⟩,ZE,ZF⟩) (ZO.lt ⟨YD,⟨Yb,YT⟩,Xr,l_id,⟨YH,YG,ZZ⟩,Xh,⟨ZS,Yo⟩,⟨YF,YB,ZT⟩⟩)=((ZK.nd ⟨⟨⟨Za,Zb⟩,⟨Zf,Zh⟩,⟨Zj,Zi,Zg⟩,⟨Ze,Zd,Zc⟩⟩,Zt,Zs,ZC,Zz,ZL,ZB,Zy,Zu,Zo,Zv,Zn,Zx,⟨Zr,Zq,Zl⟩,ZE,ZF⟩),[]):=(does2 hk).trans (found_no (by exact .inl (by assumption)))
   refine ⟨_,M,[(bw,rowO (ZQ.segs ⟨⟨⟨⟨Za,Zb⟩,⟨Zf,Zh⟩,⟨Zj,Zi,Zg⟩,⟨Ze,Zd,Zc⟩⟩,Zt,Zs,ZC,Zz,ZL,ZB,Zy,Zu,Zo,Zv,Zn,Zx,⟨Zr,Zq,Zl⟩,ZE,ZF⟩,⟨none,0,[]⟩⟩) 68)],rfl,Mem.le.refl M,hw.c,rfl,⟨⟨⟨Za,Zb⟩,⟨Zf,Zh⟩,⟨Zj,Zi,Zg⟩,⟨Ze,Zd,Zc⟩⟩,Zt,Zs,ZC,Zz,ZL,ZB,Zy,Zu,Zo,Zv,Zn,Zx,⟨Zr,Zq,Zl⟩,ZE,ZF⟩,⟨none,0,[]⟩,rfl,?_,?_,⟨Yt,YI⟩,SlK.nil,fun y hy=>by cases hy⟩
   ·rw [h3] <;> rfl
   ·rw [h3] <;> rfl
  ·replace hc2:=nF hc2
   refine ZA ?_;refine Yf ?_;refine Zk F.foff68_0 ?_;refine Zk F.foff32_11 ?_;refine ZH F.lay29 ?_;refine Zk F.foff44_2 ?_;refine ZH F.lay29 ?_;refine YJ ?_;refine ZM ?_;refine Zw (Zp (Y_pk [22,3,0] ?_))
   refine YC rfl (fun hc3=>?_) (fun hc3=>?_)
   ·replace hc3:=nT hc3
    refine Yq (YS ?_)
    refine Yg (.inr rfl) (.nil) (fun w hw=>?_)
    have h3:Wn (ZK.nd ⟨⟨⟨Za,Zb⟩,⟨Zf,Zh⟩,⟨Zj,Zi,Zg⟩,⟨Ze,Zd,Zc⟩⟩,Zt,Zs,ZC,Zz,ZL,ZB,Zy,Zu,Zo,Zv,Zn,Zx,⟨Zr,Zq,Zl⟩,ZE,ZF⟩) (ZO.lt ⟨YD,⟨Yb,YT⟩,Xr,l_id,⟨YH,YG,ZZ⟩,Xh,⟨ZS,Yo⟩,⟨YF,YB,ZT⟩⟩)=((ZK.nd ⟨⟨⟨Za,Zb⟩,⟨Zf,Zh⟩,⟨Zj,Zi,Zg⟩,⟨Ze,Zd,Zc⟩⟩,Zt,Zs,ZC,Zz,ZL,ZB,Zy,Zu,Zo,Zv,Zn,Zx,⟨Zr,Zq,Zl⟩,ZE,ZF⟩),[]):=(does2 hk).trans (found_no (by exact .inr (by assumption)))
    refine ⟨_,M,[(bw,rowO (ZQ.segs ⟨⟨⟨⟨Za,Zb⟩,⟨Zf,Zh⟩,⟨Zj,Zi,Zg⟩,⟨Ze,Zd,Zc⟩⟩,Zt,Zs,ZC,Zz,ZL,ZB,Zy,Zu,Zo,Zv,Zn,Zx,⟨Zr,Zq,Zl⟩,ZE,ZF⟩,⟨none,0,[]⟩⟩) 68)],rfl,Mem.le.refl M,hw.c,rfl,⟨⟨⟨Za,Zb⟩,⟨Zf,Zh⟩,⟨Zj,Zi,Zg⟩,⟨Ze,Zd,Zc⟩⟩,Zt,Zs,ZC,Zz,ZL,ZB,Zy,Zu,Zo,Zv,Zn,Zx,⟨Zr,Zq,Zl⟩,ZE,ZF⟩,⟨none,0,[]⟩,rfl,?_,?_,⟨Yt,YI⟩,SlK.nil,fun y hy=>by cases hy⟩
    ·rw [h3] <;> rfl
    ·rw [h3] <;> rfl
   ·replace hc3:=nF hc3
    refine YE (Zp (Y_pk [3,0] ?_))
    iterate 2 refine ZJ ?_
    refine Zm (l:=[0,1]) rfl ?_;refine Zk F.foff44_5 ?_;refine ZH F.lay4 ?_;refine Zw (Zp (Y_pk [24,3,0] ?_))
    refine YC rfl (fun hc4=>?_) (fun hc4=>?_)
    ·skip
     refine ZJ (Zm (l:=[0,1,2,3,4]) rfl ?_);refine ZA ?_;refine Yf ?_;refine Zk F.foff68_0 ?_;refine Zk F.foff32_10 ?_;refine ZX F.lay3 ?_;refine Zw (Zp (Y_pk [3,0] ?_));refine ZJ (XW (l:=[0,1,2,3]) [3] rfl ?_);refine ZA ?_;refine Zk F.foff44_6 ?_;refine ZH F.lay25 ?_;refine Vg rfl rfl rfl F.ok102 rfl (end_ok M bw Za Zb Zf Zh Zj Ze Zr Zi Zd Zq Zg Zc Zl Zt Zs ZC Zz ZL ZB Zy Zu Zo (-1) Zn Zx ZE ZF Yt YI ⟨ZS,Yo⟩) (by repeat first|exact Rem.here _|exact Rem.two|apply Rem.skip|apply Rem.over) (YN rfl) ?_
     rintro _ M1 hs1 hm1 ⟨rfl,⟨⟨⟨Yc,Yp⟩,⟨Yh,Yu⟩,⟨YA,Yz,Ye⟩,⟨Yk,Yj,Yi⟩⟩,Xn,Xo,XI,Xm,XX,Xx,Xp,Xj,YY,Xk,YZ,Xl,⟨Xc,Xb,Xa⟩,XH,XG⟩,rfl,okv,hv1⟩
     simp only [List.append_assoc,List.cons_append,List.nil_append]
     refine Zw (WE ?_);refine Zp (Y_pk [3,0] ?_);refine Yq (YS ?_)
     refine Yg (.inr rfl) (.nil) (fun w hw=>?_)
     have h3:Wn (ZK.nd ⟨⟨⟨Za,Zb⟩,⟨Zf,Zh⟩,⟨Zj,Zi,Zg⟩,⟨Ze,Zd,Zc⟩⟩,Zt,Zs,ZC,Zz,ZL,ZB,Zy,Zu,Zo,Zv,Zn,Zx,⟨Zr,Zq,Zl⟩,ZE,ZF⟩) (ZO.lt ⟨YD,⟨Yb,YT⟩,Xr,l_id,⟨YH,YG,ZZ⟩,Xh,⟨ZS,Yo⟩,⟨YF,YB,ZT⟩⟩)=(ZK.nd ⟨⟨⟨Yc,Yp⟩,⟨Yh,Yu⟩,⟨YA,Yz,Ye⟩,⟨Yk,Yj,Yi⟩⟩,Xn,Xo,XI,Xm,XX,Xx,Xp,Xj,YY,Xk,YZ,Xl,⟨Xc,Xb,Xa⟩,XH,XG⟩,[]):=(does2 hk).trans ((found_end (n:=(ZK.nd ⟨⟨⟨Za,Zb⟩,⟨Zf,Zh⟩,⟨Zj,Zi,Zg⟩,⟨Ze,Zd,Zc⟩⟩,Zt,Zs,ZC,Zz,ZL,ZB,Zy,Zu,Zo,Zv,Zn,Zx,⟨Zr,Zq,Zl⟩,ZE,ZF⟩)) (l:=(ZO.lt ⟨YD,⟨Yb,YT⟩,Xr,l_id,⟨YH,YG,ZZ⟩,Xh,⟨ZS,Yo⟩,⟨YF,YB,ZT⟩⟩)) (show (ZK.nd ⟨⟨⟨Za,Zb⟩,⟨Zf,Zh⟩,⟨Zj,Zi,Zg⟩,⟨Ze,Zd,Zc⟩⟩,Zt,Zs,ZC,Zz,ZL,ZB,Zy,Zu,Zo,Zv,Zn,Zx,⟨Zr,Zq,Zl⟩,ZE,ZF⟩).findTo=(ZO.lt ⟨YD,⟨Yb,YT⟩,Xr,l_id,⟨YH,YG,ZZ⟩,Xh,⟨ZS,Yo⟩,⟨YF,YB,ZT⟩⟩).frm.addr by show Zv=Yb;first|assumption|omega) (show (ZK.nd ⟨⟨⟨Za,Zb⟩,⟨Zf,Zh⟩,⟨Zj,Zi,Zg⟩,⟨Ze,Zd,Zc⟩⟩,Zt,Zs,ZC,Zz,ZL,ZB,Zy,Zu,Zo,Zv,Zn,Zx,⟨Zr,Zq,Zl⟩,ZE,ZF⟩).findReq=(ZO.lt ⟨YD,⟨Yb,YT⟩,Xr,l_id,⟨YH,YG,ZZ⟩,Xh,⟨ZS,Yo⟩,⟨YF,YB,ZT⟩⟩).req by show Zn=Xr;first|assumption|omega) (show Xh=true by first|assumption|(simp_all;done))).trans (congrArg (fun x=>(x,([]:List Snd))) hv1.symm))
     refine ⟨_,M1,[(bw,rowO (ZQ.segs ⟨⟨⟨⟨Yc,Yp⟩,⟨Yh,Yu⟩,⟨YA,Yz,Ye⟩,⟨Yk,Yj,Yi⟩⟩,Xn,Xo,XI,Xm,XX,Xx,Xp,Xj,YY,Xk,YZ,Xl,⟨Xc,Xb,Xa⟩,XH,XG⟩,⟨none,0,[]⟩⟩) 68)],rfl,hm1,hw.c,rfl,⟨⟨⟨Yc,Yp⟩,⟨Yh,Yu⟩,⟨YA,Yz,Ye⟩,⟨Yk,Yj,Yi⟩⟩,Xn,Xo,XI,Xm,XX,Xx,Xp,Xj,YY,Xk,YZ,Xl,⟨Xc,Xb,Xa⟩,XH,XG⟩,⟨none,0,[]⟩,rfl,?_,?_,okv,SlK.nil,fun y hy=>by cases hy⟩
     ·rw [h3] <;> rfl
     ·rw [h3] <;> rfl
    ·skip
     refine YE (Zp (Y_pk [3,0] ?_))
     iterate 2 refine ZJ ?_
     refine YL (l:=[0,1,2,3,4,5,6,7,8,9,10,11,12,13,14,15,16,17,18,19,20,21,22,23,24,25,26,27,28,29,30,31,32]) #[0,0,2,7,15,31,63,127,255,511,1023,63,2111,6207,16383,32767,65535,131071,262143,524287,131071,1179647,3276799,8388607,16777215,33554431,67108863,134217727,268435455,536870911,1073741823,2147483647,4294967295] _ rfl (by kernel_rfl) (by kernel_rfl) St.drawn (fun _ h=>h) ?_;refine ZA ?_;refine Zk F.foff44_6 ?_;refine ZH F.lay25 ?_;refine X_fo rfl rfl F.ok53 rfl (wother_ok M bw Za Zb Zf Zh Zj Ze Zr Zi Zd Zq Zg Zc Zl Zt Zs ZC Zz ZL ZB Zy Zu Zo Zv Zn Zx ZE ZF ⟨ZS,Yo⟩) (by repeat first|exact Rem.here _|exact Rem.two|apply Rem.skip|apply Rem.over) (YN rfl) ?_
     rintro _ M1 _ ⟨hM1,rfl⟩;subst M1
     refine XP ?_;refine ZA ?_
     refine Yw 38 rfl (fun hc5=>?_) (fun hc5=>?_)
     ·replace hc5:=nT hc5
      iterate 9 refine ZY ?_
      refine ZM ?_;refine ZA ?_
      iterate 7 refine ZY ?_
      refine ZM ?_;refine ZA ?_
      iterate 6 refine ZY ?_
      refine ZM ?_;refine Zw (Zp (Y_pk [65,3,0] ?_));refine Xw rfl ?_;refine ZJ (Zm (l:=[0,1,2,3,4]) rfl ?_);refine ZA ?_;refine Yf ?_;refine Zk F.foff68_0 ?_;refine Zk F.foff32_10 ?_;refine ZX F.lay3 ?_;refine Zw (Zp (Y_pk [3,0] ?_));refine Yq (YS ?_)
      refine Yg (.inr rfl) (.nil) (fun w hw=>?_)
      have h3:Wn (ZK.nd ⟨⟨⟨Za,Zb⟩,⟨Zf,Zh⟩,⟨Zj,Zi,Zg⟩,⟨Ze,Zd,Zc⟩⟩,Zt,Zs,ZC,Zz,ZL,ZB,Zy,Zu,Zo,Zv,Zn,Zx,⟨Zr,Zq,Zl⟩,ZE,ZF⟩) (ZO.lt ⟨YD,⟨Yb,YT⟩,Xr,l_id,⟨YH,YG,ZZ⟩,Xh,⟨ZS,Yo⟩,⟨YF,YB,ZT⟩⟩)=(ZK.nd ⟨⟨⟨Za,Zb⟩,⟨Zf,Zh⟩,⟨Zj,Zi,Zg⟩,⟨Ze,Zd,Zc⟩⟩,Zt,Zs,ZC,Zz,ZL,ZB,Zy,Zu,Zo,(-1),Zn,Zx,⟨Zr,Zq,Zl⟩,ZE,ZF⟩,[]):=(does2 hk).trans (found_drop (n:=(ZK.nd ⟨⟨⟨Za,Zb⟩,⟨Zf,Zh⟩,⟨Zj,Zi,Zg⟩,⟨Ze,Zd,Zc⟩⟩,Zt,Zs,ZC,Zz,ZL,ZB,Zy,Zu,Zo,Zv,Zn,Zx,⟨Zr,Zq,Zl⟩,ZE,ZF⟩)) (l:=(ZO.lt ⟨YD,⟨Yb,YT⟩,Xr,l_id,⟨YH,YG,ZZ⟩,Xh,⟨ZS,Yo⟩,⟨YF,YB,ZT⟩⟩)) (show (ZK.nd ⟨⟨⟨Za,Zb⟩,⟨Zf,Zh⟩,⟨Zj,Zi,Zg⟩,⟨Ze,Zd,Zc⟩⟩,Zt,Zs,ZC,Zz,ZL,ZB,Zy,Zu,Zo,Zv,Zn,Zx,⟨Zr,Zq,Zl⟩,ZE,ZF⟩).findTo=(ZO.lt ⟨YD,⟨Yb,YT⟩,Xr,l_id,⟨YH,YG,ZZ⟩,Xh,⟨ZS,Yo⟩,⟨YF,YB,ZT⟩⟩).frm.addr by show Zv=Yb;first|assumption|omega) (show (ZK.nd ⟨⟨⟨Za,Zb⟩,⟨Zf,Zh⟩,⟨Zj,Zi,Zg⟩,⟨Ze,Zd,Zc⟩⟩,Zt,Zs,ZC,Zz,ZL,ZB,Zy,Zu,Zo,Zv,Zn,Zx,⟨Zr,Zq,Zl⟩,ZE,ZF⟩).findReq=(ZO.lt ⟨YD,⟨Yb,YT⟩,Xr,l_id,⟨YH,YG,ZZ⟩,Xh,⟨ZS,Yo⟩,⟨YF,YB,ZT⟩⟩).req by show Zn=Xr;first|assumption|omega) (show Xh=false by first|assumption|(simp_all;done)) (show ¬XU ⟨Za,Zb⟩ ⟨ZS,Yo⟩∨ZS∈Zl∨ZS=Yb∨32≤ZE by first|exact .inl (by assumption)|exact .inr (.inl (by assumption))|exact .inr (.inr (.inl (by assumption)))|exact .inr (.inr (.inr (by omega)))))
      refine ⟨_,M,[(bw,rowO (ZQ.segs ⟨⟨⟨⟨Za,Zb⟩,⟨Zf,Zh⟩,⟨Zj,Zi,Zg⟩,⟨Ze,Zd,Zc⟩⟩,Zt,Zs,ZC,Zz,ZL,ZB,Zy,Zu,Zo,(-1),Zn,Zx,⟨Zr,Zq,Zl⟩,ZE,ZF⟩,⟨none,0,[]⟩⟩) 68)],rfl,Mem.le.refl M,hw.c,rfl,⟨⟨⟨Za,Zb⟩,⟨Zf,Zh⟩,⟨Zj,Zi,Zg⟩,⟨Ze,Zd,Zc⟩⟩,Zt,Zs,ZC,Zz,ZL,ZB,Zy,Zu,Zo,(-1),Zn,Zx,⟨Zr,Zq,Zl⟩,ZE,ZF⟩,⟨none,0,[]⟩,rfl,?_,?_,⟨Yt,YI⟩,SlK.nil,fun y hy=>by cases hy⟩
      ·rw [h3] <;> rfl
      ·rw [h3] <;> rfl
     ·replace hc5:=nF hc5
      refine ZA ?_;refine Yf ?_;refine Zk F.foff68_0 ?_;refine Zk F.foff32_13 ?_;refine ZH F.lay30 ?_;refine Zk F.foff44_6 ?_;refine Zk F.foff25_0 ?_;refine ZH F.lay3 ?_;refine X_fo rfl rfl F.ok103 rfl (ContainsI_rd M [] ⟨Zr,Zq,Zl⟩ ZS (YI.h1.rd []) YI.h2) (by repeat first|exact Rem.here _|exact Rem.two|apply Rem.skip|apply Rem.over) (YN rfl) ?_
      rintro _ M1 _ ⟨hM1,rfl⟩;subst M1
      refine ZM ?_;refine ZA ?_
      refine Yw 49 rfl (fun hc6=>?_) (fun hc6=>?_)
      ·replace hc6:=dT hc6
       simp only [ZI.eta,ZN.eta,ZK.eta,ZO.eta,Ys.eta,ZQ.eta,YO.eta,ZU.eta] at hc6
       iterate 7 refine ZY ?_
       refine ZM ?_;refine ZA ?_
       iterate 6 refine ZY ?_
       refine ZM ?_;refine Zw (Zp (Y_pk [65,3,0] ?_));refine Xw rfl ?_;refine ZJ (Zm (l:=[0,1,2,3,4]) rfl ?_);refine ZA ?_;refine Yf ?_;refine Zk F.foff68_0 ?_;refine Zk F.foff32_10 ?_;refine ZX F.lay3 ?_;refine Zw (Zp (Y_pk [3,0] ?_));refine Yq (YS ?_)
       refine Yg (.inr rfl) (.nil) (fun w hw=>?_)
       have h3:Wn (ZK.nd ⟨⟨⟨Za,Zb⟩,⟨Zf,Zh⟩,⟨Zj,Zi,Zg⟩,⟨Ze,Zd,Zc⟩⟩,Zt,Zs,ZC,Zz,ZL,ZB,Zy,Zu,Zo,Zv,Zn,Zx,⟨Zr,Zq,Zl⟩,ZE,ZF⟩) (ZO.lt ⟨YD,⟨Yb,YT⟩,Xr,l_id,⟨YH,YG,ZZ⟩,Xh,⟨ZS,Yo⟩,⟨YF,YB,ZT⟩⟩)=(ZK.nd ⟨⟨⟨Za,Zb⟩,⟨Zf,Zh⟩,⟨Zj,Zi,Zg⟩,⟨Ze,Zd,Zc⟩⟩,Zt,Zs,ZC,Zz,ZL,ZB,Zy,Zu,Zo,(-1),Zn,Zx,⟨Zr,Zq,Zl⟩,ZE,ZF⟩,[]):=(does2 hk).trans (found_drop (n:=(ZK.nd ⟨⟨⟨Za,Zb⟩,⟨Zf,Zh⟩,⟨Zj,Zi,Zg⟩,⟨Ze,Zd,Zc⟩⟩,Zt,Zs,ZC,Zz,ZL,ZB,Zy,Zu,Zo,Zv,Zn,Zx,⟨Zr,Zq,Zl⟩,ZE,ZF⟩)) (l:=(ZO.lt ⟨YD,⟨Yb,YT⟩,Xr,l_id,⟨YH,YG,ZZ⟩,Xh,⟨ZS,Yo⟩,⟨YF,YB,ZT⟩⟩)) (show (ZK.nd ⟨⟨⟨Za,Zb⟩,⟨Zf,Zh⟩,⟨Zj,Zi,Zg⟩,⟨Ze,Zd,Zc⟩⟩,Zt,Zs,ZC,Zz,ZL,ZB,Zy,Zu,Zo,Zv,Zn,Zx,⟨Zr,Zq,Zl⟩,ZE,ZF⟩).findTo=(ZO.lt ⟨YD,⟨Yb,YT⟩,Xr,l_id,⟨YH,YG,ZZ⟩,Xh,⟨ZS,Yo⟩,⟨YF,YB,ZT⟩⟩).frm.addr by show Zv=Yb;first|assumption|omega) (show (ZK.nd ⟨⟨⟨Za,Zb⟩,⟨Zf,Zh⟩,⟨Zj,Zi,Zg⟩,⟨Ze,Zd,Zc⟩⟩,Zt,Zs,ZC,Zz,ZL,ZB,Zy,Zu,Zo,Zv,Zn,Zx,⟨Zr,Zq,Zl⟩,ZE,ZF⟩).findReq=(ZO.lt ⟨YD,⟨Yb,YT⟩,Xr,l_id,⟨YH,YG,ZZ⟩,Xh,⟨ZS,Yo⟩,⟨YF,YB,ZT⟩⟩).req by show Zn=Xr;first|assumption|omega) (show Xh=false by first|assumption|(simp_all;done)) (show ¬XU ⟨Za,Zb⟩ ⟨ZS,Yo⟩∨ZS∈Zl∨ZS=Yb∨32≤ZE by first|exact .inl (by assumption)|exact .inr (.inl (by assumption))|exact .inr (.inr (.inl (by assumption)))|exact .inr (.inr (.inr (by omega)))))
       refine ⟨_,M,[(bw,rowO (ZQ.segs ⟨⟨⟨⟨Za,Zb⟩,⟨Zf,Zh⟩,⟨Zj,Zi,Zg⟩,⟨Ze,Zd,Zc⟩⟩,Zt,Zs,ZC,Zz,ZL,ZB,Zy,Zu,Zo,(-1),Zn,Zx,⟨Zr,Zq,Zl⟩,ZE,ZF⟩,⟨none,0,[]⟩⟩) 68)],rfl,Mem.le.refl M,hw.c,rfl,⟨⟨⟨Za,Zb⟩,⟨Zf,Zh⟩,⟨Zj,Zi,Zg⟩,⟨Ze,Zd,Zc⟩⟩,Zt,Zs,ZC,Zz,ZL,ZB,Zy,Zu,Zo,(-1),Zn,Zx,⟨Zr,Zq,Zl⟩,ZE,ZF⟩,⟨none,0,[]⟩,rfl,?_,?_,⟨Yt,YI⟩,SlK.nil,fun y hy=>by cases hy⟩
       ·rw [h3] <;> rfl
       ·rw [h3] <;> rfl
      ·replace hc6:=dF hc6
       simp only [ZI.eta,ZN.eta,ZK.eta,ZO.eta,Ys.eta,ZQ.eta,YO.eta,ZU.eta] at hc6
       refine Zk F.foff44_6 ?_;refine Zk F.foff25_0 ?_;refine ZH F.lay3 ?_;refine Zk F.foff44_1 ?_;refine Zk F.foff25_0 ?_;refine ZH F.lay3 ?_;refine YJ ?_;refine ZM ?_;refine ZA ?_
       refine Yw 58 rfl (fun hc7=>?_) (fun hc7=>?_)
       ·replace hc7:=dT hc7
        iterate 6 refine ZY ?_
        refine ZM ?_;refine Zw (Zp (Y_pk [65,3,0] ?_));refine Xw rfl ?_;refine ZJ (Zm (l:=[0,1,2,3,4]) rfl ?_);refine ZA ?_;refine Yf ?_;refine Zk F.foff68_0 ?_;refine Zk F.foff32_10 ?_;refine ZX F.lay3 ?_;refine Zw (Zp (Y_pk [3,0] ?_));refine Yq (YS ?_)
        refine Yg (.inr rfl) (.nil) (fun w hw=>?_)
        have h3:Wn (ZK.nd ⟨⟨⟨Za,Zb⟩,⟨Zf,Zh⟩,⟨Zj,Zi,Zg⟩,⟨Ze,Zd,Zc⟩⟩,Zt,Zs,ZC,Zz,ZL,ZB,Zy,Zu,Zo,Zv,Zn,Zx,⟨Zr,Zq,Zl⟩,ZE,ZF⟩) (ZO.lt ⟨YD,⟨Yb,YT⟩,Xr,l_id,⟨YH,YG,ZZ⟩,Xh,⟨ZS,Yo⟩,⟨YF,YB,ZT⟩⟩)=(ZK.nd ⟨⟨⟨Za,Zb⟩,⟨Zf,Zh⟩,⟨Zj,Zi,Zg⟩,⟨Ze,Zd,Zc⟩⟩,Zt,Zs,ZC,Zz,ZL,ZB,Zy,Zu,Zo,(-1),Zn,Zx,⟨Zr,Zq,Zl⟩,ZE,ZF⟩,[]):=(does2 hk).trans (found_drop (n:=(ZK.nd ⟨⟨⟨Za,Zb⟩,⟨Zf,Zh⟩,⟨Zj,Zi,Zg⟩,⟨Ze,Zd,Zc⟩⟩,Zt,Zs,ZC,Zz,ZL,ZB,Zy,Zu,Zo,Zv,Zn,Zx,⟨Zr,Zq,Zl⟩,ZE,ZF⟩)) (l:=(ZO.lt ⟨YD,⟨Yb,YT⟩,Xr,l_id,⟨YH,YG,ZZ⟩,Xh,⟨ZS,Yo⟩,⟨YF,YB,ZT⟩⟩)) (show (ZK.nd ⟨⟨⟨Za,Zb⟩,⟨Zf,Zh⟩,⟨Zj,Zi,Zg⟩,⟨Ze,Zd,Zc⟩⟩,Zt,Zs,ZC,Zz,ZL,ZB,Zy,Zu,Zo,Zv,Zn,Zx,⟨Zr,Zq,Zl⟩,ZE,ZF⟩).findTo=(ZO.lt ⟨YD,⟨Yb,YT⟩,Xr,l_id,⟨YH,YG,ZZ⟩,Xh,⟨ZS,Yo⟩,⟨YF,YB,ZT⟩⟩).frm.addr by show Zv=Yb;first|assumption|omega) (show (ZK.nd ⟨⟨⟨Za,Zb⟩,⟨Zf,Zh⟩,⟨Zj,Zi,Zg⟩,⟨Ze,Zd,Zc⟩⟩,Zt,Zs,ZC,Zz,ZL,ZB,Zy,Zu,Zo,Zv,Zn,Zx,⟨Zr,Zq,Zl⟩,ZE,ZF⟩).findReq=(ZO.lt ⟨YD,⟨Yb,YT⟩,Xr,l_id,⟨YH,YG,ZZ⟩,Xh,⟨ZS,Yo⟩,⟨YF,YB,ZT⟩⟩).req by show Zn=Xr;first|assumption|omega) (show Xh=false by first|assumption|(simp_all;done)) (show ¬XU ⟨Za,Zb⟩ ⟨ZS,Yo⟩∨ZS∈Zl∨ZS=Yb∨32≤ZE by first|exact .inl (by assumption)|exact .inr (.inl (by assumption))|exact .inr (.inr (.inl (by assumption)))|exact .inr (.inr (.inr (by omega)))))
        refine ⟨_,M,[(bw,rowO (ZQ.segs ⟨⟨⟨⟨Za,Zb⟩,⟨Zf,Zh⟩,⟨Zj,Zi,Zg⟩,⟨Ze,Zd,Zc⟩⟩,Zt,Zs,ZC,Zz,ZL,ZB,Zy,Zu,Zo,(-1),Zn,Zx,⟨Zr,Zq,Zl⟩,ZE,ZF⟩,⟨none,0,[]⟩⟩) 68)],rfl,Mem.le.refl M,hw.c,rfl,⟨⟨⟨Za,Zb⟩,⟨Zf,Zh⟩,⟨Zj,Zi,Zg⟩,⟨Ze,Zd,Zc⟩⟩,Zt,Zs,ZC,Zz,ZL,ZB,Zy,Zu,Zo,(-1),Zn,Zx,⟨Zr,Zq,Zl⟩,ZE,ZF⟩,⟨none,0,[]⟩,rfl,?_,?_,⟨Yt,YI⟩,SlK.nil,fun y hy=>by cases hy⟩
        ·rw [h3] <;> rfl
        ·rw [h3] <;> rfl
       ·replace hc7:=dF hc7
        refine ZA ?_;refine Yf ?_;refine Zk F.foff68_0 ?_;refine Zk F.foff32_14 ?_;refine ZH F.lay3 ?_;refine YJ ?_;refine ZM ?_;refine Zw (Zp (Y_pk [65,3,0] ?_))
        refine YC rfl (fun hc8=>?_) (fun hc8=>?_)
        ·replace hc8:=dT hc8
         refine ZJ (Zm (l:=[0,1,2,3,4]) rfl ?_);refine ZA ?_;refine Yf ?_;refine Zk F.foff68_0 ?_;refine Zk F.foff32_10 ?_;refine ZX F.lay3 ?_;refine Zw (Zp (Y_pk [3,0] ?_));refine Yq (YS ?_)
         refine Yg (.inr rfl) (.nil) (fun w hw=>?_)
         have h3:Wn (ZK.nd ⟨⟨⟨Za,Zb⟩,⟨Zf,Zh⟩,⟨Zj,Zi,Zg⟩,⟨Ze,Zd,Zc⟩⟩,Zt,Zs,ZC,Zz,ZL,ZB,Zy,Zu,Zo,Zv,Zn,Zx,⟨Zr,Zq,Zl⟩,ZE,ZF⟩) (ZO.lt ⟨YD,⟨Yb,YT⟩,Xr,l_id,⟨YH,YG,ZZ⟩,Xh,⟨ZS,Yo⟩,⟨YF,YB,ZT⟩⟩)=(ZK.nd ⟨⟨⟨Za,Zb⟩,⟨Zf,Zh⟩,⟨Zj,Zi,Zg⟩,⟨Ze,Zd,Zc⟩⟩,Zt,Zs,ZC,Zz,ZL,ZB,Zy,Zu,Zo,(-1),Zn,Zx,⟨Zr,Zq,Zl⟩,ZE,ZF⟩,[]):=(does2 hk).trans (found_drop (n:=(ZK.nd ⟨⟨⟨Za,Zb⟩,⟨Zf,Zh⟩,⟨Zj,Zi,Zg⟩,⟨Ze,Zd,Zc⟩⟩,Zt,Zs,ZC,Zz,ZL,ZB,Zy,Zu,Zo,Zv,Zn,Zx,⟨Zr,Zq,Zl⟩,ZE,ZF⟩)) (l:=(ZO.lt ⟨YD,⟨Yb,YT⟩,Xr,l_id,⟨YH,YG,ZZ⟩,Xh,⟨ZS,Yo⟩,⟨YF,YB,ZT⟩⟩)) (show (ZK.nd ⟨⟨⟨Za,Zb⟩,⟨Zf,Zh⟩,⟨Zj,Zi,Zg⟩,⟨Ze,Zd,Zc⟩⟩,Zt,Zs,ZC,Zz,ZL,ZB,Zy,Zu,Zo,Zv,Zn,Zx,⟨Zr,Zq,Zl⟩,ZE,ZF⟩).findTo=(ZO.lt ⟨YD,⟨Yb,YT⟩,Xr,l_id,⟨YH,YG,ZZ⟩,Xh,⟨ZS,Yo⟩,⟨YF,YB,ZT⟩⟩).frm.addr by show Zv=Yb;first|assumption|omega) (show (ZK.nd ⟨⟨⟨Za,Zb⟩,⟨Zf,Zh⟩,⟨Zj,Zi,Zg⟩,⟨Ze,Zd,Zc⟩⟩,Zt,Zs,ZC,Zz,ZL,ZB,Zy,Zu,Zo,Zv,Zn,Zx,⟨Zr,Zq,Zl⟩,ZE,ZF⟩).findReq=(ZO.lt ⟨YD,⟨Yb,YT⟩,Xr,l_id,⟨YH,YG,ZZ⟩,Xh,⟨ZS,Yo⟩,⟨YF,YB,ZT⟩⟩).req by show Zn=Xr;first|assumption|omega) (show Xh=false by first|assumption|(simp_all;done)) (show ¬XU ⟨Za,Zb⟩ ⟨ZS,Yo⟩∨ZS∈Zl∨ZS=Yb∨32≤ZE by first|exact .inl (by assumption)|exact .inr (.inl (by assumption))|exact .inr (.inr (.inl (by assumption)))|exact .inr (.inr (.inr (by omega)))))
         refine ⟨_,M,[(bw,rowO (ZQ.segs ⟨⟨⟨⟨Za,Zb⟩,⟨Zf,Zh⟩,⟨Zj,Zi,Zg⟩,⟨Ze,Zd,Zc⟩⟩,Zt,Zs,ZC,Zz,ZL,ZB,Zy,Zu,Zo,(-1),Zn,Zx,⟨Zr,Zq,Zl⟩,ZE,ZF⟩,⟨none,0,[]⟩⟩) 68)],rfl,Mem.le.refl M,hw.c,rfl,⟨⟨⟨Za,Zb⟩,⟨Zf,Zh⟩,⟨Zj,Zi,Zg⟩,⟨Ze,Zd,Zc⟩⟩,Zt,Zs,ZC,Zz,ZL,ZB,Zy,Zu,Zo,(-1),Zn,Zx,⟨Zr,Zq,Zl⟩,ZE,ZF⟩,⟨none,0,[]⟩,rfl,?_,?_,⟨Yt,YI⟩,SlK.nil,fun y hy=>by cases hy⟩
         ·rw [h3] <;> rfl
         ·rw [h3] <;> rfl
        ·replace hc8:=dF hc8
         refine YE (Zp (Y_pk [3,0] ?_));refine ZJ (Zm (l:=[0,1,2,3,4,5,6,7,8,9]) rfl ?_);refine ZA ?_;refine Yf ?_;refine Zk F.foff68_0 ?_;refine Zk F.foff32_14 ?_;refine ZH F.lay3 ?_;refine Xz rfl rfl rfl rfl rfl (by exact Xg (by decide) (by omega)) rfl ?_;refine Yf ?_;refine Zk F.foff68_0 ?_;refine Zk F.foff32_14 ?_;refine ZX F.lay3 ?_;refine Zw (Zp (Y_pk [3,0] ?_));refine XW (l:=[0,1,2,3,4]) [4] rfl ?_;refine ZA ?_;refine Zk F.foff44_6 ?_;refine Zk F.foff25_0 ?_;refine ZH F.lay3 ?_;refine Vg rfl rfl rfl F.ok89 rfl (seek_ok M bw Za Zb Zf Zh Zj Ze Zr Zi Zd Zq Zg Zc Zl Zt Zs ZC Zz ZL ZB Zy Zu Zo Zv Zn Zx (ZE+1) ZF Yt YI hLa ZS) (by repeat first|exact Rem.here _|exact Rem.two|apply Rem.skip|apply Rem.over) (YN rfl) ?_
         rintro _ M2 hs2 hm2 ⟨rfl,⟨⟨⟨Yc,Yp⟩,⟨Yh,Yu⟩,⟨YA,Yz,Ye⟩,⟨Yk,Yj,Yi⟩⟩,Xn,Xo,XI,Xm,XX,Xx,Xp,Xj,YY,Xk,YZ,Xl,⟨Xc,Xb,Xa⟩,XH,XG⟩,⟨o_a,o_c,o_l⟩,rfl,hv1,hv2,okv,oko,okq⟩
         simp only [List.append_assoc,List.cons_append,List.nil_append]
         refine Zw (WE ?_)
         refine Yg (.inl rfl) (.nil) (fun w hw=>?_)
         have h3:=(does2 (n:=(ZK.nd ⟨⟨⟨Za,Zb⟩,⟨Zf,Zh⟩,⟨Zj,Zi,Zg⟩,⟨Ze,Zd,Zc⟩⟩,Zt,Zs,ZC,Zz,ZL,ZB,Zy,Zu,Zo,Zv,Zn,Zx,⟨Zr,Zq,Zl⟩,ZE,ZF⟩)) (l:=(ZO.lt ⟨YD,⟨Yb,YT⟩,Xr,l_id,⟨YH,YG,ZZ⟩,Xh,⟨ZS,Yo⟩,⟨YF,YB,ZT⟩⟩)) hk).trans (found_seek (n:=(ZK.nd ⟨⟨⟨Za,Zb⟩,⟨Zf,Zh⟩,⟨Zj,Zi,Zg⟩,⟨Ze,Zd,Zc⟩⟩,Zt,Zs,ZC,Zz,ZL,ZB,Zy,Zu,Zo,Zv,Zn,Zx,⟨Zr,Zq,Zl⟩,ZE,ZF⟩)) (l:=(ZO.lt ⟨YD,⟨Yb,YT⟩,Xr,l_id,⟨YH,YG,ZZ⟩,Xh,⟨ZS,Yo⟩,⟨YF,YB,ZT⟩⟩)) (show (ZK.nd ⟨⟨⟨Za,Zb⟩,⟨Zf,Zh⟩,⟨Zj,Zi,Zg⟩,⟨Ze,Zd,Zc⟩⟩,Zt,Zs,ZC,Zz,ZL,ZB,Zy,Zu,Zo,Zv,Zn,Zx,⟨Zr,Zq,Zl⟩,ZE,ZF⟩).findTo=(ZO.lt ⟨YD,⟨Yb,YT⟩,Xr,l_id,⟨YH,YG,ZZ⟩,Xh,⟨ZS,Yo⟩,⟨YF,YB,ZT⟩⟩).frm.addr by show Zv=Yb;first|assumption|omega) (show (ZK.nd ⟨⟨⟨Za,Zb⟩,⟨Zf,Zh⟩,⟨Zj,Zi,Zg⟩,⟨Ze,Zd,Zc⟩⟩,Zt,Zs,ZC,Zz,ZL,ZB,Zy,Zu,Zo,Zv,Zn,Zx,⟨Zr,Zq,Zl⟩,ZE,ZF⟩).findReq=(ZO.lt ⟨YD,⟨Yb,YT⟩,Xr,l_id,⟨YH,YG,ZZ⟩,Xh,⟨ZS,Yo⟩,⟨YF,YB,ZT⟩⟩).req by show Zn=Xr;first|assumption|omega) (show Xh=false by first|assumption|(simp_all;done)) (show XU ⟨Za,Zb⟩ ⟨ZS,Yo⟩ by assumption) (show ZS∉Zl by assumption) (show ZS≠Yb by assumption) (show ¬32≤ZE by omega))
         exact ⟨_,M2,[(bw,rowO (ZQ.segs ⟨⟨⟨⟨Yc,Yp⟩,⟨Yh,Yu⟩,⟨YA,Yz,Ye⟩,⟨Yk,Yj,Yi⟩⟩,Xn,Xo,XI,Xm,XX,Xx,Xp,Xj,YY,Xk,YZ,Xl,⟨Xc,Xb,Xa⟩,XH,XG⟩,⟨o_a,o_c,o_l⟩⟩) 68)],rfl,hm2,hw.c,rfl,⟨⟨⟨Yc,Yp⟩,⟨Yh,Yu⟩,⟨YA,Yz,Ye⟩,⟨Yk,Yj,Yi⟩⟩,Xn,Xo,XI,Xm,XX,Xx,Xp,Xj,YY,Xk,YZ,Xl,⟨Xc,Xb,Xa⟩,XH,XG⟩,⟨o_a,o_c,o_l⟩,rfl,by rw [h3];exact hv1,by rw [h3];exact hv2,okv,oko,okq⟩
end Go.Proofs.YtajmnjefajknoaaGreat
namespace Go.Esp
variable {α:Type}
def insL (l:List α) (i:Nat) (x:α):List α:=l.take i++x::l.drop i
theorem insL_map {β:Type} (f:α→β) (l:List α) (i:Nat) (x:α):(insL l i x).map f=insL (l.map f) i (f x):=by unfold insL;simp
theorem insL_end (l:List α) (x:α):insL l l.length x=l++[x]:=by unfold insL;simp
theorem take_pre {a b:List α} {i:Nat} (h:a.length=i):(a++b).take i=a:=by subst h;exact List.take_left
theorem drop_pre {a b:List α} {i:Nat} (h:a.length=i):(a++b).drop i=b:=by subst h;exact List.drop_left
theorem ins_grow {rows zs:List α} {i:Nat} {x:α} (hi:i<rows.length) (hz:zs.length=rows.length+1-i) :
    (((rows.take i++zs).take i++[x]++(rows.take i++zs).drop (i+1)).take (i+1)++rows.drop i++((rows.take i++zs).take i++[x]++(rows.take i++zs).drop (i+1)).drop (i+1+(rows.drop i).length))=insL rows i x:=by
  have h1:(rows.take i).length=i:=by simp;omega
  rw [take_pre h1]
  have h2:(rows.take i++[x]).length=i+1:=by simp;omega
  rw [take_pre h2]
  have h3:(rows.take i++zs).length=rows.length+1:=by simp [hz];omega
  rw [List.drop_of_length_le (i:=i+1+(rows.drop i).length) (by simp only [List.length_append,List.length_drop,h3,h2,List.length_cons,List.length_nil,h1];omega)]
  unfold insL;simp
theorem ins_room {rows ext:List α} {i:Nat} {x:α} (hi:i<rows.length) (he:ext.length=1) :
    (((rows++ext).take (i+1)++rows.drop i++(rows++ext).drop (i+1+(rows.drop i).length)).take i++[x]++((rows++ext).take (i+1)++rows.drop i++(rows++ext).drop (i+1+(rows.drop i).length)).drop (i+1))=insL rows i x:=by
  have h1:((rows++ext).take (i+1)).length=i+1:=by simp;omega
  rw [List.drop_of_length_le (i:=i+1+(rows.drop i).length) (by simp [he];omega),List.append_nil,drop_pre h1]
  rw [List.take_append_of_le_length (by omega),List.take_take,Nat.min_eq_left (by omega),List.take_append_of_le_length (by omega)]
  unfold insL;simp
end Go.Esp
namespace Go.Proofs.YtajmnjefajknoaaGreat
open Go.Esp
theorem F.ext137:Ext Tryz.prog 137 (Extern.SlicesOverlaps.overlaps #[26,26] #[4]):=fun args w=>by kernel_rfl
theorem InsertP_nil (M:Mem) (x:ZI) (bv:Nat) (hv:Hp) (hob:OSl 25 21 (.slice (some ⟨bv,0,none⟩) 1 1) hv [ZI.segs x]):Fh Tryz.prog 105 [.slice none 0 0,.int .i64 ((0:Nat):Int),.slice (some ⟨bv,0,none⟩) 1 1] M hv (fun M' v Hout=>M'=M∧OSl 25 21 v Hout ([]++[ZI.segs x])):=by
  refine Vx Tryz.func105 rfl Tryz.ntmps105 rfl ?_;intro H
  refine ZJ (Zm (l:=[0]) rfl ?_);refine ZD ?_;refine Zw (Zp (ZJ (Zm (l:=[0,1,2]) rfl ?_)))
  iterate 2 refine ZA ?_
  refine WW rfl rfl rfl (.some (k:=0) rfl rfl) .none .none F.elem26 (by simp) (by simp) (by simp) (by simp) rfl rfl ?_;refine Zw (Zp (Y_pk [6,0,1,2] ?_));refine ZJ (Zm (l:=[0,1,2]) rfl ?_);refine ZA ?_;refine YW F.elem26 ?_;refine ZD ?_;refine Zw (Zp (Y_pk [7,6,0,1,2] ?_))
  iterate 2 refine ZJ ?_
  refine Zm (l:=[0,1]) rfl ?_;refine ZA ?_;refine YJ ?_;refine Zw (Zp (Y_pk [16,7,6,0,1,2] ?_))
  refine YC rfl (fun hc1=>?_) (fun hc1=>?_)
  ·replace hc1:=dT hc1
   (exfalso;omega)
  ·replace hc1:=dF hc1
   refine YE (Zp (Y_pk [7,6,0,1,2] ?_));refine ZJ (Zm (l:=[0,1,2]) rfl ?_);refine ZA ?_;refine YW F.elem26 ?_;refine ZD ?_;refine Zw (Zp (Y_pk [8,7,6,0,1,2] ?_))
   iterate 2 refine ZJ ?_
   refine Zm (l:=[0,1,2]) rfl ?_
   iterate 2 refine ZA ?_
   refine YJ ?_;refine Zw (Zp (Y_pk [22,8,7,6,0,1,2] ?_))
   refine YC rfl (fun hc2=>?_) (fun hc2=>?_)
   ·replace hc2:=dT hc2
    simp only [ZI.eta,ZN.eta,ZK.eta,ZO.eta,Ys.eta,ZQ.eta,YO.eta,ZU.eta] at hc2
    refine ZJ (Zm (l:=[0,1,2,3]) rfl ?_)
    iterate 2 refine ZA ?_
    refine WX (m:=1000000) rfl rfl rfl rfl rfl F.elem26 F.zero25 (by exact Wo rfl) rfl (by exact OSl.nil) (by repeat first|exact Rem.here _|exact Rem.two|apply Rem.skip|apply Rem.over) (OSl.srcAll hob (by repeat first|exact Rem.here _|exact Rem.two|apply Rem.skip|apply Rem.over) (by intro u hu;exact rows_one ZI.flat [x] u (by simpa using hu))) (by (simp;done)) (by decide) rfl ?_;intro v5 hs4 ho3;obtain ⟨adv5,cpv5,rfl⟩:=ho3.val
    refine ZD ?_;refine Zw (Zp (Y_pk [6,8,7,0,1,2] ?_));refine Yq (YS ?_)
    refine Yg (.inr rfl) (.tmp rfl .nil) (fun w hw=>?_)
    exact ⟨_,M,hs4,rfl,Mem.le.refl M,hw.c,rfl,ho3⟩
   ·replace hc2:=dF hc2
    simp only [ZI.eta,ZN.eta,ZK.eta,ZO.eta,Ys.eta,ZQ.eta,YO.eta,ZU.eta] at hc2
    (exfalso;simp [eqX] at hc2;done)
theorem InsertP_some (M:Mem) (b:Nat) (c:Nat) (l:List ZI) (hs:Hp) (i:Nat) (hi:i≤l.length) (x:ZI) (bv:Nat) (hv:Hp) (hob:OSl 25 21 (.slice (some ⟨bv,0,none⟩) 1 1) hv [ZI.segs x]) (hb:l.length≤1000000) (ho:OSl 25 21 (.slice (some ⟨b,0,none⟩) l.length c) hs (l.map ZI.segs)):Fh Tryz.prog 105 [.slice (some ⟨b,0,none⟩) l.length c,.int .i64 (i:Int),.slice (some ⟨bv,0,none⟩) 1 1] M (hs++hv) (fun M' v Hout=>M'=M∧OSl 25 21 v Hout ((insL l i x).map ZI.segs)):=by
  have hcc:=ho.caps
  simp only [List.length_map] at hcc
  have hob9:=hob
  have hom:OSl 25 21 (.slice (some ⟨b,0,none⟩) (l.map ZI.segs).length c) hs (l.map ZI.segs):=by rw [List.length_map];exact ho
  obtain ⟨cv,rfl,_⟩:=hob9.inv
  refine Vx Tryz.func105 rfl Tryz.ntmps105 rfl ?_;intro H
  rw [List.append_assoc]
  refine ZJ (Zm (l:=[0]) rfl ?_);refine ZD ?_;refine Zw (Zp (ZJ (Zm (l:=[0,1,2]) rfl ?_)))
  iterate 2 refine ZA ?_
  refine WW rfl rfl rfl (.some (k:=i) rfl rfl) .none .none F.elem26 (by simp) (by simp only [Option.getD_some,Option.getD_none];omega) (by simp only [Option.getD_some,Option.getD_none];omega) (by simp) rfl rfl ?_;refine Zw (Zp (Y_pk [6,0,1,2] ?_));refine ZJ (Zm (l:=[0,1,2]) rfl ?_);refine ZA ?_;refine YW F.elem26 ?_;refine ZD ?_;refine Zw (Zp (Y_pk [7,6,0,1,2] ?_))
  iterate 2 refine ZJ ?_
  refine Zm (l:=[0,1]) rfl ?_;refine ZA ?_;refine YJ ?_;refine Zw (Zp (Y_pk [16,7,6,0,1,2] ?_))
  refine YC rfl (fun hc1=>?_) (fun hc1=>?_)
  ·replace hc1:=dT hc1
   (exfalso;omega)
  ·replace hc1:=dF hc1
   refine YE (Zp (Y_pk [7,6,0,1,2] ?_));refine ZJ (Zm (l:=[0,1,2]) rfl ?_);refine ZA ?_;refine YW F.elem26 ?_;refine ZD ?_;refine Zw (Zp (Y_pk [8,7,6,0,1,2] ?_))
   iterate 2 refine ZJ ?_
   refine Zm (l:=[0,1,2]) rfl ?_
   iterate 2 refine ZA ?_
   refine YJ ?_;refine Zw (Zp (Y_pk [22,8,7,6,0,1,2] ?_))
   refine YC rfl (fun hc2=>?_) (fun hc2=>?_)
   ·replace hc2:=dT hc2
    refine ZJ (Zm (l:=[0,1,2,3]) rfl ?_)
    iterate 2 refine ZA ?_
    refine WX (m:=1000001) rfl rfl rfl rfl rfl F.elem26 F.zero25 (by exact Wo rfl) rfl (by assumption) (by repeat first|exact Rem.here _|exact Rem.two|apply Rem.skip|apply Rem.over) (OSl.srcAll hob (by repeat first|exact Rem.here _|exact Rem.two|apply Rem.skip|apply Rem.over) (by intro u hu;exact rows_one ZI.flat [x] u (by simpa using hu))) (by (simp;omega)) (by decide) rfl ?_;intro v5 hs4 ho3;obtain ⟨adv5,cpv5,rfl⟩:=ho3.val
    refine ZD ?_;refine Zw (Zp (Y_pk [6,8,7,0,1,2] ?_));refine Yq (YS ?_)
    refine Yg (.inr rfl) (.tmp rfl .nil) (fun w hw=>?_)
    obtain rfl:i=l.length:=by omega
    exact ⟨_,M,hs4,rfl,Mem.le.refl M,hw.c,rfl,by rw [insL_end,List.map_append];exact ho3⟩
   ·replace hc2:=dF hc2
    refine YE (Zp (Y_pk [8,7,6,0,1,2] ?_))
    iterate 2 refine ZJ ?_
    refine Zm (l:=[0,1,2,3,4,5]) rfl ?_
    iterate 2 refine ZA ?_
    refine Xz rfl rfl rfl rfl rfl (by exact Xg (by decide) (by omega)) rfl ?_;refine ZA ?_;refine X_cap_sl rfl rfl rfl rfl F.elem26 rfl ?_;refine YJ ?_;refine Zw (Zp (Y_pk [31,8,7,6,0,1,2] ?_))
    refine YC rfl (fun hc6=>?_) (fun hc6=>?_)
    ·replace hc6:=dT hc6
     refine ZJ (Zm (l:=[0,1,2,3,4,5,6,7,8,9]) rfl ?_)
     iterate 2 refine ZA ?_
     refine WW rfl rfl rfl .none (.some (k:=i) rfl (by rfl)) .none F.elem26 (by simp) (by simp only [Option.getD_some,Option.getD_none];omega) (by simp only [Option.getD_some,Option.getD_none];omega) (by simp) (show Vs (some ⟨_,0,none⟩) 21 0 (i) c=.slice (some ⟨_,0,none⟩) (i) c from pieceV_zero) rfl ?_
     iterate 2 refine ZA ?_
     refine Xz rfl rfl rfl rfl rfl (by exact Xg (by decide) (by omega)) rfl ?_;refine ZA ?_;refine Xz rfl rfl rfl rfl rfl (by exact Xg (by decide) (by omega)) rfl ?_
     rw [show (l.length:Int)+((1:Nat):Int)-(i:Int)=((l.length+1-i:Nat):Int) by omega]
     refine X_appendZO (j:=i) (k:=l.length+1-i) rfl rfl rfl rfl F.elem26 Tryz.underlying3 F.zero25 (by exact Wo rfl) rfl ho (by repeat first|exact Rem.here _|exact Rem.two|apply Rem.skip|apply Rem.over) (by rw [List.length_map];omega) (by omega) (by omega) (by omega) (Nat.le_trans (Nat.mul_le_mul_right _ (show i+(l.length+1-i)≤1000001 by omega)) (by decide)) rfl ?_;intro b9 c9 hs9 zs9 hz9 ho9
     rw [show i+(l.length+1-i)=l.length+1 by omega] at ho9 ⊢
     have hn9:((l.map ZI.segs).take i++zs9).length=l.length+1:=by simp [hz9];omega
     have hc9:=ho9.caps
     refine ZD ?_;refine Zw (Zp (Y_pk [9,8,7,6,0,1,2] ?_));refine ZJ (Zm (l:=[0,1,2,3,4]) rfl ?_)
     iterate 2 refine ZA ?_
     refine WW rfl rfl rfl (.some (k:=i) rfl (by rfl)) .none .none F.elem26 (by simp) (by simp only [Option.getD_some,Option.getD_none];omega) (by simp only [Option.getD_some,Option.getD_none];omega) (by simp) (show Vs (some ⟨_,0,none⟩) 21 (i) (l.length+1) (c9)=.slice (some ⟨_,0+(i) * 21,none⟩) (l.length+1-(i)) (c9-(i)) from pieceV_in (by omega)) rfl ?_;refine ZA ?_
     rw [Nat.zero_add]
     refine X_copyP (k:=i) (news:=[ZI.segs x]) rfl rfl rfl rfl rfl F.elem26 rfl (by rw [hn9];omega) ho9 (by repeat first|exact Rem.here _|exact Rem.two|apply Rem.skip|apply Rem.over) (OSl.srcAll hob (by repeat first|exact Rem.here _|exact Rem.two|apply Rem.skip|apply Rem.over) (by intro u hu;exact rows_one ZI.flat [x] u (by simpa using hu))) (by show 1=min 1 (l.length+1-i);omega) rfl ?_;intro hs10 ho10
     rw [hn9] at ho10
     refine Zw (Zp (Y_pk [9,8,7,6,0,1,2] ?_));refine ZJ (YL (l:=[0,1,2,3,4,5,6,7,8]) #[0,0,0,6,15,0,0,96,255] _ rfl (by kernel_rfl) (by kernel_rfl) St.drawn (fun _ h=>h) ?_)
     iterate 3 refine ZA ?_
     refine Xz rfl rfl rfl rfl rfl (by exact Xg (by decide) (by omega)) rfl ?_;refine WW rfl rfl rfl (.some (k:=i+1) rfl (by rfl)) .none .none F.elem26 (by simp) (by simp only [Option.getD_some,Option.getD_none];omega) (by simp only [Option.getD_some,Option.getD_none];omega) (by simp) (show Vs (some ⟨_,0,none⟩) 21 (i+1) (l.length+1) (c9)=.slice (some ⟨_,0+(i+1) * 21,none⟩) (l.length+1-(i+1)) (c9-(i+1)) from pieceV_in (by omega)) rfl ?_
     iterate 2 refine ZA ?_
     refine WW rfl rfl rfl (.some (k:=i) rfl (by rfl)) .none .none F.elem26 (by simp) (by simp only [Option.getD_some,Option.getD_none];omega) (by simp only [Option.getD_some,Option.getD_none];omega) (by simp) (show Vs (some ⟨_,0,none⟩) 21 (i) (l.length) (c)=.slice (some ⟨_,0+(i) * 21,none⟩) (l.length-(i)) (c-(i)) from pieceV_in (by omega)) rfl ?_
     rw [Nat.zero_add,Nat.zero_add]
     have hn10:(((l.map ZI.segs).take i++zs9).take i++[ZI.segs x]++((l.map ZI.segs).take i++zs9).drop (i+[ZI.segs x].length)).length=l.length+1:=by simp only [List.length_append,List.length_take,List.length_drop,hn9,List.length_cons,List.length_nil];omega
     refine X_copyP (k:=i+1) (news:=(l.map ZI.segs).drop i) rfl rfl rfl rfl rfl F.elem26 rfl (by rw [hn10];omega) ho10 (by repeat first|exact Rem.here _|exact Rem.two|apply Rem.skip|apply Rem.over) (by rw [List.length_drop];exact hom.src (by repeat first|exact Rem.here _|exact Rem.two|apply Rem.skip|apply Rem.over) (by intro u hu;exact rows_one ZI.flat l u hu)) (by simp only [List.length_drop,List.length_map];omega) rfl ?_;intro hs11 ho11
     rw [hn10] at ho11
     rw [show i+[ZI.segs x].length=i+1 from rfl,ins_grow (by rw [List.length_map];omega) (by rw [List.length_map];exact hz9)] at ho11
     refine Zw (Zp (Y_pk [9,8,7,6,0,1,2] ?_));refine ZJ (Zm (l:=[0,1]) rfl ?_);refine ZA ?_;refine ZD ?_;refine Zw (Zp (Y_pk [6,8,7,0,1,2] ?_));refine Yq (YS ?_)
     refine Yg (.inr rfl) (.tmp rfl .nil) (fun w hw=>?_)
     exact ⟨_,M,hs11,rfl,Mem.le.refl M,hw.c,rfl,by rw [insL_map];exact ho11⟩
    ·replace hc6:=dF hc6
     refine YE (Zp (Y_pk [8,7,6,0,1,2] ?_));refine ZJ (Zm (l:=[0,1,2,3,4,5]) rfl ?_)
     iterate 3 refine ZA ?_
     refine Xz rfl rfl rfl rfl rfl (by exact Xg (by decide) (by omega)) rfl ?_;refine WW rfl rfl rfl .none (.some (k:=l.length+1) rfl (by rfl)) .none F.elem26 (by simp) (by simp only [Option.getD_some,Option.getD_none];omega) (by simp only [Option.getD_some,Option.getD_none];omega) (by simp) (show Vs (some ⟨_,0,none⟩) 21 0 (l.length+1) c=.slice (some ⟨_,0,none⟩) (l.length+1) c from pieceV_zero) rfl ?_;refine ZD ?_;refine Zw (Zp (Y_pk [0,8,7,6,1,2] ?_))
     iterate 2 refine ZJ ?_
     refine Zm (l:=[0,1,2,3,4,5,6,7]) rfl ?_
     obtain ⟨ext,hext,ho13⟩:=OSl.extend (m:=1) (show OSl 25 21 (.slice (some ⟨b,0,none⟩) (l.map ZI.segs).length c) hs (l.map ZI.segs) by rw [List.length_map];exact ho) (by rw [List.length_map];omega)
     rw [List.length_map] at ho13
     iterate 4 refine ZA ?_
     refine Xz rfl rfl rfl rfl rfl (by exact Xg (by decide) (by omega)) rfl ?_;refine WW rfl rfl rfl (.some (k:=i+1) rfl (by rfl)) .none .none F.elem26 (by simp) (by simp only [Option.getD_some,Option.getD_none];omega) (by simp only [Option.getD_some,Option.getD_none];omega) (by simp) (show Vs (some ⟨_,0,none⟩) 21 (i+1) (l.length+1) (c)=.slice (some ⟨_,0+(i+1) * 21,none⟩) (l.length+1-(i+1)) (c-(i+1)) from pieceV_in (by omega)) rfl ?_;refine X_ext rfl rfl F.ext137 rfl (fun w hw=>run_apart (tR:=4) F.elem26 ho (by repeat first|exact Rem.here _|exact Rem.two|apply Rem.skip|apply Rem.over) (.head _) (Nat.mul_pos (by omega) (by decide)) hw) rfl ?_;refine XP ?_;refine Zw (Zp (Y_pk [68,0,8,7,6,1,2] ?_))
     refine YC rfl (fun hc7=>?_) (fun hc7=>?_)
     ·skip
      refine ZJ (YL (l:=[0,1,2,3,4,5,6,7,8]) #[0,0,0,6,15,0,0,96,255] _ rfl (by kernel_rfl) (by kernel_rfl) St.drawn (fun _ h=>h) ?_)
      iterate 3 refine ZA ?_
      refine Xz rfl rfl rfl rfl rfl (by exact Xg (by decide) (by omega)) rfl ?_;refine WW rfl rfl rfl (.some (k:=i+1) rfl (by rfl)) .none .none F.elem26 (by simp) (by simp only [Option.getD_some,Option.getD_none];omega) (by simp only [Option.getD_some,Option.getD_none];omega) (by simp) (show Vs (some ⟨_,0,none⟩) 21 (i+1) (l.length+1) (c)=.slice (some ⟨_,0+(i+1) * 21,none⟩) (l.length+1-(i+1)) (c-(i+1)) from pieceV_in (by omega)) rfl ?_
      iterate 2 refine ZA ?_
      refine WW rfl rfl rfl (.some (k:=i) rfl (by rfl)) .none .none F.elem26 (by simp) (by simp only [Option.getD_some,Option.getD_none];omega) (by simp only [Option.getD_some,Option.getD_none];omega) (by simp) (show Vs (some ⟨_,0,none⟩) 21 (i) (l.length+1) (c)=.slice (some ⟨_,0+(i) * 21,none⟩) (l.length+1-(i)) (c-(i)) from pieceV_in (by omega)) rfl ?_
      rw [Nat.zero_add,Nat.zero_add]
      refine X_copyP (k:=i+1) (news:=(l.map ZI.segs).drop i) rfl rfl rfl rfl rfl F.elem26 rfl (by simp [hext];omega) ho13 (by repeat first|exact Rem.here _|exact Rem.two|apply Rem.skip|apply Rem.over) (by rw [List.length_drop];exact hom.src (by repeat first|exact Rem.here _|exact Rem.two|apply Rem.skip|apply Rem.over) (by intro u hu;exact rows_one ZI.flat l u hu)) (by simp only [List.length_drop,List.length_map];omega) rfl ?_;intro hs15 ho15
      have hn15:((l.map ZI.segs)++ext).length=l.length+1:=by simp [hext]
      rw [hn15] at ho15
      refine Zw (Zp (Y_pk [0,8,7,6,1,2] ?_));refine ZJ (Zm (l:=[0,1,2,3,4]) rfl ?_)
      iterate 2 refine ZA ?_
      refine WW rfl rfl rfl (.some (k:=i) rfl (by rfl)) .none .none F.elem26 (by simp) (by simp only [Option.getD_some,Option.getD_none];omega) (by simp only [Option.getD_some,Option.getD_none];omega) (by simp) (show Vs (some ⟨_,0,none⟩) 21 (i) (l.length+1) (c)=.slice (some ⟨_,0+(i) * 21,none⟩) (l.length+1-(i)) (c-(i)) from pieceV_in (by omega)) rfl ?_;refine ZA ?_
      rw [Nat.zero_add]
      have hn16:(((l.map ZI.segs)++ext).take (i+1)++(l.map ZI.segs).drop i++((l.map ZI.segs)++ext).drop (i+1+((l.map ZI.segs).drop i).length)).length=l.length+1:=by simp only [List.length_append,List.length_take,List.length_drop,List.length_map,hext];omega
      refine X_copyP (k:=i) (news:=[ZI.segs x]) rfl rfl rfl rfl rfl F.elem26 rfl (by rw [hn16];omega) ho15 (by repeat first|exact Rem.here _|exact Rem.two|apply Rem.skip|apply Rem.over) (OSl.srcAll hob (by repeat first|exact Rem.here _|exact Rem.two|apply Rem.skip|apply Rem.over) (by intro u hu;exact rows_one ZI.flat [x] u (by simpa using hu))) (by show 1=min 1 (l.length+1-i);omega) rfl ?_;intro hs16 ho16
      rw [hn16] at ho16
      rw [show i+[ZI.segs x].length=i+1 from rfl,ins_room (by rw [List.length_map];omega) hext] at ho16
      refine Zw (Zp (Y_pk [0,8,7,6,1,2] ?_));refine ZJ (Zm (l:=[0,1]) rfl ?_);refine ZA ?_;refine ZD ?_;refine Zw (Zp (Y_pk [6,0,8,7,1,2] ?_));refine Yq (YS ?_)
      refine Yg (.inr rfl) (.tmp rfl .nil) (fun w hw=>?_)
      exact ⟨_,M,hs16,rfl,Mem.le.refl M,hw.c,rfl,by rw [insL_map];exact ho16⟩
     ·skip
      (exfalso;simp [eqX] at hc7;done)
theorem InsertP_ok (M:Mem) (a:Option Addr) (c:Nat) (l:List ZI) (hs:Hp) (i:Nat) (hi:i≤l.length) (x:ZI) (bv:Nat) (hv:Hp) (hob:OSl 25 21 (.slice (some ⟨bv,0,none⟩) 1 1) hv [ZI.segs x]) (hb:l.length≤1000000) (ho:OSl 25 21 (.slice a l.length c) hs (l.map ZI.segs)):Fh Tryz.prog 105 [.slice a l.length c,.int .i64 (i:Int),.slice (some ⟨bv,0,none⟩) 1 1] M (hs++hv) (fun M' v Hout=>M'=M∧OSl 25 21 v Hout ((insL l i x).map ZI.segs)):=by
  cases a with
  |none =>
   obtain ⟨rfl,rfl,rfl⟩:=ho.noneAll
   obtain rfl:i=0:=by simpa using hi
   exact InsertP_nil M x bv hv hob
  |some ad =>
   obtain ⟨b,rfl⟩:=ho.someAll
   exact InsertP_some M b c l hs i hi x bv hv hob hb ho
end Go.Proofs.YtajmnjefajknoaaGreat
namespace Go.Proofs.YtajmnjefajknoaaGreat
open Go.Esp
theorem F.ok104:okFn Tryz.prog 104=true:=by kernel_rfl
theorem F.ok105:okFn Tryz.prog 105=true:=by kernel_rfl
theorem told_ok (M:Mem) (bw:Nat) (Za:Int) (Zb:Plc) (Zf:Int) (Zh:Plc) (Zj Ze Zr:Option Addr) (Zi Zd Zq:Nat) (Zg Zc:List ZI) (Zl:List Int) (Zt:Int) (Zs:Bool) (ZC Zz ZL ZB Zy Zu Zo Zv Zn:Int) (Zx:Plc) (ZE ZF:Int) (Yt:ZN.ok M ⟨⟨Za,Zb⟩,⟨Zf,Zh⟩,⟨Zj,Zi,Zg⟩,⟨Ze,Zd,Zc⟩⟩) (YI:SlK M (oneI .i64) 1 ⟨Zr,Zq,Zl⟩) (hbig:Zg.length≤40∧Zc.length≤200) (hLa:Zl.length≤1000) (hh:0≤ZE∧ZE≤1000) (l:ZO) (hl0:ZO.ok M l) (hLp:l.peers.l.length≤1000) (hk:l.kind=4):Fh Tryz.prog 48 [.pointer (some ⟨bw,0,none⟩),l.enc] M [(bw,rowO (ZQ.segs ⟨⟨⟨⟨Za,Zb⟩,⟨Zf,Zh⟩,⟨Zj,Zi,Zg⟩,⟨Ze,Zd,Zc⟩⟩,Zt,Zs,ZC,Zz,ZL,ZB,Zy,Zu,Zo,Zv,Zn,Zx,⟨Zr,Zq,Zl⟩,ZE,ZF⟩,⟨none,0,[]⟩⟩) 68)] (fun M' v Hout=>v=.tuple #[]∧WkF bw 68 M' Hout (Wn (ZK.nd ⟨⟨⟨Za,Zb⟩,⟨Zf,Zh⟩,⟨Zj,Zi,Zg⟩,⟨Ze,Zd,Zc⟩⟩,Zt,Zs,ZC,Zz,ZL,ZB,Zy,Zu,Zo,Zv,Zn,Zx,⟨Zr,Zq,Zl⟩,ZE,ZF⟩) l.lt)):=by
  obtain ⟨YD,⟨Yb,YT⟩,Xr,l_id,⟨YH,YG,ZZ⟩,Xh,⟨ZS,Yo⟩,⟨YF,YB,ZT⟩⟩:=l
  simp only at hLp hk
  have Wm:SlK M (oneI .i64) 1 ⟨YH,YG,ZZ⟩:=hl0.h0
  have XE:SlK M ZI.segs 21 ⟨YF,YB,ZT⟩:=hl0.h1
  have Wp:=XE.h1
  simp only at Wp
  have VC:(ZT.map ZI.segs).length=ZT.length:=List.length_map ..
  have VD:ZT.length≤YB:=XE.h3
  refine Wj (fun H=>(bw,rowO (ZQ.segs ⟨⟨⟨⟨Za,Zb⟩,⟨Zf,Zh⟩,⟨Zj,Zi,Zg⟩,⟨Ze,Zd,Zc⟩⟩,Zt,Zs,ZC,Zz,ZL,ZB,Zy,Zu,Zo,Zv,Zn,Zx,⟨Zr,Zq,Zl⟩,ZE,ZF⟩,⟨none,0,[]⟩⟩) 68)::H) (fun _=>by simp only [List.append_assoc,List.cons_append,List.nil_append]) Tryz.func48 rfl Tryz.ntmps48 rfl ?_;intro H
  refine ZJ (Zm (l:=[0]) rfl ?_)
  refine Xv ?_;intro b1
  refine Zw (Zp (Y_pk [3,0] ?_))
  iterate 2 refine ZJ ?_
  refine YL (l:=[0,1,2,3,4,5,6,7,8,9,10,11,12,13,14,15,16,17,18]) #[0,1,3,7,15,0,32,96,255,511,1023,2047,4095,8191,16383,1023,33791,131071,262143] _ rfl (by kernel_rfl) (by kernel_rfl) St.drawn (fun _ h=>h) ?_;refine ZA ?_;refine Yf ?_;refine Zk F.foff68_0 ?_;refine Zk F.foff32_6 ?_;refine ZH F.lay3 ?_;refine Zk F.foff44_1 ?_;refine Zk F.foff25_0 ?_;refine ZH F.lay3 ?_;refine YJ ?_;refine ZA ?_
  refine Yw 13 rfl (fun hc2=>?_) (fun hc2=>?_)
  ·replace hc2:=nT hc2
   iterate 8 refine ZY ?_
   refine ZM ?_;refine Zw (Zp (Y_pk [22,3,0] ?_));refine Xw rfl ?_;refine Yq (YS ?_)
   refine Yg (.inr rfl) (.nil) (fun w hw=>?_)
   have h3:Wn (ZK.nd ⟨⟨⟨Za,Zb⟩,⟨Zf,Zh⟩,⟨Zj,Zi,Zg⟩,⟨Ze,Zd,Zc⟩⟩,Zt,Zs,ZC,Zz,ZL,ZB,Zy,Zu,Zo,Zv,Zn,Zx,⟨Zr,Zq,Zl⟩,ZE,ZF⟩) (ZO.lt ⟨YD,⟨Yb,YT⟩,Xr,l_id,⟨YH,YG,ZZ⟩,Xh,⟨ZS,Yo⟩,⟨YF,YB,ZT⟩⟩)=((ZK.nd ⟨⟨⟨Za,Zb⟩,⟨Zf,Zh⟩,⟨Zj,Zi,Zg⟩,⟨Ze,Zd,Zc⟩⟩,Zt,Zs,ZC,Zz,ZL,ZB,Zy,Zu,Zo,Zv,Zn,Zx,⟨Zr,Zq,Zl⟩,ZE,ZF⟩),[]):=(does4 hk).trans (told_no (by exact .inl (by assumption)))
   refine ⟨_,M,[(bw,rowO (ZQ.segs ⟨⟨⟨⟨Za,Zb⟩,⟨Zf,Zh⟩,⟨Zj,Zi,Zg⟩,⟨Ze,Zd,Zc⟩⟩,Zt,Zs,ZC,Zz,ZL,ZB,Zy,Zu,Zo,Zv,Zn,Zx,⟨Zr,Zq,Zl⟩,ZE,ZF⟩,⟨none,0,[]⟩⟩) 68)],rfl,Mem.le.refl M,hw.c,rfl,⟨⟨⟨Za,Zb⟩,⟨Zf,Zh⟩,⟨Zj,Zi,Zg⟩,⟨Ze,Zd,Zc⟩⟩,Zt,Zs,ZC,Zz,ZL,ZB,Zy,Zu,Zo,Zv,Zn,Zx,⟨Zr,Zq,Zl⟩,ZE,ZF⟩,⟨none,0,[]⟩,rfl,?_,?_,⟨Yt,YI⟩,SlK.nil,fun y hy=>by cases hy⟩
   ·rw [h3] <;> rfl
   ·rw [h3] <;> rfl
  ·replace hc2:=nF hc2
   refine ZA ?_;refine Yf ?_;refine Zk F.foff68_0 ?_;refine Zk F.foff32_7 ?_;refine ZH F.lay29 ?_;refine Zk F.foff44_2 ?_;refine ZH F.lay29 ?_;refine YJ ?_;refine ZM ?_;refine Zw (Zp (Y_pk [22,3,0] ?_))
   refine YC rfl (fun hc3=>?_) (fun hc3=>?_)
   ·replace hc3:=nT hc3
    refine Yq (YS ?_)
    refine Yg (.inr rfl) (.nil) (fun w hw=>?_)
    have h3:Wn (ZK.nd ⟨⟨⟨Za,Zb⟩,⟨Zf,Zh⟩,⟨Zj,Zi,Zg⟩,⟨Ze,Zd,Zc⟩⟩,Zt,Zs,ZC,Zz,ZL,ZB,Zy,Zu,Zo,Zv,Zn,Zx,⟨Zr,Zq,Zl⟩,ZE,ZF⟩) (ZO.lt ⟨YD,⟨Yb,YT⟩,Xr,l_id,⟨YH,YG,ZZ⟩,Xh,⟨ZS,Yo⟩,⟨YF,YB,ZT⟩⟩)=((ZK.nd ⟨⟨⟨Za,Zb⟩,⟨Zf,Zh⟩,⟨Zj,Zi,Zg⟩,⟨Ze,Zd,Zc⟩⟩,Zt,Zs,ZC,Zz,ZL,ZB,Zy,Zu,Zo,Zv,Zn,Zx,⟨Zr,Zq,Zl⟩,ZE,ZF⟩),[]):=(does4 hk).trans (told_no (by exact .inr (by assumption)))
    refine ⟨_,M,[(bw,rowO (ZQ.segs ⟨⟨⟨⟨Za,Zb⟩,⟨Zf,Zh⟩,⟨Zj,Zi,Zg⟩,⟨Ze,Zd,Zc⟩⟩,Zt,Zs,ZC,Zz,ZL,ZB,Zy,Zu,Zo,Zv,Zn,Zx,⟨Zr,Zq,Zl⟩,ZE,ZF⟩,⟨none,0,[]⟩⟩) 68)],rfl,Mem.le.refl M,hw.c,rfl,⟨⟨⟨Za,Zb⟩,⟨Zf,Zh⟩,⟨Zj,Zi,Zg⟩,⟨Ze,Zd,Zc⟩⟩,Zt,Zs,ZC,Zz,ZL,ZB,Zy,Zu,Zo,Zv,Zn,Zx,⟨Zr,Zq,Zl⟩,ZE,ZF⟩,⟨none,0,[]⟩,rfl,?_,?_,⟨Yt,YI⟩,SlK.nil,fun y hy=>by cases hy⟩
    ·rw [h3] <;> rfl
    ·rw [h3] <;> rfl
   ·replace hc3:=nF hc3
    refine YE (Zp (Y_pk [3,0] ?_));refine ZJ (Zm (l:=[0,1,2,3,4]) rfl ?_);refine ZA ?_;refine Yf ?_;refine Zk F.foff68_0 ?_;refine Zk F.foff32_6 ?_;refine ZX F.lay3 ?_;refine Zw (Zp (Y_pk [3,0] ?_));refine ZJ (XW (l:=[0,1,2,3,4,5]) [5] rfl ?_);refine ZA ?_;refine Zk F.foff44_1 ?_;refine ZH F.lay25 ?_;refine Zk F.foff44_7 ?_;refine ZH F.lay26 ?_;refine Vg rfl rfl rfl F.ok82 rfl (adopt_ok M bw Za Zb Zf Zh Zj Ze Zr Zi Zd Zq Zg Zc Zl Zt Zs ZC Zz ZL (-1) Zy Zu Zo Zv Zn Zx ZE ZF Yt ⟨Yb,YT⟩ ⟨YF,YB,ZT⟩ XE) (by repeat first|exact Rem.here _|exact Rem.two|apply Rem.skip|apply Rem.over) (YN rfl) ?_
    rintro _ M1 hs1 hm1 ⟨rfl,⟨⟨wa,wi⟩,⟨wq,wj⟩,⟨w1a,w1c,w1l⟩,⟨w2a,w2c,w2l⟩⟩,rfl,okt,hv1⟩
    simp only [List.append_assoc,List.cons_append,List.nil_append]
    refine Zw (WE ?_);refine Zp (Y_pk [3,0] ?_)
    iterate 2 refine ZJ ?_
    refine YL (l:=[0,1,2,3,4,5,6,7]) #[0,1,3,7,15,0,32,127] _ rfl (by kernel_rfl) (by kernel_rfl) St.drawn (fun _ h=>h) ?_;refine ZA ?_;refine Yf ?_;refine Zk F.foff68_0 ?_;refine Zk F.foff32_0 ?_;refine ZH F.lay28 ?_;refine Zk F.foff44_6 ?_;refine ZH F.lay25 ?_;refine X_fs rfl rfl F.ok104 rfl (Closer_ok _ ⟨⟨wa,wi⟩,⟨wq,wj⟩,⟨w1a,w1c,w1l⟩,⟨w2a,w2c,w2l⟩⟩ ⟨ZS,Yo⟩ okt) rfl ?_
    rintro _ rfl
    refine Zw (Zp (Y_pk [40,3,0] ?_))
    refine YC rfl (fun hc4=>?_) (fun hc4=>?_)
    ·replace hc4:=dT hc4
     refine C_region_anyW (l:=[0,1,2,3,4,5,6,7,8,9,10]) [10] #[0,0,2,0,8,24,0,64,192,504,1023] (_) rfl (by kernel_rfl) (by kernel_rfl) St.drawn (fun _ h=>h) ?_;refine ZA ?_;refine Zk F.foff44_6 ?_;refine ZH F.lay25 ?_;refine Zk F.foff44_7 ?_;refine ZH F.lay26 ?_;refine VV rfl rfl F.ok106 rfl (CloneP_ok M1 YF YB ZT (XE.mono hm1) (by omega)) (by repeat first|exact Rem.here _|exact Rem.two|apply Rem.skip|apply Rem.over) (fun _ _ _ hm hw=>(hw.lower (by exact hm)).c) (YN rfl) ?_
     rintro v0 M2 hs0 hm2 ⟨hM2,ho0⟩;subst M2;clear hm2
     obtain ⟨ad0,cp0,rfl⟩:=ho0.valL
     refine Zk F.foff44_1 ?_;refine ZH F.lay25 ?_
     refine Xu rfl rfl F.elem26 F.zero25 rfl rfl (.cons rfl (by constructor) .nil) rfl rfl (by simp only [List.map_cons,List.map_nil] <;> rfl) rfl ?_;intro b5 hob6
     refine X_fhR2 rfl rfl F.ok105 rfl (InsertP_ok M1 ad0 cp0 ZT hs0 0 (Nat.zero_le _) ⟨Yb,YT⟩ _ _ hob6 (by omega) ho0) (by repeat first|exact Rem.here _|exact Rem.two|apply Rem.skip|apply Rem.over) (by repeat first|exact Rem.here _|exact Rem.two|apply Rem.skip|apply Rem.over) (by rintro v M9 Ho w hm ⟨rfl,_⟩ hw;exact hw.c) (YN rfl) ?_
     rintro v7 MX hs7 hmX ⟨hMX,ho7⟩
     subst MX
     clear hmX
     obtain ⟨ad7,cp7,rfl⟩:=ho7.valL
     simp only [List.append_assoc,List.cons_append,List.nil_append]
     refine X_fhW2 rfl rfl rfl F.ok82 rfl ((fh_thaw ho7 (fun M9 j1 j3=>adopt_ok M9 bw wa wi wq wj w1a w2a Zr w1c w2c Zq w1l w2l Zl Zt Zs ZC Zz ZL (-1) Zy Zu Zo Zv Zn Zx ZE ZF (okt.mono j1) ⟨ZS,Yo⟩ ⟨ad7,cp7,insL ZT 0 ⟨Yb,YT⟩⟩ j3))) (by repeat first|exact Rem.here _|exact Rem.two|apply Rem.skip|apply Rem.over) (by repeat first|exact Rem.here _|exact Rem.two|apply Rem.skip|apply Rem.over) (YN rfl) ?_
     rintro _ M2 hs2 hm2 ⟨rfl,⟨⟨ua,ui⟩,⟨uq,uj⟩,⟨u1a,u1c,u1l⟩,⟨u2a,u2c,u2l⟩⟩,rfl,oku,hv2⟩
     simp only [List.append_assoc,List.cons_append,List.nil_append]
     refine Zw (WE ?_);refine Zp (Y_pk [0] ?_);refine XW (l:=[0,1,2,3,4,5,6,7,8,9,10]) [10] rfl ?_
     iterate 2 refine ZA ?_
     refine Yf ?_;refine Zk F.foff68_0 ?_;refine Zk F.foff32_0 ?_;refine ZH F.lay28 ?_;refine X_fs rfl rfl F.ok41 rfl (First_ok _ ⟨⟨ua,ui⟩,⟨uq,uj⟩,⟨u1a,u1c,u1l⟩,⟨u2a,u2c,u2l⟩⟩ oku) rfl ?_
     rintro _ rfl
     obtain ⟨⟨fa,fi⟩,hfi⟩:∃ x,Wi (ZN.tb ⟨⟨ua,ui⟩,⟨uq,uj⟩,⟨u1a,u1c,u1l⟩,⟨u2a,u2c,u2l⟩⟩)=x:=⟨_,rfl⟩
     rw [hfi]
     refine Y_field F.fld25_0 F.lay3 ?_;refine X_fs rfl rfl F.ok66 rfl (Vz _) rfl ?_
     rintro _ rfl
     refine WY 60 rfl (show _=aggV [.one (.int .i64 (-1)),Yr 0] from rfl) ?_;refine Xy rfl rfl F.bld44 (.cons rfl (by constructor) (.cons rfl (by constructor) .nil)) rfl rfl ?_;refine Vg rfl rfl rfl F.ok65 rfl (sendF_ok M2 bw ua ui uq uj u1a u2a Zr u1c u2c Zq u1l u2l Zl Zt Zs ZC Zz ZL (-1) Zy Zu Zo Zv Zn Zx ZE ZF fa ⟨5,⟨0,0⟩,0,0,⟨none,0,[]⟩,false,⟨-1,0⟩,⟨none,0,[]⟩⟩) (by repeat first|exact Rem.here _|exact Rem.two|apply Rem.skip|apply Rem.over) (YN rfl) ?_
     rintro _ M3 hs3 hm3 ⟨rfl,⟨o9a,o9c,o9l⟩,rfl,k9o,hl9⟩
     simp only at hl9
     simp only [List.append_assoc,List.cons_append,List.nil_append]
     refine Zw (WE ?_)
     refine Yg (.inl rfl) (.nil) (fun w hw=>?_)
     have h3:=(does4 (n:=(ZK.nd ⟨⟨⟨Za,Zb⟩,⟨Zf,Zh⟩,⟨Zj,Zi,Zg⟩,⟨Ze,Zd,Zc⟩⟩,Zt,Zs,ZC,Zz,ZL,ZB,Zy,Zu,Zo,Zv,Zn,Zx,⟨Zr,Zq,Zl⟩,ZE,ZF⟩)) (l:=(ZO.lt ⟨YD,⟨Yb,YT⟩,Xr,l_id,⟨YH,YG,ZZ⟩,Xh,⟨ZS,Yo⟩,⟨YF,YB,ZT⟩⟩)) hk).trans (told_yes (m:=ZK.nd ⟨⟨⟨wa,wi⟩,⟨wq,wj⟩,⟨w1a,w1c,w1l⟩,⟨w2a,w2c,w2l⟩⟩,Zt,Zs,ZC,Zz,ZL,(-1),Zy,Zu,Zo,Zv,Zn,Zx,⟨Zr,Zq,Zl⟩,ZE,ZF⟩) (show (ZK.nd ⟨⟨⟨Za,Zb⟩,⟨Zf,Zh⟩,⟨Zj,Zi,Zg⟩,⟨Ze,Zd,Zc⟩⟩,Zt,Zs,ZC,Zz,ZL,ZB,Zy,Zu,Zo,Zv,Zn,Zx,⟨Zr,Zq,Zl⟩,ZE,ZF⟩).askTo=(ZO.lt ⟨YD,⟨Yb,YT⟩,Xr,l_id,⟨YH,YG,ZZ⟩,Xh,⟨ZS,Yo⟩,⟨YF,YB,ZT⟩⟩).frm.addr by show ZB=Yb;first|assumption|omega) (show (ZK.nd ⟨⟨⟨Za,Zb⟩,⟨Zf,Zh⟩,⟨Zj,Zi,Zg⟩,⟨Ze,Zd,Zc⟩⟩,Zt,Zs,ZC,Zz,ZL,ZB,Zy,Zu,Zo,Zv,Zn,Zx,⟨Zr,Zq,Zl⟩,ZE,ZF⟩).askReq=(ZO.lt ⟨YD,⟨Yb,YT⟩,Xr,l_id,⟨YH,YG,ZZ⟩,Xh,⟨ZS,Yo⟩,⟨YF,YB,ZT⟩⟩).req by show Zy=Xr;first|assumption|omega) hv1 (show CloserT (ZN.tb ⟨⟨wa,wi⟩,⟨wq,wj⟩,⟨w1a,w1c,w1l⟩,⟨w2a,w2c,w2l⟩⟩) ⟨ZS,Yo⟩ by assumption) (q:=ZK.nd ⟨⟨⟨ua,ui⟩,⟨uq,uj⟩,⟨u1a,u1c,u1l⟩,⟨u2a,u2c,u2l⟩⟩,Zt,Zs,ZC,Zz,ZL,(-1),Zy,Zu,Zo,Zv,Zn,Zx,⟨Zr,Zq,Zl⟩,ZE,ZF⟩) hv2)
     rw [show Wi (ZK.nd ⟨⟨⟨ua,ui⟩,⟨uq,uj⟩,⟨u1a,u1c,u1l⟩,⟨u2a,u2c,u2l⟩⟩,Zt,Zs,ZC,Zz,ZL,(-1),Zy,Zu,Zo,Zv,Zn,Zx,⟨Zr,Zq,Zl⟩,ZE,ZF⟩).table=⟨fa,fi⟩ from hfi] at h3
     refine ⟨_,M3,[(bw,rowO (ZQ.segs ⟨⟨⟨⟨ua,ui⟩,⟨uq,uj⟩,⟨u1a,u1c,u1l⟩,⟨u2a,u2c,u2l⟩⟩,Zt,Zs,ZC,Zz,ZL,(-1),Zy,Zu,Zo,Zv,Zn,Zx,⟨Zr,Zq,Zl⟩,ZE,ZF⟩,⟨o9a,o9c,o9l⟩⟩) 68)],rfl,((hm1.trans hm2).trans hm3),hw.c,rfl,⟨⟨⟨ua,ui⟩,⟨uq,uj⟩,⟨u1a,u1c,u1l⟩,⟨u2a,u2c,u2l⟩⟩,Zt,Zs,ZC,Zz,ZL,(-1),Zy,Zu,Zo,Zv,Zn,Zx,⟨Zr,Zq,Zl⟩,ZE,ZF⟩,⟨o9a,o9c,o9l⟩,rfl,?_,?_,⟨oku.mono hm3,((YI.mono hm1).mono hm2).mono hm3⟩,k9o,fun y hy=>?_⟩
     ·rw [h3] <;> rfl
     ·rw [h3]
      show sndl o9l=_
      rw [hl9];rfl
     ·simp only at hy
      rw [hl9] at hy
      obtain rfl:=List.mem_singleton.1 hy
      exact ⟨⟨SlK.nil,SlK.nil⟩⟩
    ·replace hc4:=dF hc4
     refine YE (Zp (Y_pk [0] ?_));refine XW (l:=[0,1,2,3,4,5,6,7,8,9,10]) [10] rfl ?_
     iterate 2 refine ZA ?_
     refine Yf ?_;refine Zk F.foff68_0 ?_;refine Zk F.foff32_0 ?_;refine ZH F.lay28 ?_;refine X_fs rfl rfl F.ok41 rfl (First_ok _ ⟨⟨wa,wi⟩,⟨wq,wj⟩,⟨w1a,w1c,w1l⟩,⟨w2a,w2c,w2l⟩⟩ okt) rfl ?_
     rintro _ rfl
     obtain ⟨⟨fa,fi⟩,hfi⟩:∃ x,Wi (ZN.tb ⟨⟨wa,wi⟩,⟨wq,wj⟩,⟨w1a,w1c,w1l⟩,⟨w2a,w2c,w2l⟩⟩)=x:=⟨_,rfl⟩
     rw [hfi]
     refine Y_field F.fld25_0 F.lay3 ?_;refine X_fs rfl rfl F.ok66 rfl (Vz _) rfl ?_
     rintro _ rfl
     refine WY 60 rfl (show _=aggV [.one (.int .i64 (-1)),Yr 0] from rfl) ?_;refine Xy rfl rfl F.bld44 (.cons rfl (by constructor) (.cons rfl (by constructor) .nil)) rfl rfl ?_;refine Vg rfl rfl rfl F.ok65 rfl (sendF_ok M1 bw wa wi wq wj w1a w2a Zr w1c w2c Zq w1l w2l Zl Zt Zs ZC Zz ZL (-1) Zy Zu Zo Zv Zn Zx ZE ZF fa ⟨5,⟨0,0⟩,0,0,⟨none,0,[]⟩,false,⟨-1,0⟩,⟨none,0,[]⟩⟩) (by repeat first|exact Rem.here _|exact Rem.two|apply Rem.skip|apply Rem.over) (YN rfl) ?_
     rintro _ M3 hs3 hm3 ⟨rfl,⟨o9a,o9c,o9l⟩,rfl,k9o,hl9⟩
     simp only at hl9
     simp only [List.append_assoc,List.cons_append,List.nil_append]
     refine Zw (WE ?_)
     refine Yg (.inl rfl) (.nil) (fun w hw=>?_)
     have h3:=(does4 (n:=(ZK.nd ⟨⟨⟨Za,Zb⟩,⟨Zf,Zh⟩,⟨Zj,Zi,Zg⟩,⟨Ze,Zd,Zc⟩⟩,Zt,Zs,ZC,Zz,ZL,ZB,Zy,Zu,Zo,Zv,Zn,Zx,⟨Zr,Zq,Zl⟩,ZE,ZF⟩)) (l:=(ZO.lt ⟨YD,⟨Yb,YT⟩,Xr,l_id,⟨YH,YG,ZZ⟩,Xh,⟨ZS,Yo⟩,⟨YF,YB,ZT⟩⟩)) hk).trans (told_not (m:=ZK.nd ⟨⟨⟨wa,wi⟩,⟨wq,wj⟩,⟨w1a,w1c,w1l⟩,⟨w2a,w2c,w2l⟩⟩,Zt,Zs,ZC,Zz,ZL,(-1),Zy,Zu,Zo,Zv,Zn,Zx,⟨Zr,Zq,Zl⟩,ZE,ZF⟩) (show (ZK.nd ⟨⟨⟨Za,Zb⟩,⟨Zf,Zh⟩,⟨Zj,Zi,Zg⟩,⟨Ze,Zd,Zc⟩⟩,Zt,Zs,ZC,Zz,ZL,ZB,Zy,Zu,Zo,Zv,Zn,Zx,⟨Zr,Zq,Zl⟩,ZE,ZF⟩).askTo=(ZO.lt ⟨YD,⟨Yb,YT⟩,Xr,l_id,⟨YH,YG,ZZ⟩,Xh,⟨ZS,Yo⟩,⟨YF,YB,ZT⟩⟩).frm.addr by show ZB=Yb;first|assumption|omega) (show (ZK.nd ⟨⟨⟨Za,Zb⟩,⟨Zf,Zh⟩,⟨Zj,Zi,Zg⟩,⟨Ze,Zd,Zc⟩⟩,Zt,Zs,ZC,Zz,ZL,ZB,Zy,Zu,Zo,Zv,Zn,Zx,⟨Zr,Zq,Zl⟩,ZE,ZF⟩).askReq=(ZO.lt ⟨YD,⟨Yb,YT⟩,Xr,l_id,⟨YH,YG,ZZ⟩,Xh,⟨ZS,Yo⟩,⟨YF,YB,ZT⟩⟩).req by show Zy=Xr;first|assumption|omega) hv1 (show ¬CloserT (ZN.tb ⟨⟨wa,wi⟩,⟨wq,wj⟩,⟨w1a,w1c,w1l⟩,⟨w2a,w2c,w2l⟩⟩) ⟨ZS,Yo⟩ by assumption))
     rw [show Wi (ZK.nd ⟨⟨⟨wa,wi⟩,⟨wq,wj⟩,⟨w1a,w1c,w1l⟩,⟨w2a,w2c,w2l⟩⟩,Zt,Zs,ZC,Zz,ZL,(-1),Zy,Zu,Zo,Zv,Zn,Zx,⟨Zr,Zq,Zl⟩,ZE,ZF⟩).table=⟨fa,fi⟩ from hfi] at h3
     refine ⟨_,M3,[(bw,rowO (ZQ.segs ⟨⟨⟨⟨wa,wi⟩,⟨wq,wj⟩,⟨w1a,w1c,w1l⟩,⟨w2a,w2c,w2l⟩⟩,Zt,Zs,ZC,Zz,ZL,(-1),Zy,Zu,Zo,Zv,Zn,Zx,⟨Zr,Zq,Zl⟩,ZE,ZF⟩,⟨o9a,o9c,o9l⟩⟩) 68)],rfl,(hm1.trans hm3),hw.c,rfl,⟨⟨⟨wa,wi⟩,⟨wq,wj⟩,⟨w1a,w1c,w1l⟩,⟨w2a,w2c,w2l⟩⟩,Zt,Zs,ZC,Zz,ZL,(-1),Zy,Zu,Zo,Zv,Zn,Zx,⟨Zr,Zq,Zl⟩,ZE,ZF⟩,⟨o9a,o9c,o9l⟩,rfl,?_,?_,⟨okt.mono hm3,(YI.mono hm1).mono hm3⟩,k9o,fun y hy=>?_⟩
     ·rw [h3] <;> rfl
     ·rw [h3]
      show sndl o9l=_
      rw [hl9];rfl
     ·simp only at hy
      rw [hl9] at hy
      obtain rfl:=List.mem_singleton.1 hy
      exact ⟨⟨SlK.nil,SlK.nil⟩⟩
end Go.Proofs.YtajmnjefajknoaaGreat
