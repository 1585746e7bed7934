/-
  Texts of this claim, one behind the other: E9, InsL, E10, E11, E12, E13, E14, W1, WireN, W2, W3, W4, W5, DeferN, W6, BagN, Bag1, Bag2, Bag3, ReqN, RingM.
-/
import Derived.Test.YtglnjnacodgmaaaGreatDoorQL3
import Derived.Defers
import Derived.Recover
import Derived.Test.YtglnjnacodgmaaaGreatDoorRows
set_option linter.unusedSimpArgs false
set_option linter.unusedVariables false
set_option linter.unnecessarySimpa false
set_option maxRecDepth 8000
set_option maxHeartbeats 1000000
namespace Go.Proofs.YtglnjnacodgmaaaGreatDoor
open Go.Esp
theorem F.ok124:okFn Tryz.prog 124=true:=by kernel_rfl
theorem F.ok173:okFn Tryz.prog 173=true:=by kernel_rfl
theorem end_ok (M:Mem) (bw:Nat) (Za:Int) (Zd:Plc) (Zc:Int) (Zg:Plc) (Zk Zf Zp:Option Addr) (Zj Ze Zo:Nat) (Zh Zb:List Zs) (Zl:List Int) (Zr:Int) (Zq:Bool) (ZD Zx ZM Zz Zv Zt Zn Zw Zm:Int) (Zu:Plc) (ZC ZE:Int) (Yj:ZO.ok M ⟨⟨Za,Zd⟩,⟨Zc,Zg⟩,⟨Zk,Zj,Zh⟩,⟨Zf,Ze,Zb⟩⟩) (Yu:SlK M (oneI .i64) 1 ⟨Zp,Zo,Zl⟩) (p:Zs):Fh Tryz.prog 173 [.pointer (some ⟨bw,0,none⟩),p.enc] M [(bw,rowO (ZN.segs ⟨⟨⟨⟨Za,Zd⟩,⟨Zc,Zg⟩,⟨Zk,Zj,Zh⟩,⟨Zf,Ze,Zb⟩⟩,Zr,Zq,ZD,Zx,ZM,Zz,Zv,Zt,Zn,Zw,Zm,Zu,⟨Zp,Zo,Zl⟩,ZC,ZE⟩,⟨none,0,[]⟩⟩) 166)] (fun M' v Hout=>v=.tuple #[]∧∃ n9:ZJ,Hout=[(bw,rowO (ZN.segs ⟨n9,⟨none,0,[]⟩⟩) 166)]∧ZJ.ok M' n9∧n9.nd=endN (ZJ.nd ⟨⟨⟨Za,Zd⟩,⟨Zc,Zg⟩,⟨Zk,Zj,Zh⟩,⟨Zf,Ze,Zb⟩⟩,Zr,Zq,ZD,Zx,ZM,Zz,Zv,Zt,Zn,Zw,Zm,Zu,⟨Zp,Zo,Zl⟩,ZC,ZE⟩) p):=by
  obtain ⟨YI,p_id⟩:=p
  refine YR (fun H=>(bw,rowO (ZN.segs ⟨⟨⟨⟨Za,Zd⟩,⟨Zc,Zg⟩,⟨Zk,Zj,Zh⟩,⟨Zf,Ze,Zb⟩⟩,Zr,Zq,ZD,Zx,ZM,Zz,Zv,Zt,Zn,Zw,Zm,Zu,⟨Zp,Zo,Zl⟩,ZC,ZE⟩,⟨none,0,[]⟩⟩) 166)::H) (fun _=>by simp only [List.append_assoc,List.cons_append,List.nil_append]) Tryz.func173 rfl Tryz.ntmps173 rfl ?_;intro H
  iterate 2 refine Stp ?_
  refine Xq ?_;intro b1
  iterate 4 refine Stp ?_
  refine Yg (l:=[0,1,2,3,4,5,6,7,8,9,10,11,12,13,14,15,16,17,18,19,20]) #[0,1,3,7,15,31,63,63,255,511,1023,1023,3071,7167,15359,31743,64511,131071,262143,524287,1048575] _ rfl jI jI St.drawn (fun _ h=>h) ?_
  iterate 2 refine Stp ?_
  refine Zi F.foff166_0 ?_;refine Zi F.foff44_2 ?_;refine Zy F.lay4 ?_;refine Yk ?_
  refine Yt 10 rfl (fun hc2=>?_) (fun hc2=>?_)
  ·skip
   refine Yk ?_;refine Zy F.lay38 ?_;refine X_fo rfl rfl F.ok124 rfl (wother_ok M bw Za Zd Zc Zg Zk Zf Zp Zj Ze Zo Zh Zb Zl Zr Zq ZD Zx ZM Zz Zv Zt Zn Zw Zm Zu ZC ZE ⟨YI,p_id⟩) jA (ZT rfl) ?_
   rintro _ M1 _ ⟨hM1,rfl⟩;subst M1
   refine Yk ?_
   refine Yt 14 rfl (cT fun hc3=>?_) (cF fun hc3=>?_)
   ·iterate 14 refine Stp ?_
    refine YB (l:=[0,1,2]) [2] rfl ?_;refine Yk ?_;refine Zy F.lay38 ?_;refine XN rfl rfl rfl F.ok166 rfl (point_ok M bw Za Zd Zc Zg Zk Zf Zp Zj Ze Zo Zh Zb Zl Zr Zq ZD Zx ZM Zz Zv Zt Zn Zw Zm Zu ZC ZE Yj ⟨YI,p_id⟩) jA (ZT rfl) ?_
    rintro _ M1 hs1 hm1 ⟨rfl,⟨⟨wa,wi⟩,⟨wq,wj⟩,⟨w1a,w1c,w1l⟩,⟨w2a,w2c,w2l⟩⟩,c9,rfl,okl,hv1⟩
    simp only [List.append_assoc,List.cons_append,List.nil_append]
    refine Xb (Xu ?_);refine K_out ?_
    refine ZV (.inl rfl) (.nil) (fun w hw=>?_)
    (refine ⟨_,M1,[(bw,rowO (ZN.segs ⟨⟨⟨⟨wa,wi⟩,⟨wq,wj⟩,⟨w1a,w1c,w1l⟩,⟨w2a,w2c,w2l⟩⟩,Zr,Zq,ZD,c9,ZM,Zz,Zv,Zt,Zn,Zw,Zm,Zu,⟨Zp,Zo,Zl⟩,ZC,ZE⟩,⟨none,0,[]⟩⟩) 166)],rfl,hm1,?_,rfl,⟨⟨⟨wa,wi⟩,⟨wq,wj⟩,⟨w1a,w1c,w1l⟩,⟨w2a,w2c,w2l⟩⟩,Zr,Zq,ZD,c9,ZM,Zz,Zv,Zt,Zn,Zw,Zm,Zu,⟨Zp,Zo,Zl⟩,ZC,ZE⟩,rfl,⟨okl,Yu.mono hm1⟩,hv1.trans (end_point (n:=(ZJ.nd ⟨⟨⟨Za,Zd⟩,⟨Zc,Zg⟩,⟨Zk,Zj,Zh⟩,⟨Zf,Ze,Zb⟩⟩,Zr,Zq,ZD,Zx,ZM,Zz,Zv,Zt,Zn,Zw,Zm,Zu,⟨Zp,Zo,Zl⟩,ZC,ZE⟩)) (show Zq=true by first|assumption|(simp_all;done)) (show Xn ⟨Za,Zd⟩ ⟨YI,p_id⟩∨(⟨YI,p_id⟩:Zs)=⟨Za,Zd⟩ by first|exact .inl jE|exact .inr jE)).symm⟩;simp only [ZN.segs,Sl.val,List.length_nil] at hw ⊢;exact hw.c)
   ·refine Zy F.lay38 ?_
    iterate 2 refine Stp ?_
    refine Zi F.foff166_0 ?_;refine Zi F.foff44_0 ?_;refine Zi F.foff41_0 ?_;refine Zy F.lay38 ?_
    refine VE (m:=20) rfl rfl rfl rfl rfl jG jG F.lay38 F.kinds38 rfl F.guard38 jS jS rfl rfl rfl ?_;intro c4 he5
    replace he5:c4=true↔Segs.cells _=Segs.cells _:=he5
    obtain rfl:=eqD he5 (Zs.inj (x:=⟨_,_⟩) (y:=⟨_,_⟩));clear he5
    iterate 5 refine Stp ?_
    refine ZW rfl (cT fun hc6=>?_) (cF fun hc6=>?_)
    ·refine YB (l:=[0,1,2]) [2] rfl ?_
     refine Yk ?_;refine Zy F.lay38 ?_;refine XN rfl rfl rfl F.ok166 rfl (point_ok M bw Za Zd Zc Zg Zk Zf Zp Zj Ze Zo Zh Zb Zl Zr Zq ZD Zx ZM Zz Zv Zt Zn Zw Zm Zu ZC ZE Yj ⟨YI,p_id⟩) jA (ZT rfl) ?_
     rintro _ M1 hs1 hm1 ⟨rfl,⟨⟨wa,wi⟩,⟨wq,wj⟩,⟨w1a,w1c,w1l⟩,⟨w2a,w2c,w2l⟩⟩,c9,rfl,okl,hv1⟩
     simp only [List.append_assoc,List.cons_append,List.nil_append]
     refine Xb (Xu ?_);refine K_out ?_
     refine ZV (.inl rfl) (.nil) (fun w hw=>?_)
     (refine ⟨_,M1,[(bw,rowO (ZN.segs ⟨⟨⟨⟨wa,wi⟩,⟨wq,wj⟩,⟨w1a,w1c,w1l⟩,⟨w2a,w2c,w2l⟩⟩,Zr,Zq,ZD,c9,ZM,Zz,Zv,Zt,Zn,Zw,Zm,Zu,⟨Zp,Zo,Zl⟩,ZC,ZE⟩,⟨none,0,[]⟩⟩) 166)],rfl,hm1,?_,rfl,⟨⟨⟨wa,wi⟩,⟨wq,wj⟩,⟨w1a,w1c,w1l⟩,⟨w2a,w2c,w2l⟩⟩,Zr,Zq,ZD,c9,ZM,Zz,Zv,Zt,Zn,Zw,Zm,Zu,⟨Zp,Zo,Zl⟩,ZC,ZE⟩,rfl,⟨okl,Yu.mono hm1⟩,hv1.trans (end_point (n:=(ZJ.nd ⟨⟨⟨Za,Zd⟩,⟨Zc,Zg⟩,⟨Zk,Zj,Zh⟩,⟨Zf,Ze,Zb⟩⟩,Zr,Zq,ZD,Zx,ZM,Zz,Zv,Zt,Zn,Zw,Zm,Zu,⟨Zp,Zo,Zl⟩,ZC,ZE⟩)) (show Zq=true by first|assumption|(simp_all;done)) (show Xn ⟨Za,Zd⟩ ⟨YI,p_id⟩∨(⟨YI,p_id⟩:Zs)=⟨Za,Zd⟩ by first|exact .inl jE|exact .inr jE)).symm⟩;simp only [ZN.segs,Sl.val,List.length_nil] at hw ⊢;exact hw.c)
    ·iterate 4 refine Stp ?_
     refine Zi F.foff166_0 ?_;refine Zi F.foff44_2 ?_;refine Zy F.lay4 ?_
     iterate 2 refine Stp ?_
     refine Yt 35 rfl (fun hc7=>?_) (fun hc7=>?_)
     ·skip
      refine Yk ?_;refine Zy F.lay38 ?_;refine X_fo rfl rfl F.ok124 rfl (wother_ok M bw Za Zd Zc Zg Zk Zf Zp Zj Ze Zo Zh Zb Zl Zr Zq ZD Zx ZM Zz Zv Zt Zn Zw Zm Zu ZC ZE ⟨YI,p_id⟩) jA (ZT rfl) ?_
      rintro _ M1 _ ⟨hM1,rfl⟩;subst M1
      iterate 4 refine Stp ?_
      refine ZW rfl (cT fun hc8=>?_) (cF fun hc8=>?_)
      ·contradiction
      ·iterate 2 refine Stp ?_
       refine ZV (.inl rfl) (.nil) (fun w hw=>?_)
       (exfalso;simp_all;done)
     ·skip
      iterate 10 refine Stp ?_
      refine ZV (.inl rfl) (.nil) (fun w hw=>?_)
      (refine ⟨_,M,[(bw,rowO (ZN.segs ⟨⟨⟨⟨Za,Zd⟩,⟨Zc,Zg⟩,⟨Zk,Zj,Zh⟩,⟨Zf,Ze,Zb⟩⟩,Zr,Zq,ZD,Zx,ZM,Zz,Zv,Zt,Zn,Zw,Zm,Zu,⟨Zp,Zo,Zl⟩,ZC,ZE⟩,⟨none,0,[]⟩⟩) 166)],rfl,Mem.le.refl M,?_,rfl,⟨⟨⟨Za,Zd⟩,⟨Zc,Zg⟩,⟨Zk,Zj,Zh⟩,⟨Zf,Ze,Zb⟩⟩,Zr,Zq,ZD,Zx,ZM,Zz,Zv,Zt,Zn,Zw,Zm,Zu,⟨Zp,Zo,Zl⟩,ZC,ZE⟩,rfl,⟨Yj,Yu⟩,(end_not (n:=(ZJ.nd ⟨⟨⟨Za,Zd⟩,⟨Zc,Zg⟩,⟨Zk,Zj,Zh⟩,⟨Zf,Ze,Zb⟩⟩,Zr,Zq,ZD,Zx,ZM,Zz,Zv,Zt,Zn,Zw,Zm,Zu,⟨Zp,Zo,Zl⟩,ZC,ZE⟩)) (p:=⟨YI,p_id⟩) (fun q=>by
       have q9:Zq=true:=q
       exact ⟨show ¬Xn ⟨Za,Zd⟩ ⟨YI,p_id⟩ by first|assumption|(exfalso;simp_all;done),show ¬(⟨YI,p_id⟩:Zs)=⟨Za,Zd⟩ by first|assumption|(exfalso;simp_all;done)⟩) (fun q=>by
       have q9:Zq=false:=q
       (show ¬Xn ⟨Za,Zd⟩ ⟨YI,p_id⟩;assumption))).symm⟩;simp only [ZN.segs,Sl.val,List.length_nil] at hw ⊢;exact hw.c)
  ·skip
   iterate 22 refine Stp ?_
   refine Zi F.foff166_0 ?_;refine Zi F.foff44_2 ?_;refine Zy F.lay4 ?_
   iterate 2 refine Stp ?_
   refine Yt 35 rfl (fun hc9=>?_) (fun hc9=>?_)
   ·skip
    refine Yk ?_;refine Zy F.lay38 ?_;refine X_fo rfl rfl F.ok124 rfl (wother_ok M bw Za Zd Zc Zg Zk Zf Zp Zj Ze Zo Zh Zb Zl Zr Zq ZD Zx ZM Zz Zv Zt Zn Zw Zm Zu ZC ZE ⟨YI,p_id⟩) jA (ZT rfl) ?_
    rintro _ M1 _ ⟨hM1,rfl⟩;subst M1
    iterate 4 refine Stp ?_
    refine ZW rfl (cT fun hc10=>?_) (cF fun hc10=>?_)
    ·refine VP ?_
     refine YB (l:=[0,1,2]) [2] rfl ?_;refine Yk ?_;refine Zy F.lay38 ?_;refine XN rfl rfl rfl F.ok163 rfl (adopt_ok M bw Za Zd Zc Zg Zk Zf Zp Zj Ze Zo Zh Zb Zl Zr Zq ZD Zx ZM Zz Zv Zt Zn Zw Zm Zu ZC ZE Yj ⟨YI,p_id⟩ ⟨none,0,[]⟩ SlK.nil) jA (ZT rfl) ?_
     rintro _ M1 hs1 hm1 ⟨rfl,⟨⟨wa,wi⟩,⟨wq,wj⟩,⟨w1a,w1c,w1l⟩,⟨w2a,w2c,w2l⟩⟩,rfl,okl,hv1⟩
     simp only [List.append_assoc,List.cons_append,List.nil_append]
     refine Xb (Xu ?_)
     iterate 6 refine Stp ?_
     refine Zi F.foff166_0 ?_;refine Zi F.foff44_2 ?_;refine Ya F.lay4 ?_;refine YT ?_;refine Zi F.foff166_0 ?_;refine Zi F.foff44_4 ?_;refine Ya F.lay3 ?_;refine YT ?_;refine Zi F.foff166_0 ?_;refine Zi F.foff44_13 ?_;refine Ya F.lay32 ?_
     iterate 2 refine Stp ?_
     refine ZV (.inl rfl) (.nil) (fun w hw=>?_)
     (refine ⟨_,M1,[(bw,rowO (ZN.segs ⟨⟨⟨⟨wa,wi⟩,⟨wq,wj⟩,⟨w1a,w1c,w1l⟩,⟨w2a,w2c,w2l⟩⟩,Zr,true,ZD,0,ZM,Zz,Zv,Zt,Zn,Zw,Zm,Zu,⟨none,0,[]⟩,ZC,ZE⟩,⟨none,0,[]⟩⟩) 166)],rfl,hm1,?_,rfl,⟨⟨⟨wa,wi⟩,⟨wq,wj⟩,⟨w1a,w1c,w1l⟩,⟨w2a,w2c,w2l⟩⟩,Zr,true,ZD,0,ZM,Zz,Zv,Zt,Zn,Zw,Zm,Zu,⟨none,0,[]⟩,ZC,ZE⟩,rfl,⟨okl,SlK.nil⟩,(end_adopt (n:=(ZJ.nd ⟨⟨⟨Za,Zd⟩,⟨Zc,Zg⟩,⟨Zk,Zj,Zh⟩,⟨Zf,Ze,Zb⟩⟩,Zr,Zq,ZD,Zx,ZM,Zz,Zv,Zt,Zn,Zw,Zm,Zu,⟨Zp,Zo,Zl⟩,ZC,ZE⟩)) (show Zq=false by first|assumption|(simp_all;done)) (show Xn ⟨Za,Zd⟩ ⟨YI,p_id⟩ by assumption) hv1).symm⟩;simp only [ZN.segs,Sl.val,List.length_nil] at hw ⊢;exact hw.c)
    ·iterate 2 refine Stp ?_
     refine ZV (.inl rfl) (.nil) (fun w hw=>?_)
     (refine ⟨_,M,[(bw,rowO (ZN.segs ⟨⟨⟨⟨Za,Zd⟩,⟨Zc,Zg⟩,⟨Zk,Zj,Zh⟩,⟨Zf,Ze,Zb⟩⟩,Zr,Zq,ZD,Zx,ZM,Zz,Zv,Zt,Zn,Zw,Zm,Zu,⟨Zp,Zo,Zl⟩,ZC,ZE⟩,⟨none,0,[]⟩⟩) 166)],rfl,Mem.le.refl M,?_,rfl,⟨⟨⟨Za,Zd⟩,⟨Zc,Zg⟩,⟨Zk,Zj,Zh⟩,⟨Zf,Ze,Zb⟩⟩,Zr,Zq,ZD,Zx,ZM,Zz,Zv,Zt,Zn,Zw,Zm,Zu,⟨Zp,Zo,Zl⟩,ZC,ZE⟩,rfl,⟨Yj,Yu⟩,(end_not (n:=(ZJ.nd ⟨⟨⟨Za,Zd⟩,⟨Zc,Zg⟩,⟨Zk,Zj,Zh⟩,⟨Zf,Ze,Zb⟩⟩,Zr,Zq,ZD,Zx,ZM,Zz,Zv,Zt,Zn,Zw,Zm,Zu,⟨Zp,Zo,Zl⟩,ZC,ZE⟩)) (p:=⟨YI,p_id⟩) (fun q=>by
      have q9:Zq=true:=q
      exact ⟨show ¬Xn ⟨Za,Zd⟩ ⟨YI,p_id⟩ by first|assumption|(exfalso;simp_all;done),show ¬(⟨YI,p_id⟩:Zs)=⟨Za,Zd⟩ by first|assumption|(exfalso;simp_all;done)⟩) (fun q=>by
      have q9:Zq=false:=q
      (show ¬Xn ⟨Za,Zd⟩ ⟨YI,p_id⟩;assumption))).symm⟩;simp only [ZN.segs,Sl.val,List.length_nil] at hw ⊢;exact hw.c)
   ·skip
    iterate 10 refine Stp ?_
    refine ZV (.inl rfl) (.nil) (fun w hw=>?_)
    (exfalso;simp_all;done)
theorem found_ok (M:Mem) (bw:Nat) (Za:Int) (Zd:Plc) (Zc:Int) (Zg:Plc) (Zk Zf Zp:Option Addr) (Zj Ze Zo:Nat) (Zh Zb:List Zs) (Zl:List Int) (Zr:Int) (Zq:Bool) (ZD Zx ZM Zz Zv Zt Zn Zw Zm:Int) (Zu:Plc) (ZC ZE:Int) (Yj:ZO.ok M ⟨⟨Za,Zd⟩,⟨Zc,Zg⟩,⟨Zk,Zj,Zh⟩,⟨Zf,Ze,Zb⟩⟩) (Yu:SlK M (oneI .i64) 1 ⟨Zp,Zo,Zl⟩) (hbig:Zh.length≤40∧Zb.length≤200) (hLa:Zl.length≤1000) (hh:0≤ZC∧ZC≤1000) (l:ZF) (hl0:ZF.ok M l) (hLp:l.peers.l.length≤1000) (hk:l.kind=2):Fh Tryz.prog 117 [.pointer (some ⟨bw,0,none⟩),l.enc] M [(bw,rowO (ZN.segs ⟨⟨⟨⟨Za,Zd⟩,⟨Zc,Zg⟩,⟨Zk,Zj,Zh⟩,⟨Zf,Ze,Zb⟩⟩,Zr,Zq,ZD,Zx,ZM,Zz,Zv,Zt,Zn,Zw,Zm,Zu,⟨Zp,Zo,Zl⟩,ZC,ZE⟩,⟨none,0,[]⟩⟩) 166)] (fun M' v Hout=>v=.tuple #[]∧WkF bw 166 M' Hout (Wu (ZJ.nd ⟨⟨⟨Za,Zd⟩,⟨Zc,Zg⟩,⟨Zk,Zj,Zh⟩,⟨Zf,Ze,Zb⟩⟩,Zr,Zq,ZD,Zx,ZM,Zz,Zv,Zt,Zn,Zw,Zm,Zu,⟨Zp,Zo,Zl⟩,ZC,ZE⟩) l.lt)):=by
  obtain ⟨ZK,⟨ZH,ZY⟩,Yd,l_id,⟨ZS,ZR,ZG⟩,ZX,⟨ZA,ZL⟩,⟨ZQ,ZP,ZB⟩⟩:=l
  simp only at hLp hk
  have XM:SlK M (oneI .i64) 1 ⟨ZS,ZR,ZG⟩:=hl0.h0
  have YY:SlK M Zs.segs 21 ⟨ZQ,ZP,ZB⟩:=hl0.h1
  have Wq:=YY.h1
  simp only at Wq
  have VS:(ZB.map Zs.segs).length=ZB.length:=List.length_map ..
  have VT:ZB.length≤ZP:=YY.h3
  refine YR (fun H=>(bw,rowO (ZN.segs ⟨⟨⟨⟨Za,Zd⟩,⟨Zc,Zg⟩,⟨Zk,Zj,Zh⟩,⟨Zf,Ze,Zb⟩⟩,Zr,Zq,ZD,Zx,ZM,Zz,Zv,Zt,Zn,Zw,Zm,Zu,⟨Zp,Zo,Zl⟩,ZC,ZE⟩,⟨none,0,[]⟩⟩) 166)::H) (fun _=>by simp only [List.append_assoc,List.cons_append,List.nil_append]) Tryz.func117 rfl Tryz.ntmps117 rfl ?_;intro H
  iterate 2 refine Stp ?_
  refine Xq ?_;intro b1
  iterate 4 refine Stp ?_
  refine Yg (l:=[0,1,2,3,4,5,6,7,8,9,10,11,12,13,14,15,16,17,18]) #[0,1,3,7,15,0,32,96,255,511,1023,2047,4095,8191,16383,1023,33791,131071,262143] _ rfl jI jI St.drawn (fun _ h=>h) ?_
  iterate 2 refine Stp ?_
  refine Zi F.foff166_0 ?_;refine Zi F.foff44_10 ?_;refine Zy F.lay3 ?_;refine Zi F.foff128_1 ?_;refine Zi F.foff38_0 ?_;refine Zy F.lay3 ?_
  iterate 2 refine Stp ?_
  refine Yt 13 rfl (eT fun hc2=>?_) (eF fun hc2=>?_)
  ·iterate 14 refine Stp ?_
   refine ZV (.inr rfl) (.nil) (fun w hw=>?_)
   have h3:Wu (ZJ.nd ⟨⟨⟨Za,Zd⟩,⟨Zc,Zg⟩,⟨Zk,Zj,Zh⟩,⟨Zf,Ze,Zb⟩⟩,Zr,Zq,ZD,Zx,ZM,Zz,Zv,Zt,Zn,Zw,Zm,Zu,⟨Zp,Zo,Zl⟩,ZC,ZE⟩) (ZF.lt ⟨ZK,⟨ZH,ZY⟩,Yd,l_id,⟨ZS,ZR,ZG⟩,ZX,⟨ZA,ZL⟩,⟨ZQ,ZP,ZB⟩⟩)=((ZJ.nd ⟨⟨⟨Za,Zd⟩,⟨Zc,Zg⟩,⟨Zk,Zj,Zh⟩,⟨Zf,Ze,Zb⟩⟩,Zr,Zq,ZD,Zx,ZM,Zz,Zv,Zt,Zn,Zw,Zm,Zu,⟨Zp,Zo,Zl⟩,ZC,ZE⟩),[]):=(does2 hk).trans (found_no yQ)
   refine ⟨_,M,[(bw,rowO (ZN.segs ⟨⟨⟨⟨Za,Zd⟩,⟨Zc,Zg⟩,⟨Zk,Zj,Zh⟩,⟨Zf,Ze,Zb⟩⟩,Zr,Zq,ZD,Zx,ZM,Zz,Zv,Zt,Zn,Zw,Zm,Zu,⟨Zp,Zo,Zl⟩,ZC,ZE⟩,⟨none,0,[]⟩⟩) 166)],rfl,Mem.le.refl M,hw.c,rfl,⟨⟨⟨Za,Zd⟩,⟨Zc,Zg⟩,⟨Zk,Zj,Zh⟩,⟨Zf,Ze,Zb⟩⟩,Zr,Zq,ZD,Zx,ZM,Zz,Zv,Zt,Zn,Zw,Zm,Zu,⟨Zp,Zo,Zl⟩,ZC,ZE⟩,⟨none,0,[]⟩,rfl,?_,?_,⟨Yj,Yu⟩,SlK.nil,fun y hy=>by cases hy⟩
   ·rw [h3] <;> rfl
   ·rw [h3] <;> rfl
  ·iterate 2 refine Stp ?_
   refine Zi F.foff166_0 ?_;refine Zi F.foff44_11 ?_;refine Zy F.lay42 ?_;refine Zi F.foff128_2 ?_;refine Zy F.lay42 ?_
   iterate 4 refine Stp ?_
   refine ZW rfl (eT fun hc3=>?_) (eF fun hc3=>?_)
   ·iterate 2 refine Stp ?_
    refine ZV (.inr rfl) (.nil) (fun w hw=>?_)
    have h3:Wu (ZJ.nd ⟨⟨⟨Za,Zd⟩,⟨Zc,Zg⟩,⟨Zk,Zj,Zh⟩,⟨Zf,Ze,Zb⟩⟩,Zr,Zq,ZD,Zx,ZM,Zz,Zv,Zt,Zn,Zw,Zm,Zu,⟨Zp,Zo,Zl⟩,ZC,ZE⟩) (ZF.lt ⟨ZK,⟨ZH,ZY⟩,Yd,l_id,⟨ZS,ZR,ZG⟩,ZX,⟨ZA,ZL⟩,⟨ZQ,ZP,ZB⟩⟩)=((ZJ.nd ⟨⟨⟨Za,Zd⟩,⟨Zc,Zg⟩,⟨Zk,Zj,Zh⟩,⟨Zf,Ze,Zb⟩⟩,Zr,Zq,ZD,Zx,ZM,Zz,Zv,Zt,Zn,Zw,Zm,Zu,⟨Zp,Zo,Zl⟩,ZC,ZE⟩),[]):=(does2 hk).trans (found_no (by exact .inr jE))
    refine ⟨_,M,[(bw,rowO (ZN.segs ⟨⟨⟨⟨Za,Zd⟩,⟨Zc,Zg⟩,⟨Zk,Zj,Zh⟩,⟨Zf,Ze,Zb⟩⟩,Zr,Zq,ZD,Zx,ZM,Zz,Zv,Zt,Zn,Zw,Zm,Zu,⟨Zp,Zo,Zl⟩,ZC,ZE⟩,⟨none,0,[]⟩⟩) 166)],rfl,Mem.le.refl M,hw.c,rfl,⟨⟨⟨Za,Zd⟩,⟨Zc,Zg⟩,⟨Zk,Zj,Zh⟩,⟨Zf,Ze,Zb⟩⟩,Zr,Zq,ZD,Zx,ZM,Zz,Zv,Zt,Zn,Zw,Zm,Zu,⟨Zp,Zo,Zl⟩,ZC,ZE⟩,⟨none,0,[]⟩,rfl,?_,?_,⟨Yj,Yu⟩,SlK.nil,fun y hy=>by cases hy⟩
    ·rw [h3] <;> rfl
    ·rw [h3] <;> rfl
   ·iterate 5 refine Stp ?_
    refine Zi F.foff128_5 ?_;refine Zy F.lay4 ?_
    iterate 2 refine Stp ?_
    refine ZW rfl (fun hc4=>?_) (fun hc4=>?_)
    ·skip
     iterate 4 refine Stp ?_
     refine Zi F.foff166_0 ?_;refine Zi F.foff44_10 ?_;refine Ya F.lay3 ?_
     iterate 3 refine Stp ?_
     refine YB (l:=[0,1,2,3]) [3] rfl ?_;refine Yk ?_;refine Zi F.foff128_6 ?_;refine Zy F.lay38 ?_;refine XN rfl rfl rfl F.ok173 rfl (end_ok M bw Za Zd Zc Zg Zk Zf Zp Zj Ze Zo Zh Zb Zl Zr Zq ZD Zx ZM Zz Zv Zt Zn (-1) Zm Zu ZC ZE Yj Yu ⟨ZA,ZL⟩) jA (ZT rfl) ?_
     rintro _ M1 hs1 hm1 ⟨rfl,⟨⟨⟨YJ,YP⟩,⟨YK,YQ⟩,⟨YW,YV,YU⟩,⟨YN,YM,YL⟩⟩,Wm,Wr,Vn,Wl,Ua,WH,Wn,Wi,XR,Wj,XS,Wk,⟨XV,XU,XT⟩,Vj,Vi⟩,rfl,okv,hv1⟩
     simp only [List.append_assoc,List.cons_append,List.nil_append]
     refine Xb (Xu ?_)
     iterate 3 refine Stp ?_
     refine ZV (.inr rfl) (.nil) (fun w hw=>?_)
     have h3:Wu (ZJ.nd ⟨⟨⟨Za,Zd⟩,⟨Zc,Zg⟩,⟨Zk,Zj,Zh⟩,⟨Zf,Ze,Zb⟩⟩,Zr,Zq,ZD,Zx,ZM,Zz,Zv,Zt,Zn,Zw,Zm,Zu,⟨Zp,Zo,Zl⟩,ZC,ZE⟩) (ZF.lt ⟨ZK,⟨ZH,ZY⟩,Yd,l_id,⟨ZS,ZR,ZG⟩,ZX,⟨ZA,ZL⟩,⟨ZQ,ZP,ZB⟩⟩)=(ZJ.nd ⟨⟨⟨YJ,YP⟩,⟨YK,YQ⟩,⟨YW,YV,YU⟩,⟨YN,YM,YL⟩⟩,Wm,Wr,Vn,Wl,Ua,WH,Wn,Wi,XR,Wj,XS,Wk,⟨XV,XU,XT⟩,Vj,Vi⟩,[]):=(does2 hk).trans ((found_end (n:=(ZJ.nd ⟨⟨⟨Za,Zd⟩,⟨Zc,Zg⟩,⟨Zk,Zj,Zh⟩,⟨Zf,Ze,Zb⟩⟩,Zr,Zq,ZD,Zx,ZM,Zz,Zv,Zt,Zn,Zw,Zm,Zu,⟨Zp,Zo,Zl⟩,ZC,ZE⟩)) (l:=(ZF.lt ⟨ZK,⟨ZH,ZY⟩,Yd,l_id,⟨ZS,ZR,ZG⟩,ZX,⟨ZA,ZL⟩,⟨ZQ,ZP,ZB⟩⟩)) (show (ZJ.nd ⟨⟨⟨Za,Zd⟩,⟨Zc,Zg⟩,⟨Zk,Zj,Zh⟩,⟨Zf,Ze,Zb⟩⟩,Zr,Zq,ZD,Zx,ZM,Zz,Zv,Zt,Zn,Zw,Zm,Zu,⟨Zp,Zo,Zl⟩,ZC,ZE⟩).findTo=(ZF.lt ⟨ZK,⟨ZH,ZY⟩,Yd,l_id,⟨ZS,ZR,ZG⟩,ZX,⟨ZA,ZL⟩,⟨ZQ,ZP,ZB⟩⟩).frm.addr by show Zw=ZH;first|assumption|omega) (show (ZJ.nd ⟨⟨⟨Za,Zd⟩,⟨Zc,Zg⟩,⟨Zk,Zj,Zh⟩,⟨Zf,Ze,Zb⟩⟩,Zr,Zq,ZD,Zx,ZM,Zz,Zv,Zt,Zn,Zw,Zm,Zu,⟨Zp,Zo,Zl⟩,ZC,ZE⟩).findReq=(ZF.lt ⟨ZK,⟨ZH,ZY⟩,Yd,l_id,⟨ZS,ZR,ZG⟩,ZX,⟨ZA,ZL⟩,⟨ZQ,ZP,ZB⟩⟩).req by show Zm=Yd;first|assumption|omega) (show ZX=true by first|assumption|(simp_all;done))).trans (congrArg (fun x=>(x,([]:List Snd))) hv1.symm))
     refine ⟨_,M1,[(bw,rowO (ZN.segs ⟨⟨⟨⟨YJ,YP⟩,⟨YK,YQ⟩,⟨YW,YV,YU⟩,⟨YN,YM,YL⟩⟩,Wm,Wr,Vn,Wl,Ua,WH,Wn,Wi,XR,Wj,XS,Wk,⟨XV,XU,XT⟩,Vj,Vi⟩,⟨none,0,[]⟩⟩) 166)],rfl,hm1,hw.c,rfl,⟨⟨⟨YJ,YP⟩,⟨YK,YQ⟩,⟨YW,YV,YU⟩,⟨YN,YM,YL⟩⟩,Wm,Wr,Vn,Wl,Ua,WH,Wn,Wi,XR,Wj,XS,Wk,⟨XV,XU,XT⟩,Vj,Vi⟩,⟨none,0,[]⟩,rfl,?_,?_,okv,SlK.nil,fun y hy=>by cases hy⟩
     ·rw [h3] <;> rfl
     ·rw [h3] <;> rfl
    ·skip
     iterate 4 refine Stp ?_
     refine Yg (l:=[0,1,2,3,4,5,6,7,8,9,10,11,12,13,14,15,16,17,18,19,20,21,22,23,24,25,26,27,28,29,30,31,32]) #[0,0,2,7,15,31,63,127,255,511,1023,63,2111,6207,16383,32767,65535,131071,262143,524287,131071,1179647,3276799,8388607,16777215,33554431,67108863,134217727,268435455,536870911,1073741823,2147483647,4294967295] _ rfl jI jI St.drawn (fun _ h=>h) ?_;refine Yk ?_;refine Zi F.foff128_6 ?_;refine Zy F.lay38 ?_;refine X_fo rfl rfl F.ok124 rfl (wother_ok M bw Za Zd Zc Zg Zk Zf Zp Zj Ze Zo Zh Zb Zl Zr Zq ZD Zx ZM Zz Zv Zt Zn Zw Zm Zu ZC ZE ⟨ZA,ZL⟩) jA (ZT rfl) ?_
     rintro _ M1 _ ⟨hM1,rfl⟩;subst M1
     iterate 2 refine Stp ?_
     refine Yt 38 rfl (eT fun hc5=>?_) (eF fun hc5=>?_)
     ·iterate 34 refine Stp ?_
      refine Zi F.foff166_0 ?_;refine Zi F.foff44_10 ?_;refine Ya F.lay3 ?_
      iterate 4 refine Stp ?_
      refine ZV (.inr rfl) (.nil) (fun w hw=>?_)
      have h3:Wu (ZJ.nd ⟨⟨⟨Za,Zd⟩,⟨Zc,Zg⟩,⟨Zk,Zj,Zh⟩,⟨Zf,Ze,Zb⟩⟩,Zr,Zq,ZD,Zx,ZM,Zz,Zv,Zt,Zn,Zw,Zm,Zu,⟨Zp,Zo,Zl⟩,ZC,ZE⟩) (ZF.lt ⟨ZK,⟨ZH,ZY⟩,Yd,l_id,⟨ZS,ZR,ZG⟩,ZX,⟨ZA,ZL⟩,⟨ZQ,ZP,ZB⟩⟩)=(ZJ.nd ⟨⟨⟨Za,Zd⟩,⟨Zc,Zg⟩,⟨Zk,Zj,Zh⟩,⟨Zf,Ze,Zb⟩⟩,Zr,Zq,ZD,Zx,ZM,Zz,Zv,Zt,Zn,(-1),Zm,Zu,⟨Zp,Zo,Zl⟩,ZC,ZE⟩,[]):=(does2 hk).trans (found_drop (n:=(ZJ.nd ⟨⟨⟨Za,Zd⟩,⟨Zc,Zg⟩,⟨Zk,Zj,Zh⟩,⟨Zf,Ze,Zb⟩⟩,Zr,Zq,ZD,Zx,ZM,Zz,Zv,Zt,Zn,Zw,Zm,Zu,⟨Zp,Zo,Zl⟩,ZC,ZE⟩)) (l:=(ZF.lt ⟨ZK,⟨ZH,ZY⟩,Yd,l_id,⟨ZS,ZR,ZG⟩,ZX,⟨ZA,ZL⟩,⟨ZQ,ZP,ZB⟩⟩)) (show (ZJ.nd ⟨⟨⟨Za,Zd⟩,⟨Zc,Zg⟩,⟨Zk,Zj,Zh⟩,⟨Zf,Ze,Zb⟩⟩,Zr,Zq,ZD,Zx,ZM,Zz,Zv,Zt,Zn,Zw,Zm,Zu,⟨Zp,Zo,Zl⟩,ZC,ZE⟩).findTo=(ZF.lt ⟨ZK,⟨ZH,ZY⟩,Yd,l_id,⟨ZS,ZR,ZG⟩,ZX,⟨ZA,ZL⟩,⟨ZQ,ZP,ZB⟩⟩).frm.addr by show Zw=ZH;first|assumption|omega) (show (ZJ.nd ⟨⟨⟨Za,Zd⟩,⟨Zc,Zg⟩,⟨Zk,Zj,Zh⟩,⟨Zf,Ze,Zb⟩⟩,Zr,Zq,ZD,Zx,ZM,Zz,Zv,Zt,Zn,Zw,Zm,Zu,⟨Zp,Zo,Zl⟩,ZC,ZE⟩).findReq=(ZF.lt ⟨ZK,⟨ZH,ZY⟩,Yd,l_id,⟨ZS,ZR,ZG⟩,ZX,⟨ZA,ZL⟩,⟨ZQ,ZP,ZB⟩⟩).req by show Zm=Yd;first|assumption|omega) (show ZX=false by first|assumption|(simp_all;done)) (show ¬Xn ⟨Za,Zd⟩ ⟨ZA,ZL⟩∨ZA∈Zl∨ZA=ZH∨32≤ZC by first|exact .inl jE|exact .inr (.inl jE)|exact .inr (.inr (.inl jE))|exact .inr (.inr (.inr jC))))
      refine ⟨_,M,[(bw,rowO (ZN.segs ⟨⟨⟨⟨Za,Zd⟩,⟨Zc,Zg⟩,⟨Zk,Zj,Zh⟩,⟨Zf,Ze,Zb⟩⟩,Zr,Zq,ZD,Zx,ZM,Zz,Zv,Zt,Zn,(-1),Zm,Zu,⟨Zp,Zo,Zl⟩,ZC,ZE⟩,⟨none,0,[]⟩⟩) 166)],rfl,Mem.le.refl M,hw.c,rfl,⟨⟨⟨Za,Zd⟩,⟨Zc,Zg⟩,⟨Zk,Zj,Zh⟩,⟨Zf,Ze,Zb⟩⟩,Zr,Zq,ZD,Zx,ZM,Zz,Zv,Zt,Zn,(-1),Zm,Zu,⟨Zp,Zo,Zl⟩,ZC,ZE⟩,⟨none,0,[]⟩,rfl,?_,?_,⟨Yj,Yu⟩,SlK.nil,fun y hy=>by cases hy⟩
      ·rw [h3] <;> rfl
      ·rw [h3] <;> rfl
     ·iterate 2 refine Stp ?_
      refine Zi F.foff166_0 ?_;refine Zi F.foff44_13 ?_;refine Zy F.lay32 ?_;refine Zi F.foff128_6 ?_;refine Zi F.foff38_0 ?_;refine Zy F.lay3 ?_;refine X_fo rfl rfl F.ok96 rfl (ContainsI_rd M [] ⟨Zp,Zo,Zl⟩ ZA (Yu.h1.rd []) Yu.h2) jA (ZT rfl) ?_
      rintro _ M1 _ ⟨hM1,rfl⟩;subst M1
      iterate 2 refine Stp ?_
      refine Yt 49 rfl (cT fun hc6=>?_) (cF fun hc6=>?_)
      ·simp only [Zs.eta,ZO.eta,ZJ.eta,ZF.eta,Ym.eta,Yv.eta,Yy.eta,Yq.eta,ZN.eta,YF.eta,ZU.eta] at hc6
       iterate 23 refine Stp ?_
       refine Zi F.foff166_0 ?_;refine Zi F.foff44_10 ?_;refine Ya F.lay3 ?_
       iterate 4 refine Stp ?_
       refine ZV (.inr rfl) (.nil) (fun w hw=>?_)
       have h3:Wu (ZJ.nd ⟨⟨⟨Za,Zd⟩,⟨Zc,Zg⟩,⟨Zk,Zj,Zh⟩,⟨Zf,Ze,Zb⟩⟩,Zr,Zq,ZD,Zx,ZM,Zz,Zv,Zt,Zn,Zw,Zm,Zu,⟨Zp,Zo,Zl⟩,ZC,ZE⟩) (ZF.lt ⟨ZK,⟨ZH,ZY⟩,Yd,l_id,⟨ZS,ZR,ZG⟩,ZX,⟨ZA,ZL⟩,⟨ZQ,ZP,ZB⟩⟩)=(ZJ.nd ⟨⟨⟨Za,Zd⟩,⟨Zc,Zg⟩,⟨Zk,Zj,Zh⟩,⟨Zf,Ze,Zb⟩⟩,Zr,Zq,ZD,Zx,ZM,Zz,Zv,Zt,Zn,(-1),Zm,Zu,⟨Zp,Zo,Zl⟩,ZC,ZE⟩,[]):=(does2 hk).trans (found_drop (n:=(ZJ.nd ⟨⟨⟨Za,Zd⟩,⟨Zc,Zg⟩,⟨Zk,Zj,Zh⟩,⟨Zf,Ze,Zb⟩⟩,Zr,Zq,ZD,Zx,ZM,Zz,Zv,Zt,Zn,Zw,Zm,Zu,⟨Zp,Zo,Zl⟩,ZC,ZE⟩)) (l:=(ZF.lt ⟨ZK,⟨ZH,ZY⟩,Yd,l_id,⟨ZS,ZR,ZG⟩,ZX,⟨ZA,ZL⟩,⟨ZQ,ZP,ZB⟩⟩)) (show (ZJ.nd ⟨⟨⟨Za,Zd⟩,⟨Zc,Zg⟩,⟨Zk,Zj,Zh⟩,⟨Zf,Ze,Zb⟩⟩,Zr,Zq,ZD,Zx,ZM,Zz,Zv,Zt,Zn,Zw,Zm,Zu,⟨Zp,Zo,Zl⟩,ZC,ZE⟩).findTo=(ZF.lt ⟨ZK,⟨ZH,ZY⟩,Yd,l_id,⟨ZS,ZR,ZG⟩,ZX,⟨ZA,ZL⟩,⟨ZQ,ZP,ZB⟩⟩).frm.addr by show Zw=ZH;first|assumption|omega) (show (ZJ.nd ⟨⟨⟨Za,Zd⟩,⟨Zc,Zg⟩,⟨Zk,Zj,Zh⟩,⟨Zf,Ze,Zb⟩⟩,Zr,Zq,ZD,Zx,ZM,Zz,Zv,Zt,Zn,Zw,Zm,Zu,⟨Zp,Zo,Zl⟩,ZC,ZE⟩).findReq=(ZF.lt ⟨ZK,⟨ZH,ZY⟩,Yd,l_id,⟨ZS,ZR,ZG⟩,ZX,⟨ZA,ZL⟩,⟨ZQ,ZP,ZB⟩⟩).req by show Zm=Yd;first|assumption|omega) (show ZX=false by first|assumption|(simp_all;done)) (show ¬Xn ⟨Za,Zd⟩ ⟨ZA,ZL⟩∨ZA∈Zl∨ZA=ZH∨32≤ZC by first|exact .inl jE|exact .inr (.inl jE)|exact .inr (.inr (.inl jE))|exact .inr (.inr (.inr jC))))
       refine ⟨_,M,[(bw,rowO (ZN.segs ⟨⟨⟨⟨Za,Zd⟩,⟨Zc,Zg⟩,⟨Zk,Zj,Zh⟩,⟨Zf,Ze,Zb⟩⟩,Zr,Zq,ZD,Zx,ZM,Zz,Zv,Zt,Zn,(-1),Zm,Zu,⟨Zp,Zo,Zl⟩,ZC,ZE⟩,⟨none,0,[]⟩⟩) 166)],rfl,Mem.le.refl M,hw.c,rfl,⟨⟨⟨Za,Zd⟩,⟨Zc,Zg⟩,⟨Zk,Zj,Zh⟩,⟨Zf,Ze,Zb⟩⟩,Zr,Zq,ZD,Zx,ZM,Zz,Zv,Zt,Zn,(-1),Zm,Zu,⟨Zp,Zo,Zl⟩,ZC,ZE⟩,⟨none,0,[]⟩,rfl,?_,?_,⟨Yj,Yu⟩,SlK.nil,fun y hy=>by cases hy⟩
       ·rw [h3] <;> rfl
       ·rw [h3] <;> rfl
      ·simp only [Zs.eta,ZO.eta,ZJ.eta,ZF.eta,Ym.eta,Yv.eta,Yy.eta,Yq.eta,ZN.eta,YF.eta,ZU.eta] at hc6
       refine Zi F.foff128_6 ?_;refine Zi F.foff38_0 ?_;refine Zy F.lay3 ?_;refine Zi F.foff128_1 ?_;refine Zi F.foff38_0 ?_;refine Zy F.lay3 ?_
       iterate 3 refine Stp ?_
       refine Yt 58 rfl (cT fun hc7=>?_) (cF fun hc7=>?_)
       ·iterate 14 refine Stp ?_
        refine Zi F.foff166_0 ?_;refine Zi F.foff44_10 ?_;refine Ya F.lay3 ?_
        iterate 4 refine Stp ?_
        refine ZV (.inr rfl) (.nil) (fun w hw=>?_)
        have h3:Wu (ZJ.nd ⟨⟨⟨Za,Zd⟩,⟨Zc,Zg⟩,⟨Zk,Zj,Zh⟩,⟨Zf,Ze,Zb⟩⟩,Zr,Zq,ZD,Zx,ZM,Zz,Zv,Zt,Zn,Zw,Zm,Zu,⟨Zp,Zo,Zl⟩,ZC,ZE⟩) (ZF.lt ⟨ZK,⟨ZH,ZY⟩,Yd,l_id,⟨ZS,ZR,ZG⟩,ZX,⟨ZA,ZL⟩,⟨ZQ,ZP,ZB⟩⟩)=(ZJ.nd ⟨⟨⟨Za,Zd⟩,⟨Zc,Zg⟩,⟨Zk,Zj,Zh⟩,⟨Zf,Ze,Zb⟩⟩,Zr,Zq,ZD,Zx,ZM,Zz,Zv,Zt,Zn,(-1),Zm,Zu,⟨Zp,Zo,Zl⟩,ZC,ZE⟩,[]):=(does2 hk).trans (found_drop (n:=(ZJ.nd ⟨⟨⟨Za,Zd⟩,⟨Zc,Zg⟩,⟨Zk,Zj,Zh⟩,⟨Zf,Ze,Zb⟩⟩,Zr,Zq,ZD,Zx,ZM,Zz,Zv,Zt,Zn,Zw,Zm,Zu,⟨Zp,Zo,Zl⟩,ZC,ZE⟩)) (l:=(ZF.lt ⟨ZK,⟨ZH,ZY⟩,Yd,l_id,⟨ZS,ZR,ZG⟩,ZX,⟨ZA,ZL⟩,⟨ZQ,ZP,ZB⟩⟩)) (show (ZJ.nd ⟨⟨⟨Za,Zd⟩,⟨Zc,Zg⟩,⟨Zk,Zj,Zh⟩,⟨Zf,Ze,Zb⟩⟩,Zr,Zq,ZD,Zx,ZM,Zz,Zv,Zt,Zn,Zw,Zm,Zu,⟨Zp,Zo,Zl⟩,ZC,ZE⟩).findTo=(ZF.lt ⟨ZK,⟨ZH,ZY⟩,Yd,l_id,⟨ZS,ZR,ZG⟩,ZX,⟨ZA,ZL⟩,⟨ZQ,ZP,ZB⟩⟩).frm.addr by show Zw=ZH;first|assumption|omega) (show (ZJ.nd ⟨⟨⟨Za,Zd⟩,⟨Zc,Zg⟩,⟨Zk,Zj,Zh⟩,⟨Zf,Ze,Zb⟩⟩,Zr,Zq,ZD,Zx,ZM,Zz,Zv,Zt,Zn,Zw,Zm,Zu,⟨Zp,Zo,Zl⟩,ZC,ZE⟩).findReq=(ZF.lt ⟨ZK,⟨ZH,ZY⟩,Yd,l_id,⟨ZS,ZR,ZG⟩,ZX,⟨ZA,ZL⟩,⟨ZQ,ZP,ZB⟩⟩).req by show Zm=Yd;first|assumption|omega) (show ZX=false by first|assumption|(simp_all;done)) (show ¬Xn ⟨Za,Zd⟩ ⟨ZA,ZL⟩∨ZA∈Zl∨ZA=ZH∨32≤ZC by first|exact .inl jE|exact .inr (.inl jE)|exact .inr (.inr (.inl jE))|exact .inr (.inr (.inr jC))))
        refine ⟨_,M,[(bw,rowO (ZN.segs ⟨⟨⟨⟨Za,Zd⟩,⟨Zc,Zg⟩,⟨Zk,Zj,Zh⟩,⟨Zf,Ze,Zb⟩⟩,Zr,Zq,ZD,Zx,ZM,Zz,Zv,Zt,Zn,(-1),Zm,Zu,⟨Zp,Zo,Zl⟩,ZC,ZE⟩,⟨none,0,[]⟩⟩) 166)],rfl,Mem.le.refl M,hw.c,rfl,⟨⟨⟨Za,Zd⟩,⟨Zc,Zg⟩,⟨Zk,Zj,Zh⟩,⟨Zf,Ze,Zb⟩⟩,Zr,Zq,ZD,Zx,ZM,Zz,Zv,Zt,Zn,(-1),Zm,Zu,⟨Zp,Zo,Zl⟩,ZC,ZE⟩,⟨none,0,[]⟩,rfl,?_,?_,⟨Yj,Yu⟩,SlK.nil,fun y hy=>by cases hy⟩
        ·rw [h3] <;> rfl
        ·rw [h3] <;> rfl
       ·iterate 2 refine Stp ?_
        refine Zi F.foff166_0 ?_;refine Zi F.foff44_14 ?_;refine Zy F.lay3 ?_
        iterate 4 refine Stp ?_
        refine ZW rfl (cT fun hc8=>?_) (cF fun hc8=>?_)
        ·iterate 4 refine Stp ?_
         refine Zi F.foff166_0 ?_;refine Zi F.foff44_10 ?_;refine Ya F.lay3 ?_
         iterate 4 refine Stp ?_
         refine ZV (.inr rfl) (.nil) (fun w hw=>?_)
         have h3:Wu (ZJ.nd ⟨⟨⟨Za,Zd⟩,⟨Zc,Zg⟩,⟨Zk,Zj,Zh⟩,⟨Zf,Ze,Zb⟩⟩,Zr,Zq,ZD,Zx,ZM,Zz,Zv,Zt,Zn,Zw,Zm,Zu,⟨Zp,Zo,Zl⟩,ZC,ZE⟩) (ZF.lt ⟨ZK,⟨ZH,ZY⟩,Yd,l_id,⟨ZS,ZR,ZG⟩,ZX,⟨ZA,ZL⟩,⟨ZQ,ZP,ZB⟩⟩)=(ZJ.nd ⟨⟨⟨Za,Zd⟩,⟨Zc,Zg⟩,⟨Zk,Zj,Zh⟩,⟨Zf,Ze,Zb⟩⟩,Zr,Zq,ZD,Zx,ZM,Zz,Zv,Zt,Zn,(-1),Zm,Zu,⟨Zp,Zo,Zl⟩,ZC,ZE⟩,[]):=(does2 hk).trans (found_drop (n:=(ZJ.nd ⟨⟨⟨Za,Zd⟩,⟨Zc,Zg⟩,⟨Zk,Zj,Zh⟩,⟨Zf,Ze,Zb⟩⟩,Zr,Zq,ZD,Zx,ZM,Zz,Zv,Zt,Zn,Zw,Zm,Zu,⟨Zp,Zo,Zl⟩,ZC,ZE⟩)) (l:=(ZF.lt ⟨ZK,⟨ZH,ZY⟩,Yd,l_id,⟨ZS,ZR,ZG⟩,ZX,⟨ZA,ZL⟩,⟨ZQ,ZP,ZB⟩⟩)) (show (ZJ.nd ⟨⟨⟨Za,Zd⟩,⟨Zc,Zg⟩,⟨Zk,Zj,Zh⟩,⟨Zf,Ze,Zb⟩⟩,Zr,Zq,ZD,Zx,ZM,Zz,Zv,Zt,Zn,Zw,Zm,Zu,⟨Zp,Zo,Zl⟩,ZC,ZE⟩).findTo=(ZF.lt ⟨ZK,⟨ZH,ZY⟩,Yd,l_id,⟨ZS,ZR,ZG⟩,ZX,⟨ZA,ZL⟩,⟨ZQ,ZP,ZB⟩⟩).frm.addr by show Zw=ZH;first|assumption|omega) (show (ZJ.nd ⟨⟨⟨Za,Zd⟩,⟨Zc,Zg⟩,⟨Zk,Zj,Zh⟩,⟨Zf,Ze,Zb⟩⟩,Zr,Zq,ZD,Zx,ZM,Zz,Zv,Zt,Zn,Zw,Zm,Zu,⟨Zp,Zo,Zl⟩,ZC,ZE⟩).findReq=(ZF.lt ⟨ZK,⟨ZH,ZY⟩,Yd,l_id,⟨ZS,ZR,ZG⟩,ZX,⟨ZA,ZL⟩,⟨ZQ,ZP,ZB⟩⟩).req by show Zm=Yd;first|assumption|omega) (show ZX=false by first|assumption|(simp_all;done)) (show ¬Xn ⟨Za,Zd⟩ ⟨ZA,ZL⟩∨ZA∈Zl∨ZA=ZH∨32≤ZC by first|exact .inl jE|exact .inr (.inl jE)|exact .inr (.inr (.inl jE))|exact .inr (.inr (.inr jC))))
         refine ⟨_,M,[(bw,rowO (ZN.segs ⟨⟨⟨⟨Za,Zd⟩,⟨Zc,Zg⟩,⟨Zk,Zj,Zh⟩,⟨Zf,Ze,Zb⟩⟩,Zr,Zq,ZD,Zx,ZM,Zz,Zv,Zt,Zn,(-1),Zm,Zu,⟨Zp,Zo,Zl⟩,ZC,ZE⟩,⟨none,0,[]⟩⟩) 166)],rfl,Mem.le.refl M,hw.c,rfl,⟨⟨⟨Za,Zd⟩,⟨Zc,Zg⟩,⟨Zk,Zj,Zh⟩,⟨Zf,Ze,Zb⟩⟩,Zr,Zq,ZD,Zx,ZM,Zz,Zv,Zt,Zn,(-1),Zm,Zu,⟨Zp,Zo,Zl⟩,ZC,ZE⟩,⟨none,0,[]⟩,rfl,?_,?_,⟨Yj,Yu⟩,SlK.nil,fun y hy=>by cases hy⟩
         ·rw [h3] <;> rfl
         ·rw [h3] <;> rfl
        ·iterate 6 refine Stp ?_
         refine Zi F.foff166_0 ?_;refine Zi F.foff44_14 ?_;refine Zy F.lay3 ?_;refine YO rfl rfl rfl rfl rfl yA rfl ?_;refine YT ?_;refine Zi F.foff166_0 ?_;refine Zi F.foff44_14 ?_;refine Ya F.lay3 ?_
         iterate 2 refine Stp ?_
         refine YB (l:=[0,1,2,3,4]) [4] rfl ?_;refine Yk ?_;refine Zi F.foff128_6 ?_;refine Zi F.foff38_0 ?_;refine Zy F.lay3 ?_;refine XN rfl rfl rfl F.ok167 rfl (seek_ok M bw Za Zd Zc Zg Zk Zf Zp Zj Ze Zo Zh Zb Zl Zr Zq ZD Zx ZM Zz Zv Zt Zn Zw Zm Zu (ZC+1) ZE Yj Yu hLa ZA) jA (ZT rfl) ?_
         rintro _ M2 hs2 hm2 ⟨rfl,⟨⟨⟨YJ,YP⟩,⟨YK,YQ⟩,⟨YW,YV,YU⟩,⟨YN,YM,YL⟩⟩,Wm,Wr,Vn,Wl,Ua,WH,Wn,Wi,XR,Wj,XS,Wk,⟨XV,XU,XT⟩,Vj,Vi⟩,⟨o_a,o_c,o_l⟩,rfl,hv1,hv2,okv,oko,okq⟩
         simp only [List.append_assoc,List.cons_append,List.nil_append]
         refine Xb (Xu ?_)
         refine ZV (.inl rfl) (.nil) (fun w hw=>?_)
         have h3:=(does2 (n:=(ZJ.nd ⟨⟨⟨Za,Zd⟩,⟨Zc,Zg⟩,⟨Zk,Zj,Zh⟩,⟨Zf,Ze,Zb⟩⟩,Zr,Zq,ZD,Zx,ZM,Zz,Zv,Zt,Zn,Zw,Zm,Zu,⟨Zp,Zo,Zl⟩,ZC,ZE⟩)) (l:=(ZF.lt ⟨ZK,⟨ZH,ZY⟩,Yd,l_id,⟨ZS,ZR,ZG⟩,ZX,⟨ZA,ZL⟩,⟨ZQ,ZP,ZB⟩⟩)) hk).trans (found_seek (n:=(ZJ.nd ⟨⟨⟨Za,Zd⟩,⟨Zc,Zg⟩,⟨Zk,Zj,Zh⟩,⟨Zf,Ze,Zb⟩⟩,Zr,Zq,ZD,Zx,ZM,Zz,Zv,Zt,Zn,Zw,Zm,Zu,⟨Zp,Zo,Zl⟩,ZC,ZE⟩)) (l:=(ZF.lt ⟨ZK,⟨ZH,ZY⟩,Yd,l_id,⟨ZS,ZR,ZG⟩,ZX,⟨ZA,ZL⟩,⟨ZQ,ZP,ZB⟩⟩)) (show (ZJ.nd ⟨⟨⟨Za,Zd⟩,⟨Zc,Zg⟩,⟨Zk,Zj,Zh⟩,⟨Zf,Ze,Zb⟩⟩,Zr,Zq,ZD,Zx,ZM,Zz,Zv,Zt,Zn,Zw,Zm,Zu,⟨Zp,Zo,Zl⟩,ZC,ZE⟩).findTo=(ZF.lt ⟨ZK,⟨ZH,ZY⟩,Yd,l_id,⟨ZS,ZR,ZG⟩,ZX,⟨ZA,ZL⟩,⟨ZQ,ZP,ZB⟩⟩).frm.addr by show Zw=ZH;first|assumption|omega) (show (ZJ.nd ⟨⟨⟨Za,Zd⟩,⟨Zc,Zg⟩,⟨Zk,Zj,Zh⟩,⟨Zf,Ze,Zb⟩⟩,Zr,Zq,ZD,Zx,ZM,Zz,Zv,Zt,Zn,Zw,Zm,Zu,⟨Zp,Zo,Zl⟩,ZC,ZE⟩).findReq=(ZF.lt ⟨ZK,⟨ZH,ZY⟩,Yd,l_id,⟨ZS,ZR,ZG⟩,ZX,⟨ZA,ZL⟩,⟨ZQ,ZP,ZB⟩⟩).req by show Zm=Yd;first|assumption|omega) (show ZX=false by first|assumption|(simp_all;done)) (show Xn ⟨Za,Zd⟩ ⟨ZA,ZL⟩ by assumption) (show ZA∉Zl by assumption) (show ZA≠ZH by assumption) (show ¬32≤ZC by omega))
         exact ⟨_,M2,[(bw,rowO (ZN.segs ⟨⟨⟨⟨YJ,YP⟩,⟨YK,YQ⟩,⟨YW,YV,YU⟩,⟨YN,YM,YL⟩⟩,Wm,Wr,Vn,Wl,Ua,WH,Wn,Wi,XR,Wj,XS,Wk,⟨XV,XU,XT⟩,Vj,Vi⟩,⟨o_a,o_c,o_l⟩⟩) 166)],rfl,hm2,hw.c,rfl,⟨⟨⟨YJ,YP⟩,⟨YK,YQ⟩,⟨YW,YV,YU⟩,⟨YN,YM,YL⟩⟩,Wm,Wr,Vn,Wl,Ua,WH,Wn,Wi,XR,Wj,XS,Wk,⟨XV,XU,XT⟩,Vj,Vi⟩,⟨o_a,o_c,o_l⟩,rfl,by rw [h3];exact hv1,by rw [h3];exact hv2,okv,oko,okq⟩
end Go.Proofs.YtglnjnacodgmaaaGreatDoor
namespace Go.Esp
variable {α:Type}
def insL (l:List α) (i:Nat) (x:α):List α:=l.take i++x::l.drop i
theorem insL_map {β:Type} (f:α→β) (l:List α) (i:Nat) (x:α):(insL l i x).map f=insL (l.map f) i (f x):=by unfold insL;simp
theorem insL_end (l:List α) (x:α):insL l l.length x=l++[x]:=by unfold insL;simp
theorem take_pre {a b:List α} {i:Nat} (h:a.length=i):(a++b).take i=a:=by subst h;exact List.take_left
theorem drop_pre {a b:List α} {i:Nat} (h:a.length=i):(a++b).drop i=b:=by subst h;exact List.drop_left
theorem ins_grow {rows zs:List α} {i:Nat} {x:α} (hi:i<rows.length) (hz:zs.length=rows.length+1-i) :
    (((rows.take i++zs).take i++[x]++(rows.take i++zs).drop (i+1)).take (i+1)++rows.drop i++((rows.take i++zs).take i++[x]++(rows.take i++zs).drop (i+1)).drop (i+1+(rows.drop i).length))=insL rows i x:=by
  have h1:(rows.take i).length=i:=by simp;omega
  rw [take_pre h1]
  have h2:(rows.take i++[x]).length=i+1:=by simp;omega
  rw [take_pre h2]
  have h3:(rows.take i++zs).length=rows.length+1:=by simp [hz];omega
  rw [List.drop_of_length_le (i:=i+1+(rows.drop i).length) (by simp only [List.length_append,List.length_drop,h3,h2,List.length_cons,List.length_nil,h1];omega)]
  unfold insL;simp
theorem ins_room {rows ext:List α} {i:Nat} {x:α} (hi:i<rows.length) (he:ext.length=1) :
    (((rows++ext).take (i+1)++rows.drop i++(rows++ext).drop (i+1+(rows.drop i).length)).take i++[x]++((rows++ext).take (i+1)++rows.drop i++(rows++ext).drop (i+1+(rows.drop i).length)).drop (i+1))=insL rows i x:=by
  have h1:((rows++ext).take (i+1)).length=i+1:=by simp;omega
  rw [List.drop_of_length_le (i:=i+1+(rows.drop i).length) (by simp [he];omega),List.append_nil,drop_pre h1]
  rw [List.take_append_of_le_length jC,List.take_take,Nat.min_eq_left jC,List.take_append_of_le_length jC]
  unfold insL;simp
end Go.Esp
namespace Go.Proofs.YtglnjnacodgmaaaGreatDoor
open Go.Esp
theorem F.ext207:Ext Tryz.prog 207 (Extern.SlicesOverlaps.overlaps #[39,39] #[4]):=fun args w=>by kernel_rfl
theorem InsertP_nil (M:Mem) (x:Zs) (bv:Nat) (hv:Hp) (hob:OSl 38 21 (.slice (some ⟨bv,0,none⟩) 1 1) hv [Zs.segs x]):Fh Tryz.prog 175 [.slice none 0 0,.int .i64 ((0:Nat):Int),.slice (some ⟨bv,0,none⟩) 1 1] M hv (fun M' v Hout=>M'=M∧OSl 38 21 v Hout ([]++[Zs.segs x])):=by
  refine Ui Tryz.func175 rfl Tryz.ntmps175 rfl ?_;intro H
  iterate 9 refine Stp ?_
  refine WK rfl rfl rfl (.some (k:=0) rfl rfl) .none .none F.elem39 jU jU jU jU rfl rfl ?_
  iterate 5 refine Stp ?_
  refine YA F.elem39 ?_
  iterate 10 refine Stp ?_
  refine ZW rfl (cT fun hc1=>?_) (cF fun hc1=>?_)
  ·(exfalso;omega)
  ·iterate 5 refine Stp ?_
   refine YA F.elem39 ?_
   iterate 11 refine Stp ?_
   refine ZW rfl (cT fun hc2=>?_) (cF fun hc2=>?_)
   ·simp only [Zs.eta,ZO.eta,ZJ.eta,ZF.eta,Ym.eta,Yv.eta,Yy.eta,Yq.eta,ZN.eta,YF.eta,ZU.eta] at hc2
    iterate 4 refine Stp ?_
    refine WT (m:=1000000) rfl rfl rfl rfl rfl F.elem39 F.zero38 zL rfl (by exact OSl.nil) jA (OSl.srcAll hob jA yO) zK jJ rfl ?_;intro v5 hs4 ho3;obtain ⟨adv5,cpv5,rfl⟩:=ho3.val
    iterate 5 refine Stp ?_
    refine ZV (.inr rfl) (.tmp rfl .nil) (fun w hw=>?_)
    exact ⟨_,M,hs4,rfl,Mem.le.refl M,hw.c,rfl,ho3⟩
   ·simp only [Zs.eta,ZO.eta,ZJ.eta,ZF.eta,Ym.eta,Yv.eta,Yy.eta,Yq.eta,ZN.eta,YF.eta,ZU.eta] at hc2
    (exfalso;simp [eqX] at hc2;done)
theorem InsertP_some (M:Mem) (b:Nat) (c:Nat) (l:List Zs) (hs:Hp) (i:Nat) (hi:i≤l.length) (x:Zs) (bv:Nat) (hv:Hp) (hob:OSl 38 21 (.slice (some ⟨bv,0,none⟩) 1 1) hv [Zs.segs x]) (hb:l.length≤1000000) (ho:OSl 38 21 (.slice (some ⟨b,0,none⟩) l.length c) hs (l.map Zs.segs)):Fh Tryz.prog 175 [.slice (some ⟨b,0,none⟩) l.length c,.int .i64 (i:Int),.slice (some ⟨bv,0,none⟩) 1 1] M (hs++hv) (fun M' v Hout=>M'=M∧OSl 38 21 v Hout ((insL l i x).map Zs.segs)):=by
  have hcc:=ho.caps
  simp only [List.length_map] at hcc
  have hob9:=hob
  have hom:OSl 38 21 (.slice (some ⟨b,0,none⟩) (l.map Zs.segs).length c) hs (l.map Zs.segs):=by rw [List.length_map];exact ho
  obtain ⟨cv,rfl,_⟩:=hob9.inv
  refine Ui Tryz.func175 rfl Tryz.ntmps175 rfl ?_;intro H
  rw [List.append_assoc]
  iterate 9 refine Stp ?_
  refine WK rfl rfl rfl (.some (k:=i) rfl rfl) .none .none F.elem39 jU jK jK jU rfl rfl ?_
  iterate 5 refine Stp ?_
  refine YA F.elem39 ?_
  iterate 10 refine Stp ?_
  refine ZW rfl (cT fun hc1=>?_) (cF fun hc1=>?_)
  ·(exfalso;omega)
  ·iterate 5 refine Stp ?_
   refine YA F.elem39 ?_
   iterate 11 refine Stp ?_
   refine ZW rfl (cT fun hc2=>?_) (cF fun hc2=>?_)
   ·iterate 4 refine Stp ?_
    refine WT (m:=1000001) rfl rfl rfl rfl rfl F.elem39 F.zero38 zL rfl jE jA (OSl.srcAll hob jA yO) jN jJ rfl ?_;intro v5 hs4 ho3;obtain ⟨adv5,cpv5,rfl⟩:=ho3.val
    iterate 5 refine Stp ?_
    refine ZV (.inr rfl) (.tmp rfl .nil) (fun w hw=>?_)
    obtain rfl:i=l.length:=by omega
    exact ⟨_,M,hs4,rfl,Mem.le.refl M,hw.c,rfl,by rw [insL_end,List.map_append];exact ho3⟩
   ·iterate 7 refine Stp ?_
    refine YO rfl rfl rfl rfl rfl yA rfl ?_;refine Yk ?_;refine X_cap_sl rfl rfl rfl rfl F.elem39 rfl ?_
    iterate 3 refine Stp ?_
    refine ZW rfl (cT fun hc6=>?_) (cF fun hc6=>?_)
    ·iterate 4 refine Stp ?_
     refine WK rfl rfl rfl .none (.some (k:=i) rfl jR) .none F.elem39 jU jK jK jU (show WJ (some ⟨_,0,none⟩) 21 0 (i) c=.slice (some ⟨_,0,none⟩) (i) c from pieceV_zero) rfl ?_
     iterate 2 refine Stp ?_
     refine YO rfl rfl rfl rfl rfl yA rfl ?_;refine Yk ?_;refine YO rfl rfl rfl rfl rfl yA rfl ?_
     rw [show (l.length:Int)+((1:Nat):Int)-(i:Int)=((l.length+1-i:Nat):Int) by omega]
     refine X_appendZO (j:=i) (k:=l.length+1-i) rfl rfl rfl rfl F.elem39 Tryz.underlying3 F.zero38 zL rfl ho jA zF jC jC jC (Nat.le_trans (Nat.mul_le_mul_right _ (show i+(l.length+1-i)≤1000001 by omega)) jJ) rfl ?_;intro b9 c9 hs9 zs9 hz9 ho9
     rw [show i+(l.length+1-i)=l.length+1 by omega] at ho9 ⊢
     have hn9:((l.map Zs.segs).take i++zs9).length=l.length+1:=by simp [hz9];omega
     have hc9:=ho9.caps
     iterate 7 refine Stp ?_
     refine WK rfl rfl rfl (.some (k:=i) rfl jR) .none .none F.elem39 jU jK jK jU (show WJ (some ⟨_,0,none⟩) 21 (i) (l.length+1) (c9)=.slice (some ⟨_,0+(i) * 21,none⟩) (l.length+1-(i)) (c9-(i)) from Us jC) rfl ?_;refine Yk ?_
     rw [Nat.zero_add]
     refine X_copyP (k:=i) (news:=[Zs.segs x]) rfl rfl rfl rfl rfl F.elem39 rfl (by rw [hn9];omega) ho9 jA (OSl.srcAll hob jA yO) (by show 1=min 1 (l.length+1-i);omega) rfl ?_;intro hs10 ho10
     rw [hn9] at ho10
     iterate 3 refine Stp ?_
     refine Yg (l:=[0,1,2,3,4,5,6,7,8]) #[0,0,0,6,15,0,0,96,255] _ rfl jI jI St.drawn (fun _ h=>h) ?_
     iterate 3 refine Stp ?_
     refine YO rfl rfl rfl rfl rfl yA rfl ?_;refine WK rfl rfl rfl (.some (k:=i+1) rfl jR) .none .none F.elem39 jU jK jK jU (show WJ (some ⟨_,0,none⟩) 21 (i+1) (l.length+1) (c9)=.slice (some ⟨_,0+(i+1) * 21,none⟩) (l.length+1-(i+1)) (c9-(i+1)) from Us jC) rfl ?_
     iterate 2 refine Stp ?_
     refine WK rfl rfl rfl (.some (k:=i) rfl jR) .none .none F.elem39 jU jK jK jU (show WJ (some ⟨_,0,none⟩) 21 (i) (l.length) (c)=.slice (some ⟨_,0+(i) * 21,none⟩) (l.length-(i)) (c-(i)) from Us jC) rfl ?_
     rw [Nat.zero_add,Nat.zero_add]
     have hn10:(((l.map Zs.segs).take i++zs9).take i++[Zs.segs x]++((l.map Zs.segs).take i++zs9).drop (i+[Zs.segs x].length)).length=l.length+1:=by simp only [List.length_append,List.length_take,List.length_drop,hn9,List.length_cons,List.length_nil];omega
     refine X_copyP (k:=i+1) (news:=(l.map Zs.segs).drop i) rfl rfl rfl rfl rfl F.elem39 rfl (by rw [hn10];omega) ho10 jA (by rw [List.length_drop];exact hom.src jA (by intro u hu;exact rows_one Zs.flat l u hu)) (by simp only [List.length_drop,List.length_map];omega) rfl ?_;intro hs11 ho11
     rw [hn10] at ho11
     rw [show i+[Zs.segs x].length=i+1 from rfl,ins_grow zF (by rw [List.length_map];exact hz9)] at ho11
     iterate 10 refine Stp ?_
     refine ZV (.inr rfl) (.tmp rfl .nil) (fun w hw=>?_)
     exact ⟨_,M,hs11,rfl,Mem.le.refl M,hw.c,rfl,by rw [insL_map];exact ho11⟩
    ·iterate 7 refine Stp ?_
     refine YO rfl rfl rfl rfl rfl yA rfl ?_;refine WK rfl rfl rfl .none (.some (k:=l.length+1) rfl jR) .none F.elem39 jU jK jK jU (show WJ (some ⟨_,0,none⟩) 21 0 (l.length+1) c=.slice (some ⟨_,0,none⟩) (l.length+1) c from pieceV_zero) rfl ?_
     iterate 6 refine Stp ?_
     obtain ⟨ext,hext,ho13⟩:=OSl.extend (m:=1) (show OSl 38 21 (.slice (some ⟨b,0,none⟩) (l.map Zs.segs).length c) hs (l.map Zs.segs) by rw [List.length_map];exact ho) zF
     rw [List.length_map] at ho13
     iterate 4 refine Stp ?_
     refine YO rfl rfl rfl rfl rfl yA rfl ?_;refine WK rfl rfl rfl (.some (k:=i+1) rfl jR) .none .none F.elem39 jU jK jK jU (show WJ (some ⟨_,0,none⟩) 21 (i+1) (l.length+1) (c)=.slice (some ⟨_,0+(i+1) * 21,none⟩) (l.length+1-(i+1)) (c-(i+1)) from Us jC) rfl ?_;refine X_ext rfl rfl F.ext207 rfl (fun w hw=>run_apart (tR:=4) F.elem39 ho jA (.head _) (Nat.mul_pos jC jJ) hw) rfl ?_
     iterate 3 refine Stp ?_
     refine ZW rfl (fun hc7=>?_) (fun hc7=>?_)
     ·skip
      refine VP (Yg (l:=[0,1,2,3,4,5,6,7,8]) #[0,0,0,6,15,0,0,96,255] _ rfl jI jI St.drawn (fun _ h=>h) ?_)
      iterate 3 refine Stp ?_
      refine YO rfl rfl rfl rfl rfl yA rfl ?_;refine WK rfl rfl rfl (.some (k:=i+1) rfl jR) .none .none F.elem39 jU jK jK jU (show WJ (some ⟨_,0,none⟩) 21 (i+1) (l.length+1) (c)=.slice (some ⟨_,0+(i+1) * 21,none⟩) (l.length+1-(i+1)) (c-(i+1)) from Us jC) rfl ?_
      iterate 2 refine Stp ?_
      refine WK rfl rfl rfl (.some (k:=i) rfl jR) .none .none F.elem39 jU jK jK jU (show WJ (some ⟨_,0,none⟩) 21 (i) (l.length+1) (c)=.slice (some ⟨_,0+(i) * 21,none⟩) (l.length+1-(i)) (c-(i)) from Us jC) rfl ?_
      rw [Nat.zero_add,Nat.zero_add]
      refine X_copyP (k:=i+1) (news:=(l.map Zs.segs).drop i) rfl rfl rfl rfl rfl F.elem39 rfl (by simp [hext];omega) ho13 jA (by rw [List.length_drop];exact hom.src jA (by intro u hu;exact rows_one Zs.flat l u hu)) (by simp only [List.length_drop,List.length_map];omega) rfl ?_;intro hs15 ho15
      have hn15:((l.map Zs.segs)++ext).length=l.length+1:=by simp [hext]
      rw [hn15] at ho15
      iterate 6 refine Stp ?_
      refine WK rfl rfl rfl (.some (k:=i) rfl jR) .none .none F.elem39 jU jK jK jU (show WJ (some ⟨_,0,none⟩) 21 (i) (l.length+1) (c)=.slice (some ⟨_,0+(i) * 21,none⟩) (l.length+1-(i)) (c-(i)) from Us jC) rfl ?_;refine Yk ?_
      rw [Nat.zero_add]
      have hn16:(((l.map Zs.segs)++ext).take (i+1)++(l.map Zs.segs).drop i++((l.map Zs.segs)++ext).drop (i+1+((l.map Zs.segs).drop i).length)).length=l.length+1:=by simp only [List.length_append,List.length_take,List.length_drop,List.length_map,hext];omega
      refine X_copyP (k:=i) (news:=[Zs.segs x]) rfl rfl rfl rfl rfl F.elem39 rfl (by rw [hn16];omega) ho15 jA (OSl.srcAll hob jA yO) (by show 1=min 1 (l.length+1-i);omega) rfl ?_;intro hs16 ho16
      rw [hn16] at ho16
      rw [show i+[Zs.segs x].length=i+1 from rfl,ins_room zF hext] at ho16
      iterate 10 refine Stp ?_
      refine ZV (.inr rfl) (.tmp rfl .nil) (fun w hw=>?_)
      exact ⟨_,M,hs16,rfl,Mem.le.refl M,hw.c,rfl,by rw [insL_map];exact ho16⟩
     ·skip
      (exfalso;simp [eqX] at hc7;done)
theorem InsertP_ok (M:Mem) (a:Option Addr) (c:Nat) (l:List Zs) (hs:Hp) (i:Nat) (hi:i≤l.length) (x:Zs) (bv:Nat) (hv:Hp) (hob:OSl 38 21 (.slice (some ⟨bv,0,none⟩) 1 1) hv [Zs.segs x]) (hb:l.length≤1000000) (ho:OSl 38 21 (.slice a l.length c) hs (l.map Zs.segs)):Fh Tryz.prog 175 [.slice a l.length c,.int .i64 (i:Int),.slice (some ⟨bv,0,none⟩) 1 1] M (hs++hv) (fun M' v Hout=>M'=M∧OSl 38 21 v Hout ((insL l i x).map Zs.segs)):=by
  cases a with
  |none =>
   obtain ⟨rfl,rfl,rfl⟩:=ho.noneAll
   obtain rfl:i=0:=by simpa using hi
   exact InsertP_nil M x bv hv hob
  |some ad =>
   obtain ⟨b,rfl⟩:=ho.someAll
   exact InsertP_some M b c l hs i hi x bv hv hob hb ho
theorem F.ok174:okFn Tryz.prog 174=true:=by kernel_rfl
theorem F.ok175:okFn Tryz.prog 175=true:=by kernel_rfl
theorem told_ok (M:Mem) (bw:Nat) (Za:Int) (Zd:Plc) (Zc:Int) (Zg:Plc) (Zk Zf Zp:Option Addr) (Zj Ze Zo:Nat) (Zh Zb:List Zs) (Zl:List Int) (Zr:Int) (Zq:Bool) (ZD Zx ZM Zz Zv Zt Zn Zw Zm:Int) (Zu:Plc) (ZC ZE:Int) (Yj:ZO.ok M ⟨⟨Za,Zd⟩,⟨Zc,Zg⟩,⟨Zk,Zj,Zh⟩,⟨Zf,Ze,Zb⟩⟩) (Yu:SlK M (oneI .i64) 1 ⟨Zp,Zo,Zl⟩) (hbig:Zh.length≤40∧Zb.length≤200) (hLa:Zl.length≤1000) (hh:0≤ZC∧ZC≤1000) (l:ZF) (hl0:ZF.ok M l) (hLp:l.peers.l.length≤1000) (hk:l.kind=4):Fh Tryz.prog 119 [.pointer (some ⟨bw,0,none⟩),l.enc] M [(bw,rowO (ZN.segs ⟨⟨⟨⟨Za,Zd⟩,⟨Zc,Zg⟩,⟨Zk,Zj,Zh⟩,⟨Zf,Ze,Zb⟩⟩,Zr,Zq,ZD,Zx,ZM,Zz,Zv,Zt,Zn,Zw,Zm,Zu,⟨Zp,Zo,Zl⟩,ZC,ZE⟩,⟨none,0,[]⟩⟩) 166)] (fun M' v Hout=>v=.tuple #[]∧WkF bw 166 M' Hout (Wu (ZJ.nd ⟨⟨⟨Za,Zd⟩,⟨Zc,Zg⟩,⟨Zk,Zj,Zh⟩,⟨Zf,Ze,Zb⟩⟩,Zr,Zq,ZD,Zx,ZM,Zz,Zv,Zt,Zn,Zw,Zm,Zu,⟨Zp,Zo,Zl⟩,ZC,ZE⟩) l.lt)):=by
  obtain ⟨ZK,⟨ZH,ZY⟩,Yd,l_id,⟨ZS,ZR,ZG⟩,ZX,⟨ZA,ZL⟩,⟨ZQ,ZP,ZB⟩⟩:=l
  simp only at hLp hk
  have XM:SlK M (oneI .i64) 1 ⟨ZS,ZR,ZG⟩:=hl0.h0
  have YY:SlK M Zs.segs 21 ⟨ZQ,ZP,ZB⟩:=hl0.h1
  have Wq:=YY.h1
  simp only at Wq
  have VS:(ZB.map Zs.segs).length=ZB.length:=List.length_map ..
  have VT:ZB.length≤ZP:=YY.h3
  refine YR (fun H=>(bw,rowO (ZN.segs ⟨⟨⟨⟨Za,Zd⟩,⟨Zc,Zg⟩,⟨Zk,Zj,Zh⟩,⟨Zf,Ze,Zb⟩⟩,Zr,Zq,ZD,Zx,ZM,Zz,Zv,Zt,Zn,Zw,Zm,Zu,⟨Zp,Zo,Zl⟩,ZC,ZE⟩,⟨none,0,[]⟩⟩) 166)::H) (fun _=>by simp only [List.append_assoc,List.cons_append,List.nil_append]) Tryz.func119 rfl Tryz.ntmps119 rfl ?_;intro H
  iterate 2 refine Stp ?_
  refine Xq ?_;intro b1
  iterate 4 refine Stp ?_
  refine Yg (l:=[0,1,2,3,4,5,6,7,8,9,10,11,12,13,14,15,16,17,18]) #[0,1,3,7,15,0,32,96,255,511,1023,2047,4095,8191,16383,1023,33791,131071,262143] _ rfl jI jI St.drawn (fun _ h=>h) ?_
  iterate 2 refine Stp ?_
  refine Zi F.foff166_0 ?_;refine Zi F.foff44_6 ?_;refine Zy F.lay3 ?_;refine Zi F.foff128_1 ?_;refine Zi F.foff38_0 ?_;refine Zy F.lay3 ?_
  iterate 2 refine Stp ?_
  refine Yt 13 rfl (eT fun hc2=>?_) (eF fun hc2=>?_)
  ·iterate 14 refine Stp ?_
   refine ZV (.inr rfl) (.nil) (fun w hw=>?_)
   have h3:Wu (ZJ.nd ⟨⟨⟨Za,Zd⟩,⟨Zc,Zg⟩,⟨Zk,Zj,Zh⟩,⟨Zf,Ze,Zb⟩⟩,Zr,Zq,ZD,Zx,ZM,Zz,Zv,Zt,Zn,Zw,Zm,Zu,⟨Zp,Zo,Zl⟩,ZC,ZE⟩) (ZF.lt ⟨ZK,⟨ZH,ZY⟩,Yd,l_id,⟨ZS,ZR,ZG⟩,ZX,⟨ZA,ZL⟩,⟨ZQ,ZP,ZB⟩⟩)=((ZJ.nd ⟨⟨⟨Za,Zd⟩,⟨Zc,Zg⟩,⟨Zk,Zj,Zh⟩,⟨Zf,Ze,Zb⟩⟩,Zr,Zq,ZD,Zx,ZM,Zz,Zv,Zt,Zn,Zw,Zm,Zu,⟨Zp,Zo,Zl⟩,ZC,ZE⟩),[]):=(does4 hk).trans (told_no yQ)
   refine ⟨_,M,[(bw,rowO (ZN.segs ⟨⟨⟨⟨Za,Zd⟩,⟨Zc,Zg⟩,⟨Zk,Zj,Zh⟩,⟨Zf,Ze,Zb⟩⟩,Zr,Zq,ZD,Zx,ZM,Zz,Zv,Zt,Zn,Zw,Zm,Zu,⟨Zp,Zo,Zl⟩,ZC,ZE⟩,⟨none,0,[]⟩⟩) 166)],rfl,Mem.le.refl M,hw.c,rfl,⟨⟨⟨Za,Zd⟩,⟨Zc,Zg⟩,⟨Zk,Zj,Zh⟩,⟨Zf,Ze,Zb⟩⟩,Zr,Zq,ZD,Zx,ZM,Zz,Zv,Zt,Zn,Zw,Zm,Zu,⟨Zp,Zo,Zl⟩,ZC,ZE⟩,⟨none,0,[]⟩,rfl,?_,?_,⟨Yj,Yu⟩,SlK.nil,fun y hy=>by cases hy⟩
   ·rw [h3] <;> rfl
   ·rw [h3] <;> rfl
  ·iterate 2 refine Stp ?_
   refine Zi F.foff166_0 ?_;refine Zi F.foff44_7 ?_;refine Zy F.lay42 ?_;refine Zi F.foff128_2 ?_;refine Zy F.lay42 ?_
   iterate 4 refine Stp ?_
   refine ZW rfl (eT fun hc3=>?_) (eF fun hc3=>?_)
   ·iterate 2 refine Stp ?_
    refine ZV (.inr rfl) (.nil) (fun w hw=>?_)
    have h3:Wu (ZJ.nd ⟨⟨⟨Za,Zd⟩,⟨Zc,Zg⟩,⟨Zk,Zj,Zh⟩,⟨Zf,Ze,Zb⟩⟩,Zr,Zq,ZD,Zx,ZM,Zz,Zv,Zt,Zn,Zw,Zm,Zu,⟨Zp,Zo,Zl⟩,ZC,ZE⟩) (ZF.lt ⟨ZK,⟨ZH,ZY⟩,Yd,l_id,⟨ZS,ZR,ZG⟩,ZX,⟨ZA,ZL⟩,⟨ZQ,ZP,ZB⟩⟩)=((ZJ.nd ⟨⟨⟨Za,Zd⟩,⟨Zc,Zg⟩,⟨Zk,Zj,Zh⟩,⟨Zf,Ze,Zb⟩⟩,Zr,Zq,ZD,Zx,ZM,Zz,Zv,Zt,Zn,Zw,Zm,Zu,⟨Zp,Zo,Zl⟩,ZC,ZE⟩),[]):=(does4 hk).trans (told_no (by exact .inr jE))
    refine ⟨_,M,[(bw,rowO (ZN.segs ⟨⟨⟨⟨Za,Zd⟩,⟨Zc,Zg⟩,⟨Zk,Zj,Zh⟩,⟨Zf,Ze,Zb⟩⟩,Zr,Zq,ZD,Zx,ZM,Zz,Zv,Zt,Zn,Zw,Zm,Zu,⟨Zp,Zo,Zl⟩,ZC,ZE⟩,⟨none,0,[]⟩⟩) 166)],rfl,Mem.le.refl M,hw.c,rfl,⟨⟨⟨Za,Zd⟩,⟨Zc,Zg⟩,⟨Zk,Zj,Zh⟩,⟨Zf,Ze,Zb⟩⟩,Zr,Zq,ZD,Zx,ZM,Zz,Zv,Zt,Zn,Zw,Zm,Zu,⟨Zp,Zo,Zl⟩,ZC,ZE⟩,⟨none,0,[]⟩,rfl,?_,?_,⟨Yj,Yu⟩,SlK.nil,fun y hy=>by cases hy⟩
    ·rw [h3] <;> rfl
    ·rw [h3] <;> rfl
   ·iterate 6 refine Stp ?_
    refine Zi F.foff166_0 ?_;refine Zi F.foff44_6 ?_;refine Ya F.lay3 ?_
    iterate 3 refine Stp ?_
    refine YB (l:=[0,1,2,3,4,5]) [5] rfl ?_;refine Yk ?_;refine Zi F.foff128_1 ?_;refine Zy F.lay38 ?_;refine Zi F.foff128_7 ?_;refine Zy F.lay39 ?_;refine XN rfl rfl rfl F.ok163 rfl (adopt_ok M bw Za Zd Zc Zg Zk Zf Zp Zj Ze Zo Zh Zb Zl Zr Zq ZD Zx ZM (-1) Zv Zt Zn Zw Zm Zu ZC ZE Yj ⟨ZH,ZY⟩ ⟨ZQ,ZP,ZB⟩ YY) jA (ZT rfl) ?_
    rintro _ M1 hs1 hm1 ⟨rfl,⟨⟨wa,wi⟩,⟨wq,wj⟩,⟨w1a,w1c,w1l⟩,⟨w2a,w2c,w2l⟩⟩,rfl,okt,hv1⟩
    simp only [List.append_assoc,List.cons_append,List.nil_append]
    refine Xb (Xu ?_)
    iterate 3 refine Stp ?_
    refine Yg (l:=[0,1,2,3,4,5,6,7]) #[0,1,3,7,15,0,32,127] _ rfl jI jI St.drawn (fun _ h=>h) ?_
    iterate 2 refine Stp ?_
    refine Zi F.foff166_0 ?_;refine Zi F.foff44_0 ?_;refine Zy F.lay41 ?_;refine Zi F.foff128_6 ?_;refine Zy F.lay38 ?_;refine X_fs rfl rfl F.ok174 rfl (Closer_ok _ ⟨⟨wa,wi⟩,⟨wq,wj⟩,⟨w1a,w1c,w1l⟩,⟨w2a,w2c,w2l⟩⟩ ⟨ZA,ZL⟩ okt) rfl ?_
    rintro _ rfl
    iterate 2 refine Stp ?_
    refine ZW rfl (cT fun hc4=>?_) (cF fun hc4=>?_)
    ·refine C_region_anyW (l:=[0,1,2,3,4,5,6,7,8,9,10]) [10] #[0,0,2,0,8,24,0,64,192,504,1023] (_) rfl jI jI St.drawn (fun _ h=>h) ?_
     refine Yk ?_;refine Zi F.foff128_6 ?_;refine Zy F.lay38 ?_;refine Zi F.foff128_7 ?_;refine Zy F.lay39 ?_;refine WE rfl rfl F.ok89 rfl (CloneP_ok M1 ZQ ZP ZB (YY.mono hm1) jC) jA (fun _ _ _ hm hw=>(hw.lower jV).c) (ZT rfl) ?_
     rintro v0 M2 hs0 hm2 ⟨hM2,ho0⟩;subst M2;clear hm2
     obtain ⟨ad0,cp0,rfl⟩:=ho0.valL
     refine Zi F.foff128_1 ?_;refine Zy F.lay38 ?_
     refine YS rfl rfl F.elem39 F.zero38 rfl rfl (.cons rfl jG .nil) rfl rfl jL rfl ?_;intro b5 hob6
     refine X_fhR2 rfl rfl F.ok175 rfl (InsertP_ok M1 ad0 cp0 ZB hs0 0 (Nat.zero_le _) ⟨ZH,ZY⟩ _ _ hob6 jC ho0) jA jA (by rintro v M9 Ho w hm ⟨rfl,_⟩ hw;exact hw.c) (ZT rfl) ?_
     rintro v7 MX hs7 hmX ⟨hMX,ho7⟩
     subst MX
     clear hmX
     obtain ⟨ad7,cp7,rfl⟩:=ho7.valL
     simp only [List.append_assoc,List.cons_append,List.nil_append]
     refine X_fhW2 rfl rfl rfl F.ok163 rfl ((fh_thaw ho7 (fun M9 j1 j3=>adopt_ok M9 bw wa wi wq wj w1a w2a Zp w1c w2c Zo w1l w2l Zl Zr Zq ZD Zx ZM (-1) Zv Zt Zn Zw Zm Zu ZC ZE (okt.mono j1) ⟨ZA,ZL⟩ ⟨ad7,cp7,insL ZB 0 ⟨ZH,ZY⟩⟩ j3))) jA jA (ZT rfl) ?_
     rintro _ M2 hs2 hm2 ⟨rfl,⟨⟨ua,ui⟩,⟨uq,uj⟩,⟨u1a,u1c,u1l⟩,⟨u2a,u2c,u2l⟩⟩,rfl,oku,hv2⟩
     simp only [List.append_assoc,List.cons_append,List.nil_append]
     refine Xb (Xu ?_);refine Se (YB (l:=[0,1,2,3,4,5,6,7,8,9,10]) [10] rfl ?_)
     iterate 3 refine Stp ?_
     refine Zi F.foff166_0 ?_;refine Zi F.foff44_0 ?_;refine Zy F.lay41 ?_;refine X_fs rfl rfl F.ok99 rfl (First_ok _ ⟨⟨ua,ui⟩,⟨uq,uj⟩,⟨u1a,u1c,u1l⟩,⟨u2a,u2c,u2l⟩⟩ oku) rfl ?_
     rintro _ rfl
     obtain ⟨⟨fa,fi⟩,hfi⟩:∃ x,Xy (ZO.tb ⟨⟨ua,ui⟩,⟨uq,uj⟩,⟨u1a,u1c,u1l⟩,⟨u2a,u2c,u2l⟩⟩)=x:=⟨_,rfl⟩
     rw [hfi]
     refine Y_field F.fld38_0 F.lay3 ?_;refine X_fs rfl rfl F.ok78 rfl (Vp _) rfl ?_
     rintro _ rfl
     refine XI 60 rfl (show _=aggV [.one (.int .i64 (-1)),Yb 0] from rfl) ?_;refine Xo rfl rfl F.bld128 (.cons rfl jG (.cons rfl jG .nil)) rfl rfl ?_;refine XN rfl rfl rfl F.ok103 rfl (sendF_ok M2 bw ua ui uq uj u1a u2a Zp u1c u2c Zo u1l u2l Zl Zr Zq ZD Zx ZM (-1) Zv Zt Zn Zw Zm Zu ZC ZE fa ⟨5,⟨0,0⟩,0,0,⟨none,0,[]⟩,false,⟨-1,0⟩,⟨none,0,[]⟩⟩) jA (ZT rfl) ?_
     rintro _ M3 hs3 hm3 ⟨rfl,⟨o9a,o9c,o9l⟩,rfl,k9o,hl9⟩
     simp only at hl9
     simp only [List.append_assoc,List.cons_append,List.nil_append]
     refine Xb (Xu ?_)
     refine ZV (.inl rfl) (.nil) (fun w hw=>?_)
     have h3:=(does4 (n:=(ZJ.nd ⟨⟨⟨Za,Zd⟩,⟨Zc,Zg⟩,⟨Zk,Zj,Zh⟩,⟨Zf,Ze,Zb⟩⟩,Zr,Zq,ZD,Zx,ZM,Zz,Zv,Zt,Zn,Zw,Zm,Zu,⟨Zp,Zo,Zl⟩,ZC,ZE⟩)) (l:=(ZF.lt ⟨ZK,⟨ZH,ZY⟩,Yd,l_id,⟨ZS,ZR,ZG⟩,ZX,⟨ZA,ZL⟩,⟨ZQ,ZP,ZB⟩⟩)) hk).trans (told_yes (m:=ZJ.nd ⟨⟨⟨wa,wi⟩,⟨wq,wj⟩,⟨w1a,w1c,w1l⟩,⟨w2a,w2c,w2l⟩⟩,Zr,Zq,ZD,Zx,ZM,(-1),Zv,Zt,Zn,Zw,Zm,Zu,⟨Zp,Zo,Zl⟩,ZC,ZE⟩) (show (ZJ.nd ⟨⟨⟨Za,Zd⟩,⟨Zc,Zg⟩,⟨Zk,Zj,Zh⟩,⟨Zf,Ze,Zb⟩⟩,Zr,Zq,ZD,Zx,ZM,Zz,Zv,Zt,Zn,Zw,Zm,Zu,⟨Zp,Zo,Zl⟩,ZC,ZE⟩).askTo=(ZF.lt ⟨ZK,⟨ZH,ZY⟩,Yd,l_id,⟨ZS,ZR,ZG⟩,ZX,⟨ZA,ZL⟩,⟨ZQ,ZP,ZB⟩⟩).frm.addr by show Zz=ZH;first|assumption|omega) (show (ZJ.nd ⟨⟨⟨Za,Zd⟩,⟨Zc,Zg⟩,⟨Zk,Zj,Zh⟩,⟨Zf,Ze,Zb⟩⟩,Zr,Zq,ZD,Zx,ZM,Zz,Zv,Zt,Zn,Zw,Zm,Zu,⟨Zp,Zo,Zl⟩,ZC,ZE⟩).askReq=(ZF.lt ⟨ZK,⟨ZH,ZY⟩,Yd,l_id,⟨ZS,ZR,ZG⟩,ZX,⟨ZA,ZL⟩,⟨ZQ,ZP,ZB⟩⟩).req by show Zv=Yd;first|assumption|omega) hv1 (show Ta (ZO.tb ⟨⟨wa,wi⟩,⟨wq,wj⟩,⟨w1a,w1c,w1l⟩,⟨w2a,w2c,w2l⟩⟩) ⟨ZA,ZL⟩ by assumption) (q:=ZJ.nd ⟨⟨⟨ua,ui⟩,⟨uq,uj⟩,⟨u1a,u1c,u1l⟩,⟨u2a,u2c,u2l⟩⟩,Zr,Zq,ZD,Zx,ZM,(-1),Zv,Zt,Zn,Zw,Zm,Zu,⟨Zp,Zo,Zl⟩,ZC,ZE⟩) hv2)
     rw [show Xy (ZJ.nd ⟨⟨⟨ua,ui⟩,⟨uq,uj⟩,⟨u1a,u1c,u1l⟩,⟨u2a,u2c,u2l⟩⟩,Zr,Zq,ZD,Zx,ZM,(-1),Zv,Zt,Zn,Zw,Zm,Zu,⟨Zp,Zo,Zl⟩,ZC,ZE⟩).table=⟨fa,fi⟩ from hfi] at h3
     refine ⟨_,M3,[(bw,rowO (ZN.segs ⟨⟨⟨⟨ua,ui⟩,⟨uq,uj⟩,⟨u1a,u1c,u1l⟩,⟨u2a,u2c,u2l⟩⟩,Zr,Zq,ZD,Zx,ZM,(-1),Zv,Zt,Zn,Zw,Zm,Zu,⟨Zp,Zo,Zl⟩,ZC,ZE⟩,⟨o9a,o9c,o9l⟩⟩) 166)],rfl,((hm1.trans hm2).trans hm3),hw.c,rfl,⟨⟨⟨ua,ui⟩,⟨uq,uj⟩,⟨u1a,u1c,u1l⟩,⟨u2a,u2c,u2l⟩⟩,Zr,Zq,ZD,Zx,ZM,(-1),Zv,Zt,Zn,Zw,Zm,Zu,⟨Zp,Zo,Zl⟩,ZC,ZE⟩,⟨o9a,o9c,o9l⟩,rfl,?_,?_,⟨oku.mono hm3,((Yu.mono hm1).mono hm2).mono hm3⟩,k9o,fun y hy=>?_⟩
     ·rw [h3] <;> rfl
     ·rw [h3]
      show sndl o9l=_
      rw [hl9];rfl
     ·simp only at hy
      rw [hl9] at hy
      obtain rfl:=List.mem_singleton.1 hy
      exact ⟨⟨SlK.nil,SlK.nil⟩⟩
    ·iterate 2 refine Stp ?_
     refine YB (l:=[0,1,2,3,4,5,6,7,8,9,10]) [10] rfl ?_
     iterate 3 refine Stp ?_
     refine Zi F.foff166_0 ?_;refine Zi F.foff44_0 ?_;refine Zy F.lay41 ?_;refine X_fs rfl rfl F.ok99 rfl (First_ok _ ⟨⟨wa,wi⟩,⟨wq,wj⟩,⟨w1a,w1c,w1l⟩,⟨w2a,w2c,w2l⟩⟩ okt) rfl ?_
     rintro _ rfl
     obtain ⟨⟨fa,fi⟩,hfi⟩:∃ x,Xy (ZO.tb ⟨⟨wa,wi⟩,⟨wq,wj⟩,⟨w1a,w1c,w1l⟩,⟨w2a,w2c,w2l⟩⟩)=x:=⟨_,rfl⟩
     rw [hfi]
     refine Y_field F.fld38_0 F.lay3 ?_;refine X_fs rfl rfl F.ok78 rfl (Vp _) rfl ?_
     rintro _ rfl
     refine XI 60 rfl (show _=aggV [.one (.int .i64 (-1)),Yb 0] from rfl) ?_;refine Xo rfl rfl F.bld128 (.cons rfl jG (.cons rfl jG .nil)) rfl rfl ?_;refine XN rfl rfl rfl F.ok103 rfl (sendF_ok M1 bw wa wi wq wj w1a w2a Zp w1c w2c Zo w1l w2l Zl Zr Zq ZD Zx ZM (-1) Zv Zt Zn Zw Zm Zu ZC ZE fa ⟨5,⟨0,0⟩,0,0,⟨none,0,[]⟩,false,⟨-1,0⟩,⟨none,0,[]⟩⟩) jA (ZT rfl) ?_
     rintro _ M3 hs3 hm3 ⟨rfl,⟨o9a,o9c,o9l⟩,rfl,k9o,hl9⟩
     simp only at hl9
     simp only [List.append_assoc,List.cons_append,List.nil_append]
     refine Xb (Xu ?_)
     refine ZV (.inl rfl) (.nil) (fun w hw=>?_)
     have h3:=(does4 (n:=(ZJ.nd ⟨⟨⟨Za,Zd⟩,⟨Zc,Zg⟩,⟨Zk,Zj,Zh⟩,⟨Zf,Ze,Zb⟩⟩,Zr,Zq,ZD,Zx,ZM,Zz,Zv,Zt,Zn,Zw,Zm,Zu,⟨Zp,Zo,Zl⟩,ZC,ZE⟩)) (l:=(ZF.lt ⟨ZK,⟨ZH,ZY⟩,Yd,l_id,⟨ZS,ZR,ZG⟩,ZX,⟨ZA,ZL⟩,⟨ZQ,ZP,ZB⟩⟩)) hk).trans (told_not (m:=ZJ.nd ⟨⟨⟨wa,wi⟩,⟨wq,wj⟩,⟨w1a,w1c,w1l⟩,⟨w2a,w2c,w2l⟩⟩,Zr,Zq,ZD,Zx,ZM,(-1),Zv,Zt,Zn,Zw,Zm,Zu,⟨Zp,Zo,Zl⟩,ZC,ZE⟩) (show (ZJ.nd ⟨⟨⟨Za,Zd⟩,⟨Zc,Zg⟩,⟨Zk,Zj,Zh⟩,⟨Zf,Ze,Zb⟩⟩,Zr,Zq,ZD,Zx,ZM,Zz,Zv,Zt,Zn,Zw,Zm,Zu,⟨Zp,Zo,Zl⟩,ZC,ZE⟩).askTo=(ZF.lt ⟨ZK,⟨ZH,ZY⟩,Yd,l_id,⟨ZS,ZR,ZG⟩,ZX,⟨ZA,ZL⟩,⟨ZQ,ZP,ZB⟩⟩).frm.addr by show Zz=ZH;first|assumption|omega) (show (ZJ.nd ⟨⟨⟨Za,Zd⟩,⟨Zc,Zg⟩,⟨Zk,Zj,Zh⟩,⟨Zf,Ze,Zb⟩⟩,Zr,Zq,ZD,Zx,ZM,Zz,Zv,Zt,Zn,Zw,Zm,Zu,⟨Zp,Zo,Zl⟩,ZC,ZE⟩).askReq=(ZF.lt ⟨ZK,⟨ZH,ZY⟩,Yd,l_id,⟨ZS,ZR,ZG⟩,ZX,⟨ZA,ZL⟩,⟨ZQ,ZP,ZB⟩⟩).req by show Zv=Yd;first|assumption|omega) hv1 (show ¬Ta (ZO.tb ⟨⟨wa,wi⟩,⟨wq,wj⟩,⟨w1a,w1c,w1l⟩,⟨w2a,w2c,w2l⟩⟩) ⟨ZA,ZL⟩ by assumption))
     rw [show Xy (ZJ.nd ⟨⟨⟨wa,wi⟩,⟨wq,wj⟩,⟨w1a,w1c,w1l⟩,⟨w2a,w2c,w2l⟩⟩,Zr,Zq,ZD,Zx,ZM,(-1),Zv,Zt,Zn,Zw,Zm,Zu,⟨Zp,Zo,Zl⟩,ZC,ZE⟩).table=⟨fa,fi⟩ from hfi] at h3
     refine ⟨_,M3,[(bw,rowO (ZN.segs ⟨⟨⟨⟨wa,wi⟩,⟨wq,wj⟩,⟨w1a,w1c,w1l⟩,⟨w2a,w2c,w2l⟩⟩,Zr,Zq,ZD,Zx,ZM,(-1),Zv,Zt,Zn,Zw,Zm,Zu,⟨Zp,Zo,Zl⟩,ZC,ZE⟩,⟨o9a,o9c,o9l⟩⟩) 166)],rfl,(hm1.trans hm3),hw.c,rfl,⟨⟨⟨wa,wi⟩,⟨wq,wj⟩,⟨w1a,w1c,w1l⟩,⟨w2a,w2c,w2l⟩⟩,Zr,Zq,ZD,Zx,ZM,(-1),Zv,Zt,Zn,Zw,Zm,Zu,⟨Zp,Zo,Zl⟩,ZC,ZE⟩,⟨o9a,o9c,o9l⟩,rfl,?_,?_,⟨okt.mono hm3,(Yu.mono hm1).mono hm3⟩,k9o,fun y hy=>?_⟩
     ·rw [h3] <;> rfl
     ·rw [h3]
      show sndl o9l=_
      rw [hl9];rfl
     ·simp only at hy
      rw [hl9] at hy
      obtain rfl:=List.mem_singleton.1 hy
      exact ⟨⟨SlK.nil,SlK.nil⟩⟩
theorem bye_ok (M:Mem) (bw:Nat) (Za:Int) (Zd:Plc) (Zc:Int) (Zg:Plc) (Zk Zf Zp:Option Addr) (Zj Ze Zo:Nat) (Zh Zb:List Zs) (Zl:List Int) (Zr:Int) (Zq:Bool) (ZD Zx ZM Zz Zv Zt Zn Zw Zm:Int) (Zu:Plc) (ZC ZE:Int) (Yj:ZO.ok M ⟨⟨Za,Zd⟩,⟨Zc,Zg⟩,⟨Zk,Zj,Zh⟩,⟨Zf,Ze,Zb⟩⟩) (Yu:SlK M (oneI .i64) 1 ⟨Zp,Zo,Zl⟩) (hbig:Zh.length≤40∧Zb.length≤200) (hLa:Zl.length≤1000) (hh:0≤ZC∧ZC≤1000) (l:ZF) (hl0:ZF.ok M l) (hLp:l.peers.l.length≤1000) (hk:l.kind=8):Fh Tryz.prog 123 [.pointer (some ⟨bw,0,none⟩),l.enc] M [(bw,rowO (ZN.segs ⟨⟨⟨⟨Za,Zd⟩,⟨Zc,Zg⟩,⟨Zk,Zj,Zh⟩,⟨Zf,Ze,Zb⟩⟩,Zr,Zq,ZD,Zx,ZM,Zz,Zv,Zt,Zn,Zw,Zm,Zu,⟨Zp,Zo,Zl⟩,ZC,ZE⟩,⟨none,0,[]⟩⟩) 166)] (fun M' v Hout=>v=.tuple #[]∧WkF bw 166 M' Hout (Wu (ZJ.nd ⟨⟨⟨Za,Zd⟩,⟨Zc,Zg⟩,⟨Zk,Zj,Zh⟩,⟨Zf,Ze,Zb⟩⟩,Zr,Zq,ZD,Zx,ZM,Zz,Zv,Zt,Zn,Zw,Zm,Zu,⟨Zp,Zo,Zl⟩,ZC,ZE⟩) l.lt)):=by
  obtain ⟨ZK,⟨ZH,ZY⟩,Yd,l_id,⟨ZS,ZR,ZG⟩,ZX,⟨ZA,ZL⟩,⟨ZQ,ZP,ZB⟩⟩:=l
  simp only at hLp hk
  have XM:SlK M (oneI .i64) 1 ⟨ZS,ZR,ZG⟩:=hl0.h0
  have YY:SlK M Zs.segs 21 ⟨ZQ,ZP,ZB⟩:=hl0.h1
  have Wq:=YY.h1
  simp only at Wq
  have VS:(ZB.map Zs.segs).length=ZB.length:=List.length_map ..
  have VT:ZB.length≤ZP:=YY.h3
  refine YR (fun H=>(bw,rowO (ZN.segs ⟨⟨⟨⟨Za,Zd⟩,⟨Zc,Zg⟩,⟨Zk,Zj,Zh⟩,⟨Zf,Ze,Zb⟩⟩,Zr,Zq,ZD,Zx,ZM,Zz,Zv,Zt,Zn,Zw,Zm,Zu,⟨Zp,Zo,Zl⟩,ZC,ZE⟩,⟨none,0,[]⟩⟩) 166)::H) (fun _=>by simp only [List.append_assoc,List.cons_append,List.nil_append]) Tryz.func123 rfl Tryz.ntmps123 rfl ?_;intro H
  iterate 2 refine Stp ?_
  refine Xq ?_;intro b1
  iterate 3 refine Stp ?_
  refine Yg (l:=[0,1,2,3,4,5,6,7,8,9,10,11,12,13,14,15,16,17,18,19,20,21,22,23]) #[0,1,3,7,15,31,63,0,128,384,1023,0,2048,6144,14336,30720,63488,129024,0,262144,786432,2095104,131071,8388607] _ rfl jI jI St.drawn (fun _ h=>h) ?_
  iterate 2 refine Stp ?_
  refine Zi F.foff166_0 ?_;refine Zi F.foff44_0 ?_;refine Zi F.foff41_1 ?_;refine Zi F.foff38_0 ?_;refine Zy F.lay3 ?_;refine Zi F.foff128_1 ?_;refine Zi F.foff38_0 ?_;refine Zy F.lay3 ?_
  iterate 3 refine Stp ?_
  refine Zi F.foff166_0 ?_;refine Zi F.foff44_0 ?_;refine Zy F.lay41 ?_;refine X_fs rfl rfl F.ok99 rfl (First_ok _ ⟨⟨Za,Zd⟩,⟨Zc,Zg⟩,⟨Zk,Zj,Zh⟩,⟨Zf,Ze,Zb⟩⟩ Yj) rfl ?_
  rintro _ rfl
  obtain ⟨⟨fa,fi⟩,hfi⟩:∃ x,Xy (ZO.tb ⟨⟨Za,Zd⟩,⟨Zc,Zg⟩,⟨Zk,Zj,Zh⟩,⟨Zf,Ze,Zb⟩⟩)=x:=⟨_,rfl⟩
  rw [hfi]
  refine Y_field F.fld38_0 F.lay3 ?_;refine Zi F.foff128_1 ?_;refine Zi F.foff38_0 ?_;refine Zy F.lay3 ?_
  iterate 6 refine Stp ?_
  refine Yg (l:=[0,1,2,3,4,5,6,7,8,9,10,11,12,13]) #[0,0,2,6,14,30,0,64,192,510,1023,2047,4095,8191] _ rfl jI jI St.drawn (fun _ h=>h) ?_
  iterate 3 refine Stp ?_
  refine Zi F.foff166_0 ?_;refine Zi F.foff44_0 ?_;refine Zy F.lay41 ?_;refine Zi F.foff128_1 ?_;refine Zi F.foff38_0 ?_;refine Zy F.lay3 ?_;refine X_fn rfl rfl F.ok177 rfl (Forget_ok _ ⟨⟨Za,Zd⟩,⟨Zc,Zg⟩,⟨Zk,Zj,Zh⟩,⟨Zf,Ze,Zb⟩⟩ ZH Yj hbig) rfl ?_
  rintro _ M1 hm1 ⟨⟨⟨oa,oi⟩,⟨oq,oj⟩,⟨o1a,o1c,o1l⟩,⟨o2a,o2c,o2l⟩⟩,rfl,hot,okt⟩
  refine YT ?_;refine Zi F.foff166_0 ?_;refine Zi F.foff44_0 ?_;refine Ya F.lay41 ?_
  iterate 8 refine Stp ?_
  refine ZW rfl (cT fun hc2=>?_) (cF fun hc2=>?_)
  ·refine Yg (l:=[0,1,2,3,4,5,6,7,8,9,10,11,12]) #[0,0,2,6,14,30,0,64,254,511,1023,2047,4095] _ rfl jI jI St.drawn (fun _ h=>h) ?_
   iterate 3 refine Stp ?_
   refine Zi F.foff166_0 ?_;refine Zi F.foff44_0 ?_;refine Zy F.lay41 ?_;refine Zi F.foff128_6 ?_;refine Zy F.lay38 ?_;refine X_fn rfl rfl F.ok176 rfl (Learn_ok _ ⟨⟨oa,oi⟩,⟨oq,oj⟩,⟨o1a,o1c,o1l⟩,⟨o2a,o2c,o2l⟩⟩ ⟨ZA,ZL⟩ okt) rfl ?_
   rintro _ M2 hm2 ⟨⟨⟨wa,wi⟩,⟨wq,wj⟩,⟨w1a,w1c,w1l⟩,⟨w2a,w2c,w2l⟩⟩,rfl,hol,okl⟩
   refine YT ?_;refine Zi F.foff166_0 ?_;refine Zi F.foff44_0 ?_;refine Ya F.lay41 ?_
   iterate 3 refine Stp ?_
   have s_lp9:=Wq.mono (hm1.trans hm2)
   iterate 3 refine Stp ?_
   refine Yt 55 rfl (cT fun hc3=>?_) (cF fun hc3=>?_)
   ·refine Zi F.foff128_7 ?_
    refine Zy F.lay39 ?_;refine YA F.elem39 ?_
    iterate 4 refine Stp ?_
    refine ZW rfl (cT fun hc4=>?_) (cF fun hc4=>?_)
    ·refine C_region_anyW (l:=[0,1,2,3,4,5,6,7,8]) [8] #[0,0,2,6,14,0,32,96,255] (_) rfl jI jI St.drawn (fun _ h=>h) ?_
     refine Yk ?_;refine Zi F.foff128_7 ?_;refine Zy F.lay39 ?_;refine Ys rfl rfl rfl rfl F.elem39 jR jN yB rfl ?_;refine Xm rfl rfl rfl jE (by exact Xv jN) F.lay38 rfl rfl rfl ?_;refine Zi F.foff128_7 ?_;refine Zy F.lay39 ?_;refine WK rfl rfl rfl (.some (k:=1) rfl rfl) .none .none F.elem39 zJ jK jK jU (pieceV_drop (l:=ZB) (k:=1)) rfl ?_;refine XN rfl rfl rfl F.ok163 rfl (adopt_ok M2 bw wa wi wq wj w1a w2a Zp w1c w2c Zo w1l w2l Zl Zr Zq ZD Zx ZM Zz Zv Zt Zn Zw Zm Zu ZC ZE okl ZB[0] ⟨_,_,ZB.drop 1⟩ ((YY.mono (hm1.trans hm2)).drop 1 jC)) jA (ZT rfl) ?_
     rintro _ M3 hs3 hm3 ⟨rfl,⟨⟨ua,ui⟩,⟨uq,uj⟩,⟨u1a,u1c,u1l⟩,⟨u2a,u2c,u2l⟩⟩,rfl,oku,hv1⟩
     simp only [List.append_assoc,List.cons_append,List.nil_append]
     refine Xb (Xu ?_)
     refine ZV (.inl rfl) (.nil) (fun w hw=>?_)
     have h2:ZJ.nd ⟨⟨⟨wa,wi⟩,⟨wq,wj⟩,⟨w1a,w1c,w1l⟩,⟨w2a,w2c,w2l⟩⟩,Zr,Zq,ZD,Zx,ZM,Zz,Zv,Zt,Zn,Zw,Zm,Zu,⟨Zp,Zo,Zl⟩,ZC,ZE⟩={ ZJ.nd ⟨⟨⟨Za,Zd⟩,⟨Zc,Zg⟩,⟨Zk,Zj,Zh⟩,⟨Zf,Ze,Zb⟩⟩,Zr,Zq,ZD,Zx,ZM,Zz,Zv,Zt,Zn,Zw,Zm,Zu,⟨Zp,Zo,Zl⟩,ZC,ZE⟩ with table:=byeT (ZJ.nd ⟨⟨⟨Za,Zd⟩,⟨Zc,Zg⟩,⟨Zk,Zj,Zh⟩,⟨Zf,Ze,Zb⟩⟩,Zr,Zq,ZD,Zx,ZM,Zz,Zv,Zt,Zn,Zw,Zm,Zu,⟨Zp,Zo,Zl⟩,ZC,ZE⟩) (ZF.lt ⟨ZK,⟨ZH,ZY⟩,Yd,l_id,⟨ZS,ZR,ZG⟩,ZX,⟨ZA,ZL⟩,⟨ZQ,ZP,ZB⟩⟩) }:=by
      unfold byeT
      rw [if_pos (show (ZJ.nd ⟨⟨⟨Za,Zd⟩,⟨Zc,Zg⟩,⟨Zk,Zj,Zh⟩,⟨Zf,Ze,Zb⟩⟩,Zr,Zq,ZD,Zx,ZM,Zz,Zv,Zt,Zn,Zw,Zm,Zu,⟨Zp,Zo,Zl⟩,ZC,ZE⟩).table.pred.addr=(ZF.lt ⟨ZK,⟨ZH,ZY⟩,Yd,l_id,⟨ZS,ZR,ZG⟩,ZX,⟨ZA,ZL⟩,⟨ZQ,ZP,ZB⟩⟩).frm.addr from (show Zc=ZH by assumption)),show XK (ZJ.nd ⟨⟨⟨Za,Zd⟩,⟨Zc,Zg⟩,⟨Zk,Zj,Zh⟩,⟨Zf,Ze,Zb⟩⟩,Zr,Zq,ZD,Zx,ZM,Zz,Zv,Zt,Zn,Zw,Zm,Zu,⟨Zp,Zo,Zl⟩,ZC,ZE⟩).table (ZF.lt ⟨ZK,⟨ZH,ZY⟩,Yd,l_id,⟨ZS,ZR,ZG⟩,ZX,⟨ZA,ZL⟩,⟨ZQ,ZP,ZB⟩⟩).frm.addr=_ from hot.symm,show Ub (ZO.tb ⟨⟨oa,oi⟩,⟨oq,oj⟩,⟨o1a,o1c,o1l⟩,⟨o2a,o2c,o2l⟩⟩) (ZF.lt ⟨ZK,⟨ZH,ZY⟩,Yd,l_id,⟨ZS,ZR,ZG⟩,ZX,⟨ZA,ZL⟩,⟨ZQ,ZP,ZB⟩⟩).peer=_ from hol.symm];rfl
     have h3:Wu (ZJ.nd ⟨⟨⟨Za,Zd⟩,⟨Zc,Zg⟩,⟨Zk,Zj,Zh⟩,⟨Zf,Ze,Zb⟩⟩,Zr,Zq,ZD,Zx,ZM,Zz,Zv,Zt,Zn,Zw,Zm,Zu,⟨Zp,Zo,Zl⟩,ZC,ZE⟩) (ZF.lt ⟨ZK,⟨ZH,ZY⟩,Yd,l_id,⟨ZS,ZR,ZG⟩,ZX,⟨ZA,ZL⟩,⟨ZQ,ZP,ZB⟩⟩)=(ZJ.nd ⟨⟨⟨ua,ui⟩,⟨uq,uj⟩,⟨u1a,u1c,u1l⟩,⟨u2a,u2c,u2l⟩⟩,Zr,Zq,ZD,Zx,ZM,Zz,Zv,Zt,Zn,Zw,Zm,Zu,⟨Zp,Zo,Zl⟩,ZC,ZE⟩,[]):=(does8 hk).trans (congrArg (fun x=>(x,([]:List Snd))) ((bye_yes h2 (show (Xy (ZO.tb ⟨⟨Za,Zd⟩,⟨Zc,Zg⟩,⟨Zk,Zj,Zh⟩,⟨Zf,Ze,Zb⟩⟩)).addr=ZH by rw [hfi];assumption) (show 0<ZB.length by omega)).trans hv1.symm))
     refine ⟨_,M3,[(bw,rowO (ZN.segs ⟨⟨⟨⟨ua,ui⟩,⟨uq,uj⟩,⟨u1a,u1c,u1l⟩,⟨u2a,u2c,u2l⟩⟩,Zr,Zq,ZD,Zx,ZM,Zz,Zv,Zt,Zn,Zw,Zm,Zu,⟨Zp,Zo,Zl⟩,ZC,ZE⟩,⟨none,0,[]⟩⟩) 166)],rfl,((hm1.trans hm2).trans hm3),hw.c,rfl,⟨⟨⟨ua,ui⟩,⟨uq,uj⟩,⟨u1a,u1c,u1l⟩,⟨u2a,u2c,u2l⟩⟩,Zr,Zq,ZD,Zx,ZM,Zz,Zv,Zt,Zn,Zw,Zm,Zu,⟨Zp,Zo,Zl⟩,ZC,ZE⟩,⟨none,0,[]⟩,rfl,?_,?_,⟨oku,((Yu.mono hm1).mono hm2).mono hm3⟩,SlK.nil,fun y hy=>by cases hy⟩
     ·rw [h3] <;> rfl
     ·rw [h3] <;> rfl
    ·refine Vy ?_
     refine ZV (.inl rfl) (.nil) (fun w hw=>?_)
     have h2:ZJ.nd ⟨⟨⟨wa,wi⟩,⟨wq,wj⟩,⟨w1a,w1c,w1l⟩,⟨w2a,w2c,w2l⟩⟩,Zr,Zq,ZD,Zx,ZM,Zz,Zv,Zt,Zn,Zw,Zm,Zu,⟨Zp,Zo,Zl⟩,ZC,ZE⟩={ ZJ.nd ⟨⟨⟨Za,Zd⟩,⟨Zc,Zg⟩,⟨Zk,Zj,Zh⟩,⟨Zf,Ze,Zb⟩⟩,Zr,Zq,ZD,Zx,ZM,Zz,Zv,Zt,Zn,Zw,Zm,Zu,⟨Zp,Zo,Zl⟩,ZC,ZE⟩ with table:=byeT (ZJ.nd ⟨⟨⟨Za,Zd⟩,⟨Zc,Zg⟩,⟨Zk,Zj,Zh⟩,⟨Zf,Ze,Zb⟩⟩,Zr,Zq,ZD,Zx,ZM,Zz,Zv,Zt,Zn,Zw,Zm,Zu,⟨Zp,Zo,Zl⟩,ZC,ZE⟩) (ZF.lt ⟨ZK,⟨ZH,ZY⟩,Yd,l_id,⟨ZS,ZR,ZG⟩,ZX,⟨ZA,ZL⟩,⟨ZQ,ZP,ZB⟩⟩) }:=by
      unfold byeT
      rw [if_pos (show (ZJ.nd ⟨⟨⟨Za,Zd⟩,⟨Zc,Zg⟩,⟨Zk,Zj,Zh⟩,⟨Zf,Ze,Zb⟩⟩,Zr,Zq,ZD,Zx,ZM,Zz,Zv,Zt,Zn,Zw,Zm,Zu,⟨Zp,Zo,Zl⟩,ZC,ZE⟩).table.pred.addr=(ZF.lt ⟨ZK,⟨ZH,ZY⟩,Yd,l_id,⟨ZS,ZR,ZG⟩,ZX,⟨ZA,ZL⟩,⟨ZQ,ZP,ZB⟩⟩).frm.addr from (show Zc=ZH by assumption)),show XK (ZJ.nd ⟨⟨⟨Za,Zd⟩,⟨Zc,Zg⟩,⟨Zk,Zj,Zh⟩,⟨Zf,Ze,Zb⟩⟩,Zr,Zq,ZD,Zx,ZM,Zz,Zv,Zt,Zn,Zw,Zm,Zu,⟨Zp,Zo,Zl⟩,ZC,ZE⟩).table (ZF.lt ⟨ZK,⟨ZH,ZY⟩,Yd,l_id,⟨ZS,ZR,ZG⟩,ZX,⟨ZA,ZL⟩,⟨ZQ,ZP,ZB⟩⟩).frm.addr=_ from hot.symm,show Ub (ZO.tb ⟨⟨oa,oi⟩,⟨oq,oj⟩,⟨o1a,o1c,o1l⟩,⟨o2a,o2c,o2l⟩⟩) (ZF.lt ⟨ZK,⟨ZH,ZY⟩,Yd,l_id,⟨ZS,ZR,ZG⟩,ZX,⟨ZA,ZL⟩,⟨ZQ,ZP,ZB⟩⟩).peer=_ from hol.symm];rfl
     have h3:Wu (ZJ.nd ⟨⟨⟨Za,Zd⟩,⟨Zc,Zg⟩,⟨Zk,Zj,Zh⟩,⟨Zf,Ze,Zb⟩⟩,Zr,Zq,ZD,Zx,ZM,Zz,Zv,Zt,Zn,Zw,Zm,Zu,⟨Zp,Zo,Zl⟩,ZC,ZE⟩) (ZF.lt ⟨ZK,⟨ZH,ZY⟩,Yd,l_id,⟨ZS,ZR,ZG⟩,ZX,⟨ZA,ZL⟩,⟨ZQ,ZP,ZB⟩⟩)=(ZJ.nd ⟨⟨⟨wa,wi⟩,⟨wq,wj⟩,⟨w1a,w1c,w1l⟩,⟨w2a,w2c,w2l⟩⟩,Zr,Zq,ZD,Zx,ZM,Zz,Zv,Zt,Zn,Zw,Zm,Zu,⟨Zp,Zo,Zl⟩,ZC,ZE⟩,[]):=(does8 hk).trans (congrArg (fun x=>(x,([]:List Snd))) (bye_no h2 (fun q1 q2=>(by
      replace q1:(Xy (ZO.tb ⟨⟨Za,Zd⟩,⟨Zc,Zg⟩,⟨Zk,Zj,Zh⟩,⟨Zf,Ze,Zb⟩⟩)).addr=ZH:=q1
      replace q2:0<ZB.length:=q2
      rw [hfi] at q1
      (exfalso;omega)))))
     refine ⟨_,M2,[(bw,rowO (ZN.segs ⟨⟨⟨⟨wa,wi⟩,⟨wq,wj⟩,⟨w1a,w1c,w1l⟩,⟨w2a,w2c,w2l⟩⟩,Zr,Zq,ZD,Zx,ZM,Zz,Zv,Zt,Zn,Zw,Zm,Zu,⟨Zp,Zo,Zl⟩,ZC,ZE⟩,⟨none,0,[]⟩⟩) 166)],rfl,(hm1.trans hm2),hw.c,rfl,⟨⟨⟨wa,wi⟩,⟨wq,wj⟩,⟨w1a,w1c,w1l⟩,⟨w2a,w2c,w2l⟩⟩,Zr,Zq,ZD,Zx,ZM,Zz,Zv,Zt,Zn,Zw,Zm,Zu,⟨Zp,Zo,Zl⟩,ZC,ZE⟩,⟨none,0,[]⟩,rfl,?_,?_,⟨okl,((Yu.mono hm1).mono hm2)⟩,SlK.nil,fun y hy=>by cases hy⟩
     ·rw [h3] <;> rfl
     ·rw [h3] <;> rfl
   ·iterate 9 refine Stp ?_
    refine ZV (.inl rfl) (.nil) (fun w hw=>?_)
    have h2:ZJ.nd ⟨⟨⟨wa,wi⟩,⟨wq,wj⟩,⟨w1a,w1c,w1l⟩,⟨w2a,w2c,w2l⟩⟩,Zr,Zq,ZD,Zx,ZM,Zz,Zv,Zt,Zn,Zw,Zm,Zu,⟨Zp,Zo,Zl⟩,ZC,ZE⟩={ ZJ.nd ⟨⟨⟨Za,Zd⟩,⟨Zc,Zg⟩,⟨Zk,Zj,Zh⟩,⟨Zf,Ze,Zb⟩⟩,Zr,Zq,ZD,Zx,ZM,Zz,Zv,Zt,Zn,Zw,Zm,Zu,⟨Zp,Zo,Zl⟩,ZC,ZE⟩ with table:=byeT (ZJ.nd ⟨⟨⟨Za,Zd⟩,⟨Zc,Zg⟩,⟨Zk,Zj,Zh⟩,⟨Zf,Ze,Zb⟩⟩,Zr,Zq,ZD,Zx,ZM,Zz,Zv,Zt,Zn,Zw,Zm,Zu,⟨Zp,Zo,Zl⟩,ZC,ZE⟩) (ZF.lt ⟨ZK,⟨ZH,ZY⟩,Yd,l_id,⟨ZS,ZR,ZG⟩,ZX,⟨ZA,ZL⟩,⟨ZQ,ZP,ZB⟩⟩) }:=by
     unfold byeT
     rw [if_pos (show (ZJ.nd ⟨⟨⟨Za,Zd⟩,⟨Zc,Zg⟩,⟨Zk,Zj,Zh⟩,⟨Zf,Ze,Zb⟩⟩,Zr,Zq,ZD,Zx,ZM,Zz,Zv,Zt,Zn,Zw,Zm,Zu,⟨Zp,Zo,Zl⟩,ZC,ZE⟩).table.pred.addr=(ZF.lt ⟨ZK,⟨ZH,ZY⟩,Yd,l_id,⟨ZS,ZR,ZG⟩,ZX,⟨ZA,ZL⟩,⟨ZQ,ZP,ZB⟩⟩).frm.addr from (show Zc=ZH by assumption)),show XK (ZJ.nd ⟨⟨⟨Za,Zd⟩,⟨Zc,Zg⟩,⟨Zk,Zj,Zh⟩,⟨Zf,Ze,Zb⟩⟩,Zr,Zq,ZD,Zx,ZM,Zz,Zv,Zt,Zn,Zw,Zm,Zu,⟨Zp,Zo,Zl⟩,ZC,ZE⟩).table (ZF.lt ⟨ZK,⟨ZH,ZY⟩,Yd,l_id,⟨ZS,ZR,ZG⟩,ZX,⟨ZA,ZL⟩,⟨ZQ,ZP,ZB⟩⟩).frm.addr=_ from hot.symm,show Ub (ZO.tb ⟨⟨oa,oi⟩,⟨oq,oj⟩,⟨o1a,o1c,o1l⟩,⟨o2a,o2c,o2l⟩⟩) (ZF.lt ⟨ZK,⟨ZH,ZY⟩,Yd,l_id,⟨ZS,ZR,ZG⟩,ZX,⟨ZA,ZL⟩,⟨ZQ,ZP,ZB⟩⟩).peer=_ from hol.symm];rfl
    have h3:Wu (ZJ.nd ⟨⟨⟨Za,Zd⟩,⟨Zc,Zg⟩,⟨Zk,Zj,Zh⟩,⟨Zf,Ze,Zb⟩⟩,Zr,Zq,ZD,Zx,ZM,Zz,Zv,Zt,Zn,Zw,Zm,Zu,⟨Zp,Zo,Zl⟩,ZC,ZE⟩) (ZF.lt ⟨ZK,⟨ZH,ZY⟩,Yd,l_id,⟨ZS,ZR,ZG⟩,ZX,⟨ZA,ZL⟩,⟨ZQ,ZP,ZB⟩⟩)=(ZJ.nd ⟨⟨⟨wa,wi⟩,⟨wq,wj⟩,⟨w1a,w1c,w1l⟩,⟨w2a,w2c,w2l⟩⟩,Zr,Zq,ZD,Zx,ZM,Zz,Zv,Zt,Zn,Zw,Zm,Zu,⟨Zp,Zo,Zl⟩,ZC,ZE⟩,[]):=(does8 hk).trans (congrArg (fun x=>(x,([]:List Snd))) (bye_no h2 (fun q1 q2=>(by
     replace q1:(Xy (ZO.tb ⟨⟨Za,Zd⟩,⟨Zc,Zg⟩,⟨Zk,Zj,Zh⟩,⟨Zf,Ze,Zb⟩⟩)).addr=ZH:=q1
     replace q2:0<ZB.length:=q2
     rw [hfi] at q1
     contradiction))))
    refine ⟨_,M2,[(bw,rowO (ZN.segs ⟨⟨⟨⟨wa,wi⟩,⟨wq,wj⟩,⟨w1a,w1c,w1l⟩,⟨w2a,w2c,w2l⟩⟩,Zr,Zq,ZD,Zx,ZM,Zz,Zv,Zt,Zn,Zw,Zm,Zu,⟨Zp,Zo,Zl⟩,ZC,ZE⟩,⟨none,0,[]⟩⟩) 166)],rfl,(hm1.trans hm2),hw.c,rfl,⟨⟨⟨wa,wi⟩,⟨wq,wj⟩,⟨w1a,w1c,w1l⟩,⟨w2a,w2c,w2l⟩⟩,Zr,Zq,ZD,Zx,ZM,Zz,Zv,Zt,Zn,Zw,Zm,Zu,⟨Zp,Zo,Zl⟩,ZC,ZE⟩,⟨none,0,[]⟩,rfl,?_,?_,⟨okl,((Yu.mono hm1).mono hm2)⟩,SlK.nil,fun y hy=>by cases hy⟩
    ·rw [h3] <;> rfl
    ·rw [h3] <;> rfl
  ·iterate 3 refine Stp ?_
   have s_lp9:=Wq.mono hm1
   iterate 3 refine Stp ?_
   refine Yt 55 rfl (cT fun hc5=>?_) (cF fun hc5=>?_)
   ·refine Zi F.foff128_7 ?_
    refine Zy F.lay39 ?_;refine YA F.elem39 ?_
    iterate 4 refine Stp ?_
    refine ZW rfl (cT fun hc6=>?_) (cF fun hc6=>?_)
    ·refine C_region_anyW (l:=[0,1,2,3,4,5,6,7,8]) [8] #[0,0,2,6,14,0,32,96,255] (_) rfl jI jI St.drawn (fun _ h=>h) ?_
     refine Yk ?_;refine Zi F.foff128_7 ?_;refine Zy F.lay39 ?_;refine Ys rfl rfl rfl rfl F.elem39 jR jN yB rfl ?_;refine Xm rfl rfl rfl jE (by exact Xv jN) F.lay38 rfl rfl rfl ?_;refine Zi F.foff128_7 ?_;refine Zy F.lay39 ?_;refine WK rfl rfl rfl (.some (k:=1) rfl rfl) .none .none F.elem39 zJ jK jK jU (pieceV_drop (l:=ZB) (k:=1)) rfl ?_;refine XN rfl rfl rfl F.ok163 rfl (adopt_ok M1 bw oa oi oq oj o1a o2a Zp o1c o2c Zo o1l o2l Zl Zr Zq ZD Zx ZM Zz Zv Zt Zn Zw Zm Zu ZC ZE okt ZB[0] ⟨_,_,ZB.drop 1⟩ ((YY.mono hm1).drop 1 jC)) jA (ZT rfl) ?_
     rintro _ M3 hs3 hm3 ⟨rfl,⟨⟨ua,ui⟩,⟨uq,uj⟩,⟨u1a,u1c,u1l⟩,⟨u2a,u2c,u2l⟩⟩,rfl,oku,hv1⟩
     simp only [List.append_assoc,List.cons_append,List.nil_append]
     refine Xb (Xu ?_)
     refine ZV (.inl rfl) (.nil) (fun w hw=>?_)
     have h2:ZJ.nd ⟨⟨⟨oa,oi⟩,⟨oq,oj⟩,⟨o1a,o1c,o1l⟩,⟨o2a,o2c,o2l⟩⟩,Zr,Zq,ZD,Zx,ZM,Zz,Zv,Zt,Zn,Zw,Zm,Zu,⟨Zp,Zo,Zl⟩,ZC,ZE⟩={ ZJ.nd ⟨⟨⟨Za,Zd⟩,⟨Zc,Zg⟩,⟨Zk,Zj,Zh⟩,⟨Zf,Ze,Zb⟩⟩,Zr,Zq,ZD,Zx,ZM,Zz,Zv,Zt,Zn,Zw,Zm,Zu,⟨Zp,Zo,Zl⟩,ZC,ZE⟩ with table:=byeT (ZJ.nd ⟨⟨⟨Za,Zd⟩,⟨Zc,Zg⟩,⟨Zk,Zj,Zh⟩,⟨Zf,Ze,Zb⟩⟩,Zr,Zq,ZD,Zx,ZM,Zz,Zv,Zt,Zn,Zw,Zm,Zu,⟨Zp,Zo,Zl⟩,ZC,ZE⟩) (ZF.lt ⟨ZK,⟨ZH,ZY⟩,Yd,l_id,⟨ZS,ZR,ZG⟩,ZX,⟨ZA,ZL⟩,⟨ZQ,ZP,ZB⟩⟩) }:=by
      unfold byeT
      rw [if_neg (show ¬(ZJ.nd ⟨⟨⟨Za,Zd⟩,⟨Zc,Zg⟩,⟨Zk,Zj,Zh⟩,⟨Zf,Ze,Zb⟩⟩,Zr,Zq,ZD,Zx,ZM,Zz,Zv,Zt,Zn,Zw,Zm,Zu,⟨Zp,Zo,Zl⟩,ZC,ZE⟩).table.pred.addr=(ZF.lt ⟨ZK,⟨ZH,ZY⟩,Yd,l_id,⟨ZS,ZR,ZG⟩,ZX,⟨ZA,ZL⟩,⟨ZQ,ZP,ZB⟩⟩).frm.addr from (show ¬Zc=ZH by assumption)),show XK (ZJ.nd ⟨⟨⟨Za,Zd⟩,⟨Zc,Zg⟩,⟨Zk,Zj,Zh⟩,⟨Zf,Ze,Zb⟩⟩,Zr,Zq,ZD,Zx,ZM,Zz,Zv,Zt,Zn,Zw,Zm,Zu,⟨Zp,Zo,Zl⟩,ZC,ZE⟩).table (ZF.lt ⟨ZK,⟨ZH,ZY⟩,Yd,l_id,⟨ZS,ZR,ZG⟩,ZX,⟨ZA,ZL⟩,⟨ZQ,ZP,ZB⟩⟩).frm.addr=_ from hot.symm];rfl
     have h3:Wu (ZJ.nd ⟨⟨⟨Za,Zd⟩,⟨Zc,Zg⟩,⟨Zk,Zj,Zh⟩,⟨Zf,Ze,Zb⟩⟩,Zr,Zq,ZD,Zx,ZM,Zz,Zv,Zt,Zn,Zw,Zm,Zu,⟨Zp,Zo,Zl⟩,ZC,ZE⟩) (ZF.lt ⟨ZK,⟨ZH,ZY⟩,Yd,l_id,⟨ZS,ZR,ZG⟩,ZX,⟨ZA,ZL⟩,⟨ZQ,ZP,ZB⟩⟩)=(ZJ.nd ⟨⟨⟨ua,ui⟩,⟨uq,uj⟩,⟨u1a,u1c,u1l⟩,⟨u2a,u2c,u2l⟩⟩,Zr,Zq,ZD,Zx,ZM,Zz,Zv,Zt,Zn,Zw,Zm,Zu,⟨Zp,Zo,Zl⟩,ZC,ZE⟩,[]):=(does8 hk).trans (congrArg (fun x=>(x,([]:List Snd))) ((bye_yes h2 (show (Xy (ZO.tb ⟨⟨Za,Zd⟩,⟨Zc,Zg⟩,⟨Zk,Zj,Zh⟩,⟨Zf,Ze,Zb⟩⟩)).addr=ZH by rw [hfi];assumption) (show 0<ZB.length by omega)).trans hv1.symm))
     refine ⟨_,M3,[(bw,rowO (ZN.segs ⟨⟨⟨⟨ua,ui⟩,⟨uq,uj⟩,⟨u1a,u1c,u1l⟩,⟨u2a,u2c,u2l⟩⟩,Zr,Zq,ZD,Zx,ZM,Zz,Zv,Zt,Zn,Zw,Zm,Zu,⟨Zp,Zo,Zl⟩,ZC,ZE⟩,⟨none,0,[]⟩⟩) 166)],rfl,(hm1.trans hm3),hw.c,rfl,⟨⟨⟨ua,ui⟩,⟨uq,uj⟩,⟨u1a,u1c,u1l⟩,⟨u2a,u2c,u2l⟩⟩,Zr,Zq,ZD,Zx,ZM,Zz,Zv,Zt,Zn,Zw,Zm,Zu,⟨Zp,Zo,Zl⟩,ZC,ZE⟩,⟨none,0,[]⟩,rfl,?_,?_,⟨oku,(Yu.mono hm1).mono hm3⟩,SlK.nil,fun y hy=>by cases hy⟩
     ·rw [h3] <;> rfl
     ·rw [h3] <;> rfl
    ·refine Vy ?_
     refine ZV (.inl rfl) (.nil) (fun w hw=>?_)
     have h2:ZJ.nd ⟨⟨⟨oa,oi⟩,⟨oq,oj⟩,⟨o1a,o1c,o1l⟩,⟨o2a,o2c,o2l⟩⟩,Zr,Zq,ZD,Zx,ZM,Zz,Zv,Zt,Zn,Zw,Zm,Zu,⟨Zp,Zo,Zl⟩,ZC,ZE⟩={ ZJ.nd ⟨⟨⟨Za,Zd⟩,⟨Zc,Zg⟩,⟨Zk,Zj,Zh⟩,⟨Zf,Ze,Zb⟩⟩,Zr,Zq,ZD,Zx,ZM,Zz,Zv,Zt,Zn,Zw,Zm,Zu,⟨Zp,Zo,Zl⟩,ZC,ZE⟩ with table:=byeT (ZJ.nd ⟨⟨⟨Za,Zd⟩,⟨Zc,Zg⟩,⟨Zk,Zj,Zh⟩,⟨Zf,Ze,Zb⟩⟩,Zr,Zq,ZD,Zx,ZM,Zz,Zv,Zt,Zn,Zw,Zm,Zu,⟨Zp,Zo,Zl⟩,ZC,ZE⟩) (ZF.lt ⟨ZK,⟨ZH,ZY⟩,Yd,l_id,⟨ZS,ZR,ZG⟩,ZX,⟨ZA,ZL⟩,⟨ZQ,ZP,ZB⟩⟩) }:=by
      unfold byeT
      rw [if_neg (show ¬(ZJ.nd ⟨⟨⟨Za,Zd⟩,⟨Zc,Zg⟩,⟨Zk,Zj,Zh⟩,⟨Zf,Ze,Zb⟩⟩,Zr,Zq,ZD,Zx,ZM,Zz,Zv,Zt,Zn,Zw,Zm,Zu,⟨Zp,Zo,Zl⟩,ZC,ZE⟩).table.pred.addr=(ZF.lt ⟨ZK,⟨ZH,ZY⟩,Yd,l_id,⟨ZS,ZR,ZG⟩,ZX,⟨ZA,ZL⟩,⟨ZQ,ZP,ZB⟩⟩).frm.addr from (show ¬Zc=ZH by assumption)),show XK (ZJ.nd ⟨⟨⟨Za,Zd⟩,⟨Zc,Zg⟩,⟨Zk,Zj,Zh⟩,⟨Zf,Ze,Zb⟩⟩,Zr,Zq,ZD,Zx,ZM,Zz,Zv,Zt,Zn,Zw,Zm,Zu,⟨Zp,Zo,Zl⟩,ZC,ZE⟩).table (ZF.lt ⟨ZK,⟨ZH,ZY⟩,Yd,l_id,⟨ZS,ZR,ZG⟩,ZX,⟨ZA,ZL⟩,⟨ZQ,ZP,ZB⟩⟩).frm.addr=_ from hot.symm];rfl
     have h3:Wu (ZJ.nd ⟨⟨⟨Za,Zd⟩,⟨Zc,Zg⟩,⟨Zk,Zj,Zh⟩,⟨Zf,Ze,Zb⟩⟩,Zr,Zq,ZD,Zx,ZM,Zz,Zv,Zt,Zn,Zw,Zm,Zu,⟨Zp,Zo,Zl⟩,ZC,ZE⟩) (ZF.lt ⟨ZK,⟨ZH,ZY⟩,Yd,l_id,⟨ZS,ZR,ZG⟩,ZX,⟨ZA,ZL⟩,⟨ZQ,ZP,ZB⟩⟩)=(ZJ.nd ⟨⟨⟨oa,oi⟩,⟨oq,oj⟩,⟨o1a,o1c,o1l⟩,⟨o2a,o2c,o2l⟩⟩,Zr,Zq,ZD,Zx,ZM,Zz,Zv,Zt,Zn,Zw,Zm,Zu,⟨Zp,Zo,Zl⟩,ZC,ZE⟩,[]):=(does8 hk).trans (congrArg (fun x=>(x,([]:List Snd))) (bye_no h2 (fun q1 q2=>(by
      replace q1:(Xy (ZO.tb ⟨⟨Za,Zd⟩,⟨Zc,Zg⟩,⟨Zk,Zj,Zh⟩,⟨Zf,Ze,Zb⟩⟩)).addr=ZH:=q1
      replace q2:0<ZB.length:=q2
      rw [hfi] at q1
      (exfalso;omega)))))
     refine ⟨_,M1,[(bw,rowO (ZN.segs ⟨⟨⟨⟨oa,oi⟩,⟨oq,oj⟩,⟨o1a,o1c,o1l⟩,⟨o2a,o2c,o2l⟩⟩,Zr,Zq,ZD,Zx,ZM,Zz,Zv,Zt,Zn,Zw,Zm,Zu,⟨Zp,Zo,Zl⟩,ZC,ZE⟩,⟨none,0,[]⟩⟩) 166)],rfl,hm1,hw.c,rfl,⟨⟨⟨oa,oi⟩,⟨oq,oj⟩,⟨o1a,o1c,o1l⟩,⟨o2a,o2c,o2l⟩⟩,Zr,Zq,ZD,Zx,ZM,Zz,Zv,Zt,Zn,Zw,Zm,Zu,⟨Zp,Zo,Zl⟩,ZC,ZE⟩,⟨none,0,[]⟩,rfl,?_,?_,⟨okt,(Yu.mono hm1)⟩,SlK.nil,fun y hy=>by cases hy⟩
     ·rw [h3] <;> rfl
     ·rw [h3] <;> rfl
   ·iterate 9 refine Stp ?_
    refine ZV (.inl rfl) (.nil) (fun w hw=>?_)
    have h2:ZJ.nd ⟨⟨⟨oa,oi⟩,⟨oq,oj⟩,⟨o1a,o1c,o1l⟩,⟨o2a,o2c,o2l⟩⟩,Zr,Zq,ZD,Zx,ZM,Zz,Zv,Zt,Zn,Zw,Zm,Zu,⟨Zp,Zo,Zl⟩,ZC,ZE⟩={ ZJ.nd ⟨⟨⟨Za,Zd⟩,⟨Zc,Zg⟩,⟨Zk,Zj,Zh⟩,⟨Zf,Ze,Zb⟩⟩,Zr,Zq,ZD,Zx,ZM,Zz,Zv,Zt,Zn,Zw,Zm,Zu,⟨Zp,Zo,Zl⟩,ZC,ZE⟩ with table:=byeT (ZJ.nd ⟨⟨⟨Za,Zd⟩,⟨Zc,Zg⟩,⟨Zk,Zj,Zh⟩,⟨Zf,Ze,Zb⟩⟩,Zr,Zq,ZD,Zx,ZM,Zz,Zv,Zt,Zn,Zw,Zm,Zu,⟨Zp,Zo,Zl⟩,ZC,ZE⟩) (ZF.lt ⟨ZK,⟨ZH,ZY⟩,Yd,l_id,⟨ZS,ZR,ZG⟩,ZX,⟨ZA,ZL⟩,⟨ZQ,ZP,ZB⟩⟩) }:=by
     unfold byeT
     rw [if_neg (show ¬(ZJ.nd ⟨⟨⟨Za,Zd⟩,⟨Zc,Zg⟩,⟨Zk,Zj,Zh⟩,⟨Zf,Ze,Zb⟩⟩,Zr,Zq,ZD,Zx,ZM,Zz,Zv,Zt,Zn,Zw,Zm,Zu,⟨Zp,Zo,Zl⟩,ZC,ZE⟩).table.pred.addr=(ZF.lt ⟨ZK,⟨ZH,ZY⟩,Yd,l_id,⟨ZS,ZR,ZG⟩,ZX,⟨ZA,ZL⟩,⟨ZQ,ZP,ZB⟩⟩).frm.addr from (show ¬Zc=ZH by assumption)),show XK (ZJ.nd ⟨⟨⟨Za,Zd⟩,⟨Zc,Zg⟩,⟨Zk,Zj,Zh⟩,⟨Zf,Ze,Zb⟩⟩,Zr,Zq,ZD,Zx,ZM,Zz,Zv,Zt,Zn,Zw,Zm,Zu,⟨Zp,Zo,Zl⟩,ZC,ZE⟩).table (ZF.lt ⟨ZK,⟨ZH,ZY⟩,Yd,l_id,⟨ZS,ZR,ZG⟩,ZX,⟨ZA,ZL⟩,⟨ZQ,ZP,ZB⟩⟩).frm.addr=_ from hot.symm];rfl
    have h3:Wu (ZJ.nd ⟨⟨⟨Za,Zd⟩,⟨Zc,Zg⟩,⟨Zk,Zj,Zh⟩,⟨Zf,Ze,Zb⟩⟩,Zr,Zq,ZD,Zx,ZM,Zz,Zv,Zt,Zn,Zw,Zm,Zu,⟨Zp,Zo,Zl⟩,ZC,ZE⟩) (ZF.lt ⟨ZK,⟨ZH,ZY⟩,Yd,l_id,⟨ZS,ZR,ZG⟩,ZX,⟨ZA,ZL⟩,⟨ZQ,ZP,ZB⟩⟩)=(ZJ.nd ⟨⟨⟨oa,oi⟩,⟨oq,oj⟩,⟨o1a,o1c,o1l⟩,⟨o2a,o2c,o2l⟩⟩,Zr,Zq,ZD,Zx,ZM,Zz,Zv,Zt,Zn,Zw,Zm,Zu,⟨Zp,Zo,Zl⟩,ZC,ZE⟩,[]):=(does8 hk).trans (congrArg (fun x=>(x,([]:List Snd))) (bye_no h2 (fun q1 q2=>(by
     replace q1:(Xy (ZO.tb ⟨⟨Za,Zd⟩,⟨Zc,Zg⟩,⟨Zk,Zj,Zh⟩,⟨Zf,Ze,Zb⟩⟩)).addr=ZH:=q1
     replace q2:0<ZB.length:=q2
     rw [hfi] at q1
     contradiction))))
    refine ⟨_,M1,[(bw,rowO (ZN.segs ⟨⟨⟨⟨oa,oi⟩,⟨oq,oj⟩,⟨o1a,o1c,o1l⟩,⟨o2a,o2c,o2l⟩⟩,Zr,Zq,ZD,Zx,ZM,Zz,Zv,Zt,Zn,Zw,Zm,Zu,⟨Zp,Zo,Zl⟩,ZC,ZE⟩,⟨none,0,[]⟩⟩) 166)],rfl,hm1,hw.c,rfl,⟨⟨⟨oa,oi⟩,⟨oq,oj⟩,⟨o1a,o1c,o1l⟩,⟨o2a,o2c,o2l⟩⟩,Zr,Zq,ZD,Zx,ZM,Zz,Zv,Zt,Zn,Zw,Zm,Zu,⟨Zp,Zo,Zl⟩,ZC,ZE⟩,⟨none,0,[]⟩,rfl,?_,?_,⟨okt,(Yu.mono hm1)⟩,SlK.nil,fun y hy=>by cases hy⟩
    ·rw [h3] <;> rfl
    ·rw [h3] <;> rfl
theorem F.map182:Su Tryz.prog 182=some (3,180):=by kernel_rfl
theorem F.ok115:okFn Tryz.prog 115=true:=by kernel_rfl
theorem F.ok116:okFn Tryz.prog 116=true:=by kernel_rfl
theorem F.ok117:okFn Tryz.prog 117=true:=by kernel_rfl
theorem F.ok118:okFn Tryz.prog 118=true:=by kernel_rfl
theorem F.ok119:okFn Tryz.prog 119=true:=by kernel_rfl
theorem F.ok120:okFn Tryz.prog 120=true:=by kernel_rfl
theorem F.ok121:okFn Tryz.prog 121=true:=by kernel_rfl
theorem F.ok122:okFn Tryz.prog 122=true:=by kernel_rfl
theorem F.ok123:okFn Tryz.prog 123=true:=by kernel_rfl
theorem F.zero180:XW Tryz.prog 180=some (.nilFunc):=by kernel_rfl
theorem Take_yes (M:Mem) (n:ZJ) (l:ZF) (hn0:ZJ.ok M n) (hl1:ZF.ok M l) (kind:Int) (fid:FuncId) (hkk:l.kind=kind) (hl:(Wa (Uj (Uj (Uj (Uj (Uj (Uj (Uj (Uj [] 1 (.func (.func 116) #[] #[])) 2 (.func (.func 117) #[] #[])) 3 (.func (.func 118) #[] #[])) 4 (.func (.func 119) #[] #[])) 5 (.func (.func 120) #[] #[])) 6 (.func (.func 121) #[] #[])) 7 (.func (.func 122) #[] #[])) 8 (.func (.func 123) #[] #[])) l.kind).getD .nilFunc=.func (.func fid) #[] #[]) (hok:okFn Tryz.prog fid=true)
   (hc:∀ (M:Mem) (bw:Nat) (Za:Int) (Zd:Plc) (Zc:Int) (Zg:Plc) (Zk Zf Zp:Option Addr) (Zj Ze Zo:Nat) (Zh Zb:List Zs) (Zl:List Int) (Zr:Int) (Zq:Bool) (ZD Zx ZM Zz Zv Zt Zn Zw Zm:Int) (Zu:Plc) (ZC ZE:Int) (Yj:ZO.ok M ⟨⟨Za,Zd⟩,⟨Zc,Zg⟩,⟨Zk,Zj,Zh⟩,⟨Zf,Ze,Zb⟩⟩) (Yu:SlK M (oneI .i64) 1 ⟨Zp,Zo,Zl⟩) (hbig:Zh.length≤40∧Zb.length≤200) (hLa:Zl.length≤1000) (hh:0≤ZC∧ZC≤1000) (l:ZF) (hl0:ZF.ok M l) (hLp:l.peers.l.length≤1000) (hk:l.kind=kind),Fh Tryz.prog fid [.pointer (some ⟨bw,0,none⟩),l.enc] M [(bw,rowO (ZN.segs ⟨⟨⟨⟨Za,Zd⟩,⟨Zc,Zg⟩,⟨Zk,Zj,Zh⟩,⟨Zf,Ze,Zb⟩⟩,Zr,Zq,ZD,Zx,ZM,Zz,Zv,Zt,Zn,Zw,Zm,Zu,⟨Zp,Zo,Zl⟩,ZC,ZE⟩,⟨none,0,[]⟩⟩) 166)] (fun M' v Hout=>v=.tuple #[]∧WkF bw 166 M' Hout (Wu (ZJ.nd ⟨⟨⟨Za,Zd⟩,⟨Zc,Zg⟩,⟨Zk,Zj,Zh⟩,⟨Zf,Ze,Zb⟩⟩,Zr,Zq,ZD,Zx,ZM,Zz,Zv,Zt,Zn,Zw,Zm,Zu,⟨Zp,Zo,Zl⟩,ZC,ZE⟩) l.lt))):Esp.Fn Tryz.prog 70 [n.enc,l.enc] M (fun M' v=>NtE M' v (VZ n.nd l.lt)):=by
  obtain ⟨⟨⟨Za,Zd⟩,⟨Zc,Zg⟩,⟨Zk,Zj,Zh⟩,⟨Zf,Ze,Zb⟩⟩,Zr,Zq,ZD,Zx,ZM,Zz,Zv,Zt,Zn,Zw,Zm,Zu,⟨Zp,Zo,Zl⟩,ZC,ZE⟩:=n
  obtain ⟨ZK,⟨ZH,ZY⟩,Yd,l_id,⟨ZS,ZR,ZG⟩,ZX,⟨ZA,ZL⟩,⟨ZQ,ZP,ZB⟩⟩:=l
  have Yj:ZO.ok M ⟨⟨Za,Zd⟩,⟨Zc,Zg⟩,⟨Zk,Zj,Zh⟩,⟨Zf,Ze,Zb⟩⟩:=hn0.h0
  have Xr:SlK M Zs.segs 21 ⟨Zk,Zj,Zh⟩:=hn0.h0.h0
  have s_n_table_succ:SlM M Zk (Zh.map Zs.segs) 21:=Xr.h1
  have n_n_table_succ:(Zh.map Zs.segs).length=Zh.length:=List.length_map ..
  have m_n_table_succ:Zh.length≤9223372036854775807:=Xr.h2
  have c_n_table_succ:Zh.length≤Zj:=Xr.h3
  have YZ:SlK M Zs.segs 21 ⟨Zf,Ze,Zb⟩:=hn0.h0.h1
  have s_n_table_fingers:SlM M Zf (Zb.map Zs.segs) 21:=YZ.h1
  have n_n_table_fingers:(Zb.map Zs.segs).length=Zb.length:=List.length_map ..
  have m_n_table_fingers:Zb.length≤9223372036854775807:=YZ.h2
  have c_n_table_fingers:Zb.length≤Ze:=YZ.h3
  have Yu:SlK M (oneI .i64) 1 ⟨Zp,Zo,Zl⟩:=hn0.h1
  have s_n_avoid:SlM M Zp (Zl.map (oneI .i64)) 1:=Yu.h1
  have n_n_avoid:(Zl.map (oneI .i64)).length=Zl.length:=List.length_map ..
  have m_n_avoid:Zl.length≤9223372036854775807:=Yu.h2
  have c_n_avoid:Zl.length≤Zo:=Yu.h3
  have XM:SlK M (oneI .i64) 1 ⟨ZS,ZR,ZG⟩:=hl1.h0
  have s_l_avoid:SlM M ZS (ZG.map (oneI .i64)) 1:=XM.h1
  have n_l_avoid:(ZG.map (oneI .i64)).length=ZG.length:=List.length_map ..
  have m_l_avoid:ZG.length≤9223372036854775807:=XM.h2
  have c_l_avoid:ZG.length≤ZR:=XM.h3
  have YY:SlK M Zs.segs 21 ⟨ZQ,ZP,ZB⟩:=hl1.h1
  have Wq:SlM M ZQ (ZB.map Zs.segs) 21:=YY.h1
  have VS:(ZB.map Zs.segs).length=ZB.length:=List.length_map ..
  have m_l_peers:ZB.length≤9223372036854775807:=YY.h2
  have VT:ZB.length≤ZP:=YY.h3
  subst hkk
  simp only at hl
  refine WF Tryz.func70 rfl Tryz.ntmps70 rfl ?_;intro H
  iterate 2 refine Stp ?_
  refine Xq ?_;intro b1
  refine Xq ?_;intro b2
  refine Yz F.zero44 ?_;intro b3
  iterate 7 refine Stp ?_
  refine Zy F.lay44 ?_;refine X_fs rfl rfl F.ok18 rfl (IsN_ok _ ⟨⟨⟨Za,Zd⟩,⟨Zc,Zg⟩,⟨Zk,Zj,Zh⟩,⟨Zf,Ze,Zb⟩⟩,Zr,Zq,ZD,Zx,ZM,Zz,Zv,Zt,Zn,Zw,Zm,Zu,⟨Zp,Zo,Zl⟩,ZC,ZE⟩ hn0) rfl ?_
  rintro _ rfl
  iterate 2 refine Stp ?_
  refine Yt 12 rfl (eT fun hc4=>?_) (eF fun hc4=>?_)
  ·iterate 9 refine Stp ?_
   refine Xo rfl rfl F.bld44 (.nil) rfl rfl ?_;refine Wf F.lay44 ?_
   iterate 6 refine Stp ?_
   refine ZV (.inr rfl) (.cell rfl jB F.lay44 rfl rfl (.tmp rfl (.tmp rfl .nil))) (fun w hw=>?_)
   refine ⟨_,M,rfl,Mem.le.refl M,hw.c,ZJ.zero,⟨none,0,[]⟩,?_,?_,?_,ZJ.zero_ok _,SlK.nil,fun y hy=>by cases hy⟩
   ·rw [Uq jT];rfl
   ·rw [Uq jT];rfl
   ·rw [Uq jT];rfl
  ·refine Zy F.lay128 ?_
   refine X_fs rfl rfl F.ok115 rfl (IsL_ok _ ⟨ZK,⟨ZH,ZY⟩,Yd,l_id,⟨ZS,ZR,ZG⟩,ZX,⟨ZA,ZL⟩,⟨ZQ,ZP,ZB⟩⟩ hl1) rfl ?_
   rintro _ rfl
   iterate 4 refine Stp ?_
   refine ZW rfl (eT fun hc5=>?_) (eF fun hc5=>?_)
   ·iterate 2 refine Stp ?_
    refine Xo rfl rfl F.bld44 (.nil) rfl rfl ?_;refine Wf F.lay44 ?_
    iterate 6 refine Stp ?_
    refine ZV (.inr rfl) (.cell rfl jB F.lay44 rfl rfl (.tmp rfl (.tmp rfl .nil))) (fun w hw=>?_)
    refine ⟨_,M,rfl,Mem.le.refl M,hw.c,ZJ.zero,⟨none,0,[]⟩,?_,?_,?_,ZJ.zero_ok _,SlK.nil,fun y hy=>by cases hy⟩
    ·rw [Uq jT];rfl
    ·rw [Uq jT];rfl
    ·rw [Uq jT];rfl
   ·iterate 3 refine Stp ?_
    have hnd9:IsNd (ZJ.nd ⟨⟨⟨Za,Zd⟩,⟨Zc,Zg⟩,⟨Zk,Zj,Zh⟩,⟨Zf,Ze,Zb⟩⟩,Zr,Zq,ZD,Zx,ZM,Zz,Zv,Zt,Zn,Zw,Zm,Zu,⟨Zp,Zo,Zl⟩,ZC,ZE⟩):=by assumption
    have hlt9:IsLt (ZF.lt ⟨ZK,⟨ZH,ZY⟩,Yd,l_id,⟨ZS,ZR,ZG⟩,ZX,⟨ZA,ZL⟩,⟨ZQ,ZP,ZB⟩⟩):=by assumption
    have htb9:IsTb (ZO.tb ⟨⟨Za,Zd⟩,⟨Zc,Zg⟩,⟨Zk,Zj,Zh⟩,⟨Zf,Ze,Zb⟩⟩):=hnd9.1
    have hav9:Zl.length≤16:=hnd9.2.2.2.2.1
    have hho9:0≤ZC∧ZC≤64:=hnd9.2.2.2.2.2.1
    have hpl9:ZB.length≤8:=hlt9.2.2.2.1
    refine Stp ?_
    refine X_makeMap rfl rfl rfl ?_;intro b6
    refine VH rfl rfl rfl rfl rfl F.map182 imO_nil jB ?_;intro o7 him8;refine ⟨_,jH,?_⟩
    refine VH rfl rfl rfl rfl rfl F.map182 him8 jB ?_;intro o9 him10;refine ⟨_,jH,?_⟩
    refine VH rfl rfl rfl rfl rfl F.map182 him10 jB ?_;intro o11 him12;refine ⟨_,jH,?_⟩
    refine VH rfl rfl rfl rfl rfl F.map182 him12 jB ?_;intro o13 him14;refine ⟨_,jH,?_⟩
    refine VH rfl rfl rfl rfl rfl F.map182 him14 jB ?_;intro o15 him16;refine ⟨_,jH,?_⟩
    refine VH rfl rfl rfl rfl rfl F.map182 him16 jB ?_;intro o17 him18;refine ⟨_,jH,?_⟩
    refine VH rfl rfl rfl rfl rfl F.map182 him18 jB ?_;intro o19 him20;refine ⟨_,jH,?_⟩
    refine VH rfl rfl rfl rfl rfl F.map182 him20 jB ?_;intro o21 him22;refine ⟨_,jH,?_⟩
    iterate 6 refine Stp ?_
    refine Zy F.lay44 ?_;refine WE rfl rfl F.ok102 rfl (of_ok M _ _ _ _ _ _ _ _ _ _ _ _ _ _ _ _ _ _ _ _ _ _ _ _ _ _ _ Yu jC) jA (fun _ _ _ hm hw=>(hw.lower jV).c) (ZT rfl) ?_
    rintro v1 M1 hs1 hm1 ⟨hM1,bw,s_a,s_c,hs9,rfl,rfl,ho9⟩;subst M1
    simp only [List.append_assoc,List.cons_append,List.nil_append]
    iterate 5 refine Stp ?_
    refine Sp ho9 jA (fun M2 hM2 k9=>?_)
    iterate 2 refine Stp ?_
    refine Zi F.foff128_1 ?_;refine Zy F.lay38 ?_;refine X_fo rfl rfl F.ok124 rfl (wother_ok M2 bw Za Zd Zc Zg Zk Zf s_a Zj Ze s_c Zh Zb Zl Zr Zq ZD Zx ZM Zz Zv Zt Zn Zw Zm Zu ZC ZE ⟨ZH,ZY⟩) jA (ZT rfl) ?_
    rintro _ MZ _ ⟨hMZ,rfl⟩;subst MZ
    iterate 2 refine Stp ?_
    refine ZW rfl (cT fun hc23=>?_) (cF fun hc23=>?_)
    ·refine YB (l:=[0,1,2,3,4,5,6]) [6] rfl ?_
     refine Yk ?_;refine Zi F.foff128_0 ?_;refine Zy F.lay3 ?_;refine X_lookup rfl rfl rfl rfl F.map182 F.zero180 jB him22 (show (Wa (Uj (Uj (Uj (Uj (Uj (Uj (Uj (Uj [] 1 (.func (.func 116) #[] #[])) 2 (.func (.func 117) #[] #[])) 3 (.func (.func 118) #[] #[])) 4 (.func (.func 119) #[] #[])) 5 (.func (.func 120) #[] #[])) 6 (.func (.func 121) #[] #[])) 7 (.func (.func 122) #[] #[])) 8 (.func (.func 123) #[] #[])) ZK).getD .nilFunc=.func (.func fid) #[] #[] from hl) rfl ?_;refine Yk ?_;refine Zy F.lay128 ?_;refine X_fhVW (caps:=[]) rfl rfl rfl rfl hok rfl rfl (hc M2 bw Za Zd Zc Zg Zk Zf s_a Zj Ze s_c Zh Zb Zl Zr Zq ZD Zx ZM Zz Zv Zt Zn Zw Zm Zu ZC ZE (Yj.mono hM2) k9 (isTb_small (t:=⟨⟨Za,Zd⟩,⟨Zc,Zg⟩,⟨Zk,Zj,Zh⟩,⟨Zf,Ze,Zb⟩⟩) htb9) jC jC ⟨ZK,⟨ZH,ZY⟩,Yd,l_id,⟨ZS,ZR,ZG⟩,ZX,⟨ZA,ZL⟩,⟨ZQ,ZP,ZB⟩⟩ (hl1.mono hM2) (by show ZB.length≤1000;omega) rfl) jA (ZT rfl) ?_
     rintro _ M3 hs3 hm3 ⟨rfl,⟨⟨⟨YJ,YP⟩,⟨YK,YQ⟩,⟨YW,YV,YU⟩,⟨YN,YM,YL⟩⟩,Wm,Wr,Vn,Wl,Ua,WH,Wn,Wi,XR,Wj,XS,Wk,⟨XV,XU,XT⟩,Vj,Vi⟩,⟨o_a,o_c,o_l⟩,rfl,hv1,hv2,okv,oko,okq⟩
     simp only [List.append_assoc,List.cons_append,List.nil_append]
     refine Xb (Xu ?_)
     iterate 2 refine Stp ?_
     refine C_region_anyWR (l:=[0,1,2,3,4,5,6,7,8,9,10]) (Hin:=[(b3,_)]) [8] #[0,1,3,7,0,16,48,112,15,511,1023] jA rfl jI jI ?_
     iterate 2 refine Stp ?_
     refine Zi F.foff166_0 ?_;refine Zy F.lay44 ?_
     iterate 2 refine Stp ?_
     refine Zi F.foff166_1 ?_;refine Zy F.lay121 ?_;refine X_storeE rfl rfl rfl rfl rfl jG jM jH F.lay44 jD (Tm (m:=78) rfl jD jD) (fun _ h=>h.c) ?_
     iterate 3 refine Stp ?_
     refine Xu ?_
     iterate 2 refine Stp ?_
     refine ZV (.inr rfl) (.cell rfl jB F.lay44 rfl rfl (.tmp rfl (.tmp rfl .nil))) (fun w hw=>?_)
     have h3:=take_does (n:=(ZJ.nd ⟨⟨⟨Za,Zd⟩,⟨Zc,Zg⟩,⟨Zk,Zj,Zh⟩,⟨Zf,Ze,Zb⟩⟩,Zr,Zq,ZD,Zx,ZM,Zz,Zv,Zt,Zn,Zw,Zm,Zu,⟨Zp,Zo,Zl⟩,ZC,ZE⟩)) (l:=(ZF.lt ⟨ZK,⟨ZH,ZY⟩,Yd,l_id,⟨ZS,ZR,ZG⟩,ZX,⟨ZA,ZL⟩,⟨ZQ,ZP,ZB⟩⟩)) hnd9 hlt9 (show Xn ⟨Za,Zd⟩ ⟨ZH,ZY⟩ by assumption)
     exact ⟨_,M3,rfl,hM2.trans hm3,hw.c,⟨⟨⟨YJ,YP⟩,⟨YK,YQ⟩,⟨YW,YV,YU⟩,⟨YN,YM,YL⟩⟩,Wm,Wr,Vn,Wl,Ua,WH,Wn,Wi,XR,Wj,XS,Wk,⟨XV,XU,XT⟩,Vj,Vi⟩,⟨o_a,o_c,o_l⟩,by rw [h3] <;> rfl,by rw [h3];exact hv1,by rw [h3];exact hv2,okv,oko,okq⟩
    ·iterate 3 refine Stp ?_
     refine C_region_anyWR (l:=[0,1,2,3,4,5,6,7,8,9,10]) (Hin:=[(b3,_)]) [8] #[0,1,3,7,0,16,48,112,15,511,1023] jA rfl jI jI ?_
     iterate 2 refine Stp ?_
     refine Zi F.foff166_0 ?_;refine Zy F.lay44 ?_
     iterate 2 refine Stp ?_
     refine Zi F.foff166_1 ?_;refine Zy F.lay121 ?_;refine X_storeE rfl rfl rfl rfl rfl jG jM jH F.lay44 jD (Tm (m:=78) rfl jD jD) (fun _ h=>h.c) ?_
     iterate 3 refine Stp ?_
     refine Xu ?_
     iterate 2 refine Stp ?_
     refine ZV (.inr rfl) (.cell rfl jB F.lay44 rfl rfl (.tmp rfl (.tmp rfl .nil))) (fun w hw=>?_)
     have h3:=take_not (n:=(ZJ.nd ⟨⟨⟨Za,Zd⟩,⟨Zc,Zg⟩,⟨Zk,Zj,Zh⟩,⟨Zf,Ze,Zb⟩⟩,Zr,Zq,ZD,Zx,ZM,Zz,Zv,Zt,Zn,Zw,Zm,Zu,⟨Zp,Zo,Zl⟩,ZC,ZE⟩)) (l:=(ZF.lt ⟨ZK,⟨ZH,ZY⟩,Yd,l_id,⟨ZS,ZR,ZG⟩,ZX,⟨ZA,ZL⟩,⟨ZQ,ZP,ZB⟩⟩)) hnd9 hlt9 (show ¬Xn ⟨Za,Zd⟩ ⟨ZH,ZY⟩ by assumption)
     exact ⟨_,M2,rfl,hM2,hw.c,⟨⟨⟨Za,Zd⟩,⟨Zc,Zg⟩,⟨Zk,Zj,Zh⟩,⟨Zf,Ze,Zb⟩⟩,Zr,Zq,ZD,Zx,ZM,Zz,Zv,Zt,Zn,Zw,Zm,Zu,⟨s_a,s_c,Zl⟩,ZC,ZE⟩,⟨none,0,[]⟩,by rw [h3] <;> rfl,by rw [h3] <;> rfl,by rw [h3] <;> rfl,⟨Yj.mono hM2,k9⟩,SlK.nil,fun y hy=>by cases hy⟩
theorem Take_no (M:Mem) (n:ZJ) (l:ZF) (hn0:ZJ.ok M n) (hl1:ZF.ok M l) (hk:¬IsLt l.lt):Esp.Fn Tryz.prog 70 [n.enc,l.enc] M (fun M' v=>NtE M' v (VZ n.nd l.lt)):=by
  obtain ⟨⟨⟨Za,Zd⟩,⟨Zc,Zg⟩,⟨Zk,Zj,Zh⟩,⟨Zf,Ze,Zb⟩⟩,Zr,Zq,ZD,Zx,ZM,Zz,Zv,Zt,Zn,Zw,Zm,Zu,⟨Zp,Zo,Zl⟩,ZC,ZE⟩:=n
  obtain ⟨ZK,⟨ZH,ZY⟩,Yd,l_id,⟨ZS,ZR,ZG⟩,ZX,⟨ZA,ZL⟩,⟨ZQ,ZP,ZB⟩⟩:=l
  have Yj:ZO.ok M ⟨⟨Za,Zd⟩,⟨Zc,Zg⟩,⟨Zk,Zj,Zh⟩,⟨Zf,Ze,Zb⟩⟩:=hn0.h0
  have Xr:SlK M Zs.segs 21 ⟨Zk,Zj,Zh⟩:=hn0.h0.h0
  have s_n_table_succ:SlM M Zk (Zh.map Zs.segs) 21:=Xr.h1
  have n_n_table_succ:(Zh.map Zs.segs).length=Zh.length:=List.length_map ..
  have m_n_table_succ:Zh.length≤9223372036854775807:=Xr.h2
  have c_n_table_succ:Zh.length≤Zj:=Xr.h3
  have YZ:SlK M Zs.segs 21 ⟨Zf,Ze,Zb⟩:=hn0.h0.h1
  have s_n_table_fingers:SlM M Zf (Zb.map Zs.segs) 21:=YZ.h1
  have n_n_table_fingers:(Zb.map Zs.segs).length=Zb.length:=List.length_map ..
  have m_n_table_fingers:Zb.length≤9223372036854775807:=YZ.h2
  have c_n_table_fingers:Zb.length≤Ze:=YZ.h3
  have Yu:SlK M (oneI .i64) 1 ⟨Zp,Zo,Zl⟩:=hn0.h1
  have s_n_avoid:SlM M Zp (Zl.map (oneI .i64)) 1:=Yu.h1
  have n_n_avoid:(Zl.map (oneI .i64)).length=Zl.length:=List.length_map ..
  have m_n_avoid:Zl.length≤9223372036854775807:=Yu.h2
  have c_n_avoid:Zl.length≤Zo:=Yu.h3
  have XM:SlK M (oneI .i64) 1 ⟨ZS,ZR,ZG⟩:=hl1.h0
  have s_l_avoid:SlM M ZS (ZG.map (oneI .i64)) 1:=XM.h1
  have n_l_avoid:(ZG.map (oneI .i64)).length=ZG.length:=List.length_map ..
  have m_l_avoid:ZG.length≤9223372036854775807:=XM.h2
  have c_l_avoid:ZG.length≤ZR:=XM.h3
  have YY:SlK M Zs.segs 21 ⟨ZQ,ZP,ZB⟩:=hl1.h1
  have Wq:SlM M ZQ (ZB.map Zs.segs) 21:=YY.h1
  have VS:(ZB.map Zs.segs).length=ZB.length:=List.length_map ..
  have m_l_peers:ZB.length≤9223372036854775807:=YY.h2
  have VT:ZB.length≤ZP:=YY.h3
  refine WF Tryz.func70 rfl Tryz.ntmps70 rfl ?_;intro H
  iterate 2 refine Stp ?_
  refine Xq ?_;intro b1
  refine Xq ?_;intro b2
  refine Yz F.zero44 ?_;intro b3
  iterate 7 refine Stp ?_
  refine Zy F.lay44 ?_;refine X_fs rfl rfl F.ok18 rfl (IsN_ok _ ⟨⟨⟨Za,Zd⟩,⟨Zc,Zg⟩,⟨Zk,Zj,Zh⟩,⟨Zf,Ze,Zb⟩⟩,Zr,Zq,ZD,Zx,ZM,Zz,Zv,Zt,Zn,Zw,Zm,Zu,⟨Zp,Zo,Zl⟩,ZC,ZE⟩ hn0) rfl ?_
  rintro _ rfl
  iterate 2 refine Stp ?_
  refine Yt 12 rfl (eT fun hc4=>?_) (eF fun hc4=>?_)
  ·iterate 9 refine Stp ?_
   refine Xo rfl rfl F.bld44 (.nil) rfl rfl ?_;refine Wf F.lay44 ?_
   iterate 6 refine Stp ?_
   refine ZV (.inr rfl) (.cell rfl jB F.lay44 rfl rfl (.tmp rfl (.tmp rfl .nil))) (fun w hw=>?_)
   refine ⟨_,M,rfl,Mem.le.refl M,hw.c,ZJ.zero,⟨none,0,[]⟩,?_,?_,?_,ZJ.zero_ok _,SlK.nil,fun y hy=>by cases hy⟩
   ·rw [Uq jT];rfl
   ·rw [Uq jT];rfl
   ·rw [Uq jT];rfl
  ·refine Zy F.lay128 ?_
   refine X_fs rfl rfl F.ok115 rfl (IsL_ok _ ⟨ZK,⟨ZH,ZY⟩,Yd,l_id,⟨ZS,ZR,ZG⟩,ZX,⟨ZA,ZL⟩,⟨ZQ,ZP,ZB⟩⟩ hl1) rfl ?_
   rintro _ rfl
   iterate 4 refine Stp ?_
   refine ZW rfl (eT fun hc5=>?_) (eF fun hc5=>?_)
   ·iterate 2 refine Stp ?_
    refine Xo rfl rfl F.bld44 (.nil) rfl rfl ?_;refine Wf F.lay44 ?_
    iterate 6 refine Stp ?_
    refine ZV (.inr rfl) (.cell rfl jB F.lay44 rfl rfl (.tmp rfl (.tmp rfl .nil))) (fun w hw=>?_)
    refine ⟨_,M,rfl,Mem.le.refl M,hw.c,ZJ.zero,⟨none,0,[]⟩,?_,?_,?_,ZJ.zero_ok _,SlK.nil,fun y hy=>by cases hy⟩
    ·rw [Uq jT];rfl
    ·rw [Uq jT];rfl
    ·rw [Uq jT];rfl
   ·(exfalso;first|(simp [eqX] at hc5;done)|(simp_all;done))
theorem Take_ok (M:Mem) (n:ZJ) (l:ZF) (hn0:ZJ.ok M n) (hl1:ZF.ok M l):Esp.Fn Tryz.prog 70 [n.enc,l.enc] M (fun M' v=>NtE M' v (VZ n.nd l.lt)):=by
  by_cases h:IsLt l.lt
  ·have h8:1≤l.kind∧l.kind≤8:=h.1
   have h9:l.kind=1∨l.kind=2∨l.kind=3∨l.kind=4∨l.kind=5∨l.kind=6∨l.kind=7∨l.kind=8:=by omega
   rcases h9 with hk|hk|hk|hk|hk|hk|hk|hk
   ·exact Take_yes M n l hn0 hl1 1 116 hk zW F.ok116 (fun M bw Za Zd Zc Zg Zk Zf Zp Zj Ze Zo Zh Zb Zl Zr Zq ZD Zx ZM Zz Zv Zt Zn Zw Zm Zu ZC ZE Yj Yu hbig hLa hh l hl0 hLp hk=>find_ok M bw Za Zd Zc Zg Zk Zf Zp Zj Ze Zo Zh Zb Zl Zr Zq ZD Zx ZM Zz Zv Zt Zn Zw Zm Zu ZC ZE Yj Yu hbig hLa hh l hl0 hLp hk)
   ·exact Take_yes M n l hn0 hl1 2 117 hk zW F.ok117 (fun M bw Za Zd Zc Zg Zk Zf Zp Zj Ze Zo Zh Zb Zl Zr Zq ZD Zx ZM Zz Zv Zt Zn Zw Zm Zu ZC ZE Yj Yu hbig hLa hh l hl0 hLp hk=>found_ok M bw Za Zd Zc Zg Zk Zf Zp Zj Ze Zo Zh Zb Zl Zr Zq ZD Zx ZM Zz Zv Zt Zn Zw Zm Zu ZC ZE Yj Yu hbig hLa hh l hl0 hLp hk)
   ·exact Take_yes M n l hn0 hl1 3 118 hk zW F.ok118 (fun M bw Za Zd Zc Zg Zk Zf Zp Zj Ze Zo Zh Zb Zl Zr Zq ZD Zx ZM Zz Zv Zt Zn Zw Zm Zu ZC ZE Yj Yu hbig hLa hh l hl0 hLp hk=>ask_ok M bw Za Zd Zc Zg Zk Zf Zp Zj Ze Zo Zh Zb Zl Zr Zq ZD Zx ZM Zz Zv Zt Zn Zw Zm Zu ZC ZE Yj Yu hbig hLa hh l hl0 hLp hk)
   ·exact Take_yes M n l hn0 hl1 4 119 hk zW F.ok119 (fun M bw Za Zd Zc Zg Zk Zf Zp Zj Ze Zo Zh Zb Zl Zr Zq ZD Zx ZM Zz Zv Zt Zn Zw Zm Zu ZC ZE Yj Yu hbig hLa hh l hl0 hLp hk=>told_ok M bw Za Zd Zc Zg Zk Zf Zp Zj Ze Zo Zh Zb Zl Zr Zq ZD Zx ZM Zz Zv Zt Zn Zw Zm Zu ZC ZE Yj Yu hbig hLa hh l hl0 hLp hk)
   ·exact Take_yes M n l hn0 hl1 5 120 hk zW F.ok120 (fun M bw Za Zd Zc Zg Zk Zf Zp Zj Ze Zo Zh Zb Zl Zr Zq ZD Zx ZM Zz Zv Zt Zn Zw Zm Zu ZC ZE Yj Yu hbig hLa hh l hl0 hLp hk=>notify_ok M bw Za Zd Zc Zg Zk Zf Zp Zj Ze Zo Zh Zb Zl Zr Zq ZD Zx ZM Zz Zv Zt Zn Zw Zm Zu ZC ZE Yj Yu hbig hLa hh l hl0 hLp hk)
   ·exact Take_yes M n l hn0 hl1 6 121 hk zW F.ok121 (fun M bw Za Zd Zc Zg Zk Zf Zp Zj Ze Zo Zh Zb Zl Zr Zq ZD Zx ZM Zz Zv Zt Zn Zw Zm Zu ZC ZE Yj Yu hbig hLa hh l hl0 hLp hk=>ping_ok M bw Za Zd Zc Zg Zk Zf Zp Zj Ze Zo Zh Zb Zl Zr Zq ZD Zx ZM Zz Zv Zt Zn Zw Zm Zu ZC ZE Yj Yu hbig hLa hh l hl0 hLp hk)
   ·exact Take_yes M n l hn0 hl1 7 122 hk zW F.ok122 (fun M bw Za Zd Zc Zg Zk Zf Zp Zj Ze Zo Zh Zb Zl Zr Zq ZD Zx ZM Zz Zv Zt Zn Zw Zm Zu ZC ZE Yj Yu hbig hLa hh l hl0 hLp hk=>pong_ok M bw Za Zd Zc Zg Zk Zf Zp Zj Ze Zo Zh Zb Zl Zr Zq ZD Zx ZM Zz Zv Zt Zn Zw Zm Zu ZC ZE Yj Yu hbig hLa hh l hl0 hLp hk)
   ·exact Take_yes M n l hn0 hl1 8 123 hk zW F.ok123 (fun M bw Za Zd Zc Zg Zk Zf Zp Zj Ze Zo Zh Zb Zl Zr Zq ZD Zx ZM Zz Zv Zt Zn Zw Zm Zu ZC ZE Yj Yu hbig hLa hh l hl0 hLp hk=>bye_ok M bw Za Zd Zc Zg Zk Zf Zp Zj Ze Zo Zh Zb Zl Zr Zq ZD Zx ZM Zz Zv Zt Zn Zw Zm Zu ZC ZE Yj Yu hbig hLa hh l hl0 hLp hk)
  ·exact Take_no M n l hn0 hl1 h
theorem F.ok63:okFn Tryz.prog 63=true:=by kernel_rfl
theorem F.ok87:okFn Tryz.prog 87=true:=by kernel_rfl
theorem Leave_ok (M:Mem) (n:ZJ) (hn0:ZJ.ok M n):Esp.Fn Tryz.prog 66 [n.enc] M (fun M' v=>LvE M' v (TL n.nd)):=by
  obtain ⟨⟨⟨Za,Zd⟩,⟨Zc,Zg⟩,⟨Zk,Zj,Zh⟩,⟨Zf,Ze,Zb⟩⟩,Zr,Zq,ZD,Zx,ZM,Zz,Zv,Zt,Zn,Zw,Zm,Zu,⟨Zp,Zo,Zl⟩,ZC,ZE⟩:=n
  have Yj:ZO.ok M ⟨⟨Za,Zd⟩,⟨Zc,Zg⟩,⟨Zk,Zj,Zh⟩,⟨Zf,Ze,Zb⟩⟩:=hn0.h0
  have Xr:SlK M Zs.segs 21 ⟨Zk,Zj,Zh⟩:=hn0.h0.h0
  have s_n_table_succ:SlM M Zk (Zh.map Zs.segs) 21:=Xr.h1
  have n_n_table_succ:(Zh.map Zs.segs).length=Zh.length:=List.length_map ..
  have m_n_table_succ:Zh.length≤9223372036854775807:=Xr.h2
  have c_n_table_succ:Zh.length≤Zj:=Xr.h3
  have YZ:SlK M Zs.segs 21 ⟨Zf,Ze,Zb⟩:=hn0.h0.h1
  have s_n_table_fingers:SlM M Zf (Zb.map Zs.segs) 21:=YZ.h1
  have n_n_table_fingers:(Zb.map Zs.segs).length=Zb.length:=List.length_map ..
  have m_n_table_fingers:Zb.length≤9223372036854775807:=YZ.h2
  have c_n_table_fingers:Zb.length≤Ze:=YZ.h3
  have Yu:SlK M (oneI .i64) 1 ⟨Zp,Zo,Zl⟩:=hn0.h1
  have s_n_avoid:SlM M Zp (Zl.map (oneI .i64)) 1:=Yu.h1
  have n_n_avoid:(Zl.map (oneI .i64)).length=Zl.length:=List.length_map ..
  have m_n_avoid:Zl.length≤9223372036854775807:=Yu.h2
  have c_n_avoid:Zl.length≤Zo:=Yu.h3
  refine WF Tryz.func66 rfl Tryz.ntmps66 rfl ?_;intro H
  iterate 2 refine Stp ?_
  refine Xq ?_;intro b1
  iterate 7 refine Stp ?_
  refine Zy F.lay44 ?_;refine X_fs rfl rfl F.ok18 rfl (IsN_ok _ ⟨⟨⟨Za,Zd⟩,⟨Zc,Zg⟩,⟨Zk,Zj,Zh⟩,⟨Zf,Ze,Zb⟩⟩,Zr,Zq,ZD,Zx,ZM,Zz,Zv,Zt,Zn,Zw,Zm,Zu,⟨Zp,Zo,Zl⟩,ZC,ZE⟩ hn0) rfl ?_
  rintro _ rfl
  iterate 3 refine Stp ?_
  refine ZW rfl (eT fun hc2=>?_) (eF fun hc2=>?_)
  ·iterate 8 refine Stp ?_
   refine ZV (.inr rfl) (.tmp rfl (.tmp rfl .nil)) (fun w hw=>?_)
   refine ⟨_,M,rfl,Mem.le.refl M,hw.c,⟨none,0,[]⟩,?_,?_,SlK.nil,fun y hy=>by cases hy⟩
   ·rw [leave_odd jE];rfl
   ·rw [leave_odd jE];rfl
  ·iterate 3 refine Stp ?_
   have hnd9:IsNd (ZJ.nd ⟨⟨⟨Za,Zd⟩,⟨Zc,Zg⟩,⟨Zk,Zj,Zh⟩,⟨Zf,Ze,Zb⟩⟩,Zr,Zq,ZD,Zx,ZM,Zz,Zv,Zt,Zn,Zw,Zm,Zu,⟨Zp,Zo,Zl⟩,ZC,ZE⟩):=by assumption
   have htb9:IsTb (ZO.tb ⟨⟨Za,Zd⟩,⟨Zc,Zg⟩,⟨Zk,Zj,Zh⟩,⟨Zf,Ze,Zb⟩⟩):=hnd9.1
   have hav9:Zl.length≤16:=hnd9.2.2.2.2.1
   refine Stp ?_;refine Zy F.lay44 ?_;refine WE rfl rfl F.ok102 rfl (of_ok M _ _ _ _ _ _ _ _ _ _ _ _ _ _ _ _ _ _ _ _ _ _ _ _ _ _ _ Yu jC) jA (fun _ _ _ hm hw=>(hw.lower jV).c) (ZT rfl) ?_
   rintro v1 M1 hs1 hm1 ⟨hM1,bw,s_a,s_c,hs9,rfl,rfl,ho9⟩;subst M1
   simp only [List.append_assoc,List.cons_append,List.nil_append]
   iterate 4 refine Stp ?_
   refine Yg (l:=[0,1,2,3,4,5,6,7,8,9,10,11,12,13,14]) #[0,1,3,7,15,31,0,64,192,448,960,1984,4095,0,16383] _ rfl jI jI St.drawn (fun _ h=>h) ?_
   iterate 2 refine Stp ?_
   refine Zi F.foff166_0 ?_;refine Zi F.foff44_0 ?_;refine Zi F.foff41_1 ?_;refine Zy F.lay38 ?_
   iterate 2 refine Stp ?_
   refine Zi F.foff166_0 ?_;refine Zi F.foff44_0 ?_;refine Zi F.foff41_2 ?_;refine Zy F.lay39 ?_;refine Xo rfl rfl F.bld128 (.cons rfl jG (.cons rfl jG (.cons rfl jG .nil))) rfl rfl ?_
   refine Yz F.zero128 ?_;intro b3
   refine Ul rfl rfl rfl rfl jG jM jH F.lay128 jD (Tm (m:=67) rfl jD jD) ?_
   iterate 7 refine Stp ?_
   refine Zi F.foff166_0 ?_;refine Zi F.foff44_0 ?_;refine Zy F.lay41 ?_;refine X_fs rfl rfl F.ok99 rfl (First_ok _ ⟨⟨Za,Zd⟩,⟨Zc,Zg⟩,⟨Zk,Zj,Zh⟩,⟨Zf,Ze,Zb⟩⟩ Yj) rfl ?_
   rintro _ rfl
   obtain ⟨⟨fa,fi⟩,hfi⟩:∃ x,Xy (ZO.tb ⟨⟨Za,Zd⟩,⟨Zc,Zg⟩,⟨Zk,Zj,Zh⟩,⟨Zf,Ze,Zb⟩⟩)=x:=⟨_,rfl⟩
   rw [hfi]
   refine Yz F.zero38 ?_;intro b4
   refine Ya F.lay38 ?_
   iterate 3 refine Stp ?_
   refine Yg (l:=[0,1,2,3,4,5,6,7]) #[0,0,2,6,14,30,62,127] _ rfl jI jI St.drawn (fun _ h=>h) ?_;refine Zy F.lay38 ?_
   iterate 2 refine Stp ?_
   refine Zi F.foff166_0 ?_;refine Zi F.foff44_0 ?_;refine Zi F.foff41_0 ?_;refine Zy F.lay38 ?_
   refine VE (m:=20) rfl rfl rfl rfl rfl jG jG F.lay38 F.kinds38 rfl F.guard38 jS jS rfl rfl rfl ?_;intro c5 he6
   replace he6:c5=true↔¬(Segs.cells _=Segs.cells _):=he6
   obtain rfl:=neD he6 (Zs.inj (x:=⟨_,_⟩) (y:=⟨_,_⟩));clear he6
   iterate 2 refine Stp ?_
   refine ZW rfl (eT fun hc7=>?_) (eF fun hc7=>?_)
   ·refine YB (l:=[0,1,2,3,4]) [4] rfl ?_
    refine Yk ?_;refine Zi F.foff38_0 ?_;refine Zy F.lay3 ?_;refine Zy F.lay128 ?_;refine XN rfl rfl rfl F.ok103 rfl (send_ok M bw Za Zd Zc Zg Zk Zf s_a Zj Ze s_c Zh Zb Zl Zr Zq ZD Zx ZM Zz Zv Zt Zn Zw Zm Zu ZC ZE none 0 [] [] OSl.nil jU fa ⟨8,⟨0,0⟩,0,0,⟨none,0,[]⟩,false,⟨Zc,Zg⟩,⟨Zk,Zj,Zh⟩⟩) jA (ZT rfl) ?_
    rintro _ M1 hsA hm1 ⟨hM1,rfl,⟨oA_a,oA_c,oA_l⟩,hoA,rfl,hOA,hlA⟩;subst M1
    simp only at hlA hOA
    simp only [List.nil_append] at hlA
    have hcA:oA_l.length≤1000:=by rw [hlA];simp
    simp only [List.append_assoc,List.cons_append,List.nil_append]
    refine Xb (Xu ?_)
    iterate 6 refine Stp ?_
    refine Zi F.foff166_0 ?_;refine Zi F.foff44_0 ?_;refine Zi F.foff41_1 ?_;refine Zy F.lay38 ?_
    refine Yz F.zero38 ?_;intro b8
    refine Ya F.lay38 ?_
    iterate 3 refine Stp ?_
    refine Yg (l:=[0,1,2,3,4,5,6,7,8,9,10,11,12]) #[0,0,3,7,15,15,47,111,239,495,1007,2047,4095] _ rfl jI jI St.drawn (fun _ h=>h) ?_;refine Zy F.lay38 ?_;refine X_fs rfl rfl F.ok78 rfl (Vp _) rfl ?_
    rintro _ rfl
    refine XI 52 rfl (show _=aggV [.one (.int .i64 (-1)),Yb 0] from rfl) ?_
    refine VE (m:=20) rfl rfl rfl rfl rfl jG jG F.lay38 F.kinds38 rfl F.guard38 jS jS rfl rfl rfl ?_;intro c9 he10
    replace he10:c9=true↔¬(Segs.cells _=Segs.cells _):=he10
    obtain rfl:=neD he10 (Zs.inj (x:=⟨_,_⟩) (y:=⟨_,_⟩));clear he10
    refine Yk ?_
    refine Yt 54 rfl (eT fun hc11=>?_) (eF fun hc11=>?_)
    ·refine Zy F.lay38 ?_
     iterate 2 refine Stp ?_
     refine Zi F.foff166_0 ?_;refine Zi F.foff44_0 ?_;refine Zy F.lay41 ?_;refine X_fs rfl rfl F.ok99 rfl (First_ok _ ⟨⟨Za,Zd⟩,⟨Zc,Zg⟩,⟨Zk,Zj,Zh⟩,⟨Zf,Ze,Zb⟩⟩ Yj) rfl ?_
     rintro _ rfl
     rw [hfi]
     refine VE (m:=20) rfl rfl rfl rfl rfl jG jG F.lay38 F.kinds38 rfl F.guard38 jS (by exact XE _) rfl rfl rfl ?_;intro c12 he13
     replace he13:c12=true↔¬(Segs.cells _=Segs.cells _):=he13
     obtain rfl:=neD he13 (Zs.inj (x:=⟨_,_⟩) (y:=⟨_,_⟩));clear he13
     iterate 3 refine Stp ?_
     refine ZW rfl (eT fun hc14=>?_) (eF fun hc14=>?_)
     ·refine YB (l:=[0,1,2,3,4]) [4] rfl ?_
      refine Yk ?_;refine Zi F.foff38_0 ?_;refine Zy F.lay3 ?_;refine Zy F.lay128 ?_;refine XN rfl rfl rfl F.ok103 rfl (send_ok M bw Za Zd Zc Zg Zk Zf s_a Zj Ze s_c Zh Zb Zl Zr Zq ZD Zx ZM Zz Zv Zt Zn Zw Zm Zu ZC ZE oA_a oA_c oA_l hoA hOA hcA Zc ⟨8,⟨0,0⟩,0,0,⟨none,0,[]⟩,false,⟨Zc,Zg⟩,⟨Zk,Zj,Zh⟩⟩) jA (ZT rfl) ?_
      rintro _ M1 hsB hm1 ⟨hM1,rfl,⟨oB_a,oB_c,oB_l⟩,hoB,rfl,hOB,hlB⟩;subst M1
      simp only at hlB hOB
      simp only [List.append_assoc,List.cons_append,List.nil_append]
      refine Xb (Xu ?_)
      iterate 5 refine Stp ?_
      refine Zi F.foff166_1 ?_;refine Zy F.lay121 ?_
      iterate 5 refine Stp ?_
      refine ZV (.inr rfl) (.tmp rfl (.tmp rfl .nil)) (fun w hw=>?_)
      have hs0:0<Zh.length:=first_ne (t:=ZO.tb ⟨⟨Za,Zd⟩,⟨Zc,Zg⟩,⟨Zk,Zj,Zh⟩,⟨Zf,Ze,Zb⟩⟩) zV
      have hf0:Zh[0]=⟨fa,fi⟩:=(first_at (t:=ZO.tb ⟨⟨Za,Zd⟩,⟨Zc,Zg⟩,⟨Zk,Zj,Zh⟩,⟨Zf,Ze,Zb⟩⟩) hs0).symm.trans hfi
      have h3:=leave_is (n:=ZJ.nd ⟨⟨⟨Za,Zd⟩,⟨Zc,Zg⟩,⟨Zk,Zj,Zh⟩,⟨Zf,Ze,Zb⟩⟩,Zr,Zq,ZD,Zx,ZM,Zz,Zv,Zt,Zn,Zw,Zm,Zu,⟨Zp,Zo,Zl⟩,ZC,ZE⟩) (a:=[Ym.snd (⟨fa,(⟨8,⟨Za,Zd⟩,0,0,⟨none,0,[]⟩,false,⟨Zc,Zg⟩,⟨Zk,Zj,Zh⟩⟩:ZF)⟩:Ym)]) (b:=[Ym.snd (⟨Zc,(⟨8,⟨Za,Zd⟩,0,0,⟨none,0,[]⟩,false,⟨Zc,Zg⟩,⟨Zk,Zj,Zh⟩⟩:ZF)⟩:Ym)]) hnd9 (.inr ⟨hs0,by show [Ym.snd (⟨fa,(⟨8,⟨Za,Zd⟩,0,0,⟨none,0,[]⟩,false,⟨Zc,Zg⟩,⟨Zk,Zj,Zh⟩⟩:ZF)⟩:Ym)]=[Ym.snd (⟨Zh[0].addr,(⟨8,⟨Za,Zd⟩,0,0,⟨none,0,[]⟩,false,⟨Zc,Zg⟩,⟨Zk,Zj,Zh⟩⟩:ZF)⟩:Ym)];rw [hf0]⟩) (.inr ⟨⟨show (⟨Zc,Zg⟩:Zs)≠YD by first|assumption|(simp_all;done),show (⟨Zc,Zg⟩:Zs)≠Xy (ZO.tb ⟨⟨Za,Zd⟩,⟨Zc,Zg⟩,⟨Zk,Zj,Zh⟩,⟨Zf,Ze,Zb⟩⟩) from by rw [hfi];first|assumption|(simp_all;done)⟩,rfl⟩)
      obtain ⟨M9,j1,j2,j3⟩:=OSl.frz (H:=H) hOB (hw.c)
      refine ⟨_,M9,rfl,j1,j2,⟨oB_a,oB_c,oB_l⟩,?_,?_,j3,fun y hy=>?_⟩
      ·rw [h3] <;> rfl
      ·rw [h3]
       show sndl oB_l=_
       rw [hlB,hlA];rfl
      ·simp only at hy
       rw [hlB,hlA] at hy
       have k8:=Yj.h0.mono j1
       simp only [List.mem_append,List.mem_cons,List.not_mem_nil,or_false] at hy
       rcases hy with rfl|rfl <;> exact ⟨⟨SlK.nil,k8⟩⟩
     ·iterate 6 refine Stp ?_
      refine Zi F.foff166_1 ?_;refine Zy F.lay121 ?_
      iterate 5 refine Stp ?_
      refine ZV (.inr rfl) (.tmp rfl (.tmp rfl .nil)) (fun w hw=>?_)
      have hs0:0<Zh.length:=first_ne (t:=ZO.tb ⟨⟨Za,Zd⟩,⟨Zc,Zg⟩,⟨Zk,Zj,Zh⟩,⟨Zf,Ze,Zb⟩⟩) zV
      have hf0:Zh[0]=⟨fa,fi⟩:=(first_at (t:=ZO.tb ⟨⟨Za,Zd⟩,⟨Zc,Zg⟩,⟨Zk,Zj,Zh⟩,⟨Zf,Ze,Zb⟩⟩) hs0).symm.trans hfi
      have h3:=leave_is (n:=ZJ.nd ⟨⟨⟨Za,Zd⟩,⟨Zc,Zg⟩,⟨Zk,Zj,Zh⟩,⟨Zf,Ze,Zb⟩⟩,Zr,Zq,ZD,Zx,ZM,Zz,Zv,Zt,Zn,Zw,Zm,Zu,⟨Zp,Zo,Zl⟩,ZC,ZE⟩) (a:=[Ym.snd (⟨fa,(⟨8,⟨Za,Zd⟩,0,0,⟨none,0,[]⟩,false,⟨Zc,Zg⟩,⟨Zk,Zj,Zh⟩⟩:ZF)⟩:Ym)]) (b:=[]) hnd9 (.inr ⟨hs0,by show [Ym.snd (⟨fa,(⟨8,⟨Za,Zd⟩,0,0,⟨none,0,[]⟩,false,⟨Zc,Zg⟩,⟨Zk,Zj,Zh⟩⟩:ZF)⟩:Ym)]=[Ym.snd (⟨Zh[0].addr,(⟨8,⟨Za,Zd⟩,0,0,⟨none,0,[]⟩,false,⟨Zc,Zg⟩,⟨Zk,Zj,Zh⟩⟩:ZF)⟩:Ym)];rw [hf0]⟩) (.inl ⟨by first|(refine .inl ?_;show (⟨Zc,Zg⟩:Zs)=YD;assumption)|(refine .inr ?_;show (⟨Zc,Zg⟩:Zs)=Xy (ZO.tb ⟨⟨Za,Zd⟩,⟨Zc,Zg⟩,⟨Zk,Zj,Zh⟩,⟨Zf,Ze,Zb⟩⟩);rw [hfi];assumption)|(refine .inl ?_;show (⟨Zc,Zg⟩:Zs)=YD;simp_all;done)|(refine .inr ?_;show (⟨Zc,Zg⟩:Zs)=Xy (ZO.tb ⟨⟨Za,Zd⟩,⟨Zc,Zg⟩,⟨Zk,Zj,Zh⟩,⟨Zf,Ze,Zb⟩⟩);rw [hfi];simp_all;done),rfl⟩)
      obtain ⟨M9,j1,j2,j3⟩:=OSl.frz (H:=H) hOA (hw.c)
      refine ⟨_,M9,rfl,j1,j2,⟨oA_a,oA_c,oA_l⟩,?_,?_,j3,fun y hy=>?_⟩
      ·rw [h3] <;> rfl
      ·rw [h3]
       show sndl oA_l=_
       rw [hlA];rfl
      ·simp only at hy
       rw [hlA] at hy
       have k8:=Yj.h0.mono j1
       simp only [List.mem_append,List.mem_cons,List.not_mem_nil,or_false] at hy
       subst hy
       exact ⟨⟨SlK.nil,k8⟩⟩
    ·iterate 18 refine Stp ?_
     refine Zi F.foff166_1 ?_;refine Zy F.lay121 ?_
     iterate 5 refine Stp ?_
     refine ZV (.inr rfl) (.tmp rfl (.tmp rfl .nil)) (fun w hw=>?_)
     have hs0:0<Zh.length:=first_ne (t:=ZO.tb ⟨⟨Za,Zd⟩,⟨Zc,Zg⟩,⟨Zk,Zj,Zh⟩,⟨Zf,Ze,Zb⟩⟩) zV
     have hf0:Zh[0]=⟨fa,fi⟩:=(first_at (t:=ZO.tb ⟨⟨Za,Zd⟩,⟨Zc,Zg⟩,⟨Zk,Zj,Zh⟩,⟨Zf,Ze,Zb⟩⟩) hs0).symm.trans hfi
     have h3:=leave_is (n:=ZJ.nd ⟨⟨⟨Za,Zd⟩,⟨Zc,Zg⟩,⟨Zk,Zj,Zh⟩,⟨Zf,Ze,Zb⟩⟩,Zr,Zq,ZD,Zx,ZM,Zz,Zv,Zt,Zn,Zw,Zm,Zu,⟨Zp,Zo,Zl⟩,ZC,ZE⟩) (a:=[Ym.snd (⟨fa,(⟨8,⟨Za,Zd⟩,0,0,⟨none,0,[]⟩,false,⟨Zc,Zg⟩,⟨Zk,Zj,Zh⟩⟩:ZF)⟩:Ym)]) (b:=[]) hnd9 (.inr ⟨hs0,by show [Ym.snd (⟨fa,(⟨8,⟨Za,Zd⟩,0,0,⟨none,0,[]⟩,false,⟨Zc,Zg⟩,⟨Zk,Zj,Zh⟩⟩:ZF)⟩:Ym)]=[Ym.snd (⟨Zh[0].addr,(⟨8,⟨Za,Zd⟩,0,0,⟨none,0,[]⟩,false,⟨Zc,Zg⟩,⟨Zk,Zj,Zh⟩⟩:ZF)⟩:Ym)];rw [hf0]⟩) (.inl ⟨by first|(refine .inl ?_;show (⟨Zc,Zg⟩:Zs)=YD;assumption)|(refine .inr ?_;show (⟨Zc,Zg⟩:Zs)=Xy (ZO.tb ⟨⟨Za,Zd⟩,⟨Zc,Zg⟩,⟨Zk,Zj,Zh⟩,⟨Zf,Ze,Zb⟩⟩);rw [hfi];assumption)|(refine .inl ?_;show (⟨Zc,Zg⟩:Zs)=YD;simp_all;done)|(refine .inr ?_;show (⟨Zc,Zg⟩:Zs)=Xy (ZO.tb ⟨⟨Za,Zd⟩,⟨Zc,Zg⟩,⟨Zk,Zj,Zh⟩,⟨Zf,Ze,Zb⟩⟩);rw [hfi];simp_all;done),rfl⟩)
     obtain ⟨M9,j1,j2,j3⟩:=OSl.frz (H:=H) hOA (hw.c)
     refine ⟨_,M9,rfl,j1,j2,⟨oA_a,oA_c,oA_l⟩,?_,?_,j3,fun y hy=>?_⟩
     ·rw [h3] <;> rfl
     ·rw [h3]
      show sndl oA_l=_
      rw [hlA];rfl
     ·simp only at hy
      rw [hlA] at hy
      have k8:=Yj.h0.mono j1
      simp only [List.mem_append,List.mem_cons,List.not_mem_nil,or_false] at hy
      subst hy
      exact ⟨⟨SlK.nil,k8⟩⟩
   ·iterate 7 refine Stp ?_
    refine Zi F.foff166_0 ?_;refine Zi F.foff44_0 ?_;refine Zi F.foff41_1 ?_;refine Zy F.lay38 ?_
    refine Yz F.zero38 ?_;intro b15
    refine Ya F.lay38 ?_
    iterate 3 refine Stp ?_
    refine Yg (l:=[0,1,2,3,4,5,6,7,8,9,10,11,12]) #[0,0,3,7,15,15,47,111,239,495,1007,2047,4095] _ rfl jI jI St.drawn (fun _ h=>h) ?_;refine Zy F.lay38 ?_;refine X_fs rfl rfl F.ok78 rfl (Vp _) rfl ?_
    rintro _ rfl
    refine XI 52 rfl (show _=aggV [.one (.int .i64 (-1)),Yb 0] from rfl) ?_
    refine VE (m:=20) rfl rfl rfl rfl rfl jG jG F.lay38 F.kinds38 rfl F.guard38 jS jS rfl rfl rfl ?_;intro c16 he17
    replace he17:c16=true↔¬(Segs.cells _=Segs.cells _):=he17
    obtain rfl:=neD he17 (Zs.inj (x:=⟨_,_⟩) (y:=⟨_,_⟩));clear he17
    refine Yk ?_
    refine Yt 54 rfl (eT fun hc18=>?_) (eF fun hc18=>?_)
    ·refine Zy F.lay38 ?_
     iterate 2 refine Stp ?_
     refine Zi F.foff166_0 ?_;refine Zi F.foff44_0 ?_;refine Zy F.lay41 ?_;refine X_fs rfl rfl F.ok99 rfl (First_ok _ ⟨⟨Za,Zd⟩,⟨Zc,Zg⟩,⟨Zk,Zj,Zh⟩,⟨Zf,Ze,Zb⟩⟩ Yj) rfl ?_
     rintro _ rfl
     rw [hfi]
     refine VE (m:=20) rfl rfl rfl rfl rfl jG jG F.lay38 F.kinds38 rfl F.guard38 jS (by exact XE _) rfl rfl rfl ?_;intro c19 he20
     replace he20:c19=true↔¬(Segs.cells _=Segs.cells _):=he20
     obtain rfl:=neD he20 (Zs.inj (x:=⟨_,_⟩) (y:=⟨_,_⟩));clear he20
     iterate 3 refine Stp ?_
     refine ZW rfl (eT fun hc21=>?_) (eF fun hc21=>?_)
     ·refine YB (l:=[0,1,2,3,4]) [4] rfl ?_
      refine Yk ?_;refine Zi F.foff38_0 ?_;refine Zy F.lay3 ?_;refine Zy F.lay128 ?_;refine XN rfl rfl rfl F.ok103 rfl (send_ok M bw Za Zd Zc Zg Zk Zf s_a Zj Ze s_c Zh Zb Zl Zr Zq ZD Zx ZM Zz Zv Zt Zn Zw Zm Zu ZC ZE none 0 [] [] OSl.nil jU Zc ⟨8,⟨0,0⟩,0,0,⟨none,0,[]⟩,false,⟨Zc,Zg⟩,⟨Zk,Zj,Zh⟩⟩) jA (ZT rfl) ?_
      rintro _ M1 hsB hm1 ⟨hM1,rfl,⟨oB_a,oB_c,oB_l⟩,hoB,rfl,hOB,hlB⟩;subst M1
      simp only at hlB hOB
      simp only [List.nil_append] at hlB
      simp only [List.append_assoc,List.cons_append,List.nil_append]
      refine Xb (Xu ?_)
      iterate 5 refine Stp ?_
      refine Zi F.foff166_1 ?_;refine Zy F.lay121 ?_
      iterate 5 refine Stp ?_
      refine ZV (.inr rfl) (.tmp rfl (.tmp rfl .nil)) (fun w hw=>?_)
      have h3:=leave_is (n:=ZJ.nd ⟨⟨⟨Za,Zd⟩,⟨Zc,Zg⟩,⟨Zk,Zj,Zh⟩,⟨Zf,Ze,Zb⟩⟩,Zr,Zq,ZD,Zx,ZM,Zz,Zv,Zt,Zn,Zw,Zm,Zu,⟨Zp,Zo,Zl⟩,ZC,ZE⟩) (a:=[]) (b:=[Ym.snd (⟨Zc,(⟨8,⟨Za,Zd⟩,0,0,⟨none,0,[]⟩,false,⟨Zc,Zg⟩,⟨Zk,Zj,Zh⟩⟩:ZF)⟩:Ym)]) hnd9 (.inl ⟨first_eq (t:=ZO.tb ⟨⟨Za,Zd⟩,⟨Zc,Zg⟩,⟨Zk,Zj,Zh⟩,⟨Zf,Ze,Zb⟩⟩) htb9 zO,rfl⟩) (.inr ⟨⟨show (⟨Zc,Zg⟩:Zs)≠YD by first|assumption|(simp_all;done),show (⟨Zc,Zg⟩:Zs)≠Xy (ZO.tb ⟨⟨Za,Zd⟩,⟨Zc,Zg⟩,⟨Zk,Zj,Zh⟩,⟨Zf,Ze,Zb⟩⟩) from by rw [hfi];first|assumption|(simp_all;done)⟩,rfl⟩)
      obtain ⟨M9,j1,j2,j3⟩:=OSl.frz (H:=H) hOB (hw.c)
      refine ⟨_,M9,rfl,j1,j2,⟨oB_a,oB_c,oB_l⟩,?_,?_,j3,fun y hy=>?_⟩
      ·rw [h3] <;> rfl
      ·rw [h3]
       show sndl oB_l=_
       rw [hlB];rfl
      ·simp only at hy
       rw [hlB] at hy
       have k8:=Yj.h0.mono j1
       simp only [List.mem_append,List.mem_cons,List.not_mem_nil,or_false] at hy
       subst hy
       exact ⟨⟨SlK.nil,k8⟩⟩
     ·iterate 6 refine Stp ?_
      refine Zi F.foff166_1 ?_;refine Zy F.lay121 ?_
      iterate 5 refine Stp ?_
      refine ZV (.inr rfl) (.tmp rfl (.tmp rfl .nil)) (fun w hw=>?_)
      have h3:=leave_is (n:=ZJ.nd ⟨⟨⟨Za,Zd⟩,⟨Zc,Zg⟩,⟨Zk,Zj,Zh⟩,⟨Zf,Ze,Zb⟩⟩,Zr,Zq,ZD,Zx,ZM,Zz,Zv,Zt,Zn,Zw,Zm,Zu,⟨Zp,Zo,Zl⟩,ZC,ZE⟩) (a:=[]) (b:=[]) hnd9 (.inl ⟨first_eq (t:=ZO.tb ⟨⟨Za,Zd⟩,⟨Zc,Zg⟩,⟨Zk,Zj,Zh⟩,⟨Zf,Ze,Zb⟩⟩) htb9 zO,rfl⟩) (.inl ⟨by first|(refine .inl ?_;show (⟨Zc,Zg⟩:Zs)=YD;assumption)|(refine .inr ?_;show (⟨Zc,Zg⟩:Zs)=Xy (ZO.tb ⟨⟨Za,Zd⟩,⟨Zc,Zg⟩,⟨Zk,Zj,Zh⟩,⟨Zf,Ze,Zb⟩⟩);rw [hfi];assumption)|(refine .inl ?_;show (⟨Zc,Zg⟩:Zs)=YD;simp_all;done)|(refine .inr ?_;show (⟨Zc,Zg⟩:Zs)=Xy (ZO.tb ⟨⟨Za,Zd⟩,⟨Zc,Zg⟩,⟨Zk,Zj,Zh⟩,⟨Zf,Ze,Zb⟩⟩);rw [hfi];simp_all;done),rfl⟩)
      exact ⟨_,M,rfl,Mem.le.refl M,hw.c,⟨none,0,[]⟩,by rw [h3] <;> rfl,by rw [h3] <;> rfl,SlK.nil,fun y hy=>by cases hy⟩
    ·iterate 18 refine Stp ?_
     refine Zi F.foff166_1 ?_;refine Zy F.lay121 ?_
     iterate 5 refine Stp ?_
     refine ZV (.inr rfl) (.tmp rfl (.tmp rfl .nil)) (fun w hw=>?_)
     have h3:=leave_is (n:=ZJ.nd ⟨⟨⟨Za,Zd⟩,⟨Zc,Zg⟩,⟨Zk,Zj,Zh⟩,⟨Zf,Ze,Zb⟩⟩,Zr,Zq,ZD,Zx,ZM,Zz,Zv,Zt,Zn,Zw,Zm,Zu,⟨Zp,Zo,Zl⟩,ZC,ZE⟩) (a:=[]) (b:=[]) hnd9 (.inl ⟨first_eq (t:=ZO.tb ⟨⟨Za,Zd⟩,⟨Zc,Zg⟩,⟨Zk,Zj,Zh⟩,⟨Zf,Ze,Zb⟩⟩) htb9 zO,rfl⟩) (.inl ⟨by first|(refine .inl ?_;show (⟨Zc,Zg⟩:Zs)=YD;assumption)|(refine .inr ?_;show (⟨Zc,Zg⟩:Zs)=Xy (ZO.tb ⟨⟨Za,Zd⟩,⟨Zc,Zg⟩,⟨Zk,Zj,Zh⟩,⟨Zf,Ze,Zb⟩⟩);rw [hfi];assumption)|(refine .inl ?_;show (⟨Zc,Zg⟩:Zs)=YD;simp_all;done)|(refine .inr ?_;show (⟨Zc,Zg⟩:Zs)=Xy (ZO.tb ⟨⟨Za,Zd⟩,⟨Zc,Zg⟩,⟨Zk,Zj,Zh⟩,⟨Zf,Ze,Zb⟩⟩);rw [hfi];simp_all;done),rfl⟩)
     exact ⟨_,M,rfl,Mem.le.refl M,hw.c,⟨none,0,[]⟩,by rw [h3] <;> rfl,by rw [h3] <;> rfl,SlK.nil,fun y hy=>by cases hy⟩
theorem Alone_ok (M:Mem) (self:Zs) (r:Int):Esp.Fn Tryz.prog 63 [self.enc,.int .i64 r] M (fun M' v=>NeE M' v (Uw self r)):=by
  obtain ⟨self_addr,self_id⟩:=self
  refine WF Tryz.func63 rfl Tryz.ntmps63 rfl ?_;intro H
  iterate 2 refine Stp ?_
  refine Xq ?_;intro b1
  refine Yz F.zero44 ?_;intro b2
  iterate 5 refine Stp ?_
  refine Zy F.lay38 ?_;refine X_fn rfl rfl F.ok87 rfl (New_ok _ ⟨self_addr,self_id⟩) rfl ?_
  rintro _ M1 hm1 ⟨_,rfl,⟨⟨oa,oi⟩,⟨oq,oj⟩,⟨o1a,o1c,o1l⟩,⟨o2a,o2c,o2l⟩⟩,rfl,hot,okt⟩
  have hne:=new_ok (s:=⟨self_addr,self_id⟩)
  obtain ⟨ne,hnv⟩:∃ x,(newT ⟨self_addr,self_id⟩).2=x:=⟨_,rfl⟩
  rw [hnv] at hne ⊢
  iterate 3 refine Stp ?_
  refine Yz F.zero41 ?_;intro b3
  refine Ya F.lay41 ?_
  iterate 9 refine Stp ?_
  refine Yt 15 rfl (eT fun hc4=>?_) (eF fun hc4=>?_)
  ·iterate 12 refine Stp ?_
   refine Xo rfl rfl F.bld44 (.nil) rfl rfl ?_;refine Wf F.lay44 ?_
   iterate 5 refine Stp ?_
   refine ZV (.inr rfl) (.cell rfl jB F.lay44 rfl rfl (.tmp rfl .nil)) (fun w hw=>?_)
   refine ⟨_,M1,rfl,hm1,hw.c,ZJ.zero,?_,?_,ZJ.zero_ok _⟩
   ·rw [alone_no zH];rfl
   ·rw [alone_no zH];rfl
  ·iterate 4 refine Stp ?_
   refine Yt 19 rfl (cT fun hc5=>?_) (cF fun hc5=>?_)
   ·iterate 8 refine Stp ?_
    refine Xo rfl rfl F.bld44 (.nil) rfl rfl ?_;refine Wf F.lay44 ?_
    iterate 5 refine Stp ?_
    refine ZV (.inr rfl) (.cell rfl jB F.lay44 rfl rfl (.tmp rfl .nil)) (fun w hw=>?_)
    refine ⟨_,M1,rfl,hm1,hw.c,ZJ.zero,?_,?_,ZJ.zero_ok _⟩
    ·rw [alone_no zH];rfl
    ·rw [alone_no zH];rfl
   ·iterate 5 refine Stp ?_
    refine ZW rfl (cT fun hc6=>?_) (cF fun hc6=>?_)
    ·iterate 2 refine Stp ?_
     refine Xo rfl rfl F.bld44 (.nil) rfl rfl ?_;refine Wf F.lay44 ?_
     iterate 5 refine Stp ?_
     refine ZV (.inr rfl) (.cell rfl jB F.lay44 rfl rfl (.tmp rfl .nil)) (fun w hw=>?_)
     refine ⟨_,M1,rfl,hm1,hw.c,ZJ.zero,?_,?_,ZJ.zero_ok _⟩
     ·rw [alone_no zH];rfl
     ·rw [alone_no zH];rfl
    ·iterate 4 refine Stp ?_
     refine Zy F.lay41 ?_;refine Yk ?_;refine Xo rfl rfl F.bld44 (.cons rfl jG (.cons rfl jG (.cons rfl jG (.cons rfl jG (.cons rfl jG (.cons rfl jG (.cons rfl jG .nil))))))) rfl rfl ?_;refine Wf F.lay44 ?_
     iterate 4 refine Stp ?_
     refine ZV (.inr rfl) (.cell rfl jB F.lay44 rfl rfl (.tmp rfl .nil)) (fun w hw=>?_)
     have h3:=alone_is (s:=⟨self_addr,self_id⟩) (r:=r) ⟨hne.1 jC,by omega,by omega⟩
     rw [show (newT ⟨self_addr,self_id⟩).1=_ from hot.symm] at h3
     exact ⟨_,M1,rfl,hm1,hw.c,⟨⟨⟨oa,oi⟩,⟨oq,oj⟩,⟨o1a,o1c,o1l⟩,⟨o2a,o2c,o2l⟩⟩,r,true,-1,0,0,-1,0,-1,0,-1,0,0,⟨none,0,[]⟩,0,0⟩,by rw [h3];rfl,by rw [h3];rfl,⟨okt,SlK.nil⟩⟩
theorem Joining_ok (M:Mem) (self:Zs) (r:Int) (boot:Int):Esp.Fn Tryz.prog 65 [self.enc,.int .i64 r,.int .i64 boot] M (fun M' v=>NeE M' v (UT self r boot)):=by
  obtain ⟨self_addr,self_id⟩:=self
  refine WF Tryz.func65 rfl Tryz.ntmps65 rfl ?_;intro H
  iterate 2 refine Stp ?_
  refine Xq ?_;intro b1
  refine Yz F.zero44 ?_;intro b2
  iterate 5 refine Stp ?_
  refine Zy F.lay38 ?_;refine Yk ?_;refine X_fn rfl rfl F.ok63 rfl (Alone_ok _ ⟨self_addr,self_id⟩ r) rfl ?_
  rintro _ M1 hm1 ⟨⟨⟨⟨YJ,YP⟩,⟨YK,YQ⟩,⟨YW,YV,YU⟩,⟨YN,YM,YL⟩⟩,Wm,Wr,Vn,Wl,Ua,WH,Wn,Wi,XR,Wj,XS,Wk,⟨XV,XU,XT⟩,Vj,Vi⟩,rfl,hv1,okv⟩
  obtain ⟨ae,hae⟩:∃ x,(Uw ⟨self_addr,self_id⟩ r).2=x:=⟨_,rfl⟩
  rw [hae]
  iterate 3 refine Stp ?_
  refine Yz F.zero44 ?_;intro b3
  refine Wf F.lay44 ?_
  iterate 9 refine Stp ?_
  refine Yt 18 rfl (eT fun hc4=>?_) (eF fun hc4=>?_)
  ·iterate 18 refine Stp ?_
   refine Xo rfl rfl F.bld44 (.nil) rfl rfl ?_;refine Wf F.lay44 ?_
   iterate 5 refine Stp ?_
   refine ZV (.inr rfl) (.cell rfl jB F.lay44 rfl rfl (.tmp rfl .nil)) (fun w hw=>?_)
   refine ⟨_,M1,rfl,hm1,hw.c,ZJ.zero,?_,?_,ZJ.zero_ok _⟩
   ·rw [joining_no jW];rfl
   ·rw [joining_no jW];rfl
  ·iterate 4 refine Stp ?_
   refine Yt 22 rfl (cT fun hc5=>?_) (cF fun hc5=>?_)
   ·iterate 14 refine Stp ?_
    refine Xo rfl rfl F.bld44 (.nil) rfl rfl ?_;refine Wf F.lay44 ?_
    iterate 5 refine Stp ?_
    refine ZV (.inr rfl) (.cell rfl jB F.lay44 rfl rfl (.tmp rfl .nil)) (fun w hw=>?_)
    refine ⟨_,M1,rfl,hm1,hw.c,ZJ.zero,?_,?_,ZJ.zero_ok _⟩
    ·rw [joining_no jW];rfl
    ·rw [joining_no jW];rfl
   ·iterate 4 refine Stp ?_
    refine Yt 26 rfl (cT fun hc6=>?_) (cF fun hc6=>?_)
    ·iterate 10 refine Stp ?_
     refine Xo rfl rfl F.bld44 (.nil) rfl rfl ?_;refine Wf F.lay44 ?_
     iterate 5 refine Stp ?_
     refine ZV (.inr rfl) (.cell rfl jB F.lay44 rfl rfl (.tmp rfl .nil)) (fun w hw=>?_)
     refine ⟨_,M1,rfl,hm1,hw.c,ZJ.zero,?_,?_,ZJ.zero_ok _⟩
     ·rw [joining_no jW];rfl
     ·rw [joining_no jW];rfl
    ·refine Yk ?_
     refine Zi F.foff38_0 ?_;refine Zy F.lay3 ?_
     iterate 4 refine Stp ?_
     refine ZW rfl (cT fun hc7=>?_) (cF fun hc7=>?_)
     ·iterate 2 refine Stp ?_
      refine Xo rfl rfl F.bld44 (.nil) rfl rfl ?_;refine Wf F.lay44 ?_
      iterate 5 refine Stp ?_
      refine ZV (.inr rfl) (.cell rfl jB F.lay44 rfl rfl (.tmp rfl .nil)) (fun w hw=>?_)
      refine ⟨_,M1,rfl,hm1,hw.c,ZJ.zero,?_,?_,ZJ.zero_ok _⟩
      ·rw [joining_no jW];rfl
      ·rw [joining_no jW];rfl
     ·iterate 5 refine Stp ?_
      refine Zi F.foff44_2 ?_;refine Ya F.lay4 ?_;refine Zi F.foff44_3 ?_;refine Ya F.lay3 ?_
      iterate 4 refine Stp ?_
      refine Zy F.lay44 ?_;refine Wf F.lay44 ?_
      iterate 4 refine Stp ?_
      refine ZV (.inr rfl) (.cell rfl jB F.lay44 rfl rfl (.tmp rfl .nil)) (fun w hw=>?_)
      have h3:=joining_is (s:=⟨self_addr,self_id⟩) (r:=r) (b:=boot) ⟨by rw [hae];omega,⟨by omega,by omega⟩,by show boot≠self_addr;omega⟩
      rw [← hv1] at h3
      exact ⟨_,M1,rfl,hm1,hw.c,⟨⟨⟨YJ,YP⟩,⟨YK,YQ⟩,⟨YW,YV,YU⟩,⟨YN,YM,YL⟩⟩,Wm,false,boot,Wl,Ua,WH,Wn,Wi,XR,Wj,XS,Wk,⟨XV,XU,XT⟩,Vj,Vi⟩,by rw [h3];rfl,by rw [h3];rfl,⟨okv.h0,okv.h1⟩⟩
theorem F.elem202:slOf Tryz.prog 202=some (5,1,1):=by kernel_rfl
theorem F.ok135:okFn Tryz.prog 135=true:=by kernel_rfl
theorem F.zero5:XW Tryz.prog 5=some ((.int .u8 0)):=by kernel_rfl
def len8T:ByteArray:=⟨#[0,1,2,2,3,3,3,3,4,4,4,4,4,4,4,4,5,5,5,5,5,5,5,5,5,5,5,5,5,5,5,5,6,6,6,6,6,6,6,6,6,6,6,6,6,6,6,6,6,6,6,6,6,6,6,6,6,6,6,6,6,6,6,6,7,7,7,7,7,7,7,7,7,7,7,7,7,7,7,7,7,7,7,7,7,7,7,7,7,7,7,7,7,7,7,7,7,7,7,7,7,7,7,7,7,7,7,7,7,7,7,7,7,7,7,7,7,7,7,7,7,7,7,7,7,7,7,7,8,8,8,8,8,8,8,8,8,8,8,8,8,8,8,8,8,8,8,8,8,8,8,8,8,8,8,8,8,8,8,8,8,8,8,8,8,8,8,8,8,8,8,8,8,8,8,8,8,8,8,8,8,8,8,8,8,8,8,8,8,8,8,8,8,8,8,8,8,8,8,8,8,8,8,8,8,8,8,8,8,8,8,8,8,8,8,8,8,8,8,8,8,8,8,8,8,8,8,8,8,8,8,8,8,8,8,8,8,8,8,8,8,8,8,8,8,8,8,8,8,8,8,8,8,8,8,8]⟩
theorem len8_all:∀ k<256,(XY len8T).getD k 0=bitL k:=by decide +kernel
theorem Len64_ok (M:Mem) (v:Nat) (hv:v<18446744073709551616):Fs Tryz.prog 135 [.int .u64 (v:Int)] M (fun r=>r=.int .i64 ((bitL v:Nat):Int)):=by
  refine Xe Tryz.func135 rfl Tryz.ntmps135 rfl ?_;intro H
  iterate 12 refine Stp ?_
  refine ZW rfl (cT fun hc1=>?_) (cF fun hc1=>?_)
  ·iterate 3 refine Stp ?_
   refine Vt rfl rfl rfl rfl jJ (VY 32 jJ) rfl rfl ?_;refine VO ?_;refine XI 0 rfl (show _=Value.int .u64 ((((v / 4294967296):Nat):Int)) from congrArg _ jC) ?_
   iterate 13 refine Stp ?_
   refine ZW rfl (cT fun hc2=>?_) (cF fun hc2=>?_)
   ·iterate 3 refine Stp ?_
    refine Vt rfl rfl rfl rfl jJ (VY 16 jJ) rfl rfl ?_;refine VO ?_;refine XI 0 rfl (show _=Value.int .u64 (((((v / 4294967296) / 65536):Nat):Int)) from congrArg _ jC) ?_
    iterate 4 refine Stp ?_
    refine YO rfl rfl rfl rfl rfl yA rfl ?_
    iterate 10 refine Stp ?_
    refine ZW rfl (cT fun hc3=>?_) (cF fun hc3=>?_)
    ·iterate 3 refine Stp ?_
     refine Vt rfl rfl rfl rfl jJ (VY 8 jJ) rfl rfl ?_;refine VO ?_;refine XI 0 rfl (show _=Value.int .u64 ((((((v / 4294967296) / 65536) / 256):Nat):Int)) from congrArg _ jC) ?_
     iterate 4 refine Stp ?_
     refine YO rfl rfl rfl rfl rfl yA rfl ?_
     iterate 7 refine Stp ?_
     have hb9:=bitL_le (n:=(((v / 4294967296) / 65536) / 256)) (k:=8) zB
     refine Wz rfl rfl rfl Tryz.underlying42 Tryz.underlying5 yN rfl ?_;refine XI 21 rfl (show _=Value.int .u8 ((((((v / 4294967296) / 65536) / 256):Nat):Int)) from congrArg _ jR) ?_;refine Vs (k:=(((v / 4294967296) / 65536) / 256)) (s:=len8T) rfl rfl rfl rfl Tryz.underlying9 jR zB (show _=Value.int .u8 ((bitL (((v / 4294967296) / 65536) / 256):Nat):Int) from by rw [len8_all _ jC]) rfl ?_;refine Wz rfl rfl rfl Tryz.underlying5 Tryz.underlying3 yA rfl ?_;refine YO rfl rfl rfl rfl rfl yA rfl ?_
     iterate 4 refine Stp ?_
     refine ZV (.inr rfl) (.tmp rfl .nil) (fun w hw=>?_)
     refine ⟨_,rfl,hw.c,congrArg (Value.int .i64) ?_⟩
     have e32:=UI (n:=v) (k:=32) (by show 4294967296≤_;omega)
     rw [show (2:Nat) ^ 32=4294967296 from rfl] at e32
     have e16:=UI (n:=(v / 4294967296)) (k:=16) (by show 65536≤_;omega)
     rw [show (2:Nat) ^ 16=65536 from rfl] at e16
     have e8:=UI (n:=((v / 4294967296) / 65536)) (k:=8) (by show 256≤_;omega)
     rw [show (2:Nat) ^ 8=256 from rfl] at e8
     omega
    ·iterate 6 refine Stp ?_
     have hb9:=bitL_le (n:=((v / 4294967296) / 65536)) (k:=8) zB
     refine Wz rfl rfl rfl Tryz.underlying42 Tryz.underlying5 yN rfl ?_;refine XI 21 rfl (show _=Value.int .u8 (((((v / 4294967296) / 65536):Nat):Int)) from congrArg _ jR) ?_;refine Vs (k:=((v / 4294967296) / 65536)) (s:=len8T) rfl rfl rfl rfl Tryz.underlying9 jR zB (show _=Value.int .u8 ((bitL ((v / 4294967296) / 65536):Nat):Int) from by rw [len8_all _ jC]) rfl ?_;refine Wz rfl rfl rfl Tryz.underlying5 Tryz.underlying3 yA rfl ?_;refine YO rfl rfl rfl rfl rfl yA rfl ?_
     iterate 4 refine Stp ?_
     refine ZV (.inr rfl) (.tmp rfl .nil) (fun w hw=>?_)
     refine ⟨_,rfl,hw.c,congrArg (Value.int .i64) ?_⟩
     have e32:=UI (n:=v) (k:=32) (by show 4294967296≤_;omega)
     rw [show (2:Nat) ^ 32=4294967296 from rfl] at e32
     have e16:=UI (n:=(v / 4294967296)) (k:=16) (by show 65536≤_;omega)
     rw [show (2:Nat) ^ 16=65536 from rfl] at e16
     omega
   ·iterate 9 refine Stp ?_
    refine ZW rfl (cT fun hc4=>?_) (cF fun hc4=>?_)
    ·iterate 3 refine Stp ?_
     refine Vt rfl rfl rfl rfl jJ (VY 8 jJ) rfl rfl ?_;refine VO ?_;refine XI 0 rfl (show _=Value.int .u64 (((((v / 4294967296) / 256):Nat):Int)) from congrArg _ jC) ?_
     iterate 4 refine Stp ?_
     refine YO rfl rfl rfl rfl rfl yA rfl ?_
     iterate 7 refine Stp ?_
     have hb9:=bitL_le (n:=((v / 4294967296) / 256)) (k:=8) zB
     refine Wz rfl rfl rfl Tryz.underlying42 Tryz.underlying5 yN rfl ?_;refine XI 21 rfl (show _=Value.int .u8 (((((v / 4294967296) / 256):Nat):Int)) from congrArg _ jR) ?_;refine Vs (k:=((v / 4294967296) / 256)) (s:=len8T) rfl rfl rfl rfl Tryz.underlying9 jR zB (show _=Value.int .u8 ((bitL ((v / 4294967296) / 256):Nat):Int) from by rw [len8_all _ jC]) rfl ?_;refine Wz rfl rfl rfl Tryz.underlying5 Tryz.underlying3 yA rfl ?_;refine YO rfl rfl rfl rfl rfl yA rfl ?_
     iterate 4 refine Stp ?_
     refine ZV (.inr rfl) (.tmp rfl .nil) (fun w hw=>?_)
     refine ⟨_,rfl,hw.c,congrArg (Value.int .i64) ?_⟩
     have e32:=UI (n:=v) (k:=32) (by show 4294967296≤_;omega)
     rw [show (2:Nat) ^ 32=4294967296 from rfl] at e32
     have e8:=UI (n:=(v / 4294967296)) (k:=8) (by show 256≤_;omega)
     rw [show (2:Nat) ^ 8=256 from rfl] at e8
     omega
    ·iterate 6 refine Stp ?_
     have hb9:=bitL_le (n:=(v / 4294967296)) (k:=8) zB
     refine Wz rfl rfl rfl Tryz.underlying42 Tryz.underlying5 yN rfl ?_;refine XI 21 rfl (show _=Value.int .u8 ((((v / 4294967296):Nat):Int)) from congrArg _ jR) ?_;refine Vs (k:=(v / 4294967296)) (s:=len8T) rfl rfl rfl rfl Tryz.underlying9 jR zB (show _=Value.int .u8 ((bitL (v / 4294967296):Nat):Int) from by rw [len8_all _ jC]) rfl ?_;refine Wz rfl rfl rfl Tryz.underlying5 Tryz.underlying3 yA rfl ?_;refine YO rfl rfl rfl rfl rfl yA rfl ?_
     iterate 4 refine Stp ?_
     refine ZV (.inr rfl) (.tmp rfl .nil) (fun w hw=>?_)
     refine ⟨_,rfl,hw.c,congrArg (Value.int .i64) ?_⟩
     have e32:=UI (n:=v) (k:=32) (by show 4294967296≤_;omega)
     rw [show (2:Nat) ^ 32=4294967296 from rfl] at e32
     omega
  ·iterate 9 refine Stp ?_
   refine ZW rfl (cT fun hc5=>?_) (cF fun hc5=>?_)
   ·iterate 3 refine Stp ?_
    refine Vt rfl rfl rfl rfl jJ (VY 16 jJ) rfl rfl ?_;refine VO ?_;refine XI 0 rfl (show _=Value.int .u64 ((((v / 65536):Nat):Int)) from congrArg _ jC) ?_
    iterate 4 refine Stp ?_
    refine YO rfl rfl rfl rfl rfl yA rfl ?_
    iterate 10 refine Stp ?_
    refine ZW rfl (cT fun hc6=>?_) (cF fun hc6=>?_)
    ·iterate 3 refine Stp ?_
     refine Vt rfl rfl rfl rfl jJ (VY 8 jJ) rfl rfl ?_;refine VO ?_;refine XI 0 rfl (show _=Value.int .u64 (((((v / 65536) / 256):Nat):Int)) from congrArg _ jC) ?_
     iterate 4 refine Stp ?_
     refine YO rfl rfl rfl rfl rfl yA rfl ?_
     iterate 7 refine Stp ?_
     have hb9:=bitL_le (n:=((v / 65536) / 256)) (k:=8) zB
     refine Wz rfl rfl rfl Tryz.underlying42 Tryz.underlying5 yN rfl ?_;refine XI 21 rfl (show _=Value.int .u8 (((((v / 65536) / 256):Nat):Int)) from congrArg _ jR) ?_;refine Vs (k:=((v / 65536) / 256)) (s:=len8T) rfl rfl rfl rfl Tryz.underlying9 jR zB (show _=Value.int .u8 ((bitL ((v / 65536) / 256):Nat):Int) from by rw [len8_all _ jC]) rfl ?_;refine Wz rfl rfl rfl Tryz.underlying5 Tryz.underlying3 yA rfl ?_;refine YO rfl rfl rfl rfl rfl yA rfl ?_
     iterate 4 refine Stp ?_
     refine ZV (.inr rfl) (.tmp rfl .nil) (fun w hw=>?_)
     refine ⟨_,rfl,hw.c,congrArg (Value.int .i64) ?_⟩
     have e16:=UI (n:=v) (k:=16) (by show 65536≤_;omega)
     rw [show (2:Nat) ^ 16=65536 from rfl] at e16
     have e8:=UI (n:=(v / 65536)) (k:=8) (by show 256≤_;omega)
     rw [show (2:Nat) ^ 8=256 from rfl] at e8
     omega
    ·iterate 6 refine Stp ?_
     have hb9:=bitL_le (n:=(v / 65536)) (k:=8) zB
     refine Wz rfl rfl rfl Tryz.underlying42 Tryz.underlying5 yN rfl ?_;refine XI 21 rfl (show _=Value.int .u8 ((((v / 65536):Nat):Int)) from congrArg _ jR) ?_;refine Vs (k:=(v / 65536)) (s:=len8T) rfl rfl rfl rfl Tryz.underlying9 jR zB (show _=Value.int .u8 ((bitL (v / 65536):Nat):Int) from by rw [len8_all _ jC]) rfl ?_;refine Wz rfl rfl rfl Tryz.underlying5 Tryz.underlying3 yA rfl ?_;refine YO rfl rfl rfl rfl rfl yA rfl ?_
     iterate 4 refine Stp ?_
     refine ZV (.inr rfl) (.tmp rfl .nil) (fun w hw=>?_)
     refine ⟨_,rfl,hw.c,congrArg (Value.int .i64) ?_⟩
     have e16:=UI (n:=v) (k:=16) (by show 65536≤_;omega)
     rw [show (2:Nat) ^ 16=65536 from rfl] at e16
     omega
   ·iterate 9 refine Stp ?_
    refine ZW rfl (cT fun hc7=>?_) (cF fun hc7=>?_)
    ·iterate 3 refine Stp ?_
     refine Vt rfl rfl rfl rfl jJ (VY 8 jJ) rfl rfl ?_;refine VO ?_;refine XI 0 rfl (show _=Value.int .u64 ((((v / 256):Nat):Int)) from congrArg _ jC) ?_
     iterate 4 refine Stp ?_
     refine YO rfl rfl rfl rfl rfl yA rfl ?_
     iterate 7 refine Stp ?_
     have hb9:=bitL_le (n:=(v / 256)) (k:=8) zB
     refine Wz rfl rfl rfl Tryz.underlying42 Tryz.underlying5 yN rfl ?_;refine XI 21 rfl (show _=Value.int .u8 ((((v / 256):Nat):Int)) from congrArg _ jR) ?_;refine Vs (k:=(v / 256)) (s:=len8T) rfl rfl rfl rfl Tryz.underlying9 jR zB (show _=Value.int .u8 ((bitL (v / 256):Nat):Int) from by rw [len8_all _ jC]) rfl ?_;refine Wz rfl rfl rfl Tryz.underlying5 Tryz.underlying3 yA rfl ?_;refine YO rfl rfl rfl rfl rfl yA rfl ?_
     iterate 4 refine Stp ?_
     refine ZV (.inr rfl) (.tmp rfl .nil) (fun w hw=>?_)
     refine ⟨_,rfl,hw.c,congrArg (Value.int .i64) ?_⟩
     have e8:=UI (n:=v) (k:=8) (by show 256≤_;omega)
     rw [show (2:Nat) ^ 8=256 from rfl] at e8
     omega
    ·iterate 6 refine Stp ?_
     have hb9:=bitL_le (n:=v) (k:=8) zB
     refine Wz rfl rfl rfl Tryz.underlying42 Tryz.underlying5 yN rfl ?_;refine XI 21 rfl (show _=Value.int .u8 (((v:Nat):Int)) from congrArg _ jR) ?_;refine Vs (k:=v) (s:=len8T) rfl rfl rfl rfl Tryz.underlying9 jR zB (show _=Value.int .u8 ((bitL v:Nat):Int) from by rw [len8_all _ jC]) rfl ?_;refine Wz rfl rfl rfl Tryz.underlying5 Tryz.underlying3 yA rfl ?_;refine YO rfl rfl rfl rfl rfl yA rfl ?_
     iterate 4 refine Stp ?_
     refine ZV (.inr rfl) (.tmp rfl .nil) (fun w hw=>?_)
     refine ⟨_,rfl,hw.c,congrArg (Value.int .i64) ?_⟩
     omega
theorem byte_be (v k:Nat):w8 ((v:Int) / 2 ^ (8 * k))=((v / 256 ^ k % 256:Nat):Int):=by
  rw [show (256:Nat) ^ k=2 ^ (8 * k) by rw [show (256:Nat)=2 ^ 8 from rfl,← Nat.pow_mul]]
  unfold w8
  rw [Int.natCast_emod,Int.natCast_ediv,Int.natCast_pow]
  rfl
theorem number_ok (M:Mem) (v:Nat) (hv:v<18446744073709551616):Esp.Fn Tryz.prog 222 [.int .u64 (v:Int)] M (fun M' r=>∃ ad c,r=.slice (some ad) (lenB v+1) c∧SlM M' (some ad) ((numL v).map u8R) 1):=by
  have hl8:=lenB_le hv
  have hb8:=bitL_le (n:=v) (k:=64) hv
  refine WF Tryz.func222 rfl Tryz.ntmps222 rfl ?_;intro H
  iterate 8 refine Stp ?_
  refine X_fs rfl rfl F.ok135 rfl (Len64_ok _ _ jE) rfl ?_
  rintro _ rfl
  iterate 2 refine YO rfl rfl rfl rfl rfl yA rfl ?_
  refine X_quo rfl rfl rfl rfl jJ yU rfl ?_;refine VO ?_;refine XI 3 rfl (show _=Value.int .i64 (((lenB v:Nat):Int)) from congrArg _ (by unfold lenB;omega)) ?_
  iterate 5 refine Stp ?_
  refine Wz rfl rfl rfl Tryz.underlying3 Tryz.underlying5 yN rfl ?_
  refine YS rfl rfl F.elem202 F.zero5 rfl rfl (.cons rfl jG .nil) rfl rfl jL rfl ?_;intro b1 hob2
  iterate 7 refine Stp ?_
  refine YO rfl rfl rfl rfl rfl yA rfl ?_
  iterate 4 refine Stp ?_
  refine Y_pk [5,4,3,2,0] ?_;refine Wt (Hin:=_) (.succ (.succ .zero)) jA (fun (k:Nat) M1 h1 z=>∃ v1,M1=M∧z=[(5,.int .i64 ((lenB v:Int)-1-k)),(4,v1)]∧k≤lenB v∧OSl 5 1 v1 h1 ((lenB v::(beL (lenB v) v).take k).map u8R)) (fun k=>lenB v-k) (0) (⟨_,rfl,(by rw [show ((lenB v:Int)-1-((0:Nat):Int))=(lenB v:Int)-1 from Int.sub_zero _]),by omega,hob2⟩) ?_
  rintro k M1 h1 z hm1 ⟨v1,hM1,rfl,hk,ho⟩
  obtain rfl:=hM1.symm
  obtain ⟨ad1,cp1,rfl⟩:=ho.valL
  have hlr:(lenB v::(beL (lenB v) v).take k).length=k+1:=by rw [List.length_cons,List.length_take,Tn];omega
  have hlm:((lenB v::(beL (lenB v) v).take k).map u8R).length=k+1:=by rw [List.length_map,hlr]
  iterate 7 refine Stp ?_
  refine ZW rfl (cT fun hc3=>?_) (cF fun hc3=>?_)
  ·iterate 8 refine Stp ?_
   refine YO rfl rfl rfl rfl rfl yA rfl ?_;refine XI 23 rfl (show _=Value.int .i64 (((8 * (lenB v-1-k):Nat):Int)) from congrArg _ jC) ?_;refine Vt rfl rfl rfl rfl jC (VY (8 * (lenB v-1-k)) (by show 8 * _≤64;omega)) rfl rfl ?_;refine Wz rfl rfl rfl Tryz.underlying42 Tryz.underlying5 (by exact wrap_u8 _) rfl ?_;refine XI 25 rfl (show _=Value.int .u8 (((v / 256 ^ (lenB v-1-k) % 256:Nat):Int)) from congrArg _ (byte_be v _)) ?_
   refine YS rfl rfl F.elem202 F.zero5 rfl rfl (.cons rfl jG .nil) rfl rfl jL rfl ?_;intro b4 hob5
   refine WT (m:=1000000) rfl rfl rfl rfl rfl F.elem202 F.zero5 jR rfl jE jA (Src.own hob5.lens jO rfl jB) jN jJ rfl ?_;intro v8 hs7 ho6;obtain ⟨adv8,cpv8,rfl⟩:=ho6.val
   iterate 6 refine Stp ?_
   refine YO rfl rfl rfl rfl rfl yA rfl ?_;refine XI 19 rfl (show _=Value.int .i64 ((lenB v:Int)-1-((k+1:Nat):Int)) from congrArg _ jC) ?_
   iterate 2 refine Stp ?_
   refine Xa (a':=[(5,_),(4,_)]) (k+1) (hs7) (.cons (k:=5) rfl (.cons (k:=4) rfl (.cons (k:=3) rfl (.cons (k:=2) rfl (.cons (k:=0) rfl (.nil)))))) jP (fun w hw=>by first|exact hw|exact hw.c) ?_ ?_
   ·refine ⟨_,rfl,rfl,by omega,?_⟩
    refine ho6.as9 ?_
    rw [beL_take jC,← List.cons_append,List.map_append]
    rfl
   ·omega
  ·iterate 7 refine Stp ?_
   have hcp:=ho.caps
   obtain ⟨bq,rfl⟩:=ho.someB jC
   iterate 2 refine Stp ?_
   refine YO rfl rfl rfl rfl rfl yA rfl ?_;refine XI 30 rfl (show _=Value.int .i64 (((1+lenB v:Nat):Int)) from congrArg _ jC) ?_;refine Yk ?_;refine YO rfl rfl rfl rfl rfl yA rfl ?_;refine XI 32 rfl (show _=Value.int .i64 (((1+lenB v:Nat):Int)) from congrArg _ jC) ?_;refine WK (olo:=none) (ohi:=some (1+lenB v)) (omx:=some (1+lenB v)) rfl rfl rfl .none (.some rfl rfl) (.some rfl rfl) F.elem202 (by show 1+lenB v≤_;omega) (Nat.le_refl _) (Nat.zero_le _) (fun _=>rfl) (show WJ _ 1 0 (1+lenB v) (1+lenB v)=.slice (some ⟨bq,0,none⟩) (1+lenB v) (1+lenB v) from by rw [pieceV_at jC];rfl) rfl ?_
   iterate 4 refine Stp ?_
   refine ZV (.inr rfl) (.tmp rfl .nil) (fun w hw=>?_)
   obtain rfl:k=lenB v:=by omega
   have hw2:=hw.cnt (H':=h1++H) jF
   obtain ⟨M2,g1,g2,g3⟩:=ho.frz hw2
   have g4:=g3.h1
   rw [List.take_of_length_le (by rw [Tn];omega)] at g4
   exact ⟨_,M2,rfl,g1,g2,⟨bq,0,none⟩,1+lenB v,(by rw [Nat.add_comm 1];rfl),g4⟩
end Go.Proofs.YtglnjnacodgmaaaGreatDoor
namespace Go.Esp
section
variable {P:Program} {n:Sh} {Q:Exit→Act→World→Prop} {M M':Mem} {H H' H0:Hp} {e:Env} {S:World→Prop}
theorem TQ {α:Type} {c rest:Code} (pre:α→Env) (F:α→Prop) (S2:α→World→Prop) {e0:Env} (hp:Pick e e0)
    (h1:C P n c (Exit.then (fun a w=>∃ x,F x∧Sat n (pre x++e0) a∧S2 x w) Q) S e) (h2:∀ x,F x→C P n rest Q (S2 x) (pre x++e0)) :
    C P n c (Exit.then (rest.wpIn (Fr n.ro) 0 P Q) Q) S e:=by
  intro a w ha hw
  refine wpIn_mono (h1 a w ha hw) fun x a' w' hx=>?_
  cases x with
  | normal =>
    obtain ⟨x,hF,hs,hw2⟩:=hx
    exact h2 x hF a' w' hs hw2
  | _=>exact hx
theorem VQ {α:Type} {S':World→Prop} {pre:α→Env} {F:α→Prop} {S2:α→World→Prop} {e0 e1:Env} (x:α) (hF:F x) (hp:Pick e1 (pre x++e0)) (hS:∀ w,S' w→S2 x w) :
    K n (Exit.then (fun a w=>∃ x,F x∧Sat n (pre x++e0) a∧S2 x w) Q) .normal S' e1:=fun a w ha hw=>⟨x,hF,ha.pick hp,hS w hw⟩
section
variable {ops:Array Oper}
theorem does_callB {f : FuncId} {g : Operand} {xs : Array Operand} {ats : Array TypeId} {dst : Option Tmp} {ty : TypeId} {pos : String} {af : Array Edge} {gd : Option (Nat × Bool)} {a : Act} {w : World} {vs bs caps : List Value} {fn : Func} {K : Value → World → Prop} (hf : P.funcs[f]? = some fn) (hb : fn.body.isSome = true) (hn : (fn.name == "runtime.NumGoroutine") = false)
    (hg:a.eval g=.func (.func f) bs.toArray caps.toArray) (hv:xs.toList.map a.eval=vs) (h:Calls P f (bs++vs++caps).toArray w fun e w'=>∃ v,e=.returned v∧K v w') :
    Oper.does P ⟨dst,.call ⟨.value g,xs,ats⟩,ty,pos,af,gd⟩ a w K:=by
  unfold Oper.does
  have:(execOp a.eval ⟨dst,.call ⟨.value g,xs,ats⟩,ty,pos,af,gd⟩).run P w=.ok (.enter f (bs++vs++caps).toArray) w:=by
    simp only [execOp,resolve,hg,Deferred.ofValue,pure_bind,invoke]
    have e:bs.toArray++xs.map a.eval++caps.toArray=(bs++vs++caps).toArray:=by
      apply Array.ext'
      simp [hv]
    rw [e]
    unfold callFunc
    rw [Sem.run_bind]
    show (Result.ok P w).andThen _=_
    rw [Result.andThen_ok]
    simp only [hf,hn,Bool.false_eq_true,if_false]
    have:fn.body.isNone=false:=by cases h':fn.body <;> simp_all
    simp only [this,Bool.false_eq_true,if_false]
    rfl
  rw [this]
  exact h
theorem X_fhVB {n:Sh} {rest:List Nat} {J:World→Prop} {i:Nat} {dst:Option Tmp} {ty:TypeId} {pos:String} {af:Array Edge} {gd:Option (Nat×Bool)} {f:FuncId} {g:Operand} {xs:List Operand} {ats:Array TypeId} {vs bs caps:List Value} {Hin Hr:Hp} {R:Mem→Value→Hp→Prop} (hi:ops[i]?=some ⟨dst,.call ⟨.value g,xs.toArray,ats⟩,ty,pos,af,gd⟩) (hcl:clOf P (.call ⟨.value g,xs.toArray,ats⟩)=.eff) (hws:n.wrs.contains i=true) (hg:want ops e gd=some true)
    (hf:okFn P f=true) (hgv:ev e g=some (.func (.func f) bs.toArray caps.toArray)) (hx:evs e xs=some vs) (hc:Fh P f (bs++vs++caps) M Hin R) (hH:Rem Hin H Hr)
    (hd:∀ a v,Sat n e a→Sat n (putE dst v e) (a.put dst v))
    (hk:∀ v M' Hout,M.le M'→R M' v Hout→XD P n ops Q rest (St M' (Hout++Hr)) ⟨M',Hout++Hr⟩ (putE dst v e)):XD P n ops Q (i::rest) J ⟨M,H⟩ e:=by
  obtain ⟨fn,h1,h2,h3⟩:=VG hf
  refine X_mutW hi hcl hws hg (fun a w ha hw=>does_callB h1 h2 h3 (ha.ev hgv) zD ?_)
  exact (hc Hr w (hw.perm hH.perm)).mono fun e' w' ⟨v,M',Hout,he,hm,hs,hr⟩=>⟨v,he,⟨M',Hout++Hr⟩,_,hs,hd a v ha,hk v M' Hout hm hr⟩
end
theorem plc_cells (x:Plc):Segs.cells [Yb x]=ZZ ((plcL x).map u8R):=by
  rw [u8_cells]
  show Segs.cells [.arr 20 (idV x)]=_
  rw [arr_cells,idV_list]
  unfold plcL
  simp
theorem srcP {b:Nat} {x:Plc} {T:TypeId} (hm:(b,rowO [Yb x] T)∈H):Src M H 1 (.slice (some ⟨b,0,none⟩) 20 20) ((plcL x).map u8R):=by
  refine Src.own (E:=T) ?_ ?_ (by rw [List.length_map,plcL_len]) ?_
  · intro r hr;obtain ⟨y,_,rfl⟩:=List.mem_map.1 hr;rfl
  · intro u hu;rw [u8_cells] at hu;obtain ⟨z,-,rfl⟩:=List.mem_map.1 hu;rfl
  · rw [← plc_cells];exact hm
end
theorem none_ne {p:Zs}:(!decide (p=⟨-1,0⟩))=decide (p≠YD):=by
  show (!decide (p=YD))=_
  simp
theorem or_byte {x b:Nat} (hx:x<72057594037927936) (hb:b<256):IntKind.u64.wrap ((BitVec.ofInt IntKind.u64.bits ((x * 256:Nat):Int) ||| BitVec.ofInt IntKind.u64.bits ((b:Nat):Int)).toNat:Int)=((x * 256+b:Nat):Int):=by
  show IntKind.u64.wrap ((BitVec.ofInt 64 ((x * 256:Nat):Int) ||| BitVec.ofInt 64 ((b:Nat):Int)).toNat:Int)=_
  rw [BitVec.ofInt_natCast,BitVec.ofInt_natCast,BitVec.toNat_or,BitVec.toNat_ofNat,BitVec.toNat_ofNat,Nat.mod_eq_of_lt jC,Nat.mod_eq_of_lt jC]
  have h:=Nat.two_pow_add_eq_or_of_lt (i:=8) (b:=b) hb x
  rw [show x * 256=2 ^ 8 * x by omega,← h]
  exact XL rfl jC
theorem strN_ne {l:List Nat} (h:¬strN l=⟨#[]⟩):0<l.length:=by
  rcases l with _|⟨a,l⟩
  · exact absurd rfl h
  · simp
theorem be_next {v n k:Nat} (h:k<n):v / 256 ^ (n-k) * 256+v / 256 ^ (n-1-k) % 256=v / 256 ^ (n-(k+1)):=by
  have e1:n-k=(n-1-k)+1:=by omega
  rw [e1,Nat.pow_succ,← Nat.div_div_eq_div_mul,show n-(k+1)=n-1-k by omega]
  omega
theorem be_lt {v n k:Nat} (h:k<n) (hn:n≤8) (hv:v<18446744073709551616):v / 256 ^ (n-k)<72057594037927936:=by
  have h1:256 ^ 1≤256 ^ (n-k):=Nat.pow_le_pow_right jJ jC
  rw [Nat.pow_one] at h1
  refine Nat.div_lt_of_lt_mul ?_
  have:256 * 72057594037927936≤256 ^ (n-k) * 72057594037927936:=Nat.mul_le_mul_right _ h1
  omega
theorem plc_byteVs (x:Plc):Segs.cells [Yb x]=Uv (strN (plcL x)):=by
  rw [plc_cells,byteVs_nats,natsOf_strN (plcL_lt x),u8_cells,List.map_map]
  rfl
theorem VR {k:Int} (h:1≤k∧k≤8):∀ b:Int×Bool,b∈[((1:Int),decide (VJ k)),(2,decide (k=1)),(4,decide (k=1)),(8,decide (k=2)),(16,decide (WY k)),(32,decide (Wx k))] →
    (!decide (IntKind.i64.wrap ((BitVec.ofInt IntKind.i64.bits (VA k).1 &&& BitVec.ofInt IntKind.i64.bits b.1).toNat:Int)=0))=b.2:=by
  have h9:k=1∨k=2∨k=3∨k=4∨k=5∨k=6∨k=7∨k=8:=by omega
  rcases h9 with rfl|rfl|rfl|rfl|rfl|rfl|rfl|rfl <;> decide
end Go.Esp
namespace Go.Proofs.YtglnjnacodgmaaaGreatDoor
open Go.Esp
theorem F.foff219_0:foff Tryz.prog 219 0=some 0:=by kernel_rfl
theorem F.lay9:lay Tryz.prog 9=some (false,1):=by kernel_rfl
theorem F.ok157:okFn Tryz.prog 157=true:=by kernel_rfl
theorem F.ok159:okFn Tryz.prog 159=true:=by kernel_rfl
theorem F.ok200:okFn Tryz.prog 200=true:=by kernel_rfl
theorem F.ok222:okFn Tryz.prog 222=true:=by kernel_rfl
theorem PutNumber_ok (M:Mem) (l:List Nat) (v:Nat) (hl:l.length≤1000000) (hv:v<18446744073709551616):Fs Tryz.prog 200 [.string (strN l),.int .u64 (v:Int)] M (fun r=>r=.string (strN (l++numL v))):=by
  refine Xe Tryz.func200 rfl Tryz.ntmps200 rfl ?_;intro H
  iterate 6 refine Stp ?_
  refine YB (l:=[0,1,2,3,4,5]) [3] rfl ?_
  iterate 2 refine Stp ?_
  refine X_fn rfl rfl F.ok222 rfl (number_ok _ v hv) rfl ?_
  rintro _ M1 hm1 ⟨ad1,c1,rfl,hs1⟩
  refine X_convSA (l:=numL v) rfl rfl rfl rfl (SlM.src hs1 (fun u hu=>by rw [u8_cells] at hu;obtain ⟨z,-,rfl⟩:=List.mem_map.1 hu;rfl) (by rw [List.length_map,numL_len])) F.elem202 Tryz.underlying5 Tryz.underlying9 rfl rfl ?_;refine X_cat rfl rfl rfl rfl (by show (strN l).size+(strN (numL v)).size≤_;rw [Vr,Vr,numL_len];have:=lenB_le hv;omega) (show strN l++strN (numL v)=_ from strN_app _ _) rfl ?_
  iterate 2 refine Stp ?_
  refine Xu ?_
  iterate 2 refine Stp ?_
  refine ZV (.inr rfl) (.tmp rfl .nil) (fun w hw=>?_)
  exact ⟨_,rfl,(hw.c).lower hm1,rfl⟩
theorem PutPlace_ok (M:Mem) (l:List Nat) (x:Plc) (hl:l.length≤1000000):Fs Tryz.prog 159 [.string (strN l),aggV [Yb x]] M (fun r=>r=.string (strN (l++plcL x))):=by
  refine Xe Tryz.func159 rfl Tryz.ntmps159 rfl ?_;intro H
  iterate 2 refine Stp ?_
  refine Xq ?_;intro b1
  iterate 6 refine Stp ?_
  refine X_slice_arr rfl rfl rfl F.arr36 rfl ?_;refine X_convS (l:=plcL x) rfl rfl rfl (srcP jB) F.elem202 Tryz.underlying5 Tryz.underlying9 rfl rfl ?_;refine X_cat rfl rfl rfl rfl (by show (strN l).size+(strN (plcL x)).size≤_;rw [Vr,Vr,plcL_len];omega) (show strN l++strN (plcL x)=_ from strN_app _ _) rfl ?_
  iterate 4 refine Stp ?_
  refine ZV (.inr rfl) (.tmp rfl .nil) (fun w hw=>?_)
  exact ⟨_,rfl,hw.c,rfl⟩
theorem wnumber_ok (M:Mem) (wb:Nat) (l:List Nat) (v:Nat) (hl:l.length≤100000) (hv:v<18446744073709551616):Fh Tryz.prog 157 [.pointer (some ⟨wb,0,none⟩),.int .u64 (v:Int)] M [(wb,rowO [.one (.string (strN (l)))] 219)] (fun M' r Hout=>M'=M∧r=.tuple #[]∧Hout=[(wb,rowO [.one (.string (strN (l++numL v)))] 219)]):=by
  refine YR (fun H=>(wb,rowO [.one (.string (strN (l)))] 219)::H) (fun _=>by simp only [List.append_assoc,List.cons_append,List.nil_append]) Tryz.func157 rfl Tryz.ntmps157 rfl ?_;intro H
  iterate 4 refine Stp ?_
  refine Zi F.foff219_0 ?_;refine Zy F.lay9 ?_;refine Yk ?_;refine X_fs rfl rfl F.ok200 rfl (PutNumber_ok _ _ _ jC hv) rfl ?_
  rintro _ rfl
  refine YT ?_;refine Zi F.foff219_0 ?_;refine Ya F.lay9 ?_;refine Xb ?_
  refine ZV (.inl rfl) (.nil) (fun w hw=>?_)
  refine ⟨_,M,[(wb,rowO [.one (.string (strN (l++numL v)))] 219)],rfl,Mem.le.refl M,hw.c,rfl,rfl,rfl⟩
theorem wflag_ok (M:Mem) (wb:Nat) (l:List Nat) (c:Bool) (hl:l.length≤100000):Fh Tryz.prog 160 [.pointer (some ⟨wb,0,none⟩),.bool c] M [(wb,rowO [.one (.string (strN (l)))] 219)] (fun M' r Hout=>M'=M∧r=.tuple #[]∧Hout=[(wb,rowO [.one (.string (strN (l++Sb c)))] 219)]):=by
  refine YR (fun H=>(wb,rowO [.one (.string (strN (l)))] 219)::H) (fun _=>by simp only [List.append_assoc,List.cons_append,List.nil_append]) Tryz.func160 rfl Tryz.ntmps160 rfl ?_;intro H
  iterate 5 refine Stp ?_
  refine ZW rfl (fun hc1=>?_) (fun hc1=>?_)
  ·skip
   refine YB (l:=[0,1]) [1] rfl ?_;refine Yk ?_;refine XN rfl rfl rfl F.ok157 rfl (wnumber_ok M wb _ (1) jC jC) jA (ZT rfl) ?_
   rintro _ M1 _ hm1 ⟨hM1,rfl,rfl⟩;obtain rfl:=hM1.symm
   simp only [List.append_assoc,List.cons_append,List.nil_append]
   refine Xb (Xu ?_)
   refine ZV (.inl rfl) (.nil) (fun w hw=>?_)
   refine ⟨_,M,[(wb,rowO [.one (.string (strN (l++numL 1)))] 219)],rfl,Mem.le.refl M,hw.c,rfl,rfl,?_⟩
   unfold Sb
   rw [if_pos jE]
  ·skip
   refine YB (l:=[0,1]) [1] rfl ?_;refine Yk ?_;refine XN rfl rfl rfl F.ok157 rfl (wnumber_ok M wb _ (0) jC jC) jA (ZT rfl) ?_
   rintro _ M1 _ hm1 ⟨hM1,rfl,rfl⟩;obtain rfl:=hM1.symm
   simp only [List.append_assoc,List.cons_append,List.nil_append]
   refine Xb (Xu ?_)
   refine ZV (.inl rfl) (.nil) (fun w hw=>?_)
   refine ⟨_,M,[(wb,rowO [.one (.string (strN (l++numL 0)))] 219)],rfl,Mem.le.refl M,hw.c,rfl,rfl,?_⟩
   unfold Sb
   rw [if_neg (by (simp_all;done))]
theorem wpeer_ok (M:Mem) (wb:Nat) (l:List Nat) (p:Zs) (hl:l.length≤100000) (hp:Yo p.addr):Fh Tryz.prog 158 [.pointer (some ⟨wb,0,none⟩),p.enc] M [(wb,rowO [.one (.string (strN (l)))] 219)] (fun M' r Hout=>M'=M∧r=.tuple #[]∧Hout=[(wb,rowO [.one (.string (strN (l++Wv p)))] 219)]):=by
  obtain ⟨YI,p_id⟩:=p
  replace hp:0≤YI∧YI≤999:=hp
  have hp8:=lenB_le (v:=YI.toNat) jC
  refine YR (fun H=>(wb,rowO [.one (.string (strN (l)))] 219)::H) (fun _=>by simp only [List.append_assoc,List.cons_append,List.nil_append]) Tryz.func158 rfl Tryz.ntmps158 rfl ?_;intro H
  iterate 2 refine Stp ?_
  refine Xq ?_;intro b1
  iterate 3 refine Stp ?_
  refine YB (l:=[0,1,2,3,4]) [4] rfl ?_;refine Yk ?_;refine Zi F.foff38_0 ?_;refine Zy F.lay3 ?_;refine Wz rfl rfl rfl Tryz.underlying3 Tryz.underlying42 yE rfl ?_;refine XI 7 rfl (show _=Value.int .u64 (((YI.toNat:Nat):Int)) from congrArg _ jC) ?_;refine XN rfl rfl rfl F.ok157 rfl (wnumber_ok M wb _ (YI.toNat) jC jC) jA (ZT rfl) ?_
  rintro _ M1 _ hm1 ⟨hM1,rfl,rfl⟩;obtain rfl:=hM1.symm
  simp only [List.append_assoc,List.cons_append,List.nil_append]
  refine Xb (Xu ?_);refine Se (Yg (l:=[0,1,2,3,4,5,6,7,8,9,10]) #[0,0,2,6,14,0,32,126,255,511,1023] _ rfl jI jI St.drawn (fun _ h=>h) ?_)
  iterate 3 refine Stp ?_
  refine Zi F.foff219_0 ?_;refine Zy F.lay9 ?_;refine Zi F.foff38_1 ?_;refine Zy F.lay36 ?_;refine X_fs rfl rfl F.ok159 rfl (PutPlace_ok _ _ _ (by (simp only [List.length_append,numL_len] at *;omega))) rfl ?_
  rintro _ rfl
  refine YT ?_;refine Zi F.foff219_0 ?_;refine Ya F.lay9 ?_;refine Xb ?_
  refine ZV (.inl rfl) (.nil) (fun w hw=>?_)
  have h9:l++numL YI.toNat++plcL p_id=l++Wv ⟨YI,p_id⟩:=by unfold Wv;rw [List.append_assoc]
  rw [h9] at hw
  refine ⟨_,M,[(wb,rowO [.one (.string (strN (l++Wv ⟨YI,p_id⟩)))] 219)],rfl,Mem.le.refl M,hw.c,rfl,rfl,rfl⟩
theorem F.bld219:Bld Tryz.prog 219 [[.one (.string ⟨#[]⟩)]]:=⟨by kernel_rfl,by kernel_rfl⟩
theorem F.ok158:okFn Tryz.prog 158=true:=by kernel_rfl
theorem F.ok160:okFn Tryz.prog 160=true:=by kernel_rfl
theorem Put_ok (M:Mem) (l:ZF) (hl0:ZF.ok M l) (hI:IsLt l.lt) (hr:Ts l.req):Fs Tryz.prog 104 [l.enc] M (fun v=>v=Value.tuple (#[.string (body l.lt),.int .i64 0])):=by
  obtain ⟨ZK,⟨ZH,ZY⟩,Yd,l_id,⟨ZS,ZR,ZG⟩,ZX,⟨ZA,ZL⟩,⟨ZQ,ZP,ZB⟩⟩:=l
  have XM:SlK M (oneI .i64) 1 ⟨ZS,ZR,ZG⟩:=hl0.h0
  have s_l_avoid:SlM M ZS (ZG.map (oneI .i64)) 1:=XM.h1
  have n_l_avoid:(ZG.map (oneI .i64)).length=ZG.length:=List.length_map ..
  have m_l_avoid:ZG.length≤9223372036854775807:=XM.h2
  have c_l_avoid:ZG.length≤ZR:=XM.h3
  have YY:SlK M Zs.segs 21 ⟨ZQ,ZP,ZB⟩:=hl0.h1
  have Wq:SlM M ZQ (ZB.map Zs.segs) 21:=YY.h1
  have VS:(ZB.map Zs.segs).length=ZB.length:=List.length_map ..
  have m_l_peers:ZB.length≤9223372036854775807:=YY.h2
  have VT:ZB.length≤ZP:=YY.h3
  obtain ⟨g1,g2,g3,g4,g5,g6,g7,g8,g9,g10,g11,g12,g13,g14⟩:=hI
  simp only [ZF.lt] at g1 g2 g3 g4 g5 g6 g7 g8 g9 g10 g11 g12 g13 g14
  have hI:IsLt (ZF.lt ⟨ZK,⟨ZH,ZY⟩,Yd,l_id,⟨ZS,ZR,ZG⟩,ZX,⟨ZA,ZL⟩,⟨ZQ,ZP,ZB⟩⟩):=⟨g1,g2,g3,g4,g5,g6,g7,g8,g9,g10,g11,g12,g13,g14⟩
  obtain ⟨z0,z1,z2,z3,z4,z5,z6⟩:=bA_len hI hr
  obtain ⟨r1,r2⟩:=hr
  simp only at r1 r2
  have hk9:=Tt (v:=ZK.toNat) jC
  have hf9:=flagL_le (decide ((⟨ZA,ZL⟩:Zs)≠YD))
  refine Xe Tryz.func104 rfl Tryz.ntmps104 rfl ?_;intro H
  iterate 2 refine Stp ?_
  refine Xq ?_;intro b1
  iterate 7 refine Stp ?_
  refine Zy F.lay128 ?_;refine X_fs rfl rfl F.ok115 rfl (IsL_ok _ ⟨_,⟨_,_⟩,_,_,⟨_,_,_⟩,_,⟨_,_⟩,⟨_,_,_⟩⟩ jE) rfl ?_
  rintro _ rfl
  refine XI 12 rfl (show _=Value.bool true from congrArg Value.bool (decide_eq_true hI)) ?_
  iterate 3 refine Stp ?_
  refine ZW rfl (fun hc2=>?_) (fun hc2=>?_)
  ·skip
   (exfalso;simp [eqX] at hc2;done)
  ·skip
   iterate 4 refine Stp ?_
   refine Zi F.foff128_0 ?_;refine Zy F.lay3 ?_;refine X_fs rfl rfl F.ok112 rfl (parts_ok _ _) rfl ?_
   rintro _ rfl
   iterate 9 refine Stp ?_
   refine Xo rfl rfl F.bld219 (.nil) rfl rfl ?_
   refine Xq ?_;intro b3
   iterate 4 refine Stp ?_
   refine YB (l:=[0,1,2,3,4]) [4] rfl ?_;refine Yk ?_;refine Zi F.foff128_0 ?_;refine Zy F.lay3 ?_;refine Wz rfl rfl rfl Tryz.underlying3 Tryz.underlying42 yE rfl ?_;refine XI 25 rfl (show _=Value.int .u64 (((ZK.toNat:Nat):Int)) from congrArg _ jC) ?_;refine XN rfl rfl rfl F.ok157 rfl (wnumber_ok M _ [] (ZK.toNat) jU jC) jA (ZT rfl) ?_
   rintro _ M1 _ hm1 ⟨hM1,rfl,rfl⟩;obtain rfl:=hM1.symm
   simp only [List.cons_append]
   rw [List.nil_append]
   refine Xb (Xu ?_)
   iterate 2 refine Stp ?_
   refine YB (l:=[0,1,2,3]) [3] rfl ?_;refine Yk ?_;refine Zi F.foff128_1 ?_;refine Zy F.lay38 ?_;refine XN rfl rfl rfl F.ok158 rfl (wpeer_ok M _ (numL ZK.toNat) ⟨ZH,ZY⟩ jC g2) jA (ZT rfl) ?_
   rintro _ M1 _ hm1 ⟨hM1,rfl,rfl⟩;obtain rfl:=hM1.symm
   simp only [List.cons_append]
   rw [List.nil_append]
   refine Xb (Xu ?_)
   iterate 5 refine Stp ?_
   refine WR rfl rfl rfl rfl rfl rfl rfl ?_;refine Ti ?_;refine XI 33 rfl (show _=Value.bool (decide (VJ ZK)) from congrArg Value.bool (VR g1 (1,decide (VJ ZK)) jQ)) ?_
   iterate 2 refine Stp ?_
   refine Y_pk [33,6,4,3,2,1] ?_;refine TQ (α:=Unit) (fun _=>[]) (fun _=>True) (fun _=>St M ((b3,rowO [.one (.string (strN (bA1 (ZF.lt ⟨ZK,⟨ZH,ZY⟩,Yd,l_id,⟨ZS,ZR,ZG⟩,ZX,⟨ZA,ZL⟩,⟨ZQ,ZP,ZB⟩⟩))))] 219)::(b1,rowO (ZF.segs ⟨ZK,⟨ZH,ZY⟩,Yd,l_id,⟨ZS,ZR,ZG⟩,ZX,⟨ZA,ZL⟩,⟨ZQ,ZP,ZB⟩⟩) 128)::H)) (.cons (k:=6) rfl (.cons (k:=4) rfl (.cons (k:=3) rfl (.cons (k:=2) rfl (.cons (k:=1) rfl .nil))))) ?_ ?_
   ·skip
    refine ZW rfl (cT fun hc4=>?_) (cF fun hc4=>?_)
    ·refine YB (l:=[0,1,2,3]) [3] rfl ?_
     refine Yk ?_;refine Zi F.foff128_2 ?_;refine Zy F.lay42 ?_;refine XI 36 rfl (show _=Value.int .u64 (((Yd.toNat:Nat):Int)) from congrArg _ jC) ?_;refine XN rfl rfl rfl F.ok157 rfl (wnumber_ok M _ (bA0 (ZF.lt ⟨ZK,⟨ZH,ZY⟩,Yd,l_id,⟨ZS,ZR,ZG⟩,ZX,⟨ZA,ZL⟩,⟨ZQ,ZP,ZB⟩⟩)) (Yd.toNat) jC jC) jA (ZT rfl) ?_
     rintro _ M1 _ hm1 ⟨hM1,rfl,rfl⟩;obtain rfl:=hM1.symm
     simp only [List.cons_append]
     rw [List.nil_append]
     refine Xb (Xu ?_)
     have he9:bA1 (ZF.lt ⟨ZK,⟨ZH,ZY⟩,Yd,l_id,⟨ZS,ZR,ZG⟩,ZX,⟨ZA,ZL⟩,⟨ZQ,ZP,ZB⟩⟩)=bA0 (ZF.lt ⟨ZK,⟨ZH,ZY⟩,Yd,l_id,⟨ZS,ZR,ZG⟩,ZX,⟨ZA,ZL⟩,⟨ZQ,ZP,ZB⟩⟩)++numL Yd.toNat:=by unfold bA1;rw [if_pos jE] <;> rfl
     exact VQ (α:=Unit) (pre:=fun _=>[]) (F:=fun _=>True) (S2:=fun _=>St M ((b3,rowO [.one (.string (strN (bA1 (ZF.lt ⟨ZK,⟨ZH,ZY⟩,Yd,l_id,⟨ZS,ZR,ZG⟩,ZX,⟨ZA,ZL⟩,⟨ZQ,ZP,ZB⟩⟩))))] 219)::(b1,rowO (ZF.segs ⟨ZK,⟨ZH,ZY⟩,Yd,l_id,⟨ZS,ZR,ZG⟩,ZX,⟨ZA,ZL⟩,⟨ZQ,ZP,ZB⟩⟩) 128)::H)) (()) (trivial) (.cons (k:=6) rfl (.cons (k:=4) rfl (.cons (k:=3) rfl (.cons (k:=2) rfl (.cons (k:=1) rfl .nil))))) (fun w hw=>by show St _ _ w;rw [he9];first|exact hw|exact hw.c)
    ·refine Vy ?_
     have he9:bA1 (ZF.lt ⟨ZK,⟨ZH,ZY⟩,Yd,l_id,⟨ZS,ZR,ZG⟩,ZX,⟨ZA,ZL⟩,⟨ZQ,ZP,ZB⟩⟩)=bA0 (ZF.lt ⟨ZK,⟨ZH,ZY⟩,Yd,l_id,⟨ZS,ZR,ZG⟩,ZX,⟨ZA,ZL⟩,⟨ZQ,ZP,ZB⟩⟩):=by unfold bA1;rw [if_neg jE,List.append_nil]
     exact VQ (α:=Unit) (pre:=fun _=>[]) (F:=fun _=>True) (S2:=fun _=>St M ((b3,rowO [.one (.string (strN (bA1 (ZF.lt ⟨ZK,⟨ZH,ZY⟩,Yd,l_id,⟨ZS,ZR,ZG⟩,ZX,⟨ZA,ZL⟩,⟨ZQ,ZP,ZB⟩⟩))))] 219)::(b1,rowO (ZF.segs ⟨ZK,⟨ZH,ZY⟩,Yd,l_id,⟨ZS,ZR,ZG⟩,ZX,⟨ZA,ZL⟩,⟨ZQ,ZP,ZB⟩⟩) 128)::H)) (()) (trivial) (.cons (k:=6) rfl (.cons (k:=4) rfl (.cons (k:=3) rfl (.cons (k:=2) rfl (.cons (k:=1) rfl .nil))))) (fun w hw=>by show St _ _ w;rw [he9];first|exact hw|exact hw.c)
   ·rintro _ -
    iterate 4 refine Stp ?_
    refine WR rfl rfl rfl rfl rfl rfl rfl ?_;refine Ti ?_;refine XI 40 rfl (show _=Value.bool (decide (ZK=1)) from congrArg Value.bool (VR g1 (2,decide (ZK=1)) jQ)) ?_
    iterate 2 refine Stp ?_
    refine Y_pk [40,6,4,3,2,1] ?_;refine TQ (α:=Unit) (fun _=>[]) (fun _=>True) (fun _=>St M ((b3,rowO [.one (.string (strN (bA2 (ZF.lt ⟨ZK,⟨ZH,ZY⟩,Yd,l_id,⟨ZS,ZR,ZG⟩,ZX,⟨ZA,ZL⟩,⟨ZQ,ZP,ZB⟩⟩))))] 219)::(b1,rowO (ZF.segs ⟨ZK,⟨ZH,ZY⟩,Yd,l_id,⟨ZS,ZR,ZG⟩,ZX,⟨ZA,ZL⟩,⟨ZQ,ZP,ZB⟩⟩) 128)::H)) (.cons (k:=6) rfl (.cons (k:=4) rfl (.cons (k:=3) rfl (.cons (k:=2) rfl (.cons (k:=1) rfl .nil))))) ?_ ?_
    ·skip
     refine ZW rfl (cT fun hc5=>?_) (cF fun hc5=>?_)
     ·refine Yg (l:=[0,1,2,3,4,5,6,7,8,9,10]) #[0,0,2,6,14,0,32,126,255,511,1023] _ rfl jI jI St.drawn (fun _ h=>h) ?_
      iterate 3 refine Stp ?_
      refine Zi F.foff219_0 ?_;refine Zy F.lay9 ?_;refine Zi F.foff128_3 ?_;refine Zy F.lay36 ?_;refine X_fs rfl rfl F.ok159 rfl (PutPlace_ok _ _ _ jC) rfl ?_
      rintro _ rfl
      refine YT ?_;refine Zi F.foff219_0 ?_;refine Ya F.lay9 ?_;refine Xb ?_
      have he9:bA2 (ZF.lt ⟨ZK,⟨ZH,ZY⟩,Yd,l_id,⟨ZS,ZR,ZG⟩,ZX,⟨ZA,ZL⟩,⟨ZQ,ZP,ZB⟩⟩)=bA1 (ZF.lt ⟨ZK,⟨ZH,ZY⟩,Yd,l_id,⟨ZS,ZR,ZG⟩,ZX,⟨ZA,ZL⟩,⟨ZQ,ZP,ZB⟩⟩)++plcL l_id:=by unfold bA2;rw [if_pos jE] <;> rfl
      exact VQ (α:=Unit) (pre:=fun _=>[]) (F:=fun _=>True) (S2:=fun _=>St M ((b3,rowO [.one (.string (strN (bA2 (ZF.lt ⟨ZK,⟨ZH,ZY⟩,Yd,l_id,⟨ZS,ZR,ZG⟩,ZX,⟨ZA,ZL⟩,⟨ZQ,ZP,ZB⟩⟩))))] 219)::(b1,rowO (ZF.segs ⟨ZK,⟨ZH,ZY⟩,Yd,l_id,⟨ZS,ZR,ZG⟩,ZX,⟨ZA,ZL⟩,⟨ZQ,ZP,ZB⟩⟩) 128)::H)) (()) (trivial) (.cons (k:=6) rfl (.cons (k:=4) rfl (.cons (k:=3) rfl (.cons (k:=2) rfl (.cons (k:=1) rfl .nil))))) (fun w hw=>by show St _ _ w;rw [he9];first|exact hw|exact hw.c)
     ·refine Vy ?_
      have he9:bA2 (ZF.lt ⟨ZK,⟨ZH,ZY⟩,Yd,l_id,⟨ZS,ZR,ZG⟩,ZX,⟨ZA,ZL⟩,⟨ZQ,ZP,ZB⟩⟩)=bA1 (ZF.lt ⟨ZK,⟨ZH,ZY⟩,Yd,l_id,⟨ZS,ZR,ZG⟩,ZX,⟨ZA,ZL⟩,⟨ZQ,ZP,ZB⟩⟩):=by unfold bA2;rw [if_neg jE,List.append_nil]
      exact VQ (α:=Unit) (pre:=fun _=>[]) (F:=fun _=>True) (S2:=fun _=>St M ((b3,rowO [.one (.string (strN (bA2 (ZF.lt ⟨ZK,⟨ZH,ZY⟩,Yd,l_id,⟨ZS,ZR,ZG⟩,ZX,⟨ZA,ZL⟩,⟨ZQ,ZP,ZB⟩⟩))))] 219)::(b1,rowO (ZF.segs ⟨ZK,⟨ZH,ZY⟩,Yd,l_id,⟨ZS,ZR,ZG⟩,ZX,⟨ZA,ZL⟩,⟨ZQ,ZP,ZB⟩⟩) 128)::H)) (()) (trivial) (.cons (k:=6) rfl (.cons (k:=4) rfl (.cons (k:=3) rfl (.cons (k:=2) rfl (.cons (k:=1) rfl .nil))))) (fun w hw=>by show St _ _ w;rw [he9];first|exact hw|exact hw.c)
    ·rintro _ -
     iterate 4 refine Stp ?_
     refine WR rfl rfl rfl rfl rfl rfl rfl ?_;refine Ti ?_;refine XI 53 rfl (show _=Value.bool (decide (ZK=1)) from congrArg Value.bool (VR g1 (4,decide (ZK=1)) jQ)) ?_
     iterate 2 refine Stp ?_
     refine Y_pk [53,6,4,3,2,1] ?_;refine TQ (α:=Unit) (fun _=>[]) (fun _=>True) (fun _=>St M ((b3,rowO [.one (.string (strN (bA3 (ZF.lt ⟨ZK,⟨ZH,ZY⟩,Yd,l_id,⟨ZS,ZR,ZG⟩,ZX,⟨ZA,ZL⟩,⟨ZQ,ZP,ZB⟩⟩))))] 219)::(b1,rowO (ZF.segs ⟨ZK,⟨ZH,ZY⟩,Yd,l_id,⟨ZS,ZR,ZG⟩,ZX,⟨ZA,ZL⟩,⟨ZQ,ZP,ZB⟩⟩) 128)::H)) (.cons (k:=6) rfl (.cons (k:=4) rfl (.cons (k:=3) rfl (.cons (k:=2) rfl (.cons (k:=1) rfl .nil))))) ?_ ?_
     ·skip
      refine ZW rfl (cT fun hc6=>?_) (cF fun hc6=>?_)
      ·refine VP ?_
       refine YB (l:=[0,1,2,3,4,5]) [5] rfl ?_;refine Yk ?_;refine Zi F.foff128_4 ?_;refine Zy F.lay32 ?_;refine YA F.elem32 ?_;refine Wz rfl rfl rfl Tryz.underlying3 Tryz.underlying42 yE rfl ?_;refine XN rfl rfl rfl F.ok157 rfl (wnumber_ok M _ (bA2 (ZF.lt ⟨ZK,⟨ZH,ZY⟩,Yd,l_id,⟨ZS,ZR,ZG⟩,ZX,⟨ZA,ZL⟩,⟨ZQ,ZP,ZB⟩⟩)) (ZG.length) jC jC) jA (ZT rfl) ?_
       rintro _ M1 _ hm1 ⟨hM1,rfl,rfl⟩;obtain rfl:=hM1.symm
       simp only [List.cons_append]
       rw [List.nil_append]
       refine Xb (Xu ?_)
       iterate 3 refine Stp ?_
       refine Zi F.foff128_4 ?_;refine Zy F.lay32 ?_;refine YA F.elem32 ?_
       iterate 4 refine Stp ?_
       refine Y_pk [63,62,61,6,4,3,2,1] ?_;refine Wt (Hin:=[(b3,rowO [.one (.string (strN (bA2 (ZF.lt ⟨ZK,⟨ZH,ZY⟩,Yd,l_id,⟨ZS,ZR,ZG⟩,ZX,⟨ZA,ZL⟩,⟨ZQ,ZP,ZB⟩⟩)++numL ZG.length)))] 219)]) (.succ .zero) jA (fun (k:Nat) M1 h1 z=>M1=M∧z=[(63,.int .i64 (k:Int))]∧k≤ZG.length∧h1=[(b3,rowO [.one (.string (strN (bA2 (ZF.lt ⟨ZK,⟨ZH,ZY⟩,Yd,l_id,⟨ZS,ZR,ZG⟩,ZX,⟨ZA,ZL⟩,⟨ZQ,ZP,ZB⟩⟩)++numL ZG.length++(ZG.take k).flatMap Tr)))] 219)]) (fun k=>ZG.length-k) (0) (⟨rfl,rfl,by omega,by rw [List.take_zero,List.flatMap_nil,List.append_nil]⟩) ?_
       rintro k M1 h1 z hm1 ⟨hM1,rfl,hk,rfl⟩
       obtain rfl:=hM1.symm
       have hfl:=flat_take_le (f:=Tr) (l:=ZG) (m:=9) (fun x hx=>addrL_le (g13 x hx)) k
       have hnl:=Tt (v:=ZG.length) jC
       iterate 6 refine Stp ?_
       refine ZW rfl (cT fun hc7=>?_) (cF fun hc7=>?_)
       ·iterate 6 refine Stp ?_
        refine Ys rfl rfl rfl rfl F.elem32 jR jC yB rfl ?_;refine Xm rfl rfl rfl jE yC F.lay3 rfl rfl rfl ?_
        iterate 3 refine Stp ?_
        refine YB (l:=[0,1,2,3]) [3] rfl ?_
        iterate 2 refine Stp ?_
        have hak:=g13 _ (List.getElem_mem (l:=ZG) (n:=k) jC)
        replace hak:0≤ZG[k]∧ZG[k]≤999:=hak
        refine Wz rfl rfl rfl Tryz.underlying3 Tryz.underlying42 yE rfl ?_;refine XI 69 rfl (show _=Value.int .u64 (((ZG[k].toNat:Nat):Int)) from congrArg _ jC) ?_;refine XN rfl rfl rfl F.ok157 rfl (wnumber_ok M _ ((bA2 (ZF.lt ⟨ZK,⟨ZH,ZY⟩,Yd,l_id,⟨ZS,ZR,ZG⟩,ZX,⟨ZA,ZL⟩,⟨ZQ,ZP,ZB⟩⟩))++numL ZG.length++(ZG.take k).flatMap Tr) (ZG[k].toNat) zC jC) jA (ZT rfl) ?_
        rintro _ M1 _ hm1 ⟨hM1,rfl,rfl⟩;obtain rfl:=hM1.symm
        simp only [List.cons_append]
        rw [List.nil_append]
        refine Xb (Xu ?_)
        iterate 3 refine Stp ?_
        refine YO rfl rfl rfl rfl rfl yA rfl ?_
        iterate 2 refine Stp ?_
        rw [List.append_assoc,show (ZG.take k).flatMap Tr++numL ZG[k].toNat=(ZG.take (k+1)).flatMap Tr from (flat_take jC).symm]
        refine Xa (a':=[(63,_)]) (k+1) ([(b3,rowO [.one (.string (strN (bA2 (ZF.lt ⟨ZK,⟨ZH,ZY⟩,Yd,l_id,⟨ZS,ZR,ZG⟩,ZX,⟨ZA,ZL⟩,⟨ZQ,ZP,ZB⟩⟩)++numL ZG.length++(ZG.take (k+1)).flatMap Tr)))] 219)]) (.cons (k:=63) rfl (.cons (k:=62) rfl (.cons (k:=61) rfl (.cons (k:=6) rfl (.cons (k:=4) rfl (.cons (k:=3) rfl (.cons (k:=2) rfl (.cons (k:=1) rfl (.nil))))))))) jP (fun w hw=>by first|exact hw|exact hw.c) ?_ ?_
        ·exact ⟨rfl,rfl,by omega,rfl⟩
        ·omega
       ·iterate 4 refine Stp ?_
        obtain rfl:k=ZG.length:=by omega
        have he9:bA3 (ZF.lt ⟨ZK,⟨ZH,ZY⟩,Yd,l_id,⟨ZS,ZR,ZG⟩,ZX,⟨ZA,ZL⟩,⟨ZQ,ZP,ZB⟩⟩)=bA2 (ZF.lt ⟨ZK,⟨ZH,ZY⟩,Yd,l_id,⟨ZS,ZR,ZG⟩,ZX,⟨ZA,ZL⟩,⟨ZQ,ZP,ZB⟩⟩)++numL ZG.length++(ZG.take ZG.length).flatMap Tr:=by unfold bA3;rw [if_pos jE,List.append_assoc,List.take_length] <;> rfl
        exact VQ (α:=Unit) (pre:=fun _=>[]) (F:=fun _=>True) (S2:=fun _=>St M ((b3,rowO [.one (.string (strN (bA3 (ZF.lt ⟨ZK,⟨ZH,ZY⟩,Yd,l_id,⟨ZS,ZR,ZG⟩,ZX,⟨ZA,ZL⟩,⟨ZQ,ZP,ZB⟩⟩))))] 219)::(b1,rowO (ZF.segs ⟨ZK,⟨ZH,ZY⟩,Yd,l_id,⟨ZS,ZR,ZG⟩,ZX,⟨ZA,ZL⟩,⟨ZQ,ZP,ZB⟩⟩) 128)::H)) (()) (trivial) (.cons (k:=6) rfl (.cons (k:=4) rfl (.cons (k:=3) rfl (.cons (k:=2) rfl (.cons (k:=1) rfl .nil))))) (fun w hw=>by show St _ _ w;rw [he9];first|exact hw|exact hw.c)
      ·refine Vy ?_
       have he9:bA3 (ZF.lt ⟨ZK,⟨ZH,ZY⟩,Yd,l_id,⟨ZS,ZR,ZG⟩,ZX,⟨ZA,ZL⟩,⟨ZQ,ZP,ZB⟩⟩)=bA2 (ZF.lt ⟨ZK,⟨ZH,ZY⟩,Yd,l_id,⟨ZS,ZR,ZG⟩,ZX,⟨ZA,ZL⟩,⟨ZQ,ZP,ZB⟩⟩):=by unfold bA3;rw [if_neg jE,List.append_nil]
       exact VQ (α:=Unit) (pre:=fun _=>[]) (F:=fun _=>True) (S2:=fun _=>St M ((b3,rowO [.one (.string (strN (bA3 (ZF.lt ⟨ZK,⟨ZH,ZY⟩,Yd,l_id,⟨ZS,ZR,ZG⟩,ZX,⟨ZA,ZL⟩,⟨ZQ,ZP,ZB⟩⟩))))] 219)::(b1,rowO (ZF.segs ⟨ZK,⟨ZH,ZY⟩,Yd,l_id,⟨ZS,ZR,ZG⟩,ZX,⟨ZA,ZL⟩,⟨ZQ,ZP,ZB⟩⟩) 128)::H)) (()) (trivial) (.cons (k:=6) rfl (.cons (k:=4) rfl (.cons (k:=3) rfl (.cons (k:=2) rfl (.cons (k:=1) rfl .nil))))) (fun w hw=>by show St _ _ w;rw [he9];first|exact hw|exact hw.c)
     ·rintro _ -
      iterate 4 refine Stp ?_
      refine WR rfl rfl rfl rfl rfl rfl rfl ?_;refine Ti ?_;refine XI 74 rfl (show _=Value.bool (decide (ZK=2)) from congrArg Value.bool (VR g1 (8,decide (ZK=2)) jQ)) ?_
      iterate 2 refine Stp ?_
      refine Y_pk [74,6,4,3,2,1] ?_;refine TQ (α:=Unit) (fun _=>[]) (fun _=>True) (fun _=>St M ((b3,rowO [.one (.string (strN (bA4 (ZF.lt ⟨ZK,⟨ZH,ZY⟩,Yd,l_id,⟨ZS,ZR,ZG⟩,ZX,⟨ZA,ZL⟩,⟨ZQ,ZP,ZB⟩⟩))))] 219)::(b1,rowO (ZF.segs ⟨ZK,⟨ZH,ZY⟩,Yd,l_id,⟨ZS,ZR,ZG⟩,ZX,⟨ZA,ZL⟩,⟨ZQ,ZP,ZB⟩⟩) 128)::H)) (.cons (k:=6) rfl (.cons (k:=4) rfl (.cons (k:=3) rfl (.cons (k:=2) rfl (.cons (k:=1) rfl .nil))))) ?_ ?_
      ·skip
       refine ZW rfl (cT fun hc8=>?_) (cF fun hc8=>?_)
       ·refine YB (l:=[0,1,2,3]) [3] rfl ?_
        refine Yk ?_;refine Zi F.foff128_5 ?_;refine Zy F.lay4 ?_;refine XN rfl rfl rfl F.ok160 rfl (wflag_ok M _ (bA3 (ZF.lt ⟨ZK,⟨ZH,ZY⟩,Yd,l_id,⟨ZS,ZR,ZG⟩,ZX,⟨ZA,ZL⟩,⟨ZQ,ZP,ZB⟩⟩)) (ZX) jC) jA (ZT rfl) ?_
        rintro _ M1 _ hm1 ⟨hM1,rfl,rfl⟩;obtain rfl:=hM1.symm
        simp only [List.cons_append]
        rw [List.nil_append]
        refine Xb (Xu ?_)
        have he9:bA4 (ZF.lt ⟨ZK,⟨ZH,ZY⟩,Yd,l_id,⟨ZS,ZR,ZG⟩,ZX,⟨ZA,ZL⟩,⟨ZQ,ZP,ZB⟩⟩)=bA3 (ZF.lt ⟨ZK,⟨ZH,ZY⟩,Yd,l_id,⟨ZS,ZR,ZG⟩,ZX,⟨ZA,ZL⟩,⟨ZQ,ZP,ZB⟩⟩)++Sb ZX:=by unfold bA4;rw [if_pos jE] <;> rfl
        exact VQ (α:=Unit) (pre:=fun _=>[]) (F:=fun _=>True) (S2:=fun _=>St M ((b3,rowO [.one (.string (strN (bA4 (ZF.lt ⟨ZK,⟨ZH,ZY⟩,Yd,l_id,⟨ZS,ZR,ZG⟩,ZX,⟨ZA,ZL⟩,⟨ZQ,ZP,ZB⟩⟩))))] 219)::(b1,rowO (ZF.segs ⟨ZK,⟨ZH,ZY⟩,Yd,l_id,⟨ZS,ZR,ZG⟩,ZX,⟨ZA,ZL⟩,⟨ZQ,ZP,ZB⟩⟩) 128)::H)) (()) (trivial) (.cons (k:=6) rfl (.cons (k:=4) rfl (.cons (k:=3) rfl (.cons (k:=2) rfl (.cons (k:=1) rfl .nil))))) (fun w hw=>by show St _ _ w;rw [he9];first|exact hw|exact hw.c)
       ·refine Vy ?_
        have he9:bA4 (ZF.lt ⟨ZK,⟨ZH,ZY⟩,Yd,l_id,⟨ZS,ZR,ZG⟩,ZX,⟨ZA,ZL⟩,⟨ZQ,ZP,ZB⟩⟩)=bA3 (ZF.lt ⟨ZK,⟨ZH,ZY⟩,Yd,l_id,⟨ZS,ZR,ZG⟩,ZX,⟨ZA,ZL⟩,⟨ZQ,ZP,ZB⟩⟩):=by unfold bA4;rw [if_neg jE,List.append_nil]
        exact VQ (α:=Unit) (pre:=fun _=>[]) (F:=fun _=>True) (S2:=fun _=>St M ((b3,rowO [.one (.string (strN (bA4 (ZF.lt ⟨ZK,⟨ZH,ZY⟩,Yd,l_id,⟨ZS,ZR,ZG⟩,ZX,⟨ZA,ZL⟩,⟨ZQ,ZP,ZB⟩⟩))))] 219)::(b1,rowO (ZF.segs ⟨ZK,⟨ZH,ZY⟩,Yd,l_id,⟨ZS,ZR,ZG⟩,ZX,⟨ZA,ZL⟩,⟨ZQ,ZP,ZB⟩⟩) 128)::H)) (()) (trivial) (.cons (k:=6) rfl (.cons (k:=4) rfl (.cons (k:=3) rfl (.cons (k:=2) rfl (.cons (k:=1) rfl .nil))))) (fun w hw=>by show St _ _ w;rw [he9];first|exact hw|exact hw.c)
      ·rintro _ -
       iterate 4 refine Stp ?_
       refine WR rfl rfl rfl rfl rfl rfl rfl ?_;refine Ti ?_;refine XI 81 rfl (show _=Value.bool (decide (WY ZK)) from congrArg Value.bool (VR g1 (16,decide (WY ZK)) jQ)) ?_
       iterate 2 refine Stp ?_
       refine Y_pk [81,6,4,3,2,1] ?_;refine TQ (α:=Unit) (fun _=>[]) (fun _=>True) (fun _=>St M ((b3,rowO [.one (.string (strN (bA5 (ZF.lt ⟨ZK,⟨ZH,ZY⟩,Yd,l_id,⟨ZS,ZR,ZG⟩,ZX,⟨ZA,ZL⟩,⟨ZQ,ZP,ZB⟩⟩))))] 219)::(b1,rowO (ZF.segs ⟨ZK,⟨ZH,ZY⟩,Yd,l_id,⟨ZS,ZR,ZG⟩,ZX,⟨ZA,ZL⟩,⟨ZQ,ZP,ZB⟩⟩) 128)::H)) (.cons (k:=6) rfl (.cons (k:=4) rfl (.cons (k:=3) rfl (.cons (k:=2) rfl (.cons (k:=1) rfl .nil))))) ?_ ?_
       ·skip
        refine ZW rfl (cT fun hc9=>?_) (cF fun hc9=>?_)
        ·refine VP ?_
         refine C_region_anyW (l:=[0,1,2,3,4,5]) [5] #[0,0,2,0,14,31] (_) rfl jI jI St.drawn (fun _ h=>h) ?_;refine Yk ?_;refine Zi F.foff128_6 ?_;refine Zy F.lay38 ?_;refine X_fs rfl rfl F.ok78 rfl (Vp _) rfl ?_
         rintro _ rfl
         refine XI 85 rfl (show _=aggV [.one (.int .i64 (-1)),Yb 0] from rfl) ?_
         refine VE (m:=20) rfl rfl rfl rfl rfl jG jG F.lay38 F.kinds38 rfl F.guard38 jS jS rfl rfl rfl ?_;intro c10 he11
         replace he11:c10=true↔¬(Segs.cells _=Segs.cells _):=he11
         obtain rfl:=neD he11 (Zs.inj (x:=⟨_,_⟩) (y:=⟨_,_⟩));clear he11
         refine XI 86 rfl (show _=Value.bool (decide ((⟨ZA,ZL⟩:Zs)≠YD)) from congrArg Value.bool none_ne) ?_;refine XN rfl rfl rfl F.ok160 rfl (wflag_ok M _ (bA4 (ZF.lt ⟨ZK,⟨ZH,ZY⟩,Yd,l_id,⟨ZS,ZR,ZG⟩,ZX,⟨ZA,ZL⟩,⟨ZQ,ZP,ZB⟩⟩)) (decide ((⟨ZA,ZL⟩:Zs)≠YD)) jC) jA (ZT rfl) ?_
         rintro _ M1 _ hm1 ⟨hM1,rfl,rfl⟩;obtain rfl:=hM1.symm
         simp only [List.cons_append]
         rw [List.nil_append]
         refine Xb (Xu ?_)
         iterate 2 refine Stp ?_
         refine Yg (l:=[0,1,2,3]) #[0,1,0,7] _ rfl jI jI St.drawn (fun _ h=>h) ?_;refine Zi F.foff128_6 ?_;refine Zy F.lay38 ?_;refine X_fs rfl rfl F.ok78 rfl (Vp _) rfl ?_
         rintro _ rfl
         refine XI 90 rfl (show _=aggV [.one (.int .i64 (-1)),Yb 0] from rfl) ?_
         refine VE (m:=20) rfl rfl rfl rfl rfl jG jG F.lay38 F.kinds38 rfl F.guard38 jS jS rfl rfl rfl ?_;intro c12 he13
         replace he13:c12=true↔¬(Segs.cells _=Segs.cells _):=he13
         obtain rfl:=neD he13 (Zs.inj (x:=⟨_,_⟩) (y:=⟨_,_⟩));clear he13
         refine XI 91 rfl (show _=Value.bool (decide ((⟨ZA,ZL⟩:Zs)≠YD)) from congrArg Value.bool none_ne) ?_
         iterate 2 refine Stp ?_
         refine ZW rfl (cT fun hc14=>?_) (cF fun hc14=>?_)
         ·refine YB (l:=[0,1,2,3]) [3] rfl ?_
          refine Yk ?_;refine Zi F.foff128_6 ?_;refine Zy F.lay38 ?_;refine XN rfl rfl rfl F.ok158 rfl (wpeer_ok M _ ((bA4 (ZF.lt ⟨ZK,⟨ZH,ZY⟩,Yd,l_id,⟨ZS,ZR,ZG⟩,ZX,⟨ZA,ZL⟩,⟨ZQ,ZP,ZB⟩⟩))++Sb (decide ((⟨ZA,ZL⟩:Zs)≠YD))) ⟨ZA,ZL⟩ zC (g5.resolve_left jE)) jA (ZT rfl) ?_
          rintro _ M1 _ hm1 ⟨hM1,rfl,rfl⟩;obtain rfl:=hM1.symm
          simp only [List.cons_append]
          rw [List.nil_append]
          refine Xb (Xu ?_)
          have he9:bA5 (ZF.lt ⟨ZK,⟨ZH,ZY⟩,Yd,l_id,⟨ZS,ZR,ZG⟩,ZX,⟨ZA,ZL⟩,⟨ZQ,ZP,ZB⟩⟩)=bA4 (ZF.lt ⟨ZK,⟨ZH,ZY⟩,Yd,l_id,⟨ZS,ZR,ZG⟩,ZX,⟨ZA,ZL⟩,⟨ZQ,ZP,ZB⟩⟩)++Sb (decide ((⟨ZA,ZL⟩:Zs)≠YD))++Wv (⟨ZA,ZL⟩:Zs):=by unfold bA5;rw [if_pos jE,if_pos jE,List.append_assoc] <;> rfl
          exact VQ (α:=Unit) (pre:=fun _=>[]) (F:=fun _=>True) (S2:=fun _=>St M ((b3,rowO [.one (.string (strN (bA5 (ZF.lt ⟨ZK,⟨ZH,ZY⟩,Yd,l_id,⟨ZS,ZR,ZG⟩,ZX,⟨ZA,ZL⟩,⟨ZQ,ZP,ZB⟩⟩))))] 219)::(b1,rowO (ZF.segs ⟨ZK,⟨ZH,ZY⟩,Yd,l_id,⟨ZS,ZR,ZG⟩,ZX,⟨ZA,ZL⟩,⟨ZQ,ZP,ZB⟩⟩) 128)::H)) (()) (trivial) (.cons (k:=6) rfl (.cons (k:=4) rfl (.cons (k:=3) rfl (.cons (k:=2) rfl (.cons (k:=1) rfl .nil))))) (fun w hw=>by show St _ _ w;rw [he9];first|exact hw|exact hw.c)
         ·refine Vy ?_
          have he9:bA5 (ZF.lt ⟨ZK,⟨ZH,ZY⟩,Yd,l_id,⟨ZS,ZR,ZG⟩,ZX,⟨ZA,ZL⟩,⟨ZQ,ZP,ZB⟩⟩)=bA4 (ZF.lt ⟨ZK,⟨ZH,ZY⟩,Yd,l_id,⟨ZS,ZR,ZG⟩,ZX,⟨ZA,ZL⟩,⟨ZQ,ZP,ZB⟩⟩)++Sb (decide ((⟨ZA,ZL⟩:Zs)≠YD)):=by unfold bA5;rw [if_pos jE,if_neg jE,List.append_nil] <;> rfl
          exact VQ (α:=Unit) (pre:=fun _=>[]) (F:=fun _=>True) (S2:=fun _=>St M ((b3,rowO [.one (.string (strN (bA5 (ZF.lt ⟨ZK,⟨ZH,ZY⟩,Yd,l_id,⟨ZS,ZR,ZG⟩,ZX,⟨ZA,ZL⟩,⟨ZQ,ZP,ZB⟩⟩))))] 219)::(b1,rowO (ZF.segs ⟨ZK,⟨ZH,ZY⟩,Yd,l_id,⟨ZS,ZR,ZG⟩,ZX,⟨ZA,ZL⟩,⟨ZQ,ZP,ZB⟩⟩) 128)::H)) (()) (trivial) (.cons (k:=6) rfl (.cons (k:=4) rfl (.cons (k:=3) rfl (.cons (k:=2) rfl (.cons (k:=1) rfl .nil))))) (fun w hw=>by show St _ _ w;rw [he9];first|exact hw|exact hw.c)
        ·refine Vy ?_
         have he9:bA5 (ZF.lt ⟨ZK,⟨ZH,ZY⟩,Yd,l_id,⟨ZS,ZR,ZG⟩,ZX,⟨ZA,ZL⟩,⟨ZQ,ZP,ZB⟩⟩)=bA4 (ZF.lt ⟨ZK,⟨ZH,ZY⟩,Yd,l_id,⟨ZS,ZR,ZG⟩,ZX,⟨ZA,ZL⟩,⟨ZQ,ZP,ZB⟩⟩):=by unfold bA5;rw [if_neg jE,List.append_nil]
         exact VQ (α:=Unit) (pre:=fun _=>[]) (F:=fun _=>True) (S2:=fun _=>St M ((b3,rowO [.one (.string (strN (bA5 (ZF.lt ⟨ZK,⟨ZH,ZY⟩,Yd,l_id,⟨ZS,ZR,ZG⟩,ZX,⟨ZA,ZL⟩,⟨ZQ,ZP,ZB⟩⟩))))] 219)::(b1,rowO (ZF.segs ⟨ZK,⟨ZH,ZY⟩,Yd,l_id,⟨ZS,ZR,ZG⟩,ZX,⟨ZA,ZL⟩,⟨ZQ,ZP,ZB⟩⟩) 128)::H)) (()) (trivial) (.cons (k:=6) rfl (.cons (k:=4) rfl (.cons (k:=3) rfl (.cons (k:=2) rfl (.cons (k:=1) rfl .nil))))) (fun w hw=>by show St _ _ w;rw [he9];first|exact hw|exact hw.c)
       ·rintro _ -
        iterate 4 refine Stp ?_
        refine WR rfl rfl rfl rfl rfl rfl rfl ?_;refine Ti ?_;refine XI 98 rfl (show _=Value.bool (decide (Wx ZK)) from congrArg Value.bool (VR g1 (32,decide (Wx ZK)) jQ)) ?_
        iterate 2 refine Stp ?_
        refine Y_pk [98,6,3,2,1] ?_;refine TQ (α:=Unit) (fun _=>[]) (fun _=>True) (fun _=>St M ((b3,rowO [.one (.string (strN (bA6 (ZF.lt ⟨ZK,⟨ZH,ZY⟩,Yd,l_id,⟨ZS,ZR,ZG⟩,ZX,⟨ZA,ZL⟩,⟨ZQ,ZP,ZB⟩⟩))))] 219)::(b1,rowO (ZF.segs ⟨ZK,⟨ZH,ZY⟩,Yd,l_id,⟨ZS,ZR,ZG⟩,ZX,⟨ZA,ZL⟩,⟨ZQ,ZP,ZB⟩⟩) 128)::H)) (.cons (k:=6) rfl (.cons (k:=3) rfl (.cons (k:=2) rfl .nil))) ?_ ?_
        ·skip
         refine ZW rfl (cT fun hc15=>?_) (cF fun hc15=>?_)
         ·refine VP ?_
          refine YB (l:=[0,1,2,3,4,5]) [5] rfl ?_;refine Yk ?_;refine Zi F.foff128_7 ?_;refine Zy F.lay39 ?_;refine YA F.elem39 ?_;refine Wz rfl rfl rfl Tryz.underlying3 Tryz.underlying42 yE rfl ?_;refine XN rfl rfl rfl F.ok157 rfl (wnumber_ok M _ (bA5 (ZF.lt ⟨ZK,⟨ZH,ZY⟩,Yd,l_id,⟨ZS,ZR,ZG⟩,ZX,⟨ZA,ZL⟩,⟨ZQ,ZP,ZB⟩⟩)) (ZB.length) jC jC) jA (ZT rfl) ?_
          rintro _ M1 _ hm1 ⟨hM1,rfl,rfl⟩;obtain rfl:=hM1.symm
          simp only [List.cons_append]
          rw [List.nil_append]
          refine Xb (Xu ?_)
          iterate 3 refine Stp ?_
          refine Zi F.foff128_7 ?_;refine Zy F.lay39 ?_;refine YA F.elem39 ?_
          iterate 4 refine Stp ?_
          refine Y_pk [108,107,106,6,3,2] ?_;refine Wt (Hin:=[(b3,rowO [.one (.string (strN (bA5 (ZF.lt ⟨ZK,⟨ZH,ZY⟩,Yd,l_id,⟨ZS,ZR,ZG⟩,ZX,⟨ZA,ZL⟩,⟨ZQ,ZP,ZB⟩⟩)++numL ZB.length)))] 219)]) (.succ .zero) jA (fun (k:Nat) M1 h1 z=>M1=M∧z=[(108,.int .i64 (k:Int))]∧k≤ZB.length∧h1=[(b3,rowO [.one (.string (strN (bA5 (ZF.lt ⟨ZK,⟨ZH,ZY⟩,Yd,l_id,⟨ZS,ZR,ZG⟩,ZX,⟨ZA,ZL⟩,⟨ZQ,ZP,ZB⟩⟩)++numL ZB.length++(ZB.take k).flatMap Wv)))] 219)]) (fun k=>ZB.length-k) (0) (⟨rfl,rfl,by omega,by rw [List.take_zero,List.flatMap_nil,List.append_nil]⟩) ?_
          rintro k M1 h1 z hm1 ⟨hM1,rfl,hk,rfl⟩
          obtain rfl:=hM1.symm
          have hfl:=flat_take_le (f:=Wv) (l:=ZB) (m:=29) (fun x hx=>peerL_le (g14 x hx)) k
          have hnl:=Tt (v:=ZB.length) jC
          iterate 6 refine Stp ?_
          refine ZW rfl (cT fun hc16=>?_) (cF fun hc16=>?_)
          ·iterate 6 refine Stp ?_
           refine Ys rfl rfl rfl rfl F.elem39 jR jC yB rfl ?_;refine Xm rfl rfl rfl jE yC F.lay38 rfl rfl rfl ?_
           refine Yz F.zero38 ?_;intro b17
           refine Ya F.lay38 ?_
           iterate 2 refine Stp ?_
           refine YB (l:=[0,1,2]) [2] rfl ?_;refine Yk ?_;refine Zy F.lay38 ?_;refine XN rfl rfl rfl F.ok158 rfl (wpeer_ok M _ ((bA5 (ZF.lt ⟨ZK,⟨ZH,ZY⟩,Yd,l_id,⟨ZS,ZR,ZG⟩,ZX,⟨ZA,ZL⟩,⟨ZQ,ZP,ZB⟩⟩))++numL ZB.length++(ZB.take k).flatMap Wv) ZB[k] zC (g14 _ (List.getElem_mem _))) jA (ZT rfl) ?_
           rintro _ M1 _ hm1 ⟨hM1,rfl,rfl⟩;obtain rfl:=hM1.symm
           simp only [List.cons_append]
           rw [List.nil_append]
           refine Xb (Xu ?_)
           iterate 3 refine Stp ?_
           refine YO rfl rfl rfl rfl rfl yA rfl ?_
           iterate 2 refine Stp ?_
           rw [List.append_assoc,show (ZB.take k).flatMap Wv++Wv ZB[k]=(ZB.take (k+1)).flatMap Wv from (flat_take jC).symm]
           refine Xa (a':=[(108,_)]) (k+1) ([(b3,rowO [.one (.string (strN (bA5 (ZF.lt ⟨ZK,⟨ZH,ZY⟩,Yd,l_id,⟨ZS,ZR,ZG⟩,ZX,⟨ZA,ZL⟩,⟨ZQ,ZP,ZB⟩⟩)++numL ZB.length++(ZB.take (k+1)).flatMap Wv)))] 219)]) (.cons (k:=108) rfl (.cons (k:=107) rfl (.cons (k:=106) rfl (.cons (k:=6) rfl (.cons (k:=3) rfl (.cons (k:=2) rfl (.nil))))))) jP (fun w hw=>by first|exact hw|exact hw.c) ?_ ?_
           ·exact ⟨rfl,rfl,by omega,rfl⟩
           ·omega
          ·iterate 4 refine Stp ?_
           obtain rfl:k=ZB.length:=by omega
           have he9:bA6 (ZF.lt ⟨ZK,⟨ZH,ZY⟩,Yd,l_id,⟨ZS,ZR,ZG⟩,ZX,⟨ZA,ZL⟩,⟨ZQ,ZP,ZB⟩⟩)=bA5 (ZF.lt ⟨ZK,⟨ZH,ZY⟩,Yd,l_id,⟨ZS,ZR,ZG⟩,ZX,⟨ZA,ZL⟩,⟨ZQ,ZP,ZB⟩⟩)++numL ZB.length++(ZB.take ZB.length).flatMap Wv:=by unfold bA6;rw [if_pos jE,List.append_assoc,List.take_length] <;> rfl
           exact VQ (α:=Unit) (pre:=fun _=>[]) (F:=fun _=>True) (S2:=fun _=>St M ((b3,rowO [.one (.string (strN (bA6 (ZF.lt ⟨ZK,⟨ZH,ZY⟩,Yd,l_id,⟨ZS,ZR,ZG⟩,ZX,⟨ZA,ZL⟩,⟨ZQ,ZP,ZB⟩⟩))))] 219)::(b1,rowO (ZF.segs ⟨ZK,⟨ZH,ZY⟩,Yd,l_id,⟨ZS,ZR,ZG⟩,ZX,⟨ZA,ZL⟩,⟨ZQ,ZP,ZB⟩⟩) 128)::H)) (()) (trivial) (.cons (k:=6) rfl (.cons (k:=3) rfl (.cons (k:=2) rfl .nil))) (fun w hw=>by show St _ _ w;rw [he9];first|exact hw|exact hw.c)
         ·refine Vy ?_
          have he9:bA6 (ZF.lt ⟨ZK,⟨ZH,ZY⟩,Yd,l_id,⟨ZS,ZR,ZG⟩,ZX,⟨ZA,ZL⟩,⟨ZQ,ZP,ZB⟩⟩)=bA5 (ZF.lt ⟨ZK,⟨ZH,ZY⟩,Yd,l_id,⟨ZS,ZR,ZG⟩,ZX,⟨ZA,ZL⟩,⟨ZQ,ZP,ZB⟩⟩):=by unfold bA6;rw [if_neg jE,List.append_nil]
          exact VQ (α:=Unit) (pre:=fun _=>[]) (F:=fun _=>True) (S2:=fun _=>St M ((b3,rowO [.one (.string (strN (bA6 (ZF.lt ⟨ZK,⟨ZH,ZY⟩,Yd,l_id,⟨ZS,ZR,ZG⟩,ZX,⟨ZA,ZL⟩,⟨ZQ,ZP,ZB⟩⟩))))] 219)::(b1,rowO (ZF.segs ⟨ZK,⟨ZH,ZY⟩,Yd,l_id,⟨ZS,ZR,ZG⟩,ZX,⟨ZA,ZL⟩,⟨ZQ,ZP,ZB⟩⟩) 128)::H)) (()) (trivial) (.cons (k:=6) rfl (.cons (k:=3) rfl (.cons (k:=2) rfl .nil))) (fun w hw=>by show St _ _ w;rw [he9];first|exact hw|exact hw.c)
        ·rintro _ -
         iterate 4 refine Stp ?_
         refine Zi F.foff219_0 ?_;refine Zy F.lay9 ?_
         iterate 5 refine Stp ?_
         refine ZV (.inr rfl) (.tmp rfl (.tmp rfl .nil)) (fun w hw=>?_)
         refine ⟨_,rfl,(hw.c),?_⟩
         clear hw
         rfl
theorem Put_no (M:Mem) (l:ZF) (hl0:ZF.ok M l) (hI:¬IsLt l.lt):Fs Tryz.prog 104 [l.enc] M (fun v=>v=Value.tuple (#[.string ⟨#[]⟩,.int .i64 1])):=by
  obtain ⟨ZK,⟨ZH,ZY⟩,Yd,l_id,⟨ZS,ZR,ZG⟩,ZX,⟨ZA,ZL⟩,⟨ZQ,ZP,ZB⟩⟩:=l
  have XM:SlK M (oneI .i64) 1 ⟨ZS,ZR,ZG⟩:=hl0.h0
  have s_l_avoid:SlM M ZS (ZG.map (oneI .i64)) 1:=XM.h1
  have n_l_avoid:(ZG.map (oneI .i64)).length=ZG.length:=List.length_map ..
  have m_l_avoid:ZG.length≤9223372036854775807:=XM.h2
  have c_l_avoid:ZG.length≤ZR:=XM.h3
  have YY:SlK M Zs.segs 21 ⟨ZQ,ZP,ZB⟩:=hl0.h1
  have Wq:SlM M ZQ (ZB.map Zs.segs) 21:=YY.h1
  have VS:(ZB.map Zs.segs).length=ZB.length:=List.length_map ..
  have m_l_peers:ZB.length≤9223372036854775807:=YY.h2
  have VT:ZB.length≤ZP:=YY.h3
  refine Xe Tryz.func104 rfl Tryz.ntmps104 rfl ?_;intro H
  iterate 2 refine Stp ?_
  refine Xq ?_;intro b1
  iterate 7 refine Stp ?_
  refine Zy F.lay128 ?_;refine X_fs rfl rfl F.ok115 rfl (IsL_ok _ ⟨_,⟨_,_⟩,_,_,⟨_,_,_⟩,_,⟨_,_⟩,⟨_,_,_⟩⟩ jE) rfl ?_
  rintro _ rfl
  refine XI 12 rfl (show _=Value.bool false from congrArg Value.bool (decide_eq_false hI)) ?_
  iterate 3 refine Stp ?_
  refine ZW rfl (fun hc2=>?_) (fun hc2=>?_)
  ·skip
   iterate 8 refine Stp ?_
   refine ZV (.inr rfl) (.tmp rfl (.tmp rfl .nil)) (fun w hw=>?_)
   refine ⟨_,rfl,(hw.c),?_⟩
   clear hw
   rfl
  ·skip
   (exfalso;simp [eqX] at hc2;done)
theorem F.foff176_0:foff Tryz.prog 176 0=some 0:=by kernel_rfl
theorem F.foff230_0:foff Tryz.prog 230 0=some 0:=by kernel_rfl
theorem F.lay173:lay Tryz.prog 173=some (false,1):=by kernel_rfl
theorem F.ok168:okFn Tryz.prog 168=true:=by kernel_rfl
theorem F.ok203:okFn Tryz.prog 203=true:=by kernel_rfl
theorem F.ok204:okFn Tryz.prog 204=true:=by kernel_rfl
theorem F.ok224:okFn Tryz.prog 224=true:=by kernel_rfl
theorem take_ok (M:Mem) (rb:Nat) (a b:List Nat) (hz:(a++b).length≤100000) (n:Int) (hn:n=(a.length:Int)):Fh Tryz.prog 224 [.pointer (some ⟨rb,0,none⟩),.int .i64 n] M [(rb,rowO [.one (.string (strN (a++b)))] 230)] (fun M' r Hout=>M'=M∧r=.tuple #[.string (strN a),.int .i64 0]∧Hout=[(rb,rowO [.one (.string (strN (b)))] 230)]):=by
  rw [List.length_append] at hz
  subst hn
  refine YR (fun H=>(rb,rowO [.one (.string (strN (a++b)))] 230)::H) (fun _=>by simp only [List.append_assoc,List.cons_append,List.nil_append]) Tryz.func224 rfl Tryz.ntmps224 rfl ?_;intro H
  iterate 11 refine Stp ?_
  refine Zi F.foff230_0 ?_;refine Zy F.lay9 ?_;refine Y_len_str Tryz.underlying9 ?_
  iterate 4 refine Stp ?_
  refine ZW rfl (cT fun hc1=>?_) (cF fun hc1=>?_)
  ·(exfalso;simp only [Vr,List.length_append] at *;omega)
  ·iterate 6 refine Stp ?_
   refine Zi F.foff230_0 ?_;refine Zy F.lay9 ?_;refine Yk ?_;refine X_slice_str (olo:=none) (ohi:=some a.length) rfl rfl rfl .none (.some rfl rfl) Tryz.underlying9 (by show a.length≤_;rw [Vr,List.length_append];omega) (Nat.zero_le _) (show _=strN a from strN_cut a b) rfl ?_
   iterate 8 refine Stp ?_
   refine Zi F.foff230_0 ?_;refine Zy F.lay9 ?_;refine Yk ?_;refine X_slice_str (olo:=some a.length) (ohi:=none) rfl rfl rfl (.some rfl rfl) .none Tryz.underlying9 (Nat.le_refl _) (by show a.length≤(strN (a++b)).size;rw [Vr,List.length_append];omega) (show _=strN b from strN_rest a b) rfl ?_;refine YT ?_;refine Zi F.foff230_0 ?_;refine Ya F.lay9 ?_
   iterate 10 refine Stp ?_
   refine ZV (.inr rfl) (.tmp rfl (.tmp rfl .nil)) (fun w hw=>?_)
   refine ⟨_,M,[(rb,rowO [.one (.string (strN (b)))] 230)],rfl,Mem.le.refl M,hw.c,rfl,rfl,rfl⟩
theorem shl8 {x:Nat} (hx:x<72057594037927936):shiftK .shl .u64 ((x:Nat):Int) 8=some ((x * 256:Nat):Int):=by
  show some (IntKind.u64.wrap ((x:Int) * 2 ^ 8))=_
  rw [show (x:Int) * 2 ^ 8=((x * 256:Nat):Int) by omega]
  exact congrArg some (XL rfl jC)
theorem first_not {v:Nat} (hv:v<18446744073709551616) (h:0<lenB v):¬((v / 256 ^ (lenB v-1) % 256:Nat):Int)=0:=by
  have h0:v≠0:=by rintro rfl;exact absurd h jJ
  obtain ⟨_,h2⟩:=lenB_ge h0
  have h3:=lenB_lt v
  have e:lenB v=(lenB v-1)+1:=by omega
  rw [e,Nat.pow_succ] at h3
  have h4:1≤v / 256 ^ (lenB v-1):=(Nat.le_div_iff_mul_le (Nat.pow_pos jJ)).2 jC
  have h5:v / 256 ^ (lenB v-1)<256:=Nat.div_lt_of_lt_mul jC
  omega
theorem rdnum_ok (M:Mem) (rb:Nat) (v:Nat) (b:List Nat) (hv:v<18446744073709551616) (hz:(numL v++b).length≤100000):Fh Tryz.prog 204 [.pointer (some ⟨rb,0,none⟩)] M [(rb,rowO [.one (.string (strN (numL v++b)))] 230)] (fun M' r Hout=>M'=M∧r=.tuple #[.int .u64 (v:Int),.int .i64 0]∧Hout=[(rb,rowO [.one (.string (strN (b)))] 230)]):=by
  rw [List.length_append,numL_len] at hz
  have hl8:=lenB_le hv
  refine YR (fun H=>(rb,rowO [.one (.string (strN (numL v++b)))] 230)::H) (fun _=>by simp only [List.append_assoc,List.cons_append,List.nil_append]) Tryz.func204 rfl Tryz.ntmps204 rfl ?_;intro H
  iterate 7 refine Stp ?_
  refine YB (l:=[0,1,2,3,4,5,6]) [1] rfl ?_;refine Yk ?_
  skip
  refine XN rfl rfl rfl F.ok224 rfl (take_ok M rb [lenB v] (beL (lenB v) v++b) (by simp only [List.length_append,List.length_cons,List.length_nil,Tn];omega) _ rfl) jA (ZT rfl) ?_
  rintro _ M1 _ hm1 ⟨hM1,rfl,rfl⟩;obtain rfl:=hM1.symm
  simp only [List.cons_append]
  rw [List.nil_append]
  iterate 6 refine Stp ?_
  refine Xu ?_
  iterate 8 refine Stp ?_
  refine ZW rfl (eT fun hc1=>?_) (eF fun hc1=>?_)
  ·simp only [Zs.eta,ZO.eta,ZJ.eta,ZF.eta,Ym.eta,Yv.eta,Yy.eta,Yq.eta,ZN.eta,YF.eta,ZU.eta] at hc1
   (exfalso;simp [eqX] at hc1;done)
  ·simp only [Zs.eta,ZO.eta,ZJ.eta,ZF.eta,Ym.eta,Yv.eta,Yy.eta,Yq.eta,ZN.eta,YF.eta,ZU.eta] at hc1
   iterate 6 refine Stp ?_
   refine Vs (k:=0) (s:=strN [lenB v]) rfl rfl rfl rfl Tryz.underlying9 rfl (by rw [Vr];exact Nat.one_pos) (show _=Value.int .u8 ((lenB v:Nat):Int) from by rw [natsOf_strN (l:=[lenB v]) (fun x hx=>by obtain rfl:=List.mem_singleton.1 hx;omega)];rfl) rfl ?_
   iterate 3 refine Stp ?_
   refine ZW rfl (cT fun hc2=>?_) (cF fun hc2=>?_)
   ·(exfalso;omega)
   ·iterate 4 refine Stp ?_
    refine YB (l:=[0,1,2,3,4,5,6,7,8,9]) [4] rfl ?_
    iterate 2 refine Stp ?_
    refine Vs (k:=0) (s:=strN [lenB v]) rfl rfl rfl rfl Tryz.underlying9 rfl (by rw [Vr];exact Nat.one_pos) (show _=Value.int .u8 ((lenB v:Nat):Int) from by rw [natsOf_strN (l:=[lenB v]) (fun x hx=>by obtain rfl:=List.mem_singleton.1 hx;omega)];rfl) rfl ?_;refine Wz rfl rfl rfl Tryz.underlying5 Tryz.underlying3 yA rfl ?_;refine XI 23 rfl (show _=Value.int .i64 (((beL (lenB v) v).length:Nat):Int) from congrArg _ (by rw [Tn])) ?_;refine XN rfl rfl rfl F.ok224 rfl (take_ok M rb (beL (lenB v) v) b (by simp only [List.length_append,List.length_cons,List.length_nil,Tn];omega) _ rfl) jA (ZT rfl) ?_
    rintro _ M1 _ hm1 ⟨hM1,rfl,rfl⟩;obtain rfl:=hM1.symm
    simp only [List.cons_append]
    rw [List.nil_append]
    iterate 6 refine Stp ?_
    refine Xu ?_
    iterate 7 refine Stp ?_
    refine ZW rfl (eT fun hc3=>?_) (eF fun hc3=>?_)
    ·simp only [Zs.eta,ZO.eta,ZJ.eta,ZF.eta,Ym.eta,Yv.eta,Yy.eta,Yq.eta,ZN.eta,YF.eta,ZU.eta] at hc3
     (exfalso;simp [eqX] at hc3;done)
    ·simp only [Zs.eta,ZO.eta,ZJ.eta,ZF.eta,Ym.eta,Yv.eta,Yy.eta,Yq.eta,ZN.eta,YF.eta,ZU.eta] at hc3
     iterate 11 refine Stp ?_
     refine Y_len_str Tryz.underlying9 ?_;refine XI 31 rfl (show _=Value.int .i64 ((lenB v:Nat):Int) from congrArg _ (by rw [Vr,Tn])) ?_
     iterate 4 refine Stp ?_
     refine Y_pk [32,6,31,4,3,2] ?_;refine VI (.succ (.succ .zero)) (fun (k:Nat) z=>z=[(32,.int .i64 (k:Int)),(6,.int .u64 ((v / 256 ^ (lenB v-k):Nat):Int))]∧k≤lenB v) (fun k=>lenB v-k) (0) (⟨by rw [Nat.sub_zero,Nat.div_eq_of_lt (lenB_lt v)];rfl,by omega⟩) ?_
     rintro k _ ⟨rfl,hk⟩
     iterate 6 refine Stp ?_
     refine ZW rfl (cT fun hc4=>?_) (cF fun hc4=>?_)
     ·iterate 12 refine Stp ?_
      refine Vt rfl rfl rfl rfl jJ (show _=some ((v / 256 ^ (lenB v-k) * 256:Nat):Int) from shl8 (be_lt jC hl8 hv)) rfl rfl ?_
      iterate 2 refine Stp ?_
      refine Vs (k:=k) (s:=strN (beL (lenB v) v)) rfl rfl rfl rfl Tryz.underlying9 rfl (by rw [Vr,Tn];omega) (show _=Value.int .u8 ((v / 256 ^ (lenB v-1-k) % 256:Nat):Int) from by rw [natsOf_strN (beL_lt _ _),beL_get jC]) rfl ?_;refine Wz rfl rfl rfl Tryz.underlying5 Tryz.underlying42 yE rfl ?_;refine WR rfl rfl rfl rfl rfl (show _=((v / 256 ^ (lenB v-(k+1)):Nat):Int) from by rw [← be_next jC];exact or_byte (be_lt jC hl8 hv) (Nat.mod_lt _ jJ)) rfl ?_
      iterate 5 refine Stp ?_
      refine YO rfl rfl rfl rfl rfl yA rfl ?_
      iterate 2 refine Stp ?_
      refine Vq (a':=[(32,_),(6,_)]) (k+1) (.cons (k:=32) rfl (.cons (k:=6) rfl (.cons (k:=31) rfl (.cons (k:=4) rfl (.cons (k:=3) rfl (.cons (k:=2) rfl (.nil))))))) (fun w hw=>by first|exact hw|exact hw.c) ?_ ?_
      ·exact ⟨rfl,by omega⟩
      ·omega
     ·iterate 9 refine Stp ?_
      refine Y_str ?_;refine Yk ?_
      refine Yt 45 rfl (eT fun hc5=>?_) (eF fun hc5=>?_)
      ·refine Yk ?_
       have hp9:0<lenB v:=by have h9:=strN_ne (l:=beL (lenB v) v) jE;rwa [Tn] at h9
       refine Vs (k:=0) (s:=strN (beL (lenB v) v)) rfl rfl rfl rfl Tryz.underlying9 rfl (by rw [Vr,Tn];exact hp9) (show _=Value.int .u8 ((v / 256 ^ (lenB v-1) % 256:Nat):Int) from by rw [natsOf_strN (beL_lt _ _),beL_get hp9,Nat.sub_zero]) rfl ?_;refine Ti ?_;refine XI 48 rfl (show _=Value.bool false from congrArg Value.bool (decide_eq_false (first_not hv hp9))) ?_
       iterate 3 refine Stp ?_
       refine ZW rfl (fun hc6=>?_) (fun hc6=>?_)
       ·skip
        (exfalso;simp [eqX] at hc6;done)
       ·skip
        simp only [Zs.eta,ZO.eta,ZJ.eta,ZF.eta,Ym.eta,Yv.eta,Yy.eta,Yq.eta,ZN.eta,YF.eta,ZU.eta] at hc6
        iterate 10 refine Stp ?_
        refine ZV (.inr rfl) (.tmp rfl (.tmp rfl .nil)) (fun w hw=>?_)
        obtain rfl:k=lenB v:=by omega
        refine ⟨_,M,[(rb,rowO [.one (.string (strN (b)))] 230)],rfl,Mem.le.refl M,hw.c,rfl,?_,rfl⟩
        rw [Nat.sub_self,Nat.pow_zero,Nat.div_one];rfl
      ·iterate 17 refine Stp ?_
       refine ZV (.inr rfl) (.tmp rfl (.tmp rfl .nil)) (fun w hw=>?_)
       obtain rfl:k=lenB v:=by omega
       refine ⟨_,M,[(rb,rowO [.one (.string (strN (b)))] 230)],rfl,Mem.le.refl M,hw.c,rfl,?_,rfl⟩
       rw [Nat.sub_self,Nat.pow_zero,Nat.div_one];rfl
theorem readU_ok (M:Mem) (rb:Nat) (v:Nat) (b:List Nat) (hv:v<18446744073709551616) (hz:(numL v++b).length≤100000):Fh Tryz.prog 203 [.pointer (some ⟨rb,0,none⟩),.func (.func 204) #[.pointer (some ⟨rb,0,none⟩)] #[]] M [(rb,rowO [.one (.string (strN (numL v++b)))] 230)] (fun M' r Hout=>M'=M∧r=.tuple #[.int .u64 (v:Int),.int .i64 0]∧Hout=[(rb,rowO [.one (.string (strN (b)))] 230)]):=by
  rw [List.length_append,numL_len] at hz
  have hl8:=lenB_le hv
  refine YR (fun H=>(rb,rowO [.one (.string (strN (numL v++b)))] 230)::H) (fun _=>by simp only [List.append_assoc,List.cons_append,List.nil_append]) Tryz.func203 rfl Tryz.ntmps203 rfl ?_;intro H
  iterate 15 refine Stp ?_
  refine Tx Tryz.underlying173 ?_
  iterate 2 refine Stp ?_
  refine ZW rfl (fun hc1=>?_) (fun hc1=>?_)
  ·skip
   (exfalso;simp [eqX] at hc1;done)
  ·skip
   iterate 6 refine Stp ?_
   refine Zi F.foff230_0 ?_;refine Zy F.lay9 ?_
   iterate 4 refine Stp ?_
   refine YB (l:=[0,1,2,3,4,5,6]) [1] rfl ?_;refine Yk ?_;refine X_fhVB (bs:=[.pointer (some ⟨rb,0,none⟩)]) (vs:=[]) (caps:=[]) rfl rfl rfl rfl F.ok204 rfl rfl (rdnum_ok M rb v b hv (by rw [List.length_append,numL_len];omega)) jA (ZT rfl) ?_
   rintro _ M1 _ hm1 ⟨hM1,rfl,rfl⟩;obtain rfl:=hM1.symm
   simp only [List.cons_append]
   rw [List.nil_append]
   iterate 6 refine Stp ?_
   refine Xu ?_
   iterate 8 refine Stp ?_
   refine ZW rfl (eT fun hc2=>?_) (eF fun hc2=>?_)
   ·simp only [Zs.eta,ZO.eta,ZJ.eta,ZF.eta,Ym.eta,Yv.eta,Yy.eta,Yq.eta,ZN.eta,YF.eta,ZU.eta] at hc2
    (exfalso;simp [eqX] at hc2;done)
   ·simp only [Zs.eta,ZO.eta,ZJ.eta,ZF.eta,Ym.eta,Yv.eta,Yy.eta,Yq.eta,ZN.eta,YF.eta,ZU.eta] at hc2
    iterate 10 refine Stp ?_
    refine ZV (.inr rfl) (.tmp rfl (.tmp rfl .nil)) (fun w hw=>?_)
    refine ⟨_,M,[(rb,rowO [.one (.string (strN (b)))] 230)],rfl,Mem.le.refl M,hw.c,rfl,rfl,rfl⟩
theorem Number_ok (M:Mem) (rb:Nat) (v:Nat) (b:List Nat) (hv:v<18446744073709551616) (hz:(numL v++b).length≤100000):Fh Tryz.prog 168 [.pointer (some ⟨rb,0,none⟩)] M [(rb,rowO [.one (.string (strN (numL v++b)))] 230)] (fun M' r Hout=>M'=M∧r=.tuple #[.int .u64 (v:Int),.int .i64 0]∧Hout=[(rb,rowO [.one (.string (strN (b)))] 230)]):=by
  refine YR (fun H=>(rb,rowO [.one (.string (strN (numL v++b)))] 230)::H) (fun _=>by simp only [List.append_assoc,List.cons_append,List.nil_append]) Tryz.func168 rfl Tryz.ntmps168 rfl ?_;intro H
  iterate 7 refine Stp ?_
  refine YB (l:=[0,1,2,3,4,5,6,7]) [3] rfl ?_
  iterate 2 refine Stp ?_
  refine VL rfl rfl rfl rfl rfl ?_;refine XN rfl rfl rfl F.ok203 rfl (readU_ok M rb v b hv hz) jA (ZT rfl) ?_
  rintro _ M1 _ hm1 ⟨hM1,rfl,rfl⟩;obtain rfl:=hM1.symm
  simp only [List.cons_append]
  rw [List.nil_append]
  iterate 5 refine Stp ?_
  refine Xu ?_
  iterate 2 refine Stp ?_
  refine ZV (.inr rfl) (.tmp rfl (.tmp rfl .nil)) (fun w hw=>?_)
  refine ⟨_,M,[(rb,rowO [.one (.string (strN (b)))] 230)],rfl,Mem.le.refl M,hw.c,rfl,rfl,rfl⟩
theorem rnumber_ok (M:Mem) (rb:Nat) (v:Nat) (b:List Nat) (hv:v<18446744073709551616) (hz:(numL v++b).length≤100000) (lo hi:Int) (hlo:lo≤(v:Int)) (hhi:(v:Int)≤hi):Fh Tryz.prog 110 [aggV [.one (.pointer (some ⟨rb,0,none⟩))],.int .u64 lo,.int .u64 hi] M [(rb,rowO [.one (.string (strN (numL v++b)))] 230)] (fun M' r Hout=>M'=M∧r=.int .u64 (v:Int)∧Hout=[(rb,rowO [.one (.string (strN (b)))] 230)]):=by
  refine YR (fun H=>(rb,rowO [.one (.string (strN (numL v++b)))] 230)::H) (fun _=>by simp only [List.append_assoc,List.cons_append,List.nil_append]) Tryz.func110 rfl Tryz.ntmps110 rfl ?_;intro H
  iterate 2 refine Stp ?_
  refine Xq ?_;intro b1
  iterate 4 refine Stp ?_
  refine YB (l:=[0,1,2,3,4,5,6,7]) [2] rfl ?_;refine Zi F.foff176_0 ?_;refine Zy F.lay173 ?_;refine XN rfl rfl rfl F.ok168 rfl (Number_ok M rb v b hv hz) jA (ZT rfl) ?_
  rintro _ M1 _ hm1 ⟨hM1,rfl,rfl⟩;obtain rfl:=hM1.symm
  simp only [List.cons_append]
  rw [List.nil_append]
  iterate 6 refine Stp ?_
  refine Xu ?_
  iterate 7 refine Stp ?_
  refine Yt 17 rfl (cT fun hc2=>?_) (cF fun hc2=>?_)
  ·simp only [Zs.eta,ZO.eta,ZJ.eta,ZF.eta,Ym.eta,Yv.eta,Yy.eta,Yq.eta,ZN.eta,YF.eta,ZU.eta] at hc2
   iterate 4 refine Stp ?_
   refine Yt 21 rfl (cT fun hc3=>?_) (cF fun hc3=>?_)
   ·(exfalso;omega)
   ·iterate 7 refine Stp ?_
    refine ZW rfl (cT fun hc5=>?_) (cF fun hc5=>?_)
    ·(exfalso;omega)
    ·iterate 9 refine Stp ?_
     refine ZW rfl (eT fun hc6=>?_) (eF fun hc6=>?_)
     ·simp only [Zs.eta,ZO.eta,ZJ.eta,ZF.eta,Ym.eta,Yv.eta,Yy.eta,Yq.eta,ZN.eta,YF.eta,ZU.eta] at hc6
      (exfalso;simp [eqX] at hc6;done)
     ·simp only [Zs.eta,ZO.eta,ZJ.eta,ZF.eta,Ym.eta,Yv.eta,Yy.eta,Yq.eta,ZN.eta,YF.eta,ZU.eta] at hc6
      iterate 9 refine Stp ?_
      refine ZV (.inr rfl) (.tmp rfl .nil) (fun w hw=>?_)
      refine ⟨_,M,[(rb,rowO [.one (.string (strN (b)))] 230)],rfl,Mem.le.refl M,hw.c,rfl,rfl,rfl⟩
  ·simp only [Zs.eta,ZO.eta,ZJ.eta,ZF.eta,Ym.eta,Yv.eta,Yy.eta,Yq.eta,ZN.eta,YF.eta,ZU.eta] at hc2
   (exfalso;simp [eqX] at hc2;done)
theorem F.lay176:lay Tryz.prog 176=some (true,1):=by kernel_rfl
theorem F.ok110:okFn Tryz.prog 110=true:=by kernel_rfl
theorem F.ok113:okFn Tryz.prog 113=true:=by kernel_rfl
theorem F.ok169:okFn Tryz.prog 169=true:=by kernel_rfl
theorem F.ok205:okFn Tryz.prog 205=true:=by kernel_rfl
theorem F.ok206:okFn Tryz.prog 206=true:=by kernel_rfl
theorem plc_len (x:Plc):(Segs.cells [Yb x]).length=20:=by rw [plc_cells,u8_cells,List.length_map,List.length_map,plcL_len]
theorem rdplc_ok (M:Mem) (rb:Nat) (x:Plc) (b:List Nat) (hz:(plcL x++b).length≤100000):Fh Tryz.prog 206 [.pointer (some ⟨rb,0,none⟩)] M [(rb,rowO [.one (.string (strN (plcL x++b)))] 230)] (fun M' r Hout=>M'=M∧r=.tuple #[aggV [Yb x],.int .i64 0]∧Hout=[(rb,rowO [.one (.string (strN (b)))] 230)]):=by
  refine YR (fun H=>(rb,rowO [.one (.string (strN (plcL x++b)))] 230)::H) (fun _=>by simp only [List.append_assoc,List.cons_append,List.nil_append]) Tryz.func206 rfl Tryz.ntmps206 rfl ?_;intro H
  iterate 2 refine Stp ?_
  refine Yz F.zero36 ?_;intro b1
  iterate 5 refine Stp ?_
  refine Yz F.zero36 ?_;intro b2
  iterate 3 refine Stp ?_
  refine YB (l:=[0,1,2,3,4,5,6]) [1] rfl ?_;refine Yk ?_;refine XN rfl rfl rfl F.ok224 rfl (take_ok M rb (plcL x) b hz 20 (by rw [plcL_len];rfl)) jA (ZT rfl) ?_
  rintro _ M1 _ hm1 ⟨hM1,rfl,rfl⟩;obtain rfl:=hM1.symm
  simp only [List.cons_append]
  rw [List.nil_append]
  iterate 6 refine Stp ?_
  refine Xu ?_
  iterate 3 refine Stp ?_
  refine X_slice_arr rfl rfl rfl F.arr36 rfl ?_;refine Yk ?_;refine X_copyS (u:=[Yb x]) rfl rfl rfl rfl rfl F.elem202 (by rw [Vr,plcL_len]) jH (plc_len _) (plc_byteVs x) rfl ?_
  iterate 4 refine Stp ?_
  refine Zy F.lay36 ?_;refine Yk ?_;refine Ya F.lay36 ?_
  iterate 4 refine Stp ?_
  refine ZV (.inr rfl) (.cell rfl jB F.lay36 rfl rfl (.tmp rfl .nil)) (fun w hw=>?_)
  refine ⟨_,M,[(rb,rowO [.one (.string (strN (b)))] 230)],rfl,Mem.le.refl M,hw.c,rfl,rfl,rfl⟩
theorem readP_ok (M:Mem) (rb:Nat) (x:Plc) (b:List Nat) (hz:(plcL x++b).length≤100000):Fh Tryz.prog 205 [.pointer (some ⟨rb,0,none⟩),.func (.func 206) #[.pointer (some ⟨rb,0,none⟩)] #[]] M [(rb,rowO [.one (.string (strN (plcL x++b)))] 230)] (fun M' r Hout=>M'=M∧r=.tuple #[aggV [Yb x],.int .i64 0]∧Hout=[(rb,rowO [.one (.string (strN (b)))] 230)]):=by
  refine YR (fun H=>(rb,rowO [.one (.string (strN (plcL x++b)))] 230)::H) (fun _=>by simp only [List.append_assoc,List.cons_append,List.nil_append]) Tryz.func205 rfl Tryz.ntmps205 rfl ?_;intro H
  iterate 2 refine Stp ?_
  refine Yz F.zero36 ?_;intro b1
  iterate 5 refine Stp ?_
  refine Yz F.zero36 ?_;intro b2
  iterate 6 refine Stp ?_
  refine Tx Tryz.underlying173 ?_
  iterate 2 refine Stp ?_
  refine ZW rfl (fun hc3=>?_) (fun hc3=>?_)
  ·skip
   (exfalso;simp [eqX] at hc3;done)
  ·skip
   iterate 6 refine Stp ?_
   refine Zi F.foff230_0 ?_;refine Zy F.lay9 ?_
   iterate 4 refine Stp ?_
   refine YB (l:=[0,1,2,3,4,5,6,7]) [1] rfl ?_;refine Yk ?_;refine X_fhVB (bs:=[.pointer (some ⟨rb,0,none⟩)]) (vs:=[]) (caps:=[]) rfl rfl rfl rfl F.ok206 rfl rfl (rdplc_ok M rb x b hz) jA (ZT rfl) ?_
   rintro _ M1 _ hm1 ⟨hM1,rfl,rfl⟩;obtain rfl:=hM1.symm
   simp only [List.cons_append]
   rw [List.nil_append]
   iterate 3 refine Stp ?_
   refine Yz F.zero36 ?_;intro b4
   refine Ya F.lay36 ?_
   iterate 2 refine Stp ?_
   refine Xu ?_
   iterate 8 refine Stp ?_
   refine ZW rfl (eT fun hc5=>?_) (eF fun hc5=>?_)
   ·simp only [Zs.eta,ZO.eta,ZJ.eta,ZF.eta,Ym.eta,Yv.eta,Yy.eta,Yq.eta,ZN.eta,YF.eta,ZU.eta] at hc5
    (exfalso;simp [eqX] at hc5;done)
   ·simp only [Zs.eta,ZO.eta,ZJ.eta,ZF.eta,Ym.eta,Yv.eta,Yy.eta,Yq.eta,ZN.eta,YF.eta,ZU.eta] at hc5
    iterate 4 refine Stp ?_
    refine Zy F.lay36 ?_;refine Ya F.lay36 ?_
    iterate 4 refine Stp ?_
    refine ZV (.inr rfl) (.cell rfl jB F.lay36 rfl rfl (.tmp rfl .nil)) (fun w hw=>?_)
    refine ⟨_,M,[(rb,rowO [.one (.string (strN (b)))] 230)],rfl,Mem.le.refl M,hw.c,rfl,rfl,rfl⟩
theorem Place_ok (M:Mem) (rb:Nat) (x:Plc) (b:List Nat) (hz:(plcL x++b).length≤100000):Fh Tryz.prog 169 [.pointer (some ⟨rb,0,none⟩)] M [(rb,rowO [.one (.string (strN (plcL x++b)))] 230)] (fun M' r Hout=>M'=M∧r=.tuple #[aggV [Yb x],.int .i64 0]∧Hout=[(rb,rowO [.one (.string (strN (b)))] 230)]):=by
  refine YR (fun H=>(rb,rowO [.one (.string (strN (plcL x++b)))] 230)::H) (fun _=>by simp only [List.append_assoc,List.cons_append,List.nil_append]) Tryz.func169 rfl Tryz.ntmps169 rfl ?_;intro H
  iterate 2 refine Stp ?_
  refine Yz F.zero36 ?_;intro b1
  iterate 4 refine Stp ?_
  refine YB (l:=[0,1,2,3,4,5,6,7]) [3] rfl ?_
  iterate 2 refine Stp ?_
  refine VL rfl rfl rfl rfl rfl ?_;refine XN rfl rfl rfl F.ok205 rfl (readP_ok M rb x b hz) jA (ZT rfl) ?_
  rintro _ M1 _ hm1 ⟨hM1,rfl,rfl⟩;obtain rfl:=hM1.symm
  simp only [List.cons_append]
  rw [List.nil_append]
  iterate 2 refine Stp ?_
  refine Ya F.lay36 ?_
  iterate 2 refine Stp ?_
  refine Xu ?_
  iterate 2 refine Stp ?_
  refine ZV (.inr rfl) (.cell rfl jB F.lay36 rfl rfl (.tmp rfl .nil)) (fun w hw=>?_)
  refine ⟨_,M,[(rb,rowO [.one (.string (strN (b)))] 230)],rfl,Mem.le.refl M,hw.c,rfl,rfl,rfl⟩
theorem rplace_ok (M:Mem) (rb:Nat) (x:Plc) (b:List Nat) (hz:(plcL x++b).length≤100000):Fh Tryz.prog 113 [aggV [.one (.pointer (some ⟨rb,0,none⟩))]] M [(rb,rowO [.one (.string (strN (plcL x++b)))] 230)] (fun M' r Hout=>M'=M∧r=aggV [Yb x]∧Hout=[(rb,rowO [.one (.string (strN (b)))] 230)]):=by
  refine YR (fun H=>(rb,rowO [.one (.string (strN (plcL x++b)))] 230)::H) (fun _=>by simp only [List.append_assoc,List.cons_append,List.nil_append]) Tryz.func113 rfl Tryz.ntmps113 rfl ?_;intro H
  iterate 2 refine Stp ?_
  refine Xq ?_;intro b1
  refine Yz F.zero36 ?_;intro b2
  iterate 3 refine Stp ?_
  refine YB (l:=[0,1,2,3,4,5,6,7,8]) [2] rfl ?_;refine Zi F.foff176_0 ?_;refine Zy F.lay173 ?_;refine XN rfl rfl rfl F.ok169 rfl (Place_ok M rb x b hz) jA (ZT rfl) ?_
  rintro _ M1 _ hm1 ⟨hM1,rfl,rfl⟩;obtain rfl:=hM1.symm
  simp only [List.cons_append]
  rw [List.nil_append]
  iterate 3 refine Stp ?_
  refine Yz F.zero36 ?_;intro b3
  refine Ya F.lay36 ?_
  iterate 2 refine Stp ?_
  refine Xu ?_
  iterate 8 refine Stp ?_
  refine ZW rfl (eT fun hc4=>?_) (eF fun hc4=>?_)
  ·simp only [Zs.eta,ZO.eta,ZJ.eta,ZF.eta,Ym.eta,Yv.eta,Yy.eta,Yq.eta,ZN.eta,YF.eta,ZU.eta] at hc4
   (exfalso;simp [eqX] at hc4;done)
  ·simp only [Zs.eta,ZO.eta,ZJ.eta,ZF.eta,Ym.eta,Yv.eta,Yy.eta,Yq.eta,ZN.eta,YF.eta,ZU.eta] at hc4
   iterate 4 refine Stp ?_
   refine Zy F.lay36 ?_;refine Ya F.lay36 ?_
   iterate 3 refine Stp ?_
   refine ZV (.inr rfl) (.cell rfl jB F.lay36 rfl rfl .nil) (fun w hw=>?_)
   refine ⟨_,M,[(rb,rowO [.one (.string (strN (b)))] 230)],rfl,Mem.le.refl M,hw.c,rfl,rfl,rfl⟩
theorem rpeer_ok (M:Mem) (rb:Nat) (p:Zs) (b:List Nat) (hp:Yo p.addr) (hz:(Wv p++b).length≤100000):Fh Tryz.prog 111 [aggV [.one (.pointer (some ⟨rb,0,none⟩))]] M [(rb,rowO [.one (.string (strN (Wv p++b)))] 230)] (fun M' r Hout=>M'=M∧r=p.enc∧Hout=[(rb,rowO [.one (.string (strN (b)))] 230)]):=by
  obtain ⟨YI,p_id⟩:=p
  replace hp:0≤YI∧YI≤999:=hp
  have hz0:(numL YI.toNat++(plcL p_id++b)).length≤100000:=by rw [← List.append_assoc];exact hz
  rw [show Wv ⟨YI,p_id⟩++b=numL YI.toNat++(plcL p_id++b) from List.append_assoc ..]
  refine YR (fun H=>(rb,rowO [.one (.string (strN (numL YI.toNat++(plcL p_id++b))))] 230)::H) (fun _=>by simp only [List.append_assoc,List.cons_append,List.nil_append]) Tryz.func111 rfl Tryz.ntmps111 rfl ?_;intro H
  iterate 2 refine Stp ?_
  refine Xq ?_;intro b1
  refine Yz F.zero38 ?_;intro b2
  iterate 3 refine Stp ?_
  refine YB (l:=[0,1,2]) [1] rfl ?_;refine Zy F.lay176 ?_;refine XN rfl rfl rfl F.ok110 rfl (rnumber_ok M rb YI.toNat (plcL p_id++b) jC hz0 0 999 jC jC) jA (ZT rfl) ?_
  rintro _ M1 _ hm1 ⟨hM1,rfl,rfl⟩;obtain rfl:=hM1.symm
  simp only [List.cons_append]
  rw [List.nil_append]
  iterate 2 refine Stp ?_
  refine Xu ?_
  iterate 2 refine Stp ?_
  refine YB (l:=[0,1,2,3,4,5]) [3] rfl ?_;refine Yk ?_;refine Wz rfl rfl rfl Tryz.underlying42 Tryz.underlying3 yA rfl ?_;refine XI 7 rfl (show _=Value.int .i64 (YI) from congrArg _ jC) ?_;refine Zy F.lay176 ?_;refine XN rfl rfl rfl F.ok113 rfl (rplace_ok M rb p_id b (by rw [List.length_append] at hz0;omega)) jA (ZT rfl) ?_
  rintro _ M1 _ hm1 ⟨hM1,rfl,rfl⟩;obtain rfl:=hM1.symm
  simp only [List.cons_append]
  rw [List.nil_append]
  refine Xo rfl rfl F.bld38 (.cons rfl jG (.cons rfl jG .nil)) rfl rfl ?_;refine Ya F.lay38 ?_;refine Xb (Xu ?_)
  iterate 2 refine Stp ?_
  refine ZV (.inr rfl) (.cell rfl jB F.lay38 rfl rfl .nil) (fun w hw=>?_)
  refine ⟨_,M,[(rb,rowO [.one (.string (strN (b)))] 230)],rfl,Mem.le.refl M,hw.c,rfl,rfl,rfl⟩
theorem Left_ok (M:Mem) (rb:Nat) (b:List Nat):Fh Tryz.prog 114 [.pointer (some ⟨rb,0,none⟩)] M [(rb,rowO [.one (.string (strN (b)))] 230)] (fun M' r Hout=>M'=M∧r=.int .i64 (b.length:Int)∧Hout=[(rb,rowO [.one (.string (strN (b)))] 230)]):=by
  refine YR (fun H=>(rb,rowO [.one (.string (strN (b)))] 230)::H) (fun _=>by simp only [List.append_assoc,List.cons_append,List.nil_append]) Tryz.func114 rfl Tryz.ntmps114 rfl ?_;intro H
  iterate 9 refine Stp ?_
  refine Tx Tryz.underlying173 ?_
  iterate 2 refine Stp ?_
  refine ZW rfl (fun hc1=>?_) (fun hc1=>?_)
  ·skip
   (exfalso;simp [eqX] at hc1;done)
  ·skip
   iterate 6 refine Stp ?_
   refine Zi F.foff230_0 ?_;refine Zy F.lay9 ?_;refine Y_len_str Tryz.underlying9 ?_
   iterate 4 refine Stp ?_
   refine ZV (.inr rfl) (.tmp rfl .nil) (fun w hw=>?_)
   refine ⟨_,M,[(rb,rowO [.one (.string (strN (b)))] 230)],rfl,Mem.le.refl M,hw.c,rfl,?_,rfl⟩
   rw [Vr];rfl
end Go.Proofs.YtglnjnacodgmaaaGreatDoor
namespace Go.Esp
section
variable {P:Program} {Q:Exit→Act→World→Prop} {M M':Mem} {H H':Hp} {e:Env} {S:World→Prop}
theorem wanted_none {o:Oper} {ys:Nat→Option Bool} (h:o.guard=none):Region.wanted o ys=true:=by
  unfold Region.wanted;rw [h]
theorem C_regionDefer {m:Nat} {id:Nat} {ops:Array Oper} {d:Tmp} {f:FuncId} {ys:List Operand} {us:List Value} {ats:Array TypeId} {ty0 ty1:TypeId} {pos0 pos1:String} {af0 af1:Array Edge}
    (h0:ops[0]?=some ⟨some d,.makeFunc (.func f) #[] ys.toArray,ty0,pos0,af0,none⟩) (h1:ops[1]?=some ⟨none,.defer ⟨.value (.tmp d),#[],ats⟩,ty1,pos1,af1,none⟩) (hs:ops.size=2)
    (hy:evs e ys=some us) (hd:Nat.ble (d+1) m=true) (hk:K ⟨m,[⟨.fn (.func f) us.toArray,#[]⟩],none,[]⟩ Q .normal S ((d,.func (.func f) #[] us.toArray)::e)):C P ⟨m,[],none,[]⟩ (.region id ops false) Q S e:=by
  intro a w ha hw
  refine wpIn_region ?_
  rw [hs]
  show wpOpsIn _ _ _ _ _ [0,1] _ _
  rw [wpOpsIn_cons]
  unfold wpOpIn
  simp only [h0]
  rw [if_pos (wanted_none rfl)]
  refine Runs.wpIn (v:=.func (.func f) #[] us.toArray) (.inl (by
    simp only [execOp]
    refine Wp ?_
    rw [show ys.toArray.map a.eval=us.toArray from by rw [← ha.evs hy];simp,show (#[]:Array Operand).map a.eval=#[] from by simp]
    rfl)) ?_
  rw [wpOpsIn_cons]
  unfold wpOpIn
  simp only [h1]
  rw [if_pos (wanted_none rfl)]
  have ha1:=ha.put hd (.func (.func f) #[] us.toArray)
  refine ⟨fun _ _=>trivial,?_⟩
  have hv:(a.put (some d) (.func (.func f) #[] us.toArray)).eval (.tmp d)=.func (.func f) #[] us.toArray:=ha1.ev (by unfold ev Esp.get;simp)
  have hr:(Oper.semAt (Fr none).round (a.put (some d) (.func (.func f) #[] us.toArray)).eval ⟨none,.defer ⟨.value (.tmp d),#[],ats⟩,ty1,pos1,af1,none⟩).run P w=.ok (.defer ⟨.fn (.func f) us.toArray,#[]⟩) w:=by
    rw [show (Fr none).round=none from rfl,Oper.semAt_none]
    simp only [execOp,resolve,hv,Deferred.ofValue,pure_bind]
    rw [show ∀ g:Operand→Value,(#[]:Array Value)++Array.map g #[]=#[] from fun g=>by simp]
    rfl
  rw [hr]
  exact hk _ w ⟨ha1.size,congrArg (_::·) ha1.defers,ha1.slot⟩ hw
theorem res_run {n:Sh} {fn:Func} {vs:List Value} {a:Act} {w:World} (hr:Res P e H fn.results.toList vs) (ha:Sat n e a) (hw:St M H w):(results fn a.tmps).run P w=.ok (resV vs) w:=by
  have h1:=Res.run (P:=P) ha hw hr
  have h2:results fn a.tmps=(do let vs ← fn.results.mapM (resOne a.tmps);pure (if h:vs.size=1 then vs[0] else .tuple vs)):=by
    unfold results
    congr 1
  rw [h2,Array.mapM_eq_mapM_toList,Sem.run_bind]
  rw [Sem.run_map,h1]
  simp only [Result.andThen_ok]
  cases vs with
  | nil=>rfl
  | cons v vs=>cases vs <;> rfl
theorem K_endD {n:Nat} {fn:Func} {R:Ending→World→Prop} {x:Exit} {vs us:List Value} {f:FuncId} (hx:x=.normal∨x=.ret) (hr:Res P e H fn.results.toList vs)
    (hc:okFn P f=true) (hD:∀ w,St M H w→CallsD P f us.toArray .returning w fun en u' w'=>u'=.returning∧(∃ v,en=.returned v)∧St M H w') (h:∀ w,St M H w→R (.returned (resV vs)) w) :
    K ⟨n,[⟨.fn (.func f) us.toArray,#[]⟩],none,[]⟩ (bodyPostD P fn R) x (St M H) e:=by
  intro a w ha hw
  obtain ⟨fn',g1,g2,g3⟩:=VG hc
  have hi:(invoke (.fn (.func f) us.toArray) #[]).run P w=.ok (.enter f us.toArray) w:=by
    simp only [invoke]
    have e9:us.toArray=#[]++us.toArray:=by simp
    unfold callFunc
    rw [Sem.run_bind]
    show (Result.ok P w).andThen _=_
    rw [Result.andThen_ok]
    simp only [g1,g3,Bool.false_eq_true,if_false]
    have:fn'.body.isNone=false:=by rw [← Option.not_isSome,g2];rfl
    simp only [this,Bool.false_eq_true,if_false]
    rw [show (#[]++us.toArray)=us.toArray from by simp]
    rfl
  have L:Leaves P fn a.tmps R a.defers .returning w:=by
    rw [ha.defers]
    refine leaves_cons (by intro h9;cases h9) hi ((hD w hw).mono ?_)
    rintro en u' w' ⟨rfl,⟨v,rfl⟩,hs⟩
    exact ⟨resV vs,res_run hr ha hs,h w' hs⟩
  rcases hx with rfl|rfl <;> exact L
theorem enterD {f:FuncId} {fn:Func} {c:Code} {vs:List Value} {w:World} {R:Ending→World→Prop} {m:Nat} (hf:P.funcs[f]?=some fn) (hb:fn.body=some c) (hm:fn.ntmps=m) (hle:Nat.ble vs.length m=true)
    (hw:S w) (h:C P ⟨m,[],none,[]⟩ c (bodyPostD P fn R) S (TV 0 vs)):Calls P f vs.toArray w R:=by
  have hle':vs.length≤m:=Nat.le_of_ble_eq_true hle
  refine calls_of_wp_defers hf hb (wpIn_wide.1 (h _ w ⟨?_,rfl,fun k v hk=>?_⟩ hw))
  · simp [hm];omega
  · rw [hm]
    obtain ⟨_,h2⟩:=args0_get vs 0 k v hk
    exact zip_sat k v (by simpa using h2)
theorem fn_enterD {f:FuncId} {fn:Func} {c:Code} {vs:List Value} {R:Mem→Value→Prop} {m:Nat} (hf:P.funcs[f]?=some fn) (hb:fn.body=some c) (hm:fn.ntmps=m) (hle:Nat.ble vs.length m=true)
    (h:∀ H,C P ⟨m,[],none,[]⟩ c (bodyPostD P fn fun e w'=>∃ v M',e=.returned v∧M.le M'∧St M' H w'∧R M' v) (St M H) (TV 0 vs)):Fn P f vs M R :=
  fun H _ hw=>enterD (S:=St M H) hf hb hm hle hw (h H)
theorem recover_none {f:FuncId} {fn:Func} {vs:List Value} {m id:Nat} {ops:Array Oper} {rest:Code} {d d2:Tmp} {ats:Array TypeId} {ty0 ty1:TypeId} {pos0 pos1:String} {af0 af1:Array Edge} (hf:P.funcs[f]?=some fn) (hb:fn.body=some (.seq (.region id ops false) rest)) (hm:fn.ntmps=m) (hle:Nat.ble vs.length m=true)
    (h0:ops[0]?=some ⟨some d,.call ⟨.builtin .recover,#[],ats⟩,ty0,pos0,af0,none⟩) (h1:ops[1]?=some ⟨some d2,.assign (.tmp d),ty1,pos1,af1,none⟩) (hs:ops.size=2) (hd:Nat.ble (d+1) m=true) (hd2:Nat.ble (d2+1) m=true)
    (hk:∀ c0:Frame,∀ cs:List Frame,c0.mode=.returning→C P ⟨m,[],none,[]⟩ rest (fun e a w'=>bodyPostS P fn c0 cs (fun en u' w'=>u'=.returning∧(∃ v,en=.returned v)∧St M H w') e a (c0::cs) w') (St M H) ((d2,.nilIface)::(d,.nilIface)::TV 0 vs)) :
    ∀ w,St M H w→CallsD P f vs.toArray .returning w fun en u' w'=>u'=.returning∧(∃ v,en=.returned v)∧St M H w':=by
  intro w hw
  have hle':vs.length≤m:=Nat.le_of_ble_eq_true hle
  refine callsD_of_wpS hf hb fun c0 cs hmode=>?_
  refine wpS_seq (wpS_region ?_)
  rw [hs]
  show wpOpsS _ _ _ [0,1] _ _ _
  have ha:Sat ⟨m,[],none,[]⟩ (TV 0 vs) { tmps:=vs.toArray++Array.replicate (fn.ntmps-vs.toArray.size) undef,defers:=[] }:=by
    refine ⟨?_,rfl,fun k v hk=>?_⟩
    · simp [hm];omega
    · rw [hm]
      obtain ⟨_,h2⟩:=args0_get vs 0 k v hk
      exact zip_sat k v (by simpa using h2)
  have ha1:=ha.put hd .nilIface
  have ha2:=ha1.put hd2 .nilIface
  unfold wpOpsS
  simp only [h0]
  rw [if_pos (wanted_none rfl)]
  have r0:(execOp ({ tmps:=vs.toArray++Array.replicate (fn.ntmps-vs.toArray.size) undef,defers:=[] }:Act).eval ⟨some d,.call ⟨.builtin .recover,#[],ats⟩,ty0,pos0,af0,none⟩).run P w=.ok .recover w:=by
    simp only [execOp,resolve,pure_bind,invoke,builtin]
    rfl
  rw [r0]
  have hrd:recoverD (c0::cs)=none:=by unfold recoverD;simp only [hmode]
  simp only [hrd]
  unfold wpOpsS
  simp only [h1]
  rw [if_pos (wanted_none rfl)]
  have r1:(execOp (Act.put { tmps:=vs.toArray++Array.replicate (fn.ntmps-vs.toArray.size) undef,defers:=[] } (some d) .nilIface).eval ⟨some d2,.assign (.tmp d),ty1,pos1,af1,none⟩).run P w=.ok (.value .nilIface) w:=by
    have hv:(Act.put { tmps:=vs.toArray++Array.replicate (fn.ntmps-vs.toArray.size) undef,defers:=[] } (some d) .nilIface).eval (.tmp d)=.nilIface:=ha1.ev (by unfold ev Esp.get;simp)
    simp only [execOp,hv]
    rfl
  rw [r1]
  unfold wpOpsS
  exact wpS_of_wp (wpIn_wide.1 (hk c0 cs hmode _ w ha2 hw))
theorem K_endS {n:Nat} {fn:Func} {x:Exit} {vs:List Value} {c0:Frame} {cs:List Frame} (hm:c0.mode=.returning) (hx:x=.normal∨x=.ret) (hr:Res P e H fn.results.toList vs) :
    K ⟨n,[],none,[]⟩ (fun en a w'=>bodyPostS P fn c0 cs (fun en u' w'=>u'=.returning∧(∃ v,en=.returned v)∧St M H w') en a (c0::cs) w') x (St M H) e:=by
  intro a w ha hw
  have h9:c0::cs={ c0 with mode:=.returning }::cs:=by rw [← hm]
  rcases hx with rfl|rfl <;> exact ⟨ha.defers,.returning,h9,resV vs,res_run hr ha hw,rfl,⟨_,rfl⟩,hw⟩
end
end Go.Esp
namespace Go.Proofs.YtglnjnacodgmaaaGreatDoor
open Go.Esp
theorem F.bld176:Bld Tryz.prog 176 [[.one (.pointer none)]]:=⟨by kernel_rfl,by kernel_rfl⟩
theorem F.bld230:Bld Tryz.prog 230 [[.one (.string ⟨#[]⟩)]]:=⟨by kernel_rfl,by kernel_rfl⟩
theorem F.ok108:okFn Tryz.prog 108=true:=by kernel_rfl
theorem F.ok109:okFn Tryz.prog 109=true:=by kernel_rfl
theorem F.ok111:okFn Tryz.prog 111=true:=by kernel_rfl
theorem F.ok114:okFn Tryz.prog 114=true:=by kernel_rfl
theorem F.zero176:XW Tryz.prog 176=some (aggV [.one (.pointer none)]):=by kernel_rfl
theorem WNew_ok (M:Mem) (l:List Nat):Fh Tryz.prog 109 [.string (strN l)] M [] (fun M' r Hout=>M'=M∧∃ rb,r=.pointer (some ⟨rb,0,none⟩)∧Hout=[(rb,rowO [.one (.string (strN (l)))] 230)]):=by
  refine YR (fun H=>H) (fun _=>rfl) Tryz.func109 rfl Tryz.ntmps109 rfl ?_;intro H
  iterate 8 refine Stp ?_
  refine Xo rfl rfl F.bld230 (.cons rfl jG .nil) rfl rfl ?_
  refine Xq ?_;intro b1
  iterate 4 refine Stp ?_
  refine ZV (.inr rfl) (.tmp rfl .nil) (fun w hw=>?_)
  refine ⟨_,M,[(b1,rowO [.one (.string (strN (l)))] 230)],rfl,Mem.le.refl M,hw.c,rfl,_,rfl,rfl⟩
theorem get1_dc (M:Mem) (H:Hp) (p q:Value):∀ w,St M H w→CallsD Tryz.prog 108 #[p,q] .returning w fun en u' w'=>u'=.returning∧(∃ v,en=.returned v)∧St M H w':=by
  refine recover_none (vs:=[p,q]) Tryz.func108 rfl Tryz.ntmps108 rfl rfl rfl rfl rfl rfl (fun c0 cs hm0=>?_)
  iterate 3 refine Stp ?_
  refine Tx Tryz.underlying20 ?_
  iterate 2 refine Stp ?_
  refine ZW rfl (fun hc1=>?_) (fun hc1=>?_)
  ·skip
   (exfalso;simp [eqX] at hc1;done)
  ·skip
   refine Vy ?_
   exact K_endS hm0 (.inl rfl) (.nil)
theorem Get_ok (M:Mem) (l:Lt) (hI:IsLt l) (hr:Ts l.req):Esp.Fn Tryz.prog 69 [.string (body l)] M (fun M' v=>∃ x:ZF,v=.tuple #[x.enc,.int .i64 0]∧ZF.ok M' x∧x.lt=l):=by
  obtain ⟨ZK,⟨l_fa,l_fi⟩,Yd,l_id,YE,ZX,⟨l_pa,l_pi⟩,YH⟩:=l
  have hb9:=bS_len hI hr
  simp only at hb9
  obtain ⟨g1,g2,g3,g4,g5,g6,g7,g8,g9,g10,g11,g12,g13,g14⟩:=hI
  simp only at g1 g2 g3 g4 g5 g6 g7 g8 g9 g10 g11 g12 g13 g14
  obtain ⟨z0,z1,z2,z3,z4,z5,z6,z7⟩:=hb9
  obtain ⟨r1,r2⟩:=hr
  simp only at r1 r2
  have hn1:=Tt (v:=Yd.toNat) jC
  have hn2:(if (⟨l_pa,l_pi⟩:Zs)≠YD then Wv ⟨l_pa,l_pi⟩ else []).length≤29:=by
   split
   ·rename_i h8;exact peerL_le (g5.resolve_left h8)
   ·exact Nat.zero_le _
  rw [show body ⟨ZK,⟨l_fa,l_fi⟩,Yd,l_id,YE,ZX,⟨l_pa,l_pi⟩,YH⟩=strN (numL ZK.toNat++(Wv ⟨l_fa,l_fi⟩++bS0 ⟨ZK,⟨l_fa,l_fi⟩,Yd,l_id,YE,ZX,⟨l_pa,l_pi⟩,YH⟩)) from congrArg strN (bA_bS _)]
  refine fn_enterD Tryz.func69 rfl Tryz.ntmps69 rfl ?_;intro H
  iterate 2 refine Stp ?_
  refine Yz F.zero128 ?_;intro b1
  refine Yz F.zero25 ?_;intro b2
  iterate 3 refine Stp ?_
  refine C_regionDefer (ys:=[.tmp 2,.tmp 3]) rfl rfl rfl rfl rfl ?_
  iterate 2 refine Stp ?_
  refine YB (l:=[0,1,2,3,4]) [1] rfl ?_;refine Yk ?_;refine XN rfl rfl rfl F.ok109 rfl (WNew_ok M _) jA (ZT rfl) ?_
  rintro _ M1 _ hm1 ⟨hM1,rb,rfl,rfl⟩;obtain rfl:=hM1.symm
  simp only [List.cons_append]
  rw [List.nil_append]
  refine Xo rfl rfl F.bld176 (.cons rfl jG .nil) rfl rfl ?_
  refine Yz F.zero176 ?_;intro b3
  refine Ya F.lay176 ?_;refine Xb (Xu ?_)
  iterate 2 refine Stp ?_
  refine YB (l:=[0,1,2,3,4]) [1] rfl ?_;refine Zy F.lay176 ?_;refine XN rfl rfl rfl F.ok110 rfl (rnumber_ok _ rb (ZK.toNat) (Wv ⟨l_fa,l_fi⟩++(bS0 ⟨ZK,⟨l_fa,l_fi⟩,Yd,l_id,YE,ZX,⟨l_pa,l_pi⟩,YH⟩)) jC jC 1 8 jC jC) jA (ZT rfl) ?_
  rintro _ M9 _ hm9 ⟨hM9,rfl,rfl⟩;obtain rfl:=hM9.symm
  simp only [List.cons_append]
  rw [List.nil_append]
  refine Wz rfl rfl rfl Tryz.underlying42 Tryz.underlying3 yA rfl ?_;refine XI 14 rfl (show _=Value.int .i64 (ZK) from congrArg _ jC) ?_;refine Zi F.foff128_0 ?_;refine Ya F.lay3 ?_;refine Xb (Xu ?_)
  iterate 2 refine Stp ?_
  refine YB (l:=[0,1,2,3,4,5,6]) [1] rfl ?_;refine Zy F.lay176 ?_;refine XN rfl rfl rfl F.ok111 rfl (rpeer_ok _ rb ⟨l_fa,l_fi⟩ (bS0 ⟨ZK,⟨l_fa,l_fi⟩,Yd,l_id,YE,ZX,⟨l_pa,l_pi⟩,YH⟩) g2 jC) jA (ZT rfl) ?_
  rintro _ M9 _ hm9 ⟨hM9,rfl,rfl⟩;obtain rfl:=hM9.symm
  simp only [List.cons_append]
  rw [List.nil_append]
  refine X_fs rfl rfl F.ok78 rfl (Vp _) rfl ?_
  rintro _ rfl
  refine XI 18 rfl (show _=aggV [.one (.int .i64 (-1)),Yb 0] from rfl) ?_;refine Zi F.foff128_1 ?_;refine Ya F.lay38 ?_;refine Zi F.foff128_6 ?_;refine Ya F.lay38 ?_;refine Xb (Xu ?_)
  iterate 3 refine Stp ?_
  refine Zi F.foff128_0 ?_;refine Zy F.lay3 ?_;refine X_fs rfl rfl F.ok112 rfl (parts_ok _ _) rfl ?_
  rintro _ rfl
  iterate 11 refine Stp ?_
  refine WR rfl rfl rfl rfl rfl rfl rfl ?_;refine Ti ?_;refine XI 29 rfl (show _=Value.bool (decide (VJ ZK)) from congrArg Value.bool (VR g1 (1,decide (VJ ZK)) jQ)) ?_
  iterate 2 refine Stp ?_
  refine Y_pk [29,5,4,3,2] ?_;refine TQ (α:=Unit) (fun _=>[]) (fun _=>True) (fun _=>St M ((rb,rowO [.one (.string (strN (bS1 ⟨ZK,⟨l_fa,l_fi⟩,Yd,l_id,YE,ZX,⟨l_pa,l_pi⟩,YH⟩)))] 230)::(b3,rowO [.one (.pointer (some ⟨rb,0,none⟩))] 176)::(b2,rowO [.one (.int .i64 0)] 25)::(b1,rowO (ZF.segs ⟨ZK,⟨l_fa,l_fi⟩,Yd,0,⟨none,0,[]⟩,false,⟨-1,0⟩,⟨none,0,[]⟩⟩) 128)::H)) (.cons (k:=5) rfl (.cons (k:=4) rfl (.cons (k:=3) rfl (.cons (k:=2) rfl .nil)))) ?_ ?_
  ·skip
   refine ZW rfl (cT fun hc4=>?_) (cF fun hc4=>?_)
   ·have e9:(bS0 ⟨ZK,⟨l_fa,l_fi⟩,Yd,l_id,YE,ZX,⟨l_pa,l_pi⟩,YH⟩)=numL Yd.toNat++(bS1 ⟨ZK,⟨l_fa,l_fi⟩,Yd,l_id,YE,ZX,⟨l_pa,l_pi⟩,YH⟩):=by unfold bS0 pt1;rw [if_pos jE]
    have e9L:=congrArg List.length e9
    rw [e9]
    refine YB (l:=[0,1,2,3]) [1] rfl ?_;refine Zy F.lay176 ?_;refine XN rfl rfl rfl F.ok110 rfl (rnumber_ok _ rb (Yd.toNat) (bS1 ⟨ZK,⟨l_fa,l_fi⟩,Yd,l_id,YE,ZX,⟨l_pa,l_pi⟩,YH⟩) jC jC 0 18446744073709551615 jC jC) jA (ZT rfl) ?_
    rintro _ M9 _ hm9 ⟨hM9,rfl,rfl⟩;obtain rfl:=hM9.symm
    simp only [List.cons_append]
    rw [List.nil_append]
    refine XI 31 rfl (show _=Value.int .u64 (Yd) from congrArg _ jC) ?_;refine Zi F.foff128_2 ?_;refine Ya F.lay42 ?_;refine Xb (Xu ?_)
    exact VQ (α:=Unit) (pre:=fun _=>[]) (F:=fun _=>True) (S2:=fun _=>St M ((rb,rowO [.one (.string (strN (bS1 ⟨ZK,⟨l_fa,l_fi⟩,Yd,l_id,YE,ZX,⟨l_pa,l_pi⟩,YH⟩)))] 230)::(b3,rowO [.one (.pointer (some ⟨rb,0,none⟩))] 176)::(b2,rowO [.one (.int .i64 0)] 25)::(b1,rowO (ZF.segs ⟨ZK,⟨l_fa,l_fi⟩,Yd,0,⟨none,0,[]⟩,false,⟨-1,0⟩,⟨none,0,[]⟩⟩) 128)::H)) (()) (trivial) (.cons (k:=5) rfl (.cons (k:=4) rfl (.cons (k:=3) rfl (.cons (k:=2) rfl .nil)))) (fun w hw=>by (try simp only [ZF.segs,Sl.val,List.length_nil] at hw ⊢);first|exact hw|exact hw.c)
   ·refine Vy ?_
    have hz:Yd=0:=g7.resolve_left jE
    have he9:bS0 ⟨ZK,⟨l_fa,l_fi⟩,Yd,l_id,YE,ZX,⟨l_pa,l_pi⟩,YH⟩=bS1 ⟨ZK,⟨l_fa,l_fi⟩,Yd,l_id,YE,ZX,⟨l_pa,l_pi⟩,YH⟩:=by unfold bS0 pt1;rw [if_neg jE];rfl
    exact VQ (α:=Unit) (pre:=fun _=>[]) (F:=fun _=>True) (S2:=fun _=>St M ((rb,rowO [.one (.string (strN (bS1 ⟨ZK,⟨l_fa,l_fi⟩,Yd,l_id,YE,ZX,⟨l_pa,l_pi⟩,YH⟩)))] 230)::(b3,rowO [.one (.pointer (some ⟨rb,0,none⟩))] 176)::(b2,rowO [.one (.int .i64 0)] 25)::(b1,rowO (ZF.segs ⟨ZK,⟨l_fa,l_fi⟩,Yd,0,⟨none,0,[]⟩,false,⟨-1,0⟩,⟨none,0,[]⟩⟩) 128)::H)) (()) (trivial) (.cons (k:=5) rfl (.cons (k:=4) rfl (.cons (k:=3) rfl (.cons (k:=2) rfl .nil)))) (fun w hw=>by show St _ _ w;(try dsimp only);rw [← he9];rw [hz] at hw ⊢;(try simp only [ZF.segs,Sl.val,List.length_nil] at hw ⊢);first|exact hw|exact hw.c)
  ·rintro _ -
   iterate 4 refine Stp ?_
   refine WR rfl rfl rfl rfl rfl rfl rfl ?_;refine Ti ?_;refine XI 35 rfl (show _=Value.bool (decide (ZK=1)) from congrArg Value.bool (VR g1 (2,decide (ZK=1)) jQ)) ?_
   iterate 2 refine Stp ?_
   refine Y_pk [35,5,4,3,2] ?_;refine TQ (α:=Unit) (fun _=>[]) (fun _=>True) (fun _=>St M ((rb,rowO [.one (.string (strN (bS2 ⟨ZK,⟨l_fa,l_fi⟩,Yd,l_id,YE,ZX,⟨l_pa,l_pi⟩,YH⟩)))] 230)::(b3,rowO [.one (.pointer (some ⟨rb,0,none⟩))] 176)::(b2,rowO [.one (.int .i64 0)] 25)::(b1,rowO (ZF.segs ⟨ZK,⟨l_fa,l_fi⟩,Yd,l_id,⟨none,0,[]⟩,false,⟨-1,0⟩,⟨none,0,[]⟩⟩) 128)::H)) (.cons (k:=5) rfl (.cons (k:=4) rfl (.cons (k:=3) rfl (.cons (k:=2) rfl .nil)))) ?_ ?_
   ·skip
    refine ZW rfl (cT fun hc5=>?_) (cF fun hc5=>?_)
    ·have e9:(bS1 ⟨ZK,⟨l_fa,l_fi⟩,Yd,l_id,YE,ZX,⟨l_pa,l_pi⟩,YH⟩)=plcL l_id++(bS2 ⟨ZK,⟨l_fa,l_fi⟩,Yd,l_id,YE,ZX,⟨l_pa,l_pi⟩,YH⟩):=by unfold bS1 pt2;rw [if_pos jE]
     have e9L:=congrArg List.length e9
     rw [e9]
     refine YB (l:=[0,1,2,3]) [1] rfl ?_;refine Zy F.lay176 ?_;refine XN rfl rfl rfl F.ok113 rfl (rplace_ok _ rb l_id (bS2 ⟨ZK,⟨l_fa,l_fi⟩,Yd,l_id,YE,ZX,⟨l_pa,l_pi⟩,YH⟩) jC) jA (ZT rfl) ?_
     rintro _ M9 _ hm9 ⟨hM9,rfl,rfl⟩;obtain rfl:=hM9.symm
     simp only [List.cons_append]
     rw [List.nil_append]
     refine Zi F.foff128_3 ?_;refine Ya F.lay36 ?_;refine Xb (Xu ?_)
     exact VQ (α:=Unit) (pre:=fun _=>[]) (F:=fun _=>True) (S2:=fun _=>St M ((rb,rowO [.one (.string (strN (bS2 ⟨ZK,⟨l_fa,l_fi⟩,Yd,l_id,YE,ZX,⟨l_pa,l_pi⟩,YH⟩)))] 230)::(b3,rowO [.one (.pointer (some ⟨rb,0,none⟩))] 176)::(b2,rowO [.one (.int .i64 0)] 25)::(b1,rowO (ZF.segs ⟨ZK,⟨l_fa,l_fi⟩,Yd,l_id,⟨none,0,[]⟩,false,⟨-1,0⟩,⟨none,0,[]⟩⟩) 128)::H)) (()) (trivial) (.cons (k:=5) rfl (.cons (k:=4) rfl (.cons (k:=3) rfl (.cons (k:=2) rfl .nil)))) (fun w hw=>by (try simp only [ZF.segs,Sl.val,List.length_nil] at hw ⊢);first|exact hw|exact hw.c)
    ·refine Vy ?_
     have hz:l_id=0:=g8.resolve_left jE
     have he9:bS1 ⟨ZK,⟨l_fa,l_fi⟩,Yd,l_id,YE,ZX,⟨l_pa,l_pi⟩,YH⟩=bS2 ⟨ZK,⟨l_fa,l_fi⟩,Yd,l_id,YE,ZX,⟨l_pa,l_pi⟩,YH⟩:=by unfold bS1 pt2;rw [if_neg jE];rfl
     exact VQ (α:=Unit) (pre:=fun _=>[]) (F:=fun _=>True) (S2:=fun _=>St M ((rb,rowO [.one (.string (strN (bS2 ⟨ZK,⟨l_fa,l_fi⟩,Yd,l_id,YE,ZX,⟨l_pa,l_pi⟩,YH⟩)))] 230)::(b3,rowO [.one (.pointer (some ⟨rb,0,none⟩))] 176)::(b2,rowO [.one (.int .i64 0)] 25)::(b1,rowO (ZF.segs ⟨ZK,⟨l_fa,l_fi⟩,Yd,l_id,⟨none,0,[]⟩,false,⟨-1,0⟩,⟨none,0,[]⟩⟩) 128)::H)) (()) (trivial) (.cons (k:=5) rfl (.cons (k:=4) rfl (.cons (k:=3) rfl (.cons (k:=2) rfl .nil)))) (fun w hw=>by show St _ _ w;(try dsimp only);rw [← he9];rw [hz] at hw ⊢;(try simp only [ZF.segs,Sl.val,List.length_nil] at hw ⊢);first|exact hw|exact hw.c)
   ·rintro _ -
    iterate 4 refine Stp ?_
    refine WR rfl rfl rfl rfl rfl rfl rfl ?_;refine Ti ?_;refine XI 41 rfl (show _=Value.bool (decide (ZK=1)) from congrArg Value.bool (VR g1 (4,decide (ZK=1)) jQ)) ?_
    iterate 2 refine Stp ?_
    refine Y_pk [41,5,4,3,2] ?_;refine TQ (α:=Mem×Option Addr×Nat) (fun _=>[]) (fun x=>M.le x.1∧SlK x.1 (oneI .i64) 1 ⟨x.2.1,x.2.2,YE⟩) (fun x=>St x.1 ((rb,rowO [.one (.string (strN (bS3 ⟨ZK,⟨l_fa,l_fi⟩,Yd,l_id,YE,ZX,⟨l_pa,l_pi⟩,YH⟩)))] 230)::(b3,rowO [.one (.pointer (some ⟨rb,0,none⟩))] 176)::(b2,rowO [.one (.int .i64 0)] 25)::(b1,rowO (ZF.segs ⟨ZK,⟨l_fa,l_fi⟩,Yd,l_id,⟨x.2.1,x.2.2,YE⟩,false,⟨-1,0⟩,⟨none,0,[]⟩⟩) 128)::H)) (.cons (k:=5) rfl (.cons (k:=4) rfl (.cons (k:=3) rfl (.cons (k:=2) rfl .nil)))) ?_ ?_
    ·skip
     refine ZW rfl (cT fun hc6=>?_) (cF fun hc6=>?_)
     ·refine VP ?_
      have e9:(bS2 ⟨ZK,⟨l_fa,l_fi⟩,Yd,l_id,YE,ZX,⟨l_pa,l_pi⟩,YH⟩)=numL YE.length++(YE.flatMap Tr++(bS3 ⟨ZK,⟨l_fa,l_fi⟩,Yd,l_id,YE,ZX,⟨l_pa,l_pi⟩,YH⟩)):=by unfold bS2 pt3 manyL;rw [if_pos jE,List.append_assoc]
      have e9L:=congrArg List.length e9
      rw [e9]
      refine YB (l:=[0,1,2]) [1] rfl ?_;refine Zy F.lay176 ?_;refine XN rfl rfl rfl F.ok110 rfl (rnumber_ok _ rb (YE.length) (YE.flatMap Tr++(bS3 ⟨ZK,⟨l_fa,l_fi⟩,Yd,l_id,YE,ZX,⟨l_pa,l_pi⟩,YH⟩)) jC jC 0 16 jC jC) jA (ZT rfl) ?_
      rintro _ M9 _ hm9 ⟨hM9,rfl,rfl⟩;obtain rfl:=hM9.symm
      simp only [List.cons_append]
      rw [List.nil_append]
      iterate 2 refine Stp ?_
      refine Xu ?_
      iterate 2 refine Stp ?_
      refine Y_pk [44,43,5,4,3,2] ?_;refine C_loopO2 (Hin:=[(rb,rowO [.one (.string (strN (YE.flatMap Tr++(bS3 ⟨ZK,⟨l_fa,l_fi⟩,Yd,l_id,YE,ZX,⟨l_pa,l_pi⟩,YH⟩))))] 230)]) (Hin2:=[(b1,rowO [.one (.int .i64 ZK),.one (.int .i64 l_fa),Yb l_fi,.one (.int .u64 Yd),Yb l_id,.one (.slice none 0 0),.one (.bool false),.one (.int .i64 (-1)),Yb 0,.one (.slice none 0 0)] 128)]) (.succ .zero) jA jA (fun (k:Nat) M1 h1 z=>∃ (v:Value) (ha:Hp),M1=M∧z=[(44,.int .u64 (k:Int))]∧k≤YE.length∧h1=(rb,rowO [.one (.string (strN ((YE.drop k).flatMap Tr++(bS3 ⟨ZK,⟨l_fa,l_fi⟩,Yd,l_id,YE,ZX,⟨l_pa,l_pi⟩,YH⟩))))] 230)::(b1,rowO [.one (.int .i64 ZK),.one (.int .i64 l_fa),Yb l_fi,.one (.int .u64 Yd),Yb l_id,.one (v),.one (.bool false),.one (.int .i64 (-1)),Yb 0,.one (.slice none 0 0)] 128)::ha∧OSl 3 1 v ha ((YE.take k).map (oneI .i64))) (fun k=>YE.length-k) (0) (⟨_,[],rfl,rfl,by omega,rfl,OSl.nil⟩) ?_
      rintro k M1 h1 z hm1 ⟨v1,ha,hM1,rfl,hk,rfl,ho⟩
      obtain rfl:=hM1.symm
      obtain ⟨ad1,cp1,rfl⟩:=ho.valL
      have htl:(YE.take k).length=k:=by rw [List.length_take];omega
      have htm:((YE.take k).map (oneI .i64)).length=k:=by rw [List.length_map,htl]
      simp only [List.cons_append]
      iterate 6 refine Stp ?_
      refine ZW rfl (cT fun hc7=>?_) (cF fun hc7=>?_)
      ·iterate 4 refine Stp ?_
       have e8:(YE.drop k).flatMap Tr++(bS3 ⟨ZK,⟨l_fa,l_fi⟩,Yd,l_id,YE,ZX,⟨l_pa,l_pi⟩,YH⟩)=numL YE[k].toNat++((YE.drop (k+1)).flatMap Tr++(bS3 ⟨ZK,⟨l_fa,l_fi⟩,Yd,l_id,YE,ZX,⟨l_pa,l_pi⟩,YH⟩)):=by rw [many_cut jC];rfl
       have e8L:=congrArg List.length e8
       rw [e8]
       have hak:=g13 _ (List.getElem_mem (l:=YE) (n:=k) jC)
       replace hak:0≤YE[k]∧YE[k]≤999:=hak
       have hdl:=flat_drop_le (f:=Tr) YE k
       refine Yg (l:=[0,1,2,3,4,5,6,7,8]) #[0,1,0,4,12,28,63,127,255] (St M ((b1,rowO [.one (.int .i64 ZK),.one (.int .i64 l_fa),Yb l_fi,.one (.int .u64 Yd),Yb l_id,.one (.slice ad1 (YE.take k).length cp1),.one (.bool false),.one (.int .i64 (-1)),Yb 0,.one (.slice none 0 0)] 128)::(b3,rowO [.one (.pointer (some ⟨rb,0,none⟩))] 176)::ha++H)) rfl jI jI St.drawn (fun _ hw=>hw.c) ?_;refine Zi F.foff128_4 ?_;refine Zy F.lay32 ?_;refine Zy F.lay176 ?_;refine WE rfl rfl F.ok110 rfl (rnumber_ok _ rb (YE[k].toNat) ((YE.drop (k+1)).flatMap Tr++(bS3 ⟨ZK,⟨l_fa,l_fi⟩,Yd,l_id,YE,ZX,⟨l_pa,l_pi⟩,YH⟩)) jC zC 0 999 jC jC) jA (fun _ _ _ hm hw=>(hw.lower jV).c) (ZT rfl) ?_
       rintro _ M9 _ hm9 ⟨hM9,rfl,rfl⟩;obtain rfl:=hM9.symm
       simp only [List.cons_append]
       rw [List.nil_append]
       refine Wz rfl rfl rfl Tryz.underlying42 Tryz.underlying3 yA rfl ?_;refine XI 50 rfl (show _=Value.int .i64 (YE[k]) from congrArg _ jC) ?_
       refine YS rfl rfl F.elem32 F.zero3 rfl rfl (.cons rfl jG .nil) rfl rfl jL rfl ?_;intro b8 hob9
       refine WT (m:=1000000) rfl rfl rfl rfl rfl F.elem32 F.zero3 jR rfl jE jA (Src.own hob9.lens jO rfl jB) jN jJ rfl ?_;intro v12 hs11 ho10;obtain ⟨adv12,cpv12,rfl⟩:=ho10.valAt (n:=k+1) jN
       refine Zi F.foff128_4 ?_;refine Ya F.lay32 ?_
       iterate 4 refine Stp ?_
       refine YO rfl rfl rfl rfl rfl yE rfl ?_
       iterate 2 refine Stp ?_
       refine Xa (a':=[(44,_)]) (k+1) ((rb,rowO [.one (.string (strN ((YE.drop (k+1)).flatMap Tr++(bS3 ⟨ZK,⟨l_fa,l_fi⟩,Yd,l_id,YE,ZX,⟨l_pa,l_pi⟩,YH⟩))))] 230)::(b1,rowO [.one (.int .i64 ZK),.one (.int .i64 l_fa),Yb l_fi,.one (.int .u64 Yd),Yb l_id,.one (.slice adv12 (k+1) cpv12),.one (.bool false),.one (.int .i64 (-1)),Yb 0,.one (.slice none 0 0)] 128)::hs11) (.cons (k:=44) rfl (.cons (k:=43) rfl (.cons (k:=5) rfl (.cons (k:=4) rfl (.cons (k:=3) rfl (.cons (k:=2) rfl (.nil))))))) jP (fun w hw=>by first|exact hw|exact hw.c) ?_ ?_
       ·refine ⟨_,_,rfl,rfl,by omega,rfl,?_⟩
        refine OSl.as9 (OSl.aZ ho10 jN) ?_
        rw [List.take_add_one,List.getElem?_eq_getElem jC,List.map_append]
        rfl
       ·omega
      ·iterate 4 refine Stp ?_
       obtain rfl:k=YE.length:=by omega
       rw [List.drop_length,List.flatMap_nil,List.nil_append]
       rw [List.take_length] at ho ⊢
       refine K_frz ho jA (fun M2 hm2 k_av=>?_)
       exact VQ (α:=Mem×Option Addr×Nat) (pre:=fun _=>[]) (F:=fun x=>M.le x.1∧SlK x.1 (oneI .i64) 1 ⟨x.2.1,x.2.2,YE⟩) (S2:=fun x=>St x.1 ((rb,rowO [.one (.string (strN (bS3 ⟨ZK,⟨l_fa,l_fi⟩,Yd,l_id,YE,ZX,⟨l_pa,l_pi⟩,YH⟩)))] 230)::(b3,rowO [.one (.pointer (some ⟨rb,0,none⟩))] 176)::(b2,rowO [.one (.int .i64 0)] 25)::(b1,rowO (ZF.segs ⟨ZK,⟨l_fa,l_fi⟩,Yd,l_id,⟨x.2.1,x.2.2,YE⟩,false,⟨-1,0⟩,⟨none,0,[]⟩⟩) 128)::H)) ((M2,ad1,cp1)) (⟨hm2,k_av⟩) (.cons (k:=5) rfl (.cons (k:=4) rfl (.cons (k:=3) rfl (.cons (k:=2) rfl .nil)))) (fun w hw=>by show St M2 _ w;(try dsimp only);(try simp only [ZF.segs,Sl.val,List.length_nil] at hw ⊢);first|exact hw|exact hw.c)
     ·refine Vy ?_
      have hz:YE=[]:=g9.resolve_left jE
      have he9:bS2 ⟨ZK,⟨l_fa,l_fi⟩,Yd,l_id,YE,ZX,⟨l_pa,l_pi⟩,YH⟩=bS3 ⟨ZK,⟨l_fa,l_fi⟩,Yd,l_id,YE,ZX,⟨l_pa,l_pi⟩,YH⟩:=by unfold bS2 pt3;rw [if_neg jE];rfl
      exact VQ (α:=Mem×Option Addr×Nat) (pre:=fun _=>[]) (F:=fun x=>M.le x.1∧SlK x.1 (oneI .i64) 1 ⟨x.2.1,x.2.2,YE⟩) (S2:=fun x=>St x.1 ((rb,rowO [.one (.string (strN (bS3 ⟨ZK,⟨l_fa,l_fi⟩,Yd,l_id,YE,ZX,⟨l_pa,l_pi⟩,YH⟩)))] 230)::(b3,rowO [.one (.pointer (some ⟨rb,0,none⟩))] 176)::(b2,rowO [.one (.int .i64 0)] 25)::(b1,rowO (ZF.segs ⟨ZK,⟨l_fa,l_fi⟩,Yd,l_id,⟨x.2.1,x.2.2,YE⟩,false,⟨-1,0⟩,⟨none,0,[]⟩⟩) 128)::H)) ((M,none,0)) (⟨Mem.le.refl M,by rw [hz];exact SlK.nil⟩) (.cons (k:=5) rfl (.cons (k:=4) rfl (.cons (k:=3) rfl (.cons (k:=2) rfl .nil)))) (fun w hw=>by show St _ _ w;(try dsimp only);rw [← he9];rw [hz] at hw ⊢;(try simp only [ZF.segs,Sl.val,List.length_nil] at hw ⊢);first|exact hw|exact hw.c)
    ·rintro ⟨M2,av_a,av_c⟩ ⟨hm2,k_av⟩;dsimp only at hm2 k_av ⊢
     iterate 4 refine Stp ?_
     refine WR rfl rfl rfl rfl rfl rfl rfl ?_;refine Ti ?_;refine XI 57 rfl (show _=Value.bool (decide (ZK=2)) from congrArg Value.bool (VR g1 (8,decide (ZK=2)) jQ)) ?_
     iterate 2 refine Stp ?_
     refine Y_pk [57,5,4,3,2] ?_;refine TQ (α:=Unit) (fun _=>[]) (fun _=>True) (fun _=>St M2 ((rb,rowO [.one (.string (strN (bS4 ⟨ZK,⟨l_fa,l_fi⟩,Yd,l_id,YE,ZX,⟨l_pa,l_pi⟩,YH⟩)))] 230)::(b3,rowO [.one (.pointer (some ⟨rb,0,none⟩))] 176)::(b2,rowO [.one (.int .i64 0)] 25)::(b1,rowO (ZF.segs ⟨ZK,⟨l_fa,l_fi⟩,Yd,l_id,⟨av_a,av_c,YE⟩,ZX,⟨-1,0⟩,⟨none,0,[]⟩⟩) 128)::H)) (.cons (k:=5) rfl (.cons (k:=4) rfl (.cons (k:=3) rfl (.cons (k:=2) rfl .nil)))) ?_ ?_
     ·skip
      refine ZW rfl (cT fun hc13=>?_) (cF fun hc13=>?_)
      ·have e9:(bS3 ⟨ZK,⟨l_fa,l_fi⟩,Yd,l_id,YE,ZX,⟨l_pa,l_pi⟩,YH⟩)=numL (if ZX then 1 else 0)++(bS4 ⟨ZK,⟨l_fa,l_fi⟩,Yd,l_id,YE,ZX,⟨l_pa,l_pi⟩,YH⟩):=by unfold bS3 pt4 Sb;rw [if_pos jE]
       have e9L:=congrArg List.length e9
       rw [e9]
       refine YB (l:=[0,1,2,3,4]) [1] rfl ?_;refine Zy F.lay176 ?_;refine XN rfl rfl rfl F.ok110 rfl (rnumber_ok _ rb ((if ZX then 1 else 0)) (bS4 ⟨ZK,⟨l_fa,l_fi⟩,Yd,l_id,YE,ZX,⟨l_pa,l_pi⟩,YH⟩) (by (split <;> omega)) jC 0 1 jC (by (split <;> omega))) jA (ZT rfl) ?_
       rintro _ M9 _ hm9 ⟨hM9,rfl,rfl⟩;obtain rfl:=hM9.symm
       simp only [List.cons_append]
       rw [List.nil_append]
       refine Ti ?_;refine XI 60 rfl (show _=Value.bool ZX from congrArg Value.bool (by cases ZX <;> rfl)) ?_;refine Zi F.foff128_5 ?_;refine Ya F.lay4 ?_;refine Xb (Xu ?_)
       exact VQ (α:=Unit) (pre:=fun _=>[]) (F:=fun _=>True) (S2:=fun _=>St M2 ((rb,rowO [.one (.string (strN (bS4 ⟨ZK,⟨l_fa,l_fi⟩,Yd,l_id,YE,ZX,⟨l_pa,l_pi⟩,YH⟩)))] 230)::(b3,rowO [.one (.pointer (some ⟨rb,0,none⟩))] 176)::(b2,rowO [.one (.int .i64 0)] 25)::(b1,rowO (ZF.segs ⟨ZK,⟨l_fa,l_fi⟩,Yd,l_id,⟨av_a,av_c,YE⟩,ZX,⟨-1,0⟩,⟨none,0,[]⟩⟩) 128)::H)) (()) (trivial) (.cons (k:=5) rfl (.cons (k:=4) rfl (.cons (k:=3) rfl (.cons (k:=2) rfl .nil)))) (fun w hw=>by (try simp only [ZF.segs,Sl.val,List.length_nil] at hw ⊢);first|exact hw|exact hw.c)
      ·refine Vy ?_
       have hz:ZX=false:=g10.resolve_left jE
       have he9:bS3 ⟨ZK,⟨l_fa,l_fi⟩,Yd,l_id,YE,ZX,⟨l_pa,l_pi⟩,YH⟩=bS4 ⟨ZK,⟨l_fa,l_fi⟩,Yd,l_id,YE,ZX,⟨l_pa,l_pi⟩,YH⟩:=by unfold bS3 pt4;rw [if_neg jE];rfl
       exact VQ (α:=Unit) (pre:=fun _=>[]) (F:=fun _=>True) (S2:=fun _=>St M2 ((rb,rowO [.one (.string (strN (bS4 ⟨ZK,⟨l_fa,l_fi⟩,Yd,l_id,YE,ZX,⟨l_pa,l_pi⟩,YH⟩)))] 230)::(b3,rowO [.one (.pointer (some ⟨rb,0,none⟩))] 176)::(b2,rowO [.one (.int .i64 0)] 25)::(b1,rowO (ZF.segs ⟨ZK,⟨l_fa,l_fi⟩,Yd,l_id,⟨av_a,av_c,YE⟩,ZX,⟨-1,0⟩,⟨none,0,[]⟩⟩) 128)::H)) (()) (trivial) (.cons (k:=5) rfl (.cons (k:=4) rfl (.cons (k:=3) rfl (.cons (k:=2) rfl .nil)))) (fun w hw=>by show St _ _ w;(try dsimp only);rw [← he9];rw [hz] at hw ⊢;(try simp only [ZF.segs,Sl.val,List.length_nil] at hw ⊢);first|exact hw|exact hw.c)
     ·rintro _ -
      iterate 8 refine Stp ?_
      refine Zi F.foff128_0 ?_;refine Zy F.lay3 ?_
      iterate 3 refine Stp ?_
      refine Y_pk [64,7,5,4,3,2] ?_;refine C_cutX (α:=Unit) (fun _=>[(7,.int .u64 (if ZK=2 then 1 else 0))]) (fun _=>True) (.cons (k:=5) rfl (.cons (k:=4) rfl (.cons (k:=3) rfl (.cons (k:=2) rfl .nil)))) ?_ ?_
      ·skip
       refine ZW rfl (cT fun hc14=>?_) (cF fun hc14=>?_)
       ·iterate 3 refine Stp ?_
        refine K_is 7 rfl (show _=Value.int .u64 (if ZK=2 then 1 else 0) from by first|rw [if_pos jE]|rw [if_neg jE]) ?_
        exact K_cutX (()) (trivial) (.cons (k:=7) rfl (.cons (k:=5) rfl (.cons (k:=4) rfl (.cons (k:=3) rfl (.cons (k:=2) rfl .nil))))) (fun w hw=>by first|exact hw|exact hw.c)
       ·refine Vy ?_
        refine K_is 7 rfl (show _=Value.int .u64 (if ZK=2 then 1 else 0) from by first|rw [if_pos jE]|rw [if_neg jE]) ?_
        exact K_cutX (()) (trivial) (.cons (k:=7) rfl (.cons (k:=5) rfl (.cons (k:=4) rfl (.cons (k:=3) rfl (.cons (k:=2) rfl .nil))))) (fun w hw=>by first|exact hw|exact hw.c)
      ·rintro _ -
       iterate 2 refine Stp ?_
       refine YB (l:=[0,1,2,3,4,5,6,7,8]) [6] rfl ?_;refine Yk ?_;refine WR rfl rfl rfl rfl rfl rfl rfl ?_;refine Ti ?_;refine XI 67 rfl (show _=Value.bool (decide (WY ZK)) from congrArg Value.bool (VR g1 (16,decide (WY ZK)) jQ)) ?_;refine Yk ?_
       refine Yt 68 rfl (cT fun hc15=>?_) (cF fun hc15=>?_)
       ·refine Zy F.lay176 ?_
        refine Yk ?_
        have hp8:WY ZK:=by first|assumption|(simp_all;done)
        have e9:(bS4 ⟨ZK,⟨l_fa,l_fi⟩,Yd,l_id,YE,ZX,⟨l_pa,l_pi⟩,YH⟩)=numL (if (⟨l_pa,l_pi⟩:Zs)≠YD then 1 else 0)++((if (⟨l_pa,l_pi⟩:Zs)≠YD then Wv ⟨l_pa,l_pi⟩ else [])++(bS5 ⟨ZK,⟨l_fa,l_fi⟩,Yd,l_id,YE,ZX,⟨l_pa,l_pi⟩,YH⟩)):=by unfold bS4 pt5 Sb;rw [if_pos jE,List.append_assoc];simp only [decide_eq_true_eq]
        have e9L:=congrArg List.length e9
        rw [e9]
        refine XN rfl rfl rfl F.ok110 rfl (rnumber_ok _ rb (if (⟨l_pa,l_pi⟩:Zs)≠YD then 1 else 0) ((if (⟨l_pa,l_pi⟩:Zs)≠YD then Wv ⟨l_pa,l_pi⟩ else [])++(bS5 ⟨ZK,⟨l_fa,l_fi⟩,Yd,l_id,YE,ZX,⟨l_pa,l_pi⟩,YH⟩)) (by split <;> omega) jC _ 1 (by by_cases h2:ZK=2 <;> by_cases h3:(⟨l_pa,l_pi⟩:Zs)=YD <;> simp_all) (by split <;> omega)) jA (ZT rfl) ?_
        rintro _ M9 _ hm9 ⟨hM9,rfl,rfl⟩;obtain rfl:=hM9.symm
        simp only [List.cons_append]
        rw [List.nil_append]
        refine Ti ?_;refine XI 72 rfl (show _=Value.bool (decide ((⟨l_pa,l_pi⟩:Zs)≠YD)) from congrArg Value.bool (by split <;> simp_all)) ?_
        iterate 2 refine Stp ?_
        refine Xu ?_;refine Se (Y_pk [73,5,4,3,2] ?_);refine TQ (α:=Unit) (fun _=>[]) (fun _=>True) (fun _=>St M2 ((rb,rowO [.one (.string (strN (bS5 ⟨ZK,⟨l_fa,l_fi⟩,Yd,l_id,YE,ZX,⟨l_pa,l_pi⟩,YH⟩)))] 230)::(b3,rowO [.one (.pointer (some ⟨rb,0,none⟩))] 176)::(b2,rowO [.one (.int .i64 0)] 25)::(b1,rowO (ZF.segs ⟨ZK,⟨l_fa,l_fi⟩,Yd,l_id,⟨av_a,av_c,YE⟩,ZX,⟨l_pa,l_pi⟩,⟨none,0,[]⟩⟩) 128)::H)) (.cons (k:=5) rfl (.cons (k:=4) rfl (.cons (k:=3) rfl (.cons (k:=2) rfl .nil)))) ?_ ?_
        ·skip
         refine ZW rfl (cT fun hc16=>?_) (cF fun hc16=>?_)
         ·rw [if_pos jE]
          have hpl:=peerL_le (p:=⟨l_pa,l_pi⟩) (g5.resolve_left jE)
          refine YB (l:=[0,1,2,3]) [1] rfl ?_;refine Zy F.lay176 ?_;refine XN rfl rfl rfl F.ok111 rfl (rpeer_ok _ rb ⟨l_pa,l_pi⟩ (bS5 ⟨ZK,⟨l_fa,l_fi⟩,Yd,l_id,YE,ZX,⟨l_pa,l_pi⟩,YH⟩) (g5.resolve_left jE) zC) jA (ZT rfl) ?_
          rintro _ M9 _ hm9 ⟨hM9,rfl,rfl⟩;obtain rfl:=hM9.symm
          simp only [List.cons_append]
          rw [List.nil_append]
          refine Zi F.foff128_6 ?_;refine Ya F.lay38 ?_;refine Xb (Xu ?_)
          exact VQ (α:=Unit) (pre:=fun _=>[]) (F:=fun _=>True) (S2:=fun _=>St M2 ((rb,rowO [.one (.string (strN (bS5 ⟨ZK,⟨l_fa,l_fi⟩,Yd,l_id,YE,ZX,⟨l_pa,l_pi⟩,YH⟩)))] 230)::(b3,rowO [.one (.pointer (some ⟨rb,0,none⟩))] 176)::(b2,rowO [.one (.int .i64 0)] 25)::(b1,rowO (ZF.segs ⟨ZK,⟨l_fa,l_fi⟩,Yd,l_id,⟨av_a,av_c,YE⟩,ZX,⟨l_pa,l_pi⟩,⟨none,0,[]⟩⟩) 128)::H)) (()) (trivial) (.cons (k:=5) rfl (.cons (k:=4) rfl (.cons (k:=3) rfl (.cons (k:=2) rfl .nil)))) (fun w hw=>by (try simp only [ZF.segs,Sl.val,List.length_nil] at hw ⊢);first|exact hw|exact hw.c)
         ·refine Vy ?_
          have hz0:(⟨l_pa,l_pi⟩:Zs)=YD:=by first|exact Classical.not_not.1 jE|exact g11.resolve_left (by first|assumption|(simp_all;done))
          have hz:l_pa=-1:=congrArg Zs.addr hz0
          have hy:l_pi=0:=congrArg Zs.id hz0
          rw [if_neg jE,List.nil_append]
          exact VQ (α:=Unit) (pre:=fun _=>[]) (F:=fun _=>True) (S2:=fun _=>St M2 ((rb,rowO [.one (.string (strN (bS5 ⟨ZK,⟨l_fa,l_fi⟩,Yd,l_id,YE,ZX,⟨l_pa,l_pi⟩,YH⟩)))] 230)::(b3,rowO [.one (.pointer (some ⟨rb,0,none⟩))] 176)::(b2,rowO [.one (.int .i64 0)] 25)::(b1,rowO (ZF.segs ⟨ZK,⟨l_fa,l_fi⟩,Yd,l_id,⟨av_a,av_c,YE⟩,ZX,⟨l_pa,l_pi⟩,⟨none,0,[]⟩⟩) 128)::H)) (()) (trivial) (.cons (k:=5) rfl (.cons (k:=4) rfl (.cons (k:=3) rfl (.cons (k:=2) rfl .nil)))) (fun w hw=>by show St _ _ w;rw [hz,hy] at hw ⊢;(try simp only [ZF.segs,Sl.val,List.length_nil] at hw ⊢);first|exact hw|exact hw.c)
        ·rintro _ -
         iterate 4 refine Stp ?_
         refine WR rfl rfl rfl rfl rfl rfl rfl ?_;refine Ti ?_;refine XI 79 rfl (show _=Value.bool (decide (Wx ZK)) from congrArg Value.bool (VR g1 (32,decide (Wx ZK)) jQ)) ?_
         iterate 2 refine Stp ?_
         refine ZW rfl (cT fun hc17=>?_) (cF fun hc17=>?_)
         ·refine VP ?_
          have e9:(bS5 ⟨ZK,⟨l_fa,l_fi⟩,Yd,l_id,YE,ZX,⟨l_pa,l_pi⟩,YH⟩)=numL YH.length++(YH.flatMap Wv++[]):=by unfold bS5 pt6 manyL;rw [if_pos jE,List.append_assoc]
          have e9L:=congrArg List.length e9
          rw [e9]
          refine YB (l:=[0,1,2]) [1] rfl ?_;refine Zy F.lay176 ?_;refine XN rfl rfl rfl F.ok110 rfl (rnumber_ok _ rb (YH.length) (YH.flatMap Wv++[]) jC jC 0 8 jC jC) jA (ZT rfl) ?_
          rintro _ M9 _ hm9 ⟨hM9,rfl,rfl⟩;obtain rfl:=hM9.symm
          simp only [List.cons_append]
          rw [List.nil_append]
          iterate 2 refine Stp ?_
          refine Xu ?_
          iterate 2 refine Stp ?_
          refine Y_pk [82,81,4,3,2] ?_;refine C_loopO2 (Hin:=[(rb,rowO [.one (.string (strN (YH.flatMap Wv++[])))] 230)]) (Hin2:=[(b1,rowO [.one (.int .i64 ZK),.one (.int .i64 l_fa),Yb l_fi,.one (.int .u64 Yd),Yb l_id,.one (.slice av_a YE.length av_c),.one (.bool ZX),.one (.int .i64 l_pa),Yb l_pi,.one (.slice none 0 0)] 128)]) (.succ .zero) jA jA (fun (k:Nat) M1 h1 z=>∃ (v:Value) (ha:Hp),M1=M2∧z=[(82,.int .u64 (k:Int))]∧k≤YH.length∧h1=(rb,rowO [.one (.string (strN ((YH.drop k).flatMap Wv++[])))] 230)::(b1,rowO [.one (.int .i64 ZK),.one (.int .i64 l_fa),Yb l_fi,.one (.int .u64 Yd),Yb l_id,.one (.slice av_a YE.length av_c),.one (.bool ZX),.one (.int .i64 l_pa),Yb l_pi,.one (v)] 128)::ha∧OSl 38 21 v ha ((YH.take k).map Zs.segs)) (fun k=>YH.length-k) (0) (⟨_,[],rfl,rfl,by omega,rfl,OSl.nil⟩) ?_
          rintro k M1 h1 z hm1 ⟨v1,ha,hM1,rfl,hk,rfl,ho⟩
          obtain rfl:=hM1.symm
          obtain ⟨ad1,cp1,rfl⟩:=ho.valL
          have htl:(YH.take k).length=k:=by rw [List.length_take];omega
          have htm:((YH.take k).map Zs.segs).length=k:=by rw [List.length_map,htl]
          simp only [List.cons_append]
          iterate 6 refine Stp ?_
          refine ZW rfl (cT fun hc18=>?_) (cF fun hc18=>?_)
          ·iterate 4 refine Stp ?_
           have e8:(YH.drop k).flatMap Wv++[]=Wv YH[k]++((YH.drop (k+1)).flatMap Wv++[]):=by exact many_cut jC _
           have e8L:=congrArg List.length e8
           rw [e8]
           have hdl:=flat_drop_le (f:=Wv) YH k
           refine Yg (l:=[0,1,2,3,4,5,6,7]) #[0,1,0,4,12,31,63,127] (St M2 ((b1,rowO [.one (.int .i64 ZK),.one (.int .i64 l_fa),Yb l_fi,.one (.int .u64 Yd),Yb l_id,.one (.slice av_a YE.length av_c),.one (.bool ZX),.one (.int .i64 l_pa),Yb l_pi,.one (.slice ad1 (YH.take k).length cp1)] 128)::(b3,rowO [.one (.pointer (some ⟨rb,0,none⟩))] 176)::ha++H)) rfl jI jI St.drawn (fun _ hw=>hw.c) ?_;refine Zi F.foff128_7 ?_;refine Zy F.lay39 ?_;refine Zy F.lay176 ?_;refine WE rfl rfl F.ok111 rfl (rpeer_ok _ rb YH[k] ((YH.drop (k+1)).flatMap Wv++[]) (g14 _ (List.getElem_mem _)) zC) jA (fun _ _ _ hm hw=>(hw.lower jV).c) (ZT rfl) ?_
           rintro _ M9 _ hm9 ⟨hM9,rfl,rfl⟩;obtain rfl:=hM9.symm
           simp only [List.cons_append]
           rw [List.nil_append]
           refine YS rfl rfl F.elem39 F.zero38 rfl rfl (.cons rfl jG .nil) rfl rfl jL rfl ?_;intro b19 hob20
           refine WT (m:=1000000) rfl rfl rfl rfl rfl F.elem39 F.zero38 zL rfl jE jA (Src.own hob20.lens jO rfl jB) jN jJ rfl ?_;intro v23 hs22 ho21;obtain ⟨adv23,cpv23,rfl⟩:=ho21.valAt (n:=k+1) jN
           refine Zi F.foff128_7 ?_;refine Ya F.lay39 ?_
           iterate 4 refine Stp ?_
           refine YO rfl rfl rfl rfl rfl yE rfl ?_
           iterate 2 refine Stp ?_
           refine Xa (a':=[(82,_)]) (k+1) ((rb,rowO [.one (.string (strN ((YH.drop (k+1)).flatMap Wv++[])))] 230)::(b1,rowO [.one (.int .i64 ZK),.one (.int .i64 l_fa),Yb l_fi,.one (.int .u64 Yd),Yb l_id,.one (.slice av_a YE.length av_c),.one (.bool ZX),.one (.int .i64 l_pa),Yb l_pi,.one (.slice adv23 (k+1) cpv23)] 128)::hs22) (.cons (k:=82) rfl (.cons (k:=81) rfl (.cons (k:=4) rfl (.cons (k:=3) rfl (.cons (k:=2) rfl (.nil)))))) jP (fun w hw=>by first|exact hw|exact hw.c) ?_ ?_
           ·refine ⟨_,_,rfl,rfl,by omega,rfl,?_⟩
            refine OSl.as9 (OSl.aZ ho21 jN) ?_
            rw [List.take_add_one,List.getElem?_eq_getElem jC,List.map_append]
            rfl
           ·omega
          ·iterate 7 refine Stp ?_
           obtain rfl:k=YH.length:=by omega
           rw [List.drop_length,List.flatMap_nil,List.nil_append]
           rw [List.take_length] at ho ⊢
           refine YB (l:=[0,1,2,3]) [2] rfl ?_;refine Zi F.foff176_0 ?_;refine Zy F.lay173 ?_;refine XN rfl rfl rfl F.ok114 rfl (Left_ok _ rb []) jA (ZT rfl) ?_
           rintro _ M9 _ hm9 ⟨hM9,rfl,rfl⟩;obtain rfl:=hM9.symm
           simp only [List.cons_append]
           rw [List.nil_append]
           iterate 2 refine Stp ?_
           refine Xu ?_;refine Se ?_
           refine ZW rfl (cT fun hc24=>?_) (cF fun hc24=>?_)
           ·(exfalso;simp at hc24;done)
           ·iterate 4 refine Stp ?_
            refine Zy F.lay128 ?_;refine Ul rfl rfl rfl rfl jG jM jH F.lay128 jD (Tm (m:=67) rfl jD jD) ?_
            refine Ya F.lay25 ?_
            iterate 3 refine Stp ?_
            refine K_endD (us:=[.pointer (some ⟨b1,0,none⟩),.pointer (some ⟨b2,0,none⟩)]) (.inr rfl) (.cell rfl jB F.lay128 rfl rfl (.cell rfl jB F.lay25 rfl rfl .nil)) F.ok108 (get1_dc _ _ _ _) (fun w hw=>?_)
            obtain ⟨M3,j1,j2,j3⟩:=ho.frz (H:=H) (hw.c)
            exact ⟨_,M3,rfl,hm2.trans j1,j2,⟨ZK,⟨l_fa,l_fi⟩,Yd,l_id,⟨av_a,av_c,YE⟩,ZX,⟨l_pa,l_pi⟩,⟨ad1,cp1,YH⟩⟩,rfl,⟨k_av.mono j1,j3⟩,rfl⟩
         ·iterate 4 refine Stp ?_
          have hz:YH=[]:=g12.resolve_left jE
          have he9:(bS5 ⟨ZK,⟨l_fa,l_fi⟩,Yd,l_id,YE,ZX,⟨l_pa,l_pi⟩,YH⟩)=[]:=by unfold bS5 pt6;rw [if_neg jE];rfl
          rw [he9]
          refine YB (l:=[0,1,2,3]) [2] rfl ?_;refine Zi F.foff176_0 ?_;refine Zy F.lay173 ?_;refine XN rfl rfl rfl F.ok114 rfl (Left_ok _ rb []) jA (ZT rfl) ?_
          rintro _ M9 _ hm9 ⟨hM9,rfl,rfl⟩;obtain rfl:=hM9.symm
          simp only [List.cons_append]
          rw [List.nil_append]
          iterate 2 refine Stp ?_
          refine Xu ?_;refine Se ?_
          refine ZW rfl (cT fun hc25=>?_) (cF fun hc25=>?_)
          ·(exfalso;simp at hc25;done)
          ·iterate 4 refine Stp ?_
           refine Zy F.lay128 ?_;refine Ul rfl rfl rfl rfl jG jM jH F.lay128 jD (Tm (m:=67) rfl jD jD) ?_
           refine Ya F.lay25 ?_
           iterate 3 refine Stp ?_
           refine K_endD (us:=[.pointer (some ⟨b1,0,none⟩),.pointer (some ⟨b2,0,none⟩)]) (.inr rfl) (.cell rfl jB F.lay128 rfl rfl (.cell rfl jB F.lay25 rfl rfl .nil)) F.ok108 (get1_dc _ _ _ _) (fun w hw=>?_)
           refine ⟨_,M2,rfl,hm2,hw.c,⟨ZK,⟨l_fa,l_fi⟩,Yd,l_id,⟨av_a,av_c,YE⟩,ZX,⟨l_pa,l_pi⟩,⟨none,0,[]⟩⟩,?_,⟨k_av,SlK.nil⟩,?_⟩
           ·rfl
           ·show Lt.mk _ _ _ _ _ _ _ _=_;rw [hz]
       ·iterate 6 refine Stp ?_
        refine Xu ?_;refine Se (Y_pk [73,5,4,3,2] ?_);refine TQ (α:=Unit) (fun _=>[]) (fun _=>True) (fun _=>St M2 ((rb,rowO [.one (.string (strN (bS5 ⟨ZK,⟨l_fa,l_fi⟩,Yd,l_id,YE,ZX,⟨l_pa,l_pi⟩,YH⟩)))] 230)::(b3,rowO [.one (.pointer (some ⟨rb,0,none⟩))] 176)::(b2,rowO [.one (.int .i64 0)] 25)::(b1,rowO (ZF.segs ⟨ZK,⟨l_fa,l_fi⟩,Yd,l_id,⟨av_a,av_c,YE⟩,ZX,⟨l_pa,l_pi⟩,⟨none,0,[]⟩⟩) 128)::H)) (.cons (k:=5) rfl (.cons (k:=4) rfl (.cons (k:=3) rfl (.cons (k:=2) rfl .nil)))) ?_ ?_
        ·skip
         iterate 2 refine Stp ?_
         have hz0:(⟨l_pa,l_pi⟩:Zs)=YD:=by first|exact Classical.not_not.1 jE|exact g11.resolve_left jE
         have hz:l_pa=-1:=congrArg Zs.addr hz0
         have hy:l_pi=0:=congrArg Zs.id hz0
         have he9:bS4 ⟨ZK,⟨l_fa,l_fi⟩,Yd,l_id,YE,ZX,⟨l_pa,l_pi⟩,YH⟩=bS5 ⟨ZK,⟨l_fa,l_fi⟩,Yd,l_id,YE,ZX,⟨l_pa,l_pi⟩,YH⟩:=by unfold bS4 pt5;rw [if_neg jE];rfl
         exact VQ (α:=Unit) (pre:=fun _=>[]) (F:=fun _=>True) (S2:=fun _=>St M2 ((rb,rowO [.one (.string (strN (bS5 ⟨ZK,⟨l_fa,l_fi⟩,Yd,l_id,YE,ZX,⟨l_pa,l_pi⟩,YH⟩)))] 230)::(b3,rowO [.one (.pointer (some ⟨rb,0,none⟩))] 176)::(b2,rowO [.one (.int .i64 0)] 25)::(b1,rowO (ZF.segs ⟨ZK,⟨l_fa,l_fi⟩,Yd,l_id,⟨av_a,av_c,YE⟩,ZX,⟨l_pa,l_pi⟩,⟨none,0,[]⟩⟩) 128)::H)) (()) (trivial) (.cons (k:=5) rfl (.cons (k:=4) rfl (.cons (k:=3) rfl (.cons (k:=2) rfl .nil)))) (fun w hw=>by show St _ _ w;(try dsimp only);rw [← he9];rw [hz,hy] at hw ⊢;(try simp only [ZF.segs,Sl.val,List.length_nil] at hw ⊢);first|exact hw|exact hw.c)
        ·rintro _ -
         iterate 4 refine Stp ?_
         refine WR rfl rfl rfl rfl rfl rfl rfl ?_;refine Ti ?_;refine XI 79 rfl (show _=Value.bool (decide (Wx ZK)) from congrArg Value.bool (VR g1 (32,decide (Wx ZK)) jQ)) ?_
         iterate 2 refine Stp ?_
         refine ZW rfl (cT fun hc26=>?_) (cF fun hc26=>?_)
         ·refine VP ?_
          have e9:(bS5 ⟨ZK,⟨l_fa,l_fi⟩,Yd,l_id,YE,ZX,⟨l_pa,l_pi⟩,YH⟩)=numL YH.length++(YH.flatMap Wv++[]):=by unfold bS5 pt6 manyL;rw [if_pos jE,List.append_assoc]
          have e9L:=congrArg List.length e9
          rw [e9]
          refine YB (l:=[0,1,2]) [1] rfl ?_;refine Zy F.lay176 ?_;refine XN rfl rfl rfl F.ok110 rfl (rnumber_ok _ rb (YH.length) (YH.flatMap Wv++[]) jC jC 0 8 jC jC) jA (ZT rfl) ?_
          rintro _ M9 _ hm9 ⟨hM9,rfl,rfl⟩;obtain rfl:=hM9.symm
          simp only [List.cons_append]
          rw [List.nil_append]
          iterate 2 refine Stp ?_
          refine Xu ?_
          iterate 2 refine Stp ?_
          refine Y_pk [82,81,4,3,2] ?_;refine C_loopO2 (Hin:=[(rb,rowO [.one (.string (strN (YH.flatMap Wv++[])))] 230)]) (Hin2:=[(b1,rowO [.one (.int .i64 ZK),.one (.int .i64 l_fa),Yb l_fi,.one (.int .u64 Yd),Yb l_id,.one (.slice av_a YE.length av_c),.one (.bool ZX),.one (.int .i64 l_pa),Yb l_pi,.one (.slice none 0 0)] 128)]) (.succ .zero) jA jA (fun (k:Nat) M1 h1 z=>∃ (v:Value) (ha:Hp),M1=M2∧z=[(82,.int .u64 (k:Int))]∧k≤YH.length∧h1=(rb,rowO [.one (.string (strN ((YH.drop k).flatMap Wv++[])))] 230)::(b1,rowO [.one (.int .i64 ZK),.one (.int .i64 l_fa),Yb l_fi,.one (.int .u64 Yd),Yb l_id,.one (.slice av_a YE.length av_c),.one (.bool ZX),.one (.int .i64 l_pa),Yb l_pi,.one (v)] 128)::ha∧OSl 38 21 v ha ((YH.take k).map Zs.segs)) (fun k=>YH.length-k) (0) (⟨_,[],rfl,rfl,by omega,rfl,OSl.nil⟩) ?_
          rintro k M1 h1 z hm1 ⟨v1,ha,hM1,rfl,hk,rfl,ho⟩
          obtain rfl:=hM1.symm
          obtain ⟨ad1,cp1,rfl⟩:=ho.valL
          have htl:(YH.take k).length=k:=by rw [List.length_take];omega
          have htm:((YH.take k).map Zs.segs).length=k:=by rw [List.length_map,htl]
          simp only [List.cons_append]
          iterate 6 refine Stp ?_
          refine ZW rfl (cT fun hc27=>?_) (cF fun hc27=>?_)
          ·iterate 4 refine Stp ?_
           have e8:(YH.drop k).flatMap Wv++[]=Wv YH[k]++((YH.drop (k+1)).flatMap Wv++[]):=by exact many_cut jC _
           have e8L:=congrArg List.length e8
           rw [e8]
           have hdl:=flat_drop_le (f:=Wv) YH k
           refine Yg (l:=[0,1,2,3,4,5,6,7]) #[0,1,0,4,12,31,63,127] (St M2 ((b1,rowO [.one (.int .i64 ZK),.one (.int .i64 l_fa),Yb l_fi,.one (.int .u64 Yd),Yb l_id,.one (.slice av_a YE.length av_c),.one (.bool ZX),.one (.int .i64 l_pa),Yb l_pi,.one (.slice ad1 (YH.take k).length cp1)] 128)::(b3,rowO [.one (.pointer (some ⟨rb,0,none⟩))] 176)::ha++H)) rfl jI jI St.drawn (fun _ hw=>hw.c) ?_;refine Zi F.foff128_7 ?_;refine Zy F.lay39 ?_;refine Zy F.lay176 ?_;refine WE rfl rfl F.ok111 rfl (rpeer_ok _ rb YH[k] ((YH.drop (k+1)).flatMap Wv++[]) (g14 _ (List.getElem_mem _)) zC) jA (fun _ _ _ hm hw=>(hw.lower jV).c) (ZT rfl) ?_
           rintro _ M9 _ hm9 ⟨hM9,rfl,rfl⟩;obtain rfl:=hM9.symm
           simp only [List.cons_append]
           rw [List.nil_append]
           refine YS rfl rfl F.elem39 F.zero38 rfl rfl (.cons rfl jG .nil) rfl rfl jL rfl ?_;intro b28 hob29
           refine WT (m:=1000000) rfl rfl rfl rfl rfl F.elem39 F.zero38 zL rfl jE jA (Src.own hob29.lens jO rfl jB) jN jJ rfl ?_;intro v32 hs31 ho30;obtain ⟨adv32,cpv32,rfl⟩:=ho30.valAt (n:=k+1) jN
           refine Zi F.foff128_7 ?_;refine Ya F.lay39 ?_
           iterate 4 refine Stp ?_
           refine YO rfl rfl rfl rfl rfl yE rfl ?_
           iterate 2 refine Stp ?_
           refine Xa (a':=[(82,_)]) (k+1) ((rb,rowO [.one (.string (strN ((YH.drop (k+1)).flatMap Wv++[])))] 230)::(b1,rowO [.one (.int .i64 ZK),.one (.int .i64 l_fa),Yb l_fi,.one (.int .u64 Yd),Yb l_id,.one (.slice av_a YE.length av_c),.one (.bool ZX),.one (.int .i64 l_pa),Yb l_pi,.one (.slice adv32 (k+1) cpv32)] 128)::hs31) (.cons (k:=82) rfl (.cons (k:=81) rfl (.cons (k:=4) rfl (.cons (k:=3) rfl (.cons (k:=2) rfl (.nil)))))) jP (fun w hw=>by first|exact hw|exact hw.c) ?_ ?_
           ·refine ⟨_,_,rfl,rfl,by omega,rfl,?_⟩
            refine OSl.as9 (OSl.aZ ho30 jN) ?_
            rw [List.take_add_one,List.getElem?_eq_getElem jC,List.map_append]
            rfl
           ·omega
          ·iterate 7 refine Stp ?_
           obtain rfl:k=YH.length:=by omega
           rw [List.drop_length,List.flatMap_nil,List.nil_append]
           rw [List.take_length] at ho ⊢
           refine YB (l:=[0,1,2,3]) [2] rfl ?_;refine Zi F.foff176_0 ?_;refine Zy F.lay173 ?_;refine XN rfl rfl rfl F.ok114 rfl (Left_ok _ rb []) jA (ZT rfl) ?_
           rintro _ M9 _ hm9 ⟨hM9,rfl,rfl⟩;obtain rfl:=hM9.symm
           simp only [List.cons_append]
           rw [List.nil_append]
           iterate 2 refine Stp ?_
           refine Xu ?_;refine Se ?_
           refine ZW rfl (cT fun hc33=>?_) (cF fun hc33=>?_)
           ·(exfalso;simp at hc33;done)
           ·iterate 4 refine Stp ?_
            refine Zy F.lay128 ?_;refine Ul rfl rfl rfl rfl jG jM jH F.lay128 jD (Tm (m:=67) rfl jD jD) ?_
            refine Ya F.lay25 ?_
            iterate 3 refine Stp ?_
            refine K_endD (us:=[.pointer (some ⟨b1,0,none⟩),.pointer (some ⟨b2,0,none⟩)]) (.inr rfl) (.cell rfl jB F.lay128 rfl rfl (.cell rfl jB F.lay25 rfl rfl .nil)) F.ok108 (get1_dc _ _ _ _) (fun w hw=>?_)
            obtain ⟨M3,j1,j2,j3⟩:=ho.frz (H:=H) (hw.c)
            exact ⟨_,M3,rfl,hm2.trans j1,j2,⟨ZK,⟨l_fa,l_fi⟩,Yd,l_id,⟨av_a,av_c,YE⟩,ZX,⟨l_pa,l_pi⟩,⟨ad1,cp1,YH⟩⟩,rfl,⟨k_av.mono j1,j3⟩,rfl⟩
         ·iterate 4 refine Stp ?_
          have hz:YH=[]:=g12.resolve_left jE
          have he9:(bS5 ⟨ZK,⟨l_fa,l_fi⟩,Yd,l_id,YE,ZX,⟨l_pa,l_pi⟩,YH⟩)=[]:=by unfold bS5 pt6;rw [if_neg jE];rfl
          rw [he9]
          refine YB (l:=[0,1,2,3]) [2] rfl ?_;refine Zi F.foff176_0 ?_;refine Zy F.lay173 ?_;refine XN rfl rfl rfl F.ok114 rfl (Left_ok _ rb []) jA (ZT rfl) ?_
          rintro _ M9 _ hm9 ⟨hM9,rfl,rfl⟩;obtain rfl:=hM9.symm
          simp only [List.cons_append]
          rw [List.nil_append]
          iterate 2 refine Stp ?_
          refine Xu ?_;refine Se ?_
          refine ZW rfl (cT fun hc34=>?_) (cF fun hc34=>?_)
          ·(exfalso;simp at hc34;done)
          ·iterate 4 refine Stp ?_
           refine Zy F.lay128 ?_;refine Ul rfl rfl rfl rfl jG jM jH F.lay128 jD (Tm (m:=67) rfl jD jD) ?_
           refine Ya F.lay25 ?_
           iterate 3 refine Stp ?_
           refine K_endD (us:=[.pointer (some ⟨b1,0,none⟩),.pointer (some ⟨b2,0,none⟩)]) (.inr rfl) (.cell rfl jB F.lay128 rfl rfl (.cell rfl jB F.lay25 rfl rfl .nil)) F.ok108 (get1_dc _ _ _ _) (fun w hw=>?_)
           refine ⟨_,M2,rfl,hm2,hw.c,⟨ZK,⟨l_fa,l_fi⟩,Yd,l_id,⟨av_a,av_c,YE⟩,ZX,⟨l_pa,l_pi⟩,⟨none,0,[]⟩⟩,?_,⟨k_av,SlK.nil⟩,?_⟩
           ·rfl
           ·show Lt.mk _ _ _ _ _ _ _ _=_;rw [hz]
end Go.Proofs.YtglnjnacodgmaaaGreatDoor
namespace Go.Esp
theorem imGet_set (l:IM) (k k':Int) (v:Value):Wa (imSet l k v) k'=if k'=k then (Wa l k).map (fun _=>v) else Wa l k':=by
  induction l with
  | nil=>simp [imSet,Wa]
  | cons p l ih =>
    obtain ⟨j,u⟩:=p
    unfold imSet
    by_cases e:k=j
    · subst e
      by_cases h:k'=k
      · subst h;simp [Wa]
      · simp [Wa,h]
    · by_cases h:k'=j
      · subst h
        simp [Wa,e,Ne.symm e]
      · simp only [e,if_false,Wa,h]
        exact ih
theorem imGet_app (l:IM) (k k':Int) (v:Value):Wa (l++[(k,v)]) k'=match Wa l k' with|some u=>some u|none=>if k'=k then some v else none:=by
  induction l with
  | nil=>simp [Wa]
  | cons p l ih =>
    obtain ⟨j,u⟩:=p
    by_cases h:k'=j
    · subst h;simp [Wa]
    · simp [Wa,h,ih]
theorem imGet_put (l:IM) (k k':Int) (v:Value):Wa (Uj l k v) k'=if k'=k then some v else Wa l k':=by
  unfold Uj
  split
  · rename_i u hu
    rw [imGet_set,hu];rfl
  · rename_i hu
    rw [imGet_app]
    by_cases h:k'=k
    · subst h;simp [hu]
    · simp only [h,if_false]
      cases Wa l k' <;> rfl
theorem imGet_del (l:IM) (k k':Int) (h:k'≠k):Wa (Sm l k) k'=Wa l k':=by
  induction l with
  | nil=>rfl
  | cons p l ih =>
    obtain ⟨j,u⟩:=p
    unfold Sm
    by_cases e:k=j
    · subst e;simp [Wa,h]
    · simp only [e,if_false,Wa]
      by_cases h2:k'=j
      · simp [h2]
      · simp [h2,ih]
structure Si (ids:List Int) (im:IM) (l:List Yv) (next:Int):Prop where
  len:ids.length=l.length
  get:∀ (i:Nat) (x:Int) (m:Yv),ids[i]?=some x→l[i]?=some m→Wa im x=some m.enc
  nodup:ids.Nodup
  lt:∀ x∈ids,x<next
theorem Si.put {ids:List Int} {im:IM} {l:List Yv} {next:Int} (h:Si ids im l next) (m:Yv):Si (ids++[next]) (Uj im next m.enc) (l++[m]) (next+1):=by
  refine ⟨by simp [h.len],fun i x m' hx hm=>?_,?_,fun x hx=>?_⟩
  · rw [imGet_put]
    rcases Nat.lt_or_ge i ids.length with hi|hi
    · rw [List.getElem?_append_left hi] at hx
      rw [List.getElem?_append_left (by rw [← h.len];exact hi)] at hm
      have:=h.lt x (List.mem_of_getElem? hx)
      rw [if_neg jC]
      exact h.get i x m' hx hm
    · rw [List.getElem?_append_right hi] at hx
      rw [List.getElem?_append_right (by rw [← h.len];exact hi)] at hm
      have h0:i-ids.length=0:=by
        have:=(List.getElem?_eq_some_iff.1 hx).1
        simpa using this
      rw [h0] at hx
      rw [← h.len,h0] at hm
      simp only [List.getElem?_cons_zero,Option.some.injEq] at hx hm
      subst hx;subst hm
      simp
  · rw [List.nodup_append]
    refine ⟨h.nodup,by simp,fun x hx y hy=>?_⟩
    simp only [List.mem_singleton] at hy
    have:=h.lt x hx
    omega
  · rcases List.mem_append.1 hx with hx|hx
    · have:=h.lt x hx;omega
    · simp only [List.mem_singleton] at hx
      omega
theorem Si.del {ids:List Int} {im:IM} {l:List Yv} {next:Int} (h:Si ids im l next) {i:Nat} {x:Int} (hx:ids[i]?=some x):Si (ids.eraseIdx i) (Sm im x) (l.eraseIdx i) next:=by
  have hi:=(List.getElem?_eq_some_iff.1 hx).1
  refine ⟨by simp [List.length_eraseIdx,h.len],fun j y m hy hm=>?_,h.nodup.eraseIdx i,fun y hy=>h.lt y (List.mem_of_mem_eraseIdx hy)⟩
  rw [List.getElem?_eraseIdx] at hy hm
  have key:∀ j',ids[j']?=some y→j'≠i→y≠x:=by
    intro j' hj' hne e
    subst e
    have h1:=(List.getElem?_eq_some_iff.1 hj').1
    have h2:=(List.getElem?_eq_some_iff.1 hj').2
    have h3:=(List.getElem?_eq_some_iff.1 hx).2
    have hp:=List.pairwise_iff_getElem.1 h.nodup
    rcases Nat.lt_trichotomy j' i with hl|hl|hl
    · exact hp j' i h1 hi hl (h2.trans h3.symm)
    · exact hne hl
    · exact hp i j' hi h1 hl (h3.trans h2.symm)
  split at hy
  · rename_i hlt
    rw [if_pos hlt] at hm
    rw [imGet_del _ _ _ (key j hy jC)]
    exact h.get j y m hy hm
  · rename_i hlt
    rw [if_neg hlt] at hm
    rw [imGet_del _ _ _ (key (j+1) hy jC)]
    exact h.get (j+1) y m hy hm
theorem Si.nil:Si [] [] [] 0:=⟨rfl,fun i x m h=>(by simp at h),List.nodup_nil,fun x h=>(by cases h)⟩
def UQ (b:Nat) (most:Int) (N:Int) (l:List Yv) (Hb:Hp):Prop :=
  ∃ (next:Int) (mb:Nat) (rv:Value) (o:Obj) (hs:Hp) (ids:List Int) (im:IM),
    Hb=(b,rowO [.one (.int .i64 most),.one (.int .i64 next),.one rv,.one (.map (some mb))] 116)::(mb,o)::hs ∧
    OSl 3 1 rv hs (ids.map (oneI .i64))∧imO o im∧Si ids im l next∧0≤next∧next≤N∧(l.length:Int)≤most∧most≤1000
theorem UQ.mono {b:Nat} {most N N':Int} {l:List Yv} {Hb:Hp} (h:UQ b most N l Hb) (hN:N≤N'):UQ b most N' l Hb:=by
  obtain ⟨next,mb,rv,o,hs,ids,im,h1,h2,h3,h4,h5,h6,h7⟩:=h
  exact ⟨next,mb,rv,o,hs,ids,im,h1,h2,h3,h4,h5,by omega,h7⟩
def putC (m:Yv) (most:Int) (l:List Yv):Int:=if m.body.size > 4096 then 2 else if most≤l.length then 12 else 0
def putL (m:Yv) (most:Int) (l:List Yv):List Yv:=if putC m most l=0 then l++[m] else l
def atM (i:Int) (l:List Yv):Yv:=if i<0 then .zero else (l[i.toNat]?).getD .zero
def atC (i:Int) (l:List Yv):Int:=if i<0∨(l.length:Int)≤i then 7 else 0
def takB (i:Int) (l:List Yv):List Yv:=if i<0 then l else l.eraseIdx i.toNat
def twiceC (i:Int) (most:Int) (l:List Yv):Int:=if atC i l=0 then putC (atM i l) most l else atC i l
def twiceL (i:Int) (most:Int) (l:List Yv):List Yv:=if atC i l=0 then putL (atM i l) most l else l
theorem put_lim (m:Yv) (most:Int) (l:List Yv) (h:(4096:Int)<m.body.size):putC m most l=2∧putL m most l=l:=by
  have:putC m most l=2:=by unfold putC;rw [if_pos jC]
  exact ⟨this,by unfold putL;rw [this];rfl⟩
theorem put_full (m:Yv) (most:Int) (l:List Yv) (h:¬(4096:Int)<m.body.size) (h2:most≤l.length):putC m most l=12∧putL m most l=l:=by
  have:putC m most l=12:=by unfold putC;rw [if_neg jC,if_pos h2]
  exact ⟨this,by unfold putL;rw [this];rfl⟩
theorem put_ok (m:Yv) (most:Int) (l:List Yv) (h:¬(4096:Int)<m.body.size) (h2:¬most≤l.length):putC m most l=0∧putL m most l=l++[m]:=by
  have:putC m most l=0:=by unfold putC;rw [if_neg jC,if_neg h2]
  exact ⟨this,by unfold putL;rw [this];rfl⟩
theorem at_none (i:Int) (l:List Yv) (h:i<0∨(l.length:Int)≤i):atM i l=.zero∧atC i l=7:=by
  unfold atM atC
  rw [if_pos h]
  refine ⟨?_,rfl⟩
  split
  · rfl
  · rw [List.getElem?_eq_none jC];rfl
theorem at_ok (i:Int) (l:List Yv) (h0:¬i<0) (h:i.toNat<l.length):atM i l=l[i.toNat]∧atC i l=0:=by
  unfold atM atC
  rw [if_neg jC,if_neg jC,List.getElem?_eq_getElem h]
  exact ⟨rfl,rfl⟩
theorem Si.at {ids:List Int} {im:IM} {l:List Yv} {next:Int} (h:Si ids im l next) (z:Value) (k:Nat) (hk:k<ids.length):(Wa im ids[k]).getD z=aggV (l[k]'(by rw [← h.len];exact hk)).segs:=by
  have:=h.get k ids[k] (l[k]'(by rw [← h.len];exact hk)) (List.getElem?_eq_getElem hk) (List.getElem?_eq_getElem _)
  rw [this];rfl
theorem oneI_cells (ids:List Int):∀ u∈ZZ (ids.map (oneI .i64)),u.oneCell'=true:=by
  intro u hu
  induction ids with
  | nil=>cases hu
  | cons x ids ih =>
    simp only [List.map_cons,ZZ,oneI,Segs.cells,Seg.cells,List.append_nil,List.cons_append,List.nil_append,List.mem_cons] at hu
    rcases hu with rfl|hu
    · rfl
    · exact ih hu
theorem atC_zero {i:Int} {l:List Yv}:atC i l=0↔0≤i∧i<l.length:=by
  unfold atC
  split
  · constructor
    · intro h;cases h
    · intro h;omega
  · constructor
    · intro h;omega
    · intro h;rfl
theorem take_none {i:Int} {l:List Yv} (h:¬atC i l=0):takB i l=l:=by
  rw [atC_zero] at h
  unfold takB
  split
  · rfl
  · exact List.eraseIdx_of_length_le jC
theorem takB_ok (k:Nat) (l:List Yv):takB (k:Int) l=l.eraseIdx k:=by
  unfold takB
  rw [if_neg jC]
  simp
theorem eraseIdx_map' {α β:Type} (f:α→β):∀ (l:List α) (k:Nat),(l.map f).eraseIdx k=(l.eraseIdx k).map f
  | [],k=>by simp
  | x::l,0=>by simp
  | x::l,k+1=>by simp [eraseIdx_map' f l k]
theorem UQ.intro {b:Nat} {most N:Int} {l:List Yv} {next:Int} {mb:Nat} {rv:Value} {o:Obj} {hs:Hp} {ids:List Int} {im:IM}
    (h1:OSl 3 1 rv hs (ids.map (oneI .i64))) (h2:imO o im) (h3:Si ids im l next) (h4:0≤next) (h5:next≤N) (h6:(l.length:Int)≤most) (h7:most≤1000) :
    UQ b most N l ((b,rowO [.one (.int .i64 most),.one (.int .i64 next),.one rv,.one (.map (some mb))] 116)::(mb,o)::hs) :=
  ⟨next,mb,rv,o,hs,ids,im,rfl,h1,h2,h3,h4,h5,h6,h7⟩
theorem at_okN (k:Nat) (l:List Yv) (h:k<l.length):atM (k:Int) l=l[k]∧atC (k:Int) l=0:=by
  have:=at_ok (k:Int) l jC zM
  simpa using this
end Go.Esp
namespace Go.Proofs.YtglnjnacodgmaaaGreatDoor.B
open Go.Esp
theorem F.bld116:Bld Tryz.prog 116 [[.one (.int .i64 0)],[.one (.int .i64 0)],[.one (.slice none 0 0)],[.one (.map none)]]:=⟨by kernel_rfl,by kernel_rfl⟩
theorem F.foff116_0:foff Tryz.prog 116 0=some 0:=by kernel_rfl
theorem F.foff116_1:foff Tryz.prog 116 1=some 1:=by kernel_rfl
theorem F.foff116_2:foff Tryz.prog 116 2=some 2:=by kernel_rfl
theorem F.foff116_3:foff Tryz.prog 116 3=some 3:=by kernel_rfl
theorem F.foff82_2:foff Tryz.prog 82 2=some 2:=by kernel_rfl
theorem F.lay114:lay Tryz.prog 114=some (false,1):=by kernel_rfl
theorem F.lay82:lay Tryz.prog 82=some (true,3):=by kernel_rfl
theorem F.map114:Su Tryz.prog 114=some (3,82):=by kernel_rfl
theorem New_no (M:Mem) (most:Int) (h:most<1∨1000<most):Fs Tryz.prog 27 [.int .i64 most] M (fun v=>v=.tuple #[.pointer none,.int .i64 1]):=by
  refine Xe Tryz.func27 rfl Tryz.ntmps27 rfl ?_;intro H
  iterate 12 refine Stp ?_
  refine Yt 6 rfl (cT fun hc1=>?_) (cF fun hc1=>?_)
  ·iterate 14 refine Stp ?_
   refine ZV (.inr rfl) (.tmp rfl (.tmp rfl .nil)) (fun w hw=>?_)
   exact ⟨_,rfl,hw.suf (by repeat first|exact Suf.refl _|refine Suf.skip ?_),rfl⟩
  ·iterate 5 refine Stp ?_
   refine ZW rfl (cT fun hc2=>?_) (cF fun hc2=>?_)
   ·iterate 8 refine Stp ?_
    refine ZV (.inr rfl) (.tmp rfl (.tmp rfl .nil)) (fun w hw=>?_)
    exact ⟨_,rfl,hw.suf (by repeat first|exact Suf.refl _|refine Suf.skip ?_),rfl⟩
   ·(exfalso;omega)
theorem New_ok (M:Mem) (most:Int) (h:1≤most∧most≤1000):Fh Tryz.prog 27 [.int .i64 most] M [] (fun M' v Hb=>M'=M∧∃ b,v=.tuple #[.pointer (some ⟨b,0,none⟩),.int .i64 0]∧UQ b most 0 [] Hb):=by
  refine Ui Tryz.func27 rfl Tryz.ntmps27 rfl ?_;intro H
  iterate 12 refine Stp ?_
  refine Yt 6 rfl (cT fun hc1=>?_) (cF fun hc1=>?_)
  ·(exfalso;omega)
  ·iterate 5 refine Stp ?_
   refine ZW rfl (cT fun hc2=>?_) (cF fun hc2=>?_)
   ·(exfalso;omega)
   ·iterate 5 refine Stp ?_
    refine X_makeMap rfl rfl rfl ?_;intro b3
    refine Xo rfl rfl F.bld116 (.cons rfl jG (.cons rfl jG .nil)) rfl rfl ?_
    refine Xq ?_;intro b4
    iterate 5 refine Stp ?_
    refine ZV (.inr rfl) (.tmp rfl (.tmp rfl .nil)) (fun w hw=>?_)
    refine ⟨_,M,_,rfl,Mem.le.refl M,hw.cnt (H':=_++H) ?_,rfl,_,rfl,0,b3,_,.map #[] 0,[],[],[],rfl,OSl.nil,⟨#[],_,rfl,rfl⟩,Si.nil,by omega,by omega,by simp;omega,by omega⟩
    intro x;simp only [WI,WC,WS,cat,List.cons_append,List.nil_append];omega
theorem Put_ok (M:Mem) (b:Nat) (most N:Int) (l:List Yv) (Hb:Hp) (m:Yv) (hN:N≤1000000000000000) (hb:UQ b most N l Hb):Fh Tryz.prog 72 [.pointer (some ⟨b,0,none⟩),m.enc] M Hb (fun M' v Hb'=>M'=M∧v=.int .i64 (putC m most l)∧UQ b most (N+1) (putL m most l) Hb'):=by
  obtain ⟨next,mb,rv,o,hs,ids,im,rfl,ho,hm,hin,hn0,hnN,hl1,hl2⟩:=hb
  obtain ⟨ad,cp,rfl⟩:=ho.val
  have hil:(ids.map (oneI .i64)).length=l.length:=by simp [hin.len]
  have hil2:ids.length=l.length:=hin.len
  refine YR (fun H=>(b,rowO [.one (.int .i64 most),Seg.one (.int .i64 next),.one _,.one (.map (some mb))] 116)::(mb,o)::(hs++H)) (fun _=>rfl) Tryz.func72 rfl Tryz.ntmps72 rfl ?_;intro H
  iterate 2 refine Stp ?_
  refine Xq ?_;intro b1
  iterate 8 refine Stp ?_
  refine Tx Tryz.underlying73 ?_
  iterate 3 refine Stp ?_
  refine ZW rfl (fun hc2=>?_) (fun hc2=>?_)
  ·skip
   (exfalso;simp [eqX] at hc2;done)
  ·skip
   iterate 2 refine Stp ?_
   refine Zi F.foff82_2 ?_;refine Zy F.lay9 ?_;refine Y_len_str Tryz.underlying9 ?_
   iterate 4 refine Stp ?_
   refine ZW rfl (cT fun hc3=>?_) (cF fun hc3=>?_)
   ·iterate 8 refine Stp ?_
    refine ZV (.inr rfl) (.tmp rfl .nil) (fun w hw=>?_)
    (have hp:=put_lim m most l jC;exact ⟨_,M,((b,_)::(mb,_)::hs),rfl,Mem.le.refl M,hw.c,rfl,by rw [hp.1];rfl,next,mb,_,o,hs,ids,im,rfl,ho,hm,by rw [hp.2];exact hin,hn0,by omega,by rw [hp.2];exact hl1,hl2⟩)
   ·refine VP ?_
    refine Yg (l:=[0,1,2,3,4,5,6,7,8,9,10]) #[0,1,3,7,15,0,32,96,224,511,1023] _ rfl jI jI St.drawn (fun _ h=>h) ?_
    iterate 2 refine Stp ?_
    refine Zi F.foff116_2 ?_;refine Zy F.lay32 ?_;refine YA F.elem32 ?_
    iterate 2 refine Stp ?_
    refine Zi F.foff116_0 ?_;refine Zy F.lay3 ?_
    iterate 4 refine Stp ?_
    refine ZW rfl (cT fun hc4=>?_) (cF fun hc4=>?_)
    ·iterate 8 refine Stp ?_
     refine ZV (.inr rfl) (.tmp rfl .nil) (fun w hw=>?_)
     (have hp:=put_full m most l jC jC;exact ⟨_,M,((b,_)::(mb,_)::hs),rfl,Mem.le.refl M,hw.c,rfl,by rw [hp.1];rfl,next,mb,_,o,hs,ids,im,rfl,ho,hm,by rw [hp.2];exact hin,hn0,by omega,by rw [hp.2];exact hl1,hl2⟩)
    ·iterate 4 refine Stp ?_
     refine Yg (l:=[0,1,2,3,4,5,6,7,8,9]) #[0,1,3,7,0,16,48,112,0,511] _ rfl jI jI St.drawn (fun _ h=>h) ?_
     iterate 2 refine Stp ?_
     refine Zi F.foff116_3 ?_;refine Zy F.lay114 ?_
     iterate 2 refine Stp ?_
     refine Zi F.foff116_1 ?_;refine Zy F.lay3 ?_;refine Zy F.lay82 ?_
     refine X_mapUpdateF rfl rfl rfl rfl rfl F.map114 jE jB ?_;intro o5 him6;refine ⟨_,jH,?_⟩
     iterate 3 refine Stp ?_
     refine Yg (l:=[0,1,2,3,4,5,6,7,8,9,10,11,12,13]) #[0,0,2,6,14,0,32,96,224,480,1022,2047,4095,8191] _ rfl jI jI St.drawn (fun _ h=>h) ?_
     iterate 3 refine Stp ?_
     refine Zi F.foff116_2 ?_;refine Zy F.lay32 ?_
     iterate 2 refine Stp ?_
     refine Zi F.foff116_1 ?_;refine Zy F.lay3 ?_
     refine YS rfl rfl F.elem32 F.zero3 rfl rfl (.cons rfl jG .nil) rfl rfl jL rfl ?_;intro b7 hob8
     refine WT (m:=1000000) rfl rfl rfl rfl rfl F.elem32 F.zero3 jR rfl jE jA (Src.own hob8.lens jO rfl jB) jN jJ rfl ?_;intro v11 hs10 ho9;obtain ⟨adv11,cpv11,rfl⟩:=ho9.val
     refine YT ?_;refine Zi F.foff116_2 ?_;refine Ya F.lay32 ?_
     iterate 6 refine Stp ?_
     refine Zi F.foff116_1 ?_;refine Zy F.lay3 ?_;refine YO rfl rfl rfl rfl rfl yA rfl ?_;refine YT ?_;refine Zi F.foff116_1 ?_;refine Ya F.lay3 ?_
     iterate 8 refine Stp ?_
     refine ZV (.inr rfl) (.tmp rfl .nil) (fun w hw=>?_)
     have hp:=put_ok m most l jC jC
     have e:(ids++[next]).map (oneI .i64)=ids.map (oneI .i64)++[[.one (.int .i64 next)]]:=by simp [oneI]
     refine ⟨_,M,((b,_)::(mb,o5)::hs10),rfl,Mem.le.refl M,?_,rfl,by rw [hp.1];rfl,next+1,mb,_,_,_,ids++[next],Uj im next m.enc,rfl,by rw [e];exact ho9,him6,by rw [hp.2];exact hin.put m,by omega,by omega,by rw [hp.2];simp;omega,hl2⟩
     exact hw.c
end Go.Proofs.YtglnjnacodgmaaaGreatDoor.B
namespace Go.Proofs.YtglnjnacodgmaaaGreatDoor.B
open Go.Esp
theorem F.bld82:Bld Tryz.prog 82 [[.one (.int .i64 0)],[.one (.int .i64 0)],[.one (.string ⟨#[]⟩)]]:=⟨by kernel_rfl,by kernel_rfl⟩
theorem F.zero82:XW Tryz.prog 82=some (aggV [.one (.int .i64 0),.one (.int .i64 0),.one (.string ⟨#[]⟩)]):=by kernel_rfl
theorem At_ok (M:Mem) (b:Nat) (most N:Int) (l:List Yv) (Hb:Hp) (i:Int) (hb:UQ b most N l Hb):Fo Tryz.prog 39 [.pointer (some ⟨b,0,none⟩),.int .i64 i] M Hb (fun M' v=>M'=M∧v=.tuple #[(atM i l).enc,.int .i64 (atC i l)]):=by
  obtain ⟨next,mb,rv,o,hs,ids,im,rfl,ho,hm,hin,hn0,hnN,hl1,hl2⟩:=hb
  obtain ⟨ad,cp,rfl⟩:=ho.val
  have hil:(ids.map (oneI .i64)).length=l.length:=by simp [hin.len]
  have hil2:ids.length=l.length:=hin.len
  have hget:=fun z k hk=>Si.at hin z k hk
  refine fo_enterF (fun H=>(b,rowO [.one (.int .i64 most),Seg.one (.int .i64 next),.one _,.one (.map (some mb))] 116)::(mb,o)::(hs++H)) (fun _=>rfl) Tryz.func39 rfl Tryz.ntmps39 rfl ?_;intro H
  iterate 2 refine Stp ?_
  refine Yz F.zero82 ?_;intro b1
  iterate 8 refine Stp ?_
  refine Tx Tryz.underlying73 ?_
  iterate 3 refine Stp ?_
  refine ZW rfl (fun hc2=>?_) (fun hc2=>?_)
  ·skip
   (exfalso;simp [eqX] at hc2;done)
  ·skip
   iterate 5 refine Stp ?_
   refine Yt 13 rfl (cT fun hc3=>?_) (cF fun hc3=>?_)
   ·iterate 14 refine Stp ?_
    refine Xo rfl rfl F.bld82 (.nil) rfl rfl ?_;refine Ya F.lay82 ?_
    iterate 6 refine Stp ?_
    refine ZV (.inr rfl) (.cell rfl jB F.lay82 rfl rfl (.tmp rfl .nil)) (fun w hw=>?_)
    (have hp:=at_none i l jC;exact ⟨_,M,rfl,Mem.le.refl M,hw.c,rfl,by rw [hp.1,hp.2];rfl⟩)
   ·iterate 3 refine Stp ?_
    refine Zi F.foff116_2 ?_;refine Zy F.lay32 ?_;refine YA F.elem32 ?_
    iterate 5 refine Stp ?_
    refine ZW rfl (cT fun hc4=>?_) (cF fun hc4=>?_)
    ·iterate 2 refine Stp ?_
     refine Xo rfl rfl F.bld82 (.nil) rfl rfl ?_;refine Ya F.lay82 ?_
     iterate 6 refine Stp ?_
     refine ZV (.inr rfl) (.cell rfl jB F.lay82 rfl rfl (.tmp rfl .nil)) (fun w hw=>?_)
     (have hp:=at_none i l jC;exact ⟨_,M,rfl,Mem.le.refl M,hw.c,rfl,by rw [hp.1,hp.2];rfl⟩)
    ·iterate 4 refine Stp ?_
     refine Yg (l:=[0,1,2,3,4,5,6,7,8,9,10,11,12,13]) #[0,1,3,7,0,16,48,112,0,496,1008,2047,4095,8191] _ rfl jI jI St.drawn (fun _ h=>h) ?_
     iterate 2 refine Stp ?_
     refine Zi F.foff116_3 ?_;refine Zy F.lay114 ?_
     iterate 2 refine Stp ?_
     refine Zi F.foff116_2 ?_;refine Zy F.lay32 ?_;refine Yk ?_;refine Ys rfl rfl rfl rfl F.elem32 (by exact (Int.toNat_of_nonneg jC).symm) jC yL rfl ?_;refine Vo rfl rfl rfl jE jA yC F.lay3 rfl rfl rfl ?_;refine X_lookup rfl rfl rfl rfl F.map114 F.zero82 jB jE (hget _ _ jC) rfl ?_;refine Ya F.lay82 ?_
     iterate 4 refine Stp ?_
     refine ZV (.inr rfl) (.cell rfl jB F.lay82 rfl rfl (.tmp rfl .nil)) (fun w hw=>?_)
     (have hp:=at_ok i l jC jC;exact ⟨_,M,rfl,Mem.le.refl M,hw.c,rfl,by rw [hp.1,hp.2];rfl⟩)
theorem Delete_ok (M:Mem) (k:Nat) (v:Value) (hs:Hp) (rows:List Segs) (ho:OSl 3 1 v hs rows) (hk:k<rows.length) (h1:∀ u∈ZZ rows,u.oneCell'=true) (hlen:rows.length≤1000000):Fh Tryz.prog 71 [v,.int .i64 (k:Int),.int .i64 ((k:Int)+1)] M hs (fun M' v hs'=>M'=M∧OSl 3 1 v hs' (rows.eraseIdx k)):=by
  obtain ⟨ad,c,rfl⟩:=ho.val
  obtain ⟨b,rfl⟩:=ho.addr jC
  obtain ⟨_,_,_,_,hcap,_⟩:=ho.inv
  have hlen2:(rows.take k++rows.drop (k+1)).length+1=rows.length:=by simp;omega
  refine Ui Tryz.func71 rfl Tryz.ntmps71 rfl ?_;intro H
  iterate 11 refine Stp ?_
  refine YA F.elem32 ?_;refine WK rfl rfl rfl (.some rfl rfl) (.some (k:=k+1) rfl jC) (.some rfl rfl) F.elem32 jK jK jK (fun _=>rfl) rfl rfl ?_
  iterate 10 refine Stp ?_
  refine ZW rfl (cT fun hc1=>?_) (cF fun hc1=>?_)
  ·(exfalso;omega)
  ·iterate 5 refine Stp ?_
   refine YA F.elem32 ?_
   iterate 4 refine Stp ?_
   refine Yg (l:=[0,1,2,3,4,5,6,7]) #[0,0,3,0,0,24,63,127] _ rfl jI jI St.drawn (fun _ h=>h) ?_
   iterate 2 refine Stp ?_
   refine WK rfl rfl rfl .none (.some rfl rfl) .none F.elem32 jK jK jK jU (show WJ (some ⟨b,0,none⟩) 1 0 k c=.slice (some ⟨b,0,none⟩) k c from pieceV_zero) rfl ?_
   iterate 2 refine Stp ?_
   refine WK rfl rfl rfl (.some (k:=k+1) rfl jC) .none .none F.elem32 jK jK jK jU (show WJ (some ⟨b,0,none⟩) 1 (k+1) rows.length c=WJ (some ⟨b,0,none⟩) 1 (k+1) rows.length c from rfl) rfl ?_
   refine X_append_in rfl rfl rfl rfl rfl F.elem32 (ho.cut jC) jA (ho.srcPiece jA h1 jC) jY rfl ?_;intro hs2 ho2
   iterate 7 refine Stp ?_
   refine YA F.elem32 ?_;refine Yk ?_;refine WK rfl rfl rfl (.some rfl rfl) (.some rfl rfl) .none F.elem32 jK jK jK jU (show WJ (some ⟨b,0,none⟩) 1 (rows.take k++rows.drop (k+1)).length rows.length c=.slice (some ⟨b,0+(rows.take k++rows.drop (k+1)).length * 1,none⟩) (rows.length-(rows.take k++rows.drop (k+1)).length) (c-(rows.take k++rows.drop (k+1)).length) from Us jC) rfl ?_
   refine X_clear_own rfl rfl rfl rfl rfl F.elem32 F.zero3 rfl jI ho2 jA jC jC putE_none ?_;intro hs3 ho3
   iterate 9 refine Stp ?_
   refine ZV (.inr rfl) (.tmp rfl .nil) (fun w hw=>?_)
   exact ⟨_,M,hs3,rfl,Mem.le.refl M,hw.c,rfl,by rw [List.eraseIdx_eq_take_drop_succ];exact ho3⟩
end Go.Proofs.YtglnjnacodgmaaaGreatDoor.B
namespace Go.Proofs.YtglnjnacodgmaaaGreatDoor.B
open Go.Esp
theorem F.ok39:okFn Tryz.prog 39=true:=by kernel_rfl
theorem F.ok71:okFn Tryz.prog 71=true:=by kernel_rfl
theorem F.ok72:okFn Tryz.prog 72=true:=by kernel_rfl
theorem Take_ok (M:Mem) (b:Nat) (most N:Int) (l:List Yv) (Hb:Hp) (i:Int) (hb:UQ b most N l Hb):Fh Tryz.prog 33 [.pointer (some ⟨b,0,none⟩),.int .i64 i] M Hb (fun M' v Hb'=>M'=M∧v=.tuple #[(atM i l).enc,.int .i64 (atC i l)]∧UQ b most N (takB i l) Hb'):=by
  obtain ⟨next,mb,rv,o,hs,ids,im,rfl,ho,hm,hin,hn0,hnN,hl1,hl2⟩:=hb
  obtain ⟨ad,cp,rfl⟩:=ho.val
  have hil:(ids.map (oneI .i64)).length=l.length:=by simp [hin.len]
  have hil2:ids.length=l.length:=hin.len
  refine YR (fun H=>(b,rowO [.one (.int .i64 most),Seg.one (.int .i64 next),.one _,.one (.map (some mb))] 116)::(mb,o)::(hs++H)) (fun _=>rfl) Tryz.func33 rfl Tryz.ntmps33 rfl ?_;intro H
  iterate 2 refine Stp ?_
  refine Yz F.zero82 ?_;intro b1
  iterate 7 refine Stp ?_
  refine X_fo rfl rfl F.ok39 rfl (At_ok M b most N l _ i (UQ.intro ho hm hin hn0 hnN hl1 hl2)) jA (ZT rfl) ?_
  rintro _ M1 _ ⟨hM1,rfl⟩;subst M1
  iterate 3 refine Stp ?_
  refine Yz F.zero82 ?_;intro b2
  refine Ya F.lay82 ?_
  iterate 10 refine Stp ?_
  refine ZW rfl (cT fun hc3=>?_) (cF fun hc3=>?_)
  ·refine VP ?_
   refine Yg (l:=[0,1,2,3,4,5,6,7,8,9,10,11]) #[0,1,3,7,0,16,48,112,0,496,1008,2047] _ rfl jI jI St.drawn (fun _ h=>h) ?_
   have hi:=atC_zero.1 ‹atC i l=0›
   obtain ⟨k,rfl⟩:∃ k:Nat,i=k:=⟨i.toNat,by omega⟩
   iterate 2 refine Stp ?_
   refine Zi F.foff116_3 ?_;refine Zy F.lay114 ?_
   iterate 2 refine Stp ?_
   refine Zi F.foff116_2 ?_;refine Zy F.lay32 ?_;refine Yk ?_;refine Ys rfl rfl rfl rfl F.elem32 jR jC yL rfl ?_;refine Vo rfl rfl rfl jE jA yC F.lay3 rfl rfl rfl ?_
   refine X_deleteF rfl rfl rfl rfl rfl F.map114 jE jB ?_;intro o4 him5;refine ⟨_,jH,?_⟩
   iterate 2 refine Stp ?_
   refine Wh (l:=[0,1,2,3,4,5,6,7,8,9,10,11]) (Hin:=hs) jA rfl ?_
   iterate 3 refine Stp ?_
   refine Zi F.foff116_2 ?_;refine Zy F.lay32 ?_
   iterate 2 refine Stp ?_
   refine YO rfl rfl rfl rfl rfl yA rfl ?_;refine WE rfl rfl F.ok71 rfl (Delete_ok M k _ _ _ ho jY (oneI_cells _) jY) jA (fun _ _ _ hm hw=>(hw.lower jV).c) (ZT rfl) ?_
   rintro v5 M2 hs5 _ ⟨hM2,ho5⟩;subst M2;obtain ⟨ad5,cp5,rfl⟩:=ho5.val
   refine YT ?_;refine Zi F.foff116_2 ?_;refine Ya F.lay32 ?_
   iterate 4 refine Stp ?_
   refine Zy F.lay82 ?_;refine Yk ?_;refine Ya F.lay82 ?_
   iterate 4 refine Stp ?_
   refine ZV (.inr rfl) (.cell rfl jB F.lay82 rfl rfl (.tmp rfl .nil)) (fun w hw=>?_)
   have h9:=hin.del (i:=k) (List.getElem?_eq_getElem jC)
   have e9:(ids.map (oneI .i64)).eraseIdx k=(ids.eraseIdx k).map (oneI .i64):=by rw [eraseIdx_map']
   refine ⟨_,M,_,rfl,Mem.le.refl M,?_,rfl,rfl,by rw [takB_ok];exact UQ.intro (mb:=mb) (by rw [← e9];exact ho5) jE h9 hn0 hnN (by rw [List.length_eraseIdx];split <;> omega) hl2⟩
   exact hw.c
  ·iterate 4 refine Stp ?_
   refine Zy F.lay82 ?_;refine Yk ?_;refine Ya F.lay82 ?_
   iterate 4 refine Stp ?_
   refine ZV (.inr rfl) (.cell rfl jB F.lay82 rfl rfl (.tmp rfl .nil)) (fun w hw=>?_)
   refine ⟨_,M,_,rfl,Mem.le.refl M,?_,rfl,rfl,by rw [take_none jE];exact UQ.intro (mb:=mb) ho hm hin hn0 hnN hl1 hl2⟩
   exact hw.c
theorem Twice_ok (M:Mem) (b:Nat) (most N:Int) (l:List Yv) (Hb:Hp) (i:Int) (hN:N≤1000000000000000) (hb:UQ b most N l Hb):Fh Tryz.prog 34 [.pointer (some ⟨b,0,none⟩),.int .i64 i] M Hb (fun M' v Hb'=>M'=M∧v=.int .i64 (twiceC i most l)∧UQ b most (N+1) (twiceL i most l) Hb'):=by
  refine Ui Tryz.func34 rfl Tryz.ntmps34 rfl ?_;intro H
  iterate 9 refine Stp ?_
  refine X_fo rfl rfl F.ok39 rfl (At_ok M b most N l _ i hb) jA (ZT rfl) ?_
  rintro _ M1 _ ⟨hM1,rfl⟩;subst M1
  iterate 3 refine Stp ?_
  refine Yz F.zero82 ?_;intro b1
  refine Ya F.lay82 ?_
  iterate 10 refine Stp ?_
  refine ZW rfl (eT fun hc2=>?_) (eF fun hc2=>?_)
  ·iterate 8 refine Stp ?_
   refine ZV (.inr rfl) (.tmp rfl .nil) (fun w hw=>?_)
   have h9:=hb.mono (N':=N+1) jC
   exact ⟨_,M,Hb,rfl,Mem.le.refl M,hw.c,rfl,by unfold twiceC;rw [if_neg jE];rfl,by unfold twiceL;rw [if_neg jE];exact h9⟩
  ·iterate 3 refine Stp ?_
   refine Wh (l:=[0,1,2,3]) (Hin:=Hb) jA rfl ?_;refine Yk ?_;refine Zy F.lay82 ?_;refine WE rfl rfl F.ok72 rfl (Put_ok M b most N l _ (atM i l) hN hb) jA (fun _ _ _ hm hw=>(hw.lower jV).c) (ZT rfl) ?_
   rintro _ M2 Hb2 _ ⟨hM2,rfl,hb2⟩;subst M2
   iterate 4 refine Stp ?_
   refine ZV (.inr rfl) (.tmp rfl .nil) (fun w hw=>?_)
   exact ⟨_,M,Hb2,rfl,Mem.le.refl M,hw.c,rfl,by unfold twiceC;rw [if_pos jC];rfl,by unfold twiceL;rw [if_pos jC];exact hb2⟩
end Go.Proofs.YtglnjnacodgmaaaGreatDoor.B
namespace Go.Esp
def ReqS (L:List Snd):Prop:=∀ s∈L,Ts s.letter.req
theorem Vh:ReqS []:=fun s hs=>by cases hs
theorem reqS_one {s:Snd} (h:Ts s.letter.req):ReqS [s]:=fun x hx=>by rw [List.mem_singleton.1 hx];exact h
theorem okReq_nx (r:Int):Ts (nxR r):=by unfold nxR Ts;omega
theorem okReq_0:Ts 0:=⟨by decide,by decide⟩
theorem UW {c:Prop} [Decidable c] {a b:Nd×List Snd} (ha:ReqS a.2) (hb:ReqS b.2):ReqS (if c then a else b).2:=by split <;> assumption
theorem req_ite3 {c:Prop} [Decidable c] {a b:Nd×List Snd×Int} (ha:ReqS a.2.1) (hb:ReqS b.2.1):ReqS (if c then a else b).2.1:=by split <;> assumption
theorem req_seek (n:Nd) (to9:Int):ReqS (SA n to9).2:=reqS_one (okReq_nx _)
theorem req_stab (n:Nd):ReqS (TA n).2:=by
  unfold TA
  dsimp only
  exact UW (req_seek _ _) (UW Vh (reqS_one (okReq_nx _)))
theorem req_fix (n:Nd):ReqS (fixN n).2:=by
  unfold fixN
  dsimp only
  exact UW Vh (UW Vh (UW Vh (req_seek _ _)))
theorem req_check (n:Nd):ReqS (Tg n).2:=by
  unfold Tg
  simp only
  split
  · exact Vh
  · exact reqS_one (okReq_nx _)
theorem req_tick (n:Nd) (k:Int):ReqS (Uh n k).2.1:=by
  unfold Uh
  dsimp only
  exact req_ite3 (UW (req_stab n) (UW (req_fix n) (req_check n))) Vh
theorem req_found (n:Nd) (l:Lt):ReqS (UK n l).2:=by
  unfold UK
  dsimp only
  exact UW Vh (UW (UW Vh (UW Vh Vh)) (UW Vh (req_seek _ _)))
theorem req_told (n:Nd) (l:Lt):ReqS (TS n l).2:=by
  unfold TS
  dsimp only
  exact UW Vh (reqS_one okReq_0)
theorem req_find (n:Nd) (l:Lt) (hl:Ts l.req):ReqS (Sn n l):=by
  unfold Sn
  dsimp only
  split
  · exact Vh
  · exact reqS_one hl
theorem req_ask (n:Nd) (l:Lt) (s:Snd) (hs:Ts s.letter.req):ReqS (if n.joined then [s] else []):=by
  split
  · exact reqS_one hs
  · exact Vh
theorem req_take (n:Nd) (l:Lt) (hl:Ts l.req):ReqS (VZ n l).2.1:=by
  unfold VZ
  exact req_ite3 (req_ite3 Vh (req_ite3 (req_find n l hl) (req_ite3 (req_found n l) (req_ite3 (req_ask n l _ hl) (req_ite3 (req_told n l) (req_ite3 Vh (req_ite3 (reqS_one hl) (req_ite3 Vh Vh)))))))) Vh
theorem req_leave (n:Nd):ReqS (TL n).1:=by
  unfold TL
  split
  · intro s hs
    simp only at hs
    rcases List.mem_append.1 hs with h|h
    · split at h
      · cases h
      · rw [List.mem_singleton.1 h];exact okReq_0
    · split at h
      · rw [List.mem_singleton.1 h];exact okReq_0
      · cases h
  · exact Vh
end Go.Esp
namespace Go.Esp
structure Ml where
  frm:Int
  zto:Int
  lt:Lt
  deriving DecidableEq
structure Rg where
  copies:Int
  most:Int
  nodes:List (Int×Nd)
  bag:List Ml
  deriving DecidableEq
def getA {α:Type} (a:Int):List (Int×α)→Option α
  | []=>none
  | (b,x)::l=>if b=a then some x else getA a l
def putA {α:Type} (a:Int) (x:α):List (Int×α)→List (Int×α)
  | []=>[(a,x)]
  | (b,y)::l=>if a<b then (a,x)::(b,y)::l else if b=a then (a,x)::l else (b,y)::putA a x l
def delA {α:Type} (a:Int) (l:List (Int×α)):List (Int×α):=l.filter fun p=>p.1≠a
def Tc (r:Rg):List Int:=r.nodes.map (·.1)
def putR (r:Rg) (frm:Int) (s:Snd):Rg:=if IsLt s.letter∧(r.bag.length:Int)<r.most then { r with bag:=r.bag++[⟨frm,s.to,s.letter⟩] } else r
def UO (r:Rg) (frm:Int) (l:List Snd):Rg:=l.foldl (fun r s=>putR r frm s) r
def Ws (r:Rg) (i:Int):Rg×Int :=
  if 0≤i∧i<r.bag.length then
    match r.bag[i.toNat]? with
    | none=>(r,7)
    | some m =>
      let r1:={ r with bag:=r.bag.eraseIdx i.toNat }
      match getA m.zto r.nodes with
      | none=>(r1,0)
      | some n=>if (VZ n m.lt).2.2=0 then (UO { r1 with nodes:=putA m.zto (VZ n m.lt).1 r1.nodes } m.zto (VZ n m.lt).2.1,0) else (r1,0)
  else (r,7)
def VX:Nat→Rg→Rg
  | 0,r=>r
  | n+1,r=>if (Ws r 0).2=0 then VX n (Ws r 0).1 else r
def TX (r:Rg) (a kind:Int):Rg×Int :=
  match getA a r.nodes with
  | none=>(r,7)
  | some n=>if (Uh n kind).2.2=0 then (UO { r with nodes:=putA a (Uh n kind).1 r.nodes } a (Uh n kind).2.1,0) else (r,(Uh n kind).2.2)
def tick1 (a:Int) (r:Rg) (k:Int):Rg:=VX 10000 (TX r a k).1
def ticksR (r:Rg) (a:Int):Rg:=[1,3,2].foldl (tick1 a) r
def TC (r:Rg):Rg:=(Tc (VX 10000 r)).foldl ticksR (VX 10000 r)
def UR (r:Rg) (a:Int) (x:Nd×Int):Rg×Int:=if x.2=0 then ({ r with nodes:=putA a x.1 r.nodes },0) else (r,x.2)
def Tp (pn:Int→Zs) (r:Rg) (a:Int):Rg×Int :=
  if ¬Yo a then (r,1) else if r.nodes≠[] then (r,13) else UR r a (Uw (pn a) r.copies)
def UU (pn:Int→Zs) (r:Rg) (a b:Int):Rg×Int :=
  if ¬Yo a∨¬Yo b∨a=b then (r,1)
  else if (getA a r.nodes).isSome then (r,9)
  else if 16≤r.nodes.length then (r,12)
  else if (getA b r.nodes).isSome=false then (r,7)
  else UR r a (UT (pn a) r.copies b)
def Sa (r:Rg) (kind a:Int):Rg×Int :=
  match getA a r.nodes with
  | none=>(r,7)
  | some n=>if kind=3 then ({ UO r a (TL n).1 with nodes:=delA a r.nodes },0) else ({ r with nodes:=delA a r.nodes },0)
def dropR (r:Rg) (i:Int):Rg×Int:=if 0≤i∧i<r.bag.length then ({ r with bag:=r.bag.eraseIdx i.toNat },0) else (r,7)
def TB (r:Rg) (i:Int):Rg×Int :=
  if 0≤i∧i<r.bag.length then
    match r.bag[i.toNat]? with
    | none=>(r,7)
    | some m=>if (r.bag.length:Int)<r.most then ({ r with bag:=r.bag++[m] },0) else (r,12)
  else (r,7)
structure Trn where
  kind:Int
  a:Int
  b:Int
  deriving DecidableEq
def doR (pn:Int→Zs) (r:Rg) (t:Trn):Rg×Int :=
  if t.kind=1 then Tp pn r t.a
  else if t.kind=2 then UU pn r t.a t.b
  else if t.kind=3∨t.kind=4 then Sa r t.kind t.a
  else if t.kind=5 then TX r t.a t.b
  else if t.kind=6 then Ws r t.a
  else if t.kind=7 then dropR r t.a
  else if t.kind=8 then TB r t.a
  else if t.kind=9 then (TC r,0)
  else (r,13)
end Go.Esp
