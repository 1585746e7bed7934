/-
  Texts of this claim, one behind the other: E14, TableX, NodeX, F1, F2, F3.
-/
import Derived.Test.YtajmnjefajknoaaGreatQL34
import Derived.KernelRfl
set_option linter.unusedSimpArgs false
set_option linter.unusedVariables false
set_option linter.unnecessarySimpa false
set_option maxRecDepth 8000
set_option maxHeartbeats 1000000
namespace Go.Proofs.YtajmnjefajknoaaGreat
open Go.Esp
theorem F.ok21:okFn Tryz.prog 21=true:=by kernel_rfl
theorem F.ok63:okFn Tryz.prog 63=true:=by kernel_rfl
theorem Leave_ok (M:Mem) (n:ZO) (hn0:ZO.ok M n):Esp.Fn Tryz.prog 25 [n.enc] M (fun M' v=>LvE M' v (leaveN n.nd)):=by
  obtain ⟨⟨⟨Za,Zb⟩,⟨Zc,Zh⟩,⟨Zj,Zi,Zg⟩,⟨Zf,Ze,Zd⟩⟩,Zq,Zu,ZF,Zx,ZN,ZC,ZA,Zw,Zr,Zy,Zp,Zz,⟨Zt,Zs,Zl⟩,ZE,ZG⟩:=n
  have Yj:ZL.ok M ⟨⟨Za,Zb⟩,⟨Zc,Zh⟩,⟨Zj,Zi,Zg⟩,⟨Zf,Ze,Zd⟩⟩:=hn0.h0
  have YQ:SlK M ZD.segs 21 ⟨Zj,Zi,Zg⟩:=hn0.h0.h0
  have s_n_table_succ:SlM M Zj (Zg.map ZD.segs) 21:=YQ.h1
  have n_n_table_succ:(Zg.map ZD.segs).length=Zg.length:=List.length_map ..
  have m_n_table_succ:Zg.length≤9223372036854775807:=YQ.h2
  have c_n_table_succ:Zg.length≤Zi:=YQ.h3
  have YD:SlK M ZD.segs 21 ⟨Zf,Ze,Zd⟩:=hn0.h0.h1
  have s_n_table_fingers:SlM M Zf (Zd.map ZD.segs) 21:=YD.h1
  have n_n_table_fingers:(Zd.map ZD.segs).length=Zd.length:=List.length_map ..
  have m_n_table_fingers:Zd.length≤9223372036854775807:=YD.h2
  have c_n_table_fingers:Zd.length≤Ze:=YD.h3
  have Ys:SlK M (oneI .i64) 1 ⟨Zt,Zs,Zl⟩:=hn0.h1
  have WY:SlM M Zt (Zl.map (oneI .i64)) 1:=Ys.h1
  have n_n_avoid:(Zl.map (oneI .i64)).length=Zl.length:=List.length_map ..
  have Vc:Zl.length≤9223372036854775807:=Ys.h2
  have c_n_avoid:Zl.length≤Zs:=Ys.h3
  refine Wu Tryz.func25 rfl Tryz.ntmps25 rfl ?_;intro H
  refine ZI (Zm (l:=[0,1,2]) rfl ?_)
  refine Xk ?_;intro b1
  iterate 2 refine ZB ?_
  refine Zo (Zn (Y_pk [3,2,1] ?_))
  iterate 2 refine ZI ?_
  refine Zm (l:=[0,1,2]) rfl ?_;refine ZH F.lay32 ?_;refine X_fs rfl rfl F.ok27 rfl (IsN_ok _ ⟨⟨⟨Za,Zb⟩,⟨Zc,Zh⟩,⟨Zj,Zi,Zg⟩,⟨Zf,Ze,Zd⟩⟩,Zq,Zu,ZF,Zx,ZN,ZC,ZA,Zw,Zr,Zy,Zp,Zz,⟨Zt,Zs,Zl⟩,ZE,ZG⟩ hn0) rfl ?_
  rintro _ rfl
  refine Xx ?_;refine Zo (Zn (Y_pk [10,3,2,1] ?_))
  refine Yx rfl (fun hc2=>?_) (fun hc2=>?_)
  ·replace hc2:=nT hc2
   refine ZI (Zm (l:=[0,1]) rfl ?_)
   iterate 2 refine ZB ?_
   refine Zo (Zn (Y_pk [3,2,1] ?_));refine Yg (YG ?_)
   refine Ya (.inr rfl) (.tmp rfl (.tmp rfl .nil)) (fun w hw=>?_)
   refine ⟨_,M,rfl,Mem.le.refl M,hw.c,⟨none,0,[]⟩,?_,?_,SlK.nil,fun y hy=>by cases hy⟩
   ·rw [leave_odd (by assumption)];rfl
   ·rw [leave_odd (by assumption)];rfl
  ·replace hc2:=nF hc2
   refine Yv (Zn (Y_pk [3,2,1] ?_));refine ZI ?_
   have hnd9:IsNd (ZO.nd ⟨⟨⟨Za,Zb⟩,⟨Zc,Zh⟩,⟨Zj,Zi,Zg⟩,⟨Zf,Ze,Zd⟩⟩,Zq,Zu,ZF,Zx,ZN,ZC,ZA,Zw,Zr,Zy,Zp,Zz,⟨Zt,Zs,Zl⟩,ZE,ZG⟩):=by assumption
   have htb9:IsTb (ZL.tb ⟨⟨Za,Zb⟩,⟨Zc,Zh⟩,⟨Zj,Zi,Zg⟩,⟨Zf,Ze,Zd⟩⟩):=hnd9.1
   have hav9:Zl.length≤16:=hnd9.2.2.2.2.1
   refine Zm (l:=[0,1,2]) rfl ?_;refine ZH F.lay32 ?_;refine VU rfl rfl F.ok36 rfl (of_ok M _ _ _ _ _ _ _ _ _ _ _ _ _ _ _ _ _ _ _ _ _ _ _ _ _ _ _ Ys (by omega)) (by repeat first|exact Rem.here _|exact Rem.two|apply Rem.skip|apply Rem.over) (fun _ _ _ hm hw=>(hw.lower (by exact hm)).c) (YA rfl) ?_
   rintro v1 M1 hs1 hm1 ⟨hM1,bw,s_a,s_c,hs9,rfl,rfl,ho9⟩;subst M1
   simp only [List.append_assoc,List.cons_append,List.nil_append]
   refine ZB ?_;refine Zo (Zn (Y_pk [4,3,2] ?_));refine ZI (Yy (l:=[0,1,2,3,4,5,6,7,8,9,10,11,12,13,14]) #[0,1,3,7,15,31,0,64,192,448,960,1984,4095,0,16383] _ rfl (by kernel_rfl) (by kernel_rfl) St.drawn (fun _ h=>h) ?_);refine Zv ?_;refine ZS ?_;refine Zk F.foff68_0 ?_;refine Zk F.foff32_0 ?_;refine Zk F.foff28_1 ?_;refine ZH F.lay25 ?_;refine Zv ?_;refine ZS ?_;refine Zk F.foff68_0 ?_;refine Zk F.foff32_0 ?_;refine Zk F.foff28_2 ?_;refine ZH F.lay26 ?_;refine Xg rfl rfl F.bld44 (.cons rfl (by constructor) (.cons rfl (by constructor) (.cons rfl (by constructor) .nil))) rfl rfl ?_
   refine YT F.zero44 ?_;intro b3
   refine X_store rfl rfl rfl rfl (by constructor) (by ((try simp only [cat,List.cons_append,List.nil_append,List.append_nil]);(repeat (first|exact XA|refine XC ?_|(refine YF ?_ ?_;rfl)));done)) (by repeat first|exact Upd.head|apply Upd.tail|apply Upd.over) F.lay44 (by simp only [ZD.segs,ZL.segs,ZO.segs,ZM.segs,Yd.segs,ZQ.segs,YI.segs,ZX.segs,cat,List.append_eq,List.cons_append,List.nil_append,List.append_nil,Segs.len,Seg.len,Yq]) (put_all (m:=67) rfl (by simp only [ZD.segs,ZL.segs,ZO.segs,ZM.segs,Yd.segs,ZQ.segs,YI.segs,ZX.segs,cat,List.append_eq,List.cons_append,List.nil_append,List.append_nil,Segs.len,Seg.len,Yq]) (by simp only [ZD.segs,ZL.segs,ZO.segs,ZM.segs,Yd.segs,ZQ.segs,YI.segs,ZX.segs,cat,List.append_eq,List.cons_append,List.nil_append,List.append_nil,Segs.len,Seg.len,Yq])) ?_
   refine Zo (Zn (Y_pk [5,4,3,2] ?_))
   iterate 2 refine ZI ?_
   refine Zm (l:=[0,1,2,3,4,5,6,7]) rfl ?_;refine Zv ?_;refine ZS ?_;refine Zk F.foff68_0 ?_;refine Zk F.foff32_0 ?_;refine ZH F.lay28 ?_;refine X_fs rfl rfl F.ok41 rfl (Vt _ ⟨⟨Za,Zb⟩,⟨Zc,Zh⟩,⟨Zj,Zi,Zg⟩,⟨Zf,Ze,Zd⟩⟩ Yj) rfl ?_
   rintro _ rfl
   obtain ⟨⟨fa,fi⟩,hfi⟩:∃ x,Xl (ZL.tb ⟨⟨Za,Zb⟩,⟨Zc,Zh⟩,⟨Zj,Zi,Zg⟩,⟨Zf,Ze,Zd⟩⟩)=x:=⟨_,rfl⟩
   rw [hfi]
   refine YT F.zero25 ?_;intro b4
   refine Yi F.lay25 ?_;refine Zo (Zn (Y_pk [6,5,4,3,2] ?_));refine ZI (Yy (l:=[0,1,2,3,4,5,6,7]) #[0,0,2,6,14,30,62,127] _ rfl (by kernel_rfl) (by kernel_rfl) St.drawn (fun _ h=>h) ?_);refine ZH F.lay25 ?_;refine Zv ?_;refine ZS ?_;refine Zk F.foff68_0 ?_;refine Zk F.foff32_0 ?_;refine Zk F.foff28_0 ?_;refine ZH F.lay25 ?_
   refine Wf (m:=20) rfl rfl rfl rfl rfl (by constructor) (by constructor) F.lay25 F.kinds25 rfl F.guard25 (by exact Xf (⟨_,_⟩)) (by exact Xf (⟨_,_⟩)) rfl rfl rfl ?_;intro c5 he6
   replace he6:c5=true↔¬(Segs.cells _=Segs.cells _):=he6
   obtain rfl:=neD he6 (ZD.inj (x:=⟨_,_⟩) (y:=⟨_,_⟩));clear he6
   refine Zo (Zn (Y_pk [39,6,5,4,3,2] ?_))
   refine Yx rfl (fun hc7=>?_) (fun hc7=>?_)
   ·replace hc7:=nT hc7
    refine Xq (l:=[0,1,2,3,4]) [4] rfl ?_;refine Zv ?_;refine Zk F.foff25_0 ?_;refine ZH F.lay3 ?_;refine ZH F.lay44 ?_;refine Ww rfl rfl rfl F.ok65 rfl (send_ok M bw Za Zb Zc Zh Zj Zf s_a Zi Ze s_c Zg Zd Zl Zq Zu ZF Zx ZN ZC ZA Zw Zr Zy Zp Zz ZE ZG none 0 [] [] OSl.nil (by simp) fa ⟨8,⟨0,0⟩,0,0,⟨none,0,[]⟩,false,⟨Zc,Zh⟩,⟨Zj,Zi,Zg⟩⟩) (by repeat first|exact Rem.here _|exact Rem.two|apply Rem.skip|apply Rem.over) (YA rfl) ?_
    rintro _ M1 hsA hm1 ⟨hM1,rfl,⟨oA_a,oA_c,oA_l⟩,hoA,rfl,hOA,hlA⟩;subst M1
    simp only at hlA hOA
    simp only [List.nil_append] at hlA
    have hcA:oA_l.length≤1000:=by rw [hlA];simp
    simp only [List.append_assoc,List.cons_append,List.nil_append]
    refine Zo (Wk ?_);refine Zn (Y_pk [5,4,3,2] ?_)
    iterate 2 refine ZI ?_
    refine Zm (l:=[0,1,2,3,4,5,6,7]) rfl ?_;refine Zv ?_;refine ZS ?_;refine Zk F.foff68_0 ?_;refine Zk F.foff32_0 ?_;refine Zk F.foff28_1 ?_;refine ZH F.lay25 ?_
    refine YT F.zero25 ?_;intro b8
    refine Yi F.lay25 ?_;refine Zo (Zn (Y_pk [7,5,4,3,2] ?_));refine ZI (Yy (l:=[0,1,2,3,4,5,6,7,8,9,10,11,12]) #[0,0,3,7,15,15,47,111,239,495,1007,2047,4095] _ rfl (by kernel_rfl) (by kernel_rfl) St.drawn (fun _ h=>h) ?_);refine ZH F.lay25 ?_;refine X_fs rfl rfl F.ok66 rfl (WO _) rfl ?_
    rintro _ rfl
    refine WV 52 rfl (show _=aggV [.one (.int .i64 (-1)),Yq 0] from rfl) ?_
    refine Wf (m:=20) rfl rfl rfl rfl rfl (by constructor) (by constructor) F.lay25 F.kinds25 rfl F.guard25 (by exact Xf (⟨_,_⟩)) (by exact Xf (⟨_,_⟩)) rfl rfl rfl ?_;intro c9 he10
    replace he10:c9=true↔¬(Segs.cells _=Segs.cells _):=he10
    obtain rfl:=neD he10 (ZD.inj (x:=⟨_,_⟩) (y:=⟨_,_⟩));clear he10
    refine Zv ?_
    refine Yh 54 rfl (fun hc11=>?_) (fun hc11=>?_)
    ·replace hc11:=nT hc11
     refine ZH F.lay25 ?_;refine Zv ?_;refine ZS ?_;refine Zk F.foff68_0 ?_;refine Zk F.foff32_0 ?_;refine ZH F.lay28 ?_;refine X_fs rfl rfl F.ok41 rfl (Vt _ ⟨⟨Za,Zb⟩,⟨Zc,Zh⟩,⟨Zj,Zi,Zg⟩,⟨Zf,Ze,Zd⟩⟩ Yj) rfl ?_
     rintro _ rfl
     rw [hfi]
     refine Wf (m:=20) rfl rfl rfl rfl rfl (by constructor) (by constructor) F.lay25 F.kinds25 rfl F.guard25 (by exact Xf (⟨_,_⟩)) (by exact Xf _) rfl rfl rfl ?_;intro c12 he13
     replace he13:c12=true↔¬(Segs.cells _=Segs.cells _):=he13
     obtain rfl:=neD he13 (ZD.inj (x:=⟨_,_⟩) (y:=⟨_,_⟩));clear he13
     refine ZK ?_;refine Zo (Zn (Y_pk [63,7,5,4,3,2] ?_))
     refine Yx rfl (fun hc14=>?_) (fun hc14=>?_)
     ·replace hc14:=nT hc14
      refine Xq (l:=[0,1,2,3,4]) [4] rfl ?_;refine Zv ?_;refine Zk F.foff25_0 ?_;refine ZH F.lay3 ?_;refine ZH F.lay44 ?_;refine Ww rfl rfl rfl F.ok65 rfl (send_ok M bw Za Zb Zc Zh Zj Zf s_a Zi Ze s_c Zg Zd Zl Zq Zu ZF Zx ZN ZC ZA Zw Zr Zy Zp Zz ZE ZG oA_a oA_c oA_l hoA hOA hcA Zc ⟨8,⟨0,0⟩,0,0,⟨none,0,[]⟩,false,⟨Zc,Zh⟩,⟨Zj,Zi,Zg⟩⟩) (by repeat first|exact Rem.here _|exact Rem.two|apply Rem.skip|apply Rem.over) (YA rfl) ?_
      rintro _ M1 hsB hm1 ⟨hM1,rfl,⟨oB_a,oB_c,oB_l⟩,hoB,rfl,hOB,hlB⟩;subst M1
      simp only at hlB hOB
      simp only [List.append_assoc,List.cons_append,List.nil_append]
      refine Zo (Wk ?_);refine Zn (Y_pk [4,3,2] ?_);refine ZI (Zm (l:=[0,1,2,3,4,5]) rfl ?_);refine Zv ?_;refine ZS ?_;refine Zk F.foff68_1 ?_;refine ZH F.lay35 ?_
      iterate 2 refine ZB ?_
      refine Zo (Zn (Y_pk [3,2] ?_));refine Yg ?_
      refine Ya (.inr rfl) (.tmp rfl (.tmp rfl .nil)) (fun w hw=>?_)
      have hs0:0<Zg.length:=first_ne (t:=ZL.tb ⟨⟨Za,Zb⟩,⟨Zc,Zh⟩,⟨Zj,Zi,Zg⟩,⟨Zf,Ze,Zd⟩⟩) (by rw [hfi];show (⟨fa,fi⟩:ZD)≠⟨Za,Zb⟩;assumption)
      have hf0:Zg[0]=⟨fa,fi⟩:=(first_at (t:=ZL.tb ⟨⟨Za,Zb⟩,⟨Zc,Zh⟩,⟨Zj,Zi,Zg⟩,⟨Zf,Ze,Zd⟩⟩) hs0).symm.trans hfi
      have h3:=Vk (n:=ZO.nd ⟨⟨⟨Za,Zb⟩,⟨Zc,Zh⟩,⟨Zj,Zi,Zg⟩,⟨Zf,Ze,Zd⟩⟩,Zq,Zu,ZF,Zx,ZN,ZC,ZA,Zw,Zr,Zy,Zp,Zz,⟨Zt,Zs,Zl⟩,ZE,ZG⟩) (a:=[Yd.snd (⟨fa,(⟨8,⟨Za,Zb⟩,0,0,⟨none,0,[]⟩,false,⟨Zc,Zh⟩,⟨Zj,Zi,Zg⟩⟩:ZM)⟩:Yd)]) (b:=[Yd.snd (⟨Zc,(⟨8,⟨Za,Zb⟩,0,0,⟨none,0,[]⟩,false,⟨Zc,Zh⟩,⟨Zj,Zi,Zg⟩⟩:ZM)⟩:Yd)]) hnd9 (.inr ⟨hs0,by show [Yd.snd (⟨fa,(⟨8,⟨Za,Zb⟩,0,0,⟨none,0,[]⟩,false,⟨Zc,Zh⟩,⟨Zj,Zi,Zg⟩⟩:ZM)⟩:Yd)]=[Yd.snd (⟨Zg[0].addr,(⟨8,⟨Za,Zb⟩,0,0,⟨none,0,[]⟩,false,⟨Zc,Zh⟩,⟨Zj,Zi,Zg⟩⟩:ZM)⟩:Yd)];rw [hf0]⟩) (.inr ⟨⟨show (⟨Zc,Zh⟩:ZD)≠YW by first|assumption|(simp_all;done),show (⟨Zc,Zh⟩:ZD)≠Xl (ZL.tb ⟨⟨Za,Zb⟩,⟨Zc,Zh⟩,⟨Zj,Zi,Zg⟩,⟨Zf,Ze,Zd⟩⟩) from by rw [hfi];first|assumption|(simp_all;done)⟩,rfl⟩)
      obtain ⟨M9,j1,j2,j3⟩:=OSl.frz (H:=H) hOB (hw.c)
      refine ⟨_,M9,rfl,j1,j2,⟨oB_a,oB_c,oB_l⟩,?_,?_,j3,fun y hy=>?_⟩
      ·rw [h3] <;> rfl
      ·rw [h3]
       show sndl oB_l=_
       rw [hlB,hlA];rfl
      ·simp only at hy
       rw [hlB,hlA] at hy
       have k8:=Yj.h0.mono j1
       simp only [List.mem_append,List.mem_cons,List.not_mem_nil,or_false] at hy
       rcases hy with rfl|rfl <;> exact ⟨⟨SlK.nil,k8⟩⟩
     ·replace hc14:=nF hc14
      refine Yv (Zn (Y_pk [4,3,2] ?_));refine ZI (Zm (l:=[0,1,2,3,4,5]) rfl ?_);refine Zv ?_;refine ZS ?_;refine Zk F.foff68_1 ?_;refine ZH F.lay35 ?_
      iterate 2 refine ZB ?_
      refine Zo (Zn (Y_pk [3,2] ?_));refine Yg ?_
      refine Ya (.inr rfl) (.tmp rfl (.tmp rfl .nil)) (fun w hw=>?_)
      have hs0:0<Zg.length:=first_ne (t:=ZL.tb ⟨⟨Za,Zb⟩,⟨Zc,Zh⟩,⟨Zj,Zi,Zg⟩,⟨Zf,Ze,Zd⟩⟩) (by rw [hfi];show (⟨fa,fi⟩:ZD)≠⟨Za,Zb⟩;assumption)
      have hf0:Zg[0]=⟨fa,fi⟩:=(first_at (t:=ZL.tb ⟨⟨Za,Zb⟩,⟨Zc,Zh⟩,⟨Zj,Zi,Zg⟩,⟨Zf,Ze,Zd⟩⟩) hs0).symm.trans hfi
      have h3:=Vk (n:=ZO.nd ⟨⟨⟨Za,Zb⟩,⟨Zc,Zh⟩,⟨Zj,Zi,Zg⟩,⟨Zf,Ze,Zd⟩⟩,Zq,Zu,ZF,Zx,ZN,ZC,ZA,Zw,Zr,Zy,Zp,Zz,⟨Zt,Zs,Zl⟩,ZE,ZG⟩) (a:=[Yd.snd (⟨fa,(⟨8,⟨Za,Zb⟩,0,0,⟨none,0,[]⟩,false,⟨Zc,Zh⟩,⟨Zj,Zi,Zg⟩⟩:ZM)⟩:Yd)]) (b:=[]) hnd9 (.inr ⟨hs0,by show [Yd.snd (⟨fa,(⟨8,⟨Za,Zb⟩,0,0,⟨none,0,[]⟩,false,⟨Zc,Zh⟩,⟨Zj,Zi,Zg⟩⟩:ZM)⟩:Yd)]=[Yd.snd (⟨Zg[0].addr,(⟨8,⟨Za,Zb⟩,0,0,⟨none,0,[]⟩,false,⟨Zc,Zh⟩,⟨Zj,Zi,Zg⟩⟩:ZM)⟩:Yd)];rw [hf0]⟩) (.inl ⟨by first|(refine .inl ?_;show (⟨Zc,Zh⟩:ZD)=YW;assumption)|(refine .inr ?_;show (⟨Zc,Zh⟩:ZD)=Xl (ZL.tb ⟨⟨Za,Zb⟩,⟨Zc,Zh⟩,⟨Zj,Zi,Zg⟩,⟨Zf,Ze,Zd⟩⟩);rw [hfi];assumption)|(refine .inl ?_;show (⟨Zc,Zh⟩:ZD)=YW;simp_all;done)|(refine .inr ?_;show (⟨Zc,Zh⟩:ZD)=Xl (ZL.tb ⟨⟨Za,Zb⟩,⟨Zc,Zh⟩,⟨Zj,Zi,Zg⟩,⟨Zf,Ze,Zd⟩⟩);rw [hfi];simp_all;done),rfl⟩)
      obtain ⟨M9,j1,j2,j3⟩:=OSl.frz (H:=H) hOA (hw.c)
      refine ⟨_,M9,rfl,j1,j2,⟨oA_a,oA_c,oA_l⟩,?_,?_,j3,fun y hy=>?_⟩
      ·rw [h3] <;> rfl
      ·rw [h3]
       show sndl oA_l=_
       rw [hlA];rfl
      ·simp only at hy
       rw [hlA] at hy
       have k8:=Yj.h0.mono j1
       simp only [List.mem_append,List.mem_cons,List.not_mem_nil,or_false] at hy
       subst hy
       exact ⟨⟨SlK.nil,k8⟩⟩
    ·replace hc11:=nF hc11
     iterate 8 refine ZU ?_
     refine ZK ?_;refine Zo (Zn (Y_pk [63,7,5,4,3,2] ?_));refine Ws rfl ?_;refine Yv (Zn (Y_pk [4,3,2] ?_));refine ZI (Zm (l:=[0,1,2,3,4,5]) rfl ?_);refine Zv ?_;refine ZS ?_;refine Zk F.foff68_1 ?_;refine ZH F.lay35 ?_
     iterate 2 refine ZB ?_
     refine Zo (Zn (Y_pk [3,2] ?_));refine Yg ?_
     refine Ya (.inr rfl) (.tmp rfl (.tmp rfl .nil)) (fun w hw=>?_)
     have hs0:0<Zg.length:=first_ne (t:=ZL.tb ⟨⟨Za,Zb⟩,⟨Zc,Zh⟩,⟨Zj,Zi,Zg⟩,⟨Zf,Ze,Zd⟩⟩) (by rw [hfi];show (⟨fa,fi⟩:ZD)≠⟨Za,Zb⟩;assumption)
     have hf0:Zg[0]=⟨fa,fi⟩:=(first_at (t:=ZL.tb ⟨⟨Za,Zb⟩,⟨Zc,Zh⟩,⟨Zj,Zi,Zg⟩,⟨Zf,Ze,Zd⟩⟩) hs0).symm.trans hfi
     have h3:=Vk (n:=ZO.nd ⟨⟨⟨Za,Zb⟩,⟨Zc,Zh⟩,⟨Zj,Zi,Zg⟩,⟨Zf,Ze,Zd⟩⟩,Zq,Zu,ZF,Zx,ZN,ZC,ZA,Zw,Zr,Zy,Zp,Zz,⟨Zt,Zs,Zl⟩,ZE,ZG⟩) (a:=[Yd.snd (⟨fa,(⟨8,⟨Za,Zb⟩,0,0,⟨none,0,[]⟩,false,⟨Zc,Zh⟩,⟨Zj,Zi,Zg⟩⟩:ZM)⟩:Yd)]) (b:=[]) hnd9 (.inr ⟨hs0,by show [Yd.snd (⟨fa,(⟨8,⟨Za,Zb⟩,0,0,⟨none,0,[]⟩,false,⟨Zc,Zh⟩,⟨Zj,Zi,Zg⟩⟩:ZM)⟩:Yd)]=[Yd.snd (⟨Zg[0].addr,(⟨8,⟨Za,Zb⟩,0,0,⟨none,0,[]⟩,false,⟨Zc,Zh⟩,⟨Zj,Zi,Zg⟩⟩:ZM)⟩:Yd)];rw [hf0]⟩) (.inl ⟨by first|(refine .inl ?_;show (⟨Zc,Zh⟩:ZD)=YW;assumption)|(refine .inr ?_;show (⟨Zc,Zh⟩:ZD)=Xl (ZL.tb ⟨⟨Za,Zb⟩,⟨Zc,Zh⟩,⟨Zj,Zi,Zg⟩,⟨Zf,Ze,Zd⟩⟩);rw [hfi];assumption)|(refine .inl ?_;show (⟨Zc,Zh⟩:ZD)=YW;simp_all;done)|(refine .inr ?_;show (⟨Zc,Zh⟩:ZD)=Xl (ZL.tb ⟨⟨Za,Zb⟩,⟨Zc,Zh⟩,⟨Zj,Zi,Zg⟩,⟨Zf,Ze,Zd⟩⟩);rw [hfi];simp_all;done),rfl⟩)
     obtain ⟨M9,j1,j2,j3⟩:=OSl.frz (H:=H) hOA (hw.c)
     refine ⟨_,M9,rfl,j1,j2,⟨oA_a,oA_c,oA_l⟩,?_,?_,j3,fun y hy=>?_⟩
     ·rw [h3] <;> rfl
     ·rw [h3]
      show sndl oA_l=_
      rw [hlA];rfl
     ·simp only at hy
      rw [hlA] at hy
      have k8:=Yj.h0.mono j1
      simp only [List.mem_append,List.mem_cons,List.not_mem_nil,or_false] at hy
      subst hy
      exact ⟨⟨SlK.nil,k8⟩⟩
   ·replace hc7:=nF hc7
    refine Yv (Zn (Y_pk [5,4,3,2] ?_))
    iterate 2 refine ZI ?_
    refine Zm (l:=[0,1,2,3,4,5,6,7]) rfl ?_;refine Zv ?_;refine ZS ?_;refine Zk F.foff68_0 ?_;refine Zk F.foff32_0 ?_;refine Zk F.foff28_1 ?_;refine ZH F.lay25 ?_
    refine YT F.zero25 ?_;intro b15
    refine Yi F.lay25 ?_;refine Zo (Zn (Y_pk [7,5,4,3,2] ?_));refine ZI (Yy (l:=[0,1,2,3,4,5,6,7,8,9,10,11,12]) #[0,0,3,7,15,15,47,111,239,495,1007,2047,4095] _ rfl (by kernel_rfl) (by kernel_rfl) St.drawn (fun _ h=>h) ?_);refine ZH F.lay25 ?_;refine X_fs rfl rfl F.ok66 rfl (WO _) rfl ?_
    rintro _ rfl
    refine WV 52 rfl (show _=aggV [.one (.int .i64 (-1)),Yq 0] from rfl) ?_
    refine Wf (m:=20) rfl rfl rfl rfl rfl (by constructor) (by constructor) F.lay25 F.kinds25 rfl F.guard25 (by exact Xf (⟨_,_⟩)) (by exact Xf (⟨_,_⟩)) rfl rfl rfl ?_;intro c16 he17
    replace he17:c16=true↔¬(Segs.cells _=Segs.cells _):=he17
    obtain rfl:=neD he17 (ZD.inj (x:=⟨_,_⟩) (y:=⟨_,_⟩));clear he17
    refine Zv ?_
    refine Yh 54 rfl (fun hc18=>?_) (fun hc18=>?_)
    ·replace hc18:=nT hc18
     refine ZH F.lay25 ?_;refine Zv ?_;refine ZS ?_;refine Zk F.foff68_0 ?_;refine Zk F.foff32_0 ?_;refine ZH F.lay28 ?_;refine X_fs rfl rfl F.ok41 rfl (Vt _ ⟨⟨Za,Zb⟩,⟨Zc,Zh⟩,⟨Zj,Zi,Zg⟩,⟨Zf,Ze,Zd⟩⟩ Yj) rfl ?_
     rintro _ rfl
     rw [hfi]
     refine Wf (m:=20) rfl rfl rfl rfl rfl (by constructor) (by constructor) F.lay25 F.kinds25 rfl F.guard25 (by exact Xf (⟨_,_⟩)) (by exact Xf _) rfl rfl rfl ?_;intro c19 he20
     replace he20:c19=true↔¬(Segs.cells _=Segs.cells _):=he20
     obtain rfl:=neD he20 (ZD.inj (x:=⟨_,_⟩) (y:=⟨_,_⟩));clear he20
     refine ZK ?_;refine Zo (Zn (Y_pk [63,7,5,4,3,2] ?_))
     refine Yx rfl (fun hc21=>?_) (fun hc21=>?_)
     ·replace hc21:=nT hc21
      refine Xq (l:=[0,1,2,3,4]) [4] rfl ?_;refine Zv ?_;refine Zk F.foff25_0 ?_;refine ZH F.lay3 ?_;refine ZH F.lay44 ?_;refine Ww rfl rfl rfl F.ok65 rfl (send_ok M bw Za Zb Zc Zh Zj Zf s_a Zi Ze s_c Zg Zd Zl Zq Zu ZF Zx ZN ZC ZA Zw Zr Zy Zp Zz ZE ZG none 0 [] [] OSl.nil (by simp) Zc ⟨8,⟨0,0⟩,0,0,⟨none,0,[]⟩,false,⟨Zc,Zh⟩,⟨Zj,Zi,Zg⟩⟩) (by repeat first|exact Rem.here _|exact Rem.two|apply Rem.skip|apply Rem.over) (YA rfl) ?_
      rintro _ M1 hsB hm1 ⟨hM1,rfl,⟨oB_a,oB_c,oB_l⟩,hoB,rfl,hOB,hlB⟩;subst M1
      simp only at hlB hOB
      simp only [List.nil_append] at hlB
      simp only [List.append_assoc,List.cons_append,List.nil_append]
      refine Zo (Wk ?_);refine Zn (Y_pk [4,3,2] ?_);refine ZI (Zm (l:=[0,1,2,3,4,5]) rfl ?_);refine Zv ?_;refine ZS ?_;refine Zk F.foff68_1 ?_;refine ZH F.lay35 ?_
      iterate 2 refine ZB ?_
      refine Zo (Zn (Y_pk [3,2] ?_));refine Yg ?_
      refine Ya (.inr rfl) (.tmp rfl (.tmp rfl .nil)) (fun w hw=>?_)
      have h3:=Vk (n:=ZO.nd ⟨⟨⟨Za,Zb⟩,⟨Zc,Zh⟩,⟨Zj,Zi,Zg⟩,⟨Zf,Ze,Zd⟩⟩,Zq,Zu,ZF,Zx,ZN,ZC,ZA,Zw,Zr,Zy,Zp,Zz,⟨Zt,Zs,Zl⟩,ZE,ZG⟩) (a:=[]) (b:=[Yd.snd (⟨Zc,(⟨8,⟨Za,Zb⟩,0,0,⟨none,0,[]⟩,false,⟨Zc,Zh⟩,⟨Zj,Zi,Zg⟩⟩:ZM)⟩:Yd)]) hnd9 (.inl ⟨first_eq (t:=ZL.tb ⟨⟨Za,Zb⟩,⟨Zc,Zh⟩,⟨Zj,Zi,Zg⟩,⟨Zf,Ze,Zd⟩⟩) htb9 (by rw [hfi];show (⟨fa,fi⟩:ZD)=⟨Za,Zb⟩;first|assumption|(simp_all;done)),rfl⟩) (.inr ⟨⟨show (⟨Zc,Zh⟩:ZD)≠YW by first|assumption|(simp_all;done),show (⟨Zc,Zh⟩:ZD)≠Xl (ZL.tb ⟨⟨Za,Zb⟩,⟨Zc,Zh⟩,⟨Zj,Zi,Zg⟩,⟨Zf,Ze,Zd⟩⟩) from by rw [hfi];first|assumption|(simp_all;done)⟩,rfl⟩)
      obtain ⟨M9,j1,j2,j3⟩:=OSl.frz (H:=H) hOB (hw.c)
      refine ⟨_,M9,rfl,j1,j2,⟨oB_a,oB_c,oB_l⟩,?_,?_,j3,fun y hy=>?_⟩
      ·rw [h3] <;> rfl
      ·rw [h3]
       show sndl oB_l=_
       rw [hlB];rfl
      ·simp only at hy
       rw [hlB] at hy
       have k8:=Yj.h0.mono j1
       simp only [List.mem_append,List.mem_cons,List.not_mem_nil,or_false] at hy
       subst hy
       exact ⟨⟨SlK.nil,k8⟩⟩
     ·replace hc21:=nF hc21
      refine Yv (Zn (Y_pk [4,3,2] ?_));refine ZI (Zm (l:=[0,1,2,3,4,5]) rfl ?_);refine Zv ?_;refine ZS ?_;refine Zk F.foff68_1 ?_;refine ZH F.lay35 ?_
      iterate 2 refine ZB ?_
      refine Zo (Zn (Y_pk [3,2] ?_));refine Yg ?_
      refine Ya (.inr rfl) (.tmp rfl (.tmp rfl .nil)) (fun w hw=>?_)
      have h3:=Vk (n:=ZO.nd ⟨⟨⟨Za,Zb⟩,⟨Zc,Zh⟩,⟨Zj,Zi,Zg⟩,⟨Zf,Ze,Zd⟩⟩,Zq,Zu,ZF,Zx,ZN,ZC,ZA,Zw,Zr,Zy,Zp,Zz,⟨Zt,Zs,Zl⟩,ZE,ZG⟩) (a:=[]) (b:=[]) hnd9 (.inl ⟨first_eq (t:=ZL.tb ⟨⟨Za,Zb⟩,⟨Zc,Zh⟩,⟨Zj,Zi,Zg⟩,⟨Zf,Ze,Zd⟩⟩) htb9 (by rw [hfi];show (⟨fa,fi⟩:ZD)=⟨Za,Zb⟩;first|assumption|(simp_all;done)),rfl⟩) (.inl ⟨by first|(refine .inl ?_;show (⟨Zc,Zh⟩:ZD)=YW;assumption)|(refine .inr ?_;show (⟨Zc,Zh⟩:ZD)=Xl (ZL.tb ⟨⟨Za,Zb⟩,⟨Zc,Zh⟩,⟨Zj,Zi,Zg⟩,⟨Zf,Ze,Zd⟩⟩);rw [hfi];assumption)|(refine .inl ?_;show (⟨Zc,Zh⟩:ZD)=YW;simp_all;done)|(refine .inr ?_;show (⟨Zc,Zh⟩:ZD)=Xl (ZL.tb ⟨⟨Za,Zb⟩,⟨Zc,Zh⟩,⟨Zj,Zi,Zg⟩,⟨Zf,Ze,Zd⟩⟩);rw [hfi];simp_all;done),rfl⟩)
      exact ⟨_,M,rfl,Mem.le.refl M,hw.c,⟨none,0,[]⟩,by rw [h3] <;> rfl,by rw [h3] <;> rfl,SlK.nil,fun y hy=>by cases hy⟩
    ·replace hc18:=nF hc18
     iterate 8 refine ZU ?_
     refine ZK ?_;refine Zo (Zn (Y_pk [63,7,5,4,3,2] ?_));refine Ws rfl ?_;refine Yv (Zn (Y_pk [4,3,2] ?_));refine ZI (Zm (l:=[0,1,2,3,4,5]) rfl ?_);refine Zv ?_;refine ZS ?_;refine Zk F.foff68_1 ?_;refine ZH F.lay35 ?_
     iterate 2 refine ZB ?_
     refine Zo (Zn (Y_pk [3,2] ?_));refine Yg ?_
     refine Ya (.inr rfl) (.tmp rfl (.tmp rfl .nil)) (fun w hw=>?_)
     have h3:=Vk (n:=ZO.nd ⟨⟨⟨Za,Zb⟩,⟨Zc,Zh⟩,⟨Zj,Zi,Zg⟩,⟨Zf,Ze,Zd⟩⟩,Zq,Zu,ZF,Zx,ZN,ZC,ZA,Zw,Zr,Zy,Zp,Zz,⟨Zt,Zs,Zl⟩,ZE,ZG⟩) (a:=[]) (b:=[]) hnd9 (.inl ⟨first_eq (t:=ZL.tb ⟨⟨Za,Zb⟩,⟨Zc,Zh⟩,⟨Zj,Zi,Zg⟩,⟨Zf,Ze,Zd⟩⟩) htb9 (by rw [hfi];show (⟨fa,fi⟩:ZD)=⟨Za,Zb⟩;first|assumption|(simp_all;done)),rfl⟩) (.inl ⟨by first|(refine .inl ?_;show (⟨Zc,Zh⟩:ZD)=YW;assumption)|(refine .inr ?_;show (⟨Zc,Zh⟩:ZD)=Xl (ZL.tb ⟨⟨Za,Zb⟩,⟨Zc,Zh⟩,⟨Zj,Zi,Zg⟩,⟨Zf,Ze,Zd⟩⟩);rw [hfi];assumption)|(refine .inl ?_;show (⟨Zc,Zh⟩:ZD)=YW;simp_all;done)|(refine .inr ?_;show (⟨Zc,Zh⟩:ZD)=Xl (ZL.tb ⟨⟨Za,Zb⟩,⟨Zc,Zh⟩,⟨Zj,Zi,Zg⟩,⟨Zf,Ze,Zd⟩⟩);rw [hfi];simp_all;done),rfl⟩)
     exact ⟨_,M,rfl,Mem.le.refl M,hw.c,⟨none,0,[]⟩,by rw [h3] <;> rfl,by rw [h3] <;> rfl,SlK.nil,fun y hy=>by cases hy⟩
theorem Alone_ok (M:Mem) (self:ZD) (r:Int):Esp.Fn Tryz.prog 21 [self.enc,.int .i64 r] M (fun M' v=>NeE M' v (VE self r)):=by
  obtain ⟨self_addr,self_id⟩:=self
  refine Wu Tryz.func21 rfl Tryz.ntmps21 rfl ?_;intro H
  refine ZI (Zm (l:=[0,1,2]) rfl ?_)
  refine Xk ?_;intro b1
  refine YT F.zero32 ?_;intro b2
  refine ZB ?_;refine Zo (Zn (Y_pk [5,4,2,1] ?_));refine ZI (Zm (l:=[0,1,2,3,4,5,6,7]) rfl ?_);refine ZH F.lay25 ?_;refine X_fn rfl rfl F.ok63 rfl (New_ok _ ⟨self_addr,self_id⟩) rfl ?_
  rintro _ M1 hm1 ⟨_,rfl,⟨⟨oa,oi⟩,⟨oq,oj⟩,⟨o1a,o1c,o1l⟩,⟨o2a,o2c,o2l⟩⟩,rfl,hot,okt⟩
  have hne:=new_ok (s:=⟨self_addr,self_id⟩)
  obtain ⟨ne,hnv⟩:∃ x,(newT ⟨self_addr,self_id⟩).2=x:=⟨_,rfl⟩
  rw [hnv] at hne ⊢
  refine Zv ?_
  iterate 2 refine Xz ?_
  refine YT F.zero28 ?_;intro b3
  refine Yi F.lay28 ?_;refine ZB ?_;refine Zo (Zn (Y_pk [7,6,5,4,1] ?_))
  iterate 2 refine ZI ?_
  refine Zm (l:=[0,1,2,3,4,5,6,7,8,9]) rfl ?_;refine Zv ?_;refine Yz ?_;refine Zv ?_
  refine Yh 15 rfl (fun hc4=>?_) (fun hc4=>?_)
  ·replace hc4:=nT hc4
   iterate 2 refine ZU ?_
   refine ZK ?_;refine Zv ?_
   iterate 2 refine ZU ?_
   refine ZK ?_;refine Zo (Zn (Y_pk [22,6,5,4,1] ?_));refine Xe rfl ?_;refine ZI (Zm (l:=[0,1,2]) rfl ?_);refine Xg rfl rfl F.bld32 (.nil) rfl rfl ?_;refine Xy F.lay32 ?_;refine ZB ?_;refine Zo (Zn (Y_pk [5,6,4,1] ?_));refine Yg (YG ?_)
   refine Ya (.inr rfl) (.cell rfl (by repeat first|exact List.Mem.head _|refine List.Mem.tail _ ?_|refine List.mem_append_right _ ?_) F.lay32 rfl rfl (.tmp rfl .nil)) (fun w hw=>?_)
   refine ⟨_,M1,rfl,hm1,hw.c,ZO.zero,?_,?_,ZO.zero_ok _⟩
   ·rw [Vl (by rintro ⟨q1,q2,q3⟩;have q4:=hne.2 q1;omega)];rfl
   ·rw [Vl (by rintro ⟨q1,q2,q3⟩;have q4:=hne.2 q1;omega)];rfl
  ·replace hc4:=nF hc4
   refine Zv ?_;refine Yz ?_;refine ZK ?_;refine Zv ?_
   refine Yh 19 rfl (fun hc5=>?_) (fun hc5=>?_)
   ·replace hc5:=dT hc5
    iterate 2 refine ZU ?_
    refine ZK ?_;refine Zo (Zn (Y_pk [22,6,5,4,1] ?_));refine Xe rfl ?_;refine ZI (Zm (l:=[0,1,2]) rfl ?_);refine Xg rfl rfl F.bld32 (.nil) rfl rfl ?_;refine Xy F.lay32 ?_;refine ZB ?_;refine Zo (Zn (Y_pk [5,6,4,1] ?_));refine Yg (YG ?_)
    refine Ya (.inr rfl) (.cell rfl (by repeat first|exact List.Mem.head _|refine List.Mem.tail _ ?_|refine List.mem_append_right _ ?_) F.lay32 rfl rfl (.tmp rfl .nil)) (fun w hw=>?_)
    refine ⟨_,M1,rfl,hm1,hw.c,ZO.zero,?_,?_,ZO.zero_ok _⟩
    ·rw [Vl (by rintro ⟨q1,q2,q3⟩;have q4:=hne.2 q1;omega)];rfl
    ·rw [Vl (by rintro ⟨q1,q2,q3⟩;have q4:=hne.2 q1;omega)];rfl
   ·replace hc5:=dF hc5
    refine Zv ?_;refine Yz ?_;refine ZK ?_;refine Zo (Zn (Y_pk [22,6,5,4,1] ?_))
    refine Yx rfl (fun hc6=>?_) (fun hc6=>?_)
    ·replace hc6:=dT hc6
     refine ZI (Zm (l:=[0,1,2]) rfl ?_);refine Xg rfl rfl F.bld32 (.nil) rfl rfl ?_;refine Xy F.lay32 ?_;refine ZB ?_;refine Zo (Zn (Y_pk [5,6,4,1] ?_));refine Yg (YG ?_)
     refine Ya (.inr rfl) (.cell rfl (by repeat first|exact List.Mem.head _|refine List.Mem.tail _ ?_|refine List.mem_append_right _ ?_) F.lay32 rfl rfl (.tmp rfl .nil)) (fun w hw=>?_)
     refine ⟨_,M1,rfl,hm1,hw.c,ZO.zero,?_,?_,ZO.zero_ok _⟩
     ·rw [Vl (by rintro ⟨q1,q2,q3⟩;have q4:=hne.2 q1;omega)];rfl
     ·rw [Vl (by rintro ⟨q1,q2,q3⟩;have q4:=hne.2 q1;omega)];rfl
    ·replace hc6:=dF hc6
     refine Yv (Zn (Y_pk [6,5,4,1] ?_));refine ZI (Zm (l:=[0,1,2,3,4]) rfl ?_);refine ZH F.lay28 ?_;refine Zv ?_;refine Xg rfl rfl F.bld32 (.cons rfl (by constructor) (.cons rfl (by constructor) (.cons rfl (by constructor) (.cons rfl (by constructor) (.cons rfl (by constructor) (.cons rfl (by constructor) (.cons rfl (by constructor) .nil))))))) rfl rfl ?_;refine Xy F.lay32 ?_;refine ZB ?_;refine Zo (Zn (Y_pk [5,4] ?_));refine Yg ?_
     refine Ya (.inr rfl) (.cell rfl (by repeat first|exact List.Mem.head _|refine List.Mem.tail _ ?_|refine List.mem_append_right _ ?_) F.lay32 rfl rfl (.tmp rfl .nil)) (fun w hw=>?_)
     have h3:=alone_is (s:=⟨self_addr,self_id⟩) (r:=r) ⟨hne.1 (by omega),by omega,by omega⟩
     rw [show (newT ⟨self_addr,self_id⟩).1=_ from hot.symm] at h3
     exact ⟨_,M1,rfl,hm1,hw.c,⟨⟨⟨oa,oi⟩,⟨oq,oj⟩,⟨o1a,o1c,o1l⟩,⟨o2a,o2c,o2l⟩⟩,r,true,-1,0,0,-1,0,-1,0,-1,0,0,⟨none,0,[]⟩,0,0⟩,by rw [h3];rfl,by rw [h3];rfl,⟨okt,SlK.nil⟩⟩
theorem Joining_ok (M:Mem) (self:ZD) (r:Int) (boot:Int):Esp.Fn Tryz.prog 23 [self.enc,.int .i64 r,.int .i64 boot] M (fun M' v=>NeE M' v (joiningN self r boot)):=by
  obtain ⟨self_addr,self_id⟩:=self
  refine Wu Tryz.func23 rfl Tryz.ntmps23 rfl ?_;intro H
  refine ZI (Zm (l:=[0,1,2]) rfl ?_)
  refine Xk ?_;intro b1
  refine YT F.zero32 ?_;intro b2
  refine ZB ?_;refine Zo (Zn (Y_pk [7,6,3,1,2] ?_));refine ZI (Zm (l:=[0,1,2,3,4,5,6,7,8]) rfl ?_);refine ZH F.lay25 ?_;refine Zv ?_;refine X_fn rfl rfl F.ok21 rfl (Alone_ok _ ⟨self_addr,self_id⟩ r) rfl ?_
  rintro _ M1 hm1 ⟨⟨⟨⟨YK,YU⟩,⟨YL,YV⟩,⟨Xb,Xa,YZ⟩,⟨YO,YN,YM⟩⟩,XI,XO,Wt,XH,WI,XY,XJ,XE,Xs,XF,Xt,XG,⟨Xw,Xv,Xu⟩,Wp,Wo⟩,rfl,hv1,okv⟩
  obtain ⟨ae,hae⟩:∃ x,(VE ⟨self_addr,self_id⟩ r).2=x:=⟨_,rfl⟩
  rw [hae]
  refine Zv ?_
  iterate 2 refine Xz ?_
  refine YT F.zero32 ?_;intro b3
  refine Xy F.lay32 ?_;refine ZB ?_;refine Zo (Zn (Y_pk [9,8,7,6,3,2] ?_))
  iterate 2 refine ZI ?_
  refine Zm (l:=[0,1,2,3,4,5,6,7,8,9,10,11,12,13,14,15]) rfl ?_;refine Zv ?_;refine Yz ?_;refine Zv ?_
  refine Yh 18 rfl (fun hc4=>?_) (fun hc4=>?_)
  ·replace hc4:=nT hc4
   iterate 2 refine ZU ?_
   refine ZK ?_;refine Zv ?_
   iterate 2 refine ZU ?_
   refine ZK ?_;refine Zv ?_
   iterate 4 refine ZU ?_
   refine ZK ?_;refine Zo (Zn (Y_pk [31,8,7,6,2] ?_));refine Xe rfl ?_;refine ZI (Zm (l:=[0,1,2]) rfl ?_);refine Xg rfl rfl F.bld32 (.nil) rfl rfl ?_;refine Xy F.lay32 ?_;refine ZB ?_;refine Zo (Zn (Y_pk [7,8,6,2] ?_));refine Yg (YG ?_)
   refine Ya (.inr rfl) (.cell rfl (by repeat first|exact List.Mem.head _|refine List.Mem.tail _ ?_|refine List.mem_append_right _ ?_) F.lay32 rfl rfl (.tmp rfl .nil)) (fun w hw=>?_)
   refine ⟨_,M1,rfl,hm1,hw.c,ZO.zero,?_,?_,ZO.zero_ok _⟩
   ·rw [Wh (by rintro ⟨q1,⟨q2,q4⟩,q3⟩;replace q3:boot≠self_addr:=q3;rw [hae] at q1;omega)];rfl
   ·rw [Wh (by rintro ⟨q1,⟨q2,q4⟩,q3⟩;replace q3:boot≠self_addr:=q3;rw [hae] at q1;omega)];rfl
  ·replace hc4:=nF hc4
   refine Zv ?_;refine Yz ?_;refine ZK ?_;refine Zv ?_
   refine Yh 22 rfl (fun hc5=>?_) (fun hc5=>?_)
   ·replace hc5:=dT hc5
    iterate 2 refine ZU ?_
    refine ZK ?_;refine Zv ?_
    iterate 4 refine ZU ?_
    refine ZK ?_;refine Zo (Zn (Y_pk [31,8,7,6,2] ?_));refine Xe rfl ?_;refine ZI (Zm (l:=[0,1,2]) rfl ?_);refine Xg rfl rfl F.bld32 (.nil) rfl rfl ?_;refine Xy F.lay32 ?_;refine ZB ?_;refine Zo (Zn (Y_pk [7,8,6,2] ?_));refine Yg (YG ?_)
    refine Ya (.inr rfl) (.cell rfl (by repeat first|exact List.Mem.head _|refine List.Mem.tail _ ?_|refine List.mem_append_right _ ?_) F.lay32 rfl rfl (.tmp rfl .nil)) (fun w hw=>?_)
    refine ⟨_,M1,rfl,hm1,hw.c,ZO.zero,?_,?_,ZO.zero_ok _⟩
    ·rw [Wh (by rintro ⟨q1,⟨q2,q4⟩,q3⟩;replace q3:boot≠self_addr:=q3;rw [hae] at q1;omega)];rfl
    ·rw [Wh (by rintro ⟨q1,⟨q2,q4⟩,q3⟩;replace q3:boot≠self_addr:=q3;rw [hae] at q1;omega)];rfl
   ·replace hc5:=dF hc5
    refine Zv ?_;refine Yz ?_;refine ZK ?_;refine Zv ?_
    refine Yh 26 rfl (fun hc6=>?_) (fun hc6=>?_)
    ·replace hc6:=dT hc6
     iterate 4 refine ZU ?_
     refine ZK ?_;refine Zo (Zn (Y_pk [31,8,7,6,2] ?_));refine Xe rfl ?_;refine ZI (Zm (l:=[0,1,2]) rfl ?_);refine Xg rfl rfl F.bld32 (.nil) rfl rfl ?_;refine Xy F.lay32 ?_;refine ZB ?_;refine Zo (Zn (Y_pk [7,8,6,2] ?_));refine Yg (YG ?_)
     refine Ya (.inr rfl) (.cell rfl (by repeat first|exact List.Mem.head _|refine List.Mem.tail _ ?_|refine List.mem_append_right _ ?_) F.lay32 rfl rfl (.tmp rfl .nil)) (fun w hw=>?_)
     refine ⟨_,M1,rfl,hm1,hw.c,ZO.zero,?_,?_,ZO.zero_ok _⟩
     ·rw [Wh (by rintro ⟨q1,⟨q2,q4⟩,q3⟩;replace q3:boot≠self_addr:=q3;rw [hae] at q1;omega)];rfl
     ·rw [Wh (by rintro ⟨q1,⟨q2,q4⟩,q3⟩;replace q3:boot≠self_addr:=q3;rw [hae] at q1;omega)];rfl
    ·replace hc6:=dF hc6
     refine Zv ?_;refine Zk F.foff25_0 ?_;refine ZH F.lay3 ?_;refine Yz ?_;refine ZK ?_;refine Zo (Zn (Y_pk [31,8,7,6,2] ?_))
     refine Yx rfl (fun hc7=>?_) (fun hc7=>?_)
     ·replace hc7:=dT hc7
      refine ZI (Zm (l:=[0,1,2]) rfl ?_);refine Xg rfl rfl F.bld32 (.nil) rfl rfl ?_;refine Xy F.lay32 ?_;refine ZB ?_;refine Zo (Zn (Y_pk [7,8,6,2] ?_));refine Yg (YG ?_)
      refine Ya (.inr rfl) (.cell rfl (by repeat first|exact List.Mem.head _|refine List.Mem.tail _ ?_|refine List.mem_append_right _ ?_) F.lay32 rfl rfl (.tmp rfl .nil)) (fun w hw=>?_)
      refine ⟨_,M1,rfl,hm1,hw.c,ZO.zero,?_,?_,ZO.zero_ok _⟩
      ·rw [Wh (by rintro ⟨q1,⟨q2,q4⟩,q3⟩;replace q3:boot≠self_addr:=q3;rw [hae] at q1;omega)];rfl
      ·rw [Wh (by rintro ⟨q1,⟨q2,q4⟩,q3⟩;replace q3:boot≠self_addr:=q3;rw [hae] at q1;omega)];rfl
     ·replace hc7:=dF hc7
      refine Yv (Zn (Y_pk [8,7,6,2] ?_));refine ZI (Zm (l:=[0,1,2,3,4]) rfl ?_);refine Zv ?_;refine Zk F.foff32_2 ?_;refine Yi F.lay4 ?_;refine Zk F.foff32_3 ?_;refine Yi F.lay3 ?_;refine Zo (Zn (Y_pk [8,7,6] ?_));refine ZI (Zm (l:=[0,1,2]) rfl ?_);refine ZH F.lay32 ?_;refine Xy F.lay32 ?_;refine ZB ?_;refine Zo (Zn (Y_pk [7,6] ?_));refine Yg ?_
      refine Ya (.inr rfl) (.cell rfl (by repeat first|exact List.Mem.head _|refine List.Mem.tail _ ?_|refine List.mem_append_right _ ?_) F.lay32 rfl rfl (.tmp rfl .nil)) (fun w hw=>?_)
      have h3:=joining_is (s:=⟨self_addr,self_id⟩) (r:=r) (b:=boot) ⟨by rw [hae];omega,⟨by omega,by omega⟩,by show boot≠self_addr;omega⟩
      rw [← hv1] at h3
      exact ⟨_,M1,rfl,hm1,hw.c,⟨⟨⟨YK,YU⟩,⟨YL,YV⟩,⟨Xb,Xa,YZ⟩,⟨YO,YN,YM⟩⟩,XI,false,boot,XH,WI,XY,XJ,XE,Xs,XF,Xt,XG,⟨Xw,Xv,Xu⟩,Wp,Wo⟩,by rw [h3];rfl,by rw [h3];rfl,⟨okv.h0,okv.h1⟩⟩
end Go.Proofs.YtajmnjefajknoaaGreat
namespace Go.Esp
def xp (n:Int):ZD:=⟨n,smallP (10 * n)⟩
theorem xs10:smallP 10=10#160:=by kernel_rfl
theorem xs20:smallP 20=20#160:=by kernel_rfl
def xt:Tb:=⟨⟨1,10#160⟩,YW,[],List.replicate 160 YW⟩
def xu:Tb:={ xt with succ:=[⟨2,20#160⟩,⟨3,30#160⟩] }
def xv:Tb:={ xu with pred:=⟨3,30#160⟩ }
def xw:Tb:={ xv with fingers:=List.replicate 4 ⟨2,20#160⟩++List.replicate 156 YW }
def xx:Tb:={ xv with succ:=[⟨3,30#160⟩],fingers:=List.replicate 160 YW }
end Go.Esp
namespace Go.Esp
def nA:ZD:=⟨1,10#160⟩
def nB:ZD:=⟨2,20#160⟩
def nX:Nd:=(VE ⟨1,10#160⟩ 2).1
def nY:Nd:=(joiningN ⟨2,20#160⟩ 2 1).1
def nL1:Lt:=⟨1,⟨2,20#160⟩,1,20#160,[],false,⟨-1,0⟩,[]⟩
def nL2:Lt:=⟨2,⟨1,10#160⟩,1,0,[],true,⟨1,10#160⟩,[]⟩
def nL3:Lt:=⟨3,⟨2,20#160⟩,2,0,[],false,⟨-1,0⟩,[]⟩
def nY1:Nd:=(VP nY 1).1
def nY2:Nd:=(VQ nY1 nL2).1
def nY3:Nd:=(VP nY2 1).1
theorem nx1:VE ⟨1,10#160⟩ 2=(nX,0):=by kernel_rfl
theorem nx2:joiningN ⟨2,20#160⟩ 2 1=(nY,0):=by kernel_rfl
theorem nx3:VP nY 1=(nY1,[⟨1,nL1⟩],0):=by kernel_rfl
theorem nx4:VQ nX nL1=(nX,[⟨2,nL2⟩],0):=by kernel_rfl
theorem nx5:VQ nY1 nL2=(nY2,[],0):=by kernel_rfl
theorem nx6:VP nY2 1=(nY3,[⟨1,nL3⟩],0):=by kernel_rfl
theorem nx7:joiningN ⟨2,20#160⟩ 2 2=(Nd.zero,1):=by kernel_rfl
theorem nx8:nY2.joined=true:=by kernel_rfl
theorem nx9:Xl nY2.table=⟨1,10#160⟩:=by kernel_rfl
theorem nx10:IsNd nY2:=of_decide_eq_true (by kernel_rfl)
theorem sndl_one {l:List Yd} {s:Snd} (h:sndl l=[s]):∃ y,l=[y]∧y.snd=s:=by
  match l,h with
  | [y],h=>exact ⟨y,rfl,(List.cons.inj h).1⟩
end Go.Esp
namespace Go.Proofs.YtajmnjefajknoaaGreat
open Go.Esp
theorem F.ok11:okFn Tryz.prog 11=true:=by kernel_rfl
theorem F.ok17:okFn Tryz.prog 17=true:=by kernel_rfl
theorem F.ok23:okFn Tryz.prog 23=true:=by kernel_rfl
theorem F.ok40:okFn Tryz.prog 40=true:=by kernel_rfl
theorem small10_ok (M:Mem):Fs Tryz.prog 40 [.int .i64 10] M (fun v=>v=aggV [Yq 10#160]):=by
  have h:=Small_ok M 10 (by decide)
  rw [xs10] at h
  exact h
theorem small20_ok (M:Mem):Fs Tryz.prog 40 [.int .i64 20] M (fun v=>v=aggV [Yq 20#160]):=by
  have h:=Small_ok M 20 (by decide)
  rw [xs20] at h
  exact h
theorem noded_ok (M:Mem):Esp.Fn Tryz.prog 13 [] M (fun _ v=>v=.bool true):=by
  refine Wu Tryz.func13 rfl Tryz.ntmps13 rfl ?_;intro H
  refine ZI (Zm (l:=[0]) rfl ?_);refine ZB ?_;refine Zo (Zn (ZI (Zm (l:=[0,1,2,3]) rfl ?_)));refine X_fs rfl rfl F.ok40 rfl (small10_ok _) rfl ?_
  rintro _ rfl
  refine Xg rfl rfl F.bld25 (.cons rfl (by constructor) (.cons rfl (by constructor) .nil)) rfl rfl ?_
  refine YT F.zero25 ?_;intro b1
  refine Yi F.lay25 ?_;refine Zo (Zn (Y_pk [1,0] ?_));refine ZI (Zm (l:=[0,1,2,3]) rfl ?_);refine X_fs rfl rfl F.ok40 rfl (small20_ok _) rfl ?_
  rintro _ rfl
  refine Xg rfl rfl F.bld25 (.cons rfl (by constructor) (.cons rfl (by constructor) .nil)) rfl rfl ?_
  refine YT F.zero25 ?_;intro b2
  refine Yi F.lay25 ?_;refine Zo (Zn (Y_pk [2,1,0] ?_));refine ZI (Zm (l:=[0,1,2,3,4,5,6,7]) rfl ?_);refine ZH F.lay25 ?_;refine X_fn rfl rfl F.ok21 rfl (Alone_ok M ⟨1,10#160⟩ 2) rfl ?_
  rintro _ M1 hm1 hv
  rw [nx1] at hv
  simp only [NeE] at hv
  obtain ⟨⟨⟨⟨x_table_self_addr,x_table_self_id⟩,⟨x_table_pred_addr,x_table_pred_id⟩,⟨x_table_succ_a,x_table_succ_c,x_table_succ_l⟩,⟨x_table_fingers_a,x_table_fingers_c,x_table_fingers_l⟩⟩,x_copies,x_joined,x_boot,x_cursor,x_req,x_askTo,x_askReq,x_pingTo,x_pingReq,x_findTo,x_findReq,x_findID,⟨x_avoid_a,x_avoid_c,x_avoid_l⟩,x_hops,x_turn⟩,rfl,ex,okx⟩:=hv
  try simp only at ex
  refine Zv ?_
  iterate 2 refine Xz ?_
  refine YT F.zero32 ?_;intro b3
  refine Xy F.lay32 ?_;refine ZB ?_;refine Zo (Zn (Y_pk [4,3,2,1,0] ?_));refine ZI (Zm (l:=[0,1,2,3,4,5,6,7]) rfl ?_);refine ZH F.lay25 ?_;refine X_fn rfl rfl F.ok23 rfl (Joining_ok M1 ⟨2,20#160⟩ 2 1) rfl ?_
  rintro _ M2 hm2 hv
  rw [nx2] at hv
  simp only [NeE] at hv
  obtain ⟨⟨⟨⟨y_table_self_addr,y_table_self_id⟩,⟨y_table_pred_addr,y_table_pred_id⟩,⟨y_table_succ_a,y_table_succ_c,y_table_succ_l⟩,⟨y_table_fingers_a,y_table_fingers_c,y_table_fingers_l⟩⟩,y_copies,y_joined,y_boot,y_cursor,y_req,y_askTo,y_askReq,y_pingTo,y_pingReq,y_findTo,y_findReq,y_findID,⟨y_avoid_a,y_avoid_c,y_avoid_l⟩,y_hops,y_turn⟩,rfl,ey,oky⟩:=hv
  try simp only at ey
  refine Zv ?_
  iterate 2 refine Xz ?_
  refine YT F.zero32 ?_;intro b4
  refine Xy F.lay32 ?_;refine ZB ?_;refine Zo (Zn (Y_pk [6,5,4,3,2,1,0] ?_));refine ZI (Zm (l:=[0,1,2,3,4,5,6,7,8,9]) rfl ?_);refine ZH F.lay32 ?_;refine X_fn rfl rfl F.ok11 rfl (Tick_ok M2 ⟨⟨⟨y_table_self_addr,y_table_self_id⟩,⟨y_table_pred_addr,y_table_pred_id⟩,⟨y_table_succ_a,y_table_succ_c,y_table_succ_l⟩,⟨y_table_fingers_a,y_table_fingers_c,y_table_fingers_l⟩⟩,y_copies,y_joined,y_boot,y_cursor,y_req,y_askTo,y_askReq,y_pingTo,y_pingReq,y_findTo,y_findReq,y_findID,⟨y_avoid_a,y_avoid_c,y_avoid_l⟩,y_hops,y_turn⟩ 1 oky) rfl ?_
  rintro _ M3 hm3 hv
  rw [show VP (ZO.nd ⟨⟨⟨y_table_self_addr,y_table_self_id⟩,⟨y_table_pred_addr,y_table_pred_id⟩,⟨y_table_succ_a,y_table_succ_c,y_table_succ_l⟩,⟨y_table_fingers_a,y_table_fingers_c,y_table_fingers_l⟩⟩,y_copies,y_joined,y_boot,y_cursor,y_req,y_askTo,y_askReq,y_pingTo,y_pingReq,y_findTo,y_findReq,y_findID,⟨y_avoid_a,y_avoid_c,y_avoid_l⟩,y_hops,y_turn⟩) 1=_ from (congrArg (fun n=>VP n 1) ey).trans nx3] at hv
  simp only [NtE] at hv
  obtain ⟨⟨⟨⟨z_table_self_addr,z_table_self_id⟩,⟨z_table_pred_addr,z_table_pred_id⟩,⟨z_table_succ_a,z_table_succ_c,z_table_succ_l⟩,⟨z_table_fingers_a,z_table_fingers_c,z_table_fingers_l⟩⟩,z_copies,z_joined,z_boot,z_cursor,z_req,z_askTo,z_askReq,z_pingTo,z_pingReq,z_findTo,z_findReq,z_findID,⟨z_avoid_a,z_avoid_c,z_avoid_l⟩,z_hops,z_turn⟩,⟨so_a,so_c,so_l⟩,rfl,ez,sz,okz,kz,lz⟩:=hv
  try simp only at ez sz kz lz
  obtain ⟨⟨p_to,⟨p_kind,⟨p_frm_addr,p_frm_id⟩,p_req,p_id,⟨p_avoid_a,p_avoid_c,p_avoid_l⟩,p_done,⟨p_peer_addr,p_peer_id⟩,⟨p_peers_a,p_peers_c,p_peers_l⟩⟩⟩,rfl,hp⟩:=sndl_one sz
  simp only [Yd.snd,ZM.lt,nL1,Snd.mk.injEq,Lt.mk.injEq,ZD.mk.injEq] at hp
  obtain ⟨rfl,rfl,⟨rfl,rfl⟩,rfl,rfl,rfl,rfl,⟨rfl,rfl⟩,rfl⟩:=hp
  have s_so:=kz.h1
  try simp only at s_so
  refine Zv ?_
  iterate 3 refine Xz ?_
  refine YT F.zero32 ?_;intro b5
  refine Xy F.lay32 ?_
  iterate 2 refine ZB ?_
  refine Zo (Zn (Y_pk [9,8,7,6,4,3,2,1,0] ?_))
  iterate 2 refine ZI ?_
  refine Zm (l:=[0,1,2,3,4,5,6,7,8,9,10,11,12,13,14,15,16,17,18,19,20,21,22,23,24,25,26,27,28,29,30,31]) rfl ?_;refine Zv ?_;refine Yz ?_;refine Zv ?_
  refine Yh 43 rfl (fun hc6=>?_) (fun hc6=>?_)
  ·replace hc6:=nT hc6
   simp only [ZD.eta,ZL.eta,ZO.eta,ZM.eta,Yd.eta,ZQ.eta,YI.eta,ZX.eta] at hc6
   (exfalso;simp [eqX] at hc6;done)
  ·replace hc6:=nF hc6
   simp only [ZD.eta,ZL.eta,ZO.eta,ZM.eta,Yd.eta,ZQ.eta,YI.eta,ZX.eta] at hc6
   iterate 2 refine Zv ?_
   refine Yz ?_;refine ZK ?_;refine Zv ?_
   refine Yh 48 rfl (fun hc7=>?_) (fun hc7=>?_)
   ·replace hc7:=nT hc7
    simp only [ZD.eta,ZL.eta,ZO.eta,ZM.eta,Yd.eta,ZQ.eta,YI.eta,ZX.eta] at hc7
    (exfalso;simp [eqX] at hc7;done)
   ·replace hc7:=nF hc7
    simp only [ZD.eta,ZL.eta,ZO.eta,ZM.eta,Yd.eta,ZQ.eta,YI.eta,ZX.eta] at hc7
    iterate 2 refine Zv ?_
    refine Yz ?_;refine ZK ?_;refine Zv ?_
    refine Yh 53 rfl (fun hc8=>?_) (fun hc8=>?_)
    ·replace hc8:=nT hc8
     simp only [ZD.eta,ZL.eta,ZO.eta,ZM.eta,Yd.eta,ZQ.eta,YI.eta,ZX.eta] at hc8
     (exfalso;simp [eqX] at hc8;done)
    ·replace hc8:=nF hc8
     simp only [ZD.eta,ZL.eta,ZO.eta,ZM.eta,Yd.eta,ZQ.eta,YI.eta,ZX.eta] at hc8
     refine Zv ?_;refine YX F.elem35 ?_;refine Yz ?_;refine ZK ?_;refine Zv ?_
     refine Yh 58 rfl (fun hc9=>?_) (fun hc9=>?_)
     ·replace hc9:=nT hc9
      (exfalso;simp [eqX] at hc9;done)
     ·replace hc9:=nF hc9
      refine Zv ?_;refine YR rfl rfl rfl rfl F.elem35 (by rfl) (by (simp;done)) (by exact SlM.plain (by assumption) (by (simp;done))) rfl ?_;refine Xp rfl rfl rfl (by exact SlM.plain (by assumption) (by (simp;done))) F.foff49_0 rfl ?_;refine Xo rfl rfl rfl (by assumption) (by exact rfl) F.lay3 rfl rfl rfl ?_;refine Yz ?_;refine ZK ?_;refine Zv ?_
      refine Yh 65 rfl (fun hc10=>?_) (fun hc10=>?_)
      ·replace hc10:=nT hc10
       simp only [ZD.eta,ZL.eta,ZO.eta,ZM.eta,Yd.eta,ZQ.eta,YI.eta,ZX.eta] at hc10
       (exfalso;simp [eqX] at hc10;done)
      ·replace hc10:=nF hc10
       simp only [ZD.eta,ZL.eta,ZO.eta,ZM.eta,Yd.eta,ZQ.eta,YI.eta,ZX.eta] at hc10
       refine Zv ?_;refine YR rfl rfl rfl rfl F.elem35 (by rfl) (by (simp;done)) (by exact SlM.plain (by assumption) (by (simp;done))) rfl ?_;refine Xp rfl rfl rfl (by exact SlM.plain (by assumption) (by (simp;done))) F.foff49_1 rfl ?_;refine Xp rfl rfl rfl (by exact SlM.plain (by assumption) (by (simp;done))) F.foff44_0 rfl ?_;refine Xo rfl rfl rfl (by assumption) (by exact rfl) F.lay3 rfl rfl rfl ?_;refine Yz ?_;refine ZK ?_;refine Zo (Zn (Y_pk [72,8,7,3,2,1,0] ?_))
       refine Yx rfl (fun hc11=>?_) (fun hc11=>?_)
       ·replace hc11:=nT hc11
        simp only [ZD.eta,ZL.eta,ZO.eta,ZM.eta,Yd.eta,ZQ.eta,YI.eta,ZX.eta] at hc11
        (exfalso;simp [eqX] at hc11;done)
       ·replace hc11:=nF hc11
        simp only [ZD.eta,ZL.eta,ZO.eta,ZM.eta,Yd.eta,ZQ.eta,YI.eta,ZX.eta] at hc11
        refine Yv (Zn (Y_pk [8,7,3,2,1,0] ?_));refine ZI (Yy (l:=[0,1,2,3,4,5,6,7,8,9,10,11,12,13]) #[0,0,2,6,14,31,63,127,127,127,0,1279,3583,8191] _ rfl (by kernel_rfl) (by kernel_rfl) St.drawn (fun _ h=>h) ?_);refine ZH F.lay32 ?_;refine Zv ?_;refine YR rfl rfl rfl rfl F.elem35 (by rfl) (by (simp;done)) (by exact SlM.plain (by assumption) (by (simp;done))) rfl ?_;refine Xp rfl rfl rfl (by exact SlM.plain (by assumption) (by (simp;done))) F.foff49_1 rfl ?_;refine Xo rfl rfl rfl (by assumption) (by exact rfl) F.lay44 rfl rfl rfl ?_;refine X_fn rfl rfl F.ok17 rfl (Take_ok M3 ⟨⟨⟨x_table_self_addr,x_table_self_id⟩,⟨x_table_pred_addr,x_table_pred_id⟩,⟨x_table_succ_a,x_table_succ_c,x_table_succ_l⟩,⟨x_table_fingers_a,x_table_fingers_c,x_table_fingers_l⟩⟩,x_copies,x_joined,x_boot,x_cursor,x_req,x_askTo,x_askReq,x_pingTo,x_pingReq,x_findTo,x_findReq,x_findID,⟨x_avoid_a,x_avoid_c,x_avoid_l⟩,x_hops,x_turn⟩ ⟨1,⟨2,20#160⟩,1,20#160,⟨p_avoid_a,p_avoid_c,[]⟩,false,⟨-1,0⟩,⟨p_peers_a,p_peers_c,[]⟩⟩ (okx.mono (by (repeat first|assumption|refine Mem.le.trans (by assumption) ?_))) (lz _ (List.Mem.head _)).h0) rfl ?_
        rintro _ M4 hm4 hv
        rw [show VQ (ZO.nd ⟨⟨⟨x_table_self_addr,x_table_self_id⟩,⟨x_table_pred_addr,x_table_pred_id⟩,⟨x_table_succ_a,x_table_succ_c,x_table_succ_l⟩,⟨x_table_fingers_a,x_table_fingers_c,x_table_fingers_l⟩⟩,x_copies,x_joined,x_boot,x_cursor,x_req,x_askTo,x_askReq,x_pingTo,x_pingReq,x_findTo,x_findReq,x_findID,⟨x_avoid_a,x_avoid_c,x_avoid_l⟩,x_hops,x_turn⟩) (ZM.lt ⟨1,⟨2,20#160⟩,1,20#160,⟨p_avoid_a,p_avoid_c,[]⟩,false,⟨-1,0⟩,⟨p_peers_a,p_peers_c,[]⟩⟩)=_ from (congrArg (fun n=>VQ n (ZM.lt ⟨1,⟨2,20#160⟩,1,20#160,⟨p_avoid_a,p_avoid_c,[]⟩,false,⟨-1,0⟩,⟨p_peers_a,p_peers_c,[]⟩⟩)) ex).trans nx4] at hv
        simp only [NtE] at hv
        obtain ⟨⟨⟨⟨w_table_self_addr,w_table_self_id⟩,⟨w_table_pred_addr,w_table_pred_id⟩,⟨w_table_succ_a,w_table_succ_c,w_table_succ_l⟩,⟨w_table_fingers_a,w_table_fingers_c,w_table_fingers_l⟩⟩,w_copies,w_joined,w_boot,w_cursor,w_req,w_askTo,w_askReq,w_pingTo,w_pingReq,w_findTo,w_findReq,w_findID,⟨w_avoid_a,w_avoid_c,w_avoid_l⟩,w_hops,w_turn⟩,⟨to_a,to_c,to_l⟩,rfl,ew,sw,okw,kw,lw⟩:=hv
        try simp only at ew sw kw lw
        obtain ⟨⟨r_to,⟨r_kind,⟨r_frm_addr,r_frm_id⟩,r_req,r_id,⟨r_avoid_a,r_avoid_c,r_avoid_l⟩,r_done,⟨r_peer_addr,r_peer_id⟩,⟨r_peers_a,r_peers_c,r_peers_l⟩⟩⟩,rfl,hr⟩:=sndl_one sw
        simp only [Yd.snd,ZM.lt,nL2,Snd.mk.injEq,Lt.mk.injEq,ZD.mk.injEq] at hr
        obtain ⟨rfl,rfl,⟨rfl,rfl⟩,rfl,rfl,rfl,rfl,⟨rfl,rfl⟩,rfl⟩:=hr
        have s_to:=kw.h1
        try simp only at s_to
        refine Zv ?_
        iterate 3 refine Xz ?_
        refine YT F.zero32 ?_;intro b12
        refine Xy F.lay32 ?_
        iterate 2 refine ZB ?_
        refine Zo (Zn (Y_pk [12,11,7,2,1,0] ?_))
        iterate 2 refine ZI ?_
        refine Yy (l:=[0,1,2,3,4,5,6,7,8,9,10,11,12,13,14,15,16,17,18,19,20,21,22,23,24,25,26,27,28,29,30]) #[0,1,3,7,15,31,63,127,255,511,1023,2047,4095,8191,16383,32767,65535,131071,262143,524287,1048575,2097151,4194303,8388607,16777215,33554431,67108863,134217727,8388607,536870911,1073741823] _ rfl (by kernel_rfl) (by kernel_rfl) St.drawn (fun _ h=>h) ?_;refine Zv ?_;refine Yz ?_;refine Zv ?_
        refine Yh 85 rfl (fun hc13=>?_) (fun hc13=>?_)
        ·replace hc13:=nT hc13
         simp only [ZD.eta,ZL.eta,ZO.eta,ZM.eta,Yd.eta,ZQ.eta,YI.eta,ZX.eta] at hc13
         (exfalso;simp [eqX] at hc13;done)
        ·replace hc13:=nF hc13
         simp only [ZD.eta,ZL.eta,ZO.eta,ZM.eta,Yd.eta,ZQ.eta,YI.eta,ZX.eta] at hc13
         refine Zv ?_;refine YX F.elem35 ?_;refine Yz ?_;refine ZK ?_;refine Zv ?_
         refine Yh 90 rfl (fun hc14=>?_) (fun hc14=>?_)
         ·replace hc14:=nT hc14
          (exfalso;simp [eqX] at hc14;done)
         ·replace hc14:=nF hc14
          refine Zv ?_;refine YR rfl rfl rfl rfl F.elem35 (by rfl) (by (simp;done)) (by exact SlM.plain (by assumption) (by (simp;done))) rfl ?_;refine Xp rfl rfl rfl (by exact SlM.plain (by assumption) (by (simp;done))) F.foff49_0 rfl ?_;refine Xo rfl rfl rfl (by assumption) (by exact rfl) F.lay3 rfl rfl rfl ?_;refine Yz ?_;refine ZK ?_;refine Zv ?_
          refine Yh 97 rfl (fun hc15=>?_) (fun hc15=>?_)
          ·replace hc15:=nT hc15
           simp only [ZD.eta,ZL.eta,ZO.eta,ZM.eta,Yd.eta,ZQ.eta,YI.eta,ZX.eta] at hc15
           (exfalso;simp [eqX] at hc15;done)
          ·replace hc15:=nF hc15
           simp only [ZD.eta,ZL.eta,ZO.eta,ZM.eta,Yd.eta,ZQ.eta,YI.eta,ZX.eta] at hc15
           refine Zv ?_;refine YR rfl rfl rfl rfl F.elem35 (by rfl) (by (simp;done)) (by exact SlM.plain (by assumption) (by (simp;done))) rfl ?_;refine Xp rfl rfl rfl (by exact SlM.plain (by assumption) (by (simp;done))) F.foff49_1 rfl ?_;refine Xp rfl rfl rfl (by exact SlM.plain (by assumption) (by (simp;done))) F.foff44_5 rfl ?_;refine Xo rfl rfl rfl (by assumption) (by exact rfl) F.lay4 rfl rfl rfl ?_;refine Xx ?_;refine ZK ?_;refine Zv ?_
           refine Yh 105 rfl (fun hc16=>?_) (fun hc16=>?_)
           ·skip
            (exfalso;simp [eqX] at hc16;done)
           ·skip
            refine Zv ?_;refine YR rfl rfl rfl rfl F.elem35 (by rfl) (by (simp;done)) (by exact SlM.plain (by assumption) (by (simp;done))) rfl ?_;refine Xp rfl rfl rfl (by exact SlM.plain (by assumption) (by (simp;done))) F.foff49_1 rfl ?_;refine Xp rfl rfl rfl (by exact SlM.plain (by assumption) (by (simp;done))) F.foff44_6 rfl ?_;refine Xo rfl rfl rfl (by assumption) (by exact rfl) F.lay25 rfl rfl rfl ?_;refine ZH F.lay25 ?_
            refine Wf (m:=20) rfl rfl rfl rfl rfl (by constructor) (by constructor) F.lay25 F.kinds25 rfl F.guard25 (by exact Xf (⟨_,_⟩)) (by exact Xf (⟨_,_⟩)) rfl rfl rfl ?_;intro c17 he18
            replace he18:c17=true↔¬(Segs.cells _=Segs.cells _):=he18
            obtain rfl:=neD he18 (ZD.inj (x:=⟨_,_⟩) (y:=⟨_,_⟩));clear he18
            refine ZK ?_;refine Zo (Zn (Y_pk [113,11,7,2,1,0] ?_))
            refine Yx rfl (fun hc19=>?_) (fun hc19=>?_)
            ·replace hc19:=nT hc19
             simp only [ZD.eta,ZL.eta,ZO.eta,ZM.eta,Yd.eta,ZQ.eta,YI.eta,ZX.eta] at hc19
             (exfalso;simp [eqX] at hc19;done)
            ·replace hc19:=nF hc19
             simp only [ZD.eta,ZL.eta,ZO.eta,ZM.eta,Yd.eta,ZQ.eta,YI.eta,ZX.eta] at hc19
             refine Yv (Zn (Y_pk [11,7,2,1,0] ?_));refine ZI (Yy (l:=[0,1,2,3,4,5,6,7,8,9,10,11,12,13]) #[0,0,2,6,14,31,63,127,127,127,0,1279,3583,8191] _ rfl (by kernel_rfl) (by kernel_rfl) St.drawn (fun _ h=>h) ?_);refine ZH F.lay32 ?_;refine Zv ?_;refine YR rfl rfl rfl rfl F.elem35 (by rfl) (by (simp;done)) (by exact SlM.plain (by assumption) (by (simp;done))) rfl ?_;refine Xp rfl rfl rfl (by exact SlM.plain (by assumption) (by (simp;done))) F.foff49_1 rfl ?_;refine Xo rfl rfl rfl (by assumption) (by exact rfl) F.lay44 rfl rfl rfl ?_;refine X_fn rfl rfl F.ok17 rfl (Take_ok M4 ⟨⟨⟨z_table_self_addr,z_table_self_id⟩,⟨z_table_pred_addr,z_table_pred_id⟩,⟨z_table_succ_a,z_table_succ_c,z_table_succ_l⟩,⟨z_table_fingers_a,z_table_fingers_c,z_table_fingers_l⟩⟩,z_copies,z_joined,z_boot,z_cursor,z_req,z_askTo,z_askReq,z_pingTo,z_pingReq,z_findTo,z_findReq,z_findID,⟨z_avoid_a,z_avoid_c,z_avoid_l⟩,z_hops,z_turn⟩ ⟨2,⟨1,10#160⟩,1,0,⟨r_avoid_a,r_avoid_c,[]⟩,true,⟨1,10#160⟩,⟨r_peers_a,r_peers_c,[]⟩⟩ (okz.mono hm4) (lw _ (List.Mem.head _)).h0) rfl ?_
             rintro _ M5 hm5 hv
             rw [show VQ (ZO.nd ⟨⟨⟨z_table_self_addr,z_table_self_id⟩,⟨z_table_pred_addr,z_table_pred_id⟩,⟨z_table_succ_a,z_table_succ_c,z_table_succ_l⟩,⟨z_table_fingers_a,z_table_fingers_c,z_table_fingers_l⟩⟩,z_copies,z_joined,z_boot,z_cursor,z_req,z_askTo,z_askReq,z_pingTo,z_pingReq,z_findTo,z_findReq,z_findID,⟨z_avoid_a,z_avoid_c,z_avoid_l⟩,z_hops,z_turn⟩) (ZM.lt ⟨2,⟨1,10#160⟩,1,0,⟨r_avoid_a,r_avoid_c,[]⟩,true,⟨1,10#160⟩,⟨r_peers_a,r_peers_c,[]⟩⟩)=_ from (congrArg (fun n=>VQ n (ZM.lt ⟨2,⟨1,10#160⟩,1,0,⟨r_avoid_a,r_avoid_c,[]⟩,true,⟨1,10#160⟩,⟨r_peers_a,r_peers_c,[]⟩⟩)) ez).trans nx5] at hv
             simp only [NtE] at hv
             obtain ⟨⟨⟨⟨v_table_self_addr,v_table_self_id⟩,⟨v_table_pred_addr,v_table_pred_id⟩,⟨v_table_succ_a,v_table_succ_c,v_table_succ_l⟩,⟨v_table_fingers_a,v_table_fingers_c,v_table_fingers_l⟩⟩,v_copies,v_joined,v_boot,v_cursor,v_req,v_askTo,v_askReq,v_pingTo,v_pingReq,v_findTo,v_findReq,v_findID,⟨v_avoid_a,v_avoid_c,v_avoid_l⟩,v_hops,v_turn⟩,⟨vo_a,vo_c,vo_l⟩,rfl,ev,sv,okv,kv,lv⟩:=hv
             try simp only at ev sv kv lv
             refine Zv ?_
             iterate 3 refine Xz ?_
             refine YT F.zero32 ?_;intro b20
             refine Xy F.lay32 ?_
             iterate 2 refine ZB ?_
             refine Zo (Zn (Y_pk [15,13,2,1,0] ?_));refine ZI (Zm (l:=[0,1,2,3,4,5,6,7,8,9]) rfl ?_);refine ZH F.lay32 ?_;refine X_fn rfl rfl F.ok11 rfl (Tick_ok M5 ⟨⟨⟨v_table_self_addr,v_table_self_id⟩,⟨v_table_pred_addr,v_table_pred_id⟩,⟨v_table_succ_a,v_table_succ_c,v_table_succ_l⟩,⟨v_table_fingers_a,v_table_fingers_c,v_table_fingers_l⟩⟩,v_copies,v_joined,v_boot,v_cursor,v_req,v_askTo,v_askReq,v_pingTo,v_pingReq,v_findTo,v_findReq,v_findID,⟨v_avoid_a,v_avoid_c,v_avoid_l⟩,v_hops,v_turn⟩ 1 okv) rfl ?_
             rintro _ M6 hm6 hv
             rw [show VP (ZO.nd ⟨⟨⟨v_table_self_addr,v_table_self_id⟩,⟨v_table_pred_addr,v_table_pred_id⟩,⟨v_table_succ_a,v_table_succ_c,v_table_succ_l⟩,⟨v_table_fingers_a,v_table_fingers_c,v_table_fingers_l⟩⟩,v_copies,v_joined,v_boot,v_cursor,v_req,v_askTo,v_askReq,v_pingTo,v_pingReq,v_findTo,v_findReq,v_findID,⟨v_avoid_a,v_avoid_c,v_avoid_l⟩,v_hops,v_turn⟩) 1=_ from (congrArg (fun n=>VP n 1) ev).trans nx6] at hv
             simp only [NtE] at hv
             obtain ⟨⟨⟨⟨u_table_self_addr,u_table_self_id⟩,⟨u_table_pred_addr,u_table_pred_id⟩,⟨u_table_succ_a,u_table_succ_c,u_table_succ_l⟩,⟨u_table_fingers_a,u_table_fingers_c,u_table_fingers_l⟩⟩,u_copies,u_joined,u_boot,u_cursor,u_req,u_askTo,u_askReq,u_pingTo,u_pingReq,u_findTo,u_findReq,u_findID,⟨u_avoid_a,u_avoid_c,u_avoid_l⟩,u_hops,u_turn⟩,⟨uo_a,uo_c,uo_l⟩,rfl,eu,su,oku,ku,lu⟩:=hv
             try simp only at eu su ku lu
             obtain ⟨⟨q_to,⟨q_kind,⟨q_frm_addr,q_frm_id⟩,q_req,q_id,⟨q_avoid_a,q_avoid_c,q_avoid_l⟩,q_done,⟨q_peer_addr,q_peer_id⟩,⟨q_peers_a,q_peers_c,q_peers_l⟩⟩⟩,rfl,hq⟩:=sndl_one su
             simp only [Yd.snd,ZM.lt,nL3,Snd.mk.injEq,Lt.mk.injEq,ZD.mk.injEq] at hq
             obtain ⟨rfl,rfl,⟨rfl,rfl⟩,rfl,rfl,rfl,rfl,⟨rfl,rfl⟩,rfl⟩:=hq
             have s_uo:=ku.h1
             try simp only at s_uo
             refine Zv ?_
             iterate 3 refine Xz ?_
             refine YT F.zero32 ?_;intro b21
             refine Xy F.lay32 ?_
             iterate 2 refine ZB ?_
             refine Zo (Zn (Y_pk [18,17,15,13,2,1,0] ?_));refine ZI (Zm (l:=[0,1,2,3,4,5,6,7]) rfl ?_);refine ZH F.lay25 ?_;refine X_fn rfl rfl F.ok23 rfl (Joining_ok M6 ⟨2,20#160⟩ 2 2) rfl ?_
             rintro _ M7 hm7 hv
             rw [nx7] at hv
             simp only [NeE] at hv
             obtain ⟨⟨⟨⟨j_table_self_addr,j_table_self_id⟩,⟨j_table_pred_addr,j_table_pred_id⟩,⟨j_table_succ_a,j_table_succ_c,j_table_succ_l⟩,⟨j_table_fingers_a,j_table_fingers_c,j_table_fingers_l⟩⟩,j_copies,j_joined,j_boot,j_cursor,j_req,j_askTo,j_askReq,j_pingTo,j_pingReq,j_findTo,j_findReq,j_findID,⟨j_avoid_a,j_avoid_c,j_avoid_l⟩,j_hops,j_turn⟩,rfl,ej,okj⟩:=hv
             try simp only at ej
             refine Zv ?_
             iterate 2 refine Xz ?_
             refine YT F.zero32 ?_;intro b22
             refine Xy F.lay32 ?_;refine ZB ?_;refine Zo (Zn (Y_pk [20,18,17,15,13,1,0] ?_));refine ZI (Yy (l:=[0,1,2,3,4,5,6,7,8,9,10,11,12,13,14,15,16,17,18,19,20,21,22,23,24,25,26,27,28,29,30,31,32,33,34,35,36,37,38]) #[0,1,3,7,15,31,63,127,255,511,127,2047,4095,8191,16383,32767,65535,131071,262143,524287,1048575,2097151,4194303,8388607,16777215,33554431,67108863,134217727,268435455,536870911,1073741823,2147483647,4294967295,8589934591,17179869183,34359738367,68719476735,137438953471,274877906943] _ rfl (by kernel_rfl) (by kernel_rfl) St.drawn (fun _ h=>h) ?_);refine Zv ?_;refine Yz ?_;refine Zv ?_
             refine Yh 137 rfl (fun hc23=>?_) (fun hc23=>?_)
             ·replace hc23:=dT hc23
              simp only [ZD.eta,ZL.eta,ZO.eta,ZM.eta,Yd.eta,ZQ.eta,YI.eta,ZX.eta] at hc23
              have hvj:v_joined=true:=(congrArg Nd.joined ev).trans nx8
              refine Zk F.foff32_2 ?_;refine ZH F.lay4 ?_;refine WV 139 rfl (show _=Value.bool true from congrArg Value.bool hvj) ?_;refine ZK ?_;refine Zv ?_
              refine Yh 141 rfl (fun hc24=>?_) (fun hc24=>?_)
              ·skip
               simp only [ZD.eta,ZL.eta,ZO.eta,ZM.eta,Yd.eta,ZQ.eta,YI.eta,ZX.eta] at hc24
               refine Zk F.foff32_0 ?_;refine ZH F.lay28 ?_;refine X_fs rfl rfl F.ok41 rfl (Vt _ ⟨⟨v_table_self_addr,v_table_self_id⟩,⟨v_table_pred_addr,v_table_pred_id⟩,⟨v_table_succ_a,v_table_succ_c,v_table_succ_l⟩,⟨v_table_fingers_a,v_table_fingers_c,v_table_fingers_l⟩⟩ (okv.h0.mono (by (repeat first|assumption|refine Mem.le.trans (by assumption) ?_)))) rfl ?_
               rintro _ hv
               have h9:Xl (ZL.tb ⟨⟨v_table_self_addr,v_table_self_id⟩,⟨v_table_pred_addr,v_table_pred_id⟩,⟨v_table_succ_a,v_table_succ_c,v_table_succ_l⟩,⟨v_table_fingers_a,v_table_fingers_c,v_table_fingers_l⟩⟩)=⟨1,10#160⟩:=(congrArg (fun n:Nd=>Xl n.table) ev).trans nx9
               rw [h9] at hv
               subst hv
               refine ZH F.lay25 ?_
               refine Wf (m:=20) rfl rfl rfl rfl rfl (by constructor) (by constructor) F.lay25 F.kinds25 rfl F.guard25 (by exact Xf _) (by exact Xf (⟨_,_⟩)) rfl rfl rfl ?_;intro c25 he26
               replace he26:c25=true↔Segs.cells _=Segs.cells _:=he26
               obtain rfl:=eqD he26 (ZD.inj (x:=⟨_,_⟩) (y:=⟨_,_⟩));clear he26
               refine ZK ?_;refine Zv ?_
               refine Yh 148 rfl (fun hc27=>?_) (fun hc27=>?_)
               ·replace hc27:=dT hc27
                simp only [ZD.eta,ZL.eta,ZO.eta,ZM.eta,Yd.eta,ZQ.eta,YI.eta,ZX.eta] at hc27
                refine Zv ?_;refine Yz ?_;refine ZK ?_;refine Zv ?_
                refine Yh 152 rfl (fun hc28=>?_) (fun hc28=>?_)
                ·replace hc28:=dT hc28
                 simp only [ZD.eta,ZL.eta,ZO.eta,ZM.eta,Yd.eta,ZQ.eta,YI.eta,ZX.eta] at hc28
                 refine Zv ?_;refine YX F.elem35 ?_;refine Yz ?_;refine ZK ?_;refine Zv ?_
                 refine Yh 157 rfl (fun hc29=>?_) (fun hc29=>?_)
                 ·replace hc29:=dT hc29
                  refine Zv ?_;refine YR rfl rfl rfl rfl F.elem35 (by rfl) (by (simp;done)) (by exact SlM.plain (by assumption) (by (simp;done))) rfl ?_;refine Xp rfl rfl rfl (by exact SlM.plain (by assumption) (by (simp;done))) F.foff49_1 rfl ?_;refine Xp rfl rfl rfl (by exact SlM.plain (by assumption) (by (simp;done))) F.foff44_0 rfl ?_;refine Xo rfl rfl rfl (by exact SlM.mono (by assumption) (by assumption)) (by exact rfl) F.lay3 rfl rfl rfl ?_;refine Yz ?_;refine ZK ?_;refine Zv ?_
                  refine Yh 165 rfl (fun hc30=>?_) (fun hc30=>?_)
                  ·replace hc30:=dT hc30
                   simp only [ZD.eta,ZL.eta,ZO.eta,ZM.eta,Yd.eta,ZQ.eta,YI.eta,ZX.eta] at hc30
                   refine Zv ?_;refine Yz ?_;refine ZK ?_;refine Zv ?_
                   refine Yh 169 rfl (fun hc31=>?_) (fun hc31=>?_)
                   ·replace hc31:=dT hc31
                    simp only [ZD.eta,ZL.eta,ZO.eta,ZM.eta,Yd.eta,ZQ.eta,YI.eta,ZX.eta] at hc31
                    refine ZH F.lay32 ?_;refine X_fs rfl rfl F.ok27 rfl (IsN_ok _ ⟨⟨⟨v_table_self_addr,v_table_self_id⟩,⟨v_table_pred_addr,v_table_pred_id⟩,⟨v_table_succ_a,v_table_succ_c,v_table_succ_l⟩,⟨v_table_fingers_a,v_table_fingers_c,v_table_fingers_l⟩⟩,v_copies,v_joined,v_boot,v_cursor,v_req,v_askTo,v_askReq,v_pingTo,v_pingReq,v_findTo,v_findReq,v_findID,⟨v_avoid_a,v_avoid_c,v_avoid_l⟩,v_hops,v_turn⟩ (okv.mono (by (repeat first|assumption|refine Mem.le.trans (by assumption) ?_)))) rfl ?_
                    rintro _ hv
                    have h9:IsNd (ZO.nd ⟨⟨⟨v_table_self_addr,v_table_self_id⟩,⟨v_table_pred_addr,v_table_pred_id⟩,⟨v_table_succ_a,v_table_succ_c,v_table_succ_l⟩,⟨v_table_fingers_a,v_table_fingers_c,v_table_fingers_l⟩⟩,v_copies,v_joined,v_boot,v_cursor,v_req,v_askTo,v_askReq,v_pingTo,v_pingReq,v_findTo,v_findReq,v_findID,⟨v_avoid_a,v_avoid_c,v_avoid_l⟩,v_hops,v_turn⟩):=ev.symm ▸ nx10
                    rw [decide_eq_true h9] at hv
                    subst hv
                    refine ZK ?_;refine ZB ?_;refine Zo (Zn (Y_pk [0] ?_));refine Yg ?_
                    refine Ya (.inr rfl) (.tmp rfl .nil) (fun w hw=>?_)
                    exact ⟨_,_,rfl,(by (repeat first|assumption|refine Mem.le.trans (by assumption) ?_)),hw.c,rfl⟩
                   ·replace hc31:=dF hc31
                    simp only [ZD.eta,ZL.eta,ZO.eta,ZM.eta,Yd.eta,ZQ.eta,YI.eta,ZX.eta] at hc31
                    (exfalso;simp [eqX] at hc31;done)
                  ·replace hc30:=dF hc30
                   simp only [ZD.eta,ZL.eta,ZO.eta,ZM.eta,Yd.eta,ZQ.eta,YI.eta,ZX.eta] at hc30
                   (exfalso;simp [eqX] at hc30;done)
                 ·replace hc29:=dF hc29
                  (exfalso;simp [eqX] at hc29;done)
                ·replace hc28:=dF hc28
                 simp only [ZD.eta,ZL.eta,ZO.eta,ZM.eta,Yd.eta,ZQ.eta,YI.eta,ZX.eta] at hc28
                 (exfalso;simp [eqX] at hc28;done)
               ·replace hc27:=dF hc27
                simp only [ZD.eta,ZL.eta,ZO.eta,ZM.eta,Yd.eta,ZQ.eta,YI.eta,ZX.eta] at hc27
                (exfalso;simp [eqX] at hc27;done)
              ·skip
               (exfalso;simp [eqX] at hc24;done)
             ·replace hc23:=dF hc23
              simp only [ZD.eta,ZL.eta,ZO.eta,ZM.eta,Yd.eta,ZQ.eta,YI.eta,ZX.eta] at hc23
              (exfalso;simp [eqX] at hc23;done)
end Go.Proofs.YtajmnjefajknoaaGreat
namespace Go.Proofs.YtajmnjefajknoaaGreat
open Go.Esp
theorem F.ok13:okFn Tryz.prog 13=true:=by kernel_rfl
theorem F.ok14:okFn Tryz.prog 14=true:=by kernel_rfl
theorem F.ok15:okFn Tryz.prog 15=true:=by kernel_rfl
theorem F.ok9:okFn Tryz.prog 9=true:=by kernel_rfl
end Go.Proofs.YtajmnjefajknoaaGreat
namespace Go.Proofs.YtajmnjefajknoaaGreat
open Go.Esp
theorem F.ok24:okFn Tryz.prog 24=true:=by kernel_rfl
theorem F.ok25:okFn Tryz.prog 25=true:=by kernel_rfl
theorem F.ok26:okFn Tryz.prog 26=true:=by kernel_rfl
theorem lawStarts_ok (M:Mem) (self:ZD) (r:Int) (boot:Int) (n:ZO) (hn0:ZO.ok M n):Esp.Fn Tryz.prog 7 [self.enc,.int .i64 r,.int .i64 boot,n.enc] M (fun _ v=>v=.bool true):=by
  obtain ⟨self_addr,self_id⟩:=self
  obtain ⟨⟨⟨Za,Zb⟩,⟨Zc,Zh⟩,⟨Zj,Zi,Zg⟩,⟨Zf,Ze,Zd⟩⟩,Zq,Zu,ZF,Zx,ZN,ZC,ZA,Zw,Zr,Zy,Zp,Zz,⟨Zt,Zs,Zl⟩,ZE,ZG⟩:=n
  have Yj:ZL.ok M ⟨⟨Za,Zb⟩,⟨Zc,Zh⟩,⟨Zj,Zi,Zg⟩,⟨Zf,Ze,Zd⟩⟩:=hn0.h0
  have YQ:SlK M ZD.segs 21 ⟨Zj,Zi,Zg⟩:=hn0.h0.h0
  have s_n_table_succ:SlM M Zj (Zg.map ZD.segs) 21:=YQ.h1
  have n_n_table_succ:(Zg.map ZD.segs).length=Zg.length:=List.length_map ..
  have m_n_table_succ:Zg.length≤9223372036854775807:=YQ.h2
  have c_n_table_succ:Zg.length≤Zi:=YQ.h3
  have YD:SlK M ZD.segs 21 ⟨Zf,Ze,Zd⟩:=hn0.h0.h1
  have s_n_table_fingers:SlM M Zf (Zd.map ZD.segs) 21:=YD.h1
  have n_n_table_fingers:(Zd.map ZD.segs).length=Zd.length:=List.length_map ..
  have m_n_table_fingers:Zd.length≤9223372036854775807:=YD.h2
  have c_n_table_fingers:Zd.length≤Ze:=YD.h3
  have Ys:SlK M (oneI .i64) 1 ⟨Zt,Zs,Zl⟩:=hn0.h1
  have WY:SlM M Zt (Zl.map (oneI .i64)) 1:=Ys.h1
  have n_n_avoid:(Zl.map (oneI .i64)).length=Zl.length:=List.length_map ..
  have Vc:Zl.length≤9223372036854775807:=Ys.h2
  have c_n_avoid:Zl.length≤Zs:=Ys.h3
  obtain ⟨⟨T1,T2⟩,hT⟩:∃ x,VE ⟨self_addr,self_id⟩ r=x:=⟨_,rfl⟩
  obtain ⟨⟨U1,U2⟩,hU⟩:∃ x,joiningN ⟨self_addr,self_id⟩ r boot=x:=⟨_,rfl⟩
  obtain ⟨⟨V1,V2⟩,hV⟩:∃ x,leaveN (ZO.nd ⟨⟨⟨Za,Zb⟩,⟨Zc,Zh⟩,⟨Zj,Zi,Zg⟩,⟨Zf,Ze,Zd⟩⟩,Zq,Zu,ZF,Zx,ZN,ZC,ZA,Zw,Zr,Zy,Zp,Zz,⟨Zt,Zs,Zl⟩,ZE,ZG⟩)=x:=⟨_,rfl⟩
  refine Wu Tryz.func7 rfl Tryz.ntmps7 rfl ?_;intro H
  refine ZI (Zm (l:=[0,1,2]) rfl ?_)
  refine Xk ?_;intro b1
  refine Xk ?_;intro b2
  refine ZB ?_;refine Zo (Zn (Y_pk [8,7,4,1,2] ?_))
  iterate 2 refine ZI ?_
  refine Zm (l:=[0,1]) rfl ?_;refine ZH F.lay32 ?_;refine X_fs rfl rfl F.ok9 rfl (BigN_ok _ ⟨⟨⟨Za,Zb⟩,⟨Zc,Zh⟩,⟨Zj,Zi,Zg⟩,⟨Zf,Ze,Zd⟩⟩,Zq,Zu,ZF,Zx,ZN,ZC,ZA,Zw,Zr,Zy,Zp,Zz,⟨Zt,Zs,Zl⟩,ZE,ZG⟩ hn0) rfl ?_
  rintro _ ⟨bi,rfl,hbi⟩
  refine Zo (Zn (Y_pk [22,8,7,4,1,2] ?_))
  refine Yx rfl (fun hc3=>?_) (fun hc3=>?_)
  ·skip
   refine ZI (Zm (l:=[0]) rfl ?_);refine ZB ?_;refine Zo (Zn (Y_pk [8,7,4,1,2] ?_));refine Yg (YG ?_)
   refine Ya (.inr rfl) (.tmp rfl .nil) (fun w hw=>?_)
   refine ⟨_,_,rfl,(by exact Mem.le.refl _),hw.c,?_⟩
   clear hw
   rfl
  ·skip
   refine Yv (Zn (Y_pk [8,7,4,1,2] ?_));refine ZI ?_
   obtain ⟨⟨hb1,hb2⟩,hb3⟩:=hbi (by assumption)
   try simp only at hb1 hb2 hb3
   refine Zm (l:=[0,1,2,3,4,5,6,7,8]) rfl ?_;refine ZH F.lay25 ?_;refine Zv ?_;refine X_fn rfl rfl F.ok21 rfl (Alone_ok _ ⟨self_addr,self_id⟩ r) rfl ?_
   rintro _ M1 hm1 hv
   rw [hT] at hv
   simp only [NeE] at hv
   obtain ⟨⟨⟨⟨a_table_self_addr,a_table_self_id⟩,⟨a_table_pred_addr,a_table_pred_id⟩,⟨a_table_succ_a,a_table_succ_c,We⟩,⟨a_table_fingers_a,a_table_fingers_c,XR⟩⟩,a_copies,a_joined,a_boot,a_cursor,a_req,a_askTo,a_askReq,a_pingTo,a_pingReq,a_findTo,a_findReq,a_findID,⟨a_avoid_a,a_avoid_c,Wn⟩,a_hops,a_turn⟩,rfl,ea,oka⟩:=hv
   try simp only at ea
   refine Zv ?_
   iterate 2 refine Xz ?_
   refine YT F.zero32 ?_;intro b4
   refine Xy F.lay32 ?_;refine ZB ?_;refine Zo (Zn (Y_pk [10,9,8,7,4,1,2] ?_));refine ZI (Zm (l:=[0,1,2,3,4,5,6,7,8]) rfl ?_);refine ZH F.lay25 ?_;refine Zv ?_;refine X_fn rfl rfl F.ok22 rfl (rAlone_ok _ ⟨self_addr,self_id⟩ r) rfl ?_
   rintro _ M2 hm2 hv
   rw [hT] at hv
   simp only [NeE] at hv
   obtain ⟨⟨⟨⟨b_table_self_addr,b_table_self_id⟩,⟨b_table_pred_addr,b_table_pred_id⟩,⟨b_table_succ_a,b_table_succ_c,Wd⟩,⟨b_table_fingers_a,b_table_fingers_c,XQ⟩⟩,b_copies,b_joined,b_boot,b_cursor,b_req,b_askTo,b_askReq,b_pingTo,b_pingReq,b_findTo,b_findReq,b_findID,⟨b_avoid_a,b_avoid_c,Wm⟩,b_hops,b_turn⟩,rfl,eb,okb⟩:=hv
   try simp only at eb
   refine Zv ?_
   iterate 2 refine Xz ?_
   refine YT F.zero32 ?_;intro b5
   refine Xy F.lay32 ?_;refine ZB ?_;refine Zo (Zn (Y_pk [12,11,10,9,8,7,4,1,2] ?_));refine ZI (Zm (l:=[0,1,2,3,4,5,6,7,8,9]) rfl ?_);refine ZH F.lay25 ?_
   iterate 2 refine Zv ?_
   refine X_fn rfl rfl F.ok23 rfl (Joining_ok _ ⟨self_addr,self_id⟩ r boot) rfl ?_
   rintro _ M3 hm3 hv
   rw [hU] at hv
   simp only [NeE] at hv
   obtain ⟨⟨⟨⟨c_table_self_addr,c_table_self_id⟩,⟨c_table_pred_addr,c_table_pred_id⟩,⟨c_table_succ_a,c_table_succ_c,c_table_succ_l⟩,⟨c_table_fingers_a,c_table_fingers_c,c_table_fingers_l⟩⟩,c_copies,c_joined,c_boot,c_cursor,c_req,c_askTo,c_askReq,c_pingTo,c_pingReq,c_findTo,c_findReq,c_findID,⟨c_avoid_a,c_avoid_c,c_avoid_l⟩,c_hops,c_turn⟩,rfl,ec,okc⟩:=hv
   try simp only at ec
   refine Zv ?_
   iterate 2 refine Xz ?_
   refine YT F.zero32 ?_;intro b6
   refine Xy F.lay32 ?_;refine ZB ?_;refine Zo (Zn (Y_pk [14,13,12,11,10,9,8,7,4,1,2] ?_));refine ZI (Zm (l:=[0,1,2,3,4,5,6,7,8,9]) rfl ?_);refine ZH F.lay25 ?_
   iterate 2 refine Zv ?_
   refine X_fn rfl rfl F.ok24 rfl (rJoining_ok _ ⟨self_addr,self_id⟩ r boot) rfl ?_
   rintro _ M4 hm4 hv
   rw [hU] at hv
   simp only [NeE] at hv
   obtain ⟨⟨⟨⟨d_table_self_addr,d_table_self_id⟩,⟨d_table_pred_addr,d_table_pred_id⟩,⟨d_table_succ_a,d_table_succ_c,d_table_succ_l⟩,⟨d_table_fingers_a,d_table_fingers_c,d_table_fingers_l⟩⟩,d_copies,d_joined,d_boot,d_cursor,d_req,d_askTo,d_askReq,d_pingTo,d_pingReq,d_findTo,d_findReq,d_findID,⟨d_avoid_a,d_avoid_c,d_avoid_l⟩,d_hops,d_turn⟩,rfl,ed,okd⟩:=hv
   try simp only at ed
   refine Zv ?_
   iterate 2 refine Xz ?_
   refine YT F.zero32 ?_;intro b7
   refine Xy F.lay32 ?_;refine ZB ?_;refine Zo (Zn (Y_pk [16,15,14,13,12,11,10,9,8,7] ?_));refine ZI (Zm (l:=[0,1,2,3,4,5,6]) rfl ?_);refine ZH F.lay32 ?_;refine X_fn rfl rfl F.ok25 rfl (Leave_ok _ ⟨⟨⟨Za,Zb⟩,⟨Zc,Zh⟩,⟨Zj,Zi,Zg⟩,⟨Zf,Ze,Zd⟩⟩,Zq,Zu,ZF,Zx,ZN,ZC,ZA,Zw,Zr,Zy,Zp,Zz,⟨Zt,Zs,Zl⟩,ZE,ZG⟩ (hn0.mono (by (repeat first|assumption|refine Mem.le.trans (by assumption) ?_)))) rfl ?_
   rintro _ M5 hm5 hv
   rw [hV] at hv
   simp only [LvE] at hv
   obtain ⟨⟨s_a,s_c,s_l⟩,rfl,ss,ks,ls⟩:=hv
   try simp only at ss ks ls
   refine Zv ?_
   iterate 2 refine Xz ?_
   iterate 2 refine ZB ?_
   refine Zo (Zn (Y_pk [18,17,16,15,14,13,12,11,10,9,8,7] ?_));refine ZI (Zm (l:=[0,1,2,3,4,5,6]) rfl ?_);refine ZH F.lay32 ?_;refine X_fn rfl rfl F.ok26 rfl (rLeave_ok _ ⟨⟨⟨Za,Zb⟩,⟨Zc,Zh⟩,⟨Zj,Zi,Zg⟩,⟨Zf,Ze,Zd⟩⟩,Zq,Zu,ZF,Zx,ZN,ZC,ZA,Zw,Zr,Zy,Zp,Zz,⟨Zt,Zs,Zl⟩,ZE,ZG⟩ (hn0.mono (by (repeat first|assumption|refine Mem.le.trans (by assumption) ?_)))) rfl ?_
   rintro _ M6 hm6 hv
   rw [hV] at hv
   simp only [LvE] at hv
   obtain ⟨⟨t_a,t_c,t_l⟩,rfl,st,kt,lt⟩:=hv
   try simp only at st kt lt
   refine Zv ?_
   iterate 2 refine Xz ?_
   iterate 2 refine ZB ?_
   refine Zo (Zn (Y_pk [20,19,18,17,16,15,14,13,12,11,10,9,8,7] ?_));refine ZI (Yy (l:=[0,1,2,3,4,5,6,7,8,9,10,11,12,13,14,15,16,17,18,19,20,21,22,23,24,25,26,27,28,29,30,31,32,33,34,35,36,37,38]) #[0,1,3,3,15,31,63,127,127,511,1023,2047,4095,4095,16383,32767,65535,131071,131071,524287,1048575,2097151,4194303,8388607,4194303,33554431,67108863,134217727,268435455,536870911,536870911,2147483647,4294967295,8589934591,17179869183,17179869183,68719476735,137438953471,274877906943] _ rfl (by kernel_rfl) (by kernel_rfl) St.drawn (fun _ h=>h) ?_);refine X_fn rfl rfl F.ok13 rfl (noded_ok _) rfl ?_
   rintro _ M99 hm99 rfl
   refine Zv ?_
   refine Yh 60 rfl (fun hc8=>?_) (fun hc8=>?_)
   ·skip
    simp only [ZD.eta,ZL.eta,ZO.eta,ZM.eta,Yd.eta,ZQ.eta,YI.eta,ZX.eta] at hc8
    iterate 2 refine ZH F.lay32 ?_
    refine X_fs rfl rfl F.ok14 rfl (SameN_ok _ ⟨⟨⟨a_table_self_addr,a_table_self_id⟩,⟨a_table_pred_addr,a_table_pred_id⟩,⟨a_table_succ_a,a_table_succ_c,We⟩,⟨a_table_fingers_a,a_table_fingers_c,XR⟩⟩,a_copies,a_joined,a_boot,a_cursor,a_req,a_askTo,a_askReq,a_pingTo,a_pingReq,a_findTo,a_findReq,a_findID,⟨a_avoid_a,a_avoid_c,Wn⟩,a_hops,a_turn⟩ ⟨⟨⟨b_table_self_addr,b_table_self_id⟩,⟨b_table_pred_addr,b_table_pred_id⟩,⟨b_table_succ_a,b_table_succ_c,Wd⟩,⟨b_table_fingers_a,b_table_fingers_c,XQ⟩⟩,b_copies,b_joined,b_boot,b_cursor,b_req,b_askTo,b_askReq,b_pingTo,b_pingReq,b_findTo,b_findReq,b_findID,⟨b_avoid_a,b_avoid_c,Wm⟩,b_hops,b_turn⟩ (oka.mono (by (repeat first|assumption|refine Mem.le.trans (by assumption) ?_))) (okb.mono (by (repeat first|assumption|refine Mem.le.trans (by assumption) ?_)))) rfl ?_
    rintro _ hv
    rw [decide_eq_true (show ZO.nd ⟨⟨⟨a_table_self_addr,a_table_self_id⟩,⟨a_table_pred_addr,a_table_pred_id⟩,⟨a_table_succ_a,a_table_succ_c,We⟩,⟨a_table_fingers_a,a_table_fingers_c,XR⟩⟩,a_copies,a_joined,a_boot,a_cursor,a_req,a_askTo,a_askReq,a_pingTo,a_pingReq,a_findTo,a_findReq,a_findID,⟨a_avoid_a,a_avoid_c,Wn⟩,a_hops,a_turn⟩=ZO.nd ⟨⟨⟨b_table_self_addr,b_table_self_id⟩,⟨b_table_pred_addr,b_table_pred_id⟩,⟨b_table_succ_a,b_table_succ_c,Wd⟩,⟨b_table_fingers_a,b_table_fingers_c,XQ⟩⟩,b_copies,b_joined,b_boot,b_cursor,b_req,b_askTo,b_askReq,b_pingTo,b_pingReq,b_findTo,b_findReq,b_findID,⟨b_avoid_a,b_avoid_c,Wm⟩,b_hops,b_turn⟩ from ea.trans eb.symm)] at hv
    subst hv
    refine ZK ?_;refine Zv ?_
    refine Yh 65 rfl (fun hc9=>?_) (fun hc9=>?_)
    ·skip
     simp only [ZD.eta,ZL.eta,ZO.eta,ZM.eta,Yd.eta,ZQ.eta,YI.eta,ZX.eta] at hc9
     iterate 2 refine Zv ?_
     refine Yz ?_;refine ZK ?_;refine Zv ?_
     refine Yh 70 rfl (fun hc10=>?_) (fun hc10=>?_)
     ·replace hc10:=dT hc10
      simp only [ZD.eta,ZL.eta,ZO.eta,ZM.eta,Yd.eta,ZQ.eta,YI.eta,ZX.eta] at hc10
      iterate 2 refine ZH F.lay32 ?_
      refine X_fs rfl rfl F.ok14 rfl (SameN_ok _ ⟨⟨⟨c_table_self_addr,c_table_self_id⟩,⟨c_table_pred_addr,c_table_pred_id⟩,⟨c_table_succ_a,c_table_succ_c,c_table_succ_l⟩,⟨c_table_fingers_a,c_table_fingers_c,c_table_fingers_l⟩⟩,c_copies,c_joined,c_boot,c_cursor,c_req,c_askTo,c_askReq,c_pingTo,c_pingReq,c_findTo,c_findReq,c_findID,⟨c_avoid_a,c_avoid_c,c_avoid_l⟩,c_hops,c_turn⟩ ⟨⟨⟨d_table_self_addr,d_table_self_id⟩,⟨d_table_pred_addr,d_table_pred_id⟩,⟨d_table_succ_a,d_table_succ_c,d_table_succ_l⟩,⟨d_table_fingers_a,d_table_fingers_c,d_table_fingers_l⟩⟩,d_copies,d_joined,d_boot,d_cursor,d_req,d_askTo,d_askReq,d_pingTo,d_pingReq,d_findTo,d_findReq,d_findID,⟨d_avoid_a,d_avoid_c,d_avoid_l⟩,d_hops,d_turn⟩ (okc.mono (by (repeat first|assumption|refine Mem.le.trans (by assumption) ?_))) (okd.mono (by (repeat first|assumption|refine Mem.le.trans (by assumption) ?_)))) rfl ?_
      rintro _ hv
      rw [decide_eq_true (show ZO.nd ⟨⟨⟨c_table_self_addr,c_table_self_id⟩,⟨c_table_pred_addr,c_table_pred_id⟩,⟨c_table_succ_a,c_table_succ_c,c_table_succ_l⟩,⟨c_table_fingers_a,c_table_fingers_c,c_table_fingers_l⟩⟩,c_copies,c_joined,c_boot,c_cursor,c_req,c_askTo,c_askReq,c_pingTo,c_pingReq,c_findTo,c_findReq,c_findID,⟨c_avoid_a,c_avoid_c,c_avoid_l⟩,c_hops,c_turn⟩=ZO.nd ⟨⟨⟨d_table_self_addr,d_table_self_id⟩,⟨d_table_pred_addr,d_table_pred_id⟩,⟨d_table_succ_a,d_table_succ_c,d_table_succ_l⟩,⟨d_table_fingers_a,d_table_fingers_c,d_table_fingers_l⟩⟩,d_copies,d_joined,d_boot,d_cursor,d_req,d_askTo,d_askReq,d_pingTo,d_pingReq,d_findTo,d_findReq,d_findID,⟨d_avoid_a,d_avoid_c,d_avoid_l⟩,d_hops,d_turn⟩ from ec.trans ed.symm)] at hv
      subst hv
      refine ZK ?_;refine Zv ?_
      refine Yh 75 rfl (fun hc11=>?_) (fun hc11=>?_)
      ·skip
       simp only [ZD.eta,ZL.eta,ZO.eta,ZM.eta,Yd.eta,ZQ.eta,YI.eta,ZX.eta] at hc11
       iterate 2 refine Zv ?_
       refine Yz ?_;refine ZK ?_;refine Zv ?_
       refine Yh 80 rfl (fun hc12=>?_) (fun hc12=>?_)
       ·replace hc12:=dT hc12
        simp only [ZD.eta,ZL.eta,ZO.eta,ZM.eta,Yd.eta,ZQ.eta,YI.eta,ZX.eta] at hc12
        refine ZH F.lay32 ?_;refine X_fs rfl rfl F.ok27 rfl (IsN_ok _ ⟨⟨⟨Za,Zb⟩,⟨Zc,Zh⟩,⟨Zj,Zi,Zg⟩,⟨Zf,Ze,Zd⟩⟩,Zq,Zu,ZF,Zx,ZN,ZC,ZA,Zw,Zr,Zy,Zp,Zz,⟨Zt,Zs,Zl⟩,ZE,ZG⟩ (hn0.mono (by (repeat first|assumption|refine Mem.le.trans (by assumption) ?_)))) rfl ?_
        rintro _ rfl
        refine ZH F.lay32 ?_;refine X_fs rfl rfl F.ok28 rfl (rIsN_ok _ ⟨⟨⟨Za,Zb⟩,⟨Zc,Zh⟩,⟨Zj,Zi,Zg⟩,⟨Zf,Ze,Zd⟩⟩,Zq,Zu,ZF,Zx,ZN,ZC,ZA,Zw,Zr,Zy,Zp,Zz,⟨Zt,Zs,Zl⟩,ZE,ZG⟩ (hn0.mono (by (repeat first|assumption|refine Mem.le.trans (by assumption) ?_)))) rfl ?_
        rintro _ rfl
        refine X_eqb rfl rfl rfl rfl rfl Tryz.underlying4 rfl ?_;refine ZK ?_;refine Zv ?_
        refine Yh 87 rfl (fun hc13=>?_) (fun hc13=>?_)
        ·replace hc13:=dT hc13
         simp only [ZD.eta,ZL.eta,ZO.eta,ZM.eta,Yd.eta,ZQ.eta,YI.eta,ZX.eta] at hc13
         iterate 2 refine Zv ?_
         refine X_fs rfl rfl F.ok15 rfl (Sends_ok _ ⟨s_a,s_c,s_l⟩ ⟨t_a,t_c,t_l⟩ (ks.mono (by (repeat first|assumption|refine Mem.le.trans (by assumption) ?_))) (fun h hh=>(ls h hh).mono (by (repeat first|assumption|refine Mem.le.trans (by assumption) ?_))) (kt.mono (by assumption)) (fun h hh=>(lt h hh).mono (by assumption))) rfl ?_
         rintro _ hv
         rw [decide_eq_true (show s_l.map Yd.snd=t_l.map Yd.snd from ss.trans st.symm)] at hv
         subst hv
         refine ZK ?_;refine Zv ?_
         refine Yh 92 rfl (fun hc14=>?_) (fun hc14=>?_)
         ·skip
          simp only [ZD.eta,ZL.eta,ZO.eta,ZM.eta,Yd.eta,ZQ.eta,YI.eta,ZX.eta] at hc14
          iterate 2 refine Zv ?_
          refine Yz ?_;refine ZK ?_;refine ZB ?_;refine Zo (Zn (Y_pk [8] ?_));refine Yg ?_
          refine Ya (.inr rfl) (.tmp rfl .nil) (fun w hw=>?_)
          refine ⟨_,_,rfl,(by exact ((((((hm1.trans hm2).trans hm3).trans hm4).trans hm5).trans hm6).trans hm99)),hw.c,?_⟩
          clear hw
          (simp;rfl)
         ·skip
          (exfalso;simp [eqX] at hc14;done)
        ·replace hc13:=dF hc13
         simp only [ZD.eta,ZL.eta,ZO.eta,ZM.eta,Yd.eta,ZQ.eta,YI.eta,ZX.eta] at hc13
         (exfalso;simp [eqX] at hc13;done)
       ·replace hc12:=dF hc12
        simp only [ZD.eta,ZL.eta,ZO.eta,ZM.eta,Yd.eta,ZQ.eta,YI.eta,ZX.eta] at hc12
        (exfalso;simp [eqX] at hc12;done)
      ·skip
       (exfalso;simp [eqX] at hc11;done)
     ·replace hc10:=dF hc10
      simp only [ZD.eta,ZL.eta,ZO.eta,ZM.eta,Yd.eta,ZQ.eta,YI.eta,ZX.eta] at hc10
      (exfalso;simp [eqX] at hc10;done)
    ·skip
     (exfalso;simp [eqX] at hc9;done)
   ·skip
    (exfalso;simp [eqX] at hc8;done)
end Go.Proofs.YtajmnjefajknoaaGreat
