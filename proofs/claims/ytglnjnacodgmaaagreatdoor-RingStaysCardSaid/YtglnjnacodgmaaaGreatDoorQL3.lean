/-
  Texts of this claim, one behind the other: T19, SmallN, T20, Frz, NodeT, Rules10, Rules11, Rules12, Core2, Rules13, Rules14, NodeY, N1, N2, N3, N4, NodeH, N5, N6, N7, N8, N9, N10, N11, NodeF, N12, N13, N14, N15, N16, NodeW, E1, E2, E3, E4, E5, E6, E7, E8.
-/
import Derived.Test.YtglnjnacodgmaaaGreatDoorQL2
import Derived.Lib.AppendZerosOnto
import Derived.Lib.Overlaps
set_option linter.unusedSimpArgs false
set_option linter.unusedVariables false
set_option linter.unnecessarySimpa false
set_option maxRecDepth 8000
set_option maxHeartbeats 1000000
namespace Go.Proofs.YtglnjnacodgmaaaGreatDoor
open Go.Esp
theorem F.elem32:slOf Tryz.prog 32=some (3,1,8):=by kernel_rfl
theorem F.ok155:okFn Tryz.prog 155=true:=by kernel_rfl
theorem F.ok20:okFn Tryz.prog 20=true:=by kernel_rfl
theorem F.ok96:okFn Tryz.prog 96=true:=by kernel_rfl
theorem IndexI_rd (M:Mem) (Hin:Hp) (l:Sl Int) (x:Int) (hl:RdS M Hin l.a (l.l.map (oneI .i64)) 1) (bl:l.l.length≤9223372036854775807):Fo Tryz.prog 155 [l.val,.int .i64 x] M Hin (fun M' v=>M'=M∧v=.int .i64 (idxI x l.l)):=by
  have nl:(l.l.map (oneI .i64)).length=l.l.length:=List.length_map ..
  refine Vu Tryz.func155 rfl Tryz.ntmps155 rfl ?_;intro H
  have hrd:=hl.app H
  iterate 9 refine Stp ?_
  refine YA F.elem32 ?_
  iterate 4 refine Stp ?_
  refine Y_pk [8,7,4,0,1] ?_;refine VI (.succ .zero) (fun (k:Nat) z=>z=[(8,.int .i64 (k:Int))]∧k≤l.l.length∧(x∉l.l.take k)) (fun k=>l.l.length-k) (0) (⟨rfl,by omega,by simp⟩) ?_
  rintro k _ ⟨rfl,hk,hI⟩
  iterate 6 refine Stp ?_
  refine ZW rfl (cT fun hc1=>?_) (cF fun hc1=>?_)
  ·iterate 15 refine Stp ?_
   refine Ys rfl rfl rfl rfl F.elem32 jR jC yT rfl ?_;refine X_load_rd rfl rfl rfl jE yC F.lay3 rfl rfl rfl ?_
   iterate 3 refine Stp ?_
   refine ZW rfl (cT fun hc2=>?_) (cF fun hc2=>?_)
   ·iterate 12 refine Stp ?_
    refine ZV (.inr rfl) (.tmp rfl .nil) (fun w hw=>?_)
    refine ⟨_,M,rfl,Mem.le.refl M,hw.c,rfl,?_⟩
    refine congrArg (Value.int .i64) ?_
    exact (idxI_at jC hI jE).symm
   ·iterate 4 refine Stp ?_
    refine YO rfl rfl rfl rfl rfl yA rfl ?_
    iterate 2 refine Stp ?_
    refine Vq (a':=[(8,_)]) (k+1) (.cons (k:=8) rfl (.cons (k:=7) rfl (.cons (k:=4) rfl (.cons (k:=0) rfl (.cons (k:=1) rfl (.nil)))))) (fun w hw=>by first|exact hw|exact hw.c) ?_ ?_
    ·refine ⟨rfl,by omega,?_⟩
     exact not_take_succ jC hI jE
    ·omega
  ·iterate 11 refine Stp ?_
   refine ZV (.inr rfl) (.tmp rfl .nil) (fun w hw=>?_)
   refine ⟨_,M,rfl,Mem.le.refl M,hw.c,rfl,?_⟩
   refine congrArg (Value.int .i64) ?_
   (have hk9:k=l.l.length:=jC;subst hk9;rw [List.take_length] at hI;exact (idxI_none hI).symm)
theorem ContainsI_rd (M:Mem) (Hin:Hp) (l:Sl Int) (x:Int) (hl:RdS M Hin l.a (l.l.map (oneI .i64)) 1) (bl:l.l.length≤9223372036854775807):Fo Tryz.prog 96 [l.val,.int .i64 x] M Hin (fun M' v=>M'=M∧v=.bool (decide (x∈l.l))):=by
  refine Vu Tryz.func96 rfl Tryz.ntmps96 rfl ?_;intro H
  iterate 9 refine Stp ?_
  refine X_fo rfl rfl F.ok155 rfl (IndexI_rd _ Hin ⟨_,_,_⟩ _ hl bl) jA (ZT rfl) ?_
  rintro _ M1 _ ⟨hM1,rfl⟩;subst M1
  iterate 5 refine Stp ?_
  refine ZV (.inr rfl) (.tmp rfl .nil) (fun w hw=>?_)
  exact ⟨_,M,rfl,Mem.le.refl M,hw.c,rfl,congrArg Value.bool (by simp [idxI_nn])⟩
theorem ContainsI_ok (M:Mem) (l:Sl Int) (x:Int) (hl:SlM M l.a (l.l.map (oneI .i64)) 1) (bl:l.l.length≤maxLen):Fs Tryz.prog 96 [l.val,.int .i64 x] M (fun v=>v=.bool (decide (x∈l.l))) :=
  fs_of_fo (ContainsI_rd M [] l x (hl.rd []) bl)
theorem Nearest_ok (M:Mem) (t:ZO) (id:Plc) (avoid:(Sl Int)) (ht0:ZO.ok M t) (havoid1:SlK M (oneI .i64) 1 avoid) (hbig:t.succ.l.length≤40∧t.fingers.l.length≤200):Esp.Fn Tryz.prog 59 [t.enc,aggV [Yb id],Sl.val avoid] M (fun M' v=>v=ofPB (Ww t.tb id avoid.l)):=by
  obtain ⟨⟨Ye,Yn⟩,⟨Yp,YC⟩,⟨Yx,Yw,Yc⟩,⟨Yi,Yh,ZI⟩⟩:=t
  obtain ⟨avoid_a,avoid_c,avoid_l⟩:=avoid
  have Xc:SlK M Zs.segs 21 ⟨Yx,Yw,Yc⟩:=ht0.h0
  have s_t_succ:SlM M Yx (Yc.map Zs.segs) 21:=Xc.h1
  have n_t_succ:(Yc.map Zs.segs).length=Yc.length:=List.length_map ..
  have m_t_succ:Yc.length≤9223372036854775807:=Xc.h2
  have c_t_succ:Yc.length≤Yw:=Xc.h3
  have YG:SlK M Zs.segs 21 ⟨Yi,Yh,ZI⟩:=ht0.h1
  have Vz:SlM M Yi (ZI.map Zs.segs) 21:=YG.h1
  have n_t_fingers:(ZI.map Zs.segs).length=ZI.length:=List.length_map ..
  have VC:ZI.length≤9223372036854775807:=YG.h2
  have c_t_fingers:ZI.length≤Yh:=YG.h3
  have k_avoid:SlK M (oneI .i64) 1 ⟨avoid_a,avoid_c,avoid_l⟩:=havoid1
  have s_avoid:SlM M avoid_a (avoid_l.map (oneI .i64)) 1:=k_avoid.h1
  have n_avoid:(avoid_l.map (oneI .i64)).length=avoid_l.length:=List.length_map ..
  have m_avoid:avoid_l.length≤9223372036854775807:=k_avoid.h2
  have c_avoid:avoid_l.length≤avoid_c:=k_avoid.h3
  simp only at hbig
  refine WF Tryz.func59 rfl Tryz.ntmps59 rfl ?_;intro H
  iterate 2 refine Stp ?_
  refine Xq ?_;intro b1
  refine Xq ?_;intro b2
  refine Yz F.zero38 ?_;intro b3
  iterate 5 refine Stp ?_
  refine X_fs rfl rfl F.ok78 rfl (Vp _) rfl ?_
  rintro _ rfl
  refine XI 12 rfl (show _=aggV [.one (.int .i64 (-1)),Yb 0] from rfl) ?_
  refine Yz F.zero38 ?_;intro b4
  refine Ya F.lay38 ?_
  iterate 6 refine Stp ?_
  refine Zy F.lay41 ?_;refine X_fn rfl rfl F.ok20 rfl (Known_ok M ⟨⟨Ye,Yn⟩,⟨Yp,YC⟩,⟨Yx,Yw,Yc⟩,⟨Yi,Yh,ZI⟩⟩ ht0 hbig) rfl ?_
  rintro _ M1 hm1 ⟨⟨ps_a,ps_c,ps_l⟩,rfl,hps,k_ps⟩
  have s_ps:=k_ps.h1
  have n_ps:(ps_l.map Zs.segs).length=ps_l.length:=List.length_map ..
  have m_ps:ps_l.length≤9223372036854775807:=k_ps.h2
  simp only at hps s_ps
  refine YA F.elem39 ?_
  iterate 4 refine Stp ?_
  refine Y_pk [16,9,15,14,8,7,6,4,3,2] ?_;refine Wt (Hin:=[(b4,rowO [.one (.int .i64 (-1)),Yb 0] 38)]) (.succ (.succ .zero)) jA (fun (k:Nat) M9 h1 z=>∃ r:Zs×Bool,M9=M1∧z=[(16,.int .i64 (k:Int)),(9,.bool r.2)]∧k≤ps_l.length∧h1=[(b4,rowO [.one (.int .i64 r.1.addr),Yb r.1.id] 38)]∧(ps_l.take (k)).foldl (VB ⟨Ye,Yn⟩ id avoid_l) (YD,false)=r) (fun k=>ps_l.length-k) (0) (⟨(YD,false),rfl,rfl,by omega,rfl,rfl⟩) ?_
  rintro k M2 h1 z hm2 ⟨⟨⟨ra,ri⟩,rb⟩,hM2,rfl,hk,rfl,hI⟩
  subst hM2
  rcases rb with _|_
  ·skip
   iterate 6 refine Stp ?_
   refine ZW rfl (cT fun hc5=>?_) (cF fun hc5=>?_)
   ·iterate 5 refine Stp ?_
    obtain ⟨⟨x_addr,x_id⟩,hx⟩:∃ x,ps_l[k]=x:=⟨_,rfl⟩
    refine Stp ?_;refine Ys rfl rfl rfl rfl F.elem39 jR jC yB rfl ?_;refine Xm rfl rfl rfl s_ps (show (ps_l.map Zs.segs)[k]?=some (Zs.segs ⟨x_addr,x_id⟩) by rw [List.getElem?_map,List.getElem?_eq_getElem jC,hx];rfl) F.lay38 rfl rfl rfl ?_
    refine Yz F.zero38 ?_;intro b6
    refine Ya F.lay38 ?_
    iterate 6 refine Stp ?_
    refine Zi F.foff38_0 ?_;refine Zy F.lay3 ?_;refine X_fs rfl rfl F.ok96 rfl (ContainsI_ok _ ⟨_,_,_⟩ _ (by exact SlM.mono jE yM) jE) rfl ?_
    rintro _ rfl
    refine Yk ?_
    refine Yt 24 rfl (cT fun hc7=>?_) (cF fun hc7=>?_)
    ·simp only [Zs.eta,ZO.eta,ZJ.eta,ZF.eta,Ym.eta,Yv.eta,Yy.eta,Yq.eta,ZN.eta,YF.eta,ZU.eta] at hc7
     iterate 17 refine Stp ?_
     refine YO rfl rfl rfl rfl rfl yA rfl ?_
     iterate 2 refine Stp ?_
     refine Xa (a':=[(16,_),(9,_)]) (k+1) ([(b4,rowO [.one (.int .i64 ra),Yb ri] 38)]) (.cons (k:=16) rfl (.cons (k:=9) rfl (.cons (k:=15) rfl (.cons (k:=14) rfl (.cons (k:=8) rfl (.cons (k:=7) rfl (.cons (k:=6) rfl (.cons (k:=4) rfl (.cons (k:=3) rfl (.cons (k:=2) rfl (.nil))))))))))) jP (fun w hw=>by first|exact hw|exact hw.c) ?_ ?_
     ·exact ⟨(⟨ra,ri⟩,false),rfl,rfl,by omega,rfl,by rw [foldl_take (by omega:k<ps_l.length),hI,hx];unfold VB;rw [if_pos yQ]⟩
     ·omega
    ·simp only [Zs.eta,ZO.eta,ZJ.eta,ZF.eta,Ym.eta,Yv.eta,Yy.eta,Yq.eta,ZN.eta,YF.eta,ZU.eta] at hc7
     refine Zi F.foff41_0 ?_;refine Zi F.foff38_1 ?_;refine Zy F.lay36 ?_;refine Zi F.foff38_1 ?_
     iterate 2 refine Zy F.lay36 ?_
     refine X_fs rfl rfl F.ok101 rfl (Open_ok _ _ _ _) rfl ?_
     rintro _ rfl
     iterate 4 refine Stp ?_
     refine ZW rfl (eT fun hc8=>?_) (eF fun hc8=>?_)
     ·iterate 5 refine Stp ?_
      refine YO rfl rfl rfl rfl rfl yA rfl ?_
      iterate 2 refine Stp ?_
      refine Xa (a':=[(16,_),(9,_)]) (k+1) ([(b4,rowO [.one (.int .i64 ra),Yb ri] 38)]) (.cons (k:=16) rfl (.cons (k:=9) rfl (.cons (k:=15) rfl (.cons (k:=14) rfl (.cons (k:=8) rfl (.cons (k:=7) rfl (.cons (k:=6) rfl (.cons (k:=4) rfl (.cons (k:=3) rfl (.cons (k:=2) rfl (.nil))))))))))) jP (fun w hw=>by first|exact hw|exact hw.c) ?_ ?_
      ·exact ⟨(⟨ra,ri⟩,false),rfl,rfl,by omega,rfl,by rw [foldl_take (by omega:k<ps_l.length),hI,hx];unfold VB;rw [if_pos (by exact .inr jE)]⟩
      ·omega
     ·iterate 18 refine Stp ?_
      refine Zy F.lay38 ?_;refine Ya F.lay38 ?_
      iterate 5 refine Stp ?_
      refine YO rfl rfl rfl rfl rfl yA rfl ?_
      iterate 2 refine Stp ?_
      refine Xa (a':=[(16,_),(9,_)]) (k+1) ([(b4,rowO [.one (.int .i64 x_addr),Yb x_id] 38)]) (.cons (k:=16) rfl (.cons (k:=9) rfl (.cons (k:=15) rfl (.cons (k:=14) rfl (.cons (k:=8) rfl (.cons (k:=7) rfl (.cons (k:=6) rfl (.cons (k:=4) rfl (.cons (k:=3) rfl (.cons (k:=2) rfl (.nil))))))))))) jP (fun w hw=>by first|exact hw|exact hw.c) ?_ ?_
      ·exact ⟨(⟨x_addr,x_id⟩,true),rfl,rfl,by omega,rfl,by rw [foldl_take (by omega:k<ps_l.length),hI,hx];unfold VB;rw [if_neg yS,if_pos (.inl rfl)]⟩
      ·omega
   ·iterate 7 refine Stp ?_
    refine Zy F.lay38 ?_;refine Yk ?_;refine Ya F.lay38 ?_
    iterate 4 refine Stp ?_
    refine ZV (.inr rfl) (.cell rfl jB F.lay38 rfl rfl (.tmp rfl .nil)) (fun w hw=>?_)
    obtain rfl:k=ps_l.length:=by omega
    rw [List.take_length,hps] at hI
    refine ⟨_,M2,rfl,hm1,hw.c,?_⟩
    unfold Ww
    rw [show (ZO.tb ⟨⟨Ye,Yn⟩,⟨Yp,YC⟩,⟨Yx,Yw,Yc⟩,⟨Yi,Yh,ZI⟩⟩).self=⟨Ye,Yn⟩ from rfl,hI];rfl
  ·skip
   iterate 6 refine Stp ?_
   refine ZW rfl (cT fun hc9=>?_) (cF fun hc9=>?_)
   ·iterate 5 refine Stp ?_
    obtain ⟨⟨x_addr,x_id⟩,hx⟩:∃ x,ps_l[k]=x:=⟨_,rfl⟩
    refine Stp ?_;refine Ys rfl rfl rfl rfl F.elem39 jR jC yB rfl ?_;refine Xm rfl rfl rfl s_ps (show (ps_l.map Zs.segs)[k]?=some (Zs.segs ⟨x_addr,x_id⟩) by rw [List.getElem?_map,List.getElem?_eq_getElem jC,hx];rfl) F.lay38 rfl rfl rfl ?_
    refine Yz F.zero38 ?_;intro b10
    refine Ya F.lay38 ?_
    iterate 6 refine Stp ?_
    refine Zi F.foff38_0 ?_;refine Zy F.lay3 ?_;refine X_fs rfl rfl F.ok96 rfl (ContainsI_ok _ ⟨_,_,_⟩ _ (by exact SlM.mono jE yM) jE) rfl ?_
    rintro _ rfl
    refine Yk ?_
    refine Yt 24 rfl (cT fun hc11=>?_) (cF fun hc11=>?_)
    ·simp only [Zs.eta,ZO.eta,ZJ.eta,ZF.eta,Ym.eta,Yv.eta,Yy.eta,Yq.eta,ZN.eta,YF.eta,ZU.eta] at hc11
     iterate 17 refine Stp ?_
     refine YO rfl rfl rfl rfl rfl yA rfl ?_
     iterate 2 refine Stp ?_
     refine Xa (a':=[(16,_),(9,_)]) (k+1) ([(b4,rowO [.one (.int .i64 ra),Yb ri] 38)]) (.cons (k:=16) rfl (.cons (k:=9) rfl (.cons (k:=15) rfl (.cons (k:=14) rfl (.cons (k:=8) rfl (.cons (k:=7) rfl (.cons (k:=6) rfl (.cons (k:=4) rfl (.cons (k:=3) rfl (.cons (k:=2) rfl (.nil))))))))))) jP (fun w hw=>by first|exact hw|exact hw.c) ?_ ?_
     ·exact ⟨(⟨ra,ri⟩,true),rfl,rfl,by omega,rfl,by rw [foldl_take (by omega:k<ps_l.length),hI,hx];unfold VB;rw [if_pos yQ]⟩
     ·omega
    ·simp only [Zs.eta,ZO.eta,ZJ.eta,ZF.eta,Ym.eta,Yv.eta,Yy.eta,Yq.eta,ZN.eta,YF.eta,ZU.eta] at hc11
     refine Zi F.foff41_0 ?_;refine Zi F.foff38_1 ?_;refine Zy F.lay36 ?_;refine Zi F.foff38_1 ?_
     iterate 2 refine Zy F.lay36 ?_
     refine X_fs rfl rfl F.ok101 rfl (Open_ok _ _ _ _) rfl ?_
     rintro _ rfl
     iterate 4 refine Stp ?_
     refine ZW rfl (eT fun hc12=>?_) (eF fun hc12=>?_)
     ·iterate 5 refine Stp ?_
      refine YO rfl rfl rfl rfl rfl yA rfl ?_
      iterate 2 refine Stp ?_
      refine Xa (a':=[(16,_),(9,_)]) (k+1) ([(b4,rowO [.one (.int .i64 ra),Yb ri] 38)]) (.cons (k:=16) rfl (.cons (k:=9) rfl (.cons (k:=15) rfl (.cons (k:=14) rfl (.cons (k:=8) rfl (.cons (k:=7) rfl (.cons (k:=6) rfl (.cons (k:=4) rfl (.cons (k:=3) rfl (.cons (k:=2) rfl (.nil))))))))))) jP (fun w hw=>by first|exact hw|exact hw.c) ?_ ?_
      ·exact ⟨(⟨ra,ri⟩,true),rfl,rfl,by omega,rfl,by rw [foldl_take (by omega:k<ps_l.length),hI,hx];unfold VB;rw [if_pos (by exact .inr jE)]⟩
      ·omega
     ·iterate 7 refine Stp ?_
      refine Zi F.foff38_1 ?_;refine Zy F.lay36 ?_;refine Zi F.foff38_1 ?_
      iterate 2 refine Zy F.lay36 ?_
      refine X_fs rfl rfl F.ok101 rfl (Open_ok _ _ _ _) rfl ?_
      rintro _ rfl
      iterate 3 refine Stp ?_
      refine ZW rfl (cT fun hc13=>?_) (cF fun hc13=>?_)
      ·simp only [Zs.eta,ZO.eta,ZJ.eta,ZF.eta,Ym.eta,Yv.eta,Yy.eta,Yq.eta,ZN.eta,YF.eta,ZU.eta] at hc13
       refine Stp ?_;refine Zy F.lay38 ?_;refine Ya F.lay38 ?_
       iterate 5 refine Stp ?_
       refine YO rfl rfl rfl rfl rfl yA rfl ?_
       iterate 2 refine Stp ?_
       refine Xa (a':=[(16,_),(9,_)]) (k+1) ([(b4,rowO [.one (.int .i64 x_addr),Yb x_id] 38)]) (.cons (k:=16) rfl (.cons (k:=9) rfl (.cons (k:=15) rfl (.cons (k:=14) rfl (.cons (k:=8) rfl (.cons (k:=7) rfl (.cons (k:=6) rfl (.cons (k:=4) rfl (.cons (k:=3) rfl (.cons (k:=2) rfl (.nil))))))))))) jP (fun w hw=>by first|exact hw|exact hw.c) ?_ ?_
       ·exact ⟨(⟨x_addr,x_id⟩,true),rfl,rfl,by omega,rfl,by rw [foldl_take (by omega:k<ps_l.length),hI,hx];unfold VB;rw [if_neg yS,if_pos (.inr jE)]⟩
       ·omega
      ·simp only [Zs.eta,ZO.eta,ZJ.eta,ZF.eta,Ym.eta,Yv.eta,Yy.eta,Yq.eta,ZN.eta,YF.eta,ZU.eta] at hc13
       iterate 4 refine Stp ?_
       refine YO rfl rfl rfl rfl rfl yA rfl ?_
       iterate 2 refine Stp ?_
       refine Xa (a':=[(16,_),(9,_)]) (k+1) ([(b4,rowO [.one (.int .i64 ra),Yb ri] 38)]) (.cons (k:=16) rfl (.cons (k:=9) rfl (.cons (k:=15) rfl (.cons (k:=14) rfl (.cons (k:=8) rfl (.cons (k:=7) rfl (.cons (k:=6) rfl (.cons (k:=4) rfl (.cons (k:=3) rfl (.cons (k:=2) rfl (.nil))))))))))) jP (fun w hw=>by first|exact hw|exact hw.c) ?_ ?_
       ·exact ⟨(⟨ra,ri⟩,true),rfl,rfl,by omega,rfl,by rw [foldl_take (by omega:k<ps_l.length),hI,hx];unfold VB;rw [if_neg yS,if_neg (by rintro (g1|g1);cases g1;exact absurd g1 jE)]⟩
       ·omega
   ·iterate 7 refine Stp ?_
    refine Zy F.lay38 ?_;refine Yk ?_;refine Ya F.lay38 ?_
    iterate 4 refine Stp ?_
    refine ZV (.inr rfl) (.cell rfl jB F.lay38 rfl rfl (.tmp rfl .nil)) (fun w hw=>?_)
    obtain rfl:k=ps_l.length:=by omega
    rw [List.take_length,hps] at hI
    refine ⟨_,M2,rfl,hm1,hw.c,?_⟩
    unfold Ww
    rw [show (ZO.tb ⟨⟨Ye,Yn⟩,⟨Yp,YC⟩,⟨Yx,Yw,Yc⟩,⟨Yi,Yh,ZI⟩⟩).self=⟨Ye,Yn⟩ from rfl,hI];rfl
end Go.Proofs.YtglnjnacodgmaaaGreatDoor
namespace Go.Esp
end Go.Esp
namespace Go.Proofs.YtglnjnacodgmaaaGreatDoor
open Go.Esp
end Go.Proofs.YtglnjnacodgmaaaGreatDoor
namespace Go.Esp
section
variable {P:Program} {n:Sh} {Q:Exit→Act→World→Prop} {M:Mem} {H H0:Hp} {e:Env} {x:Exit} {c:Code}
end
end Go.Esp
namespace Go.Esp
def ZJ.nd (n:ZJ):Nd:=⟨n.table.tb,n.copies,n.joined,n.boot,n.cursor,n.req,n.askTo,n.askReq,n.pingTo,n.pingReq,n.findTo,n.findReq,n.findID,n.avoid.l,n.hops,n.turn⟩
def ZF.lt (l:ZF):Lt:=⟨l.kind,l.frm,l.req,l.id,l.avoid.l,l.done,l.peer,l.peers.l⟩
def Ym.snd (s:Ym):Snd:=⟨s.to,s.letter.lt⟩
def sndl (l:List Ym):List Snd:=l.map Ym.snd
theorem addr4 {s:Zs} {a b c d:Int}:(∀ j (h:j<[a,b,c,d].length),Xp s [a,b,c,d][j])↔(Xp s a∧Xp s b∧Xp s c∧Xp s d):=by
  constructor
  · intro h;exact ⟨h 0 (by show 0<4;decide),h 1 (by show 1<4;decide),h 2 (by show 2<4;decide),h 3 (by show 3<4;decide)⟩
  · rintro ⟨h0,h1,h2,h3⟩ j hj
    match j,hj with
    | 0,_=>exact h0
    | 1,_=>exact h1
    | 2,_=>exact h2
    | 3,_=>exact h3
theorem any_odd {l:List Int}:(l.any fun a=>decide (¬(0≤a∧a≤999)))=false↔∀ a∈l,Yo a:=by
  rw [List.any_eq_false]
  constructor
  · intro h a ha
    have:=h a ha
    simp only [decide_eq_true_eq,Classical.not_not] at this
    exact this
  · intro h a ha
    have:=h a ha
    simp only [decide_eq_true_eq,Classical.not_not]
    exact this
theorem any_oddP {l:List Zs}:(l.any fun p=>decide (¬Yo p.addr))=false↔∀ p∈l,Yo p.addr:=by
  rw [List.any_eq_false]
  constructor
  · intro h a ha
    have:=h a ha
    simpa using this
  · intro h a ha
    have:=h a ha
    simpa using this
def orK (a b:Int):Int:=IntKind.i64.wrap (BitVec.ofInt 64 a ||| BitVec.ofInt 64 b).toNat
def notK (a b:Int):Int:=IntKind.i64.wrap (BitVec.ofInt 64 a &&& ~~~BitVec.ofInt 64 b).toNat
def TR (l:List YF):Int:=l.foldl (fun a h=>if h.is then orK a h.part else a) 0
theorem usedH_take {l:List YF} {k:Nat} (hk:k<l.length):TR (l.take (k+1))=if l[k].is then orK (TR (l.take k)) l[k].part else TR (l.take k):=by
  unfold TR
  rw [List.take_add_one,List.getElem?_eq_getElem hk,List.foldl_append]
  rfl
def Sv (a b c d e f:Bool):List YF:=[⟨1,a⟩,⟨2,b⟩,⟨4,c⟩,⟨8,d⟩,⟨16,e⟩,⟨32,f⟩]
def VA (k:Int):Int×Bool :=
  if k=1 then (7,true) else if k=2 then (25,true) else if k=3∨k=6∨k=7 then (1,true) else if k=4 then (49,true) else if k=5 then (0,true) else if k=8 then (48,true) else (0,false)
theorem used_not:∀ (a b c d e f:Bool),(notK (TR (Sv a b c d e f)) 7=0↔d=false∧e=false∧f=false)∧(notK (TR (Sv a b c d e f)) 25=0↔b=false∧c=false∧f=false) ∧
    (notK (TR (Sv a b c d e f)) 1=0↔b=false∧c=false∧d=false∧e=false∧f=false)∧(notK (TR (Sv a b c d e f)) 49=0↔b=false∧c=false∧d=false) ∧
    (notK (TR (Sv a b c d e f)) 0=0↔a=false∧b=false∧c=false∧d=false∧e=false∧f=false)∧(notK (TR (Sv a b c d e f)) 48=0↔a=false∧b=false∧c=false∧d=false):=by
  intro a b c d e f
  cases a <;> cases b <;> cases c <;> cases d <;> cases e <;> cases f <;> decide +kernel
theorem parts_no {k:Int} (h:¬(1≤k∧k≤8)∨(¬k=1∧¬k=2∧¬k=3∧¬k=6∧¬k=7∧¬k=4∧¬k=5∧¬k=8)):VA k=(0,false):=by
  unfold VA
  rw [if_neg jC,if_neg jC,if_neg jC,if_neg jC,if_neg jC,if_neg jC]
theorem parts_yes {k:Int}:(VA k).2=true↔1≤k∧k≤8:=by
  unfold VA
  repeat' split
  all_goals simp only [true_iff,false_iff,Bool.false_eq_true]
  all_goals omega
theorem used_parts {k:Int} (hk:(VA k).2=true) (a b c d e f:Bool):notK (TR (Sv a b c d e f)) (VA k).1=0 ↔
    ((VJ k∨a=false)∧(k=1∨b=false)∧(k=1∨c=false)∧(k=2∨d=false)∧(WY k∨e=false)∧(Wx k∨f=false)):=by
  obtain ⟨h1,h2,h3,h4,h5,h6⟩:=used_not a b c d e f
  have hk9:=parts_yes.1 hk
  have:k=1∨k=2∨k=3∨k=4∨k=5∨k=6∨k=7∨k=8:=by omega
  unfold VJ WY Wx
  rcases this with rfl|rfl|rfl|rfl|rfl|rfl|rfl|rfl
  · rw [show (VA 1).1=7 from rfl,h1];simp
  · rw [show (VA 2).1=25 from rfl,h2];simp
  · rw [show (VA 3).1=1 from rfl,h3];simp
  · rw [show (VA 4).1=49 from rfl,h4];simp
  · rw [show (VA 5).1=0 from rfl,h5];simp
  · rw [show (VA 6).1=1 from rfl,h3];simp
  · rw [show (VA 7).1=1 from rfl,h3];simp
  · rw [show (VA 8).1=48 from rfl,h6];simp
end Go.Esp
namespace Go.Esp
theorem OSl.extend {T sz b c:Nat} {hs:Hp} {rows:List Segs} (h:OSl T sz (.slice (some ⟨b,0,none⟩) rows.length c) hs rows) {m:Nat} (hm:rows.length+m≤c) :
    ∃ ext:List Segs,ext.length=m∧OSl T sz (.slice (some ⟨b,0,none⟩) (rows.length+m) c) hs (rows++ext):=by
  obtain ⟨cur,rfl,_,hl,h2,h3,h4,h5⟩:=h.inv
  have key:∀ (m off:Nat) ,off+m * sz≤cur.size→∃ ext:List Segs,ext.length=m∧Esp.lens sz ext∧ZZ ext=(cur.toList.drop off).take (m * sz):=by
    intro m
    induction m with
    | zero=>intro off _;exact ⟨[],rfl,fun r hr=>(by cases hr),by simp [ZZ]⟩
    | succ m ih =>
      intro off ho
      have e:(m+1) * sz=sz+m * sz:=by rw [Nat.add_mul];omega
      obtain ⟨ext,g1,g2,g3⟩:=ih (off+sz) jC
      refine ⟨ones ((cur.toList.drop off).take sz)::ext,by simp [g1],fun r hr=>?_,?_⟩
      · rcases List.mem_cons.1 hr with rfl|hr
        · rw [← Segs.cells_length,ones_cells,List.length_take,List.length_drop,Array.length_toList];omega
        · exact g2 r hr
      · simp only [ZZ,ones_cells,g3,e]
        rw [List.take_add,List.drop_drop]
  obtain ⟨ext,g1,g2,g3⟩:=key m (rows.length * sz) (by rw [h4,← Nat.add_mul];exact Nat.mul_le_mul_right _ hm)
  refine ⟨ext,g1,?_⟩
  have hlen:(rows++ext).length=rows.length+m:=by simp [g1]
  rw [← hlen]
  refine OSl.own b c (rows++ext) cur (hl.append g2) jC h3 h4 ?_
  rw [hlen,Nat.add_mul,List.take_add,h5,← g3,XX]
theorem OSl.as9 {T sz:Nat} {v:Value} {hs:Hp} {rows rows':List Segs} (h:OSl T sz v hs rows) (e:rows=rows'):OSl T sz v hs rows':=e ▸ h
section
variable {P:Program} {n:Sh} {ops:Array Oper} {Q:Exit→Act→World→Prop} {rest:List Nat} {M M':Mem} {H H' H0:Hp} {e:Env} {J S:World→Prop} {A:As} {i:Nat}
  {dst:Option Tmp} {d:Tmp} {op:Op} {ty:TypeId} {pos:String} {af:Array Edge} {gd:Option (Nat×Bool)}
theorem X_copyP {t t' E sz by_:Nat} {x y:Operand} {b k l' c' l2 c2 c l off:Nat} {ad:Addr} {hs:Hp} {rows news:List Segs} {ats:Array TypeId} (hi:ops[i]?=some ⟨some d,.call ⟨.builtin .copy,#[x,y],ats⟩,ty,pos,af,gd⟩) (hg:want ops e gd=some true)
    (hx:ev e x=some (.slice (some ⟨b,off,Option.none⟩) l' c')) (hy:ev e y=some (.slice (some ad) l2 c2)) (hat:ats=#[t,t']) (ht:slOf P t=some (E,sz,by_)) (hoff:off=k * sz) (hkl:k+l'≤rows.length) (ho:OSl E sz (.slice (some ⟨b,0,Option.none⟩) l c) hs rows) (hH:Rem hs H H0)
    (hsrc:Src M H sz (.slice (some ad) news.length c2) news) (hm:news.length=min l2 l') (hd:Nat.ble (d+1) n.sz=true)
    (hk:∀ hs',OSl E sz (.slice (some ⟨b,0,Option.none⟩) rows.length c) hs' (rows.take k++news++rows.drop (k+news.length))→XD P n ops Q rest (St M (hs'++H0)) ⟨M,hs'++H0⟩ ((d,.int .i64 (news.length:Int))::e)) (hnw:n.wrs.contains i=false:=by rfl):XD P n ops Q (i::rest) J ⟨M,H⟩ e:=by
  subst hat hoff
  refine Tz hi rfl hg (fun a w ha hw=>?_) hnw
  obtain ⟨it,hu,hit,rfl,rfl⟩:=WA ht
  obtain ⟨hln,h1,ad',c2',e9,hsr⟩:=hsrc
  obtain ⟨rfl,_,rfl⟩:ad=ad'∧True∧c2=c2':=by simpa using e9
  obtain ⟨cur,rfl,rfl,hlr,hcap,hcm,hcs,htake⟩:=ho.inv
  have hst:=hw.perm hH.perm
  have hb:=hst.own b _ (List.mem_append_left _ (.head _))
  have hcl:(ZZ news).length=news.length * it.size:=Xg hln
  have hle:k * it.size+news.length * it.size≤rows.length * it.size:=by rw [← Nat.add_mul];exact Nat.mul_le_mul_right _ jC
  have hrc:rows.length * it.size≤c * it.size:=Nat.mul_le_mul_right _ hcap
  have hload:=run_loadCells_list (P:=P) w ad (ZZ news) (fun j v hj=>hsr w hw j v hj)
  have hstore:=run_storeCells_at P b (k * it.size) E (ZZ news) 0 cur w hb jC h1
  have ho':=rowSplice (T:=E) (b:=b) (k:=k) (news:=news) hlr hln hcap hcm hcs htake jC
  rw [hcl] at hload
  have hr:(Builtin.copy_ #[t,t'] ty #[.slice (some ⟨b,k * it.size,Option.none⟩) l' c',.slice (some ad) l2 c2]).run P w=.ok (goInt news.length) (w.setRow b (cur.toList.take (k * it.size)++ZZ news++cur.toList.drop (k * it.size+(ZZ news).length)).toArray):=by
    have e9:Nat.min l2 l'=news.length:=hm.symm
    simp [Builtin.copy_,run_underlying hu,Builtin.lenOf,Builtin.firstCells,sizeOf,typeInfo,hit,e9,hload]
    have h5:=hstore
    simp only [Nat.add_zero,List.append_assoc] at h5
    rw [h5];rfl
  unfold Oper.does
  have:(execOp a.eval ⟨some d,.call ⟨.builtin .copy,#[x,y],#[t,t']⟩,ty,pos,af,gd⟩).run P w=.ok (.value (.int .i64 (news.length:Int))) (w.setRow b (cur.toList.take (k * it.size)++ZZ news++cur.toList.drop (k * it.size+(ZZ news).length)).toArray):=by
    simp only [execOp,resolve]
    simp only [invoke,builtin]
    have e1:#[x,y].map a.eval=#[.slice (some ⟨b,k * it.size,Option.none⟩) l' c',.slice (some ad) l2 c2]:=by simp [ha.ev hx,ha.ev hy]
    rw [e1]
    rw [Sem.run_bind]
    show (Result.ok _ w).andThen _=_
    rw [Result.andThen_ok]
    exact Wp hr
  rw [this]
  refine ⟨⟨M,_⟩,_,?_,ha.put hd _,hk _ ho'⟩
  exact hst.upd .head (setRow_heap w b cur _ E _ hb) (fun c hc x hx=>by rw [setRow_other w b c _ hc];exact hx) (VM.refl _)
theorem X_appendZO {t tn E sz by_ j k c:Nat} {z:Value} {kn:IntKind} {x y:Operand} {b l:Nat} {hs:Hp} {rows:List Segs} (hi:ops[i]?=some ⟨some d,.call ⟨.builtin .append,#[x,y],#[t,tn]⟩,ty,pos,af,gd⟩) (hg:want ops e gd=some true)
    (hx:ev e x=some (.slice (some ⟨b,0,Option.none⟩) j c)) (hy:ev e y=some (.int .i64 (k:Int))) (ht:slOf P t=some (E,sz,by_)) (htn:P.underlying tn=some (.int kn)) (hz:XW P E=some z) (hzs:z.cells.size=sz) (hsz:Nat.ble 1 sz=true)
    (ho:OSl E sz (.slice (some ⟨b,0,Option.none⟩) l c) hs rows) (hH:Rem hs H H0) (hj:j≤rows.length) (h0:0<k) (hgr:c<j+k) (hk9:j+k≤16777216) (hkb:(j+k) * by_≤140737488355328) (hd:Nat.ble (d+1) n.sz=true)
    (hk:∀ (b' c':Nat) hs' (zs:List Segs),zs.length=k→OSl E sz (.slice (some ⟨b',0,Option.none⟩) (j+k) c') hs' (rows.take j++zs)→XD P n ops Q rest (St M (hs'++H)) ⟨M,hs'++H⟩ ((d,.slice (some ⟨b',0,Option.none⟩) (j+k) c')::e)) (hnw:n.wrs.contains i=false:=by rfl):XD P n ops Q (i::rest) J ⟨M,H⟩ e:=by
  refine Tz hi rfl hg (fun a w ha hw=>?_) hnw
  obtain ⟨it,hu,hit,rfl,rfl⟩:=WA ht
  have hz':it.zero=some z:=by simpa [XW,hit] using hz
  have hpos:1≤it.size:=Nat.le_of_ble_eq_true hsz
  obtain ⟨cur,rfl,_,hl,h2,h3,h4,h5⟩:=ho.inv
  have hst:=hw.perm hH.perm
  have hb:=hst.own b _ (List.mem_append_left _ (.head _))
  have hlt:Esp.lens it.size (rows.take j):=fun r hr=>hl r (List.mem_of_mem_take hr)
  have hjl:(rows.take j).length=j:=by simp;omega
  have hcell:=rowsCells_take hl hj
  have hole:(ZZ (rows.take j)).length=j * it.size:=by rw [Xg hlt,hjl]
  have hold:=run_loadCells_list (P:=P) (w:=w.drew) ⟨b,0,Option.none⟩ (ZZ (rows.take j)) (cellsAt (w:=w.drew) (b:=b) (off:=0) (n:=j * it.size) hb (by
    rw [List.drop_zero,hcell,← h5,List.take_take]
    congr 1
    have h6:j * it.size≤rows.length * it.size:=Nat.mul_le_mul_right _ hj
    omega))
  rw [hole] at hold
  have hr:=Lib.run_append_grow_zeros (P:=P) w t tn ty E it z .i64 kn hu htn hit hz' (some ⟨b,0,Option.none⟩) j c (ZZ (rows.take j)) hold k h0 hpos hgr jC (by
    have:k * it.bytes≤(j+k) * it.bytes:=Nat.mul_le_mul_right _ jC
    omega) (growslice_fits hgr hkb)
  have hzsz:z.cells.size=it.size:=hzs
  have hge:=grownCap_ge w (j+k) c E
  have hcm:grownCap w (j+k) c E≤maxLen:=grownCap_le_maxLen w (j+k) c E zZ
  obtain ⟨zs,hzl,hlz,hrz⟩:∃ zs:List Segs,zs.length=k∧Esp.lens it.size zs∧ZZ zs=(Builtin.zeroCells z.cells k).toList:=by
    refine ⟨UX (fun i=>z.cells[i % z.cells.size]!) it.size k,by simp [UX],fun r hr=>?_,?_⟩
    · obtain ⟨q,_,rfl⟩:=List.mem_map.1 hr
      exact onesOf_len _ q it.size
    · rw [onesAll_cells];simp [Builtin.zeroCells,hzsz]
  have hlen:(rows.take j++zs).length=j+k:=by simp [hzl];omega
  have h0':St M H w.drew:=hw.heap rfl ⟨rfl,rfl,rfl,Nat.le_succ _⟩
  have h2':=h0'.alloc (.cells ((ZZ (rows.take j)).toArray++Builtin.zeroCells z.cells k++Builtin.zeroCells z.cells (grownCap w (j+k) c E-(j+k))) E)
  have ho':OSl E it.size (.slice (some ⟨w.heap.size,0,none⟩) (j+k) (grownCap w (j+k) c E)) [(w.heap.size,.cells ((ZZ (rows.take j)).toArray++Builtin.zeroCells z.cells k++Builtin.zeroCells z.cells (grownCap w (j+k) c E-(j+k))) E (0,0))] (rows.take j++zs):=by
    rw [← hlen] at hge hcm ⊢
    refine OSl.own _ _ _ _ (hlt.append hlz) hge hcm ?_ ?_
    · simp only [Array.size_append,List.size_toArray,size_zeroCells,hzsz,hole]
      rw [hlen] at hge ⊢
      rw [← Nat.add_mul,← Nat.add_mul];congr 1;omega
    · simp only [Array.toList_append]
      rw [← Xg (hlt.append hlz),XX,hrz]
      exact List.take_left
  unfold Oper.does
  have:(execOp a.eval ⟨some d,.call ⟨.builtin .append,#[x,y],#[t,tn]⟩,ty,pos,af,gd⟩).run P w=.ok (.value (.slice (some ⟨w.heap.size,0,none⟩) (j+k) (grownCap w (j+k) c E))) (w.drew.alloc (.cells ((ZZ (rows.take j)).toArray++Builtin.zeroCells z.cells k++Builtin.zeroCells z.cells (grownCap w (j+k) c E-(j+k))) E)):=by
    simp only [execOp,resolve]
    simp only [invoke,builtin]
    have e1:#[x,y].map a.eval=#[.slice (some ⟨b,0,Option.none⟩) j c,.int .i64 (k:Int)]:=by simp [ha.ev hx,ha.ev hy]
    rw [e1]
    rw [Sem.run_bind]
    show (Result.ok _ w).andThen _=_
    rw [Result.andThen_ok]
    exact Wp hr
  rw [this]
  exact ⟨⟨M,_⟩,_,h2',ha.put hd _,hk _ _ _ zs hzl ho'⟩
theorem run_apart {tS tR E sz by_ b b' l c k lb cb la ca:Nat} {hs:Hp} {rows:List Segs} {cur:Array Value} {T:TypeId} {w:World} (ht:slOf P tS=some (E,sz,by_)) (ho:OSl E sz (.slice (some ⟨b,0,Option.none⟩) l c) hs rows) (hH:Rem hs H H0) (hv:(b',.cells cur T (0,0))∈H0) (hpos:0<c * sz) (hw:St M H w) :
    (Extern.SlicesOverlaps.overlaps #[tS,tS] #[tR] #[.slice (some ⟨b',0,Option.none⟩) la ca,.slice (some ⟨b,k,Option.none⟩) lb cb]).run P w=.ok (.bool false) w:=by
  obtain ⟨it,hu,hit,rfl,rfl⟩:=WA ht
  obtain ⟨cu,rfl,_,hl,h2,h3,h4,h5⟩:=ho.inv
  have hst:=hw.perm hH.perm
  have hb:=hst.own b _ (List.mem_append_left _ (.head _))
  have hb':=hst.own b' _ (List.mem_append_right _ hv)
  have hne:b'≠b:=fun e=>by
    subst e
    have h:=hst.nodup
    rw [List.map_append,List.nodup_append] at h
    exact h.2.2 b' jU b' (List.mem_map_of_mem hv) rfl
  refine Lib.run_overlaps_apart w tS tR E hu it.size (fun w=>run_sizeOf' hit) ⟨b',0,Option.none⟩ ⟨b,k,Option.none⟩ la ca lb cb hne T E cur.size cu.size ?_ ?_ jC ?_ ?_
  · simp [World.shape?,hb']
  · simp [World.shape?,hb]
  · simp [World.frozen?,hb']
  · simp [World.frozen?,hb']
end
theorem Fs.foE {P:Program} {f:FuncId} {vs:List Value} {M:Mem} {R:Value→Prop} (h:Fs P f vs M R) (Hin:Hp):Fo P f vs M Hin (fun M' v=>M'=M∧R v):=fun H w hw =>
  (h (Hin++H) w hw).mono fun _ _ ⟨v,he,hs,hr⟩=>⟨v,M,he,Mem.le.refl M,hs,rfl,hr⟩
end Go.Esp
namespace Go.Esp
section
variable {P:Program} {n:Sh} {ops:Array Oper} {Q:Exit→Act→World→Prop} {rest:List Nat} {M M':Mem} {H H' H0:Hp} {e:Env} {J S:World→Prop} {A:As} {i:Nat}
  {dst:Option Tmp} {d:Tmp} {op:Op} {ty:TypeId} {pos:String} {af:Array Edge} {gd:Option (Nat×Bool)}
theorem C_is {c:Code} {Qx:Exit→Act→World→Prop} {Sx:World→Prop} (s:Nat) {u v:Value} (hs:get e s=some u) (h:u=v) (hk:C P n c Qx Sx ((s,v)::e)):C P n c Qx Sx e:=fun a w ha hw=>hk a w (ha.more (h ▸ hs)) hw
theorem C_part {c:Code} {Qx:Exit→Act→World→Prop} {Sx:World→Prop} (s:Nat) {b:Bool} (hs:get e s=some (.bool b)) (ht:b=true→C P n c Qx Sx ((s,.bool true)::e)) (hf:b=false→C P n c Qx Sx ((s,.bool false)::e)):C P n c Qx Sx e:=by
  cases b with
  | true=>exact C_is s hs rfl (ht rfl)
  | false=>exact C_is s hs rfl (hf rfl)
end
end Go.Esp
namespace Go.Esp
section
variable {P:Program} {ops:Array Oper} {Q:Exit→Act→World→Prop} {M M':Mem} {H H' H0:Hp} {e:Env}
theorem X_fhVW {n:Sh} {rest:List Nat} {J:World→Prop} {i:Nat} {dst:Option Tmp} {ty:TypeId} {pos:String} {af:Array Edge} {gd:Option (Nat×Bool)} {f:FuncId} {g:Operand} {xs:List Operand} {ats:Array TypeId} {vs caps:List Value} {Hin Hr:Hp} {R:Mem→Value→Hp→Prop} (hi:ops[i]?=some ⟨dst,.call ⟨.value g,xs.toArray,ats⟩,ty,pos,af,gd⟩) (hcl:clOf P (.call ⟨.value g,xs.toArray,ats⟩)=.eff) (hws:n.wrs.contains i=true) (hg:want ops e gd=some true)
    (hf:okFn P f=true) (hgv:ev e g=some (.func (.func f) #[] caps.toArray)) (hx:evs e xs=some vs) (hc:Fh P f (vs++caps) M Hin R) (hH:Rem Hin H Hr)
    (hd:∀ a v,Sat n e a→Sat n (putE dst v e) (a.put dst v))
    (hk:∀ v M' Hout,M.le M'→R M' v Hout→XD P n ops Q rest (St M' (Hout++Hr)) ⟨M',Hout++Hr⟩ (putE dst v e)):XD P n ops Q (i::rest) J ⟨M,H⟩ e:=by
  obtain ⟨fn,h1,h2,h3⟩:=VG hf
  refine X_mutW hi hcl hws hg (fun a w ha hw=>does_callV h1 h2 h3 (ha.ev hgv) zD ?_)
  exact (hc Hr w (hw.perm hH.perm)).mono fun e' w' ⟨v,M',Hout,he,hm,hs,hr⟩=>⟨v,he,⟨M',Hout++Hr⟩,_,hs,hd a v ha,hk v M' Hout hm hr⟩
end
end Go.Esp
namespace Go.Esp
section
variable {P:Program} {ops:Array Oper} {cl:Nat→Cls} {Q:Exit→Act→World→Prop} {md:Region.Mode}
end
end Go.Esp
namespace Go.Esp
section
variable {P:Program} {ops:Array Oper} {Q:Exit→Act→World→Prop} {M M':Mem} {H H' H0:Hp} {e:Env}
theorem X_fhW2 {n:Sh} {rest:List Nat} {J:World→Prop} {i:Nat} {dst:Option Tmp} {ty:TypeId} {pos:String} {af:Array Edge} {gd:Option (Nat×Bool)} {f:FuncId} {xs:List Operand} {ats:Array TypeId} {vs:List Value} {Hin Hin2 H1 Hr:Hp} {R:Mem→Value→Hp→Prop} (hi:ops[i]?=some ⟨dst,.call ⟨.value (.func f),xs.toArray,ats⟩,ty,pos,af,gd⟩) (hws:n.wrs.contains i=true) (hg:want ops e gd=some true)
    (hf:okFn P f=true) (hx:evs e xs=some vs) (hc:Fh P f vs M (Hin++Hin2) R) (hH:Rem Hin H H1) (hH2:Rem Hin2 H1 Hr)
    (hd:∀ a v,Sat n e a→Sat n (putE dst v e) (a.put dst v))
    (hk:∀ v M' Hout,M.le M'→R M' v Hout→XD P n ops Q rest (St M' (Hout++Hr)) ⟨M',Hout++Hr⟩ (putE dst v e)):XD P n ops Q (i::rest) J ⟨M,H⟩ e:=by
  obtain ⟨fn,h1,h2,h3⟩:=VG hf
  have hP:H.Perm ((Hin++Hin2)++Hr):=(hH.perm.trans (hH2.perm.append_left Hin)).trans (List.append_assoc _ _ _ ▸ List.Perm.refl _)
  refine X_mutW hi rfl hws hg (fun a w ha hw=>does_call h1 h2 h3 zD ?_)
  exact (hc Hr w (hw.perm hP)).mono fun e' w' ⟨v,M',Hout,he,hm,hs,hr⟩=>⟨v,he,⟨M',Hout++Hr⟩,_,hs,hd a v ha,hk v M' Hout hm hr⟩
theorem X_fhWC {n:Sh} {rest:List Nat} {J:World→Prop} {i:Nat} {dst:Option Tmp} {ty:TypeId} {pos:String} {af:Array Edge} {gd:Option (Nat×Bool)} {f:FuncId} {xs:List Operand} {ats:Array TypeId} {vs:List Value} {Hin:Hp} (Hr:Hp) {R:Mem→Value→Hp→Prop} (hi:ops[i]?=some ⟨dst,.call ⟨.value (.func f),xs.toArray,ats⟩,ty,pos,af,gd⟩) (hws:n.wrs.contains i=true) (hg:want ops e gd=some true)
    (hf:okFn P f=true) (hx:evs e xs=some vs) (hc:Fh P f vs M Hin R) (hH:∀ x,cnt x (Hin++Hr)≤cnt x H)
    (hd:∀ a v,Sat n e a→Sat n (putE dst v e) (a.put dst v))
    (hk:∀ v M' Hout,M.le M'→R M' v Hout→XD P n ops Q rest (St M' (Hout++Hr)) ⟨M',Hout++Hr⟩ (putE dst v e)):XD P n ops Q (i::rest) J ⟨M,H⟩ e:=by
  obtain ⟨fn,h1,h2,h3⟩:=VG hf
  refine X_mutW hi rfl hws hg (fun a w ha hw=>does_call h1 h2 h3 zD ?_)
  exact (hc Hr w (St.cnt hw hH)).mono fun e' w' ⟨v,M',Hout,he,hm,hs,hr⟩=>⟨v,he,⟨M',Hout++Hr⟩,_,hs,hd a v ha,hk v M' Hout hm hr⟩
end
end Go.Esp
namespace Go.Esp
section
variable {P:Program} {n:Sh} {ops:Array Oper} {Q:Exit→Act→World→Prop} {rest:List Nat} {M M':Mem} {H H' H0:Hp} {e:Env} {J:World→Prop} {i:Nat} {ty:TypeId} {pos:String} {af:Array Edge} {gd:Option (Nat×Bool)}
theorem drop_all:∀ (r:Segs),r.all (fun s=>Nat.ble 1 s.len)=true→Segs.drop r (Segs.len r)=some []
  | [],_=>rfl
  | s::r,h=>by
    simp only [List.all_cons,Bool.and_eq_true] at h
    have h1:=Nat.le_of_ble_eq_true h.1
    obtain ⟨k,hk⟩:∃ k,s.len=k+1:=⟨s.len-1,by omega⟩
    have h2:=drop_all r h.2
    have e:Segs.len (s::r)=k+Segs.len r+1:=by simp only [Segs.len];omega
    have hb:Nat.ble s.len (k+Segs.len r+1)=true:=Nat.ble_eq_true_of_le jC
    rw [e];unfold Segs.drop
    rw [hb,hk]
    show Segs.drop r (k+Segs.len r+1-(k+1))=some []
    rw [show k+Segs.len r+1-(k+1)=Segs.len r by omega];exact h2
theorem Tm {r t:Segs} {m:Nat} (h:r.all (fun s=>Nat.ble 1 s.len)=true) (hr:Segs.len r=m) (ht:Segs.len t=m):Segs.put r 0 t=some t:=by
  have e:Segs.put r 0 t=match Segs.drop r (Segs.len t) with
    | some u=>some (t++u)
    | none=>none:=by cases r <;> rfl
  rw [e,ht,← hr,drop_all r h];simp
theorem imO_nil:imO (.map #[] 0) []:=⟨#[],0,rfl,rfl⟩
theorem VH {t k el:TypeId} {x y u:Operand} {b:Nat} {z:Int} {v:Value} {o:Obj} {l:IM} (hi:ops[i]?=some ⟨none,.insert t x y u,ty,pos,af,gd⟩) (hg:want ops e gd=some true)
    (hx:ev e x=some (.map (some b))) (hy:ev e y=some (.int .i64 z)) (hu:ev e u=some v) (ht:Su P t=some (k,el)) (ho:imO o l) (hb:(b,o)∈H)
    (hk:∀ o',imO o' (Uj l z v)→∃ H2,Upd b o o' H H2∧XD P n ops Q rest (St M H2) ⟨M,H2⟩ e) (hnw:n.wrs.contains i=false:=by rfl):XD P n ops Q (i::rest) J ⟨M,H⟩ e:=by
  refine Tz hi rfl hg (fun a w ha hw=>?_) hnw
  have hb:=hw.own b o hb
  obtain ⟨o',hr,ho'⟩:=run_mapUpdate' (P:=P) (z:=z) (v:=v) ht hb ho
  unfold Oper.does
  have:(execOp a.eval ⟨none,.insert t x y u,ty,pos,af,gd⟩).run P w=.ok .skip { w with heap:=w.heap.setIfInBounds b o' }:=by
    simp only [execOp,ha.ev hx,ha.ev hy,ha.ev hu]
    rw [Yf hr];rfl
  rw [this]
  obtain ⟨H2,hH,hk⟩:=hk o' ho'
  exact ⟨⟨M,H2⟩,e,St.upd hw hH (setIn_self hb) (fun c hc q hq=>by rw [setIn_other hc];exact hq) (VM.refl _),ha,hk⟩
end
end Go.Esp
namespace Go.Esp
section
variable {P:Program} {n:Sh} {ops:Array Oper} {Q:Exit→Act→World→Prop} {rest:List Nat} {M M':Mem} {H H' H0:Hp} {e:Env} {J S:World→Prop} {A:As} {i:Nat}
  {dst:Option Tmp} {d:Tmp} {op:Op} {ty:TypeId} {pos:String} {af:Array Edge} {gd:Option (Nat×Bool)}
theorem Wf {t:TypeId} {x y:Operand} {b:Nat} {agg:Bool} {r q:Segs} {T:TypeId} {v:Value} (hl:lay P t=some (agg,78)) (hk:XD P n ops Q rest (St M H') ⟨M,H'⟩ e) (hi:ops[i]?=some ⟨none,.store t x y,ty,pos,af,gd⟩:=by exact rfl) (hg:want ops e gd=some true:=by exact rfl) (hx:ev e x=some (.pointer (some ⟨b,0,none⟩)):=by exact rfl) (hy:ev e y=some v:=by exact rfl) (hp:Uu v q:=by constructor) (hq:flat q:=by (try simp only [cat,List.cons_append,List.nil_append,List.append_nil]);(repeat (first|exact Xx|refine Wb ?_|(refine Xw ?_ ?_;rfl)));done) (hu:Upd b (rowO r T) (rowO q T) H H':=by repeat first|exact Upd.head|apply Upd.tail|apply Upd.over) (hn:Segs.len q=78:=by simp only [Zs.segs,ZO.segs,ZJ.segs,ZF.segs,Ym.segs,ZN.segs,YF.segs,cat,List.append_eq,List.cons_append,List.nil_append,List.append_nil,Segs.len,Seg.len,Yb]) (ha:r.all (fun s=>Nat.ble 1 s.len)=true:=by exact rfl) (hr:Segs.len r=78:=by simp only [Zs.segs,ZO.segs,ZJ.segs,ZF.segs,Ym.segs,ZN.segs,YF.segs,cat,List.append_eq,List.cons_append,List.nil_append,List.append_nil,Segs.len,Seg.len,Yb]) (hnw:n.wrs.contains i=false:=by rfl):XD P n ops Q (i::rest) J ⟨M,H⟩ e :=
  Ul hi hg hx hy hp hq hu hl hn (Tm ha hr hn) hk hnw
end
end Go.Esp
namespace Go.Proofs.YtglnjnacodgmaaaGreatDoor
open Go.Esp
theorem F.foff44_0:foff Tryz.prog 44 0=some 0:=by kernel_rfl
theorem F.foff44_1:foff Tryz.prog 44 1=some 44:=by kernel_rfl
theorem F.foff44_10:foff Tryz.prog 44 10=some 53:=by kernel_rfl
theorem F.foff44_13:foff Tryz.prog 44 13=some 75:=by kernel_rfl
theorem F.foff44_14:foff Tryz.prog 44 14=some 76:=by kernel_rfl
theorem F.foff44_15:foff Tryz.prog 44 15=some 77:=by kernel_rfl
theorem F.foff44_2:foff Tryz.prog 44 2=some 45:=by kernel_rfl
theorem F.foff44_3:foff Tryz.prog 44 3=some 46:=by kernel_rfl
theorem F.foff44_4:foff Tryz.prog 44 4=some 47:=by kernel_rfl
theorem F.foff44_6:foff Tryz.prog 44 6=some 49:=by kernel_rfl
theorem F.foff44_8:foff Tryz.prog 44 8=some 51:=by kernel_rfl
theorem F.lay32:lay Tryz.prog 32=some (false,1):=by kernel_rfl
theorem F.lay4:lay Tryz.prog 4=some (false,1):=by kernel_rfl
theorem F.lay89:lay Tryz.prog 89=some (false,1):=by kernel_rfl
theorem F.ok40:okFn Tryz.prog 40=true:=by kernel_rfl
theorem F.ok42:okFn Tryz.prog 42=true:=by kernel_rfl
theorem F.ok43:okFn Tryz.prog 43=true:=by kernel_rfl
theorem F.ok82:okFn Tryz.prog 82=true:=by kernel_rfl
theorem F.zero89:XW Tryz.prog 89=some (.nilFunc):=by kernel_rfl
theorem btw_ok (M:Mem) (x:Int) (lo:Int) (hi:Int):Fs Tryz.prog 40 [.int .i64 x,.int .i64 lo,.int .i64 hi] M (fun v=>v=Value.bool (decide (lo≤x∧x≤hi))):=by
  refine Xe Tryz.func40 rfl Tryz.ntmps40 rfl ?_;intro H
  iterate 11 refine Stp ?_
  refine Yt 10 rfl (cT fun hc1=>?_) (cF fun hc1=>?_)
  ·iterate 8 refine Stp ?_
   refine ZV (.inr rfl) (.tmp rfl .nil) (fun w hw=>?_)
   refine ⟨_,rfl,(hw.c),?_⟩
   clear hw
   refine congrArg Value.bool ?_
   exact decide_eq_decide.2 ⟨fun h9=>⟨by omega,h9⟩,fun h9=>h9.2⟩
  ·iterate 8 refine Stp ?_
   refine ZV (.inr rfl) (.tmp rfl .nil) (fun w hw=>?_)
   refine ⟨_,rfl,(hw.c),?_⟩
   clear hw
   refine congrArg Value.bool ?_
   exact (decide_eq_false (fun h9=>by omega)).symm
theorem IndexFI_rd (M:Mem) (Hin:Hp) (l:Sl Int) (g:FuncId) (caps:List Value) (p:Int→Bool) (hl:RdS M Hin l.a (l.l.map (oneI .i64)) 1) (bl:l.l.length≤9223372036854775807) (hok:okFn Tryz.prog g=true) (hc:∀ x∈l.l,Fo Tryz.prog g ([.int .i64 x]++caps) M Hin (fun M' v=>M'=M∧v=.bool (p x))):Fo Tryz.prog 82 [l.val,.func (.func g) #[] caps.toArray] M Hin (fun M' v=>M'=M∧v=.int .i64 (idxF p l.l)):=by
  have nl:(l.l.map (oneI .i64)).length=l.l.length:=List.length_map ..
  refine Vu Tryz.func82 rfl Tryz.ntmps82 rfl ?_;intro H
  have hrd:=hl.app H
  iterate 9 refine Stp ?_
  refine YA F.elem32 ?_
  iterate 4 refine Stp ?_
  refine Y_pk [8,7,4,0,1] ?_;refine VI (.succ .zero) (fun (k:Nat) z=>z=[(8,.int .i64 (k:Int))]∧k≤l.l.length∧(∀ j (h:j<k) (h2:j<l.l.length),p l.l[j]=false)) (fun k=>l.l.length-k) (0) (⟨rfl,by omega,by (intro j hj;omega)⟩) ?_
  rintro k _ ⟨rfl,hk,hI⟩
  iterate 6 refine Stp ?_
  refine ZW rfl (fun hc1=>?_) (fun hc1=>?_)
  ·skip
   replace hc1:=dT hc1
   iterate 15 refine Stp ?_
   refine Ys rfl rfl rfl rfl F.elem32 jR jC yT rfl ?_;refine X_load_rd rfl rfl rfl jE yC F.lay3 rfl rfl rfl ?_;refine X_foV rfl rfl rfl hok rfl rfl (hc _ (List.getElem_mem (n:=k) jC)) (Rem.here _) (ZT rfl) ?_
   rintro _ M1 _ ⟨hM1,rfl⟩;subst M1
   iterate 2 refine Stp ?_
   refine ZW rfl (fun hc2=>?_) (fun hc2=>?_)
   ·skip
    have hP:=hc2
    iterate 12 refine Stp ?_
    refine ZV (.inr rfl) (.tmp rfl .nil) (fun w hw=>?_)
    refine ⟨_,M,rfl,Mem.le.refl M,hw.c,rfl,?_⟩
    refine congrArg (Value.int .i64) ?_
    exact (idxF_at jC (fun j hj=>hI j hj _) hP).symm
   ·skip
    have hP:=hc2
    iterate 4 refine Stp ?_
    refine YO rfl rfl rfl rfl rfl yA rfl ?_
    iterate 2 refine Stp ?_
    refine Vq (a':=[(8,_)]) (k+1) (.cons (k:=8) rfl (.cons (k:=7) rfl (.cons (k:=4) rfl (.cons (k:=0) rfl (.cons (k:=1) rfl (.nil)))))) (fun w hw=>by first|exact hw|exact hw.c) ?_ ?_
    ·refine ⟨rfl,by omega,?_⟩
     (intro j hj hj2;rcases Nat.lt_or_ge j k with h9|h9;exact hI j h9 hj2;obtain rfl:j=k:=jC;simp_all)
    ·omega
  ·skip
   replace hc1:=dF hc1
   iterate 11 refine Stp ?_
   refine ZV (.inr rfl) (.tmp rfl .nil) (fun w hw=>?_)
   refine ⟨_,M,rfl,Mem.le.refl M,hw.c,rfl,?_⟩
   refine congrArg (Value.int .i64) ?_
   exact (idxF_none (fun j hj=>hI j jC hj)).symm
theorem ContainsFI_rd (M:Mem) (Hin:Hp) (l:Sl Int) (g:FuncId) (caps:List Value) (p:Int→Bool) (hl:RdS M Hin l.a (l.l.map (oneI .i64)) 1) (bl:l.l.length≤9223372036854775807) (hok:okFn Tryz.prog g=true) (hc:∀ x∈l.l,Fo Tryz.prog g ([.int .i64 x]++caps) M Hin (fun M' v=>M'=M∧v=.bool (p x))):Fo Tryz.prog 42 [l.val,.func (.func g) #[] caps.toArray] M Hin (fun M' v=>M'=M∧v=.bool (l.l.any p)):=by
  refine Vu Tryz.func42 rfl Tryz.ntmps42 rfl ?_;intro H
  iterate 9 refine Stp ?_
  refine X_fo rfl rfl F.ok82 rfl (IndexFI_rd _ Hin ⟨_,_,_⟩ g caps p hl bl hok hc) jA (ZT rfl) ?_
  rintro _ M1 _ ⟨hM1,rfl⟩;subst M1
  iterate 5 refine Stp ?_
  refine ZV (.inr rfl) (.tmp rfl .nil) (fun w hw=>?_)
  exact ⟨_,M,rfl,Mem.le.refl M,hw.c,rfl,congrArg Value.bool idxF_nn⟩
theorem avo_ok (M:Mem) (b:Nat) (a:Int):Fo Tryz.prog 43 ([.int .i64 a]++[.pointer (some ⟨b,0,none⟩)]) M [(b,rowO [.one (.func (.func 40) #[] #[])] 89)] (fun M' v=>M'=M∧v=.bool (decide (¬(0≤a∧a≤999)))):=by
  refine Vu Tryz.func43 rfl Tryz.ntmps43 rfl ?_;intro H
  iterate 7 refine Stp ?_
  refine Zy F.lay89 ?_;refine Yk ?_;refine Sy rfl rfl rfl F.ok40 rfl rfl (btw_ok M _ _ _) rfl ?_
  rintro _ rfl
  iterate 5 refine Stp ?_
  refine ZV (.inr rfl) (.tmp rfl .nil) (fun w hw=>?_)
  refine ⟨_,M,rfl,Mem.le.refl M,hw.c,rfl,?_⟩
  clear hw
  refine congrArg Value.bool ?_
  (by_cases h9:0≤a∧a≤999 <;> simp [h9])
theorem IsN_ok (M:Mem) (n:ZJ) (hn0:ZJ.ok M n):Fs Tryz.prog 18 [n.enc] M (fun v=>v=Value.bool (decide (IsNd n.nd))):=by
  obtain ⟨⟨⟨Za,Zd⟩,⟨Zc,Zg⟩,⟨Zk,Zj,Zh⟩,⟨Zf,Ze,Zb⟩⟩,Zr,Zq,ZD,Zx,ZM,Zz,Zv,Zt,Zn,Zw,Zm,Zu,⟨Zp,Zo,Zl⟩,ZC,ZE⟩:=n
  have Yj:ZO.ok M ⟨⟨Za,Zd⟩,⟨Zc,Zg⟩,⟨Zk,Zj,Zh⟩,⟨Zf,Ze,Zb⟩⟩:=hn0.h0
  have Xr:SlK M Zs.segs 21 ⟨Zk,Zj,Zh⟩:=hn0.h0.h0
  have s_n_table_succ:SlM M Zk (Zh.map Zs.segs) 21:=Xr.h1
  have n_n_table_succ:(Zh.map Zs.segs).length=Zh.length:=List.length_map ..
  have m_n_table_succ:Zh.length≤9223372036854775807:=Xr.h2
  have c_n_table_succ:Zh.length≤Zj:=Xr.h3
  have YZ:SlK M Zs.segs 21 ⟨Zf,Ze,Zb⟩:=hn0.h0.h1
  have s_n_table_fingers:SlM M Zf (Zb.map Zs.segs) 21:=YZ.h1
  have n_n_table_fingers:(Zb.map Zs.segs).length=Zb.length:=List.length_map ..
  have m_n_table_fingers:Zb.length≤9223372036854775807:=YZ.h2
  have c_n_table_fingers:Zb.length≤Ze:=YZ.h3
  have Yu:SlK M (oneI .i64) 1 ⟨Zp,Zo,Zl⟩:=hn0.h1
  have s_n_avoid:SlM M Zp (Zl.map (oneI .i64)) 1:=Yu.h1
  have n_n_avoid:(Zl.map (oneI .i64)).length=Zl.length:=List.length_map ..
  have m_n_avoid:Zl.length≤9223372036854775807:=Yu.h2
  have c_n_avoid:Zl.length≤Zo:=Yu.h3
  refine Xe Tryz.func18 rfl Tryz.ntmps18 rfl ?_;intro H
  iterate 2 refine Stp ?_
  refine Xq ?_;intro b1
  iterate 5 refine Stp ?_
  refine Yz F.zero89 ?_;intro b2
  refine Ya F.lay89 ?_
  iterate 5 refine Stp ?_
  refine Zi F.foff44_0 ?_;refine Zy F.lay41 ?_;refine X_fs rfl rfl F.ok41 rfl (IsT_ok _ ⟨⟨Za,Zd⟩,⟨Zc,Zg⟩,⟨Zk,Zj,Zh⟩,⟨Zf,Ze,Zb⟩⟩ Yj) rfl ?_
  rintro _ rfl
  iterate 2 refine Stp ?_
  refine Yt 10 rfl (eT fun hc3=>?_) (eF fun hc3=>?_)
  ·iterate 53 refine Stp ?_
   refine ZV (.inr rfl) (.tmp rfl .nil) (fun w hw=>?_)
   refine ⟨_,rfl,(hw.c),?_⟩
   clear hw
   show _=Value.bool (decide (IsTb (ZO.tb ⟨⟨Za,Zd⟩,⟨Zc,Zg⟩,⟨Zk,Zj,Zh⟩,⟨Zf,Ze,Zb⟩⟩)∧(1≤Zr∧Zr≤8)∧(Zq=true∨ZD≠-1)∧(0≤Zx∧Zx≤159)∧Zl.length≤16∧(0≤ZC∧ZC≤64)∧(0≤ZE∧ZE≤999999)∧(Xp ⟨Za,Zd⟩ ZD∧Xp ⟨Za,Zd⟩ Zz∧Xp ⟨Za,Zd⟩ Zt∧Xp ⟨Za,Zd⟩ Zw)∧∀ a∈Zl,Yo a))
   refine congrArg Value.bool ?_
   refine (decide_eq_false (fun h9=>?_)).symm
   obtain ⟨g1,g2,g3,g4,g5,g6,g7,⟨g8,g81,g82,g83⟩,g9⟩:=h9
   contradiction
  ·refine Zy F.lay89 ?_
   refine Zi F.foff44_1 ?_;refine Zy F.lay3 ?_;refine Sy rfl rfl rfl F.ok40 rfl rfl (btw_ok M _ _ _) rfl ?_
   rintro _ rfl
   iterate 3 refine Stp ?_
   refine Yt 17 rfl (eT fun hc4=>?_) (eF fun hc4=>?_)
   ·iterate 46 refine Stp ?_
    refine ZV (.inr rfl) (.tmp rfl .nil) (fun w hw=>?_)
    refine ⟨_,rfl,(hw.c),?_⟩
    clear hw
    show _=Value.bool (decide (IsTb (ZO.tb ⟨⟨Za,Zd⟩,⟨Zc,Zg⟩,⟨Zk,Zj,Zh⟩,⟨Zf,Ze,Zb⟩⟩)∧(1≤Zr∧Zr≤8)∧(Zq=true∨ZD≠-1)∧(0≤Zx∧Zx≤159)∧Zl.length≤16∧(0≤ZC∧ZC≤64)∧(0≤ZE∧ZE≤999999)∧(Xp ⟨Za,Zd⟩ ZD∧Xp ⟨Za,Zd⟩ Zz∧Xp ⟨Za,Zd⟩ Zt∧Xp ⟨Za,Zd⟩ Zw)∧∀ a∈Zl,Yo a))
    refine congrArg Value.bool ?_
    refine (decide_eq_false (fun h9=>?_)).symm
    obtain ⟨g1,g2,g3,g4,g5,g6,g7,⟨g8,g81,g82,g83⟩,g9⟩:=h9
    contradiction
   ·refine Zi F.foff44_2 ?_
    refine Zy F.lay4 ?_
    iterate 2 refine Stp ?_
    refine Yt 21 rfl (fun hc5=>?_) (fun hc5=>?_)
    ·skip
     refine Zi F.foff44_3 ?_;refine Zy F.lay3 ?_
     iterate 4 refine Stp ?_
     refine Yt 27 rfl (cT fun hc6=>?_) (cF fun hc6=>?_)
     ·iterate 36 refine Stp ?_
      refine ZV (.inr rfl) (.tmp rfl .nil) (fun w hw=>?_)
      refine ⟨_,rfl,(hw.c),?_⟩
      clear hw
      show _=Value.bool (decide (IsTb (ZO.tb ⟨⟨Za,Zd⟩,⟨Zc,Zg⟩,⟨Zk,Zj,Zh⟩,⟨Zf,Ze,Zb⟩⟩)∧(1≤Zr∧Zr≤8)∧(Zq=true∨ZD≠-1)∧(0≤Zx∧Zx≤159)∧Zl.length≤16∧(0≤ZC∧ZC≤64)∧(0≤ZE∧ZE≤999999)∧(Xp ⟨Za,Zd⟩ ZD∧Xp ⟨Za,Zd⟩ Zz∧Xp ⟨Za,Zd⟩ Zt∧Xp ⟨Za,Zd⟩ Zw)∧∀ a∈Zl,Yo a))
      refine congrArg Value.bool ?_
      refine (decide_eq_false (fun h9=>?_)).symm
      obtain ⟨g1,g2,g3,g4,g5,g6,g7,⟨g8,g81,g82,g83⟩,g9⟩:=h9
      (simp_all;done)
     ·refine Zy F.lay89 ?_
      refine Zi F.foff44_4 ?_;refine Zy F.lay3 ?_;refine Sy rfl rfl rfl F.ok40 rfl rfl (btw_ok M _ _ _) rfl ?_
      rintro _ rfl
      iterate 3 refine Stp ?_
      refine Yt 34 rfl (eT fun hc7=>?_) (eF fun hc7=>?_)
      ·iterate 29 refine Stp ?_
       refine ZV (.inr rfl) (.tmp rfl .nil) (fun w hw=>?_)
       refine ⟨_,rfl,(hw.c),?_⟩
       clear hw
       show _=Value.bool (decide (IsTb (ZO.tb ⟨⟨Za,Zd⟩,⟨Zc,Zg⟩,⟨Zk,Zj,Zh⟩,⟨Zf,Ze,Zb⟩⟩)∧(1≤Zr∧Zr≤8)∧(Zq=true∨ZD≠-1)∧(0≤Zx∧Zx≤159)∧Zl.length≤16∧(0≤ZC∧ZC≤64)∧(0≤ZE∧ZE≤999999)∧(Xp ⟨Za,Zd⟩ ZD∧Xp ⟨Za,Zd⟩ Zz∧Xp ⟨Za,Zd⟩ Zt∧Xp ⟨Za,Zd⟩ Zw)∧∀ a∈Zl,Yo a))
       refine congrArg Value.bool ?_
       refine (decide_eq_false (fun h9=>?_)).symm
       obtain ⟨g1,g2,g3,g4,g5,g6,g7,⟨g8,g81,g82,g83⟩,g9⟩:=h9
       contradiction
      ·refine Zi F.foff44_13 ?_
       refine Zy F.lay32 ?_;refine YA F.elem32 ?_
       iterate 3 refine Stp ?_
       refine Yt 40 rfl (cT fun hc8=>?_) (cF fun hc8=>?_)
       ·iterate 23 refine Stp ?_
        refine ZV (.inr rfl) (.tmp rfl .nil) (fun w hw=>?_)
        refine ⟨_,rfl,(hw.c),?_⟩
        clear hw
        show _=Value.bool (decide (IsTb (ZO.tb ⟨⟨Za,Zd⟩,⟨Zc,Zg⟩,⟨Zk,Zj,Zh⟩,⟨Zf,Ze,Zb⟩⟩)∧(1≤Zr∧Zr≤8)∧(Zq=true∨ZD≠-1)∧(0≤Zx∧Zx≤159)∧Zl.length≤16∧(0≤ZC∧ZC≤64)∧(0≤ZE∧ZE≤999999)∧(Xp ⟨Za,Zd⟩ ZD∧Xp ⟨Za,Zd⟩ Zz∧Xp ⟨Za,Zd⟩ Zt∧Xp ⟨Za,Zd⟩ Zw)∧∀ a∈Zl,Yo a))
        refine congrArg Value.bool ?_
        refine (decide_eq_false (fun h9=>?_)).symm
        obtain ⟨g1,g2,g3,g4,g5,g6,g7,⟨g8,g81,g82,g83⟩,g9⟩:=h9
        omega
       ·refine Zy F.lay89 ?_
        refine Zi F.foff44_14 ?_;refine Zy F.lay3 ?_;refine Sy rfl rfl rfl F.ok40 rfl rfl (btw_ok M _ _ _) rfl ?_
        rintro _ rfl
        iterate 3 refine Stp ?_
        refine Yt 47 rfl (eT fun hc9=>?_) (eF fun hc9=>?_)
        ·iterate 16 refine Stp ?_
         refine ZV (.inr rfl) (.tmp rfl .nil) (fun w hw=>?_)
         refine ⟨_,rfl,(hw.c),?_⟩
         clear hw
         show _=Value.bool (decide (IsTb (ZO.tb ⟨⟨Za,Zd⟩,⟨Zc,Zg⟩,⟨Zk,Zj,Zh⟩,⟨Zf,Ze,Zb⟩⟩)∧(1≤Zr∧Zr≤8)∧(Zq=true∨ZD≠-1)∧(0≤Zx∧Zx≤159)∧Zl.length≤16∧(0≤ZC∧ZC≤64)∧(0≤ZE∧ZE≤999999)∧(Xp ⟨Za,Zd⟩ ZD∧Xp ⟨Za,Zd⟩ Zz∧Xp ⟨Za,Zd⟩ Zt∧Xp ⟨Za,Zd⟩ Zw)∧∀ a∈Zl,Yo a))
         refine congrArg Value.bool ?_
         refine (decide_eq_false (fun h9=>?_)).symm
         obtain ⟨g1,g2,g3,g4,g5,g6,g7,⟨g8,g81,g82,g83⟩,g9⟩:=h9
         contradiction
        ·refine Zy F.lay89 ?_
         refine Zi F.foff44_15 ?_;refine Zy F.lay3 ?_;refine Sy rfl rfl rfl F.ok40 rfl rfl (btw_ok M _ _ _) rfl ?_
         rintro _ rfl
         iterate 4 refine Stp ?_
         refine ZW rfl (eT fun hc10=>?_) (eF fun hc10=>?_)
         ·iterate 7 refine Stp ?_
          refine ZV (.inr rfl) (.tmp rfl .nil) (fun w hw=>?_)
          refine ⟨_,rfl,(hw.c),?_⟩
          clear hw
          show _=Value.bool (decide (IsTb (ZO.tb ⟨⟨Za,Zd⟩,⟨Zc,Zg⟩,⟨Zk,Zj,Zh⟩,⟨Zf,Ze,Zb⟩⟩)∧(1≤Zr∧Zr≤8)∧(Zq=true∨ZD≠-1)∧(0≤Zx∧Zx≤159)∧Zl.length≤16∧(0≤ZC∧ZC≤64)∧(0≤ZE∧ZE≤999999)∧(Xp ⟨Za,Zd⟩ ZD∧Xp ⟨Za,Zd⟩ Zz∧Xp ⟨Za,Zd⟩ Zt∧Xp ⟨Za,Zd⟩ Zw)∧∀ a∈Zl,Yo a))
          refine congrArg Value.bool ?_
          refine (decide_eq_false (fun h9=>?_)).symm
          obtain ⟨g1,g2,g3,g4,g5,g6,g7,⟨g8,g81,g82,g83⟩,g9⟩:=h9
          contradiction
         ·iterate 5 refine Stp ?_
          refine Zi F.foff44_3 ?_;refine Zy F.lay3 ?_;refine Zi F.foff44_6 ?_;refine Zy F.lay3 ?_;refine Zi F.foff44_8 ?_;refine Zy F.lay3 ?_;refine Zi F.foff44_10 ?_;refine Zy F.lay3 ?_
          refine YS rfl rfl F.elem32 F.zero3 rfl rfl (.cons rfl jG (.cons rfl jG (.cons rfl jG (.cons rfl jG .nil)))) rfl rfl jL rfl ?_;intro b11 hob12
          obtain ⟨L4,hL4⟩:∃ l,[ZD,Zz,Zt,Zw]=l:=⟨_,rfl⟩
          have ho4:=OSl.as9 hob12 (show _=L4.map (oneI .i64) by rw [← hL4];rfl)
          have hl4:L4.length=4:=by rw [← hL4];rfl
          have n_L4:(L4.map (oneI .i64)).length=L4.length:=List.length_map ..
          refine YA F.elem32 ?_
          iterate 4 refine Stp ?_
          refine Y_pk [64,63,62,3,2,1] ?_;refine VI (.succ .zero) (fun (k:Nat) z=>z=[(64,.int .i64 (k:Int))]∧k≤4∧∀ j (h:j<L4.length),j<k→Xp ⟨Za,Zd⟩ L4[j]) (fun k=>4-k) (0) (⟨rfl,by omega,fun j h hj=>by omega⟩) ?_
          rintro k _ ⟨rfl,hk,hI⟩
          iterate 6 refine Stp ?_
          refine ZW rfl (cT fun hc13=>?_) (cF fun hc13=>?_)
          ·iterate 6 refine Stp ?_
           refine Ys rfl rfl rfl rfl F.elem32 jR jC zA rfl ?_;refine Vo rfl rfl rfl jE jA yC F.lay3 rfl rfl rfl ?_
           iterate 5 refine Stp ?_
           refine Zy F.lay89 ?_;refine Yk ?_;refine Sy rfl rfl rfl F.ok40 rfl rfl (btw_ok M _ _ _) rfl ?_
           rintro _ rfl
           iterate 2 refine Stp ?_
           refine Yt 72 rfl (eT fun hc14=>?_) (eF fun hc14=>?_)
           ·iterate 21 refine Stp ?_
            refine ZV (.inr rfl) (.tmp rfl .nil) (fun w hw=>?_)
            refine ⟨_,rfl,(hw.c),?_⟩
            clear hw
            show _=Value.bool (decide (IsTb (ZO.tb ⟨⟨Za,Zd⟩,⟨Zc,Zg⟩,⟨Zk,Zj,Zh⟩,⟨Zf,Ze,Zb⟩⟩)∧(1≤Zr∧Zr≤8)∧(Zq=true∨ZD≠-1)∧(0≤Zx∧Zx≤159)∧Zl.length≤16∧(0≤ZC∧ZC≤64)∧(0≤ZE∧ZE≤999999)∧(Xp ⟨Za,Zd⟩ ZD∧Xp ⟨Za,Zd⟩ Zz∧Xp ⟨Za,Zd⟩ Zt∧Xp ⟨Za,Zd⟩ Zw)∧∀ a∈Zl,Yo a))
            refine congrArg Value.bool ?_
            refine (decide_eq_false (fun h9=>?_)).symm
            obtain ⟨g1,g2,g3,g4,g5,g6,g7,⟨g8,g81,g82,g83⟩,g9⟩:=h9
            have h5:=(addr4 (s:=⟨Za,Zd⟩)).2 ⟨g8,g81,g82,g83⟩
            have h6:=fun j (h:j<L4.length)=>(show Xp ⟨Za,Zd⟩ L4[j] from by subst hL4;exact h5 j h)
            have h7:=h6 k jC
            obtain ⟨h71,h72⟩:=h7
            contradiction
           ·refine Yk ?_
            refine Zi F.foff44_0 ?_;refine Zi F.foff41_0 ?_;refine Zi F.foff38_0 ?_;refine Zy F.lay3 ?_
            iterate 4 refine Stp ?_
            refine ZW rfl (cT fun hc15=>?_) (cF fun hc15=>?_)
            ·iterate 11 refine Stp ?_
             refine ZV (.inr rfl) (.tmp rfl .nil) (fun w hw=>?_)
             refine ⟨_,rfl,(hw.c),?_⟩
             clear hw
             show _=Value.bool (decide (IsTb (ZO.tb ⟨⟨Za,Zd⟩,⟨Zc,Zg⟩,⟨Zk,Zj,Zh⟩,⟨Zf,Ze,Zb⟩⟩)∧(1≤Zr∧Zr≤8)∧(Zq=true∨ZD≠-1)∧(0≤Zx∧Zx≤159)∧Zl.length≤16∧(0≤ZC∧ZC≤64)∧(0≤ZE∧ZE≤999999)∧(Xp ⟨Za,Zd⟩ ZD∧Xp ⟨Za,Zd⟩ Zz∧Xp ⟨Za,Zd⟩ Zt∧Xp ⟨Za,Zd⟩ Zw)∧∀ a∈Zl,Yo a))
             refine congrArg Value.bool ?_
             refine (decide_eq_false (fun h9=>?_)).symm
             obtain ⟨g1,g2,g3,g4,g5,g6,g7,⟨g8,g81,g82,g83⟩,g9⟩:=h9
             have h5:=(addr4 (s:=⟨Za,Zd⟩)).2 ⟨g8,g81,g82,g83⟩
             have h6:=fun j (h:j<L4.length)=>(show Xp ⟨Za,Zd⟩ L4[j] from by subst hL4;exact h5 j h)
             have h7:=h6 k jC
             obtain ⟨h71,h72⟩:=h7
             contradiction
            ·iterate 4 refine Stp ?_
             refine YO rfl rfl rfl rfl rfl yA rfl ?_
             iterate 2 refine Stp ?_
             refine Vq (a':=[(64,_)]) (k+1) (.cons (k:=64) rfl (.cons (k:=63) rfl (.cons (k:=62) rfl (.cons (k:=3) rfl (.cons (k:=2) rfl (.cons (k:=1) rfl (.nil))))))) (fun w hw=>by first|exact hw|exact hw.c) ?_ ?_
             ·refine ⟨rfl,by omega,fun j h hj=>?_⟩
              rcases Nat.lt_or_ge j k with h9|h9
              ·exact hI j h h9
              ·have hjk:j=k:=by omega
               subst hjk
               exact ⟨by assumption,by assumption⟩
             ·omega
          ·iterate 7 refine Stp ?_
           refine Zi F.foff44_13 ?_;refine Zy F.lay32 ?_;refine VL rfl rfl rfl rfl rfl ?_;refine X_fo rfl rfl F.ok42 rfl (ContainsFI_rd _ [(b2,_)] ⟨_,_,_⟩ 43 [_] (fun a=>decide (¬(0≤a∧a≤999))) (s_n_avoid.rd _) m_n_avoid F.ok43 (fun x hx=>avo_ok M _ x)) jA (ZT rfl) ?_
           rintro _ M1 _ ⟨hM1,rfl⟩;subst M1
           iterate 5 refine Stp ?_
           refine ZV (.inr rfl) (.tmp rfl .nil) (fun w hw=>?_)
           refine ⟨_,rfl,(hw.c),?_⟩
           clear hw
           obtain rfl:k=4:=by omega
           have h4:∀ j (h:j<[ZD,Zz,Zt,Zw].length),Xp ⟨Za,Zd⟩ [ZD,Zz,Zt,Zw][j]:=by rw [hL4];exact fun j h=>hI j h jC
           have h5:=addr4.1 h4
           show _=Value.bool (decide (IsTb (ZO.tb ⟨⟨Za,Zd⟩,⟨Zc,Zg⟩,⟨Zk,Zj,Zh⟩,⟨Zf,Ze,Zb⟩⟩)∧(1≤Zr∧Zr≤8)∧(Zq=true∨ZD≠-1)∧(0≤Zx∧Zx≤159)∧Zl.length≤16∧(0≤ZC∧ZC≤64)∧(0≤ZE∧ZE≤999999)∧(Xp ⟨Za,Zd⟩ ZD∧Xp ⟨Za,Zd⟩ Zz∧Xp ⟨Za,Zd⟩ Zt∧Xp ⟨Za,Zd⟩ Zw)∧∀ a∈Zl,Yo a))
           refine congrArg Value.bool ?_
           have h6:=any_odd (l:=Zl)
           obtain ⟨B,hB⟩:∃ b,(Zl.any fun a=>decide (¬(0≤a∧a≤999)))=b:=⟨_,rfl⟩
           rw [hB] at h6 ⊢
           cases B
           ·exact (decide_eq_true ⟨by assumption,by first|assumption|omega,by first|assumption|(simp_all;done),by first|assumption|omega,by omega,by first|assumption|omega,by first|assumption|omega,h5,h6.1 rfl⟩).symm
           ·exact (decide_eq_false (fun h9=>by have h8:=h6.2 h9.2.2.2.2.2.2.2.2;cases h8)).symm
    ·skip
     iterate 6 refine Stp ?_
     refine Zy F.lay89 ?_;refine Zi F.foff44_4 ?_;refine Zy F.lay3 ?_;refine Sy rfl rfl rfl F.ok40 rfl rfl (btw_ok M _ _ _) rfl ?_
     rintro _ rfl
     iterate 3 refine Stp ?_
     refine Yt 34 rfl (eT fun hc16=>?_) (eF fun hc16=>?_)
     ·iterate 29 refine Stp ?_
      refine ZV (.inr rfl) (.tmp rfl .nil) (fun w hw=>?_)
      refine ⟨_,rfl,(hw.c),?_⟩
      clear hw
      show _=Value.bool (decide (IsTb (ZO.tb ⟨⟨Za,Zd⟩,⟨Zc,Zg⟩,⟨Zk,Zj,Zh⟩,⟨Zf,Ze,Zb⟩⟩)∧(1≤Zr∧Zr≤8)∧(Zq=true∨ZD≠-1)∧(0≤Zx∧Zx≤159)∧Zl.length≤16∧(0≤ZC∧ZC≤64)∧(0≤ZE∧ZE≤999999)∧(Xp ⟨Za,Zd⟩ ZD∧Xp ⟨Za,Zd⟩ Zz∧Xp ⟨Za,Zd⟩ Zt∧Xp ⟨Za,Zd⟩ Zw)∧∀ a∈Zl,Yo a))
      refine congrArg Value.bool ?_
      refine (decide_eq_false (fun h9=>?_)).symm
      obtain ⟨g1,g2,g3,g4,g5,g6,g7,⟨g8,g81,g82,g83⟩,g9⟩:=h9
      contradiction
     ·refine Zi F.foff44_13 ?_
      refine Zy F.lay32 ?_;refine YA F.elem32 ?_
      iterate 3 refine Stp ?_
      refine Yt 40 rfl (cT fun hc17=>?_) (cF fun hc17=>?_)
      ·iterate 23 refine Stp ?_
       refine ZV (.inr rfl) (.tmp rfl .nil) (fun w hw=>?_)
       refine ⟨_,rfl,(hw.c),?_⟩
       clear hw
       show _=Value.bool (decide (IsTb (ZO.tb ⟨⟨Za,Zd⟩,⟨Zc,Zg⟩,⟨Zk,Zj,Zh⟩,⟨Zf,Ze,Zb⟩⟩)∧(1≤Zr∧Zr≤8)∧(Zq=true∨ZD≠-1)∧(0≤Zx∧Zx≤159)∧Zl.length≤16∧(0≤ZC∧ZC≤64)∧(0≤ZE∧ZE≤999999)∧(Xp ⟨Za,Zd⟩ ZD∧Xp ⟨Za,Zd⟩ Zz∧Xp ⟨Za,Zd⟩ Zt∧Xp ⟨Za,Zd⟩ Zw)∧∀ a∈Zl,Yo a))
       refine congrArg Value.bool ?_
       refine (decide_eq_false (fun h9=>?_)).symm
       obtain ⟨g1,g2,g3,g4,g5,g6,g7,⟨g8,g81,g82,g83⟩,g9⟩:=h9
       omega
      ·refine Zy F.lay89 ?_
       refine Zi F.foff44_14 ?_;refine Zy F.lay3 ?_;refine Sy rfl rfl rfl F.ok40 rfl rfl (btw_ok M _ _ _) rfl ?_
       rintro _ rfl
       iterate 3 refine Stp ?_
       refine Yt 47 rfl (eT fun hc18=>?_) (eF fun hc18=>?_)
       ·iterate 16 refine Stp ?_
        refine ZV (.inr rfl) (.tmp rfl .nil) (fun w hw=>?_)
        refine ⟨_,rfl,(hw.c),?_⟩
        clear hw
        show _=Value.bool (decide (IsTb (ZO.tb ⟨⟨Za,Zd⟩,⟨Zc,Zg⟩,⟨Zk,Zj,Zh⟩,⟨Zf,Ze,Zb⟩⟩)∧(1≤Zr∧Zr≤8)∧(Zq=true∨ZD≠-1)∧(0≤Zx∧Zx≤159)∧Zl.length≤16∧(0≤ZC∧ZC≤64)∧(0≤ZE∧ZE≤999999)∧(Xp ⟨Za,Zd⟩ ZD∧Xp ⟨Za,Zd⟩ Zz∧Xp ⟨Za,Zd⟩ Zt∧Xp ⟨Za,Zd⟩ Zw)∧∀ a∈Zl,Yo a))
        refine congrArg Value.bool ?_
        refine (decide_eq_false (fun h9=>?_)).symm
        obtain ⟨g1,g2,g3,g4,g5,g6,g7,⟨g8,g81,g82,g83⟩,g9⟩:=h9
        contradiction
       ·refine Zy F.lay89 ?_
        refine Zi F.foff44_15 ?_;refine Zy F.lay3 ?_;refine Sy rfl rfl rfl F.ok40 rfl rfl (btw_ok M _ _ _) rfl ?_
        rintro _ rfl
        iterate 4 refine Stp ?_
        refine ZW rfl (eT fun hc19=>?_) (eF fun hc19=>?_)
        ·iterate 7 refine Stp ?_
         refine ZV (.inr rfl) (.tmp rfl .nil) (fun w hw=>?_)
         refine ⟨_,rfl,(hw.c),?_⟩
         clear hw
         show _=Value.bool (decide (IsTb (ZO.tb ⟨⟨Za,Zd⟩,⟨Zc,Zg⟩,⟨Zk,Zj,Zh⟩,⟨Zf,Ze,Zb⟩⟩)∧(1≤Zr∧Zr≤8)∧(Zq=true∨ZD≠-1)∧(0≤Zx∧Zx≤159)∧Zl.length≤16∧(0≤ZC∧ZC≤64)∧(0≤ZE∧ZE≤999999)∧(Xp ⟨Za,Zd⟩ ZD∧Xp ⟨Za,Zd⟩ Zz∧Xp ⟨Za,Zd⟩ Zt∧Xp ⟨Za,Zd⟩ Zw)∧∀ a∈Zl,Yo a))
         refine congrArg Value.bool ?_
         refine (decide_eq_false (fun h9=>?_)).symm
         obtain ⟨g1,g2,g3,g4,g5,g6,g7,⟨g8,g81,g82,g83⟩,g9⟩:=h9
         contradiction
        ·iterate 5 refine Stp ?_
         refine Zi F.foff44_3 ?_;refine Zy F.lay3 ?_;refine Zi F.foff44_6 ?_;refine Zy F.lay3 ?_;refine Zi F.foff44_8 ?_;refine Zy F.lay3 ?_;refine Zi F.foff44_10 ?_;refine Zy F.lay3 ?_
         refine YS rfl rfl F.elem32 F.zero3 rfl rfl (.cons rfl jG (.cons rfl jG (.cons rfl jG (.cons rfl jG .nil)))) rfl rfl jL rfl ?_;intro b20 hob21
         obtain ⟨L4,hL4⟩:∃ l,[ZD,Zz,Zt,Zw]=l:=⟨_,rfl⟩
         have ho4:=OSl.as9 hob21 (show _=L4.map (oneI .i64) by rw [← hL4];rfl)
         have hl4:L4.length=4:=by rw [← hL4];rfl
         have n_L4:(L4.map (oneI .i64)).length=L4.length:=List.length_map ..
         refine YA F.elem32 ?_
         iterate 4 refine Stp ?_
         refine Y_pk [64,63,62,3,2,1] ?_;refine VI (.succ .zero) (fun (k:Nat) z=>z=[(64,.int .i64 (k:Int))]∧k≤4∧∀ j (h:j<L4.length),j<k→Xp ⟨Za,Zd⟩ L4[j]) (fun k=>4-k) (0) (⟨rfl,by omega,fun j h hj=>by omega⟩) ?_
         rintro k _ ⟨rfl,hk,hI⟩
         iterate 6 refine Stp ?_
         refine ZW rfl (cT fun hc22=>?_) (cF fun hc22=>?_)
         ·iterate 6 refine Stp ?_
          refine Ys rfl rfl rfl rfl F.elem32 jR jC zA rfl ?_;refine Vo rfl rfl rfl jE jA yC F.lay3 rfl rfl rfl ?_
          iterate 5 refine Stp ?_
          refine Zy F.lay89 ?_;refine Yk ?_;refine Sy rfl rfl rfl F.ok40 rfl rfl (btw_ok M _ _ _) rfl ?_
          rintro _ rfl
          iterate 2 refine Stp ?_
          refine Yt 72 rfl (eT fun hc23=>?_) (eF fun hc23=>?_)
          ·iterate 21 refine Stp ?_
           refine ZV (.inr rfl) (.tmp rfl .nil) (fun w hw=>?_)
           refine ⟨_,rfl,(hw.c),?_⟩
           clear hw
           show _=Value.bool (decide (IsTb (ZO.tb ⟨⟨Za,Zd⟩,⟨Zc,Zg⟩,⟨Zk,Zj,Zh⟩,⟨Zf,Ze,Zb⟩⟩)∧(1≤Zr∧Zr≤8)∧(Zq=true∨ZD≠-1)∧(0≤Zx∧Zx≤159)∧Zl.length≤16∧(0≤ZC∧ZC≤64)∧(0≤ZE∧ZE≤999999)∧(Xp ⟨Za,Zd⟩ ZD∧Xp ⟨Za,Zd⟩ Zz∧Xp ⟨Za,Zd⟩ Zt∧Xp ⟨Za,Zd⟩ Zw)∧∀ a∈Zl,Yo a))
           refine congrArg Value.bool ?_
           refine (decide_eq_false (fun h9=>?_)).symm
           obtain ⟨g1,g2,g3,g4,g5,g6,g7,⟨g8,g81,g82,g83⟩,g9⟩:=h9
           have h5:=(addr4 (s:=⟨Za,Zd⟩)).2 ⟨g8,g81,g82,g83⟩
           have h6:=fun j (h:j<L4.length)=>(show Xp ⟨Za,Zd⟩ L4[j] from by subst hL4;exact h5 j h)
           have h7:=h6 k jC
           obtain ⟨h71,h72⟩:=h7
           contradiction
          ·refine Yk ?_
           refine Zi F.foff44_0 ?_;refine Zi F.foff41_0 ?_;refine Zi F.foff38_0 ?_;refine Zy F.lay3 ?_
           iterate 4 refine Stp ?_
           refine ZW rfl (cT fun hc24=>?_) (cF fun hc24=>?_)
           ·iterate 11 refine Stp ?_
            refine ZV (.inr rfl) (.tmp rfl .nil) (fun w hw=>?_)
            refine ⟨_,rfl,(hw.c),?_⟩
            clear hw
            show _=Value.bool (decide (IsTb (ZO.tb ⟨⟨Za,Zd⟩,⟨Zc,Zg⟩,⟨Zk,Zj,Zh⟩,⟨Zf,Ze,Zb⟩⟩)∧(1≤Zr∧Zr≤8)∧(Zq=true∨ZD≠-1)∧(0≤Zx∧Zx≤159)∧Zl.length≤16∧(0≤ZC∧ZC≤64)∧(0≤ZE∧ZE≤999999)∧(Xp ⟨Za,Zd⟩ ZD∧Xp ⟨Za,Zd⟩ Zz∧Xp ⟨Za,Zd⟩ Zt∧Xp ⟨Za,Zd⟩ Zw)∧∀ a∈Zl,Yo a))
            refine congrArg Value.bool ?_
            refine (decide_eq_false (fun h9=>?_)).symm
            obtain ⟨g1,g2,g3,g4,g5,g6,g7,⟨g8,g81,g82,g83⟩,g9⟩:=h9
            have h5:=(addr4 (s:=⟨Za,Zd⟩)).2 ⟨g8,g81,g82,g83⟩
            have h6:=fun j (h:j<L4.length)=>(show Xp ⟨Za,Zd⟩ L4[j] from by subst hL4;exact h5 j h)
            have h7:=h6 k jC
            obtain ⟨h71,h72⟩:=h7
            contradiction
           ·iterate 4 refine Stp ?_
            refine YO rfl rfl rfl rfl rfl yA rfl ?_
            iterate 2 refine Stp ?_
            refine Vq (a':=[(64,_)]) (k+1) (.cons (k:=64) rfl (.cons (k:=63) rfl (.cons (k:=62) rfl (.cons (k:=3) rfl (.cons (k:=2) rfl (.cons (k:=1) rfl (.nil))))))) (fun w hw=>by first|exact hw|exact hw.c) ?_ ?_
            ·refine ⟨rfl,by omega,fun j h hj=>?_⟩
             rcases Nat.lt_or_ge j k with h9|h9
             ·exact hI j h h9
             ·have hjk:j=k:=by omega
              subst hjk
              exact ⟨by assumption,by assumption⟩
            ·omega
         ·iterate 7 refine Stp ?_
          refine Zi F.foff44_13 ?_;refine Zy F.lay32 ?_;refine VL rfl rfl rfl rfl rfl ?_;refine X_fo rfl rfl F.ok42 rfl (ContainsFI_rd _ [(b2,_)] ⟨_,_,_⟩ 43 [_] (fun a=>decide (¬(0≤a∧a≤999))) (s_n_avoid.rd _) m_n_avoid F.ok43 (fun x hx=>avo_ok M _ x)) jA (ZT rfl) ?_
          rintro _ M1 _ ⟨hM1,rfl⟩;subst M1
          iterate 5 refine Stp ?_
          refine ZV (.inr rfl) (.tmp rfl .nil) (fun w hw=>?_)
          refine ⟨_,rfl,(hw.c),?_⟩
          clear hw
          obtain rfl:k=4:=by omega
          have h4:∀ j (h:j<[ZD,Zz,Zt,Zw].length),Xp ⟨Za,Zd⟩ [ZD,Zz,Zt,Zw][j]:=by rw [hL4];exact fun j h=>hI j h jC
          have h5:=addr4.1 h4
          show _=Value.bool (decide (IsTb (ZO.tb ⟨⟨Za,Zd⟩,⟨Zc,Zg⟩,⟨Zk,Zj,Zh⟩,⟨Zf,Ze,Zb⟩⟩)∧(1≤Zr∧Zr≤8)∧(Zq=true∨ZD≠-1)∧(0≤Zx∧Zx≤159)∧Zl.length≤16∧(0≤ZC∧ZC≤64)∧(0≤ZE∧ZE≤999999)∧(Xp ⟨Za,Zd⟩ ZD∧Xp ⟨Za,Zd⟩ Zz∧Xp ⟨Za,Zd⟩ Zt∧Xp ⟨Za,Zd⟩ Zw)∧∀ a∈Zl,Yo a))
          refine congrArg Value.bool ?_
          have h6:=any_odd (l:=Zl)
          obtain ⟨B,hB⟩:∃ b,(Zl.any fun a=>decide (¬(0≤a∧a≤999)))=b:=⟨_,rfl⟩
          rw [hB] at h6 ⊢
          cases B
          ·exact (decide_eq_true ⟨by assumption,by first|assumption|omega,by first|assumption|(simp_all;done),by first|assumption|omega,by omega,by first|assumption|omega,by first|assumption|omega,h5,h6.1 rfl⟩).symm
          ·exact (decide_eq_false (fun h9=>by have h8:=h6.2 h9.2.2.2.2.2.2.2.2;cases h8)).symm
theorem F.bld268:Bld Tryz.prog 268 [[.one (.int .i64 0)],[.one (.bool false)]]:=⟨by kernel_rfl,by kernel_rfl⟩
theorem F.elem269:slOf Tryz.prog 269=some (268,2,16):=by kernel_rfl
theorem F.foff128_0:foff Tryz.prog 128 0=some 0:=by kernel_rfl
theorem F.foff128_1:foff Tryz.prog 128 1=some 1:=by kernel_rfl
theorem F.foff128_2:foff Tryz.prog 128 2=some 22:=by kernel_rfl
theorem F.foff128_3:foff Tryz.prog 128 3=some 23:=by kernel_rfl
theorem F.foff128_4:foff Tryz.prog 128 4=some 43:=by kernel_rfl
theorem F.foff128_5:foff Tryz.prog 128 5=some 44:=by kernel_rfl
theorem F.foff128_6:foff Tryz.prog 128 6=some 45:=by kernel_rfl
theorem F.foff128_7:foff Tryz.prog 128 7=some 66:=by kernel_rfl
theorem F.foff268_0:foff Tryz.prog 268 0=some 0:=by kernel_rfl
theorem F.foff268_1:foff Tryz.prog 268 1=some 1:=by kernel_rfl
theorem F.lay128:lay Tryz.prog 128=some (true,67):=by kernel_rfl
theorem F.lay268:lay Tryz.prog 268=some (true,2):=by kernel_rfl
theorem F.lay42:lay Tryz.prog 42=some (false,1):=by kernel_rfl
theorem F.ok112:okFn Tryz.prog 112=true:=by kernel_rfl
theorem F.ok170:okFn Tryz.prog 170=true:=by kernel_rfl
theorem F.ok171:okFn Tryz.prog 171=true:=by kernel_rfl
theorem F.ok172:okFn Tryz.prog 172=true:=by kernel_rfl
theorem F.zero268:XW Tryz.prog 268=some (aggV [.one (.int .i64 0),.one (.bool false)]):=by kernel_rfl
theorem lodd_ok (M:Mem) (a:Int):Fs Tryz.prog 171 [.int .i64 a] M (fun v=>v=Value.bool (decide (¬(0≤a∧a≤999)))):=by
  refine Xe Tryz.func171 rfl Tryz.ntmps171 rfl ?_;intro H
  iterate 10 refine Stp ?_
  refine Yt 5 rfl (cT fun hc1=>?_) (cF fun hc1=>?_)
  ·iterate 7 refine Stp ?_
   refine ZV (.inr rfl) (.tmp rfl .nil) (fun w hw=>?_)
   refine ⟨_,rfl,(hw.c),?_⟩
   clear hw
   refine congrArg Value.bool ?_
   exact (decide_eq_true jC).symm
  ·iterate 7 refine Stp ?_
   refine ZV (.inr rfl) (.tmp rfl .nil) (fun w hw=>?_)
   refine ⟨_,rfl,(hw.c),?_⟩
   clear hw
   refine congrArg Value.bool ?_
   exact decide_eq_decide.2 ⟨fun h9=>by omega,fun h9=>by omega⟩
theorem loddP_ok (M:Mem) (p:Zs):Fs Tryz.prog 172 [p.enc] M (fun v=>v=Value.bool (decide (¬Yo p.addr))):=by
  obtain ⟨YI,p_id⟩:=p
  refine Xe Tryz.func172 rfl Tryz.ntmps172 rfl ?_;intro H
  iterate 2 refine Stp ?_
  refine Xq ?_;intro b1
  iterate 5 refine Stp ?_
  refine Zi F.foff38_0 ?_;refine Zy F.lay3 ?_;refine X_fs rfl rfl F.ok171 rfl (lodd_ok _ _) rfl ?_
  rintro _ rfl
  iterate 4 refine Stp ?_
  refine ZV (.inr rfl) (.tmp rfl .nil) (fun w hw=>?_)
  refine ⟨_,rfl,(hw.c),?_⟩
  clear hw
  rfl
theorem parts_ok (M:Mem) (k:Int):Fs Tryz.prog 112 [.int .i64 k] M (fun v=>v=.tuple #[.int .i64 (VA k).1,.bool (VA k).2]):=by
  refine Xe Tryz.func112 rfl Tryz.ntmps112 rfl ?_;intro H
  iterate 19 refine Stp ?_
  refine ZW rfl (cT fun hc1=>?_) (cF fun hc1=>?_)
  ·iterate 9 refine Stp ?_
   refine ZV (.inr rfl) (.tmp rfl (.tmp rfl .nil)) (fun w hw=>?_)
   refine ⟨_,rfl,hw.c,?_⟩
   clear hw
   (subst_vars;rfl)
  ·iterate 6 refine Stp ?_
   refine ZW rfl (cT fun hc2=>?_) (cF fun hc2=>?_)
   ·iterate 9 refine Stp ?_
    refine ZV (.inr rfl) (.tmp rfl (.tmp rfl .nil)) (fun w hw=>?_)
    refine ⟨_,rfl,hw.c,?_⟩
    clear hw
    (subst_vars;rfl)
   ·iterate 7 refine Stp ?_
    refine C_part 9 rfl (cT fun hc3=>?_) (cF fun hc3=>?_)
    ·iterate 13 refine Stp ?_
     refine ZV (.inr rfl) (.tmp rfl (.tmp rfl .nil)) (fun w hw=>?_)
     refine ⟨_,rfl,hw.c,?_⟩
     clear hw
     (subst_vars;rfl)
    ·iterate 7 refine Stp ?_
     refine C_part 9 rfl (cT fun hc4=>?_) (cF fun hc4=>?_)
     ·iterate 13 refine Stp ?_
      refine ZV (.inr rfl) (.tmp rfl (.tmp rfl .nil)) (fun w hw=>?_)
      refine ⟨_,rfl,hw.c,?_⟩
      clear hw
      (subst_vars;rfl)
     ·iterate 6 refine Stp ?_
      refine ZW rfl (cT fun hc5=>?_) (cF fun hc5=>?_)
      ·iterate 9 refine Stp ?_
       refine ZV (.inr rfl) (.tmp rfl (.tmp rfl .nil)) (fun w hw=>?_)
       refine ⟨_,rfl,hw.c,?_⟩
       clear hw
       (subst_vars;rfl)
      ·iterate 6 refine Stp ?_
       refine ZW rfl (cT fun hc6=>?_) (cF fun hc6=>?_)
       ·iterate 9 refine Stp ?_
        refine ZV (.inr rfl) (.tmp rfl (.tmp rfl .nil)) (fun w hw=>?_)
        refine ⟨_,rfl,hw.c,?_⟩
        clear hw
        (subst_vars;rfl)
       ·iterate 6 refine Stp ?_
        refine ZW rfl (cT fun hc7=>?_) (cF fun hc7=>?_)
        ·iterate 9 refine Stp ?_
         refine ZV (.inr rfl) (.tmp rfl (.tmp rfl .nil)) (fun w hw=>?_)
         refine ⟨_,rfl,hw.c,?_⟩
         clear hw
         (subst_vars;rfl)
        ·iterate 6 refine Stp ?_
         refine ZW rfl (cT fun hc8=>?_) (cF fun hc8=>?_)
         ·iterate 9 refine Stp ?_
          refine ZV (.inr rfl) (.tmp rfl (.tmp rfl .nil)) (fun w hw=>?_)
          refine ⟨_,rfl,hw.c,?_⟩
          clear hw
          (subst_vars;rfl)
         ·iterate 10 refine Stp ?_
          refine ZV (.inr rfl) (.tmp rfl (.tmp rfl .nil)) (fun w hw=>?_)
          refine ⟨_,rfl,hw.c,?_⟩
          clear hw
          (rw [parts_no jC];rfl)
theorem used_ok (M:Mem) (l:ZF) (hl0:ZF.ok M l):Fs Tryz.prog 170 [l.enc] M (fun v=>v=.int .i64 (TR (Sv (!decide (l.req=0)) (!decide (l.id=0)) (decide (0<(l.avoid.l.length:Int))) l.done (!decide (l.peer=YD)) (decide (0<(l.peers.l.length:Int)))))):=by
  obtain ⟨ZK,⟨ZH,ZY⟩,Yd,l_id,⟨ZS,ZR,ZG⟩,ZX,⟨ZA,ZL⟩,⟨ZQ,ZP,ZB⟩⟩:=l
  have XM:SlK M (oneI .i64) 1 ⟨ZS,ZR,ZG⟩:=hl0.h0
  have s_l_avoid:SlM M ZS (ZG.map (oneI .i64)) 1:=XM.h1
  have n_l_avoid:(ZG.map (oneI .i64)).length=ZG.length:=List.length_map ..
  have m_l_avoid:ZG.length≤9223372036854775807:=XM.h2
  have c_l_avoid:ZG.length≤ZR:=XM.h3
  have YY:SlK M Zs.segs 21 ⟨ZQ,ZP,ZB⟩:=hl0.h1
  have Wq:SlM M ZQ (ZB.map Zs.segs) 21:=YY.h1
  have VS:(ZB.map Zs.segs).length=ZB.length:=List.length_map ..
  have m_l_peers:ZB.length≤9223372036854775807:=YY.h2
  have VT:ZB.length≤ZP:=YY.h3
  refine Xe Tryz.func170 rfl Tryz.ntmps170 rfl ?_;intro H
  iterate 2 refine Stp ?_
  refine Xq ?_;intro b1
  iterate 10 refine Stp ?_
  refine Yg (l:=[0,1,2,3,4,5,6,7,8,9,10,11,12,13,14,15,16,17,18,19,20,21,22,23,24,25,26,27,28,29]) #[0,1,3,7,0,16,0,112,240,0,512,1536,3584,7680,0,16384,49152,0,131072,0,917504,1966080,0,4194304,12582912,29360128,62914560,134217727,268435455,0] _ rfl jI jI St.drawn (fun _ h=>h) ?_;refine Zi F.foff128_2 ?_;refine Zy F.lay42 ?_;refine Ti ?_;refine Xo rfl rfl F.bld268 (.cons rfl jG (.cons rfl jG .nil)) rfl rfl ?_;refine Zi F.foff128_3 ?_;refine Zy F.lay36 ?_;refine X_build0 rfl rfl F.zero36 F.arr36 rfl ?_
  refine VE (m:=20) rfl rfl rfl rfl rfl jG jG F.lay36 F.kinds36 rfl F.guard36 (TD UZ) (TD UZ) rfl rfl rfl ?_;intro c2 he3
  replace he3:c2=true↔¬(Segs.cells _=Segs.cells _):=he3
  obtain rfl:=neD he3 (cells_id1 (x:=_) (y:=_));clear he3
  refine Xo rfl rfl F.bld268 (.cons rfl jG (.cons rfl jG .nil)) rfl rfl ?_;refine Zi F.foff128_4 ?_;refine Zy F.lay32 ?_;refine YA F.elem32 ?_;refine Ti ?_;refine Xo rfl rfl F.bld268 (.cons rfl jG (.cons rfl jG .nil)) rfl rfl ?_;refine Zi F.foff128_5 ?_;refine Zy F.lay4 ?_;refine Xo rfl rfl F.bld268 (.cons rfl jG (.cons rfl jG .nil)) rfl rfl ?_;refine Zi F.foff128_6 ?_;refine Zy F.lay38 ?_;refine X_fs rfl rfl F.ok78 rfl (Vp _) rfl ?_
  rintro _ rfl
  refine XI 25 rfl (show _=aggV [.one (.int .i64 (-1)),Yb 0] from rfl) ?_
  refine VE (m:=20) rfl rfl rfl rfl rfl jG jG F.lay38 F.kinds38 rfl F.guard38 jS jS rfl rfl rfl ?_;intro c4 he5
  replace he5:c4=true↔¬(Segs.cells _=Segs.cells _):=he5
  obtain rfl:=neD he5 (Zs.inj (x:=⟨_,_⟩) (y:=⟨_,_⟩));clear he5
  refine Xo rfl rfl F.bld268 (.cons rfl jG (.cons rfl jG .nil)) rfl rfl ?_;refine Zi F.foff128_7 ?_;refine Zy F.lay39 ?_;refine YA F.elem39 ?_;refine Ti ?_;refine Xo rfl rfl F.bld268 (.cons rfl jG (.cons rfl jG .nil)) rfl rfl ?_
  refine YS rfl rfl F.elem269 F.zero268 rfl rfl (.cons rfl jG (.cons rfl jG (.cons rfl jG (.cons rfl jG (.cons rfl jG (.cons rfl jG .nil)))))) rfl rfl jL rfl ?_;intro b6 hob7
  obtain ⟨HL,hHL⟩:∃ l,Sv (!decide (Yd=0)) (!decide (l_id=0)) (decide (0<(ZG.length:Int))) ZX (!decide ((⟨ZA,ZL⟩:Zs)=YD)) (decide (0<(ZB.length:Int)))=l:=⟨_,rfl⟩
  have ho6:=OSl.as9 hob7 (show _=HL.map YF.segs by rw [← hHL];rfl)
  have hl6:HL.length=6:=by rw [← hHL];rfl
  have n_L6:(HL.map YF.segs).length=HL.length:=List.length_map ..
  refine YA F.elem269 ?_
  iterate 4 refine Stp ?_
  refine Y_pk [35,3,34,33,2] ?_;refine VI (.succ (.succ .zero)) (fun (k:Nat) z=>z=[(35,.int .i64 (k:Int)),(3,.int .i64 (TR (HL.take k)))]∧k≤6) (fun k=>6-k) (0) (⟨rfl,by omega⟩) ?_
  rintro k _ ⟨rfl,hk⟩
  iterate 6 refine Stp ?_
  refine ZW rfl (cT fun hc8=>?_) (cF fun hc8=>?_)
  ·iterate 6 refine Stp ?_
   refine Ys rfl rfl rfl rfl F.elem269 jR jC zA rfl ?_;refine Vo rfl rfl rfl jE jA yC F.lay268 rfl rfl rfl ?_
   obtain ⟨⟨h_part,h_is⟩,hk9⟩:∃ h,HL[k]'jC=h:=⟨_,rfl⟩
   refine XI 38 rfl (show _=aggV (YF.segs ⟨h_part,h_is⟩) from by rw [← hk9];rfl) ?_
   refine Yz F.zero268 ?_;intro b9
   refine Ya F.lay268 ?_
   iterate 4 refine Stp ?_
   refine Zi F.foff268_1 ?_;refine Zy F.lay4 ?_
   iterate 2 refine Stp ?_
   refine ZW rfl (fun hc10=>?_) (fun hc10=>?_)
   ·skip
    iterate 2 refine Stp ?_
    refine Zi F.foff268_0 ?_;refine Zy F.lay3 ?_;refine WR rfl rfl rfl rfl rfl rfl rfl ?_
    iterate 5 refine Stp ?_
    refine YO rfl rfl rfl rfl rfl yA rfl ?_
    iterate 2 refine Stp ?_
    refine Vq (a':=[(35,_),(3,_)]) (k+1) (.cons (k:=35) rfl (.cons (k:=3) rfl (.cons (k:=34) rfl (.cons (k:=33) rfl (.cons (k:=2) rfl (.nil)))))) (fun w hw=>by first|exact hw|exact hw.c) ?_ ?_
    ·refine ⟨?_,by omega⟩
     rw [usedH_take jC,hk9]
     simp only
     rw [show h_is=true from by assumption]
     rfl
    ·omega
   ·skip
    iterate 4 refine Stp ?_
    refine YO rfl rfl rfl rfl rfl yA rfl ?_
    iterate 2 refine Stp ?_
    refine Vq (a':=[(35,_),(3,_)]) (k+1) (.cons (k:=35) rfl (.cons (k:=3) rfl (.cons (k:=34) rfl (.cons (k:=33) rfl (.cons (k:=2) rfl (.nil)))))) (fun w hw=>by first|exact hw|exact hw.c) ?_ ?_
    ·refine ⟨?_,by omega⟩
     rw [usedH_take jC,hk9]
     simp only
     rw [show h_is=false from by assumption]
     rfl
    ·omega
  ·iterate 12 refine Stp ?_
   refine ZV (.inr rfl) (.tmp rfl .nil) (fun w hw=>?_)
   obtain rfl:k=6:=by omega
   refine ⟨_,rfl,hw.c,?_⟩
   clear hw
   rw [List.take_of_length_le jC,← hHL]
   rfl
theorem IsL_ok (M:Mem) (l:ZF) (hl0:ZF.ok M l):Fs Tryz.prog 115 [l.enc] M (fun v=>v=Value.bool (decide (IsLt l.lt))):=by
  obtain ⟨ZK,⟨ZH,ZY⟩,Yd,l_id,⟨ZS,ZR,ZG⟩,ZX,⟨ZA,ZL⟩,⟨ZQ,ZP,ZB⟩⟩:=l
  have XM:SlK M (oneI .i64) 1 ⟨ZS,ZR,ZG⟩:=hl0.h0
  have s_l_avoid:SlM M ZS (ZG.map (oneI .i64)) 1:=XM.h1
  have n_l_avoid:(ZG.map (oneI .i64)).length=ZG.length:=List.length_map ..
  have m_l_avoid:ZG.length≤9223372036854775807:=XM.h2
  have c_l_avoid:ZG.length≤ZR:=XM.h3
  have YY:SlK M Zs.segs 21 ⟨ZQ,ZP,ZB⟩:=hl0.h1
  have Wq:SlM M ZQ (ZB.map Zs.segs) 21:=YY.h1
  have VS:(ZB.map Zs.segs).length=ZB.length:=List.length_map ..
  have m_l_peers:ZB.length≤9223372036854775807:=YY.h2
  have VT:ZB.length≤ZP:=YY.h3
  refine Xe Tryz.func115 rfl Tryz.ntmps115 rfl ?_;intro H
  iterate 2 refine Stp ?_
  refine Xq ?_;intro b1
  iterate 5 refine Stp ?_
  refine Zi F.foff128_0 ?_;refine Zy F.lay3 ?_;refine X_fs rfl rfl F.ok112 rfl (parts_ok _ _) rfl ?_
  rintro _ rfl
  iterate 8 refine Stp ?_
  refine Yg (l:=[0,1,2,3,4]) #[0,1,0,7,15] _ rfl jI jI St.drawn (fun _ h=>h) ?_;refine Zi F.foff128_6 ?_;refine Zy F.lay38 ?_;refine X_fs rfl rfl F.ok78 rfl (Vp _) rfl ?_
  rintro _ rfl
  refine XI 14 rfl (show _=aggV [.one (.int .i64 (-1)),Yb 0] from rfl) ?_
  refine VE (m:=20) rfl rfl rfl rfl rfl jG jG F.lay38 F.kinds38 rfl F.guard38 jS jS rfl rfl rfl ?_;intro c2 he3
  replace he3:c2=true↔Segs.cells _=Segs.cells _:=he3
  obtain rfl:=eqD he3 (Zs.inj (x:=⟨_,_⟩) (y:=⟨_,_⟩));clear he3
  iterate 10 refine Stp ?_
  refine Yt 19 rfl (fun hc4=>?_) (fun hc4=>?_)
  ·skip
   iterate 36 refine Stp ?_
   refine ZV (.inr rfl) (.tmp rfl .nil) (fun w hw=>?_)
   refine ⟨_,rfl,(hw.c),?_⟩
   clear hw
   show _=Value.bool (decide ((1≤ZK∧ZK≤8)∧Yo ZH∧ZG.length≤16∧ZB.length≤8∧((⟨ZA,ZL⟩:Zs)=YD∨Yo ZA)∧¬((⟨ZA,ZL⟩:Zs)=YD∧ZK=2)∧(VJ ZK∨Yd=0)∧(ZK=1∨l_id=0)∧(ZK=1∨ZG=[])∧(ZK=2∨ZX=false)∧(WY ZK∨(⟨ZA,ZL⟩:Zs)=YD)∧(Wx ZK∨ZB=[])∧(∀ a∈ZG,Yo a)∧∀ p∈ZB,Yo p.addr))
   refine congrArg Value.bool ?_
   refine (decide_eq_false (fun h9=>?_)).symm
   obtain ⟨g1,g2,g3,g4,g5,g6,g7,g8,g9,g10,g11,g12,g13,g14⟩:=h9
   have h7:=parts_yes (k:=ZK)
   (have h8:=h7.2 g1;simp_all;done)
  ·skip
   refine Zy F.lay128 ?_;refine X_fs rfl rfl F.ok170 rfl (used_ok _ ⟨ZK,⟨ZH,ZY⟩,Yd,l_id,⟨ZS,ZR,ZG⟩,ZX,⟨ZA,ZL⟩,⟨ZQ,ZP,ZB⟩⟩ hl0) rfl ?_
   rintro _ rfl
   refine Yk ?_;refine WR rfl rfl rfl rfl rfl rfl rfl ?_
   iterate 3 refine Stp ?_
   refine Yt 26 rfl (eT fun hc5=>?_) (eF fun hc5=>?_)
   ·simp only [Zs.eta,ZO.eta,ZJ.eta,ZF.eta,Ym.eta,Yv.eta,Yy.eta,Yq.eta,ZN.eta,YF.eta,ZU.eta] at hc5
    iterate 29 refine Stp ?_
    refine ZV (.inr rfl) (.tmp rfl .nil) (fun w hw=>?_)
    refine ⟨_,rfl,(hw.c),?_⟩
    clear hw
    show _=Value.bool (decide ((1≤ZK∧ZK≤8)∧Yo ZH∧ZG.length≤16∧ZB.length≤8∧((⟨ZA,ZL⟩:Zs)=YD∨Yo ZA)∧¬((⟨ZA,ZL⟩:Zs)=YD∧ZK=2)∧(VJ ZK∨Yd=0)∧(ZK=1∨l_id=0)∧(ZK=1∨ZG=[])∧(ZK=2∨ZX=false)∧(WY ZK∨(⟨ZA,ZL⟩:Zs)=YD)∧(Wx ZK∨ZB=[])∧(∀ a∈ZG,Yo a)∧∀ p∈ZB,Yo p.addr))
    refine congrArg Value.bool ?_
    refine (decide_eq_false (fun h9=>?_)).symm
    obtain ⟨g1,g2,g3,g4,g5,g6,g7,g8,g9,g10,g11,g12,g13,g14⟩:=h9
    have hp8:(VA ZK).2=true:=by first|assumption|(have h9:(!(VA ZK).2)=false:=jE;simpa using h9)
    exact absurd ((used_parts hp8 _ _ _ _ _ _).2 ⟨g7.imp id (fun h=>by simp [h]),g8.imp id (fun h=>by simp [h]),g9.imp id (fun h=>by simp [h]),g10,g11.imp id (fun h=>by simp [h]),g12.imp id (fun h=>by simp [h])⟩) (show ¬notK (TR (Sv (!decide (Yd=0)) (!decide (l_id=0)) (decide (0<(ZG.length:Int))) ZX (!decide ((⟨ZA,ZL⟩:Zs)=YD)) (decide (0<(ZB.length:Int))))) (VA ZK).1=0 by assumption)
   ·simp only [Zs.eta,ZO.eta,ZJ.eta,ZF.eta,Ym.eta,Yv.eta,Yy.eta,Yq.eta,ZN.eta,YF.eta,ZU.eta] at hc5
    refine Zi F.foff128_1 ?_;refine Zi F.foff38_0 ?_;refine Zy F.lay3 ?_;refine X_fs rfl rfl F.ok171 rfl (lodd_ok _ _) rfl ?_
    rintro _ rfl
    iterate 2 refine Stp ?_
    refine Yt 32 rfl (cT fun hc6=>?_) (cF fun hc6=>?_)
    ·iterate 23 refine Stp ?_
     refine ZV (.inr rfl) (.tmp rfl .nil) (fun w hw=>?_)
     refine ⟨_,rfl,(hw.c),?_⟩
     clear hw
     show _=Value.bool (decide ((1≤ZK∧ZK≤8)∧Yo ZH∧ZG.length≤16∧ZB.length≤8∧((⟨ZA,ZL⟩:Zs)=YD∨Yo ZA)∧¬((⟨ZA,ZL⟩:Zs)=YD∧ZK=2)∧(VJ ZK∨Yd=0)∧(ZK=1∨l_id=0)∧(ZK=1∨ZG=[])∧(ZK=2∨ZX=false)∧(WY ZK∨(⟨ZA,ZL⟩:Zs)=YD)∧(Wx ZK∨ZB=[])∧(∀ a∈ZG,Yo a)∧∀ p∈ZB,Yo p.addr))
     refine congrArg Value.bool ?_
     refine (decide_eq_false (fun h9=>?_)).symm
     obtain ⟨g1,g2,g3,g4,g5,g6,g7,g8,g9,g10,g11,g12,g13,g14⟩:=h9
     contradiction
    ·simp only [Classical.not_not] at hc6
     refine Zi F.foff128_4 ?_;refine Zy F.lay32 ?_;refine YA F.elem32 ?_
     iterate 3 refine Stp ?_
     refine Yt 38 rfl (cT fun hc7=>?_) (cF fun hc7=>?_)
     ·iterate 17 refine Stp ?_
      refine ZV (.inr rfl) (.tmp rfl .nil) (fun w hw=>?_)
      refine ⟨_,rfl,(hw.c),?_⟩
      clear hw
      show _=Value.bool (decide ((1≤ZK∧ZK≤8)∧Yo ZH∧ZG.length≤16∧ZB.length≤8∧((⟨ZA,ZL⟩:Zs)=YD∨Yo ZA)∧¬((⟨ZA,ZL⟩:Zs)=YD∧ZK=2)∧(VJ ZK∨Yd=0)∧(ZK=1∨l_id=0)∧(ZK=1∨ZG=[])∧(ZK=2∨ZX=false)∧(WY ZK∨(⟨ZA,ZL⟩:Zs)=YD)∧(Wx ZK∨ZB=[])∧(∀ a∈ZG,Yo a)∧∀ p∈ZB,Yo p.addr))
      refine congrArg Value.bool ?_
      refine (decide_eq_false (fun h9=>?_)).symm
      obtain ⟨g1,g2,g3,g4,g5,g6,g7,g8,g9,g10,g11,g12,g13,g14⟩:=h9
      omega
     ·refine Zi F.foff128_7 ?_
      refine Zy F.lay39 ?_;refine YA F.elem39 ?_
      iterate 5 refine Stp ?_
      refine ZW rfl (cT fun hc8=>?_) (cF fun hc8=>?_)
      ·iterate 8 refine Stp ?_
       refine ZV (.inr rfl) (.tmp rfl .nil) (fun w hw=>?_)
       refine ⟨_,rfl,(hw.c),?_⟩
       clear hw
       show _=Value.bool (decide ((1≤ZK∧ZK≤8)∧Yo ZH∧ZG.length≤16∧ZB.length≤8∧((⟨ZA,ZL⟩:Zs)=YD∨Yo ZA)∧¬((⟨ZA,ZL⟩:Zs)=YD∧ZK=2)∧(VJ ZK∨Yd=0)∧(ZK=1∨l_id=0)∧(ZK=1∨ZG=[])∧(ZK=2∨ZX=false)∧(WY ZK∨(⟨ZA,ZL⟩:Zs)=YD)∧(Wx ZK∨ZB=[])∧(∀ a∈ZG,Yo a)∧∀ p∈ZB,Yo p.addr))
       refine congrArg Value.bool ?_
       refine (decide_eq_false (fun h9=>?_)).symm
       obtain ⟨g1,g2,g3,g4,g5,g6,g7,g8,g9,g10,g11,g12,g13,g14⟩:=h9
       omega
      ·iterate 4 refine Stp ?_
       refine Yt 46 rfl (cT fun hc9=>?_) (cF fun hc9=>?_)
       ·refine Zi F.foff128_0 ?_
        refine Zy F.lay3 ?_
        iterate 3 refine Stp ?_
        refine Yt 51 rfl (cT fun hc10=>?_) (cF fun hc10=>?_)
        ·iterate 21 refine Stp ?_
         refine ZV (.inr rfl) (.tmp rfl .nil) (fun w hw=>?_)
         refine ⟨_,rfl,(hw.c),?_⟩
         clear hw
         show _=Value.bool (decide ((1≤ZK∧ZK≤8)∧Yo ZH∧ZG.length≤16∧ZB.length≤8∧((⟨ZA,ZL⟩:Zs)=YD∨Yo ZA)∧¬((⟨ZA,ZL⟩:Zs)=YD∧ZK=2)∧(VJ ZK∨Yd=0)∧(ZK=1∨l_id=0)∧(ZK=1∨ZG=[])∧(ZK=2∨ZX=false)∧(WY ZK∨(⟨ZA,ZL⟩:Zs)=YD)∧(Wx ZK∨ZB=[])∧(∀ a∈ZG,Yo a)∧∀ p∈ZB,Yo p.addr))
         refine congrArg Value.bool ?_
         refine (decide_eq_false (fun h9=>?_)).symm
         obtain ⟨g1,g2,g3,g4,g5,g6,g7,g8,g9,g10,g11,g12,g13,g14⟩:=h9
         (simp_all [Yo];done)
        ·iterate 3 refine Stp ?_
         refine Yt 54 rfl (eT fun hc11=>?_) (eF fun hc11=>?_)
         ·contradiction
         ·iterate 15 refine Stp ?_
          refine Zi F.foff128_4 ?_;refine Zy F.lay32 ?_;refine X_fo rfl rfl F.ok42 rfl ((ContainsFI_rd M [] ⟨ZS,ZR,ZG⟩ 171 [] (fun a=>decide (¬(0≤a∧a≤999))) (s_l_avoid.rd []) m_l_avoid F.ok171 (fun x hx=>(lodd_ok M x).foE []))) jA (ZT rfl) ?_
          rintro _ M1 _ ⟨hM1,rfl⟩;subst M1
          iterate 2 refine Stp ?_
          refine Yt 65 rfl (fun hc14=>?_) (fun hc14=>?_)
          ·skip
           simp only [Zs.eta,ZO.eta,ZJ.eta,ZF.eta,Ym.eta,Yv.eta,Yy.eta,Yq.eta,ZN.eta,YF.eta,ZU.eta] at hc14
           refine Zi F.foff128_7 ?_;refine Zy F.lay39 ?_;refine X_fo rfl rfl F.ok81 rfl ((ContainsFP_rd M [] ⟨ZQ,ZP,ZB⟩ 172 [] (fun p=>decide (¬Yo p.addr)) (Wq.rd []) m_l_peers F.ok172 (fun x hx=>(loddP_ok M x).foE []))) jA (ZT rfl) ?_
           rintro _ M1 _ ⟨hM1,rfl⟩;subst M1
           iterate 6 refine Stp ?_
           refine ZV (.inr rfl) (.tmp rfl .nil) (fun w hw=>?_)
           refine ⟨_,rfl,(hw.c),?_⟩
           clear hw
           have hp8:(VA ZK).2=true:=by first|assumption|(have h9:(!(VA ZK).2)=false:=jE;simpa using h9)
           have hp9:=parts_yes.1 hp8
           have hu9:=(used_parts hp8 _ _ _ _ _ _).1 (show notK (TR (Sv (!decide (Yd=0)) (!decide (l_id=0)) (decide (0<(ZG.length:Int))) ZX (!decide ((⟨ZA,ZL⟩:Zs)=YD)) (decide (0<(ZB.length:Int))))) (VA ZK).1=0 by assumption)
           simp only [decide_eq_false_iff_not,Bool.not_eq_false',decide_eq_true_eq] at hu9
           obtain ⟨u1,u2,u3,u4,u5,u6⟩:=hu9
           have u3:ZK=1∨ZG=[]:=u3.imp id (fun h=>List.eq_nil_of_length_eq_zero jC)
           have u6:Wx ZK∨ZB=[]:=u6.imp id (fun h=>List.eq_nil_of_length_eq_zero jC)
           show _=Value.bool (decide ((1≤ZK∧ZK≤8)∧Yo ZH∧ZG.length≤16∧ZB.length≤8∧((⟨ZA,ZL⟩:Zs)=YD∨Yo ZA)∧¬((⟨ZA,ZL⟩:Zs)=YD∧ZK=2)∧(VJ ZK∨Yd=0)∧(ZK=1∨l_id=0)∧(ZK=1∨ZG=[])∧(ZK=2∨ZX=false)∧(WY ZK∨(⟨ZA,ZL⟩:Zs)=YD)∧(Wx ZK∨ZB=[])∧(∀ a∈ZG,Yo a)∧∀ p∈ZB,Yo p.addr))
           refine congrArg Value.bool ?_
           have h6:=any_odd (l:=ZG)
           have h7:=any_oddP (l:=ZB)
           have hA:(ZG.any fun a=>decide (¬(0≤a∧a≤999)))=false:=by first|assumption|(simp_all;done)
           obtain ⟨C,hC⟩:∃ b,(ZB.any fun p=>decide (¬Yo p.addr))=b:=⟨_,rfl⟩
           rw [hC] at h7 ⊢
           have hpe:(⟨ZA,ZL⟩:Zs)=YD∨Yo ZA:=by first|exact .inl jE|exact .inr ⟨by omega,by omega⟩|(simp_all;done)
           have hf2:¬((⟨ZA,ZL⟩:Zs)=YD∧ZK=2):=by first|(rintro ⟨q1,q2⟩;first|contradiction|omega|(simp_all;done))
           cases C
           ·exact (decide_eq_true ⟨hp9,⟨by omega,by omega⟩,by omega,by omega,hpe,hf2,u1,u2,u3,u4,u5,u6,h6.1 hA,h7.1 rfl⟩).symm
           ·exact (decide_eq_false (fun h9=>by have h8:=h7.2 h9.2.2.2.2.2.2.2.2.2.2.2.2.2;cases h8)).symm
          ·skip
           simp only [Zs.eta,ZO.eta,ZJ.eta,ZF.eta,Ym.eta,Yv.eta,Yy.eta,Yq.eta,ZN.eta,YF.eta,ZU.eta] at hc14
           iterate 9 refine Stp ?_
           refine ZV (.inr rfl) (.tmp rfl .nil) (fun w hw=>?_)
           refine ⟨_,rfl,(hw.c),?_⟩
           clear hw
           show _=Value.bool (decide ((1≤ZK∧ZK≤8)∧Yo ZH∧ZG.length≤16∧ZB.length≤8∧((⟨ZA,ZL⟩:Zs)=YD∨Yo ZA)∧¬((⟨ZA,ZL⟩:Zs)=YD∧ZK=2)∧(VJ ZK∨Yd=0)∧(ZK=1∨l_id=0)∧(ZK=1∨ZG=[])∧(ZK=2∨ZX=false)∧(WY ZK∨(⟨ZA,ZL⟩:Zs)=YD)∧(Wx ZK∨ZB=[])∧(∀ a∈ZG,Yo a)∧∀ p∈ZB,Yo p.addr))
           refine congrArg Value.bool ?_
           refine (decide_eq_false (fun h9=>?_)).symm
           obtain ⟨g1,g2,g3,g4,g5,g6,g7,g8,g9,g10,g11,g12,g13,g14⟩:=h9
           have h6:=(any_odd (l:=ZG)).2 g13
           have hq:(ZG.any fun a=>decide (¬(0≤a∧a≤999)))=true:=by first|assumption|(have h9:(!(ZG.any fun a=>decide (¬(0≤a∧a≤999))))=false:=jE;simpa using h9)
           exact Bool.noConfusion (h6.symm.trans hq)
       ·iterate 8 refine Stp ?_
        refine Yt 54 rfl (eT fun hc15=>?_) (eF fun hc15=>?_)
        ·refine Zi F.foff128_6 ?_
         refine Zi F.foff38_0 ?_;refine Zy F.lay3 ?_;refine X_fs rfl rfl F.ok171 rfl (lodd_ok _ _) rfl ?_
         rintro _ rfl
         iterate 5 refine Stp ?_
         refine ZW rfl (cT fun hc16=>?_) (cF fun hc16=>?_)
         ·iterate 8 refine Stp ?_
          refine ZV (.inr rfl) (.tmp rfl .nil) (fun w hw=>?_)
          refine ⟨_,rfl,(hw.c),?_⟩
          clear hw
          show _=Value.bool (decide ((1≤ZK∧ZK≤8)∧Yo ZH∧ZG.length≤16∧ZB.length≤8∧((⟨ZA,ZL⟩:Zs)=YD∨Yo ZA)∧¬((⟨ZA,ZL⟩:Zs)=YD∧ZK=2)∧(VJ ZK∨Yd=0)∧(ZK=1∨l_id=0)∧(ZK=1∨ZG=[])∧(ZK=2∨ZX=false)∧(WY ZK∨(⟨ZA,ZL⟩:Zs)=YD)∧(Wx ZK∨ZB=[])∧(∀ a∈ZG,Yo a)∧∀ p∈ZB,Yo p.addr))
          refine congrArg Value.bool ?_
          refine (decide_eq_false (fun h9=>?_)).symm
          obtain ⟨g1,g2,g3,g4,g5,g6,g7,g8,g9,g10,g11,g12,g13,g14⟩:=h9
          (rcases g5 with g5|⟨g51,g52⟩ <;> first|contradiction|omega|(simp_all [YD];done))
         ·simp only [Classical.not_not] at hc16
          iterate 5 refine Stp ?_
          refine Zi F.foff128_4 ?_;refine Zy F.lay32 ?_;refine X_fo rfl rfl F.ok42 rfl ((ContainsFI_rd M [] ⟨ZS,ZR,ZG⟩ 171 [] (fun a=>decide (¬(0≤a∧a≤999))) (s_l_avoid.rd []) m_l_avoid F.ok171 (fun x hx=>(lodd_ok M x).foE []))) jA (ZT rfl) ?_
          rintro _ M1 _ ⟨hM1,rfl⟩;subst M1
          iterate 2 refine Stp ?_
          refine Yt 65 rfl (fun hc17=>?_) (fun hc17=>?_)
          ·skip
           simp only [Zs.eta,ZO.eta,ZJ.eta,ZF.eta,Ym.eta,Yv.eta,Yy.eta,Yq.eta,ZN.eta,YF.eta,ZU.eta] at hc17
           refine Zi F.foff128_7 ?_;refine Zy F.lay39 ?_;refine X_fo rfl rfl F.ok81 rfl ((ContainsFP_rd M [] ⟨ZQ,ZP,ZB⟩ 172 [] (fun p=>decide (¬Yo p.addr)) (Wq.rd []) m_l_peers F.ok172 (fun x hx=>(loddP_ok M x).foE []))) jA (ZT rfl) ?_
           rintro _ M1 _ ⟨hM1,rfl⟩;subst M1
           iterate 6 refine Stp ?_
           refine ZV (.inr rfl) (.tmp rfl .nil) (fun w hw=>?_)
           refine ⟨_,rfl,(hw.c),?_⟩
           clear hw
           have hp8:(VA ZK).2=true:=by first|assumption|(have h9:(!(VA ZK).2)=false:=jE;simpa using h9)
           have hp9:=parts_yes.1 hp8
           have hu9:=(used_parts hp8 _ _ _ _ _ _).1 (show notK (TR (Sv (!decide (Yd=0)) (!decide (l_id=0)) (decide (0<(ZG.length:Int))) ZX (!decide ((⟨ZA,ZL⟩:Zs)=YD)) (decide (0<(ZB.length:Int))))) (VA ZK).1=0 by assumption)
           simp only [decide_eq_false_iff_not,Bool.not_eq_false',decide_eq_true_eq] at hu9
           obtain ⟨u1,u2,u3,u4,u5,u6⟩:=hu9
           have u3:ZK=1∨ZG=[]:=u3.imp id (fun h=>List.eq_nil_of_length_eq_zero jC)
           have u6:Wx ZK∨ZB=[]:=u6.imp id (fun h=>List.eq_nil_of_length_eq_zero jC)
           show _=Value.bool (decide ((1≤ZK∧ZK≤8)∧Yo ZH∧ZG.length≤16∧ZB.length≤8∧((⟨ZA,ZL⟩:Zs)=YD∨Yo ZA)∧¬((⟨ZA,ZL⟩:Zs)=YD∧ZK=2)∧(VJ ZK∨Yd=0)∧(ZK=1∨l_id=0)∧(ZK=1∨ZG=[])∧(ZK=2∨ZX=false)∧(WY ZK∨(⟨ZA,ZL⟩:Zs)=YD)∧(Wx ZK∨ZB=[])∧(∀ a∈ZG,Yo a)∧∀ p∈ZB,Yo p.addr))
           refine congrArg Value.bool ?_
           have h6:=any_odd (l:=ZG)
           have h7:=any_oddP (l:=ZB)
           have hA:(ZG.any fun a=>decide (¬(0≤a∧a≤999)))=false:=by first|assumption|(simp_all;done)
           obtain ⟨C,hC⟩:∃ b,(ZB.any fun p=>decide (¬Yo p.addr))=b:=⟨_,rfl⟩
           rw [hC] at h7 ⊢
           have hpe:(⟨ZA,ZL⟩:Zs)=YD∨Yo ZA:=by first|exact .inl jE|exact .inr ⟨by omega,by omega⟩|(simp_all;done)
           have hf2:¬((⟨ZA,ZL⟩:Zs)=YD∧ZK=2):=by first|(rintro ⟨q1,q2⟩;first|contradiction|omega|(simp_all;done))
           cases C
           ·exact (decide_eq_true ⟨hp9,⟨by omega,by omega⟩,by omega,by omega,hpe,hf2,u1,u2,u3,u4,u5,u6,h6.1 hA,h7.1 rfl⟩).symm
           ·exact (decide_eq_false (fun h9=>by have h8:=h7.2 h9.2.2.2.2.2.2.2.2.2.2.2.2.2;cases h8)).symm
          ·skip
           simp only [Zs.eta,ZO.eta,ZJ.eta,ZF.eta,Ym.eta,Yv.eta,Yy.eta,Yq.eta,ZN.eta,YF.eta,ZU.eta] at hc17
           iterate 9 refine Stp ?_
           refine ZV (.inr rfl) (.tmp rfl .nil) (fun w hw=>?_)
           refine ⟨_,rfl,(hw.c),?_⟩
           clear hw
           show _=Value.bool (decide ((1≤ZK∧ZK≤8)∧Yo ZH∧ZG.length≤16∧ZB.length≤8∧((⟨ZA,ZL⟩:Zs)=YD∨Yo ZA)∧¬((⟨ZA,ZL⟩:Zs)=YD∧ZK=2)∧(VJ ZK∨Yd=0)∧(ZK=1∨l_id=0)∧(ZK=1∨ZG=[])∧(ZK=2∨ZX=false)∧(WY ZK∨(⟨ZA,ZL⟩:Zs)=YD)∧(Wx ZK∨ZB=[])∧(∀ a∈ZG,Yo a)∧∀ p∈ZB,Yo p.addr))
           refine congrArg Value.bool ?_
           refine (decide_eq_false (fun h9=>?_)).symm
           obtain ⟨g1,g2,g3,g4,g5,g6,g7,g8,g9,g10,g11,g12,g13,g14⟩:=h9
           have h6:=(any_odd (l:=ZG)).2 g13
           have hq:(ZG.any fun a=>decide (¬(0≤a∧a≤999)))=true:=by first|assumption|(have h9:(!(ZG.any fun a=>decide (¬(0≤a∧a≤999))))=false:=jE;simpa using h9)
           exact Bool.noConfusion (h6.symm.trans hq)
        ·contradiction
theorem F.foff44_11:foff Tryz.prog 44 11=some 54:=by kernel_rfl
theorem F.foff44_12:foff Tryz.prog 44 12=some 55:=by kernel_rfl
theorem F.foff44_5:foff Tryz.prog 44 5=some 48:=by kernel_rfl
theorem F.foff44_7:foff Tryz.prog 44 7=some 50:=by kernel_rfl
theorem F.foff44_9:foff Tryz.prog 44 9=some 52:=by kernel_rfl
theorem F.ok17:okFn Tryz.prog 17=true:=by kernel_rfl
end Go.Proofs.YtglnjnacodgmaaaGreatDoor
namespace Go.Esp
def TF (l:List Int) (a:Int):List Int:=if a∈l∨16≤l.length then l else l++[a]
theorem shunN_l (n:Nd) (a:Int):TY n a={ n with avoid:=TF n.avoid a }:=by
  unfold TY TF
  split <;> rfl
theorem nx_w64 (r:Int):w64 (r+1)=nxR r:=by
  unfold nxR w64
  rfl
theorem first_at {t:Tb} (h:0<t.succ.length):Xy t=t.succ[0]:=by
  obtain ⟨a,b,su,f⟩:=t
  match su,h with
  | p::l,_=>rfl
theorem stab_alone {n:Nd} {l:List Int} (hj:n.joined=false) (hl:l=if n.findTo≠-1∧n.findTo≠n.boot then TF n.avoid n.findTo else n.avoid):TA n=SA { n with findID:=n.table.self.id,hops:=0,avoid:=l } n.boot:=by
  subst hl
  unfold TA
  rw [if_pos hj]
  by_cases h:n.findTo≠-1∧n.findTo≠n.boot
  · simp only [if_pos h,shunN_l]
  · simp only [if_neg h]
theorem stab_joined {n m m2:Nd} (hj:n.joined=true) (h1:m=if n.askTo≠-1 then { n with table:=XK n.table n.askTo,askTo:=-1 } else n) (h2:m2=if m.table.succ=[]∧m.table.pred≠YD then WG m m.table.pred [] else m) :
    TA n=if m2.table.succ=[] then (m2,[]) else ({ m2 with req:=nxR m2.req,askTo:=(Xy m2.table).addr,askReq:=nxR m2.req },[⟨(Xy m2.table).addr,lett m2 3 (nxR m2.req)⟩]):=by
  subst h1 h2
  unfold TA
  rw [if_neg (by rw [hj];decide)]
theorem fix_eq {n m:Nd} {id:Plc} (hj:n.joined=true) (hm:m=if n.findTo=-1 then { n with avoid:=[] } else { n with avoid:=TF n.avoid n.findTo,table:=XK n.table n.findTo,findTo:=-1 }) (hid:id=m.table.self.id+powP m.cursor.toNat) :
    fixN n=if (Th m.table id).2 then (Tf m (Th m.table id).1,[]) else if (Ww m.table id m.avoid).2=false then ({ m with cursor:=0 },[]) else SA { m with findID:=id,hops:=0 } (Ww m.table id m.avoid).1.addr:=by
  subst hid hm
  unfold fixN
  rw [if_neg (by rw [hj];decide)]
  by_cases h:n.findTo=-1
  · simp only [if_pos h]
  · simp only [if_neg h,shunN_l]
theorem forget_big {t9 t:Tb} {a:Int} (h:t9=XK t a) (hb:t.succ.length≤40∧t.fingers.length≤200):t9.succ.length≤40∧t9.fingers.length≤200:=by
  subst h
  unfold XK
  refine ⟨Nat.le_trans (List.length_filter_le _ _) hb.1,?_⟩
  simp only [List.length_map]
  exact hb.2
theorem check_nil {n m:Nd} (hm:m=if n.pingTo≠-1 then { n with table:=XK n.table n.pingTo,pingTo:=-1 } else n) (hl:To m.table=[]):Tg n=(m,[]):=by
  subst hm
  unfold Tg
  simp only
  rw [hl]
theorem check_cons {n m:Nd} {l:List Zs} {k:Nat} {a:Int} (hm:m=if n.pingTo≠-1 then { n with table:=XK n.table n.pingTo,pingTo:=-1 } else n) (hl:To m.table=l) (hk:k<l.length) (he:m.turn.toNat % l.length=k) (ha:a=l[k].addr) :
    Tg n=({ m with req:=nxR m.req,pingTo:=a,pingReq:=nxR m.req,turn:=(m.turn+1) % 1000000 },[⟨a,lett m 6 (nxR m.req)⟩]):=by
  subst hm
  unfold Tg
  simp only
  rw [hl]
  match l,hk,he,ha with
  | p::l,hk,he,ha =>
    have h:(((p::l)[(if n.pingTo≠-1 then { n with table:=XK n.table n.pingTo,pingTo:=-1 } else n).turn.toNat % (l.length+1)]?).getD YD).addr=a:=by
      rw [show l.length+1=(p::l).length from rfl,he,List.getElem?_eq_getElem hk,ha]
      rfl
    simp only [h]
theorem tick_yes {n:Nd} {k:Int} {r:Nd×List Snd} (h:IsNd n) (h1:1≤k∧k≤3) (hr:r=if k=1 then TA n else if k=2 then fixN n else Tg n):Uh n k=(r.1,r.2,0):=by
  subst hr
  unfold Uh
  rw [if_pos ⟨h,h1.1,h1.2⟩]
theorem tick_no {n:Nd} {k:Int} (h:¬(IsNd n∧1≤k∧k≤3)):Uh n k=(Nd.zero,[],1):=by
  unfold Uh
  rw [if_neg h]
def NtE (M:Mem) (v:Value) (X:Nd×List Snd×Int):Prop:=∃ (n9:ZJ) (o9:Sl Ym),v=.tuple #[n9.enc,o9.val,.int .i64 X.2.2]∧n9.nd=X.1∧sndl o9.l=X.2.1∧ZJ.ok M n9∧SlK M Ym.segs 68 o9∧∀ y∈o9.l,Ym.ok M y
end Go.Esp
namespace Go.Proofs.YtglnjnacodgmaaaGreatDoor
open Go.Esp
end Go.Proofs.YtglnjnacodgmaaaGreatDoor
namespace Go.Esp
theorem found_no {n:Nd} {l:Lt} (h:n.findTo≠l.frm.addr∨n.findReq≠l.req):UK n l=(n,[]):=if_pos h
theorem found_in {n:Nd} {l:Lt} (h1:n.findTo=l.frm.addr) (h2:n.findReq=l.req):UK n l =
    if l.done then (if n.joined=true∧(Xn n.table.self l.peer∨l.peer=n.table.self) then (Tf { n with findTo:=-1 } l.peer,[]) else if n.joined=false∧Xn n.table.self l.peer then ({ WG { n with findTo:=-1 } l.peer [] with joined:=true,cursor:=0,avoid:=[] },[]) else ({ n with findTo:=-1 },[]))
    else if ¬Xn n.table.self l.peer∨l.peer.addr∈n.avoid∨l.peer.addr=l.frm.addr∨32≤n.hops then ({ n with findTo:=-1 },[])
    else SA { n with hops:=n.hops+1 } l.peer.addr:=by
  unfold UK
  rw [if_neg (by rintro (h|h);exact h h1;exact h h2)]
theorem found_drop {n:Nd} {l:Lt} (h1:n.findTo=l.frm.addr) (h2:n.findReq=l.req) (h3:l.done=false) (h4:¬Xn n.table.self l.peer∨l.peer.addr∈n.avoid∨l.peer.addr=l.frm.addr∨32≤n.hops):UK n l=({ n with findTo:=-1 },[]):=by
  rw [found_in h1 h2,if_neg (by rw [h3];decide),if_pos h4]
theorem found_seek {n:Nd} {l:Lt} (h1:n.findTo=l.frm.addr) (h2:n.findReq=l.req) (h3:l.done=false) (h4:Xn n.table.self l.peer) (h5:l.peer.addr∉n.avoid) (h6:l.peer.addr≠l.frm.addr) (h7:¬32≤n.hops):UK n l=SA { n with hops:=n.hops+1 } l.peer.addr:=by
  rw [found_in h1 h2,if_neg (by rw [h3];decide),if_neg (by rintro (q|q|q|q);exact q h4;exact h5 q;exact h6 q;exact h7 q)]
theorem told_no {n:Nd} {l:Lt} (h:n.askTo≠l.frm.addr∨n.askReq≠l.req):TS n l=(n,[]):=if_pos h
theorem told_yes {n m q:Nd} {l:Lt} (h1:n.askTo=l.frm.addr) (h2:n.askReq=l.req) (hm:m=WG { n with askTo:=-1 } l.frm l.peers) (h3:Ta m.table l.peer) (hq:q=WG m l.peer (l.frm::l.peers)):TS n l=(q,[⟨(Xy q.table).addr,lett q 5 0⟩]):=by
  subst hm hq
  unfold TS
  rw [if_neg (by rintro (h|h);exact h h1;exact h h2)]
  simp only [if_pos h3]
theorem told_not {n m:Nd} {l:Lt} (h1:n.askTo=l.frm.addr) (h2:n.askReq=l.req) (hm:m=WG { n with askTo:=-1 } l.frm l.peers) (h3:¬Ta m.table l.peer):TS n l=(m,[⟨(Xy m.table).addr,lett m 5 0⟩]):=by
  subst hm
  unfold TS
  rw [if_neg (by rintro (h|h);exact h h1;exact h h2)]
  simp only [if_neg h3]
theorem adopt_not {n:Nd} {p:Zs} {l:List Zs} (h:¬Xn n.table.self p):WG n p l=n:=by
  have h2:VK n.table p l n.copies=(Tb.zero,1):=if_neg (by rintro ⟨_,q,_⟩;exact h q)
  unfold WG
  rw [h2]
  exact if_neg jJ
def byeT (n:Nd) (l:Lt):Tb:=if n.table.pred.addr=l.frm.addr then Ub (XK n.table l.frm.addr) l.peer else XK n.table l.frm.addr
theorem bye_yes {n m:Nd} {l:Lt} (hm:m={ n with table:=byeT n l }) (h1:(Xy n.table).addr=l.frm.addr) (h2:0<l.peers.length):byeN n l=WG m l.peers[0] (l.peers.drop 1):=by
  subst hm
  unfold byeN byeT
  match hl:l.peers,h2 with
  | p::ps,_=>simp only [if_pos h1,List.getElem_cons_zero,List.drop_succ_cons,List.drop_zero]
theorem bye_no {n m:Nd} {l:Lt} (hm:m={ n with table:=byeT n l }) (h:(Xy n.table).addr=l.frm.addr→∀ h:0<l.peers.length,¬Xn m.table.self l.peers[0]):byeN n l=m:=by
  by_cases h1:(Xy n.table).addr=l.frm.addr
  · by_cases h2:0<l.peers.length
    · rw [bye_yes hm h1 h2]
      exact adopt_not (h h1 h2)
    · have h3:l.peers=[]:=List.eq_nil_of_length_eq_zero jC
      subst hm
      unfold byeN byeT
      rw [h3]
  · subst hm
    unfold byeN byeT
    match hl:l.peers with
    | []=>rfl
    | p::ps=>simp only [if_neg h1]
theorem Uq {n:Nd} {l:Lt} (h:¬(IsNd n∧IsLt l)):VZ n l=(Nd.zero,[],1):=if_neg h
theorem take_not {n:Nd} {l:Lt} (h1:IsNd n) (h2:IsLt l) (h:¬Xn n.table.self l.frm):VZ n l=(n,[],0):=by
  unfold VZ
  rw [if_pos ⟨h1,h2⟩,if_pos h]
def Wu (n:Nd) (l:Lt):Nd×List Snd :=
  if l.kind=1 then (n,Sn n l)
  else if l.kind=2 then UK n l
  else if l.kind=3 then (n,if n.joined then [⟨l.frm.addr,{ lett n 4 l.req with peer:=n.table.pred,peers:=n.table.succ }⟩] else [])
  else if l.kind=4 then TS n l
  else if l.kind=5 then ({ n with table:=Ub n.table l.frm },[])
  else if l.kind=6 then (n,[⟨l.frm.addr,lett n 7 l.req⟩])
  else if l.kind=7 then (if n.pingTo=l.frm.addr∧n.pingReq=l.req then { n with pingTo:=-1 } else n,[])
  else (byeN n l,[])
theorem take_does {n:Nd} {l:Lt} (h1:IsNd n) (h2:IsLt l) (h:Xn n.table.self l.frm):VZ n l=((Wu n l).1,(Wu n l).2,0):=by
  unfold VZ Wu
  rw [if_pos ⟨h1,h2⟩,if_neg (fun q=>q h)]
  split
  · rfl
  split
  · rfl
  split
  · rfl
  split
  · rfl
  split
  · rfl
  split
  · rfl
  split <;> rfl
def LvE (M:Mem) (v:Value) (X:List Snd×Int):Prop:=∃ o9:Sl Ym,v=.tuple #[o9.val,.int .i64 X.2]∧sndl o9.l=X.1∧SlK M Ym.segs 68 o9∧∀ y∈o9.l,Ym.ok M y
def NeE (M:Mem) (v:Value) (X:Nd×Int):Prop:=∃ n9:ZJ,v=.tuple #[n9.enc,.int .i64 X.2]∧n9.nd=X.1∧ZJ.ok M n9
theorem leave_odd {n:Nd} (h:¬IsNd n):TL n=([],1):=if_neg h
theorem leave_is {n:Nd} {a b:List Snd} (h:IsNd n) (ha:(n.table.succ=[]∧a=[])∨∃ h:0<n.table.succ.length,a=[⟨n.table.succ[0].addr,{ lett n 8 0 with peer:=n.table.pred,peers:=n.table.succ }⟩])
    (hb:((n.table.pred=YD∨n.table.pred=Xy n.table)∧b=[])∨((n.table.pred≠YD∧n.table.pred≠Xy n.table)∧b=[⟨n.table.pred.addr,{ lett n 8 0 with peer:=n.table.pred,peers:=n.table.succ }⟩])):TL n=(a++b,0):=by
  have e1:a=if n.table.succ=[] then [] else [⟨(Xy n.table).addr,{ lett n 8 0 with peer:=n.table.pred,peers:=n.table.succ }⟩]:=by
    rcases ha with ⟨h1,h2⟩|⟨h1,h2⟩
    · rw [if_pos h1,h2]
    · rw [if_neg (fun q=>by rw [q] at h1;exact absurd h1 jJ),h2,first_at h1]
  have e2:b=if n.table.pred≠YD∧n.table.pred≠Xy n.table then [⟨n.table.pred.addr,{ lett n 8 0 with peer:=n.table.pred,peers:=n.table.succ }⟩] else []:=by
    rcases hb with ⟨h1,h2⟩|⟨h1,h2⟩
    · rw [if_neg (fun q=>h1.elim q.1 q.2),h2]
    · rw [if_pos h1,h2]
  subst e1 e2
  exact if_pos h
theorem alone_no {s:Zs} {r:Int} (h:¬(Yo s.addr∧1≤r∧r≤8)):Uw s r=(Nd.zero,1):=if_neg h
theorem alone_is {s:Zs} {r:Int} (h:Yo s.addr∧1≤r∧r≤8):Uw s r=(⟨(newT s).1,r,true,-1,0,0,-1,0,-1,0,-1,0,0,[],0,0⟩,0):=if_pos h
theorem new_ok {s:Zs}:(newT s).2=0↔Yo s.addr:=by
  unfold newT
  split <;> simp_all
theorem joining_no {s:Zs} {r b:Int} (h:¬((Uw s r).2=0∧Yo b∧b≠s.addr)):UT s r b=(Nd.zero,1):=if_neg h
theorem joining_is {s:Zs} {r b:Int} (h:(Uw s r).2=0∧Yo b∧b≠s.addr):UT s r b=({ (Uw s r).1 with joined:=false,boot:=b },0):=if_pos h
theorem does1 {n:Nd} {l:Lt} (h:l.kind=1):Wu n l=(n,Sn n l):=if_pos h
theorem does2 {n:Nd} {l:Lt} (h:l.kind=2):Wu n l=UK n l:=by
  unfold Wu
  rw [if_neg jX,if_pos h]
theorem does3 {n:Nd} {l:Lt} (h:l.kind=3):Wu n l=(n,if n.joined then [⟨l.frm.addr,{ lett n 4 l.req with peer:=n.table.pred,peers:=n.table.succ }⟩] else []):=by
  unfold Wu
  rw [if_neg jX,if_neg jX,if_pos h]
theorem does3n {n:Nd} {l:Lt} (h:l.kind=3) (hj:n.joined=false):Wu n l=(n,[]):=by
  rw [does3 h,hj]
  rfl
theorem does3y {n:Nd} {l:Lt} (h:l.kind=3) (hj:n.joined=true):Wu n l=(n,[⟨l.frm.addr,{ lett n 4 l.req with peer:=n.table.pred,peers:=n.table.succ }⟩]):=by
  rw [does3 h,hj]
  rfl
theorem does4 {n:Nd} {l:Lt} (h:l.kind=4):Wu n l=TS n l:=by
  unfold Wu
  rw [if_neg jX,if_neg jX,if_neg jX,if_pos h]
theorem does5 {n:Nd} {l:Lt} {T:Tb} (h:l.kind=5) (hT:T=Ub n.table l.frm):Wu n l=({ n with table:=T },[]):=by
  subst hT
  unfold Wu
  rw [if_neg jX,if_neg jX,if_neg jX,if_neg jX,if_pos h]
theorem does6 {n:Nd} {l:Lt} (h:l.kind=6):Wu n l=(n,[⟨l.frm.addr,lett n 7 l.req⟩]):=by
  unfold Wu
  rw [if_neg jX,if_neg jX,if_neg jX,if_neg jX,if_neg jX,if_pos h]
theorem does7 {n:Nd} {l:Lt} (h:l.kind=7):Wu n l=(if n.pingTo=l.frm.addr∧n.pingReq=l.req then { n with pingTo:=-1 } else n,[]):=by
  unfold Wu
  rw [if_neg jX,if_neg jX,if_neg jX,if_neg jX,if_neg jX,if_neg jX,if_pos h]
theorem does7y {n:Nd} {l:Lt} (h:l.kind=7) (h1:n.pingTo=l.frm.addr∧n.pingReq=l.req):Wu n l=({ n with pingTo:=-1 },[]):=by
  rw [does7 h,if_pos h1]
theorem does7n {n:Nd} {l:Lt} (h:l.kind=7) (h1:¬(n.pingTo=l.frm.addr∧n.pingReq=l.req)):Wu n l=(n,[]):=by
  rw [does7 h,if_neg h1]
theorem does8 {n:Nd} {l:Lt} (h:l.kind=8):Wu n l=(byeN n l,[]):=by
  unfold Wu
  rw [if_neg jX,if_neg jX,if_neg jX,if_neg jX,if_neg jX,if_neg jX,if_neg jX]
end Go.Esp
namespace Go.Proofs.YtglnjnacodgmaaaGreatDoor
open Go.Esp
end Go.Proofs.YtglnjnacodgmaaaGreatDoor
namespace Go.Esp
abbrev IntV:=Int
theorem IntV.flat (x:Int):Esp.flat (oneI .i64 x):=Xw rfl Xx
def WkF (bw tw:Nat) (M:Mem) (Hout:Hp) (X:Nd×List Snd):Prop :=
  ∃ (n9:ZJ) (o9:Sl Ym),Hout=[(bw,rowO (ZN.segs ⟨n9,o9⟩) tw)]∧n9.nd=X.1∧sndl o9.l=X.2∧ZJ.ok M n9∧SlK M Ym.segs 68 o9∧∀ y∈o9.l,Ym.ok M y
theorem fh_frz {P:Program} {f:FuncId} {vs:List Value} {M:Mem} {Hin:Hp} {R R':Mem→Value→Hp→Prop} (h:Fh P f vs M Hin R) (hr:∀ M' v Hout H w,R M' v Hout→St M' (Hout++H) w→∃ M'' Hout',M'.le M''∧St M'' (Hout'++H) w∧R' M'' v Hout'):Fh P f vs M Hin R':=fun H w hw =>
  (h H w hw).mono fun _ w' ⟨v,M',Ho,he,hm,hs,h9⟩=>let ⟨M2,Ho2,h1,h2,h3⟩:=hr M' v Ho H w' h9 hs;⟨v,M2,Ho2,he,hm.trans h1,h2,h3⟩
def Tu (t:Tb) (a:Int):Tb×Int:=if a≠-1 then (XK t a,-1) else (t,a)
theorem lost_big {t9 t:Tb} {a:Int} (h:t9=(Tu t a).1) (hb:t.succ.length≤40∧t.fingers.length≤200):t9.succ.length≤40∧t9.fingers.length≤200:=by
  unfold Tu at h
  split at h
  · exact forget_big h hb
  · subst h;exact hb
theorem lost_ask {n:Nd} {t:Tb} {a:Int} (h:(t,a)=Tu n.table n.askTo):{ n with table:=t,askTo:=a }=if n.askTo≠-1 then { n with table:=XK n.table n.askTo,askTo:=-1 } else n:=by
  unfold Tu at h
  by_cases h1:n.askTo≠-1
  · rw [if_pos h1] at h ⊢
    cases h;rfl
  · rw [if_neg h1] at h ⊢
    cases h;rfl
theorem lost_ping {n:Nd} {t:Tb} {a:Int} (h:(t,a)=Tu n.table n.pingTo):{ n with table:=t,pingTo:=a }=if n.pingTo≠-1 then { n with table:=XK n.table n.pingTo,pingTo:=-1 } else n:=by
  unfold Tu at h
  by_cases h1:n.pingTo≠-1
  · rw [if_pos h1] at h ⊢
    cases h;rfl
  · rw [if_neg h1] at h ⊢
    cases h;rfl
theorem fix_nil {n:Nd} {t:Tb} {a:Int} (h:(t,a)=Tu n.table n.findTo) (h1:n.findTo=-1):{ n with table:=t,avoid:=[],findTo:=a }=if n.findTo=-1 then { n with avoid:=[] } else { n with avoid:=TF n.avoid n.findTo,table:=XK n.table n.findTo,findTo:=-1 }:=by
  unfold Tu at h
  rw [if_neg (fun q=>q h1)] at h
  rw [if_pos h1]
  cases h;rfl
theorem fix_shun {n:Nd} {t:Tb} {a:Int} {l:List Int} (h:(t,a)=Tu n.table n.findTo) (h1:n.findTo≠-1) (hl:l=TF n.avoid n.findTo):{ n with table:=t,avoid:=l,findTo:=a }=if n.findTo=-1 then { n with avoid:=[] } else { n with avoid:=TF n.avoid n.findTo,table:=XK n.table n.findTo,findTo:=-1 }:=by
  unfold Tu at h
  rw [if_pos h1] at h
  rw [if_neg h1]
  cases h;subst hl;rfl
theorem shun_len {l l9:List Int} {a:Int} {n:Nat} (h:l9=TF l a) (hl:l.length≤n):l9.length≤n+1:=by
  subst h
  unfold TF
  split
  · omega
  · rw [List.length_append]
    simp only [List.length_cons,List.length_nil]
    omega
theorem fix_out {n:Nd} (h:n.joined=false):fixN n=(n,[]):=if_pos h
def endN (n:Nd) (p:Zs):Nd :=
  if n.joined=true∧(Xn n.table.self p∨p=n.table.self) then Tf n p
  else if n.joined=false∧Xn n.table.self p then { WG n p [] with joined:=true,cursor:=0,avoid:=[] }
  else n
theorem end_point {n:Nd} {p:Zs} (h:n.joined=true) (h1:Xn n.table.self p∨p=n.table.self):endN n p=Tf n p:=if_pos ⟨h,h1⟩
theorem end_adopt {n m:Nd} {p:Zs} (h:n.joined=false) (h1:Xn n.table.self p) (hm:m=WG n p []):endN n p={ m with joined:=true,cursor:=0,avoid:=[] }:=by
  subst hm
  unfold endN
  rw [if_neg (by rw [h];simp),if_pos ⟨h,h1⟩]
theorem end_not {n:Nd} {p:Zs} (h:n.joined=true→¬Xn n.table.self p∧p≠n.table.self) (h1:n.joined=false→¬Xn n.table.self p):endN n p=n:=by
  unfold endN
  rw [if_neg (by rintro ⟨q1,q2|q2⟩;exact (h q1).1 q2;exact (h q1).2 q2),if_neg (by rintro ⟨q1,q2⟩;exact h1 q1 q2)]
theorem found_end {n:Nd} {l:Lt} (h1:n.findTo=l.frm.addr) (h2:n.findReq=l.req) (h3:l.done=true):UK n l=(endN { n with findTo:=-1 } l.peer,[]):=by
  rw [found_in h1 h2,if_pos h3]
  unfold endN
  by_cases h:n.joined=true∧(Xn n.table.self l.peer∨l.peer=n.table.self)
  · rw [if_pos h,if_pos h]
  · rw [if_neg h,if_neg h]
    by_cases h:n.joined=false∧Xn n.table.self l.peer
    · rw [if_pos h,if_pos h]
    · rw [if_neg h,if_neg h]
theorem first_ne {t:Tb} (h1:Xy t≠t.self):0<t.succ.length:=by
  obtain ⟨a,b,su,f⟩:=t
  match su,h1 with
  | [],h1=>exact absurd rfl h1
  | p::l,_=>exact Nat.succ_pos _
theorem first_eq {t:Tb} (h:IsTb t) (h1:Xy t=t.self):t.succ=[]:=by
  obtain ⟨a,b,su,f⟩:=t
  match su,h,h1 with
  | [],_,_=>rfl
  | p::l,h,h1 =>
    have h2:=(h.2.2.2.2.1.1 p (List.Mem.head _)).2.1
    exact absurd (congrArg Zs.addr h1) h2
theorem find_no {n:Nd} {l:Lt} (h:n.joined=false):Sn n l=[]:=if_pos h
theorem find_yes {n:Nd} {l:Lt} {d q:Zs×Bool} (h:n.joined=true) (hd:Th n.table l.id=d) (hq:Ww n.table l.id l.avoid=q):Sn n l=[⟨l.frm.addr,{ lett n 2 l.req with done:=d.2 || !q.2,peer:=if d.2 || !q.2 then d.1 else q.1 }⟩]:=by
  subst hd hq
  exact if_neg jX
def tickL (a b c:Nat):IM:=Uj (Uj (Uj [] 1 (.func (.func a) #[] #[])) 2 (.func (.func b) #[] #[])) 3 (.func (.func c) #[] #[])
theorem tickL1 {a b c:Nat}:(Wa (tickL a b c) 1).getD .nilFunc=.func (.func a) #[] #[]:=rfl
theorem tickL2 {a b c:Nat}:(Wa (tickL a b c) 2).getD .nilFunc=.func (.func b) #[] #[]:=rfl
theorem tickL3 {a b c:Nat}:(Wa (tickL a b c) 3).getD .nilFunc=.func (.func c) #[] #[]:=rfl
theorem tickL0 {a b c:Nat} {k:Int} (h:¬(1≤k∧k≤3)):(Wa (tickL a b c) k).getD .nilFunc=.nilFunc:=by
  show (Wa [(1,Value.func (.func a) #[] #[]),(2,.func (.func b) #[] #[]),(3,.func (.func c) #[] #[])] k).getD .nilFunc=.nilFunc
  simp only [Wa]
  rw [if_neg jC,if_neg jC,if_neg jC]
  rfl
theorem setParts_first {z r:Segs} {zs:List Segs} (h:Segs.len z=Segs.len r):Ur (z::zs) [(0,r)]=some (r::zs):=by
  have h1:=setPart_at [] z r zs h
  simp only [List.nil_append,List.length_nil] at h1
  unfold Ur
  rw [h1]
  rfl
theorem fh_thaw {α:Type} {T sz k cp:Nat} {f:α→Segs} {l:List α} {ad:Option Addr} {hs Hin:Hp} {P:Program} {g:FuncId} {vs:List Value} {M:Mem} {R:Mem→Value→Hp→Prop} (ho:OSl T sz (.slice ad k cp) hs (l.map f)) (h:∀ M',M.le M'→SlK M' f sz ⟨ad,cp,l⟩→Fh P g vs M' Hin R):Fh P g vs M (Hin++hs) R:=fun H w hw=>by
  obtain ⟨M',h1,h2,h3⟩:=ho.frz (H:=Hin++H) (hw.cnt (by intro zz;simp only [WI];omega))
  exact (h M' h1 h3 H w h2).mono fun e w' ⟨v,M2,Ho,he,hm,hs,hr⟩=>⟨v,M2,Ho,he,h1.trans hm,hs,hr⟩
end Go.Esp
namespace Go.Proofs.YtglnjnacodgmaaaGreatDoor
open Go.Esp
theorem F.bld128:Bld Tryz.prog 128 [[.one (.int .i64 0)],[.one (.int .i64 0),Yb 0],[.one (.int .u64 0)],[Yb 0],[.one (.slice none 0 0)],[.one (.bool false)],[.one (.int .i64 0),Yb 0],[.one (.slice none 0 0)]]:=by rw [TM];exact ⟨by kernel_rfl,by kernel_rfl⟩
theorem F.bld169:Bld Tryz.prog 169 [[.one (.int .i64 0)],[.one (.int .i64 0),.one (.int .i64 0),Yb 0,.one (.int .u64 0),Yb 0,.one (.slice none 0 0),.one (.bool false),.one (.int .i64 0),Yb 0,.one (.slice none 0 0)]]:=by rw [TM];exact ⟨by kernel_rfl,by kernel_rfl⟩
theorem F.elem121:slOf Tryz.prog 121=some (169,68,168):=by kernel_rfl
theorem F.foff166_0:foff Tryz.prog 166 0=some 0:=by kernel_rfl
theorem F.foff166_1:foff Tryz.prog 166 1=some 78:=by kernel_rfl
theorem F.lay121:lay Tryz.prog 121=some (false,1):=by kernel_rfl
theorem F.ok103:okFn Tryz.prog 103=true:=by kernel_rfl
theorem F.ok156:okFn Tryz.prog 156=true:=by kernel_rfl
theorem F.ok164:okFn Tryz.prog 164=true:=by kernel_rfl
theorem F.zero169:XW Tryz.prog 169=some (aggV [.one (.int .i64 0),.one (.int .i64 0),.one (.int .i64 0),Yb 0,.one (.int .u64 0),Yb 0,.one (.slice none 0 0),.one (.bool false),.one (.int .i64 0),Yb 0,.one (.slice none 0 0)]):=by rw [TM];kernel_rfl
theorem CloneI_nil (M:Mem) (c:Nat) (l:List IntV) (k:SlK M (oneI .i64) 1 ⟨none,c,l⟩) (hb:l.length≤1000000):Fh Tryz.prog 156 [.slice none l.length c] M [] (fun M' v Hout=>M'=M∧OSl 3 1 v Hout (l.map (oneI .i64))):=by
  have hl0:l=[]:=SlM.none_nil k.h1
  subst hl0
  have hl0:([]:List IntV).map (oneI .i64)=[]:=rfl
  refine Ui Tryz.func156 rfl Tryz.ntmps156 rfl ?_;intro H
  iterate 9 refine Stp ?_
  refine Tx Tryz.underlying32 ?_
  iterate 2 refine Stp ?_
  refine ZW rfl (fun hc1=>?_) (fun hc1=>?_)
  ·skip
   iterate 7 refine Stp ?_
   refine ZV (.inr rfl) (.tmp rfl .nil) (fun w hw=>?_)
   exact ⟨_,M,[],rfl,Mem.le.refl M,hw.c,rfl,by rw [hl0];exact OSl.nil⟩
  ·skip
   (exfalso;simp [eqX] at hc1;done)
theorem CloneI_some (M:Mem) (ad:Addr) (c:Nat) (l:List IntV) (k:SlK M (oneI .i64) 1 ⟨some ad,c,l⟩) (hb:l.length≤1000000):Fh Tryz.prog 156 [.slice (some ad) l.length c] M [] (fun M' v Hout=>M'=M∧OSl 3 1 v Hout (l.map (oneI .i64))):=by
  have hml:l.length=(l.map (oneI .i64)).length:=(List.length_map ..).symm
  refine Ui Tryz.func156 rfl Tryz.ntmps156 rfl ?_;intro H
  iterate 9 refine Stp ?_
  refine Tx Tryz.underlying32 ?_
  iterate 2 refine Stp ?_
  refine ZW rfl (fun hc1=>?_) (fun hc1=>?_)
  ·skip
   (exfalso;simp [eqX] at hc1;done)
  ·skip
   iterate 4 refine Stp ?_
   refine YS rfl rfl F.elem32 F.zero3 rfl rfl (.nil) rfl rfl jL rfl ?_;intro b2 hob3
   refine Yk ?_
   refine WT (m:=1000000) rfl rfl rfl rfl rfl F.elem32 F.zero3 jR rfl jE jA (SlM.src k.h1 (rows_one IntV.flat _) hml) jN jJ rfl ?_;intro v6 hs5 ho4;obtain ⟨adv6,cpv6,rfl⟩:=ho4.val
   iterate 4 refine Stp ?_
   refine ZV (.inr rfl) (.tmp rfl .nil) (fun w hw=>?_)
   exact ⟨_,M,_,rfl,Mem.le.refl M,hw.c,rfl,by assumption⟩
theorem CloneI_ok (M:Mem) (a:Option Addr) (c:Nat) (l:List IntV) (k:SlK M (oneI .i64) 1 ⟨a,c,l⟩) (hb:l.length≤1000000):Fh Tryz.prog 156 [.slice a l.length c] M [] (fun M' v Hout=>M'=M∧OSl 3 1 v Hout (l.map (oneI .i64))):=by
  cases a with
  |none=>exact CloneI_nil M c l k hb
  |some ad=>exact CloneI_some M ad c l k hb
theorem send_ok (M:Mem) (bw:Nat) (Za:Int) (Zd:Plc) (Zc:Int) (Zg:Plc) (Zk Zf Zp:Option Addr) (Zj Ze Zo:Nat) (Zh Zb:List Zs) (Zl:List Int) (Zr:Int) (Zq:Bool) (ZD Zx ZM Zz Zv Zt Zn Zw Zm:Int) (Zu:Plc) (ZC ZE:Int) (o_a:Option Addr) (o_c:Nat) (o_l:List Ym) (ho:Hp) (hO:OSl 169 68 (.slice o_a o_l.length o_c) ho (o_l.map Ym.segs)) (hL:o_l.length≤1000) (to:Int) (l:ZF):Fh Tryz.prog 103 [.pointer (some ⟨bw,0,none⟩),.int .i64 to,l.enc] M ((bw,rowO (ZN.segs ⟨⟨⟨⟨Za,Zd⟩,⟨Zc,Zg⟩,⟨Zk,Zj,Zh⟩,⟨Zf,Ze,Zb⟩⟩,Zr,Zq,ZD,Zx,ZM,Zz,Zv,Zt,Zn,Zw,Zm,Zu,⟨Zp,Zo,Zl⟩,ZC,ZE⟩,⟨o_a,o_c,o_l⟩⟩) 166)::ho) (fun M' v Hout=>M'=M∧v=.tuple #[]∧∃ (o9:Sl Ym) (ho9:Hp),Hout=(bw,rowO (ZN.segs ⟨⟨⟨⟨Za,Zd⟩,⟨Zc,Zg⟩,⟨Zk,Zj,Zh⟩,⟨Zf,Ze,Zb⟩⟩,Zr,Zq,ZD,Zx,ZM,Zz,Zv,Zt,Zn,Zw,Zm,Zu,⟨Zp,Zo,Zl⟩,ZC,ZE⟩,o9⟩) 166)::ho9∧OSl 169 68 o9.val ho9 (o9.l.map Ym.segs)∧o9.l=o_l++[⟨to,{ l with frm:=⟨Za,Zd⟩ }⟩]):=by
  obtain ⟨ZK,⟨ZH,ZY⟩,Yd,l_id,⟨ZS,ZR,ZG⟩,ZX,⟨ZA,ZL⟩,⟨ZQ,ZP,ZB⟩⟩:=l
  refine YR (fun H=>(bw,rowO (ZN.segs ⟨⟨⟨⟨Za,Zd⟩,⟨Zc,Zg⟩,⟨Zk,Zj,Zh⟩,⟨Zf,Ze,Zb⟩⟩,Zr,Zq,ZD,Zx,ZM,Zz,Zv,Zt,Zn,Zw,Zm,Zu,⟨Zp,Zo,Zl⟩,ZC,ZE⟩,⟨o_a,o_c,o_l⟩⟩) 166)::(ho++H)) (fun _=>by simp only [List.append_assoc,List.cons_append,List.nil_append]) Tryz.func103 rfl Tryz.ntmps103 rfl ?_;intro H
  iterate 2 refine Stp ?_
  refine Xq ?_;intro b1
  iterate 6 refine Stp ?_
  refine Zi F.foff166_0 ?_;refine Zi F.foff44_0 ?_;refine Zi F.foff41_0 ?_;refine Zy F.lay38 ?_;refine Zi F.foff128_1 ?_;refine Ya F.lay38 ?_
  iterate 2 refine Stp ?_
  refine Yg (l:=[0,1,2,3,4,5,6,7,8,9,10,11,12]) #[0,0,2,6,14,0,0,96,224,510,1023,2047,4095] _ rfl jI jI St.drawn (fun _ h=>h) ?_
  iterate 3 refine Stp ?_
  refine Zi F.foff166_1 ?_;refine Zy F.lay121 ?_;refine Yk ?_;refine Zy F.lay128 ?_;refine Xo rfl rfl F.bld169 (.cons rfl jG (.cons rfl jG .nil)) rfl rfl ?_
  refine YS rfl rfl F.elem121 F.zero169 rfl rfl (.cons rfl jG .nil) rfl rfl jL rfl ?_;intro b2 hob3
  refine WT (m:=1000000) rfl rfl rfl rfl rfl F.elem121 F.zero169 zL rfl jE jA (Src.own hob3.lens jO rfl jB) jN jJ rfl ?_;intro v6 hs5 ho4;obtain ⟨adv6,cpv6,rfl⟩:=ho4.valAt (n:=o_l.length+1) zK
  refine YT ?_;refine Zi F.foff166_1 ?_;refine Ya F.lay121 ?_;refine Xb ?_
  refine ZV (.inl rfl) (.nil) (fun w hw=>?_)
  have h9:=ho4
  have hln:o_l.length+1=(o_l++[(⟨to,(⟨ZK,⟨Za,Zd⟩,Yd,l_id,⟨ZS,ZR,ZG⟩,ZX,⟨ZA,ZL⟩,⟨ZQ,ZP,ZB⟩⟩:ZF)⟩:Ym)]).length:=by rw [List.length_append];rfl
  rw [hln] at hw h9
  refine ⟨_,M,(bw,rowO (ZN.segs ⟨⟨⟨⟨Za,Zd⟩,⟨Zc,Zg⟩,⟨Zk,Zj,Zh⟩,⟨Zf,Ze,Zb⟩⟩,Zr,Zq,ZD,Zx,ZM,Zz,Zv,Zt,Zn,Zw,Zm,Zu,⟨Zp,Zo,Zl⟩,ZC,ZE⟩,(⟨adv6,cpv6,o_l++[(⟨to,(⟨ZK,⟨Za,Zd⟩,Yd,l_id,⟨ZS,ZR,ZG⟩,ZX,⟨ZA,ZL⟩,⟨ZQ,ZP,ZB⟩⟩:ZF)⟩:Ym)]⟩:Sl Ym)⟩) 166)::hs5,rfl,Mem.le.refl M,?_,rfl,rfl,(⟨adv6,cpv6,o_l++[(⟨to,(⟨ZK,⟨Za,Zd⟩,Yd,l_id,⟨ZS,ZR,ZG⟩,ZX,⟨ZA,ZL⟩,⟨ZQ,ZP,ZB⟩⟩:ZF)⟩:Ym)]⟩:Sl Ym),hs5,rfl,?_,rfl⟩
  ·simp only [ZN.segs,Sl.val,List.length_nil] at hw ⊢
   exact hw.c
  ·exact OSl.as9 h9 (by rw [List.map_append];rfl)
theorem sendF_ok (M:Mem) (bw:Nat) (Za:Int) (Zd:Plc) (Zc:Int) (Zg:Plc) (Zk Zf Zp:Option Addr) (Zj Ze Zo:Nat) (Zh Zb:List Zs) (Zl:List Int) (Zr:Int) (Zq:Bool) (ZD Zx ZM Zz Zv Zt Zn Zw Zm:Int) (Zu:Plc) (ZC ZE:Int) (to:Int) (l:ZF):Fh Tryz.prog 103 [.pointer (some ⟨bw,0,none⟩),.int .i64 to,l.enc] M [(bw,rowO (ZN.segs ⟨⟨⟨⟨Za,Zd⟩,⟨Zc,Zg⟩,⟨Zk,Zj,Zh⟩,⟨Zf,Ze,Zb⟩⟩,Zr,Zq,ZD,Zx,ZM,Zz,Zv,Zt,Zn,Zw,Zm,Zu,⟨Zp,Zo,Zl⟩,ZC,ZE⟩,⟨none,0,[]⟩⟩) 166)] (fun M' v Hout=>v=.tuple #[]∧∃ (o9:Sl Ym),Hout=[(bw,rowO (ZN.segs ⟨⟨⟨⟨Za,Zd⟩,⟨Zc,Zg⟩,⟨Zk,Zj,Zh⟩,⟨Zf,Ze,Zb⟩⟩,Zr,Zq,ZD,Zx,ZM,Zz,Zv,Zt,Zn,Zw,Zm,Zu,⟨Zp,Zo,Zl⟩,ZC,ZE⟩,o9⟩) 166)]∧SlK M' Ym.segs 68 o9∧o9.l=[⟨to,{ l with frm:=⟨Za,Zd⟩ }⟩]):=by
  refine fh_frz (send_ok M bw _ _ _ _ _ _ _ _ _ _ _ _ _ _ _ _ _ _ _ _ _ _ _ _ _ _ _ none 0 [] [] OSl.nil jU to l) ?_
  rintro M' v _ H w ⟨rfl,rfl,⟨o9a,o9c,o9l⟩,ho9,rfl,hO9,hl9⟩ hs
  simp only at hl9 hO9
  simp only [Sl.val] at hO9
  obtain ⟨M2,j1,j2,j3⟩:=OSl.frz (H:=(bw,rowO (ZN.segs ⟨⟨⟨⟨Za,Zd⟩,⟨Zc,Zg⟩,⟨Zk,Zj,Zh⟩,⟨Zf,Ze,Zb⟩⟩,Zr,Zq,ZD,Zx,ZM,Zz,Zv,Zt,Zn,Zw,Zm,Zu,⟨Zp,Zo,Zl⟩,ZC,ZE⟩,⟨o9a,o9c,o9l⟩⟩) 166)::H) hO9 (hs.c)
  exact ⟨M2,_,j1,j2,rfl,⟨o9a,o9c,o9l⟩,rfl,j3,hl9⟩
theorem request_ok (M:Mem) (bw:Nat) (Za:Int) (Zd:Plc) (Zc:Int) (Zg:Plc) (Zk Zf Zp:Option Addr) (Zj Ze Zo:Nat) (Zh Zb:List Zs) (Zl:List Int) (Zr:Int) (Zq:Bool) (ZD Zx ZM Zz Zv Zt Zn Zw Zm:Int) (Zu:Plc) (ZC ZE:Int) (to:Int) (l:ZF):Fh Tryz.prog 164 [.pointer (some ⟨bw,0,none⟩),.int .i64 to,l.enc] M [(bw,rowO (ZN.segs ⟨⟨⟨⟨Za,Zd⟩,⟨Zc,Zg⟩,⟨Zk,Zj,Zh⟩,⟨Zf,Ze,Zb⟩⟩,Zr,Zq,ZD,Zx,ZM,Zz,Zv,Zt,Zn,Zw,Zm,Zu,⟨Zp,Zo,Zl⟩,ZC,ZE⟩,⟨none,0,[]⟩⟩) 166)] (fun M' v Hout=>v=.int .u64 (nxR ZM)∧∃ (o9:Sl Ym),Hout=[(bw,rowO (ZN.segs ⟨⟨⟨⟨Za,Zd⟩,⟨Zc,Zg⟩,⟨Zk,Zj,Zh⟩,⟨Zf,Ze,Zb⟩⟩,Zr,Zq,ZD,Zx,(nxR ZM),Zz,Zv,Zt,Zn,Zw,Zm,Zu,⟨Zp,Zo,Zl⟩,ZC,ZE⟩,o9⟩) 166)]∧SlK M' Ym.segs 68 o9∧o9.l=[⟨to,{ l with frm:=⟨Za,Zd⟩,req:=nxR ZM,peer:=YD }⟩]):=by
  obtain ⟨ZK,⟨ZH,ZY⟩,Yd,l_id,⟨ZS,ZR,ZG⟩,ZX,⟨ZA,ZL⟩,⟨ZQ,ZP,ZB⟩⟩:=l
  refine YR (fun H=>(bw,rowO (ZN.segs ⟨⟨⟨⟨Za,Zd⟩,⟨Zc,Zg⟩,⟨Zk,Zj,Zh⟩,⟨Zf,Ze,Zb⟩⟩,Zr,Zq,ZD,Zx,ZM,Zz,Zv,Zt,Zn,Zw,Zm,Zu,⟨Zp,Zo,Zl⟩,ZC,ZE⟩,⟨none,0,[]⟩⟩) 166)::H) (fun _=>by simp only [List.append_assoc,List.cons_append,List.nil_append]) Tryz.func164 rfl Tryz.ntmps164 rfl ?_;intro H
  iterate 2 refine Stp ?_
  refine Xq ?_;intro b1
  iterate 7 refine Stp ?_
  refine Zi F.foff166_0 ?_;refine Zi F.foff44_5 ?_;refine Zy F.lay42 ?_;refine YO rfl rfl rfl rfl rfl zX rfl ?_
  obtain ⟨r9,hr9⟩:∃ v,nxR ZM=v:=⟨_,rfl⟩
  refine XI 12 rfl (show _=Value.int .u64 r9 from by rw [← hr9];exact congrArg (Value.int .u64) (nx_w64 ZM)) ?_;refine YT ?_;refine Zi F.foff166_0 ?_;refine Zi F.foff44_5 ?_;refine Ya F.lay42 ?_
  iterate 3 refine Stp ?_
  refine Yg (l:=[0,1,2,3,4,5,6,7,8,9]) #[0,1,3,7,15,0,31,127,255,511] _ rfl jI jI St.drawn (fun _ h=>h) ?_
  iterate 2 refine Stp ?_
  refine Zi F.foff166_0 ?_;refine Zi F.foff44_5 ?_;refine Zy F.lay42 ?_;refine X_fs rfl rfl F.ok78 rfl (Vp _) rfl ?_
  rintro _ rfl
  refine XI 21 rfl (show _=aggV [.one (.int .i64 (-1)),Yb 0] from rfl) ?_;refine Zi F.foff128_2 ?_;refine Ya F.lay42 ?_;refine Zi F.foff128_6 ?_;refine Ya F.lay38 ?_
  iterate 3 refine Stp ?_
  refine YB (l:=[0,1,2,3]) [3] rfl ?_
  iterate 2 refine Stp ?_
  refine Zy F.lay128 ?_;refine XN rfl rfl rfl F.ok103 rfl (sendF_ok M bw _ _ _ _ _ _ _ _ _ _ _ _ _ _ _ _ _ _ _ _ _ _ _ _ _ _ _ to ⟨ZK,⟨ZH,ZY⟩,r9,l_id,⟨ZS,ZR,ZG⟩,ZX,⟨-1,0⟩,⟨ZQ,ZP,ZB⟩⟩) jA (ZT rfl) ?_
  rintro _ M1 hs1 hm1 ⟨rfl,⟨o9a,o9c,o9l⟩,rfl,k9,hl9⟩
  simp only at hl9
  simp only [List.append_assoc,List.cons_append,List.nil_append]
  refine Xb (Xu ?_)
  iterate 5 refine Stp ?_
  refine Zi F.foff166_0 ?_;refine Zi F.foff44_5 ?_;refine Zy F.lay42 ?_
  iterate 4 refine Stp ?_
  refine ZV (.inr rfl) (.tmp rfl .nil) (fun w hw=>?_)
  refine ⟨_,M1,[(bw,rowO (ZN.segs ⟨⟨⟨⟨Za,Zd⟩,⟨Zc,Zg⟩,⟨Zk,Zj,Zh⟩,⟨Zf,Ze,Zb⟩⟩,Zr,Zq,ZD,Zx,r9,Zz,Zv,Zt,Zn,Zw,Zm,Zu,⟨Zp,Zo,Zl⟩,ZC,ZE⟩,⟨o9a,o9c,o9l⟩⟩) 166)],rfl,hm1,hw.c,?_,⟨o9a,o9c,o9l⟩,?_,k9,?_⟩
  ·rw [hr9];rfl
  ·rw [hr9]
  ·rw [hr9];exact hl9
theorem seek_ok (M:Mem) (bw:Nat) (Za:Int) (Zd:Plc) (Zc:Int) (Zg:Plc) (Zk Zf Zp:Option Addr) (Zj Ze Zo:Nat) (Zh Zb:List Zs) (Zl:List Int) (Zr:Int) (Zq:Bool) (ZD Zx ZM Zz Zv Zt Zn Zw Zm:Int) (Zu:Plc) (ZC ZE:Int) (Yj:ZO.ok M ⟨⟨Za,Zd⟩,⟨Zc,Zg⟩,⟨Zk,Zj,Zh⟩,⟨Zf,Ze,Zb⟩⟩) (Yu:SlK M (oneI .i64) 1 ⟨Zp,Zo,Zl⟩) (hLa:Zl.length≤1000) (to:Int):Fh Tryz.prog 167 [.pointer (some ⟨bw,0,none⟩),.int .i64 to] M [(bw,rowO (ZN.segs ⟨⟨⟨⟨Za,Zd⟩,⟨Zc,Zg⟩,⟨Zk,Zj,Zh⟩,⟨Zf,Ze,Zb⟩⟩,Zr,Zq,ZD,Zx,ZM,Zz,Zv,Zt,Zn,Zw,Zm,Zu,⟨Zp,Zo,Zl⟩,ZC,ZE⟩,⟨none,0,[]⟩⟩) 166)] (fun M' v Hout=>v=.tuple #[]∧WkF bw 166 M' Hout (SA (ZJ.nd ⟨⟨⟨Za,Zd⟩,⟨Zc,Zg⟩,⟨Zk,Zj,Zh⟩,⟨Zf,Ze,Zb⟩⟩,Zr,Zq,ZD,Zx,ZM,Zz,Zv,Zt,Zn,Zw,Zm,Zu,⟨Zp,Zo,Zl⟩,ZC,ZE⟩) to)):=by
  refine YR (fun H=>(bw,rowO (ZN.segs ⟨⟨⟨⟨Za,Zd⟩,⟨Zc,Zg⟩,⟨Zk,Zj,Zh⟩,⟨Zf,Ze,Zb⟩⟩,Zr,Zq,ZD,Zx,ZM,Zz,Zv,Zt,Zn,Zw,Zm,Zu,⟨Zp,Zo,Zl⟩,ZC,ZE⟩,⟨none,0,[]⟩⟩) 166)::H) (fun _=>by simp only [List.append_assoc,List.cons_append,List.nil_append]) Tryz.func167 rfl Tryz.ntmps167 rfl ?_;intro H
  iterate 5 refine Stp ?_
  refine Zi F.foff166_0 ?_;refine Zi F.foff44_10 ?_;refine Ya F.lay3 ?_
  iterate 2 refine Stp ?_
  refine C_region_anyW (l:=[0,1,2,3,4,5,6,7,8,9,10,11,12,13,14,15,16,17,18,19]) [15] #[0,0,0,0,8,24,56,120,0,256,768,1792,3840,7936,16376,32766,65535,131071,262143,524287] (_) rfl jI jI St.drawn (fun _ h=>h) ?_
  iterate 5 refine Stp ?_
  refine Zi F.foff166_0 ?_;refine Zi F.foff44_12 ?_;refine Zy F.lay36 ?_
  iterate 2 refine Stp ?_
  refine Zi F.foff166_0 ?_;refine Zi F.foff44_13 ?_;refine Zy F.lay32 ?_;refine WE rfl rfl F.ok156 rfl (CloneI_ok M Zp Zo Zl Yu jC) jA (fun _ _ _ hm hw=>(hw.lower jV).c) (ZT rfl) ?_
  rintro v0 M1 hs0 hm1 ⟨hM1,ho0⟩;subst M1
  obtain ⟨ad0,cp0,rfl⟩:=ho0.valL
  refine Xo rfl rfl F.bld128 (.cons rfl jG (.cons rfl jG (.cons rfl jG .nil))) rfl rfl ?_;refine XN rfl rfl rfl F.ok164 rfl (request_ok M bw _ _ _ _ _ _ _ _ _ _ _ _ _ _ _ _ _ _ _ _ _ _ _ _ _ _ _ to ⟨1,⟨0,0⟩,0,Zu,⟨ad0,cp0,Zl⟩,false,⟨0,0⟩,⟨none,0,[]⟩⟩) jA (ZT rfl) ?_
  rintro _ M2 hs2 hm2 ⟨rfl,⟨o9a,o9c,o9l⟩,rfl,k9,hl9⟩
  simp only at hl9
  simp only [List.append_assoc,List.cons_append,List.nil_append]
  refine YT ?_;refine Zi F.foff166_0 ?_;refine Zi F.foff44_11 ?_;refine Ya F.lay42 ?_;refine Xb (Xu ?_)
  refine ZV (.inl rfl) (.nil) (fun w hw=>?_)
  obtain ⟨M9,j1,j2,j3⟩:=OSl.frz (H:=(bw,rowO (ZN.segs ⟨⟨⟨⟨Za,Zd⟩,⟨Zc,Zg⟩,⟨Zk,Zj,Zh⟩,⟨Zf,Ze,Zb⟩⟩,Zr,Zq,ZD,Zx,(nxR ZM),Zz,Zv,Zt,Zn,to,(nxR ZM),Zu,⟨Zp,Zo,Zl⟩,ZC,ZE⟩,⟨o9a,o9c,o9l⟩⟩) 166)::H) (show OSl _ _ (.slice ad0 Zl.length cp0) hs0 (Zl.map (oneI .i64)) from ho0) (hw.c)
  refine ⟨_,M9,_,rfl,hm2.trans j1,j2,rfl,⟨⟨⟨Za,Zd⟩,⟨Zc,Zg⟩,⟨Zk,Zj,Zh⟩,⟨Zf,Ze,Zb⟩⟩,Zr,Zq,ZD,Zx,(nxR ZM),Zz,Zv,Zt,Zn,to,(nxR ZM),Zu,⟨Zp,Zo,Zl⟩,ZC,ZE⟩,⟨o9a,o9c,o9l⟩,rfl,rfl,?_,⟨(Yj.mono hm2).mono j1,(Yu.mono hm2).mono j1⟩,k9.mono j1,fun y hy=>?_⟩
  ·show sndl o9l=_
   rw [hl9];rfl
  ·simp only at hy
   rw [hl9] at hy
   obtain rfl:=List.mem_singleton.1 hy
   exact ⟨⟨j3,SlK.nil⟩⟩
theorem F.ok177:okFn Tryz.prog 177=true:=by kernel_rfl
theorem shun_ok (M:Mem) (bw:Nat) (Za:Int) (Zd:Plc) (Zc:Int) (Zg:Plc) (Zk Zf Zp:Option Addr) (Zj Ze Zo:Nat) (Zh Zb:List Zs) (Zl:List Int) (Zr:Int) (Zq:Bool) (ZD Zx ZM Zz Zv Zt Zn Zw Zm:Int) (Zu:Plc) (ZC ZE:Int) (hav:Hp) (hA:OSl 3 1 (.slice Zp Zl.length Zo) hav (Zl.map (oneI .i64))) (hLa:Zl.length≤900) (a:Int):Fh Tryz.prog 165 [.pointer (some ⟨bw,0,none⟩),.int .i64 a] M ((bw,rowO (ZN.segs ⟨⟨⟨⟨Za,Zd⟩,⟨Zc,Zg⟩,⟨Zk,Zj,Zh⟩,⟨Zf,Ze,Zb⟩⟩,Zr,Zq,ZD,Zx,ZM,Zz,Zv,Zt,Zn,Zw,Zm,Zu,⟨Zp,Zo,Zl⟩,ZC,ZE⟩,⟨none,0,[]⟩⟩) 166)::hav) (fun M' v Hout=>M'=M∧v=.tuple #[]∧∃ (s9:Sl Int) (hs9:Hp),Hout=(bw,rowO (ZN.segs ⟨⟨⟨⟨Za,Zd⟩,⟨Zc,Zg⟩,⟨Zk,Zj,Zh⟩,⟨Zf,Ze,Zb⟩⟩,Zr,Zq,ZD,Zx,ZM,Zz,Zv,Zt,Zn,Zw,Zm,Zu,s9,ZC,ZE⟩,⟨none,0,[]⟩⟩) 166)::hs9∧OSl 3 1 s9.val hs9 (s9.l.map (oneI .i64))∧s9.l=TF Zl a):=by
  refine YR (fun H=>(bw,rowO (ZN.segs ⟨⟨⟨⟨Za,Zd⟩,⟨Zc,Zg⟩,⟨Zk,Zj,Zh⟩,⟨Zf,Ze,Zb⟩⟩,Zr,Zq,ZD,Zx,ZM,Zz,Zv,Zt,Zn,Zw,Zm,Zu,⟨Zp,Zo,Zl⟩,ZC,ZE⟩,⟨none,0,[]⟩⟩) 166)::(hav++H)) (fun _=>by simp only [List.append_assoc,List.cons_append,List.nil_append]) Tryz.func165 rfl Tryz.ntmps165 rfl ?_;intro H
  iterate 4 refine Stp ?_
  refine Zi F.foff166_0 ?_;refine Zi F.foff44_13 ?_;refine Zy F.lay32 ?_;refine Yk ?_;refine X_fo rfl rfl F.ok96 rfl (ContainsI_rd M hav ⟨Zp,Zo,Zl⟩ a (OSl.rd hA _) (by show Zl.length≤9223372036854775807;omega)) jA (ZT rfl) ?_
  rintro _ M1 _ ⟨hM1,rfl⟩;subst M1
  iterate 2 refine Stp ?_
  refine Yt 12 rfl (eT fun hc1=>?_) (eF fun hc1=>?_)
  ·simp only [Zs.eta,ZO.eta,ZJ.eta,ZF.eta,Ym.eta,Yv.eta,Yy.eta,Yq.eta,ZN.eta,YF.eta,ZU.eta] at hc1
   iterate 2 refine Stp ?_
   refine Zi F.foff166_0 ?_;refine Zi F.foff44_13 ?_;refine Zy F.lay32 ?_;refine YA F.elem32 ?_
   iterate 4 refine Stp ?_
   refine ZW rfl (cT fun hc2=>?_) (cF fun hc2=>?_)
   ·iterate 4 refine Stp ?_
    refine Zi F.foff166_0 ?_;refine Zi F.foff44_13 ?_;refine Zy F.lay32 ?_;refine Yk ?_
    refine YS rfl rfl F.elem32 F.zero3 rfl rfl (.cons rfl jG .nil) rfl rfl jL rfl ?_;intro b3 hob4
    have hAm:=hA
    rw [show Zl.length=(Zl.map (oneI .i64)).length from (List.length_map ..).symm] at hAm
    refine WT (m:=1000000) rfl rfl rfl rfl rfl F.elem32 F.zero3 jR rfl jE jA (Src.own hob4.lens jO rfl jB) jN jJ rfl ?_;intro v7 hs6 ho5;obtain ⟨adv7,cpv7,rfl⟩:=ho5.valAt (n:=Zl.length+1) zK
    refine YT ?_;refine Zi F.foff166_0 ?_;refine Zi F.foff44_13 ?_;refine Ya F.lay32 ?_;refine Xb ?_
    refine ZV (.inl rfl) (.nil) (fun w hw=>?_)
    have hln:Zl.length+1=(Zl++[a]).length:=by rw [List.length_append];rfl
    have h9:=ho5
    rw [hln] at hw h9
    refine ⟨_,M,(bw,rowO (ZN.segs ⟨⟨⟨⟨Za,Zd⟩,⟨Zc,Zg⟩,⟨Zk,Zj,Zh⟩,⟨Zf,Ze,Zb⟩⟩,Zr,Zq,ZD,Zx,ZM,Zz,Zv,Zt,Zn,Zw,Zm,Zu,⟨adv7,cpv7,Zl++[a]⟩,ZC,ZE⟩,⟨none,0,[]⟩⟩) 166)::hs6,rfl,Mem.le.refl M,?_,rfl,rfl,⟨adv7,cpv7,Zl++[a]⟩,hs6,rfl,?_,?_⟩
    ·simp only [ZN.segs,Sl.val,List.length_nil] at hw ⊢
     exact hw.c
    ·exact OSl.as9 h9 (by rw [List.map_append];rfl)
    ·show Zl++[a]=TF Zl a
     unfold TF
     rw [if_neg (by rintro (q1|q1) <;> first|contradiction|omega)]
   ·refine Vy ?_
    refine ZV (.inl rfl) (.nil) (fun w hw=>?_)
    refine ⟨_,M,(bw,rowO (ZN.segs ⟨⟨⟨⟨Za,Zd⟩,⟨Zc,Zg⟩,⟨Zk,Zj,Zh⟩,⟨Zf,Ze,Zb⟩⟩,Zr,Zq,ZD,Zx,ZM,Zz,Zv,Zt,Zn,Zw,Zm,Zu,⟨Zp,Zo,Zl⟩,ZC,ZE⟩,⟨none,0,[]⟩⟩) 166)::hav,rfl,Mem.le.refl M,hw.c,rfl,rfl,⟨Zp,Zo,Zl⟩,hav,rfl,hA,?_⟩
    show Zl=TF Zl a
    unfold TF
    rw [if_pos (by exact .inr jC)]
  ·simp only [Zs.eta,ZO.eta,ZJ.eta,ZF.eta,Ym.eta,Yv.eta,Yy.eta,Yq.eta,ZN.eta,YF.eta,ZU.eta] at hc1
   iterate 12 refine Stp ?_
   refine ZV (.inl rfl) (.nil) (fun w hw=>?_)
   refine ⟨_,M,(bw,rowO (ZN.segs ⟨⟨⟨⟨Za,Zd⟩,⟨Zc,Zg⟩,⟨Zk,Zj,Zh⟩,⟨Zf,Ze,Zb⟩⟩,Zr,Zq,ZD,Zx,ZM,Zz,Zv,Zt,Zn,Zw,Zm,Zu,⟨Zp,Zo,Zl⟩,ZC,ZE⟩,⟨none,0,[]⟩⟩) 166)::hav,rfl,Mem.le.refl M,hw.c,rfl,rfl,⟨Zp,Zo,Zl⟩,hav,rfl,hA,?_⟩
   show Zl=TF Zl a
   unfold TF
   rw [if_pos yQ]
theorem lostA_ok (M:Mem) (bw:Nat) (Za:Int) (Zd:Plc) (Zc:Int) (Zg:Plc) (Zk Zf Zp:Option Addr) (Zj Ze Zo:Nat) (Zh Zb:List Zs) (Zl:List Int) (Zr:Int) (Zq:Bool) (ZD Zx ZM Zz Zv Zt Zn Zw Zm:Int) (Zu:Plc) (ZC ZE:Int) (Yj:ZO.ok M ⟨⟨Za,Zd⟩,⟨Zc,Zg⟩,⟨Zk,Zj,Zh⟩,⟨Zf,Ze,Zb⟩⟩) (hbig:Zh.length≤40∧Zb.length≤200):Fh Tryz.prog 162 [.pointer (some ⟨bw,0,none⟩),.pointer (some ⟨bw,49,none⟩)] M [(bw,rowO (ZN.segs ⟨⟨⟨⟨Za,Zd⟩,⟨Zc,Zg⟩,⟨Zk,Zj,Zh⟩,⟨Zf,Ze,Zb⟩⟩,Zr,Zq,ZD,Zx,ZM,Zz,Zv,Zt,Zn,Zw,Zm,Zu,⟨Zp,Zo,Zl⟩,ZC,ZE⟩,⟨none,0,[]⟩⟩) 166)] (fun M' v Hout=>v=.tuple #[]∧∃ (t9:ZO) (a9:Int),Hout=[(bw,rowO (ZN.segs ⟨⟨t9,Zr,Zq,ZD,Zx,ZM,a9,Zv,Zt,Zn,Zw,Zm,Zu,⟨Zp,Zo,Zl⟩,ZC,ZE⟩,⟨none,0,[]⟩⟩) 166)]∧ZO.ok M' t9∧(t9.tb,a9)=Tu (ZO.tb ⟨⟨Za,Zd⟩,⟨Zc,Zg⟩,⟨Zk,Zj,Zh⟩,⟨Zf,Ze,Zb⟩⟩) Zz):=by
  refine YR (fun H=>(bw,rowO (ZN.segs ⟨⟨⟨⟨Za,Zd⟩,⟨Zc,Zg⟩,⟨Zk,Zj,Zh⟩,⟨Zf,Ze,Zb⟩⟩,Zr,Zq,ZD,Zx,ZM,Zz,Zv,Zt,Zn,Zw,Zm,Zu,⟨Zp,Zo,Zl⟩,ZC,ZE⟩,⟨none,0,[]⟩⟩) 166)::H) (fun _=>by simp only [List.append_assoc,List.cons_append,List.nil_append]) Tryz.func162 rfl Tryz.ntmps162 rfl ?_;intro H
  iterate 4 refine Stp ?_
  refine Zy F.lay3 ?_
  iterate 3 refine Stp ?_
  refine ZW rfl (eT fun hc1=>?_) (eF fun hc1=>?_)
  ·refine VP ?_
   refine Yg (l:=[0,1,2,3,4,5,6,7,8,9,10,11,12,13]) #[0,0,2,6,14,30,0,64,192,510,1023,2047,4095,8191] _ rfl jI jI St.drawn (fun _ h=>h) ?_
   iterate 3 refine Stp ?_
   refine Zi F.foff166_0 ?_;refine Zi F.foff44_0 ?_;refine Zy F.lay41 ?_
   iterate 2 refine Stp ?_
   refine Zy F.lay3 ?_;refine X_fn rfl rfl F.ok177 rfl (Forget_ok _ ⟨⟨Za,Zd⟩,⟨Zc,Zg⟩,⟨Zk,Zj,Zh⟩,⟨Zf,Ze,Zb⟩⟩ Zz Yj hbig) rfl ?_
   rintro _ M1 hm1 ⟨⟨⟨oa,oi⟩,⟨oq,oj⟩,⟨o1a,o1c,o1l⟩,⟨o2a,o2c,o2l⟩⟩,rfl,hot,okt⟩
   refine YT ?_;refine Zi F.foff166_0 ?_;refine Zi F.foff44_0 ?_;refine Ya F.lay41 ?_
   iterate 5 refine Stp ?_
   refine Ya F.lay3 ?_;refine Xb ?_
   refine ZV (.inl rfl) (.nil) (fun w hw=>?_)
   refine ⟨_,M1,[(bw,rowO (ZN.segs ⟨⟨⟨⟨oa,oi⟩,⟨oq,oj⟩,⟨o1a,o1c,o1l⟩,⟨o2a,o2c,o2l⟩⟩,Zr,Zq,ZD,Zx,ZM,(-1),Zv,Zt,Zn,Zw,Zm,Zu,⟨Zp,Zo,Zl⟩,ZC,ZE⟩,⟨none,0,[]⟩⟩) 166)],rfl,hm1,hw.c,rfl,⟨⟨oa,oi⟩,⟨oq,oj⟩,⟨o1a,o1c,o1l⟩,⟨o2a,o2c,o2l⟩⟩,-1,rfl,okt,?_⟩
   unfold Tu
   rw [if_pos jC,hot]
  ·refine Vy ?_
   refine ZV (.inl rfl) (.nil) (fun w hw=>?_)
   refine ⟨_,M,[(bw,rowO (ZN.segs ⟨⟨⟨⟨Za,Zd⟩,⟨Zc,Zg⟩,⟨Zk,Zj,Zh⟩,⟨Zf,Ze,Zb⟩⟩,Zr,Zq,ZD,Zx,ZM,Zz,Zv,Zt,Zn,Zw,Zm,Zu,⟨Zp,Zo,Zl⟩,ZC,ZE⟩,⟨none,0,[]⟩⟩) 166)],rfl,Mem.le.refl M,hw.c,rfl,⟨⟨Za,Zd⟩,⟨Zc,Zg⟩,⟨Zk,Zj,Zh⟩,⟨Zf,Ze,Zb⟩⟩,Zz,rfl,Yj,?_⟩
   unfold Tu
   rw [if_neg jC]
theorem lostP_ok (M:Mem) (bw:Nat) (Za:Int) (Zd:Plc) (Zc:Int) (Zg:Plc) (Zk Zf Zp:Option Addr) (Zj Ze Zo:Nat) (Zh Zb:List Zs) (Zl:List Int) (Zr:Int) (Zq:Bool) (ZD Zx ZM Zz Zv Zt Zn Zw Zm:Int) (Zu:Plc) (ZC ZE:Int) (Yj:ZO.ok M ⟨⟨Za,Zd⟩,⟨Zc,Zg⟩,⟨Zk,Zj,Zh⟩,⟨Zf,Ze,Zb⟩⟩) (hbig:Zh.length≤40∧Zb.length≤200):Fh Tryz.prog 162 [.pointer (some ⟨bw,0,none⟩),.pointer (some ⟨bw,51,none⟩)] M [(bw,rowO (ZN.segs ⟨⟨⟨⟨Za,Zd⟩,⟨Zc,Zg⟩,⟨Zk,Zj,Zh⟩,⟨Zf,Ze,Zb⟩⟩,Zr,Zq,ZD,Zx,ZM,Zz,Zv,Zt,Zn,Zw,Zm,Zu,⟨Zp,Zo,Zl⟩,ZC,ZE⟩,⟨none,0,[]⟩⟩) 166)] (fun M' v Hout=>v=.tuple #[]∧∃ (t9:ZO) (a9:Int),Hout=[(bw,rowO (ZN.segs ⟨⟨t9,Zr,Zq,ZD,Zx,ZM,Zz,Zv,a9,Zn,Zw,Zm,Zu,⟨Zp,Zo,Zl⟩,ZC,ZE⟩,⟨none,0,[]⟩⟩) 166)]∧ZO.ok M' t9∧(t9.tb,a9)=Tu (ZO.tb ⟨⟨Za,Zd⟩,⟨Zc,Zg⟩,⟨Zk,Zj,Zh⟩,⟨Zf,Ze,Zb⟩⟩) Zt):=by
  refine YR (fun H=>(bw,rowO (ZN.segs ⟨⟨⟨⟨Za,Zd⟩,⟨Zc,Zg⟩,⟨Zk,Zj,Zh⟩,⟨Zf,Ze,Zb⟩⟩,Zr,Zq,ZD,Zx,ZM,Zz,Zv,Zt,Zn,Zw,Zm,Zu,⟨Zp,Zo,Zl⟩,ZC,ZE⟩,⟨none,0,[]⟩⟩) 166)::H) (fun _=>by simp only [List.append_assoc,List.cons_append,List.nil_append]) Tryz.func162 rfl Tryz.ntmps162 rfl ?_;intro H
  iterate 4 refine Stp ?_
  refine Zy F.lay3 ?_
  iterate 3 refine Stp ?_
  refine ZW rfl (eT fun hc1=>?_) (eF fun hc1=>?_)
  ·refine VP ?_
   refine Yg (l:=[0,1,2,3,4,5,6,7,8,9,10,11,12,13]) #[0,0,2,6,14,30,0,64,192,510,1023,2047,4095,8191] _ rfl jI jI St.drawn (fun _ h=>h) ?_
   iterate 3 refine Stp ?_
   refine Zi F.foff166_0 ?_;refine Zi F.foff44_0 ?_;refine Zy F.lay41 ?_
   iterate 2 refine Stp ?_
   refine Zy F.lay3 ?_;refine X_fn rfl rfl F.ok177 rfl (Forget_ok _ ⟨⟨Za,Zd⟩,⟨Zc,Zg⟩,⟨Zk,Zj,Zh⟩,⟨Zf,Ze,Zb⟩⟩ Zt Yj hbig) rfl ?_
   rintro _ M1 hm1 ⟨⟨⟨oa,oi⟩,⟨oq,oj⟩,⟨o1a,o1c,o1l⟩,⟨o2a,o2c,o2l⟩⟩,rfl,hot,okt⟩
   refine YT ?_;refine Zi F.foff166_0 ?_;refine Zi F.foff44_0 ?_;refine Ya F.lay41 ?_
   iterate 5 refine Stp ?_
   refine Ya F.lay3 ?_;refine Xb ?_
   refine ZV (.inl rfl) (.nil) (fun w hw=>?_)
   refine ⟨_,M1,[(bw,rowO (ZN.segs ⟨⟨⟨⟨oa,oi⟩,⟨oq,oj⟩,⟨o1a,o1c,o1l⟩,⟨o2a,o2c,o2l⟩⟩,Zr,Zq,ZD,Zx,ZM,Zz,Zv,(-1),Zn,Zw,Zm,Zu,⟨Zp,Zo,Zl⟩,ZC,ZE⟩,⟨none,0,[]⟩⟩) 166)],rfl,hm1,hw.c,rfl,⟨⟨oa,oi⟩,⟨oq,oj⟩,⟨o1a,o1c,o1l⟩,⟨o2a,o2c,o2l⟩⟩,-1,rfl,okt,?_⟩
   unfold Tu
   rw [if_pos jC,hot]
  ·refine Vy ?_
   refine ZV (.inl rfl) (.nil) (fun w hw=>?_)
   refine ⟨_,M,[(bw,rowO (ZN.segs ⟨⟨⟨⟨Za,Zd⟩,⟨Zc,Zg⟩,⟨Zk,Zj,Zh⟩,⟨Zf,Ze,Zb⟩⟩,Zr,Zq,ZD,Zx,ZM,Zz,Zv,Zt,Zn,Zw,Zm,Zu,⟨Zp,Zo,Zl⟩,ZC,ZE⟩,⟨none,0,[]⟩⟩) 166)],rfl,Mem.le.refl M,hw.c,rfl,⟨⟨Za,Zd⟩,⟨Zc,Zg⟩,⟨Zk,Zj,Zh⟩,⟨Zf,Ze,Zb⟩⟩,Zt,rfl,Yj,?_⟩
   unfold Tu
   rw [if_neg jC]
theorem lostF_ok (M:Mem) (bw:Nat) (Za:Int) (Zd:Plc) (Zc:Int) (Zg:Plc) (Zk Zf Zp:Option Addr) (Zj Ze Zo:Nat) (Zh Zb:List Zs) (Zl:List Int) (Zr:Int) (Zq:Bool) (ZD Zx ZM Zz Zv Zt Zn Zw Zm:Int) (Zu:Plc) (ZC ZE:Int) (Yj:ZO.ok M ⟨⟨Za,Zd⟩,⟨Zc,Zg⟩,⟨Zk,Zj,Zh⟩,⟨Zf,Ze,Zb⟩⟩) (hbig:Zh.length≤40∧Zb.length≤200):Fh Tryz.prog 162 [.pointer (some ⟨bw,0,none⟩),.pointer (some ⟨bw,53,none⟩)] M [(bw,rowO (ZN.segs ⟨⟨⟨⟨Za,Zd⟩,⟨Zc,Zg⟩,⟨Zk,Zj,Zh⟩,⟨Zf,Ze,Zb⟩⟩,Zr,Zq,ZD,Zx,ZM,Zz,Zv,Zt,Zn,Zw,Zm,Zu,⟨Zp,Zo,Zl⟩,ZC,ZE⟩,⟨none,0,[]⟩⟩) 166)] (fun M' v Hout=>v=.tuple #[]∧∃ (t9:ZO) (a9:Int),Hout=[(bw,rowO (ZN.segs ⟨⟨t9,Zr,Zq,ZD,Zx,ZM,Zz,Zv,Zt,Zn,a9,Zm,Zu,⟨Zp,Zo,Zl⟩,ZC,ZE⟩,⟨none,0,[]⟩⟩) 166)]∧ZO.ok M' t9∧(t9.tb,a9)=Tu (ZO.tb ⟨⟨Za,Zd⟩,⟨Zc,Zg⟩,⟨Zk,Zj,Zh⟩,⟨Zf,Ze,Zb⟩⟩) Zw):=by
  refine YR (fun H=>(bw,rowO (ZN.segs ⟨⟨⟨⟨Za,Zd⟩,⟨Zc,Zg⟩,⟨Zk,Zj,Zh⟩,⟨Zf,Ze,Zb⟩⟩,Zr,Zq,ZD,Zx,ZM,Zz,Zv,Zt,Zn,Zw,Zm,Zu,⟨Zp,Zo,Zl⟩,ZC,ZE⟩,⟨none,0,[]⟩⟩) 166)::H) (fun _=>by simp only [List.append_assoc,List.cons_append,List.nil_append]) Tryz.func162 rfl Tryz.ntmps162 rfl ?_;intro H
  iterate 4 refine Stp ?_
  refine Zy F.lay3 ?_
  iterate 3 refine Stp ?_
  refine ZW rfl (eT fun hc1=>?_) (eF fun hc1=>?_)
  ·refine VP ?_
   refine Yg (l:=[0,1,2,3,4,5,6,7,8,9,10,11,12,13]) #[0,0,2,6,14,30,0,64,192,510,1023,2047,4095,8191] _ rfl jI jI St.drawn (fun _ h=>h) ?_
   iterate 3 refine Stp ?_
   refine Zi F.foff166_0 ?_;refine Zi F.foff44_0 ?_;refine Zy F.lay41 ?_
   iterate 2 refine Stp ?_
   refine Zy F.lay3 ?_;refine X_fn rfl rfl F.ok177 rfl (Forget_ok _ ⟨⟨Za,Zd⟩,⟨Zc,Zg⟩,⟨Zk,Zj,Zh⟩,⟨Zf,Ze,Zb⟩⟩ Zw Yj hbig) rfl ?_
   rintro _ M1 hm1 ⟨⟨⟨oa,oi⟩,⟨oq,oj⟩,⟨o1a,o1c,o1l⟩,⟨o2a,o2c,o2l⟩⟩,rfl,hot,okt⟩
   refine YT ?_;refine Zi F.foff166_0 ?_;refine Zi F.foff44_0 ?_;refine Ya F.lay41 ?_
   iterate 5 refine Stp ?_
   refine Ya F.lay3 ?_;refine Xb ?_
   refine ZV (.inl rfl) (.nil) (fun w hw=>?_)
   refine ⟨_,M1,[(bw,rowO (ZN.segs ⟨⟨⟨⟨oa,oi⟩,⟨oq,oj⟩,⟨o1a,o1c,o1l⟩,⟨o2a,o2c,o2l⟩⟩,Zr,Zq,ZD,Zx,ZM,Zz,Zv,Zt,Zn,(-1),Zm,Zu,⟨Zp,Zo,Zl⟩,ZC,ZE⟩,⟨none,0,[]⟩⟩) 166)],rfl,hm1,hw.c,rfl,⟨⟨oa,oi⟩,⟨oq,oj⟩,⟨o1a,o1c,o1l⟩,⟨o2a,o2c,o2l⟩⟩,-1,rfl,okt,?_⟩
   unfold Tu
   rw [if_pos jC,hot]
  ·refine Vy ?_
   refine ZV (.inl rfl) (.nil) (fun w hw=>?_)
   refine ⟨_,M,[(bw,rowO (ZN.segs ⟨⟨⟨⟨Za,Zd⟩,⟨Zc,Zg⟩,⟨Zk,Zj,Zh⟩,⟨Zf,Ze,Zb⟩⟩,Zr,Zq,ZD,Zx,ZM,Zz,Zv,Zt,Zn,Zw,Zm,Zu,⟨Zp,Zo,Zl⟩,ZC,ZE⟩,⟨none,0,[]⟩⟩) 166)],rfl,Mem.le.refl M,hw.c,rfl,⟨⟨Za,Zd⟩,⟨Zc,Zg⟩,⟨Zk,Zj,Zh⟩,⟨Zf,Ze,Zb⟩⟩,Zw,rfl,Yj,?_⟩
   unfold Tu
   rw [if_neg jC]
theorem F.ok201:okFn Tryz.prog 201=true:=by kernel_rfl
theorem F.ok202:okFn Tryz.prog 202=true:=by kernel_rfl
theorem adopt_ok (M:Mem) (bw:Nat) (Za:Int) (Zd:Plc) (Zc:Int) (Zg:Plc) (Zk Zf Zp:Option Addr) (Zj Ze Zo:Nat) (Zh Zb:List Zs) (Zl:List Int) (Zr:Int) (Zq:Bool) (ZD Zx ZM Zz Zv Zt Zn Zw Zm:Int) (Zu:Plc) (ZC ZE:Int) (Yj:ZO.ok M ⟨⟨Za,Zd⟩,⟨Zc,Zg⟩,⟨Zk,Zj,Zh⟩,⟨Zf,Ze,Zb⟩⟩) (p:Zs) (q:Sl Zs) (k_q:SlK M Zs.segs 21 q):Fh Tryz.prog 163 [.pointer (some ⟨bw,0,none⟩),p.enc,q.val] M [(bw,rowO (ZN.segs ⟨⟨⟨⟨Za,Zd⟩,⟨Zc,Zg⟩,⟨Zk,Zj,Zh⟩,⟨Zf,Ze,Zb⟩⟩,Zr,Zq,ZD,Zx,ZM,Zz,Zv,Zt,Zn,Zw,Zm,Zu,⟨Zp,Zo,Zl⟩,ZC,ZE⟩,⟨none,0,[]⟩⟩) 166)] (fun M' v Hout=>v=.tuple #[]∧∃ (t9:ZO),Hout=[(bw,rowO (ZN.segs ⟨⟨t9,Zr,Zq,ZD,Zx,ZM,Zz,Zv,Zt,Zn,Zw,Zm,Zu,⟨Zp,Zo,Zl⟩,ZC,ZE⟩,⟨none,0,[]⟩⟩) 166)]∧ZO.ok M' t9∧ZJ.nd ⟨t9,Zr,Zq,ZD,Zx,ZM,Zz,Zv,Zt,Zn,Zw,Zm,Zu,⟨Zp,Zo,Zl⟩,ZC,ZE⟩=WG (ZJ.nd ⟨⟨⟨Za,Zd⟩,⟨Zc,Zg⟩,⟨Zk,Zj,Zh⟩,⟨Zf,Ze,Zb⟩⟩,Zr,Zq,ZD,Zx,ZM,Zz,Zv,Zt,Zn,Zw,Zm,Zu,⟨Zp,Zo,Zl⟩,ZC,ZE⟩) p q.l):=by
  obtain ⟨YI,p_id⟩:=p
  obtain ⟨q_a,q_c,q_l⟩:=q
  refine YR (fun H=>(bw,rowO (ZN.segs ⟨⟨⟨⟨Za,Zd⟩,⟨Zc,Zg⟩,⟨Zk,Zj,Zh⟩,⟨Zf,Ze,Zb⟩⟩,Zr,Zq,ZD,Zx,ZM,Zz,Zv,Zt,Zn,Zw,Zm,Zu,⟨Zp,Zo,Zl⟩,ZC,ZE⟩,⟨none,0,[]⟩⟩) 166)::H) (fun _=>by simp only [List.append_assoc,List.cons_append,List.nil_append]) Tryz.func163 rfl Tryz.ntmps163 rfl ?_;intro H
  iterate 2 refine Stp ?_
  refine Xq ?_;intro b1
  iterate 3 refine Stp ?_
  refine Yg (l:=[0,1,2,3,4,5,6,7,8,9,10,11,12,13,14,15,16,17,18]) #[0,1,3,7,15,0,0,0,128,384,896,1920,4095,8191,16383,16383,0,98303,262143] _ rfl jI jI St.drawn (fun _ h=>h) ?_
  iterate 2 refine Stp ?_
  refine Zi F.foff166_0 ?_;refine Zi F.foff44_0 ?_;refine Zy F.lay41 ?_;refine Zy F.lay38 ?_
  iterate 3 refine Stp ?_
  refine Zi F.foff166_0 ?_;refine Zi F.foff44_1 ?_;refine Zy F.lay3 ?_;refine X_fn rfl rfl F.ok201 rfl (Adopt_ok _ ⟨⟨Za,Zd⟩,⟨Zc,Zg⟩,⟨Zk,Zj,Zh⟩,⟨Zf,Ze,Zb⟩⟩ ⟨YI,p_id⟩ ⟨q_a,q_c,q_l⟩ Zr Yj k_q) rfl ?_
  rintro _ M1 hm1 hv
  replace hv:TabE _ _ (VK (ZO.tb ⟨⟨Za,Zd⟩,⟨Zc,Zg⟩,⟨Zk,Zj,Zh⟩,⟨Zf,Ze,Zb⟩⟩) ⟨YI,p_id⟩ q_l Zr):=hv
  obtain ⟨⟨A1,A2⟩,hA⟩:∃ x,VK (ZO.tb ⟨⟨Za,Zd⟩,⟨Zc,Zg⟩,⟨Zk,Zj,Zh⟩,⟨Zf,Ze,Zb⟩⟩) ⟨YI,p_id⟩ q_l Zr=x:=⟨_,rfl⟩
  rw [hA] at hv
  obtain ⟨_,rfl,⟨⟨oa,oi⟩,⟨oq,oj⟩,⟨o1a,o1c,o1l⟩,⟨o2a,o2c,o2l⟩⟩,rfl,hot,oko⟩:=hv
  simp only at hot
  iterate 3 refine Stp ?_
  refine Yz F.zero41 ?_;intro b2
  refine Ya F.lay41 ?_
  iterate 9 refine Stp ?_
  refine ZW rfl (cT fun hc3=>?_) (cF fun hc3=>?_)
  ·simp only [Zs.eta,ZO.eta,ZJ.eta,ZF.eta,Ym.eta,Yv.eta,Yy.eta,Yq.eta,ZN.eta,YF.eta,ZU.eta] at hc3
   iterate 2 refine Stp ?_
   refine Zy F.lay41 ?_;refine YT ?_;refine Zi F.foff166_0 ?_;refine Zi F.foff44_0 ?_;refine Ya F.lay41 ?_;refine Xb ?_
   refine ZV (.inl rfl) (.nil) (fun w hw=>?_)
   refine ⟨_,M1,[(bw,rowO (ZN.segs ⟨⟨⟨⟨oa,oi⟩,⟨oq,oj⟩,⟨o1a,o1c,o1l⟩,⟨o2a,o2c,o2l⟩⟩,Zr,Zq,ZD,Zx,ZM,Zz,Zv,Zt,Zn,Zw,Zm,Zu,⟨Zp,Zo,Zl⟩,ZC,ZE⟩,⟨none,0,[]⟩⟩) 166)],rfl,hm1,hw.c,rfl,⟨⟨oa,oi⟩,⟨oq,oj⟩,⟨o1a,o1c,o1l⟩,⟨o2a,o2c,o2l⟩⟩,rfl,oko,?_⟩
   show _=WG (ZJ.nd ⟨⟨⟨Za,Zd⟩,⟨Zc,Zg⟩,⟨Zk,Zj,Zh⟩,⟨Zf,Ze,Zb⟩⟩,Zr,Zq,ZD,Zx,ZM,Zz,Zv,Zt,Zn,Zw,Zm,Zu,⟨Zp,Zo,Zl⟩,ZC,ZE⟩) ⟨YI,p_id⟩ q_l
   unfold WG
   rw [show VK (ZJ.nd ⟨⟨⟨Za,Zd⟩,⟨Zc,Zg⟩,⟨Zk,Zj,Zh⟩,⟨Zf,Ze,Zb⟩⟩,Zr,Zq,ZD,Zx,ZM,Zz,Zv,Zt,Zn,Zw,Zm,Zu,⟨Zp,Zo,Zl⟩,ZC,ZE⟩).table ⟨YI,p_id⟩ q_l (ZJ.nd ⟨⟨⟨Za,Zd⟩,⟨Zc,Zg⟩,⟨Zk,Zj,Zh⟩,⟨Zf,Ze,Zb⟩⟩,Zr,Zq,ZD,Zx,ZM,Zz,Zv,Zt,Zn,Zw,Zm,Zu,⟨Zp,Zo,Zl⟩,ZC,ZE⟩).copies=_ from hA]
   rw [if_pos (by show A2=0;omega),← hot];rfl
  ·simp only [Zs.eta,ZO.eta,ZJ.eta,ZF.eta,Ym.eta,Yv.eta,Yy.eta,Yq.eta,ZN.eta,YF.eta,ZU.eta] at hc3
   refine Vy ?_
   refine ZV (.inl rfl) (.nil) (fun w hw=>?_)
   refine ⟨_,M1,[(bw,rowO (ZN.segs ⟨⟨⟨⟨Za,Zd⟩,⟨Zc,Zg⟩,⟨Zk,Zj,Zh⟩,⟨Zf,Ze,Zb⟩⟩,Zr,Zq,ZD,Zx,ZM,Zz,Zv,Zt,Zn,Zw,Zm,Zu,⟨Zp,Zo,Zl⟩,ZC,ZE⟩,⟨none,0,[]⟩⟩) 166)],rfl,hm1,hw.c,rfl,⟨⟨Za,Zd⟩,⟨Zc,Zg⟩,⟨Zk,Zj,Zh⟩,⟨Zf,Ze,Zb⟩⟩,rfl,Yj.mono hm1,?_⟩
   show _=WG (ZJ.nd ⟨⟨⟨Za,Zd⟩,⟨Zc,Zg⟩,⟨Zk,Zj,Zh⟩,⟨Zf,Ze,Zb⟩⟩,Zr,Zq,ZD,Zx,ZM,Zz,Zv,Zt,Zn,Zw,Zm,Zu,⟨Zp,Zo,Zl⟩,ZC,ZE⟩) ⟨YI,p_id⟩ q_l
   unfold WG
   rw [show VK (ZJ.nd ⟨⟨⟨Za,Zd⟩,⟨Zc,Zg⟩,⟨Zk,Zj,Zh⟩,⟨Zf,Ze,Zb⟩⟩,Zr,Zq,ZD,Zx,ZM,Zz,Zv,Zt,Zn,Zw,Zm,Zu,⟨Zp,Zo,Zl⟩,ZC,ZE⟩).table ⟨YI,p_id⟩ q_l (ZJ.nd ⟨⟨⟨Za,Zd⟩,⟨Zc,Zg⟩,⟨Zk,Zj,Zh⟩,⟨Zf,Ze,Zb⟩⟩,Zr,Zq,ZD,Zx,ZM,Zz,Zv,Zt,Zn,Zw,Zm,Zu,⟨Zp,Zo,Zl⟩,ZC,ZE⟩).copies=_ from hA]
   rw [if_neg (by show ¬A2=0;omega)]
theorem point_ok (M:Mem) (bw:Nat) (Za:Int) (Zd:Plc) (Zc:Int) (Zg:Plc) (Zk Zf Zp:Option Addr) (Zj Ze Zo:Nat) (Zh Zb:List Zs) (Zl:List Int) (Zr:Int) (Zq:Bool) (ZD Zx ZM Zz Zv Zt Zn Zw Zm:Int) (Zu:Plc) (ZC ZE:Int) (Yj:ZO.ok M ⟨⟨Za,Zd⟩,⟨Zc,Zg⟩,⟨Zk,Zj,Zh⟩,⟨Zf,Ze,Zb⟩⟩) (p:Zs):Fh Tryz.prog 166 [.pointer (some ⟨bw,0,none⟩),p.enc] M [(bw,rowO (ZN.segs ⟨⟨⟨⟨Za,Zd⟩,⟨Zc,Zg⟩,⟨Zk,Zj,Zh⟩,⟨Zf,Ze,Zb⟩⟩,Zr,Zq,ZD,Zx,ZM,Zz,Zv,Zt,Zn,Zw,Zm,Zu,⟨Zp,Zo,Zl⟩,ZC,ZE⟩,⟨none,0,[]⟩⟩) 166)] (fun M' v Hout=>v=.tuple #[]∧∃ (t9:ZO) (c9:Int),Hout=[(bw,rowO (ZN.segs ⟨⟨t9,Zr,Zq,ZD,c9,ZM,Zz,Zv,Zt,Zn,Zw,Zm,Zu,⟨Zp,Zo,Zl⟩,ZC,ZE⟩,⟨none,0,[]⟩⟩) 166)]∧ZO.ok M' t9∧ZJ.nd ⟨t9,Zr,Zq,ZD,c9,ZM,Zz,Zv,Zt,Zn,Zw,Zm,Zu,⟨Zp,Zo,Zl⟩,ZC,ZE⟩=Tf (ZJ.nd ⟨⟨⟨Za,Zd⟩,⟨Zc,Zg⟩,⟨Zk,Zj,Zh⟩,⟨Zf,Ze,Zb⟩⟩,Zr,Zq,ZD,Zx,ZM,Zz,Zv,Zt,Zn,Zw,Zm,Zu,⟨Zp,Zo,Zl⟩,ZC,ZE⟩) p):=by
  obtain ⟨YI,p_id⟩:=p
  refine YR (fun H=>(bw,rowO (ZN.segs ⟨⟨⟨⟨Za,Zd⟩,⟨Zc,Zg⟩,⟨Zk,Zj,Zh⟩,⟨Zf,Ze,Zb⟩⟩,Zr,Zq,ZD,Zx,ZM,Zz,Zv,Zt,Zn,Zw,Zm,Zu,⟨Zp,Zo,Zl⟩,ZC,ZE⟩,⟨none,0,[]⟩⟩) 166)::H) (fun _=>by simp only [List.append_assoc,List.cons_append,List.nil_append]) Tryz.func166 rfl Tryz.ntmps166 rfl ?_;intro H
  iterate 2 refine Stp ?_
  refine Xq ?_;intro b1
  iterate 3 refine Stp ?_
  refine Yg (l:=[0,1,2,3,4,5,6,7,8,9,10,11,12,13,14,15,16,17,18,19]) #[0,1,3,7,15,0,32,96,224,480,0,2047,4095,8191,8191,8191,0,81919,229375,524287] _ rfl jI jI St.drawn (fun _ h=>h) ?_
  iterate 2 refine Stp ?_
  refine Zi F.foff166_0 ?_;refine Zi F.foff44_0 ?_;refine Zy F.lay41 ?_
  iterate 2 refine Stp ?_
  refine Zi F.foff166_0 ?_;refine Zi F.foff44_4 ?_;refine Zy F.lay3 ?_;refine Zy F.lay38 ?_;refine X_fn rfl rfl F.ok202 rfl (Point_ok _ ⟨⟨Za,Zd⟩,⟨Zc,Zg⟩,⟨Zk,Zj,Zh⟩,⟨Zf,Ze,Zb⟩⟩ Zx ⟨YI,p_id⟩ Yj) rfl ?_
  rintro _ M1 hm1 hv
  replace hv:TabPE _ _ (WV (ZO.tb ⟨⟨Za,Zd⟩,⟨Zc,Zg⟩,⟨Zk,Zj,Zh⟩,⟨Zf,Ze,Zb⟩⟩) Zx ⟨YI,p_id⟩):=hv
  obtain ⟨⟨A1,A2,A3⟩,hA⟩:∃ x,WV (ZO.tb ⟨⟨Za,Zd⟩,⟨Zc,Zg⟩,⟨Zk,Zj,Zh⟩,⟨Zf,Ze,Zb⟩⟩) Zx ⟨YI,p_id⟩=x:=⟨_,rfl⟩
  rw [hA] at hv
  obtain ⟨_,rfl,⟨⟨oa,oi⟩,⟨oq,oj⟩,⟨o1a,o1c,o1l⟩,⟨o2a,o2c,o2l⟩⟩,rfl,hot,oko⟩:=hv
  simp only at hot
  iterate 4 refine Stp ?_
  refine Yz F.zero41 ?_;intro b2
  refine Ya F.lay41 ?_
  iterate 10 refine Stp ?_
  refine ZW rfl (cT fun hc3=>?_) (cF fun hc3=>?_)
  ·simp only [Zs.eta,ZO.eta,ZJ.eta,ZF.eta,Ym.eta,Yv.eta,Yy.eta,Yq.eta,ZN.eta,YF.eta,ZU.eta] at hc3
   iterate 3 refine Stp ?_
   refine Zy F.lay41 ?_
   iterate 2 refine Stp ?_
   refine Zi F.foff166_0 ?_;refine Zi F.foff44_0 ?_;refine Ya F.lay41 ?_;refine YT ?_;refine Zi F.foff166_0 ?_;refine Zi F.foff44_4 ?_;refine Ya F.lay3 ?_;refine Xb ?_
   refine ZV (.inl rfl) (.nil) (fun w hw=>?_)
   refine ⟨_,M1,[(bw,rowO (ZN.segs ⟨⟨⟨⟨oa,oi⟩,⟨oq,oj⟩,⟨o1a,o1c,o1l⟩,⟨o2a,o2c,o2l⟩⟩,Zr,Zq,ZD,A2,ZM,Zz,Zv,Zt,Zn,Zw,Zm,Zu,⟨Zp,Zo,Zl⟩,ZC,ZE⟩,⟨none,0,[]⟩⟩) 166)],rfl,hm1,hw.c,rfl,⟨⟨oa,oi⟩,⟨oq,oj⟩,⟨o1a,o1c,o1l⟩,⟨o2a,o2c,o2l⟩⟩,A2,rfl,oko,?_⟩
   show _=Tf (ZJ.nd ⟨⟨⟨Za,Zd⟩,⟨Zc,Zg⟩,⟨Zk,Zj,Zh⟩,⟨Zf,Ze,Zb⟩⟩,Zr,Zq,ZD,Zx,ZM,Zz,Zv,Zt,Zn,Zw,Zm,Zu,⟨Zp,Zo,Zl⟩,ZC,ZE⟩) ⟨YI,p_id⟩
   unfold Tf
   rw [show WV (ZJ.nd ⟨⟨⟨Za,Zd⟩,⟨Zc,Zg⟩,⟨Zk,Zj,Zh⟩,⟨Zf,Ze,Zb⟩⟩,Zr,Zq,ZD,Zx,ZM,Zz,Zv,Zt,Zn,Zw,Zm,Zu,⟨Zp,Zo,Zl⟩,ZC,ZE⟩).table (ZJ.nd ⟨⟨⟨Za,Zd⟩,⟨Zc,Zg⟩,⟨Zk,Zj,Zh⟩,⟨Zf,Ze,Zb⟩⟩,Zr,Zq,ZD,Zx,ZM,Zz,Zv,Zt,Zn,Zw,Zm,Zu,⟨Zp,Zo,Zl⟩,ZC,ZE⟩).cursor ⟨YI,p_id⟩=_ from hA]
   rw [if_pos (by show A3=0;omega),← hot];rfl
  ·simp only [Zs.eta,ZO.eta,ZJ.eta,ZF.eta,Ym.eta,Yv.eta,Yy.eta,Yq.eta,ZN.eta,YF.eta,ZU.eta] at hc3
   refine Vy ?_
   refine ZV (.inl rfl) (.nil) (fun w hw=>?_)
   refine ⟨_,M1,[(bw,rowO (ZN.segs ⟨⟨⟨⟨Za,Zd⟩,⟨Zc,Zg⟩,⟨Zk,Zj,Zh⟩,⟨Zf,Ze,Zb⟩⟩,Zr,Zq,ZD,Zx,ZM,Zz,Zv,Zt,Zn,Zw,Zm,Zu,⟨Zp,Zo,Zl⟩,ZC,ZE⟩,⟨none,0,[]⟩⟩) 166)],rfl,hm1,hw.c,rfl,⟨⟨Za,Zd⟩,⟨Zc,Zg⟩,⟨Zk,Zj,Zh⟩,⟨Zf,Ze,Zb⟩⟩,Zx,rfl,Yj.mono hm1,?_⟩
   show _=Tf (ZJ.nd ⟨⟨⟨Za,Zd⟩,⟨Zc,Zg⟩,⟨Zk,Zj,Zh⟩,⟨Zf,Ze,Zb⟩⟩,Zr,Zq,ZD,Zx,ZM,Zz,Zv,Zt,Zn,Zw,Zm,Zu,⟨Zp,Zo,Zl⟩,ZC,ZE⟩) ⟨YI,p_id⟩
   unfold Tf
   rw [show WV (ZJ.nd ⟨⟨⟨Za,Zd⟩,⟨Zc,Zg⟩,⟨Zk,Zj,Zh⟩,⟨Zf,Ze,Zb⟩⟩,Zr,Zq,ZD,Zx,ZM,Zz,Zv,Zt,Zn,Zw,Zm,Zu,⟨Zp,Zo,Zl⟩,ZC,ZE⟩).table (ZJ.nd ⟨⟨⟨Za,Zd⟩,⟨Zc,Zg⟩,⟨Zk,Zj,Zh⟩,⟨Zf,Ze,Zb⟩⟩,Zr,Zq,ZD,Zx,ZM,Zz,Zv,Zt,Zn,Zw,Zm,Zu,⟨Zp,Zo,Zl⟩,ZC,ZE⟩).cursor ⟨YI,p_id⟩=_ from hA]
   rw [if_neg (by show ¬A3=0;omega)]
theorem wother_ok (M:Mem) (bw:Nat) (Za:Int) (Zd:Plc) (Zc:Int) (Zg:Plc) (Zk Zf Zp:Option Addr) (Zj Ze Zo:Nat) (Zh Zb:List Zs) (Zl:List Int) (Zr:Int) (Zq:Bool) (ZD Zx ZM Zz Zv Zt Zn Zw Zm:Int) (Zu:Plc) (ZC ZE:Int) (p:Zs):Fo Tryz.prog 124 [.pointer (some ⟨bw,0,none⟩),p.enc] M [(bw,rowO (ZN.segs ⟨⟨⟨⟨Za,Zd⟩,⟨Zc,Zg⟩,⟨Zk,Zj,Zh⟩,⟨Zf,Ze,Zb⟩⟩,Zr,Zq,ZD,Zx,ZM,Zz,Zv,Zt,Zn,Zw,Zm,Zu,⟨Zp,Zo,Zl⟩,ZC,ZE⟩,⟨none,0,[]⟩⟩) 166)] (fun M' v=>M'=M∧v=.bool (decide (Xn ⟨Za,Zd⟩ p))):=by
  obtain ⟨YI,p_id⟩:=p
  refine Vu Tryz.func124 rfl Tryz.ntmps124 rfl ?_;intro H
  iterate 2 refine Stp ?_
  refine Xq ?_;intro b1
  iterate 7 refine Stp ?_
  refine Zi F.foff166_0 ?_;refine Zi F.foff44_0 ?_;refine Zi F.foff41_0 ?_;refine Zy F.lay38 ?_
  refine Yz F.zero38 ?_;intro b2
  refine Ya F.lay38 ?_
  iterate 4 refine Stp ?_
  refine Zi F.foff38_0 ?_;refine Zy F.lay3 ?_
  iterate 2 refine Stp ?_
  refine Yt 15 rfl (cT fun hc3=>?_) (cF fun hc3=>?_)
  ·refine Zi F.foff38_0 ?_
   refine Zy F.lay3 ?_
   iterate 3 refine Stp ?_
   refine Yt 20 rfl (cT fun hc4=>?_) (cF fun hc4=>?_)
   ·refine Zi F.foff38_0 ?_
    refine Zy F.lay3 ?_;refine Zi F.foff38_0 ?_;refine Zy F.lay3 ?_
    iterate 3 refine Stp ?_
    refine Yt 27 rfl (eT fun hc5=>?_) (eF fun hc5=>?_)
    ·refine Zi F.foff38_1 ?_
     refine Zy F.lay36 ?_;refine Zi F.foff38_1 ?_;refine Zy F.lay36 ?_
     refine VE (m:=20) rfl rfl rfl rfl rfl jG jG F.lay36 F.kinds36 rfl F.guard36 (TD UZ) (TD UZ) rfl rfl rfl ?_;intro c6 he7
     replace he7:c6=true↔¬(Segs.cells _=Segs.cells _):=he7
     obtain rfl:=neD he7 (cells_id1 (x:=_) (y:=_));clear he7
     iterate 5 refine Stp ?_
     refine ZV (.inr rfl) (.tmp rfl .nil) (fun w hw=>?_)
     refine ⟨_,M,rfl,Mem.le.refl M,hw.c,rfl,?_⟩
     clear hw
     refine congrArg Value.bool ?_
     (simp_all [Xn,Yo];done)
    ·iterate 10 refine Stp ?_
     refine ZV (.inr rfl) (.tmp rfl .nil) (fun w hw=>?_)
     refine ⟨_,M,rfl,Mem.le.refl M,hw.c,rfl,?_⟩
     clear hw
     refine congrArg Value.bool ?_
     exact (decide_eq_false (fun h9=>by obtain ⟨⟨h1,h2⟩,h3,h4⟩:=h9;simp only at h1 h2 h3 h4;first|omega|contradiction)).symm
   ·iterate 17 refine Stp ?_
    refine ZV (.inr rfl) (.tmp rfl .nil) (fun w hw=>?_)
    refine ⟨_,M,rfl,Mem.le.refl M,hw.c,rfl,?_⟩
    clear hw
    refine congrArg Value.bool ?_
    exact (decide_eq_false (fun h9=>by obtain ⟨⟨h1,h2⟩,h3,h4⟩:=h9;simp only at h1 h2 h3 h4;first|omega|contradiction)).symm
  ·iterate 22 refine Stp ?_
   refine ZV (.inr rfl) (.tmp rfl .nil) (fun w hw=>?_)
   refine ⟨_,M,rfl,Mem.le.refl M,hw.c,rfl,?_⟩
   clear hw
   refine congrArg Value.bool ?_
   exact (decide_eq_false (fun h9=>by obtain ⟨⟨h1,h2⟩,h3,h4⟩:=h9;simp only at h1 h2 h3 h4;first|omega|contradiction)).symm
theorem F.fld38_0:fld Tryz.prog 38 0=some (0,3):=by kernel_rfl
theorem F.ok161:okFn Tryz.prog 161=true:=by kernel_rfl
theorem F.ok162:okFn Tryz.prog 162=true:=by kernel_rfl
theorem F.ok163:okFn Tryz.prog 163=true:=by kernel_rfl
theorem F.ok165:okFn Tryz.prog 165=true:=by kernel_rfl
theorem F.ok167:okFn Tryz.prog 167=true:=by kernel_rfl
theorem join_ok (M:Mem) (bw:Nat) (Za:Int) (Zd:Plc) (Zc:Int) (Zg:Plc) (Zk Zf Zp:Option Addr) (Zj Ze Zo:Nat) (Zh Zb:List Zs) (Zl:List Int) (Zr:Int) (Zq:Bool) (ZD Zx ZM Zz Zv Zt Zn Zw Zm:Int) (Zu:Plc) (ZC ZE:Int) (Yj:ZO.ok M ⟨⟨Za,Zd⟩,⟨Zc,Zg⟩,⟨Zk,Zj,Zh⟩,⟨Zf,Ze,Zb⟩⟩) (hav:Hp) (hA:OSl 3 1 (.slice Zp Zl.length Zo) hav (Zl.map (oneI .i64))) (hLa:Zl.length≤900) (hj:Zq=false):Fh Tryz.prog 161 [.pointer (some ⟨bw,0,none⟩)] M ((bw,rowO (ZN.segs ⟨⟨⟨⟨Za,Zd⟩,⟨Zc,Zg⟩,⟨Zk,Zj,Zh⟩,⟨Zf,Ze,Zb⟩⟩,Zr,Zq,ZD,Zx,ZM,Zz,Zv,Zt,Zn,Zw,Zm,Zu,⟨Zp,Zo,Zl⟩,ZC,ZE⟩,⟨none,0,[]⟩⟩) 166)::hav) (fun M' v Hout=>v=.tuple #[]∧WkF bw 166 M' Hout (TA (ZJ.nd ⟨⟨⟨Za,Zd⟩,⟨Zc,Zg⟩,⟨Zk,Zj,Zh⟩,⟨Zf,Ze,Zb⟩⟩,Zr,Zq,ZD,Zx,ZM,Zz,Zv,Zt,Zn,Zw,Zm,Zu,⟨Zp,Zo,Zl⟩,ZC,ZE⟩))):=by
  refine YR (fun H=>(bw,rowO (ZN.segs ⟨⟨⟨⟨Za,Zd⟩,⟨Zc,Zg⟩,⟨Zk,Zj,Zh⟩,⟨Zf,Ze,Zb⟩⟩,Zr,Zq,ZD,Zx,ZM,Zz,Zv,Zt,Zn,Zw,Zm,Zu,⟨Zp,Zo,Zl⟩,ZC,ZE⟩,⟨none,0,[]⟩⟩) 166)::(hav++H)) (fun _=>by simp only [List.append_assoc,List.cons_append,List.nil_append]) Tryz.func161 rfl Tryz.ntmps161 rfl ?_;intro H
  iterate 2 refine Stp ?_
  refine Yg (l:=[0,1,2,3,4,5,6,7,8,9,10,11,12,13,14,15,16,17,18]) #[0,1,3,7,15,31,63,127,255,511,1023,2047,127,4223,12415,28799,61567,131071,262143] _ rfl jI jI St.drawn (fun _ h=>h) ?_
  iterate 2 refine Stp ?_
  refine Zi F.foff166_0 ?_;refine Zi F.foff44_10 ?_;refine Zy F.lay3 ?_
  iterate 2 refine Stp ?_
  refine Yt 8 rfl (eT fun hc1=>?_) (eF fun hc1=>?_)
  ·iterate 2 refine Stp ?_
   refine Zi F.foff166_0 ?_;refine Zi F.foff44_10 ?_;refine Zy F.lay3 ?_
   iterate 2 refine Stp ?_
   refine Zi F.foff166_0 ?_;refine Zi F.foff44_3 ?_;refine Zy F.lay3 ?_
   iterate 4 refine Stp ?_
   refine ZW rfl (eT fun hc2=>?_) (eF fun hc2=>?_)
   ·refine YB (l:=[0,1,2,3,4,5,6]) [6] rfl ?_
    iterate 3 refine Stp ?_
    refine Zi F.foff166_0 ?_;refine Zi F.foff44_10 ?_;refine Zy F.lay3 ?_;refine XN rfl rfl rfl F.ok165 rfl (shun_ok M bw _ _ _ _ _ _ _ _ _ _ _ _ _ _ _ _ _ _ _ _ _ _ _ _ _ _ _ hav hA jC Zw) jA (ZT rfl) ?_
    rintro _ M1 hs1 hm1 ⟨hM1,rfl,⟨s_a,s_c,s_l⟩,hs9,rfl,ho9,hl9⟩
    subst M1
    simp only [Sl.val] at ho9
    simp only at hl9
    have hLs:s_l.length≤901:=shun_len hl9 hLa
    simp only [List.append_assoc,List.cons_append,List.nil_append]
    refine Xb (Xu ?_)
    iterate 2 refine Stp ?_
    refine Sp ho9 jA (fun M2 hM2 k9=>?_)
    iterate 5 refine Stp ?_
    refine Zi F.foff166_0 ?_;refine Zi F.foff44_0 ?_;refine Zi F.foff41_0 ?_;refine Zi F.foff38_1 ?_;refine Zy F.lay36 ?_;refine YT ?_;refine Zi F.foff166_0 ?_;refine Zi F.foff44_12 ?_;refine Ya F.lay36 ?_;refine YT ?_;refine Zi F.foff166_0 ?_;refine Zi F.foff44_14 ?_;refine Ya F.lay3 ?_
    iterate 2 refine Stp ?_
    refine YB (l:=[0,1,2,3,4,5,6]) [6] rfl ?_
    iterate 3 refine Stp ?_
    refine Zi F.foff166_0 ?_;refine Zi F.foff44_3 ?_;refine Zy F.lay3 ?_;refine XN rfl rfl rfl F.ok167 rfl (seek_ok M2 bw _ _ _ _ _ _ _ _ _ _ _ _ _ _ _ _ _ _ _ _ _ _ _ _ _ _ _ (Yj.mono hM2) k9 jC ZD) jA (ZT rfl) ?_
    rintro _ M3 hs3 hm3 ⟨rfl,⟨⟨⟨YJ,YP⟩,⟨YK,YQ⟩,⟨YW,YV,YU⟩,⟨YN,YM,YL⟩⟩,Wm,Wr,Vn,Wl,Ua,WH,Wn,Wi,XR,Wj,XS,Wk,⟨XV,XU,XT⟩,Vj,Vi⟩,⟨o_a,o_c,o_l⟩,rfl,hv1,hv2,okv,oko,okq⟩
    simp only [List.append_assoc,List.cons_append,List.nil_append]
    refine Xb (Xu ?_)
    refine ZV (.inl rfl) (.nil) (fun w hw=>?_)
    have h3:=stab_alone (n:=ZJ.nd ⟨⟨⟨Za,Zd⟩,⟨Zc,Zg⟩,⟨Zk,Zj,Zh⟩,⟨Zf,Ze,Zb⟩⟩,Zr,Zq,ZD,Zx,ZM,Zz,Zv,Zt,Zn,Zw,Zm,Zu,⟨Zp,Zo,Zl⟩,ZC,ZE⟩) (l:=s_l) (show Zq=false from hj) (by rw [if_pos (show (ZJ.nd ⟨⟨⟨Za,Zd⟩,⟨Zc,Zg⟩,⟨Zk,Zj,Zh⟩,⟨Zf,Ze,Zb⟩⟩,Zr,Zq,ZD,Zx,ZM,Zz,Zv,Zt,Zn,Zw,Zm,Zu,⟨Zp,Zo,Zl⟩,ZC,ZE⟩).findTo≠-1∧(ZJ.nd ⟨⟨⟨Za,Zd⟩,⟨Zc,Zg⟩,⟨Zk,Zj,Zh⟩,⟨Zf,Ze,Zb⟩⟩,Zr,Zq,ZD,Zx,ZM,Zz,Zv,Zt,Zn,Zw,Zm,Zu,⟨Zp,Zo,Zl⟩,ZC,ZE⟩).findTo≠(ZJ.nd ⟨⟨⟨Za,Zd⟩,⟨Zc,Zg⟩,⟨Zk,Zj,Zh⟩,⟨Zf,Ze,Zb⟩⟩,Zr,Zq,ZD,Zx,ZM,Zz,Zv,Zt,Zn,Zw,Zm,Zu,⟨Zp,Zo,Zl⟩,ZC,ZE⟩).boot from (show Zw≠-1∧Zw≠ZD by constructor <;> first|assumption|omega))];exact hl9)
    exact ⟨_,M3,[(bw,rowO (ZN.segs ⟨⟨⟨⟨YJ,YP⟩,⟨YK,YQ⟩,⟨YW,YV,YU⟩,⟨YN,YM,YL⟩⟩,Wm,Wr,Vn,Wl,Ua,WH,Wn,Wi,XR,Wj,XS,Wk,⟨XV,XU,XT⟩,Vj,Vi⟩,⟨o_a,o_c,o_l⟩⟩) 166)],rfl,(hM2.trans hm3),hw.c,rfl,⟨⟨⟨YJ,YP⟩,⟨YK,YQ⟩,⟨YW,YV,YU⟩,⟨YN,YM,YL⟩⟩,Wm,Wr,Vn,Wl,Ua,WH,Wn,Wi,XR,Wj,XS,Wk,⟨XV,XU,XT⟩,Vj,Vi⟩,⟨o_a,o_c,o_l⟩,rfl,by rw [h3];exact hv1,by rw [h3];exact hv2,okv,oko,okq⟩
   ·iterate 3 refine Stp ?_
    refine Sp hA jA (fun M2 hM2 k9=>?_)
    iterate 5 refine Stp ?_
    refine Zi F.foff166_0 ?_;refine Zi F.foff44_0 ?_;refine Zi F.foff41_0 ?_;refine Zi F.foff38_1 ?_;refine Zy F.lay36 ?_;refine YT ?_;refine Zi F.foff166_0 ?_;refine Zi F.foff44_12 ?_;refine Ya F.lay36 ?_;refine YT ?_;refine Zi F.foff166_0 ?_;refine Zi F.foff44_14 ?_;refine Ya F.lay3 ?_
    iterate 2 refine Stp ?_
    refine YB (l:=[0,1,2,3,4,5,6]) [6] rfl ?_
    iterate 3 refine Stp ?_
    refine Zi F.foff166_0 ?_;refine Zi F.foff44_3 ?_;refine Zy F.lay3 ?_;refine XN rfl rfl rfl F.ok167 rfl (seek_ok M2 bw _ _ _ _ _ _ _ _ _ _ _ _ _ _ _ _ _ _ _ _ _ _ _ _ _ _ _ (Yj.mono hM2) k9 jC ZD) jA (ZT rfl) ?_
    rintro _ M3 hs3 hm3 ⟨rfl,⟨⟨⟨YJ,YP⟩,⟨YK,YQ⟩,⟨YW,YV,YU⟩,⟨YN,YM,YL⟩⟩,Wm,Wr,Vn,Wl,Ua,WH,Wn,Wi,XR,Wj,XS,Wk,⟨XV,XU,XT⟩,Vj,Vi⟩,⟨o_a,o_c,o_l⟩,rfl,hv1,hv2,okv,oko,okq⟩
    simp only [List.append_assoc,List.cons_append,List.nil_append]
    refine Xb (Xu ?_)
    refine ZV (.inl rfl) (.nil) (fun w hw=>?_)
    have h3:=stab_alone (n:=ZJ.nd ⟨⟨⟨Za,Zd⟩,⟨Zc,Zg⟩,⟨Zk,Zj,Zh⟩,⟨Zf,Ze,Zb⟩⟩,Zr,Zq,ZD,Zx,ZM,Zz,Zv,Zt,Zn,Zw,Zm,Zu,⟨Zp,Zo,Zl⟩,ZC,ZE⟩) (l:=Zl) (show Zq=false from hj) (by rw [if_neg (show ¬((ZJ.nd ⟨⟨⟨Za,Zd⟩,⟨Zc,Zg⟩,⟨Zk,Zj,Zh⟩,⟨Zf,Ze,Zb⟩⟩,Zr,Zq,ZD,Zx,ZM,Zz,Zv,Zt,Zn,Zw,Zm,Zu,⟨Zp,Zo,Zl⟩,ZC,ZE⟩).findTo≠-1∧(ZJ.nd ⟨⟨⟨Za,Zd⟩,⟨Zc,Zg⟩,⟨Zk,Zj,Zh⟩,⟨Zf,Ze,Zb⟩⟩,Zr,Zq,ZD,Zx,ZM,Zz,Zv,Zt,Zn,Zw,Zm,Zu,⟨Zp,Zo,Zl⟩,ZC,ZE⟩).findTo≠(ZJ.nd ⟨⟨⟨Za,Zd⟩,⟨Zc,Zg⟩,⟨Zk,Zj,Zh⟩,⟨Zf,Ze,Zb⟩⟩,Zr,Zq,ZD,Zx,ZM,Zz,Zv,Zt,Zn,Zw,Zm,Zu,⟨Zp,Zo,Zl⟩,ZC,ZE⟩).boot) from (show ¬(Zw≠-1∧Zw≠ZD) by first|assumption|omega))];rfl)
    exact ⟨_,M3,[(bw,rowO (ZN.segs ⟨⟨⟨⟨YJ,YP⟩,⟨YK,YQ⟩,⟨YW,YV,YU⟩,⟨YN,YM,YL⟩⟩,Wm,Wr,Vn,Wl,Ua,WH,Wn,Wi,XR,Wj,XS,Wk,⟨XV,XU,XT⟩,Vj,Vi⟩,⟨o_a,o_c,o_l⟩⟩) 166)],rfl,(hM2.trans hm3),hw.c,rfl,⟨⟨⟨YJ,YP⟩,⟨YK,YQ⟩,⟨YW,YV,YU⟩,⟨YN,YM,YL⟩⟩,Wm,Wr,Vn,Wl,Ua,WH,Wn,Wi,XR,Wj,XS,Wk,⟨XV,XU,XT⟩,Vj,Vi⟩,⟨o_a,o_c,o_l⟩,rfl,by rw [h3];exact hv1,by rw [h3];exact hv2,okv,oko,okq⟩
  ·iterate 18 refine Stp ?_
   refine Sp hA jA (fun M2 hM2 k9=>?_)
   iterate 5 refine Stp ?_
   refine Zi F.foff166_0 ?_;refine Zi F.foff44_0 ?_;refine Zi F.foff41_0 ?_;refine Zi F.foff38_1 ?_;refine Zy F.lay36 ?_;refine YT ?_;refine Zi F.foff166_0 ?_;refine Zi F.foff44_12 ?_;refine Ya F.lay36 ?_;refine YT ?_;refine Zi F.foff166_0 ?_;refine Zi F.foff44_14 ?_;refine Ya F.lay3 ?_
   iterate 2 refine Stp ?_
   refine YB (l:=[0,1,2,3,4,5,6]) [6] rfl ?_
   iterate 3 refine Stp ?_
   refine Zi F.foff166_0 ?_;refine Zi F.foff44_3 ?_;refine Zy F.lay3 ?_;refine XN rfl rfl rfl F.ok167 rfl (seek_ok M2 bw _ _ _ _ _ _ _ _ _ _ _ _ _ _ _ _ _ _ _ _ _ _ _ _ _ _ _ (Yj.mono hM2) k9 jC ZD) jA (ZT rfl) ?_
   rintro _ M3 hs3 hm3 ⟨rfl,⟨⟨⟨YJ,YP⟩,⟨YK,YQ⟩,⟨YW,YV,YU⟩,⟨YN,YM,YL⟩⟩,Wm,Wr,Vn,Wl,Ua,WH,Wn,Wi,XR,Wj,XS,Wk,⟨XV,XU,XT⟩,Vj,Vi⟩,⟨o_a,o_c,o_l⟩,rfl,hv1,hv2,okv,oko,okq⟩
   simp only [List.append_assoc,List.cons_append,List.nil_append]
   refine Xb (Xu ?_)
   refine ZV (.inl rfl) (.nil) (fun w hw=>?_)
   have h3:=stab_alone (n:=ZJ.nd ⟨⟨⟨Za,Zd⟩,⟨Zc,Zg⟩,⟨Zk,Zj,Zh⟩,⟨Zf,Ze,Zb⟩⟩,Zr,Zq,ZD,Zx,ZM,Zz,Zv,Zt,Zn,Zw,Zm,Zu,⟨Zp,Zo,Zl⟩,ZC,ZE⟩) (l:=Zl) (show Zq=false from hj) (by rw [if_neg (show ¬((ZJ.nd ⟨⟨⟨Za,Zd⟩,⟨Zc,Zg⟩,⟨Zk,Zj,Zh⟩,⟨Zf,Ze,Zb⟩⟩,Zr,Zq,ZD,Zx,ZM,Zz,Zv,Zt,Zn,Zw,Zm,Zu,⟨Zp,Zo,Zl⟩,ZC,ZE⟩).findTo≠-1∧(ZJ.nd ⟨⟨⟨Za,Zd⟩,⟨Zc,Zg⟩,⟨Zk,Zj,Zh⟩,⟨Zf,Ze,Zb⟩⟩,Zr,Zq,ZD,Zx,ZM,Zz,Zv,Zt,Zn,Zw,Zm,Zu,⟨Zp,Zo,Zl⟩,ZC,ZE⟩).findTo≠(ZJ.nd ⟨⟨⟨Za,Zd⟩,⟨Zc,Zg⟩,⟨Zk,Zj,Zh⟩,⟨Zf,Ze,Zb⟩⟩,Zr,Zq,ZD,Zx,ZM,Zz,Zv,Zt,Zn,Zw,Zm,Zu,⟨Zp,Zo,Zl⟩,ZC,ZE⟩).boot) from (show ¬(Zw≠-1∧Zw≠ZD) by first|assumption|omega))];rfl)
   exact ⟨_,M3,[(bw,rowO (ZN.segs ⟨⟨⟨⟨YJ,YP⟩,⟨YK,YQ⟩,⟨YW,YV,YU⟩,⟨YN,YM,YL⟩⟩,Wm,Wr,Vn,Wl,Ua,WH,Wn,Wi,XR,Wj,XS,Wk,⟨XV,XU,XT⟩,Vj,Vi⟩,⟨o_a,o_c,o_l⟩⟩) 166)],rfl,(hM2.trans hm3),hw.c,rfl,⟨⟨⟨YJ,YP⟩,⟨YK,YQ⟩,⟨YW,YV,YU⟩,⟨YN,YM,YL⟩⟩,Wm,Wr,Vn,Wl,Ua,WH,Wn,Wi,XR,Wj,XS,Wk,⟨XV,XU,XT⟩,Vj,Vi⟩,⟨o_a,o_c,o_l⟩,rfl,by rw [h3];exact hv1,by rw [h3];exact hv2,okv,oko,okq⟩
theorem stab_ok (M:Mem) (bw:Nat) (Za:Int) (Zd:Plc) (Zc:Int) (Zg:Plc) (Zk Zf Zp:Option Addr) (Zj Ze Zo:Nat) (Zh Zb:List Zs) (Zl:List Int) (Zr:Int) (Zq:Bool) (ZD Zx ZM Zz Zv Zt Zn Zw Zm:Int) (Zu:Plc) (ZC ZE:Int) (Yj:ZO.ok M ⟨⟨Za,Zd⟩,⟨Zc,Zg⟩,⟨Zk,Zj,Zh⟩,⟨Zf,Ze,Zb⟩⟩) (hbig:Zh.length≤40∧Zb.length≤200) (hav:Hp) (hA:OSl 3 1 (.slice Zp Zl.length Zo) hav (Zl.map (oneI .i64))) (hLa:Zl.length≤900):Fh Tryz.prog 105 [.pointer (some ⟨bw,0,none⟩)] M ((bw,rowO (ZN.segs ⟨⟨⟨⟨Za,Zd⟩,⟨Zc,Zg⟩,⟨Zk,Zj,Zh⟩,⟨Zf,Ze,Zb⟩⟩,Zr,Zq,ZD,Zx,ZM,Zz,Zv,Zt,Zn,Zw,Zm,Zu,⟨Zp,Zo,Zl⟩,ZC,ZE⟩,⟨none,0,[]⟩⟩) 166)::hav) (fun M' v Hout=>v=.tuple #[]∧WkF bw 166 M' Hout (TA (ZJ.nd ⟨⟨⟨Za,Zd⟩,⟨Zc,Zg⟩,⟨Zk,Zj,Zh⟩,⟨Zf,Ze,Zb⟩⟩,Zr,Zq,ZD,Zx,ZM,Zz,Zv,Zt,Zn,Zw,Zm,Zu,⟨Zp,Zo,Zl⟩,ZC,ZE⟩))):=by
  refine YR (fun H=>(bw,rowO (ZN.segs ⟨⟨⟨⟨Za,Zd⟩,⟨Zc,Zg⟩,⟨Zk,Zj,Zh⟩,⟨Zf,Ze,Zb⟩⟩,Zr,Zq,ZD,Zx,ZM,Zz,Zv,Zt,Zn,Zw,Zm,Zu,⟨Zp,Zo,Zl⟩,ZC,ZE⟩,⟨none,0,[]⟩⟩) 166)::(hav++H)) (fun _=>by simp only [List.append_assoc,List.cons_append,List.nil_append]) Tryz.func105 rfl Tryz.ntmps105 rfl ?_;intro H
  iterate 5 refine Stp ?_
  refine Zi F.foff166_0 ?_;refine Zi F.foff44_2 ?_;refine Zy F.lay4 ?_
  iterate 3 refine Stp ?_
  refine ZW rfl (fun hc1=>?_) (fun hc1=>?_)
  ·skip
   refine VP (YB (l:=[0,1]) [1] rfl ?_);refine Yk ?_;refine XN rfl rfl rfl F.ok161 rfl (join_ok M bw Za Zd Zc Zg Zk Zf Zp Zj Ze Zo Zh Zb Zl Zr Zq ZD Zx ZM Zz Zv Zt Zn Zw Zm Zu ZC ZE Yj hav hA hLa (by (simp_all;done))) jA (ZT rfl) ?_
   rintro _ M1 hs1 hm1 ⟨rfl,⟨⟨⟨YJ,YP⟩,⟨YK,YQ⟩,⟨YW,YV,YU⟩,⟨YN,YM,YL⟩⟩,Wm,Wr,Vn,Wl,Ua,WH,Wn,Wi,XR,Wj,XS,Wk,⟨XV,XU,XT⟩,Vj,Vi⟩,⟨o_a,o_c,o_l⟩,rfl,hv1,hv2,okv,oko,okq⟩
   simp only [List.append_assoc,List.cons_append,List.nil_append]
   refine Xb (Xu ?_)
   iterate 3 refine Stp ?_
   refine ZV (.inr rfl) (.nil) (fun w hw=>?_)
   exact ⟨_,M1,[(bw,rowO (ZN.segs ⟨⟨⟨⟨YJ,YP⟩,⟨YK,YQ⟩,⟨YW,YV,YU⟩,⟨YN,YM,YL⟩⟩,Wm,Wr,Vn,Wl,Ua,WH,Wn,Wi,XR,Wj,XS,Wk,⟨XV,XU,XT⟩,Vj,Vi⟩,⟨o_a,o_c,o_l⟩⟩) 166)],rfl,hm1,hw.c,rfl,⟨⟨⟨YJ,YP⟩,⟨YK,YQ⟩,⟨YW,YV,YU⟩,⟨YN,YM,YL⟩⟩,Wm,Wr,Vn,Wl,Ua,WH,Wn,Wi,XR,Wj,XS,Wk,⟨XV,XU,XT⟩,Vj,Vi⟩,⟨o_a,o_c,o_l⟩,rfl,by exact hv1,by exact hv2,okv,oko,okq⟩
  ·skip
   iterate 3 refine Stp ?_
   refine Sp hA jA (fun M2 hM2 k9=>?_)
   refine YB (l:=[0,1,2,3,4,5]) [5] rfl ?_
   iterate 3 refine Stp ?_
   refine Zi F.foff166_0 ?_;refine Zi F.foff44_6 ?_;refine XN rfl rfl rfl F.ok162 rfl (lostA_ok M2 bw _ _ _ _ _ _ _ _ _ _ _ _ _ _ _ _ _ _ _ _ _ _ _ _ _ _ _ (Yj.mono hM2) hbig) jA (ZT rfl) ?_
   rintro _ M3 hs3 hm3 ⟨rfl,⟨⟨oa,oi⟩,⟨oq,oj⟩,⟨o1a,o1c,o1l⟩,⟨o2a,o2c,o2l⟩⟩,a9,rfl,okt,hlo⟩
   have h1:=lost_ask (n:=ZJ.nd ⟨⟨⟨Za,Zd⟩,⟨Zc,Zg⟩,⟨Zk,Zj,Zh⟩,⟨Zf,Ze,Zb⟩⟩,Zr,Zq,ZD,Zx,ZM,Zz,Zv,Zt,Zn,Zw,Zm,Zu,⟨Zp,Zo,Zl⟩,ZC,ZE⟩) hlo
   simp only [List.append_assoc,List.cons_append,List.nil_append]
   refine Xb (Xu ?_)
   iterate 3 refine Stp ?_
   refine Yg (l:=[0,1,2,3,4,5,6,7,8,9,10,11,12,13,14,15,16,17]) #[0,1,3,7,15,31,63,127,255,511,1023,2047,4095,8191,16383,511,65535,131071] _ rfl jI jI St.drawn (fun _ h=>h) ?_
   iterate 2 refine Stp ?_
   refine Zi F.foff166_0 ?_;refine Zi F.foff44_0 ?_;refine Zi F.foff41_2 ?_;refine Zy F.lay39 ?_;refine YA F.elem39 ?_
   iterate 2 refine Stp ?_
   refine Yt 24 rfl (cT fun hc2=>?_) (cF fun hc2=>?_)
   ·iterate 2 refine Stp ?_
    refine Zi F.foff166_0 ?_;refine Zi F.foff44_0 ?_;refine Zi F.foff41_1 ?_;refine Zy F.lay38 ?_;refine X_fs rfl rfl F.ok78 rfl (Vp _) rfl ?_
    rintro _ rfl
    refine XI 31 rfl (show _=aggV [.one (.int .i64 (-1)),Yb 0] from rfl) ?_
    refine VE (m:=20) rfl rfl rfl rfl rfl jG jG F.lay38 F.kinds38 rfl F.guard38 jS jS rfl rfl rfl ?_;intro c3 he4
    replace he4:c3=true↔¬(Segs.cells _=Segs.cells _):=he4
    obtain rfl:=neD he4 (Zs.inj (x:=⟨_,_⟩) (y:=⟨_,_⟩));clear he4
    iterate 3 refine Stp ?_
    refine ZW rfl (eT fun hc5=>?_) (eF fun hc5=>?_)
    ·refine YB (l:=[0,1,2,3,4,5,6,7]) [7] rfl ?_
     iterate 3 refine Stp ?_
     refine Zi F.foff166_0 ?_;refine Zi F.foff44_0 ?_;refine Zi F.foff41_1 ?_;refine Zy F.lay38 ?_;refine XN rfl rfl rfl F.ok163 rfl (adopt_ok M3 bw _ _ _ _ _ _ _ _ _ _ _ _ _ _ _ _ _ _ _ _ _ _ _ _ _ _ _ okt ⟨oq,oj⟩ ⟨none,0,[]⟩ SlK.nil) jA (ZT rfl) ?_
     rintro _ M4 hs4 hm4 ⟨rfl,⟨⟨wa,wi⟩,⟨wq,wj⟩,⟨w1a,w1c,w1l⟩,⟨w2a,w2c,w2l⟩⟩,rfl,okl,hv1⟩
     simp only [List.append_assoc,List.cons_append,List.nil_append]
     refine Xb (Xu ?_)
     iterate 5 refine Stp ?_
     refine Zi F.foff166_0 ?_;refine Zi F.foff44_0 ?_;refine Zi F.foff41_2 ?_;refine Zy F.lay39 ?_;refine YA F.elem39 ?_
     iterate 3 refine Stp ?_
     refine ZW rfl (cT fun hc6=>?_) (cF fun hc6=>?_)
     ·iterate 5 refine Stp ?_
      refine Zi F.foff166_0 ?_;refine Zi F.foff44_0 ?_;refine Zy F.lay41 ?_;refine X_fs rfl rfl F.ok99 rfl (First_ok _ ⟨⟨wa,wi⟩,⟨wq,wj⟩,⟨w1a,w1c,w1l⟩,⟨w2a,w2c,w2l⟩⟩ okl) rfl ?_
      rintro _ rfl
      obtain ⟨⟨fa,fi⟩,hfi⟩:∃ x,Xy (ZO.tb ⟨⟨wa,wi⟩,⟨wq,wj⟩,⟨w1a,w1c,w1l⟩,⟨w2a,w2c,w2l⟩⟩)=x:=⟨_,rfl⟩
      rw [hfi]
      refine Y_field F.fld38_0 F.lay3 ?_;refine YT ?_;refine Zi F.foff166_0 ?_;refine Zi F.foff44_6 ?_;refine Ya F.lay3 ?_
      iterate 2 refine Stp ?_
      refine YB (l:=[0,1,2,3,4,5,6,7,8,9,10,11,12]) [8] rfl ?_
      iterate 4 refine Stp ?_
      refine Zi F.foff166_0 ?_;refine Zi F.foff44_6 ?_;refine Zy F.lay3 ?_;refine Xo rfl rfl F.bld128 (.cons rfl jG .nil) rfl rfl ?_;refine XN rfl rfl rfl F.ok164 rfl (request_ok M4 bw _ _ _ _ _ _ _ _ _ _ _ _ _ _ _ _ _ _ _ _ _ _ _ _ _ _ _ fa ⟨3,⟨0,0⟩,0,0,⟨none,0,[]⟩,false,⟨0,0⟩,⟨none,0,[]⟩⟩) jA (ZT rfl) ?_
      rintro _ M5 hs5 hm5 ⟨rfl,⟨o9a,o9c,o9l⟩,rfl,k9o,hl9⟩
      simp only at hl9
      simp only [List.append_assoc,List.cons_append,List.nil_append]
      refine YT ?_;refine Zi F.foff166_0 ?_;refine Zi F.foff44_7 ?_;refine Ya F.lay42 ?_;refine Xb (Xu ?_)
      refine ZV (.inl rfl) (.nil) (fun w hw=>?_)
      have h2:ZJ.nd ⟨⟨⟨wa,wi⟩,⟨wq,wj⟩,⟨w1a,w1c,w1l⟩,⟨w2a,w2c,w2l⟩⟩,Zr,Zq,ZD,Zx,ZM,a9,Zv,Zt,Zn,Zw,Zm,Zu,⟨Zp,Zo,Zl⟩,ZC,ZE⟩=if (ZJ.nd ⟨⟨⟨oa,oi⟩,⟨oq,oj⟩,⟨o1a,o1c,o1l⟩,⟨o2a,o2c,o2l⟩⟩,Zr,Zq,ZD,Zx,ZM,a9,Zv,Zt,Zn,Zw,Zm,Zu,⟨Zp,Zo,Zl⟩,ZC,ZE⟩).table.succ=[]∧(ZJ.nd ⟨⟨⟨oa,oi⟩,⟨oq,oj⟩,⟨o1a,o1c,o1l⟩,⟨o2a,o2c,o2l⟩⟩,Zr,Zq,ZD,Zx,ZM,a9,Zv,Zt,Zn,Zw,Zm,Zu,⟨Zp,Zo,Zl⟩,ZC,ZE⟩).table.pred≠YD then WG (ZJ.nd ⟨⟨⟨oa,oi⟩,⟨oq,oj⟩,⟨o1a,o1c,o1l⟩,⟨o2a,o2c,o2l⟩⟩,Zr,Zq,ZD,Zx,ZM,a9,Zv,Zt,Zn,Zw,Zm,Zu,⟨Zp,Zo,Zl⟩,ZC,ZE⟩) (ZJ.nd ⟨⟨⟨oa,oi⟩,⟨oq,oj⟩,⟨o1a,o1c,o1l⟩,⟨o2a,o2c,o2l⟩⟩,Zr,Zq,ZD,Zx,ZM,a9,Zv,Zt,Zn,Zw,Zm,Zu,⟨Zp,Zo,Zl⟩,ZC,ZE⟩).table.pred [] else (ZJ.nd ⟨⟨⟨oa,oi⟩,⟨oq,oj⟩,⟨o1a,o1c,o1l⟩,⟨o2a,o2c,o2l⟩⟩,Zr,Zq,ZD,Zx,ZM,a9,Zv,Zt,Zn,Zw,Zm,Zu,⟨Zp,Zo,Zl⟩,ZC,ZE⟩):=by
       rw [if_pos ⟨show o1l=[] from List.length_eq_zero_iff.1 jC,show (⟨oq,oj⟩:Zs)≠YD from jE⟩];exact hv1
      have h3:=stab_joined (n:=ZJ.nd ⟨⟨⟨Za,Zd⟩,⟨Zc,Zg⟩,⟨Zk,Zj,Zh⟩,⟨Zf,Ze,Zb⟩⟩,Zr,Zq,ZD,Zx,ZM,Zz,Zv,Zt,Zn,Zw,Zm,Zu,⟨Zp,Zo,Zl⟩,ZC,ZE⟩) zI h1 h2
      rw [if_neg (show ¬(ZJ.nd ⟨⟨⟨wa,wi⟩,⟨wq,wj⟩,⟨w1a,w1c,w1l⟩,⟨w2a,w2c,w2l⟩⟩,Zr,Zq,ZD,Zx,ZM,a9,Zv,Zt,Zn,Zw,Zm,Zu,⟨Zp,Zo,Zl⟩,ZC,ZE⟩).table.succ=[] from (fun q1=>absurd (show w1l.length=0 from congrArg List.length q1) jC)),show Xy (ZJ.nd ⟨⟨⟨wa,wi⟩,⟨wq,wj⟩,⟨w1a,w1c,w1l⟩,⟨w2a,w2c,w2l⟩⟩,Zr,Zq,ZD,Zx,ZM,a9,Zv,Zt,Zn,Zw,Zm,Zu,⟨Zp,Zo,Zl⟩,ZC,ZE⟩).table=⟨fa,fi⟩ from hfi] at h3
      refine ⟨_,M5,[(bw,rowO (ZN.segs ⟨⟨⟨⟨wa,wi⟩,⟨wq,wj⟩,⟨w1a,w1c,w1l⟩,⟨w2a,w2c,w2l⟩⟩,Zr,Zq,ZD,Zx,(nxR ZM),fa,(nxR ZM),Zt,Zn,Zw,Zm,Zu,⟨Zp,Zo,Zl⟩,ZC,ZE⟩,⟨o9a,o9c,o9l⟩⟩) 166)],rfl,(((hM2.trans hm3).trans hm4).trans hm5),hw.c,rfl,⟨⟨⟨wa,wi⟩,⟨wq,wj⟩,⟨w1a,w1c,w1l⟩,⟨w2a,w2c,w2l⟩⟩,Zr,Zq,ZD,Zx,(nxR ZM),fa,(nxR ZM),Zt,Zn,Zw,Zm,Zu,⟨Zp,Zo,Zl⟩,ZC,ZE⟩,⟨o9a,o9c,o9l⟩,rfl,?_,?_,⟨okl.mono hm5,((k9.mono hm3).mono hm4).mono hm5⟩,k9o,fun y hy=>?_⟩
      ·rw [h3] <;> rfl
      ·rw [h3]
       show sndl o9l=_
       rw [hl9];rfl
      ·simp only at hy
       rw [hl9] at hy
       obtain rfl:=List.mem_singleton.1 hy
       exact ⟨⟨SlK.nil,SlK.nil⟩⟩
     ·refine Vy ?_
      refine ZV (.inl rfl) (.nil) (fun w hw=>?_)
      have h2:ZJ.nd ⟨⟨⟨wa,wi⟩,⟨wq,wj⟩,⟨w1a,w1c,w1l⟩,⟨w2a,w2c,w2l⟩⟩,Zr,Zq,ZD,Zx,ZM,a9,Zv,Zt,Zn,Zw,Zm,Zu,⟨Zp,Zo,Zl⟩,ZC,ZE⟩=if (ZJ.nd ⟨⟨⟨oa,oi⟩,⟨oq,oj⟩,⟨o1a,o1c,o1l⟩,⟨o2a,o2c,o2l⟩⟩,Zr,Zq,ZD,Zx,ZM,a9,Zv,Zt,Zn,Zw,Zm,Zu,⟨Zp,Zo,Zl⟩,ZC,ZE⟩).table.succ=[]∧(ZJ.nd ⟨⟨⟨oa,oi⟩,⟨oq,oj⟩,⟨o1a,o1c,o1l⟩,⟨o2a,o2c,o2l⟩⟩,Zr,Zq,ZD,Zx,ZM,a9,Zv,Zt,Zn,Zw,Zm,Zu,⟨Zp,Zo,Zl⟩,ZC,ZE⟩).table.pred≠YD then WG (ZJ.nd ⟨⟨⟨oa,oi⟩,⟨oq,oj⟩,⟨o1a,o1c,o1l⟩,⟨o2a,o2c,o2l⟩⟩,Zr,Zq,ZD,Zx,ZM,a9,Zv,Zt,Zn,Zw,Zm,Zu,⟨Zp,Zo,Zl⟩,ZC,ZE⟩) (ZJ.nd ⟨⟨⟨oa,oi⟩,⟨oq,oj⟩,⟨o1a,o1c,o1l⟩,⟨o2a,o2c,o2l⟩⟩,Zr,Zq,ZD,Zx,ZM,a9,Zv,Zt,Zn,Zw,Zm,Zu,⟨Zp,Zo,Zl⟩,ZC,ZE⟩).table.pred [] else (ZJ.nd ⟨⟨⟨oa,oi⟩,⟨oq,oj⟩,⟨o1a,o1c,o1l⟩,⟨o2a,o2c,o2l⟩⟩,Zr,Zq,ZD,Zx,ZM,a9,Zv,Zt,Zn,Zw,Zm,Zu,⟨Zp,Zo,Zl⟩,ZC,ZE⟩):=by
       rw [if_pos ⟨show o1l=[] from List.length_eq_zero_iff.1 jC,show (⟨oq,oj⟩:Zs)≠YD from jE⟩];exact hv1
      have h3:=stab_joined (n:=ZJ.nd ⟨⟨⟨Za,Zd⟩,⟨Zc,Zg⟩,⟨Zk,Zj,Zh⟩,⟨Zf,Ze,Zb⟩⟩,Zr,Zq,ZD,Zx,ZM,Zz,Zv,Zt,Zn,Zw,Zm,Zu,⟨Zp,Zo,Zl⟩,ZC,ZE⟩) zI h1 h2
      rw [if_pos (show (ZJ.nd ⟨⟨⟨wa,wi⟩,⟨wq,wj⟩,⟨w1a,w1c,w1l⟩,⟨w2a,w2c,w2l⟩⟩,Zr,Zq,ZD,Zx,ZM,a9,Zv,Zt,Zn,Zw,Zm,Zu,⟨Zp,Zo,Zl⟩,ZC,ZE⟩).table.succ=[] from List.length_eq_zero_iff.1 (show w1l.length=0 from by omega))] at h3
      refine ⟨_,M4,[(bw,rowO (ZN.segs ⟨⟨⟨⟨wa,wi⟩,⟨wq,wj⟩,⟨w1a,w1c,w1l⟩,⟨w2a,w2c,w2l⟩⟩,Zr,Zq,ZD,Zx,ZM,a9,Zv,Zt,Zn,Zw,Zm,Zu,⟨Zp,Zo,Zl⟩,ZC,ZE⟩,⟨none,0,[]⟩⟩) 166)],rfl,((hM2.trans hm3).trans hm4),hw.c,rfl,⟨⟨⟨wa,wi⟩,⟨wq,wj⟩,⟨w1a,w1c,w1l⟩,⟨w2a,w2c,w2l⟩⟩,Zr,Zq,ZD,Zx,ZM,a9,Zv,Zt,Zn,Zw,Zm,Zu,⟨Zp,Zo,Zl⟩,ZC,ZE⟩,⟨none,0,[]⟩,rfl,?_,?_,⟨okl,((k9.mono hm3).mono hm4)⟩,SlK.nil,fun y hy=>by cases hy⟩
      ·rw [h3] <;> rfl
      ·rw [h3] <;> rfl
    ·iterate 6 refine Stp ?_
     refine Zi F.foff166_0 ?_;refine Zi F.foff44_0 ?_;refine Zi F.foff41_2 ?_;refine Zy F.lay39 ?_;refine YA F.elem39 ?_
     iterate 3 refine Stp ?_
     refine ZW rfl (cT fun hc7=>?_) (cF fun hc7=>?_)
     ·(exfalso;omega)
     ·refine Vy ?_
      refine ZV (.inl rfl) (.nil) (fun w hw=>?_)
      have h2:ZJ.nd ⟨⟨⟨oa,oi⟩,⟨oq,oj⟩,⟨o1a,o1c,o1l⟩,⟨o2a,o2c,o2l⟩⟩,Zr,Zq,ZD,Zx,ZM,a9,Zv,Zt,Zn,Zw,Zm,Zu,⟨Zp,Zo,Zl⟩,ZC,ZE⟩=if (ZJ.nd ⟨⟨⟨oa,oi⟩,⟨oq,oj⟩,⟨o1a,o1c,o1l⟩,⟨o2a,o2c,o2l⟩⟩,Zr,Zq,ZD,Zx,ZM,a9,Zv,Zt,Zn,Zw,Zm,Zu,⟨Zp,Zo,Zl⟩,ZC,ZE⟩).table.succ=[]∧(ZJ.nd ⟨⟨⟨oa,oi⟩,⟨oq,oj⟩,⟨o1a,o1c,o1l⟩,⟨o2a,o2c,o2l⟩⟩,Zr,Zq,ZD,Zx,ZM,a9,Zv,Zt,Zn,Zw,Zm,Zu,⟨Zp,Zo,Zl⟩,ZC,ZE⟩).table.pred≠YD then WG (ZJ.nd ⟨⟨⟨oa,oi⟩,⟨oq,oj⟩,⟨o1a,o1c,o1l⟩,⟨o2a,o2c,o2l⟩⟩,Zr,Zq,ZD,Zx,ZM,a9,Zv,Zt,Zn,Zw,Zm,Zu,⟨Zp,Zo,Zl⟩,ZC,ZE⟩) (ZJ.nd ⟨⟨⟨oa,oi⟩,⟨oq,oj⟩,⟨o1a,o1c,o1l⟩,⟨o2a,o2c,o2l⟩⟩,Zr,Zq,ZD,Zx,ZM,a9,Zv,Zt,Zn,Zw,Zm,Zu,⟨Zp,Zo,Zl⟩,ZC,ZE⟩).table.pred [] else (ZJ.nd ⟨⟨⟨oa,oi⟩,⟨oq,oj⟩,⟨o1a,o1c,o1l⟩,⟨o2a,o2c,o2l⟩⟩,Zr,Zq,ZD,Zx,ZM,a9,Zv,Zt,Zn,Zw,Zm,Zu,⟨Zp,Zo,Zl⟩,ZC,ZE⟩):=by
       rw [if_neg (by rintro ⟨q1,q2⟩;exact q2 (show (⟨oq,oj⟩:Zs)=YD from jE))]
      have h3:=stab_joined (n:=ZJ.nd ⟨⟨⟨Za,Zd⟩,⟨Zc,Zg⟩,⟨Zk,Zj,Zh⟩,⟨Zf,Ze,Zb⟩⟩,Zr,Zq,ZD,Zx,ZM,Zz,Zv,Zt,Zn,Zw,Zm,Zu,⟨Zp,Zo,Zl⟩,ZC,ZE⟩) zI h1 h2
      rw [if_pos (show (ZJ.nd ⟨⟨⟨oa,oi⟩,⟨oq,oj⟩,⟨o1a,o1c,o1l⟩,⟨o2a,o2c,o2l⟩⟩,Zr,Zq,ZD,Zx,ZM,a9,Zv,Zt,Zn,Zw,Zm,Zu,⟨Zp,Zo,Zl⟩,ZC,ZE⟩).table.succ=[] from List.length_eq_zero_iff.1 (show o1l.length=0 from by omega))] at h3
      refine ⟨_,M3,[(bw,rowO (ZN.segs ⟨⟨⟨⟨oa,oi⟩,⟨oq,oj⟩,⟨o1a,o1c,o1l⟩,⟨o2a,o2c,o2l⟩⟩,Zr,Zq,ZD,Zx,ZM,a9,Zv,Zt,Zn,Zw,Zm,Zu,⟨Zp,Zo,Zl⟩,ZC,ZE⟩,⟨none,0,[]⟩⟩) 166)],rfl,(hM2.trans hm3),hw.c,rfl,⟨⟨⟨oa,oi⟩,⟨oq,oj⟩,⟨o1a,o1c,o1l⟩,⟨o2a,o2c,o2l⟩⟩,Zr,Zq,ZD,Zx,ZM,a9,Zv,Zt,Zn,Zw,Zm,Zu,⟨Zp,Zo,Zl⟩,ZC,ZE⟩,⟨none,0,[]⟩,rfl,?_,?_,⟨okt,(k9.mono hm3)⟩,SlK.nil,fun y hy=>by cases hy⟩
      ·rw [h3] <;> rfl
      ·rw [h3] <;> rfl
   ·iterate 18 refine Stp ?_
    refine Zi F.foff166_0 ?_;refine Zi F.foff44_0 ?_;refine Zi F.foff41_2 ?_;refine Zy F.lay39 ?_;refine YA F.elem39 ?_
    iterate 3 refine Stp ?_
    refine ZW rfl (cT fun hc8=>?_) (cF fun hc8=>?_)
    ·iterate 5 refine Stp ?_
     refine Zi F.foff166_0 ?_;refine Zi F.foff44_0 ?_;refine Zy F.lay41 ?_;refine X_fs rfl rfl F.ok99 rfl (First_ok _ ⟨⟨oa,oi⟩,⟨oq,oj⟩,⟨o1a,o1c,o1l⟩,⟨o2a,o2c,o2l⟩⟩ okt) rfl ?_
     rintro _ rfl
     obtain ⟨⟨fa,fi⟩,hfi⟩:∃ x,Xy (ZO.tb ⟨⟨oa,oi⟩,⟨oq,oj⟩,⟨o1a,o1c,o1l⟩,⟨o2a,o2c,o2l⟩⟩)=x:=⟨_,rfl⟩
     rw [hfi]
     refine Y_field F.fld38_0 F.lay3 ?_;refine YT ?_;refine Zi F.foff166_0 ?_;refine Zi F.foff44_6 ?_;refine Ya F.lay3 ?_
     iterate 2 refine Stp ?_
     refine YB (l:=[0,1,2,3,4,5,6,7,8,9,10,11,12]) [8] rfl ?_
     iterate 4 refine Stp ?_
     refine Zi F.foff166_0 ?_;refine Zi F.foff44_6 ?_;refine Zy F.lay3 ?_;refine Xo rfl rfl F.bld128 (.cons rfl jG .nil) rfl rfl ?_;refine XN rfl rfl rfl F.ok164 rfl (request_ok M3 bw _ _ _ _ _ _ _ _ _ _ _ _ _ _ _ _ _ _ _ _ _ _ _ _ _ _ _ fa ⟨3,⟨0,0⟩,0,0,⟨none,0,[]⟩,false,⟨0,0⟩,⟨none,0,[]⟩⟩) jA (ZT rfl) ?_
     rintro _ M5 hs5 hm5 ⟨rfl,⟨o9a,o9c,o9l⟩,rfl,k9o,hl9⟩
     simp only at hl9
     simp only [List.append_assoc,List.cons_append,List.nil_append]
     refine YT ?_;refine Zi F.foff166_0 ?_;refine Zi F.foff44_7 ?_;refine Ya F.lay42 ?_;refine Xb (Xu ?_)
     refine ZV (.inl rfl) (.nil) (fun w hw=>?_)
     have h2:ZJ.nd ⟨⟨⟨oa,oi⟩,⟨oq,oj⟩,⟨o1a,o1c,o1l⟩,⟨o2a,o2c,o2l⟩⟩,Zr,Zq,ZD,Zx,ZM,a9,Zv,Zt,Zn,Zw,Zm,Zu,⟨Zp,Zo,Zl⟩,ZC,ZE⟩=if (ZJ.nd ⟨⟨⟨oa,oi⟩,⟨oq,oj⟩,⟨o1a,o1c,o1l⟩,⟨o2a,o2c,o2l⟩⟩,Zr,Zq,ZD,Zx,ZM,a9,Zv,Zt,Zn,Zw,Zm,Zu,⟨Zp,Zo,Zl⟩,ZC,ZE⟩).table.succ=[]∧(ZJ.nd ⟨⟨⟨oa,oi⟩,⟨oq,oj⟩,⟨o1a,o1c,o1l⟩,⟨o2a,o2c,o2l⟩⟩,Zr,Zq,ZD,Zx,ZM,a9,Zv,Zt,Zn,Zw,Zm,Zu,⟨Zp,Zo,Zl⟩,ZC,ZE⟩).table.pred≠YD then WG (ZJ.nd ⟨⟨⟨oa,oi⟩,⟨oq,oj⟩,⟨o1a,o1c,o1l⟩,⟨o2a,o2c,o2l⟩⟩,Zr,Zq,ZD,Zx,ZM,a9,Zv,Zt,Zn,Zw,Zm,Zu,⟨Zp,Zo,Zl⟩,ZC,ZE⟩) (ZJ.nd ⟨⟨⟨oa,oi⟩,⟨oq,oj⟩,⟨o1a,o1c,o1l⟩,⟨o2a,o2c,o2l⟩⟩,Zr,Zq,ZD,Zx,ZM,a9,Zv,Zt,Zn,Zw,Zm,Zu,⟨Zp,Zo,Zl⟩,ZC,ZE⟩).table.pred [] else (ZJ.nd ⟨⟨⟨oa,oi⟩,⟨oq,oj⟩,⟨o1a,o1c,o1l⟩,⟨o2a,o2c,o2l⟩⟩,Zr,Zq,ZD,Zx,ZM,a9,Zv,Zt,Zn,Zw,Zm,Zu,⟨Zp,Zo,Zl⟩,ZC,ZE⟩):=by
      rw [if_neg (by rintro ⟨q1,q2⟩;have q3:o1l.length=0:=congrArg List.length q1;omega)]
     have h3:=stab_joined (n:=ZJ.nd ⟨⟨⟨Za,Zd⟩,⟨Zc,Zg⟩,⟨Zk,Zj,Zh⟩,⟨Zf,Ze,Zb⟩⟩,Zr,Zq,ZD,Zx,ZM,Zz,Zv,Zt,Zn,Zw,Zm,Zu,⟨Zp,Zo,Zl⟩,ZC,ZE⟩) zI h1 h2
     rw [if_neg (show ¬(ZJ.nd ⟨⟨⟨oa,oi⟩,⟨oq,oj⟩,⟨o1a,o1c,o1l⟩,⟨o2a,o2c,o2l⟩⟩,Zr,Zq,ZD,Zx,ZM,a9,Zv,Zt,Zn,Zw,Zm,Zu,⟨Zp,Zo,Zl⟩,ZC,ZE⟩).table.succ=[] from (fun q1=>absurd (show o1l.length=0 from congrArg List.length q1) jC)),show Xy (ZJ.nd ⟨⟨⟨oa,oi⟩,⟨oq,oj⟩,⟨o1a,o1c,o1l⟩,⟨o2a,o2c,o2l⟩⟩,Zr,Zq,ZD,Zx,ZM,a9,Zv,Zt,Zn,Zw,Zm,Zu,⟨Zp,Zo,Zl⟩,ZC,ZE⟩).table=⟨fa,fi⟩ from hfi] at h3
     refine ⟨_,M5,[(bw,rowO (ZN.segs ⟨⟨⟨⟨oa,oi⟩,⟨oq,oj⟩,⟨o1a,o1c,o1l⟩,⟨o2a,o2c,o2l⟩⟩,Zr,Zq,ZD,Zx,(nxR ZM),fa,(nxR ZM),Zt,Zn,Zw,Zm,Zu,⟨Zp,Zo,Zl⟩,ZC,ZE⟩,⟨o9a,o9c,o9l⟩⟩) 166)],rfl,((hM2.trans hm3).trans hm5),hw.c,rfl,⟨⟨⟨oa,oi⟩,⟨oq,oj⟩,⟨o1a,o1c,o1l⟩,⟨o2a,o2c,o2l⟩⟩,Zr,Zq,ZD,Zx,(nxR ZM),fa,(nxR ZM),Zt,Zn,Zw,Zm,Zu,⟨Zp,Zo,Zl⟩,ZC,ZE⟩,⟨o9a,o9c,o9l⟩,rfl,?_,?_,⟨okt.mono hm5,(k9.mono hm3).mono hm5⟩,k9o,fun y hy=>?_⟩
     ·rw [h3] <;> rfl
     ·rw [h3]
      show sndl o9l=_
      rw [hl9];rfl
     ·simp only at hy
      rw [hl9] at hy
      obtain rfl:=List.mem_singleton.1 hy
      exact ⟨⟨SlK.nil,SlK.nil⟩⟩
    ·(exfalso;omega)
theorem F.ok166:okFn Tryz.prog 166=true:=by kernel_rfl
theorem F.ok58:okFn Tryz.prog 58=true:=by kernel_rfl
theorem F.ok59:okFn Tryz.prog 59=true:=by kernel_rfl
theorem fix_ok (M:Mem) (bw:Nat) (Za:Int) (Zd:Plc) (Zc:Int) (Zg:Plc) (Zk Zf Zp:Option Addr) (Zj Ze Zo:Nat) (Zh Zb:List Zs) (Zl:List Int) (Zr:Int) (Zq:Bool) (ZD Zx ZM Zz Zv Zt Zn Zw Zm:Int) (Zu:Plc) (ZC ZE:Int) (Yj:ZO.ok M ⟨⟨Za,Zd⟩,⟨Zc,Zg⟩,⟨Zk,Zj,Zh⟩,⟨Zf,Ze,Zb⟩⟩) (hbig:Zh.length≤40∧Zb.length≤200) (hcu:0≤Zx∧Zx≤159) (hav:Hp) (hA:OSl 3 1 (.slice Zp Zl.length Zo) hav (Zl.map (oneI .i64))) (hLa:Zl.length≤900):Fh Tryz.prog 106 [.pointer (some ⟨bw,0,none⟩)] M ((bw,rowO (ZN.segs ⟨⟨⟨⟨Za,Zd⟩,⟨Zc,Zg⟩,⟨Zk,Zj,Zh⟩,⟨Zf,Ze,Zb⟩⟩,Zr,Zq,ZD,Zx,ZM,Zz,Zv,Zt,Zn,Zw,Zm,Zu,⟨Zp,Zo,Zl⟩,ZC,ZE⟩,⟨none,0,[]⟩⟩) 166)::hav) (fun M' v Hout=>v=.tuple #[]∧WkF bw 166 M' Hout (fixN (ZJ.nd ⟨⟨⟨Za,Zd⟩,⟨Zc,Zg⟩,⟨Zk,Zj,Zh⟩,⟨Zf,Ze,Zb⟩⟩,Zr,Zq,ZD,Zx,ZM,Zz,Zv,Zt,Zn,Zw,Zm,Zu,⟨Zp,Zo,Zl⟩,ZC,ZE⟩))):=by
  obtain ⟨kn,rfl⟩:∃ kn:Nat,Zx=(kn:Int):=⟨Zx.toNat,by omega⟩
  refine YR (fun H=>(bw,rowO (ZN.segs ⟨⟨⟨⟨Za,Zd⟩,⟨Zc,Zg⟩,⟨Zk,Zj,Zh⟩,⟨Zf,Ze,Zb⟩⟩,Zr,Zq,ZD,(kn:Int),ZM,Zz,Zv,Zt,Zn,Zw,Zm,Zu,⟨Zp,Zo,Zl⟩,ZC,ZE⟩,⟨none,0,[]⟩⟩) 166)::(hav++H)) (fun _=>by simp only [List.append_assoc,List.cons_append,List.nil_append]) Tryz.func106 rfl Tryz.ntmps106 rfl ?_;intro H
  iterate 5 refine Stp ?_
  refine Zi F.foff166_0 ?_;refine Zi F.foff44_2 ?_;refine Zy F.lay4 ?_
  iterate 3 refine Stp ?_
  refine ZW rfl (fun hc1=>?_) (fun hc1=>?_)
  ·skip
   iterate 2 refine Stp ?_
   refine ZV (.inr rfl) (.nil) (fun w hw=>?_)
   obtain ⟨M9,j1,j2,j3⟩:=OSl.frz (H:=(bw,rowO (ZN.segs ⟨⟨⟨⟨Za,Zd⟩,⟨Zc,Zg⟩,⟨Zk,Zj,Zh⟩,⟨Zf,Ze,Zb⟩⟩,Zr,Zq,ZD,(kn:Int),ZM,Zz,Zv,Zt,Zn,Zw,Zm,Zu,⟨Zp,Zo,Zl⟩,ZC,ZE⟩,⟨none,0,[]⟩⟩) 166)::H) hA (hw.c)
   refine ⟨_,M9,[(bw,rowO (ZN.segs ⟨⟨⟨⟨Za,Zd⟩,⟨Zc,Zg⟩,⟨Zk,Zj,Zh⟩,⟨Zf,Ze,Zb⟩⟩,Zr,Zq,ZD,(kn:Int),ZM,Zz,Zv,Zt,Zn,Zw,Zm,Zu,⟨Zp,Zo,Zl⟩,ZC,ZE⟩,⟨none,0,[]⟩⟩) 166)],rfl,j1,j2,rfl,⟨⟨⟨Za,Zd⟩,⟨Zc,Zg⟩,⟨Zk,Zj,Zh⟩,⟨Zf,Ze,Zb⟩⟩,Zr,Zq,ZD,(kn:Int),ZM,Zz,Zv,Zt,Zn,Zw,Zm,Zu,⟨Zp,Zo,Zl⟩,ZC,ZE⟩,⟨none,0,[]⟩,rfl,?_,?_,⟨Yj.mono j1,j3⟩,SlK.nil,fun y hy=>by cases hy⟩
   ·rw [fix_out (n:=ZJ.nd ⟨⟨⟨Za,Zd⟩,⟨Zc,Zg⟩,⟨Zk,Zj,Zh⟩,⟨Zf,Ze,Zb⟩⟩,Zr,Zq,ZD,(kn:Int),ZM,Zz,Zv,Zt,Zn,Zw,Zm,Zu,⟨Zp,Zo,Zl⟩,ZC,ZE⟩) (show Zq=false by simp_all)]
   ·rw [fix_out (n:=ZJ.nd ⟨⟨⟨Za,Zd⟩,⟨Zc,Zg⟩,⟨Zk,Zj,Zh⟩,⟨Zf,Ze,Zb⟩⟩,Zr,Zq,ZD,(kn:Int),ZM,Zz,Zv,Zt,Zn,Zw,Zm,Zu,⟨Zp,Zo,Zl⟩,ZC,ZE⟩) (show Zq=false by simp_all)] <;> rfl
  ·skip
   iterate 7 refine Stp ?_
   refine Zi F.foff166_0 ?_;refine Zi F.foff44_10 ?_;refine Zy F.lay3 ?_
   iterate 3 refine Stp ?_
   refine ZW rfl (cT fun hc2=>?_) (cF fun hc2=>?_)
   ·iterate 3 refine Stp ?_
    refine Zi F.foff166_0 ?_;refine Zi F.foff44_13 ?_;refine Ya F.lay32 ?_
    iterate 3 refine Stp ?_
    have hM2:=Mem.le.refl M
    have k9:SlK M (oneI .i64) 1 ⟨none,0,[]⟩:=SlK.nil
    refine YB (l:=[0,1,2,3,4,5]) [5] rfl ?_
    iterate 3 refine Stp ?_
    refine Zi F.foff166_0 ?_;refine Zi F.foff44_10 ?_;refine XN rfl rfl rfl F.ok162 rfl (lostF_ok M bw Za Zd Zc Zg Zk Zf none Zj Ze 0 Zh Zb [] Zr Zq ZD (kn:Int) ZM Zz Zv Zt Zn Zw Zm Zu ZC ZE (Yj.mono hM2) hbig) jA (ZT rfl) ?_
    rintro _ M3 hs3 hm3 ⟨rfl,⟨⟨oa,oi⟩,⟨oq,oj⟩,⟨o1a,o1c,o1l⟩,⟨o2a,o2c,o2l⟩⟩,a9,rfl,okt,hlo⟩
    have hbo:=lost_big (congrArg Prod.fst hlo) hbig
    have h2:=fix_nil (n:=ZJ.nd ⟨⟨⟨Za,Zd⟩,⟨Zc,Zg⟩,⟨Zk,Zj,Zh⟩,⟨Zf,Ze,Zb⟩⟩,Zr,Zq,ZD,(kn:Int),ZM,Zz,Zv,Zt,Zn,Zw,Zm,Zu,⟨Zp,Zo,Zl⟩,ZC,ZE⟩) hlo (show Zw=-1 by omega)
    simp only [List.append_assoc,List.cons_append,List.nil_append]
    refine Xb (Xu ?_)
    iterate 5 refine Stp ?_
    refine Zi F.foff166_0 ?_;refine Zi F.foff44_4 ?_;refine Zy F.lay3 ?_;refine X_fs rfl rfl F.ok147 rfl (Power_ok_in _ kn jC) rfl ?_
    rintro _ rfl
    iterate 3 refine Stp ?_
    refine Yz F.zero36 ?_;intro b3
    refine Ya F.lay36 ?_
    iterate 4 refine Stp ?_
    refine Yg (l:=[0,1,2,3,4,5,6,7,8,9,10]) #[0,1,3,7,15,31,63,0,255,0,1023] _ rfl jI jI St.drawn (fun _ h=>h) ?_
    iterate 2 refine Stp ?_
    refine Zi F.foff166_0 ?_;refine Zi F.foff44_0 ?_;refine Zi F.foff41_0 ?_;refine Zi F.foff38_1 ?_
    iterate 2 refine Zy F.lay36 ?_
    refine X_fs rfl rfl F.ok148 rfl (Plus_ok _ _ _) rfl ?_
    rintro _ rfl
    refine Yz F.zero36 ?_;intro b4
    refine Ya F.lay36 ?_
    iterate 4 refine Stp ?_
    refine Yg (l:=[0,1,2,3,4,5,6,7,8,9,10,11,12]) #[0,1,3,7,15,0,63,127,255,255,0,1535,4095] _ rfl jI jI St.drawn (fun _ h=>h) ?_
    iterate 2 refine Stp ?_
    refine Zi F.foff166_0 ?_;refine Zi F.foff44_0 ?_;refine Zy F.lay41 ?_;refine Zy F.lay36 ?_;refine X_fs rfl rfl F.ok58 rfl (Done_ok _ ⟨⟨oa,oi⟩,⟨oq,oj⟩,⟨o1a,o1c,o1l⟩,⟨o2a,o2c,o2l⟩⟩ (oi+powP kn) okt) rfl ?_
    rintro _ rfl
    obtain ⟨⟨⟨da,di⟩,db⟩,hd⟩:∃ x,Th (ZO.tb ⟨⟨oa,oi⟩,⟨oq,oj⟩,⟨o1a,o1c,o1l⟩,⟨o2a,o2c,o2l⟩⟩) (oi+powP kn)=x:=⟨_,rfl⟩
    rw [hd]
    iterate 3 refine Stp ?_
    refine Yz F.zero38 ?_;intro b5
    refine Ya F.lay38 ?_
    iterate 8 refine Stp ?_
    refine ZW rfl (fun hc6=>?_) (fun hc6=>?_)
    ·skip
     simp only [Zs.eta,ZO.eta,ZJ.eta,ZF.eta,Ym.eta,Yv.eta,Yy.eta,Yq.eta,ZN.eta,YF.eta,ZU.eta] at hc6
     refine VP (YB (l:=[0,1,2]) [2] rfl ?_);refine Yk ?_;refine Zy F.lay38 ?_;refine XN rfl rfl rfl F.ok166 rfl (point_ok M3 bw oa oi oq oj o1a o2a none o1c o2c 0 o1l o2l [] Zr Zq ZD (kn:Int) ZM Zz Zv Zt Zn a9 Zm Zu ZC ZE okt ⟨da,di⟩) jA (ZT rfl) ?_
     rintro _ M4 hs4 hm4 ⟨rfl,⟨⟨wa,wi⟩,⟨wq,wj⟩,⟨w1a,w1c,w1l⟩,⟨w2a,w2c,w2l⟩⟩,c9,rfl,okl,hv1⟩
     simp only [List.append_assoc,List.cons_append,List.nil_append]
     refine Xb (Xu ?_)
     iterate 3 refine Stp ?_
     refine ZV (.inr rfl) (.nil) (fun w hw=>?_)
     have h3:=fix_eq (n:=ZJ.nd ⟨⟨⟨Za,Zd⟩,⟨Zc,Zg⟩,⟨Zk,Zj,Zh⟩,⟨Zf,Ze,Zb⟩⟩,Zr,Zq,ZD,(kn:Int),ZM,Zz,Zv,Zt,Zn,Zw,Zm,Zu,⟨Zp,Zo,Zl⟩,ZC,ZE⟩) (m:=(ZJ.nd ⟨⟨⟨oa,oi⟩,⟨oq,oj⟩,⟨o1a,o1c,o1l⟩,⟨o2a,o2c,o2l⟩⟩,Zr,Zq,ZD,(kn:Int),ZM,Zz,Zv,Zt,Zn,a9,Zm,Zu,⟨none,0,[]⟩,ZC,ZE⟩)) (id:=(oi+powP kn)) zI h2 rfl
     rw [show Th (ZJ.nd ⟨⟨⟨oa,oi⟩,⟨oq,oj⟩,⟨o1a,o1c,o1l⟩,⟨o2a,o2c,o2l⟩⟩,Zr,Zq,ZD,(kn:Int),ZM,Zz,Zv,Zt,Zn,a9,Zm,Zu,⟨none,0,[]⟩,ZC,ZE⟩).table (oi+powP kn)=_ from hd] at h3
     rw [if_pos (by show db=true;simp_all)] at h3
     exact ⟨_,M4,[(bw,rowO (ZN.segs ⟨⟨⟨⟨wa,wi⟩,⟨wq,wj⟩,⟨w1a,w1c,w1l⟩,⟨w2a,w2c,w2l⟩⟩,Zr,Zq,ZD,c9,ZM,Zz,Zv,Zt,Zn,a9,Zm,Zu,⟨none,0,[]⟩,ZC,ZE⟩,⟨none,0,[]⟩⟩) 166)],rfl,(hM2.trans hm3).trans hm4,hw.c,rfl,⟨⟨⟨wa,wi⟩,⟨wq,wj⟩,⟨w1a,w1c,w1l⟩,⟨w2a,w2c,w2l⟩⟩,Zr,Zq,ZD,c9,ZM,Zz,Zv,Zt,Zn,a9,Zm,Zu,⟨none,0,[]⟩,ZC,ZE⟩,⟨none,0,[]⟩,rfl,by rw [h3];exact hv1,by rw [h3];rfl,⟨okl,(k9.mono hm3).mono hm4⟩,SlK.nil,fun y hy=>by cases hy⟩
    ·skip
     simp only [Zs.eta,ZO.eta,ZJ.eta,ZF.eta,Ym.eta,Yv.eta,Yy.eta,Yq.eta,ZN.eta,YF.eta,ZU.eta] at hc6
     iterate 3 refine Stp ?_
     refine Yg (l:=[0,1,2,3,4,5,6,7,8,9,10,11,12,13,14,15,16,17]) #[0,1,3,7,15,0,0,64,192,448,960,2047,4095,8191,8191,0,49151,131071] _ rfl jI jI St.drawn (fun _ h=>h) ?_
     iterate 2 refine Stp ?_
     refine Zi F.foff166_0 ?_;refine Zi F.foff44_0 ?_;refine Zy F.lay41 ?_;refine Zy F.lay36 ?_
     iterate 2 refine Stp ?_
     refine Zi F.foff166_0 ?_;refine Zi F.foff44_13 ?_;refine Zy F.lay32 ?_;refine X_fn rfl rfl F.ok59 rfl (Nearest_ok _ ⟨⟨oa,oi⟩,⟨oq,oj⟩,⟨o1a,o1c,o1l⟩,⟨o2a,o2c,o2l⟩⟩ (oi+powP kn) ⟨none,0,[]⟩ okt (k9.mono hm3) hbo) rfl ?_
     rintro _ M4 hm4 rfl
     obtain ⟨⟨⟨qa,qi⟩,qb⟩,hq⟩:∃ x,Ww (ZO.tb ⟨⟨oa,oi⟩,⟨oq,oj⟩,⟨o1a,o1c,o1l⟩,⟨o2a,o2c,o2l⟩⟩) (oi+powP kn) (⟨none,0,[]⟩:Sl Int).l=x:=⟨_,rfl⟩
     rw [hq]
     iterate 3 refine Stp ?_
     refine Yz F.zero38 ?_;intro b7
     refine Ya F.lay38 ?_
     iterate 10 refine Stp ?_
     refine ZW rfl (fun hc8=>?_) (fun hc8=>?_)
     ·skip
      simp only [Zs.eta,ZO.eta,ZJ.eta,ZF.eta,Ym.eta,Yv.eta,Yy.eta,Yq.eta,ZN.eta,YF.eta,ZU.eta] at hc8
      iterate 4 refine Stp ?_
      refine Zi F.foff166_0 ?_;refine Zi F.foff44_4 ?_;refine Ya F.lay3 ?_
      iterate 4 refine Stp ?_
      refine ZV (.inr rfl) (.nil) (fun w hw=>?_)
      have h3:=fix_eq (n:=ZJ.nd ⟨⟨⟨Za,Zd⟩,⟨Zc,Zg⟩,⟨Zk,Zj,Zh⟩,⟨Zf,Ze,Zb⟩⟩,Zr,Zq,ZD,(kn:Int),ZM,Zz,Zv,Zt,Zn,Zw,Zm,Zu,⟨Zp,Zo,Zl⟩,ZC,ZE⟩) (m:=(ZJ.nd ⟨⟨⟨oa,oi⟩,⟨oq,oj⟩,⟨o1a,o1c,o1l⟩,⟨o2a,o2c,o2l⟩⟩,Zr,Zq,ZD,(kn:Int),ZM,Zz,Zv,Zt,Zn,a9,Zm,Zu,⟨none,0,[]⟩,ZC,ZE⟩)) (id:=(oi+powP kn)) zI h2 rfl
      rw [show Th (ZJ.nd ⟨⟨⟨oa,oi⟩,⟨oq,oj⟩,⟨o1a,o1c,o1l⟩,⟨o2a,o2c,o2l⟩⟩,Zr,Zq,ZD,(kn:Int),ZM,Zz,Zv,Zt,Zn,a9,Zm,Zu,⟨none,0,[]⟩,ZC,ZE⟩).table (oi+powP kn)=_ from hd] at h3
      rw [if_neg (by show ¬db=true;simp_all),show Ww (ZJ.nd ⟨⟨⟨oa,oi⟩,⟨oq,oj⟩,⟨o1a,o1c,o1l⟩,⟨o2a,o2c,o2l⟩⟩,Zr,Zq,ZD,(kn:Int),ZM,Zz,Zv,Zt,Zn,a9,Zm,Zu,⟨none,0,[]⟩,ZC,ZE⟩).table (oi+powP kn) (ZJ.nd ⟨⟨⟨oa,oi⟩,⟨oq,oj⟩,⟨o1a,o1c,o1l⟩,⟨o2a,o2c,o2l⟩⟩,Zr,Zq,ZD,(kn:Int),ZM,Zz,Zv,Zt,Zn,a9,Zm,Zu,⟨none,0,[]⟩,ZC,ZE⟩).avoid=_ from hq] at h3
      rw [if_pos (by show qb=false;simp_all)] at h3
      refine ⟨_,M4,[(bw,rowO (ZN.segs ⟨⟨⟨⟨oa,oi⟩,⟨oq,oj⟩,⟨o1a,o1c,o1l⟩,⟨o2a,o2c,o2l⟩⟩,Zr,Zq,ZD,0,ZM,Zz,Zv,Zt,Zn,a9,Zm,Zu,⟨none,0,[]⟩,ZC,ZE⟩,⟨none,0,[]⟩⟩) 166)],rfl,((hM2.trans hm3).trans hm4),hw.c,rfl,⟨⟨⟨oa,oi⟩,⟨oq,oj⟩,⟨o1a,o1c,o1l⟩,⟨o2a,o2c,o2l⟩⟩,Zr,Zq,ZD,0,ZM,Zz,Zv,Zt,Zn,a9,Zm,Zu,⟨none,0,[]⟩,ZC,ZE⟩,⟨none,0,[]⟩,rfl,?_,?_,⟨okt.mono hm4,(k9.mono hm3).mono hm4⟩,SlK.nil,fun y hy=>by cases hy⟩
      ·rw [h3] <;> rfl
      ·rw [h3] <;> rfl
     ·skip
      simp only [Zs.eta,ZO.eta,ZJ.eta,ZF.eta,Ym.eta,Yv.eta,Yy.eta,Yq.eta,ZN.eta,YF.eta,ZU.eta] at hc8
      iterate 6 refine Stp ?_
      refine Zy F.lay36 ?_;refine YT ?_;refine Zi F.foff166_0 ?_;refine Zi F.foff44_12 ?_;refine Ya F.lay36 ?_;refine YT ?_;refine Zi F.foff166_0 ?_;refine Zi F.foff44_14 ?_;refine Ya F.lay3 ?_
      iterate 2 refine Stp ?_
      refine YB (l:=[0,1,2,3]) [3] rfl ?_;refine Yk ?_;refine Zi F.foff38_0 ?_;refine Zy F.lay3 ?_;refine XN rfl rfl rfl F.ok167 rfl (seek_ok M4 bw oa oi oq oj o1a o2a none o1c o2c 0 o1l o2l [] Zr Zq ZD (kn:Int) ZM Zz Zv Zt Zn a9 Zm (oi+powP kn) 0 ZE (okt.mono hm4) ((k9.mono hm3).mono hm4) zK qa) jA (ZT rfl) ?_
      rintro _ M5 hs5 hm5 ⟨rfl,⟨⟨⟨YJ,YP⟩,⟨YK,YQ⟩,⟨YW,YV,YU⟩,⟨YN,YM,YL⟩⟩,Wm,Wr,Vn,Wl,Ua,WH,Wn,Wi,XR,Wj,XS,Wk,⟨XV,XU,XT⟩,Vj,Vi⟩,⟨o_a,o_c,o_l⟩,rfl,hv1,hv2,okv,oko,okq⟩
      simp only [List.append_assoc,List.cons_append,List.nil_append]
      refine Xb (Xu ?_)
      refine ZV (.inl rfl) (.nil) (fun w hw=>?_)
      have h3:=fix_eq (n:=ZJ.nd ⟨⟨⟨Za,Zd⟩,⟨Zc,Zg⟩,⟨Zk,Zj,Zh⟩,⟨Zf,Ze,Zb⟩⟩,Zr,Zq,ZD,(kn:Int),ZM,Zz,Zv,Zt,Zn,Zw,Zm,Zu,⟨Zp,Zo,Zl⟩,ZC,ZE⟩) (m:=(ZJ.nd ⟨⟨⟨oa,oi⟩,⟨oq,oj⟩,⟨o1a,o1c,o1l⟩,⟨o2a,o2c,o2l⟩⟩,Zr,Zq,ZD,(kn:Int),ZM,Zz,Zv,Zt,Zn,a9,Zm,Zu,⟨none,0,[]⟩,ZC,ZE⟩)) (id:=(oi+powP kn)) zI h2 rfl
      rw [show Th (ZJ.nd ⟨⟨⟨oa,oi⟩,⟨oq,oj⟩,⟨o1a,o1c,o1l⟩,⟨o2a,o2c,o2l⟩⟩,Zr,Zq,ZD,(kn:Int),ZM,Zz,Zv,Zt,Zn,a9,Zm,Zu,⟨none,0,[]⟩,ZC,ZE⟩).table (oi+powP kn)=_ from hd] at h3
      rw [if_neg (by show ¬db=true;simp_all),show Ww (ZJ.nd ⟨⟨⟨oa,oi⟩,⟨oq,oj⟩,⟨o1a,o1c,o1l⟩,⟨o2a,o2c,o2l⟩⟩,Zr,Zq,ZD,(kn:Int),ZM,Zz,Zv,Zt,Zn,a9,Zm,Zu,⟨none,0,[]⟩,ZC,ZE⟩).table (oi+powP kn) (ZJ.nd ⟨⟨⟨oa,oi⟩,⟨oq,oj⟩,⟨o1a,o1c,o1l⟩,⟨o2a,o2c,o2l⟩⟩,Zr,Zq,ZD,(kn:Int),ZM,Zz,Zv,Zt,Zn,a9,Zm,Zu,⟨none,0,[]⟩,ZC,ZE⟩).avoid=_ from hq] at h3
      rw [if_neg (by show ¬qb=false;simp_all)] at h3
      exact ⟨_,M5,[(bw,rowO (ZN.segs ⟨⟨⟨⟨YJ,YP⟩,⟨YK,YQ⟩,⟨YW,YV,YU⟩,⟨YN,YM,YL⟩⟩,Wm,Wr,Vn,Wl,Ua,WH,Wn,Wi,XR,Wj,XS,Wk,⟨XV,XU,XT⟩,Vj,Vi⟩,⟨o_a,o_c,o_l⟩⟩) 166)],rfl,(((hM2.trans hm3).trans hm4).trans hm5),hw.c,rfl,⟨⟨⟨YJ,YP⟩,⟨YK,YQ⟩,⟨YW,YV,YU⟩,⟨YN,YM,YL⟩⟩,Wm,Wr,Vn,Wl,Ua,WH,Wn,Wi,XR,Wj,XS,Wk,⟨XV,XU,XT⟩,Vj,Vi⟩,⟨o_a,o_c,o_l⟩,rfl,by rw [h3];exact hv1,by rw [h3];exact hv2,okv,oko,okq⟩
   ·refine YB (l:=[0,1,2,3,4,5,6]) [6] rfl ?_
    iterate 3 refine Stp ?_
    refine Zi F.foff166_0 ?_;refine Zi F.foff44_10 ?_;refine Zy F.lay3 ?_;refine XN rfl rfl rfl F.ok165 rfl (shun_ok M bw _ _ _ _ _ _ _ _ _ _ _ _ _ _ _ _ _ _ _ _ _ _ _ _ _ _ _ hav hA jC Zw) jA (ZT rfl) ?_
    rintro _ M1 hs1 hm1 ⟨hM1,rfl,⟨s_a,s_c,s_l⟩,hs9,rfl,ho9,hl9⟩
    subst M1
    simp only [Sl.val] at ho9
    simp only at hl9
    have hLs:s_l.length≤901:=shun_len hl9 hLa
    simp only [List.append_assoc,List.cons_append,List.nil_append]
    refine Xb (Xu ?_)
    iterate 2 refine Stp ?_
    refine Sp ho9 jA (fun M2 hM2 k9=>?_)
    refine YB (l:=[0,1,2,3,4,5]) [5] rfl ?_
    iterate 3 refine Stp ?_
    refine Zi F.foff166_0 ?_;refine Zi F.foff44_10 ?_;refine XN rfl rfl rfl F.ok162 rfl (lostF_ok M2 bw Za Zd Zc Zg Zk Zf s_a Zj Ze s_c Zh Zb s_l Zr Zq ZD (kn:Int) ZM Zz Zv Zt Zn Zw Zm Zu ZC ZE (Yj.mono hM2) hbig) jA (ZT rfl) ?_
    rintro _ M3 hs3 hm3 ⟨rfl,⟨⟨oa,oi⟩,⟨oq,oj⟩,⟨o1a,o1c,o1l⟩,⟨o2a,o2c,o2l⟩⟩,a9,rfl,okt,hlo⟩
    have hbo:=lost_big (congrArg Prod.fst hlo) hbig
    have h2:=fix_shun (n:=ZJ.nd ⟨⟨⟨Za,Zd⟩,⟨Zc,Zg⟩,⟨Zk,Zj,Zh⟩,⟨Zf,Ze,Zb⟩⟩,Zr,Zq,ZD,(kn:Int),ZM,Zz,Zv,Zt,Zn,Zw,Zm,Zu,⟨Zp,Zo,Zl⟩,ZC,ZE⟩) (l:=s_l) hlo (show Zw≠-1 by omega) hl9
    simp only [List.append_assoc,List.cons_append,List.nil_append]
    refine Xb (Xu ?_)
    iterate 5 refine Stp ?_
    refine Zi F.foff166_0 ?_;refine Zi F.foff44_4 ?_;refine Zy F.lay3 ?_;refine X_fs rfl rfl F.ok147 rfl (Power_ok_in _ kn jC) rfl ?_
    rintro _ rfl
    iterate 3 refine Stp ?_
    refine Yz F.zero36 ?_;intro b9
    refine Ya F.lay36 ?_
    iterate 4 refine Stp ?_
    refine Yg (l:=[0,1,2,3,4,5,6,7,8,9,10]) #[0,1,3,7,15,31,63,0,255,0,1023] _ rfl jI jI St.drawn (fun _ h=>h) ?_
    iterate 2 refine Stp ?_
    refine Zi F.foff166_0 ?_;refine Zi F.foff44_0 ?_;refine Zi F.foff41_0 ?_;refine Zi F.foff38_1 ?_
    iterate 2 refine Zy F.lay36 ?_
    refine X_fs rfl rfl F.ok148 rfl (Plus_ok _ _ _) rfl ?_
    rintro _ rfl
    refine Yz F.zero36 ?_;intro b10
    refine Ya F.lay36 ?_
    iterate 4 refine Stp ?_
    refine Yg (l:=[0,1,2,3,4,5,6,7,8,9,10,11,12]) #[0,1,3,7,15,0,63,127,255,255,0,1535,4095] _ rfl jI jI St.drawn (fun _ h=>h) ?_
    iterate 2 refine Stp ?_
    refine Zi F.foff166_0 ?_;refine Zi F.foff44_0 ?_;refine Zy F.lay41 ?_;refine Zy F.lay36 ?_;refine X_fs rfl rfl F.ok58 rfl (Done_ok _ ⟨⟨oa,oi⟩,⟨oq,oj⟩,⟨o1a,o1c,o1l⟩,⟨o2a,o2c,o2l⟩⟩ (oi+powP kn) okt) rfl ?_
    rintro _ rfl
    obtain ⟨⟨⟨da,di⟩,db⟩,hd⟩:∃ x,Th (ZO.tb ⟨⟨oa,oi⟩,⟨oq,oj⟩,⟨o1a,o1c,o1l⟩,⟨o2a,o2c,o2l⟩⟩) (oi+powP kn)=x:=⟨_,rfl⟩
    rw [hd]
    iterate 3 refine Stp ?_
    refine Yz F.zero38 ?_;intro b11
    refine Ya F.lay38 ?_
    iterate 8 refine Stp ?_
    refine ZW rfl (fun hc12=>?_) (fun hc12=>?_)
    ·skip
     simp only [Zs.eta,ZO.eta,ZJ.eta,ZF.eta,Ym.eta,Yv.eta,Yy.eta,Yq.eta,ZN.eta,YF.eta,ZU.eta] at hc12
     refine VP (YB (l:=[0,1,2]) [2] rfl ?_);refine Yk ?_;refine Zy F.lay38 ?_;refine XN rfl rfl rfl F.ok166 rfl (point_ok M3 bw oa oi oq oj o1a o2a s_a o1c o2c s_c o1l o2l s_l Zr Zq ZD (kn:Int) ZM Zz Zv Zt Zn a9 Zm Zu ZC ZE okt ⟨da,di⟩) jA (ZT rfl) ?_
     rintro _ M4 hs4 hm4 ⟨rfl,⟨⟨wa,wi⟩,⟨wq,wj⟩,⟨w1a,w1c,w1l⟩,⟨w2a,w2c,w2l⟩⟩,c9,rfl,okl,hv1⟩
     simp only [List.append_assoc,List.cons_append,List.nil_append]
     refine Xb (Xu ?_)
     iterate 3 refine Stp ?_
     refine ZV (.inr rfl) (.nil) (fun w hw=>?_)
     have h3:=fix_eq (n:=ZJ.nd ⟨⟨⟨Za,Zd⟩,⟨Zc,Zg⟩,⟨Zk,Zj,Zh⟩,⟨Zf,Ze,Zb⟩⟩,Zr,Zq,ZD,(kn:Int),ZM,Zz,Zv,Zt,Zn,Zw,Zm,Zu,⟨Zp,Zo,Zl⟩,ZC,ZE⟩) (m:=(ZJ.nd ⟨⟨⟨oa,oi⟩,⟨oq,oj⟩,⟨o1a,o1c,o1l⟩,⟨o2a,o2c,o2l⟩⟩,Zr,Zq,ZD,(kn:Int),ZM,Zz,Zv,Zt,Zn,a9,Zm,Zu,⟨s_a,s_c,s_l⟩,ZC,ZE⟩)) (id:=(oi+powP kn)) zI h2 rfl
     rw [show Th (ZJ.nd ⟨⟨⟨oa,oi⟩,⟨oq,oj⟩,⟨o1a,o1c,o1l⟩,⟨o2a,o2c,o2l⟩⟩,Zr,Zq,ZD,(kn:Int),ZM,Zz,Zv,Zt,Zn,a9,Zm,Zu,⟨s_a,s_c,s_l⟩,ZC,ZE⟩).table (oi+powP kn)=_ from hd] at h3
     rw [if_pos (by show db=true;simp_all)] at h3
     exact ⟨_,M4,[(bw,rowO (ZN.segs ⟨⟨⟨⟨wa,wi⟩,⟨wq,wj⟩,⟨w1a,w1c,w1l⟩,⟨w2a,w2c,w2l⟩⟩,Zr,Zq,ZD,c9,ZM,Zz,Zv,Zt,Zn,a9,Zm,Zu,⟨s_a,s_c,s_l⟩,ZC,ZE⟩,⟨none,0,[]⟩⟩) 166)],rfl,(hM2.trans hm3).trans hm4,hw.c,rfl,⟨⟨⟨wa,wi⟩,⟨wq,wj⟩,⟨w1a,w1c,w1l⟩,⟨w2a,w2c,w2l⟩⟩,Zr,Zq,ZD,c9,ZM,Zz,Zv,Zt,Zn,a9,Zm,Zu,⟨s_a,s_c,s_l⟩,ZC,ZE⟩,⟨none,0,[]⟩,rfl,by rw [h3];exact hv1,by rw [h3];rfl,⟨okl,(k9.mono hm3).mono hm4⟩,SlK.nil,fun y hy=>by cases hy⟩
    ·skip
     simp only [Zs.eta,ZO.eta,ZJ.eta,ZF.eta,Ym.eta,Yv.eta,Yy.eta,Yq.eta,ZN.eta,YF.eta,ZU.eta] at hc12
     iterate 3 refine Stp ?_
     refine Yg (l:=[0,1,2,3,4,5,6,7,8,9,10,11,12,13,14,15,16,17]) #[0,1,3,7,15,0,0,64,192,448,960,2047,4095,8191,8191,0,49151,131071] _ rfl jI jI St.drawn (fun _ h=>h) ?_
     iterate 2 refine Stp ?_
     refine Zi F.foff166_0 ?_;refine Zi F.foff44_0 ?_;refine Zy F.lay41 ?_;refine Zy F.lay36 ?_
     iterate 2 refine Stp ?_
     refine Zi F.foff166_0 ?_;refine Zi F.foff44_13 ?_;refine Zy F.lay32 ?_;refine X_fn rfl rfl F.ok59 rfl (Nearest_ok _ ⟨⟨oa,oi⟩,⟨oq,oj⟩,⟨o1a,o1c,o1l⟩,⟨o2a,o2c,o2l⟩⟩ (oi+powP kn) ⟨s_a,s_c,s_l⟩ okt (k9.mono hm3) hbo) rfl ?_
     rintro _ M4 hm4 rfl
     obtain ⟨⟨⟨qa,qi⟩,qb⟩,hq⟩:∃ x,Ww (ZO.tb ⟨⟨oa,oi⟩,⟨oq,oj⟩,⟨o1a,o1c,o1l⟩,⟨o2a,o2c,o2l⟩⟩) (oi+powP kn) (⟨s_a,s_c,s_l⟩:Sl Int).l=x:=⟨_,rfl⟩
     rw [hq]
     iterate 3 refine Stp ?_
     refine Yz F.zero38 ?_;intro b13
     refine Ya F.lay38 ?_
     iterate 10 refine Stp ?_
     refine ZW rfl (fun hc14=>?_) (fun hc14=>?_)
     ·skip
      simp only [Zs.eta,ZO.eta,ZJ.eta,ZF.eta,Ym.eta,Yv.eta,Yy.eta,Yq.eta,ZN.eta,YF.eta,ZU.eta] at hc14
      iterate 4 refine Stp ?_
      refine Zi F.foff166_0 ?_;refine Zi F.foff44_4 ?_;refine Ya F.lay3 ?_
      iterate 4 refine Stp ?_
      refine ZV (.inr rfl) (.nil) (fun w hw=>?_)
      have h3:=fix_eq (n:=ZJ.nd ⟨⟨⟨Za,Zd⟩,⟨Zc,Zg⟩,⟨Zk,Zj,Zh⟩,⟨Zf,Ze,Zb⟩⟩,Zr,Zq,ZD,(kn:Int),ZM,Zz,Zv,Zt,Zn,Zw,Zm,Zu,⟨Zp,Zo,Zl⟩,ZC,ZE⟩) (m:=(ZJ.nd ⟨⟨⟨oa,oi⟩,⟨oq,oj⟩,⟨o1a,o1c,o1l⟩,⟨o2a,o2c,o2l⟩⟩,Zr,Zq,ZD,(kn:Int),ZM,Zz,Zv,Zt,Zn,a9,Zm,Zu,⟨s_a,s_c,s_l⟩,ZC,ZE⟩)) (id:=(oi+powP kn)) zI h2 rfl
      rw [show Th (ZJ.nd ⟨⟨⟨oa,oi⟩,⟨oq,oj⟩,⟨o1a,o1c,o1l⟩,⟨o2a,o2c,o2l⟩⟩,Zr,Zq,ZD,(kn:Int),ZM,Zz,Zv,Zt,Zn,a9,Zm,Zu,⟨s_a,s_c,s_l⟩,ZC,ZE⟩).table (oi+powP kn)=_ from hd] at h3
      rw [if_neg (by show ¬db=true;simp_all),show Ww (ZJ.nd ⟨⟨⟨oa,oi⟩,⟨oq,oj⟩,⟨o1a,o1c,o1l⟩,⟨o2a,o2c,o2l⟩⟩,Zr,Zq,ZD,(kn:Int),ZM,Zz,Zv,Zt,Zn,a9,Zm,Zu,⟨s_a,s_c,s_l⟩,ZC,ZE⟩).table (oi+powP kn) (ZJ.nd ⟨⟨⟨oa,oi⟩,⟨oq,oj⟩,⟨o1a,o1c,o1l⟩,⟨o2a,o2c,o2l⟩⟩,Zr,Zq,ZD,(kn:Int),ZM,Zz,Zv,Zt,Zn,a9,Zm,Zu,⟨s_a,s_c,s_l⟩,ZC,ZE⟩).avoid=_ from hq] at h3
      rw [if_pos (by show qb=false;simp_all)] at h3
      refine ⟨_,M4,[(bw,rowO (ZN.segs ⟨⟨⟨⟨oa,oi⟩,⟨oq,oj⟩,⟨o1a,o1c,o1l⟩,⟨o2a,o2c,o2l⟩⟩,Zr,Zq,ZD,0,ZM,Zz,Zv,Zt,Zn,a9,Zm,Zu,⟨s_a,s_c,s_l⟩,ZC,ZE⟩,⟨none,0,[]⟩⟩) 166)],rfl,((hM2.trans hm3).trans hm4),hw.c,rfl,⟨⟨⟨oa,oi⟩,⟨oq,oj⟩,⟨o1a,o1c,o1l⟩,⟨o2a,o2c,o2l⟩⟩,Zr,Zq,ZD,0,ZM,Zz,Zv,Zt,Zn,a9,Zm,Zu,⟨s_a,s_c,s_l⟩,ZC,ZE⟩,⟨none,0,[]⟩,rfl,?_,?_,⟨okt.mono hm4,(k9.mono hm3).mono hm4⟩,SlK.nil,fun y hy=>by cases hy⟩
      ·rw [h3] <;> rfl
      ·rw [h3] <;> rfl
     ·skip
      simp only [Zs.eta,ZO.eta,ZJ.eta,ZF.eta,Ym.eta,Yv.eta,Yy.eta,Yq.eta,ZN.eta,YF.eta,ZU.eta] at hc14
      iterate 6 refine Stp ?_
      refine Zy F.lay36 ?_;refine YT ?_;refine Zi F.foff166_0 ?_;refine Zi F.foff44_12 ?_;refine Ya F.lay36 ?_;refine YT ?_;refine Zi F.foff166_0 ?_;refine Zi F.foff44_14 ?_;refine Ya F.lay3 ?_
      iterate 2 refine Stp ?_
      refine YB (l:=[0,1,2,3]) [3] rfl ?_;refine Yk ?_;refine Zi F.foff38_0 ?_;refine Zy F.lay3 ?_;refine XN rfl rfl rfl F.ok167 rfl (seek_ok M4 bw oa oi oq oj o1a o2a s_a o1c o2c s_c o1l o2l s_l Zr Zq ZD (kn:Int) ZM Zz Zv Zt Zn a9 Zm (oi+powP kn) 0 ZE (okt.mono hm4) ((k9.mono hm3).mono hm4) jC qa) jA (ZT rfl) ?_
      rintro _ M5 hs5 hm5 ⟨rfl,⟨⟨⟨YJ,YP⟩,⟨YK,YQ⟩,⟨YW,YV,YU⟩,⟨YN,YM,YL⟩⟩,Wm,Wr,Vn,Wl,Ua,WH,Wn,Wi,XR,Wj,XS,Wk,⟨XV,XU,XT⟩,Vj,Vi⟩,⟨o_a,o_c,o_l⟩,rfl,hv1,hv2,okv,oko,okq⟩
      simp only [List.append_assoc,List.cons_append,List.nil_append]
      refine Xb (Xu ?_)
      refine ZV (.inl rfl) (.nil) (fun w hw=>?_)
      have h3:=fix_eq (n:=ZJ.nd ⟨⟨⟨Za,Zd⟩,⟨Zc,Zg⟩,⟨Zk,Zj,Zh⟩,⟨Zf,Ze,Zb⟩⟩,Zr,Zq,ZD,(kn:Int),ZM,Zz,Zv,Zt,Zn,Zw,Zm,Zu,⟨Zp,Zo,Zl⟩,ZC,ZE⟩) (m:=(ZJ.nd ⟨⟨⟨oa,oi⟩,⟨oq,oj⟩,⟨o1a,o1c,o1l⟩,⟨o2a,o2c,o2l⟩⟩,Zr,Zq,ZD,(kn:Int),ZM,Zz,Zv,Zt,Zn,a9,Zm,Zu,⟨s_a,s_c,s_l⟩,ZC,ZE⟩)) (id:=(oi+powP kn)) zI h2 rfl
      rw [show Th (ZJ.nd ⟨⟨⟨oa,oi⟩,⟨oq,oj⟩,⟨o1a,o1c,o1l⟩,⟨o2a,o2c,o2l⟩⟩,Zr,Zq,ZD,(kn:Int),ZM,Zz,Zv,Zt,Zn,a9,Zm,Zu,⟨s_a,s_c,s_l⟩,ZC,ZE⟩).table (oi+powP kn)=_ from hd] at h3
      rw [if_neg (by show ¬db=true;simp_all),show Ww (ZJ.nd ⟨⟨⟨oa,oi⟩,⟨oq,oj⟩,⟨o1a,o1c,o1l⟩,⟨o2a,o2c,o2l⟩⟩,Zr,Zq,ZD,(kn:Int),ZM,Zz,Zv,Zt,Zn,a9,Zm,Zu,⟨s_a,s_c,s_l⟩,ZC,ZE⟩).table (oi+powP kn) (ZJ.nd ⟨⟨⟨oa,oi⟩,⟨oq,oj⟩,⟨o1a,o1c,o1l⟩,⟨o2a,o2c,o2l⟩⟩,Zr,Zq,ZD,(kn:Int),ZM,Zz,Zv,Zt,Zn,a9,Zm,Zu,⟨s_a,s_c,s_l⟩,ZC,ZE⟩).avoid=_ from hq] at h3
      rw [if_neg (by show ¬qb=false;simp_all)] at h3
      exact ⟨_,M5,[(bw,rowO (ZN.segs ⟨⟨⟨⟨YJ,YP⟩,⟨YK,YQ⟩,⟨YW,YV,YU⟩,⟨YN,YM,YL⟩⟩,Wm,Wr,Vn,Wl,Ua,WH,Wn,Wi,XR,Wj,XS,Wk,⟨XV,XU,XT⟩,Vj,Vi⟩,⟨o_a,o_c,o_l⟩⟩) 166)],rfl,(((hM2.trans hm3).trans hm4).trans hm5),hw.c,rfl,⟨⟨⟨YJ,YP⟩,⟨YK,YQ⟩,⟨YW,YV,YU⟩,⟨YN,YM,YL⟩⟩,Wm,Wr,Vn,Wl,Ua,WH,Wn,Wi,XR,Wj,XS,Wk,⟨XV,XU,XT⟩,Vj,Vi⟩,⟨o_a,o_c,o_l⟩,rfl,by rw [h3];exact hv1,by rw [h3];exact hv2,okv,oko,okq⟩
theorem check_ok (M:Mem) (bw:Nat) (Za:Int) (Zd:Plc) (Zc:Int) (Zg:Plc) (Zk Zf Zp:Option Addr) (Zj Ze Zo:Nat) (Zh Zb:List Zs) (Zl:List Int) (Zr:Int) (Zq:Bool) (ZD Zx ZM Zz Zv Zt Zn Zw Zm:Int) (Zu:Plc) (ZC ZE:Int) (Yj:ZO.ok M ⟨⟨Za,Zd⟩,⟨Zc,Zg⟩,⟨Zk,Zj,Zh⟩,⟨Zf,Ze,Zb⟩⟩) (hbig:Zh.length≤40∧Zb.length≤200) (htu:0≤ZE∧ZE≤999999) (hav:Hp) (hA:OSl 3 1 (.slice Zp Zl.length Zo) hav (Zl.map (oneI .i64))) (hLa:Zl.length≤900):Fh Tryz.prog 107 [.pointer (some ⟨bw,0,none⟩)] M ((bw,rowO (ZN.segs ⟨⟨⟨⟨Za,Zd⟩,⟨Zc,Zg⟩,⟨Zk,Zj,Zh⟩,⟨Zf,Ze,Zb⟩⟩,Zr,Zq,ZD,Zx,ZM,Zz,Zv,Zt,Zn,Zw,Zm,Zu,⟨Zp,Zo,Zl⟩,ZC,ZE⟩,⟨none,0,[]⟩⟩) 166)::hav) (fun M' v Hout=>v=.tuple #[]∧WkF bw 166 M' Hout (Tg (ZJ.nd ⟨⟨⟨Za,Zd⟩,⟨Zc,Zg⟩,⟨Zk,Zj,Zh⟩,⟨Zf,Ze,Zb⟩⟩,Zr,Zq,ZD,Zx,ZM,Zz,Zv,Zt,Zn,Zw,Zm,Zu,⟨Zp,Zo,Zl⟩,ZC,ZE⟩))):=by
  obtain ⟨tn,rfl⟩:∃ tn:Nat,ZE=(tn:Int):=⟨ZE.toNat,by omega⟩
  refine YR (fun H=>(bw,rowO (ZN.segs ⟨⟨⟨⟨Za,Zd⟩,⟨Zc,Zg⟩,⟨Zk,Zj,Zh⟩,⟨Zf,Ze,Zb⟩⟩,Zr,Zq,ZD,Zx,ZM,Zz,Zv,Zt,Zn,Zw,Zm,Zu,⟨Zp,Zo,Zl⟩,ZC,(tn:Int)⟩,⟨none,0,[]⟩⟩) 166)::(hav++H)) (fun _=>by simp only [List.append_assoc,List.cons_append,List.nil_append]) Tryz.func107 rfl Tryz.ntmps107 rfl ?_;intro H
  refine VP ?_
  refine Sp hA jA (fun M2 hM2 k9=>?_)
  refine YB (l:=[0,1,2,3,4,5]) [5] rfl ?_
  iterate 3 refine Stp ?_
  refine Zi F.foff166_0 ?_;refine Zi F.foff44_8 ?_;refine XN rfl rfl rfl F.ok162 rfl (lostP_ok M2 bw Za Zd Zc Zg Zk Zf Zp Zj Ze Zo Zh Zb Zl Zr Zq ZD Zx ZM Zz Zv Zt Zn Zw Zm Zu ZC (tn:Int) (Yj.mono hM2) hbig) jA (ZT rfl) ?_
  rintro _ M3 hs3 hm3 ⟨rfl,⟨⟨oa,oi⟩,⟨oq,oj⟩,⟨o1a,o1c,o1l⟩,⟨o2a,o2c,o2l⟩⟩,a9,rfl,okt,hlo⟩
  have hbo:=lost_big (congrArg Prod.fst hlo) hbig
  have h2:=lost_ping (n:=ZJ.nd ⟨⟨⟨Za,Zd⟩,⟨Zc,Zg⟩,⟨Zk,Zj,Zh⟩,⟨Zf,Ze,Zb⟩⟩,Zr,Zq,ZD,Zx,ZM,Zz,Zv,Zt,Zn,Zw,Zm,Zu,⟨Zp,Zo,Zl⟩,ZC,(tn:Int)⟩) hlo
  simp only [List.append_assoc,List.cons_append,List.nil_append]
  refine Xb (Xu ?_)
  iterate 5 refine Stp ?_
  refine Zi F.foff166_0 ?_;refine Zi F.foff44_0 ?_;refine Zy F.lay41 ?_;refine X_fn rfl rfl F.ok20 rfl (Known_ok _ ⟨⟨oa,oi⟩,⟨oq,oj⟩,⟨o1a,o1c,o1l⟩,⟨o2a,o2c,o2l⟩⟩ okt hbo) rfl ?_
  rintro _ M4 hm4 ⟨⟨l_a,l_c,l_l⟩,rfl,hkl,okl⟩
  simp only at hkl
  have s_l:=okl.h1
  simp only at s_l
  have n_l:(l_l.map Zs.segs).length=l_l.length:=List.length_map ..
  have m_l:l_l.length≤9223372036854775807:=okl.h2
  iterate 7 refine Stp ?_
  refine YA F.elem39 ?_
  iterate 3 refine Stp ?_
  refine ZW rfl (cT fun hc1=>?_) (cF fun hc1=>?_)
  ·iterate 2 refine Stp ?_
   refine ZV (.inr rfl) (.nil) (fun w hw=>?_)
   have hl0:l_l=[]:=List.length_eq_zero_iff.1 jC
   rw [hl0] at hkl
   have h3:=check_nil (n:=(ZJ.nd ⟨⟨⟨Za,Zd⟩,⟨Zc,Zg⟩,⟨Zk,Zj,Zh⟩,⟨Zf,Ze,Zb⟩⟩,Zr,Zq,ZD,Zx,ZM,Zz,Zv,Zt,Zn,Zw,Zm,Zu,⟨Zp,Zo,Zl⟩,ZC,(tn:Int)⟩)) (m:=(ZJ.nd ⟨⟨⟨oa,oi⟩,⟨oq,oj⟩,⟨o1a,o1c,o1l⟩,⟨o2a,o2c,o2l⟩⟩,Zr,Zq,ZD,Zx,ZM,Zz,Zv,a9,Zn,Zw,Zm,Zu,⟨Zp,Zo,Zl⟩,ZC,(tn:Int)⟩)) h2 hkl.symm
   refine ⟨_,M4,[(bw,rowO (ZN.segs ⟨⟨⟨⟨oa,oi⟩,⟨oq,oj⟩,⟨o1a,o1c,o1l⟩,⟨o2a,o2c,o2l⟩⟩,Zr,Zq,ZD,Zx,ZM,Zz,Zv,a9,Zn,Zw,Zm,Zu,⟨Zp,Zo,Zl⟩,ZC,(tn:Int)⟩,⟨none,0,[]⟩⟩) 166)],rfl,((hM2.trans hm3).trans hm4),hw.c,rfl,⟨⟨⟨oa,oi⟩,⟨oq,oj⟩,⟨o1a,o1c,o1l⟩,⟨o2a,o2c,o2l⟩⟩,Zr,Zq,ZD,Zx,ZM,Zz,Zv,a9,Zn,Zw,Zm,Zu,⟨Zp,Zo,Zl⟩,ZC,(tn:Int)⟩,⟨none,0,[]⟩,rfl,?_,?_,⟨okt.mono hm4,(k9.mono hm3).mono hm4⟩,SlK.nil,fun y hy=>by cases hy⟩
   ·rw [h3] <;> rfl
   ·rw [h3] <;> rfl
  ·iterate 3 refine Stp ?_
   obtain ⟨kk,hkt⟩:∃ kk,tn % l_l.length=kk:=⟨_,rfl⟩
   have hkk:kk<l_l.length:=by rw [← hkt];exact Nat.mod_lt _ jC
   iterate 5 refine Stp ?_
   refine Zi F.foff166_0 ?_;refine Zi F.foff44_15 ?_;refine Zy F.lay3 ?_;refine Yk ?_;refine YA F.elem39 ?_;refine X_rem rfl rfl rfl rfl jC yR rfl ?_;refine XI 27 rfl (show _=Value.int .i64 (kk:Int) from by rw [← hkt];rfl) ?_;refine Ys rfl rfl rfl rfl F.elem39 jR jC yB rfl ?_;refine X_fieldAddr_el rfl rfl rfl yB F.foff38_0 rfl ?_;refine Xm rfl rfl rfl jE yC F.lay3 rfl rfl rfl ?_;refine YT ?_;refine Zi F.foff166_0 ?_;refine Zi F.foff44_8 ?_;refine Ya F.lay3 ?_
   iterate 3 refine Stp ?_
   refine YB (l:=[0,1,2,3,4,5,6,7,8,9,10,11,12]) [8] rfl ?_
   iterate 4 refine Stp ?_
   refine Zi F.foff166_0 ?_;refine Zi F.foff44_8 ?_;refine Zy F.lay3 ?_;refine Xo rfl rfl F.bld128 (.cons rfl jG .nil) rfl rfl ?_;refine XN rfl rfl rfl F.ok164 rfl (request_ok M4 bw oa oi oq oj o1a o2a Zp o1c o2c Zo o1l o2l Zl Zr Zq ZD Zx ZM Zz Zv l_l[kk].addr Zn Zw Zm Zu ZC (tn:Int) l_l[kk].addr ⟨6,⟨0,0⟩,0,0,⟨none,0,[]⟩,false,⟨0,0⟩,⟨none,0,[]⟩⟩) jA (ZT rfl) ?_
   rintro _ M5 hs5 hm5 ⟨rfl,⟨o9a,o9c,o9l⟩,rfl,k9o,hl9⟩
   simp only at hl9
   simp only [List.append_assoc,List.cons_append,List.nil_append]
   refine YT ?_;refine Zi F.foff166_0 ?_;refine Zi F.foff44_9 ?_;refine Ya F.lay42 ?_;refine Xb (Xu ?_)
   iterate 5 refine Stp ?_
   refine Zi F.foff166_0 ?_;refine Zi F.foff44_15 ?_;refine Zy F.lay3 ?_;refine YO rfl rfl rfl rfl rfl yA rfl ?_;refine X_rem rfl rfl rfl rfl jJ yR rfl ?_;refine YT ?_;refine Zi F.foff166_0 ?_;refine Zi F.foff44_15 ?_;refine Ya F.lay3 ?_;refine Xb ?_
   refine ZV (.inl rfl) (.nil) (fun w hw=>?_)
   have h3:=check_cons (n:=(ZJ.nd ⟨⟨⟨Za,Zd⟩,⟨Zc,Zg⟩,⟨Zk,Zj,Zh⟩,⟨Zf,Ze,Zb⟩⟩,Zr,Zq,ZD,Zx,ZM,Zz,Zv,Zt,Zn,Zw,Zm,Zu,⟨Zp,Zo,Zl⟩,ZC,(tn:Int)⟩)) (m:=(ZJ.nd ⟨⟨⟨oa,oi⟩,⟨oq,oj⟩,⟨o1a,o1c,o1l⟩,⟨o2a,o2c,o2l⟩⟩,Zr,Zq,ZD,Zx,ZM,Zz,Zv,a9,Zn,Zw,Zm,Zu,⟨Zp,Zo,Zl⟩,ZC,(tn:Int)⟩)) h2 hkl.symm hkk hkt rfl
   refine ⟨_,M5,[(bw,rowO (ZN.segs ⟨⟨⟨⟨oa,oi⟩,⟨oq,oj⟩,⟨o1a,o1c,o1l⟩,⟨o2a,o2c,o2l⟩⟩,Zr,Zq,ZD,Zx,(nxR ZM),Zz,Zv,l_l[kk].addr,(nxR ZM),Zw,Zm,Zu,⟨Zp,Zo,Zl⟩,ZC,(((tn:Int)+1) % 1000000)⟩,⟨o9a,o9c,o9l⟩⟩) 166)],rfl,(((hM2.trans hm3).trans hm4).trans hm5),hw.c,rfl,⟨⟨⟨oa,oi⟩,⟨oq,oj⟩,⟨o1a,o1c,o1l⟩,⟨o2a,o2c,o2l⟩⟩,Zr,Zq,ZD,Zx,(nxR ZM),Zz,Zv,l_l[kk].addr,(nxR ZM),Zw,Zm,Zu,⟨Zp,Zo,Zl⟩,ZC,(((tn:Int)+1) % 1000000)⟩,⟨o9a,o9c,o9l⟩,rfl,?_,?_,⟨(okt.mono hm4).mono hm5,((k9.mono hm3).mono hm4).mono hm5⟩,k9o,fun y hy=>?_⟩
   ·rw [h3] <;> rfl
   ·rw [h3]
    show sndl o9l=_
    rw [hl9];rfl
   ·simp only at hy
    rw [hl9] at hy
    obtain rfl:=List.mem_singleton.1 hy
    exact ⟨⟨SlK.nil,SlK.nil⟩⟩
theorem F.bld166:Bld Tryz.prog 166 [[.one (.int .i64 0),Yb 0,.one (.int .i64 0),Yb 0,.one (.slice none 0 0),.one (.slice none 0 0),.one (.int .i64 0),.one (.bool false),.one (.int .i64 0),.one (.int .i64 0),.one (.int .u64 0),.one (.int .i64 0),.one (.int .u64 0),.one (.int .i64 0),.one (.int .u64 0),.one (.int .i64 0),.one (.int .u64 0),Yb 0,.one (.slice none 0 0),.one (.int .i64 0),.one (.int .i64 0)],[.one (.slice none 0 0)]]:=by rw [TM];exact ⟨by kernel_rfl,by kernel_rfl⟩
theorem F.bld44:Bld Tryz.prog 44 [[.one (.int .i64 0),Yb 0,.one (.int .i64 0),Yb 0,.one (.slice none 0 0),.one (.slice none 0 0)],[.one (.int .i64 0)],[.one (.bool false)],[.one (.int .i64 0)],[.one (.int .i64 0)],[.one (.int .u64 0)],[.one (.int .i64 0)],[.one (.int .u64 0)],[.one (.int .i64 0)],[.one (.int .u64 0)],[.one (.int .i64 0)],[.one (.int .u64 0)],[Yb 0],[.one (.slice none 0 0)],[.one (.int .i64 0)],[.one (.int .i64 0)]]:=by rw [TM];exact ⟨by kernel_rfl,by kernel_rfl⟩
theorem F.lay44:lay Tryz.prog 44=some (true,78):=by kernel_rfl
theorem F.map172:Su Tryz.prog 172=some (3,171):=by kernel_rfl
theorem F.ok102:okFn Tryz.prog 102=true:=by kernel_rfl
theorem F.ok105:okFn Tryz.prog 105=true:=by kernel_rfl
theorem F.ok106:okFn Tryz.prog 106=true:=by kernel_rfl
theorem F.ok107:okFn Tryz.prog 107=true:=by kernel_rfl
theorem F.ok18:okFn Tryz.prog 18=true:=by kernel_rfl
theorem F.zero171:XW Tryz.prog 171=some (.nilFunc):=by kernel_rfl
theorem F.zero44:XW Tryz.prog 44=some (aggV [.one (.int .i64 0),Yb 0,.one (.int .i64 0),Yb 0,.one (.slice none 0 0),.one (.slice none 0 0),.one (.int .i64 0),.one (.bool false),.one (.int .i64 0),.one (.int .i64 0),.one (.int .u64 0),.one (.int .i64 0),.one (.int .u64 0),.one (.int .i64 0),.one (.int .u64 0),.one (.int .i64 0),.one (.int .u64 0),Yb 0,.one (.slice none 0 0),.one (.int .i64 0),.one (.int .i64 0)]):=by rw [TM];kernel_rfl
theorem of_ok (M:Mem) (Za:Int) (Zd:Plc) (Zc:Int) (Zg:Plc) (Zk Zf Zp:Option Addr) (Zj Ze Zo:Nat) (Zh Zb:List Zs) (Zl:List Int) (Zr:Int) (Zq:Bool) (ZD Zx ZM Zz Zv Zt Zn Zw Zm:Int) (Zu:Plc) (ZC ZE:Int) (Yu:SlK M (oneI .i64) 1 ⟨Zp,Zo,Zl⟩) (hLa:Zl.length≤1000):Fh Tryz.prog 102 [ZJ.enc ⟨⟨⟨Za,Zd⟩,⟨Zc,Zg⟩,⟨Zk,Zj,Zh⟩,⟨Zf,Ze,Zb⟩⟩,Zr,Zq,ZD,Zx,ZM,Zz,Zv,Zt,Zn,Zw,Zm,Zu,⟨Zp,Zo,Zl⟩,ZC,ZE⟩] M [] (fun M' v Hout=>M'=M∧∃ (bw:Nat) (a9:Option Addr) (c9:Nat) (hs9:Hp),v=.pointer (some ⟨bw,0,none⟩)∧Hout=(bw,rowO (ZN.segs ⟨⟨⟨⟨Za,Zd⟩,⟨Zc,Zg⟩,⟨Zk,Zj,Zh⟩,⟨Zf,Ze,Zb⟩⟩,Zr,Zq,ZD,Zx,ZM,Zz,Zv,Zt,Zn,Zw,Zm,Zu,⟨a9,c9,Zl⟩,ZC,ZE⟩,⟨none,0,[]⟩⟩) 166)::hs9∧OSl 3 1 (.slice a9 Zl.length c9) hs9 (Zl.map (oneI .i64))):=by
  refine Ui Tryz.func102 rfl Tryz.ntmps102 rfl ?_;intro H
  iterate 2 refine Stp ?_
  refine Xq ?_;intro b1
  iterate 5 refine Stp ?_
  refine Zi F.foff44_13 ?_;refine Zy F.lay32 ?_;refine WE rfl rfl F.ok156 rfl (CloneI_ok M Zp Zo Zl Yu jC) jA (fun _ _ _ hm hw=>(hw.lower jV).c) (ZT rfl) ?_
  rintro v0 M1 hs0 hm1 ⟨hM1,ho0⟩;subst M1
  obtain ⟨ad0,cp0,rfl⟩:=ho0.valL
  refine Zi F.foff44_13 ?_;refine Ya F.lay32 ?_
  iterate 4 refine Stp ?_
  refine Zy F.lay44 ?_;refine Xo rfl rfl F.bld166 (.cons rfl jG .nil) (setParts_first jD) rfl ?_
  refine Xq ?_;intro b2
  iterate 4 refine Stp ?_
  refine ZV (.inr rfl) (.tmp rfl .nil) (fun w hw=>?_)
  refine ⟨_,M,(b2,rowO (ZN.segs ⟨⟨⟨⟨Za,Zd⟩,⟨Zc,Zg⟩,⟨Zk,Zj,Zh⟩,⟨Zf,Ze,Zb⟩⟩,Zr,Zq,ZD,Zx,ZM,Zz,Zv,Zt,Zn,Zw,Zm,Zu,⟨ad0,cp0,Zl⟩,ZC,ZE⟩,⟨none,0,[]⟩⟩) 166)::hs0,rfl,Mem.le.refl M,?_,rfl,b2,ad0,cp0,hs0,rfl,rfl,ho0⟩
  simp only [ZN.segs,Sl.val,List.length_nil] at hw ⊢
  exact hw.c
theorem Tick_yes (M:Mem) (n:ZJ) (hn0:ZJ.ok M n) (kind:Int) (hk:1≤kind∧kind≤3) (fid:FuncId) (X:Nd→Nd×List Snd) (hl:(Wa (tickL 105 106 107) kind).getD .nilFunc=.func (.func fid) #[] #[]) (hok:okFn Tryz.prog fid=true) (hx:∀ n:Nd,X n=if kind=1 then TA n else if kind=2 then fixN n else Tg n)
   (hc:∀ (M:Mem) (bw:Nat) (Za:Int) (Zd:Plc) (Zc:Int) (Zg:Plc) (Zk Zf Zp:Option Addr) (Zj Ze Zo:Nat) (Zh Zb:List Zs) (Zl:List Int) (Zr:Int) (Zq:Bool) (ZD Zx ZM Zz Zv Zt Zn Zw Zm:Int) (Zu:Plc) (ZC ZE:Int) (Yj:ZO.ok M ⟨⟨Za,Zd⟩,⟨Zc,Zg⟩,⟨Zk,Zj,Zh⟩,⟨Zf,Ze,Zb⟩⟩) (hbig:Zh.length≤40∧Zb.length≤200) (hcu:0≤Zx∧Zx≤159) (htu:0≤ZE∧ZE≤999999) (hav:Hp) (hA:OSl 3 1 (.slice Zp Zl.length Zo) hav (Zl.map (oneI .i64))) (hLa:Zl.length≤900),Fh Tryz.prog fid [.pointer (some ⟨bw,0,none⟩)] M ((bw,rowO (ZN.segs ⟨⟨⟨⟨Za,Zd⟩,⟨Zc,Zg⟩,⟨Zk,Zj,Zh⟩,⟨Zf,Ze,Zb⟩⟩,Zr,Zq,ZD,Zx,ZM,Zz,Zv,Zt,Zn,Zw,Zm,Zu,⟨Zp,Zo,Zl⟩,ZC,ZE⟩,⟨none,0,[]⟩⟩) 166)::hav) (fun M' v Hout=>v=.tuple #[]∧WkF bw 166 M' Hout (X (ZJ.nd ⟨⟨⟨Za,Zd⟩,⟨Zc,Zg⟩,⟨Zk,Zj,Zh⟩,⟨Zf,Ze,Zb⟩⟩,Zr,Zq,ZD,Zx,ZM,Zz,Zv,Zt,Zn,Zw,Zm,Zu,⟨Zp,Zo,Zl⟩,ZC,ZE⟩)))):Esp.Fn Tryz.prog 68 [n.enc,.int .i64 kind] M (fun M' v=>NtE M' v (Uh n.nd kind)):=by
  obtain ⟨⟨⟨Za,Zd⟩,⟨Zc,Zg⟩,⟨Zk,Zj,Zh⟩,⟨Zf,Ze,Zb⟩⟩,Zr,Zq,ZD,Zx,ZM,Zz,Zv,Zt,Zn,Zw,Zm,Zu,⟨Zp,Zo,Zl⟩,ZC,ZE⟩:=n
  have Yj:ZO.ok M ⟨⟨Za,Zd⟩,⟨Zc,Zg⟩,⟨Zk,Zj,Zh⟩,⟨Zf,Ze,Zb⟩⟩:=hn0.h0
  have Xr:SlK M Zs.segs 21 ⟨Zk,Zj,Zh⟩:=hn0.h0.h0
  have s_n_table_succ:SlM M Zk (Zh.map Zs.segs) 21:=Xr.h1
  have n_n_table_succ:(Zh.map Zs.segs).length=Zh.length:=List.length_map ..
  have m_n_table_succ:Zh.length≤9223372036854775807:=Xr.h2
  have c_n_table_succ:Zh.length≤Zj:=Xr.h3
  have YZ:SlK M Zs.segs 21 ⟨Zf,Ze,Zb⟩:=hn0.h0.h1
  have s_n_table_fingers:SlM M Zf (Zb.map Zs.segs) 21:=YZ.h1
  have n_n_table_fingers:(Zb.map Zs.segs).length=Zb.length:=List.length_map ..
  have m_n_table_fingers:Zb.length≤9223372036854775807:=YZ.h2
  have c_n_table_fingers:Zb.length≤Ze:=YZ.h3
  have Yu:SlK M (oneI .i64) 1 ⟨Zp,Zo,Zl⟩:=hn0.h1
  have s_n_avoid:SlM M Zp (Zl.map (oneI .i64)) 1:=Yu.h1
  have n_n_avoid:(Zl.map (oneI .i64)).length=Zl.length:=List.length_map ..
  have m_n_avoid:Zl.length≤9223372036854775807:=Yu.h2
  have c_n_avoid:Zl.length≤Zo:=Yu.h3
  refine WF Tryz.func68 rfl Tryz.ntmps68 rfl ?_;intro H
  iterate 2 refine Stp ?_
  refine Xq ?_;intro b1
  refine Yz F.zero44 ?_;intro b2
  iterate 6 refine Stp ?_
  refine X_makeMap rfl rfl rfl ?_;intro b3
  refine VH rfl rfl rfl rfl rfl F.map172 imO_nil jB ?_;intro o4 him5;refine ⟨_,jH,?_⟩
  refine VH rfl rfl rfl rfl rfl F.map172 him5 jB ?_;intro o6 him7;refine ⟨_,jH,?_⟩
  refine VH rfl rfl rfl rfl rfl F.map172 him7 jB ?_;intro o8 him9;refine ⟨_,jH,?_⟩
  iterate 8 refine Stp ?_
  refine X_lookup rfl rfl rfl rfl F.map172 F.zero171 jB him9 (show (Wa (tickL 105 106 107) kind).getD .nilFunc=.func (.func fid) #[] #[] from hl) rfl ?_
  iterate 7 refine Stp ?_
  refine Tx Tryz.underlying171 ?_;refine Yk ?_
  refine Yt 17 rfl (fun hc10=>?_) (fun hc10=>?_)
  ·skip
   (exfalso;simp [eqX] at hc10;done)
  ·skip
   refine Zy F.lay44 ?_;refine X_fs rfl rfl F.ok18 rfl (IsN_ok _ ⟨⟨⟨Za,Zd⟩,⟨Zc,Zg⟩,⟨Zk,Zj,Zh⟩,⟨Zf,Ze,Zb⟩⟩,Zr,Zq,ZD,Zx,ZM,Zz,Zv,Zt,Zn,Zw,Zm,Zu,⟨Zp,Zo,Zl⟩,ZC,ZE⟩ hn0) rfl ?_
   rintro _ rfl
   iterate 4 refine Stp ?_
   refine ZW rfl (eT fun hc11=>?_) (eF fun hc11=>?_)
   ·iterate 2 refine Stp ?_
    refine Xo rfl rfl F.bld44 (.nil) rfl rfl ?_;refine Wf F.lay44 ?_
    iterate 6 refine Stp ?_
    refine ZV (.inr rfl) (.cell rfl jB F.lay44 rfl rfl (.tmp rfl (.tmp rfl .nil))) (fun w hw=>?_)
    refine ⟨_,M,rfl,Mem.le.refl M,hw.c,ZJ.zero,⟨none,0,[]⟩,?_,?_,?_,ZJ.zero_ok _,SlK.nil,fun y hy=>by cases hy⟩
    ·rw [tick_no (n:=ZJ.nd ⟨⟨⟨Za,Zd⟩,⟨Zc,Zg⟩,⟨Zk,Zj,Zh⟩,⟨Zf,Ze,Zb⟩⟩,Zr,Zq,ZD,Zx,ZM,Zz,Zv,Zt,Zn,Zw,Zm,Zu,⟨Zp,Zo,Zl⟩,ZC,ZE⟩) (fun q=>absurd q.1 jE)];rfl
    ·rw [tick_no (n:=ZJ.nd ⟨⟨⟨Za,Zd⟩,⟨Zc,Zg⟩,⟨Zk,Zj,Zh⟩,⟨Zf,Ze,Zb⟩⟩,Zr,Zq,ZD,Zx,ZM,Zz,Zv,Zt,Zn,Zw,Zm,Zu,⟨Zp,Zo,Zl⟩,ZC,ZE⟩) (fun q=>absurd q.1 jE)];rfl
    ·rw [tick_no (n:=ZJ.nd ⟨⟨⟨Za,Zd⟩,⟨Zc,Zg⟩,⟨Zk,Zj,Zh⟩,⟨Zf,Ze,Zb⟩⟩,Zr,Zq,ZD,Zx,ZM,Zz,Zv,Zt,Zn,Zw,Zm,Zu,⟨Zp,Zo,Zl⟩,ZC,ZE⟩) (fun q=>absurd q.1 jE)];rfl
   ·iterate 3 refine Stp ?_
    have hnd9:IsNd (ZJ.nd ⟨⟨⟨Za,Zd⟩,⟨Zc,Zg⟩,⟨Zk,Zj,Zh⟩,⟨Zf,Ze,Zb⟩⟩,Zr,Zq,ZD,Zx,ZM,Zz,Zv,Zt,Zn,Zw,Zm,Zu,⟨Zp,Zo,Zl⟩,ZC,ZE⟩):=by assumption
    have htb9:IsTb (ZO.tb ⟨⟨Za,Zd⟩,⟨Zc,Zg⟩,⟨Zk,Zj,Zh⟩,⟨Zf,Ze,Zb⟩⟩):=hnd9.1
    have hcu9:0≤Zx∧Zx≤159:=hnd9.2.2.2.1
    have htu9:0≤ZE∧ZE≤999999:=hnd9.2.2.2.2.2.2.1
    have hav9:Zl.length≤16:=hnd9.2.2.2.2.1
    refine Stp ?_;refine Zy F.lay44 ?_;refine WE rfl rfl F.ok102 rfl (of_ok M _ _ _ _ _ _ _ _ _ _ _ _ _ _ _ _ _ _ _ _ _ _ _ _ _ _ _ Yu jC) jA (fun _ _ _ hm hw=>(hw.lower jV).c) (ZT rfl) ?_
    rintro v1 M1 hs1 hm1 ⟨hM1,bw,s_a,s_c,hs9,rfl,rfl,ho9⟩;subst M1
    simp only [List.append_assoc,List.cons_append,List.nil_append]
    iterate 4 refine Stp ?_
    refine YB (l:=[0,1,2]) [2] rfl ?_
    iterate 2 refine Stp ?_
    refine X_fhVW (caps:=[]) rfl rfl rfl rfl hok rfl rfl (hc M bw Za Zd Zc Zg Zk Zf s_a Zj Ze s_c Zh Zb Zl Zr Zq ZD Zx ZM Zz Zv Zt Zn Zw Zm Zu ZC ZE Yj (isTb_small (t:=⟨⟨Za,Zd⟩,⟨Zc,Zg⟩,⟨Zk,Zj,Zh⟩,⟨Zf,Ze,Zb⟩⟩) htb9) hcu9 htu9 hs9 ho9 jC) jA (ZT rfl) ?_
    rintro _ M2 hs2 hm2 ⟨rfl,⟨⟨⟨YJ,YP⟩,⟨YK,YQ⟩,⟨YW,YV,YU⟩,⟨YN,YM,YL⟩⟩,Wm,Wr,Vn,Wl,Ua,WH,Wn,Wi,XR,Wj,XS,Wk,⟨XV,XU,XT⟩,Vj,Vi⟩,⟨o_a,o_c,o_l⟩,rfl,hv1,hv2,okv,oko,okq⟩
    simp only [List.append_assoc,List.cons_append,List.nil_append]
    refine Xb (Xu ?_)
    iterate 2 refine Stp ?_
    refine C_region_anyWR (l:=[0,1,2,3,4,5,6,7,8,9,10]) (Hin:=[(b2,_)]) [8] #[0,1,3,7,0,16,48,112,15,511,1023] jA rfl jI jI ?_
    iterate 2 refine Stp ?_
    refine Zi F.foff166_0 ?_;refine Zy F.lay44 ?_
    iterate 2 refine Stp ?_
    refine Zi F.foff166_1 ?_;refine Zy F.lay121 ?_;refine X_storeE rfl rfl rfl rfl rfl jG jM jH F.lay44 jD (Tm (m:=78) rfl jD jD) (fun _ h=>h.c) ?_
    iterate 3 refine Stp ?_
    refine Xu ?_
    iterate 2 refine Stp ?_
    refine ZV (.inr rfl) (.cell rfl jB F.lay44 rfl rfl (.tmp rfl (.tmp rfl .nil))) (fun w hw=>?_)
    have h3:=tick_yes (n:=ZJ.nd ⟨⟨⟨Za,Zd⟩,⟨Zc,Zg⟩,⟨Zk,Zj,Zh⟩,⟨Zf,Ze,Zb⟩⟩,Zr,Zq,ZD,Zx,ZM,Zz,Zv,Zt,Zn,Zw,Zm,Zu,⟨Zp,Zo,Zl⟩,ZC,ZE⟩) (k:=kind) (r:=X (ZJ.nd ⟨⟨⟨Za,Zd⟩,⟨Zc,Zg⟩,⟨Zk,Zj,Zh⟩,⟨Zf,Ze,Zb⟩⟩,Zr,Zq,ZD,Zx,ZM,Zz,Zv,Zt,Zn,Zw,Zm,Zu,⟨Zp,Zo,Zl⟩,ZC,ZE⟩)) hnd9 hk (hx _)
    exact ⟨_,M2,rfl,hm2,hw.c,⟨⟨⟨YJ,YP⟩,⟨YK,YQ⟩,⟨YW,YV,YU⟩,⟨YN,YM,YL⟩⟩,Wm,Wr,Vn,Wl,Ua,WH,Wn,Wi,XR,Wj,XS,Wk,⟨XV,XU,XT⟩,Vj,Vi⟩,⟨o_a,o_c,o_l⟩,by rw [h3] <;> rfl,by rw [h3];exact hv1,by rw [h3];exact hv2,okv,oko,okq⟩
theorem Tick_no (M:Mem) (n:ZJ) (hn0:ZJ.ok M n) (kind:Int) (hk:¬(1≤kind∧kind≤3)) (hl:(Wa (tickL 105 106 107) kind).getD .nilFunc=.nilFunc):Esp.Fn Tryz.prog 68 [n.enc,.int .i64 kind] M (fun M' v=>NtE M' v (Uh n.nd kind)):=by
  obtain ⟨⟨⟨Za,Zd⟩,⟨Zc,Zg⟩,⟨Zk,Zj,Zh⟩,⟨Zf,Ze,Zb⟩⟩,Zr,Zq,ZD,Zx,ZM,Zz,Zv,Zt,Zn,Zw,Zm,Zu,⟨Zp,Zo,Zl⟩,ZC,ZE⟩:=n
  have Yj:ZO.ok M ⟨⟨Za,Zd⟩,⟨Zc,Zg⟩,⟨Zk,Zj,Zh⟩,⟨Zf,Ze,Zb⟩⟩:=hn0.h0
  have Xr:SlK M Zs.segs 21 ⟨Zk,Zj,Zh⟩:=hn0.h0.h0
  have s_n_table_succ:SlM M Zk (Zh.map Zs.segs) 21:=Xr.h1
  have n_n_table_succ:(Zh.map Zs.segs).length=Zh.length:=List.length_map ..
  have m_n_table_succ:Zh.length≤9223372036854775807:=Xr.h2
  have c_n_table_succ:Zh.length≤Zj:=Xr.h3
  have YZ:SlK M Zs.segs 21 ⟨Zf,Ze,Zb⟩:=hn0.h0.h1
  have s_n_table_fingers:SlM M Zf (Zb.map Zs.segs) 21:=YZ.h1
  have n_n_table_fingers:(Zb.map Zs.segs).length=Zb.length:=List.length_map ..
  have m_n_table_fingers:Zb.length≤9223372036854775807:=YZ.h2
  have c_n_table_fingers:Zb.length≤Ze:=YZ.h3
  have Yu:SlK M (oneI .i64) 1 ⟨Zp,Zo,Zl⟩:=hn0.h1
  have s_n_avoid:SlM M Zp (Zl.map (oneI .i64)) 1:=Yu.h1
  have n_n_avoid:(Zl.map (oneI .i64)).length=Zl.length:=List.length_map ..
  have m_n_avoid:Zl.length≤9223372036854775807:=Yu.h2
  have c_n_avoid:Zl.length≤Zo:=Yu.h3
  refine WF Tryz.func68 rfl Tryz.ntmps68 rfl ?_;intro H
  iterate 2 refine Stp ?_
  refine Xq ?_;intro b1
  refine Yz F.zero44 ?_;intro b2
  iterate 6 refine Stp ?_
  refine X_makeMap rfl rfl rfl ?_;intro b3
  refine VH rfl rfl rfl rfl rfl F.map172 imO_nil jB ?_;intro o4 him5;refine ⟨_,jH,?_⟩
  refine VH rfl rfl rfl rfl rfl F.map172 him5 jB ?_;intro o6 him7;refine ⟨_,jH,?_⟩
  refine VH rfl rfl rfl rfl rfl F.map172 him7 jB ?_;intro o8 him9;refine ⟨_,jH,?_⟩
  iterate 8 refine Stp ?_
  refine X_lookup rfl rfl rfl rfl F.map172 F.zero171 jB him9 (show (Wa (tickL 105 106 107) kind).getD .nilFunc=.nilFunc from hl) rfl ?_
  iterate 7 refine Stp ?_
  refine Tx Tryz.underlying171 ?_;refine Yk ?_
  refine Yt 17 rfl (fun hc10=>?_) (fun hc10=>?_)
  ·skip
   iterate 9 refine Stp ?_
   refine Xo rfl rfl F.bld44 (.nil) rfl rfl ?_;refine Wf F.lay44 ?_
   iterate 6 refine Stp ?_
   refine ZV (.inr rfl) (.cell rfl jB F.lay44 rfl rfl (.tmp rfl (.tmp rfl .nil))) (fun w hw=>?_)
   refine ⟨_,M,rfl,Mem.le.refl M,hw.c,ZJ.zero,⟨none,0,[]⟩,?_,?_,?_,ZJ.zero_ok _,SlK.nil,fun y hy=>by cases hy⟩
   ·rw [tick_no (fun q=>hk ⟨q.2.1,q.2.2⟩)];rfl
   ·rw [tick_no (fun q=>hk ⟨q.2.1,q.2.2⟩)];rfl
   ·rw [tick_no (fun q=>hk ⟨q.2.1,q.2.2⟩)];rfl
  ·skip
   (exfalso;simp [eqX] at hc10;done)
theorem Tick_ok (M:Mem) (n:ZJ) (kind:Int) (hn0:ZJ.ok M n):Esp.Fn Tryz.prog 68 [n.enc,.int .i64 kind] M (fun M' v=>NtE M' v (Uh n.nd kind)):=by
  by_cases h1:kind=1
  ·subst h1;exact Tick_yes M n hn0 1 ⟨by decide,by decide⟩ 105 TA tickL1 F.ok105 (fun n=>rfl) (fun M bw Za Zd Zc Zg Zk Zf Zp Zj Ze Zo Zh Zb Zl Zr Zq ZD Zx ZM Zz Zv Zt Zn Zw Zm Zu ZC ZE Yj hbig hcu htu hav hA hLa=>stab_ok M bw Za Zd Zc Zg Zk Zf Zp Zj Ze Zo Zh Zb Zl Zr Zq ZD Zx ZM Zz Zv Zt Zn Zw Zm Zu ZC ZE Yj hbig hav hA hLa)
  by_cases h2:kind=2
  ·subst h2;exact Tick_yes M n hn0 2 ⟨by decide,by decide⟩ 106 fixN tickL2 F.ok106 (fun n=>rfl) (fun M bw Za Zd Zc Zg Zk Zf Zp Zj Ze Zo Zh Zb Zl Zr Zq ZD Zx ZM Zz Zv Zt Zn Zw Zm Zu ZC ZE Yj hbig hcu htu hav hA hLa=>fix_ok M bw Za Zd Zc Zg Zk Zf Zp Zj Ze Zo Zh Zb Zl Zr Zq ZD Zx ZM Zz Zv Zt Zn Zw Zm Zu ZC ZE Yj hbig hcu hav hA hLa)
  by_cases h3:kind=3
  ·subst h3;exact Tick_yes M n hn0 3 ⟨by decide,by decide⟩ 107 Tg tickL3 F.ok107 (fun n=>rfl) (fun M bw Za Zd Zc Zg Zk Zf Zp Zj Ze Zo Zh Zb Zl Zr Zq ZD Zx ZM Zz Zv Zt Zn Zw Zm Zu ZC ZE Yj hbig hcu htu hav hA hLa=>check_ok M bw Za Zd Zc Zg Zk Zf Zp Zj Ze Zo Zh Zb Zl Zr Zq ZD Zx ZM Zz Zv Zt Zn Zw Zm Zu ZC ZE Yj hbig htu hav hA hLa)
  have hk:¬(1≤kind∧kind≤3):=by omega
  exact Tick_no M n hn0 kind hk (tickL0 hk)
theorem F.ok176:okFn Tryz.prog 176=true:=by kernel_rfl
theorem F.zero128:XW Tryz.prog 128=some (aggV [.one (.int .i64 0),.one (.int .i64 0),Yb 0,.one (.int .u64 0),Yb 0,.one (.slice none 0 0),.one (.bool false),.one (.int .i64 0),Yb 0,.one (.slice none 0 0)]):=by rw [TM];kernel_rfl
theorem find_ok (M:Mem) (bw:Nat) (Za:Int) (Zd:Plc) (Zc:Int) (Zg:Plc) (Zk Zf Zp:Option Addr) (Zj Ze Zo:Nat) (Zh Zb:List Zs) (Zl:List Int) (Zr:Int) (Zq:Bool) (ZD Zx ZM Zz Zv Zt Zn Zw Zm:Int) (Zu:Plc) (ZC ZE:Int) (Yj:ZO.ok M ⟨⟨Za,Zd⟩,⟨Zc,Zg⟩,⟨Zk,Zj,Zh⟩,⟨Zf,Ze,Zb⟩⟩) (Yu:SlK M (oneI .i64) 1 ⟨Zp,Zo,Zl⟩) (hbig:Zh.length≤40∧Zb.length≤200) (hLa:Zl.length≤1000) (hh:0≤ZC∧ZC≤1000) (l:ZF) (hl0:ZF.ok M l) (hLp:l.peers.l.length≤1000) (hk:l.kind=1):Fh Tryz.prog 116 [.pointer (some ⟨bw,0,none⟩),l.enc] M [(bw,rowO (ZN.segs ⟨⟨⟨⟨Za,Zd⟩,⟨Zc,Zg⟩,⟨Zk,Zj,Zh⟩,⟨Zf,Ze,Zb⟩⟩,Zr,Zq,ZD,Zx,ZM,Zz,Zv,Zt,Zn,Zw,Zm,Zu,⟨Zp,Zo,Zl⟩,ZC,ZE⟩,⟨none,0,[]⟩⟩) 166)] (fun M' v Hout=>v=.tuple #[]∧WkF bw 166 M' Hout (Wu (ZJ.nd ⟨⟨⟨Za,Zd⟩,⟨Zc,Zg⟩,⟨Zk,Zj,Zh⟩,⟨Zf,Ze,Zb⟩⟩,Zr,Zq,ZD,Zx,ZM,Zz,Zv,Zt,Zn,Zw,Zm,Zu,⟨Zp,Zo,Zl⟩,ZC,ZE⟩) l.lt)):=by
  obtain ⟨ZK,⟨ZH,ZY⟩,Yd,l_id,⟨ZS,ZR,ZG⟩,ZX,⟨ZA,ZL⟩,⟨ZQ,ZP,ZB⟩⟩:=l
  simp only at hLp hk
  have XM:SlK M (oneI .i64) 1 ⟨ZS,ZR,ZG⟩:=hl0.h0
  have YY:SlK M Zs.segs 21 ⟨ZQ,ZP,ZB⟩:=hl0.h1
  have Wq:=YY.h1
  simp only at Wq
  have VS:(ZB.map Zs.segs).length=ZB.length:=List.length_map ..
  have VT:ZB.length≤ZP:=YY.h3
  refine YR (fun H=>(bw,rowO (ZN.segs ⟨⟨⟨⟨Za,Zd⟩,⟨Zc,Zg⟩,⟨Zk,Zj,Zh⟩,⟨Zf,Ze,Zb⟩⟩,Zr,Zq,ZD,Zx,ZM,Zz,Zv,Zt,Zn,Zw,Zm,Zu,⟨Zp,Zo,Zl⟩,ZC,ZE⟩,⟨none,0,[]⟩⟩) 166)::H) (fun _=>by simp only [List.append_assoc,List.cons_append,List.nil_append]) Tryz.func116 rfl Tryz.ntmps116 rfl ?_;intro H
  iterate 2 refine Stp ?_
  refine Xq ?_;intro b1
  iterate 7 refine Stp ?_
  refine Zi F.foff166_0 ?_;refine Zi F.foff44_2 ?_;refine Zy F.lay4 ?_
  iterate 3 refine Stp ?_
  refine ZW rfl (fun hc2=>?_) (fun hc2=>?_)
  ·skip
   iterate 2 refine Stp ?_
   refine ZV (.inr rfl) (.nil) (fun w hw=>?_)
   have h3:Wu (ZJ.nd ⟨⟨⟨Za,Zd⟩,⟨Zc,Zg⟩,⟨Zk,Zj,Zh⟩,⟨Zf,Ze,Zb⟩⟩,Zr,Zq,ZD,Zx,ZM,Zz,Zv,Zt,Zn,Zw,Zm,Zu,⟨Zp,Zo,Zl⟩,ZC,ZE⟩) (ZF.lt ⟨ZK,⟨ZH,ZY⟩,Yd,l_id,⟨ZS,ZR,ZG⟩,ZX,⟨ZA,ZL⟩,⟨ZQ,ZP,ZB⟩⟩)=((ZJ.nd ⟨⟨⟨Za,Zd⟩,⟨Zc,Zg⟩,⟨Zk,Zj,Zh⟩,⟨Zf,Ze,Zb⟩⟩,Zr,Zq,ZD,Zx,ZM,Zz,Zv,Zt,Zn,Zw,Zm,Zu,⟨Zp,Zo,Zl⟩,ZC,ZE⟩),[]):=(does1 hk).trans (congrArg (Prod.mk (ZJ.nd ⟨⟨⟨Za,Zd⟩,⟨Zc,Zg⟩,⟨Zk,Zj,Zh⟩,⟨Zf,Ze,Zb⟩⟩,Zr,Zq,ZD,Zx,ZM,Zz,Zv,Zt,Zn,Zw,Zm,Zu,⟨Zp,Zo,Zl⟩,ZC,ZE⟩)) (find_no (show Zq=false by first|assumption|(simp_all;done))))
   refine ⟨_,M,[(bw,rowO (ZN.segs ⟨⟨⟨⟨Za,Zd⟩,⟨Zc,Zg⟩,⟨Zk,Zj,Zh⟩,⟨Zf,Ze,Zb⟩⟩,Zr,Zq,ZD,Zx,ZM,Zz,Zv,Zt,Zn,Zw,Zm,Zu,⟨Zp,Zo,Zl⟩,ZC,ZE⟩,⟨none,0,[]⟩⟩) 166)],rfl,Mem.le.refl M,hw.c,rfl,⟨⟨⟨Za,Zd⟩,⟨Zc,Zg⟩,⟨Zk,Zj,Zh⟩,⟨Zf,Ze,Zb⟩⟩,Zr,Zq,ZD,Zx,ZM,Zz,Zv,Zt,Zn,Zw,Zm,Zu,⟨Zp,Zo,Zl⟩,ZC,ZE⟩,⟨none,0,[]⟩,rfl,?_,?_,⟨Yj,Yu⟩,SlK.nil,fun y hy=>by cases hy⟩
   ·rw [h3] <;> rfl
   ·rw [h3] <;> rfl
  ·skip
   iterate 4 refine Stp ?_
   refine Zi F.foff128_2 ?_;refine Zy F.lay42 ?_;refine Xo rfl rfl F.bld128 (.cons rfl jG (.cons rfl jG .nil)) rfl rfl ?_
   refine Yz F.zero128 ?_;intro b3
   refine Ul rfl rfl rfl rfl jG jM jH F.lay128 jD (Tm (m:=67) rfl jD jD) ?_
   iterate 3 refine Stp ?_
   refine Yg (l:=[0,1,2,3,4,5,6,7,8,9,10,11,12,13,14]) #[0,1,3,7,15,0,32,127,255,511,511,1023,3071,8191,16383] _ rfl jI jI St.drawn (fun _ h=>h) ?_
   iterate 2 refine Stp ?_
   refine Zi F.foff166_0 ?_;refine Zi F.foff44_0 ?_;refine Zy F.lay41 ?_;refine Zi F.foff128_3 ?_;refine Zy F.lay36 ?_;refine X_fs rfl rfl F.ok58 rfl (Done_ok _ ⟨⟨Za,Zd⟩,⟨Zc,Zg⟩,⟨Zk,Zj,Zh⟩,⟨Zf,Ze,Zb⟩⟩ l_id Yj) rfl ?_
   rintro _ rfl
   obtain ⟨⟨⟨da,di⟩,db⟩,hd⟩:∃ x,Th (ZO.tb ⟨⟨Za,Zd⟩,⟨Zc,Zg⟩,⟨Zk,Zj,Zh⟩,⟨Zf,Ze,Zb⟩⟩) l_id=x:=⟨_,rfl⟩
   rw [hd]
   iterate 3 refine Stp ?_
   refine Zi F.foff128_6 ?_;refine Ya F.lay38 ?_;refine Zi F.foff128_5 ?_;refine Ya F.lay4 ?_
   iterate 4 refine Stp ?_
   refine Yg (l:=[0,1,2,3,4,5,6,7,8,9,10,11,12,13,14,15]) #[0,1,3,7,15,0,32,0,128,511,1023,2047,2047,0,12287,32767] _ rfl jI jI St.drawn (fun _ h=>h) ?_
   iterate 2 refine Stp ?_
   refine Zi F.foff166_0 ?_;refine Zi F.foff44_0 ?_;refine Zy F.lay41 ?_;refine Zi F.foff128_3 ?_;refine Zy F.lay36 ?_;refine Zi F.foff128_4 ?_;refine Zy F.lay32 ?_;refine X_fn rfl rfl F.ok59 rfl (Nearest_ok _ ⟨⟨Za,Zd⟩,⟨Zc,Zg⟩,⟨Zk,Zj,Zh⟩,⟨Zf,Ze,Zb⟩⟩ l_id ⟨ZS,ZR,ZG⟩ Yj XM hbig) rfl ?_
   rintro _ M1 hm1 rfl
   obtain ⟨⟨⟨qa,qi⟩,qb⟩,hq⟩:∃ x,Ww (ZO.tb ⟨⟨Za,Zd⟩,⟨Zc,Zg⟩,⟨Zk,Zj,Zh⟩,⟨Zf,Ze,Zb⟩⟩) l_id (⟨ZS,ZR,ZG⟩:Sl Int).l=x:=⟨_,rfl⟩
   rw [hq]
   iterate 3 refine Stp ?_
   refine Yz F.zero38 ?_;intro b4
   refine Ya F.lay38 ?_
   iterate 5 refine Stp ?_
   refine Zi F.foff128_5 ?_;refine Zy F.lay4 ?_
   iterate 3 refine Stp ?_
   refine ZW rfl (fun hc5=>?_) (fun hc5=>?_)
   ·skip
    simp only [Zs.eta,ZO.eta,ZJ.eta,ZF.eta,Ym.eta,Yv.eta,Yy.eta,Yq.eta,ZN.eta,YF.eta,ZU.eta] at hc5
    iterate 6 refine Stp ?_
    refine ZW rfl (fun hc6=>?_) (fun hc6=>?_)
    ·skip
     simp only [Zs.eta,ZO.eta,ZJ.eta,ZF.eta,Ym.eta,Yv.eta,Yy.eta,Yq.eta,ZN.eta,YF.eta,ZU.eta] at hc6
     refine Stp ?_;refine Zy F.lay38 ?_;refine Zi F.foff128_6 ?_;refine Ya F.lay38 ?_
     iterate 5 refine Stp ?_
     refine Zi F.foff128_5 ?_;refine Ya F.lay4 ?_
     iterate 2 refine Stp ?_
     refine YB (l:=[0,1,2,3,4,5]) [5] rfl ?_;refine Yk ?_;refine Zi F.foff128_1 ?_;refine Zi F.foff38_0 ?_;refine Zy F.lay3 ?_;refine Zy F.lay128 ?_;refine XN rfl rfl rfl F.ok103 rfl (sendF_ok M1 bw Za Zd Zc Zg Zk Zf Zp Zj Ze Zo Zh Zb Zl Zr Zq ZD Zx ZM Zz Zv Zt Zn Zw Zm Zu ZC ZE ZH ⟨2,⟨0,0⟩,Yd,0,⟨none,0,[]⟩,(!qb),⟨qa,qi⟩,⟨none,0,[]⟩⟩) jA (ZT rfl) ?_
     rintro _ M2 hs2 hm2 ⟨rfl,⟨o9a,o9c,o9l⟩,rfl,k9o,hl9⟩
     simp only at hl9
     simp only [List.append_assoc,List.cons_append,List.nil_append]
     refine Xb (Xu ?_)
     refine ZV (.inl rfl) (.nil) (fun w hw=>?_)
     obtain rfl:db=false:=by first|assumption|(simp_all;done)
     obtain rfl:qb=true:=by first|assumption|(simp_all;done)
     have h3:Wu (ZJ.nd ⟨⟨⟨Za,Zd⟩,⟨Zc,Zg⟩,⟨Zk,Zj,Zh⟩,⟨Zf,Ze,Zb⟩⟩,Zr,Zq,ZD,Zx,ZM,Zz,Zv,Zt,Zn,Zw,Zm,Zu,⟨Zp,Zo,Zl⟩,ZC,ZE⟩) (ZF.lt ⟨ZK,⟨ZH,ZY⟩,Yd,l_id,⟨ZS,ZR,ZG⟩,ZX,⟨ZA,ZL⟩,⟨ZQ,ZP,ZB⟩⟩)=(ZJ.nd ⟨⟨⟨Za,Zd⟩,⟨Zc,Zg⟩,⟨Zk,Zj,Zh⟩,⟨Zf,Ze,Zb⟩⟩,Zr,Zq,ZD,Zx,ZM,Zz,Zv,Zt,Zn,Zw,Zm,Zu,⟨Zp,Zo,Zl⟩,ZC,ZE⟩,[Ym.snd (⟨ZH,(⟨2,⟨Za,Zd⟩,Yd,0,⟨none,0,[]⟩,false,⟨qa,qi⟩,⟨none,0,[]⟩⟩:ZF)⟩:Ym)]):=(does1 hk).trans (congrArg (Prod.mk (ZJ.nd ⟨⟨⟨Za,Zd⟩,⟨Zc,Zg⟩,⟨Zk,Zj,Zh⟩,⟨Zf,Ze,Zb⟩⟩,Zr,Zq,ZD,Zx,ZM,Zz,Zv,Zt,Zn,Zw,Zm,Zu,⟨Zp,Zo,Zl⟩,ZC,ZE⟩)) ((find_yes (n:=(ZJ.nd ⟨⟨⟨Za,Zd⟩,⟨Zc,Zg⟩,⟨Zk,Zj,Zh⟩,⟨Zf,Ze,Zb⟩⟩,Zr,Zq,ZD,Zx,ZM,Zz,Zv,Zt,Zn,Zw,Zm,Zu,⟨Zp,Zo,Zl⟩,ZC,ZE⟩)) (l:=(ZF.lt ⟨ZK,⟨ZH,ZY⟩,Yd,l_id,⟨ZS,ZR,ZG⟩,ZX,⟨ZA,ZL⟩,⟨ZQ,ZP,ZB⟩⟩)) (show Zq=true by first|assumption|(simp_all;done)) hd hq).trans rfl))
     refine ⟨_,M2,[(bw,rowO (ZN.segs ⟨⟨⟨⟨Za,Zd⟩,⟨Zc,Zg⟩,⟨Zk,Zj,Zh⟩,⟨Zf,Ze,Zb⟩⟩,Zr,Zq,ZD,Zx,ZM,Zz,Zv,Zt,Zn,Zw,Zm,Zu,⟨Zp,Zo,Zl⟩,ZC,ZE⟩,⟨o9a,o9c,o9l⟩⟩) 166)],rfl,(hm1.trans hm2),hw.c,rfl,⟨⟨⟨Za,Zd⟩,⟨Zc,Zg⟩,⟨Zk,Zj,Zh⟩,⟨Zf,Ze,Zb⟩⟩,Zr,Zq,ZD,Zx,ZM,Zz,Zv,Zt,Zn,Zw,Zm,Zu,⟨Zp,Zo,Zl⟩,ZC,ZE⟩,⟨o9a,o9c,o9l⟩,rfl,?_,?_,⟨(Yj.mono hm1).mono hm2,(Yu.mono hm1).mono hm2⟩,k9o,fun y hy=>?_⟩
     ·rw [h3] <;> rfl
     ·rw [h3]
      show sndl o9l=_
      rw [hl9];rfl
     ·simp only at hy
      rw [hl9] at hy
      obtain rfl:=List.mem_singleton.1 hy
      exact ⟨⟨SlK.nil,SlK.nil⟩⟩
    ·skip
     simp only [Zs.eta,ZO.eta,ZJ.eta,ZF.eta,Ym.eta,Yv.eta,Yy.eta,Yq.eta,ZN.eta,YF.eta,ZU.eta] at hc6
     iterate 5 refine Stp ?_
     refine Zi F.foff128_5 ?_;refine Ya F.lay4 ?_
     iterate 2 refine Stp ?_
     refine YB (l:=[0,1,2,3,4,5]) [5] rfl ?_;refine Yk ?_;refine Zi F.foff128_1 ?_;refine Zi F.foff38_0 ?_;refine Zy F.lay3 ?_;refine Zy F.lay128 ?_;refine XN rfl rfl rfl F.ok103 rfl (sendF_ok M1 bw Za Zd Zc Zg Zk Zf Zp Zj Ze Zo Zh Zb Zl Zr Zq ZD Zx ZM Zz Zv Zt Zn Zw Zm Zu ZC ZE ZH ⟨2,⟨0,0⟩,Yd,0,⟨none,0,[]⟩,(!qb),⟨da,di⟩,⟨none,0,[]⟩⟩) jA (ZT rfl) ?_
     rintro _ M2 hs2 hm2 ⟨rfl,⟨o9a,o9c,o9l⟩,rfl,k9o,hl9⟩
     simp only at hl9
     simp only [List.append_assoc,List.cons_append,List.nil_append]
     refine Xb (Xu ?_)
     refine ZV (.inl rfl) (.nil) (fun w hw=>?_)
     obtain rfl:db=false:=by first|assumption|(simp_all;done)
     obtain rfl:qb=false:=by first|assumption|(simp_all;done)
     have h3:Wu (ZJ.nd ⟨⟨⟨Za,Zd⟩,⟨Zc,Zg⟩,⟨Zk,Zj,Zh⟩,⟨Zf,Ze,Zb⟩⟩,Zr,Zq,ZD,Zx,ZM,Zz,Zv,Zt,Zn,Zw,Zm,Zu,⟨Zp,Zo,Zl⟩,ZC,ZE⟩) (ZF.lt ⟨ZK,⟨ZH,ZY⟩,Yd,l_id,⟨ZS,ZR,ZG⟩,ZX,⟨ZA,ZL⟩,⟨ZQ,ZP,ZB⟩⟩)=(ZJ.nd ⟨⟨⟨Za,Zd⟩,⟨Zc,Zg⟩,⟨Zk,Zj,Zh⟩,⟨Zf,Ze,Zb⟩⟩,Zr,Zq,ZD,Zx,ZM,Zz,Zv,Zt,Zn,Zw,Zm,Zu,⟨Zp,Zo,Zl⟩,ZC,ZE⟩,[Ym.snd (⟨ZH,(⟨2,⟨Za,Zd⟩,Yd,0,⟨none,0,[]⟩,true,⟨da,di⟩,⟨none,0,[]⟩⟩:ZF)⟩:Ym)]):=(does1 hk).trans (congrArg (Prod.mk (ZJ.nd ⟨⟨⟨Za,Zd⟩,⟨Zc,Zg⟩,⟨Zk,Zj,Zh⟩,⟨Zf,Ze,Zb⟩⟩,Zr,Zq,ZD,Zx,ZM,Zz,Zv,Zt,Zn,Zw,Zm,Zu,⟨Zp,Zo,Zl⟩,ZC,ZE⟩)) ((find_yes (n:=(ZJ.nd ⟨⟨⟨Za,Zd⟩,⟨Zc,Zg⟩,⟨Zk,Zj,Zh⟩,⟨Zf,Ze,Zb⟩⟩,Zr,Zq,ZD,Zx,ZM,Zz,Zv,Zt,Zn,Zw,Zm,Zu,⟨Zp,Zo,Zl⟩,ZC,ZE⟩)) (l:=(ZF.lt ⟨ZK,⟨ZH,ZY⟩,Yd,l_id,⟨ZS,ZR,ZG⟩,ZX,⟨ZA,ZL⟩,⟨ZQ,ZP,ZB⟩⟩)) (show Zq=true by first|assumption|(simp_all;done)) hd hq).trans rfl))
     refine ⟨_,M2,[(bw,rowO (ZN.segs ⟨⟨⟨⟨Za,Zd⟩,⟨Zc,Zg⟩,⟨Zk,Zj,Zh⟩,⟨Zf,Ze,Zb⟩⟩,Zr,Zq,ZD,Zx,ZM,Zz,Zv,Zt,Zn,Zw,Zm,Zu,⟨Zp,Zo,Zl⟩,ZC,ZE⟩,⟨o9a,o9c,o9l⟩⟩) 166)],rfl,(hm1.trans hm2),hw.c,rfl,⟨⟨⟨Za,Zd⟩,⟨Zc,Zg⟩,⟨Zk,Zj,Zh⟩,⟨Zf,Ze,Zb⟩⟩,Zr,Zq,ZD,Zx,ZM,Zz,Zv,Zt,Zn,Zw,Zm,Zu,⟨Zp,Zo,Zl⟩,ZC,ZE⟩,⟨o9a,o9c,o9l⟩,rfl,?_,?_,⟨(Yj.mono hm1).mono hm2,(Yu.mono hm1).mono hm2⟩,k9o,fun y hy=>?_⟩
     ·rw [h3] <;> rfl
     ·rw [h3]
      show sndl o9l=_
      rw [hl9];rfl
     ·simp only at hy
      rw [hl9] at hy
      obtain rfl:=List.mem_singleton.1 hy
      exact ⟨⟨SlK.nil,SlK.nil⟩⟩
   ·skip
    simp only [Zs.eta,ZO.eta,ZJ.eta,ZF.eta,Ym.eta,Yv.eta,Yy.eta,Yq.eta,ZN.eta,YF.eta,ZU.eta] at hc5
    iterate 2 refine Stp ?_
    refine YB (l:=[0,1,2,3,4,5]) [5] rfl ?_;refine Yk ?_;refine Zi F.foff128_1 ?_;refine Zi F.foff38_0 ?_;refine Zy F.lay3 ?_;refine Zy F.lay128 ?_;refine XN rfl rfl rfl F.ok103 rfl (sendF_ok M1 bw Za Zd Zc Zg Zk Zf Zp Zj Ze Zo Zh Zb Zl Zr Zq ZD Zx ZM Zz Zv Zt Zn Zw Zm Zu ZC ZE ZH ⟨2,⟨0,0⟩,Yd,0,⟨none,0,[]⟩,db,⟨da,di⟩,⟨none,0,[]⟩⟩) jA (ZT rfl) ?_
    rintro _ M2 hs2 hm2 ⟨rfl,⟨o9a,o9c,o9l⟩,rfl,k9o,hl9⟩
    simp only at hl9
    simp only [List.append_assoc,List.cons_append,List.nil_append]
    refine Xb (Xu ?_)
    refine ZV (.inl rfl) (.nil) (fun w hw=>?_)
    obtain rfl:db=true:=by first|assumption|(simp_all;done)
    have h3:Wu (ZJ.nd ⟨⟨⟨Za,Zd⟩,⟨Zc,Zg⟩,⟨Zk,Zj,Zh⟩,⟨Zf,Ze,Zb⟩⟩,Zr,Zq,ZD,Zx,ZM,Zz,Zv,Zt,Zn,Zw,Zm,Zu,⟨Zp,Zo,Zl⟩,ZC,ZE⟩) (ZF.lt ⟨ZK,⟨ZH,ZY⟩,Yd,l_id,⟨ZS,ZR,ZG⟩,ZX,⟨ZA,ZL⟩,⟨ZQ,ZP,ZB⟩⟩)=(ZJ.nd ⟨⟨⟨Za,Zd⟩,⟨Zc,Zg⟩,⟨Zk,Zj,Zh⟩,⟨Zf,Ze,Zb⟩⟩,Zr,Zq,ZD,Zx,ZM,Zz,Zv,Zt,Zn,Zw,Zm,Zu,⟨Zp,Zo,Zl⟩,ZC,ZE⟩,[Ym.snd (⟨ZH,(⟨2,⟨Za,Zd⟩,Yd,0,⟨none,0,[]⟩,true,⟨da,di⟩,⟨none,0,[]⟩⟩:ZF)⟩:Ym)]):=(does1 hk).trans (congrArg (Prod.mk (ZJ.nd ⟨⟨⟨Za,Zd⟩,⟨Zc,Zg⟩,⟨Zk,Zj,Zh⟩,⟨Zf,Ze,Zb⟩⟩,Zr,Zq,ZD,Zx,ZM,Zz,Zv,Zt,Zn,Zw,Zm,Zu,⟨Zp,Zo,Zl⟩,ZC,ZE⟩)) ((find_yes (n:=(ZJ.nd ⟨⟨⟨Za,Zd⟩,⟨Zc,Zg⟩,⟨Zk,Zj,Zh⟩,⟨Zf,Ze,Zb⟩⟩,Zr,Zq,ZD,Zx,ZM,Zz,Zv,Zt,Zn,Zw,Zm,Zu,⟨Zp,Zo,Zl⟩,ZC,ZE⟩)) (l:=(ZF.lt ⟨ZK,⟨ZH,ZY⟩,Yd,l_id,⟨ZS,ZR,ZG⟩,ZX,⟨ZA,ZL⟩,⟨ZQ,ZP,ZB⟩⟩)) (show Zq=true by first|assumption|(simp_all;done)) hd hq).trans rfl))
    refine ⟨_,M2,[(bw,rowO (ZN.segs ⟨⟨⟨⟨Za,Zd⟩,⟨Zc,Zg⟩,⟨Zk,Zj,Zh⟩,⟨Zf,Ze,Zb⟩⟩,Zr,Zq,ZD,Zx,ZM,Zz,Zv,Zt,Zn,Zw,Zm,Zu,⟨Zp,Zo,Zl⟩,ZC,ZE⟩,⟨o9a,o9c,o9l⟩⟩) 166)],rfl,(hm1.trans hm2),hw.c,rfl,⟨⟨⟨Za,Zd⟩,⟨Zc,Zg⟩,⟨Zk,Zj,Zh⟩,⟨Zf,Ze,Zb⟩⟩,Zr,Zq,ZD,Zx,ZM,Zz,Zv,Zt,Zn,Zw,Zm,Zu,⟨Zp,Zo,Zl⟩,ZC,ZE⟩,⟨o9a,o9c,o9l⟩,rfl,?_,?_,⟨(Yj.mono hm1).mono hm2,(Yu.mono hm1).mono hm2⟩,k9o,fun y hy=>?_⟩
    ·rw [h3] <;> rfl
    ·rw [h3]
     show sndl o9l=_
     rw [hl9];rfl
    ·simp only at hy
     rw [hl9] at hy
     obtain rfl:=List.mem_singleton.1 hy
     exact ⟨⟨SlK.nil,SlK.nil⟩⟩
theorem ask_ok (M:Mem) (bw:Nat) (Za:Int) (Zd:Plc) (Zc:Int) (Zg:Plc) (Zk Zf Zp:Option Addr) (Zj Ze Zo:Nat) (Zh Zb:List Zs) (Zl:List Int) (Zr:Int) (Zq:Bool) (ZD Zx ZM Zz Zv Zt Zn Zw Zm:Int) (Zu:Plc) (ZC ZE:Int) (Yj:ZO.ok M ⟨⟨Za,Zd⟩,⟨Zc,Zg⟩,⟨Zk,Zj,Zh⟩,⟨Zf,Ze,Zb⟩⟩) (Yu:SlK M (oneI .i64) 1 ⟨Zp,Zo,Zl⟩) (hbig:Zh.length≤40∧Zb.length≤200) (hLa:Zl.length≤1000) (hh:0≤ZC∧ZC≤1000) (l:ZF) (hl0:ZF.ok M l) (hLp:l.peers.l.length≤1000) (hk:l.kind=3):Fh Tryz.prog 118 [.pointer (some ⟨bw,0,none⟩),l.enc] M [(bw,rowO (ZN.segs ⟨⟨⟨⟨Za,Zd⟩,⟨Zc,Zg⟩,⟨Zk,Zj,Zh⟩,⟨Zf,Ze,Zb⟩⟩,Zr,Zq,ZD,Zx,ZM,Zz,Zv,Zt,Zn,Zw,Zm,Zu,⟨Zp,Zo,Zl⟩,ZC,ZE⟩,⟨none,0,[]⟩⟩) 166)] (fun M' v Hout=>v=.tuple #[]∧WkF bw 166 M' Hout (Wu (ZJ.nd ⟨⟨⟨Za,Zd⟩,⟨Zc,Zg⟩,⟨Zk,Zj,Zh⟩,⟨Zf,Ze,Zb⟩⟩,Zr,Zq,ZD,Zx,ZM,Zz,Zv,Zt,Zn,Zw,Zm,Zu,⟨Zp,Zo,Zl⟩,ZC,ZE⟩) l.lt)):=by
  obtain ⟨ZK,⟨ZH,ZY⟩,Yd,l_id,⟨ZS,ZR,ZG⟩,ZX,⟨ZA,ZL⟩,⟨ZQ,ZP,ZB⟩⟩:=l
  simp only at hLp hk
  have XM:SlK M (oneI .i64) 1 ⟨ZS,ZR,ZG⟩:=hl0.h0
  have YY:SlK M Zs.segs 21 ⟨ZQ,ZP,ZB⟩:=hl0.h1
  have Wq:=YY.h1
  simp only at Wq
  have VS:(ZB.map Zs.segs).length=ZB.length:=List.length_map ..
  have VT:ZB.length≤ZP:=YY.h3
  refine YR (fun H=>(bw,rowO (ZN.segs ⟨⟨⟨⟨Za,Zd⟩,⟨Zc,Zg⟩,⟨Zk,Zj,Zh⟩,⟨Zf,Ze,Zb⟩⟩,Zr,Zq,ZD,Zx,ZM,Zz,Zv,Zt,Zn,Zw,Zm,Zu,⟨Zp,Zo,Zl⟩,ZC,ZE⟩,⟨none,0,[]⟩⟩) 166)::H) (fun _=>by simp only [List.append_assoc,List.cons_append,List.nil_append]) Tryz.func118 rfl Tryz.ntmps118 rfl ?_;intro H
  iterate 2 refine Stp ?_
  refine Xq ?_;intro b1
  iterate 6 refine Stp ?_
  refine Zi F.foff166_0 ?_;refine Zi F.foff44_2 ?_;refine Zy F.lay4 ?_
  iterate 2 refine Stp ?_
  refine ZW rfl (fun hc2=>?_) (fun hc2=>?_)
  ·skip
   refine C_region_anyW (l:=[0,1,2,3,4,5,6,7,8,9,10,11,12,13,14,15,16,17,18,19]) [19] #[0,0,2,6,0,16,0,64,192,448,960,1984,0,4096,12288,28672,61440,126976,262128,524287] (_) rfl jI jI St.drawn (fun _ h=>h) ?_;refine Yk ?_;refine Zi F.foff128_1 ?_;refine Zi F.foff38_0 ?_;refine Zy F.lay3 ?_;refine Zi F.foff128_2 ?_;refine Zy F.lay42 ?_
   iterate 2 refine Stp ?_
   refine Zi F.foff166_0 ?_;refine Zi F.foff44_0 ?_;refine Zi F.foff41_1 ?_;refine Zy F.lay38 ?_
   iterate 2 refine Stp ?_
   refine Zi F.foff166_0 ?_;refine Zi F.foff44_0 ?_;refine Zi F.foff41_2 ?_;refine Zy F.lay39 ?_;refine Xo rfl rfl F.bld128 (.cons rfl jG (.cons rfl jG (.cons rfl jG (.cons rfl jG .nil)))) rfl rfl ?_;refine XN rfl rfl rfl F.ok103 rfl (sendF_ok M bw Za Zd Zc Zg Zk Zf Zp Zj Ze Zo Zh Zb Zl Zr Zq ZD Zx ZM Zz Zv Zt Zn Zw Zm Zu ZC ZE ZH ⟨4,⟨0,0⟩,Yd,0,⟨none,0,[]⟩,false,⟨Zc,Zg⟩,⟨Zk,Zj,Zh⟩⟩) jA (ZT rfl) ?_
   rintro _ M2 hs2 hm2 ⟨rfl,⟨o9a,o9c,o9l⟩,rfl,k9o,hl9⟩
   simp only at hl9
   simp only [List.append_assoc,List.cons_append,List.nil_append]
   refine Xb (Xu ?_)
   refine ZV (.inl rfl) (.nil) (fun w hw=>?_)
   have h3:Wu (ZJ.nd ⟨⟨⟨Za,Zd⟩,⟨Zc,Zg⟩,⟨Zk,Zj,Zh⟩,⟨Zf,Ze,Zb⟩⟩,Zr,Zq,ZD,Zx,ZM,Zz,Zv,Zt,Zn,Zw,Zm,Zu,⟨Zp,Zo,Zl⟩,ZC,ZE⟩) (ZF.lt ⟨ZK,⟨ZH,ZY⟩,Yd,l_id,⟨ZS,ZR,ZG⟩,ZX,⟨ZA,ZL⟩,⟨ZQ,ZP,ZB⟩⟩)=(ZJ.nd ⟨⟨⟨Za,Zd⟩,⟨Zc,Zg⟩,⟨Zk,Zj,Zh⟩,⟨Zf,Ze,Zb⟩⟩,Zr,Zq,ZD,Zx,ZM,Zz,Zv,Zt,Zn,Zw,Zm,Zu,⟨Zp,Zo,Zl⟩,ZC,ZE⟩,[Ym.snd (⟨ZH,(⟨4,⟨Za,Zd⟩,Yd,0,⟨none,0,[]⟩,false,⟨Zc,Zg⟩,⟨Zk,Zj,Zh⟩⟩:ZF)⟩:Ym)]):=does3y hk (show Zq=true by first|assumption|(simp_all;done))
   refine ⟨_,M2,[(bw,rowO (ZN.segs ⟨⟨⟨⟨Za,Zd⟩,⟨Zc,Zg⟩,⟨Zk,Zj,Zh⟩,⟨Zf,Ze,Zb⟩⟩,Zr,Zq,ZD,Zx,ZM,Zz,Zv,Zt,Zn,Zw,Zm,Zu,⟨Zp,Zo,Zl⟩,ZC,ZE⟩,⟨o9a,o9c,o9l⟩⟩) 166)],rfl,hm2,hw.c,rfl,⟨⟨⟨Za,Zd⟩,⟨Zc,Zg⟩,⟨Zk,Zj,Zh⟩,⟨Zf,Ze,Zb⟩⟩,Zr,Zq,ZD,Zx,ZM,Zz,Zv,Zt,Zn,Zw,Zm,Zu,⟨Zp,Zo,Zl⟩,ZC,ZE⟩,⟨o9a,o9c,o9l⟩,rfl,?_,?_,⟨Yj.mono hm2,Yu.mono hm2⟩,k9o,fun y hy=>?_⟩
   ·rw [h3] <;> rfl
   ·rw [h3]
    show sndl o9l=_
    rw [hl9];rfl
   ·simp only at hy
    rw [hl9] at hy
    obtain rfl:=List.mem_singleton.1 hy
    exact ⟨⟨SlK.nil,(Yj.mono hm2).h0⟩⟩
  ·skip
   refine Vy ?_
   refine ZV (.inl rfl) (.nil) (fun w hw=>?_)
   have h3:Wu (ZJ.nd ⟨⟨⟨Za,Zd⟩,⟨Zc,Zg⟩,⟨Zk,Zj,Zh⟩,⟨Zf,Ze,Zb⟩⟩,Zr,Zq,ZD,Zx,ZM,Zz,Zv,Zt,Zn,Zw,Zm,Zu,⟨Zp,Zo,Zl⟩,ZC,ZE⟩) (ZF.lt ⟨ZK,⟨ZH,ZY⟩,Yd,l_id,⟨ZS,ZR,ZG⟩,ZX,⟨ZA,ZL⟩,⟨ZQ,ZP,ZB⟩⟩)=((ZJ.nd ⟨⟨⟨Za,Zd⟩,⟨Zc,Zg⟩,⟨Zk,Zj,Zh⟩,⟨Zf,Ze,Zb⟩⟩,Zr,Zq,ZD,Zx,ZM,Zz,Zv,Zt,Zn,Zw,Zm,Zu,⟨Zp,Zo,Zl⟩,ZC,ZE⟩),[]):=does3n hk (show Zq=false by first|assumption|(simp_all;done))
   refine ⟨_,M,[(bw,rowO (ZN.segs ⟨⟨⟨⟨Za,Zd⟩,⟨Zc,Zg⟩,⟨Zk,Zj,Zh⟩,⟨Zf,Ze,Zb⟩⟩,Zr,Zq,ZD,Zx,ZM,Zz,Zv,Zt,Zn,Zw,Zm,Zu,⟨Zp,Zo,Zl⟩,ZC,ZE⟩,⟨none,0,[]⟩⟩) 166)],rfl,Mem.le.refl M,hw.c,rfl,⟨⟨⟨Za,Zd⟩,⟨Zc,Zg⟩,⟨Zk,Zj,Zh⟩,⟨Zf,Ze,Zb⟩⟩,Zr,Zq,ZD,Zx,ZM,Zz,Zv,Zt,Zn,Zw,Zm,Zu,⟨Zp,Zo,Zl⟩,ZC,ZE⟩,⟨none,0,[]⟩,rfl,?_,?_,⟨Yj,Yu⟩,SlK.nil,fun y hy=>by cases hy⟩
   ·rw [h3] <;> rfl
   ·rw [h3] <;> rfl
theorem notify_ok (M:Mem) (bw:Nat) (Za:Int) (Zd:Plc) (Zc:Int) (Zg:Plc) (Zk Zf Zp:Option Addr) (Zj Ze Zo:Nat) (Zh Zb:List Zs) (Zl:List Int) (Zr:Int) (Zq:Bool) (ZD Zx ZM Zz Zv Zt Zn Zw Zm:Int) (Zu:Plc) (ZC ZE:Int) (Yj:ZO.ok M ⟨⟨Za,Zd⟩,⟨Zc,Zg⟩,⟨Zk,Zj,Zh⟩,⟨Zf,Ze,Zb⟩⟩) (Yu:SlK M (oneI .i64) 1 ⟨Zp,Zo,Zl⟩) (hbig:Zh.length≤40∧Zb.length≤200) (hLa:Zl.length≤1000) (hh:0≤ZC∧ZC≤1000) (l:ZF) (hl0:ZF.ok M l) (hLp:l.peers.l.length≤1000) (hk:l.kind=5):Fh Tryz.prog 120 [.pointer (some ⟨bw,0,none⟩),l.enc] M [(bw,rowO (ZN.segs ⟨⟨⟨⟨Za,Zd⟩,⟨Zc,Zg⟩,⟨Zk,Zj,Zh⟩,⟨Zf,Ze,Zb⟩⟩,Zr,Zq,ZD,Zx,ZM,Zz,Zv,Zt,Zn,Zw,Zm,Zu,⟨Zp,Zo,Zl⟩,ZC,ZE⟩,⟨none,0,[]⟩⟩) 166)] (fun M' v Hout=>v=.tuple #[]∧WkF bw 166 M' Hout (Wu (ZJ.nd ⟨⟨⟨Za,Zd⟩,⟨Zc,Zg⟩,⟨Zk,Zj,Zh⟩,⟨Zf,Ze,Zb⟩⟩,Zr,Zq,ZD,Zx,ZM,Zz,Zv,Zt,Zn,Zw,Zm,Zu,⟨Zp,Zo,Zl⟩,ZC,ZE⟩) l.lt)):=by
  obtain ⟨ZK,⟨ZH,ZY⟩,Yd,l_id,⟨ZS,ZR,ZG⟩,ZX,⟨ZA,ZL⟩,⟨ZQ,ZP,ZB⟩⟩:=l
  simp only at hLp hk
  have XM:SlK M (oneI .i64) 1 ⟨ZS,ZR,ZG⟩:=hl0.h0
  have YY:SlK M Zs.segs 21 ⟨ZQ,ZP,ZB⟩:=hl0.h1
  have Wq:=YY.h1
  simp only at Wq
  have VS:(ZB.map Zs.segs).length=ZB.length:=List.length_map ..
  have VT:ZB.length≤ZP:=YY.h3
  refine YR (fun H=>(bw,rowO (ZN.segs ⟨⟨⟨⟨Za,Zd⟩,⟨Zc,Zg⟩,⟨Zk,Zj,Zh⟩,⟨Zf,Ze,Zb⟩⟩,Zr,Zq,ZD,Zx,ZM,Zz,Zv,Zt,Zn,Zw,Zm,Zu,⟨Zp,Zo,Zl⟩,ZC,ZE⟩,⟨none,0,[]⟩⟩) 166)::H) (fun _=>by simp only [List.append_assoc,List.cons_append,List.nil_append]) Tryz.func120 rfl Tryz.ntmps120 rfl ?_;intro H
  iterate 2 refine Stp ?_
  refine Xq ?_;intro b1
  iterate 2 refine Stp ?_
  refine Yg (l:=[0,1,2,3,4,5,6,7,8,9,10,11,12]) #[0,0,2,6,14,30,0,64,254,511,1023,2047,4095] _ rfl jI jI St.drawn (fun _ h=>h) ?_
  iterate 3 refine Stp ?_
  refine Zi F.foff166_0 ?_;refine Zi F.foff44_0 ?_;refine Zy F.lay41 ?_;refine Zi F.foff128_1 ?_;refine Zy F.lay38 ?_;refine X_fn rfl rfl F.ok176 rfl (Learn_ok _ ⟨⟨Za,Zd⟩,⟨Zc,Zg⟩,⟨Zk,Zj,Zh⟩,⟨Zf,Ze,Zb⟩⟩ ⟨ZH,ZY⟩ Yj) rfl ?_
  rintro _ M1 hm1 ⟨⟨⟨wa,wi⟩,⟨wq,wj⟩,⟨w1a,w1c,w1l⟩,⟨w2a,w2c,w2l⟩⟩,rfl,hol,okl⟩
  refine YT ?_;refine Zi F.foff166_0 ?_;refine Zi F.foff44_0 ?_;refine Ya F.lay41 ?_;refine Xb ?_
  refine ZV (.inl rfl) (.nil) (fun w hw=>?_)
  have h3:Wu (ZJ.nd ⟨⟨⟨Za,Zd⟩,⟨Zc,Zg⟩,⟨Zk,Zj,Zh⟩,⟨Zf,Ze,Zb⟩⟩,Zr,Zq,ZD,Zx,ZM,Zz,Zv,Zt,Zn,Zw,Zm,Zu,⟨Zp,Zo,Zl⟩,ZC,ZE⟩) (ZF.lt ⟨ZK,⟨ZH,ZY⟩,Yd,l_id,⟨ZS,ZR,ZG⟩,ZX,⟨ZA,ZL⟩,⟨ZQ,ZP,ZB⟩⟩)=(ZJ.nd ⟨⟨⟨wa,wi⟩,⟨wq,wj⟩,⟨w1a,w1c,w1l⟩,⟨w2a,w2c,w2l⟩⟩,Zr,Zq,ZD,Zx,ZM,Zz,Zv,Zt,Zn,Zw,Zm,Zu,⟨Zp,Zo,Zl⟩,ZC,ZE⟩,[]):=does5 hk hol
  refine ⟨_,M1,[(bw,rowO (ZN.segs ⟨⟨⟨⟨wa,wi⟩,⟨wq,wj⟩,⟨w1a,w1c,w1l⟩,⟨w2a,w2c,w2l⟩⟩,Zr,Zq,ZD,Zx,ZM,Zz,Zv,Zt,Zn,Zw,Zm,Zu,⟨Zp,Zo,Zl⟩,ZC,ZE⟩,⟨none,0,[]⟩⟩) 166)],rfl,hm1,hw.c,rfl,⟨⟨⟨wa,wi⟩,⟨wq,wj⟩,⟨w1a,w1c,w1l⟩,⟨w2a,w2c,w2l⟩⟩,Zr,Zq,ZD,Zx,ZM,Zz,Zv,Zt,Zn,Zw,Zm,Zu,⟨Zp,Zo,Zl⟩,ZC,ZE⟩,⟨none,0,[]⟩,rfl,?_,?_,⟨okl,Yu.mono hm1⟩,SlK.nil,fun y hy=>by cases hy⟩
  ·rw [h3] <;> rfl
  ·rw [h3] <;> rfl
theorem ping_ok (M:Mem) (bw:Nat) (Za:Int) (Zd:Plc) (Zc:Int) (Zg:Plc) (Zk Zf Zp:Option Addr) (Zj Ze Zo:Nat) (Zh Zb:List Zs) (Zl:List Int) (Zr:Int) (Zq:Bool) (ZD Zx ZM Zz Zv Zt Zn Zw Zm:Int) (Zu:Plc) (ZC ZE:Int) (Yj:ZO.ok M ⟨⟨Za,Zd⟩,⟨Zc,Zg⟩,⟨Zk,Zj,Zh⟩,⟨Zf,Ze,Zb⟩⟩) (Yu:SlK M (oneI .i64) 1 ⟨Zp,Zo,Zl⟩) (hbig:Zh.length≤40∧Zb.length≤200) (hLa:Zl.length≤1000) (hh:0≤ZC∧ZC≤1000) (l:ZF) (hl0:ZF.ok M l) (hLp:l.peers.l.length≤1000) (hk:l.kind=6):Fh Tryz.prog 121 [.pointer (some ⟨bw,0,none⟩),l.enc] M [(bw,rowO (ZN.segs ⟨⟨⟨⟨Za,Zd⟩,⟨Zc,Zg⟩,⟨Zk,Zj,Zh⟩,⟨Zf,Ze,Zb⟩⟩,Zr,Zq,ZD,Zx,ZM,Zz,Zv,Zt,Zn,Zw,Zm,Zu,⟨Zp,Zo,Zl⟩,ZC,ZE⟩,⟨none,0,[]⟩⟩) 166)] (fun M' v Hout=>v=.tuple #[]∧WkF bw 166 M' Hout (Wu (ZJ.nd ⟨⟨⟨Za,Zd⟩,⟨Zc,Zg⟩,⟨Zk,Zj,Zh⟩,⟨Zf,Ze,Zb⟩⟩,Zr,Zq,ZD,Zx,ZM,Zz,Zv,Zt,Zn,Zw,Zm,Zu,⟨Zp,Zo,Zl⟩,ZC,ZE⟩) l.lt)):=by
  obtain ⟨ZK,⟨ZH,ZY⟩,Yd,l_id,⟨ZS,ZR,ZG⟩,ZX,⟨ZA,ZL⟩,⟨ZQ,ZP,ZB⟩⟩:=l
  simp only at hLp hk
  have XM:SlK M (oneI .i64) 1 ⟨ZS,ZR,ZG⟩:=hl0.h0
  have YY:SlK M Zs.segs 21 ⟨ZQ,ZP,ZB⟩:=hl0.h1
  have Wq:=YY.h1
  simp only at Wq
  have VS:(ZB.map Zs.segs).length=ZB.length:=List.length_map ..
  have VT:ZB.length≤ZP:=YY.h3
  refine YR (fun H=>(bw,rowO (ZN.segs ⟨⟨⟨⟨Za,Zd⟩,⟨Zc,Zg⟩,⟨Zk,Zj,Zh⟩,⟨Zf,Ze,Zb⟩⟩,Zr,Zq,ZD,Zx,ZM,Zz,Zv,Zt,Zn,Zw,Zm,Zu,⟨Zp,Zo,Zl⟩,ZC,ZE⟩,⟨none,0,[]⟩⟩) 166)::H) (fun _=>by simp only [List.append_assoc,List.cons_append,List.nil_append]) Tryz.func121 rfl Tryz.ntmps121 rfl ?_;intro H
  iterate 2 refine Stp ?_
  refine Xq ?_;intro b1
  iterate 2 refine Stp ?_
  refine C_region_anyW (l:=[0,1,2,3,4,5,6,7,8]) [8] #[0,0,2,6,0,16,0,112,255] (_) rfl jI jI St.drawn (fun _ h=>h) ?_;refine Yk ?_;refine Zi F.foff128_1 ?_;refine Zi F.foff38_0 ?_;refine Zy F.lay3 ?_;refine Zi F.foff128_2 ?_;refine Zy F.lay42 ?_;refine X_fs rfl rfl F.ok78 rfl (Vp _) rfl ?_
  rintro _ rfl
  refine XI 10 rfl (show _=aggV [.one (.int .i64 (-1)),Yb 0] from rfl) ?_;refine Xo rfl rfl F.bld128 (.cons rfl jG (.cons rfl jG (.cons rfl jG .nil))) rfl rfl ?_;refine XN rfl rfl rfl F.ok103 rfl (sendF_ok M bw Za Zd Zc Zg Zk Zf Zp Zj Ze Zo Zh Zb Zl Zr Zq ZD Zx ZM Zz Zv Zt Zn Zw Zm Zu ZC ZE ZH ⟨7,⟨0,0⟩,Yd,0,⟨none,0,[]⟩,false,⟨-1,0⟩,⟨none,0,[]⟩⟩) jA (ZT rfl) ?_
  rintro _ M2 hs2 hm2 ⟨rfl,⟨o9a,o9c,o9l⟩,rfl,k9o,hl9⟩
  simp only at hl9
  simp only [List.append_assoc,List.cons_append,List.nil_append]
  refine Xb (Xu ?_)
  refine ZV (.inl rfl) (.nil) (fun w hw=>?_)
  have h3:Wu (ZJ.nd ⟨⟨⟨Za,Zd⟩,⟨Zc,Zg⟩,⟨Zk,Zj,Zh⟩,⟨Zf,Ze,Zb⟩⟩,Zr,Zq,ZD,Zx,ZM,Zz,Zv,Zt,Zn,Zw,Zm,Zu,⟨Zp,Zo,Zl⟩,ZC,ZE⟩) (ZF.lt ⟨ZK,⟨ZH,ZY⟩,Yd,l_id,⟨ZS,ZR,ZG⟩,ZX,⟨ZA,ZL⟩,⟨ZQ,ZP,ZB⟩⟩)=(ZJ.nd ⟨⟨⟨Za,Zd⟩,⟨Zc,Zg⟩,⟨Zk,Zj,Zh⟩,⟨Zf,Ze,Zb⟩⟩,Zr,Zq,ZD,Zx,ZM,Zz,Zv,Zt,Zn,Zw,Zm,Zu,⟨Zp,Zo,Zl⟩,ZC,ZE⟩,[Ym.snd (⟨ZH,(⟨7,⟨Za,Zd⟩,Yd,0,⟨none,0,[]⟩,false,⟨-1,0⟩,⟨none,0,[]⟩⟩:ZF)⟩:Ym)]):=does6 hk
  refine ⟨_,M2,[(bw,rowO (ZN.segs ⟨⟨⟨⟨Za,Zd⟩,⟨Zc,Zg⟩,⟨Zk,Zj,Zh⟩,⟨Zf,Ze,Zb⟩⟩,Zr,Zq,ZD,Zx,ZM,Zz,Zv,Zt,Zn,Zw,Zm,Zu,⟨Zp,Zo,Zl⟩,ZC,ZE⟩,⟨o9a,o9c,o9l⟩⟩) 166)],rfl,hm2,hw.c,rfl,⟨⟨⟨Za,Zd⟩,⟨Zc,Zg⟩,⟨Zk,Zj,Zh⟩,⟨Zf,Ze,Zb⟩⟩,Zr,Zq,ZD,Zx,ZM,Zz,Zv,Zt,Zn,Zw,Zm,Zu,⟨Zp,Zo,Zl⟩,ZC,ZE⟩,⟨o9a,o9c,o9l⟩,rfl,?_,?_,⟨Yj.mono hm2,Yu.mono hm2⟩,k9o,fun y hy=>?_⟩
  ·rw [h3] <;> rfl
  ·rw [h3]
   show sndl o9l=_
   rw [hl9];rfl
  ·simp only at hy
   rw [hl9] at hy
   obtain rfl:=List.mem_singleton.1 hy
   exact ⟨⟨SlK.nil,SlK.nil⟩⟩
theorem pong_ok (M:Mem) (bw:Nat) (Za:Int) (Zd:Plc) (Zc:Int) (Zg:Plc) (Zk Zf Zp:Option Addr) (Zj Ze Zo:Nat) (Zh Zb:List Zs) (Zl:List Int) (Zr:Int) (Zq:Bool) (ZD Zx ZM Zz Zv Zt Zn Zw Zm:Int) (Zu:Plc) (ZC ZE:Int) (Yj:ZO.ok M ⟨⟨Za,Zd⟩,⟨Zc,Zg⟩,⟨Zk,Zj,Zh⟩,⟨Zf,Ze,Zb⟩⟩) (Yu:SlK M (oneI .i64) 1 ⟨Zp,Zo,Zl⟩) (hbig:Zh.length≤40∧Zb.length≤200) (hLa:Zl.length≤1000) (hh:0≤ZC∧ZC≤1000) (l:ZF) (hl0:ZF.ok M l) (hLp:l.peers.l.length≤1000) (hk:l.kind=7):Fh Tryz.prog 122 [.pointer (some ⟨bw,0,none⟩),l.enc] M [(bw,rowO (ZN.segs ⟨⟨⟨⟨Za,Zd⟩,⟨Zc,Zg⟩,⟨Zk,Zj,Zh⟩,⟨Zf,Ze,Zb⟩⟩,Zr,Zq,ZD,Zx,ZM,Zz,Zv,Zt,Zn,Zw,Zm,Zu,⟨Zp,Zo,Zl⟩,ZC,ZE⟩,⟨none,0,[]⟩⟩) 166)] (fun M' v Hout=>v=.tuple #[]∧WkF bw 166 M' Hout (Wu (ZJ.nd ⟨⟨⟨Za,Zd⟩,⟨Zc,Zg⟩,⟨Zk,Zj,Zh⟩,⟨Zf,Ze,Zb⟩⟩,Zr,Zq,ZD,Zx,ZM,Zz,Zv,Zt,Zn,Zw,Zm,Zu,⟨Zp,Zo,Zl⟩,ZC,ZE⟩) l.lt)):=by
  obtain ⟨ZK,⟨ZH,ZY⟩,Yd,l_id,⟨ZS,ZR,ZG⟩,ZX,⟨ZA,ZL⟩,⟨ZQ,ZP,ZB⟩⟩:=l
  simp only at hLp hk
  have XM:SlK M (oneI .i64) 1 ⟨ZS,ZR,ZG⟩:=hl0.h0
  have YY:SlK M Zs.segs 21 ⟨ZQ,ZP,ZB⟩:=hl0.h1
  have Wq:=YY.h1
  simp only at Wq
  have VS:(ZB.map Zs.segs).length=ZB.length:=List.length_map ..
  have VT:ZB.length≤ZP:=YY.h3
  refine YR (fun H=>(bw,rowO (ZN.segs ⟨⟨⟨⟨Za,Zd⟩,⟨Zc,Zg⟩,⟨Zk,Zj,Zh⟩,⟨Zf,Ze,Zb⟩⟩,Zr,Zq,ZD,Zx,ZM,Zz,Zv,Zt,Zn,Zw,Zm,Zu,⟨Zp,Zo,Zl⟩,ZC,ZE⟩,⟨none,0,[]⟩⟩) 166)::H) (fun _=>by simp only [List.append_assoc,List.cons_append,List.nil_append]) Tryz.func122 rfl Tryz.ntmps122 rfl ?_;intro H
  iterate 2 refine Stp ?_
  refine Xq ?_;intro b1
  iterate 3 refine Stp ?_
  refine Yg (l:=[0,1,2,3,4,5,6,7,8,9,10,11,12,13,14,15,16,17,18]) #[0,1,3,7,15,0,32,96,255,511,1023,2047,4095,8191,16383,1023,33791,131071,262143] _ rfl jI jI St.drawn (fun _ h=>h) ?_
  iterate 2 refine Stp ?_
  refine Zi F.foff166_0 ?_;refine Zi F.foff44_8 ?_;refine Zy F.lay3 ?_;refine Zi F.foff128_1 ?_;refine Zi F.foff38_0 ?_;refine Zy F.lay3 ?_
  iterate 2 refine Stp ?_
  refine Yt 13 rfl (cT fun hc2=>?_) (cF fun hc2=>?_)
  ·iterate 2 refine Stp ?_
   refine Zi F.foff166_0 ?_;refine Zi F.foff44_9 ?_;refine Zy F.lay42 ?_;refine Zi F.foff128_2 ?_;refine Zy F.lay42 ?_
   iterate 4 refine Stp ?_
   refine ZW rfl (cT fun hc3=>?_) (cF fun hc3=>?_)
   ·iterate 3 refine Stp ?_
    refine Zi F.foff166_0 ?_;refine Zi F.foff44_8 ?_;refine Ya F.lay3 ?_;refine Xb ?_
    refine ZV (.inl rfl) (.nil) (fun w hw=>?_)
    have h3:Wu (ZJ.nd ⟨⟨⟨Za,Zd⟩,⟨Zc,Zg⟩,⟨Zk,Zj,Zh⟩,⟨Zf,Ze,Zb⟩⟩,Zr,Zq,ZD,Zx,ZM,Zz,Zv,Zt,Zn,Zw,Zm,Zu,⟨Zp,Zo,Zl⟩,ZC,ZE⟩) (ZF.lt ⟨ZK,⟨ZH,ZY⟩,Yd,l_id,⟨ZS,ZR,ZG⟩,ZX,⟨ZA,ZL⟩,⟨ZQ,ZP,ZB⟩⟩)=(ZJ.nd ⟨⟨⟨Za,Zd⟩,⟨Zc,Zg⟩,⟨Zk,Zj,Zh⟩,⟨Zf,Ze,Zb⟩⟩,Zr,Zq,ZD,Zx,ZM,Zz,Zv,(-1),Zn,Zw,Zm,Zu,⟨Zp,Zo,Zl⟩,ZC,ZE⟩,[]):=does7y hk (show Zt=ZH∧Zn=Yd by constructor <;> first|assumption|omega)
    refine ⟨_,M,[(bw,rowO (ZN.segs ⟨⟨⟨⟨Za,Zd⟩,⟨Zc,Zg⟩,⟨Zk,Zj,Zh⟩,⟨Zf,Ze,Zb⟩⟩,Zr,Zq,ZD,Zx,ZM,Zz,Zv,(-1),Zn,Zw,Zm,Zu,⟨Zp,Zo,Zl⟩,ZC,ZE⟩,⟨none,0,[]⟩⟩) 166)],rfl,Mem.le.refl M,hw.c,rfl,⟨⟨⟨Za,Zd⟩,⟨Zc,Zg⟩,⟨Zk,Zj,Zh⟩,⟨Zf,Ze,Zb⟩⟩,Zr,Zq,ZD,Zx,ZM,Zz,Zv,(-1),Zn,Zw,Zm,Zu,⟨Zp,Zo,Zl⟩,ZC,ZE⟩,⟨none,0,[]⟩,rfl,?_,?_,⟨Yj,Yu⟩,SlK.nil,fun y hy=>by cases hy⟩
    ·rw [h3] <;> rfl
    ·rw [h3] <;> rfl
   ·refine Vy ?_
    refine ZV (.inl rfl) (.nil) (fun w hw=>?_)
    have h3:Wu (ZJ.nd ⟨⟨⟨Za,Zd⟩,⟨Zc,Zg⟩,⟨Zk,Zj,Zh⟩,⟨Zf,Ze,Zb⟩⟩,Zr,Zq,ZD,Zx,ZM,Zz,Zv,Zt,Zn,Zw,Zm,Zu,⟨Zp,Zo,Zl⟩,ZC,ZE⟩) (ZF.lt ⟨ZK,⟨ZH,ZY⟩,Yd,l_id,⟨ZS,ZR,ZG⟩,ZX,⟨ZA,ZL⟩,⟨ZQ,ZP,ZB⟩⟩)=(ZJ.nd ⟨⟨⟨Za,Zd⟩,⟨Zc,Zg⟩,⟨Zk,Zj,Zh⟩,⟨Zf,Ze,Zb⟩⟩,Zr,Zq,ZD,Zx,ZM,Zz,Zv,Zt,Zn,Zw,Zm,Zu,⟨Zp,Zo,Zl⟩,ZC,ZE⟩,[]):=does7n hk (show ¬(Zt=ZH∧Zn=Yd) by rintro ⟨q1,q2⟩;first|contradiction|omega)
    refine ⟨_,M,[(bw,rowO (ZN.segs ⟨⟨⟨⟨Za,Zd⟩,⟨Zc,Zg⟩,⟨Zk,Zj,Zh⟩,⟨Zf,Ze,Zb⟩⟩,Zr,Zq,ZD,Zx,ZM,Zz,Zv,Zt,Zn,Zw,Zm,Zu,⟨Zp,Zo,Zl⟩,ZC,ZE⟩,⟨none,0,[]⟩⟩) 166)],rfl,Mem.le.refl M,hw.c,rfl,⟨⟨⟨Za,Zd⟩,⟨Zc,Zg⟩,⟨Zk,Zj,Zh⟩,⟨Zf,Ze,Zb⟩⟩,Zr,Zq,ZD,Zx,ZM,Zz,Zv,Zt,Zn,Zw,Zm,Zu,⟨Zp,Zo,Zl⟩,ZC,ZE⟩,⟨none,0,[]⟩,rfl,?_,?_,⟨Yj,Yu⟩,SlK.nil,fun y hy=>by cases hy⟩
    ·rw [h3] <;> rfl
    ·rw [h3] <;> rfl
  ·iterate 13 refine Stp ?_
   refine ZV (.inl rfl) (.nil) (fun w hw=>?_)
   have h3:Wu (ZJ.nd ⟨⟨⟨Za,Zd⟩,⟨Zc,Zg⟩,⟨Zk,Zj,Zh⟩,⟨Zf,Ze,Zb⟩⟩,Zr,Zq,ZD,Zx,ZM,Zz,Zv,Zt,Zn,Zw,Zm,Zu,⟨Zp,Zo,Zl⟩,ZC,ZE⟩) (ZF.lt ⟨ZK,⟨ZH,ZY⟩,Yd,l_id,⟨ZS,ZR,ZG⟩,ZX,⟨ZA,ZL⟩,⟨ZQ,ZP,ZB⟩⟩)=(ZJ.nd ⟨⟨⟨Za,Zd⟩,⟨Zc,Zg⟩,⟨Zk,Zj,Zh⟩,⟨Zf,Ze,Zb⟩⟩,Zr,Zq,ZD,Zx,ZM,Zz,Zv,Zt,Zn,Zw,Zm,Zu,⟨Zp,Zo,Zl⟩,ZC,ZE⟩,[]):=does7n hk (show ¬(Zt=ZH∧Zn=Yd) by rintro ⟨q1,q2⟩;first|contradiction|omega)
   refine ⟨_,M,[(bw,rowO (ZN.segs ⟨⟨⟨⟨Za,Zd⟩,⟨Zc,Zg⟩,⟨Zk,Zj,Zh⟩,⟨Zf,Ze,Zb⟩⟩,Zr,Zq,ZD,Zx,ZM,Zz,Zv,Zt,Zn,Zw,Zm,Zu,⟨Zp,Zo,Zl⟩,ZC,ZE⟩,⟨none,0,[]⟩⟩) 166)],rfl,Mem.le.refl M,hw.c,rfl,⟨⟨⟨Za,Zd⟩,⟨Zc,Zg⟩,⟨Zk,Zj,Zh⟩,⟨Zf,Ze,Zb⟩⟩,Zr,Zq,ZD,Zx,ZM,Zz,Zv,Zt,Zn,Zw,Zm,Zu,⟨Zp,Zo,Zl⟩,ZC,ZE⟩,⟨none,0,[]⟩,rfl,?_,?_,⟨Yj,Yu⟩,SlK.nil,fun y hy=>by cases hy⟩
   ·rw [h3] <;> rfl
   ·rw [h3] <;> rfl
end Go.Proofs.YtglnjnacodgmaaaGreatDoor
