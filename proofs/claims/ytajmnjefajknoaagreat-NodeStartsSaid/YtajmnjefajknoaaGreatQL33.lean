/-
  Texts of this claim, one behind the other: T19, SmallN, T20, TableL, NodeM, Frz, NodeT, Rules8, Rules10, Rules11, Rules12, Core2, Rules13, Rules14, NodeY, Rules9, N1, N2, N3, N4, NodeH, N5, N6, N7, N8, N9, N10, N11, NodeF, N12, N13, N14, N15, N16.
-/
import Derived.Test.YtajmnjefajknoaaGreatQL32
import Derived.Scope
import Derived.Lib.AppendZeros
import Derived.Lib.AppendZerosOnto
import Derived.Lib.Overlaps
import Derived.Laws.BytesArg
set_option linter.unusedSimpArgs false
set_option linter.unusedVariables false
set_option linter.unnecessarySimpa false
set_option maxRecDepth 8000
set_option maxHeartbeats 1000000
namespace Go.Proofs.YtajmnjefajknoaaGreat
open Go.Esp
theorem F.elem30:slOf Tryz.prog 30=some (3,1,8):=by kernel_rfl
theorem F.ok103:okFn Tryz.prog 103=true:=by kernel_rfl
theorem F.ok136:okFn Tryz.prog 136=true:=by kernel_rfl
theorem F.ok90:okFn Tryz.prog 90=true:=by kernel_rfl
theorem IndexI_rd (M:Mem) (Hin:Hp) (l:Sl Int) (x:Int) (hl:RdS M Hin l.a (l.l.map (oneI .i64)) 1) (bl:l.l.length≤9223372036854775807):Fo Tryz.prog 136 [l.val,.int .i64 x] M Hin (fun M' v=>M'=M∧v=.int .i64 (idxI x l.l)):=by
  have nl:(l.l.map (oneI .i64)).length=l.l.length:=List.length_map ..
  refine WT Tryz.func136 rfl Tryz.ntmps136 rfl ?_;intro H
  have hrd:=hl.app H
  refine ZI (Zm (l:=[0]) rfl ?_);refine ZB ?_;refine Zo (Zn ?_)
  iterate 2 refine ZI ?_
  refine Zm (l:=[0,1,2]) rfl ?_;refine Zv ?_;refine YX F.elem30 ?_;refine Zv ?_;refine Zo (Zn (Y_pk [8,7,4,0,1] ?_));refine Xd (Y_pk [8,7,4,0,1] ?_);refine WH (.succ .zero) (fun (k:Nat) z=>z=[(8,.int .i64 (k:Int))]∧k≤l.l.length∧(x∉l.l.take k)) (fun k=>l.l.length-k) (0) (⟨rfl,by omega,by simp⟩) ?_
  rintro k _ ⟨rfl,hk,hI⟩
  refine ZI (Zm (l:=[0]) rfl ?_);refine Yz ?_;refine Zo (Zn (ZI ?_))
  refine Yx rfl (fun hc1=>?_) (fun hc1=>?_)
  ·replace hc1:=dT hc1
   refine Yv (Zn (ZI (Xd (ZI (Zm (l:=[0,1]) rfl ?_)))));refine Zv ?_;refine ZB ?_;refine Zo (Zn (ZI (Zm (l:=[0,1,2,3,4,5]) rfl ?_)))
   iterate 3 refine Zv ?_
   refine YR rfl rfl rfl rfl F.elem30 (by rfl) (by omega) (by exact RdS.plain (by assumption) (by (simp;omega))) rfl ?_;refine X_load_rd rfl rfl rfl (by assumption) (by exact XW (by omega)) F.lay3 rfl rfl rfl ?_;refine Yz ?_;refine Zo (Zn ?_)
   refine Yx rfl (fun hc2=>?_) (fun hc2=>?_)
   ·replace hc2:=dT hc2
    refine ZI (Zm (l:=[0,1]) rfl ?_);refine Zv ?_;refine ZB ?_;refine Zo (Zn (Yg (Xi ?_)))
    iterate 2 refine YG ?_
    refine Xi (YG ?_)
    refine Ya (.inr rfl) (.tmp rfl .nil) (fun w hw=>?_)
    refine ⟨_,M,rfl,Mem.le.refl M,hw.c,rfl,?_⟩
    refine congrArg (Value.int .i64) ?_
    exact (idxI_at (by omega) hI (by assumption)).symm
   ·replace hc2:=dF hc2
    refine Yv (XV (Zn (Zm (l:=[0,1]) rfl ?_)));refine XN rfl rfl rfl rfl rfl (by exact Xn (by decide) (by omega)) rfl ?_;refine Zv ?_;refine Zo ?_;refine WC (a':=[(8,_)]) (k+1) (.cons (k:=8) rfl (.cons (k:=7) rfl (.cons (k:=4) rfl (.cons (k:=0) rfl (.cons (k:=1) rfl (.nil)))))) (fun w hw=>by first|exact hw|exact hw.c) ?_ ?_
    ·refine ⟨rfl,by omega,?_⟩
     exact not_take_succ (by omega) hI (by assumption)
    ·omega
  ·replace hc1:=dF hc1
   refine XS ?_
   iterate 2 refine XM ?_
   refine Wl (Zn (Y_pk [4] ?_));refine ZI (Zm (l:=[0]) rfl ?_);refine ZB ?_;refine Zo (Zn (Yg ?_))
   refine Ya (.inr rfl) (.tmp rfl .nil) (fun w hw=>?_)
   refine ⟨_,M,rfl,Mem.le.refl M,hw.c,rfl,?_⟩
   refine congrArg (Value.int .i64) ?_
   (have hk9:k=l.l.length:=(by omega);subst hk9;rw [List.take_length] at hI;exact (idxI_none hI).symm)
theorem ContainsI_rd (M:Mem) (Hin:Hp) (l:Sl Int) (x:Int) (hl:RdS M Hin l.a (l.l.map (oneI .i64)) 1) (bl:l.l.length≤9223372036854775807):Fo Tryz.prog 103 [l.val,.int .i64 x] M Hin (fun M' v=>M'=M∧v=.bool (decide (x∈l.l))):=by
  refine WT Tryz.func103 rfl Tryz.ntmps103 rfl ?_;intro H
  refine ZI (Zm (l:=[0]) rfl ?_);refine ZB ?_;refine Zo (Zn (ZI (Zm (l:=[0,1,2,3,4]) rfl ?_)))
  iterate 2 refine Zv ?_
  refine X_fo rfl rfl F.ok136 rfl (IndexI_rd _ Hin ⟨_,_,_⟩ _ hl bl) (by repeat first|exact Rem.here _|exact Rem.two|apply Rem.skip|apply Rem.over) (YA rfl) ?_
  rintro _ M1 _ ⟨hM1,rfl⟩;subst M1
  refine Yz ?_;refine ZB ?_;refine Zo (Zn (Y_pk [4] ?_));refine Yg ?_
  refine Ya (.inr rfl) (.tmp rfl .nil) (fun w hw=>?_)
  exact ⟨_,M,rfl,Mem.le.refl M,hw.c,rfl,congrArg Value.bool (by simp [idxI_nn])⟩
theorem ContainsI_ok (M:Mem) (l:Sl Int) (x:Int) (hl:SlM M l.a (l.l.map (oneI .i64)) 1) (bl:l.l.length≤maxLen):Fs Tryz.prog 103 [l.val,.int .i64 x] M (fun v=>v=.bool (decide (x∈l.l))) :=
  fs_of_fo (ContainsI_rd M [] l x (hl.rd []) bl)
theorem Nearest_ok (M:Mem) (t:ZL) (id:Plc) (avoid:(Sl Int)) (ht0:ZL.ok M t) (havoid1:SlK M (oneI .i64) 1 avoid) (hbig:t.succ.l.length≤40∧t.fingers.l.length≤200):Esp.Fn Tryz.prog 88 [t.enc,aggV [Yq id],Sl.val avoid] M (fun M' v=>v=ofPB (WB t.tb id avoid.l)):=by
  obtain ⟨⟨ZZ,Yp⟩,⟨Yr,YE⟩,⟨Yu,Yt,ZW⟩,⟨Yc,Yb,ZJ⟩⟩:=t
  obtain ⟨avoid_a,avoid_c,avoid_l⟩:=avoid
  have YS:SlK M ZD.segs 21 ⟨Yu,Yt,ZW⟩:=ht0.h0
  have WQ:SlM M Yu (ZW.map ZD.segs) 21:=YS.h1
  have WR:(ZW.map ZD.segs).length=ZW.length:=List.length_map ..
  have WS:ZW.length≤9223372036854775807:=YS.h2
  have WU:ZW.length≤Yt:=YS.h3
  have Yw:SlK M ZD.segs 21 ⟨Yc,Yb,ZJ⟩:=ht0.h1
  have Wb:SlM M Yc (ZJ.map ZD.segs) 21:=Yw.h1
  have Wi:(ZJ.map ZD.segs).length=ZJ.length:=List.length_map ..
  have Wc:ZJ.length≤9223372036854775807:=Yw.h2
  have Wj:ZJ.length≤Yb:=Yw.h3
  have k_avoid:SlK M (oneI .i64) 1 ⟨avoid_a,avoid_c,avoid_l⟩:=havoid1
  have s_avoid:SlM M avoid_a (avoid_l.map (oneI .i64)) 1:=k_avoid.h1
  have n_avoid:(avoid_l.map (oneI .i64)).length=avoid_l.length:=List.length_map ..
  have m_avoid:avoid_l.length≤9223372036854775807:=k_avoid.h2
  have c_avoid:avoid_l.length≤avoid_c:=k_avoid.h3
  simp only at hbig
  refine Wu Tryz.func88 rfl Tryz.ntmps88 rfl ?_;intro H
  refine ZI (Zm (l:=[0,1,2,3]) rfl ?_)
  refine Xk ?_;intro b1
  refine Xk ?_;intro b2
  refine YT F.zero25 ?_;intro b3
  refine ZB ?_;refine Zo (Zn (Y_pk [7,6,4,3,2] ?_));refine ZI (Zm (l:=[0,1,2,3]) rfl ?_);refine X_fs rfl rfl F.ok66 rfl (WO _) rfl ?_
  rintro _ rfl
  refine WV 12 rfl (show _=aggV [.one (.int .i64 (-1)),Yq 0] from rfl) ?_
  refine YT F.zero25 ?_;intro b4
  refine Yi F.lay25 ?_;refine ZB ?_;refine Zo (Zn (Y_pk [9,8,7,6,4,3,2] ?_))
  iterate 2 refine ZI ?_
  refine Zm (l:=[0,1,2,3]) rfl ?_;refine ZH F.lay28 ?_;refine X_fn rfl rfl F.ok90 rfl (Known_ok M ⟨⟨ZZ,Yp⟩,⟨Yr,YE⟩,⟨Yu,Yt,ZW⟩,⟨Yc,Yb,ZJ⟩⟩ ht0 hbig) rfl ?_
  rintro _ M1 hm1 ⟨⟨ps_a,ps_c,ps_l⟩,rfl,hps,k_ps⟩
  have s_ps:=k_ps.h1
  have n_ps:(ps_l.map ZD.segs).length=ps_l.length:=List.length_map ..
  have m_ps:ps_l.length≤9223372036854775807:=k_ps.h2
  simp only at hps s_ps
  refine YX F.elem26 ?_;refine Zv ?_;refine Zo (Zn (Y_pk [16,15,14,9,8,7,6,4,3,2] ?_));refine Xd (Y_pk [16,9,15,14,8,7,6,4,3,2] ?_);refine VH (Hin:=[(b4,rowO [.one (.int .i64 (-1)),Yq 0] 25)]) (.succ (.succ .zero)) (by repeat first|exact Rem.here _|exact Rem.two|apply Rem.skip|apply Rem.over) (fun (k:Nat) M9 h1 z=>∃ r:ZD×Bool,M9=M1∧z=[(16,.int .i64 (k:Int)),(9,.bool r.2)]∧k≤ps_l.length∧h1=[(b4,rowO [.one (.int .i64 r.1.addr),Yq r.1.id] 25)]∧(ps_l.take (k)).foldl (nearStep ⟨ZZ,Yp⟩ id avoid_l) (YW,false)=r) (fun k=>ps_l.length-k) (0) (⟨(YW,false),rfl,rfl,by omega,rfl,rfl⟩) ?_
  rintro k M2 h1 z hm2 ⟨⟨⟨ra,ri⟩,rb⟩,hM2,rfl,hk,rfl,hI⟩
  subst hM2
  rcases rb with _|_
  ·skip
   refine ZI (Zm (l:=[0]) rfl ?_);refine Yz ?_;refine Zo (Zn (ZI ?_))
   refine Yx rfl (fun hc5=>?_) (fun hc5=>?_)
   ·replace hc5:=dT hc5
    refine Yv (Zn (ZI (Xd (ZI ?_))))
    obtain ⟨⟨x_addr,x_id⟩,hx⟩:∃ x,ps_l[k]=x:=⟨_,rfl⟩
    refine Zm (l:=[0,1,2,3]) rfl ?_;refine YR rfl rfl rfl rfl F.elem26 (by rfl) (by omega) (by exact SlM.plain (by assumption) (by (simp;omega))) rfl ?_;refine Xo rfl rfl rfl s_ps (show (ps_l.map ZD.segs)[k]?=some (ZD.segs ⟨x_addr,x_id⟩) by rw [List.getElem?_map,List.getElem?_eq_getElem (by omega),hx];rfl) F.lay25 rfl rfl rfl ?_
    refine YT F.zero25 ?_;intro b6
    refine Yi F.lay25 ?_;refine Zo (Zn ?_)
    iterate 2 refine ZI ?_
    refine Zm (l:=[0,1,2,3,4,5,6,7,8,9,10,11,12,13]) rfl ?_;refine Zv ?_;refine Zk F.foff25_0 ?_;refine ZH F.lay3 ?_;refine X_fs rfl rfl F.ok103 rfl (ContainsI_ok _ ⟨_,_,_⟩ _ (by exact SlM.mono (by assumption) (by repeat first|assumption|refine Mem.le.trans (by assumption) ?_)) (by assumption)) rfl ?_
    rintro _ rfl
    refine Zv ?_
    refine Yh 24 rfl (fun hc7=>?_) (fun hc7=>?_)
    ·replace hc7:=dT hc7
     simp only [ZD.eta,ZL.eta,ZO.eta,ZM.eta,Yd.eta,ZQ.eta,YI.eta,ZX.eta] at hc7
     iterate 8 refine ZU ?_
     refine ZK ?_;refine Zo (Zn (Xe rfl ?_));refine XS (XM (Wl (Zn (Zm (l:=[0,1]) rfl ?_))));refine XN rfl rfl rfl rfl rfl (by exact Xn (by decide) (by omega)) rfl ?_;refine Zv ?_;refine Zo ?_;refine Wq (a':=[(16,_),(9,_)]) (k+1) ([(b4,rowO [.one (.int .i64 ra),Yq ri] 25)]) (.cons (k:=16) rfl (.cons (k:=9) rfl (.cons (k:=15) rfl (.cons (k:=14) rfl (.cons (k:=8) rfl (.cons (k:=7) rfl (.cons (k:=6) rfl (.cons (k:=4) rfl (.cons (k:=3) rfl (.cons (k:=2) rfl (.nil))))))))))) (by exact Mem.le.refl _) (fun w hw=>by first|exact hw|exact hw.c) ?_ ?_
     ·exact ⟨(⟨ra,ri⟩,false),rfl,rfl,by omega,rfl,by rw [foldl_take (by omega:k<ps_l.length),hI,hx];unfold nearStep;rw [if_pos (by exact .inl (by assumption))]⟩
     ·omega
    ·replace hc7:=dF hc7
     simp only [ZD.eta,ZL.eta,ZO.eta,ZM.eta,Yd.eta,ZQ.eta,YI.eta,ZX.eta] at hc7
     refine Zk F.foff28_0 ?_;refine Zk F.foff25_1 ?_;refine ZH F.lay23 ?_;refine Zk F.foff25_1 ?_
     iterate 2 refine ZH F.lay23 ?_
     refine X_fs rfl rfl F.ok114 rfl (Open_ok _ _ _ _) rfl ?_
     rintro _ rfl
     refine Xx ?_;refine ZK ?_;refine Zo (Zn ?_)
     refine Yx rfl (fun hc8=>?_) (fun hc8=>?_)
     ·replace hc8:=nT hc8
      refine XS (XM (Wl (Zn (Zm (l:=[0,1]) rfl ?_))));refine XN rfl rfl rfl rfl rfl (by exact Xn (by decide) (by omega)) rfl ?_;refine Zv ?_;refine Zo ?_;refine Wq (a':=[(16,_),(9,_)]) (k+1) ([(b4,rowO [.one (.int .i64 ra),Yq ri] 25)]) (.cons (k:=16) rfl (.cons (k:=9) rfl (.cons (k:=15) rfl (.cons (k:=14) rfl (.cons (k:=8) rfl (.cons (k:=7) rfl (.cons (k:=6) rfl (.cons (k:=4) rfl (.cons (k:=3) rfl (.cons (k:=2) rfl (.nil))))))))))) (by exact Mem.le.refl _) (fun w hw=>by first|exact hw|exact hw.c) ?_ ?_
      ·exact ⟨(⟨ra,ri⟩,false),rfl,rfl,by omega,rfl,by rw [foldl_take (by omega:k<ps_l.length),hI,hx];unfold nearStep;rw [if_pos (by exact .inr (by assumption))]⟩
      ·omega
     ·replace hc8:=nF hc8
      refine Yv (Zn (ZI (Zm (l:=[0,1,2,3,4,5,6,7,8,9]) rfl ?_)));refine Zv ?_;refine Xx ?_;refine Zv ?_
      iterate 6 refine ZU ?_
      refine ZK ?_;refine Zo (Zn (Xe rfl ?_));refine Zm (l:=[0,1,2]) rfl ?_;refine ZH F.lay25 ?_;refine Yi F.lay25 ?_;refine ZB ?_;refine Zo (XV (Zn (Zm (l:=[0,1]) rfl ?_)));refine XN rfl rfl rfl rfl rfl (by exact Xn (by decide) (by omega)) rfl ?_;refine Zv ?_;refine Zo ?_;refine Wq (a':=[(16,_),(9,_)]) (k+1) ([(b4,rowO [.one (.int .i64 x_addr),Yq x_id] 25)]) (.cons (k:=16) rfl (.cons (k:=9) rfl (.cons (k:=15) rfl (.cons (k:=14) rfl (.cons (k:=8) rfl (.cons (k:=7) rfl (.cons (k:=6) rfl (.cons (k:=4) rfl (.cons (k:=3) rfl (.cons (k:=2) rfl (.nil))))))))))) (by exact Mem.le.refl _) (fun w hw=>by first|exact hw|exact hw.c) ?_ ?_
      ·exact ⟨(⟨x_addr,x_id⟩,true),rfl,rfl,by omega,rfl,by rw [foldl_take (by omega:k<ps_l.length),hI,hx];unfold nearStep;rw [if_neg (by rintro (g1|g1);exact absurd g1 (by assumption);exact g1 (by assumption)),if_pos (.inl rfl)]⟩
      ·omega
   ·replace hc5:=dF hc5
    refine XS ?_
    iterate 2 refine XM ?_
    refine Wl (Zn (Y_pk [9,8,7,6] ?_));refine ZI (Zm (l:=[0,1,2,3]) rfl ?_);refine ZH F.lay25 ?_;refine Zv ?_;refine Yi F.lay25 ?_;refine ZB ?_;refine Zo (Zn (Y_pk [7,6] ?_));refine Yg ?_
    refine Ya (.inr rfl) (.cell rfl (by repeat first|exact List.Mem.head _|refine List.Mem.tail _ ?_|refine List.mem_append_right _ ?_) F.lay25 rfl rfl (.tmp rfl .nil)) (fun w hw=>?_)
    obtain rfl:k=ps_l.length:=by omega
    rw [List.take_length,hps] at hI
    refine ⟨_,M2,rfl,hm1,hw.c,?_⟩
    unfold WB
    rw [show (ZL.tb ⟨⟨ZZ,Yp⟩,⟨Yr,YE⟩,⟨Yu,Yt,ZW⟩,⟨Yc,Yb,ZJ⟩⟩).self=⟨ZZ,Yp⟩ from rfl,hI];rfl
  ·skip
   refine ZI (Zm (l:=[0]) rfl ?_);refine Yz ?_;refine Zo (Zn (ZI ?_))
   refine Yx rfl (fun hc9=>?_) (fun hc9=>?_)
   ·replace hc9:=dT hc9
    refine Yv (Zn (ZI (Xd (ZI ?_))))
    obtain ⟨⟨x_addr,x_id⟩,hx⟩:∃ x,ps_l[k]=x:=⟨_,rfl⟩
    refine Zm (l:=[0,1,2,3]) rfl ?_;refine YR rfl rfl rfl rfl F.elem26 (by rfl) (by omega) (by exact SlM.plain (by assumption) (by (simp;omega))) rfl ?_;refine Xo rfl rfl rfl s_ps (show (ps_l.map ZD.segs)[k]?=some (ZD.segs ⟨x_addr,x_id⟩) by rw [List.getElem?_map,List.getElem?_eq_getElem (by omega),hx];rfl) F.lay25 rfl rfl rfl ?_
    refine YT F.zero25 ?_;intro b10
    refine Yi F.lay25 ?_;refine Zo (Zn ?_)
    iterate 2 refine ZI ?_
    refine Zm (l:=[0,1,2,3,4,5,6,7,8,9,10,11,12,13]) rfl ?_;refine Zv ?_;refine Zk F.foff25_0 ?_;refine ZH F.lay3 ?_;refine X_fs rfl rfl F.ok103 rfl (ContainsI_ok _ ⟨_,_,_⟩ _ (by exact SlM.mono (by assumption) (by repeat first|assumption|refine Mem.le.trans (by assumption) ?_)) (by assumption)) rfl ?_
    rintro _ rfl
    refine Zv ?_
    refine Yh 24 rfl (fun hc11=>?_) (fun hc11=>?_)
    ·replace hc11:=dT hc11
     simp only [ZD.eta,ZL.eta,ZO.eta,ZM.eta,Yd.eta,ZQ.eta,YI.eta,ZX.eta] at hc11
     iterate 8 refine ZU ?_
     refine ZK ?_;refine Zo (Zn (Xe rfl ?_));refine XS (XM (Wl (Zn (Zm (l:=[0,1]) rfl ?_))));refine XN rfl rfl rfl rfl rfl (by exact Xn (by decide) (by omega)) rfl ?_;refine Zv ?_;refine Zo ?_;refine Wq (a':=[(16,_),(9,_)]) (k+1) ([(b4,rowO [.one (.int .i64 ra),Yq ri] 25)]) (.cons (k:=16) rfl (.cons (k:=9) rfl (.cons (k:=15) rfl (.cons (k:=14) rfl (.cons (k:=8) rfl (.cons (k:=7) rfl (.cons (k:=6) rfl (.cons (k:=4) rfl (.cons (k:=3) rfl (.cons (k:=2) rfl (.nil))))))))))) (by exact Mem.le.refl _) (fun w hw=>by first|exact hw|exact hw.c) ?_ ?_
     ·exact ⟨(⟨ra,ri⟩,true),rfl,rfl,by omega,rfl,by rw [foldl_take (by omega:k<ps_l.length),hI,hx];unfold nearStep;rw [if_pos (by exact .inl (by assumption))]⟩
     ·omega
    ·replace hc11:=dF hc11
     simp only [ZD.eta,ZL.eta,ZO.eta,ZM.eta,Yd.eta,ZQ.eta,YI.eta,ZX.eta] at hc11
     refine Zk F.foff28_0 ?_;refine Zk F.foff25_1 ?_;refine ZH F.lay23 ?_;refine Zk F.foff25_1 ?_
     iterate 2 refine ZH F.lay23 ?_
     refine X_fs rfl rfl F.ok114 rfl (Open_ok _ _ _ _) rfl ?_
     rintro _ rfl
     refine Xx ?_;refine ZK ?_;refine Zo (Zn ?_)
     refine Yx rfl (fun hc12=>?_) (fun hc12=>?_)
     ·replace hc12:=nT hc12
      refine XS (XM (Wl (Zn (Zm (l:=[0,1]) rfl ?_))));refine XN rfl rfl rfl rfl rfl (by exact Xn (by decide) (by omega)) rfl ?_;refine Zv ?_;refine Zo ?_;refine Wq (a':=[(16,_),(9,_)]) (k+1) ([(b4,rowO [.one (.int .i64 ra),Yq ri] 25)]) (.cons (k:=16) rfl (.cons (k:=9) rfl (.cons (k:=15) rfl (.cons (k:=14) rfl (.cons (k:=8) rfl (.cons (k:=7) rfl (.cons (k:=6) rfl (.cons (k:=4) rfl (.cons (k:=3) rfl (.cons (k:=2) rfl (.nil))))))))))) (by exact Mem.le.refl _) (fun w hw=>by first|exact hw|exact hw.c) ?_ ?_
      ·exact ⟨(⟨ra,ri⟩,true),rfl,rfl,by omega,rfl,by rw [foldl_take (by omega:k<ps_l.length),hI,hx];unfold nearStep;rw [if_pos (by exact .inr (by assumption))]⟩
      ·omega
     ·replace hc12:=nF hc12
      refine Yv (Zn (ZI (Zm (l:=[0,1,2,3,4,5,6,7,8,9]) rfl ?_)));refine Zv ?_;refine Xx ?_;refine Zv ?_;refine Zk F.foff25_1 ?_;refine ZH F.lay23 ?_;refine Zk F.foff25_1 ?_
      iterate 2 refine ZH F.lay23 ?_
      refine X_fs rfl rfl F.ok114 rfl (Open_ok _ _ _ _) rfl ?_
      rintro _ rfl
      refine ZK ?_;refine Zo (Zn ?_)
      refine Yx rfl (fun hc13=>?_) (fun hc13=>?_)
      ·replace hc13:=dT hc13
       simp only [ZD.eta,ZL.eta,ZO.eta,ZM.eta,Yd.eta,ZQ.eta,YI.eta,ZX.eta] at hc13
       refine Zm (l:=[0,1,2]) rfl ?_;refine ZH F.lay25 ?_;refine Yi F.lay25 ?_;refine ZB ?_;refine Zo (XV (Zn (Zm (l:=[0,1]) rfl ?_)));refine XN rfl rfl rfl rfl rfl (by exact Xn (by decide) (by omega)) rfl ?_;refine Zv ?_;refine Zo ?_;refine Wq (a':=[(16,_),(9,_)]) (k+1) ([(b4,rowO [.one (.int .i64 x_addr),Yq x_id] 25)]) (.cons (k:=16) rfl (.cons (k:=9) rfl (.cons (k:=15) rfl (.cons (k:=14) rfl (.cons (k:=8) rfl (.cons (k:=7) rfl (.cons (k:=6) rfl (.cons (k:=4) rfl (.cons (k:=3) rfl (.cons (k:=2) rfl (.nil))))))))))) (by exact Mem.le.refl _) (fun w hw=>by first|exact hw|exact hw.c) ?_ ?_
       ·exact ⟨(⟨x_addr,x_id⟩,true),rfl,rfl,by omega,rfl,by rw [foldl_take (by omega:k<ps_l.length),hI,hx];unfold nearStep;rw [if_neg (by rintro (g1|g1);exact absurd g1 (by assumption);exact g1 (by assumption)),if_pos (.inr (by assumption))]⟩
       ·omega
      ·replace hc13:=dF hc13
       simp only [ZD.eta,ZL.eta,ZO.eta,ZM.eta,Yd.eta,ZQ.eta,YI.eta,ZX.eta] at hc13
       refine Yv (XV (Zn (Zm (l:=[0,1]) rfl ?_)));refine XN rfl rfl rfl rfl rfl (by exact Xn (by decide) (by omega)) rfl ?_;refine Zv ?_;refine Zo ?_;refine Wq (a':=[(16,_),(9,_)]) (k+1) ([(b4,rowO [.one (.int .i64 ra),Yq ri] 25)]) (.cons (k:=16) rfl (.cons (k:=9) rfl (.cons (k:=15) rfl (.cons (k:=14) rfl (.cons (k:=8) rfl (.cons (k:=7) rfl (.cons (k:=6) rfl (.cons (k:=4) rfl (.cons (k:=3) rfl (.cons (k:=2) rfl (.nil))))))))))) (by exact Mem.le.refl _) (fun w hw=>by first|exact hw|exact hw.c) ?_ ?_
       ·exact ⟨(⟨ra,ri⟩,true),rfl,rfl,by omega,rfl,by rw [foldl_take (by omega:k<ps_l.length),hI,hx];unfold nearStep;rw [if_neg (by rintro (g1|g1);exact absurd g1 (by assumption);exact g1 (by assumption)),if_neg (by rintro (g1|g1);cases g1;exact absurd g1 (by assumption))]⟩
       ·omega
   ·replace hc9:=dF hc9
    refine XS ?_
    iterate 2 refine XM ?_
    refine Wl (Zn (Y_pk [9,8,7,6] ?_));refine ZI (Zm (l:=[0,1,2,3]) rfl ?_);refine ZH F.lay25 ?_;refine Zv ?_;refine Yi F.lay25 ?_;refine ZB ?_;refine Zo (Zn (Y_pk [7,6] ?_));refine Yg ?_
    refine Ya (.inr rfl) (.cell rfl (by repeat first|exact List.Mem.head _|refine List.Mem.tail _ ?_|refine List.mem_append_right _ ?_) F.lay25 rfl rfl (.tmp rfl .nil)) (fun w hw=>?_)
    obtain rfl:k=ps_l.length:=by omega
    rw [List.take_length,hps] at hI
    refine ⟨_,M2,rfl,hm1,hw.c,?_⟩
    unfold WB
    rw [show (ZL.tb ⟨⟨ZZ,Yp⟩,⟨Yr,YE⟩,⟨Yu,Yt,ZW⟩,⟨Yc,Yb,ZJ⟩⟩).self=⟨ZZ,Yp⟩ from rfl,hI];rfl
end Go.Proofs.YtajmnjefajknoaaGreat
namespace Go.Esp
def smallP (n:Int):Plc:=ofBytes fun i=>if i=19 then (n % 256).toNat else if i=18 then (n / 256 % 256).toNat else 0
theorem smallP_lt (n:Int):∀ i,(if i=19 then (n % 256).toNat else if i=18 then (n / 256 % 256).toNat else 0)<256:=fun i=>by
  split
  · omega
  · split
    · omega
    · decide
theorem idV0 {i:Nat} (h:i<20):(idV 0)[i]=.int .u8 0:=by rw [VD _ h];simp [idB]
theorem small_seg (n:Int):idV (smallP n)=((idV 0).set 19 (.int .u8 (n % 256))).set 18 (.int .u8 (n / 256 % 256)):=by
  apply Vector.ext
  intro i hi
  rw [VD _ hi]
  unfold smallP
  rw [idB_ofBytes (smallP_lt n) hi]
  by_cases e8:i=18
  · subst e8
    rw [Vector.getElem_set_self]
    simp
    omega
  · rw [Vector.getElem_set_ne _ _ (Ne.symm e8)]
    by_cases e9:i=19
    · subst e9
      rw [Vector.getElem_set_self]
      simp
      omega
    · rw [Vector.getElem_set_ne _ _ (Ne.symm e9),idV0 hi]
      simp [e8,e9]
end Go.Esp
namespace Go.Proofs.YtajmnjefajknoaaGreat
open Go.Esp
theorem F.ok20:okFn Tryz.prog 20=true:=by kernel_rfl
theorem SameP_ok (M:Mem) (a:(Sl ZD)) (b:(Sl ZD)) (ha0:SlK M ZD.segs 21 a) (hb1:SlK M ZD.segs 21 b):Fs Tryz.prog 20 [Sl.val a,Sl.val b] M (fun v=>v=Value.bool (decide (a.l=b.l))):=by
  obtain ⟨a_a,a_c,a_l⟩:=a
  obtain ⟨b_a,b_c,b_l⟩:=b
  have k_a:SlK M ZD.segs 21 ⟨a_a,a_c,a_l⟩:=ha0
  have s_a:SlM M a_a (a_l.map ZD.segs) 21:=k_a.h1
  have n_a:(a_l.map ZD.segs).length=a_l.length:=List.length_map ..
  have m_a:a_l.length≤9223372036854775807:=k_a.h2
  have c_a:a_l.length≤a_c:=k_a.h3
  have k_b:SlK M ZD.segs 21 ⟨b_a,b_c,b_l⟩:=hb1
  have s_b:SlM M b_a (b_l.map ZD.segs) 21:=k_b.h1
  have n_b:(b_l.map ZD.segs).length=b_l.length:=List.length_map ..
  have m_b:b_l.length≤9223372036854775807:=k_b.h2
  have c_b:b_l.length≤b_c:=k_b.h3
  refine Xm Tryz.func20 rfl Tryz.ntmps20 rfl ?_;intro H
  refine ZI (Zm (l:=[0]) rfl ?_);refine ZB ?_;refine Zo (Zn ?_)
  iterate 2 refine ZI ?_
  refine Zm (l:=[0,1,2,3,4]) rfl ?_;refine Zv ?_;refine YX F.elem26 ?_;refine Zv ?_;refine YX F.elem26 ?_;refine Yz ?_;refine Zo (Zn (Y_pk [10,4,0,1] ?_))
  refine Yx rfl (fun hc1=>?_) (fun hc1=>?_)
  ·replace hc1:=nT hc1
   refine ZI (Zm (l:=[0]) rfl ?_);refine ZB ?_;refine Zo (Zn (Y_pk [4,0,1] ?_));refine Yg (YG ?_)
   refine Ya (.inr rfl) (.tmp rfl .nil) (fun w hw=>?_)
   refine ⟨_,rfl,(hw.c),?_⟩
   clear hw
   refine congrArg Value.bool ?_
   exact (decide_eq_false (fun h9=>by subst h9;simp_all)).symm
  ·replace hc1:=nF hc1
   refine Yv (Zn (Y_pk [4,0,1] ?_))
   iterate 2 refine ZI ?_
   refine Zm (l:=[0]) rfl ?_;refine ZB ?_;refine Zo (Zn (Xd (Y_pk [5,4,0,1] ?_)));refine WH (.succ .zero) (fun (k:Nat) z=>z=[(5,.int .i64 (k:Int))]∧k≤a_l.length∧(∀ j (h2:j<a_l.length) (h3:j<b_l.length),j<k→a_l[j]=b_l[j])) (fun k=>a_l.length-k) (0) (⟨rfl,by omega,by (intro j h2 h3 hj;omega)⟩) ?_
   rintro k _ ⟨rfl,hk,hI⟩
   iterate 2 refine ZI ?_
   refine Zm (l:=[0,1,2,3]) rfl ?_
   iterate 2 refine Zv ?_
   refine YX F.elem26 ?_;refine Yz ?_;refine Zo (Zn ?_)
   refine Yx rfl (fun hc2=>?_) (fun hc2=>?_)
   ·replace hc2:=dT hc2
    refine Yv (Zn (ZI (Xd (ZI (Yy (l:=[0,1,2,3,4,5,6,7,8]) #[0,0,3,7,0,0,48,112,255] _ rfl (by kernel_rfl) (by kernel_rfl) St.drawn (fun _ h=>h) ?_)))))
    iterate 2 refine Zv ?_
    refine YR rfl rfl rfl rfl F.elem26 (by rfl) (by omega) (by exact SlM.plain (by assumption) (by (simp;omega))) rfl ?_;refine Xo rfl rfl rfl (by assumption) (by exact XW (by omega)) F.lay25 rfl rfl rfl ?_
    iterate 2 refine Zv ?_
    refine YR rfl rfl rfl rfl F.elem26 (by rfl) (by omega) (by exact SlM.plain (by assumption) (by (simp;omega))) rfl ?_;refine Xo rfl rfl rfl (by assumption) (by exact XW (by omega)) F.lay25 rfl rfl rfl ?_
    refine Wf (m:=20) rfl rfl rfl rfl rfl (by constructor) (by constructor) F.lay25 F.kinds25 rfl F.guard25 (by exact Xf _) (by exact Xf _) rfl rfl rfl ?_;intro c3 he4
    replace he4:c3=true↔¬(Segs.cells _=Segs.cells _):=he4
    obtain rfl:=neD he4 (ZD.inj (x:=⟨_,_⟩) (y:=⟨_,_⟩));clear he4
    refine Zo (Zn ?_)
    refine Yx rfl (fun hc5=>?_) (fun hc5=>?_)
    ·replace hc5:=nT hc5
     simp only [ZD.eta,ZL.eta,ZO.eta,ZM.eta,Yd.eta,ZQ.eta,YI.eta,ZX.eta] at hc5
     simp only [List.get_eq_getElem] at hc5
     refine ZI (Zm (l:=[0]) rfl ?_);refine ZB ?_;refine Zo (Zn (Yg (Xi ?_)))
     iterate 2 refine YG ?_
     refine Xi (YG ?_)
     refine Ya (.inr rfl) (.tmp rfl .nil) (fun w hw=>?_)
     refine ⟨_,rfl,(hw.c),?_⟩
     clear hw
     refine congrArg Value.bool ?_
     exact (decide_eq_false (fun h9=>by subst h9;simp_all)).symm
    ·replace hc5:=nF hc5
     simp only [ZD.eta,ZL.eta,ZO.eta,ZM.eta,Yd.eta,ZQ.eta,YI.eta,ZX.eta] at hc5
     simp only [List.get_eq_getElem] at hc5
     refine Yv (XV (Zn (Zm (l:=[0,1,2]) rfl ?_)));refine Zv ?_;refine XN rfl rfl rfl rfl rfl (by exact Xn (by decide) (by omega)) rfl ?_;refine ZB ?_;refine Zo ?_;refine WC (a':=[(5,_)]) (k+1) (.cons (k:=5) rfl (.cons (k:=4) rfl (.cons (k:=0) rfl (.cons (k:=1) rfl (.nil))))) (fun w hw=>by first|exact hw|exact hw.c) ?_ ?_
     ·refine ⟨rfl,by omega,?_⟩
      (intro j h2 h3 hj;rcases Nat.lt_or_ge j k with h9|h9;exact hI j h2 h3 h9;obtain rfl:j=k:=(by omega);simp_all)
     ·omega
   ·replace hc2:=dF hc2
    refine XS ?_
    iterate 2 refine XM ?_
    refine Wl (Zn (Y_pk [4] ?_));refine ZI (Zm (l:=[0]) rfl ?_);refine ZB ?_;refine Zo (Zn (Yg ?_))
    refine Ya (.inr rfl) (.tmp rfl .nil) (fun w hw=>?_)
    refine ⟨_,rfl,(hw.c),?_⟩
    clear hw
    refine congrArg Value.bool ?_
    exact (decide_eq_true (List.ext_getElem (by omega) (fun j h2 h3=>hI j h2 h3 (by omega)))).symm
theorem SameT_ok (M:Mem) (a:ZL) (b:ZL) (ha0:ZL.ok M a) (hb1:ZL.ok M b):Fs Tryz.prog 42 [a.enc,b.enc] M (fun v=>v=Value.bool (decide (a.tb=b.tb))):=by
  obtain ⟨⟨a_self_addr,a_self_id⟩,⟨a_pred_addr,a_pred_id⟩,⟨a_succ_a,a_succ_c,a_succ_l⟩,⟨a_fingers_a,a_fingers_c,a_fingers_l⟩⟩:=a
  obtain ⟨⟨b_self_addr,b_self_id⟩,⟨b_pred_addr,b_pred_id⟩,⟨b_succ_a,b_succ_c,b_succ_l⟩,⟨b_fingers_a,b_fingers_c,b_fingers_l⟩⟩:=b
  have k_a_succ:SlK M ZD.segs 21 ⟨a_succ_a,a_succ_c,a_succ_l⟩:=ha0.h0
  have s_a_succ:SlM M a_succ_a (a_succ_l.map ZD.segs) 21:=k_a_succ.h1
  have n_a_succ:(a_succ_l.map ZD.segs).length=a_succ_l.length:=List.length_map ..
  have m_a_succ:a_succ_l.length≤9223372036854775807:=k_a_succ.h2
  have c_a_succ:a_succ_l.length≤a_succ_c:=k_a_succ.h3
  have k_a_fingers:SlK M ZD.segs 21 ⟨a_fingers_a,a_fingers_c,a_fingers_l⟩:=ha0.h1
  have s_a_fingers:SlM M a_fingers_a (a_fingers_l.map ZD.segs) 21:=k_a_fingers.h1
  have n_a_fingers:(a_fingers_l.map ZD.segs).length=a_fingers_l.length:=List.length_map ..
  have m_a_fingers:a_fingers_l.length≤9223372036854775807:=k_a_fingers.h2
  have c_a_fingers:a_fingers_l.length≤a_fingers_c:=k_a_fingers.h3
  have k_b_succ:SlK M ZD.segs 21 ⟨b_succ_a,b_succ_c,b_succ_l⟩:=hb1.h0
  have s_b_succ:SlM M b_succ_a (b_succ_l.map ZD.segs) 21:=k_b_succ.h1
  have n_b_succ:(b_succ_l.map ZD.segs).length=b_succ_l.length:=List.length_map ..
  have m_b_succ:b_succ_l.length≤9223372036854775807:=k_b_succ.h2
  have c_b_succ:b_succ_l.length≤b_succ_c:=k_b_succ.h3
  have k_b_fingers:SlK M ZD.segs 21 ⟨b_fingers_a,b_fingers_c,b_fingers_l⟩:=hb1.h1
  have s_b_fingers:SlM M b_fingers_a (b_fingers_l.map ZD.segs) 21:=k_b_fingers.h1
  have n_b_fingers:(b_fingers_l.map ZD.segs).length=b_fingers_l.length:=List.length_map ..
  have m_b_fingers:b_fingers_l.length≤9223372036854775807:=k_b_fingers.h2
  have c_b_fingers:b_fingers_l.length≤b_fingers_c:=k_b_fingers.h3
  refine Xm Tryz.func42 rfl Tryz.ntmps42 rfl ?_;intro H
  refine ZI (Zm (l:=[0,1,2]) rfl ?_)
  refine Xk ?_;intro b1
  refine Xk ?_;intro b2
  refine ZB ?_;refine Zo (Zn (Y_pk [4,3,2] ?_));refine ZI (Zm (l:=[0,1,2,3,4,5,6,7,8,9,10,11,12,13,14,15,16,17,18,19,20,21,22,23,24,25,26]) rfl ?_);refine Zk F.foff28_0 ?_;refine ZH F.lay25 ?_;refine Zk F.foff28_0 ?_;refine ZH F.lay25 ?_
  refine Wf (m:=20) rfl rfl rfl rfl rfl (by constructor) (by constructor) F.lay25 F.kinds25 rfl F.guard25 (by exact Xf (⟨_,_⟩)) (by exact Xf (⟨_,_⟩)) rfl rfl rfl ?_;intro c3 he4
  replace he4:c3=true↔Segs.cells _=Segs.cells _:=he4
  obtain rfl:=eqD he4 (ZD.inj (x:=⟨_,_⟩) (y:=⟨_,_⟩));clear he4
  refine Zv ?_
  refine Yh 10 rfl (fun hc5=>?_) (fun hc5=>?_)
  ·replace hc5:=dT hc5
   refine Zk F.foff28_1 ?_;refine ZH F.lay25 ?_;refine Zk F.foff28_1 ?_;refine ZH F.lay25 ?_
   refine Wf (m:=20) rfl rfl rfl rfl rfl (by constructor) (by constructor) F.lay25 F.kinds25 rfl F.guard25 (by exact Xf (⟨_,_⟩)) (by exact Xf (⟨_,_⟩)) rfl rfl rfl ?_;intro c6 he7
   replace he7:c6=true↔Segs.cells _=Segs.cells _:=he7
   obtain rfl:=eqD he7 (ZD.inj (x:=⟨_,_⟩) (y:=⟨_,_⟩));clear he7
   refine ZK ?_;refine Zv ?_
   refine Yh 17 rfl (fun hc8=>?_) (fun hc8=>?_)
   ·replace hc8:=dT hc8
    refine Zk F.foff28_2 ?_;refine ZH F.lay26 ?_;refine Zk F.foff28_2 ?_;refine ZH F.lay26 ?_;refine X_fs rfl rfl F.ok20 rfl (SameP_ok _ ⟨_,_,_⟩ ⟨_,_,_⟩ (by assumption) (by assumption)) rfl ?_
    rintro _ rfl
    refine ZK ?_;refine Zv ?_
    refine Yh 24 rfl (fun hc9=>?_) (fun hc9=>?_)
    ·replace hc9:=dT hc9
     simp only [ZD.eta,ZL.eta,ZO.eta,ZM.eta,Yd.eta,ZQ.eta,YI.eta,ZX.eta] at hc9
     refine Zk F.foff28_3 ?_;refine ZH F.lay26 ?_;refine Zk F.foff28_3 ?_;refine ZH F.lay26 ?_;refine X_fs rfl rfl F.ok20 rfl (SameP_ok _ ⟨_,_,_⟩ ⟨_,_,_⟩ (by assumption) (by assumption)) rfl ?_
     rintro _ rfl
     refine ZK ?_;refine ZB ?_;refine Zo (Zn (Y_pk [4] ?_));refine Yg ?_
     refine Ya (.inr rfl) (.tmp rfl .nil) (fun w hw=>?_)
     refine ⟨_,rfl,(hw.c),?_⟩
     clear hw
     refine congrArg Value.bool ?_
     simp_all [ZL.tb]
    ·replace hc9:=dF hc9
     simp only [ZD.eta,ZL.eta,ZO.eta,ZM.eta,Yd.eta,ZQ.eta,YI.eta,ZX.eta] at hc9
     iterate 5 refine ZU ?_
     refine ZK ?_;refine ZB ?_;refine Zo (Zn (Y_pk [4] ?_));refine Yg ?_
     refine Ya (.inr rfl) (.tmp rfl .nil) (fun w hw=>?_)
     refine ⟨_,rfl,(hw.c),?_⟩
     clear hw
     refine congrArg Value.bool ?_
     simp_all [ZL.tb]
   ·replace hc8:=dF hc8
    iterate 5 refine ZU ?_
    refine ZK ?_;refine Zv ?_
    iterate 5 refine ZU ?_
    refine ZK ?_;refine ZB ?_;refine Zo (Zn (Y_pk [4] ?_));refine Yg ?_
    refine Ya (.inr rfl) (.tmp rfl .nil) (fun w hw=>?_)
    refine ⟨_,rfl,(hw.c),?_⟩
    clear hw
    refine congrArg Value.bool ?_
    simp_all [ZL.tb]
  ·replace hc5:=dF hc5
   iterate 5 refine ZU ?_
   refine ZK ?_;refine Zv ?_
   iterate 5 refine ZU ?_
   refine ZK ?_;refine Zv ?_
   iterate 5 refine ZU ?_
   refine ZK ?_;refine ZB ?_;refine Zo (Zn (Y_pk [4] ?_));refine Yg ?_
   refine Ya (.inr rfl) (.tmp rfl .nil) (fun w hw=>?_)
   refine ⟨_,rfl,(hw.c),?_⟩
   clear hw
   refine congrArg Value.bool ?_
   simp_all [ZL.tb]
theorem BigT_ok (M:Mem) (t:ZL) (ht0:ZL.ok M t):Fs Tryz.prog 31 [t.enc] M (fun v=>v=Value.bool (decide (40<t.succ.l.length∨200<t.fingers.l.length))):=by
  obtain ⟨⟨ZZ,Yp⟩,⟨Yr,YE⟩,⟨Yu,Yt,ZW⟩,⟨Yc,Yb,ZJ⟩⟩:=t
  have YS:SlK M ZD.segs 21 ⟨Yu,Yt,ZW⟩:=ht0.h0
  have WQ:SlM M Yu (ZW.map ZD.segs) 21:=YS.h1
  have WR:(ZW.map ZD.segs).length=ZW.length:=List.length_map ..
  have WS:ZW.length≤9223372036854775807:=YS.h2
  have WU:ZW.length≤Yt:=YS.h3
  have Yw:SlK M ZD.segs 21 ⟨Yc,Yb,ZJ⟩:=ht0.h1
  have Wb:SlM M Yc (ZJ.map ZD.segs) 21:=Yw.h1
  have Wi:(ZJ.map ZD.segs).length=ZJ.length:=List.length_map ..
  have Wc:ZJ.length≤9223372036854775807:=Yw.h2
  have Wj:ZJ.length≤Yb:=Yw.h3
  refine Xm Tryz.func31 rfl Tryz.ntmps31 rfl ?_;intro H
  refine ZI (Zm (l:=[0,1]) rfl ?_)
  refine Xk ?_;intro b1
  refine ZB ?_;refine Zo (Zn (Y_pk [2,1] ?_));refine ZI (Zm (l:=[0,1,2,3,4,5,6,7,8,9,10]) rfl ?_);refine Zk F.foff28_2 ?_;refine ZH F.lay26 ?_;refine YX F.elem26 ?_;refine Yz ?_;refine Zv ?_
  refine Yh 7 rfl (fun hc2=>?_) (fun hc2=>?_)
  ·replace hc2:=dT hc2
   iterate 4 refine ZU ?_
   refine ZK ?_;refine ZB ?_;refine Zo (Zn (Y_pk [2] ?_));refine Yg ?_
   refine Ya (.inr rfl) (.tmp rfl .nil) (fun w hw=>?_)
   refine ⟨_,rfl,(hw.c),?_⟩
   clear hw
   refine congrArg Value.bool ?_
   rw [Bool.eq_iff_iff]
   simp only [decide_eq_true_eq,true_iff,iff_true]
   omega
  ·replace hc2:=dF hc2
   refine Zk F.foff28_3 ?_;refine ZH F.lay26 ?_;refine YX F.elem26 ?_;refine Yz ?_;refine ZK ?_;refine ZB ?_;refine Zo (Zn (Y_pk [2] ?_));refine Yg ?_
   refine Ya (.inr rfl) (.tmp rfl .nil) (fun w hw=>?_)
   refine ⟨_,rfl,(hw.c),?_⟩
   clear hw
   refine congrArg Value.bool ?_
   rw [Bool.eq_iff_iff]
   simp only [decide_eq_true_eq,true_iff,iff_true]
   omega
theorem Small_ok (M:Mem) (n:Int) (hn:0≤n∧n≤1000000):Fs Tryz.prog 40 [.int .i64 n] M (fun v=>v=(fun x=>aggV [Yq x]) (smallP n)):=by
  refine Xm Tryz.func40 rfl Tryz.ntmps40 rfl ?_;intro H
  refine ZI (Zm (l:=[0]) rfl ?_)
  refine YT F.zero23 ?_;intro b1
  refine Zo (Zn (ZI (Zm (l:=[0]) rfl ?_)))
  refine YT F.zero23 ?_;intro b2
  refine Zo (Zn (ZI (Zm (l:=[0,1,2,3,4]) rfl ?_)));refine Zv ?_;refine X_rem rfl rfl rfl rfl (by decide) (by exact rem_nn (by omega)) rfl ?_;refine X_conv rfl rfl rfl Tryz.underlying3 Tryz.underlying5 (by exact wrap_u8_in (by decide) (by omega)) rfl ?_;refine X_indexAddr_arr rfl rfl rfl rfl F.arr23 (by rfl) (by decide) rfl ?_;refine X_store_cell rfl rfl rfl rfl rfl rfl (by repeat first|exact Upd.head|apply Upd.tail|apply Upd.over) F.lay5 (arr_len (by decide)) (arr_set (by decide)) ?_;refine Zo (Zn (Y_pk [3,2,0] ?_));refine ZI (Zm (l:=[0,1,2,3,4,5]) rfl ?_);refine Zv ?_;refine X_quo rfl rfl rfl rfl (by decide) (by exact quo_in rfl (by omega) (by omega) (by omega)) rfl ?_;refine X_rem rfl rfl rfl rfl (by decide) (by exact rem_nn (by omega)) rfl ?_;refine X_conv rfl rfl rfl Tryz.underlying3 Tryz.underlying5 (by exact wrap_u8_in (by decide) (by omega)) rfl ?_
  refine X_indexAddr_arr rfl rfl rfl rfl F.arr23 (by rfl) (by decide) rfl ?_;refine X_store_cell rfl rfl rfl rfl rfl rfl (by repeat first|exact Upd.head|apply Upd.tail|apply Upd.over) F.lay5 (arr_len (by decide)) (arr_set (by decide)) ?_;refine Zo (Zn (Y_pk [3,2] ?_));refine ZI (Zm (l:=[0,1]) rfl ?_);refine ZH F.lay23 ?_;refine WV 13 rfl (show aggV [.arr 20 _]=aggV [Yq (smallP n)] from by unfold Yq;rw [small_seg]) ?_;refine Yi F.lay23 ?_;refine Zo (Zn (Y_pk [2] ?_));refine Yg ?_
  refine Ya (.inr rfl) (.cell rfl (by repeat first|exact List.Mem.head _|refine List.Mem.tail _ ?_|refine List.mem_append_right _ ?_) F.lay23 rfl rfl .nil) (fun w hw=>?_)
  refine ⟨_,rfl,(hw.c),?_⟩
  clear hw
  rfl
end Go.Proofs.YtajmnjefajknoaaGreat
namespace Go.Esp
def others (a:Int) (l:List ZD):List ZD:=l.filter (fun p=>p.addr≠a)
end Go.Esp
namespace Go.Esp
structure Lt where
  kind:Int
  frm:ZD
  req:Int
  id:Plc
  avoid:List Int
  done:Bool
  peer:ZD
  peers:List ZD
  deriving DecidableEq
structure Snd where
  to:Int
  letter:Lt
  deriving DecidableEq
structure Nd where
  table:Tb
  copies:Int
  joined:Bool
  boot:Int
  cursor:Int
  req:Int
  askTo:Int
  askReq:Int
  pingTo:Int
  pingReq:Int
  findTo:Int
  findReq:Int
  findID:Plc
  avoid:List Int
  hops:Int
  turn:Int
  deriving DecidableEq
def Nd.zero:Nd:=⟨Tb.zero,0,false,0,0,0,0,0,0,0,0,0,0,[],0,0⟩
def Lt.zero:Lt:=⟨0,⟨0,0⟩,0,0,[],false,⟨0,0⟩,[]⟩
def YC (s:ZD) (a:Int):Prop:=(-1≤a∧a≤999)∧a≠s.addr
instance (s:ZD) (a:Int):Decidable (YC s a):=by unfold YC;exact inferInstance
def IsNd (n:Nd):Prop :=
  IsTb n.table∧(1≤n.copies∧n.copies≤8)∧(n.joined=true∨n.boot≠-1)∧(0≤n.cursor∧n.cursor≤159)∧n.avoid.length≤16∧(0≤n.hops∧n.hops≤64)∧(0≤n.turn∧n.turn≤999999) ∧
  (YC n.table.self n.boot∧YC n.table.self n.askTo∧YC n.table.self n.pingTo∧YC n.table.self n.findTo)∧∀ a∈n.avoid,YH a
instance (n:Nd):Decidable (IsNd n):=by unfold IsNd;exact inferInstance
def Vn (k:Int):Prop:=k=1∨k=2∨k=3∨k=6∨k=7∨k=4
instance (k:Int):Decidable (Vn k):=by unfold Vn;exact inferInstance
def WN (k:Int):Prop:=k=2∨k=4∨k=8
instance (k:Int):Decidable (WN k):=by unfold WN;exact inferInstance
def Wr (k:Int):Prop:=k=4∨k=8
instance (k:Int):Decidable (Wr k):=by unfold Wr;exact inferInstance
def IsLt (l:Lt):Prop :=
  (1≤l.kind∧l.kind≤8)∧YH l.frm.addr∧l.avoid.length≤16∧l.peers.length≤8∧(l.peer=YW∨YH l.peer.addr)∧¬(l.peer=YW∧l.kind=2) ∧
  (Vn l.kind∨l.req=0)∧(l.kind=1∨l.id=0)∧(l.kind=1∨l.avoid=[])∧(l.kind=2∨l.done=false)∧(WN l.kind∨l.peer=YW)∧(Wr l.kind∨l.peers=[]) ∧
  (∀ a∈l.avoid,YH a)∧∀ p∈l.peers,YH p.addr
instance (l:Lt):Decidable (IsLt l):=by unfold IsLt Vn WN Wr;exact inferInstance
def nxR (r:Int):Int:=(r+1) % 18446744073709551616
def lett (n:Nd) (kind req:Int):Lt:=⟨kind,n.table.self,req,0,[],false,YW,[]⟩
def VE (self:ZD) (r:Int):Nd×Int:=if YH self.addr∧1≤r∧r≤8 then (⟨(newT self).1,r,true,-1,0,0,-1,0,-1,0,-1,0,0,[],0,0⟩,0) else (Nd.zero,1)
def joiningN (self:ZD) (r boot:Int):Nd×Int:=if (VE self r).2=0∧YH boot∧boot≠self.addr then ({ (VE self r).1 with joined:=false,boot:=boot },0) else (Nd.zero,1)
def seekN (n:Nd) (to:Int):Nd×List Snd :=
  ({ n with req:=nxR n.req,findTo:=to,findReq:=nxR n.req },[⟨to,{ lett n 1 (nxR n.req) with id:=n.findID,avoid:=n.avoid }⟩])
def shunN (n:Nd) (a:Int):Nd:=if a∈n.avoid∨16≤n.avoid.length then n else { n with avoid:=n.avoid++[a] }
def WF (n:Nd) (first:ZD) (rest:List ZD):Nd:=if (Vz n.table first rest n.copies).2=0 then { n with table:=(Vz n.table first rest n.copies).1 } else n
def VR (n:Nd) (p:ZD):Nd:=if (WZ n.table n.cursor p).2.2=0 then { n with table:=(WZ n.table n.cursor p).1,cursor:=(WZ n.table n.cursor p).2.1 } else n
def stabN (n:Nd):Nd×List Snd :=
  if n.joined=false then
    let m:=if n.findTo≠-1∧n.findTo≠n.boot then shunN n n.findTo else n
    seekN { m with findID:=m.table.self.id,hops:=0 } m.boot
  else
    let m:=if n.askTo≠-1 then { n with table:=Wg n.table n.askTo,askTo:=-1 } else n
    let m:=if m.table.succ=[]∧m.table.pred≠YW then WF m m.table.pred [] else m
    if m.table.succ=[] then (m,[])
    else ({ m with req:=nxR m.req,askTo:=(Xl m.table).addr,askReq:=nxR m.req },[⟨(Xl m.table).addr,lett m 3 (nxR m.req)⟩])
def fixN (n:Nd):Nd×List Snd :=
  if n.joined=false then (n,[])
  else
    let m:=if n.findTo=-1 then { n with avoid:=[] } else { shunN n n.findTo with table:=Wg n.table n.findTo,findTo:=-1 }
    let id:=m.table.self.id+powP m.cursor.toNat
    if (VN m.table id).2 then (VR m (VN m.table id).1,[])
    else if (WB m.table id m.avoid).2=false then ({ m with cursor:=0 },[])
    else seekN { m with findID:=id,hops:=0 } (WB m.table id m.avoid).1.addr
def checkN (n:Nd):Nd×List Snd :=
  let m:=if n.pingTo≠-1 then { n with table:=Wg n.table n.pingTo,pingTo:=-1 } else n
  match knownT m.table with
  | []=>(m,[])
  | p::l =>
    let a:=(((p::l)[m.turn.toNat % (l.length+1)]?).getD YW).addr
    ({ m with req:=nxR m.req,pingTo:=a,pingReq:=nxR m.req,turn:=(m.turn+1) % 1000000 },[⟨a,lett m 6 (nxR m.req)⟩])
def VP (n:Nd) (kind:Int):Nd×List Snd×Int :=
  if IsNd n∧1≤kind∧kind≤3 then
    let r:=if kind=1 then stabN n else if kind=2 then fixN n else checkN n
    (r.1,r.2,0)
  else (Nd.zero,[],1)
def findN (n:Nd) (l:Lt):List Snd :=
  if n.joined=false then []
  else
    let d:=VN n.table l.id
    let q:=WB n.table l.id l.avoid
    [⟨l.frm.addr,{ lett n 2 l.req with done:=d.2 || !q.2,peer:=if d.2 || !q.2 then d.1 else q.1 }⟩]
def foundN (n:Nd) (l:Lt):Nd×List Snd :=
  if n.findTo≠l.frm.addr∨n.findReq≠l.req then (n,[])
  else if l.done then
    let m:={ n with findTo:=-1 }
    if n.joined=true∧(Xr n.table.self l.peer∨l.peer=n.table.self) then (VR m l.peer,[])
    else if n.joined=false∧Xr n.table.self l.peer then ({ WF m l.peer [] with joined:=true,cursor:=0,avoid:=[] },[])
    else (m,[])
  else if ¬Xr n.table.self l.peer∨l.peer.addr∈n.avoid∨l.peer.addr=l.frm.addr∨32≤n.hops then ({ n with findTo:=-1 },[])
  else seekN { n with hops:=n.hops+1 } l.peer.addr
def toldN (n:Nd) (l:Lt):Nd×List Snd :=
  if n.askTo≠l.frm.addr∨n.askReq≠l.req then (n,[])
  else
    let m:=WF { n with askTo:=-1 } l.frm l.peers
    let m:=if CloserT m.table l.peer then WF m l.peer (l.frm::l.peers) else m
    (m,[⟨(Xl m.table).addr,lett m 5 0⟩])
def byeN (n:Nd) (l:Lt):Nd :=
  let t:=Wg n.table l.frm.addr
  let t:=if n.table.pred.addr=l.frm.addr then VC t l.peer else t
  let m:={ n with table:=t }
  match l.peers with
  | []=>m
  | p::ps=>if (Xl n.table).addr=l.frm.addr then WF m p ps else m
def VQ (n:Nd) (l:Lt):Nd×List Snd×Int :=
  if IsNd n∧IsLt l then
    if ¬Xr n.table.self l.frm then (n,[],0)
    else if l.kind=1 then (n,findN n l,0)
    else if l.kind=2 then ((foundN n l).1,(foundN n l).2,0)
    else if l.kind=3 then (n,if n.joined then [⟨l.frm.addr,{ lett n 4 l.req with peer:=n.table.pred,peers:=n.table.succ }⟩] else [],0)
    else if l.kind=4 then ((toldN n l).1,(toldN n l).2,0)
    else if l.kind=5 then ({ n with table:=VC n.table l.frm },[],0)
    else if l.kind=6 then (n,[⟨l.frm.addr,lett n 7 l.req⟩],0)
    else if l.kind=7 then (if n.pingTo=l.frm.addr∧n.pingReq=l.req then { n with pingTo:=-1 } else n,[],0)
    else (byeN n l,[],0)
  else (Nd.zero,[],1)
def leaveN (n:Nd):List Snd×Int :=
  if IsNd n then
    let l:={ lett n 8 0 with peer:=n.table.pred,peers:=n.table.succ }
    ((if n.table.succ=[] then [] else [⟨(Xl n.table).addr,l⟩])++(if n.table.pred≠YW∧n.table.pred≠Xl n.table then [⟨n.table.pred.addr,l⟩] else []),0)
  else ([],1)
end Go.Esp
namespace Go.Esp
section
variable {P:Program} {n:Sh} {Q:Exit→Act→World→Prop} {M:Mem} {H H0:Hp} {e:Env} {x:Exit} {c:Code}
end
end Go.Esp
namespace Go.Esp
def ZO.nd (n:ZO):Nd:=⟨n.table.tb,n.copies,n.joined,n.boot,n.cursor,n.req,n.askTo,n.askReq,n.pingTo,n.pingReq,n.findTo,n.findReq,n.findID,n.avoid.l,n.hops,n.turn⟩
def ZM.lt (l:ZM):Lt:=⟨l.kind,l.frm,l.req,l.id,l.avoid.l,l.done,l.peer,l.peers.l⟩
def Yd.snd (s:Yd):Snd:=⟨s.to,s.letter.lt⟩
def sndl (l:List Yd):List Snd:=l.map Yd.snd
theorem addr4 {s:ZD} {a b c d:Int}:(∀ j (h:j<[a,b,c,d].length),YC s [a,b,c,d][j])↔(YC s a∧YC s b∧YC s c∧YC s d):=by
  constructor
  · intro h;exact ⟨h 0 (by show 0<4;decide),h 1 (by show 1<4;decide),h 2 (by show 2<4;decide),h 3 (by show 3<4;decide)⟩
  · rintro ⟨h0,h1,h2,h3⟩ j hj
    match j,hj with
    | 0,_=>exact h0
    | 1,_=>exact h1
    | 2,_=>exact h2
    | 3,_=>exact h3
theorem any_odd {l:List Int}:(l.any fun a=>decide (¬(0≤a∧a≤999)))=false↔∀ a∈l,YH a:=by
  rw [List.any_eq_false]
  constructor
  · intro h a ha
    have:=h a ha
    simp only [decide_eq_true_eq,Classical.not_not] at this
    exact this
  · intro h a ha
    have:=h a ha
    simp only [decide_eq_true_eq,Classical.not_not]
    exact this
theorem any_oddP {l:List ZD}:(l.any fun p=>decide (¬YH p.addr))=false↔∀ p∈l,YH p.addr:=by
  rw [List.any_eq_false]
  constructor
  · intro h a ha
    have:=h a ha
    simpa using this
  · intro h a ha
    have:=h a ha
    simpa using this
def orK (a b:Int):Int:=IntKind.i64.wrap (BitVec.ofInt 64 a ||| BitVec.ofInt 64 b).toNat
def notK (a b:Int):Int:=IntKind.i64.wrap (BitVec.ofInt 64 a &&& ~~~BitVec.ofInt 64 b).toNat
def VK (l:List YI):Int:=l.foldl (fun a h=>if h.is then orK a h.part else a) 0
theorem usedH_take {l:List YI} {k:Nat} (hk:k<l.length):VK (l.take (k+1))=if l[k].is then orK (VK (l.take k)) l[k].part else VK (l.take k):=by
  unfold VK
  rw [List.take_add_one,List.getElem?_eq_getElem hk,List.foldl_append]
  rfl
def VW (a b c d e f:Bool):List YI:=[⟨1,a⟩,⟨2,b⟩,⟨4,c⟩,⟨8,d⟩,⟨16,e⟩,⟨32,f⟩]
def Wz (k:Int):Int×Bool :=
  if k=1 then (7,true) else if k=2 then (25,true) else if k=3∨k=6∨k=7 then (1,true) else if k=4 then (49,true) else if k=5 then (0,true) else if k=8 then (48,true) else (0,false)
theorem used_not:∀ (a b c d e f:Bool),(notK (VK (VW a b c d e f)) 7=0↔d=false∧e=false∧f=false)∧(notK (VK (VW a b c d e f)) 25=0↔b=false∧c=false∧f=false) ∧
    (notK (VK (VW a b c d e f)) 1=0↔b=false∧c=false∧d=false∧e=false∧f=false)∧(notK (VK (VW a b c d e f)) 49=0↔b=false∧c=false∧d=false) ∧
    (notK (VK (VW a b c d e f)) 0=0↔a=false∧b=false∧c=false∧d=false∧e=false∧f=false)∧(notK (VK (VW a b c d e f)) 48=0↔a=false∧b=false∧c=false∧d=false):=by
  intro a b c d e f
  cases a <;> cases b <;> cases c <;> cases d <;> cases e <;> cases f <;> decide +kernel
theorem parts_no {k:Int} (h:¬(1≤k∧k≤8)∨(¬k=1∧¬k=2∧¬k=3∧¬k=6∧¬k=7∧¬k=4∧¬k=5∧¬k=8)):Wz k=(0,false):=by
  unfold Wz
  rw [if_neg (by omega),if_neg (by omega),if_neg (by omega),if_neg (by omega),if_neg (by omega),if_neg (by omega)]
theorem parts_yes {k:Int}:(Wz k).2=true↔1≤k∧k≤8:=by
  unfold Wz
  repeat' split
  all_goals simp only [true_iff,false_iff,Bool.false_eq_true]
  all_goals omega
theorem used_parts {k:Int} (hk:(Wz k).2=true) (a b c d e f:Bool):notK (VK (VW a b c d e f)) (Wz k).1=0 ↔
    ((Vn k∨a=false)∧(k=1∨b=false)∧(k=1∨c=false)∧(k=2∨d=false)∧(WN k∨e=false)∧(Wr k∨f=false)):=by
  obtain ⟨h1,h2,h3,h4,h5,h6⟩:=used_not a b c d e f
  have hk9:=parts_yes.1 hk
  have:k=1∨k=2∨k=3∨k=4∨k=5∨k=6∨k=7∨k=8:=by omega
  unfold Vn WN Wr
  rcases this with rfl|rfl|rfl|rfl|rfl|rfl|rfl|rfl
  · rw [show (Wz 1).1=7 from rfl,h1];simp
  · rw [show (Wz 2).1=25 from rfl,h2];simp
  · rw [show (Wz 3).1=1 from rfl,h3];simp
  · rw [show (Wz 4).1=49 from rfl,h4];simp
  · rw [show (Wz 5).1=0 from rfl,h5];simp
  · rw [show (Wz 6).1=1 from rfl,h3];simp
  · rw [show (Wz 7).1=1 from rfl,h3];simp
  · rw [show (Wz 8).1=48 from rfl,h6];simp
def partsR (k:Int):ZX:=⟨decide (Vn k),decide (k=1),decide (k=1),decide (k=2),decide (WN k),decide (Wr k)⟩
end Go.Esp
namespace Go.Esp
section
variable {P:Program} {n:Sh} {ops:Array Oper} {Q:Exit→Act→World→Prop} {rest:List Nat} {M M':Mem} {H H' H0:Hp} {e:Env} {J S:World→Prop} {A:As} {i:Nat}
  {dst:Option Tmp} {d:Tmp} {op:Op} {ty:TypeId} {pos:String} {af:Array Edge} {gd:Option (Nat×Bool)}
theorem X_cap_sl {t E sz by_:Nat} {x:Operand} {a:Option Addr} {l c:Nat} {ats:Array TypeId} (hi:ops[i]?=some ⟨some d,.call ⟨.builtin .cap,#[x],ats⟩,ty,pos,af,gd⟩) (hg:want ops e gd=some true)
    (hx:ev e x=some (.slice a l c)) (hat:ats[0]?=some t) (ht:slOf P t=some (E,sz,by_)) (hd:Nat.ble (d+1) n.sz=true) (hk:XD P n ops Q rest J A ((d,.int .i64 (c:Int))::e)):XD P n ops Q (i::rest) J A e :=
  VS hi rfl hg (fun a' w ha _=>XZ (by
    obtain ⟨it,hu,_⟩:=Wv ht
    simp only [execOp,resolve]
    simp [invoke,builtin,Builtin.cap_,ha.ev hx,hat,run_underlying hu,goInt])) (fun a ha=>ha.put hd _) hk
theorem C_cutX {α:Type} {c rest:Code} (pre:α→Env) (F:α→Prop) {e0:Env} (hp:Pick e e0)
    (h1:C P n c (Exit.then (fun a w=>∃ x,F x∧Sat n (pre x++e0) a∧S w) Q) S e) (h2:∀ x,F x→C P n rest Q S (pre x++e0)) :
    C P n c (Exit.then (rest.wpIn (Fr n.ro) 0 P Q) Q) S e:=by
  intro a w ha hw
  refine wpIn_mono (h1 a w ha hw) fun x a' w' hx=>?_
  cases x with
  | normal =>
    obtain ⟨x,hF,hs,hw2⟩:=hx
    exact h2 x hF a' w' hs hw2
  | _=>exact hx
theorem VG {α:Type} {S':World→Prop} {pre:α→Env} {F:α→Prop} {e0 e1:Env} (x:α) (hF:F x) (hp:Pick e1 (pre x++e0)) (hS:∀ w,S' w→S w) :
    K n (Exit.then (fun a w=>∃ x,F x∧Sat n (pre x++e0) a∧S w) Q) .normal S' e1:=fun a w ha hw=>⟨x,hF,ha.pick hp,hS w hw⟩
end
end Go.Esp
namespace Go.Esp
theorem OSl.extend {T sz b c:Nat} {hs:Hp} {rows:List Segs} (h:OSl T sz (.slice (some ⟨b,0,none⟩) rows.length c) hs rows) {m:Nat} (hm:rows.length+m≤c) :
    ∃ ext:List Segs,ext.length=m∧OSl T sz (.slice (some ⟨b,0,none⟩) (rows.length+m) c) hs (rows++ext):=by
  obtain ⟨cur,rfl,_,hl,h2,h3,h4,h5⟩:=h.inv
  have key:∀ (m off:Nat) ,off+m * sz≤cur.size→∃ ext:List Segs,ext.length=m∧Esp.lens sz ext∧Ye ext=(cur.toList.drop off).take (m * sz):=by
    intro m
    induction m with
    | zero=>intro off _;exact ⟨[],rfl,fun r hr=>(by cases hr),by simp [Ye]⟩
    | succ m ih =>
      intro off ho
      have e:(m+1) * sz=sz+m * sz:=by rw [Nat.add_mul];omega
      obtain ⟨ext,g1,g2,g3⟩:=ih (off+sz) (by omega)
      refine ⟨ones ((cur.toList.drop off).take sz)::ext,by simp [g1],fun r hr=>?_,?_⟩
      · rcases List.mem_cons.1 hr with rfl|hr
        · rw [← Segs.cells_length,ones_cells,List.length_take,List.length_drop,Array.length_toList];omega
        · exact g2 r hr
      · simp only [Ye,ones_cells,g3,e]
        rw [List.take_add,List.drop_drop]
  obtain ⟨ext,g1,g2,g3⟩:=key m (rows.length * sz) (by rw [h4,← Nat.add_mul];exact Nat.mul_le_mul_right _ hm)
  refine ⟨ext,g1,?_⟩
  have hlen:(rows++ext).length=rows.length+m:=by simp [g1]
  rw [← hlen]
  refine OSl.own b c (rows++ext) cur (hl.append g2) (by omega) h3 h4 ?_
  rw [hlen,Nat.add_mul,List.take_add,h5,← g3,XK]
theorem OSl.as9 {T sz:Nat} {v:Value} {hs:Hp} {rows rows':List Segs} (h:OSl T sz v hs rows) (e:rows=rows'):OSl T sz v hs rows':=e ▸ h
section
variable {P:Program} {n:Sh} {ops:Array Oper} {Q:Exit→Act→World→Prop} {rest:List Nat} {M M':Mem} {H H' H0:Hp} {e:Env} {J S:World→Prop} {A:As} {i:Nat}
  {dst:Option Tmp} {d:Tmp} {op:Op} {ty:TypeId} {pos:String} {af:Array Edge} {gd:Option (Nat×Bool)}
theorem X_copyP {t t' E sz by_:Nat} {x y:Operand} {b k l' c' l2 c2 c l off:Nat} {ad:Addr} {hs:Hp} {rows news:List Segs} {ats:Array TypeId} (hi:ops[i]?=some ⟨some d,.call ⟨.builtin .copy,#[x,y],ats⟩,ty,pos,af,gd⟩) (hg:want ops e gd=some true)
    (hx:ev e x=some (.slice (some ⟨b,off,Option.none⟩) l' c')) (hy:ev e y=some (.slice (some ad) l2 c2)) (hat:ats=#[t,t']) (ht:slOf P t=some (E,sz,by_)) (hoff:off=k * sz) (hkl:k+l'≤rows.length) (ho:OSl E sz (.slice (some ⟨b,0,Option.none⟩) l c) hs rows) (hH:Rem hs H H0)
    (hsrc:Src M H sz (.slice (some ad) news.length c2) news) (hm:news.length=min l2 l') (hd:Nat.ble (d+1) n.sz=true)
    (hk:∀ hs',OSl E sz (.slice (some ⟨b,0,Option.none⟩) rows.length c) hs' (rows.take k++news++rows.drop (k+news.length))→XD P n ops Q rest (St M (hs'++H0)) ⟨M,hs'++H0⟩ ((d,.int .i64 (news.length:Int))::e)) (hnw:n.wrs.contains i=false:=by rfl):XD P n ops Q (i::rest) J ⟨M,H⟩ e:=by
  subst hat hoff
  refine X_mut hi rfl hg (fun a w ha hw=>?_) hnw
  obtain ⟨it,hu,hit,rfl,rfl⟩:=Wv ht
  obtain ⟨hln,h1,ad',c2',e9,hsr⟩:=hsrc
  obtain ⟨rfl,_,rfl⟩:ad=ad'∧True∧c2=c2':=by simpa using e9
  obtain ⟨cur,rfl,rfl,hlr,hcap,hcm,hcs,htake⟩:=ho.inv
  have hst:=hw.perm hH.perm
  have hb:=hst.own b _ (List.mem_append_left _ (.head _))
  have hcl:(Ye news).length=news.length * it.size:=Xj hln
  have hle:k * it.size+news.length * it.size≤rows.length * it.size:=by rw [← Nat.add_mul];exact Nat.mul_le_mul_right _ (by omega)
  have hrc:rows.length * it.size≤c * it.size:=Nat.mul_le_mul_right _ hcap
  have hload:=run_loadCells_list (P:=P) w ad (Ye news) (fun j v hj=>hsr w hw j v hj)
  have hstore:=run_storeCells_at P b (k * it.size) E (Ye news) 0 cur w hb (by omega) h1
  have ho':=rowSplice (T:=E) (b:=b) (k:=k) (news:=news) hlr hln hcap hcm hcs htake (by omega)
  rw [hcl] at hload
  have hr:(Builtin.copy_ #[t,t'] ty #[.slice (some ⟨b,k * it.size,Option.none⟩) l' c',.slice (some ad) l2 c2]).run P w=.ok (goInt news.length) (w.setRow b (cur.toList.take (k * it.size)++Ye news++cur.toList.drop (k * it.size+(Ye news).length)).toArray):=by
    have e9:Nat.min l2 l'=news.length:=hm.symm
    simp [Builtin.copy_,run_underlying hu,Builtin.lenOf,Builtin.firstCells,sizeOf,typeInfo,hit,e9,hload]
    have h5:=hstore
    simp only [Nat.add_zero,List.append_assoc] at h5
    rw [h5];rfl
  unfold Oper.does
  have:(execOp a.eval ⟨some d,.call ⟨.builtin .copy,#[x,y],#[t,t']⟩,ty,pos,af,gd⟩).run P w=.ok (.value (.int .i64 (news.length:Int))) (w.setRow b (cur.toList.take (k * it.size)++Ye news++cur.toList.drop (k * it.size+(Ye news).length)).toArray):=by
    simp only [execOp,resolve]
    simp only [invoke,builtin]
    have e1:#[x,y].map a.eval=#[.slice (some ⟨b,k * it.size,Option.none⟩) l' c',.slice (some ad) l2 c2]:=by simp [ha.ev hx,ha.ev hy]
    rw [e1]
    rw [Sem.run_bind]
    show (Result.ok _ w).andThen _=_
    rw [Result.andThen_ok]
    exact Wx hr
  rw [this]
  refine ⟨⟨M,_⟩,_,?_,ha.put hd _,hk _ ho'⟩
  exact hst.upd .head (setRow_heap w b cur _ E _ hb) (fun c hc x hx=>by rw [setRow_other w b c _ hc];exact hx) (Vo.refl _)
theorem X_appendZO {t tn E sz by_ j k c:Nat} {z:Value} {kn:IntKind} {x y:Operand} {b l:Nat} {hs:Hp} {rows:List Segs} (hi:ops[i]?=some ⟨some d,.call ⟨.builtin .append,#[x,y],#[t,tn]⟩,ty,pos,af,gd⟩) (hg:want ops e gd=some true)
    (hx:ev e x=some (.slice (some ⟨b,0,Option.none⟩) j c)) (hy:ev e y=some (.int .i64 (k:Int))) (ht:slOf P t=some (E,sz,by_)) (htn:P.underlying tn=some (.int kn)) (hz:Wa P E=some z) (hzs:z.cells.size=sz) (hsz:Nat.ble 1 sz=true)
    (ho:OSl E sz (.slice (some ⟨b,0,Option.none⟩) l c) hs rows) (hH:Rem hs H H0) (hj:j≤rows.length) (h0:0<k) (hgr:c<j+k) (hk9:j+k≤16777216) (hkb:(j+k) * by_≤140737488355328) (hd:Nat.ble (d+1) n.sz=true)
    (hk:∀ (b' c':Nat) hs' (zs:List Segs),zs.length=k→OSl E sz (.slice (some ⟨b',0,Option.none⟩) (j+k) c') hs' (rows.take j++zs)→XD P n ops Q rest (St M (hs'++H)) ⟨M,hs'++H⟩ ((d,.slice (some ⟨b',0,Option.none⟩) (j+k) c')::e)) (hnw:n.wrs.contains i=false:=by rfl):XD P n ops Q (i::rest) J ⟨M,H⟩ e:=by
  refine X_mut hi rfl hg (fun a w ha hw=>?_) hnw
  obtain ⟨it,hu,hit,rfl,rfl⟩:=Wv ht
  have hz':it.zero=some z:=by simpa [Wa,hit] using hz
  have hpos:1≤it.size:=Nat.le_of_ble_eq_true hsz
  obtain ⟨cur,rfl,_,hl,h2,h3,h4,h5⟩:=ho.inv
  have hst:=hw.perm hH.perm
  have hb:=hst.own b _ (List.mem_append_left _ (.head _))
  have hlt:Esp.lens it.size (rows.take j):=fun r hr=>hl r (List.mem_of_mem_take hr)
  have hjl:(rows.take j).length=j:=by simp;omega
  have hcell:=rowsCells_take hl hj
  have hole:(Ye (rows.take j)).length=j * it.size:=by rw [Xj hlt,hjl]
  have hold:=run_loadCells_list (P:=P) (w:=w.drew) ⟨b,0,Option.none⟩ (Ye (rows.take j)) (cellsAt (w:=w.drew) (b:=b) (off:=0) (n:=j * it.size) hb (by
    rw [List.drop_zero,hcell,← h5,List.take_take]
    congr 1
    have h6:j * it.size≤rows.length * it.size:=Nat.mul_le_mul_right _ hj
    omega))
  rw [hole] at hold
  have hr:=Lib.run_append_grow_zeros (P:=P) w t tn ty E it z .i64 kn hu htn hit hz' (some ⟨b,0,Option.none⟩) j c (Ye (rows.take j)) hold k h0 hpos hgr (by omega) (by
    have:k * it.bytes≤(j+k) * it.bytes:=Nat.mul_le_mul_right _ (by omega)
    omega) (growslice_fits hgr hkb)
  have hzsz:z.cells.size=it.size:=hzs
  have hge:=grownCap_ge w (j+k) c E
  have hcm:grownCap w (j+k) c E≤maxLen:=grownCap_le_maxLen w (j+k) c E (by simp only [maxLen];omega)
  obtain ⟨zs,hzl,hlz,hrz⟩:∃ zs:List Segs,zs.length=k∧Esp.lens it.size zs∧Ye zs=(Builtin.zeroCells z.cells k).toList:=by
    refine ⟨Vu (fun i=>z.cells[i % z.cells.size]!) it.size k,by simp [Vu],fun r hr=>?_,?_⟩
    · obtain ⟨q,_,rfl⟩:=List.mem_map.1 hr
      exact onesOf_len _ q it.size
    · rw [onesAll_cells];simp [Builtin.zeroCells,hzsz]
  have hlen:(rows.take j++zs).length=j+k:=by simp [hzl];omega
  have h0':St M H w.drew:=hw.heap rfl ⟨rfl,rfl,rfl,Nat.le_succ _⟩
  have h2':=h0'.alloc (.cells ((Ye (rows.take j)).toArray++Builtin.zeroCells z.cells k++Builtin.zeroCells z.cells (grownCap w (j+k) c E-(j+k))) E)
  have ho':OSl E it.size (.slice (some ⟨w.heap.size,0,none⟩) (j+k) (grownCap w (j+k) c E)) [(w.heap.size,.cells ((Ye (rows.take j)).toArray++Builtin.zeroCells z.cells k++Builtin.zeroCells z.cells (grownCap w (j+k) c E-(j+k))) E (0,0))] (rows.take j++zs):=by
    rw [← hlen] at hge hcm ⊢
    refine OSl.own _ _ _ _ (hlt.append hlz) hge hcm ?_ ?_
    · simp only [Array.size_append,List.size_toArray,size_zeroCells,hzsz,hole]
      rw [hlen] at hge ⊢
      rw [← Nat.add_mul,← Nat.add_mul];congr 1;omega
    · simp only [Array.toList_append]
      rw [← Xj (hlt.append hlz),XK,hrz]
      exact List.take_left
  unfold Oper.does
  have:(execOp a.eval ⟨some d,.call ⟨.builtin .append,#[x,y],#[t,tn]⟩,ty,pos,af,gd⟩).run P w=.ok (.value (.slice (some ⟨w.heap.size,0,none⟩) (j+k) (grownCap w (j+k) c E))) (w.drew.alloc (.cells ((Ye (rows.take j)).toArray++Builtin.zeroCells z.cells k++Builtin.zeroCells z.cells (grownCap w (j+k) c E-(j+k))) E)):=by
    simp only [execOp,resolve]
    simp only [invoke,builtin]
    have e1:#[x,y].map a.eval=#[.slice (some ⟨b,0,Option.none⟩) j c,.int .i64 (k:Int)]:=by simp [ha.ev hx,ha.ev hy]
    rw [e1]
    rw [Sem.run_bind]
    show (Result.ok _ w).andThen _=_
    rw [Result.andThen_ok]
    exact Wx hr
  rw [this]
  exact ⟨⟨M,_⟩,_,h2',ha.put hd _,hk _ _ _ zs hzl ho'⟩
theorem run_apart {tS tR E sz by_ b b' l c k lb cb la ca:Nat} {hs:Hp} {rows:List Segs} {cur:Array Value} {T:TypeId} {w:World} (ht:slOf P tS=some (E,sz,by_)) (ho:OSl E sz (.slice (some ⟨b,0,Option.none⟩) l c) hs rows) (hH:Rem hs H H0) (hv:(b',.cells cur T (0,0))∈H0) (hpos:0<c * sz) (hw:St M H w) :
    (Extern.SlicesOverlaps.overlaps #[tS,tS] #[tR] #[.slice (some ⟨b',0,Option.none⟩) la ca,.slice (some ⟨b,k,Option.none⟩) lb cb]).run P w=.ok (.bool false) w:=by
  obtain ⟨it,hu,hit,rfl,rfl⟩:=Wv ht
  obtain ⟨cu,rfl,_,hl,h2,h3,h4,h5⟩:=ho.inv
  have hst:=hw.perm hH.perm
  have hb:=hst.own b _ (List.mem_append_left _ (.head _))
  have hb':=hst.own b' _ (List.mem_append_right _ hv)
  have hne:b'≠b:=fun e=>by
    subst e
    have h:=hst.nodup
    rw [List.map_append,List.nodup_append] at h
    exact h.2.2 b' (by simp) b' (List.mem_map_of_mem hv) rfl
  refine Lib.run_overlaps_apart w tS tR E hu it.size (fun w=>run_sizeOf' hit) ⟨b',0,Option.none⟩ ⟨b,k,Option.none⟩ la ca lb cb hne T E cur.size cu.size ?_ ?_ (by omega) ?_ ?_
  · simp [World.shape?,hb']
  · simp [World.shape?,hb]
  · simp [World.frozen?,hb']
  · simp [World.frozen?,hb']
end
theorem Fs.foE {P:Program} {f:FuncId} {vs:List Value} {M:Mem} {R:Value→Prop} (h:Fs P f vs M R) (Hin:Hp):Fo P f vs M Hin (fun M' v=>M'=M∧R v):=fun H w hw =>
  (h (Hin++H) w hw).mono fun _ _ ⟨v,he,hs,hr⟩=>⟨v,M,he,Mem.le.refl M,hs,rfl,hr⟩
end Go.Esp
namespace Go.Esp
section
variable {P:Program} {n:Sh} {ops:Array Oper} {Q:Exit→Act→World→Prop} {rest:List Nat} {M M':Mem} {H H' H0:Hp} {e:Env} {J S:World→Prop} {A:As} {i:Nat}
  {dst:Option Tmp} {d:Tmp} {op:Op} {ty:TypeId} {pos:String} {af:Array Edge} {gd:Option (Nat×Bool)}
theorem C_is {c:Code} {Qx:Exit→Act→World→Prop} {Sx:World→Prop} (s:Nat) {u v:Value} (hs:get e s=some u) (h:u=v) (hk:C P n c Qx Sx ((s,v)::e)):C P n c Qx Sx e:=fun a w ha hw=>hk a w (ha.more (h ▸ hs)) hw
theorem C_part {c:Code} {Qx:Exit→Act→World→Prop} {Sx:World→Prop} (s:Nat) {b:Bool} (hs:get e s=some (.bool b)) (ht:b=true→C P n c Qx Sx ((s,.bool true)::e)) (hf:b=false→C P n c Qx Sx ((s,.bool false)::e)):C P n c Qx Sx e:=by
  cases b with
  | true=>exact C_is s hs rfl (ht rfl)
  | false=>exact C_is s hs rfl (hf rfl)
end
end Go.Esp
namespace Go.Esp
section
variable {P:Program} {ops:Array Oper} {Q:Exit→Act→World→Prop} {M M':Mem} {H H' H0:Hp} {e:Env}
theorem Xq {m:Nat} {ds:List Deferred} {ro:Option Nat} {id:Nat} {l:List Nat} (ws:List Nat) (hl:List.range ops.size=l) (h:XD P ⟨m,ds,ro,ws⟩ ops Q l (St M H) ⟨M,H⟩ e):C P ⟨m,ds,ro,[]⟩ (.region id ops false) Q (St M H) e :=
  fun a w ha hw=>wpIn_region (wpOps_of_WD _ (St M H) ⟨M,H⟩ a w (fun _ h=>h) hw (hl ▸ h (fun _ h=>h) a ⟨ha.size,ha.defers,ha.slot⟩))
theorem X_fhVW {n:Sh} {rest:List Nat} {J:World→Prop} {i:Nat} {dst:Option Tmp} {ty:TypeId} {pos:String} {af:Array Edge} {gd:Option (Nat×Bool)} {f:FuncId} {g:Operand} {xs:List Operand} {ats:Array TypeId} {vs caps:List Value} {Hin Hr:Hp} {R:Mem→Value→Hp→Prop} (hi:ops[i]?=some ⟨dst,.call ⟨.value g,xs.toArray,ats⟩,ty,pos,af,gd⟩) (hcl:clOf P (.call ⟨.value g,xs.toArray,ats⟩)=.eff) (hws:n.wrs.contains i=true) (hg:want ops e gd=some true)
    (hf:okFn P f=true) (hgv:ev e g=some (.func (.func f) #[] caps.toArray)) (hx:evs e xs=some vs) (hc:Fh P f (vs++caps) M Hin R) (hH:Rem Hin H Hr)
    (hd:∀ a v,Sat n e a→Sat n (putE dst v e) (a.put dst v))
    (hk:∀ v M' Hout,M.le M'→R M' v Hout→XD P n ops Q rest (St M' (Hout++Hr)) ⟨M',Hout++Hr⟩ (putE dst v e)):XD P n ops Q (i::rest) J ⟨M,H⟩ e:=by
  obtain ⟨fn,h1,h2,h3⟩:=Va hf
  refine X_mutW hi hcl hws hg (fun a w ha hw=>does_callV h1 h2 h3 (ha.ev hgv) (by simpa using ha.evs hx) ?_)
  exact (hc Hr w (hw.perm hH.perm)).mono fun e' w' ⟨v,M',Hout,he,hm,hs,hr⟩=>⟨v,he,⟨M',Hout++Hr⟩,_,hs,hd a v ha,hk v M' Hout hm hr⟩
end
end Go.Esp
namespace Go.Esp
section
variable {P:Program} {ops:Array Oper} {cl:Nat→Cls} {Q:Exit→Act→World→Prop} {md:Region.Mode}
def okPairP (ops:Array Oper) (cl:Nat→Cls) (B:Array Nat) (x i:Nat):Bool :=
  !(B.getD x 0).testBit i && (x != i) && ((B.getD i 0).testBit x || (match ops[x]?,ops[i]? with|some ox,some oi=>ox.apart ops oi && mayPass (cl x) (cl i)|_,_=>false))
def okListP (ops:Array Oper) (cl:Nat→Cls) (B:Array Nat):List Nat→Bool
  | []=>true
  | x::r=>r.all (fun i=>okPairP ops cl B x i) && okListP ops cl B r
def okRegionP (ops:Array Oper) (cl:Nat→Cls) (B:Array Nat) (l0:List Nat):Bool :=
  Region.noSelect ops && okEdges ops B && okListP ops cl B l0 && (List.range ops.size).all (fun i=>l0.contains i) && l0.length == ops.size && l0.all (fun i=>decide (i<ops.size))
def leftP (l0:List Nat) (listed:Array Bool):List Nat:=l0.filter fun i=>!listed.getD i true
end
end Go.Esp
namespace Go.Esp
section
variable {P:Program} {ops:Array Oper} {Q:Exit→Act→World→Prop} {M M':Mem} {H H' H0:Hp} {e:Env}
theorem X_fhW2 {n:Sh} {rest:List Nat} {J:World→Prop} {i:Nat} {dst:Option Tmp} {ty:TypeId} {pos:String} {af:Array Edge} {gd:Option (Nat×Bool)} {f:FuncId} {xs:List Operand} {ats:Array TypeId} {vs:List Value} {Hin Hin2 H1 Hr:Hp} {R:Mem→Value→Hp→Prop} (hi:ops[i]?=some ⟨dst,.call ⟨.value (.func f),xs.toArray,ats⟩,ty,pos,af,gd⟩) (hws:n.wrs.contains i=true) (hg:want ops e gd=some true)
    (hf:okFn P f=true) (hx:evs e xs=some vs) (hc:Fh P f vs M (Hin++Hin2) R) (hH:Rem Hin H H1) (hH2:Rem Hin2 H1 Hr)
    (hd:∀ a v,Sat n e a→Sat n (putE dst v e) (a.put dst v))
    (hk:∀ v M' Hout,M.le M'→R M' v Hout→XD P n ops Q rest (St M' (Hout++Hr)) ⟨M',Hout++Hr⟩ (putE dst v e)):XD P n ops Q (i::rest) J ⟨M,H⟩ e:=by
  obtain ⟨fn,h1,h2,h3⟩:=Va hf
  have hP:H.Perm ((Hin++Hin2)++Hr):=(hH.perm.trans (hH2.perm.append_left Hin)).trans (List.append_assoc _ _ _ ▸ List.Perm.refl _)
  refine X_mutW hi rfl hws hg (fun a w ha hw=>does_call h1 h2 h3 (by simpa using ha.evs hx) ?_)
  exact (hc Hr w (hw.perm hP)).mono fun e' w' ⟨v,M',Hout,he,hm,hs,hr⟩=>⟨v,he,⟨M',Hout++Hr⟩,_,hs,hd a v ha,hk v M' Hout hm hr⟩
end
end Go.Esp
namespace Go.Esp
section
variable {P:Program} {n:Sh} {ops:Array Oper} {Q:Exit→Act→World→Prop} {rest:List Nat} {M M':Mem} {H H' H0:Hp} {e:Env} {J:World→Prop} {i:Nat} {ty:TypeId} {pos:String} {af:Array Edge} {gd:Option (Nat×Bool)}
theorem drop_all:∀ (r:Segs),r.all (fun s=>Nat.ble 1 s.len)=true→Segs.drop r (Segs.len r)=some []
  | [],_=>rfl
  | s::r,h=>by
    simp only [List.all_cons,Bool.and_eq_true] at h
    have h1:=Nat.le_of_ble_eq_true h.1
    obtain ⟨k,hk⟩:∃ k,s.len=k+1:=⟨s.len-1,by omega⟩
    have h2:=drop_all r h.2
    have e:Segs.len (s::r)=k+Segs.len r+1:=by simp only [Segs.len];omega
    have hb:Nat.ble s.len (k+Segs.len r+1)=true:=Nat.ble_eq_true_of_le (by omega)
    rw [e];unfold Segs.drop
    rw [hb,hk]
    show Segs.drop r (k+Segs.len r+1-(k+1))=some []
    rw [show k+Segs.len r+1-(k+1)=Segs.len r by omega];exact h2
theorem put_all {r t:Segs} {m:Nat} (h:r.all (fun s=>Nat.ble 1 s.len)=true) (hr:Segs.len r=m) (ht:Segs.len t=m):Segs.put r 0 t=some t:=by
  have e:Segs.put r 0 t=match Segs.drop r (Segs.len t) with
    | some u=>some (t++u)
    | none=>none:=by cases r <;> rfl
  rw [e,ht,← hr,drop_all r h];simp
theorem imO_nil:imO (.map #[] 0) []:=⟨#[],0,rfl,rfl⟩
theorem Wy {t k el:TypeId} {x y u:Operand} {b:Nat} {z:Int} {v:Value} {o:Obj} {l:IM} (hi:ops[i]?=some ⟨none,.insert t x y u,ty,pos,af,gd⟩) (hg:want ops e gd=some true)
    (hx:ev e x=some (.map (some b))) (hy:ev e y=some (.int .i64 z)) (hu:ev e u=some v) (ht:mapOf P t=some (k,el)) (ho:imO o l) (hb:(b,o)∈H)
    (hk:∀ o',imO o' (Vr l z v)→∃ H2,Upd b o o' H H2∧XD P n ops Q rest (St M H2) ⟨M,H2⟩ e) (hnw:n.wrs.contains i=false:=by rfl):XD P n ops Q (i::rest) J ⟨M,H⟩ e:=by
  refine X_mut hi rfl hg (fun a w ha hw=>?_) hnw
  have hb:=hw.own b o hb
  obtain ⟨o',hr,ho'⟩:=run_mapUpdate' (P:=P) (z:=z) (v:=v) ht hb ho
  unfold Oper.does
  have:(execOp a.eval ⟨none,.insert t x y u,ty,pos,af,gd⟩).run P w=.ok .skip { w with heap:=w.heap.setIfInBounds b o' }:=by
    simp only [execOp,ha.ev hx,ha.ev hy,ha.ev hu]
    rw [YJ hr];rfl
  rw [this]
  obtain ⟨H2,hH,hk⟩:=hk o' ho'
  exact ⟨⟨M,H2⟩,e,St.upd hw hH (setIn_self hb) (fun c hc q hq=>by rw [setIn_other hc];exact hq) (Vo.refl _),ha,hk⟩
end
end Go.Esp
namespace Go.Esp
section
variable {P:Program} {n:Sh} {ops:Array Oper} {Q:Exit→Act→World→Prop} {rest:List Nat} {M M':Mem} {H H' H0:Hp} {e:Env} {J S:World→Prop} {A:As} {i:Nat}
  {dst:Option Tmp} {d:Tmp} {op:Op} {ty:TypeId} {pos:String} {af:Array Edge} {gd:Option (Nat×Bool)}
theorem Xy {t:TypeId} {x y:Operand} {b:Nat} {agg:Bool} {r q:Segs} {T:TypeId} {v:Value} (hl:lay P t=some (agg,78)) (hk:XD P n ops Q rest (St M H') ⟨M,H'⟩ e) (hi:ops[i]?=some ⟨none,.store t x y,ty,pos,af,gd⟩:=by exact rfl) (hg:want ops e gd=some true:=by exact rfl) (hx:ev e x=some (.pointer (some ⟨b,0,none⟩)):=by exact rfl) (hy:ev e y=some v:=by exact rfl) (hp:Vf v q:=by constructor) (hq:flat q:=by (try simp only [cat,List.cons_append,List.nil_append,List.append_nil]);(repeat (first|exact XA|refine XC ?_|(refine YF ?_ ?_;rfl)));done) (hu:Upd b (rowO r T) (rowO q T) H H':=by repeat first|exact Upd.head|apply Upd.tail|apply Upd.over) (hn:Segs.len q=78:=by simp only [ZD.segs,ZL.segs,ZO.segs,ZM.segs,Yd.segs,ZQ.segs,YI.segs,ZX.segs,cat,List.append_eq,List.cons_append,List.nil_append,List.append_nil,Segs.len,Seg.len,Yq]) (ha:r.all (fun s=>Nat.ble 1 s.len)=true:=by exact rfl) (hr:Segs.len r=78:=by simp only [ZD.segs,ZL.segs,ZO.segs,ZM.segs,Yd.segs,ZQ.segs,YI.segs,ZX.segs,cat,List.append_eq,List.cons_append,List.nil_append,List.append_nil,Segs.len,Seg.len,Yq]) (hnw:n.wrs.contains i=false:=by rfl):XD P n ops Q (i::rest) J ⟨M,H⟩ e :=
  X_store hi hg hx hy hp hq hu hl hn (put_all ha hr hn) hk hnw
end
end Go.Esp
namespace Go.Esp
section
variable {P:Program} {n:Sh} {ops:Array Oper} {Q:Exit→Act→World→Prop} {rest:List Nat} {M M':Mem} {H H' H0:Hp} {e:Env} {J S:World→Prop} {A:As} {i:Nat}
  {dst:Option Tmp} {d:Tmp} {op:Op} {ty:TypeId} {pos:String} {af:Array Edge} {gd:Option (Nat×Bool)}
def byteVs (s:ByteArray):List Value:=s.data.toList.map fun b=>.int .u8 (b.toNat:Int)
theorem X_fsV {f:FuncId} {g:Operand} {xs:List Operand} {ats:Array TypeId} {vs:List Value} {R:Value→Prop} (hi:ops[i]?=some ⟨some d,.call ⟨.value g,xs.toArray,ats⟩,ty,pos,af,gd⟩) (hcl:clOf P (.call ⟨.value g,xs.toArray,ats⟩)=.eff) (hg:want ops e gd=some true)
    (hf:okFn P f=true) (hgv:ev e g=some (.func (.func f) #[] #[])) (hx:evs e xs=some vs) (hc:Fs P f vs M R) (hd:Nat.ble (d+1) n.sz=true)
    (hk:∀ v,R v→XD P n ops Q rest J ⟨M,H⟩ ((d,v)::e)):XD P n ops Q (i::rest) J ⟨M,H⟩ e:=by
  obtain ⟨fn,h1,h2,h3⟩:=Va hf
  refine X_eff hi hcl hg (fun a F w ha hw=>does_callV (caps:=[]) h1 h2 h3 (ha.ev hgv) (by simpa using ha.evs hx) ?_)
  have:=hc (F++H) w hw
  rw [List.append_nil]
  exact this.mono fun e' w' ⟨v,he,hs,hr⟩=>⟨v,he,⟨M,H⟩,_,hs,fun _ h=>h,ha.put hd v,hk v hr⟩
def arOfN (P:Program) (t:TypeId):Option (Nat×TypeId×Nat):=match P.underlying t with
  | some (.array k el)=>match P.info? el with
    | some i=>some (k,el,i.size)
    | none=>none
  | _=>none
def u8R (n:Nat):Segs:=[.one (.int .u8 (n:Int))]
end
def natsOf (s:ByteArray):List Nat:=s.data.toList.map fun b=>b.toNat
def u32R (n:Nat):Segs:=[.one (.int .u32 (n:Int))]
end Go.Esp
namespace Go.Proofs.YtajmnjefajknoaaGreat
open Go.Esp
theorem F.foff32_0:foff Tryz.prog 32 0=some 0:=by kernel_rfl
theorem F.foff32_1:foff Tryz.prog 32 1=some 44:=by kernel_rfl
theorem F.foff32_10:foff Tryz.prog 32 10=some 53:=by kernel_rfl
theorem F.foff32_13:foff Tryz.prog 32 13=some 75:=by kernel_rfl
theorem F.foff32_14:foff Tryz.prog 32 14=some 76:=by kernel_rfl
theorem F.foff32_15:foff Tryz.prog 32 15=some 77:=by kernel_rfl
theorem F.foff32_2:foff Tryz.prog 32 2=some 45:=by kernel_rfl
theorem F.foff32_3:foff Tryz.prog 32 3=some 46:=by kernel_rfl
theorem F.foff32_4:foff Tryz.prog 32 4=some 47:=by kernel_rfl
theorem F.foff32_6:foff Tryz.prog 32 6=some 49:=by kernel_rfl
theorem F.foff32_8:foff Tryz.prog 32 8=some 51:=by kernel_rfl
theorem F.lay30:lay Tryz.prog 30=some (false,1):=by kernel_rfl
theorem F.lay32:lay Tryz.prog 32=some (true,78):=by kernel_rfl
theorem F.lay4:lay Tryz.prog 4=some (false,1):=by kernel_rfl
theorem F.lay91:lay Tryz.prog 91=some (false,1):=by kernel_rfl
theorem F.ok120:okFn Tryz.prog 120=true:=by kernel_rfl
theorem F.ok69:okFn Tryz.prog 69=true:=by kernel_rfl
theorem F.ok71:okFn Tryz.prog 71=true:=by kernel_rfl
theorem F.ok72:okFn Tryz.prog 72=true:=by kernel_rfl
theorem F.ok74:okFn Tryz.prog 74=true:=by kernel_rfl
theorem F.zero91:Wa Tryz.prog 91=some (.nilFunc):=by kernel_rfl
theorem btw_ok (M:Mem) (x:Int) (lo:Int) (hi:Int):Fs Tryz.prog 69 [.int .i64 x,.int .i64 lo,.int .i64 hi] M (fun v=>v=Value.bool (decide (lo≤x∧x≤hi))):=by
  refine Xm Tryz.func69 rfl Tryz.ntmps69 rfl ?_;intro H
  refine ZI (Zm (l:=[0]) rfl ?_);refine ZB ?_;refine Zo (Zn (ZI (Zm (l:=[0,1,2,3,4,5,6,7,8]) rfl ?_)))
  iterate 2 refine Zv ?_
  refine Yz ?_;refine Zv ?_
  refine Yh 10 rfl (fun hc1=>?_) (fun hc1=>?_)
  ·replace hc1:=dT hc1
   iterate 2 refine Zv ?_
   refine Yz ?_;refine ZK ?_;refine ZB ?_;refine Zo (Zn (Y_pk [6] ?_));refine Yg ?_
   refine Ya (.inr rfl) (.tmp rfl .nil) (fun w hw=>?_)
   refine ⟨_,rfl,(hw.c),?_⟩
   clear hw
   refine congrArg Value.bool ?_
   exact decide_eq_decide.2 ⟨fun h9=>⟨by omega,h9⟩,fun h9=>h9.2⟩
  ·replace hc1:=dF hc1
   iterate 3 refine ZU ?_
   refine ZK ?_;refine ZB ?_;refine Zo (Zn (Y_pk [6] ?_));refine Yg ?_
   refine Ya (.inr rfl) (.tmp rfl .nil) (fun w hw=>?_)
   refine ⟨_,rfl,(hw.c),?_⟩
   clear hw
   refine congrArg Value.bool ?_
   exact (decide_eq_false (fun h9=>by omega)).symm
theorem IndexFI_rd (M:Mem) (Hin:Hp) (l:Sl Int) (g:FuncId) (caps:List Value) (p:Int→Bool) (hl:RdS M Hin l.a (l.l.map (oneI .i64)) 1) (bl:l.l.length≤9223372036854775807) (hok:okFn Tryz.prog g=true) (hc:∀ x∈l.l,Fo Tryz.prog g ([.int .i64 x]++caps) M Hin (fun M' v=>M'=M∧v=.bool (p x))):Fo Tryz.prog 120 [l.val,.func (.func g) #[] caps.toArray] M Hin (fun M' v=>M'=M∧v=.int .i64 (idxF p l.l)):=by
  have nl:(l.l.map (oneI .i64)).length=l.l.length:=List.length_map ..
  refine WT Tryz.func120 rfl Tryz.ntmps120 rfl ?_;intro H
  have hrd:=hl.app H
  refine ZI (Zm (l:=[0]) rfl ?_);refine ZB ?_;refine Zo (Zn ?_)
  iterate 2 refine ZI ?_
  refine Zm (l:=[0,1,2]) rfl ?_;refine Zv ?_;refine YX F.elem30 ?_;refine Zv ?_;refine Zo (Zn (Y_pk [8,7,4,0,1] ?_));refine Xd (Y_pk [8,7,4,0,1] ?_);refine WH (.succ .zero) (fun (k:Nat) z=>z=[(8,.int .i64 (k:Int))]∧k≤l.l.length∧(∀ j (h:j<k) (h2:j<l.l.length),p l.l[j]=false)) (fun k=>l.l.length-k) (0) (⟨rfl,by omega,by (intro j hj;omega)⟩) ?_
  rintro k _ ⟨rfl,hk,hI⟩
  refine ZI (Zm (l:=[0]) rfl ?_);refine Yz ?_;refine Zo (Zn (ZI ?_))
  refine Yx rfl (fun hc1=>?_) (fun hc1=>?_)
  ·skip
   replace hc1:=dT hc1
   refine Yv (Zn (ZI (Xd (ZI (Zm (l:=[0,1]) rfl ?_)))));refine Zv ?_;refine ZB ?_;refine Zo (Zn (ZI (Zm (l:=[0,1,2,3,4,5]) rfl ?_)))
   iterate 3 refine Zv ?_
   refine YR rfl rfl rfl rfl F.elem30 (by rfl) (by omega) (by exact RdS.plain (by assumption) (by (simp;omega))) rfl ?_;refine X_load_rd rfl rfl rfl (by assumption) (by exact XW (by omega)) F.lay3 rfl rfl rfl ?_;refine X_foV rfl rfl rfl hok rfl rfl (hc _ (List.getElem_mem (n:=k) (by omega))) (Rem.here _) (YA rfl) ?_
   rintro _ M1 _ ⟨hM1,rfl⟩;subst M1
   refine Zo (Zn ?_)
   refine Yx rfl (fun hc2=>?_) (fun hc2=>?_)
   ·skip
    have hP:=hc2
    refine ZI (Zm (l:=[0,1]) rfl ?_);refine Zv ?_;refine ZB ?_;refine Zo (Zn (Yg (Xi ?_)))
    iterate 2 refine YG ?_
    refine Xi (YG ?_)
    refine Ya (.inr rfl) (.tmp rfl .nil) (fun w hw=>?_)
    refine ⟨_,M,rfl,Mem.le.refl M,hw.c,rfl,?_⟩
    refine congrArg (Value.int .i64) ?_
    exact (idxF_at (by omega) (fun j hj=>hI j hj _) hP).symm
   ·skip
    have hP:=hc2
    refine Yv (XV (Zn (Zm (l:=[0,1]) rfl ?_)));refine XN rfl rfl rfl rfl rfl (by exact Xn (by decide) (by omega)) rfl ?_;refine Zv ?_;refine Zo ?_;refine WC (a':=[(8,_)]) (k+1) (.cons (k:=8) rfl (.cons (k:=7) rfl (.cons (k:=4) rfl (.cons (k:=0) rfl (.cons (k:=1) rfl (.nil)))))) (fun w hw=>by first|exact hw|exact hw.c) ?_ ?_
    ·refine ⟨rfl,by omega,?_⟩
     (intro j hj hj2;rcases Nat.lt_or_ge j k with h9|h9;exact hI j h9 hj2;obtain rfl:j=k:=(by omega);simp_all)
    ·omega
  ·skip
   replace hc1:=dF hc1
   refine XS ?_
   iterate 2 refine XM ?_
   refine Wl (Zn (Y_pk [4] ?_));refine ZI (Zm (l:=[0]) rfl ?_);refine ZB ?_;refine Zo (Zn (Yg ?_))
   refine Ya (.inr rfl) (.tmp rfl .nil) (fun w hw=>?_)
   refine ⟨_,M,rfl,Mem.le.refl M,hw.c,rfl,?_⟩
   refine congrArg (Value.int .i64) ?_
   exact (idxF_none (fun j hj=>hI j (by omega) hj)).symm
theorem ContainsFI_rd (M:Mem) (Hin:Hp) (l:Sl Int) (g:FuncId) (caps:List Value) (p:Int→Bool) (hl:RdS M Hin l.a (l.l.map (oneI .i64)) 1) (bl:l.l.length≤9223372036854775807) (hok:okFn Tryz.prog g=true) (hc:∀ x∈l.l,Fo Tryz.prog g ([.int .i64 x]++caps) M Hin (fun M' v=>M'=M∧v=.bool (p x))):Fo Tryz.prog 71 [l.val,.func (.func g) #[] caps.toArray] M Hin (fun M' v=>M'=M∧v=.bool (l.l.any p)):=by
  refine WT Tryz.func71 rfl Tryz.ntmps71 rfl ?_;intro H
  refine ZI (Zm (l:=[0]) rfl ?_);refine ZB ?_;refine Zo (Zn (ZI (Zm (l:=[0,1,2,3,4]) rfl ?_)))
  iterate 2 refine Zv ?_
  refine X_fo rfl rfl F.ok120 rfl (IndexFI_rd _ Hin ⟨_,_,_⟩ g caps p hl bl hok hc) (by repeat first|exact Rem.here _|exact Rem.two|apply Rem.skip|apply Rem.over) (YA rfl) ?_
  rintro _ M1 _ ⟨hM1,rfl⟩;subst M1
  refine Yz ?_;refine ZB ?_;refine Zo (Zn (Y_pk [4] ?_));refine Yg ?_
  refine Ya (.inr rfl) (.tmp rfl .nil) (fun w hw=>?_)
  exact ⟨_,M,rfl,Mem.le.refl M,hw.c,rfl,congrArg Value.bool idxF_nn⟩
theorem avo_ok (M:Mem) (b:Nat) (a:Int):Fo Tryz.prog 72 ([.int .i64 a]++[.pointer (some ⟨b,0,none⟩)]) M [(b,rowO [.one (.func (.func 69) #[] #[])] 91)] (fun M' v=>M'=M∧v=.bool (decide (¬(0≤a∧a≤999)))):=by
  refine WT Tryz.func72 rfl Tryz.ntmps72 rfl ?_;intro H
  refine ZI (Zm (l:=[0]) rfl ?_);refine ZB ?_;refine Zo (Zn (ZI (Zm (l:=[0,1,2,3,4]) rfl ?_)));refine ZH F.lay91 ?_;refine Zv ?_;refine X_fsV rfl rfl rfl F.ok69 rfl rfl (btw_ok M _ _ _) rfl ?_
  rintro _ rfl
  refine Xx ?_;refine ZB ?_;refine Zo (Zn (Y_pk [3] ?_));refine Yg ?_
  refine Ya (.inr rfl) (.tmp rfl .nil) (fun w hw=>?_)
  refine ⟨_,M,rfl,Mem.le.refl M,hw.c,rfl,?_⟩
  clear hw
  refine congrArg Value.bool ?_
  (by_cases h9:0≤a∧a≤999 <;> simp [h9])
theorem IsN_ok (M:Mem) (n:ZO) (hn0:ZO.ok M n):Fs Tryz.prog 27 [n.enc] M (fun v=>v=Value.bool (decide (IsNd n.nd))):=by
  obtain ⟨⟨⟨Za,Zb⟩,⟨Zc,Zh⟩,⟨Zj,Zi,Zg⟩,⟨Zf,Ze,Zd⟩⟩,Zq,Zu,ZF,Zx,ZN,ZC,ZA,Zw,Zr,Zy,Zp,Zz,⟨Zt,Zs,Zl⟩,ZE,ZG⟩:=n
  have Yj:ZL.ok M ⟨⟨Za,Zb⟩,⟨Zc,Zh⟩,⟨Zj,Zi,Zg⟩,⟨Zf,Ze,Zd⟩⟩:=hn0.h0
  have YQ:SlK M ZD.segs 21 ⟨Zj,Zi,Zg⟩:=hn0.h0.h0
  have s_n_table_succ:SlM M Zj (Zg.map ZD.segs) 21:=YQ.h1
  have n_n_table_succ:(Zg.map ZD.segs).length=Zg.length:=List.length_map ..
  have m_n_table_succ:Zg.length≤9223372036854775807:=YQ.h2
  have c_n_table_succ:Zg.length≤Zi:=YQ.h3
  have YD:SlK M ZD.segs 21 ⟨Zf,Ze,Zd⟩:=hn0.h0.h1
  have s_n_table_fingers:SlM M Zf (Zd.map ZD.segs) 21:=YD.h1
  have n_n_table_fingers:(Zd.map ZD.segs).length=Zd.length:=List.length_map ..
  have m_n_table_fingers:Zd.length≤9223372036854775807:=YD.h2
  have c_n_table_fingers:Zd.length≤Ze:=YD.h3
  have Ys:SlK M (oneI .i64) 1 ⟨Zt,Zs,Zl⟩:=hn0.h1
  have WY:SlM M Zt (Zl.map (oneI .i64)) 1:=Ys.h1
  have n_n_avoid:(Zl.map (oneI .i64)).length=Zl.length:=List.length_map ..
  have Vc:Zl.length≤9223372036854775807:=Ys.h2
  have c_n_avoid:Zl.length≤Zs:=Ys.h3
  refine Xm Tryz.func27 rfl Tryz.ntmps27 rfl ?_;intro H
  refine ZI (Zm (l:=[0,1]) rfl ?_)
  refine Xk ?_;intro b1
  refine ZB ?_;refine Zo (Zn (Y_pk [2,1] ?_));refine ZI (Zm (l:=[0,1]) rfl ?_)
  refine YT F.zero91 ?_;intro b2
  refine Yi F.lay91 ?_;refine Zo (Zn ?_)
  iterate 2 refine ZI ?_
  refine Zm (l:=[0,1,2,3,4,5,6,7,8,9,10,11,12,13,14,15,16,17,18,19,20,21,22,23,24,25,26,27,28,29,30,31,32,33,34,35,36,37,38,39,40,41,42,43,44,45,46,47]) rfl ?_;refine Zk F.foff32_0 ?_;refine ZH F.lay28 ?_;refine X_fs rfl rfl F.ok70 rfl (IsT_ok _ ⟨⟨Za,Zb⟩,⟨Zc,Zh⟩,⟨Zj,Zi,Zg⟩,⟨Zf,Ze,Zd⟩⟩ Yj) rfl ?_
  rintro _ rfl
  refine Xx ?_;refine Zv ?_
  refine Yh 10 rfl (fun hc3=>?_) (fun hc3=>?_)
  ·replace hc3:=nT hc3
   iterate 5 refine ZU ?_
   refine ZK ?_;refine Zv ?_
   iterate 8 refine ZU ?_
   refine ZK ?_;refine Zv ?_
   iterate 5 refine ZU ?_
   refine ZK ?_;refine Zv ?_
   iterate 4 refine ZU ?_
   refine ZK ?_;refine Zv ?_
   iterate 5 refine ZU ?_
   refine ZK ?_;refine Zv ?_
   iterate 5 refine ZU ?_
   refine ZK ?_;refine Zo (Zn (Y_pk [53,3,2,1] ?_));refine Xe rfl ?_;refine ZI (Zm (l:=[0]) rfl ?_);refine ZB ?_;refine Zo (Zn (Y_pk [2,3,1] ?_));refine Yg (YG ?_)
   refine Ya (.inr rfl) (.tmp rfl .nil) (fun w hw=>?_)
   refine ⟨_,rfl,(hw.c),?_⟩
   clear hw
   show _=Value.bool (decide (IsTb (ZL.tb ⟨⟨Za,Zb⟩,⟨Zc,Zh⟩,⟨Zj,Zi,Zg⟩,⟨Zf,Ze,Zd⟩⟩)∧(1≤Zq∧Zq≤8)∧(Zu=true∨ZF≠-1)∧(0≤Zx∧Zx≤159)∧Zl.length≤16∧(0≤ZE∧ZE≤64)∧(0≤ZG∧ZG≤999999)∧(YC ⟨Za,Zb⟩ ZF∧YC ⟨Za,Zb⟩ ZC∧YC ⟨Za,Zb⟩ Zw∧YC ⟨Za,Zb⟩ Zy)∧∀ a∈Zl,YH a))
   refine congrArg Value.bool ?_
   refine (decide_eq_false (fun h9=>?_)).symm
   obtain ⟨g1,g2,g3,g4,g5,g6,g7,⟨g8,g81,g82,g83⟩,g9⟩:=h9
   contradiction
  ·replace hc3:=nF hc3
   refine ZH F.lay91 ?_;refine Zk F.foff32_1 ?_;refine ZH F.lay3 ?_;refine X_fsV rfl rfl rfl F.ok69 rfl rfl (btw_ok M _ _ _) rfl ?_
   rintro _ rfl
   refine Xx ?_;refine ZK ?_;refine Zv ?_
   refine Yh 17 rfl (fun hc4=>?_) (fun hc4=>?_)
   ·replace hc4:=nT hc4
    iterate 8 refine ZU ?_
    refine ZK ?_;refine Zv ?_
    iterate 5 refine ZU ?_
    refine ZK ?_;refine Zv ?_
    iterate 4 refine ZU ?_
    refine ZK ?_;refine Zv ?_
    iterate 5 refine ZU ?_
    refine ZK ?_;refine Zv ?_
    iterate 5 refine ZU ?_
    refine ZK ?_;refine Zo (Zn (Y_pk [53,3,2,1] ?_));refine Xe rfl ?_;refine ZI (Zm (l:=[0]) rfl ?_);refine ZB ?_;refine Zo (Zn (Y_pk [2,3,1] ?_));refine Yg (YG ?_)
    refine Ya (.inr rfl) (.tmp rfl .nil) (fun w hw=>?_)
    refine ⟨_,rfl,(hw.c),?_⟩
    clear hw
    show _=Value.bool (decide (IsTb (ZL.tb ⟨⟨Za,Zb⟩,⟨Zc,Zh⟩,⟨Zj,Zi,Zg⟩,⟨Zf,Ze,Zd⟩⟩)∧(1≤Zq∧Zq≤8)∧(Zu=true∨ZF≠-1)∧(0≤Zx∧Zx≤159)∧Zl.length≤16∧(0≤ZE∧ZE≤64)∧(0≤ZG∧ZG≤999999)∧(YC ⟨Za,Zb⟩ ZF∧YC ⟨Za,Zb⟩ ZC∧YC ⟨Za,Zb⟩ Zw∧YC ⟨Za,Zb⟩ Zy)∧∀ a∈Zl,YH a))
    refine congrArg Value.bool ?_
    refine (decide_eq_false (fun h9=>?_)).symm
    obtain ⟨g1,g2,g3,g4,g5,g6,g7,⟨g8,g81,g82,g83⟩,g9⟩:=h9
    contradiction
   ·replace hc4:=nF hc4
    refine Zk F.foff32_2 ?_;refine ZH F.lay4 ?_;refine Xx ?_;refine Zv ?_
    refine Yh 21 rfl (fun hc5=>?_) (fun hc5=>?_)
    ·skip
     refine Zk F.foff32_3 ?_;refine ZH F.lay3 ?_;refine Yz ?_
     iterate 2 refine ZK ?_
     refine Zv ?_
     refine Yh 27 rfl (fun hc6=>?_) (fun hc6=>?_)
     ·replace hc6:=dT hc6
      iterate 5 refine ZU ?_
      refine ZK ?_;refine Zv ?_
      iterate 4 refine ZU ?_
      refine ZK ?_;refine Zv ?_
      iterate 5 refine ZU ?_
      refine ZK ?_;refine Zv ?_
      iterate 5 refine ZU ?_
      refine ZK ?_;refine Zo (Zn (Y_pk [53,3,2,1] ?_));refine Xe rfl ?_;refine ZI (Zm (l:=[0]) rfl ?_);refine ZB ?_;refine Zo (Zn (Y_pk [2,3,1] ?_));refine Yg (YG ?_)
      refine Ya (.inr rfl) (.tmp rfl .nil) (fun w hw=>?_)
      refine ⟨_,rfl,(hw.c),?_⟩
      clear hw
      show _=Value.bool (decide (IsTb (ZL.tb ⟨⟨Za,Zb⟩,⟨Zc,Zh⟩,⟨Zj,Zi,Zg⟩,⟨Zf,Ze,Zd⟩⟩)∧(1≤Zq∧Zq≤8)∧(Zu=true∨ZF≠-1)∧(0≤Zx∧Zx≤159)∧Zl.length≤16∧(0≤ZE∧ZE≤64)∧(0≤ZG∧ZG≤999999)∧(YC ⟨Za,Zb⟩ ZF∧YC ⟨Za,Zb⟩ ZC∧YC ⟨Za,Zb⟩ Zw∧YC ⟨Za,Zb⟩ Zy)∧∀ a∈Zl,YH a))
      refine congrArg Value.bool ?_
      refine (decide_eq_false (fun h9=>?_)).symm
      obtain ⟨g1,g2,g3,g4,g5,g6,g7,⟨g8,g81,g82,g83⟩,g9⟩:=h9
      (simp_all;done)
     ·replace hc6:=dF hc6
      refine ZH F.lay91 ?_;refine Zk F.foff32_4 ?_;refine ZH F.lay3 ?_;refine X_fsV rfl rfl rfl F.ok69 rfl rfl (btw_ok M _ _ _) rfl ?_
      rintro _ rfl
      refine Xx ?_;refine ZK ?_;refine Zv ?_
      refine Yh 34 rfl (fun hc7=>?_) (fun hc7=>?_)
      ·replace hc7:=nT hc7
       iterate 4 refine ZU ?_
       refine ZK ?_;refine Zv ?_
       iterate 5 refine ZU ?_
       refine ZK ?_;refine Zv ?_
       iterate 5 refine ZU ?_
       refine ZK ?_;refine Zo (Zn (Y_pk [53,3,2,1] ?_));refine Xe rfl ?_;refine ZI (Zm (l:=[0]) rfl ?_);refine ZB ?_;refine Zo (Zn (Y_pk [2,3,1] ?_));refine Yg (YG ?_)
       refine Ya (.inr rfl) (.tmp rfl .nil) (fun w hw=>?_)
       refine ⟨_,rfl,(hw.c),?_⟩
       clear hw
       show _=Value.bool (decide (IsTb (ZL.tb ⟨⟨Za,Zb⟩,⟨Zc,Zh⟩,⟨Zj,Zi,Zg⟩,⟨Zf,Ze,Zd⟩⟩)∧(1≤Zq∧Zq≤8)∧(Zu=true∨ZF≠-1)∧(0≤Zx∧Zx≤159)∧Zl.length≤16∧(0≤ZE∧ZE≤64)∧(0≤ZG∧ZG≤999999)∧(YC ⟨Za,Zb⟩ ZF∧YC ⟨Za,Zb⟩ ZC∧YC ⟨Za,Zb⟩ Zw∧YC ⟨Za,Zb⟩ Zy)∧∀ a∈Zl,YH a))
       refine congrArg Value.bool ?_
       refine (decide_eq_false (fun h9=>?_)).symm
       obtain ⟨g1,g2,g3,g4,g5,g6,g7,⟨g8,g81,g82,g83⟩,g9⟩:=h9
       contradiction
      ·replace hc7:=nF hc7
       refine Zk F.foff32_13 ?_;refine ZH F.lay30 ?_;refine YX F.elem30 ?_;refine Yz ?_;refine ZK ?_;refine Zv ?_
       refine Yh 40 rfl (fun hc8=>?_) (fun hc8=>?_)
       ·replace hc8:=dT hc8
        iterate 5 refine ZU ?_
        refine ZK ?_;refine Zv ?_
        iterate 5 refine ZU ?_
        refine ZK ?_;refine Zo (Zn (Y_pk [53,3,2,1] ?_));refine Xe rfl ?_;refine ZI (Zm (l:=[0]) rfl ?_);refine ZB ?_;refine Zo (Zn (Y_pk [2,3,1] ?_));refine Yg (YG ?_)
        refine Ya (.inr rfl) (.tmp rfl .nil) (fun w hw=>?_)
        refine ⟨_,rfl,(hw.c),?_⟩
        clear hw
        show _=Value.bool (decide (IsTb (ZL.tb ⟨⟨Za,Zb⟩,⟨Zc,Zh⟩,⟨Zj,Zi,Zg⟩,⟨Zf,Ze,Zd⟩⟩)∧(1≤Zq∧Zq≤8)∧(Zu=true∨ZF≠-1)∧(0≤Zx∧Zx≤159)∧Zl.length≤16∧(0≤ZE∧ZE≤64)∧(0≤ZG∧ZG≤999999)∧(YC ⟨Za,Zb⟩ ZF∧YC ⟨Za,Zb⟩ ZC∧YC ⟨Za,Zb⟩ Zw∧YC ⟨Za,Zb⟩ Zy)∧∀ a∈Zl,YH a))
        refine congrArg Value.bool ?_
        refine (decide_eq_false (fun h9=>?_)).symm
        obtain ⟨g1,g2,g3,g4,g5,g6,g7,⟨g8,g81,g82,g83⟩,g9⟩:=h9
        omega
       ·replace hc8:=dF hc8
        refine ZH F.lay91 ?_;refine Zk F.foff32_14 ?_;refine ZH F.lay3 ?_;refine X_fsV rfl rfl rfl F.ok69 rfl rfl (btw_ok M _ _ _) rfl ?_
        rintro _ rfl
        refine Xx ?_;refine ZK ?_;refine Zv ?_
        refine Yh 47 rfl (fun hc9=>?_) (fun hc9=>?_)
        ·replace hc9:=nT hc9
         iterate 5 refine ZU ?_
         refine ZK ?_;refine Zo (Zn (Y_pk [53,3,2,1] ?_));refine Xe rfl ?_;refine ZI (Zm (l:=[0]) rfl ?_);refine ZB ?_;refine Zo (Zn (Y_pk [2,3,1] ?_));refine Yg (YG ?_)
         refine Ya (.inr rfl) (.tmp rfl .nil) (fun w hw=>?_)
         refine ⟨_,rfl,(hw.c),?_⟩
         clear hw
         show _=Value.bool (decide (IsTb (ZL.tb ⟨⟨Za,Zb⟩,⟨Zc,Zh⟩,⟨Zj,Zi,Zg⟩,⟨Zf,Ze,Zd⟩⟩)∧(1≤Zq∧Zq≤8)∧(Zu=true∨ZF≠-1)∧(0≤Zx∧Zx≤159)∧Zl.length≤16∧(0≤ZE∧ZE≤64)∧(0≤ZG∧ZG≤999999)∧(YC ⟨Za,Zb⟩ ZF∧YC ⟨Za,Zb⟩ ZC∧YC ⟨Za,Zb⟩ Zw∧YC ⟨Za,Zb⟩ Zy)∧∀ a∈Zl,YH a))
         refine congrArg Value.bool ?_
         refine (decide_eq_false (fun h9=>?_)).symm
         obtain ⟨g1,g2,g3,g4,g5,g6,g7,⟨g8,g81,g82,g83⟩,g9⟩:=h9
         contradiction
        ·replace hc9:=nF hc9
         refine ZH F.lay91 ?_;refine Zk F.foff32_15 ?_;refine ZH F.lay3 ?_;refine X_fsV rfl rfl rfl F.ok69 rfl rfl (btw_ok M _ _ _) rfl ?_
         rintro _ rfl
         refine Xx ?_;refine ZK ?_;refine Zo (Zn (Y_pk [53,3,2,1] ?_))
         refine Yx rfl (fun hc10=>?_) (fun hc10=>?_)
         ·replace hc10:=nT hc10
          refine ZI (Zm (l:=[0]) rfl ?_);refine ZB ?_;refine Zo (Zn (Y_pk [2,3,1] ?_));refine Yg (YG ?_)
          refine Ya (.inr rfl) (.tmp rfl .nil) (fun w hw=>?_)
          refine ⟨_,rfl,(hw.c),?_⟩
          clear hw
          show _=Value.bool (decide (IsTb (ZL.tb ⟨⟨Za,Zb⟩,⟨Zc,Zh⟩,⟨Zj,Zi,Zg⟩,⟨Zf,Ze,Zd⟩⟩)∧(1≤Zq∧Zq≤8)∧(Zu=true∨ZF≠-1)∧(0≤Zx∧Zx≤159)∧Zl.length≤16∧(0≤ZE∧ZE≤64)∧(0≤ZG∧ZG≤999999)∧(YC ⟨Za,Zb⟩ ZF∧YC ⟨Za,Zb⟩ ZC∧YC ⟨Za,Zb⟩ Zw∧YC ⟨Za,Zb⟩ Zy)∧∀ a∈Zl,YH a))
          refine congrArg Value.bool ?_
          refine (decide_eq_false (fun h9=>?_)).symm
          obtain ⟨g1,g2,g3,g4,g5,g6,g7,⟨g8,g81,g82,g83⟩,g9⟩:=h9
          contradiction
         ·replace hc10:=nF hc10
          refine Yv (Zn (Y_pk [3,2,1] ?_))
          iterate 2 refine ZI ?_
          refine Zm (l:=[0,1,2,3,4,5,6,7,8,9,10]) rfl ?_;refine Zk F.foff32_3 ?_;refine ZH F.lay3 ?_;refine Zk F.foff32_6 ?_;refine ZH F.lay3 ?_;refine Zk F.foff32_8 ?_;refine ZH F.lay3 ?_;refine Zk F.foff32_10 ?_;refine ZH F.lay3 ?_
          refine XB rfl rfl F.elem30 F.zero3 rfl rfl (.cons rfl (by constructor) (.cons rfl (by constructor) (.cons rfl (by constructor) (.cons rfl (by constructor) .nil)))) rfl rfl (by simp only [List.map_cons,List.map_nil] <;> rfl) rfl ?_;intro b11 hob12
          obtain ⟨L4,hL4⟩:∃ l,[ZF,ZC,Zw,Zy]=l:=⟨_,rfl⟩
          have ho4:=OSl.as9 hob12 (show _=L4.map (oneI .i64) by rw [← hL4];rfl)
          have hl4:L4.length=4:=by rw [← hL4];rfl
          have n_L4:(L4.map (oneI .i64)).length=L4.length:=List.length_map ..
          refine YX F.elem30 ?_;refine Zv ?_;refine Zo (Zn (Y_pk [64,63,62,3,2,1] ?_));refine Xd (Y_pk [64,63,62,3,2,1] ?_);refine WH (.succ .zero) (fun (k:Nat) z=>z=[(64,.int .i64 (k:Int))]∧k≤4∧∀ j (h:j<L4.length),j<k→YC ⟨Za,Zb⟩ L4[j]) (fun k=>4-k) (0) (⟨rfl,by omega,fun j h hj=>by omega⟩) ?_
          rintro k _ ⟨rfl,hk,hI⟩
          refine ZI (Zm (l:=[0]) rfl ?_);refine Yz ?_;refine Zo (Zn (ZI ?_))
          refine Yx rfl (fun hc13=>?_) (fun hc13=>?_)
          ·replace hc13:=dT hc13
           refine Yv (Zn (ZI (Xd (ZI (Zm (l:=[0,1,2]) rfl ?_)))));refine YR rfl rfl rfl rfl F.elem30 (by rfl) (by omega) (by exact ⟨_,_,rfl⟩) rfl ?_;refine X_load_osl rfl rfl rfl (by assumption) (by repeat first|exact Rem.here _|exact Rem.two|apply Rem.skip|apply Rem.over) (by exact XW (by omega)) F.lay3 rfl rfl rfl ?_;refine ZB ?_;refine Zo (Zn (ZI (Zm (l:=[0,1,2,3,4,5,6,7,8,9,10,11]) rfl ?_)));refine ZH F.lay91 ?_;refine Zv ?_;refine X_fsV rfl rfl rfl F.ok69 rfl rfl (btw_ok M _ _ _) rfl ?_
           rintro _ rfl
           refine Xx ?_;refine Zv ?_
           refine Yh 72 rfl (fun hc14=>?_) (fun hc14=>?_)
           ·replace hc14:=nT hc14
            iterate 6 refine ZU ?_
            refine ZK ?_;refine Zo (Zn (Xe rfl ?_));refine ZI (Zm (l:=[0]) rfl ?_);refine ZB ?_;refine Zo (Zn (Yg (Xi ?_)))
            iterate 2 refine YG ?_
            refine Xi (YG ?_)
            refine Ya (.inr rfl) (.tmp rfl .nil) (fun w hw=>?_)
            refine ⟨_,rfl,(hw.c),?_⟩
            clear hw
            show _=Value.bool (decide (IsTb (ZL.tb ⟨⟨Za,Zb⟩,⟨Zc,Zh⟩,⟨Zj,Zi,Zg⟩,⟨Zf,Ze,Zd⟩⟩)∧(1≤Zq∧Zq≤8)∧(Zu=true∨ZF≠-1)∧(0≤Zx∧Zx≤159)∧Zl.length≤16∧(0≤ZE∧ZE≤64)∧(0≤ZG∧ZG≤999999)∧(YC ⟨Za,Zb⟩ ZF∧YC ⟨Za,Zb⟩ ZC∧YC ⟨Za,Zb⟩ Zw∧YC ⟨Za,Zb⟩ Zy)∧∀ a∈Zl,YH a))
            refine congrArg Value.bool ?_
            refine (decide_eq_false (fun h9=>?_)).symm
            obtain ⟨g1,g2,g3,g4,g5,g6,g7,⟨g8,g81,g82,g83⟩,g9⟩:=h9
            have h5:=(addr4 (s:=⟨Za,Zb⟩)).2 ⟨g8,g81,g82,g83⟩
            have h6:=fun j (h:j<L4.length)=>(show YC ⟨Za,Zb⟩ L4[j] from by subst hL4;exact h5 j h)
            have h7:=h6 k (by omega)
            obtain ⟨h71,h72⟩:=h7
            contradiction
           ·replace hc14:=nF hc14
            refine Zv ?_;refine Zk F.foff32_0 ?_;refine Zk F.foff28_0 ?_;refine Zk F.foff25_0 ?_;refine ZH F.lay3 ?_;refine Yz ?_;refine ZK ?_;refine Zo (Zn ?_)
            refine Yx rfl (fun hc15=>?_) (fun hc15=>?_)
            ·replace hc15:=dT hc15
             refine ZI (Zm (l:=[0]) rfl ?_);refine ZB ?_;refine Zo (Zn (Yg (Xi ?_)))
             iterate 2 refine YG ?_
             refine Xi (YG ?_)
             refine Ya (.inr rfl) (.tmp rfl .nil) (fun w hw=>?_)
             refine ⟨_,rfl,(hw.c),?_⟩
             clear hw
             show _=Value.bool (decide (IsTb (ZL.tb ⟨⟨Za,Zb⟩,⟨Zc,Zh⟩,⟨Zj,Zi,Zg⟩,⟨Zf,Ze,Zd⟩⟩)∧(1≤Zq∧Zq≤8)∧(Zu=true∨ZF≠-1)∧(0≤Zx∧Zx≤159)∧Zl.length≤16∧(0≤ZE∧ZE≤64)∧(0≤ZG∧ZG≤999999)∧(YC ⟨Za,Zb⟩ ZF∧YC ⟨Za,Zb⟩ ZC∧YC ⟨Za,Zb⟩ Zw∧YC ⟨Za,Zb⟩ Zy)∧∀ a∈Zl,YH a))
             refine congrArg Value.bool ?_
             refine (decide_eq_false (fun h9=>?_)).symm
             obtain ⟨g1,g2,g3,g4,g5,g6,g7,⟨g8,g81,g82,g83⟩,g9⟩:=h9
             have h5:=(addr4 (s:=⟨Za,Zb⟩)).2 ⟨g8,g81,g82,g83⟩
             have h6:=fun j (h:j<L4.length)=>(show YC ⟨Za,Zb⟩ L4[j] from by subst hL4;exact h5 j h)
             have h7:=h6 k (by omega)
             obtain ⟨h71,h72⟩:=h7
             contradiction
            ·replace hc15:=dF hc15
             refine Yv (XV (Zn (Zm (l:=[0,1]) rfl ?_)));refine XN rfl rfl rfl rfl rfl (by exact Xn (by decide) (by omega)) rfl ?_;refine Zv ?_;refine Zo ?_;refine WC (a':=[(64,_)]) (k+1) (.cons (k:=64) rfl (.cons (k:=63) rfl (.cons (k:=62) rfl (.cons (k:=3) rfl (.cons (k:=2) rfl (.cons (k:=1) rfl (.nil))))))) (fun w hw=>by first|exact hw|exact hw.c) ?_ ?_
             ·refine ⟨rfl,by omega,fun j h hj=>?_⟩
              rcases Nat.lt_or_ge j k with h9|h9
              ·exact hI j h h9
              ·have hjk:j=k:=by omega
               subst hjk
               exact ⟨by assumption,by assumption⟩
             ·omega
          ·replace hc13:=dF hc13
           refine XS ?_
           iterate 2 refine XM ?_
           refine Wl (Zn (Y_pk [3,2,1] ?_));refine ZI (Zm (l:=[0,1,2,3,4,5]) rfl ?_);refine Zk F.foff32_13 ?_;refine ZH F.lay30 ?_;refine X_makeFunc rfl rfl rfl rfl rfl ?_;refine X_fo rfl rfl F.ok71 rfl (ContainsFI_rd _ [(b2,_)] ⟨_,_,_⟩ 72 [_] (fun a=>decide (¬(0≤a∧a≤999))) (WY.rd _) Vc F.ok72 (fun x hx=>avo_ok M _ x)) (by repeat first|exact Rem.here _|exact Rem.two|apply Rem.skip|apply Rem.over) (YA rfl) ?_
           rintro _ M1 _ ⟨hM1,rfl⟩;subst M1
           refine Xx ?_;refine ZB ?_;refine Zo (Zn (Y_pk [2] ?_));refine Yg ?_
           refine Ya (.inr rfl) (.tmp rfl .nil) (fun w hw=>?_)
           refine ⟨_,rfl,(hw.c),?_⟩
           clear hw
           obtain rfl:k=4:=by omega
           have h4:∀ j (h:j<[ZF,ZC,Zw,Zy].length),YC ⟨Za,Zb⟩ [ZF,ZC,Zw,Zy][j]:=by rw [hL4];exact fun j h=>hI j h (by omega)
           have h5:=addr4.1 h4
           show _=Value.bool (decide (IsTb (ZL.tb ⟨⟨Za,Zb⟩,⟨Zc,Zh⟩,⟨Zj,Zi,Zg⟩,⟨Zf,Ze,Zd⟩⟩)∧(1≤Zq∧Zq≤8)∧(Zu=true∨ZF≠-1)∧(0≤Zx∧Zx≤159)∧Zl.length≤16∧(0≤ZE∧ZE≤64)∧(0≤ZG∧ZG≤999999)∧(YC ⟨Za,Zb⟩ ZF∧YC ⟨Za,Zb⟩ ZC∧YC ⟨Za,Zb⟩ Zw∧YC ⟨Za,Zb⟩ Zy)∧∀ a∈Zl,YH a))
           refine congrArg Value.bool ?_
           have h6:=any_odd (l:=Zl)
           obtain ⟨B,hB⟩:∃ b,(Zl.any fun a=>decide (¬(0≤a∧a≤999)))=b:=⟨_,rfl⟩
           rw [hB] at h6 ⊢
           cases B
           ·exact (decide_eq_true ⟨by assumption,by first|assumption|omega,by first|assumption|(simp_all;done),by first|assumption|omega,by omega,by first|assumption|omega,by first|assumption|omega,h5,h6.1 rfl⟩).symm
           ·exact (decide_eq_false (fun h9=>by have h8:=h6.2 h9.2.2.2.2.2.2.2.2;cases h8)).symm
    ·skip
     iterate 3 refine ZU ?_
     iterate 2 refine ZK ?_
     refine Zv ?_;refine ZH F.lay91 ?_;refine Zk F.foff32_4 ?_;refine ZH F.lay3 ?_;refine X_fsV rfl rfl rfl F.ok69 rfl rfl (btw_ok M _ _ _) rfl ?_
     rintro _ rfl
     refine Xx ?_;refine ZK ?_;refine Zv ?_
     refine Yh 34 rfl (fun hc16=>?_) (fun hc16=>?_)
     ·replace hc16:=nT hc16
      iterate 4 refine ZU ?_
      refine ZK ?_;refine Zv ?_
      iterate 5 refine ZU ?_
      refine ZK ?_;refine Zv ?_
      iterate 5 refine ZU ?_
      refine ZK ?_;refine Zo (Zn (Y_pk [53,3,2,1] ?_));refine Xe rfl ?_;refine ZI (Zm (l:=[0]) rfl ?_);refine ZB ?_;refine Zo (Zn (Y_pk [2,3,1] ?_));refine Yg (YG ?_)
      refine Ya (.inr rfl) (.tmp rfl .nil) (fun w hw=>?_)
      refine ⟨_,rfl,(hw.c),?_⟩
      clear hw
      show _=Value.bool (decide (IsTb (ZL.tb ⟨⟨Za,Zb⟩,⟨Zc,Zh⟩,⟨Zj,Zi,Zg⟩,⟨Zf,Ze,Zd⟩⟩)∧(1≤Zq∧Zq≤8)∧(Zu=true∨ZF≠-1)∧(0≤Zx∧Zx≤159)∧Zl.length≤16∧(0≤ZE∧ZE≤64)∧(0≤ZG∧ZG≤999999)∧(YC ⟨Za,Zb⟩ ZF∧YC ⟨Za,Zb⟩ ZC∧YC ⟨Za,Zb⟩ Zw∧YC ⟨Za,Zb⟩ Zy)∧∀ a∈Zl,YH a))
      refine congrArg Value.bool ?_
      refine (decide_eq_false (fun h9=>?_)).symm
      obtain ⟨g1,g2,g3,g4,g5,g6,g7,⟨g8,g81,g82,g83⟩,g9⟩:=h9
      contradiction
     ·replace hc16:=nF hc16
      refine Zk F.foff32_13 ?_;refine ZH F.lay30 ?_;refine YX F.elem30 ?_;refine Yz ?_;refine ZK ?_;refine Zv ?_
      refine Yh 40 rfl (fun hc17=>?_) (fun hc17=>?_)
      ·replace hc17:=dT hc17
       iterate 5 refine ZU ?_
       refine ZK ?_;refine Zv ?_
       iterate 5 refine ZU ?_
       refine ZK ?_;refine Zo (Zn (Y_pk [53,3,2,1] ?_));refine Xe rfl ?_;refine ZI (Zm (l:=[0]) rfl ?_);refine ZB ?_;refine Zo (Zn (Y_pk [2,3,1] ?_));refine Yg (YG ?_)
       refine Ya (.inr rfl) (.tmp rfl .nil) (fun w hw=>?_)
       refine ⟨_,rfl,(hw.c),?_⟩
       clear hw
       show _=Value.bool (decide (IsTb (ZL.tb ⟨⟨Za,Zb⟩,⟨Zc,Zh⟩,⟨Zj,Zi,Zg⟩,⟨Zf,Ze,Zd⟩⟩)∧(1≤Zq∧Zq≤8)∧(Zu=true∨ZF≠-1)∧(0≤Zx∧Zx≤159)∧Zl.length≤16∧(0≤ZE∧ZE≤64)∧(0≤ZG∧ZG≤999999)∧(YC ⟨Za,Zb⟩ ZF∧YC ⟨Za,Zb⟩ ZC∧YC ⟨Za,Zb⟩ Zw∧YC ⟨Za,Zb⟩ Zy)∧∀ a∈Zl,YH a))
       refine congrArg Value.bool ?_
       refine (decide_eq_false (fun h9=>?_)).symm
       obtain ⟨g1,g2,g3,g4,g5,g6,g7,⟨g8,g81,g82,g83⟩,g9⟩:=h9
       omega
      ·replace hc17:=dF hc17
       refine ZH F.lay91 ?_;refine Zk F.foff32_14 ?_;refine ZH F.lay3 ?_;refine X_fsV rfl rfl rfl F.ok69 rfl rfl (btw_ok M _ _ _) rfl ?_
       rintro _ rfl
       refine Xx ?_;refine ZK ?_;refine Zv ?_
       refine Yh 47 rfl (fun hc18=>?_) (fun hc18=>?_)
       ·replace hc18:=nT hc18
        iterate 5 refine ZU ?_
        refine ZK ?_;refine Zo (Zn (Y_pk [53,3,2,1] ?_));refine Xe rfl ?_;refine ZI (Zm (l:=[0]) rfl ?_);refine ZB ?_;refine Zo (Zn (Y_pk [2,3,1] ?_));refine Yg (YG ?_)
        refine Ya (.inr rfl) (.tmp rfl .nil) (fun w hw=>?_)
        refine ⟨_,rfl,(hw.c),?_⟩
        clear hw
        show _=Value.bool (decide (IsTb (ZL.tb ⟨⟨Za,Zb⟩,⟨Zc,Zh⟩,⟨Zj,Zi,Zg⟩,⟨Zf,Ze,Zd⟩⟩)∧(1≤Zq∧Zq≤8)∧(Zu=true∨ZF≠-1)∧(0≤Zx∧Zx≤159)∧Zl.length≤16∧(0≤ZE∧ZE≤64)∧(0≤ZG∧ZG≤999999)∧(YC ⟨Za,Zb⟩ ZF∧YC ⟨Za,Zb⟩ ZC∧YC ⟨Za,Zb⟩ Zw∧YC ⟨Za,Zb⟩ Zy)∧∀ a∈Zl,YH a))
        refine congrArg Value.bool ?_
        refine (decide_eq_false (fun h9=>?_)).symm
        obtain ⟨g1,g2,g3,g4,g5,g6,g7,⟨g8,g81,g82,g83⟩,g9⟩:=h9
        contradiction
       ·replace hc18:=nF hc18
        refine ZH F.lay91 ?_;refine Zk F.foff32_15 ?_;refine ZH F.lay3 ?_;refine X_fsV rfl rfl rfl F.ok69 rfl rfl (btw_ok M _ _ _) rfl ?_
        rintro _ rfl
        refine Xx ?_;refine ZK ?_;refine Zo (Zn (Y_pk [53,3,2,1] ?_))
        refine Yx rfl (fun hc19=>?_) (fun hc19=>?_)
        ·replace hc19:=nT hc19
         refine ZI (Zm (l:=[0]) rfl ?_);refine ZB ?_;refine Zo (Zn (Y_pk [2,3,1] ?_));refine Yg (YG ?_)
         refine Ya (.inr rfl) (.tmp rfl .nil) (fun w hw=>?_)
         refine ⟨_,rfl,(hw.c),?_⟩
         clear hw
         show _=Value.bool (decide (IsTb (ZL.tb ⟨⟨Za,Zb⟩,⟨Zc,Zh⟩,⟨Zj,Zi,Zg⟩,⟨Zf,Ze,Zd⟩⟩)∧(1≤Zq∧Zq≤8)∧(Zu=true∨ZF≠-1)∧(0≤Zx∧Zx≤159)∧Zl.length≤16∧(0≤ZE∧ZE≤64)∧(0≤ZG∧ZG≤999999)∧(YC ⟨Za,Zb⟩ ZF∧YC ⟨Za,Zb⟩ ZC∧YC ⟨Za,Zb⟩ Zw∧YC ⟨Za,Zb⟩ Zy)∧∀ a∈Zl,YH a))
         refine congrArg Value.bool ?_
         refine (decide_eq_false (fun h9=>?_)).symm
         obtain ⟨g1,g2,g3,g4,g5,g6,g7,⟨g8,g81,g82,g83⟩,g9⟩:=h9
         contradiction
        ·replace hc19:=nF hc19
         refine Yv (Zn (Y_pk [3,2,1] ?_))
         iterate 2 refine ZI ?_
         refine Zm (l:=[0,1,2,3,4,5,6,7,8,9,10]) rfl ?_;refine Zk F.foff32_3 ?_;refine ZH F.lay3 ?_;refine Zk F.foff32_6 ?_;refine ZH F.lay3 ?_;refine Zk F.foff32_8 ?_;refine ZH F.lay3 ?_;refine Zk F.foff32_10 ?_;refine ZH F.lay3 ?_
         refine XB rfl rfl F.elem30 F.zero3 rfl rfl (.cons rfl (by constructor) (.cons rfl (by constructor) (.cons rfl (by constructor) (.cons rfl (by constructor) .nil)))) rfl rfl (by simp only [List.map_cons,List.map_nil] <;> rfl) rfl ?_;intro b20 hob21
         obtain ⟨L4,hL4⟩:∃ l,[ZF,ZC,Zw,Zy]=l:=⟨_,rfl⟩
         have ho4:=OSl.as9 hob21 (show _=L4.map (oneI .i64) by rw [← hL4];rfl)
         have hl4:L4.length=4:=by rw [← hL4];rfl
         have n_L4:(L4.map (oneI .i64)).length=L4.length:=List.length_map ..
         refine YX F.elem30 ?_;refine Zv ?_;refine Zo (Zn (Y_pk [64,63,62,3,2,1] ?_));refine Xd (Y_pk [64,63,62,3,2,1] ?_);refine WH (.succ .zero) (fun (k:Nat) z=>z=[(64,.int .i64 (k:Int))]∧k≤4∧∀ j (h:j<L4.length),j<k→YC ⟨Za,Zb⟩ L4[j]) (fun k=>4-k) (0) (⟨rfl,by omega,fun j h hj=>by omega⟩) ?_
         rintro k _ ⟨rfl,hk,hI⟩
         refine ZI (Zm (l:=[0]) rfl ?_);refine Yz ?_;refine Zo (Zn (ZI ?_))
         refine Yx rfl (fun hc22=>?_) (fun hc22=>?_)
         ·replace hc22:=dT hc22
          refine Yv (Zn (ZI (Xd (ZI (Zm (l:=[0,1,2]) rfl ?_)))));refine YR rfl rfl rfl rfl F.elem30 (by rfl) (by omega) (by exact ⟨_,_,rfl⟩) rfl ?_;refine X_load_osl rfl rfl rfl (by assumption) (by repeat first|exact Rem.here _|exact Rem.two|apply Rem.skip|apply Rem.over) (by exact XW (by omega)) F.lay3 rfl rfl rfl ?_;refine ZB ?_;refine Zo (Zn (ZI (Zm (l:=[0,1,2,3,4,5,6,7,8,9,10,11]) rfl ?_)));refine ZH F.lay91 ?_;refine Zv ?_;refine X_fsV rfl rfl rfl F.ok69 rfl rfl (btw_ok M _ _ _) rfl ?_
          rintro _ rfl
          refine Xx ?_;refine Zv ?_
          refine Yh 72 rfl (fun hc23=>?_) (fun hc23=>?_)
          ·replace hc23:=nT hc23
           iterate 6 refine ZU ?_
           refine ZK ?_;refine Zo (Zn (Xe rfl ?_));refine ZI (Zm (l:=[0]) rfl ?_);refine ZB ?_;refine Zo (Zn (Yg (Xi ?_)))
           iterate 2 refine YG ?_
           refine Xi (YG ?_)
           refine Ya (.inr rfl) (.tmp rfl .nil) (fun w hw=>?_)
           refine ⟨_,rfl,(hw.c),?_⟩
           clear hw
           show _=Value.bool (decide (IsTb (ZL.tb ⟨⟨Za,Zb⟩,⟨Zc,Zh⟩,⟨Zj,Zi,Zg⟩,⟨Zf,Ze,Zd⟩⟩)∧(1≤Zq∧Zq≤8)∧(Zu=true∨ZF≠-1)∧(0≤Zx∧Zx≤159)∧Zl.length≤16∧(0≤ZE∧ZE≤64)∧(0≤ZG∧ZG≤999999)∧(YC ⟨Za,Zb⟩ ZF∧YC ⟨Za,Zb⟩ ZC∧YC ⟨Za,Zb⟩ Zw∧YC ⟨Za,Zb⟩ Zy)∧∀ a∈Zl,YH a))
           refine congrArg Value.bool ?_
           refine (decide_eq_false (fun h9=>?_)).symm
           obtain ⟨g1,g2,g3,g4,g5,g6,g7,⟨g8,g81,g82,g83⟩,g9⟩:=h9
           have h5:=(addr4 (s:=⟨Za,Zb⟩)).2 ⟨g8,g81,g82,g83⟩
           have h6:=fun j (h:j<L4.length)=>(show YC ⟨Za,Zb⟩ L4[j] from by subst hL4;exact h5 j h)
           have h7:=h6 k (by omega)
           obtain ⟨h71,h72⟩:=h7
           contradiction
          ·replace hc23:=nF hc23
           refine Zv ?_;refine Zk F.foff32_0 ?_;refine Zk F.foff28_0 ?_;refine Zk F.foff25_0 ?_;refine ZH F.lay3 ?_;refine Yz ?_;refine ZK ?_;refine Zo (Zn ?_)
           refine Yx rfl (fun hc24=>?_) (fun hc24=>?_)
           ·replace hc24:=dT hc24
            refine ZI (Zm (l:=[0]) rfl ?_);refine ZB ?_;refine Zo (Zn (Yg (Xi ?_)))
            iterate 2 refine YG ?_
            refine Xi (YG ?_)
            refine Ya (.inr rfl) (.tmp rfl .nil) (fun w hw=>?_)
            refine ⟨_,rfl,(hw.c),?_⟩
            clear hw
            show _=Value.bool (decide (IsTb (ZL.tb ⟨⟨Za,Zb⟩,⟨Zc,Zh⟩,⟨Zj,Zi,Zg⟩,⟨Zf,Ze,Zd⟩⟩)∧(1≤Zq∧Zq≤8)∧(Zu=true∨ZF≠-1)∧(0≤Zx∧Zx≤159)∧Zl.length≤16∧(0≤ZE∧ZE≤64)∧(0≤ZG∧ZG≤999999)∧(YC ⟨Za,Zb⟩ ZF∧YC ⟨Za,Zb⟩ ZC∧YC ⟨Za,Zb⟩ Zw∧YC ⟨Za,Zb⟩ Zy)∧∀ a∈Zl,YH a))
            refine congrArg Value.bool ?_
            refine (decide_eq_false (fun h9=>?_)).symm
            obtain ⟨g1,g2,g3,g4,g5,g6,g7,⟨g8,g81,g82,g83⟩,g9⟩:=h9
            have h5:=(addr4 (s:=⟨Za,Zb⟩)).2 ⟨g8,g81,g82,g83⟩
            have h6:=fun j (h:j<L4.length)=>(show YC ⟨Za,Zb⟩ L4[j] from by subst hL4;exact h5 j h)
            have h7:=h6 k (by omega)
            obtain ⟨h71,h72⟩:=h7
            contradiction
           ·replace hc24:=dF hc24
            refine Yv (XV (Zn (Zm (l:=[0,1]) rfl ?_)));refine XN rfl rfl rfl rfl rfl (by exact Xn (by decide) (by omega)) rfl ?_;refine Zv ?_;refine Zo ?_;refine WC (a':=[(64,_)]) (k+1) (.cons (k:=64) rfl (.cons (k:=63) rfl (.cons (k:=62) rfl (.cons (k:=3) rfl (.cons (k:=2) rfl (.cons (k:=1) rfl (.nil))))))) (fun w hw=>by first|exact hw|exact hw.c) ?_ ?_
            ·refine ⟨rfl,by omega,fun j h hj=>?_⟩
             rcases Nat.lt_or_ge j k with h9|h9
             ·exact hI j h h9
             ·have hjk:j=k:=by omega
              subst hjk
              exact ⟨by assumption,by assumption⟩
            ·omega
         ·replace hc22:=dF hc22
          refine XS ?_
          iterate 2 refine XM ?_
          refine Wl (Zn (Y_pk [3,2,1] ?_));refine ZI (Zm (l:=[0,1,2,3,4,5]) rfl ?_);refine Zk F.foff32_13 ?_;refine ZH F.lay30 ?_;refine X_makeFunc rfl rfl rfl rfl rfl ?_;refine X_fo rfl rfl F.ok71 rfl (ContainsFI_rd _ [(b2,_)] ⟨_,_,_⟩ 72 [_] (fun a=>decide (¬(0≤a∧a≤999))) (WY.rd _) Vc F.ok72 (fun x hx=>avo_ok M _ x)) (by repeat first|exact Rem.here _|exact Rem.two|apply Rem.skip|apply Rem.over) (YA rfl) ?_
          rintro _ M1 _ ⟨hM1,rfl⟩;subst M1
          refine Xx ?_;refine ZB ?_;refine Zo (Zn (Y_pk [2] ?_));refine Yg ?_
          refine Ya (.inr rfl) (.tmp rfl .nil) (fun w hw=>?_)
          refine ⟨_,rfl,(hw.c),?_⟩
          clear hw
          obtain rfl:k=4:=by omega
          have h4:∀ j (h:j<[ZF,ZC,Zw,Zy].length),YC ⟨Za,Zb⟩ [ZF,ZC,Zw,Zy][j]:=by rw [hL4];exact fun j h=>hI j h (by omega)
          have h5:=addr4.1 h4
          show _=Value.bool (decide (IsTb (ZL.tb ⟨⟨Za,Zb⟩,⟨Zc,Zh⟩,⟨Zj,Zi,Zg⟩,⟨Zf,Ze,Zd⟩⟩)∧(1≤Zq∧Zq≤8)∧(Zu=true∨ZF≠-1)∧(0≤Zx∧Zx≤159)∧Zl.length≤16∧(0≤ZE∧ZE≤64)∧(0≤ZG∧ZG≤999999)∧(YC ⟨Za,Zb⟩ ZF∧YC ⟨Za,Zb⟩ ZC∧YC ⟨Za,Zb⟩ Zw∧YC ⟨Za,Zb⟩ Zy)∧∀ a∈Zl,YH a))
          refine congrArg Value.bool ?_
          have h6:=any_odd (l:=Zl)
          obtain ⟨B,hB⟩:∃ b,(Zl.any fun a=>decide (¬(0≤a∧a≤999)))=b:=⟨_,rfl⟩
          rw [hB] at h6 ⊢
          cases B
          ·exact (decide_eq_true ⟨by assumption,by first|assumption|omega,by first|assumption|(simp_all;done),by first|assumption|omega,by omega,by first|assumption|omega,by first|assumption|omega,h5,h6.1 rfl⟩).symm
          ·exact (decide_eq_false (fun h9=>by have h8:=h6.2 h9.2.2.2.2.2.2.2.2;cases h8)).symm
theorem addrN_ok (M:Mem) (n:ZO) (a:Int):Fs Tryz.prog 74 [n.enc,.int .i64 a] M (fun v=>v=Value.bool (decide (YC n.table.self a))):=by
  obtain ⟨⟨⟨Za,Zb⟩,⟨Zc,Zh⟩,⟨Zj,Zi,Zg⟩,⟨Zf,Ze,Zd⟩⟩,Zq,Zu,ZF,Zx,ZN,ZC,ZA,Zw,Zr,Zy,Zp,Zz,⟨Zt,Zs,Zl⟩,ZE,ZG⟩:=n
  refine Xm Tryz.func74 rfl Tryz.ntmps74 rfl ?_;intro H
  refine ZI (Zm (l:=[0,1]) rfl ?_)
  refine Xk ?_;intro b1
  refine ZB ?_;refine Zo (Zn (Y_pk [4,2,1] ?_));refine ZI (Zm (l:=[0,1,2,3,4,5,6,7,8,9,10,11,12,13,14]) rfl ?_);refine Zv ?_;refine Yz ?_;refine Zv ?_
  refine Yh 7 rfl (fun hc2=>?_) (fun hc2=>?_)
  ·replace hc2:=dT hc2
   refine Zv ?_;refine Yz ?_;refine ZK ?_;refine Zv ?_
   refine Yh 11 rfl (fun hc3=>?_) (fun hc3=>?_)
   ·replace hc3:=dT hc3
    refine Zv ?_;refine Zk F.foff32_0 ?_;refine Zk F.foff28_0 ?_;refine Zk F.foff25_0 ?_;refine ZH F.lay3 ?_;refine Yz ?_;refine ZK ?_;refine ZB ?_;refine Zo (Zn (Y_pk [4] ?_));refine Yg ?_
    refine Ya (.inr rfl) (.tmp rfl .nil) (fun w hw=>?_)
    refine ⟨_,rfl,(hw.c),?_⟩
    clear hw
    refine congrArg Value.bool ?_
    (simp_all [YC];done)
   ·replace hc3:=dF hc3
    iterate 6 refine ZU ?_
    refine ZK ?_;refine ZB ?_;refine Zo (Zn (Y_pk [4] ?_));refine Yg ?_
    refine Ya (.inr rfl) (.tmp rfl .nil) (fun w hw=>?_)
    refine ⟨_,rfl,(hw.c),?_⟩
    clear hw
    refine congrArg Value.bool ?_
    exact (decide_eq_false (fun h9=>by obtain ⟨h8,h7⟩:=h9;first|omega|contradiction)).symm
  ·replace hc2:=dF hc2
   iterate 2 refine ZU ?_
   refine ZK ?_;refine Zv ?_
   iterate 6 refine ZU ?_
   refine ZK ?_;refine ZB ?_;refine Zo (Zn (Y_pk [4] ?_));refine Yg ?_
   refine Ya (.inr rfl) (.tmp rfl .nil) (fun w hw=>?_)
   refine ⟨_,rfl,(hw.c),?_⟩
   clear hw
   refine congrArg Value.bool ?_
   exact (decide_eq_false (fun h9=>by obtain ⟨h8,h7⟩:=h9;first|omega|contradiction)).symm
theorem rIsN_ok (M:Mem) (n:ZO) (hn0:ZO.ok M n):Fs Tryz.prog 28 [n.enc] M (fun v=>v=Value.bool (decide (IsNd n.nd))):=by
  obtain ⟨⟨⟨Za,Zb⟩,⟨Zc,Zh⟩,⟨Zj,Zi,Zg⟩,⟨Zf,Ze,Zd⟩⟩,Zq,Zu,ZF,Zx,ZN,ZC,ZA,Zw,Zr,Zy,Zp,Zz,⟨Zt,Zs,Zl⟩,ZE,ZG⟩:=n
  have Yj:ZL.ok M ⟨⟨Za,Zb⟩,⟨Zc,Zh⟩,⟨Zj,Zi,Zg⟩,⟨Zf,Ze,Zd⟩⟩:=hn0.h0
  have YQ:SlK M ZD.segs 21 ⟨Zj,Zi,Zg⟩:=hn0.h0.h0
  have s_n_table_succ:SlM M Zj (Zg.map ZD.segs) 21:=YQ.h1
  have n_n_table_succ:(Zg.map ZD.segs).length=Zg.length:=List.length_map ..
  have m_n_table_succ:Zg.length≤9223372036854775807:=YQ.h2
  have c_n_table_succ:Zg.length≤Zi:=YQ.h3
  have YD:SlK M ZD.segs 21 ⟨Zf,Ze,Zd⟩:=hn0.h0.h1
  have s_n_table_fingers:SlM M Zf (Zd.map ZD.segs) 21:=YD.h1
  have n_n_table_fingers:(Zd.map ZD.segs).length=Zd.length:=List.length_map ..
  have m_n_table_fingers:Zd.length≤9223372036854775807:=YD.h2
  have c_n_table_fingers:Zd.length≤Ze:=YD.h3
  have Ys:SlK M (oneI .i64) 1 ⟨Zt,Zs,Zl⟩:=hn0.h1
  have WY:SlM M Zt (Zl.map (oneI .i64)) 1:=Ys.h1
  have n_n_avoid:(Zl.map (oneI .i64)).length=Zl.length:=List.length_map ..
  have Vc:Zl.length≤9223372036854775807:=Ys.h2
  have c_n_avoid:Zl.length≤Zs:=Ys.h3
  refine Xm Tryz.func28 rfl Tryz.ntmps28 rfl ?_;intro H
  refine ZI (Zm (l:=[0,1]) rfl ?_)
  refine Xk ?_;intro b1
  refine ZB ?_;refine Zo (Zn (Y_pk [2,1] ?_))
  iterate 2 refine ZI ?_
  refine Zm (l:=[0,1,2,3,4,5,6,7,8,9,10,11,12,13,14,15,16,17,18,19,20,21,22,23,24,25,26,27,28,29,30,31,32,33,34,35,36,37,38,39,40,41]) rfl ?_;refine Zk F.foff32_0 ?_;refine ZH F.lay28 ?_;refine X_fs rfl rfl F.ok73 rfl (rIsT_ok _ ⟨⟨Za,Zb⟩,⟨Zc,Zh⟩,⟨Zj,Zi,Zg⟩,⟨Zf,Ze,Zd⟩⟩ Yj) rfl ?_
  rintro _ rfl
  refine Xx ?_;refine Zv ?_
  refine Yh 8 rfl (fun hc2=>?_) (fun hc2=>?_)
  ·replace hc2:=nT hc2
   iterate 3 refine ZU ?_
   refine ZK ?_;refine Zv ?_
   iterate 3 refine ZU ?_
   refine ZK ?_;refine Zv ?_
   iterate 5 refine ZU ?_
   refine ZK ?_;refine Zv ?_
   iterate 5 refine ZU ?_
   refine ZK ?_;refine Zv ?_
   iterate 5 refine ZU ?_
   refine ZK ?_;refine Zv ?_
   iterate 5 refine ZU ?_
   refine ZK ?_;refine Zo (Zn (Y_pk [45,2,1] ?_));refine Xe rfl ?_;refine ZI (Zm (l:=[0]) rfl ?_);refine ZB ?_;refine Zo (Zn (Y_pk [2,1] ?_));refine Yg (YG ?_)
   refine Ya (.inr rfl) (.tmp rfl .nil) (fun w hw=>?_)
   refine ⟨_,rfl,(hw.c),?_⟩
   clear hw
   show _=Value.bool (decide (IsTb (ZL.tb ⟨⟨Za,Zb⟩,⟨Zc,Zh⟩,⟨Zj,Zi,Zg⟩,⟨Zf,Ze,Zd⟩⟩)∧(1≤Zq∧Zq≤8)∧(Zu=true∨ZF≠-1)∧(0≤Zx∧Zx≤159)∧Zl.length≤16∧(0≤ZE∧ZE≤64)∧(0≤ZG∧ZG≤999999)∧(YC ⟨Za,Zb⟩ ZF∧YC ⟨Za,Zb⟩ ZC∧YC ⟨Za,Zb⟩ Zw∧YC ⟨Za,Zb⟩ Zy)∧∀ a∈Zl,YH a))
   refine congrArg Value.bool ?_
   refine (decide_eq_false (fun h9=>?_)).symm
   obtain ⟨g1,g2,g3,g4,g5,g6,g7,⟨g8,g81,g82,g83⟩,g9⟩:=h9
   contradiction
  ·replace hc2:=nF hc2
   refine Zk F.foff32_1 ?_;refine ZH F.lay3 ?_;refine Yz ?_;refine ZK ?_;refine Zv ?_
   refine Yh 13 rfl (fun hc3=>?_) (fun hc3=>?_)
   ·replace hc3:=dT hc3
    iterate 3 refine ZU ?_
    refine ZK ?_;refine Zv ?_
    iterate 5 refine ZU ?_
    refine ZK ?_;refine Zv ?_
    iterate 5 refine ZU ?_
    refine ZK ?_;refine Zv ?_
    iterate 5 refine ZU ?_
    refine ZK ?_;refine Zv ?_
    iterate 5 refine ZU ?_
    refine ZK ?_;refine Zo (Zn (Y_pk [45,2,1] ?_));refine Xe rfl ?_;refine ZI (Zm (l:=[0]) rfl ?_);refine ZB ?_;refine Zo (Zn (Y_pk [2,1] ?_));refine Yg (YG ?_)
    refine Ya (.inr rfl) (.tmp rfl .nil) (fun w hw=>?_)
    refine ⟨_,rfl,(hw.c),?_⟩
    clear hw
    show _=Value.bool (decide (IsTb (ZL.tb ⟨⟨Za,Zb⟩,⟨Zc,Zh⟩,⟨Zj,Zi,Zg⟩,⟨Zf,Ze,Zd⟩⟩)∧(1≤Zq∧Zq≤8)∧(Zu=true∨ZF≠-1)∧(0≤Zx∧Zx≤159)∧Zl.length≤16∧(0≤ZE∧ZE≤64)∧(0≤ZG∧ZG≤999999)∧(YC ⟨Za,Zb⟩ ZF∧YC ⟨Za,Zb⟩ ZC∧YC ⟨Za,Zb⟩ Zw∧YC ⟨Za,Zb⟩ Zy)∧∀ a∈Zl,YH a))
    refine congrArg Value.bool ?_
    refine (decide_eq_false (fun h9=>?_)).symm
    obtain ⟨g1,g2,g3,g4,g5,g6,g7,⟨g8,g81,g82,g83⟩,g9⟩:=h9
    omega
   ·replace hc3:=dF hc3
    refine Zk F.foff32_1 ?_;refine ZH F.lay3 ?_;refine Yz ?_;refine ZK ?_;refine Zv ?_
    refine Yh 18 rfl (fun hc4=>?_) (fun hc4=>?_)
    ·replace hc4:=dT hc4
     iterate 5 refine ZU ?_
     refine ZK ?_;refine Zv ?_
     iterate 5 refine ZU ?_
     refine ZK ?_;refine Zv ?_
     iterate 5 refine ZU ?_
     refine ZK ?_;refine Zv ?_
     iterate 5 refine ZU ?_
     refine ZK ?_;refine Zo (Zn (Y_pk [45,2,1] ?_));refine Xe rfl ?_;refine ZI (Zm (l:=[0]) rfl ?_);refine ZB ?_;refine Zo (Zn (Y_pk [2,1] ?_));refine Yg (YG ?_)
     refine Ya (.inr rfl) (.tmp rfl .nil) (fun w hw=>?_)
     refine ⟨_,rfl,(hw.c),?_⟩
     clear hw
     show _=Value.bool (decide (IsTb (ZL.tb ⟨⟨Za,Zb⟩,⟨Zc,Zh⟩,⟨Zj,Zi,Zg⟩,⟨Zf,Ze,Zd⟩⟩)∧(1≤Zq∧Zq≤8)∧(Zu=true∨ZF≠-1)∧(0≤Zx∧Zx≤159)∧Zl.length≤16∧(0≤ZE∧ZE≤64)∧(0≤ZG∧ZG≤999999)∧(YC ⟨Za,Zb⟩ ZF∧YC ⟨Za,Zb⟩ ZC∧YC ⟨Za,Zb⟩ Zw∧YC ⟨Za,Zb⟩ Zy)∧∀ a∈Zl,YH a))
     refine congrArg Value.bool ?_
     refine (decide_eq_false (fun h9=>?_)).symm
     obtain ⟨g1,g2,g3,g4,g5,g6,g7,⟨g8,g81,g82,g83⟩,g9⟩:=h9
     omega
    ·replace hc4:=dF hc4
     refine ZH F.lay32 ?_;refine Zk F.foff32_3 ?_;refine ZH F.lay3 ?_;refine X_fs rfl rfl F.ok74 rfl (addrN_ok _ ⟨⟨⟨Za,Zb⟩,⟨Zc,Zh⟩,⟨Zj,Zi,Zg⟩,⟨Zf,Ze,Zd⟩⟩,Zq,Zu,ZF,Zx,ZN,ZC,ZA,Zw,Zr,Zy,Zp,Zz,⟨Zt,Zs,Zl⟩,ZE,ZG⟩ _) rfl ?_
     rintro _ rfl
     refine Xx ?_;refine ZK ?_;refine Zv ?_
     refine Yh 25 rfl (fun hc5=>?_) (fun hc5=>?_)
     ·replace hc5:=nT hc5
      simp only [ZD.eta,ZL.eta,ZO.eta,ZM.eta,Yd.eta,ZQ.eta,YI.eta,ZX.eta] at hc5
      iterate 5 refine ZU ?_
      refine ZK ?_;refine Zv ?_
      iterate 5 refine ZU ?_
      refine ZK ?_;refine Zv ?_
      iterate 5 refine ZU ?_
      refine ZK ?_;refine Zo (Zn (Y_pk [45,2,1] ?_));refine Xe rfl ?_;refine ZI (Zm (l:=[0]) rfl ?_);refine ZB ?_;refine Zo (Zn (Y_pk [2,1] ?_));refine Yg (YG ?_)
      refine Ya (.inr rfl) (.tmp rfl .nil) (fun w hw=>?_)
      refine ⟨_,rfl,(hw.c),?_⟩
      clear hw
      show _=Value.bool (decide (IsTb (ZL.tb ⟨⟨Za,Zb⟩,⟨Zc,Zh⟩,⟨Zj,Zi,Zg⟩,⟨Zf,Ze,Zd⟩⟩)∧(1≤Zq∧Zq≤8)∧(Zu=true∨ZF≠-1)∧(0≤Zx∧Zx≤159)∧Zl.length≤16∧(0≤ZE∧ZE≤64)∧(0≤ZG∧ZG≤999999)∧(YC ⟨Za,Zb⟩ ZF∧YC ⟨Za,Zb⟩ ZC∧YC ⟨Za,Zb⟩ Zw∧YC ⟨Za,Zb⟩ Zy)∧∀ a∈Zl,YH a))
      refine congrArg Value.bool ?_
      refine (decide_eq_false (fun h9=>?_)).symm
      obtain ⟨g1,g2,g3,g4,g5,g6,g7,⟨g8,g81,g82,g83⟩,g9⟩:=h9
      contradiction
     ·replace hc5:=nF hc5
      simp only [ZD.eta,ZL.eta,ZO.eta,ZM.eta,Yd.eta,ZQ.eta,YI.eta,ZX.eta] at hc5
      refine ZH F.lay32 ?_;refine Zk F.foff32_6 ?_;refine ZH F.lay3 ?_;refine X_fs rfl rfl F.ok74 rfl (addrN_ok _ ⟨⟨⟨Za,Zb⟩,⟨Zc,Zh⟩,⟨Zj,Zi,Zg⟩,⟨Zf,Ze,Zd⟩⟩,Zq,Zu,ZF,Zx,ZN,ZC,ZA,Zw,Zr,Zy,Zp,Zz,⟨Zt,Zs,Zl⟩,ZE,ZG⟩ _) rfl ?_
      rintro _ rfl
      refine Xx ?_;refine ZK ?_;refine Zv ?_
      refine Yh 32 rfl (fun hc6=>?_) (fun hc6=>?_)
      ·replace hc6:=nT hc6
       simp only [ZD.eta,ZL.eta,ZO.eta,ZM.eta,Yd.eta,ZQ.eta,YI.eta,ZX.eta] at hc6
       iterate 5 refine ZU ?_
       refine ZK ?_;refine Zv ?_
       iterate 5 refine ZU ?_
       refine ZK ?_;refine Zo (Zn (Y_pk [45,2,1] ?_));refine Xe rfl ?_;refine ZI (Zm (l:=[0]) rfl ?_);refine ZB ?_;refine Zo (Zn (Y_pk [2,1] ?_));refine Yg (YG ?_)
       refine Ya (.inr rfl) (.tmp rfl .nil) (fun w hw=>?_)
       refine ⟨_,rfl,(hw.c),?_⟩
       clear hw
       show _=Value.bool (decide (IsTb (ZL.tb ⟨⟨Za,Zb⟩,⟨Zc,Zh⟩,⟨Zj,Zi,Zg⟩,⟨Zf,Ze,Zd⟩⟩)∧(1≤Zq∧Zq≤8)∧(Zu=true∨ZF≠-1)∧(0≤Zx∧Zx≤159)∧Zl.length≤16∧(0≤ZE∧ZE≤64)∧(0≤ZG∧ZG≤999999)∧(YC ⟨Za,Zb⟩ ZF∧YC ⟨Za,Zb⟩ ZC∧YC ⟨Za,Zb⟩ Zw∧YC ⟨Za,Zb⟩ Zy)∧∀ a∈Zl,YH a))
       refine congrArg Value.bool ?_
       refine (decide_eq_false (fun h9=>?_)).symm
       obtain ⟨g1,g2,g3,g4,g5,g6,g7,⟨g8,g81,g82,g83⟩,g9⟩:=h9
       contradiction
      ·replace hc6:=nF hc6
       simp only [ZD.eta,ZL.eta,ZO.eta,ZM.eta,Yd.eta,ZQ.eta,YI.eta,ZX.eta] at hc6
       refine ZH F.lay32 ?_;refine Zk F.foff32_8 ?_;refine ZH F.lay3 ?_;refine X_fs rfl rfl F.ok74 rfl (addrN_ok _ ⟨⟨⟨Za,Zb⟩,⟨Zc,Zh⟩,⟨Zj,Zi,Zg⟩,⟨Zf,Ze,Zd⟩⟩,Zq,Zu,ZF,Zx,ZN,ZC,ZA,Zw,Zr,Zy,Zp,Zz,⟨Zt,Zs,Zl⟩,ZE,ZG⟩ _) rfl ?_
       rintro _ rfl
       refine Xx ?_;refine ZK ?_;refine Zv ?_
       refine Yh 39 rfl (fun hc7=>?_) (fun hc7=>?_)
       ·replace hc7:=nT hc7
        simp only [ZD.eta,ZL.eta,ZO.eta,ZM.eta,Yd.eta,ZQ.eta,YI.eta,ZX.eta] at hc7
        iterate 5 refine ZU ?_
        refine ZK ?_;refine Zo (Zn (Y_pk [45,2,1] ?_));refine Xe rfl ?_;refine ZI (Zm (l:=[0]) rfl ?_);refine ZB ?_;refine Zo (Zn (Y_pk [2,1] ?_));refine Yg (YG ?_)
        refine Ya (.inr rfl) (.tmp rfl .nil) (fun w hw=>?_)
        refine ⟨_,rfl,(hw.c),?_⟩
        clear hw
        show _=Value.bool (decide (IsTb (ZL.tb ⟨⟨Za,Zb⟩,⟨Zc,Zh⟩,⟨Zj,Zi,Zg⟩,⟨Zf,Ze,Zd⟩⟩)∧(1≤Zq∧Zq≤8)∧(Zu=true∨ZF≠-1)∧(0≤Zx∧Zx≤159)∧Zl.length≤16∧(0≤ZE∧ZE≤64)∧(0≤ZG∧ZG≤999999)∧(YC ⟨Za,Zb⟩ ZF∧YC ⟨Za,Zb⟩ ZC∧YC ⟨Za,Zb⟩ Zw∧YC ⟨Za,Zb⟩ Zy)∧∀ a∈Zl,YH a))
        refine congrArg Value.bool ?_
        refine (decide_eq_false (fun h9=>?_)).symm
        obtain ⟨g1,g2,g3,g4,g5,g6,g7,⟨g8,g81,g82,g83⟩,g9⟩:=h9
        contradiction
       ·replace hc7:=nF hc7
        simp only [ZD.eta,ZL.eta,ZO.eta,ZM.eta,Yd.eta,ZQ.eta,YI.eta,ZX.eta] at hc7
        refine ZH F.lay32 ?_;refine Zk F.foff32_10 ?_;refine ZH F.lay3 ?_;refine X_fs rfl rfl F.ok74 rfl (addrN_ok _ ⟨⟨⟨Za,Zb⟩,⟨Zc,Zh⟩,⟨Zj,Zi,Zg⟩,⟨Zf,Ze,Zd⟩⟩,Zq,Zu,ZF,Zx,ZN,ZC,ZA,Zw,Zr,Zy,Zp,Zz,⟨Zt,Zs,Zl⟩,ZE,ZG⟩ _) rfl ?_
        rintro _ rfl
        refine Xx ?_;refine ZK ?_;refine Zo (Zn (Y_pk [45,2,1] ?_))
        refine Yx rfl (fun hc8=>?_) (fun hc8=>?_)
        ·replace hc8:=nT hc8
         simp only [ZD.eta,ZL.eta,ZO.eta,ZM.eta,Yd.eta,ZQ.eta,YI.eta,ZX.eta] at hc8
         refine ZI (Zm (l:=[0]) rfl ?_);refine ZB ?_;refine Zo (Zn (Y_pk [2,1] ?_));refine Yg (YG ?_)
         refine Ya (.inr rfl) (.tmp rfl .nil) (fun w hw=>?_)
         refine ⟨_,rfl,(hw.c),?_⟩
         clear hw
         show _=Value.bool (decide (IsTb (ZL.tb ⟨⟨Za,Zb⟩,⟨Zc,Zh⟩,⟨Zj,Zi,Zg⟩,⟨Zf,Ze,Zd⟩⟩)∧(1≤Zq∧Zq≤8)∧(Zu=true∨ZF≠-1)∧(0≤Zx∧Zx≤159)∧Zl.length≤16∧(0≤ZE∧ZE≤64)∧(0≤ZG∧ZG≤999999)∧(YC ⟨Za,Zb⟩ ZF∧YC ⟨Za,Zb⟩ ZC∧YC ⟨Za,Zb⟩ Zw∧YC ⟨Za,Zb⟩ Zy)∧∀ a∈Zl,YH a))
         refine congrArg Value.bool ?_
         refine (decide_eq_false (fun h9=>?_)).symm
         obtain ⟨g1,g2,g3,g4,g5,g6,g7,⟨g8,g81,g82,g83⟩,g9⟩:=h9
         contradiction
        ·replace hc8:=nF hc8
         simp only [ZD.eta,ZL.eta,ZO.eta,ZM.eta,Yd.eta,ZQ.eta,YI.eta,ZX.eta] at hc8
         refine Yv (Zn (Y_pk [2,1] ?_))
         iterate 2 refine ZI ?_
         refine Zm (l:=[0,1,2,3,4,5,6,7,8,9,10,11,12,13,14,15,16,17,18,19,20,21,22,23,24,25,26,27,28,29,30,31,32,33,34,35,36,37,38,39,40,41,42,43]) rfl ?_;refine Zk F.foff32_2 ?_;refine ZH F.lay4 ?_;refine Xx ?_;refine Zv ?_
         refine Yh 49 rfl (fun hc9=>?_) (fun hc9=>?_)
         ·skip
          refine Zk F.foff32_3 ?_;refine ZH F.lay3 ?_;refine Yz ?_;refine ZK ?_;refine Zv ?_
          refine Yh 54 rfl (fun hc10=>?_) (fun hc10=>?_)
          ·replace hc10:=dT hc10
           iterate 3 refine ZU ?_
           refine ZK ?_;refine Zv ?_
           iterate 3 refine ZU ?_
           refine ZK ?_;refine Zv ?_
           iterate 4 refine ZU ?_
           refine ZK ?_;refine Zv ?_
           iterate 3 refine ZU ?_
           refine ZK ?_;refine Zv ?_
           iterate 3 refine ZU ?_
           refine ZK ?_;refine Zv ?_
           iterate 3 refine ZU ?_
           refine ZK ?_;refine Zv ?_
           iterate 3 refine ZU ?_
           refine ZK ?_;refine Zo (Zn (Y_pk [89,2,1] ?_));refine Xe rfl ?_;refine ZI (Zm (l:=[0]) rfl ?_);refine ZB ?_;refine Zo (Zn (Y_pk [2,1] ?_));refine Yg (YG ?_)
           refine Ya (.inr rfl) (.tmp rfl .nil) (fun w hw=>?_)
           refine ⟨_,rfl,(hw.c),?_⟩
           clear hw
           show _=Value.bool (decide (IsTb (ZL.tb ⟨⟨Za,Zb⟩,⟨Zc,Zh⟩,⟨Zj,Zi,Zg⟩,⟨Zf,Ze,Zd⟩⟩)∧(1≤Zq∧Zq≤8)∧(Zu=true∨ZF≠-1)∧(0≤Zx∧Zx≤159)∧Zl.length≤16∧(0≤ZE∧ZE≤64)∧(0≤ZG∧ZG≤999999)∧(YC ⟨Za,Zb⟩ ZF∧YC ⟨Za,Zb⟩ ZC∧YC ⟨Za,Zb⟩ Zw∧YC ⟨Za,Zb⟩ Zy)∧∀ a∈Zl,YH a))
           refine congrArg Value.bool ?_
           refine (decide_eq_false (fun h9=>?_)).symm
           obtain ⟨g1,g2,g3,g4,g5,g6,g7,⟨g8,g81,g82,g83⟩,g9⟩:=h9
           (obtain ⟨⟨g84,_⟩,_⟩:=g8;rcases g3 with g3|g3 <;> first|(simp_all;done)|omega|(simp_all;omega))
          ·replace hc10:=dF hc10
           refine Zk F.foff32_4 ?_;refine ZH F.lay3 ?_;refine Yz ?_;refine ZK ?_;refine Zv ?_
           refine Yh 59 rfl (fun hc11=>?_) (fun hc11=>?_)
           ·replace hc11:=dT hc11
            iterate 3 refine ZU ?_
            refine ZK ?_;refine Zv ?_
            iterate 4 refine ZU ?_
            refine ZK ?_;refine Zv ?_
            iterate 3 refine ZU ?_
            refine ZK ?_;refine Zv ?_
            iterate 3 refine ZU ?_
            refine ZK ?_;refine Zv ?_
            iterate 3 refine ZU ?_
            refine ZK ?_;refine Zv ?_
            iterate 3 refine ZU ?_
            refine ZK ?_;refine Zo (Zn (Y_pk [89,2,1] ?_));refine Xe rfl ?_;refine ZI (Zm (l:=[0]) rfl ?_);refine ZB ?_;refine Zo (Zn (Y_pk [2,1] ?_));refine Yg (YG ?_)
            refine Ya (.inr rfl) (.tmp rfl .nil) (fun w hw=>?_)
            refine ⟨_,rfl,(hw.c),?_⟩
            clear hw
            show _=Value.bool (decide (IsTb (ZL.tb ⟨⟨Za,Zb⟩,⟨Zc,Zh⟩,⟨Zj,Zi,Zg⟩,⟨Zf,Ze,Zd⟩⟩)∧(1≤Zq∧Zq≤8)∧(Zu=true∨ZF≠-1)∧(0≤Zx∧Zx≤159)∧Zl.length≤16∧(0≤ZE∧ZE≤64)∧(0≤ZG∧ZG≤999999)∧(YC ⟨Za,Zb⟩ ZF∧YC ⟨Za,Zb⟩ ZC∧YC ⟨Za,Zb⟩ Zw∧YC ⟨Za,Zb⟩ Zy)∧∀ a∈Zl,YH a))
            refine congrArg Value.bool ?_
            refine (decide_eq_false (fun h9=>?_)).symm
            obtain ⟨g1,g2,g3,g4,g5,g6,g7,⟨g8,g81,g82,g83⟩,g9⟩:=h9
            omega
           ·replace hc11:=dF hc11
            refine Zk F.foff32_4 ?_;refine ZH F.lay3 ?_;refine Yz ?_;refine ZK ?_;refine Zv ?_
            refine Yh 64 rfl (fun hc12=>?_) (fun hc12=>?_)
            ·replace hc12:=dT hc12
             iterate 4 refine ZU ?_
             refine ZK ?_;refine Zv ?_
             iterate 3 refine ZU ?_
             refine ZK ?_;refine Zv ?_
             iterate 3 refine ZU ?_
             refine ZK ?_;refine Zv ?_
             iterate 3 refine ZU ?_
             refine ZK ?_;refine Zv ?_
             iterate 3 refine ZU ?_
             refine ZK ?_;refine Zo (Zn (Y_pk [89,2,1] ?_));refine Xe rfl ?_;refine ZI (Zm (l:=[0]) rfl ?_);refine ZB ?_;refine Zo (Zn (Y_pk [2,1] ?_));refine Yg (YG ?_)
             refine Ya (.inr rfl) (.tmp rfl .nil) (fun w hw=>?_)
             refine ⟨_,rfl,(hw.c),?_⟩
             clear hw
             show _=Value.bool (decide (IsTb (ZL.tb ⟨⟨Za,Zb⟩,⟨Zc,Zh⟩,⟨Zj,Zi,Zg⟩,⟨Zf,Ze,Zd⟩⟩)∧(1≤Zq∧Zq≤8)∧(Zu=true∨ZF≠-1)∧(0≤Zx∧Zx≤159)∧Zl.length≤16∧(0≤ZE∧ZE≤64)∧(0≤ZG∧ZG≤999999)∧(YC ⟨Za,Zb⟩ ZF∧YC ⟨Za,Zb⟩ ZC∧YC ⟨Za,Zb⟩ Zw∧YC ⟨Za,Zb⟩ Zy)∧∀ a∈Zl,YH a))
             refine congrArg Value.bool ?_
             refine (decide_eq_false (fun h9=>?_)).symm
             obtain ⟨g1,g2,g3,g4,g5,g6,g7,⟨g8,g81,g82,g83⟩,g9⟩:=h9
             omega
            ·replace hc12:=dF hc12
             refine Zk F.foff32_13 ?_;refine ZH F.lay30 ?_;refine YX F.elem30 ?_;refine Yz ?_;refine ZK ?_;refine Zv ?_
             refine Yh 70 rfl (fun hc13=>?_) (fun hc13=>?_)
             ·replace hc13:=dT hc13
              iterate 3 refine ZU ?_
              refine ZK ?_;refine Zv ?_
              iterate 3 refine ZU ?_
              refine ZK ?_;refine Zv ?_
              iterate 3 refine ZU ?_
              refine ZK ?_;refine Zv ?_
              iterate 3 refine ZU ?_
              refine ZK ?_;refine Zo (Zn (Y_pk [89,2,1] ?_));refine Xe rfl ?_;refine ZI (Zm (l:=[0]) rfl ?_);refine ZB ?_;refine Zo (Zn (Y_pk [2,1] ?_));refine Yg (YG ?_)
              refine Ya (.inr rfl) (.tmp rfl .nil) (fun w hw=>?_)
              refine ⟨_,rfl,(hw.c),?_⟩
              clear hw
              show _=Value.bool (decide (IsTb (ZL.tb ⟨⟨Za,Zb⟩,⟨Zc,Zh⟩,⟨Zj,Zi,Zg⟩,⟨Zf,Ze,Zd⟩⟩)∧(1≤Zq∧Zq≤8)∧(Zu=true∨ZF≠-1)∧(0≤Zx∧Zx≤159)∧Zl.length≤16∧(0≤ZE∧ZE≤64)∧(0≤ZG∧ZG≤999999)∧(YC ⟨Za,Zb⟩ ZF∧YC ⟨Za,Zb⟩ ZC∧YC ⟨Za,Zb⟩ Zw∧YC ⟨Za,Zb⟩ Zy)∧∀ a∈Zl,YH a))
              refine congrArg Value.bool ?_
              refine (decide_eq_false (fun h9=>?_)).symm
              obtain ⟨g1,g2,g3,g4,g5,g6,g7,⟨g8,g81,g82,g83⟩,g9⟩:=h9
              omega
             ·replace hc13:=dF hc13
              refine Zk F.foff32_14 ?_;refine ZH F.lay3 ?_;refine Yz ?_;refine ZK ?_;refine Zv ?_
              refine Yh 75 rfl (fun hc14=>?_) (fun hc14=>?_)
              ·replace hc14:=dT hc14
               iterate 3 refine ZU ?_
               refine ZK ?_;refine Zv ?_
               iterate 3 refine ZU ?_
               refine ZK ?_;refine Zv ?_
               iterate 3 refine ZU ?_
               refine ZK ?_;refine Zo (Zn (Y_pk [89,2,1] ?_));refine Xe rfl ?_;refine ZI (Zm (l:=[0]) rfl ?_);refine ZB ?_;refine Zo (Zn (Y_pk [2,1] ?_));refine Yg (YG ?_)
               refine Ya (.inr rfl) (.tmp rfl .nil) (fun w hw=>?_)
               refine ⟨_,rfl,(hw.c),?_⟩
               clear hw
               show _=Value.bool (decide (IsTb (ZL.tb ⟨⟨Za,Zb⟩,⟨Zc,Zh⟩,⟨Zj,Zi,Zg⟩,⟨Zf,Ze,Zd⟩⟩)∧(1≤Zq∧Zq≤8)∧(Zu=true∨ZF≠-1)∧(0≤Zx∧Zx≤159)∧Zl.length≤16∧(0≤ZE∧ZE≤64)∧(0≤ZG∧ZG≤999999)∧(YC ⟨Za,Zb⟩ ZF∧YC ⟨Za,Zb⟩ ZC∧YC ⟨Za,Zb⟩ Zw∧YC ⟨Za,Zb⟩ Zy)∧∀ a∈Zl,YH a))
               refine congrArg Value.bool ?_
               refine (decide_eq_false (fun h9=>?_)).symm
               obtain ⟨g1,g2,g3,g4,g5,g6,g7,⟨g8,g81,g82,g83⟩,g9⟩:=h9
               omega
              ·replace hc14:=dF hc14
               refine Zk F.foff32_14 ?_;refine ZH F.lay3 ?_;refine Yz ?_;refine ZK ?_;refine Zv ?_
               refine Yh 80 rfl (fun hc15=>?_) (fun hc15=>?_)
               ·replace hc15:=dT hc15
                iterate 3 refine ZU ?_
                refine ZK ?_;refine Zv ?_
                iterate 3 refine ZU ?_
                refine ZK ?_;refine Zo (Zn (Y_pk [89,2,1] ?_));refine Xe rfl ?_;refine ZI (Zm (l:=[0]) rfl ?_);refine ZB ?_;refine Zo (Zn (Y_pk [2,1] ?_));refine Yg (YG ?_)
                refine Ya (.inr rfl) (.tmp rfl .nil) (fun w hw=>?_)
                refine ⟨_,rfl,(hw.c),?_⟩
                clear hw
                show _=Value.bool (decide (IsTb (ZL.tb ⟨⟨Za,Zb⟩,⟨Zc,Zh⟩,⟨Zj,Zi,Zg⟩,⟨Zf,Ze,Zd⟩⟩)∧(1≤Zq∧Zq≤8)∧(Zu=true∨ZF≠-1)∧(0≤Zx∧Zx≤159)∧Zl.length≤16∧(0≤ZE∧ZE≤64)∧(0≤ZG∧ZG≤999999)∧(YC ⟨Za,Zb⟩ ZF∧YC ⟨Za,Zb⟩ ZC∧YC ⟨Za,Zb⟩ Zw∧YC ⟨Za,Zb⟩ Zy)∧∀ a∈Zl,YH a))
                refine congrArg Value.bool ?_
                refine (decide_eq_false (fun h9=>?_)).symm
                obtain ⟨g1,g2,g3,g4,g5,g6,g7,⟨g8,g81,g82,g83⟩,g9⟩:=h9
                omega
               ·replace hc15:=dF hc15
                refine Zk F.foff32_15 ?_;refine ZH F.lay3 ?_;refine Yz ?_;refine ZK ?_;refine Zv ?_
                refine Yh 85 rfl (fun hc16=>?_) (fun hc16=>?_)
                ·replace hc16:=dT hc16
                 iterate 3 refine ZU ?_
                 refine ZK ?_;refine Zo (Zn (Y_pk [89,2,1] ?_));refine Xe rfl ?_;refine ZI (Zm (l:=[0]) rfl ?_);refine ZB ?_;refine Zo (Zn (Y_pk [2,1] ?_));refine Yg (YG ?_)
                 refine Ya (.inr rfl) (.tmp rfl .nil) (fun w hw=>?_)
                 refine ⟨_,rfl,(hw.c),?_⟩
                 clear hw
                 show _=Value.bool (decide (IsTb (ZL.tb ⟨⟨Za,Zb⟩,⟨Zc,Zh⟩,⟨Zj,Zi,Zg⟩,⟨Zf,Ze,Zd⟩⟩)∧(1≤Zq∧Zq≤8)∧(Zu=true∨ZF≠-1)∧(0≤Zx∧Zx≤159)∧Zl.length≤16∧(0≤ZE∧ZE≤64)∧(0≤ZG∧ZG≤999999)∧(YC ⟨Za,Zb⟩ ZF∧YC ⟨Za,Zb⟩ ZC∧YC ⟨Za,Zb⟩ Zw∧YC ⟨Za,Zb⟩ Zy)∧∀ a∈Zl,YH a))
                 refine congrArg Value.bool ?_
                 refine (decide_eq_false (fun h9=>?_)).symm
                 obtain ⟨g1,g2,g3,g4,g5,g6,g7,⟨g8,g81,g82,g83⟩,g9⟩:=h9
                 omega
                ·replace hc16:=dF hc16
                 refine Zk F.foff32_15 ?_;refine ZH F.lay3 ?_;refine Yz ?_;refine ZK ?_;refine Zo (Zn (Y_pk [89,2,1] ?_))
                 refine Yx rfl (fun hc17=>?_) (fun hc17=>?_)
                 ·replace hc17:=dT hc17
                  refine ZI (Zm (l:=[0]) rfl ?_);refine ZB ?_;refine Zo (Zn (Y_pk [2,1] ?_));refine Yg (YG ?_)
                  refine Ya (.inr rfl) (.tmp rfl .nil) (fun w hw=>?_)
                  refine ⟨_,rfl,(hw.c),?_⟩
                  clear hw
                  show _=Value.bool (decide (IsTb (ZL.tb ⟨⟨Za,Zb⟩,⟨Zc,Zh⟩,⟨Zj,Zi,Zg⟩,⟨Zf,Ze,Zd⟩⟩)∧(1≤Zq∧Zq≤8)∧(Zu=true∨ZF≠-1)∧(0≤Zx∧Zx≤159)∧Zl.length≤16∧(0≤ZE∧ZE≤64)∧(0≤ZG∧ZG≤999999)∧(YC ⟨Za,Zb⟩ ZF∧YC ⟨Za,Zb⟩ ZC∧YC ⟨Za,Zb⟩ Zw∧YC ⟨Za,Zb⟩ Zy)∧∀ a∈Zl,YH a))
                  refine congrArg Value.bool ?_
                  refine (decide_eq_false (fun h9=>?_)).symm
                  obtain ⟨g1,g2,g3,g4,g5,g6,g7,⟨g8,g81,g82,g83⟩,g9⟩:=h9
                  omega
                 ·replace hc17:=dF hc17
                  refine Yv (Zn (Y_pk [2,1] ?_))
                  iterate 2 refine ZI ?_
                  refine Zm (l:=[0]) rfl ?_;refine ZB ?_;refine Zo (Zn (Xd (Y_pk [3,2,1] ?_)));refine WH (.succ .zero) (fun (k:Nat) z=>z=[(3,.int .i64 (k:Int))]∧k≤Zl.length∧(∀ j (h:j<k) (h2:j<Zl.length),YH Zl[j])) (fun k=>Zl.length-k) (0) (⟨rfl,by omega,by (intro j hj;omega)⟩) ?_
                  rintro k _ ⟨rfl,hk,hI⟩
                  iterate 2 refine ZI ?_
                  refine Zm (l:=[0,1,2,3,4]) rfl ?_;refine Zv ?_;refine Zk F.foff32_13 ?_;refine ZH F.lay30 ?_;refine YX F.elem30 ?_;refine Yz ?_;refine Zo (Zn ?_)
                  refine Yx rfl (fun hc18=>?_) (fun hc18=>?_)
                  ·replace hc18:=dT hc18
                   refine Yv (Zn (ZI (Xd (ZI (Zm (l:=[0,1,2,3,4,5,6,7,8,9,10,11,12,13]) rfl ?_)))));refine Zk F.foff32_13 ?_;refine ZH F.lay30 ?_;refine Zv ?_;refine YR rfl rfl rfl rfl F.elem30 (by rfl) (by omega) (by exact SlM.plain (by assumption) (by (simp;omega))) rfl ?_;refine Xo rfl rfl rfl (by assumption) (by exact XW (by omega)) F.lay3 rfl rfl rfl ?_;refine Yz ?_;refine Zv ?_
                   refine Yh 103 rfl (fun hc19=>?_) (fun hc19=>?_)
                   ·replace hc19:=dT hc19
                    iterate 6 refine ZU ?_
                    refine ZK ?_;refine Zo (Zn (Xe rfl ?_));refine ZI (Zm (l:=[0]) rfl ?_);refine ZB ?_;refine Zo (Zn (Yg (Xi ?_)))
                    iterate 2 refine YG ?_
                    refine Xi (YG ?_)
                    refine Ya (.inr rfl) (.tmp rfl .nil) (fun w hw=>?_)
                    refine ⟨_,rfl,(hw.c),?_⟩
                    clear hw
                    show _=Value.bool (decide (IsTb (ZL.tb ⟨⟨Za,Zb⟩,⟨Zc,Zh⟩,⟨Zj,Zi,Zg⟩,⟨Zf,Ze,Zd⟩⟩)∧(1≤Zq∧Zq≤8)∧(Zu=true∨ZF≠-1)∧(0≤Zx∧Zx≤159)∧Zl.length≤16∧(0≤ZE∧ZE≤64)∧(0≤ZG∧ZG≤999999)∧(YC ⟨Za,Zb⟩ ZF∧YC ⟨Za,Zb⟩ ZC∧YC ⟨Za,Zb⟩ Zw∧YC ⟨Za,Zb⟩ Zy)∧∀ a∈Zl,YH a))
                    refine congrArg Value.bool ?_
                    refine (decide_eq_false (fun h9=>?_)).symm
                    obtain ⟨g1,g2,g3,g4,g5,g6,g7,⟨g8,g81,g82,g83⟩,g9⟩:=h9
                    have h8:=g9 _ (List.getElem_mem (n:=k) (by omega))
                    obtain ⟨h7,h6⟩:=h8
                    omega
                   ·replace hc19:=dF hc19
                    refine Zk F.foff32_13 ?_;refine ZH F.lay30 ?_;refine Zv ?_;refine YR rfl rfl rfl rfl F.elem30 (by rfl) (by omega) (by exact SlM.plain (by assumption) (by (simp;omega))) rfl ?_;refine Xo rfl rfl rfl (by assumption) (by exact XW (by omega)) F.lay3 rfl rfl rfl ?_;refine Yz ?_;refine ZK ?_;refine Zo (Zn ?_)
                    refine Yx rfl (fun hc20=>?_) (fun hc20=>?_)
                    ·replace hc20:=dT hc20
                     refine ZI (Zm (l:=[0]) rfl ?_);refine ZB ?_;refine Zo (Zn (Yg (Xi ?_)))
                     iterate 2 refine YG ?_
                     refine Xi (YG ?_)
                     refine Ya (.inr rfl) (.tmp rfl .nil) (fun w hw=>?_)
                     refine ⟨_,rfl,(hw.c),?_⟩
                     clear hw
                     show _=Value.bool (decide (IsTb (ZL.tb ⟨⟨Za,Zb⟩,⟨Zc,Zh⟩,⟨Zj,Zi,Zg⟩,⟨Zf,Ze,Zd⟩⟩)∧(1≤Zq∧Zq≤8)∧(Zu=true∨ZF≠-1)∧(0≤Zx∧Zx≤159)∧Zl.length≤16∧(0≤ZE∧ZE≤64)∧(0≤ZG∧ZG≤999999)∧(YC ⟨Za,Zb⟩ ZF∧YC ⟨Za,Zb⟩ ZC∧YC ⟨Za,Zb⟩ Zw∧YC ⟨Za,Zb⟩ Zy)∧∀ a∈Zl,YH a))
                     refine congrArg Value.bool ?_
                     refine (decide_eq_false (fun h9=>?_)).symm
                     obtain ⟨g1,g2,g3,g4,g5,g6,g7,⟨g8,g81,g82,g83⟩,g9⟩:=h9
                     have h8:=g9 _ (List.getElem_mem (n:=k) (by omega))
                     obtain ⟨h7,h6⟩:=h8
                     omega
                    ·replace hc20:=dF hc20
                     refine Yv (XV (Zn (Zm (l:=[0,1,2]) rfl ?_)));refine Zv ?_;refine XN rfl rfl rfl rfl rfl (by exact Xn (by decide) (by omega)) rfl ?_;refine ZB ?_;refine Zo ?_;refine WC (a':=[(3,_)]) (k+1) (.cons (k:=3) rfl (.cons (k:=2) rfl (.cons (k:=1) rfl (.nil)))) (fun w hw=>by first|exact hw|exact hw.c) ?_ ?_
                     ·refine ⟨rfl,by omega,?_⟩
                      (intro j hj hj2;rcases Nat.lt_or_ge j k with h9|h9;exact hI j h9 hj2;obtain rfl:j=k:=(by omega);exact ⟨by omega,by omega⟩)
                     ·omega
                  ·replace hc18:=dF hc18
                   refine XS ?_
                   iterate 2 refine XM ?_
                   refine Wl (Zn (Y_pk [2] ?_));refine ZI (Zm (l:=[0]) rfl ?_);refine ZB ?_;refine Zo (Zn (Yg ?_))
                   refine Ya (.inr rfl) (.tmp rfl .nil) (fun w hw=>?_)
                   refine ⟨_,rfl,(hw.c),?_⟩
                   clear hw
                   show _=Value.bool (decide (IsTb (ZL.tb ⟨⟨Za,Zb⟩,⟨Zc,Zh⟩,⟨Zj,Zi,Zg⟩,⟨Zf,Ze,Zd⟩⟩)∧(1≤Zq∧Zq≤8)∧(Zu=true∨ZF≠-1)∧(0≤Zx∧Zx≤159)∧Zl.length≤16∧(0≤ZE∧ZE≤64)∧(0≤ZG∧ZG≤999999)∧(YC ⟨Za,Zb⟩ ZF∧YC ⟨Za,Zb⟩ ZC∧YC ⟨Za,Zb⟩ Zw∧YC ⟨Za,Zb⟩ Zy)∧∀ a∈Zl,YH a))
                   refine congrArg Value.bool ?_
                   exact (decide_eq_true ⟨by assumption,by omega,by first|(simp_all;done)|(cases Zu <;> simp_all <;> omega),by omega,by omega,by omega,by omega,⟨by assumption,by assumption,by assumption,by assumption⟩,fun a ha=>by obtain ⟨j,hj,rfl⟩:=List.getElem_of_mem ha;exact hI j (by omega) hj⟩).symm
         ·skip
          iterate 3 refine ZU ?_
          refine ZK ?_;refine Zv ?_;refine Zk F.foff32_4 ?_;refine ZH F.lay3 ?_;refine Yz ?_;refine ZK ?_;refine Zv ?_
          refine Yh 59 rfl (fun hc21=>?_) (fun hc21=>?_)
          ·replace hc21:=dT hc21
           iterate 3 refine ZU ?_
           refine ZK ?_;refine Zv ?_
           iterate 4 refine ZU ?_
           refine ZK ?_;refine Zv ?_
           iterate 3 refine ZU ?_
           refine ZK ?_;refine Zv ?_
           iterate 3 refine ZU ?_
           refine ZK ?_;refine Zv ?_
           iterate 3 refine ZU ?_
           refine ZK ?_;refine Zv ?_
           iterate 3 refine ZU ?_
           refine ZK ?_;refine Zo (Zn (Y_pk [89,2,1] ?_));refine Xe rfl ?_;refine ZI (Zm (l:=[0]) rfl ?_);refine ZB ?_;refine Zo (Zn (Y_pk [2,1] ?_));refine Yg (YG ?_)
           refine Ya (.inr rfl) (.tmp rfl .nil) (fun w hw=>?_)
           refine ⟨_,rfl,(hw.c),?_⟩
           clear hw
           show _=Value.bool (decide (IsTb (ZL.tb ⟨⟨Za,Zb⟩,⟨Zc,Zh⟩,⟨Zj,Zi,Zg⟩,⟨Zf,Ze,Zd⟩⟩)∧(1≤Zq∧Zq≤8)∧(Zu=true∨ZF≠-1)∧(0≤Zx∧Zx≤159)∧Zl.length≤16∧(0≤ZE∧ZE≤64)∧(0≤ZG∧ZG≤999999)∧(YC ⟨Za,Zb⟩ ZF∧YC ⟨Za,Zb⟩ ZC∧YC ⟨Za,Zb⟩ Zw∧YC ⟨Za,Zb⟩ Zy)∧∀ a∈Zl,YH a))
           refine congrArg Value.bool ?_
           refine (decide_eq_false (fun h9=>?_)).symm
           obtain ⟨g1,g2,g3,g4,g5,g6,g7,⟨g8,g81,g82,g83⟩,g9⟩:=h9
           omega
          ·replace hc21:=dF hc21
           refine Zk F.foff32_4 ?_;refine ZH F.lay3 ?_;refine Yz ?_;refine ZK ?_;refine Zv ?_
           refine Yh 64 rfl (fun hc22=>?_) (fun hc22=>?_)
           ·replace hc22:=dT hc22
            iterate 4 refine ZU ?_
            refine ZK ?_;refine Zv ?_
            iterate 3 refine ZU ?_
            refine ZK ?_;refine Zv ?_
            iterate 3 refine ZU ?_
            refine ZK ?_;refine Zv ?_
            iterate 3 refine ZU ?_
            refine ZK ?_;refine Zv ?_
            iterate 3 refine ZU ?_
            refine ZK ?_;refine Zo (Zn (Y_pk [89,2,1] ?_));refine Xe rfl ?_;refine ZI (Zm (l:=[0]) rfl ?_);refine ZB ?_;refine Zo (Zn (Y_pk [2,1] ?_));refine Yg (YG ?_)
            refine Ya (.inr rfl) (.tmp rfl .nil) (fun w hw=>?_)
            refine ⟨_,rfl,(hw.c),?_⟩
            clear hw
            show _=Value.bool (decide (IsTb (ZL.tb ⟨⟨Za,Zb⟩,⟨Zc,Zh⟩,⟨Zj,Zi,Zg⟩,⟨Zf,Ze,Zd⟩⟩)∧(1≤Zq∧Zq≤8)∧(Zu=true∨ZF≠-1)∧(0≤Zx∧Zx≤159)∧Zl.length≤16∧(0≤ZE∧ZE≤64)∧(0≤ZG∧ZG≤999999)∧(YC ⟨Za,Zb⟩ ZF∧YC ⟨Za,Zb⟩ ZC∧YC ⟨Za,Zb⟩ Zw∧YC ⟨Za,Zb⟩ Zy)∧∀ a∈Zl,YH a))
            refine congrArg Value.bool ?_
            refine (decide_eq_false (fun h9=>?_)).symm
            obtain ⟨g1,g2,g3,g4,g5,g6,g7,⟨g8,g81,g82,g83⟩,g9⟩:=h9
            omega
           ·replace hc22:=dF hc22
            refine Zk F.foff32_13 ?_;refine ZH F.lay30 ?_;refine YX F.elem30 ?_;refine Yz ?_;refine ZK ?_;refine Zv ?_
            refine Yh 70 rfl (fun hc23=>?_) (fun hc23=>?_)
            ·replace hc23:=dT hc23
             iterate 3 refine ZU ?_
             refine ZK ?_;refine Zv ?_
             iterate 3 refine ZU ?_
             refine ZK ?_;refine Zv ?_
             iterate 3 refine ZU ?_
             refine ZK ?_;refine Zv ?_
             iterate 3 refine ZU ?_
             refine ZK ?_;refine Zo (Zn (Y_pk [89,2,1] ?_));refine Xe rfl ?_;refine ZI (Zm (l:=[0]) rfl ?_);refine ZB ?_;refine Zo (Zn (Y_pk [2,1] ?_));refine Yg (YG ?_)
             refine Ya (.inr rfl) (.tmp rfl .nil) (fun w hw=>?_)
             refine ⟨_,rfl,(hw.c),?_⟩
             clear hw
             show _=Value.bool (decide (IsTb (ZL.tb ⟨⟨Za,Zb⟩,⟨Zc,Zh⟩,⟨Zj,Zi,Zg⟩,⟨Zf,Ze,Zd⟩⟩)∧(1≤Zq∧Zq≤8)∧(Zu=true∨ZF≠-1)∧(0≤Zx∧Zx≤159)∧Zl.length≤16∧(0≤ZE∧ZE≤64)∧(0≤ZG∧ZG≤999999)∧(YC ⟨Za,Zb⟩ ZF∧YC ⟨Za,Zb⟩ ZC∧YC ⟨Za,Zb⟩ Zw∧YC ⟨Za,Zb⟩ Zy)∧∀ a∈Zl,YH a))
             refine congrArg Value.bool ?_
             refine (decide_eq_false (fun h9=>?_)).symm
             obtain ⟨g1,g2,g3,g4,g5,g6,g7,⟨g8,g81,g82,g83⟩,g9⟩:=h9
             omega
            ·replace hc23:=dF hc23
             refine Zk F.foff32_14 ?_;refine ZH F.lay3 ?_;refine Yz ?_;refine ZK ?_;refine Zv ?_
             refine Yh 75 rfl (fun hc24=>?_) (fun hc24=>?_)
             ·replace hc24:=dT hc24
              iterate 3 refine ZU ?_
              refine ZK ?_;refine Zv ?_
              iterate 3 refine ZU ?_
              refine ZK ?_;refine Zv ?_
              iterate 3 refine ZU ?_
              refine ZK ?_;refine Zo (Zn (Y_pk [89,2,1] ?_));refine Xe rfl ?_;refine ZI (Zm (l:=[0]) rfl ?_);refine ZB ?_;refine Zo (Zn (Y_pk [2,1] ?_));refine Yg (YG ?_)
              refine Ya (.inr rfl) (.tmp rfl .nil) (fun w hw=>?_)
              refine ⟨_,rfl,(hw.c),?_⟩
              clear hw
              show _=Value.bool (decide (IsTb (ZL.tb ⟨⟨Za,Zb⟩,⟨Zc,Zh⟩,⟨Zj,Zi,Zg⟩,⟨Zf,Ze,Zd⟩⟩)∧(1≤Zq∧Zq≤8)∧(Zu=true∨ZF≠-1)∧(0≤Zx∧Zx≤159)∧Zl.length≤16∧(0≤ZE∧ZE≤64)∧(0≤ZG∧ZG≤999999)∧(YC ⟨Za,Zb⟩ ZF∧YC ⟨Za,Zb⟩ ZC∧YC ⟨Za,Zb⟩ Zw∧YC ⟨Za,Zb⟩ Zy)∧∀ a∈Zl,YH a))
              refine congrArg Value.bool ?_
              refine (decide_eq_false (fun h9=>?_)).symm
              obtain ⟨g1,g2,g3,g4,g5,g6,g7,⟨g8,g81,g82,g83⟩,g9⟩:=h9
              omega
             ·replace hc24:=dF hc24
              refine Zk F.foff32_14 ?_;refine ZH F.lay3 ?_;refine Yz ?_;refine ZK ?_;refine Zv ?_
              refine Yh 80 rfl (fun hc25=>?_) (fun hc25=>?_)
              ·replace hc25:=dT hc25
               iterate 3 refine ZU ?_
               refine ZK ?_;refine Zv ?_
               iterate 3 refine ZU ?_
               refine ZK ?_;refine Zo (Zn (Y_pk [89,2,1] ?_));refine Xe rfl ?_;refine ZI (Zm (l:=[0]) rfl ?_);refine ZB ?_;refine Zo (Zn (Y_pk [2,1] ?_));refine Yg (YG ?_)
               refine Ya (.inr rfl) (.tmp rfl .nil) (fun w hw=>?_)
               refine ⟨_,rfl,(hw.c),?_⟩
               clear hw
               show _=Value.bool (decide (IsTb (ZL.tb ⟨⟨Za,Zb⟩,⟨Zc,Zh⟩,⟨Zj,Zi,Zg⟩,⟨Zf,Ze,Zd⟩⟩)∧(1≤Zq∧Zq≤8)∧(Zu=true∨ZF≠-1)∧(0≤Zx∧Zx≤159)∧Zl.length≤16∧(0≤ZE∧ZE≤64)∧(0≤ZG∧ZG≤999999)∧(YC ⟨Za,Zb⟩ ZF∧YC ⟨Za,Zb⟩ ZC∧YC ⟨Za,Zb⟩ Zw∧YC ⟨Za,Zb⟩ Zy)∧∀ a∈Zl,YH a))
               refine congrArg Value.bool ?_
               refine (decide_eq_false (fun h9=>?_)).symm
               obtain ⟨g1,g2,g3,g4,g5,g6,g7,⟨g8,g81,g82,g83⟩,g9⟩:=h9
               omega
              ·replace hc25:=dF hc25
               refine Zk F.foff32_15 ?_;refine ZH F.lay3 ?_;refine Yz ?_;refine ZK ?_;refine Zv ?_
               refine Yh 85 rfl (fun hc26=>?_) (fun hc26=>?_)
               ·replace hc26:=dT hc26
                iterate 3 refine ZU ?_
                refine ZK ?_;refine Zo (Zn (Y_pk [89,2,1] ?_));refine Xe rfl ?_;refine ZI (Zm (l:=[0]) rfl ?_);refine ZB ?_;refine Zo (Zn (Y_pk [2,1] ?_));refine Yg (YG ?_)
                refine Ya (.inr rfl) (.tmp rfl .nil) (fun w hw=>?_)
                refine ⟨_,rfl,(hw.c),?_⟩
                clear hw
                show _=Value.bool (decide (IsTb (ZL.tb ⟨⟨Za,Zb⟩,⟨Zc,Zh⟩,⟨Zj,Zi,Zg⟩,⟨Zf,Ze,Zd⟩⟩)∧(1≤Zq∧Zq≤8)∧(Zu=true∨ZF≠-1)∧(0≤Zx∧Zx≤159)∧Zl.length≤16∧(0≤ZE∧ZE≤64)∧(0≤ZG∧ZG≤999999)∧(YC ⟨Za,Zb⟩ ZF∧YC ⟨Za,Zb⟩ ZC∧YC ⟨Za,Zb⟩ Zw∧YC ⟨Za,Zb⟩ Zy)∧∀ a∈Zl,YH a))
                refine congrArg Value.bool ?_
                refine (decide_eq_false (fun h9=>?_)).symm
                obtain ⟨g1,g2,g3,g4,g5,g6,g7,⟨g8,g81,g82,g83⟩,g9⟩:=h9
                omega
               ·replace hc26:=dF hc26
                refine Zk F.foff32_15 ?_;refine ZH F.lay3 ?_;refine Yz ?_;refine ZK ?_;refine Zo (Zn (Y_pk [89,2,1] ?_))
                refine Yx rfl (fun hc27=>?_) (fun hc27=>?_)
                ·replace hc27:=dT hc27
                 refine ZI (Zm (l:=[0]) rfl ?_);refine ZB ?_;refine Zo (Zn (Y_pk [2,1] ?_));refine Yg (YG ?_)
                 refine Ya (.inr rfl) (.tmp rfl .nil) (fun w hw=>?_)
                 refine ⟨_,rfl,(hw.c),?_⟩
                 clear hw
                 show _=Value.bool (decide (IsTb (ZL.tb ⟨⟨Za,Zb⟩,⟨Zc,Zh⟩,⟨Zj,Zi,Zg⟩,⟨Zf,Ze,Zd⟩⟩)∧(1≤Zq∧Zq≤8)∧(Zu=true∨ZF≠-1)∧(0≤Zx∧Zx≤159)∧Zl.length≤16∧(0≤ZE∧ZE≤64)∧(0≤ZG∧ZG≤999999)∧(YC ⟨Za,Zb⟩ ZF∧YC ⟨Za,Zb⟩ ZC∧YC ⟨Za,Zb⟩ Zw∧YC ⟨Za,Zb⟩ Zy)∧∀ a∈Zl,YH a))
                 refine congrArg Value.bool ?_
                 refine (decide_eq_false (fun h9=>?_)).symm
                 obtain ⟨g1,g2,g3,g4,g5,g6,g7,⟨g8,g81,g82,g83⟩,g9⟩:=h9
                 omega
                ·replace hc27:=dF hc27
                 refine Yv (Zn (Y_pk [2,1] ?_))
                 iterate 2 refine ZI ?_
                 refine Zm (l:=[0]) rfl ?_;refine ZB ?_;refine Zo (Zn (Xd (Y_pk [3,2,1] ?_)));refine WH (.succ .zero) (fun (k:Nat) z=>z=[(3,.int .i64 (k:Int))]∧k≤Zl.length∧(∀ j (h:j<k) (h2:j<Zl.length),YH Zl[j])) (fun k=>Zl.length-k) (0) (⟨rfl,by omega,by (intro j hj;omega)⟩) ?_
                 rintro k _ ⟨rfl,hk,hI⟩
                 iterate 2 refine ZI ?_
                 refine Zm (l:=[0,1,2,3,4]) rfl ?_;refine Zv ?_;refine Zk F.foff32_13 ?_;refine ZH F.lay30 ?_;refine YX F.elem30 ?_;refine Yz ?_;refine Zo (Zn ?_)
                 refine Yx rfl (fun hc28=>?_) (fun hc28=>?_)
                 ·replace hc28:=dT hc28
                  refine Yv (Zn (ZI (Xd (ZI (Zm (l:=[0,1,2,3,4,5,6,7,8,9,10,11,12,13]) rfl ?_)))));refine Zk F.foff32_13 ?_;refine ZH F.lay30 ?_;refine Zv ?_;refine YR rfl rfl rfl rfl F.elem30 (by rfl) (by omega) (by exact SlM.plain (by assumption) (by (simp;omega))) rfl ?_;refine Xo rfl rfl rfl (by assumption) (by exact XW (by omega)) F.lay3 rfl rfl rfl ?_;refine Yz ?_;refine Zv ?_
                  refine Yh 103 rfl (fun hc29=>?_) (fun hc29=>?_)
                  ·replace hc29:=dT hc29
                   iterate 6 refine ZU ?_
                   refine ZK ?_;refine Zo (Zn (Xe rfl ?_));refine ZI (Zm (l:=[0]) rfl ?_);refine ZB ?_;refine Zo (Zn (Yg (Xi ?_)))
                   iterate 2 refine YG ?_
                   refine Xi (YG ?_)
                   refine Ya (.inr rfl) (.tmp rfl .nil) (fun w hw=>?_)
                   refine ⟨_,rfl,(hw.c),?_⟩
                   clear hw
                   show _=Value.bool (decide (IsTb (ZL.tb ⟨⟨Za,Zb⟩,⟨Zc,Zh⟩,⟨Zj,Zi,Zg⟩,⟨Zf,Ze,Zd⟩⟩)∧(1≤Zq∧Zq≤8)∧(Zu=true∨ZF≠-1)∧(0≤Zx∧Zx≤159)∧Zl.length≤16∧(0≤ZE∧ZE≤64)∧(0≤ZG∧ZG≤999999)∧(YC ⟨Za,Zb⟩ ZF∧YC ⟨Za,Zb⟩ ZC∧YC ⟨Za,Zb⟩ Zw∧YC ⟨Za,Zb⟩ Zy)∧∀ a∈Zl,YH a))
                   refine congrArg Value.bool ?_
                   refine (decide_eq_false (fun h9=>?_)).symm
                   obtain ⟨g1,g2,g3,g4,g5,g6,g7,⟨g8,g81,g82,g83⟩,g9⟩:=h9
                   have h8:=g9 _ (List.getElem_mem (n:=k) (by omega))
                   obtain ⟨h7,h6⟩:=h8
                   omega
                  ·replace hc29:=dF hc29
                   refine Zk F.foff32_13 ?_;refine ZH F.lay30 ?_;refine Zv ?_;refine YR rfl rfl rfl rfl F.elem30 (by rfl) (by omega) (by exact SlM.plain (by assumption) (by (simp;omega))) rfl ?_;refine Xo rfl rfl rfl (by assumption) (by exact XW (by omega)) F.lay3 rfl rfl rfl ?_;refine Yz ?_;refine ZK ?_;refine Zo (Zn ?_)
                   refine Yx rfl (fun hc30=>?_) (fun hc30=>?_)
                   ·replace hc30:=dT hc30
                    refine ZI (Zm (l:=[0]) rfl ?_);refine ZB ?_;refine Zo (Zn (Yg (Xi ?_)))
                    iterate 2 refine YG ?_
                    refine Xi (YG ?_)
                    refine Ya (.inr rfl) (.tmp rfl .nil) (fun w hw=>?_)
                    refine ⟨_,rfl,(hw.c),?_⟩
                    clear hw
                    show _=Value.bool (decide (IsTb (ZL.tb ⟨⟨Za,Zb⟩,⟨Zc,Zh⟩,⟨Zj,Zi,Zg⟩,⟨Zf,Ze,Zd⟩⟩)∧(1≤Zq∧Zq≤8)∧(Zu=true∨ZF≠-1)∧(0≤Zx∧Zx≤159)∧Zl.length≤16∧(0≤ZE∧ZE≤64)∧(0≤ZG∧ZG≤999999)∧(YC ⟨Za,Zb⟩ ZF∧YC ⟨Za,Zb⟩ ZC∧YC ⟨Za,Zb⟩ Zw∧YC ⟨Za,Zb⟩ Zy)∧∀ a∈Zl,YH a))
                    refine congrArg Value.bool ?_
                    refine (decide_eq_false (fun h9=>?_)).symm
                    obtain ⟨g1,g2,g3,g4,g5,g6,g7,⟨g8,g81,g82,g83⟩,g9⟩:=h9
                    have h8:=g9 _ (List.getElem_mem (n:=k) (by omega))
                    obtain ⟨h7,h6⟩:=h8
                    omega
                   ·replace hc30:=dF hc30
                    refine Yv (XV (Zn (Zm (l:=[0,1,2]) rfl ?_)));refine Zv ?_;refine XN rfl rfl rfl rfl rfl (by exact Xn (by decide) (by omega)) rfl ?_;refine ZB ?_;refine Zo ?_;refine WC (a':=[(3,_)]) (k+1) (.cons (k:=3) rfl (.cons (k:=2) rfl (.cons (k:=1) rfl (.nil)))) (fun w hw=>by first|exact hw|exact hw.c) ?_ ?_
                    ·refine ⟨rfl,by omega,?_⟩
                     (intro j hj hj2;rcases Nat.lt_or_ge j k with h9|h9;exact hI j h9 hj2;obtain rfl:j=k:=(by omega);exact ⟨by omega,by omega⟩)
                    ·omega
                 ·replace hc28:=dF hc28
                  refine XS ?_
                  iterate 2 refine XM ?_
                  refine Wl (Zn (Y_pk [2] ?_));refine ZI (Zm (l:=[0]) rfl ?_);refine ZB ?_;refine Zo (Zn (Yg ?_))
                  refine Ya (.inr rfl) (.tmp rfl .nil) (fun w hw=>?_)
                  refine ⟨_,rfl,(hw.c),?_⟩
                  clear hw
                  show _=Value.bool (decide (IsTb (ZL.tb ⟨⟨Za,Zb⟩,⟨Zc,Zh⟩,⟨Zj,Zi,Zg⟩,⟨Zf,Ze,Zd⟩⟩)∧(1≤Zq∧Zq≤8)∧(Zu=true∨ZF≠-1)∧(0≤Zx∧Zx≤159)∧Zl.length≤16∧(0≤ZE∧ZE≤64)∧(0≤ZG∧ZG≤999999)∧(YC ⟨Za,Zb⟩ ZF∧YC ⟨Za,Zb⟩ ZC∧YC ⟨Za,Zb⟩ Zw∧YC ⟨Za,Zb⟩ Zy)∧∀ a∈Zl,YH a))
                  refine congrArg Value.bool ?_
                  exact (decide_eq_true ⟨by assumption,by omega,by first|(simp_all;done)|(cases Zu <;> simp_all <;> omega),by omega,by omega,by omega,by omega,⟨by assumption,by assumption,by assumption,by assumption⟩,fun a ha=>by obtain ⟨j,hj,rfl⟩:=List.getElem_of_mem ha;exact hI j (by omega) hj⟩).symm
end Go.Proofs.YtajmnjefajknoaaGreat
namespace Go.Proofs.YtajmnjefajknoaaGreat
open Go.Esp
theorem F.bld125:Bld Tryz.prog 125 [[.one (.int .i64 0)],[.one (.bool false)]]:=⟨by kernel_rfl,by kernel_rfl⟩
theorem F.elem126:slOf Tryz.prog 126=some (125,2,16):=by kernel_rfl
theorem F.foff125_0:foff Tryz.prog 125 0=some 0:=by kernel_rfl
theorem F.foff125_1:foff Tryz.prog 125 1=some 1:=by kernel_rfl
theorem F.foff44_0:foff Tryz.prog 44 0=some 0:=by kernel_rfl
theorem F.foff44_1:foff Tryz.prog 44 1=some 1:=by kernel_rfl
theorem F.foff44_2:foff Tryz.prog 44 2=some 22:=by kernel_rfl
theorem F.foff44_3:foff Tryz.prog 44 3=some 23:=by kernel_rfl
theorem F.foff44_4:foff Tryz.prog 44 4=some 43:=by kernel_rfl
theorem F.foff44_5:foff Tryz.prog 44 5=some 44:=by kernel_rfl
theorem F.foff44_6:foff Tryz.prog 44 6=some 45:=by kernel_rfl
theorem F.foff44_7:foff Tryz.prog 44 7=some 66:=by kernel_rfl
theorem F.lay125:lay Tryz.prog 125=some (true,2):=by kernel_rfl
theorem F.lay29:lay Tryz.prog 29=some (false,1):=by kernel_rfl
theorem F.lay44:lay Tryz.prog 44=some (true,67):=by kernel_rfl
theorem F.ok75:okFn Tryz.prog 75=true:=by kernel_rfl
theorem F.ok76:okFn Tryz.prog 76=true:=by kernel_rfl
theorem F.ok77:okFn Tryz.prog 77=true:=by kernel_rfl
theorem F.ok79:okFn Tryz.prog 79=true:=by kernel_rfl
theorem F.zero125:Wa Tryz.prog 125=some (aggV [.one (.int .i64 0),.one (.bool false)]):=by kernel_rfl
theorem lodd_ok (M:Mem) (a:Int):Fs Tryz.prog 77 [.int .i64 a] M (fun v=>v=Value.bool (decide (¬(0≤a∧a≤999)))):=by
  refine Xm Tryz.func77 rfl Tryz.ntmps77 rfl ?_;intro H
  refine ZI (Zm (l:=[0]) rfl ?_);refine ZB ?_;refine Zo (Zn (ZI (Zm (l:=[0,1,2,3,4,5,6]) rfl ?_)));refine Zv ?_;refine Yz ?_;refine Zv ?_
  refine Yh 5 rfl (fun hc1=>?_) (fun hc1=>?_)
  ·replace hc1:=dT hc1
   iterate 2 refine ZU ?_
   refine ZK ?_;refine ZB ?_;refine Zo (Zn (Y_pk [2] ?_));refine Yg ?_
   refine Ya (.inr rfl) (.tmp rfl .nil) (fun w hw=>?_)
   refine ⟨_,rfl,(hw.c),?_⟩
   clear hw
   refine congrArg Value.bool ?_
   exact (decide_eq_true (by omega)).symm
  ·replace hc1:=dF hc1
   refine Zv ?_;refine Yz ?_;refine ZK ?_;refine ZB ?_;refine Zo (Zn (Y_pk [2] ?_));refine Yg ?_
   refine Ya (.inr rfl) (.tmp rfl .nil) (fun w hw=>?_)
   refine ⟨_,rfl,(hw.c),?_⟩
   clear hw
   refine congrArg Value.bool ?_
   exact decide_eq_decide.2 ⟨fun h9=>by omega,fun h9=>by omega⟩
theorem loddP_ok (M:Mem) (p:ZD):Fs Tryz.prog 79 [p.enc] M (fun v=>v=Value.bool (decide (¬YH p.addr))):=by
  obtain ⟨Xc,p_id⟩:=p
  refine Xm Tryz.func79 rfl Tryz.ntmps79 rfl ?_;intro H
  refine ZI (Zm (l:=[0,1]) rfl ?_)
  refine Xk ?_;intro b1
  refine ZB ?_;refine Zo (Zn (Y_pk [2,1] ?_));refine ZI (Zm (l:=[0,1,2,3]) rfl ?_);refine Zk F.foff25_0 ?_;refine ZH F.lay3 ?_;refine X_fs rfl rfl F.ok77 rfl (lodd_ok _ _) rfl ?_
  rintro _ rfl
  refine ZB ?_;refine Zo (Zn (Y_pk [2] ?_));refine Yg ?_
  refine Ya (.inr rfl) (.tmp rfl .nil) (fun w hw=>?_)
  refine ⟨_,rfl,(hw.c),?_⟩
  clear hw
  rfl
theorem parts_ok (M:Mem) (k:Int):Fs Tryz.prog 75 [.int .i64 k] M (fun v=>v=.tuple #[.int .i64 (Wz k).1,.bool (Wz k).2]):=by
  refine Xm Tryz.func75 rfl Tryz.ntmps75 rfl ?_;intro H
  refine ZI (Zm (l:=[0,1]) rfl ?_)
  iterate 2 refine ZB ?_
  refine Zo (Zn ?_)
  iterate 2 refine ZI ?_
  refine Zm (l:=[0]) rfl ?_;refine Zv ?_;refine Zo (Zn (Y_pk [4,3,2] ?_));refine Xd (ZI (Zm (l:=[0,1]) rfl ?_));refine Yz ?_;refine ZB ?_;refine Zo (Zn (Y_pk [5,4,3,2] ?_))
  refine Yx rfl (fun hc1=>?_) (fun hc1=>?_)
  ·replace hc1:=dT hc1
   refine ZI (Zm (l:=[0,1]) rfl ?_)
   iterate 2 refine ZB ?_
   refine Zo (Zn (Y_pk [3,2] ?_));refine Yg (Xi (YG ?_))
   refine Ya (.inr rfl) (.tmp rfl (.tmp rfl .nil)) (fun w hw=>?_)
   refine ⟨_,rfl,hw.c,?_⟩
   clear hw
   (subst_vars;rfl)
  ·replace hc1:=dF hc1
   refine ZI (Zm (l:=[0,1]) rfl ?_);refine Yz ?_;refine ZB ?_;refine Zo (Zn (Y_pk [7,4,3,2] ?_))
   refine Yx rfl (fun hc2=>?_) (fun hc2=>?_)
   ·replace hc2:=dT hc2
    refine ZI (Zm (l:=[0,1]) rfl ?_)
    iterate 2 refine ZB ?_
    refine Zo (Zn (Y_pk [3,2] ?_));refine Yg (Xi (YG ?_))
    refine Ya (.inr rfl) (.tmp rfl (.tmp rfl .nil)) (fun w hw=>?_)
    refine ⟨_,rfl,hw.c,?_⟩
    clear hw
    (subst_vars;rfl)
   ·replace hc2:=dF hc2
    iterate 2 refine ZI ?_
    refine Zm (l:=[0,1]) rfl ?_;refine Yz ?_;refine ZB ?_;refine Zo (Zn (Y_pk [9,4,3,2] ?_))
    refine C_part 9 rfl (fun hc3=>?_) (fun hc3=>?_)
    ·replace hc3:=dT hc3
     refine Xe rfl ?_;refine Yv (Zn (Xe rfl ?_));refine ZI (Zm (l:=[0,1]) rfl ?_)
     iterate 2 refine ZB ?_
     refine Zo (Zn (Y_pk [3,2] ?_));refine Yg (Xi (YG ?_))
     refine Ya (.inr rfl) (.tmp rfl (.tmp rfl .nil)) (fun w hw=>?_)
     refine ⟨_,rfl,hw.c,?_⟩
     clear hw
     (subst_vars;rfl)
    ·replace hc3:=dF hc3
     refine Ws rfl ?_;refine ZI (Zm (l:=[0,1]) rfl ?_);refine Yz ?_;refine ZB ?_;refine Zo (Zn (Y_pk [9,4,3,2] ?_))
     refine C_part 9 rfl (fun hc4=>?_) (fun hc4=>?_)
     ·replace hc4:=dT hc4
      refine Xe rfl ?_;refine Yv (Zn (Xe rfl ?_));refine ZI (Zm (l:=[0,1]) rfl ?_)
      iterate 2 refine ZB ?_
      refine Zo (Zn (Y_pk [3,2] ?_));refine Yg (Xi (YG ?_))
      refine Ya (.inr rfl) (.tmp rfl (.tmp rfl .nil)) (fun w hw=>?_)
      refine ⟨_,rfl,hw.c,?_⟩
      clear hw
      (subst_vars;rfl)
     ·replace hc4:=dF hc4
      refine Ws rfl ?_;refine Zm (l:=[0,1]) rfl ?_;refine Yz ?_;refine ZB ?_;refine Zo (Zn (Y_pk [9,4,3,2] ?_))
      refine Yx rfl (fun hc5=>?_) (fun hc5=>?_)
      ·replace hc5:=dT hc5
       refine ZI (Zm (l:=[0,1]) rfl ?_)
       iterate 2 refine ZB ?_
       refine Zo (Zn (Y_pk [3,2] ?_));refine Yg (Xi (YG ?_))
       refine Ya (.inr rfl) (.tmp rfl (.tmp rfl .nil)) (fun w hw=>?_)
       refine ⟨_,rfl,hw.c,?_⟩
       clear hw
       (subst_vars;rfl)
      ·replace hc5:=dF hc5
       refine ZI (Zm (l:=[0,1]) rfl ?_);refine Yz ?_;refine ZB ?_;refine Zo (Zn (Y_pk [13,4,3,2] ?_))
       refine Yx rfl (fun hc6=>?_) (fun hc6=>?_)
       ·replace hc6:=dT hc6
        refine ZI (Zm (l:=[0,1]) rfl ?_)
        iterate 2 refine ZB ?_
        refine Zo (Zn (Y_pk [3,2] ?_));refine Yg (Xi (YG ?_))
        refine Ya (.inr rfl) (.tmp rfl (.tmp rfl .nil)) (fun w hw=>?_)
        refine ⟨_,rfl,hw.c,?_⟩
        clear hw
        (subst_vars;rfl)
       ·replace hc6:=dF hc6
        refine ZI (Zm (l:=[0,1]) rfl ?_);refine Yz ?_;refine ZB ?_;refine Zo (Zn (Y_pk [15,4,3,2] ?_))
        refine Yx rfl (fun hc7=>?_) (fun hc7=>?_)
        ·replace hc7:=dT hc7
         refine ZI (Zm (l:=[0,1]) rfl ?_)
         iterate 2 refine ZB ?_
         refine Zo (Zn (Y_pk [3,2] ?_));refine Yg (Xi (YG ?_))
         refine Ya (.inr rfl) (.tmp rfl (.tmp rfl .nil)) (fun w hw=>?_)
         refine ⟨_,rfl,hw.c,?_⟩
         clear hw
         (subst_vars;rfl)
        ·replace hc7:=dF hc7
         refine ZI (Zm (l:=[0,1]) rfl ?_);refine Yz ?_;refine ZB ?_;refine Zo (Zn (Y_pk [17,3,2] ?_))
         refine Yx rfl (fun hc8=>?_) (fun hc8=>?_)
         ·replace hc8:=dT hc8
          refine ZI (Zm (l:=[0,1]) rfl ?_)
          iterate 2 refine ZB ?_
          refine Zo (Zn (Y_pk [3,2] ?_));refine Yg (Xi (YG ?_))
          refine Ya (.inr rfl) (.tmp rfl (.tmp rfl .nil)) (fun w hw=>?_)
          refine ⟨_,rfl,hw.c,?_⟩
          clear hw
          (subst_vars;rfl)
         ·replace hc8:=dF hc8
          refine Yv (XV (Zn (Y_pk [3,2] ?_)));refine ZI (Zm (l:=[0,1]) rfl ?_)
          iterate 2 refine ZB ?_
          refine Zo (Zn (Yg ?_))
          refine Ya (.inr rfl) (.tmp rfl (.tmp rfl .nil)) (fun w hw=>?_)
          refine ⟨_,rfl,hw.c,?_⟩
          clear hw
          (rw [parts_no (by omega)];rfl)
theorem used_ok (M:Mem) (l:ZM) (hl0:ZM.ok M l):Fs Tryz.prog 76 [l.enc] M (fun v=>v=.int .i64 (VK (VW (!decide (l.req=0)) (!decide (l.id=0)) (decide (0<(l.avoid.l.length:Int))) l.done (!decide (l.peer=YW)) (decide (0<(l.peers.l.length:Int)))))):=by
  obtain ⟨Yk,⟨ZV,YB⟩,YY,l_id,⟨Yo,Yn,ZT⟩,YP,⟨ZP,ZY⟩,⟨Ym,Yf,ZR⟩⟩:=l
  have XT:SlK M (oneI .i64) 1 ⟨Yo,Yn,ZT⟩:=hl0.h0
  have s_l_avoid:SlM M Yo (ZT.map (oneI .i64)) 1:=XT.h1
  have n_l_avoid:(ZT.map (oneI .i64)).length=ZT.length:=List.length_map ..
  have m_l_avoid:ZT.length≤9223372036854775807:=XT.h2
  have c_l_avoid:ZT.length≤Yn:=XT.h3
  have Xh:SlK M ZD.segs 21 ⟨Ym,Yf,ZR⟩:=hl0.h1
  have XX:SlM M Ym (ZR.map ZD.segs) 21:=Xh.h1
  have Vb:(ZR.map ZD.segs).length=ZR.length:=List.length_map ..
  have m_l_peers:ZR.length≤9223372036854775807:=Xh.h2
  have Vd:ZR.length≤Yf:=Xh.h3
  refine Xm Tryz.func76 rfl Tryz.ntmps76 rfl ?_;intro H
  refine ZI (Zm (l:=[0,1]) rfl ?_)
  refine Xk ?_;intro b1
  refine ZB ?_;refine Zo (Zn (Y_pk [2,1] ?_));refine ZI (Zm (l:=[0]) rfl ?_);refine ZB ?_;refine Zo (Zn ?_)
  iterate 2 refine ZI ?_
  refine Yy (l:=[0,1,2,3,4,5,6,7,8,9,10,11,12,13,14,15,16,17,18,19,20,21,22,23,24,25,26,27,28,29]) #[0,1,3,7,0,16,0,112,240,0,512,1536,3584,7680,0,16384,49152,0,131072,0,917504,1966080,0,4194304,12582912,29360128,62914560,134217727,268435455,0] _ rfl (by kernel_rfl) (by kernel_rfl) St.drawn (fun _ h=>h) ?_;refine Zk F.foff44_2 ?_;refine ZH F.lay29 ?_;refine Yz ?_;refine Xg rfl rfl F.bld125 (.cons rfl (by constructor) (.cons rfl (by constructor) .nil)) rfl rfl ?_;refine Zk F.foff44_3 ?_;refine ZH F.lay23 ?_;refine X_build0 rfl rfl F.zero23 F.arr23 rfl ?_
  refine Wf (m:=20) rfl rfl rfl rfl rfl (by constructor) (by constructor) F.lay23 F.kinds23 rfl F.guard23 (Vg WE) (Vg WE) rfl rfl rfl ?_;intro c2 he3
  replace he3:c2=true↔¬(Segs.cells _=Segs.cells _):=he3
  obtain rfl:=neD he3 (cells_id1 (x:=_) (y:=_));clear he3
  refine Xg rfl rfl F.bld125 (.cons rfl (by constructor) (.cons rfl (by constructor) .nil)) rfl rfl ?_;refine Zk F.foff44_4 ?_;refine ZH F.lay30 ?_;refine YX F.elem30 ?_;refine Yz ?_;refine Xg rfl rfl F.bld125 (.cons rfl (by constructor) (.cons rfl (by constructor) .nil)) rfl rfl ?_;refine Zk F.foff44_5 ?_;refine ZH F.lay4 ?_;refine Xg rfl rfl F.bld125 (.cons rfl (by constructor) (.cons rfl (by constructor) .nil)) rfl rfl ?_;refine Zk F.foff44_6 ?_;refine ZH F.lay25 ?_;refine X_fs rfl rfl F.ok66 rfl (WO _) rfl ?_
  rintro _ rfl
  refine WV 25 rfl (show _=aggV [.one (.int .i64 (-1)),Yq 0] from rfl) ?_
  refine Wf (m:=20) rfl rfl rfl rfl rfl (by constructor) (by constructor) F.lay25 F.kinds25 rfl F.guard25 (by exact Xf (⟨_,_⟩)) (by exact Xf (⟨_,_⟩)) rfl rfl rfl ?_;intro c4 he5
  replace he5:c4=true↔¬(Segs.cells _=Segs.cells _):=he5
  obtain rfl:=neD he5 (ZD.inj (x:=⟨_,_⟩) (y:=⟨_,_⟩));clear he5
  refine Xg rfl rfl F.bld125 (.cons rfl (by constructor) (.cons rfl (by constructor) .nil)) rfl rfl ?_;refine Zk F.foff44_7 ?_;refine ZH F.lay26 ?_;refine YX F.elem26 ?_;refine Yz ?_;refine Xg rfl rfl F.bld125 (.cons rfl (by constructor) (.cons rfl (by constructor) .nil)) rfl rfl ?_
  refine XB rfl rfl F.elem126 F.zero125 rfl rfl (.cons rfl (by constructor) (.cons rfl (by constructor) (.cons rfl (by constructor) (.cons rfl (by constructor) (.cons rfl (by constructor) (.cons rfl (by constructor) .nil)))))) rfl rfl (by simp only [List.map_cons,List.map_nil] <;> rfl) rfl ?_;intro b6 hob7
  obtain ⟨HL,hHL⟩:∃ l,VW (!decide (YY=0)) (!decide (l_id=0)) (decide (0<(ZT.length:Int))) YP (!decide ((⟨ZP,ZY⟩:ZD)=YW)) (decide (0<(ZR.length:Int)))=l:=⟨_,rfl⟩
  have ho6:=OSl.as9 hob7 (show _=HL.map YI.segs by rw [← hHL];rfl)
  have hl6:HL.length=6:=by rw [← hHL];rfl
  have n_L6:(HL.map YI.segs).length=HL.length:=List.length_map ..
  refine YX F.elem126 ?_;refine Zv ?_;refine Zo (Zn (Y_pk [35,34,33,3,2] ?_));refine Xd (Y_pk [35,3,34,33,2] ?_);refine WH (.succ (.succ .zero)) (fun (k:Nat) z=>z=[(35,.int .i64 (k:Int)),(3,.int .i64 (VK (HL.take k)))]∧k≤6) (fun k=>6-k) (0) (⟨rfl,by omega⟩) ?_
  rintro k _ ⟨rfl,hk⟩
  refine ZI (Zm (l:=[0]) rfl ?_);refine Yz ?_;refine Zo (Zn (ZI ?_))
  refine Yx rfl (fun hc8=>?_) (fun hc8=>?_)
  ·replace hc8:=dT hc8
   refine Yv (Zn (ZI (Xd (ZI (Zm (l:=[0,1,2,3]) rfl ?_)))));refine YR rfl rfl rfl rfl F.elem126 (by rfl) (by omega) (by exact ⟨_,_,rfl⟩) rfl ?_;refine X_load_osl rfl rfl rfl (by assumption) (by repeat first|exact Rem.here _|exact Rem.two|apply Rem.skip|apply Rem.over) (by exact XW (by omega)) F.lay125 rfl rfl rfl ?_
   obtain ⟨⟨h_part,h_is⟩,hk9⟩:∃ h,HL[k]'(by omega)=h:=⟨_,rfl⟩
   refine WV 38 rfl (show _=aggV (YI.segs ⟨h_part,h_is⟩) from by rw [← hk9];rfl) ?_
   refine YT F.zero125 ?_;intro b9
   refine Yi F.lay125 ?_;refine Zo (Zn (ZI (Zm (l:=[0,1]) rfl ?_)));refine Zk F.foff125_1 ?_;refine ZH F.lay4 ?_;refine Zo (Zn ?_)
   refine Yx rfl (fun hc10=>?_) (fun hc10=>?_)
   ·skip
    refine Zm (l:=[0,1,2,3,4]) rfl ?_;refine Zv ?_;refine Zk F.foff125_0 ?_;refine ZH F.lay3 ?_;refine X_bits rfl rfl rfl rfl rfl rfl rfl ?_;refine ZB ?_;refine Zo (XV (Zn (Zm (l:=[0,1]) rfl ?_)));refine XN rfl rfl rfl rfl rfl (by exact Xn (by decide) (by omega)) rfl ?_;refine Zv ?_;refine Zo ?_;refine WC (a':=[(35,_),(3,_)]) (k+1) (.cons (k:=35) rfl (.cons (k:=3) rfl (.cons (k:=34) rfl (.cons (k:=33) rfl (.cons (k:=2) rfl (.nil)))))) (fun w hw=>by first|exact hw|exact hw.c) ?_ ?_
    ·refine ⟨?_,by omega⟩
     rw [usedH_take (by omega),hk9]
     simp only
     rw [show h_is=true from by assumption]
     rfl
    ·omega
   ·skip
    refine Yv (XV (Zn (Zm (l:=[0,1]) rfl ?_)));refine XN rfl rfl rfl rfl rfl (by exact Xn (by decide) (by omega)) rfl ?_;refine Zv ?_;refine Zo ?_;refine WC (a':=[(35,_),(3,_)]) (k+1) (.cons (k:=35) rfl (.cons (k:=3) rfl (.cons (k:=34) rfl (.cons (k:=33) rfl (.cons (k:=2) rfl (.nil)))))) (fun w hw=>by first|exact hw|exact hw.c) ?_ ?_
    ·refine ⟨?_,by omega⟩
     rw [usedH_take (by omega),hk9]
     simp only
     rw [show h_is=false from by assumption]
     rfl
    ·omega
  ·replace hc8:=dF hc8
   refine XS ?_
   iterate 2 refine XM ?_
   refine Wl (Zn (Y_pk [3,2] ?_));refine ZI (Zm (l:=[0,1]) rfl ?_);refine Zv ?_;refine ZB ?_;refine Zo (Zn (Y_pk [2] ?_));refine Yg ?_
   refine Ya (.inr rfl) (.tmp rfl .nil) (fun w hw=>?_)
   obtain rfl:k=6:=by omega
   refine ⟨_,rfl,hw.c,?_⟩
   clear hw
   rw [List.take_of_length_le (by omega),← hHL]
   rfl
theorem IsL_ok (M:Mem) (l:ZM) (hl0:ZM.ok M l):Fs Tryz.prog 30 [l.enc] M (fun v=>v=Value.bool (decide (IsLt l.lt))):=by
  obtain ⟨Yk,⟨ZV,YB⟩,YY,l_id,⟨Yo,Yn,ZT⟩,YP,⟨ZP,ZY⟩,⟨Ym,Yf,ZR⟩⟩:=l
  have XT:SlK M (oneI .i64) 1 ⟨Yo,Yn,ZT⟩:=hl0.h0
  have s_l_avoid:SlM M Yo (ZT.map (oneI .i64)) 1:=XT.h1
  have n_l_avoid:(ZT.map (oneI .i64)).length=ZT.length:=List.length_map ..
  have m_l_avoid:ZT.length≤9223372036854775807:=XT.h2
  have c_l_avoid:ZT.length≤Yn:=XT.h3
  have Xh:SlK M ZD.segs 21 ⟨Ym,Yf,ZR⟩:=hl0.h1
  have XX:SlM M Ym (ZR.map ZD.segs) 21:=Xh.h1
  have Vb:(ZR.map ZD.segs).length=ZR.length:=List.length_map ..
  have m_l_peers:ZR.length≤9223372036854775807:=Xh.h2
  have Vd:ZR.length≤Yf:=Xh.h3
  refine Xm Tryz.func30 rfl Tryz.ntmps30 rfl ?_;intro H
  refine ZI (Zm (l:=[0,1]) rfl ?_)
  refine Xk ?_;intro b1
  refine ZB ?_;refine Zo (Zn (Y_pk [2,1] ?_));refine ZI (Zm (l:=[0,1,2,3,4,5,6,7]) rfl ?_);refine Zk F.foff44_0 ?_;refine ZH F.lay3 ?_;refine X_fs rfl rfl F.ok75 rfl (parts_ok _ _) rfl ?_
  rintro _ rfl
  refine Zv ?_
  iterate 2 refine Xz ?_
  iterate 2 refine ZB ?_
  refine Zo (Zn (Y_pk [4,3,2,1] ?_));refine ZI (Yy (l:=[0,1,2,3,4]) #[0,1,0,7,15] _ rfl (by kernel_rfl) (by kernel_rfl) St.drawn (fun _ h=>h) ?_);refine Zk F.foff44_6 ?_;refine ZH F.lay25 ?_;refine X_fs rfl rfl F.ok66 rfl (WO _) rfl ?_
  rintro _ rfl
  refine WV 14 rfl (show _=aggV [.one (.int .i64 (-1)),Yq 0] from rfl) ?_
  refine Wf (m:=20) rfl rfl rfl rfl rfl (by constructor) (by constructor) F.lay25 F.kinds25 rfl F.guard25 (by exact Xf (⟨_,_⟩)) (by exact Xf (⟨_,_⟩)) rfl rfl rfl ?_;intro c2 he3
  replace he3:c2=true↔Segs.cells _=Segs.cells _:=he3
  obtain rfl:=eqD he3 (ZD.inj (x:=⟨_,_⟩) (y:=⟨_,_⟩));clear he3
  refine ZB ?_;refine Zo (Zn (Y_pk [5,4,3,2,1] ?_));refine ZI (Xd (ZI (Zm (l:=[0,1,2,3,4,5,6,7,8,9,10,11,12,13,14,15,16,17,18,19,20,21,22,23,24,25,26,27]) rfl ?_)));refine Zv ?_;refine Xx ?_;refine Zv ?_
  refine Yh 19 rfl (fun hc4=>?_) (fun hc4=>?_)
  ·skip
   iterate 5 refine ZU ?_
   refine ZK ?_;refine Zv ?_
   iterate 4 refine ZU ?_
   refine ZK ?_;refine Zv ?_
   iterate 4 refine ZU ?_
   refine ZK ?_;refine Zv ?_
   iterate 4 refine ZU ?_
   refine ZK ?_;refine ZB ?_;refine Zo (Zn (Y_pk [16,5,2,1] ?_));refine Xe rfl ?_;refine ZI (Zm (l:=[0]) rfl ?_);refine ZB ?_;refine Zo (Zn (Y_pk [2,1] ?_));refine Yg (Xi (YG ?_))
   refine Ya (.inr rfl) (.tmp rfl .nil) (fun w hw=>?_)
   refine ⟨_,rfl,(hw.c),?_⟩
   clear hw
   show _=Value.bool (decide ((1≤Yk∧Yk≤8)∧YH ZV∧ZT.length≤16∧ZR.length≤8∧((⟨ZP,ZY⟩:ZD)=YW∨YH ZP)∧¬((⟨ZP,ZY⟩:ZD)=YW∧Yk=2)∧(Vn Yk∨YY=0)∧(Yk=1∨l_id=0)∧(Yk=1∨ZT=[])∧(Yk=2∨YP=false)∧(WN Yk∨(⟨ZP,ZY⟩:ZD)=YW)∧(Wr Yk∨ZR=[])∧(∀ a∈ZT,YH a)∧∀ p∈ZR,YH p.addr))
   refine congrArg Value.bool ?_
   refine (decide_eq_false (fun h9=>?_)).symm
   obtain ⟨g1,g2,g3,g4,g5,g6,g7,g8,g9,g10,g11,g12,g13,g14⟩:=h9
   have h7:=parts_yes (k:=Yk)
   (have h8:=h7.2 g1;simp_all;done)
  ·skip
   refine ZH F.lay44 ?_;refine X_fs rfl rfl F.ok76 rfl (used_ok _ ⟨Yk,⟨ZV,YB⟩,YY,l_id,⟨Yo,Yn,ZT⟩,YP,⟨ZP,ZY⟩,⟨Ym,Yf,ZR⟩⟩ hl0) rfl ?_
   rintro _ rfl
   refine Zv ?_;refine X_bits rfl rfl rfl rfl rfl rfl rfl ?_;refine Yz ?_;refine ZK ?_;refine Zv ?_
   refine Yh 26 rfl (fun hc5=>?_) (fun hc5=>?_)
   ·replace hc5:=nT hc5
    simp only [ZD.eta,ZL.eta,ZO.eta,ZM.eta,Yd.eta,ZQ.eta,YI.eta,ZX.eta] at hc5
    iterate 4 refine ZU ?_
    refine ZK ?_;refine Zv ?_
    iterate 4 refine ZU ?_
    refine ZK ?_;refine Zv ?_
    iterate 4 refine ZU ?_
    refine ZK ?_;refine ZB ?_;refine Zo (Zn (Y_pk [16,5,2,1] ?_));refine Xe rfl ?_;refine ZI (Zm (l:=[0]) rfl ?_);refine ZB ?_;refine Zo (Zn (Y_pk [2,1] ?_));refine Yg (Xi (YG ?_))
    refine Ya (.inr rfl) (.tmp rfl .nil) (fun w hw=>?_)
    refine ⟨_,rfl,(hw.c),?_⟩
    clear hw
    show _=Value.bool (decide ((1≤Yk∧Yk≤8)∧YH ZV∧ZT.length≤16∧ZR.length≤8∧((⟨ZP,ZY⟩:ZD)=YW∨YH ZP)∧¬((⟨ZP,ZY⟩:ZD)=YW∧Yk=2)∧(Vn Yk∨YY=0)∧(Yk=1∨l_id=0)∧(Yk=1∨ZT=[])∧(Yk=2∨YP=false)∧(WN Yk∨(⟨ZP,ZY⟩:ZD)=YW)∧(Wr Yk∨ZR=[])∧(∀ a∈ZT,YH a)∧∀ p∈ZR,YH p.addr))
    refine congrArg Value.bool ?_
    refine (decide_eq_false (fun h9=>?_)).symm
    obtain ⟨g1,g2,g3,g4,g5,g6,g7,g8,g9,g10,g11,g12,g13,g14⟩:=h9
    have hp8:(Wz Yk).2=true:=by first|assumption|(have h9:(!(Wz Yk).2)=false:=(by assumption);simpa using h9)
    exact absurd ((used_parts hp8 _ _ _ _ _ _).2 ⟨g7.imp id (fun h=>by simp [h]),g8.imp id (fun h=>by simp [h]),g9.imp id (fun h=>by simp [h]),g10,g11.imp id (fun h=>by simp [h]),g12.imp id (fun h=>by simp [h])⟩) (show ¬notK (VK (VW (!decide (YY=0)) (!decide (l_id=0)) (decide (0<(ZT.length:Int))) YP (!decide ((⟨ZP,ZY⟩:ZD)=YW)) (decide (0<(ZR.length:Int))))) (Wz Yk).1=0 by assumption)
   ·replace hc5:=nF hc5
    simp only [ZD.eta,ZL.eta,ZO.eta,ZM.eta,Yd.eta,ZQ.eta,YI.eta,ZX.eta] at hc5
    refine Zk F.foff44_1 ?_;refine Zk F.foff25_0 ?_;refine ZH F.lay3 ?_;refine X_fs rfl rfl F.ok77 rfl (lodd_ok _ _) rfl ?_
    rintro _ rfl
    refine ZK ?_;refine Zv ?_
    refine Yh 32 rfl (fun hc6=>?_) (fun hc6=>?_)
    ·replace hc6:=dT hc6
     iterate 4 refine ZU ?_
     refine ZK ?_;refine Zv ?_
     iterate 4 refine ZU ?_
     refine ZK ?_;refine ZB ?_;refine Zo (Zn (Y_pk [16,5,2,1] ?_));refine Xe rfl ?_;refine ZI (Zm (l:=[0]) rfl ?_);refine ZB ?_;refine Zo (Zn (Y_pk [2,1] ?_));refine Yg (Xi (YG ?_))
     refine Ya (.inr rfl) (.tmp rfl .nil) (fun w hw=>?_)
     refine ⟨_,rfl,(hw.c),?_⟩
     clear hw
     show _=Value.bool (decide ((1≤Yk∧Yk≤8)∧YH ZV∧ZT.length≤16∧ZR.length≤8∧((⟨ZP,ZY⟩:ZD)=YW∨YH ZP)∧¬((⟨ZP,ZY⟩:ZD)=YW∧Yk=2)∧(Vn Yk∨YY=0)∧(Yk=1∨l_id=0)∧(Yk=1∨ZT=[])∧(Yk=2∨YP=false)∧(WN Yk∨(⟨ZP,ZY⟩:ZD)=YW)∧(Wr Yk∨ZR=[])∧(∀ a∈ZT,YH a)∧∀ p∈ZR,YH p.addr))
     refine congrArg Value.bool ?_
     refine (decide_eq_false (fun h9=>?_)).symm
     obtain ⟨g1,g2,g3,g4,g5,g6,g7,g8,g9,g10,g11,g12,g13,g14⟩:=h9
     contradiction
    ·replace hc6:=dF hc6
     simp only [Classical.not_not] at hc6
     refine Zk F.foff44_4 ?_;refine ZH F.lay30 ?_;refine YX F.elem30 ?_;refine Yz ?_;refine ZK ?_;refine Zv ?_
     refine Yh 38 rfl (fun hc7=>?_) (fun hc7=>?_)
     ·replace hc7:=dT hc7
      iterate 4 refine ZU ?_
      refine ZK ?_;refine ZB ?_;refine Zo (Zn (Y_pk [16,5,2,1] ?_));refine Xe rfl ?_;refine ZI (Zm (l:=[0]) rfl ?_);refine ZB ?_;refine Zo (Zn (Y_pk [2,1] ?_));refine Yg (Xi (YG ?_))
      refine Ya (.inr rfl) (.tmp rfl .nil) (fun w hw=>?_)
      refine ⟨_,rfl,(hw.c),?_⟩
      clear hw
      show _=Value.bool (decide ((1≤Yk∧Yk≤8)∧YH ZV∧ZT.length≤16∧ZR.length≤8∧((⟨ZP,ZY⟩:ZD)=YW∨YH ZP)∧¬((⟨ZP,ZY⟩:ZD)=YW∧Yk=2)∧(Vn Yk∨YY=0)∧(Yk=1∨l_id=0)∧(Yk=1∨ZT=[])∧(Yk=2∨YP=false)∧(WN Yk∨(⟨ZP,ZY⟩:ZD)=YW)∧(Wr Yk∨ZR=[])∧(∀ a∈ZT,YH a)∧∀ p∈ZR,YH p.addr))
      refine congrArg Value.bool ?_
      refine (decide_eq_false (fun h9=>?_)).symm
      obtain ⟨g1,g2,g3,g4,g5,g6,g7,g8,g9,g10,g11,g12,g13,g14⟩:=h9
      omega
     ·replace hc7:=dF hc7
      refine Zk F.foff44_7 ?_;refine ZH F.lay26 ?_;refine YX F.elem26 ?_;refine Yz ?_;refine ZK ?_;refine ZB ?_;refine Zo (Zn (Y_pk [16,5,2,1] ?_))
      refine Yx rfl (fun hc8=>?_) (fun hc8=>?_)
      ·replace hc8:=dT hc8
       refine ZI (Zm (l:=[0]) rfl ?_);refine ZB ?_;refine Zo (Zn (Y_pk [2,1] ?_));refine Yg (Xi (YG ?_))
       refine Ya (.inr rfl) (.tmp rfl .nil) (fun w hw=>?_)
       refine ⟨_,rfl,(hw.c),?_⟩
       clear hw
       show _=Value.bool (decide ((1≤Yk∧Yk≤8)∧YH ZV∧ZT.length≤16∧ZR.length≤8∧((⟨ZP,ZY⟩:ZD)=YW∨YH ZP)∧¬((⟨ZP,ZY⟩:ZD)=YW∧Yk=2)∧(Vn Yk∨YY=0)∧(Yk=1∨l_id=0)∧(Yk=1∨ZT=[])∧(Yk=2∨YP=false)∧(WN Yk∨(⟨ZP,ZY⟩:ZD)=YW)∧(Wr Yk∨ZR=[])∧(∀ a∈ZT,YH a)∧∀ p∈ZR,YH p.addr))
       refine congrArg Value.bool ?_
       refine (decide_eq_false (fun h9=>?_)).symm
       obtain ⟨g1,g2,g3,g4,g5,g6,g7,g8,g9,g10,g11,g12,g13,g14⟩:=h9
       omega
      ·replace hc8:=dF hc8
       refine ZI (Zm (l:=[0,1,2,3,4,5,6,7,8,9,10,11,12,13,14,15,16]) rfl ?_)
       iterate 2 refine Zv ?_
       refine Yh 46 rfl (fun hc9=>?_) (fun hc9=>?_)
       ·replace hc9:=dT hc9
        refine Zk F.foff44_0 ?_;refine ZH F.lay3 ?_;refine Yz ?_;refine ZK ?_;refine Zv ?_
        refine Yh 51 rfl (fun hc10=>?_) (fun hc10=>?_)
        ·replace hc10:=dT hc10
         iterate 8 refine ZU ?_
         refine ZK ?_;refine ZB ?_;refine Zo (Zn (Y_pk [44,2,1] ?_));refine Xe rfl ?_;refine ZI (Zm (l:=[0]) rfl ?_);refine ZB ?_;refine Zo (Zn (Y_pk [2,1] ?_));refine Yg (Xi (YG ?_))
         refine Ya (.inr rfl) (.tmp rfl .nil) (fun w hw=>?_)
         refine ⟨_,rfl,(hw.c),?_⟩
         clear hw
         show _=Value.bool (decide ((1≤Yk∧Yk≤8)∧YH ZV∧ZT.length≤16∧ZR.length≤8∧((⟨ZP,ZY⟩:ZD)=YW∨YH ZP)∧¬((⟨ZP,ZY⟩:ZD)=YW∧Yk=2)∧(Vn Yk∨YY=0)∧(Yk=1∨l_id=0)∧(Yk=1∨ZT=[])∧(Yk=2∨YP=false)∧(WN Yk∨(⟨ZP,ZY⟩:ZD)=YW)∧(Wr Yk∨ZR=[])∧(∀ a∈ZT,YH a)∧∀ p∈ZR,YH p.addr))
         refine congrArg Value.bool ?_
         refine (decide_eq_false (fun h9=>?_)).symm
         obtain ⟨g1,g2,g3,g4,g5,g6,g7,g8,g9,g10,g11,g12,g13,g14⟩:=h9
         (simp_all [YH];done)
        ·replace hc10:=dF hc10
         refine Zv ?_;refine Xx ?_;refine Zv ?_
         refine Yh 54 rfl (fun hc11=>?_) (fun hc11=>?_)
         ·replace hc11:=nT hc11
          contradiction
         ·replace hc11:=nF hc11
          iterate 4 refine ZU ?_
          iterate 2 refine ZK ?_
          refine ZB ?_;refine Zo (Zn (Y_pk [44,2,1] ?_));refine Ws rfl ?_;refine Yv (XV (Zn (Y_pk [2,1] ?_)));refine ZI (Zm (l:=[0,1,2,3,4,5,6,7,8,9,10]) rfl ?_);refine Zk F.foff44_4 ?_;refine ZH F.lay30 ?_;refine X_fo rfl rfl F.ok71 rfl ((ContainsFI_rd M [] ⟨Yo,Yn,ZT⟩ 77 [] (fun a=>decide (¬(0≤a∧a≤999))) (s_l_avoid.rd []) m_l_avoid F.ok77 (fun x hx=>(lodd_ok M x).foE []))) (by repeat first|exact Rem.here _|exact Rem.two|apply Rem.skip|apply Rem.over) (YA rfl) ?_
          rintro _ M1 _ ⟨hM1,rfl⟩;subst M1
          refine Xx ?_;refine Zv ?_
          refine Yh 65 rfl (fun hc14=>?_) (fun hc14=>?_)
          ·skip
           simp only [ZD.eta,ZL.eta,ZO.eta,ZM.eta,Yd.eta,ZQ.eta,YI.eta,ZX.eta] at hc14
           refine Zk F.foff44_7 ?_;refine ZH F.lay26 ?_;refine X_fo rfl rfl F.ok78 rfl ((ContainsFP_rd M [] ⟨Ym,Yf,ZR⟩ 79 [] (fun p=>decide (¬YH p.addr)) (XX.rd []) m_l_peers F.ok79 (fun x hx=>(loddP_ok M x).foE []))) (by repeat first|exact Rem.here _|exact Rem.two|apply Rem.skip|apply Rem.over) (YA rfl) ?_
           rintro _ M1 _ ⟨hM1,rfl⟩;subst M1
           refine Xx ?_;refine ZK ?_;refine ZB ?_;refine Zo (Zn (Y_pk [2] ?_));refine Yg ?_
           refine Ya (.inr rfl) (.tmp rfl .nil) (fun w hw=>?_)
           refine ⟨_,rfl,(hw.c),?_⟩
           clear hw
           have hp8:(Wz Yk).2=true:=by first|assumption|(have h9:(!(Wz Yk).2)=false:=(by assumption);simpa using h9)
           have hp9:=parts_yes.1 hp8
           have hu9:=(used_parts hp8 _ _ _ _ _ _).1 (show notK (VK (VW (!decide (YY=0)) (!decide (l_id=0)) (decide (0<(ZT.length:Int))) YP (!decide ((⟨ZP,ZY⟩:ZD)=YW)) (decide (0<(ZR.length:Int))))) (Wz Yk).1=0 by assumption)
           simp only [decide_eq_false_iff_not,Bool.not_eq_false',decide_eq_true_eq] at hu9
           obtain ⟨u1,u2,u3,u4,u5,u6⟩:=hu9
           have u3:Yk=1∨ZT=[]:=u3.imp id (fun h=>List.eq_nil_of_length_eq_zero (by omega))
           have u6:Wr Yk∨ZR=[]:=u6.imp id (fun h=>List.eq_nil_of_length_eq_zero (by omega))
           show _=Value.bool (decide ((1≤Yk∧Yk≤8)∧YH ZV∧ZT.length≤16∧ZR.length≤8∧((⟨ZP,ZY⟩:ZD)=YW∨YH ZP)∧¬((⟨ZP,ZY⟩:ZD)=YW∧Yk=2)∧(Vn Yk∨YY=0)∧(Yk=1∨l_id=0)∧(Yk=1∨ZT=[])∧(Yk=2∨YP=false)∧(WN Yk∨(⟨ZP,ZY⟩:ZD)=YW)∧(Wr Yk∨ZR=[])∧(∀ a∈ZT,YH a)∧∀ p∈ZR,YH p.addr))
           refine congrArg Value.bool ?_
           have h6:=any_odd (l:=ZT)
           have h7:=any_oddP (l:=ZR)
           have hA:(ZT.any fun a=>decide (¬(0≤a∧a≤999)))=false:=by first|assumption|(simp_all;done)
           obtain ⟨C,hC⟩:∃ b,(ZR.any fun p=>decide (¬YH p.addr))=b:=⟨_,rfl⟩
           rw [hC] at h7 ⊢
           have hpe:(⟨ZP,ZY⟩:ZD)=YW∨YH ZP:=by first|exact .inl (by assumption)|exact .inr ⟨by omega,by omega⟩|(simp_all;done)
           have hf2:¬((⟨ZP,ZY⟩:ZD)=YW∧Yk=2):=by first|(rintro ⟨q1,q2⟩;first|contradiction|omega|(simp_all;done))
           cases C
           ·exact (decide_eq_true ⟨hp9,⟨by omega,by omega⟩,by omega,by omega,hpe,hf2,u1,u2,u3,u4,u5,u6,h6.1 hA,h7.1 rfl⟩).symm
           ·exact (decide_eq_false (fun h9=>by have h8:=h7.2 h9.2.2.2.2.2.2.2.2.2.2.2.2.2;cases h8)).symm
          ·skip
           simp only [ZD.eta,ZL.eta,ZO.eta,ZM.eta,Yd.eta,ZQ.eta,YI.eta,ZX.eta] at hc14
           iterate 4 refine ZU ?_
           refine ZK ?_;refine ZB ?_;refine Zo (Zn (Y_pk [2] ?_));refine Yg ?_
           refine Ya (.inr rfl) (.tmp rfl .nil) (fun w hw=>?_)
           refine ⟨_,rfl,(hw.c),?_⟩
           clear hw
           show _=Value.bool (decide ((1≤Yk∧Yk≤8)∧YH ZV∧ZT.length≤16∧ZR.length≤8∧((⟨ZP,ZY⟩:ZD)=YW∨YH ZP)∧¬((⟨ZP,ZY⟩:ZD)=YW∧Yk=2)∧(Vn Yk∨YY=0)∧(Yk=1∨l_id=0)∧(Yk=1∨ZT=[])∧(Yk=2∨YP=false)∧(WN Yk∨(⟨ZP,ZY⟩:ZD)=YW)∧(Wr Yk∨ZR=[])∧(∀ a∈ZT,YH a)∧∀ p∈ZR,YH p.addr))
           refine congrArg Value.bool ?_
           refine (decide_eq_false (fun h9=>?_)).symm
           obtain ⟨g1,g2,g3,g4,g5,g6,g7,g8,g9,g10,g11,g12,g13,g14⟩:=h9
           have h6:=(any_odd (l:=ZT)).2 g13
           have hq:(ZT.any fun a=>decide (¬(0≤a∧a≤999)))=true:=by first|assumption|(have h9:(!(ZT.any fun a=>decide (¬(0≤a∧a≤999))))=false:=(by assumption);simpa using h9)
           exact Bool.noConfusion (h6.symm.trans hq)
       ·replace hc9:=dF hc9
        iterate 3 refine ZU ?_
        refine ZK ?_
        iterate 2 refine Zv ?_
        refine Xx ?_;refine Zv ?_
        refine Yh 54 rfl (fun hc15=>?_) (fun hc15=>?_)
        ·replace hc15:=nT hc15
         refine Zk F.foff44_6 ?_;refine Zk F.foff25_0 ?_;refine ZH F.lay3 ?_;refine X_fs rfl rfl F.ok77 rfl (lodd_ok _ _) rfl ?_
         rintro _ rfl
         iterate 2 refine ZK ?_
         refine ZB ?_;refine Zo (Zn (Y_pk [44,2,1] ?_))
         refine Yx rfl (fun hc16=>?_) (fun hc16=>?_)
         ·replace hc16:=dT hc16
          refine ZI (Zm (l:=[0]) rfl ?_);refine ZB ?_;refine Zo (Zn (Y_pk [2,1] ?_));refine Yg (Xi (YG ?_))
          refine Ya (.inr rfl) (.tmp rfl .nil) (fun w hw=>?_)
          refine ⟨_,rfl,(hw.c),?_⟩
          clear hw
          show _=Value.bool (decide ((1≤Yk∧Yk≤8)∧YH ZV∧ZT.length≤16∧ZR.length≤8∧((⟨ZP,ZY⟩:ZD)=YW∨YH ZP)∧¬((⟨ZP,ZY⟩:ZD)=YW∧Yk=2)∧(Vn Yk∨YY=0)∧(Yk=1∨l_id=0)∧(Yk=1∨ZT=[])∧(Yk=2∨YP=false)∧(WN Yk∨(⟨ZP,ZY⟩:ZD)=YW)∧(Wr Yk∨ZR=[])∧(∀ a∈ZT,YH a)∧∀ p∈ZR,YH p.addr))
          refine congrArg Value.bool ?_
          refine (decide_eq_false (fun h9=>?_)).symm
          obtain ⟨g1,g2,g3,g4,g5,g6,g7,g8,g9,g10,g11,g12,g13,g14⟩:=h9
          (rcases g5 with g5|⟨g51,g52⟩ <;> first|contradiction|omega|(simp_all [YW];done))
         ·replace hc16:=dF hc16
          simp only [Classical.not_not] at hc16
          refine Yv (XV (Zn (Y_pk [2,1] ?_)));refine ZI (Zm (l:=[0,1,2,3,4,5,6,7,8,9,10]) rfl ?_);refine Zk F.foff44_4 ?_;refine ZH F.lay30 ?_;refine X_fo rfl rfl F.ok71 rfl ((ContainsFI_rd M [] ⟨Yo,Yn,ZT⟩ 77 [] (fun a=>decide (¬(0≤a∧a≤999))) (s_l_avoid.rd []) m_l_avoid F.ok77 (fun x hx=>(lodd_ok M x).foE []))) (by repeat first|exact Rem.here _|exact Rem.two|apply Rem.skip|apply Rem.over) (YA rfl) ?_
          rintro _ M1 _ ⟨hM1,rfl⟩;subst M1
          refine Xx ?_;refine Zv ?_
          refine Yh 65 rfl (fun hc17=>?_) (fun hc17=>?_)
          ·skip
           simp only [ZD.eta,ZL.eta,ZO.eta,ZM.eta,Yd.eta,ZQ.eta,YI.eta,ZX.eta] at hc17
           refine Zk F.foff44_7 ?_;refine ZH F.lay26 ?_;refine X_fo rfl rfl F.ok78 rfl ((ContainsFP_rd M [] ⟨Ym,Yf,ZR⟩ 79 [] (fun p=>decide (¬YH p.addr)) (XX.rd []) m_l_peers F.ok79 (fun x hx=>(loddP_ok M x).foE []))) (by repeat first|exact Rem.here _|exact Rem.two|apply Rem.skip|apply Rem.over) (YA rfl) ?_
           rintro _ M1 _ ⟨hM1,rfl⟩;subst M1
           refine Xx ?_;refine ZK ?_;refine ZB ?_;refine Zo (Zn (Y_pk [2] ?_));refine Yg ?_
           refine Ya (.inr rfl) (.tmp rfl .nil) (fun w hw=>?_)
           refine ⟨_,rfl,(hw.c),?_⟩
           clear hw
           have hp8:(Wz Yk).2=true:=by first|assumption|(have h9:(!(Wz Yk).2)=false:=(by assumption);simpa using h9)
           have hp9:=parts_yes.1 hp8
           have hu9:=(used_parts hp8 _ _ _ _ _ _).1 (show notK (VK (VW (!decide (YY=0)) (!decide (l_id=0)) (decide (0<(ZT.length:Int))) YP (!decide ((⟨ZP,ZY⟩:ZD)=YW)) (decide (0<(ZR.length:Int))))) (Wz Yk).1=0 by assumption)
           simp only [decide_eq_false_iff_not,Bool.not_eq_false',decide_eq_true_eq] at hu9
           obtain ⟨u1,u2,u3,u4,u5,u6⟩:=hu9
           have u3:Yk=1∨ZT=[]:=u3.imp id (fun h=>List.eq_nil_of_length_eq_zero (by omega))
           have u6:Wr Yk∨ZR=[]:=u6.imp id (fun h=>List.eq_nil_of_length_eq_zero (by omega))
           show _=Value.bool (decide ((1≤Yk∧Yk≤8)∧YH ZV∧ZT.length≤16∧ZR.length≤8∧((⟨ZP,ZY⟩:ZD)=YW∨YH ZP)∧¬((⟨ZP,ZY⟩:ZD)=YW∧Yk=2)∧(Vn Yk∨YY=0)∧(Yk=1∨l_id=0)∧(Yk=1∨ZT=[])∧(Yk=2∨YP=false)∧(WN Yk∨(⟨ZP,ZY⟩:ZD)=YW)∧(Wr Yk∨ZR=[])∧(∀ a∈ZT,YH a)∧∀ p∈ZR,YH p.addr))
           refine congrArg Value.bool ?_
           have h6:=any_odd (l:=ZT)
           have h7:=any_oddP (l:=ZR)
           have hA:(ZT.any fun a=>decide (¬(0≤a∧a≤999)))=false:=by first|assumption|(simp_all;done)
           obtain ⟨C,hC⟩:∃ b,(ZR.any fun p=>decide (¬YH p.addr))=b:=⟨_,rfl⟩
           rw [hC] at h7 ⊢
           have hpe:(⟨ZP,ZY⟩:ZD)=YW∨YH ZP:=by first|exact .inl (by assumption)|exact .inr ⟨by omega,by omega⟩|(simp_all;done)
           have hf2:¬((⟨ZP,ZY⟩:ZD)=YW∧Yk=2):=by first|(rintro ⟨q1,q2⟩;first|contradiction|omega|(simp_all;done))
           cases C
           ·exact (decide_eq_true ⟨hp9,⟨by omega,by omega⟩,by omega,by omega,hpe,hf2,u1,u2,u3,u4,u5,u6,h6.1 hA,h7.1 rfl⟩).symm
           ·exact (decide_eq_false (fun h9=>by have h8:=h7.2 h9.2.2.2.2.2.2.2.2.2.2.2.2.2;cases h8)).symm
          ·skip
           simp only [ZD.eta,ZL.eta,ZO.eta,ZM.eta,Yd.eta,ZQ.eta,YI.eta,ZX.eta] at hc17
           iterate 4 refine ZU ?_
           refine ZK ?_;refine ZB ?_;refine Zo (Zn (Y_pk [2] ?_));refine Yg ?_
           refine Ya (.inr rfl) (.tmp rfl .nil) (fun w hw=>?_)
           refine ⟨_,rfl,(hw.c),?_⟩
           clear hw
           show _=Value.bool (decide ((1≤Yk∧Yk≤8)∧YH ZV∧ZT.length≤16∧ZR.length≤8∧((⟨ZP,ZY⟩:ZD)=YW∨YH ZP)∧¬((⟨ZP,ZY⟩:ZD)=YW∧Yk=2)∧(Vn Yk∨YY=0)∧(Yk=1∨l_id=0)∧(Yk=1∨ZT=[])∧(Yk=2∨YP=false)∧(WN Yk∨(⟨ZP,ZY⟩:ZD)=YW)∧(Wr Yk∨ZR=[])∧(∀ a∈ZT,YH a)∧∀ p∈ZR,YH p.addr))
           refine congrArg Value.bool ?_
           refine (decide_eq_false (fun h9=>?_)).symm
           obtain ⟨g1,g2,g3,g4,g5,g6,g7,g8,g9,g10,g11,g12,g13,g14⟩:=h9
           have h6:=(any_odd (l:=ZT)).2 g13
           have hq:(ZT.any fun a=>decide (¬(0≤a∧a≤999)))=true:=by first|assumption|(have h9:(!(ZT.any fun a=>decide (¬(0≤a∧a≤999))))=false:=(by assumption);simpa using h9)
           exact Bool.noConfusion (h6.symm.trans hq)
        ·replace hc15:=nF hc15
         contradiction
end Go.Proofs.YtajmnjefajknoaaGreat
namespace Go.Proofs.YtajmnjefajknoaaGreat
open Go.Esp
end Go.Proofs.YtajmnjefajknoaaGreat
namespace Go.Proofs.YtajmnjefajknoaaGreat
open Go.Esp
theorem F.elem35:slOf Tryz.prog 35=some (49,68,168):=by kernel_rfl
theorem F.foff32_11:foff Tryz.prog 32 11=some 54:=by kernel_rfl
theorem F.foff32_12:foff Tryz.prog 32 12=some 55:=by kernel_rfl
theorem F.foff32_5:foff Tryz.prog 32 5=some 48:=by kernel_rfl
theorem F.foff32_7:foff Tryz.prog 32 7=some 50:=by kernel_rfl
theorem F.foff32_9:foff Tryz.prog 32 9=some 52:=by kernel_rfl
theorem F.foff49_0:foff Tryz.prog 49 0=some 0:=by kernel_rfl
theorem F.foff49_1:foff Tryz.prog 49 1=some 1:=by kernel_rfl
theorem F.ok31:okFn Tryz.prog 31=true:=by kernel_rfl
theorem F.ok42:okFn Tryz.prog 42=true:=by kernel_rfl
theorem F.ok43:okFn Tryz.prog 43=true:=by kernel_rfl
theorem F.ok44:okFn Tryz.prog 44=true:=by kernel_rfl
theorem map_ext9 {α β:Type} {f:α→β} {a b:List α} (hl:a.length=b.length) (h:∀ j (h2:j<a.length) (h3:j<b.length),f a[j]=f b[j]):a.map f=b.map f :=
  List.ext_getElem (by simp [hl]) fun j h2 h3=>by simpa using h j (by simpa using h2) (by simpa using h3)
theorem map_at9 {α β:Type} {f:α→β} {a b:List α} (h:a.map f=b.map f) {j:Nat} (h2:j<a.length) (h3:j<b.length):f a[j]=f b[j]:=by
  have e1:(a.map f)[j]?=some (f a[j]):=by simp [h2]
  have e2:(b.map f)[j]?=some (f b[j]):=by simp [h3]
  rw [h,e2] at e1;exact (Option.some.inj e1).symm
theorem map_len9 {α β:Type} {f:α→β} {a b:List α} (h:a.map f=b.map f):a.length=b.length:=by have:=congrArg List.length h;simpa using this
theorem snd_mk9 {x y:Yd} (h1:x.to=y.to) (h2:x.letter.lt=y.letter.lt):Yd.snd x=Yd.snd y:=by unfold Yd.snd;rw [h1,h2]
theorem Ints_ok (M:Mem) (a:(Sl Int)) (b:(Sl Int)) (ha0:SlK M (oneI .i64) 1 a) (hb1:SlK M (oneI .i64) 1 b):Fs Tryz.prog 43 [Sl.val a,Sl.val b] M (fun v=>v=Value.bool (decide (a.l.map (id:Int→Int)=b.l.map (id:Int→Int)))):=by
  obtain ⟨a_a,a_c,a_l⟩:=a
  obtain ⟨b_a,b_c,b_l⟩:=b
  have k_a:SlK M (oneI .i64) 1 ⟨a_a,a_c,a_l⟩:=ha0
  have s_a:SlM M a_a (a_l.map (oneI .i64)) 1:=k_a.h1
  have n_a:(a_l.map (oneI .i64)).length=a_l.length:=List.length_map ..
  have m_a:a_l.length≤9223372036854775807:=k_a.h2
  have c_a:a_l.length≤a_c:=k_a.h3
  have k_b:SlK M (oneI .i64) 1 ⟨b_a,b_c,b_l⟩:=hb1
  have s_b:SlM M b_a (b_l.map (oneI .i64)) 1:=k_b.h1
  have n_b:(b_l.map (oneI .i64)).length=b_l.length:=List.length_map ..
  have m_b:b_l.length≤9223372036854775807:=k_b.h2
  have c_b:b_l.length≤b_c:=k_b.h3
  refine Xm Tryz.func43 rfl Tryz.ntmps43 rfl ?_;intro H
  refine ZI (Zm (l:=[0]) rfl ?_);refine ZB ?_;refine Zo (Zn ?_)
  iterate 2 refine ZI ?_
  refine Zm (l:=[0,1,2,3,4]) rfl ?_;refine Zv ?_;refine YX F.elem30 ?_;refine Zv ?_;refine YX F.elem30 ?_;refine Yz ?_;refine Zo (Zn (Y_pk [10,4,0,1] ?_))
  refine Yx rfl (fun hc1=>?_) (fun hc1=>?_)
  ·replace hc1:=nT hc1
   refine ZI (Zm (l:=[0]) rfl ?_);refine ZB ?_;refine Zo (Zn (Y_pk [4,0,1] ?_));refine Yg (YG ?_)
   refine Ya (.inr rfl) (.tmp rfl .nil) (fun w hw=>?_)
   refine ⟨_,rfl,(hw.c),?_⟩
   clear hw
   show _=Value.bool (decide (a_l.map (id:Int→Int)=b_l.map (id:Int→Int)))
   exact congrArg Value.bool (decide_eq_false (fun h9=>by have h8:=map_len9 h9;omega)).symm
  ·replace hc1:=nF hc1
   refine Yv (Zn (Y_pk [4,0,1] ?_))
   iterate 2 refine ZI ?_
   refine Zm (l:=[0]) rfl ?_;refine ZB ?_;refine Zo (Zn (Xd (Y_pk [5,4,0,1] ?_)));refine WH (.succ .zero) (fun (k:Nat) z=>z=[(5,.int .i64 (k:Int))]∧k≤a_l.length∧(∀ j (h2:j<a_l.length) (h3:j<b_l.length),j<k→(id:Int→Int) a_l[j]=(id:Int→Int) b_l[j])) (fun k=>a_l.length-k) (0) (⟨rfl,by omega,by (intro j h2 h3 hj;omega)⟩) ?_
   rintro k _ ⟨rfl,hk,hI⟩
   iterate 2 refine ZI ?_
   refine Zm (l:=[0,1,2,3]) rfl ?_
   iterate 2 refine Zv ?_
   refine YX F.elem30 ?_;refine Yz ?_;refine Zo (Zn ?_)
   refine Yx rfl (fun hc2=>?_) (fun hc2=>?_)
   ·replace hc2:=dT hc2
    refine Yv (Zn (ZI (Xd (ZI (Yy (l:=[0,1,2,3,4,5,6,7,8]) #[0,0,3,7,0,0,48,112,255] _ rfl (by kernel_rfl) (by kernel_rfl) St.drawn (fun _ h=>h) ?_)))))
    iterate 2 refine Zv ?_
    refine YR rfl rfl rfl rfl F.elem30 (by rfl) (by omega) (by exact SlM.plain (by assumption) (by (simp;omega))) rfl ?_;refine Xo rfl rfl rfl (by assumption) (by exact XW (by omega)) F.lay3 rfl rfl rfl ?_
    iterate 2 refine Zv ?_
    refine YR rfl rfl rfl rfl F.elem30 (by rfl) (by omega) (by exact SlM.plain (by assumption) (by (simp;omega))) rfl ?_;refine Xo rfl rfl rfl (by assumption) (by exact XW (by omega)) F.lay3 rfl rfl rfl ?_;refine Yz ?_;refine Zo (Zn ?_)
    refine Yx rfl (fun hc3=>?_) (fun hc3=>?_)
    ·replace hc3:=nT hc3
     refine ZI (Zm (l:=[0]) rfl ?_);refine ZB ?_;refine Zo (Zn (Yg (Xi ?_)))
     iterate 2 refine YG ?_
     refine Xi (YG ?_)
     refine Ya (.inr rfl) (.tmp rfl .nil) (fun w hw=>?_)
     refine ⟨_,rfl,(hw.c),?_⟩
     clear hw
     show _=Value.bool (decide (a_l.map (id:Int→Int)=b_l.map (id:Int→Int)))
     refine congrArg Value.bool (decide_eq_false (fun h9=>?_)).symm
     have h8:=map_at9 h9 (j:=k) (by omega) (by omega)
     replace h8:a_l[k]=b_l[k]:=h8
     contradiction
    ·replace hc3:=nF hc3
     refine Yv (XV (Zn (Zm (l:=[0,1,2]) rfl ?_)));refine Zv ?_;refine XN rfl rfl rfl rfl rfl (by exact Xn (by decide) (by omega)) rfl ?_;refine ZB ?_;refine Zo ?_;refine WC (a':=[(5,_)]) (k+1) (.cons (k:=5) rfl (.cons (k:=4) rfl (.cons (k:=0) rfl (.cons (k:=1) rfl (.nil))))) (fun w hw=>by first|exact hw|exact hw.c) ?_ ?_
     ·refine ⟨rfl,by omega,?_⟩
      (intro j h2 h3 hj;rcases Nat.lt_or_ge j k with h9|h9;exact hI j h2 h3 h9;have hjk:j=k:=(by omega);subst hjk;first|assumption|exact snd_mk9 (by assumption) (by assumption)|(show id _=id _;unfold id;omega)|(simp_all;done))
     ·omega
   ·replace hc2:=dF hc2
    refine XS ?_
    iterate 2 refine XM ?_
    refine Wl (Zn (Y_pk [4] ?_));refine ZI (Zm (l:=[0]) rfl ?_);refine ZB ?_;refine Zo (Zn (Yg ?_))
    refine Ya (.inr rfl) (.tmp rfl .nil) (fun w hw=>?_)
    refine ⟨_,rfl,(hw.c),?_⟩
    clear hw
    show _=Value.bool (decide (a_l.map (id:Int→Int)=b_l.map (id:Int→Int)))
    exact congrArg Value.bool (decide_eq_true (map_ext9 (by omega) (fun j h2 h3=>hI j h2 h3 (by omega)))).symm
theorem SameL_ok (M:Mem) (a:ZM) (b:ZM) (ha0:ZM.ok M a) (hb1:ZM.ok M b):Fs Tryz.prog 44 [a.enc,b.enc] M (fun v=>v=Value.bool (decide (a.lt=b.lt))):=by
  obtain ⟨a_kind,⟨a_frm_addr,a_frm_id⟩,a_req,a_id,⟨a_avoid_a,a_avoid_c,Wn⟩,a_done,⟨a_peer_addr,a_peer_id⟩,⟨a_peers_a,a_peers_c,a_peers_l⟩⟩:=a
  obtain ⟨b_kind,⟨b_frm_addr,b_frm_id⟩,b_req,b_id,⟨b_avoid_a,b_avoid_c,Wm⟩,b_done,⟨b_peer_addr,b_peer_id⟩,⟨b_peers_a,b_peers_c,b_peers_l⟩⟩:=b
  have k_a_avoid:SlK M (oneI .i64) 1 ⟨a_avoid_a,a_avoid_c,Wn⟩:=ha0.h0
  have s_a_avoid:SlM M a_avoid_a (Wn.map (oneI .i64)) 1:=k_a_avoid.h1
  have n_a_avoid:(Wn.map (oneI .i64)).length=Wn.length:=List.length_map ..
  have m_a_avoid:Wn.length≤9223372036854775807:=k_a_avoid.h2
  have c_a_avoid:Wn.length≤a_avoid_c:=k_a_avoid.h3
  have k_a_peers:SlK M ZD.segs 21 ⟨a_peers_a,a_peers_c,a_peers_l⟩:=ha0.h1
  have s_a_peers:SlM M a_peers_a (a_peers_l.map ZD.segs) 21:=k_a_peers.h1
  have n_a_peers:(a_peers_l.map ZD.segs).length=a_peers_l.length:=List.length_map ..
  have m_a_peers:a_peers_l.length≤9223372036854775807:=k_a_peers.h2
  have c_a_peers:a_peers_l.length≤a_peers_c:=k_a_peers.h3
  have k_b_avoid:SlK M (oneI .i64) 1 ⟨b_avoid_a,b_avoid_c,Wm⟩:=hb1.h0
  have s_b_avoid:SlM M b_avoid_a (Wm.map (oneI .i64)) 1:=k_b_avoid.h1
  have n_b_avoid:(Wm.map (oneI .i64)).length=Wm.length:=List.length_map ..
  have m_b_avoid:Wm.length≤9223372036854775807:=k_b_avoid.h2
  have c_b_avoid:Wm.length≤b_avoid_c:=k_b_avoid.h3
  have k_b_peers:SlK M ZD.segs 21 ⟨b_peers_a,b_peers_c,b_peers_l⟩:=hb1.h1
  have s_b_peers:SlM M b_peers_a (b_peers_l.map ZD.segs) 21:=k_b_peers.h1
  have n_b_peers:(b_peers_l.map ZD.segs).length=b_peers_l.length:=List.length_map ..
  have m_b_peers:b_peers_l.length≤9223372036854775807:=k_b_peers.h2
  have c_b_peers:b_peers_l.length≤b_peers_c:=k_b_peers.h3
  refine Xm Tryz.func44 rfl Tryz.ntmps44 rfl ?_;intro H
  refine ZI (Zm (l:=[0,1,2]) rfl ?_)
  refine Xk ?_;intro b1
  refine Xk ?_;intro b2
  refine ZB ?_;refine Zo (Zn (Y_pk [4,3,2] ?_));refine ZI (Zm (l:=[0,1,2,3,4,5,6,7,8,9,10,11,12,13,14,15,16,17,18,19,20,21,22,23,24,25,26,27,28,29,30,31,32,33,34,35,36,37,38,39,40,41,42,43,44,45,46,47,48,49,50,51,52,53,54]) rfl ?_);refine Zk F.foff44_0 ?_;refine ZH F.lay3 ?_;refine Zk F.foff44_0 ?_;refine ZH F.lay3 ?_;refine Yz ?_;refine Zv ?_
  refine Yh 10 rfl (fun hc3=>?_) (fun hc3=>?_)
  ·replace hc3:=dT hc3
   refine Zk F.foff44_1 ?_;refine ZH F.lay25 ?_;refine Zk F.foff44_1 ?_;refine ZH F.lay25 ?_
   refine Wf (m:=20) rfl rfl rfl rfl rfl (by constructor) (by constructor) F.lay25 F.kinds25 rfl F.guard25 (by exact Xf (⟨_,_⟩)) (by exact Xf (⟨_,_⟩)) rfl rfl rfl ?_;intro c4 he5
   replace he5:c4=true↔Segs.cells _=Segs.cells _:=he5
   obtain rfl:=eqD he5 (ZD.inj (x:=⟨_,_⟩) (y:=⟨_,_⟩));clear he5
   refine ZK ?_;refine Zv ?_
   refine Yh 17 rfl (fun hc6=>?_) (fun hc6=>?_)
   ·replace hc6:=dT hc6
    refine Zk F.foff44_2 ?_;refine ZH F.lay29 ?_;refine Zk F.foff44_2 ?_;refine ZH F.lay29 ?_;refine Yz ?_;refine ZK ?_;refine Zv ?_
    refine Yh 24 rfl (fun hc7=>?_) (fun hc7=>?_)
    ·replace hc7:=dT hc7
     refine Zk F.foff44_3 ?_;refine ZH F.lay23 ?_;refine Zk F.foff44_3 ?_;refine ZH F.lay23 ?_
     refine Wf (m:=20) rfl rfl rfl rfl rfl (by constructor) (by constructor) F.lay23 F.kinds23 rfl F.guard23 (Vg WE) (Vg WE) rfl rfl rfl ?_;intro c8 he9
     replace he9:c8=true↔Segs.cells _=Segs.cells _:=he9
     obtain rfl:=eqD he9 (cells_id1 (x:=_) (y:=_));clear he9
     refine ZK ?_;refine Zv ?_
     refine Yh 31 rfl (fun hc10=>?_) (fun hc10=>?_)
     ·replace hc10:=dT hc10
      refine Zk F.foff44_4 ?_;refine ZH F.lay30 ?_;refine Zk F.foff44_4 ?_;refine ZH F.lay30 ?_;refine X_fs rfl rfl F.ok43 rfl (Ints_ok _ ⟨a_avoid_a,a_avoid_c,Wn⟩ ⟨b_avoid_a,b_avoid_c,Wm⟩ k_a_avoid k_b_avoid) rfl ?_
      rintro _ rfl
      refine ZK ?_;refine Zv ?_
      refine Yh 38 rfl (fun hc11=>?_) (fun hc11=>?_)
      ·replace hc11:=dT hc11
       simp only [ZD.eta,ZL.eta,ZO.eta,ZM.eta,Yd.eta,ZQ.eta,YI.eta,ZX.eta] at hc11
       refine Zk F.foff44_5 ?_;refine ZH F.lay4 ?_;refine Zk F.foff44_5 ?_;refine ZH F.lay4 ?_;refine X_eqb rfl rfl rfl rfl rfl Tryz.underlying4 rfl ?_;refine ZK ?_;refine Zv ?_
       refine Yh 45 rfl (fun hc12=>?_) (fun hc12=>?_)
       ·replace hc12:=dT hc12
        refine Zk F.foff44_6 ?_;refine ZH F.lay25 ?_;refine Zk F.foff44_6 ?_;refine ZH F.lay25 ?_
        refine Wf (m:=20) rfl rfl rfl rfl rfl (by constructor) (by constructor) F.lay25 F.kinds25 rfl F.guard25 (by exact Xf (⟨_,_⟩)) (by exact Xf (⟨_,_⟩)) rfl rfl rfl ?_;intro c13 he14
        replace he14:c13=true↔Segs.cells _=Segs.cells _:=he14
        obtain rfl:=eqD he14 (ZD.inj (x:=⟨_,_⟩) (y:=⟨_,_⟩));clear he14
        refine ZK ?_;refine Zv ?_
        refine Yh 52 rfl (fun hc15=>?_) (fun hc15=>?_)
        ·replace hc15:=dT hc15
         refine Zk F.foff44_7 ?_;refine ZH F.lay26 ?_;refine Zk F.foff44_7 ?_;refine ZH F.lay26 ?_;refine X_fs rfl rfl F.ok20 rfl (SameP_ok _ ⟨a_peers_a,a_peers_c,a_peers_l⟩ ⟨b_peers_a,b_peers_c,b_peers_l⟩ k_a_peers k_b_peers) rfl ?_
         rintro _ rfl
         refine ZK ?_;refine ZB ?_;refine Zo (Zn (Y_pk [4] ?_));refine Yg ?_
         refine Ya (.inr rfl) (.tmp rfl .nil) (fun w hw=>?_)
         refine ⟨_,rfl,(hw.c),?_⟩
         clear hw
         try simp only [List.map_id] at *
         refine congrArg Value.bool ?_
         exact decide_eq_decide.2 ⟨fun h9=>by simp_all [ZM.lt],fun h9=>by simp only [Lt.mk.injEq,ZM.lt] at h9;simp_all⟩
        ·replace hc15:=dF hc15
         iterate 5 refine ZU ?_
         refine ZK ?_;refine ZB ?_;refine Zo (Zn (Y_pk [4] ?_));refine Yg ?_
         refine Ya (.inr rfl) (.tmp rfl .nil) (fun w hw=>?_)
         refine ⟨_,rfl,(hw.c),?_⟩
         clear hw
         try simp only [List.map_id] at *
         refine congrArg Value.bool ?_
         exact (decide_eq_false (fun h9=>by simp only [Lt.mk.injEq,ZM.lt] at h9;simp_all)).symm
       ·replace hc12:=dF hc12
        iterate 5 refine ZU ?_
        refine ZK ?_;refine Zv ?_
        iterate 5 refine ZU ?_
        refine ZK ?_;refine ZB ?_;refine Zo (Zn (Y_pk [4] ?_));refine Yg ?_
        refine Ya (.inr rfl) (.tmp rfl .nil) (fun w hw=>?_)
        refine ⟨_,rfl,(hw.c),?_⟩
        clear hw
        try simp only [List.map_id] at *
        refine congrArg Value.bool ?_
        exact (decide_eq_false (fun h9=>by simp only [Lt.mk.injEq,ZM.lt] at h9;simp_all)).symm
      ·replace hc11:=dF hc11
       simp only [ZD.eta,ZL.eta,ZO.eta,ZM.eta,Yd.eta,ZQ.eta,YI.eta,ZX.eta] at hc11
       iterate 5 refine ZU ?_
       refine ZK ?_;refine Zv ?_
       iterate 5 refine ZU ?_
       refine ZK ?_;refine Zv ?_
       iterate 5 refine ZU ?_
       refine ZK ?_;refine ZB ?_;refine Zo (Zn (Y_pk [4] ?_));refine Yg ?_
       refine Ya (.inr rfl) (.tmp rfl .nil) (fun w hw=>?_)
       refine ⟨_,rfl,(hw.c),?_⟩
       clear hw
       try simp only [List.map_id] at *
       refine congrArg Value.bool ?_
       exact (decide_eq_false (fun h9=>by simp only [Lt.mk.injEq,ZM.lt] at h9;simp_all)).symm
     ·replace hc10:=dF hc10
      iterate 5 refine ZU ?_
      refine ZK ?_;refine Zv ?_
      iterate 5 refine ZU ?_
      refine ZK ?_;refine Zv ?_
      iterate 5 refine ZU ?_
      refine ZK ?_;refine Zv ?_
      iterate 5 refine ZU ?_
      refine ZK ?_;refine ZB ?_;refine Zo (Zn (Y_pk [4] ?_));refine Yg ?_
      refine Ya (.inr rfl) (.tmp rfl .nil) (fun w hw=>?_)
      refine ⟨_,rfl,(hw.c),?_⟩
      clear hw
      try simp only [List.map_id] at *
      refine congrArg Value.bool ?_
      exact (decide_eq_false (fun h9=>by simp only [Lt.mk.injEq,ZM.lt] at h9;simp_all)).symm
    ·replace hc7:=dF hc7
     iterate 5 refine ZU ?_
     refine ZK ?_;refine Zv ?_
     iterate 5 refine ZU ?_
     refine ZK ?_;refine Zv ?_
     iterate 5 refine ZU ?_
     refine ZK ?_;refine Zv ?_
     iterate 5 refine ZU ?_
     refine ZK ?_;refine Zv ?_
     iterate 5 refine ZU ?_
     refine ZK ?_;refine ZB ?_;refine Zo (Zn (Y_pk [4] ?_));refine Yg ?_
     refine Ya (.inr rfl) (.tmp rfl .nil) (fun w hw=>?_)
     refine ⟨_,rfl,(hw.c),?_⟩
     clear hw
     try simp only [List.map_id] at *
     refine congrArg Value.bool ?_
     exact (decide_eq_false (fun h9=>by simp only [Lt.mk.injEq,ZM.lt] at h9;simp_all)).symm
   ·replace hc6:=dF hc6
    iterate 5 refine ZU ?_
    refine ZK ?_;refine Zv ?_
    iterate 5 refine ZU ?_
    refine ZK ?_;refine Zv ?_
    iterate 5 refine ZU ?_
    refine ZK ?_;refine Zv ?_
    iterate 5 refine ZU ?_
    refine ZK ?_;refine Zv ?_
    iterate 5 refine ZU ?_
    refine ZK ?_;refine Zv ?_
    iterate 5 refine ZU ?_
    refine ZK ?_;refine ZB ?_;refine Zo (Zn (Y_pk [4] ?_));refine Yg ?_
    refine Ya (.inr rfl) (.tmp rfl .nil) (fun w hw=>?_)
    refine ⟨_,rfl,(hw.c),?_⟩
    clear hw
    try simp only [List.map_id] at *
    refine congrArg Value.bool ?_
    exact (decide_eq_false (fun h9=>by simp only [Lt.mk.injEq,ZM.lt] at h9;simp_all)).symm
  ·replace hc3:=dF hc3
   iterate 5 refine ZU ?_
   refine ZK ?_;refine Zv ?_
   iterate 5 refine ZU ?_
   refine ZK ?_;refine Zv ?_
   iterate 5 refine ZU ?_
   refine ZK ?_;refine Zv ?_
   iterate 5 refine ZU ?_
   refine ZK ?_;refine Zv ?_
   iterate 5 refine ZU ?_
   refine ZK ?_;refine Zv ?_
   iterate 5 refine ZU ?_
   refine ZK ?_;refine Zv ?_
   iterate 5 refine ZU ?_
   refine ZK ?_;refine ZB ?_;refine Zo (Zn (Y_pk [4] ?_));refine Yg ?_
   refine Ya (.inr rfl) (.tmp rfl .nil) (fun w hw=>?_)
   refine ⟨_,rfl,(hw.c),?_⟩
   clear hw
   try simp only [List.map_id] at *
   refine congrArg Value.bool ?_
   exact (decide_eq_false (fun h9=>by simp only [Lt.mk.injEq,ZM.lt] at h9;simp_all)).symm
theorem Sends_ok (M:Mem) (a:(Sl Yd)) (b:(Sl Yd)) (ha0:SlK M Yd.segs 68 a) (ha1:∀ y∈(a).l,Yd.ok M y) (hb2:SlK M Yd.segs 68 b) (hb3:∀ y∈(b).l,Yd.ok M y):Fs Tryz.prog 15 [Sl.val a,Sl.val b] M (fun v=>v=Value.bool (decide (a.l.map Yd.snd=b.l.map Yd.snd))):=by
  obtain ⟨a_a,a_c,a_l⟩:=a
  obtain ⟨b_a,b_c,b_l⟩:=b
  have k_a:SlK M Yd.segs 68 ⟨a_a,a_c,a_l⟩:=ha0
  have s_a:SlM M a_a (a_l.map Yd.segs) 68:=k_a.h1
  have n_a:(a_l.map Yd.segs).length=a_l.length:=List.length_map ..
  have m_a:a_l.length≤9223372036854775807:=k_a.h2
  have c_a:a_l.length≤a_c:=k_a.h3
  have l_a:∀ y∈a_l,Yd.ok M y:=ha1
  have k_b:SlK M Yd.segs 68 ⟨b_a,b_c,b_l⟩:=hb2
  have s_b:SlM M b_a (b_l.map Yd.segs) 68:=k_b.h1
  have n_b:(b_l.map Yd.segs).length=b_l.length:=List.length_map ..
  have m_b:b_l.length≤9223372036854775807:=k_b.h2
  have c_b:b_l.length≤b_c:=k_b.h3
  have l_b:∀ y∈b_l,Yd.ok M y:=hb3
  refine Xm Tryz.func15 rfl Tryz.ntmps15 rfl ?_;intro H
  refine ZI (Zm (l:=[0]) rfl ?_);refine ZB ?_;refine Zo (Zn ?_)
  iterate 2 refine ZI ?_
  refine Zm (l:=[0,1,2,3,4]) rfl ?_;refine Zv ?_;refine YX F.elem35 ?_;refine Zv ?_;refine YX F.elem35 ?_;refine Yz ?_;refine Zo (Zn (Y_pk [10,4,0,1] ?_))
  refine Yx rfl (fun hc1=>?_) (fun hc1=>?_)
  ·replace hc1:=nT hc1
   refine ZI (Zm (l:=[0]) rfl ?_);refine ZB ?_;refine Zo (Zn (Y_pk [4,0,1] ?_));refine Yg (YG ?_)
   refine Ya (.inr rfl) (.tmp rfl .nil) (fun w hw=>?_)
   refine ⟨_,rfl,(hw.c),?_⟩
   clear hw
   show _=Value.bool (decide (a_l.map Yd.snd=b_l.map Yd.snd))
   exact congrArg Value.bool (decide_eq_false (fun h9=>by have h8:=map_len9 h9;omega)).symm
  ·replace hc1:=nF hc1
   refine Yv (Zn (Y_pk [4,0,1] ?_))
   iterate 2 refine ZI ?_
   refine Zm (l:=[0]) rfl ?_;refine ZB ?_;refine Zo (Zn (Xd (Y_pk [5,4,0,1] ?_)));refine WH (.succ .zero) (fun (k:Nat) z=>z=[(5,.int .i64 (k:Int))]∧k≤a_l.length∧(∀ j (h2:j<a_l.length) (h3:j<b_l.length),j<k→Yd.snd a_l[j]=Yd.snd b_l[j])) (fun k=>a_l.length-k) (0) (⟨rfl,by omega,by (intro j h2 h3 hj;omega)⟩) ?_
   rintro k _ ⟨rfl,hk,hI⟩
   iterate 2 refine ZI ?_
   refine Zm (l:=[0,1,2,3]) rfl ?_
   iterate 2 refine Zv ?_
   refine YX F.elem35 ?_;refine Yz ?_;refine Zo (Zn ?_)
   refine Yx rfl (fun hc2=>?_) (fun hc2=>?_)
   ·replace hc2:=dT hc2
    refine Yv (Zn (ZI (Xd (ZI (Yy (l:=[0,1,2,3,4,5,6,7,8,9,10,11,12,13,14,15,16,17,18,19,20,21,22,23,24]) #[0,0,3,7,15,0,0,96,224,480,1023,2047,4095,4095,16383,32767,65535,4095,4095,397311,921599,1970175,4194303,8388607,16777215] _ rfl (by kernel_rfl) (by kernel_rfl) St.drawn (fun _ h=>h) ?_)))))
    iterate 2 refine Zv ?_
    refine YR rfl rfl rfl rfl F.elem35 (by rfl) (by omega) (by exact SlM.plain (by assumption) (by (simp;omega))) rfl ?_;refine Xp rfl rfl rfl (by exact SlM.plain (by assumption) (by (simp;omega))) F.foff49_0 rfl ?_;refine Xo rfl rfl rfl (by assumption) (by exact XW (by omega)) F.lay3 rfl rfl rfl ?_
    iterate 2 refine Zv ?_
    refine YR rfl rfl rfl rfl F.elem35 (by rfl) (by omega) (by exact SlM.plain (by assumption) (by (simp;omega))) rfl ?_;refine Xp rfl rfl rfl (by exact SlM.plain (by assumption) (by (simp;omega))) F.foff49_0 rfl ?_;refine Xo rfl rfl rfl (by assumption) (by exact XW (by omega)) F.lay3 rfl rfl rfl ?_;refine Yz ?_;refine Zv ?_
    refine Yh 28 rfl (fun hc3=>?_) (fun hc3=>?_)
    ·replace hc3:=nT hc3
     simp only [List.get_eq_getElem] at hc3
     iterate 12 refine ZU ?_
     refine ZK ?_;refine Zo (Zn (Xe rfl ?_));refine ZI (Zm (l:=[0]) rfl ?_);refine ZB ?_;refine Zo (Zn (Yg (Xi ?_)))
     iterate 2 refine YG ?_
     refine Xi (YG ?_)
     refine Ya (.inr rfl) (.tmp rfl .nil) (fun w hw=>?_)
     refine ⟨_,rfl,(hw.c),?_⟩
     clear hw
     show _=Value.bool (decide (a_l.map Yd.snd=b_l.map Yd.snd))
     refine congrArg Value.bool (decide_eq_false (fun h9=>?_)).symm
     have h8:=map_at9 h9 (j:=k) (by omega) (by omega)
     have h7:=congrArg Snd.to h8
     have h6:=congrArg Snd.letter h8
     simp only [Yd.snd] at h7 h6
     contradiction
    ·replace hc3:=nF hc3
     simp only [List.get_eq_getElem] at hc3
     iterate 2 refine Zv ?_
     refine YR rfl rfl rfl rfl F.elem35 (by rfl) (by omega) (by exact SlM.plain (by assumption) (by (simp;omega))) rfl ?_;refine Xp rfl rfl rfl (by exact SlM.plain (by assumption) (by (simp;omega))) F.foff49_1 rfl ?_;refine Xo rfl rfl rfl (by assumption) (by exact XW (by omega)) F.lay44 rfl rfl rfl ?_
     iterate 2 refine Zv ?_
     refine YR rfl rfl rfl rfl F.elem35 (by rfl) (by omega) (by exact SlM.plain (by assumption) (by (simp;omega))) rfl ?_;refine Xp rfl rfl rfl (by exact SlM.plain (by assumption) (by (simp;omega))) F.foff49_1 rfl ?_;refine Xo rfl rfl rfl (by assumption) (by exact XW (by omega)) F.lay44 rfl rfl rfl ?_;refine X_fs rfl rfl F.ok44 rfl (SameL_ok _ a_l[k].letter b_l[k].letter (l_a _ (List.getElem_mem (n:=k) (show k<a_l.length by omega))).h0 (l_b _ (List.getElem_mem (n:=k) (show k<b_l.length by omega))).h0) rfl ?_
     rintro _ rfl
     refine Xx ?_;refine ZK ?_;refine Zo (Zn ?_)
     refine Yx rfl (fun hc4=>?_) (fun hc4=>?_)
     ·replace hc4:=nT hc4
      refine ZI (Zm (l:=[0]) rfl ?_);refine ZB ?_;refine Zo (Zn (Yg (Xi ?_)))
      iterate 2 refine YG ?_
      refine Xi (YG ?_)
      refine Ya (.inr rfl) (.tmp rfl .nil) (fun w hw=>?_)
      refine ⟨_,rfl,(hw.c),?_⟩
      clear hw
      show _=Value.bool (decide (a_l.map Yd.snd=b_l.map Yd.snd))
      refine congrArg Value.bool (decide_eq_false (fun h9=>?_)).symm
      have h8:=map_at9 h9 (j:=k) (by omega) (by omega)
      have h7:=congrArg Snd.to h8
      have h6:=congrArg Snd.letter h8
      simp only [Yd.snd] at h7 h6
      contradiction
     ·replace hc4:=nF hc4
      refine Yv (XV (Zn (Zm (l:=[0,1,2]) rfl ?_)));refine Zv ?_;refine XN rfl rfl rfl rfl rfl (by exact Xn (by decide) (by omega)) rfl ?_;refine ZB ?_;refine Zo ?_;refine WC (a':=[(5,_)]) (k+1) (.cons (k:=5) rfl (.cons (k:=4) rfl (.cons (k:=0) rfl (.cons (k:=1) rfl (.nil))))) (fun w hw=>by first|exact hw|exact hw.c) ?_ ?_
      ·refine ⟨rfl,by omega,?_⟩
       (intro j h2 h3 hj;rcases Nat.lt_or_ge j k with h9|h9;exact hI j h2 h3 h9;have hjk:j=k:=(by omega);subst hjk;first|assumption|exact snd_mk9 (by assumption) (by assumption)|(show id _=id _;unfold id;omega)|(simp_all;done))
      ·omega
   ·replace hc2:=dF hc2
    refine XS ?_
    iterate 2 refine XM ?_
    refine Wl (Zn (Y_pk [4] ?_));refine ZI (Zm (l:=[0]) rfl ?_);refine ZB ?_;refine Zo (Zn (Yg ?_))
    refine Ya (.inr rfl) (.tmp rfl .nil) (fun w hw=>?_)
    refine ⟨_,rfl,(hw.c),?_⟩
    clear hw
    show _=Value.bool (decide (a_l.map Yd.snd=b_l.map Yd.snd))
    exact congrArg Value.bool (decide_eq_true (map_ext9 (by omega) (fun j h2 h3=>hI j h2 h3 (by omega)))).symm
theorem SameN_ok (M:Mem) (a:ZO) (b:ZO) (ha0:ZO.ok M a) (hb1:ZO.ok M b):Fs Tryz.prog 14 [a.enc,b.enc] M (fun v=>v=Value.bool (decide (a.nd=b.nd))):=by
  obtain ⟨⟨⟨a_table_self_addr,a_table_self_id⟩,⟨a_table_pred_addr,a_table_pred_id⟩,⟨a_table_succ_a,a_table_succ_c,We⟩,⟨a_table_fingers_a,a_table_fingers_c,XR⟩⟩,a_copies,a_joined,a_boot,a_cursor,a_req,a_askTo,a_askReq,a_pingTo,a_pingReq,a_findTo,a_findReq,a_findID,⟨a_avoid_a,a_avoid_c,Wn⟩,a_hops,a_turn⟩:=a
  obtain ⟨⟨⟨b_table_self_addr,b_table_self_id⟩,⟨b_table_pred_addr,b_table_pred_id⟩,⟨b_table_succ_a,b_table_succ_c,Wd⟩,⟨b_table_fingers_a,b_table_fingers_c,XQ⟩⟩,b_copies,b_joined,b_boot,b_cursor,b_req,b_askTo,b_askReq,b_pingTo,b_pingReq,b_findTo,b_findReq,b_findID,⟨b_avoid_a,b_avoid_c,Wm⟩,b_hops,b_turn⟩:=b
  have k_a_table:ZL.ok M ⟨⟨a_table_self_addr,a_table_self_id⟩,⟨a_table_pred_addr,a_table_pred_id⟩,⟨a_table_succ_a,a_table_succ_c,We⟩,⟨a_table_fingers_a,a_table_fingers_c,XR⟩⟩:=ha0.h0
  have k_a_table_succ:SlK M ZD.segs 21 ⟨a_table_succ_a,a_table_succ_c,We⟩:=ha0.h0.h0
  have s_a_table_succ:SlM M a_table_succ_a (We.map ZD.segs) 21:=k_a_table_succ.h1
  have n_a_table_succ:(We.map ZD.segs).length=We.length:=List.length_map ..
  have m_a_table_succ:We.length≤9223372036854775807:=k_a_table_succ.h2
  have c_a_table_succ:We.length≤a_table_succ_c:=k_a_table_succ.h3
  have k_a_table_fingers:SlK M ZD.segs 21 ⟨a_table_fingers_a,a_table_fingers_c,XR⟩:=ha0.h0.h1
  have s_a_table_fingers:SlM M a_table_fingers_a (XR.map ZD.segs) 21:=k_a_table_fingers.h1
  have n_a_table_fingers:(XR.map ZD.segs).length=XR.length:=List.length_map ..
  have m_a_table_fingers:XR.length≤9223372036854775807:=k_a_table_fingers.h2
  have c_a_table_fingers:XR.length≤a_table_fingers_c:=k_a_table_fingers.h3
  have k_a_avoid:SlK M (oneI .i64) 1 ⟨a_avoid_a,a_avoid_c,Wn⟩:=ha0.h1
  have s_a_avoid:SlM M a_avoid_a (Wn.map (oneI .i64)) 1:=k_a_avoid.h1
  have n_a_avoid:(Wn.map (oneI .i64)).length=Wn.length:=List.length_map ..
  have m_a_avoid:Wn.length≤9223372036854775807:=k_a_avoid.h2
  have c_a_avoid:Wn.length≤a_avoid_c:=k_a_avoid.h3
  have k_b_table:ZL.ok M ⟨⟨b_table_self_addr,b_table_self_id⟩,⟨b_table_pred_addr,b_table_pred_id⟩,⟨b_table_succ_a,b_table_succ_c,Wd⟩,⟨b_table_fingers_a,b_table_fingers_c,XQ⟩⟩:=hb1.h0
  have k_b_table_succ:SlK M ZD.segs 21 ⟨b_table_succ_a,b_table_succ_c,Wd⟩:=hb1.h0.h0
  have s_b_table_succ:SlM M b_table_succ_a (Wd.map ZD.segs) 21:=k_b_table_succ.h1
  have n_b_table_succ:(Wd.map ZD.segs).length=Wd.length:=List.length_map ..
  have m_b_table_succ:Wd.length≤9223372036854775807:=k_b_table_succ.h2
  have c_b_table_succ:Wd.length≤b_table_succ_c:=k_b_table_succ.h3
  have k_b_table_fingers:SlK M ZD.segs 21 ⟨b_table_fingers_a,b_table_fingers_c,XQ⟩:=hb1.h0.h1
  have s_b_table_fingers:SlM M b_table_fingers_a (XQ.map ZD.segs) 21:=k_b_table_fingers.h1
  have n_b_table_fingers:(XQ.map ZD.segs).length=XQ.length:=List.length_map ..
  have m_b_table_fingers:XQ.length≤9223372036854775807:=k_b_table_fingers.h2
  have c_b_table_fingers:XQ.length≤b_table_fingers_c:=k_b_table_fingers.h3
  have k_b_avoid:SlK M (oneI .i64) 1 ⟨b_avoid_a,b_avoid_c,Wm⟩:=hb1.h1
  have s_b_avoid:SlM M b_avoid_a (Wm.map (oneI .i64)) 1:=k_b_avoid.h1
  have n_b_avoid:(Wm.map (oneI .i64)).length=Wm.length:=List.length_map ..
  have m_b_avoid:Wm.length≤9223372036854775807:=k_b_avoid.h2
  have c_b_avoid:Wm.length≤b_avoid_c:=k_b_avoid.h3
  refine Xm Tryz.func14 rfl Tryz.ntmps14 rfl ?_;intro H
  refine ZI (Zm (l:=[0,1,2]) rfl ?_)
  refine Xk ?_;intro b1
  refine Xk ?_;intro b2
  refine ZB ?_;refine Zo (Zn (Y_pk [4,3,2] ?_));refine ZI ?_;refine C_cutX (α:=Bool) (fun b:Bool=>[(5,.bool b)]) (fun b:Bool=>(b=true↔a_copies=b_copies∧a_joined=b_joined∧a_boot=b_boot∧a_cursor=b_cursor∧a_req=b_req∧a_askTo=b_askTo∧a_askReq=b_askReq)) (.cons (k:=4) rfl (.cons (k:=3) rfl (.cons (k:=2) rfl .nil))) ?_ ?_
  ·skip
   refine Zm (l:=[0,1,2,3,4,5,6,7,8,9,10,11,12,13,14,15,16,17,18,19,20,21,22,23,24,25,26,27,28,29,30,31,32,33,34,35,36,37,38,39,40,41,42,43,44,45,46,47]) rfl ?_;refine Zk F.foff32_1 ?_;refine ZH F.lay3 ?_;refine Zk F.foff32_1 ?_;refine ZH F.lay3 ?_;refine Yz ?_;refine Zv ?_
   refine Yh 12 rfl (fun hc3=>?_) (fun hc3=>?_)
   ·replace hc3:=dT hc3
    refine Zk F.foff32_2 ?_;refine ZH F.lay4 ?_;refine Zk F.foff32_2 ?_;refine ZH F.lay4 ?_;refine X_eqb rfl rfl rfl rfl rfl Tryz.underlying4 rfl ?_;refine ZK ?_;refine Zv ?_
    refine Yh 19 rfl (fun hc4=>?_) (fun hc4=>?_)
    ·replace hc4:=dT hc4
     refine Zk F.foff32_3 ?_;refine ZH F.lay3 ?_;refine Zk F.foff32_3 ?_;refine ZH F.lay3 ?_;refine Yz ?_;refine ZK ?_;refine Zv ?_
     refine Yh 26 rfl (fun hc5=>?_) (fun hc5=>?_)
     ·replace hc5:=dT hc5
      refine Zk F.foff32_4 ?_;refine ZH F.lay3 ?_;refine Zk F.foff32_4 ?_;refine ZH F.lay3 ?_;refine Yz ?_;refine ZK ?_;refine Zv ?_
      refine Yh 33 rfl (fun hc6=>?_) (fun hc6=>?_)
      ·replace hc6:=dT hc6
       refine Zk F.foff32_5 ?_;refine ZH F.lay29 ?_;refine Zk F.foff32_5 ?_;refine ZH F.lay29 ?_;refine Yz ?_;refine ZK ?_;refine Zv ?_
       refine Yh 40 rfl (fun hc7=>?_) (fun hc7=>?_)
       ·replace hc7:=dT hc7
        refine Zk F.foff32_6 ?_;refine ZH F.lay3 ?_;refine Zk F.foff32_6 ?_;refine ZH F.lay3 ?_;refine Yz ?_;refine ZK ?_;refine Zv ?_
        refine Yh 47 rfl (fun hc8=>?_) (fun hc8=>?_)
        ·replace hc8:=dT hc8
         refine Zk F.foff32_7 ?_;refine ZH F.lay29 ?_;refine Zk F.foff32_7 ?_;refine ZH F.lay29 ?_;refine Yz ?_;refine ZK ?_;refine ZB ?_;refine Zo ?_
         exact VG (decide (a_askReq=b_askReq)) ((by constructor <;> intro h9 <;> simp_all)) (.cons (k:=5) rfl (.cons (k:=4) rfl (.cons (k:=3) rfl (.cons (k:=2) rfl .nil)))) (fun w hw=>by first|exact hw|exact hw.c)
        ·replace hc8:=dF hc8
         iterate 5 refine ZU ?_
         refine ZK ?_;refine ZB ?_;refine Zo ?_
         exact VG (false) ((by constructor <;> intro h9 <;> simp_all)) (.cons (k:=5) rfl (.cons (k:=4) rfl (.cons (k:=3) rfl (.cons (k:=2) rfl .nil)))) (fun w hw=>by first|exact hw|exact hw.c)
       ·replace hc7:=dF hc7
        iterate 5 refine ZU ?_
        refine ZK ?_;refine Zv ?_
        iterate 5 refine ZU ?_
        refine ZK ?_;refine ZB ?_;refine Zo ?_
        exact VG (false) ((by constructor <;> intro h9 <;> simp_all)) (.cons (k:=5) rfl (.cons (k:=4) rfl (.cons (k:=3) rfl (.cons (k:=2) rfl .nil)))) (fun w hw=>by first|exact hw|exact hw.c)
      ·replace hc6:=dF hc6
       iterate 5 refine ZU ?_
       refine ZK ?_;refine Zv ?_
       iterate 5 refine ZU ?_
       refine ZK ?_;refine Zv ?_
       iterate 5 refine ZU ?_
       refine ZK ?_;refine ZB ?_;refine Zo ?_
       exact VG (false) ((by constructor <;> intro h9 <;> simp_all)) (.cons (k:=5) rfl (.cons (k:=4) rfl (.cons (k:=3) rfl (.cons (k:=2) rfl .nil)))) (fun w hw=>by first|exact hw|exact hw.c)
     ·replace hc5:=dF hc5
      iterate 5 refine ZU ?_
      refine ZK ?_;refine Zv ?_
      iterate 5 refine ZU ?_
      refine ZK ?_;refine Zv ?_
      iterate 5 refine ZU ?_
      refine ZK ?_;refine Zv ?_
      iterate 5 refine ZU ?_
      refine ZK ?_;refine ZB ?_;refine Zo ?_
      exact VG (false) ((by constructor <;> intro h9 <;> simp_all)) (.cons (k:=5) rfl (.cons (k:=4) rfl (.cons (k:=3) rfl (.cons (k:=2) rfl .nil)))) (fun w hw=>by first|exact hw|exact hw.c)
    ·replace hc4:=dF hc4
     iterate 5 refine ZU ?_
     refine ZK ?_;refine Zv ?_
     iterate 5 refine ZU ?_
     refine ZK ?_;refine Zv ?_
     iterate 5 refine ZU ?_
     refine ZK ?_;refine Zv ?_
     iterate 5 refine ZU ?_
     refine ZK ?_;refine Zv ?_
     iterate 5 refine ZU ?_
     refine ZK ?_;refine ZB ?_;refine Zo ?_
     exact VG (false) ((by constructor <;> intro h9 <;> simp_all)) (.cons (k:=5) rfl (.cons (k:=4) rfl (.cons (k:=3) rfl (.cons (k:=2) rfl .nil)))) (fun w hw=>by first|exact hw|exact hw.c)
   ·replace hc3:=dF hc3
    iterate 5 refine ZU ?_
    refine ZK ?_;refine Zv ?_
    iterate 5 refine ZU ?_
    refine ZK ?_;refine Zv ?_
    iterate 5 refine ZU ?_
    refine ZK ?_;refine Zv ?_
    iterate 5 refine ZU ?_
    refine ZK ?_;refine Zv ?_
    iterate 5 refine ZU ?_
    refine ZK ?_;refine Zv ?_
    iterate 5 refine ZU ?_
    refine ZK ?_;refine ZB ?_;refine Zo ?_
    exact VG (false) ((by constructor <;> intro h9 <;> simp_all)) (.cons (k:=5) rfl (.cons (k:=4) rfl (.cons (k:=3) rfl (.cons (k:=2) rfl .nil)))) (fun w hw=>by first|exact hw|exact hw.c)
  ·rintro b5 hb5
   refine ZI ?_;refine C_cutX (α:=Bool) (fun b:Bool=>[(6,.bool b)]) (fun b:Bool=>(b=true↔a_pingTo=b_pingTo∧a_pingReq=b_pingReq∧a_findTo=b_findTo∧a_findReq=b_findReq∧a_findID=b_findID∧a_hops=b_hops∧a_turn=b_turn)) (.cons (k:=5) rfl (.cons (k:=4) rfl (.cons (k:=3) rfl (.cons (k:=2) rfl .nil)))) ?_ ?_
   ·skip
    refine Zm (l:=[0,1,2,3,4,5,6,7,8,9,10,11,12,13,14,15,16,17,18,19,20,21,22,23,24,25,26,27,28,29,30,31,32,33,34,35,36,37,38,39,40,41,42,43,44,45,46,47]) rfl ?_;refine Zk F.foff32_8 ?_;refine ZH F.lay3 ?_;refine Zk F.foff32_8 ?_;refine ZH F.lay3 ?_;refine Yz ?_;refine Zv ?_
    refine Yh 59 rfl (fun hc9=>?_) (fun hc9=>?_)
    ·replace hc9:=dT hc9
     refine Zk F.foff32_9 ?_;refine ZH F.lay29 ?_;refine Zk F.foff32_9 ?_;refine ZH F.lay29 ?_;refine Yz ?_;refine ZK ?_;refine Zv ?_
     refine Yh 66 rfl (fun hc10=>?_) (fun hc10=>?_)
     ·replace hc10:=dT hc10
      refine Zk F.foff32_10 ?_;refine ZH F.lay3 ?_;refine Zk F.foff32_10 ?_;refine ZH F.lay3 ?_;refine Yz ?_;refine ZK ?_;refine Zv ?_
      refine Yh 73 rfl (fun hc11=>?_) (fun hc11=>?_)
      ·replace hc11:=dT hc11
       refine Zk F.foff32_11 ?_;refine ZH F.lay29 ?_;refine Zk F.foff32_11 ?_;refine ZH F.lay29 ?_;refine Yz ?_;refine ZK ?_;refine Zv ?_
       refine Yh 80 rfl (fun hc12=>?_) (fun hc12=>?_)
       ·replace hc12:=dT hc12
        refine Zk F.foff32_12 ?_;refine ZH F.lay23 ?_;refine Zk F.foff32_12 ?_;refine ZH F.lay23 ?_
        refine Wf (m:=20) rfl rfl rfl rfl rfl (by constructor) (by constructor) F.lay23 F.kinds23 rfl F.guard23 (Vg WE) (Vg WE) rfl rfl rfl ?_;intro c13 he14
        replace he14:c13=true↔Segs.cells _=Segs.cells _:=he14
        obtain rfl:=eqD he14 (cells_id1 (x:=_) (y:=_));clear he14
        refine ZK ?_;refine Zv ?_
        refine Yh 87 rfl (fun hc15=>?_) (fun hc15=>?_)
        ·replace hc15:=dT hc15
         refine Zk F.foff32_14 ?_;refine ZH F.lay3 ?_;refine Zk F.foff32_14 ?_;refine ZH F.lay3 ?_;refine Yz ?_;refine ZK ?_;refine Zv ?_
         refine Yh 94 rfl (fun hc16=>?_) (fun hc16=>?_)
         ·replace hc16:=dT hc16
          refine Zk F.foff32_15 ?_;refine ZH F.lay3 ?_;refine Zk F.foff32_15 ?_;refine ZH F.lay3 ?_;refine Yz ?_;refine ZK ?_;refine ZB ?_;refine Zo ?_
          exact VG (decide (a_turn=b_turn)) ((by constructor <;> intro h9 <;> simp_all)) (.cons (k:=6) rfl (.cons (k:=5) rfl (.cons (k:=4) rfl (.cons (k:=3) rfl (.cons (k:=2) rfl .nil))))) (fun w hw=>by first|exact hw|exact hw.c)
         ·replace hc16:=dF hc16
          iterate 5 refine ZU ?_
          refine ZK ?_;refine ZB ?_;refine Zo ?_
          exact VG (false) ((by constructor <;> intro h9 <;> simp_all)) (.cons (k:=6) rfl (.cons (k:=5) rfl (.cons (k:=4) rfl (.cons (k:=3) rfl (.cons (k:=2) rfl .nil))))) (fun w hw=>by first|exact hw|exact hw.c)
        ·replace hc15:=dF hc15
         iterate 5 refine ZU ?_
         refine ZK ?_;refine Zv ?_
         iterate 5 refine ZU ?_
         refine ZK ?_;refine ZB ?_;refine Zo ?_
         exact VG (false) ((by constructor <;> intro h9 <;> simp_all)) (.cons (k:=6) rfl (.cons (k:=5) rfl (.cons (k:=4) rfl (.cons (k:=3) rfl (.cons (k:=2) rfl .nil))))) (fun w hw=>by first|exact hw|exact hw.c)
       ·replace hc12:=dF hc12
        iterate 5 refine ZU ?_
        refine ZK ?_;refine Zv ?_
        iterate 5 refine ZU ?_
        refine ZK ?_;refine Zv ?_
        iterate 5 refine ZU ?_
        refine ZK ?_;refine ZB ?_;refine Zo ?_
        exact VG (false) ((by constructor <;> intro h9 <;> simp_all)) (.cons (k:=6) rfl (.cons (k:=5) rfl (.cons (k:=4) rfl (.cons (k:=3) rfl (.cons (k:=2) rfl .nil))))) (fun w hw=>by first|exact hw|exact hw.c)
      ·replace hc11:=dF hc11
       iterate 5 refine ZU ?_
       refine ZK ?_;refine Zv ?_
       iterate 5 refine ZU ?_
       refine ZK ?_;refine Zv ?_
       iterate 5 refine ZU ?_
       refine ZK ?_;refine Zv ?_
       iterate 5 refine ZU ?_
       refine ZK ?_;refine ZB ?_;refine Zo ?_
       exact VG (false) ((by constructor <;> intro h9 <;> simp_all)) (.cons (k:=6) rfl (.cons (k:=5) rfl (.cons (k:=4) rfl (.cons (k:=3) rfl (.cons (k:=2) rfl .nil))))) (fun w hw=>by first|exact hw|exact hw.c)
     ·replace hc10:=dF hc10
      iterate 5 refine ZU ?_
      refine ZK ?_;refine Zv ?_
      iterate 5 refine ZU ?_
      refine ZK ?_;refine Zv ?_
      iterate 5 refine ZU ?_
      refine ZK ?_;refine Zv ?_
      iterate 5 refine ZU ?_
      refine ZK ?_;refine Zv ?_
      iterate 5 refine ZU ?_
      refine ZK ?_;refine ZB ?_;refine Zo ?_
      exact VG (false) ((by constructor <;> intro h9 <;> simp_all)) (.cons (k:=6) rfl (.cons (k:=5) rfl (.cons (k:=4) rfl (.cons (k:=3) rfl (.cons (k:=2) rfl .nil))))) (fun w hw=>by first|exact hw|exact hw.c)
    ·replace hc9:=dF hc9
     iterate 5 refine ZU ?_
     refine ZK ?_;refine Zv ?_
     iterate 5 refine ZU ?_
     refine ZK ?_;refine Zv ?_
     iterate 5 refine ZU ?_
     refine ZK ?_;refine Zv ?_
     iterate 5 refine ZU ?_
     refine ZK ?_;refine Zv ?_
     iterate 5 refine ZU ?_
     refine ZK ?_;refine Zv ?_
     iterate 5 refine ZU ?_
     refine ZK ?_;refine ZB ?_;refine Zo ?_
     exact VG (false) ((by constructor <;> intro h9 <;> simp_all)) (.cons (k:=6) rfl (.cons (k:=5) rfl (.cons (k:=4) rfl (.cons (k:=3) rfl (.cons (k:=2) rfl .nil))))) (fun w hw=>by first|exact hw|exact hw.c)
   ·rintro b6 hb6
    refine ZI (Zm (l:=[0,1,2,3,4,5,6,7,8,9,10,11,12,13,14,15,16,17,18]) rfl ?_);refine Zk F.foff32_0 ?_;refine ZH F.lay28 ?_;refine Zk F.foff32_0 ?_;refine ZH F.lay28 ?_;refine X_fs rfl rfl F.ok42 rfl (SameT_ok _ ⟨⟨a_table_self_addr,a_table_self_id⟩,⟨a_table_pred_addr,a_table_pred_id⟩,⟨a_table_succ_a,a_table_succ_c,We⟩,⟨a_table_fingers_a,a_table_fingers_c,XR⟩⟩ ⟨⟨b_table_self_addr,b_table_self_id⟩,⟨b_table_pred_addr,b_table_pred_id⟩,⟨b_table_succ_a,b_table_succ_c,Wd⟩,⟨b_table_fingers_a,b_table_fingers_c,XQ⟩⟩ k_a_table k_b_table) rfl ?_
    rintro _ rfl
    refine Zv ?_
    refine Yh 106 rfl (fun hc17=>?_) (fun hc17=>?_)
    ·replace hc17:=dT hc17
     refine Zv ?_;refine ZK ?_;refine Zv ?_
     refine Yh 109 rfl (fun hc18=>?_) (fun hc18=>?_)
     ·skip
      refine Zv ?_;refine ZK ?_;refine Zv ?_
      refine Yh 112 rfl (fun hc19=>?_) (fun hc19=>?_)
      ·skip
       refine Zk F.foff32_13 ?_;refine ZH F.lay30 ?_;refine Zk F.foff32_13 ?_;refine ZH F.lay30 ?_;refine X_fs rfl rfl F.ok43 rfl (Ints_ok _ ⟨a_avoid_a,a_avoid_c,Wn⟩ ⟨b_avoid_a,b_avoid_c,Wm⟩ k_a_avoid k_b_avoid) rfl ?_
       rintro _ rfl
       refine ZK ?_;refine ZB ?_;refine Zo (Zn (Y_pk [4] ?_));refine Yg ?_
       refine Ya (.inr rfl) (.tmp rfl .nil) (fun w hw=>?_)
       refine ⟨_,rfl,(hw.c),?_⟩
       clear hw
       try simp only [List.map_id] at *
       refine congrArg Value.bool ?_
       exact decide_eq_decide.2 ⟨fun h9=>by simp_all [ZO.nd],fun h9=>by simp only [Nd.mk.injEq,ZO.nd] at h9;simp_all⟩
      ·skip
       iterate 5 refine ZU ?_
       refine ZK ?_;refine ZB ?_;refine Zo (Zn (Y_pk [4] ?_));refine Yg ?_
       refine Ya (.inr rfl) (.tmp rfl .nil) (fun w hw=>?_)
       refine ⟨_,rfl,(hw.c),?_⟩
       clear hw
       try simp only [List.map_id] at *
       refine congrArg Value.bool ?_
       exact (decide_eq_false (fun h9=>by simp only [Nd.mk.injEq,ZO.nd] at h9;simp_all)).symm
     ·skip
      refine ZU ?_;refine ZK ?_;refine Zv ?_
      iterate 5 refine ZU ?_
      refine ZK ?_;refine ZB ?_;refine Zo (Zn (Y_pk [4] ?_));refine Yg ?_
      refine Ya (.inr rfl) (.tmp rfl .nil) (fun w hw=>?_)
      refine ⟨_,rfl,(hw.c),?_⟩
      clear hw
      try simp only [List.map_id] at *
      refine congrArg Value.bool ?_
      exact (decide_eq_false (fun h9=>by simp only [Nd.mk.injEq,ZO.nd] at h9;simp_all)).symm
    ·replace hc17:=dF hc17
     refine ZU ?_;refine ZK ?_;refine Zv ?_;refine ZU ?_;refine ZK ?_;refine Zv ?_
     iterate 5 refine ZU ?_
     refine ZK ?_;refine ZB ?_;refine Zo (Zn (Y_pk [4] ?_));refine Yg ?_
     refine Ya (.inr rfl) (.tmp rfl .nil) (fun w hw=>?_)
     refine ⟨_,rfl,(hw.c),?_⟩
     clear hw
     try simp only [List.map_id] at *
     refine congrArg Value.bool ?_
     exact (decide_eq_false (fun h9=>by simp only [Nd.mk.injEq,ZO.nd] at h9;simp_all)).symm
theorem BigN_ok (M:Mem) (n:ZO) (hn0:ZO.ok M n):Fs Tryz.prog 9 [n.enc] M (fun v=>∃ b:Bool,v=.bool b∧(b=false→(n.table.succ.l.length≤40∧n.table.fingers.l.length≤200)∧n.avoid.l.length≤60)):=by
  obtain ⟨⟨⟨Za,Zb⟩,⟨Zc,Zh⟩,⟨Zj,Zi,Zg⟩,⟨Zf,Ze,Zd⟩⟩,Zq,Zu,ZF,Zx,ZN,ZC,ZA,Zw,Zr,Zy,Zp,Zz,⟨Zt,Zs,Zl⟩,ZE,ZG⟩:=n
  have Yj:ZL.ok M ⟨⟨Za,Zb⟩,⟨Zc,Zh⟩,⟨Zj,Zi,Zg⟩,⟨Zf,Ze,Zd⟩⟩:=hn0.h0
  have YQ:SlK M ZD.segs 21 ⟨Zj,Zi,Zg⟩:=hn0.h0.h0
  have s_n_table_succ:SlM M Zj (Zg.map ZD.segs) 21:=YQ.h1
  have n_n_table_succ:(Zg.map ZD.segs).length=Zg.length:=List.length_map ..
  have m_n_table_succ:Zg.length≤9223372036854775807:=YQ.h2
  have c_n_table_succ:Zg.length≤Zi:=YQ.h3
  have YD:SlK M ZD.segs 21 ⟨Zf,Ze,Zd⟩:=hn0.h0.h1
  have s_n_table_fingers:SlM M Zf (Zd.map ZD.segs) 21:=YD.h1
  have n_n_table_fingers:(Zd.map ZD.segs).length=Zd.length:=List.length_map ..
  have m_n_table_fingers:Zd.length≤9223372036854775807:=YD.h2
  have c_n_table_fingers:Zd.length≤Ze:=YD.h3
  have Ys:SlK M (oneI .i64) 1 ⟨Zt,Zs,Zl⟩:=hn0.h1
  have WY:SlM M Zt (Zl.map (oneI .i64)) 1:=Ys.h1
  have n_n_avoid:(Zl.map (oneI .i64)).length=Zl.length:=List.length_map ..
  have Vc:Zl.length≤9223372036854775807:=Ys.h2
  have c_n_avoid:Zl.length≤Zs:=Ys.h3
  refine Xm Tryz.func9 rfl Tryz.ntmps9 rfl ?_;intro H
  refine ZI (Zm (l:=[0,1]) rfl ?_)
  refine Xk ?_;intro b1
  refine ZB ?_;refine Zo (Zn (Y_pk [2,1] ?_));refine ZI (Zm (l:=[0,1,2,3,4,5,6,7,8,9]) rfl ?_);refine Zk F.foff32_0 ?_;refine ZH F.lay28 ?_;refine X_fs rfl rfl F.ok31 rfl (BigT_ok _ ⟨⟨Za,Zb⟩,⟨Zc,Zh⟩,⟨Zj,Zi,Zg⟩,⟨Zf,Ze,Zd⟩⟩ Yj) rfl ?_
  rintro _ rfl
  refine Zv ?_
  refine Yh 6 rfl (fun hc2=>?_) (fun hc2=>?_)
  ·replace hc2:=dT hc2
   simp only [ZD.eta,ZL.eta,ZO.eta,ZM.eta,Yd.eta,ZQ.eta,YI.eta,ZX.eta] at hc2
   iterate 4 refine ZU ?_
   refine ZK ?_;refine ZB ?_;refine Zo (Zn (Y_pk [2] ?_));refine Yg ?_
   refine Ya (.inr rfl) (.tmp rfl .nil) (fun w hw=>?_)
   refine ⟨_,rfl,hw.c,_,rfl,?_⟩
   clear hw
   intro h9
   (cases h9;done)
  ·replace hc2:=dF hc2
   simp only [ZD.eta,ZL.eta,ZO.eta,ZM.eta,Yd.eta,ZQ.eta,YI.eta,ZX.eta] at hc2
   refine Zk F.foff32_13 ?_;refine ZH F.lay30 ?_;refine YX F.elem30 ?_;refine Yz ?_;refine ZK ?_;refine ZB ?_;refine Zo (Zn (Y_pk [2] ?_));refine Yg ?_
   refine Ya (.inr rfl) (.tmp rfl .nil) (fun w hw=>?_)
   refine ⟨_,rfl,hw.c,_,rfl,?_⟩
   clear hw
   intro h9
   (have h8:=of_decide_eq_false h9;refine ⟨⟨?_,?_⟩,by show Zl.length≤60;omega⟩ <;> simp_all <;> omega)
end Go.Proofs.YtajmnjefajknoaaGreat
namespace Go.Esp
def VL (l:List Int) (a:Int):List Int:=if a∈l∨16≤l.length then l else l++[a]
theorem shunN_l (n:Nd) (a:Int):shunN n a={ n with avoid:=VL n.avoid a }:=by
  unfold shunN VL
  split <;> rfl
theorem nx_w64 (r:Int):w64 (r+1)=nxR r:=by
  unfold nxR w64
  rfl
theorem first_at {t:Tb} (h:0<t.succ.length):Xl t=t.succ[0]:=by
  obtain ⟨a,b,su,f⟩:=t
  match su,h with
  | p::l,_=>rfl
theorem stab_alone {n:Nd} {l:List Int} (hj:n.joined=false) (hl:l=if n.findTo≠-1∧n.findTo≠n.boot then VL n.avoid n.findTo else n.avoid):stabN n=seekN { n with findID:=n.table.self.id,hops:=0,avoid:=l } n.boot:=by
  subst hl
  unfold stabN
  rw [if_pos hj]
  by_cases h:n.findTo≠-1∧n.findTo≠n.boot
  · simp only [if_pos h,shunN_l]
  · simp only [if_neg h]
theorem stab_joined {n m m2:Nd} (hj:n.joined=true) (h1:m=if n.askTo≠-1 then { n with table:=Wg n.table n.askTo,askTo:=-1 } else n) (h2:m2=if m.table.succ=[]∧m.table.pred≠YW then WF m m.table.pred [] else m) :
    stabN n=if m2.table.succ=[] then (m2,[]) else ({ m2 with req:=nxR m2.req,askTo:=(Xl m2.table).addr,askReq:=nxR m2.req },[⟨(Xl m2.table).addr,lett m2 3 (nxR m2.req)⟩]):=by
  subst h1 h2
  unfold stabN
  rw [if_neg (by rw [hj];decide)]
theorem fix_eq {n m:Nd} {id:Plc} (hj:n.joined=true) (hm:m=if n.findTo=-1 then { n with avoid:=[] } else { n with avoid:=VL n.avoid n.findTo,table:=Wg n.table n.findTo,findTo:=-1 }) (hid:id=m.table.self.id+powP m.cursor.toNat) :
    fixN n=if (VN m.table id).2 then (VR m (VN m.table id).1,[]) else if (WB m.table id m.avoid).2=false then ({ m with cursor:=0 },[]) else seekN { m with findID:=id,hops:=0 } (WB m.table id m.avoid).1.addr:=by
  subst hid hm
  unfold fixN
  rw [if_neg (by rw [hj];decide)]
  by_cases h:n.findTo=-1
  · simp only [if_pos h]
  · simp only [if_neg h,shunN_l]
theorem forget_big {t9 t:Tb} {a:Int} (h:t9=Wg t a) (hb:t.succ.length≤40∧t.fingers.length≤200):t9.succ.length≤40∧t9.fingers.length≤200:=by
  subst h
  unfold Wg
  refine ⟨Nat.le_trans (List.length_filter_le _ _) hb.1,?_⟩
  simp only [List.length_map]
  exact hb.2
theorem check_nil {n m:Nd} (hm:m=if n.pingTo≠-1 then { n with table:=Wg n.table n.pingTo,pingTo:=-1 } else n) (hl:knownT m.table=[]):checkN n=(m,[]):=by
  subst hm
  unfold checkN
  simp only
  rw [hl]
theorem check_cons {n m:Nd} {l:List ZD} {k:Nat} {a:Int} (hm:m=if n.pingTo≠-1 then { n with table:=Wg n.table n.pingTo,pingTo:=-1 } else n) (hl:knownT m.table=l) (hk:k<l.length) (he:m.turn.toNat % l.length=k) (ha:a=l[k].addr) :
    checkN n=({ m with req:=nxR m.req,pingTo:=a,pingReq:=nxR m.req,turn:=(m.turn+1) % 1000000 },[⟨a,lett m 6 (nxR m.req)⟩]):=by
  subst hm
  unfold checkN
  simp only
  rw [hl]
  match l,hk,he,ha with
  | p::l,hk,he,ha =>
    have h:(((p::l)[(if n.pingTo≠-1 then { n with table:=Wg n.table n.pingTo,pingTo:=-1 } else n).turn.toNat % (l.length+1)]?).getD YW).addr=a:=by
      rw [show l.length+1=(p::l).length from rfl,he,List.getElem?_eq_getElem hk,ha]
      rfl
    simp only [h]
theorem tick_yes {n:Nd} {k:Int} {r:Nd×List Snd} (h:IsNd n) (h1:1≤k∧k≤3) (hr:r=if k=1 then stabN n else if k=2 then fixN n else checkN n):VP n k=(r.1,r.2,0):=by
  subst hr
  unfold VP
  rw [if_pos ⟨h,h1.1,h1.2⟩]
theorem tick_no {n:Nd} {k:Int} (h:¬(IsNd n∧1≤k∧k≤3)):VP n k=(Nd.zero,[],1):=by
  unfold VP
  rw [if_neg h]
def SnE (M:Mem) (v:Value) (X:List Snd):Prop:=∃ o9:Sl Yd,v=o9.val∧sndl o9.l=X∧SlK M Yd.segs 68 o9∧∀ y∈o9.l,Yd.ok M y
def NE (M:Mem) (v:Value) (X:Nd):Prop:=∃ n9:ZO,v=n9.enc∧n9.nd=X∧ZO.ok M n9
def NsE (M:Mem) (v:Value) (X:Nd×List Snd):Prop:=∃ (n9:ZO) (o9:Sl Yd),v=.tuple #[n9.enc,o9.val]∧n9.nd=X.1∧sndl o9.l=X.2∧ZO.ok M n9∧SlK M Yd.segs 68 o9∧∀ y∈o9.l,Yd.ok M y
def NtE (M:Mem) (v:Value) (X:Nd×List Snd×Int):Prop:=∃ (n9:ZO) (o9:Sl Yd),v=.tuple #[n9.enc,o9.val,.int .i64 X.2.2]∧n9.nd=X.1∧sndl o9.l=X.2.1∧ZO.ok M n9∧SlK M Yd.segs 68 o9∧∀ y∈o9.l,Yd.ok M y
end Go.Esp
namespace Go.Proofs.YtajmnjefajknoaaGreat
open Go.Esp
theorem F.bld44:Bld Tryz.prog 44 [[.one (.int .i64 0)],[.one (.int .i64 0),Yq 0],[.one (.int .u64 0)],[Yq 0],[.one (.slice none 0 0)],[.one (.bool false)],[.one (.int .i64 0),Yq 0],[.one (.slice none 0 0)]]:=by rw [VI];exact ⟨by kernel_rfl,by kernel_rfl⟩
theorem F.bld49:Bld Tryz.prog 49 [[.one (.int .i64 0)],[.one (.int .i64 0),.one (.int .i64 0),Yq 0,.one (.int .u64 0),Yq 0,.one (.slice none 0 0),.one (.bool false),.one (.int .i64 0),Yq 0,.one (.slice none 0 0)]]:=by rw [VI];exact ⟨by kernel_rfl,by kernel_rfl⟩
theorem F.ok58:okFn Tryz.prog 58=true:=by kernel_rfl
theorem F.zero32:Wa Tryz.prog 32=some (aggV [.one (.int .i64 0),Yq 0,.one (.int .i64 0),Yq 0,.one (.slice none 0 0),.one (.slice none 0 0),.one (.int .i64 0),.one (.bool false),.one (.int .i64 0),.one (.int .i64 0),.one (.int .u64 0),.one (.int .i64 0),.one (.int .u64 0),.one (.int .i64 0),.one (.int .u64 0),.one (.int .i64 0),.one (.int .u64 0),Yq 0,.one (.slice none 0 0),.one (.int .i64 0),.one (.int .i64 0)]):=by rw [VI];kernel_rfl
theorem F.zero44:Wa Tryz.prog 44=some (aggV [.one (.int .i64 0),.one (.int .i64 0),Yq 0,.one (.int .u64 0),Yq 0,.one (.slice none 0 0),.one (.bool false),.one (.int .i64 0),Yq 0,.one (.slice none 0 0)]):=by rw [VI];kernel_rfl
theorem F.zero49:Wa Tryz.prog 49=some (aggV [.one (.int .i64 0),.one (.int .i64 0),.one (.int .i64 0),Yq 0,.one (.int .u64 0),Yq 0,.one (.slice none 0 0),.one (.bool false),.one (.int .i64 0),Yq 0,.one (.slice none 0 0)]):=by rw [VI];kernel_rfl
theorem rlett_ok (M:Mem) (n:ZO) (kind:Int) (req:Int):Fs Tryz.prog 58 [n.enc,.int .i64 kind,.int .u64 req] M (fun v=>v= ((ZM.mk kind n.table.self req 0 ⟨none,0,[]⟩ false YW ⟨none,0,[]⟩).enc)):=by
  obtain ⟨⟨⟨Za,Zb⟩,⟨Zc,Zh⟩,⟨Zj,Zi,Zg⟩,⟨Zf,Ze,Zd⟩⟩,Zq,Zu,ZF,Zx,ZN,ZC,ZA,Zw,Zr,Zy,Zp,Zz,⟨Zt,Zs,Zl⟩,ZE,ZG⟩:=n
  refine Xm Tryz.func58 rfl Tryz.ntmps58 rfl ?_;intro H
  refine ZI (Zm (l:=[0,1]) rfl ?_)
  refine Xk ?_;intro b1
  refine YT F.zero44 ?_;intro b2
  refine Zo (Zn (Y_pk [6,3,1,2] ?_));refine ZI (Yy (l:=[0,1,2,3,4,5,6,7]) #[0,0,2,6,0,0,63,127] _ rfl (by kernel_rfl) (by kernel_rfl) St.drawn (fun _ h=>h) ?_);refine Zv ?_;refine Zk F.foff32_0 ?_;refine Zk F.foff28_0 ?_;refine ZH F.lay25 ?_;refine Zv ?_;refine X_fs rfl rfl F.ok67 rfl (rNone_ok _) rfl ?_
  rintro _ rfl
  refine WV 12 rfl (show _=aggV [.one (.int .i64 (-1)),Yq 0] from rfl) ?_;refine Xg rfl rfl F.bld44 (.cons rfl (by constructor) (.cons rfl (by constructor) (.cons rfl (by constructor) (.cons rfl (by constructor) .nil)))) rfl rfl ?_;refine X_store rfl rfl rfl rfl (by constructor) (by ((try simp only [cat,List.cons_append,List.nil_append,List.append_nil]);(repeat (first|exact XA|refine XC ?_|(refine YF ?_ ?_;rfl)));done)) (by repeat first|exact Upd.head|apply Upd.tail|apply Upd.over) F.lay44 (by simp only [ZD.segs,ZL.segs,ZO.segs,ZM.segs,Yd.segs,ZQ.segs,YI.segs,ZX.segs,cat,List.cons_append,List.nil_append,List.append_nil,Segs.len,Seg.len,Yq]) (put_all (m:=67) rfl (by simp only [ZD.segs,ZL.segs,ZO.segs,ZM.segs,Yd.segs,ZQ.segs,YI.segs,ZX.segs,cat,List.cons_append,List.nil_append,List.append_nil,Segs.len,Seg.len,Yq]) (by simp only [ZD.segs,ZL.segs,ZO.segs,ZM.segs,Yd.segs,ZQ.segs,YI.segs,ZX.segs,cat,List.cons_append,List.nil_append,List.append_nil,Segs.len,Seg.len,Yq])) ?_
  refine Zo (Zn (Y_pk [6] ?_));refine Yg ?_
  refine Ya (.inr rfl) (.cell rfl (by repeat first|exact List.Mem.head _|refine List.Mem.tail _ ?_|refine List.mem_append_right _ ?_) F.lay44 rfl rfl .nil) (fun w hw=>?_)
  refine ⟨_,rfl,(hw.c),?_⟩
  clear hw
  rfl
end Go.Proofs.YtajmnjefajknoaaGreat
namespace Go.Proofs.YtajmnjefajknoaaGreat
open Go.Esp
end Go.Proofs.YtajmnjefajknoaaGreat
namespace Go.Proofs.YtajmnjefajknoaaGreat
open Go.Esp
end Go.Proofs.YtajmnjefajknoaaGreat
namespace Go.Proofs.YtajmnjefajknoaaGreat
open Go.Esp
end Go.Proofs.YtajmnjefajknoaaGreat
namespace Go.Proofs.YtajmnjefajknoaaGreat
open Go.Esp
end Go.Proofs.YtajmnjefajknoaaGreat
namespace Go.Proofs.YtajmnjefajknoaaGreat
open Go.Esp
theorem F.bld32:Bld Tryz.prog 32 [[.one (.int .i64 0),Yq 0,.one (.int .i64 0),Yq 0,.one (.slice none 0 0),.one (.slice none 0 0)],[.one (.int .i64 0)],[.one (.bool false)],[.one (.int .i64 0)],[.one (.int .i64 0)],[.one (.int .u64 0)],[.one (.int .i64 0)],[.one (.int .u64 0)],[.one (.int .i64 0)],[.one (.int .u64 0)],[.one (.int .i64 0)],[.one (.int .u64 0)],[Yq 0],[.one (.slice none 0 0)],[.one (.int .i64 0)],[.one (.int .i64 0)]]:=by rw [VI];exact ⟨by kernel_rfl,by kernel_rfl⟩
theorem F.ok28:okFn Tryz.prog 28=true:=by kernel_rfl
end Go.Proofs.YtajmnjefajknoaaGreat
namespace Go.Proofs.YtajmnjefajknoaaGreat
open Go.Esp
end Go.Proofs.YtajmnjefajknoaaGreat
namespace Go.Esp
theorem found_no {n:Nd} {l:Lt} (h:n.findTo≠l.frm.addr∨n.findReq≠l.req):foundN n l=(n,[]):=if_pos h
theorem found_in {n:Nd} {l:Lt} (h1:n.findTo=l.frm.addr) (h2:n.findReq=l.req):foundN n l =
    if l.done then (if n.joined=true∧(Xr n.table.self l.peer∨l.peer=n.table.self) then (VR { n with findTo:=-1 } l.peer,[]) else if n.joined=false∧Xr n.table.self l.peer then ({ WF { n with findTo:=-1 } l.peer [] with joined:=true,cursor:=0,avoid:=[] },[]) else ({ n with findTo:=-1 },[]))
    else if ¬Xr n.table.self l.peer∨l.peer.addr∈n.avoid∨l.peer.addr=l.frm.addr∨32≤n.hops then ({ n with findTo:=-1 },[])
    else seekN { n with hops:=n.hops+1 } l.peer.addr:=by
  unfold foundN
  rw [if_neg (by rintro (h|h);exact h h1;exact h h2)]
theorem found_drop {n:Nd} {l:Lt} (h1:n.findTo=l.frm.addr) (h2:n.findReq=l.req) (h3:l.done=false) (h4:¬Xr n.table.self l.peer∨l.peer.addr∈n.avoid∨l.peer.addr=l.frm.addr∨32≤n.hops):foundN n l=({ n with findTo:=-1 },[]):=by
  rw [found_in h1 h2,if_neg (by rw [h3];decide),if_pos h4]
theorem found_seek {n:Nd} {l:Lt} (h1:n.findTo=l.frm.addr) (h2:n.findReq=l.req) (h3:l.done=false) (h4:Xr n.table.self l.peer) (h5:l.peer.addr∉n.avoid) (h6:l.peer.addr≠l.frm.addr) (h7:¬32≤n.hops):foundN n l=seekN { n with hops:=n.hops+1 } l.peer.addr:=by
  rw [found_in h1 h2,if_neg (by rw [h3];decide),if_neg (by rintro (q|q|q|q);exact q h4;exact h5 q;exact h6 q;exact h7 q)]
theorem told_no {n:Nd} {l:Lt} (h:n.askTo≠l.frm.addr∨n.askReq≠l.req):toldN n l=(n,[]):=if_pos h
theorem told_yes {n m q:Nd} {l:Lt} (h1:n.askTo=l.frm.addr) (h2:n.askReq=l.req) (hm:m=WF { n with askTo:=-1 } l.frm l.peers) (h3:CloserT m.table l.peer) (hq:q=WF m l.peer (l.frm::l.peers)):toldN n l=(q,[⟨(Xl q.table).addr,lett q 5 0⟩]):=by
  subst hm hq
  unfold toldN
  rw [if_neg (by rintro (h|h);exact h h1;exact h h2)]
  simp only [if_pos h3]
theorem told_not {n m:Nd} {l:Lt} (h1:n.askTo=l.frm.addr) (h2:n.askReq=l.req) (hm:m=WF { n with askTo:=-1 } l.frm l.peers) (h3:¬CloserT m.table l.peer):toldN n l=(m,[⟨(Xl m.table).addr,lett m 5 0⟩]):=by
  subst hm
  unfold toldN
  rw [if_neg (by rintro (h|h);exact h h1;exact h h2)]
  simp only [if_neg h3]
theorem adopt_not {n:Nd} {p:ZD} {l:List ZD} (h:¬Xr n.table.self p):WF n p l=n:=by
  have h2:Vz n.table p l n.copies=(Tb.zero,1):=if_neg (by rintro ⟨_,q,_⟩;exact h q)
  unfold WF
  rw [h2]
  exact if_neg (by decide)
def byeT (n:Nd) (l:Lt):Tb:=if n.table.pred.addr=l.frm.addr then VC (Wg n.table l.frm.addr) l.peer else Wg n.table l.frm.addr
theorem bye_yes {n m:Nd} {l:Lt} (hm:m={ n with table:=byeT n l }) (h1:(Xl n.table).addr=l.frm.addr) (h2:0<l.peers.length):byeN n l=WF m l.peers[0] (l.peers.drop 1):=by
  subst hm
  unfold byeN byeT
  match hl:l.peers,h2 with
  | p::ps,_=>simp only [if_pos h1,List.getElem_cons_zero,List.drop_succ_cons,List.drop_zero]
theorem bye_no {n m:Nd} {l:Lt} (hm:m={ n with table:=byeT n l }) (h:(Xl n.table).addr=l.frm.addr→∀ h:0<l.peers.length,¬Xr m.table.self l.peers[0]):byeN n l=m:=by
  by_cases h1:(Xl n.table).addr=l.frm.addr
  · by_cases h2:0<l.peers.length
    · rw [bye_yes hm h1 h2]
      exact adopt_not (h h1 h2)
    · have h3:l.peers=[]:=List.eq_nil_of_length_eq_zero (by omega)
      subst hm
      unfold byeN byeT
      rw [h3]
  · subst hm
    unfold byeN byeT
    match hl:l.peers with
    | []=>rfl
    | p::ps=>simp only [if_neg h1]
theorem Vi {n:Nd} {l:Lt} (h:¬(IsNd n∧IsLt l)):VQ n l=(Nd.zero,[],1):=if_neg h
theorem take_not {n:Nd} {l:Lt} (h1:IsNd n) (h2:IsLt l) (h:¬Xr n.table.self l.frm):VQ n l=(n,[],0):=by
  unfold VQ
  rw [if_pos ⟨h1,h2⟩,if_pos h]
def XU (n:Nd) (l:Lt):Nd×List Snd :=
  if l.kind=1 then (n,findN n l)
  else if l.kind=2 then foundN n l
  else if l.kind=3 then (n,if n.joined then [⟨l.frm.addr,{ lett n 4 l.req with peer:=n.table.pred,peers:=n.table.succ }⟩] else [])
  else if l.kind=4 then toldN n l
  else if l.kind=5 then ({ n with table:=VC n.table l.frm },[])
  else if l.kind=6 then (n,[⟨l.frm.addr,lett n 7 l.req⟩])
  else if l.kind=7 then (if n.pingTo=l.frm.addr∧n.pingReq=l.req then { n with pingTo:=-1 } else n,[])
  else (byeN n l,[])
theorem take_does {n:Nd} {l:Lt} (h1:IsNd n) (h2:IsLt l) (h:Xr n.table.self l.frm):VQ n l=((XU n l).1,(XU n l).2,0):=by
  unfold VQ XU
  rw [if_pos ⟨h1,h2⟩,if_neg (fun q=>q h)]
  split
  · rfl
  split
  · rfl
  split
  · rfl
  split
  · rfl
  split
  · rfl
  split
  · rfl
  split <;> rfl
def LvE (M:Mem) (v:Value) (X:List Snd×Int):Prop:=∃ o9:Sl Yd,v=.tuple #[o9.val,.int .i64 X.2]∧sndl o9.l=X.1∧SlK M Yd.segs 68 o9∧∀ y∈o9.l,Yd.ok M y
def NeE (M:Mem) (v:Value) (X:Nd×Int):Prop:=∃ n9:ZO,v=.tuple #[n9.enc,.int .i64 X.2]∧n9.nd=X.1∧ZO.ok M n9
theorem leave_odd {n:Nd} (h:¬IsNd n):leaveN n=([],1):=if_neg h
theorem Vk {n:Nd} {a b:List Snd} (h:IsNd n) (ha:(n.table.succ=[]∧a=[])∨∃ h:0<n.table.succ.length,a=[⟨n.table.succ[0].addr,{ lett n 8 0 with peer:=n.table.pred,peers:=n.table.succ }⟩])
    (hb:((n.table.pred=YW∨n.table.pred=Xl n.table)∧b=[])∨((n.table.pred≠YW∧n.table.pred≠Xl n.table)∧b=[⟨n.table.pred.addr,{ lett n 8 0 with peer:=n.table.pred,peers:=n.table.succ }⟩])):leaveN n=(a++b,0):=by
  have e1:a=if n.table.succ=[] then [] else [⟨(Xl n.table).addr,{ lett n 8 0 with peer:=n.table.pred,peers:=n.table.succ }⟩]:=by
    rcases ha with ⟨h1,h2⟩|⟨h1,h2⟩
    · rw [if_pos h1,h2]
    · rw [if_neg (fun q=>by rw [q] at h1;exact absurd h1 (by decide)),h2,first_at h1]
  have e2:b=if n.table.pred≠YW∧n.table.pred≠Xl n.table then [⟨n.table.pred.addr,{ lett n 8 0 with peer:=n.table.pred,peers:=n.table.succ }⟩] else []:=by
    rcases hb with ⟨h1,h2⟩|⟨h1,h2⟩
    · rw [if_neg (fun q=>h1.elim q.1 q.2),h2]
    · rw [if_pos h1,h2]
  subst e1 e2
  exact if_pos h
theorem Vl {s:ZD} {r:Int} (h:¬(YH s.addr∧1≤r∧r≤8)):VE s r=(Nd.zero,1):=if_neg h
theorem alone_is {s:ZD} {r:Int} (h:YH s.addr∧1≤r∧r≤8):VE s r=(⟨(newT s).1,r,true,-1,0,0,-1,0,-1,0,-1,0,0,[],0,0⟩,0):=if_pos h
theorem new_ok {s:ZD}:(newT s).2=0↔YH s.addr:=by
  unfold newT
  split <;> simp_all
theorem Wh {s:ZD} {r b:Int} (h:¬((VE s r).2=0∧YH b∧b≠s.addr)):joiningN s r b=(Nd.zero,1):=if_neg h
theorem joining_is {s:ZD} {r b:Int} (h:(VE s r).2=0∧YH b∧b≠s.addr):joiningN s r b=({ (VE s r).1 with joined:=false,boot:=b },0):=if_pos h
theorem does1 {n:Nd} {l:Lt} (h:l.kind=1):XU n l=(n,findN n l):=if_pos h
theorem does2 {n:Nd} {l:Lt} (h:l.kind=2):XU n l=foundN n l:=by
  unfold XU
  rw [if_neg (by rw [h];decide),if_pos h]
theorem does3 {n:Nd} {l:Lt} (h:l.kind=3):XU n l=(n,if n.joined then [⟨l.frm.addr,{ lett n 4 l.req with peer:=n.table.pred,peers:=n.table.succ }⟩] else []):=by
  unfold XU
  rw [if_neg (by rw [h];decide),if_neg (by rw [h];decide),if_pos h]
theorem does3n {n:Nd} {l:Lt} (h:l.kind=3) (hj:n.joined=false):XU n l=(n,[]):=by
  rw [does3 h,hj]
  rfl
theorem does3y {n:Nd} {l:Lt} (h:l.kind=3) (hj:n.joined=true):XU n l=(n,[⟨l.frm.addr,{ lett n 4 l.req with peer:=n.table.pred,peers:=n.table.succ }⟩]):=by
  rw [does3 h,hj]
  rfl
theorem does4 {n:Nd} {l:Lt} (h:l.kind=4):XU n l=toldN n l:=by
  unfold XU
  rw [if_neg (by rw [h];decide),if_neg (by rw [h];decide),if_neg (by rw [h];decide),if_pos h]
theorem does5 {n:Nd} {l:Lt} {T:Tb} (h:l.kind=5) (hT:T=VC n.table l.frm):XU n l=({ n with table:=T },[]):=by
  subst hT
  unfold XU
  rw [if_neg (by rw [h];decide),if_neg (by rw [h];decide),if_neg (by rw [h];decide),if_neg (by rw [h];decide),if_pos h]
theorem does6 {n:Nd} {l:Lt} (h:l.kind=6):XU n l=(n,[⟨l.frm.addr,lett n 7 l.req⟩]):=by
  unfold XU
  rw [if_neg (by rw [h];decide),if_neg (by rw [h];decide),if_neg (by rw [h];decide),if_neg (by rw [h];decide),if_neg (by rw [h];decide),if_pos h]
theorem does7 {n:Nd} {l:Lt} (h:l.kind=7):XU n l=(if n.pingTo=l.frm.addr∧n.pingReq=l.req then { n with pingTo:=-1 } else n,[]):=by
  unfold XU
  rw [if_neg (by rw [h];decide),if_neg (by rw [h];decide),if_neg (by rw [h];decide),if_neg (by rw [h];decide),if_neg (by rw [h];decide),if_neg (by rw [h];decide),if_pos h]
theorem does7y {n:Nd} {l:Lt} (h:l.kind=7) (h1:n.pingTo=l.frm.addr∧n.pingReq=l.req):XU n l=({ n with pingTo:=-1 },[]):=by
  rw [does7 h,if_pos h1]
theorem does7n {n:Nd} {l:Lt} (h:l.kind=7) (h1:¬(n.pingTo=l.frm.addr∧n.pingReq=l.req)):XU n l=(n,[]):=by
  rw [does7 h,if_neg h1]
theorem does8 {n:Nd} {l:Lt} (h:l.kind=8):XU n l=(byeN n l,[]):=by
  unfold XU
  rw [if_neg (by rw [h];decide),if_neg (by rw [h];decide),if_neg (by rw [h];decide),if_neg (by rw [h];decide),if_neg (by rw [h];decide),if_neg (by rw [h];decide),if_neg (by rw [h];decide)]
end Go.Esp
namespace Go.Proofs.YtajmnjefajknoaaGreat
open Go.Esp
end Go.Proofs.YtajmnjefajknoaaGreat
namespace Go.Proofs.YtajmnjefajknoaaGreat
open Go.Esp
theorem F.fld25_0:fld Tryz.prog 25 0=some (0,3):=by kernel_rfl
end Go.Proofs.YtajmnjefajknoaaGreat
namespace Go.Proofs.YtajmnjefajknoaaGreat
open Go.Esp
end Go.Proofs.YtajmnjefajknoaaGreat
namespace Go.Proofs.YtajmnjefajknoaaGreat
open Go.Esp
end Go.Proofs.YtajmnjefajknoaaGreat
namespace Go.Proofs.YtajmnjefajknoaaGreat
open Go.Esp
theorem F.ok22:okFn Tryz.prog 22=true:=by kernel_rfl
theorem F.ok64:okFn Tryz.prog 64=true:=by kernel_rfl
theorem rLeave_ok (M:Mem) (n:ZO) (hn0:ZO.ok M n):Esp.Fn Tryz.prog 26 [n.enc] M (fun M' v=>LvE M' v (leaveN n.nd)):=by
  obtain ⟨⟨⟨Za,Zb⟩,⟨Zc,Zh⟩,⟨Zj,Zi,Zg⟩,⟨Zf,Ze,Zd⟩⟩,Zq,Zu,ZF,Zx,ZN,ZC,ZA,Zw,Zr,Zy,Zp,Zz,⟨Zt,Zs,Zl⟩,ZE,ZG⟩:=n
  have Yj:ZL.ok M ⟨⟨Za,Zb⟩,⟨Zc,Zh⟩,⟨Zj,Zi,Zg⟩,⟨Zf,Ze,Zd⟩⟩:=hn0.h0
  have YQ:SlK M ZD.segs 21 ⟨Zj,Zi,Zg⟩:=hn0.h0.h0
  have s_n_table_succ:SlM M Zj (Zg.map ZD.segs) 21:=YQ.h1
  have n_n_table_succ:(Zg.map ZD.segs).length=Zg.length:=List.length_map ..
  have m_n_table_succ:Zg.length≤9223372036854775807:=YQ.h2
  have c_n_table_succ:Zg.length≤Zi:=YQ.h3
  have YD:SlK M ZD.segs 21 ⟨Zf,Ze,Zd⟩:=hn0.h0.h1
  have s_n_table_fingers:SlM M Zf (Zd.map ZD.segs) 21:=YD.h1
  have n_n_table_fingers:(Zd.map ZD.segs).length=Zd.length:=List.length_map ..
  have m_n_table_fingers:Zd.length≤9223372036854775807:=YD.h2
  have c_n_table_fingers:Zd.length≤Ze:=YD.h3
  have Ys:SlK M (oneI .i64) 1 ⟨Zt,Zs,Zl⟩:=hn0.h1
  have WY:SlM M Zt (Zl.map (oneI .i64)) 1:=Ys.h1
  have n_n_avoid:(Zl.map (oneI .i64)).length=Zl.length:=List.length_map ..
  have Vc:Zl.length≤9223372036854775807:=Ys.h2
  have c_n_avoid:Zl.length≤Zs:=Ys.h3
  refine Wu Tryz.func26 rfl Tryz.ntmps26 rfl ?_;intro H
  refine ZI (Zm (l:=[0,1,2]) rfl ?_)
  refine Xk ?_;intro b1
  iterate 2 refine ZB ?_
  refine Zo (Zn (Y_pk [3,2,1] ?_))
  iterate 2 refine ZI ?_
  refine Zm (l:=[0,1,2]) rfl ?_;refine ZH F.lay32 ?_;refine X_fs rfl rfl F.ok28 rfl (rIsN_ok _ ⟨⟨⟨Za,Zb⟩,⟨Zc,Zh⟩,⟨Zj,Zi,Zg⟩,⟨Zf,Ze,Zd⟩⟩,Zq,Zu,ZF,Zx,ZN,ZC,ZA,Zw,Zr,Zy,Zp,Zz,⟨Zt,Zs,Zl⟩,ZE,ZG⟩ hn0) rfl ?_
  rintro _ rfl
  refine Xx ?_;refine Zo (Zn (Y_pk [8,3,2,1] ?_))
  refine Yx rfl (fun hc2=>?_) (fun hc2=>?_)
  ·replace hc2:=nT hc2
   refine ZI (Zm (l:=[0,1]) rfl ?_)
   iterate 2 refine ZB ?_
   refine Zo (Zn (Y_pk [3,2,1] ?_));refine Yg (YG ?_)
   refine Ya (.inr rfl) (.tmp rfl (.tmp rfl .nil)) (fun w hw=>?_)
   refine ⟨_,M,rfl,Mem.le.refl M,hw.c,⟨none,0,[]⟩,?_,?_,SlK.nil,fun y hy=>by cases hy⟩
   ·rw [leave_odd (by assumption)];rfl
   ·rw [leave_odd (by assumption)];rfl
  ·replace hc2:=nF hc2
   refine Yv (Zn (Y_pk [3,2,1] ?_));refine ZI ?_
   have hnd9:IsNd (ZO.nd ⟨⟨⟨Za,Zb⟩,⟨Zc,Zh⟩,⟨Zj,Zi,Zg⟩,⟨Zf,Ze,Zd⟩⟩,Zq,Zu,ZF,Zx,ZN,ZC,ZA,Zw,Zr,Zy,Zp,Zz,⟨Zt,Zs,Zl⟩,ZE,ZG⟩):=by assumption
   refine Zm (l:=[0,1,2,3]) rfl ?_;refine ZH F.lay32 ?_;refine X_fs rfl rfl F.ok58 rfl (rlett_ok _ ⟨⟨⟨Za,Zb⟩,⟨Zc,Zh⟩,⟨Zj,Zi,Zg⟩,⟨Zf,Ze,Zd⟩⟩,Zq,Zu,ZF,Zx,ZN,ZC,ZA,Zw,Zr,Zy,Zp,Zz,⟨Zt,Zs,Zl⟩,ZE,ZG⟩ 8 0) rfl ?_
   rintro _ rfl
   refine YT F.zero44 ?_;intro b3
   refine X_store rfl rfl rfl rfl (by constructor) (by ((try simp only [cat,List.cons_append,List.nil_append,List.append_nil]);(repeat (first|exact XA|refine XC ?_|(refine YF ?_ ?_;rfl)));done)) (by repeat first|exact Upd.head|apply Upd.tail|apply Upd.over) F.lay44 (by simp only [ZD.segs,ZL.segs,ZO.segs,ZM.segs,Yd.segs,ZQ.segs,YI.segs,ZX.segs,cat,List.append_eq,List.cons_append,List.nil_append,List.append_nil,Segs.len,Seg.len,Yq]) (put_all (m:=67) rfl (by simp only [ZD.segs,ZL.segs,ZO.segs,ZM.segs,Yd.segs,ZQ.segs,YI.segs,ZX.segs,cat,List.append_eq,List.cons_append,List.nil_append,List.append_nil,Segs.len,Seg.len,Yq]) (by simp only [ZD.segs,ZL.segs,ZO.segs,ZM.segs,Yd.segs,ZQ.segs,YI.segs,ZX.segs,cat,List.append_eq,List.cons_append,List.nil_append,List.append_nil,Segs.len,Seg.len,Yq])) ?_
   refine Zo (Zn (Y_pk [4,3,2,1] ?_));refine ZI (Zm (l:=[0,1,2,3,4]) rfl ?_);refine Zk F.foff32_0 ?_;refine Zk F.foff28_1 ?_;refine ZH F.lay25 ?_;refine Zk F.foff44_6 ?_;refine Yi F.lay25 ?_;refine Zo (Zn (Y_pk [4,3,2,1] ?_));refine ZI (Zm (l:=[0,1,2,3,4]) rfl ?_);refine Zk F.foff32_0 ?_;refine Zk F.foff28_2 ?_;refine ZH F.lay26 ?_;refine Zk F.foff44_7 ?_;refine Yi F.lay26 ?_;refine Zo (Zn (Y_pk [4,3,2,1] ?_));refine ZI (Zm (l:=[0]) rfl ?_);refine ZB ?_;refine Zo (Zn ?_)
   iterate 2 refine ZI ?_
   refine Zm (l:=[0,1,2,3,4]) rfl ?_;refine Zk F.foff32_0 ?_;refine Zk F.foff28_2 ?_;refine ZH F.lay26 ?_;refine YX F.elem26 ?_;refine Yz ?_;refine Zo (Zn (Y_pk [23,5,4,3,2,1] ?_))
   refine Yx rfl (fun hc4=>?_) (fun hc4=>?_)
   ·replace hc4:=dT hc4
    refine Yy (l:=[0,1,2,3,4,5,6,7,8,9,10,11]) #[0,0,2,6,14,30,62,0,254,510,1023,2047] _ rfl (by kernel_rfl) (by kernel_rfl) St.drawn (fun _ h=>h) ?_;refine Zv ?_;refine Zk F.foff32_0 ?_;refine Zk F.foff28_2 ?_;refine ZH F.lay26 ?_;refine YR rfl rfl rfl rfl F.elem26 (by rfl) (by (simp;omega)) (by exact SlM.plain (by assumption) (by (simp;omega))) rfl ?_;refine Xp rfl rfl rfl (by exact SlM.plain (by assumption) (by (simp;omega))) F.foff25_0 rfl ?_;refine Xo rfl rfl rfl (by assumption) (by exact XW (by (simp;omega))) F.lay3 rfl rfl rfl ?_;refine ZH F.lay44 ?_;refine Xg rfl rfl F.bld49 (.cons rfl (by constructor) (.cons rfl (by constructor) .nil)) rfl rfl ?_
    refine XB rfl rfl F.elem35 F.zero49 rfl rfl (.cons rfl (by constructor) .nil) rfl rfl (by simp only [List.map_cons,List.map_nil] <;> rfl) rfl ?_;intro b5 hob6
    refine Vm (m:=1000000) rfl rfl rfl rfl rfl F.elem35 F.zero49 (by exact Ve rfl) rfl (by exact OSl.nil) (by repeat first|exact Rem.here _|exact Rem.two|apply Rem.skip|apply Rem.over) (Src.own hob6.lens (by (refine rows_one1 ?_;(repeat (first|exact XA|refine XC ?_|(refine YF ?_ ?_;rfl)));done)) rfl (by repeat first|exact List.Mem.head _|refine List.Mem.tail _ ?_|refine List.mem_append_right _ ?_)) (by (simp;done)) (by decide) rfl ?_;intro v9 hs8 ho7;obtain ⟨adv9,cpv9,rfl⟩:=ho7.val
    have hoA:=ho7
    refine ZB ?_;refine Zo (Zn (Y_pk [5,4,3,2,1] ?_))
    iterate 2 refine ZI ?_
    refine Yy (l:=[0,1,2,3,4,5,6,7,8,9,10,11,12,13]) #[0,1,3,0,15,31,63,127,255,63,575,1599,4095,8191] _ rfl (by kernel_rfl) (by kernel_rfl) St.drawn (fun _ h=>h) ?_;refine Zk F.foff32_0 ?_;refine Zk F.foff28_1 ?_;refine ZH F.lay25 ?_;refine X_fs rfl rfl F.ok67 rfl (rNone_ok _) rfl ?_
    rintro _ rfl
    refine WV 38 rfl (show _=aggV [.one (.int .i64 (-1)),Yq 0] from rfl) ?_
    refine Wf (m:=20) rfl rfl rfl rfl rfl (by constructor) (by constructor) F.lay25 F.kinds25 rfl F.guard25 (by exact Xf (⟨_,_⟩)) (by exact Xf (⟨_,_⟩)) rfl rfl rfl ?_;intro c10 he11
    replace he11:c10=true↔¬(Segs.cells _=Segs.cells _):=he11
    obtain rfl:=neD he11 (ZD.inj (x:=⟨_,_⟩) (y:=⟨_,_⟩));clear he11
    refine Zv ?_
    refine Yh 40 rfl (fun hc12=>?_) (fun hc12=>?_)
    ·replace hc12:=nT hc12
     refine Zk F.foff32_0 ?_;refine Zk F.foff28_1 ?_;refine ZH F.lay25 ?_;refine Zk F.foff32_0 ?_;refine ZH F.lay28 ?_;refine X_fs rfl rfl F.ok68 rfl (rFirst_ok _ ⟨⟨Za,Zb⟩,⟨Zc,Zh⟩,⟨Zj,Zi,Zg⟩,⟨Zf,Ze,Zd⟩⟩ Yj) rfl ?_
     rintro _ rfl
     obtain ⟨⟨fa,fi⟩,hfi⟩:∃ x,Xl (ZL.tb ⟨⟨Za,Zb⟩,⟨Zc,Zh⟩,⟨Zj,Zi,Zg⟩,⟨Zf,Ze,Zd⟩⟩)=x:=⟨_,rfl⟩
     rw [hfi]
     refine Wf (m:=20) rfl rfl rfl rfl rfl (by constructor) (by constructor) F.lay25 F.kinds25 rfl F.guard25 (by exact Xf (⟨_,_⟩)) (by exact Xf _) rfl rfl rfl ?_;intro c13 he14
     replace he14:c13=true↔¬(Segs.cells _=Segs.cells _):=he14
     obtain rfl:=neD he14 (ZD.inj (x:=⟨_,_⟩) (y:=⟨_,_⟩));clear he14
     refine ZK ?_;refine Zo (Zn (Y_pk [48,5,4,3,2,1] ?_))
     refine Yx rfl (fun hc15=>?_) (fun hc15=>?_)
     ·replace hc15:=nT hc15
      refine Zm (l:=[0,1,2,3,4,5,6,7,8,9]) rfl ?_;refine Zv ?_;refine Zk F.foff32_0 ?_;refine Zk F.foff28_1 ?_;refine Zk F.foff25_0 ?_;refine ZH F.lay3 ?_;refine ZH F.lay44 ?_;refine Xg rfl rfl F.bld49 (.cons rfl (by constructor) (.cons rfl (by constructor) .nil)) rfl rfl ?_
      refine XB rfl rfl F.elem35 F.zero49 rfl rfl (.cons rfl (by constructor) .nil) rfl rfl (by simp only [List.map_cons,List.map_nil] <;> rfl) rfl ?_;intro b16 hob17
      refine Vm (m:=1000000) rfl rfl rfl rfl rfl F.elem35 F.zero49 (by exact Ve rfl) rfl (by assumption) (by repeat first|exact Rem.here _|exact Rem.two|apply Rem.skip|apply Rem.over) (Src.own hob17.lens (by (refine rows_one1 ?_;(repeat (first|exact XA|refine XC ?_|(refine YF ?_ ?_;rfl)));done)) rfl (by repeat first|exact List.Mem.head _|refine List.Mem.tail _ ?_|refine List.mem_append_right _ ?_)) (by (simp;done)) (by decide) rfl ?_;intro v20 hs19 ho18;obtain ⟨adv20,cpv20,rfl⟩:=ho18.val
      have hoB:=ho18
      refine ZB ?_;refine Zo (Zn (Y_pk [5,3,2] ?_));refine ZI (Zm (l:=[0,1,2]) rfl ?_);refine Zv ?_
      iterate 2 refine ZB ?_
      refine Zo (Zn (Y_pk [3,2] ?_));refine Yg ?_
      refine Ya (.inr rfl) (.tmp rfl (.tmp rfl .nil)) (fun w hw=>?_)
      have h3:=Vk (n:=ZO.nd ⟨⟨⟨Za,Zb⟩,⟨Zc,Zh⟩,⟨Zj,Zi,Zg⟩,⟨Zf,Ze,Zd⟩⟩,Zq,Zu,ZF,Zx,ZN,ZC,ZA,Zw,Zr,Zy,Zp,Zz,⟨Zt,Zs,Zl⟩,ZE,ZG⟩) (a:=[Yd.snd (⟨Zg[0].addr,(⟨8,⟨Za,Zb⟩,0,0,⟨none,0,[]⟩,false,⟨Zc,Zh⟩,⟨Zj,Zi,Zg⟩⟩:ZM)⟩:Yd)]) (b:=[Yd.snd (⟨Zc,(⟨8,⟨Za,Zb⟩,0,0,⟨none,0,[]⟩,false,⟨Zc,Zh⟩,⟨Zj,Zi,Zg⟩⟩:ZM)⟩:Yd)]) hnd9 (.inr ⟨show 0<Zg.length by omega,rfl⟩) (.inr ⟨⟨show (⟨Zc,Zh⟩:ZD)≠YW by first|assumption|(simp_all;done),show (⟨Zc,Zh⟩:ZD)≠Xl (ZL.tb ⟨⟨Za,Zb⟩,⟨Zc,Zh⟩,⟨Zj,Zi,Zg⟩,⟨Zf,Ze,Zd⟩⟩) from by rw [hfi];first|assumption|(simp_all;done)⟩,rfl⟩)
      obtain ⟨M9,j1,j2,j3⟩:=OSl.frz (H:=H) (l:=[(⟨Zg[0].addr,(⟨8,⟨Za,Zb⟩,0,0,⟨none,0,[]⟩,false,⟨Zc,Zh⟩,⟨Zj,Zi,Zg⟩⟩:ZM)⟩:Yd),(⟨Zc,(⟨8,⟨Za,Zb⟩,0,0,⟨none,0,[]⟩,false,⟨Zc,Zh⟩,⟨Zj,Zi,Zg⟩⟩:ZM)⟩:Yd)]) (f:=Yd.segs) (show OSl 49 68 _ _ ([(⟨Zg[0].addr,(⟨8,⟨Za,Zb⟩,0,0,⟨none,0,[]⟩,false,⟨Zc,Zh⟩,⟨Zj,Zi,Zg⟩⟩:ZM)⟩:Yd),(⟨Zc,(⟨8,⟨Za,Zb⟩,0,0,⟨none,0,[]⟩,false,⟨Zc,Zh⟩,⟨Zj,Zi,Zg⟩⟩:ZM)⟩:Yd)].map Yd.segs) from (by exact hoB)) (hw.c)
      refine ⟨_,M9,rfl,j1,j2,⟨_,_,[(⟨Zg[0].addr,(⟨8,⟨Za,Zb⟩,0,0,⟨none,0,[]⟩,false,⟨Zc,Zh⟩,⟨Zj,Zi,Zg⟩⟩:ZM)⟩:Yd),(⟨Zc,(⟨8,⟨Za,Zb⟩,0,0,⟨none,0,[]⟩,false,⟨Zc,Zh⟩,⟨Zj,Zi,Zg⟩⟩:ZM)⟩:Yd)]⟩,by rw [h3];rfl,by rw [h3];rfl,j3,fun y hy=>?_⟩
      simp only [List.mem_cons,List.not_mem_nil,or_false] at hy
      have k8:=Yj.h0.mono j1
      rcases hy with rfl|rfl <;> exact ⟨⟨SlK.nil,k8⟩⟩
     ·replace hc15:=nF hc15
      refine Yv (Zn (Y_pk [5,3,2] ?_));refine ZI (Zm (l:=[0,1,2]) rfl ?_);refine Zv ?_
      iterate 2 refine ZB ?_
      refine Zo (Zn (Y_pk [3,2] ?_));refine Yg ?_
      refine Ya (.inr rfl) (.tmp rfl (.tmp rfl .nil)) (fun w hw=>?_)
      have h3:=Vk (n:=ZO.nd ⟨⟨⟨Za,Zb⟩,⟨Zc,Zh⟩,⟨Zj,Zi,Zg⟩,⟨Zf,Ze,Zd⟩⟩,Zq,Zu,ZF,Zx,ZN,ZC,ZA,Zw,Zr,Zy,Zp,Zz,⟨Zt,Zs,Zl⟩,ZE,ZG⟩) (a:=[Yd.snd (⟨Zg[0].addr,(⟨8,⟨Za,Zb⟩,0,0,⟨none,0,[]⟩,false,⟨Zc,Zh⟩,⟨Zj,Zi,Zg⟩⟩:ZM)⟩:Yd)]) (b:=[]) hnd9 (.inr ⟨show 0<Zg.length by omega,rfl⟩) (.inl ⟨by first|(refine .inl ?_;show (⟨Zc,Zh⟩:ZD)=YW;assumption)|(refine .inr ?_;show (⟨Zc,Zh⟩:ZD)=Xl (ZL.tb ⟨⟨Za,Zb⟩,⟨Zc,Zh⟩,⟨Zj,Zi,Zg⟩,⟨Zf,Ze,Zd⟩⟩);rw [hfi];assumption)|(refine .inl ?_;show (⟨Zc,Zh⟩:ZD)=YW;simp_all;done)|(refine .inr ?_;show (⟨Zc,Zh⟩:ZD)=Xl (ZL.tb ⟨⟨Za,Zb⟩,⟨Zc,Zh⟩,⟨Zj,Zi,Zg⟩,⟨Zf,Ze,Zd⟩⟩);rw [hfi];simp_all;done),rfl⟩)
      obtain ⟨M9,j1,j2,j3⟩:=OSl.frz (H:=H) (l:=[(⟨Zg[0].addr,(⟨8,⟨Za,Zb⟩,0,0,⟨none,0,[]⟩,false,⟨Zc,Zh⟩,⟨Zj,Zi,Zg⟩⟩:ZM)⟩:Yd)]) (f:=Yd.segs) (show OSl 49 68 _ _ ([(⟨Zg[0].addr,(⟨8,⟨Za,Zb⟩,0,0,⟨none,0,[]⟩,false,⟨Zc,Zh⟩,⟨Zj,Zi,Zg⟩⟩:ZM)⟩:Yd)].map Yd.segs) from (by exact hoA)) (hw.c)
      refine ⟨_,M9,rfl,j1,j2,⟨_,_,[(⟨Zg[0].addr,(⟨8,⟨Za,Zb⟩,0,0,⟨none,0,[]⟩,false,⟨Zc,Zh⟩,⟨Zj,Zi,Zg⟩⟩:ZM)⟩:Yd)]⟩,by rw [h3];rfl,by rw [h3];rfl,j3,fun y hy=>?_⟩
      simp only [List.mem_cons,List.not_mem_nil,or_false] at hy
      have k8:=Yj.h0.mono j1
      subst hy
      exact ⟨⟨SlK.nil,k8⟩⟩
    ·replace hc12:=nF hc12
     iterate 7 refine ZU ?_
     refine ZK ?_;refine Zo (Zn (Y_pk [48,5,4,3,2,1] ?_));refine Ws rfl ?_;refine Yv (Zn (Y_pk [5,3,2] ?_));refine ZI (Zm (l:=[0,1,2]) rfl ?_);refine Zv ?_
     iterate 2 refine ZB ?_
     refine Zo (Zn (Y_pk [3,2] ?_));refine Yg ?_
     refine Ya (.inr rfl) (.tmp rfl (.tmp rfl .nil)) (fun w hw=>?_)
     have h3:=Vk (n:=ZO.nd ⟨⟨⟨Za,Zb⟩,⟨Zc,Zh⟩,⟨Zj,Zi,Zg⟩,⟨Zf,Ze,Zd⟩⟩,Zq,Zu,ZF,Zx,ZN,ZC,ZA,Zw,Zr,Zy,Zp,Zz,⟨Zt,Zs,Zl⟩,ZE,ZG⟩) (a:=[Yd.snd (⟨Zg[0].addr,(⟨8,⟨Za,Zb⟩,0,0,⟨none,0,[]⟩,false,⟨Zc,Zh⟩,⟨Zj,Zi,Zg⟩⟩:ZM)⟩:Yd)]) (b:=[]) hnd9 (.inr ⟨show 0<Zg.length by omega,rfl⟩) (.inl ⟨by first|(refine .inl ?_;show (⟨Zc,Zh⟩:ZD)=YW;assumption)|(refine .inr ?_;show (⟨Zc,Zh⟩:ZD)=Xl (ZL.tb ⟨⟨Za,Zb⟩,⟨Zc,Zh⟩,⟨Zj,Zi,Zg⟩,⟨Zf,Ze,Zd⟩⟩);rw [hfi];assumption)|(refine .inl ?_;show (⟨Zc,Zh⟩:ZD)=YW;simp_all;done)|(refine .inr ?_;show (⟨Zc,Zh⟩:ZD)=Xl (ZL.tb ⟨⟨Za,Zb⟩,⟨Zc,Zh⟩,⟨Zj,Zi,Zg⟩,⟨Zf,Ze,Zd⟩⟩);rw [hfi];simp_all;done),rfl⟩)
     obtain ⟨M9,j1,j2,j3⟩:=OSl.frz (H:=H) (l:=[(⟨Zg[0].addr,(⟨8,⟨Za,Zb⟩,0,0,⟨none,0,[]⟩,false,⟨Zc,Zh⟩,⟨Zj,Zi,Zg⟩⟩:ZM)⟩:Yd)]) (f:=Yd.segs) (show OSl 49 68 _ _ ([(⟨Zg[0].addr,(⟨8,⟨Za,Zb⟩,0,0,⟨none,0,[]⟩,false,⟨Zc,Zh⟩,⟨Zj,Zi,Zg⟩⟩:ZM)⟩:Yd)].map Yd.segs) from (by exact hoA)) (hw.c)
     refine ⟨_,M9,rfl,j1,j2,⟨_,_,[(⟨Zg[0].addr,(⟨8,⟨Za,Zb⟩,0,0,⟨none,0,[]⟩,false,⟨Zc,Zh⟩,⟨Zj,Zi,Zg⟩⟩:ZM)⟩:Yd)]⟩,by rw [h3];rfl,by rw [h3];rfl,j3,fun y hy=>?_⟩
     simp only [List.mem_cons,List.not_mem_nil,or_false] at hy
     have k8:=Yj.h0.mono j1
     subst hy
     exact ⟨⟨SlK.nil,k8⟩⟩
   ·replace hc4:=dF hc4
    refine Yv (Zn (Y_pk [5,4,3,2,1] ?_))
    iterate 2 refine ZI ?_
    refine Yy (l:=[0,1,2,3,4,5,6,7,8,9,10,11,12,13]) #[0,1,3,0,15,31,63,127,255,63,575,1599,4095,8191] _ rfl (by kernel_rfl) (by kernel_rfl) St.drawn (fun _ h=>h) ?_;refine Zk F.foff32_0 ?_;refine Zk F.foff28_1 ?_;refine ZH F.lay25 ?_;refine X_fs rfl rfl F.ok67 rfl (rNone_ok _) rfl ?_
    rintro _ rfl
    refine WV 38 rfl (show _=aggV [.one (.int .i64 (-1)),Yq 0] from rfl) ?_
    refine Wf (m:=20) rfl rfl rfl rfl rfl (by constructor) (by constructor) F.lay25 F.kinds25 rfl F.guard25 (by exact Xf (⟨_,_⟩)) (by exact Xf (⟨_,_⟩)) rfl rfl rfl ?_;intro c21 he22
    replace he22:c21=true↔¬(Segs.cells _=Segs.cells _):=he22
    obtain rfl:=neD he22 (ZD.inj (x:=⟨_,_⟩) (y:=⟨_,_⟩));clear he22
    refine Zv ?_
    refine Yh 40 rfl (fun hc23=>?_) (fun hc23=>?_)
    ·replace hc23:=nT hc23
     refine Zk F.foff32_0 ?_;refine Zk F.foff28_1 ?_;refine ZH F.lay25 ?_;refine Zk F.foff32_0 ?_;refine ZH F.lay28 ?_;refine X_fs rfl rfl F.ok68 rfl (rFirst_ok _ ⟨⟨Za,Zb⟩,⟨Zc,Zh⟩,⟨Zj,Zi,Zg⟩,⟨Zf,Ze,Zd⟩⟩ Yj) rfl ?_
     rintro _ rfl
     obtain ⟨⟨fa,fi⟩,hfi⟩:∃ x,Xl (ZL.tb ⟨⟨Za,Zb⟩,⟨Zc,Zh⟩,⟨Zj,Zi,Zg⟩,⟨Zf,Ze,Zd⟩⟩)=x:=⟨_,rfl⟩
     rw [hfi]
     refine Wf (m:=20) rfl rfl rfl rfl rfl (by constructor) (by constructor) F.lay25 F.kinds25 rfl F.guard25 (by exact Xf (⟨_,_⟩)) (by exact Xf _) rfl rfl rfl ?_;intro c24 he25
     replace he25:c24=true↔¬(Segs.cells _=Segs.cells _):=he25
     obtain rfl:=neD he25 (ZD.inj (x:=⟨_,_⟩) (y:=⟨_,_⟩));clear he25
     refine ZK ?_;refine Zo (Zn (Y_pk [48,5,4,3,2,1] ?_))
     refine Yx rfl (fun hc26=>?_) (fun hc26=>?_)
     ·replace hc26:=nT hc26
      refine Zm (l:=[0,1,2,3,4,5,6,7,8,9]) rfl ?_;refine Zv ?_;refine Zk F.foff32_0 ?_;refine Zk F.foff28_1 ?_;refine Zk F.foff25_0 ?_;refine ZH F.lay3 ?_;refine ZH F.lay44 ?_;refine Xg rfl rfl F.bld49 (.cons rfl (by constructor) (.cons rfl (by constructor) .nil)) rfl rfl ?_
      refine XB rfl rfl F.elem35 F.zero49 rfl rfl (.cons rfl (by constructor) .nil) rfl rfl (by simp only [List.map_cons,List.map_nil] <;> rfl) rfl ?_;intro b27 hob28
      refine Vm (m:=1000000) rfl rfl rfl rfl rfl F.elem35 F.zero49 (by exact Ve rfl) rfl (by exact OSl.nil) (by repeat first|exact Rem.here _|exact Rem.two|apply Rem.skip|apply Rem.over) (Src.own hob28.lens (by (refine rows_one1 ?_;(repeat (first|exact XA|refine XC ?_|(refine YF ?_ ?_;rfl)));done)) rfl (by repeat first|exact List.Mem.head _|refine List.Mem.tail _ ?_|refine List.mem_append_right _ ?_)) (by (simp;done)) (by decide) rfl ?_;intro v31 hs30 ho29;obtain ⟨adv31,cpv31,rfl⟩:=ho29.val
      have hoB:=ho29
      refine ZB ?_;refine Zo (Zn (Y_pk [5,3,2] ?_));refine ZI (Zm (l:=[0,1,2]) rfl ?_);refine Zv ?_
      iterate 2 refine ZB ?_
      refine Zo (Zn (Y_pk [3,2] ?_));refine Yg ?_
      refine Ya (.inr rfl) (.tmp rfl (.tmp rfl .nil)) (fun w hw=>?_)
      have h3:=Vk (n:=ZO.nd ⟨⟨⟨Za,Zb⟩,⟨Zc,Zh⟩,⟨Zj,Zi,Zg⟩,⟨Zf,Ze,Zd⟩⟩,Zq,Zu,ZF,Zx,ZN,ZC,ZA,Zw,Zr,Zy,Zp,Zz,⟨Zt,Zs,Zl⟩,ZE,ZG⟩) (a:=[]) (b:=[Yd.snd (⟨Zc,(⟨8,⟨Za,Zb⟩,0,0,⟨none,0,[]⟩,false,⟨Zc,Zh⟩,⟨Zj,Zi,Zg⟩⟩:ZM)⟩:Yd)]) hnd9 (.inl ⟨show Zg=[] from List.length_eq_zero_iff.1 (by omega),rfl⟩) (.inr ⟨⟨show (⟨Zc,Zh⟩:ZD)≠YW by first|assumption|(simp_all;done),show (⟨Zc,Zh⟩:ZD)≠Xl (ZL.tb ⟨⟨Za,Zb⟩,⟨Zc,Zh⟩,⟨Zj,Zi,Zg⟩,⟨Zf,Ze,Zd⟩⟩) from by rw [hfi];first|assumption|(simp_all;done)⟩,rfl⟩)
      obtain ⟨M9,j1,j2,j3⟩:=OSl.frz (H:=H) (l:=[(⟨Zc,(⟨8,⟨Za,Zb⟩,0,0,⟨none,0,[]⟩,false,⟨Zc,Zh⟩,⟨Zj,Zi,Zg⟩⟩:ZM)⟩:Yd)]) (f:=Yd.segs) (show OSl 49 68 _ _ ([(⟨Zc,(⟨8,⟨Za,Zb⟩,0,0,⟨none,0,[]⟩,false,⟨Zc,Zh⟩,⟨Zj,Zi,Zg⟩⟩:ZM)⟩:Yd)].map Yd.segs) from (by exact hoB)) (hw.c)
      refine ⟨_,M9,rfl,j1,j2,⟨_,_,[(⟨Zc,(⟨8,⟨Za,Zb⟩,0,0,⟨none,0,[]⟩,false,⟨Zc,Zh⟩,⟨Zj,Zi,Zg⟩⟩:ZM)⟩:Yd)]⟩,by rw [h3];rfl,by rw [h3];rfl,j3,fun y hy=>?_⟩
      simp only [List.mem_cons,List.not_mem_nil,or_false] at hy
      have k8:=Yj.h0.mono j1
      subst hy
      exact ⟨⟨SlK.nil,k8⟩⟩
     ·replace hc26:=nF hc26
      refine Yv (Zn (Y_pk [5,3,2] ?_));refine ZI (Zm (l:=[0,1,2]) rfl ?_);refine Zv ?_
      iterate 2 refine ZB ?_
      refine Zo (Zn (Y_pk [3,2] ?_));refine Yg ?_
      refine Ya (.inr rfl) (.tmp rfl (.tmp rfl .nil)) (fun w hw=>?_)
      have h3:=Vk (n:=ZO.nd ⟨⟨⟨Za,Zb⟩,⟨Zc,Zh⟩,⟨Zj,Zi,Zg⟩,⟨Zf,Ze,Zd⟩⟩,Zq,Zu,ZF,Zx,ZN,ZC,ZA,Zw,Zr,Zy,Zp,Zz,⟨Zt,Zs,Zl⟩,ZE,ZG⟩) (a:=[]) (b:=[]) hnd9 (.inl ⟨show Zg=[] from List.length_eq_zero_iff.1 (by omega),rfl⟩) (.inl ⟨by first|(refine .inl ?_;show (⟨Zc,Zh⟩:ZD)=YW;assumption)|(refine .inr ?_;show (⟨Zc,Zh⟩:ZD)=Xl (ZL.tb ⟨⟨Za,Zb⟩,⟨Zc,Zh⟩,⟨Zj,Zi,Zg⟩,⟨Zf,Ze,Zd⟩⟩);rw [hfi];assumption)|(refine .inl ?_;show (⟨Zc,Zh⟩:ZD)=YW;simp_all;done)|(refine .inr ?_;show (⟨Zc,Zh⟩:ZD)=Xl (ZL.tb ⟨⟨Za,Zb⟩,⟨Zc,Zh⟩,⟨Zj,Zi,Zg⟩,⟨Zf,Ze,Zd⟩⟩);rw [hfi];simp_all;done),rfl⟩)
      exact ⟨_,M,rfl,Mem.le.refl M,hw.c,⟨none,0,[]⟩,by rw [h3] <;> rfl,by rw [h3] <;> rfl,SlK.nil,fun y hy=>by cases hy⟩
    ·replace hc23:=nF hc23
     iterate 7 refine ZU ?_
     refine ZK ?_;refine Zo (Zn (Y_pk [48,5,4,3,2,1] ?_));refine Ws rfl ?_;refine Yv (Zn (Y_pk [5,3,2] ?_));refine ZI (Zm (l:=[0,1,2]) rfl ?_);refine Zv ?_
     iterate 2 refine ZB ?_
     refine Zo (Zn (Y_pk [3,2] ?_));refine Yg ?_
     refine Ya (.inr rfl) (.tmp rfl (.tmp rfl .nil)) (fun w hw=>?_)
     have h3:=Vk (n:=ZO.nd ⟨⟨⟨Za,Zb⟩,⟨Zc,Zh⟩,⟨Zj,Zi,Zg⟩,⟨Zf,Ze,Zd⟩⟩,Zq,Zu,ZF,Zx,ZN,ZC,ZA,Zw,Zr,Zy,Zp,Zz,⟨Zt,Zs,Zl⟩,ZE,ZG⟩) (a:=[]) (b:=[]) hnd9 (.inl ⟨show Zg=[] from List.length_eq_zero_iff.1 (by omega),rfl⟩) (.inl ⟨by first|(refine .inl ?_;show (⟨Zc,Zh⟩:ZD)=YW;assumption)|(refine .inr ?_;show (⟨Zc,Zh⟩:ZD)=Xl (ZL.tb ⟨⟨Za,Zb⟩,⟨Zc,Zh⟩,⟨Zj,Zi,Zg⟩,⟨Zf,Ze,Zd⟩⟩);rw [hfi];assumption)|(refine .inl ?_;show (⟨Zc,Zh⟩:ZD)=YW;simp_all;done)|(refine .inr ?_;show (⟨Zc,Zh⟩:ZD)=Xl (ZL.tb ⟨⟨Za,Zb⟩,⟨Zc,Zh⟩,⟨Zj,Zi,Zg⟩,⟨Zf,Ze,Zd⟩⟩);rw [hfi];simp_all;done),rfl⟩)
     exact ⟨_,M,rfl,Mem.le.refl M,hw.c,⟨none,0,[]⟩,by rw [h3] <;> rfl,by rw [h3] <;> rfl,SlK.nil,fun y hy=>by cases hy⟩
theorem rAlone_ok (M:Mem) (self:ZD) (r:Int):Esp.Fn Tryz.prog 22 [self.enc,.int .i64 r] M (fun M' v=>NeE M' v (VE self r)):=by
  obtain ⟨self_addr,self_id⟩:=self
  refine Wu Tryz.func22 rfl Tryz.ntmps22 rfl ?_;intro H
  refine ZI (Zm (l:=[0,1,2]) rfl ?_)
  refine Xk ?_;intro b1
  refine YT F.zero32 ?_;intro b2
  refine ZB ?_;refine Zo (Zn (Y_pk [5,4,2,1] ?_));refine ZI (Zm (l:=[0,1,2,3,4,5,6,7]) rfl ?_);refine ZH F.lay25 ?_;refine X_fn rfl rfl F.ok64 rfl (rNew_ok _ ⟨self_addr,self_id⟩) rfl ?_
  rintro _ M1 hm1 ⟨_,rfl,⟨⟨oa,oi⟩,⟨oq,oj⟩,⟨o1a,o1c,o1l⟩,⟨o2a,o2c,o2l⟩⟩,rfl,hot,okt⟩
  have hne:=new_ok (s:=⟨self_addr,self_id⟩)
  obtain ⟨ne,hnv⟩:∃ x,(newT ⟨self_addr,self_id⟩).2=x:=⟨_,rfl⟩
  rw [hnv] at hne ⊢
  refine Zv ?_
  iterate 2 refine Xz ?_
  refine YT F.zero28 ?_;intro b3
  refine Yi F.lay28 ?_;refine ZB ?_;refine Zo (Zn (Y_pk [7,6,5,4,1] ?_))
  iterate 2 refine ZI ?_
  refine Zm (l:=[0,1,2,3,4,5,6,7,8,9]) rfl ?_;refine Zv ?_;refine Yz ?_;refine Zv ?_
  refine Yh 15 rfl (fun hc4=>?_) (fun hc4=>?_)
  ·replace hc4:=nT hc4
   iterate 2 refine ZU ?_
   refine ZK ?_;refine Zv ?_
   iterate 2 refine ZU ?_
   refine ZK ?_;refine Zo (Zn (Y_pk [22,6,5,4,1] ?_));refine Xe rfl ?_;refine ZI (Zm (l:=[0,1,2]) rfl ?_);refine Xg rfl rfl F.bld32 (.nil) rfl rfl ?_;refine Xy F.lay32 ?_;refine ZB ?_;refine Zo (Zn (Y_pk [5,6,4,1] ?_));refine Yg (YG ?_)
   refine Ya (.inr rfl) (.cell rfl (by repeat first|exact List.Mem.head _|refine List.Mem.tail _ ?_|refine List.mem_append_right _ ?_) F.lay32 rfl rfl (.tmp rfl .nil)) (fun w hw=>?_)
   refine ⟨_,M1,rfl,hm1,hw.c,ZO.zero,?_,?_,ZO.zero_ok _⟩
   ·rw [Vl (by rintro ⟨q1,q2,q3⟩;have q4:=hne.2 q1;omega)];rfl
   ·rw [Vl (by rintro ⟨q1,q2,q3⟩;have q4:=hne.2 q1;omega)];rfl
  ·replace hc4:=nF hc4
   refine Zv ?_;refine Yz ?_;refine ZK ?_;refine Zv ?_
   refine Yh 19 rfl (fun hc5=>?_) (fun hc5=>?_)
   ·replace hc5:=dT hc5
    iterate 2 refine ZU ?_
    refine ZK ?_;refine Zo (Zn (Y_pk [22,6,5,4,1] ?_));refine Xe rfl ?_;refine ZI (Zm (l:=[0,1,2]) rfl ?_);refine Xg rfl rfl F.bld32 (.nil) rfl rfl ?_;refine Xy F.lay32 ?_;refine ZB ?_;refine Zo (Zn (Y_pk [5,6,4,1] ?_));refine Yg (YG ?_)
    refine Ya (.inr rfl) (.cell rfl (by repeat first|exact List.Mem.head _|refine List.Mem.tail _ ?_|refine List.mem_append_right _ ?_) F.lay32 rfl rfl (.tmp rfl .nil)) (fun w hw=>?_)
    refine ⟨_,M1,rfl,hm1,hw.c,ZO.zero,?_,?_,ZO.zero_ok _⟩
    ·rw [Vl (by rintro ⟨q1,q2,q3⟩;have q4:=hne.2 q1;omega)];rfl
    ·rw [Vl (by rintro ⟨q1,q2,q3⟩;have q4:=hne.2 q1;omega)];rfl
   ·replace hc5:=dF hc5
    refine Zv ?_;refine Yz ?_;refine ZK ?_;refine Zo (Zn (Y_pk [22,6,5,4,1] ?_))
    refine Yx rfl (fun hc6=>?_) (fun hc6=>?_)
    ·replace hc6:=dT hc6
     refine ZI (Zm (l:=[0,1,2]) rfl ?_);refine Xg rfl rfl F.bld32 (.nil) rfl rfl ?_;refine Xy F.lay32 ?_;refine ZB ?_;refine Zo (Zn (Y_pk [5,6,4,1] ?_));refine Yg (YG ?_)
     refine Ya (.inr rfl) (.cell rfl (by repeat first|exact List.Mem.head _|refine List.Mem.tail _ ?_|refine List.mem_append_right _ ?_) F.lay32 rfl rfl (.tmp rfl .nil)) (fun w hw=>?_)
     refine ⟨_,M1,rfl,hm1,hw.c,ZO.zero,?_,?_,ZO.zero_ok _⟩
     ·rw [Vl (by rintro ⟨q1,q2,q3⟩;have q4:=hne.2 q1;omega)];rfl
     ·rw [Vl (by rintro ⟨q1,q2,q3⟩;have q4:=hne.2 q1;omega)];rfl
    ·replace hc6:=dF hc6
     refine Yv (Zn (Y_pk [6,5,4,1] ?_));refine ZI (Zm (l:=[0,1,2,3,4]) rfl ?_);refine ZH F.lay28 ?_;refine Zv ?_;refine Xg rfl rfl F.bld32 (.cons rfl (by constructor) (.cons rfl (by constructor) (.cons rfl (by constructor) (.cons rfl (by constructor) (.cons rfl (by constructor) (.cons rfl (by constructor) (.cons rfl (by constructor) .nil))))))) rfl rfl ?_;refine Xy F.lay32 ?_;refine ZB ?_;refine Zo (Zn (Y_pk [5,4] ?_));refine Yg ?_
     refine Ya (.inr rfl) (.cell rfl (by repeat first|exact List.Mem.head _|refine List.Mem.tail _ ?_|refine List.mem_append_right _ ?_) F.lay32 rfl rfl (.tmp rfl .nil)) (fun w hw=>?_)
     have h3:=alone_is (s:=⟨self_addr,self_id⟩) (r:=r) ⟨hne.1 (by omega),by omega,by omega⟩
     rw [show (newT ⟨self_addr,self_id⟩).1=_ from hot.symm] at h3
     exact ⟨_,M1,rfl,hm1,hw.c,⟨⟨⟨oa,oi⟩,⟨oq,oj⟩,⟨o1a,o1c,o1l⟩,⟨o2a,o2c,o2l⟩⟩,r,true,-1,0,0,-1,0,-1,0,-1,0,0,⟨none,0,[]⟩,0,0⟩,by rw [h3];rfl,by rw [h3];rfl,⟨okt,SlK.nil⟩⟩
theorem rJoining_ok (M:Mem) (self:ZD) (r:Int) (boot:Int):Esp.Fn Tryz.prog 24 [self.enc,.int .i64 r,.int .i64 boot] M (fun M' v=>NeE M' v (joiningN self r boot)):=by
  obtain ⟨self_addr,self_id⟩:=self
  refine Wu Tryz.func24 rfl Tryz.ntmps24 rfl ?_;intro H
  refine ZI (Zm (l:=[0,1,2]) rfl ?_)
  refine Xk ?_;intro b1
  refine YT F.zero32 ?_;intro b2
  refine ZB ?_;refine Zo (Zn (Y_pk [7,6,3,1,2] ?_));refine ZI (Zm (l:=[0,1,2,3,4,5,6,7,8]) rfl ?_);refine ZH F.lay25 ?_;refine Zv ?_;refine X_fn rfl rfl F.ok22 rfl (rAlone_ok _ ⟨self_addr,self_id⟩ r) rfl ?_
  rintro _ M1 hm1 ⟨⟨⟨⟨YK,YU⟩,⟨YL,YV⟩,⟨Xb,Xa,YZ⟩,⟨YO,YN,YM⟩⟩,XI,XO,Wt,XH,WI,XY,XJ,XE,Xs,XF,Xt,XG,⟨Xw,Xv,Xu⟩,Wp,Wo⟩,rfl,hv1,okv⟩
  obtain ⟨ae,hae⟩:∃ x,(VE ⟨self_addr,self_id⟩ r).2=x:=⟨_,rfl⟩
  rw [hae]
  refine Zv ?_
  iterate 2 refine Xz ?_
  refine YT F.zero32 ?_;intro b3
  refine Xy F.lay32 ?_;refine ZB ?_;refine Zo (Zn (Y_pk [9,8,7,6,3,2] ?_))
  iterate 2 refine ZI ?_
  refine Zm (l:=[0,1,2,3,4,5,6,7,8,9,10,11,12,13,14,15]) rfl ?_;refine Zv ?_;refine Yz ?_;refine Zv ?_
  refine Yh 18 rfl (fun hc4=>?_) (fun hc4=>?_)
  ·replace hc4:=nT hc4
   iterate 2 refine ZU ?_
   refine ZK ?_;refine Zv ?_
   iterate 2 refine ZU ?_
   refine ZK ?_;refine Zv ?_
   iterate 4 refine ZU ?_
   refine ZK ?_;refine Zo (Zn (Y_pk [31,8,7,6,2] ?_));refine Xe rfl ?_;refine ZI (Zm (l:=[0,1,2]) rfl ?_);refine Xg rfl rfl F.bld32 (.nil) rfl rfl ?_;refine Xy F.lay32 ?_;refine ZB ?_;refine Zo (Zn (Y_pk [7,8,6,2] ?_));refine Yg (YG ?_)
   refine Ya (.inr rfl) (.cell rfl (by repeat first|exact List.Mem.head _|refine List.Mem.tail _ ?_|refine List.mem_append_right _ ?_) F.lay32 rfl rfl (.tmp rfl .nil)) (fun w hw=>?_)
   refine ⟨_,M1,rfl,hm1,hw.c,ZO.zero,?_,?_,ZO.zero_ok _⟩
   ·rw [Wh (by rintro ⟨q1,⟨q2,q4⟩,q3⟩;replace q3:boot≠self_addr:=q3;rw [hae] at q1;omega)];rfl
   ·rw [Wh (by rintro ⟨q1,⟨q2,q4⟩,q3⟩;replace q3:boot≠self_addr:=q3;rw [hae] at q1;omega)];rfl
  ·replace hc4:=nF hc4
   refine Zv ?_;refine Yz ?_;refine ZK ?_;refine Zv ?_
   refine Yh 22 rfl (fun hc5=>?_) (fun hc5=>?_)
   ·replace hc5:=dT hc5
    iterate 2 refine ZU ?_
    refine ZK ?_;refine Zv ?_
    iterate 4 refine ZU ?_
    refine ZK ?_;refine Zo (Zn (Y_pk [31,8,7,6,2] ?_));refine Xe rfl ?_;refine ZI (Zm (l:=[0,1,2]) rfl ?_);refine Xg rfl rfl F.bld32 (.nil) rfl rfl ?_;refine Xy F.lay32 ?_;refine ZB ?_;refine Zo (Zn (Y_pk [7,8,6,2] ?_));refine Yg (YG ?_)
    refine Ya (.inr rfl) (.cell rfl (by repeat first|exact List.Mem.head _|refine List.Mem.tail _ ?_|refine List.mem_append_right _ ?_) F.lay32 rfl rfl (.tmp rfl .nil)) (fun w hw=>?_)
    refine ⟨_,M1,rfl,hm1,hw.c,ZO.zero,?_,?_,ZO.zero_ok _⟩
    ·rw [Wh (by rintro ⟨q1,⟨q2,q4⟩,q3⟩;replace q3:boot≠self_addr:=q3;rw [hae] at q1;omega)];rfl
    ·rw [Wh (by rintro ⟨q1,⟨q2,q4⟩,q3⟩;replace q3:boot≠self_addr:=q3;rw [hae] at q1;omega)];rfl
   ·replace hc5:=dF hc5
    refine Zv ?_;refine Yz ?_;refine ZK ?_;refine Zv ?_
    refine Yh 26 rfl (fun hc6=>?_) (fun hc6=>?_)
    ·replace hc6:=dT hc6
     iterate 4 refine ZU ?_
     refine ZK ?_;refine Zo (Zn (Y_pk [31,8,7,6,2] ?_));refine Xe rfl ?_;refine ZI (Zm (l:=[0,1,2]) rfl ?_);refine Xg rfl rfl F.bld32 (.nil) rfl rfl ?_;refine Xy F.lay32 ?_;refine ZB ?_;refine Zo (Zn (Y_pk [7,8,6,2] ?_));refine Yg (YG ?_)
     refine Ya (.inr rfl) (.cell rfl (by repeat first|exact List.Mem.head _|refine List.Mem.tail _ ?_|refine List.mem_append_right _ ?_) F.lay32 rfl rfl (.tmp rfl .nil)) (fun w hw=>?_)
     refine ⟨_,M1,rfl,hm1,hw.c,ZO.zero,?_,?_,ZO.zero_ok _⟩
     ·rw [Wh (by rintro ⟨q1,⟨q2,q4⟩,q3⟩;replace q3:boot≠self_addr:=q3;rw [hae] at q1;omega)];rfl
     ·rw [Wh (by rintro ⟨q1,⟨q2,q4⟩,q3⟩;replace q3:boot≠self_addr:=q3;rw [hae] at q1;omega)];rfl
    ·replace hc6:=dF hc6
     refine Zv ?_;refine Zk F.foff25_0 ?_;refine ZH F.lay3 ?_;refine Yz ?_;refine ZK ?_;refine Zo (Zn (Y_pk [31,8,7,6,2] ?_))
     refine Yx rfl (fun hc7=>?_) (fun hc7=>?_)
     ·replace hc7:=dT hc7
      refine ZI (Zm (l:=[0,1,2]) rfl ?_);refine Xg rfl rfl F.bld32 (.nil) rfl rfl ?_;refine Xy F.lay32 ?_;refine ZB ?_;refine Zo (Zn (Y_pk [7,8,6,2] ?_));refine Yg (YG ?_)
      refine Ya (.inr rfl) (.cell rfl (by repeat first|exact List.Mem.head _|refine List.Mem.tail _ ?_|refine List.mem_append_right _ ?_) F.lay32 rfl rfl (.tmp rfl .nil)) (fun w hw=>?_)
      refine ⟨_,M1,rfl,hm1,hw.c,ZO.zero,?_,?_,ZO.zero_ok _⟩
      ·rw [Wh (by rintro ⟨q1,⟨q2,q4⟩,q3⟩;replace q3:boot≠self_addr:=q3;rw [hae] at q1;omega)];rfl
      ·rw [Wh (by rintro ⟨q1,⟨q2,q4⟩,q3⟩;replace q3:boot≠self_addr:=q3;rw [hae] at q1;omega)];rfl
     ·replace hc7:=dF hc7
      refine Yv (Zn (Y_pk [8,7,6,2] ?_));refine ZI (Zm (l:=[0,1]) rfl ?_);refine Zk F.foff32_2 ?_;refine Yi F.lay4 ?_;refine Zo (Zn (Y_pk [8,7,6,2] ?_));refine ZI (Zm (l:=[0,1,2]) rfl ?_);refine Zv ?_;refine Zk F.foff32_3 ?_;refine Yi F.lay3 ?_;refine Zo (Zn (Y_pk [8,7,6] ?_));refine ZI (Zm (l:=[0,1,2]) rfl ?_);refine ZH F.lay32 ?_;refine Xy F.lay32 ?_;refine ZB ?_;refine Zo (Zn (Y_pk [7,6] ?_));refine Yg ?_
      refine Ya (.inr rfl) (.cell rfl (by repeat first|exact List.Mem.head _|refine List.Mem.tail _ ?_|refine List.mem_append_right _ ?_) F.lay32 rfl rfl (.tmp rfl .nil)) (fun w hw=>?_)
      have h3:=joining_is (s:=⟨self_addr,self_id⟩) (r:=r) (b:=boot) ⟨by rw [hae];omega,⟨by omega,by omega⟩,by show boot≠self_addr;omega⟩
      rw [← hv1] at h3
      exact ⟨_,M1,rfl,hm1,hw.c,⟨⟨⟨YK,YU⟩,⟨YL,YV⟩,⟨Xb,Xa,YZ⟩,⟨YO,YN,YM⟩⟩,XI,false,boot,XH,WI,XY,XJ,XE,Xs,XF,Xt,XG,⟨Xw,Xv,Xu⟩,Wp,Wo⟩,by rw [h3];rfl,by rw [h3];rfl,⟨okv.h0,okv.h1⟩⟩
end Go.Proofs.YtajmnjefajknoaaGreat
