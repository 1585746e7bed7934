/-
  Texts of this claim, one behind the other: T8, MapsP, StoreM, T9, SortL, SortG, T10, T11, T12, T13, T14, T15, StoreL, ParcM, Rules11.
-/
import Derived.Test.YtpkeilhilpogiaaGreatPe2
import Derived.Maps.RangeRun
import Derived.Shelf.SlSortCmp.WholeK
import Derived.Shelf.SlGeneric
import Derived.Ground.SlsfProg
import Derived.Test.YtpkeilhilpogiaaGreatRows
set_option linter.unusedSimpArgs false
set_option linter.unusedVariables false
set_option linter.unnecessarySimpa false
set_option maxRecDepth 8000
set_option maxHeartbeats 1000000
namespace Go.Proofs.YtpkeilhilpogiaaGreat
open Go.Esp
theorem F.ok50 : okFn Tryz.prog 50 = true := by kernel_rfl
theorem F.ok75 : okFn Tryz.prog 75 = true := by kernel_rfl
theorem F.ok76 : okFn Tryz.prog 76 = true := by kernel_rfl
theorem rMerge_ok (M : Mem) (a : CellV) (b : CellV) (ha0 : CellV.ok M a) (hb1 : CellV.ok M b) : Esp.Fn Tryz.prog 32 [a.enc, b.enc] M (fun M' v => ∃ c : CellV, v = .tuple #[c.enc, .int .i64 (mergeR a.pl b.pl).2] ∧ c.pl = (mergeR a.pl b.pl).1 ∧ CellV.ok M' c) := by
  obtain ⟨Zcw, Zfw, Zfv, ⟨Zds, Zdr, Zal⟩⟩ := a
  obtain ⟨Zdk, Zgl, Zgk, ⟨Zeb, Zea, Zan⟩⟩ := b
  have Zef : SlK M MarkV.segs 6 ⟨Zds, Zdr, Zal⟩ := ha0.h0
  have s_a_marks : SlM M Zds (Zal.map MarkV.segs) 6 := Zef.h1
  have n_a_marks : (Zal.map MarkV.segs).length = Zal.length := List.length_map ..
  have m_a_marks : Zal.length ≤ 9223372036854775807 := Zef.h2
  have c_a_marks : Zal.length ≤ Zdr := Zef.h3
  have Zfc : SlK M MarkV.segs 6 ⟨Zeb, Zea, Zan⟩ := hb1.h0
  have Zfs : SlM M Zeb (Zan.map MarkV.segs) 6 := Zfc.h1
  have n_b_marks : (Zan.map MarkV.segs).length = Zan.length := List.length_map ..
  have m_b_marks : Zan.length ≤ 9223372036854775807 := Zfc.h2
  have c_b_marks : Zan.length ≤ Zea := Zfc.h3
  refine Zek Tryz.func32 rfl Tryz.ntmps32 rfl ?_; intro H
  refine Zj ?_; refine Za (l := [0, 1, 2, 3]) rfl ?_
  refine Zcz ?_; intro b1
  refine Zcz ?_; intro b2
  refine Zby F.zero37 ?_; intro b3
  refine Zd ?_; refine Ze ?_; refine Zc ?_; refine Y_pk [5, 4, 3, 2] ?_
  iterate 2 refine Zj ?_
  refine Za (l := [0, 1, 2, 3, 4, 5, 6, 7]) rfl ?_; refine Zi F.lay37 ?_; refine X_fs rfl rfl F.ok50 rfl (rCelIs_ok _ ⟨_, _, _, ⟨_, _, _⟩⟩ (by assumption)) rfl ?_
  rintro _ rfl
  refine Zel ?_; refine Zf ?_
  refine Zag 13 rfl (fun hc4 => ?_) (fun hc4 => ?_)
  ·replace hc4 := nT hc4
   iterate 3 refine Zz ?_
   refine Zl ?_; refine Ze ?_; refine Zc ?_; refine Y_pk [17, 5, 4, 3, 2] ?_; refine Zcy rfl ?_; refine Zj ?_; refine Za (l := [0, 1, 2]) rfl ?_; refine Zbv rfl rfl F.bld37 (.nil) rfl rfl ?_; refine Zas F.lay37 ?_; refine Zd ?_; refine Ze ?_; refine Zc ?_; refine Y_pk [5, 4, 3, 2] ?_; refine Zak ?_; refine Zba ?_
   refine Zaj (.inr rfl) (.cell rfl (by repeat first | exact List.Mem.head _ | refine List.Mem.tail _ ?_ | refine List.mem_append_right _ ?_) F.lay37 rfl rfl (.tmp rfl .nil)) (fun w hw => ?_)
   refine ⟨_, M, rfl, Mem.le.refl M, hw.c, ?_⟩
   rw [show mergeR (CellV.pl ⟨Zcw, Zfw, Zfv, ⟨Zds, Zdr, Zal⟩⟩) (CellV.pl ⟨Zdk, Zgl, Zgk, ⟨Zeb, Zea, Zan⟩⟩) = (Cel.zero, 1) from if_neg (by rintro ⟨g1, g2⟩; contradiction)]
   exact ⟨CellV.zero, rfl, rfl, CellV.zero_ok M⟩
  ·replace hc4 := nF hc4
   refine Zi F.lay37 ?_; refine X_fs rfl rfl F.ok50 rfl (rCelIs_ok _ ⟨_, _, _, ⟨_, _, _⟩⟩ (by assumption)) rfl ?_
   rintro _ rfl
   refine Zel ?_; refine Zl ?_; refine Ze ?_; refine Zc ?_; refine Y_pk [17, 5, 4, 3, 2] ?_
   refine Zau rfl (fun hc5 => ?_) (fun hc5 => ?_)
   ·replace hc5 := nT hc5
    refine Zj ?_; refine Za (l := [0, 1, 2]) rfl ?_; refine Zbv rfl rfl F.bld37 (.nil) rfl rfl ?_; refine Zas F.lay37 ?_; refine Zd ?_; refine Ze ?_; refine Zc ?_; refine Y_pk [5, 4, 3, 2] ?_; refine Zak ?_; refine Zba ?_
    refine Zaj (.inr rfl) (.cell rfl (by repeat first | exact List.Mem.head _ | refine List.Mem.tail _ ?_ | refine List.mem_append_right _ ?_) F.lay37 rfl rfl (.tmp rfl .nil)) (fun w hw => ?_)
    refine ⟨_, M, rfl, Mem.le.refl M, hw.c, ?_⟩
    rw [show mergeR (CellV.pl ⟨Zcw, Zfw, Zfv, ⟨Zds, Zdr, Zal⟩⟩) (CellV.pl ⟨Zdk, Zgl, Zgk, ⟨Zeb, Zea, Zan⟩⟩) = (Cel.zero, 1) from if_neg (by rintro ⟨g1, g2⟩; contradiction)]
    exact ⟨CellV.zero, rfl, rfl, CellV.zero_ok M⟩
   ·replace hc5 := nF hc5
    refine Zax ?_; refine Zc ?_; refine Y_pk [5, 4, 3, 2] ?_; refine Zj ?_
    have ha : IsCel (CellV.pl ⟨Zcw, Zfw, Zfv, ⟨Zds, Zdr, Zal⟩⟩) := by assumption
    have hb : IsCel (CellV.pl ⟨Zdk, Zgl, Zgk, ⟨Zeb, Zea, Zan⟩⟩) := by assumption
    have ham : MarksOk Zal := ha.2
    have hbm : MarksOk Zan := hb.2
    have hal := marks_len ham
    have hbl := marks_len hbm
    refine Za (l := [0, 1, 2, 3, 4, 5, 6, 7, 8]) rfl ?_; refine Zb F.foff37_0 ?_; refine Zi F.lay22 ?_; refine Zb F.foff37_1 ?_; refine Zi F.lay4 ?_; refine Zb F.foff37_2 ?_; refine Zi F.lay9 ?_; refine Zbv rfl rfl F.bld37 (.cons rfl (by constructor) (.cons rfl (by constructor) (.cons rfl (by constructor) .nil))) rfl rfl ?_
    refine Zby F.zero37 ?_; intro b6
    refine Zas F.lay37 ?_; refine Ze ?_; refine Zc ?_; refine Y_pk [6, 5, 4, 3, 2] ?_
    iterate 2 refine Zj ?_
    refine Za (l := [0, 1, 2, 3, 4]) rfl ?_; refine Zb F.foff37_0 ?_; refine Zi F.lay22 ?_; refine Zb F.foff37_0 ?_; refine Zi F.lay22 ?_; refine Zav ?_; refine Ze ?_; refine Zc ?_; refine Y_pk [30, 6, 5, 4, 3, 2] ?_
    refine Zau rfl (fun hc7 => ?_) (fun hc7 => ?_)
    ·replace hc7 := dT hc7
     refine Za (l := [0, 1, 2, 3, 4, 5, 6, 7]) rfl ?_; refine Zb F.foff37_0 ?_; refine Zi F.lay22 ?_; refine Zb F.foff37_1 ?_; refine Zi F.lay4 ?_; refine Zb F.foff37_2 ?_; refine Zi F.lay9 ?_; refine Zbv rfl rfl F.bld37 (.cons rfl (by constructor) (.cons rfl (by constructor) (.cons rfl (by constructor) .nil))) rfl rfl ?_; refine Zas F.lay37 ?_; refine Ze ?_; refine Zc ?_; refine Y_pk [6, 5, 4, 3, 2] ?_; refine Zj ?_; refine Za (l := [0, 1, 2, 3, 4, 5, 6]) rfl ?_; refine Zb F.foff37_3 ?_; refine Zi F.lay35 ?_; refine Zb F.foff37_3 ?_; refine Zi F.lay35 ?_
     refine Zfk (m := 1000000) rfl rfl rfl rfl rfl F.elem35 F.zero92 (by rfl) rfl (by exact OSl.nil) (by repeat first | exact Rem.here _ | exact Rem.two | apply Rem.skip | apply Rem.over) (s_a_marks) MarkV.flat (by (simp; omega)) (by decide) rfl ?_; intro v10 hs9 ho8; obtain ⟨adv10, cpv10, rfl⟩ := ho8.val
     refine Zb F.foff37_3 ?_; refine Zas F.lay35 ?_; refine Ze ?_; refine Zc ?_; refine Y_pk [6, 5, 4, 3, 2] ?_
     iterate 2 refine Zj ?_
     have hml : (([] : List Segs) ++ Zal.map MarkV.segs).length = Zal.length := by simp
     rw [hml]
     have ho0 : OSl 92 6 (.slice adv10 Zal.length cpv10) hs9 (Zal.map MarkV.segs) := by have h9 := ho8; rw [hml] at h9; exact h9
     refine Zgw ho0 (by repeat first | exact Rem.here _ | exact Rem.two | apply Rem.skip | apply Rem.over) (fun M0 hm0 k_s0 => ?_)
     have hs0l : Zal = (Zan.take 0).foldl (addM Zal) Zal := rfl
     obtain ⟨s0, hs0⟩ : ∃ s0 : Sl MarkV, s0 = ⟨adv10, cpv10, Zal⟩ := ⟨_, rfl⟩
     have e0 : Value.slice adv10 Zal.length cpv10 = s0.val := by rw [hs0]; rfl
     rw [e0]
     rw [← hs0] at k_s0
     replace hs0l : s0.l = (Zan.take 0).foldl (addM Zal) Zal := by rw [hs0]; exact hs0l
     have s_b0 := Zfs.mono hm0
     refine Za (l := [0]) rfl ?_; refine Zd ?_; refine Ze ?_; refine Zc ?_; refine Zbe ?_; refine Y_pk [7, 6, 5, 4, 3, 2] ?_; refine Zeo (Hin := [(b6, rowO [.one (.int .u64 Zdk), .one (.bool Zgl), .one (.string Zgk), .one (Sl.val s0)] 37)]) (.succ .zero) (by repeat first | exact Rem.here _ | exact Rem.two | apply Rem.skip | apply Rem.over) (fun (k : Nat) M1 h1 z => ∃ s : Sl MarkV, z = [(7, .int .i64 (k : Int))] ∧ k ≤ Zan.length ∧ s.l = (Zan.take k).foldl (addM Zal) Zal ∧ SlK M1 MarkV.segs 6 s ∧ h1 = [(b6, rowO [.one (.int .u64 Zdk), .one (.bool Zgl), .one (.string Zgk), .one (Sl.val s)] 37)]) (fun k => Zan.length - k) (0) (⟨s0, rfl, by omega, hs0l, k_s0, rfl⟩) ?_
     rintro k M1 h1 z hm1 ⟨⟨s_a, s_c, s_l⟩, rfl, hk, hsl, k_s, rfl⟩
     simp only at hsl
     have hmm := hm0.trans hm1
     have s_b1 := Zfs.mono hmm
     have s_a1 := s_a_marks.mono hmm
     have hsok : MarksOk s_l := by rw [hsl]; exact foldM_ok ham (fun m hm => hbm.1 m (List.mem_of_mem_take hm))
     iterate 2 refine Zj ?_
     refine Za (l := [0, 1, 2, 3, 4]) rfl ?_; refine Zf ?_; refine Zb F.foff37_3 ?_; refine Zi F.lay35 ?_; refine Zbb F.elem35 ?_; refine Zav ?_; refine Ze ?_; refine Zc ?_
     refine Zau rfl (fun hc11 => ?_) (fun hc11 => ?_)
     ·replace hc11 := dT hc11
      refine Zax ?_; refine Zc ?_; refine Zj ?_; refine Zbe ?_; refine Zj ?_
      have hmk : MarkOk Zan[k] := hbm.1 _ (List.getElem_mem (by omega))
      have hmc := hmk.1
      refine Zar (l := [0, 1, 2, 3, 4, 5, 6, 7, 8, 9, 10, 11, 12, 13, 14]) #[0, 1, 0, 4, 0, 28, 60, 124, 255, 511, 1023, 1023, 0, 6143, 16383] _ rfl (by kernel_rfl) (by kernel_rfl) St.drawn (fun _ h => h) ?_; refine Zb F.foff37_3 ?_; refine Zi F.lay35 ?_; refine Zb F.foff37_3 ?_; refine Zi F.lay35 ?_; refine Zf ?_; refine Zaa rfl rfl rfl rfl F.elem35 (by rfl) (by omega) (by exact SlM.plain (by assumption) (by (simp; omega))) rfl ?_; refine Zaq rfl rfl rfl (by exact SlM.plain (by assumption) (by (simp; omega))) F.foff92_0 rfl ?_; refine Zay rfl rfl rfl (by assumption) (by exact Zbl (by omega)) F.lay3 rfl rfl rfl ?_; refine X_fs rfl rfl F.ok75 rfl (of_ok _ ⟨Zds, Zdr, Zal⟩ Zan[k].client (Zef.mono hmm)) rfl ?_
      rintro _ hv
      replace hv : _ = ofXv (ofX Zal Zan[k].client) := hv
      obtain ⟨⟨xm, xb⟩, hx⟩ : ∃ r, ofX Zal Zan[k].client = r := ⟨_, rfl⟩
      rw [hx] at hv
      subst hv
      refine Zf ?_
      iterate 2 refine Zcf ?_
      refine Zby F.zero92 ?_; intro b12
      refine Zas F.lay92 ?_; refine Zd ?_; refine Ze ?_; refine Zc ?_; refine Zj ?_; refine Zar (l := [0, 1, 2, 3, 4, 5, 6, 7, 8, 9, 10, 11, 12]) #[0, 1, 3, 7, 15, 7, 39, 7, 231, 487, 999, 2047, 4095] _ rfl (by kernel_rfl) (by kernel_rfl) St.drawn (fun _ h => h) ?_; refine Zf ?_; refine Zel ?_; refine Zf ?_
      refine Zag 65 rfl (fun hc13 => ?_) (fun hc13 => ?_)
      ·skip
       simp only [AnswerV.eta, MarkV.eta, CellV.eta, HeldV.eta, WaitV.eta, ServerV.eta, PeerV.eta, OpV.eta, ParcelV.eta, PostV.eta, WorkerV.eta] at hc13
       iterate 9 refine Zz ?_
       refine Zl ?_; refine Ze ?_; refine Zc ?_; refine Zcy rfl ?_; refine Zar (l := [0, 1, 2, 3, 4, 5, 6, 7, 8, 9]) #[0, 1, 0, 4, 0, 28, 60, 127, 255, 511] _ rfl (by kernel_rfl) (by kernel_rfl) St.drawn (fun _ h => h) ?_; refine Zb F.foff37_3 ?_; refine Zi F.lay35 ?_; refine Zb F.foff37_3 ?_; refine Zi F.lay35 ?_; refine Zf ?_; refine Zaa rfl rfl rfl rfl F.elem35 (by rfl) (by omega) (by exact SlM.plain (by assumption) (by (simp; omega))) rfl ?_; refine Zay rfl rfl rfl (by assumption) (by exact Zbl (by omega)) F.lay92 rfl rfl rfl ?_; refine X_fn rfl rfl F.ok76 rfl (mark_ok _ ⟨s_a, s_c, s_l⟩ Zan[k] k_s hsok hmk) rfl ?_
       rintro _ M2 hm2 ⟨⟨q_a, q_c, q_l⟩, rfl, hql, k_q⟩
       simp only at hql
       refine Zb F.foff37_3 ?_; refine Zas F.lay35 ?_; refine Ze ?_; refine Zde ?_; refine Zc ?_; refine Za (l := [0, 1, 2]) rfl ?_; refine Zf ?_; refine Zcc rfl rfl rfl rfl rfl (by exact Zbf (by decide) (by omega)) rfl ?_; refine Zd ?_; refine Ze ?_; refine Zcr (a' := [(7, _)]) (k + 1) ([(b6, rowO [.one (.int .u64 Zdk), .one (.bool Zgl), .one (.string Zgk), .one (Value.slice q_a q_l.length q_c)] 37)]) (.cons (k := 7) rfl (.cons (k := 6) rfl (.cons (k := 5) rfl (.cons (k := 4) rfl (.cons (k := 3) rfl (.cons (k := 2) rfl (.nil))))))) (hm1.trans hm2) (fun w hw => by first | exact hw | exact hw.c) ?_ ?_
       ·refine ⟨⟨q_a, q_c, q_l⟩, rfl, by omega, ?_, k_q, rfl⟩
        show _ = _
        rw [Zet (by omega), ← hsl]
        unfold addM
        rw [hql]; rw [(ofX_none (by rw [hx, show xb = false from by have h9 := ‹(!xb) = true›; simpa using h9]))]
       ·omega
      ·skip
       simp only [AnswerV.eta, MarkV.eta, CellV.eta, HeldV.eta, WaitV.eta, ServerV.eta, PeerV.eta, OpV.eta, ParcelV.eta, PostV.eta, WorkerV.eta] at hc13
       refine Zb F.foff92_1 ?_; refine Zi F.lay22 ?_; refine Zb F.foff37_3 ?_; refine Zi F.lay35 ?_; refine Zf ?_; refine Zaa rfl rfl rfl rfl F.elem35 (by rfl) (by omega) (by exact SlM.plain (by assumption) (by (simp; omega))) rfl ?_; refine Zaq rfl rfl rfl (by exact SlM.plain (by assumption) (by (simp; omega))) F.foff92_1 rfl ?_; refine Zay rfl rfl rfl (by assumption) (by exact Zbl (by omega)) F.lay22 rfl rfl rfl ?_; refine Zav ?_; refine Zl ?_; refine Ze ?_; refine Zc ?_
       refine Zau rfl (fun hc14 => ?_) (fun hc14 => ?_)
       ·replace hc14 := dT hc14
        simp only [List.get_eq_getElem] at hc14
        refine Zar (l := [0, 1, 2, 3, 4, 5, 6, 7, 8, 9]) #[0, 1, 0, 4, 0, 28, 60, 127, 255, 511] _ rfl (by kernel_rfl) (by kernel_rfl) St.drawn (fun _ h => h) ?_; refine Zb F.foff37_3 ?_; refine Zi F.lay35 ?_; refine Zb F.foff37_3 ?_; refine Zi F.lay35 ?_; refine Zf ?_; refine Zaa rfl rfl rfl rfl F.elem35 (by rfl) (by omega) (by exact SlM.plain (by assumption) (by (simp; omega))) rfl ?_; refine Zay rfl rfl rfl (by assumption) (by exact Zbl (by omega)) F.lay92 rfl rfl rfl ?_; refine X_fn rfl rfl F.ok76 rfl (mark_ok _ ⟨s_a, s_c, s_l⟩ Zan[k] k_s hsok hmk) rfl ?_
        rintro _ M2 hm2 ⟨⟨q_a, q_c, q_l⟩, rfl, hql, k_q⟩
        simp only at hql
        refine Zb F.foff37_3 ?_; refine Zas F.lay35 ?_; refine Ze ?_; refine Zde ?_; refine Zc ?_; refine Za (l := [0, 1, 2]) rfl ?_; refine Zf ?_; refine Zcc rfl rfl rfl rfl rfl (by exact Zbf (by decide) (by omega)) rfl ?_; refine Zd ?_; refine Ze ?_; refine Zcr (a' := [(7, _)]) (k + 1) ([(b6, rowO [.one (.int .u64 Zdk), .one (.bool Zgl), .one (.string Zgk), .one (Value.slice q_a q_l.length q_c)] 37)]) (.cons (k := 7) rfl (.cons (k := 6) rfl (.cons (k := 5) rfl (.cons (k := 4) rfl (.cons (k := 3) rfl (.cons (k := 2) rfl (.nil))))))) (hm1.trans hm2) (fun w hw => by first | exact hw | exact hw.c) ?_ ?_
        ·refine ⟨⟨q_a, q_c, q_l⟩, rfl, by omega, ?_, k_q, rfl⟩
         show _ = _
         rw [Zet (by omega), ← hsl]
         unfold addM
         rw [hql]; rw [(ofX_some (by rw [hx, show xb = true from by have h9 := ‹(!xb) = false›; simpa using h9]))]
         exact (if_pos (by assumption)).symm
        ·omega
       ·replace hc14 := dF hc14
        simp only [List.get_eq_getElem] at hc14
        refine Zax ?_; refine Zde ?_; refine Zc ?_; refine Za (l := [0, 1, 2]) rfl ?_; refine Zf ?_; refine Zcc rfl rfl rfl rfl rfl (by exact Zbf (by decide) (by omega)) rfl ?_; refine Zd ?_; refine Ze ?_; refine Zcr (a' := [(7, _)]) (k + 1) ([(b6, rowO [.one (.int .u64 Zdk), .one (.bool Zgl), .one (.string Zgk), .one (Sl.val (⟨s_a, s_c, s_l⟩ : Sl MarkV))] 37)]) (.cons (k := 7) rfl (.cons (k := 6) rfl (.cons (k := 5) rfl (.cons (k := 4) rfl (.cons (k := 3) rfl (.cons (k := 2) rfl (.nil))))))) hm1 (fun w hw => by first | exact hw | exact hw.c) ?_ ?_
        ·refine ⟨⟨s_a, s_c, s_l⟩, rfl, by omega, ?_, k_s, rfl⟩
         show _ = _
         rw [Zet (by omega), ← hsl]
         unfold addM
         rw [(ofX_some (by rw [hx, show xb = true from by have h9 := ‹(!xb) = false›; simpa using h9]))]
         exact (if_neg (by assumption)).symm
        ·omega
     ·replace hc11 := dF hc11
      refine Zcm ?_
      iterate 2 refine Zcd ?_
      refine Zdl ?_; refine Zc ?_; refine Y_pk [6, 5, 4] ?_; refine Zj ?_; refine Za (l := [0, 1, 2]) rfl ?_; refine Zi F.lay37 ?_; refine Zas F.lay37 ?_; refine Zd ?_; refine Ze ?_; refine Zc ?_; refine Y_pk [5, 4] ?_; refine Zak ?_
      refine Zaj (.inr rfl) (.cell rfl (by repeat first | exact List.Mem.head _ | refine List.Mem.tail _ ?_ | refine List.mem_append_right _ ?_) F.lay37 rfl rfl (.tmp rfl .nil)) (fun w hw => ?_)
      obtain rfl : k = Zan.length := by omega
      rw [List.take_length] at hsl
      refine ⟨_, M1, rfl, hmm, hw.c, ?_⟩
      rw [show mergeR (CellV.pl ⟨Zcw, Zfw, Zfv, ⟨Zds, Zdr, Zal⟩⟩) (CellV.pl ⟨Zdk, Zgl, Zgk, ⟨Zeb, Zea, Zan⟩⟩) = (mergeC _ _, 0) from if_pos ⟨ha, hb⟩]
      refine ⟨⟨Zdk, Zgl, Zgk, ⟨s_a, s_c, s_l⟩⟩, rfl, ?_, ⟨k_s⟩⟩
      unfold mergeC
      rw [if_pos (by simp only [CellV.pl]; omega)]
      simp only [CellV.pl, hsl]
      rfl
    ·replace hc7 := dF hc7
     refine Zax ?_; refine Zc ?_; refine Y_pk [6, 5, 4, 3, 2] ?_; refine Zj ?_; refine Za (l := [0, 1, 2, 3, 4, 5, 6]) rfl ?_; refine Zb F.foff37_3 ?_; refine Zi F.lay35 ?_; refine Zb F.foff37_3 ?_; refine Zi F.lay35 ?_
     refine Zfk (m := 1000000) rfl rfl rfl rfl rfl F.elem35 F.zero92 (by rfl) rfl (by exact OSl.nil) (by repeat first | exact Rem.here _ | exact Rem.two | apply Rem.skip | apply Rem.over) (s_a_marks) MarkV.flat (by (simp; omega)) (by decide) rfl ?_; intro v17 hs16 ho15; obtain ⟨adv17, cpv17, rfl⟩ := ho15.val
     refine Zb F.foff37_3 ?_; refine Zas F.lay35 ?_; refine Ze ?_; refine Zc ?_; refine Y_pk [6, 5, 4, 3, 2] ?_
     iterate 2 refine Zj ?_
     have hml : (([] : List Segs) ++ Zal.map MarkV.segs).length = Zal.length := by simp
     rw [hml]
     have ho0 : OSl 92 6 (.slice adv17 Zal.length cpv17) hs16 (Zal.map MarkV.segs) := by have h9 := ho15; rw [hml] at h9; exact h9
     refine Zgw ho0 (by repeat first | exact Rem.here _ | exact Rem.two | apply Rem.skip | apply Rem.over) (fun M0 hm0 k_s0 => ?_)
     have hs0l : Zal = (Zan.take 0).foldl (addM Zal) Zal := rfl
     obtain ⟨s0, hs0⟩ : ∃ s0 : Sl MarkV, s0 = ⟨adv17, cpv17, Zal⟩ := ⟨_, rfl⟩
     have e0 : Value.slice adv17 Zal.length cpv17 = s0.val := by rw [hs0]; rfl
     rw [e0]
     rw [← hs0] at k_s0
     replace hs0l : s0.l = (Zan.take 0).foldl (addM Zal) Zal := by rw [hs0]; exact hs0l
     have s_b0 := Zfs.mono hm0
     refine Za (l := [0]) rfl ?_; refine Zd ?_; refine Ze ?_; refine Zc ?_; refine Zbe ?_; refine Y_pk [7, 6, 5, 4, 3, 2] ?_; refine Zeo (Hin := [(b6, rowO [.one (.int .u64 Zcw), .one (.bool Zfw), .one (.string Zfv), .one (Sl.val s0)] 37)]) (.succ .zero) (by repeat first | exact Rem.here _ | exact Rem.two | apply Rem.skip | apply Rem.over) (fun (k : Nat) M1 h1 z => ∃ s : Sl MarkV, z = [(7, .int .i64 (k : Int))] ∧ k ≤ Zan.length ∧ s.l = (Zan.take k).foldl (addM Zal) Zal ∧ SlK M1 MarkV.segs 6 s ∧ h1 = [(b6, rowO [.one (.int .u64 Zcw), .one (.bool Zfw), .one (.string Zfv), .one (Sl.val s)] 37)]) (fun k => Zan.length - k) (0) (⟨s0, rfl, by omega, hs0l, k_s0, rfl⟩) ?_
     rintro k M1 h1 z hm1 ⟨⟨s_a, s_c, s_l⟩, rfl, hk, hsl, k_s, rfl⟩
     simp only at hsl
     have hmm := hm0.trans hm1
     have s_b1 := Zfs.mono hmm
     have s_a1 := s_a_marks.mono hmm
     have hsok : MarksOk s_l := by rw [hsl]; exact foldM_ok ham (fun m hm => hbm.1 m (List.mem_of_mem_take hm))
     iterate 2 refine Zj ?_
     refine Za (l := [0, 1, 2, 3, 4]) rfl ?_; refine Zf ?_; refine Zb F.foff37_3 ?_; refine Zi F.lay35 ?_; refine Zbb F.elem35 ?_; refine Zav ?_; refine Ze ?_; refine Zc ?_
     refine Zau rfl (fun hc18 => ?_) (fun hc18 => ?_)
     ·replace hc18 := dT hc18
      refine Zax ?_; refine Zc ?_; refine Zj ?_; refine Zbe ?_; refine Zj ?_
      have hmk : MarkOk Zan[k] := hbm.1 _ (List.getElem_mem (by omega))
      have hmc := hmk.1
      refine Zar (l := [0, 1, 2, 3, 4, 5, 6, 7, 8, 9, 10, 11, 12, 13, 14]) #[0, 1, 0, 4, 0, 28, 60, 124, 255, 511, 1023, 1023, 0, 6143, 16383] _ rfl (by kernel_rfl) (by kernel_rfl) St.drawn (fun _ h => h) ?_; refine Zb F.foff37_3 ?_; refine Zi F.lay35 ?_; refine Zb F.foff37_3 ?_; refine Zi F.lay35 ?_; refine Zf ?_; refine Zaa rfl rfl rfl rfl F.elem35 (by rfl) (by omega) (by exact SlM.plain (by assumption) (by (simp; omega))) rfl ?_; refine Zaq rfl rfl rfl (by exact SlM.plain (by assumption) (by (simp; omega))) F.foff92_0 rfl ?_; refine Zay rfl rfl rfl (by assumption) (by exact Zbl (by omega)) F.lay3 rfl rfl rfl ?_; refine X_fs rfl rfl F.ok75 rfl (of_ok _ ⟨Zds, Zdr, Zal⟩ Zan[k].client (Zef.mono hmm)) rfl ?_
      rintro _ hv
      replace hv : _ = ofXv (ofX Zal Zan[k].client) := hv
      obtain ⟨⟨xm, xb⟩, hx⟩ : ∃ r, ofX Zal Zan[k].client = r := ⟨_, rfl⟩
      rw [hx] at hv
      subst hv
      refine Zf ?_
      iterate 2 refine Zcf ?_
      refine Zby F.zero92 ?_; intro b19
      refine Zas F.lay92 ?_; refine Zd ?_; refine Ze ?_; refine Zc ?_; refine Zj ?_; refine Zar (l := [0, 1, 2, 3, 4, 5, 6, 7, 8, 9, 10, 11, 12]) #[0, 1, 3, 7, 15, 7, 39, 7, 231, 487, 999, 2047, 4095] _ rfl (by kernel_rfl) (by kernel_rfl) St.drawn (fun _ h => h) ?_; refine Zf ?_; refine Zel ?_; refine Zf ?_
      refine Zag 65 rfl (fun hc20 => ?_) (fun hc20 => ?_)
      ·skip
       simp only [AnswerV.eta, MarkV.eta, CellV.eta, HeldV.eta, WaitV.eta, ServerV.eta, PeerV.eta, OpV.eta, ParcelV.eta, PostV.eta, WorkerV.eta] at hc20
       iterate 9 refine Zz ?_
       refine Zl ?_; refine Ze ?_; refine Zc ?_; refine Zcy rfl ?_; refine Zar (l := [0, 1, 2, 3, 4, 5, 6, 7, 8, 9]) #[0, 1, 0, 4, 0, 28, 60, 127, 255, 511] _ rfl (by kernel_rfl) (by kernel_rfl) St.drawn (fun _ h => h) ?_; refine Zb F.foff37_3 ?_; refine Zi F.lay35 ?_; refine Zb F.foff37_3 ?_; refine Zi F.lay35 ?_; refine Zf ?_; refine Zaa rfl rfl rfl rfl F.elem35 (by rfl) (by omega) (by exact SlM.plain (by assumption) (by (simp; omega))) rfl ?_; refine Zay rfl rfl rfl (by assumption) (by exact Zbl (by omega)) F.lay92 rfl rfl rfl ?_; refine X_fn rfl rfl F.ok76 rfl (mark_ok _ ⟨s_a, s_c, s_l⟩ Zan[k] k_s hsok hmk) rfl ?_
       rintro _ M2 hm2 ⟨⟨q_a, q_c, q_l⟩, rfl, hql, k_q⟩
       simp only at hql
       refine Zb F.foff37_3 ?_; refine Zas F.lay35 ?_; refine Ze ?_; refine Zde ?_; refine Zc ?_; refine Za (l := [0, 1, 2]) rfl ?_; refine Zf ?_; refine Zcc rfl rfl rfl rfl rfl (by exact Zbf (by decide) (by omega)) rfl ?_; refine Zd ?_; refine Ze ?_; refine Zcr (a' := [(7, _)]) (k + 1) ([(b6, rowO [.one (.int .u64 Zcw), .one (.bool Zfw), .one (.string Zfv), .one (Value.slice q_a q_l.length q_c)] 37)]) (.cons (k := 7) rfl (.cons (k := 6) rfl (.cons (k := 5) rfl (.cons (k := 4) rfl (.cons (k := 3) rfl (.cons (k := 2) rfl (.nil))))))) (hm1.trans hm2) (fun w hw => by first | exact hw | exact hw.c) ?_ ?_
       ·refine ⟨⟨q_a, q_c, q_l⟩, rfl, by omega, ?_, k_q, rfl⟩
        show _ = _
        rw [Zet (by omega), ← hsl]
        unfold addM
        rw [hql]; rw [(ofX_none (by rw [hx, show xb = false from by have h9 := ‹(!xb) = true›; simpa using h9]))]
       ·omega
      ·skip
       simp only [AnswerV.eta, MarkV.eta, CellV.eta, HeldV.eta, WaitV.eta, ServerV.eta, PeerV.eta, OpV.eta, ParcelV.eta, PostV.eta, WorkerV.eta] at hc20
       refine Zb F.foff92_1 ?_; refine Zi F.lay22 ?_; refine Zb F.foff37_3 ?_; refine Zi F.lay35 ?_; refine Zf ?_; refine Zaa rfl rfl rfl rfl F.elem35 (by rfl) (by omega) (by exact SlM.plain (by assumption) (by (simp; omega))) rfl ?_; refine Zaq rfl rfl rfl (by exact SlM.plain (by assumption) (by (simp; omega))) F.foff92_1 rfl ?_; refine Zay rfl rfl rfl (by assumption) (by exact Zbl (by omega)) F.lay22 rfl rfl rfl ?_; refine Zav ?_; refine Zl ?_; refine Ze ?_; refine Zc ?_
       refine Zau rfl (fun hc21 => ?_) (fun hc21 => ?_)
       ·replace hc21 := dT hc21
        simp only [List.get_eq_getElem] at hc21
        refine Zar (l := [0, 1, 2, 3, 4, 5, 6, 7, 8, 9]) #[0, 1, 0, 4, 0, 28, 60, 127, 255, 511] _ rfl (by kernel_rfl) (by kernel_rfl) St.drawn (fun _ h => h) ?_; refine Zb F.foff37_3 ?_; refine Zi F.lay35 ?_; refine Zb F.foff37_3 ?_; refine Zi F.lay35 ?_; refine Zf ?_; refine Zaa rfl rfl rfl rfl F.elem35 (by rfl) (by omega) (by exact SlM.plain (by assumption) (by (simp; omega))) rfl ?_; refine Zay rfl rfl rfl (by assumption) (by exact Zbl (by omega)) F.lay92 rfl rfl rfl ?_; refine X_fn rfl rfl F.ok76 rfl (mark_ok _ ⟨s_a, s_c, s_l⟩ Zan[k] k_s hsok hmk) rfl ?_
        rintro _ M2 hm2 ⟨⟨q_a, q_c, q_l⟩, rfl, hql, k_q⟩
        simp only at hql
        refine Zb F.foff37_3 ?_; refine Zas F.lay35 ?_; refine Ze ?_; refine Zde ?_; refine Zc ?_; refine Za (l := [0, 1, 2]) rfl ?_; refine Zf ?_; refine Zcc rfl rfl rfl rfl rfl (by exact Zbf (by decide) (by omega)) rfl ?_; refine Zd ?_; refine Ze ?_; refine Zcr (a' := [(7, _)]) (k + 1) ([(b6, rowO [.one (.int .u64 Zcw), .one (.bool Zfw), .one (.string Zfv), .one (Value.slice q_a q_l.length q_c)] 37)]) (.cons (k := 7) rfl (.cons (k := 6) rfl (.cons (k := 5) rfl (.cons (k := 4) rfl (.cons (k := 3) rfl (.cons (k := 2) rfl (.nil))))))) (hm1.trans hm2) (fun w hw => by first | exact hw | exact hw.c) ?_ ?_
        ·refine ⟨⟨q_a, q_c, q_l⟩, rfl, by omega, ?_, k_q, rfl⟩
         show _ = _
         rw [Zet (by omega), ← hsl]
         unfold addM
         rw [hql]; rw [(ofX_some (by rw [hx, show xb = true from by have h9 := ‹(!xb) = false›; simpa using h9]))]
         exact (if_pos (by assumption)).symm
        ·omega
       ·replace hc21 := dF hc21
        simp only [List.get_eq_getElem] at hc21
        refine Zax ?_; refine Zde ?_; refine Zc ?_; refine Za (l := [0, 1, 2]) rfl ?_; refine Zf ?_; refine Zcc rfl rfl rfl rfl rfl (by exact Zbf (by decide) (by omega)) rfl ?_; refine Zd ?_; refine Ze ?_; refine Zcr (a' := [(7, _)]) (k + 1) ([(b6, rowO [.one (.int .u64 Zcw), .one (.bool Zfw), .one (.string Zfv), .one (Sl.val (⟨s_a, s_c, s_l⟩ : Sl MarkV))] 37)]) (.cons (k := 7) rfl (.cons (k := 6) rfl (.cons (k := 5) rfl (.cons (k := 4) rfl (.cons (k := 3) rfl (.cons (k := 2) rfl (.nil))))))) hm1 (fun w hw => by first | exact hw | exact hw.c) ?_ ?_
        ·refine ⟨⟨s_a, s_c, s_l⟩, rfl, by omega, ?_, k_s, rfl⟩
         show _ = _
         rw [Zet (by omega), ← hsl]
         unfold addM
         rw [(ofX_some (by rw [hx, show xb = true from by have h9 := ‹(!xb) = false›; simpa using h9]))]
         exact (if_neg (by assumption)).symm
        ·omega
     ·replace hc18 := dF hc18
      refine Zcm ?_
      iterate 2 refine Zcd ?_
      refine Zdl ?_; refine Zc ?_; refine Y_pk [6, 5, 4] ?_; refine Zj ?_; refine Za (l := [0, 1, 2]) rfl ?_; refine Zi F.lay37 ?_; refine Zas F.lay37 ?_; refine Zd ?_; refine Ze ?_; refine Zc ?_; refine Y_pk [5, 4] ?_; refine Zak ?_
      refine Zaj (.inr rfl) (.cell rfl (by repeat first | exact List.Mem.head _ | refine List.Mem.tail _ ?_ | refine List.mem_append_right _ ?_) F.lay37 rfl rfl (.tmp rfl .nil)) (fun w hw => ?_)
      obtain rfl : k = Zan.length := by omega
      rw [List.take_length] at hsl
      refine ⟨_, M1, rfl, hmm, hw.c, ?_⟩
      rw [show mergeR (CellV.pl ⟨Zcw, Zfw, Zfv, ⟨Zds, Zdr, Zal⟩⟩) (CellV.pl ⟨Zdk, Zgl, Zgk, ⟨Zeb, Zea, Zan⟩⟩) = (mergeC _ _, 0) from if_pos ⟨ha, hb⟩]
      refine ⟨⟨Zcw, Zfw, Zfv, ⟨s_a, s_c, s_l⟩⟩, rfl, ?_, ⟨k_s⟩⟩
      unfold mergeC
      rw [if_neg (by simp only [CellV.pl]; omega)]
      simp only [CellV.pl, hsl]
      rfl
theorem SameC_ok (M : Mem) (a : CellV) (b : CellV) (ha0 : CellV.ok M a) (hb1 : CellV.ok M b) : Fs Tryz.prog 79 [a.enc, b.enc] M (fun v => v = Value.bool (decide (a.pl = b.pl))) := by
  obtain ⟨Zcw, Zfw, Zfv, ⟨Zds, Zdr, Zal⟩⟩ := a
  obtain ⟨Zdk, Zgl, Zgk, ⟨Zeb, Zea, Zan⟩⟩ := b
  have Zef : SlK M MarkV.segs 6 ⟨Zds, Zdr, Zal⟩ := ha0.h0
  have s_a_marks : SlM M Zds (Zal.map MarkV.segs) 6 := Zef.h1
  have n_a_marks : (Zal.map MarkV.segs).length = Zal.length := List.length_map ..
  have m_a_marks : Zal.length ≤ 9223372036854775807 := Zef.h2
  have c_a_marks : Zal.length ≤ Zdr := Zef.h3
  have Zfc : SlK M MarkV.segs 6 ⟨Zeb, Zea, Zan⟩ := hb1.h0
  have Zfs : SlM M Zeb (Zan.map MarkV.segs) 6 := Zfc.h1
  have n_b_marks : (Zan.map MarkV.segs).length = Zan.length := List.length_map ..
  have m_b_marks : Zan.length ≤ 9223372036854775807 := Zfc.h2
  have c_b_marks : Zan.length ≤ Zea := Zfc.h3
  refine Zci Tryz.func79 rfl Tryz.ntmps79 rfl ?_; intro H
  refine Zj ?_; refine Za (l := [0, 1, 2]) rfl ?_
  refine Zcz ?_; intro b1
  refine Zcz ?_; intro b2
  refine Zd ?_; refine Ze ?_; refine Zc ?_; refine Y_pk [4, 3, 2] ?_
  iterate 2 refine Zj ?_
  refine Za (l := [0, 1, 2, 3, 4, 5, 6, 7, 8, 9, 10, 11, 12, 13, 14, 15, 16, 17, 18, 19, 20, 21, 22, 23, 24, 25, 26, 27]) rfl ?_; refine Zb F.foff37_0 ?_; refine Zi F.lay22 ?_; refine Zb F.foff37_0 ?_; refine Zi F.lay22 ?_; refine Zav ?_; refine Zf ?_
  refine Zag 11 rfl (fun hc3 => ?_) (fun hc3 => ?_)
  ·replace hc3 := nT hc3
   iterate 5 refine Zz ?_
   refine Zl ?_; refine Zf ?_
   iterate 5 refine Zz ?_
   refine Zl ?_; refine Zf ?_
   iterate 7 refine Zz ?_
   refine Zl ?_; refine Ze ?_; refine Zc ?_; refine Y_pk [33, 4, 3, 2] ?_; refine Zcy rfl ?_; refine Zj ?_; refine Za (l := [0]) rfl ?_; refine Zd ?_; refine Ze ?_; refine Zc ?_; refine Y_pk [4, 3, 2] ?_; refine Zak ?_; refine Zba ?_
   refine Zaj (.inr rfl) (.tmp rfl .nil) (fun w hw => ?_)
   refine ⟨_, rfl, (hw.c), ?_⟩
   clear hw
   refine congrArg Value.bool ?_
   exact (decide_eq_false (fun h9 => by have h8 := congrArg Cel.version h9; have h7 := congrArg Cel.has h9; have h6 := congrArg Cel.val h9; have h5 := congrArg (fun c => c.marks.length) h9; simp only [CellV.pl] at h8 h7 h6 h5; first | omega | contradiction | (simp_all; done))).symm
  ·replace hc3 := nF hc3
   refine Zb F.foff37_1 ?_; refine Zi F.lay4 ?_; refine Zb F.foff37_1 ?_; refine Zi F.lay4 ?_; refine X_eqb rfl rfl rfl rfl rfl Tryz.underlying4 rfl ?_; refine Zl ?_; refine Zf ?_
   refine Zag 18 rfl (fun hc4 => ?_) (fun hc4 => ?_)
   ·replace hc4 := nT hc4
    iterate 5 refine Zz ?_
    refine Zl ?_; refine Zf ?_
    iterate 7 refine Zz ?_
    refine Zl ?_; refine Ze ?_; refine Zc ?_; refine Y_pk [33, 4, 3, 2] ?_; refine Zcy rfl ?_; refine Zj ?_; refine Za (l := [0]) rfl ?_; refine Zd ?_; refine Ze ?_; refine Zc ?_; refine Y_pk [4, 3, 2] ?_; refine Zak ?_; refine Zba ?_
    refine Zaj (.inr rfl) (.tmp rfl .nil) (fun w hw => ?_)
    refine ⟨_, rfl, (hw.c), ?_⟩
    clear hw
    refine congrArg Value.bool ?_
    exact (decide_eq_false (fun h9 => by have h8 := congrArg Cel.version h9; have h7 := congrArg Cel.has h9; have h6 := congrArg Cel.val h9; have h5 := congrArg (fun c => c.marks.length) h9; simp only [CellV.pl] at h8 h7 h6 h5; first | omega | contradiction | (simp_all; done))).symm
   ·replace hc4 := nF hc4
    refine Zb F.foff37_2 ?_; refine Zi F.lay9 ?_; refine Zb F.foff37_2 ?_; refine Zi F.lay9 ?_; refine Zgu ?_; refine Zl ?_; refine Zf ?_
    refine Zag 25 rfl (fun hc5 => ?_) (fun hc5 => ?_)
    ·replace hc5 := nT hc5
     iterate 7 refine Zz ?_
     refine Zl ?_; refine Ze ?_; refine Zc ?_; refine Y_pk [33, 4, 3, 2] ?_; refine Zcy rfl ?_; refine Zj ?_; refine Za (l := [0]) rfl ?_; refine Zd ?_; refine Ze ?_; refine Zc ?_; refine Y_pk [4, 3, 2] ?_; refine Zak ?_; refine Zba ?_
     refine Zaj (.inr rfl) (.tmp rfl .nil) (fun w hw => ?_)
     refine ⟨_, rfl, (hw.c), ?_⟩
     clear hw
     refine congrArg Value.bool ?_
     exact (decide_eq_false (fun h9 => by have h8 := congrArg Cel.version h9; have h7 := congrArg Cel.has h9; have h6 := congrArg Cel.val h9; have h5 := congrArg (fun c => c.marks.length) h9; simp only [CellV.pl] at h8 h7 h6 h5; first | omega | contradiction | (simp_all; done))).symm
    ·replace hc5 := nF hc5
     refine Zb F.foff37_3 ?_; refine Zi F.lay35 ?_; refine Zbb F.elem35 ?_; refine Zb F.foff37_3 ?_; refine Zi F.lay35 ?_; refine Zbb F.elem35 ?_; refine Zav ?_; refine Zl ?_; refine Ze ?_; refine Zc ?_; refine Y_pk [33, 4, 3, 2] ?_
     refine Zau rfl (fun hc6 => ?_) (fun hc6 => ?_)
     ·replace hc6 := nT hc6
      refine Zj ?_; refine Za (l := [0]) rfl ?_; refine Zd ?_; refine Ze ?_; refine Zc ?_; refine Y_pk [4, 3, 2] ?_; refine Zak ?_; refine Zba ?_
      refine Zaj (.inr rfl) (.tmp rfl .nil) (fun w hw => ?_)
      refine ⟨_, rfl, (hw.c), ?_⟩
      clear hw
      refine congrArg Value.bool ?_
      exact (decide_eq_false (fun h9 => by have h8 := congrArg Cel.version h9; have h7 := congrArg Cel.has h9; have h6 := congrArg Cel.val h9; have h5 := congrArg (fun c => c.marks.length) h9; simp only [CellV.pl] at h8 h7 h6 h5; first | omega | contradiction | (simp_all; done))).symm
     ·replace hc6 := nF hc6
      refine Zax ?_; refine Zc ?_; refine Y_pk [4, 3, 2] ?_
      iterate 2 refine Zj ?_
      refine Za (l := [0]) rfl ?_; refine Zd ?_; refine Ze ?_; refine Zc ?_; refine Zbe ?_; refine Y_pk [5, 4, 3, 2] ?_; refine Zed (.succ .zero) (fun (k : Nat) z => z = [(5, .int .i64 (k : Int))] ∧ k ≤ Zal.length ∧ (∀ j (h2 : j < Zal.length) (h3 : j < Zan.length), j < k → Zal[j] = Zan[j])) (fun k => Zal.length - k) (0) (⟨rfl, by omega, by (intro j h2 h3 hj; omega)⟩) ?_
      rintro k _ ⟨rfl, hk, hI⟩
      iterate 2 refine Zj ?_
      refine Za (l := [0, 1, 2, 3, 4]) rfl ?_; refine Zf ?_; refine Zb F.foff37_3 ?_; refine Zi F.lay35 ?_; refine Zbb F.elem35 ?_; refine Zav ?_; refine Ze ?_; refine Zc ?_
      refine Zau rfl (fun hc7 => ?_) (fun hc7 => ?_)
      ·replace hc7 := dT hc7
       refine Zax ?_; refine Zc ?_; refine Zj ?_; refine Zbe ?_; refine Zj ?_; refine Zar (l := [0, 1, 2, 3, 4, 5, 6, 7, 8, 9, 10]) #[0, 1, 0, 7, 15, 0, 32, 0, 224, 480, 1023] _ rfl (by kernel_rfl) (by kernel_rfl) St.drawn (fun _ h => h) ?_; refine Zb F.foff37_3 ?_; refine Zi F.lay35 ?_; refine Zf ?_; refine Zaa rfl rfl rfl rfl F.elem35 (by rfl) (by omega) (by exact SlM.plain (by assumption) (by (simp; omega))) rfl ?_; refine Zay rfl rfl rfl (by assumption) (by exact Zbl (by omega)) F.lay92 rfl rfl rfl ?_; refine Zb F.foff37_3 ?_; refine Zi F.lay35 ?_; refine Zf ?_; refine Zaa rfl rfl rfl rfl F.elem35 (by rfl) (by omega) (by exact SlM.plain (by assumption) (by (simp; omega))) rfl ?_; refine Zay rfl rfl rfl (by assumption) (by exact Zbl (by omega)) F.lay92 rfl rfl rfl ?_
       refine Zfx (m := 20) rfl rfl rfl rfl rfl (by constructor) (by constructor) F.lay92 F.kinds92 rfl F.guard92 (by exact FitMarkV _) (by exact FitMarkV _) rfl rfl rfl ?_; intro c8 he9
       replace he9 : c8 = true ↔ ¬ (Segs.cells _ = Segs.cells _) := he9
       obtain rfl := neD he9 (MarkV.inj (x := ⟨_, _, ⟨_, _, _, _⟩⟩) (y := ⟨_, _, ⟨_, _, _, _⟩⟩)); clear he9
       refine Ze ?_; refine Zc ?_
       refine Zau rfl (fun hc10 => ?_) (fun hc10 => ?_)
       ·replace hc10 := nT hc10
        simp only [AnswerV.eta, MarkV.eta, CellV.eta, HeldV.eta, WaitV.eta, ServerV.eta, PeerV.eta, OpV.eta, ParcelV.eta, PostV.eta, WorkerV.eta] at hc10
        simp only [List.get_eq_getElem] at hc10
        refine Zj ?_; refine Za (l := [0]) rfl ?_; refine Zd ?_; refine Ze ?_; refine Zc ?_; refine Zak ?_; refine Zbj ?_
        iterate 2 refine Zba ?_
        refine Zbj ?_; refine Zba ?_
        refine Zaj (.inr rfl) (.tmp rfl .nil) (fun w hw => ?_)
        refine ⟨_, rfl, (hw.c), ?_⟩
        clear hw
        refine congrArg Value.bool ?_
        exact (decide_eq_false (fun h9 => by have h8 : Zal = Zan := congrArg Cel.marks h9; exact absurd (by simp only [h8] : Zal[k] = Zan[k]) (by assumption))).symm
       ·replace hc10 := nF hc10
        simp only [AnswerV.eta, MarkV.eta, CellV.eta, HeldV.eta, WaitV.eta, ServerV.eta, PeerV.eta, OpV.eta, ParcelV.eta, PostV.eta, WorkerV.eta] at hc10
        simp only [List.get_eq_getElem] at hc10
        refine Zax ?_; refine Zde ?_; refine Zc ?_; refine Za (l := [0, 1, 2]) rfl ?_; refine Zf ?_; refine Zcc rfl rfl rfl rfl rfl (by exact Zbf (by decide) (by omega)) rfl ?_; refine Zd ?_; refine Ze ?_; refine Zda (a' := [(5, _)]) (k + 1) (.cons (k := 5) rfl (.cons (k := 4) rfl (.cons (k := 3) rfl (.cons (k := 2) rfl (.nil))))) (fun w hw => by first | exact hw | exact hw.c) ?_ ?_
        ·refine ⟨rfl, by omega, ?_⟩
         (intro j h2 h3 hj; rcases Nat.lt_or_ge j k with h9 | h9; exact hI j h2 h3 h9; obtain rfl : j = k := (by omega); simp_all)
        ·omega
      ·replace hc7 := dF hc7
       refine Zcm ?_
       iterate 2 refine Zcd ?_
       refine Zdl ?_; refine Zc ?_; refine Y_pk [4] ?_; refine Zj ?_; refine Za (l := [0]) rfl ?_; refine Zd ?_; refine Ze ?_; refine Zc ?_; refine Zak ?_
       refine Zaj (.inr rfl) (.tmp rfl .nil) (fun w hw => ?_)
       refine ⟨_, rfl, (hw.c), ?_⟩
       clear hw
       refine congrArg Value.bool ?_
       exact (decide_eq_true (by rw [show Zal = Zan from List.ext_getElem (by omega) (fun j h2 h3 => hI j h2 h3 (by omega))]; simp_all [CellV.pl])).symm
end Go.Proofs.YtpkeilhilpogiaaGreat
namespace Go.Esp
variable {α : Type}
abbrev PM (α : Type) := List (Plc × α)
def pmGet : PM α → Plc → Option α
  | [], _ => none
  | (j, v) :: r, k => if k = j then some v else pmGet r k
def pmPut : PM α → Plc → α → PM α
  | [], k, v => [(k, v)]
  | (j, u) :: r, k, v => if k = j then (j, v) :: r else (j, u) :: pmPut r k v
def keyV (x : Plc) : Value := aggV [idSeg x]
def enP (en : α → Value) (p : Plc × α) : Value × Value := (keyV p.1, en p.2)
def pmO (en : α → Value) (o : Obj) (l : PM α) : Prop := ∃ es clock, o = .map es clock ∧ kvs es = l.map (enP en) ∧ (∀ x ∈ es.toList, x.born < clock) ∧ (es.toList.map (·.born)).Nodup
theorem pmO.nil (en : α → Value) : pmO en (.map #[] 0) [] := ⟨#[], 0, rfl, rfl, fun x h => (by cases h), List.nodup_nil⟩
structure IdK (P : Program) (k u : TypeId) (ks : List Kd) : Prop where
  ku : P.underlying k = some (.array 20 u)
  uu : P.underlying u = some (.int .u8)
  us : ∃ i, P.info? u = some i ∧ i.size = 1
  kk : kindsOf P 20 k = some ks
  fit : ∀ x : Plc, Fits ks (Segs.cells [idSeg x])
section
variable {P : Program} {w : World} {k u : TypeId} {ks : List Kd} {en : α → Value}
theorem run_equal_id (hK : IdK P k u ks) (x y : Plc) : (Op.equal k (keyV x) (keyV y)).run P w = .ok (decide (x = y)) w := by
  have mk1 : ∀ R, mkV P k (Segs.cells R) = aggV R := fun R => by unfold mkV; rw [hK.ku]; rfl
  obtain ⟨r, hr, hiff⟩ := run_equalK (P := P) (10000 - 20) 20 k ks hK.kk w _ _ (hK.fit x) (hK.fit y)
  rw [mk1, mk1, show 10000 - 20 + 20 = 10000 by omega] at hr
  have : r = decide (x = y) := by
    by_cases h : x = y
    · rw [decide_eq_true h]; exact hiff.2 (by rw [h])
    · rw [decide_eq_false h]
      cases r with
      | false => rfl
      | true => exact absurd (Zfu.1 (hiff.1 rfl)) h
  rw [← this]
  exact hr
theorem run_checkKey_id (hK : IdK P k u ks) (b : Bool) (x : Plc) : (Instr.checkKey b 10000 k (keyV x)).run P w = .ok () w := by
  obtain ⟨i, hi, hs⟩ := hK.us
  show (Instr.checkKey b (9999 + 1) k (keyV x)).run P w = .ok () w
  have e : keyV x = .agg (Segs.cells [idSeg x]).toArray := rfl
  rw [e, Instr.checkKey]
  simp only [Sem.run_bind, Zdb hK.ku, Result.andThen_ok]
  simp only [Std.Legacy.Range.forIn_eq_forIn_range', Std.Legacy.Range.size, Nat.sub_zero, Nat.add_one_sub_one, Nat.div_one]
  have each : ∀ j ∈ List.range' 0 20, j < 20 := fun j hj => by have := List.mem_range'_1.1 hj; omega
  generalize List.range' 0 20 = is at each
  induction is with
  | nil => simp
  | cons j is ih =>
    have hj := each j (by simp)
    have p1 : (part u (Segs.cells [idSeg x]).toArray (j * i.size)).run P w = .ok (.int .u8 (idB x j)) w := by
      unfold part
      rw [Zbk (run_isAgg hK.uu)]
      rw [hs, Nat.mul_one]
      have : (Segs.cells [idSeg x]).toArray[j]? = some (.int .u8 (idB x j)) := by simpa using id_at' (x := x) hj
      simp only [aggD, Bool.false_eq_true, if_false, this]
      rfl
    have p2 : (Instr.checkKey b 9999 u (.int .u8 (idB x j))).run P w = .ok () w := by
      show (Instr.checkKey b (9998 + 1) u _).run P w = _
      unfold Instr.checkKey
      rw [Zbk (Zdb hK.uu)]
      rfl
    simp only [List.forIn_cons, Sem.run_bind, run_sizeOf' hi, Result.andThen_ok, p1, p2, Sem.run_pure]
    exact ih (fun y hy => each y (by simp [hy]))
theorem run_findAsking_id (hK : IdK P k u ks) (x : Plc) : ∀ (es : List MapEntry) (l : PM α) (i : Nat), es.map (fun x => (x.key, x.val)) = l.map (enP en) →
    (Instr.findAsking k (keyV x) es i).run P w = .ok (match pmGet l x with | some v => some (i + (l.findIdx fun p => x = p.1), en v) | none => none) w
  | [], [], i, _ => rfl
  | [], _ :: _, _, h => by simp at h
  | _ :: _, [], _, h => by simp at h
  | e :: es, (j, v) :: l, i, h => by
    simp only [List.map_cons, List.cons.injEq, enP, Prod.mk.injEq] at h
    obtain ⟨⟨h1, h2⟩, h3⟩ := h
    unfold Instr.findAsking
    rw [h1, Zbk (run_equal_id hK x j)]
    by_cases e : x = j
    · subst e
      simp [pmGet, List.findIdx_cons, h2]
    · simp only [e, decide_false, Bool.false_eq_true, if_false]
      rw [run_findAsking_id hK x es l (i + 1) h3]
      simp only [pmGet, e, if_false]
      cases pmGet l x with
      | none => rfl
      | some u => simp [List.findIdx_cons, e]; omega
theorem run_findKey_id (hK : IdK P k u ks) (x : Plc) {es : Array MapEntry} {l : PM α} (h : kvs es = l.map (enP en)) :
    (Instr.findKey k (keyV x) es.toList).run P w = .ok (match pmGet l x with | some v => some (l.findIdx fun p => x = p.1, en v) | none => none) w := by
  unfold Instr.findKey
  rw [Zbk (Zdb hK.ku)]
  have key := run_findAsking_id (w := w) hK x es.toList l 0 h
  simp only [Nat.zero_add] at key
  cases hes : es.toList with
  | nil =>
    have : l = [] := by
      unfold kvs at h; rw [hes] at h
      cases l with
      | nil => rfl
      | cons => simp at h
    subst this
    rfl
  | cons e r =>
    rw [hes] at key
    have : Instr.findNow (.array 20 u) (keyV x) (e :: r) 0 = none := by
      unfold Instr.findNow
      have : Instr.sameNow (.array 20 u) (keyV x) e.key = none := by
        unfold Instr.sameNow; rfl
      rw [this]
    rw [this]
    exact key
theorem pmGet_lt {x : Plc} : ∀ {l : PM α} {v : α}, pmGet l x = some v → l[l.findIdx fun p => x = p.1]? = some (x, v)
  | [], _, h => by simp [pmGet] at h
  | (j, u) :: l, v, h => by
    unfold pmGet at h
    by_cases e : x = j
    · subst e; simp at h; subst h; simp [List.findIdx_cons]
    · simp only [e, if_false] at h
      simp only [List.findIdx_cons, e, decide_false, cond_false]
      simpa using pmGet_lt h
theorem pmGet_mem {x : Plc} {l : PM α} {v : α} (h : pmGet l x = some v) : (x, v) ∈ l := List.mem_of_getElem? (pmGet_lt h)
theorem kvs_modify_id {x : Plc} {v : α} : ∀ {l : PM α} {es : List MapEntry}, es.map (fun x => (x.key, x.val)) = l.map (enP en) → (pmGet l x).isSome = true →
    (es.modify (l.findIdx fun p => x = p.1) fun y => { y with key := keyV x, val := en v }).map (fun x => (x.key, x.val)) = (pmPut l x v).map (enP en)
  | [], _, _, h => by simp [pmGet] at h
  | _ :: _, [], h, _ => by simp at h
  | (j, u) :: l, y :: es, h, hs => by
    simp only [List.map_cons, List.cons.injEq, enP, Prod.mk.injEq] at h
    obtain ⟨⟨h1, h2⟩, h3⟩ := h
    by_cases e : x = j
    · subst e
      simp [List.findIdx_cons, pmPut, enP]
      exact h3
    · simp only [pmGet, e, if_false] at hs
      have ih := kvs_modify_id (v := v) h3 hs
      simp only [List.findIdx_cons, e, decide_false, cond_false, pmPut, if_false, List.modify_succ_cons, List.map_cons, h1, h2, ih]
      rfl
theorem modify_born {es : List MapEntry} {j : Nat} {a b : Value} : (es.modify j fun y => { y with key := a, val := b }).map (·.born) = es.map (·.born) := by
  induction es generalizing j with
  | nil => simp
  | cons y es ih =>
    cases j with
    | zero => simp
    | succ j => simp [ih]
theorem pmPut_none {x : Plc} {v : α} : ∀ {l : PM α}, pmGet l x = none → pmPut l x v = l ++ [(x, v)]
  | [], _ => rfl
  | (j, u) :: l, h => by
    unfold pmGet at h
    by_cases e : x = j
    · simp [e] at h
    · simp only [e, if_false] at h
      simp [pmPut, e, pmPut_none h]
theorem run_lookup_id {t el : TypeId} {b : Nat} {o : Obj} {l : PM α} {x : Plc} {z : α} (hK : IdK P k u ks) (ht : P.underlying t = some (.map k el)) (hz : zeroOf P el = some (en z)) (hb : w.heap[b]? = some o) (ho : pmO en o l) :
    (Instr.lookup t (.map (some b)) (keyV x) true).run P w = .ok (.tuple #[en ((pmGet l x).getD z), .bool (pmGet l x).isSome]) w := by
  obtain ⟨es, c, rfl, hk, _, _⟩ := ho
  have hzv : (zeroValue el).run P w = .ok (en z) w := by
    unfold zeroOf at hz
    split at hz
    · rename_i it hit; simp [zeroValue, typeInfo, hit, hz]
    · cases hz
  unfold Instr.lookup
  rw [Zbk (Zdb ht)]
  simp only []
  rw [Zbk (run_getObj' hb)]
  simp only []
  rw [Zbk (show (pure es : Sem (Array MapEntry)).run P w = .ok es w from rfl), Zbk (run_checkKey_id hK _ x), Zbk (run_findKey_id hK x hk)]
  cases hg : pmGet l x with
  | some v => rfl
  | none =>
    simp only []
    rw [Zbk hzv]
    rfl
theorem sameBits_id (x : Plc) : Instr.sameBits 10000 (keyV x) (keyV x) = true := by
  show Instr.sameBits (9999 + 1) (.agg (Segs.cells [idSeg x]).toArray) (.agg (Segs.cells [idSeg x]).toArray) = true
  unfold Instr.sameBits
  simp only [beq_self_eq_true, Bool.true_and, List.all_eq_true]
  rintro ⟨a, b⟩ hab
  have e1 : Segs.cells [idSeg x] = (idV x).toList := by simp [Segs.cells, idSeg, Seg.cells]
  simp only [e1] at hab
  have hmem : a ∈ (idV x).toList := (List.of_mem_zip hab).1
  have heq : a = b := by
    obtain ⟨j, hj, hjj⟩ := List.getElem_of_mem hab
    rw [List.getElem_zip] at hjj
    have := Prod.mk.inj hjj
    rw [← this.1, ← this.2]
  subst heq
  rw [idV_list] at hmem
  obtain ⟨j, _, rfl⟩ := List.mem_map.1 hmem
  show Instr.sameBits (9998 + 1) _ _ = true
  simp [Instr.sameBits]
theorem run_mapUpdate_id {t el : TypeId} {b : Nat} {o : Obj} {l : PM α} {x : Plc} {v : α} (hK : IdK P k u ks) (ht : P.underlying t = some (.map k el)) (hb : w.heap[b]? = some o) (ho : pmO en o l) :
    ∃ o', (Instr.mapUpdate t (.map (some b)) (keyV x) (en v)).run P w = .ok () { w with heap := w.heap.setIfInBounds b o' } ∧ pmO en o' (pmPut l x v) := by
  obtain ⟨es, c, rfl, hk, hlt, hnd⟩ := ho
  unfold Instr.mapUpdate
  rw [Zbk (Zdb ht)]
  simp only []
  rw [Zbk (run_getObj' hb)]
  simp only []
  rw [Zbk (run_checkKey_id hK _ x), Zbk (run_findKey_id hK x hk)]
  cases hg : pmGet l x with
  | some v0 =>
    simp only []
    have hq := pmGet_lt hg
    obtain ⟨y, hy, hyk⟩ : ∃ y, es[l.findIdx fun p => x = p.1]? = some y ∧ y.key = keyV x := by
      have h3 : (kvs es)[l.findIdx fun p => x = p.1]? = some (keyV x, en v0) := by rw [hk]; simp [hq, enP]
      simp only [kvs, List.getElem?_map, Option.map_eq_some_iff] at h3
      obtain ⟨y, hy, hyy⟩ := h3
      simp only [Prod.mk.injEq] at hyy
      exact ⟨y, by simpa using hy, hyy.1⟩
    have hst : (Instr.keyThatStays (((es[l.findIdx fun p => x = p.1]?).map (·.key)).getD (keyV x)) (keyV x)).run P w = .ok (keyV x) w := by
      rw [hy]
      simp only [Option.map_some, Option.getD_some, hyk]
      unfold Instr.keyThatStays
      simp only [sameBits_id, if_true]
      rfl
    rw [Zbk hst]
    have hm : (es.modify (l.findIdx fun p => x = p.1) fun e => { e with key := keyV x, val := en v }).toList = es.toList.modify (l.findIdx fun p => x = p.1) (fun e => { e with key := keyV x, val := en v }) := by simp
    have hbn := modify_born (es := es.toList) (j := l.findIdx fun p => x = p.1) (a := keyV x) (b := en v)
    refine ⟨_, run_setObj' hb _, _, _, rfl, ?_, ?_, ?_⟩
    · unfold kvs
      rw [hm]
      exact kvs_modify_id hk (by simp [hg])
    · intro y hy
      rw [hm] at hy
      have h1 : y.born ∈ es.toList.map (·.born) := by rw [← hbn]; exact List.mem_map_of_mem hy
      obtain ⟨y', hy', he⟩ := List.mem_map.1 h1
      rw [← he]; exact hlt y' hy'
    · rw [hm, hbn]; exact hnd
  | none =>
    simp only []
    refine ⟨_, run_setObj' hb _, _, _, rfl, ?_, ?_, ?_⟩
    · rw [pmPut_none hg, kvs_push, hk]; simp [enP]
    · intro y hy
      simp only [Array.toList_push, List.mem_append, List.mem_singleton] at hy
      rcases hy with hy | rfl
      · have := hlt y hy; omega
      · exact Nat.lt_succ_self _
    · simp only [Array.toList_push, List.map_append, List.map_cons, List.map_nil, List.nodup_append]
      refine ⟨hnd, by simp, ?_⟩
      intro a ha b hb e
      simp only [List.mem_singleton] at hb
      obtain ⟨y, hy, rfl⟩ := List.mem_map.1 ha
      have := hlt y hy; omega
end
inductive Al2 {β : Type} (R : Nat → β → Prop) : List Nat → List β → Prop
  | nil : Al2 R [] []
  | cons {j : Nat} {p : β} {js : List Nat} {sv : List β} : R j p → Al2 R js sv → Al2 R (j :: js) (p :: sv)
def itO (en : α → Value) (b : Nat) (oi om : Obj) (l sv : PM α) : Prop :=
  ∃ (es : Array MapEntry) (clock : Nat) (sn : Array Nat) (js : List Nat), om = .map es clock ∧ kvs es = l.map (enP en) ∧ (∀ x ∈ es.toList, x.born < clock) ∧ (es.toList.map (·.born)).Nodup ∧
    oi = .mapIter (some b) clock sn clock ∧ js.Nodup ∧ sn.toList = js.filterMap (fun j => es[j]?.map (·.born)) ∧ Al2 (fun j p => l[j]? = some p) js sv
theorem itO.start {en : α → Value} {b : Nat} {om : Obj} {l : PM α} (h : pmO en om l) : ∃ es c, om = .map es c ∧ itO en b (.mapIter (some b) c #[] c) om l [] := by
  obtain ⟨es, c, rfl, h1, h2, h3⟩ := h
  exact ⟨es, c, rfl, es, c, #[], [], rfl, h1, h2, h3, rfl, List.nodup_nil, rfl, .nil⟩
theorem forall2_getD {l : PM α} {p0 : Plc × α} : ∀ {js : List Nat} {sv : PM α}, Al2 (fun j p => l[j]? = some p) js sv → sv = js.map fun j => l[j]?.getD p0
  | [], _, h => by cases h; rfl
  | j :: js, _, h => by
    cases h with
    | cons h1 h2 => simp [h1, ← forall2_getD h2]
theorem forall2_lt {l : PM α} : ∀ {js : List Nat} {sv : PM α}, Al2 (fun j p => l[j]? = some p) js sv → ∀ j ∈ js, j < l.length
  | [], _, h => fun j hj => by cases hj
  | i :: js, _, h => fun j hj => by
    cases h with
    | cons h1 h2 =>
      rcases List.mem_cons.1 hj with rfl | hj
      · exact (List.getElem?_eq_some_iff.1 h1).1
      · exact forall2_lt h2 j hj
theorem forall2_app {R : Nat → Plc × α → Prop} : ∀ {js : List Nat} {sv : PM α} {j : Nat} {p : Plc × α}, Al2 R js sv → R j p → Al2 R (js ++ [j]) (sv ++ [p])
  | [], _, _, _, h, h2 => by cases h; exact .cons h2 .nil
  | _ :: _, _, _, _, h, h2 => by
    cases h with
    | cons g1 g2 => exact .cons g1 (forall2_app g2 h2)
theorem forall2_unapp {R : Nat → Plc × α → Prop} : ∀ {js : List Nat} {sv : PM α} {p : Plc × α}, Al2 R js (sv ++ [p]) → ∃ js' j, js = js' ++ [j] ∧ Al2 R js' sv ∧ R j p
  | _, [], _, h => by
    cases h with
    | cons g1 g2 => cases g2; exact ⟨[], _, rfl, .nil, g1⟩
  | _, s :: sv, p, h => by
    cases h with
    | cons g1 g2 =>
      obtain ⟨js', j, rfl, h1, h2⟩ := forall2_unapp g2
      exact ⟨_ :: js', j, rfl, .cons g1 h1, h2⟩
theorem born_inj {es : List MapEntry} (hn : (es.map (·.born)).Nodup) {i j : Nat} (hi : i < es.length) (hj : j < es.length) (h : es[i].born = es[j].born) : i = j := by
  have h1 : (es.map (·.born))[i]'(by simpa using hi) = (es.map (·.born))[j]'(by simpa using hj) := by simpa using h
  rcases Nat.lt_trichotomy i j with h9 | h9 | h9
  · exact absurd h1 ((List.pairwise_iff_getElem.1 hn) i j (by simpa using hi) (by simpa using hj) h9)
  · exact h9
  · exact absurd h1.symm ((List.pairwise_iff_getElem.1 hn) j i (by simpa using hj) (by simpa using hi) h9)
theorem kvs_len {en : α → Value} {es : Array MapEntry} {l : PM α} (h : kvs es = l.map (enP en)) : es.toList.length = l.length := by have := congrArg List.length h; simpa [kvs] using this
theorem seen_iff {es : Array MapEntry} {sn : Array Nat} {js : List Nat} (hn : (es.toList.map (·.born)).Nodup) (hs : sn.toList = js.filterMap (fun j => es[j]?.map (·.born))) (hl : ∀ j ∈ js, j < es.toList.length) {j : Nat} (hj : j < es.toList.length) :
    es.toList[j].born ∈ sn.toList ↔ j ∈ js := by
  rw [hs, List.mem_filterMap]
  constructor
  · rintro ⟨i, hi, he⟩
    have hil := hl i hi
    have h1 : es[i]? = some es.toList[i] := by simp
    rw [h1] at he
    simp only [Option.map_some, Option.some.injEq] at he
    rw [← born_inj hn hil hj he]; exact hi
  · intro h
    exact ⟨j, h, by have h1 : es[j]? = some es.toList[j] := by simp
                    rw [h1]; rfl⟩
theorem all_seen {es : Array MapEntry} {sn : Array Nat} (h : (leftOf es sn).size = 0) {x : MapEntry} (hx : x ∈ es.toList) : x.born ∈ sn.toList := by
  apply Decidable.byContradiction
  intro hc
  have h1 : x ∈ leftOf es sn := by
    unfold leftOf
    rw [Array.mem_filter]
    exact ⟨by simpa using hx, by simpa using hc⟩
  have h2 : leftOf es sn = #[] := Array.eq_empty_of_size_eq_zero h
  rw [h2] at h1
  simp at h1
theorem itO.done {en : α → Value} {b : Nat} {oi om : Obj} {l sv : PM α} {es : Array MapEntry} {clock : Nat} {sn : Array Nat} (h : itO en b oi om l sv) (h1 : om = .map es clock) (h2 : oi = .mapIter (some b) clock sn clock) (h0 : (leftOf es sn).size = 0) : sv.Perm l := by
  obtain ⟨es', c', sn', js, e1, hk, hlt, hnd, e2, hjn, hs, hf⟩ := h
  subst e1
  obtain ⟨rfl, rfl⟩ := Obj.map.inj h1
  subst e2
  have e3 : sn' = sn := (Obj.mapIter.inj h2).2.2.1
  subst e3
  have hlen := kvs_len hk
  have hjl : ∀ j ∈ js, j < es'.toList.length := fun j hj => by rw [hlen]; exact forall2_lt hf j hj
  have hp : js.Perm (List.range l.length) := by
    refine (List.perm_ext_iff_of_nodup hjn List.nodup_range).2 fun j => ?_
    rw [List.mem_range]
    constructor
    · intro hj; exact forall2_lt hf j hj
    · intro hj
      have hj' : j < es'.toList.length := by omega
      exact (seen_iff hnd hs hjl hj').1 (all_seen h0 (List.getElem_mem hj'))
  cases l with
  | nil =>
    have : js = [] := by simpa using hp
    subst this
    cases hf
    exact .refl _
  | cons p0 l' =>
    rw [forall2_getD (p0 := p0) hf]
    have h9 := hp.map fun j => ((p0 :: l')[j]?).getD p0
    refine h9.trans (List.Perm.of_eq ?_)
    apply List.ext_getElem (by simp)
    intro i g1 g2
    simp only [List.getElem_map, List.getElem_range, List.getElem?_eq_getElem g2, Option.getD_some]
theorem itO.step {en : α → Value} {b : Nat} {oi om : Obj} {l sv : PM α} {es : Array MapEntry} {clock : Nat} {sn : Array Nat} {x : MapEntry} (h : itO en b oi om l sv) (h1 : om = .map es clock) (h2 : oi = .mapIter (some b) clock sn clock) (hx : x ∈ (leftOf es sn).toList) :
    ∃ p, p ∈ l ∧ x.key = keyV p.1 ∧ x.val = en p.2 ∧ itO en b (.mapIter (some b) clock (sn.push x.born) clock) om l (sv ++ [p]) := by
  obtain ⟨es', c', sn', js, e1, hk, hlt, hnd, e2, hjn, hs, hf⟩ := h
  subst e1
  obtain ⟨rfl, rfl⟩ := Obj.map.inj h1
  subst e2
  have e3 : sn' = sn := (Obj.mapIter.inj h2).2.2.1
  subst e3
  obtain ⟨hxe, hxs⟩ := mem_left hx
  obtain ⟨j, hj, rfl⟩ := List.getElem_of_mem hxe
  have hlen := kvs_len hk
  have hjl : j < l.length := by omega
  have hjs : j ∉ js := fun hc => by
    have := (seen_iff hnd hs (fun i hi => by rw [hlen]; exact forall2_lt hf i hi) hj).2 hc
    have h3 : es'.toList[j].born ∈ sn' := by simpa using this
    have h4 : sn'.contains es'.toList[j].born = true := by simpa using h3
    rw [h4] at hxs; cases hxs
  have hkv : (es'.toList[j].key, es'.toList[j].val) = enP en l[j] := by
    have h5 : (kvs es')[j]? = (l.map (enP en))[j]? := by rw [hk]
    simp only [kvs, List.getElem?_map, List.getElem?_eq_getElem hj, List.getElem?_eq_getElem hjl, Option.map_some, Option.some.injEq] at h5
    exact h5
  simp only [enP, Prod.mk.injEq] at hkv
  refine ⟨l[j], List.getElem_mem hjl, hkv.1, hkv.2, es', _, _, js ++ [j], rfl, hk, hlt, hnd, rfl, ?_, ?_, forall2_app hf (List.getElem?_eq_getElem hjl)⟩
  · rw [List.nodup_append]
    exact ⟨hjn, by simp, fun a ha b hb e => hjs (by simp at hb; subst hb; subst e; exact ha)⟩
  · rw [Array.toList_push, hs, List.filterMap_append]
    have h1 : es'[j]? = some es'.toList[j] := by simp
    simp [h1]
theorem itO.len {en : α → Value} {b : Nat} {oi om : Obj} {l sv : PM α} (h : itO en b oi om l sv) : sv.length ≤ l.length := by
  obtain ⟨es, c, sn, js, e1, hk, hlt, hnd, e2, hjn, hs, hf⟩ := h
  have h1 : js.length = sv.length := by
    clear hs hjn
    induction hf with
    | nil => rfl
    | cons _ _ ih => simp [ih]
  have h2 : js.length ≤ (List.range l.length).length := by
    have hp : js.Perm ((List.range l.length).filter fun j => decide (j ∈ js)) := (List.perm_ext_iff_of_nodup hjn (List.nodup_range.sublist List.filter_sublist)).2 fun j => by
      rw [List.mem_filter, List.mem_range]
      exact ⟨fun hj => ⟨forall2_lt hf j hj, by simpa using hj⟩, fun hj => by simpa using hj.2⟩
    rw [hp.length_eq]
    exact List.length_filter_le _ _
  rw [List.length_range] at h2
  omega
theorem itO.mem {en : α → Value} {b : Nat} {oi om : Obj} {l sv : PM α} (h : itO en b oi om l sv) : ∀ p ∈ sv, p ∈ l := by
  obtain ⟨es, c, sn, js, e1, hk, hlt, hnd, e2, hjn, hs, hf⟩ := h
  clear hs hjn
  induction hf with
  | nil => intro p hp; cases hp
  | cons h1 _ ih =>
    intro p hp
    rcases List.mem_cons.1 hp with rfl | hp
    · exact List.mem_of_getElem? h1
    · exact ih p hp
theorem itO.last {en : α → Value} {b : Nat} {oi om : Obj} {l sv : PM α} {p : Plc × α} (h : itO en b oi om l (sv ++ [p])) : ∃ (es : Array MapEntry) (clock : Nat) (sn : Array Nat) (x : MapEntry), om = .map es clock ∧ oi = .mapIter (some b) clock (sn.push x.born) clock ∧ x ∈ es.toList ∧ (es.toList.map (·.born)).Nodup ∧ x.key = keyV p.1 ∧ x.val = en p.2 := by
  obtain ⟨es, c, sn, js, rfl, hk, hlt, hnd, rfl, hjn, hs, hf⟩ := h
  obtain ⟨js', j, rfl, hf', hj⟩ := forall2_unapp hf
  have hlen := kvs_len hk
  obtain ⟨hjl, hjp⟩ := List.getElem?_eq_some_iff.1 hj
  have hje : j < es.toList.length := by omega
  have h1 : es[j]? = some es.toList[j] := by simp
  rw [List.filterMap_append] at hs
  simp only [List.filterMap_cons, h1, Option.map_some, List.filterMap_nil] at hs
  have hkv : (es.toList[j].key, es.toList[j].val) = enP en l[j] := by
    have h5 : (kvs es)[j]? = (l.map (enP en))[j]? := by rw [hk]
    simp only [kvs, List.getElem?_map, List.getElem?_eq_getElem hje, List.getElem?_eq_getElem hjl, Option.map_some, Option.some.injEq] at h5
    exact h5
  simp only [enP, Prod.mk.injEq, hjp] at hkv
  refine ⟨es, c, (js'.filterMap (fun j => es[j]?.map (·.born))).toArray, es.toList[j], rfl, ?_, List.getElem_mem hje, hnd, hkv.1, hkv.2⟩
  congr 1
  apply Array.toList_inj.1
  rw [hs]; simp
section
variable {P : Program} {n : Sh} {ops : Array Oper} {Q : Exit → Act → World → Prop} {rest : List Nat} {M M' : Mem} {H H' H0 : Hp} {e : Env} {J S : World → Prop} {A : As} {i : Nat}
  {dst : Option Tmp} {d : Tmp} {op : Op} {ty : TypeId} {pos : String} {af : Array Edge} {gd : Option (Nat × Bool)} {k u : TypeId} {ks : List Kd} {en : α → Value}
theorem X_lookup2P {t el : TypeId} {x y : Operand} {b : Nat} {p : Plc} {z : α} {o : Obj} {l : PM α} {MJ : Mem} {HJ : Hp} (hi : ops[i]? = some ⟨some d, .lookup t x y true, ty, pos, af, gd⟩) (hg : want ops e gd = some true)
    (hx : ev e x = some (.map (some b))) (hy : ev e y = some (keyV p)) (hK : IdK P k u ks) (ht : P.underlying t = some (.map k el)) (hz : zeroOf P el = some (en z)) (hb : (b, o) ∈ HJ) (ho : pmO en o l) (hd : Nat.ble (d + 1) n.sz = true)
    (hk : XD P n ops Q rest (St MJ HJ) A ((d, .tuple #[en ((pmGet l p).getD z), .bool (pmGet l p).isSome]) :: e)) : XD P n ops Q (i :: rest) (St MJ HJ) A e :=
  Zgo hi rfl hg (fun a' w ha hw => Zec (by
    simp only [execOp, ha.ev hx, ha.ev hy]
    exact Zfm (run_lookup_id hK ht hz (hw.own _ _ hb) ho))) (fun a ha => ha.put hd _) hk
theorem X_len_mapP {t el : TypeId} {x : Operand} {b : Nat} {o : Obj} {l : PM α} {MJ : Mem} {HJ : Hp} {ats : Array TypeId} (hi : ops[i]? = some ⟨some d, .call ⟨.builtin .len, #[x], ats⟩, ty, pos, af, gd⟩) (hg : want ops e gd = some true)
    (hx : ev e x = some (.map (some b))) (hat : ats[0]? = some t) (ht : P.underlying t = some (.map k el)) (hb : (b, o) ∈ HJ) (ho : pmO en o l) (hd : Nat.ble (d + 1) n.sz = true) (hk : XD P n ops Q rest (St MJ HJ) A ((d, .int .i64 (l.length : Int)) :: e)) : XD P n ops Q (i :: rest) (St MJ HJ) A e :=
  Zgo hi rfl hg (fun a' w ha hw => Zec (by
    obtain ⟨es, c, rfl, hkv, _, _⟩ := ho
    have hl : es.size = l.length := by have := congrArg List.length hkv; simpa [kvs] using this
    simp only [execOp, resolve]
    simp [invoke, builtin, Builtin.len_, ha.ev hx, hat, Zdb ht, run_getObj' (hw.own _ _ hb), goInt, hl])) (fun a ha => ha.put hd _) hk
theorem X_mapUpdateP {t el : TypeId} {x y z : Operand} {b : Nat} {p : Plc} {v : α} {o : Obj} {l : PM α} (hi : ops[i]? = some ⟨none, .mapUpdate t x y z, ty, pos, af, gd⟩) (hg : want ops e gd = some true)
    (hx : ev e x = some (.map (some b))) (hy : ev e y = some (keyV p)) (hz : ev e z = some (en v)) (hK : IdK P k u ks) (ht : P.underlying t = some (.map k el)) (ho : pmO en o l) (hb : (b, o) ∈ H)
    (hk : ∀ o', pmO en o' (pmPut l p v) → ∃ H2, Upd b o o' H H2 ∧ XD P n ops Q rest (St M H2) ⟨M, H2⟩ e) (hnw : n.wrs.contains i = false := by rfl) : XD P n ops Q (i :: rest) J ⟨M, H⟩ e := by
  refine Zgv hi rfl hg (fun a w ha hw => ?_) hnw
  have hb := hw.own b o hb
  obtain ⟨o', hr, ho'⟩ := run_mapUpdate_id (P := P) (x := p) (v := v) hK ht hb ho
  unfold Oper.does
  have : (execOp a.eval ⟨none, .mapUpdate t x y z, ty, pos, af, gd⟩).run P w = .ok .skip { w with heap := w.heap.setIfInBounds b o' } := by
    simp only [execOp, ha.ev hx, ha.ev hy, ha.ev hz]
    rw [Zbk hr]; rfl
  rw [this]
  obtain ⟨H2, hH, hk⟩ := hk o' ho'
  exact ⟨⟨M, H2⟩, e, St.upd hw hH (setIn_self hb) (fun c hc q hq => by rw [setIn_other hc]; exact hq) (SameIO.refl _), ha, hk⟩
theorem X_rangeP {t el : TypeId} {x : Operand} {b : Nat} {o : Obj} {l : PM α} (hi : ops[i]? = some ⟨some d, .range t x, ty, pos, af, gd⟩) (hg : want ops e gd = some true)
    (hx : ev e x = some (.map (some b))) (ht : P.underlying t = some (.map k el)) (hb : (b, o) ∈ H) (ho : pmO en o l) (hd : Nat.ble (d + 1) n.sz = true)
    (hk : ∀ r oi, itO en b oi o l [] → XD P n ops Q rest (St M ((r, oi) :: H)) ⟨M, (r, oi) :: H⟩ ((d, .pointer (some ⟨r, 0, Option.none⟩)) :: e)) (hnw : n.wrs.contains i = false := by rfl) : XD P n ops Q (i :: rest) J ⟨M, H⟩ e := by
  refine Zgv hi rfl hg (fun a w ha hw => ?_) hnw
  have hb' := hw.own b o hb
  obtain ⟨es, c, rfl, hit⟩ := itO.start (b := b) ho
  unfold Oper.does
  have : (execOp a.eval ⟨some d, .range t x, ty, pos, af, gd⟩).run P w = .ok (.value (.pointer (some ⟨w.heap.size, 0, Option.none⟩))) (w.alloc (.mapIter (some b) c #[] c)) := by
    simp only [execOp, ha.ev hx]
    refine Zfm ?_
    unfold Instr.range
    rw [Zbk (Zdb ht)]
    simp only []
    rw [Zbk (run_getObj' hb')]
    rfl
  rw [this]
  exact ⟨⟨M, (w.heap.size, _) :: H⟩, _, St.alloc hw _, ha.put hd _, hk _ _ hit⟩
theorem X_nextP {x : Operand} {b r : Nat} {oi om : Obj} {l sv : PM α} (hi : ops[i]? = some ⟨some d, .next x false, ty, pos, af, gd⟩) (hg : want ops e gd = some true)
    (hx : ev e x = some (.pointer (some ⟨r, 0, Option.none⟩))) (hr : (r, oi) ∈ H) (hb : (b, om) ∈ H) (hit : itO en b oi om l sv) (hd : Nat.ble (d + 1) n.sz = true)
    (hk1 : ∀ p oi', p ∈ l → itO en b oi' om l (sv ++ [p]) → ∃ H2, Upd r oi oi' H H2 ∧ XD P n ops Q rest (St M H2) ⟨M, H2⟩ ((d, .tuple #[.bool true, keyV p.1, en p.2]) :: e))
    (hk0 : sv.Perm l → XD P n ops Q rest (St M H) ⟨M, H⟩ ((d, .tuple #[.bool false]) :: e)) (hnw : n.wrs.contains i = false := by rfl) : XD P n ops Q (i :: rest) J ⟨M, H⟩ e := by
  refine Zgv hi rfl hg (fun a w ha hw => ?_) hnw
  have hr' := hw.own r oi hr
  have hb' := hw.own b om hb
  have hit' := hit
  obtain ⟨es, c, sn, js, e1, hkv, hlt, hnd, e2, hjn, hs, hf⟩ := hit'
  rw [e2] at hr'
  rw [e1] at hb'
  unfold Oper.does
  rcases run_next_at (P := P) w ty r b c c sn es c hr' hb' hlt (Nat.le_refl _) with ⟨h0, hrun⟩ | ⟨y, hy, w1, hw1, hrun⟩
  · have : (execOp a.eval ⟨some d, .next x false, ty, pos, af, gd⟩).run P w = .ok (.value (.tuple #[.bool false])) w := by
      simp only [execOp, ha.ev hx]
      exact Zfm hrun
    rw [this]
    exact ⟨⟨M, H⟩, _, hw, ha.put hd _, hk0 (hit.done e1 e2 h0)⟩
  · obtain ⟨p, hp, g1, g2, g3⟩ := hit.step e1 e2 hy
    rw [g1, g2] at hrun
    have : (execOp a.eval ⟨some d, .next x false, ty, pos, af, gd⟩).run P w = .ok (.value (.tuple #[.bool true, keyV p.1, en p.2])) { w1 with heap := w1.heap.setIfInBounds r (.mapIter (some b) c (sn.push y.born) c) } := by
      simp only [execOp, ha.ev hx]
      exact Zfm hrun
    rw [this]
    obtain ⟨H2, hH, hk⟩ := hk1 p _ hp g3
    have hst : St M H w1 := by
      rcases hw1 with rfl | rfl
      · exact hw
      · exact St.drawn _ hw
    have hr1 := hst.own r oi hr
    exact ⟨⟨M, H2⟩, _, St.upd hst hH (setIn_self hr1) (fun c hc q hq => by rw [setIn_other hc]; exact hq) (SameIO.refl _), ha.put hd _, hk⟩
theorem X_entryP {x : Operand} {b r : Nat} {oi om : Obj} {l sv : PM α} {p : Plc × α} {MJ : Mem} {HJ : Hp} (hi : ops[i]? = some ⟨some d, .entry x, ty, pos, af, gd⟩) (hg : want ops e gd = some true)
    (hx : ev e x = some (.pointer (some ⟨r, 0, Option.none⟩))) (hr : (r, oi) ∈ HJ) (hb : (b, om) ∈ HJ) (hit : itO en b oi om l (sv ++ [p])) (hd : Nat.ble (d + 1) n.sz = true)
    (hk : XD P n ops Q rest (St MJ HJ) A ((d, .tuple #[keyV p.1, en p.2]) :: e)) : XD P n ops Q (i :: rest) (St MJ HJ) A e :=
  Zgo hi rfl hg (fun a' w ha hw => Zec (by
    obtain ⟨es, c, sn, y, rfl, rfl, g1, g2, g3, g4⟩ := hit.last
    simp only [execOp, ha.ev hx]
    have := run_entry_at (P := P) w r b c sn es c y (hw.own _ _ hr) (hw.own _ _ hb) g1 g2
    rw [g3, g4] at this
    exact Zfm this)) (fun a ha => ha.put hd _) hk
end
end Go.Esp
namespace Go.Esp
structure Hd where
  key : Plc
  cell : Cel
  deriving DecidableEq
def HeldV.pl (h : HeldV) : Hd := ⟨h.key, h.cell.pl⟩
def pls (l : List HeldV) : List Hd := l.map HeldV.pl
theorem Zdm (l : List HeldV) : (pls l).length = l.length := List.length_map ..
def StOk (s : List Hd) : Prop := (∀ h ∈ s, IsCel h.cell) ∧ s.Pairwise (fun x y => LessP x.key y.key)
instance (s : List Hd) : Decidable (StOk s) := by unfold StOk; exact inferInstance
def IsSt (s : List Hd) : Prop := s.length ≤ 2000 ∧ StOk s
instance (s : List Hd) : Decidable (IsSt s) := by unfold IsSt; exact inferInstance
theorem st_take {s : List Hd} {k : Nat} (hk : k < s.length) : StOk (s.take (k + 1)) ↔ StOk (s.take k) ∧ IsCel s[k].cell ∧ ∀ h : 0 < k, LessP (s[k - 1]'(by omega)).key s[k].key := by
  have e : s.take (k + 1) = s.take k ++ [s[k]] := by rw [List.take_add_one, List.getElem?_eq_getElem hk]; rfl
  rw [e]
  unfold StOk
  simp only [List.mem_append, List.mem_singleton, List.pairwise_append, List.pairwise_singleton]
  constructor
  · rintro ⟨h1, h2, _, h3⟩
    refine ⟨⟨fun m hm => h1 m (.inl hm), h2⟩, h1 _ (.inr rfl), fun h => h3 _ ?_ _ rfl⟩
    rw [List.mem_take_iff_getElem]
    exact ⟨k - 1, by omega, rfl⟩
  · rintro ⟨⟨h1, h2⟩, h3, h4⟩
    refine ⟨fun m hm => ?_, h2, trivial, fun m hm q hq => ?_⟩
    · rcases hm with hm | rfl
      · exact h1 m hm
      · exact h3
    · subst hq
      rw [List.mem_take_iff_getElem] at hm
      obtain ⟨j, hj, rfl⟩ := hm
      have hjk : j < k := by omega
      have hlast := h4 (by omega)
      rcases Nat.lt_or_ge j (k - 1) with h | h
      · have := (List.pairwise_iff_getElem.1 h2) j (k - 1) (by simp; omega) (by simp; omega) h
        simp only [List.getElem_take] at this
        exact Nat.lt_trans this hlast
      · have : j = k - 1 := by omega
        subst this; exact hlast
theorem st_pre {s : List Hd} (h : StOk s) (k : Nat) : StOk (s.take k) := ⟨fun m hm => h.1 m (List.mem_of_mem_take hm), h.2.sublist (List.take_sublist k s)⟩
theorem less_irr {a : Plc} : ¬ LessP a a := Nat.lt_irrefl _
theorem less_tri (a b : Plc) : LessP a b ∨ a = b ∨ LessP b a := by
  rcases Nat.lt_trichotomy a.toNat b.toNat with h | h | h
  · exact .inl h
  · exact .inr (.inl (BitVec.eq_of_toNat_eq h))
  · exact .inr (.inr h)
def findS (s : List Hd) (k : Plc) : Option Cel := (s.find? fun h => decide (h.key = k)).map Hd.cell
theorem findS_nil (k : Plc) : findS [] k = none := rfl
theorem Zfb (h : Hd) (s : List Hd) (k : Plc) : findS (h :: s) k = if h.key = k then some h.cell else findS s k := by
  unfold findS
  by_cases e : h.key = k
  · simp [e]
  · simp [e]
def findP (s : List Hd) (k : Plc) : Cel × Bool := match findS s k with
  | some c => (c, true)
  | none => (Cel.zero, false)
def findX (l : List HeldV) (k : Plc) : CellV × Bool := match l.find? fun h => decide (h.key = k) with
  | some h => (h.cell, true)
  | none => (CellV.zero, false)
def findXv (r : CellV × Bool) : Value := .tuple #[r.1.enc, .bool r.2]
theorem findX_pl (l : List HeldV) (k : Plc) : ((findX l k).1.pl, (findX l k).2) = findP (pls l) k := by
  unfold findX findP findS pls
  induction l with
  | nil => rfl
  | cons h l ih =>
    by_cases e : h.key = k
    · simp [HeldV.pl, e]
    · simpa [HeldV.pl, e] using ih
theorem findX_mem {l : List HeldV} {k : Plc} (h : (findX l k).2 = true) : ∃ x ∈ l, x.key = k ∧ x.cell = (findX l k).1 := by
  unfold findX at h ⊢
  split at h
  · rename_i x hx
    exact ⟨x, List.mem_of_find?_eq_some hx, by have := List.find?_some hx; simpa using this, rfl⟩
  · cases h
theorem findX_first {l : List HeldV} {c : Plc} {k : Nat} (hk : k < l.length) (h1 : ∀ j (h2 : j < l.length), j < k → ¬ l[j].key = c) (h3 : l[k].key = c) : findX l c = (l[k].cell, true) := by
  unfold findX
  rw [show (l.find? fun h => decide (h.key = c)) = some l[k] from List.find?_eq_some_iff_getElem.2 ⟨by simpa using h3, k, hk, rfl, fun j hj => by simpa using h1 j (by omega) hj⟩]
theorem findX_none {l : List HeldV} {c : Plc} (h : ∀ j (h2 : j < l.length), ¬ l[j].key = c) : findX l c = (CellV.zero, false) := by
  unfold findX
  rw [show (l.find? fun h => decide (h.key = c)) = none from List.find?_eq_none.2 (fun x hx => by
    obtain ⟨j, hj, rfl⟩ := List.getElem_of_mem hx
    simpa using h j hj)]
theorem findX_neg {l : List HeldV} {c : Plc} (h : idxF (fun x : HeldV => decide (x.key = c)) l < 0) : findX l c = (CellV.zero, false) := by
  refine findX_none fun j hj e => ?_
  unfold idxF at h
  rw [if_pos (List.any_eq_true.2 ⟨_, List.getElem_mem hj, by simpa using e⟩)] at h
  omega
theorem findX_at {l : List HeldV} {c : Plc} (h : ¬ idxF (fun x : HeldV => decide (x.key = c)) l < 0) : ∃ i : Nat, idxF (fun x : HeldV => decide (x.key = c)) l = (i : Int) ∧ ∃ hi : i < l.length, findX l c = (l[i].cell, true) := by
  unfold idxF at h ⊢
  split
  · rename_i ha
    refine ⟨_, rfl, List.findIdx_lt_length_of_exists (by simpa using ha), ?_⟩
    have hlt : l.findIdx (fun x : HeldV => decide (x.key = c)) < l.length := List.findIdx_lt_length_of_exists (by simpa using ha)
    refine findX_first hlt (fun j h2 hj => ?_) ?_
    · have := List.not_of_lt_findIdx hj; simpa using this
    · have := List.findIdx_getElem (w := hlt); simpa using this
  · rename_i ha
    rw [if_neg ha] at h; omega
theorem findS_none {s : List Hd} {k : Plc} : findS s k = none ↔ ∀ h ∈ s, h.key ≠ k := by
  unfold findS
  simp [List.find?_eq_none]
theorem findS_some {s : List Hd} {k : Plc} {c : Cel} (h : findS s k = some c) : ⟨k, c⟩ ∈ s := by
  unfold findS at h
  obtain ⟨x, hx, rfl⟩ := Option.map_eq_some_iff.1 h
  have h1 := List.mem_of_find?_eq_some hx
  have h2 : x.key = k := by have := List.find?_some hx; simpa using this
  subst h2; exact h1
theorem keys_nodup {s : List Hd} (h : s.Pairwise (fun x y => LessP x.key y.key)) : (s.map Hd.key).Nodup := by
  rw [List.Nodup, List.pairwise_map]
  exact h.imp fun hl e => by rw [e] at hl; exact less_irr hl
theorem findS_mem {s : List Hd} (hn : (s.map Hd.key).Nodup) {x : Hd} (hx : x ∈ s) : findS s x.key = some x.cell := by
  induction s with
  | nil => cases hx
  | cons h s ih =>
    rw [Zfb]
    simp only [List.map_cons, List.nodup_cons] at hn
    rcases List.mem_cons.1 hx with rfl | hx
    · rw [if_pos rfl]
    · rw [if_neg (fun e => hn.1 (by rw [e]; exact List.mem_map_of_mem hx))]
      exact ih hn.2 hx
def withS : List Hd → Plc → Cel → List Hd
  | [], k, c => [⟨k, c⟩]
  | h :: r, k, c => if LessP h.key k then h :: withS r k c else if h.key = k then ⟨k, c⟩ :: r else ⟨k, c⟩ :: h :: r
theorem withS_mem {s : List Hd} {k : Plc} {c : Cel} : ∀ {x : Hd}, x ∈ withS s k c → x = ⟨k, c⟩ ∨ x ∈ s := by
  induction s with
  | nil => intro x hx; simp [withS] at hx; exact .inl hx
  | cons h s ih =>
    intro x hx
    unfold withS at hx
    split at hx
    · rcases List.mem_cons.1 hx with rfl | hx
      · exact .inr (.head _)
      · rcases ih hx with h1 | h1
        · exact .inl h1
        · exact .inr (.tail _ h1)
    · split at hx
      · rcases List.mem_cons.1 hx with h1 | h1
        · exact .inl h1
        · exact .inr (.tail _ h1)
      · rcases List.mem_cons.1 hx with h1 | h1
        · exact .inl h1
        · exact .inr h1
theorem withS_ok {s : List Hd} (h : StOk s) {k : Plc} {c : Cel} (hc : IsCel c) : StOk (withS s k c) := by
  refine ⟨fun x hx => ?_, ?_⟩
  · rcases withS_mem hx with rfl | hx
    · exact hc
    · exact h.1 x hx
  · have hp := h.2
    clear h
    induction s with
    | nil => exact List.pairwise_singleton _ _
    | cons h s ih =>
      have h1 := List.pairwise_cons.1 hp
      unfold withS
      split
      · rename_i hl
        refine List.pairwise_cons.2 ⟨fun x hx => ?_, ih h1.2⟩
        rcases withS_mem hx with rfl | hx
        · exact hl
        · exact h1.1 x hx
      · rename_i hl
        split
        · rename_i he
          exact List.pairwise_cons.2 ⟨fun x hx => by rw [← he]; exact h1.1 x hx, h1.2⟩
        · rename_i he
          have hk : LessP k h.key := by
            rcases less_tri h.key k with g | g | g
            · exact absurd g hl
            · exact absurd g he
            · exact g
          refine List.pairwise_cons.2 ⟨fun x hx => ?_, hp⟩
          rcases List.mem_cons.1 hx with rfl | hx
          · exact hk
          · exact Nat.lt_trans hk (h1.1 x hx)
theorem findS_with {s : List Hd} (hs : s.Pairwise (fun x y => LessP x.key y.key)) (k : Plc) (c : Cel) (q : Plc) : findS (withS s k c) q = if q = k then some c else findS s q := by
  induction s with
  | nil =>
    unfold withS
    rw [Zfb, findS_nil]
    by_cases e : q = k
    · subst e; simp
    · rw [if_neg (fun h => e h.symm), if_neg e]
  | cons h s ih =>
    have h1 := List.pairwise_cons.1 hs
    unfold withS
    split
    · rename_i hl
      rw [Zfb, Zfb, ih h1.2]
      by_cases e : h.key = q
      · rw [if_pos e, if_pos e, if_neg (fun e2 => by rw [e, e2] at hl; exact less_irr hl)]
      · rw [if_neg e, if_neg e]
    · rename_i hl
      split
      · rename_i he
        rw [Zfb, Zfb]
        by_cases e : q = k
        · subst e; simp
        · rw [if_neg (fun h => e h.symm), if_neg e, if_neg (fun h2 => e (by rw [← h2, he]))]
      · rename_i he
        rw [Zfb]
        by_cases e : q = k
        · subst e; simp
        · rw [if_neg (fun h => e h.symm), if_neg e]
theorem withS_at {s : List Hd} {k : Plc} {c : Cel} : ∀ {a : Nat}, a ≤ s.length → (∀ j (h : j < s.length), j < a → LessP s[j].key k) → (∀ h : a < s.length, ¬ LessP s[a].key k) →
    withS s k c = s.take a ++ ⟨k, c⟩ :: s.drop (if (s[a]?).map Hd.key = some k then a + 1 else a) := by
  induction s with
  | nil =>
    intro a ha _ _
    obtain rfl : a = 0 := by simpa using ha
    simp [withS]
  | cons h s ih =>
    intro a ha h1 h2
    cases a with
    | zero =>
      have h3 := h2 (by simp)
      simp only [List.getElem_cons_zero] at h3
      unfold withS
      rw [if_neg h3]
      by_cases e : h.key = k
      · rw [if_pos e]; simp [e]
      · rw [if_neg e]; simp [e]
    | succ a =>
      have h3 := h1 0 (by simp) (by omega)
      simp only [List.getElem_cons_zero] at h3
      unfold withS
      rw [if_pos h3, ih (by simpa using ha) (fun j hj hja => h1 (j + 1) (by simpa using hj) (by omega)) (fun hj => h2 (by simpa using hj))]
      simp only [List.getElem?_cons_succ, List.take_succ_cons, List.cons_append]
      split <;> simp
theorem withS_end {s : List Hd} {k : Plc} {c : Cel} (h : ∀ x ∈ s, LessP x.key k) : withS s k c = s ++ [⟨k, c⟩] := by
  induction s with
  | nil => rfl
  | cons x s ih =>
    unfold withS
    rw [if_pos (h x (.head _)), ih (fun y hy => h y (.tail _ hy))]
    rfl
def blendS (two : Cel → Cel → Cel) (s : List Hd) (h : Hd) : List Hd := withS s h.key (match findS s h.key with
  | some c => two c h.cell
  | none => h.cell)
def lastT (a b : Cel) : Cel := b
def mergedT (a b : Cel) : Cel := (mergeR a b).1
def Keeps2 (two : Cel → Cel → Cel) : Prop := ∀ a b, IsCel a → IsCel b → IsCel (two a b)
theorem lastT_keeps : Keeps2 lastT := fun _ _ _ hb => hb
theorem blendS_ok {two : Cel → Cel → Cel} (ht : Keeps2 two) {s : List Hd} (h : StOk s) {x : Hd} (hx : IsCel x.cell) : StOk (blendS two s x) := by
  refine withS_ok h ?_
  split
  · rename_i c hc; exact ht _ _ (h.1 _ (findS_some hc)) hx
  · exact hx
theorem foldB_ok {two : Cel → Cel → Cel} (ht : Keeps2 two) : ∀ {l s : List Hd}, StOk s → (∀ x ∈ l, IsCel x.cell) → StOk (l.foldl (blendS two) s)
  | [], s, h, _ => h
  | x :: l, s, h, hl => by
    rw [List.foldl_cons]
    exact foldB_ok ht (blendS_ok ht h (hl x (.head _))) fun y hy => hl y (.tail _ hy)
theorem foldB_step {two : Cel → Cel → Cel} {l s : List Hd} {k : Nat} (hk : k < l.length) : (l.take (k + 1)).foldl (blendS two) s = blendS two ((l.take k).foldl (blendS two) s) l[k] := by
  rw [List.take_add_one, List.getElem?_eq_getElem hk, List.foldl_append]; rfl
theorem foldB_self {two : Cel → Cel → Cel} : ∀ {l s : List Hd}, (s ++ l).Pairwise (fun x y => LessP x.key y.key) → l.foldl (blendS two) s = s ++ l
  | [], s, _ => by simp
  | x :: l, s, h => by
    have h1 := List.pairwise_append.1 h
    have hx : ∀ y ∈ s, LessP y.key x.key := fun y hy => h1.2.2 y hy x (.head _)
    have hb : blendS two s x = s ++ [x] := by
      unfold blendS
      rw [withS_end hx, (findS_none).2 (fun y hy e => by have := hx y hy; rw [e] at this; exact less_irr this)]
    rw [List.foldl_cons, hb, foldB_self (by simpa using h)]
    simp
theorem foldB_nil {two : Cel → Cel → Cel} {l : List Hd} (h : StOk l) : l.foldl (blendS two) [] = l := by
  rw [foldB_self (by simpa using h.2)]; rfl
def putR (s : List Hd) (k : Plc) (c : Cel) : List Hd × Int := if IsSt s ∧ IsCel c then (if 2000 < (withS s k c).length then ([], 12) else (withS s k c, 0)) else ([], 1)
def blendR (s t : List Hd) : List Hd × Int := if IsSt s ∧ IsSt t then (if 2000 < (t.foldl (blendS mergedT) s).length then ([], 12) else (t.foldl (blendS mergedT) s, 0)) else ([], 1)
theorem sorted_eq : ∀ {a b : List Hd}, a.Perm b → a.Pairwise (fun x y => LessP x.key y.key) → b.Pairwise (fun x y => LessP x.key y.key) → a = b
  | [], b, hp, _, _ => (List.nil_perm.1 hp).symm
  | x :: a, [], hp, _, _ => absurd (List.perm_nil.1 hp) (by simp)
  | x :: a, y :: b, hp, ha, hb => by
    have h1 := List.pairwise_cons.1 ha
    have h2 := List.pairwise_cons.1 hb
    have e : x = y := by
      rcases List.mem_cons.1 (hp.mem_iff.1 (.head _)) with e | hx
      · exact e
      · rcases List.mem_cons.1 (hp.mem_iff.2 (.head _)) with e | hy
        · exact e.symm
        · exact absurd (Nat.lt_trans (h2.1 x hx) (h1.1 y hy)) (Nat.lt_irrefl _)
    subst e
    rw [sorted_eq ((List.perm_cons x).1 hp) h1.2 h2.2]
def mpl (m : PM CellV) : List Hd := m.map fun p => ⟨p.1, p.2.pl⟩
theorem mpl_get {m : PM CellV} {k : Plc} : (pmGet m k).map CellV.pl = findS (mpl m) k := by
  induction m with
  | nil => rfl
  | cons p m ih =>
    obtain ⟨j, v⟩ := p
    show _ = findS (⟨j, v.pl⟩ :: mpl m) k
    rw [Zfb]
    unfold pmGet
    by_cases e : k = j
    · subst e; simp
    · rw [if_neg e, if_neg (fun h => e h.symm)]; exact ih
theorem findS_perm {a b : List Hd} (hp : a.Perm b) (hn : (a.map Hd.key).Nodup) (k : Plc) : findS a k = findS b k := by
  have hb : (b.map Hd.key).Nodup := (hp.map _).nodup_iff.1 hn
  cases h : findS b k with
  | none => exact findS_none.2 fun x hx => findS_none.1 h x (hp.mem_iff.1 hx)
  | some c => exact findS_mem hn (x := ⟨k, c⟩) (hp.mem_iff.2 (findS_some h))
theorem mpl_put_keys {m : PM CellV} {k : Plc} {c : CellV} (hn : ((mpl m).map Hd.key).Nodup) : ((mpl (pmPut m k c)).map Hd.key).Nodup ∧ ∀ x, x ∈ (mpl (pmPut m k c)).map Hd.key ↔ x = k ∨ x ∈ (mpl m).map Hd.key := by
  induction m with
  | nil => simp [pmPut, mpl]
  | cons p m ih =>
    obtain ⟨j, v⟩ := p
    have hn' : j ∉ (mpl m).map Hd.key ∧ ((mpl m).map Hd.key).Nodup := by simpa [mpl] using hn
    obtain ⟨g1, g2⟩ := ih hn'.2
    unfold pmPut
    by_cases e : k = j
    · subst e
      rw [if_pos rfl]
      exact ⟨by simpa [mpl] using hn, fun x => by simp [mpl]⟩
    · rw [if_neg e]
      refine ⟨?_, fun x => ?_⟩
      · show (j :: (mpl (pmPut m k c)).map Hd.key).Nodup
        rw [List.nodup_cons]
        exact ⟨fun h => by rcases (g2 j).1 h with h | h; exact e h.symm; exact hn'.1 h, g1⟩
      · show x ∈ j :: (mpl (pmPut m k c)).map Hd.key ↔ x = k ∨ x ∈ j :: (mpl m).map Hd.key
        rw [List.mem_cons, List.mem_cons, g2 x]
        constructor
        · rintro (h | h | h)
          · exact .inr (.inl h)
          · exact .inl h
          · exact .inr (.inr h)
        · rintro (h | h | h)
          · exact .inr (.inl h)
          · exact .inl h
          · exact .inr (.inr h)
theorem mpl_find_put {m : PM CellV} {k q : Plc} {c : CellV} : findS (mpl (pmPut m k c)) q = if q = k then some c.pl else findS (mpl m) q := by
  induction m with
  | nil =>
    show findS [⟨k, c.pl⟩] q = _
    rw [Zfb]
    by_cases e : q = k
    · subst e; simp
    · rw [if_neg (fun h => e h.symm), if_neg e]; rfl
  | cons p m ih =>
    obtain ⟨j, v⟩ := p
    unfold pmPut
    by_cases e : k = j
    · subst e
      rw [if_pos rfl]
      show findS (⟨k, c.pl⟩ :: mpl m) q = if q = k then _ else findS (⟨k, v.pl⟩ :: mpl m) q
      rw [Zfb, Zfb]
      by_cases e2 : q = k
      · subst e2; simp
      · rw [if_neg (fun h => e2 h.symm), if_neg e2, if_neg (fun h => e2 h.symm)]
    · rw [if_neg e]
      show findS (⟨j, v.pl⟩ :: mpl (pmPut m k c)) q = if q = k then _ else findS (⟨j, v.pl⟩ :: mpl m) q
      rw [Zfb, Zfb, ih]
      by_cases e2 : j = q
      · rw [if_pos e2, if_pos e2, if_neg (fun h => e (by rw [← h, e2]))]
      · rw [if_neg e2, if_neg e2]
theorem perm_of_find {a b : List Hd} (ha : (a.map Hd.key).Nodup) (hb : (b.map Hd.key).Nodup) (h : ∀ q, findS a q = findS b q) : a.Perm b := by
  have na : a.Nodup := (List.pairwise_map.1 ha).imp fun hne e => hne (by rw [e])
  have nb : b.Nodup := (List.pairwise_map.1 hb).imp fun hne e => hne (by rw [e])
  refine (List.perm_ext_iff_of_nodup na nb).2 fun x => ?_
  constructor
  · intro hx
    have h1 := findS_mem ha hx
    rw [h] at h1
    exact findS_some h1
  · intro hx
    have h1 := findS_mem hb hx
    rw [← h] at h1
    exact findS_some h1
theorem mpl_put {m : PM CellV} {s : List Hd} (hs : s.Pairwise (fun x y => LessP x.key y.key)) (hp : (mpl m).Perm s) {k : Plc} {c : CellV} (hc : StOk (withS s k c.pl)) : (mpl (pmPut m k c)).Perm (withS s k c.pl) := by
  have hn : ((mpl m).map Hd.key).Nodup := (hp.map _).nodup_iff.2 (keys_nodup hs)
  refine perm_of_find (mpl_put_keys hn).1 (keys_nodup hc.2) fun q => ?_
  rw [mpl_find_put, findS_with hs, findS_perm hp hn]
def lessH (a b : HeldV) : Int := if LessP a.key b.key then -1 else 1
def ofS (two : Cel → Cel → Cel) (all : List (List Hd)) : List Hd := all.flatten.foldl (blendS two) []
theorem ofS_step {two : Cel → Cel → Cel} {all : List (List Hd)} {k : Nat} (hk : k < all.length) : ofS two (all.take (k + 1)) = all[k].foldl (blendS two) (ofS two (all.take k)) := by
  unfold ofS
  rw [List.take_add_one, List.getElem?_eq_getElem hk, List.flatten_append, List.foldl_append]
  simp
theorem ofS_ok {two : Cel → Cel → Cel} (ht : Keeps2 two) {all : List (List Hd)} (h : ∀ s ∈ all, ∀ x ∈ s, IsCel x.cell) : StOk (ofS two all) := by
  refine foldB_ok ht ⟨fun x hx => (by cases hx), .nil⟩ fun x hx => ?_
  obtain ⟨s, hs, hxs⟩ := List.mem_flatten.1 hx
  exact h s hs x hxs
def TwoOk (P : Program) (g : FuncId) (two : Cel → Cel → Cel) : Prop := ∀ (M : Mem) (a b : CellV), CellV.ok M a → CellV.ok M b → Fn P g [a.enc, b.enc] M (fun M' v => ∃ c : CellV, v = c.enc ∧ c.pl = two a.pl b.pl ∧ CellV.ok M' c)
theorem blend_map {two : Cel → Cel → Cel} (ht : Keeps2 two) {m : PM CellV} {s : List Hd} {k : Plc} {c c' : CellV} (hs : StOk s) (hp : (mpl m).Perm s) (hc : IsCel c.pl) (he : c'.pl = match findS (mpl m) k with | some x => two x c.pl | none => c.pl) : (mpl (pmPut m k c')).Perm (blendS two s ⟨k, c.pl⟩) := by
  have hn : ((mpl m).map Hd.key).Nodup := (hp.map _).nodup_iff.2 (keys_nodup hs.2)
  rw [findS_perm hp hn] at he
  have hb := blendS_ok ht hs (x := ⟨k, c.pl⟩) hc
  unfold blendS at hb ⊢
  simp only at hb ⊢
  have hb' : StOk (withS s k c'.pl) := by rw [he]; exact hb
  have := mpl_put hs.2 hp (c := c') hb'
  rw [he] at this
  exact this
theorem put_mem {α : Type} {m : PM α} {k : Plc} {c : α} {p : Plc × α} (h : p ∈ pmPut m k c) : p = (k, c) ∨ p ∈ m := by
  induction m with
  | nil => simp [pmPut] at h; exact .inl h
  | cons q m ih =>
    obtain ⟨j, v⟩ := q
    unfold pmPut at h
    split at h
    · rename_i e; subst e
      rcases List.mem_cons.1 h with h1 | h1
      · exact .inl h1
      · exact .inr (.tail _ h1)
    · rcases List.mem_cons.1 h with h1 | h1
      · exact .inr (h1 ▸ .head _)
      · rcases ih h1 with h2 | h2
        · exact .inl h2
        · exact .inr (.tail _ h2)
def mkH (p : Plc × CellV) : HeldV := ⟨p.1, p.2⟩
theorem mkH_pl (l : PM CellV) : pls (l.map mkH) = mpl l := by unfold pls mpl; rw [List.map_map]; rfl
theorem row_sorted {l : List HeldV} {S : List Hd} (h : l.Pairwise (fun x y => ¬ lessH y x < 0)) (hp : (pls l).Perm S) (hS : S.Pairwise (fun x y => LessP x.key y.key)) : pls l = S := by
  refine sorted_eq hp ?_ hS
  have hn : ((pls l).map Hd.key).Nodup := (hp.map _).nodup_iff.2 (keys_nodup hS)
  rw [List.pairwise_iff_getElem]
  intro i j hi hj hij
  have hi' : i < l.length := by rw [Zdm] at hi; exact hi
  have hj' : j < l.length := by rw [Zdm] at hj; exact hj
  have h1 := (List.pairwise_iff_getElem.1 h) i j hi' hj' hij
  have h2 := (List.pairwise_iff_getElem.1 hn) i j (by simpa using hi) (by simpa using hj) hij
  simp only [List.getElem_map] at h2
  have e1 : (pls l)[i] = HeldV.pl l[i] := by simp [pls]
  have e2 : (pls l)[j] = HeldV.pl l[j] := by simp [pls]
  rw [e1, e2] at h2 ⊢
  rcases less_tri (HeldV.pl l[i]).key (HeldV.pl l[j]).key with h3 | h3 | h3
  · exact h3
  · exact absurd h3 h2
  · exfalso
    apply h1
    unfold lessH
    rw [if_pos (show LessP l[j].key l[i].key from h3)]
    decide
def fullR (S : List Hd) : List Hd × Int := if 2000 < S.length then ([], 12) else (S, 0)
def StE (M : Mem) (v : Value) (r : List Hd × Int) : Prop := ∃ s : Sl HeldV, v = .tuple #[s.val, .int .i64 r.2] ∧ pls s.l = r.1 ∧ SlK M HeldV.segs 24 s ∧ ∀ h ∈ s.l, HeldV.ok M h
theorem StE.nil {M : Mem} {e : Int} : StE M (.tuple #[.slice none 0 0, .int .i64 e]) ([], e) := ⟨⟨none, 0, []⟩, rfl, rfl, SlK.nil, fun h hh => by cases hh⟩
theorem put_of {s : List Hd} (h : StOk s) (k : Plc) (c : Cel) : ofS lastT [s, [⟨k, c⟩]] = withS s k c := by
  unfold ofS
  simp only [List.flatten_cons, List.flatten_nil, List.append_nil, List.foldl_append]
  rw [foldB_nil h]
  show blendS lastT s ⟨k, c⟩ = _
  unfold blendS lastT
  cases findS s k <;> rfl
theorem putR_yes {s : List Hd} {k : Plc} {c : Cel} (h : IsSt s) (hc : IsCel c) : putR s k c = fullR (ofS lastT [s, [⟨k, c⟩]]) := by
  rw [put_of h.2]; exact if_pos ⟨h, hc⟩
theorem withS_eqV {l : List HeldV} {key : Plc} {c : CellV} {a : Nat} (ha : a < l.length) (h1 : ∀ j (h : j < l.length), j < a → LessP l[j].key key) (he : l[a].key = key) : withS (pls l) key c.pl = pls (l.take a ++ ⟨key, c⟩ :: l.drop (a + 1)) := by
  have g : (pls l)[a]? = some (HeldV.pl l[a]) := by simp [pls, ha]
  rw [withS_at (a := a) (by rw [Zdm]; omega) (fun j hj hja => by
    rw [Zdm] at hj
    have e : (pls l)[j] = HeldV.pl l[j] := by simp [pls]
    rw [e]; exact h1 j hj hja) (fun hj => by
    have e : (pls l)[a] = HeldV.pl l[a] := by simp [pls]
    rw [e]; show ¬ LessP l[a].key key; rw [he]; exact less_irr), g, if_pos (by show some (HeldV.pl l[a]).key = some key; exact congrArg some he)]
  unfold pls; rw [List.map_append, List.map_cons, List.map_take, List.map_drop]; rfl
theorem withS_neV {l : List HeldV} {key : Plc} {c : CellV} {a : Nat} (ha : a ≤ l.length) (h1 : ∀ j (h : j < l.length), j < a → LessP l[j].key key) (h2 : ∀ h : a < l.length, ¬ LessP l[a].key key) (he : ∀ h : a < l.length, l[a].key ≠ key) : withS (pls l) key c.pl = pls (l.take a ++ ⟨key, c⟩ :: l.drop a) := by
  rw [withS_at (a := a) (by rw [Zdm]; omega) (fun j hj hja => by
    rw [Zdm] at hj
    have e : (pls l)[j] = HeldV.pl l[j] := by simp [pls]
    rw [e]; exact h1 j hj hja) (fun hj => by
    rw [Zdm] at hj
    have e : (pls l)[a] = HeldV.pl l[a] := by simp [pls]
    rw [e]; exact h2 hj), if_neg (by
    intro hc
    obtain ⟨x, hx, hk⟩ := Option.map_eq_some_iff.1 hc
    obtain ⟨hlt, hx⟩ := List.getElem?_eq_some_iff.1 hx
    rw [Zdm] at hlt
    have e : (pls l)[a] = HeldV.pl l[a] := by simp [pls]
    rw [e] at hx
    subst hx
    exact he hlt hk)]
  unfold pls; rw [List.map_append, List.map_cons, List.map_take, List.map_drop]; rfl
theorem findX_S {l : List HeldV} {k : Plc} {x : CellV} {b : Bool} (h : findX l k = (x, b)) : findS (pls l) k = if b then some x.pl else none := by
  have h1 := findX_pl l k
  rw [h] at h1
  unfold findP at h1
  cases h2 : findS (pls l) k with
  | none => rw [h2] at h1; simp only [Prod.mk.injEq] at h1; rw [h1.2]; rfl
  | some c => rw [h2] at h1; simp only [Prod.mk.injEq] at h1; rw [h1.2, h1.1]; rfl
end Go.Esp
namespace Go.Proofs.YtpkeilhilpogiaaGreat
open Go.Esp
theorem F.elem23 : slOf Tryz.prog 23 = some (60, 24, 80) := by kernel_rfl
theorem F.foff60_0 : foff Tryz.prog 60 0 = some 0 := by kernel_rfl
theorem F.foff60_1 : foff Tryz.prog 60 1 = some 20 := by kernel_rfl
theorem F.guard29 : Tryz.prog.eqGuardType Tryz.prog.depth 29 = false := by kernel_rfl
theorem F.kinds29 : kindsOf Tryz.prog 20 29 = some [.i .u8, .i .u8, .i .u8, .i .u8, .i .u8, .i .u8, .i .u8, .i .u8, .i .u8, .i .u8, .i .u8, .i .u8, .i .u8, .i .u8, .i .u8, .i .u8, .i .u8, .i .u8, .i .u8, .i .u8] := by kernel_rfl
theorem F.lay60 : lay Tryz.prog 60 = some (true, 24) := by kernel_rfl
theorem F.ok48 : okFn Tryz.prog 48 = true := by kernel_rfl
theorem F.ok49 : okFn Tryz.prog 49 = true := by kernel_rfl
theorem F.zero60 : zeroOf Tryz.prog 60 = some (aggV [idSeg 0, .one (.int .u64 0), .one (.bool false), .one (.string ⟨#[]⟩), .one (.slice none 0 0)]) := by rw [idSeg0]; kernel_rfl
theorem IndexFH_rd (M : Mem) (Hin : Hp) (l : Sl HeldV) (g : FuncId) (caps : List Value) (p : HeldV → Bool) (hl : RdS M Hin l.a (l.l.map HeldV.segs) 24) (bl : l.l.length ≤ 9223372036854775807) (hok : okFn Tryz.prog g = true) (hc : ∀ x ∈ l.l, Fo Tryz.prog g ([x.enc] ++ caps) M Hin (fun M' v => M' = M ∧ v = .bool (p x))) : Fo Tryz.prog 48 [l.val, .func (.func g) #[] caps.toArray] M Hin (fun M' v => M' = M ∧ v = .int .i64 (idxF p l.l)) := by
  have nl : (l.l.map HeldV.segs).length = l.l.length := List.length_map ..
  refine Zfq Tryz.func48 rfl Tryz.ntmps48 rfl ?_; intro H
  have hrd := hl.app H
  refine Zj ?_; refine Za (l := [0]) rfl ?_; refine Zd ?_; refine Ze ?_; refine Zc ?_
  iterate 2 refine Zj ?_
  refine Za (l := [0, 1, 2]) rfl ?_; refine Zf ?_; refine Zbb F.elem23 ?_; refine Zf ?_; refine Ze ?_; refine Zc ?_; refine Y_pk [8, 7, 4, 0, 1] ?_; refine Zbe ?_; refine Y_pk [8, 7, 4, 0, 1] ?_; refine Zed (.succ .zero) (fun (k : Nat) z => z = [(8, .int .i64 (k : Int))] ∧ k ≤ l.l.length ∧ (∀ j (h : j < k) (h2 : j < l.l.length), p l.l[j] = false)) (fun k => l.l.length - k) (0) (⟨rfl, by omega, by (intro j hj; omega)⟩) ?_
  rintro k _ ⟨rfl, hk, hI⟩
  refine Zj ?_; refine Za (l := [0]) rfl ?_; refine Zav ?_; refine Ze ?_; refine Zc ?_; refine Zj ?_
  refine Zau rfl (fun hc1 => ?_) (fun hc1 => ?_)
  ·skip
   replace hc1 := dT hc1
   refine Zax ?_; refine Zc ?_; refine Zj ?_; refine Zbe ?_; refine Zj ?_; refine Za (l := [0, 1]) rfl ?_; refine Zf ?_; refine Zd ?_; refine Ze ?_; refine Zc ?_; refine Zj ?_; refine Za (l := [0, 1, 2, 3, 4, 5]) rfl ?_
   iterate 3 refine Zf ?_
   refine Zaa rfl rfl rfl rfl F.elem23 (by rfl) (by omega) (by exact RdS.plain (by assumption) (by (simp; omega))) rfl ?_; refine X_load_rd rfl rfl rfl (by assumption) (by exact Zbl (by omega)) F.lay60 rfl rfl rfl ?_; refine X_foV rfl rfl rfl hok rfl rfl (hc _ (List.getElem_mem (n := k) (by omega))) (Rem.here _) (Zbq rfl) ?_
   rintro _ M1 _ ⟨hM1, rfl⟩; subst M1
   refine Ze ?_; refine Zc ?_
   refine Zau rfl (fun hc2 => ?_) (fun hc2 => ?_)
   ·skip
    have hP := hc2
    refine Zj ?_; refine Za (l := [0, 1]) rfl ?_; refine Zf ?_; refine Zd ?_; refine Ze ?_; refine Zc ?_; refine Zak ?_; refine Zbj ?_
    iterate 2 refine Zba ?_
    refine Zbj ?_; refine Zba ?_
    refine Zaj (.inr rfl) (.tmp rfl .nil) (fun w hw => ?_)
    refine ⟨_, M, rfl, Mem.le.refl M, hw.c, rfl, ?_⟩
    refine congrArg (Value.int .i64) ?_
    exact (idxF_at (by omega) (fun j hj => hI j hj _) hP).symm
   ·skip
    have hP := hc2
    refine Zax ?_; refine Zde ?_; refine Zc ?_; refine Za (l := [0, 1]) rfl ?_; refine Zcc rfl rfl rfl rfl rfl (by exact Zbf (by decide) (by omega)) rfl ?_; refine Zf ?_; refine Ze ?_; refine Zda (a' := [(8, _)]) (k + 1) (.cons (k := 8) rfl (.cons (k := 7) rfl (.cons (k := 4) rfl (.cons (k := 0) rfl (.cons (k := 1) rfl (.nil)))))) (fun w hw => by first | exact hw | exact hw.c) ?_ ?_
    ·refine ⟨rfl, by omega, ?_⟩
     (intro j hj hj2; rcases Nat.lt_or_ge j k with h9 | h9; exact hI j h9 hj2; obtain rfl : j = k := (by omega); simp_all)
    ·omega
  ·skip
   replace hc1 := dF hc1
   refine Zcm ?_
   iterate 2 refine Zcd ?_
   refine Zdl ?_; refine Zc ?_; refine Y_pk [4] ?_; refine Zj ?_; refine Za (l := [0]) rfl ?_; refine Zd ?_; refine Ze ?_; refine Zc ?_; refine Zak ?_
   refine Zaj (.inr rfl) (.tmp rfl .nil) (fun w hw => ?_)
   refine ⟨_, M, rfl, Mem.le.refl M, hw.c, rfl, ?_⟩
   refine congrArg (Value.int .i64) ?_
   exact (idxF_none (fun j hj => hI j (by omega) hj)).symm
theorem findc_ok (M : Mem) (b : Nat) (key : Plc) (x : HeldV) : Fo Tryz.prog 49 ([x.enc] ++ [.pointer (some ⟨b, 0, none⟩)]) M [(b, rowO [idSeg key] 29)] (fun M' v => M' = M ∧ v = .bool (decide (x.key = key))) := by
  obtain ⟨Zgp, ⟨x_version, x_has, x_val, ⟨x_a, x_c, x_l⟩⟩⟩ := x
  refine Zfq Tryz.func49 rfl Tryz.ntmps49 rfl ?_; intro H
  refine Zj ?_; refine Za (l := [0, 1]) rfl ?_
  refine Zcz ?_; intro b1
  refine Zd ?_; refine Ze ?_; refine Zc ?_; refine Y_pk [3, 2, 1] ?_; refine Zj ?_; refine Za (l := [0, 1, 2, 3, 4]) rfl ?_; refine Zb F.foff60_0 ?_
  iterate 2 refine Zi F.lay29 ?_
  refine Zfx (m := 20) rfl rfl rfl rfl rfl (by constructor) (by constructor) F.lay29 F.kinds29 rfl F.guard29 (Zga Zez) (Zga Zez) rfl rfl rfl ?_; intro c2 he3
  replace he3 : c2 = true ↔ Segs.cells _ = Segs.cells _ := he3
  obtain rfl := eqD he3 (Zfu (x := _) (y := _)); clear he3
  refine Zd ?_; refine Ze ?_; refine Zc ?_; refine Y_pk [3] ?_; refine Zak ?_
  refine Zaj (.inr rfl) (.tmp rfl .nil) (fun w hw => ?_)
  refine ⟨_, M, rfl, Mem.le.refl M, hw.c, rfl, ?_⟩
  clear hw
  rfl
theorem Find_ok (M : Mem) (s : (Sl HeldV)) (key : Plc) (hs0 : SlK M HeldV.segs 24 s) (hs1 : ∀ y ∈ (s).l, HeldV.ok M y) : Fs Tryz.prog 19 [Sl.val s, aggV [idSeg key]] M (fun v => v =  (findXv (findX s.l key))) := by
  obtain ⟨s_a, s_c, s_l⟩ := s
  have k_s : SlK M HeldV.segs 24 ⟨s_a, s_c, s_l⟩ := hs0
  have s_s : SlM M s_a (s_l.map HeldV.segs) 24 := k_s.h1
  have n_s : (s_l.map HeldV.segs).length = s_l.length := List.length_map ..
  have m_s : s_l.length ≤ 9223372036854775807 := k_s.h2
  have c_s : s_l.length ≤ s_c := k_s.h3
  have l_s : ∀ y ∈ s_l, HeldV.ok M y := hs1
  refine Zci Tryz.func19 rfl Tryz.ntmps19 rfl ?_; intro H
  refine Zj ?_; refine Za (l := [0, 1, 2]) rfl ?_
  refine Zcz ?_; intro b1
  refine Zby F.zero37 ?_; intro b2
  refine Zd ?_; refine Ze ?_; refine Zc ?_; refine Y_pk [5, 4, 3, 0] ?_; refine Zj ?_; refine Za (l := [0, 1, 2, 3]) rfl ?_; refine Zf ?_; refine X_makeFunc rfl rfl rfl rfl rfl ?_; refine X_fo rfl rfl F.ok48 rfl (IndexFH_rd _ [(b1, _)] ⟨_, _, _⟩ 49 [_] (fun x => decide (x.key = key)) (s_s.rd _) m_s F.ok49 (fun x hx => findc_ok M _ key x)) (by repeat first | exact Rem.here _ | exact Rem.two | apply Rem.skip | apply Rem.over) (Zbq rfl) ?_
  rintro _ M1 _ ⟨hM1, rfl⟩; subst M1
  refine Zd ?_; refine Ze ?_; refine Zc ?_; refine Y_pk [6, 5, 4, 0] ?_
  iterate 2 refine Zj ?_
  refine Za (l := [0, 1]) rfl ?_; refine Zf ?_; refine Zav ?_; refine Ze ?_; refine Zc ?_; refine Y_pk [11, 6, 5, 4, 0] ?_
  refine Zau rfl (fun hc3 => ?_) (fun hc3 => ?_)
  ·replace hc3 := dT hc3
   simp only [AnswerV.eta, MarkV.eta, CellV.eta, HeldV.eta, WaitV.eta, ServerV.eta, PeerV.eta, OpV.eta, ParcelV.eta, PostV.eta, WorkerV.eta] at hc3
   refine Zj ?_; refine Za (l := [0, 1, 2]) rfl ?_; refine Zbv rfl rfl F.bld37 (.nil) rfl rfl ?_; refine Zas F.lay37 ?_; refine Zd ?_; refine Ze ?_; refine Zc ?_; refine Y_pk [5, 6, 4, 0] ?_; refine Zak ?_; refine Zba ?_
   refine Zaj (.inr rfl) (.cell rfl (by repeat first | exact List.Mem.head _ | refine List.Mem.tail _ ?_ | refine List.mem_append_right _ ?_) F.lay37 rfl rfl (.tmp rfl .nil)) (fun w hw => ?_)
   refine ⟨_, rfl, (hw.c), ?_⟩
   clear hw
   rw [findX_neg (by assumption)]
   rfl
  ·replace hc3 := dF hc3
   simp only [AnswerV.eta, MarkV.eta, CellV.eta, HeldV.eta, WaitV.eta, ServerV.eta, PeerV.eta, OpV.eta, ParcelV.eta, PostV.eta, WorkerV.eta] at hc3
   refine Zax ?_; refine Zc ?_; refine Y_pk [6, 5, 4, 0] ?_; refine Zj ?_
   obtain ⟨i9, hi9, hil, hfx⟩ := findX_at (by assumption)
   rw [hi9]
   refine Za (l := [0, 1, 2, 3, 4, 5, 6]) rfl ?_
   iterate 2 refine Zf ?_
   refine Zaa rfl rfl rfl rfl F.elem23 (by rfl) (by omega) (by exact SlM.plain (by assumption) (by (simp; omega))) rfl ?_; refine Zaq rfl rfl rfl (by exact SlM.plain (by assumption) (by (simp; omega))) F.foff60_1 rfl ?_; refine Zay rfl rfl rfl (by assumption) (by exact Zbl (by omega)) F.lay37 rfl rfl rfl ?_; refine Zas F.lay37 ?_; refine Zd ?_; refine Ze ?_; refine Zc ?_; refine Y_pk [5, 4] ?_; refine Zak ?_
   refine Zaj (.inr rfl) (.cell rfl (by repeat first | exact List.Mem.head _ | refine List.Mem.tail _ ?_ | refine List.mem_append_right _ ?_) F.lay37 rfl rfl (.tmp rfl .nil)) (fun w hw => ?_)
   refine ⟨_, rfl, (hw.c), ?_⟩
   clear hw
   rw [hfx]
   rfl
theorem rFind_ok (M : Mem) (s : (Sl HeldV)) (key : Plc) (hs0 : SlK M HeldV.segs 24 s) (hs1 : ∀ y ∈ (s).l, HeldV.ok M y) : Fs Tryz.prog 31 [Sl.val s, aggV [idSeg key]] M (fun v => v =  (findXv (findX s.l key))) := by
  obtain ⟨s_a, s_c, s_l⟩ := s
  have k_s : SlK M HeldV.segs 24 ⟨s_a, s_c, s_l⟩ := hs0
  have s_s : SlM M s_a (s_l.map HeldV.segs) 24 := k_s.h1
  have n_s : (s_l.map HeldV.segs).length = s_l.length := List.length_map ..
  have m_s : s_l.length ≤ 9223372036854775807 := k_s.h2
  have c_s : s_l.length ≤ s_c := k_s.h3
  have l_s : ∀ y ∈ s_l, HeldV.ok M y := hs1
  refine Zci Tryz.func31 rfl Tryz.ntmps31 rfl ?_; intro H
  refine Zj ?_; refine Za (l := [0, 1, 2]) rfl ?_
  refine Zcz ?_; intro b1
  refine Zby F.zero37 ?_; intro b2
  refine Zd ?_; refine Ze ?_; refine Zc ?_; refine Y_pk [5, 4, 3, 0] ?_
  iterate 2 refine Zj ?_
  refine Za (l := [0]) rfl ?_; refine Zd ?_; refine Ze ?_; refine Zc ?_; refine Zbe ?_; refine Y_pk [6, 5, 4, 3, 0] ?_; refine Zed (.succ .zero) (fun (k : Nat) z => z = [(6, .int .i64 (k : Int))] ∧ k ≤ s_l.length ∧ (∀ j (h2 : j < s_l.length), j < k → ¬ s_l[j].key = key)) (fun k => s_l.length - k) (0) (⟨rfl, by omega, by (intro j h2 hj; omega)⟩) ?_
  rintro k _ ⟨rfl, hk, hI⟩
  iterate 2 refine Zj ?_
  refine Za (l := [0, 1, 2, 3]) rfl ?_
  iterate 2 refine Zf ?_
  refine Zbb F.elem23 ?_; refine Zav ?_; refine Ze ?_; refine Zc ?_
  refine Zau rfl (fun hc3 => ?_) (fun hc3 => ?_)
  ·replace hc3 := dT hc3
   refine Zax ?_; refine Zc ?_; refine Zj ?_; refine Zbe ?_; refine Zj ?_; refine Zar (l := [0, 1, 2, 3, 4, 5, 6]) #[0, 0, 3, 7, 15, 0, 63] _ rfl (by kernel_rfl) (by kernel_rfl) St.drawn (fun _ h => h) ?_
   iterate 2 refine Zf ?_
   refine Zaa rfl rfl rfl rfl F.elem23 (by rfl) (by omega) (by exact SlM.plain (by assumption) (by (simp; omega))) rfl ?_; refine Zaq rfl rfl rfl (by exact SlM.plain (by assumption) (by (simp; omega))) F.foff60_0 rfl ?_; refine Zay rfl rfl rfl (by assumption) (by exact Zbl (by omega)) F.lay29 rfl rfl rfl ?_; refine Zi F.lay29 ?_
   refine Zfx (m := 20) rfl rfl rfl rfl rfl (by constructor) (by constructor) F.lay29 F.kinds29 rfl F.guard29 (Zga Zez) (Zga Zez) rfl rfl rfl ?_; intro c4 he5
   replace he5 : c4 = true ↔ Segs.cells _ = Segs.cells _ := he5
   obtain rfl := eqD he5 (Zfu (x := _) (y := _)); clear he5
   refine Ze ?_; refine Zc ?_
   refine Zau rfl (fun hc6 => ?_) (fun hc6 => ?_)
   ·replace hc6 := dT hc6
    simp only [List.get_eq_getElem] at hc6
    refine Zj ?_; refine Za (l := [0, 1, 2, 3, 4, 5, 6]) rfl ?_
    iterate 2 refine Zf ?_
    refine Zaa rfl rfl rfl rfl F.elem23 (by rfl) (by omega) (by exact SlM.plain (by assumption) (by (simp; omega))) rfl ?_; refine Zaq rfl rfl rfl (by exact SlM.plain (by assumption) (by (simp; omega))) F.foff60_1 rfl ?_; refine Zay rfl rfl rfl (by assumption) (by exact Zbl (by omega)) F.lay37 rfl rfl rfl ?_; refine Zas F.lay37 ?_; refine Zd ?_; refine Ze ?_; refine Zc ?_; refine Zak ?_; refine Zbj ?_
    iterate 2 refine Zba ?_
    refine Zbj ?_; refine Zba ?_
    refine Zaj (.inr rfl) (.cell rfl (by repeat first | exact List.Mem.head _ | refine List.Mem.tail _ ?_ | refine List.mem_append_right _ ?_) F.lay37 rfl rfl (.tmp rfl .nil)) (fun w hw => ?_)
    refine ⟨_, rfl, (hw.c), ?_⟩
    clear hw
    rw [findX_first (by omega) (fun j h2 hj => hI j h2 hj) (by assumption)]
    rfl
   ·replace hc6 := dF hc6
    simp only [List.get_eq_getElem] at hc6
    refine Zax ?_; refine Zde ?_; refine Zc ?_; refine Za (l := [0, 1, 2]) rfl ?_; refine Zf ?_; refine Zcc rfl rfl rfl rfl rfl (by exact Zbf (by decide) (by omega)) rfl ?_; refine Zd ?_; refine Ze ?_; refine Zda (a' := [(6, _)]) (k + 1) (.cons (k := 6) rfl (.cons (k := 5) rfl (.cons (k := 4) rfl (.cons (k := 3) rfl (.cons (k := 0) rfl (.nil)))))) (fun w hw => by first | exact hw | exact hw.c) ?_ ?_
    ·refine ⟨rfl, by omega, ?_⟩
     (intro j h2 hj; rcases Nat.lt_or_ge j k with h9 | h9; exact hI j h2 h9; obtain rfl : j = k := (by omega); assumption)
    ·omega
  ·replace hc3 := dF hc3
   refine Zcm ?_
   iterate 2 refine Zcd ?_
   refine Zdl ?_; refine Zc ?_; refine Y_pk [5, 4] ?_; refine Zj ?_; refine Za (l := [0, 1, 2]) rfl ?_; refine Zbv rfl rfl F.bld37 (.nil) rfl rfl ?_; refine Zas F.lay37 ?_; refine Zd ?_; refine Ze ?_; refine Zc ?_; refine Y_pk [5, 4] ?_; refine Zak ?_
   refine Zaj (.inr rfl) (.cell rfl (by repeat first | exact List.Mem.head _ | refine List.Mem.tail _ ?_ | refine List.mem_append_right _ ?_) F.lay37 rfl rfl (.tmp rfl .nil)) (fun w hw => ?_)
   refine ⟨_, rfl, (hw.c), ?_⟩
   clear hw
   rw [findX_none (fun j h2 => hI j h2 (by omega))]
   rfl
theorem StIs_ok (M : Mem) (s : (Sl HeldV)) (hs0 : SlK M HeldV.segs 24 s) (hs1 : ∀ y ∈ (s).l, HeldV.ok M y) : Fs Tryz.prog 38 [Sl.val s] M (fun v => v = Value.bool (decide (IsSt (pls s.l)))) := by
  obtain ⟨s_a, s_c, s_l⟩ := s
  have k_s : SlK M HeldV.segs 24 ⟨s_a, s_c, s_l⟩ := hs0
  have s_s : SlM M s_a (s_l.map HeldV.segs) 24 := k_s.h1
  have n_s : (s_l.map HeldV.segs).length = s_l.length := List.length_map ..
  have m_s : s_l.length ≤ 9223372036854775807 := k_s.h2
  have c_s : s_l.length ≤ s_c := k_s.h3
  have l_s : ∀ y ∈ s_l, HeldV.ok M y := hs1
  refine Zci Tryz.func38 rfl Tryz.ntmps38 rfl ?_; intro H
  refine Zj ?_; refine Za (l := [0]) rfl ?_; refine Zd ?_; refine Ze ?_; refine Zc ?_
  iterate 2 refine Zj ?_
  refine Za (l := [0, 1, 2]) rfl ?_; refine Zf ?_; refine Zbb F.elem23 ?_; refine Zf ?_; refine Ze ?_; refine Zc ?_; refine Zbe ?_; refine Y_pk [7, 6, 5, 2, 0] ?_; refine Zed (.succ .zero) (fun (k : Nat) z => z = [(7, .int .i64 (k : Int))] ∧ k ≤ s_l.length ∧ (StOk ((pls s_l).take k))) (fun k => s_l.length - k) (0) (⟨rfl, by omega, by (refine ⟨fun m hm => by simp at hm, by simp⟩)⟩) ?_
  rintro k _ ⟨rfl, hk, hI⟩
  refine Zj ?_; refine Za (l := [0]) rfl ?_; refine Zav ?_; refine Ze ?_; refine Zc ?_; refine Zj ?_
  refine Zau rfl (fun hc1 => ?_) (fun hc1 => ?_)
  ·replace hc1 := dT hc1
   refine Zax ?_; refine Zc ?_; refine Zj ?_; refine Zbe ?_; refine Zj ?_; refine Za (l := [0, 1, 2, 3, 4, 5]) rfl ?_; refine Zf ?_; refine Zaa rfl rfl rfl rfl F.elem23 (by rfl) (by omega) (by exact SlM.plain (by assumption) (by (simp; omega))) rfl ?_; refine Zay rfl rfl rfl (by assumption) (by exact Zbl (by omega)) F.lay60 rfl rfl rfl ?_
   refine Zby F.zero60 ?_; intro b2
   refine Zd ?_; refine Zas F.lay60 ?_; refine Ze ?_; refine Zc ?_; refine Zj ?_
   have hpk : (pls s_l)[k]'(by rw [Zdm]; omega) = HeldV.pl s_l[k] := by simp [pls]
   have hp9 : ∀ h : 0 < k, (pls s_l)[k - 1]'(by rw [Zdm]; omega) = HeldV.pl s_l[k - 1] := fun h => by simp [pls]
   have e9 : ∀ h0 : 0 < k, s_l[((k : Int) - 1).toNat]'(by omega) = s_l[k - 1]'(by omega) := fun h0 => by congr 1; omega
   refine Zar (l := [0, 1, 2, 3, 4, 5, 6, 7, 8, 9, 10, 11, 12, 13, 14, 15, 16, 17, 18, 19]) #[0, 1, 3, 7, 15, 31, 63, 127, 255, 255, 767, 2047, 4095, 8191, 255, 16639, 65535, 131071, 262143, 524287] _ rfl (by kernel_rfl) (by kernel_rfl) St.drawn (fun _ h => h) ?_; refine Zb F.foff60_1 ?_; refine Zi F.lay37 ?_; refine X_fs rfl rfl F.ok47 rfl (CelIs_ok _ s_l[k].cell (l_s _ (List.getElem_mem (by omega))).h0) rfl ?_
   rintro _ rfl
   refine Zel ?_; refine Zf ?_
   refine Zag 16 rfl (fun hc3 => ?_) (fun hc3 => ?_)
   ·replace hc3 := nT hc3
    iterate 14 refine Zz ?_
    refine Zl ?_; refine Ze ?_; refine Zc ?_; refine Zcy rfl ?_; refine Zj ?_; refine Za (l := [0]) rfl ?_; refine Zd ?_; refine Ze ?_; refine Zc ?_; refine Zak ?_; refine Zbj ?_
    iterate 2 refine Zba ?_
    refine Zbj ?_; refine Zba ?_
    refine Zaj (.inr rfl) (.tmp rfl .nil) (fun w hw => ?_)
    refine ⟨_, rfl, (hw.c), ?_⟩
    clear hw
    show _ = Value.bool (decide (IsSt (pls s_l)))
    refine congrArg Value.bool (decide_eq_false (fun h9 => ?_)).symm
    obtain ⟨_, g1, g2⟩ := (st_take (s := pls s_l) (k := k) (by rw [Zdm]; omega)).1 (st_pre h9.2 (k + 1))
    rw [hpk] at g1
    contradiction
   ·replace hc3 := nF hc3
    refine Zf ?_; refine Zav ?_; refine Zf ?_
    refine Zag 19 rfl (fun hc4 => ?_) (fun hc4 => ?_)
    ·replace hc4 := dT hc4
     iterate 2 refine Zf ?_
     refine Zcc rfl rfl rfl rfl rfl (by exact Zbf (by decide) (by omega)) rfl ?_; refine Zaa rfl rfl rfl rfl F.elem23 (by exact (Int.toNat_of_nonneg (by omega)).symm) (by omega) (by exact SlM.plain (by assumption) (by (simp; omega))) rfl ?_; refine Zaq rfl rfl rfl (by exact SlM.plain (by assumption) (by (simp; omega))) F.foff60_0 rfl ?_; refine Zay rfl rfl rfl (by assumption) (by exact Zbl (by omega)) F.lay29 rfl rfl rfl ?_; refine Zb F.foff60_0 ?_; refine Zi F.lay29 ?_; refine X_fs rfl rfl F.ok37 rfl (Less_ok _ _ _) rfl ?_
     rintro _ rfl
     refine Zel ?_
     iterate 2 refine Zl ?_
     refine Ze ?_; refine Zc ?_
     refine Zau rfl (fun hc5 => ?_) (fun hc5 => ?_)
     ·replace hc5 := nT hc5
      simp only [List.get_eq_getElem] at hc5
      refine Zj ?_; refine Za (l := [0]) rfl ?_; refine Zd ?_; refine Ze ?_; refine Zc ?_; refine Zak ?_; refine Zbj ?_
      iterate 2 refine Zba ?_
      refine Zbj ?_; refine Zba ?_
      refine Zaj (.inr rfl) (.tmp rfl .nil) (fun w hw => ?_)
      refine ⟨_, rfl, (hw.c), ?_⟩
      clear hw
      show _ = Value.bool (decide (IsSt (pls s_l)))
      refine congrArg Value.bool (decide_eq_false (fun h9 => ?_)).symm
      obtain ⟨_, g1, g2⟩ := (st_take (s := pls s_l) (k := k) (by rw [Zdm]; omega)).1 (st_pre h9.2 (k + 1))
      rw [hpk] at g1
      (have h0 : 0 < k := (by omega); have h7 := g2 h0; have h8 := e9 h0; rw [hpk, hp9 h0] at h7; simp_all [HeldV.pl]; done)
     ·replace hc5 := nF hc5
      simp only [List.get_eq_getElem] at hc5
      refine Zax ?_; refine Zde ?_; refine Zc ?_; refine Za (l := [0, 1]) rfl ?_; refine Zcc rfl rfl rfl rfl rfl (by exact Zbf (by decide) (by omega)) rfl ?_; refine Zf ?_; refine Ze ?_; refine Zda (a' := [(7, _)]) (k + 1) (.cons (k := 7) rfl (.cons (k := 6) rfl (.cons (k := 5) rfl (.cons (k := 2) rfl (.cons (k := 0) rfl (.nil)))))) (fun w hw => by first | exact hw | exact hw.c) ?_ ?_
      ·refine ⟨rfl, by omega, ?_⟩
       (rw [st_take (by rw [Zdm]; omega)])
       refine ⟨hI, by rw [hpk]; assumption, fun h0 => ?_⟩
       rw [hpk, hp9 h0]
       (have h8 := e9 h0; simp_all [HeldV.pl]; done)
      ·omega
    ·replace hc4 := dF hc4
     iterate 10 refine Zz ?_
     iterate 2 refine Zl ?_
     refine Ze ?_; refine Zc ?_; refine Zeu rfl ?_; refine Zax ?_; refine Zde ?_; refine Zc ?_; refine Za (l := [0, 1]) rfl ?_; refine Zcc rfl rfl rfl rfl rfl (by exact Zbf (by decide) (by omega)) rfl ?_; refine Zf ?_; refine Ze ?_; refine Zda (a' := [(7, _)]) (k + 1) (.cons (k := 7) rfl (.cons (k := 6) rfl (.cons (k := 5) rfl (.cons (k := 2) rfl (.cons (k := 0) rfl (.nil)))))) (fun w hw => by first | exact hw | exact hw.c) ?_ ?_
     ·refine ⟨rfl, by omega, ?_⟩
      (rw [st_take (by rw [Zdm]; omega)])
      refine ⟨hI, by rw [hpk]; assumption, fun h0 => ?_⟩
      rw [hpk, hp9 h0]
      omega
     ·omega
  ·replace hc1 := dF hc1
   refine Zcm ?_
   iterate 2 refine Zcd ?_
   refine Zdl ?_; refine Zc ?_; refine Y_pk [2, 0] ?_; refine Zj ?_; refine Za (l := [0, 1, 2, 3]) rfl ?_; refine Zf ?_; refine Zbb F.elem23 ?_; refine Zav ?_; refine Zd ?_; refine Ze ?_; refine Zc ?_; refine Y_pk [2] ?_; refine Zak ?_
   refine Zaj (.inr rfl) (.tmp rfl .nil) (fun w hw => ?_)
   refine ⟨_, rfl, (hw.c), ?_⟩
   clear hw
   show _ = Value.bool (decide (IsSt (pls s_l)))
   (have hk9 : k = s_l.length := (by omega); subst hk9; rw [List.take_of_length_le (by rw [Zdm]; omega)] at hI; exact congrArg Value.bool (decide_eq_decide.2 ⟨fun h9 => ⟨by rw [Zdm]; omega, hI⟩, fun h9 => by have := h9.1; rw [Zdm] at this; omega⟩))
theorem rStIs_ok (M : Mem) (s : (Sl HeldV)) (hs0 : SlK M HeldV.segs 24 s) (hs1 : ∀ y ∈ (s).l, HeldV.ok M y) : Fs Tryz.prog 20 [Sl.val s] M (fun v => v = Value.bool (decide (IsSt (pls s.l)))) := by
  obtain ⟨s_a, s_c, s_l⟩ := s
  have k_s : SlK M HeldV.segs 24 ⟨s_a, s_c, s_l⟩ := hs0
  have s_s : SlM M s_a (s_l.map HeldV.segs) 24 := k_s.h1
  have n_s : (s_l.map HeldV.segs).length = s_l.length := List.length_map ..
  have m_s : s_l.length ≤ 9223372036854775807 := k_s.h2
  have c_s : s_l.length ≤ s_c := k_s.h3
  have l_s : ∀ y ∈ s_l, HeldV.ok M y := hs1
  refine Zci Tryz.func20 rfl Tryz.ntmps20 rfl ?_; intro H
  refine Zj ?_; refine Za (l := [0]) rfl ?_; refine Zd ?_; refine Ze ?_; refine Zc ?_
  iterate 2 refine Zj ?_
  refine Za (l := [0]) rfl ?_; refine Zd ?_; refine Ze ?_; refine Zc ?_; refine Zbe ?_; refine Y_pk [3, 2, 0] ?_; refine Zed (.succ .zero) (fun (k : Nat) z => z = [(3, .int .i64 (k : Int))] ∧ k ≤ s_l.length ∧ (StOk ((pls s_l).take k))) (fun k => s_l.length - k) (0) (⟨rfl, by omega, by (refine ⟨fun m hm => by simp at hm, by simp⟩)⟩) ?_
  rintro k _ ⟨rfl, hk, hI⟩
  iterate 2 refine Zj ?_
  refine Za (l := [0, 1, 2, 3, 4, 5, 6, 7, 8]) rfl ?_
  iterate 2 refine Zf ?_
  refine Zbb F.elem23 ?_; refine Zav ?_; refine Zf ?_
  refine Zag 8 rfl (fun hc1 => ?_) (fun hc1 => ?_)
  ·replace hc1 := dT hc1
   refine Zf ?_; refine Zbb F.elem23 ?_; refine Zav ?_; refine Zl ?_; refine Ze ?_; refine Zc ?_
   refine Zau rfl (fun hc2 => ?_) (fun hc2 => ?_)
   ·replace hc2 := dT hc2
    refine Zax ?_; refine Zc ?_; refine Zj ?_; refine Zbe ?_; refine Zj ?_
    have hpk : (pls s_l)[k]'(by rw [Zdm]; omega) = HeldV.pl s_l[k] := by simp [pls]
    have hp9 : ∀ h : 0 < k, (pls s_l)[k - 1]'(by rw [Zdm]; omega) = HeldV.pl s_l[k - 1] := fun h => by simp [pls]
    have e9 : ∀ h0 : 0 < k, s_l[((k : Int) - 1).toNat]'(by omega) = s_l[k - 1]'(by omega) := fun h0 => by congr 1; omega
    refine Zar (l := [0, 1, 2, 3, 4, 5, 6, 7, 8, 9, 10, 11, 12, 13, 14, 15, 16, 17, 18, 19, 20, 21, 22, 23, 24, 25]) #[0, 0, 3, 7, 15, 31, 63, 127, 255, 511, 1023, 2047, 2047, 6143, 16383, 32767, 65535, 2047, 2047, 395263, 919551, 1968127, 4194303, 8388607, 16777215, 33554431] _ rfl (by kernel_rfl) (by kernel_rfl) St.drawn (fun _ h => h) ?_
    iterate 2 refine Zf ?_
    refine Zaa rfl rfl rfl rfl F.elem23 (by rfl) (by omega) (by exact SlM.plain (by assumption) (by (simp; omega))) rfl ?_; refine Zaq rfl rfl rfl (by exact SlM.plain (by assumption) (by (simp; omega))) F.foff60_1 rfl ?_; refine Zay rfl rfl rfl (by assumption) (by exact Zbl (by omega)) F.lay37 rfl rfl rfl ?_; refine X_fs rfl rfl F.ok50 rfl (rCelIs_ok _ s_l[k].cell (l_s _ (List.getElem_mem (by omega))).h0) rfl ?_
    rintro _ rfl
    refine Zel ?_; refine Zf ?_
    refine Zag 22 rfl (fun hc3 => ?_) (fun hc3 => ?_)
    ·replace hc3 := nT hc3
     iterate 17 refine Zz ?_
     refine Zl ?_; refine Ze ?_; refine Zc ?_; refine Zcy rfl ?_; refine Zj ?_; refine Za (l := [0]) rfl ?_; refine Zd ?_; refine Ze ?_; refine Zc ?_; refine Zak ?_; refine Zbj ?_
     iterate 2 refine Zba ?_
     refine Zbj ?_; refine Zba ?_
     refine Zaj (.inr rfl) (.tmp rfl .nil) (fun w hw => ?_)
     refine ⟨_, rfl, (hw.c), ?_⟩
     clear hw
     show _ = Value.bool (decide (IsSt (pls s_l)))
     refine congrArg Value.bool (decide_eq_false (fun h9 => ?_)).symm
     obtain ⟨_, g1, g2⟩ := (st_take (s := pls s_l) (k := k) (by rw [Zdm]; omega)).1 (st_pre h9.2 (k + 1))
     rw [hpk] at g1
     contradiction
    ·replace hc3 := nF hc3
     refine Zf ?_; refine Zav ?_; refine Zf ?_
     refine Zag 25 rfl (fun hc4 => ?_) (fun hc4 => ?_)
     ·replace hc4 := dT hc4
      iterate 2 refine Zf ?_
      refine Zcc rfl rfl rfl rfl rfl (by exact Zbf (by decide) (by omega)) rfl ?_; refine Zaa rfl rfl rfl rfl F.elem23 (by exact (Int.toNat_of_nonneg (by omega)).symm) (by omega) (by exact SlM.plain (by assumption) (by (simp; omega))) rfl ?_; refine Zaq rfl rfl rfl (by exact SlM.plain (by assumption) (by (simp; omega))) F.foff60_0 rfl ?_; refine Zay rfl rfl rfl (by assumption) (by exact Zbl (by omega)) F.lay29 rfl rfl rfl ?_
      iterate 2 refine Zf ?_
      refine Zaa rfl rfl rfl rfl F.elem23 (by rfl) (by omega) (by exact SlM.plain (by assumption) (by (simp; omega))) rfl ?_; refine Zaq rfl rfl rfl (by exact SlM.plain (by assumption) (by (simp; omega))) F.foff60_0 rfl ?_; refine Zay rfl rfl rfl (by assumption) (by exact Zbl (by omega)) F.lay29 rfl rfl rfl ?_; refine X_fs rfl rfl F.ok40 rfl (rLess_ok _ _ _) rfl ?_
      rintro _ rfl
      refine Zel ?_
      iterate 2 refine Zl ?_
      refine Ze ?_; refine Zc ?_
      refine Zau rfl (fun hc5 => ?_) (fun hc5 => ?_)
      ·replace hc5 := nT hc5
       simp only [List.get_eq_getElem] at hc5
       refine Zj ?_; refine Za (l := [0]) rfl ?_; refine Zd ?_; refine Ze ?_; refine Zc ?_; refine Zak ?_; refine Zbj ?_
       iterate 2 refine Zba ?_
       refine Zbj ?_; refine Zba ?_
       refine Zaj (.inr rfl) (.tmp rfl .nil) (fun w hw => ?_)
       refine ⟨_, rfl, (hw.c), ?_⟩
       clear hw
       show _ = Value.bool (decide (IsSt (pls s_l)))
       refine congrArg Value.bool (decide_eq_false (fun h9 => ?_)).symm
       obtain ⟨_, g1, g2⟩ := (st_take (s := pls s_l) (k := k) (by rw [Zdm]; omega)).1 (st_pre h9.2 (k + 1))
       rw [hpk] at g1
       (have h0 : 0 < k := (by omega); have h7 := g2 h0; have h8 := e9 h0; rw [hpk, hp9 h0] at h7; simp_all [HeldV.pl]; done)
      ·replace hc5 := nF hc5
       simp only [List.get_eq_getElem] at hc5
       refine Zax ?_; refine Zde ?_; refine Zc ?_; refine Za (l := [0, 1, 2]) rfl ?_; refine Zf ?_; refine Zcc rfl rfl rfl rfl rfl (by exact Zbf (by decide) (by omega)) rfl ?_; refine Zd ?_; refine Ze ?_; refine Zda (a' := [(3, _)]) (k + 1) (.cons (k := 3) rfl (.cons (k := 2) rfl (.cons (k := 0) rfl (.nil)))) (fun w hw => by first | exact hw | exact hw.c) ?_ ?_
       ·refine ⟨rfl, by omega, ?_⟩
        (rw [st_take (by rw [Zdm]; omega)])
        refine ⟨hI, by rw [hpk]; assumption, fun h0 => ?_⟩
        rw [hpk, hp9 h0]
        (have h8 := e9 h0; simp_all [HeldV.pl]; done)
       ·omega
     ·replace hc4 := dF hc4
      iterate 13 refine Zz ?_
      iterate 2 refine Zl ?_
      refine Ze ?_; refine Zc ?_; refine Zeu rfl ?_; refine Zax ?_; refine Zde ?_; refine Zc ?_; refine Za (l := [0, 1, 2]) rfl ?_; refine Zf ?_; refine Zcc rfl rfl rfl rfl rfl (by exact Zbf (by decide) (by omega)) rfl ?_; refine Zd ?_; refine Ze ?_; refine Zda (a' := [(3, _)]) (k + 1) (.cons (k := 3) rfl (.cons (k := 2) rfl (.cons (k := 0) rfl (.nil)))) (fun w hw => by first | exact hw | exact hw.c) ?_ ?_
      ·refine ⟨rfl, by omega, ?_⟩
       (rw [st_take (by rw [Zdm]; omega)])
       refine ⟨hI, by rw [hpk]; assumption, fun h0 => ?_⟩
       rw [hpk, hp9 h0]
       omega
      ·omega
   ·replace hc2 := dF hc2
    refine Zcm ?_
    iterate 2 refine Zcd ?_
    refine Zdl ?_; refine Zc ?_; refine Y_pk [2, 0] ?_; refine Zj ?_; refine Za (l := [0, 1, 2, 3]) rfl ?_; refine Zf ?_; refine Zbb F.elem23 ?_; refine Zav ?_; refine Zd ?_; refine Ze ?_; refine Zc ?_; refine Y_pk [2] ?_; refine Zak ?_
    refine Zaj (.inr rfl) (.tmp rfl .nil) (fun w hw => ?_)
    refine ⟨_, rfl, (hw.c), ?_⟩
    clear hw
    show _ = Value.bool (decide (IsSt (pls s_l)))
    exact congrArg Value.bool (decide_eq_decide.2 ⟨fun h9 => absurd h9 (by omega), fun h9 => absurd h9.1 (by rw [Zdm]; omega)⟩)
  ·replace hc1 := dF hc1
   iterate 3 refine Zz ?_
   refine Zl ?_; refine Ze ?_; refine Zc ?_; refine Zeu rfl ?_; refine Zcm ?_
   iterate 2 refine Zcd ?_
   refine Zdl ?_; refine Zc ?_; refine Y_pk [2, 0] ?_; refine Zj ?_; refine Za (l := [0, 1, 2, 3]) rfl ?_; refine Zf ?_; refine Zbb F.elem23 ?_; refine Zav ?_; refine Zd ?_; refine Ze ?_; refine Zc ?_; refine Y_pk [2] ?_; refine Zak ?_
   refine Zaj (.inr rfl) (.tmp rfl .nil) (fun w hw => ?_)
   refine ⟨_, rfl, (hw.c), ?_⟩
   clear hw
   show _ = Value.bool (decide (IsSt (pls s_l)))
   (have hk9 : k = s_l.length := (by omega); subst hk9; rw [List.take_of_length_le (by rw [Zdm]; omega)] at hI; exact congrArg Value.bool (decide_eq_decide.2 ⟨fun h9 => ⟨by rw [Zdm]; omega, hI⟩, fun h9 => by have := h9.1; rw [Zdm] at this; omega⟩))
end Go.Proofs.YtpkeilhilpogiaaGreat
namespace Go.Proofs
open Go.Shelf
def Tryz.sortL_ren : Go.Shelf.Ren := ⟨fun | 6 => 122 | 15 => 116 | 14 => 137 | 28 => 133 | 29 => 134 | 20 => 145 | 21 => 146 | 22 => 147 | 23 => 148 | 24 => 149 | 25 => 150 | 26 => 151 | 27 => 152 | 46 => 154 | 47 => 139 | 48 => 140 | 49 => 155 | 50 => 156 | 57 => 157 | n => n, fun | 22 => 23 | 24 => 60 | 25 => 162 | 3 => 3 | 39 => 144 | 0 => 0 | 53 => 172 | 55 => 22 | 4 => 4 | 46 => 165 | 45 => 164 | 50 => 96 | 5 => 5 | 9 => 9 | 66 => 176 | 70 => 180 | 76 => 188 | 77 => 189 | n => n, fun | n => n⟩
theorem Tryz.sortL : Go.Proofs.SlLaysF0.n6 Tryz.prog Tryz.sortL_ren := {
  mixed := by kernel_rfl
  f6 := ⟨Tryz.f122.name, by decide, Tryz.func122.trans (congrArg some (by kernel_rfl))⟩
  f14 := ⟨Tryz.f137.name, by decide, Tryz.func137.trans (congrArg some (by kernel_rfl))⟩
  f15 := Tryz.func116.trans (congrArg some (by kernel_rfl))
  f20 := ⟨Tryz.f145.name, by decide, Tryz.func145.trans (congrArg some (by kernel_rfl))⟩
  f21 := ⟨Tryz.f146.name, by decide, Tryz.func146.trans (congrArg some (by kernel_rfl))⟩
  f22 := ⟨Tryz.f147.name, by decide, Tryz.func147.trans (congrArg some (by kernel_rfl))⟩
  f23 := ⟨Tryz.f148.name, by decide, Tryz.func148.trans (congrArg some (by kernel_rfl))⟩
  f24 := ⟨Tryz.f149.name, by decide, Tryz.func149.trans (congrArg some (by kernel_rfl))⟩
  f25 := ⟨Tryz.f150.name, by decide, Tryz.func150.trans (congrArg some (by kernel_rfl))⟩
  f26 := ⟨Tryz.f151.name, by decide, Tryz.func151.trans (congrArg some (by kernel_rfl))⟩
  f27 := ⟨Tryz.f152.name, by decide, Tryz.func152.trans (congrArg some (by kernel_rfl))⟩
  f28 := Tryz.func133.trans (congrArg some (by kernel_rfl))
  f29 := Tryz.func134.trans (congrArg some (by kernel_rfl))
  f46 := ⟨Tryz.f154.name, by decide, Tryz.func154.trans (congrArg some (by kernel_rfl))⟩
  f47 := Tryz.func139.trans (congrArg some (by kernel_rfl))
  f48 := Tryz.func140.trans (congrArg some (by kernel_rfl))
  f49 := ⟨Tryz.f155.name, by decide, Tryz.func155.trans (congrArg some (by kernel_rfl))⟩
  f50 := ⟨Tryz.f156.name, by decide, Tryz.func156.trans (congrArg some (by kernel_rfl))⟩
  f57 := ⟨Tryz.f157.name, by decide, Tryz.func157.trans (congrArg some (by kernel_rfl))⟩
  t0 := Tryz.underlying0
  a0 := Tryz.isAgg0
  z0 := Tryz.sizeOf0
  v0 := Tryz.zeroValue0
  t3 := Tryz.underlying3
  a3 := Tryz.isAgg3
  z3 := Tryz.sizeOf3
  v3 := Tryz.zeroValue3
  t4 := Tryz.underlying4
  a4 := Tryz.isAgg4
  z4 := Tryz.sizeOf4
  v4 := Tryz.zeroValue4
  t5 := Tryz.underlying5
  a5 := Tryz.isAgg5
  z5 := Tryz.sizeOf5
  v5 := Tryz.zeroValue5
  t9 := Tryz.underlying9
  a9 := Tryz.isAgg9
  z9 := Tryz.sizeOf9
  v9 := Tryz.zeroValue9
  t22 := Tryz.underlying23
  a22 := Tryz.isAgg23
  z22 := Tryz.sizeOf23
  v22 := Tryz.zeroValue23
  t25 := Tryz.underlying162
  a25 := Tryz.isAgg162
  z25 := Tryz.sizeOf162
  v25 := Tryz.zeroValue162
  t39 := Tryz.underlying144
  a39 := Tryz.isAgg144
  z39 := Tryz.sizeOf144
  v39 := Tryz.zeroValue144
  t45 := Tryz.underlying164
  a45 := Tryz.isAgg164
  z45 := Tryz.sizeOf164
  v45 := Tryz.zeroValue164
  t46 := Tryz.underlying165
  a46 := Tryz.isAgg165
  z46 := Tryz.sizeOf165
  v46 := Tryz.zeroValue165
  t50 := Tryz.underlying96
  a50 := Tryz.isAgg96
  z50 := Tryz.sizeOf96
  v50 := Tryz.zeroValue96
  t53 := Tryz.underlying172
  a53 := Tryz.isAgg172
  z53 := Tryz.sizeOf172
  v53 := Tryz.zeroValue172
  t55 := Tryz.underlying22
  a55 := Tryz.isAgg22
  z55 := Tryz.sizeOf22
  v55 := Tryz.zeroValue22
  t66 := Tryz.underlying176
  a66 := Tryz.isAgg176
  z66 := Tryz.sizeOf176
  v66 := Tryz.zeroValue176
  t70 := Tryz.underlying180
  a70 := Tryz.isAgg180
  z70 := Tryz.sizeOf180
  v70 := Tryz.zeroValue180
  t76 := Tryz.underlying188
  a76 := Tryz.isAgg188
  z76 := Tryz.sizeOf188
  v76 := Tryz.zeroValue188
  t77 := Tryz.underlying189
  a77 := Tryz.isAgg189
  z77 := Tryz.sizeOf189
  v77 := Tryz.zeroValue189 }
end Go.Proofs
namespace Go.Esp
open Go.Proofs Go.Shelf Go.RowKit Go.Lib Go.Sort
def memS (W : World) : Mem := ⟨fun b => W.heap[b]?, W.os, W.tape, W.output, W.drawn⟩
theorem St.startS (W : World) : St (memS W) [] W := ⟨fun _ _ h => h, fun _ _ h => (by cases h), fun _ _ h => (by cases h), List.nodup_nil, rfl, rfl, rfl, Nat.le_refl _⟩
theorem lays_of_fs {P : Program} {g : FuncId} {vs : List Value} {r : Value} (h : ∀ M, Fs P g vs M (fun v => v = r)) (W : World) : Calls P g vs.toArray W fun e w' => e = .returned r ∧ ∃ q os', w' = grow (W.drewN q) os' := by
  refine (h (memS W) [] W (St.startS W)).mono ?_
  rintro e w' ⟨v, rfl, hst, rfl⟩
  refine ⟨rfl, w'.drawn - W.drawn, w'.heap.extract W.heap.size w'.heap.size, ?_⟩
  have hp : ∀ b o, W.heap[b]? = some o → w'.heap[b]? = some o := hst.mem
  obtain ⟨h1, h2, h3, h4⟩ := hst.io
  have hle : W.heap.size ≤ w'.heap.size := by
    rcases Nat.eq_zero_or_pos W.heap.size with h0 | h0
    · omega
    · have := hp (W.heap.size - 1) _ (Array.getElem?_eq_getElem (by omega))
      have := (Array.getElem?_eq_some_iff.1 this).1
      omega
  have hh : w'.heap = W.heap ++ w'.heap.extract W.heap.size w'.heap.size := by
    apply Array.ext_getElem?
    intro i
    rw [Array.getElem?_append]
    split
    · rename_i hi
      rw [hp i _ (Array.getElem?_eq_getElem hi), Array.getElem?_eq_getElem hi]
    · rename_i hi
      rw [Array.getElem?_extract]
      rw [show W.heap.size + (i - W.heap.size) = i by omega]
      split
      · rfl
      · rw [Array.getElem?_eq_none]; omega
  cases w' with
  | mk heap tape drawn os output =>
    simp only [grow, World.drewN, World.mk.injEq]
    simp only [memS] at h1 h2 h3 h4
    exact ⟨hh, h2, (Nat.add_sub_cancel' h4).symm, h1, h3⟩
section
variable {α : Type} [Inhabited α] {f : α → Segs} {sz : Nat}
theorem rowsCells_get {rows : List Segs} (h : lens sz rows) {j i : Nat} {r : Segs} (hr : rows[j]? = some r) (hi : i < sz) : (rowsCells rows)[j * sz + i]? = (Segs.cells r)[i]? := by
  rw [← rowsCells_at h hr, List.getElem?_take, if_pos hi, List.getElem?_drop]
theorem flat_get (hpos : 0 < sz) (hk : ∀ x, (Segs.cells (f x)).length = sz) {l : List α} (hl : lens sz (l.map f)) {t : Nat} (ht : t < l.length * sz) :
    (rowsCells (l.map f))[t]? = some ((flatK (fun x => Segs.cells (f x)) sz l.toArray)[t]!) := by
  have hj : t / sz < l.length := (Nat.div_lt_iff_lt_mul hpos).2 ht
  have hm := Nat.mod_lt t hpos
  have h := rowsCells_get hl (j := t / sz) (i := t % sz) (r := f l[t / sz]) (by rw [List.getElem?_map, List.getElem?_eq_getElem hj]; rfl) hm
  rw [Nat.div_add_mod'] at h
  rw [h, get_flatK _ _ _ _ (by simpa using ht)]
  have e : l.toArray[t / sz]! = l[t / sz] := by rw [getElem!_pos _ _ (by simpa using hj)]; simp
  rw [e, List.getElem?_eq_getElem (by rw [hk]; exact hm)]
  congr 1
  rw [getElem!_pos _ _ (by rw [hk]; exact hm)]
theorem st_sorted {M : Mem} {H : Hp} {w : World} {b T : Nat} {cur F : Array Value} (hw : St M ((b, .cells cur T (0, 0)) :: H) w) (n : Nat) (os : Array Obj) :
    St M ((b, .cells (putCells id 0 F cur) T (0, 0)) :: H) (grow (putRow id (Sort.ahead w n) b 0 F) os) := by
  have hb := hw.own b _ (.head _)
  have hlt := (Array.getElem?_eq_some_iff.1 hb).1
  refine hw.upd .head ?_ (fun c hc x hx => ?_) ⟨rfl, rfl, rfl, Nat.le_add_right _ _⟩
  · show ((w.heap.modify b _) ++ os)[b]? = _
    rw [Array.getElem?_append_left (by simpa using hlt), Array.getElem?_modify, if_pos rfl, hb]
    rfl
  · show ((w.heap.modify b _) ++ os)[c]? = _
    have hcl := (Array.getElem?_eq_some_iff.1 hx).1
    rw [Array.getElem?_append_left (by simpa using hcl), Array.getElem?_modify, if_neg (Ne.symm hc), hx]
theorem sort_fh {P : Program} {ρ : Ren} (L : SlLaysF0.n6 P ρ) (aE : ∀ w, (isAgg (ρ.t 24)).run P w = .ok true w) (zE : ∀ w, (Go.sizeOf (ρ.t 24)).run P w = .ok sz w) (hpos : 0 < sz) (hk : ∀ x, (Segs.cells (f x)).length = sz)
    (h1 : ∀ x, ∀ v ∈ Segs.cells (f x), v.oneCell' = true) (cf : α → α → Int) (hO : SWO (ltOf cf)) (g : FuncId) (hg : okFn P g = true) (hc : ∀ M x y, Fs P g [aggV (f x), aggV (f y)] M (fun v => v = .int .i64 (cf x y)))
    {T b c : Nat} {l : List α} {hs : Hp} (ho : OSl T sz (.slice (some ⟨b, 0, none⟩) l.length c) hs (l.map f)) (hl : l.length ≤ 1000000) (M : Mem) :
    Fh P (ρ.f 6) [.slice (some ⟨b, 0, none⟩) l.length c, .func (.func g) #[] #[]] M hs (fun M' v Hout => M' = M ∧ v = .tuple #[] ∧ ∃ l' : List α, l'.Perm l ∧ l'.Pairwise (fun x y => ¬ cf y x < 0) ∧ OSl T sz (.slice (some ⟨b, 0, none⟩) l.length c) Hout (l'.map f)) := by
  obtain ⟨cur, rfl, hl0, hlens, hle, hcm, hcs, htk⟩ := ho.inv
  have hml : (l.map f).length = l.length := List.length_map ..
  rw [hml] at hle htk
  intro H w hw
  have hb := hw.own b _ (.head _)
  have hlt := (Array.getElem?_eq_some_iff.1 hb).1
  have hsz : l.length * sz ≤ cur.size := by rw [hcs]; exact Nat.mul_le_mul_right _ hle
  have hH : HoldsK (fun x => Segs.cells (f x)) sz w b 0 l.toArray := by
    intro j hj
    have hj' : j < l.length * sz := by simpa using hj
    refine ⟨?_, ?_⟩
    · unfold World.cell?
      simp only [hb, Option.isSome_none, Bool.false_eq_true, if_false, Nat.zero_add, id]
      rw [← flat_get hpos hk hlens hj', ← htk, List.getElem?_take, if_pos hj']
      simp
    · unfold World.frozen?
      simp only [hb]
      simp
  have hcl : CmpLays P g #[] (fun x => Segs.cells (f x)) sz cf b 0 l.toArray.size w := fun m os dk _ x y => lays_of_fs (fun M => hc M x y) _
  have key := AnyQ.slices_SortFunc L sz aE zE (fun x => Segs.cells (f x)) hk h1 cf hO g #[] b 0 c l.toArray w (fun args w => callFunc_run hg) hcl hH hlt (by simp; omega)
  rw [show l.toArray.size = l.length from by simp] at key
  refine key.mono ?_
  rintro e w' ⟨rfl, d', n, os, ⟨hp1, _, hp3⟩, hs1, rfl⟩
  have hd : d'.size = l.length := by simpa using hp1
  have hst := st_sorted (F := flatK (fun x => Segs.cells (f x)) sz d') hw n os
  have hperm : d'.toList.Perm l := by
    have h9 := hp3
    rw [show d'.extract 0 l.length = d' from by rw [← hd]; simp, show l.toArray.extract 0 l.length = l.toArray from by rw [show l.length = l.toArray.size from by simp]; simp] at h9
    simpa using h9
  have hlens' : lens sz (d'.toList.map f) := fun r hr => by
    obtain ⟨x, hx, rfl⟩ := List.mem_map.1 hr
    rw [← Segs.cells_length]; exact hk x
  refine ⟨_, M, [(b, .cells (putCells id 0 (flatK (fun x => Segs.cells (f x)) sz d') cur) T (0, 0))], rfl, Mem.le.refl M, hst, rfl, rfl, d'.toList, hperm, ?_, ?_⟩
  · rw [List.pairwise_iff_getElem]
    intro i j hi hj hij
    have h9 := hs1 i j (Nat.zero_le _) hij (by rw [← hd]; simpa using hj)
    rw [getElem!_pos _ _ (by simpa using hj), getElem!_pos _ _ (by simpa using hi)] at h9
    unfold ltOf at h9
    simpa using h9
  · have hln : (d'.toList.map f).length = l.length := by simpa using hd
    have := OSl.own (T := T) b c (d'.toList.map f) (putCells id 0 (flatK (fun x => Segs.cells (f x)) sz d') cur) hlens' (by rw [hln]; exact hle) hcm (by simpa [putCells] using hcs) ?_
    · rw [hln] at this; exact this
    · apply List.ext_getElem?
      intro t
      rw [List.getElem?_take]
      by_cases ht : t < (d'.toList.map f).length * sz
      · rw [if_pos ht]
        have ht' : t < d'.toList.length * sz := by simpa using ht
        rw [flat_get hpos hk hlens' ht']
        have htc : t < cur.size := by rw [hln] at ht; omega
        simp only [putCells, Array.getElem?_toList, Array.getElem?_mapIdx, Array.getElem?_eq_getElem htc, Option.map_some]
        rw [if_pos ⟨Nat.zero_le _, by simpa using ht⟩]
        simp
      · rw [if_neg ht, List.getElem?_eq_none]
        rw [rowsCells_len hlens']; omega
end
end Go.Esp
namespace Go.Proofs.YtpkeilhilpogiaaGreat
open Go.Esp
theorem F.ok116 : okFn Tryz.prog 116 = true := by kernel_rfl
theorem F.ok123 : okFn Tryz.prog 123 = true := by kernel_rfl
theorem F.ok137 : okFn Tryz.prog 137 = true := by kernel_rfl
theorem F.ok145 : okFn Tryz.prog 145 = true := by kernel_rfl
theorem last_ok (M : Mem) (a : CellV) (b : CellV) (ha0 : CellV.ok M a) (hb1 : CellV.ok M b) : Esp.Fn Tryz.prog 113 [a.enc, b.enc] M (fun M' v => ∃ c : CellV, v = c.enc ∧ c.pl = lastT a.pl b.pl ∧ CellV.ok M' c) := by
  obtain ⟨Zcw, Zfw, Zfv, ⟨Zds, Zdr, Zal⟩⟩ := a
  obtain ⟨Zdk, Zgl, Zgk, ⟨Zeb, Zea, Zan⟩⟩ := b
  have Zef : SlK M MarkV.segs 6 ⟨Zds, Zdr, Zal⟩ := ha0.h0
  have s_a_marks : SlM M Zds (Zal.map MarkV.segs) 6 := Zef.h1
  have n_a_marks : (Zal.map MarkV.segs).length = Zal.length := List.length_map ..
  have m_a_marks : Zal.length ≤ 9223372036854775807 := Zef.h2
  have c_a_marks : Zal.length ≤ Zdr := Zef.h3
  have Zfc : SlK M MarkV.segs 6 ⟨Zeb, Zea, Zan⟩ := hb1.h0
  have Zfs : SlM M Zeb (Zan.map MarkV.segs) 6 := Zfc.h1
  have n_b_marks : (Zan.map MarkV.segs).length = Zan.length := List.length_map ..
  have m_b_marks : Zan.length ≤ 9223372036854775807 := Zfc.h2
  have c_b_marks : Zan.length ≤ Zea := Zfc.h3
  refine Zek Tryz.func113 rfl Tryz.ntmps113 rfl ?_; intro H
  refine Zj ?_; refine Za (l := [0, 1, 2]) rfl ?_
  refine Zcz ?_; intro b1
  refine Zcz ?_; intro b2
  refine Zby F.zero37 ?_; intro b3
  refine Ze ?_; refine Zc ?_; refine Y_pk [4, 3] ?_; refine Zj ?_; refine Za (l := [0, 1]) rfl ?_; refine Zi F.lay37 ?_; refine Zas F.lay37 ?_; refine Ze ?_; refine Zc ?_; refine Y_pk [4] ?_; refine Zak ?_
  refine Zaj (.inr rfl) (.cell rfl (by repeat first | exact List.Mem.head _ | refine List.Mem.tail _ ?_ | refine List.mem_append_right _ ?_) F.lay37 rfl rfl .nil) (fun w hw => ?_)
  exact ⟨_, M, rfl, Mem.le.refl M, hw.c, ⟨Zdk, Zgl, Zgk, ⟨Zeb, Zea, Zan⟩⟩, rfl, rfl, hb1⟩
theorem last_ok2 : TwoOk Tryz.prog 113 lastT := fun M a b ha hb => last_ok M a b ha hb
theorem row1_ok (M : Mem) (a : HeldV) (b : HeldV) : Fs Tryz.prog 123 [a.enc, b.enc] M (fun v => v = Value.int .i64 (lessH a b)) := by
  obtain ⟨a_key, ⟨a_cell_version, a_cell_has, a_cell_val, ⟨a_cell_marks_a, a_cell_marks_c, a_cell_marks_l⟩⟩⟩ := a
  obtain ⟨b_key, ⟨b_cell_version, b_cell_has, b_cell_val, ⟨b_cell_marks_a, b_cell_marks_c, b_cell_marks_l⟩⟩⟩ := b
  refine Zci Tryz.func123 rfl Tryz.ntmps123 rfl ?_; intro H
  refine Zj ?_; refine Za (l := [0, 1, 2]) rfl ?_
  refine Zcz ?_; intro b1
  refine Zcz ?_; intro b2
  refine Zd ?_; refine Ze ?_; refine Zc ?_; refine Y_pk [4, 3, 2] ?_
  iterate 2 refine Zj ?_
  refine Za (l := [0, 1, 2, 3, 4]) rfl ?_; refine Zb F.foff60_0 ?_; refine Zi F.lay29 ?_; refine Zb F.foff60_0 ?_; refine Zi F.lay29 ?_; refine X_fs rfl rfl F.ok37 rfl (Less_ok _ _ _) rfl ?_
  rintro _ rfl
  refine Ze ?_; refine Zc ?_; refine Y_pk [9, 4] ?_
  refine Zau rfl (fun hc3 => ?_) (fun hc3 => ?_)
  ·replace hc3 := dT hc3
   refine Zj ?_; refine Za (l := [0]) rfl ?_; refine Zd ?_; refine Ze ?_; refine Zc ?_; refine Y_pk [4] ?_; refine Zak ?_; refine Zba ?_
   refine Zaj (.inr rfl) (.tmp rfl .nil) (fun w hw => ?_)
   refine ⟨_, rfl, (hw.c), ?_⟩
   clear hw
   refine congrArg (Value.int .i64) ?_
   unfold lessH
   exact (if_pos (by assumption)).symm
  ·replace hc3 := dF hc3
   refine Zax ?_; refine Zc ?_; refine Y_pk [4] ?_; refine Zj ?_; refine Za (l := [0]) rfl ?_; refine Zd ?_; refine Ze ?_; refine Zc ?_; refine Zak ?_
   refine Zaj (.inr rfl) (.tmp rfl .nil) (fun w hw => ?_)
   refine ⟨_, rfl, (hw.c), ?_⟩
   clear hw
   refine congrArg (Value.int .i64) ?_
   unfold lessH
   exact (if_neg (by assumption)).symm
theorem lessH_swo : Sort.SWO (ltOf lessH) := by
  have e : ∀ x y : HeldV, ltOf lessH x y = decide (LessP x.key y.key) := by
   intro x y; unfold ltOf lessH
   by_cases h : LessP x.key y.key <;> simp [h]
  exact ⟨fun x => by rw [e]; simp [LessP], fun x y z h1 h2 => by rw [e] at h1 h2 ⊢; exact decide_eq_true (Nat.lt_trans (of_decide_eq_true h1) (of_decide_eq_true h2)), fun x y z h1 h2 => by rw [e] at h1 h2 ⊢; exact decide_eq_false (Nat.not_lt.2 (Nat.le_trans (Nat.not_lt.1 (of_decide_eq_false h2)) (Nat.not_lt.1 (of_decide_eq_false h1))))⟩
instance : Inhabited HeldV := ⟨HeldV.zero⟩
theorem InsH_nil (M : Mem) (g : FuncId) : Fs Tryz.prog 145 [.slice none 0 0, .int .i64 0, .int .i64 0, .func (.func g) #[] #[]] M (fun v => v = .tuple #[]) := by
  refine Zci Tryz.func145 rfl Tryz.ntmps145 rfl ?_; intro H
  refine Zj ?_; refine Za (l := [0, 1, 2]) rfl ?_; refine Zf ?_; refine Zcc rfl rfl rfl rfl rfl (by exact Zbf (by decide) (by omega)) rfl ?_; refine Zd ?_; refine Ze ?_; refine Zc ?_; refine Y_pk [8, 0, 1, 2, 3] ?_; refine Zbe ?_; refine Y_pk [8, 0, 1, 2, 3] ?_; refine Zed (.succ .zero) (fun (_ : Nat) z => z = [(8, .int .i64 1)]) (fun _ => 1) (0) (rfl) ?_
  rintro _ _ rfl
  iterate 2 refine Zj ?_
  refine Za (l := [0, 1, 2]) rfl ?_
  iterate 2 refine Zf ?_
  refine Zav ?_; refine Ze ?_; refine Zc ?_
  refine Zau rfl (fun hc1 => ?_) (fun hc1 => ?_)
  ·replace hc1 := dT hc1
   (exfalso; omega)
  ·replace hc1 := dF hc1
   refine Zcm ?_
   iterate 2 refine Zcd ?_
   refine Zdl ?_
   refine Zaj (.inl rfl) (.nil) (fun w hw => ?_)
   exact ⟨_, rfl, hw.c, rfl⟩
theorem PdqH_nil (M : Mem) (g : FuncId) (lim : Int) : Fs Tryz.prog 137 [.slice none 0 0, .int .i64 0, .int .i64 0, .int .i64 lim, .func (.func g) #[] #[]] M (fun v => v = .tuple #[]) := by
  refine Zci Tryz.func137 rfl Tryz.ntmps137 rfl ?_; intro H
  refine Zj ?_; refine Za (l := [0]) rfl ?_; refine Zd ?_; refine Ze ?_; refine Zc ?_; refine Zj ?_; refine Za (l := [0]) rfl ?_; refine Zd ?_; refine Ze ?_; refine Zc ?_; refine Zbe ?_; refine Y_pk [1, 2, 3, 10, 11, 0, 4] ?_; refine Zed (.succ (.succ (.succ (.succ (.succ .zero))))) (fun (_ : Nat) z => z = [(1, .int .i64 0), (2, .int .i64 0), (3, .int .i64 lim), (10, .bool true), (11, .bool true)]) (fun _ => 1) (0) (rfl) ?_
  rintro _ _ rfl
  refine Zbe ?_; refine Zj ?_; refine Za (l := [0, 1, 2, 3]) rfl ?_
  iterate 2 refine Zf ?_
  refine Zcc rfl rfl rfl rfl rfl (by exact Zbf (by decide) (by omega)) rfl ?_; refine Zd ?_; refine Ze ?_; refine Zc ?_
  iterate 2 refine Zj ?_
  refine Za (l := [0, 1]) rfl ?_; refine Zf ?_; refine Zav ?_; refine Ze ?_; refine Zc ?_
  refine Zau rfl (fun hc1 => ?_) (fun hc1 => ?_)
  ·replace hc1 := dT hc1
   refine Zj ?_; refine Za (l := [0, 1, 2, 3, 4]) rfl ?_
   iterate 4 refine Zf ?_
   refine X_fs rfl rfl F.ok145 rfl (InsH_nil M g) rfl ?_
   rintro _ rfl
   refine Ze ?_; refine Zc ?_; refine Y_pk [29, 28, 27, 26, 25, 24, 12, 23, 22, 21, 1, 2, 3, 10, 11, 0, 4] ?_; refine Zak ?_; refine Zba ?_; refine Zbj ?_; refine Zba ?_; refine Zbj ?_
   refine Zaj (.inr rfl) (.nil) (fun w hw => ?_)
   exact ⟨_, rfl, hw.c, rfl⟩
  ·replace hc1 := dF hc1
   (exfalso; omega)
theorem LenH_nil (M : Mem) : Fs Tryz.prog 116 [.int .u64 0] M (fun v => v = .int .i64 (Lib.bitLen 0)) := fun H w hw => (Any.bits_Len (SlLaysF0.n15.bits (P := Tryz.prog) (ρ := Tryz.sortL_ren) { Tryz.sortL with }) 0 w (by omega) (by omega)).mono fun _ _ ⟨he, hw2⟩ => ⟨_, he, by rw [hw2]; exact hw, rfl⟩
theorem SortH_nil (M : Mem) (g : FuncId) : Fs Tryz.prog 122 [.slice none 0 0, .func (.func g) #[] #[]] M (fun v => v = .tuple #[]) := by
  refine Zci Tryz.func122 rfl Tryz.ntmps122 rfl ?_; intro H
  refine Zj ?_; refine Za (l := [0, 1, 2]) rfl ?_; refine Zf ?_; refine Zbb F.elem23 ?_; refine Zd ?_; refine Ze ?_; refine Zc ?_; refine Y_pk [4, 0, 1] ?_; refine Za (l := [0, 1, 2, 3, 4, 5, 6]) rfl ?_
  iterate 3 refine Zf ?_
  refine X_conv rfl rfl rfl Tryz.underlying3 Tryz.underlying144 (by exact wrap_u64_in (by decide) (by omega)) rfl ?_; refine X_fs rfl rfl F.ok116 rfl (LenH_nil M) rfl ?_
  rintro _ rfl
  refine Zf ?_; refine X_fs rfl rfl F.ok137 rfl (PdqH_nil M g _) rfl ?_
  rintro _ rfl
  refine Ze ?_
  refine Zaj (.inl rfl) (.nil) (fun w hw => ?_)
  exact ⟨_, rfl, hw.c, rfl⟩
theorem SortH_ok (M : Mem) (a : Option Addr) (c : Nat) (l : List HeldV) (hs : Hp) (ho : OSl 60 24 (.slice a l.length c) hs (l.map HeldV.segs)) (hl : l.length ≤ 1000000) : Fh Tryz.prog 122 [.slice a l.length c, .func (.func 123) #[] #[]] M hs (fun M' v Hout => M' = M ∧ v = .tuple #[] ∧ ∃ l' : List HeldV, l'.Perm l ∧ l'.Pairwise (fun x y => ¬ lessH y x < 0) ∧ OSl 60 24 (.slice a l.length c) Hout (l'.map HeldV.segs)) := by
  cases a with
  |none =>
   obtain ⟨rfl, rfl, rfl⟩ := ho.noneAll
   exact fun H w hw => (SortH_nil M 123 H w hw).mono fun e w' ⟨v, he, hst, hv⟩ => ⟨v, M, [], he, Mem.le.refl M, hst, rfl, hv, [], .refl _, .nil, OSl.nil⟩
  |some ad =>
   obtain ⟨b, rfl⟩ := ho.someAll
   exact sort_fh (f := HeldV.segs) (sz := 24) Tryz.sortL Tryz.isAgg60 Tryz.sizeOf60 (by decide) (fun x => (Segs.cells_length _).trans (HeldV.len x)) (fun x => HeldV.flat x) lessH lessH_swo 123 F.ok123 (fun M x y => row1_ok M x y) ho hl M
end Go.Proofs.YtpkeilhilpogiaaGreat
namespace Go.Proofs.YtpkeilhilpogiaaGreat
open Go.Esp
theorem F.foff151_0 : foff Tryz.prog 151 0 = some 0 := by kernel_rfl
theorem F.foff151_1 : foff Tryz.prog 151 1 = some 1 := by kernel_rfl
theorem F.lay148 : lay Tryz.prog 148 = some (false, 1) := by kernel_rfl
theorem F.lay149 : lay Tryz.prog 149 = some (false, 1) := by kernel_rfl
theorem F.zidk : IdK Tryz.prog 29 5 [.i .u8, .i .u8, .i .u8, .i .u8, .i .u8, .i .u8, .i .u8, .i .u8, .i .u8, .i .u8, .i .u8, .i .u8, .i .u8, .i .u8, .i .u8, .i .u8, .i .u8, .i .u8, .i .u8, .i .u8] := ⟨Tryz.underlying29, Tryz.underlying5, (by obtain ⟨d, i, _, h2, h3, _⟩ := lay_spec F.lay5; exact ⟨i, h2, h3⟩), F.kinds29, fun x => Zga Zez⟩
theorem bput_ok (M : Mem) (bm : Nat) (m : PM CellV) (om : Obj) (hom : pmO CellV.enc om m) (hmo : ∀ p ∈ m, CellV.ok M p.2) (two : Cel → Cel → Cel) (gt : FuncId) (hgt : okFn Tryz.prog gt = true) (htwo : TwoOk Tryz.prog gt two) (key : Plc) (c : CellV) (hc0 : CellV.ok M c) : Fh Tryz.prog 121 [aggV [.one (.map (some bm)), .one (.func (.func gt) #[] #[])], aggV [idSeg key], CellV.enc c] M [(bm, om)] (fun M' v Hout => v = .tuple #[] ∧ ∃ (c' : CellV) (om' : Obj), Hout = [(bm, om')] ∧ pmO CellV.enc om' (pmPut m key c') ∧ (c'.pl = match findS (mpl m) key with | some x => two x c.pl | none => c.pl) ∧ CellV.ok M' c') := by
  obtain ⟨c_v, c_h, c_s, ⟨c_a, c_c, c_l⟩⟩ := c
  refine Zfg Tryz.func121 rfl Tryz.ntmps121 rfl ?_; intro H
  refine Zj ?_; refine Za (l := [0, 1, 2]) rfl ?_
  refine Zcz ?_; intro b1
  refine Zcz ?_; intro b2
  refine Zcz ?_; intro b3
  refine Ze ?_; refine Zc ?_; refine Y_pk [5, 4, 3] ?_
  iterate 2 refine Zj ?_
  refine Za (l := [0, 1, 2, 3, 4, 5, 6, 7, 8, 9]) rfl ?_; refine Zb F.foff151_0 ?_; refine Zi F.lay148 ?_; refine Zi F.lay29 ?_
  obtain ⟨xg, hxg⟩ : ∃ x, (pmGet m key).getD CellV.zero = x := ⟨_, rfl⟩
  obtain ⟨ib, hib⟩ : ∃ b, (pmGet m key).isSome = b := ⟨_, rfl⟩
  refine X_lookup2P (z := CellV.zero) rfl rfl rfl rfl F.zidk Tryz.underlying148 (show _ = some (CellV.enc CellV.zero) from F.zero37) (by repeat first | exact List.Mem.head _ | refine List.Mem.tail _ ?_ | refine List.mem_append_right _ ?_) hom rfl ?_
  rw [hxg, hib]
  obtain ⟨x_v, x_h, x_s, ⟨x_a, x_c, x_l⟩⟩ := xg
  refine Zf ?_
  iterate 2 refine Zcf ?_
  refine Zby F.zero37 ?_; intro b4
  refine Zas F.lay37 ?_; refine Zd ?_; refine Ze ?_; refine Zc ?_; refine Y_pk [7, 6, 5, 4, 3] ?_; refine Zj ?_; refine Za (l := [0]) rfl ?_; refine Zf ?_; refine Ze ?_; refine Zc ?_; refine Y_pk [15, 6, 5, 4, 3] ?_
  refine Zau rfl (fun hc5 => ?_) (fun hc5 => ?_)
  ·skip
   have hgx : pmGet m key = some ⟨x_v, x_h, x_s, ⟨x_a, x_c, x_l⟩⟩ := by
    have h9 : (pmGet m key).isSome = true := by rw [hib]; assumption
    obtain ⟨x9, hx9⟩ := Option.isSome_iff_exists.1 h9
    rw [hx9] at hxg ⊢
    exact congrArg some hxg
   have okx := hmo _ (pmGet_mem hgx)
   refine Za (l := [0, 1, 2, 3, 4, 5]) rfl ?_; refine Zb F.foff151_1 ?_; refine Zi F.lay149 ?_
   iterate 2 refine Zi F.lay37 ?_
   refine X_foV (caps := []) rfl rfl rfl hgt rfl rfl ((htwo M ⟨x_v, x_h, x_s, ⟨x_a, x_c, x_l⟩⟩ ⟨c_v, c_h, c_s, ⟨c_a, c_c, c_l⟩⟩ okx hc0).fo []) (Rem.here _) (Zbq rfl) ?_
   rintro _ M1 hm1 ⟨⟨y_v, y_h, y_s, ⟨y_a, y_c, y_l⟩⟩, rfl, hy, oky⟩
   refine Zas F.lay37 ?_; refine Ze ?_; refine Zc ?_; refine Y_pk [5, 4, 3] ?_; refine Za (l := [0, 1, 2, 3, 4]) rfl ?_; refine Zb F.foff151_0 ?_; refine Zi F.lay148 ?_; refine Zi F.lay29 ?_; refine Zi F.lay37 ?_
   refine X_mapUpdateP (v := (⟨y_v, y_h, y_s, ⟨y_a, y_c, y_l⟩⟩ : CellV)) rfl rfl rfl rfl rfl F.zidk Tryz.underlying148 hom (by repeat first | exact List.Mem.head _ | refine List.Mem.tail _ ?_ | refine List.mem_append_right _ ?_) ?_; intro o2 him2; refine ⟨_, (by repeat first | exact Upd.head | apply Upd.tail | apply Upd.over), ?_⟩
   refine Ze ?_
   refine Zaj (.inl rfl) (.nil) (fun w hw => ?_)
   exact ⟨_, M1, [(bm, o2)], rfl, hm1, hw.c, rfl, ⟨y_v, y_h, y_s, ⟨y_a, y_c, y_l⟩⟩, o2, rfl, him2, by rw [← mpl_get, hgx]; exact hy, oky⟩
  ·skip
   refine Zax ?_; refine Zc ?_; refine Y_pk [5, 4, 3] ?_; refine Za (l := [0, 1, 2, 3, 4]) rfl ?_; refine Zb F.foff151_0 ?_; refine Zi F.lay148 ?_; refine Zi F.lay29 ?_; refine Zi F.lay37 ?_
   refine X_mapUpdateP (v := (⟨c_v, c_h, c_s, ⟨c_a, c_c, c_l⟩⟩ : CellV)) rfl rfl rfl rfl rfl F.zidk Tryz.underlying148 hom (by repeat first | exact List.Mem.head _ | refine List.Mem.tail _ ?_ | refine List.mem_append_right _ ?_) ?_; intro o2 him2; refine ⟨_, (by repeat first | exact Upd.head | apply Upd.tail | apply Upd.over), ?_⟩
   refine Ze ?_
   refine Zaj (.inl rfl) (.nil) (fun w hw => ?_)
   have hgn : pmGet m key = none := by
    have h9 : (pmGet m key).isSome = false := by rw [hib]; assumption
    simpa using h9
   exact ⟨_, M, [(bm, o2)], rfl, Mem.le.refl M, hw.c, rfl, ⟨c_v, c_h, c_s, ⟨c_a, c_c, c_l⟩⟩, o2, rfl, him2, by rw [← mpl_get, hgn]; rfl, hc0⟩
end Go.Proofs.YtpkeilhilpogiaaGreat
namespace Go.Proofs.YtpkeilhilpogiaaGreat
open Go.Esp
theorem F.bld151 : Bld Tryz.prog 151 [[.one (.map none)], [.one .nilFunc]] := ⟨by kernel_rfl, by kernel_rfl⟩
theorem F.elem159 : slOf Tryz.prog 159 = some (23, 1, 24) := by kernel_rfl
theorem F.lay151 : lay Tryz.prog 151 = some (true, 2) := by kernel_rfl
theorem F.lay23 : lay Tryz.prog 23 = some (false, 1) := by kernel_rfl
theorem F.ok121 : okFn Tryz.prog 121 = true := by kernel_rfl
theorem F.zero151 : zeroOf Tryz.prog 151 = some (aggV [.one (.map none), .one .nilFunc]) := by kernel_rfl
theorem bof_ok (M : Mem) (all : Sl (Sl HeldV)) (two : Cel → Cel → Cel) (gt : FuncId) (hgt : okFn Tryz.prog gt = true) (htwo : TwoOk Tryz.prog gt two) (k_all : SlK M (fun x => [.one (Sl.val x)]) 1 all) (hall : ∀ s ∈ all.l, SlK M HeldV.segs 24 s ∧ ∀ h ∈ s.l, HeldV.ok M h) (hcel : ∀ s ∈ all.l, ∀ h ∈ s.l, IsCel h.cell.pl) (ht : Keeps2 two) : Fh Tryz.prog 112 [.func (.func gt) #[] #[], Sl.val all] M [] (fun M' v Hout => ∃ (bm : Nat) (om : Obj) (m : PM CellV), v = aggV [.one (.map (some bm)), .one (.func (.func gt) #[] #[])] ∧ Hout = [(bm, om)] ∧ pmO CellV.enc om m ∧ (mpl m).Perm (ofS two (all.l.map fun s => pls s.l)) ∧ ∀ p ∈ m, CellV.ok M' p.2) := by
  obtain ⟨all_a, all_c, all_l⟩ := all
  simp only at hall hcel
  have s_all := k_all.h1
  simp only at s_all
  have m_all : all_l.length ≤ 9223372036854775807 := k_all.h2
  have n_all : (all_l.map fun x => ([.one (Sl.val x)] : Segs)).length = all_l.length := List.length_map ..
  refine Zfg Tryz.func112 rfl Tryz.ntmps112 rfl ?_; intro H
  refine Zj ?_; refine Za (l := [0]) rfl ?_
  refine Zby F.zero151 ?_; intro b1
  refine Ze ?_; refine Zc ?_; refine Zj ?_; refine Za (l := [0, 1, 2, 3, 4]) rfl ?_
  refine X_makeMap rfl rfl rfl ?_; intro b2
  refine Zf ?_; refine Zbv rfl rfl F.bld151 (.cons rfl (by constructor) (.cons rfl (by constructor) .nil)) rfl rfl ?_
  refine Zby F.zero151 ?_; intro b3
  refine Zas F.lay151 ?_; refine Ze ?_; refine Zc ?_; refine Y_pk [5, 4, 1] ?_
  iterate 2 refine Zj ?_
  refine Za (l := [0, 1, 2]) rfl ?_; refine Zf ?_; refine Zbb F.elem159 ?_; refine Zf ?_; refine Ze ?_; refine Zc ?_; refine Y_pk [15, 14, 13, 5, 4] ?_; refine Zbe ?_; refine Y_pk [15, 14, 13, 5, 4] ?_; refine Zeo (Hin := [(b2, .map #[] 0)]) (.succ .zero) (by repeat first | exact Rem.here _ | exact Rem.two | apply Rem.skip | apply Rem.over) (fun (k : Nat) M1 h1 z => ∃ (m : PM CellV) (om : Obj), z = [(15, .int .i64 (k : Int))] ∧ k ≤ all_l.length ∧ h1 = [(b2, om)] ∧ pmO CellV.enc om m ∧ (mpl m).Perm (ofS two ((all_l.map fun s : Sl HeldV => pls s.l).take (k))) ∧ ∀ p ∈ m, CellV.ok M1 p.2) (fun k => all_l.length - k) (0) (⟨[], _, rfl, by omega, rfl, pmO.nil _, by simp [ofS, mpl], fun p hp => by cases hp⟩) ?_
  rintro k M1 h1 z hm1 ⟨m, om, rfl, hk, rfl, hom, hpm, hmo⟩
  have s_all1 := s_all.mono hm1
  refine Zj ?_; refine Za (l := [0]) rfl ?_; refine Zav ?_; refine Ze ?_; refine Zc ?_; refine Zj ?_
  refine Zau rfl (fun hc4 => ?_) (fun hc4 => ?_)
  ·replace hc4 := dT hc4
   refine Zax ?_; refine Zc ?_; refine Zj ?_; refine Zbe ?_; refine Zj ?_; refine Za (l := [0, 1, 2]) rfl ?_; refine Zaa rfl rfl rfl rfl F.elem159 (by rfl) (by omega) (by exact SlM.plain (by assumption) (by (simp; omega))) rfl ?_; refine Zay rfl rfl rfl (by assumption) (by exact Zbl (by omega)) F.lay23 rfl rfl rfl ?_
   obtain ⟨⟨q_a, q_c, q_l⟩, hq⟩ : ∃ q, all_l[k]'(by omega) = q := ⟨_, rfl⟩
   rw [hq]
   have hqm : (⟨q_a, q_c, q_l⟩ : Sl HeldV) ∈ all_l := by rw [← hq]; exact List.getElem_mem (by omega)
   obtain ⟨k_q, l_q⟩ := hall _ hqm
   have hcq := hcel _ hqm
   try simp only at l_q hcq
   have s_q1 := k_q.h1.mono hm1
   try simp only at s_q1
   have m_q : q_l.length ≤ 9223372036854775807 := k_q.h2
   have n_q : (q_l.map HeldV.segs).length = q_l.length := List.length_map ..
   refine Zd ?_; refine Ze ?_; refine Zc ?_; refine Zj ?_; refine Za (l := [0, 1, 2]) rfl ?_; refine Zf ?_; refine Zbb F.elem23 ?_; refine Zf ?_; refine Ze ?_; refine Zc ?_; refine Zbe ?_; refine Y_pk [21, 20, 19, 7, 18, 17, 16, 15, 14, 13, 5, 4] ?_; refine Zeo (Hin := [(b2, om)]) (.succ .zero) (by repeat first | exact Rem.here _ | exact Rem.two | apply Rem.skip | apply Rem.over) (fun (j : Nat) M2 h2 z => ∃ (m2 : PM CellV) (om2 : Obj), z = [(21, .int .i64 (j : Int))] ∧ j ≤ q_l.length ∧ h2 = [(b2, om2)] ∧ pmO CellV.enc om2 m2 ∧ (mpl m2).Perm ((pls (q_l.take (j))).foldl (blendS two) (ofS two ((all_l.map fun s : Sl HeldV => pls s.l).take (k)))) ∧ ∀ p ∈ m2, CellV.ok M2 p.2) (fun j => q_l.length - j) (0) (⟨m, om, rfl, by omega, rfl, hom, by simpa [pls] using hpm, hmo⟩) ?_
   rintro j M2 h2 z hm2 ⟨m2, om2, rfl, hj, rfl, hom2, hpm2, hmo2⟩
   have s_q2 := s_q1.mono hm2
   try simp only at s_q2
   refine Zj ?_; refine Za (l := [0]) rfl ?_; refine Zav ?_; refine Ze ?_; refine Zc ?_; refine Zj ?_
   refine Zau rfl (fun hc5 => ?_) (fun hc5 => ?_)
   ·replace hc5 := dT hc5
    refine Zax ?_; refine Zc ?_; refine Zj ?_; refine Zbe ?_; refine Zj ?_; refine Za (l := [0, 1, 2, 3]) rfl ?_; refine Zaa rfl rfl rfl rfl F.elem23 (by rfl) (by omega) (by exact SlM.plain (by assumption) (by (simp; omega))) rfl ?_; refine Zay rfl rfl rfl (by assumption) (by exact Zbl (by omega)) F.lay60 rfl rfl rfl ?_
    refine Zby F.zero60 ?_; intro b6
    refine Zas F.lay60 ?_; refine Ze ?_; refine Zc ?_; refine C_regionR (l := [0, 1, 2, 3, 4, 5]) (Hin := [(b2, om2)]) (by repeat first | exact Rem.here _ | exact Rem.two | apply Rem.skip | apply Rem.over) rfl ?_; refine Zi F.lay151 ?_; refine Zb F.foff60_0 ?_; refine Zi F.lay29 ?_; refine Zb F.foff60_1 ?_; refine Zi F.lay37 ?_; refine Zgy rfl rfl F.ok121 rfl (bput_ok _ b2 m2 om2 hom2 hmo2 two gt hgt htwo q_l[j].key q_l[j].cell ((l_q _ (List.getElem_mem (by omega))).h0.mono (hm1.trans hm2))) (by repeat first | exact Rem.here _ | exact Rem.two | apply Rem.skip | apply Rem.over) (fun _ _ _ hm hw => (hw.lower (by exact hm)).c) (Zbq rfl) ?_
    rintro _ M3 _ hm3 ⟨rfl, c9, om3, rfl, hom3, hc9, okc9⟩
    refine Ze ?_; refine Zde ?_; refine Zc ?_; refine Y_pk [29, 28, 27, 26, 25, 9, 24, 23, 22, 21, 20, 19, 7, 18, 17, 16, 15, 14, 13, 5, 4] ?_; refine Za (l := [0, 1]) rfl ?_; refine Zcc rfl rfl rfl rfl rfl (by exact Zbf (by decide) (by omega)) rfl ?_; refine Zf ?_; refine Ze ?_; refine Zcr (a' := [(21, _)]) (j + 1) ([(b2, om3)]) (.cons (k := 21) rfl (.cons (k := 20) rfl (.cons (k := 19) rfl (.cons (k := 7) rfl (.cons (k := 18) rfl (.cons (k := 17) rfl (.cons (k := 16) rfl (.cons (k := 15) rfl (.cons (k := 14) rfl (.cons (k := 13) rfl (.cons (k := 5) rfl (.cons (k := 4) rfl (.nil))))))))))))) (hm2.trans hm3) (fun w hw => by first | exact hw | exact hw.c) ?_ ?_
    ·refine ⟨pmPut m2 q_l[j].key c9, om3, rfl, by omega, rfl, hom3, ?_, fun p hp => ?_⟩
     ·have hSj : StOk ((pls (q_l.take (j))).foldl (blendS two) (ofS two ((all_l.map fun s : Sl HeldV => pls s.l).take (k)))) := foldB_ok ht (ofS_ok ht (fun s hs x hx => by
       obtain ⟨s9, h1, rfl⟩ := List.mem_map.1 (List.mem_of_mem_take hs)
       obtain ⟨y, hy, rfl⟩ := List.mem_map.1 hx
       exact hcel s9 h1 y hy)) (fun x hx => by
       obtain ⟨y, hy, rfl⟩ := List.mem_map.1 hx
       exact hcq y (List.mem_of_mem_take hy))
      have h9 := blend_map ht hSj hpm2 (k := q_l[j].key) (c := q_l[j].cell) (hcq _ (List.getElem_mem (by omega))) hc9
      have e9 : ((pls (q_l.take (j + 1))).foldl (blendS two) (ofS two ((all_l.map fun s : Sl HeldV => pls s.l).take (k)))) = blendS two ((pls (q_l.take (j))).foldl (blendS two) (ofS two ((all_l.map fun s : Sl HeldV => pls s.l).take (k)))) ⟨q_l[j].key, q_l[j].cell.pl⟩ := by
       unfold pls
       rw [List.map_take, List.map_take, foldB_step (by simpa using (show j < q_l.length by omega)), List.getElem_map]; rfl
      rw [e9]
      exact h9
     ·rcases put_mem hp with rfl | hp
      ·exact okc9
      ·exact (hmo2 p hp).mono hm3
    ·omega
   ·replace hc5 := dF hc5
    refine Zcm ?_
    iterate 2 refine Zcd ?_
    refine Zdl ?_; refine Zde ?_; refine Zc ?_; refine Za (l := [0, 1]) rfl ?_; refine Zcc rfl rfl rfl rfl rfl (by exact Zbf (by decide) (by omega)) rfl ?_; refine Zf ?_; refine Ze ?_; refine Zcr (a' := [(15, _)]) (k + 1) ([(b2, om2)]) (.cons (k := 15) rfl (.cons (k := 14) rfl (.cons (k := 13) rfl (.cons (k := 5) rfl (.cons (k := 4) rfl (.nil)))))) (hm1.trans hm2) (fun w hw => by first | exact hw | exact hw.c) ?_ ?_
    ·refine ⟨m2, om2, rfl, by omega, rfl, hom2, ?_, hmo2⟩
     obtain rfl : j = q_l.length := by omega
     rw [List.take_length] at hpm2
     rw [ofS_step (by simpa using (show k < all_l.length by omega))]
     have e9 : (all_l.map fun s : Sl HeldV => pls s.l)[k]'(by simpa using (show k < all_l.length by omega)) = pls q_l := by rw [List.getElem_map, hq]
     rw [e9]
     exact hpm2
    ·omega
  ·replace hc4 := dF hc4
   refine Zcm ?_
   iterate 2 refine Zcd ?_
   refine Zdl ?_; refine Zc ?_; refine Y_pk [5, 4] ?_; refine Zj ?_; refine Za (l := [0, 1]) rfl ?_; refine Zi F.lay151 ?_; refine Zas F.lay151 ?_; refine Ze ?_; refine Zc ?_; refine Y_pk [4] ?_; refine Zak ?_
   refine Zaj (.inr rfl) (.cell rfl (by repeat first | exact List.Mem.head _ | refine List.Mem.tail _ ?_ | refine List.mem_append_right _ ?_) F.lay151 rfl rfl .nil) (fun w hw => ?_)
   obtain rfl : k = all_l.length := by omega
   rw [List.take_of_length_le (by simp)] at hpm
   exact ⟨_, M1, [(b2, om)], rfl, hm1, hw.c, b2, om, m, rfl, rfl, hom, hpm, hmo⟩
end Go.Proofs.YtpkeilhilpogiaaGreat
namespace Go.Proofs.YtpkeilhilpogiaaGreat
open Go.Esp
theorem F.bld60 : Bld Tryz.prog 60 [[idSeg 0], [.one (.int .u64 0), .one (.bool false), .one (.string ⟨#[]⟩), .one (.slice none 0 0)]] := by rw [idSeg0]; exact ⟨by kernel_rfl, by kernel_rfl⟩
theorem F.ok122 : okFn Tryz.prog 122 = true := by kernel_rfl
theorem F.zero29 : zeroOf Tryz.prog 29 = some (aggV [idSeg 0]) := by rw [idSeg0]; kernel_rfl
theorem brow_ok (M : Mem) (bm : Nat) (m : PM CellV) (om : Obj) (hom : pmO CellV.enc om m) (hmo : ∀ p ∈ m, CellV.ok M p.2) (gt : FuncId) (S : List Hd) (hS : StOk S) (hpm : (mpl m).Perm S) : Fh Tryz.prog 114 [aggV [.one (.map (some bm)), .one (.func (.func gt) #[] #[])]] M [(bm, om)] (fun M' v Hout => Hout = [] ∧ StE M' v (fullR S)) := by
  have hms : m.length = S.length := by have := hpm.length_eq; simpa [mpl] using this
  refine Zfg Tryz.func114 rfl Tryz.ntmps114 rfl ?_; intro H
  refine Zj ?_; refine Za (l := [0, 1, 2]) rfl ?_
  refine Zcz ?_; intro b1
  iterate 2 refine Zd ?_
  refine Ze ?_; refine Zc ?_; refine Y_pk [3, 2, 1] ?_
  iterate 2 refine Zj ?_
  refine Za (l := [0, 1, 2, 3]) rfl ?_; refine Zb F.foff151_0 ?_; refine Zi F.lay148 ?_; refine X_len_mapP rfl rfl rfl rfl Tryz.underlying148 (by repeat first | exact List.Mem.head _ | refine List.Mem.tail _ ?_ | refine List.mem_append_right _ ?_) hom rfl ?_; refine Zav ?_; refine Ze ?_; refine Zc ?_; refine Y_pk [10, 3, 2, 1] ?_
  refine Zau rfl (fun hc2 => ?_) (fun hc2 => ?_)
  ·replace hc2 := dT hc2
   refine Zj ?_; refine Za (l := [0, 1]) rfl ?_
   iterate 2 refine Zd ?_
   refine Ze ?_; refine Zc ?_; refine Y_pk [3, 2, 1] ?_; refine Zak ?_; refine Zba ?_
   refine Zaj (.inr rfl) (.tmp rfl (.tmp rfl .nil)) (fun w hw => ?_)
   refine ⟨_, M, [], rfl, Mem.le.refl M, hw.c, rfl, ?_⟩
   rw [show fullR S = ([], 12) from if_pos (by omega)]
   exact StE.nil
  ·replace hc2 := dF hc2
   refine Zax ?_; refine Zc ?_; refine Y_pk [3, 2, 1] ?_; refine Zj ?_; refine Za (l := [0]) rfl ?_; refine Zd ?_; refine Ze ?_; refine Zc ?_
   iterate 2 refine Zj ?_
   refine Za (l := [0, 1, 2]) rfl ?_; refine Zb F.foff151_0 ?_; refine Zi F.lay148 ?_
   refine X_rangeP rfl rfl rfl Tryz.underlying148 (by repeat first | exact List.Mem.head _ | refine List.Mem.tail _ ?_ | refine List.mem_append_right _ ?_) hom rfl ?_; intro r1 oi1 hit1
   refine Ze ?_; refine Zc ?_; refine Y_pk [13, 4, 3, 2] ?_; refine Zbe ?_; refine Y_pk [4, 13, 3, 2] ?_; refine Zeo (Hin := [(r1, oi1)]) (.succ .zero) (by repeat first | exact Rem.here _ | exact Rem.two | apply Rem.skip | apply Rem.over) (fun (k : Nat) M1 h1 z => ∃ (sv : PM CellV) (oi : Obj) (v : Value) (hs : Hp), M1 = M ∧ z = [(4, v)] ∧ k = sv.length ∧ itO CellV.enc bm oi om m sv ∧ OSl 60 24 v hs ((sv.map mkH).map HeldV.segs) ∧ h1 = (r1, oi) :: hs) (fun k => m.length - k) (0) (⟨[], oi1, _, [], rfl, rfl, rfl, hit1, OSl.nil, rfl⟩) ?_
   rintro k M1 h1 z hm1 ⟨sv, oi, v0, hs, hM1, rfl, hk, hit, ho, rfl⟩
   subst hM1
   obtain ⟨ad0, cp0, rfl⟩ := ho.valL
   have hsl := hit.len
   have hml : ((sv.map mkH).map HeldV.segs).length = (sv.map mkH).length := List.length_map ..
   have hml2 : (sv.map mkH).length = sv.length := List.length_map ..
   refine Zj ?_; refine Za (l := [0, 1]) rfl ?_; refine X_nextP rfl rfl rfl (by repeat first | exact List.Mem.head _ | refine List.Mem.tail _ ?_ | refine List.mem_append_right _ ?_) (by repeat first | exact List.Mem.head _ | refine List.Mem.tail _ ?_ | refine List.mem_append_right _ ?_) hit rfl ?_ ?_
   ·intro p oi2 hp hit2
    obtain ⟨pk, ⟨p_v, p_h, p_s, ⟨p_a, p_c, p_l⟩⟩⟩ := p
    refine ⟨_, (by repeat first | exact Upd.head | apply Upd.tail | apply Upd.over), ?_⟩
    refine Zcf ?_; refine Ze ?_; refine Zc ?_; refine Zj ?_; refine Zcy rfl ?_; refine Zax ?_; refine Zc ?_; refine Zbe ?_; refine Zj ?_; refine Za (l := [0, 1, 2, 3, 4, 5, 6]) rfl ?_; refine X_entryP rfl rfl rfl (by repeat first | exact List.Mem.head _ | refine List.Mem.tail _ ?_ | refine List.mem_append_right _ ?_) (by repeat first | exact List.Mem.head _ | refine List.Mem.tail _ ?_ | refine List.mem_append_right _ ?_) hit2 rfl ?_; refine Zcf ?_; refine Zgq 17 rfl (show keyV pk = aggV [idSeg pk] from rfl) ?_; refine Zcf ?_
    refine Zby F.zero29 ?_; intro b3
    refine Zby F.zero37 ?_; intro b4
    refine Zas F.lay29 ?_; refine Zas F.lay37 ?_; refine Ze ?_; refine Zc ?_; refine Za (l := [0, 1, 2, 3, 4, 5, 6]) rfl ?_; refine Zf ?_; refine Zi F.lay29 ?_; refine Zi F.lay37 ?_; refine Zbv rfl rfl F.bld60 (.cons rfl (by constructor) (.cons rfl (by constructor) .nil)) rfl rfl ?_
    refine Zbt rfl rfl F.elem23 F.zero60 rfl rfl (.cons rfl (by constructor) .nil) rfl rfl (by simp only [List.map_cons, List.map_nil] <;> rfl) rfl ?_; intro b5 hob6
    refine Zdn (m := 1000000) rfl rfl rfl rfl rfl F.elem23 F.zero60 (by exact Zei rfl) rfl (by assumption) (by repeat first | exact Rem.here _ | exact Rem.two | apply Rem.skip | apply Rem.over) (Src.own hob6.lens (by (refine Zdy ?_; (repeat (first | exact Zbp | refine Zcb ?_ | (refine Zam ?_ ?_; rfl))); done)) rfl (by repeat first | exact List.Mem.head _ | refine List.Mem.tail _ ?_ | refine List.mem_append_right _ ?_)) (by (simp; omega)) (by decide) rfl ?_; intro v9 hs8 ho7; obtain ⟨adv9, cpv9, rfl⟩ := ho7.val
    refine Zd ?_; refine Ze ?_; refine Zde ?_; refine Zcr (a' := [(4, _)]) (k + 1) (((r1, oi2) :: hs8)) (.cons (k := 4) rfl (.cons (k := 13) rfl (.cons (k := 3) rfl (.cons (k := 2) rfl (.nil))))) (by exact Mem.le.refl _) (fun w hw => by first | exact hw | exact hw.c) ?_ ?_
    ·refine ⟨sv ++ [(pk, (⟨p_v, p_h, p_s, ⟨p_a, p_c, p_l⟩⟩ : CellV))], oi2, _, _, rfl, rfl, by simp [hk], hit2, ?_, rfl⟩
     rw [List.map_append, List.map_append]
     exact ho7
    ·have h9 := hit2.len; simp at h9; omega
   ·intro hperm
    refine Zcf ?_; refine Ze ?_; refine Zc ?_; refine Zj ?_; refine Zeu rfl ?_; refine Zcm ?_
    iterate 2 refine Zcd ?_
    refine Zdl ?_; refine Zc ?_; refine Y_pk [4, 3, 2] ?_; refine Zj ?_; refine C_regionR (l := [0, 1]) (Hin := hs) (by repeat first | exact Rem.here _ | exact Rem.two | apply Rem.skip | apply Rem.over) rfl ?_; refine Zf ?_; refine Zgy rfl rfl F.ok122 rfl (SortH_ok _ ad0 cp0 (sv.map mkH) hs ho (by omega)) (by repeat first | exact Rem.here _ | exact Rem.two | apply Rem.skip | apply Rem.over) (fun _ _ _ hm hw => (hw.lower (by exact hm)).c) (Zbq rfl) ?_
    rintro _ M3 hs9 hm3 ⟨hM3, rfl, l9, hp9, hsw9, ho9⟩; subst M3
    refine Ze ?_; refine Zc ?_; refine Y_pk [4, 3, 2] ?_; refine Zj ?_; refine Za (l := [0, 1, 2]) rfl ?_; refine Zf ?_
    iterate 2 refine Zd ?_
    refine Ze ?_; refine Zc ?_; refine Y_pk [3, 2] ?_; refine Zak ?_
    refine Zaj (.inr rfl) (.tmp rfl (.tmp rfl .nil)) (fun w hw => ?_)
    have hw9 : St _ (hs9 ++ H) w := hw.c
    obtain ⟨M9, s9, g1, g2, g3, g4, g5⟩ := ho9.freezeK hw9
    refine ⟨_, M9, [], rfl, g1, g2, rfl, ?_⟩
    rw [show fullR S = (S, 0) from if_neg (by omega)]
    refine ⟨s9, congrArg (fun v => Value.tuple #[v, .int .i64 0]) g3, ?_, g5, fun h hh => ?_⟩
    ·rw [g4]
     refine row_sorted hsw9 ?_ hS.2
     have h1 : (pls l9).Perm (pls (sv.map mkH)) := hp9.map _
     rw [mkH_pl] at h1
     exact (h1.trans (hperm.map _)).trans hpm
    ·rw [g4] at hh
     obtain ⟨p9, hp8, rfl⟩ := List.mem_map.1 (hp9.mem_iff.1 hh)
     exact ⟨(hmo _ (hit.mem _ hp8)).mono g1⟩
end Go.Proofs.YtpkeilhilpogiaaGreat
namespace Go.Proofs.YtpkeilhilpogiaaGreat
open Go.Esp
theorem F.ok112 : okFn Tryz.prog 112 = true := by kernel_rfl
theorem F.ok113 : okFn Tryz.prog 113 = true := by kernel_rfl
theorem F.ok114 : okFn Tryz.prog 114 = true := by kernel_rfl
theorem F.ok38 : okFn Tryz.prog 38 = true := by kernel_rfl
theorem F.zero23 : zeroOf Tryz.prog 23 = some ((.slice none 0 0)) := by kernel_rfl
theorem bofF_ok (M : Mem) (a : Option Addr) (c : Nat) (all : List (Sl HeldV)) (hs1 hs2 : Hp) (two : Cel → Cel → Cel) (gt : FuncId) (hgt : okFn Tryz.prog gt = true) (htwo : TwoOk Tryz.prog gt two) (ho : OSl 23 1 (.slice a all.length c) hs2 (all.map fun x => ([.one (Sl.val x)] : Segs))) (hfz : ∀ (w : World) (H : Hp), St M (hs1 ++ H) w → ∃ M1, M.le M1 ∧ St M1 H w ∧ ∀ s ∈ all, SlK M1 HeldV.segs 24 s ∧ ∀ h ∈ s.l, HeldV.ok M1 h) (hcel : ∀ s ∈ all, ∀ h ∈ s.l, IsCel h.cell.pl) (ht : Keeps2 two) : Fh Tryz.prog 112 [.func (.func gt) #[] #[], .slice a all.length c] M (hs2 ++ hs1) (fun M' v Hout => ∃ (bm : Nat) (om : Obj) (m : PM CellV), v = aggV [.one (.map (some bm)), .one (.func (.func gt) #[] #[])] ∧ Hout = [(bm, om)] ∧ pmO CellV.enc om m ∧ (mpl m).Perm (ofS two (all.map fun s => pls s.l)) ∧ ∀ p ∈ m, CellV.ok M' p.2) := fun H w hw => by
  have hw1 : St M (hs1 ++ (hs2 ++ H)) w := hw.perm0 (by rw [List.append_assoc]; exact (List.perm_append_comm_assoc hs2 hs1 H))
  obtain ⟨M1, h1, h2, h3⟩ := hfz w _ hw1
  obtain ⟨M2, h4, h5, h6⟩ := ho.frz h2
  exact (bof_ok M2 ⟨a, c, all⟩ two gt hgt htwo h6 (fun s hs => ⟨(h3 s hs).1.mono h4, fun h hh => ((h3 s hs).2 h hh).mono h4⟩) hcel ht H w h5).mono fun e w2 ⟨v, M3, Ho, g1, g2, g3, g4⟩ => ⟨v, M3, Ho, g1, (h1.trans h4).trans g2, g3, g4⟩
theorem Put_ok (M : Mem) (s : (Sl HeldV)) (key : Plc) (c : CellV) (hs0 : SlK M HeldV.segs 24 s) (hs1 : ∀ y ∈ (s).l, HeldV.ok M y) (hc2 : CellV.ok M c) : Esp.Fn Tryz.prog 94 [Sl.val s, aggV [idSeg key], c.enc] M (fun M' v => StE M' v (putR (pls s.l) key c.pl)) := by
  obtain ⟨s_a, s_c, s_l⟩ := s
  obtain ⟨Zbg, Zdv, Zdx, ⟨Zbi, Zbh, Zu⟩⟩ := c
  have k_s : SlK M HeldV.segs 24 ⟨s_a, s_c, s_l⟩ := hs0
  have s_s : SlM M s_a (s_l.map HeldV.segs) 24 := k_s.h1
  have n_s : (s_l.map HeldV.segs).length = s_l.length := List.length_map ..
  have m_s : s_l.length ≤ 9223372036854775807 := k_s.h2
  have c_s : s_l.length ≤ s_c := k_s.h3
  have l_s : ∀ y ∈ s_l, HeldV.ok M y := hs1
  have Zbs : SlK M MarkV.segs 6 ⟨Zbi, Zbh, Zu⟩ := hc2.h0
  have s_c_marks : SlM M Zbi (Zu.map MarkV.segs) 6 := Zbs.h1
  have n_c_marks : (Zu.map MarkV.segs).length = Zu.length := List.length_map ..
  have m_c_marks : Zu.length ≤ 9223372036854775807 := Zbs.h2
  have c_c_marks : Zu.length ≤ Zbh := Zbs.h3
  show Esp.Fn _ _ _ _ (fun M' v => StE M' v (putR (pls s_l) key (CellV.pl ⟨Zbg, Zdv, Zdx, ⟨Zbi, Zbh, Zu⟩⟩)))
  refine Zek Tryz.func94 rfl Tryz.ntmps94 rfl ?_; intro H
  refine Zj ?_; refine Za (l := [0, 1, 2, 3]) rfl ?_
  refine Zcz ?_; intro b1
  refine Zcz ?_; intro b2
  iterate 2 refine Zd ?_
  refine Ze ?_; refine Zc ?_; refine Y_pk [7, 6, 5, 4, 0] ?_
  iterate 2 refine Zj ?_
  refine Za (l := [0, 1, 2, 3, 4, 5, 6, 7]) rfl ?_; refine Zf ?_; refine X_fs rfl rfl F.ok38 rfl (StIs_ok _ ⟨_, _, _⟩ (by assumption) (by assumption)) rfl ?_
  rintro _ rfl
  refine Zel ?_; refine Zf ?_
  refine Zag 11 rfl (fun hc3 => ?_) (fun hc3 => ?_)
  ·replace hc3 := nT hc3
   simp only [AnswerV.eta, MarkV.eta, CellV.eta, HeldV.eta, WaitV.eta, ServerV.eta, PeerV.eta, OpV.eta, ParcelV.eta, PostV.eta, WorkerV.eta] at hc3
   iterate 3 refine Zz ?_
   refine Zl ?_; refine Ze ?_; refine Zc ?_; refine Y_pk [15, 7, 6, 5, 4, 0] ?_; refine Zcy rfl ?_; refine Zj ?_; refine Za (l := [0, 1]) rfl ?_
   iterate 2 refine Zd ?_
   refine Ze ?_; refine Zc ?_; refine Y_pk [7, 6, 5, 4, 0] ?_; refine Zak ?_; refine Zba ?_
   refine Zaj (.inr rfl) (.tmp rfl (.tmp rfl .nil)) (fun w hw => ?_)
   refine ⟨_, M, rfl, Mem.le.refl M, hw.c, ?_⟩
   rw [show putR (pls s_l) key (CellV.pl ⟨Zbg, Zdv, Zdx, ⟨Zbi, Zbh, Zu⟩⟩) = ([], 1) from if_neg (by rintro ⟨g1, g2⟩; contradiction)]
   exact StE.nil
  ·replace hc3 := nF hc3
   simp only [AnswerV.eta, MarkV.eta, CellV.eta, HeldV.eta, WaitV.eta, ServerV.eta, PeerV.eta, OpV.eta, ParcelV.eta, PostV.eta, WorkerV.eta] at hc3
   refine Zi F.lay37 ?_; refine X_fs rfl rfl F.ok47 rfl (CelIs_ok _ ⟨Zbg, Zdv, Zdx, ⟨Zbi, Zbh, Zu⟩⟩ hc2) rfl ?_
   rintro _ rfl
   refine Zel ?_; refine Zl ?_; refine Ze ?_; refine Zc ?_; refine Y_pk [15, 7, 6, 5, 4, 0] ?_
   refine Zau rfl (fun hc4 => ?_) (fun hc4 => ?_)
   ·replace hc4 := nT hc4
    refine Zj ?_; refine Za (l := [0, 1]) rfl ?_
    iterate 2 refine Zd ?_
    refine Ze ?_; refine Zc ?_; refine Y_pk [7, 6, 5, 4, 0] ?_; refine Zak ?_; refine Zba ?_
    refine Zaj (.inr rfl) (.tmp rfl (.tmp rfl .nil)) (fun w hw => ?_)
    refine ⟨_, M, rfl, Mem.le.refl M, hw.c, ?_⟩
    rw [show putR (pls s_l) key (CellV.pl ⟨Zbg, Zdv, Zdx, ⟨Zbi, Zbh, Zu⟩⟩) = ([], 1) from if_neg (by rintro ⟨g1, g2⟩; contradiction)]
    exact StE.nil
   ·replace hc4 := nF hc4
    refine Zax ?_; refine Zc ?_; refine Y_pk [7, 6, 5, 4, 0] ?_; refine Zj ?_
    have hst0 : IsSt (pls s_l) := by assumption
    have hcc : IsCel (CellV.pl ⟨Zbg, Zdv, Zdx, ⟨Zbi, Zbh, Zu⟩⟩) := by assumption
    refine Za (l := [0, 1, 2, 3, 4, 5, 6, 7, 8, 9, 10, 11]) rfl ?_; refine Zf ?_; refine Zi F.lay29 ?_; refine Zi F.lay37 ?_; refine Zbv rfl rfl F.bld60 (.cons rfl (by constructor) (.cons rfl (by constructor) .nil)) rfl rfl ?_
    refine Zbt rfl rfl F.elem23 F.zero60 rfl rfl (.cons rfl (by constructor) .nil) rfl rfl (by simp only [List.map_cons, List.map_nil] <;> rfl) rfl ?_; intro b5 hob6
    refine Zbt rfl rfl F.elem159 F.zero23 rfl rfl (.cons rfl (by constructor) (.cons rfl (by constructor) .nil)) rfl rfl (by simp only [List.map_cons, List.map_nil] <;> rfl) rfl ?_; intro b7 hob8
    have hcel : ∀ s ∈ ([⟨s_a, s_c, s_l⟩, ⟨some ⟨b5, 0, none⟩, 1, [⟨key, ⟨Zbg, Zdv, Zdx, ⟨Zbi, Zbh, Zu⟩⟩⟩]⟩] : List (Sl HeldV)), ∀ h ∈ s.l, IsCel h.cell.pl := fun s hs h hh => by
     rcases List.mem_cons.1 hs with rfl | hs
     ·exact hst0.2.1 _ (List.mem_map_of_mem hh)
     ·obtain rfl := List.mem_singleton.1 hs
      obtain rfl := List.mem_singleton.1 hh
      exact hcc
    have hfz : ∀ (w : World) (H : Hp), St M (_ ++ H) w → ∃ M1, M.le M1 ∧ St M1 H w ∧ ∀ s ∈ ([⟨s_a, s_c, s_l⟩, ⟨some ⟨b5, 0, none⟩, 1, [⟨key, ⟨Zbg, Zdv, Zdx, ⟨Zbi, Zbh, Zu⟩⟩⟩]⟩] : List (Sl HeldV)), SlK M1 HeldV.segs 24 s ∧ ∀ h ∈ s.l, HeldV.ok M1 h := fun w H hw => by
     obtain ⟨M1, j1, j2, j3⟩ := (show OSl 60 24 _ _ ([(⟨key, ⟨Zbg, Zdv, Zdx, ⟨Zbi, Zbh, Zu⟩⟩⟩ : HeldV)].map HeldV.segs) from hob6).frz hw
     refine ⟨M1, j1, j2, fun s hs => ?_⟩
     rcases List.mem_cons.1 hs with rfl | hs
     ·exact ⟨k_s.mono j1, fun h hh => (l_s h hh).mono j1⟩
     ·obtain rfl := List.mem_singleton.1 hs
      exact ⟨j3, fun h hh => by obtain rfl := List.mem_singleton.1 hh; exact ⟨hc2.mono j1⟩⟩
    refine X_fhR2 rfl rfl F.ok112 rfl (bofF_ok _ _ _ [⟨s_a, s_c, s_l⟩, ⟨some ⟨b5, 0, none⟩, 1, [⟨key, ⟨Zbg, Zdv, Zdx, ⟨Zbi, Zbh, Zu⟩⟩⟩]⟩] _ _ lastT 113 F.ok113 last_ok2 (show OSl 23 1 _ _ ([(⟨s_a, s_c, s_l⟩ : Sl HeldV), ⟨some ⟨b5, 0, none⟩, 1, [⟨key, ⟨Zbg, Zdv, Zdx, ⟨Zbi, Zbh, Zu⟩⟩⟩]⟩].map fun x => ([.one (Sl.val x)] : Segs)) from hob8) hfz hcel lastT_keeps) (by repeat first | exact Rem.here _ | exact Rem.two | apply Rem.skip | apply Rem.over) (by repeat first | exact Rem.here _ | exact Rem.two | apply Rem.skip | apply Rem.over) (by rintro v M9 Hout w hm _ hw; exact (hw.lower hm).c) (Zbq rfl) ?_
    rintro _ M4 _ hm4 ⟨bm, om, om_m, rfl, rfl, hom, hpm, hmo⟩
    obtain ⟨S9, hS⟩ : ∃ S, S = ofS lastT [pls s_l, [⟨key, CellV.pl ⟨Zbg, Zdv, Zdx, ⟨Zbi, Zbh, Zu⟩⟩⟩]] := ⟨_, rfl⟩
    have hS9 : StOk S9 := by rw [hS]; exact ofS_ok lastT_keeps (fun s hs x hx => by
      rcases List.mem_cons.1 hs with rfl | hs
      ·exact hst0.2.1 x hx
      ·obtain rfl := List.mem_singleton.1 hs
       obtain rfl := List.mem_singleton.1 hx
       exact hcc)
    replace hpm : (mpl om_m).Perm S9 := by rw [hS]; exact hpm
    refine Zgy rfl rfl F.ok114 rfl (brow_ok _ bm om_m om hom hmo _ S9 hS9 hpm) (by repeat first | exact Rem.here _ | exact Rem.two | apply Rem.skip | apply Rem.over) (fun _ _ _ hm hw => (hw.lower (by exact Mem.le.trans (by assumption) hm)).c) (Zbq rfl) ?_
    rintro _ M5 _ hm5 ⟨rfl, ⟨q_a, q_c, q_l⟩, rfl, g9, k9, o9⟩
    iterate 2 refine Zcf ?_
    iterate 2 refine Zd ?_
    refine Ze ?_; refine Zc ?_; refine Y_pk [7, 6] ?_; refine Zak ?_
    refine Zaj (.inr rfl) (.tmp rfl (.tmp rfl .nil)) (fun w hw => ?_)
    refine ⟨_, M5, rfl, hm4.trans hm5, hw.c, ?_⟩
    rw [show putR (pls s_l) key (CellV.pl ⟨Zbg, Zdv, Zdx, ⟨Zbi, Zbh, Zu⟩⟩) = fullR S9 from by rw [hS]; exact putR_yes hst0 hcc]
    exact ⟨⟨q_a, q_c, q_l⟩, rfl, g9, k9, o9⟩
end Go.Proofs.YtpkeilhilpogiaaGreat
namespace Go.Proofs.YtpkeilhilpogiaaGreat
open Go.Esp
theorem F.ok20 : okFn Tryz.prog 20 = true := by kernel_rfl
theorem F.ok77 : okFn Tryz.prog 77 = true := by kernel_rfl
theorem with_ok (M : Mem) (s : (Sl HeldV)) (key : Plc) (c : CellV) (hs0 : SlK M HeldV.segs 24 s) (hs1 : ∀ y ∈ (s).l, HeldV.ok M y) (hc2 : CellV.ok M c) (hb : s.l.length ≤ 900000) : Esp.Fn Tryz.prog 77 [Sl.val s, aggV [idSeg key], c.enc] M (fun M' v => ∃ q : Sl HeldV, v = q.val ∧ pls q.l = withS (pls s.l) key c.pl ∧ SlK M' HeldV.segs 24 q ∧ ∀ h ∈ q.l, HeldV.ok M' h) := by
  obtain ⟨s_a, s_c, s_l⟩ := s
  obtain ⟨Zbg, Zdv, Zdx, ⟨Zbi, Zbh, Zu⟩⟩ := c
  have k_s : SlK M HeldV.segs 24 ⟨s_a, s_c, s_l⟩ := hs0
  have s_s : SlM M s_a (s_l.map HeldV.segs) 24 := k_s.h1
  have n_s : (s_l.map HeldV.segs).length = s_l.length := List.length_map ..
  have m_s : s_l.length ≤ 9223372036854775807 := k_s.h2
  have c_s : s_l.length ≤ s_c := k_s.h3
  have l_s : ∀ y ∈ s_l, HeldV.ok M y := hs1
  have Zbs : SlK M MarkV.segs 6 ⟨Zbi, Zbh, Zu⟩ := hc2.h0
  have s_c_marks : SlM M Zbi (Zu.map MarkV.segs) 6 := Zbs.h1
  have n_c_marks : (Zu.map MarkV.segs).length = Zu.length := List.length_map ..
  have m_c_marks : Zu.length ≤ 9223372036854775807 := Zbs.h2
  have c_c_marks : Zu.length ≤ Zbh := Zbs.h3
  simp only at hb
  refine Zek Tryz.func77 rfl Tryz.ntmps77 rfl ?_; intro H
  refine Zj ?_; refine Za (l := [0, 1, 2]) rfl ?_
  refine Zcz ?_; intro b1
  refine Zcz ?_; intro b2
  refine Zd ?_; refine Ze ?_; refine Zc ?_; refine Y_pk [6, 5, 4, 0] ?_; refine Zj ?_; refine Za (l := [0]) rfl ?_; refine Zd ?_; refine Ze ?_; refine Zc ?_; refine Zj ?_; refine Za (l := [0]) rfl ?_; refine Zd ?_; refine Ze ?_; refine Zc ?_; refine Zj ?_; refine Zbe ?_; refine Y_pk [8, 7, 6, 5, 4, 0] ?_; refine Zeo (Hin := []) (.succ (.succ .zero)) (by repeat first | exact Rem.here _ | exact Rem.two | apply Rem.skip | apply Rem.over) (fun (k : Nat) M1 h1 z => ∃ v, M1 = M ∧ z = [(8, .int .i64 (k : Int)), (7, v)] ∧ k ≤ s_l.length ∧ (∀ j (h : j < s_l.length), j < k → LessP s_l[j].key key) ∧ OSl 60 24 v h1 ((s_l.take (k)).map HeldV.segs)) (fun k => s_l.length - k) (0) (⟨_, rfl, rfl, by omega, fun j h2 hj => by omega, OSl.nil⟩) ?_
  rintro k M1 h1 z hm1 ⟨v0, hM1, rfl, hk9, hI, ho⟩
  subst hM1
  obtain ⟨ad0, cp0, rfl⟩ := ho.val
  have hml : ((s_l.take (k)).map HeldV.segs).length = k := by simp; omega
  rw [hml] at ho ⊢
  iterate 2 refine Zj ?_
  refine Zar (l := [0, 1, 2, 3, 4, 5, 6, 7, 8, 9, 10, 11, 12]) #[0, 0, 2, 7, 15, 31, 31, 127, 255, 511, 31, 2047, 4095] _ rfl (by kernel_rfl) (by kernel_rfl) St.drawn (fun _ h => h) ?_
  iterate 2 refine Zf ?_
  refine Zbb F.elem23 ?_; refine Zav ?_; refine Zf ?_
  refine Zag 13 rfl (fun hc3 => ?_) (fun hc3 => ?_)
  ·replace hc3 := dT hc3
   iterate 2 refine Zf ?_
   refine Zaa rfl rfl rfl rfl F.elem23 (by rfl) (by omega) (by exact SlM.plain (by assumption) (by (simp; omega))) rfl ?_; refine Zaq rfl rfl rfl (by exact SlM.plain (by assumption) (by (simp; omega))) F.foff60_0 rfl ?_; refine Zay rfl rfl rfl (by assumption) (by exact Zbl (by omega)) F.lay29 rfl rfl rfl ?_; refine Zi F.lay29 ?_; refine X_fs rfl rfl F.ok40 rfl (rLess_ok _ _ _) rfl ?_
   rintro _ rfl
   refine Zl ?_; refine Ze ?_; refine Zc ?_
   refine Zau rfl (fun hc4 => ?_) (fun hc4 => ?_)
   ·replace hc4 := dT hc4
    simp only [List.get_eq_getElem] at hc4
    refine Zax ?_; refine Zc ?_; refine Zbe ?_; refine Zj ?_; refine Za (l := [0, 1, 2, 3, 4, 5, 6, 7]) rfl ?_
    iterate 3 refine Zf ?_
    refine Zaa rfl rfl rfl rfl F.elem23 (by rfl) (by omega) (by exact SlM.plain (by assumption) (by (simp; omega))) rfl ?_; refine Zay rfl rfl rfl (by assumption) (by exact Zbl (by omega)) F.lay60 rfl rfl rfl ?_
    refine Zbt rfl rfl F.elem23 F.zero60 rfl rfl (.cons rfl (by constructor) .nil) rfl rfl (by simp only [List.map_cons, List.map_nil] <;> rfl) rfl ?_; intro b5 hob6
    refine Zdn (m := 1000000) rfl rfl rfl rfl rfl F.elem23 F.zero60 (by exact Zei rfl) rfl (by assumption) (by repeat first | exact Rem.here _ | exact Rem.two | apply Rem.skip | apply Rem.over) (Src.own hob6.lens (by (refine Zdy ?_; (repeat (first | exact Zbp | refine Zcb ?_ | (refine Zam ?_ ?_; rfl))); done)) rfl (by repeat first | exact List.Mem.head _ | refine List.Mem.tail _ ?_ | refine List.mem_append_right _ ?_)) (by (simp; omega)) (by decide) rfl ?_; intro v9 hs8 ho7; obtain ⟨adv9, cpv9, rfl⟩ := ho7.val
    refine Zd ?_; refine Ze ?_; refine Zc ?_; refine Za (l := [0, 1, 2]) rfl ?_; refine Zf ?_; refine Zcc rfl rfl rfl rfl rfl (by exact Zbf (by decide) (by omega)) rfl ?_; refine Zd ?_; refine Ze ?_; refine Zde ?_; refine Zcr (a' := [(8, _), (7, _)]) (k + 1) (hs8) (.cons (k := 8) rfl (.cons (k := 7) rfl (.cons (k := 6) rfl (.cons (k := 5) rfl (.cons (k := 4) rfl (.cons (k := 0) rfl (.nil))))))) (by exact Mem.le.refl _) (fun w hw => by first | exact hw | exact hw.c) ?_ ?_
    ·refine ⟨_, rfl, rfl, by omega, fun j h2 hj => ?_, ?_⟩
     ·rcases Nat.lt_or_ge j k with h9 | h9
      ·exact hI j h2 h9
      ·obtain rfl : j = k := by omega
       assumption
     ·rw [take_map_succ _ (by omega)]
      exact ho7
    ·omega
   ·replace hc4 := dF hc4
    simp only [List.get_eq_getElem] at hc4
    refine Zcm ?_
    iterate 2 refine Zcd ?_
    refine Zdl ?_; refine Zc ?_; refine Y_pk [8, 7, 6, 5, 4, 0] ?_; refine Zj ?_
    have k_d0 := k_s.drop k hk9
    refine Za (l := [0, 1, 2, 3, 4, 5, 6]) rfl ?_; refine Zf ?_; refine Zi F.lay29 ?_; refine Zi F.lay37 ?_; refine Zbv rfl rfl F.bld60 (.cons rfl (by constructor) (.cons rfl (by constructor) .nil)) rfl rfl ?_
    refine Zbt rfl rfl F.elem23 F.zero60 rfl rfl (.cons rfl (by constructor) .nil) rfl rfl (by simp only [List.map_cons, List.map_nil] <;> rfl) rfl ?_; intro b10 hob11
    refine Zdn (m := 1000000) rfl rfl rfl rfl rfl F.elem23 F.zero60 (by exact Zei rfl) rfl (by assumption) (by repeat first | exact Rem.here _ | exact Rem.two | apply Rem.skip | apply Rem.over) (Src.own hob11.lens (by (refine Zdy ?_; (repeat (first | exact Zbp | refine Zcb ?_ | (refine Zam ?_ ?_; rfl))); done)) rfl (by repeat first | exact List.Mem.head _ | refine List.Mem.tail _ ?_ | refine List.mem_append_right _ ?_)) (by (simp; omega)) (by decide) rfl ?_; intro v14 hs13 ho12; obtain ⟨adv14, cpv14, rfl⟩ := ho12.val
    refine Zd ?_; refine Ze ?_; refine Zc ?_; refine Y_pk [7, 8, 6, 4, 0] ?_
    iterate 2 refine Zj ?_
    refine Zar (l := [0, 1, 2, 3, 4, 5, 6, 7, 8, 9, 10, 11, 12]) #[0, 0, 2, 7, 15, 31, 31, 127, 255, 511, 31, 2047, 4095] _ rfl (by kernel_rfl) (by kernel_rfl) St.drawn (fun _ h => h) ?_
    iterate 2 refine Zf ?_
    refine Zbb F.elem23 ?_; refine Zav ?_; refine Zf ?_
    refine Zag 41 rfl (fun hc15 => ?_) (fun hc15 => ?_)
    ·replace hc15 := dT hc15
     iterate 2 refine Zf ?_
     refine Zaa rfl rfl rfl rfl F.elem23 (by rfl) (by omega) (by exact SlM.plain (by assumption) (by (simp; omega))) rfl ?_; refine Zaq rfl rfl rfl (by exact SlM.plain (by assumption) (by (simp; omega))) F.foff60_0 rfl ?_; refine Zay rfl rfl rfl (by assumption) (by exact Zbl (by omega)) F.lay29 rfl rfl rfl ?_; refine Zi F.lay29 ?_
     refine Zfx (m := 20) rfl rfl rfl rfl rfl (by constructor) (by constructor) F.lay29 F.kinds29 rfl F.guard29 (Zga Zez) (Zga Zez) rfl rfl rfl ?_; intro c16 he17
     replace he17 : c16 = true ↔ Segs.cells _ = Segs.cells _ := he17
     obtain rfl := eqD he17 (Zfu (x := _) (y := _)); clear he17
     refine Zl ?_; refine Ze ?_; refine Zc ?_; refine Y_pk [49, 7, 8, 6, 0] ?_
     refine Zau rfl (fun hc18 => ?_) (fun hc18 => ?_)
     ·replace hc18 := dT hc18
      simp only [List.get_eq_getElem] at hc18
      have k_d1 := k_s.drop (k + 1) (by omega)
      refine Za (l := [0, 1, 2]) rfl ?_; refine Zf ?_; refine Zcc rfl rfl rfl rfl rfl (by exact Zbf (by decide) (by omega)) rfl ?_; refine Zd ?_; refine Ze ?_; refine Zc ?_; refine Y_pk [8, 7, 6, 0] ?_; refine Zj ?_; refine Za (l := [0, 1, 2, 3, 4, 5]) rfl ?_
      iterate 3 refine Zf ?_
      refine Zdw rfl rfl rfl (.some (k := k + 1) rfl (by rfl)) .none .none F.elem23 (by simp only [Option.getD_none]; omega) (by simp only [Option.getD_some, Option.getD_none]; omega) (by simp only [Option.getD_some, Option.getD_none]; omega) (by simp) (pieceV_drop (l := s_l) (k := k + 1)) rfl ?_
      refine Zfk (m := 1000000) rfl rfl rfl rfl rfl F.elem23 F.zero60 (by exact Zei rfl) rfl (by assumption) (by repeat first | exact Rem.here _ | exact Rem.two | apply Rem.skip | apply Rem.over) ((by exact k_d1.h1)) HeldV.flat (by (simp; omega)) (by decide) rfl ?_; intro v21 hs20 ho19; obtain ⟨adv21, cpv21, rfl⟩ := ho19.val
      refine Zd ?_; refine Ze ?_; refine Zc ?_; refine Y_pk [6] ?_; refine Zak ?_
      refine Zaj (.inr rfl) (.tmp rfl .nil) (fun w hw => ?_)
      have ho7 := (ho19).as9 (show _ = (s_l.take k ++ (⟨key, ⟨Zbg, Zdv, Zdx, ⟨Zbi, Zbh, Zu⟩⟩⟩ : HeldV) :: s_l.drop (k + 1)).map HeldV.segs by simp <;> rfl)
      have hw9 : St _ (hs20 ++ H) w := hw.c
      obtain ⟨M9, s9, g1, g2, g3, g4, g5⟩ := ho7.freezeK hw9
      refine ⟨_, M9, rfl, g1, g2, s9, g3, ?_, g5, fun h hh => ?_⟩
      ·rw [g4]; exact (withS_eqV (by omega) (fun j h2 hj => hI j h2 hj) (by assumption)).symm
      ·rw [g4] at hh
       rcases List.mem_append.1 hh with hh | hh
       ·exact (l_s h (List.mem_of_mem_take hh)).mono g1
       ·rcases List.mem_cons.1 hh with rfl | hh
        ·exact ⟨hc2.mono g1⟩
        ·exact (l_s h (List.mem_of_mem_drop hh)).mono g1
     ·replace hc18 := dF hc18
      simp only [List.get_eq_getElem] at hc18
      refine Zax ?_; refine Zc ?_; refine Y_pk [7, 8, 6, 0] ?_; refine Zj ?_; refine Za (l := [0, 1, 2, 3, 4, 5]) rfl ?_
      iterate 3 refine Zf ?_
      refine Zdw rfl rfl rfl (.some (k := k) rfl (by rfl)) .none .none F.elem23 (by simp only [Option.getD_none]; omega) (by simp only [Option.getD_some, Option.getD_none]; omega) (by simp only [Option.getD_some, Option.getD_none]; omega) (by simp) (pieceV_drop (l := s_l) (k := k)) rfl ?_
      refine Zfk (m := 1000000) rfl rfl rfl rfl rfl F.elem23 F.zero60 (by exact Zei rfl) rfl (by assumption) (by repeat first | exact Rem.here _ | exact Rem.two | apply Rem.skip | apply Rem.over) ((by exact k_d0.h1)) HeldV.flat (by (simp; omega)) (by decide) rfl ?_; intro v24 hs23 ho22; obtain ⟨adv24, cpv24, rfl⟩ := ho22.val
      refine Zd ?_; refine Ze ?_; refine Zc ?_; refine Y_pk [6] ?_; refine Zak ?_
      refine Zaj (.inr rfl) (.tmp rfl .nil) (fun w hw => ?_)
      have ho7 := (ho22).as9 (show _ = (s_l.take k ++ (⟨key, ⟨Zbg, Zdv, Zdx, ⟨Zbi, Zbh, Zu⟩⟩⟩ : HeldV) :: s_l.drop (k)).map HeldV.segs by simp <;> rfl)
      have hw9 : St _ (hs23 ++ H) w := hw.c
      obtain ⟨M9, s9, g1, g2, g3, g4, g5⟩ := ho7.freezeK hw9
      refine ⟨_, M9, rfl, g1, g2, s9, g3, ?_, g5, fun h hh => ?_⟩
      ·rw [g4]; exact (withS_neV hk9 (fun j h2 hj => hI j h2 hj) (fun h8 => by first | assumption | omega) (fun h8 => by first | assumption | omega)).symm
      ·rw [g4] at hh
       rcases List.mem_append.1 hh with hh | hh
       ·exact (l_s h (List.mem_of_mem_take hh)).mono g1
       ·rcases List.mem_cons.1 hh with rfl | hh
        ·exact ⟨hc2.mono g1⟩
        ·exact (l_s h (List.mem_of_mem_drop hh)).mono g1
    ·replace hc15 := dF hc15
     (exfalso; omega)
  ·replace hc3 := dF hc3
   iterate 7 refine Zz ?_
   refine Zl ?_; refine Ze ?_; refine Zc ?_; refine Zeu rfl ?_; refine Zcm ?_
   iterate 2 refine Zcd ?_
   refine Zdl ?_; refine Zc ?_; refine Y_pk [8, 7, 6, 5, 4, 0] ?_; refine Zj ?_
   have k_d0 := k_s.drop k hk9
   refine Za (l := [0, 1, 2, 3, 4, 5, 6]) rfl ?_; refine Zf ?_; refine Zi F.lay29 ?_; refine Zi F.lay37 ?_; refine Zbv rfl rfl F.bld60 (.cons rfl (by constructor) (.cons rfl (by constructor) .nil)) rfl rfl ?_
   refine Zbt rfl rfl F.elem23 F.zero60 rfl rfl (.cons rfl (by constructor) .nil) rfl rfl (by simp only [List.map_cons, List.map_nil] <;> rfl) rfl ?_; intro b28 hob29
   refine Zdn (m := 1000000) rfl rfl rfl rfl rfl F.elem23 F.zero60 (by exact Zei rfl) rfl (by assumption) (by repeat first | exact Rem.here _ | exact Rem.two | apply Rem.skip | apply Rem.over) (Src.own hob29.lens (by (refine Zdy ?_; (repeat (first | exact Zbp | refine Zcb ?_ | (refine Zam ?_ ?_; rfl))); done)) rfl (by repeat first | exact List.Mem.head _ | refine List.Mem.tail _ ?_ | refine List.mem_append_right _ ?_)) (by (simp; omega)) (by decide) rfl ?_; intro v32 hs31 ho30; obtain ⟨adv32, cpv32, rfl⟩ := ho30.val
   refine Zd ?_; refine Ze ?_; refine Zc ?_; refine Y_pk [7, 8, 6, 4, 0] ?_
   iterate 2 refine Zj ?_
   refine Zar (l := [0, 1, 2, 3, 4, 5, 6, 7, 8, 9, 10, 11, 12]) #[0, 0, 2, 7, 15, 31, 31, 127, 255, 511, 31, 2047, 4095] _ rfl (by kernel_rfl) (by kernel_rfl) St.drawn (fun _ h => h) ?_
   iterate 2 refine Zf ?_
   refine Zbb F.elem23 ?_; refine Zav ?_; refine Zf ?_
   refine Zag 41 rfl (fun hc33 => ?_) (fun hc33 => ?_)
   ·replace hc33 := dT hc33
    (exfalso; omega)
   ·replace hc33 := dF hc33
    iterate 7 refine Zz ?_
    refine Zl ?_; refine Ze ?_; refine Zc ?_; refine Y_pk [49, 7, 8, 6, 0] ?_; refine Zeu rfl ?_; refine Zax ?_; refine Zc ?_; refine Y_pk [7, 8, 6, 0] ?_; refine Zj ?_; refine Za (l := [0, 1, 2, 3, 4, 5]) rfl ?_
    iterate 3 refine Zf ?_
    refine Zdw rfl rfl rfl (.some (k := k) rfl (by rfl)) .none .none F.elem23 (by simp only [Option.getD_none]; omega) (by simp only [Option.getD_some, Option.getD_none]; omega) (by simp only [Option.getD_some, Option.getD_none]; omega) (by simp) (pieceV_drop (l := s_l) (k := k)) rfl ?_
    refine Zfk (m := 1000000) rfl rfl rfl rfl rfl F.elem23 F.zero60 (by exact Zei rfl) rfl (by assumption) (by repeat first | exact Rem.here _ | exact Rem.two | apply Rem.skip | apply Rem.over) ((by exact k_d0.h1)) HeldV.flat (by (simp; omega)) (by decide) rfl ?_; intro v45 hs44 ho43; obtain ⟨adv45, cpv45, rfl⟩ := ho43.val
    refine Zd ?_; refine Ze ?_; refine Zc ?_; refine Y_pk [6] ?_; refine Zak ?_
    refine Zaj (.inr rfl) (.tmp rfl .nil) (fun w hw => ?_)
    have ho7 := (ho43).as9 (show _ = (s_l.take k ++ (⟨key, ⟨Zbg, Zdv, Zdx, ⟨Zbi, Zbh, Zu⟩⟩⟩ : HeldV) :: s_l.drop (k)).map HeldV.segs by simp <;> rfl)
    have hw9 : St _ (hs44 ++ H) w := hw.c
    obtain ⟨M9, s9, g1, g2, g3, g4, g5⟩ := ho7.freezeK hw9
    refine ⟨_, M9, rfl, g1, g2, s9, g3, ?_, g5, fun h hh => ?_⟩
    ·rw [g4]; exact (withS_neV hk9 (fun j h2 hj => hI j h2 hj) (fun h8 => by first | assumption | omega) (fun h8 => by first | assumption | omega)).symm
    ·rw [g4] at hh
     rcases List.mem_append.1 hh with hh | hh
     ·exact (l_s h (List.mem_of_mem_take hh)).mono g1
     ·rcases List.mem_cons.1 hh with rfl | hh
      ·exact ⟨hc2.mono g1⟩
      ·exact (l_s h (List.mem_of_mem_drop hh)).mono g1
theorem rPut_ok (M : Mem) (s : (Sl HeldV)) (key : Plc) (c : CellV) (hs0 : SlK M HeldV.segs 24 s) (hs1 : ∀ y ∈ (s).l, HeldV.ok M y) (hc2 : CellV.ok M c) : Esp.Fn Tryz.prog 33 [Sl.val s, aggV [idSeg key], c.enc] M (fun M' v => StE M' v (putR (pls s.l) key c.pl)) := by
  obtain ⟨s_a, s_c, s_l⟩ := s
  obtain ⟨Zbg, Zdv, Zdx, ⟨Zbi, Zbh, Zu⟩⟩ := c
  have k_s : SlK M HeldV.segs 24 ⟨s_a, s_c, s_l⟩ := hs0
  have s_s : SlM M s_a (s_l.map HeldV.segs) 24 := k_s.h1
  have n_s : (s_l.map HeldV.segs).length = s_l.length := List.length_map ..
  have m_s : s_l.length ≤ 9223372036854775807 := k_s.h2
  have c_s : s_l.length ≤ s_c := k_s.h3
  have l_s : ∀ y ∈ s_l, HeldV.ok M y := hs1
  have Zbs : SlK M MarkV.segs 6 ⟨Zbi, Zbh, Zu⟩ := hc2.h0
  have s_c_marks : SlM M Zbi (Zu.map MarkV.segs) 6 := Zbs.h1
  have n_c_marks : (Zu.map MarkV.segs).length = Zu.length := List.length_map ..
  have m_c_marks : Zu.length ≤ 9223372036854775807 := Zbs.h2
  have c_c_marks : Zu.length ≤ Zbh := Zbs.h3
  show Esp.Fn _ _ _ _ (fun M' v => StE M' v (putR (pls s_l) key (CellV.pl ⟨Zbg, Zdv, Zdx, ⟨Zbi, Zbh, Zu⟩⟩)))
  refine Zek Tryz.func33 rfl Tryz.ntmps33 rfl ?_; intro H
  refine Zj ?_; refine Za (l := [0, 1, 2, 3]) rfl ?_
  refine Zcz ?_; intro b1
  refine Zcz ?_; intro b2
  iterate 2 refine Zd ?_
  refine Ze ?_; refine Zc ?_; refine Y_pk [7, 6, 5, 4, 0] ?_
  iterate 2 refine Zj ?_
  refine Za (l := [0, 1, 2, 3, 4, 5, 6, 7]) rfl ?_; refine Zf ?_; refine X_fs rfl rfl F.ok20 rfl (rStIs_ok _ ⟨_, _, _⟩ (by assumption) (by assumption)) rfl ?_
  rintro _ rfl
  refine Zel ?_; refine Zf ?_
  refine Zag 12 rfl (fun hc3 => ?_) (fun hc3 => ?_)
  ·replace hc3 := nT hc3
   simp only [AnswerV.eta, MarkV.eta, CellV.eta, HeldV.eta, WaitV.eta, ServerV.eta, PeerV.eta, OpV.eta, ParcelV.eta, PostV.eta, WorkerV.eta] at hc3
   iterate 3 refine Zz ?_
   refine Zl ?_; refine Ze ?_; refine Zc ?_; refine Y_pk [16, 7, 6, 5, 4, 0] ?_; refine Zcy rfl ?_; refine Zj ?_; refine Za (l := [0, 1]) rfl ?_
   iterate 2 refine Zd ?_
   refine Ze ?_; refine Zc ?_; refine Y_pk [7, 6, 5, 4, 0] ?_; refine Zak ?_; refine Zba ?_
   refine Zaj (.inr rfl) (.tmp rfl (.tmp rfl .nil)) (fun w hw => ?_)
   refine ⟨_, M, rfl, Mem.le.refl M, hw.c, ?_⟩
   rw [show putR (pls s_l) key (CellV.pl ⟨Zbg, Zdv, Zdx, ⟨Zbi, Zbh, Zu⟩⟩) = ([], 1) from if_neg (by rintro ⟨g1, g2⟩; contradiction)]
   exact StE.nil
  ·replace hc3 := nF hc3
   simp only [AnswerV.eta, MarkV.eta, CellV.eta, HeldV.eta, WaitV.eta, ServerV.eta, PeerV.eta, OpV.eta, ParcelV.eta, PostV.eta, WorkerV.eta] at hc3
   refine Zi F.lay37 ?_; refine X_fs rfl rfl F.ok50 rfl (rCelIs_ok _ ⟨Zbg, Zdv, Zdx, ⟨Zbi, Zbh, Zu⟩⟩ hc2) rfl ?_
   rintro _ rfl
   refine Zel ?_; refine Zl ?_; refine Ze ?_; refine Zc ?_; refine Y_pk [16, 7, 6, 5, 4, 0] ?_
   refine Zau rfl (fun hc4 => ?_) (fun hc4 => ?_)
   ·replace hc4 := nT hc4
    refine Zj ?_; refine Za (l := [0, 1]) rfl ?_
    iterate 2 refine Zd ?_
    refine Ze ?_; refine Zc ?_; refine Y_pk [7, 6, 5, 4, 0] ?_; refine Zak ?_; refine Zba ?_
    refine Zaj (.inr rfl) (.tmp rfl (.tmp rfl .nil)) (fun w hw => ?_)
    refine ⟨_, M, rfl, Mem.le.refl M, hw.c, ?_⟩
    rw [show putR (pls s_l) key (CellV.pl ⟨Zbg, Zdv, Zdx, ⟨Zbi, Zbh, Zu⟩⟩) = ([], 1) from if_neg (by rintro ⟨g1, g2⟩; contradiction)]
    exact StE.nil
   ·replace hc4 := nF hc4
    refine Zax ?_; refine Zc ?_; refine Y_pk [7, 6, 5, 4, 0] ?_; refine Zj ?_
    have hst0 : IsSt (pls s_l) := by assumption
    have hcc : IsCel (CellV.pl ⟨Zbg, Zdv, Zdx, ⟨Zbi, Zbh, Zu⟩⟩) := by assumption
    have hsl := hst0.1
    rw [Zdm] at hsl
    refine Za (l := [0, 1, 2, 3, 4]) rfl ?_; refine Zf ?_; refine Zi F.lay29 ?_; refine Zi F.lay37 ?_; refine X_fn rfl rfl F.ok77 rfl (with_ok _ ⟨s_a, s_c, s_l⟩ key ⟨Zbg, Zdv, Zdx, ⟨Zbi, Zbh, Zu⟩⟩ k_s l_s hc2 (by show s_l.length ≤ 900000; omega)) rfl ?_
    rintro _ M2 hm2 ⟨⟨q_a, q_c, q_l⟩, rfl, g9, k_q, l_q⟩
    try simp only at g9 l_q
    refine Zd ?_; refine Ze ?_; refine Zc ?_; refine Y_pk [8, 7, 6] ?_
    iterate 2 refine Zj ?_
    refine Za (l := [0, 1, 2]) rfl ?_; refine Zf ?_; refine Zbb F.elem23 ?_; refine Zav ?_; refine Ze ?_; refine Zc ?_; refine Y_pk [23, 8, 7, 6] ?_
    refine Zau rfl (fun hc5 => ?_) (fun hc5 => ?_)
    ·replace hc5 := dT hc5
     refine Zj ?_; refine Za (l := [0, 1]) rfl ?_
     iterate 2 refine Zd ?_
     refine Ze ?_; refine Zc ?_; refine Y_pk [7, 6, 8] ?_; refine Zak ?_; refine Zba ?_
     refine Zaj (.inr rfl) (.tmp rfl (.tmp rfl .nil)) (fun w hw => ?_)
     refine ⟨_, M2, rfl, hm2, hw.c, ?_⟩
     rw [show putR (pls s_l) key (CellV.pl ⟨Zbg, Zdv, Zdx, ⟨Zbi, Zbh, Zu⟩⟩) = ([], 12) from by unfold putR; rw [if_pos ⟨hst0, hcc⟩, if_pos (by rw [← g9, Zdm]; omega)]]
     exact StE.nil
    ·replace hc5 := dF hc5
     refine Zax ?_; refine Zc ?_; refine Y_pk [8, 7, 6] ?_; refine Zj ?_; refine Za (l := [0, 1, 2]) rfl ?_; refine Zf ?_
     iterate 2 refine Zd ?_
     refine Ze ?_; refine Zc ?_; refine Y_pk [7, 6] ?_; refine Zak ?_
     refine Zaj (.inr rfl) (.tmp rfl (.tmp rfl .nil)) (fun w hw => ?_)
     refine ⟨_, M2, rfl, hm2, hw.c, ?_⟩
     rw [show putR (pls s_l) key (CellV.pl ⟨Zbg, Zdv, Zdx, ⟨Zbi, Zbh, Zu⟩⟩) = (withS (pls s_l) key (CellV.pl ⟨Zbg, Zdv, Zdx, ⟨Zbi, Zbh, Zu⟩⟩), 0) from by unfold putR; rw [if_pos ⟨hst0, hcc⟩, if_neg (by rw [← g9, Zdm]; omega)]]
     exact ⟨⟨q_a, q_c, q_l⟩, rfl, g9, k_q, l_q⟩
end Go.Proofs.YtpkeilhilpogiaaGreat
namespace Go.Esp
def plss (l : List (Sl HeldV)) : List (List Hd) := l.map fun s => pls s.l
theorem plss_len (l : List (Sl HeldV)) : (plss l).length = l.length := List.length_map ..
theorem plss_at {l : List (Sl HeldV)} {k : Nat} (hk : k < l.length) : (plss l)[k]'(by rw [plss_len]; exact hk) = pls l[k].l := by unfold plss; rw [List.getElem_map]
theorem pls_at {l : List HeldV} {j : Nat} (hj : j < l.length) : (pls l)[j]'(by rw [Zdm]; exact hj) = HeldV.pl l[j] := by unfold pls; rw [List.getElem_map]
theorem pls_ext {a b : List HeldV} (hl : a.length = b.length) (h : ∀ j (h2 : j < a.length) (h3 : j < b.length), HeldV.pl a[j] = HeldV.pl b[j]) : pls a = pls b :=
  List.ext_getElem (by rw [Zdm, Zdm]; exact hl) fun j h2 h3 => by
    rw [Zdm] at h2 h3
    exact (pls_at h2).trans ((h j h2 h3).trans (pls_at h3).symm)
def CircSt (l : List PeerV) (r : Int) (all : List (List Hd)) : Prop := IsCircle l ∧ (1 ≤ r ∧ r ≤ 8) ∧ all.length = l.length ∧ ∀ s ∈ all, IsSt s
instance (l : List PeerV) (r : Int) (all : List (List Hd)) : Decidable (CircSt l r all) := by unfold CircSt; exact inferInstance
def keepsR (l : List PeerV) (r i : Int) (key : Plc) : Bool := decide (i ∈ (copiesR l key r).1)
def healR (l : List PeerV) (r : Int) (all : List (List Hd)) : List (List Hd) × Int :=
  if CircSt l r all then
    if 2000 < (ofS mergedT all).length then ([], 12)
    else ((List.range l.length).map fun i : Nat => (ofS mergedT all).filter fun h => keepsR l r (i : Int) h.key, 0)
  else ([], 1)
def WholeOk (l : List PeerV) (r : Int) (all : List (List Hd)) : Prop := ∀ s ∈ all, ∀ h ∈ s, ∀ n (hn : n < all.length), (findS all[n] h.key).isSome = keepsR l r (n : Int) h.key ∧ ∀ c, findS all[n] h.key = some c → c = h.cell
instance (l : List PeerV) (r : Int) (all : List (List Hd)) : Decidable (WholeOk l r all) := by unfold WholeOk; exact inferInstance
def wholeR (l : List PeerV) (r : Int) (all : List (List Hd)) : Prop := CircSt l r all ∧ WholeOk l r all
instance (l : List PeerV) (r : Int) (all : List (List Hd)) : Decidable (wholeR l r all) := by unfold wholeR; exact inferInstance
def AllE (M : Mem) (v : Value) (r : List (List Hd) × Int) : Prop := ∃ s : Sl (Sl HeldV), v = .tuple #[s.val, .int .i64 r.2] ∧ plss s.l = r.1 ∧ SlK M (fun x => [.one (Sl.val x)]) 1 s ∧ ∀ y ∈ s.l, SlK M HeldV.segs 24 y ∧ ∀ h ∈ y.l, HeldV.ok M h
theorem AllE.nil {M : Mem} {e : Int} : AllE M (.tuple #[.slice none 0 0, .int .i64 e]) ([], e) := ⟨⟨none, 0, []⟩, rfl, rfl, SlK.nil, fun h hh => by cases hh⟩
end Go.Esp
namespace Go.Esp
def IsOp (o : OpV) : Prop := (0 ≤ o.client ∧ o.client ≤ 63) ∧ ((o.kind = 1 ∧ o.version = 0 ∧ o.val = ⟨#[]⟩) ∨ (o.kind = 4 ∧ o.val = ⟨#[]⟩) ∨ (o.kind = 2 ∧ o.version = 0 ∧ o.val.size ≤ 2048) ∨ (o.kind = 3 ∧ o.val.size ≤ 2048))
instance (o : OpV) : Decidable (IsOp o) := by unfold IsOp; exact inferInstance
def OkAnswer (a : AnswerV) : Prop := (a.code = 0 ∨ a.code = 8 ∨ a.code = 7 ∨ a.code = 9) ∧ a.val.size ≤ 2048 ∧ (a.has = true ∨ a.val = ⟨#[]⟩)
instance (a : AnswerV) : Decidable (OkAnswer a) := by unfold OkAnswer; exact inferInstance
def Bare (c : Cel) : Prop := c.version = 0 ∧ c.has = false ∧ c.val = ⟨#[]⟩ ∧ c.marks = []
instance (c : Cel) : Decidable (Bare c) := by unfold Bare; exact inferInstance
theorem bare_zero {c : Cel} : Bare c ↔ c = Cel.zero := by
  obtain ⟨v, h, s, m⟩ := c
  simp only [Bare, Cel.zero, Cel.mk.injEq]
structure Prc where
  kind : Int
  epoch : Int
  key : Plc
  op : OpV
  answer : AnswerV
  serial : Int
  cell : Cel
  deriving DecidableEq
def ParcelV.pl (p : ParcelV) : Prc := ⟨p.kind, p.epoch, p.key, p.op, p.answer, p.serial, p.cell.pl⟩
def IsPrc (p : Prc) : Prop :=
  (p.kind = 1 ∧ IsOp p.op ∧ p.answer = AnswerV.zero ∧ p.serial = 0 ∧ Bare p.cell) ∨
  (p.kind = 2 ∧ p.key = 0 ∧ p.op = ⟨p.op.client, p.op.req, 0, 0, ⟨#[]⟩⟩ ∧ 0 ≤ p.op.client ∧ p.op.client ≤ 63 ∧ OkAnswer p.answer ∧ p.serial = 0 ∧ Bare p.cell) ∨
  (p.kind = 3 ∧ p.op = OpV.zero ∧ p.answer = AnswerV.zero ∧ IsCel p.cell) ∨
  (p.kind = 4 ∧ p.key = 0 ∧ p.op = OpV.zero ∧ p.answer = AnswerV.zero ∧ Bare p.cell)
instance (p : Prc) : Decidable (IsPrc p) := by unfold IsPrc; exact inferInstance
theorem Zdu : (⟨#[]⟩ : ByteArray).size = 0 := rfl
def markC (c : Cel) (o : OpV) (a : AnswerV) : List MarkV := putM c.marks ⟨o.client, o.req, a⟩
def goesC (c : Cel) (o : OpV) : Cel × AnswerV × Bool × Int :=
  if o.kind ≠ 2 ∧ o.version ≠ c.version then (⟨c.version, c.has, c.val, markC c o ⟨8, c.version, c.has, ⟨#[]⟩⟩⟩, ⟨8, c.version, c.has, ⟨#[]⟩⟩, false, 0)
  else (⟨w64 (c.version + 1), (!decide (o.kind = 4)), o.val, markC c o ⟨0, w64 (c.version + 1), (!decide (o.kind = 4)), ⟨#[]⟩⟩⟩, ⟨0, w64 (c.version + 1), (!decide (o.kind = 4)), ⟨#[]⟩⟩, true, 0)
def doC (c : Cel) (o : OpV) : Cel × AnswerV × Bool × Int :=
  if IsCel c ∧ IsOp o then
    if o.kind = 1 then (c, ⟨0, c.version, c.has, c.val⟩, false, 0)
    else match ofM c.marks o.client with
      | some m => if m.req = o.req then (c, m.answer, false, 0) else if o.req < m.req then (c, ⟨9, 0, false, ⟨#[]⟩⟩, false, 0) else goesC c o
      | none => goesC c o
  else (Cel.zero, AnswerV.zero, false, 1)
theorem doC_no {c : Cel} {o : OpV} (h : ¬ (IsCel c ∧ IsOp o)) : doC c o = (Cel.zero, AnswerV.zero, false, 1) := if_neg h
theorem doC_get {c : Cel} {o : OpV} (h : IsCel c) (ho : IsOp o) (hk : o.kind = 1) : doC c o = (c, ⟨0, c.version, c.has, c.val⟩, false, 0) := by unfold doC; rw [if_pos ⟨h, ho⟩, if_pos hk]
theorem doC_is {c : Cel} {o : OpV} {m : MarkV} (h : IsCel c) (ho : IsOp o) (hk : ¬ o.kind = 1) (hm : ofM c.marks o.client = some m) : doC c o = if m.req = o.req then (c, m.answer, false, 0) else if o.req < m.req then (c, ⟨9, 0, false, ⟨#[]⟩⟩, false, 0) else goesC c o := by
  unfold doC; rw [if_pos ⟨h, ho⟩, if_neg hk, hm]
theorem doC_new {c : Cel} {o : OpV} (h : IsCel c) (ho : IsOp o) (hk : ¬ o.kind = 1) (hm : ofM c.marks o.client = none) : doC c o = goesC c o := by
  unfold doC; rw [if_pos ⟨h, ho⟩, if_neg hk, hm]
theorem doC_goes {c : Cel} {o : OpV} (h : IsCel c) (ho : IsOp o) (hk : ¬ o.kind = 1) (hm : ∀ m, ofM c.marks o.client = some m → m.req < o.req) : doC c o = goesC c o := by
  cases hf : ofM c.marks o.client with
  | none => exact doC_new h ho hk hf
  | some m => have := hm m hf; rw [doC_is h ho hk hf, if_neg (by omega), if_neg (by omega)]
theorem goesC_no {c : Cel} {o : OpV} (h : o.kind ≠ 2 ∧ o.version ≠ c.version) : goesC c o = (⟨c.version, c.has, c.val, markC c o ⟨8, c.version, c.has, ⟨#[]⟩⟩⟩, ⟨8, c.version, c.has, ⟨#[]⟩⟩, false, 0) := if_pos h
theorem goesC_yes {c : Cel} {o : OpV} (h : ¬ (o.kind ≠ 2 ∧ o.version ≠ c.version)) : goesC c o = (⟨w64 (c.version + 1), (!decide (o.kind = 4)), o.val, markC c o ⟨0, w64 (c.version + 1), (!decide (o.kind = 4)), ⟨#[]⟩⟩⟩, ⟨0, w64 (c.version + 1), (!decide (o.kind = 4)), ⟨#[]⟩⟩, true, 0) := if_neg h
theorem ofM_yes {l : List MarkV} (h : MarksOk l) {c : Int} (hi : isM l c = true) : ofM l c = some (l[atM l c]'(Zgt hi)) := by rw [ofM_is h, dif_pos hi]
theorem ofM_not {l : List MarkV} (h : MarksOk l) {c : Int} (hi : isM l c = false) : ofM l c = none := by rw [ofM_is h, dif_neg (by simp [hi])]
def DoE (M : Mem) (v : Value) (r : Cel × AnswerV × Bool × Int) : Prop := ∃ c : CellV, v = .tuple #[c.enc, r.2.1.enc, .bool r.2.2.1, .int .i64 r.2.2.2] ∧ c.pl = r.1 ∧ CellV.ok M c
end Go.Esp
namespace Go.Esp
section
variable {P : Program} {n : Sh} {ops : Array Oper} {Q : Exit → Act → World → Prop} {rest : List Nat} {M M' : Mem} {H H' H0 : Hp} {e : Env} {J S : World → Prop} {A : As} {i : Nat}
  {dst : Option Tmp} {d : Tmp} {op : Op} {ty : TypeId} {pos : String} {af : Array Edge} {gd : Option (Nat × Bool)}
theorem C_is {c : Code} {Qx : Exit → Act → World → Prop} {Sx : World → Prop} (s : Nat) {u v : Value} (hs : get e s = some u) (h : u = v) (hk : C P n c Qx Sx ((s, v) :: e)) : C P n c Qx Sx e := fun a w ha hw => hk a w (ha.more (h ▸ hs)) hw
theorem C_part {c : Code} {Qx : Exit → Act → World → Prop} {Sx : World → Prop} (s : Nat) {b : Bool} (hs : get e s = some (.bool b)) (ht : b = true → C P n c Qx Sx ((s, .bool true) :: e)) (hf : b = false → C P n c Qx Sx ((s, .bool false) :: e)) : C P n c Qx Sx e := by
  cases b with
  | true => exact C_is s hs rfl (ht rfl)
  | false => exact C_is s hs rfl (hf rfl)
theorem X_loadA {t : TypeId} {x : Operand} {b off m : Nat} {agg : Bool} {r r' : Segs} {T : TypeId} {v : Value} (hi : ops[i]? = some ⟨some d, .load t x, ty, pos, af, gd⟩) (hws : n.wrs.contains i = true) (hg : want ops e gd = some true)
    (hx : ev e x = some (.pointer (some ⟨b, off, none⟩))) (hb : (b, rowO r T) ∈ H) (hl : lay P t = some (agg, m)) (hs : Segs.sub r off m = some r') (hv : readAs agg r' = some v)
    (hd : Nat.ble (d + 1) n.sz = true) (hk : XD P n ops Q rest J ⟨M, H⟩ ((d, v) :: e)) : XD P n ops Q (i :: rest) J ⟨M, H⟩ e :=
  X_readA hi rfl hws hg (fun a' w ha hw => Zec (by
    simp only [execOp, ha.ev hx]
    obtain ⟨h1, h2⟩ := Segs.sub_cells hs
    obtain ⟨_, _, _, _, h3⟩ := Segs.sub_spec hs
    have hw' : St M H w := hw
    exact Zfm (run_loadAt' (hw'.own _ _ hb) hl h1 h3 hv))) (fun a ha => ha.put hd _) hk
theorem splice_part {X p m c q Y : List Value} (h : m.length = c.length) : (X ++ (p ++ (m ++ q)) ++ Y).take (X.length + p.length) ++ c ++ (X ++ (p ++ (m ++ q)) ++ Y).drop (X.length + p.length + c.length) = (X ++ (p ++ (m ++ q)) ++ Y).take X.length ++ (p ++ (c ++ q)) ++ (X ++ (p ++ (m ++ q)) ++ Y).drop (X.length + (p ++ (c ++ q)).length) := by
  have e1 : (X ++ (p ++ (m ++ q)) ++ Y) = (X ++ p) ++ (m ++ (q ++ Y)) := by simp
  have e2 : (X ++ (p ++ (m ++ q)) ++ Y) = (X ++ (p ++ (m ++ q))) ++ Y := rfl
  have t1 : (X ++ (p ++ (m ++ q)) ++ Y).take (X.length + p.length) = X ++ p := by
    rw [e1, ← List.length_append]; exact List.take_left
  have t2 : (X ++ (p ++ (m ++ q)) ++ Y).drop (X.length + p.length + c.length) = q ++ Y := by
    rw [e1, ← List.length_append, ← h, ← List.length_append, ← List.append_assoc]; exact List.drop_left
  have t3 : (X ++ (p ++ (m ++ q)) ++ Y).take X.length = X := by rw [List.append_assoc]; exact List.take_left
  have t4 : (X ++ (p ++ (m ++ q)) ++ Y).drop (X.length + (p ++ (c ++ q)).length) = Y := by
    have : X.length + (p ++ (c ++ q)).length = (X ++ (p ++ (m ++ q))).length := by simp [h]
    rw [this]; exact List.drop_left
  rw [t1, t2, t3, t4]; simp
theorem X_storeOF {t : TypeId} {x y : Operand} {b j sz off c m l : Nat} {agg : Bool} {T : TypeId} {q r u : Segs} {v : Value} {hs : Hp} {rows : List Segs} (hi : ops[i]? = some ⟨Option.none, .store t x y, ty, pos, af, gd⟩) (hg : want ops e gd = some true)
    (hx : ev e x = some (eptr (some ⟨b, 0, Option.none⟩) j sz off)) (hy : ev e y = some v) (hp : Parts v q) (hq : flat q) (hl : lay P t = some (agg, m)) (hn : Segs.len q = m) (ho : OSl T sz (.slice (some ⟨b, 0, Option.none⟩) l c) hs rows) (hH : Rem hs H H0) (hr : rows[j]? = some r) (hu : Segs.put r off q = some u)
    (hk : ∀ hs', OSl T sz (.slice (some ⟨b, 0, Option.none⟩) rows.length c) hs' (rows.set j u) → XD P n ops Q rest (St M (hs' ++ H0)) ⟨M, hs' ++ H0⟩ e) (hnw : n.wrs.contains i = false := by rfl) : XD P n ops Q (i :: rest) J ⟨M, H⟩ e := by
  refine Zgv hi rfl hg (fun a w ha hw => ?_) hnw
  obtain ⟨dd, it, hd, hit, hsz, hag⟩ := lay_spec hl
  obtain ⟨cur, rfl, rfl, hlr, hcap, hcm, hcs, htake⟩ := ho.inv
  have hst := hw.perm hH.perm
  have hb := hst.own b _ (List.mem_append_left _ (.head _))
  obtain ⟨hj, hrj⟩ := List.getElem?_eq_some_iff.1 hr
  obtain ⟨p, q', mm, hre, hue, hpo, hmm⟩ := Segs.put_spec hu
  have hrl : Segs.len r = sz := hlr r (by rw [← hrj]; exact List.getElem_mem hj)
  have hlen3 : Segs.len r = off + (m + Segs.len q') := by
    rw [← Segs.cells_length, hre, Segs.cells_append, Segs.cells_append, List.length_append, List.length_append, Segs.cells_length, Segs.cells_length, Segs.cells_length, hpo, hmm, hn]
  have hul : Segs.len u = sz := by
    rw [← Segs.cells_length, hue, Segs.cells_append, Segs.cells_append, List.length_append, List.length_append, Segs.cells_length, Segs.cells_length, Segs.cells_length, hpo, hn]; omega
  have hq1 : lens sz [u] := fun r' hr' => by rw [List.mem_singleton.1 hr']; exact hul
  have hjl : j * sz + sz ≤ rows.length * sz := by have := Nat.mul_le_mul_right sz (show j + 1 ≤ rows.length from hj); rwa [Nat.add_mul, Nat.one_mul] at this
  have hrc : rows.length * sz ≤ c * sz := Nat.mul_le_mul_right _ hcap
  have hql : (Segs.cells q).length = m := by rw [Segs.cells_length, hn]
  have h2 := run_storeCells_at P b (j * sz + off) T (Segs.cells q) 0 cur w hb (by omega) hq
  have ho' := rowSplice (T := T) (b := b) (k := j) hlr hq1 hcap hcm hcs htake (by simp; omega)
  have er : rows.take j ++ [u] ++ rows.drop (j + [u].length) = rows.set j u := by
    rw [List.set_eq_take_append_cons_drop, if_pos hj]; simp
  rw [er] at ho'
  simp only [rowsCells, List.append_nil] at ho'
  have hcur : cur.toList = rowsCells (rows.take j) ++ (Segs.cells p ++ (Segs.cells mm ++ Segs.cells q')) ++ (rowsCells (rows.drop (j + 1)) ++ cur.toList.drop (rows.length * sz)) := by
    have e0 : rows = rows.take j ++ r :: rows.drop (j + 1) := by
      rw [← hrj, List.getElem_cons_drop, List.take_append_drop]
    have e1 : rowsCells rows = rowsCells (rows.take j) ++ (Segs.cells r ++ rowsCells (rows.drop (j + 1))) := by
      conv => lhs; rw [e0]
      rw [Zdh]; rfl
    conv => lhs; rw [← List.take_append_drop (rows.length * sz) cur.toList, htake, e1, hre, Segs.cells_append, Segs.cells_append]
    simp
  have hXl : (rowsCells (rows.take j)).length = j * sz := by
    rw [Zcg (fun r' hr' => hlr r' (List.mem_of_mem_take hr')), List.length_take]
    congr 1; omega
  have hpl : (Segs.cells p).length = off := by rw [Segs.cells_length, hpo]
  have hml : (Segs.cells mm).length = (Segs.cells q).length := by rw [Segs.cells_length, Segs.cells_length, hmm]
  have hsp := splice_part (X := rowsCells (rows.take j)) (p := Segs.cells p) (m := Segs.cells mm) (c := Segs.cells q) (q := Segs.cells q') (Y := rowsCells (rows.drop (j + 1)) ++ cur.toList.drop (rows.length * sz)) hml
  rw [← hcur, hXl, hpl] at hsp
  have hcu : Segs.cells u = Segs.cells p ++ (Segs.cells q ++ Segs.cells q') := by rw [hue, Segs.cells_append, Segs.cells_append]
  rw [← hcu] at hsp
  rw [← hsp] at ho'
  have hr : (Instr.storeAt t (.pointer (some ⟨b, 0 + (j * sz + off), Option.none⟩)) v).run P w = .ok () (w.setRow b (cur.toList.take (j * sz + off) ++ Segs.cells q ++ cur.toList.drop (j * sz + off + (Segs.cells q).length)).toArray) := by
    unfold Instr.storeAt
    rw [Sem.run_bind]
    show (Result.ok _ w).andThen _ = _
    rw [Result.andThen_ok]
    unfold storeVar
    rw [Sem.run_bind, run_sizeOf' hit, Result.andThen_ok]
    have hs : v.cells.size = it.size := by rw [hp.cells, hsz]; simp [Segs.cells_length, hn]
    simp only [hs, ne_eq, not_true_eq_false, if_false]
    rw [hp.cells, Nat.zero_add]
    simpa using h2
  unfold Oper.does
  rw [eptr_some] at hx
  have : (execOp a.eval ⟨Option.none, .store t x y, ty, pos, af, gd⟩).run P w = .ok .skip (w.setRow b (cur.toList.take (j * sz + off) ++ Segs.cells q ++ cur.toList.drop (j * sz + off + (Segs.cells q).length)).toArray) := by
    simp only [execOp, ha.ev hx, ha.ev hy]
    rw [Zbk hr]; rfl
  rw [this]
  refine ⟨⟨M, _⟩, e, ?_, ha, hk _ ho'⟩
  exact hst.upd .head (setRow_heap w b cur _ T _ hb) (fun c hc x hx => by rw [setRow_other w b c _ hc]; exact hx) (SameIO.refl _)
end
end Go.Esp
