/-
  The fourth law.
-/
import Derived.Test.YtelpkhhfjfbkcaaDoorC15
set_option linter.unusedSimpArgs false
set_option linter.unusedVariables false
set_option linter.unnecessarySimpa false
set_option maxRecDepth 8000
namespace Go.Proofs.YtelpkhhfjfbkcaaDoor
open Go.Esp
theorem F.guard45 : Tryd.prog.eqGuardType Tryd.prog.depth 45 = false := by kernel_rfl
theorem F.kinds45 : kindsOf Tryd.prog 20 45 = some [.b, .i .i64, .i .u64, .b, .s] := by kernel_rfl
theorem F.ok22 : okFn Tryd.prog 22 = true := by kernel_rfl
theorem F.ok23 : okFn Tryd.prog 23 = true := by kernel_rfl
theorem F.ok24 : okFn Tryd.prog 24 = true := by kernel_rfl
theorem F.ok25 : okFn Tryd.prog 25 = true := by kernel_rfl
theorem F.ok26 : okFn Tryd.prog 26 = true := by kernel_rfl

theorem lawSteps_ok (M : Mem) (c : ClientV) (l : (Sl PeerV)) (epoch : Int) (budget : Int) (p : ParcelV) (hl0 : SlM M (l).a ((l).l.map PeerV.segs) 21) (hl1 : (l).l.length ≤ maxLen) (hp2 : ParcelV.ok M p) (hEG : EG M) : Esp.Fn Tryd.prog 6 [c.enc, Sl.val l, .int .u64 epoch, .int .i64 budget, p.enc] M (fun _ v => v = .bool true) := by
  obtain ⟨c_num, c_req, c_busy, c_key, ⟨c_op_client, c_op_req, c_op_kind, c_op_version, c_op_val⟩, c_tries⟩ := c
  obtain ⟨l_a, l_c, l_l⟩ := l
  obtain ⟨p_kind, p_epoch, p_key, ⟨p_op_client, p_op_req, p_op_kind, p_op_version, p_op_val⟩, ⟨p_answer_code, p_answer_version, p_answer_has, p_answer_val⟩, p_serial, ⟨p_cell_version, p_cell_has, p_cell_val, ⟨p_cell_marks_a, p_cell_marks_c, p_cell_marks_l⟩⟩⟩ := p
  have s_l : SlM M l_a (l_l.map PeerV.segs) 21 := hl0
  have n_l : (l_l.map PeerV.segs).length = l_l.length := List.length_map ..
  have m_l : l_l.length ≤ 9223372036854775807 := hl1
  have k_p_cell : CellV.ok M ⟨p_cell_version, p_cell_has, p_cell_val, ⟨p_cell_marks_a, p_cell_marks_c, p_cell_marks_l⟩⟩ := hp2.h0
  have s_p_cell_marks : SlM M p_cell_marks_a (p_cell_marks_l.map MarkV.segs) 6 := hp2.h0.h0
  have n_p_cell_marks : (p_cell_marks_l.map MarkV.segs).length = p_cell_marks_l.length := List.length_map ..
  have m_p_cell_marks : p_cell_marks_l.length ≤ 9223372036854775807 := hp2.h0.h1
  have hE := hEG
  refine fn_enter Tryd.func6 rfl Tryd.ntmps6 rfl ?_; intro H
  refine C_seq ?_
  refine C_region (l := [0, 1, 2]) rfl ?_
  refine Y_box ?_; intro b1
  refine Y_box ?_; intro b2
  refine Y_assign ?_
  refine XD_end ?_
  refine K_then ?_
  refine Y_pk [10, 9, 5, 1, 2, 3] ?_
  iterate 2 refine C_seq ?_
  refine C_region (l := [0, 1, 2, 3, 4, 5, 6, 7, 8, 9, 10, 11, 12, 13]) rfl ?_
  refine Y_fieldAddr F.foff28_4 ?_
  refine Y_fieldAddr F.foff26_4 ?_
  refine Y_load F.lay9 ?_
  refine Y_len_str Tryd.underlying9 ?_
  refine Y_cmp ?_
  refine Y_move ?_
  refine XD_part 32 rfl (fun hc3 => ?_) (fun hc3 => ?_)
  ·replace hc3 := dT hc3
   iterate 3 refine Y_skip ?_
   refine Y_pick ?_
   refine Y_move ?_
   iterate 2 refine Y_skip ?_
   refine Y_pick ?_
   refine XD_end ?_
   refine K_then ?_
   refine Y_pk [40, 10, 9, 5, 1, 2, 3] ?_
   refine C_true rfl ?_
   refine C_seq ?_
   refine C_region (l := [0]) rfl ?_
   refine Y_assign ?_
   refine XD_end ?_
   refine K_then ?_
   refine Y_pk [10, 9, 5, 1, 2, 3] ?_
   refine C_ret ?_
   refine K_ret ?_
   refine K_end (.inr rfl) (.tmp rfl .nil) (fun w hw => ?_)
   refine ⟨_, _, rfl, (by exact Mem.le.refl _), (hw.c), ?_⟩
   clear hw
   rfl
  ·replace hc3 := dF hc3
   refine Y_move ?_
   refine Y_len_sl F.elem51 ?_
   refine Y_cmp ?_
   refine Y_pick ?_
   refine Y_move ?_
   refine XD_part 37 rfl (fun hc4 => ?_) (fun hc4 => ?_)
   ·replace hc4 := dT hc4
    iterate 2 refine Y_skip ?_
    refine Y_pick ?_
    refine XD_end ?_
    refine K_then ?_
    refine Y_pk [40, 10, 9, 5, 1, 2, 3] ?_
    refine C_true rfl ?_
    refine C_seq ?_
    refine C_region (l := [0]) rfl ?_
    refine Y_assign ?_
    refine XD_end ?_
    refine K_then ?_
    refine Y_pk [10, 9, 5, 1, 2, 3] ?_
    refine C_ret ?_
    refine K_ret ?_
    refine K_end (.inr rfl) (.tmp rfl .nil) (fun w hw => ?_)
    refine ⟨_, _, rfl, (by exact Mem.le.refl _), (hw.c), ?_⟩
    clear hw
    rfl
   ·replace hc4 := dF hc4
    refine Y_load F.lay42 ?_
    refine X_fs rfl rfl F.ok19 rfl (Big18_ok _ ⟨_, _, _, ⟨_, _, _, _, _⟩, ⟨_, _, _, _⟩, _, ⟨_, _, _, ⟨_, _, _⟩⟩⟩ (by assumption)) rfl ?_
    rintro _ ⟨bg, rfl⟩
    refine Y_pick ?_
    refine XD_end ?_
    refine K_then ?_
    refine Y_pk [40, 10, 9, 5, 1, 2, 3] ?_
    refine C_cond rfl (fun hc5 => ?_) (fun hc5 => ?_)
    ·skip
     refine C_seq ?_
     refine C_region (l := [0]) rfl ?_
     refine Y_assign ?_
     refine XD_end ?_
     refine K_then ?_
     refine Y_pk [10, 9, 5, 1, 2, 3] ?_
     refine C_ret ?_
     refine K_ret ?_
     refine K_end (.inr rfl) (.tmp rfl .nil) (fun w hw => ?_)
     refine ⟨_, _, rfl, (by exact Mem.le.refl _), (hw.c), ?_⟩
     clear hw
     rfl
    ·skip
     refine C_skip ?_
     refine K_then ?_
     refine Y_pk [10, 9, 5, 1, 2, 3] ?_
     refine C_seq ?_
     refine C_region (l := [0, 1, 2, 3, 4, 5, 6, 7, 8]) rfl ?_
     refine Y_load F.lay28 ?_
     iterate 2 refine Y_move ?_
     refine X_fn rfl rfl F.ok22 rfl (Ask_ok _ ⟨_, _, _, _, ⟨_, _, _, _, _⟩, _⟩ ⟨_, _, _⟩ _ (by assumption) (by assumption)) rfl ?_
     rintro _ M1 hm1 ⟨⟨s1_a, s1_c, s1_l⟩, rfl, hs1, kk1, ko1⟩
     simp only at hs1 kk1 ko1
     have hE1 := hE.mono hm1
     refine Y_move ?_
     iterate 2 refine Y_extract ?_
     iterate 2 refine Y_assign ?_
     refine XD_end ?_
     refine K_then ?_
     refine Y_pk [12, 11, 10, 9, 5, 1, 2, 3] ?_
     refine C_seq ?_
     refine C_region (l := [0, 1, 2, 3, 4, 5, 6, 7, 8]) rfl ?_
     refine Y_load F.lay28 ?_
     iterate 2 refine Y_move ?_
     refine X_fn rfl rfl F.ok23 rfl (rAsk_ok _ ⟨_, _, _, _, ⟨_, _, _, _, _⟩, _⟩ ⟨_, _, _⟩ _ (by exact SlM.mono (by assumption) (by assumption)) (by assumption)) rfl ?_
     rintro _ M2 hm2 ⟨⟨s2_a, s2_c, s2_l⟩, rfl, hs2, kk2, ko2⟩
     simp only at hs2 kk2 ko2
     have hs2 : s1_l = s2_l := hs1.trans hs2.symm
     subst hs2
     replace ko1 : ∀ y ∈ s1_l, PostV.ok M2 y := fun y hy => (ko1 y hy).mono hm2
     have hsp := SamePosts.refl s1_l
     have b1 : s1_l.length ≤ maxLen := by rw [hs1]; unfold askL maxLen; split <;> simp
     have hE2 := hE1.mono hm2
     refine Y_move ?_
     iterate 2 refine Y_extract ?_
     iterate 2 refine Y_assign ?_
     refine XD_end ?_
     refine K_then ?_
     refine Y_pk [14, 13, 12, 11, 10, 9, 5, 3] ?_
     refine C_seq ?_
     refine C_region (l := [0, 1, 2, 3, 4, 5, 6, 7, 8, 9, 10, 11]) rfl ?_
     refine Y_load F.lay28 ?_
     refine Y_move ?_
     refine X_fs rfl rfl F.ok21 rfl (Tick_ok _ (by assumption) ⟨_, _, _, _, ⟨_, _, _, _, _⟩, _⟩ _) rfl ?_
     rintro _ rfl
     refine Y_move ?_
     iterate 3 refine Y_extract ?_
     refine Y_alloc F.zero28 ?_; intro b6
     refine Y_alloc F.zero45 ?_; intro b7
     refine Y_store F.lay28 ?_
     refine Y_store F.lay45 ?_
     refine Y_assign ?_
     refine XD_end ?_
     refine K_then ?_
     refine Y_pk [17, 16, 15, 14, 13, 12, 11, 10, 9, 5, 3] ?_
     refine C_seq ?_
     refine C_region (l := [0, 1, 2, 3, 4, 5, 6, 7, 8, 9, 10, 11]) rfl ?_
     refine Y_load F.lay28 ?_
     refine Y_move ?_
     refine X_fs rfl rfl F.ok24 rfl (rTick_ok _ ⟨_, _, _, _, ⟨_, _, _, _, _⟩, _⟩ _) rfl ?_
     rintro _ rfl
     refine Y_move ?_
     iterate 3 refine Y_extract ?_
     refine Y_alloc F.zero28 ?_; intro b8
     refine Y_alloc F.zero45 ?_; intro b9
     refine Y_store F.lay28 ?_
     refine Y_store F.lay45 ?_
     refine Y_assign ?_
     refine XD_end ?_
     refine K_then ?_
     refine Y_pk [20, 19, 18, 17, 16, 15, 14, 13, 12, 11, 10, 9, 5] ?_
     refine C_seq ?_
     refine C_region (l := [0, 1, 2, 3, 4, 5, 6, 7, 8, 9, 10, 11]) rfl ?_
     refine Y_load F.lay28 ?_
     refine Y_load F.lay42 ?_
     refine X_fs rfl rfl F.ok20 rfl (Take_ok _ ⟨_, _, _, _, ⟨_, _, _, _, _⟩, _⟩ ⟨_, _, _, ⟨_, _, _, _, _⟩, ⟨_, _, _, _⟩, _, ⟨_, _, _, ⟨_, _, _⟩⟩⟩ (by exact ParcelV.ok.mono (by assumption) (by (repeat first | assumption | refine Mem.le.trans (by assumption) ?_)))) rfl ?_
     rintro _ rfl
     refine Y_move ?_
     iterate 3 refine Y_extract ?_
     refine Y_alloc F.zero28 ?_; intro b10
     refine Y_alloc F.zero45 ?_; intro b11
     refine Y_store F.lay28 ?_
     refine Y_store F.lay45 ?_
     refine Y_assign ?_
     refine XD_end ?_
     refine K_then ?_
     refine Y_pk [23, 22, 21, 20, 19, 18, 17, 16, 15, 14, 13, 12, 11, 10, 9, 5] ?_
     refine C_seq ?_
     refine C_region (l := [0, 1, 2, 3, 4, 5, 6, 7, 8, 9, 10, 11]) rfl ?_
     refine Y_load F.lay28 ?_
     refine Y_load F.lay42 ?_
     refine X_fs rfl rfl F.ok25 rfl (rTake_ok _ ⟨_, _, _, _, ⟨_, _, _, _, _⟩, _⟩ ⟨_, _, _, ⟨_, _, _, _, _⟩, ⟨_, _, _, _⟩, _, ⟨_, _, _, ⟨_, _, _⟩⟩⟩ (by exact ParcelV.ok.mono (by assumption) (by (repeat first | assumption | refine Mem.le.trans (by assumption) ?_)))) rfl ?_
     rintro _ rfl
     refine Y_move ?_
     iterate 3 refine Y_extract ?_
     refine Y_alloc F.zero28 ?_; intro b12
     refine Y_alloc F.zero45 ?_; intro b13
     refine Y_store F.lay28 ?_
     refine Y_store F.lay45 ?_
     refine Y_assign ?_
     refine XD_end ?_
     refine K_then ?_
     refine Y_pk [26, 25, 24, 23, 22, 21, 20, 19, 18, 17, 16, 15, 14, 13, 12, 11, 10] ?_
     refine C_seq ?_
     refine C_region (l := [0, 1, 2, 3, 4, 5, 6, 7, 8, 9, 10, 11, 12, 13, 14, 15, 16, 17, 18, 19, 20, 21, 22, 23, 24, 25, 26, 27, 28, 29, 30, 31, 32, 33, 34, 35, 36, 37, 38, 39, 40, 41]) rfl ?_
     refine X_fs rfl rfl F.ok16 rfl (clients_ok _ (by assumption)) rfl ?_
     rintro _ rfl
     refine Y_move ?_
     refine XD_part 84 rfl (fun hc14 => ?_) (fun hc14 => ?_)
     ·skip
      simp only [OpV.eta, ClientV.eta, AnswerV.eta, OutcomeV.eta, MarkV.eta, CellV.eta, ParcelV.eta, PostV.eta, PeerV.eta, StepL06V.eta] at hc14
      iterate 2 refine Y_move ?_
      refine X_fs rfl rfl F.ok26 rfl (Posts_ok M2 ⟨_, _, _⟩ ⟨_, _, _⟩ (kk1.mono hm2) b1 ko1 kk2 b1 ko2) rfl ?_
      rintro _ rfl
      refine Y_pick ?_
      refine Y_move ?_
      refine XD_part 89 rfl (fun hc15 => ?_) (fun hc15 => ?_)
      ·replace hc15 := dT hc15
       simp only [OpV.eta, ClientV.eta, AnswerV.eta, OutcomeV.eta, MarkV.eta, CellV.eta, ParcelV.eta, PostV.eta, PeerV.eta, StepL06V.eta] at hc15
       iterate 2 refine Y_move ?_
       refine Y_cmp ?_
       refine Y_pick ?_
       refine Y_move ?_
       refine XD_part 94 rfl (fun hc16 => ?_) (fun hc16 => ?_)
       ·replace hc16 := dT hc16
        simp only [OpV.eta, ClientV.eta, AnswerV.eta, OutcomeV.eta, MarkV.eta, CellV.eta, ParcelV.eta, PostV.eta, PeerV.eta, StepL06V.eta] at hc16
        iterate 2 refine Y_load F.lay28 ?_
        refine X_same (m := 20) rfl rfl rfl rfl rfl (by constructor) (by constructor) F.lay28 F.kinds28 rfl F.guard28 (by exact FitClientV _) (by exact FitClientV _) rfl rfl rfl ?_; intro c17 he18
        replace he18 : c17 = true ↔ Segs.cells _ = Segs.cells _ := he18
        obtain rfl := eqD he18 (ClientV.inj (x := ⟨_, _, _, _, ⟨_, _, _, _, _⟩, _⟩) (y := ⟨_, _, _, _, ⟨_, _, _, _, _⟩, _⟩)); clear he18
        refine Y_pick ?_
        refine Y_move ?_
        refine XD_part 99 rfl (fun hc19 => ?_) (fun hc19 => ?_)
        ·replace hc19 := dT hc19
         simp only [OpV.eta, ClientV.eta, AnswerV.eta, OutcomeV.eta, MarkV.eta, CellV.eta, ParcelV.eta, PostV.eta, PeerV.eta, StepL06V.eta] at hc19
         iterate 2 refine Y_load F.lay45 ?_
         refine X_same (m := 20) rfl rfl rfl rfl rfl (by constructor) (by constructor) F.lay45 F.kinds45 rfl F.guard45 (by exact FitOutcomeV _) (by exact FitOutcomeV _) rfl rfl rfl ?_; intro c20 he21
         replace he21 : c20 = true ↔ Segs.cells _ = Segs.cells _ := he21
         obtain rfl := eqD he21 (OutcomeV.inj (x := ⟨_, ⟨_, _, _, _⟩⟩) (y := ⟨_, ⟨_, _, _, _⟩⟩)); clear he21
         refine Y_pick ?_
         refine Y_move ?_
         refine XD_part 104 rfl (fun hc22 => ?_) (fun hc22 => ?_)
         ·replace hc22 := dT hc22
          simp only [OpV.eta, ClientV.eta, AnswerV.eta, OutcomeV.eta, MarkV.eta, CellV.eta, ParcelV.eta, PostV.eta, PeerV.eta, StepL06V.eta] at hc22
          iterate 2 refine Y_move ?_
          refine Y_cmp ?_
          refine Y_pick ?_
          refine Y_move ?_
          refine XD_part 109 rfl (fun hc23 => ?_) (fun hc23 => ?_)
          ·replace hc23 := dT hc23
           simp only [OpV.eta, ClientV.eta, AnswerV.eta, OutcomeV.eta, MarkV.eta, CellV.eta, ParcelV.eta, PostV.eta, PeerV.eta, StepL06V.eta] at hc23
           iterate 2 refine Y_load F.lay28 ?_
           refine X_same (m := 20) rfl rfl rfl rfl rfl (by constructor) (by constructor) F.lay28 F.kinds28 rfl F.guard28 (by exact FitClientV _) (by exact FitClientV _) rfl rfl rfl ?_; intro c24 he25
           replace he25 : c24 = true ↔ Segs.cells _ = Segs.cells _ := he25
           obtain rfl := eqD he25 (ClientV.inj (x := ⟨_, _, _, _, ⟨_, _, _, _, _⟩, _⟩) (y := ⟨_, _, _, _, ⟨_, _, _, _, _⟩, _⟩)); clear he25
           refine Y_pick ?_
           refine Y_move ?_
           refine XD_part 114 rfl (fun hc26 => ?_) (fun hc26 => ?_)
           ·replace hc26 := dT hc26
            simp only [OpV.eta, ClientV.eta, AnswerV.eta, OutcomeV.eta, MarkV.eta, CellV.eta, ParcelV.eta, PostV.eta, PeerV.eta, StepL06V.eta] at hc26
            iterate 2 refine Y_load F.lay45 ?_
            refine X_same (m := 20) rfl rfl rfl rfl rfl (by constructor) (by constructor) F.lay45 F.kinds45 rfl F.guard45 (by exact FitOutcomeV _) (by exact FitOutcomeV _) rfl rfl rfl ?_; intro c27 he28
            replace he28 : c27 = true ↔ Segs.cells _ = Segs.cells _ := he28
            obtain rfl := eqD he28 (OutcomeV.inj (x := ⟨_, ⟨_, _, _, _⟩⟩) (y := ⟨_, ⟨_, _, _, _⟩⟩)); clear he28
            refine Y_pick ?_
            refine Y_move ?_
            refine XD_part 119 rfl (fun hc29 => ?_) (fun hc29 => ?_)
            ·replace hc29 := dT hc29
             simp only [OpV.eta, ClientV.eta, AnswerV.eta, OutcomeV.eta, MarkV.eta, CellV.eta, ParcelV.eta, PostV.eta, PeerV.eta, StepL06V.eta] at hc29
             iterate 2 refine Y_move ?_
             refine Y_cmp ?_
             refine Y_pick ?_
             refine Y_assign ?_
             refine XD_end ?_
             refine K_then ?_
             refine Y_pk [10] ?_
             refine C_ret ?_
             refine K_end (.inr rfl) (.tmp rfl .nil) (fun w hw => ?_)
             refine ⟨_, _, rfl, (by exact Mem.le.trans (by assumption) (by assumption)), (hw.c), ?_⟩
             clear hw
             (simp; rfl)
            ·replace hc29 := dF hc29
             simp only [OpV.eta, ClientV.eta, AnswerV.eta, OutcomeV.eta, MarkV.eta, CellV.eta, ParcelV.eta, PostV.eta, PeerV.eta, StepL06V.eta] at hc29
             (exfalso; simp [eqX] at hc29; done)
           ·replace hc26 := dF hc26
            simp only [OpV.eta, ClientV.eta, AnswerV.eta, OutcomeV.eta, MarkV.eta, CellV.eta, ParcelV.eta, PostV.eta, PeerV.eta, StepL06V.eta] at hc26
            (exfalso; simp [eqX] at hc26; done)
          ·replace hc23 := dF hc23
           simp only [OpV.eta, ClientV.eta, AnswerV.eta, OutcomeV.eta, MarkV.eta, CellV.eta, ParcelV.eta, PostV.eta, PeerV.eta, StepL06V.eta] at hc23
           (exfalso; simp [eqX] at hc23; done)
         ·replace hc22 := dF hc22
          simp only [OpV.eta, ClientV.eta, AnswerV.eta, OutcomeV.eta, MarkV.eta, CellV.eta, ParcelV.eta, PostV.eta, PeerV.eta, StepL06V.eta] at hc22
          (exfalso; simp [eqX] at hc22; done)
        ·replace hc19 := dF hc19
         simp only [OpV.eta, ClientV.eta, AnswerV.eta, OutcomeV.eta, MarkV.eta, CellV.eta, ParcelV.eta, PostV.eta, PeerV.eta, StepL06V.eta] at hc19
         (exfalso; simp [eqX] at hc19; done)
       ·replace hc16 := dF hc16
        simp only [OpV.eta, ClientV.eta, AnswerV.eta, OutcomeV.eta, MarkV.eta, CellV.eta, ParcelV.eta, PostV.eta, PeerV.eta, StepL06V.eta] at hc16
        (exfalso; simp [eqX] at hc16; done)
      ·replace hc15 := dF hc15
       simp only [OpV.eta, ClientV.eta, AnswerV.eta, OutcomeV.eta, MarkV.eta, CellV.eta, ParcelV.eta, PostV.eta, PeerV.eta, StepL06V.eta] at hc15
       contradiction
     ·skip
      (exfalso; simp [eqX] at hc14; done)

end Go.Proofs.YtelpkhhfjfbkcaaDoor
/- made small -/
