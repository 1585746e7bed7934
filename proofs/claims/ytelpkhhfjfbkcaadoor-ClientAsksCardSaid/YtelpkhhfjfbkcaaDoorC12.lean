/-
  What a client asks.
-/
import Derived.Test.YtelpkhhfjfbkcaaDoorC11
set_option linter.unusedSimpArgs false
set_option linter.unusedVariables false
set_option linter.unnecessarySimpa false
set_option maxRecDepth 8000
namespace Go.Proofs.YtelpkhhfjfbkcaaDoor
open Go.Esp
theorem F.bld42 : Bld Tryd.prog 42 [[.one (.int .i64 0)], [.one (.int .u64 0)], [idSeg 0], [.one (.int .i64 0), .one (.int .u64 0), .one (.int .i64 0), .one (.int .u64 0), .one (.string ⟨#[]⟩)], [.one (.int .i64 0), .one (.int .u64 0), .one (.bool false), .one (.string ⟨#[]⟩)], [.one (.int .u64 0)], [.one (.int .u64 0), .one (.bool false), .one (.string ⟨#[]⟩), .one (.slice none 0 0)]] := by rw [idSeg0]; exact ⟨by kernel_rfl, by kernel_rfl⟩
theorem F.bld60 : Bld Tryd.prog 60 [[.one (.int .i64 0)], [.one (.int .i64 0), .one (.int .u64 0), idSeg 0, .one (.int .i64 0), .one (.int .u64 0), .one (.int .i64 0), .one (.int .u64 0), .one (.string ⟨#[]⟩), .one (.int .i64 0), .one (.int .u64 0), .one (.bool false), .one (.string ⟨#[]⟩), .one (.int .u64 0), .one (.int .u64 0), .one (.bool false), .one (.string ⟨#[]⟩), .one (.slice none 0 0)]] := by rw [idSeg0]; exact ⟨by kernel_rfl, by kernel_rfl⟩
theorem F.foff28_3 : foff Tryd.prog 28 3 = some 3 := by kernel_rfl
theorem F.ok27 : okFn Tryd.prog 27 = true := by kernel_rfl
theorem F.ok55 : okFn Tryd.prog 55 = true := by kernel_rfl
theorem F.zero42 : zeroOf Tryd.prog 42 = some (aggV [.one (.int .i64 0), .one (.int .u64 0), idSeg 0, .one (.int .i64 0), .one (.int .u64 0), .one (.int .i64 0), .one (.int .u64 0), .one (.string ⟨#[]⟩), .one (.int .i64 0), .one (.int .u64 0), .one (.bool false), .one (.string ⟨#[]⟩), .one (.int .u64 0), .one (.int .u64 0), .one (.bool false), .one (.string ⟨#[]⟩), .one (.slice none 0 0)]) := by rw [idSeg0]; kernel_rfl
theorem F.zero60 : zeroOf Tryd.prog 60 = some (aggV [.one (.int .i64 0), .one (.int .i64 0), .one (.int .u64 0), idSeg 0, .one (.int .i64 0), .one (.int .u64 0), .one (.int .i64 0), .one (.int .u64 0), .one (.string ⟨#[]⟩), .one (.int .i64 0), .one (.int .u64 0), .one (.bool false), .one (.string ⟨#[]⟩), .one (.int .u64 0), .one (.int .u64 0), .one (.bool false), .one (.string ⟨#[]⟩), .one (.slice none 0 0)]) := by rw [idSeg0]; kernel_rfl

theorem Ask_in (M : Mem) (c : ClientV) (l : (Sl PeerV)) (epoch : Int) (hl0 : SlM M (l).a ((l).l.map PeerV.segs) 21) (hl1 : (l).l.length ≤ maxLen) (hcr : IsCircle l.l) : Esp.Fn Tryd.prog 22 [c.enc, Sl.val l, .int .u64 epoch] M (fun M' v => ∃ s : Sl PostV, v = .tuple #[s.val, .int .i64 (askE c l.l)] ∧ s.l = askL c l.l epoch ∧ SlM M' s.a (s.l.map PostV.segs) 37 ∧ ∀ y ∈ s.l, PostV.ok M' y) := by
  obtain ⟨c_num, c_req, c_busy, c_key, ⟨c_op_client, c_op_req, c_op_kind, c_op_version, c_op_val⟩, c_tries⟩ := c
  obtain ⟨l_a, l_c, l_l⟩ := l
  have s_l : SlM M l_a (l_l.map PeerV.segs) 21 := hl0
  have n_l : (l_l.map PeerV.segs).length = l_l.length := List.length_map ..
  have m_l : l_l.length ≤ 9223372036854775807 := hl1
  simp only at hcr
  have hol := ownerI_lt (l := l_l) (x := c_key) (by have := hcr.1.1; omega)
  refine fn_enter Tryd.func22 rfl Tryd.ntmps22 rfl ?_; intro H
  refine C_seq ?_
  refine C_region (l := [0, 1, 2]) rfl ?_
  refine Y_box ?_; intro b1
  iterate 2 refine Y_assign ?_
  refine XD_end ?_
  refine K_then ?_
  refine Y_pk [7, 6, 3, 1, 2] ?_
  refine C_seq ?_
  refine C_region (l := [0, 1, 2, 3, 4, 5, 6, 7, 8]) rfl ?_
  refine Y_move ?_
  refine Y_fieldAddr F.foff28_3 ?_
  refine Y_load F.lay24 ?_
  refine X_fs rfl rfl F.ok27 rfl (Owner_ok M ⟨_, _, _⟩ _ (by assumption) (by assumption)) rfl ?_
  rintro _ rfl
  rw [show ofII (ownerR l_l c_key) = .tuple #[.int .i64 ((ownerI l_l c_key : Nat) : Int), .int .i64 0] by unfold ofII ownerR; rw [if_pos hcr]]
  refine Y_move ?_
  iterate 2 refine Y_extract ?_
  iterate 2 refine Y_assign ?_
  refine XD_end ?_
  refine K_then ?_
  refine Y_pk [9, 8, 7, 6, 3, 1, 2] ?_
  iterate 2 refine C_seq ?_
  refine C_region (l := [0, 1, 2, 3, 4, 5, 6]) rfl ?_
  refine Y_move ?_
  refine Y_cmp ?_
  refine Y_move ?_
  refine XD_part 20 rfl (fun hc2 => ?_) (fun hc2 => ?_)
  ·replace hc2 := nT hc2
   simp only [OpV.eta, ClientV.eta, AnswerV.eta, OutcomeV.eta, MarkV.eta, CellV.eta, ParcelV.eta, PostV.eta, PeerV.eta, StepL06V.eta] at hc2
   (exfalso; simp [eqX] at hc2; done)
  ·replace hc2 := nF hc2
   simp only [OpV.eta, ClientV.eta, AnswerV.eta, OutcomeV.eta, MarkV.eta, CellV.eta, ParcelV.eta, PostV.eta, PeerV.eta, StepL06V.eta] at hc2
   refine Y_load F.lay28 ?_
   refine X_fs rfl rfl F.ok17 rfl (Is_ok _ ⟨_, _, _, _, ⟨_, _, _, _, _⟩, _⟩) rfl ?_
   rintro _ rfl
   refine Y_not ?_
   refine Y_pick ?_
   refine XD_end ?_
   refine K_then ?_
   refine Y_pk [24, 8, 7, 6, 3, 1, 2] ?_
   refine C_cond rfl (fun hc3 => ?_) (fun hc3 => ?_)
   ·replace hc3 := nT hc3
    refine C_seq ?_
    refine C_region (l := [0, 1]) rfl ?_
    iterate 2 refine Y_assign ?_
    refine XD_end ?_
    refine K_then ?_
    refine Y_pk [7, 6, 8, 3, 1, 2] ?_
    refine C_ret ?_
    refine K_ret ?_
    refine K_end (.inr rfl) (.tmp rfl (.tmp rfl .nil)) (fun w hw => ?_)
    exact ⟨_, M, rfl, Mem.le.refl M, hw.c, ⟨none, 0, []⟩, congrArg (fun z => Value.tuple #[.slice none 0 0, .int .i64 z]) (by grind [askE]), (by grind [askL]), SlM.nil _ _ _, fun y hy => (by cases hy)⟩
   ·replace hc3 := nF hc3
    refine C_skip ?_
    refine K_then ?_
    refine Y_pk [8, 7, 6, 3, 1, 2] ?_
    iterate 2 refine C_seq ?_
    refine C_region (l := [0, 1, 2]) rfl ?_
    refine Y_fieldAddr F.foff28_2 ?_
    refine Y_load F.lay4 ?_
    refine Y_not ?_
    refine XD_end ?_
    refine K_then ?_
    refine Y_pk [27, 8, 7, 6, 3, 1, 2] ?_
    refine C_cond rfl (fun hc4 => ?_) (fun hc4 => ?_)
    ·skip
     refine C_seq ?_
     refine C_region (l := [0, 1]) rfl ?_
     iterate 2 refine Y_assign ?_
     refine XD_end ?_
     refine K_then ?_
     refine Y_pk [7, 6, 8, 3, 1, 2] ?_
     refine C_ret ?_
     refine K_ret ?_
     refine K_end (.inr rfl) (.tmp rfl (.tmp rfl .nil)) (fun w hw => ?_)
     exact ⟨_, M, rfl, Mem.le.refl M, hw.c, ⟨none, 0, []⟩, congrArg (fun z => Value.tuple #[.slice none 0 0, .int .i64 z]) (by grind [askE]), (by grind [askL]), SlM.nil _ _ _, fun y hy => (by cases hy)⟩
    ·skip
     refine C_skip ?_
     refine K_then ?_
     refine Y_pk [8, 7, 6, 3, 1, 2] ?_
     refine C_seq ?_
     refine C_region (l := [0, 1, 2, 3, 4, 5, 6, 7]) rfl ?_
     refine Y_move ?_
     refine Y_fieldAddr F.foff28_3 ?_
     refine Y_load F.lay24 ?_
     refine Y_fieldAddr F.foff28_4 ?_
     refine Y_load F.lay26 ?_
     refine X_build rfl rfl F.bld42 (.cons rfl (by constructor) (.cons rfl (by constructor) (.cons rfl (by constructor) (.cons rfl (by constructor) .nil)))) rfl rfl ?_
     refine Y_alloc F.zero42 ?_; intro b5
     refine Y_store F.lay42 ?_
     refine XD_end ?_
     refine K_then ?_
     refine Y_pk [10, 8, 7, 6, 1] ?_
     refine C_seq ?_
     refine C_region_any (l := [0, 1, 2, 3, 4, 5, 6, 7, 8, 9]) #[0, 0, 3, 7, 15, 0, 63, 127, 255, 511] _ rfl (by kernel_rfl) (by kernel_rfl) St.drawn (fun _ h => h) ?_
     iterate 2 refine Y_move ?_
     refine X_indexAddr rfl rfl rfl rfl F.elem51 (by rfl) (by omega) (by exact SlM.plain (by assumption) (by (simp; omega))) rfl ?_
     refine X_fieldAddr_el rfl rfl rfl (by exact SlM.plain (by assumption) (by (simp; omega))) F.foff62_0 rfl ?_
     refine X_load_el rfl rfl rfl (by assumption) (by exact row_map (by omega)) F.lay3 rfl rfl rfl ?_
     refine Y_load F.lay42 ?_
     refine X_build rfl rfl F.bld60 (.cons rfl (by constructor) (.cons rfl (by constructor) .nil)) rfl rfl ?_
     refine X_buildSliceF rfl rfl F.elem52 F.zero60 rfl rfl (.cons rfl (by constructor) .nil) rfl rfl (by simp only [List.map_cons, List.map_nil] <;> rfl) rfl ?_; intro b6 hob7
     iterate 2 refine Y_assign ?_
     refine XD_end ?_
     refine K_then ?_
     refine Y_pk [7, 6] ?_
     refine C_ret ?_
     refine K_end (.inr rfl) (.tmp rfl (.tmp rfl .nil)) (fun w hw => ?_)
     obtain ⟨M2, a2, c2, g1, g2, g3, g4⟩ := hob7.freeze (M := M) (H := H) (w := w) (hw.c)
     cases g3
     have g5 : SlM M2 (some ⟨b6, 0, none⟩) ([(⟨(l_l[ownerI l_l c_key]'(by omega)).addr, ⟨1, epoch, c_key, ⟨c_op_client, c_op_req, c_op_kind, c_op_version, c_op_val⟩, ⟨0, 0, false, ⟨#[]⟩⟩, 0, ⟨0, false, ⟨#[]⟩, ⟨none, 0, []⟩⟩⟩⟩ : PostV)].map PostV.segs) 37 := by
      simp only [List.map_cons, List.map_nil, PostV.segs]
      exact g4
     have g6 : IsClient ⟨c_num, c_req, c_busy, c_key, ⟨c_op_client, c_op_req, c_op_kind, c_op_version, c_op_val⟩, c_tries⟩ ∧ c_busy = true := (by grind)
     have g7 : askE ⟨c_num, c_req, c_busy, c_key, ⟨c_op_client, c_op_req, c_op_kind, c_op_version, c_op_val⟩, c_tries⟩ l_l = 0 := (by unfold askE; rw [if_pos ⟨hcr, g6.1⟩])
     refine ⟨_, M2, rfl, g1, g2, ⟨some ⟨b6, 0, none⟩, 1, [⟨(l_l[ownerI l_l c_key]'(by omega)).addr, ⟨1, epoch, c_key, ⟨c_op_client, c_op_req, c_op_kind, c_op_version, c_op_val⟩, ⟨0, 0, false, ⟨#[]⟩⟩, 0, ⟨0, false, ⟨#[]⟩, ⟨none, 0, []⟩⟩⟩⟩]⟩, ?_, ?_, g5, ?_⟩
     ·rw [g7]; rfl
     ·unfold askL; rw [dif_pos ⟨hcr, g6⟩]; rfl
     ·intro y hy
      simp only [List.mem_singleton] at hy
      subst hy
      exact ⟨⟨CellV.zero_ok M2⟩⟩

theorem Ask_out (M : Mem) (c : ClientV) (l : (Sl PeerV)) (epoch : Int) (hl0 : SlM M (l).a ((l).l.map PeerV.segs) 21) (hl1 : (l).l.length ≤ maxLen) (hcr : ¬ IsCircle l.l) : Esp.Fn Tryd.prog 22 [c.enc, Sl.val l, .int .u64 epoch] M (fun M' v => ∃ s : Sl PostV, v = .tuple #[s.val, .int .i64 (askE c l.l)] ∧ s.l = askL c l.l epoch ∧ SlM M' s.a (s.l.map PostV.segs) 37 ∧ ∀ y ∈ s.l, PostV.ok M' y) := by
  obtain ⟨c_num, c_req, c_busy, c_key, ⟨c_op_client, c_op_req, c_op_kind, c_op_version, c_op_val⟩, c_tries⟩ := c
  obtain ⟨l_a, l_c, l_l⟩ := l
  have s_l : SlM M l_a (l_l.map PeerV.segs) 21 := hl0
  have n_l : (l_l.map PeerV.segs).length = l_l.length := List.length_map ..
  have m_l : l_l.length ≤ 9223372036854775807 := hl1
  simp only at hcr
  refine fn_enter Tryd.func22 rfl Tryd.ntmps22 rfl ?_; intro H
  refine C_seq ?_
  refine C_region (l := [0, 1, 2]) rfl ?_
  refine Y_box ?_; intro b1
  iterate 2 refine Y_assign ?_
  refine XD_end ?_
  refine K_then ?_
  refine Y_pk [7, 6, 3, 1, 2] ?_
  refine C_seq ?_
  refine C_region (l := [0, 1, 2, 3, 4, 5, 6, 7, 8]) rfl ?_
  refine Y_move ?_
  refine Y_fieldAddr F.foff28_3 ?_
  refine Y_load F.lay24 ?_
  refine X_fs rfl rfl F.ok27 rfl (Owner_ok M ⟨_, _, _⟩ _ (by assumption) (by assumption)) rfl ?_
  rintro _ rfl
  rw [show ofII (ownerR l_l c_key) = .tuple #[.int .i64 0, .int .i64 1] by unfold ofII ownerR; rw [if_neg hcr]]
  refine Y_move ?_
  iterate 2 refine Y_extract ?_
  iterate 2 refine Y_assign ?_
  refine XD_end ?_
  refine K_then ?_
  refine Y_pk [9, 8, 7, 6, 3, 1, 2] ?_
  iterate 2 refine C_seq ?_
  refine C_region (l := [0, 1, 2, 3, 4, 5, 6]) rfl ?_
  refine Y_move ?_
  refine Y_cmp ?_
  refine Y_move ?_
  refine XD_part 20 rfl (fun hc2 => ?_) (fun hc2 => ?_)
  ·replace hc2 := nT hc2
   iterate 3 refine Y_skip ?_
   refine Y_pick ?_
   refine XD_end ?_
   refine K_then ?_
   refine Y_pk [24, 8, 7, 6, 3, 1, 2] ?_
   refine C_true rfl ?_
   refine C_seq ?_
   refine C_region (l := [0, 1]) rfl ?_
   iterate 2 refine Y_assign ?_
   refine XD_end ?_
   refine K_then ?_
   refine Y_pk [7, 6, 8, 3, 1, 2] ?_
   refine C_ret ?_
   refine K_ret ?_
   refine K_end (.inr rfl) (.tmp rfl (.tmp rfl .nil)) (fun w hw => ?_)
   exact ⟨_, M, rfl, Mem.le.refl M, hw.c, ⟨none, 0, []⟩, congrArg (fun z => Value.tuple #[.slice none 0 0, .int .i64 z]) (by grind [askE]), (by grind [askL]), SlM.nil _ _ _, fun y hy => (by cases hy)⟩
  ·replace hc2 := nF hc2
   (exfalso; omega)

theorem Ask_ok (M : Mem) (c : ClientV) (l : (Sl PeerV)) (epoch : Int) (hl0 : SlM M (l).a ((l).l.map PeerV.segs) 21) (hl1 : (l).l.length ≤ maxLen) : Esp.Fn Tryd.prog 22 [c.enc, Sl.val l, .int .u64 epoch] M (fun M' v => ∃ s : Sl PostV, v = .tuple #[s.val, .int .i64 (askE c l.l)] ∧ s.l = askL c l.l epoch ∧ SlM M' s.a (s.l.map PostV.segs) 37 ∧ ∀ y ∈ s.l, PostV.ok M' y) := by
  by_cases hcr : IsCircle l.l
  ·exact Ask_in M c l epoch hl0 hl1 hcr
  ·exact Ask_out M c l epoch hl0 hl1 hcr

theorem rAsk_in (M : Mem) (c : ClientV) (l : (Sl PeerV)) (epoch : Int) (hl0 : SlM M (l).a ((l).l.map PeerV.segs) 21) (hl1 : (l).l.length ≤ maxLen) (hcr : IsCircle l.l) : Esp.Fn Tryd.prog 23 [c.enc, Sl.val l, .int .u64 epoch] M (fun M' v => ∃ s : Sl PostV, v = .tuple #[s.val, .int .i64 (askE c l.l)] ∧ s.l = askL c l.l epoch ∧ SlM M' s.a (s.l.map PostV.segs) 37 ∧ ∀ y ∈ s.l, PostV.ok M' y) := by
  obtain ⟨c_num, c_req, c_busy, c_key, ⟨c_op_client, c_op_req, c_op_kind, c_op_version, c_op_val⟩, c_tries⟩ := c
  obtain ⟨l_a, l_c, l_l⟩ := l
  have s_l : SlM M l_a (l_l.map PeerV.segs) 21 := hl0
  have n_l : (l_l.map PeerV.segs).length = l_l.length := List.length_map ..
  have m_l : l_l.length ≤ 9223372036854775807 := hl1
  simp only at hcr
  have hol := ownerI_lt (l := l_l) (x := c_key) (by have := hcr.1.1; omega)
  refine fn_enter Tryd.func23 rfl Tryd.ntmps23 rfl ?_; intro H
  refine C_seq ?_
  refine C_region (l := [0, 1, 2]) rfl ?_
  refine Y_box ?_; intro b1
  iterate 2 refine Y_assign ?_
  refine XD_end ?_
  refine K_then ?_
  refine Y_pk [7, 6, 3, 1, 2] ?_
  iterate 2 refine C_seq ?_
  refine C_region (l := [0, 1, 2, 3, 4, 5, 6, 7]) rfl ?_
  refine Y_load F.lay28 ?_
  refine X_fs rfl rfl F.ok18 rfl (rIs_ok _ ⟨_, _, _, _, ⟨_, _, _, _, _⟩, _⟩) rfl ?_
  rintro _ rfl
  refine Y_not ?_
  refine Y_move ?_
  refine XD_part 14 rfl (fun hc2 => ?_) (fun hc2 => ?_)
  ·replace hc2 := nT hc2
   iterate 3 refine Y_skip ?_
   refine Y_pick ?_
   refine XD_end ?_
   refine K_then ?_
   refine Y_pk [18, 7, 6, 3, 1, 2] ?_
   refine C_true rfl ?_
   refine C_seq ?_
   refine C_region (l := [0, 1]) rfl ?_
   iterate 2 refine Y_assign ?_
   refine XD_end ?_
   refine K_then ?_
   refine Y_pk [7, 6, 3, 1, 2] ?_
   refine C_ret ?_
   refine K_ret ?_
   refine K_end (.inr rfl) (.tmp rfl (.tmp rfl .nil)) (fun w hw => ?_)
   exact ⟨_, M, rfl, Mem.le.refl M, hw.c, ⟨none, 0, []⟩, congrArg (fun z => Value.tuple #[.slice none 0 0, .int .i64 z]) (by grind [askE]), (by grind [askL]), SlM.nil _ _ _, fun y hy => (by cases hy)⟩
  ·replace hc2 := nF hc2
   refine Y_move ?_
   refine X_fs rfl rfl F.ok54 rfl (rCirc_ok _ ⟨_, _, _⟩ (by assumption) (by assumption)) rfl ?_
   rintro _ rfl
   refine Y_not ?_
   refine Y_pick ?_
   refine XD_end ?_
   refine K_then ?_
   refine Y_pk [18, 7, 6, 3, 1, 2] ?_
   refine C_cond rfl (fun hc3 => ?_) (fun hc3 => ?_)
   ·replace hc3 := nT hc3
    simp only [OpV.eta, ClientV.eta, AnswerV.eta, OutcomeV.eta, MarkV.eta, CellV.eta, ParcelV.eta, PostV.eta, PeerV.eta, StepL06V.eta] at hc3
    contradiction
   ·replace hc3 := nF hc3
    simp only [OpV.eta, ClientV.eta, AnswerV.eta, OutcomeV.eta, MarkV.eta, CellV.eta, ParcelV.eta, PostV.eta, PeerV.eta, StepL06V.eta] at hc3
    refine C_skip ?_
    refine K_then ?_
    refine Y_pk [7, 6, 3, 1, 2] ?_
    iterate 2 refine C_seq ?_
    refine C_region (l := [0, 1, 2]) rfl ?_
    refine Y_fieldAddr F.foff28_2 ?_
    refine Y_load F.lay4 ?_
    refine Y_not ?_
    refine XD_end ?_
    refine K_then ?_
    refine Y_pk [21, 7, 6, 3, 1, 2] ?_
    refine C_cond rfl (fun hc4 => ?_) (fun hc4 => ?_)
    ·skip
     refine C_seq ?_
     refine C_region (l := [0, 1]) rfl ?_
     iterate 2 refine Y_assign ?_
     refine XD_end ?_
     refine K_then ?_
     refine Y_pk [7, 6, 3, 1, 2] ?_
     refine C_ret ?_
     refine K_ret ?_
     refine K_end (.inr rfl) (.tmp rfl (.tmp rfl .nil)) (fun w hw => ?_)
     exact ⟨_, M, rfl, Mem.le.refl M, hw.c, ⟨none, 0, []⟩, congrArg (fun z => Value.tuple #[.slice none 0 0, .int .i64 z]) (by grind [askE]), (by grind [askL]), SlM.nil _ _ _, fun y hy => (by cases hy)⟩
    ·skip
     refine C_skip ?_
     refine K_then ?_
     refine Y_pk [7, 6, 3, 1, 2] ?_
     refine C_seq ?_
     refine C_region (l := [0, 1, 2, 3, 4, 5, 6, 7, 8]) rfl ?_
     refine Y_move ?_
     refine Y_fieldAddr F.foff28_3 ?_
     refine Y_load F.lay24 ?_
     refine X_fs rfl rfl F.ok55 rfl (rOwner_ok M ⟨_, _, _⟩ _ (by assumption) (by assumption)) rfl ?_
     rintro _ rfl
     rw [show ofII (ownerR l_l c_key) = .tuple #[.int .i64 ((ownerI l_l c_key : Nat) : Int), .int .i64 0] by unfold ofII ownerR; rw [if_pos hcr]]
     refine Y_move ?_
     iterate 2 refine Y_extract ?_
     iterate 2 refine Y_assign ?_
     refine XD_end ?_
     refine K_then ?_
     refine Y_pk [8, 7, 6, 3, 1, 2] ?_
     refine C_seq ?_
     refine C_region (l := [0, 1, 2, 3, 4, 5, 6, 7]) rfl ?_
     refine Y_move ?_
     refine Y_fieldAddr F.foff28_3 ?_
     refine Y_load F.lay24 ?_
     refine Y_fieldAddr F.foff28_4 ?_
     refine Y_load F.lay26 ?_
     refine X_build rfl rfl F.bld42 (.cons rfl (by constructor) (.cons rfl (by constructor) (.cons rfl (by constructor) (.cons rfl (by constructor) .nil)))) rfl rfl ?_
     refine Y_alloc F.zero42 ?_; intro b5
     refine Y_store F.lay42 ?_
     refine XD_end ?_
     refine K_then ?_
     refine Y_pk [10, 8, 7, 6, 1] ?_
     refine C_seq ?_
     refine C_region_any (l := [0, 1, 2, 3, 4, 5, 6, 7, 8, 9]) #[0, 0, 3, 7, 15, 0, 63, 127, 255, 511] _ rfl (by kernel_rfl) (by kernel_rfl) St.drawn (fun _ h => h) ?_
     iterate 2 refine Y_move ?_
     refine X_indexAddr rfl rfl rfl rfl F.elem51 (by rfl) (by omega) (by exact SlM.plain (by assumption) (by (simp; omega))) rfl ?_
     refine X_fieldAddr_el rfl rfl rfl (by exact SlM.plain (by assumption) (by (simp; omega))) F.foff62_0 rfl ?_
     refine X_load_el rfl rfl rfl (by assumption) (by exact row_map (by omega)) F.lay3 rfl rfl rfl ?_
     refine Y_load F.lay42 ?_
     refine X_build rfl rfl F.bld60 (.cons rfl (by constructor) (.cons rfl (by constructor) .nil)) rfl rfl ?_
     refine X_buildSliceF rfl rfl F.elem52 F.zero60 rfl rfl (.cons rfl (by constructor) .nil) rfl rfl (by simp only [List.map_cons, List.map_nil] <;> rfl) rfl ?_; intro b6 hob7
     iterate 2 refine Y_assign ?_
     refine XD_end ?_
     refine K_then ?_
     refine Y_pk [7, 6] ?_
     refine C_ret ?_
     refine K_end (.inr rfl) (.tmp rfl (.tmp rfl .nil)) (fun w hw => ?_)
     obtain ⟨M2, a2, c2, g1, g2, g3, g4⟩ := hob7.freeze (M := M) (H := H) (w := w) (hw.c)
     cases g3
     have g5 : SlM M2 (some ⟨b6, 0, none⟩) ([(⟨(l_l[ownerI l_l c_key]'(by omega)).addr, ⟨1, epoch, c_key, ⟨c_op_client, c_op_req, c_op_kind, c_op_version, c_op_val⟩, ⟨0, 0, false, ⟨#[]⟩⟩, 0, ⟨0, false, ⟨#[]⟩, ⟨none, 0, []⟩⟩⟩⟩ : PostV)].map PostV.segs) 37 := by
      simp only [List.map_cons, List.map_nil, PostV.segs]
      exact g4
     have g6 : IsClient ⟨c_num, c_req, c_busy, c_key, ⟨c_op_client, c_op_req, c_op_kind, c_op_version, c_op_val⟩, c_tries⟩ ∧ c_busy = true := (by grind)
     have g7 : askE ⟨c_num, c_req, c_busy, c_key, ⟨c_op_client, c_op_req, c_op_kind, c_op_version, c_op_val⟩, c_tries⟩ l_l = 0 := (by unfold askE; rw [if_pos ⟨hcr, g6.1⟩])
     refine ⟨_, M2, rfl, g1, g2, ⟨some ⟨b6, 0, none⟩, 1, [⟨(l_l[ownerI l_l c_key]'(by omega)).addr, ⟨1, epoch, c_key, ⟨c_op_client, c_op_req, c_op_kind, c_op_version, c_op_val⟩, ⟨0, 0, false, ⟨#[]⟩⟩, 0, ⟨0, false, ⟨#[]⟩, ⟨none, 0, []⟩⟩⟩⟩]⟩, ?_, ?_, g5, ?_⟩
     ·rw [g7]; rfl
     ·unfold askL; rw [dif_pos ⟨hcr, g6⟩]; rfl
     ·intro y hy
      simp only [List.mem_singleton] at hy
      subst hy
      exact ⟨⟨CellV.zero_ok M2⟩⟩

theorem rAsk_out (M : Mem) (c : ClientV) (l : (Sl PeerV)) (epoch : Int) (hl0 : SlM M (l).a ((l).l.map PeerV.segs) 21) (hl1 : (l).l.length ≤ maxLen) (hcr : ¬ IsCircle l.l) : Esp.Fn Tryd.prog 23 [c.enc, Sl.val l, .int .u64 epoch] M (fun M' v => ∃ s : Sl PostV, v = .tuple #[s.val, .int .i64 (askE c l.l)] ∧ s.l = askL c l.l epoch ∧ SlM M' s.a (s.l.map PostV.segs) 37 ∧ ∀ y ∈ s.l, PostV.ok M' y) := by
  obtain ⟨c_num, c_req, c_busy, c_key, ⟨c_op_client, c_op_req, c_op_kind, c_op_version, c_op_val⟩, c_tries⟩ := c
  obtain ⟨l_a, l_c, l_l⟩ := l
  have s_l : SlM M l_a (l_l.map PeerV.segs) 21 := hl0
  have n_l : (l_l.map PeerV.segs).length = l_l.length := List.length_map ..
  have m_l : l_l.length ≤ 9223372036854775807 := hl1
  simp only at hcr
  refine fn_enter Tryd.func23 rfl Tryd.ntmps23 rfl ?_; intro H
  refine C_seq ?_
  refine C_region (l := [0, 1, 2]) rfl ?_
  refine Y_box ?_; intro b1
  iterate 2 refine Y_assign ?_
  refine XD_end ?_
  refine K_then ?_
  refine Y_pk [7, 6, 3, 1, 2] ?_
  iterate 2 refine C_seq ?_
  refine C_region (l := [0, 1, 2, 3, 4, 5, 6, 7]) rfl ?_
  refine Y_load F.lay28 ?_
  refine X_fs rfl rfl F.ok18 rfl (rIs_ok _ ⟨_, _, _, _, ⟨_, _, _, _, _⟩, _⟩) rfl ?_
  rintro _ rfl
  refine Y_not ?_
  refine Y_move ?_
  refine XD_part 14 rfl (fun hc2 => ?_) (fun hc2 => ?_)
  ·replace hc2 := nT hc2
   iterate 3 refine Y_skip ?_
   refine Y_pick ?_
   refine XD_end ?_
   refine K_then ?_
   refine Y_pk [18, 7, 6, 3, 1, 2] ?_
   refine C_true rfl ?_
   refine C_seq ?_
   refine C_region (l := [0, 1]) rfl ?_
   iterate 2 refine Y_assign ?_
   refine XD_end ?_
   refine K_then ?_
   refine Y_pk [7, 6, 3, 1, 2] ?_
   refine C_ret ?_
   refine K_ret ?_
   refine K_end (.inr rfl) (.tmp rfl (.tmp rfl .nil)) (fun w hw => ?_)
   exact ⟨_, M, rfl, Mem.le.refl M, hw.c, ⟨none, 0, []⟩, congrArg (fun z => Value.tuple #[.slice none 0 0, .int .i64 z]) (by grind [askE]), (by grind [askL]), SlM.nil _ _ _, fun y hy => (by cases hy)⟩
  ·replace hc2 := nF hc2
   refine Y_move ?_
   refine X_fs rfl rfl F.ok54 rfl (rCirc_ok _ ⟨_, _, _⟩ (by assumption) (by assumption)) rfl ?_
   rintro _ rfl
   refine Y_not ?_
   refine Y_pick ?_
   refine XD_end ?_
   refine K_then ?_
   refine Y_pk [18, 7, 6, 3, 1, 2] ?_
   refine C_cond rfl (fun hc3 => ?_) (fun hc3 => ?_)
   ·replace hc3 := nT hc3
    simp only [OpV.eta, ClientV.eta, AnswerV.eta, OutcomeV.eta, MarkV.eta, CellV.eta, ParcelV.eta, PostV.eta, PeerV.eta, StepL06V.eta] at hc3
    refine C_seq ?_
    refine C_region (l := [0, 1]) rfl ?_
    iterate 2 refine Y_assign ?_
    refine XD_end ?_
    refine K_then ?_
    refine Y_pk [7, 6, 3, 1, 2] ?_
    refine C_ret ?_
    refine K_ret ?_
    refine K_end (.inr rfl) (.tmp rfl (.tmp rfl .nil)) (fun w hw => ?_)
    exact ⟨_, M, rfl, Mem.le.refl M, hw.c, ⟨none, 0, []⟩, congrArg (fun z => Value.tuple #[.slice none 0 0, .int .i64 z]) (by grind [askE]), (by grind [askL]), SlM.nil _ _ _, fun y hy => (by cases hy)⟩
   ·replace hc3 := nF hc3
    simp only [OpV.eta, ClientV.eta, AnswerV.eta, OutcomeV.eta, MarkV.eta, CellV.eta, ParcelV.eta, PostV.eta, PeerV.eta, StepL06V.eta] at hc3
    contradiction

theorem rAsk_ok (M : Mem) (c : ClientV) (l : (Sl PeerV)) (epoch : Int) (hl0 : SlM M (l).a ((l).l.map PeerV.segs) 21) (hl1 : (l).l.length ≤ maxLen) : Esp.Fn Tryd.prog 23 [c.enc, Sl.val l, .int .u64 epoch] M (fun M' v => ∃ s : Sl PostV, v = .tuple #[s.val, .int .i64 (askE c l.l)] ∧ s.l = askL c l.l epoch ∧ SlM M' s.a (s.l.map PostV.segs) 37 ∧ ∀ y ∈ s.l, PostV.ok M' y) := by
  by_cases hcr : IsCircle l.l
  ·exact rAsk_in M c l epoch hl0 hl1 hcr
  ·exact rAsk_out M c l epoch hl0 hl1 hcr

end Go.Proofs.YtelpkhhfjfbkcaaDoor
