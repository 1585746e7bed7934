/-
  Cells: what one is.
-/
import Derived.Test.YtelpkhhfjfbkcaaDoorC1
set_option linter.unusedSimpArgs false
set_option linter.unusedVariables false
set_option linter.unnecessarySimpa false
set_option maxRecDepth 8000
namespace Go.Proofs.YtelpkhhfjfbkcaaDoor
open Go.Esp
theorem F.bld40 : Bld Tryd.prog 40 [[.one (.int .u64 0)], [.one (.bool false)], [.one (.string ⟨#[]⟩)], [.one (.slice none 0 0)]] := ⟨by kernel_rfl, by kernel_rfl⟩
theorem F.elem38 : slOf Tryd.prog 38 = some (123, 6, 56) := by kernel_rfl
theorem F.foff123_0 : foff Tryd.prog 123 0 = some 0 := by kernel_rfl
theorem F.foff123_2 : foff Tryd.prog 123 2 = some 2 := by kernel_rfl
theorem F.foff37_0 : foff Tryd.prog 37 0 = some 0 := by kernel_rfl
theorem F.foff37_2 : foff Tryd.prog 37 2 = some 2 := by kernel_rfl
theorem F.foff37_3 : foff Tryd.prog 37 3 = some 3 := by kernel_rfl
theorem F.foff40_0 : foff Tryd.prog 40 0 = some 0 := by kernel_rfl
theorem F.foff40_1 : foff Tryd.prog 40 1 = some 1 := by kernel_rfl
theorem F.foff40_2 : foff Tryd.prog 40 2 = some 2 := by kernel_rfl
theorem F.foff40_3 : foff Tryd.prog 40 3 = some 3 := by kernel_rfl
theorem F.guard123 : Tryd.prog.eqGuardType Tryd.prog.depth 123 = false := by kernel_rfl
theorem F.kinds123 : kindsOf Tryd.prog 20 123 = some [.i .i64, .i .u64, .i .i64, .i .u64, .b, .s] := by kernel_rfl
theorem F.lay123 : lay Tryd.prog 123 = some (true, 6) := by kernel_rfl
theorem F.lay29 : lay Tryd.prog 29 = some (false, 1) := by kernel_rfl
theorem F.lay37 : lay Tryd.prog 37 = some (true, 4) := by kernel_rfl
theorem F.lay38 : lay Tryd.prog 38 = some (false, 1) := by kernel_rfl
theorem F.lay40 : lay Tryd.prog 40 = some (true, 4) := by kernel_rfl
theorem F.ok74 : okFn Tryd.prog 74 = true := by kernel_rfl
theorem F.ok81 : okFn Tryd.prog 81 = true := by kernel_rfl
theorem F.ok86 : okFn Tryd.prog 86 = true := by kernel_rfl
theorem F.ok87 : okFn Tryd.prog 87 = true := by kernel_rfl
theorem F.zero123 : zeroOf Tryd.prog 123 = some (aggV [.one (.int .i64 0), .one (.int .u64 0), .one (.int .i64 0), .one (.int .u64 0), .one (.bool false), .one (.string ⟨#[]⟩)]) := by kernel_rfl
theorem F.zero37 : zeroOf Tryd.prog 37 = some (aggV [.one (.int .i64 0), .one (.int .u64 0), .one (.bool false), .one (.string ⟨#[]⟩)]) := by kernel_rfl

theorem cval_ok (M : Mem) (s : ByteArray) (h : Bool) : Fs Tryd.prog 81 [.string s, .bool h] M (fun v => v = Value.bool (decide (OkVal s h))) := by
  refine fs_enter Tryd.func81 rfl Tryd.ntmps81 rfl ?_; intro H
  refine C_seq ?_
  refine C_region (l := [0]) rfl ?_
  refine Y_assign ?_
  refine XD_end ?_
  refine K_then ?_
  refine C_seq ?_
  refine C_region (l := [0, 1, 2, 3, 4, 5, 6, 7, 8, 9, 10]) rfl ?_
  refine Y_move ?_
  refine Y_len_str Tryd.underlying9 ?_
  refine Y_cmp ?_
  refine Y_move ?_
  refine XD_part 8 rfl (fun hc1 => ?_) (fun hc1 => ?_)
  ·replace hc1 := dT hc1
   iterate 2 refine Y_move ?_
   refine XD_part 10 rfl (fun hc2 => ?_) (fun hc2 => ?_)
   ·skip
    iterate 2 refine Y_skip ?_
    iterate 2 refine Y_pick ?_
    refine Y_assign ?_
    refine XD_end ?_
    refine K_then ?_
    refine Y_pk [4] ?_
    refine C_ret ?_
    refine K_end (.inr rfl) (.tmp rfl .nil) (fun w hw => ?_)
    refine ⟨_, rfl, (hw.c), ?_⟩
    clear hw
    refine congrArg Value.bool (a₁ := _) ?_
    grind [w64, OkVal]
   ·skip
    refine Y_move ?_
    refine Y_str ?_
    iterate 2 refine Y_pick ?_
    refine Y_assign ?_
    refine XD_end ?_
    refine K_then ?_
    refine Y_pk [4] ?_
    refine C_ret ?_
    refine K_end (.inr rfl) (.tmp rfl .nil) (fun w hw => ?_)
    refine ⟨_, rfl, (hw.c), ?_⟩
    clear hw
    refine congrArg Value.bool (a₁ := _) ?_
    grind [w64, OkVal]
  ·replace hc1 := dF hc1
   iterate 5 refine Y_skip ?_
   refine Y_pick ?_
   refine Y_assign ?_
   refine XD_end ?_
   refine K_then ?_
   refine Y_pk [4] ?_
   refine C_ret ?_
   refine K_end (.inr rfl) (.tmp rfl .nil) (fun w hw => ?_)
   refine ⟨_, rfl, (hw.c), ?_⟩
   clear hw
   refine congrArg Value.bool (a₁ := _) ?_
   grind [w64, OkVal]

theorem rval_ok (M : Mem) (s : ByteArray) (h : Bool) : Fs Tryd.prog 86 [.string s, .bool h] M (fun v => v = Value.bool (decide (OkVal s h))) := by
  refine fs_enter Tryd.func86 rfl Tryd.ntmps86 rfl ?_; intro H
  refine C_seq ?_
  refine C_region (l := [0]) rfl ?_
  refine Y_assign ?_
  refine XD_end ?_
  refine K_then ?_
  refine C_seq ?_
  refine C_region (l := [0, 1, 2, 3, 4, 5, 6, 7, 8, 9, 10]) rfl ?_
  refine Y_move ?_
  refine Y_len_str Tryd.underlying9 ?_
  refine Y_cmp ?_
  refine Y_move ?_
  refine XD_part 8 rfl (fun hc1 => ?_) (fun hc1 => ?_)
  ·replace hc1 := dT hc1
   iterate 2 refine Y_move ?_
   refine XD_part 10 rfl (fun hc2 => ?_) (fun hc2 => ?_)
   ·skip
    iterate 2 refine Y_skip ?_
    iterate 2 refine Y_pick ?_
    refine Y_assign ?_
    refine XD_end ?_
    refine K_then ?_
    refine Y_pk [4] ?_
    refine C_ret ?_
    refine K_end (.inr rfl) (.tmp rfl .nil) (fun w hw => ?_)
    refine ⟨_, rfl, (hw.c), ?_⟩
    clear hw
    refine congrArg Value.bool (a₁ := _) ?_
    grind [w64, OkVal]
   ·skip
    refine Y_move ?_
    refine Y_str ?_
    iterate 2 refine Y_pick ?_
    refine Y_assign ?_
    refine XD_end ?_
    refine K_then ?_
    refine Y_pk [4] ?_
    refine C_ret ?_
    refine K_end (.inr rfl) (.tmp rfl .nil) (fun w hw => ?_)
    refine ⟨_, rfl, (hw.c), ?_⟩
    clear hw
    refine congrArg Value.bool (a₁ := _) ?_
    grind [w64, OkVal]
  ·replace hc1 := dF hc1
   iterate 5 refine Y_skip ?_
   refine Y_pick ?_
   refine Y_assign ?_
   refine XD_end ?_
   refine K_then ?_
   refine Y_pk [4] ?_
   refine C_ret ?_
   refine K_end (.inr rfl) (.tmp rfl .nil) (fun w hw => ?_)
   refine ⟨_, rfl, (hw.c), ?_⟩
   clear hw
   refine congrArg Value.bool (a₁ := _) ?_
   grind [w64, OkVal]

theorem rAns_ok (M : Mem) (a : AnswerV) : Fs Tryd.prog 87 [a.enc] M (fun v => v = Value.bool (decide (OkMark a))) := by
  obtain ⟨a_code, a_version, a_has, a_val⟩ := a
  refine fs_enter Tryd.func87 rfl Tryd.ntmps87 rfl ?_; intro H
  refine C_seq ?_
  refine C_region (l := [0, 1]) rfl ?_
  refine Y_box ?_; intro b1
  refine Y_assign ?_
  refine XD_end ?_
  refine K_then ?_
  refine Y_pk [2, 1] ?_
  refine C_seq ?_
  refine C_region (l := [0, 1, 2, 3, 4, 5, 6, 7, 8, 9, 10, 11, 12, 13]) rfl ?_
  refine Y_fieldAddr F.foff37_3 ?_
  refine Y_load F.lay9 ?_
  refine Y_str ?_
  refine Y_move ?_
  refine XD_part 6 rfl (fun hc2 => ?_) (fun hc2 => ?_)
  ·replace hc2 := dT hc2
   refine Y_fieldAddr F.foff37_0 ?_
   refine Y_load F.lay29 ?_
   refine Y_cmp ?_
   refine Y_move ?_
   refine XD_part 10 rfl (fun hc3 => ?_) (fun hc3 => ?_)
   ·replace hc3 := dT hc3
    iterate 3 refine Y_skip ?_
    iterate 2 refine Y_pick ?_
    refine Y_assign ?_
    refine XD_end ?_
    refine K_then ?_
    refine Y_pk [2] ?_
    refine C_ret ?_
    refine K_end (.inr rfl) (.tmp rfl .nil) (fun w hw => ?_)
    refine ⟨_, rfl, (hw.c), ?_⟩
    clear hw
    refine congrArg Value.bool (a₁ := _) ?_
    grind [w64, OkMark]
   ·replace hc3 := dF hc3
    refine Y_fieldAddr F.foff37_0 ?_
    refine Y_load F.lay29 ?_
    refine Y_cmp ?_
    iterate 2 refine Y_pick ?_
    refine Y_assign ?_
    refine XD_end ?_
    refine K_then ?_
    refine Y_pk [2] ?_
    refine C_ret ?_
    refine K_end (.inr rfl) (.tmp rfl .nil) (fun w hw => ?_)
    refine ⟨_, rfl, (hw.c), ?_⟩
    clear hw
    refine congrArg Value.bool (a₁ := _) ?_
    grind [w64, OkMark]
  ·replace hc2 := dF hc2
   iterate 8 refine Y_skip ?_
   refine Y_pick ?_
   refine Y_assign ?_
   refine XD_end ?_
   refine K_then ?_
   refine Y_pk [2] ?_
   refine C_ret ?_
   refine K_end (.inr rfl) (.tmp rfl .nil) (fun w hw => ?_)
   refine ⟨_, rfl, (hw.c), ?_⟩
   clear hw
   refine congrArg Value.bool (a₁ := _) ?_
   grind [w64, OkMark]

theorem cIs_ok (M : Mem) (c : CellV) (hc0 : CellV.ok M c) : Fs Tryd.prog 62 [c.enc] M (fun v => v = Value.bool (decide (IsCell c))) := by
  obtain ⟨c_version, c_has, c_val, ⟨c_marks_a, c_marks_c, c_marks_l⟩⟩ := c
  have s_c_marks : SlM M c_marks_a (c_marks_l.map MarkV.segs) 6 := hc0.h0
  have n_c_marks : (c_marks_l.map MarkV.segs).length = c_marks_l.length := List.length_map ..
  have m_c_marks : c_marks_l.length ≤ 9223372036854775807 := hc0.h1
  refine fs_enter Tryd.func62 rfl Tryd.ntmps62 rfl ?_; intro H
  refine C_seq ?_
  refine C_region (l := [0, 1]) rfl ?_
  refine Y_box ?_; intro b1
  refine Y_assign ?_
  refine XD_end ?_
  refine K_then ?_
  refine Y_pk [2, 1] ?_
  refine C_seq ?_
  refine C_region (l := [0]) rfl ?_
  refine Y_assign ?_
  refine XD_end ?_
  refine K_then ?_
  iterate 2 refine C_seq ?_
  refine C_region (l := [0, 1, 2, 3]) rfl ?_
  refine Y_fieldAddr F.foff40_3 ?_
  refine Y_load F.lay38 ?_
  refine Y_len_sl F.elem38 ?_
  refine Y_move ?_
  refine XD_end ?_
  refine K_then ?_
  refine Y_pk [10, 9, 8, 3, 2, 1] ?_
  refine C_block ?_
  refine Y_pk [10, 3, 9, 8, 2, 1] ?_
  refine C_loopS (.succ (.succ .zero)) (fun (k : Nat) z => ∃ (last : Int), z = [(10, .int .i64 (k : Int)), (3, .int .i64 last)] ∧ k ≤ c_marks_l.length ∧ (IsMarks (-1) c_marks_l ↔ IsMarks last (c_marks_l.drop k))) (fun k => c_marks_l.length - k) (0) (⟨-1, rfl, by omega, by simp⟩) ?_
  rintro k _ ⟨last, rfl, hk, hI⟩
  refine C_seq ?_
  refine C_region (l := [0]) rfl ?_
  refine Y_cmp ?_
  refine XD_end ?_
  refine K_then ?_
  refine C_seq ?_
  refine C_cond rfl (fun hc2 => ?_) (fun hc2 => ?_)
  ·replace hc2 := dT hc2
   refine C_skip ?_
   refine K_then ?_
   refine C_seq ?_
   refine C_block ?_
   refine C_seq ?_
   refine C_region (l := [0, 1, 2, 3]) rfl ?_
   refine X_indexAddr rfl rfl rfl rfl F.elem38 (by rfl) (by omega) (by exact SlM.plain (by assumption) (by (simp; omega))) rfl ?_
   refine X_load_el rfl rfl rfl (by assumption) (by exact row_map (by omega)) F.lay123 rfl rfl rfl ?_
   refine Y_alloc F.zero123 ?_; intro b3
   refine Y_store F.lay123 ?_
   refine XD_end ?_
   refine K_then ?_
   refine C_seq ?_
   refine C_region (l := [0, 1, 2, 3]) rfl ?_
   refine Y_fieldAddr F.foff123_2 ?_
   refine Y_load F.lay37 ?_
   refine Y_alloc F.zero37 ?_; intro b4
   refine Y_store F.lay37 ?_
   refine XD_end ?_
   refine K_then ?_
   iterate 2 refine C_seq ?_
   refine C_region (l := [0, 1, 2, 3, 4, 5, 6, 7, 8, 9, 10, 11, 12, 13, 14, 15, 16, 17, 18, 19, 20, 21, 22, 23]) rfl ?_
   refine Y_fieldAddr F.foff123_0 ?_
   refine Y_load F.lay3 ?_
   refine Y_move ?_
   refine Y_cmp ?_
   refine Y_move ?_
   refine XD_part 20 rfl (fun hc5 => ?_) (fun hc5 => ?_)
   ·replace hc5 := dT hc5
    iterate 3 refine Y_skip ?_
    refine Y_pick ?_
    refine Y_move ?_
    iterate 3 refine Y_skip ?_
    refine Y_pick ?_
    refine Y_move ?_
    iterate 8 refine Y_skip ?_
    refine Y_pick ?_
    refine XD_end ?_
    refine K_then ?_
    refine C_true rfl ?_
    refine C_seq ?_
    refine C_region (l := [0]) rfl ?_
    refine Y_assign ?_
    refine XD_end ?_
    refine K_then ?_
    refine C_ret ?_
    refine K_ret ?_
    refine K_retB ?_
    iterate 2 refine K_ret ?_
    refine K_retB ?_
    refine K_ret ?_
    refine K_end (.inr rfl) (.tmp rfl .nil) (fun w hw => ?_)
    refine ⟨_, rfl, (hw.c), ?_⟩
    clear hw
    refine congrArg Value.bool ?_
    ((try simp only [OpV.eta, ClientV.eta, AnswerV.eta, OutcomeV.eta, MarkV.eta, CellV.eta, ParcelV.eta, PostV.eta, PeerV.eta, StepL06V.eta] at *); have hd := List.drop_eq_getElem_cons (l := c_marks_l) (i := k) (by omega); grind [IsCell, IsMarks, List.drop_length])
   ·replace hc5 := dF hc5
    refine Y_fieldAddr F.foff123_0 ?_
    refine Y_load F.lay3 ?_
    refine Y_cmp ?_
    refine Y_pick ?_
    refine Y_move ?_
    refine XD_part 25 rfl (fun hc6 => ?_) (fun hc6 => ?_)
    ·replace hc6 := dT hc6
     iterate 3 refine Y_skip ?_
     refine Y_pick ?_
     refine Y_move ?_
     iterate 8 refine Y_skip ?_
     refine Y_pick ?_
     refine XD_end ?_
     refine K_then ?_
     refine C_true rfl ?_
     refine C_seq ?_
     refine C_region (l := [0]) rfl ?_
     refine Y_assign ?_
     refine XD_end ?_
     refine K_then ?_
     refine C_ret ?_
     refine K_ret ?_
     refine K_retB ?_
     iterate 2 refine K_ret ?_
     refine K_retB ?_
     refine K_ret ?_
     refine K_end (.inr rfl) (.tmp rfl .nil) (fun w hw => ?_)
     refine ⟨_, rfl, (hw.c), ?_⟩
     clear hw
     refine congrArg Value.bool ?_
     ((try simp only [OpV.eta, ClientV.eta, AnswerV.eta, OutcomeV.eta, MarkV.eta, CellV.eta, ParcelV.eta, PostV.eta, PeerV.eta, StepL06V.eta] at *); have hd := List.drop_eq_getElem_cons (l := c_marks_l) (i := k) (by omega); grind [IsCell, IsMarks, List.drop_length])
    ·replace hc6 := dF hc6
     refine Y_fieldAddr F.foff37_3 ?_
     refine Y_load F.lay9 ?_
     refine Y_str ?_
     refine Y_pick ?_
     refine Y_move ?_
     refine XD_part 30 rfl (fun hc7 => ?_) (fun hc7 => ?_)
     ·replace hc7 := nT hc7
      iterate 8 refine Y_skip ?_
      refine Y_pick ?_
      refine XD_end ?_
      refine K_then ?_
      refine C_true rfl ?_
      refine C_seq ?_
      refine C_region (l := [0]) rfl ?_
      refine Y_assign ?_
      refine XD_end ?_
      refine K_then ?_
      refine C_ret ?_
      refine K_ret ?_
      refine K_retB ?_
      iterate 2 refine K_ret ?_
      refine K_retB ?_
      refine K_ret ?_
      refine K_end (.inr rfl) (.tmp rfl .nil) (fun w hw => ?_)
      refine ⟨_, rfl, (hw.c), ?_⟩
      clear hw
      refine congrArg Value.bool ?_
      ((try simp only [OpV.eta, ClientV.eta, AnswerV.eta, OutcomeV.eta, MarkV.eta, CellV.eta, ParcelV.eta, PostV.eta, PeerV.eta, StepL06V.eta] at *); have hd := List.drop_eq_getElem_cons (l := c_marks_l) (i := k) (by omega); grind [IsCell, IsMarks, List.drop_length])
     ·replace hc7 := nF hc7
      refine Y_fieldAddr F.foff37_0 ?_
      refine Y_load F.lay29 ?_
      refine Y_cmp ?_
      refine Y_move ?_
      refine XD_part 34 rfl (fun hc8 => ?_) (fun hc8 => ?_)
      ·replace hc8 := nT hc8
       refine Y_fieldAddr F.foff37_0 ?_
       refine Y_load F.lay29 ?_
       refine Y_cmp ?_
       iterate 2 refine Y_pick ?_
       refine XD_end ?_
       refine K_then ?_
       refine C_cond rfl (fun hc9 => ?_) (fun hc9 => ?_)
       ·replace hc9 := nT hc9
        refine C_seq ?_
        refine C_region (l := [0]) rfl ?_
        refine Y_assign ?_
        refine XD_end ?_
        refine K_then ?_
        refine C_ret ?_
        refine K_ret ?_
        refine K_retB ?_
        iterate 2 refine K_ret ?_
        refine K_retB ?_
        refine K_ret ?_
        refine K_end (.inr rfl) (.tmp rfl .nil) (fun w hw => ?_)
        refine ⟨_, rfl, (hw.c), ?_⟩
        clear hw
        refine congrArg Value.bool ?_
        ((try simp only [OpV.eta, ClientV.eta, AnswerV.eta, OutcomeV.eta, MarkV.eta, CellV.eta, ParcelV.eta, PostV.eta, PeerV.eta, StepL06V.eta] at *); have hd := List.drop_eq_getElem_cons (l := c_marks_l) (i := k) (by omega); grind [IsCell, IsMarks, List.drop_length])
       ·replace hc9 := nF hc9
        refine C_skip ?_
        refine K_then ?_
        refine C_region (l := [0, 1, 2]) rfl ?_
        refine Y_fieldAddr F.foff123_0 ?_
        refine Y_load F.lay3 ?_
        refine Y_assign ?_
        refine XD_end ?_
        refine K_out ?_
        refine K_then ?_
        refine C_region (l := [0, 1]) rfl ?_
        refine X_ari rfl rfl rfl rfl rfl (by exact wrap_in (by decide) (by omega)) rfl ?_
        refine Y_move ?_
        refine XD_end ?_
        refine K_roundS (a' := [(10, _), (3, _)]) (k + 1) (.cons (k := 10) rfl (.cons (k := 3) rfl (.cons (k := 9) rfl (.cons (k := 8) rfl (.cons (k := 2) rfl (.cons (k := 1) rfl (.nil))))))) (fun w hw => by first | exact hw | exact hw.c) ?_ ?_
        ·refine ⟨_, rfl, by omega, ?_⟩
         have hd := List.drop_eq_getElem_cons (l := c_marks_l) (i := k) (by omega)
         grind [IsMarks]
        ·omega
      ·replace hc8 := nF hc8
       iterate 3 refine Y_skip ?_
       iterate 2 refine Y_pick ?_
       refine XD_end ?_
       refine K_then ?_
       refine C_false rfl ?_
       refine C_skip ?_
       refine K_then ?_
       refine C_region (l := [0, 1, 2]) rfl ?_
       refine Y_fieldAddr F.foff123_0 ?_
       refine Y_load F.lay3 ?_
       refine Y_assign ?_
       refine XD_end ?_
       refine K_out ?_
       refine K_then ?_
       refine C_region (l := [0, 1]) rfl ?_
       refine X_ari rfl rfl rfl rfl rfl (by exact wrap_in (by decide) (by omega)) rfl ?_
       refine Y_move ?_
       refine XD_end ?_
       refine K_roundS (a' := [(10, _), (3, _)]) (k + 1) (.cons (k := 10) rfl (.cons (k := 3) rfl (.cons (k := 9) rfl (.cons (k := 8) rfl (.cons (k := 2) rfl (.cons (k := 1) rfl (.nil))))))) (fun w hw => by first | exact hw | exact hw.c) ?_ ?_
       ·refine ⟨_, rfl, by omega, ?_⟩
        have hd := List.drop_eq_getElem_cons (l := c_marks_l) (i := k) (by omega)
        grind [IsMarks]
       ·omega
  ·replace hc2 := dF hc2
   refine C_exit ?_
   iterate 2 refine K_exit ?_
   refine K_hit ?_
   refine K_then ?_
   refine Y_pk [2, 1] ?_
   refine C_seq ?_
   refine C_region (l := [0, 1, 2, 3, 4, 5]) rfl ?_
   refine Y_fieldAddr F.foff40_2 ?_
   refine Y_load F.lay9 ?_
   refine Y_fieldAddr F.foff40_1 ?_
   refine Y_load F.lay4 ?_
   refine X_fs rfl rfl F.ok81 rfl (cval_ok _ _ _) rfl ?_
   rintro _ rfl
   refine Y_assign ?_
   refine XD_end ?_
   refine K_then ?_
   refine Y_pk [2] ?_
   refine C_ret ?_
   refine K_end (.inr rfl) (.tmp rfl .nil) (fun w hw => ?_)
   refine ⟨_, rfl, (hw.c), ?_⟩
   clear hw
   refine congrArg Value.bool ?_
   (have hk9 : k = c_marks_l.length := (by omega); subst hk9; (try simp only [OpV.eta, ClientV.eta, AnswerV.eta, OutcomeV.eta, MarkV.eta, CellV.eta, ParcelV.eta, PostV.eta, PeerV.eta, StepL06V.eta] at *); grind [IsCell, IsMarks, List.drop_length])

theorem rCell_ok (M : Mem) (c : CellV) (hc0 : CellV.ok M c) : Fs Tryd.prog 73 [c.enc] M (fun v => v = Value.bool (decide (IsCell c))) := by
  obtain ⟨c_version, c_has, c_val, ⟨c_marks_a, c_marks_c, c_marks_l⟩⟩ := c
  have s_c_marks : SlM M c_marks_a (c_marks_l.map MarkV.segs) 6 := hc0.h0
  have n_c_marks : (c_marks_l.map MarkV.segs).length = c_marks_l.length := List.length_map ..
  have m_c_marks : c_marks_l.length ≤ 9223372036854775807 := hc0.h1
  refine fs_enter Tryd.func73 rfl Tryd.ntmps73 rfl ?_; intro H
  refine C_seq ?_
  refine C_region (l := [0, 1]) rfl ?_
  refine Y_box ?_; intro b1
  refine Y_assign ?_
  refine XD_end ?_
  refine K_then ?_
  refine Y_pk [2, 1] ?_
  iterate 2 refine C_seq ?_
  refine C_region (l := [0, 1, 2, 3, 4, 5]) rfl ?_
  refine Y_fieldAddr F.foff40_2 ?_
  refine Y_load F.lay9 ?_
  refine Y_fieldAddr F.foff40_1 ?_
  refine Y_load F.lay4 ?_
  refine X_fs rfl rfl F.ok86 rfl (rval_ok _ _ _) rfl ?_
  rintro _ rfl
  refine Y_not ?_
  refine XD_end ?_
  refine K_then ?_
  refine Y_pk [10, 2, 1] ?_
  refine C_cond rfl (fun hc2 => ?_) (fun hc2 => ?_)
  ·replace hc2 := nT hc2
   refine C_seq ?_
   refine C_region (l := [0]) rfl ?_
   refine Y_assign ?_
   refine XD_end ?_
   refine K_then ?_
   refine Y_pk [2, 1] ?_
   refine C_ret ?_
   refine K_ret ?_
   refine K_end (.inr rfl) (.tmp rfl .nil) (fun w hw => ?_)
   refine ⟨_, rfl, (hw.c), ?_⟩
   clear hw
   refine congrArg Value.bool ?_
   ((try simp only [OpV.eta, ClientV.eta, AnswerV.eta, OutcomeV.eta, MarkV.eta, CellV.eta, ParcelV.eta, PostV.eta, PeerV.eta, StepL06V.eta] at *); grind [IsCell, SameCell, OkVal])
  ·replace hc2 := nF hc2
   refine C_skip ?_
   refine K_then ?_
   refine Y_pk [2, 1] ?_
   iterate 2 refine C_seq ?_
   refine C_region (l := [0]) rfl ?_
   refine Y_assign ?_
   refine XD_end ?_
   refine K_then ?_
   refine C_block ?_
   refine Y_pk [3, 2, 1] ?_
   refine C_loopS (.succ .zero) (fun (k : Nat) z => z = [(3, .int .i64 (k : Int))] ∧ k ≤ c_marks_l.length ∧ (OkVal c_val c_has ∧ IsMarks (-1) (c_marks_l.take k))) (fun k => c_marks_l.length - k) (0) (⟨rfl, by omega, by simp_all [IsMarks]⟩) ?_
   rintro k _ ⟨rfl, hk, hI⟩
   iterate 2 refine C_seq ?_
   refine C_region (l := [0, 1, 2, 3, 4]) rfl ?_
   refine Y_move ?_
   refine Y_fieldAddr F.foff40_3 ?_
   refine Y_load F.lay38 ?_
   refine Y_len_sl F.elem38 ?_
   refine Y_cmp ?_
   refine XD_end ?_
   refine K_then ?_
   refine C_cond rfl (fun hc3 => ?_) (fun hc3 => ?_)
   ·replace hc3 := dT hc3
    refine C_skip ?_
    refine K_then ?_
    refine C_seq ?_
    refine C_block ?_
    refine C_seq ?_
    refine C_region (l := [0, 1, 2, 3, 4, 5, 6]) rfl ?_
    refine Y_fieldAddr F.foff40_3 ?_
    refine Y_load F.lay38 ?_
    refine Y_move ?_
    refine X_indexAddr rfl rfl rfl rfl F.elem38 (by rfl) (by omega) (by exact SlM.plain (by assumption) (by (simp; omega))) rfl ?_
    refine X_load_el rfl rfl rfl (by assumption) (by exact row_map (by omega)) F.lay123 rfl rfl rfl ?_
    refine Y_alloc F.zero123 ?_; intro b4
    refine Y_store F.lay123 ?_
    refine XD_end ?_
    refine K_then ?_
    refine C_seq ?_
    refine C_region_any (l := [0, 1, 2, 3, 4, 5, 6, 7, 8, 9, 10, 11, 12, 13, 14, 15, 16, 17, 18, 19, 20, 21, 22, 23, 24, 25, 26, 27, 28, 29]) #[0, 1, 3, 7, 15, 31, 63, 127, 255, 511, 1023, 2047, 4095, 8191, 4095, 20479, 65535, 131071, 262143, 4095, 528383, 2097151, 4194303, 8388607, 16777215, 33554431, 67108863, 134217727, 268435455, 536870911] _ rfl (by kernel_rfl) (by kernel_rfl) St.drawn (fun _ h => h) ?_
    refine Y_fieldAddr F.foff123_0 ?_
    refine Y_load F.lay3 ?_
    refine Y_cmp ?_
    refine Y_move ?_
    refine XD_part 26 rfl (fun hc5 => ?_) (fun hc5 => ?_)
    ·replace hc5 := dT hc5
     iterate 3 refine Y_skip ?_
     refine Y_pick ?_
     refine Y_move ?_
     iterate 14 refine Y_skip ?_
     refine Y_pick ?_
     refine Y_move ?_
     iterate 4 refine Y_skip ?_
     refine Y_pick ?_
     refine XD_end ?_
     refine K_then ?_
     refine C_true rfl ?_
     refine C_seq ?_
     refine C_region (l := [0]) rfl ?_
     refine Y_assign ?_
     refine XD_end ?_
     refine K_then ?_
     refine C_ret ?_
     refine K_retB ?_
     iterate 2 refine K_ret ?_
     refine K_retB ?_
     refine K_ret ?_
     refine K_end (.inr rfl) (.tmp rfl .nil) (fun w hw => ?_)
     refine ⟨_, rfl, (hw.c), ?_⟩
     clear hw
     refine congrArg Value.bool ?_
     ((try simp only [OpV.eta, ClientV.eta, AnswerV.eta, OutcomeV.eta, MarkV.eta, CellV.eta, ParcelV.eta, PostV.eta, PeerV.eta, StepL06V.eta] at *); have hd := isMarks_take (l := c_marks_l) (k := k) (by omega) (last := -1); have hq := isMarks_prev (l := c_marks_l) (k := k) (by omega) (by grind); have hp := isMarks_pre (l := c_marks_l) (last := -1) (k := k + 1); grind [IsCell])
    ·replace hc5 := dF hc5
     refine Y_fieldAddr F.foff123_0 ?_
     refine Y_load F.lay3 ?_
     refine Y_cmp ?_
     refine Y_pick ?_
     refine Y_move ?_
     refine XD_part 31 rfl (fun hc6 => ?_) (fun hc6 => ?_)
     ·replace hc6 := dT hc6
      iterate 14 refine Y_skip ?_
      refine Y_pick ?_
      refine Y_move ?_
      iterate 4 refine Y_skip ?_
      refine Y_pick ?_
      refine XD_end ?_
      refine K_then ?_
      refine C_true rfl ?_
      refine C_seq ?_
      refine C_region (l := [0]) rfl ?_
      refine Y_assign ?_
      refine XD_end ?_
      refine K_then ?_
      refine C_ret ?_
      refine K_retB ?_
      iterate 2 refine K_ret ?_
      refine K_retB ?_
      refine K_ret ?_
      refine K_end (.inr rfl) (.tmp rfl .nil) (fun w hw => ?_)
      refine ⟨_, rfl, (hw.c), ?_⟩
      clear hw
      refine congrArg Value.bool ?_
      ((try simp only [OpV.eta, ClientV.eta, AnswerV.eta, OutcomeV.eta, MarkV.eta, CellV.eta, ParcelV.eta, PostV.eta, PeerV.eta, StepL06V.eta] at *); have hd := isMarks_take (l := c_marks_l) (k := k) (by omega) (last := -1); have hq := isMarks_prev (l := c_marks_l) (k := k) (by omega) (by grind); have hp := isMarks_pre (l := c_marks_l) (last := -1) (k := k + 1); grind [IsCell])
     ·replace hc6 := dF hc6
      refine Y_move ?_
      refine Y_cmp ?_
      refine Y_move ?_
      refine XD_part 34 rfl (fun hc7 => ?_) (fun hc7 => ?_)
      ·replace hc7 := dT hc7
       refine Y_fieldAddr F.foff40_3 ?_
       refine Y_load F.lay38 ?_
       refine Y_move ?_
       refine X_ari rfl rfl rfl rfl rfl (by exact wrap_in (by decide) (by omega)) rfl ?_
       refine X_indexAddr rfl rfl rfl rfl F.elem38 (by exact (Int.toNat_of_nonneg (by omega)).symm) (by omega) (by exact SlM.plain (by assumption) (by (simp; omega))) rfl ?_
       refine X_fieldAddr_el rfl rfl rfl (by exact SlM.plain (by assumption) (by (simp; omega))) F.foff123_0 rfl ?_
       refine X_load_el rfl rfl rfl (by assumption) (by exact row_map (by omega)) F.lay3 rfl rfl rfl ?_
       refine Y_fieldAddr F.foff123_0 ?_
       refine Y_load F.lay3 ?_
       refine Y_cmp ?_
       iterate 2 refine Y_pick ?_
       refine Y_move ?_
       refine XD_part 47 rfl (fun hc8 => ?_) (fun hc8 => ?_)
       ·replace hc8 := dT hc8
        iterate 4 refine Y_skip ?_
        refine Y_pick ?_
        refine XD_end ?_
        refine K_then ?_
        refine C_true rfl ?_
        refine C_seq ?_
        refine C_region (l := [0]) rfl ?_
        refine Y_assign ?_
        refine XD_end ?_
        refine K_then ?_
        refine C_ret ?_
        refine K_retB ?_
        iterate 2 refine K_ret ?_
        refine K_retB ?_
        refine K_ret ?_
        refine K_end (.inr rfl) (.tmp rfl .nil) (fun w hw => ?_)
        refine ⟨_, rfl, (hw.c), ?_⟩
        clear hw
        refine congrArg Value.bool ?_
        ((try simp only [OpV.eta, ClientV.eta, AnswerV.eta, OutcomeV.eta, MarkV.eta, CellV.eta, ParcelV.eta, PostV.eta, PeerV.eta, StepL06V.eta] at *); have hd := isMarks_take (l := c_marks_l) (k := k) (by omega) (last := -1); have hq := isMarks_prev (l := c_marks_l) (k := k) (by omega) (by grind); have hp := isMarks_pre (l := c_marks_l) (last := -1) (k := k + 1); grind [IsCell])
       ·replace hc8 := dF hc8
        refine Y_fieldAddr F.foff123_2 ?_
        refine Y_load F.lay37 ?_
        refine X_fs rfl rfl F.ok87 rfl (rAns_ok _ ⟨_, _, _, _⟩) rfl ?_
        rintro _ rfl
        refine Y_not ?_
        refine Y_pick ?_
        refine XD_end ?_
        refine K_then ?_
        refine C_cond rfl (fun hc9 => ?_) (fun hc9 => ?_)
        ·replace hc9 := nT hc9
         simp only [OpV.eta, ClientV.eta, AnswerV.eta, OutcomeV.eta, MarkV.eta, CellV.eta, ParcelV.eta, PostV.eta, PeerV.eta, StepL06V.eta] at hc9
         refine C_seq ?_
         refine C_region (l := [0]) rfl ?_
         refine Y_assign ?_
         refine XD_end ?_
         refine K_then ?_
         refine C_ret ?_
         refine K_retB ?_
         iterate 2 refine K_ret ?_
         refine K_retB ?_
         refine K_ret ?_
         refine K_end (.inr rfl) (.tmp rfl .nil) (fun w hw => ?_)
         refine ⟨_, rfl, (hw.c), ?_⟩
         clear hw
         refine congrArg Value.bool ?_
         ((try simp only [OpV.eta, ClientV.eta, AnswerV.eta, OutcomeV.eta, MarkV.eta, CellV.eta, ParcelV.eta, PostV.eta, PeerV.eta, StepL06V.eta] at *); have hd := isMarks_take (l := c_marks_l) (k := k) (by omega) (last := -1); have hq := isMarks_prev (l := c_marks_l) (k := k) (by omega) (by grind); have hp := isMarks_pre (l := c_marks_l) (last := -1) (k := k + 1); grind [IsCell])
        ·replace hc9 := nF hc9
         simp only [OpV.eta, ClientV.eta, AnswerV.eta, OutcomeV.eta, MarkV.eta, CellV.eta, ParcelV.eta, PostV.eta, PeerV.eta, StepL06V.eta] at hc9
         refine C_skip ?_
         refine K_out ?_
         refine K_then ?_
         refine C_region (l := [0, 1, 2]) rfl ?_
         refine Y_move ?_
         refine X_ari rfl rfl rfl rfl rfl (by exact wrap_in (by decide) (by omega)) rfl ?_
         refine Y_assign ?_
         refine XD_end ?_
         refine K_roundS (a' := [(3, _)]) (k + 1) (.cons (k := 3) rfl (.cons (k := 2) rfl (.cons (k := 1) rfl (.nil)))) (fun w hw => by first | exact hw | exact hw.c) ?_ ?_
         ·refine ⟨rfl, by omega, ?_⟩
          have hd := isMarks_take (l := c_marks_l) (k := k) (by omega) (last := -1); have hq := isMarks_prev (l := c_marks_l) (k := k) (by omega) (by grind); grind
         ·omega
      ·replace hc7 := dF hc7
       iterate 10 refine Y_skip ?_
       iterate 2 refine Y_pick ?_
       refine Y_move ?_
       refine Y_fieldAddr F.foff123_2 ?_
       refine Y_load F.lay37 ?_
       refine X_fs rfl rfl F.ok87 rfl (rAns_ok _ ⟨_, _, _, _⟩) rfl ?_
       rintro _ rfl
       refine Y_not ?_
       refine Y_pick ?_
       refine XD_end ?_
       refine K_then ?_
       refine C_cond rfl (fun hc10 => ?_) (fun hc10 => ?_)
       ·replace hc10 := nT hc10
        simp only [OpV.eta, ClientV.eta, AnswerV.eta, OutcomeV.eta, MarkV.eta, CellV.eta, ParcelV.eta, PostV.eta, PeerV.eta, StepL06V.eta] at hc10
        refine C_seq ?_
        refine C_region (l := [0]) rfl ?_
        refine Y_assign ?_
        refine XD_end ?_
        refine K_then ?_
        refine C_ret ?_
        refine K_retB ?_
        iterate 2 refine K_ret ?_
        refine K_retB ?_
        refine K_ret ?_
        refine K_end (.inr rfl) (.tmp rfl .nil) (fun w hw => ?_)
        refine ⟨_, rfl, (hw.c), ?_⟩
        clear hw
        refine congrArg Value.bool ?_
        ((try simp only [OpV.eta, ClientV.eta, AnswerV.eta, OutcomeV.eta, MarkV.eta, CellV.eta, ParcelV.eta, PostV.eta, PeerV.eta, StepL06V.eta] at *); have hd := isMarks_take (l := c_marks_l) (k := k) (by omega) (last := -1); have hq := isMarks_prev (l := c_marks_l) (k := k) (by omega) (by grind); have hp := isMarks_pre (l := c_marks_l) (last := -1) (k := k + 1); grind [IsCell])
       ·replace hc10 := nF hc10
        simp only [OpV.eta, ClientV.eta, AnswerV.eta, OutcomeV.eta, MarkV.eta, CellV.eta, ParcelV.eta, PostV.eta, PeerV.eta, StepL06V.eta] at hc10
        refine C_skip ?_
        refine K_out ?_
        refine K_then ?_
        refine C_region (l := [0, 1, 2]) rfl ?_
        refine Y_move ?_
        refine X_ari rfl rfl rfl rfl rfl (by exact wrap_in (by decide) (by omega)) rfl ?_
        refine Y_assign ?_
        refine XD_end ?_
        refine K_roundS (a' := [(3, _)]) (k + 1) (.cons (k := 3) rfl (.cons (k := 2) rfl (.cons (k := 1) rfl (.nil)))) (fun w hw => by first | exact hw | exact hw.c) ?_ ?_
        ·refine ⟨rfl, by omega, ?_⟩
         have hd := isMarks_take (l := c_marks_l) (k := k) (by omega) (last := -1); have hq := isMarks_prev (l := c_marks_l) (k := k) (by omega) (by grind); grind
        ·omega
   ·replace hc3 := dF hc3
    refine C_exit ?_
    iterate 2 refine K_exit ?_
    refine K_hit ?_
    refine K_then ?_
    refine Y_pk [2] ?_
    refine C_seq ?_
    refine C_region (l := [0]) rfl ?_
    refine Y_assign ?_
    refine XD_end ?_
    refine K_then ?_
    refine C_ret ?_
    refine K_end (.inr rfl) (.tmp rfl .nil) (fun w hw => ?_)
    refine ⟨_, rfl, (hw.c), ?_⟩
    clear hw
    refine congrArg Value.bool ?_
    (have hk9 : k = c_marks_l.length := (by omega); subst hk9; (try simp only [OpV.eta, ClientV.eta, AnswerV.eta, OutcomeV.eta, MarkV.eta, CellV.eta, ParcelV.eta, PostV.eta, PeerV.eta, StepL06V.eta] at *); grind [IsCell, List.take_length])

theorem rSame_ok (M : Mem) (c : CellV) (d : CellV) (hc0 : CellV.ok M c) (hd1 : CellV.ok M d) : Fs Tryd.prog 74 [c.enc, d.enc] M (fun v => v = Value.bool (decide (SameCell c d))) := by
  obtain ⟨c_version, c_has, c_val, ⟨c_marks_a, c_marks_c, c_marks_l⟩⟩ := c
  obtain ⟨d_version, d_has, d_val, ⟨d_marks_a, d_marks_c, d_marks_l⟩⟩ := d
  have s_c_marks : SlM M c_marks_a (c_marks_l.map MarkV.segs) 6 := hc0.h0
  have n_c_marks : (c_marks_l.map MarkV.segs).length = c_marks_l.length := List.length_map ..
  have m_c_marks : c_marks_l.length ≤ 9223372036854775807 := hc0.h1
  have s_d_marks : SlM M d_marks_a (d_marks_l.map MarkV.segs) 6 := hd1.h0
  have n_d_marks : (d_marks_l.map MarkV.segs).length = d_marks_l.length := List.length_map ..
  have m_d_marks : d_marks_l.length ≤ 9223372036854775807 := hd1.h1
  refine fs_enter Tryd.func74 rfl Tryd.ntmps74 rfl ?_; intro H
  refine C_seq ?_
  refine C_region (l := [0, 1, 2]) rfl ?_
  refine Y_box ?_; intro b1
  refine Y_box ?_; intro b2
  refine Y_assign ?_
  refine XD_end ?_
  refine K_then ?_
  refine Y_pk [4, 3, 2] ?_
  iterate 2 refine C_seq ?_
  refine C_region (l := [0, 1, 2, 3, 4, 5, 6, 7, 8, 9, 10, 11, 12, 13, 14, 15, 16, 17, 18, 19, 20, 21, 22, 23, 24, 25, 26, 27]) rfl ?_
  refine Y_fieldAddr F.foff40_0 ?_
  refine Y_load F.lay22 ?_
  refine Y_fieldAddr F.foff40_0 ?_
  refine Y_load F.lay22 ?_
  refine Y_cmp ?_
  refine Y_move ?_
  refine XD_part 11 rfl (fun hc3 => ?_) (fun hc3 => ?_)
  ·replace hc3 := nT hc3
   iterate 5 refine Y_skip ?_
   refine Y_pick ?_
   refine Y_move ?_
   iterate 5 refine Y_skip ?_
   refine Y_pick ?_
   refine Y_move ?_
   iterate 7 refine Y_skip ?_
   refine Y_pick ?_
   refine XD_end ?_
   refine K_then ?_
   refine Y_pk [33, 4, 3, 2] ?_
   refine C_true rfl ?_
   refine C_seq ?_
   refine C_region (l := [0]) rfl ?_
   refine Y_assign ?_
   refine XD_end ?_
   refine K_then ?_
   refine Y_pk [4, 3, 2] ?_
   refine C_ret ?_
   refine K_ret ?_
   refine K_end (.inr rfl) (.tmp rfl .nil) (fun w hw => ?_)
   refine ⟨_, rfl, (hw.c), ?_⟩
   clear hw
   refine congrArg Value.bool ?_
   ((try simp only [OpV.eta, ClientV.eta, AnswerV.eta, OutcomeV.eta, MarkV.eta, CellV.eta, ParcelV.eta, PostV.eta, PeerV.eta, StepL06V.eta] at *); grind [IsCell, SameCell, OkVal])
  ·replace hc3 := nF hc3
   refine Y_fieldAddr F.foff40_1 ?_
   refine Y_load F.lay4 ?_
   refine Y_fieldAddr F.foff40_1 ?_
   refine Y_load F.lay4 ?_
   refine X_eqb rfl rfl rfl rfl rfl Tryd.underlying4 rfl ?_
   refine Y_pick ?_
   refine Y_move ?_
   refine XD_part 18 rfl (fun hc4 => ?_) (fun hc4 => ?_)
   ·replace hc4 := nT hc4
    iterate 5 refine Y_skip ?_
    refine Y_pick ?_
    refine Y_move ?_
    iterate 7 refine Y_skip ?_
    refine Y_pick ?_
    refine XD_end ?_
    refine K_then ?_
    refine Y_pk [33, 4, 3, 2] ?_
    refine C_true rfl ?_
    refine C_seq ?_
    refine C_region (l := [0]) rfl ?_
    refine Y_assign ?_
    refine XD_end ?_
    refine K_then ?_
    refine Y_pk [4, 3, 2] ?_
    refine C_ret ?_
    refine K_ret ?_
    refine K_end (.inr rfl) (.tmp rfl .nil) (fun w hw => ?_)
    refine ⟨_, rfl, (hw.c), ?_⟩
    clear hw
    refine congrArg Value.bool ?_
    ((try simp only [OpV.eta, ClientV.eta, AnswerV.eta, OutcomeV.eta, MarkV.eta, CellV.eta, ParcelV.eta, PostV.eta, PeerV.eta, StepL06V.eta] at *); grind [IsCell, SameCell, OkVal])
   ·replace hc4 := nF hc4
    refine Y_fieldAddr F.foff40_2 ?_
    refine Y_load F.lay9 ?_
    refine Y_fieldAddr F.foff40_2 ?_
    refine Y_load F.lay9 ?_
    refine Y_str ?_
    refine Y_pick ?_
    refine Y_move ?_
    refine XD_part 25 rfl (fun hc5 => ?_) (fun hc5 => ?_)
    ·replace hc5 := nT hc5
     iterate 7 refine Y_skip ?_
     refine Y_pick ?_
     refine XD_end ?_
     refine K_then ?_
     refine Y_pk [33, 4, 3, 2] ?_
     refine C_true rfl ?_
     refine C_seq ?_
     refine C_region (l := [0]) rfl ?_
     refine Y_assign ?_
     refine XD_end ?_
     refine K_then ?_
     refine Y_pk [4, 3, 2] ?_
     refine C_ret ?_
     refine K_ret ?_
     refine K_end (.inr rfl) (.tmp rfl .nil) (fun w hw => ?_)
     refine ⟨_, rfl, (hw.c), ?_⟩
     clear hw
     refine congrArg Value.bool ?_
     ((try simp only [OpV.eta, ClientV.eta, AnswerV.eta, OutcomeV.eta, MarkV.eta, CellV.eta, ParcelV.eta, PostV.eta, PeerV.eta, StepL06V.eta] at *); grind [IsCell, SameCell, OkVal])
    ·replace hc5 := nF hc5
     refine Y_fieldAddr F.foff40_3 ?_
     refine Y_load F.lay38 ?_
     refine Y_len_sl F.elem38 ?_
     refine Y_fieldAddr F.foff40_3 ?_
     refine Y_load F.lay38 ?_
     refine Y_len_sl F.elem38 ?_
     refine Y_cmp ?_
     refine Y_pick ?_
     refine XD_end ?_
     refine K_then ?_
     refine Y_pk [33, 4, 3, 2] ?_
     refine C_cond rfl (fun hc6 => ?_) (fun hc6 => ?_)
     ·replace hc6 := nT hc6
      refine C_seq ?_
      refine C_region (l := [0]) rfl ?_
      refine Y_assign ?_
      refine XD_end ?_
      refine K_then ?_
      refine Y_pk [4, 3, 2] ?_
      refine C_ret ?_
      refine K_ret ?_
      refine K_end (.inr rfl) (.tmp rfl .nil) (fun w hw => ?_)
      refine ⟨_, rfl, (hw.c), ?_⟩
      clear hw
      refine congrArg Value.bool ?_
      ((try simp only [OpV.eta, ClientV.eta, AnswerV.eta, OutcomeV.eta, MarkV.eta, CellV.eta, ParcelV.eta, PostV.eta, PeerV.eta, StepL06V.eta] at *); grind [IsCell, SameCell, OkVal])
     ·replace hc6 := nF hc6
      refine C_skip ?_
      refine K_then ?_
      refine Y_pk [4, 3, 2] ?_
      iterate 2 refine C_seq ?_
      refine C_region (l := [0]) rfl ?_
      refine Y_assign ?_
      refine XD_end ?_
      refine K_then ?_
      refine C_block ?_
      refine Y_pk [5, 4, 3, 2] ?_
      refine C_loopS (.succ .zero) (fun (k : Nat) z => z = [(5, .int .i64 (k : Int))] ∧ k ≤ c_marks_l.length ∧ (c_version = d_version ∧ c_has = d_has ∧ c_val = d_val ∧ c_marks_l.length = d_marks_l.length ∧ c_marks_l.take k = d_marks_l.take k)) (fun k => c_marks_l.length - k) (0) (⟨rfl, by omega, by grind⟩) ?_
      rintro k _ ⟨rfl, hk, hI⟩
      have hll : c_marks_l.length = d_marks_l.length := hI.2.2.2.1
      iterate 2 refine C_seq ?_
      refine C_region (l := [0, 1, 2, 3, 4]) rfl ?_
      refine Y_move ?_
      refine Y_fieldAddr F.foff40_3 ?_
      refine Y_load F.lay38 ?_
      refine Y_len_sl F.elem38 ?_
      refine Y_cmp ?_
      refine XD_end ?_
      refine K_then ?_
      refine C_cond rfl (fun hc7 => ?_) (fun hc7 => ?_)
      ·replace hc7 := dT hc7
       refine C_skip ?_
       refine K_then ?_
       refine C_seq ?_
       refine C_block ?_
       refine C_seq ?_
       refine C_region_any (l := [0, 1, 2, 3, 4, 5, 6, 7, 8, 9, 10]) #[0, 1, 0, 7, 15, 0, 32, 0, 224, 480, 1023] _ rfl (by kernel_rfl) (by kernel_rfl) St.drawn (fun _ h => h) ?_
       refine Y_fieldAddr F.foff40_3 ?_
       refine Y_load F.lay38 ?_
       refine Y_move ?_
       refine X_indexAddr rfl rfl rfl rfl F.elem38 (by rfl) (by omega) (by exact SlM.plain (by assumption) (by (simp; omega))) rfl ?_
       refine X_load_el rfl rfl rfl (by assumption) (by exact row_map (by omega)) F.lay123 rfl rfl rfl ?_
       refine Y_fieldAddr F.foff40_3 ?_
       refine Y_load F.lay38 ?_
       refine Y_move ?_
       refine X_indexAddr rfl rfl rfl rfl F.elem38 (by rfl) (by omega) (by exact SlM.plain (by assumption) (by (simp; omega))) rfl ?_
       refine X_load_el rfl rfl rfl (by assumption) (by exact row_map (by omega)) F.lay123 rfl rfl rfl ?_
       refine X_same (m := 20) rfl rfl rfl rfl rfl (by constructor) (by constructor) F.lay123 F.kinds123 rfl F.guard123 (by exact FitMarkV _) (by exact FitMarkV _) rfl rfl rfl ?_; intro c8 he9
       replace he9 : c8 = true ↔ ¬ (Segs.cells _ = Segs.cells _) := he9
       obtain rfl := neD he9 (MarkV.inj (x := ⟨_, _, ⟨_, _, _, _⟩⟩) (y := ⟨_, _, ⟨_, _, _, _⟩⟩)); clear he9
       refine XD_end ?_
       refine K_then ?_
       refine C_cond rfl (fun hc10 => ?_) (fun hc10 => ?_)
       ·replace hc10 := nT hc10
        simp only [OpV.eta, ClientV.eta, AnswerV.eta, OutcomeV.eta, MarkV.eta, CellV.eta, ParcelV.eta, PostV.eta, PeerV.eta, StepL06V.eta] at hc10
        refine C_seq ?_
        refine C_region (l := [0]) rfl ?_
        refine Y_assign ?_
        refine XD_end ?_
        refine K_then ?_
        refine C_ret ?_
        refine K_retB ?_
        iterate 2 refine K_ret ?_
        refine K_retB ?_
        refine K_ret ?_
        refine K_end (.inr rfl) (.tmp rfl .nil) (fun w hw => ?_)
        refine ⟨_, rfl, (hw.c), ?_⟩
        clear hw
        refine congrArg Value.bool ?_
        ((try simp only [OpV.eta, ClientV.eta, AnswerV.eta, OutcomeV.eta, MarkV.eta, CellV.eta, ParcelV.eta, PostV.eta, PeerV.eta, StepL06V.eta] at *); have hne := ne_at (l := c_marks_l) (m := d_marks_l) (k := k) (by omega) (by omega) (by assumption); grind [SameCell])
       ·replace hc10 := nF hc10
        simp only [OpV.eta, ClientV.eta, AnswerV.eta, OutcomeV.eta, MarkV.eta, CellV.eta, ParcelV.eta, PostV.eta, PeerV.eta, StepL06V.eta] at hc10
        refine C_skip ?_
        refine K_out ?_
        refine K_then ?_
        refine C_region (l := [0, 1, 2]) rfl ?_
        refine Y_move ?_
        refine X_ari rfl rfl rfl rfl rfl (by exact wrap_in (by decide) (by omega)) rfl ?_
        refine Y_assign ?_
        refine XD_end ?_
        refine K_roundS (a' := [(5, _)]) (k + 1) (.cons (k := 5) rfl (.cons (k := 4) rfl (.cons (k := 3) rfl (.cons (k := 2) rfl (.nil))))) (fun w hw => by first | exact hw | exact hw.c) ?_ ?_
        ·refine ⟨rfl, by omega, ?_⟩
         exact ⟨hI.1, hI.2.1, hI.2.2.1, hI.2.2.2.1, take_succ_eq (by omega) (by omega) hI.2.2.2.2 (by assumption)⟩
        ·omega
      ·replace hc7 := dF hc7
       refine C_exit ?_
       iterate 2 refine K_exit ?_
       refine K_hit ?_
       refine K_then ?_
       refine Y_pk [4] ?_
       refine C_seq ?_
       refine C_region (l := [0]) rfl ?_
       refine Y_assign ?_
       refine XD_end ?_
       refine K_then ?_
       refine C_ret ?_
       refine K_end (.inr rfl) (.tmp rfl .nil) (fun w hw => ?_)
       refine ⟨_, rfl, (hw.c), ?_⟩
       clear hw
       refine congrArg Value.bool ?_
       (have hk9 : k = c_marks_l.length := (by omega); subst hk9; (try simp only [OpV.eta, ClientV.eta, AnswerV.eta, OutcomeV.eta, MarkV.eta, CellV.eta, ParcelV.eta, PostV.eta, PeerV.eta, StepL06V.eta] at *); have he := eq_of_take (l := c_marks_l) (m := d_marks_l) rfl (by omega) (by grind); grind [SameCell])

theorem pbare_ok (M : Mem) (c : CellV) (hc0 : CellV.ok M c) : Fs Tryd.prog 60 [c.enc] M (fun v => v = Value.bool (decide (Bare c))) := by
  obtain ⟨c_version, c_has, c_val, ⟨c_marks_a, c_marks_c, c_marks_l⟩⟩ := c
  have s_c_marks : SlM M c_marks_a (c_marks_l.map MarkV.segs) 6 := hc0.h0
  have n_c_marks : (c_marks_l.map MarkV.segs).length = c_marks_l.length := List.length_map ..
  have m_c_marks : c_marks_l.length ≤ 9223372036854775807 := hc0.h1
  refine fs_enter Tryd.func60 rfl Tryd.ntmps60 rfl ?_; intro H
  refine C_seq ?_
  refine C_region (l := [0, 1]) rfl ?_
  refine Y_box ?_; intro b1
  refine Y_assign ?_
  refine XD_end ?_
  refine K_then ?_
  refine Y_pk [2, 1] ?_
  refine C_seq ?_
  refine C_region (l := [0, 1, 2, 3, 4, 5, 6, 7, 8, 9, 10, 11, 12, 13, 14, 15, 16, 17, 18, 19]) rfl ?_
  refine Y_fieldAddr F.foff40_0 ?_
  refine Y_load F.lay22 ?_
  refine Y_cmp ?_
  refine Y_move ?_
  refine XD_part 6 rfl (fun hc2 => ?_) (fun hc2 => ?_)
  ·replace hc2 := dT hc2
   refine Y_fieldAddr F.foff40_1 ?_
   refine Y_load F.lay4 ?_
   refine Y_not ?_
   refine Y_pick ?_
   refine Y_move ?_
   refine XD_part 11 rfl (fun hc3 => ?_) (fun hc3 => ?_)
   ·skip
    refine Y_fieldAddr F.foff40_2 ?_
    refine Y_load F.lay9 ?_
    refine Y_str ?_
    refine Y_pick ?_
    refine Y_move ?_
    refine XD_part 16 rfl (fun hc4 => ?_) (fun hc4 => ?_)
    ·replace hc4 := dT hc4
     refine Y_fieldAddr F.foff40_3 ?_
     refine Y_load F.lay38 ?_
     refine Y_len_sl F.elem38 ?_
     refine Y_cmp ?_
     refine Y_pick ?_
     refine Y_assign ?_
     refine XD_end ?_
     refine K_then ?_
     refine Y_pk [2] ?_
     refine C_ret ?_
     refine K_end (.inr rfl) (.tmp rfl .nil) (fun w hw => ?_)
     refine ⟨_, rfl, (hw.c), ?_⟩
     clear hw
     refine congrArg Value.bool (a₁ := _) ?_
     grind [w64, Bare, List.length_eq_zero_iff]
    ·replace hc4 := dF hc4
     iterate 4 refine Y_skip ?_
     refine Y_pick ?_
     refine Y_assign ?_
     refine XD_end ?_
     refine K_then ?_
     refine Y_pk [2] ?_
     refine C_ret ?_
     refine K_end (.inr rfl) (.tmp rfl .nil) (fun w hw => ?_)
     refine ⟨_, rfl, (hw.c), ?_⟩
     clear hw
     refine congrArg Value.bool (a₁ := _) ?_
     grind [w64, Bare, List.length_eq_zero_iff]
   ·skip
    iterate 3 refine Y_skip ?_
    refine Y_pick ?_
    refine Y_move ?_
    iterate 4 refine Y_skip ?_
    refine Y_pick ?_
    refine Y_assign ?_
    refine XD_end ?_
    refine K_then ?_
    refine Y_pk [2] ?_
    refine C_ret ?_
    refine K_end (.inr rfl) (.tmp rfl .nil) (fun w hw => ?_)
    refine ⟨_, rfl, (hw.c), ?_⟩
    clear hw
    refine congrArg Value.bool (a₁ := _) ?_
    grind [w64, Bare, List.length_eq_zero_iff]
  ·replace hc2 := dF hc2
   iterate 3 refine Y_skip ?_
   refine Y_pick ?_
   refine Y_move ?_
   iterate 3 refine Y_skip ?_
   refine Y_pick ?_
   refine Y_move ?_
   iterate 4 refine Y_skip ?_
   refine Y_pick ?_
   refine Y_assign ?_
   refine XD_end ?_
   refine K_then ?_
   refine Y_pk [2] ?_
   refine C_ret ?_
   refine K_end (.inr rfl) (.tmp rfl .nil) (fun w hw => ?_)
   refine ⟨_, rfl, (hw.c), ?_⟩
   clear hw
   refine congrArg Value.bool (a₁ := _) ?_
   grind [w64, Bare, List.length_eq_zero_iff]

theorem rbare_ok (M : Mem) (c : CellV) (hc0 : CellV.ok M c) : Fs Tryd.prog 71 [c.enc] M (fun v => v = Value.bool (decide (Bare c))) := by
  obtain ⟨c_version, c_has, c_val, ⟨c_marks_a, c_marks_c, c_marks_l⟩⟩ := c
  have s_c_marks : SlM M c_marks_a (c_marks_l.map MarkV.segs) 6 := hc0.h0
  have n_c_marks : (c_marks_l.map MarkV.segs).length = c_marks_l.length := List.length_map ..
  have m_c_marks : c_marks_l.length ≤ 9223372036854775807 := hc0.h1
  refine fs_enter Tryd.func71 rfl Tryd.ntmps71 rfl ?_; intro H
  refine C_seq ?_
  refine C_region (l := [0, 1]) rfl ?_
  refine Y_box ?_; intro b1
  refine Y_assign ?_
  refine XD_end ?_
  refine K_then ?_
  refine Y_pk [2, 1] ?_
  refine C_seq ?_
  refine C_region (l := [0, 1, 2, 3]) rfl ?_
  refine Y_load F.lay40 ?_
  refine X_build rfl rfl F.bld40 (.nil) rfl rfl ?_
  refine X_fs rfl rfl F.ok74 rfl (rSame_ok _ ⟨_, _, _, ⟨_, _, _⟩⟩ CellV.zero hc0 (CellV.zero_ok M)) rfl ?_
  rintro _ rfl
  refine Y_assign ?_
  refine XD_end ?_
  refine K_then ?_
  refine Y_pk [2] ?_
  refine C_ret ?_
  refine K_end (.inr rfl) (.tmp rfl .nil) (fun w hw => ?_)
  refine ⟨_, rfl, (hw.c), ?_⟩
  clear hw
  refine congrArg Value.bool (decide_eq_decide.2 ?_)
  grind [Bare, SameCell, CellV.zero]

theorem rA_ok (M : Mem) (a : AnswerV) : Fs Tryd.prog 72 [a.enc] M (fun v => v = Value.bool (decide (OkAnswer a))) := by
  obtain ⟨a_code, a_version, a_has, a_val⟩ := a
  refine fs_enter Tryd.func72 rfl Tryd.ntmps72 rfl ?_; intro H
  refine C_seq ?_
  refine C_region (l := [0, 1]) rfl ?_
  refine Y_box ?_; intro b1
  refine Y_assign ?_
  refine XD_end ?_
  refine K_then ?_
  refine Y_pk [2, 1] ?_
  refine C_seq ?_
  refine C_region (l := [0, 1, 2, 3, 4, 5, 6, 7, 8, 9, 10, 11, 12, 13, 14, 15, 16, 17, 18]) rfl ?_
  refine Y_fieldAddr F.foff37_0 ?_
  refine Y_load F.lay29 ?_
  refine Y_cmp ?_
  refine Y_move ?_
  refine XD_part 7 rfl (fun hc2 => ?_) (fun hc2 => ?_)
  ·replace hc2 := dT hc2
   iterate 3 refine Y_skip ?_
   refine Y_pick ?_
   refine Y_move ?_
   iterate 3 refine Y_skip ?_
   refine Y_pick ?_
   refine Y_move ?_
   iterate 3 refine Y_skip ?_
   refine Y_pick ?_
   refine Y_assign ?_
   refine XD_end ?_
   refine K_then ?_
   refine Y_pk [3, 2, 1] ?_
   refine C_seq ?_
   refine C_region (l := [0, 1, 2, 3, 4, 5, 6, 7, 8, 9, 10, 11, 12, 13, 14, 15, 16]) rfl ?_
   iterate 2 refine Y_move ?_
   refine Y_fieldAddr F.foff37_3 ?_
   refine Y_load F.lay9 ?_
   refine Y_len_str Tryd.underlying9 ?_
   refine Y_cmp ?_
   refine Y_pick ?_
   refine Y_move ?_
   refine XD_part 29 rfl (fun hc3 => ?_) (fun hc3 => ?_)
   ·replace hc3 := dT hc3
    refine Y_fieldAddr F.foff37_2 ?_
    refine Y_load F.lay4 ?_
    refine Y_move ?_
    refine XD_part 32 rfl (fun hc4 => ?_) (fun hc4 => ?_)
    ·skip
     iterate 3 refine Y_skip ?_
     iterate 2 refine Y_pick ?_
     refine Y_assign ?_
     refine XD_end ?_
     refine K_then ?_
     refine Y_pk [2] ?_
     refine C_ret ?_
     refine K_end (.inr rfl) (.tmp rfl .nil) (fun w hw => ?_)
     refine ⟨_, rfl, (hw.c), ?_⟩
     clear hw
     refine congrArg Value.bool (a₁ := _) ?_
     grind [w64, OkAnswer]
    ·skip
     refine Y_fieldAddr F.foff37_3 ?_
     refine Y_load F.lay9 ?_
     refine Y_str ?_
     iterate 2 refine Y_pick ?_
     refine Y_assign ?_
     refine XD_end ?_
     refine K_then ?_
     refine Y_pk [2] ?_
     refine C_ret ?_
     refine K_end (.inr rfl) (.tmp rfl .nil) (fun w hw => ?_)
     refine ⟨_, rfl, (hw.c), ?_⟩
     clear hw
     refine congrArg Value.bool (a₁ := _) ?_
     grind [w64, OkAnswer]
   ·replace hc3 := dF hc3
    iterate 7 refine Y_skip ?_
    refine Y_pick ?_
    refine Y_assign ?_
    refine XD_end ?_
    refine K_then ?_
    refine Y_pk [2] ?_
    refine C_ret ?_
    refine K_end (.inr rfl) (.tmp rfl .nil) (fun w hw => ?_)
    refine ⟨_, rfl, (hw.c), ?_⟩
    clear hw
    refine congrArg Value.bool (a₁ := _) ?_
    grind [w64, OkAnswer]
  ·replace hc2 := dF hc2
   refine Y_fieldAddr F.foff37_0 ?_
   refine Y_load F.lay29 ?_
   refine Y_cmp ?_
   refine Y_pick ?_
   refine Y_move ?_
   refine XD_part 12 rfl (fun hc5 => ?_) (fun hc5 => ?_)
   ·replace hc5 := dT hc5
    iterate 3 refine Y_skip ?_
    refine Y_pick ?_
    refine Y_move ?_
    iterate 3 refine Y_skip ?_
    refine Y_pick ?_
    refine Y_assign ?_
    refine XD_end ?_
    refine K_then ?_
    refine Y_pk [3, 2, 1] ?_
    refine C_seq ?_
    refine C_region (l := [0, 1, 2, 3, 4, 5, 6, 7, 8, 9, 10, 11, 12, 13, 14, 15, 16]) rfl ?_
    iterate 2 refine Y_move ?_
    refine Y_fieldAddr F.foff37_3 ?_
    refine Y_load F.lay9 ?_
    refine Y_len_str Tryd.underlying9 ?_
    refine Y_cmp ?_
    refine Y_pick ?_
    refine Y_move ?_
    refine XD_part 29 rfl (fun hc6 => ?_) (fun hc6 => ?_)
    ·replace hc6 := dT hc6
     refine Y_fieldAddr F.foff37_2 ?_
     refine Y_load F.lay4 ?_
     refine Y_move ?_
     refine XD_part 32 rfl (fun hc7 => ?_) (fun hc7 => ?_)
     ·skip
      iterate 3 refine Y_skip ?_
      iterate 2 refine Y_pick ?_
      refine Y_assign ?_
      refine XD_end ?_
      refine K_then ?_
      refine Y_pk [2] ?_
      refine C_ret ?_
      refine K_end (.inr rfl) (.tmp rfl .nil) (fun w hw => ?_)
      refine ⟨_, rfl, (hw.c), ?_⟩
      clear hw
      refine congrArg Value.bool (a₁ := _) ?_
      grind [w64, OkAnswer]
     ·skip
      refine Y_fieldAddr F.foff37_3 ?_
      refine Y_load F.lay9 ?_
      refine Y_str ?_
      iterate 2 refine Y_pick ?_
      refine Y_assign ?_
      refine XD_end ?_
      refine K_then ?_
      refine Y_pk [2] ?_
      refine C_ret ?_
      refine K_end (.inr rfl) (.tmp rfl .nil) (fun w hw => ?_)
      refine ⟨_, rfl, (hw.c), ?_⟩
      clear hw
      refine congrArg Value.bool (a₁ := _) ?_
      grind [w64, OkAnswer]
    ·replace hc6 := dF hc6
     iterate 7 refine Y_skip ?_
     refine Y_pick ?_
     refine Y_assign ?_
     refine XD_end ?_
     refine K_then ?_
     refine Y_pk [2] ?_
     refine C_ret ?_
     refine K_end (.inr rfl) (.tmp rfl .nil) (fun w hw => ?_)
     refine ⟨_, rfl, (hw.c), ?_⟩
     clear hw
     refine congrArg Value.bool (a₁ := _) ?_
     grind [w64, OkAnswer]
   ·replace hc5 := dF hc5
    refine Y_fieldAddr F.foff37_0 ?_
    refine Y_load F.lay29 ?_
    refine Y_cmp ?_
    refine Y_pick ?_
    refine Y_move ?_
    refine XD_part 17 rfl (fun hc8 => ?_) (fun hc8 => ?_)
    ·replace hc8 := dT hc8
     iterate 3 refine Y_skip ?_
     refine Y_pick ?_
     refine Y_assign ?_
     refine XD_end ?_
     refine K_then ?_
     refine Y_pk [3, 2, 1] ?_
     refine C_seq ?_
     refine C_region (l := [0, 1, 2, 3, 4, 5, 6, 7, 8, 9, 10, 11, 12, 13, 14, 15, 16]) rfl ?_
     iterate 2 refine Y_move ?_
     refine Y_fieldAddr F.foff37_3 ?_
     refine Y_load F.lay9 ?_
     refine Y_len_str Tryd.underlying9 ?_
     refine Y_cmp ?_
     refine Y_pick ?_
     refine Y_move ?_
     refine XD_part 29 rfl (fun hc9 => ?_) (fun hc9 => ?_)
     ·replace hc9 := dT hc9
      refine Y_fieldAddr F.foff37_2 ?_
      refine Y_load F.lay4 ?_
      refine Y_move ?_
      refine XD_part 32 rfl (fun hc10 => ?_) (fun hc10 => ?_)
      ·skip
       iterate 3 refine Y_skip ?_
       iterate 2 refine Y_pick ?_
       refine Y_assign ?_
       refine XD_end ?_
       refine K_then ?_
       refine Y_pk [2] ?_
       refine C_ret ?_
       refine K_end (.inr rfl) (.tmp rfl .nil) (fun w hw => ?_)
       refine ⟨_, rfl, (hw.c), ?_⟩
       clear hw
       refine congrArg Value.bool (a₁ := _) ?_
       grind [w64, OkAnswer]
      ·skip
       refine Y_fieldAddr F.foff37_3 ?_
       refine Y_load F.lay9 ?_
       refine Y_str ?_
       iterate 2 refine Y_pick ?_
       refine Y_assign ?_
       refine XD_end ?_
       refine K_then ?_
       refine Y_pk [2] ?_
       refine C_ret ?_
       refine K_end (.inr rfl) (.tmp rfl .nil) (fun w hw => ?_)
       refine ⟨_, rfl, (hw.c), ?_⟩
       clear hw
       refine congrArg Value.bool (a₁ := _) ?_
       grind [w64, OkAnswer]
     ·replace hc9 := dF hc9
      iterate 7 refine Y_skip ?_
      refine Y_pick ?_
      refine Y_assign ?_
      refine XD_end ?_
      refine K_then ?_
      refine Y_pk [2] ?_
      refine C_ret ?_
      refine K_end (.inr rfl) (.tmp rfl .nil) (fun w hw => ?_)
      refine ⟨_, rfl, (hw.c), ?_⟩
      clear hw
      refine congrArg Value.bool (a₁ := _) ?_
      grind [w64, OkAnswer]
    ·replace hc8 := dF hc8
     refine Y_fieldAddr F.foff37_0 ?_
     refine Y_load F.lay29 ?_
     refine Y_cmp ?_
     refine Y_pick ?_
     refine Y_assign ?_
     refine XD_end ?_
     refine K_then ?_
     refine Y_pk [3, 2, 1] ?_
     refine C_seq ?_
     refine C_region (l := [0, 1, 2, 3, 4, 5, 6, 7, 8, 9, 10, 11, 12, 13, 14, 15, 16]) rfl ?_
     iterate 2 refine Y_move ?_
     refine XD_part 23 rfl (fun hc11 => ?_) (fun hc11 => ?_)
     ·replace hc11 := dT hc11
      refine Y_fieldAddr F.foff37_3 ?_
      refine Y_load F.lay9 ?_
      refine Y_len_str Tryd.underlying9 ?_
      refine Y_cmp ?_
      refine Y_pick ?_
      refine Y_move ?_
      refine XD_part 29 rfl (fun hc12 => ?_) (fun hc12 => ?_)
      ·replace hc12 := dT hc12
       refine Y_fieldAddr F.foff37_2 ?_
       refine Y_load F.lay4 ?_
       refine Y_move ?_
       refine XD_part 32 rfl (fun hc13 => ?_) (fun hc13 => ?_)
       ·skip
        iterate 3 refine Y_skip ?_
        iterate 2 refine Y_pick ?_
        refine Y_assign ?_
        refine XD_end ?_
        refine K_then ?_
        refine Y_pk [2] ?_
        refine C_ret ?_
        refine K_end (.inr rfl) (.tmp rfl .nil) (fun w hw => ?_)
        refine ⟨_, rfl, (hw.c), ?_⟩
        clear hw
        refine congrArg Value.bool (a₁ := _) ?_
        grind [w64, OkAnswer]
       ·skip
        refine Y_fieldAddr F.foff37_3 ?_
        refine Y_load F.lay9 ?_
        refine Y_str ?_
        iterate 2 refine Y_pick ?_
        refine Y_assign ?_
        refine XD_end ?_
        refine K_then ?_
        refine Y_pk [2] ?_
        refine C_ret ?_
        refine K_end (.inr rfl) (.tmp rfl .nil) (fun w hw => ?_)
        refine ⟨_, rfl, (hw.c), ?_⟩
        clear hw
        refine congrArg Value.bool (a₁ := _) ?_
        grind [w64, OkAnswer]
      ·replace hc12 := dF hc12
       iterate 7 refine Y_skip ?_
       refine Y_pick ?_
       refine Y_assign ?_
       refine XD_end ?_
       refine K_then ?_
       refine Y_pk [2] ?_
       refine C_ret ?_
       refine K_end (.inr rfl) (.tmp rfl .nil) (fun w hw => ?_)
       refine ⟨_, rfl, (hw.c), ?_⟩
       clear hw
       refine congrArg Value.bool (a₁ := _) ?_
       grind [w64, OkAnswer]
     ·replace hc11 := dF hc11
      iterate 4 refine Y_skip ?_
      refine Y_pick ?_
      refine Y_move ?_
      iterate 7 refine Y_skip ?_
      refine Y_pick ?_
      refine Y_assign ?_
      refine XD_end ?_
      refine K_then ?_
      refine Y_pk [2] ?_
      refine C_ret ?_
      refine K_end (.inr rfl) (.tmp rfl .nil) (fun w hw => ?_)
      refine ⟨_, rfl, (hw.c), ?_⟩
      clear hw
      refine congrArg Value.bool (a₁ := _) ?_
      grind [w64, OkAnswer]

end Go.Proofs.YtelpkhhfjfbkcaaDoor
