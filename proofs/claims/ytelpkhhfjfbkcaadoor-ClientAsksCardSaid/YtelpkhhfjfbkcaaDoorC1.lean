/-
  Clients: what one is, and how one begins.
-/
import Derived.Test.YtelpkhhfjfbkcaaDoorRows
import Derived.Test.YtelpkhhfjfbkcaaDoorClientM
set_option linter.unusedSimpArgs false
set_option linter.unusedVariables false
set_option linter.unnecessarySimpa false
set_option maxRecDepth 8000
namespace Go.Proofs.YtelpkhhfjfbkcaaDoor
open Go.Esp
theorem F.bld26 : Bld Tryd.prog 26 [[.one (.int .i64 0)], [.one (.int .u64 0)], [.one (.int .i64 0)], [.one (.int .u64 0)], [.one (.string ⟨#[]⟩)]] := ⟨by kernel_rfl, by kernel_rfl⟩
theorem F.bld28 : Bld Tryd.prog 28 [[.one (.int .i64 0)], [.one (.int .u64 0)], [.one (.bool false)], [idSeg 0], [.one (.int .i64 0), .one (.int .u64 0), .one (.int .i64 0), .one (.int .u64 0), .one (.string ⟨#[]⟩)], [.one (.int .i64 0)]] := by rw [idSeg0]; exact ⟨by kernel_rfl, by kernel_rfl⟩
theorem F.foff26_0 : foff Tryd.prog 26 0 = some 0 := by kernel_rfl
theorem F.foff26_1 : foff Tryd.prog 26 1 = some 1 := by kernel_rfl
theorem F.foff26_2 : foff Tryd.prog 26 2 = some 2 := by kernel_rfl
theorem F.foff26_3 : foff Tryd.prog 26 3 = some 3 := by kernel_rfl
theorem F.foff26_4 : foff Tryd.prog 26 4 = some 4 := by kernel_rfl
theorem F.foff28_0 : foff Tryd.prog 28 0 = some 0 := by kernel_rfl
theorem F.foff28_1 : foff Tryd.prog 28 1 = some 1 := by kernel_rfl
theorem F.foff28_2 : foff Tryd.prog 28 2 = some 2 := by kernel_rfl
theorem F.foff28_4 : foff Tryd.prog 28 4 = some 23 := by kernel_rfl
theorem F.foff28_5 : foff Tryd.prog 28 5 = some 28 := by kernel_rfl
theorem F.guard26 : Tryd.prog.eqGuardType Tryd.prog.depth 26 = false := by kernel_rfl
theorem F.kinds26 : kindsOf Tryd.prog 20 26 = some [.i .i64, .i .u64, .i .i64, .i .u64, .s] := by kernel_rfl
theorem F.lay22 : lay Tryd.prog 22 = some (false, 1) := by kernel_rfl
theorem F.lay24 : lay Tryd.prog 24 = some (true, 20) := by kernel_rfl
theorem F.lay26 : lay Tryd.prog 26 = some (true, 5) := by kernel_rfl
theorem F.lay28 : lay Tryd.prog 28 = some (true, 29) := by kernel_rfl
theorem F.lay3 : lay Tryd.prog 3 = some (false, 1) := by kernel_rfl
theorem F.lay4 : lay Tryd.prog 4 = some (false, 1) := by kernel_rfl
theorem F.lay9 : lay Tryd.prog 9 = some (false, 1) := by kernel_rfl
theorem F.ok17 : okFn Tryd.prog 17 = true := by kernel_rfl
theorem F.ok18 : okFn Tryd.prog 18 = true := by kernel_rfl
theorem F.ok47 : okFn Tryd.prog 47 = true := by kernel_rfl
theorem F.ok48 : okFn Tryd.prog 48 = true := by kernel_rfl
theorem F.zero26 : zeroOf Tryd.prog 26 = some (aggV [.one (.int .i64 0), .one (.int .u64 0), .one (.int .i64 0), .one (.int .u64 0), .one (.string ⟨#[]⟩)]) := by kernel_rfl
theorem F.zero28 : zeroOf Tryd.prog 28 = some (aggV [.one (.int .i64 0), .one (.int .u64 0), .one (.bool false), idSeg 0, .one (.int .i64 0), .one (.int .u64 0), .one (.int .i64 0), .one (.int .u64 0), .one (.string ⟨#[]⟩), .one (.int .i64 0)]) := by rw [idSeg0]; kernel_rfl

theorem cIsOp_ok (M : Mem) (o : OpV) : Fs Tryd.prog 47 [o.enc] M (fun v => v = Value.bool (decide (IsOp o))) := by
  obtain ⟨o_client, o_req, o_kind, o_version, o_val⟩ := o
  refine fs_enter Tryd.func47 rfl Tryd.ntmps47 rfl ?_; intro H
  refine C_seq ?_
  refine C_region (l := [0, 1]) rfl ?_
  refine Y_box ?_; intro b1
  refine Y_assign ?_
  refine XD_end ?_
  refine K_then ?_
  refine Y_pk [2, 1] ?_
  iterate 2 refine C_seq ?_
  refine C_region (l := [0, 1, 2, 3, 4, 5, 6, 7]) rfl ?_
  refine Y_fieldAddr F.foff26_0 ?_
  refine Y_load F.lay3 ?_
  refine Y_cmp ?_
  refine Y_move ?_
  refine XD_part 6 rfl (fun hc2 => ?_) (fun hc2 => ?_)
  ·replace hc2 := dT hc2
   iterate 3 refine Y_skip ?_
   refine Y_pick ?_
   refine XD_end ?_
   refine K_then ?_
   refine Y_pk [10, 2, 1] ?_
   refine C_true rfl ?_
   refine C_seq ?_
   refine C_region (l := [0]) rfl ?_
   refine Y_assign ?_
   refine XD_end ?_
   refine K_then ?_
   refine Y_pk [2, 1] ?_
   refine C_ret ?_
   refine K_ret ?_
   refine K_end (.inr rfl) (.tmp rfl .nil) (fun w hw => ?_)
   refine ⟨_, rfl, (hw.c), ?_⟩
   clear hw
   refine congrArg Value.bool (a₁ := _) ?_
   grind [w64, IsOp, empty_size]
  ·replace hc2 := dF hc2
   refine Y_fieldAddr F.foff26_0 ?_
   refine Y_load F.lay3 ?_
   refine Y_cmp ?_
   refine Y_pick ?_
   refine XD_end ?_
   refine K_then ?_
   refine Y_pk [10, 2, 1] ?_
   refine C_cond rfl (fun hc3 => ?_) (fun hc3 => ?_)
   ·replace hc3 := dT hc3
    refine C_seq ?_
    refine C_region (l := [0]) rfl ?_
    refine Y_assign ?_
    refine XD_end ?_
    refine K_then ?_
    refine Y_pk [2, 1] ?_
    refine C_ret ?_
    refine K_ret ?_
    refine K_end (.inr rfl) (.tmp rfl .nil) (fun w hw => ?_)
    refine ⟨_, rfl, (hw.c), ?_⟩
    clear hw
    refine congrArg Value.bool (a₁ := _) ?_
    grind [w64, IsOp, empty_size]
   ·replace hc3 := dF hc3
    refine C_skip ?_
    refine K_then ?_
    refine Y_pk [2, 1] ?_
    iterate 2 refine C_seq ?_
    refine C_region (l := [0, 1]) rfl ?_
    refine Y_fieldAddr F.foff26_2 ?_
    refine Y_load F.lay3 ?_
    refine XD_end ?_
    refine K_then ?_
    refine Y_pk [12, 2, 1] ?_
    refine C_block ?_
    refine C_seq ?_
    refine C_block ?_
    refine C_seq ?_
    refine C_block ?_
    refine C_seq ?_
    refine C_block ?_
    refine C_seq ?_
    refine C_block ?_
    iterate 3 refine C_seq ?_
    refine C_region (l := [0, 1]) rfl ?_
    refine Y_cmp ?_
    refine Y_assign ?_
    refine XD_end ?_
    refine K_then ?_
    refine Y_pk [13, 12, 2, 1] ?_
    refine C_cond rfl (fun hc4 => ?_) (fun hc4 => ?_)
    ·replace hc4 := dT hc4
     refine C_exit ?_
     iterate 2 refine K_exit ?_
     refine K_hit ?_
     refine K_then ?_
     refine Y_pk [2, 1] ?_
     refine C_seq ?_
     refine C_region (l := [0, 1, 2]) rfl ?_
     refine Y_fieldAddr F.foff26_3 ?_
     refine Y_load F.lay22 ?_
     refine Y_cmp ?_
     refine XD_end ?_
     refine K_then ?_
     refine Y_pk [23, 2, 1] ?_
     refine C_cond rfl (fun hc5 => ?_) (fun hc5 => ?_)
     ·replace hc5 := nT hc5
      refine C_seq ?_
      refine C_region (l := [0]) rfl ?_
      refine Y_assign ?_
      refine XD_end ?_
      refine K_then ?_
      refine Y_pk [2, 1] ?_
      refine C_ret ?_
      refine K_retB ?_
      refine K_ret ?_
      refine K_retB ?_
      refine K_ret ?_
      refine K_retB ?_
      refine K_ret ?_
      refine K_retB ?_
      refine K_ret ?_
      refine K_end (.inr rfl) (.tmp rfl .nil) (fun w hw => ?_)
      refine ⟨_, rfl, (hw.c), ?_⟩
      clear hw
      refine congrArg Value.bool (a₁ := _) ?_
      grind [w64, IsOp, empty_size]
     ·replace hc5 := nF hc5
      refine C_skip ?_
      refine K_out ?_
      refine K_then ?_
      refine Y_pk [2, 1] ?_
      iterate 2 refine C_seq ?_
      refine C_region (l := [0, 1, 2, 3]) rfl ?_
      refine Y_fieldAddr F.foff26_4 ?_
      refine Y_load F.lay9 ?_
      refine Y_str ?_
      refine Y_assign ?_
      refine XD_end ?_
      refine K_then ?_
      refine Y_pk [2, 1] ?_
      refine C_ret ?_
      refine K_ret ?_
      refine K_retB ?_
      refine K_ret ?_
      refine K_retB ?_
      refine K_ret ?_
      refine K_retB ?_
      refine K_ret ?_
      refine K_end (.inr rfl) (.tmp rfl .nil) (fun w hw => ?_)
      refine ⟨_, rfl, (hw.c), ?_⟩
      clear hw
      refine congrArg Value.bool (a₁ := _) ?_
      grind [w64, IsOp, empty_size]
    ·replace hc4 := dF hc4
     refine C_skip ?_
     refine K_then ?_
     refine Y_pk [12, 2, 1] ?_
     iterate 2 refine C_seq ?_
     refine C_region (l := [0, 1]) rfl ?_
     refine Y_cmp ?_
     refine Y_assign ?_
     refine XD_end ?_
     refine K_then ?_
     refine Y_pk [15, 12, 2, 1] ?_
     refine C_cond rfl (fun hc6 => ?_) (fun hc6 => ?_)
     ·replace hc6 := dT hc6
      refine C_exit ?_
      iterate 2 refine K_exit ?_
      refine K_miss (by decide) ?_
      refine K_exit ?_
      refine K_hit ?_
      refine K_then ?_
      refine Y_pk [2, 1] ?_
      iterate 2 refine C_seq ?_
      refine C_region (l := [0, 1, 2, 3]) rfl ?_
      refine Y_fieldAddr F.foff26_4 ?_
      refine Y_load F.lay9 ?_
      refine Y_str ?_
      refine Y_assign ?_
      refine XD_end ?_
      refine K_then ?_
      refine Y_pk [2, 1] ?_
      refine C_ret ?_
      refine K_ret ?_
      refine K_retB ?_
      refine K_ret ?_
      refine K_retB ?_
      refine K_ret ?_
      refine K_retB ?_
      refine K_ret ?_
      refine K_end (.inr rfl) (.tmp rfl .nil) (fun w hw => ?_)
      refine ⟨_, rfl, (hw.c), ?_⟩
      clear hw
      refine congrArg Value.bool (a₁ := _) ?_
      grind [w64, IsOp, empty_size]
     ·replace hc6 := dF hc6
      refine C_skip ?_
      refine K_then ?_
      refine Y_pk [12, 2, 1] ?_
      iterate 2 refine C_seq ?_
      refine C_region (l := [0, 1]) rfl ?_
      refine Y_cmp ?_
      refine Y_assign ?_
      refine XD_end ?_
      refine K_then ?_
      refine Y_pk [17, 12, 2, 1] ?_
      refine C_cond rfl (fun hc7 => ?_) (fun hc7 => ?_)
      ·replace hc7 := dT hc7
       refine C_exit ?_
       iterate 2 refine K_exit ?_
       refine K_miss (by decide) ?_
       refine K_exit ?_
       refine K_miss (by decide) ?_
       refine K_exit ?_
       refine K_hit ?_
       refine K_then ?_
       refine Y_pk [2, 1] ?_
       refine C_seq ?_
       refine C_region (l := [0, 1, 2]) rfl ?_
       refine Y_fieldAddr F.foff26_3 ?_
       refine Y_load F.lay22 ?_
       refine Y_cmp ?_
       refine XD_end ?_
       refine K_then ?_
       refine Y_pk [29, 2, 1] ?_
       refine C_cond rfl (fun hc8 => ?_) (fun hc8 => ?_)
       ·replace hc8 := nT hc8
        refine C_seq ?_
        refine C_region (l := [0]) rfl ?_
        refine Y_assign ?_
        refine XD_end ?_
        refine K_then ?_
        refine Y_pk [2, 1] ?_
        refine C_ret ?_
        refine K_retB ?_
        refine K_ret ?_
        refine K_retB ?_
        refine K_ret ?_
        refine K_end (.inr rfl) (.tmp rfl .nil) (fun w hw => ?_)
        refine ⟨_, rfl, (hw.c), ?_⟩
        clear hw
        refine congrArg Value.bool (a₁ := _) ?_
        grind [w64, IsOp, empty_size]
       ·replace hc8 := nF hc8
        refine C_skip ?_
        refine K_out ?_
        refine K_then ?_
        refine Y_pk [2, 1] ?_
        iterate 2 refine C_seq ?_
        refine C_region (l := [0, 1, 2, 3, 4]) rfl ?_
        refine Y_fieldAddr F.foff26_4 ?_
        refine Y_load F.lay9 ?_
        refine Y_len_str Tryd.underlying9 ?_
        refine Y_cmp ?_
        refine Y_assign ?_
        refine XD_end ?_
        refine K_then ?_
        refine Y_pk [2] ?_
        refine C_ret ?_
        refine K_ret ?_
        refine K_retB ?_
        refine K_ret ?_
        refine K_end (.inr rfl) (.tmp rfl .nil) (fun w hw => ?_)
        refine ⟨_, rfl, (hw.c), ?_⟩
        clear hw
        refine congrArg Value.bool (a₁ := _) ?_
        grind [w64, IsOp, empty_size]
      ·replace hc7 := dF hc7
       refine C_skip ?_
       refine K_then ?_
       refine Y_pk [12, 2, 1] ?_
       refine C_seq ?_
       refine C_region (l := [0, 1]) rfl ?_
       refine Y_cmp ?_
       refine Y_assign ?_
       refine XD_end ?_
       refine K_then ?_
       refine Y_pk [19, 2, 1] ?_
       refine C_cond rfl (fun hc9 => ?_) (fun hc9 => ?_)
       ·replace hc9 := dT hc9
        refine C_exit ?_
        refine K_exit ?_
        refine K_miss (by decide) ?_
        refine K_exit ?_
        refine K_miss (by decide) ?_
        refine K_exit ?_
        refine K_miss (by decide) ?_
        refine K_exit ?_
        refine K_hit ?_
        refine K_then ?_
        refine Y_pk [2, 1] ?_
        iterate 2 refine C_seq ?_
        refine C_region (l := [0, 1, 2, 3, 4]) rfl ?_
        refine Y_fieldAddr F.foff26_4 ?_
        refine Y_load F.lay9 ?_
        refine Y_len_str Tryd.underlying9 ?_
        refine Y_cmp ?_
        refine Y_assign ?_
        refine XD_end ?_
        refine K_then ?_
        refine Y_pk [2] ?_
        refine C_ret ?_
        refine K_ret ?_
        refine K_retB ?_
        refine K_ret ?_
        refine K_end (.inr rfl) (.tmp rfl .nil) (fun w hw => ?_)
        refine ⟨_, rfl, (hw.c), ?_⟩
        clear hw
        refine congrArg Value.bool (a₁ := _) ?_
        grind [w64, IsOp, empty_size]
       ·replace hc9 := dF hc9
        refine C_skip ?_
        refine K_then ?_
        refine Y_pk [2, 1] ?_
        refine C_exit ?_
        refine K_miss (by decide) ?_
        refine K_exit ?_
        refine K_miss (by decide) ?_
        refine K_exit ?_
        refine K_miss (by decide) ?_
        refine K_exit ?_
        refine K_miss (by decide) ?_
        refine K_exit ?_
        refine K_hit ?_
        refine K_then ?_
        refine Y_pk [2] ?_
        refine C_seq ?_
        refine C_region (l := [0]) rfl ?_
        refine Y_assign ?_
        refine XD_end ?_
        refine K_then ?_
        refine C_ret ?_
        refine K_end (.inr rfl) (.tmp rfl .nil) (fun w hw => ?_)
        refine ⟨_, rfl, (hw.c), ?_⟩
        clear hw
        refine congrArg Value.bool (a₁ := _) ?_
        grind [w64, IsOp, empty_size]

theorem rIsOp_ok (M : Mem) (o : OpV) : Fs Tryd.prog 48 [o.enc] M (fun v => v = Value.bool (decide (IsOp o))) := by
  obtain ⟨o_client, o_req, o_kind, o_version, o_val⟩ := o
  refine fs_enter Tryd.func48 rfl Tryd.ntmps48 rfl ?_; intro H
  refine C_seq ?_
  refine C_region (l := [0, 1]) rfl ?_
  refine Y_box ?_; intro b1
  refine Y_assign ?_
  refine XD_end ?_
  refine K_then ?_
  refine Y_pk [2, 1] ?_
  iterate 2 refine C_seq ?_
  refine C_region (l := [0, 1, 2, 3, 4, 5, 6, 7, 8, 9, 10, 11, 12, 13, 14, 15, 16, 17, 18, 19, 20, 21, 22, 23]) rfl ?_
  refine Y_fieldAddr F.foff26_0 ?_
  refine Y_load F.lay3 ?_
  refine Y_cmp ?_
  refine Y_move ?_
  refine XD_part 7 rfl (fun hc2 => ?_) (fun hc2 => ?_)
  ·replace hc2 := dT hc2
   iterate 3 refine Y_skip ?_
   refine Y_pick ?_
   refine Y_move ?_
   iterate 3 refine Y_skip ?_
   refine Y_pick ?_
   refine Y_move ?_
   iterate 3 refine Y_skip ?_
   refine Y_pick ?_
   refine Y_move ?_
   iterate 4 refine Y_skip ?_
   refine Y_pick ?_
   refine XD_end ?_
   refine K_then ?_
   refine Y_pk [27, 2, 1] ?_
   refine C_true rfl ?_
   refine C_seq ?_
   refine C_region (l := [0]) rfl ?_
   refine Y_assign ?_
   refine XD_end ?_
   refine K_then ?_
   refine Y_pk [2, 1] ?_
   refine C_ret ?_
   refine K_ret ?_
   refine K_end (.inr rfl) (.tmp rfl .nil) (fun w hw => ?_)
   refine ⟨_, rfl, (hw.c), ?_⟩
   clear hw
   refine congrArg Value.bool (a₁ := _) ?_
   grind [w64, IsOp, empty_size]
  ·replace hc2 := dF hc2
   refine Y_fieldAddr F.foff26_0 ?_
   refine Y_load F.lay3 ?_
   refine Y_cmp ?_
   refine Y_pick ?_
   refine Y_move ?_
   refine XD_part 12 rfl (fun hc3 => ?_) (fun hc3 => ?_)
   ·replace hc3 := dT hc3
    iterate 3 refine Y_skip ?_
    refine Y_pick ?_
    refine Y_move ?_
    iterate 3 refine Y_skip ?_
    refine Y_pick ?_
    refine Y_move ?_
    iterate 4 refine Y_skip ?_
    refine Y_pick ?_
    refine XD_end ?_
    refine K_then ?_
    refine Y_pk [27, 2, 1] ?_
    refine C_true rfl ?_
    refine C_seq ?_
    refine C_region (l := [0]) rfl ?_
    refine Y_assign ?_
    refine XD_end ?_
    refine K_then ?_
    refine Y_pk [2, 1] ?_
    refine C_ret ?_
    refine K_ret ?_
    refine K_end (.inr rfl) (.tmp rfl .nil) (fun w hw => ?_)
    refine ⟨_, rfl, (hw.c), ?_⟩
    clear hw
    refine congrArg Value.bool (a₁ := _) ?_
    grind [w64, IsOp, empty_size]
   ·replace hc3 := dF hc3
    refine Y_fieldAddr F.foff26_2 ?_
    refine Y_load F.lay3 ?_
    refine Y_cmp ?_
    refine Y_pick ?_
    refine Y_move ?_
    refine XD_part 17 rfl (fun hc4 => ?_) (fun hc4 => ?_)
    ·replace hc4 := dT hc4
     iterate 3 refine Y_skip ?_
     refine Y_pick ?_
     refine Y_move ?_
     iterate 4 refine Y_skip ?_
     refine Y_pick ?_
     refine XD_end ?_
     refine K_then ?_
     refine Y_pk [27, 2, 1] ?_
     refine C_true rfl ?_
     refine C_seq ?_
     refine C_region (l := [0]) rfl ?_
     refine Y_assign ?_
     refine XD_end ?_
     refine K_then ?_
     refine Y_pk [2, 1] ?_
     refine C_ret ?_
     refine K_ret ?_
     refine K_end (.inr rfl) (.tmp rfl .nil) (fun w hw => ?_)
     refine ⟨_, rfl, (hw.c), ?_⟩
     clear hw
     refine congrArg Value.bool (a₁ := _) ?_
     grind [w64, IsOp, empty_size]
    ·replace hc4 := dF hc4
     refine Y_fieldAddr F.foff26_2 ?_
     refine Y_load F.lay3 ?_
     refine Y_cmp ?_
     refine Y_pick ?_
     refine Y_move ?_
     refine XD_part 22 rfl (fun hc5 => ?_) (fun hc5 => ?_)
     ·replace hc5 := dT hc5
      iterate 4 refine Y_skip ?_
      refine Y_pick ?_
      refine XD_end ?_
      refine K_then ?_
      refine Y_pk [27, 2, 1] ?_
      refine C_true rfl ?_
      refine C_seq ?_
      refine C_region (l := [0]) rfl ?_
      refine Y_assign ?_
      refine XD_end ?_
      refine K_then ?_
      refine Y_pk [2, 1] ?_
      refine C_ret ?_
      refine K_ret ?_
      refine K_end (.inr rfl) (.tmp rfl .nil) (fun w hw => ?_)
      refine ⟨_, rfl, (hw.c), ?_⟩
      clear hw
      refine congrArg Value.bool (a₁ := _) ?_
      grind [w64, IsOp, empty_size]
     ·replace hc5 := dF hc5
      refine Y_fieldAddr F.foff26_4 ?_
      refine Y_load F.lay9 ?_
      refine Y_len_str Tryd.underlying9 ?_
      refine Y_cmp ?_
      refine Y_pick ?_
      refine XD_end ?_
      refine K_then ?_
      refine Y_pk [27, 2, 1] ?_
      refine C_cond rfl (fun hc6 => ?_) (fun hc6 => ?_)
      ·replace hc6 := dT hc6
       refine C_seq ?_
       refine C_region (l := [0]) rfl ?_
       refine Y_assign ?_
       refine XD_end ?_
       refine K_then ?_
       refine Y_pk [2, 1] ?_
       refine C_ret ?_
       refine K_ret ?_
       refine K_end (.inr rfl) (.tmp rfl .nil) (fun w hw => ?_)
       refine ⟨_, rfl, (hw.c), ?_⟩
       clear hw
       refine congrArg Value.bool (a₁ := _) ?_
       grind [w64, IsOp, empty_size]
      ·replace hc6 := dF hc6
       refine C_skip ?_
       refine K_then ?_
       refine Y_pk [2, 1] ?_
       refine C_seq ?_
       refine C_region (l := [0, 1, 2, 3]) rfl ?_
       refine Y_fieldAddr F.foff26_2 ?_
       refine Y_load F.lay3 ?_
       refine Y_cmp ?_
       refine Y_assign ?_
       refine XD_end ?_
       refine K_then ?_
       refine Y_pk [3, 2, 1] ?_
       refine C_seq ?_
       refine C_region (l := [0, 1, 2, 3, 4, 5, 6, 7, 8, 9, 10, 11, 12, 13, 14, 15, 16, 17, 18, 19, 20, 21, 22, 23, 24, 25, 26]) rfl ?_
       refine Y_fieldAddr F.foff26_4 ?_
       refine Y_load F.lay9 ?_
       refine Y_str ?_
       refine Y_move ?_
       refine XD_part 34 rfl (fun hc7 => ?_) (fun hc7 => ?_)
       ·replace hc7 := dT hc7
        iterate 7 refine Y_skip ?_
        refine Y_pick ?_
        refine Y_move ?_
        refine Y_fieldAddr F.foff26_3 ?_
        refine Y_load F.lay22 ?_
        refine Y_cmp ?_
        refine Y_move ?_
        refine XD_part 47 rfl (fun hc8 => ?_) (fun hc8 => ?_)
        ·replace hc8 := dT hc8
         iterate 7 refine Y_skip ?_
         iterate 2 refine Y_pick ?_
         refine Y_assign ?_
         refine XD_end ?_
         refine K_then ?_
         refine Y_pk [2] ?_
         refine C_ret ?_
         refine K_end (.inr rfl) (.tmp rfl .nil) (fun w hw => ?_)
         refine ⟨_, rfl, (hw.c), ?_⟩
         clear hw
         refine congrArg Value.bool (a₁ := _) ?_
         grind [w64, IsOp, empty_size]
        ·replace hc8 := dF hc8
         refine Y_move ?_
         refine Y_not ?_
         refine Y_move ?_
         refine XD_part 50 rfl (fun hc9 => ?_) (fun hc9 => ?_)
         ·replace hc9 := nT hc9
          refine Y_fieldAddr F.foff26_2 ?_
          refine Y_load F.lay3 ?_
          refine Y_cmp ?_
          iterate 3 refine Y_pick ?_
          refine Y_assign ?_
          refine XD_end ?_
          refine K_then ?_
          refine Y_pk [2] ?_
          refine C_ret ?_
          refine K_end (.inr rfl) (.tmp rfl .nil) (fun w hw => ?_)
          refine ⟨_, rfl, (hw.c), ?_⟩
          clear hw
          refine congrArg Value.bool (a₁ := _) ?_
          grind [w64, IsOp, empty_size]
         ·replace hc9 := nF hc9
          iterate 3 refine Y_skip ?_
          iterate 3 refine Y_pick ?_
          refine Y_assign ?_
          refine XD_end ?_
          refine K_then ?_
          refine Y_pk [2] ?_
          refine C_ret ?_
          refine K_end (.inr rfl) (.tmp rfl .nil) (fun w hw => ?_)
          refine ⟨_, rfl, (hw.c), ?_⟩
          clear hw
          refine congrArg Value.bool (a₁ := _) ?_
          grind [w64, IsOp, empty_size]
       ·replace hc7 := dF hc7
        refine Y_move ?_
        refine Y_not ?_
        refine Y_move ?_
        refine XD_part 37 rfl (fun hc10 => ?_) (fun hc10 => ?_)
        ·replace hc10 := nT hc10
         refine Y_fieldAddr F.foff26_2 ?_
         refine Y_load F.lay3 ?_
         refine Y_cmp ?_
         iterate 2 refine Y_pick ?_
         refine Y_move ?_
         refine XD_part 43 rfl (fun hc11 => ?_) (fun hc11 => ?_)
         ·replace hc11 := nT hc11
          refine Y_fieldAddr F.foff26_3 ?_
          refine Y_load F.lay22 ?_
          refine Y_cmp ?_
          refine Y_move ?_
          refine XD_part 47 rfl (fun hc12 => ?_) (fun hc12 => ?_)
          ·replace hc12 := dT hc12
           iterate 7 refine Y_skip ?_
           iterate 2 refine Y_pick ?_
           refine Y_assign ?_
           refine XD_end ?_
           refine K_then ?_
           refine Y_pk [2] ?_
           refine C_ret ?_
           refine K_end (.inr rfl) (.tmp rfl .nil) (fun w hw => ?_)
           refine ⟨_, rfl, (hw.c), ?_⟩
           clear hw
           refine congrArg Value.bool (a₁ := _) ?_
           grind [w64, IsOp, empty_size]
          ·replace hc12 := dF hc12
           refine Y_move ?_
           refine Y_not ?_
           refine Y_move ?_
           refine XD_part 50 rfl (fun hc13 => ?_) (fun hc13 => ?_)
           ·replace hc13 := nT hc13
            refine Y_fieldAddr F.foff26_2 ?_
            refine Y_load F.lay3 ?_
            refine Y_cmp ?_
            iterate 3 refine Y_pick ?_
            refine Y_assign ?_
            refine XD_end ?_
            refine K_then ?_
            refine Y_pk [2] ?_
            refine C_ret ?_
            refine K_end (.inr rfl) (.tmp rfl .nil) (fun w hw => ?_)
            refine ⟨_, rfl, (hw.c), ?_⟩
            clear hw
            refine congrArg Value.bool (a₁ := _) ?_
            grind [w64, IsOp, empty_size]
           ·replace hc13 := nF hc13
            (exfalso; omega)
         ·replace hc11 := nF hc11
          iterate 12 refine Y_skip ?_
          refine Y_pick ?_
          refine Y_assign ?_
          refine XD_end ?_
          refine K_then ?_
          refine Y_pk [2] ?_
          refine C_ret ?_
          refine K_end (.inr rfl) (.tmp rfl .nil) (fun w hw => ?_)
          refine ⟨_, rfl, (hw.c), ?_⟩
          clear hw
          refine congrArg Value.bool (a₁ := _) ?_
          grind [w64, IsOp, empty_size]
        ·replace hc10 := nF hc10
         iterate 3 refine Y_skip ?_
         iterate 2 refine Y_pick ?_
         refine Y_move ?_
         iterate 12 refine Y_skip ?_
         refine Y_pick ?_
         refine Y_assign ?_
         refine XD_end ?_
         refine K_then ?_
         refine Y_pk [2] ?_
         refine C_ret ?_
         refine K_end (.inr rfl) (.tmp rfl .nil) (fun w hw => ?_)
         refine ⟨_, rfl, (hw.c), ?_⟩
         clear hw
         refine congrArg Value.bool (a₁ := _) ?_
         grind [w64, IsOp, empty_size]

theorem Is_ok (M : Mem) (c : ClientV) : Fs Tryd.prog 17 [c.enc] M (fun v => v = Value.bool (decide (IsClient c))) := by
  obtain ⟨c_num, c_req, c_busy, c_key, ⟨c_op_client, c_op_req, c_op_kind, c_op_version, c_op_val⟩, c_tries⟩ := c
  refine fs_enter Tryd.func17 rfl Tryd.ntmps17 rfl ?_; intro H
  refine C_seq ?_
  refine C_region (l := [0, 1]) rfl ?_
  refine Y_box ?_; intro b1
  refine Y_assign ?_
  refine XD_end ?_
  refine K_then ?_
  refine Y_pk [2, 1] ?_
  refine C_seq ?_
  refine C_region (l := [0, 1, 2, 3]) rfl ?_
  refine Y_fieldAddr F.foff28_4 ?_
  refine Y_load F.lay26 ?_
  refine Y_alloc F.zero26 ?_; intro b2
  refine Y_store F.lay26 ?_
  refine XD_end ?_
  refine K_then ?_
  refine Y_pk [3, 2, 1] ?_
  refine C_seq ?_
  refine C_region_anyWR (l := [0, 1, 2, 3, 4, 5, 6, 7]) (Hin := [(b2, _)]) [5, 7] #[0, 1, 0, 4, 3, 19, 63, 127] (by repeat first | exact Rem.here _ | exact Rem.two | apply Rem.skip | apply Rem.over) rfl (by kernel_rfl) (by kernel_rfl) ?_
  refine Y_fieldAddr F.foff28_0 ?_
  refine Y_load F.lay3 ?_
  refine Y_fieldAddr F.foff28_1 ?_
  refine Y_load F.lay22 ?_
  refine Y_fieldAddr F.foff26_0 ?_
  refine X_storeE rfl rfl rfl rfl rfl (by constructor) (by ((try simp only [cat, List.cons_append, List.nil_append, List.append_nil]); (repeat (first | exact flat_nil | refine flat_id ?_ | (refine flat_one ?_ ?_; rfl))); done)) (by repeat first | exact Upd.head | apply Upd.tail | apply Upd.over) F.lay3 rfl rfl (fun _ h => h.c) ?_
  refine Y_fieldAddr F.foff26_1 ?_
  refine X_storeE rfl rfl rfl rfl rfl (by constructor) (by ((try simp only [cat, List.cons_append, List.nil_append, List.append_nil]); (repeat (first | exact flat_nil | refine flat_id ?_ | (refine flat_one ?_ ?_; rfl))); done)) (by repeat first | exact Upd.head | apply Upd.tail | apply Upd.over) F.lay22 rfl rfl (fun _ h => h.c) ?_
  refine XD_end ?_
  refine K_unw ?_
  refine K_then ?_
  refine Y_pk [3, 2, 1] ?_
  refine C_seq ?_
  refine C_region (l := [0, 1, 2, 3, 4, 5, 6, 7, 8, 9, 10, 11, 12, 13, 14, 15, 16, 17, 18, 19, 20, 21, 22, 23, 24, 25, 26, 27, 28, 29, 30, 31, 32, 33, 34]) rfl ?_
  refine Y_fieldAddr F.foff28_0 ?_
  refine Y_load F.lay3 ?_
  refine Y_cmp ?_
  refine Y_move ?_
  refine XD_part 15 rfl (fun hc3 => ?_) (fun hc3 => ?_)
  ·replace hc3 := dT hc3
   refine Y_fieldAddr F.foff28_0 ?_
   refine Y_load F.lay3 ?_
   refine Y_cmp ?_
   refine Y_pick ?_
   refine Y_move ?_
   refine XD_part 20 rfl (fun hc4 => ?_) (fun hc4 => ?_)
   ·replace hc4 := dT hc4
    refine Y_fieldAddr F.foff28_5 ?_
    refine Y_load F.lay3 ?_
    refine Y_cmp ?_
    refine Y_pick ?_
    refine Y_move ?_
    refine XD_part 25 rfl (fun hc5 => ?_) (fun hc5 => ?_)
    ·replace hc5 := dT hc5
     refine Y_fieldAddr F.foff28_5 ?_
     refine Y_load F.lay3 ?_
     refine Y_cmp ?_
     refine Y_pick ?_
     refine Y_move ?_
     refine XD_part 30 rfl (fun hc6 => ?_) (fun hc6 => ?_)
     ·replace hc6 := dT hc6
      refine Y_fieldAddr F.foff28_2 ?_
      refine Y_load F.lay4 ?_
      refine Y_not ?_
      refine Y_move ?_
      refine XD_part 34 rfl (fun hc7 => ?_) (fun hc7 => ?_)
      ·skip
       iterate 9 refine Y_skip ?_
       iterate 2 refine Y_pick ?_
       refine Y_assign ?_
       refine XD_end ?_
       refine K_then ?_
       refine Y_pk [2] ?_
       refine C_ret ?_
       refine K_end (.inr rfl) (.tmp rfl .nil) (fun w hw => ?_)
       refine ⟨_, rfl, (hw.c), ?_⟩
       clear hw
       refine congrArg Value.bool (a₁ := _) ?_
       grind [w64, IsClient]
      ·skip
       refine Y_fieldAddr F.foff28_4 ?_
       refine Y_load F.lay26 ?_
       refine X_fs rfl rfl F.ok47 rfl (cIsOp_ok _ ⟨_, _, _, _, _⟩) rfl ?_
       rintro _ rfl
       refine Y_move ?_
       refine XD_part 38 rfl (fun hc8 => ?_) (fun hc8 => ?_)
       ·replace hc8 := dT hc8
        refine Y_load F.lay26 ?_
        refine Y_fieldAddr F.foff28_4 ?_
        refine Y_load F.lay26 ?_
        refine X_same (m := 20) rfl rfl rfl rfl rfl (by constructor) (by constructor) F.lay26 F.kinds26 rfl F.guard26 (by exact FitOpV (⟨_, _, _, _, _⟩)) (by exact FitOpV (⟨_, _, _, _, _⟩)) rfl rfl rfl ?_; intro c9 he10
        replace he10 : c9 = true ↔ Segs.cells _ = Segs.cells _ := he10
        obtain rfl := eqD he10 (OpV.inj (x := ⟨_, _, _, _, _⟩) (y := ⟨_, _, _, _, _⟩)); clear he10
        iterate 3 refine Y_pick ?_
        refine Y_assign ?_
        refine XD_end ?_
        refine K_then ?_
        refine Y_pk [2] ?_
        refine C_ret ?_
        refine K_end (.inr rfl) (.tmp rfl .nil) (fun w hw => ?_)
        refine ⟨_, rfl, (hw.c), ?_⟩
        clear hw
        refine congrArg Value.bool (a₁ := _) ?_
        grind [w64, IsClient]
       ·replace hc8 := dF hc8
        iterate 4 refine Y_skip ?_
        iterate 3 refine Y_pick ?_
        refine Y_assign ?_
        refine XD_end ?_
        refine K_then ?_
        refine Y_pk [2] ?_
        refine C_ret ?_
        refine K_end (.inr rfl) (.tmp rfl .nil) (fun w hw => ?_)
        refine ⟨_, rfl, (hw.c), ?_⟩
        clear hw
        refine congrArg Value.bool (a₁ := _) ?_
        grind [w64, IsClient]
     ·replace hc6 := dF hc6
      iterate 14 refine Y_skip ?_
      refine Y_pick ?_
      refine Y_assign ?_
      refine XD_end ?_
      refine K_then ?_
      refine Y_pk [2] ?_
      refine C_ret ?_
      refine K_end (.inr rfl) (.tmp rfl .nil) (fun w hw => ?_)
      refine ⟨_, rfl, (hw.c), ?_⟩
      clear hw
      refine congrArg Value.bool (a₁ := _) ?_
      grind [w64, IsClient]
    ·replace hc5 := dF hc5
     iterate 3 refine Y_skip ?_
     refine Y_pick ?_
     refine Y_move ?_
     iterate 14 refine Y_skip ?_
     refine Y_pick ?_
     refine Y_assign ?_
     refine XD_end ?_
     refine K_then ?_
     refine Y_pk [2] ?_
     refine C_ret ?_
     refine K_end (.inr rfl) (.tmp rfl .nil) (fun w hw => ?_)
     refine ⟨_, rfl, (hw.c), ?_⟩
     clear hw
     refine congrArg Value.bool (a₁ := _) ?_
     grind [w64, IsClient]
   ·replace hc4 := dF hc4
    iterate 3 refine Y_skip ?_
    refine Y_pick ?_
    refine Y_move ?_
    iterate 3 refine Y_skip ?_
    refine Y_pick ?_
    refine Y_move ?_
    iterate 14 refine Y_skip ?_
    refine Y_pick ?_
    refine Y_assign ?_
    refine XD_end ?_
    refine K_then ?_
    refine Y_pk [2] ?_
    refine C_ret ?_
    refine K_end (.inr rfl) (.tmp rfl .nil) (fun w hw => ?_)
    refine ⟨_, rfl, (hw.c), ?_⟩
    clear hw
    refine congrArg Value.bool (a₁ := _) ?_
    grind [w64, IsClient]
  ·replace hc3 := dF hc3
   iterate 3 refine Y_skip ?_
   refine Y_pick ?_
   refine Y_move ?_
   iterate 3 refine Y_skip ?_
   refine Y_pick ?_
   refine Y_move ?_
   iterate 3 refine Y_skip ?_
   refine Y_pick ?_
   refine Y_move ?_
   iterate 14 refine Y_skip ?_
   refine Y_pick ?_
   refine Y_assign ?_
   refine XD_end ?_
   refine K_then ?_
   refine Y_pk [2] ?_
   refine C_ret ?_
   refine K_end (.inr rfl) (.tmp rfl .nil) (fun w hw => ?_)
   refine ⟨_, rfl, (hw.c), ?_⟩
   clear hw
   refine congrArg Value.bool (a₁ := _) ?_
   grind [w64, IsClient]

theorem rIs_ok (M : Mem) (c : ClientV) : Fs Tryd.prog 18 [c.enc] M (fun v => v = Value.bool (decide (IsClient c))) := by
  obtain ⟨c_num, c_req, c_busy, c_key, ⟨c_op_client, c_op_req, c_op_kind, c_op_version, c_op_val⟩, c_tries⟩ := c
  refine fs_enter Tryd.func18 rfl Tryd.ntmps18 rfl ?_; intro H
  refine C_seq ?_
  refine C_region (l := [0, 1]) rfl ?_
  refine Y_box ?_; intro b1
  refine Y_assign ?_
  refine XD_end ?_
  refine K_then ?_
  refine Y_pk [2, 1] ?_
  iterate 2 refine C_seq ?_
  refine C_region (l := [0, 1, 2, 3, 4, 5, 6, 7, 8, 9, 10, 11, 12, 13, 14, 15, 16, 17]) rfl ?_
  refine Y_fieldAddr F.foff28_0 ?_
  refine Y_load F.lay3 ?_
  refine Y_cmp ?_
  refine Y_move ?_
  refine XD_part 6 rfl (fun hc2 => ?_) (fun hc2 => ?_)
  ·replace hc2 := dT hc2
   iterate 3 refine Y_skip ?_
   refine Y_pick ?_
   refine Y_move ?_
   iterate 3 refine Y_skip ?_
   refine Y_pick ?_
   refine Y_move ?_
   iterate 3 refine Y_skip ?_
   refine Y_pick ?_
   refine XD_end ?_
   refine K_then ?_
   refine Y_pk [20, 2, 1] ?_
   refine C_true rfl ?_
   refine C_seq ?_
   refine C_region (l := [0]) rfl ?_
   refine Y_assign ?_
   refine XD_end ?_
   refine K_then ?_
   refine Y_pk [2, 1] ?_
   refine C_ret ?_
   refine K_ret ?_
   refine K_end (.inr rfl) (.tmp rfl .nil) (fun w hw => ?_)
   refine ⟨_, rfl, (hw.c), ?_⟩
   clear hw
   refine congrArg Value.bool (a₁ := _) ?_
   grind [w64, IsClient]
  ·replace hc2 := dF hc2
   refine Y_fieldAddr F.foff28_0 ?_
   refine Y_load F.lay3 ?_
   refine Y_cmp ?_
   refine Y_pick ?_
   refine Y_move ?_
   refine XD_part 11 rfl (fun hc3 => ?_) (fun hc3 => ?_)
   ·replace hc3 := dT hc3
    iterate 3 refine Y_skip ?_
    refine Y_pick ?_
    refine Y_move ?_
    iterate 3 refine Y_skip ?_
    refine Y_pick ?_
    refine XD_end ?_
    refine K_then ?_
    refine Y_pk [20, 2, 1] ?_
    refine C_true rfl ?_
    refine C_seq ?_
    refine C_region (l := [0]) rfl ?_
    refine Y_assign ?_
    refine XD_end ?_
    refine K_then ?_
    refine Y_pk [2, 1] ?_
    refine C_ret ?_
    refine K_ret ?_
    refine K_end (.inr rfl) (.tmp rfl .nil) (fun w hw => ?_)
    refine ⟨_, rfl, (hw.c), ?_⟩
    clear hw
    refine congrArg Value.bool (a₁ := _) ?_
    grind [w64, IsClient]
   ·replace hc3 := dF hc3
    refine Y_fieldAddr F.foff28_5 ?_
    refine Y_load F.lay3 ?_
    refine Y_cmp ?_
    refine Y_pick ?_
    refine Y_move ?_
    refine XD_part 16 rfl (fun hc4 => ?_) (fun hc4 => ?_)
    ·replace hc4 := dT hc4
     iterate 3 refine Y_skip ?_
     refine Y_pick ?_
     refine XD_end ?_
     refine K_then ?_
     refine Y_pk [20, 2, 1] ?_
     refine C_true rfl ?_
     refine C_seq ?_
     refine C_region (l := [0]) rfl ?_
     refine Y_assign ?_
     refine XD_end ?_
     refine K_then ?_
     refine Y_pk [2, 1] ?_
     refine C_ret ?_
     refine K_ret ?_
     refine K_end (.inr rfl) (.tmp rfl .nil) (fun w hw => ?_)
     refine ⟨_, rfl, (hw.c), ?_⟩
     clear hw
     refine congrArg Value.bool (a₁ := _) ?_
     grind [w64, IsClient]
    ·replace hc4 := dF hc4
     refine Y_fieldAddr F.foff28_5 ?_
     refine Y_load F.lay3 ?_
     refine Y_cmp ?_
     refine Y_pick ?_
     refine XD_end ?_
     refine K_then ?_
     refine Y_pk [20, 2, 1] ?_
     refine C_cond rfl (fun hc5 => ?_) (fun hc5 => ?_)
     ·replace hc5 := dT hc5
      refine C_seq ?_
      refine C_region (l := [0]) rfl ?_
      refine Y_assign ?_
      refine XD_end ?_
      refine K_then ?_
      refine Y_pk [2, 1] ?_
      refine C_ret ?_
      refine K_ret ?_
      refine K_end (.inr rfl) (.tmp rfl .nil) (fun w hw => ?_)
      refine ⟨_, rfl, (hw.c), ?_⟩
      clear hw
      refine congrArg Value.bool (a₁ := _) ?_
      grind [w64, IsClient]
     ·replace hc5 := dF hc5
      refine C_skip ?_
      refine K_then ?_
      refine Y_pk [2, 1] ?_
      refine C_seq ?_
      refine C_region (l := [0, 1, 2, 3, 4, 5, 6, 7, 8, 9, 10, 11, 12, 13, 14, 15, 16, 17, 18, 19, 20, 21, 22, 23, 24]) rfl ?_
      refine Y_fieldAddr F.foff28_2 ?_
      refine Y_load F.lay4 ?_
      refine Y_not ?_
      refine Y_move ?_
      refine XD_part 24 rfl (fun hc6 => ?_) (fun hc6 => ?_)
      ·skip
       iterate 19 refine Y_skip ?_
       refine Y_pick ?_
       refine Y_assign ?_
       refine XD_end ?_
       refine K_then ?_
       refine Y_pk [2] ?_
       refine C_ret ?_
       refine K_end (.inr rfl) (.tmp rfl .nil) (fun w hw => ?_)
       refine ⟨_, rfl, (hw.c), ?_⟩
       clear hw
       refine congrArg Value.bool (a₁ := _) ?_
       grind [w64, IsClient]
      ·skip
       refine Y_fieldAddr F.foff28_4 ?_
       refine Y_load F.lay26 ?_
       refine X_fs rfl rfl F.ok48 rfl (rIsOp_ok _ ⟨_, _, _, _, _⟩) rfl ?_
       rintro _ rfl
       refine Y_move ?_
       refine XD_part 28 rfl (fun hc7 => ?_) (fun hc7 => ?_)
       ·replace hc7 := dT hc7
        refine Y_fieldAddr F.foff28_4 ?_
        refine Y_fieldAddr F.foff26_0 ?_
        refine Y_load F.lay3 ?_
        refine Y_fieldAddr F.foff28_0 ?_
        refine Y_load F.lay3 ?_
        refine Y_cmp ?_
        refine Y_pick ?_
        refine Y_move ?_
        refine XD_part 36 rfl (fun hc8 => ?_) (fun hc8 => ?_)
        ·replace hc8 := dT hc8
         refine Y_fieldAddr F.foff28_4 ?_
         refine Y_fieldAddr F.foff26_1 ?_
         refine Y_load F.lay22 ?_
         refine Y_fieldAddr F.foff28_1 ?_
         refine Y_load F.lay22 ?_
         refine Y_cmp ?_
         iterate 2 refine Y_pick ?_
         refine Y_assign ?_
         refine XD_end ?_
         refine K_then ?_
         refine Y_pk [2] ?_
         refine C_ret ?_
         refine K_end (.inr rfl) (.tmp rfl .nil) (fun w hw => ?_)
         refine ⟨_, rfl, (hw.c), ?_⟩
         clear hw
         refine congrArg Value.bool (a₁ := _) ?_
         grind [w64, IsClient]
        ·replace hc8 := dF hc8
         iterate 6 refine Y_skip ?_
         iterate 2 refine Y_pick ?_
         refine Y_assign ?_
         refine XD_end ?_
         refine K_then ?_
         refine Y_pk [2] ?_
         refine C_ret ?_
         refine K_end (.inr rfl) (.tmp rfl .nil) (fun w hw => ?_)
         refine ⟨_, rfl, (hw.c), ?_⟩
         clear hw
         refine congrArg Value.bool (a₁ := _) ?_
         grind [w64, IsClient]
       ·replace hc7 := dF hc7
        iterate 6 refine Y_skip ?_
        refine Y_pick ?_
        refine Y_move ?_
        iterate 6 refine Y_skip ?_
        iterate 2 refine Y_pick ?_
        refine Y_assign ?_
        refine XD_end ?_
        refine K_then ?_
        refine Y_pk [2] ?_
        refine C_ret ?_
        refine K_end (.inr rfl) (.tmp rfl .nil) (fun w hw => ?_)
        refine ⟨_, rfl, (hw.c), ?_⟩
        clear hw
        refine congrArg Value.bool (a₁ := _) ?_
        grind [w64, IsClient]

theorem New_ok (M : Mem) (num : Int) : Fs Tryd.prog 12 [.int .i64 num] M (fun v => v = ofPair (newC num)) := by
  refine fs_enter Tryd.func12 rfl Tryd.ntmps12 rfl ?_; intro H
  refine C_seq ?_
  refine C_region (l := [0, 1]) rfl ?_
  refine Y_alloc F.zero28 ?_; intro b1
  refine Y_assign ?_
  refine XD_end ?_
  refine K_then ?_
  refine C_seq ?_
  refine C_region (l := [0, 1, 2, 3]) rfl ?_
  refine Y_move ?_
  refine X_build rfl rfl F.bld28 (.cons rfl (by constructor) .nil) rfl rfl ?_
  refine Y_alloc F.zero28 ?_; intro b2
  refine Y_store F.lay28 ?_
  refine XD_end ?_
  refine K_then ?_
  refine Y_pk [4, 3, 2] ?_
  iterate 2 refine C_seq ?_
  refine C_region (l := [0, 1, 2]) rfl ?_
  refine Y_load F.lay28 ?_
  refine X_fs rfl rfl F.ok17 rfl (Is_ok _ ⟨_, _, _, _, ⟨_, _, _, _, _⟩, _⟩) rfl ?_
  rintro _ rfl
  refine Y_not ?_
  refine XD_end ?_
  refine K_then ?_
  refine Y_pk [9, 4, 3, 2] ?_
  refine C_cond rfl (fun hc3 => ?_) (fun hc3 => ?_)
  ·replace hc3 := nT hc3
   refine C_seq ?_
   refine C_region (l := [0, 1, 2]) rfl ?_
   refine X_build rfl rfl F.bld28 (.nil) rfl rfl ?_
   refine Y_store F.lay28 ?_
   refine Y_assign ?_
   refine XD_end ?_
   refine K_then ?_
   refine Y_pk [3, 4, 2] ?_
   refine C_ret ?_
   refine K_ret ?_
   refine K_end (.inr rfl) (.cell rfl (by repeat first | exact List.Mem.head _ | refine List.Mem.tail _ ?_ | refine List.mem_append_right _ ?_) F.lay28 rfl rfl (.tmp rfl .nil)) (fun w hw => ?_)
   refine ⟨_, rfl, (hw.c), ?_⟩
   clear hw
   refine congrArg ofPair (a₁ := (⟨_, _, _, _, ⟨_, _, _, _, _⟩, _⟩, _)) ?_
   grind [w64, newC, IsClient, ClientV.zero]
  ·replace hc3 := nF hc3
   refine C_skip ?_
   refine K_then ?_
   refine Y_pk [4, 3, 2] ?_
   refine C_seq ?_
   refine C_region (l := [0, 1, 2]) rfl ?_
   refine Y_load F.lay28 ?_
   refine Y_store F.lay28 ?_
   refine Y_assign ?_
   refine XD_end ?_
   refine K_then ?_
   refine Y_pk [3, 2] ?_
   refine C_ret ?_
   refine K_end (.inr rfl) (.cell rfl (by repeat first | exact List.Mem.head _ | refine List.Mem.tail _ ?_ | refine List.mem_append_right _ ?_) F.lay28 rfl rfl (.tmp rfl .nil)) (fun w hw => ?_)
   refine ⟨_, rfl, (hw.c), ?_⟩
   clear hw
   refine congrArg ofPair (a₁ := (⟨_, _, _, _, ⟨_, _, _, _, _⟩, _⟩, _)) ?_
   grind [w64, newC, IsClient, ClientV.zero]

theorem rNew_ok (M : Mem) (num : Int) : Fs Tryd.prog 13 [.int .i64 num] M (fun v => v = ofPair (newC num)) := by
  refine fs_enter Tryd.func13 rfl Tryd.ntmps13 rfl ?_; intro H
  refine C_seq ?_
  refine C_region (l := [0, 1]) rfl ?_
  refine Y_alloc F.zero28 ?_; intro b1
  refine Y_assign ?_
  refine XD_end ?_
  refine K_then ?_
  iterate 2 refine C_seq ?_
  refine C_region (l := [0, 1, 2, 3, 4, 5]) rfl ?_
  refine Y_move ?_
  refine Y_cmp ?_
  refine Y_move ?_
  refine XD_part 6 rfl (fun hc2 => ?_) (fun hc2 => ?_)
  ·replace hc2 := dT hc2
   iterate 2 refine Y_skip ?_
   refine Y_pick ?_
   refine XD_end ?_
   refine K_then ?_
   refine Y_pk [9, 3, 2, 0] ?_
   refine C_true rfl ?_
   refine C_seq ?_
   refine C_region (l := [0, 1, 2]) rfl ?_
   refine X_build rfl rfl F.bld28 (.nil) rfl rfl ?_
   refine Y_store F.lay28 ?_
   refine Y_assign ?_
   refine XD_end ?_
   refine K_then ?_
   refine Y_pk [3, 2, 0] ?_
   refine C_ret ?_
   refine K_ret ?_
   refine K_end (.inr rfl) (.cell rfl (by repeat first | exact List.Mem.head _ | refine List.Mem.tail _ ?_ | refine List.mem_append_right _ ?_) F.lay28 rfl rfl (.tmp rfl .nil)) (fun w hw => ?_)
   refine ⟨_, rfl, (hw.c), ?_⟩
   clear hw
   refine congrArg ofPair (a₁ := (⟨_, _, _, _, ⟨_, _, _, _, _⟩, _⟩, _)) ?_
   grind [w64, newC, ClientV.zero]
  ·replace hc2 := dF hc2
   refine Y_move ?_
   refine Y_cmp ?_
   refine Y_pick ?_
   refine XD_end ?_
   refine K_then ?_
   refine Y_pk [9, 3, 2, 0] ?_
   refine C_cond rfl (fun hc3 => ?_) (fun hc3 => ?_)
   ·replace hc3 := dT hc3
    refine C_seq ?_
    refine C_region (l := [0, 1, 2]) rfl ?_
    refine X_build rfl rfl F.bld28 (.nil) rfl rfl ?_
    refine Y_store F.lay28 ?_
    refine Y_assign ?_
    refine XD_end ?_
    refine K_then ?_
    refine Y_pk [3, 2, 0] ?_
    refine C_ret ?_
    refine K_ret ?_
    refine K_end (.inr rfl) (.cell rfl (by repeat first | exact List.Mem.head _ | refine List.Mem.tail _ ?_ | refine List.mem_append_right _ ?_) F.lay28 rfl rfl (.tmp rfl .nil)) (fun w hw => ?_)
    refine ⟨_, rfl, (hw.c), ?_⟩
    clear hw
    refine congrArg ofPair (a₁ := (⟨_, _, _, _, ⟨_, _, _, _, _⟩, _⟩, _)) ?_
    grind [w64, newC, ClientV.zero]
   ·replace hc3 := dF hc3
    refine C_skip ?_
    refine K_then ?_
    refine Y_pk [3, 2, 0] ?_
    refine C_seq ?_
    refine C_region (l := [0, 1, 2, 3]) rfl ?_
    refine Y_move ?_
    refine X_build rfl rfl F.bld28 (.cons rfl (by constructor) .nil) rfl rfl ?_
    refine Y_store F.lay28 ?_
    refine Y_assign ?_
    refine XD_end ?_
    refine K_then ?_
    refine Y_pk [3, 2] ?_
    refine C_ret ?_
    refine K_end (.inr rfl) (.cell rfl (by repeat first | exact List.Mem.head _ | refine List.Mem.tail _ ?_ | refine List.mem_append_right _ ?_) F.lay28 rfl rfl (.tmp rfl .nil)) (fun w hw => ?_)
    refine ⟨_, rfl, (hw.c), ?_⟩
    clear hw
    refine congrArg ofPair (a₁ := (⟨_, _, _, _, ⟨_, _, _, _, _⟩, _⟩, _)) ?_
    grind [w64, newC, ClientV.zero]

theorem Start_ok (M : Mem) (c : ClientV) (key : Plc) (kind : Int) (version : Int) (val : ByteArray) : Fs Tryd.prog 14 [c.enc, aggV [idSeg key], .int .i64 kind, .int .u64 version, .string val] M (fun v => v = ofPair (startC c key kind version val)) := by
  obtain ⟨c_num, c_req, c_busy, c_key, ⟨c_op_client, c_op_req, c_op_kind, c_op_version, c_op_val⟩, c_tries⟩ := c
  refine fs_enter Tryd.func14 rfl Tryd.ntmps14 rfl ?_; intro H
  refine C_seq ?_
  refine C_region (l := [0, 1, 2, 3]) rfl ?_
  refine Y_box ?_; intro b1
  refine Y_box ?_; intro b2
  refine Y_alloc F.zero28 ?_; intro b3
  refine Y_assign ?_
  refine XD_end ?_
  refine K_then ?_
  refine Y_pk [11, 10, 6, 5, 2, 3, 4] ?_
  refine C_seq ?_
  refine C_block ?_
  refine C_seq ?_
  refine C_region (l := [0, 1, 2, 3]) rfl ?_
  refine Y_load F.lay28 ?_
  refine X_fs rfl rfl F.ok17 rfl (Is_ok _ ⟨_, _, _, _, ⟨_, _, _, _, _⟩, _⟩) rfl ?_
  rintro _ rfl
  refine Y_not ?_
  refine Y_assign ?_
  refine XD_end ?_
  refine K_then ?_
  refine Y_pk [13, 11, 10, 6, 5, 2, 3, 4] ?_
  refine C_cond rfl (fun hc4 => ?_) (fun hc4 => ?_)
  ·replace hc4 := nT hc4
   refine C_seq ?_
   refine C_region (l := [0, 1, 2]) rfl ?_
   refine X_build rfl rfl F.bld28 (.nil) rfl rfl ?_
   refine Y_store F.lay28 ?_
   refine Y_assign ?_
   refine XD_end ?_
   refine K_then ?_
   refine Y_pk [11, 10, 6, 5, 2, 3, 4] ?_
   refine C_ret ?_
   refine K_retB ?_
   refine K_ret ?_
   refine K_end (.inr rfl) (.cell rfl (by repeat first | exact List.Mem.head _ | refine List.Mem.tail _ ?_ | refine List.mem_append_right _ ?_) F.lay28 rfl rfl (.tmp rfl .nil)) (fun w hw => ?_)
   refine ⟨_, rfl, (hw.c), ?_⟩
   clear hw
   refine congrArg ofPair (a₁ := (⟨_, _, _, _, ⟨_, _, _, _, _⟩, _⟩, _)) ?_
   grind [w64, startC, opOf, ClientV.zero]
  ·replace hc4 := nF hc4
   refine C_seq ?_
   refine C_region (l := [0, 1, 2]) rfl ?_
   refine Y_fieldAddr F.foff28_2 ?_
   refine Y_load F.lay4 ?_
   refine Y_assign ?_
   refine XD_end ?_
   refine K_then ?_
   refine Y_pk [18, 11, 10, 6, 5, 2, 3, 4] ?_
   refine C_cond rfl (fun hc5 => ?_) (fun hc5 => ?_)
   ·skip
    refine C_seq ?_
    refine C_region (l := [0, 1, 2]) rfl ?_
    refine X_build rfl rfl F.bld28 (.nil) rfl rfl ?_
    refine Y_store F.lay28 ?_
    refine Y_assign ?_
    refine XD_end ?_
    refine K_then ?_
    refine Y_pk [11, 10, 6, 5, 2, 3, 4] ?_
    refine C_ret ?_
    refine K_retB ?_
    refine K_ret ?_
    refine K_end (.inr rfl) (.cell rfl (by repeat first | exact List.Mem.head _ | refine List.Mem.tail _ ?_ | refine List.mem_append_right _ ?_) F.lay28 rfl rfl (.tmp rfl .nil)) (fun w hw => ?_)
    refine ⟨_, rfl, (hw.c), ?_⟩
    clear hw
    refine congrArg ofPair (a₁ := (⟨_, _, _, _, ⟨_, _, _, _, _⟩, _⟩, _)) ?_
    grind [w64, startC, opOf, ClientV.zero]
   ·skip
    refine C_skip ?_
    refine K_out ?_
    refine K_then ?_
    refine Y_pk [11, 10, 6, 5, 2, 3, 4] ?_
    refine C_seq ?_
    refine C_region (l := [0, 1, 2, 3, 4, 5, 6, 7, 8, 9, 10]) rfl ?_
    refine Y_fieldAddr F.foff28_0 ?_
    refine Y_load F.lay3 ?_
    refine Y_fieldAddr F.foff28_1 ?_
    refine Y_load F.lay22 ?_
    refine X_ari rfl rfl rfl rfl rfl (by exact wrap_u64 _) rfl ?_
    iterate 3 refine Y_move ?_
    refine X_build rfl rfl F.bld26 (.cons rfl (by constructor) (.cons rfl (by constructor) (.cons rfl (by constructor) (.cons rfl (by constructor) (.cons rfl (by constructor) .nil))))) rfl rfl ?_
    refine Y_alloc F.zero26 ?_; intro b6
    refine Y_store F.lay26 ?_
    refine XD_end ?_
    refine K_then ?_
    refine Y_pk [12, 11, 10, 6, 5] ?_
    iterate 2 refine C_seq ?_
    refine C_region (l := [0, 1, 2]) rfl ?_
    refine Y_load F.lay26 ?_
    refine X_fs rfl rfl F.ok47 rfl (cIsOp_ok _ ⟨_, _, _, _, _⟩) rfl ?_
    rintro _ rfl
    refine Y_not ?_
    refine XD_end ?_
    refine K_then ?_
    refine Y_pk [33, 12, 11, 10, 6, 5] ?_
    refine C_cond rfl (fun hc7 => ?_) (fun hc7 => ?_)
    ·replace hc7 := nT hc7
     refine C_seq ?_
     refine C_region (l := [0, 1, 2]) rfl ?_
     refine X_build rfl rfl F.bld28 (.nil) rfl rfl ?_
     refine Y_store F.lay28 ?_
     refine Y_assign ?_
     refine XD_end ?_
     refine K_then ?_
     refine Y_pk [11, 12, 10, 6, 5] ?_
     refine C_ret ?_
     refine K_ret ?_
     refine K_end (.inr rfl) (.cell rfl (by repeat first | exact List.Mem.head _ | refine List.Mem.tail _ ?_ | refine List.mem_append_right _ ?_) F.lay28 rfl rfl (.tmp rfl .nil)) (fun w hw => ?_)
     refine ⟨_, rfl, (hw.c), ?_⟩
     clear hw
     refine congrArg ofPair (a₁ := (⟨_, _, _, _, ⟨_, _, _, _, _⟩, _⟩, _)) ?_
     grind [w64, startC, opOf, ClientV.zero]
    ·replace hc7 := nF hc7
     refine C_skip ?_
     refine K_then ?_
     refine Y_pk [12, 11, 10, 6, 5] ?_
     refine C_seq ?_
     refine C_region (l := [0, 1, 2, 3, 4, 5, 6, 7, 8]) rfl ?_
     refine Y_fieldAddr F.foff28_0 ?_
     refine Y_load F.lay3 ?_
     refine Y_fieldAddr F.foff26_1 ?_
     refine Y_load F.lay22 ?_
     refine Y_load F.lay24 ?_
     refine Y_load F.lay26 ?_
     refine X_build rfl rfl F.bld28 (.cons rfl (by constructor) (.cons rfl (by constructor) (.cons rfl (by constructor) (.cons rfl (by constructor) (.cons rfl (by constructor) .nil))))) rfl rfl ?_
     refine Y_store F.lay28 ?_
     refine Y_assign ?_
     refine XD_end ?_
     refine K_then ?_
     refine Y_pk [11, 10] ?_
     refine C_ret ?_
     refine K_end (.inr rfl) (.cell rfl (by repeat first | exact List.Mem.head _ | refine List.Mem.tail _ ?_ | refine List.mem_append_right _ ?_) F.lay28 rfl rfl (.tmp rfl .nil)) (fun w hw => ?_)
     refine ⟨_, rfl, (hw.c), ?_⟩
     clear hw
     refine congrArg ofPair (a₁ := (⟨_, _, _, _, ⟨_, _, _, _, _⟩, _⟩, _)) ?_
     grind [w64, startC, opOf, ClientV.zero]

theorem rStart_ok (M : Mem) (c : ClientV) (key : Plc) (kind : Int) (version : Int) (val : ByteArray) : Fs Tryd.prog 15 [c.enc, aggV [idSeg key], .int .i64 kind, .int .u64 version, .string val] M (fun v => v = ofPair (startC c key kind version val)) := by
  obtain ⟨c_num, c_req, c_busy, c_key, ⟨c_op_client, c_op_req, c_op_kind, c_op_version, c_op_val⟩, c_tries⟩ := c
  refine fs_enter Tryd.func15 rfl Tryd.ntmps15 rfl ?_; intro H
  refine C_seq ?_
  refine C_region (l := [0, 1, 2, 3]) rfl ?_
  refine Y_box ?_; intro b1
  refine Y_box ?_; intro b2
  refine Y_alloc F.zero28 ?_; intro b3
  refine Y_assign ?_
  refine XD_end ?_
  refine K_then ?_
  refine Y_pk [11, 10, 6, 5, 2, 3, 4] ?_
  iterate 2 refine C_seq ?_
  refine C_region (l := [0, 1, 2]) rfl ?_
  refine Y_load F.lay28 ?_
  refine X_fs rfl rfl F.ok18 rfl (rIs_ok _ ⟨_, _, _, _, ⟨_, _, _, _, _⟩, _⟩) rfl ?_
  rintro _ rfl
  refine Y_not ?_
  refine XD_end ?_
  refine K_then ?_
  refine Y_pk [15, 11, 10, 6, 5, 2, 3, 4] ?_
  refine C_cond rfl (fun hc4 => ?_) (fun hc4 => ?_)
  ·replace hc4 := nT hc4
   refine C_seq ?_
   refine C_region (l := [0, 1, 2]) rfl ?_
   refine X_build rfl rfl F.bld28 (.nil) rfl rfl ?_
   refine Y_store F.lay28 ?_
   refine Y_assign ?_
   refine XD_end ?_
   refine K_then ?_
   refine Y_pk [11, 10, 6, 5, 2, 3, 4] ?_
   refine C_ret ?_
   refine K_ret ?_
   refine K_end (.inr rfl) (.cell rfl (by repeat first | exact List.Mem.head _ | refine List.Mem.tail _ ?_ | refine List.mem_append_right _ ?_) F.lay28 rfl rfl (.tmp rfl .nil)) (fun w hw => ?_)
   refine ⟨_, rfl, (hw.c), ?_⟩
   clear hw
   refine congrArg ofPair (a₁ := (⟨_, _, _, _, ⟨_, _, _, _, _⟩, _⟩, _)) ?_
   grind [w64, startC, opOf, ClientV.zero]
  ·replace hc4 := nF hc4
   refine C_skip ?_
   refine K_then ?_
   refine Y_pk [11, 10, 6, 5, 2, 3, 4] ?_
   iterate 2 refine C_seq ?_
   refine C_region (l := [0, 1]) rfl ?_
   refine Y_fieldAddr F.foff28_2 ?_
   refine Y_load F.lay4 ?_
   refine XD_end ?_
   refine K_then ?_
   refine Y_pk [18, 11, 10, 6, 5, 2, 3, 4] ?_
   refine C_cond rfl (fun hc5 => ?_) (fun hc5 => ?_)
   ·skip
    refine C_seq ?_
    refine C_region (l := [0, 1, 2]) rfl ?_
    refine X_build rfl rfl F.bld28 (.nil) rfl rfl ?_
    refine Y_store F.lay28 ?_
    refine Y_assign ?_
    refine XD_end ?_
    refine K_then ?_
    refine Y_pk [11, 10, 6, 5, 2, 3, 4] ?_
    refine C_ret ?_
    refine K_ret ?_
    refine K_end (.inr rfl) (.cell rfl (by repeat first | exact List.Mem.head _ | refine List.Mem.tail _ ?_ | refine List.mem_append_right _ ?_) F.lay28 rfl rfl (.tmp rfl .nil)) (fun w hw => ?_)
    refine ⟨_, rfl, (hw.c), ?_⟩
    clear hw
    refine congrArg ofPair (a₁ := (⟨_, _, _, _, ⟨_, _, _, _, _⟩, _⟩, _)) ?_
    grind [w64, startC, opOf, ClientV.zero]
   ·skip
    refine C_skip ?_
    refine K_then ?_
    refine Y_pk [11, 10, 6, 5, 2, 3, 4] ?_
    refine C_seq ?_
    refine C_region (l := [0, 1, 2, 3, 4, 5, 6, 7, 8, 9, 10]) rfl ?_
    refine Y_fieldAddr F.foff28_0 ?_
    refine Y_load F.lay3 ?_
    refine Y_fieldAddr F.foff28_1 ?_
    refine Y_load F.lay22 ?_
    refine X_ari rfl rfl rfl rfl rfl (by exact wrap_u64 _) rfl ?_
    iterate 3 refine Y_move ?_
    refine X_build rfl rfl F.bld26 (.cons rfl (by constructor) (.cons rfl (by constructor) (.cons rfl (by constructor) (.cons rfl (by constructor) (.cons rfl (by constructor) .nil))))) rfl rfl ?_
    refine Y_alloc F.zero26 ?_; intro b6
    refine Y_store F.lay26 ?_
    refine XD_end ?_
    refine K_then ?_
    refine Y_pk [12, 11, 10, 6, 5] ?_
    iterate 2 refine C_seq ?_
    refine C_region (l := [0, 1, 2]) rfl ?_
    refine Y_load F.lay26 ?_
    refine X_fs rfl rfl F.ok48 rfl (rIsOp_ok _ ⟨_, _, _, _, _⟩) rfl ?_
    rintro _ rfl
    refine Y_not ?_
    refine XD_end ?_
    refine K_then ?_
    refine Y_pk [31, 12, 11, 10, 6, 5] ?_
    refine C_cond rfl (fun hc7 => ?_) (fun hc7 => ?_)
    ·replace hc7 := nT hc7
     refine C_seq ?_
     refine C_region (l := [0, 1, 2]) rfl ?_
     refine X_build rfl rfl F.bld28 (.nil) rfl rfl ?_
     refine Y_store F.lay28 ?_
     refine Y_assign ?_
     refine XD_end ?_
     refine K_then ?_
     refine Y_pk [11, 12, 10, 6, 5] ?_
     refine C_ret ?_
     refine K_ret ?_
     refine K_end (.inr rfl) (.cell rfl (by repeat first | exact List.Mem.head _ | refine List.Mem.tail _ ?_ | refine List.mem_append_right _ ?_) F.lay28 rfl rfl (.tmp rfl .nil)) (fun w hw => ?_)
     refine ⟨_, rfl, (hw.c), ?_⟩
     clear hw
     refine congrArg ofPair (a₁ := (⟨_, _, _, _, ⟨_, _, _, _, _⟩, _⟩, _)) ?_
     grind [w64, startC, opOf, ClientV.zero]
    ·replace hc7 := nF hc7
     refine C_skip ?_
     refine K_then ?_
     refine Y_pk [12, 11, 10, 6, 5] ?_
     refine C_seq ?_
     refine C_region (l := [0, 1, 2, 3, 4, 5, 6, 7, 8]) rfl ?_
     refine Y_fieldAddr F.foff28_0 ?_
     refine Y_load F.lay3 ?_
     refine Y_fieldAddr F.foff26_1 ?_
     refine Y_load F.lay22 ?_
     refine Y_load F.lay24 ?_
     refine Y_load F.lay26 ?_
     refine X_build rfl rfl F.bld28 (.cons rfl (by constructor) (.cons rfl (by constructor) (.cons rfl (by constructor) (.cons rfl (by constructor) (.cons rfl (by constructor) .nil))))) rfl rfl ?_
     refine Y_store F.lay28 ?_
     refine Y_assign ?_
     refine XD_end ?_
     refine K_then ?_
     refine Y_pk [11, 10] ?_
     refine C_ret ?_
     refine K_end (.inr rfl) (.cell rfl (by repeat first | exact List.Mem.head _ | refine List.Mem.tail _ ?_ | refine List.mem_append_right _ ?_) F.lay28 rfl rfl (.tmp rfl .nil)) (fun w hw => ?_)
     refine ⟨_, rfl, (hw.c), ?_⟩
     clear hw
     refine congrArg ofPair (a₁ := (⟨_, _, _, _, ⟨_, _, _, _, _⟩, _⟩, _)) ?_
     grind [w64, startC, opOf, ClientV.zero]

end Go.Proofs.YtelpkhhfjfbkcaaDoor
