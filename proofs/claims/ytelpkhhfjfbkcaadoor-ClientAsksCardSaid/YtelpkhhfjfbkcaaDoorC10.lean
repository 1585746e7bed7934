/-
  Answers taken.
-/
import Derived.Test.YtelpkhhfjfbkcaaDoorC9
set_option linter.unusedSimpArgs false
set_option linter.unusedVariables false
set_option linter.unnecessarySimpa false
set_option maxRecDepth 8000
namespace Go.Proofs.YtelpkhhfjfbkcaaDoor
open Go.Esp
theorem F.lay42 : lay Tryd.prog 42 = some (true, 36) := by kernel_rfl
theorem F.ok28 : okFn Tryd.prog 28 = true := by kernel_rfl
theorem F.ok56 : okFn Tryd.prog 56 = true := by kernel_rfl

theorem rTake_ok (M : Mem) (c : ClientV) (p : ParcelV) (hp0 : ParcelV.ok M p) : Fs Tryd.prog 25 [c.enc, p.enc] M (fun v => v = ofTri (takeR c p)) := by
  obtain ⟨c_num, c_req, c_busy, c_key, ⟨c_op_client, c_op_req, c_op_kind, c_op_version, c_op_val⟩, c_tries⟩ := c
  obtain ⟨p_kind, p_epoch, p_key, ⟨p_op_client, p_op_req, p_op_kind, p_op_version, p_op_val⟩, ⟨p_answer_code, p_answer_version, p_answer_has, p_answer_val⟩, p_serial, ⟨p_cell_version, p_cell_has, p_cell_val, ⟨p_cell_marks_a, p_cell_marks_c, p_cell_marks_l⟩⟩⟩ := p
  have k_p_cell : CellV.ok M ⟨p_cell_version, p_cell_has, p_cell_val, ⟨p_cell_marks_a, p_cell_marks_c, p_cell_marks_l⟩⟩ := hp0.h0
  have s_p_cell_marks : SlM M p_cell_marks_a (p_cell_marks_l.map MarkV.segs) 6 := hp0.h0.h0
  have n_p_cell_marks : (p_cell_marks_l.map MarkV.segs).length = p_cell_marks_l.length := List.length_map ..
  have m_p_cell_marks : p_cell_marks_l.length ≤ 9223372036854775807 := hp0.h0.h1
  refine fs_enter Tryd.func25 rfl Tryd.ntmps25 rfl ?_; intro H
  refine C_seq ?_
  refine C_region (l := [0, 1, 2, 3, 4]) rfl ?_
  refine Y_box ?_; intro b1
  refine Y_box ?_; intro b2
  refine Y_alloc F.zero28 ?_; intro b3
  refine Y_alloc F.zero45 ?_; intro b4
  refine Y_assign ?_
  refine XD_end ?_
  refine K_then ?_
  refine Y_pk [6, 5, 4, 3, 2] ?_
  iterate 2 refine C_seq ?_
  refine C_region (l := [0, 1, 2, 3, 4, 5, 6, 7]) rfl ?_
  refine Y_load F.lay28 ?_
  refine X_fs rfl rfl F.ok18 rfl (rIs_ok _ ⟨_, _, _, _, ⟨_, _, _, _, _⟩, _⟩) rfl ?_
  rintro _ rfl
  refine Y_not ?_
  refine Y_move ?_
  refine XD_part 10 rfl (fun hc5 => ?_) (fun hc5 => ?_)
  ·replace hc5 := nT hc5
   iterate 3 refine Y_skip ?_
   refine Y_pick ?_
   refine XD_end ?_
   refine K_then ?_
   refine Y_pk [14, 6, 5, 4, 3, 2] ?_
   refine C_true rfl ?_
   refine C_seq ?_
   refine C_region (l := [0, 1, 2, 3, 4]) rfl ?_
   refine X_build rfl rfl F.bld28 (.nil) rfl rfl ?_
   refine X_build rfl rfl F.bld45 (.nil) rfl rfl ?_
   refine Y_store F.lay28 ?_
   refine Y_store F.lay45 ?_
   refine Y_assign ?_
   refine XD_end ?_
   refine K_then ?_
   refine Y_pk [6, 5, 4, 3, 2] ?_
   refine C_ret ?_
   refine K_ret ?_
   refine K_end (.inr rfl) (.cell rfl (by repeat first | exact List.Mem.head _ | refine List.Mem.tail _ ?_ | refine List.mem_append_right _ ?_) F.lay28 rfl rfl (.cell rfl (by repeat first | exact List.Mem.head _ | refine List.Mem.tail _ ?_ | refine List.mem_append_right _ ?_) F.lay45 rfl rfl (.tmp rfl .nil))) (fun w hw => ?_)
   refine ⟨_, rfl, (hw.c), ?_⟩
   clear hw
   refine congrArg ofTri (a₁ := (⟨_, _, _, _, ⟨_, _, _, _, _⟩, _⟩, ⟨_, ⟨_, _, _, _⟩⟩, _)) ?_
   grind [w64, takeR, endR, ClientV.zero, OutcomeV.zero]
  ·replace hc5 := nF hc5
   refine Y_load F.lay42 ?_
   refine X_fs rfl rfl F.ok56 rfl (rpIs_ok _ ⟨_, _, _, ⟨_, _, _, _, _⟩, ⟨_, _, _, _⟩, _, ⟨_, _, _, ⟨_, _, _⟩⟩⟩ (by assumption)) rfl ?_
   rintro _ rfl
   refine Y_not ?_
   refine Y_pick ?_
   refine XD_end ?_
   refine K_then ?_
   refine Y_pk [14, 6, 5, 4, 3, 2] ?_
   refine C_cond rfl (fun hc6 => ?_) (fun hc6 => ?_)
   ·replace hc6 := nT hc6
    refine C_seq ?_
    refine C_region (l := [0, 1, 2, 3, 4]) rfl ?_
    refine X_build rfl rfl F.bld28 (.nil) rfl rfl ?_
    refine X_build rfl rfl F.bld45 (.nil) rfl rfl ?_
    refine Y_store F.lay28 ?_
    refine Y_store F.lay45 ?_
    refine Y_assign ?_
    refine XD_end ?_
    refine K_then ?_
    refine Y_pk [6, 5, 4, 3, 2] ?_
    refine C_ret ?_
    refine K_ret ?_
    refine K_end (.inr rfl) (.cell rfl (by repeat first | exact List.Mem.head _ | refine List.Mem.tail _ ?_ | refine List.mem_append_right _ ?_) F.lay28 rfl rfl (.cell rfl (by repeat first | exact List.Mem.head _ | refine List.Mem.tail _ ?_ | refine List.mem_append_right _ ?_) F.lay45 rfl rfl (.tmp rfl .nil))) (fun w hw => ?_)
    refine ⟨_, rfl, (hw.c), ?_⟩
    clear hw
    refine congrArg ofTri (a₁ := (⟨_, _, _, _, ⟨_, _, _, _, _⟩, _⟩, ⟨_, ⟨_, _, _, _⟩⟩, _)) ?_
    grind [w64, takeR, endR, ClientV.zero, OutcomeV.zero]
   ·replace hc6 := nF hc6
    refine C_skip ?_
    refine K_then ?_
    refine Y_pk [6, 5, 4, 3, 2] ?_
    iterate 2 refine C_seq ?_
    refine C_region (l := [0, 1, 2, 3, 4, 5, 6, 7, 8, 9, 10, 11, 12, 13, 14, 15, 16, 17, 18, 19, 20, 21, 22, 23, 24, 25, 26, 27, 28, 29]) rfl ?_
    refine Y_fieldAddr F.foff28_2 ?_
    refine Y_load F.lay4 ?_
    refine Y_not ?_
    refine Y_move ?_
    refine XD_part 20 rfl (fun hc7 => ?_) (fun hc7 => ?_)
    ·skip
     iterate 3 refine Y_skip ?_
     refine Y_pick ?_
     refine Y_move ?_
     iterate 6 refine Y_skip ?_
     refine Y_pick ?_
     refine Y_move ?_
     iterate 6 refine Y_skip ?_
     refine Y_pick ?_
     refine Y_move ?_
     iterate 4 refine Y_skip ?_
     refine Y_pick ?_
     refine XD_end ?_
     refine K_then ?_
     refine Y_pk [46, 6, 5, 4, 3, 2] ?_
     refine C_true rfl ?_
     refine C_seq ?_
     refine C_region (l := [0, 1, 2, 3, 4]) rfl ?_
     refine Y_load F.lay28 ?_
     refine X_build rfl rfl F.bld45 (.nil) rfl rfl ?_
     refine Y_store F.lay28 ?_
     refine Y_store F.lay45 ?_
     refine Y_assign ?_
     refine XD_end ?_
     refine K_then ?_
     refine Y_pk [6, 5, 4, 3, 2] ?_
     refine C_ret ?_
     refine K_ret ?_
     refine K_end (.inr rfl) (.cell rfl (by repeat first | exact List.Mem.head _ | refine List.Mem.tail _ ?_ | refine List.mem_append_right _ ?_) F.lay28 rfl rfl (.cell rfl (by repeat first | exact List.Mem.head _ | refine List.Mem.tail _ ?_ | refine List.mem_append_right _ ?_) F.lay45 rfl rfl (.tmp rfl .nil))) (fun w hw => ?_)
     refine ⟨_, rfl, (hw.c), ?_⟩
     clear hw
     refine congrArg ofTri (a₁ := (⟨_, _, _, _, ⟨_, _, _, _, _⟩, _⟩, ⟨_, ⟨_, _, _, _⟩⟩, _)) ?_
     grind [w64, takeR, endR, ClientV.zero, OutcomeV.zero]
    ·skip
     refine Y_fieldAddr F.foff42_0 ?_
     refine Y_load F.lay3 ?_
     refine Y_cmp ?_
     refine Y_pick ?_
     refine Y_move ?_
     refine XD_part 25 rfl (fun hc8 => ?_) (fun hc8 => ?_)
     ·replace hc8 := nT hc8
      iterate 6 refine Y_skip ?_
      refine Y_pick ?_
      refine Y_move ?_
      iterate 6 refine Y_skip ?_
      refine Y_pick ?_
      refine Y_move ?_
      iterate 4 refine Y_skip ?_
      refine Y_pick ?_
      refine XD_end ?_
      refine K_then ?_
      refine Y_pk [46, 6, 5, 4, 3, 2] ?_
      refine C_true rfl ?_
      refine C_seq ?_
      refine C_region (l := [0, 1, 2, 3, 4]) rfl ?_
      refine Y_load F.lay28 ?_
      refine X_build rfl rfl F.bld45 (.nil) rfl rfl ?_
      refine Y_store F.lay28 ?_
      refine Y_store F.lay45 ?_
      refine Y_assign ?_
      refine XD_end ?_
      refine K_then ?_
      refine Y_pk [6, 5, 4, 3, 2] ?_
      refine C_ret ?_
      refine K_ret ?_
      refine K_end (.inr rfl) (.cell rfl (by repeat first | exact List.Mem.head _ | refine List.Mem.tail _ ?_ | refine List.mem_append_right _ ?_) F.lay28 rfl rfl (.cell rfl (by repeat first | exact List.Mem.head _ | refine List.Mem.tail _ ?_ | refine List.mem_append_right _ ?_) F.lay45 rfl rfl (.tmp rfl .nil))) (fun w hw => ?_)
      refine ⟨_, rfl, (hw.c), ?_⟩
      clear hw
      refine congrArg ofTri (a₁ := (⟨_, _, _, _, ⟨_, _, _, _, _⟩, _⟩, ⟨_, ⟨_, _, _, _⟩⟩, _)) ?_
      grind [w64, takeR, endR, ClientV.zero, OutcomeV.zero]
     ·replace hc8 := nF hc8
      refine Y_fieldAddr F.foff42_3 ?_
      refine Y_fieldAddr F.foff26_0 ?_
      refine Y_load F.lay3 ?_
      refine Y_fieldAddr F.foff28_0 ?_
      refine Y_load F.lay3 ?_
      refine Y_cmp ?_
      refine Y_pick ?_
      refine Y_move ?_
      refine XD_part 33 rfl (fun hc9 => ?_) (fun hc9 => ?_)
      ·replace hc9 := nT hc9
       iterate 6 refine Y_skip ?_
       refine Y_pick ?_
       refine Y_move ?_
       iterate 4 refine Y_skip ?_
       refine Y_pick ?_
       refine XD_end ?_
       refine K_then ?_
       refine Y_pk [46, 6, 5, 4, 3, 2] ?_
       refine C_true rfl ?_
       refine C_seq ?_
       refine C_region (l := [0, 1, 2, 3, 4]) rfl ?_
       refine Y_load F.lay28 ?_
       refine X_build rfl rfl F.bld45 (.nil) rfl rfl ?_
       refine Y_store F.lay28 ?_
       refine Y_store F.lay45 ?_
       refine Y_assign ?_
       refine XD_end ?_
       refine K_then ?_
       refine Y_pk [6, 5, 4, 3, 2] ?_
       refine C_ret ?_
       refine K_ret ?_
       refine K_end (.inr rfl) (.cell rfl (by repeat first | exact List.Mem.head _ | refine List.Mem.tail _ ?_ | refine List.mem_append_right _ ?_) F.lay28 rfl rfl (.cell rfl (by repeat first | exact List.Mem.head _ | refine List.Mem.tail _ ?_ | refine List.mem_append_right _ ?_) F.lay45 rfl rfl (.tmp rfl .nil))) (fun w hw => ?_)
       refine ⟨_, rfl, (hw.c), ?_⟩
       clear hw
       refine congrArg ofTri (a₁ := (⟨_, _, _, _, ⟨_, _, _, _, _⟩, _⟩, ⟨_, ⟨_, _, _, _⟩⟩, _)) ?_
       grind [w64, takeR, endR, ClientV.zero, OutcomeV.zero]
      ·replace hc9 := nF hc9
       refine Y_fieldAddr F.foff42_3 ?_
       refine Y_fieldAddr F.foff26_1 ?_
       refine Y_load F.lay22 ?_
       refine Y_fieldAddr F.foff28_1 ?_
       refine Y_load F.lay22 ?_
       refine Y_cmp ?_
       refine Y_pick ?_
       refine Y_move ?_
       refine XD_part 41 rfl (fun hc10 => ?_) (fun hc10 => ?_)
       ·replace hc10 := nT hc10
        iterate 4 refine Y_skip ?_
        refine Y_pick ?_
        refine XD_end ?_
        refine K_then ?_
        refine Y_pk [46, 6, 5, 4, 3, 2] ?_
        refine C_true rfl ?_
        refine C_seq ?_
        refine C_region (l := [0, 1, 2, 3, 4]) rfl ?_
        refine Y_load F.lay28 ?_
        refine X_build rfl rfl F.bld45 (.nil) rfl rfl ?_
        refine Y_store F.lay28 ?_
        refine Y_store F.lay45 ?_
        refine Y_assign ?_
        refine XD_end ?_
        refine K_then ?_
        refine Y_pk [6, 5, 4, 3, 2] ?_
        refine C_ret ?_
        refine K_ret ?_
        refine K_end (.inr rfl) (.cell rfl (by repeat first | exact List.Mem.head _ | refine List.Mem.tail _ ?_ | refine List.mem_append_right _ ?_) F.lay28 rfl rfl (.cell rfl (by repeat first | exact List.Mem.head _ | refine List.Mem.tail _ ?_ | refine List.mem_append_right _ ?_) F.lay45 rfl rfl (.tmp rfl .nil))) (fun w hw => ?_)
        refine ⟨_, rfl, (hw.c), ?_⟩
        clear hw
        refine congrArg ofTri (a₁ := (⟨_, _, _, _, ⟨_, _, _, _, _⟩, _⟩, ⟨_, ⟨_, _, _, _⟩⟩, _)) ?_
        grind [w64, takeR, endR, ClientV.zero, OutcomeV.zero]
       ·replace hc10 := nF hc10
        refine Y_fieldAddr F.foff42_4 ?_
        refine Y_fieldAddr F.foff37_0 ?_
        refine Y_load F.lay29 ?_
        refine Y_cmp ?_
        refine Y_pick ?_
        refine XD_end ?_
        refine K_then ?_
        refine Y_pk [46, 6, 5, 4, 3, 2] ?_
        refine C_cond rfl (fun hc11 => ?_) (fun hc11 => ?_)
        ·replace hc11 := dT hc11
         refine C_seq ?_
         refine C_region (l := [0, 1, 2, 3, 4]) rfl ?_
         refine Y_load F.lay28 ?_
         refine X_build rfl rfl F.bld45 (.nil) rfl rfl ?_
         refine Y_store F.lay28 ?_
         refine Y_store F.lay45 ?_
         refine Y_assign ?_
         refine XD_end ?_
         refine K_then ?_
         refine Y_pk [6, 5, 4, 3, 2] ?_
         refine C_ret ?_
         refine K_ret ?_
         refine K_end (.inr rfl) (.cell rfl (by repeat first | exact List.Mem.head _ | refine List.Mem.tail _ ?_ | refine List.mem_append_right _ ?_) F.lay28 rfl rfl (.cell rfl (by repeat first | exact List.Mem.head _ | refine List.Mem.tail _ ?_ | refine List.mem_append_right _ ?_) F.lay45 rfl rfl (.tmp rfl .nil))) (fun w hw => ?_)
         refine ⟨_, rfl, (hw.c), ?_⟩
         clear hw
         refine congrArg ofTri (a₁ := (⟨_, _, _, _, ⟨_, _, _, _, _⟩, _⟩, ⟨_, ⟨_, _, _, _⟩⟩, _)) ?_
         grind [w64, takeR, endR, ClientV.zero, OutcomeV.zero]
        ·replace hc11 := dF hc11
         refine C_skip ?_
         refine K_then ?_
         refine Y_pk [6, 5, 4, 3, 2] ?_
         refine C_seq ?_
         refine C_region (l := [0, 1]) rfl ?_
         refine Y_fieldAddr F.foff28_2 ?_
         refine Y_store F.lay4 ?_
         refine XD_end ?_
         refine K_then ?_
         refine Y_pk [6, 5, 4, 3, 2] ?_
         refine C_seq ?_
         refine C_region_anyWR2 (l := [0, 1, 2, 3, 4, 5, 6]) (Hin := [(b3, _)]) (Hin2 := [(b4, _)]) [4, 5] #[0, 0, 2, 6, 1, 31, 63] (by repeat first | exact Rem.here _ | exact Rem.two | apply Rem.skip | apply Rem.over) (by repeat first | exact Rem.here _ | exact Rem.two | apply Rem.skip | apply Rem.over) rfl (by kernel_rfl) (by kernel_rfl) ?_
         refine Y_load F.lay28 ?_
         refine Y_fieldAddr F.foff42_4 ?_
         refine Y_load F.lay37 ?_
         refine X_build rfl rfl F.bld45 (.cons rfl (by constructor) (.cons rfl (by constructor) .nil)) rfl rfl ?_
         refine X_storeE rfl rfl rfl rfl rfl (by constructor) (by ((try simp only [cat, List.cons_append, List.nil_append, List.append_nil]); (repeat (first | exact flat_nil | refine flat_id ?_ | (refine flat_one ?_ ?_; rfl))); done)) (by repeat first | exact Upd.head | apply Upd.tail | apply Upd.over) F.lay28 rfl rfl (fun _ h => h.c) ?_
         refine X_storeE rfl rfl rfl rfl rfl (by constructor) (by ((try simp only [cat, List.cons_append, List.nil_append, List.append_nil]); (repeat (first | exact flat_nil | refine flat_id ?_ | (refine flat_one ?_ ?_; rfl))); done)) (by repeat first | exact Upd.head | apply Upd.tail | apply Upd.over) F.lay45 rfl rfl (fun _ h => h.c) ?_
         refine Y_assign ?_
         refine XD_end ?_
         refine K_unw ?_
         refine K_then ?_
         refine Y_pk [6, 5, 4] ?_
         refine C_ret ?_
         refine K_end (.inr rfl) (.cell rfl (by repeat first | exact List.Mem.head _ | refine List.Mem.tail _ ?_ | refine List.mem_append_right _ ?_) F.lay28 rfl rfl (.cell rfl (by repeat first | exact List.Mem.head _ | refine List.Mem.tail _ ?_ | refine List.mem_append_right _ ?_) F.lay45 rfl rfl (.tmp rfl .nil))) (fun w hw => ?_)
         refine ⟨_, rfl, (hw.c), ?_⟩
         clear hw
         refine congrArg ofTri (a₁ := (⟨_, _, _, _, ⟨_, _, _, _, _⟩, _⟩, ⟨_, ⟨_, _, _, _⟩⟩, _)) ?_
         grind [w64, takeR, endR, ClientV.zero, OutcomeV.zero]

theorem Take_ok (M : Mem) (c : ClientV) (p : ParcelV) (hp0 : ParcelV.ok M p) : Fs Tryd.prog 20 [c.enc, p.enc] M (fun v => v = ofTri (takeR c p)) := by
  obtain ⟨c_num, c_req, c_busy, c_key, ⟨c_op_client, c_op_req, c_op_kind, c_op_version, c_op_val⟩, c_tries⟩ := c
  obtain ⟨p_kind, p_epoch, p_key, ⟨p_op_client, p_op_req, p_op_kind, p_op_version, p_op_val⟩, ⟨p_answer_code, p_answer_version, p_answer_has, p_answer_val⟩, p_serial, ⟨p_cell_version, p_cell_has, p_cell_val, ⟨p_cell_marks_a, p_cell_marks_c, p_cell_marks_l⟩⟩⟩ := p
  have k_p_cell : CellV.ok M ⟨p_cell_version, p_cell_has, p_cell_val, ⟨p_cell_marks_a, p_cell_marks_c, p_cell_marks_l⟩⟩ := hp0.h0
  have s_p_cell_marks : SlM M p_cell_marks_a (p_cell_marks_l.map MarkV.segs) 6 := hp0.h0.h0
  have n_p_cell_marks : (p_cell_marks_l.map MarkV.segs).length = p_cell_marks_l.length := List.length_map ..
  have m_p_cell_marks : p_cell_marks_l.length ≤ 9223372036854775807 := hp0.h0.h1
  refine fs_enter Tryd.func20 rfl Tryd.ntmps20 rfl ?_; intro H
  refine C_seq ?_
  refine C_region (l := [0, 1, 2, 3, 4]) rfl ?_
  refine Y_box ?_; intro b1
  refine Y_box ?_; intro b2
  refine Y_alloc F.zero28 ?_; intro b3
  refine Y_alloc F.zero45 ?_; intro b4
  refine Y_assign ?_
  refine XD_end ?_
  refine K_then ?_
  refine Y_pk [6, 5, 4, 3, 2] ?_
  iterate 2 refine C_seq ?_
  refine C_region (l := [0, 1, 2, 3, 4, 5, 6, 7]) rfl ?_
  refine Y_load F.lay28 ?_
  refine X_fs rfl rfl F.ok17 rfl (Is_ok _ ⟨_, _, _, _, ⟨_, _, _, _, _⟩, _⟩) rfl ?_
  rintro _ rfl
  refine Y_not ?_
  refine Y_move ?_
  refine XD_part 11 rfl (fun hc5 => ?_) (fun hc5 => ?_)
  ·replace hc5 := nT hc5
   iterate 3 refine Y_skip ?_
   refine Y_pick ?_
   refine XD_end ?_
   refine K_then ?_
   refine Y_pk [15, 6, 5, 4, 3, 2] ?_
   refine C_true rfl ?_
   refine C_seq ?_
   refine C_region (l := [0, 1, 2, 3, 4]) rfl ?_
   refine X_build rfl rfl F.bld28 (.nil) rfl rfl ?_
   refine X_build rfl rfl F.bld45 (.nil) rfl rfl ?_
   refine Y_store F.lay28 ?_
   refine Y_store F.lay45 ?_
   refine Y_assign ?_
   refine XD_end ?_
   refine K_then ?_
   refine Y_pk [6, 5, 4, 3, 2] ?_
   refine C_ret ?_
   refine K_ret ?_
   refine K_end (.inr rfl) (.cell rfl (by repeat first | exact List.Mem.head _ | refine List.Mem.tail _ ?_ | refine List.mem_append_right _ ?_) F.lay28 rfl rfl (.cell rfl (by repeat first | exact List.Mem.head _ | refine List.Mem.tail _ ?_ | refine List.mem_append_right _ ?_) F.lay45 rfl rfl (.tmp rfl .nil))) (fun w hw => ?_)
   refine ⟨_, rfl, (hw.c), ?_⟩
   clear hw
   refine congrArg ofTri (a₁ := (⟨_, _, _, _, ⟨_, _, _, _, _⟩, _⟩, ⟨_, ⟨_, _, _, _⟩⟩, _)) ?_
   have hwho := @who_op ⟨p_kind, p_epoch, p_key, ⟨p_op_client, p_op_req, p_op_kind, p_op_version, p_op_val⟩, ⟨p_answer_code, p_answer_version, p_answer_has, p_answer_val⟩, p_serial, ⟨p_cell_version, p_cell_has, p_cell_val, ⟨p_cell_marks_a, p_cell_marks_c, p_cell_marks_l⟩⟩⟩
   grind [takeR, endR, ClientV.zero, OutcomeV.zero]
  ·replace hc5 := nF hc5
   refine Y_load F.lay42 ?_
   refine X_fs rfl rfl F.ok28 rfl (pIs_ok _ ⟨_, _, _, ⟨_, _, _, _, _⟩, ⟨_, _, _, _⟩, _, ⟨_, _, _, ⟨_, _, _⟩⟩⟩ (by assumption)) rfl ?_
   rintro _ rfl
   refine Y_not ?_
   refine Y_pick ?_
   refine XD_end ?_
   refine K_then ?_
   refine Y_pk [15, 6, 5, 4, 3, 2] ?_
   refine C_cond rfl (fun hc6 => ?_) (fun hc6 => ?_)
   ·replace hc6 := nT hc6
    refine C_seq ?_
    refine C_region (l := [0, 1, 2, 3, 4]) rfl ?_
    refine X_build rfl rfl F.bld28 (.nil) rfl rfl ?_
    refine X_build rfl rfl F.bld45 (.nil) rfl rfl ?_
    refine Y_store F.lay28 ?_
    refine Y_store F.lay45 ?_
    refine Y_assign ?_
    refine XD_end ?_
    refine K_then ?_
    refine Y_pk [6, 5, 4, 3, 2] ?_
    refine C_ret ?_
    refine K_ret ?_
    refine K_end (.inr rfl) (.cell rfl (by repeat first | exact List.Mem.head _ | refine List.Mem.tail _ ?_ | refine List.mem_append_right _ ?_) F.lay28 rfl rfl (.cell rfl (by repeat first | exact List.Mem.head _ | refine List.Mem.tail _ ?_ | refine List.mem_append_right _ ?_) F.lay45 rfl rfl (.tmp rfl .nil))) (fun w hw => ?_)
    refine ⟨_, rfl, (hw.c), ?_⟩
    clear hw
    refine congrArg ofTri (a₁ := (⟨_, _, _, _, ⟨_, _, _, _, _⟩, _⟩, ⟨_, ⟨_, _, _, _⟩⟩, _)) ?_
    have hwho := @who_op ⟨p_kind, p_epoch, p_key, ⟨p_op_client, p_op_req, p_op_kind, p_op_version, p_op_val⟩, ⟨p_answer_code, p_answer_version, p_answer_has, p_answer_val⟩, p_serial, ⟨p_cell_version, p_cell_has, p_cell_val, ⟨p_cell_marks_a, p_cell_marks_c, p_cell_marks_l⟩⟩⟩
    grind [takeR, endR, ClientV.zero, OutcomeV.zero]
   ·replace hc6 := nF hc6
    refine C_skip ?_
    refine K_then ?_
    refine Y_pk [6, 5, 4, 3, 2] ?_
    refine C_seq ?_
    refine C_region (l := [0, 1, 2, 3, 4, 5, 6, 7, 8]) rfl ?_
    refine Y_fieldAddr F.foff42_3 ?_
    refine Y_load F.lay26 ?_
    refine Y_fieldAddr F.foff28_0 ?_
    refine Y_load F.lay3 ?_
    refine Y_fieldAddr F.foff28_1 ?_
    refine Y_load F.lay22 ?_
    refine X_build rfl rfl F.bld26 (.cons rfl (by constructor) (.cons rfl (by constructor) .nil)) rfl rfl ?_
    refine X_same (m := 20) rfl rfl rfl rfl rfl (by constructor) (by constructor) F.lay26 F.kinds26 rfl F.guard26 (by exact FitOpV (⟨_, _, _, _, _⟩)) (by exact FitOpV (⟨_, _, _, _, _⟩)) rfl rfl rfl ?_; intro c7 he8
    replace he8 : c7 = true ↔ Segs.cells _ = Segs.cells _ := he8
    obtain rfl := eqD he8 (OpV.inj (x := ⟨_, _, _, _, _⟩) (y := ⟨_, _, _, _, _⟩)); clear he8
    refine Y_assign ?_
    refine XD_end ?_
    refine K_then ?_
    refine Y_pk [7, 6, 5, 4, 3, 2] ?_
    iterate 2 refine C_seq ?_
    refine C_region (l := [0, 1, 2, 3, 4, 5, 6, 7, 8, 9, 10, 11, 12, 13, 14, 15, 16, 17]) rfl ?_
    refine Y_fieldAddr F.foff28_2 ?_
    refine Y_load F.lay4 ?_
    refine Y_not ?_
    refine Y_move ?_
    refine XD_part 29 rfl (fun hc9 => ?_) (fun hc9 => ?_)
    ·skip
     iterate 3 refine Y_skip ?_
     refine Y_pick ?_
     refine Y_move ?_
     iterate 2 refine Y_skip ?_
     refine Y_pick ?_
     refine Y_move ?_
     iterate 4 refine Y_skip ?_
     refine Y_pick ?_
     refine XD_end ?_
     refine K_then ?_
     refine Y_pk [43, 6, 5, 4, 3, 2] ?_
     refine C_true rfl ?_
     refine C_seq ?_
     refine C_region (l := [0, 1, 2, 3, 4]) rfl ?_
     refine Y_load F.lay28 ?_
     refine X_build rfl rfl F.bld45 (.nil) rfl rfl ?_
     refine Y_store F.lay28 ?_
     refine Y_store F.lay45 ?_
     refine Y_assign ?_
     refine XD_end ?_
     refine K_then ?_
     refine Y_pk [6, 5, 4, 3, 2] ?_
     refine C_ret ?_
     refine K_ret ?_
     refine K_end (.inr rfl) (.cell rfl (by repeat first | exact List.Mem.head _ | refine List.Mem.tail _ ?_ | refine List.mem_append_right _ ?_) F.lay28 rfl rfl (.cell rfl (by repeat first | exact List.Mem.head _ | refine List.Mem.tail _ ?_ | refine List.mem_append_right _ ?_) F.lay45 rfl rfl (.tmp rfl .nil))) (fun w hw => ?_)
     refine ⟨_, rfl, (hw.c), ?_⟩
     clear hw
     refine congrArg ofTri (a₁ := (⟨_, _, _, _, ⟨_, _, _, _, _⟩, _⟩, ⟨_, ⟨_, _, _, _⟩⟩, _)) ?_
     have hwho := @who_op ⟨p_kind, p_epoch, p_key, ⟨p_op_client, p_op_req, p_op_kind, p_op_version, p_op_val⟩, ⟨p_answer_code, p_answer_version, p_answer_has, p_answer_val⟩, p_serial, ⟨p_cell_version, p_cell_has, p_cell_val, ⟨p_cell_marks_a, p_cell_marks_c, p_cell_marks_l⟩⟩⟩
     grind [takeR, endR, ClientV.zero, OutcomeV.zero]
    ·skip
     refine Y_fieldAddr F.foff42_0 ?_
     refine Y_load F.lay3 ?_
     refine Y_cmp ?_
     refine Y_pick ?_
     refine Y_move ?_
     refine XD_part 34 rfl (fun hc10 => ?_) (fun hc10 => ?_)
     ·replace hc10 := nT hc10
      iterate 2 refine Y_skip ?_
      refine Y_pick ?_
      refine Y_move ?_
      iterate 4 refine Y_skip ?_
      refine Y_pick ?_
      refine XD_end ?_
      refine K_then ?_
      refine Y_pk [43, 6, 5, 4, 3, 2] ?_
      refine C_true rfl ?_
      refine C_seq ?_
      refine C_region (l := [0, 1, 2, 3, 4]) rfl ?_
      refine Y_load F.lay28 ?_
      refine X_build rfl rfl F.bld45 (.nil) rfl rfl ?_
      refine Y_store F.lay28 ?_
      refine Y_store F.lay45 ?_
      refine Y_assign ?_
      refine XD_end ?_
      refine K_then ?_
      refine Y_pk [6, 5, 4, 3, 2] ?_
      refine C_ret ?_
      refine K_ret ?_
      refine K_end (.inr rfl) (.cell rfl (by repeat first | exact List.Mem.head _ | refine List.Mem.tail _ ?_ | refine List.mem_append_right _ ?_) F.lay28 rfl rfl (.cell rfl (by repeat first | exact List.Mem.head _ | refine List.Mem.tail _ ?_ | refine List.mem_append_right _ ?_) F.lay45 rfl rfl (.tmp rfl .nil))) (fun w hw => ?_)
      refine ⟨_, rfl, (hw.c), ?_⟩
      clear hw
      refine congrArg ofTri (a₁ := (⟨_, _, _, _, ⟨_, _, _, _, _⟩, _⟩, ⟨_, ⟨_, _, _, _⟩⟩, _)) ?_
      have hwho := @who_op ⟨p_kind, p_epoch, p_key, ⟨p_op_client, p_op_req, p_op_kind, p_op_version, p_op_val⟩, ⟨p_answer_code, p_answer_version, p_answer_has, p_answer_val⟩, p_serial, ⟨p_cell_version, p_cell_has, p_cell_val, ⟨p_cell_marks_a, p_cell_marks_c, p_cell_marks_l⟩⟩⟩
      grind [takeR, endR, ClientV.zero, OutcomeV.zero]
     ·replace hc10 := nF hc10
      refine Y_move ?_
      refine Y_not ?_
      refine Y_pick ?_
      refine Y_move ?_
      refine XD_part 38 rfl (fun hc11 => ?_) (fun hc11 => ?_)
      ·replace hc11 := nT hc11
       iterate 4 refine Y_skip ?_
       refine Y_pick ?_
       refine XD_end ?_
       refine K_then ?_
       refine Y_pk [43, 6, 5, 4, 3, 2] ?_
       refine C_true rfl ?_
       refine C_seq ?_
       refine C_region (l := [0, 1, 2, 3, 4]) rfl ?_
       refine Y_load F.lay28 ?_
       refine X_build rfl rfl F.bld45 (.nil) rfl rfl ?_
       refine Y_store F.lay28 ?_
       refine Y_store F.lay45 ?_
       refine Y_assign ?_
       refine XD_end ?_
       refine K_then ?_
       refine Y_pk [6, 5, 4, 3, 2] ?_
       refine C_ret ?_
       refine K_ret ?_
       refine K_end (.inr rfl) (.cell rfl (by repeat first | exact List.Mem.head _ | refine List.Mem.tail _ ?_ | refine List.mem_append_right _ ?_) F.lay28 rfl rfl (.cell rfl (by repeat first | exact List.Mem.head _ | refine List.Mem.tail _ ?_ | refine List.mem_append_right _ ?_) F.lay45 rfl rfl (.tmp rfl .nil))) (fun w hw => ?_)
       refine ⟨_, rfl, (hw.c), ?_⟩
       clear hw
       refine congrArg ofTri (a₁ := (⟨_, _, _, _, ⟨_, _, _, _, _⟩, _⟩, ⟨_, ⟨_, _, _, _⟩⟩, _)) ?_
       have hwho := @who_op ⟨p_kind, p_epoch, p_key, ⟨p_op_client, p_op_req, p_op_kind, p_op_version, p_op_val⟩, ⟨p_answer_code, p_answer_version, p_answer_has, p_answer_val⟩, p_serial, ⟨p_cell_version, p_cell_has, p_cell_val, ⟨p_cell_marks_a, p_cell_marks_c, p_cell_marks_l⟩⟩⟩
       grind [takeR, endR, ClientV.zero, OutcomeV.zero]
      ·replace hc11 := nF hc11
       refine Y_fieldAddr F.foff42_4 ?_
       refine Y_fieldAddr F.foff37_0 ?_
       refine Y_load F.lay29 ?_
       refine Y_cmp ?_
       refine Y_pick ?_
       refine XD_end ?_
       refine K_then ?_
       refine Y_pk [43, 6, 5, 4, 3, 2] ?_
       refine C_cond rfl (fun hc12 => ?_) (fun hc12 => ?_)
       ·replace hc12 := dT hc12
        refine C_seq ?_
        refine C_region (l := [0, 1, 2, 3, 4]) rfl ?_
        refine Y_load F.lay28 ?_
        refine X_build rfl rfl F.bld45 (.nil) rfl rfl ?_
        refine Y_store F.lay28 ?_
        refine Y_store F.lay45 ?_
        refine Y_assign ?_
        refine XD_end ?_
        refine K_then ?_
        refine Y_pk [6, 5, 4, 3, 2] ?_
        refine C_ret ?_
        refine K_ret ?_
        refine K_end (.inr rfl) (.cell rfl (by repeat first | exact List.Mem.head _ | refine List.Mem.tail _ ?_ | refine List.mem_append_right _ ?_) F.lay28 rfl rfl (.cell rfl (by repeat first | exact List.Mem.head _ | refine List.Mem.tail _ ?_ | refine List.mem_append_right _ ?_) F.lay45 rfl rfl (.tmp rfl .nil))) (fun w hw => ?_)
        refine ⟨_, rfl, (hw.c), ?_⟩
        clear hw
        refine congrArg ofTri (a₁ := (⟨_, _, _, _, ⟨_, _, _, _, _⟩, _⟩, ⟨_, ⟨_, _, _, _⟩⟩, _)) ?_
        have hwho := @who_op ⟨p_kind, p_epoch, p_key, ⟨p_op_client, p_op_req, p_op_kind, p_op_version, p_op_val⟩, ⟨p_answer_code, p_answer_version, p_answer_has, p_answer_val⟩, p_serial, ⟨p_cell_version, p_cell_has, p_cell_val, ⟨p_cell_marks_a, p_cell_marks_c, p_cell_marks_l⟩⟩⟩
        grind [takeR, endR, ClientV.zero, OutcomeV.zero]
       ·replace hc12 := dF hc12
        refine C_skip ?_
        refine K_then ?_
        refine Y_pk [6, 5, 4, 3, 2] ?_
        refine C_seq ?_
        refine C_region (l := [0, 1, 2, 3, 4, 5, 6, 7, 8, 9]) rfl ?_
        refine Y_load F.lay28 ?_
        refine Y_fieldAddr F.foff42_4 ?_
        refine Y_load F.lay37 ?_
        refine X_fs rfl rfl F.ok51 rfl (end_ok _ ⟨_, _, _, _, ⟨_, _, _, _, _⟩, _⟩ ⟨_, _, _, _⟩) rfl ?_
        rintro _ rfl
        iterate 3 refine Y_extract ?_
        refine Y_store F.lay28 ?_
        refine Y_store F.lay45 ?_
        refine Y_assign ?_
        refine XD_end ?_
        refine K_then ?_
        refine Y_pk [6, 5, 4] ?_
        refine C_ret ?_
        refine K_end (.inr rfl) (.cell rfl (by repeat first | exact List.Mem.head _ | refine List.Mem.tail _ ?_ | refine List.mem_append_right _ ?_) F.lay28 rfl rfl (.cell rfl (by repeat first | exact List.Mem.head _ | refine List.Mem.tail _ ?_ | refine List.mem_append_right _ ?_) F.lay45 rfl rfl (.tmp rfl .nil))) (fun w hw => ?_)
        refine ⟨_, rfl, (hw.c), ?_⟩
        clear hw
        refine congrArg ofTri (a₁ := (⟨_, _, _, _, ⟨_, _, _, _, _⟩, _⟩, ⟨_, ⟨_, _, _, _⟩⟩, _)) ?_
        have hwho := @who_op ⟨p_kind, p_epoch, p_key, ⟨p_op_client, p_op_req, p_op_kind, p_op_version, p_op_val⟩, ⟨p_answer_code, p_answer_version, p_answer_has, p_answer_val⟩, p_serial, ⟨p_cell_version, p_cell_has, p_cell_val, ⟨p_cell_marks_a, p_cell_marks_c, p_cell_marks_l⟩⟩⟩
        grind [takeR, endR, ClientV.zero, OutcomeV.zero]

end Go.Proofs.YtelpkhhfjfbkcaaDoor
