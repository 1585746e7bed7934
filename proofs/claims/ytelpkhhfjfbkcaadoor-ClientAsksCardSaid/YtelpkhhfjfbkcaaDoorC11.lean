/-
  Small places, large parcels, posts.
-/
import Derived.Test.YtelpkhhfjfbkcaaDoorC10
set_option linter.unusedSimpArgs false
set_option linter.unusedVariables false
set_option linter.unnecessarySimpa false
set_option maxRecDepth 8000
namespace Go.Proofs.YtelpkhhfjfbkcaaDoor
open Go.Esp
theorem F.elem52 : slOf Tryd.prog 52 = some (60, 37, 200) := by kernel_rfl
theorem F.foff60_0 : foff Tryd.prog 60 0 = some 0 := by kernel_rfl
theorem F.foff60_1 : foff Tryd.prog 60 1 = some 1 := by kernel_rfl
theorem F.ok50 : okFn Tryd.prog 50 = true := by kernel_rfl
theorem F.ok57 : okFn Tryd.prog 57 = true := by kernel_rfl

theorem Small_ok (M : Mem) (n : Int) (hn : 0 ≤ n ∧ n ≤ 1000000) : Fs Tryd.prog 49 [.int .i64 n] M (fun v => v = (fun x => aggV [idSeg x]) (smallP n)) := by
  refine fs_enter Tryd.func49 rfl Tryd.ntmps49 rfl ?_; intro H
  refine C_seq ?_
  refine C_region (l := [0]) rfl ?_
  refine Y_alloc F.zero24 ?_; intro b1
  refine XD_end ?_
  refine K_then ?_
  refine C_seq ?_
  refine C_region (l := [0]) rfl ?_
  refine Y_alloc F.zero24 ?_; intro b2
  refine XD_end ?_
  refine K_then ?_
  refine C_seq ?_
  refine C_region (l := [0, 1, 2, 3, 4]) rfl ?_
  refine Y_move ?_
  refine X_rem rfl rfl rfl rfl (by decide) (by exact rem_nn (by omega)) rfl ?_
  refine X_conv rfl rfl rfl Tryd.underlying3 Tryd.underlying5 (by exact wrap_u8_in (by decide) (by omega)) rfl ?_
  refine X_indexAddr_arr rfl rfl rfl rfl F.arr24 (by rfl) (by decide) rfl ?_
  refine X_store_cell rfl rfl rfl rfl rfl rfl (by repeat first | exact Upd.head | apply Upd.tail | apply Upd.over) F.lay5 (arr_len (by decide)) (arr_set (by decide)) ?_
  refine XD_end ?_
  refine K_then ?_
  refine Y_pk [3, 2, 0] ?_
  refine C_seq ?_
  refine C_region (l := [0, 1, 2, 3, 4, 5]) rfl ?_
  refine Y_move ?_
  refine X_quo rfl rfl rfl rfl (by decide) (by exact quo_in rfl (by omega) (by omega) (by omega)) rfl ?_
  refine X_rem rfl rfl rfl rfl (by decide) (by exact rem_nn (by omega)) rfl ?_
  refine X_conv rfl rfl rfl Tryd.underlying3 Tryd.underlying5 (by exact wrap_u8_in (by decide) (by omega)) rfl ?_
  refine X_indexAddr_arr rfl rfl rfl rfl F.arr24 (by rfl) (by decide) rfl ?_
  refine X_store_cell rfl rfl rfl rfl rfl rfl (by repeat first | exact Upd.head | apply Upd.tail | apply Upd.over) F.lay5 (arr_len (by decide)) (arr_set (by decide)) ?_
  refine XD_end ?_
  refine K_then ?_
  refine Y_pk [3, 2] ?_
  refine C_seq ?_
  refine C_region (l := [0, 1]) rfl ?_
  refine Y_load F.lay24 ?_
  refine XD_is 13 rfl (show aggV [.arr 20 _] = aggV [idSeg (smallP n)] from by unfold idSeg; rw [small_seg]) ?_
  refine Y_store F.lay24 ?_
  refine XD_end ?_
  refine K_then ?_
  refine Y_pk [2] ?_
  refine C_ret ?_
  refine K_end (.inr rfl) (.cell rfl (by repeat first | exact List.Mem.head _ | refine List.Mem.tail _ ?_ | refine List.mem_append_right _ ?_) F.lay24 rfl rfl .nil) (fun w hw => ?_)
  refine ⟨_, rfl, (hw.c), ?_⟩
  clear hw
  rfl

theorem Big17_ok (M : Mem) (x : CellV) (hx0 : CellV.ok M x) : Fs Tryd.prog 50 [x.enc] M (fun v => ∃ b, v = .bool b) := by
  obtain ⟨x_version, x_has, x_val, ⟨x_marks_a, x_marks_c, x_marks_l⟩⟩ := x
  have s_x_marks : SlM M x_marks_a (x_marks_l.map MarkV.segs) 6 := hx0.h0
  have n_x_marks : (x_marks_l.map MarkV.segs).length = x_marks_l.length := List.length_map ..
  have m_x_marks : x_marks_l.length ≤ 9223372036854775807 := hx0.h1
  refine fs_enter Tryd.func50 rfl Tryd.ntmps50 rfl ?_; intro H
  refine C_seq ?_
  refine C_region (l := [0, 1]) rfl ?_
  refine Y_box ?_; intro b1
  refine Y_assign ?_
  refine XD_end ?_
  refine K_then ?_
  refine Y_pk [2, 1] ?_
  refine C_seq ?_
  refine C_region (l := [0, 1, 2, 3]) rfl ?_
  refine Y_fieldAddr F.foff40_2 ?_
  refine Y_load F.lay9 ?_
  refine Y_len_str Tryd.underlying9 ?_
  refine Y_assign ?_
  refine XD_end ?_
  refine K_then ?_
  refine Y_pk [3, 2, 1] ?_
  iterate 2 refine C_seq ?_
  refine C_region (l := [0]) rfl ?_
  refine Y_assign ?_
  refine XD_end ?_
  refine K_then ?_
  refine C_block ?_
  refine Y_pk [4, 3, 2, 1] ?_
  refine C_loopS (.succ (.succ .zero)) (fun (k : Nat) z => ∃ (q : Int), z = [(4, .int .i64 (k : Int)), (3, .int .i64 q)] ∧ k ≤ x_marks_l.length ∧ (True)) (fun k => x_marks_l.length - k) (0) (⟨_, rfl, by omega, by trivial⟩) ?_
  rintro k _ ⟨q, rfl, hk, hI⟩
  iterate 2 refine C_seq ?_
  refine C_region (l := [0, 1, 2, 3, 4, 5, 6, 7, 8, 9, 10]) rfl ?_
  refine Y_move ?_
  refine Y_fieldAddr F.foff40_3 ?_
  refine Y_load F.lay38 ?_
  refine Y_len_sl F.elem38 ?_
  refine Y_cmp ?_
  refine Y_move ?_
  refine XD_part 13 rfl (fun hc2 => ?_) (fun hc2 => ?_)
  ·replace hc2 := dT hc2
   refine Y_fieldAddr F.foff40_3 ?_
   refine Y_load F.lay38 ?_
   refine Y_len_sl F.elem38 ?_
   refine Y_cmp ?_
   refine Y_pick ?_
   refine XD_end ?_
   refine K_then ?_
   refine C_cond rfl (fun hc3 => ?_) (fun hc3 => ?_)
   ·replace hc3 := dT hc3
    refine C_skip ?_
    refine K_then ?_
    refine C_seq ?_
    refine C_block ?_
    refine C_region (l := [0, 1, 2, 3, 4, 5, 6, 7, 8, 9, 10]) rfl ?_
    refine Y_move ?_
    refine Y_fieldAddr F.foff40_3 ?_
    refine Y_load F.lay38 ?_
    refine Y_move ?_
    refine X_indexAddr rfl rfl rfl rfl F.elem38 (by rfl) (by omega) (by exact SlM.plain (by assumption) (by (simp; omega))) rfl ?_
    refine X_fieldAddr_el rfl rfl rfl (by exact SlM.plain (by assumption) (by (simp; omega))) F.foff123_2 rfl ?_
    refine X_fieldAddr_el rfl rfl rfl (by exact SlM.plain (by assumption) (by (simp; omega))) F.foff37_3 rfl ?_
    refine X_load_el rfl rfl rfl (by assumption) (by exact row_map (by omega)) F.lay9 rfl rfl rfl ?_
    refine Y_len_str Tryd.underlying9 ?_
    refine X_ari rfl rfl rfl rfl rfl (by exact rfl) rfl ?_
    refine Y_assign ?_
    refine XD_end ?_
    refine K_out ?_
    refine K_then ?_
    refine C_region (l := [0, 1, 2]) rfl ?_
    refine Y_move ?_
    refine X_ari rfl rfl rfl rfl rfl (by exact wrap_in (by decide) (by omega)) rfl ?_
    refine Y_assign ?_
    refine XD_end ?_
    refine K_roundS (a' := [(4, _), (3, _)]) (k + 1) (.cons (k := 4) rfl (.cons (k := 3) rfl (.cons (k := 2) rfl (.cons (k := 1) rfl (.nil))))) (fun w hw => by first | exact hw | exact hw.c) ?_ ?_
    ·refine ⟨_, rfl, by omega, ?_⟩
     trivial
    ·omega
   ·replace hc3 := dF hc3
    refine C_exit ?_
    iterate 2 refine K_exit ?_
    refine K_hit ?_
    refine K_then ?_
    refine Y_pk [3, 2, 1] ?_
    refine C_seq ?_
    refine C_region (l := [0, 1, 2, 3, 4, 5, 6, 7, 8]) rfl ?_
    refine Y_fieldAddr F.foff40_3 ?_
    refine Y_load F.lay38 ?_
    refine Y_len_sl F.elem38 ?_
    refine Y_cmp ?_
    refine Y_move ?_
    refine XD_part 35 rfl (fun hc4 => ?_) (fun hc4 => ?_)
    ·replace hc4 := dT hc4
     iterate 2 refine Y_skip ?_
     refine Y_pick ?_
     refine Y_assign ?_
     refine XD_end ?_
     refine K_then ?_
     refine Y_pk [2] ?_
     refine C_ret ?_
     refine K_end (.inr rfl) (.tmp rfl .nil) (fun w hw => ?_)
     exact ⟨_, rfl, hw.c, _, rfl⟩
    ·replace hc4 := dF hc4
     (exfalso; omega)
  ·replace hc2 := dF hc2
   iterate 4 refine Y_skip ?_
   refine Y_pick ?_
   refine XD_end ?_
   refine K_then ?_
   refine C_false rfl ?_
   refine C_exit ?_
   iterate 2 refine K_exit ?_
   refine K_hit ?_
   refine K_then ?_
   refine Y_pk [3, 2, 1] ?_
   refine C_seq ?_
   refine C_region (l := [0, 1, 2, 3, 4, 5, 6, 7, 8]) rfl ?_
   refine Y_fieldAddr F.foff40_3 ?_
   refine Y_load F.lay38 ?_
   refine Y_len_sl F.elem38 ?_
   refine Y_cmp ?_
   refine Y_move ?_
   refine XD_part 35 rfl (fun hc5 => ?_) (fun hc5 => ?_)
   ·replace hc5 := dT hc5
    iterate 2 refine Y_skip ?_
    refine Y_pick ?_
    refine Y_assign ?_
    refine XD_end ?_
    refine K_then ?_
    refine Y_pk [2] ?_
    refine C_ret ?_
    refine K_end (.inr rfl) (.tmp rfl .nil) (fun w hw => ?_)
    exact ⟨_, rfl, hw.c, _, rfl⟩
   ·replace hc5 := dF hc5
    refine Y_move ?_
    refine Y_cmp ?_
    refine Y_pick ?_
    refine Y_assign ?_
    refine XD_end ?_
    refine K_then ?_
    refine Y_pk [2] ?_
    refine C_ret ?_
    refine K_end (.inr rfl) (.tmp rfl .nil) (fun w hw => ?_)
    exact ⟨_, rfl, hw.c, _, rfl⟩

theorem Big18_ok (M : Mem) (x : ParcelV) (hx0 : ParcelV.ok M x) : Fs Tryd.prog 19 [x.enc] M (fun v => ∃ b, v = .bool b) := by
  obtain ⟨x_kind, x_epoch, x_key, ⟨x_op_client, x_op_req, x_op_kind, x_op_version, x_op_val⟩, ⟨x_answer_code, x_answer_version, x_answer_has, x_answer_val⟩, x_serial, ⟨x_cell_version, x_cell_has, x_cell_val, ⟨x_cell_marks_a, x_cell_marks_c, x_cell_marks_l⟩⟩⟩ := x
  have k_x_cell : CellV.ok M ⟨x_cell_version, x_cell_has, x_cell_val, ⟨x_cell_marks_a, x_cell_marks_c, x_cell_marks_l⟩⟩ := hx0.h0
  have s_x_cell_marks : SlM M x_cell_marks_a (x_cell_marks_l.map MarkV.segs) 6 := hx0.h0.h0
  have n_x_cell_marks : (x_cell_marks_l.map MarkV.segs).length = x_cell_marks_l.length := List.length_map ..
  have m_x_cell_marks : x_cell_marks_l.length ≤ 9223372036854775807 := hx0.h0.h1
  refine fs_enter Tryd.func19 rfl Tryd.ntmps19 rfl ?_; intro H
  refine C_seq ?_
  refine C_region (l := [0, 1]) rfl ?_
  refine Y_box ?_; intro b1
  refine Y_assign ?_
  refine XD_end ?_
  refine K_then ?_
  refine Y_pk [2, 1] ?_
  refine C_seq ?_
  refine C_region (l := [0, 1, 2, 3, 4, 5, 6, 7, 8, 9, 10, 11, 12, 13, 14, 15, 16, 17]) rfl ?_
  refine Y_fieldAddr F.foff42_6 ?_
  refine Y_load F.lay40 ?_
  refine X_fs rfl rfl F.ok50 rfl (Big17_ok _ ⟨_, _, _, ⟨_, _, _⟩⟩ (by assumption)) rfl ?_
  rintro _ ⟨bg, rfl⟩
  refine Y_move ?_
  refine XD_part 6 rfl (fun hc2 => ?_) (fun hc2 => ?_)
  ·skip
   iterate 5 refine Y_skip ?_
   refine Y_pick ?_
   refine Y_move ?_
   iterate 5 refine Y_skip ?_
   refine Y_pick ?_
   refine Y_assign ?_
   refine XD_end ?_
   refine K_then ?_
   refine Y_pk [2] ?_
   refine C_ret ?_
   refine K_end (.inr rfl) (.tmp rfl .nil) (fun w hw => ?_)
   exact ⟨_, rfl, hw.c, _, rfl⟩
  ·skip
   refine Y_fieldAddr F.foff42_3 ?_
   refine Y_fieldAddr F.foff26_4 ?_
   refine Y_load F.lay9 ?_
   refine Y_len_str Tryd.underlying9 ?_
   refine Y_cmp ?_
   refine Y_pick ?_
   refine Y_move ?_
   refine XD_part 13 rfl (fun hc3 => ?_) (fun hc3 => ?_)
   ·replace hc3 := dT hc3
    iterate 5 refine Y_skip ?_
    refine Y_pick ?_
    refine Y_assign ?_
    refine XD_end ?_
    refine K_then ?_
    refine Y_pk [2] ?_
    refine C_ret ?_
    refine K_end (.inr rfl) (.tmp rfl .nil) (fun w hw => ?_)
    exact ⟨_, rfl, hw.c, _, rfl⟩
   ·replace hc3 := dF hc3
    refine Y_fieldAddr F.foff42_4 ?_
    refine Y_fieldAddr F.foff37_3 ?_
    refine Y_load F.lay9 ?_
    refine Y_len_str Tryd.underlying9 ?_
    refine Y_cmp ?_
    refine Y_pick ?_
    refine Y_assign ?_
    refine XD_end ?_
    refine K_then ?_
    refine Y_pk [2] ?_
    refine C_ret ?_
    refine K_end (.inr rfl) (.tmp rfl .nil) (fun w hw => ?_)
    exact ⟨_, rfl, hw.c, _, rfl⟩

theorem Posts_ok (M : Mem) (p : (Sl PostV)) (q : (Sl PostV)) (hp0 : SlM M (p).a ((p).l.map PostV.segs) 37) (hp1 : (p).l.length ≤ maxLen) (hp2 : ∀ y ∈ (p).l, PostV.ok M y) (hq3 : SlM M (q).a ((q).l.map PostV.segs) 37) (hq4 : (q).l.length ≤ maxLen) (hq5 : ∀ y ∈ (q).l, PostV.ok M y) : Fs Tryd.prog 26 [Sl.val p, Sl.val q] M (fun v => v = Value.bool (decide (SamePosts p.l q.l))) := by
  obtain ⟨p_a, p_c, p_l⟩ := p
  obtain ⟨q_a, q_c, q_l⟩ := q
  have s_p : SlM M p_a (p_l.map PostV.segs) 37 := hp0
  have n_p : (p_l.map PostV.segs).length = p_l.length := List.length_map ..
  have m_p : p_l.length ≤ 9223372036854775807 := hp1
  have s_q : SlM M q_a (q_l.map PostV.segs) 37 := hq3
  have n_q : (q_l.map PostV.segs).length = q_l.length := List.length_map ..
  have m_q : q_l.length ≤ 9223372036854775807 := hq4
  have q_p : ∀ z ∈ p_l, PostV.ok M z := hp2
  have q_q : ∀ z ∈ q_l, PostV.ok M z := hq5
  refine fs_enter Tryd.func26 rfl Tryd.ntmps26 rfl ?_; intro H
  refine C_seq ?_
  refine C_region (l := [0]) rfl ?_
  refine Y_assign ?_
  refine XD_end ?_
  refine K_then ?_
  iterate 2 refine C_seq ?_
  refine C_region (l := [0, 1, 2, 3, 4]) rfl ?_
  refine Y_move ?_
  refine Y_len_sl F.elem52 ?_
  refine Y_move ?_
  refine Y_len_sl F.elem52 ?_
  refine Y_cmp ?_
  refine XD_end ?_
  refine K_then ?_
  refine Y_pk [10, 4, 0, 1] ?_
  refine C_cond rfl (fun hc1 => ?_) (fun hc1 => ?_)
  ·replace hc1 := nT hc1
   refine C_seq ?_
   refine C_region (l := [0]) rfl ?_
   refine Y_assign ?_
   refine XD_end ?_
   refine K_then ?_
   refine Y_pk [4, 0, 1] ?_
   refine C_ret ?_
   refine K_ret ?_
   refine K_end (.inr rfl) (.tmp rfl .nil) (fun w hw => ?_)
   refine ⟨_, rfl, (hw.c), ?_⟩
   clear hw
   refine congrArg Value.bool ?_
   (have hn := @SamePosts.len p_l q_l; have h9 : ¬ SamePosts p_l q_l := (fun h => by have := hn h; omega); simp [h9])
  ·replace hc1 := nF hc1
   refine C_skip ?_
   refine K_then ?_
   refine Y_pk [4, 0, 1] ?_
   iterate 2 refine C_seq ?_
   refine C_region (l := [0]) rfl ?_
   refine Y_assign ?_
   refine XD_end ?_
   refine K_then ?_
   refine C_block ?_
   refine Y_pk [5, 4, 0, 1] ?_
   refine C_loopS (.succ .zero) (fun (k : Nat) z => z = [(5, .int .i64 (k : Int))] ∧ k ≤ p_l.length ∧ (p_l.length = q_l.length ∧ (SamePosts p_l q_l ↔ SamePosts (p_l.drop k) (q_l.drop k)))) (fun k => p_l.length - k) (0) (⟨rfl, by omega, by simp; omega⟩) ?_
   rintro k _ ⟨rfl, hk, hI⟩
   have hll := hI.1
   iterate 2 refine C_seq ?_
   refine C_region (l := [0, 1, 2, 3]) rfl ?_
   iterate 2 refine Y_move ?_
   refine Y_len_sl F.elem52 ?_
   refine Y_cmp ?_
   refine XD_end ?_
   refine K_then ?_
   refine C_cond rfl (fun hc2 => ?_) (fun hc2 => ?_)
   ·replace hc2 := dT hc2
    refine C_skip ?_
    refine K_then ?_
    refine C_seq ?_
    refine C_block ?_
    refine C_seq ?_
    refine C_region_any (l := [0, 1, 2, 3, 4, 5, 6, 7, 8, 9, 10, 11, 12, 13, 14, 15, 16, 17, 18, 19, 20, 21, 22, 23, 24]) #[0, 0, 3, 7, 15, 0, 0, 96, 224, 480, 1023, 2047, 4095, 4095, 16383, 32767, 65535, 4095, 4095, 397311, 921599, 1970175, 4194303, 8388607, 16777215] _ rfl (by kernel_rfl) (by kernel_rfl) St.drawn (fun _ h => h) ?_
    iterate 2 refine Y_move ?_
    refine X_indexAddr rfl rfl rfl rfl F.elem52 (by rfl) (by omega) (by exact SlM.plain (by assumption) (by (simp; omega))) rfl ?_
    refine X_fieldAddr_el rfl rfl rfl (by exact SlM.plain (by assumption) (by (simp; omega))) F.foff60_0 rfl ?_
    refine X_load_el rfl rfl rfl (by assumption) (by exact row_map (by omega)) F.lay3 rfl rfl rfl ?_
    iterate 2 refine Y_move ?_
    refine X_indexAddr rfl rfl rfl rfl F.elem52 (by rfl) (by omega) (by exact SlM.plain (by assumption) (by (simp; omega))) rfl ?_
    refine X_fieldAddr_el rfl rfl rfl (by exact SlM.plain (by assumption) (by (simp; omega))) F.foff60_0 rfl ?_
    refine X_load_el rfl rfl rfl (by assumption) (by exact row_map (by omega)) F.lay3 rfl rfl rfl ?_
    refine Y_cmp ?_
    refine Y_move ?_
    refine XD_part 28 rfl (fun hc3 => ?_) (fun hc3 => ?_)
    ·replace hc3 := nT hc3
     iterate 12 refine Y_skip ?_
     refine Y_pick ?_
     refine XD_end ?_
     refine K_then ?_
     refine C_true rfl ?_
     refine C_seq ?_
     refine C_region (l := [0]) rfl ?_
     refine Y_assign ?_
     refine XD_end ?_
     refine K_then ?_
     refine C_ret ?_
     refine K_retB ?_
     iterate 2 refine K_ret ?_
     refine K_retB ?_
     refine K_ret ?_
     refine K_end (.inr rfl) (.tmp rfl .nil) (fun w hw => ?_)
     refine ⟨_, rfl, (hw.c), ?_⟩
     clear hw
     refine congrArg Value.bool ?_
     (have hd := same_drop (l := p_l) (m := q_l) (k := k) (by omega) (by omega); simp_all; done)
    ·replace hc3 := nF hc3
     iterate 2 refine Y_move ?_
     refine X_indexAddr rfl rfl rfl rfl F.elem52 (by rfl) (by omega) (by exact SlM.plain (by assumption) (by (simp; omega))) rfl ?_
     refine X_fieldAddr_el rfl rfl rfl (by exact SlM.plain (by assumption) (by (simp; omega))) F.foff60_1 rfl ?_
     refine X_load_el rfl rfl rfl (by assumption) (by exact row_map (by omega)) F.lay42 rfl rfl rfl ?_
     iterate 2 refine Y_move ?_
     refine X_indexAddr rfl rfl rfl rfl F.elem52 (by rfl) (by omega) (by exact SlM.plain (by assumption) (by (simp; omega))) rfl ?_
     refine X_fieldAddr_el rfl rfl rfl (by exact SlM.plain (by assumption) (by (simp; omega))) F.foff60_1 rfl ?_
     refine X_load_el rfl rfl rfl (by assumption) (by exact row_map (by omega)) F.lay42 rfl rfl rfl ?_
     refine X_fs rfl rfl F.ok57 rfl (rpSame_ok _ ⟨_, _, _, ⟨_, _, _, _, _⟩, ⟨_, _, _, _⟩, _, ⟨_, _, _, ⟨_, _, _⟩⟩⟩ ⟨_, _, _, ⟨_, _, _, _, _⟩, ⟨_, _, _, _⟩, _, ⟨_, _, _, ⟨_, _, _⟩⟩⟩ (q_p _ (List.getElem_mem (n := k) (by omega))).h0 (q_q _ (List.getElem_mem (n := k) (by omega))).h0) rfl ?_
     rintro _ rfl
     refine Y_not ?_
     refine Y_pick ?_
     refine XD_end ?_
     refine K_then ?_
     refine C_cond rfl (fun hc4 => ?_) (fun hc4 => ?_)
     ·replace hc4 := nT hc4
      simp only [OpV.eta, ClientV.eta, AnswerV.eta, OutcomeV.eta, MarkV.eta, CellV.eta, ParcelV.eta, PostV.eta, PeerV.eta, StepL06V.eta] at hc4
      refine C_seq ?_
      refine C_region (l := [0]) rfl ?_
      refine Y_assign ?_
      refine XD_end ?_
      refine K_then ?_
      refine C_ret ?_
      refine K_retB ?_
      iterate 2 refine K_ret ?_
      refine K_retB ?_
      refine K_ret ?_
      refine K_end (.inr rfl) (.tmp rfl .nil) (fun w hw => ?_)
      refine ⟨_, rfl, (hw.c), ?_⟩
      clear hw
      refine congrArg Value.bool ?_
      (have hd := same_drop (l := p_l) (m := q_l) (k := k) (by omega) (by omega); simp_all; done)
     ·replace hc4 := nF hc4
      simp only [OpV.eta, ClientV.eta, AnswerV.eta, OutcomeV.eta, MarkV.eta, CellV.eta, ParcelV.eta, PostV.eta, PeerV.eta, StepL06V.eta] at hc4
      refine C_skip ?_
      refine K_out ?_
      refine K_then ?_
      refine C_region (l := [0, 1, 2]) rfl ?_
      refine Y_move ?_
      refine X_ari rfl rfl rfl rfl rfl (by exact wrap_in (by decide) (by omega)) rfl ?_
      refine Y_assign ?_
      refine XD_end ?_
      refine K_roundS (a' := [(5, _)]) (k + 1) (.cons (k := 5) rfl (.cons (k := 4) rfl (.cons (k := 0) rfl (.cons (k := 1) rfl (.nil))))) (fun w hw => by first | exact hw | exact hw.c) ?_ ?_
      ·refine ⟨rfl, by omega, ?_⟩
       refine ⟨hI.1, hI.2.trans ?_⟩; rw [same_drop (by omega) (by omega)]; simp_all
      ·omega
   ·replace hc2 := dF hc2
    refine C_exit ?_
    iterate 2 refine K_exit ?_
    refine K_hit ?_
    refine K_then ?_
    refine Y_pk [4] ?_
    refine C_seq ?_
    refine C_region (l := [0]) rfl ?_
    refine Y_assign ?_
    refine XD_end ?_
    refine K_then ?_
    refine C_ret ?_
    refine K_end (.inr rfl) (.tmp rfl .nil) (fun w hw => ?_)
    refine ⟨_, rfl, (hw.c), ?_⟩
    clear hw
    refine congrArg Value.bool ?_
    (have hk9 : k = p_l.length := (by omega); subst hk9; have e1 := List.drop_length (l := p_l); have e2 : q_l.drop p_l.length = [] := (by rw [hI.1]; exact List.drop_length); rw [e1, e2] at hI; simp [SamePosts] at hI; simp [hI.2]; done)

end Go.Proofs.YtelpkhhfjfbkcaaDoor
