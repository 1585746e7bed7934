/-
  The second law.
-/
import Derived.Test.YtelpkhhfjfbkcaaDoorC14
import Derived.Test.YtelpkhhfjfbkcaaDoorClientL
set_option linter.unusedSimpArgs false
set_option linter.unusedVariables false
set_option linter.unnecessarySimpa false
set_option maxRecDepth 8000
namespace Go.Proofs.YtelpkhhfjfbkcaaDoor
open Go.Esp
theorem F.ok19 : okFn Tryd.prog 19 = true := by kernel_rfl

theorem lawOnce_a (M : Mem) (c : ClientV) (p : ParcelV) (hp0 : ParcelV.ok M p) (hEG : EG M) (hcs : takeR c p = (ClientV.zero, OutcomeV.zero, 1)) : Fs Tryd.prog 4 [c.enc, p.enc] M (fun v => v = Value.bool (true)) := by
  obtain ⟨c_num, c_req, c_busy, c_key, ⟨c_op_client, c_op_req, c_op_kind, c_op_version, c_op_val⟩, c_tries⟩ := c
  obtain ⟨p_kind, p_epoch, p_key, ⟨p_op_client, p_op_req, p_op_kind, p_op_version, p_op_val⟩, ⟨p_answer_code, p_answer_version, p_answer_has, p_answer_val⟩, p_serial, ⟨p_cell_version, p_cell_has, p_cell_val, ⟨p_cell_marks_a, p_cell_marks_c, p_cell_marks_l⟩⟩⟩ := p
  have k_p_cell : CellV.ok M ⟨p_cell_version, p_cell_has, p_cell_val, ⟨p_cell_marks_a, p_cell_marks_c, p_cell_marks_l⟩⟩ := hp0.h0
  have s_p_cell_marks : SlM M p_cell_marks_a (p_cell_marks_l.map MarkV.segs) 6 := hp0.h0.h0
  have n_p_cell_marks : (p_cell_marks_l.map MarkV.segs).length = p_cell_marks_l.length := List.length_map ..
  have m_p_cell_marks : p_cell_marks_l.length ≤ 9223372036854775807 := hp0.h0.h1
  have hE := hEG
  refine fs_enter Tryd.func4 rfl Tryd.ntmps4 rfl ?_; intro H
  refine C_seq ?_
  refine C_region (l := [0, 1, 2]) rfl ?_
  refine Y_box ?_; intro b1
  refine Y_box ?_; intro b2
  refine Y_assign ?_
  refine XD_end ?_
  refine K_then ?_
  refine Y_pk [4, 3, 2] ?_
  iterate 2 refine C_seq ?_
  refine C_region (l := [0, 1, 2, 3, 4, 5, 6, 7, 8]) rfl ?_
  refine Y_fieldAddr F.foff28_4 ?_
  refine Y_fieldAddr F.foff26_4 ?_
  refine Y_load F.lay9 ?_
  refine Y_len_str Tryd.underlying9 ?_
  refine Y_cmp ?_
  refine Y_move ?_
  refine XD_part 24 rfl (fun hc3 => ?_) (fun hc3 => ?_)
  ·replace hc3 := dT hc3
   iterate 2 refine Y_skip ?_
   refine Y_pick ?_
   refine XD_end ?_
   refine K_then ?_
   refine Y_pk [27, 4, 3, 2] ?_
   refine C_true rfl ?_
   refine C_seq ?_
   refine C_region (l := [0]) rfl ?_
   refine Y_assign ?_
   refine XD_end ?_
   refine K_then ?_
   refine Y_pk [4, 3, 2] ?_
   refine C_ret ?_
   refine K_ret ?_
   refine K_end (.inr rfl) (.tmp rfl .nil) (fun w hw => ?_)
   refine ⟨_, rfl, (hw.c), ?_⟩
   clear hw
   rfl
  ·replace hc3 := dF hc3
   refine Y_load F.lay42 ?_
   refine X_fs rfl rfl F.ok19 rfl (Big18_ok _ ⟨_, _, _, ⟨_, _, _, _, _⟩, ⟨_, _, _, _⟩, _, ⟨_, _, _, ⟨_, _, _⟩⟩⟩ (by assumption)) rfl ?_
   rintro _ ⟨bg, rfl⟩
   refine Y_pick ?_
   refine XD_end ?_
   refine K_then ?_
   refine Y_pk [27, 4, 3, 2] ?_
   refine C_cond rfl (fun hc4 => ?_) (fun hc4 => ?_)
   ·skip
    refine C_seq ?_
    refine C_region (l := [0]) rfl ?_
    refine Y_assign ?_
    refine XD_end ?_
    refine K_then ?_
    refine Y_pk [4, 3, 2] ?_
    refine C_ret ?_
    refine K_ret ?_
    refine K_end (.inr rfl) (.tmp rfl .nil) (fun w hw => ?_)
    refine ⟨_, rfl, (hw.c), ?_⟩
    clear hw
    rfl
   ·skip
    refine C_skip ?_
    refine K_then ?_
    refine Y_pk [4, 3, 2] ?_
    refine C_seq ?_
    refine C_region (l := [0, 1, 2, 3, 4, 5, 6, 7, 8, 9, 10, 11]) rfl ?_
    refine Y_load F.lay28 ?_
    refine Y_load F.lay42 ?_
    refine X_fs rfl rfl F.ok20 rfl (Take_ok M ⟨_, _, _, _, ⟨_, _, _, _, _⟩, _⟩ ⟨_, _, _, ⟨_, _, _, _, _⟩, ⟨_, _, _, _⟩, _, ⟨_, _, _, ⟨_, _, _⟩⟩⟩ (by assumption)) rfl ?_
    rintro _ rfl
    refine XD_is 31 rfl (show _ = Value.tuple #[(ClientV.enc ClientV.zero), (OutcomeV.enc OutcomeV.zero), .int .i64 1] from congrArg ofTri (hcs)) ?_
    refine Y_move ?_
    iterate 3 refine Y_extract ?_
    refine Y_alloc F.zero28 ?_; intro b5
    refine Y_alloc F.zero45 ?_; intro b6
    refine Y_store F.lay28 ?_
    refine Y_store F.lay45 ?_
    refine Y_assign ?_
    refine XD_end ?_
    refine K_then ?_
    refine Y_pk [7, 6, 5, 4, 3, 2] ?_
    iterate 2 refine C_seq ?_
    refine C_region (l := [0, 1, 2, 3, 4, 5, 6]) rfl ?_
    refine Y_move ?_
    refine Y_cmp ?_
    refine Y_move ?_
    refine XD_part 37 rfl (fun hc7 => ?_) (fun hc7 => ?_)
    ·replace hc7 := nT hc7
     iterate 3 refine Y_skip ?_
     refine Y_pick ?_
     refine XD_end ?_
     refine K_then ?_
     refine Y_pk [41, 7, 6, 5, 4, 3, 2] ?_
     refine C_true rfl ?_
     refine C_seq ?_
     refine C_region (l := [0, 1, 2, 3, 4, 5, 6, 7, 8, 9, 10]) rfl ?_
     refine X_fs rfl rfl F.ok16 rfl (clients_ok _ (by assumption)) rfl ?_
     rintro _ rfl
     refine Y_move ?_
     refine XD_part 43 rfl (fun hc8 => ?_) (fun hc8 => ?_)
     ·skip
      simp only [OpV.eta, ClientV.eta, AnswerV.eta, OutcomeV.eta, MarkV.eta, CellV.eta, ParcelV.eta, PostV.eta, PeerV.eta, StepL06V.eta] at hc8
      refine Y_move ?_
      refine Y_cmp ?_
      refine Y_move ?_
      refine XD_part 46 rfl (fun hc9 => ?_) (fun hc9 => ?_)
      ·replace hc9 := nT hc9
       iterate 3 refine Y_skip ?_
       iterate 2 refine Y_pick ?_
       refine Y_assign ?_
       refine XD_end ?_
       refine K_then ?_
       refine Y_pk [4, 6, 5, 3, 2] ?_
       refine C_ret ?_
       refine K_ret ?_
       refine K_end (.inr rfl) (.tmp rfl .nil) (fun w hw => ?_)
       refine ⟨_, rfl, (hw.c), ?_⟩
       clear hw
       rfl
      ·replace hc9 := nF hc9
       (exfalso; omega)
     ·skip
      (exfalso; simp [eqX] at hc8; done)
    ·replace hc7 := nF hc7
     (exfalso; omega)

theorem lawOnce_b (M : Mem) (c : ClientV) (p : ParcelV) (hp0 : ParcelV.ok M p) (hEG : EG M) (hcs : takeR c p = (c, OutcomeV.zero, 0)) : Fs Tryd.prog 4 [c.enc, p.enc] M (fun v => v = Value.bool (true)) := by
  obtain ⟨c_num, c_req, c_busy, c_key, ⟨c_op_client, c_op_req, c_op_kind, c_op_version, c_op_val⟩, c_tries⟩ := c
  obtain ⟨p_kind, p_epoch, p_key, ⟨p_op_client, p_op_req, p_op_kind, p_op_version, p_op_val⟩, ⟨p_answer_code, p_answer_version, p_answer_has, p_answer_val⟩, p_serial, ⟨p_cell_version, p_cell_has, p_cell_val, ⟨p_cell_marks_a, p_cell_marks_c, p_cell_marks_l⟩⟩⟩ := p
  have k_p_cell : CellV.ok M ⟨p_cell_version, p_cell_has, p_cell_val, ⟨p_cell_marks_a, p_cell_marks_c, p_cell_marks_l⟩⟩ := hp0.h0
  have s_p_cell_marks : SlM M p_cell_marks_a (p_cell_marks_l.map MarkV.segs) 6 := hp0.h0.h0
  have n_p_cell_marks : (p_cell_marks_l.map MarkV.segs).length = p_cell_marks_l.length := List.length_map ..
  have m_p_cell_marks : p_cell_marks_l.length ≤ 9223372036854775807 := hp0.h0.h1
  have hE := hEG
  refine fs_enter Tryd.func4 rfl Tryd.ntmps4 rfl ?_; intro H
  refine C_seq ?_
  refine C_region (l := [0, 1, 2]) rfl ?_
  refine Y_box ?_; intro b1
  refine Y_box ?_; intro b2
  refine Y_assign ?_
  refine XD_end ?_
  refine K_then ?_
  refine Y_pk [4, 3, 2] ?_
  iterate 2 refine C_seq ?_
  refine C_region (l := [0, 1, 2, 3, 4, 5, 6, 7, 8]) rfl ?_
  refine Y_fieldAddr F.foff28_4 ?_
  refine Y_fieldAddr F.foff26_4 ?_
  refine Y_load F.lay9 ?_
  refine Y_len_str Tryd.underlying9 ?_
  refine Y_cmp ?_
  refine Y_move ?_
  refine XD_part 24 rfl (fun hc3 => ?_) (fun hc3 => ?_)
  ·replace hc3 := dT hc3
   iterate 2 refine Y_skip ?_
   refine Y_pick ?_
   refine XD_end ?_
   refine K_then ?_
   refine Y_pk [27, 4, 3, 2] ?_
   refine C_true rfl ?_
   refine C_seq ?_
   refine C_region (l := [0]) rfl ?_
   refine Y_assign ?_
   refine XD_end ?_
   refine K_then ?_
   refine Y_pk [4, 3, 2] ?_
   refine C_ret ?_
   refine K_ret ?_
   refine K_end (.inr rfl) (.tmp rfl .nil) (fun w hw => ?_)
   refine ⟨_, rfl, (hw.c), ?_⟩
   clear hw
   rfl
  ·replace hc3 := dF hc3
   refine Y_load F.lay42 ?_
   refine X_fs rfl rfl F.ok19 rfl (Big18_ok _ ⟨_, _, _, ⟨_, _, _, _, _⟩, ⟨_, _, _, _⟩, _, ⟨_, _, _, ⟨_, _, _⟩⟩⟩ (by assumption)) rfl ?_
   rintro _ ⟨bg, rfl⟩
   refine Y_pick ?_
   refine XD_end ?_
   refine K_then ?_
   refine Y_pk [27, 4, 3, 2] ?_
   refine C_cond rfl (fun hc4 => ?_) (fun hc4 => ?_)
   ·skip
    refine C_seq ?_
    refine C_region (l := [0]) rfl ?_
    refine Y_assign ?_
    refine XD_end ?_
    refine K_then ?_
    refine Y_pk [4, 3, 2] ?_
    refine C_ret ?_
    refine K_ret ?_
    refine K_end (.inr rfl) (.tmp rfl .nil) (fun w hw => ?_)
    refine ⟨_, rfl, (hw.c), ?_⟩
    clear hw
    rfl
   ·skip
    refine C_skip ?_
    refine K_then ?_
    refine Y_pk [4, 3, 2] ?_
    refine C_seq ?_
    refine C_region (l := [0, 1, 2, 3, 4, 5, 6, 7, 8, 9, 10, 11]) rfl ?_
    refine Y_load F.lay28 ?_
    refine Y_load F.lay42 ?_
    refine X_fs rfl rfl F.ok20 rfl (Take_ok M ⟨_, _, _, _, ⟨_, _, _, _, _⟩, _⟩ ⟨_, _, _, ⟨_, _, _, _, _⟩, ⟨_, _, _, _⟩, _, ⟨_, _, _, ⟨_, _, _⟩⟩⟩ (by assumption)) rfl ?_
    rintro _ rfl
    refine XD_is 31 rfl (show _ = Value.tuple #[(ClientV.enc ⟨c_num, c_req, c_busy, c_key, ⟨c_op_client, c_op_req, c_op_kind, c_op_version, c_op_val⟩, c_tries⟩), (OutcomeV.enc OutcomeV.zero), .int .i64 0] from congrArg ofTri (hcs)) ?_
    refine Y_move ?_
    iterate 3 refine Y_extract ?_
    refine Y_alloc F.zero28 ?_; intro b5
    refine Y_alloc F.zero45 ?_; intro b6
    refine Y_store F.lay28 ?_
    refine Y_store F.lay45 ?_
    refine Y_assign ?_
    refine XD_end ?_
    refine K_then ?_
    refine Y_pk [7, 6, 5, 4, 3, 2] ?_
    iterate 2 refine C_seq ?_
    refine C_region (l := [0, 1, 2, 3, 4, 5, 6]) rfl ?_
    refine Y_move ?_
    refine Y_cmp ?_
    refine Y_move ?_
    refine XD_part 37 rfl (fun hc7 => ?_) (fun hc7 => ?_)
    ·replace hc7 := nT hc7
     simp only [OpV.eta, ClientV.eta, AnswerV.eta, OutcomeV.eta, MarkV.eta, CellV.eta, ParcelV.eta, PostV.eta, PeerV.eta, StepL06V.eta] at hc7
     (exfalso; simp [eqX] at hc7; done)
    ·replace hc7 := nF hc7
     simp only [OpV.eta, ClientV.eta, AnswerV.eta, OutcomeV.eta, MarkV.eta, CellV.eta, ParcelV.eta, PostV.eta, PeerV.eta, StepL06V.eta] at hc7
     refine Y_fieldAddr F.foff45_0 ?_
     refine Y_load F.lay4 ?_
     refine Y_not ?_
     refine Y_pick ?_
     refine XD_end ?_
     refine K_then ?_
     refine Y_pk [41, 7, 6, 5, 4, 3, 2] ?_
     refine C_cond rfl (fun hc12 => ?_) (fun hc12 => ?_)
     ·skip
      refine C_seq ?_
      refine C_region (l := [0, 1, 2, 3, 4, 5, 6, 7, 8, 9, 10]) rfl ?_
      refine X_fs rfl rfl F.ok16 rfl (clients_ok _ (by assumption)) rfl ?_
      rintro _ rfl
      refine Y_move ?_
      refine XD_part 43 rfl (fun hc13 => ?_) (fun hc13 => ?_)
      ·skip
       simp only [OpV.eta, ClientV.eta, AnswerV.eta, OutcomeV.eta, MarkV.eta, CellV.eta, ParcelV.eta, PostV.eta, PeerV.eta, StepL06V.eta] at hc13
       refine Y_move ?_
       refine Y_cmp ?_
       refine Y_move ?_
       refine XD_part 46 rfl (fun hc14 => ?_) (fun hc14 => ?_)
       ·replace hc14 := nT hc14
        simp only [OpV.eta, ClientV.eta, AnswerV.eta, OutcomeV.eta, MarkV.eta, CellV.eta, ParcelV.eta, PostV.eta, PeerV.eta, StepL06V.eta] at hc14
        (exfalso; simp [eqX] at hc14; done)
       ·replace hc14 := nF hc14
        simp only [OpV.eta, ClientV.eta, AnswerV.eta, OutcomeV.eta, MarkV.eta, CellV.eta, ParcelV.eta, PostV.eta, PeerV.eta, StepL06V.eta] at hc14
        iterate 2 refine Y_load F.lay28 ?_
        refine X_same (m := 20) rfl rfl rfl rfl rfl (by constructor) (by constructor) F.lay28 F.kinds28 rfl F.guard28 (by exact FitClientV (⟨_, _, _, _, ⟨_, _, _, _, _⟩, _⟩)) (by exact FitClientV (⟨_, _, _, _, ⟨_, _, _, _, _⟩, _⟩)) rfl rfl rfl ?_; intro c15 he16
        replace he16 : c15 = true ↔ Segs.cells _ = Segs.cells _ := he16
        obtain rfl := eqD he16 (ClientV.inj (x := ⟨_, _, _, _, ⟨_, _, _, _, _⟩, _⟩) (y := ⟨_, _, _, _, ⟨_, _, _, _, _⟩, _⟩)); clear he16
        iterate 2 refine Y_pick ?_
        refine Y_assign ?_
        refine XD_end ?_
        refine K_then ?_
        refine Y_pk [4, 6, 5, 3, 2] ?_
        refine C_ret ?_
        refine K_ret ?_
        refine K_end (.inr rfl) (.tmp rfl .nil) (fun w hw => ?_)
        refine ⟨_, rfl, (hw.c), ?_⟩
        clear hw
        (simp; rfl)
      ·skip
       (exfalso; simp [eqX] at hc13; done)
     ·skip
      (exfalso; simp [eqX] at hc12; done)

theorem lawOnce_c (M : Mem) (c : ClientV) (p : ParcelV) (hp0 : ParcelV.ok M p) (hEG : EG M) (hC : IsClient c) (hP : IsParcel p) (hb : c.busy = true) (hq : p.op.req = c.req) (hcs : takeR c p = ({ c with busy := false }, ⟨true, p.answer⟩, 0)) : Fs Tryd.prog 4 [c.enc, p.enc] M (fun v => v = Value.bool (true)) := by
  obtain ⟨c_num, c_req, c_busy, c_key, ⟨c_op_client, c_op_req, c_op_kind, c_op_version, c_op_val⟩, c_tries⟩ := c
  obtain ⟨p_kind, p_epoch, p_key, ⟨p_op_client, p_op_req, p_op_kind, p_op_version, p_op_val⟩, ⟨p_answer_code, p_answer_version, p_answer_has, p_answer_val⟩, p_serial, ⟨p_cell_version, p_cell_has, p_cell_val, ⟨p_cell_marks_a, p_cell_marks_c, p_cell_marks_l⟩⟩⟩ := p
  have k_p_cell : CellV.ok M ⟨p_cell_version, p_cell_has, p_cell_val, ⟨p_cell_marks_a, p_cell_marks_c, p_cell_marks_l⟩⟩ := hp0.h0
  have s_p_cell_marks : SlM M p_cell_marks_a (p_cell_marks_l.map MarkV.segs) 6 := hp0.h0.h0
  have n_p_cell_marks : (p_cell_marks_l.map MarkV.segs).length = p_cell_marks_l.length := List.length_map ..
  have m_p_cell_marks : p_cell_marks_l.length ≤ 9223372036854775807 := hp0.h0.h1
  have hE := hEG
  refine fs_enter Tryd.func4 rfl Tryd.ntmps4 rfl ?_; intro H
  refine C_seq ?_
  refine C_region (l := [0, 1, 2]) rfl ?_
  refine Y_box ?_; intro b1
  refine Y_box ?_; intro b2
  refine Y_assign ?_
  refine XD_end ?_
  refine K_then ?_
  refine Y_pk [4, 3, 2] ?_
  iterate 2 refine C_seq ?_
  refine C_region (l := [0, 1, 2, 3, 4, 5, 6, 7, 8]) rfl ?_
  refine Y_fieldAddr F.foff28_4 ?_
  refine Y_fieldAddr F.foff26_4 ?_
  refine Y_load F.lay9 ?_
  refine Y_len_str Tryd.underlying9 ?_
  refine Y_cmp ?_
  refine Y_move ?_
  refine XD_part 24 rfl (fun hc3 => ?_) (fun hc3 => ?_)
  ·replace hc3 := dT hc3
   iterate 2 refine Y_skip ?_
   refine Y_pick ?_
   refine XD_end ?_
   refine K_then ?_
   refine Y_pk [27, 4, 3, 2] ?_
   refine C_true rfl ?_
   refine C_seq ?_
   refine C_region (l := [0]) rfl ?_
   refine Y_assign ?_
   refine XD_end ?_
   refine K_then ?_
   refine Y_pk [4, 3, 2] ?_
   refine C_ret ?_
   refine K_ret ?_
   refine K_end (.inr rfl) (.tmp rfl .nil) (fun w hw => ?_)
   refine ⟨_, rfl, (hw.c), ?_⟩
   clear hw
   rfl
  ·replace hc3 := dF hc3
   refine Y_load F.lay42 ?_
   refine X_fs rfl rfl F.ok19 rfl (Big18_ok _ ⟨_, _, _, ⟨_, _, _, _, _⟩, ⟨_, _, _, _⟩, _, ⟨_, _, _, ⟨_, _, _⟩⟩⟩ (by assumption)) rfl ?_
   rintro _ ⟨bg, rfl⟩
   refine Y_pick ?_
   refine XD_end ?_
   refine K_then ?_
   refine Y_pk [27, 4, 3, 2] ?_
   refine C_cond rfl (fun hc4 => ?_) (fun hc4 => ?_)
   ·skip
    refine C_seq ?_
    refine C_region (l := [0]) rfl ?_
    refine Y_assign ?_
    refine XD_end ?_
    refine K_then ?_
    refine Y_pk [4, 3, 2] ?_
    refine C_ret ?_
    refine K_ret ?_
    refine K_end (.inr rfl) (.tmp rfl .nil) (fun w hw => ?_)
    refine ⟨_, rfl, (hw.c), ?_⟩
    clear hw
    rfl
   ·skip
    refine C_skip ?_
    refine K_then ?_
    refine Y_pk [4, 3, 2] ?_
    refine C_seq ?_
    refine C_region (l := [0, 1, 2, 3, 4, 5, 6, 7, 8, 9, 10, 11]) rfl ?_
    refine Y_load F.lay28 ?_
    refine Y_load F.lay42 ?_
    refine X_fs rfl rfl F.ok20 rfl (Take_ok M ⟨_, _, _, _, ⟨_, _, _, _, _⟩, _⟩ ⟨_, _, _, ⟨_, _, _, _, _⟩, ⟨_, _, _, _⟩, _, ⟨_, _, _, ⟨_, _, _⟩⟩⟩ (by assumption)) rfl ?_
    rintro _ rfl
    refine XD_is 31 rfl (show _ = Value.tuple #[(ClientV.enc ⟨c_num, c_req, false, c_key, ⟨c_op_client, c_op_req, c_op_kind, c_op_version, c_op_val⟩, c_tries⟩), (OutcomeV.enc ⟨true, ⟨p_answer_code, p_answer_version, p_answer_has, p_answer_val⟩⟩), .int .i64 0] from congrArg ofTri (hcs)) ?_
    refine Y_move ?_
    iterate 3 refine Y_extract ?_
    refine Y_alloc F.zero28 ?_; intro b5
    refine Y_alloc F.zero45 ?_; intro b6
    refine Y_store F.lay28 ?_
    refine Y_store F.lay45 ?_
    refine Y_assign ?_
    refine XD_end ?_
    refine K_then ?_
    refine Y_pk [7, 6, 5, 4, 3, 2] ?_
    iterate 2 refine C_seq ?_
    refine C_region (l := [0, 1, 2, 3, 4, 5, 6]) rfl ?_
    refine Y_move ?_
    refine Y_cmp ?_
    refine Y_move ?_
    refine XD_part 37 rfl (fun hc7 => ?_) (fun hc7 => ?_)
    ·replace hc7 := nT hc7
     simp only [OpV.eta, ClientV.eta, AnswerV.eta, OutcomeV.eta, MarkV.eta, CellV.eta, ParcelV.eta, PostV.eta, PeerV.eta, StepL06V.eta] at hc7
     (exfalso; simp [eqX] at hc7; done)
    ·replace hc7 := nF hc7
     simp only [OpV.eta, ClientV.eta, AnswerV.eta, OutcomeV.eta, MarkV.eta, CellV.eta, ParcelV.eta, PostV.eta, PeerV.eta, StepL06V.eta] at hc7
     refine Y_fieldAddr F.foff45_0 ?_
     refine Y_load F.lay4 ?_
     refine Y_not ?_
     refine Y_pick ?_
     refine XD_end ?_
     refine K_then ?_
     refine Y_pk [41, 7, 6, 5, 4, 3, 2] ?_
     refine C_cond rfl (fun hc12 => ?_) (fun hc12 => ?_)
     ·skip
      (exfalso; simp [eqX] at hc12; done)
     ·skip
      refine C_skip ?_
      refine K_then ?_
      refine Y_pk [6, 5, 4, 3, 2] ?_
      refine C_seq ?_
      refine C_region (l := [0, 1, 2, 3, 4, 5, 6, 7, 8, 9, 10, 11]) rfl ?_
      refine Y_load F.lay28 ?_
      refine Y_load F.lay42 ?_
      refine X_fs rfl rfl F.ok20 rfl (Take_ok M ⟨_, _, _, _, ⟨_, _, _, _, _⟩, _⟩ ⟨_, _, _, ⟨_, _, _, _, _⟩, ⟨_, _, _, _⟩, _, ⟨_, _, _, ⟨_, _, _⟩⟩⟩ (by assumption)) rfl ?_
      rintro _ rfl
      refine XD_is 55 rfl (show _ = Value.tuple #[(ClientV.enc ⟨c_num, c_req, false, c_key, ⟨c_op_client, c_op_req, c_op_kind, c_op_version, c_op_val⟩, c_tries⟩), (OutcomeV.enc OutcomeV.zero), .int .i64 0] from congrArg ofTri (takeR_idle (isClient_idle hC) hP rfl)) ?_
      refine Y_move ?_
      iterate 3 refine Y_extract ?_
      refine Y_alloc F.zero28 ?_; intro b17
      refine Y_alloc F.zero45 ?_; intro b18
      refine Y_store F.lay28 ?_
      refine Y_store F.lay45 ?_
      refine Y_assign ?_
      refine XD_end ?_
      refine K_then ?_
      refine Y_pk [10, 9, 8, 6, 5, 4, 3, 2] ?_
      refine C_seq ?_
      refine C_region (l := [0, 1, 2, 3, 4, 5, 6, 7, 8, 9, 10]) rfl ?_
      refine Y_load F.lay28 ?_
      refine X_fs rfl rfl F.ok21 rfl (Tick_ok M hE ⟨_, _, _, _, ⟨_, _, _, _, _⟩, _⟩ 5) rfl ?_
      rintro _ rfl
      refine XD_is 61 rfl (show _ = Value.tuple #[(ClientV.enc ⟨c_num, c_req, false, c_key, ⟨c_op_client, c_op_req, c_op_kind, c_op_version, c_op_val⟩, c_tries⟩), (OutcomeV.enc OutcomeV.zero), .int .i64 0] from congrArg ofTri (tickR_idle (isClient_idle hC) (by decide) (by decide) rfl)) ?_
      refine Y_move ?_
      iterate 3 refine Y_extract ?_
      refine Y_alloc F.zero28 ?_; intro b19
      refine Y_alloc F.zero45 ?_; intro b20
      refine Y_store F.lay28 ?_
      refine Y_store F.lay45 ?_
      refine Y_assign ?_
      refine XD_end ?_
      refine K_then ?_
      refine Y_pk [13, 12, 11, 10, 9, 8, 6, 5, 4, 3, 2] ?_
      iterate 2 refine C_seq ?_
      refine C_region (l := [0, 1, 2, 3, 4, 5, 6, 7, 8, 9, 10, 11, 12, 13, 14, 15, 16, 17, 18, 19, 20, 21, 22, 23, 24, 25, 26, 27, 28, 29, 30, 31, 32, 33, 34, 35, 36, 37, 38, 39]) rfl ?_
      refine Y_fieldAddr F.foff28_2 ?_
      refine Y_load F.lay4 ?_
      refine Y_not ?_
      refine Y_move ?_
      refine XD_part 68 rfl (fun hc21 => ?_) (fun hc21 => ?_)
      ·skip
       iterate 2 refine Y_skip ?_
       refine Y_pick ?_
       refine Y_move ?_
       iterate 2 refine Y_skip ?_
       refine Y_pick ?_
       refine Y_move ?_
       iterate 2 refine Y_skip ?_
       refine Y_pick ?_
       refine Y_move ?_
       iterate 3 refine Y_skip ?_
       refine Y_pick ?_
       refine Y_move ?_
       iterate 2 refine Y_skip ?_
       refine Y_pick ?_
       refine Y_move ?_
       iterate 2 refine Y_skip ?_
       refine Y_pick ?_
       refine Y_move ?_
       iterate 3 refine Y_skip ?_
       refine Y_pick ?_
       refine Y_move ?_
       iterate 5 refine Y_skip ?_
       refine Y_pick ?_
       refine XD_end ?_
       refine K_then ?_
       refine Y_pk [104, 5, 4, 3, 2] ?_
       refine C_true rfl ?_
       refine C_seq ?_
       refine C_region (l := [0]) rfl ?_
       refine Y_assign ?_
       refine XD_end ?_
       refine K_then ?_
       refine Y_pk [4, 5, 3, 2] ?_
       refine C_ret ?_
       refine K_ret ?_
       refine K_end (.inr rfl) (.tmp rfl .nil) (fun w hw => ?_)
       refine ⟨_, rfl, (hw.c), ?_⟩
       clear hw
       (exfalso; simp_all; done)
      ·skip
       refine Y_fieldAddr F.foff28_2 ?_
       refine Y_load F.lay4 ?_
       refine Y_pick ?_
       refine Y_move ?_
       refine XD_part 72 rfl (fun hc22 => ?_) (fun hc22 => ?_)
       ·skip
        (exfalso; simp [eqX] at hc22; done)
       ·skip
        simp only [OpV.eta, ClientV.eta, AnswerV.eta, OutcomeV.eta, MarkV.eta, CellV.eta, ParcelV.eta, PostV.eta, PeerV.eta, StepL06V.eta] at hc22
        refine Y_move ?_
        refine Y_cmp ?_
        refine Y_pick ?_
        refine Y_move ?_
        refine XD_part 76 rfl (fun hc23 => ?_) (fun hc23 => ?_)
        ·replace hc23 := nT hc23
         simp only [OpV.eta, ClientV.eta, AnswerV.eta, OutcomeV.eta, MarkV.eta, CellV.eta, ParcelV.eta, PostV.eta, PeerV.eta, StepL06V.eta] at hc23
         (exfalso; simp [eqX] at hc23; done)
        ·replace hc23 := nF hc23
         simp only [OpV.eta, ClientV.eta, AnswerV.eta, OutcomeV.eta, MarkV.eta, CellV.eta, ParcelV.eta, PostV.eta, PeerV.eta, StepL06V.eta] at hc23
         refine Y_fieldAddr F.foff45_0 ?_
         refine Y_load F.lay4 ?_
         refine Y_pick ?_
         refine Y_move ?_
         refine XD_part 80 rfl (fun hc24 => ?_) (fun hc24 => ?_)
         ·skip
          (exfalso; simp [eqX] at hc24; done)
         ·skip
          simp only [OpV.eta, ClientV.eta, AnswerV.eta, OutcomeV.eta, MarkV.eta, CellV.eta, ParcelV.eta, PostV.eta, PeerV.eta, StepL06V.eta] at hc24
          iterate 2 refine Y_load F.lay28 ?_
          refine X_same (m := 20) rfl rfl rfl rfl rfl (by constructor) (by constructor) F.lay28 F.kinds28 rfl F.guard28 (by exact FitClientV (⟨_, _, _, _, ⟨_, _, _, _, _⟩, _⟩)) (by exact FitClientV (⟨_, _, _, _, ⟨_, _, _, _, _⟩, _⟩)) rfl rfl rfl ?_; intro c25 he26
          replace he26 : c25 = true ↔ ¬ (Segs.cells _ = Segs.cells _) := he26
          obtain rfl := neD he26 (ClientV.inj (x := ⟨_, _, _, _, ⟨_, _, _, _, _⟩, _⟩) (y := ⟨_, _, _, _, ⟨_, _, _, _, _⟩, _⟩)); clear he26
          refine Y_pick ?_
          refine Y_move ?_
          refine XD_part 85 rfl (fun hc27 => ?_) (fun hc27 => ?_)
          ·replace hc27 := nT hc27
           simp only [OpV.eta, ClientV.eta, AnswerV.eta, OutcomeV.eta, MarkV.eta, CellV.eta, ParcelV.eta, PostV.eta, PeerV.eta, StepL06V.eta] at hc27
           (exfalso; simp [eqX] at hc27; done)
          ·replace hc27 := nF hc27
           simp only [OpV.eta, ClientV.eta, AnswerV.eta, OutcomeV.eta, MarkV.eta, CellV.eta, ParcelV.eta, PostV.eta, PeerV.eta, StepL06V.eta] at hc27
           refine Y_move ?_
           refine Y_cmp ?_
           refine Y_pick ?_
           refine Y_move ?_
           refine XD_part 89 rfl (fun hc28 => ?_) (fun hc28 => ?_)
           ·replace hc28 := nT hc28
            simp only [OpV.eta, ClientV.eta, AnswerV.eta, OutcomeV.eta, MarkV.eta, CellV.eta, ParcelV.eta, PostV.eta, PeerV.eta, StepL06V.eta] at hc28
            (exfalso; simp [eqX] at hc28; done)
           ·replace hc28 := nF hc28
            simp only [OpV.eta, ClientV.eta, AnswerV.eta, OutcomeV.eta, MarkV.eta, CellV.eta, ParcelV.eta, PostV.eta, PeerV.eta, StepL06V.eta] at hc28
            refine Y_fieldAddr F.foff45_0 ?_
            refine Y_load F.lay4 ?_
            refine Y_pick ?_
            refine Y_move ?_
            refine XD_part 93 rfl (fun hc29 => ?_) (fun hc29 => ?_)
            ·skip
             (exfalso; simp [eqX] at hc29; done)
            ·skip
             simp only [OpV.eta, ClientV.eta, AnswerV.eta, OutcomeV.eta, MarkV.eta, CellV.eta, ParcelV.eta, PostV.eta, PeerV.eta, StepL06V.eta] at hc29
             iterate 2 refine Y_load F.lay28 ?_
             refine X_same (m := 20) rfl rfl rfl rfl rfl (by constructor) (by constructor) F.lay28 F.kinds28 rfl F.guard28 (by exact FitClientV (⟨_, _, _, _, ⟨_, _, _, _, _⟩, _⟩)) (by exact FitClientV (⟨_, _, _, _, ⟨_, _, _, _, _⟩, _⟩)) rfl rfl rfl ?_; intro c30 he31
             replace he31 : c30 = true ↔ ¬ (Segs.cells _ = Segs.cells _) := he31
             obtain rfl := neD he31 (ClientV.inj (x := ⟨_, _, _, _, ⟨_, _, _, _, _⟩, _⟩) (y := ⟨_, _, _, _, ⟨_, _, _, _, _⟩, _⟩)); clear he31
             refine Y_pick ?_
             refine Y_move ?_
             refine XD_part 98 rfl (fun hc32 => ?_) (fun hc32 => ?_)
             ·replace hc32 := nT hc32
              simp only [OpV.eta, ClientV.eta, AnswerV.eta, OutcomeV.eta, MarkV.eta, CellV.eta, ParcelV.eta, PostV.eta, PeerV.eta, StepL06V.eta] at hc32
              (exfalso; simp [eqX] at hc32; done)
             ·replace hc32 := nF hc32
              simp only [OpV.eta, ClientV.eta, AnswerV.eta, OutcomeV.eta, MarkV.eta, CellV.eta, ParcelV.eta, PostV.eta, PeerV.eta, StepL06V.eta] at hc32
              refine Y_fieldAddr F.foff45_1 ?_
              refine Y_load F.lay37 ?_
              refine Y_fieldAddr F.foff42_4 ?_
              refine Y_load F.lay37 ?_
              refine X_same (m := 20) rfl rfl rfl rfl rfl (by constructor) (by constructor) F.lay37 F.kinds37 rfl F.guard37 (by exact FitAnswerV (⟨_, _, _, _⟩)) (by exact FitAnswerV (⟨_, _, _, _⟩)) rfl rfl rfl ?_; intro c33 he34
              replace he34 : c33 = true ↔ ¬ (Segs.cells _ = Segs.cells _) := he34
              obtain rfl := neD he34 (AnswerV.inj (x := ⟨_, _, _, _⟩) (y := ⟨_, _, _, _⟩)); clear he34
              refine Y_pick ?_
              refine XD_end ?_
              refine K_then ?_
              refine Y_pk [104, 5, 4, 3, 2] ?_
              refine C_cond rfl (fun hc35 => ?_) (fun hc35 => ?_)
              ·replace hc35 := nT hc35
               simp only [OpV.eta, ClientV.eta, AnswerV.eta, OutcomeV.eta, MarkV.eta, CellV.eta, ParcelV.eta, PostV.eta, PeerV.eta, StepL06V.eta] at hc35
               (exfalso; simp [eqX] at hc35; done)
              ·replace hc35 := nF hc35
               simp only [OpV.eta, ClientV.eta, AnswerV.eta, OutcomeV.eta, MarkV.eta, CellV.eta, ParcelV.eta, PostV.eta, PeerV.eta, StepL06V.eta] at hc35
               refine C_skip ?_
               refine K_then ?_
               refine Y_pk [5, 4, 3, 2] ?_
               refine C_seq ?_
               refine C_region (l := [0, 1, 2, 3, 4, 5, 6, 7, 8, 9]) rfl ?_
               refine Y_load F.lay28 ?_
               refine Y_fieldAddr F.foff28_3 ?_
               refine Y_load F.lay24 ?_
               refine X_fs rfl rfl F.ok14 rfl (Start_ok M ⟨_, _, _, _, ⟨_, _, _, _, _⟩, _⟩ c_key 1 0 ⟨#[]⟩) rfl ?_
               rintro _ rfl
               refine XD_is 109 rfl (show _ = Value.tuple #[(ClientV.enc ⟨c_num, w64 (c_req + 1), true, c_key, ⟨c_num, w64 (c_req + 1), 1, 0, ⟨#[]⟩⟩, 0⟩), .int .i64 0] from congrArg ofPair (startC_get (isClient_idle hC) rfl _).1) ?_
               refine Y_move ?_
               iterate 2 refine Y_extract ?_
               refine Y_alloc F.zero28 ?_; intro b36
               refine Y_store F.lay28 ?_
               refine Y_assign ?_
               refine XD_end ?_
               refine K_then ?_
               refine Y_pk [15, 14, 4, 3, 2] ?_
               refine C_seq ?_
               refine C_region (l := [0, 1, 2, 3, 4, 5, 6, 7, 8, 9, 10, 11]) rfl ?_
               refine Y_load F.lay28 ?_
               refine Y_load F.lay42 ?_
               refine X_fs rfl rfl F.ok20 rfl (Take_ok M ⟨_, _, _, _, ⟨_, _, _, _, _⟩, _⟩ ⟨_, _, _, ⟨_, _, _, _, _⟩, ⟨_, _, _, _⟩, _, ⟨_, _, _, ⟨_, _, _⟩⟩⟩ (by assumption)) rfl ?_
               rintro _ rfl
               refine XD_is 115 rfl (show _ = Value.tuple #[(ClientV.enc ⟨c_num, w64 (c_req + 1), true, c_key, ⟨c_num, w64 (c_req + 1), 1, 0, ⟨#[]⟩⟩, 0⟩), (OutcomeV.enc OutcomeV.zero), .int .i64 0] from congrArg ofTri (takeR_other (startC_get (isClient_idle hC) rfl _).2 hP (by rw [hq]; exact (w64_ne _).symm))) ?_
               refine Y_move ?_
               iterate 3 refine Y_extract ?_
               refine Y_alloc F.zero28 ?_; intro b37
               refine Y_alloc F.zero45 ?_; intro b38
               refine Y_store F.lay28 ?_
               refine Y_store F.lay45 ?_
               refine Y_assign ?_
               refine XD_end ?_
               refine K_then ?_
               refine Y_pk [18, 17, 16, 15, 14, 4, 2] ?_
               refine C_seq ?_
               refine C_region (l := [0, 1, 2, 3, 4, 5, 6, 7, 8, 9, 10, 11, 12, 13, 14, 15, 16, 17, 18, 19, 20, 21, 22, 23, 24, 25, 26, 27]) rfl ?_
               refine X_fs rfl rfl F.ok16 rfl (clients_ok _ (by assumption)) rfl ?_
               rintro _ rfl
               refine Y_move ?_
               refine XD_part 120 rfl (fun hc39 => ?_) (fun hc39 => ?_)
               ·skip
                simp only [OpV.eta, ClientV.eta, AnswerV.eta, OutcomeV.eta, MarkV.eta, CellV.eta, ParcelV.eta, PostV.eta, PeerV.eta, StepL06V.eta] at hc39
                refine Y_move ?_
                refine Y_cmp ?_
                refine Y_pick ?_
                refine Y_move ?_
                refine XD_part 124 rfl (fun hc40 => ?_) (fun hc40 => ?_)
                ·replace hc40 := dT hc40
                 simp only [OpV.eta, ClientV.eta, AnswerV.eta, OutcomeV.eta, MarkV.eta, CellV.eta, ParcelV.eta, PostV.eta, PeerV.eta, StepL06V.eta] at hc40
                 refine Y_fieldAddr F.foff28_1 ?_
                 refine Y_load F.lay22 ?_
                 refine Y_fieldAddr F.foff28_1 ?_
                 refine Y_load F.lay22 ?_
                 refine X_ari rfl rfl rfl rfl rfl (by exact wrap_u64 _) rfl ?_
                 refine Y_cmp ?_
                 refine Y_pick ?_
                 refine Y_move ?_
                 refine XD_part 132 rfl (fun hc41 => ?_) (fun hc41 => ?_)
                 ·replace hc41 := dT hc41
                  simp only [OpV.eta, ClientV.eta, AnswerV.eta, OutcomeV.eta, MarkV.eta, CellV.eta, ParcelV.eta, PostV.eta, PeerV.eta, StepL06V.eta] at hc41
                  refine Y_move ?_
                  refine Y_cmp ?_
                  refine Y_pick ?_
                  refine Y_move ?_
                  refine XD_part 136 rfl (fun hc42 => ?_) (fun hc42 => ?_)
                  ·replace hc42 := dT hc42
                   simp only [OpV.eta, ClientV.eta, AnswerV.eta, OutcomeV.eta, MarkV.eta, CellV.eta, ParcelV.eta, PostV.eta, PeerV.eta, StepL06V.eta] at hc42
                   refine Y_fieldAddr F.foff45_0 ?_
                   refine Y_load F.lay4 ?_
                   refine Y_not ?_
                   refine Y_pick ?_
                   refine Y_move ?_
                   refine XD_part 141 rfl (fun hc43 => ?_) (fun hc43 => ?_)
                   ·skip
                    iterate 2 refine Y_load F.lay28 ?_
                    refine X_same (m := 20) rfl rfl rfl rfl rfl (by constructor) (by constructor) F.lay28 F.kinds28 rfl F.guard28 (by exact FitClientV (⟨_, _, _, _, ⟨_, _, _, _, _⟩, _⟩)) (by exact FitClientV (⟨_, _, _, _, ⟨_, _, _, _, _⟩, _⟩)) rfl rfl rfl ?_; intro c44 he45
                    replace he45 : c44 = true ↔ Segs.cells _ = Segs.cells _ := he45
                    obtain rfl := eqD he45 (ClientV.inj (x := ⟨_, _, _, _, ⟨_, _, _, _, _⟩, _⟩) (y := ⟨_, _, _, _, ⟨_, _, _, _, _⟩, _⟩)); clear he45
                    refine Y_pick ?_
                    refine Y_assign ?_
                    refine XD_end ?_
                    refine K_then ?_
                    refine Y_pk [4] ?_
                    refine C_ret ?_
                    refine K_end (.inr rfl) (.tmp rfl .nil) (fun w hw => ?_)
                    refine ⟨_, rfl, (hw.c), ?_⟩
                    clear hw
                    (simp; rfl)
                   ·skip
                    (exfalso; simp [eqX] at hc43; done)
                  ·replace hc42 := dF hc42
                   simp only [OpV.eta, ClientV.eta, AnswerV.eta, OutcomeV.eta, MarkV.eta, CellV.eta, ParcelV.eta, PostV.eta, PeerV.eta, StepL06V.eta] at hc42
                   (exfalso; simp [eqX] at hc42; done)
                 ·replace hc41 := dF hc41
                  simp only [OpV.eta, ClientV.eta, AnswerV.eta, OutcomeV.eta, MarkV.eta, CellV.eta, ParcelV.eta, PostV.eta, PeerV.eta, StepL06V.eta] at hc41
                  (exfalso; simp [eqX] at hc41; done)
                ·replace hc40 := dF hc40
                 simp only [OpV.eta, ClientV.eta, AnswerV.eta, OutcomeV.eta, MarkV.eta, CellV.eta, ParcelV.eta, PostV.eta, PeerV.eta, StepL06V.eta] at hc40
                 (exfalso; simp [eqX] at hc40; done)
               ·skip
                (exfalso; simp [eqX] at hc39; done)

theorem lawOnce_ok (M : Mem) (c : ClientV) (p : ParcelV) (hp0 : ParcelV.ok M p) (hEG : EG M) : Fs Tryd.prog 4 [c.enc, p.enc] M (fun v => v = .bool true) := by
  rcases takeR_cases c p with h | h | ⟨h1, h2, h3, _, _, h4, _, h⟩
  ·exact lawOnce_a M c p hp0 hEG h
  ·exact lawOnce_b M c p hp0 hEG h
  ·exact lawOnce_c M c p hp0 hEG h1 h2 h3 h4 h

end Go.Proofs.YtelpkhhfjfbkcaaDoor
