/-
  The first law.
-/
import Derived.Test.YtelpkhhfjfbkcaaDoorC13
set_option linter.unusedSimpArgs false
set_option linter.unusedVariables false
set_option linter.unnecessarySimpa false
set_option maxRecDepth 8000
namespace Go.Proofs.YtelpkhhfjfbkcaaDoor
open Go.Esp
theorem F.guard28 : Tryd.prog.eqGuardType Tryd.prog.depth 28 = false := by kernel_rfl
theorem F.kinds28 : kindsOf Tryd.prog 20 28 = some [.i .i64, .i .u64, .b, .i .u8, .i .u8, .i .u8, .i .u8, .i .u8, .i .u8, .i .u8, .i .u8, .i .u8, .i .u8, .i .u8, .i .u8, .i .u8, .i .u8, .i .u8, .i .u8, .i .u8, .i .u8, .i .u8, .i .u8, .i .i64, .i .u64, .i .i64, .i .u64, .s, .i .i64] := by kernel_rfl
theorem F.ok13 : okFn Tryd.prog 13 = true := by kernel_rfl
theorem F.ok15 : okFn Tryd.prog 15 = true := by kernel_rfl
theorem F.ok16 : okFn Tryd.prog 16 = true := by kernel_rfl

theorem lawStarts_ok (M : Mem) (num : Int) (c : ClientV) (key : Plc) (kind : Int) (version : Int) (v : ByteArray) (hEG : EG M) : Fs Tryd.prog 3 [.int .i64 num, c.enc, aggV [idSeg key], .int .i64 kind, .int .u64 version, .string v] M (fun v => v = Value.bool (true)) := by
  obtain ⟨c_num, c_req, c_busy, c_key, ⟨c_op_client, c_op_req, c_op_kind, c_op_version, c_op_val⟩, c_tries⟩ := c
  have hE := hEG
  refine fs_enter Tryd.func3 rfl Tryd.ntmps3 rfl ?_; intro H
  refine C_seq ?_
  refine C_region (l := [0, 1, 2]) rfl ?_
  refine Y_box ?_; intro b1
  refine Y_box ?_; intro b2
  refine Y_assign ?_
  refine XD_end ?_
  refine K_then ?_
  refine Y_pk [12, 8, 7, 0, 3, 4, 5] ?_
  iterate 2 refine C_seq ?_
  refine C_region (l := [0, 1, 2, 3, 4, 5, 6, 7, 8, 9]) rfl ?_
  refine Y_fieldAddr F.foff28_4 ?_
  refine Y_fieldAddr F.foff26_4 ?_
  refine Y_load F.lay9 ?_
  refine Y_len_str Tryd.underlying9 ?_
  refine Y_cmp ?_
  refine Y_move ?_
  refine XD_part 26 rfl (fun hc3 => ?_) (fun hc3 => ?_)
  ·replace hc3 := dT hc3
   iterate 3 refine Y_skip ?_
   refine Y_pick ?_
   refine XD_end ?_
   refine K_then ?_
   refine Y_pk [30, 12, 8, 7, 0, 3, 4, 5] ?_
   refine C_true rfl ?_
   refine C_seq ?_
   refine C_region (l := [0]) rfl ?_
   refine Y_assign ?_
   refine XD_end ?_
   refine K_then ?_
   refine Y_pk [12, 8, 7, 0, 3, 4, 5] ?_
   refine C_ret ?_
   refine K_ret ?_
   refine K_end (.inr rfl) (.tmp rfl .nil) (fun w hw => ?_)
   refine ⟨_, rfl, (hw.c), ?_⟩
   clear hw
   rfl
  ·replace hc3 := dF hc3
   refine Y_move ?_
   refine Y_len_str Tryd.underlying9 ?_
   refine Y_cmp ?_
   refine Y_pick ?_
   refine XD_end ?_
   refine K_then ?_
   refine Y_pk [30, 12, 8, 7, 0, 3, 4, 5] ?_
   refine C_cond rfl (fun hc4 => ?_) (fun hc4 => ?_)
   ·replace hc4 := dT hc4
    refine C_seq ?_
    refine C_region (l := [0]) rfl ?_
    refine Y_assign ?_
    refine XD_end ?_
    refine K_then ?_
    refine Y_pk [12, 8, 7, 0, 3, 4, 5] ?_
    refine C_ret ?_
    refine K_ret ?_
    refine K_end (.inr rfl) (.tmp rfl .nil) (fun w hw => ?_)
    refine ⟨_, rfl, (hw.c), ?_⟩
    clear hw
    rfl
   ·replace hc4 := dF hc4
    refine C_skip ?_
    refine K_then ?_
    refine Y_pk [12, 8, 7, 0, 3, 4, 5] ?_
    refine C_seq ?_
    refine C_region (l := [0, 1, 2, 3, 4, 5, 6, 7]) rfl ?_
    refine Y_move ?_
    refine X_fs rfl rfl F.ok12 rfl (New_ok _ _) rfl ?_
    rintro _ rfl
    refine Y_move ?_
    iterate 2 refine Y_extract ?_
    refine Y_alloc F.zero28 ?_; intro b5
    refine Y_store F.lay28 ?_
    refine Y_assign ?_
    refine XD_end ?_
    refine K_then ?_
    refine Y_pk [14, 13, 12, 8, 7, 0, 3, 4, 5] ?_
    refine C_seq ?_
    refine C_region (l := [0, 1, 2, 3, 4, 5, 6, 7]) rfl ?_
    refine Y_move ?_
    refine X_fs rfl rfl F.ok13 rfl (rNew_ok _ _) rfl ?_
    rintro _ rfl
    refine Y_move ?_
    iterate 2 refine Y_extract ?_
    refine Y_alloc F.zero28 ?_; intro b6
    refine Y_store F.lay28 ?_
    refine Y_assign ?_
    refine XD_end ?_
    refine K_then ?_
    refine Y_pk [16, 15, 14, 13, 12, 8, 7, 3, 4, 5] ?_
    refine C_seq ?_
    refine C_region (l := [0, 1, 2, 3, 4, 5, 6, 7, 8, 9, 10, 11]) rfl ?_
    refine Y_load F.lay28 ?_
    refine Y_load F.lay24 ?_
    iterate 3 refine Y_move ?_
    refine X_fs rfl rfl F.ok14 rfl (Start_ok _ ⟨_, _, _, _, ⟨_, _, _, _, _⟩, _⟩ _ _ _ _) rfl ?_
    rintro _ rfl
    refine Y_move ?_
    iterate 2 refine Y_extract ?_
    refine Y_alloc F.zero28 ?_; intro b7
    refine Y_store F.lay28 ?_
    refine Y_assign ?_
    refine XD_end ?_
    refine K_then ?_
    refine Y_pk [18, 17, 16, 15, 14, 13, 12, 8, 7, 3, 4, 5] ?_
    refine C_seq ?_
    refine C_region (l := [0, 1, 2, 3, 4, 5, 6, 7, 8, 9, 10, 11]) rfl ?_
    refine Y_load F.lay28 ?_
    refine Y_load F.lay24 ?_
    iterate 3 refine Y_move ?_
    refine X_fs rfl rfl F.ok15 rfl (rStart_ok _ ⟨_, _, _, _, ⟨_, _, _, _, _⟩, _⟩ _ _ _ _) rfl ?_
    rintro _ rfl
    refine Y_move ?_
    iterate 2 refine Y_extract ?_
    refine Y_alloc F.zero28 ?_; intro b8
    refine Y_store F.lay28 ?_
    refine Y_assign ?_
    refine XD_end ?_
    refine K_then ?_
    refine Y_pk [20, 19, 18, 17, 16, 15, 14, 13, 12, 7] ?_
    refine C_seq ?_
    refine C_region_any (l := [0, 1, 2, 3, 4, 5, 6, 7, 8, 9, 10, 11, 12, 13, 14, 15, 16, 17, 18, 19, 20, 21, 22, 23, 24, 25, 26, 27, 28]) #[0, 1, 3, 3, 15, 31, 63, 127, 127, 511, 1023, 2047, 4095, 8191, 4095, 32767, 65535, 131071, 262143, 524287, 524287, 2097151, 4194303, 8388607, 16777215, 16777215, 67108863, 134217727, 268435455] _ rfl (by kernel_rfl) (by kernel_rfl) St.drawn (fun _ h => h) ?_
    refine X_fs rfl rfl F.ok16 rfl (clients_ok _ (by assumption)) rfl ?_
    rintro _ rfl
    refine Y_move ?_
    refine XD_part 60 rfl (fun hc9 => ?_) (fun hc9 => ?_)
    ·skip
     simp only [OpV.eta, ClientV.eta, AnswerV.eta, OutcomeV.eta, MarkV.eta, CellV.eta, ParcelV.eta, PostV.eta, PeerV.eta, StepL06V.eta] at hc9
     iterate 2 refine Y_load F.lay28 ?_
     refine X_same (m := 20) rfl rfl rfl rfl rfl (by constructor) (by constructor) F.lay28 F.kinds28 rfl F.guard28 (by exact FitClientV _) (by exact FitClientV _) rfl rfl rfl ?_; intro c10 he11
     replace he11 : c10 = true ↔ Segs.cells _ = Segs.cells _ := he11
     obtain rfl := eqD he11 (ClientV.inj (x := ⟨_, _, _, _, ⟨_, _, _, _, _⟩, _⟩) (y := ⟨_, _, _, _, ⟨_, _, _, _, _⟩, _⟩)); clear he11
     refine Y_pick ?_
     refine Y_move ?_
     refine XD_part 65 rfl (fun hc12 => ?_) (fun hc12 => ?_)
     ·replace hc12 := dT hc12
      simp only [OpV.eta, ClientV.eta, AnswerV.eta, OutcomeV.eta, MarkV.eta, CellV.eta, ParcelV.eta, PostV.eta, PeerV.eta, StepL06V.eta] at hc12
      iterate 2 refine Y_move ?_
      refine Y_cmp ?_
      refine Y_pick ?_
      refine Y_move ?_
      refine XD_part 70 rfl (fun hc13 => ?_) (fun hc13 => ?_)
      ·replace hc13 := dT hc13
       simp only [OpV.eta, ClientV.eta, AnswerV.eta, OutcomeV.eta, MarkV.eta, CellV.eta, ParcelV.eta, PostV.eta, PeerV.eta, StepL06V.eta] at hc13
       refine Y_load F.lay28 ?_
       refine X_fs rfl rfl F.ok17 rfl (Is_ok _ ⟨_, _, _, _, ⟨_, _, _, _, _⟩, _⟩) rfl ?_
       rintro _ rfl
       refine Y_load F.lay28 ?_
       refine X_fs rfl rfl F.ok18 rfl (rIs_ok _ ⟨_, _, _, _, ⟨_, _, _, _, _⟩, _⟩) rfl ?_
       rintro _ rfl
       refine X_eqb rfl rfl rfl rfl rfl Tryd.underlying4 rfl ?_
       refine Y_pick ?_
       refine Y_move ?_
       refine XD_part 77 rfl (fun hc14 => ?_) (fun hc14 => ?_)
       ·replace hc14 := dT hc14
        simp only [OpV.eta, ClientV.eta, AnswerV.eta, OutcomeV.eta, MarkV.eta, CellV.eta, ParcelV.eta, PostV.eta, PeerV.eta, StepL06V.eta] at hc14
        iterate 2 refine Y_load F.lay28 ?_
        refine X_same (m := 20) rfl rfl rfl rfl rfl (by constructor) (by constructor) F.lay28 F.kinds28 rfl F.guard28 (by exact FitClientV _) (by exact FitClientV _) rfl rfl rfl ?_; intro c15 he16
        replace he16 : c15 = true ↔ Segs.cells _ = Segs.cells _ := he16
        obtain rfl := eqD he16 (ClientV.inj (x := ⟨_, _, _, _, ⟨_, _, _, _, _⟩, _⟩) (y := ⟨_, _, _, _, ⟨_, _, _, _, _⟩, _⟩)); clear he16
        refine Y_pick ?_
        refine Y_move ?_
        refine XD_part 82 rfl (fun hc17 => ?_) (fun hc17 => ?_)
        ·replace hc17 := dT hc17
         simp only [OpV.eta, ClientV.eta, AnswerV.eta, OutcomeV.eta, MarkV.eta, CellV.eta, ParcelV.eta, PostV.eta, PeerV.eta, StepL06V.eta] at hc17
         iterate 2 refine Y_move ?_
         refine Y_cmp ?_
         refine Y_pick ?_
         refine Y_assign ?_
         refine XD_end ?_
         refine K_then ?_
         refine Y_pk [12] ?_
         refine C_ret ?_
         refine K_end (.inr rfl) (.tmp rfl .nil) (fun w hw => ?_)
         refine ⟨_, rfl, (hw.c), ?_⟩
         clear hw
         (simp; rfl)
        ·replace hc17 := dF hc17
         simp only [OpV.eta, ClientV.eta, AnswerV.eta, OutcomeV.eta, MarkV.eta, CellV.eta, ParcelV.eta, PostV.eta, PeerV.eta, StepL06V.eta] at hc17
         (exfalso; simp [eqX] at hc17; done)
       ·replace hc14 := dF hc14
        simp only [OpV.eta, ClientV.eta, AnswerV.eta, OutcomeV.eta, MarkV.eta, CellV.eta, ParcelV.eta, PostV.eta, PeerV.eta, StepL06V.eta] at hc14
        (exfalso; simp [eqX] at hc14; done)
      ·replace hc13 := dF hc13
       simp only [OpV.eta, ClientV.eta, AnswerV.eta, OutcomeV.eta, MarkV.eta, CellV.eta, ParcelV.eta, PostV.eta, PeerV.eta, StepL06V.eta] at hc13
       (exfalso; simp [eqX] at hc13; done)
     ·replace hc12 := dF hc12
      simp only [OpV.eta, ClientV.eta, AnswerV.eta, OutcomeV.eta, MarkV.eta, CellV.eta, ParcelV.eta, PostV.eta, PeerV.eta, StepL06V.eta] at hc12
      (exfalso; simp [eqX] at hc12; done)
    ·skip
     (exfalso; simp [eqX] at hc9; done)

end Go.Proofs.YtelpkhhfjfbkcaaDoor
