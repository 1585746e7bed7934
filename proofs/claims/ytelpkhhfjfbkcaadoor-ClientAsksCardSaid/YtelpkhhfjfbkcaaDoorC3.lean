/-
  Answers, parcels.
-/
import Derived.Test.YtelpkhhfjfbkcaaDoorC2
set_option linter.unusedSimpArgs false
set_option linter.unusedVariables false
set_option linter.unnecessarySimpa false
set_option maxRecDepth 8000
namespace Go.Proofs.YtelpkhhfjfbkcaaDoor
open Go.Esp
theorem F.arr24 : arOf Tryd.prog 24 = some (20, 5) := by kernel_rfl
theorem F.bld37 : Bld Tryd.prog 37 [[.one (.int .i64 0)], [.one (.int .u64 0)], [.one (.bool false)], [.one (.string ⟨#[]⟩)]] := ⟨by kernel_rfl, by kernel_rfl⟩
theorem F.elem114 : slOf Tryd.prog 114 = some (29, 1, 8) := by kernel_rfl
theorem F.foff42_0 : foff Tryd.prog 42 0 = some 0 := by kernel_rfl
theorem F.foff42_1 : foff Tryd.prog 42 1 = some 1 := by kernel_rfl
theorem F.foff42_2 : foff Tryd.prog 42 2 = some 2 := by kernel_rfl
theorem F.foff42_3 : foff Tryd.prog 42 3 = some 22 := by kernel_rfl
theorem F.foff42_4 : foff Tryd.prog 42 4 = some 27 := by kernel_rfl
theorem F.foff42_5 : foff Tryd.prog 42 5 = some 31 := by kernel_rfl
theorem F.foff42_6 : foff Tryd.prog 42 6 = some 32 := by kernel_rfl
theorem F.guard24 : Tryd.prog.eqGuardType Tryd.prog.depth 24 = false := by kernel_rfl
theorem F.guard37 : Tryd.prog.eqGuardType Tryd.prog.depth 37 = false := by kernel_rfl
theorem F.kinds24 : kindsOf Tryd.prog 20 24 = some [.i .u8, .i .u8, .i .u8, .i .u8, .i .u8, .i .u8, .i .u8, .i .u8, .i .u8, .i .u8, .i .u8, .i .u8, .i .u8, .i .u8, .i .u8, .i .u8, .i .u8, .i .u8, .i .u8, .i .u8] := by kernel_rfl
theorem F.kinds37 : kindsOf Tryd.prog 20 37 = some [.i .i64, .i .u64, .b, .s] := by kernel_rfl
theorem F.ok60 : okFn Tryd.prog 60 = true := by kernel_rfl
theorem F.ok61 : okFn Tryd.prog 61 = true := by kernel_rfl
theorem F.ok62 : okFn Tryd.prog 62 = true := by kernel_rfl
theorem F.ok71 : okFn Tryd.prog 71 = true := by kernel_rfl
theorem F.ok72 : okFn Tryd.prog 72 = true := by kernel_rfl
theorem F.ok73 : okFn Tryd.prog 73 = true := by kernel_rfl
theorem F.ok79 : okFn Tryd.prog 79 = true := by kernel_rfl
theorem F.ok80 : okFn Tryd.prog 80 = true := by kernel_rfl
theorem F.ok90 : okFn Tryd.prog 90 = true := by kernel_rfl
theorem F.zero24 : zeroOf Tryd.prog 24 = some (aggV [idSeg 0]) := by rw [idSeg0]; kernel_rfl
theorem F.zero29 : zeroOf Tryd.prog 29 = some ((.int .i64 0)) := by kernel_rfl

theorem codes_ok (M : Mem) (b : Nat) : Fh Tryd.prog 80 [.slice (some ⟨b, 0, none⟩) 2 2] M [(b, .cells (rowsCells [oneI .i64 7, oneI .i64 9]).toArray 29 (0, 0))] (fun M' v Hout => M' = M ∧ OSl 29 1 v Hout [oneI .i64 0, oneI .i64 8, oneI .i64 7, oneI .i64 9]) := by
  refine fh_enter Tryd.func80 rfl Tryd.ntmps80 rfl ?_; intro H
  refine C_seq ?_
  refine C_region (l := [0]) rfl ?_
  refine Y_assign ?_
  refine XD_end ?_
  refine K_then ?_
  refine C_seq ?_
  refine C_region (l := [0, 1, 2, 3]) rfl ?_
  refine X_buildSliceF rfl rfl F.elem114 F.zero29 rfl rfl (.cons rfl (by constructor) (.cons rfl (by constructor) .nil)) rfl rfl (by simp only [List.map_cons, List.map_nil] <;> rfl) rfl ?_; intro b1 hob2
  refine Y_move ?_
  refine X_append (m := 1000000) rfl rfl rfl rfl rfl F.elem114 F.zero29 rfl rfl (by assumption) (by repeat first | exact Rem.here _ | exact Rem.two | apply Rem.skip | apply Rem.over) (Src.own (E := 29) (news := [oneI .i64 7, oneI .i64 9]) (by simp [lens, oneI, Segs.len, Seg.len]) (by simp [rowsCells, oneI, Segs.cells, Seg.cells, Value.oneCell']) rfl (by repeat first | exact List.Mem.head _ | refine List.Mem.tail _ ?_ | refine List.mem_append_right _ ?_)) (by (simp; done)) (by decide) rfl ?_; intro v5 hs4 ho3; obtain ⟨adv5, cpv5, rfl⟩ := ho3.val
  refine Y_assign ?_
  refine XD_end ?_
  refine K_then ?_
  refine Y_pk [2] ?_
  refine C_ret ?_
  refine K_end (.inr rfl) (.tmp rfl .nil) (fun w hw => ?_)
  exact ⟨_, M, hs4, rfl, Mem.le.refl M, hw.c, rfl, ho3⟩

theorem IndexE_rd (M : Mem) (Hin : Hp) (l : Sl Int) (x : Int) (hl : RdS M Hin l.a (l.l.map (oneI .i64)) 1) (bl : l.l.length ≤ 9223372036854775807) : Fo Tryd.prog 90 [l.val, .int .i64 x] M Hin (fun M' v => M' = M ∧ v = .int .i64 (idxI x l.l)) := by
  have nl : (l.l.map (oneI .i64)).length = l.l.length := List.length_map ..
  refine fo_enter Tryd.func90 rfl Tryd.ntmps90 rfl ?_; intro H
  have hrd := hl.app H
  refine C_seq ?_
  refine C_region (l := [0]) rfl ?_
  refine Y_assign ?_
  refine XD_end ?_
  refine K_then ?_
  iterate 2 refine C_seq ?_
  refine C_region (l := [0, 1, 2]) rfl ?_
  refine Y_move ?_
  refine Y_len_sl F.elem114 ?_
  refine Y_move ?_
  refine XD_end ?_
  refine K_then ?_
  refine Y_pk [8, 7, 4, 0, 1] ?_
  refine C_block ?_
  refine Y_pk [8, 7, 4, 0, 1] ?_
  refine C_loopS (.succ .zero) (fun (k : Nat) z => z = [(8, .int .i64 (k : Int))] ∧ k ≤ l.l.length ∧ (x ∉ l.l.take k)) (fun k => l.l.length - k) (0) (⟨rfl, by omega, by simp⟩) ?_
  rintro k _ ⟨rfl, hk, hI⟩
  refine C_seq ?_
  refine C_region (l := [0]) rfl ?_
  refine Y_cmp ?_
  refine XD_end ?_
  refine K_then ?_
  refine C_seq ?_
  refine C_cond rfl (fun hc1 => ?_) (fun hc1 => ?_)
  ·replace hc1 := dT hc1
   refine C_skip ?_
   refine K_then ?_
   refine C_seq ?_
   refine C_block ?_
   refine C_seq ?_
   refine C_region (l := [0, 1]) rfl ?_
   refine Y_move ?_
   refine Y_assign ?_
   refine XD_end ?_
   refine K_then ?_
   refine C_seq ?_
   refine C_region (l := [0, 1, 2, 3, 4, 5]) rfl ?_
   iterate 3 refine Y_move ?_
   refine X_indexAddr rfl rfl rfl rfl F.elem114 (by rfl) (by omega) (by exact RdS.plain (by assumption) (by (simp; omega))) rfl ?_
   refine X_load_rd rfl rfl rfl (by assumption) (by exact row_map (by omega)) F.lay29 rfl rfl rfl ?_
   refine Y_cmp ?_
   refine XD_end ?_
   refine K_then ?_
   refine C_cond rfl (fun hc2 => ?_) (fun hc2 => ?_)
   ·replace hc2 := dT hc2
    refine C_seq ?_
    refine C_region (l := [0, 1]) rfl ?_
    refine Y_move ?_
    refine Y_assign ?_
    refine XD_end ?_
    refine K_then ?_
    refine C_ret ?_
    refine K_retB ?_
    iterate 2 refine K_ret ?_
    refine K_retB ?_
    refine K_ret ?_
    refine K_end (.inr rfl) (.tmp rfl .nil) (fun w hw => ?_)
    refine ⟨_, M, rfl, Mem.le.refl M, hw.c, rfl, ?_⟩
    refine congrArg (Value.int .i64) ?_
    exact (idxI_at (by omega) hI (by assumption)).symm
   ·replace hc2 := dF hc2
    refine C_skip ?_
    refine K_out ?_
    refine K_then ?_
    refine C_region (l := [0, 1]) rfl ?_
    refine X_ari rfl rfl rfl rfl rfl (by exact wrap_in (by decide) (by omega)) rfl ?_
    refine Y_move ?_
    refine XD_end ?_
    refine K_roundS (a' := [(8, _)]) (k + 1) (.cons (k := 8) rfl (.cons (k := 7) rfl (.cons (k := 4) rfl (.cons (k := 0) rfl (.cons (k := 1) rfl (.nil)))))) (fun w hw => by first | exact hw | exact hw.c) ?_ ?_
    ·refine ⟨rfl, by omega, ?_⟩
     exact not_take_succ (by omega) hI (by assumption)
    ·omega
  ·replace hc1 := dF hc1
   refine C_exit ?_
   iterate 2 refine K_exit ?_
   refine K_hit ?_
   refine K_then ?_
   refine Y_pk [4] ?_
   refine C_seq ?_
   refine C_region (l := [0]) rfl ?_
   refine Y_assign ?_
   refine XD_end ?_
   refine K_then ?_
   refine C_ret ?_
   refine K_end (.inr rfl) (.tmp rfl .nil) (fun w hw => ?_)
   refine ⟨_, M, rfl, Mem.le.refl M, hw.c, rfl, ?_⟩
   refine congrArg (Value.int .i64) ?_
   (have hk9 : k = l.l.length := (by omega); subst hk9; rw [List.take_length] at hI; exact (idxI_none hI).symm)

theorem ContainsE_rd (M : Mem) (Hin : Hp) (l : Sl Int) (x : Int) (hl : RdS M Hin l.a (l.l.map (oneI .i64)) 1) (bl : l.l.length ≤ 9223372036854775807) : Fo Tryd.prog 79 [l.val, .int .i64 x] M Hin (fun M' v => M' = M ∧ v = .bool (decide (x ∈ l.l))) := by
  refine fo_enter Tryd.func79 rfl Tryd.ntmps79 rfl ?_; intro H
  refine C_seq ?_
  refine C_region (l := [0]) rfl ?_
  refine Y_assign ?_
  refine XD_end ?_
  refine K_then ?_
  refine C_seq ?_
  refine C_region (l := [0, 1, 2, 3, 4]) rfl ?_
  iterate 2 refine Y_move ?_
  refine X_fo rfl rfl F.ok90 rfl (IndexE_rd _ Hin ⟨_, _, _⟩ _ hl bl) (by repeat first | exact Rem.here _ | exact Rem.two | apply Rem.skip | apply Rem.over) (putE_some rfl) ?_
  rintro _ M1 _ ⟨hM1, rfl⟩; subst M1
  refine Y_cmp ?_
  refine Y_assign ?_
  refine XD_end ?_
  refine K_then ?_
  refine Y_pk [4] ?_
  refine C_ret ?_
  refine K_end (.inr rfl) (.tmp rfl .nil) (fun w hw => ?_)
  exact ⟨_, M, rfl, Mem.le.refl M, hw.c, rfl, congrArg Value.bool (by simp [idxI_nn])⟩

theorem IndexE_ok (M : Mem) (l : Sl Int) (x : Int) (hl : SlM M l.a (l.l.map (oneI .i64)) 1) (bl : l.l.length ≤ maxLen) : Fs Tryd.prog 90 [l.val, .int .i64 x] M (fun v => v = .int .i64 (idxI x l.l)) :=
  fs_of_fo (IndexE_rd M [] l x (hl.rd []) bl)

theorem ContainsE_ok (M : Mem) (l : Sl Int) (x : Int) (hl : SlM M l.a (l.l.map (oneI .i64)) 1) (bl : l.l.length ≤ maxLen) : Fs Tryd.prog 79 [l.val, .int .i64 x] M (fun v => v = .bool (decide (x ∈ l.l))) :=
  fs_of_fo (ContainsE_rd M [] l x (hl.rd []) bl)

theorem pA_ok (M : Mem) (a : AnswerV) : Fs Tryd.prog 61 [a.enc] M (fun v => v = Value.bool (decide (OkAnswer a))) := by
  obtain ⟨a_code, a_version, a_has, a_val⟩ := a
  refine fs_enter Tryd.func61 rfl Tryd.ntmps61 rfl ?_; intro H
  refine C_seq ?_
  refine C_region (l := [0, 1]) rfl ?_
  refine Y_box ?_; intro b1
  refine Y_assign ?_
  refine XD_end ?_
  refine K_then ?_
  refine Y_pk [2, 1] ?_
  refine C_seq ?_
  refine C_region_any (l := [0, 1, 2, 3, 4, 5, 6, 7, 8, 9, 10, 11, 12, 13, 14, 15, 16, 17, 18, 19, 20]) #[0, 1, 0, 4, 15, 31, 63, 127, 255, 511, 1023, 2047, 4095, 8191, 16383, 32767, 65535, 131071, 262143, 524287, 1048575] _ rfl (by kernel_rfl) (by kernel_rfl) St.drawn (fun _ h => h) ?_
  refine X_buildSliceF rfl rfl F.elem114 F.zero29 rfl rfl (.cons rfl (by constructor) (.cons rfl (by constructor) .nil)) rfl rfl (by simp only [List.map_cons, List.map_nil] <;> rfl) rfl ?_; intro b2 hob3
  refine X_fhR rfl rfl F.ok80 rfl (codes_ok M _) (by repeat first | exact Rem.here _ | exact Rem.two | apply Rem.skip | apply Rem.over) (fun _ _ _ hm hw => (hw.lower (by exact hm)).c) (putE_some rfl) ?_
  rintro _ M1 hs1 _ ⟨hM1, ho1⟩; subst M1
  obtain ⟨ad1, cp1, rfl⟩ := ho1.val
  refine Y_fieldAddr F.foff37_0 ?_
  refine Y_load F.lay29 ?_
  refine X_fo rfl rfl F.ok79 rfl (ContainsE_rd _ hs1 ⟨_, _, [0, 8, 7, 9]⟩ _ (OSl.rd ho1 _) (by simp)) (by repeat first | exact Rem.here _ | exact Rem.two | apply Rem.skip | apply Rem.over) (putE_some rfl) ?_
  rintro _ M1 _ ⟨hM1, rfl⟩; subst M1
  refine Y_move ?_
  refine XD_part 8 rfl (fun hc4 => ?_) (fun hc4 => ?_)
  ·replace hc4 := dT hc4
   simp only [OpV.eta, ClientV.eta, AnswerV.eta, OutcomeV.eta, MarkV.eta, CellV.eta, ParcelV.eta, PostV.eta, PeerV.eta, StepL06V.eta] at hc4
   refine Y_fieldAddr F.foff37_3 ?_
   refine Y_load F.lay9 ?_
   refine Y_len_str Tryd.underlying9 ?_
   refine Y_cmp ?_
   refine Y_pick ?_
   refine Y_move ?_
   refine XD_part 14 rfl (fun hc5 => ?_) (fun hc5 => ?_)
   ·replace hc5 := dT hc5
    refine Y_fieldAddr F.foff37_2 ?_
    refine Y_load F.lay4 ?_
    refine Y_move ?_
    refine XD_part 17 rfl (fun hc6 => ?_) (fun hc6 => ?_)
    ·skip
     iterate 3 refine Y_skip ?_
     iterate 2 refine Y_pick ?_
     refine Y_assign ?_
     refine XD_end ?_
     refine K_then ?_
     refine Y_pk [2] ?_
     refine C_ret ?_
     refine K_end (.inr rfl) (.tmp rfl .nil) (fun w hw => ?_)
     refine ⟨_, rfl, (hw.c), ?_⟩
     clear hw
     refine congrArg Value.bool (a₁ := _) ?_
     grind [w64, OkAnswer]
    ·skip
     refine Y_fieldAddr F.foff37_3 ?_
     refine Y_load F.lay9 ?_
     refine Y_str ?_
     iterate 2 refine Y_pick ?_
     refine Y_assign ?_
     refine XD_end ?_
     refine K_then ?_
     refine Y_pk [2] ?_
     refine C_ret ?_
     refine K_end (.inr rfl) (.tmp rfl .nil) (fun w hw => ?_)
     refine ⟨_, rfl, (hw.c), ?_⟩
     clear hw
     refine congrArg Value.bool (a₁ := _) ?_
     grind [w64, OkAnswer]
   ·replace hc5 := dF hc5
    iterate 7 refine Y_skip ?_
    refine Y_pick ?_
    refine Y_assign ?_
    refine XD_end ?_
    refine K_then ?_
    refine Y_pk [2] ?_
    refine C_ret ?_
    refine K_end (.inr rfl) (.tmp rfl .nil) (fun w hw => ?_)
    refine ⟨_, rfl, (hw.c), ?_⟩
    clear hw
    refine congrArg Value.bool (a₁ := _) ?_
    grind [w64, OkAnswer]
  ·replace hc4 := dF hc4
   simp only [OpV.eta, ClientV.eta, AnswerV.eta, OutcomeV.eta, MarkV.eta, CellV.eta, ParcelV.eta, PostV.eta, PeerV.eta, StepL06V.eta] at hc4
   iterate 4 refine Y_skip ?_
   refine Y_pick ?_
   refine Y_move ?_
   iterate 7 refine Y_skip ?_
   refine Y_pick ?_
   refine Y_assign ?_
   refine XD_end ?_
   refine K_then ?_
   refine Y_pk [2] ?_
   refine C_ret ?_
   refine K_end (.inr rfl) (.tmp rfl .nil) (fun w hw => ?_)
   refine ⟨_, rfl, (hw.c), ?_⟩
   clear hw
   refine congrArg Value.bool (a₁ := _) ?_
   grind [w64, OkAnswer]

theorem pIs_ok (M : Mem) (p : ParcelV) (hp0 : ParcelV.ok M p) : Fs Tryd.prog 28 [p.enc] M (fun v => v = Value.bool (decide (IsParcel p))) := by
  obtain ⟨p_kind, p_epoch, p_key, ⟨p_op_client, p_op_req, p_op_kind, p_op_version, p_op_val⟩, ⟨p_answer_code, p_answer_version, p_answer_has, p_answer_val⟩, p_serial, ⟨p_cell_version, p_cell_has, p_cell_val, ⟨p_cell_marks_a, p_cell_marks_c, p_cell_marks_l⟩⟩⟩ := p
  have k_p_cell : CellV.ok M ⟨p_cell_version, p_cell_has, p_cell_val, ⟨p_cell_marks_a, p_cell_marks_c, p_cell_marks_l⟩⟩ := hp0.h0
  have s_p_cell_marks : SlM M p_cell_marks_a (p_cell_marks_l.map MarkV.segs) 6 := hp0.h0.h0
  have n_p_cell_marks : (p_cell_marks_l.map MarkV.segs).length = p_cell_marks_l.length := List.length_map ..
  have m_p_cell_marks : p_cell_marks_l.length ≤ 9223372036854775807 := hp0.h0.h1
  refine fs_enter Tryd.func28 rfl Tryd.ntmps28 rfl ?_; intro H
  refine C_seq ?_
  refine C_region (l := [0, 1]) rfl ?_
  refine Y_box ?_; intro b1
  refine Y_assign ?_
  refine XD_end ?_
  refine K_then ?_
  refine Y_pk [2, 1] ?_
  refine C_seq ?_
  refine C_region (l := [0, 1, 2, 3, 4, 5, 6, 7, 8]) rfl ?_
  refine Y_fieldAddr F.foff42_3 ?_
  refine Y_fieldAddr F.foff26_0 ?_
  refine Y_load F.lay3 ?_
  refine Y_fieldAddr F.foff42_3 ?_
  refine Y_fieldAddr F.foff26_1 ?_
  refine Y_load F.lay22 ?_
  refine X_build rfl rfl F.bld26 (.cons rfl (by constructor) (.cons rfl (by constructor) .nil)) rfl rfl ?_
  refine Y_alloc F.zero26 ?_; intro b2
  refine Y_store F.lay26 ?_
  refine XD_end ?_
  refine K_then ?_
  refine Y_pk [3, 2, 1] ?_
  refine C_seq ?_
  refine C_region_any (l := [0, 1, 2, 3, 4, 5, 6, 7, 8, 9, 10, 11, 12, 13, 14]) #[0, 1, 0, 7, 0, 16, 0, 112, 0, 256, 0, 1792, 15, 4351, 16383] _ rfl (by kernel_rfl) (by kernel_rfl) St.drawn (fun _ h => h) ?_
  refine Y_fieldAddr F.foff42_2 ?_
  refine Y_load F.lay24 ?_
  refine X_build0 rfl rfl F.zero24 F.arr24 rfl ?_
  refine X_same (m := 20) rfl rfl rfl rfl rfl (by constructor) (by constructor) F.lay24 F.kinds24 rfl F.guard24 (fit_id fit_nil) (fit_id fit_nil) rfl rfl rfl ?_; intro c3 he4
  replace he4 : c3 = true ↔ Segs.cells _ = Segs.cells _ := he4
  obtain rfl := eqD he4 (cells_id1 (x := _) (y := _)); clear he4
  refine Y_fieldAddr F.foff42_3 ?_
  refine Y_load F.lay26 ?_
  refine X_build rfl rfl F.bld26 (.nil) rfl rfl ?_
  refine X_same (m := 20) rfl rfl rfl rfl rfl (by constructor) (by constructor) F.lay26 F.kinds26 rfl F.guard26 (by exact FitOpV (⟨_, _, _, _, _⟩)) (by exact FitOpV (⟨_, _, _, _, _⟩)) rfl rfl rfl ?_; intro c5 he6
  replace he6 : c5 = true ↔ Segs.cells _ = Segs.cells _ := he6
  obtain rfl := eqD he6 (OpV.inj (x := ⟨_, _, _, _, _⟩) (y := ⟨_, _, _, _, _⟩)); clear he6
  refine Y_fieldAddr F.foff42_4 ?_
  refine Y_load F.lay37 ?_
  refine X_build rfl rfl F.bld37 (.nil) rfl rfl ?_
  refine X_same (m := 20) rfl rfl rfl rfl rfl (by constructor) (by constructor) F.lay37 F.kinds37 rfl F.guard37 (by exact FitAnswerV (⟨_, _, _, _⟩)) (by exact FitAnswerV (⟨_, _, _, _⟩)) rfl rfl rfl ?_; intro c7 he8
  replace he8 : c7 = true ↔ Segs.cells _ = Segs.cells _ := he8
  obtain rfl := eqD he8 (AnswerV.inj (x := ⟨_, _, _, _⟩) (y := ⟨_, _, _, _⟩)); clear he8
  iterate 3 refine Y_assign ?_
  refine XD_end ?_
  refine K_then ?_
  refine Y_pk [6, 5, 4, 3, 2, 1] ?_
  iterate 2 refine C_seq ?_
  refine C_region (l := [0, 1]) rfl ?_
  refine Y_fieldAddr F.foff42_0 ?_
  refine Y_load F.lay3 ?_
  refine XD_end ?_
  refine K_then ?_
  refine Y_pk [27, 6, 5, 4, 3, 2, 1] ?_
  refine C_block ?_
  refine C_seq ?_
  refine C_region (l := [0, 1]) rfl ?_
  refine Y_cmp ?_
  refine Y_assign ?_
  refine XD_end ?_
  refine K_then ?_
  refine Y_pk [28, 27, 6, 5, 4, 3, 2, 1] ?_
  refine C_cond rfl (fun hc9 => ?_) (fun hc9 => ?_)
  ·replace hc9 := dT hc9
   refine C_seq ?_
   refine C_region (l := [0, 1, 2, 3, 4, 5, 6, 7, 8, 9, 10, 11, 12, 13, 14, 15, 16]) rfl ?_
   refine Y_fieldAddr F.foff42_3 ?_
   refine Y_load F.lay26 ?_
   refine X_fs rfl rfl F.ok47 rfl (cIsOp_ok _ ⟨_, _, _, _, _⟩) rfl ?_
   rintro _ rfl
   refine Y_move ?_
   refine XD_part 33 rfl (fun hc10 => ?_) (fun hc10 => ?_)
   ·replace hc10 := dT hc10
    refine Y_move ?_
    refine Y_pick ?_
    refine Y_move ?_
    refine XD_part 36 rfl (fun hc11 => ?_) (fun hc11 => ?_)
    ·replace hc11 := dT hc11
     refine Y_fieldAddr F.foff42_5 ?_
     refine Y_load F.lay22 ?_
     refine Y_cmp ?_
     refine Y_pick ?_
     refine Y_move ?_
     refine XD_part 41 rfl (fun hc12 => ?_) (fun hc12 => ?_)
     ·replace hc12 := dT hc12
      refine Y_fieldAddr F.foff42_6 ?_
      refine Y_load F.lay40 ?_
      refine X_fs rfl rfl F.ok60 rfl (pbare_ok _ ⟨_, _, _, ⟨_, _, _⟩⟩ (by assumption)) rfl ?_
      rintro _ rfl
      refine Y_pick ?_
      refine Y_assign ?_
      refine XD_end ?_
      refine K_then ?_
      refine Y_pk [2] ?_
      refine C_ret ?_
      refine K_retB ?_
      refine K_ret ?_
      refine K_end (.inr rfl) (.tmp rfl .nil) (fun w hw => ?_)
      refine ⟨_, rfl, (hw.c), ?_⟩
      clear hw
      refine congrArg Value.bool (a₁ := _) ?_
      grind [w64, IsParcel, AnswerV.zero, OpV.zero]
     ·replace hc12 := dF hc12
      iterate 3 refine Y_skip ?_
      refine Y_pick ?_
      refine Y_assign ?_
      refine XD_end ?_
      refine K_then ?_
      refine Y_pk [2] ?_
      refine C_ret ?_
      refine K_retB ?_
      refine K_ret ?_
      refine K_end (.inr rfl) (.tmp rfl .nil) (fun w hw => ?_)
      refine ⟨_, rfl, (hw.c), ?_⟩
      clear hw
      refine congrArg Value.bool (a₁ := _) ?_
      grind [w64, IsParcel, AnswerV.zero, OpV.zero]
    ·replace hc11 := dF hc11
     iterate 3 refine Y_skip ?_
     refine Y_pick ?_
     refine Y_move ?_
     iterate 3 refine Y_skip ?_
     refine Y_pick ?_
     refine Y_assign ?_
     refine XD_end ?_
     refine K_then ?_
     refine Y_pk [2] ?_
     refine C_ret ?_
     refine K_retB ?_
     refine K_ret ?_
     refine K_end (.inr rfl) (.tmp rfl .nil) (fun w hw => ?_)
     refine ⟨_, rfl, (hw.c), ?_⟩
     clear hw
     refine congrArg Value.bool (a₁ := _) ?_
     grind [w64, IsParcel, AnswerV.zero, OpV.zero]
   ·replace hc10 := dF hc10
    refine Y_skip ?_
    refine Y_pick ?_
    refine Y_move ?_
    iterate 3 refine Y_skip ?_
    refine Y_pick ?_
    refine Y_move ?_
    iterate 3 refine Y_skip ?_
    refine Y_pick ?_
    refine Y_assign ?_
    refine XD_end ?_
    refine K_then ?_
    refine Y_pk [2] ?_
    refine C_ret ?_
    refine K_retB ?_
    refine K_ret ?_
    refine K_end (.inr rfl) (.tmp rfl .nil) (fun w hw => ?_)
    refine ⟨_, rfl, (hw.c), ?_⟩
    clear hw
    refine congrArg Value.bool (a₁ := _) ?_
    grind [w64, IsParcel, AnswerV.zero, OpV.zero]
  ·replace hc9 := dF hc9
   refine C_seq ?_
   refine C_region (l := [0, 1]) rfl ?_
   refine Y_cmp ?_
   refine Y_assign ?_
   refine XD_end ?_
   refine K_then ?_
   refine Y_pk [46, 27, 6, 5, 4, 3, 2, 1] ?_
   refine C_cond rfl (fun hc13 => ?_) (fun hc13 => ?_)
   ·replace hc13 := dT hc13
    refine C_seq ?_
    refine C_region (l := [0, 1, 2, 3, 4, 5, 6, 7, 8, 9, 10, 11, 12, 13, 14, 15, 16, 17, 18, 19, 20, 21, 22, 23, 24, 25, 26, 27, 28, 29, 30, 31, 32]) rfl ?_
    iterate 2 refine Y_move ?_
    refine XD_part 49 rfl (fun hc14 => ?_) (fun hc14 => ?_)
    ·replace hc14 := dT hc14
     refine Y_fieldAddr F.foff42_3 ?_
     iterate 2 refine Y_load F.lay26 ?_
     refine X_same (m := 20) rfl rfl rfl rfl rfl (by constructor) (by constructor) F.lay26 F.kinds26 rfl F.guard26 (by exact FitOpV (⟨_, _, _, _, _⟩)) (by exact FitOpV (⟨_, _, _, _, _⟩)) rfl rfl rfl ?_; intro c15 he16
     replace he16 : c15 = true ↔ Segs.cells _ = Segs.cells _ := he16
     obtain rfl := eqD he16 (OpV.inj (x := ⟨_, _, _, _, _⟩) (y := ⟨_, _, _, _, _⟩)); clear he16
     refine Y_pick ?_
     refine Y_move ?_
     refine XD_part 55 rfl (fun hc17 => ?_) (fun hc17 => ?_)
     ·replace hc17 := dT hc17
      refine Y_fieldAddr F.foff26_0 ?_
      refine Y_load F.lay3 ?_
      refine Y_cmp ?_
      refine Y_pick ?_
      refine Y_move ?_
      refine XD_part 60 rfl (fun hc18 => ?_) (fun hc18 => ?_)
      ·replace hc18 := dT hc18
       refine Y_fieldAddr F.foff26_0 ?_
       refine Y_load F.lay3 ?_
       refine Y_cmp ?_
       refine Y_pick ?_
       refine Y_move ?_
       refine XD_part 65 rfl (fun hc19 => ?_) (fun hc19 => ?_)
       ·replace hc19 := dT hc19
        refine Y_fieldAddr F.foff42_4 ?_
        refine Y_load F.lay37 ?_
        refine X_fs rfl rfl F.ok61 rfl (pA_ok _ ⟨_, _, _, _⟩) rfl ?_
        rintro _ rfl
        refine Y_pick ?_
        refine Y_move ?_
        refine XD_part 70 rfl (fun hc20 => ?_) (fun hc20 => ?_)
        ·replace hc20 := dT hc20
         refine Y_fieldAddr F.foff42_5 ?_
         refine Y_load F.lay22 ?_
         refine Y_cmp ?_
         refine Y_pick ?_
         refine Y_move ?_
         refine XD_part 75 rfl (fun hc21 => ?_) (fun hc21 => ?_)
         ·replace hc21 := dT hc21
          refine Y_fieldAddr F.foff42_6 ?_
          refine Y_load F.lay40 ?_
          refine X_fs rfl rfl F.ok60 rfl (pbare_ok _ ⟨_, _, _, ⟨_, _, _⟩⟩ (by assumption)) rfl ?_
          rintro _ rfl
          refine Y_pick ?_
          refine Y_assign ?_
          refine XD_end ?_
          refine K_then ?_
          refine Y_pk [2] ?_
          refine C_ret ?_
          refine K_retB ?_
          refine K_ret ?_
          refine K_end (.inr rfl) (.tmp rfl .nil) (fun w hw => ?_)
          refine ⟨_, rfl, (hw.c), ?_⟩
          clear hw
          refine congrArg Value.bool (a₁ := _) ?_
          grind [w64, IsParcel, AnswerV.zero, OpV.zero]
         ·replace hc21 := dF hc21
          iterate 3 refine Y_skip ?_
          refine Y_pick ?_
          refine Y_assign ?_
          refine XD_end ?_
          refine K_then ?_
          refine Y_pk [2] ?_
          refine C_ret ?_
          refine K_retB ?_
          refine K_ret ?_
          refine K_end (.inr rfl) (.tmp rfl .nil) (fun w hw => ?_)
          refine ⟨_, rfl, (hw.c), ?_⟩
          clear hw
          refine congrArg Value.bool (a₁ := _) ?_
          grind [w64, IsParcel, AnswerV.zero, OpV.zero]
        ·replace hc20 := dF hc20
         iterate 3 refine Y_skip ?_
         refine Y_pick ?_
         refine Y_move ?_
         iterate 3 refine Y_skip ?_
         refine Y_pick ?_
         refine Y_assign ?_
         refine XD_end ?_
         refine K_then ?_
         refine Y_pk [2] ?_
         refine C_ret ?_
         refine K_retB ?_
         refine K_ret ?_
         refine K_end (.inr rfl) (.tmp rfl .nil) (fun w hw => ?_)
         refine ⟨_, rfl, (hw.c), ?_⟩
         clear hw
         refine congrArg Value.bool (a₁ := _) ?_
         grind [w64, IsParcel, AnswerV.zero, OpV.zero]
       ·replace hc19 := dF hc19
        iterate 3 refine Y_skip ?_
        refine Y_pick ?_
        refine Y_move ?_
        iterate 3 refine Y_skip ?_
        refine Y_pick ?_
        refine Y_move ?_
        iterate 3 refine Y_skip ?_
        refine Y_pick ?_
        refine Y_assign ?_
        refine XD_end ?_
        refine K_then ?_
        refine Y_pk [2] ?_
        refine C_ret ?_
        refine K_retB ?_
        refine K_ret ?_
        refine K_end (.inr rfl) (.tmp rfl .nil) (fun w hw => ?_)
        refine ⟨_, rfl, (hw.c), ?_⟩
        clear hw
        refine congrArg Value.bool (a₁ := _) ?_
        grind [w64, IsParcel, AnswerV.zero, OpV.zero]
      ·replace hc18 := dF hc18
       iterate 3 refine Y_skip ?_
       refine Y_pick ?_
       refine Y_move ?_
       iterate 3 refine Y_skip ?_
       refine Y_pick ?_
       refine Y_move ?_
       iterate 3 refine Y_skip ?_
       refine Y_pick ?_
       refine Y_move ?_
       iterate 3 refine Y_skip ?_
       refine Y_pick ?_
       refine Y_assign ?_
       refine XD_end ?_
       refine K_then ?_
       refine Y_pk [2] ?_
       refine C_ret ?_
       refine K_retB ?_
       refine K_ret ?_
       refine K_end (.inr rfl) (.tmp rfl .nil) (fun w hw => ?_)
       refine ⟨_, rfl, (hw.c), ?_⟩
       clear hw
       refine congrArg Value.bool (a₁ := _) ?_
       grind [w64, IsParcel, AnswerV.zero, OpV.zero]
     ·replace hc17 := dF hc17
      iterate 3 refine Y_skip ?_
      refine Y_pick ?_
      refine Y_move ?_
      iterate 3 refine Y_skip ?_
      refine Y_pick ?_
      refine Y_move ?_
      iterate 3 refine Y_skip ?_
      refine Y_pick ?_
      refine Y_move ?_
      iterate 3 refine Y_skip ?_
      refine Y_pick ?_
      refine Y_move ?_
      iterate 3 refine Y_skip ?_
      refine Y_pick ?_
      refine Y_assign ?_
      refine XD_end ?_
      refine K_then ?_
      refine Y_pk [2] ?_
      refine C_ret ?_
      refine K_retB ?_
      refine K_ret ?_
      refine K_end (.inr rfl) (.tmp rfl .nil) (fun w hw => ?_)
      refine ⟨_, rfl, (hw.c), ?_⟩
      clear hw
      refine congrArg Value.bool (a₁ := _) ?_
      grind [w64, IsParcel, AnswerV.zero, OpV.zero]
    ·replace hc14 := dF hc14
     iterate 4 refine Y_skip ?_
     refine Y_pick ?_
     refine Y_move ?_
     iterate 3 refine Y_skip ?_
     refine Y_pick ?_
     refine Y_move ?_
     iterate 3 refine Y_skip ?_
     refine Y_pick ?_
     refine Y_move ?_
     iterate 3 refine Y_skip ?_
     refine Y_pick ?_
     refine Y_move ?_
     iterate 3 refine Y_skip ?_
     refine Y_pick ?_
     refine Y_move ?_
     iterate 3 refine Y_skip ?_
     refine Y_pick ?_
     refine Y_assign ?_
     refine XD_end ?_
     refine K_then ?_
     refine Y_pk [2] ?_
     refine C_ret ?_
     refine K_retB ?_
     refine K_ret ?_
     refine K_end (.inr rfl) (.tmp rfl .nil) (fun w hw => ?_)
     refine ⟨_, rfl, (hw.c), ?_⟩
     clear hw
     refine congrArg Value.bool (a₁ := _) ?_
     grind [w64, IsParcel, AnswerV.zero, OpV.zero]
   ·replace hc13 := dF hc13
    refine C_seq ?_
    refine C_region (l := [0, 1]) rfl ?_
    refine Y_cmp ?_
    refine Y_assign ?_
    refine XD_end ?_
    refine K_then ?_
    refine Y_pk [80, 27, 6, 5, 4, 2, 1] ?_
    refine C_cond rfl (fun hc22 => ?_) (fun hc22 => ?_)
    ·replace hc22 := dT hc22
     refine C_seq ?_
     refine C_region (l := [0, 1, 2, 3, 4, 5, 6, 7, 8, 9]) rfl ?_
     iterate 2 refine Y_move ?_
     refine XD_part 83 rfl (fun hc23 => ?_) (fun hc23 => ?_)
     ·replace hc23 := dT hc23
      refine Y_move ?_
      refine Y_pick ?_
      refine Y_move ?_
      refine XD_part 86 rfl (fun hc24 => ?_) (fun hc24 => ?_)
      ·replace hc24 := dT hc24
       refine Y_fieldAddr F.foff42_6 ?_
       refine Y_load F.lay40 ?_
       refine X_fs rfl rfl F.ok62 rfl (cIs_ok _ ⟨_, _, _, ⟨_, _, _⟩⟩ (by assumption)) rfl ?_
       rintro _ rfl
       refine Y_pick ?_
       refine Y_assign ?_
       refine XD_end ?_
       refine K_then ?_
       refine Y_pk [2] ?_
       refine C_ret ?_
       refine K_retB ?_
       refine K_ret ?_
       refine K_end (.inr rfl) (.tmp rfl .nil) (fun w hw => ?_)
       refine ⟨_, rfl, (hw.c), ?_⟩
       clear hw
       refine congrArg Value.bool (a₁ := _) ?_
       grind [w64, IsParcel, AnswerV.zero, OpV.zero]
      ·replace hc24 := dF hc24
       iterate 3 refine Y_skip ?_
       refine Y_pick ?_
       refine Y_assign ?_
       refine XD_end ?_
       refine K_then ?_
       refine Y_pk [2] ?_
       refine C_ret ?_
       refine K_retB ?_
       refine K_ret ?_
       refine K_end (.inr rfl) (.tmp rfl .nil) (fun w hw => ?_)
       refine ⟨_, rfl, (hw.c), ?_⟩
       clear hw
       refine congrArg Value.bool (a₁ := _) ?_
       grind [w64, IsParcel, AnswerV.zero, OpV.zero]
     ·replace hc23 := dF hc23
      refine Y_skip ?_
      refine Y_pick ?_
      refine Y_move ?_
      iterate 3 refine Y_skip ?_
      refine Y_pick ?_
      refine Y_assign ?_
      refine XD_end ?_
      refine K_then ?_
      refine Y_pk [2] ?_
      refine C_ret ?_
      refine K_retB ?_
      refine K_ret ?_
      refine K_end (.inr rfl) (.tmp rfl .nil) (fun w hw => ?_)
      refine ⟨_, rfl, (hw.c), ?_⟩
      clear hw
      refine congrArg Value.bool (a₁ := _) ?_
      grind [w64, IsParcel, AnswerV.zero, OpV.zero]
    ·replace hc22 := dF hc22
     refine C_seq ?_
     refine C_region (l := [0, 1]) rfl ?_
     refine Y_cmp ?_
     refine Y_assign ?_
     refine XD_end ?_
     refine K_then ?_
     refine Y_pk [91, 6, 5, 4, 2, 1] ?_
     refine C_cond rfl (fun hc25 => ?_) (fun hc25 => ?_)
     ·replace hc25 := dT hc25
      refine C_seq ?_
      refine C_region (l := [0, 1, 2, 3, 4, 5, 6, 7, 8, 9, 10, 11, 12]) rfl ?_
      iterate 2 refine Y_move ?_
      refine XD_part 94 rfl (fun hc26 => ?_) (fun hc26 => ?_)
      ·replace hc26 := dT hc26
       refine Y_move ?_
       refine Y_pick ?_
       refine Y_move ?_
       refine XD_part 97 rfl (fun hc27 => ?_) (fun hc27 => ?_)
       ·replace hc27 := dT hc27
        refine Y_move ?_
        refine Y_pick ?_
        refine Y_move ?_
        refine XD_part 100 rfl (fun hc28 => ?_) (fun hc28 => ?_)
        ·replace hc28 := dT hc28
         refine Y_fieldAddr F.foff42_6 ?_
         refine Y_load F.lay40 ?_
         refine X_fs rfl rfl F.ok60 rfl (pbare_ok _ ⟨_, _, _, ⟨_, _, _⟩⟩ (by assumption)) rfl ?_
         rintro _ rfl
         refine Y_pick ?_
         refine Y_assign ?_
         refine XD_end ?_
         refine K_then ?_
         refine Y_pk [2] ?_
         refine C_ret ?_
         refine K_retB ?_
         refine K_ret ?_
         refine K_end (.inr rfl) (.tmp rfl .nil) (fun w hw => ?_)
         refine ⟨_, rfl, (hw.c), ?_⟩
         clear hw
         refine congrArg Value.bool (a₁ := _) ?_
         grind [w64, IsParcel, AnswerV.zero, OpV.zero]
        ·replace hc28 := dF hc28
         iterate 3 refine Y_skip ?_
         refine Y_pick ?_
         refine Y_assign ?_
         refine XD_end ?_
         refine K_then ?_
         refine Y_pk [2] ?_
         refine C_ret ?_
         refine K_retB ?_
         refine K_ret ?_
         refine K_end (.inr rfl) (.tmp rfl .nil) (fun w hw => ?_)
         refine ⟨_, rfl, (hw.c), ?_⟩
         clear hw
         refine congrArg Value.bool (a₁ := _) ?_
         grind [w64, IsParcel, AnswerV.zero, OpV.zero]
       ·replace hc27 := dF hc27
        refine Y_skip ?_
        refine Y_pick ?_
        refine Y_move ?_
        iterate 3 refine Y_skip ?_
        refine Y_pick ?_
        refine Y_assign ?_
        refine XD_end ?_
        refine K_then ?_
        refine Y_pk [2] ?_
        refine C_ret ?_
        refine K_retB ?_
        refine K_ret ?_
        refine K_end (.inr rfl) (.tmp rfl .nil) (fun w hw => ?_)
        refine ⟨_, rfl, (hw.c), ?_⟩
        clear hw
        refine congrArg Value.bool (a₁ := _) ?_
        grind [w64, IsParcel, AnswerV.zero, OpV.zero]
      ·replace hc26 := dF hc26
       refine Y_skip ?_
       refine Y_pick ?_
       refine Y_move ?_
       refine Y_skip ?_
       refine Y_pick ?_
       refine Y_move ?_
       iterate 3 refine Y_skip ?_
       refine Y_pick ?_
       refine Y_assign ?_
       refine XD_end ?_
       refine K_then ?_
       refine Y_pk [2] ?_
       refine C_ret ?_
       refine K_retB ?_
       refine K_ret ?_
       refine K_end (.inr rfl) (.tmp rfl .nil) (fun w hw => ?_)
       refine ⟨_, rfl, (hw.c), ?_⟩
       clear hw
       refine congrArg Value.bool (a₁ := _) ?_
       grind [w64, IsParcel, AnswerV.zero, OpV.zero]
     ·replace hc25 := dF hc25
      refine C_skip ?_
      refine K_out ?_
      refine K_then ?_
      refine Y_pk [2] ?_
      refine C_seq ?_
      refine C_region (l := [0]) rfl ?_
      refine Y_assign ?_
      refine XD_end ?_
      refine K_then ?_
      refine C_ret ?_
      refine K_end (.inr rfl) (.tmp rfl .nil) (fun w hw => ?_)
      refine ⟨_, rfl, (hw.c), ?_⟩
      clear hw
      refine congrArg Value.bool (a₁ := _) ?_
      grind [w64, IsParcel, AnswerV.zero, OpV.zero]

theorem rpIs_ok (M : Mem) (p : ParcelV) (hp0 : ParcelV.ok M p) : Fs Tryd.prog 56 [p.enc] M (fun v => v = Value.bool (decide (IsParcel p))) := by
  obtain ⟨p_kind, p_epoch, p_key, ⟨p_op_client, p_op_req, p_op_kind, p_op_version, p_op_val⟩, ⟨p_answer_code, p_answer_version, p_answer_has, p_answer_val⟩, p_serial, ⟨p_cell_version, p_cell_has, p_cell_val, ⟨p_cell_marks_a, p_cell_marks_c, p_cell_marks_l⟩⟩⟩ := p
  have k_p_cell : CellV.ok M ⟨p_cell_version, p_cell_has, p_cell_val, ⟨p_cell_marks_a, p_cell_marks_c, p_cell_marks_l⟩⟩ := hp0.h0
  have s_p_cell_marks : SlM M p_cell_marks_a (p_cell_marks_l.map MarkV.segs) 6 := hp0.h0.h0
  have n_p_cell_marks : (p_cell_marks_l.map MarkV.segs).length = p_cell_marks_l.length := List.length_map ..
  have m_p_cell_marks : p_cell_marks_l.length ≤ 9223372036854775807 := hp0.h0.h1
  refine fs_enter Tryd.func56 rfl Tryd.ntmps56 rfl ?_; intro H
  refine C_seq ?_
  refine C_region (l := [0, 1]) rfl ?_
  refine Y_box ?_; intro b1
  refine Y_assign ?_
  refine XD_end ?_
  refine K_then ?_
  refine Y_pk [2, 1] ?_
  refine C_seq ?_
  refine C_region (l := [0, 1, 2, 3, 4]) rfl ?_
  refine Y_fieldAddr F.foff42_2 ?_
  refine Y_load F.lay24 ?_
  refine X_build0 rfl rfl F.zero24 F.arr24 rfl ?_
  refine X_same (m := 20) rfl rfl rfl rfl rfl (by constructor) (by constructor) F.lay24 F.kinds24 rfl F.guard24 (fit_id fit_nil) (fit_id fit_nil) rfl rfl rfl ?_; intro c2 he3
  replace he3 : c2 = true ↔ Segs.cells _ = Segs.cells _ := he3
  obtain rfl := eqD he3 (cells_id1 (x := _) (y := _)); clear he3
  refine Y_assign ?_
  refine XD_end ?_
  refine K_then ?_
  refine Y_pk [3, 2, 1] ?_
  refine C_seq ?_
  refine C_region (l := [0, 1, 2, 3, 4]) rfl ?_
  refine Y_fieldAddr F.foff42_3 ?_
  refine Y_load F.lay26 ?_
  refine X_build rfl rfl F.bld26 (.nil) rfl rfl ?_
  refine X_same (m := 20) rfl rfl rfl rfl rfl (by constructor) (by constructor) F.lay26 F.kinds26 rfl F.guard26 (by exact FitOpV (⟨_, _, _, _, _⟩)) (by exact FitOpV (⟨_, _, _, _, _⟩)) rfl rfl rfl ?_; intro c4 he5
  replace he5 : c4 = true ↔ Segs.cells _ = Segs.cells _ := he5
  obtain rfl := eqD he5 (OpV.inj (x := ⟨_, _, _, _, _⟩) (y := ⟨_, _, _, _, _⟩)); clear he5
  refine Y_assign ?_
  refine XD_end ?_
  refine K_then ?_
  refine Y_pk [4, 3, 2, 1] ?_
  refine C_seq ?_
  refine C_region (l := [0, 1, 2, 3, 4]) rfl ?_
  refine Y_fieldAddr F.foff42_4 ?_
  refine Y_load F.lay37 ?_
  refine X_build rfl rfl F.bld37 (.nil) rfl rfl ?_
  refine X_same (m := 20) rfl rfl rfl rfl rfl (by constructor) (by constructor) F.lay37 F.kinds37 rfl F.guard37 (by exact FitAnswerV (⟨_, _, _, _⟩)) (by exact FitAnswerV (⟨_, _, _, _⟩)) rfl rfl rfl ?_; intro c6 he7
  replace he7 : c6 = true ↔ Segs.cells _ = Segs.cells _ := he7
  obtain rfl := eqD he7 (AnswerV.inj (x := ⟨_, _, _, _⟩) (y := ⟨_, _, _, _⟩)); clear he7
  refine Y_assign ?_
  refine XD_end ?_
  refine K_then ?_
  refine Y_pk [5, 4, 3, 2, 1] ?_
  iterate 2 refine C_seq ?_
  refine C_region (l := [0, 1]) rfl ?_
  refine Y_fieldAddr F.foff42_0 ?_
  refine Y_load F.lay3 ?_
  refine XD_end ?_
  refine K_then ?_
  refine Y_pk [19, 5, 4, 3, 2, 1] ?_
  refine C_block ?_
  refine C_seq ?_
  refine C_region (l := [0, 1]) rfl ?_
  refine Y_cmp ?_
  refine Y_assign ?_
  refine XD_end ?_
  refine K_then ?_
  refine Y_pk [20, 19, 5, 4, 3, 2, 1] ?_
  refine C_cond rfl (fun hc8 => ?_) (fun hc8 => ?_)
  ·replace hc8 := dT hc8
   refine C_seq ?_
   refine C_region (l := [0, 1, 2, 3, 4, 5, 6, 7, 8, 9, 10, 11, 12, 13, 14, 15, 16]) rfl ?_
   refine Y_fieldAddr F.foff42_3 ?_
   refine Y_load F.lay26 ?_
   refine X_fs rfl rfl F.ok48 rfl (rIsOp_ok _ ⟨_, _, _, _, _⟩) rfl ?_
   rintro _ rfl
   refine Y_move ?_
   refine XD_part 25 rfl (fun hc9 => ?_) (fun hc9 => ?_)
   ·replace hc9 := dT hc9
    refine Y_move ?_
    refine Y_pick ?_
    refine Y_move ?_
    refine XD_part 28 rfl (fun hc10 => ?_) (fun hc10 => ?_)
    ·replace hc10 := dT hc10
     refine Y_fieldAddr F.foff42_5 ?_
     refine Y_load F.lay22 ?_
     refine Y_cmp ?_
     refine Y_pick ?_
     refine Y_move ?_
     refine XD_part 33 rfl (fun hc11 => ?_) (fun hc11 => ?_)
     ·replace hc11 := dT hc11
      refine Y_fieldAddr F.foff42_6 ?_
      refine Y_load F.lay40 ?_
      refine X_fs rfl rfl F.ok71 rfl (rbare_ok _ ⟨_, _, _, ⟨_, _, _⟩⟩ (by assumption)) rfl ?_
      rintro _ rfl
      refine Y_pick ?_
      refine Y_assign ?_
      refine XD_end ?_
      refine K_then ?_
      refine Y_pk [2] ?_
      refine C_ret ?_
      refine K_retB ?_
      refine K_ret ?_
      refine K_end (.inr rfl) (.tmp rfl .nil) (fun w hw => ?_)
      refine ⟨_, rfl, (hw.c), ?_⟩
      clear hw
      refine congrArg Value.bool (a₁ := _) ?_
      grind [w64, IsParcel, AnswerV.zero, OpV.zero]
     ·replace hc11 := dF hc11
      iterate 3 refine Y_skip ?_
      refine Y_pick ?_
      refine Y_assign ?_
      refine XD_end ?_
      refine K_then ?_
      refine Y_pk [2] ?_
      refine C_ret ?_
      refine K_retB ?_
      refine K_ret ?_
      refine K_end (.inr rfl) (.tmp rfl .nil) (fun w hw => ?_)
      refine ⟨_, rfl, (hw.c), ?_⟩
      clear hw
      refine congrArg Value.bool (a₁ := _) ?_
      grind [w64, IsParcel, AnswerV.zero, OpV.zero]
    ·replace hc10 := dF hc10
     iterate 3 refine Y_skip ?_
     refine Y_pick ?_
     refine Y_move ?_
     iterate 3 refine Y_skip ?_
     refine Y_pick ?_
     refine Y_assign ?_
     refine XD_end ?_
     refine K_then ?_
     refine Y_pk [2] ?_
     refine C_ret ?_
     refine K_retB ?_
     refine K_ret ?_
     refine K_end (.inr rfl) (.tmp rfl .nil) (fun w hw => ?_)
     refine ⟨_, rfl, (hw.c), ?_⟩
     clear hw
     refine congrArg Value.bool (a₁ := _) ?_
     grind [w64, IsParcel, AnswerV.zero, OpV.zero]
   ·replace hc9 := dF hc9
    refine Y_skip ?_
    refine Y_pick ?_
    refine Y_move ?_
    iterate 3 refine Y_skip ?_
    refine Y_pick ?_
    refine Y_move ?_
    iterate 3 refine Y_skip ?_
    refine Y_pick ?_
    refine Y_assign ?_
    refine XD_end ?_
    refine K_then ?_
    refine Y_pk [2] ?_
    refine C_ret ?_
    refine K_retB ?_
    refine K_ret ?_
    refine K_end (.inr rfl) (.tmp rfl .nil) (fun w hw => ?_)
    refine ⟨_, rfl, (hw.c), ?_⟩
    clear hw
    refine congrArg Value.bool (a₁ := _) ?_
    grind [w64, IsParcel, AnswerV.zero, OpV.zero]
  ·replace hc8 := dF hc8
   refine C_seq ?_
   refine C_region (l := [0, 1]) rfl ?_
   refine Y_cmp ?_
   refine Y_assign ?_
   refine XD_end ?_
   refine K_then ?_
   refine Y_pk [38, 19, 5, 4, 3, 2, 1] ?_
   refine C_cond rfl (fun hc12 => ?_) (fun hc12 => ?_)
   ·replace hc12 := dT hc12
    refine C_seq ?_
    refine C_region (l := [0, 1, 2, 3, 4, 5, 6, 7, 8, 9, 10]) rfl ?_
    refine Y_fieldAddr F.foff42_3 ?_
    refine Y_load F.lay26 ?_
    refine Y_fieldAddr F.foff42_3 ?_
    refine Y_fieldAddr F.foff26_0 ?_
    refine Y_load F.lay3 ?_
    refine Y_fieldAddr F.foff42_3 ?_
    refine Y_fieldAddr F.foff26_1 ?_
    refine Y_load F.lay22 ?_
    refine X_build rfl rfl F.bld26 (.cons rfl (by constructor) (.cons rfl (by constructor) .nil)) rfl rfl ?_
    refine X_same (m := 20) rfl rfl rfl rfl rfl (by constructor) (by constructor) F.lay26 F.kinds26 rfl F.guard26 (by exact FitOpV (⟨_, _, _, _, _⟩)) (by exact FitOpV (⟨_, _, _, _, _⟩)) rfl rfl rfl ?_; intro c13 he14
    replace he14 : c13 = true ↔ Segs.cells _ = Segs.cells _ := he14
    obtain rfl := eqD he14 (OpV.inj (x := ⟨_, _, _, _, _⟩) (y := ⟨_, _, _, _, _⟩)); clear he14
    refine Y_assign ?_
    refine XD_end ?_
    refine K_then ?_
    refine Y_pk [4, 3, 2, 1] ?_
    refine C_seq ?_
    refine C_region (l := [0, 1, 2, 3, 4, 5, 6, 7, 8, 9, 10, 11, 12, 13, 14, 15, 16, 17, 18, 19, 20, 21, 22, 23, 24, 25, 26, 27, 28, 29, 30, 31]) rfl ?_
    iterate 2 refine Y_move ?_
    refine XD_part 51 rfl (fun hc15 => ?_) (fun hc15 => ?_)
    ·replace hc15 := dT hc15
     refine Y_move ?_
     refine Y_pick ?_
     refine Y_move ?_
     refine XD_part 54 rfl (fun hc16 => ?_) (fun hc16 => ?_)
     ·replace hc16 := dT hc16
      refine Y_fieldAddr F.foff42_3 ?_
      refine Y_fieldAddr F.foff26_0 ?_
      refine Y_load F.lay3 ?_
      refine Y_cmp ?_
      refine Y_pick ?_
      refine Y_move ?_
      refine XD_part 60 rfl (fun hc17 => ?_) (fun hc17 => ?_)
      ·replace hc17 := dT hc17
       refine Y_fieldAddr F.foff42_3 ?_
       refine Y_fieldAddr F.foff26_0 ?_
       refine Y_load F.lay3 ?_
       refine Y_cmp ?_
       refine Y_pick ?_
       refine Y_move ?_
       refine XD_part 66 rfl (fun hc18 => ?_) (fun hc18 => ?_)
       ·replace hc18 := dT hc18
        refine Y_fieldAddr F.foff42_4 ?_
        refine Y_load F.lay37 ?_
        refine X_fs rfl rfl F.ok72 rfl (rA_ok _ ⟨_, _, _, _⟩) rfl ?_
        rintro _ rfl
        refine Y_pick ?_
        refine Y_move ?_
        refine XD_part 71 rfl (fun hc19 => ?_) (fun hc19 => ?_)
        ·replace hc19 := dT hc19
         refine Y_fieldAddr F.foff42_5 ?_
         refine Y_load F.lay22 ?_
         refine Y_cmp ?_
         refine Y_pick ?_
         refine Y_move ?_
         refine XD_part 76 rfl (fun hc20 => ?_) (fun hc20 => ?_)
         ·replace hc20 := dT hc20
          refine Y_fieldAddr F.foff42_6 ?_
          refine Y_load F.lay40 ?_
          refine X_fs rfl rfl F.ok71 rfl (rbare_ok _ ⟨_, _, _, ⟨_, _, _⟩⟩ (by assumption)) rfl ?_
          rintro _ rfl
          refine Y_pick ?_
          refine Y_assign ?_
          refine XD_end ?_
          refine K_then ?_
          refine Y_pk [2] ?_
          refine C_ret ?_
          refine K_retB ?_
          refine K_ret ?_
          refine K_end (.inr rfl) (.tmp rfl .nil) (fun w hw => ?_)
          refine ⟨_, rfl, (hw.c), ?_⟩
          clear hw
          refine congrArg Value.bool (a₁ := _) ?_
          grind [w64, IsParcel, AnswerV.zero, OpV.zero]
         ·replace hc20 := dF hc20
          iterate 3 refine Y_skip ?_
          refine Y_pick ?_
          refine Y_assign ?_
          refine XD_end ?_
          refine K_then ?_
          refine Y_pk [2] ?_
          refine C_ret ?_
          refine K_retB ?_
          refine K_ret ?_
          refine K_end (.inr rfl) (.tmp rfl .nil) (fun w hw => ?_)
          refine ⟨_, rfl, (hw.c), ?_⟩
          clear hw
          refine congrArg Value.bool (a₁ := _) ?_
          grind [w64, IsParcel, AnswerV.zero, OpV.zero]
        ·replace hc19 := dF hc19
         iterate 3 refine Y_skip ?_
         refine Y_pick ?_
         refine Y_move ?_
         iterate 3 refine Y_skip ?_
         refine Y_pick ?_
         refine Y_assign ?_
         refine XD_end ?_
         refine K_then ?_
         refine Y_pk [2] ?_
         refine C_ret ?_
         refine K_retB ?_
         refine K_ret ?_
         refine K_end (.inr rfl) (.tmp rfl .nil) (fun w hw => ?_)
         refine ⟨_, rfl, (hw.c), ?_⟩
         clear hw
         refine congrArg Value.bool (a₁ := _) ?_
         grind [w64, IsParcel, AnswerV.zero, OpV.zero]
       ·replace hc18 := dF hc18
        iterate 3 refine Y_skip ?_
        refine Y_pick ?_
        refine Y_move ?_
        iterate 3 refine Y_skip ?_
        refine Y_pick ?_
        refine Y_move ?_
        iterate 3 refine Y_skip ?_
        refine Y_pick ?_
        refine Y_assign ?_
        refine XD_end ?_
        refine K_then ?_
        refine Y_pk [2] ?_
        refine C_ret ?_
        refine K_retB ?_
        refine K_ret ?_
        refine K_end (.inr rfl) (.tmp rfl .nil) (fun w hw => ?_)
        refine ⟨_, rfl, (hw.c), ?_⟩
        clear hw
        refine congrArg Value.bool (a₁ := _) ?_
        grind [w64, IsParcel, AnswerV.zero, OpV.zero]
      ·replace hc17 := dF hc17
       iterate 4 refine Y_skip ?_
       refine Y_pick ?_
       refine Y_move ?_
       iterate 3 refine Y_skip ?_
       refine Y_pick ?_
       refine Y_move ?_
       iterate 3 refine Y_skip ?_
       refine Y_pick ?_
       refine Y_move ?_
       iterate 3 refine Y_skip ?_
       refine Y_pick ?_
       refine Y_assign ?_
       refine XD_end ?_
       refine K_then ?_
       refine Y_pk [2] ?_
       refine C_ret ?_
       refine K_retB ?_
       refine K_ret ?_
       refine K_end (.inr rfl) (.tmp rfl .nil) (fun w hw => ?_)
       refine ⟨_, rfl, (hw.c), ?_⟩
       clear hw
       refine congrArg Value.bool (a₁ := _) ?_
       grind [w64, IsParcel, AnswerV.zero, OpV.zero]
     ·replace hc16 := dF hc16
      iterate 4 refine Y_skip ?_
      refine Y_pick ?_
      refine Y_move ?_
      iterate 4 refine Y_skip ?_
      refine Y_pick ?_
      refine Y_move ?_
      iterate 3 refine Y_skip ?_
      refine Y_pick ?_
      refine Y_move ?_
      iterate 3 refine Y_skip ?_
      refine Y_pick ?_
      refine Y_move ?_
      iterate 3 refine Y_skip ?_
      refine Y_pick ?_
      refine Y_assign ?_
      refine XD_end ?_
      refine K_then ?_
      refine Y_pk [2] ?_
      refine C_ret ?_
      refine K_retB ?_
      refine K_ret ?_
      refine K_end (.inr rfl) (.tmp rfl .nil) (fun w hw => ?_)
      refine ⟨_, rfl, (hw.c), ?_⟩
      clear hw
      refine congrArg Value.bool (a₁ := _) ?_
      grind [w64, IsParcel, AnswerV.zero, OpV.zero]
    ·replace hc15 := dF hc15
     refine Y_skip ?_
     refine Y_pick ?_
     refine Y_move ?_
     iterate 4 refine Y_skip ?_
     refine Y_pick ?_
     refine Y_move ?_
     iterate 4 refine Y_skip ?_
     refine Y_pick ?_
     refine Y_move ?_
     iterate 3 refine Y_skip ?_
     refine Y_pick ?_
     refine Y_move ?_
     iterate 3 refine Y_skip ?_
     refine Y_pick ?_
     refine Y_move ?_
     iterate 3 refine Y_skip ?_
     refine Y_pick ?_
     refine Y_assign ?_
     refine XD_end ?_
     refine K_then ?_
     refine Y_pk [2] ?_
     refine C_ret ?_
     refine K_retB ?_
     refine K_ret ?_
     refine K_end (.inr rfl) (.tmp rfl .nil) (fun w hw => ?_)
     refine ⟨_, rfl, (hw.c), ?_⟩
     clear hw
     refine congrArg Value.bool (a₁ := _) ?_
     grind [w64, IsParcel, AnswerV.zero, OpV.zero]
   ·replace hc12 := dF hc12
    refine C_seq ?_
    refine C_region (l := [0, 1]) rfl ?_
    refine Y_cmp ?_
    refine Y_assign ?_
    refine XD_end ?_
    refine K_then ?_
    refine Y_pk [81, 19, 5, 4, 3, 2, 1] ?_
    refine C_cond rfl (fun hc21 => ?_) (fun hc21 => ?_)
    ·replace hc21 := dT hc21
     refine C_seq ?_
     refine C_region (l := [0, 1, 2, 3, 4, 5, 6, 7, 8, 9]) rfl ?_
     iterate 2 refine Y_move ?_
     refine XD_part 84 rfl (fun hc22 => ?_) (fun hc22 => ?_)
     ·replace hc22 := dT hc22
      refine Y_move ?_
      refine Y_pick ?_
      refine Y_move ?_
      refine XD_part 87 rfl (fun hc23 => ?_) (fun hc23 => ?_)
      ·replace hc23 := dT hc23
       refine Y_fieldAddr F.foff42_6 ?_
       refine Y_load F.lay40 ?_
       refine X_fs rfl rfl F.ok73 rfl (rCell_ok _ ⟨_, _, _, ⟨_, _, _⟩⟩ (by assumption)) rfl ?_
       rintro _ rfl
       refine Y_pick ?_
       refine Y_assign ?_
       refine XD_end ?_
       refine K_then ?_
       refine Y_pk [2] ?_
       refine C_ret ?_
       refine K_retB ?_
       refine K_ret ?_
       refine K_end (.inr rfl) (.tmp rfl .nil) (fun w hw => ?_)
       refine ⟨_, rfl, (hw.c), ?_⟩
       clear hw
       refine congrArg Value.bool (a₁ := _) ?_
       grind [w64, IsParcel, AnswerV.zero, OpV.zero]
      ·replace hc23 := dF hc23
       iterate 3 refine Y_skip ?_
       refine Y_pick ?_
       refine Y_assign ?_
       refine XD_end ?_
       refine K_then ?_
       refine Y_pk [2] ?_
       refine C_ret ?_
       refine K_retB ?_
       refine K_ret ?_
       refine K_end (.inr rfl) (.tmp rfl .nil) (fun w hw => ?_)
       refine ⟨_, rfl, (hw.c), ?_⟩
       clear hw
       refine congrArg Value.bool (a₁ := _) ?_
       grind [w64, IsParcel, AnswerV.zero, OpV.zero]
     ·replace hc22 := dF hc22
      refine Y_skip ?_
      refine Y_pick ?_
      refine Y_move ?_
      iterate 3 refine Y_skip ?_
      refine Y_pick ?_
      refine Y_assign ?_
      refine XD_end ?_
      refine K_then ?_
      refine Y_pk [2] ?_
      refine C_ret ?_
      refine K_retB ?_
      refine K_ret ?_
      refine K_end (.inr rfl) (.tmp rfl .nil) (fun w hw => ?_)
      refine ⟨_, rfl, (hw.c), ?_⟩
      clear hw
      refine congrArg Value.bool (a₁ := _) ?_
      grind [w64, IsParcel, AnswerV.zero, OpV.zero]
    ·replace hc21 := dF hc21
     refine C_seq ?_
     refine C_region (l := [0, 1]) rfl ?_
     refine Y_cmp ?_
     refine Y_assign ?_
     refine XD_end ?_
     refine K_then ?_
     refine Y_pk [92, 5, 4, 3, 2, 1] ?_
     refine C_cond rfl (fun hc24 => ?_) (fun hc24 => ?_)
     ·replace hc24 := dT hc24
      refine C_seq ?_
      refine C_region (l := [0, 1, 2, 3, 4, 5, 6, 7, 8, 9, 10, 11, 12]) rfl ?_
      iterate 2 refine Y_move ?_
      refine XD_part 95 rfl (fun hc25 => ?_) (fun hc25 => ?_)
      ·replace hc25 := dT hc25
       refine Y_move ?_
       refine Y_pick ?_
       refine Y_move ?_
       refine XD_part 98 rfl (fun hc26 => ?_) (fun hc26 => ?_)
       ·replace hc26 := dT hc26
        refine Y_move ?_
        refine Y_pick ?_
        refine Y_move ?_
        refine XD_part 101 rfl (fun hc27 => ?_) (fun hc27 => ?_)
        ·replace hc27 := dT hc27
         refine Y_fieldAddr F.foff42_6 ?_
         refine Y_load F.lay40 ?_
         refine X_fs rfl rfl F.ok71 rfl (rbare_ok _ ⟨_, _, _, ⟨_, _, _⟩⟩ (by assumption)) rfl ?_
         rintro _ rfl
         refine Y_pick ?_
         refine Y_assign ?_
         refine XD_end ?_
         refine K_then ?_
         refine Y_pk [2] ?_
         refine C_ret ?_
         refine K_retB ?_
         refine K_ret ?_
         refine K_end (.inr rfl) (.tmp rfl .nil) (fun w hw => ?_)
         refine ⟨_, rfl, (hw.c), ?_⟩
         clear hw
         refine congrArg Value.bool (a₁ := _) ?_
         grind [w64, IsParcel, AnswerV.zero, OpV.zero]
        ·replace hc27 := dF hc27
         iterate 3 refine Y_skip ?_
         refine Y_pick ?_
         refine Y_assign ?_
         refine XD_end ?_
         refine K_then ?_
         refine Y_pk [2] ?_
         refine C_ret ?_
         refine K_retB ?_
         refine K_ret ?_
         refine K_end (.inr rfl) (.tmp rfl .nil) (fun w hw => ?_)
         refine ⟨_, rfl, (hw.c), ?_⟩
         clear hw
         refine congrArg Value.bool (a₁ := _) ?_
         grind [w64, IsParcel, AnswerV.zero, OpV.zero]
       ·replace hc26 := dF hc26
        refine Y_skip ?_
        refine Y_pick ?_
        refine Y_move ?_
        iterate 3 refine Y_skip ?_
        refine Y_pick ?_
        refine Y_assign ?_
        refine XD_end ?_
        refine K_then ?_
        refine Y_pk [2] ?_
        refine C_ret ?_
        refine K_retB ?_
        refine K_ret ?_
        refine K_end (.inr rfl) (.tmp rfl .nil) (fun w hw => ?_)
        refine ⟨_, rfl, (hw.c), ?_⟩
        clear hw
        refine congrArg Value.bool (a₁ := _) ?_
        grind [w64, IsParcel, AnswerV.zero, OpV.zero]
      ·replace hc25 := dF hc25
       refine Y_skip ?_
       refine Y_pick ?_
       refine Y_move ?_
       refine Y_skip ?_
       refine Y_pick ?_
       refine Y_move ?_
       iterate 3 refine Y_skip ?_
       refine Y_pick ?_
       refine Y_assign ?_
       refine XD_end ?_
       refine K_then ?_
       refine Y_pk [2] ?_
       refine C_ret ?_
       refine K_retB ?_
       refine K_ret ?_
       refine K_end (.inr rfl) (.tmp rfl .nil) (fun w hw => ?_)
       refine ⟨_, rfl, (hw.c), ?_⟩
       clear hw
       refine congrArg Value.bool (a₁ := _) ?_
       grind [w64, IsParcel, AnswerV.zero, OpV.zero]
     ·replace hc24 := dF hc24
      refine C_skip ?_
      refine K_out ?_
      refine K_then ?_
      refine Y_pk [2] ?_
      refine C_seq ?_
      refine C_region (l := [0]) rfl ?_
      refine Y_assign ?_
      refine XD_end ?_
      refine K_then ?_
      refine C_ret ?_
      refine K_end (.inr rfl) (.tmp rfl .nil) (fun w hw => ?_)
      refine ⟨_, rfl, (hw.c), ?_⟩
      clear hw
      refine congrArg Value.bool (a₁ := _) ?_
      grind [w64, IsParcel, AnswerV.zero, OpV.zero]

theorem rpSame_ok (M : Mem) (p : ParcelV) (q : ParcelV) (hp0 : ParcelV.ok M p) (hq1 : ParcelV.ok M q) : Fs Tryd.prog 57 [p.enc, q.enc] M (fun v => v = Value.bool (decide (SameParcel p q))) := by
  obtain ⟨p_kind, p_epoch, p_key, ⟨p_op_client, p_op_req, p_op_kind, p_op_version, p_op_val⟩, ⟨p_answer_code, p_answer_version, p_answer_has, p_answer_val⟩, p_serial, ⟨p_cell_version, p_cell_has, p_cell_val, ⟨p_cell_marks_a, p_cell_marks_c, p_cell_marks_l⟩⟩⟩ := p
  obtain ⟨q_kind, q_epoch, q_key, ⟨q_op_client, q_op_req, q_op_kind, q_op_version, q_op_val⟩, ⟨q_answer_code, q_answer_version, q_answer_has, q_answer_val⟩, q_serial, ⟨q_cell_version, q_cell_has, q_cell_val, ⟨q_cell_marks_a, q_cell_marks_c, q_cell_marks_l⟩⟩⟩ := q
  have k_p_cell : CellV.ok M ⟨p_cell_version, p_cell_has, p_cell_val, ⟨p_cell_marks_a, p_cell_marks_c, p_cell_marks_l⟩⟩ := hp0.h0
  have s_p_cell_marks : SlM M p_cell_marks_a (p_cell_marks_l.map MarkV.segs) 6 := hp0.h0.h0
  have n_p_cell_marks : (p_cell_marks_l.map MarkV.segs).length = p_cell_marks_l.length := List.length_map ..
  have m_p_cell_marks : p_cell_marks_l.length ≤ 9223372036854775807 := hp0.h0.h1
  have k_q_cell : CellV.ok M ⟨q_cell_version, q_cell_has, q_cell_val, ⟨q_cell_marks_a, q_cell_marks_c, q_cell_marks_l⟩⟩ := hq1.h0
  have s_q_cell_marks : SlM M q_cell_marks_a (q_cell_marks_l.map MarkV.segs) 6 := hq1.h0.h0
  have n_q_cell_marks : (q_cell_marks_l.map MarkV.segs).length = q_cell_marks_l.length := List.length_map ..
  have m_q_cell_marks : q_cell_marks_l.length ≤ 9223372036854775807 := hq1.h0.h1
  refine fs_enter Tryd.func57 rfl Tryd.ntmps57 rfl ?_; intro H
  refine C_seq ?_
  refine C_region (l := [0, 1, 2]) rfl ?_
  refine Y_box ?_; intro b1
  refine Y_box ?_; intro b2
  refine Y_assign ?_
  refine XD_end ?_
  refine K_then ?_
  refine Y_pk [4, 3, 2] ?_
  refine C_seq ?_
  refine C_region (l := [0, 1, 2, 3, 4, 5, 6, 7, 8, 9, 10, 11, 12, 13, 14, 15, 16, 17, 18, 19, 20, 21, 22, 23, 24, 25, 26, 27, 28, 29, 30, 31, 32, 33, 34, 35, 36, 37, 38, 39, 40, 41, 42, 43, 44, 45, 46, 47]) rfl ?_
  refine Y_fieldAddr F.foff42_0 ?_
  refine Y_load F.lay3 ?_
  refine Y_fieldAddr F.foff42_0 ?_
  refine Y_load F.lay3 ?_
  refine Y_cmp ?_
  refine Y_move ?_
  refine XD_part 10 rfl (fun hc3 => ?_) (fun hc3 => ?_)
  ·replace hc3 := dT hc3
   refine Y_fieldAddr F.foff42_1 ?_
   refine Y_load F.lay22 ?_
   refine Y_fieldAddr F.foff42_1 ?_
   refine Y_load F.lay22 ?_
   refine Y_cmp ?_
   refine Y_pick ?_
   refine Y_move ?_
   refine XD_part 17 rfl (fun hc4 => ?_) (fun hc4 => ?_)
   ·replace hc4 := dT hc4
    refine Y_fieldAddr F.foff42_2 ?_
    refine Y_load F.lay24 ?_
    refine Y_fieldAddr F.foff42_2 ?_
    refine Y_load F.lay24 ?_
    refine X_same (m := 20) rfl rfl rfl rfl rfl (by constructor) (by constructor) F.lay24 F.kinds24 rfl F.guard24 (fit_id fit_nil) (fit_id fit_nil) rfl rfl rfl ?_; intro c5 he6
    replace he6 : c5 = true ↔ Segs.cells _ = Segs.cells _ := he6
    obtain rfl := eqD he6 (cells_id1 (x := _) (y := _)); clear he6
    refine Y_pick ?_
    refine Y_move ?_
    refine XD_part 24 rfl (fun hc7 => ?_) (fun hc7 => ?_)
    ·replace hc7 := dT hc7
     refine Y_fieldAddr F.foff42_3 ?_
     refine Y_load F.lay26 ?_
     refine Y_fieldAddr F.foff42_3 ?_
     refine Y_load F.lay26 ?_
     refine X_same (m := 20) rfl rfl rfl rfl rfl (by constructor) (by constructor) F.lay26 F.kinds26 rfl F.guard26 (by exact FitOpV (⟨_, _, _, _, _⟩)) (by exact FitOpV (⟨_, _, _, _, _⟩)) rfl rfl rfl ?_; intro c8 he9
     replace he9 : c8 = true ↔ Segs.cells _ = Segs.cells _ := he9
     obtain rfl := eqD he9 (OpV.inj (x := ⟨_, _, _, _, _⟩) (y := ⟨_, _, _, _, _⟩)); clear he9
     refine Y_pick ?_
     refine Y_move ?_
     refine XD_part 31 rfl (fun hc10 => ?_) (fun hc10 => ?_)
     ·replace hc10 := dT hc10
      refine Y_fieldAddr F.foff42_4 ?_
      refine Y_load F.lay37 ?_
      refine Y_fieldAddr F.foff42_4 ?_
      refine Y_load F.lay37 ?_
      refine X_same (m := 20) rfl rfl rfl rfl rfl (by constructor) (by constructor) F.lay37 F.kinds37 rfl F.guard37 (by exact FitAnswerV (⟨_, _, _, _⟩)) (by exact FitAnswerV (⟨_, _, _, _⟩)) rfl rfl rfl ?_; intro c11 he12
      replace he12 : c11 = true ↔ Segs.cells _ = Segs.cells _ := he12
      obtain rfl := eqD he12 (AnswerV.inj (x := ⟨_, _, _, _⟩) (y := ⟨_, _, _, _⟩)); clear he12
      refine Y_pick ?_
      refine Y_move ?_
      refine XD_part 38 rfl (fun hc13 => ?_) (fun hc13 => ?_)
      ·replace hc13 := dT hc13
       refine Y_fieldAddr F.foff42_5 ?_
       refine Y_load F.lay22 ?_
       refine Y_fieldAddr F.foff42_5 ?_
       refine Y_load F.lay22 ?_
       refine Y_cmp ?_
       refine Y_pick ?_
       refine Y_move ?_
       refine XD_part 45 rfl (fun hc14 => ?_) (fun hc14 => ?_)
       ·replace hc14 := dT hc14
        refine Y_fieldAddr F.foff42_6 ?_
        refine Y_load F.lay40 ?_
        refine Y_fieldAddr F.foff42_6 ?_
        refine Y_load F.lay40 ?_
        refine X_fs rfl rfl F.ok74 rfl (rSame_ok _ ⟨_, _, _, ⟨_, _, _⟩⟩ ⟨_, _, _, ⟨_, _, _⟩⟩ (by assumption) (by assumption)) rfl ?_
        rintro _ rfl
        refine Y_pick ?_
        refine Y_assign ?_
        refine XD_end ?_
        refine K_then ?_
        refine Y_pk [4] ?_
        refine C_ret ?_
        refine K_end (.inr rfl) (.tmp rfl .nil) (fun w hw => ?_)
        refine ⟨_, rfl, (hw.c), ?_⟩
        clear hw
        refine congrArg Value.bool (a₁ := _) ?_
        grind [w64, SameParcel]
       ·replace hc14 := dF hc14
        iterate 5 refine Y_skip ?_
        refine Y_pick ?_
        refine Y_assign ?_
        refine XD_end ?_
        refine K_then ?_
        refine Y_pk [4] ?_
        refine C_ret ?_
        refine K_end (.inr rfl) (.tmp rfl .nil) (fun w hw => ?_)
        refine ⟨_, rfl, (hw.c), ?_⟩
        clear hw
        refine congrArg Value.bool (a₁ := _) ?_
        grind [w64, SameParcel]
      ·replace hc13 := dF hc13
       iterate 5 refine Y_skip ?_
       refine Y_pick ?_
       refine Y_move ?_
       iterate 5 refine Y_skip ?_
       refine Y_pick ?_
       refine Y_assign ?_
       refine XD_end ?_
       refine K_then ?_
       refine Y_pk [4] ?_
       refine C_ret ?_
       refine K_end (.inr rfl) (.tmp rfl .nil) (fun w hw => ?_)
       refine ⟨_, rfl, (hw.c), ?_⟩
       clear hw
       refine congrArg Value.bool (a₁ := _) ?_
       grind [w64, SameParcel]
     ·replace hc10 := dF hc10
      iterate 5 refine Y_skip ?_
      refine Y_pick ?_
      refine Y_move ?_
      iterate 5 refine Y_skip ?_
      refine Y_pick ?_
      refine Y_move ?_
      iterate 5 refine Y_skip ?_
      refine Y_pick ?_
      refine Y_assign ?_
      refine XD_end ?_
      refine K_then ?_
      refine Y_pk [4] ?_
      refine C_ret ?_
      refine K_end (.inr rfl) (.tmp rfl .nil) (fun w hw => ?_)
      refine ⟨_, rfl, (hw.c), ?_⟩
      clear hw
      refine congrArg Value.bool (a₁ := _) ?_
      grind [w64, SameParcel]
    ·replace hc7 := dF hc7
     iterate 5 refine Y_skip ?_
     refine Y_pick ?_
     refine Y_move ?_
     iterate 5 refine Y_skip ?_
     refine Y_pick ?_
     refine Y_move ?_
     iterate 5 refine Y_skip ?_
     refine Y_pick ?_
     refine Y_move ?_
     iterate 5 refine Y_skip ?_
     refine Y_pick ?_
     refine Y_assign ?_
     refine XD_end ?_
     refine K_then ?_
     refine Y_pk [4] ?_
     refine C_ret ?_
     refine K_end (.inr rfl) (.tmp rfl .nil) (fun w hw => ?_)
     refine ⟨_, rfl, (hw.c), ?_⟩
     clear hw
     refine congrArg Value.bool (a₁ := _) ?_
     grind [w64, SameParcel]
   ·replace hc4 := dF hc4
    iterate 5 refine Y_skip ?_
    refine Y_pick ?_
    refine Y_move ?_
    iterate 5 refine Y_skip ?_
    refine Y_pick ?_
    refine Y_move ?_
    iterate 5 refine Y_skip ?_
    refine Y_pick ?_
    refine Y_move ?_
    iterate 5 refine Y_skip ?_
    refine Y_pick ?_
    refine Y_move ?_
    iterate 5 refine Y_skip ?_
    refine Y_pick ?_
    refine Y_assign ?_
    refine XD_end ?_
    refine K_then ?_
    refine Y_pk [4] ?_
    refine C_ret ?_
    refine K_end (.inr rfl) (.tmp rfl .nil) (fun w hw => ?_)
    refine ⟨_, rfl, (hw.c), ?_⟩
    clear hw
    refine congrArg Value.bool (a₁ := _) ?_
    grind [w64, SameParcel]
  ·replace hc3 := dF hc3
   iterate 5 refine Y_skip ?_
   refine Y_pick ?_
   refine Y_move ?_
   iterate 5 refine Y_skip ?_
   refine Y_pick ?_
   refine Y_move ?_
   iterate 5 refine Y_skip ?_
   refine Y_pick ?_
   refine Y_move ?_
   iterate 5 refine Y_skip ?_
   refine Y_pick ?_
   refine Y_move ?_
   iterate 5 refine Y_skip ?_
   refine Y_pick ?_
   refine Y_move ?_
   iterate 5 refine Y_skip ?_
   refine Y_pick ?_
   refine Y_assign ?_
   refine XD_end ?_
   refine K_then ?_
   refine Y_pk [4] ?_
   refine C_ret ?_
   refine K_end (.inr rfl) (.tmp rfl .nil) (fun w hw => ?_)
   refine ⟨_, rfl, (hw.c), ?_⟩
   clear hw
   refine congrArg Value.bool (a₁ := _) ?_
   grind [w64, SameParcel]

end Go.Proofs.YtelpkhhfjfbkcaaDoor
