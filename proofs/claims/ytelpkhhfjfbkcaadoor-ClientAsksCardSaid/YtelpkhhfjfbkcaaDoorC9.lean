/-
  Ticks.
-/
import Derived.Test.YtelpkhhfjfbkcaaDoorC8
set_option linter.unusedSimpArgs false
set_option linter.unusedVariables false
set_option linter.unnecessarySimpa false
set_option maxRecDepth 8000
namespace Go.Proofs.YtelpkhhfjfbkcaaDoor
open Go.Esp
theorem F.ok31 : okFn Tryd.prog 31 = true := by kernel_rfl
theorem F.ok51 : okFn Tryd.prog 51 = true := by kernel_rfl
theorem F.ok52 : okFn Tryd.prog 52 = true := by kernel_rfl
theorem F.ok53 : okFn Tryd.prog 53 = true := by kernel_rfl

theorem Tick_out (M : Mem) (hE : EG M) (c : ClientV) (b : Int) (h : b ≤ c.tries) : Fs Tryd.prog 21 [c.enc, .int .i64 b] M (fun v => v = ofTri (tickR c b)) := by
  obtain ⟨c_num, c_req, c_busy, c_key, ⟨c_op_client, c_op_req, c_op_kind, c_op_version, c_op_val⟩, c_tries⟩ := c
  simp only at h
  refine fs_enter Tryd.func21 rfl Tryd.ntmps21 rfl ?_; intro H
  refine C_seq ?_
  refine C_region (l := [0, 1, 2, 3]) rfl ?_
  refine Y_box ?_; intro b1
  refine Y_alloc F.zero28 ?_; intro b2
  refine Y_alloc F.zero45 ?_; intro b3
  refine Y_assign ?_
  refine XD_end ?_
  refine K_then ?_
  refine Y_pk [6, 5, 4, 2, 1] ?_
  iterate 2 refine C_seq ?_
  refine C_region (l := [0, 1, 2, 3, 4, 5, 6, 7, 8, 9, 10]) rfl ?_
  refine Y_load F.lay28 ?_
  refine X_fs rfl rfl F.ok17 rfl (Is_ok _ ⟨_, _, _, _, ⟨_, _, _, _, _⟩, _⟩) rfl ?_
  rintro _ rfl
  refine Y_not ?_
  refine Y_move ?_
  refine XD_part 11 rfl (fun hc4 => ?_) (fun hc4 => ?_)
  ·replace hc4 := nT hc4
   iterate 2 refine Y_skip ?_
   refine Y_pick ?_
   refine Y_move ?_
   iterate 2 refine Y_skip ?_
   refine Y_pick ?_
   refine XD_end ?_
   refine K_then ?_
   refine Y_pk [18, 6, 5, 4, 2, 1] ?_
   refine C_true rfl ?_
   refine C_seq ?_
   refine C_region (l := [0, 1, 2, 3, 4]) rfl ?_
   refine X_build rfl rfl F.bld28 (.nil) rfl rfl ?_
   refine X_build rfl rfl F.bld45 (.nil) rfl rfl ?_
   refine Y_store F.lay28 ?_
   refine Y_store F.lay45 ?_
   refine Y_assign ?_
   refine XD_end ?_
   refine K_then ?_
   refine Y_pk [6, 5, 4, 2, 1] ?_
   refine C_ret ?_
   refine K_ret ?_
   refine K_end (.inr rfl) (.cell rfl (by repeat first | exact List.Mem.head _ | refine List.Mem.tail _ ?_ | refine List.mem_append_right _ ?_) F.lay28 rfl rfl (.cell rfl (by repeat first | exact List.Mem.head _ | refine List.Mem.tail _ ?_ | refine List.mem_append_right _ ?_) F.lay45 rfl rfl (.tmp rfl .nil))) (fun w hw => ?_)
   refine ⟨_, rfl, (by exact hw.c), ?_⟩
   clear hw
   refine congrArg ofTri (a₁ := (⟨_, _, _, _, ⟨_, _, _, _, _⟩, _⟩, ⟨_, ⟨_, _, _, _⟩⟩, _)) ?_
   grind [tickR, endR, IsClient, ClientV.zero, OutcomeV.zero]
  ·replace hc4 := nF hc4
   refine Y_move ?_
   refine Y_cmp ?_
   refine Y_pick ?_
   refine Y_move ?_
   refine XD_part 15 rfl (fun hc5 => ?_) (fun hc5 => ?_)
   ·replace hc5 := dT hc5
    iterate 2 refine Y_skip ?_
    refine Y_pick ?_
    refine XD_end ?_
    refine K_then ?_
    refine Y_pk [18, 6, 5, 4, 2, 1] ?_
    refine C_true rfl ?_
    refine C_seq ?_
    refine C_region (l := [0, 1, 2, 3, 4]) rfl ?_
    refine X_build rfl rfl F.bld28 (.nil) rfl rfl ?_
    refine X_build rfl rfl F.bld45 (.nil) rfl rfl ?_
    refine Y_store F.lay28 ?_
    refine Y_store F.lay45 ?_
    refine Y_assign ?_
    refine XD_end ?_
    refine K_then ?_
    refine Y_pk [6, 5, 4, 2, 1] ?_
    refine C_ret ?_
    refine K_ret ?_
    refine K_end (.inr rfl) (.cell rfl (by repeat first | exact List.Mem.head _ | refine List.Mem.tail _ ?_ | refine List.mem_append_right _ ?_) F.lay28 rfl rfl (.cell rfl (by repeat first | exact List.Mem.head _ | refine List.Mem.tail _ ?_ | refine List.mem_append_right _ ?_) F.lay45 rfl rfl (.tmp rfl .nil))) (fun w hw => ?_)
    refine ⟨_, rfl, (by exact hw.c), ?_⟩
    clear hw
    refine congrArg ofTri (a₁ := (⟨_, _, _, _, ⟨_, _, _, _, _⟩, _⟩, ⟨_, ⟨_, _, _, _⟩⟩, _)) ?_
    grind [tickR, endR, IsClient, ClientV.zero, OutcomeV.zero]
   ·replace hc5 := dF hc5
    refine Y_move ?_
    refine Y_cmp ?_
    refine Y_pick ?_
    refine XD_end ?_
    refine K_then ?_
    refine Y_pk [18, 6, 5, 4, 2, 1] ?_
    refine C_cond rfl (fun hc6 => ?_) (fun hc6 => ?_)
    ·replace hc6 := dT hc6
     refine C_seq ?_
     refine C_region (l := [0, 1, 2, 3, 4]) rfl ?_
     refine X_build rfl rfl F.bld28 (.nil) rfl rfl ?_
     refine X_build rfl rfl F.bld45 (.nil) rfl rfl ?_
     refine Y_store F.lay28 ?_
     refine Y_store F.lay45 ?_
     refine Y_assign ?_
     refine XD_end ?_
     refine K_then ?_
     refine Y_pk [6, 5, 4, 2, 1] ?_
     refine C_ret ?_
     refine K_ret ?_
     refine K_end (.inr rfl) (.cell rfl (by repeat first | exact List.Mem.head _ | refine List.Mem.tail _ ?_ | refine List.mem_append_right _ ?_) F.lay28 rfl rfl (.cell rfl (by repeat first | exact List.Mem.head _ | refine List.Mem.tail _ ?_ | refine List.mem_append_right _ ?_) F.lay45 rfl rfl (.tmp rfl .nil))) (fun w hw => ?_)
     refine ⟨_, rfl, (by exact hw.c), ?_⟩
     clear hw
     refine congrArg ofTri (a₁ := (⟨_, _, _, _, ⟨_, _, _, _, _⟩, _⟩, ⟨_, ⟨_, _, _, _⟩⟩, _)) ?_
     grind [tickR, endR, IsClient, ClientV.zero, OutcomeV.zero]
    ·replace hc6 := dF hc6
     refine C_skip ?_
     refine K_then ?_
     refine Y_pk [6, 5, 4, 2, 1] ?_
     iterate 2 refine C_seq ?_
     refine C_region (l := [0, 1, 2]) rfl ?_
     refine Y_fieldAddr F.foff28_2 ?_
     refine Y_load F.lay4 ?_
     refine Y_not ?_
     refine XD_end ?_
     refine K_then ?_
     refine Y_pk [23, 6, 5, 4, 2, 1] ?_
     refine C_cond rfl (fun hc7 => ?_) (fun hc7 => ?_)
     ·skip
      refine C_seq ?_
      refine C_region (l := [0, 1, 2, 3, 4]) rfl ?_
      refine Y_load F.lay28 ?_
      refine X_build rfl rfl F.bld45 (.nil) rfl rfl ?_
      refine Y_store F.lay28 ?_
      refine Y_store F.lay45 ?_
      refine Y_assign ?_
      refine XD_end ?_
      refine K_then ?_
      refine Y_pk [6, 5, 4, 2, 1] ?_
      refine C_ret ?_
      refine K_ret ?_
      refine K_end (.inr rfl) (.cell rfl (by repeat first | exact List.Mem.head _ | refine List.Mem.tail _ ?_ | refine List.mem_append_right _ ?_) F.lay28 rfl rfl (.cell rfl (by repeat first | exact List.Mem.head _ | refine List.Mem.tail _ ?_ | refine List.mem_append_right _ ?_) F.lay45 rfl rfl (.tmp rfl .nil))) (fun w hw => ?_)
      refine ⟨_, rfl, (by exact hw.c), ?_⟩
      clear hw
      refine congrArg ofTri (a₁ := (⟨_, _, _, _, ⟨_, _, _, _, _⟩, _⟩, ⟨_, ⟨_, _, _, _⟩⟩, _)) ?_
      grind [tickR, endR, IsClient, ClientV.zero, OutcomeV.zero]
     ·skip
      refine C_skip ?_
      refine K_then ?_
      refine Y_pk [6, 5, 4, 2, 1] ?_
      refine C_seq ?_
      refine C_region (l := [0, 1, 2, 3, 4, 5, 6, 7]) rfl ?_
      refine Y_load F.lay28 ?_
      refine Y_move ?_
      refine X_fn rfl rfl F.ok52 rfl (try_out M ⟨_, _, _, _, ⟨_, _, _, _, _⟩, _⟩ b h) rfl ?_
      rintro _ M1 hm1 ⟨u1, rfl, he⟩
      obtain ⟨t1, u2, rfl⟩ := he.iface
      have hE1 := hE.mono hm1
      refine Y_move ?_
      iterate 2 refine Y_extract ?_
      refine Y_store F.lay28 ?_
      refine Y_assign ?_
      refine XD_end ?_
      refine K_then ?_
      refine Y_pk [7, 6, 5, 4, 2] ?_
      iterate 2 refine C_seq ?_
      refine C_region (l := [0, 1, 2, 3, 4, 5, 6]) rfl ?_
      refine Y_move ?_
      refine Y_nil Tryd.underlying71 ?_
      refine Y_move ?_
      refine XD_part 34 rfl (fun hc8 => ?_) (fun hc8 => ?_)
      ·skip
       refine Y_move ?_
       refine X_fs rfl rfl F.ok45 rfl (bNew_ok _ _) rfl ?_
       rintro _ rfl
       refine X_fs rfl rfl F.ok53 rfl (eIs_ok M1 10 _ _ he) rfl ?_
       rintro _ rfl
       rw [show decide ((10 : Int) ∈ (Err.wrap askT (.code 10)).codes) = true by simp [Err.codes]]
       refine Y_pick ?_
       refine XD_end ?_
       refine K_then ?_
       refine Y_pk [38, 7, 6, 5, 4, 2] ?_
       refine C_cond rfl (fun hc9 => ?_) (fun hc9 => ?_)
       ·skip
        simp only [OpV.eta, ClientV.eta, AnswerV.eta, OutcomeV.eta, MarkV.eta, CellV.eta, ParcelV.eta, PostV.eta, PeerV.eta, StepL06V.eta] at hc9
        refine C_seq ?_
        refine C_region_any (l := [0, 1, 2, 3, 4, 5, 6, 7, 8, 9, 10]) #[0, 0, 2, 6, 15, 31, 31, 31, 255, 511, 1023] _ rfl (by kernel_rfl) (by kernel_rfl) St.drawn (fun _ h => h) ?_
        refine Y_load F.lay28 ?_
        refine Y_move ?_
        refine X_fs rfl rfl F.ok31 rfl (bCode_ok M1 _ _ he hE1) rfl ?_
        rintro _ rfl
        rw [show ((Err.wrap askT (.code 10)).codes.headD 0) = (10 : Int) by simp [Err.codes]]
        refine X_build rfl rfl F.bld37 (.cons rfl (by constructor) .nil) rfl rfl ?_
        refine X_fs rfl rfl F.ok51 rfl (end_ok M1 ⟨_, _, _, _, ⟨_, _, _, _, _⟩, _⟩ ⟨_, _, _, _⟩) rfl ?_
        rintro _ rfl
        iterate 3 refine Y_extract ?_
        refine Y_store F.lay28 ?_
        refine Y_store F.lay45 ?_
        refine Y_assign ?_
        refine XD_end ?_
        refine K_then ?_
        refine Y_pk [6, 5, 4, 2] ?_
        refine C_ret ?_
        refine K_ret ?_
        refine K_end (.inr rfl) (.cell rfl (by repeat first | exact List.Mem.head _ | refine List.Mem.tail _ ?_ | refine List.mem_append_right _ ?_) F.lay28 rfl rfl (.cell rfl (by repeat first | exact List.Mem.head _ | refine List.Mem.tail _ ?_ | refine List.mem_append_right _ ?_) F.lay45 rfl rfl (.tmp rfl .nil))) (fun w hw => ?_)
        refine ⟨_, rfl, (by exact (hw.lower (by assumption)).c), ?_⟩
        clear hw
        refine congrArg ofTri (a₁ := (⟨_, _, _, _, ⟨_, _, _, _, _⟩, _⟩, ⟨_, ⟨_, _, _, _⟩⟩, _)) ?_
        grind [tickR, endR, IsClient, ClientV.zero, OutcomeV.zero]
       ·skip
        (exfalso; simp [eqX] at hc9; done)
      ·skip
       (exfalso; simp [eqX] at hc8; done)

theorem Tick_in (M : Mem) (hE : EG M) (c : ClientV) (b : Int) (h : c.tries < b) : Fs Tryd.prog 21 [c.enc, .int .i64 b] M (fun v => v = ofTri (tickR c b)) := by
  obtain ⟨c_num, c_req, c_busy, c_key, ⟨c_op_client, c_op_req, c_op_kind, c_op_version, c_op_val⟩, c_tries⟩ := c
  simp only at h
  refine fs_enter Tryd.func21 rfl Tryd.ntmps21 rfl ?_; intro H
  refine C_seq ?_
  refine C_region (l := [0, 1, 2, 3]) rfl ?_
  refine Y_box ?_; intro b1
  refine Y_alloc F.zero28 ?_; intro b2
  refine Y_alloc F.zero45 ?_; intro b3
  refine Y_assign ?_
  refine XD_end ?_
  refine K_then ?_
  refine Y_pk [6, 5, 4, 2, 1] ?_
  iterate 2 refine C_seq ?_
  refine C_region (l := [0, 1, 2, 3, 4, 5, 6, 7, 8, 9, 10]) rfl ?_
  refine Y_load F.lay28 ?_
  refine X_fs rfl rfl F.ok17 rfl (Is_ok _ ⟨_, _, _, _, ⟨_, _, _, _, _⟩, _⟩) rfl ?_
  rintro _ rfl
  refine Y_not ?_
  refine Y_move ?_
  refine XD_part 11 rfl (fun hc4 => ?_) (fun hc4 => ?_)
  ·replace hc4 := nT hc4
   iterate 2 refine Y_skip ?_
   refine Y_pick ?_
   refine Y_move ?_
   iterate 2 refine Y_skip ?_
   refine Y_pick ?_
   refine XD_end ?_
   refine K_then ?_
   refine Y_pk [18, 6, 5, 4, 2, 1] ?_
   refine C_true rfl ?_
   refine C_seq ?_
   refine C_region (l := [0, 1, 2, 3, 4]) rfl ?_
   refine X_build rfl rfl F.bld28 (.nil) rfl rfl ?_
   refine X_build rfl rfl F.bld45 (.nil) rfl rfl ?_
   refine Y_store F.lay28 ?_
   refine Y_store F.lay45 ?_
   refine Y_assign ?_
   refine XD_end ?_
   refine K_then ?_
   refine Y_pk [6, 5, 4, 2, 1] ?_
   refine C_ret ?_
   refine K_ret ?_
   refine K_end (.inr rfl) (.cell rfl (by repeat first | exact List.Mem.head _ | refine List.Mem.tail _ ?_ | refine List.mem_append_right _ ?_) F.lay28 rfl rfl (.cell rfl (by repeat first | exact List.Mem.head _ | refine List.Mem.tail _ ?_ | refine List.mem_append_right _ ?_) F.lay45 rfl rfl (.tmp rfl .nil))) (fun w hw => ?_)
   refine ⟨_, rfl, (by exact hw.c), ?_⟩
   clear hw
   refine congrArg ofTri (a₁ := (⟨_, _, _, _, ⟨_, _, _, _, _⟩, _⟩, ⟨_, ⟨_, _, _, _⟩⟩, _)) ?_
   grind [tickR, endR, IsClient, ClientV.zero, OutcomeV.zero]
  ·replace hc4 := nF hc4
   refine Y_move ?_
   refine Y_cmp ?_
   refine Y_pick ?_
   refine Y_move ?_
   refine XD_part 15 rfl (fun hc5 => ?_) (fun hc5 => ?_)
   ·replace hc5 := dT hc5
    iterate 2 refine Y_skip ?_
    refine Y_pick ?_
    refine XD_end ?_
    refine K_then ?_
    refine Y_pk [18, 6, 5, 4, 2, 1] ?_
    refine C_true rfl ?_
    refine C_seq ?_
    refine C_region (l := [0, 1, 2, 3, 4]) rfl ?_
    refine X_build rfl rfl F.bld28 (.nil) rfl rfl ?_
    refine X_build rfl rfl F.bld45 (.nil) rfl rfl ?_
    refine Y_store F.lay28 ?_
    refine Y_store F.lay45 ?_
    refine Y_assign ?_
    refine XD_end ?_
    refine K_then ?_
    refine Y_pk [6, 5, 4, 2, 1] ?_
    refine C_ret ?_
    refine K_ret ?_
    refine K_end (.inr rfl) (.cell rfl (by repeat first | exact List.Mem.head _ | refine List.Mem.tail _ ?_ | refine List.mem_append_right _ ?_) F.lay28 rfl rfl (.cell rfl (by repeat first | exact List.Mem.head _ | refine List.Mem.tail _ ?_ | refine List.mem_append_right _ ?_) F.lay45 rfl rfl (.tmp rfl .nil))) (fun w hw => ?_)
    refine ⟨_, rfl, (by exact hw.c), ?_⟩
    clear hw
    refine congrArg ofTri (a₁ := (⟨_, _, _, _, ⟨_, _, _, _, _⟩, _⟩, ⟨_, ⟨_, _, _, _⟩⟩, _)) ?_
    grind [tickR, endR, IsClient, ClientV.zero, OutcomeV.zero]
   ·replace hc5 := dF hc5
    refine Y_move ?_
    refine Y_cmp ?_
    refine Y_pick ?_
    refine XD_end ?_
    refine K_then ?_
    refine Y_pk [18, 6, 5, 4, 2, 1] ?_
    refine C_cond rfl (fun hc6 => ?_) (fun hc6 => ?_)
    ·replace hc6 := dT hc6
     refine C_seq ?_
     refine C_region (l := [0, 1, 2, 3, 4]) rfl ?_
     refine X_build rfl rfl F.bld28 (.nil) rfl rfl ?_
     refine X_build rfl rfl F.bld45 (.nil) rfl rfl ?_
     refine Y_store F.lay28 ?_
     refine Y_store F.lay45 ?_
     refine Y_assign ?_
     refine XD_end ?_
     refine K_then ?_
     refine Y_pk [6, 5, 4, 2, 1] ?_
     refine C_ret ?_
     refine K_ret ?_
     refine K_end (.inr rfl) (.cell rfl (by repeat first | exact List.Mem.head _ | refine List.Mem.tail _ ?_ | refine List.mem_append_right _ ?_) F.lay28 rfl rfl (.cell rfl (by repeat first | exact List.Mem.head _ | refine List.Mem.tail _ ?_ | refine List.mem_append_right _ ?_) F.lay45 rfl rfl (.tmp rfl .nil))) (fun w hw => ?_)
     refine ⟨_, rfl, (by exact hw.c), ?_⟩
     clear hw
     refine congrArg ofTri (a₁ := (⟨_, _, _, _, ⟨_, _, _, _, _⟩, _⟩, ⟨_, ⟨_, _, _, _⟩⟩, _)) ?_
     grind [tickR, endR, IsClient, ClientV.zero, OutcomeV.zero]
    ·replace hc6 := dF hc6
     refine C_skip ?_
     refine K_then ?_
     refine Y_pk [6, 5, 4, 2, 1] ?_
     iterate 2 refine C_seq ?_
     refine C_region (l := [0, 1, 2]) rfl ?_
     refine Y_fieldAddr F.foff28_2 ?_
     refine Y_load F.lay4 ?_
     refine Y_not ?_
     refine XD_end ?_
     refine K_then ?_
     refine Y_pk [23, 6, 5, 4, 2, 1] ?_
     refine C_cond rfl (fun hc7 => ?_) (fun hc7 => ?_)
     ·skip
      refine C_seq ?_
      refine C_region (l := [0, 1, 2, 3, 4]) rfl ?_
      refine Y_load F.lay28 ?_
      refine X_build rfl rfl F.bld45 (.nil) rfl rfl ?_
      refine Y_store F.lay28 ?_
      refine Y_store F.lay45 ?_
      refine Y_assign ?_
      refine XD_end ?_
      refine K_then ?_
      refine Y_pk [6, 5, 4, 2, 1] ?_
      refine C_ret ?_
      refine K_ret ?_
      refine K_end (.inr rfl) (.cell rfl (by repeat first | exact List.Mem.head _ | refine List.Mem.tail _ ?_ | refine List.mem_append_right _ ?_) F.lay28 rfl rfl (.cell rfl (by repeat first | exact List.Mem.head _ | refine List.Mem.tail _ ?_ | refine List.mem_append_right _ ?_) F.lay45 rfl rfl (.tmp rfl .nil))) (fun w hw => ?_)
      refine ⟨_, rfl, (by exact hw.c), ?_⟩
      clear hw
      refine congrArg ofTri (a₁ := (⟨_, _, _, _, ⟨_, _, _, _, _⟩, _⟩, ⟨_, ⟨_, _, _, _⟩⟩, _)) ?_
      grind [tickR, endR, IsClient, ClientV.zero, OutcomeV.zero]
     ·skip
      refine C_skip ?_
      refine K_then ?_
      refine Y_pk [6, 5, 4, 2, 1] ?_
      refine C_seq ?_
      refine C_region (l := [0, 1, 2, 3, 4, 5, 6, 7]) rfl ?_
      refine Y_load F.lay28 ?_
      refine Y_move ?_
      refine X_fs rfl rfl F.ok52 rfl (try_in M ⟨_, _, _, _, ⟨_, _, _, _, _⟩, _⟩ b h (by grind [IsClient])) rfl ?_
      rintro _ rfl
      refine Y_move ?_
      iterate 2 refine Y_extract ?_
      refine Y_store F.lay28 ?_
      refine Y_assign ?_
      refine XD_end ?_
      refine K_then ?_
      refine Y_pk [7, 6, 5, 4, 2] ?_
      iterate 2 refine C_seq ?_
      refine C_region (l := [0, 1, 2, 3, 4, 5, 6]) rfl ?_
      refine Y_move ?_
      refine Y_nil Tryd.underlying71 ?_
      refine Y_move ?_
      refine XD_part 34 rfl (fun hc8 => ?_) (fun hc8 => ?_)
      ·skip
       (exfalso; simp [eqX] at hc8; done)
      ·skip
       iterate 3 refine Y_skip ?_
       refine Y_pick ?_
       refine XD_end ?_
       refine K_then ?_
       refine Y_pk [38, 7, 6, 5, 4, 2] ?_
       refine C_false rfl ?_
       refine C_skip ?_
       refine K_then ?_
       refine Y_pk [6, 5, 4, 2] ?_
       refine C_seq ?_
       refine C_region (l := [0, 1, 2, 3, 4]) rfl ?_
       refine Y_load F.lay28 ?_
       refine X_build rfl rfl F.bld45 (.nil) rfl rfl ?_
       refine Y_store F.lay28 ?_
       refine Y_store F.lay45 ?_
       refine Y_assign ?_
       refine XD_end ?_
       refine K_then ?_
       refine Y_pk [6, 5, 4] ?_
       refine C_ret ?_
       refine K_end (.inr rfl) (.cell rfl (by repeat first | exact List.Mem.head _ | refine List.Mem.tail _ ?_ | refine List.mem_append_right _ ?_) F.lay28 rfl rfl (.cell rfl (by repeat first | exact List.Mem.head _ | refine List.Mem.tail _ ?_ | refine List.mem_append_right _ ?_) F.lay45 rfl rfl (.tmp rfl .nil))) (fun w hw => ?_)
       refine ⟨_, rfl, (by exact hw.c), ?_⟩
       clear hw
       refine congrArg ofTri (a₁ := (⟨_, _, _, _, ⟨_, _, _, _, _⟩, _⟩, ⟨_, ⟨_, _, _, _⟩⟩, _)) ?_
       grind [tickR, endR, IsClient, ClientV.zero, OutcomeV.zero]

theorem Tick_ok (M : Mem) (hE : EG M) (c : ClientV) (b : Int) : Fs Tryd.prog 21 [c.enc, .int .i64 b] M (fun v => v = ofTri (tickR c b)) := by
  by_cases h : b ≤ c.tries
  ·exact Tick_out M hE c b h
  ·exact Tick_in M hE c b (by omega)

theorem rTick_ok (M : Mem) (c : ClientV) (b : Int) : Fs Tryd.prog 24 [c.enc, .int .i64 b] M (fun v => v = ofTri (tickR c b)) := by
  obtain ⟨c_num, c_req, c_busy, c_key, ⟨c_op_client, c_op_req, c_op_kind, c_op_version, c_op_val⟩, c_tries⟩ := c
  refine fs_enter Tryd.func24 rfl Tryd.ntmps24 rfl ?_; intro H
  refine C_seq ?_
  refine C_region (l := [0, 1, 2, 3]) rfl ?_
  refine Y_box ?_; intro b1
  refine Y_alloc F.zero28 ?_; intro b2
  refine Y_alloc F.zero45 ?_; intro b3
  refine Y_assign ?_
  refine XD_end ?_
  refine K_then ?_
  refine Y_pk [6, 5, 4, 2, 1] ?_
  iterate 2 refine C_seq ?_
  refine C_region (l := [0, 1, 2, 3, 4, 5, 6, 7, 8, 9, 10]) rfl ?_
  refine Y_load F.lay28 ?_
  refine X_fs rfl rfl F.ok18 rfl (rIs_ok _ ⟨_, _, _, _, ⟨_, _, _, _, _⟩, _⟩) rfl ?_
  rintro _ rfl
  refine Y_not ?_
  refine Y_move ?_
  refine XD_part 10 rfl (fun hc4 => ?_) (fun hc4 => ?_)
  ·replace hc4 := nT hc4
   iterate 2 refine Y_skip ?_
   refine Y_pick ?_
   refine Y_move ?_
   iterate 2 refine Y_skip ?_
   refine Y_pick ?_
   refine XD_end ?_
   refine K_then ?_
   refine Y_pk [17, 6, 5, 4, 2, 1] ?_
   refine C_true rfl ?_
   refine C_seq ?_
   refine C_region (l := [0, 1, 2, 3, 4]) rfl ?_
   refine X_build rfl rfl F.bld28 (.nil) rfl rfl ?_
   refine X_build rfl rfl F.bld45 (.nil) rfl rfl ?_
   refine Y_store F.lay28 ?_
   refine Y_store F.lay45 ?_
   refine Y_assign ?_
   refine XD_end ?_
   refine K_then ?_
   refine Y_pk [6, 5, 4, 2, 1] ?_
   refine C_ret ?_
   refine K_ret ?_
   refine K_end (.inr rfl) (.cell rfl (by repeat first | exact List.Mem.head _ | refine List.Mem.tail _ ?_ | refine List.mem_append_right _ ?_) F.lay28 rfl rfl (.cell rfl (by repeat first | exact List.Mem.head _ | refine List.Mem.tail _ ?_ | refine List.mem_append_right _ ?_) F.lay45 rfl rfl (.tmp rfl .nil))) (fun w hw => ?_)
   refine ⟨_, rfl, (hw.c), ?_⟩
   clear hw
   refine congrArg ofTri (a₁ := (⟨_, _, _, _, ⟨_, _, _, _, _⟩, _⟩, ⟨_, ⟨_, _, _, _⟩⟩, _)) ?_
   grind [w64, tickR, endR, IsClient, ClientV.zero, OutcomeV.zero]
  ·replace hc4 := nF hc4
   refine Y_move ?_
   refine Y_cmp ?_
   refine Y_pick ?_
   refine Y_move ?_
   refine XD_part 14 rfl (fun hc5 => ?_) (fun hc5 => ?_)
   ·replace hc5 := dT hc5
    iterate 2 refine Y_skip ?_
    refine Y_pick ?_
    refine XD_end ?_
    refine K_then ?_
    refine Y_pk [17, 6, 5, 4, 2, 1] ?_
    refine C_true rfl ?_
    refine C_seq ?_
    refine C_region (l := [0, 1, 2, 3, 4]) rfl ?_
    refine X_build rfl rfl F.bld28 (.nil) rfl rfl ?_
    refine X_build rfl rfl F.bld45 (.nil) rfl rfl ?_
    refine Y_store F.lay28 ?_
    refine Y_store F.lay45 ?_
    refine Y_assign ?_
    refine XD_end ?_
    refine K_then ?_
    refine Y_pk [6, 5, 4, 2, 1] ?_
    refine C_ret ?_
    refine K_ret ?_
    refine K_end (.inr rfl) (.cell rfl (by repeat first | exact List.Mem.head _ | refine List.Mem.tail _ ?_ | refine List.mem_append_right _ ?_) F.lay28 rfl rfl (.cell rfl (by repeat first | exact List.Mem.head _ | refine List.Mem.tail _ ?_ | refine List.mem_append_right _ ?_) F.lay45 rfl rfl (.tmp rfl .nil))) (fun w hw => ?_)
    refine ⟨_, rfl, (hw.c), ?_⟩
    clear hw
    refine congrArg ofTri (a₁ := (⟨_, _, _, _, ⟨_, _, _, _, _⟩, _⟩, ⟨_, ⟨_, _, _, _⟩⟩, _)) ?_
    grind [w64, tickR, endR, IsClient, ClientV.zero, OutcomeV.zero]
   ·replace hc5 := dF hc5
    refine Y_move ?_
    refine Y_cmp ?_
    refine Y_pick ?_
    refine XD_end ?_
    refine K_then ?_
    refine Y_pk [17, 6, 5, 4, 2, 1] ?_
    refine C_cond rfl (fun hc6 => ?_) (fun hc6 => ?_)
    ·replace hc6 := dT hc6
     refine C_seq ?_
     refine C_region (l := [0, 1, 2, 3, 4]) rfl ?_
     refine X_build rfl rfl F.bld28 (.nil) rfl rfl ?_
     refine X_build rfl rfl F.bld45 (.nil) rfl rfl ?_
     refine Y_store F.lay28 ?_
     refine Y_store F.lay45 ?_
     refine Y_assign ?_
     refine XD_end ?_
     refine K_then ?_
     refine Y_pk [6, 5, 4, 2, 1] ?_
     refine C_ret ?_
     refine K_ret ?_
     refine K_end (.inr rfl) (.cell rfl (by repeat first | exact List.Mem.head _ | refine List.Mem.tail _ ?_ | refine List.mem_append_right _ ?_) F.lay28 rfl rfl (.cell rfl (by repeat first | exact List.Mem.head _ | refine List.Mem.tail _ ?_ | refine List.mem_append_right _ ?_) F.lay45 rfl rfl (.tmp rfl .nil))) (fun w hw => ?_)
     refine ⟨_, rfl, (hw.c), ?_⟩
     clear hw
     refine congrArg ofTri (a₁ := (⟨_, _, _, _, ⟨_, _, _, _, _⟩, _⟩, ⟨_, ⟨_, _, _, _⟩⟩, _)) ?_
     grind [w64, tickR, endR, IsClient, ClientV.zero, OutcomeV.zero]
    ·replace hc6 := dF hc6
     refine C_skip ?_
     refine K_then ?_
     refine Y_pk [6, 5, 4, 2, 1] ?_
     iterate 2 refine C_seq ?_
     refine C_region (l := [0, 1, 2]) rfl ?_
     refine Y_fieldAddr F.foff28_2 ?_
     refine Y_load F.lay4 ?_
     refine Y_not ?_
     refine XD_end ?_
     refine K_then ?_
     refine Y_pk [22, 6, 5, 4, 2, 1] ?_
     refine C_cond rfl (fun hc7 => ?_) (fun hc7 => ?_)
     ·skip
      refine C_seq ?_
      refine C_region (l := [0, 1, 2, 3, 4]) rfl ?_
      refine Y_load F.lay28 ?_
      refine X_build rfl rfl F.bld45 (.nil) rfl rfl ?_
      refine Y_store F.lay28 ?_
      refine Y_store F.lay45 ?_
      refine Y_assign ?_
      refine XD_end ?_
      refine K_then ?_
      refine Y_pk [6, 5, 4, 2, 1] ?_
      refine C_ret ?_
      refine K_ret ?_
      refine K_end (.inr rfl) (.cell rfl (by repeat first | exact List.Mem.head _ | refine List.Mem.tail _ ?_ | refine List.mem_append_right _ ?_) F.lay28 rfl rfl (.cell rfl (by repeat first | exact List.Mem.head _ | refine List.Mem.tail _ ?_ | refine List.mem_append_right _ ?_) F.lay45 rfl rfl (.tmp rfl .nil))) (fun w hw => ?_)
      refine ⟨_, rfl, (hw.c), ?_⟩
      clear hw
      refine congrArg ofTri (a₁ := (⟨_, _, _, _, ⟨_, _, _, _, _⟩, _⟩, ⟨_, ⟨_, _, _, _⟩⟩, _)) ?_
      grind [w64, tickR, endR, IsClient, ClientV.zero, OutcomeV.zero]
     ·skip
      refine C_skip ?_
      refine K_then ?_
      refine Y_pk [6, 5, 4, 2, 1] ?_
      iterate 2 refine C_seq ?_
      refine C_region (l := [0, 1, 2, 3]) rfl ?_
      refine Y_fieldAddr F.foff28_5 ?_
      refine Y_load F.lay3 ?_
      refine Y_move ?_
      refine Y_cmp ?_
      refine XD_end ?_
      refine K_then ?_
      refine Y_pk [28, 6, 5, 4, 2] ?_
      refine C_cond rfl (fun hc8 => ?_) (fun hc8 => ?_)
      ·replace hc8 := dT hc8
       refine C_seq ?_
       refine C_region (l := [0, 1]) rfl ?_
       refine Y_fieldAddr F.foff28_2 ?_
       refine Y_store F.lay4 ?_
       refine XD_end ?_
       refine K_then ?_
       refine Y_pk [6, 5, 4, 2] ?_
       refine C_seq ?_
       refine C_region (l := [0, 1, 2, 3, 4, 5]) rfl ?_
       refine Y_load F.lay28 ?_
       refine X_build rfl rfl F.bld37 (.cons rfl (by constructor) .nil) rfl rfl ?_
       refine X_build rfl rfl F.bld45 (.cons rfl (by constructor) (.cons rfl (by constructor) .nil)) rfl rfl ?_
       refine Y_store F.lay28 ?_
       refine Y_store F.lay45 ?_
       refine Y_assign ?_
       refine XD_end ?_
       refine K_then ?_
       refine Y_pk [6, 5, 4, 2] ?_
       refine C_ret ?_
       refine K_ret ?_
       refine K_end (.inr rfl) (.cell rfl (by repeat first | exact List.Mem.head _ | refine List.Mem.tail _ ?_ | refine List.mem_append_right _ ?_) F.lay28 rfl rfl (.cell rfl (by repeat first | exact List.Mem.head _ | refine List.Mem.tail _ ?_ | refine List.mem_append_right _ ?_) F.lay45 rfl rfl (.tmp rfl .nil))) (fun w hw => ?_)
       refine ⟨_, rfl, (hw.c), ?_⟩
       clear hw
       refine congrArg ofTri (a₁ := (⟨_, _, _, _, ⟨_, _, _, _, _⟩, _⟩, ⟨_, ⟨_, _, _, _⟩⟩, _)) ?_
       grind [w64, tickR, endR, IsClient, ClientV.zero, OutcomeV.zero]
      ·replace hc8 := dF hc8
       refine C_skip ?_
       refine K_then ?_
       refine Y_pk [6, 5, 4, 2] ?_
       refine C_seq ?_
       refine C_region (l := [0, 1, 2, 3, 4]) rfl ?_
       refine Y_fieldAddr F.foff28_5 ?_
       refine Y_load F.lay3 ?_
       have hb9 : 0 ≤ c_tries ∧ c_tries ≤ 1000 := (by grind [IsClient])
       refine X_ari rfl rfl rfl rfl rfl (by exact wrap_in (by decide) (by omega)) rfl ?_
       refine Y_fieldAddr F.foff28_5 ?_
       refine Y_store F.lay3 ?_
       refine XD_end ?_
       refine K_then ?_
       refine Y_pk [6, 5, 4, 2] ?_
       refine C_seq ?_
       refine C_region (l := [0, 1, 2, 3, 4]) rfl ?_
       refine Y_load F.lay28 ?_
       refine X_build rfl rfl F.bld45 (.nil) rfl rfl ?_
       refine Y_store F.lay28 ?_
       refine Y_store F.lay45 ?_
       refine Y_assign ?_
       refine XD_end ?_
       refine K_then ?_
       refine Y_pk [6, 5, 4] ?_
       refine C_ret ?_
       refine K_end (.inr rfl) (.cell rfl (by repeat first | exact List.Mem.head _ | refine List.Mem.tail _ ?_ | refine List.mem_append_right _ ?_) F.lay28 rfl rfl (.cell rfl (by repeat first | exact List.Mem.head _ | refine List.Mem.tail _ ?_ | refine List.mem_append_right _ ?_) F.lay45 rfl rfl (.tmp rfl .nil))) (fun w hw => ?_)
       refine ⟨_, rfl, (hw.c), ?_⟩
       clear hw
       refine congrArg ofTri (a₁ := (⟨_, _, _, _, ⟨_, _, _, _, _⟩, _⟩, ⟨_, ⟨_, _, _, _⟩⟩, _)) ?_
       grind [w64, tickR, endR, IsClient, ClientV.zero, OutcomeV.zero]

end Go.Proofs.YtelpkhhfjfbkcaaDoor
