/-
  The example of the document.
-/
import Derived.Test.YtelpkhhfjfbkcaaDoorC12
set_option linter.unusedSimpArgs false
set_option linter.unusedVariables false
set_option linter.unnecessarySimpa false
set_option maxRecDepth 8000
namespace Go.Proofs.YtelpkhhfjfbkcaaDoor
open Go.Esp
theorem F.foff37_1 : foff Tryd.prog 37 1 = some 1 := by kernel_rfl
theorem F.foff45_0 : foff Tryd.prog 45 0 = some 0 := by kernel_rfl
theorem F.foff45_1 : foff Tryd.prog 45 1 = some 1 := by kernel_rfl
theorem F.ok12 : okFn Tryd.prog 12 = true := by kernel_rfl
theorem F.ok14 : okFn Tryd.prog 14 = true := by kernel_rfl
theorem F.ok20 : okFn Tryd.prog 20 = true := by kernel_rfl
theorem F.ok21 : okFn Tryd.prog 21 = true := by kernel_rfl
theorem F.ok49 : okFn Tryd.prog 49 = true := by kernel_rfl

theorem clients_ok (M : Mem) (hE : EG M) : Fs Tryd.prog 16 [] M (fun v => v = .bool true) := by
  refine fs_enter Tryd.func16 rfl Tryd.ntmps16 rfl ?_; intro H
  refine C_seq ?_
  refine C_region (l := [0]) rfl ?_
  refine Y_assign ?_
  refine XD_end ?_
  refine K_then ?_
  refine C_seq ?_
  refine C_region (l := [0, 1, 2, 3, 4, 5, 6]) rfl ?_
  refine X_fs rfl rfl F.ok12 rfl (New_ok M 5) rfl ?_
  rintro _ rfl
  refine XD_is 16 rfl (show _ = Value.tuple #[xc0.enc, .int .i64 0] from congrArg ofPair xe1) ?_
  refine Y_move ?_
  iterate 2 refine Y_extract ?_
  refine Y_alloc F.zero28 ?_; intro b1
  refine Y_store F.lay28 ?_
  refine Y_assign ?_
  refine XD_end ?_
  refine K_then ?_
  refine Y_pk [2, 1, 0] ?_
  refine C_seq ?_
  refine C_region_any (l := [0, 1, 2, 3, 4, 5, 6, 7, 8]) #[0, 0, 3, 7, 15, 15, 0, 95, 255] _ rfl (by kernel_rfl) (by kernel_rfl) St.drawn (fun _ h => h) ?_
  refine Y_load F.lay28 ?_
  refine X_fs rfl rfl F.ok49 rfl (Small_ok _ _ (by omega)) rfl ?_
  rintro _ rfl
  refine X_fs rfl rfl F.ok14 rfl (Start_ok M xc0 (smallP 7) 1 0 ⟨#[]⟩) rfl ?_
  rintro _ rfl
  refine XD_is 22 rfl (show _ = Value.tuple #[xc1.enc, .int .i64 0] from congrArg ofPair xe2) ?_
  refine Y_move ?_
  iterate 2 refine Y_extract ?_
  refine Y_alloc F.zero28 ?_; intro b2
  refine Y_store F.lay28 ?_
  refine Y_assign ?_
  refine XD_end ?_
  refine K_then ?_
  refine Y_pk [4, 3, 2, 0] ?_
  refine C_seq ?_
  refine C_region_any (l := [0, 1, 2, 3, 4, 5, 6, 7, 8]) #[0, 0, 3, 7, 15, 15, 0, 95, 255] _ rfl (by kernel_rfl) (by kernel_rfl) St.drawn (fun _ h => h) ?_
  refine Y_load F.lay28 ?_
  refine X_fs rfl rfl F.ok49 rfl (Small_ok _ _ (by omega)) rfl ?_
  rintro _ rfl
  refine X_fs rfl rfl F.ok14 rfl (Start_ok M xc1 (smallP 7) 1 0 ⟨#[]⟩) rfl ?_
  rintro _ rfl
  refine XD_is 28 rfl (show _ = Value.tuple #[ClientV.zero.enc, .int .i64 13] from congrArg ofPair xe3) ?_
  refine Y_move ?_
  iterate 2 refine Y_extract ?_
  refine Y_alloc F.zero28 ?_; intro b3
  refine Y_store F.lay28 ?_
  refine Y_assign ?_
  refine XD_end ?_
  refine K_then ?_
  refine Y_pk [6, 4, 3, 2, 0] ?_
  refine C_seq ?_
  refine C_region (l := [0, 1, 2, 3, 4, 5, 6, 7, 8, 9, 10, 11, 12, 13]) rfl ?_
  refine Y_load F.lay28 ?_
  refine X_build rfl rfl F.bld26 (.cons rfl (by constructor) (.cons rfl (by constructor) .nil)) rfl rfl ?_
  refine X_build rfl rfl F.bld37 (.cons rfl (by constructor) .nil) rfl rfl ?_
  refine X_build rfl rfl F.bld42 (.cons rfl (by constructor) (.cons rfl (by constructor) (.cons rfl (by constructor) .nil))) rfl rfl ?_
  refine X_fs rfl rfl F.ok20 rfl (Take_ok M xc1 xp (xp_ok M)) rfl ?_
  rintro _ rfl
  refine XD_is 36 rfl (show _ = Value.tuple #[xc2.enc, (⟨true, ⟨0, 3, false, ⟨#[]⟩⟩⟩ : OutcomeV).enc, .int .i64 0] from congrArg ofTri xe4) ?_
  refine Y_move ?_
  iterate 3 refine Y_extract ?_
  refine Y_alloc F.zero28 ?_; intro b4
  refine Y_alloc F.zero45 ?_; intro b5
  refine Y_store F.lay28 ?_
  refine Y_store F.lay45 ?_
  refine Y_assign ?_
  refine XD_end ?_
  refine K_then ?_
  refine Y_pk [9, 8, 7, 6, 4, 3, 2, 0] ?_
  refine C_seq ?_
  refine C_region_any (l := [0, 1, 2, 3, 4, 5, 6, 7, 8]) #[0, 0, 3, 7, 15, 15, 0, 95, 255] _ rfl (by kernel_rfl) (by kernel_rfl) St.drawn (fun _ h => h) ?_
  refine Y_load F.lay28 ?_
  refine X_fs rfl rfl F.ok49 rfl (Small_ok _ _ (by omega)) rfl ?_
  rintro _ rfl
  refine X_fs rfl rfl F.ok14 rfl (Start_ok M xc2 (smallP 7) 4 3 ⟨#[]⟩) rfl ?_
  rintro _ rfl
  refine XD_is 43 rfl (show _ = Value.tuple #[xc3.enc, .int .i64 0] from congrArg ofPair xe5) ?_
  refine Y_move ?_
  iterate 2 refine Y_extract ?_
  refine Y_alloc F.zero28 ?_; intro b6
  refine Y_store F.lay28 ?_
  refine Y_assign ?_
  refine XD_end ?_
  refine K_then ?_
  refine Y_pk [11, 10, 9, 8, 7, 6, 4, 3, 2, 0] ?_
  refine C_seq ?_
  refine C_region (l := [0, 1, 2, 3, 4, 5, 6, 7, 8, 9, 10]) rfl ?_
  refine Y_load F.lay28 ?_
  refine X_fs rfl rfl F.ok21 rfl (Tick_ok M hE xc3 0) rfl ?_
  rintro _ rfl
  refine XD_is 48 rfl (show _ = Value.tuple #[xc4.enc, (⟨true, ⟨10, 0, false, ⟨#[]⟩⟩⟩ : OutcomeV).enc, .int .i64 0] from congrArg ofTri xe6) ?_
  refine Y_move ?_
  iterate 3 refine Y_extract ?_
  refine Y_alloc F.zero28 ?_; intro b7
  refine Y_alloc F.zero45 ?_; intro b8
  refine Y_store F.lay28 ?_
  refine Y_store F.lay45 ?_
  refine Y_assign ?_
  refine XD_end ?_
  refine K_then ?_
  refine Y_pk [14, 13, 11, 10, 9, 8, 7, 6, 4, 3, 2, 0] ?_
  refine C_seq ?_
  refine C_region (l := [0, 1, 2, 3, 4, 5, 6, 7, 8, 9, 10, 11, 12, 13, 14, 15, 16, 17, 18, 19, 20, 21, 22, 23, 24, 25, 26, 27, 28, 29, 30, 31, 32, 33, 34, 35, 36, 37, 38, 39, 40, 41, 42, 43, 44, 45, 46, 47, 48, 49, 50, 51, 52, 53, 54, 55, 56, 57, 58, 59, 60, 61, 62, 63, 64, 65, 66, 67, 68, 69]) rfl ?_
  refine Y_move ?_
  refine Y_cmp ?_
  refine Y_move ?_
  refine XD_part 54 rfl (fun hc9 => ?_) (fun hc9 => ?_)
  ·replace hc9 := dT hc9
   iterate 2 refine Y_move ?_
   refine Y_cmp ?_
   refine Y_pick ?_
   refine Y_move ?_
   refine XD_part 59 rfl (fun hc10 => ?_) (fun hc10 => ?_)
   ·replace hc10 := dT hc10
    refine Y_fieldAddr F.foff28_2 ?_
    refine Y_load F.lay4 ?_
    refine Y_pick ?_
    refine Y_move ?_
    refine XD_part 63 rfl (fun hc11 => ?_) (fun hc11 => ?_)
    ·skip
     refine Y_fieldAddr F.foff28_1 ?_
     refine Y_load F.lay22 ?_
     refine Y_cmp ?_
     refine Y_pick ?_
     refine Y_move ?_
     refine XD_part 68 rfl (fun hc12 => ?_) (fun hc12 => ?_)
     ·replace hc12 := dT hc12
      refine Y_move ?_
      refine Y_cmp ?_
      refine Y_pick ?_
      refine Y_move ?_
      refine XD_part 72 rfl (fun hc13 => ?_) (fun hc13 => ?_)
      ·replace hc13 := dT hc13
       iterate 2 refine Y_move ?_
       refine Y_cmp ?_
       refine Y_pick ?_
       refine Y_move ?_
       refine XD_part 77 rfl (fun hc14 => ?_) (fun hc14 => ?_)
       ·replace hc14 := dT hc14
        refine Y_fieldAddr F.foff45_0 ?_
        refine Y_load F.lay4 ?_
        refine Y_pick ?_
        refine Y_move ?_
        refine XD_part 81 rfl (fun hc15 => ?_) (fun hc15 => ?_)
        ·skip
         refine Y_fieldAddr F.foff45_1 ?_
         refine Y_fieldAddr F.foff37_1 ?_
         refine Y_load F.lay22 ?_
         refine Y_cmp ?_
         refine Y_pick ?_
         refine Y_move ?_
         refine XD_part 87 rfl (fun hc16 => ?_) (fun hc16 => ?_)
         ·replace hc16 := dT hc16
          refine Y_fieldAddr F.foff28_2 ?_
          refine Y_load F.lay4 ?_
          refine Y_not ?_
          refine Y_pick ?_
          refine Y_move ?_
          refine XD_part 92 rfl (fun hc17 => ?_) (fun hc17 => ?_)
          ·skip
           iterate 2 refine Y_move ?_
           refine Y_cmp ?_
           refine Y_pick ?_
           refine Y_move ?_
           refine XD_part 97 rfl (fun hc18 => ?_) (fun hc18 => ?_)
           ·replace hc18 := dT hc18
            refine Y_fieldAddr F.foff28_1 ?_
            refine Y_load F.lay22 ?_
            refine Y_cmp ?_
            refine Y_pick ?_
            refine Y_move ?_
            refine XD_part 102 rfl (fun hc19 => ?_) (fun hc19 => ?_)
            ·replace hc19 := dT hc19
             iterate 2 refine Y_move ?_
             refine Y_cmp ?_
             refine Y_pick ?_
             refine Y_move ?_
             refine XD_part 107 rfl (fun hc20 => ?_) (fun hc20 => ?_)
             ·replace hc20 := dT hc20
              refine Y_fieldAddr F.foff45_0 ?_
              refine Y_load F.lay4 ?_
              refine Y_pick ?_
              refine Y_move ?_
              refine XD_part 111 rfl (fun hc21 => ?_) (fun hc21 => ?_)
              ·skip
               refine Y_fieldAddr F.foff45_1 ?_
               refine Y_fieldAddr F.foff37_0 ?_
               refine Y_load F.lay29 ?_
               refine Y_cmp ?_
               refine Y_pick ?_
               refine Y_move ?_
               refine XD_part 117 rfl (fun hc22 => ?_) (fun hc22 => ?_)
               ·replace hc22 := dT hc22
                refine Y_load F.lay28 ?_
                refine X_fs rfl rfl F.ok17 rfl (Is_ok M xc3) rfl ?_
                rintro _ rfl
                refine Y_pick ?_
                refine Y_assign ?_
                refine XD_end ?_
                refine K_then ?_
                refine Y_pk [0] ?_
                refine C_ret ?_
                refine K_end (.inr rfl) (.tmp rfl .nil) (fun w hw => ?_)
                exact ⟨_, rfl, hw.c, congrArg Value.bool (decide_eq_true xe7)⟩
               ·replace hc22 := dF hc22
                (exfalso; omega)
              ·skip
               (exfalso; simp [eqX] at hc21; done)
             ·replace hc20 := dF hc20
              (exfalso; omega)
            ·replace hc19 := dF hc19
             (exfalso; omega)
           ·replace hc18 := dF hc18
            (exfalso; omega)
          ·skip
           (exfalso; simp [eqX] at hc17; done)
         ·replace hc16 := dF hc16
          (exfalso; omega)
        ·skip
         (exfalso; simp [eqX] at hc15; done)
       ·replace hc14 := dF hc14
        (exfalso; omega)
      ·replace hc13 := dF hc13
       (exfalso; omega)
     ·replace hc12 := dF hc12
      (exfalso; omega)
    ·skip
     (exfalso; simp [eqX] at hc11; done)
   ·replace hc10 := dF hc10
    (exfalso; omega)
  ·replace hc9 := dF hc9
   (exfalso; omega)

end Go.Proofs.YtelpkhhfjfbkcaaDoor
