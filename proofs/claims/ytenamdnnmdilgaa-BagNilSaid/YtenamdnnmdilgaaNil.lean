/-
  BagNil, the walk.
-/
import Derived.Test.YtenamdnnmdilgaaBag5
import Derived.Test.YtenamdnnmdilgaaBag6
set_option linter.unusedSimpArgs false
set_option linter.unusedVariables false
set_option linter.unnecessarySimpa false
namespace Go.Proofs.Ytenamdnnmdilgaa
open Go.Esp
theorem F.ok10 : okFn Try.prog 10 = true := by kernel_rfl
theorem F.ok16 : okFn Try.prog 16 = true := by kernel_rfl
theorem F.ok18 : okFn Try.prog 18 = true := by kernel_rfl

theorem BagNil_fn (M : Mem) (m : Mail) (i : Int) : Esp.Fn Try.prog 6 [m.val, .int .i64 i] M (fun _ v => v = .bool true) := by
  refine fn_enter Try.func6 rfl Try.ntmps6 rfl ?_; intro H
  refine C_seq ?_
  refine C_region (l := [0, 1]) rfl ?_
  refine X_box rfl rfl rfl (by constructor) rfl ?_; intro b1
  refine X_assign rfl rfl rfl rfl ?_
  refine XD_end ?_
  refine K_then ?_
  refine C_pick (.cons (k := 4) rfl (.cons (k := 2) rfl (.cons (k := 1) rfl .nil))) ?_
  refine C_seq ?_
  refine C_region (l := [0]) rfl ?_
  refine X_assign rfl rfl rfl rfl ?_
  refine XD_end ?_
  refine K_then ?_
  refine C_seq ?_
  refine C_region (l := [0, 1, 2, 3, 4, 5, 6, 7, 8]) rfl ?_
  refine X_move rfl rfl rfl rfl ?_
  refine X_move rfl rfl rfl rfl ?_
  refine X_fs rfl rfl F.ok12 rfl (At_nil _ i) rfl ?_
  rintro _ rfl
  refine X_move rfl rfl rfl rfl ?_
  refine X_extract rfl rfl rfl rfl rfl ?_
  refine X_extract rfl rfl rfl rfl rfl ?_
  refine X_alloc rfl rfl F.zero28 (by constructor) rfl ?_; intro b2
  refine X_store rfl rfl rfl rfl (by constructor) (by first | exact Mail.flat _ | (simp [flat, cat, Segs.cells, Seg.cells, Value.oneCell']; done)) (by repeat first | exact Upd.head | apply Upd.tail | apply Upd.over) F.lay28 rfl rfl ?_
  refine X_assign rfl rfl rfl rfl ?_
  refine XD_end ?_
  refine K_then ?_
  refine C_pick (.cons (k := 7) rfl (.cons (k := 5) rfl (.cons (k := 4) rfl (.cons (k := 2) rfl (.cons (k := 1) rfl .nil))))) ?_
  refine C_seq ?_
  refine C_region (l := [0, 1, 2, 3, 4, 5, 6, 7, 8]) rfl ?_
  refine X_move rfl rfl rfl rfl ?_
  refine X_move rfl rfl rfl rfl ?_
  refine X_fs rfl rfl F.ok9 rfl (Take_nil _ i) rfl ?_
  rintro _ rfl
  refine X_move rfl rfl rfl rfl ?_
  refine X_extract rfl rfl rfl rfl rfl ?_
  refine X_extract rfl rfl rfl rfl rfl ?_
  refine X_alloc rfl rfl F.zero28 (by constructor) rfl ?_; intro b3
  refine X_store rfl rfl rfl rfl (by constructor) (by first | exact Mail.flat _ | (simp [flat, cat, Segs.cells, Seg.cells, Value.oneCell']; done)) (by repeat first | exact Upd.head | apply Upd.tail | apply Upd.over) F.lay28 rfl rfl ?_
  refine X_assign rfl rfl rfl rfl ?_
  refine XD_end ?_
  refine K_then ?_
  refine C_pick (.cons (k := 9) rfl (.cons (k := 7) rfl (.cons (k := 5) rfl (.cons (k := 4) rfl (.cons (k := 2) rfl (.cons (k := 1) rfl .nil)))))) ?_
  refine C_seq ?_
  refine C_region (l := [0, 1, 2, 3, 4, 5, 6, 7, 8, 9, 10, 11, 12, 13, 14, 15, 16, 17, 18, 19, 20, 21, 22, 23, 24, 25, 26, 27, 28, 29, 30, 31, 32, 33, 34, 35, 36, 37, 38, 39, 40, 41]) rfl ?_
  refine X_fs rfl rfl F.ok10 rfl (packed_ok _) rfl ?_
  rintro _ rfl
  refine X_move rfl rfl rfl rfl ?_
  refine XD_part 23 rfl (fun hc4 => ?_) (fun hc4 => ?_)
  · first | replace hc4 := dT hc4 | replace hc4 := dF hc4 | replace hc4 := nT hc4 | replace hc4 := nF hc4 | skip
    first
    | (exfalso; omega)
    | (exfalso; simp [eqX] at hc4; done)
    | skip
      refine X_move rfl rfl rfl rfl ?_
      first | refine X_load rfl rfl rfl (by repeat first | exact List.Mem.head _ | refine List.Mem.tail _ ?_ | refine List.mem_append_right _ ?_) F.lay28 rfl rfl rfl ?_ | refine X_load_el rfl rfl rfl (by first | assumption | exact SlM.mono (by assumption) (by assumption)) (by first | exact row_map (by omega) | exact List.getElem?_eq_getElem (by omega)) F.lay28 rfl rfl rfl ?_ | refine X_load_rd rfl rfl rfl (by assumption) (by first | exact row_map (by omega) | exact List.getElem?_eq_getElem (by omega)) F.lay28 rfl rfl rfl ?_ | refine X_load_mem rfl rfl rfl (by first | assumption | exact Mem.get_of (by assumption) (by repeat first | assumption | refine Mem.le.trans (by assumption) ?_)) F.lay28 rfl rfl rfl ?_ | refine X_load_osl rfl rfl rfl (by assumption) (by repeat first | exact Rem.here _ | apply Rem.skip | apply Rem.over) (by first | exact row_map (by omega) | exact List.getElem?_eq_getElem (by omega)) F.lay28 rfl rfl rfl ?_
      refine X_fs rfl rfl F.ok8 rfl (Put_nil _ m) rfl ?_
      rintro _ rfl
      refine X_cmp rfl rfl rfl rfl rfl rfl ?_
      refine X_pick rfl rfl rfl rfl rfl ?_
      refine X_move rfl rfl rfl rfl ?_
      refine XD_part 29 rfl (fun hc5 => ?_) (fun hc5 => ?_)
      · first | replace hc5 := dT hc5 | replace hc5 := dF hc5 | replace hc5 := nT hc5 | replace hc5 := nF hc5 | skip
        first
        | (exfalso; omega)
        | (exfalso; simp [eqX] at hc5; done)
        | skip
          refine X_move rfl rfl rfl rfl ?_
          refine X_cmp rfl rfl rfl rfl rfl rfl ?_
          refine X_pick rfl rfl rfl rfl rfl ?_
          refine X_move rfl rfl rfl rfl ?_
          refine XD_part 33 rfl (fun hc6 => ?_) (fun hc6 => ?_)
          · first | replace hc6 := dT hc6 | replace hc6 := dF hc6 | replace hc6 := nT hc6 | replace hc6 := nF hc6 | skip
            first
            | (exfalso; omega)
            | (exfalso; simp [eqX] at hc6; done)
            | skip
              refine X_move rfl rfl rfl rfl ?_
              refine X_move rfl rfl rfl rfl ?_
              refine X_cmp rfl rfl rfl rfl rfl rfl ?_
              refine X_pick rfl rfl rfl rfl rfl ?_
              refine X_move rfl rfl rfl rfl ?_
              refine XD_part 38 rfl (fun hc7 => ?_) (fun hc7 => ?_)
              · first | replace hc7 := dT hc7 | replace hc7 := dF hc7 | replace hc7 := nT hc7 | replace hc7 := nF hc7 | skip
                first
                | (exfalso; omega)
                | (exfalso; simp [eqX] at hc7; done)
                | skip
                  refine X_move rfl rfl rfl rfl ?_
                  refine X_move rfl rfl rfl rfl ?_
                  refine X_fs rfl rfl F.ok16 rfl (Twice_nil _ i) rfl ?_
                  rintro _ rfl
                  refine X_move rfl rfl rfl rfl ?_
                  refine X_cmp rfl rfl rfl rfl rfl rfl ?_
                  refine X_pick rfl rfl rfl rfl rfl ?_
                  refine X_move rfl rfl rfl rfl ?_
                  refine XD_part 45 rfl (fun hc8 => ?_) (fun hc8 => ?_)
                  · first | replace hc8 := dT hc8 | replace hc8 := dF hc8 | replace hc8 := nT hc8 | replace hc8 := nF hc8 | skip
                    first
                    | (exfalso; omega)
                    | (exfalso; simp [eqX] at hc8; done)
                    | skip
                      refine X_move rfl rfl rfl rfl ?_
                      refine X_move rfl rfl rfl rfl ?_
                      refine X_fs rfl rfl F.ok17 rfl (To_nil _ i) rfl ?_
                      rintro _ rfl
                      refine X_len_sl rfl rfl rfl rfl F.elem47 rfl ?_
                      refine X_cmp rfl rfl rfl rfl rfl rfl ?_
                      refine X_pick rfl rfl rfl rfl rfl ?_
                      refine X_move rfl rfl rfl rfl ?_
                      refine XD_part 52 rfl (fun hc9 => ?_) (fun hc9 => ?_)
                      · first | replace hc9 := dT hc9 | replace hc9 := dF hc9 | replace hc9 := nT hc9 | replace hc9 := nF hc9 | skip
                        first
                        | (exfalso; omega)
                        | (exfalso; simp [eqX] at hc9; done)
                        | skip
                          refine X_move rfl rfl rfl rfl ?_
                          refine X_move rfl rfl rfl rfl ?_
                          refine X_fn rfl rfl F.ok18 rfl (Lose_nil _ i) rfl ?_
                          rintro _ M2 hm2 rfl
                          refine X_cmp rfl rfl rfl rfl rfl rfl ?_
                          refine X_pick rfl rfl rfl rfl rfl ?_
                          refine X_move rfl rfl rfl rfl ?_
                          refine XD_part 58 rfl (fun hc10 => ?_) (fun hc10 => ?_)
                          · first | replace hc10 := dT hc10 | replace hc10 := dF hc10 | replace hc10 := nT hc10 | replace hc10 := nF hc10 | skip
                            first
                            | (exfalso; omega)
                            | (exfalso; simp [eqX] at hc10; done)
                            | skip
                              refine X_move rfl rfl rfl rfl ?_
                              refine X_fs rfl rfl F.ok11 rfl (Size_nil _) rfl ?_
                              rintro _ rfl
                              refine X_cmp rfl rfl rfl rfl rfl rfl ?_
                              refine X_pick rfl rfl rfl rfl rfl ?_
                              refine X_assign rfl rfl rfl rfl ?_
                              refine XD_end ?_
                              refine K_then ?_
                              refine C_pick (.cons (k := 4) rfl .nil) ?_
                              refine C_ret ?_
                              refine K_end (.inr rfl) (.tmp rfl .nil) (fun w hw => ?_)
                              refine ⟨_, _, rfl, ?_, hw.cnt (by intro zz; first | exact Nat.le_refl _ | (simp only [cnt_app, cnt_cons, cnt_nil, cat, List.append_assoc, List.cons_append, List.nil_append]; omega)), ?_⟩
                              · exact (by first | exact Mem.le.refl _ | (repeat first | assumption | refine Mem.le.trans (by assumption) ?_))
                              · first | rfl | (simp [resV]; omega)
                          · first | replace hc10 := dT hc10 | replace hc10 := dF hc10 | replace hc10 := nT hc10 | replace hc10 := nF hc10 | skip
                            first | (exfalso; omega) | (exfalso; simp [eqX] at hc10; done)
                      · first | replace hc9 := dT hc9 | replace hc9 := dF hc9 | replace hc9 := nT hc9 | replace hc9 := nF hc9 | skip
                        first | (exfalso; omega) | (exfalso; simp [eqX] at hc9; done)
                  · first | replace hc8 := dT hc8 | replace hc8 := dF hc8 | replace hc8 := nT hc8 | replace hc8 := nF hc8 | skip
                    first | (exfalso; omega) | (exfalso; simp [eqX] at hc8; done)
              · first | replace hc7 := dT hc7 | replace hc7 := dF hc7 | replace hc7 := nT hc7 | replace hc7 := nF hc7 | skip
                first | (exfalso; omega) | (exfalso; simp [eqX] at hc7; done)
          · first | replace hc6 := dT hc6 | replace hc6 := dF hc6 | replace hc6 := nT hc6 | replace hc6 := nF hc6 | skip
            first | (exfalso; omega) | (exfalso; simp [eqX] at hc6; done)
      · first | replace hc5 := dT hc5 | replace hc5 := dF hc5 | replace hc5 := nT hc5 | replace hc5 := nF hc5 | skip
        first | (exfalso; omega) | (exfalso; simp [eqX] at hc5; done)
  · first | replace hc4 := dT hc4 | replace hc4 := dF hc4 | replace hc4 := nT hc4 | replace hc4 := nF hc4 | skip
    first | (exfalso; omega) | (exfalso; simp [eqX] at hc4; done)

end Go.Proofs.Ytenamdnnmdilgaa
