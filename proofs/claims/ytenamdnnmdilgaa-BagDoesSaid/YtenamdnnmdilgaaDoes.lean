/-
  BagDoes, the walk.
-/
import Derived.Test.YtenamdnnmdilgaaStep
set_option linter.unusedSimpArgs false
set_option linter.unusedVariables false
set_option linter.unnecessarySimpa false
namespace Go.Proofs.Ytenamdnnmdilgaa
open Go.Esp
theorem F.lay42 : lay Try.prog 42 = some (true, 5) := by kernel_rfl
theorem F.ok10 : okFn Try.prog 10 = true := by kernel_rfl
theorem F.ok13 : okFn Try.prog 13 = true := by kernel_rfl
theorem F.ok14 : okFn Try.prog 14 = true := by kernel_rfl
theorem F.ok15 : okFn Try.prog 15 = true := by kernel_rfl

theorem BagDoes_no (M : Mem) (most : Int) (ad : Option Addr) (c : Nat) (l : List BStep) (hl : SlM M ad (l.map BStep.segs) 5) (h : most < 1 ∨ 1000 < most) : Esp.Fn Try.prog 4 [.int .i64 most, .slice ad l.length c] M (fun _ v => v = .bool true) := by
  refine fn_enter Try.func4 rfl Try.ntmps4 rfl ?_; intro H
  have hlm : (l.map BStep.segs).length = l.length := by simp
  refine C_seq ?_
  refine C_region (l := [0]) rfl ?_
  refine X_assign rfl rfl rfl rfl ?_
  refine XD_end ?_
  refine K_then ?_
  refine C_seq ?_
  refine C_seq ?_
  refine C_region (l := [0, 1, 2]) rfl ?_
  refine X_move rfl rfl rfl rfl ?_
  refine X_fs rfl rfl F.ok13 rfl (few_ok M ad c l hl) rfl ?_
  rintro _ ⟨fb, rfl, hfb⟩
  refine X_not rfl rfl rfl rfl ?_
  refine XD_end ?_
  refine K_then ?_
  refine C_pick (.cons (k := 12) rfl (.cons (k := 4) rfl (.cons (k := 0) rfl (.cons (k := 1) rfl .nil)))) ?_
  refine C_cond rfl (fun hc1 => ?_) (fun hc1 => ?_)
  · first | replace hc1 := dT hc1 | replace hc1 := dF hc1 | replace hc1 := nT hc1 | replace hc1 := nF hc1 | skip
    first
    | (exfalso; omega)
    | (exfalso; simp [eqX] at hc1; done)
    | skip
      refine C_seq ?_
      refine C_region (l := [0]) rfl ?_
      refine X_assign rfl rfl rfl rfl ?_
      refine XD_end ?_
      refine K_then ?_
      refine C_pick (.cons (k := 4) rfl (.cons (k := 0) rfl (.cons (k := 1) rfl .nil))) ?_
      refine C_ret ?_
      refine K_ret ?_
      refine K_end (.inr rfl) (.tmp rfl .nil) (fun w hw => ?_)
      refine ⟨_, _, rfl, ?_, hw.cnt (by intro zz; first | exact Nat.le_refl _ | (simp only [cnt_app, cnt_cons, cnt_nil, cat, List.append_eq, List.append_assoc, List.cons_append, List.nil_append, List.append_nil]; omega)), ?_⟩
      · exact (by first | exact Mem.le.refl _ | (repeat first | assumption | refine Mem.le.trans (by assumption) ?_))
      · first | rfl | exact congrArg Value.bool (decide_eq_true (by omega))
  · first | replace hc1 := dT hc1 | replace hc1 := dF hc1 | replace hc1 := nT hc1 | replace hc1 := nF hc1 | skip
    first
    | (exfalso; omega)
    | (exfalso; simp [eqX] at hc1; done)
    | skip
      refine C_skip ?_
      refine K_then ?_
      refine C_pick (.cons (k := 4) rfl (.cons (k := 0) rfl (.cons (k := 1) rfl .nil))) ?_
      refine C_seq ?_
      refine C_region (l := [0, 1, 2, 3, 4, 5, 6]) rfl ?_
      refine X_move rfl rfl rfl rfl ?_
      refine X_fs rfl rfl F.ok7 rfl (New_no M most h) rfl ?_
      rintro _ rfl
      refine X_move rfl rfl rfl rfl ?_
      refine X_extract rfl rfl rfl rfl rfl ?_
      refine X_extract rfl rfl rfl rfl rfl ?_
      refine X_assign rfl rfl rfl rfl ?_
      refine X_assign rfl rfl rfl rfl ?_
      refine XD_end ?_
      refine K_then ?_
      refine C_pick (.cons (k := 6) rfl (.cons (k := 5) rfl (.cons (k := 4) rfl (.cons (k := 0) rfl (.cons (k := 1) rfl .nil))))) ?_
      refine C_seq ?_
      refine C_region (l := [0, 1, 2, 3, 4, 5, 6]) rfl ?_
      refine X_move rfl rfl rfl rfl ?_
      refine X_fs rfl rfl F.ok14 rfl (RNew_no M most h) rfl ?_
      rintro _ rfl
      refine X_move rfl rfl rfl rfl ?_
      refine X_extract rfl rfl rfl rfl rfl ?_
      refine X_extract rfl rfl rfl rfl rfl ?_
      refine X_assign rfl rfl rfl rfl ?_
      refine X_assign rfl rfl rfl rfl ?_
      refine XD_end ?_
      refine K_then ?_
      refine C_pick (.cons (k := 8) rfl (.cons (k := 7) rfl (.cons (k := 6) rfl (.cons (k := 5) rfl (.cons (k := 4) rfl (.cons (k := 1) rfl .nil)))))) ?_
      refine C_seq ?_
      refine C_seq ?_
      refine C_region (l := [0, 1, 2, 3, 4, 5, 6, 7, 8, 9]) rfl ?_
      refine X_move rfl rfl rfl rfl ?_
      refine X_move rfl rfl rfl rfl ?_
      refine X_cmp rfl rfl rfl rfl rfl rfl ?_
      refine X_move rfl rfl rfl rfl ?_
      refine XD_part 26 rfl (fun hc2 => ?_) (fun hc2 => ?_)
      · first | replace hc2 := dT hc2 | replace hc2 := dF hc2 | replace hc2 := nT hc2 | replace hc2 := nF hc2 | skip
        first | (exfalso; omega) | (exfalso; simp [eqX] at hc2; done)
      · first | replace hc2 := dT hc2 | replace hc2 := dF hc2 | replace hc2 := nT hc2 | replace hc2 := nF hc2 | skip
        first
        | (exfalso; omega)
        | (exfalso; simp [eqX] at hc2; done)
        | skip
          refine X_move rfl rfl rfl rfl ?_
          refine X_nil rfl rfl rfl rfl Try.underlying23 rfl rfl ?_
          refine X_move rfl rfl rfl rfl ?_
          refine X_nil rfl rfl rfl rfl Try.underlying37 rfl rfl ?_
          refine X_eqb rfl rfl rfl rfl rfl Try.underlying4 rfl ?_
          refine X_pick rfl rfl rfl rfl rfl ?_
          refine XD_end ?_
          refine K_then ?_
          refine C_pick (.cons (k := 32) rfl (.cons (k := 7) rfl (.cons (k := 5) rfl (.cons (k := 4) rfl (.cons (k := 1) rfl .nil))))) ?_
          refine C_cond rfl (fun hc3 => ?_) (fun hc3 => ?_)
          · first | replace hc3 := dT hc3 | replace hc3 := dF hc3 | replace hc3 := nT hc3 | replace hc3 := nF hc3 | skip
            first | (exfalso; omega) | (exfalso; simp [eqX] at hc3; done)
          · first | replace hc3 := dT hc3 | replace hc3 := dF hc3 | replace hc3 := nT hc3 | replace hc3 := nF hc3 | skip
            first
            | (exfalso; omega)
            | (exfalso; simp [eqX] at hc3; done)
            | skip
              refine C_skip ?_
              refine K_then ?_
              refine C_pick (.cons (k := 7) rfl (.cons (k := 5) rfl (.cons (k := 4) rfl (.cons (k := 1) rfl .nil)))) ?_
              refine C_seq ?_
              refine C_seq ?_
              refine C_region (l := [0]) rfl ?_
              refine X_assign rfl rfl rfl rfl ?_
              refine XD_end ?_
              refine K_then ?_
              refine C_block ?_
              refine C_pick (.cons (k := 9) rfl (.cons (k := 7) rfl (.cons (k := 5) rfl (.cons (k := 4) rfl (.cons (k := 1) rfl .nil))))) ?_
              refine C_loop (.succ .zero) (fun (k : Nat) S z => S = St M H ∧ z = [(9, .int .i64 (k : Int))]) (fun k => 0) (0) (⟨rfl, rfl⟩) ?_
              rintro k _ _ ⟨rfl, rfl⟩
              refine C_seq ?_
              refine C_seq ?_
              refine C_region (l := [0, 1, 2, 3, 4, 5, 6, 7]) rfl ?_
              refine X_move rfl rfl rfl rfl ?_
              refine X_move rfl rfl rfl rfl ?_
              refine X_len_sl rfl rfl rfl rfl F.elem35 rfl ?_
              refine X_cmp rfl rfl rfl rfl rfl rfl ?_
              refine X_move rfl rfl rfl rfl ?_
              refine XD_part 37 rfl (fun hc4 => ?_) (fun hc4 => ?_)
              · first | replace hc4 := dT hc4 | replace hc4 := dF hc4 | replace hc4 := nT hc4 | replace hc4 := nF hc4 | skip
                first
                | (exfalso; omega)
                | (exfalso; simp [eqX] at hc4; done)
                | skip
                  refine X_move rfl rfl rfl rfl ?_
                  refine X_nil rfl rfl rfl rfl Try.underlying23 rfl rfl ?_
                  refine X_pick rfl rfl rfl rfl rfl ?_
                  refine XD_end ?_
                  refine K_then ?_
                  refine C_cond rfl (fun hc5 => ?_) (fun hc5 => ?_)
                  · first | replace hc5 := dT hc5 | replace hc5 := dF hc5 | replace hc5 := nT hc5 | replace hc5 := nF hc5 | skip
                    first | (exfalso; omega) | (exfalso; simp [eqX] at hc5; done)
                  · first | replace hc5 := dT hc5 | replace hc5 := dF hc5 | replace hc5 := nT hc5 | replace hc5 := nF hc5 | skip
                    first
                    | (exfalso; omega)
                    | (exfalso; simp [eqX] at hc5; done)
                    | skip
                      refine C_exit ?_
                      refine K_exit ?_
                      refine K_exit ?_
                      refine K_hit ?_
                      refine K_then ?_
                      refine C_pick (.cons (k := 4) rfl .nil) ?_
                      refine C_seq ?_
                      refine C_region (l := [0, 1]) rfl ?_
                      refine X_fs rfl rfl F.ok10 rfl (packed_ok _) rfl ?_
                      rintro _ rfl
                      refine X_assign rfl rfl rfl rfl ?_
                      refine XD_end ?_
                      refine K_then ?_
                      refine C_pick (.cons (k := 4) rfl .nil) ?_
                      refine C_ret ?_
                      refine K_end (.inr rfl) (.tmp rfl .nil) (fun w hw => ?_)
                      refine ⟨_, _, rfl, ?_, hw.cnt (by intro zz; first | exact Nat.le_refl _ | (simp only [cnt_app, cnt_cons, cnt_nil, cat, List.append_eq, List.append_assoc, List.cons_append, List.nil_append, List.append_nil]; omega)), ?_⟩
                      · exact (by first | exact Mem.le.refl _ | (repeat first | assumption | refine Mem.le.trans (by assumption) ?_))
                      · first | rfl | exact congrArg Value.bool (decide_eq_true (by omega))
              · first | replace hc4 := dT hc4 | replace hc4 := dF hc4 | replace hc4 := nT hc4 | replace hc4 := nF hc4 | skip
                first
                | (exfalso; omega)
                | (exfalso; simp [eqX] at hc4; done)
                | skip
                  refine X_skip rfl rfl rfl ?_
                  refine X_skip rfl rfl rfl ?_
                  refine X_pick rfl rfl rfl rfl rfl ?_
                  refine XD_end ?_
                  refine K_then ?_
                  refine C_false rfl ?_
                  refine C_exit ?_
                  refine K_exit ?_
                  refine K_exit ?_
                  refine K_hit ?_
                  refine K_then ?_
                  refine C_pick (.cons (k := 4) rfl .nil) ?_
                  refine C_seq ?_
                  refine C_region (l := [0, 1]) rfl ?_
                  refine X_fs rfl rfl F.ok10 rfl (packed_ok _) rfl ?_
                  rintro _ rfl
                  refine X_assign rfl rfl rfl rfl ?_
                  refine XD_end ?_
                  refine K_then ?_
                  refine C_pick (.cons (k := 4) rfl .nil) ?_
                  refine C_ret ?_
                  refine K_end (.inr rfl) (.tmp rfl .nil) (fun w hw => ?_)
                  refine ⟨_, _, rfl, ?_, hw.cnt (by intro zz; first | exact Nat.le_refl _ | (simp only [cnt_app, cnt_cons, cnt_nil, cat, List.append_eq, List.append_assoc, List.cons_append, List.nil_append, List.append_nil]; omega)), ?_⟩
                  · exact (by first | exact Mem.le.refl _ | (repeat first | assumption | refine Mem.le.trans (by assumption) ?_))
                  · first | rfl | exact congrArg Value.bool (decide_eq_true (by omega))

theorem BagDoes_ok (M : Mem) (most : Int) (ad : Option Addr) (c : Nat) (l : List BStep) (hl : SlM M ad (l.map BStep.segs) 5) (h : 1 ≤ most ∧ most ≤ 1000) : Esp.Fn Try.prog 4 [.int .i64 most, .slice ad l.length c] M (fun _ v => v = .bool true) := by
  refine fn_enter Try.func4 rfl Try.ntmps4 rfl ?_; intro H
  have hlm : (l.map BStep.segs).length = l.length := by simp
  refine C_seq ?_
  refine C_region (l := [0]) rfl ?_
  refine X_assign rfl rfl rfl rfl ?_
  refine XD_end ?_
  refine K_then ?_
  refine C_seq ?_
  refine C_seq ?_
  refine C_region (l := [0, 1, 2]) rfl ?_
  refine X_move rfl rfl rfl rfl ?_
  refine X_fs rfl rfl F.ok13 rfl (few_ok M ad c l hl) rfl ?_
  rintro _ ⟨fb, rfl, hfb⟩
  refine X_not rfl rfl rfl rfl ?_
  refine XD_end ?_
  refine K_then ?_
  refine C_pick (.cons (k := 12) rfl (.cons (k := 4) rfl (.cons (k := 0) rfl (.cons (k := 1) rfl .nil)))) ?_
  refine C_cond rfl (fun hc1 => ?_) (fun hc1 => ?_)
  · first | replace hc1 := dT hc1 | replace hc1 := dF hc1 | replace hc1 := nT hc1 | replace hc1 := nF hc1 | skip
    first
    | (exfalso; omega)
    | (exfalso; simp [eqX] at hc1; done)
    | skip
      refine C_seq ?_
      refine C_region (l := [0]) rfl ?_
      refine X_assign rfl rfl rfl rfl ?_
      refine XD_end ?_
      refine K_then ?_
      refine C_pick (.cons (k := 4) rfl (.cons (k := 0) rfl (.cons (k := 1) rfl .nil))) ?_
      refine C_ret ?_
      refine K_ret ?_
      refine K_end (.inr rfl) (.tmp rfl .nil) (fun w hw => ?_)
      refine ⟨_, _, rfl, ?_, hw.cnt (by intro zz; first | exact Nat.le_refl _ | (simp only [cnt_app, cnt_cons, cnt_nil, cat, List.append_eq, List.append_assoc, List.cons_append, List.nil_append, List.append_nil]; omega)), ?_⟩
      · exact (by first | exact Mem.le.refl _ | (repeat first | assumption | refine Mem.le.trans (by assumption) ?_))
      · first | rfl | exact congrArg Value.bool (decide_eq_true (by omega))
  · first | replace hc1 := dT hc1 | replace hc1 := dF hc1 | replace hc1 := nT hc1 | replace hc1 := nF hc1 | skip
    first
    | (exfalso; omega)
    | (exfalso; simp [eqX] at hc1; done)
    | skip
      refine C_skip ?_
      refine K_then ?_
      refine C_pick (.cons (k := 4) rfl (.cons (k := 0) rfl (.cons (k := 1) rfl .nil))) ?_
      refine C_seq ?_
      refine C_region (l := [0, 1, 2, 3, 4, 5, 6]) rfl ?_
      have h100 : l.length ≤ 100 := hfb (by cases fb <;> simp_all)
      refine X_move rfl rfl rfl rfl ?_
      refine X_fhR rfl rfl F.ok7 rfl (New_ok M most h) (by repeat first | exact Rem.here _ | exact Rem.two | apply Rem.skip | apply Rem.over) (fun _ _ _ hm hw => (hw.lower (by first | exact hm | exact Mem.le.trans (by assumption) hm)).cnt (by intro zz; first | exact Nat.le_refl _ | (simp only [cnt_app, cnt_cons, cnt_nil, cat, List.append_eq, List.append_assoc, List.cons_append, List.nil_append, List.append_nil]; omega))) (putE_some rfl) ?_
      rintro _ M1 Hb _ ⟨hM1, b, rfl, hb⟩; subst M1
      refine X_move rfl rfl rfl rfl ?_
      refine X_extract rfl rfl rfl rfl rfl ?_
      refine X_extract rfl rfl rfl rfl rfl ?_
      refine X_assign rfl rfl rfl rfl ?_
      refine X_assign rfl rfl rfl rfl ?_
      refine XD_end ?_
      refine K_then ?_
      refine C_pick (.cons (k := 6) rfl (.cons (k := 5) rfl (.cons (k := 4) rfl (.cons (k := 0) rfl (.cons (k := 1) rfl .nil))))) ?_
      refine C_seq ?_
      refine C_region (l := [0, 1, 2, 3, 4, 5, 6]) rfl ?_
      refine X_move rfl rfl rfl rfl ?_
      refine X_fhR rfl rfl F.ok14 rfl (RNew_ok M most h) (by repeat first | exact Rem.here _ | exact Rem.two | apply Rem.skip | apply Rem.over) (fun _ _ _ hm hw => (hw.lower (by first | exact hm | exact Mem.le.trans (by assumption) hm)).cnt (by intro zz; first | exact Nat.le_refl _ | (simp only [cnt_app, cnt_cons, cnt_nil, cat, List.append_eq, List.append_assoc, List.cons_append, List.nil_append, List.append_nil]; omega))) (putE_some rfl) ?_
      rintro _ M1 Hr _ ⟨hM1, cc, rfl, hr⟩; subst M1
      refine X_move rfl rfl rfl rfl ?_
      refine X_extract rfl rfl rfl rfl rfl ?_
      refine X_extract rfl rfl rfl rfl rfl ?_
      refine X_assign rfl rfl rfl rfl ?_
      refine X_assign rfl rfl rfl rfl ?_
      refine XD_end ?_
      refine K_then ?_
      refine C_pick (.cons (k := 8) rfl (.cons (k := 7) rfl (.cons (k := 6) rfl (.cons (k := 5) rfl (.cons (k := 4) rfl (.cons (k := 1) rfl .nil)))))) ?_
      refine C_seq ?_
      refine C_seq ?_
      refine C_region (l := [0, 1, 2, 3, 4, 5, 6, 7, 8, 9]) rfl ?_
      refine X_move rfl rfl rfl rfl ?_
      refine X_move rfl rfl rfl rfl ?_
      refine X_cmp rfl rfl rfl rfl rfl rfl ?_
      refine X_move rfl rfl rfl rfl ?_
      refine XD_part 26 rfl (fun hc2 => ?_) (fun hc2 => ?_)
      · first | replace hc2 := dT hc2 | replace hc2 := dF hc2 | replace hc2 := nT hc2 | replace hc2 := nF hc2 | skip
        first | (exfalso; omega) | (exfalso; simp [eqX] at hc2; done)
      · first | replace hc2 := dT hc2 | replace hc2 := dF hc2 | replace hc2 := nT hc2 | replace hc2 := nF hc2 | skip
        first
        | (exfalso; omega)
        | (exfalso; simp [eqX] at hc2; done)
        | skip
          refine X_move rfl rfl rfl rfl ?_
          refine X_nil rfl rfl rfl rfl Try.underlying23 rfl rfl ?_
          refine X_move rfl rfl rfl rfl ?_
          refine X_nil rfl rfl rfl rfl Try.underlying37 rfl rfl ?_
          refine X_eqb rfl rfl rfl rfl rfl Try.underlying4 rfl ?_
          refine X_pick rfl rfl rfl rfl rfl ?_
          refine XD_end ?_
          refine K_then ?_
          refine C_pick (.cons (k := 32) rfl (.cons (k := 7) rfl (.cons (k := 5) rfl (.cons (k := 4) rfl (.cons (k := 1) rfl .nil))))) ?_
          refine C_cond rfl (fun hc3 => ?_) (fun hc3 => ?_)
          · first | replace hc3 := dT hc3 | replace hc3 := dF hc3 | replace hc3 := nT hc3 | replace hc3 := nF hc3 | skip
            first | (exfalso; omega) | (exfalso; simp [eqX] at hc3; done)
          · first | replace hc3 := dT hc3 | replace hc3 := dF hc3 | replace hc3 := nT hc3 | replace hc3 := nF hc3 | skip
            first
            | (exfalso; omega)
            | (exfalso; simp [eqX] at hc3; done)
            | skip
              refine C_skip ?_
              refine K_then ?_
              refine C_pick (.cons (k := 7) rfl (.cons (k := 5) rfl (.cons (k := 4) rfl (.cons (k := 1) rfl .nil)))) ?_
              refine C_seq ?_
              refine C_seq ?_
              refine C_region (l := [0]) rfl ?_
              refine X_assign rfl rfl rfl rfl ?_
              refine XD_end ?_
              refine K_then ?_
              refine C_block ?_
              refine C_pick (.cons (k := 9) rfl (.cons (k := 7) rfl (.cons (k := 5) rfl (.cons (k := 4) rfl (.cons (k := 1) rfl .nil))))) ?_
              refine C_loop (.succ .zero) (fun (k : Nat) S z => ∃ M1 Hb Hr l1, (∀ w, S w → St M1 (Hb ++ (Hr ++ H)) w) ∧ M.le M1 ∧ z = [(9, .int .i64 (k : Int))] ∧ k ≤ l.length ∧ BagIs b most (k : Int) l1 Hb ∧ RefIs cc most l1 Hr) (fun k => l.length - k) (0) (⟨M, Hb, Hr, [], fun w hw => hw.cnt (by intro zz; first | exact Nat.le_refl _ | (simp only [cnt_app, cnt_cons, cnt_nil, cat, List.append_eq, List.append_assoc, List.cons_append, List.nil_append, List.append_nil]; omega)), Mem.le.refl M, rfl, by omega, hb, hr⟩) ?_
              rintro k _ _ ⟨M1, Hb1, Hr1, l1, hS, hm1, rfl, hk, hb1, hr1⟩
              refine C_weak (fun _ h => h) hS ?_
              have hle := hb1.le
              refine C_seq ?_
              refine C_seq ?_
              refine C_region (l := [0, 1, 2, 3, 4, 5, 6, 7]) rfl ?_
              refine X_move rfl rfl rfl rfl ?_
              refine X_move rfl rfl rfl rfl ?_
              refine X_len_sl rfl rfl rfl rfl F.elem35 rfl ?_
              refine X_cmp rfl rfl rfl rfl rfl rfl ?_
              refine X_move rfl rfl rfl rfl ?_
              refine XD_part 37 rfl (fun hc4 => ?_) (fun hc4 => ?_)
              · first | replace hc4 := dT hc4 | replace hc4 := dF hc4 | replace hc4 := nT hc4 | replace hc4 := nF hc4 | skip
                first
                | (exfalso; omega)
                | (exfalso; simp [eqX] at hc4; done)
                | skip
                  refine X_move rfl rfl rfl rfl ?_
                  refine X_nil rfl rfl rfl rfl Try.underlying23 rfl rfl ?_
                  refine X_pick rfl rfl rfl rfl rfl ?_
                  refine XD_end ?_
                  refine K_then ?_
                  refine C_cond rfl (fun hc5 => ?_) (fun hc5 => ?_)
                  · first | replace hc5 := dT hc5 | replace hc5 := dF hc5 | replace hc5 := nT hc5 | replace hc5 := nF hc5 | skip
                    first
                    | (exfalso; omega)
                    | (exfalso; simp [eqX] at hc5; done)
                    | skip
                      refine C_skip ?_
                      refine K_then ?_
                      refine C_seq ?_
                      refine C_block ?_
                      refine C_seq ?_
                      refine C_region_anyW (l := [0, 1, 2, 3, 4, 5, 6, 7, 8, 9, 10, 11, 12, 13, 14, 15, 16, 17]) [6] #[0, 0, 0, 0, 12, 28, 63, 127, 255, 511, 1023, 511, 2559, 6655, 14847, 31231, 65535, 131071] _ rfl (by kernel_rfl) (by kernel_rfl) St.drawn (fun _ h => h) ?_
                      refine X_move rfl rfl rfl rfl ?_
                      refine X_move rfl rfl rfl rfl ?_
                      refine X_move rfl rfl rfl rfl ?_
                      refine X_move rfl rfl rfl rfl ?_
                      refine X_indexAddr rfl rfl rfl rfl F.elem35 (by first | rfl | exact (Int.toNat_of_nonneg (by omega)).symm) (by first | omega | (simp; omega)) (by first | exact ⟨_, _, rfl⟩ | assumption | exact SlM.plain (by assumption) (by simp; omega) | exact RdS.plain (by assumption) (by simp; omega) | exact OSl.plain (by assumption) (by simp; omega)) rfl ?_
                      first | refine X_load rfl rfl rfl (by repeat first | exact List.Mem.head _ | refine List.Mem.tail _ ?_ | refine List.mem_append_right _ ?_) F.lay42 rfl rfl rfl ?_ | refine X_load_el rfl rfl rfl (by first | assumption | exact SlM.mono (by assumption) (by assumption)) (by first | exact row_map (by omega) | exact List.getElem?_eq_getElem (by omega)) F.lay42 rfl rfl rfl ?_ | refine X_load_rd rfl rfl rfl (by assumption) (by first | exact row_map (by omega) | exact List.getElem?_eq_getElem (by omega)) F.lay42 rfl rfl rfl ?_ | refine X_load_mem rfl rfl rfl (by first | assumption | exact Mem.get_of (by assumption) (by repeat first | assumption | refine Mem.le.trans (by assumption) ?_)) F.lay42 rfl rfl rfl ?_ | refine X_load_osl rfl rfl rfl (by assumption) (by repeat first | exact Rem.here _ | exact Rem.two | apply Rem.skip | apply Rem.over) (by first | exact row_map (by omega) | exact List.getElem?_eq_getElem (by omega)) F.lay42 rfl rfl rfl ?_
                      refine X_fhW rfl rfl rfl F.ok15 rfl (step_ok M1 b cc most (k : Int) l1 Hb1 Hr1 l[k] (by omega) (by omega) hb1 hr1) (by repeat first | exact Rem.here _ | exact Rem.two | apply Rem.skip | apply Rem.over) (putE_some rfl) ?_
                      rintro _ M2 _ hm2 ⟨rfl, l2, Hb2, Hr2, rfl, hb2, hr2⟩
                      rw [List.append_assoc]
                      obtain ⟨rv2, hs2, rfl, ho2⟩ := hr2
                      obtain ⟨ad2, cp2, rfl⟩ := ho2.val
                      have hl2 : (l2.map Mail.segs).length = l2.length := by simp
                      refine X_not rfl rfl rfl rfl ?_
                      refine X_move rfl rfl rfl rfl ?_
                      refine XD_part 51 rfl (fun hc6 => ?_) (fun hc6 => ?_)
                      · first | replace hc6 := dT hc6 | replace hc6 := dF hc6 | replace hc6 := nT hc6 | replace hc6 := nF hc6 | skip
                        first | (exfalso; omega) | (exfalso; simp [eqX] at hc6; done)
                      · first | replace hc6 := dT hc6 | replace hc6 := dF hc6 | replace hc6 := nT hc6 | replace hc6 := nF hc6 | skip
                        first
                        | (exfalso; omega)
                        | (exfalso; simp [eqX] at hc6; done)
                        | skip
                          refine X_move rfl rfl rfl rfl ?_
                          refine X_fo rfl rfl F.ok11 rfl (Size_ok _ b most _ _ _ hb2) (by repeat first | exact Rem.here _ | exact Rem.two | apply Rem.skip | apply Rem.over) (putE_some rfl) ?_
                          rintro _ M3 _ ⟨hM3, rfl⟩; subst M3
                          refine X_move rfl rfl rfl rfl ?_
                          refine X_nilCheck rfl rfl rfl rfl ?_
                          first | refine X_fieldAddr rfl rfl rfl F.foff44_0 rfl ?_ | refine X_fieldAddr_el rfl rfl rfl (by first | exact ⟨_, _, rfl⟩ | assumption | exact SlM.plain (by assumption) (by simp; omega) | exact RdS.plain (by assumption) (by simp; omega) | exact OSl.plain (by assumption) (by simp; omega)) F.foff44_0 rfl ?_
                          first | refine X_load rfl rfl rfl (by repeat first | exact List.Mem.head _ | refine List.Mem.tail _ ?_ | refine List.mem_append_right _ ?_) F.lay22 rfl rfl rfl ?_ | refine X_load_el rfl rfl rfl (by first | assumption | exact SlM.mono (by assumption) (by assumption)) (by first | exact row_map (by omega) | exact List.getElem?_eq_getElem (by omega)) F.lay22 rfl rfl rfl ?_ | refine X_load_rd rfl rfl rfl (by assumption) (by first | exact row_map (by omega) | exact List.getElem?_eq_getElem (by omega)) F.lay22 rfl rfl rfl ?_ | refine X_load_mem rfl rfl rfl (by first | assumption | exact Mem.get_of (by assumption) (by repeat first | assumption | refine Mem.le.trans (by assumption) ?_)) F.lay22 rfl rfl rfl ?_ | refine X_load_osl rfl rfl rfl (by assumption) (by repeat first | exact Rem.here _ | exact Rem.two | apply Rem.skip | apply Rem.over) (by first | exact row_map (by omega) | exact List.getElem?_eq_getElem (by omega)) F.lay22 rfl rfl rfl ?_
                          refine X_len_sl rfl rfl rfl rfl F.elem22 rfl ?_
                          refine X_cmp rfl rfl rfl rfl rfl rfl ?_
                          refine X_pick rfl rfl rfl rfl rfl ?_
                          refine XD_end ?_
                          refine K_unw ?_
                          refine K_then ?_
                          refine C_cond rfl (fun hc7 => ?_) (fun hc7 => ?_)
                          · first | replace hc7 := dT hc7 | replace hc7 := dF hc7 | replace hc7 := nT hc7 | replace hc7 := nF hc7 | skip
                            first | (exfalso; omega) | (exfalso; simp [eqX] at hc7; done)
                          · first | replace hc7 := dT hc7 | replace hc7 := dF hc7 | replace hc7 := nT hc7 | replace hc7 := nF hc7 | skip
                            first
                            | (exfalso; omega)
                            | (exfalso; simp [eqX] at hc7; done)
                            | skip
                              refine C_skip ?_
                              refine K_out ?_
                              refine K_then ?_
                              refine C_region (l := [0, 1, 2]) rfl ?_
                              refine X_move rfl rfl rfl rfl ?_
                              refine X_ari rfl rfl rfl rfl rfl (by first | exact wrap_in (by decide) (by omega) | rfl) rfl ?_
                              refine X_assign rfl rfl rfl rfl ?_
                              refine XD_end ?_
                              refine K_round (a' := [(9, _)]) (k + 1) (.cons (k := 9) rfl (.cons (k := 7) rfl (.cons (k := 5) rfl (.cons (k := 4) rfl (.cons (k := 1) rfl (.nil)))))) ?_ ?_
                              · exact ⟨M2, Hb2, _, l2, fun w hw => hw.cnt (by intro zz; first | exact Nat.le_refl _ | (simp only [cnt_app, cnt_cons, cnt_nil, cat, List.append_eq, List.append_assoc, List.cons_append, List.nil_append, List.append_nil]; omega)), hm1.trans hm2, rfl, by omega, hb2, RefIs.intro ho2⟩
                              · omega
                  · first | replace hc5 := dT hc5 | replace hc5 := dF hc5 | replace hc5 := nT hc5 | replace hc5 := nF hc5 | skip
                    first
                    | (exfalso; omega)
                    | (exfalso; simp [eqX] at hc5; done)
                    | skip
                      refine C_exit ?_
                      refine K_exit ?_
                      refine K_exit ?_
                      refine K_hit ?_
                      refine K_then ?_
                      refine C_pick (.cons (k := 4) rfl .nil) ?_
                      refine C_seq ?_
                      refine C_region (l := [0, 1]) rfl ?_
                      refine X_fs rfl rfl F.ok10 rfl (packed_ok _) rfl ?_
                      rintro _ rfl
                      refine X_assign rfl rfl rfl rfl ?_
                      refine XD_end ?_
                      refine K_then ?_
                      refine C_pick (.cons (k := 4) rfl .nil) ?_
                      refine C_ret ?_
                      refine K_end (.inr rfl) (.tmp rfl .nil) (fun w hw => ?_)
                      refine ⟨_, _, rfl, ?_, hw.cnt (by intro zz; first | exact Nat.le_refl _ | (simp only [cnt_app, cnt_cons, cnt_nil, cat, List.append_eq, List.append_assoc, List.cons_append, List.nil_append, List.append_nil]; omega)), ?_⟩
                      · exact (by first | exact Mem.le.refl _ | (repeat first | assumption | refine Mem.le.trans (by assumption) ?_))
                      · first | rfl | exact congrArg Value.bool (decide_eq_true (by omega))
              · first | replace hc4 := dT hc4 | replace hc4 := dF hc4 | replace hc4 := nT hc4 | replace hc4 := nF hc4 | skip
                first
                | (exfalso; omega)
                | (exfalso; simp [eqX] at hc4; done)
                | skip
                  refine X_skip rfl rfl rfl ?_
                  refine X_skip rfl rfl rfl ?_
                  refine X_pick rfl rfl rfl rfl rfl ?_
                  refine XD_end ?_
                  refine K_then ?_
                  refine C_false rfl ?_
                  refine C_exit ?_
                  refine K_exit ?_
                  refine K_exit ?_
                  refine K_hit ?_
                  refine K_then ?_
                  refine C_pick (.cons (k := 4) rfl .nil) ?_
                  refine C_seq ?_
                  refine C_region (l := [0, 1]) rfl ?_
                  refine X_fs rfl rfl F.ok10 rfl (packed_ok _) rfl ?_
                  rintro _ rfl
                  refine X_assign rfl rfl rfl rfl ?_
                  refine XD_end ?_
                  refine K_then ?_
                  refine C_pick (.cons (k := 4) rfl .nil) ?_
                  refine C_ret ?_
                  refine K_end (.inr rfl) (.tmp rfl .nil) (fun w hw => ?_)
                  refine ⟨_, _, rfl, ?_, hw.cnt (by intro zz; first | exact Nat.le_refl _ | (simp only [cnt_app, cnt_cons, cnt_nil, cat, List.append_eq, List.append_assoc, List.cons_append, List.nil_append, List.append_nil]; omega)), ?_⟩
                  · exact (by first | exact Mem.le.refl _ | (repeat first | assumption | refine Mem.le.trans (by assumption) ?_))
                  · first | rfl | exact congrArg Value.bool (decide_eq_true (by omega))

theorem BagDoes_fn (M : Mem) (most : Int) (ad : Option Addr) (c : Nat) (l : List BStep) (hl : SlM M ad (l.map BStep.segs) 5) : Esp.Fn Try.prog 4 [.int .i64 most, .slice ad l.length c] M (fun _ v => v = .bool true) := by
  by_cases h : 1 ≤ most ∧ most ≤ 1000
  · exact BagDoes_ok M most ad c l hl h
  · exact BagDoes_no M most ad c l hl (by omega)

end Go.Proofs.Ytenamdnnmdilgaa
