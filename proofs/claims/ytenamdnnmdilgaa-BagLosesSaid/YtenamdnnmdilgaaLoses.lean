/-
  BagLoses, the walk.
-/
import Derived.Test.YtenamdnnmdilgaaBag5
import Derived.Test.YtenamdnnmdilgaaBag6
set_option linter.unusedSimpArgs false
set_option linter.unusedVariables false
set_option linter.unnecessarySimpa false
namespace Go.Proofs.Ytenamdnnmdilgaa
open Go.Esp
theorem F.elem22 : slOf Try.prog 22 = some (28, 3, 32) := by kernel_rfl
theorem F.foff28_1 : foff Try.prog 28 1 = some 1 := by kernel_rfl
theorem F.ok10 : okFn Try.prog 10 = true := by kernel_rfl
theorem F.ok16 : okFn Try.prog 16 = true := by kernel_rfl
theorem F.ok18 : okFn Try.prog 18 = true := by kernel_rfl

theorem BagLoses_fn (M : Mem) (ad : Option Addr) (c : Nat) (l : List Mail) (addr i : Int) (hl : SlM M ad (l.map Mail.segs) 3) : Esp.Fn Try.prog 5 [.slice ad l.length c, .int .i64 addr, .int .i64 i] M (fun _ v => v = .bool true) := by
  refine fn_enter Try.func5 rfl Try.ntmps5 rfl ?_; intro H
  have hlm : (l.map Mail.segs).length = l.length := by simp
  refine C_seq ?_
  refine C_region (l := [0]) rfl ?_
  refine X_assign rfl rfl rfl rfl ?_
  refine XD_end ?_
  refine K_then ?_
  refine C_seq ?_
  refine C_seq ?_
  refine C_region (l := [0, 1, 2]) rfl ?_
  refine X_move rfl rfl rfl rfl ?_
  refine X_len_sl rfl rfl rfl rfl F.elem22 rfl ?_
  refine X_cmp rfl rfl rfl rfl rfl rfl ?_
  refine XD_end ?_
  refine K_then ?_
  refine C_pick (.cons (k := 23) rfl (.cons (k := 6) rfl (.cons (k := 0) rfl (.cons (k := 1) rfl (.cons (k := 2) rfl .nil))))) ?_
  refine C_cond rfl (fun hc1 => ?_) (fun hc1 => ?_)
  · first | replace hc1 := dT hc1 | replace hc1 := dF hc1 | replace hc1 := nT hc1 | replace hc1 := nF hc1 | skip
    first
    | (exfalso; omega)
    | (exfalso; simp [eqX] at hc1; done)
    | skip
      refine C_seq ?_
      refine C_region (l := [0]) rfl ?_
      refine X_assign rfl rfl rfl rfl ?_
      refine XD_end ?_
      refine K_then ?_
      refine C_pick (.cons (k := 6) rfl (.cons (k := 0) rfl (.cons (k := 1) rfl (.cons (k := 2) rfl .nil)))) ?_
      refine C_ret ?_
      refine K_ret ?_
      refine K_end (.inr rfl) (.tmp rfl .nil) (fun w hw => ?_)
      refine ⟨_, _, rfl, ?_, hw.cnt (by intro zz; first | exact Nat.le_refl _ | (simp only [cnt_app, cnt_cons, cnt_nil, cat, List.append_assoc, List.cons_append, List.nil_append]; omega)), ?_⟩
      · exact (by first | exact Mem.le.refl _ | (repeat first | assumption | refine Mem.le.trans (by assumption) ?_))
      · first | rfl | exact congrArg Value.bool (decide_eq_true (by omega)) | (simp [resV]; omega)
  · first | replace hc1 := dT hc1 | replace hc1 := dF hc1 | replace hc1 := nT hc1 | replace hc1 := nF hc1 | skip
    first
    | (exfalso; omega)
    | (exfalso; simp [eqX] at hc1; done)
    | skip
      refine C_skip ?_
      refine K_then ?_
      refine C_pick (.cons (k := 6) rfl (.cons (k := 0) rfl (.cons (k := 1) rfl (.cons (k := 2) rfl .nil)))) ?_
      refine C_seq ?_
      refine C_region (l := [0, 1, 2, 3, 4, 5]) rfl ?_
      refine X_fhR rfl rfl F.ok7 rfl (New_ok M 60 ⟨by decide, by decide⟩) (by repeat first | exact Rem.here _ | apply Rem.skip | apply Rem.over) (fun _ _ _ hm hw => (hw.lower (by first | exact hm | exact Mem.le.trans (by assumption) hm)).cnt (by intro zz; first | exact Nat.le_refl _ | (simp only [cnt_app, cnt_cons, cnt_nil, cat, List.append_assoc, List.cons_append, List.nil_append]; omega))) (putE_some rfl) ?_
      rintro _ M1 Hb _ ⟨hM1, b, rfl, hb⟩; subst M1
      refine X_move rfl rfl rfl rfl ?_
      refine X_extract rfl rfl rfl rfl rfl ?_
      refine X_extract rfl rfl rfl rfl rfl ?_
      refine X_assign rfl rfl rfl rfl ?_
      refine X_assign rfl rfl rfl rfl ?_
      refine XD_end ?_
      refine K_then ?_
      refine C_pick (.cons (k := 8) rfl (.cons (k := 7) rfl (.cons (k := 6) rfl (.cons (k := 0) rfl (.cons (k := 1) rfl (.cons (k := 2) rfl .nil)))))) ?_
      refine C_seq ?_
      refine C_seq ?_
      refine C_region (l := [0, 1, 2, 3, 4, 5]) rfl ?_
      refine X_move rfl rfl rfl rfl ?_
      refine X_nil rfl rfl rfl rfl Try.underlying23 rfl rfl ?_
      refine X_move rfl rfl rfl rfl ?_
      refine XD_part 30 rfl (fun hc2 => ?_) (fun hc2 => ?_)
      · first | replace hc2 := dT hc2 | replace hc2 := dF hc2 | replace hc2 := nT hc2 | replace hc2 := nF hc2 | skip
        first | (exfalso; omega) | (exfalso; simp [eqX] at hc2; done)
      · first | replace hc2 := dT hc2 | replace hc2 := dF hc2 | replace hc2 := nT hc2 | replace hc2 := nF hc2 | skip
        first
        | (exfalso; omega)
        | (exfalso; simp [eqX] at hc2; done)
        | skip
          refine X_move rfl rfl rfl rfl ?_
          refine X_cmp rfl rfl rfl rfl rfl rfl ?_
          refine X_pick rfl rfl rfl rfl rfl ?_
          refine XD_end ?_
          refine K_then ?_
          refine C_pick (.cons (k := 33) rfl (.cons (k := 7) rfl (.cons (k := 6) rfl (.cons (k := 0) rfl (.cons (k := 1) rfl (.cons (k := 2) rfl .nil)))))) ?_
          refine C_cond rfl (fun hc3 => ?_) (fun hc3 => ?_)
          · first | replace hc3 := dT hc3 | replace hc3 := dF hc3 | replace hc3 := nT hc3 | replace hc3 := nF hc3 | skip
            first | (exfalso; omega) | (exfalso; simp [eqX] at hc3; done)
          · first | replace hc3 := dT hc3 | replace hc3 := dF hc3 | replace hc3 := nT hc3 | replace hc3 := nF hc3 | skip
            first
            | (exfalso; omega)
            | (exfalso; simp [eqX] at hc3; done)
            | skip
              refine C_skip ?_
              refine K_then ?_
              refine C_pick (.cons (k := 7) rfl (.cons (k := 6) rfl (.cons (k := 0) rfl (.cons (k := 1) rfl (.cons (k := 2) rfl .nil))))) ?_
              refine C_seq ?_
              refine C_region (l := [0]) rfl ?_
              refine X_assign rfl rfl rfl rfl ?_
              refine XD_end ?_
              refine K_then ?_
              refine C_seq ?_
              refine C_seq ?_
              refine C_region (l := [0]) rfl ?_
              refine X_assign rfl rfl rfl rfl ?_
              refine XD_end ?_
              refine K_then ?_
              refine C_block ?_
              refine C_pick (.cons (k := 10) rfl (.cons (k := 9) rfl (.cons (k := 7) rfl (.cons (k := 6) rfl (.cons (k := 0) rfl (.cons (k := 1) rfl (.cons (k := 2) rfl .nil))))))) ?_
              refine C_loop (.succ (.succ .zero)) (fun (x : Nat × Hp) S z => ∃ k Hb1, x = (k, Hb1) ∧ (∀ w, S w → St M (Hb1 ++ H) w) ∧ z = [(10, .int .i64 (k : Int)), (9, .int .i64 ((toIk addr l k).length : Int))] ∧ k ≤ l.length ∧ (∀ m ∈ l.take k, m.body.size ≤ 4096) ∧ BagIs b 60 (k : Int) (l.take k) Hb1) (fun x => l.length - x.1) ((0, Hb)) (⟨0, Hb, rfl, fun w hw => hw.cnt (by intro zz; first | exact Nat.le_refl _ | (simp only [cnt_app, cnt_cons, cnt_nil, cat, List.append_assoc, List.cons_append, List.nil_append]; omega)), rfl, by omega, by simp, hb⟩) ?_
              rintro _ _ _ ⟨k, Hb1, rfl, hS, rfl, hk, hsm, hb1⟩
              have hQ1 := toIk_le addr l k
              refine C_weak (fun _ h => h) hS ?_
              refine C_seq ?_
              refine C_seq ?_
              refine C_region (l := [0, 1, 2, 3]) rfl ?_
              refine X_move rfl rfl rfl rfl ?_
              refine X_move rfl rfl rfl rfl ?_
              refine X_len_sl rfl rfl rfl rfl F.elem22 rfl ?_
              refine X_cmp rfl rfl rfl rfl rfl rfl ?_
              refine XD_end ?_
              refine K_then ?_
              refine C_cond rfl (fun hc4 => ?_) (fun hc4 => ?_)
              · first | replace hc4 := dT hc4 | replace hc4 := dF hc4 | replace hc4 := nT hc4 | replace hc4 := nF hc4 | skip
                first
                | (exfalso; omega)
                | (exfalso; simp [eqX] at hc4; done)
                | skip
                  refine C_skip ?_
                  refine K_then ?_
                  refine C_seq ?_
                  refine C_block ?_
                  refine C_seq ?_
                  refine C_seq ?_
                  refine C_region (l := [0, 1, 2, 3, 4, 5, 6]) rfl ?_
                  refine X_move rfl rfl rfl rfl ?_
                  refine X_move rfl rfl rfl rfl ?_
                  refine X_indexAddr rfl rfl rfl rfl F.elem22 (by first | rfl | exact (Int.toNat_of_nonneg (by omega)).symm) (by first | omega | (simp; omega)) (by first | exact ⟨_, _, rfl⟩ | assumption | exact SlM.plain (by assumption) (by simp; omega) | exact RdS.plain (by assumption) (by simp; omega) | exact OSl.plain (by assumption) (by simp; omega)) rfl ?_
                  first | refine X_fieldAddr rfl rfl rfl F.foff28_2 rfl ?_ | refine X_fieldAddr_el rfl rfl rfl (by first | exact ⟨_, _, rfl⟩ | assumption | exact SlM.plain (by assumption) (by simp; omega) | exact RdS.plain (by assumption) (by simp; omega) | exact OSl.plain (by assumption) (by simp; omega)) F.foff28_2 rfl ?_
                  first | refine X_load rfl rfl rfl (by repeat first | exact List.Mem.head _ | refine List.Mem.tail _ ?_ | refine List.mem_append_right _ ?_) F.lay9 rfl rfl rfl ?_ | refine X_load_el rfl rfl rfl (by first | assumption | exact SlM.mono (by assumption) (by assumption)) (by first | exact row_map (by omega) | exact List.getElem?_eq_getElem (by omega)) F.lay9 rfl rfl rfl ?_ | refine X_load_rd rfl rfl rfl (by assumption) (by first | exact row_map (by omega) | exact List.getElem?_eq_getElem (by omega)) F.lay9 rfl rfl rfl ?_ | refine X_load_mem rfl rfl rfl (by first | assumption | exact Mem.get_of (by assumption) (by repeat first | assumption | refine Mem.le.trans (by assumption) ?_)) F.lay9 rfl rfl rfl ?_ | refine X_load_osl rfl rfl rfl (by assumption) (by repeat first | exact Rem.here _ | apply Rem.skip | apply Rem.over) (by first | exact row_map (by omega) | exact List.getElem?_eq_getElem (by omega)) F.lay9 rfl rfl rfl ?_
                  refine X_len_str rfl rfl rfl rfl Try.underlying9 rfl ?_
                  refine X_cmp rfl rfl rfl rfl rfl rfl ?_
                  refine XD_end ?_
                  refine K_then ?_
                  refine C_cond rfl (fun hc5 => ?_) (fun hc5 => ?_)
                  · first | replace hc5 := dT hc5 | replace hc5 := dF hc5 | replace hc5 := nT hc5 | replace hc5 := nF hc5 | skip
                    first
                    | (exfalso; omega)
                    | (exfalso; simp [eqX] at hc5; done)
                    | skip
                      refine C_seq ?_
                      refine C_region (l := [0]) rfl ?_
                      refine X_assign rfl rfl rfl rfl ?_
                      refine XD_end ?_
                      refine K_then ?_
                      refine C_ret ?_
                      refine K_ret ?_
                      refine K_retB ?_
                      refine K_ret ?_
                      refine K_ret ?_
                      refine K_retB ?_
                      refine K_ret ?_
                      refine K_end (.inr rfl) (.tmp rfl .nil) (fun w hw => ?_)
                      refine ⟨_, _, rfl, ?_, hw.cnt (by intro zz; first | exact Nat.le_refl _ | (simp only [cnt_app, cnt_cons, cnt_nil, cat, List.append_assoc, List.cons_append, List.nil_append]; omega)), ?_⟩
                      · exact (by first | exact Mem.le.refl _ | (repeat first | assumption | refine Mem.le.trans (by assumption) ?_))
                      · first | rfl | exact congrArg Value.bool (decide_eq_true (by omega)) | (simp [resV]; omega)
                  · first | replace hc5 := dT hc5 | replace hc5 := dF hc5 | replace hc5 := nT hc5 | replace hc5 := nF hc5 | skip
                    first
                    | (exfalso; omega)
                    | (exfalso; simp [eqX] at hc5; done)
                    | skip
                      refine C_skip ?_
                      refine K_then ?_
                      refine C_seq ?_
                      refine C_seq ?_
                      refine C_regionR (l := [0, 1, 2, 3, 4, 5, 6]) (Hin := Hb1) (by repeat first | exact Rem.here _ | apply Rem.skip | apply Rem.over) rfl ?_
                      refine X_move rfl rfl rfl rfl ?_
                      refine X_move rfl rfl rfl rfl ?_
                      refine X_move rfl rfl rfl rfl ?_
                      refine X_indexAddr rfl rfl rfl rfl F.elem22 (by first | rfl | exact (Int.toNat_of_nonneg (by omega)).symm) (by first | omega | (simp; omega)) (by first | exact ⟨_, _, rfl⟩ | assumption | exact SlM.plain (by assumption) (by simp; omega) | exact RdS.plain (by assumption) (by simp; omega) | exact OSl.plain (by assumption) (by simp; omega)) rfl ?_
                      first | refine X_load rfl rfl rfl (by repeat first | exact List.Mem.head _ | refine List.Mem.tail _ ?_ | refine List.mem_append_right _ ?_) F.lay28 rfl rfl rfl ?_ | refine X_load_el rfl rfl rfl (by first | assumption | exact SlM.mono (by assumption) (by assumption)) (by first | exact row_map (by omega) | exact List.getElem?_eq_getElem (by omega)) F.lay28 rfl rfl rfl ?_ | refine X_load_rd rfl rfl rfl (by assumption) (by first | exact row_map (by omega) | exact List.getElem?_eq_getElem (by omega)) F.lay28 rfl rfl rfl ?_ | refine X_load_mem rfl rfl rfl (by first | assumption | exact Mem.get_of (by assumption) (by repeat first | assumption | refine Mem.le.trans (by assumption) ?_)) F.lay28 rfl rfl rfl ?_ | refine X_load_osl rfl rfl rfl (by assumption) (by repeat first | exact Rem.here _ | apply Rem.skip | apply Rem.over) (by first | exact row_map (by omega) | exact List.getElem?_eq_getElem (by omega)) F.lay28 rfl rfl rfl ?_
                      refine X_fhR rfl rfl F.ok8 rfl (Put_at M b 60 (k : Int) (l.take k) _ l[k] (by omega) hb1 (c := 0) (l' := l.take (k + 1)) (put_ok _ _ _ (by omega) (by simp; omega)).1 (by rw [(put_ok _ _ _ (by omega) (by simp; omega)).2, List.take_add_one, List.getElem?_eq_getElem (by omega)]; rfl)) (by repeat first | exact Rem.here _ | apply Rem.skip | apply Rem.over) (fun _ _ _ hm hw => (hw.lower (by first | exact hm | exact Mem.le.trans (by assumption) hm)).cnt (by intro zz; first | exact Nat.le_refl _ | (simp only [cnt_app, cnt_cons, cnt_nil, cat, List.append_assoc, List.cons_append, List.nil_append]; omega))) (putE_some rfl) ?_
                      rintro _ M1 Hb2 _ ⟨hM1, rfl, hb2⟩; subst M1
                      refine X_cmp rfl rfl rfl rfl rfl rfl ?_
                      refine XD_end ?_
                      refine K_then ?_
                      refine C_cond rfl (fun hc6 => ?_) (fun hc6 => ?_)
                      · first | replace hc6 := dT hc6 | replace hc6 := dF hc6 | replace hc6 := nT hc6 | replace hc6 := nF hc6 | skip
                        first | (exfalso; omega) | (exfalso; simp [eqX] at hc6; done)
                      · first | replace hc6 := dT hc6 | replace hc6 := dF hc6 | replace hc6 := nT hc6 | replace hc6 := nF hc6 | skip
                        first
                        | (exfalso; omega)
                        | (exfalso; simp [eqX] at hc6; done)
                        | skip
                          refine C_skip ?_
                          refine K_then ?_
                          refine C_seq ?_
                          refine C_region (l := [0, 1, 2, 3, 4, 5, 6]) rfl ?_
                          refine X_move rfl rfl rfl rfl ?_
                          refine X_move rfl rfl rfl rfl ?_
                          refine X_indexAddr rfl rfl rfl rfl F.elem22 (by first | rfl | exact (Int.toNat_of_nonneg (by omega)).symm) (by first | omega | (simp; omega)) (by first | exact ⟨_, _, rfl⟩ | assumption | exact SlM.plain (by assumption) (by simp; omega) | exact RdS.plain (by assumption) (by simp; omega) | exact OSl.plain (by assumption) (by simp; omega)) rfl ?_
                          first | refine X_fieldAddr rfl rfl rfl F.foff28_1 rfl ?_ | refine X_fieldAddr_el rfl rfl rfl (by first | exact ⟨_, _, rfl⟩ | assumption | exact SlM.plain (by assumption) (by simp; omega) | exact RdS.plain (by assumption) (by simp; omega) | exact OSl.plain (by assumption) (by simp; omega)) F.foff28_1 rfl ?_
                          first | refine X_load rfl rfl rfl (by repeat first | exact List.Mem.head _ | refine List.Mem.tail _ ?_ | refine List.mem_append_right _ ?_) F.lay3 rfl rfl rfl ?_ | refine X_load_el rfl rfl rfl (by first | assumption | exact SlM.mono (by assumption) (by assumption)) (by first | exact row_map (by omega) | exact List.getElem?_eq_getElem (by omega)) F.lay3 rfl rfl rfl ?_ | refine X_load_rd rfl rfl rfl (by assumption) (by first | exact row_map (by omega) | exact List.getElem?_eq_getElem (by omega)) F.lay3 rfl rfl rfl ?_ | refine X_load_mem rfl rfl rfl (by first | assumption | exact Mem.get_of (by assumption) (by repeat first | assumption | refine Mem.le.trans (by assumption) ?_)) F.lay3 rfl rfl rfl ?_ | refine X_load_osl rfl rfl rfl (by assumption) (by repeat first | exact Rem.here _ | apply Rem.skip | apply Rem.over) (by first | exact row_map (by omega) | exact List.getElem?_eq_getElem (by omega)) F.lay3 rfl rfl rfl ?_
                          refine X_move rfl rfl rfl rfl ?_
                          refine X_cmp rfl rfl rfl rfl rfl rfl ?_
                          refine XD_end ?_
                          refine K_then ?_
                          refine C_cond rfl (fun hc7 => ?_) (fun hc7 => ?_)
                          · first | replace hc7 := dT hc7 | replace hc7 := dF hc7 | replace hc7 := nT hc7 | replace hc7 := nF hc7 | skip
                            first
                            | (exfalso; omega)
                            | (exfalso; simp [eqX] at hc7; done)
                            | skip
                              refine C_region (l := [0, 1, 2]) rfl ?_
                              refine X_move rfl rfl rfl rfl ?_
                              refine X_ari rfl rfl rfl rfl rfl (by first | exact wrap_in (by decide) (by omega) | rfl) rfl ?_
                              refine X_assign rfl rfl rfl rfl ?_
                              refine XD_end ?_
                              refine K_out ?_
                              refine K_then ?_
                              refine C_region (l := [0, 1, 2]) rfl ?_
                              refine X_move rfl rfl rfl rfl ?_
                              refine X_ari rfl rfl rfl rfl rfl (by first | exact wrap_in (by decide) (by omega) | rfl) rfl ?_
                              refine X_assign rfl rfl rfl rfl ?_
                              refine XD_end ?_
                              refine K_round (a' := [(10, _), (9, _)]) ((k + 1, Hb2)) (.cons (k := 10) rfl (.cons (k := 9) rfl (.cons (k := 7) rfl (.cons (k := 6) rfl (.cons (k := 0) rfl (.cons (k := 1) rfl (.cons (k := 2) rfl (.nil)))))))) ?_ ?_
                              · refine ⟨k + 1, Hb2, rfl, fun w hw => hw.cnt (by intro zz; first | exact Nat.le_refl _ | (simp only [cnt_app, cnt_cons, cnt_nil, cat, List.append_assoc, List.cons_append, List.nil_append]; omega)), ?_, by omega, ?_, hb2⟩
                                · first | (rw [toIk_yes (by omega) (by assumption), List.length_append]; simp; done) | (rw [toIk_no (by omega) (by assumption)]; simp; done)
                                · rw [List.take_add_one, List.getElem?_eq_getElem (by omega)]
                                  intro m hm
                                  rcases List.mem_append.1 hm with hm | hm
                                  · exact hsm m hm
                                  · obtain rfl : m = l[k] := by simpa using hm
                                    omega
                              · show l.length - (k + 1) < l.length - k; omega
                          · first | replace hc7 := dT hc7 | replace hc7 := dF hc7 | replace hc7 := nT hc7 | replace hc7 := nF hc7 | skip
                            first
                            | (exfalso; omega)
                            | (exfalso; simp [eqX] at hc7; done)
                            | skip
                              refine C_skip ?_
                              refine K_out ?_
                              refine K_then ?_
                              refine C_region (l := [0, 1, 2]) rfl ?_
                              refine X_move rfl rfl rfl rfl ?_
                              refine X_ari rfl rfl rfl rfl rfl (by first | exact wrap_in (by decide) (by omega) | rfl) rfl ?_
                              refine X_assign rfl rfl rfl rfl ?_
                              refine XD_end ?_
                              refine K_round (a' := [(10, _), (9, _)]) ((k + 1, Hb2)) (.cons (k := 10) rfl (.cons (k := 9) rfl (.cons (k := 7) rfl (.cons (k := 6) rfl (.cons (k := 0) rfl (.cons (k := 1) rfl (.cons (k := 2) rfl (.nil)))))))) ?_ ?_
                              · refine ⟨k + 1, Hb2, rfl, fun w hw => hw.cnt (by intro zz; first | exact Nat.le_refl _ | (simp only [cnt_app, cnt_cons, cnt_nil, cat, List.append_assoc, List.cons_append, List.nil_append]; omega)), ?_, by omega, ?_, hb2⟩
                                · first | (rw [toIk_yes (by omega) (by assumption), List.length_append]; simp; done) | (rw [toIk_no (by omega) (by assumption)]; simp; done)
                                · rw [List.take_add_one, List.getElem?_eq_getElem (by omega)]
                                  intro m hm
                                  rcases List.mem_append.1 hm with hm | hm
                                  · exact hsm m hm
                                  · obtain rfl : m = l[k] := by simpa using hm
                                    omega
                              · show l.length - (k + 1) < l.length - k; omega
              · first | replace hc4 := dT hc4 | replace hc4 := dF hc4 | replace hc4 := nT hc4 | replace hc4 := nF hc4 | skip
                first
                | (exfalso; omega)
                | (exfalso; simp [eqX] at hc4; done)
                | skip
                  refine C_exit ?_
                  refine K_exit ?_
                  refine K_exit ?_
                  refine K_hit ?_
                  refine K_then ?_
                  refine C_pick (.cons (k := 9) rfl (.cons (k := 7) rfl (.cons (k := 6) rfl (.cons (k := 0) rfl (.cons (k := 1) rfl (.cons (k := 2) rfl .nil)))))) ?_
                  refine C_seq ?_
                  refine C_region (l := [0, 1, 2, 3, 4, 5, 6, 7, 8]) rfl ?_
                  have e : k = l.length := by omega
                  subst e
                  rw [List.take_length] at hb1 hsm
                  refine X_move rfl rfl rfl rfl ?_
                  refine X_move rfl rfl rfl rfl ?_
                  refine X_fo rfl rfl F.ok12 rfl (At_ok M b 60 _ _ _ _ (by first | exact hb2 | exact hb1)) (by repeat first | exact Rem.here _ | apply Rem.skip | apply Rem.over) (putE_some rfl) ?_
                  rintro _ M1 _ ⟨hM1, rfl⟩; subst M1
                  refine X_move rfl rfl rfl rfl ?_
                  refine X_extract rfl rfl rfl rfl rfl ?_
                  refine X_extract rfl rfl rfl rfl rfl ?_
                  refine X_alloc rfl rfl F.zero28 (by constructor) rfl ?_; intro b8
                  refine X_store rfl rfl rfl rfl (by constructor) (by first | exact Mail.flat _ | (simp [flat, cat, Segs.cells, Seg.cells, Value.oneCell']; done)) (by repeat first | exact Upd.head | apply Upd.tail | apply Upd.over) F.lay28 rfl rfl ?_
                  refine X_assign rfl rfl rfl rfl ?_
                  refine XD_end ?_
                  refine K_then ?_
                  refine C_pick (.cons (k := 12) rfl (.cons (k := 11) rfl (.cons (k := 9) rfl (.cons (k := 7) rfl (.cons (k := 6) rfl (.cons (k := 0) rfl (.cons (k := 1) rfl (.cons (k := 2) rfl .nil)))))))) ?_
                  refine C_seq ?_
                  refine C_regionR (l := [0, 1, 2, 3]) (Hin := Hb1) (by repeat first | exact Rem.here _ | apply Rem.skip | apply Rem.over) rfl ?_
                  refine X_move rfl rfl rfl rfl ?_
                  refine X_move rfl rfl rfl rfl ?_
                  refine X_fhR rfl rfl F.ok16 rfl (Twice_ok M b 60 _ l _ i (by omega) hb1) (by repeat first | exact Rem.here _ | apply Rem.skip | apply Rem.over) (fun _ _ _ hm hw => (hw.lower (by first | exact hm | exact Mem.le.trans (by assumption) hm)).cnt (by intro zz; first | exact Nat.le_refl _ | (simp only [cnt_app, cnt_cons, cnt_nil, cat, List.append_assoc, List.cons_append, List.nil_append]; omega))) (putE_some rfl) ?_
                  rintro _ M1 Hb2 _ ⟨hM1, rfl, hb2⟩; subst M1
                  obtain ⟨hg, hL1, hL2⟩ := twice_what i l (by omega) hsm
                  obtain ⟨L, hL⟩ : ∃ L, twiceL i 60 l = L := ⟨_, rfl⟩
                  rw [hL] at hb2 hL1 hL2
                  have hy : atC i l = 0 → atM (l.length : Int) L = atM i l := fun h => by rw [hL1 h, (at_app_last _ _).1]
                  have hz : atC i l = 0 → atM i L = atM i l := fun h => by rw [hL1 h, (at_app _ _ _ h).1]
                  have hh : atC i l = 0 → atC (l.length : Int) L = 0 ∧ atC i L = 0 ∧ L.length = l.length + 1 := fun h => by rw [hL1 h]; exact ⟨(at_app_last _ _).2, (at_app _ _ _ h).2, by simp⟩
                  have hn : ¬ atC i l = 0 → L.length = l.length := fun h => by rw [hL2 h]
                  have hA : atC i l = 0 → (atM i l).to = addr → (toI addr L).length = (toIk addr l l.length).length + 1 := fun h h2 => by rw [hL1 h]; exact toI_len_yes h2
                  have hB : atC i l = 0 → ¬ (atM i l).to = addr → (toI addr L).length = (toIk addr l l.length).length := fun h h2 => by rw [hL1 h]; exact toI_len_no h2
                  have hC : ¬ atC i l = 0 → (toI addr L).length = (toIk addr l l.length).length := fun h => by rw [hL2 h]; rfl
                  have hD := lose_len addr L
                  have hE := lose_none addr L
                  have hQ : (toIk addr l l.length).length ≤ l.length := toI_length addr l
                  refine X_assign rfl rfl rfl rfl ?_
                  refine XD_end ?_
                  refine K_then ?_
                  refine C_pick (.cons (k := 13) rfl (.cons (k := 12) rfl (.cons (k := 11) rfl (.cons (k := 9) rfl (.cons (k := 7) rfl (.cons (k := 6) rfl (.cons (k := 0) rfl (.cons (k := 1) rfl (.cons (k := 2) rfl .nil))))))))) ?_
                  refine C_seq ?_
                  refine C_region (l := [0, 1, 2, 3, 4, 5, 6, 7, 8, 9]) rfl ?_
                  refine X_move rfl rfl rfl rfl ?_
                  refine X_move rfl rfl rfl rfl ?_
                  refine X_len_sl rfl rfl rfl rfl F.elem22 rfl ?_
                  refine X_fo rfl rfl F.ok12 rfl (At_ok M b 60 _ _ _ _ (by first | exact hb2 | exact hb1)) (by repeat first | exact Rem.here _ | apply Rem.skip | apply Rem.over) (putE_some rfl) ?_
                  rintro _ M1 _ ⟨hM1, rfl⟩; subst M1
                  refine X_move rfl rfl rfl rfl ?_
                  refine X_extract rfl rfl rfl rfl rfl ?_
                  refine X_extract rfl rfl rfl rfl rfl ?_
                  refine X_alloc rfl rfl F.zero28 (by constructor) rfl ?_; intro b9
                  refine X_store rfl rfl rfl rfl (by constructor) (by first | exact Mail.flat _ | (simp [flat, cat, Segs.cells, Seg.cells, Value.oneCell']; done)) (by repeat first | exact Upd.head | apply Upd.tail | apply Upd.over) F.lay28 rfl rfl ?_
                  refine X_assign rfl rfl rfl rfl ?_
                  refine XD_end ?_
                  refine K_then ?_
                  refine C_pick (.cons (k := 15) rfl (.cons (k := 14) rfl (.cons (k := 13) rfl (.cons (k := 12) rfl (.cons (k := 11) rfl (.cons (k := 9) rfl (.cons (k := 7) rfl (.cons (k := 6) rfl (.cons (k := 0) rfl (.cons (k := 1) rfl (.cons (k := 2) rfl .nil))))))))))) ?_
                  refine C_seq ?_
                  refine C_region (l := [0, 1, 2, 3, 4, 5, 6, 7, 8]) rfl ?_
                  refine X_move rfl rfl rfl rfl ?_
                  refine X_move rfl rfl rfl rfl ?_
                  refine X_fo rfl rfl F.ok12 rfl (At_ok M b 60 _ _ _ _ (by first | exact hb2 | exact hb1)) (by repeat first | exact Rem.here _ | apply Rem.skip | apply Rem.over) (putE_some rfl) ?_
                  rintro _ M1 _ ⟨hM1, rfl⟩; subst M1
                  refine X_move rfl rfl rfl rfl ?_
                  refine X_extract rfl rfl rfl rfl rfl ?_
                  refine X_extract rfl rfl rfl rfl rfl ?_
                  refine X_alloc rfl rfl F.zero28 (by constructor) rfl ?_; intro b10
                  refine X_store rfl rfl rfl rfl (by constructor) (by first | exact Mail.flat _ | (simp [flat, cat, Segs.cells, Seg.cells, Value.oneCell']; done)) (by repeat first | exact Upd.head | apply Upd.tail | apply Upd.over) F.lay28 rfl rfl ?_
                  refine X_assign rfl rfl rfl rfl ?_
                  refine XD_end ?_
                  refine K_then ?_
                  refine C_pick (.cons (k := 17) rfl (.cons (k := 16) rfl (.cons (k := 15) rfl (.cons (k := 14) rfl (.cons (k := 13) rfl (.cons (k := 12) rfl (.cons (k := 11) rfl (.cons (k := 9) rfl (.cons (k := 7) rfl (.cons (k := 6) rfl (.cons (k := 0) rfl (.cons (k := 1) rfl .nil)))))))))))) ?_
                  refine C_seq ?_
                  refine C_seq ?_
                  refine C_region (l := [0, 1, 2, 3, 4, 5, 6, 7, 8, 9, 10, 11, 12, 13, 14, 15, 16, 17, 18, 19, 20, 21, 22, 23, 24, 25, 26, 27, 28, 29, 30, 31, 32, 33, 34, 35, 36, 37, 38, 39, 40, 41, 42, 43, 44, 45]) rfl ?_
                  refine X_move rfl rfl rfl rfl ?_
                  refine X_move rfl rfl rfl rfl ?_
                  refine X_cmp rfl rfl rfl rfl rfl rfl ?_
                  refine X_move rfl rfl rfl rfl ?_
                  refine XD_part 88 rfl (fun hc11 => ?_) (fun hc11 => ?_)
                  · first | replace hc11 := dT hc11 | replace hc11 := dF hc11 | replace hc11 := nT hc11 | replace hc11 := nF hc11 | skip
                    first | (exfalso; omega) | (exfalso; simp [eqX] at hc11; done)
                  · first | replace hc11 := dT hc11 | replace hc11 := dF hc11 | replace hc11 := nT hc11 | replace hc11 := nF hc11 | skip
                    first
                    | (exfalso; omega)
                    | (exfalso; simp [eqX] at hc11; done)
                    | skip
                      refine X_move rfl rfl rfl rfl ?_
                      refine X_cmp rfl rfl rfl rfl rfl rfl ?_
                      refine X_move rfl rfl rfl rfl ?_
                      refine XD_part 91 rfl (fun hc12 => ?_) (fun hc12 => ?_)
                      · first | replace hc12 := dT hc12 | replace hc12 := dF hc12 | replace hc12 := nT hc12 | replace hc12 := nF hc12 | skip
                        first
                        | (exfalso; omega)
                        | (exfalso; simp [eqX] at hc12; done)
                        | skip
                          first | refine X_load rfl rfl rfl (by repeat first | exact List.Mem.head _ | refine List.Mem.tail _ ?_ | refine List.mem_append_right _ ?_) F.lay28 rfl rfl rfl ?_ | refine X_load_el rfl rfl rfl (by first | assumption | exact SlM.mono (by assumption) (by assumption)) (by first | exact row_map (by omega) | exact List.getElem?_eq_getElem (by omega)) F.lay28 rfl rfl rfl ?_ | refine X_load_rd rfl rfl rfl (by assumption) (by first | exact row_map (by omega) | exact List.getElem?_eq_getElem (by omega)) F.lay28 rfl rfl rfl ?_ | refine X_load_mem rfl rfl rfl (by first | assumption | exact Mem.get_of (by assumption) (by repeat first | assumption | refine Mem.le.trans (by assumption) ?_)) F.lay28 rfl rfl rfl ?_ | refine X_load_osl rfl rfl rfl (by assumption) (by repeat first | exact Rem.here _ | apply Rem.skip | apply Rem.over) (by first | exact row_map (by omega) | exact List.getElem?_eq_getElem (by omega)) F.lay28 rfl rfl rfl ?_
                          first | refine X_load rfl rfl rfl (by repeat first | exact List.Mem.head _ | refine List.Mem.tail _ ?_ | refine List.mem_append_right _ ?_) F.lay28 rfl rfl rfl ?_ | refine X_load_el rfl rfl rfl (by first | assumption | exact SlM.mono (by assumption) (by assumption)) (by first | exact row_map (by omega) | exact List.getElem?_eq_getElem (by omega)) F.lay28 rfl rfl rfl ?_ | refine X_load_rd rfl rfl rfl (by assumption) (by first | exact row_map (by omega) | exact List.getElem?_eq_getElem (by omega)) F.lay28 rfl rfl rfl ?_ | refine X_load_mem rfl rfl rfl (by first | assumption | exact Mem.get_of (by assumption) (by repeat first | assumption | refine Mem.le.trans (by assumption) ?_)) F.lay28 rfl rfl rfl ?_ | refine X_load_osl rfl rfl rfl (by assumption) (by repeat first | exact Rem.here _ | apply Rem.skip | apply Rem.over) (by first | exact row_map (by omega) | exact List.getElem?_eq_getElem (by omega)) F.lay28 rfl rfl rfl ?_
                          refine X_same (m := 20) rfl rfl rfl rfl rfl (by constructor) (by constructor) F.lay28 F.kinds28 rfl F.guard28 (by repeat first | exact trivial | exact rfl | refine And.intro ?_ ?_) (by repeat first | exact trivial | exact rfl | refine And.intro ?_ ?_) rfl rfl rfl ?_; intro c13 he14
                          replace he14 : c13 = true ↔ ¬ (Segs.cells _ = Segs.cells _) := he14
                          first | (obtain rfl : c13 = false := Bool.eq_false_iff.2 (fun h => he14.1 h (by first | rw [hy (by assumption)] | rw [hz (by assumption)]))) | skip
                          refine X_move rfl rfl rfl rfl ?_
                          refine XD_part 95 rfl (fun hc15 => ?_) (fun hc15 => ?_)
                          · first | replace hc15 := dT hc15 | replace hc15 := dF hc15 | replace hc15 := nT hc15 | replace hc15 := nF hc15 | skip
                            first | (exfalso; omega) | (exfalso; simp [eqX] at hc15; done)
                          · first | replace hc15 := dT hc15 | replace hc15 := dF hc15 | replace hc15 := nT hc15 | replace hc15 := nF hc15 | skip
                            first
                            | (exfalso; omega)
                            | (exfalso; simp [eqX] at hc15; done)
                            | skip
                              first | refine X_load rfl rfl rfl (by repeat first | exact List.Mem.head _ | refine List.Mem.tail _ ?_ | refine List.mem_append_right _ ?_) F.lay28 rfl rfl rfl ?_ | refine X_load_el rfl rfl rfl (by first | assumption | exact SlM.mono (by assumption) (by assumption)) (by first | exact row_map (by omega) | exact List.getElem?_eq_getElem (by omega)) F.lay28 rfl rfl rfl ?_ | refine X_load_rd rfl rfl rfl (by assumption) (by first | exact row_map (by omega) | exact List.getElem?_eq_getElem (by omega)) F.lay28 rfl rfl rfl ?_ | refine X_load_mem rfl rfl rfl (by first | assumption | exact Mem.get_of (by assumption) (by repeat first | assumption | refine Mem.le.trans (by assumption) ?_)) F.lay28 rfl rfl rfl ?_ | refine X_load_osl rfl rfl rfl (by assumption) (by repeat first | exact Rem.here _ | apply Rem.skip | apply Rem.over) (by first | exact row_map (by omega) | exact List.getElem?_eq_getElem (by omega)) F.lay28 rfl rfl rfl ?_
                              first | refine X_load rfl rfl rfl (by repeat first | exact List.Mem.head _ | refine List.Mem.tail _ ?_ | refine List.mem_append_right _ ?_) F.lay28 rfl rfl rfl ?_ | refine X_load_el rfl rfl rfl (by first | assumption | exact SlM.mono (by assumption) (by assumption)) (by first | exact row_map (by omega) | exact List.getElem?_eq_getElem (by omega)) F.lay28 rfl rfl rfl ?_ | refine X_load_rd rfl rfl rfl (by assumption) (by first | exact row_map (by omega) | exact List.getElem?_eq_getElem (by omega)) F.lay28 rfl rfl rfl ?_ | refine X_load_mem rfl rfl rfl (by first | assumption | exact Mem.get_of (by assumption) (by repeat first | assumption | refine Mem.le.trans (by assumption) ?_)) F.lay28 rfl rfl rfl ?_ | refine X_load_osl rfl rfl rfl (by assumption) (by repeat first | exact Rem.here _ | apply Rem.skip | apply Rem.over) (by first | exact row_map (by omega) | exact List.getElem?_eq_getElem (by omega)) F.lay28 rfl rfl rfl ?_
                              refine X_same (m := 20) rfl rfl rfl rfl rfl (by constructor) (by constructor) F.lay28 F.kinds28 rfl F.guard28 (by repeat first | exact trivial | exact rfl | refine And.intro ?_ ?_) (by repeat first | exact trivial | exact rfl | refine And.intro ?_ ?_) rfl rfl rfl ?_; intro c16 he17
                              replace he17 : c16 = true ↔ ¬ (Segs.cells _ = Segs.cells _) := he17
                              first | (obtain rfl : c16 = false := Bool.eq_false_iff.2 (fun h => he17.1 h (by first | rw [hy (by assumption)] | rw [hz (by assumption)]))) | skip
                              refine X_pick rfl rfl rfl rfl rfl ?_
                              refine X_move rfl rfl rfl rfl ?_
                              refine XD_part 100 rfl (fun hc18 => ?_) (fun hc18 => ?_)
                              · first | replace hc18 := dT hc18 | replace hc18 := dF hc18 | replace hc18 := nT hc18 | replace hc18 := nF hc18 | skip
                                first | (exfalso; omega) | (exfalso; simp [eqX] at hc18; done)
                              · first | replace hc18 := dT hc18 | replace hc18 := dF hc18 | replace hc18 := nT hc18 | replace hc18 := nF hc18 | skip
                                first
                                | (exfalso; omega)
                                | (exfalso; simp [eqX] at hc18; done)
                                | skip
                                  refine X_move rfl rfl rfl rfl ?_
                                  refine X_move rfl rfl rfl rfl ?_
                                  refine X_cmp rfl rfl rfl rfl rfl rfl ?_
                                  refine X_pick rfl rfl rfl rfl rfl ?_
                                  refine X_move rfl rfl rfl rfl ?_
                                  refine XD_part 105 rfl (fun hc19 => ?_) (fun hc19 => ?_)
                                  · first | replace hc19 := dT hc19 | replace hc19 := dF hc19 | replace hc19 := nT hc19 | replace hc19 := nF hc19 | skip
                                    first | (exfalso; omega) | (exfalso; simp [eqX] at hc19; done)
                                  · first | replace hc19 := dT hc19 | replace hc19 := dF hc19 | replace hc19 := nT hc19 | replace hc19 := nF hc19 | skip
                                    first
                                    | (exfalso; omega)
                                    | (exfalso; simp [eqX] at hc19; done)
                                    | skip
                                      refine X_move rfl rfl rfl rfl ?_
                                      refine X_move rfl rfl rfl rfl ?_
                                      refine X_cmp rfl rfl rfl rfl rfl rfl ?_
                                      refine X_pick rfl rfl rfl rfl rfl ?_
                                      refine X_move rfl rfl rfl rfl ?_
                                      refine XD_part 110 rfl (fun hc20 => ?_) (fun hc20 => ?_)
                                      · first | replace hc20 := dT hc20 | replace hc20 := dF hc20 | replace hc20 := nT hc20 | replace hc20 := nF hc20 | skip
                                        first | (exfalso; omega) | (exfalso; simp [eqX] at hc20; done)
                                      · first | replace hc20 := dT hc20 | replace hc20 := dF hc20 | replace hc20 := nT hc20 | replace hc20 := nF hc20 | skip
                                        first
                                        | (exfalso; omega)
                                        | (exfalso; simp [eqX] at hc20; done)
                                        | skip
                                          refine X_move rfl rfl rfl rfl ?_
                                          refine X_fo rfl rfl F.ok11 rfl (Size_ok _ b 60 _ _ _ (by first | exact hb4 | exact hb2)) (by repeat first | exact Rem.here _ | apply Rem.skip | apply Rem.over) (putE_some rfl) ?_
                                          rintro _ M1 _ ⟨hM1, rfl⟩; subst M1
                                          refine X_move rfl rfl rfl rfl ?_
                                          refine X_len_sl rfl rfl rfl rfl F.elem22 rfl ?_
                                          refine X_ari rfl rfl rfl rfl rfl (by first | exact wrap_in (by decide) (by omega) | rfl) rfl ?_
                                          refine X_cmp rfl rfl rfl rfl rfl rfl ?_
                                          refine X_pick rfl rfl rfl rfl rfl ?_
                                          refine X_pick rfl rfl rfl rfl rfl ?_
                                          refine X_pick rfl rfl rfl rfl rfl ?_
                                          refine X_move rfl rfl rfl rfl ?_
                                          refine XD_part 120 rfl (fun hc21 => ?_) (fun hc21 => ?_)
                                          · first | replace hc21 := dT hc21 | replace hc21 := dF hc21 | replace hc21 := nT hc21 | replace hc21 := nF hc21 | skip
                                            first | (exfalso; omega) | (exfalso; simp [eqX] at hc21; done)
                                          · first | replace hc21 := dT hc21 | replace hc21 := dF hc21 | replace hc21 := nT hc21 | replace hc21 := nF hc21 | skip
                                            first
                                            | (exfalso; omega)
                                            | (exfalso; simp [eqX] at hc21; done)
                                            | skip
                                              refine X_move rfl rfl rfl rfl ?_
                                              refine X_cmp rfl rfl rfl rfl rfl rfl ?_
                                              refine X_move rfl rfl rfl rfl ?_
                                              refine XD_part 123 rfl (fun hc22 => ?_) (fun hc22 => ?_)
                                              · first | replace hc22 := dT hc22 | replace hc22 := dF hc22 | replace hc22 := nT hc22 | replace hc22 := nF hc22 | skip
                                                first
                                                | (exfalso; omega)
                                                | (exfalso; simp [eqX] at hc22; done)
                                                | skip
                                                  refine X_move rfl rfl rfl rfl ?_
                                                  refine X_fo rfl rfl F.ok11 rfl (Size_ok _ b 60 _ _ _ (by first | exact hb4 | exact hb2)) (by repeat first | exact Rem.here _ | apply Rem.skip | apply Rem.over) (putE_some rfl) ?_
                                                  rintro _ M1 _ ⟨hM1, rfl⟩; subst M1
                                                  refine X_move rfl rfl rfl rfl ?_
                                                  refine X_len_sl rfl rfl rfl rfl F.elem22 rfl ?_
                                                  refine X_cmp rfl rfl rfl rfl rfl rfl ?_
                                                  refine X_pick rfl rfl rfl rfl rfl ?_
                                                  refine X_pick rfl rfl rfl rfl rfl ?_
                                                  refine XD_end ?_
                                                  refine K_then ?_
                                                  refine C_pick (.cons (k := 130) rfl (.cons (k := 12) rfl (.cons (k := 11) rfl (.cons (k := 9) rfl (.cons (k := 7) rfl (.cons (k := 6) rfl (.cons (k := 1) rfl .nil))))))) ?_
                                                  refine C_cond rfl (fun hc23 => ?_) (fun hc23 => ?_)
                                                  · first | replace hc23 := dT hc23 | replace hc23 := dF hc23 | replace hc23 := nT hc23 | replace hc23 := nF hc23 | skip
                                                    first | (exfalso; omega) | (exfalso; simp [eqX] at hc23; done)
                                                  · first | replace hc23 := dT hc23 | replace hc23 := dF hc23 | replace hc23 := nT hc23 | replace hc23 := nF hc23 | skip
                                                    first
                                                    | (exfalso; omega)
                                                    | (exfalso; simp [eqX] at hc23; done)
                                                    | skip
                                                      refine C_skip ?_
                                                      refine K_then ?_
                                                      refine C_pick (.cons (k := 12) rfl (.cons (k := 11) rfl (.cons (k := 9) rfl (.cons (k := 7) rfl (.cons (k := 6) rfl (.cons (k := 1) rfl .nil)))))) ?_
                                                      refine C_seq ?_
                                                      refine C_seq ?_
                                                      refine C_region (l := [0, 1, 2, 3, 4, 5, 6, 7]) rfl ?_
                                                      refine X_move rfl rfl rfl rfl ?_
                                                      refine X_cmp rfl rfl rfl rfl rfl rfl ?_
                                                      refine X_move rfl rfl rfl rfl ?_
                                                      refine XD_part 133 rfl (fun hc24 => ?_) (fun hc24 => ?_)
                                                      · first | replace hc24 := dT hc24 | replace hc24 := dF hc24 | replace hc24 := nT hc24 | replace hc24 := nF hc24 | skip
                                                        first
                                                        | (exfalso; omega)
                                                        | (exfalso; simp [eqX] at hc24; done)
                                                        | skip
                                                          first | refine X_fieldAddr rfl rfl rfl F.foff28_1 rfl ?_ | refine X_fieldAddr_el rfl rfl rfl (by first | exact ⟨_, _, rfl⟩ | assumption | exact SlM.plain (by assumption) (by simp; omega) | exact RdS.plain (by assumption) (by simp; omega) | exact OSl.plain (by assumption) (by simp; omega)) F.foff28_1 rfl ?_
                                                          first | refine X_load rfl rfl rfl (by repeat first | exact List.Mem.head _ | refine List.Mem.tail _ ?_ | refine List.mem_append_right _ ?_) F.lay3 rfl rfl rfl ?_ | refine X_load_el rfl rfl rfl (by first | assumption | exact SlM.mono (by assumption) (by assumption)) (by first | exact row_map (by omega) | exact List.getElem?_eq_getElem (by omega)) F.lay3 rfl rfl rfl ?_ | refine X_load_rd rfl rfl rfl (by assumption) (by first | exact row_map (by omega) | exact List.getElem?_eq_getElem (by omega)) F.lay3 rfl rfl rfl ?_ | refine X_load_mem rfl rfl rfl (by first | assumption | exact Mem.get_of (by assumption) (by repeat first | assumption | refine Mem.le.trans (by assumption) ?_)) F.lay3 rfl rfl rfl ?_ | refine X_load_osl rfl rfl rfl (by assumption) (by repeat first | exact Rem.here _ | apply Rem.skip | apply Rem.over) (by first | exact row_map (by omega) | exact List.getElem?_eq_getElem (by omega)) F.lay3 rfl rfl rfl ?_
                                                          refine X_move rfl rfl rfl rfl ?_
                                                          refine X_cmp rfl rfl rfl rfl rfl rfl ?_
                                                          refine X_pick rfl rfl rfl rfl rfl ?_
                                                          refine XD_end ?_
                                                          refine K_then ?_
                                                          refine C_pick (.cons (k := 138) rfl (.cons (k := 9) rfl (.cons (k := 7) rfl (.cons (k := 6) rfl (.cons (k := 1) rfl .nil))))) ?_
                                                          refine C_cond rfl (fun hc25 => ?_) (fun hc25 => ?_)
                                                          · first | replace hc25 := dT hc25 | replace hc25 := dF hc25 | replace hc25 := nT hc25 | replace hc25 := nF hc25 | skip
                                                            first
                                                            | (exfalso; omega)
                                                            | (exfalso; simp [eqX] at hc25; done)
                                                            | skip
                                                              refine C_region (l := [0, 1, 2]) rfl ?_
                                                              refine X_move rfl rfl rfl rfl ?_
                                                              refine X_ari rfl rfl rfl rfl rfl (by first | exact wrap_in (by decide) (by omega) | rfl) rfl ?_
                                                              refine X_assign rfl rfl rfl rfl ?_
                                                              refine XD_end ?_
                                                              refine K_then ?_
                                                              refine C_pick (.cons (k := 9) rfl (.cons (k := 7) rfl (.cons (k := 6) rfl (.cons (k := 1) rfl .nil)))) ?_
                                                              refine C_seq ?_
                                                              refine C_region (l := [0, 1, 2]) rfl ?_
                                                              refine X_move rfl rfl rfl rfl ?_
                                                              refine X_fo rfl rfl F.ok11 rfl (Size_ok _ b 60 _ _ _ (by first | exact hb4 | exact hb2)) (by repeat first | exact Rem.here _ | apply Rem.skip | apply Rem.over) (putE_some rfl) ?_
                                                              rintro _ M1 _ ⟨hM1, rfl⟩; subst M1
                                                              refine X_assign rfl rfl rfl rfl ?_
                                                              refine XD_end ?_
                                                              refine K_then ?_
                                                              refine C_pick (.cons (k := 18) rfl (.cons (k := 9) rfl (.cons (k := 7) rfl (.cons (k := 6) rfl (.cons (k := 1) rfl .nil))))) ?_
                                                              refine C_seq ?_
                                                              refine C_region (l := [0, 1, 2, 3]) rfl ?_
                                                              refine X_move rfl rfl rfl rfl ?_
                                                              refine X_move rfl rfl rfl rfl ?_
                                                              refine X_fo rfl rfl F.ok17 rfl (To_ok _ b 60 _ _ _ addr (by first | exact hb4 | exact hb2)) (by repeat first | exact Rem.here _ | apply Rem.skip | apply Rem.over) (putE_some rfl) ?_
                                                              rintro _ M5 hm5 ⟨ad5, c5, rfl, hsl5⟩
                                                              refine X_assign rfl rfl rfl rfl ?_
                                                              refine XD_end ?_
                                                              refine K_then ?_
                                                              refine C_pick (.cons (k := 19) rfl (.cons (k := 18) rfl (.cons (k := 9) rfl (.cons (k := 7) rfl (.cons (k := 6) rfl (.cons (k := 1) rfl .nil)))))) ?_
                                                              refine C_seq ?_
                                                              refine C_regionR (l := [0, 1, 2, 3]) (Hin := Hb2) (by repeat first | exact Rem.here _ | apply Rem.skip | apply Rem.over) rfl ?_
                                                              refine X_move rfl rfl rfl rfl ?_
                                                              refine X_move rfl rfl rfl rfl ?_
                                                              refine X_fhR rfl rfl F.ok18 rfl (Lose_ok _ b 60 _ _ _ addr (by first | exact hb4 | exact hb2)) (by repeat first | exact Rem.here _ | apply Rem.skip | apply Rem.over) (fun _ _ _ hm hw => (hw.lower (by first | exact hm | exact Mem.le.trans (by assumption) hm)).cnt (by intro zz; first | exact Nat.le_refl _ | (simp only [cnt_app, cnt_cons, cnt_nil, cat, List.append_assoc, List.cons_append, List.nil_append]; omega))) (putE_some rfl) ?_
                                                              rintro _ M4 Hb4 hm4 ⟨rfl, hb4⟩
                                                              refine X_assign rfl rfl rfl rfl ?_
                                                              refine XD_end ?_
                                                              refine K_then ?_
                                                              refine C_pick (.cons (k := 20) rfl (.cons (k := 19) rfl (.cons (k := 18) rfl (.cons (k := 9) rfl (.cons (k := 7) rfl (.cons (k := 6) rfl (.cons (k := 1) rfl .nil))))))) ?_
                                                              refine C_seq ?_
                                                              refine C_regionR (l := [0, 1, 2, 3, 4, 5, 6, 7, 8, 9, 10, 11, 12, 13, 14, 15, 16, 17, 18, 19, 20, 21, 22, 23, 24, 25, 26, 27, 28, 29, 30, 31, 32, 33]) (Hin := Hb4) (by repeat first | exact Rem.here _ | apply Rem.skip | apply Rem.over) rfl ?_
                                                              refine X_fs rfl rfl F.ok10 rfl (packed_ok _) rfl ?_
                                                              rintro _ rfl
                                                              refine X_move rfl rfl rfl rfl ?_
                                                              refine XD_part 150 rfl (fun hc26 => ?_) (fun hc26 => ?_)
                                                              · first | replace hc26 := dT hc26 | replace hc26 := dF hc26 | replace hc26 := nT hc26 | replace hc26 := nF hc26 | skip
                                                                first
                                                                | (exfalso; omega)
                                                                | (exfalso; simp [eqX] at hc26; done)
                                                                | skip
                                                                  refine X_move rfl rfl rfl rfl ?_
                                                                  refine X_len_sl rfl rfl rfl rfl F.elem47 rfl ?_
                                                                  refine X_move rfl rfl rfl rfl ?_
                                                                  refine X_cmp rfl rfl rfl rfl rfl rfl ?_
                                                                  refine X_pick rfl rfl rfl rfl rfl ?_
                                                                  refine X_move rfl rfl rfl rfl ?_
                                                                  refine XD_part 156 rfl (fun hc27 => ?_) (fun hc27 => ?_)
                                                                  · first | replace hc27 := dT hc27 | replace hc27 := dF hc27 | replace hc27 := nT hc27 | replace hc27 := nF hc27 | skip
                                                                    first
                                                                    | (exfalso; omega)
                                                                    | (exfalso; simp [eqX] at hc27; done)
                                                                    | skip
                                                                      refine X_move rfl rfl rfl rfl ?_
                                                                      refine X_move rfl rfl rfl rfl ?_
                                                                      refine X_cmp rfl rfl rfl rfl rfl rfl ?_
                                                                      refine X_pick rfl rfl rfl rfl rfl ?_
                                                                      refine X_move rfl rfl rfl rfl ?_
                                                                      refine XD_part 161 rfl (fun hc28 => ?_) (fun hc28 => ?_)
                                                                      · first | replace hc28 := dT hc28 | replace hc28 := dF hc28 | replace hc28 := nT hc28 | replace hc28 := nF hc28 | skip
                                                                        first
                                                                        | (exfalso; omega)
                                                                        | (exfalso; simp [eqX] at hc28; done)
                                                                        | skip
                                                                          refine X_move rfl rfl rfl rfl ?_
                                                                          refine X_fo rfl rfl F.ok11 rfl (Size_ok _ b 60 _ _ _ (by first | exact hb4 | exact hb2)) (by repeat first | exact Rem.here _ | apply Rem.skip | apply Rem.over) (putE_some rfl) ?_
                                                                          rintro _ M1 _ ⟨hM1, rfl⟩; subst M1
                                                                          refine X_move rfl rfl rfl rfl ?_
                                                                          refine X_move rfl rfl rfl rfl ?_
                                                                          refine X_ari rfl rfl rfl rfl rfl (by first | exact wrap_in (by decide) (by omega) | rfl) rfl ?_
                                                                          refine X_cmp rfl rfl rfl rfl rfl rfl ?_
                                                                          refine X_pick rfl rfl rfl rfl rfl ?_
                                                                          refine X_move rfl rfl rfl rfl ?_
                                                                          refine XD_part 169 rfl (fun hc29 => ?_) (fun hc29 => ?_)
                                                                          · first | replace hc29 := dT hc29 | replace hc29 := dF hc29 | replace hc29 := nT hc29 | replace hc29 := nF hc29 | skip
                                                                            first
                                                                            | (exfalso; omega)
                                                                            | (exfalso; simp [eqX] at hc29; done)
                                                                            | skip
                                                                              refine X_move rfl rfl rfl rfl ?_
                                                                              refine X_move rfl rfl rfl rfl ?_
                                                                              refine X_fo rfl rfl F.ok17 rfl (To_ok _ b 60 _ _ _ addr (by first | exact hb4 | exact hb2)) (by repeat first | exact Rem.here _ | apply Rem.skip | apply Rem.over) (putE_some rfl) ?_
                                                                              rintro _ M5 hm5 ⟨ad5, c5, rfl, hsl5⟩
                                                                              refine X_len_sl rfl rfl rfl rfl F.elem47 rfl ?_
                                                                              refine X_cmp rfl rfl rfl rfl rfl rfl ?_
                                                                              refine X_pick rfl rfl rfl rfl rfl ?_
                                                                              refine X_move rfl rfl rfl rfl ?_
                                                                              refine XD_part 176 rfl (fun hc30 => ?_) (fun hc30 => ?_)
                                                                              · first | replace hc30 := dT hc30 | replace hc30 := dF hc30 | replace hc30 := nT hc30 | replace hc30 := nF hc30 | skip
                                                                                first
                                                                                | (exfalso; omega)
                                                                                | (exfalso; simp [eqX] at hc30; done)
                                                                                | skip
                                                                                  refine X_move rfl rfl rfl rfl ?_
                                                                                  refine X_move rfl rfl rfl rfl ?_
                                                                                  refine X_fhR rfl rfl F.ok18 rfl (Lose_ok _ b 60 _ _ _ addr (by first | exact hb4 | exact hb2)) (by repeat first | exact Rem.here _ | apply Rem.skip | apply Rem.over) (fun _ _ _ hm hw => (hw.lower (by first | exact hm | exact Mem.le.trans (by assumption) hm)).cnt (by intro zz; first | exact Nat.le_refl _ | (simp only [cnt_app, cnt_cons, cnt_nil, cat, List.append_assoc, List.cons_append, List.nil_append]; omega))) (putE_some rfl) ?_
                                                                                  rintro _ M6 Hb6 hm6 ⟨rfl, hb6⟩
                                                                                  refine X_cmp rfl rfl rfl rfl rfl rfl ?_
                                                                                  refine X_pick rfl rfl rfl rfl rfl ?_
                                                                                  refine X_assign rfl rfl rfl rfl ?_
                                                                                  refine XD_end ?_
                                                                                  refine K_then ?_
                                                                                  refine C_pick (.cons (k := 6) rfl .nil) ?_
                                                                                  refine C_ret ?_
                                                                                  refine K_end (.inr rfl) (.tmp rfl .nil) (fun w hw => ?_)
                                                                                  refine ⟨_, _, rfl, ?_, hw.cnt (by intro zz; first | exact Nat.le_refl _ | (simp only [cnt_app, cnt_cons, cnt_nil, cat, List.append_assoc, List.cons_append, List.nil_append]; omega)), ?_⟩
                                                                                  · exact (by first | exact Mem.le.refl _ | (repeat first | assumption | refine Mem.le.trans (by assumption) ?_))
                                                                                  · first | rfl | exact congrArg Value.bool (decide_eq_true (by omega)) | (simp [resV]; omega)
                                                                              · first | replace hc30 := dT hc30 | replace hc30 := dF hc30 | replace hc30 := nT hc30 | replace hc30 := nF hc30 | skip
                                                                                first | (exfalso; omega) | (exfalso; simp [eqX] at hc30; done)
                                                                          · first | replace hc29 := dT hc29 | replace hc29 := dF hc29 | replace hc29 := nT hc29 | replace hc29 := nF hc29 | skip
                                                                            first | (exfalso; omega) | (exfalso; simp [eqX] at hc29; done)
                                                                      · first | replace hc28 := dT hc28 | replace hc28 := dF hc28 | replace hc28 := nT hc28 | replace hc28 := nF hc28 | skip
                                                                        first | (exfalso; omega) | (exfalso; simp [eqX] at hc28; done)
                                                                  · first | replace hc27 := dT hc27 | replace hc27 := dF hc27 | replace hc27 := nT hc27 | replace hc27 := nF hc27 | skip
                                                                    first | (exfalso; omega) | (exfalso; simp [eqX] at hc27; done)
                                                              · first | replace hc26 := dT hc26 | replace hc26 := dF hc26 | replace hc26 := nT hc26 | replace hc26 := nF hc26 | skip
                                                                first | (exfalso; omega) | (exfalso; simp [eqX] at hc26; done)
                                                          · first | replace hc25 := dT hc25 | replace hc25 := dF hc25 | replace hc25 := nT hc25 | replace hc25 := nF hc25 | skip
                                                            first
                                                            | (exfalso; omega)
                                                            | (exfalso; simp [eqX] at hc25; done)
                                                            | skip
                                                              refine C_skip ?_
                                                              refine K_then ?_
                                                              refine C_pick (.cons (k := 9) rfl (.cons (k := 7) rfl (.cons (k := 6) rfl (.cons (k := 1) rfl .nil)))) ?_
                                                              refine C_seq ?_
                                                              refine C_region (l := [0, 1, 2]) rfl ?_
                                                              refine X_move rfl rfl rfl rfl ?_
                                                              refine X_fo rfl rfl F.ok11 rfl (Size_ok _ b 60 _ _ _ (by first | exact hb4 | exact hb2)) (by repeat first | exact Rem.here _ | apply Rem.skip | apply Rem.over) (putE_some rfl) ?_
                                                              rintro _ M1 _ ⟨hM1, rfl⟩; subst M1
                                                              refine X_assign rfl rfl rfl rfl ?_
                                                              refine XD_end ?_
                                                              refine K_then ?_
                                                              refine C_pick (.cons (k := 18) rfl (.cons (k := 9) rfl (.cons (k := 7) rfl (.cons (k := 6) rfl (.cons (k := 1) rfl .nil))))) ?_
                                                              refine C_seq ?_
                                                              refine C_region (l := [0, 1, 2, 3]) rfl ?_
                                                              refine X_move rfl rfl rfl rfl ?_
                                                              refine X_move rfl rfl rfl rfl ?_
                                                              refine X_fo rfl rfl F.ok17 rfl (To_ok _ b 60 _ _ _ addr (by first | exact hb4 | exact hb2)) (by repeat first | exact Rem.here _ | apply Rem.skip | apply Rem.over) (putE_some rfl) ?_
                                                              rintro _ M5 hm5 ⟨ad5, c5, rfl, hsl5⟩
                                                              refine X_assign rfl rfl rfl rfl ?_
                                                              refine XD_end ?_
                                                              refine K_then ?_
                                                              refine C_pick (.cons (k := 19) rfl (.cons (k := 18) rfl (.cons (k := 9) rfl (.cons (k := 7) rfl (.cons (k := 6) rfl (.cons (k := 1) rfl .nil)))))) ?_
                                                              refine C_seq ?_
                                                              refine C_regionR (l := [0, 1, 2, 3]) (Hin := Hb2) (by repeat first | exact Rem.here _ | apply Rem.skip | apply Rem.over) rfl ?_
                                                              refine X_move rfl rfl rfl rfl ?_
                                                              refine X_move rfl rfl rfl rfl ?_
                                                              refine X_fhR rfl rfl F.ok18 rfl (Lose_ok _ b 60 _ _ _ addr (by first | exact hb4 | exact hb2)) (by repeat first | exact Rem.here _ | apply Rem.skip | apply Rem.over) (fun _ _ _ hm hw => (hw.lower (by first | exact hm | exact Mem.le.trans (by assumption) hm)).cnt (by intro zz; first | exact Nat.le_refl _ | (simp only [cnt_app, cnt_cons, cnt_nil, cat, List.append_assoc, List.cons_append, List.nil_append]; omega))) (putE_some rfl) ?_
                                                              rintro _ M4 Hb4 hm4 ⟨rfl, hb4⟩
                                                              refine X_assign rfl rfl rfl rfl ?_
                                                              refine XD_end ?_
                                                              refine K_then ?_
                                                              refine C_pick (.cons (k := 20) rfl (.cons (k := 19) rfl (.cons (k := 18) rfl (.cons (k := 9) rfl (.cons (k := 7) rfl (.cons (k := 6) rfl (.cons (k := 1) rfl .nil))))))) ?_
                                                              refine C_seq ?_
                                                              refine C_regionR (l := [0, 1, 2, 3, 4, 5, 6, 7, 8, 9, 10, 11, 12, 13, 14, 15, 16, 17, 18, 19, 20, 21, 22, 23, 24, 25, 26, 27, 28, 29, 30, 31, 32, 33]) (Hin := Hb4) (by repeat first | exact Rem.here _ | apply Rem.skip | apply Rem.over) rfl ?_
                                                              refine X_fs rfl rfl F.ok10 rfl (packed_ok _) rfl ?_
                                                              rintro _ rfl
                                                              refine X_move rfl rfl rfl rfl ?_
                                                              refine XD_part 150 rfl (fun hc31 => ?_) (fun hc31 => ?_)
                                                              · first | replace hc31 := dT hc31 | replace hc31 := dF hc31 | replace hc31 := nT hc31 | replace hc31 := nF hc31 | skip
                                                                first
                                                                | (exfalso; omega)
                                                                | (exfalso; simp [eqX] at hc31; done)
                                                                | skip
                                                                  refine X_move rfl rfl rfl rfl ?_
                                                                  refine X_len_sl rfl rfl rfl rfl F.elem47 rfl ?_
                                                                  refine X_move rfl rfl rfl rfl ?_
                                                                  refine X_cmp rfl rfl rfl rfl rfl rfl ?_
                                                                  refine X_pick rfl rfl rfl rfl rfl ?_
                                                                  refine X_move rfl rfl rfl rfl ?_
                                                                  refine XD_part 156 rfl (fun hc32 => ?_) (fun hc32 => ?_)
                                                                  · first | replace hc32 := dT hc32 | replace hc32 := dF hc32 | replace hc32 := nT hc32 | replace hc32 := nF hc32 | skip
                                                                    first
                                                                    | (exfalso; omega)
                                                                    | (exfalso; simp [eqX] at hc32; done)
                                                                    | skip
                                                                      refine X_move rfl rfl rfl rfl ?_
                                                                      refine X_move rfl rfl rfl rfl ?_
                                                                      refine X_cmp rfl rfl rfl rfl rfl rfl ?_
                                                                      refine X_pick rfl rfl rfl rfl rfl ?_
                                                                      refine X_move rfl rfl rfl rfl ?_
                                                                      refine XD_part 161 rfl (fun hc33 => ?_) (fun hc33 => ?_)
                                                                      · first | replace hc33 := dT hc33 | replace hc33 := dF hc33 | replace hc33 := nT hc33 | replace hc33 := nF hc33 | skip
                                                                        first
                                                                        | (exfalso; omega)
                                                                        | (exfalso; simp [eqX] at hc33; done)
                                                                        | skip
                                                                          refine X_move rfl rfl rfl rfl ?_
                                                                          refine X_fo rfl rfl F.ok11 rfl (Size_ok _ b 60 _ _ _ (by first | exact hb4 | exact hb2)) (by repeat first | exact Rem.here _ | apply Rem.skip | apply Rem.over) (putE_some rfl) ?_
                                                                          rintro _ M1 _ ⟨hM1, rfl⟩; subst M1
                                                                          refine X_move rfl rfl rfl rfl ?_
                                                                          refine X_move rfl rfl rfl rfl ?_
                                                                          refine X_ari rfl rfl rfl rfl rfl (by first | exact wrap_in (by decide) (by omega) | rfl) rfl ?_
                                                                          refine X_cmp rfl rfl rfl rfl rfl rfl ?_
                                                                          refine X_pick rfl rfl rfl rfl rfl ?_
                                                                          refine X_move rfl rfl rfl rfl ?_
                                                                          refine XD_part 169 rfl (fun hc34 => ?_) (fun hc34 => ?_)
                                                                          · first | replace hc34 := dT hc34 | replace hc34 := dF hc34 | replace hc34 := nT hc34 | replace hc34 := nF hc34 | skip
                                                                            first
                                                                            | (exfalso; omega)
                                                                            | (exfalso; simp [eqX] at hc34; done)
                                                                            | skip
                                                                              refine X_move rfl rfl rfl rfl ?_
                                                                              refine X_move rfl rfl rfl rfl ?_
                                                                              refine X_fo rfl rfl F.ok17 rfl (To_ok _ b 60 _ _ _ addr (by first | exact hb4 | exact hb2)) (by repeat first | exact Rem.here _ | apply Rem.skip | apply Rem.over) (putE_some rfl) ?_
                                                                              rintro _ M5 hm5 ⟨ad5, c5, rfl, hsl5⟩
                                                                              refine X_len_sl rfl rfl rfl rfl F.elem47 rfl ?_
                                                                              refine X_cmp rfl rfl rfl rfl rfl rfl ?_
                                                                              refine X_pick rfl rfl rfl rfl rfl ?_
                                                                              refine X_move rfl rfl rfl rfl ?_
                                                                              refine XD_part 176 rfl (fun hc35 => ?_) (fun hc35 => ?_)
                                                                              · first | replace hc35 := dT hc35 | replace hc35 := dF hc35 | replace hc35 := nT hc35 | replace hc35 := nF hc35 | skip
                                                                                first
                                                                                | (exfalso; omega)
                                                                                | (exfalso; simp [eqX] at hc35; done)
                                                                                | skip
                                                                                  refine X_move rfl rfl rfl rfl ?_
                                                                                  refine X_move rfl rfl rfl rfl ?_
                                                                                  refine X_fhR rfl rfl F.ok18 rfl (Lose_ok _ b 60 _ _ _ addr (by first | exact hb4 | exact hb2)) (by repeat first | exact Rem.here _ | apply Rem.skip | apply Rem.over) (fun _ _ _ hm hw => (hw.lower (by first | exact hm | exact Mem.le.trans (by assumption) hm)).cnt (by intro zz; first | exact Nat.le_refl _ | (simp only [cnt_app, cnt_cons, cnt_nil, cat, List.append_assoc, List.cons_append, List.nil_append]; omega))) (putE_some rfl) ?_
                                                                                  rintro _ M6 Hb6 hm6 ⟨rfl, hb6⟩
                                                                                  refine X_cmp rfl rfl rfl rfl rfl rfl ?_
                                                                                  refine X_pick rfl rfl rfl rfl rfl ?_
                                                                                  refine X_assign rfl rfl rfl rfl ?_
                                                                                  refine XD_end ?_
                                                                                  refine K_then ?_
                                                                                  refine C_pick (.cons (k := 6) rfl .nil) ?_
                                                                                  refine C_ret ?_
                                                                                  refine K_end (.inr rfl) (.tmp rfl .nil) (fun w hw => ?_)
                                                                                  refine ⟨_, _, rfl, ?_, hw.cnt (by intro zz; first | exact Nat.le_refl _ | (simp only [cnt_app, cnt_cons, cnt_nil, cat, List.append_assoc, List.cons_append, List.nil_append]; omega)), ?_⟩
                                                                                  · exact (by first | exact Mem.le.refl _ | (repeat first | assumption | refine Mem.le.trans (by assumption) ?_))
                                                                                  · first | rfl | exact congrArg Value.bool (decide_eq_true (by omega)) | (simp [resV]; omega)
                                                                              · first | replace hc35 := dT hc35 | replace hc35 := dF hc35 | replace hc35 := nT hc35 | replace hc35 := nF hc35 | skip
                                                                                first | (exfalso; omega) | (exfalso; simp [eqX] at hc35; done)
                                                                          · first | replace hc34 := dT hc34 | replace hc34 := dF hc34 | replace hc34 := nT hc34 | replace hc34 := nF hc34 | skip
                                                                            first | (exfalso; omega) | (exfalso; simp [eqX] at hc34; done)
                                                                      · first | replace hc33 := dT hc33 | replace hc33 := dF hc33 | replace hc33 := nT hc33 | replace hc33 := nF hc33 | skip
                                                                        first | (exfalso; omega) | (exfalso; simp [eqX] at hc33; done)
                                                                  · first | replace hc32 := dT hc32 | replace hc32 := dF hc32 | replace hc32 := nT hc32 | replace hc32 := nF hc32 | skip
                                                                    first | (exfalso; omega) | (exfalso; simp [eqX] at hc32; done)
                                                              · first | replace hc31 := dT hc31 | replace hc31 := dF hc31 | replace hc31 := nT hc31 | replace hc31 := nF hc31 | skip
                                                                first | (exfalso; omega) | (exfalso; simp [eqX] at hc31; done)
                                                      · first | replace hc24 := dT hc24 | replace hc24 := dF hc24 | replace hc24 := nT hc24 | replace hc24 := nF hc24 | skip
                                                        first
                                                        | (exfalso; omega)
                                                        | (exfalso; simp [eqX] at hc24; done)
                                                        | skip
                                                          refine X_skip rfl rfl rfl ?_
                                                          refine X_skip rfl rfl rfl ?_
                                                          refine X_skip rfl rfl rfl ?_
                                                          refine X_skip rfl rfl rfl ?_
                                                          refine X_pick rfl rfl rfl rfl rfl ?_
                                                          refine XD_end ?_
                                                          refine K_then ?_
                                                          refine C_pick (.cons (k := 138) rfl (.cons (k := 9) rfl (.cons (k := 7) rfl (.cons (k := 6) rfl (.cons (k := 1) rfl .nil))))) ?_
                                                          refine C_false rfl ?_
                                                          refine C_skip ?_
                                                          refine K_then ?_
                                                          refine C_pick (.cons (k := 9) rfl (.cons (k := 7) rfl (.cons (k := 6) rfl (.cons (k := 1) rfl .nil)))) ?_
                                                          refine C_seq ?_
                                                          refine C_region (l := [0, 1, 2]) rfl ?_
                                                          refine X_move rfl rfl rfl rfl ?_
                                                          refine X_fo rfl rfl F.ok11 rfl (Size_ok _ b 60 _ _ _ (by first | exact hb4 | exact hb2)) (by repeat first | exact Rem.here _ | apply Rem.skip | apply Rem.over) (putE_some rfl) ?_
                                                          rintro _ M1 _ ⟨hM1, rfl⟩; subst M1
                                                          refine X_assign rfl rfl rfl rfl ?_
                                                          refine XD_end ?_
                                                          refine K_then ?_
                                                          refine C_pick (.cons (k := 18) rfl (.cons (k := 9) rfl (.cons (k := 7) rfl (.cons (k := 6) rfl (.cons (k := 1) rfl .nil))))) ?_
                                                          refine C_seq ?_
                                                          refine C_region (l := [0, 1, 2, 3]) rfl ?_
                                                          refine X_move rfl rfl rfl rfl ?_
                                                          refine X_move rfl rfl rfl rfl ?_
                                                          refine X_fo rfl rfl F.ok17 rfl (To_ok _ b 60 _ _ _ addr (by first | exact hb4 | exact hb2)) (by repeat first | exact Rem.here _ | apply Rem.skip | apply Rem.over) (putE_some rfl) ?_
                                                          rintro _ M5 hm5 ⟨ad5, c5, rfl, hsl5⟩
                                                          refine X_assign rfl rfl rfl rfl ?_
                                                          refine XD_end ?_
                                                          refine K_then ?_
                                                          refine C_pick (.cons (k := 19) rfl (.cons (k := 18) rfl (.cons (k := 9) rfl (.cons (k := 7) rfl (.cons (k := 6) rfl (.cons (k := 1) rfl .nil)))))) ?_
                                                          refine C_seq ?_
                                                          refine C_regionR (l := [0, 1, 2, 3]) (Hin := Hb2) (by repeat first | exact Rem.here _ | apply Rem.skip | apply Rem.over) rfl ?_
                                                          refine X_move rfl rfl rfl rfl ?_
                                                          refine X_move rfl rfl rfl rfl ?_
                                                          refine X_fhR rfl rfl F.ok18 rfl (Lose_ok _ b 60 _ _ _ addr (by first | exact hb4 | exact hb2)) (by repeat first | exact Rem.here _ | apply Rem.skip | apply Rem.over) (fun _ _ _ hm hw => (hw.lower (by first | exact hm | exact Mem.le.trans (by assumption) hm)).cnt (by intro zz; first | exact Nat.le_refl _ | (simp only [cnt_app, cnt_cons, cnt_nil, cat, List.append_assoc, List.cons_append, List.nil_append]; omega))) (putE_some rfl) ?_
                                                          rintro _ M4 Hb4 hm4 ⟨rfl, hb4⟩
                                                          refine X_assign rfl rfl rfl rfl ?_
                                                          refine XD_end ?_
                                                          refine K_then ?_
                                                          refine C_pick (.cons (k := 20) rfl (.cons (k := 19) rfl (.cons (k := 18) rfl (.cons (k := 9) rfl (.cons (k := 7) rfl (.cons (k := 6) rfl (.cons (k := 1) rfl .nil))))))) ?_
                                                          refine C_seq ?_
                                                          refine C_regionR (l := [0, 1, 2, 3, 4, 5, 6, 7, 8, 9, 10, 11, 12, 13, 14, 15, 16, 17, 18, 19, 20, 21, 22, 23, 24, 25, 26, 27, 28, 29, 30, 31, 32, 33]) (Hin := Hb4) (by repeat first | exact Rem.here _ | apply Rem.skip | apply Rem.over) rfl ?_
                                                          refine X_fs rfl rfl F.ok10 rfl (packed_ok _) rfl ?_
                                                          rintro _ rfl
                                                          refine X_move rfl rfl rfl rfl ?_
                                                          refine XD_part 150 rfl (fun hc36 => ?_) (fun hc36 => ?_)
                                                          · first | replace hc36 := dT hc36 | replace hc36 := dF hc36 | replace hc36 := nT hc36 | replace hc36 := nF hc36 | skip
                                                            first
                                                            | (exfalso; omega)
                                                            | (exfalso; simp [eqX] at hc36; done)
                                                            | skip
                                                              refine X_move rfl rfl rfl rfl ?_
                                                              refine X_len_sl rfl rfl rfl rfl F.elem47 rfl ?_
                                                              refine X_move rfl rfl rfl rfl ?_
                                                              refine X_cmp rfl rfl rfl rfl rfl rfl ?_
                                                              refine X_pick rfl rfl rfl rfl rfl ?_
                                                              refine X_move rfl rfl rfl rfl ?_
                                                              refine XD_part 156 rfl (fun hc37 => ?_) (fun hc37 => ?_)
                                                              · first | replace hc37 := dT hc37 | replace hc37 := dF hc37 | replace hc37 := nT hc37 | replace hc37 := nF hc37 | skip
                                                                first
                                                                | (exfalso; omega)
                                                                | (exfalso; simp [eqX] at hc37; done)
                                                                | skip
                                                                  refine X_move rfl rfl rfl rfl ?_
                                                                  refine X_move rfl rfl rfl rfl ?_
                                                                  refine X_cmp rfl rfl rfl rfl rfl rfl ?_
                                                                  refine X_pick rfl rfl rfl rfl rfl ?_
                                                                  refine X_move rfl rfl rfl rfl ?_
                                                                  refine XD_part 161 rfl (fun hc38 => ?_) (fun hc38 => ?_)
                                                                  · first | replace hc38 := dT hc38 | replace hc38 := dF hc38 | replace hc38 := nT hc38 | replace hc38 := nF hc38 | skip
                                                                    first
                                                                    | (exfalso; omega)
                                                                    | (exfalso; simp [eqX] at hc38; done)
                                                                    | skip
                                                                      refine X_move rfl rfl rfl rfl ?_
                                                                      refine X_fo rfl rfl F.ok11 rfl (Size_ok _ b 60 _ _ _ (by first | exact hb4 | exact hb2)) (by repeat first | exact Rem.here _ | apply Rem.skip | apply Rem.over) (putE_some rfl) ?_
                                                                      rintro _ M1 _ ⟨hM1, rfl⟩; subst M1
                                                                      refine X_move rfl rfl rfl rfl ?_
                                                                      refine X_move rfl rfl rfl rfl ?_
                                                                      refine X_ari rfl rfl rfl rfl rfl (by first | exact wrap_in (by decide) (by omega) | rfl) rfl ?_
                                                                      refine X_cmp rfl rfl rfl rfl rfl rfl ?_
                                                                      refine X_pick rfl rfl rfl rfl rfl ?_
                                                                      refine X_move rfl rfl rfl rfl ?_
                                                                      refine XD_part 169 rfl (fun hc39 => ?_) (fun hc39 => ?_)
                                                                      · first | replace hc39 := dT hc39 | replace hc39 := dF hc39 | replace hc39 := nT hc39 | replace hc39 := nF hc39 | skip
                                                                        first
                                                                        | (exfalso; omega)
                                                                        | (exfalso; simp [eqX] at hc39; done)
                                                                        | skip
                                                                          refine X_move rfl rfl rfl rfl ?_
                                                                          refine X_move rfl rfl rfl rfl ?_
                                                                          refine X_fo rfl rfl F.ok17 rfl (To_ok _ b 60 _ _ _ addr (by first | exact hb4 | exact hb2)) (by repeat first | exact Rem.here _ | apply Rem.skip | apply Rem.over) (putE_some rfl) ?_
                                                                          rintro _ M5 hm5 ⟨ad5, c5, rfl, hsl5⟩
                                                                          refine X_len_sl rfl rfl rfl rfl F.elem47 rfl ?_
                                                                          refine X_cmp rfl rfl rfl rfl rfl rfl ?_
                                                                          refine X_pick rfl rfl rfl rfl rfl ?_
                                                                          refine X_move rfl rfl rfl rfl ?_
                                                                          refine XD_part 176 rfl (fun hc40 => ?_) (fun hc40 => ?_)
                                                                          · first | replace hc40 := dT hc40 | replace hc40 := dF hc40 | replace hc40 := nT hc40 | replace hc40 := nF hc40 | skip
                                                                            first
                                                                            | (exfalso; omega)
                                                                            | (exfalso; simp [eqX] at hc40; done)
                                                                            | skip
                                                                              refine X_move rfl rfl rfl rfl ?_
                                                                              refine X_move rfl rfl rfl rfl ?_
                                                                              refine X_fhR rfl rfl F.ok18 rfl (Lose_ok _ b 60 _ _ _ addr (by first | exact hb4 | exact hb2)) (by repeat first | exact Rem.here _ | apply Rem.skip | apply Rem.over) (fun _ _ _ hm hw => (hw.lower (by first | exact hm | exact Mem.le.trans (by assumption) hm)).cnt (by intro zz; first | exact Nat.le_refl _ | (simp only [cnt_app, cnt_cons, cnt_nil, cat, List.append_assoc, List.cons_append, List.nil_append]; omega))) (putE_some rfl) ?_
                                                                              rintro _ M6 Hb6 hm6 ⟨rfl, hb6⟩
                                                                              refine X_cmp rfl rfl rfl rfl rfl rfl ?_
                                                                              refine X_pick rfl rfl rfl rfl rfl ?_
                                                                              refine X_assign rfl rfl rfl rfl ?_
                                                                              refine XD_end ?_
                                                                              refine K_then ?_
                                                                              refine C_pick (.cons (k := 6) rfl .nil) ?_
                                                                              refine C_ret ?_
                                                                              refine K_end (.inr rfl) (.tmp rfl .nil) (fun w hw => ?_)
                                                                              refine ⟨_, _, rfl, ?_, hw.cnt (by intro zz; first | exact Nat.le_refl _ | (simp only [cnt_app, cnt_cons, cnt_nil, cat, List.append_assoc, List.cons_append, List.nil_append]; omega)), ?_⟩
                                                                              · exact (by first | exact Mem.le.refl _ | (repeat first | assumption | refine Mem.le.trans (by assumption) ?_))
                                                                              · first | rfl | exact congrArg Value.bool (decide_eq_true (by omega)) | (simp [resV]; omega)
                                                                          · first | replace hc40 := dT hc40 | replace hc40 := dF hc40 | replace hc40 := nT hc40 | replace hc40 := nF hc40 | skip
                                                                            first | (exfalso; omega) | (exfalso; simp [eqX] at hc40; done)
                                                                      · first | replace hc39 := dT hc39 | replace hc39 := dF hc39 | replace hc39 := nT hc39 | replace hc39 := nF hc39 | skip
                                                                        first | (exfalso; omega) | (exfalso; simp [eqX] at hc39; done)
                                                                  · first | replace hc38 := dT hc38 | replace hc38 := dF hc38 | replace hc38 := nT hc38 | replace hc38 := nF hc38 | skip
                                                                    first | (exfalso; omega) | (exfalso; simp [eqX] at hc38; done)
                                                              · first | replace hc37 := dT hc37 | replace hc37 := dF hc37 | replace hc37 := nT hc37 | replace hc37 := nF hc37 | skip
                                                                first | (exfalso; omega) | (exfalso; simp [eqX] at hc37; done)
                                                          · first | replace hc36 := dT hc36 | replace hc36 := dF hc36 | replace hc36 := nT hc36 | replace hc36 := nF hc36 | skip
                                                            first | (exfalso; omega) | (exfalso; simp [eqX] at hc36; done)
                                              · first | replace hc22 := dT hc22 | replace hc22 := dF hc22 | replace hc22 := nT hc22 | replace hc22 := nF hc22 | skip
                                                first
                                                | (exfalso; omega)
                                                | (exfalso; simp [eqX] at hc22; done)
                                                | skip
                                                  refine X_skip rfl rfl rfl ?_
                                                  refine X_skip rfl rfl rfl ?_
                                                  refine X_skip rfl rfl rfl ?_
                                                  refine X_skip rfl rfl rfl ?_
                                                  refine X_skip rfl rfl rfl ?_
                                                  refine X_pick rfl rfl rfl rfl rfl ?_
                                                  refine X_pick rfl rfl rfl rfl rfl ?_
                                                  refine XD_end ?_
                                                  refine K_then ?_
                                                  refine C_pick (.cons (k := 130) rfl (.cons (k := 12) rfl (.cons (k := 11) rfl (.cons (k := 9) rfl (.cons (k := 7) rfl (.cons (k := 6) rfl (.cons (k := 1) rfl .nil))))))) ?_
                                                  refine C_false rfl ?_
                                                  refine C_skip ?_
                                                  refine K_then ?_
                                                  refine C_pick (.cons (k := 12) rfl (.cons (k := 11) rfl (.cons (k := 9) rfl (.cons (k := 7) rfl (.cons (k := 6) rfl (.cons (k := 1) rfl .nil)))))) ?_
                                                  refine C_seq ?_
                                                  refine C_seq ?_
                                                  refine C_region (l := [0, 1, 2, 3, 4, 5, 6, 7]) rfl ?_
                                                  refine X_move rfl rfl rfl rfl ?_
                                                  refine X_cmp rfl rfl rfl rfl rfl rfl ?_
                                                  refine X_move rfl rfl rfl rfl ?_
                                                  refine XD_part 133 rfl (fun hc41 => ?_) (fun hc41 => ?_)
                                                  · first | replace hc41 := dT hc41 | replace hc41 := dF hc41 | replace hc41 := nT hc41 | replace hc41 := nF hc41 | skip
                                                    first
                                                    | (exfalso; omega)
                                                    | (exfalso; simp [eqX] at hc41; done)
                                                    | skip
                                                      first | refine X_fieldAddr rfl rfl rfl F.foff28_1 rfl ?_ | refine X_fieldAddr_el rfl rfl rfl (by first | exact ⟨_, _, rfl⟩ | assumption | exact SlM.plain (by assumption) (by simp; omega) | exact RdS.plain (by assumption) (by simp; omega) | exact OSl.plain (by assumption) (by simp; omega)) F.foff28_1 rfl ?_
                                                      first | refine X_load rfl rfl rfl (by repeat first | exact List.Mem.head _ | refine List.Mem.tail _ ?_ | refine List.mem_append_right _ ?_) F.lay3 rfl rfl rfl ?_ | refine X_load_el rfl rfl rfl (by first | assumption | exact SlM.mono (by assumption) (by assumption)) (by first | exact row_map (by omega) | exact List.getElem?_eq_getElem (by omega)) F.lay3 rfl rfl rfl ?_ | refine X_load_rd rfl rfl rfl (by assumption) (by first | exact row_map (by omega) | exact List.getElem?_eq_getElem (by omega)) F.lay3 rfl rfl rfl ?_ | refine X_load_mem rfl rfl rfl (by first | assumption | exact Mem.get_of (by assumption) (by repeat first | assumption | refine Mem.le.trans (by assumption) ?_)) F.lay3 rfl rfl rfl ?_ | refine X_load_osl rfl rfl rfl (by assumption) (by repeat first | exact Rem.here _ | apply Rem.skip | apply Rem.over) (by first | exact row_map (by omega) | exact List.getElem?_eq_getElem (by omega)) F.lay3 rfl rfl rfl ?_
                                                      refine X_move rfl rfl rfl rfl ?_
                                                      refine X_cmp rfl rfl rfl rfl rfl rfl ?_
                                                      refine X_pick rfl rfl rfl rfl rfl ?_
                                                      refine XD_end ?_
                                                      refine K_then ?_
                                                      refine C_pick (.cons (k := 138) rfl (.cons (k := 9) rfl (.cons (k := 7) rfl (.cons (k := 6) rfl (.cons (k := 1) rfl .nil))))) ?_
                                                      refine C_cond rfl (fun hc42 => ?_) (fun hc42 => ?_)
                                                      · first | replace hc42 := dT hc42 | replace hc42 := dF hc42 | replace hc42 := nT hc42 | replace hc42 := nF hc42 | skip
                                                        first
                                                        | (exfalso; omega)
                                                        | (exfalso; simp [eqX] at hc42; done)
                                                        | skip
                                                          refine C_region (l := [0, 1, 2]) rfl ?_
                                                          refine X_move rfl rfl rfl rfl ?_
                                                          refine X_ari rfl rfl rfl rfl rfl (by first | exact wrap_in (by decide) (by omega) | rfl) rfl ?_
                                                          refine X_assign rfl rfl rfl rfl ?_
                                                          refine XD_end ?_
                                                          refine K_then ?_
                                                          refine C_pick (.cons (k := 9) rfl (.cons (k := 7) rfl (.cons (k := 6) rfl (.cons (k := 1) rfl .nil)))) ?_
                                                          refine C_seq ?_
                                                          refine C_region (l := [0, 1, 2]) rfl ?_
                                                          refine X_move rfl rfl rfl rfl ?_
                                                          refine X_fo rfl rfl F.ok11 rfl (Size_ok _ b 60 _ _ _ (by first | exact hb4 | exact hb2)) (by repeat first | exact Rem.here _ | apply Rem.skip | apply Rem.over) (putE_some rfl) ?_
                                                          rintro _ M1 _ ⟨hM1, rfl⟩; subst M1
                                                          refine X_assign rfl rfl rfl rfl ?_
                                                          refine XD_end ?_
                                                          refine K_then ?_
                                                          refine C_pick (.cons (k := 18) rfl (.cons (k := 9) rfl (.cons (k := 7) rfl (.cons (k := 6) rfl (.cons (k := 1) rfl .nil))))) ?_
                                                          refine C_seq ?_
                                                          refine C_region (l := [0, 1, 2, 3]) rfl ?_
                                                          refine X_move rfl rfl rfl rfl ?_
                                                          refine X_move rfl rfl rfl rfl ?_
                                                          refine X_fo rfl rfl F.ok17 rfl (To_ok _ b 60 _ _ _ addr (by first | exact hb4 | exact hb2)) (by repeat first | exact Rem.here _ | apply Rem.skip | apply Rem.over) (putE_some rfl) ?_
                                                          rintro _ M5 hm5 ⟨ad5, c5, rfl, hsl5⟩
                                                          refine X_assign rfl rfl rfl rfl ?_
                                                          refine XD_end ?_
                                                          refine K_then ?_
                                                          refine C_pick (.cons (k := 19) rfl (.cons (k := 18) rfl (.cons (k := 9) rfl (.cons (k := 7) rfl (.cons (k := 6) rfl (.cons (k := 1) rfl .nil)))))) ?_
                                                          refine C_seq ?_
                                                          refine C_regionR (l := [0, 1, 2, 3]) (Hin := Hb2) (by repeat first | exact Rem.here _ | apply Rem.skip | apply Rem.over) rfl ?_
                                                          refine X_move rfl rfl rfl rfl ?_
                                                          refine X_move rfl rfl rfl rfl ?_
                                                          refine X_fhR rfl rfl F.ok18 rfl (Lose_ok _ b 60 _ _ _ addr (by first | exact hb4 | exact hb2)) (by repeat first | exact Rem.here _ | apply Rem.skip | apply Rem.over) (fun _ _ _ hm hw => (hw.lower (by first | exact hm | exact Mem.le.trans (by assumption) hm)).cnt (by intro zz; first | exact Nat.le_refl _ | (simp only [cnt_app, cnt_cons, cnt_nil, cat, List.append_assoc, List.cons_append, List.nil_append]; omega))) (putE_some rfl) ?_
                                                          rintro _ M4 Hb4 hm4 ⟨rfl, hb4⟩
                                                          refine X_assign rfl rfl rfl rfl ?_
                                                          refine XD_end ?_
                                                          refine K_then ?_
                                                          refine C_pick (.cons (k := 20) rfl (.cons (k := 19) rfl (.cons (k := 18) rfl (.cons (k := 9) rfl (.cons (k := 7) rfl (.cons (k := 6) rfl (.cons (k := 1) rfl .nil))))))) ?_
                                                          refine C_seq ?_
                                                          refine C_regionR (l := [0, 1, 2, 3, 4, 5, 6, 7, 8, 9, 10, 11, 12, 13, 14, 15, 16, 17, 18, 19, 20, 21, 22, 23, 24, 25, 26, 27, 28, 29, 30, 31, 32, 33]) (Hin := Hb4) (by repeat first | exact Rem.here _ | apply Rem.skip | apply Rem.over) rfl ?_
                                                          refine X_fs rfl rfl F.ok10 rfl (packed_ok _) rfl ?_
                                                          rintro _ rfl
                                                          refine X_move rfl rfl rfl rfl ?_
                                                          refine XD_part 150 rfl (fun hc43 => ?_) (fun hc43 => ?_)
                                                          · first | replace hc43 := dT hc43 | replace hc43 := dF hc43 | replace hc43 := nT hc43 | replace hc43 := nF hc43 | skip
                                                            first
                                                            | (exfalso; omega)
                                                            | (exfalso; simp [eqX] at hc43; done)
                                                            | skip
                                                              refine X_move rfl rfl rfl rfl ?_
                                                              refine X_len_sl rfl rfl rfl rfl F.elem47 rfl ?_
                                                              refine X_move rfl rfl rfl rfl ?_
                                                              refine X_cmp rfl rfl rfl rfl rfl rfl ?_
                                                              refine X_pick rfl rfl rfl rfl rfl ?_
                                                              refine X_move rfl rfl rfl rfl ?_
                                                              refine XD_part 156 rfl (fun hc44 => ?_) (fun hc44 => ?_)
                                                              · first | replace hc44 := dT hc44 | replace hc44 := dF hc44 | replace hc44 := nT hc44 | replace hc44 := nF hc44 | skip
                                                                first
                                                                | (exfalso; omega)
                                                                | (exfalso; simp [eqX] at hc44; done)
                                                                | skip
                                                                  refine X_move rfl rfl rfl rfl ?_
                                                                  refine X_move rfl rfl rfl rfl ?_
                                                                  refine X_cmp rfl rfl rfl rfl rfl rfl ?_
                                                                  refine X_pick rfl rfl rfl rfl rfl ?_
                                                                  refine X_move rfl rfl rfl rfl ?_
                                                                  refine XD_part 161 rfl (fun hc45 => ?_) (fun hc45 => ?_)
                                                                  · first | replace hc45 := dT hc45 | replace hc45 := dF hc45 | replace hc45 := nT hc45 | replace hc45 := nF hc45 | skip
                                                                    first
                                                                    | (exfalso; omega)
                                                                    | (exfalso; simp [eqX] at hc45; done)
                                                                    | skip
                                                                      refine X_move rfl rfl rfl rfl ?_
                                                                      refine X_fo rfl rfl F.ok11 rfl (Size_ok _ b 60 _ _ _ (by first | exact hb4 | exact hb2)) (by repeat first | exact Rem.here _ | apply Rem.skip | apply Rem.over) (putE_some rfl) ?_
                                                                      rintro _ M1 _ ⟨hM1, rfl⟩; subst M1
                                                                      refine X_move rfl rfl rfl rfl ?_
                                                                      refine X_move rfl rfl rfl rfl ?_
                                                                      refine X_ari rfl rfl rfl rfl rfl (by first | exact wrap_in (by decide) (by omega) | rfl) rfl ?_
                                                                      refine X_cmp rfl rfl rfl rfl rfl rfl ?_
                                                                      refine X_pick rfl rfl rfl rfl rfl ?_
                                                                      refine X_move rfl rfl rfl rfl ?_
                                                                      refine XD_part 169 rfl (fun hc46 => ?_) (fun hc46 => ?_)
                                                                      · first | replace hc46 := dT hc46 | replace hc46 := dF hc46 | replace hc46 := nT hc46 | replace hc46 := nF hc46 | skip
                                                                        first
                                                                        | (exfalso; omega)
                                                                        | (exfalso; simp [eqX] at hc46; done)
                                                                        | skip
                                                                          refine X_move rfl rfl rfl rfl ?_
                                                                          refine X_move rfl rfl rfl rfl ?_
                                                                          refine X_fo rfl rfl F.ok17 rfl (To_ok _ b 60 _ _ _ addr (by first | exact hb4 | exact hb2)) (by repeat first | exact Rem.here _ | apply Rem.skip | apply Rem.over) (putE_some rfl) ?_
                                                                          rintro _ M5 hm5 ⟨ad5, c5, rfl, hsl5⟩
                                                                          refine X_len_sl rfl rfl rfl rfl F.elem47 rfl ?_
                                                                          refine X_cmp rfl rfl rfl rfl rfl rfl ?_
                                                                          refine X_pick rfl rfl rfl rfl rfl ?_
                                                                          refine X_move rfl rfl rfl rfl ?_
                                                                          refine XD_part 176 rfl (fun hc47 => ?_) (fun hc47 => ?_)
                                                                          · first | replace hc47 := dT hc47 | replace hc47 := dF hc47 | replace hc47 := nT hc47 | replace hc47 := nF hc47 | skip
                                                                            first
                                                                            | (exfalso; omega)
                                                                            | (exfalso; simp [eqX] at hc47; done)
                                                                            | skip
                                                                              refine X_move rfl rfl rfl rfl ?_
                                                                              refine X_move rfl rfl rfl rfl ?_
                                                                              refine X_fhR rfl rfl F.ok18 rfl (Lose_ok _ b 60 _ _ _ addr (by first | exact hb4 | exact hb2)) (by repeat first | exact Rem.here _ | apply Rem.skip | apply Rem.over) (fun _ _ _ hm hw => (hw.lower (by first | exact hm | exact Mem.le.trans (by assumption) hm)).cnt (by intro zz; first | exact Nat.le_refl _ | (simp only [cnt_app, cnt_cons, cnt_nil, cat, List.append_assoc, List.cons_append, List.nil_append]; omega))) (putE_some rfl) ?_
                                                                              rintro _ M6 Hb6 hm6 ⟨rfl, hb6⟩
                                                                              refine X_cmp rfl rfl rfl rfl rfl rfl ?_
                                                                              refine X_pick rfl rfl rfl rfl rfl ?_
                                                                              refine X_assign rfl rfl rfl rfl ?_
                                                                              refine XD_end ?_
                                                                              refine K_then ?_
                                                                              refine C_pick (.cons (k := 6) rfl .nil) ?_
                                                                              refine C_ret ?_
                                                                              refine K_end (.inr rfl) (.tmp rfl .nil) (fun w hw => ?_)
                                                                              refine ⟨_, _, rfl, ?_, hw.cnt (by intro zz; first | exact Nat.le_refl _ | (simp only [cnt_app, cnt_cons, cnt_nil, cat, List.append_assoc, List.cons_append, List.nil_append]; omega)), ?_⟩
                                                                              · exact (by first | exact Mem.le.refl _ | (repeat first | assumption | refine Mem.le.trans (by assumption) ?_))
                                                                              · first | rfl | exact congrArg Value.bool (decide_eq_true (by omega)) | (simp [resV]; omega)
                                                                          · first | replace hc47 := dT hc47 | replace hc47 := dF hc47 | replace hc47 := nT hc47 | replace hc47 := nF hc47 | skip
                                                                            first | (exfalso; omega) | (exfalso; simp [eqX] at hc47; done)
                                                                      · first | replace hc46 := dT hc46 | replace hc46 := dF hc46 | replace hc46 := nT hc46 | replace hc46 := nF hc46 | skip
                                                                        first | (exfalso; omega) | (exfalso; simp [eqX] at hc46; done)
                                                                  · first | replace hc45 := dT hc45 | replace hc45 := dF hc45 | replace hc45 := nT hc45 | replace hc45 := nF hc45 | skip
                                                                    first | (exfalso; omega) | (exfalso; simp [eqX] at hc45; done)
                                                              · first | replace hc44 := dT hc44 | replace hc44 := dF hc44 | replace hc44 := nT hc44 | replace hc44 := nF hc44 | skip
                                                                first | (exfalso; omega) | (exfalso; simp [eqX] at hc44; done)
                                                          · first | replace hc43 := dT hc43 | replace hc43 := dF hc43 | replace hc43 := nT hc43 | replace hc43 := nF hc43 | skip
                                                            first | (exfalso; omega) | (exfalso; simp [eqX] at hc43; done)
                                                      · first | replace hc42 := dT hc42 | replace hc42 := dF hc42 | replace hc42 := nT hc42 | replace hc42 := nF hc42 | skip
                                                        first
                                                        | (exfalso; omega)
                                                        | (exfalso; simp [eqX] at hc42; done)
                                                        | skip
                                                          refine C_skip ?_
                                                          refine K_then ?_
                                                          refine C_pick (.cons (k := 9) rfl (.cons (k := 7) rfl (.cons (k := 6) rfl (.cons (k := 1) rfl .nil)))) ?_
                                                          refine C_seq ?_
                                                          refine C_region (l := [0, 1, 2]) rfl ?_
                                                          refine X_move rfl rfl rfl rfl ?_
                                                          refine X_fo rfl rfl F.ok11 rfl (Size_ok _ b 60 _ _ _ (by first | exact hb4 | exact hb2)) (by repeat first | exact Rem.here _ | apply Rem.skip | apply Rem.over) (putE_some rfl) ?_
                                                          rintro _ M1 _ ⟨hM1, rfl⟩; subst M1
                                                          refine X_assign rfl rfl rfl rfl ?_
                                                          refine XD_end ?_
                                                          refine K_then ?_
                                                          refine C_pick (.cons (k := 18) rfl (.cons (k := 9) rfl (.cons (k := 7) rfl (.cons (k := 6) rfl (.cons (k := 1) rfl .nil))))) ?_
                                                          refine C_seq ?_
                                                          refine C_region (l := [0, 1, 2, 3]) rfl ?_
                                                          refine X_move rfl rfl rfl rfl ?_
                                                          refine X_move rfl rfl rfl rfl ?_
                                                          refine X_fo rfl rfl F.ok17 rfl (To_ok _ b 60 _ _ _ addr (by first | exact hb4 | exact hb2)) (by repeat first | exact Rem.here _ | apply Rem.skip | apply Rem.over) (putE_some rfl) ?_
                                                          rintro _ M5 hm5 ⟨ad5, c5, rfl, hsl5⟩
                                                          refine X_assign rfl rfl rfl rfl ?_
                                                          refine XD_end ?_
                                                          refine K_then ?_
                                                          refine C_pick (.cons (k := 19) rfl (.cons (k := 18) rfl (.cons (k := 9) rfl (.cons (k := 7) rfl (.cons (k := 6) rfl (.cons (k := 1) rfl .nil)))))) ?_
                                                          refine C_seq ?_
                                                          refine C_regionR (l := [0, 1, 2, 3]) (Hin := Hb2) (by repeat first | exact Rem.here _ | apply Rem.skip | apply Rem.over) rfl ?_
                                                          refine X_move rfl rfl rfl rfl ?_
                                                          refine X_move rfl rfl rfl rfl ?_
                                                          refine X_fhR rfl rfl F.ok18 rfl (Lose_ok _ b 60 _ _ _ addr (by first | exact hb4 | exact hb2)) (by repeat first | exact Rem.here _ | apply Rem.skip | apply Rem.over) (fun _ _ _ hm hw => (hw.lower (by first | exact hm | exact Mem.le.trans (by assumption) hm)).cnt (by intro zz; first | exact Nat.le_refl _ | (simp only [cnt_app, cnt_cons, cnt_nil, cat, List.append_assoc, List.cons_append, List.nil_append]; omega))) (putE_some rfl) ?_
                                                          rintro _ M4 Hb4 hm4 ⟨rfl, hb4⟩
                                                          refine X_assign rfl rfl rfl rfl ?_
                                                          refine XD_end ?_
                                                          refine K_then ?_
                                                          refine C_pick (.cons (k := 20) rfl (.cons (k := 19) rfl (.cons (k := 18) rfl (.cons (k := 9) rfl (.cons (k := 7) rfl (.cons (k := 6) rfl (.cons (k := 1) rfl .nil))))))) ?_
                                                          refine C_seq ?_
                                                          refine C_regionR (l := [0, 1, 2, 3, 4, 5, 6, 7, 8, 9, 10, 11, 12, 13, 14, 15, 16, 17, 18, 19, 20, 21, 22, 23, 24, 25, 26, 27, 28, 29, 30, 31, 32, 33]) (Hin := Hb4) (by repeat first | exact Rem.here _ | apply Rem.skip | apply Rem.over) rfl ?_
                                                          refine X_fs rfl rfl F.ok10 rfl (packed_ok _) rfl ?_
                                                          rintro _ rfl
                                                          refine X_move rfl rfl rfl rfl ?_
                                                          refine XD_part 150 rfl (fun hc48 => ?_) (fun hc48 => ?_)
                                                          · first | replace hc48 := dT hc48 | replace hc48 := dF hc48 | replace hc48 := nT hc48 | replace hc48 := nF hc48 | skip
                                                            first
                                                            | (exfalso; omega)
                                                            | (exfalso; simp [eqX] at hc48; done)
                                                            | skip
                                                              refine X_move rfl rfl rfl rfl ?_
                                                              refine X_len_sl rfl rfl rfl rfl F.elem47 rfl ?_
                                                              refine X_move rfl rfl rfl rfl ?_
                                                              refine X_cmp rfl rfl rfl rfl rfl rfl ?_
                                                              refine X_pick rfl rfl rfl rfl rfl ?_
                                                              refine X_move rfl rfl rfl rfl ?_
                                                              refine XD_part 156 rfl (fun hc49 => ?_) (fun hc49 => ?_)
                                                              · first | replace hc49 := dT hc49 | replace hc49 := dF hc49 | replace hc49 := nT hc49 | replace hc49 := nF hc49 | skip
                                                                first
                                                                | (exfalso; omega)
                                                                | (exfalso; simp [eqX] at hc49; done)
                                                                | skip
                                                                  refine X_move rfl rfl rfl rfl ?_
                                                                  refine X_move rfl rfl rfl rfl ?_
                                                                  refine X_cmp rfl rfl rfl rfl rfl rfl ?_
                                                                  refine X_pick rfl rfl rfl rfl rfl ?_
                                                                  refine X_move rfl rfl rfl rfl ?_
                                                                  refine XD_part 161 rfl (fun hc50 => ?_) (fun hc50 => ?_)
                                                                  · first | replace hc50 := dT hc50 | replace hc50 := dF hc50 | replace hc50 := nT hc50 | replace hc50 := nF hc50 | skip
                                                                    first
                                                                    | (exfalso; omega)
                                                                    | (exfalso; simp [eqX] at hc50; done)
                                                                    | skip
                                                                      refine X_move rfl rfl rfl rfl ?_
                                                                      refine X_fo rfl rfl F.ok11 rfl (Size_ok _ b 60 _ _ _ (by first | exact hb4 | exact hb2)) (by repeat first | exact Rem.here _ | apply Rem.skip | apply Rem.over) (putE_some rfl) ?_
                                                                      rintro _ M1 _ ⟨hM1, rfl⟩; subst M1
                                                                      refine X_move rfl rfl rfl rfl ?_
                                                                      refine X_move rfl rfl rfl rfl ?_
                                                                      refine X_ari rfl rfl rfl rfl rfl (by first | exact wrap_in (by decide) (by omega) | rfl) rfl ?_
                                                                      refine X_cmp rfl rfl rfl rfl rfl rfl ?_
                                                                      refine X_pick rfl rfl rfl rfl rfl ?_
                                                                      refine X_move rfl rfl rfl rfl ?_
                                                                      refine XD_part 169 rfl (fun hc51 => ?_) (fun hc51 => ?_)
                                                                      · first | replace hc51 := dT hc51 | replace hc51 := dF hc51 | replace hc51 := nT hc51 | replace hc51 := nF hc51 | skip
                                                                        first
                                                                        | (exfalso; omega)
                                                                        | (exfalso; simp [eqX] at hc51; done)
                                                                        | skip
                                                                          refine X_move rfl rfl rfl rfl ?_
                                                                          refine X_move rfl rfl rfl rfl ?_
                                                                          refine X_fo rfl rfl F.ok17 rfl (To_ok _ b 60 _ _ _ addr (by first | exact hb4 | exact hb2)) (by repeat first | exact Rem.here _ | apply Rem.skip | apply Rem.over) (putE_some rfl) ?_
                                                                          rintro _ M5 hm5 ⟨ad5, c5, rfl, hsl5⟩
                                                                          refine X_len_sl rfl rfl rfl rfl F.elem47 rfl ?_
                                                                          refine X_cmp rfl rfl rfl rfl rfl rfl ?_
                                                                          refine X_pick rfl rfl rfl rfl rfl ?_
                                                                          refine X_move rfl rfl rfl rfl ?_
                                                                          refine XD_part 176 rfl (fun hc52 => ?_) (fun hc52 => ?_)
                                                                          · first | replace hc52 := dT hc52 | replace hc52 := dF hc52 | replace hc52 := nT hc52 | replace hc52 := nF hc52 | skip
                                                                            first
                                                                            | (exfalso; omega)
                                                                            | (exfalso; simp [eqX] at hc52; done)
                                                                            | skip
                                                                              refine X_move rfl rfl rfl rfl ?_
                                                                              refine X_move rfl rfl rfl rfl ?_
                                                                              refine X_fhR rfl rfl F.ok18 rfl (Lose_ok _ b 60 _ _ _ addr (by first | exact hb4 | exact hb2)) (by repeat first | exact Rem.here _ | apply Rem.skip | apply Rem.over) (fun _ _ _ hm hw => (hw.lower (by first | exact hm | exact Mem.le.trans (by assumption) hm)).cnt (by intro zz; first | exact Nat.le_refl _ | (simp only [cnt_app, cnt_cons, cnt_nil, cat, List.append_assoc, List.cons_append, List.nil_append]; omega))) (putE_some rfl) ?_
                                                                              rintro _ M6 Hb6 hm6 ⟨rfl, hb6⟩
                                                                              refine X_cmp rfl rfl rfl rfl rfl rfl ?_
                                                                              refine X_pick rfl rfl rfl rfl rfl ?_
                                                                              refine X_assign rfl rfl rfl rfl ?_
                                                                              refine XD_end ?_
                                                                              refine K_then ?_
                                                                              refine C_pick (.cons (k := 6) rfl .nil) ?_
                                                                              refine C_ret ?_
                                                                              refine K_end (.inr rfl) (.tmp rfl .nil) (fun w hw => ?_)
                                                                              refine ⟨_, _, rfl, ?_, hw.cnt (by intro zz; first | exact Nat.le_refl _ | (simp only [cnt_app, cnt_cons, cnt_nil, cat, List.append_assoc, List.cons_append, List.nil_append]; omega)), ?_⟩
                                                                              · exact (by first | exact Mem.le.refl _ | (repeat first | assumption | refine Mem.le.trans (by assumption) ?_))
                                                                              · first | rfl | exact congrArg Value.bool (decide_eq_true (by omega)) | (simp [resV]; omega)
                                                                          · first | replace hc52 := dT hc52 | replace hc52 := dF hc52 | replace hc52 := nT hc52 | replace hc52 := nF hc52 | skip
                                                                            first | (exfalso; omega) | (exfalso; simp [eqX] at hc52; done)
                                                                      · first | replace hc51 := dT hc51 | replace hc51 := dF hc51 | replace hc51 := nT hc51 | replace hc51 := nF hc51 | skip
                                                                        first | (exfalso; omega) | (exfalso; simp [eqX] at hc51; done)
                                                                  · first | replace hc50 := dT hc50 | replace hc50 := dF hc50 | replace hc50 := nT hc50 | replace hc50 := nF hc50 | skip
                                                                    first | (exfalso; omega) | (exfalso; simp [eqX] at hc50; done)
                                                              · first | replace hc49 := dT hc49 | replace hc49 := dF hc49 | replace hc49 := nT hc49 | replace hc49 := nF hc49 | skip
                                                                first | (exfalso; omega) | (exfalso; simp [eqX] at hc49; done)
                                                          · first | replace hc48 := dT hc48 | replace hc48 := dF hc48 | replace hc48 := nT hc48 | replace hc48 := nF hc48 | skip
                                                            first | (exfalso; omega) | (exfalso; simp [eqX] at hc48; done)
                                                  · first | replace hc41 := dT hc41 | replace hc41 := dF hc41 | replace hc41 := nT hc41 | replace hc41 := nF hc41 | skip
                                                    first
                                                    | (exfalso; omega)
                                                    | (exfalso; simp [eqX] at hc41; done)
                                                    | skip
                                                      refine X_skip rfl rfl rfl ?_
                                                      refine X_skip rfl rfl rfl ?_
                                                      refine X_skip rfl rfl rfl ?_
                                                      refine X_skip rfl rfl rfl ?_
                                                      refine X_pick rfl rfl rfl rfl rfl ?_
                                                      refine XD_end ?_
                                                      refine K_then ?_
                                                      refine C_pick (.cons (k := 138) rfl (.cons (k := 9) rfl (.cons (k := 7) rfl (.cons (k := 6) rfl (.cons (k := 1) rfl .nil))))) ?_
                                                      refine C_false rfl ?_
                                                      refine C_skip ?_
                                                      refine K_then ?_
                                                      refine C_pick (.cons (k := 9) rfl (.cons (k := 7) rfl (.cons (k := 6) rfl (.cons (k := 1) rfl .nil)))) ?_
                                                      refine C_seq ?_
                                                      refine C_region (l := [0, 1, 2]) rfl ?_
                                                      refine X_move rfl rfl rfl rfl ?_
                                                      refine X_fo rfl rfl F.ok11 rfl (Size_ok _ b 60 _ _ _ (by first | exact hb4 | exact hb2)) (by repeat first | exact Rem.here _ | apply Rem.skip | apply Rem.over) (putE_some rfl) ?_
                                                      rintro _ M1 _ ⟨hM1, rfl⟩; subst M1
                                                      refine X_assign rfl rfl rfl rfl ?_
                                                      refine XD_end ?_
                                                      refine K_then ?_
                                                      refine C_pick (.cons (k := 18) rfl (.cons (k := 9) rfl (.cons (k := 7) rfl (.cons (k := 6) rfl (.cons (k := 1) rfl .nil))))) ?_
                                                      refine C_seq ?_
                                                      refine C_region (l := [0, 1, 2, 3]) rfl ?_
                                                      refine X_move rfl rfl rfl rfl ?_
                                                      refine X_move rfl rfl rfl rfl ?_
                                                      refine X_fo rfl rfl F.ok17 rfl (To_ok _ b 60 _ _ _ addr (by first | exact hb4 | exact hb2)) (by repeat first | exact Rem.here _ | apply Rem.skip | apply Rem.over) (putE_some rfl) ?_
                                                      rintro _ M5 hm5 ⟨ad5, c5, rfl, hsl5⟩
                                                      refine X_assign rfl rfl rfl rfl ?_
                                                      refine XD_end ?_
                                                      refine K_then ?_
                                                      refine C_pick (.cons (k := 19) rfl (.cons (k := 18) rfl (.cons (k := 9) rfl (.cons (k := 7) rfl (.cons (k := 6) rfl (.cons (k := 1) rfl .nil)))))) ?_
                                                      refine C_seq ?_
                                                      refine C_regionR (l := [0, 1, 2, 3]) (Hin := Hb2) (by repeat first | exact Rem.here _ | apply Rem.skip | apply Rem.over) rfl ?_
                                                      refine X_move rfl rfl rfl rfl ?_
                                                      refine X_move rfl rfl rfl rfl ?_
                                                      refine X_fhR rfl rfl F.ok18 rfl (Lose_ok _ b 60 _ _ _ addr (by first | exact hb4 | exact hb2)) (by repeat first | exact Rem.here _ | apply Rem.skip | apply Rem.over) (fun _ _ _ hm hw => (hw.lower (by first | exact hm | exact Mem.le.trans (by assumption) hm)).cnt (by intro zz; first | exact Nat.le_refl _ | (simp only [cnt_app, cnt_cons, cnt_nil, cat, List.append_assoc, List.cons_append, List.nil_append]; omega))) (putE_some rfl) ?_
                                                      rintro _ M4 Hb4 hm4 ⟨rfl, hb4⟩
                                                      refine X_assign rfl rfl rfl rfl ?_
                                                      refine XD_end ?_
                                                      refine K_then ?_
                                                      refine C_pick (.cons (k := 20) rfl (.cons (k := 19) rfl (.cons (k := 18) rfl (.cons (k := 9) rfl (.cons (k := 7) rfl (.cons (k := 6) rfl (.cons (k := 1) rfl .nil))))))) ?_
                                                      refine C_seq ?_
                                                      refine C_regionR (l := [0, 1, 2, 3, 4, 5, 6, 7, 8, 9, 10, 11, 12, 13, 14, 15, 16, 17, 18, 19, 20, 21, 22, 23, 24, 25, 26, 27, 28, 29, 30, 31, 32, 33]) (Hin := Hb4) (by repeat first | exact Rem.here _ | apply Rem.skip | apply Rem.over) rfl ?_
                                                      refine X_fs rfl rfl F.ok10 rfl (packed_ok _) rfl ?_
                                                      rintro _ rfl
                                                      refine X_move rfl rfl rfl rfl ?_
                                                      refine XD_part 150 rfl (fun hc53 => ?_) (fun hc53 => ?_)
                                                      · first | replace hc53 := dT hc53 | replace hc53 := dF hc53 | replace hc53 := nT hc53 | replace hc53 := nF hc53 | skip
                                                        first
                                                        | (exfalso; omega)
                                                        | (exfalso; simp [eqX] at hc53; done)
                                                        | skip
                                                          refine X_move rfl rfl rfl rfl ?_
                                                          refine X_len_sl rfl rfl rfl rfl F.elem47 rfl ?_
                                                          refine X_move rfl rfl rfl rfl ?_
                                                          refine X_cmp rfl rfl rfl rfl rfl rfl ?_
                                                          refine X_pick rfl rfl rfl rfl rfl ?_
                                                          refine X_move rfl rfl rfl rfl ?_
                                                          refine XD_part 156 rfl (fun hc54 => ?_) (fun hc54 => ?_)
                                                          · first | replace hc54 := dT hc54 | replace hc54 := dF hc54 | replace hc54 := nT hc54 | replace hc54 := nF hc54 | skip
                                                            first
                                                            | (exfalso; omega)
                                                            | (exfalso; simp [eqX] at hc54; done)
                                                            | skip
                                                              refine X_move rfl rfl rfl rfl ?_
                                                              refine X_move rfl rfl rfl rfl ?_
                                                              refine X_cmp rfl rfl rfl rfl rfl rfl ?_
                                                              refine X_pick rfl rfl rfl rfl rfl ?_
                                                              refine X_move rfl rfl rfl rfl ?_
                                                              refine XD_part 161 rfl (fun hc55 => ?_) (fun hc55 => ?_)
                                                              · first | replace hc55 := dT hc55 | replace hc55 := dF hc55 | replace hc55 := nT hc55 | replace hc55 := nF hc55 | skip
                                                                first
                                                                | (exfalso; omega)
                                                                | (exfalso; simp [eqX] at hc55; done)
                                                                | skip
                                                                  refine X_move rfl rfl rfl rfl ?_
                                                                  refine X_fo rfl rfl F.ok11 rfl (Size_ok _ b 60 _ _ _ (by first | exact hb4 | exact hb2)) (by repeat first | exact Rem.here _ | apply Rem.skip | apply Rem.over) (putE_some rfl) ?_
                                                                  rintro _ M1 _ ⟨hM1, rfl⟩; subst M1
                                                                  refine X_move rfl rfl rfl rfl ?_
                                                                  refine X_move rfl rfl rfl rfl ?_
                                                                  refine X_ari rfl rfl rfl rfl rfl (by first | exact wrap_in (by decide) (by omega) | rfl) rfl ?_
                                                                  refine X_cmp rfl rfl rfl rfl rfl rfl ?_
                                                                  refine X_pick rfl rfl rfl rfl rfl ?_
                                                                  refine X_move rfl rfl rfl rfl ?_
                                                                  refine XD_part 169 rfl (fun hc56 => ?_) (fun hc56 => ?_)
                                                                  · first | replace hc56 := dT hc56 | replace hc56 := dF hc56 | replace hc56 := nT hc56 | replace hc56 := nF hc56 | skip
                                                                    first
                                                                    | (exfalso; omega)
                                                                    | (exfalso; simp [eqX] at hc56; done)
                                                                    | skip
                                                                      refine X_move rfl rfl rfl rfl ?_
                                                                      refine X_move rfl rfl rfl rfl ?_
                                                                      refine X_fo rfl rfl F.ok17 rfl (To_ok _ b 60 _ _ _ addr (by first | exact hb4 | exact hb2)) (by repeat first | exact Rem.here _ | apply Rem.skip | apply Rem.over) (putE_some rfl) ?_
                                                                      rintro _ M5 hm5 ⟨ad5, c5, rfl, hsl5⟩
                                                                      refine X_len_sl rfl rfl rfl rfl F.elem47 rfl ?_
                                                                      refine X_cmp rfl rfl rfl rfl rfl rfl ?_
                                                                      refine X_pick rfl rfl rfl rfl rfl ?_
                                                                      refine X_move rfl rfl rfl rfl ?_
                                                                      refine XD_part 176 rfl (fun hc57 => ?_) (fun hc57 => ?_)
                                                                      · first | replace hc57 := dT hc57 | replace hc57 := dF hc57 | replace hc57 := nT hc57 | replace hc57 := nF hc57 | skip
                                                                        first
                                                                        | (exfalso; omega)
                                                                        | (exfalso; simp [eqX] at hc57; done)
                                                                        | skip
                                                                          refine X_move rfl rfl rfl rfl ?_
                                                                          refine X_move rfl rfl rfl rfl ?_
                                                                          refine X_fhR rfl rfl F.ok18 rfl (Lose_ok _ b 60 _ _ _ addr (by first | exact hb4 | exact hb2)) (by repeat first | exact Rem.here _ | apply Rem.skip | apply Rem.over) (fun _ _ _ hm hw => (hw.lower (by first | exact hm | exact Mem.le.trans (by assumption) hm)).cnt (by intro zz; first | exact Nat.le_refl _ | (simp only [cnt_app, cnt_cons, cnt_nil, cat, List.append_assoc, List.cons_append, List.nil_append]; omega))) (putE_some rfl) ?_
                                                                          rintro _ M6 Hb6 hm6 ⟨rfl, hb6⟩
                                                                          refine X_cmp rfl rfl rfl rfl rfl rfl ?_
                                                                          refine X_pick rfl rfl rfl rfl rfl ?_
                                                                          refine X_assign rfl rfl rfl rfl ?_
                                                                          refine XD_end ?_
                                                                          refine K_then ?_
                                                                          refine C_pick (.cons (k := 6) rfl .nil) ?_
                                                                          refine C_ret ?_
                                                                          refine K_end (.inr rfl) (.tmp rfl .nil) (fun w hw => ?_)
                                                                          refine ⟨_, _, rfl, ?_, hw.cnt (by intro zz; first | exact Nat.le_refl _ | (simp only [cnt_app, cnt_cons, cnt_nil, cat, List.append_assoc, List.cons_append, List.nil_append]; omega)), ?_⟩
                                                                          · exact (by first | exact Mem.le.refl _ | (repeat first | assumption | refine Mem.le.trans (by assumption) ?_))
                                                                          · first | rfl | exact congrArg Value.bool (decide_eq_true (by omega)) | (simp [resV]; omega)
                                                                      · first | replace hc57 := dT hc57 | replace hc57 := dF hc57 | replace hc57 := nT hc57 | replace hc57 := nF hc57 | skip
                                                                        first | (exfalso; omega) | (exfalso; simp [eqX] at hc57; done)
                                                                  · first | replace hc56 := dT hc56 | replace hc56 := dF hc56 | replace hc56 := nT hc56 | replace hc56 := nF hc56 | skip
                                                                    first | (exfalso; omega) | (exfalso; simp [eqX] at hc56; done)
                                                              · first | replace hc55 := dT hc55 | replace hc55 := dF hc55 | replace hc55 := nT hc55 | replace hc55 := nF hc55 | skip
                                                                first | (exfalso; omega) | (exfalso; simp [eqX] at hc55; done)
                                                          · first | replace hc54 := dT hc54 | replace hc54 := dF hc54 | replace hc54 := nT hc54 | replace hc54 := nF hc54 | skip
                                                            first | (exfalso; omega) | (exfalso; simp [eqX] at hc54; done)
                                                      · first | replace hc53 := dT hc53 | replace hc53 := dF hc53 | replace hc53 := nT hc53 | replace hc53 := nF hc53 | skip
                                                        first | (exfalso; omega) | (exfalso; simp [eqX] at hc53; done)
                      · first | replace hc12 := dT hc12 | replace hc12 := dF hc12 | replace hc12 := nT hc12 | replace hc12 := nF hc12 | skip
                        first
                        | (exfalso; omega)
                        | (exfalso; simp [eqX] at hc12; done)
                        | skip
                          refine X_skip rfl rfl rfl ?_
                          refine X_skip rfl rfl rfl ?_
                          refine X_skip rfl rfl rfl ?_
                          refine X_skip rfl rfl rfl ?_
                          refine X_skip rfl rfl rfl ?_
                          refine X_skip rfl rfl rfl ?_
                          refine X_skip rfl rfl rfl ?_
                          refine X_skip rfl rfl rfl ?_
                          refine X_skip rfl rfl rfl ?_
                          refine X_skip rfl rfl rfl ?_
                          refine X_skip rfl rfl rfl ?_
                          refine X_skip rfl rfl rfl ?_
                          refine X_skip rfl rfl rfl ?_
                          refine X_skip rfl rfl rfl ?_
                          refine X_skip rfl rfl rfl ?_
                          refine X_skip rfl rfl rfl ?_
                          refine X_skip rfl rfl rfl ?_
                          refine X_skip rfl rfl rfl ?_
                          refine X_skip rfl rfl rfl ?_
                          refine X_skip rfl rfl rfl ?_
                          refine X_skip rfl rfl rfl ?_
                          refine X_skip rfl rfl rfl ?_
                          refine X_skip rfl rfl rfl ?_
                          refine X_skip rfl rfl rfl ?_
                          refine X_skip rfl rfl rfl ?_
                          refine X_skip rfl rfl rfl ?_
                          refine X_pick rfl rfl rfl rfl rfl ?_
                          refine X_pick rfl rfl rfl rfl rfl ?_
                          refine X_move rfl rfl rfl rfl ?_
                          refine X_move rfl rfl rfl rfl ?_
                          refine X_cmp rfl rfl rfl rfl rfl rfl ?_
                          refine X_move rfl rfl rfl rfl ?_
                          refine XD_part 123 rfl (fun hc58 => ?_) (fun hc58 => ?_)
                          · first | replace hc58 := dT hc58 | replace hc58 := dF hc58 | replace hc58 := nT hc58 | replace hc58 := nF hc58 | skip
                            first
                            | (exfalso; omega)
                            | (exfalso; simp [eqX] at hc58; done)
                            | skip
                              refine X_move rfl rfl rfl rfl ?_
                              refine X_fo rfl rfl F.ok11 rfl (Size_ok _ b 60 _ _ _ (by first | exact hb4 | exact hb2)) (by repeat first | exact Rem.here _ | apply Rem.skip | apply Rem.over) (putE_some rfl) ?_
                              rintro _ M1 _ ⟨hM1, rfl⟩; subst M1
                              refine X_move rfl rfl rfl rfl ?_
                              refine X_len_sl rfl rfl rfl rfl F.elem22 rfl ?_
                              refine X_cmp rfl rfl rfl rfl rfl rfl ?_
                              refine X_pick rfl rfl rfl rfl rfl ?_
                              refine X_pick rfl rfl rfl rfl rfl ?_
                              refine XD_end ?_
                              refine K_then ?_
                              refine C_pick (.cons (k := 130) rfl (.cons (k := 12) rfl (.cons (k := 11) rfl (.cons (k := 9) rfl (.cons (k := 7) rfl (.cons (k := 6) rfl (.cons (k := 1) rfl .nil))))))) ?_
                              refine C_cond rfl (fun hc59 => ?_) (fun hc59 => ?_)
                              · first | replace hc59 := dT hc59 | replace hc59 := dF hc59 | replace hc59 := nT hc59 | replace hc59 := nF hc59 | skip
                                first | (exfalso; omega) | (exfalso; simp [eqX] at hc59; done)
                              · first | replace hc59 := dT hc59 | replace hc59 := dF hc59 | replace hc59 := nT hc59 | replace hc59 := nF hc59 | skip
                                first
                                | (exfalso; omega)
                                | (exfalso; simp [eqX] at hc59; done)
                                | skip
                                  refine C_skip ?_
                                  refine K_then ?_
                                  refine C_pick (.cons (k := 12) rfl (.cons (k := 11) rfl (.cons (k := 9) rfl (.cons (k := 7) rfl (.cons (k := 6) rfl (.cons (k := 1) rfl .nil)))))) ?_
                                  refine C_seq ?_
                                  refine C_seq ?_
                                  refine C_region (l := [0, 1, 2, 3, 4, 5, 6, 7]) rfl ?_
                                  refine X_move rfl rfl rfl rfl ?_
                                  refine X_cmp rfl rfl rfl rfl rfl rfl ?_
                                  refine X_move rfl rfl rfl rfl ?_
                                  refine XD_part 133 rfl (fun hc60 => ?_) (fun hc60 => ?_)
                                  · first | replace hc60 := dT hc60 | replace hc60 := dF hc60 | replace hc60 := nT hc60 | replace hc60 := nF hc60 | skip
                                    first
                                    | (exfalso; omega)
                                    | (exfalso; simp [eqX] at hc60; done)
                                    | skip
                                      first | refine X_fieldAddr rfl rfl rfl F.foff28_1 rfl ?_ | refine X_fieldAddr_el rfl rfl rfl (by first | exact ⟨_, _, rfl⟩ | assumption | exact SlM.plain (by assumption) (by simp; omega) | exact RdS.plain (by assumption) (by simp; omega) | exact OSl.plain (by assumption) (by simp; omega)) F.foff28_1 rfl ?_
                                      first | refine X_load rfl rfl rfl (by repeat first | exact List.Mem.head _ | refine List.Mem.tail _ ?_ | refine List.mem_append_right _ ?_) F.lay3 rfl rfl rfl ?_ | refine X_load_el rfl rfl rfl (by first | assumption | exact SlM.mono (by assumption) (by assumption)) (by first | exact row_map (by omega) | exact List.getElem?_eq_getElem (by omega)) F.lay3 rfl rfl rfl ?_ | refine X_load_rd rfl rfl rfl (by assumption) (by first | exact row_map (by omega) | exact List.getElem?_eq_getElem (by omega)) F.lay3 rfl rfl rfl ?_ | refine X_load_mem rfl rfl rfl (by first | assumption | exact Mem.get_of (by assumption) (by repeat first | assumption | refine Mem.le.trans (by assumption) ?_)) F.lay3 rfl rfl rfl ?_ | refine X_load_osl rfl rfl rfl (by assumption) (by repeat first | exact Rem.here _ | apply Rem.skip | apply Rem.over) (by first | exact row_map (by omega) | exact List.getElem?_eq_getElem (by omega)) F.lay3 rfl rfl rfl ?_
                                      refine X_move rfl rfl rfl rfl ?_
                                      refine X_cmp rfl rfl rfl rfl rfl rfl ?_
                                      refine X_pick rfl rfl rfl rfl rfl ?_
                                      refine XD_end ?_
                                      refine K_then ?_
                                      refine C_pick (.cons (k := 138) rfl (.cons (k := 9) rfl (.cons (k := 7) rfl (.cons (k := 6) rfl (.cons (k := 1) rfl .nil))))) ?_
                                      refine C_cond rfl (fun hc61 => ?_) (fun hc61 => ?_)
                                      · first | replace hc61 := dT hc61 | replace hc61 := dF hc61 | replace hc61 := nT hc61 | replace hc61 := nF hc61 | skip
                                        first
                                        | (exfalso; omega)
                                        | (exfalso; simp [eqX] at hc61; done)
                                        | skip
                                          refine C_region (l := [0, 1, 2]) rfl ?_
                                          refine X_move rfl rfl rfl rfl ?_
                                          refine X_ari rfl rfl rfl rfl rfl (by first | exact wrap_in (by decide) (by omega) | rfl) rfl ?_
                                          refine X_assign rfl rfl rfl rfl ?_
                                          refine XD_end ?_
                                          refine K_then ?_
                                          refine C_pick (.cons (k := 9) rfl (.cons (k := 7) rfl (.cons (k := 6) rfl (.cons (k := 1) rfl .nil)))) ?_
                                          refine C_seq ?_
                                          refine C_region (l := [0, 1, 2]) rfl ?_
                                          refine X_move rfl rfl rfl rfl ?_
                                          refine X_fo rfl rfl F.ok11 rfl (Size_ok _ b 60 _ _ _ (by first | exact hb4 | exact hb2)) (by repeat first | exact Rem.here _ | apply Rem.skip | apply Rem.over) (putE_some rfl) ?_
                                          rintro _ M1 _ ⟨hM1, rfl⟩; subst M1
                                          refine X_assign rfl rfl rfl rfl ?_
                                          refine XD_end ?_
                                          refine K_then ?_
                                          refine C_pick (.cons (k := 18) rfl (.cons (k := 9) rfl (.cons (k := 7) rfl (.cons (k := 6) rfl (.cons (k := 1) rfl .nil))))) ?_
                                          refine C_seq ?_
                                          refine C_region (l := [0, 1, 2, 3]) rfl ?_
                                          refine X_move rfl rfl rfl rfl ?_
                                          refine X_move rfl rfl rfl rfl ?_
                                          refine X_fo rfl rfl F.ok17 rfl (To_ok _ b 60 _ _ _ addr (by first | exact hb4 | exact hb2)) (by repeat first | exact Rem.here _ | apply Rem.skip | apply Rem.over) (putE_some rfl) ?_
                                          rintro _ M5 hm5 ⟨ad5, c5, rfl, hsl5⟩
                                          refine X_assign rfl rfl rfl rfl ?_
                                          refine XD_end ?_
                                          refine K_then ?_
                                          refine C_pick (.cons (k := 19) rfl (.cons (k := 18) rfl (.cons (k := 9) rfl (.cons (k := 7) rfl (.cons (k := 6) rfl (.cons (k := 1) rfl .nil)))))) ?_
                                          refine C_seq ?_
                                          refine C_regionR (l := [0, 1, 2, 3]) (Hin := Hb2) (by repeat first | exact Rem.here _ | apply Rem.skip | apply Rem.over) rfl ?_
                                          refine X_move rfl rfl rfl rfl ?_
                                          refine X_move rfl rfl rfl rfl ?_
                                          refine X_fhR rfl rfl F.ok18 rfl (Lose_ok _ b 60 _ _ _ addr (by first | exact hb4 | exact hb2)) (by repeat first | exact Rem.here _ | apply Rem.skip | apply Rem.over) (fun _ _ _ hm hw => (hw.lower (by first | exact hm | exact Mem.le.trans (by assumption) hm)).cnt (by intro zz; first | exact Nat.le_refl _ | (simp only [cnt_app, cnt_cons, cnt_nil, cat, List.append_assoc, List.cons_append, List.nil_append]; omega))) (putE_some rfl) ?_
                                          rintro _ M4 Hb4 hm4 ⟨rfl, hb4⟩
                                          refine X_assign rfl rfl rfl rfl ?_
                                          refine XD_end ?_
                                          refine K_then ?_
                                          refine C_pick (.cons (k := 20) rfl (.cons (k := 19) rfl (.cons (k := 18) rfl (.cons (k := 9) rfl (.cons (k := 7) rfl (.cons (k := 6) rfl (.cons (k := 1) rfl .nil))))))) ?_
                                          refine C_seq ?_
                                          refine C_regionR (l := [0, 1, 2, 3, 4, 5, 6, 7, 8, 9, 10, 11, 12, 13, 14, 15, 16, 17, 18, 19, 20, 21, 22, 23, 24, 25, 26, 27, 28, 29, 30, 31, 32, 33]) (Hin := Hb4) (by repeat first | exact Rem.here _ | apply Rem.skip | apply Rem.over) rfl ?_
                                          refine X_fs rfl rfl F.ok10 rfl (packed_ok _) rfl ?_
                                          rintro _ rfl
                                          refine X_move rfl rfl rfl rfl ?_
                                          refine XD_part 150 rfl (fun hc62 => ?_) (fun hc62 => ?_)
                                          · first | replace hc62 := dT hc62 | replace hc62 := dF hc62 | replace hc62 := nT hc62 | replace hc62 := nF hc62 | skip
                                            first
                                            | (exfalso; omega)
                                            | (exfalso; simp [eqX] at hc62; done)
                                            | skip
                                              refine X_move rfl rfl rfl rfl ?_
                                              refine X_len_sl rfl rfl rfl rfl F.elem47 rfl ?_
                                              refine X_move rfl rfl rfl rfl ?_
                                              refine X_cmp rfl rfl rfl rfl rfl rfl ?_
                                              refine X_pick rfl rfl rfl rfl rfl ?_
                                              refine X_move rfl rfl rfl rfl ?_
                                              refine XD_part 156 rfl (fun hc63 => ?_) (fun hc63 => ?_)
                                              · first | replace hc63 := dT hc63 | replace hc63 := dF hc63 | replace hc63 := nT hc63 | replace hc63 := nF hc63 | skip
                                                first
                                                | (exfalso; omega)
                                                | (exfalso; simp [eqX] at hc63; done)
                                                | skip
                                                  refine X_move rfl rfl rfl rfl ?_
                                                  refine X_move rfl rfl rfl rfl ?_
                                                  refine X_cmp rfl rfl rfl rfl rfl rfl ?_
                                                  refine X_pick rfl rfl rfl rfl rfl ?_
                                                  refine X_move rfl rfl rfl rfl ?_
                                                  refine XD_part 161 rfl (fun hc64 => ?_) (fun hc64 => ?_)
                                                  · first | replace hc64 := dT hc64 | replace hc64 := dF hc64 | replace hc64 := nT hc64 | replace hc64 := nF hc64 | skip
                                                    first
                                                    | (exfalso; omega)
                                                    | (exfalso; simp [eqX] at hc64; done)
                                                    | skip
                                                      refine X_move rfl rfl rfl rfl ?_
                                                      refine X_fo rfl rfl F.ok11 rfl (Size_ok _ b 60 _ _ _ (by first | exact hb4 | exact hb2)) (by repeat first | exact Rem.here _ | apply Rem.skip | apply Rem.over) (putE_some rfl) ?_
                                                      rintro _ M1 _ ⟨hM1, rfl⟩; subst M1
                                                      refine X_move rfl rfl rfl rfl ?_
                                                      refine X_move rfl rfl rfl rfl ?_
                                                      refine X_ari rfl rfl rfl rfl rfl (by first | exact wrap_in (by decide) (by omega) | rfl) rfl ?_
                                                      refine X_cmp rfl rfl rfl rfl rfl rfl ?_
                                                      refine X_pick rfl rfl rfl rfl rfl ?_
                                                      refine X_move rfl rfl rfl rfl ?_
                                                      refine XD_part 169 rfl (fun hc65 => ?_) (fun hc65 => ?_)
                                                      · first | replace hc65 := dT hc65 | replace hc65 := dF hc65 | replace hc65 := nT hc65 | replace hc65 := nF hc65 | skip
                                                        first
                                                        | (exfalso; omega)
                                                        | (exfalso; simp [eqX] at hc65; done)
                                                        | skip
                                                          refine X_move rfl rfl rfl rfl ?_
                                                          refine X_move rfl rfl rfl rfl ?_
                                                          refine X_fo rfl rfl F.ok17 rfl (To_ok _ b 60 _ _ _ addr (by first | exact hb4 | exact hb2)) (by repeat first | exact Rem.here _ | apply Rem.skip | apply Rem.over) (putE_some rfl) ?_
                                                          rintro _ M5 hm5 ⟨ad5, c5, rfl, hsl5⟩
                                                          refine X_len_sl rfl rfl rfl rfl F.elem47 rfl ?_
                                                          refine X_cmp rfl rfl rfl rfl rfl rfl ?_
                                                          refine X_pick rfl rfl rfl rfl rfl ?_
                                                          refine X_move rfl rfl rfl rfl ?_
                                                          refine XD_part 176 rfl (fun hc66 => ?_) (fun hc66 => ?_)
                                                          · first | replace hc66 := dT hc66 | replace hc66 := dF hc66 | replace hc66 := nT hc66 | replace hc66 := nF hc66 | skip
                                                            first
                                                            | (exfalso; omega)
                                                            | (exfalso; simp [eqX] at hc66; done)
                                                            | skip
                                                              refine X_move rfl rfl rfl rfl ?_
                                                              refine X_move rfl rfl rfl rfl ?_
                                                              refine X_fhR rfl rfl F.ok18 rfl (Lose_ok _ b 60 _ _ _ addr (by first | exact hb4 | exact hb2)) (by repeat first | exact Rem.here _ | apply Rem.skip | apply Rem.over) (fun _ _ _ hm hw => (hw.lower (by first | exact hm | exact Mem.le.trans (by assumption) hm)).cnt (by intro zz; first | exact Nat.le_refl _ | (simp only [cnt_app, cnt_cons, cnt_nil, cat, List.append_assoc, List.cons_append, List.nil_append]; omega))) (putE_some rfl) ?_
                                                              rintro _ M6 Hb6 hm6 ⟨rfl, hb6⟩
                                                              refine X_cmp rfl rfl rfl rfl rfl rfl ?_
                                                              refine X_pick rfl rfl rfl rfl rfl ?_
                                                              refine X_assign rfl rfl rfl rfl ?_
                                                              refine XD_end ?_
                                                              refine K_then ?_
                                                              refine C_pick (.cons (k := 6) rfl .nil) ?_
                                                              refine C_ret ?_
                                                              refine K_end (.inr rfl) (.tmp rfl .nil) (fun w hw => ?_)
                                                              refine ⟨_, _, rfl, ?_, hw.cnt (by intro zz; first | exact Nat.le_refl _ | (simp only [cnt_app, cnt_cons, cnt_nil, cat, List.append_assoc, List.cons_append, List.nil_append]; omega)), ?_⟩
                                                              · exact (by first | exact Mem.le.refl _ | (repeat first | assumption | refine Mem.le.trans (by assumption) ?_))
                                                              · first | rfl | exact congrArg Value.bool (decide_eq_true (by omega)) | (simp [resV]; omega)
                                                          · first | replace hc66 := dT hc66 | replace hc66 := dF hc66 | replace hc66 := nT hc66 | replace hc66 := nF hc66 | skip
                                                            first | (exfalso; omega) | (exfalso; simp [eqX] at hc66; done)
                                                      · first | replace hc65 := dT hc65 | replace hc65 := dF hc65 | replace hc65 := nT hc65 | replace hc65 := nF hc65 | skip
                                                        first | (exfalso; omega) | (exfalso; simp [eqX] at hc65; done)
                                                  · first | replace hc64 := dT hc64 | replace hc64 := dF hc64 | replace hc64 := nT hc64 | replace hc64 := nF hc64 | skip
                                                    first | (exfalso; omega) | (exfalso; simp [eqX] at hc64; done)
                                              · first | replace hc63 := dT hc63 | replace hc63 := dF hc63 | replace hc63 := nT hc63 | replace hc63 := nF hc63 | skip
                                                first | (exfalso; omega) | (exfalso; simp [eqX] at hc63; done)
                                          · first | replace hc62 := dT hc62 | replace hc62 := dF hc62 | replace hc62 := nT hc62 | replace hc62 := nF hc62 | skip
                                            first | (exfalso; omega) | (exfalso; simp [eqX] at hc62; done)
                                      · first | replace hc61 := dT hc61 | replace hc61 := dF hc61 | replace hc61 := nT hc61 | replace hc61 := nF hc61 | skip
                                        first
                                        | (exfalso; omega)
                                        | (exfalso; simp [eqX] at hc61; done)
                                        | skip
                                          refine C_skip ?_
                                          refine K_then ?_
                                          refine C_pick (.cons (k := 9) rfl (.cons (k := 7) rfl (.cons (k := 6) rfl (.cons (k := 1) rfl .nil)))) ?_
                                          refine C_seq ?_
                                          refine C_region (l := [0, 1, 2]) rfl ?_
                                          refine X_move rfl rfl rfl rfl ?_
                                          refine X_fo rfl rfl F.ok11 rfl (Size_ok _ b 60 _ _ _ (by first | exact hb4 | exact hb2)) (by repeat first | exact Rem.here _ | apply Rem.skip | apply Rem.over) (putE_some rfl) ?_
                                          rintro _ M1 _ ⟨hM1, rfl⟩; subst M1
                                          refine X_assign rfl rfl rfl rfl ?_
                                          refine XD_end ?_
                                          refine K_then ?_
                                          refine C_pick (.cons (k := 18) rfl (.cons (k := 9) rfl (.cons (k := 7) rfl (.cons (k := 6) rfl (.cons (k := 1) rfl .nil))))) ?_
                                          refine C_seq ?_
                                          refine C_region (l := [0, 1, 2, 3]) rfl ?_
                                          refine X_move rfl rfl rfl rfl ?_
                                          refine X_move rfl rfl rfl rfl ?_
                                          refine X_fo rfl rfl F.ok17 rfl (To_ok _ b 60 _ _ _ addr (by first | exact hb4 | exact hb2)) (by repeat first | exact Rem.here _ | apply Rem.skip | apply Rem.over) (putE_some rfl) ?_
                                          rintro _ M5 hm5 ⟨ad5, c5, rfl, hsl5⟩
                                          refine X_assign rfl rfl rfl rfl ?_
                                          refine XD_end ?_
                                          refine K_then ?_
                                          refine C_pick (.cons (k := 19) rfl (.cons (k := 18) rfl (.cons (k := 9) rfl (.cons (k := 7) rfl (.cons (k := 6) rfl (.cons (k := 1) rfl .nil)))))) ?_
                                          refine C_seq ?_
                                          refine C_regionR (l := [0, 1, 2, 3]) (Hin := Hb2) (by repeat first | exact Rem.here _ | apply Rem.skip | apply Rem.over) rfl ?_
                                          refine X_move rfl rfl rfl rfl ?_
                                          refine X_move rfl rfl rfl rfl ?_
                                          refine X_fhR rfl rfl F.ok18 rfl (Lose_ok _ b 60 _ _ _ addr (by first | exact hb4 | exact hb2)) (by repeat first | exact Rem.here _ | apply Rem.skip | apply Rem.over) (fun _ _ _ hm hw => (hw.lower (by first | exact hm | exact Mem.le.trans (by assumption) hm)).cnt (by intro zz; first | exact Nat.le_refl _ | (simp only [cnt_app, cnt_cons, cnt_nil, cat, List.append_assoc, List.cons_append, List.nil_append]; omega))) (putE_some rfl) ?_
                                          rintro _ M4 Hb4 hm4 ⟨rfl, hb4⟩
                                          refine X_assign rfl rfl rfl rfl ?_
                                          refine XD_end ?_
                                          refine K_then ?_
                                          refine C_pick (.cons (k := 20) rfl (.cons (k := 19) rfl (.cons (k := 18) rfl (.cons (k := 9) rfl (.cons (k := 7) rfl (.cons (k := 6) rfl (.cons (k := 1) rfl .nil))))))) ?_
                                          refine C_seq ?_
                                          refine C_regionR (l := [0, 1, 2, 3, 4, 5, 6, 7, 8, 9, 10, 11, 12, 13, 14, 15, 16, 17, 18, 19, 20, 21, 22, 23, 24, 25, 26, 27, 28, 29, 30, 31, 32, 33]) (Hin := Hb4) (by repeat first | exact Rem.here _ | apply Rem.skip | apply Rem.over) rfl ?_
                                          refine X_fs rfl rfl F.ok10 rfl (packed_ok _) rfl ?_
                                          rintro _ rfl
                                          refine X_move rfl rfl rfl rfl ?_
                                          refine XD_part 150 rfl (fun hc67 => ?_) (fun hc67 => ?_)
                                          · first | replace hc67 := dT hc67 | replace hc67 := dF hc67 | replace hc67 := nT hc67 | replace hc67 := nF hc67 | skip
                                            first
                                            | (exfalso; omega)
                                            | (exfalso; simp [eqX] at hc67; done)
                                            | skip
                                              refine X_move rfl rfl rfl rfl ?_
                                              refine X_len_sl rfl rfl rfl rfl F.elem47 rfl ?_
                                              refine X_move rfl rfl rfl rfl ?_
                                              refine X_cmp rfl rfl rfl rfl rfl rfl ?_
                                              refine X_pick rfl rfl rfl rfl rfl ?_
                                              refine X_move rfl rfl rfl rfl ?_
                                              refine XD_part 156 rfl (fun hc68 => ?_) (fun hc68 => ?_)
                                              · first | replace hc68 := dT hc68 | replace hc68 := dF hc68 | replace hc68 := nT hc68 | replace hc68 := nF hc68 | skip
                                                first
                                                | (exfalso; omega)
                                                | (exfalso; simp [eqX] at hc68; done)
                                                | skip
                                                  refine X_move rfl rfl rfl rfl ?_
                                                  refine X_move rfl rfl rfl rfl ?_
                                                  refine X_cmp rfl rfl rfl rfl rfl rfl ?_
                                                  refine X_pick rfl rfl rfl rfl rfl ?_
                                                  refine X_move rfl rfl rfl rfl ?_
                                                  refine XD_part 161 rfl (fun hc69 => ?_) (fun hc69 => ?_)
                                                  · first | replace hc69 := dT hc69 | replace hc69 := dF hc69 | replace hc69 := nT hc69 | replace hc69 := nF hc69 | skip
                                                    first
                                                    | (exfalso; omega)
                                                    | (exfalso; simp [eqX] at hc69; done)
                                                    | skip
                                                      refine X_move rfl rfl rfl rfl ?_
                                                      refine X_fo rfl rfl F.ok11 rfl (Size_ok _ b 60 _ _ _ (by first | exact hb4 | exact hb2)) (by repeat first | exact Rem.here _ | apply Rem.skip | apply Rem.over) (putE_some rfl) ?_
                                                      rintro _ M1 _ ⟨hM1, rfl⟩; subst M1
                                                      refine X_move rfl rfl rfl rfl ?_
                                                      refine X_move rfl rfl rfl rfl ?_
                                                      refine X_ari rfl rfl rfl rfl rfl (by first | exact wrap_in (by decide) (by omega) | rfl) rfl ?_
                                                      refine X_cmp rfl rfl rfl rfl rfl rfl ?_
                                                      refine X_pick rfl rfl rfl rfl rfl ?_
                                                      refine X_move rfl rfl rfl rfl ?_
                                                      refine XD_part 169 rfl (fun hc70 => ?_) (fun hc70 => ?_)
                                                      · first | replace hc70 := dT hc70 | replace hc70 := dF hc70 | replace hc70 := nT hc70 | replace hc70 := nF hc70 | skip
                                                        first
                                                        | (exfalso; omega)
                                                        | (exfalso; simp [eqX] at hc70; done)
                                                        | skip
                                                          refine X_move rfl rfl rfl rfl ?_
                                                          refine X_move rfl rfl rfl rfl ?_
                                                          refine X_fo rfl rfl F.ok17 rfl (To_ok _ b 60 _ _ _ addr (by first | exact hb4 | exact hb2)) (by repeat first | exact Rem.here _ | apply Rem.skip | apply Rem.over) (putE_some rfl) ?_
                                                          rintro _ M5 hm5 ⟨ad5, c5, rfl, hsl5⟩
                                                          refine X_len_sl rfl rfl rfl rfl F.elem47 rfl ?_
                                                          refine X_cmp rfl rfl rfl rfl rfl rfl ?_
                                                          refine X_pick rfl rfl rfl rfl rfl ?_
                                                          refine X_move rfl rfl rfl rfl ?_
                                                          refine XD_part 176 rfl (fun hc71 => ?_) (fun hc71 => ?_)
                                                          · first | replace hc71 := dT hc71 | replace hc71 := dF hc71 | replace hc71 := nT hc71 | replace hc71 := nF hc71 | skip
                                                            first
                                                            | (exfalso; omega)
                                                            | (exfalso; simp [eqX] at hc71; done)
                                                            | skip
                                                              refine X_move rfl rfl rfl rfl ?_
                                                              refine X_move rfl rfl rfl rfl ?_
                                                              refine X_fhR rfl rfl F.ok18 rfl (Lose_ok _ b 60 _ _ _ addr (by first | exact hb4 | exact hb2)) (by repeat first | exact Rem.here _ | apply Rem.skip | apply Rem.over) (fun _ _ _ hm hw => (hw.lower (by first | exact hm | exact Mem.le.trans (by assumption) hm)).cnt (by intro zz; first | exact Nat.le_refl _ | (simp only [cnt_app, cnt_cons, cnt_nil, cat, List.append_assoc, List.cons_append, List.nil_append]; omega))) (putE_some rfl) ?_
                                                              rintro _ M6 Hb6 hm6 ⟨rfl, hb6⟩
                                                              refine X_cmp rfl rfl rfl rfl rfl rfl ?_
                                                              refine X_pick rfl rfl rfl rfl rfl ?_
                                                              refine X_assign rfl rfl rfl rfl ?_
                                                              refine XD_end ?_
                                                              refine K_then ?_
                                                              refine C_pick (.cons (k := 6) rfl .nil) ?_
                                                              refine C_ret ?_
                                                              refine K_end (.inr rfl) (.tmp rfl .nil) (fun w hw => ?_)
                                                              refine ⟨_, _, rfl, ?_, hw.cnt (by intro zz; first | exact Nat.le_refl _ | (simp only [cnt_app, cnt_cons, cnt_nil, cat, List.append_assoc, List.cons_append, List.nil_append]; omega)), ?_⟩
                                                              · exact (by first | exact Mem.le.refl _ | (repeat first | assumption | refine Mem.le.trans (by assumption) ?_))
                                                              · first | rfl | exact congrArg Value.bool (decide_eq_true (by omega)) | (simp [resV]; omega)
                                                          · first | replace hc71 := dT hc71 | replace hc71 := dF hc71 | replace hc71 := nT hc71 | replace hc71 := nF hc71 | skip
                                                            first | (exfalso; omega) | (exfalso; simp [eqX] at hc71; done)
                                                      · first | replace hc70 := dT hc70 | replace hc70 := dF hc70 | replace hc70 := nT hc70 | replace hc70 := nF hc70 | skip
                                                        first | (exfalso; omega) | (exfalso; simp [eqX] at hc70; done)
                                                  · first | replace hc69 := dT hc69 | replace hc69 := dF hc69 | replace hc69 := nT hc69 | replace hc69 := nF hc69 | skip
                                                    first | (exfalso; omega) | (exfalso; simp [eqX] at hc69; done)
                                              · first | replace hc68 := dT hc68 | replace hc68 := dF hc68 | replace hc68 := nT hc68 | replace hc68 := nF hc68 | skip
                                                first | (exfalso; omega) | (exfalso; simp [eqX] at hc68; done)
                                          · first | replace hc67 := dT hc67 | replace hc67 := dF hc67 | replace hc67 := nT hc67 | replace hc67 := nF hc67 | skip
                                            first | (exfalso; omega) | (exfalso; simp [eqX] at hc67; done)
                                  · first | replace hc60 := dT hc60 | replace hc60 := dF hc60 | replace hc60 := nT hc60 | replace hc60 := nF hc60 | skip
                                    first
                                    | (exfalso; omega)
                                    | (exfalso; simp [eqX] at hc60; done)
                                    | skip
                                      refine X_skip rfl rfl rfl ?_
                                      refine X_skip rfl rfl rfl ?_
                                      refine X_skip rfl rfl rfl ?_
                                      refine X_skip rfl rfl rfl ?_
                                      refine X_pick rfl rfl rfl rfl rfl ?_
                                      refine XD_end ?_
                                      refine K_then ?_
                                      refine C_pick (.cons (k := 138) rfl (.cons (k := 9) rfl (.cons (k := 7) rfl (.cons (k := 6) rfl (.cons (k := 1) rfl .nil))))) ?_
                                      refine C_false rfl ?_
                                      refine C_skip ?_
                                      refine K_then ?_
                                      refine C_pick (.cons (k := 9) rfl (.cons (k := 7) rfl (.cons (k := 6) rfl (.cons (k := 1) rfl .nil)))) ?_
                                      refine C_seq ?_
                                      refine C_region (l := [0, 1, 2]) rfl ?_
                                      refine X_move rfl rfl rfl rfl ?_
                                      refine X_fo rfl rfl F.ok11 rfl (Size_ok _ b 60 _ _ _ (by first | exact hb4 | exact hb2)) (by repeat first | exact Rem.here _ | apply Rem.skip | apply Rem.over) (putE_some rfl) ?_
                                      rintro _ M1 _ ⟨hM1, rfl⟩; subst M1
                                      refine X_assign rfl rfl rfl rfl ?_
                                      refine XD_end ?_
                                      refine K_then ?_
                                      refine C_pick (.cons (k := 18) rfl (.cons (k := 9) rfl (.cons (k := 7) rfl (.cons (k := 6) rfl (.cons (k := 1) rfl .nil))))) ?_
                                      refine C_seq ?_
                                      refine C_region (l := [0, 1, 2, 3]) rfl ?_
                                      refine X_move rfl rfl rfl rfl ?_
                                      refine X_move rfl rfl rfl rfl ?_
                                      refine X_fo rfl rfl F.ok17 rfl (To_ok _ b 60 _ _ _ addr (by first | exact hb4 | exact hb2)) (by repeat first | exact Rem.here _ | apply Rem.skip | apply Rem.over) (putE_some rfl) ?_
                                      rintro _ M5 hm5 ⟨ad5, c5, rfl, hsl5⟩
                                      refine X_assign rfl rfl rfl rfl ?_
                                      refine XD_end ?_
                                      refine K_then ?_
                                      refine C_pick (.cons (k := 19) rfl (.cons (k := 18) rfl (.cons (k := 9) rfl (.cons (k := 7) rfl (.cons (k := 6) rfl (.cons (k := 1) rfl .nil)))))) ?_
                                      refine C_seq ?_
                                      refine C_regionR (l := [0, 1, 2, 3]) (Hin := Hb2) (by repeat first | exact Rem.here _ | apply Rem.skip | apply Rem.over) rfl ?_
                                      refine X_move rfl rfl rfl rfl ?_
                                      refine X_move rfl rfl rfl rfl ?_
                                      refine X_fhR rfl rfl F.ok18 rfl (Lose_ok _ b 60 _ _ _ addr (by first | exact hb4 | exact hb2)) (by repeat first | exact Rem.here _ | apply Rem.skip | apply Rem.over) (fun _ _ _ hm hw => (hw.lower (by first | exact hm | exact Mem.le.trans (by assumption) hm)).cnt (by intro zz; first | exact Nat.le_refl _ | (simp only [cnt_app, cnt_cons, cnt_nil, cat, List.append_assoc, List.cons_append, List.nil_append]; omega))) (putE_some rfl) ?_
                                      rintro _ M4 Hb4 hm4 ⟨rfl, hb4⟩
                                      refine X_assign rfl rfl rfl rfl ?_
                                      refine XD_end ?_
                                      refine K_then ?_
                                      refine C_pick (.cons (k := 20) rfl (.cons (k := 19) rfl (.cons (k := 18) rfl (.cons (k := 9) rfl (.cons (k := 7) rfl (.cons (k := 6) rfl (.cons (k := 1) rfl .nil))))))) ?_
                                      refine C_seq ?_
                                      refine C_regionR (l := [0, 1, 2, 3, 4, 5, 6, 7, 8, 9, 10, 11, 12, 13, 14, 15, 16, 17, 18, 19, 20, 21, 22, 23, 24, 25, 26, 27, 28, 29, 30, 31, 32, 33]) (Hin := Hb4) (by repeat first | exact Rem.here _ | apply Rem.skip | apply Rem.over) rfl ?_
                                      refine X_fs rfl rfl F.ok10 rfl (packed_ok _) rfl ?_
                                      rintro _ rfl
                                      refine X_move rfl rfl rfl rfl ?_
                                      refine XD_part 150 rfl (fun hc72 => ?_) (fun hc72 => ?_)
                                      · first | replace hc72 := dT hc72 | replace hc72 := dF hc72 | replace hc72 := nT hc72 | replace hc72 := nF hc72 | skip
                                        first
                                        | (exfalso; omega)
                                        | (exfalso; simp [eqX] at hc72; done)
                                        | skip
                                          refine X_move rfl rfl rfl rfl ?_
                                          refine X_len_sl rfl rfl rfl rfl F.elem47 rfl ?_
                                          refine X_move rfl rfl rfl rfl ?_
                                          refine X_cmp rfl rfl rfl rfl rfl rfl ?_
                                          refine X_pick rfl rfl rfl rfl rfl ?_
                                          refine X_move rfl rfl rfl rfl ?_
                                          refine XD_part 156 rfl (fun hc73 => ?_) (fun hc73 => ?_)
                                          · first | replace hc73 := dT hc73 | replace hc73 := dF hc73 | replace hc73 := nT hc73 | replace hc73 := nF hc73 | skip
                                            first
                                            | (exfalso; omega)
                                            | (exfalso; simp [eqX] at hc73; done)
                                            | skip
                                              refine X_move rfl rfl rfl rfl ?_
                                              refine X_move rfl rfl rfl rfl ?_
                                              refine X_cmp rfl rfl rfl rfl rfl rfl ?_
                                              refine X_pick rfl rfl rfl rfl rfl ?_
                                              refine X_move rfl rfl rfl rfl ?_
                                              refine XD_part 161 rfl (fun hc74 => ?_) (fun hc74 => ?_)
                                              · first | replace hc74 := dT hc74 | replace hc74 := dF hc74 | replace hc74 := nT hc74 | replace hc74 := nF hc74 | skip
                                                first
                                                | (exfalso; omega)
                                                | (exfalso; simp [eqX] at hc74; done)
                                                | skip
                                                  refine X_move rfl rfl rfl rfl ?_
                                                  refine X_fo rfl rfl F.ok11 rfl (Size_ok _ b 60 _ _ _ (by first | exact hb4 | exact hb2)) (by repeat first | exact Rem.here _ | apply Rem.skip | apply Rem.over) (putE_some rfl) ?_
                                                  rintro _ M1 _ ⟨hM1, rfl⟩; subst M1
                                                  refine X_move rfl rfl rfl rfl ?_
                                                  refine X_move rfl rfl rfl rfl ?_
                                                  refine X_ari rfl rfl rfl rfl rfl (by first | exact wrap_in (by decide) (by omega) | rfl) rfl ?_
                                                  refine X_cmp rfl rfl rfl rfl rfl rfl ?_
                                                  refine X_pick rfl rfl rfl rfl rfl ?_
                                                  refine X_move rfl rfl rfl rfl ?_
                                                  refine XD_part 169 rfl (fun hc75 => ?_) (fun hc75 => ?_)
                                                  · first | replace hc75 := dT hc75 | replace hc75 := dF hc75 | replace hc75 := nT hc75 | replace hc75 := nF hc75 | skip
                                                    first
                                                    | (exfalso; omega)
                                                    | (exfalso; simp [eqX] at hc75; done)
                                                    | skip
                                                      refine X_move rfl rfl rfl rfl ?_
                                                      refine X_move rfl rfl rfl rfl ?_
                                                      refine X_fo rfl rfl F.ok17 rfl (To_ok _ b 60 _ _ _ addr (by first | exact hb4 | exact hb2)) (by repeat first | exact Rem.here _ | apply Rem.skip | apply Rem.over) (putE_some rfl) ?_
                                                      rintro _ M5 hm5 ⟨ad5, c5, rfl, hsl5⟩
                                                      refine X_len_sl rfl rfl rfl rfl F.elem47 rfl ?_
                                                      refine X_cmp rfl rfl rfl rfl rfl rfl ?_
                                                      refine X_pick rfl rfl rfl rfl rfl ?_
                                                      refine X_move rfl rfl rfl rfl ?_
                                                      refine XD_part 176 rfl (fun hc76 => ?_) (fun hc76 => ?_)
                                                      · first | replace hc76 := dT hc76 | replace hc76 := dF hc76 | replace hc76 := nT hc76 | replace hc76 := nF hc76 | skip
                                                        first
                                                        | (exfalso; omega)
                                                        | (exfalso; simp [eqX] at hc76; done)
                                                        | skip
                                                          refine X_move rfl rfl rfl rfl ?_
                                                          refine X_move rfl rfl rfl rfl ?_
                                                          refine X_fhR rfl rfl F.ok18 rfl (Lose_ok _ b 60 _ _ _ addr (by first | exact hb4 | exact hb2)) (by repeat first | exact Rem.here _ | apply Rem.skip | apply Rem.over) (fun _ _ _ hm hw => (hw.lower (by first | exact hm | exact Mem.le.trans (by assumption) hm)).cnt (by intro zz; first | exact Nat.le_refl _ | (simp only [cnt_app, cnt_cons, cnt_nil, cat, List.append_assoc, List.cons_append, List.nil_append]; omega))) (putE_some rfl) ?_
                                                          rintro _ M6 Hb6 hm6 ⟨rfl, hb6⟩
                                                          refine X_cmp rfl rfl rfl rfl rfl rfl ?_
                                                          refine X_pick rfl rfl rfl rfl rfl ?_
                                                          refine X_assign rfl rfl rfl rfl ?_
                                                          refine XD_end ?_
                                                          refine K_then ?_
                                                          refine C_pick (.cons (k := 6) rfl .nil) ?_
                                                          refine C_ret ?_
                                                          refine K_end (.inr rfl) (.tmp rfl .nil) (fun w hw => ?_)
                                                          refine ⟨_, _, rfl, ?_, hw.cnt (by intro zz; first | exact Nat.le_refl _ | (simp only [cnt_app, cnt_cons, cnt_nil, cat, List.append_assoc, List.cons_append, List.nil_append]; omega)), ?_⟩
                                                          · exact (by first | exact Mem.le.refl _ | (repeat first | assumption | refine Mem.le.trans (by assumption) ?_))
                                                          · first | rfl | exact congrArg Value.bool (decide_eq_true (by omega)) | (simp [resV]; omega)
                                                      · first | replace hc76 := dT hc76 | replace hc76 := dF hc76 | replace hc76 := nT hc76 | replace hc76 := nF hc76 | skip
                                                        first | (exfalso; omega) | (exfalso; simp [eqX] at hc76; done)
                                                  · first | replace hc75 := dT hc75 | replace hc75 := dF hc75 | replace hc75 := nT hc75 | replace hc75 := nF hc75 | skip
                                                    first | (exfalso; omega) | (exfalso; simp [eqX] at hc75; done)
                                              · first | replace hc74 := dT hc74 | replace hc74 := dF hc74 | replace hc74 := nT hc74 | replace hc74 := nF hc74 | skip
                                                first | (exfalso; omega) | (exfalso; simp [eqX] at hc74; done)
                                          · first | replace hc73 := dT hc73 | replace hc73 := dF hc73 | replace hc73 := nT hc73 | replace hc73 := nF hc73 | skip
                                            first | (exfalso; omega) | (exfalso; simp [eqX] at hc73; done)
                                      · first | replace hc72 := dT hc72 | replace hc72 := dF hc72 | replace hc72 := nT hc72 | replace hc72 := nF hc72 | skip
                                        first | (exfalso; omega) | (exfalso; simp [eqX] at hc72; done)
                          · first | replace hc58 := dT hc58 | replace hc58 := dF hc58 | replace hc58 := nT hc58 | replace hc58 := nF hc58 | skip
                            first
                            | (exfalso; omega)
                            | (exfalso; simp [eqX] at hc58; done)
                            | skip
                              refine X_skip rfl rfl rfl ?_
                              refine X_skip rfl rfl rfl ?_
                              refine X_skip rfl rfl rfl ?_
                              refine X_skip rfl rfl rfl ?_
                              refine X_skip rfl rfl rfl ?_
                              refine X_pick rfl rfl rfl rfl rfl ?_
                              refine X_pick rfl rfl rfl rfl rfl ?_
                              refine XD_end ?_
                              refine K_then ?_
                              refine C_pick (.cons (k := 130) rfl (.cons (k := 12) rfl (.cons (k := 11) rfl (.cons (k := 9) rfl (.cons (k := 7) rfl (.cons (k := 6) rfl (.cons (k := 1) rfl .nil))))))) ?_
                              refine C_false rfl ?_
                              refine C_skip ?_
                              refine K_then ?_
                              refine C_pick (.cons (k := 12) rfl (.cons (k := 11) rfl (.cons (k := 9) rfl (.cons (k := 7) rfl (.cons (k := 6) rfl (.cons (k := 1) rfl .nil)))))) ?_
                              refine C_seq ?_
                              refine C_seq ?_
                              refine C_region (l := [0, 1, 2, 3, 4, 5, 6, 7]) rfl ?_
                              refine X_move rfl rfl rfl rfl ?_
                              refine X_cmp rfl rfl rfl rfl rfl rfl ?_
                              refine X_move rfl rfl rfl rfl ?_
                              refine XD_part 133 rfl (fun hc77 => ?_) (fun hc77 => ?_)
                              · first | replace hc77 := dT hc77 | replace hc77 := dF hc77 | replace hc77 := nT hc77 | replace hc77 := nF hc77 | skip
                                first
                                | (exfalso; omega)
                                | (exfalso; simp [eqX] at hc77; done)
                                | skip
                                  first | refine X_fieldAddr rfl rfl rfl F.foff28_1 rfl ?_ | refine X_fieldAddr_el rfl rfl rfl (by first | exact ⟨_, _, rfl⟩ | assumption | exact SlM.plain (by assumption) (by simp; omega) | exact RdS.plain (by assumption) (by simp; omega) | exact OSl.plain (by assumption) (by simp; omega)) F.foff28_1 rfl ?_
                                  first | refine X_load rfl rfl rfl (by repeat first | exact List.Mem.head _ | refine List.Mem.tail _ ?_ | refine List.mem_append_right _ ?_) F.lay3 rfl rfl rfl ?_ | refine X_load_el rfl rfl rfl (by first | assumption | exact SlM.mono (by assumption) (by assumption)) (by first | exact row_map (by omega) | exact List.getElem?_eq_getElem (by omega)) F.lay3 rfl rfl rfl ?_ | refine X_load_rd rfl rfl rfl (by assumption) (by first | exact row_map (by omega) | exact List.getElem?_eq_getElem (by omega)) F.lay3 rfl rfl rfl ?_ | refine X_load_mem rfl rfl rfl (by first | assumption | exact Mem.get_of (by assumption) (by repeat first | assumption | refine Mem.le.trans (by assumption) ?_)) F.lay3 rfl rfl rfl ?_ | refine X_load_osl rfl rfl rfl (by assumption) (by repeat first | exact Rem.here _ | apply Rem.skip | apply Rem.over) (by first | exact row_map (by omega) | exact List.getElem?_eq_getElem (by omega)) F.lay3 rfl rfl rfl ?_
                                  refine X_move rfl rfl rfl rfl ?_
                                  refine X_cmp rfl rfl rfl rfl rfl rfl ?_
                                  refine X_pick rfl rfl rfl rfl rfl ?_
                                  refine XD_end ?_
                                  refine K_then ?_
                                  refine C_pick (.cons (k := 138) rfl (.cons (k := 9) rfl (.cons (k := 7) rfl (.cons (k := 6) rfl (.cons (k := 1) rfl .nil))))) ?_
                                  refine C_cond rfl (fun hc78 => ?_) (fun hc78 => ?_)
                                  · first | replace hc78 := dT hc78 | replace hc78 := dF hc78 | replace hc78 := nT hc78 | replace hc78 := nF hc78 | skip
                                    first
                                    | (exfalso; omega)
                                    | (exfalso; simp [eqX] at hc78; done)
                                    | skip
                                      refine C_region (l := [0, 1, 2]) rfl ?_
                                      refine X_move rfl rfl rfl rfl ?_
                                      refine X_ari rfl rfl rfl rfl rfl (by first | exact wrap_in (by decide) (by omega) | rfl) rfl ?_
                                      refine X_assign rfl rfl rfl rfl ?_
                                      refine XD_end ?_
                                      refine K_then ?_
                                      refine C_pick (.cons (k := 9) rfl (.cons (k := 7) rfl (.cons (k := 6) rfl (.cons (k := 1) rfl .nil)))) ?_
                                      refine C_seq ?_
                                      refine C_region (l := [0, 1, 2]) rfl ?_
                                      refine X_move rfl rfl rfl rfl ?_
                                      refine X_fo rfl rfl F.ok11 rfl (Size_ok _ b 60 _ _ _ (by first | exact hb4 | exact hb2)) (by repeat first | exact Rem.here _ | apply Rem.skip | apply Rem.over) (putE_some rfl) ?_
                                      rintro _ M1 _ ⟨hM1, rfl⟩; subst M1
                                      refine X_assign rfl rfl rfl rfl ?_
                                      refine XD_end ?_
                                      refine K_then ?_
                                      refine C_pick (.cons (k := 18) rfl (.cons (k := 9) rfl (.cons (k := 7) rfl (.cons (k := 6) rfl (.cons (k := 1) rfl .nil))))) ?_
                                      refine C_seq ?_
                                      refine C_region (l := [0, 1, 2, 3]) rfl ?_
                                      refine X_move rfl rfl rfl rfl ?_
                                      refine X_move rfl rfl rfl rfl ?_
                                      refine X_fo rfl rfl F.ok17 rfl (To_ok _ b 60 _ _ _ addr (by first | exact hb4 | exact hb2)) (by repeat first | exact Rem.here _ | apply Rem.skip | apply Rem.over) (putE_some rfl) ?_
                                      rintro _ M5 hm5 ⟨ad5, c5, rfl, hsl5⟩
                                      refine X_assign rfl rfl rfl rfl ?_
                                      refine XD_end ?_
                                      refine K_then ?_
                                      refine C_pick (.cons (k := 19) rfl (.cons (k := 18) rfl (.cons (k := 9) rfl (.cons (k := 7) rfl (.cons (k := 6) rfl (.cons (k := 1) rfl .nil)))))) ?_
                                      refine C_seq ?_
                                      refine C_regionR (l := [0, 1, 2, 3]) (Hin := Hb2) (by repeat first | exact Rem.here _ | apply Rem.skip | apply Rem.over) rfl ?_
                                      refine X_move rfl rfl rfl rfl ?_
                                      refine X_move rfl rfl rfl rfl ?_
                                      refine X_fhR rfl rfl F.ok18 rfl (Lose_ok _ b 60 _ _ _ addr (by first | exact hb4 | exact hb2)) (by repeat first | exact Rem.here _ | apply Rem.skip | apply Rem.over) (fun _ _ _ hm hw => (hw.lower (by first | exact hm | exact Mem.le.trans (by assumption) hm)).cnt (by intro zz; first | exact Nat.le_refl _ | (simp only [cnt_app, cnt_cons, cnt_nil, cat, List.append_assoc, List.cons_append, List.nil_append]; omega))) (putE_some rfl) ?_
                                      rintro _ M4 Hb4 hm4 ⟨rfl, hb4⟩
                                      refine X_assign rfl rfl rfl rfl ?_
                                      refine XD_end ?_
                                      refine K_then ?_
                                      refine C_pick (.cons (k := 20) rfl (.cons (k := 19) rfl (.cons (k := 18) rfl (.cons (k := 9) rfl (.cons (k := 7) rfl (.cons (k := 6) rfl (.cons (k := 1) rfl .nil))))))) ?_
                                      refine C_seq ?_
                                      refine C_regionR (l := [0, 1, 2, 3, 4, 5, 6, 7, 8, 9, 10, 11, 12, 13, 14, 15, 16, 17, 18, 19, 20, 21, 22, 23, 24, 25, 26, 27, 28, 29, 30, 31, 32, 33]) (Hin := Hb4) (by repeat first | exact Rem.here _ | apply Rem.skip | apply Rem.over) rfl ?_
                                      refine X_fs rfl rfl F.ok10 rfl (packed_ok _) rfl ?_
                                      rintro _ rfl
                                      refine X_move rfl rfl rfl rfl ?_
                                      refine XD_part 150 rfl (fun hc79 => ?_) (fun hc79 => ?_)
                                      · first | replace hc79 := dT hc79 | replace hc79 := dF hc79 | replace hc79 := nT hc79 | replace hc79 := nF hc79 | skip
                                        first
                                        | (exfalso; omega)
                                        | (exfalso; simp [eqX] at hc79; done)
                                        | skip
                                          refine X_move rfl rfl rfl rfl ?_
                                          refine X_len_sl rfl rfl rfl rfl F.elem47 rfl ?_
                                          refine X_move rfl rfl rfl rfl ?_
                                          refine X_cmp rfl rfl rfl rfl rfl rfl ?_
                                          refine X_pick rfl rfl rfl rfl rfl ?_
                                          refine X_move rfl rfl rfl rfl ?_
                                          refine XD_part 156 rfl (fun hc80 => ?_) (fun hc80 => ?_)
                                          · first | replace hc80 := dT hc80 | replace hc80 := dF hc80 | replace hc80 := nT hc80 | replace hc80 := nF hc80 | skip
                                            first
                                            | (exfalso; omega)
                                            | (exfalso; simp [eqX] at hc80; done)
                                            | skip
                                              refine X_move rfl rfl rfl rfl ?_
                                              refine X_move rfl rfl rfl rfl ?_
                                              refine X_cmp rfl rfl rfl rfl rfl rfl ?_
                                              refine X_pick rfl rfl rfl rfl rfl ?_
                                              refine X_move rfl rfl rfl rfl ?_
                                              refine XD_part 161 rfl (fun hc81 => ?_) (fun hc81 => ?_)
                                              · first | replace hc81 := dT hc81 | replace hc81 := dF hc81 | replace hc81 := nT hc81 | replace hc81 := nF hc81 | skip
                                                first
                                                | (exfalso; omega)
                                                | (exfalso; simp [eqX] at hc81; done)
                                                | skip
                                                  refine X_move rfl rfl rfl rfl ?_
                                                  refine X_fo rfl rfl F.ok11 rfl (Size_ok _ b 60 _ _ _ (by first | exact hb4 | exact hb2)) (by repeat first | exact Rem.here _ | apply Rem.skip | apply Rem.over) (putE_some rfl) ?_
                                                  rintro _ M1 _ ⟨hM1, rfl⟩; subst M1
                                                  refine X_move rfl rfl rfl rfl ?_
                                                  refine X_move rfl rfl rfl rfl ?_
                                                  refine X_ari rfl rfl rfl rfl rfl (by first | exact wrap_in (by decide) (by omega) | rfl) rfl ?_
                                                  refine X_cmp rfl rfl rfl rfl rfl rfl ?_
                                                  refine X_pick rfl rfl rfl rfl rfl ?_
                                                  refine X_move rfl rfl rfl rfl ?_
                                                  refine XD_part 169 rfl (fun hc82 => ?_) (fun hc82 => ?_)
                                                  · first | replace hc82 := dT hc82 | replace hc82 := dF hc82 | replace hc82 := nT hc82 | replace hc82 := nF hc82 | skip
                                                    first
                                                    | (exfalso; omega)
                                                    | (exfalso; simp [eqX] at hc82; done)
                                                    | skip
                                                      refine X_move rfl rfl rfl rfl ?_
                                                      refine X_move rfl rfl rfl rfl ?_
                                                      refine X_fo rfl rfl F.ok17 rfl (To_ok _ b 60 _ _ _ addr (by first | exact hb4 | exact hb2)) (by repeat first | exact Rem.here _ | apply Rem.skip | apply Rem.over) (putE_some rfl) ?_
                                                      rintro _ M5 hm5 ⟨ad5, c5, rfl, hsl5⟩
                                                      refine X_len_sl rfl rfl rfl rfl F.elem47 rfl ?_
                                                      refine X_cmp rfl rfl rfl rfl rfl rfl ?_
                                                      refine X_pick rfl rfl rfl rfl rfl ?_
                                                      refine X_move rfl rfl rfl rfl ?_
                                                      refine XD_part 176 rfl (fun hc83 => ?_) (fun hc83 => ?_)
                                                      · first | replace hc83 := dT hc83 | replace hc83 := dF hc83 | replace hc83 := nT hc83 | replace hc83 := nF hc83 | skip
                                                        first
                                                        | (exfalso; omega)
                                                        | (exfalso; simp [eqX] at hc83; done)
                                                        | skip
                                                          refine X_move rfl rfl rfl rfl ?_
                                                          refine X_move rfl rfl rfl rfl ?_
                                                          refine X_fhR rfl rfl F.ok18 rfl (Lose_ok _ b 60 _ _ _ addr (by first | exact hb4 | exact hb2)) (by repeat first | exact Rem.here _ | apply Rem.skip | apply Rem.over) (fun _ _ _ hm hw => (hw.lower (by first | exact hm | exact Mem.le.trans (by assumption) hm)).cnt (by intro zz; first | exact Nat.le_refl _ | (simp only [cnt_app, cnt_cons, cnt_nil, cat, List.append_assoc, List.cons_append, List.nil_append]; omega))) (putE_some rfl) ?_
                                                          rintro _ M6 Hb6 hm6 ⟨rfl, hb6⟩
                                                          refine X_cmp rfl rfl rfl rfl rfl rfl ?_
                                                          refine X_pick rfl rfl rfl rfl rfl ?_
                                                          refine X_assign rfl rfl rfl rfl ?_
                                                          refine XD_end ?_
                                                          refine K_then ?_
                                                          refine C_pick (.cons (k := 6) rfl .nil) ?_
                                                          refine C_ret ?_
                                                          refine K_end (.inr rfl) (.tmp rfl .nil) (fun w hw => ?_)
                                                          refine ⟨_, _, rfl, ?_, hw.cnt (by intro zz; first | exact Nat.le_refl _ | (simp only [cnt_app, cnt_cons, cnt_nil, cat, List.append_assoc, List.cons_append, List.nil_append]; omega)), ?_⟩
                                                          · exact (by first | exact Mem.le.refl _ | (repeat first | assumption | refine Mem.le.trans (by assumption) ?_))
                                                          · first | rfl | exact congrArg Value.bool (decide_eq_true (by omega)) | (simp [resV]; omega)
                                                      · first | replace hc83 := dT hc83 | replace hc83 := dF hc83 | replace hc83 := nT hc83 | replace hc83 := nF hc83 | skip
                                                        first | (exfalso; omega) | (exfalso; simp [eqX] at hc83; done)
                                                  · first | replace hc82 := dT hc82 | replace hc82 := dF hc82 | replace hc82 := nT hc82 | replace hc82 := nF hc82 | skip
                                                    first | (exfalso; omega) | (exfalso; simp [eqX] at hc82; done)
                                              · first | replace hc81 := dT hc81 | replace hc81 := dF hc81 | replace hc81 := nT hc81 | replace hc81 := nF hc81 | skip
                                                first | (exfalso; omega) | (exfalso; simp [eqX] at hc81; done)
                                          · first | replace hc80 := dT hc80 | replace hc80 := dF hc80 | replace hc80 := nT hc80 | replace hc80 := nF hc80 | skip
                                            first | (exfalso; omega) | (exfalso; simp [eqX] at hc80; done)
                                      · first | replace hc79 := dT hc79 | replace hc79 := dF hc79 | replace hc79 := nT hc79 | replace hc79 := nF hc79 | skip
                                        first | (exfalso; omega) | (exfalso; simp [eqX] at hc79; done)
                                  · first | replace hc78 := dT hc78 | replace hc78 := dF hc78 | replace hc78 := nT hc78 | replace hc78 := nF hc78 | skip
                                    first
                                    | (exfalso; omega)
                                    | (exfalso; simp [eqX] at hc78; done)
                                    | skip
                                      refine C_skip ?_
                                      refine K_then ?_
                                      refine C_pick (.cons (k := 9) rfl (.cons (k := 7) rfl (.cons (k := 6) rfl (.cons (k := 1) rfl .nil)))) ?_
                                      refine C_seq ?_
                                      refine C_region (l := [0, 1, 2]) rfl ?_
                                      refine X_move rfl rfl rfl rfl ?_
                                      refine X_fo rfl rfl F.ok11 rfl (Size_ok _ b 60 _ _ _ (by first | exact hb4 | exact hb2)) (by repeat first | exact Rem.here _ | apply Rem.skip | apply Rem.over) (putE_some rfl) ?_
                                      rintro _ M1 _ ⟨hM1, rfl⟩; subst M1
                                      refine X_assign rfl rfl rfl rfl ?_
                                      refine XD_end ?_
                                      refine K_then ?_
                                      refine C_pick (.cons (k := 18) rfl (.cons (k := 9) rfl (.cons (k := 7) rfl (.cons (k := 6) rfl (.cons (k := 1) rfl .nil))))) ?_
                                      refine C_seq ?_
                                      refine C_region (l := [0, 1, 2, 3]) rfl ?_
                                      refine X_move rfl rfl rfl rfl ?_
                                      refine X_move rfl rfl rfl rfl ?_
                                      refine X_fo rfl rfl F.ok17 rfl (To_ok _ b 60 _ _ _ addr (by first | exact hb4 | exact hb2)) (by repeat first | exact Rem.here _ | apply Rem.skip | apply Rem.over) (putE_some rfl) ?_
                                      rintro _ M5 hm5 ⟨ad5, c5, rfl, hsl5⟩
                                      refine X_assign rfl rfl rfl rfl ?_
                                      refine XD_end ?_
                                      refine K_then ?_
                                      refine C_pick (.cons (k := 19) rfl (.cons (k := 18) rfl (.cons (k := 9) rfl (.cons (k := 7) rfl (.cons (k := 6) rfl (.cons (k := 1) rfl .nil)))))) ?_
                                      refine C_seq ?_
                                      refine C_regionR (l := [0, 1, 2, 3]) (Hin := Hb2) (by repeat first | exact Rem.here _ | apply Rem.skip | apply Rem.over) rfl ?_
                                      refine X_move rfl rfl rfl rfl ?_
                                      refine X_move rfl rfl rfl rfl ?_
                                      refine X_fhR rfl rfl F.ok18 rfl (Lose_ok _ b 60 _ _ _ addr (by first | exact hb4 | exact hb2)) (by repeat first | exact Rem.here _ | apply Rem.skip | apply Rem.over) (fun _ _ _ hm hw => (hw.lower (by first | exact hm | exact Mem.le.trans (by assumption) hm)).cnt (by intro zz; first | exact Nat.le_refl _ | (simp only [cnt_app, cnt_cons, cnt_nil, cat, List.append_assoc, List.cons_append, List.nil_append]; omega))) (putE_some rfl) ?_
                                      rintro _ M4 Hb4 hm4 ⟨rfl, hb4⟩
                                      refine X_assign rfl rfl rfl rfl ?_
                                      refine XD_end ?_
                                      refine K_then ?_
                                      refine C_pick (.cons (k := 20) rfl (.cons (k := 19) rfl (.cons (k := 18) rfl (.cons (k := 9) rfl (.cons (k := 7) rfl (.cons (k := 6) rfl (.cons (k := 1) rfl .nil))))))) ?_
                                      refine C_seq ?_
                                      refine C_regionR (l := [0, 1, 2, 3, 4, 5, 6, 7, 8, 9, 10, 11, 12, 13, 14, 15, 16, 17, 18, 19, 20, 21, 22, 23, 24, 25, 26, 27, 28, 29, 30, 31, 32, 33]) (Hin := Hb4) (by repeat first | exact Rem.here _ | apply Rem.skip | apply Rem.over) rfl ?_
                                      refine X_fs rfl rfl F.ok10 rfl (packed_ok _) rfl ?_
                                      rintro _ rfl
                                      refine X_move rfl rfl rfl rfl ?_
                                      refine XD_part 150 rfl (fun hc84 => ?_) (fun hc84 => ?_)
                                      · first | replace hc84 := dT hc84 | replace hc84 := dF hc84 | replace hc84 := nT hc84 | replace hc84 := nF hc84 | skip
                                        first
                                        | (exfalso; omega)
                                        | (exfalso; simp [eqX] at hc84; done)
                                        | skip
                                          refine X_move rfl rfl rfl rfl ?_
                                          refine X_len_sl rfl rfl rfl rfl F.elem47 rfl ?_
                                          refine X_move rfl rfl rfl rfl ?_
                                          refine X_cmp rfl rfl rfl rfl rfl rfl ?_
                                          refine X_pick rfl rfl rfl rfl rfl ?_
                                          refine X_move rfl rfl rfl rfl ?_
                                          refine XD_part 156 rfl (fun hc85 => ?_) (fun hc85 => ?_)
                                          · first | replace hc85 := dT hc85 | replace hc85 := dF hc85 | replace hc85 := nT hc85 | replace hc85 := nF hc85 | skip
                                            first
                                            | (exfalso; omega)
                                            | (exfalso; simp [eqX] at hc85; done)
                                            | skip
                                              refine X_move rfl rfl rfl rfl ?_
                                              refine X_move rfl rfl rfl rfl ?_
                                              refine X_cmp rfl rfl rfl rfl rfl rfl ?_
                                              refine X_pick rfl rfl rfl rfl rfl ?_
                                              refine X_move rfl rfl rfl rfl ?_
                                              refine XD_part 161 rfl (fun hc86 => ?_) (fun hc86 => ?_)
                                              · first | replace hc86 := dT hc86 | replace hc86 := dF hc86 | replace hc86 := nT hc86 | replace hc86 := nF hc86 | skip
                                                first
                                                | (exfalso; omega)
                                                | (exfalso; simp [eqX] at hc86; done)
                                                | skip
                                                  refine X_move rfl rfl rfl rfl ?_
                                                  refine X_fo rfl rfl F.ok11 rfl (Size_ok _ b 60 _ _ _ (by first | exact hb4 | exact hb2)) (by repeat first | exact Rem.here _ | apply Rem.skip | apply Rem.over) (putE_some rfl) ?_
                                                  rintro _ M1 _ ⟨hM1, rfl⟩; subst M1
                                                  refine X_move rfl rfl rfl rfl ?_
                                                  refine X_move rfl rfl rfl rfl ?_
                                                  refine X_ari rfl rfl rfl rfl rfl (by first | exact wrap_in (by decide) (by omega) | rfl) rfl ?_
                                                  refine X_cmp rfl rfl rfl rfl rfl rfl ?_
                                                  refine X_pick rfl rfl rfl rfl rfl ?_
                                                  refine X_move rfl rfl rfl rfl ?_
                                                  refine XD_part 169 rfl (fun hc87 => ?_) (fun hc87 => ?_)
                                                  · first | replace hc87 := dT hc87 | replace hc87 := dF hc87 | replace hc87 := nT hc87 | replace hc87 := nF hc87 | skip
                                                    first
                                                    | (exfalso; omega)
                                                    | (exfalso; simp [eqX] at hc87; done)
                                                    | skip
                                                      refine X_move rfl rfl rfl rfl ?_
                                                      refine X_move rfl rfl rfl rfl ?_
                                                      refine X_fo rfl rfl F.ok17 rfl (To_ok _ b 60 _ _ _ addr (by first | exact hb4 | exact hb2)) (by repeat first | exact Rem.here _ | apply Rem.skip | apply Rem.over) (putE_some rfl) ?_
                                                      rintro _ M5 hm5 ⟨ad5, c5, rfl, hsl5⟩
                                                      refine X_len_sl rfl rfl rfl rfl F.elem47 rfl ?_
                                                      refine X_cmp rfl rfl rfl rfl rfl rfl ?_
                                                      refine X_pick rfl rfl rfl rfl rfl ?_
                                                      refine X_move rfl rfl rfl rfl ?_
                                                      refine XD_part 176 rfl (fun hc88 => ?_) (fun hc88 => ?_)
                                                      · first | replace hc88 := dT hc88 | replace hc88 := dF hc88 | replace hc88 := nT hc88 | replace hc88 := nF hc88 | skip
                                                        first
                                                        | (exfalso; omega)
                                                        | (exfalso; simp [eqX] at hc88; done)
                                                        | skip
                                                          refine X_move rfl rfl rfl rfl ?_
                                                          refine X_move rfl rfl rfl rfl ?_
                                                          refine X_fhR rfl rfl F.ok18 rfl (Lose_ok _ b 60 _ _ _ addr (by first | exact hb4 | exact hb2)) (by repeat first | exact Rem.here _ | apply Rem.skip | apply Rem.over) (fun _ _ _ hm hw => (hw.lower (by first | exact hm | exact Mem.le.trans (by assumption) hm)).cnt (by intro zz; first | exact Nat.le_refl _ | (simp only [cnt_app, cnt_cons, cnt_nil, cat, List.append_assoc, List.cons_append, List.nil_append]; omega))) (putE_some rfl) ?_
                                                          rintro _ M6 Hb6 hm6 ⟨rfl, hb6⟩
                                                          refine X_cmp rfl rfl rfl rfl rfl rfl ?_
                                                          refine X_pick rfl rfl rfl rfl rfl ?_
                                                          refine X_assign rfl rfl rfl rfl ?_
                                                          refine XD_end ?_
                                                          refine K_then ?_
                                                          refine C_pick (.cons (k := 6) rfl .nil) ?_
                                                          refine C_ret ?_
                                                          refine K_end (.inr rfl) (.tmp rfl .nil) (fun w hw => ?_)
                                                          refine ⟨_, _, rfl, ?_, hw.cnt (by intro zz; first | exact Nat.le_refl _ | (simp only [cnt_app, cnt_cons, cnt_nil, cat, List.append_assoc, List.cons_append, List.nil_append]; omega)), ?_⟩
                                                          · exact (by first | exact Mem.le.refl _ | (repeat first | assumption | refine Mem.le.trans (by assumption) ?_))
                                                          · first | rfl | exact congrArg Value.bool (decide_eq_true (by omega)) | (simp [resV]; omega)
                                                      · first | replace hc88 := dT hc88 | replace hc88 := dF hc88 | replace hc88 := nT hc88 | replace hc88 := nF hc88 | skip
                                                        first | (exfalso; omega) | (exfalso; simp [eqX] at hc88; done)
                                                  · first | replace hc87 := dT hc87 | replace hc87 := dF hc87 | replace hc87 := nT hc87 | replace hc87 := nF hc87 | skip
                                                    first | (exfalso; omega) | (exfalso; simp [eqX] at hc87; done)
                                              · first | replace hc86 := dT hc86 | replace hc86 := dF hc86 | replace hc86 := nT hc86 | replace hc86 := nF hc86 | skip
                                                first | (exfalso; omega) | (exfalso; simp [eqX] at hc86; done)
                                          · first | replace hc85 := dT hc85 | replace hc85 := dF hc85 | replace hc85 := nT hc85 | replace hc85 := nF hc85 | skip
                                            first | (exfalso; omega) | (exfalso; simp [eqX] at hc85; done)
                                      · first | replace hc84 := dT hc84 | replace hc84 := dF hc84 | replace hc84 := nT hc84 | replace hc84 := nF hc84 | skip
                                        first | (exfalso; omega) | (exfalso; simp [eqX] at hc84; done)
                              · first | replace hc77 := dT hc77 | replace hc77 := dF hc77 | replace hc77 := nT hc77 | replace hc77 := nF hc77 | skip
                                first
                                | (exfalso; omega)
                                | (exfalso; simp [eqX] at hc77; done)
                                | skip
                                  refine X_skip rfl rfl rfl ?_
                                  refine X_skip rfl rfl rfl ?_
                                  refine X_skip rfl rfl rfl ?_
                                  refine X_skip rfl rfl rfl ?_
                                  refine X_pick rfl rfl rfl rfl rfl ?_
                                  refine XD_end ?_
                                  refine K_then ?_
                                  refine C_pick (.cons (k := 138) rfl (.cons (k := 9) rfl (.cons (k := 7) rfl (.cons (k := 6) rfl (.cons (k := 1) rfl .nil))))) ?_
                                  refine C_false rfl ?_
                                  refine C_skip ?_
                                  refine K_then ?_
                                  refine C_pick (.cons (k := 9) rfl (.cons (k := 7) rfl (.cons (k := 6) rfl (.cons (k := 1) rfl .nil)))) ?_
                                  refine C_seq ?_
                                  refine C_region (l := [0, 1, 2]) rfl ?_
                                  refine X_move rfl rfl rfl rfl ?_
                                  refine X_fo rfl rfl F.ok11 rfl (Size_ok _ b 60 _ _ _ (by first | exact hb4 | exact hb2)) (by repeat first | exact Rem.here _ | apply Rem.skip | apply Rem.over) (putE_some rfl) ?_
                                  rintro _ M1 _ ⟨hM1, rfl⟩; subst M1
                                  refine X_assign rfl rfl rfl rfl ?_
                                  refine XD_end ?_
                                  refine K_then ?_
                                  refine C_pick (.cons (k := 18) rfl (.cons (k := 9) rfl (.cons (k := 7) rfl (.cons (k := 6) rfl (.cons (k := 1) rfl .nil))))) ?_
                                  refine C_seq ?_
                                  refine C_region (l := [0, 1, 2, 3]) rfl ?_
                                  refine X_move rfl rfl rfl rfl ?_
                                  refine X_move rfl rfl rfl rfl ?_
                                  refine X_fo rfl rfl F.ok17 rfl (To_ok _ b 60 _ _ _ addr (by first | exact hb4 | exact hb2)) (by repeat first | exact Rem.here _ | apply Rem.skip | apply Rem.over) (putE_some rfl) ?_
                                  rintro _ M5 hm5 ⟨ad5, c5, rfl, hsl5⟩
                                  refine X_assign rfl rfl rfl rfl ?_
                                  refine XD_end ?_
                                  refine K_then ?_
                                  refine C_pick (.cons (k := 19) rfl (.cons (k := 18) rfl (.cons (k := 9) rfl (.cons (k := 7) rfl (.cons (k := 6) rfl (.cons (k := 1) rfl .nil)))))) ?_
                                  refine C_seq ?_
                                  refine C_regionR (l := [0, 1, 2, 3]) (Hin := Hb2) (by repeat first | exact Rem.here _ | apply Rem.skip | apply Rem.over) rfl ?_
                                  refine X_move rfl rfl rfl rfl ?_
                                  refine X_move rfl rfl rfl rfl ?_
                                  refine X_fhR rfl rfl F.ok18 rfl (Lose_ok _ b 60 _ _ _ addr (by first | exact hb4 | exact hb2)) (by repeat first | exact Rem.here _ | apply Rem.skip | apply Rem.over) (fun _ _ _ hm hw => (hw.lower (by first | exact hm | exact Mem.le.trans (by assumption) hm)).cnt (by intro zz; first | exact Nat.le_refl _ | (simp only [cnt_app, cnt_cons, cnt_nil, cat, List.append_assoc, List.cons_append, List.nil_append]; omega))) (putE_some rfl) ?_
                                  rintro _ M4 Hb4 hm4 ⟨rfl, hb4⟩
                                  refine X_assign rfl rfl rfl rfl ?_
                                  refine XD_end ?_
                                  refine K_then ?_
                                  refine C_pick (.cons (k := 20) rfl (.cons (k := 19) rfl (.cons (k := 18) rfl (.cons (k := 9) rfl (.cons (k := 7) rfl (.cons (k := 6) rfl (.cons (k := 1) rfl .nil))))))) ?_
                                  refine C_seq ?_
                                  refine C_regionR (l := [0, 1, 2, 3, 4, 5, 6, 7, 8, 9, 10, 11, 12, 13, 14, 15, 16, 17, 18, 19, 20, 21, 22, 23, 24, 25, 26, 27, 28, 29, 30, 31, 32, 33]) (Hin := Hb4) (by repeat first | exact Rem.here _ | apply Rem.skip | apply Rem.over) rfl ?_
                                  refine X_fs rfl rfl F.ok10 rfl (packed_ok _) rfl ?_
                                  rintro _ rfl
                                  refine X_move rfl rfl rfl rfl ?_
                                  refine XD_part 150 rfl (fun hc89 => ?_) (fun hc89 => ?_)
                                  · first | replace hc89 := dT hc89 | replace hc89 := dF hc89 | replace hc89 := nT hc89 | replace hc89 := nF hc89 | skip
                                    first
                                    | (exfalso; omega)
                                    | (exfalso; simp [eqX] at hc89; done)
                                    | skip
                                      refine X_move rfl rfl rfl rfl ?_
                                      refine X_len_sl rfl rfl rfl rfl F.elem47 rfl ?_
                                      refine X_move rfl rfl rfl rfl ?_
                                      refine X_cmp rfl rfl rfl rfl rfl rfl ?_
                                      refine X_pick rfl rfl rfl rfl rfl ?_
                                      refine X_move rfl rfl rfl rfl ?_
                                      refine XD_part 156 rfl (fun hc90 => ?_) (fun hc90 => ?_)
                                      · first | replace hc90 := dT hc90 | replace hc90 := dF hc90 | replace hc90 := nT hc90 | replace hc90 := nF hc90 | skip
                                        first
                                        | (exfalso; omega)
                                        | (exfalso; simp [eqX] at hc90; done)
                                        | skip
                                          refine X_move rfl rfl rfl rfl ?_
                                          refine X_move rfl rfl rfl rfl ?_
                                          refine X_cmp rfl rfl rfl rfl rfl rfl ?_
                                          refine X_pick rfl rfl rfl rfl rfl ?_
                                          refine X_move rfl rfl rfl rfl ?_
                                          refine XD_part 161 rfl (fun hc91 => ?_) (fun hc91 => ?_)
                                          · first | replace hc91 := dT hc91 | replace hc91 := dF hc91 | replace hc91 := nT hc91 | replace hc91 := nF hc91 | skip
                                            first
                                            | (exfalso; omega)
                                            | (exfalso; simp [eqX] at hc91; done)
                                            | skip
                                              refine X_move rfl rfl rfl rfl ?_
                                              refine X_fo rfl rfl F.ok11 rfl (Size_ok _ b 60 _ _ _ (by first | exact hb4 | exact hb2)) (by repeat first | exact Rem.here _ | apply Rem.skip | apply Rem.over) (putE_some rfl) ?_
                                              rintro _ M1 _ ⟨hM1, rfl⟩; subst M1
                                              refine X_move rfl rfl rfl rfl ?_
                                              refine X_move rfl rfl rfl rfl ?_
                                              refine X_ari rfl rfl rfl rfl rfl (by first | exact wrap_in (by decide) (by omega) | rfl) rfl ?_
                                              refine X_cmp rfl rfl rfl rfl rfl rfl ?_
                                              refine X_pick rfl rfl rfl rfl rfl ?_
                                              refine X_move rfl rfl rfl rfl ?_
                                              refine XD_part 169 rfl (fun hc92 => ?_) (fun hc92 => ?_)
                                              · first | replace hc92 := dT hc92 | replace hc92 := dF hc92 | replace hc92 := nT hc92 | replace hc92 := nF hc92 | skip
                                                first
                                                | (exfalso; omega)
                                                | (exfalso; simp [eqX] at hc92; done)
                                                | skip
                                                  refine X_move rfl rfl rfl rfl ?_
                                                  refine X_move rfl rfl rfl rfl ?_
                                                  refine X_fo rfl rfl F.ok17 rfl (To_ok _ b 60 _ _ _ addr (by first | exact hb4 | exact hb2)) (by repeat first | exact Rem.here _ | apply Rem.skip | apply Rem.over) (putE_some rfl) ?_
                                                  rintro _ M5 hm5 ⟨ad5, c5, rfl, hsl5⟩
                                                  refine X_len_sl rfl rfl rfl rfl F.elem47 rfl ?_
                                                  refine X_cmp rfl rfl rfl rfl rfl rfl ?_
                                                  refine X_pick rfl rfl rfl rfl rfl ?_
                                                  refine X_move rfl rfl rfl rfl ?_
                                                  refine XD_part 176 rfl (fun hc93 => ?_) (fun hc93 => ?_)
                                                  · first | replace hc93 := dT hc93 | replace hc93 := dF hc93 | replace hc93 := nT hc93 | replace hc93 := nF hc93 | skip
                                                    first
                                                    | (exfalso; omega)
                                                    | (exfalso; simp [eqX] at hc93; done)
                                                    | skip
                                                      refine X_move rfl rfl rfl rfl ?_
                                                      refine X_move rfl rfl rfl rfl ?_
                                                      refine X_fhR rfl rfl F.ok18 rfl (Lose_ok _ b 60 _ _ _ addr (by first | exact hb4 | exact hb2)) (by repeat first | exact Rem.here _ | apply Rem.skip | apply Rem.over) (fun _ _ _ hm hw => (hw.lower (by first | exact hm | exact Mem.le.trans (by assumption) hm)).cnt (by intro zz; first | exact Nat.le_refl _ | (simp only [cnt_app, cnt_cons, cnt_nil, cat, List.append_assoc, List.cons_append, List.nil_append]; omega))) (putE_some rfl) ?_
                                                      rintro _ M6 Hb6 hm6 ⟨rfl, hb6⟩
                                                      refine X_cmp rfl rfl rfl rfl rfl rfl ?_
                                                      refine X_pick rfl rfl rfl rfl rfl ?_
                                                      refine X_assign rfl rfl rfl rfl ?_
                                                      refine XD_end ?_
                                                      refine K_then ?_
                                                      refine C_pick (.cons (k := 6) rfl .nil) ?_
                                                      refine C_ret ?_
                                                      refine K_end (.inr rfl) (.tmp rfl .nil) (fun w hw => ?_)
                                                      refine ⟨_, _, rfl, ?_, hw.cnt (by intro zz; first | exact Nat.le_refl _ | (simp only [cnt_app, cnt_cons, cnt_nil, cat, List.append_assoc, List.cons_append, List.nil_append]; omega)), ?_⟩
                                                      · exact (by first | exact Mem.le.refl _ | (repeat first | assumption | refine Mem.le.trans (by assumption) ?_))
                                                      · first | rfl | exact congrArg Value.bool (decide_eq_true (by omega)) | (simp [resV]; omega)
                                                  · first | replace hc93 := dT hc93 | replace hc93 := dF hc93 | replace hc93 := nT hc93 | replace hc93 := nF hc93 | skip
                                                    first | (exfalso; omega) | (exfalso; simp [eqX] at hc93; done)
                                              · first | replace hc92 := dT hc92 | replace hc92 := dF hc92 | replace hc92 := nT hc92 | replace hc92 := nF hc92 | skip
                                                first | (exfalso; omega) | (exfalso; simp [eqX] at hc92; done)
                                          · first | replace hc91 := dT hc91 | replace hc91 := dF hc91 | replace hc91 := nT hc91 | replace hc91 := nF hc91 | skip
                                            first | (exfalso; omega) | (exfalso; simp [eqX] at hc91; done)
                                      · first | replace hc90 := dT hc90 | replace hc90 := dF hc90 | replace hc90 := nT hc90 | replace hc90 := nF hc90 | skip
                                        first | (exfalso; omega) | (exfalso; simp [eqX] at hc90; done)
                                  · first | replace hc89 := dT hc89 | replace hc89 := dF hc89 | replace hc89 := nT hc89 | replace hc89 := nF hc89 | skip
                                    first | (exfalso; omega) | (exfalso; simp [eqX] at hc89; done)

end Go.Proofs.Ytenamdnnmdilgaa
