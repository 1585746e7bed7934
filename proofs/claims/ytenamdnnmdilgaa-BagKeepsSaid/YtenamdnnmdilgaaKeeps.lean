/-
  BagKeeps, the walk.
-/
import Derived.Test.YtenamdnnmdilgaaBag5
set_option linter.unusedSimpArgs false
set_option linter.unusedVariables false
set_option linter.unnecessarySimpa false
namespace Go.Proofs.Ytenamdnnmdilgaa
open Go.Esp
theorem F.elem22 : slOf Try.prog 22 = some (28, 3, 32) := by kernel_rfl
theorem F.ok10 : okFn Try.prog 10 = true := by kernel_rfl

theorem BagKeeps_fn (M : Mem) (ad : Option Addr) (c : Nat) (l : List Mail) (i : Int) (hl : SlM M ad (l.map Mail.segs) 3) : Esp.Fn Try.prog 3 [.slice ad l.length c, .int .i64 i] M (fun _ v => v = .bool true) := by
  refine fn_enter Try.func3 rfl Try.ntmps3 rfl ?_; intro H
  have hlm : (l.map Mail.segs).length = l.length := by simp
  refine C_seq ?_
  refine C_region (l := [0]) rfl ?_
  refine X_assign rfl rfl rfl rfl ?_
  refine XD_end ?_
  refine K_then ?_
  refine C_seq ?_
  refine C_seq ?_
  refine C_region (l := [0, 1, 2]) rfl ?_
  refine X_move rfl rfl rfl rfl ?_
  refine X_len_sl rfl rfl rfl rfl F.elem22 rfl ?_
  refine X_cmp rfl rfl rfl rfl rfl rfl ?_
  refine XD_end ?_
  refine K_then ?_
  refine C_pick (.cons (k := 16) rfl (.cons (k := 4) rfl (.cons (k := 0) rfl (.cons (k := 1) rfl .nil)))) ?_
  refine C_cond rfl (fun hc1 => ?_) (fun hc1 => ?_)
  · first | replace hc1 := dT hc1 | replace hc1 := dF hc1 | replace hc1 := nT hc1 | replace hc1 := nF hc1 | skip
    first
    | (exfalso; omega)
    | (exfalso; simp [eqX] at hc1; done)
    | skip
      refine C_seq ?_
      refine C_region (l := [0]) rfl ?_
      refine X_assign rfl rfl rfl rfl ?_
      refine XD_end ?_
      refine K_then ?_
      refine C_pick (.cons (k := 4) rfl (.cons (k := 0) rfl (.cons (k := 1) rfl .nil))) ?_
      refine C_ret ?_
      refine K_ret ?_
      refine K_end (.inr rfl) (.tmp rfl .nil) (fun w hw => ?_)
      refine ⟨_, M, rfl, Mem.le.refl M, hw.cnt (by intro zz; first | exact Nat.le_refl _ | (simp only [cnt_app, cnt_cons, cnt_nil, cat, List.append_assoc, List.cons_append, List.nil_append]; omega)), ?_⟩
      first | rfl | (simp [resV]; omega)
  · first | replace hc1 := dT hc1 | replace hc1 := dF hc1 | replace hc1 := nT hc1 | replace hc1 := nF hc1 | skip
    first
    | (exfalso; omega)
    | (exfalso; simp [eqX] at hc1; done)
    | skip
      refine C_skip ?_
      refine K_then ?_
      refine C_pick (.cons (k := 4) rfl (.cons (k := 0) rfl (.cons (k := 1) rfl .nil))) ?_
      refine C_seq ?_
      refine C_region (l := [0, 1, 2, 3, 4, 5]) rfl ?_
      refine X_fhR rfl rfl F.ok7 rfl (New_ok M 60 ⟨by decide, by decide⟩) (by repeat first | exact Rem.here _ | apply Rem.skip | apply Rem.over) (fun _ _ _ hm hw => (hw.lower (by first | exact hm | exact Mem.le.trans (by assumption) hm)).cnt (by intro zz; first | exact Nat.le_refl _ | (simp only [cnt_app, cnt_cons, cnt_nil, cat, List.append_assoc, List.cons_append, List.nil_append]; omega))) (putE_some rfl) ?_
      rintro _ M1 Hb _ ⟨hM1, b, rfl, hb⟩; subst M1
      refine X_move rfl rfl rfl rfl ?_
      refine X_extract rfl rfl rfl rfl rfl ?_
      refine X_extract rfl rfl rfl rfl rfl ?_
      refine X_assign rfl rfl rfl rfl ?_
      refine X_assign rfl rfl rfl rfl ?_
      refine XD_end ?_
      refine K_then ?_
      refine C_pick (.cons (k := 6) rfl (.cons (k := 5) rfl (.cons (k := 4) rfl (.cons (k := 0) rfl (.cons (k := 1) rfl .nil))))) ?_
      refine C_seq ?_
      refine C_seq ?_
      refine C_region (l := [0, 1, 2, 3, 4, 5]) rfl ?_
      refine X_move rfl rfl rfl rfl ?_
      refine X_nil rfl rfl rfl rfl Try.underlying23 rfl rfl ?_
      refine X_move rfl rfl rfl rfl ?_
      refine XD_part 23 rfl (fun hc2 => ?_) (fun hc2 => ?_)
      · first | replace hc2 := dT hc2 | replace hc2 := dF hc2 | replace hc2 := nT hc2 | replace hc2 := nF hc2 | skip
        first
        | (exfalso; omega)
        | (exfalso; simp [eqX] at hc2; done)
        | skip
          refine X_skip rfl rfl rfl ?_
          refine X_skip rfl rfl rfl ?_
          refine X_pick rfl rfl rfl rfl rfl ?_
          refine XD_end ?_
          refine K_then ?_
          refine C_pick (.cons (k := 26) rfl (.cons (k := 5) rfl (.cons (k := 4) rfl (.cons (k := 0) rfl (.cons (k := 1) rfl .nil))))) ?_
          refine C_true rfl ?_
          refine C_seq ?_
          refine C_region (l := [0]) rfl ?_
          refine X_assign rfl rfl rfl rfl ?_
          refine XD_end ?_
          refine K_then ?_
          refine C_pick (.cons (k := 4) rfl (.cons (k := 5) rfl (.cons (k := 0) rfl (.cons (k := 1) rfl .nil)))) ?_
          refine C_ret ?_
          refine K_ret ?_
          refine K_end (.inr rfl) (.tmp rfl .nil) (fun w hw => ?_)
          refine ⟨_, M, rfl, Mem.le.refl M, hw.cnt (by intro zz; first | exact Nat.le_refl _ | (simp only [cnt_app, cnt_cons, cnt_nil, cat, List.append_assoc, List.cons_append, List.nil_append]; omega)), ?_⟩
          first | rfl | (simp [resV]; omega)
      · first | replace hc2 := dT hc2 | replace hc2 := dF hc2 | replace hc2 := nT hc2 | replace hc2 := nF hc2 | skip
        first
        | (exfalso; omega)
        | (exfalso; simp [eqX] at hc2; done)
        | skip
          refine X_move rfl rfl rfl rfl ?_
          refine X_cmp rfl rfl rfl rfl rfl rfl ?_
          refine X_pick rfl rfl rfl rfl rfl ?_
          refine XD_end ?_
          refine K_then ?_
          refine C_pick (.cons (k := 26) rfl (.cons (k := 5) rfl (.cons (k := 4) rfl (.cons (k := 0) rfl (.cons (k := 1) rfl .nil))))) ?_
          refine C_cond rfl (fun hc3 => ?_) (fun hc3 => ?_)
          · first | replace hc3 := dT hc3 | replace hc3 := dF hc3 | replace hc3 := nT hc3 | replace hc3 := nF hc3 | skip
            first
            | (exfalso; omega)
            | (exfalso; simp [eqX] at hc3; done)
            | skip
              refine C_seq ?_
              refine C_region (l := [0]) rfl ?_
              refine X_assign rfl rfl rfl rfl ?_
              refine XD_end ?_
              refine K_then ?_
              refine C_pick (.cons (k := 4) rfl (.cons (k := 5) rfl (.cons (k := 0) rfl (.cons (k := 1) rfl .nil)))) ?_
              refine C_ret ?_
              refine K_ret ?_
              refine K_end (.inr rfl) (.tmp rfl .nil) (fun w hw => ?_)
              refine ⟨_, M, rfl, Mem.le.refl M, hw.cnt (by intro zz; first | exact Nat.le_refl _ | (simp only [cnt_app, cnt_cons, cnt_nil, cat, List.append_assoc, List.cons_append, List.nil_append]; omega)), ?_⟩
              first | rfl | (simp [resV]; omega)
          · first | replace hc3 := dT hc3 | replace hc3 := dF hc3 | replace hc3 := nT hc3 | replace hc3 := nF hc3 | skip
            first
            | (exfalso; omega)
            | (exfalso; simp [eqX] at hc3; done)
            | skip
              refine C_skip ?_
              refine K_then ?_
              refine C_pick (.cons (k := 5) rfl (.cons (k := 4) rfl (.cons (k := 0) rfl (.cons (k := 1) rfl .nil)))) ?_
              refine C_seq ?_
              refine C_seq ?_
              refine C_region (l := [0]) rfl ?_
              refine X_assign rfl rfl rfl rfl ?_
              refine XD_end ?_
              refine K_then ?_
              refine C_block ?_
              refine C_pick (.cons (k := 7) rfl (.cons (k := 5) rfl (.cons (k := 4) rfl (.cons (k := 0) rfl (.cons (k := 1) rfl .nil))))) ?_
              refine C_loop (.succ .zero) (fun (x : Nat × Hp) S z => ∃ k Hb1, x = (k, Hb1) ∧ (∀ w, S w → St M (Hb1 ++ H) w) ∧ z = [(7, .int .i64 (k : Int))] ∧ k ≤ l.length ∧ BagIs b 60 (k : Int) (l.take k) Hb1) (fun x => l.length - x.1) ((0, Hb)) (⟨0, Hb, rfl, fun w hw => hw.cnt (by intro zz; first | exact Nat.le_refl _ | (simp only [cnt_app, cnt_cons, cnt_nil, cat, List.append_assoc, List.cons_append, List.nil_append]; omega)), rfl, by omega, hb⟩) ?_
              rintro _ _ _ ⟨k, Hb1, rfl, hS, rfl, hk, hb1⟩
              refine C_weak (fun _ h => h) hS ?_
              refine C_seq ?_
              refine C_seq ?_
              refine C_region (l := [0, 1, 2, 3]) rfl ?_
              refine X_move rfl rfl rfl rfl ?_
              refine X_move rfl rfl rfl rfl ?_
              refine X_len_sl rfl rfl rfl rfl F.elem22 rfl ?_
              refine X_cmp rfl rfl rfl rfl rfl rfl ?_
              refine XD_end ?_
              refine K_then ?_
              refine C_cond rfl (fun hc4 => ?_) (fun hc4 => ?_)
              · first | replace hc4 := dT hc4 | replace hc4 := dF hc4 | replace hc4 := nT hc4 | replace hc4 := nF hc4 | skip
                first
                | (exfalso; omega)
                | (exfalso; simp [eqX] at hc4; done)
                | skip
                  refine C_skip ?_
                  refine K_then ?_
                  refine C_seq ?_
                  refine C_block ?_
                  refine C_seq ?_
                  refine C_seq ?_
                  refine C_region (l := [0, 1, 2, 3, 4, 5, 6]) rfl ?_
                  refine X_move rfl rfl rfl rfl ?_
                  refine X_move rfl rfl rfl rfl ?_
                  refine X_indexAddr rfl rfl rfl rfl F.elem22 (by first | rfl | exact (Int.toNat_of_nonneg (by omega)).symm) (by first | omega | (simp; omega)) (by first | exact ⟨_, _, rfl⟩ | assumption | exact SlM.plain (by assumption) (by simp; omega) | exact RdS.plain (by assumption) (by simp; omega) | exact OSl.plain (by assumption) (by simp; omega)) rfl ?_
                  first | refine X_fieldAddr rfl rfl rfl F.foff28_2 rfl ?_ | refine X_fieldAddr_el rfl rfl rfl (by first | exact ⟨_, _, rfl⟩ | assumption | exact SlM.plain (by assumption) (by simp; omega) | exact RdS.plain (by assumption) (by simp; omega) | exact OSl.plain (by assumption) (by simp; omega)) F.foff28_2 rfl ?_
                  first | refine X_load rfl rfl rfl (by repeat first | exact List.Mem.head _ | refine List.Mem.tail _ ?_ | refine List.mem_append_right _ ?_) F.lay9 rfl rfl rfl ?_ | refine X_load_el rfl rfl rfl (by first | assumption | exact SlM.mono (by assumption) (by assumption)) (by first | exact row_map (by omega) | exact List.getElem?_eq_getElem (by omega)) F.lay9 rfl rfl rfl ?_ | refine X_load_rd rfl rfl rfl (by assumption) (by first | exact row_map (by omega) | exact List.getElem?_eq_getElem (by omega)) F.lay9 rfl rfl rfl ?_ | refine X_load_mem rfl rfl rfl (by first | assumption | exact Mem.get_of (by assumption) (by repeat first | assumption | refine Mem.le.trans (by assumption) ?_)) F.lay9 rfl rfl rfl ?_ | refine X_load_osl rfl rfl rfl (by assumption) (by repeat first | exact Rem.here _ | apply Rem.skip | apply Rem.over) (by first | exact row_map (by omega) | exact List.getElem?_eq_getElem (by omega)) F.lay9 rfl rfl rfl ?_
                  refine X_len_str rfl rfl rfl rfl Try.underlying9 rfl ?_
                  refine X_cmp rfl rfl rfl rfl rfl rfl ?_
                  refine XD_end ?_
                  refine K_then ?_
                  refine C_cond rfl (fun hc5 => ?_) (fun hc5 => ?_)
                  · first | replace hc5 := dT hc5 | replace hc5 := dF hc5 | replace hc5 := nT hc5 | replace hc5 := nF hc5 | skip
                    first
                    | (exfalso; omega)
                    | (exfalso; simp [eqX] at hc5; done)
                    | skip
                      refine C_seq ?_
                      refine C_region (l := [0]) rfl ?_
                      refine X_assign rfl rfl rfl rfl ?_
                      refine XD_end ?_
                      refine K_then ?_
                      refine C_ret ?_
                      refine K_ret ?_
                      refine K_retB ?_
                      refine K_ret ?_
                      refine K_ret ?_
                      refine K_retB ?_
                      refine K_ret ?_
                      refine K_end (.inr rfl) (.tmp rfl .nil) (fun w hw => ?_)
                      refine ⟨_, M, rfl, Mem.le.refl M, hw.cnt (by intro zz; first | exact Nat.le_refl _ | (simp only [cnt_app, cnt_cons, cnt_nil, cat, List.append_assoc, List.cons_append, List.nil_append]; omega)), ?_⟩
                      first | rfl | (simp [resV]; omega)
                  · first | replace hc5 := dT hc5 | replace hc5 := dF hc5 | replace hc5 := nT hc5 | replace hc5 := nF hc5 | skip
                    first
                    | (exfalso; omega)
                    | (exfalso; simp [eqX] at hc5; done)
                    | skip
                      refine C_skip ?_
                      refine K_then ?_
                      refine C_seq ?_
                      refine C_regionR (l := [0, 1, 2, 3, 4, 5, 6]) (Hin := Hb1) (by repeat first | exact Rem.here _ | apply Rem.skip | apply Rem.over) rfl ?_
                      refine X_move rfl rfl rfl rfl ?_
                      refine X_move rfl rfl rfl rfl ?_
                      refine X_move rfl rfl rfl rfl ?_
                      refine X_indexAddr rfl rfl rfl rfl F.elem22 (by first | rfl | exact (Int.toNat_of_nonneg (by omega)).symm) (by first | omega | (simp; omega)) (by first | exact ⟨_, _, rfl⟩ | assumption | exact SlM.plain (by assumption) (by simp; omega) | exact RdS.plain (by assumption) (by simp; omega) | exact OSl.plain (by assumption) (by simp; omega)) rfl ?_
                      first | refine X_load rfl rfl rfl (by repeat first | exact List.Mem.head _ | refine List.Mem.tail _ ?_ | refine List.mem_append_right _ ?_) F.lay28 rfl rfl rfl ?_ | refine X_load_el rfl rfl rfl (by first | assumption | exact SlM.mono (by assumption) (by assumption)) (by first | exact row_map (by omega) | exact List.getElem?_eq_getElem (by omega)) F.lay28 rfl rfl rfl ?_ | refine X_load_rd rfl rfl rfl (by assumption) (by first | exact row_map (by omega) | exact List.getElem?_eq_getElem (by omega)) F.lay28 rfl rfl rfl ?_ | refine X_load_mem rfl rfl rfl (by first | assumption | exact Mem.get_of (by assumption) (by repeat first | assumption | refine Mem.le.trans (by assumption) ?_)) F.lay28 rfl rfl rfl ?_ | refine X_load_osl rfl rfl rfl (by assumption) (by repeat first | exact Rem.here _ | apply Rem.skip | apply Rem.over) (by first | exact row_map (by omega) | exact List.getElem?_eq_getElem (by omega)) F.lay28 rfl rfl rfl ?_
                      refine X_fhR rfl rfl F.ok8 rfl (Put_at M b 60 (k : Int) (l.take k) _ l[k] (by omega) hb1 (c := 0) (l' := l.take (k + 1)) (put_ok _ _ _ (by omega) (by simp; omega)).1 (by rw [(put_ok _ _ _ (by omega) (by simp; omega)).2, List.take_add_one, List.getElem?_eq_getElem (by omega)]; rfl)) (by repeat first | exact Rem.here _ | apply Rem.skip | apply Rem.over) (fun _ _ _ hm hw => (hw.lower (by first | exact hm | exact Mem.le.trans (by assumption) hm)).cnt (by intro zz; first | exact Nat.le_refl _ | (simp only [cnt_app, cnt_cons, cnt_nil, cat, List.append_assoc, List.cons_append, List.nil_append]; omega))) (putE_some rfl) ?_
                      rintro _ M1 Hb2 _ ⟨hM1, rfl, hb2⟩; subst M1
                      refine X_cmp rfl rfl rfl rfl rfl rfl ?_
                      refine XD_end ?_
                      refine K_then ?_
                      refine C_cond rfl (fun hc6 => ?_) (fun hc6 => ?_)
                      · first | replace hc6 := dT hc6 | replace hc6 := dF hc6 | replace hc6 := nT hc6 | replace hc6 := nF hc6 | skip
                        first
                        | (exfalso; omega)
                        | (exfalso; simp [eqX] at hc6; done)
                        | skip
                          refine C_seq ?_
                          refine C_region (l := [0]) rfl ?_
                          refine X_assign rfl rfl rfl rfl ?_
                          refine XD_end ?_
                          refine K_then ?_
                          refine C_ret ?_
                          refine K_retB ?_
                          refine K_ret ?_
                          refine K_ret ?_
                          refine K_retB ?_
                          refine K_ret ?_
                          refine K_end (.inr rfl) (.tmp rfl .nil) (fun w hw => ?_)
                          refine ⟨_, M, rfl, Mem.le.refl M, hw.cnt (by intro zz; first | exact Nat.le_refl _ | (simp only [cnt_app, cnt_cons, cnt_nil, cat, List.append_assoc, List.cons_append, List.nil_append]; omega)), ?_⟩
                          first | rfl | (simp [resV]; omega)
                      · first | replace hc6 := dT hc6 | replace hc6 := dF hc6 | replace hc6 := nT hc6 | replace hc6 := nF hc6 | skip
                        first
                        | (exfalso; omega)
                        | (exfalso; simp [eqX] at hc6; done)
                        | skip
                          refine C_skip ?_
                          refine K_out ?_
                          refine K_then ?_
                          refine C_region (l := [0, 1, 2]) rfl ?_
                          refine X_move rfl rfl rfl rfl ?_
                          refine X_ari rfl rfl rfl rfl rfl (by first | exact wrap_in (by decide) (by omega) | rfl) rfl ?_
                          refine X_assign rfl rfl rfl rfl ?_
                          refine XD_end ?_
                          refine K_round (a' := [(7, _)]) ((k + 1, Hb2)) (.cons (k := 7) rfl (.cons (k := 5) rfl (.cons (k := 4) rfl (.cons (k := 0) rfl (.cons (k := 1) rfl (.nil)))))) ?_ ?_
                          · exact ⟨k + 1, Hb2, rfl, fun w hw => hw.cnt (by intro zz; first | exact Nat.le_refl _ | (simp only [cnt_app, cnt_cons, cnt_nil, cat, List.append_assoc, List.cons_append, List.nil_append]; omega)), rfl, by omega, hb2⟩
                          · show l.length - (k + 1) < l.length - k; omega
              · first | replace hc4 := dT hc4 | replace hc4 := dF hc4 | replace hc4 := nT hc4 | replace hc4 := nF hc4 | skip
                first
                | (exfalso; omega)
                | (exfalso; simp [eqX] at hc4; done)
                | skip
                  refine C_exit ?_
                  refine K_exit ?_
                  refine K_exit ?_
                  refine K_hit ?_
                  refine K_then ?_
                  refine C_pick (.cons (k := 5) rfl (.cons (k := 4) rfl (.cons (k := 0) rfl (.cons (k := 1) rfl .nil)))) ?_
                  refine C_seq ?_
                  refine C_regionR (l := [0, 1, 2, 3, 4, 5, 6, 7, 8]) (Hin := Hb1) (by repeat first | exact Rem.here _ | apply Rem.skip | apply Rem.over) rfl ?_
                  have e : k = l.length := by omega
                  subst e
                  rw [List.take_length] at hb1
                  refine X_move rfl rfl rfl rfl ?_
                  refine X_move rfl rfl rfl rfl ?_
                  refine X_fhR rfl rfl F.ok9 rfl (Take_ok M b 60 _ l _ i hb1) (by repeat first | exact Rem.here _ | apply Rem.skip | apply Rem.over) (fun _ _ _ hm hw => (hw.lower (by first | exact hm | exact Mem.le.trans (by assumption) hm)).cnt (by intro zz; first | exact Nat.le_refl _ | (simp only [cnt_app, cnt_cons, cnt_nil, cat, List.append_assoc, List.cons_append, List.nil_append]; omega))) (putE_some rfl) ?_
                  rintro _ M1 Hb3 _ ⟨hM1, rfl, hb3⟩; subst M1
                  refine X_move rfl rfl rfl rfl ?_
                  refine X_extract rfl rfl rfl rfl rfl ?_
                  refine X_extract rfl rfl rfl rfl rfl ?_
                  refine X_alloc rfl rfl F.zero28 (by constructor) rfl ?_; intro b7
                  refine X_store rfl rfl rfl rfl (by constructor) (by first | exact Mail.flat _ | (simp [flat, cat, Segs.cells, Seg.cells, Value.oneCell']; done)) (by repeat first | exact Upd.head | apply Upd.tail | apply Upd.over) F.lay28 rfl rfl ?_
                  refine X_assign rfl rfl rfl rfl ?_
                  refine XD_end ?_
                  refine K_then ?_
                  refine C_pick (.cons (k := 9) rfl (.cons (k := 8) rfl (.cons (k := 5) rfl (.cons (k := 4) rfl (.cons (k := 0) rfl (.cons (k := 1) rfl .nil)))))) ?_
                  refine C_seq ?_
                  refine C_seq ?_
                  refine C_region (l := [0, 1, 2, 3, 4, 5, 6, 7]) rfl ?_
                  refine X_move rfl rfl rfl rfl ?_
                  refine X_cmp rfl rfl rfl rfl rfl rfl ?_
                  refine X_move rfl rfl rfl rfl ?_
                  refine XD_part 55 rfl (fun hc8 => ?_) (fun hc8 => ?_)
                  · first | replace hc8 := dT hc8 | replace hc8 := dF hc8 | replace hc8 := nT hc8 | replace hc8 := nF hc8 | skip
                    first
                    | (exfalso; omega)
                    | (exfalso; simp [eqX] at hc8; done)
                    | skip
                      refine X_skip rfl rfl rfl ?_
                      refine X_skip rfl rfl rfl ?_
                      refine X_skip rfl rfl rfl ?_
                      refine X_skip rfl rfl rfl ?_
                      refine X_pick rfl rfl rfl rfl rfl ?_
                      refine XD_end ?_
                      refine K_then ?_
                      refine C_pick (.cons (k := 60) rfl (.cons (k := 9) rfl (.cons (k := 8) rfl (.cons (k := 5) rfl (.cons (k := 4) rfl (.cons (k := 0) rfl (.cons (k := 1) rfl .nil))))))) ?_
                      refine C_true rfl ?_
                      refine C_seq ?_
                      refine C_region (l := [0, 1, 2, 3, 4, 5, 6, 7, 8, 9, 10, 11, 12]) rfl ?_
                      obtain ⟨hat, hac⟩ := at_none i l (by omega)
                      have hsz : (takeL i l).length = l.length := by rw [take_none (by omega)]
                      refine X_fs rfl rfl F.ok10 rfl (packed_ok M) rfl ?_
                      rintro _ rfl
                      refine X_move rfl rfl rfl rfl ?_
                      refine XD_part 62 rfl (fun hc9 => ?_) (fun hc9 => ?_)
                      · first | replace hc9 := dT hc9 | replace hc9 := dF hc9 | replace hc9 := nT hc9 | replace hc9 := nF hc9 | skip
                        first
                        | (exfalso; omega)
                        | (exfalso; simp [eqX] at hc9; done)
                        | skip
                          refine X_move rfl rfl rfl rfl ?_
                          refine X_cmp rfl rfl rfl rfl rfl rfl ?_
                          refine X_pick rfl rfl rfl rfl rfl ?_
                          refine X_move rfl rfl rfl rfl ?_
                          refine XD_part 66 rfl (fun hc10 => ?_) (fun hc10 => ?_)
                          · first | replace hc10 := dT hc10 | replace hc10 := dF hc10 | replace hc10 := nT hc10 | replace hc10 := nF hc10 | skip
                            first
                            | (exfalso; omega)
                            | (exfalso; simp [eqX] at hc10; done)
                            | skip
                              refine X_move rfl rfl rfl rfl ?_
                              refine X_fo rfl rfl F.ok11 rfl (Size_ok M b 60 _ _ _ hb3) (by repeat first | exact Rem.here _ | apply Rem.skip | apply Rem.over) (putE_some rfl) ?_
                              rintro _ M1 _ ⟨hM1, rfl⟩; subst M1
                              refine X_move rfl rfl rfl rfl ?_
                              refine X_len_sl rfl rfl rfl rfl F.elem22 rfl ?_
                              refine X_cmp rfl rfl rfl rfl rfl rfl ?_
                              refine X_pick rfl rfl rfl rfl rfl ?_
                              refine X_assign rfl rfl rfl rfl ?_
                              refine XD_end ?_
                              refine K_then ?_
                              refine C_pick (.cons (k := 4) rfl (.cons (k := 9) rfl (.cons (k := 8) rfl (.cons (k := 5) rfl (.cons (k := 0) rfl (.cons (k := 1) rfl .nil)))))) ?_
                              refine C_ret ?_
                              refine K_ret ?_
                              refine K_end (.inr rfl) (.tmp rfl .nil) (fun w hw => ?_)
                              refine ⟨_, M, rfl, Mem.le.refl M, hw.cnt (by intro zz; first | exact Nat.le_refl _ | (simp only [cnt_app, cnt_cons, cnt_nil, cat, List.append_assoc, List.cons_append, List.nil_append]; omega)), ?_⟩
                              first | rfl | (simp [resV]; omega)
                          · first | replace hc10 := dT hc10 | replace hc10 := dF hc10 | replace hc10 := nT hc10 | replace hc10 := nF hc10 | skip
                            first
                            | (exfalso; omega)
                            | (exfalso; simp [eqX] at hc10; done)
                            | skip
                              refine X_skip rfl rfl rfl ?_
                              refine X_skip rfl rfl rfl ?_
                              refine X_skip rfl rfl rfl ?_
                              refine X_skip rfl rfl rfl ?_
                              refine X_skip rfl rfl rfl ?_
                              refine X_pick rfl rfl rfl rfl rfl ?_
                              refine X_assign rfl rfl rfl rfl ?_
                              refine XD_end ?_
                              refine K_then ?_
                              refine C_pick (.cons (k := 4) rfl (.cons (k := 9) rfl (.cons (k := 8) rfl (.cons (k := 5) rfl (.cons (k := 0) rfl (.cons (k := 1) rfl .nil)))))) ?_
                              refine C_ret ?_
                              refine K_ret ?_
                              refine K_end (.inr rfl) (.tmp rfl .nil) (fun w hw => ?_)
                              refine ⟨_, M, rfl, Mem.le.refl M, hw.cnt (by intro zz; first | exact Nat.le_refl _ | (simp only [cnt_app, cnt_cons, cnt_nil, cat, List.append_assoc, List.cons_append, List.nil_append]; omega)), ?_⟩
                              first | rfl | (simp [resV]; omega)
                      · first | replace hc9 := dT hc9 | replace hc9 := dF hc9 | replace hc9 := nT hc9 | replace hc9 := nF hc9 | skip
                        first
                        | (exfalso; omega)
                        | (exfalso; simp [eqX] at hc9; done)
                        | skip
                          refine X_skip rfl rfl rfl ?_
                          refine X_skip rfl rfl rfl ?_
                          refine X_pick rfl rfl rfl rfl rfl ?_
                          refine X_move rfl rfl rfl rfl ?_
                          refine X_skip rfl rfl rfl ?_
                          refine X_skip rfl rfl rfl ?_
                          refine X_skip rfl rfl rfl ?_
                          refine X_skip rfl rfl rfl ?_
                          refine X_skip rfl rfl rfl ?_
                          refine X_pick rfl rfl rfl rfl rfl ?_
                          refine X_assign rfl rfl rfl rfl ?_
                          refine XD_end ?_
                          refine K_then ?_
                          refine C_pick (.cons (k := 4) rfl (.cons (k := 9) rfl (.cons (k := 8) rfl (.cons (k := 5) rfl (.cons (k := 0) rfl (.cons (k := 1) rfl .nil)))))) ?_
                          refine C_ret ?_
                          refine K_ret ?_
                          refine K_end (.inr rfl) (.tmp rfl .nil) (fun w hw => ?_)
                          refine ⟨_, M, rfl, Mem.le.refl M, hw.cnt (by intro zz; first | exact Nat.le_refl _ | (simp only [cnt_app, cnt_cons, cnt_nil, cat, List.append_assoc, List.cons_append, List.nil_append]; omega)), ?_⟩
                          first | rfl | (simp [resV]; omega)
                  · first | replace hc8 := dT hc8 | replace hc8 := dF hc8 | replace hc8 := nT hc8 | replace hc8 := nF hc8 | skip
                    first
                    | (exfalso; omega)
                    | (exfalso; simp [eqX] at hc8; done)
                    | skip
                      refine X_move rfl rfl rfl rfl ?_
                      refine X_move rfl rfl rfl rfl ?_
                      refine X_len_sl rfl rfl rfl rfl F.elem22 rfl ?_
                      refine X_cmp rfl rfl rfl rfl rfl rfl ?_
                      refine X_pick rfl rfl rfl rfl rfl ?_
                      refine XD_end ?_
                      refine K_then ?_
                      refine C_pick (.cons (k := 60) rfl (.cons (k := 9) rfl (.cons (k := 8) rfl (.cons (k := 5) rfl (.cons (k := 4) rfl (.cons (k := 0) rfl (.cons (k := 1) rfl .nil))))))) ?_
                      refine C_cond rfl (fun hc11 => ?_) (fun hc11 => ?_)
                      · first | replace hc11 := dT hc11 | replace hc11 := dF hc11 | replace hc11 := nT hc11 | replace hc11 := nF hc11 | skip
                        first
                        | (exfalso; omega)
                        | (exfalso; simp [eqX] at hc11; done)
                        | skip
                          refine C_seq ?_
                          refine C_region (l := [0, 1, 2, 3, 4, 5, 6, 7, 8, 9, 10, 11, 12]) rfl ?_
                          obtain ⟨hat, hac⟩ := at_none i l (by omega)
                          have hsz : (takeL i l).length = l.length := by rw [take_none (by omega)]
                          refine X_fs rfl rfl F.ok10 rfl (packed_ok M) rfl ?_
                          rintro _ rfl
                          refine X_move rfl rfl rfl rfl ?_
                          refine XD_part 62 rfl (fun hc12 => ?_) (fun hc12 => ?_)
                          · first | replace hc12 := dT hc12 | replace hc12 := dF hc12 | replace hc12 := nT hc12 | replace hc12 := nF hc12 | skip
                            first
                            | (exfalso; omega)
                            | (exfalso; simp [eqX] at hc12; done)
                            | skip
                              refine X_move rfl rfl rfl rfl ?_
                              refine X_cmp rfl rfl rfl rfl rfl rfl ?_
                              refine X_pick rfl rfl rfl rfl rfl ?_
                              refine X_move rfl rfl rfl rfl ?_
                              refine XD_part 66 rfl (fun hc13 => ?_) (fun hc13 => ?_)
                              · first | replace hc13 := dT hc13 | replace hc13 := dF hc13 | replace hc13 := nT hc13 | replace hc13 := nF hc13 | skip
                                first
                                | (exfalso; omega)
                                | (exfalso; simp [eqX] at hc13; done)
                                | skip
                                  refine X_move rfl rfl rfl rfl ?_
                                  refine X_fo rfl rfl F.ok11 rfl (Size_ok M b 60 _ _ _ hb3) (by repeat first | exact Rem.here _ | apply Rem.skip | apply Rem.over) (putE_some rfl) ?_
                                  rintro _ M1 _ ⟨hM1, rfl⟩; subst M1
                                  refine X_move rfl rfl rfl rfl ?_
                                  refine X_len_sl rfl rfl rfl rfl F.elem22 rfl ?_
                                  refine X_cmp rfl rfl rfl rfl rfl rfl ?_
                                  refine X_pick rfl rfl rfl rfl rfl ?_
                                  refine X_assign rfl rfl rfl rfl ?_
                                  refine XD_end ?_
                                  refine K_then ?_
                                  refine C_pick (.cons (k := 4) rfl (.cons (k := 9) rfl (.cons (k := 8) rfl (.cons (k := 5) rfl (.cons (k := 0) rfl (.cons (k := 1) rfl .nil)))))) ?_
                                  refine C_ret ?_
                                  refine K_ret ?_
                                  refine K_end (.inr rfl) (.tmp rfl .nil) (fun w hw => ?_)
                                  refine ⟨_, M, rfl, Mem.le.refl M, hw.cnt (by intro zz; first | exact Nat.le_refl _ | (simp only [cnt_app, cnt_cons, cnt_nil, cat, List.append_assoc, List.cons_append, List.nil_append]; omega)), ?_⟩
                                  first | rfl | (simp [resV]; omega)
                              · first | replace hc13 := dT hc13 | replace hc13 := dF hc13 | replace hc13 := nT hc13 | replace hc13 := nF hc13 | skip
                                first
                                | (exfalso; omega)
                                | (exfalso; simp [eqX] at hc13; done)
                                | skip
                                  refine X_skip rfl rfl rfl ?_
                                  refine X_skip rfl rfl rfl ?_
                                  refine X_skip rfl rfl rfl ?_
                                  refine X_skip rfl rfl rfl ?_
                                  refine X_skip rfl rfl rfl ?_
                                  refine X_pick rfl rfl rfl rfl rfl ?_
                                  refine X_assign rfl rfl rfl rfl ?_
                                  refine XD_end ?_
                                  refine K_then ?_
                                  refine C_pick (.cons (k := 4) rfl (.cons (k := 9) rfl (.cons (k := 8) rfl (.cons (k := 5) rfl (.cons (k := 0) rfl (.cons (k := 1) rfl .nil)))))) ?_
                                  refine C_ret ?_
                                  refine K_ret ?_
                                  refine K_end (.inr rfl) (.tmp rfl .nil) (fun w hw => ?_)
                                  refine ⟨_, M, rfl, Mem.le.refl M, hw.cnt (by intro zz; first | exact Nat.le_refl _ | (simp only [cnt_app, cnt_cons, cnt_nil, cat, List.append_assoc, List.cons_append, List.nil_append]; omega)), ?_⟩
                                  first | rfl | (simp [resV]; omega)
                          · first | replace hc12 := dT hc12 | replace hc12 := dF hc12 | replace hc12 := nT hc12 | replace hc12 := nF hc12 | skip
                            first
                            | (exfalso; omega)
                            | (exfalso; simp [eqX] at hc12; done)
                            | skip
                              refine X_skip rfl rfl rfl ?_
                              refine X_skip rfl rfl rfl ?_
                              refine X_pick rfl rfl rfl rfl rfl ?_
                              refine X_move rfl rfl rfl rfl ?_
                              refine X_skip rfl rfl rfl ?_
                              refine X_skip rfl rfl rfl ?_
                              refine X_skip rfl rfl rfl ?_
                              refine X_skip rfl rfl rfl ?_
                              refine X_skip rfl rfl rfl ?_
                              refine X_pick rfl rfl rfl rfl rfl ?_
                              refine X_assign rfl rfl rfl rfl ?_
                              refine XD_end ?_
                              refine K_then ?_
                              refine C_pick (.cons (k := 4) rfl (.cons (k := 9) rfl (.cons (k := 8) rfl (.cons (k := 5) rfl (.cons (k := 0) rfl (.cons (k := 1) rfl .nil)))))) ?_
                              refine C_ret ?_
                              refine K_ret ?_
                              refine K_end (.inr rfl) (.tmp rfl .nil) (fun w hw => ?_)
                              refine ⟨_, M, rfl, Mem.le.refl M, hw.cnt (by intro zz; first | exact Nat.le_refl _ | (simp only [cnt_app, cnt_cons, cnt_nil, cat, List.append_assoc, List.cons_append, List.nil_append]; omega)), ?_⟩
                              first | rfl | (simp [resV]; omega)
                      · first | replace hc11 := dT hc11 | replace hc11 := dF hc11 | replace hc11 := nT hc11 | replace hc11 := nF hc11 | skip
                        first
                        | (exfalso; omega)
                        | (exfalso; simp [eqX] at hc11; done)
                        | skip
                          refine C_skip ?_
                          refine K_then ?_
                          refine C_pick (.cons (k := 9) rfl (.cons (k := 8) rfl (.cons (k := 5) rfl (.cons (k := 4) rfl (.cons (k := 0) rfl (.cons (k := 1) rfl .nil)))))) ?_
                          refine C_seq ?_
                          refine C_seq ?_
                          refine C_region_any (l := [0, 1, 2, 3, 4, 5, 6, 7, 8, 9, 10, 11, 12, 13, 14, 15, 16, 17]) #[0, 1, 3, 7, 7, 7, 55, 119, 255, 511, 1023, 2047, 4095, 2047, 10239, 26623, 65535, 131071] _ rfl (by kernel_rfl) (by kernel_rfl) St.drawn (fun _ h => h) ?_
                          obtain ⟨n, rfl⟩ : ∃ n : Nat, i = (n : Int) := ⟨i.toNat, by omega⟩
                          obtain ⟨hat, hac⟩ := at_okN n l (by omega)
                          rw [take_ok] at hb3
                          have hsz : (l.eraseIdx n).length = l.length - 1 := by rw [List.length_eraseIdx, if_pos (by omega)]
                          refine X_move rfl rfl rfl rfl ?_
                          refine X_cmp rfl rfl rfl rfl rfl rfl ?_
                          refine X_move rfl rfl rfl rfl ?_
                          refine XD_part 75 rfl (fun hc14 => ?_) (fun hc14 => ?_)
                          · first | replace hc14 := dT hc14 | replace hc14 := dF hc14 | replace hc14 := nT hc14 | replace hc14 := nF hc14 | skip
                            first
                            | (exfalso; omega)
                            | (exfalso; simp [eqX] at hc14; done)
                            | skip
                              refine X_skip rfl rfl rfl ?_
                              refine X_skip rfl rfl rfl ?_
                              refine X_skip rfl rfl rfl ?_
                              refine X_skip rfl rfl rfl ?_
                              refine X_skip rfl rfl rfl ?_
                              refine X_skip rfl rfl rfl ?_
                              refine X_pick rfl rfl rfl rfl rfl ?_
                              refine X_move rfl rfl rfl rfl ?_
                              refine X_skip rfl rfl rfl ?_
                              refine X_skip rfl rfl rfl ?_
                              refine X_skip rfl rfl rfl ?_
                              refine X_skip rfl rfl rfl ?_
                              refine X_skip rfl rfl rfl ?_
                              refine X_skip rfl rfl rfl ?_
                              refine X_pick rfl rfl rfl rfl rfl ?_
                              refine XD_end ?_
                              refine K_then ?_
                              refine C_pick (.cons (k := 90) rfl (.cons (k := 5) rfl (.cons (k := 4) rfl (.cons (k := 0) rfl (.cons (k := 1) rfl .nil))))) ?_
                              refine C_true rfl ?_
                              refine C_seq ?_
                              refine C_region (l := [0]) rfl ?_
                              refine X_assign rfl rfl rfl rfl ?_
                              refine XD_end ?_
                              refine K_then ?_
                              refine C_pick (.cons (k := 4) rfl (.cons (k := 5) rfl (.cons (k := 0) rfl (.cons (k := 1) rfl .nil)))) ?_
                              refine C_ret ?_
                              refine K_ret ?_
                              refine K_end (.inr rfl) (.tmp rfl .nil) (fun w hw => ?_)
                              refine ⟨_, M, rfl, Mem.le.refl M, hw.cnt (by intro zz; first | exact Nat.le_refl _ | (simp only [cnt_app, cnt_cons, cnt_nil, cat, List.append_assoc, List.cons_append, List.nil_append]; omega)), ?_⟩
                              first | rfl | (simp [resV]; omega)
                          · first | replace hc14 := dT hc14 | replace hc14 := dF hc14 | replace hc14 := nT hc14 | replace hc14 := nF hc14 | skip
                            first
                            | (exfalso; omega)
                            | (exfalso; simp [eqX] at hc14; done)
                            | skip
                              first | refine X_load rfl rfl rfl (by repeat first | exact List.Mem.head _ | refine List.Mem.tail _ ?_ | refine List.mem_append_right _ ?_) F.lay28 rfl rfl rfl ?_ | refine X_load_el rfl rfl rfl (by first | assumption | exact SlM.mono (by assumption) (by assumption)) (by first | exact row_map (by omega) | exact List.getElem?_eq_getElem (by omega)) F.lay28 rfl rfl rfl ?_ | refine X_load_rd rfl rfl rfl (by assumption) (by first | exact row_map (by omega) | exact List.getElem?_eq_getElem (by omega)) F.lay28 rfl rfl rfl ?_ | refine X_load_mem rfl rfl rfl (by first | assumption | exact Mem.get_of (by assumption) (by repeat first | assumption | refine Mem.le.trans (by assumption) ?_)) F.lay28 rfl rfl rfl ?_ | refine X_load_osl rfl rfl rfl (by assumption) (by repeat first | exact Rem.here _ | apply Rem.skip | apply Rem.over) (by first | exact row_map (by omega) | exact List.getElem?_eq_getElem (by omega)) F.lay28 rfl rfl rfl ?_
                              refine X_move rfl rfl rfl rfl ?_
                              refine X_move rfl rfl rfl rfl ?_
                              refine X_indexAddr rfl rfl rfl rfl F.elem22 (by first | rfl | exact (Int.toNat_of_nonneg (by omega)).symm) (by first | omega | (simp; omega)) (by first | exact ⟨_, _, rfl⟩ | assumption | exact SlM.plain (by assumption) (by simp; omega) | exact RdS.plain (by assumption) (by simp; omega) | exact OSl.plain (by assumption) (by simp; omega)) rfl ?_
                              first | refine X_load rfl rfl rfl (by repeat first | exact List.Mem.head _ | refine List.Mem.tail _ ?_ | refine List.mem_append_right _ ?_) F.lay28 rfl rfl rfl ?_ | refine X_load_el rfl rfl rfl (by first | assumption | exact SlM.mono (by assumption) (by assumption)) (by first | exact row_map (by omega) | exact List.getElem?_eq_getElem (by omega)) F.lay28 rfl rfl rfl ?_ | refine X_load_rd rfl rfl rfl (by assumption) (by first | exact row_map (by omega) | exact List.getElem?_eq_getElem (by omega)) F.lay28 rfl rfl rfl ?_ | refine X_load_mem rfl rfl rfl (by first | assumption | exact Mem.get_of (by assumption) (by repeat first | assumption | refine Mem.le.trans (by assumption) ?_)) F.lay28 rfl rfl rfl ?_ | refine X_load_osl rfl rfl rfl (by assumption) (by repeat first | exact Rem.here _ | apply Rem.skip | apply Rem.over) (by first | exact row_map (by omega) | exact List.getElem?_eq_getElem (by omega)) F.lay28 rfl rfl rfl ?_
                              refine X_same (m := 20) rfl rfl rfl rfl rfl (by constructor) (by constructor) F.lay28 F.kinds28 rfl F.guard28 (by repeat first | exact trivial | exact rfl | refine And.intro ?_ ?_) (by repeat first | exact trivial | exact rfl | refine And.intro ?_ ?_) rfl rfl rfl ?_; intro c15 he16
                              replace he16 : c15 = true ↔ ¬ (Segs.cells _ = Segs.cells _) := he16
                              first | (obtain rfl : c15 = false := Bool.eq_false_iff.2 (fun h => he16.1 h (by first | rw [hat] | rw [h25 (by omega)] | rw [h26 (by omega)]))) | skip
                              refine X_pick rfl rfl rfl rfl rfl ?_
                              refine X_move rfl rfl rfl rfl ?_
                              refine XD_part 83 rfl (fun hc17 => ?_) (fun hc17 => ?_)
                              · first | replace hc17 := dT hc17 | replace hc17 := dF hc17 | replace hc17 := nT hc17 | replace hc17 := nF hc17 | skip
                                first
                                | (exfalso; omega)
                                | (exfalso; simp [eqX] at hc17; done)
                                | skip
                                  refine X_skip rfl rfl rfl ?_
                                  refine X_skip rfl rfl rfl ?_
                                  refine X_skip rfl rfl rfl ?_
                                  refine X_skip rfl rfl rfl ?_
                                  refine X_skip rfl rfl rfl ?_
                                  refine X_skip rfl rfl rfl ?_
                                  refine X_pick rfl rfl rfl rfl rfl ?_
                                  refine XD_end ?_
                                  refine K_then ?_
                                  refine C_pick (.cons (k := 90) rfl (.cons (k := 5) rfl (.cons (k := 4) rfl (.cons (k := 0) rfl (.cons (k := 1) rfl .nil))))) ?_
                                  refine C_true rfl ?_
                                  refine C_seq ?_
                                  refine C_region (l := [0]) rfl ?_
                                  refine X_assign rfl rfl rfl rfl ?_
                                  refine XD_end ?_
                                  refine K_then ?_
                                  refine C_pick (.cons (k := 4) rfl (.cons (k := 5) rfl (.cons (k := 0) rfl (.cons (k := 1) rfl .nil)))) ?_
                                  refine C_ret ?_
                                  refine K_ret ?_
                                  refine K_end (.inr rfl) (.tmp rfl .nil) (fun w hw => ?_)
                                  refine ⟨_, M, rfl, Mem.le.refl M, hw.cnt (by intro zz; first | exact Nat.le_refl _ | (simp only [cnt_app, cnt_cons, cnt_nil, cat, List.append_assoc, List.cons_append, List.nil_append]; omega)), ?_⟩
                                  first | rfl | (simp [resV]; omega)
                              · first | replace hc17 := dT hc17 | replace hc17 := dF hc17 | replace hc17 := nT hc17 | replace hc17 := nF hc17 | skip
                                first
                                | (exfalso; omega)
                                | (exfalso; simp [eqX] at hc17; done)
                                | skip
                                  refine X_move rfl rfl rfl rfl ?_
                                  refine X_fo rfl rfl F.ok11 rfl (Size_ok M b 60 _ _ _ hb3) (by repeat first | exact Rem.here _ | apply Rem.skip | apply Rem.over) (putE_some rfl) ?_
                                  rintro _ M1 _ ⟨hM1, rfl⟩; subst M1
                                  refine X_move rfl rfl rfl rfl ?_
                                  refine X_len_sl rfl rfl rfl rfl F.elem22 rfl ?_
                                  refine X_ari rfl rfl rfl rfl rfl (by first | exact wrap_in (by decide) (by omega) | rfl) rfl ?_
                                  refine X_cmp rfl rfl rfl rfl rfl rfl ?_
                                  refine X_pick rfl rfl rfl rfl rfl ?_
                                  refine XD_end ?_
                                  refine K_then ?_
                                  refine C_pick (.cons (k := 90) rfl (.cons (k := 5) rfl (.cons (k := 4) rfl (.cons (k := 0) rfl (.cons (k := 1) rfl .nil))))) ?_
                                  refine C_cond rfl (fun hc18 => ?_) (fun hc18 => ?_)
                                  · first | replace hc18 := dT hc18 | replace hc18 := dF hc18 | replace hc18 := nT hc18 | replace hc18 := nF hc18 | skip
                                    first
                                    | (exfalso; omega)
                                    | (exfalso; simp [eqX] at hc18; done)
                                    | skip
                                      refine C_seq ?_
                                      refine C_region (l := [0]) rfl ?_
                                      refine X_assign rfl rfl rfl rfl ?_
                                      refine XD_end ?_
                                      refine K_then ?_
                                      refine C_pick (.cons (k := 4) rfl (.cons (k := 5) rfl (.cons (k := 0) rfl (.cons (k := 1) rfl .nil)))) ?_
                                      refine C_ret ?_
                                      refine K_ret ?_
                                      refine K_end (.inr rfl) (.tmp rfl .nil) (fun w hw => ?_)
                                      refine ⟨_, M, rfl, Mem.le.refl M, hw.cnt (by intro zz; first | exact Nat.le_refl _ | (simp only [cnt_app, cnt_cons, cnt_nil, cat, List.append_assoc, List.cons_append, List.nil_append]; omega)), ?_⟩
                                      first | rfl | (simp [resV]; omega)
                                  · first | replace hc18 := dT hc18 | replace hc18 := dF hc18 | replace hc18 := nT hc18 | replace hc18 := nF hc18 | skip
                                    first
                                    | (exfalso; omega)
                                    | (exfalso; simp [eqX] at hc18; done)
                                    | skip
                                      refine C_skip ?_
                                      refine K_then ?_
                                      refine C_pick (.cons (k := 5) rfl (.cons (k := 4) rfl (.cons (k := 0) rfl (.cons (k := 1) rfl .nil)))) ?_
                                      refine C_seq ?_
                                      refine C_seq ?_
                                      refine C_region (l := [0]) rfl ?_
                                      refine X_assign rfl rfl rfl rfl ?_
                                      refine XD_end ?_
                                      refine K_then ?_
                                      refine C_block ?_
                                      refine C_pick (.cons (k := 10) rfl (.cons (k := 5) rfl (.cons (k := 4) rfl (.cons (k := 0) rfl (.cons (k := 1) rfl .nil))))) ?_
                                      refine C_loop (.succ .zero) (fun (k : Nat) S z => (∀ w, S w → St M (Hb3 ++ H) w) ∧ z = [(10, .int .i64 (k : Int))] ∧ k < l.length) (fun k => l.length - k) (0) (⟨fun w hw => hw.cnt (by intro zz; first | exact Nat.le_refl _ | (simp only [cnt_app, cnt_cons, cnt_nil, cat, List.append_assoc, List.cons_append, List.nil_append]; omega)), rfl, by omega⟩) ?_
                                      rintro k _ _ ⟨hS, rfl, hk⟩
                                      refine C_weak (fun _ h => h) hS ?_
                                      refine C_seq ?_
                                      refine C_seq ?_
                                      refine C_region (l := [0, 1, 2, 3, 4]) rfl ?_
                                      refine X_move rfl rfl rfl rfl ?_
                                      refine X_move rfl rfl rfl rfl ?_
                                      refine X_len_sl rfl rfl rfl rfl F.elem22 rfl ?_
                                      refine X_ari rfl rfl rfl rfl rfl (by first | exact wrap_in (by decide) (by omega) | rfl) rfl ?_
                                      refine X_cmp rfl rfl rfl rfl rfl rfl ?_
                                      refine XD_end ?_
                                      refine K_then ?_
                                      refine C_cond rfl (fun hc19 => ?_) (fun hc19 => ?_)
                                      · first | replace hc19 := dT hc19 | replace hc19 := dF hc19 | replace hc19 := nT hc19 | replace hc19 := nF hc19 | skip
                                        first
                                        | (exfalso; omega)
                                        | (exfalso; simp [eqX] at hc19; done)
                                        | skip
                                          refine C_skip ?_
                                          refine K_then ?_
                                          refine C_seq ?_
                                          refine C_block ?_
                                          refine C_seq ?_
                                          refine C_region (l := [0, 1, 2, 3, 4, 5, 6, 7, 8]) rfl ?_
                                          have hac2 := (at_okN k (l.eraseIdx n) (by omega)).2
                                          have h25 := fun h => at_erase_lo n k l h (by omega)
                                          have h26 := fun h => at_erase_hi n k l h (by omega)
                                          refine X_move rfl rfl rfl rfl ?_
                                          refine X_move rfl rfl rfl rfl ?_
                                          refine X_fo rfl rfl F.ok12 rfl (At_ok M b 60 _ (l.eraseIdx n) _ (k : Int) hb3) (by repeat first | exact Rem.here _ | apply Rem.skip | apply Rem.over) (putE_some rfl) ?_
                                          rintro _ M1 _ ⟨hM1, rfl⟩; subst M1
                                          refine X_move rfl rfl rfl rfl ?_
                                          refine X_extract rfl rfl rfl rfl rfl ?_
                                          refine X_extract rfl rfl rfl rfl rfl ?_
                                          refine X_alloc rfl rfl F.zero28 (by constructor) rfl ?_; intro b20
                                          refine X_store rfl rfl rfl rfl (by constructor) (by first | exact Mail.flat _ | (simp [flat, cat, Segs.cells, Seg.cells, Value.oneCell']; done)) (by repeat first | exact Upd.head | apply Upd.tail | apply Upd.over) F.lay28 rfl rfl ?_
                                          refine X_assign rfl rfl rfl rfl ?_
                                          refine XD_end ?_
                                          refine K_then ?_
                                          refine C_seq ?_
                                          refine C_region (l := [0, 1]) rfl ?_
                                          refine X_move rfl rfl rfl rfl ?_
                                          refine X_assign rfl rfl rfl rfl ?_
                                          refine XD_end ?_
                                          refine K_then ?_
                                          refine C_seq ?_
                                          refine C_seq ?_
                                          refine C_region (l := [0, 1, 2]) rfl ?_
                                          refine X_move rfl rfl rfl rfl ?_
                                          refine X_move rfl rfl rfl rfl ?_
                                          refine X_cmp rfl rfl rfl rfl rfl rfl ?_
                                          refine XD_end ?_
                                          refine K_then ?_
                                          refine C_cond rfl (fun hc21 => ?_) (fun hc21 => ?_)
                                          · first | replace hc21 := dT hc21 | replace hc21 := dF hc21 | replace hc21 := nT hc21 | replace hc21 := nF hc21 | skip
                                            first
                                            | (exfalso; omega)
                                            | (exfalso; simp [eqX] at hc21; done)
                                            | skip
                                              refine C_region (l := [0, 1, 2]) rfl ?_
                                              refine X_move rfl rfl rfl rfl ?_
                                              refine X_ari rfl rfl rfl rfl rfl (by first | exact wrap_in (by decide) (by omega) | rfl) rfl ?_
                                              refine X_assign rfl rfl rfl rfl ?_
                                              refine XD_end ?_
                                              refine K_then ?_
                                              refine C_seq ?_
                                              refine C_region_any (l := [0, 1, 2, 3, 4, 5, 6, 7, 8, 9]) #[0, 1, 3, 7, 7, 7, 55, 119, 255, 511] _ rfl (by kernel_rfl) (by kernel_rfl) St.drawn (fun _ h => h) ?_
                                              refine X_move rfl rfl rfl rfl ?_
                                              refine X_cmp rfl rfl rfl rfl rfl rfl ?_
                                              refine X_move rfl rfl rfl rfl ?_
                                              refine XD_part 112 rfl (fun hc22 => ?_) (fun hc22 => ?_)
                                              · first | replace hc22 := dT hc22 | replace hc22 := dF hc22 | replace hc22 := nT hc22 | replace hc22 := nF hc22 | skip
                                                first
                                                | (exfalso; omega)
                                                | (exfalso; simp [eqX] at hc22; done)
                                                | skip
                                                  refine X_skip rfl rfl rfl ?_
                                                  refine X_skip rfl rfl rfl ?_
                                                  refine X_skip rfl rfl rfl ?_
                                                  refine X_skip rfl rfl rfl ?_
                                                  refine X_skip rfl rfl rfl ?_
                                                  refine X_skip rfl rfl rfl ?_
                                                  refine X_pick rfl rfl rfl rfl rfl ?_
                                                  refine XD_end ?_
                                                  refine K_then ?_
                                                  refine C_true rfl ?_
                                                  refine C_seq ?_
                                                  refine C_region (l := [0]) rfl ?_
                                                  refine X_assign rfl rfl rfl rfl ?_
                                                  refine XD_end ?_
                                                  refine K_then ?_
                                                  refine C_ret ?_
                                                  refine K_retB ?_
                                                  refine K_ret ?_
                                                  refine K_ret ?_
                                                  refine K_retB ?_
                                                  refine K_ret ?_
                                                  refine K_end (.inr rfl) (.tmp rfl .nil) (fun w hw => ?_)
                                                  refine ⟨_, M, rfl, Mem.le.refl M, hw.cnt (by intro zz; first | exact Nat.le_refl _ | (simp only [cnt_app, cnt_cons, cnt_nil, cat, List.append_assoc, List.cons_append, List.nil_append]; omega)), ?_⟩
                                                  first | rfl | (simp [resV]; omega)
                                              · first | replace hc22 := dT hc22 | replace hc22 := dF hc22 | replace hc22 := nT hc22 | replace hc22 := nF hc22 | skip
                                                first
                                                | (exfalso; omega)
                                                | (exfalso; simp [eqX] at hc22; done)
                                                | skip
                                                  first | refine X_load rfl rfl rfl (by repeat first | exact List.Mem.head _ | refine List.Mem.tail _ ?_ | refine List.mem_append_right _ ?_) F.lay28 rfl rfl rfl ?_ | refine X_load_el rfl rfl rfl (by first | assumption | exact SlM.mono (by assumption) (by assumption)) (by first | exact row_map (by omega) | exact List.getElem?_eq_getElem (by omega)) F.lay28 rfl rfl rfl ?_ | refine X_load_rd rfl rfl rfl (by assumption) (by first | exact row_map (by omega) | exact List.getElem?_eq_getElem (by omega)) F.lay28 rfl rfl rfl ?_ | refine X_load_mem rfl rfl rfl (by first | assumption | exact Mem.get_of (by assumption) (by repeat first | assumption | refine Mem.le.trans (by assumption) ?_)) F.lay28 rfl rfl rfl ?_ | refine X_load_osl rfl rfl rfl (by assumption) (by repeat first | exact Rem.here _ | apply Rem.skip | apply Rem.over) (by first | exact row_map (by omega) | exact List.getElem?_eq_getElem (by omega)) F.lay28 rfl rfl rfl ?_
                                                  refine X_move rfl rfl rfl rfl ?_
                                                  refine X_move rfl rfl rfl rfl ?_
                                                  first | refine X_indexAddr (k := k) rfl rfl rfl rfl F.elem22 rfl (by first | omega | (simp; omega)) (by first | exact ⟨_, _, rfl⟩ | assumption | exact SlM.plain (by assumption) (by simp; omega) | exact RdS.plain (by assumption) (by simp; omega) | exact OSl.plain (by assumption) (by simp; omega)) rfl ?_ | refine X_indexAddr (k := k + 1) rfl rfl rfl rfl F.elem22 (by omega) (by first | omega | (simp; omega)) (by first | exact ⟨_, _, rfl⟩ | assumption | exact SlM.plain (by assumption) (by simp; omega) | exact RdS.plain (by assumption) (by simp; omega) | exact OSl.plain (by assumption) (by simp; omega)) rfl ?_
                                                  first | refine X_load rfl rfl rfl (by repeat first | exact List.Mem.head _ | refine List.Mem.tail _ ?_ | refine List.mem_append_right _ ?_) F.lay28 rfl rfl rfl ?_ | refine X_load_el rfl rfl rfl (by first | assumption | exact SlM.mono (by assumption) (by assumption)) (by first | exact row_map (by omega) | exact List.getElem?_eq_getElem (by omega)) F.lay28 rfl rfl rfl ?_ | refine X_load_rd rfl rfl rfl (by assumption) (by first | exact row_map (by omega) | exact List.getElem?_eq_getElem (by omega)) F.lay28 rfl rfl rfl ?_ | refine X_load_mem rfl rfl rfl (by first | assumption | exact Mem.get_of (by assumption) (by repeat first | assumption | refine Mem.le.trans (by assumption) ?_)) F.lay28 rfl rfl rfl ?_ | refine X_load_osl rfl rfl rfl (by assumption) (by repeat first | exact Rem.here _ | apply Rem.skip | apply Rem.over) (by first | exact row_map (by omega) | exact List.getElem?_eq_getElem (by omega)) F.lay28 rfl rfl rfl ?_
                                                  refine X_same (m := 20) rfl rfl rfl rfl rfl (by constructor) (by constructor) F.lay28 F.kinds28 rfl F.guard28 (by repeat first | exact trivial | exact rfl | refine And.intro ?_ ?_) (by repeat first | exact trivial | exact rfl | refine And.intro ?_ ?_) rfl rfl rfl ?_; intro c23 he24
                                                  replace he24 : c23 = true ↔ ¬ (Segs.cells _ = Segs.cells _) := he24
                                                  first | (obtain rfl : c23 = false := Bool.eq_false_iff.2 (fun h => he24.1 h (by first | rw [hat] | rw [h25 (by omega)] | rw [h26 (by omega)]))) | skip
                                                  refine X_pick rfl rfl rfl rfl rfl ?_
                                                  refine XD_end ?_
                                                  refine K_then ?_
                                                  refine C_cond rfl (fun hc25 => ?_) (fun hc25 => ?_)
                                                  · first | replace hc25 := dT hc25 | replace hc25 := dF hc25 | replace hc25 := nT hc25 | replace hc25 := nF hc25 | skip
                                                    first
                                                    | (exfalso; omega)
                                                    | (exfalso; simp [eqX] at hc25; done)
                                                    | skip
                                                      refine C_seq ?_
                                                      refine C_region (l := [0]) rfl ?_
                                                      refine X_assign rfl rfl rfl rfl ?_
                                                      refine XD_end ?_
                                                      refine K_then ?_
                                                      refine C_ret ?_
                                                      refine K_retB ?_
                                                      refine K_ret ?_
                                                      refine K_ret ?_
                                                      refine K_retB ?_
                                                      refine K_ret ?_
                                                      refine K_end (.inr rfl) (.tmp rfl .nil) (fun w hw => ?_)
                                                      refine ⟨_, M, rfl, Mem.le.refl M, hw.cnt (by intro zz; first | exact Nat.le_refl _ | (simp only [cnt_app, cnt_cons, cnt_nil, cat, List.append_assoc, List.cons_append, List.nil_append]; omega)), ?_⟩
                                                      first | rfl | (simp [resV]; omega)
                                                  · first | replace hc25 := dT hc25 | replace hc25 := dF hc25 | replace hc25 := nT hc25 | replace hc25 := nF hc25 | skip
                                                    first
                                                    | (exfalso; omega)
                                                    | (exfalso; simp [eqX] at hc25; done)
                                                    | skip
                                                      refine C_skip ?_
                                                      refine K_out ?_
                                                      refine K_then ?_
                                                      refine C_region (l := [0, 1, 2]) rfl ?_
                                                      refine X_move rfl rfl rfl rfl ?_
                                                      refine X_ari rfl rfl rfl rfl rfl (by first | exact wrap_in (by decide) (by omega) | rfl) rfl ?_
                                                      refine X_assign rfl rfl rfl rfl ?_
                                                      refine XD_end ?_
                                                      refine K_round (a' := [(10, _)]) (k + 1) (.cons (k := 10) rfl (.cons (k := 5) rfl (.cons (k := 4) rfl (.cons (k := 0) rfl (.cons (k := 1) rfl (.nil)))))) ?_ ?_
                                                      · exact ⟨fun w hw => hw.cnt (by intro zz; first | exact Nat.le_refl _ | (simp only [cnt_app, cnt_cons, cnt_nil, cat, List.append_assoc, List.cons_append, List.nil_append]; omega)), rfl, by omega⟩
                                                      · omega
                                          · first | replace hc21 := dT hc21 | replace hc21 := dF hc21 | replace hc21 := nT hc21 | replace hc21 := nF hc21 | skip
                                            first
                                            | (exfalso; omega)
                                            | (exfalso; simp [eqX] at hc21; done)
                                            | skip
                                              refine C_skip ?_
                                              refine K_then ?_
                                              refine C_seq ?_
                                              refine C_region_any (l := [0, 1, 2, 3, 4, 5, 6, 7, 8, 9]) #[0, 1, 3, 7, 7, 7, 55, 119, 255, 511] _ rfl (by kernel_rfl) (by kernel_rfl) St.drawn (fun _ h => h) ?_
                                              refine X_move rfl rfl rfl rfl ?_
                                              refine X_cmp rfl rfl rfl rfl rfl rfl ?_
                                              refine X_move rfl rfl rfl rfl ?_
                                              refine XD_part 112 rfl (fun hc26 => ?_) (fun hc26 => ?_)
                                              · first | replace hc26 := dT hc26 | replace hc26 := dF hc26 | replace hc26 := nT hc26 | replace hc26 := nF hc26 | skip
                                                first
                                                | (exfalso; omega)
                                                | (exfalso; simp [eqX] at hc26; done)
                                                | skip
                                                  refine X_skip rfl rfl rfl ?_
                                                  refine X_skip rfl rfl rfl ?_
                                                  refine X_skip rfl rfl rfl ?_
                                                  refine X_skip rfl rfl rfl ?_
                                                  refine X_skip rfl rfl rfl ?_
                                                  refine X_skip rfl rfl rfl ?_
                                                  refine X_pick rfl rfl rfl rfl rfl ?_
                                                  refine XD_end ?_
                                                  refine K_then ?_
                                                  refine C_true rfl ?_
                                                  refine C_seq ?_
                                                  refine C_region (l := [0]) rfl ?_
                                                  refine X_assign rfl rfl rfl rfl ?_
                                                  refine XD_end ?_
                                                  refine K_then ?_
                                                  refine C_ret ?_
                                                  refine K_retB ?_
                                                  refine K_ret ?_
                                                  refine K_ret ?_
                                                  refine K_retB ?_
                                                  refine K_ret ?_
                                                  refine K_end (.inr rfl) (.tmp rfl .nil) (fun w hw => ?_)
                                                  refine ⟨_, M, rfl, Mem.le.refl M, hw.cnt (by intro zz; first | exact Nat.le_refl _ | (simp only [cnt_app, cnt_cons, cnt_nil, cat, List.append_assoc, List.cons_append, List.nil_append]; omega)), ?_⟩
                                                  first | rfl | (simp [resV]; omega)
                                              · first | replace hc26 := dT hc26 | replace hc26 := dF hc26 | replace hc26 := nT hc26 | replace hc26 := nF hc26 | skip
                                                first
                                                | (exfalso; omega)
                                                | (exfalso; simp [eqX] at hc26; done)
                                                | skip
                                                  first | refine X_load rfl rfl rfl (by repeat first | exact List.Mem.head _ | refine List.Mem.tail _ ?_ | refine List.mem_append_right _ ?_) F.lay28 rfl rfl rfl ?_ | refine X_load_el rfl rfl rfl (by first | assumption | exact SlM.mono (by assumption) (by assumption)) (by first | exact row_map (by omega) | exact List.getElem?_eq_getElem (by omega)) F.lay28 rfl rfl rfl ?_ | refine X_load_rd rfl rfl rfl (by assumption) (by first | exact row_map (by omega) | exact List.getElem?_eq_getElem (by omega)) F.lay28 rfl rfl rfl ?_ | refine X_load_mem rfl rfl rfl (by first | assumption | exact Mem.get_of (by assumption) (by repeat first | assumption | refine Mem.le.trans (by assumption) ?_)) F.lay28 rfl rfl rfl ?_ | refine X_load_osl rfl rfl rfl (by assumption) (by repeat first | exact Rem.here _ | apply Rem.skip | apply Rem.over) (by first | exact row_map (by omega) | exact List.getElem?_eq_getElem (by omega)) F.lay28 rfl rfl rfl ?_
                                                  refine X_move rfl rfl rfl rfl ?_
                                                  refine X_move rfl rfl rfl rfl ?_
                                                  first | refine X_indexAddr (k := k) rfl rfl rfl rfl F.elem22 rfl (by first | omega | (simp; omega)) (by first | exact ⟨_, _, rfl⟩ | assumption | exact SlM.plain (by assumption) (by simp; omega) | exact RdS.plain (by assumption) (by simp; omega) | exact OSl.plain (by assumption) (by simp; omega)) rfl ?_ | refine X_indexAddr (k := k + 1) rfl rfl rfl rfl F.elem22 (by omega) (by first | omega | (simp; omega)) (by first | exact ⟨_, _, rfl⟩ | assumption | exact SlM.plain (by assumption) (by simp; omega) | exact RdS.plain (by assumption) (by simp; omega) | exact OSl.plain (by assumption) (by simp; omega)) rfl ?_
                                                  first | refine X_load rfl rfl rfl (by repeat first | exact List.Mem.head _ | refine List.Mem.tail _ ?_ | refine List.mem_append_right _ ?_) F.lay28 rfl rfl rfl ?_ | refine X_load_el rfl rfl rfl (by first | assumption | exact SlM.mono (by assumption) (by assumption)) (by first | exact row_map (by omega) | exact List.getElem?_eq_getElem (by omega)) F.lay28 rfl rfl rfl ?_ | refine X_load_rd rfl rfl rfl (by assumption) (by first | exact row_map (by omega) | exact List.getElem?_eq_getElem (by omega)) F.lay28 rfl rfl rfl ?_ | refine X_load_mem rfl rfl rfl (by first | assumption | exact Mem.get_of (by assumption) (by repeat first | assumption | refine Mem.le.trans (by assumption) ?_)) F.lay28 rfl rfl rfl ?_ | refine X_load_osl rfl rfl rfl (by assumption) (by repeat first | exact Rem.here _ | apply Rem.skip | apply Rem.over) (by first | exact row_map (by omega) | exact List.getElem?_eq_getElem (by omega)) F.lay28 rfl rfl rfl ?_
                                                  refine X_same (m := 20) rfl rfl rfl rfl rfl (by constructor) (by constructor) F.lay28 F.kinds28 rfl F.guard28 (by repeat first | exact trivial | exact rfl | refine And.intro ?_ ?_) (by repeat first | exact trivial | exact rfl | refine And.intro ?_ ?_) rfl rfl rfl ?_; intro c27 he28
                                                  replace he28 : c27 = true ↔ ¬ (Segs.cells _ = Segs.cells _) := he28
                                                  first | (obtain rfl : c27 = false := Bool.eq_false_iff.2 (fun h => he28.1 h (by first | rw [hat] | rw [h25 (by omega)] | rw [h26 (by omega)]))) | skip
                                                  refine X_pick rfl rfl rfl rfl rfl ?_
                                                  refine XD_end ?_
                                                  refine K_then ?_
                                                  refine C_cond rfl (fun hc29 => ?_) (fun hc29 => ?_)
                                                  · first | replace hc29 := dT hc29 | replace hc29 := dF hc29 | replace hc29 := nT hc29 | replace hc29 := nF hc29 | skip
                                                    first
                                                    | (exfalso; omega)
                                                    | (exfalso; simp [eqX] at hc29; done)
                                                    | skip
                                                      refine C_seq ?_
                                                      refine C_region (l := [0]) rfl ?_
                                                      refine X_assign rfl rfl rfl rfl ?_
                                                      refine XD_end ?_
                                                      refine K_then ?_
                                                      refine C_ret ?_
                                                      refine K_retB ?_
                                                      refine K_ret ?_
                                                      refine K_ret ?_
                                                      refine K_retB ?_
                                                      refine K_ret ?_
                                                      refine K_end (.inr rfl) (.tmp rfl .nil) (fun w hw => ?_)
                                                      refine ⟨_, M, rfl, Mem.le.refl M, hw.cnt (by intro zz; first | exact Nat.le_refl _ | (simp only [cnt_app, cnt_cons, cnt_nil, cat, List.append_assoc, List.cons_append, List.nil_append]; omega)), ?_⟩
                                                      first | rfl | (simp [resV]; omega)
                                                  · first | replace hc29 := dT hc29 | replace hc29 := dF hc29 | replace hc29 := nT hc29 | replace hc29 := nF hc29 | skip
                                                    first
                                                    | (exfalso; omega)
                                                    | (exfalso; simp [eqX] at hc29; done)
                                                    | skip
                                                      refine C_skip ?_
                                                      refine K_out ?_
                                                      refine K_then ?_
                                                      refine C_region (l := [0, 1, 2]) rfl ?_
                                                      refine X_move rfl rfl rfl rfl ?_
                                                      refine X_ari rfl rfl rfl rfl rfl (by first | exact wrap_in (by decide) (by omega) | rfl) rfl ?_
                                                      refine X_assign rfl rfl rfl rfl ?_
                                                      refine XD_end ?_
                                                      refine K_round (a' := [(10, _)]) (k + 1) (.cons (k := 10) rfl (.cons (k := 5) rfl (.cons (k := 4) rfl (.cons (k := 0) rfl (.cons (k := 1) rfl (.nil)))))) ?_ ?_
                                                      · exact ⟨fun w hw => hw.cnt (by intro zz; first | exact Nat.le_refl _ | (simp only [cnt_app, cnt_cons, cnt_nil, cat, List.append_assoc, List.cons_append, List.nil_append]; omega)), rfl, by omega⟩
                                                      · omega
                                      · first | replace hc19 := dT hc19 | replace hc19 := dF hc19 | replace hc19 := nT hc19 | replace hc19 := nF hc19 | skip
                                        first
                                        | (exfalso; omega)
                                        | (exfalso; simp [eqX] at hc19; done)
                                        | skip
                                          refine C_exit ?_
                                          refine K_exit ?_
                                          refine K_exit ?_
                                          refine K_hit ?_
                                          refine K_then ?_
                                          refine C_pick (.cons (k := 4) rfl .nil) ?_
                                          refine C_seq ?_
                                          refine C_region (l := [0, 1]) rfl ?_
                                          refine X_fs rfl rfl F.ok10 rfl (packed_ok M) rfl ?_
                                          rintro _ rfl
                                          refine X_assign rfl rfl rfl rfl ?_
                                          refine XD_end ?_
                                          refine K_then ?_
                                          refine C_pick (.cons (k := 4) rfl .nil) ?_
                                          refine C_ret ?_
                                          refine K_end (.inr rfl) (.tmp rfl .nil) (fun w hw => ?_)
                                          refine ⟨_, M, rfl, Mem.le.refl M, hw.cnt (by intro zz; first | exact Nat.le_refl _ | (simp only [cnt_app, cnt_cons, cnt_nil, cat, List.append_assoc, List.cons_append, List.nil_append]; omega)), ?_⟩
                                          first | rfl | (simp [resV]; omega)

end Go.Proofs.Ytenamdnnmdilgaa
