/-
  The walks of the document's bag.
-/
import Derived.Test.YtenamdnnmdilgaaBag6
set_option linter.unusedSimpArgs false
set_option linter.unusedVariables false
set_option linter.unnecessarySimpa false
namespace Go.Proofs.Ytenamdnnmdilgaa
open Go.Esp
theorem F.bld44 : Bld Try.prog 44 [[.one (.slice none 0 0)], [.one (.int .i64 0)]] := ⟨by kernel_rfl, by kernel_rfl⟩
theorem F.elem22 : slOf Try.prog 22 = some (28, 3, 32) := by kernel_rfl
theorem F.foff44_0 : foff Try.prog 44 0 = some 0 := by kernel_rfl
theorem F.foff44_1 : foff Try.prog 44 1 = some 1 := by kernel_rfl
theorem F.lay22 : lay Try.prog 22 = some (false, 1) := by kernel_rfl
theorem F.ok25 : okFn Try.prog 25 = true := by kernel_rfl

theorem RNew_no (M : Mem) (most : Int) (h : most < 1 ∨ 1000 < most) : Fs Try.prog 14 [.int .i64 most] M (fun v => v = .tuple #[.pointer none, .int .i64 1]) := by
  refine fs_enter Try.func14 rfl Try.ntmps14 rfl ?_; intro H
  refine C_seq ?_
  refine C_region (l := [0, 1]) rfl ?_
  refine X_assign rfl rfl rfl rfl ?_
  refine X_assign rfl rfl rfl rfl ?_
  refine XD_end ?_
  refine K_then ?_
  refine C_seq ?_
  refine C_seq ?_
  refine C_region (l := [0, 1, 2, 3, 4, 5]) rfl ?_
  refine X_move rfl rfl rfl rfl ?_
  refine X_cmp rfl rfl rfl rfl rfl rfl ?_
  refine X_move rfl rfl rfl rfl ?_
  refine XD_part 6 rfl (fun hc1 => ?_) (fun hc1 => ?_)
  · first | replace hc1 := dT hc1 | replace hc1 := dF hc1 | replace hc1 := nT hc1 | replace hc1 := nF hc1 | skip
    first
    | (exfalso; omega)
    | (exfalso; simp [eqX] at hc1; done)
    | skip
      refine X_skip rfl rfl rfl ?_
      refine X_skip rfl rfl rfl ?_
      refine X_pick rfl rfl rfl rfl rfl ?_
      refine XD_end ?_
      refine K_then ?_
      refine C_pick (.cons (k := 9) rfl (.cons (k := 3) rfl (.cons (k := 2) rfl (.cons (k := 0) rfl .nil)))) ?_
      refine C_true rfl ?_
      refine C_seq ?_
      refine C_region (l := [0, 1]) rfl ?_
      refine X_assign rfl rfl rfl rfl ?_
      refine X_assign rfl rfl rfl rfl ?_
      refine XD_end ?_
      refine K_then ?_
      refine C_pick (.cons (k := 3) rfl (.cons (k := 2) rfl (.cons (k := 0) rfl .nil))) ?_
      refine C_ret ?_
      refine K_ret ?_
      refine K_end (.inr rfl) (.tmp rfl (.tmp rfl .nil)) (fun w hw => ?_)
      exact ⟨_, rfl, hw.suf (by repeat first | exact Suf.refl _ | refine Suf.skip ?_), rfl⟩
  · first | replace hc1 := dT hc1 | replace hc1 := dF hc1 | replace hc1 := nT hc1 | replace hc1 := nF hc1 | skip
    first
    | (exfalso; omega)
    | (exfalso; simp [eqX] at hc1; done)
    | skip
      refine X_move rfl rfl rfl rfl ?_
      refine X_cmp rfl rfl rfl rfl rfl rfl ?_
      refine X_pick rfl rfl rfl rfl rfl ?_
      refine XD_end ?_
      refine K_then ?_
      refine C_pick (.cons (k := 9) rfl (.cons (k := 3) rfl (.cons (k := 2) rfl (.cons (k := 0) rfl .nil)))) ?_
      refine C_cond rfl (fun hc2 => ?_) (fun hc2 => ?_)
      · first | replace hc2 := dT hc2 | replace hc2 := dF hc2 | replace hc2 := nT hc2 | replace hc2 := nF hc2 | skip
        first
        | (exfalso; omega)
        | (exfalso; simp [eqX] at hc2; done)
        | skip
          refine C_seq ?_
          refine C_region (l := [0, 1]) rfl ?_
          refine X_assign rfl rfl rfl rfl ?_
          refine X_assign rfl rfl rfl rfl ?_
          refine XD_end ?_
          refine K_then ?_
          refine C_pick (.cons (k := 3) rfl (.cons (k := 2) rfl (.cons (k := 0) rfl .nil))) ?_
          refine C_ret ?_
          refine K_ret ?_
          refine K_end (.inr rfl) (.tmp rfl (.tmp rfl .nil)) (fun w hw => ?_)
          exact ⟨_, rfl, hw.suf (by repeat first | exact Suf.refl _ | refine Suf.skip ?_), rfl⟩
      · first | replace hc2 := dT hc2 | replace hc2 := dF hc2 | replace hc2 := nT hc2 | replace hc2 := nF hc2 | skip
        first
        | (exfalso; omega)
        | (exfalso; simp [eqX] at hc2; done)
        | skip
          refine C_skip ?_
          refine K_then ?_
          refine C_pick (.cons (k := 3) rfl (.cons (k := 2) rfl (.cons (k := 0) rfl .nil))) ?_
          refine C_seq ?_
          refine C_region (l := [0, 1, 2, 3, 4]) rfl ?_
          refine X_move rfl rfl rfl rfl ?_
          refine X_build rfl rfl F.bld44 (.cons rfl (by constructor) .nil) rfl rfl ?_
          refine X_box rfl rfl rfl (by constructor) rfl ?_; intro b3
          refine X_assign rfl rfl rfl rfl ?_
          refine X_assign rfl rfl rfl rfl ?_
          refine XD_end ?_
          refine K_then ?_
          refine C_pick (.cons (k := 3) rfl (.cons (k := 2) rfl .nil)) ?_
          refine C_ret ?_
          refine K_end (.inr rfl) (.tmp rfl (.tmp rfl .nil)) (fun w hw => ?_)
          exact ⟨_, rfl, hw.suf (by repeat first | exact Suf.refl _ | refine Suf.skip ?_), rfl⟩

theorem RNew_ok (M : Mem) (most : Int) (h : 1 ≤ most ∧ most ≤ 1000) : Fh Try.prog 14 [.int .i64 most] M [] (fun M' v Hb => M' = M ∧ ∃ b, v = .tuple #[.pointer (some ⟨b, 0, none⟩), .int .i64 0] ∧ RefIs b most [] Hb) := by
  refine fh_enter Try.func14 rfl Try.ntmps14 rfl ?_; intro H
  refine C_seq ?_
  refine C_region (l := [0, 1]) rfl ?_
  refine X_assign rfl rfl rfl rfl ?_
  refine X_assign rfl rfl rfl rfl ?_
  refine XD_end ?_
  refine K_then ?_
  refine C_seq ?_
  refine C_seq ?_
  refine C_region (l := [0, 1, 2, 3, 4, 5]) rfl ?_
  refine X_move rfl rfl rfl rfl ?_
  refine X_cmp rfl rfl rfl rfl rfl rfl ?_
  refine X_move rfl rfl rfl rfl ?_
  refine XD_part 6 rfl (fun hc1 => ?_) (fun hc1 => ?_)
  · first | replace hc1 := dT hc1 | replace hc1 := dF hc1 | replace hc1 := nT hc1 | replace hc1 := nF hc1 | skip
    first
    | (exfalso; omega)
    | (exfalso; simp [eqX] at hc1; done)
    | skip
      refine X_skip rfl rfl rfl ?_
      refine X_skip rfl rfl rfl ?_
      refine X_pick rfl rfl rfl rfl rfl ?_
      refine XD_end ?_
      refine K_then ?_
      refine C_pick (.cons (k := 9) rfl (.cons (k := 3) rfl (.cons (k := 2) rfl (.cons (k := 0) rfl .nil)))) ?_
      refine C_true rfl ?_
      refine C_seq ?_
      refine C_region (l := [0, 1]) rfl ?_
      refine X_assign rfl rfl rfl rfl ?_
      refine X_assign rfl rfl rfl rfl ?_
      refine XD_end ?_
      refine K_then ?_
      refine C_pick (.cons (k := 3) rfl (.cons (k := 2) rfl (.cons (k := 0) rfl .nil))) ?_
      refine C_ret ?_
      refine K_ret ?_
      refine K_end (.inr rfl) (.tmp rfl (.tmp rfl .nil)) (fun w hw => ?_)
      refine ⟨_, M, [(_, _)], rfl, Mem.le.refl M, ?_, rfl, _, rfl, RefIs.intro OSl.nil⟩
      exact hw.cnt (by intro zz; first | exact Nat.le_refl _ | (simp only [cnt_app, cnt_cons, cnt_nil, cat, List.append_eq, List.append_assoc, List.cons_append, List.nil_append, List.append_nil]; omega))
  · first | replace hc1 := dT hc1 | replace hc1 := dF hc1 | replace hc1 := nT hc1 | replace hc1 := nF hc1 | skip
    first
    | (exfalso; omega)
    | (exfalso; simp [eqX] at hc1; done)
    | skip
      refine X_move rfl rfl rfl rfl ?_
      refine X_cmp rfl rfl rfl rfl rfl rfl ?_
      refine X_pick rfl rfl rfl rfl rfl ?_
      refine XD_end ?_
      refine K_then ?_
      refine C_pick (.cons (k := 9) rfl (.cons (k := 3) rfl (.cons (k := 2) rfl (.cons (k := 0) rfl .nil)))) ?_
      refine C_cond rfl (fun hc2 => ?_) (fun hc2 => ?_)
      · first | replace hc2 := dT hc2 | replace hc2 := dF hc2 | replace hc2 := nT hc2 | replace hc2 := nF hc2 | skip
        first
        | (exfalso; omega)
        | (exfalso; simp [eqX] at hc2; done)
        | skip
          refine C_seq ?_
          refine C_region (l := [0, 1]) rfl ?_
          refine X_assign rfl rfl rfl rfl ?_
          refine X_assign rfl rfl rfl rfl ?_
          refine XD_end ?_
          refine K_then ?_
          refine C_pick (.cons (k := 3) rfl (.cons (k := 2) rfl (.cons (k := 0) rfl .nil))) ?_
          refine C_ret ?_
          refine K_ret ?_
          refine K_end (.inr rfl) (.tmp rfl (.tmp rfl .nil)) (fun w hw => ?_)
          refine ⟨_, M, [(_, _)], rfl, Mem.le.refl M, ?_, rfl, _, rfl, RefIs.intro OSl.nil⟩
          exact hw.cnt (by intro zz; first | exact Nat.le_refl _ | (simp only [cnt_app, cnt_cons, cnt_nil, cat, List.append_eq, List.append_assoc, List.cons_append, List.nil_append, List.append_nil]; omega))
      · first | replace hc2 := dT hc2 | replace hc2 := dF hc2 | replace hc2 := nT hc2 | replace hc2 := nF hc2 | skip
        first
        | (exfalso; omega)
        | (exfalso; simp [eqX] at hc2; done)
        | skip
          refine C_skip ?_
          refine K_then ?_
          refine C_pick (.cons (k := 3) rfl (.cons (k := 2) rfl (.cons (k := 0) rfl .nil))) ?_
          refine C_seq ?_
          refine C_region (l := [0, 1, 2, 3, 4]) rfl ?_
          refine X_move rfl rfl rfl rfl ?_
          refine X_build rfl rfl F.bld44 (.cons rfl (by constructor) .nil) rfl rfl ?_
          refine X_box rfl rfl rfl (by constructor) rfl ?_; intro b3
          refine X_assign rfl rfl rfl rfl ?_
          refine X_assign rfl rfl rfl rfl ?_
          refine XD_end ?_
          refine K_then ?_
          refine C_pick (.cons (k := 3) rfl (.cons (k := 2) rfl .nil)) ?_
          refine C_ret ?_
          refine K_end (.inr rfl) (.tmp rfl (.tmp rfl .nil)) (fun w hw => ?_)
          refine ⟨_, M, [(_, _)], rfl, Mem.le.refl M, ?_, rfl, _, rfl, RefIs.intro OSl.nil⟩
          exact hw.cnt (by intro zz; first | exact Nat.le_refl _ | (simp only [cnt_app, cnt_cons, cnt_nil, cat, List.append_eq, List.append_assoc, List.cons_append, List.nil_append, List.append_nil]; omega))

theorem RPut_ok (M : Mem) (b : Nat) (most : Int) (l : List Mail) (Hb : Hp) (m : Mail) (hl : l.length ≤ 1000) (hb : RefIs b most l Hb) : Fh Try.prog 21 [.pointer (some ⟨b, 0, none⟩), m.val] M Hb (fun M' v Hb' => M' = M ∧ v = .int .i64 (putC m most l) ∧ RefIs b most (putL m most l) Hb') := by
  obtain ⟨rv, hs, rfl, ho⟩ := hb
  obtain ⟨ad, cp, rfl⟩ := ho.val
  have hil : (l.map Mail.segs).length = l.length := by simp
  refine fh_enterF (fun H => (b, rowO [Seg.one _, .one (.int .i64 most)] 44) :: (hs ++ H)) (fun _ => rfl) Try.func21 rfl Try.ntmps21 rfl ?_; intro H
  refine C_seq ?_
  refine C_region (l := [0, 1]) rfl ?_
  refine X_box rfl rfl rfl (by constructor) rfl ?_; intro b1
  refine X_assign rfl rfl rfl rfl ?_
  refine XD_end ?_
  refine K_then ?_
  refine C_pick (.cons (k := 4) rfl (.cons (k := 3) rfl (.cons (k := 0) rfl .nil))) ?_
  refine C_seq ?_
  refine C_seq ?_
  refine C_region (l := [0, 1, 2, 3]) rfl ?_
  first | refine X_fieldAddr rfl rfl rfl F.foff28_2 rfl ?_ | refine X_fieldAddr_el rfl rfl rfl (by first | exact ⟨_, _, rfl⟩ | assumption | exact SlM.plain (by assumption) (by simp; omega) | exact RdS.plain (by assumption) (by simp; omega) | exact OSl.plain (by assumption) (by simp; omega)) F.foff28_2 rfl ?_
  first | refine X_load rfl rfl rfl (by repeat first | exact List.Mem.head _ | refine List.Mem.tail _ ?_ | refine List.mem_append_right _ ?_) F.lay9 rfl rfl rfl ?_ | refine X_load_el rfl rfl rfl (by first | assumption | exact SlM.mono (by assumption) (by assumption)) (by first | exact row_map (by omega) | exact List.getElem?_eq_getElem (by omega)) F.lay9 rfl rfl rfl ?_ | refine X_load_rd rfl rfl rfl (by assumption) (by first | exact row_map (by omega) | exact List.getElem?_eq_getElem (by omega)) F.lay9 rfl rfl rfl ?_ | refine X_load_mem rfl rfl rfl (by first | assumption | exact Mem.get_of (by assumption) (by repeat first | assumption | refine Mem.le.trans (by assumption) ?_)) F.lay9 rfl rfl rfl ?_ | refine X_load_osl rfl rfl rfl (by assumption) (by repeat first | exact Rem.here _ | exact Rem.two | apply Rem.skip | apply Rem.over) (by first | exact row_map (by omega) | exact List.getElem?_eq_getElem (by omega)) F.lay9 rfl rfl rfl ?_
  refine X_len_str rfl rfl rfl rfl Try.underlying9 rfl ?_
  refine X_cmp rfl rfl rfl rfl rfl rfl ?_
  refine XD_end ?_
  refine K_then ?_
  refine C_pick (.cons (k := 8) rfl (.cons (k := 4) rfl (.cons (k := 3) rfl (.cons (k := 0) rfl .nil)))) ?_
  refine C_cond rfl (fun hc2 => ?_) (fun hc2 => ?_)
  · first | replace hc2 := dT hc2 | replace hc2 := dF hc2 | replace hc2 := nT hc2 | replace hc2 := nF hc2 | skip
    first
    | (exfalso; omega)
    | (exfalso; simp [eqX] at hc2; done)
    | skip
      refine C_seq ?_
      refine C_region (l := [0]) rfl ?_
      refine X_assign rfl rfl rfl rfl ?_
      refine XD_end ?_
      refine K_then ?_
      refine C_pick (.cons (k := 4) rfl (.cons (k := 3) rfl (.cons (k := 0) rfl .nil))) ?_
      refine C_ret ?_
      refine K_ret ?_
      refine K_end (.inr rfl) (.tmp rfl .nil) (fun w hw => ?_)
      have hp := put_lim m most l (by omega)
      refine ⟨_, M, (b, _) :: hs, rfl, Mem.le.refl M, ?_, rfl, by rw [hp.1]; rfl, by rw [hp.2]; exact RefIs.intro ho⟩
      exact hw.cnt (by intro zz; first | exact Nat.le_refl _ | (simp only [cnt_app, cnt_cons, cnt_nil, cat, List.append_eq, List.append_assoc, List.cons_append, List.nil_append, List.append_nil]; omega))
  · first | replace hc2 := dT hc2 | replace hc2 := dF hc2 | replace hc2 := nT hc2 | replace hc2 := nF hc2 | skip
    first
    | (exfalso; omega)
    | (exfalso; simp [eqX] at hc2; done)
    | skip
      refine C_skip ?_
      refine K_then ?_
      refine C_pick (.cons (k := 4) rfl (.cons (k := 3) rfl (.cons (k := 0) rfl .nil))) ?_
      refine C_seq ?_
      refine C_seq ?_
      refine C_region_any (l := [0, 1, 2, 3, 4, 5, 6, 7, 8, 9]) #[0, 1, 3, 7, 15, 0, 32, 96, 224, 511] _ rfl (by kernel_rfl) (by kernel_rfl) St.drawn (fun _ h => h) ?_
      refine X_move rfl rfl rfl rfl ?_
      refine X_nilCheck rfl rfl rfl rfl ?_
      first | refine X_fieldAddr rfl rfl rfl F.foff44_0 rfl ?_ | refine X_fieldAddr_el rfl rfl rfl (by first | exact ⟨_, _, rfl⟩ | assumption | exact SlM.plain (by assumption) (by simp; omega) | exact RdS.plain (by assumption) (by simp; omega) | exact OSl.plain (by assumption) (by simp; omega)) F.foff44_0 rfl ?_
      first | refine X_load rfl rfl rfl (by repeat first | exact List.Mem.head _ | refine List.Mem.tail _ ?_ | refine List.mem_append_right _ ?_) F.lay22 rfl rfl rfl ?_ | refine X_load_el rfl rfl rfl (by first | assumption | exact SlM.mono (by assumption) (by assumption)) (by first | exact row_map (by omega) | exact List.getElem?_eq_getElem (by omega)) F.lay22 rfl rfl rfl ?_ | refine X_load_rd rfl rfl rfl (by assumption) (by first | exact row_map (by omega) | exact List.getElem?_eq_getElem (by omega)) F.lay22 rfl rfl rfl ?_ | refine X_load_mem rfl rfl rfl (by first | assumption | exact Mem.get_of (by assumption) (by repeat first | assumption | refine Mem.le.trans (by assumption) ?_)) F.lay22 rfl rfl rfl ?_ | refine X_load_osl rfl rfl rfl (by assumption) (by repeat first | exact Rem.here _ | exact Rem.two | apply Rem.skip | apply Rem.over) (by first | exact row_map (by omega) | exact List.getElem?_eq_getElem (by omega)) F.lay22 rfl rfl rfl ?_
      refine X_len_sl rfl rfl rfl rfl F.elem22 rfl ?_
      refine X_move rfl rfl rfl rfl ?_
      refine X_nilCheck rfl rfl rfl rfl ?_
      first | refine X_fieldAddr rfl rfl rfl F.foff44_1 rfl ?_ | refine X_fieldAddr_el rfl rfl rfl (by first | exact ⟨_, _, rfl⟩ | assumption | exact SlM.plain (by assumption) (by simp; omega) | exact RdS.plain (by assumption) (by simp; omega) | exact OSl.plain (by assumption) (by simp; omega)) F.foff44_1 rfl ?_
      first | refine X_load rfl rfl rfl (by repeat first | exact List.Mem.head _ | refine List.Mem.tail _ ?_ | refine List.mem_append_right _ ?_) F.lay3 rfl rfl rfl ?_ | refine X_load_el rfl rfl rfl (by first | assumption | exact SlM.mono (by assumption) (by assumption)) (by first | exact row_map (by omega) | exact List.getElem?_eq_getElem (by omega)) F.lay3 rfl rfl rfl ?_ | refine X_load_rd rfl rfl rfl (by assumption) (by first | exact row_map (by omega) | exact List.getElem?_eq_getElem (by omega)) F.lay3 rfl rfl rfl ?_ | refine X_load_mem rfl rfl rfl (by first | assumption | exact Mem.get_of (by assumption) (by repeat first | assumption | refine Mem.le.trans (by assumption) ?_)) F.lay3 rfl rfl rfl ?_ | refine X_load_osl rfl rfl rfl (by assumption) (by repeat first | exact Rem.here _ | exact Rem.two | apply Rem.skip | apply Rem.over) (by first | exact row_map (by omega) | exact List.getElem?_eq_getElem (by omega)) F.lay3 rfl rfl rfl ?_
      refine X_cmp rfl rfl rfl rfl rfl rfl ?_
      refine XD_end ?_
      refine K_then ?_
      refine C_pick (.cons (k := 18) rfl (.cons (k := 4) rfl (.cons (k := 3) rfl (.cons (k := 0) rfl .nil)))) ?_
      refine C_cond rfl (fun hc3 => ?_) (fun hc3 => ?_)
      · first | replace hc3 := dT hc3 | replace hc3 := dF hc3 | replace hc3 := nT hc3 | replace hc3 := nF hc3 | skip
        first
        | (exfalso; omega)
        | (exfalso; simp [eqX] at hc3; done)
        | skip
          refine C_seq ?_
          refine C_region (l := [0]) rfl ?_
          refine X_assign rfl rfl rfl rfl ?_
          refine XD_end ?_
          refine K_then ?_
          refine C_pick (.cons (k := 4) rfl (.cons (k := 3) rfl (.cons (k := 0) rfl .nil))) ?_
          refine C_ret ?_
          refine K_ret ?_
          refine K_end (.inr rfl) (.tmp rfl .nil) (fun w hw => ?_)
          have hp := put_full m most l (by omega) (by omega)
          refine ⟨_, M, (b, _) :: hs, rfl, Mem.le.refl M, ?_, rfl, by rw [hp.1]; rfl, by rw [hp.2]; exact RefIs.intro ho⟩
          exact hw.cnt (by intro zz; first | exact Nat.le_refl _ | (simp only [cnt_app, cnt_cons, cnt_nil, cat, List.append_eq, List.append_assoc, List.cons_append, List.nil_append, List.append_nil]; omega))
      · first | replace hc3 := dT hc3 | replace hc3 := dF hc3 | replace hc3 := nT hc3 | replace hc3 := nF hc3 | skip
        first
        | (exfalso; omega)
        | (exfalso; simp [eqX] at hc3; done)
        | skip
          refine C_skip ?_
          refine K_then ?_
          refine C_pick (.cons (k := 4) rfl (.cons (k := 3) rfl (.cons (k := 0) rfl .nil))) ?_
          refine C_seq ?_
          refine C_region_any (l := [0, 1, 2, 3, 4, 5, 6, 7, 8, 9, 10]) #[0, 0, 2, 6, 14, 0, 32, 126, 255, 511, 1023] _ rfl (by kernel_rfl) (by kernel_rfl) St.drawn (fun _ h => h) ?_
          refine X_move rfl rfl rfl rfl ?_
          refine X_move rfl rfl rfl rfl ?_
          refine X_nilCheck rfl rfl rfl rfl ?_
          first | refine X_fieldAddr rfl rfl rfl F.foff44_0 rfl ?_ | refine X_fieldAddr_el rfl rfl rfl (by first | exact ⟨_, _, rfl⟩ | assumption | exact SlM.plain (by assumption) (by simp; omega) | exact RdS.plain (by assumption) (by simp; omega) | exact OSl.plain (by assumption) (by simp; omega)) F.foff44_0 rfl ?_
          first | refine X_load rfl rfl rfl (by repeat first | exact List.Mem.head _ | refine List.Mem.tail _ ?_ | refine List.mem_append_right _ ?_) F.lay22 rfl rfl rfl ?_ | refine X_load_el rfl rfl rfl (by first | assumption | exact SlM.mono (by assumption) (by assumption)) (by first | exact row_map (by omega) | exact List.getElem?_eq_getElem (by omega)) F.lay22 rfl rfl rfl ?_ | refine X_load_rd rfl rfl rfl (by assumption) (by first | exact row_map (by omega) | exact List.getElem?_eq_getElem (by omega)) F.lay22 rfl rfl rfl ?_ | refine X_load_mem rfl rfl rfl (by first | assumption | exact Mem.get_of (by assumption) (by repeat first | assumption | refine Mem.le.trans (by assumption) ?_)) F.lay22 rfl rfl rfl ?_ | refine X_load_osl rfl rfl rfl (by assumption) (by repeat first | exact Rem.here _ | exact Rem.two | apply Rem.skip | apply Rem.over) (by first | exact row_map (by omega) | exact List.getElem?_eq_getElem (by omega)) F.lay22 rfl rfl rfl ?_
          first | refine X_load rfl rfl rfl (by repeat first | exact List.Mem.head _ | refine List.Mem.tail _ ?_ | refine List.mem_append_right _ ?_) F.lay28 rfl rfl rfl ?_ | refine X_load_el rfl rfl rfl (by first | assumption | exact SlM.mono (by assumption) (by assumption)) (by first | exact row_map (by omega) | exact List.getElem?_eq_getElem (by omega)) F.lay28 rfl rfl rfl ?_ | refine X_load_rd rfl rfl rfl (by assumption) (by first | exact row_map (by omega) | exact List.getElem?_eq_getElem (by omega)) F.lay28 rfl rfl rfl ?_ | refine X_load_mem rfl rfl rfl (by first | assumption | exact Mem.get_of (by assumption) (by repeat first | assumption | refine Mem.le.trans (by assumption) ?_)) F.lay28 rfl rfl rfl ?_ | refine X_load_osl rfl rfl rfl (by assumption) (by repeat first | exact Rem.here _ | exact Rem.two | apply Rem.skip | apply Rem.over) (by first | exact row_map (by omega) | exact List.getElem?_eq_getElem (by omega)) F.lay28 rfl rfl rfl ?_
          refine X_buildSliceF rfl rfl F.elem22 F.zero28 rfl rfl (.cons rfl (by constructor) .nil) rfl rfl (by simp only [List.map_cons, List.map_nil] <;> rfl) rfl ?_; intro b4 hob5
          refine X_append (m := 1000000) rfl rfl rfl rfl rfl F.elem22 F.zero28 rfl rfl (by first | assumption | exact OSl.nil) (by repeat first | exact Rem.here _ | exact Rem.two | apply Rem.skip | apply Rem.over) (Src.own hob5.lens (by first | exact Mail.flat1 _ | (simp [rowsCells, Segs.cells, Seg.cells, Value.oneCell']; done)) rfl (by repeat first | exact List.Mem.head _ | refine List.Mem.tail _ ?_ | refine List.mem_append_right _ ?_)) (by first | omega | (simp; omega)) (by decide) rfl ?_; intro v8 hs7 ho6; obtain ⟨adv8, cpv8, rfl⟩ := ho6.val
          refine X_nilCheck rfl rfl rfl rfl ?_
          first | refine X_fieldAddr rfl rfl rfl F.foff44_0 rfl ?_ | refine X_fieldAddr_el rfl rfl rfl (by first | exact ⟨_, _, rfl⟩ | assumption | exact SlM.plain (by assumption) (by simp; omega) | exact RdS.plain (by assumption) (by simp; omega) | exact OSl.plain (by assumption) (by simp; omega)) F.foff44_0 rfl ?_
          refine X_store rfl rfl rfl rfl (by constructor) (by first | exact Mail.flat _ | (simp [flat, cat, Segs.cells, Seg.cells, Value.oneCell']; done)) (by repeat first | exact Upd.head | apply Upd.tail | apply Upd.over) F.lay22 rfl rfl ?_
          refine XD_end ?_
          refine K_then ?_
          refine C_pick (.cons (k := 4) rfl .nil) ?_
          refine C_seq ?_
          refine C_region (l := [0]) rfl ?_
          refine X_assign rfl rfl rfl rfl ?_
          refine XD_end ?_
          refine K_then ?_
          refine C_ret ?_
          refine K_end (.inr rfl) (.tmp rfl .nil) (fun w hw => ?_)
          have hp := put_ok m most l (by omega) (by omega)
          refine ⟨_, M, (b, _) :: _, rfl, Mem.le.refl M, ?_, rfl, by rw [hp.1]; rfl, by rw [hp.2]; exact RefIs.intro (by rw [List.map_append]; assumption)⟩
          exact hw.cnt (by intro zz; first | exact Nat.le_refl _ | (simp only [cnt_app, cnt_cons, cnt_nil, cat, List.append_eq, List.append_assoc, List.cons_append, List.nil_append, List.append_nil]; omega))

theorem RAt_ok (M : Mem) (b : Nat) (most : Int) (l : List Mail) (Hb : Hp) (i : Int) (hl : l.length ≤ 1000) (hb : RefIs b most l Hb) : Fo Try.prog 25 [.pointer (some ⟨b, 0, none⟩), .int .i64 i] M Hb (fun M' v => M' = M ∧ v = .tuple #[(atM i l).val, .int .i64 (atC i l)]) := by
  obtain ⟨rv, hs, rfl, ho⟩ := hb
  obtain ⟨ad, cp, rfl⟩ := ho.val
  have hil : (l.map Mail.segs).length = l.length := by simp
  refine fo_enterF (fun H => (b, rowO [Seg.one _, .one (.int .i64 most)] 44) :: (hs ++ H)) (fun _ => rfl) Try.func25 rfl Try.ntmps25 rfl ?_; intro H
  refine C_seq ?_
  refine C_region (l := [0, 1]) rfl ?_
  refine X_alloc rfl rfl F.zero28 (by constructor) rfl ?_; intro b1
  refine X_assign rfl rfl rfl rfl ?_
  refine XD_end ?_
  refine K_then ?_
  refine C_seq ?_
  refine C_seq ?_
  refine C_region (l := [0, 1, 2, 3, 4, 5, 6, 7, 8, 9, 10]) rfl ?_
  refine X_move rfl rfl rfl rfl ?_
  refine X_cmp rfl rfl rfl rfl rfl rfl ?_
  refine X_move rfl rfl rfl rfl ?_
  refine XD_part 8 rfl (fun hc2 => ?_) (fun hc2 => ?_)
  · first | replace hc2 := dT hc2 | replace hc2 := dF hc2 | replace hc2 := nT hc2 | replace hc2 := nF hc2 | skip
    first
    | (exfalso; omega)
    | (exfalso; simp [eqX] at hc2; done)
    | skip
      refine X_skip rfl rfl rfl ?_
      refine X_skip rfl rfl rfl ?_
      refine X_skip rfl rfl rfl ?_
      refine X_skip rfl rfl rfl ?_
      refine X_skip rfl rfl rfl ?_
      refine X_skip rfl rfl rfl ?_
      refine X_skip rfl rfl rfl ?_
      refine X_pick rfl rfl rfl rfl rfl ?_
      refine XD_end ?_
      refine K_then ?_
      refine C_pick (.cons (k := 16) rfl (.cons (k := 5) rfl (.cons (k := 4) rfl (.cons (k := 0) rfl (.cons (k := 1) rfl .nil))))) ?_
      refine C_true rfl ?_
      refine C_seq ?_
      refine C_region (l := [0, 1, 2]) rfl ?_
      refine X_build rfl rfl F.bld28 (.nil) rfl rfl ?_
      refine X_store rfl rfl rfl rfl (by constructor) (by first | exact Mail.flat _ | (simp [flat, cat, Segs.cells, Seg.cells, Value.oneCell']; done)) (by repeat first | exact Upd.head | apply Upd.tail | apply Upd.over) F.lay28 rfl rfl ?_
      refine X_assign rfl rfl rfl rfl ?_
      refine XD_end ?_
      refine K_then ?_
      refine C_pick (.cons (k := 5) rfl (.cons (k := 4) rfl (.cons (k := 0) rfl (.cons (k := 1) rfl .nil)))) ?_
      refine C_ret ?_
      refine K_ret ?_
      refine K_end (.inr rfl) (.cell rfl (by repeat first | exact List.Mem.head _ | refine List.Mem.tail _ ?_ | refine List.mem_append_right _ ?_) F.lay28 rfl rfl (.tmp rfl .nil)) (fun w hw => ?_)
      first
      | (have hp := at_none i l (by omega); exact ⟨_, M, rfl, Mem.le.refl M, hw.cnt (by intro zz; first | exact Nat.le_refl _ | (simp only [cnt_app, cnt_cons, cnt_nil, cat, List.append_eq, List.append_assoc, List.cons_append, List.nil_append, List.append_nil]; omega)), rfl, by rw [hp.1, hp.2]; rfl⟩)
      | (have hp := at_ok i l (by omega) (by omega); exact ⟨_, M, rfl, Mem.le.refl M, hw.cnt (by intro zz; first | exact Nat.le_refl _ | (simp only [cnt_app, cnt_cons, cnt_nil, cat, List.append_eq, List.append_assoc, List.cons_append, List.nil_append, List.append_nil]; omega)), rfl, by rw [hp.1, hp.2]; rfl⟩)
  · first | replace hc2 := dT hc2 | replace hc2 := dF hc2 | replace hc2 := nT hc2 | replace hc2 := nF hc2 | skip
    first
    | (exfalso; omega)
    | (exfalso; simp [eqX] at hc2; done)
    | skip
      refine X_move rfl rfl rfl rfl ?_
      refine X_move rfl rfl rfl rfl ?_
      refine X_nilCheck rfl rfl rfl rfl ?_
      first | refine X_fieldAddr rfl rfl rfl F.foff44_0 rfl ?_ | refine X_fieldAddr_el rfl rfl rfl (by first | exact ⟨_, _, rfl⟩ | assumption | exact SlM.plain (by assumption) (by simp; omega) | exact RdS.plain (by assumption) (by simp; omega) | exact OSl.plain (by assumption) (by simp; omega)) F.foff44_0 rfl ?_
      first | refine X_load rfl rfl rfl (by repeat first | exact List.Mem.head _ | refine List.Mem.tail _ ?_ | refine List.mem_append_right _ ?_) F.lay22 rfl rfl rfl ?_ | refine X_load_el rfl rfl rfl (by first | assumption | exact SlM.mono (by assumption) (by assumption)) (by first | exact row_map (by omega) | exact List.getElem?_eq_getElem (by omega)) F.lay22 rfl rfl rfl ?_ | refine X_load_rd rfl rfl rfl (by assumption) (by first | exact row_map (by omega) | exact List.getElem?_eq_getElem (by omega)) F.lay22 rfl rfl rfl ?_ | refine X_load_mem rfl rfl rfl (by first | assumption | exact Mem.get_of (by assumption) (by repeat first | assumption | refine Mem.le.trans (by assumption) ?_)) F.lay22 rfl rfl rfl ?_ | refine X_load_osl rfl rfl rfl (by assumption) (by repeat first | exact Rem.here _ | exact Rem.two | apply Rem.skip | apply Rem.over) (by first | exact row_map (by omega) | exact List.getElem?_eq_getElem (by omega)) F.lay22 rfl rfl rfl ?_
      refine X_len_sl rfl rfl rfl rfl F.elem22 rfl ?_
      refine X_cmp rfl rfl rfl rfl rfl rfl ?_
      refine X_pick rfl rfl rfl rfl rfl ?_
      refine XD_end ?_
      refine K_then ?_
      refine C_pick (.cons (k := 16) rfl (.cons (k := 5) rfl (.cons (k := 4) rfl (.cons (k := 0) rfl (.cons (k := 1) rfl .nil))))) ?_
      refine C_cond rfl (fun hc3 => ?_) (fun hc3 => ?_)
      · first | replace hc3 := dT hc3 | replace hc3 := dF hc3 | replace hc3 := nT hc3 | replace hc3 := nF hc3 | skip
        first
        | (exfalso; omega)
        | (exfalso; simp [eqX] at hc3; done)
        | skip
          refine C_seq ?_
          refine C_region (l := [0, 1, 2]) rfl ?_
          refine X_build rfl rfl F.bld28 (.nil) rfl rfl ?_
          refine X_store rfl rfl rfl rfl (by constructor) (by first | exact Mail.flat _ | (simp [flat, cat, Segs.cells, Seg.cells, Value.oneCell']; done)) (by repeat first | exact Upd.head | apply Upd.tail | apply Upd.over) F.lay28 rfl rfl ?_
          refine X_assign rfl rfl rfl rfl ?_
          refine XD_end ?_
          refine K_then ?_
          refine C_pick (.cons (k := 5) rfl (.cons (k := 4) rfl (.cons (k := 0) rfl (.cons (k := 1) rfl .nil)))) ?_
          refine C_ret ?_
          refine K_ret ?_
          refine K_end (.inr rfl) (.cell rfl (by repeat first | exact List.Mem.head _ | refine List.Mem.tail _ ?_ | refine List.mem_append_right _ ?_) F.lay28 rfl rfl (.tmp rfl .nil)) (fun w hw => ?_)
          first
          | (have hp := at_none i l (by omega); exact ⟨_, M, rfl, Mem.le.refl M, hw.cnt (by intro zz; first | exact Nat.le_refl _ | (simp only [cnt_app, cnt_cons, cnt_nil, cat, List.append_eq, List.append_assoc, List.cons_append, List.nil_append, List.append_nil]; omega)), rfl, by rw [hp.1, hp.2]; rfl⟩)
          | (have hp := at_ok i l (by omega) (by omega); exact ⟨_, M, rfl, Mem.le.refl M, hw.cnt (by intro zz; first | exact Nat.le_refl _ | (simp only [cnt_app, cnt_cons, cnt_nil, cat, List.append_eq, List.append_assoc, List.cons_append, List.nil_append, List.append_nil]; omega)), rfl, by rw [hp.1, hp.2]; rfl⟩)
      · first | replace hc3 := dT hc3 | replace hc3 := dF hc3 | replace hc3 := nT hc3 | replace hc3 := nF hc3 | skip
        first
        | (exfalso; omega)
        | (exfalso; simp [eqX] at hc3; done)
        | skip
          refine C_skip ?_
          refine K_then ?_
          refine C_pick (.cons (k := 5) rfl (.cons (k := 4) rfl (.cons (k := 0) rfl (.cons (k := 1) rfl .nil)))) ?_
          refine C_seq ?_
          refine C_region (l := [0, 1, 2, 3, 4, 5, 6, 7, 8]) rfl ?_
          refine X_move rfl rfl rfl rfl ?_
          refine X_nilCheck rfl rfl rfl rfl ?_
          first | refine X_fieldAddr rfl rfl rfl F.foff44_0 rfl ?_ | refine X_fieldAddr_el rfl rfl rfl (by first | exact ⟨_, _, rfl⟩ | assumption | exact SlM.plain (by assumption) (by simp; omega) | exact RdS.plain (by assumption) (by simp; omega) | exact OSl.plain (by assumption) (by simp; omega)) F.foff44_0 rfl ?_
          first | refine X_load rfl rfl rfl (by repeat first | exact List.Mem.head _ | refine List.Mem.tail _ ?_ | refine List.mem_append_right _ ?_) F.lay22 rfl rfl rfl ?_ | refine X_load_el rfl rfl rfl (by first | assumption | exact SlM.mono (by assumption) (by assumption)) (by first | exact row_map (by omega) | exact List.getElem?_eq_getElem (by omega)) F.lay22 rfl rfl rfl ?_ | refine X_load_rd rfl rfl rfl (by assumption) (by first | exact row_map (by omega) | exact List.getElem?_eq_getElem (by omega)) F.lay22 rfl rfl rfl ?_ | refine X_load_mem rfl rfl rfl (by first | assumption | exact Mem.get_of (by assumption) (by repeat first | assumption | refine Mem.le.trans (by assumption) ?_)) F.lay22 rfl rfl rfl ?_ | refine X_load_osl rfl rfl rfl (by assumption) (by repeat first | exact Rem.here _ | exact Rem.two | apply Rem.skip | apply Rem.over) (by first | exact row_map (by omega) | exact List.getElem?_eq_getElem (by omega)) F.lay22 rfl rfl rfl ?_
          refine X_move rfl rfl rfl rfl ?_
          refine X_indexAddr rfl rfl rfl rfl F.elem22 (by first | rfl | exact (Int.toNat_of_nonneg (by omega)).symm) (by first | omega | (simp; omega)) (by first | exact ⟨_, _, rfl⟩ | assumption | exact SlM.plain (by assumption) (by simp; omega) | exact RdS.plain (by assumption) (by simp; omega) | exact OSl.plain (by assumption) (by simp; omega)) rfl ?_
          first | refine X_load rfl rfl rfl (by repeat first | exact List.Mem.head _ | refine List.Mem.tail _ ?_ | refine List.mem_append_right _ ?_) F.lay28 rfl rfl rfl ?_ | refine X_load_el rfl rfl rfl (by first | assumption | exact SlM.mono (by assumption) (by assumption)) (by first | exact row_map (by omega) | exact List.getElem?_eq_getElem (by omega)) F.lay28 rfl rfl rfl ?_ | refine X_load_rd rfl rfl rfl (by assumption) (by first | exact row_map (by omega) | exact List.getElem?_eq_getElem (by omega)) F.lay28 rfl rfl rfl ?_ | refine X_load_mem rfl rfl rfl (by first | assumption | exact Mem.get_of (by assumption) (by repeat first | assumption | refine Mem.le.trans (by assumption) ?_)) F.lay28 rfl rfl rfl ?_ | refine X_load_osl rfl rfl rfl (by assumption) (by repeat first | exact Rem.here _ | exact Rem.two | apply Rem.skip | apply Rem.over) (by first | exact row_map (by omega) | exact List.getElem?_eq_getElem (by omega)) F.lay28 rfl rfl rfl ?_
          refine X_store rfl rfl rfl rfl (by constructor) (by first | exact Mail.flat _ | (simp [flat, cat, Segs.cells, Seg.cells, Value.oneCell']; done)) (by repeat first | exact Upd.head | apply Upd.tail | apply Upd.over) F.lay28 rfl rfl ?_
          refine X_assign rfl rfl rfl rfl ?_
          refine XD_end ?_
          refine K_then ?_
          refine C_pick (.cons (k := 5) rfl (.cons (k := 4) rfl .nil)) ?_
          refine C_ret ?_
          refine K_end (.inr rfl) (.cell rfl (by repeat first | exact List.Mem.head _ | refine List.Mem.tail _ ?_ | refine List.mem_append_right _ ?_) F.lay28 rfl rfl (.tmp rfl .nil)) (fun w hw => ?_)
          first
          | (have hp := at_none i l (by omega); exact ⟨_, M, rfl, Mem.le.refl M, hw.cnt (by intro zz; first | exact Nat.le_refl _ | (simp only [cnt_app, cnt_cons, cnt_nil, cat, List.append_eq, List.append_assoc, List.cons_append, List.nil_append, List.append_nil]; omega)), rfl, by rw [hp.1, hp.2]; rfl⟩)
          | (have hp := at_ok i l (by omega) (by omega); exact ⟨_, M, rfl, Mem.le.refl M, hw.cnt (by intro zz; first | exact Nat.le_refl _ | (simp only [cnt_app, cnt_cons, cnt_nil, cat, List.append_eq, List.append_assoc, List.cons_append, List.nil_append, List.append_nil]; omega)), rfl, by rw [hp.1, hp.2]; rfl⟩)

theorem RTake_ok (M : Mem) (b : Nat) (most : Int) (l : List Mail) (Hb : Hp) (i : Int) (hl : l.length ≤ 1000) (hb : RefIs b most l Hb) : Fh Try.prog 22 [.pointer (some ⟨b, 0, none⟩), .int .i64 i] M Hb (fun M' v Hb' => M' = M ∧ v = .tuple #[(atM i l).val, .int .i64 (atC i l)] ∧ RefIs b most (takeL i l) Hb') := by
  obtain ⟨rv, hs, rfl, ho⟩ := hb
  obtain ⟨ad, cp, rfl⟩ := ho.val
  have hil : (l.map Mail.segs).length = l.length := by simp
  refine fh_enterF (fun H => (b, rowO [Seg.one _, .one (.int .i64 most)] 44) :: (hs ++ H)) (fun _ => rfl) Try.func22 rfl Try.ntmps22 rfl ?_; intro H
  refine C_seq ?_
  refine C_region (l := [0, 1]) rfl ?_
  refine X_alloc rfl rfl F.zero28 (by constructor) rfl ?_; intro b1
  refine X_assign rfl rfl rfl rfl ?_
  refine XD_end ?_
  refine K_then ?_
  refine C_seq ?_
  refine C_region (l := [0, 1, 2, 3, 4, 5, 6, 7, 8]) rfl ?_
  refine X_move rfl rfl rfl rfl ?_
  refine X_move rfl rfl rfl rfl ?_
  refine X_fo rfl rfl F.ok25 rfl (RAt_ok M b most l _ i hl (RefIs.intro ho)) (by repeat first | exact Rem.here _ | exact Rem.two | apply Rem.skip | apply Rem.over) (putE_some rfl) ?_
  rintro _ M1 _ ⟨hM1, rfl⟩; subst M1
  refine X_move rfl rfl rfl rfl ?_
  refine X_extract rfl rfl rfl rfl rfl ?_
  refine X_extract rfl rfl rfl rfl rfl ?_
  refine X_alloc rfl rfl F.zero28 (by constructor) rfl ?_; intro b2
  refine X_store rfl rfl rfl rfl (by constructor) (by first | exact Mail.flat _ | (simp [flat, cat, Segs.cells, Seg.cells, Value.oneCell']; done)) (by repeat first | exact Upd.head | apply Upd.tail | apply Upd.over) F.lay28 rfl rfl ?_
  refine X_assign rfl rfl rfl rfl ?_
  refine XD_end ?_
  refine K_then ?_
  refine C_pick (.cons (k := 7) rfl (.cons (k := 6) rfl (.cons (k := 5) rfl (.cons (k := 4) rfl (.cons (k := 0) rfl (.cons (k := 1) rfl .nil)))))) ?_
  refine C_seq ?_
  refine C_region (l := [0]) rfl ?_
  refine X_assign rfl rfl rfl rfl ?_
  refine XD_end ?_
  refine K_then ?_
  refine C_seq ?_
  refine C_seq ?_
  refine C_region (l := [0]) rfl ?_
  refine X_assign rfl rfl rfl rfl ?_
  refine XD_end ?_
  refine K_then ?_
  refine C_block ?_
  refine C_pick (.cons (k := 9) rfl (.cons (k := 8) rfl (.cons (k := 7) rfl (.cons (k := 6) rfl (.cons (k := 5) rfl (.cons (k := 4) rfl (.cons (k := 0) rfl (.cons (k := 1) rfl .nil)))))))) ?_
  refine C_loop (.succ (.succ .zero)) (fun (k : Nat) S z => ∃ v hs2, (∀ w, S w → St M (hs2 ++ ((b2, rowO (atM i l).segs 28) :: (b1, rowO [.one (.int .i64 0), .one (.int .i64 0), .one (.string ⟨#[]⟩)] 28) :: (b, rowO [.one (.slice ad (l.map Mail.segs).length cp), .one (.int .i64 most)] 44) :: (hs ++ H))) w) ∧ z = [(9, .int .i64 (k : Int)), (8, v)] ∧ k ≤ l.length ∧ OSl 28 3 v hs2 ((takeL i (l.take k)).map Mail.segs)) (fun k => l.length - k) (0) (⟨_, [], fun w hw => hw.cnt (by intro zz; first | exact Nat.le_refl _ | (simp only [cnt_app, cnt_cons, cnt_nil, cat, List.append_eq, List.append_assoc, List.cons_append, List.nil_append, List.append_nil]; omega)), rfl, by omega, by rw [show takeL i (l.take 0) = [] by unfold takeL; split <;> simp]; exact OSl.nil⟩) ?_
  rintro k _ _ ⟨v0, hs2, hS, rfl, hk, ho2⟩
  refine C_weak (fun _ h => h) hS ?_
  obtain ⟨ad2, cp2, rfl⟩ := ho2.val
  have hl2 : ((takeL i (l.take k)).map Mail.segs).length ≤ 1000 := by have := takeL_len i (l.take k); rw [List.length_take] at this; rw [List.length_map]; omega
  have hl3 : (takeL i (l.take k)).length ≤ 1000 := by rw [List.length_map] at hl2; exact hl2
  refine C_seq ?_
  refine C_seq ?_
  refine C_region (l := [0, 1, 2, 3, 4, 5, 6]) rfl ?_
  refine X_move rfl rfl rfl rfl ?_
  refine X_move rfl rfl rfl rfl ?_
  refine X_nilCheck rfl rfl rfl rfl ?_
  first | refine X_fieldAddr rfl rfl rfl F.foff44_0 rfl ?_ | refine X_fieldAddr_el rfl rfl rfl (by first | exact ⟨_, _, rfl⟩ | assumption | exact SlM.plain (by assumption) (by simp; omega) | exact RdS.plain (by assumption) (by simp; omega) | exact OSl.plain (by assumption) (by simp; omega)) F.foff44_0 rfl ?_
  first | refine X_load rfl rfl rfl (by repeat first | exact List.Mem.head _ | refine List.Mem.tail _ ?_ | refine List.mem_append_right _ ?_) F.lay22 rfl rfl rfl ?_ | refine X_load_el rfl rfl rfl (by first | assumption | exact SlM.mono (by assumption) (by assumption)) (by first | exact row_map (by omega) | exact List.getElem?_eq_getElem (by omega)) F.lay22 rfl rfl rfl ?_ | refine X_load_rd rfl rfl rfl (by assumption) (by first | exact row_map (by omega) | exact List.getElem?_eq_getElem (by omega)) F.lay22 rfl rfl rfl ?_ | refine X_load_mem rfl rfl rfl (by first | assumption | exact Mem.get_of (by assumption) (by repeat first | assumption | refine Mem.le.trans (by assumption) ?_)) F.lay22 rfl rfl rfl ?_ | refine X_load_osl rfl rfl rfl (by assumption) (by repeat first | exact Rem.here _ | exact Rem.two | apply Rem.skip | apply Rem.over) (by first | exact row_map (by omega) | exact List.getElem?_eq_getElem (by omega)) F.lay22 rfl rfl rfl ?_
  refine X_len_sl rfl rfl rfl rfl F.elem22 rfl ?_
  refine X_cmp rfl rfl rfl rfl rfl rfl ?_
  refine XD_end ?_
  refine K_then ?_
  refine C_cond rfl (fun hc3 => ?_) (fun hc3 => ?_)
  · first | replace hc3 := dT hc3 | replace hc3 := dF hc3 | replace hc3 := nT hc3 | replace hc3 := nF hc3 | skip
    first
    | (exfalso; omega)
    | (exfalso; simp [eqX] at hc3; done)
    | skip
      refine C_skip ?_
      refine K_then ?_
      refine C_seq ?_
      refine C_block ?_
      refine C_seq ?_
      refine C_region (l := [0, 1, 2]) rfl ?_
      refine X_move rfl rfl rfl rfl ?_
      refine X_move rfl rfl rfl rfl ?_
      refine X_cmp rfl rfl rfl rfl rfl rfl ?_
      refine XD_end ?_
      refine K_then ?_
      refine C_cond rfl (fun hc4 => ?_) (fun hc4 => ?_)
      · first | replace hc4 := dT hc4 | replace hc4 := dF hc4 | replace hc4 := nT hc4 | replace hc4 := nF hc4 | skip
        first
        | (exfalso; omega)
        | (exfalso; simp [eqX] at hc4; done)
        | skip
          refine C_region (l := [0, 1, 2, 3, 4, 5, 6, 7, 8, 9, 10]) rfl ?_
          refine X_move rfl rfl rfl rfl ?_
          refine X_move rfl rfl rfl rfl ?_
          refine X_nilCheck rfl rfl rfl rfl ?_
          first | refine X_fieldAddr rfl rfl rfl F.foff44_0 rfl ?_ | refine X_fieldAddr_el rfl rfl rfl (by first | exact ⟨_, _, rfl⟩ | assumption | exact SlM.plain (by assumption) (by simp; omega) | exact RdS.plain (by assumption) (by simp; omega) | exact OSl.plain (by assumption) (by simp; omega)) F.foff44_0 rfl ?_
          first | refine X_load rfl rfl rfl (by repeat first | exact List.Mem.head _ | refine List.Mem.tail _ ?_ | refine List.mem_append_right _ ?_) F.lay22 rfl rfl rfl ?_ | refine X_load_el rfl rfl rfl (by first | assumption | exact SlM.mono (by assumption) (by assumption)) (by first | exact row_map (by omega) | exact List.getElem?_eq_getElem (by omega)) F.lay22 rfl rfl rfl ?_ | refine X_load_rd rfl rfl rfl (by assumption) (by first | exact row_map (by omega) | exact List.getElem?_eq_getElem (by omega)) F.lay22 rfl rfl rfl ?_ | refine X_load_mem rfl rfl rfl (by first | assumption | exact Mem.get_of (by assumption) (by repeat first | assumption | refine Mem.le.trans (by assumption) ?_)) F.lay22 rfl rfl rfl ?_ | refine X_load_osl rfl rfl rfl (by assumption) (by repeat first | exact Rem.here _ | exact Rem.two | apply Rem.skip | apply Rem.over) (by first | exact row_map (by omega) | exact List.getElem?_eq_getElem (by omega)) F.lay22 rfl rfl rfl ?_
          refine X_move rfl rfl rfl rfl ?_
          refine X_indexAddr rfl rfl rfl rfl F.elem22 (by first | rfl | exact (Int.toNat_of_nonneg (by omega)).symm) (by first | omega | (simp; omega)) (by first | exact ⟨_, _, rfl⟩ | assumption | exact SlM.plain (by assumption) (by simp; omega) | exact RdS.plain (by assumption) (by simp; omega) | exact OSl.plain (by assumption) (by simp; omega)) rfl ?_
          first | refine X_load rfl rfl rfl (by repeat first | exact List.Mem.head _ | refine List.Mem.tail _ ?_ | refine List.mem_append_right _ ?_) F.lay28 rfl rfl rfl ?_ | refine X_load_el rfl rfl rfl (by first | assumption | exact SlM.mono (by assumption) (by assumption)) (by first | exact row_map (by omega) | exact List.getElem?_eq_getElem (by omega)) F.lay28 rfl rfl rfl ?_ | refine X_load_rd rfl rfl rfl (by assumption) (by first | exact row_map (by omega) | exact List.getElem?_eq_getElem (by omega)) F.lay28 rfl rfl rfl ?_ | refine X_load_mem rfl rfl rfl (by first | assumption | exact Mem.get_of (by assumption) (by repeat first | assumption | refine Mem.le.trans (by assumption) ?_)) F.lay28 rfl rfl rfl ?_ | refine X_load_osl rfl rfl rfl (by assumption) (by repeat first | exact Rem.here _ | exact Rem.two | apply Rem.skip | apply Rem.over) (by first | exact row_map (by omega) | exact List.getElem?_eq_getElem (by omega)) F.lay28 rfl rfl rfl ?_
          refine X_buildSliceF rfl rfl F.elem22 F.zero28 rfl rfl (.cons rfl (by constructor) .nil) rfl rfl (by simp only [List.map_cons, List.map_nil] <;> rfl) rfl ?_; intro b5 hob6
          refine X_append (m := 1000000) rfl rfl rfl rfl rfl F.elem22 F.zero28 rfl rfl (by first | assumption | exact OSl.nil) (by repeat first | exact Rem.here _ | exact Rem.two | apply Rem.skip | apply Rem.over) (Src.own hob6.lens (by first | exact Mail.flat1 _ | (simp [rowsCells, Segs.cells, Seg.cells, Value.oneCell']; done)) rfl (by repeat first | exact List.Mem.head _ | refine List.Mem.tail _ ?_ | refine List.mem_append_right _ ?_)) (by first | omega | (simp; omega)) (by decide) rfl ?_; intro v9 hs8 ho7; obtain ⟨adv9, cpv9, rfl⟩ := ho7.val
          refine X_assign rfl rfl rfl rfl ?_
          refine XD_end ?_
          refine K_out ?_
          refine K_then ?_
          refine C_region (l := [0, 1, 2]) rfl ?_
          refine X_move rfl rfl rfl rfl ?_
          refine X_ari rfl rfl rfl rfl rfl (by first | exact wrap_in (by decide) (by omega) | rfl) rfl ?_
          refine X_assign rfl rfl rfl rfl ?_
          refine XD_end ?_
          refine K_round (a' := [(9, _), (8, _)]) (k + 1) (.cons (k := 9) rfl (.cons (k := 8) rfl (.cons (k := 7) rfl (.cons (k := 6) rfl (.cons (k := 5) rfl (.cons (k := 4) rfl (.cons (k := 0) rfl (.cons (k := 1) rfl (.nil))))))))) ?_ ?_
          · refine ⟨_, _, ?_, rfl, by omega, by rw [takeL_more (by omega) (by omega), List.map_append]; assumption⟩
            exact fun w hw => hw.cnt (by intro zz; first | exact Nat.le_refl _ | (simp only [cnt_app, cnt_cons, cnt_nil, cat, List.append_eq, List.append_assoc, List.cons_append, List.nil_append, List.append_nil]; omega))
          · omega
      · first | replace hc4 := dT hc4 | replace hc4 := dF hc4 | replace hc4 := nT hc4 | replace hc4 := nF hc4 | skip
        first
        | (exfalso; omega)
        | (exfalso; simp [eqX] at hc4; done)
        | skip
          refine C_skip ?_
          refine K_out ?_
          refine K_then ?_
          refine C_region (l := [0, 1, 2]) rfl ?_
          refine X_move rfl rfl rfl rfl ?_
          refine X_ari rfl rfl rfl rfl rfl (by first | exact wrap_in (by decide) (by omega) | rfl) rfl ?_
          refine X_assign rfl rfl rfl rfl ?_
          refine XD_end ?_
          refine K_round (a' := [(9, _), (8, _)]) (k + 1) (.cons (k := 9) rfl (.cons (k := 8) rfl (.cons (k := 7) rfl (.cons (k := 6) rfl (.cons (k := 5) rfl (.cons (k := 4) rfl (.cons (k := 0) rfl (.cons (k := 1) rfl (.nil))))))))) ?_ ?_
          · exact ⟨_, hs2, fun w hw => hw.cnt (by intro zz; first | exact Nat.le_refl _ | (simp only [cnt_app, cnt_cons, cnt_nil, cat, List.append_eq, List.append_assoc, List.cons_append, List.nil_append, List.append_nil]; omega)), rfl, by omega, by rw [takeL_same (by omega) (by omega)]; exact ho2⟩
          · omega
  · first | replace hc3 := dT hc3 | replace hc3 := dF hc3 | replace hc3 := nT hc3 | replace hc3 := nF hc3 | skip
    first
    | (exfalso; omega)
    | (exfalso; simp [eqX] at hc3; done)
    | skip
      refine C_exit ?_
      refine K_exit ?_
      refine K_exit ?_
      refine K_hit ?_
      refine K_then ?_
      refine C_pick (.cons (k := 8) rfl (.cons (k := 7) rfl (.cons (k := 6) rfl (.cons (k := 5) rfl (.cons (k := 4) rfl (.cons (k := 0) rfl .nil)))))) ?_
      refine C_seq ?_
      refine C_region (l := [0, 1, 2, 3, 4]) rfl ?_
      refine X_move rfl rfl rfl rfl ?_
      refine X_move rfl rfl rfl rfl ?_
      refine X_nilCheck rfl rfl rfl rfl ?_
      first | refine X_fieldAddr rfl rfl rfl F.foff44_0 rfl ?_ | refine X_fieldAddr_el rfl rfl rfl (by first | exact ⟨_, _, rfl⟩ | assumption | exact SlM.plain (by assumption) (by simp; omega) | exact RdS.plain (by assumption) (by simp; omega) | exact OSl.plain (by assumption) (by simp; omega)) F.foff44_0 rfl ?_
      refine X_store rfl rfl rfl rfl (by constructor) (by first | exact Mail.flat _ | (simp [flat, cat, Segs.cells, Seg.cells, Value.oneCell']; done)) (by repeat first | exact Upd.head | apply Upd.tail | apply Upd.over) F.lay22 rfl rfl ?_
      refine XD_end ?_
      refine K_then ?_
      refine C_pick (.cons (k := 7) rfl (.cons (k := 6) rfl (.cons (k := 5) rfl (.cons (k := 4) rfl .nil)))) ?_
      refine C_seq ?_
      refine C_region (l := [0, 1, 2, 3]) rfl ?_
      first | refine X_load rfl rfl rfl (by repeat first | exact List.Mem.head _ | refine List.Mem.tail _ ?_ | refine List.mem_append_right _ ?_) F.lay28 rfl rfl rfl ?_ | refine X_load_el rfl rfl rfl (by first | assumption | exact SlM.mono (by assumption) (by assumption)) (by first | exact row_map (by omega) | exact List.getElem?_eq_getElem (by omega)) F.lay28 rfl rfl rfl ?_ | refine X_load_rd rfl rfl rfl (by assumption) (by first | exact row_map (by omega) | exact List.getElem?_eq_getElem (by omega)) F.lay28 rfl rfl rfl ?_ | refine X_load_mem rfl rfl rfl (by first | assumption | exact Mem.get_of (by assumption) (by repeat first | assumption | refine Mem.le.trans (by assumption) ?_)) F.lay28 rfl rfl rfl ?_ | refine X_load_osl rfl rfl rfl (by assumption) (by repeat first | exact Rem.here _ | exact Rem.two | apply Rem.skip | apply Rem.over) (by first | exact row_map (by omega) | exact List.getElem?_eq_getElem (by omega)) F.lay28 rfl rfl rfl ?_
      refine X_move rfl rfl rfl rfl ?_
      refine X_store rfl rfl rfl rfl (by constructor) (by first | exact Mail.flat _ | (simp [flat, cat, Segs.cells, Seg.cells, Value.oneCell']; done)) (by repeat first | exact Upd.head | apply Upd.tail | apply Upd.over) F.lay28 rfl rfl ?_
      refine X_assign rfl rfl rfl rfl ?_
      refine XD_end ?_
      refine K_then ?_
      refine C_pick (.cons (k := 5) rfl (.cons (k := 4) rfl .nil)) ?_
      refine C_ret ?_
      refine K_end (.inr rfl) (.cell rfl (by repeat first | exact List.Mem.head _ | refine List.Mem.tail _ ?_ | refine List.mem_append_right _ ?_) F.lay28 rfl rfl (.tmp rfl .nil)) (fun w hw => ?_)
      have e : k = l.length := by omega
      subst e
      have e2 : takeL i (l.take l.length) = takeL i l := by rw [List.take_length]
      refine ⟨_, M, _, rfl, Mem.le.refl M, ?_, rfl, rfl, RefIs.intro (b := b) (most := most) (by rw [← e2]; exact ho2)⟩
      exact hw.cnt (by intro zz; first | exact Nat.le_refl _ | (simp only [cnt_app, cnt_cons, cnt_nil, cat, List.append_eq, List.append_assoc, List.cons_append, List.nil_append, List.append_nil]; omega))

end Go.Proofs.Ytenamdnnmdilgaa
