/-
  The walks of a bag: making one, its size, putting.
-/
import Derived.Test.YtenamdnnmdilgaaRows
import Derived.Test.YtenamdnnmdilgaaBagM
set_option linter.unusedSimpArgs false
set_option linter.unusedVariables false
set_option linter.unnecessarySimpa false
namespace Go.Proofs.Ytenamdnnmdilgaa
open Go.Esp
theorem F.bld54 : Bld Try.prog 54 [[.one (.int .i64 0)], [.one (.int .i64 0)], [.one (.slice none 0 0)], [.one (.map none)]] := ⟨by kernel_rfl, by kernel_rfl⟩
theorem F.elem47 : slOf Try.prog 47 = some (3, 1, 8) := by kernel_rfl
theorem F.foff28_2 : foff Try.prog 28 2 = some 2 := by kernel_rfl
theorem F.foff54_0 : foff Try.prog 54 0 = some 0 := by kernel_rfl
theorem F.foff54_1 : foff Try.prog 54 1 = some 1 := by kernel_rfl
theorem F.foff54_2 : foff Try.prog 54 2 = some 2 := by kernel_rfl
theorem F.foff54_3 : foff Try.prog 54 3 = some 3 := by kernel_rfl
theorem F.lay28 : lay Try.prog 28 = some (true, 3) := by kernel_rfl
theorem F.lay3 : lay Try.prog 3 = some (false, 1) := by kernel_rfl
theorem F.lay47 : lay Try.prog 47 = some (false, 1) := by kernel_rfl
theorem F.lay52 : lay Try.prog 52 = some (false, 1) := by kernel_rfl
theorem F.lay9 : lay Try.prog 9 = some (false, 1) := by kernel_rfl
theorem F.map52 : mapOf Try.prog 52 = some (3, 28) := by kernel_rfl
theorem F.zero3 : zeroOf Try.prog 3 = some ((.int .i64 0)) := by kernel_rfl

theorem New_no (M : Mem) (most : Int) (h : most < 1 ∨ 1000 < most) : Fs Try.prog 7 [.int .i64 most] M (fun v => v = .tuple #[.pointer none, .int .i64 1]) := by
  refine fs_enter Try.func7 rfl Try.ntmps7 rfl ?_; intro H
  refine C_seq ?_
  refine C_region (l := [0, 1]) rfl ?_
  refine X_assign rfl rfl rfl rfl ?_
  refine X_assign rfl rfl rfl rfl ?_
  refine XD_end ?_
  refine K_then ?_
  refine C_seq ?_
  refine C_seq ?_
  refine C_region (l := [0, 1, 2, 3, 4, 5]) rfl ?_
  refine X_move rfl rfl rfl rfl ?_
  refine X_cmp rfl rfl rfl rfl rfl rfl ?_
  refine X_move rfl rfl rfl rfl ?_
  refine XD_part 6 rfl (fun hc1 => ?_) (fun hc1 => ?_)
  · first | replace hc1 := dT hc1 | replace hc1 := dF hc1 | replace hc1 := nT hc1 | replace hc1 := nF hc1 | skip
    first
    | (exfalso; omega)
    | (exfalso; simp [eqX] at hc1; done)
    | skip
      refine X_skip rfl rfl rfl ?_
      refine X_skip rfl rfl rfl ?_
      refine X_pick rfl rfl rfl rfl rfl ?_
      refine XD_end ?_
      refine K_then ?_
      refine C_pick (.cons (k := 9) rfl (.cons (k := 3) rfl (.cons (k := 2) rfl (.cons (k := 0) rfl .nil)))) ?_
      refine C_true rfl ?_
      refine C_seq ?_
      refine C_region (l := [0, 1]) rfl ?_
      refine X_assign rfl rfl rfl rfl ?_
      refine X_assign rfl rfl rfl rfl ?_
      refine XD_end ?_
      refine K_then ?_
      refine C_pick (.cons (k := 3) rfl (.cons (k := 2) rfl (.cons (k := 0) rfl .nil))) ?_
      refine C_ret ?_
      refine K_ret ?_
      refine K_end (.inr rfl) (.tmp rfl (.tmp rfl .nil)) (fun w hw => ?_)
      exact ⟨_, rfl, hw.suf (by repeat first | exact Suf.refl _ | refine Suf.skip ?_), rfl⟩
  · first | replace hc1 := dT hc1 | replace hc1 := dF hc1 | replace hc1 := nT hc1 | replace hc1 := nF hc1 | skip
    first
    | (exfalso; omega)
    | (exfalso; simp [eqX] at hc1; done)
    | skip
      refine X_move rfl rfl rfl rfl ?_
      refine X_cmp rfl rfl rfl rfl rfl rfl ?_
      refine X_pick rfl rfl rfl rfl rfl ?_
      refine XD_end ?_
      refine K_then ?_
      refine C_pick (.cons (k := 9) rfl (.cons (k := 3) rfl (.cons (k := 2) rfl (.cons (k := 0) rfl .nil)))) ?_
      refine C_cond rfl (fun hc2 => ?_) (fun hc2 => ?_)
      · first | replace hc2 := dT hc2 | replace hc2 := dF hc2 | replace hc2 := nT hc2 | replace hc2 := nF hc2 | skip
        first
        | (exfalso; omega)
        | (exfalso; simp [eqX] at hc2; done)
        | skip
          refine C_seq ?_
          refine C_region (l := [0, 1]) rfl ?_
          refine X_assign rfl rfl rfl rfl ?_
          refine X_assign rfl rfl rfl rfl ?_
          refine XD_end ?_
          refine K_then ?_
          refine C_pick (.cons (k := 3) rfl (.cons (k := 2) rfl (.cons (k := 0) rfl .nil))) ?_
          refine C_ret ?_
          refine K_ret ?_
          refine K_end (.inr rfl) (.tmp rfl (.tmp rfl .nil)) (fun w hw => ?_)
          exact ⟨_, rfl, hw.suf (by repeat first | exact Suf.refl _ | refine Suf.skip ?_), rfl⟩
      · first | replace hc2 := dT hc2 | replace hc2 := dF hc2 | replace hc2 := nT hc2 | replace hc2 := nF hc2 | skip
        first
        | (exfalso; omega)
        | (exfalso; simp [eqX] at hc2; done)
        | skip
          refine C_skip ?_
          refine K_then ?_
          refine C_pick (.cons (k := 3) rfl (.cons (k := 2) rfl (.cons (k := 0) rfl .nil))) ?_
          refine C_seq ?_
          refine C_region (l := [0, 1, 2, 3, 4, 5]) rfl ?_
          refine X_move rfl rfl rfl rfl ?_
          refine X_makeMap rfl rfl rfl ?_; intro b3
          refine X_build rfl rfl F.bld54 (.cons rfl (by constructor) (.cons rfl (by constructor) .nil)) rfl rfl ?_
          refine X_box rfl rfl rfl (by constructor) rfl ?_; intro b4
          refine X_assign rfl rfl rfl rfl ?_
          refine X_assign rfl rfl rfl rfl ?_
          refine XD_end ?_
          refine K_then ?_
          refine C_pick (.cons (k := 3) rfl (.cons (k := 2) rfl .nil)) ?_
          refine C_ret ?_
          refine K_end (.inr rfl) (.tmp rfl (.tmp rfl .nil)) (fun w hw => ?_)
          exact ⟨_, rfl, hw.suf (by repeat first | exact Suf.refl _ | refine Suf.skip ?_), rfl⟩

theorem New_ok (M : Mem) (most : Int) (h : 1 ≤ most ∧ most ≤ 1000) : Fh Try.prog 7 [.int .i64 most] M [] (fun M' v Hb => M' = M ∧ ∃ b, v = .tuple #[.pointer (some ⟨b, 0, none⟩), .int .i64 0] ∧ BagIs b most 0 [] Hb) := by
  refine fh_enter Try.func7 rfl Try.ntmps7 rfl ?_; intro H
  refine C_seq ?_
  refine C_region (l := [0, 1]) rfl ?_
  refine X_assign rfl rfl rfl rfl ?_
  refine X_assign rfl rfl rfl rfl ?_
  refine XD_end ?_
  refine K_then ?_
  refine C_seq ?_
  refine C_seq ?_
  refine C_region (l := [0, 1, 2, 3, 4, 5]) rfl ?_
  refine X_move rfl rfl rfl rfl ?_
  refine X_cmp rfl rfl rfl rfl rfl rfl ?_
  refine X_move rfl rfl rfl rfl ?_
  refine XD_part 6 rfl (fun hc1 => ?_) (fun hc1 => ?_)
  · first | replace hc1 := dT hc1 | replace hc1 := dF hc1 | replace hc1 := nT hc1 | replace hc1 := nF hc1 | skip
    first
    | (exfalso; omega)
    | (exfalso; simp [eqX] at hc1; done)
    | skip
      refine X_skip rfl rfl rfl ?_
      refine X_skip rfl rfl rfl ?_
      refine X_pick rfl rfl rfl rfl rfl ?_
      refine XD_end ?_
      refine K_then ?_
      refine C_pick (.cons (k := 9) rfl (.cons (k := 3) rfl (.cons (k := 2) rfl (.cons (k := 0) rfl .nil)))) ?_
      refine C_true rfl ?_
      refine C_seq ?_
      refine C_region (l := [0, 1]) rfl ?_
      refine X_assign rfl rfl rfl rfl ?_
      refine X_assign rfl rfl rfl rfl ?_
      refine XD_end ?_
      refine K_then ?_
      refine C_pick (.cons (k := 3) rfl (.cons (k := 2) rfl (.cons (k := 0) rfl .nil))) ?_
      refine C_ret ?_
      refine K_ret ?_
      refine K_end (.inr rfl) (.tmp rfl (.tmp rfl .nil)) (fun w hw => ?_)
      refine ⟨_, M, _, rfl, Mem.le.refl M, hw.cnt (H' := _ ++ H) ?_, rfl, _, rfl, 0, b3, _, .map #[] 0, [], [], [], rfl, OSl.nil, ⟨#[], _, rfl, rfl⟩, Inner.nil, by omega, by omega, by simp; omega, by omega⟩
      intro x; simp only [cnt_app, cnt_cons, cnt_nil, cat, List.cons_append, List.nil_append]; omega
  · first | replace hc1 := dT hc1 | replace hc1 := dF hc1 | replace hc1 := nT hc1 | replace hc1 := nF hc1 | skip
    first
    | (exfalso; omega)
    | (exfalso; simp [eqX] at hc1; done)
    | skip
      refine X_move rfl rfl rfl rfl ?_
      refine X_cmp rfl rfl rfl rfl rfl rfl ?_
      refine X_pick rfl rfl rfl rfl rfl ?_
      refine XD_end ?_
      refine K_then ?_
      refine C_pick (.cons (k := 9) rfl (.cons (k := 3) rfl (.cons (k := 2) rfl (.cons (k := 0) rfl .nil)))) ?_
      refine C_cond rfl (fun hc2 => ?_) (fun hc2 => ?_)
      · first | replace hc2 := dT hc2 | replace hc2 := dF hc2 | replace hc2 := nT hc2 | replace hc2 := nF hc2 | skip
        first
        | (exfalso; omega)
        | (exfalso; simp [eqX] at hc2; done)
        | skip
          refine C_seq ?_
          refine C_region (l := [0, 1]) rfl ?_
          refine X_assign rfl rfl rfl rfl ?_
          refine X_assign rfl rfl rfl rfl ?_
          refine XD_end ?_
          refine K_then ?_
          refine C_pick (.cons (k := 3) rfl (.cons (k := 2) rfl (.cons (k := 0) rfl .nil))) ?_
          refine C_ret ?_
          refine K_ret ?_
          refine K_end (.inr rfl) (.tmp rfl (.tmp rfl .nil)) (fun w hw => ?_)
          refine ⟨_, M, _, rfl, Mem.le.refl M, hw.cnt (H' := _ ++ H) ?_, rfl, _, rfl, 0, b3, _, .map #[] 0, [], [], [], rfl, OSl.nil, ⟨#[], _, rfl, rfl⟩, Inner.nil, by omega, by omega, by simp; omega, by omega⟩
          intro x; simp only [cnt_app, cnt_cons, cnt_nil, cat, List.cons_append, List.nil_append]; omega
      · first | replace hc2 := dT hc2 | replace hc2 := dF hc2 | replace hc2 := nT hc2 | replace hc2 := nF hc2 | skip
        first
        | (exfalso; omega)
        | (exfalso; simp [eqX] at hc2; done)
        | skip
          refine C_skip ?_
          refine K_then ?_
          refine C_pick (.cons (k := 3) rfl (.cons (k := 2) rfl (.cons (k := 0) rfl .nil))) ?_
          refine C_seq ?_
          refine C_region (l := [0, 1, 2, 3, 4, 5]) rfl ?_
          refine X_move rfl rfl rfl rfl ?_
          refine X_makeMap rfl rfl rfl ?_; intro b3
          refine X_build rfl rfl F.bld54 (.cons rfl (by constructor) (.cons rfl (by constructor) .nil)) rfl rfl ?_
          refine X_box rfl rfl rfl (by constructor) rfl ?_; intro b4
          refine X_assign rfl rfl rfl rfl ?_
          refine X_assign rfl rfl rfl rfl ?_
          refine XD_end ?_
          refine K_then ?_
          refine C_pick (.cons (k := 3) rfl (.cons (k := 2) rfl .nil)) ?_
          refine C_ret ?_
          refine K_end (.inr rfl) (.tmp rfl (.tmp rfl .nil)) (fun w hw => ?_)
          refine ⟨_, M, _, rfl, Mem.le.refl M, hw.cnt (H' := _ ++ H) ?_, rfl, _, rfl, 0, b3, _, .map #[] 0, [], [], [], rfl, OSl.nil, ⟨#[], _, rfl, rfl⟩, Inner.nil, by omega, by omega, by simp; omega, by omega⟩
          intro x; simp only [cnt_app, cnt_cons, cnt_nil, cat, List.cons_append, List.nil_append]; omega

theorem Size_ok (M : Mem) (b : Nat) (most N : Int) (l : List Mail) (Hb : Hp) (hb : BagIs b most N l Hb) : Fo Try.prog 11 [.pointer (some ⟨b, 0, none⟩)] M Hb (fun M' v => M' = M ∧ v = .int .i64 l.length) := by
  obtain ⟨next, mb, rv, o, hs, ids, im, rfl, ho, hm, hin, hn0, hnN, hl1, hl2⟩ := hb
  obtain ⟨ad, cp, rfl⟩ := ho.val
  have hil : (ids.map oneI).length = l.length := by simp [hin.len]
  have hil2 : ids.length = l.length := hin.len
  refine fo_enterF (fun H => (b, rowO [.one (.int .i64 most), Seg.one (.int .i64 next), .one _, .one (.map (some mb))] 54) :: (mb, o) :: (hs ++ H)) (fun _ => rfl) Try.func11 rfl Try.ntmps11 rfl ?_; intro H
  refine C_seq ?_
  refine C_region (l := [0]) rfl ?_
  refine X_assign rfl rfl rfl rfl ?_
  refine XD_end ?_
  refine K_then ?_
  refine C_seq ?_
  refine C_seq ?_
  refine C_region (l := [0, 1]) rfl ?_
  refine X_move rfl rfl rfl rfl ?_
  refine X_nil rfl rfl rfl rfl Try.underlying23 rfl rfl ?_
  refine XD_end ?_
  refine K_then ?_
  refine C_pick (.cons (k := 4) rfl (.cons (k := 2) rfl (.cons (k := 0) rfl .nil))) ?_
  refine C_cond rfl (fun hc1 => ?_) (fun hc1 => ?_)
  · first | replace hc1 := dT hc1 | replace hc1 := dF hc1 | replace hc1 := nT hc1 | replace hc1 := nF hc1 | skip
    first
    | (exfalso; omega)
    | (exfalso; simp [eqX] at hc1; done)
    | skip
      refine C_seq ?_
      refine C_region (l := [0]) rfl ?_
      refine X_assign rfl rfl rfl rfl ?_
      refine XD_end ?_
      refine K_then ?_
      refine C_pick (.cons (k := 2) rfl (.cons (k := 0) rfl .nil)) ?_
      refine C_ret ?_
      refine K_ret ?_
      refine K_end (.inr rfl) (.tmp rfl .nil) (fun w hw => ?_)
      exact ⟨_, M, rfl, Mem.le.refl M, hw.cnt (by intro zz; first | exact Nat.le_refl _ | (simp only [cnt_app, cnt_cons, cnt_nil, cat, List.append_eq, List.append_assoc, List.cons_append, List.nil_append, List.append_nil]; omega)), rfl, by simp [hil, resV]⟩
  · first | replace hc1 := dT hc1 | replace hc1 := dF hc1 | replace hc1 := nT hc1 | replace hc1 := nF hc1 | skip
    first
    | (exfalso; omega)
    | (exfalso; simp [eqX] at hc1; done)
    | skip
      refine C_skip ?_
      refine K_then ?_
      refine C_pick (.cons (k := 2) rfl (.cons (k := 0) rfl .nil)) ?_
      refine C_seq ?_
      refine C_region (l := [0, 1, 2, 3, 4, 5]) rfl ?_
      refine X_move rfl rfl rfl rfl ?_
      refine X_nilCheck rfl rfl rfl rfl ?_
      first | refine X_fieldAddr rfl rfl rfl F.foff54_2 rfl ?_ | refine X_fieldAddr_el rfl rfl rfl (by first | exact ⟨_, _, rfl⟩ | assumption | exact SlM.plain (by assumption) (by simp; omega) | exact RdS.plain (by assumption) (by simp; omega) | exact OSl.plain (by assumption) (by simp; omega)) F.foff54_2 rfl ?_
      first | refine X_load rfl rfl rfl (by repeat first | exact List.Mem.head _ | refine List.Mem.tail _ ?_ | refine List.mem_append_right _ ?_) F.lay47 rfl rfl rfl ?_ | refine X_load_el rfl rfl rfl (by first | assumption | exact SlM.mono (by assumption) (by assumption)) (by first | exact row_map (by omega) | exact List.getElem?_eq_getElem (by omega)) F.lay47 rfl rfl rfl ?_ | refine X_load_rd rfl rfl rfl (by assumption) (by first | exact row_map (by omega) | exact List.getElem?_eq_getElem (by omega)) F.lay47 rfl rfl rfl ?_ | refine X_load_mem rfl rfl rfl (by first | assumption | exact Mem.get_of (by assumption) (by repeat first | assumption | refine Mem.le.trans (by assumption) ?_)) F.lay47 rfl rfl rfl ?_ | refine X_load_osl rfl rfl rfl (by assumption) (by repeat first | exact Rem.here _ | exact Rem.two | apply Rem.skip | apply Rem.over) (by first | exact row_map (by omega) | exact List.getElem?_eq_getElem (by omega)) F.lay47 rfl rfl rfl ?_
      refine X_len_sl rfl rfl rfl rfl F.elem47 rfl ?_
      refine X_assign rfl rfl rfl rfl ?_
      refine XD_end ?_
      refine K_then ?_
      refine C_pick (.cons (k := 2) rfl .nil) ?_
      refine C_ret ?_
      refine K_end (.inr rfl) (.tmp rfl .nil) (fun w hw => ?_)
      exact ⟨_, M, rfl, Mem.le.refl M, hw.cnt (by intro zz; first | exact Nat.le_refl _ | (simp only [cnt_app, cnt_cons, cnt_nil, cat, List.append_eq, List.append_assoc, List.cons_append, List.nil_append, List.append_nil]; omega)), rfl, by simp [hil, resV]⟩

theorem Size_nil (M : Mem) : Fs Try.prog 11 [.pointer none] M (fun v => v = .int .i64 0) := by
  refine fs_enter Try.func11 rfl Try.ntmps11 rfl ?_; intro H
  refine C_seq ?_
  refine C_region (l := [0]) rfl ?_
  refine X_assign rfl rfl rfl rfl ?_
  refine XD_end ?_
  refine K_then ?_
  refine C_seq ?_
  refine C_seq ?_
  refine C_region (l := [0, 1]) rfl ?_
  refine X_move rfl rfl rfl rfl ?_
  refine X_nil rfl rfl rfl rfl Try.underlying23 rfl rfl ?_
  refine XD_end ?_
  refine K_then ?_
  refine C_pick (.cons (k := 4) rfl (.cons (k := 2) rfl (.cons (k := 0) rfl .nil))) ?_
  refine C_cond rfl (fun hc1 => ?_) (fun hc1 => ?_)
  · first | replace hc1 := dT hc1 | replace hc1 := dF hc1 | replace hc1 := nT hc1 | replace hc1 := nF hc1 | skip
    first
    | (exfalso; omega)
    | (exfalso; simp [eqX] at hc1; done)
    | skip
      refine C_seq ?_
      refine C_region (l := [0]) rfl ?_
      refine X_assign rfl rfl rfl rfl ?_
      refine XD_end ?_
      refine K_then ?_
      refine C_pick (.cons (k := 2) rfl (.cons (k := 0) rfl .nil)) ?_
      refine C_ret ?_
      refine K_ret ?_
      refine K_end (.inr rfl) (.tmp rfl .nil) (fun w hw => ?_)
      exact ⟨_, rfl, hw.suf (by repeat first | exact Suf.refl _ | refine Suf.skip ?_), rfl⟩
  · first | replace hc1 := dT hc1 | replace hc1 := dF hc1 | replace hc1 := nT hc1 | replace hc1 := nF hc1 | skip
    first
    | (exfalso; omega)
    | (exfalso; simp [eqX] at hc1; done)
    | skip
      refine C_skip ?_
      refine K_then ?_
      refine C_pick (.cons (k := 2) rfl (.cons (k := 0) rfl .nil)) ?_
      refine C_seq ?_
      refine C_region (l := [0, 1, 2, 3, 4, 5]) rfl ?_
      refine X_move rfl rfl rfl rfl ?_
      refine X_nilCheck rfl rfl rfl rfl ?_
      first | refine X_fieldAddr rfl rfl rfl F.foff54_2 rfl ?_ | refine X_fieldAddr_el rfl rfl rfl (by first | exact ⟨_, _, rfl⟩ | assumption | exact SlM.plain (by assumption) (by simp; omega) | exact RdS.plain (by assumption) (by simp; omega) | exact OSl.plain (by assumption) (by simp; omega)) F.foff54_2 rfl ?_
      first | refine X_load rfl rfl rfl (by repeat first | exact List.Mem.head _ | refine List.Mem.tail _ ?_ | refine List.mem_append_right _ ?_) F.lay47 rfl rfl rfl ?_ | refine X_load_el rfl rfl rfl (by first | assumption | exact SlM.mono (by assumption) (by assumption)) (by first | exact row_map (by omega) | exact List.getElem?_eq_getElem (by omega)) F.lay47 rfl rfl rfl ?_ | refine X_load_rd rfl rfl rfl (by assumption) (by first | exact row_map (by omega) | exact List.getElem?_eq_getElem (by omega)) F.lay47 rfl rfl rfl ?_ | refine X_load_mem rfl rfl rfl (by first | assumption | exact Mem.get_of (by assumption) (by repeat first | assumption | refine Mem.le.trans (by assumption) ?_)) F.lay47 rfl rfl rfl ?_ | refine X_load_osl rfl rfl rfl (by assumption) (by repeat first | exact Rem.here _ | exact Rem.two | apply Rem.skip | apply Rem.over) (by first | exact row_map (by omega) | exact List.getElem?_eq_getElem (by omega)) F.lay47 rfl rfl rfl ?_
      refine X_len_sl rfl rfl rfl rfl F.elem47 rfl ?_
      refine X_assign rfl rfl rfl rfl ?_
      refine XD_end ?_
      refine K_then ?_
      refine C_pick (.cons (k := 2) rfl .nil) ?_
      refine C_ret ?_
      refine K_end (.inr rfl) (.tmp rfl .nil) (fun w hw => ?_)
      exact ⟨_, rfl, hw.suf (by repeat first | exact Suf.refl _ | refine Suf.skip ?_), rfl⟩

theorem Put_ok (M : Mem) (b : Nat) (most N : Int) (l : List Mail) (Hb : Hp) (m : Mail) (hN : N ≤ 1000000000) (hb : BagIs b most N l Hb) : Fh Try.prog 8 [.pointer (some ⟨b, 0, none⟩), m.val] M Hb (fun M' v Hb' => M' = M ∧ v = .int .i64 (putC m most l) ∧ BagIs b most (N + 1) (putL m most l) Hb') := by
  obtain ⟨next, mb, rv, o, hs, ids, im, rfl, ho, hm, hin, hn0, hnN, hl1, hl2⟩ := hb
  obtain ⟨ad, cp, rfl⟩ := ho.val
  have hil : (ids.map oneI).length = l.length := by simp [hin.len]
  have hil2 : ids.length = l.length := hin.len
  refine fh_enterF (fun H => (b, rowO [.one (.int .i64 most), Seg.one (.int .i64 next), .one _, .one (.map (some mb))] 54) :: (mb, o) :: (hs ++ H)) (fun _ => rfl) Try.func8 rfl Try.ntmps8 rfl ?_; intro H
  refine C_seq ?_
  refine C_region (l := [0, 1]) rfl ?_
  refine X_box rfl rfl rfl (by constructor) rfl ?_; intro b1
  refine X_assign rfl rfl rfl rfl ?_
  refine XD_end ?_
  refine K_then ?_
  refine C_pick (.cons (k := 4) rfl (.cons (k := 3) rfl (.cons (k := 0) rfl .nil))) ?_
  refine C_seq ?_
  refine C_block ?_
  refine C_seq ?_
  refine C_region (l := [0, 1, 2]) rfl ?_
  refine X_move rfl rfl rfl rfl ?_
  refine X_nil rfl rfl rfl rfl Try.underlying23 rfl rfl ?_
  refine X_assign rfl rfl rfl rfl ?_
  refine XD_end ?_
  refine K_then ?_
  refine C_pick (.cons (k := 5) rfl (.cons (k := 4) rfl (.cons (k := 3) rfl (.cons (k := 0) rfl .nil)))) ?_
  refine C_cond rfl (fun hc2 => ?_) (fun hc2 => ?_)
  · first | replace hc2 := dT hc2 | replace hc2 := dF hc2 | replace hc2 := nT hc2 | replace hc2 := nF hc2 | skip
    first
    | (exfalso; omega)
    | (exfalso; simp [eqX] at hc2; done)
    | skip
      refine C_seq ?_
      refine C_region (l := [0]) rfl ?_
      refine X_assign rfl rfl rfl rfl ?_
      refine XD_end ?_
      refine K_then ?_
      refine C_pick (.cons (k := 4) rfl (.cons (k := 3) rfl (.cons (k := 0) rfl .nil))) ?_
      refine C_ret ?_
      refine K_retB ?_
      refine K_ret ?_
      refine K_end (.inr rfl) (.tmp rfl .nil) (fun w hw => ?_)
      first
      | (have hp := put_lim m most l (by omega); exact ⟨_, M, ((b, _) :: (mb, _) :: hs), rfl, Mem.le.refl M, hw.cnt (by intro zz; first | exact Nat.le_refl _ | (simp only [cnt_app, cnt_cons, cnt_nil, cat, List.append_eq, List.append_assoc, List.cons_append, List.nil_append, List.append_nil]; omega)), rfl, by rw [hp.1]; rfl, next, mb, _, o, hs, ids, im, rfl, ho, hm, by rw [hp.2]; exact hin, hn0, by omega, by rw [hp.2]; exact hl1, hl2⟩)
      | (have hp := put_full m most l (by omega) (by omega); exact ⟨_, M, ((b, _) :: (mb, _) :: hs), rfl, Mem.le.refl M, hw.cnt (by intro zz; first | exact Nat.le_refl _ | (simp only [cnt_app, cnt_cons, cnt_nil, cat, List.append_eq, List.append_assoc, List.cons_append, List.nil_append, List.append_nil]; omega)), rfl, by rw [hp.1]; rfl, next, mb, _, o, hs, ids, im, rfl, ho, hm, by rw [hp.2]; exact hin, hn0, by omega, by rw [hp.2]; exact hl1, hl2⟩)
      | skip
        have hp := put_ok m most l (by omega) (by omega)
        have e : (ids ++ [next]).map oneI = ids.map oneI ++ [[.one (.int .i64 next)]] := by simp [oneI]
        refine ⟨_, M, ((b, _) :: (mb, o5) :: hs10), rfl, Mem.le.refl M, ?_, rfl, by rw [hp.1]; rfl, next + 1, mb, _, _, _, ids ++ [next], imPut im next m.val, rfl, by rw [e]; exact ho9, him6, by rw [hp.2]; exact hin.put m, by omega, by omega, by rw [hp.2]; simp; omega, hl2⟩
        exact hw.cnt (by intro zz; first | exact Nat.le_refl _ | (simp only [cnt_app, cnt_cons, cnt_nil, cat, List.append_eq, List.append_assoc, List.cons_append, List.nil_append, List.append_nil]; omega))
  · first | replace hc2 := dT hc2 | replace hc2 := dF hc2 | replace hc2 := nT hc2 | replace hc2 := nF hc2 | skip
    first
    | (exfalso; omega)
    | (exfalso; simp [eqX] at hc2; done)
    | skip
      refine C_seq ?_
      refine C_region (l := [0, 1, 2, 3, 4]) rfl ?_
      first | refine X_fieldAddr rfl rfl rfl F.foff28_2 rfl ?_ | refine X_fieldAddr_el rfl rfl rfl (by first | exact ⟨_, _, rfl⟩ | assumption | exact SlM.plain (by assumption) (by simp; omega) | exact RdS.plain (by assumption) (by simp; omega) | exact OSl.plain (by assumption) (by simp; omega)) F.foff28_2 rfl ?_
      first | refine X_load rfl rfl rfl (by repeat first | exact List.Mem.head _ | refine List.Mem.tail _ ?_ | refine List.mem_append_right _ ?_) F.lay9 rfl rfl rfl ?_ | refine X_load_el rfl rfl rfl (by first | assumption | exact SlM.mono (by assumption) (by assumption)) (by first | exact row_map (by omega) | exact List.getElem?_eq_getElem (by omega)) F.lay9 rfl rfl rfl ?_ | refine X_load_rd rfl rfl rfl (by assumption) (by first | exact row_map (by omega) | exact List.getElem?_eq_getElem (by omega)) F.lay9 rfl rfl rfl ?_ | refine X_load_mem rfl rfl rfl (by first | assumption | exact Mem.get_of (by assumption) (by repeat first | assumption | refine Mem.le.trans (by assumption) ?_)) F.lay9 rfl rfl rfl ?_ | refine X_load_osl rfl rfl rfl (by assumption) (by repeat first | exact Rem.here _ | exact Rem.two | apply Rem.skip | apply Rem.over) (by first | exact row_map (by omega) | exact List.getElem?_eq_getElem (by omega)) F.lay9 rfl rfl rfl ?_
      refine X_len_str rfl rfl rfl rfl Try.underlying9 rfl ?_
      refine X_cmp rfl rfl rfl rfl rfl rfl ?_
      refine X_assign rfl rfl rfl rfl ?_
      refine XD_end ?_
      refine K_then ?_
      refine C_pick (.cons (k := 8) rfl (.cons (k := 4) rfl (.cons (k := 3) rfl (.cons (k := 0) rfl .nil)))) ?_
      refine C_cond rfl (fun hc3 => ?_) (fun hc3 => ?_)
      · first | replace hc3 := dT hc3 | replace hc3 := dF hc3 | replace hc3 := nT hc3 | replace hc3 := nF hc3 | skip
        first
        | (exfalso; omega)
        | (exfalso; simp [eqX] at hc3; done)
        | skip
          refine C_seq ?_
          refine C_region (l := [0]) rfl ?_
          refine X_assign rfl rfl rfl rfl ?_
          refine XD_end ?_
          refine K_then ?_
          refine C_pick (.cons (k := 4) rfl (.cons (k := 3) rfl (.cons (k := 0) rfl .nil))) ?_
          refine C_ret ?_
          refine K_retB ?_
          refine K_ret ?_
          refine K_end (.inr rfl) (.tmp rfl .nil) (fun w hw => ?_)
          first
          | (have hp := put_lim m most l (by omega); exact ⟨_, M, ((b, _) :: (mb, _) :: hs), rfl, Mem.le.refl M, hw.cnt (by intro zz; first | exact Nat.le_refl _ | (simp only [cnt_app, cnt_cons, cnt_nil, cat, List.append_eq, List.append_assoc, List.cons_append, List.nil_append, List.append_nil]; omega)), rfl, by rw [hp.1]; rfl, next, mb, _, o, hs, ids, im, rfl, ho, hm, by rw [hp.2]; exact hin, hn0, by omega, by rw [hp.2]; exact hl1, hl2⟩)
          | (have hp := put_full m most l (by omega) (by omega); exact ⟨_, M, ((b, _) :: (mb, _) :: hs), rfl, Mem.le.refl M, hw.cnt (by intro zz; first | exact Nat.le_refl _ | (simp only [cnt_app, cnt_cons, cnt_nil, cat, List.append_eq, List.append_assoc, List.cons_append, List.nil_append, List.append_nil]; omega)), rfl, by rw [hp.1]; rfl, next, mb, _, o, hs, ids, im, rfl, ho, hm, by rw [hp.2]; exact hin, hn0, by omega, by rw [hp.2]; exact hl1, hl2⟩)
          | skip
            have hp := put_ok m most l (by omega) (by omega)
            have e : (ids ++ [next]).map oneI = ids.map oneI ++ [[.one (.int .i64 next)]] := by simp [oneI]
            refine ⟨_, M, ((b, _) :: (mb, o5) :: hs10), rfl, Mem.le.refl M, ?_, rfl, by rw [hp.1]; rfl, next + 1, mb, _, _, _, ids ++ [next], imPut im next m.val, rfl, by rw [e]; exact ho9, him6, by rw [hp.2]; exact hin.put m, by omega, by omega, by rw [hp.2]; simp; omega, hl2⟩
            exact hw.cnt (by intro zz; first | exact Nat.le_refl _ | (simp only [cnt_app, cnt_cons, cnt_nil, cat, List.append_eq, List.append_assoc, List.cons_append, List.nil_append, List.append_nil]; omega))
      · first | replace hc3 := dT hc3 | replace hc3 := dF hc3 | replace hc3 := nT hc3 | replace hc3 := nF hc3 | skip
        first
        | (exfalso; omega)
        | (exfalso; simp [eqX] at hc3; done)
        | skip
          refine C_seq ?_
          refine C_region_any (l := [0, 1, 2, 3, 4, 5, 6, 7, 8, 9, 10]) #[0, 1, 3, 7, 15, 0, 32, 96, 224, 511, 1023] _ rfl (by kernel_rfl) (by kernel_rfl) St.drawn (fun _ h => h) ?_
          refine X_move rfl rfl rfl rfl ?_
          refine X_nilCheck rfl rfl rfl rfl ?_
          first | refine X_fieldAddr rfl rfl rfl F.foff54_2 rfl ?_ | refine X_fieldAddr_el rfl rfl rfl (by first | exact ⟨_, _, rfl⟩ | assumption | exact SlM.plain (by assumption) (by simp; omega) | exact RdS.plain (by assumption) (by simp; omega) | exact OSl.plain (by assumption) (by simp; omega)) F.foff54_2 rfl ?_
          first | refine X_load rfl rfl rfl (by repeat first | exact List.Mem.head _ | refine List.Mem.tail _ ?_ | refine List.mem_append_right _ ?_) F.lay47 rfl rfl rfl ?_ | refine X_load_el rfl rfl rfl (by first | assumption | exact SlM.mono (by assumption) (by assumption)) (by first | exact row_map (by omega) | exact List.getElem?_eq_getElem (by omega)) F.lay47 rfl rfl rfl ?_ | refine X_load_rd rfl rfl rfl (by assumption) (by first | exact row_map (by omega) | exact List.getElem?_eq_getElem (by omega)) F.lay47 rfl rfl rfl ?_ | refine X_load_mem rfl rfl rfl (by first | assumption | exact Mem.get_of (by assumption) (by repeat first | assumption | refine Mem.le.trans (by assumption) ?_)) F.lay47 rfl rfl rfl ?_ | refine X_load_osl rfl rfl rfl (by assumption) (by repeat first | exact Rem.here _ | exact Rem.two | apply Rem.skip | apply Rem.over) (by first | exact row_map (by omega) | exact List.getElem?_eq_getElem (by omega)) F.lay47 rfl rfl rfl ?_
          refine X_len_sl rfl rfl rfl rfl F.elem47 rfl ?_
          refine X_move rfl rfl rfl rfl ?_
          refine X_nilCheck rfl rfl rfl rfl ?_
          first | refine X_fieldAddr rfl rfl rfl F.foff54_0 rfl ?_ | refine X_fieldAddr_el rfl rfl rfl (by first | exact ⟨_, _, rfl⟩ | assumption | exact SlM.plain (by assumption) (by simp; omega) | exact RdS.plain (by assumption) (by simp; omega) | exact OSl.plain (by assumption) (by simp; omega)) F.foff54_0 rfl ?_
          first | refine X_load rfl rfl rfl (by repeat first | exact List.Mem.head _ | refine List.Mem.tail _ ?_ | refine List.mem_append_right _ ?_) F.lay3 rfl rfl rfl ?_ | refine X_load_el rfl rfl rfl (by first | assumption | exact SlM.mono (by assumption) (by assumption)) (by first | exact row_map (by omega) | exact List.getElem?_eq_getElem (by omega)) F.lay3 rfl rfl rfl ?_ | refine X_load_rd rfl rfl rfl (by assumption) (by first | exact row_map (by omega) | exact List.getElem?_eq_getElem (by omega)) F.lay3 rfl rfl rfl ?_ | refine X_load_mem rfl rfl rfl (by first | assumption | exact Mem.get_of (by assumption) (by repeat first | assumption | refine Mem.le.trans (by assumption) ?_)) F.lay3 rfl rfl rfl ?_ | refine X_load_osl rfl rfl rfl (by assumption) (by repeat first | exact Rem.here _ | exact Rem.two | apply Rem.skip | apply Rem.over) (by first | exact row_map (by omega) | exact List.getElem?_eq_getElem (by omega)) F.lay3 rfl rfl rfl ?_
          refine X_cmp rfl rfl rfl rfl rfl rfl ?_
          refine X_assign rfl rfl rfl rfl ?_
          refine XD_end ?_
          refine K_then ?_
          refine C_pick (.cons (k := 13) rfl (.cons (k := 4) rfl (.cons (k := 3) rfl (.cons (k := 0) rfl .nil)))) ?_
          refine C_cond rfl (fun hc4 => ?_) (fun hc4 => ?_)
          · first | replace hc4 := dT hc4 | replace hc4 := dF hc4 | replace hc4 := nT hc4 | replace hc4 := nF hc4 | skip
            first
            | (exfalso; omega)
            | (exfalso; simp [eqX] at hc4; done)
            | skip
              refine C_seq ?_
              refine C_region (l := [0]) rfl ?_
              refine X_assign rfl rfl rfl rfl ?_
              refine XD_end ?_
              refine K_then ?_
              refine C_pick (.cons (k := 4) rfl (.cons (k := 3) rfl (.cons (k := 0) rfl .nil))) ?_
              refine C_ret ?_
              refine K_retB ?_
              refine K_ret ?_
              refine K_end (.inr rfl) (.tmp rfl .nil) (fun w hw => ?_)
              first
              | (have hp := put_lim m most l (by omega); exact ⟨_, M, ((b, _) :: (mb, _) :: hs), rfl, Mem.le.refl M, hw.cnt (by intro zz; first | exact Nat.le_refl _ | (simp only [cnt_app, cnt_cons, cnt_nil, cat, List.append_eq, List.append_assoc, List.cons_append, List.nil_append, List.append_nil]; omega)), rfl, by rw [hp.1]; rfl, next, mb, _, o, hs, ids, im, rfl, ho, hm, by rw [hp.2]; exact hin, hn0, by omega, by rw [hp.2]; exact hl1, hl2⟩)
              | (have hp := put_full m most l (by omega) (by omega); exact ⟨_, M, ((b, _) :: (mb, _) :: hs), rfl, Mem.le.refl M, hw.cnt (by intro zz; first | exact Nat.le_refl _ | (simp only [cnt_app, cnt_cons, cnt_nil, cat, List.append_eq, List.append_assoc, List.cons_append, List.nil_append, List.append_nil]; omega)), rfl, by rw [hp.1]; rfl, next, mb, _, o, hs, ids, im, rfl, ho, hm, by rw [hp.2]; exact hin, hn0, by omega, by rw [hp.2]; exact hl1, hl2⟩)
              | skip
                have hp := put_ok m most l (by omega) (by omega)
                have e : (ids ++ [next]).map oneI = ids.map oneI ++ [[.one (.int .i64 next)]] := by simp [oneI]
                refine ⟨_, M, ((b, _) :: (mb, o5) :: hs10), rfl, Mem.le.refl M, ?_, rfl, by rw [hp.1]; rfl, next + 1, mb, _, _, _, ids ++ [next], imPut im next m.val, rfl, by rw [e]; exact ho9, him6, by rw [hp.2]; exact hin.put m, by omega, by omega, by rw [hp.2]; simp; omega, hl2⟩
                exact hw.cnt (by intro zz; first | exact Nat.le_refl _ | (simp only [cnt_app, cnt_cons, cnt_nil, cat, List.append_eq, List.append_assoc, List.cons_append, List.nil_append, List.append_nil]; omega))
          · first | replace hc4 := dT hc4 | replace hc4 := dF hc4 | replace hc4 := nT hc4 | replace hc4 := nF hc4 | skip
            first
            | (exfalso; omega)
            | (exfalso; simp [eqX] at hc4; done)
            | skip
              refine C_skip ?_
              refine K_out ?_
              refine K_then ?_
              refine C_pick (.cons (k := 4) rfl (.cons (k := 3) rfl (.cons (k := 0) rfl .nil))) ?_
              refine C_seq ?_
              refine C_region_any (l := [0, 1, 2, 3, 4, 5, 6, 7, 8, 9]) #[0, 1, 3, 7, 0, 16, 48, 112, 0, 511] _ rfl (by kernel_rfl) (by kernel_rfl) St.drawn (fun _ h => h) ?_
              refine X_move rfl rfl rfl rfl ?_
              refine X_nilCheck rfl rfl rfl rfl ?_
              first | refine X_fieldAddr rfl rfl rfl F.foff54_3 rfl ?_ | refine X_fieldAddr_el rfl rfl rfl (by first | exact ⟨_, _, rfl⟩ | assumption | exact SlM.plain (by assumption) (by simp; omega) | exact RdS.plain (by assumption) (by simp; omega) | exact OSl.plain (by assumption) (by simp; omega)) F.foff54_3 rfl ?_
              first | refine X_load rfl rfl rfl (by repeat first | exact List.Mem.head _ | refine List.Mem.tail _ ?_ | refine List.mem_append_right _ ?_) F.lay52 rfl rfl rfl ?_ | refine X_load_el rfl rfl rfl (by first | assumption | exact SlM.mono (by assumption) (by assumption)) (by first | exact row_map (by omega) | exact List.getElem?_eq_getElem (by omega)) F.lay52 rfl rfl rfl ?_ | refine X_load_rd rfl rfl rfl (by assumption) (by first | exact row_map (by omega) | exact List.getElem?_eq_getElem (by omega)) F.lay52 rfl rfl rfl ?_ | refine X_load_mem rfl rfl rfl (by first | assumption | exact Mem.get_of (by assumption) (by repeat first | assumption | refine Mem.le.trans (by assumption) ?_)) F.lay52 rfl rfl rfl ?_ | refine X_load_osl rfl rfl rfl (by assumption) (by repeat first | exact Rem.here _ | exact Rem.two | apply Rem.skip | apply Rem.over) (by first | exact row_map (by omega) | exact List.getElem?_eq_getElem (by omega)) F.lay52 rfl rfl rfl ?_
              refine X_move rfl rfl rfl rfl ?_
              refine X_nilCheck rfl rfl rfl rfl ?_
              first | refine X_fieldAddr rfl rfl rfl F.foff54_1 rfl ?_ | refine X_fieldAddr_el rfl rfl rfl (by first | exact ⟨_, _, rfl⟩ | assumption | exact SlM.plain (by assumption) (by simp; omega) | exact RdS.plain (by assumption) (by simp; omega) | exact OSl.plain (by assumption) (by simp; omega)) F.foff54_1 rfl ?_
              first | refine X_load rfl rfl rfl (by repeat first | exact List.Mem.head _ | refine List.Mem.tail _ ?_ | refine List.mem_append_right _ ?_) F.lay3 rfl rfl rfl ?_ | refine X_load_el rfl rfl rfl (by first | assumption | exact SlM.mono (by assumption) (by assumption)) (by first | exact row_map (by omega) | exact List.getElem?_eq_getElem (by omega)) F.lay3 rfl rfl rfl ?_ | refine X_load_rd rfl rfl rfl (by assumption) (by first | exact row_map (by omega) | exact List.getElem?_eq_getElem (by omega)) F.lay3 rfl rfl rfl ?_ | refine X_load_mem rfl rfl rfl (by first | assumption | exact Mem.get_of (by assumption) (by repeat first | assumption | refine Mem.le.trans (by assumption) ?_)) F.lay3 rfl rfl rfl ?_ | refine X_load_osl rfl rfl rfl (by assumption) (by repeat first | exact Rem.here _ | exact Rem.two | apply Rem.skip | apply Rem.over) (by first | exact row_map (by omega) | exact List.getElem?_eq_getElem (by omega)) F.lay3 rfl rfl rfl ?_
              first | refine X_load rfl rfl rfl (by repeat first | exact List.Mem.head _ | refine List.Mem.tail _ ?_ | refine List.mem_append_right _ ?_) F.lay28 rfl rfl rfl ?_ | refine X_load_el rfl rfl rfl (by first | assumption | exact SlM.mono (by assumption) (by assumption)) (by first | exact row_map (by omega) | exact List.getElem?_eq_getElem (by omega)) F.lay28 rfl rfl rfl ?_ | refine X_load_rd rfl rfl rfl (by assumption) (by first | exact row_map (by omega) | exact List.getElem?_eq_getElem (by omega)) F.lay28 rfl rfl rfl ?_ | refine X_load_mem rfl rfl rfl (by first | assumption | exact Mem.get_of (by assumption) (by repeat first | assumption | refine Mem.le.trans (by assumption) ?_)) F.lay28 rfl rfl rfl ?_ | refine X_load_osl rfl rfl rfl (by assumption) (by repeat first | exact Rem.here _ | exact Rem.two | apply Rem.skip | apply Rem.over) (by first | exact row_map (by omega) | exact List.getElem?_eq_getElem (by omega)) F.lay28 rfl rfl rfl ?_
              refine X_mapUpdateF rfl rfl rfl rfl rfl F.map52 (by assumption) (by repeat first | exact List.Mem.head _ | refine List.Mem.tail _ ?_ | refine List.mem_append_right _ ?_) ?_; intro o5 him6; refine ⟨_, (by repeat first | exact Upd.head | apply Upd.tail | apply Upd.over), ?_⟩
              refine XD_end ?_
              refine K_then ?_
              refine C_pick (.cons (k := 4) rfl (.cons (k := 0) rfl .nil)) ?_
              refine C_seq ?_
              refine C_region_any (l := [0, 1, 2, 3, 4, 5, 6, 7, 8, 9, 10, 11, 12, 13]) #[0, 0, 2, 6, 14, 0, 32, 96, 224, 480, 1022, 2047, 4095, 8191] _ rfl (by kernel_rfl) (by kernel_rfl) St.drawn (fun _ h => h) ?_
              refine X_move rfl rfl rfl rfl ?_
              refine X_move rfl rfl rfl rfl ?_
              refine X_nilCheck rfl rfl rfl rfl ?_
              first | refine X_fieldAddr rfl rfl rfl F.foff54_2 rfl ?_ | refine X_fieldAddr_el rfl rfl rfl (by first | exact ⟨_, _, rfl⟩ | assumption | exact SlM.plain (by assumption) (by simp; omega) | exact RdS.plain (by assumption) (by simp; omega) | exact OSl.plain (by assumption) (by simp; omega)) F.foff54_2 rfl ?_
              first | refine X_load rfl rfl rfl (by repeat first | exact List.Mem.head _ | refine List.Mem.tail _ ?_ | refine List.mem_append_right _ ?_) F.lay47 rfl rfl rfl ?_ | refine X_load_el rfl rfl rfl (by first | assumption | exact SlM.mono (by assumption) (by assumption)) (by first | exact row_map (by omega) | exact List.getElem?_eq_getElem (by omega)) F.lay47 rfl rfl rfl ?_ | refine X_load_rd rfl rfl rfl (by assumption) (by first | exact row_map (by omega) | exact List.getElem?_eq_getElem (by omega)) F.lay47 rfl rfl rfl ?_ | refine X_load_mem rfl rfl rfl (by first | assumption | exact Mem.get_of (by assumption) (by repeat first | assumption | refine Mem.le.trans (by assumption) ?_)) F.lay47 rfl rfl rfl ?_ | refine X_load_osl rfl rfl rfl (by assumption) (by repeat first | exact Rem.here _ | exact Rem.two | apply Rem.skip | apply Rem.over) (by first | exact row_map (by omega) | exact List.getElem?_eq_getElem (by omega)) F.lay47 rfl rfl rfl ?_
              refine X_move rfl rfl rfl rfl ?_
              refine X_nilCheck rfl rfl rfl rfl ?_
              first | refine X_fieldAddr rfl rfl rfl F.foff54_1 rfl ?_ | refine X_fieldAddr_el rfl rfl rfl (by first | exact ⟨_, _, rfl⟩ | assumption | exact SlM.plain (by assumption) (by simp; omega) | exact RdS.plain (by assumption) (by simp; omega) | exact OSl.plain (by assumption) (by simp; omega)) F.foff54_1 rfl ?_
              first | refine X_load rfl rfl rfl (by repeat first | exact List.Mem.head _ | refine List.Mem.tail _ ?_ | refine List.mem_append_right _ ?_) F.lay3 rfl rfl rfl ?_ | refine X_load_el rfl rfl rfl (by first | assumption | exact SlM.mono (by assumption) (by assumption)) (by first | exact row_map (by omega) | exact List.getElem?_eq_getElem (by omega)) F.lay3 rfl rfl rfl ?_ | refine X_load_rd rfl rfl rfl (by assumption) (by first | exact row_map (by omega) | exact List.getElem?_eq_getElem (by omega)) F.lay3 rfl rfl rfl ?_ | refine X_load_mem rfl rfl rfl (by first | assumption | exact Mem.get_of (by assumption) (by repeat first | assumption | refine Mem.le.trans (by assumption) ?_)) F.lay3 rfl rfl rfl ?_ | refine X_load_osl rfl rfl rfl (by assumption) (by repeat first | exact Rem.here _ | exact Rem.two | apply Rem.skip | apply Rem.over) (by first | exact row_map (by omega) | exact List.getElem?_eq_getElem (by omega)) F.lay3 rfl rfl rfl ?_
              refine X_buildSliceF rfl rfl F.elem47 F.zero3 rfl rfl (.cons rfl (by constructor) .nil) rfl rfl (by simp only [List.map_cons, List.map_nil] <;> rfl) rfl ?_; intro b7 hob8
              refine X_append (m := 1000000) rfl rfl rfl rfl rfl F.elem47 F.zero3 rfl rfl (by first | assumption | exact OSl.nil) (by repeat first | exact Rem.here _ | exact Rem.two | apply Rem.skip | apply Rem.over) (Src.own hob8.lens (by first | exact Mail.flat1 _ | (simp [rowsCells, Segs.cells, Seg.cells, Value.oneCell']; done)) rfl (by repeat first | exact List.Mem.head _ | refine List.Mem.tail _ ?_ | refine List.mem_append_right _ ?_)) (by first | omega | (simp; omega)) (by decide) rfl ?_; intro v11 hs10 ho9; obtain ⟨adv11, cpv11, rfl⟩ := ho9.val
              refine X_nilCheck rfl rfl rfl rfl ?_
              first | refine X_fieldAddr rfl rfl rfl F.foff54_2 rfl ?_ | refine X_fieldAddr_el rfl rfl rfl (by first | exact ⟨_, _, rfl⟩ | assumption | exact SlM.plain (by assumption) (by simp; omega) | exact RdS.plain (by assumption) (by simp; omega) | exact OSl.plain (by assumption) (by simp; omega)) F.foff54_2 rfl ?_
              refine X_store rfl rfl rfl rfl (by constructor) (by first | exact Mail.flat _ | (simp [flat, cat, Segs.cells, Seg.cells, Value.oneCell']; done)) (by repeat first | exact Upd.head | apply Upd.tail | apply Upd.over) F.lay47 rfl rfl ?_
              refine XD_end ?_
              refine K_then ?_
              refine C_pick (.cons (k := 4) rfl (.cons (k := 0) rfl .nil)) ?_
              refine C_seq ?_
              refine C_region (l := [0, 1, 2, 3, 4, 5, 6, 7]) rfl ?_
              refine X_move rfl rfl rfl rfl ?_
              refine X_nilCheck rfl rfl rfl rfl ?_
              first | refine X_fieldAddr rfl rfl rfl F.foff54_1 rfl ?_ | refine X_fieldAddr_el rfl rfl rfl (by first | exact ⟨_, _, rfl⟩ | assumption | exact SlM.plain (by assumption) (by simp; omega) | exact RdS.plain (by assumption) (by simp; omega) | exact OSl.plain (by assumption) (by simp; omega)) F.foff54_1 rfl ?_
              first | refine X_load rfl rfl rfl (by repeat first | exact List.Mem.head _ | refine List.Mem.tail _ ?_ | refine List.mem_append_right _ ?_) F.lay3 rfl rfl rfl ?_ | refine X_load_el rfl rfl rfl (by first | assumption | exact SlM.mono (by assumption) (by assumption)) (by first | exact row_map (by omega) | exact List.getElem?_eq_getElem (by omega)) F.lay3 rfl rfl rfl ?_ | refine X_load_rd rfl rfl rfl (by assumption) (by first | exact row_map (by omega) | exact List.getElem?_eq_getElem (by omega)) F.lay3 rfl rfl rfl ?_ | refine X_load_mem rfl rfl rfl (by first | assumption | exact Mem.get_of (by assumption) (by repeat first | assumption | refine Mem.le.trans (by assumption) ?_)) F.lay3 rfl rfl rfl ?_ | refine X_load_osl rfl rfl rfl (by assumption) (by repeat first | exact Rem.here _ | exact Rem.two | apply Rem.skip | apply Rem.over) (by first | exact row_map (by omega) | exact List.getElem?_eq_getElem (by omega)) F.lay3 rfl rfl rfl ?_
              refine X_ari rfl rfl rfl rfl rfl (by first | exact wrap_in (by decide) (by omega) | rfl) rfl ?_
              refine X_nilCheck rfl rfl rfl rfl ?_
              first | refine X_fieldAddr rfl rfl rfl F.foff54_1 rfl ?_ | refine X_fieldAddr_el rfl rfl rfl (by first | exact ⟨_, _, rfl⟩ | assumption | exact SlM.plain (by assumption) (by simp; omega) | exact RdS.plain (by assumption) (by simp; omega) | exact OSl.plain (by assumption) (by simp; omega)) F.foff54_1 rfl ?_
              refine X_store rfl rfl rfl rfl (by constructor) (by first | exact Mail.flat _ | (simp [flat, cat, Segs.cells, Seg.cells, Value.oneCell']; done)) (by repeat first | exact Upd.head | apply Upd.tail | apply Upd.over) F.lay3 rfl rfl ?_
              refine XD_end ?_
              refine K_then ?_
              refine C_pick (.cons (k := 4) rfl .nil) ?_
              refine C_seq ?_
              refine C_region (l := [0]) rfl ?_
              refine X_assign rfl rfl rfl rfl ?_
              refine XD_end ?_
              refine K_then ?_
              refine C_ret ?_
              refine K_end (.inr rfl) (.tmp rfl .nil) (fun w hw => ?_)
              first
              | (have hp := put_lim m most l (by omega); exact ⟨_, M, ((b, _) :: (mb, _) :: hs), rfl, Mem.le.refl M, hw.cnt (by intro zz; first | exact Nat.le_refl _ | (simp only [cnt_app, cnt_cons, cnt_nil, cat, List.append_eq, List.append_assoc, List.cons_append, List.nil_append, List.append_nil]; omega)), rfl, by rw [hp.1]; rfl, next, mb, _, o, hs, ids, im, rfl, ho, hm, by rw [hp.2]; exact hin, hn0, by omega, by rw [hp.2]; exact hl1, hl2⟩)
              | (have hp := put_full m most l (by omega) (by omega); exact ⟨_, M, ((b, _) :: (mb, _) :: hs), rfl, Mem.le.refl M, hw.cnt (by intro zz; first | exact Nat.le_refl _ | (simp only [cnt_app, cnt_cons, cnt_nil, cat, List.append_eq, List.append_assoc, List.cons_append, List.nil_append, List.append_nil]; omega)), rfl, by rw [hp.1]; rfl, next, mb, _, o, hs, ids, im, rfl, ho, hm, by rw [hp.2]; exact hin, hn0, by omega, by rw [hp.2]; exact hl1, hl2⟩)
              | skip
                have hp := put_ok m most l (by omega) (by omega)
                have e : (ids ++ [next]).map oneI = ids.map oneI ++ [[.one (.int .i64 next)]] := by simp [oneI]
                refine ⟨_, M, ((b, _) :: (mb, o5) :: hs10), rfl, Mem.le.refl M, ?_, rfl, by rw [hp.1]; rfl, next + 1, mb, _, _, _, ids ++ [next], imPut im next m.val, rfl, by rw [e]; exact ho9, him6, by rw [hp.2]; exact hin.put m, by omega, by omega, by rw [hp.2]; simp; omega, hl2⟩
                exact hw.cnt (by intro zz; first | exact Nat.le_refl _ | (simp only [cnt_app, cnt_cons, cnt_nil, cat, List.append_eq, List.append_assoc, List.cons_append, List.nil_append, List.append_nil]; omega))

theorem Put_nil (M : Mem) (m : Mail) : Fs Try.prog 8 [.pointer none, m.val] M (fun v => v = .int .i64 6) := by
  refine fs_enter Try.func8 rfl Try.ntmps8 rfl ?_; intro H
  refine C_seq ?_
  refine C_region (l := [0, 1]) rfl ?_
  refine X_box rfl rfl rfl (by constructor) rfl ?_; intro b1
  refine X_assign rfl rfl rfl rfl ?_
  refine XD_end ?_
  refine K_then ?_
  refine C_pick (.cons (k := 4) rfl (.cons (k := 3) rfl (.cons (k := 0) rfl .nil))) ?_
  refine C_seq ?_
  refine C_block ?_
  refine C_seq ?_
  refine C_region (l := [0, 1, 2]) rfl ?_
  refine X_move rfl rfl rfl rfl ?_
  refine X_nil rfl rfl rfl rfl Try.underlying23 rfl rfl ?_
  refine X_assign rfl rfl rfl rfl ?_
  refine XD_end ?_
  refine K_then ?_
  refine C_pick (.cons (k := 5) rfl (.cons (k := 4) rfl (.cons (k := 3) rfl (.cons (k := 0) rfl .nil)))) ?_
  refine C_cond rfl (fun hc2 => ?_) (fun hc2 => ?_)
  · first | replace hc2 := dT hc2 | replace hc2 := dF hc2 | replace hc2 := nT hc2 | replace hc2 := nF hc2 | skip
    first
    | (exfalso; omega)
    | (exfalso; simp [eqX] at hc2; done)
    | skip
      refine C_seq ?_
      refine C_region (l := [0]) rfl ?_
      refine X_assign rfl rfl rfl rfl ?_
      refine XD_end ?_
      refine K_then ?_
      refine C_pick (.cons (k := 4) rfl (.cons (k := 3) rfl (.cons (k := 0) rfl .nil))) ?_
      refine C_ret ?_
      refine K_retB ?_
      refine K_ret ?_
      refine K_end (.inr rfl) (.tmp rfl .nil) (fun w hw => ?_)
      exact ⟨_, rfl, hw.suf (by repeat first | exact Suf.refl _ | refine Suf.skip ?_), rfl⟩
  · first | replace hc2 := dT hc2 | replace hc2 := dF hc2 | replace hc2 := nT hc2 | replace hc2 := nF hc2 | skip
    first
    | (exfalso; omega)
    | (exfalso; simp [eqX] at hc2; done)
    | skip
      refine C_seq ?_
      refine C_region (l := [0, 1, 2, 3, 4]) rfl ?_
      first | refine X_fieldAddr rfl rfl rfl F.foff28_2 rfl ?_ | refine X_fieldAddr_el rfl rfl rfl (by first | exact ⟨_, _, rfl⟩ | assumption | exact SlM.plain (by assumption) (by simp; omega) | exact RdS.plain (by assumption) (by simp; omega) | exact OSl.plain (by assumption) (by simp; omega)) F.foff28_2 rfl ?_
      first | refine X_load rfl rfl rfl (by repeat first | exact List.Mem.head _ | refine List.Mem.tail _ ?_ | refine List.mem_append_right _ ?_) F.lay9 rfl rfl rfl ?_ | refine X_load_el rfl rfl rfl (by first | assumption | exact SlM.mono (by assumption) (by assumption)) (by first | exact row_map (by omega) | exact List.getElem?_eq_getElem (by omega)) F.lay9 rfl rfl rfl ?_ | refine X_load_rd rfl rfl rfl (by assumption) (by first | exact row_map (by omega) | exact List.getElem?_eq_getElem (by omega)) F.lay9 rfl rfl rfl ?_ | refine X_load_mem rfl rfl rfl (by first | assumption | exact Mem.get_of (by assumption) (by repeat first | assumption | refine Mem.le.trans (by assumption) ?_)) F.lay9 rfl rfl rfl ?_ | refine X_load_osl rfl rfl rfl (by assumption) (by repeat first | exact Rem.here _ | exact Rem.two | apply Rem.skip | apply Rem.over) (by first | exact row_map (by omega) | exact List.getElem?_eq_getElem (by omega)) F.lay9 rfl rfl rfl ?_
      refine X_len_str rfl rfl rfl rfl Try.underlying9 rfl ?_
      refine X_cmp rfl rfl rfl rfl rfl rfl ?_
      refine X_assign rfl rfl rfl rfl ?_
      refine XD_end ?_
      refine K_then ?_
      refine C_pick (.cons (k := 8) rfl (.cons (k := 4) rfl (.cons (k := 3) rfl (.cons (k := 0) rfl .nil)))) ?_
      refine C_cond rfl (fun hc3 => ?_) (fun hc3 => ?_)
      · first | replace hc3 := dT hc3 | replace hc3 := dF hc3 | replace hc3 := nT hc3 | replace hc3 := nF hc3 | skip
        first
        | (exfalso; omega)
        | (exfalso; simp [eqX] at hc3; done)
        | skip
          refine C_seq ?_
          refine C_region (l := [0]) rfl ?_
          refine X_assign rfl rfl rfl rfl ?_
          refine XD_end ?_
          refine K_then ?_
          refine C_pick (.cons (k := 4) rfl (.cons (k := 3) rfl (.cons (k := 0) rfl .nil))) ?_
          refine C_ret ?_
          refine K_retB ?_
          refine K_ret ?_
          refine K_end (.inr rfl) (.tmp rfl .nil) (fun w hw => ?_)
          exact ⟨_, rfl, hw.suf (by repeat first | exact Suf.refl _ | refine Suf.skip ?_), rfl⟩
      · first | replace hc3 := dT hc3 | replace hc3 := dF hc3 | replace hc3 := nT hc3 | replace hc3 := nF hc3 | skip
        first
        | (exfalso; omega)
        | (exfalso; simp [eqX] at hc3; done)
        | skip
          refine C_seq ?_
          refine C_region_any (l := [0, 1, 2, 3, 4, 5, 6, 7, 8, 9, 10]) #[0, 1, 3, 7, 15, 0, 32, 96, 224, 511, 1023] _ rfl (by kernel_rfl) (by kernel_rfl) St.drawn (fun _ h => h) ?_
          refine X_move rfl rfl rfl rfl ?_
          refine X_nilCheck rfl rfl rfl rfl ?_
          first | refine X_fieldAddr rfl rfl rfl F.foff54_2 rfl ?_ | refine X_fieldAddr_el rfl rfl rfl (by first | exact ⟨_, _, rfl⟩ | assumption | exact SlM.plain (by assumption) (by simp; omega) | exact RdS.plain (by assumption) (by simp; omega) | exact OSl.plain (by assumption) (by simp; omega)) F.foff54_2 rfl ?_
          first | refine X_load rfl rfl rfl (by repeat first | exact List.Mem.head _ | refine List.Mem.tail _ ?_ | refine List.mem_append_right _ ?_) F.lay47 rfl rfl rfl ?_ | refine X_load_el rfl rfl rfl (by first | assumption | exact SlM.mono (by assumption) (by assumption)) (by first | exact row_map (by omega) | exact List.getElem?_eq_getElem (by omega)) F.lay47 rfl rfl rfl ?_ | refine X_load_rd rfl rfl rfl (by assumption) (by first | exact row_map (by omega) | exact List.getElem?_eq_getElem (by omega)) F.lay47 rfl rfl rfl ?_ | refine X_load_mem rfl rfl rfl (by first | assumption | exact Mem.get_of (by assumption) (by repeat first | assumption | refine Mem.le.trans (by assumption) ?_)) F.lay47 rfl rfl rfl ?_ | refine X_load_osl rfl rfl rfl (by assumption) (by repeat first | exact Rem.here _ | exact Rem.two | apply Rem.skip | apply Rem.over) (by first | exact row_map (by omega) | exact List.getElem?_eq_getElem (by omega)) F.lay47 rfl rfl rfl ?_
          refine X_len_sl rfl rfl rfl rfl F.elem47 rfl ?_
          refine X_move rfl rfl rfl rfl ?_
          refine X_nilCheck rfl rfl rfl rfl ?_
          first | refine X_fieldAddr rfl rfl rfl F.foff54_0 rfl ?_ | refine X_fieldAddr_el rfl rfl rfl (by first | exact ⟨_, _, rfl⟩ | assumption | exact SlM.plain (by assumption) (by simp; omega) | exact RdS.plain (by assumption) (by simp; omega) | exact OSl.plain (by assumption) (by simp; omega)) F.foff54_0 rfl ?_
          first | refine X_load rfl rfl rfl (by repeat first | exact List.Mem.head _ | refine List.Mem.tail _ ?_ | refine List.mem_append_right _ ?_) F.lay3 rfl rfl rfl ?_ | refine X_load_el rfl rfl rfl (by first | assumption | exact SlM.mono (by assumption) (by assumption)) (by first | exact row_map (by omega) | exact List.getElem?_eq_getElem (by omega)) F.lay3 rfl rfl rfl ?_ | refine X_load_rd rfl rfl rfl (by assumption) (by first | exact row_map (by omega) | exact List.getElem?_eq_getElem (by omega)) F.lay3 rfl rfl rfl ?_ | refine X_load_mem rfl rfl rfl (by first | assumption | exact Mem.get_of (by assumption) (by repeat first | assumption | refine Mem.le.trans (by assumption) ?_)) F.lay3 rfl rfl rfl ?_ | refine X_load_osl rfl rfl rfl (by assumption) (by repeat first | exact Rem.here _ | exact Rem.two | apply Rem.skip | apply Rem.over) (by first | exact row_map (by omega) | exact List.getElem?_eq_getElem (by omega)) F.lay3 rfl rfl rfl ?_
          refine X_cmp rfl rfl rfl rfl rfl rfl ?_
          refine X_assign rfl rfl rfl rfl ?_
          refine XD_end ?_
          refine K_then ?_
          refine C_pick (.cons (k := 13) rfl (.cons (k := 4) rfl (.cons (k := 3) rfl (.cons (k := 0) rfl .nil)))) ?_
          refine C_cond rfl (fun hc4 => ?_) (fun hc4 => ?_)
          · first | replace hc4 := dT hc4 | replace hc4 := dF hc4 | replace hc4 := nT hc4 | replace hc4 := nF hc4 | skip
            first
            | (exfalso; omega)
            | (exfalso; simp [eqX] at hc4; done)
            | skip
              refine C_seq ?_
              refine C_region (l := [0]) rfl ?_
              refine X_assign rfl rfl rfl rfl ?_
              refine XD_end ?_
              refine K_then ?_
              refine C_pick (.cons (k := 4) rfl (.cons (k := 3) rfl (.cons (k := 0) rfl .nil))) ?_
              refine C_ret ?_
              refine K_retB ?_
              refine K_ret ?_
              refine K_end (.inr rfl) (.tmp rfl .nil) (fun w hw => ?_)
              exact ⟨_, rfl, hw.suf (by repeat first | exact Suf.refl _ | refine Suf.skip ?_), rfl⟩
          · first | replace hc4 := dT hc4 | replace hc4 := dF hc4 | replace hc4 := nT hc4 | replace hc4 := nF hc4 | skip
            first
            | (exfalso; omega)
            | (exfalso; simp [eqX] at hc4; done)
            | skip
              refine C_skip ?_
              refine K_out ?_
              refine K_then ?_
              refine C_pick (.cons (k := 4) rfl (.cons (k := 3) rfl (.cons (k := 0) rfl .nil))) ?_
              refine C_seq ?_
              refine C_region_any (l := [0, 1, 2, 3, 4, 5, 6, 7, 8, 9]) #[0, 1, 3, 7, 0, 16, 48, 112, 0, 511] _ rfl (by kernel_rfl) (by kernel_rfl) St.drawn (fun _ h => h) ?_
              refine X_move rfl rfl rfl rfl ?_
              refine X_nilCheck rfl rfl rfl rfl ?_
              first | refine X_fieldAddr rfl rfl rfl F.foff54_3 rfl ?_ | refine X_fieldAddr_el rfl rfl rfl (by first | exact ⟨_, _, rfl⟩ | assumption | exact SlM.plain (by assumption) (by simp; omega) | exact RdS.plain (by assumption) (by simp; omega) | exact OSl.plain (by assumption) (by simp; omega)) F.foff54_3 rfl ?_
              first | refine X_load rfl rfl rfl (by repeat first | exact List.Mem.head _ | refine List.Mem.tail _ ?_ | refine List.mem_append_right _ ?_) F.lay52 rfl rfl rfl ?_ | refine X_load_el rfl rfl rfl (by first | assumption | exact SlM.mono (by assumption) (by assumption)) (by first | exact row_map (by omega) | exact List.getElem?_eq_getElem (by omega)) F.lay52 rfl rfl rfl ?_ | refine X_load_rd rfl rfl rfl (by assumption) (by first | exact row_map (by omega) | exact List.getElem?_eq_getElem (by omega)) F.lay52 rfl rfl rfl ?_ | refine X_load_mem rfl rfl rfl (by first | assumption | exact Mem.get_of (by assumption) (by repeat first | assumption | refine Mem.le.trans (by assumption) ?_)) F.lay52 rfl rfl rfl ?_ | refine X_load_osl rfl rfl rfl (by assumption) (by repeat first | exact Rem.here _ | exact Rem.two | apply Rem.skip | apply Rem.over) (by first | exact row_map (by omega) | exact List.getElem?_eq_getElem (by omega)) F.lay52 rfl rfl rfl ?_
              refine X_move rfl rfl rfl rfl ?_
              refine X_nilCheck rfl rfl rfl rfl ?_
              first | refine X_fieldAddr rfl rfl rfl F.foff54_1 rfl ?_ | refine X_fieldAddr_el rfl rfl rfl (by first | exact ⟨_, _, rfl⟩ | assumption | exact SlM.plain (by assumption) (by simp; omega) | exact RdS.plain (by assumption) (by simp; omega) | exact OSl.plain (by assumption) (by simp; omega)) F.foff54_1 rfl ?_
              first | refine X_load rfl rfl rfl (by repeat first | exact List.Mem.head _ | refine List.Mem.tail _ ?_ | refine List.mem_append_right _ ?_) F.lay3 rfl rfl rfl ?_ | refine X_load_el rfl rfl rfl (by first | assumption | exact SlM.mono (by assumption) (by assumption)) (by first | exact row_map (by omega) | exact List.getElem?_eq_getElem (by omega)) F.lay3 rfl rfl rfl ?_ | refine X_load_rd rfl rfl rfl (by assumption) (by first | exact row_map (by omega) | exact List.getElem?_eq_getElem (by omega)) F.lay3 rfl rfl rfl ?_ | refine X_load_mem rfl rfl rfl (by first | assumption | exact Mem.get_of (by assumption) (by repeat first | assumption | refine Mem.le.trans (by assumption) ?_)) F.lay3 rfl rfl rfl ?_ | refine X_load_osl rfl rfl rfl (by assumption) (by repeat first | exact Rem.here _ | exact Rem.two | apply Rem.skip | apply Rem.over) (by first | exact row_map (by omega) | exact List.getElem?_eq_getElem (by omega)) F.lay3 rfl rfl rfl ?_
              first | refine X_load rfl rfl rfl (by repeat first | exact List.Mem.head _ | refine List.Mem.tail _ ?_ | refine List.mem_append_right _ ?_) F.lay28 rfl rfl rfl ?_ | refine X_load_el rfl rfl rfl (by first | assumption | exact SlM.mono (by assumption) (by assumption)) (by first | exact row_map (by omega) | exact List.getElem?_eq_getElem (by omega)) F.lay28 rfl rfl rfl ?_ | refine X_load_rd rfl rfl rfl (by assumption) (by first | exact row_map (by omega) | exact List.getElem?_eq_getElem (by omega)) F.lay28 rfl rfl rfl ?_ | refine X_load_mem rfl rfl rfl (by first | assumption | exact Mem.get_of (by assumption) (by repeat first | assumption | refine Mem.le.trans (by assumption) ?_)) F.lay28 rfl rfl rfl ?_ | refine X_load_osl rfl rfl rfl (by assumption) (by repeat first | exact Rem.here _ | exact Rem.two | apply Rem.skip | apply Rem.over) (by first | exact row_map (by omega) | exact List.getElem?_eq_getElem (by omega)) F.lay28 rfl rfl rfl ?_
              refine X_mapUpdateF rfl rfl rfl rfl rfl F.map52 (by assumption) (by repeat first | exact List.Mem.head _ | refine List.Mem.tail _ ?_ | refine List.mem_append_right _ ?_) ?_; intro o5 him6; refine ⟨_, (by repeat first | exact Upd.head | apply Upd.tail | apply Upd.over), ?_⟩
              refine XD_end ?_
              refine K_then ?_
              refine C_pick (.cons (k := 4) rfl (.cons (k := 0) rfl .nil)) ?_
              refine C_seq ?_
              refine C_region_any (l := [0, 1, 2, 3, 4, 5, 6, 7, 8, 9, 10, 11, 12, 13]) #[0, 0, 2, 6, 14, 0, 32, 96, 224, 480, 1022, 2047, 4095, 8191] _ rfl (by kernel_rfl) (by kernel_rfl) St.drawn (fun _ h => h) ?_
              refine X_move rfl rfl rfl rfl ?_
              refine X_move rfl rfl rfl rfl ?_
              refine X_nilCheck rfl rfl rfl rfl ?_
              first | refine X_fieldAddr rfl rfl rfl F.foff54_2 rfl ?_ | refine X_fieldAddr_el rfl rfl rfl (by first | exact ⟨_, _, rfl⟩ | assumption | exact SlM.plain (by assumption) (by simp; omega) | exact RdS.plain (by assumption) (by simp; omega) | exact OSl.plain (by assumption) (by simp; omega)) F.foff54_2 rfl ?_
              first | refine X_load rfl rfl rfl (by repeat first | exact List.Mem.head _ | refine List.Mem.tail _ ?_ | refine List.mem_append_right _ ?_) F.lay47 rfl rfl rfl ?_ | refine X_load_el rfl rfl rfl (by first | assumption | exact SlM.mono (by assumption) (by assumption)) (by first | exact row_map (by omega) | exact List.getElem?_eq_getElem (by omega)) F.lay47 rfl rfl rfl ?_ | refine X_load_rd rfl rfl rfl (by assumption) (by first | exact row_map (by omega) | exact List.getElem?_eq_getElem (by omega)) F.lay47 rfl rfl rfl ?_ | refine X_load_mem rfl rfl rfl (by first | assumption | exact Mem.get_of (by assumption) (by repeat first | assumption | refine Mem.le.trans (by assumption) ?_)) F.lay47 rfl rfl rfl ?_ | refine X_load_osl rfl rfl rfl (by assumption) (by repeat first | exact Rem.here _ | exact Rem.two | apply Rem.skip | apply Rem.over) (by first | exact row_map (by omega) | exact List.getElem?_eq_getElem (by omega)) F.lay47 rfl rfl rfl ?_
              refine X_move rfl rfl rfl rfl ?_
              refine X_nilCheck rfl rfl rfl rfl ?_
              first | refine X_fieldAddr rfl rfl rfl F.foff54_1 rfl ?_ | refine X_fieldAddr_el rfl rfl rfl (by first | exact ⟨_, _, rfl⟩ | assumption | exact SlM.plain (by assumption) (by simp; omega) | exact RdS.plain (by assumption) (by simp; omega) | exact OSl.plain (by assumption) (by simp; omega)) F.foff54_1 rfl ?_
              first | refine X_load rfl rfl rfl (by repeat first | exact List.Mem.head _ | refine List.Mem.tail _ ?_ | refine List.mem_append_right _ ?_) F.lay3 rfl rfl rfl ?_ | refine X_load_el rfl rfl rfl (by first | assumption | exact SlM.mono (by assumption) (by assumption)) (by first | exact row_map (by omega) | exact List.getElem?_eq_getElem (by omega)) F.lay3 rfl rfl rfl ?_ | refine X_load_rd rfl rfl rfl (by assumption) (by first | exact row_map (by omega) | exact List.getElem?_eq_getElem (by omega)) F.lay3 rfl rfl rfl ?_ | refine X_load_mem rfl rfl rfl (by first | assumption | exact Mem.get_of (by assumption) (by repeat first | assumption | refine Mem.le.trans (by assumption) ?_)) F.lay3 rfl rfl rfl ?_ | refine X_load_osl rfl rfl rfl (by assumption) (by repeat first | exact Rem.here _ | exact Rem.two | apply Rem.skip | apply Rem.over) (by first | exact row_map (by omega) | exact List.getElem?_eq_getElem (by omega)) F.lay3 rfl rfl rfl ?_
              refine X_buildSliceF rfl rfl F.elem47 F.zero3 rfl rfl (.cons rfl (by constructor) .nil) rfl rfl (by simp only [List.map_cons, List.map_nil] <;> rfl) rfl ?_; intro b7 hob8
              refine X_append (m := 1000000) rfl rfl rfl rfl rfl F.elem47 F.zero3 rfl rfl (by first | assumption | exact OSl.nil) (by repeat first | exact Rem.here _ | exact Rem.two | apply Rem.skip | apply Rem.over) (Src.own hob8.lens (by first | exact Mail.flat1 _ | (simp [rowsCells, Segs.cells, Seg.cells, Value.oneCell']; done)) rfl (by repeat first | exact List.Mem.head _ | refine List.Mem.tail _ ?_ | refine List.mem_append_right _ ?_)) (by first | omega | (simp; omega)) (by decide) rfl ?_; intro v11 hs10 ho9; obtain ⟨adv11, cpv11, rfl⟩ := ho9.val
              refine X_nilCheck rfl rfl rfl rfl ?_
              first | refine X_fieldAddr rfl rfl rfl F.foff54_2 rfl ?_ | refine X_fieldAddr_el rfl rfl rfl (by first | exact ⟨_, _, rfl⟩ | assumption | exact SlM.plain (by assumption) (by simp; omega) | exact RdS.plain (by assumption) (by simp; omega) | exact OSl.plain (by assumption) (by simp; omega)) F.foff54_2 rfl ?_
              refine X_store rfl rfl rfl rfl (by constructor) (by first | exact Mail.flat _ | (simp [flat, cat, Segs.cells, Seg.cells, Value.oneCell']; done)) (by repeat first | exact Upd.head | apply Upd.tail | apply Upd.over) F.lay47 rfl rfl ?_
              refine XD_end ?_
              refine K_then ?_
              refine C_pick (.cons (k := 4) rfl (.cons (k := 0) rfl .nil)) ?_
              refine C_seq ?_
              refine C_region (l := [0, 1, 2, 3, 4, 5, 6, 7]) rfl ?_
              refine X_move rfl rfl rfl rfl ?_
              refine X_nilCheck rfl rfl rfl rfl ?_
              first | refine X_fieldAddr rfl rfl rfl F.foff54_1 rfl ?_ | refine X_fieldAddr_el rfl rfl rfl (by first | exact ⟨_, _, rfl⟩ | assumption | exact SlM.plain (by assumption) (by simp; omega) | exact RdS.plain (by assumption) (by simp; omega) | exact OSl.plain (by assumption) (by simp; omega)) F.foff54_1 rfl ?_
              first | refine X_load rfl rfl rfl (by repeat first | exact List.Mem.head _ | refine List.Mem.tail _ ?_ | refine List.mem_append_right _ ?_) F.lay3 rfl rfl rfl ?_ | refine X_load_el rfl rfl rfl (by first | assumption | exact SlM.mono (by assumption) (by assumption)) (by first | exact row_map (by omega) | exact List.getElem?_eq_getElem (by omega)) F.lay3 rfl rfl rfl ?_ | refine X_load_rd rfl rfl rfl (by assumption) (by first | exact row_map (by omega) | exact List.getElem?_eq_getElem (by omega)) F.lay3 rfl rfl rfl ?_ | refine X_load_mem rfl rfl rfl (by first | assumption | exact Mem.get_of (by assumption) (by repeat first | assumption | refine Mem.le.trans (by assumption) ?_)) F.lay3 rfl rfl rfl ?_ | refine X_load_osl rfl rfl rfl (by assumption) (by repeat first | exact Rem.here _ | exact Rem.two | apply Rem.skip | apply Rem.over) (by first | exact row_map (by omega) | exact List.getElem?_eq_getElem (by omega)) F.lay3 rfl rfl rfl ?_
              refine X_ari rfl rfl rfl rfl rfl (by first | exact wrap_in (by decide) (by omega) | rfl) rfl ?_
              refine X_nilCheck rfl rfl rfl rfl ?_
              first | refine X_fieldAddr rfl rfl rfl F.foff54_1 rfl ?_ | refine X_fieldAddr_el rfl rfl rfl (by first | exact ⟨_, _, rfl⟩ | assumption | exact SlM.plain (by assumption) (by simp; omega) | exact RdS.plain (by assumption) (by simp; omega) | exact OSl.plain (by assumption) (by simp; omega)) F.foff54_1 rfl ?_
              refine X_store rfl rfl rfl rfl (by constructor) (by first | exact Mail.flat _ | (simp [flat, cat, Segs.cells, Seg.cells, Value.oneCell']; done)) (by repeat first | exact Upd.head | apply Upd.tail | apply Upd.over) F.lay3 rfl rfl ?_
              refine XD_end ?_
              refine K_then ?_
              refine C_pick (.cons (k := 4) rfl .nil) ?_
              refine C_seq ?_
              refine C_region (l := [0]) rfl ?_
              refine X_assign rfl rfl rfl rfl ?_
              refine XD_end ?_
              refine K_then ?_
              refine C_ret ?_
              refine K_end (.inr rfl) (.tmp rfl .nil) (fun w hw => ?_)
              exact ⟨_, rfl, hw.suf (by repeat first | exact Suf.refl _ | refine Suf.skip ?_), rfl⟩

end Go.Proofs.Ytenamdnnmdilgaa
