/-
  What the client's laws say, of the models alone.
-/
import Derived.Test.YtelpkhhfjfbkcaaDoorClientN
set_option linter.unusedSimpArgs false
set_option linter.unusedVariables false
set_option linter.unnecessarySimpa false
namespace Go.Esp

theorem w64_ne (x : Int) : w64 (x + 1) ≠ x := by unfold w64; omega

theorem takeR_cases (c : ClientV) (p : ParcelV) : takeR c p = (ClientV.zero, OutcomeV.zero, 1) ∨ takeR c p = (c, OutcomeV.zero, 0) ∨ (IsClient c ∧ IsParcel p ∧ c.busy = true ∧ p.kind = 2 ∧ p.op.client = c.num ∧ p.op.req = c.req ∧ p.answer.code ≠ 7 ∧ takeR c p = ({ c with busy := false }, ⟨true, p.answer⟩, 0)) := by
  unfold takeR endR
  by_cases h1 : ¬ IsClient c ∨ ¬ IsParcel p
  · exact .inl (if_pos h1)
  · rw [if_neg h1]
    by_cases h2 : c.busy = false ∨ p.kind ≠ 2 ∨ ¬ (p.op.client = c.num ∧ p.op.req = c.req) ∨ p.answer.code = 7
    · exact .inr (.inl (if_pos h2))
    · rw [if_neg h2]
      simp only [not_or, Classical.not_not, Bool.not_eq_false, ne_eq] at h1 h2
      exact .inr (.inr ⟨h1.1, h1.2, h2.1, h2.2.1, h2.2.2.1.1, h2.2.2.1.2, h2.2.2.2, rfl⟩)

theorem isClient_idle {c : ClientV} (h : IsClient c) : IsClient { c with busy := false } := ⟨h.1, h.2.1, .inl rfl⟩

theorem takeR_idle {c : ClientV} {p : ParcelV} (h : IsClient c) (hp : IsParcel p) (hb : c.busy = false) : takeR c p = (c, OutcomeV.zero, 0) := by
  unfold takeR
  rw [if_neg (by simp [h, hp]), if_pos (.inl hb)]

theorem takeR_other {c : ClientV} {p : ParcelV} (h : IsClient c) (hp : IsParcel p) (hb : p.op.req ≠ c.req) : takeR c p = (c, OutcomeV.zero, 0) := by
  unfold takeR
  rw [if_neg (by simp [h, hp]), if_pos (.inr (.inr (.inl (fun h => hb h.2))))]

theorem tickR_idle {c : ClientV} {b : Int} (h : IsClient c) (h0 : 0 ≤ b) (h1 : b ≤ 1000) (hb : c.busy = false) : tickR c b = (c, OutcomeV.zero, 0) := by
  unfold tickR
  rw [if_neg (by simp [h]; omega), if_pos hb]

/-- An idle client begins to read. -/
theorem startC_get {c : ClientV} (h : IsClient c) (hb : c.busy = false) (key : Plc) : startC c key 1 0 ⟨#[]⟩ = (⟨c.num, w64 (c.req + 1), true, key, opOf c 1 0 ⟨#[]⟩, 0⟩, 0) ∧ IsClient ⟨c.num, w64 (c.req + 1), true, key, opOf c 1 0 ⟨#[]⟩, 0⟩ := by
  have ho : IsOp (opOf c 1 0 ⟨#[]⟩) := ⟨h.1, .inl ⟨rfl, rfl, rfl⟩⟩
  refine ⟨?_, h.1, ⟨Int.le_refl 0, by show (0 : Int) ≤ 1000; decide⟩, .inr ⟨ho, rfl, rfl⟩⟩
  unfold startC
  rw [if_neg (by simp [h]), if_neg (by simp [hb]), if_neg (by simp [ho])]
theorem endsC_is {num : Int} (h : 0 ≤ num ∧ num ≤ 63) (key : Plc) {t : Int} (h0 : 0 ≤ t) (h1 : t ≤ 1000) : IsClient ⟨num, 1, true, key, ⟨num, 1, 1, 0, ⟨#[]⟩⟩, t⟩ :=
  ⟨h, ⟨h0, h1⟩, .inr ⟨⟨h, .inl ⟨rfl, rfl, rfl⟩⟩, rfl, rfl⟩⟩
theorem endsC_new {num : Int} (h : 0 ≤ num ∧ num ≤ 63) : newC num = (⟨num, 0, false, 0, ⟨0, 0, 0, 0, ⟨#[]⟩⟩, 0⟩, 0) := by
  unfold newC; rw [if_pos h]; rfl
theorem endsC_not {num : Int} (h : ¬ (0 ≤ num ∧ num ≤ 63)) : newC num = (ClientV.zero, 1) := by
  unfold newC; rw [if_neg h]
theorem endsC_start {num : Int} (h : 0 ≤ num ∧ num ≤ 63) (key : Plc) : startC ⟨num, 0, false, 0, ⟨0, 0, 0, 0, ⟨#[]⟩⟩, 0⟩ key 1 0 ⟨#[]⟩ = (⟨num, 1, true, key, ⟨num, 1, 1, 0, ⟨#[]⟩⟩, 0⟩, 0) :=
  (startC_get (c := ⟨num, 0, false, 0, ⟨0, 0, 0, 0, ⟨#[]⟩⟩, 0⟩) ⟨h, ⟨Int.le_refl 0, by show (0 : Int) ≤ 1000; decide⟩, .inl rfl⟩ rfl key).1
theorem endsC_tick {num : Int} (h : 0 ≤ num ∧ num ≤ 63) (key : Plc) {k : Nat} {b : Int} (h1 : (k : Int) < b) (h2 : b ≤ 200) :
    tickR ⟨num, 1, true, key, ⟨num, 1, 1, 0, ⟨#[]⟩⟩, (k : Int)⟩ b = (⟨num, 1, true, key, ⟨num, 1, 1, 0, ⟨#[]⟩⟩, ((k + 1 : Nat) : Int)⟩, OutcomeV.zero, 0) := by
  have hc := endsC_is h key (t := (k : Int)) (by omega) (by omega)
  unfold tickR
  rw [if_neg (by simp [hc]; omega), if_neg (by simp), if_neg (by simp; omega)]
  simp
theorem endsC_last {num : Int} (h : 0 ≤ num ∧ num ≤ 63) (key : Plc) {k : Nat} {b : Int} (h1 : (k : Int) = b) (h2 : b ≤ 200) :
    tickR ⟨num, 1, true, key, ⟨num, 1, 1, 0, ⟨#[]⟩⟩, (k : Int)⟩ b = (⟨num, 1, false, key, ⟨num, 1, 1, 0, ⟨#[]⟩⟩, (k : Int)⟩, ⟨true, ⟨10, 0, false, ⟨#[]⟩⟩⟩, 0) := by
  have hc := endsC_is h key (t := (k : Int)) (by omega) (by omega)
  unfold tickR endR
  rw [if_neg (by simp [hc]; omega), if_neg (by simp), if_pos (by simp; omega)]
end Go.Esp
