/-
  A bag's arguments, opened: what data of these types are like.
-/
import Derived.Test.YtenamdnnmdilgaaRows
import Derived.Test.YtenamdnnmdilgaaLift
import Derived.Test.YtenamdnnmdilgaaBagM
set_option linter.unusedSimpArgs false
set_option linter.unusedVariables false
set_option linter.unnecessarySimpa false
namespace Go.Proofs.Ytenamdnnmdilgaa
open Go.Esp

theorem Try.own : ownKnob Try.prog.godebug = none := by kernel_rfl
theorem Try.laidOut : laidOutB Try.prog = true := by kernel_rfl

theorem mail_of_ty {M : Mem} {n : Nat} {R : Segs} (h : Ty Try.prog M n 28 R) : ∃ m : Mail, R = m.segs := by
  obtain ⟨k, Rs, rfl, hlen, hf⟩ := ty_struct Try.underlying28 h
  match Rs, hlen with
  | [r0, r1, r2], _ =>
    obtain ⟨z0, rfl, _⟩ := ty_int Try.underlying3 (hf 0 _ r0 rfl rfl)
    obtain ⟨z1, rfl, _⟩ := ty_int Try.underlying3 (hf 1 _ r1 rfl rfl)
    obtain ⟨s, rfl, _⟩ := ty_str Try.underlying9 (hf 2 _ r2 rfl rfl)
    exact ⟨⟨z0, z1, s⟩, rfl⟩

theorem mails_of_ty {M : Mem} {n : Nat} {R : Segs} {v : Value} (hv : Is Try.prog 22 v R) (h : Ty Try.prog M n 22 R) : ∃ ad c, ∃ l : List Mail, v = .slice ad l.length c ∧ SlM M ad (l.map Mail.segs) 3 := by
  have e : Try.prog.cellsOf 28 = 3 := by kernel_rfl
  obtain ⟨ad, rows, c, m, h1, h2, h3, h4⟩ := ty_slice Try.underlying22 (by rw [e]; decide) h
  simp only [Is, Try.underlying22] at hv
  obtain rfl := one_inj (hv.symm.trans h1)
  obtain ⟨l, rfl⟩ := rows_map (fun r hr => mail_of_ty (h4 r hr))
  rw [e] at h2
  exact ⟨ad, c, l, by rw [List.length_map], h2⟩

theorem int_of_ty {M : Mem} {n : Nat} {R : Segs} {v : Value} (hv : Is Try.prog 3 v R) (h : Ty Try.prog M n 3 R) : ∃ z, v = .int .i64 z ∧ (Lit.int .i64 z).wf = true := by
  obtain ⟨z, h1, h2⟩ := ty_int Try.underlying3 h
  simp only [Is, Try.underlying3] at hv
  exact ⟨z, one_inj (hv.symm.trans h1), h2⟩

end Go.Proofs.Ytenamdnnmdilgaa
