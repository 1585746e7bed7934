/-
  BagDoes: for whatever number and whatever script the law returns true, and what it was handed reads as it did. No condition.
-/
import Derived.Test.YtenamdnnmdilgaaOpen
import Derived.Test.YtenamdnnmdilgaaDoes
set_option linter.unusedSimpArgs false
set_option linter.unusedVariables false
set_option linter.unnecessarySimpa false
namespace Go.Proofs.Ytenamdnnmdilgaa
open Go.ChangeShapes Go.WideShapes Go.ChangeAt Go.RowKit
open Go.Esp

theorem step_of_ty {M : Mem} {n : Nat} {R : Segs} (h : Ty Try.prog M n 42 R) : ∃ s : BStep, R = s.segs := by
  obtain ⟨k, Rs, rfl, hlen, hf⟩ := ty_struct Try.underlying42 h
  match Rs, hlen with
  | [r0, r1, r2], _ =>
    obtain ⟨z0, rfl, _⟩ := ty_int Try.underlying3 (hf 0 _ r0 rfl rfl)
    obtain ⟨m, rfl⟩ := mail_of_ty (hf 1 _ r1 rfl rfl)
    obtain ⟨z1, rfl, _⟩ := ty_int Try.underlying3 (hf 2 _ r2 rfl rfl)
    exact ⟨⟨z0, m, z1⟩, rfl⟩

theorem steps_of_ty {M : Mem} {n : Nat} {R : Segs} {v : Value} (hv : Is Try.prog 35 v R) (h : Ty Try.prog M n 35 R) : ∃ ad c, ∃ l : List BStep, v = .slice ad l.length c ∧ SlM M ad (l.map BStep.segs) 5 := by
  have e : Try.prog.cellsOf 42 = 5 := by kernel_rfl
  obtain ⟨ad, rows, c, m, h1, h2, h3, h4⟩ := ty_slice Try.underlying35 (by rw [e]; decide) h
  simp only [Is, Try.underlying35] at hv
  obtain rfl := one_inj (hv.symm.trans h1)
  obtain ⟨l, rfl⟩ := rows_map (fun r hr => step_of_ty (h4 r hr))
  rw [e] at h2
  exact ⟨ad, c, l, by rw [List.length_map], h2⟩
set_option maxRecDepth 100000 in
theorem bagDoes_lifted (os : Os) (started : os.Started) (H : Type) (enc : TypeId × Value → H) :
    ReturnsInHanded {} Try.checked os 4 .any (Rows.bagDoesSpec.pre6 enc Try.prog Try.f4 Rows.bagDoesRow.domain false) (Rows.bagDoesSpec.post enc Try.prog Try.f4 false true false false) := by
  refine returnsInHanded_of_change (C := Try.checked) Try.own started (by kernel_rfl) Try.func4
    (ChangeSpec.witness6 (enc := enc) (C := Try.checked) false ⟨#[], #[.int .i64 0, .slice none 0 0], []⟩ 8 (by kernel_rfl) (by kernel_rfl) (by kernel_rfl) (by kernel_rfl)) ?_
  intro W base args ds gs before hval0 hW hcnd _
  have hval : ∀ (j : Nat) t v, Try.f4.params[j]? = some t → args[j]? = some v → Value.okWide Try.prog W .any base t v := hval0
  have hW' := hW
  obtain ⟨p, q, hA0, hV, rfl, hfz, hnd⟩ := hW
  have hA : DataW.TrodAll enc Try.prog W 0 (fun _ => true) true Try.f4.params.toList args.toList ds p := hA0
  have hargs := args_open Try.laidOut Try.f4.params.toList args.toList ds p hA (fun j t v h1 h2 => hval j t v (by simpa using h1) (by simpa using h2)) (all_args (by kernel_rfl))
  rw [Try.params4] at hA hval hargs
  obtain ⟨v0, v1, d0, d1, p0, p1, rfl, rfl, rfl, h0, h1⟩ := trodAll_two hA
  obtain ⟨rfl, rfl⟩ := trodVars_none hV
  obtain ⟨⟨R0, n0, hp0, ht0⟩, ⟨R1, n1, hp1, ht1⟩, _⟩ := hargs
  obtain ⟨i, rfl, _⟩ := int_of_ty hp0 ht0
  obtain ⟨ad, c, l, rfl, hl⟩ := steps_of_ty hp1 ht1
  exact law_calls Try.laidOut hW' rfl (by kernel_rfl) Try.underlying4 rfl rfl rfl (all_read (by kernel_rfl)) (BagDoes_fn (memOf W) i ad c l hl)

theorem bagDoes_holds : Rows.BagDoesSaid :=
  OpenClaim.holds_of_wide 4 Try.f4 rfl rfl rfl rfl rfl rfl rfl ⟨rfl, rfl, rfl, rfl, rfl⟩ rfl rfl rfl rfl rfl (by kernel_rfl) Try.func4 (by kernel_rfl)
    (of_decide_eq_true (by kernel_rfl)) (by unfold Func.isWrapper; first | (rw [if_pos (by decide +kernel)]; kernel_rfl) | (rw [if_neg (by decide +kernel)]; exact ⟨rfl, rfl⟩))
    (fun os started H enc _ => bagDoes_lifted os started H enc)

end Go.Proofs.Ytenamdnnmdilgaa
