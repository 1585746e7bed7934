/-
  BagLoses: for whatever row of messages, whatever address and whatever number the law returns true, and what it was handed reads as it did. No condition.
-/
import Derived.Test.YtenamdnnmdilgaaOpen
import Derived.Test.YtenamdnnmdilgaaLoses
set_option linter.unusedSimpArgs false
set_option linter.unusedVariables false
set_option linter.unnecessarySimpa false
namespace Go.Proofs.Ytenamdnnmdilgaa
open Go.ChangeShapes Go.WideShapes Go.ChangeAt Go.RowKit
open Go.Esp (args_open all_args all_read law_calls memOf Is)
set_option maxRecDepth 100000 in
theorem bagLoses_lifted (os : Os) (started : os.Started) (H : Type) (enc : TypeId × Value → H) :
    ReturnsInHanded {} Try.checked os 5 .any (Rows.bagLosesSpec.pre6 enc Try.prog Try.f5 Rows.bagLosesRow.domain false) (Rows.bagLosesSpec.post enc Try.prog Try.f5 false true false false) := by
  refine returnsInHanded_of_change (C := Try.checked) Try.own started (by kernel_rfl) Try.func5
    (ChangeSpec.witness6 (enc := enc) (C := Try.checked) false ⟨#[], #[.slice none 0 0, .int .i64 0, .int .i64 0], []⟩ 8 (by kernel_rfl) (by kernel_rfl) (by kernel_rfl) (by kernel_rfl)) ?_
  intro W base args ds gs before hval0 hW hcnd _
  have hval : ∀ (j : Nat) t v, Try.f5.params[j]? = some t → args[j]? = some v → Value.okWide Try.prog W .any base t v := hval0
  have hW' := hW
  obtain ⟨p, q, hA0, hV, rfl, hfz, hnd⟩ := hW
  have hA : DataW.TrodAll enc Try.prog W 0 (fun _ => true) true Try.f5.params.toList args.toList ds p := hA0
  have hargs := args_open Try.laidOut Try.f5.params.toList args.toList ds p hA (fun j t v h1 h2 => hval j t v (by simpa using h1) (by simpa using h2)) (all_args (by kernel_rfl))
  rw [Try.params5] at hA hval hargs
  obtain ⟨v0, v1, v2, d0, d1, d2, p0, p1, p2, rfl, rfl, rfl, h0, h1, h2⟩ := trodAll_three hA
  obtain ⟨rfl, rfl⟩ := trodVars_none hV
  obtain ⟨⟨R0, n0, hp0, ht0⟩, ⟨R1, n1, hp1, ht1⟩, ⟨R2, n2, hp2, ht2⟩, _⟩ := hargs
  obtain ⟨ad, c, l, rfl, hl⟩ := mails_of_ty hp0 ht0
  obtain ⟨a, rfl, _⟩ := int_of_ty hp1 ht1
  obtain ⟨i, rfl, _⟩ := int_of_ty hp2 ht2
  exact law_calls Try.laidOut hW' rfl (by kernel_rfl) Try.underlying4 rfl rfl rfl (all_read (by kernel_rfl)) (BagLoses_fn (memOf W) ad c l a i hl)

theorem bagLoses_holds : Rows.BagLosesSaid :=
  OpenClaim.holds_of_wide 5 Try.f5 rfl rfl rfl rfl rfl rfl rfl ⟨rfl, rfl, rfl, rfl, rfl⟩ rfl rfl rfl rfl rfl (by kernel_rfl) Try.func5 (by kernel_rfl)
    (of_decide_eq_true (by kernel_rfl)) (by unfold Func.isWrapper; first | (rw [if_pos (by decide +kernel)]; kernel_rfl) | (rw [if_neg (by decide +kernel)]; exact ⟨rfl, rfl⟩))
    (fun os started H enc _ => bagLoses_lifted os started H enc)

end Go.Proofs.Ytenamdnnmdilgaa
