/-
  SpreadSurvives: for whatever arguments the law returns true, and what it was handed reads as it did. No condition.
-/
import Derived.Test.YtbafnjniijodfaaPq5
set_option linter.unusedSimpArgs false
set_option linter.unusedVariables false
set_option linter.unnecessarySimpa false
set_option maxRecDepth 8000
set_option maxHeartbeats 1000000
namespace Go.Proofs.Ytbafnjniijodfaa
open Go.ChangeShapes Go.WideShapes Go.ChangeAt Go.RowKit
open Go.Esp (args_open all_args all_read law_calls memOf Is ty_int ty_bool ty_str one_inj trodAll_len)
set_option maxRecDepth 100000 in
theorem spreadSurvives_lifted (os : Os) (started : os.Started) (H : Type) (enc : TypeId × Value → H) :
    ReturnsInHanded {} Try.checked os 7 .any (Rows.spreadSurvivesSpec.pre6 enc Try.prog Try.f7 Rows.spreadSurvivesRow.domain false) (Rows.spreadSurvivesSpec.post enc Try.prog Try.f7 false true false false) := by
  refine returnsInHanded_of_change (C := Try.checked) Try.own started (by kernel_rfl) Try.func7
    (ChangeSpec.witness6 (enc := enc) (C := Try.checked) false ⟨#[], #[.slice none 0 0, .int .i64 0, .slice none 0 0, .slice none 0 0], []⟩ 8 (by kernel_rfl) (by kernel_rfl) (by kernel_rfl) (by kernel_rfl)) ?_
  intro W base args ds gs before hval0 hW hcnd _
  have hval : ∀ (j : Nat) t v, Try.f7.params[j]? = some t → args[j]? = some v → Value.okWide Try.prog W .any base t v := hval0
  have hW' := hW
  obtain ⟨p, q, hA0, hV, rfl, hfz, hnd⟩ := hW
  have hA : DataW.TrodAll enc Try.prog W 0 (fun _ => true) true Try.f7.params.toList args.toList ds p := hA0
  have hargs := args_open Try.laidOut Try.f7.params.toList args.toList ds p hA (fun j t v h1 h2 => hval j t v (by simpa using h1) (by simpa using h2)) (all_args (by kernel_rfl))
  rw [Try.params7] at hA hval hargs
  obtain ⟨vs⟩ := args
  have hlen := trodAll_len hA
  obtain ⟨v0, v1, v2, v3, rfl⟩ := Go.Esp.len4 hlen.1
  obtain ⟨d0, d1, d2, d3, rfl⟩ := Go.Esp.len4 hlen.2
  obtain ⟨rfl, rfl⟩ := trodVars_none hV
  obtain ⟨⟨R0, n0, hp0, ht0⟩, ⟨R1, n1, hp1, ht1⟩, ⟨R2, n2, hp2, ht2⟩, ⟨R3, n3, hp3, ht3⟩, _⟩ := hargs
  obtain ⟨x0, rfl, k0⟩ := sl_of_ty22 ht0
  simp only [Is, Try.underlying22] at hp0
  obtain rfl := one_inj hp0
  obtain ⟨x1, rfl, w1⟩ := ty_int Try.underlying3 ht1
  simp only [Is, Try.underlying3] at hp1
  obtain rfl := one_inj hp1
  obtain ⟨x2, rfl, k2, l2⟩ := sl_of_ty23 ht2
  simp only [Is, Try.underlying23] at hp2
  obtain rfl := one_inj hp2
  obtain ⟨x3, rfl, k3⟩ := sl_of_ty52 ht3
  simp only [Is, Try.underlying52] at hp3
  obtain rfl := one_inj hp3
  exact law_calls Try.laidOut hW' rfl (by kernel_rfl) Try.underlying4 rfl rfl rfl (all_read (by kernel_rfl)) (lawSurvives_ok (memOf W) x0 x1 x2 x3 k0 k2 l2 k3 )

theorem spreadSurvives_holds : Rows.SpreadSurvivesSaid :=
  OpenClaim.holds_of_wide 7 Try.f7 rfl rfl rfl rfl rfl rfl rfl ⟨rfl, rfl, rfl, rfl, rfl⟩ rfl rfl rfl rfl rfl (by kernel_rfl) Try.func7 (by kernel_rfl)
    (of_decide_eq_true (by kernel_rfl)) (by unfold Func.isWrapper; first | (rw [if_pos (by decide +kernel)]; kernel_rfl) | (rw [if_neg (by decide +kernel)]; exact ⟨rfl, rfl⟩))
    (fun os started H enc _ => spreadSurvives_lifted os started H enc)
end Go.Proofs.Ytbafnjniijodfaa
