/-
  BlameWraps: for whatever arguments the law returns true, and what it was handed reads as it did. The listed variable holds what the program lays in it (the tie).
-/
import Derived.Test.YtbeahcfghjiogaaDoorPC4
import Derived.Test.YtbeahcfghjiogaaDoorTie
import Derived.Test.YtbeahcfghjiogaaDoorCards
import Derived.SevenTiedAt
set_option linter.unusedSimpArgs false
set_option linter.unusedVariables false
set_option linter.unnecessarySimpa false
set_option maxRecDepth 8000
set_option maxHeartbeats 1000000
namespace Go.Proofs.YtbeahcfghjiogaaDoor
open Go.ChangeShapes Go.WideShapes Go.ChangeAt Go.RowKit
open Go.Esp (args_open all_args all_read law_calls memOf Is ty_int ty_bool ty_str one_inj trodAll_len)
set_option maxRecDepth 100000 in
theorem blameWraps_lifted (os : Os) (started : os.Started) (H : Type) (enc : TypeId × Value → H) :
    ReturnsInHanded {} Tryd.checked os 4 .any (fun w args => (Rows.blameWrapsSpec.pre enc Tryd.prog Tryd.f4 Rows.blameWrapsRow.domain false w args ∧ laidMetH Tryd.prog [("errors.errorType", Rows.laid_errors_errorType)] w) ∧ sizedMet enc Tryd.prog Tryd.f4 (OpenSpec.ofChange Rows.blameWrapsSpec) false w args) (Rows.blameWrapsSpec.post enc Tryd.prog Tryd.f4 false true false false) := by
  refine lifted_of (C := Tryd.checked) (X := fun w _ => laidMetH Tryd.prog [("errors.errorType", Rows.laid_errors_errorType)] w) (fun _ _ _ hh h => h.of_heap hh) Tryd.own started (by kernel_rfl) Tryd.func4
    (ChangeSpec.witness_at (enc := enc) (C := Tryd.checked) (os := os) (X := fun w _ => laidMetH Tryd.prog [("errors.errorType", Rows.laid_errors_errorType)] w) false (laidWorld os) #[.slice none 0 0, .string ⟨#[]⟩, .int .i64 0] 8 rfl (by kernel_rfl) (by kernel_rfl) (by kernel_rfl) (by kernel_rfl) (by kernel_rfl) (laidWorld_met os _)) ?_
  intro W base args ds gs before hval0 hW hwt hL hsh
  obtain ⟨tb, htb⟩ := tab_of hsh
  have hval : ∀ (j : Nat) t v, Tryd.f4.params[j]? = some t → args[j]? = some v → Value.okWide Tryd.prog W .any base t v := hval0
  have hW' := hW
  obtain ⟨p, q, hA0, hV, rfl, hfz, hnd⟩ := hW
  have hA : DataW.TrodAll enc Tryd.prog W 0 (fun _ => true) true Tryd.f4.params.toList args.toList ds p := hA0
  have hargs := args_open Tryd.laidOut Tryd.f4.params.toList args.toList ds p hA (fun j t v h1 h2 => hval j t v (by simpa using h1) (by simpa using h2)) (all_args (by kernel_rfl)) (Go.Esp.each_args hwt)
  rw [Tryd.params4] at hA hval hargs
  obtain ⟨vs⟩ := args
  have hlen := trodAll_len hA
  obtain ⟨v0, v1, v2, rfl⟩ := Go.Esp.len3 hlen.1
  obtain ⟨d0, d1, d2, rfl⟩ := Go.Esp.len3 hlen.2
  obtain ⟨rfl, rfl⟩ := trodVars_none hV
  obtain ⟨⟨R0, n0, hp0, ht0⟩, ⟨R1, n1, hp1, ht1⟩, ⟨R2, n2, hp2, ht2⟩, _⟩ := hargs
  obtain ⟨x0, rfl, k0⟩ := steps_of ht0
  simp only [Is, Tryd.underlying22] at hp0
  obtain rfl := one_inj hp0
  obtain ⟨x1, rfl, b1⟩ := ty_str Tryd.underlying9 ht1
  simp only [Is, Tryd.underlying9] at hp1
  obtain rfl := one_inj hp1
  obtain ⟨x2, rfl, w2⟩ := ty_int Tryd.underlying23 ht2
  simp only [Is, Tryd.underlying23] at hp2
  obtain rfl := one_inj hp2
  exact law_calls Tryd.laidOut hW' rfl (by kernel_rfl) Tryd.underlying4 rfl rfl rfl (all_read (by kernel_rfl)) (lawWraps_ok (memOf W) x0 x1 x2 k0 ⟨EG_of hL, rfl⟩ tb htb)

theorem blameWraps_holds : Rows.BlameWrapsSaid :=
  OpenClaim.holds_of_wide 4 Tryd.f4 rfl rfl rfl rfl rfl rfl rfl ⟨rfl, rfl, rfl, rfl, rfl⟩ rfl rfl rfl rfl rfl (by kernel_rfl) Tryd.func4 (by kernel_rfl)
    (of_decide_eq_true (by kernel_rfl)) (by unfold Func.isWrapper; first | (rw [if_pos (by decide +kernel)]; kernel_rfl) | (rw [if_neg (by decide +kernel)]; exact ⟨rfl, rfl⟩))
    (fun os started H enc _ => blameWraps_lifted os started H enc)

theorem blameWraps_card : Rows.BlameWrapsCardSaid :=
  Claim7.holds_tied_plain_at .later [] [.handle] true (true, "07e4c566cb92bd63188834aa675de61b599fc7b7e9e6eb6137cac3a339756970") true
    blameWraps_holds (fun _ h => by cases h) (by kernel_rfl) (fun _ h => by cases h) blameWraps_row_tie rfl ⟨rfl, rfl⟩ (by kernel_rfl) rfl
    (fun f fn hf hfn => by
      obtain rfl : f = 4 := Option.some.inj ((show Tryd.prog.funcNamed "espalier/espalierlaw06.BlameWraps" = some 4 by kernel_rfl).symm.trans hf) |>.symm
      obtain rfl : fn = Tryd.f4 := (Option.some.inj (Tryd.func4.symm.trans hfn)).symm
      exact ⟨by kernel_rfl, fun j t ht => by
        rw [Tryd.params4] at ht
        have hall : ([22, 9, 23] : List TypeId).all (fun t => Tryd.prog.wantsStandIn t == false) = true := by kernel_rfl
        have hm : t ∈ ([22, 9, 23] : List TypeId) := by simpa using Array.mem_of_getElem? ht
        have h8 := List.all_eq_true.1 hall t hm
        have h9 : Tryd.prog.wantsStandIn t = false := by simpa using h8
        exact h9⟩)
    (by kernel_rfl)
end Go.Proofs.YtbeahcfghjiogaaDoor
