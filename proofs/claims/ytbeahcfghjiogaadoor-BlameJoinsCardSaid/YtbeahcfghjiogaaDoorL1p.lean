/-
  BlameJoins: for whatever arguments the law returns true, and what it was handed reads as it did. The listed variable holds what the program lays in it (the tie).
-/
import Derived.Test.YtbeahcfghjiogaaDoorPB3
import Derived.Test.YtbeahcfghjiogaaDoorTie
import Derived.Test.YtbeahcfghjiogaaDoorCards
import Derived.SevenTiedAt
set_option linter.unusedSimpArgs false
set_option linter.unusedVariables false
set_option linter.unnecessarySimpa false
set_option maxRecDepth 8000
set_option maxHeartbeats 1000000
namespace Go.Proofs.YtbeahcfghjiogaaDoor
open Go.ChangeShapes Go.WideShapes Go.ChangeAt Go.RowKit
open Go.Esp (args_open all_args all_read law_calls memOf Is ty_int ty_bool ty_str one_inj trodAll_len)
set_option maxRecDepth 100000 in
theorem blameJoins_lifted (os : Os) (started : os.Started) (H : Type) (enc : TypeId × Value → H) :
    ReturnsInHanded {} Tryd.checked os 5 .any (fun w args => (Rows.blameJoinsSpec.pre enc Tryd.prog Tryd.f5 Rows.blameJoinsRow.domain false w args ∧ laidMetH Tryd.prog [("errors.errorType", Rows.laid_errors_errorType)] w) ∧ sizedMet enc Tryd.prog Tryd.f5 (OpenSpec.ofChange Rows.blameJoinsSpec) false w args) (Rows.blameJoinsSpec.post enc Tryd.prog Tryd.f5 false true false false) := by
  refine returnsInHanded_of_change_and (C := Tryd.checked) (X := fun w _ => laidMetH Tryd.prog [("errors.errorType", Rows.laid_errors_errorType)] w) (fun _ _ _ hh h => h.of_heap hh) Tryd.own started (by kernel_rfl) Tryd.func5
    (ChangeSpec.witness_at (enc := enc) (C := Tryd.checked) (os := os) (X := fun w _ => laidMetH Tryd.prog [("errors.errorType", Rows.laid_errors_errorType)] w) false (laidWorld os) #[.slice none 0 0, .int .i64 0] 8 rfl (by kernel_rfl) (by kernel_rfl) (by kernel_rfl) (by kernel_rfl) (by kernel_rfl) (laidWorld_met os _)) ?_
  intro W base args ds gs before hval0 hW hcnd hwt hL _
  have hval : ∀ (j : Nat) t v, Tryd.f5.params[j]? = some t → args[j]? = some v → Value.okWide Tryd.prog W .any base t v := hval0
  have hW' := hW
  obtain ⟨p, q, hA0, hV, rfl, hfz, hnd⟩ := hW
  have hA : DataW.TrodAll enc Tryd.prog W 0 (fun _ => true) true Tryd.f5.params.toList args.toList ds p := hA0
  have hargs := args_open Tryd.laidOut Tryd.f5.params.toList args.toList ds p hA (fun j t v h1 h2 => hval j t v (by simpa using h1) (by simpa using h2)) (all_args (by kernel_rfl)) (Go.Esp.each_args hwt)
  rw [Tryd.params5] at hA hval hargs
  obtain ⟨vs⟩ := args
  have hlen := trodAll_len hA
  obtain ⟨v0, v1, rfl⟩ := Go.Esp.len2 hlen.1
  obtain ⟨d0, d1, rfl⟩ := Go.Esp.len2 hlen.2
  obtain ⟨rfl, rfl⟩ := trodVars_none hV
  obtain ⟨⟨R0, n0, hp0, ht0⟩, ⟨R1, n1, hp1, ht1⟩, _⟩ := hargs
  obtain ⟨x0, rfl, k0⟩ := steps_of ht0
  simp only [Is, Tryd.underlying22] at hp0
  obtain rfl := one_inj hp0
  obtain ⟨x1, rfl, w1⟩ := ty_int Tryd.underlying23 ht1
  simp only [Is, Tryd.underlying23] at hp1
  obtain rfl := one_inj hp1
  exact law_calls Tryd.laidOut hW' rfl (by kernel_rfl) Tryd.underlying4 rfl rfl rfl (all_read (by kernel_rfl)) (lawJoins_ok (memOf W) x0 x1 k0 ⟨EG_of hL, rfl⟩)

theorem blameJoins_holds : Rows.BlameJoinsSaid :=
  OpenClaim.holds_of_wide 5 Tryd.f5 rfl rfl rfl rfl rfl rfl rfl ⟨rfl, rfl, rfl, rfl, rfl⟩ rfl rfl rfl rfl rfl (by kernel_rfl) Tryd.func5 (by kernel_rfl)
    (of_decide_eq_true (by kernel_rfl)) (by unfold Func.isWrapper; first | (rw [if_pos (by decide +kernel)]; kernel_rfl) | (rw [if_neg (by decide +kernel)]; exact ⟨rfl, rfl⟩))
    (fun os started H enc _ => blameJoins_lifted os started H enc)

theorem blameJoins_card : Rows.BlameJoinsCardSaid :=
  Claim7.holds_tied_plain_at .later [] [.handle] true (true, "07e4c566cb92bd63188834aa675de61b599fc7b7e9e6eb6137cac3a339756970") true
    blameJoins_holds (fun _ h => by cases h) (by kernel_rfl) (fun _ h => by cases h) blameJoins_row_tie rfl ⟨rfl, rfl⟩ (by kernel_rfl) rfl
    (fun f fn hf hfn => by
      obtain rfl : f = 5 := Option.some.inj ((show Tryd.prog.funcNamed "espalier/espalierlaw06.BlameJoins" = some 5 by kernel_rfl).symm.trans hf) |>.symm
      obtain rfl : fn = Tryd.f5 := (Option.some.inj (Tryd.func5.symm.trans hfn)).symm
      exact ⟨by kernel_rfl, fun j t ht => by
        rw [Tryd.params5] at ht
        have hall : ([22, 23] : List TypeId).all (fun t => Tryd.prog.wantsStandIn t == false) = true := by kernel_rfl
        have hm : t ∈ ([22, 23] : List TypeId) := by simpa using Array.mem_of_getElem? ht
        have h8 := List.all_eq_true.1 hall t hm
        have h9 : Tryd.prog.wantsStandIn t = false := by simpa using h8
        exact h9⟩)
    (by kernel_rfl)
end Go.Proofs.YtbeahcfghjiogaaDoor
