/-
  RingSettles: for whatever arguments the law returns true, and what it was handed reads as it did. The listed variable holds what the program lays in it (the tie).
-/
import Derived.Test.YtglnjnacodgmaaaGreatDoorPX9
import Derived.Test.YtglnjnacodgmaaaGreatDoorTie
import Derived.Test.YtglnjnacodgmaaaGreatDoorCards
import Derived.SevenTiedAt
set_option linter.unusedSimpArgs false
set_option linter.unusedVariables false
set_option linter.unnecessarySimpa false
set_option maxRecDepth 8000
set_option maxHeartbeats 1000000
namespace Go.Proofs.YtglnjnacodgmaaaGreatDoor
open Go.ChangeShapes Go.WideShapes Go.ChangeAt Go.RowKit
open Go.Esp (Zkn all_args all_read law_calls QB Is Zet one_inj Co)
set_option maxRecDepth 100000 in
theorem ringSettles_lifted (os : Os) (started : os.Started) (H : Type) (enc : TypeId × Value → H) :
    ReturnsInHanded {} Tryz.checked os 6 .any (fun w args => (Rows.ringSettlesSpec.pre enc Tryz.prog Tryz.f6 Rows.ringSettlesRow.domain false w args ∧ laidMetH Tryz.prog [("math/bits.deBruijn32tab", Rows.laid_math_bits_deBruijn32tab), ("math/bits.deBruijn64tab", Rows.laid_math_bits_deBruijn64tab), ("internal/strconv.uint64pow10", Rows.laid_internal_strconv_uint64pow10)] w) ∧ sizedMet enc Tryz.prog Tryz.f6 (OpenSpec.ofChange Rows.ringSettlesSpec) false w args) (Rows.ringSettlesSpec.post enc Tryz.prog Tryz.f6 false true false false) := by
  refine returnsInHanded_of_change_and (C := Tryz.checked) (X := fun w _ => laidMetH Tryz.prog [("math/bits.deBruijn32tab", Rows.laid_math_bits_deBruijn32tab), ("math/bits.deBruijn64tab", Rows.laid_math_bits_deBruijn64tab), ("internal/strconv.uint64pow10", Rows.laid_internal_strconv_uint64pow10)] w) (fun _ _ _ hh h => h.of_heap hh) Tryz.own started (by kernel_rfl) Tryz.func6
    (ChangeSpec.witness_shaped (enc := enc) (C := Tryz.checked) (os := os) (X := fun w _ => laidMetH Tryz.prog [("math/bits.deBruijn32tab", Rows.laid_math_bits_deBruijn32tab), ("math/bits.deBruijn64tab", Rows.laid_math_bits_deBruijn64tab), ("internal/strconv.uint64pow10", Rows.laid_internal_strconv_uint64pow10)] w) false (World.laidAll Tryz.prog os [("math/bits.deBruijn32tab", Rows.laid_math_bits_deBruijn32tab), ("math/bits.deBruijn64tab", Rows.laid_math_bits_deBruijn64tab), ("internal/strconv.uint64pow10", Rows.laid_internal_strconv_uint64pow10)]) #[.int .i64 0, .slice none 0 0] 8 (World.laidAll_os _ _ _)
      (World.shaped_of_ZipB (by kernel_rfl) (by kernel_rfl)) (by kernel_rfl) (by kernel_rfl) (by kernel_rfl)
      (by rw [MakeChecks.laidMetH_plain _ _ _ (by kernel_rfl)]; exact laidMet_laidAll _ (by kernel_rfl) (by kernel_rfl))) ?_
  intro W base args ds gs before hval0 hW hcnd hwt hL _
  have hval : ∀ (j : Nat) t v, Tryz.f6.params[j]? = some t → args[j]? = some v → Value.okWide Tryz.prog W .any base t v := hval0
  have hW' := hW
  obtain ⟨p, q, hA0, hV, rfl, hfz, hnd⟩ := hW
  have hA : DataW.TrodAll enc Tryz.prog W 0 (fun _ => true) true Tryz.f6.params.toList args.toList ds p := hA0
  have hargs := Zkn Tryz.laidOut Tryz.f6.params.toList args.toList ds p hA (fun j t v h1 h2 => hval j t v (by simpa using h1) (by simpa using h2)) (all_args (by kernel_rfl)) (Go.Esp.each_args hwt)
  rw [Tryz.params6] at hA hval hargs
  obtain ⟨vs⟩ := args
  have hlen := Co hA
  obtain ⟨v0, v1, rfl⟩ := Go.Esp.len2 hlen.1
  obtain ⟨d0, d1, rfl⟩ := Go.Esp.len2 hlen.2
  obtain ⟨rfl, rfl⟩ := trodVars_none hV
  obtain ⟨⟨R0, n0, hp0, ht0⟩, ⟨R1, n1, hp1, ht1⟩, _⟩ := hargs
  obtain ⟨x0, rfl, w0⟩ := Zet Tryz.underlying3 ht0
  simp only [Is, Tryz.underlying3] at hp0
  obtain rfl := one_inj hp0
  obtain ⟨x1, rfl, k1, l1⟩ := sl_of_ty56 ht1
  simp only [Is, Tryz.underlying56] at hp1
  obtain rfl := one_inj hp1
  exact law_calls Tryz.laidOut hW' rfl (by kernel_rfl) Tryz.underlying4 rfl rfl rfl (all_read (by kernel_rfl)) (lawS (QB W) x0 x1 k1 l1 rfl (pow_of hL))

theorem ringSettles_holds : Rows.RingSettlesSaid :=
  OpenClaim.holds_of_wide 6 Tryz.f6 rfl rfl rfl rfl rfl rfl rfl ⟨rfl, rfl, rfl, rfl, rfl⟩ rfl rfl rfl rfl rfl (by kernel_rfl) Tryz.func6 (by kernel_rfl)
    (of_decide_eq_true (by kernel_rfl)) (by unfold Func.isWrapper; first | (rw [if_pos (by decide +kernel)]; kernel_rfl) | (rw [if_neg (by decide +kernel)]; exact ⟨rfl, rfl⟩))
    (fun os started H enc _ => ringSettles_lifted os started H enc)

theorem ringSettles_card : Rows.RingSettlesCardSaid :=
  Claim7.holds_tied_plain_at .later [] [.data, .data, .data] true (true, "39029a76d1b624227c2354b121ba34284453e528a6e1aa4016cb5dcf49859cdc") true
    ringSettles_holds (fun _ h => by cases h) (by kernel_rfl) (fun _ h => by cases h) ringSettles_row_tie rfl ⟨rfl, rfl⟩ (by kernel_rfl) rfl
    (fun f fn hf hfn => by
      obtain rfl : f = 6 := Option.some.inj ((show Tryz.prog.funcNamed "espalier/espalierlaw16.RingSettles" = some 6 by kernel_rfl).symm.trans hf) |>.symm
      obtain rfl : fn = Tryz.f6 := (Option.some.inj (Tryz.func6.symm.trans hfn)).symm
      exact ⟨by kernel_rfl, fun j t ht => by
        rw [Tryz.params6] at ht
        have hall : ([3, 56] : List TypeId).all (fun t => Tryz.prog.wantsStandIn t == false) = true := by kernel_rfl
        have hm : t ∈ ([3, 56] : List TypeId) := by simpa using Array.mem_of_getElem? ht
        have h8 := List.all_eq_true.1 hall t hm
        have h9 : Tryz.prog.wantsStandIn t = false := by simpa using h8
        exact h9⟩)
    (by kernel_rfl)
end Go.Proofs.YtglnjnacodgmaaaGreatDoor
