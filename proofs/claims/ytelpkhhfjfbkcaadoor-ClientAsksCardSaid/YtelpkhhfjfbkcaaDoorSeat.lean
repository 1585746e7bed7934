/-
  What all laws of this seat share: the listed variable, as the row's condition has it.
-/
import Derived.Test.YtelpkhhfjfbkcaaDoorOpn
import Derived.Test.YtelpkhhfjfbkcaaDoorC7
import Derived.LaidHandle
import Derived.LaidLaws
import Derived.ChangeVars
import Derived.Stop.Joined
set_option linter.unusedSimpArgs false
set_option linter.unusedVariables false
set_option linter.unnecessarySimpa false
set_option maxRecDepth 8000
namespace Go.Proofs.YtelpkhhfjfbkcaaDoor
open Go.Esp

theorem fn_of_fs {P : Program} {f : FuncId} {vs : List Value} {M : Mem} {R : Value → Prop} (h : Fs P f vs M R) : Esp.Fn P f vs M (fun _ v => R v) := fun H w hw =>
  (h H w hw).mono fun _ _ ⟨v, he, hs, hr⟩ => ⟨v, M, he, Mem.le.refl M, hs, hr⟩

theorem Tryd.et : Tryd.prog.globalNamed "errors.errorType" = some 0 := by kernel_rfl
theorem Tryd.rt : (Tryd.prog.cutTypes.find? (·.1 == "internal/reflectlite.rtype")).map (·.2) = some 148 := by kernel_rfl
theorem Tryd.typesN : Tryd.prog.types.size = 218 := by kernel_rfl
theorem Tryd.oneRow : ((List.range 218).filter fun t => Tryd.prog.rowNamed t [101, 114, 114, 111, 114]) = [71] := by kernel_rfl

theorem EG_of {W : World} (h : laidMetH Tryd.prog [("errors.errorType", Rows.laid_errors_errorType)] W) : EG (memOf W) := by
  have h' : laidMet Tryd.prog [] W ∧ handlesMet Tryd.prog [("errors.errorType", Rows.laid_errors_errorType)] W := h
  obtain ⟨name, u, ty, e1, e2, e3, e4, e5⟩ := h'.2 _ (List.mem_singleton.2 rfl)
  have en : name = [101, 114, 114, 111, 114] := (Option.some.inj e1).symm
  subst en
  obtain rfl := Option.some.inj (Tryd.rt.symm.trans e2)
  have hm : ty ∈ (List.range 218).filter fun t => Tryd.prog.rowNamed t [101, 114, 114, 111, 114] := List.mem_filter.2 ⟨List.mem_range.2 (by rw [← Tryd.typesN]; exact e3), e4⟩
  rw [Tryd.oneRow] at hm
  obtain rfl := List.mem_singleton.1 hm
  have hh : typeHandle Tryd.prog 71 = .pointer (some ⟨5, 71, none⟩) := by kernel_rfl
  rw [hh] at e5
  simp only [World.var?, Tryd.et, Option.bind_some] at e5
  split at e5
  · rename_i cs T fz hc
    obtain rfl := Option.some.inj e5
    exact ⟨_, T, fz, hc, rfl⟩
  · cases e5

/-- A world that meets the condition. -/
noncomputable def laidWorld (os : Os) : World :=
  let w0 := World.holding Tryd.prog os ⟨#[], #[], []⟩
  { w0 with heap := w0.heap.modify 0 fun
      | .cells _ t frozen => .cells #[.iface 148 (.agg #[.pointer (some ⟨5, 71, none⟩)])] t frozen
      | o => o }
theorem laidWorld_met (os : Os) (args : Array Value) : laidMetH Tryd.prog [("errors.errorType", Rows.laid_errors_errorType)] ((laidWorld os).forCall (fun _ _ => 0) ⟨#[], args, []⟩).memory :=
  laidMetH_of_parts (laidMet_nil _ _) (by kernel_rfl)
end Go.Proofs.YtelpkhhfjfbkcaaDoor
