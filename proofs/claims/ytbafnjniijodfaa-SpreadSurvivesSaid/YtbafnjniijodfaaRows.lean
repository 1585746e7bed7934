/-
  No cell of these rows narrows 'for every input' (looked for: loops, veiled, ifaces, maps, wideKeys, modest, calm, conditions, laid).
  DERIVED. THE GIVEN ROWS OF THIS SEAT. 5 by the template 'for every input the law returns true; each argument reads behind the call as it read before'; 0 by the template 'total and deterministic' (their statements: YtbafnjniijodfaaTotals.lean).
  GIVEN WITH THE SEED: the statements are not yours to turn. If you find one false, say at which input.
  Laid BY PROGRAM, IN A SANDBOX (cutbox-rows.mjs): the forced cells as the released guide's own fill.sh prints them over the translation 7287cf5b2f8d3f48… (all of the seat's roots in one cut). By AI agents, Wed Nov 11 2026. No macro, syntax, notation, axiom, sorry.
-/
import Derived.Test.YtbafnjniijodfaaChecked
import GoSem.Claim
import GoSem.ClaimJoined
import GoSem.ClaimMapViews
import Derived.JoinedTies
import Derived.KernelRfl
namespace Go.Proofs.Ytbafnjniijodfaa
/- THE CELL 'sum', in the pinned program and in every row, IS THE sha256 OF THE DUMP (.gsa) THAT YtbafnjniijodfaaProg.lean LOADS. Nothing in Lean hashes anything: it is a label: what it is worth is what the hold of that sum in a sandbox is worth. -/
noncomputable def Try.pinned : Pinned := { name := "ytbafnjniijodfaa", sum := "7287cf5b2f8d3f48feea53addb6f5ec4bec53dc147a3bf4c9811427a6cf98e2e", checked := Try.checked }
namespace Rows
def none {H : Type} : Left H := { results := [], args := [] }

/-- 'espalierlaw19.SpreadHeals': WHATEVER THE INPUT: true; the input reads as it did. -/
def spreadHealsSpec : ChangeSpec := { name := "spreadHeals", fn := fun _ => fun
  | [d1, d2, d3] => { results := [.lit (.bool true)], args := [d1, d2, d3] }
  | _ => none }
def spreadHealsRow : OpenClaim := { program := "ytbafnjniijodfaa", sum := "7287cf5b2f8d3f48feea53addb6f5ec4bec53dc147a3bf4c9811427a6cf98e2e", func := "espalier/espalierlaw19.SpreadHeals", spec := "spreadHeals", inPlace := ["internal/bytealg.Compare", "slices.overlaps[espalier/api.Mark]"], unfollowed := true, recurses := true, plainKeys := false, apart := false }
def SpreadHealsSaid : Prop := spreadHealsRow.holds Try.pinned (OpenSpec.ofChange spreadHealsSpec)

/-- ITS FALSE NEIGHBOUR: 'it returns false'. Refute it at one input. -/
def spreadHealsWrong : ChangeSpec := { name := "spreadHeals", fn := fun _ => fun
  | [d1, d2, d3] => { results := [.lit (.bool false)], args := [d1, d2, d3] }
  | _ => none }
def SpreadHealsWrongFalsely : Prop := spreadHealsRow.holds Try.pinned (OpenSpec.ofChange spreadHealsWrong)

/-- 'espalierlaw19.SpreadWhole': WHATEVER THE INPUT: true; the input reads as it did. -/
def spreadWholeSpec : ChangeSpec := { name := "spreadWhole", fn := fun _ => fun
  | [d1, d2, d3] => { results := [.lit (.bool true)], args := [d1, d2, d3] }
  | _ => none }
def spreadWholeRow : OpenClaim := { program := "ytbafnjniijodfaa", sum := "7287cf5b2f8d3f48feea53addb6f5ec4bec53dc147a3bf4c9811427a6cf98e2e", func := "espalier/espalierlaw19.SpreadWhole", spec := "spreadWhole", inPlace := ["internal/bytealg.Compare", "slices.overlaps[espalier/api.Mark]"], unfollowed := true, recurses := true, plainKeys := false, apart := false }
def SpreadWholeSaid : Prop := spreadWholeRow.holds Try.pinned (OpenSpec.ofChange spreadWholeSpec)

/-- ITS FALSE NEIGHBOUR: 'it returns false'. Refute it at one input. -/
def spreadWholeWrong : ChangeSpec := { name := "spreadWhole", fn := fun _ => fun
  | [d1, d2, d3] => { results := [.lit (.bool false)], args := [d1, d2, d3] }
  | _ => none }
def SpreadWholeWrongFalsely : Prop := spreadWholeRow.holds Try.pinned (OpenSpec.ofChange spreadWholeWrong)

/-- 'espalierlaw19.SpreadPuts': WHATEVER THE INPUT: true; the input reads as it did. -/
def spreadPutsSpec : ChangeSpec := { name := "spreadPuts", fn := fun _ => fun
  | [d1, d2, d3, d4] => { results := [.lit (.bool true)], args := [d1, d2, d3, d4] }
  | _ => none }
def spreadPutsRow : OpenClaim := { program := "ytbafnjniijodfaa", sum := "7287cf5b2f8d3f48feea53addb6f5ec4bec53dc147a3bf4c9811427a6cf98e2e", func := "espalier/espalierlaw19.SpreadPuts", spec := "spreadPuts", inPlace := ["internal/bytealg.Compare", "slices.overlaps[espalier/api.Mark]"], unfollowed := true, recurses := true, plainKeys := false, apart := false }
def SpreadPutsSaid : Prop := spreadPutsRow.holds Try.pinned (OpenSpec.ofChange spreadPutsSpec)

/-- ITS FALSE NEIGHBOUR: 'it returns false'. Refute it at one input. -/
def spreadPutsWrong : ChangeSpec := { name := "spreadPuts", fn := fun _ => fun
  | [d1, d2, d3, d4] => { results := [.lit (.bool false)], args := [d1, d2, d3, d4] }
  | _ => none }
def SpreadPutsWrongFalsely : Prop := spreadPutsRow.holds Try.pinned (OpenSpec.ofChange spreadPutsWrong)

/-- 'espalierlaw19.SpreadKeeps': WHATEVER THE INPUT: true; the input reads as it did. -/
def spreadKeepsSpec : ChangeSpec := { name := "spreadKeeps", fn := fun _ => fun
  | [d1, d2, d3] => { results := [.lit (.bool true)], args := [d1, d2, d3] }
  | _ => none }
def spreadKeepsRow : OpenClaim := { program := "ytbafnjniijodfaa", sum := "7287cf5b2f8d3f48feea53addb6f5ec4bec53dc147a3bf4c9811427a6cf98e2e", func := "espalier/espalierlaw19.SpreadKeeps", spec := "spreadKeeps", inPlace := ["internal/bytealg.Compare", "slices.overlaps[espalier/api.Mark]"], unfollowed := true, recurses := true, plainKeys := false, apart := false }
def SpreadKeepsSaid : Prop := spreadKeepsRow.holds Try.pinned (OpenSpec.ofChange spreadKeepsSpec)

/-- ITS FALSE NEIGHBOUR: 'it returns false'. Refute it at one input. -/
def spreadKeepsWrong : ChangeSpec := { name := "spreadKeeps", fn := fun _ => fun
  | [d1, d2, d3] => { results := [.lit (.bool false)], args := [d1, d2, d3] }
  | _ => none }
def SpreadKeepsWrongFalsely : Prop := spreadKeepsRow.holds Try.pinned (OpenSpec.ofChange spreadKeepsWrong)

/-- 'espalierlaw19.SpreadSurvives': WHATEVER THE INPUT: true; the input reads as it did. -/
def spreadSurvivesSpec : ChangeSpec := { name := "spreadSurvives", fn := fun _ => fun
  | [d1, d2, d3, d4] => { results := [.lit (.bool true)], args := [d1, d2, d3, d4] }
  | _ => none }
def spreadSurvivesRow : OpenClaim := { program := "ytbafnjniijodfaa", sum := "7287cf5b2f8d3f48feea53addb6f5ec4bec53dc147a3bf4c9811427a6cf98e2e", func := "espalier/espalierlaw19.SpreadSurvives", spec := "spreadSurvives", inPlace := ["internal/bytealg.Compare", "slices.overlaps[espalier/api.Mark]"], unfollowed := true, recurses := true, plainKeys := false, apart := false }
def SpreadSurvivesSaid : Prop := spreadSurvivesRow.holds Try.pinned (OpenSpec.ofChange spreadSurvivesSpec)

/-- ITS FALSE NEIGHBOUR: 'it returns false'. Refute it at one input. -/
def spreadSurvivesWrong : ChangeSpec := { name := "spreadSurvives", fn := fun _ => fun
  | [d1, d2, d3, d4] => { results := [.lit (.bool false)], args := [d1, d2, d3, d4] }
  | _ => none }
def SpreadSurvivesWrongFalsely : Prop := spreadSurvivesRow.holds Try.pinned (OpenSpec.ofChange spreadSurvivesWrong)

/- THE SECOND FORM. 'bulk': how many values and letters a reading holds, each counted each time it is reached (what is shared counts as often as it is met; a slice's spare places count too). A statement '..UptoSaid' is the law's where the arguments, and the package variables that the reading takes, are together of bulk at most 1048576: NARROWER than '..Said'. Prove '..Said' where nothing that the law and all that it calls make is longer than what came in: it says more and counts as full. Else prove '..UptoSaid'. A law counts once. -/
mutual
def uptoBulk {H : Type} : DataW H → Nat
  | .lit (.string bytes) => bytes.length + 1
  | .lit _ => 1
  | .nil => 1
  | .ptr d => uptoBulk d + 1
  | .slice elems spare => uptoBulkAll elems + uptoBulkAll spare + 1
  | .agg parts => uptoBulkAll parts + 1
  | .iface _ d => uptoBulk d + 1
  | .map entries => uptoBulkEntries entries + 1
  | .held _ => 1
def uptoBulkAll {H : Type} : List (DataW H) → Nat
  | [] => 0
  | d :: r => uptoBulk d + uptoBulkAll r
def uptoBulkEntries {H : Type} : List (Lit × DataW H) → Nat
  | [] => 0
  | x :: r => uptoBulkEntry x + uptoBulkEntries r
def uptoBulkEntry {H : Type} : Lit × DataW H → Nat
  | (.string bytes, d) => bytes.length + uptoBulk d + 1
  | (_, d) => uptoBulk d + 1
 end
def uptoSmall : (H : Type) → List (DataW H) → Bool := fun _ ds => decide (uptoBulkAll ds ≤ 1048576)
def OpenSpec.upto (s : _root_.Go.ChangeSpec) : _root_.Go.OpenSpec := { _root_.Go.OpenSpec.ofChange s with cond := some uptoSmall }

/-- 'espalierlaw19.SpreadHeals', WHERE WHAT IT READS IS OF BULK AT MOST 1048576: true; the input reads as it did. -/
def spreadHealsUptoRow : OpenClaim := { program := "ytbafnjniijodfaa", sum := "7287cf5b2f8d3f48feea53addb6f5ec4bec53dc147a3bf4c9811427a6cf98e2e", func := "espalier/espalierlaw19.SpreadHeals", spec := "spreadHeals", inPlace := ["internal/bytealg.Compare", "slices.overlaps[espalier/api.Mark]"], unfollowed := true, recurses := true, plainKeys := false, apart := false, narrowed := true }
def SpreadHealsUptoSaid : Prop := spreadHealsUptoRow.holds Try.pinned (OpenSpec.upto spreadHealsSpec)

/-- 'espalierlaw19.SpreadWhole', WHERE WHAT IT READS IS OF BULK AT MOST 1048576: true; the input reads as it did. -/
def spreadWholeUptoRow : OpenClaim := { program := "ytbafnjniijodfaa", sum := "7287cf5b2f8d3f48feea53addb6f5ec4bec53dc147a3bf4c9811427a6cf98e2e", func := "espalier/espalierlaw19.SpreadWhole", spec := "spreadWhole", inPlace := ["internal/bytealg.Compare", "slices.overlaps[espalier/api.Mark]"], unfollowed := true, recurses := true, plainKeys := false, apart := false, narrowed := true }
def SpreadWholeUptoSaid : Prop := spreadWholeUptoRow.holds Try.pinned (OpenSpec.upto spreadWholeSpec)

/-- 'espalierlaw19.SpreadPuts', WHERE WHAT IT READS IS OF BULK AT MOST 1048576: true; the input reads as it did. -/
def spreadPutsUptoRow : OpenClaim := { program := "ytbafnjniijodfaa", sum := "7287cf5b2f8d3f48feea53addb6f5ec4bec53dc147a3bf4c9811427a6cf98e2e", func := "espalier/espalierlaw19.SpreadPuts", spec := "spreadPuts", inPlace := ["internal/bytealg.Compare", "slices.overlaps[espalier/api.Mark]"], unfollowed := true, recurses := true, plainKeys := false, apart := false, narrowed := true }
def SpreadPutsUptoSaid : Prop := spreadPutsUptoRow.holds Try.pinned (OpenSpec.upto spreadPutsSpec)

/-- 'espalierlaw19.SpreadKeeps', WHERE WHAT IT READS IS OF BULK AT MOST 1048576: true; the input reads as it did. -/
def spreadKeepsUptoRow : OpenClaim := { program := "ytbafnjniijodfaa", sum := "7287cf5b2f8d3f48feea53addb6f5ec4bec53dc147a3bf4c9811427a6cf98e2e", func := "espalier/espalierlaw19.SpreadKeeps", spec := "spreadKeeps", inPlace := ["internal/bytealg.Compare", "slices.overlaps[espalier/api.Mark]"], unfollowed := true, recurses := true, plainKeys := false, apart := false, narrowed := true }
def SpreadKeepsUptoSaid : Prop := spreadKeepsUptoRow.holds Try.pinned (OpenSpec.upto spreadKeepsSpec)

/-- 'espalierlaw19.SpreadSurvives', WHERE WHAT IT READS IS OF BULK AT MOST 1048576: true; the input reads as it did. -/
def spreadSurvivesUptoRow : OpenClaim := { program := "ytbafnjniijodfaa", sum := "7287cf5b2f8d3f48feea53addb6f5ec4bec53dc147a3bf4c9811427a6cf98e2e", func := "espalier/espalierlaw19.SpreadSurvives", spec := "spreadSurvives", inPlace := ["internal/bytealg.Compare", "slices.overlaps[espalier/api.Mark]"], unfollowed := true, recurses := true, plainKeys := false, apart := false, narrowed := true }
def SpreadSurvivesUptoSaid : Prop := spreadSurvivesUptoRow.holds Try.pinned (OpenSpec.upto spreadSurvivesSpec)

end Rows
end Go.Proofs.Ytbafnjniijodfaa
