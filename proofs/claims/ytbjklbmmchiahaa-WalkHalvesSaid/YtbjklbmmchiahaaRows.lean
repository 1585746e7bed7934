/-
  No cell of these rows narrows 'for every input' (looked for: loops, veiled, ifaces, maps, wideKeys, modest, calm, conditions, laid).
  DERIVED. THE GIVEN ROWS OF THIS SEAT. 12 by the template 'for every input the law returns true; each argument reads behind the call as it read before'; 0 by the template 'total and deterministic' (their statements: YtbjklbmmchiahaaTotals.lean).
  GIVEN WITH THE SEED: the statements are not yours to turn. If you find one false, say at which input.
  Laid BY PROGRAM, IN A SANDBOX (cutbox-rows.mjs): the forced cells as the released guide's own fill.sh prints them over the translation 92e88605f0091d3b… (all of the seat's roots in one cut). By AI agents, Wed Nov 11 2026. No macro, syntax, notation, axiom, sorry.
-/
import Derived.Test.YtbjklbmmchiahaaChecked
import GoSem.Claim
import GoSem.ClaimJoined
import GoSem.ClaimMapViews
import Derived.JoinedTies
import Derived.KernelRfl
namespace Go.Proofs.Ytbjklbmmchiahaa
/- THE CELL 'sum', in the pinned program and in every row, IS THE sha256 OF THE DUMP (.gsa) THAT YtbjklbmmchiahaaProg.lean LOADS. Nothing in Lean hashes anything: it is a label: what it is worth is what the hold of that sum in a sandbox is worth. -/
noncomputable def Try.pinned : Pinned := { name := "ytbjklbmmchiahaa", sum := "92e88605f0091d3bd7fd6c0da6b0d86457181ce81e3931f639af62be922ca48c", checked := Try.checked }
namespace Rows
def none {H : Type} : Left H := { results := [], args := [] }

/-- 'espalierlaw12.TableMakes': WHATEVER THE INPUT: true; the input reads as it did. -/
def tableMakesSpec : ChangeSpec := { name := "tableMakes", fn := fun _ => fun
  | [d1, d2, d3, d4, d5] => { results := [.lit (.bool true)], args := [d1, d2, d3, d4, d5] }
  | _ => none }
def tableMakesRow : OpenClaim := { program := "ytbjklbmmchiahaa", sum := "92e88605f0091d3bd7fd6c0da6b0d86457181ce81e3931f639af62be922ca48c", func := "espalier/espalierlaw12.TableMakes", spec := "tableMakes", inPlace := ["internal/bytealg.Compare"], unfollowed := true, recurses := true, apart := false }
def TableMakesSaid : Prop := tableMakesRow.holds Try.pinned (OpenSpec.ofChange tableMakesSpec)

/-- ITS FALSE NEIGHBOUR: 'it returns false'. Refute it at one input. -/
def tableMakesWrong : ChangeSpec := { name := "tableMakes", fn := fun _ => fun
  | [d1, d2, d3, d4, d5] => { results := [.lit (.bool false)], args := [d1, d2, d3, d4, d5] }
  | _ => none }
def TableMakesWrongFalsely : Prop := tableMakesRow.holds Try.pinned (OpenSpec.ofChange tableMakesWrong)

/-- 'espalierlaw12.TableTells': WHATEVER THE INPUT: true; the input reads as it did. -/
def tableTellsSpec : ChangeSpec := { name := "tableTells", fn := fun _ => fun
  | [d1, d2, d3, d4, d5] => { results := [.lit (.bool true)], args := [d1, d2, d3, d4, d5] }
  | _ => none }
def tableTellsRow : OpenClaim := { program := "ytbjklbmmchiahaa", sum := "92e88605f0091d3bd7fd6c0da6b0d86457181ce81e3931f639af62be922ca48c", func := "espalier/espalierlaw12.TableTells", spec := "tableTells", inPlace := ["internal/bytealg.Compare"], unfollowed := true, recurses := true, apart := false }
def TableTellsSaid : Prop := tableTellsRow.holds Try.pinned (OpenSpec.ofChange tableTellsSpec)

/-- ITS FALSE NEIGHBOUR: 'it returns false'. Refute it at one input. -/
def tableTellsWrong : ChangeSpec := { name := "tableTells", fn := fun _ => fun
  | [d1, d2, d3, d4, d5] => { results := [.lit (.bool false)], args := [d1, d2, d3, d4, d5] }
  | _ => none }
def TableTellsWrongFalsely : Prop := tableTellsRow.holds Try.pinned (OpenSpec.ofChange tableTellsWrong)

/-- 'espalierlaw12.TableStays': WHATEVER THE INPUT: true; the input reads as it did. -/
def tableStaysSpec : ChangeSpec := { name := "tableStays", fn := fun _ => fun
  | [d1, d2, d3, d4, d5, d6] => { results := [.lit (.bool true)], args := [d1, d2, d3, d4, d5, d6] }
  | _ => none }
def tableStaysRow : OpenClaim := { program := "ytbjklbmmchiahaa", sum := "92e88605f0091d3bd7fd6c0da6b0d86457181ce81e3931f639af62be922ca48c", func := "espalier/espalierlaw12.TableStays", spec := "tableStays", inPlace := ["internal/bytealg.Compare"], unfollowed := true, recurses := true, apart := false }
def TableStaysSaid : Prop := tableStaysRow.holds Try.pinned (OpenSpec.ofChange tableStaysSpec)

/-- ITS FALSE NEIGHBOUR: 'it returns false'. Refute it at one input. -/
def tableStaysWrong : ChangeSpec := { name := "tableStays", fn := fun _ => fun
  | [d1, d2, d3, d4, d5, d6] => { results := [.lit (.bool false)], args := [d1, d2, d3, d4, d5, d6] }
  | _ => none }
def TableStaysWrongFalsely : Prop := tableStaysRow.holds Try.pinned (OpenSpec.ofChange tableStaysWrong)

/-- 'espalierlaw12.TableForgets': WHATEVER THE INPUT: true; the input reads as it did. -/
def tableForgetsSpec : ChangeSpec := { name := "tableForgets", fn := fun _ => fun
  | [d1, d2] => { results := [.lit (.bool true)], args := [d1, d2] }
  | _ => none }
def tableForgetsRow : OpenClaim := { program := "ytbjklbmmchiahaa", sum := "92e88605f0091d3bd7fd6c0da6b0d86457181ce81e3931f639af62be922ca48c", func := "espalier/espalierlaw12.TableForgets", spec := "tableForgets", inPlace := ["internal/bytealg.Compare"], unfollowed := true, recurses := true, apart := false }
def TableForgetsSaid : Prop := tableForgetsRow.holds Try.pinned (OpenSpec.ofChange tableForgetsSpec)

/-- ITS FALSE NEIGHBOUR: 'it returns false'. Refute it at one input. -/
def tableForgetsWrong : ChangeSpec := { name := "tableForgets", fn := fun _ => fun
  | [d1, d2] => { results := [.lit (.bool false)], args := [d1, d2] }
  | _ => none }
def TableForgetsWrongFalsely : Prop := tableForgetsRow.holds Try.pinned (OpenSpec.ofChange tableForgetsWrong)

/-- 'espalierlaw12.TableNears': WHATEVER THE INPUT: true; the input reads as it did. -/
def tableNearsSpec : ChangeSpec := { name := "tableNears", fn := fun _ => fun
  | [d1, d2, d3] => { results := [.lit (.bool true)], args := [d1, d2, d3] }
  | _ => none }
def tableNearsRow : OpenClaim := { program := "ytbjklbmmchiahaa", sum := "92e88605f0091d3bd7fd6c0da6b0d86457181ce81e3931f639af62be922ca48c", func := "espalier/espalierlaw12.TableNears", spec := "tableNears", inPlace := ["internal/bytealg.Compare"], unfollowed := true, recurses := true, apart := false }
def TableNearsSaid : Prop := tableNearsRow.holds Try.pinned (OpenSpec.ofChange tableNearsSpec)

/-- ITS FALSE NEIGHBOUR: 'it returns false'. Refute it at one input. -/
def tableNearsWrong : ChangeSpec := { name := "tableNears", fn := fun _ => fun
  | [d1, d2, d3] => { results := [.lit (.bool false)], args := [d1, d2, d3] }
  | _ => none }
def TableNearsWrongFalsely : Prop := tableNearsRow.holds Try.pinned (OpenSpec.ofChange tableNearsWrong)

/-- 'espalierlaw12.TablePoints': WHATEVER THE INPUT: true; the input reads as it did. -/
def tablePointsSpec : ChangeSpec := { name := "tablePoints", fn := fun _ => fun
  | [d1, d2, d3] => { results := [.lit (.bool true)], args := [d1, d2, d3] }
  | _ => none }
def tablePointsRow : OpenClaim := { program := "ytbjklbmmchiahaa", sum := "92e88605f0091d3bd7fd6c0da6b0d86457181ce81e3931f639af62be922ca48c", func := "espalier/espalierlaw12.TablePoints", spec := "tablePoints", inPlace := ["internal/bytealg.Compare"], unfollowed := true, recurses := true, apart := false }
def TablePointsSaid : Prop := tablePointsRow.holds Try.pinned (OpenSpec.ofChange tablePointsSpec)

/-- ITS FALSE NEIGHBOUR: 'it returns false'. Refute it at one input. -/
def tablePointsWrong : ChangeSpec := { name := "tablePoints", fn := fun _ => fun
  | [d1, d2, d3] => { results := [.lit (.bool false)], args := [d1, d2, d3] }
  | _ => none }
def TablePointsWrongFalsely : Prop := tablePointsRow.holds Try.pinned (OpenSpec.ofChange tablePointsWrong)

/-- 'espalierlaw13.WalkDoes': WHATEVER THE INPUT: true; the input reads as it did. -/
def walkDoesSpec : ChangeSpec := { name := "walkDoes", fn := fun _ => fun
  | [d1, d2, d3, d4] => { results := [.lit (.bool true)], args := [d1, d2, d3, d4] }
  | _ => none }
def walkDoesRow : OpenClaim := { program := "ytbjklbmmchiahaa", sum := "92e88605f0091d3bd7fd6c0da6b0d86457181ce81e3931f639af62be922ca48c", func := "espalier/espalierlaw13.WalkDoes", spec := "walkDoes", inPlace := ["internal/bytealg.Compare"], unfollowed := true, recurses := true, apart := false }
def WalkDoesSaid : Prop := walkDoesRow.holds Try.pinned (OpenSpec.ofChange walkDoesSpec)

/-- ITS FALSE NEIGHBOUR: 'it returns false'. Refute it at one input. -/
def walkDoesWrong : ChangeSpec := { name := "walkDoes", fn := fun _ => fun
  | [d1, d2, d3, d4] => { results := [.lit (.bool false)], args := [d1, d2, d3, d4] }
  | _ => none }
def WalkDoesWrongFalsely : Prop := walkDoesRow.holds Try.pinned (OpenSpec.ofChange walkDoesWrong)

/-- 'espalierlaw13.WalkSettles': WHATEVER THE INPUT: true; the input reads as it did. -/
def walkSettlesSpec : ChangeSpec := { name := "walkSettles", fn := fun _ => fun
  | [d1, d2] => { results := [.lit (.bool true)], args := [d1, d2] }
  | _ => none }
def walkSettlesRow : OpenClaim := { program := "ytbjklbmmchiahaa", sum := "92e88605f0091d3bd7fd6c0da6b0d86457181ce81e3931f639af62be922ca48c", func := "espalier/espalierlaw13.WalkSettles", spec := "walkSettles", inPlace := ["internal/bytealg.Compare"], unfollowed := true, recurses := true, apart := false }
def WalkSettlesSaid : Prop := walkSettlesRow.holds Try.pinned (OpenSpec.ofChange walkSettlesSpec)

/-- ITS FALSE NEIGHBOUR: 'it returns false'. Refute it at one input. -/
def walkSettlesWrong : ChangeSpec := { name := "walkSettles", fn := fun _ => fun
  | [d1, d2] => { results := [.lit (.bool false)], args := [d1, d2] }
  | _ => none }
def WalkSettlesWrongFalsely : Prop := walkSettlesRow.holds Try.pinned (OpenSpec.ofChange walkSettlesWrong)

/-- 'espalierlaw13.WalkMore': WHATEVER THE INPUT: true; the input reads as it did. -/
def walkMoreSpec : ChangeSpec := { name := "walkMore", fn := fun _ => fun
  | [d1, d2, d3, d4, d5] => { results := [.lit (.bool true)], args := [d1, d2, d3, d4, d5] }
  | _ => none }
def walkMoreRow : OpenClaim := { program := "ytbjklbmmchiahaa", sum := "92e88605f0091d3bd7fd6c0da6b0d86457181ce81e3931f639af62be922ca48c", func := "espalier/espalierlaw13.WalkMore", spec := "walkMore", inPlace := ["internal/bytealg.Compare"], unfollowed := true, recurses := true, apart := false }
def WalkMoreSaid : Prop := walkMoreRow.holds Try.pinned (OpenSpec.ofChange walkMoreSpec)

/-- ITS FALSE NEIGHBOUR: 'it returns false'. Refute it at one input. -/
def walkMoreWrong : ChangeSpec := { name := "walkMore", fn := fun _ => fun
  | [d1, d2, d3, d4, d5] => { results := [.lit (.bool false)], args := [d1, d2, d3, d4, d5] }
  | _ => none }
def WalkMoreWrongFalsely : Prop := walkMoreRow.holds Try.pinned (OpenSpec.ofChange walkMoreWrong)

/-- 'espalierlaw13.WalkNext': WHATEVER THE INPUT: true; the input reads as it did. -/
def walkNextSpec : ChangeSpec := { name := "walkNext", fn := fun _ => fun
  | [d1, d2, d3, d4] => { results := [.lit (.bool true)], args := [d1, d2, d3, d4] }
  | _ => none }
def walkNextRow : OpenClaim := { program := "ytbjklbmmchiahaa", sum := "92e88605f0091d3bd7fd6c0da6b0d86457181ce81e3931f639af62be922ca48c", func := "espalier/espalierlaw13.WalkNext", spec := "walkNext", inPlace := ["internal/bytealg.Compare"], unfollowed := true, recurses := true, apart := false }
def WalkNextSaid : Prop := walkNextRow.holds Try.pinned (OpenSpec.ofChange walkNextSpec)

/-- ITS FALSE NEIGHBOUR: 'it returns false'. Refute it at one input. -/
def walkNextWrong : ChangeSpec := { name := "walkNext", fn := fun _ => fun
  | [d1, d2, d3, d4] => { results := [.lit (.bool false)], args := [d1, d2, d3, d4] }
  | _ => none }
def WalkNextWrongFalsely : Prop := walkNextRow.holds Try.pinned (OpenSpec.ofChange walkNextWrong)

/-- 'espalierlaw13.WalkEnds': WHATEVER THE INPUT: true; the input reads as it did. -/
def walkEndsSpec : ChangeSpec := { name := "walkEnds", fn := fun _ => fun
  | [d1, d2, d3, d4] => { results := [.lit (.bool true)], args := [d1, d2, d3, d4] }
  | _ => none }
def walkEndsRow : OpenClaim := { program := "ytbjklbmmchiahaa", sum := "92e88605f0091d3bd7fd6c0da6b0d86457181ce81e3931f639af62be922ca48c", func := "espalier/espalierlaw13.WalkEnds", spec := "walkEnds", inPlace := ["internal/bytealg.Compare"], unfollowed := true, recurses := true, apart := false }
def WalkEndsSaid : Prop := walkEndsRow.holds Try.pinned (OpenSpec.ofChange walkEndsSpec)

/-- ITS FALSE NEIGHBOUR: 'it returns false'. Refute it at one input. -/
def walkEndsWrong : ChangeSpec := { name := "walkEnds", fn := fun _ => fun
  | [d1, d2, d3, d4] => { results := [.lit (.bool false)], args := [d1, d2, d3, d4] }
  | _ => none }
def WalkEndsWrongFalsely : Prop := walkEndsRow.holds Try.pinned (OpenSpec.ofChange walkEndsWrong)

/-- 'espalierlaw13.WalkHalves': WHATEVER THE INPUT: true; the input reads as it did. -/
def walkHalvesSpec : ChangeSpec := { name := "walkHalves", fn := fun _ => fun
  | [d1, d2, d3, d4] => { results := [.lit (.bool true)], args := [d1, d2, d3, d4] }
  | _ => none }
def walkHalvesRow : OpenClaim := { program := "ytbjklbmmchiahaa", sum := "92e88605f0091d3bd7fd6c0da6b0d86457181ce81e3931f639af62be922ca48c", func := "espalier/espalierlaw13.WalkHalves", spec := "walkHalves", inPlace := ["internal/bytealg.Compare"], unfollowed := true, recurses := true, apart := false }
def WalkHalvesSaid : Prop := walkHalvesRow.holds Try.pinned (OpenSpec.ofChange walkHalvesSpec)

/-- ITS FALSE NEIGHBOUR: 'it returns false'. Refute it at one input. -/
def walkHalvesWrong : ChangeSpec := { name := "walkHalves", fn := fun _ => fun
  | [d1, d2, d3, d4] => { results := [.lit (.bool false)], args := [d1, d2, d3, d4] }
  | _ => none }
def WalkHalvesWrongFalsely : Prop := walkHalvesRow.holds Try.pinned (OpenSpec.ofChange walkHalvesWrong)

/- THE SECOND FORM. 'bulk': how many values and letters a reading holds, each counted each time it is reached (what is shared counts as often as it is met; a slice's spare places count too). A statement '..UptoSaid' is the law's where the arguments, and the package variables that the reading takes, are together of bulk at most 1048576: NARROWER than '..Said'. Prove '..Said' where nothing that the law and all that it calls make is longer than what came in: it says more and counts as full. Else prove '..UptoSaid'. A law counts once. -/
mutual
def uptoBulk {H : Type} : DataW H → Nat
  | .lit (.string bytes) => bytes.length + 1
  | .lit _ => 1
  | .nil => 1
  | .ptr d => uptoBulk d + 1
  | .slice elems spare => uptoBulkAll elems + uptoBulkAll spare + 1
  | .agg parts => uptoBulkAll parts + 1
  | .iface _ d => uptoBulk d + 1
  | .map entries => uptoBulkEntries entries + 1
  | .held _ => 1
def uptoBulkAll {H : Type} : List (DataW H) → Nat
  | [] => 0
  | d :: r => uptoBulk d + uptoBulkAll r
def uptoBulkEntries {H : Type} : List (Lit × DataW H) → Nat
  | [] => 0
  | x :: r => uptoBulkEntry x + uptoBulkEntries r
def uptoBulkEntry {H : Type} : Lit × DataW H → Nat
  | (.string bytes, d) => bytes.length + uptoBulk d + 1
  | (_, d) => uptoBulk d + 1
 end
def uptoSmall : (H : Type) → List (DataW H) → Bool := fun _ ds => decide (uptoBulkAll ds ≤ 1048576)
def OpenSpec.upto (s : _root_.Go.ChangeSpec) : _root_.Go.OpenSpec := { _root_.Go.OpenSpec.ofChange s with cond := some uptoSmall }

/-- 'espalierlaw12.TableMakes', WHERE WHAT IT READS IS OF BULK AT MOST 1048576: true; the input reads as it did. -/
def tableMakesUptoRow : OpenClaim := { program := "ytbjklbmmchiahaa", sum := "92e88605f0091d3bd7fd6c0da6b0d86457181ce81e3931f639af62be922ca48c", func := "espalier/espalierlaw12.TableMakes", spec := "tableMakes", inPlace := ["internal/bytealg.Compare"], unfollowed := true, recurses := true, apart := false, narrowed := true }
def TableMakesUptoSaid : Prop := tableMakesUptoRow.holds Try.pinned (OpenSpec.upto tableMakesSpec)

/-- 'espalierlaw12.TableTells', WHERE WHAT IT READS IS OF BULK AT MOST 1048576: true; the input reads as it did. -/
def tableTellsUptoRow : OpenClaim := { program := "ytbjklbmmchiahaa", sum := "92e88605f0091d3bd7fd6c0da6b0d86457181ce81e3931f639af62be922ca48c", func := "espalier/espalierlaw12.TableTells", spec := "tableTells", inPlace := ["internal/bytealg.Compare"], unfollowed := true, recurses := true, apart := false, narrowed := true }
def TableTellsUptoSaid : Prop := tableTellsUptoRow.holds Try.pinned (OpenSpec.upto tableTellsSpec)

/-- 'espalierlaw12.TableStays', WHERE WHAT IT READS IS OF BULK AT MOST 1048576: true; the input reads as it did. -/
def tableStaysUptoRow : OpenClaim := { program := "ytbjklbmmchiahaa", sum := "92e88605f0091d3bd7fd6c0da6b0d86457181ce81e3931f639af62be922ca48c", func := "espalier/espalierlaw12.TableStays", spec := "tableStays", inPlace := ["internal/bytealg.Compare"], unfollowed := true, recurses := true, apart := false, narrowed := true }
def TableStaysUptoSaid : Prop := tableStaysUptoRow.holds Try.pinned (OpenSpec.upto tableStaysSpec)

/-- 'espalierlaw12.TableForgets', WHERE WHAT IT READS IS OF BULK AT MOST 1048576: true; the input reads as it did. -/
def tableForgetsUptoRow : OpenClaim := { program := "ytbjklbmmchiahaa", sum := "92e88605f0091d3bd7fd6c0da6b0d86457181ce81e3931f639af62be922ca48c", func := "espalier/espalierlaw12.TableForgets", spec := "tableForgets", inPlace := ["internal/bytealg.Compare"], unfollowed := true, recurses := true, apart := false, narrowed := true }
def TableForgetsUptoSaid : Prop := tableForgetsUptoRow.holds Try.pinned (OpenSpec.upto tableForgetsSpec)

/-- 'espalierlaw12.TableNears', WHERE WHAT IT READS IS OF BULK AT MOST 1048576: true; the input reads as it did. -/
def tableNearsUptoRow : OpenClaim := { program := "ytbjklbmmchiahaa", sum := "92e88605f0091d3bd7fd6c0da6b0d86457181ce81e3931f639af62be922ca48c", func := "espalier/espalierlaw12.TableNears", spec := "tableNears", inPlace := ["internal/bytealg.Compare"], unfollowed := true, recurses := true, apart := false, narrowed := true }
def TableNearsUptoSaid : Prop := tableNearsUptoRow.holds Try.pinned (OpenSpec.upto tableNearsSpec)

/-- 'espalierlaw12.TablePoints', WHERE WHAT IT READS IS OF BULK AT MOST 1048576: true; the input reads as it did. -/
def tablePointsUptoRow : OpenClaim := { program := "ytbjklbmmchiahaa", sum := "92e88605f0091d3bd7fd6c0da6b0d86457181ce81e3931f639af62be922ca48c", func := "espalier/espalierlaw12.TablePoints", spec := "tablePoints", inPlace := ["internal/bytealg.Compare"], unfollowed := true, recurses := true, apart := false, narrowed := true }
def TablePointsUptoSaid : Prop := tablePointsUptoRow.holds Try.pinned (OpenSpec.upto tablePointsSpec)

/-- 'espalierlaw13.WalkDoes', WHERE WHAT IT READS IS OF BULK AT MOST 1048576: true; the input reads as it did. -/
def walkDoesUptoRow : OpenClaim := { program := "ytbjklbmmchiahaa", sum := "92e88605f0091d3bd7fd6c0da6b0d86457181ce81e3931f639af62be922ca48c", func := "espalier/espalierlaw13.WalkDoes", spec := "walkDoes", inPlace := ["internal/bytealg.Compare"], unfollowed := true, recurses := true, apart := false, narrowed := true }
def WalkDoesUptoSaid : Prop := walkDoesUptoRow.holds Try.pinned (OpenSpec.upto walkDoesSpec)

/-- 'espalierlaw13.WalkSettles', WHERE WHAT IT READS IS OF BULK AT MOST 1048576: true; the input reads as it did. -/
def walkSettlesUptoRow : OpenClaim := { program := "ytbjklbmmchiahaa", sum := "92e88605f0091d3bd7fd6c0da6b0d86457181ce81e3931f639af62be922ca48c", func := "espalier/espalierlaw13.WalkSettles", spec := "walkSettles", inPlace := ["internal/bytealg.Compare"], unfollowed := true, recurses := true, apart := false, narrowed := true }
def WalkSettlesUptoSaid : Prop := walkSettlesUptoRow.holds Try.pinned (OpenSpec.upto walkSettlesSpec)

/-- 'espalierlaw13.WalkMore', WHERE WHAT IT READS IS OF BULK AT MOST 1048576: true; the input reads as it did. -/
def walkMoreUptoRow : OpenClaim := { program := "ytbjklbmmchiahaa", sum := "92e88605f0091d3bd7fd6c0da6b0d86457181ce81e3931f639af62be922ca48c", func := "espalier/espalierlaw13.WalkMore", spec := "walkMore", inPlace := ["internal/bytealg.Compare"], unfollowed := true, recurses := true, apart := false, narrowed := true }
def WalkMoreUptoSaid : Prop := walkMoreUptoRow.holds Try.pinned (OpenSpec.upto walkMoreSpec)

/-- 'espalierlaw13.WalkNext', WHERE WHAT IT READS IS OF BULK AT MOST 1048576: true; the input reads as it did. -/
def walkNextUptoRow : OpenClaim := { program := "ytbjklbmmchiahaa", sum := "92e88605f0091d3bd7fd6c0da6b0d86457181ce81e3931f639af62be922ca48c", func := "espalier/espalierlaw13.WalkNext", spec := "walkNext", inPlace := ["internal/bytealg.Compare"], unfollowed := true, recurses := true, apart := false, narrowed := true }
def WalkNextUptoSaid : Prop := walkNextUptoRow.holds Try.pinned (OpenSpec.upto walkNextSpec)

/-- 'espalierlaw13.WalkEnds', WHERE WHAT IT READS IS OF BULK AT MOST 1048576: true; the input reads as it did. -/
def walkEndsUptoRow : OpenClaim := { program := "ytbjklbmmchiahaa", sum := "92e88605f0091d3bd7fd6c0da6b0d86457181ce81e3931f639af62be922ca48c", func := "espalier/espalierlaw13.WalkEnds", spec := "walkEnds", inPlace := ["internal/bytealg.Compare"], unfollowed := true, recurses := true, apart := false, narrowed := true }
def WalkEndsUptoSaid : Prop := walkEndsUptoRow.holds Try.pinned (OpenSpec.upto walkEndsSpec)

/-- 'espalierlaw13.WalkHalves', WHERE WHAT IT READS IS OF BULK AT MOST 1048576: true; the input reads as it did. -/
def walkHalvesUptoRow : OpenClaim := { program := "ytbjklbmmchiahaa", sum := "92e88605f0091d3bd7fd6c0da6b0d86457181ce81e3931f639af62be922ca48c", func := "espalier/espalierlaw13.WalkHalves", spec := "walkHalves", inPlace := ["internal/bytealg.Compare"], unfollowed := true, recurses := true, apart := false, narrowed := true }
def WalkHalvesUptoSaid : Prop := walkHalvesUptoRow.holds Try.pinned (OpenSpec.upto walkHalvesSpec)

end Rows
end Go.Proofs.Ytbjklbmmchiahaa
