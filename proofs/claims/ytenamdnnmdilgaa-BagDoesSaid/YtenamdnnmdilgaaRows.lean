/-
  No cell of these rows narrows 'for every input' (looked for: loops, veiled, ifaces, maps, wideKeys, modest, calm, conditions, laid).
  DERIVED. THE GIVEN ROWS OF THIS SEAT. 4 by the template 'for every input the law returns true; each argument reads behind the call as it read before'; 0 by the template 'total and deterministic' (their statements: YtenamdnnmdilgaaTotals.lean).
  GIVEN WITH THE SEED: the statements are not yours to turn. If you find one false, say at which input.
  Laid BY PROGRAM, IN A SANDBOX (cutbox-rows.mjs): the forced cells as the released guide's own fill.sh prints them over the translation 44fe0e36b4b2217f… (all of the seat's roots in one cut). By AI agents, Wed Nov 11 2026. No macro, syntax, notation, axiom, sorry.
-/
import Derived.Test.YtenamdnnmdilgaaChecked
import GoSem.Claim
import GoSem.ClaimJoined
import GoSem.ClaimMapViews
import Derived.JoinedTies
import Derived.KernelRfl
namespace Go.Proofs.Ytenamdnnmdilgaa
/- THE CELL 'sum', in the pinned program and in every row, IS THE sha256 OF THE DUMP (.gsa) THAT YtenamdnnmdilgaaProg.lean LOADS. Nothing in Lean hashes anything: it is a label: what it is worth is what the hold of that sum in a sandbox is worth. -/
noncomputable def Try.pinned : Pinned := { name := "ytenamdnnmdilgaa", sum := "44fe0e36b4b2217f77d73a1d58c161d6f030ee6af54e7fa6d608b2b2917451b8", checked := Try.checked }
namespace Rows
def none {H : Type} : Left H := { results := [], args := [] }

/-- 'espalierlaw09.BagKeeps': WHATEVER THE INPUT: true; the input reads as it did. -/
def bagKeepsSpec : ChangeSpec := { name := "bagKeeps", fn := fun _ => fun
  | [d1, d2] => { results := [.lit (.bool true)], args := [d1, d2] }
  | _ => none }
def bagKeepsRow : OpenClaim := { program := "ytenamdnnmdilgaa", sum := "44fe0e36b4b2217f77d73a1d58c161d6f030ee6af54e7fa6d608b2b2917451b8", func := "espalier/espalierlaw09.BagKeeps", spec := "bagKeeps", unfollowed := true, recurses := true, apart := false }
def BagKeepsSaid : Prop := bagKeepsRow.holds Try.pinned (OpenSpec.ofChange bagKeepsSpec)

/-- ITS FALSE NEIGHBOUR: 'it returns false'. Refute it at one input. -/
def bagKeepsWrong : ChangeSpec := { name := "bagKeeps", fn := fun _ => fun
  | [d1, d2] => { results := [.lit (.bool false)], args := [d1, d2] }
  | _ => none }
def BagKeepsWrongFalsely : Prop := bagKeepsRow.holds Try.pinned (OpenSpec.ofChange bagKeepsWrong)

/-- 'espalierlaw09.BagDoes': WHATEVER THE INPUT: true; the input reads as it did. -/
def bagDoesSpec : ChangeSpec := { name := "bagDoes", fn := fun _ => fun
  | [d1, d2] => { results := [.lit (.bool true)], args := [d1, d2] }
  | _ => none }
def bagDoesRow : OpenClaim := { program := "ytenamdnnmdilgaa", sum := "44fe0e36b4b2217f77d73a1d58c161d6f030ee6af54e7fa6d608b2b2917451b8", func := "espalier/espalierlaw09.BagDoes", spec := "bagDoes", unfollowed := true, recurses := true, apart := false }
def BagDoesSaid : Prop := bagDoesRow.holds Try.pinned (OpenSpec.ofChange bagDoesSpec)

/-- ITS FALSE NEIGHBOUR: 'it returns false'. Refute it at one input. -/
def bagDoesWrong : ChangeSpec := { name := "bagDoes", fn := fun _ => fun
  | [d1, d2] => { results := [.lit (.bool false)], args := [d1, d2] }
  | _ => none }
def BagDoesWrongFalsely : Prop := bagDoesRow.holds Try.pinned (OpenSpec.ofChange bagDoesWrong)

/-- 'espalierlaw09.BagLoses': WHATEVER THE INPUT: true; the input reads as it did. -/
def bagLosesSpec : ChangeSpec := { name := "bagLoses", fn := fun _ => fun
  | [d1, d2, d3] => { results := [.lit (.bool true)], args := [d1, d2, d3] }
  | _ => none }
def bagLosesRow : OpenClaim := { program := "ytenamdnnmdilgaa", sum := "44fe0e36b4b2217f77d73a1d58c161d6f030ee6af54e7fa6d608b2b2917451b8", func := "espalier/espalierlaw09.BagLoses", spec := "bagLoses", unfollowed := true, recurses := true, apart := false }
def BagLosesSaid : Prop := bagLosesRow.holds Try.pinned (OpenSpec.ofChange bagLosesSpec)

/-- ITS FALSE NEIGHBOUR: 'it returns false'. Refute it at one input. -/
def bagLosesWrong : ChangeSpec := { name := "bagLoses", fn := fun _ => fun
  | [d1, d2, d3] => { results := [.lit (.bool false)], args := [d1, d2, d3] }
  | _ => none }
def BagLosesWrongFalsely : Prop := bagLosesRow.holds Try.pinned (OpenSpec.ofChange bagLosesWrong)

/-- 'espalierlaw09.BagNil': WHATEVER THE INPUT: true; the input reads as it did. -/
def bagNilSpec : ChangeSpec := { name := "bagNil", fn := fun _ => fun
  | [d1, d2] => { results := [.lit (.bool true)], args := [d1, d2] }
  | _ => none }
def bagNilRow : OpenClaim := { program := "ytenamdnnmdilgaa", sum := "44fe0e36b4b2217f77d73a1d58c161d6f030ee6af54e7fa6d608b2b2917451b8", func := "espalier/espalierlaw09.BagNil", spec := "bagNil", unfollowed := true, recurses := true, apart := false }
def BagNilSaid : Prop := bagNilRow.holds Try.pinned (OpenSpec.ofChange bagNilSpec)

/-- ITS FALSE NEIGHBOUR: 'it returns false'. Refute it at one input. -/
def bagNilWrong : ChangeSpec := { name := "bagNil", fn := fun _ => fun
  | [d1, d2] => { results := [.lit (.bool false)], args := [d1, d2] }
  | _ => none }
def BagNilWrongFalsely : Prop := bagNilRow.holds Try.pinned (OpenSpec.ofChange bagNilWrong)

/- THE SECOND FORM. 'bulk': how many values and letters a reading holds, each counted each time it is reached (what is shared counts as often as it is met; a slice's spare places count too). A statement '..UptoSaid' is the law's where the arguments, and the package variables that the reading takes, are together of bulk at most 1048576: NARROWER than '..Said'. Prove '..Said' where nothing that the law and all that it calls make is longer than what came in: it says more and counts as full. Else prove '..UptoSaid'. A law counts once. -/
mutual
def uptoBulk {H : Type} : DataW H → Nat
  | .lit (.string bytes) => bytes.length + 1
  | .lit _ => 1
  | .nil => 1
  | .ptr d => uptoBulk d + 1
  | .slice elems spare => uptoBulkAll elems + uptoBulkAll spare + 1
  | .agg parts => uptoBulkAll parts + 1
  | .iface _ d => uptoBulk d + 1
  | .map entries => uptoBulkEntries entries + 1
  | .held _ => 1
def uptoBulkAll {H : Type} : List (DataW H) → Nat
  | [] => 0
  | d :: r => uptoBulk d + uptoBulkAll r
def uptoBulkEntries {H : Type} : List (Lit × DataW H) → Nat
  | [] => 0
  | x :: r => uptoBulkEntry x + uptoBulkEntries r
def uptoBulkEntry {H : Type} : Lit × DataW H → Nat
  | (.string bytes, d) => bytes.length + uptoBulk d + 1
  | (_, d) => uptoBulk d + 1
 end
def uptoSmall : (H : Type) → List (DataW H) → Bool := fun _ ds => decide (uptoBulkAll ds ≤ 1048576)
def OpenSpec.upto (s : _root_.Go.ChangeSpec) : _root_.Go.OpenSpec := { _root_.Go.OpenSpec.ofChange s with cond := some uptoSmall }

/-- 'espalierlaw09.BagKeeps', WHERE WHAT IT READS IS OF BULK AT MOST 1048576: true; the input reads as it did. -/
def bagKeepsUptoRow : OpenClaim := { program := "ytenamdnnmdilgaa", sum := "44fe0e36b4b2217f77d73a1d58c161d6f030ee6af54e7fa6d608b2b2917451b8", func := "espalier/espalierlaw09.BagKeeps", spec := "bagKeeps", unfollowed := true, recurses := true, apart := false, narrowed := true }
def BagKeepsUptoSaid : Prop := bagKeepsUptoRow.holds Try.pinned (OpenSpec.upto bagKeepsSpec)

/-- 'espalierlaw09.BagDoes', WHERE WHAT IT READS IS OF BULK AT MOST 1048576: true; the input reads as it did. -/
def bagDoesUptoRow : OpenClaim := { program := "ytenamdnnmdilgaa", sum := "44fe0e36b4b2217f77d73a1d58c161d6f030ee6af54e7fa6d608b2b2917451b8", func := "espalier/espalierlaw09.BagDoes", spec := "bagDoes", unfollowed := true, recurses := true, apart := false, narrowed := true }
def BagDoesUptoSaid : Prop := bagDoesUptoRow.holds Try.pinned (OpenSpec.upto bagDoesSpec)

/-- 'espalierlaw09.BagLoses', WHERE WHAT IT READS IS OF BULK AT MOST 1048576: true; the input reads as it did. -/
def bagLosesUptoRow : OpenClaim := { program := "ytenamdnnmdilgaa", sum := "44fe0e36b4b2217f77d73a1d58c161d6f030ee6af54e7fa6d608b2b2917451b8", func := "espalier/espalierlaw09.BagLoses", spec := "bagLoses", unfollowed := true, recurses := true, apart := false, narrowed := true }
def BagLosesUptoSaid : Prop := bagLosesUptoRow.holds Try.pinned (OpenSpec.upto bagLosesSpec)

/-- 'espalierlaw09.BagNil', WHERE WHAT IT READS IS OF BULK AT MOST 1048576: true; the input reads as it did. -/
def bagNilUptoRow : OpenClaim := { program := "ytenamdnnmdilgaa", sum := "44fe0e36b4b2217f77d73a1d58c161d6f030ee6af54e7fa6d608b2b2917451b8", func := "espalier/espalierlaw09.BagNil", spec := "bagNil", unfollowed := true, recurses := true, apart := false, narrowed := true }
def BagNilUptoSaid : Prop := bagNilUptoRow.holds Try.pinned (OpenSpec.upto bagNilSpec)

end Rows
end Go.Proofs.Ytenamdnnmdilgaa
