/-
  NARROWER THAN 'FOR EVERY INPUT', by the rows' own cells (each row's printed sentence says how): BlameDoes: laid · BlameWraps: laid · BlameJoins: laid · BlameNew: laid.
  DERIVED. THE GIVEN ROWS OF THIS SEAT. 4 by the template 'for every input the law returns true; each argument reads behind the call as it read before'; 0 by the template 'total and deterministic' (their statements: YtbeahcfghjiogaaDoorTotals.lean).
  GIVEN WITH THE SEED: the statements are not yours to turn. If you find one false, say at which input.
  Laid BY PROGRAM, IN A SANDBOX (cutbox-rows.mjs): the forced cells as the released guide's own fill.sh prints them over the translation 33d302fd6bd1bbbe… (all of the seat's roots in one cut). By AI agents, Wed Nov 11 2026. No macro, syntax, notation, axiom, sorry.
-/
import Derived.Test.YtbeahcfghjiogaaDoorChecked
import GoSem.Claim
import GoSem.ClaimJoined
import GoSem.ClaimMapViews
import Derived.JoinedTies
import Derived.KernelRfl
namespace Go.Proofs.YtbeahcfghjiogaaDoor
/- THE CELL 'sum', in the pinned program and in every row, IS THE sha256 OF THE DUMP (.gsa) THAT YtbeahcfghjiogaaDoorProg.lean LOADS. Nothing in Lean hashes anything: it is a label: what it is worth is what the hold of that sum in a sandbox is worth. -/
noncomputable def Tryd.pinned : Pinned := { name := "ytbeahcfghjiogaadoor", sum := "33d302fd6bd1bbbe3212d472d6b8961fbb3d3085f70fe1947b7a913e1d3e2e36", checked := Tryd.checked }
namespace Rows
def none {H : Type} : Left H := { results := [], args := [] }

/- WHAT THE LISTED PACKAGE-LEVEL VARIABLES READ AS WHEN THE CALL BEGINS. Each datum BY PROGRAM (the guide's laid-datum.mjs) off the statement by which the dump's own 'gosem.cut.vars' lays the variable. In a bare row this is a premise. The card (YtbeahcfghjiogaaDoorCards.lean) ties it to the program's text. -/
def laid_errors_errorType {H : Type} : DataW H := .iface "internal/reflectlite.rtype" (.agg [.ptr (.lit (.string [101, 114, 114, 111, 114]))])

/-- 'espalierlaw06.BlameDoes': WHATEVER THE INPUT: true; the input reads as it did. -/
def blameDoesSpec : ChangeSpec := { name := "blameDoes", fn := fun _ => fun
  | [d1, d2] => { results := [.lit (.bool true)], args := [d1, d2] }
  | _ => none }
def blameDoesRow : OpenClaim := { program := "ytbeahcfghjiogaadoor", sum := "33d302fd6bd1bbbe3212d472d6b8961fbb3d3085f70fe1947b7a913e1d3e2e36", func := "espalier/espalierlaw06.BlameDoes", spec := "blameDoes", inPlace := ["internal/reflectlite.ValueOf", "(internal/reflectlite.Value).Type", "(internal/reflectlite.Value).IsNil", "internal/reflectlite.TypeOf", "(internal/reflectlite.Value).Elem", "(internal/reflectlite.Value).Set"], unfollowed := true, recurses := true, named := ["errors.errorType"], apart := false, laid := [("errors.errorType", laid_errors_errorType)] }
def BlameDoesSaid : Prop := blameDoesRow.holds Tryd.pinned (OpenSpec.ofChange blameDoesSpec)

/-- ITS FALSE NEIGHBOUR: 'it returns false'. Refute it at one input. -/
def blameDoesWrong : ChangeSpec := { name := "blameDoes", fn := fun _ => fun
  | [d1, d2] => { results := [.lit (.bool false)], args := [d1, d2] }
  | _ => none }
def BlameDoesWrongFalsely : Prop := blameDoesRow.holds Tryd.pinned (OpenSpec.ofChange blameDoesWrong)

/-- 'espalierlaw06.BlameWraps': WHATEVER THE INPUT: true; the input reads as it did. -/
def blameWrapsSpec : ChangeSpec := { name := "blameWraps", fn := fun _ => fun
  | [d1, d2, d3] => { results := [.lit (.bool true)], args := [d1, d2, d3] }
  | _ => none }
def blameWrapsRow : OpenClaim := { program := "ytbeahcfghjiogaadoor", sum := "33d302fd6bd1bbbe3212d472d6b8961fbb3d3085f70fe1947b7a913e1d3e2e36", func := "espalier/espalierlaw06.BlameWraps", spec := "blameWraps", inPlace := ["internal/reflectlite.ValueOf", "(internal/reflectlite.Value).Type", "(internal/reflectlite.Value).IsNil", "internal/reflectlite.TypeOf", "(internal/reflectlite.Value).Elem", "(internal/reflectlite.Value).Set"], unfollowed := true, recurses := true, named := ["errors.errorType"], apart := false, laid := [("errors.errorType", laid_errors_errorType)] }
def BlameWrapsSaid : Prop := blameWrapsRow.holds Tryd.pinned (OpenSpec.ofChange blameWrapsSpec)

/-- ITS FALSE NEIGHBOUR: 'it returns false'. Refute it at one input. -/
def blameWrapsWrong : ChangeSpec := { name := "blameWraps", fn := fun _ => fun
  | [d1, d2, d3] => { results := [.lit (.bool false)], args := [d1, d2, d3] }
  | _ => none }
def BlameWrapsWrongFalsely : Prop := blameWrapsRow.holds Tryd.pinned (OpenSpec.ofChange blameWrapsWrong)

/-- 'espalierlaw06.BlameJoins': WHATEVER THE INPUT: true; the input reads as it did. -/
def blameJoinsSpec : ChangeSpec := { name := "blameJoins", fn := fun _ => fun
  | [d1, d2] => { results := [.lit (.bool true)], args := [d1, d2] }
  | _ => none }
def blameJoinsRow : OpenClaim := { program := "ytbeahcfghjiogaadoor", sum := "33d302fd6bd1bbbe3212d472d6b8961fbb3d3085f70fe1947b7a913e1d3e2e36", func := "espalier/espalierlaw06.BlameJoins", spec := "blameJoins", inPlace := ["internal/reflectlite.TypeOf", "internal/reflectlite.ValueOf", "(internal/reflectlite.Value).Type", "(internal/reflectlite.Value).IsNil", "(internal/reflectlite.Value).Elem", "(internal/reflectlite.Value).Set"], unfollowed := true, recurses := true, named := ["errors.errorType"], apart := false, laid := [("errors.errorType", laid_errors_errorType)] }
def BlameJoinsSaid : Prop := blameJoinsRow.holds Tryd.pinned (OpenSpec.ofChange blameJoinsSpec)

/-- ITS FALSE NEIGHBOUR: 'it returns false'. Refute it at one input. -/
def blameJoinsWrong : ChangeSpec := { name := "blameJoins", fn := fun _ => fun
  | [d1, d2] => { results := [.lit (.bool false)], args := [d1, d2] }
  | _ => none }
def BlameJoinsWrongFalsely : Prop := blameJoinsRow.holds Tryd.pinned (OpenSpec.ofChange blameJoinsWrong)

/-- 'espalierlaw06.BlameNew': WHATEVER THE INPUT: true; the input reads as it did. -/
def blameNewSpec : ChangeSpec := { name := "blameNew", fn := fun _ => fun
  | [d1, d2] => { results := [.lit (.bool true)], args := [d1, d2] }
  | _ => none }
def blameNewRow : OpenClaim := { program := "ytbeahcfghjiogaadoor", sum := "33d302fd6bd1bbbe3212d472d6b8961fbb3d3085f70fe1947b7a913e1d3e2e36", func := "espalier/espalierlaw06.BlameNew", spec := "blameNew", inPlace := ["internal/reflectlite.ValueOf", "(internal/reflectlite.Value).Type", "(internal/reflectlite.Value).IsNil", "internal/reflectlite.TypeOf", "(internal/reflectlite.Value).Elem", "(internal/reflectlite.Value).Set"], unfollowed := true, recurses := true, named := ["errors.errorType"], apart := false, laid := [("errors.errorType", laid_errors_errorType)] }
def BlameNewSaid : Prop := blameNewRow.holds Tryd.pinned (OpenSpec.ofChange blameNewSpec)

/-- ITS FALSE NEIGHBOUR: 'it returns false'. Refute it at one input. -/
def blameNewWrong : ChangeSpec := { name := "blameNew", fn := fun _ => fun
  | [d1, d2] => { results := [.lit (.bool false)], args := [d1, d2] }
  | _ => none }
def BlameNewWrongFalsely : Prop := blameNewRow.holds Tryd.pinned (OpenSpec.ofChange blameNewWrong)

/- THE SECOND FORM. 'bulk': how many values and letters a reading holds, each counted each time it is reached (what is shared counts as often as it is met; a slice's spare places count too). A statement '..UptoSaid' is the law's where the arguments, and the package variables that the reading takes, are together of bulk at most 1048576: NARROWER than '..Said'. Prove '..Said' where nothing that the law and all that it calls make is longer than what came in: it says more and counts as full. Else prove '..UptoSaid'. A law counts once. -/
mutual
def uptoBulk {H : Type} : DataW H → Nat
  | .lit (.string bytes) => bytes.length + 1
  | .lit _ => 1
  | .nil => 1
  | .ptr d => uptoBulk d + 1
  | .slice elems spare => uptoBulkAll elems + uptoBulkAll spare + 1
  | .agg parts => uptoBulkAll parts + 1
  | .iface _ d => uptoBulk d + 1
  | .map entries => uptoBulkEntries entries + 1
  | .held _ => 1
def uptoBulkAll {H : Type} : List (DataW H) → Nat
  | [] => 0
  | d :: r => uptoBulk d + uptoBulkAll r
def uptoBulkEntries {H : Type} : List (Lit × DataW H) → Nat
  | [] => 0
  | x :: r => uptoBulkEntry x + uptoBulkEntries r
def uptoBulkEntry {H : Type} : Lit × DataW H → Nat
  | (.string bytes, d) => bytes.length + uptoBulk d + 1
  | (_, d) => uptoBulk d + 1
 end
def uptoSmall : (H : Type) → List (DataW H) → Bool := fun _ ds => decide (uptoBulkAll ds ≤ 1048576)
def OpenSpec.upto (s : _root_.Go.ChangeSpec) : _root_.Go.OpenSpec := { _root_.Go.OpenSpec.ofChange s with cond := some uptoSmall }

/-- 'espalierlaw06.BlameDoes', WHERE WHAT IT READS IS OF BULK AT MOST 1048576: true; the input reads as it did. -/
def blameDoesUptoRow : OpenClaim := { program := "ytbeahcfghjiogaadoor", sum := "33d302fd6bd1bbbe3212d472d6b8961fbb3d3085f70fe1947b7a913e1d3e2e36", func := "espalier/espalierlaw06.BlameDoes", spec := "blameDoes", inPlace := ["internal/reflectlite.ValueOf", "(internal/reflectlite.Value).Type", "(internal/reflectlite.Value).IsNil", "internal/reflectlite.TypeOf", "(internal/reflectlite.Value).Elem", "(internal/reflectlite.Value).Set"], unfollowed := true, recurses := true, named := ["errors.errorType"], apart := false, laid := [("errors.errorType", laid_errors_errorType)], narrowed := true }
def BlameDoesUptoSaid : Prop := blameDoesUptoRow.holds Tryd.pinned (OpenSpec.upto blameDoesSpec)

/-- 'espalierlaw06.BlameWraps', WHERE WHAT IT READS IS OF BULK AT MOST 1048576: true; the input reads as it did. -/
def blameWrapsUptoRow : OpenClaim := { program := "ytbeahcfghjiogaadoor", sum := "33d302fd6bd1bbbe3212d472d6b8961fbb3d3085f70fe1947b7a913e1d3e2e36", func := "espalier/espalierlaw06.BlameWraps", spec := "blameWraps", inPlace := ["internal/reflectlite.ValueOf", "(internal/reflectlite.Value).Type", "(internal/reflectlite.Value).IsNil", "internal/reflectlite.TypeOf", "(internal/reflectlite.Value).Elem", "(internal/reflectlite.Value).Set"], unfollowed := true, recurses := true, named := ["errors.errorType"], apart := false, laid := [("errors.errorType", laid_errors_errorType)], narrowed := true }
def BlameWrapsUptoSaid : Prop := blameWrapsUptoRow.holds Tryd.pinned (OpenSpec.upto blameWrapsSpec)

/-- 'espalierlaw06.BlameJoins', WHERE WHAT IT READS IS OF BULK AT MOST 1048576: true; the input reads as it did. -/
def blameJoinsUptoRow : OpenClaim := { program := "ytbeahcfghjiogaadoor", sum := "33d302fd6bd1bbbe3212d472d6b8961fbb3d3085f70fe1947b7a913e1d3e2e36", func := "espalier/espalierlaw06.BlameJoins", spec := "blameJoins", inPlace := ["internal/reflectlite.TypeOf", "internal/reflectlite.ValueOf", "(internal/reflectlite.Value).Type", "(internal/reflectlite.Value).IsNil", "(internal/reflectlite.Value).Elem", "(internal/reflectlite.Value).Set"], unfollowed := true, recurses := true, named := ["errors.errorType"], apart := false, laid := [("errors.errorType", laid_errors_errorType)], narrowed := true }
def BlameJoinsUptoSaid : Prop := blameJoinsUptoRow.holds Tryd.pinned (OpenSpec.upto blameJoinsSpec)

/-- 'espalierlaw06.BlameNew', WHERE WHAT IT READS IS OF BULK AT MOST 1048576: true; the input reads as it did. -/
def blameNewUptoRow : OpenClaim := { program := "ytbeahcfghjiogaadoor", sum := "33d302fd6bd1bbbe3212d472d6b8961fbb3d3085f70fe1947b7a913e1d3e2e36", func := "espalier/espalierlaw06.BlameNew", spec := "blameNew", inPlace := ["internal/reflectlite.ValueOf", "(internal/reflectlite.Value).Type", "(internal/reflectlite.Value).IsNil", "internal/reflectlite.TypeOf", "(internal/reflectlite.Value).Elem", "(internal/reflectlite.Value).Set"], unfollowed := true, recurses := true, named := ["errors.errorType"], apart := false, laid := [("errors.errorType", laid_errors_errorType)], narrowed := true }
def BlameNewUptoSaid : Prop := blameNewUptoRow.holds Tryd.pinned (OpenSpec.upto blameNewSpec)

end Rows
end Go.Proofs.YtbeahcfghjiogaaDoor
