/-
  NARROWER THAN 'FOR EVERY INPUT', by the rows' own cells (each row's printed sentence says how): ClientStarts: laid · ClientOnce: laid · ClientEnds: laid · ClientSteps: laid · ClientAsks: laid · BlameDoes: laid · BlameWraps: laid · BlameJoins: laid · BlameNew: laid.
  DERIVED. THE GIVEN ROWS OF THIS SEAT. 9 by the template 'for every input the law returns true; each argument reads behind the call as it read before'; 0 by the template 'total and deterministic' (their statements: YtelpkhhfjfbkcaaDoorTotals.lean).
  GIVEN WITH THE SEED: the statements are not yours to turn. If you find one false, say at which input.
  Laid BY PROGRAM, IN A SANDBOX (cutbox-rows.mjs): the forced cells as the released guide's own fill.sh prints them over the translation e5843fa8097ce185… (all of the seat's roots in one cut). By AI agents, Wed Nov 11 2026. No macro, syntax, notation, axiom, sorry.
-/
import Derived.Test.YtelpkhhfjfbkcaaDoorChecked
import GoSem.Claim
import GoSem.ClaimJoined
import GoSem.ClaimMapViews
import Derived.JoinedTies
import Derived.KernelRfl
namespace Go.Proofs.YtelpkhhfjfbkcaaDoor
/- THE CELL 'sum', in the pinned program and in every row, IS THE sha256 OF THE DUMP (.gsa) THAT YtelpkhhfjfbkcaaDoorProg.lean LOADS. Nothing in Lean hashes anything: it is a label: what it is worth is what the hold of that sum in a sandbox is worth. -/
noncomputable def Tryd.pinned : Pinned := { name := "ytelpkhhfjfbkcaadoor", sum := "e5843fa8097ce185c9bd95b17d91a98cc340d9872dfb84796293b575695225eb", checked := Tryd.checked }
namespace Rows
def none {H : Type} : Left H := { results := [], args := [] }

/- WHAT THE LISTED PACKAGE-LEVEL VARIABLES READ AS WHEN THE CALL BEGINS. Each datum BY PROGRAM (the guide's laid-datum.mjs) off the statement by which the dump's own 'gosem.cut.vars' lays the variable. In a bare row this is a premise. The card (YtelpkhhfjfbkcaaDoorCards.lean) ties it to the program's text. -/
def laid_errors_errorType {H : Type} : DataW H := .iface "internal/reflectlite.rtype" (.agg [.ptr (.lit (.string [101, 114, 114, 111, 114]))])

/-- 'espalierlaw21.ClientStarts': WHATEVER THE INPUT: true; the input reads as it did. -/
def clientStartsSpec : ChangeSpec := { name := "clientStarts", fn := fun _ => fun
  | [d1, d2, d3, d4, d5, d6] => { results := [.lit (.bool true)], args := [d1, d2, d3, d4, d5, d6] }
  | _ => none }
def clientStartsRow : OpenClaim := { program := "ytelpkhhfjfbkcaadoor", sum := "e5843fa8097ce185c9bd95b17d91a98cc340d9872dfb84796293b575695225eb", func := "espalier/espalierlaw21.ClientStarts", spec := "clientStarts", inPlace := ["internal/reflectlite.TypeOf", "internal/reflectlite.ValueOf", "(internal/reflectlite.Value).Type", "(internal/reflectlite.Value).IsNil", "(internal/reflectlite.Value).Elem", "(internal/reflectlite.Value).Set"], unfollowed := true, recurses := true, named := ["errors.errorType"], apart := false, laid := [("errors.errorType", laid_errors_errorType)] }
def ClientStartsSaid : Prop := clientStartsRow.holds Tryd.pinned (OpenSpec.ofChange clientStartsSpec)

/-- ITS FALSE NEIGHBOUR: 'it returns false'. Refute it at one input. -/
def clientStartsWrong : ChangeSpec := { name := "clientStarts", fn := fun _ => fun
  | [d1, d2, d3, d4, d5, d6] => { results := [.lit (.bool false)], args := [d1, d2, d3, d4, d5, d6] }
  | _ => none }
def ClientStartsWrongFalsely : Prop := clientStartsRow.holds Tryd.pinned (OpenSpec.ofChange clientStartsWrong)

/-- 'espalierlaw21.ClientOnce': WHATEVER THE INPUT: true; the input reads as it did. -/
def clientOnceSpec : ChangeSpec := { name := "clientOnce", fn := fun _ => fun
  | [d1, d2] => { results := [.lit (.bool true)], args := [d1, d2] }
  | _ => none }
def clientOnceRow : OpenClaim := { program := "ytelpkhhfjfbkcaadoor", sum := "e5843fa8097ce185c9bd95b17d91a98cc340d9872dfb84796293b575695225eb", func := "espalier/espalierlaw21.ClientOnce", spec := "clientOnce", inPlace := ["internal/reflectlite.TypeOf", "internal/reflectlite.ValueOf", "(internal/reflectlite.Value).Type", "(internal/reflectlite.Value).IsNil", "(internal/reflectlite.Value).Elem", "(internal/reflectlite.Value).Set"], unfollowed := true, recurses := true, named := ["errors.errorType"], apart := false, laid := [("errors.errorType", laid_errors_errorType)] }
def ClientOnceSaid : Prop := clientOnceRow.holds Tryd.pinned (OpenSpec.ofChange clientOnceSpec)

/-- ITS FALSE NEIGHBOUR: 'it returns false'. Refute it at one input. -/
def clientOnceWrong : ChangeSpec := { name := "clientOnce", fn := fun _ => fun
  | [d1, d2] => { results := [.lit (.bool false)], args := [d1, d2] }
  | _ => none }
def ClientOnceWrongFalsely : Prop := clientOnceRow.holds Tryd.pinned (OpenSpec.ofChange clientOnceWrong)

/-- 'espalierlaw21.ClientEnds': WHATEVER THE INPUT: true; the input reads as it did. -/
def clientEndsSpec : ChangeSpec := { name := "clientEnds", fn := fun _ => fun
  | [d1, d2, d3] => { results := [.lit (.bool true)], args := [d1, d2, d3] }
  | _ => none }
def clientEndsRow : OpenClaim := { program := "ytelpkhhfjfbkcaadoor", sum := "e5843fa8097ce185c9bd95b17d91a98cc340d9872dfb84796293b575695225eb", func := "espalier/espalierlaw21.ClientEnds", spec := "clientEnds", inPlace := ["internal/reflectlite.TypeOf", "internal/reflectlite.ValueOf", "(internal/reflectlite.Value).Type", "(internal/reflectlite.Value).IsNil", "(internal/reflectlite.Value).Elem", "(internal/reflectlite.Value).Set"], unfollowed := true, recurses := true, named := ["errors.errorType"], apart := false, laid := [("errors.errorType", laid_errors_errorType)] }
def ClientEndsSaid : Prop := clientEndsRow.holds Tryd.pinned (OpenSpec.ofChange clientEndsSpec)

/-- ITS FALSE NEIGHBOUR: 'it returns false'. Refute it at one input. -/
def clientEndsWrong : ChangeSpec := { name := "clientEnds", fn := fun _ => fun
  | [d1, d2, d3] => { results := [.lit (.bool false)], args := [d1, d2, d3] }
  | _ => none }
def ClientEndsWrongFalsely : Prop := clientEndsRow.holds Tryd.pinned (OpenSpec.ofChange clientEndsWrong)

/-- 'espalierlaw21.ClientSteps': WHATEVER THE INPUT: true; the input reads as it did. -/
def clientStepsSpec : ChangeSpec := { name := "clientSteps", fn := fun _ => fun
  | [d1, d2, d3, d4, d5] => { results := [.lit (.bool true)], args := [d1, d2, d3, d4, d5] }
  | _ => none }
def clientStepsRow : OpenClaim := { program := "ytelpkhhfjfbkcaadoor", sum := "e5843fa8097ce185c9bd95b17d91a98cc340d9872dfb84796293b575695225eb", func := "espalier/espalierlaw21.ClientSteps", spec := "clientSteps", inPlace := ["internal/bytealg.Compare", "internal/reflectlite.TypeOf", "internal/reflectlite.ValueOf", "(internal/reflectlite.Value).Type", "(internal/reflectlite.Value).IsNil", "(internal/reflectlite.Value).Elem", "(internal/reflectlite.Value).Set"], unfollowed := true, recurses := true, named := ["errors.errorType"], apart := false, laid := [("errors.errorType", laid_errors_errorType)] }
def ClientStepsSaid : Prop := clientStepsRow.holds Tryd.pinned (OpenSpec.ofChange clientStepsSpec)

/-- ITS FALSE NEIGHBOUR: 'it returns false'. Refute it at one input. -/
def clientStepsWrong : ChangeSpec := { name := "clientSteps", fn := fun _ => fun
  | [d1, d2, d3, d4, d5] => { results := [.lit (.bool false)], args := [d1, d2, d3, d4, d5] }
  | _ => none }
def ClientStepsWrongFalsely : Prop := clientStepsRow.holds Tryd.pinned (OpenSpec.ofChange clientStepsWrong)

/-- 'espalierlaw21.ClientAsks': WHATEVER THE INPUT: true; the input reads as it did. -/
def clientAsksSpec : ChangeSpec := { name := "clientAsks", fn := fun _ => fun
  | [d1, d2, d3] => { results := [.lit (.bool true)], args := [d1, d2, d3] }
  | _ => none }
def clientAsksRow : OpenClaim := { program := "ytelpkhhfjfbkcaadoor", sum := "e5843fa8097ce185c9bd95b17d91a98cc340d9872dfb84796293b575695225eb", func := "espalier/espalierlaw21.ClientAsks", spec := "clientAsks", inPlace := ["internal/bytealg.Compare", "internal/reflectlite.TypeOf", "internal/reflectlite.ValueOf", "(internal/reflectlite.Value).Type", "(internal/reflectlite.Value).IsNil", "(internal/reflectlite.Value).Elem", "(internal/reflectlite.Value).Set"], unfollowed := true, recurses := true, named := ["errors.errorType"], apart := false, laid := [("errors.errorType", laid_errors_errorType)] }
def ClientAsksSaid : Prop := clientAsksRow.holds Tryd.pinned (OpenSpec.ofChange clientAsksSpec)

/-- ITS FALSE NEIGHBOUR: 'it returns false'. Refute it at one input. -/
def clientAsksWrong : ChangeSpec := { name := "clientAsks", fn := fun _ => fun
  | [d1, d2, d3] => { results := [.lit (.bool false)], args := [d1, d2, d3] }
  | _ => none }
def ClientAsksWrongFalsely : Prop := clientAsksRow.holds Tryd.pinned (OpenSpec.ofChange clientAsksWrong)

/-- 'espalierlaw06.BlameDoes': WHATEVER THE INPUT: true; the input reads as it did. -/
def blameDoesSpec : ChangeSpec := { name := "blameDoes", fn := fun _ => fun
  | [d1, d2] => { results := [.lit (.bool true)], args := [d1, d2] }
  | _ => none }
def blameDoesRow : OpenClaim := { program := "ytelpkhhfjfbkcaadoor", sum := "e5843fa8097ce185c9bd95b17d91a98cc340d9872dfb84796293b575695225eb", func := "espalier/espalierlaw06.BlameDoes", spec := "blameDoes", inPlace := ["internal/reflectlite.ValueOf", "(internal/reflectlite.Value).Type", "(internal/reflectlite.Value).IsNil", "internal/reflectlite.TypeOf", "(internal/reflectlite.Value).Elem", "(internal/reflectlite.Value).Set"], unfollowed := true, recurses := true, named := ["errors.errorType"], apart := false, laid := [("errors.errorType", laid_errors_errorType)] }
def BlameDoesSaid : Prop := blameDoesRow.holds Tryd.pinned (OpenSpec.ofChange blameDoesSpec)

/-- ITS FALSE NEIGHBOUR: 'it returns false'. Refute it at one input. -/
def blameDoesWrong : ChangeSpec := { name := "blameDoes", fn := fun _ => fun
  | [d1, d2] => { results := [.lit (.bool false)], args := [d1, d2] }
  | _ => none }
def BlameDoesWrongFalsely : Prop := blameDoesRow.holds Tryd.pinned (OpenSpec.ofChange blameDoesWrong)

/-- 'espalierlaw06.BlameWraps': WHATEVER THE INPUT: true; the input reads as it did. -/
def blameWrapsSpec : ChangeSpec := { name := "blameWraps", fn := fun _ => fun
  | [d1, d2, d3] => { results := [.lit (.bool true)], args := [d1, d2, d3] }
  | _ => none }
def blameWrapsRow : OpenClaim := { program := "ytelpkhhfjfbkcaadoor", sum := "e5843fa8097ce185c9bd95b17d91a98cc340d9872dfb84796293b575695225eb", func := "espalier/espalierlaw06.BlameWraps", spec := "blameWraps", inPlace := ["internal/reflectlite.ValueOf", "(internal/reflectlite.Value).Type", "(internal/reflectlite.Value).IsNil", "internal/reflectlite.TypeOf", "(internal/reflectlite.Value).Elem", "(internal/reflectlite.Value).Set"], unfollowed := true, recurses := true, named := ["errors.errorType"], apart := false, laid := [("errors.errorType", laid_errors_errorType)] }
def BlameWrapsSaid : Prop := blameWrapsRow.holds Tryd.pinned (OpenSpec.ofChange blameWrapsSpec)

/-- ITS FALSE NEIGHBOUR: 'it returns false'. Refute it at one input. -/
def blameWrapsWrong : ChangeSpec := { name := "blameWraps", fn := fun _ => fun
  | [d1, d2, d3] => { results := [.lit (.bool false)], args := [d1, d2, d3] }
  | _ => none }
def BlameWrapsWrongFalsely : Prop := blameWrapsRow.holds Tryd.pinned (OpenSpec.ofChange blameWrapsWrong)

/-- 'espalierlaw06.BlameJoins': WHATEVER THE INPUT: true; the input reads as it did. -/
def blameJoinsSpec : ChangeSpec := { name := "blameJoins", fn := fun _ => fun
  | [d1, d2] => { results := [.lit (.bool true)], args := [d1, d2] }
  | _ => none }
def blameJoinsRow : OpenClaim := { program := "ytelpkhhfjfbkcaadoor", sum := "e5843fa8097ce185c9bd95b17d91a98cc340d9872dfb84796293b575695225eb", func := "espalier/espalierlaw06.BlameJoins", spec := "blameJoins", inPlace := ["internal/reflectlite.TypeOf", "internal/reflectlite.ValueOf", "(internal/reflectlite.Value).Type", "(internal/reflectlite.Value).IsNil", "(internal/reflectlite.Value).Elem", "(internal/reflectlite.Value).Set"], unfollowed := true, recurses := true, named := ["errors.errorType"], apart := false, laid := [("errors.errorType", laid_errors_errorType)] }
def BlameJoinsSaid : Prop := blameJoinsRow.holds Tryd.pinned (OpenSpec.ofChange blameJoinsSpec)

/-- ITS FALSE NEIGHBOUR: 'it returns false'. Refute it at one input. -/
def blameJoinsWrong : ChangeSpec := { name := "blameJoins", fn := fun _ => fun
  | [d1, d2] => { results := [.lit (.bool false)], args := [d1, d2] }
  | _ => none }
def BlameJoinsWrongFalsely : Prop := blameJoinsRow.holds Tryd.pinned (OpenSpec.ofChange blameJoinsWrong)

/-- 'espalierlaw06.BlameNew': WHATEVER THE INPUT: true; the input reads as it did. -/
def blameNewSpec : ChangeSpec := { name := "blameNew", fn := fun _ => fun
  | [d1, d2] => { results := [.lit (.bool true)], args := [d1, d2] }
  | _ => none }
def blameNewRow : OpenClaim := { program := "ytelpkhhfjfbkcaadoor", sum := "e5843fa8097ce185c9bd95b17d91a98cc340d9872dfb84796293b575695225eb", func := "espalier/espalierlaw06.BlameNew", spec := "blameNew", inPlace := ["internal/reflectlite.ValueOf", "(internal/reflectlite.Value).Type", "(internal/reflectlite.Value).IsNil", "internal/reflectlite.TypeOf", "(internal/reflectlite.Value).Elem", "(internal/reflectlite.Value).Set"], unfollowed := true, recurses := true, named := ["errors.errorType"], apart := false, laid := [("errors.errorType", laid_errors_errorType)] }
def BlameNewSaid : Prop := blameNewRow.holds Tryd.pinned (OpenSpec.ofChange blameNewSpec)

/-- ITS FALSE NEIGHBOUR: 'it returns false'. Refute it at one input. -/
def blameNewWrong : ChangeSpec := { name := "blameNew", fn := fun _ => fun
  | [d1, d2] => { results := [.lit (.bool false)], args := [d1, d2] }
  | _ => none }
def BlameNewWrongFalsely : Prop := blameNewRow.holds Tryd.pinned (OpenSpec.ofChange blameNewWrong)

/- THE SECOND FORM. 'bulk': how many values and letters a reading holds, each counted each time it is reached (what is shared counts as often as it is met; a slice's spare places count too). A statement '..UptoSaid' is the law's where the arguments, and the package variables that the reading takes, are together of bulk at most 1048576: NARROWER than '..Said'. Prove '..Said' where nothing that the law and all that it calls make is longer than what came in: it says more and counts as full. Else prove '..UptoSaid'. A law counts once. -/
mutual
def uptoBulk {H : Type} : DataW H → Nat
  | .lit (.string bytes) => bytes.length + 1
  | .lit _ => 1
  | .nil => 1
  | .ptr d => uptoBulk d + 1
  | .slice elems spare => uptoBulkAll elems + uptoBulkAll spare + 1
  | .agg parts => uptoBulkAll parts + 1
  | .iface _ d => uptoBulk d + 1
  | .map entries => uptoBulkEntries entries + 1
  | .held _ => 1
def uptoBulkAll {H : Type} : List (DataW H) → Nat
  | [] => 0
  | d :: r => uptoBulk d + uptoBulkAll r
def uptoBulkEntries {H : Type} : List (Lit × DataW H) → Nat
  | [] => 0
  | x :: r => uptoBulkEntry x + uptoBulkEntries r
def uptoBulkEntry {H : Type} : Lit × DataW H → Nat
  | (.string bytes, d) => bytes.length + uptoBulk d + 1
  | (_, d) => uptoBulk d + 1
 end
def uptoSmall : (H : Type) → List (DataW H) → Bool := fun _ ds => decide (uptoBulkAll ds ≤ 1048576)
def OpenSpec.upto (s : _root_.Go.ChangeSpec) : _root_.Go.OpenSpec := { _root_.Go.OpenSpec.ofChange s with cond := some uptoSmall }

/-- 'espalierlaw21.ClientStarts', WHERE WHAT IT READS IS OF BULK AT MOST 1048576: true; the input reads as it did. -/
def clientStartsUptoRow : OpenClaim := { program := "ytelpkhhfjfbkcaadoor", sum := "e5843fa8097ce185c9bd95b17d91a98cc340d9872dfb84796293b575695225eb", func := "espalier/espalierlaw21.ClientStarts", spec := "clientStarts", inPlace := ["internal/reflectlite.TypeOf", "internal/reflectlite.ValueOf", "(internal/reflectlite.Value).Type", "(internal/reflectlite.Value).IsNil", "(internal/reflectlite.Value).Elem", "(internal/reflectlite.Value).Set"], unfollowed := true, recurses := true, named := ["errors.errorType"], apart := false, laid := [("errors.errorType", laid_errors_errorType)], narrowed := true }
def ClientStartsUptoSaid : Prop := clientStartsUptoRow.holds Tryd.pinned (OpenSpec.upto clientStartsSpec)

/-- 'espalierlaw21.ClientOnce', WHERE WHAT IT READS IS OF BULK AT MOST 1048576: true; the input reads as it did. -/
def clientOnceUptoRow : OpenClaim := { program := "ytelpkhhfjfbkcaadoor", sum := "e5843fa8097ce185c9bd95b17d91a98cc340d9872dfb84796293b575695225eb", func := "espalier/espalierlaw21.ClientOnce", spec := "clientOnce", inPlace := ["internal/reflectlite.TypeOf", "internal/reflectlite.ValueOf", "(internal/reflectlite.Value).Type", "(internal/reflectlite.Value).IsNil", "(internal/reflectlite.Value).Elem", "(internal/reflectlite.Value).Set"], unfollowed := true, recurses := true, named := ["errors.errorType"], apart := false, laid := [("errors.errorType", laid_errors_errorType)], narrowed := true }
def ClientOnceUptoSaid : Prop := clientOnceUptoRow.holds Tryd.pinned (OpenSpec.upto clientOnceSpec)

/-- 'espalierlaw21.ClientEnds', WHERE WHAT IT READS IS OF BULK AT MOST 1048576: true; the input reads as it did. -/
def clientEndsUptoRow : OpenClaim := { program := "ytelpkhhfjfbkcaadoor", sum := "e5843fa8097ce185c9bd95b17d91a98cc340d9872dfb84796293b575695225eb", func := "espalier/espalierlaw21.ClientEnds", spec := "clientEnds", inPlace := ["internal/reflectlite.TypeOf", "internal/reflectlite.ValueOf", "(internal/reflectlite.Value).Type", "(internal/reflectlite.Value).IsNil", "(internal/reflectlite.Value).Elem", "(internal/reflectlite.Value).Set"], unfollowed := true, recurses := true, named := ["errors.errorType"], apart := false, laid := [("errors.errorType", laid_errors_errorType)], narrowed := true }
def ClientEndsUptoSaid : Prop := clientEndsUptoRow.holds Tryd.pinned (OpenSpec.upto clientEndsSpec)

/-- 'espalierlaw21.ClientSteps', WHERE WHAT IT READS IS OF BULK AT MOST 1048576: true; the input reads as it did. -/
def clientStepsUptoRow : OpenClaim := { program := "ytelpkhhfjfbkcaadoor", sum := "e5843fa8097ce185c9bd95b17d91a98cc340d9872dfb84796293b575695225eb", func := "espalier/espalierlaw21.ClientSteps", spec := "clientSteps", inPlace := ["internal/bytealg.Compare", "internal/reflectlite.TypeOf", "internal/reflectlite.ValueOf", "(internal/reflectlite.Value).Type", "(internal/reflectlite.Value).IsNil", "(internal/reflectlite.Value).Elem", "(internal/reflectlite.Value).Set"], unfollowed := true, recurses := true, named := ["errors.errorType"], apart := false, laid := [("errors.errorType", laid_errors_errorType)], narrowed := true }
def ClientStepsUptoSaid : Prop := clientStepsUptoRow.holds Tryd.pinned (OpenSpec.upto clientStepsSpec)

/-- 'espalierlaw21.ClientAsks', WHERE WHAT IT READS IS OF BULK AT MOST 1048576: true; the input reads as it did. -/
def clientAsksUptoRow : OpenClaim := { program := "ytelpkhhfjfbkcaadoor", sum := "e5843fa8097ce185c9bd95b17d91a98cc340d9872dfb84796293b575695225eb", func := "espalier/espalierlaw21.ClientAsks", spec := "clientAsks", inPlace := ["internal/bytealg.Compare", "internal/reflectlite.TypeOf", "internal/reflectlite.ValueOf", "(internal/reflectlite.Value).Type", "(internal/reflectlite.Value).IsNil", "(internal/reflectlite.Value).Elem", "(internal/reflectlite.Value).Set"], unfollowed := true, recurses := true, named := ["errors.errorType"], apart := false, laid := [("errors.errorType", laid_errors_errorType)], narrowed := true }
def ClientAsksUptoSaid : Prop := clientAsksUptoRow.holds Tryd.pinned (OpenSpec.upto clientAsksSpec)

/-- 'espalierlaw06.BlameDoes', WHERE WHAT IT READS IS OF BULK AT MOST 1048576: true; the input reads as it did. -/
def blameDoesUptoRow : OpenClaim := { program := "ytelpkhhfjfbkcaadoor", sum := "e5843fa8097ce185c9bd95b17d91a98cc340d9872dfb84796293b575695225eb", func := "espalier/espalierlaw06.BlameDoes", spec := "blameDoes", inPlace := ["internal/reflectlite.ValueOf", "(internal/reflectlite.Value).Type", "(internal/reflectlite.Value).IsNil", "internal/reflectlite.TypeOf", "(internal/reflectlite.Value).Elem", "(internal/reflectlite.Value).Set"], unfollowed := true, recurses := true, named := ["errors.errorType"], apart := false, laid := [("errors.errorType", laid_errors_errorType)], narrowed := true }
def BlameDoesUptoSaid : Prop := blameDoesUptoRow.holds Tryd.pinned (OpenSpec.upto blameDoesSpec)

/-- 'espalierlaw06.BlameWraps', WHERE WHAT IT READS IS OF BULK AT MOST 1048576: true; the input reads as it did. -/
def blameWrapsUptoRow : OpenClaim := { program := "ytelpkhhfjfbkcaadoor", sum := "e5843fa8097ce185c9bd95b17d91a98cc340d9872dfb84796293b575695225eb", func := "espalier/espalierlaw06.BlameWraps", spec := "blameWraps", inPlace := ["internal/reflectlite.ValueOf", "(internal/reflectlite.Value).Type", "(internal/reflectlite.Value).IsNil", "internal/reflectlite.TypeOf", "(internal/reflectlite.Value).Elem", "(internal/reflectlite.Value).Set"], unfollowed := true, recurses := true, named := ["errors.errorType"], apart := false, laid := [("errors.errorType", laid_errors_errorType)], narrowed := true }
def BlameWrapsUptoSaid : Prop := blameWrapsUptoRow.holds Tryd.pinned (OpenSpec.upto blameWrapsSpec)

/-- 'espalierlaw06.BlameJoins', WHERE WHAT IT READS IS OF BULK AT MOST 1048576: true; the input reads as it did. -/
def blameJoinsUptoRow : OpenClaim := { program := "ytelpkhhfjfbkcaadoor", sum := "e5843fa8097ce185c9bd95b17d91a98cc340d9872dfb84796293b575695225eb", func := "espalier/espalierlaw06.BlameJoins", spec := "blameJoins", inPlace := ["internal/reflectlite.TypeOf", "internal/reflectlite.ValueOf", "(internal/reflectlite.Value).Type", "(internal/reflectlite.Value).IsNil", "(internal/reflectlite.Value).Elem", "(internal/reflectlite.Value).Set"], unfollowed := true, recurses := true, named := ["errors.errorType"], apart := false, laid := [("errors.errorType", laid_errors_errorType)], narrowed := true }
def BlameJoinsUptoSaid : Prop := blameJoinsUptoRow.holds Tryd.pinned (OpenSpec.upto blameJoinsSpec)

/-- 'espalierlaw06.BlameNew', WHERE WHAT IT READS IS OF BULK AT MOST 1048576: true; the input reads as it did. -/
def blameNewUptoRow : OpenClaim := { program := "ytelpkhhfjfbkcaadoor", sum := "e5843fa8097ce185c9bd95b17d91a98cc340d9872dfb84796293b575695225eb", func := "espalier/espalierlaw06.BlameNew", spec := "blameNew", inPlace := ["internal/reflectlite.ValueOf", "(internal/reflectlite.Value).Type", "(internal/reflectlite.Value).IsNil", "internal/reflectlite.TypeOf", "(internal/reflectlite.Value).Elem", "(internal/reflectlite.Value).Set"], unfollowed := true, recurses := true, named := ["errors.errorType"], apart := false, laid := [("errors.errorType", laid_errors_errorType)], narrowed := true }
def BlameNewUptoSaid : Prop := blameNewUptoRow.holds Tryd.pinned (OpenSpec.upto blameNewSpec)

end Rows
end Go.Proofs.YtelpkhhfjfbkcaaDoor
