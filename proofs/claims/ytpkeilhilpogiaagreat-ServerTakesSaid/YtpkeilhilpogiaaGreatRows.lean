/-
  No cell of these rows narrows 'for every input' (looked for: loops, veiled, ifaces, maps, wideKeys, modest, calm, conditions, laid).
  DERIVED. THE GIVEN ROWS OF THIS SEAT. 5 by the template 'for every input the law returns true; each argument reads behind the call as it read before'; 0 by the template 'total and deterministic' (their statements: YtpkeilhilpogiaaGreatTotals.lean).
  GIVEN WITH THE SEED: the statements are not yours to turn. If you find one false, say at which input.
  Laid BY PROGRAM, IN A SANDBOX (cutbox-rows.mjs): the forced cells as the released guide's own fill.sh prints them over the translation aae5937e96fb6a09… (all of the seat's roots in one cut). By AI agents, Wed Nov 11 2026. No macro, syntax, notation, axiom, sorry.
-/
import Derived.Test.YtpkeilhilpogiaaGreatChecked
import GoSem.Claim
import GoSem.ClaimJoined
import GoSem.ClaimMapViews
import Derived.JoinedTies
import Derived.KernelRfl
namespace Go.Proofs.YtpkeilhilpogiaaGreat
/- THE CELL 'sum', in the pinned program and in every row, IS THE sha256 OF THE DUMP (.gsa) THAT YtpkeilhilpogiaaGreatProg.lean LOADS. Nothing in Lean hashes anything: it is a label: what it is worth is what the hold of that sum in a sandbox is worth. -/
noncomputable def Tryz.pinned : Pinned := { name := "ytpkeilhilpogiaagreat", sum := "aae5937e96fb6a0912f3b23e53c7f2f77a107d80119c827caf68692a56f9c369", checked := Tryz.checked }
namespace Rows
def none {H : Type} : Left H := { results := [], args := [] }

/-- 'espalierlaw20.ServerTakes': WHATEVER THE INPUT: true; the input reads as it did. -/
def serverTakesSpec : ChangeSpec := { name := "serverTakes", fn := fun _ => fun
  | [d1, d2, d3, d4, d5] => { results := [.lit (.bool true)], args := [d1, d2, d3, d4, d5] }
  | _ => none }
def serverTakesRow : OpenClaim := { program := "ytpkeilhilpogiaagreat", sum := "aae5937e96fb6a0912f3b23e53c7f2f77a107d80119c827caf68692a56f9c369", func := "espalier/espalierlaw20.ServerTakes", spec := "serverTakes", inPlace := ["internal/bytealg.Compare", "slices.overlaps[espalier/api.Mark]", "slices.overlaps[espalier/api.Wait]"], unfollowed := true, recurses := true, plainKeys := false, apart := false }
def ServerTakesSaid : Prop := serverTakesRow.holds Tryz.pinned (OpenSpec.ofChange serverTakesSpec)

/-- ITS FALSE NEIGHBOUR: 'it returns false'. Refute it at one input. -/
def serverTakesWrong : ChangeSpec := { name := "serverTakes", fn := fun _ => fun
  | [d1, d2, d3, d4, d5] => { results := [.lit (.bool false)], args := [d1, d2, d3, d4, d5] }
  | _ => none }
def ServerTakesWrongFalsely : Prop := serverTakesRow.holds Tryz.pinned (OpenSpec.ofChange serverTakesWrong)

/-- 'espalierlaw20.ServerStays': WHATEVER THE INPUT: true; the input reads as it did. -/
def serverStaysSpec : ChangeSpec := { name := "serverStays", fn := fun _ => fun
  | [d1, d2, d3, d4, d5] => { results := [.lit (.bool true)], args := [d1, d2, d3, d4, d5] }
  | _ => none }
def serverStaysRow : OpenClaim := { program := "ytpkeilhilpogiaagreat", sum := "aae5937e96fb6a0912f3b23e53c7f2f77a107d80119c827caf68692a56f9c369", func := "espalier/espalierlaw20.ServerStays", spec := "serverStays", inPlace := ["internal/bytealg.Compare", "slices.overlaps[espalier/api.Mark]", "slices.overlaps[espalier/api.Wait]"], unfollowed := true, recurses := true, plainKeys := false, apart := false }
def ServerStaysSaid : Prop := serverStaysRow.holds Tryz.pinned (OpenSpec.ofChange serverStaysSpec)

/-- ITS FALSE NEIGHBOUR: 'it returns false'. Refute it at one input. -/
def serverStaysWrong : ChangeSpec := { name := "serverStays", fn := fun _ => fun
  | [d1, d2, d3, d4, d5] => { results := [.lit (.bool false)], args := [d1, d2, d3, d4, d5] }
  | _ => none }
def ServerStaysWrongFalsely : Prop := serverStaysRow.holds Tryz.pinned (OpenSpec.ofChange serverStaysWrong)

/-- 'espalierlaw20.ServerOnce': WHATEVER THE INPUT: true; the input reads as it did. -/
def serverOnceSpec : ChangeSpec := { name := "serverOnce", fn := fun _ => fun
  | [d1, d2, d3, d4, d5] => { results := [.lit (.bool true)], args := [d1, d2, d3, d4, d5] }
  | _ => none }
def serverOnceRow : OpenClaim := { program := "ytpkeilhilpogiaagreat", sum := "aae5937e96fb6a0912f3b23e53c7f2f77a107d80119c827caf68692a56f9c369", func := "espalier/espalierlaw20.ServerOnce", spec := "serverOnce", inPlace := ["internal/bytealg.Compare", "slices.overlaps[espalier/api.Mark]", "slices.overlaps[espalier/api.Wait]"], unfollowed := true, recurses := true, plainKeys := false, apart := false }
def ServerOnceSaid : Prop := serverOnceRow.holds Tryz.pinned (OpenSpec.ofChange serverOnceSpec)

/-- ITS FALSE NEIGHBOUR: 'it returns false'. Refute it at one input. -/
def serverOnceWrong : ChangeSpec := { name := "serverOnce", fn := fun _ => fun
  | [d1, d2, d3, d4, d5] => { results := [.lit (.bool false)], args := [d1, d2, d3, d4, d5] }
  | _ => none }
def ServerOnceWrongFalsely : Prop := serverOnceRow.holds Tryz.pinned (OpenSpec.ofChange serverOnceWrong)

/-- 'espalierlaw20.ServerWaits': WHATEVER THE INPUT: true; the input reads as it did. -/
def serverWaitsSpec : ChangeSpec := { name := "serverWaits", fn := fun _ => fun
  | [d1, d2, d3, d4, d5] => { results := [.lit (.bool true)], args := [d1, d2, d3, d4, d5] }
  | _ => none }
def serverWaitsRow : OpenClaim := { program := "ytpkeilhilpogiaagreat", sum := "aae5937e96fb6a0912f3b23e53c7f2f77a107d80119c827caf68692a56f9c369", func := "espalier/espalierlaw20.ServerWaits", spec := "serverWaits", inPlace := ["internal/bytealg.Compare", "slices.overlaps[espalier/api.Mark]", "slices.overlaps[espalier/api.Wait]"], unfollowed := true, recurses := true, plainKeys := false, apart := false }
def ServerWaitsSaid : Prop := serverWaitsRow.holds Tryz.pinned (OpenSpec.ofChange serverWaitsSpec)

/-- ITS FALSE NEIGHBOUR: 'it returns false'. Refute it at one input. -/
def serverWaitsWrong : ChangeSpec := { name := "serverWaits", fn := fun _ => fun
  | [d1, d2, d3, d4, d5] => { results := [.lit (.bool false)], args := [d1, d2, d3, d4, d5] }
  | _ => none }
def ServerWaitsWrongFalsely : Prop := serverWaitsRow.holds Tryz.pinned (OpenSpec.ofChange serverWaitsWrong)

/-- 'espalierlaw20.ServerAnswers': WHATEVER THE INPUT: true; the input reads as it did. -/
def serverAnswersSpec : ChangeSpec := { name := "serverAnswers", fn := fun _ => fun
  | [d1, d2, d3, d4, d5] => { results := [.lit (.bool true)], args := [d1, d2, d3, d4, d5] }
  | _ => none }
def serverAnswersRow : OpenClaim := { program := "ytpkeilhilpogiaagreat", sum := "aae5937e96fb6a0912f3b23e53c7f2f77a107d80119c827caf68692a56f9c369", func := "espalier/espalierlaw20.ServerAnswers", spec := "serverAnswers", inPlace := ["internal/bytealg.Compare", "slices.overlaps[espalier/api.Mark]", "slices.overlaps[espalier/api.Wait]"], unfollowed := true, recurses := true, plainKeys := false, apart := false }
def ServerAnswersSaid : Prop := serverAnswersRow.holds Tryz.pinned (OpenSpec.ofChange serverAnswersSpec)

/-- ITS FALSE NEIGHBOUR: 'it returns false'. Refute it at one input. -/
def serverAnswersWrong : ChangeSpec := { name := "serverAnswers", fn := fun _ => fun
  | [d1, d2, d3, d4, d5] => { results := [.lit (.bool false)], args := [d1, d2, d3, d4, d5] }
  | _ => none }
def ServerAnswersWrongFalsely : Prop := serverAnswersRow.holds Tryz.pinned (OpenSpec.ofChange serverAnswersWrong)

/- THE SECOND FORM. 'bulk': how many values and letters a reading holds, each counted each time it is reached (what is shared counts as often as it is met; a slice's spare places count too). A statement '..UptoSaid' is the law's where the arguments, and the package variables that the reading takes, are together of bulk at most 1048576: NARROWER than '..Said'. Prove '..Said' where nothing that the law and all that it calls make is longer than what came in: it says more and counts as full. Else prove '..UptoSaid'. A law counts once. -/
mutual
def uptoBulk {H : Type} : DataW H → Nat
  | .lit (.string bytes) => bytes.length + 1
  | .lit _ => 1
  | .nil => 1
  | .ptr d => uptoBulk d + 1
  | .slice elems spare => uptoBulkAll elems + uptoBulkAll spare + 1
  | .agg parts => uptoBulkAll parts + 1
  | .iface _ d => uptoBulk d + 1
  | .map entries => uptoBulkEntries entries + 1
  | .held _ => 1
def uptoBulkAll {H : Type} : List (DataW H) → Nat
  | [] => 0
  | d :: r => uptoBulk d + uptoBulkAll r
def uptoBulkEntries {H : Type} : List (Lit × DataW H) → Nat
  | [] => 0
  | x :: r => uptoBulkEntry x + uptoBulkEntries r
def uptoBulkEntry {H : Type} : Lit × DataW H → Nat
  | (.string bytes, d) => bytes.length + uptoBulk d + 1
  | (_, d) => uptoBulk d + 1
 end
def uptoSmall : (H : Type) → List (DataW H) → Bool := fun _ ds => decide (uptoBulkAll ds ≤ 1048576)
def OpenSpec.upto (s : _root_.Go.ChangeSpec) : _root_.Go.OpenSpec := { _root_.Go.OpenSpec.ofChange s with cond := some uptoSmall }

/-- 'espalierlaw20.ServerTakes', WHERE WHAT IT READS IS OF BULK AT MOST 1048576: true; the input reads as it did. -/
def serverTakesUptoRow : OpenClaim := { program := "ytpkeilhilpogiaagreat", sum := "aae5937e96fb6a0912f3b23e53c7f2f77a107d80119c827caf68692a56f9c369", func := "espalier/espalierlaw20.ServerTakes", spec := "serverTakes", inPlace := ["internal/bytealg.Compare", "slices.overlaps[espalier/api.Mark]", "slices.overlaps[espalier/api.Wait]"], unfollowed := true, recurses := true, plainKeys := false, apart := false, narrowed := true }
def ServerTakesUptoSaid : Prop := serverTakesUptoRow.holds Tryz.pinned (OpenSpec.upto serverTakesSpec)

/-- 'espalierlaw20.ServerStays', WHERE WHAT IT READS IS OF BULK AT MOST 1048576: true; the input reads as it did. -/
def serverStaysUptoRow : OpenClaim := { program := "ytpkeilhilpogiaagreat", sum := "aae5937e96fb6a0912f3b23e53c7f2f77a107d80119c827caf68692a56f9c369", func := "espalier/espalierlaw20.ServerStays", spec := "serverStays", inPlace := ["internal/bytealg.Compare", "slices.overlaps[espalier/api.Mark]", "slices.overlaps[espalier/api.Wait]"], unfollowed := true, recurses := true, plainKeys := false, apart := false, narrowed := true }
def ServerStaysUptoSaid : Prop := serverStaysUptoRow.holds Tryz.pinned (OpenSpec.upto serverStaysSpec)

/-- 'espalierlaw20.ServerOnce', WHERE WHAT IT READS IS OF BULK AT MOST 1048576: true; the input reads as it did. -/
def serverOnceUptoRow : OpenClaim := { program := "ytpkeilhilpogiaagreat", sum := "aae5937e96fb6a0912f3b23e53c7f2f77a107d80119c827caf68692a56f9c369", func := "espalier/espalierlaw20.ServerOnce", spec := "serverOnce", inPlace := ["internal/bytealg.Compare", "slices.overlaps[espalier/api.Mark]", "slices.overlaps[espalier/api.Wait]"], unfollowed := true, recurses := true, plainKeys := false, apart := false, narrowed := true }
def ServerOnceUptoSaid : Prop := serverOnceUptoRow.holds Tryz.pinned (OpenSpec.upto serverOnceSpec)

/-- 'espalierlaw20.ServerWaits', WHERE WHAT IT READS IS OF BULK AT MOST 1048576: true; the input reads as it did. -/
def serverWaitsUptoRow : OpenClaim := { program := "ytpkeilhilpogiaagreat", sum := "aae5937e96fb6a0912f3b23e53c7f2f77a107d80119c827caf68692a56f9c369", func := "espalier/espalierlaw20.ServerWaits", spec := "serverWaits", inPlace := ["internal/bytealg.Compare", "slices.overlaps[espalier/api.Mark]", "slices.overlaps[espalier/api.Wait]"], unfollowed := true, recurses := true, plainKeys := false, apart := false, narrowed := true }
def ServerWaitsUptoSaid : Prop := serverWaitsUptoRow.holds Tryz.pinned (OpenSpec.upto serverWaitsSpec)

/-- 'espalierlaw20.ServerAnswers', WHERE WHAT IT READS IS OF BULK AT MOST 1048576: true; the input reads as it did. -/
def serverAnswersUptoRow : OpenClaim := { program := "ytpkeilhilpogiaagreat", sum := "aae5937e96fb6a0912f3b23e53c7f2f77a107d80119c827caf68692a56f9c369", func := "espalier/espalierlaw20.ServerAnswers", spec := "serverAnswers", inPlace := ["internal/bytealg.Compare", "slices.overlaps[espalier/api.Mark]", "slices.overlaps[espalier/api.Wait]"], unfollowed := true, recurses := true, plainKeys := false, apart := false, narrowed := true }
def ServerAnswersUptoSaid : Prop := serverAnswersUptoRow.holds Tryz.pinned (OpenSpec.upto serverAnswersSpec)

end Rows
end Go.Proofs.YtpkeilhilpogiaaGreat
