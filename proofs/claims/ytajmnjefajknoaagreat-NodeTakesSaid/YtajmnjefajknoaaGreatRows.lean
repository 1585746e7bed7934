/-
  No cell of these rows narrows 'for every input' (looked for: loops, veiled, ifaces, maps, wideKeys, modest, calm, conditions, laid).
  DERIVED. THE GIVEN ROWS OF THIS SEAT. 6 by the template 'for every input the law returns true; each argument reads behind the call as it read before'; 0 by the template 'total and deterministic' (their statements: YtajmnjefajknoaaGreatTotals.lean).
  GIVEN WITH THE SEED: the statements are not yours to turn. If you find one false, say at which input.
  Laid BY PROGRAM, IN A SANDBOX (cutbox-rows.mjs): the forced cells as the released guide's own fill.sh prints them over the translation 06b5a6d83d6bcdcb… (all of the seat's roots in one cut). By AI agents, Wed Nov 11 2026. No macro, syntax, notation, axiom, sorry.
-/
import Derived.Test.YtajmnjefajknoaaGreatChecked
import GoSem.Claim
import GoSem.ClaimJoined
import GoSem.ClaimMapViews
import Derived.JoinedTies
import Derived.KernelRfl
namespace Go.Proofs.YtajmnjefajknoaaGreat
/- THE CELL 'sum', in the pinned program and in every row, IS THE sha256 OF THE DUMP (.gsa) THAT YtajmnjefajknoaaGreatProg.lean LOADS. Nothing in Lean hashes anything: it is a label: what it is worth is what the hold of that sum in a sandbox is worth. -/
noncomputable def Tryz.pinned : Pinned := { name := "ytajmnjefajknoaagreat", sum := "06b5a6d83d6bcdcb16d5a9ca499953c72cca1e78c4ae267504428b14d7e5387c", checked := Tryz.checked }
namespace Rows
def none {H : Type} : Left H := { results := [], args := [] }

/-- 'espalierlaw15.NodeTicks': WHATEVER THE INPUT: true; the input reads as it did. -/
def nodeTicksSpec : ChangeSpec := { name := "nodeTicks", fn := fun _ => fun
  | [d1, d2] => { results := [.lit (.bool true)], args := [d1, d2] }
  | _ => none }
def nodeTicksRow : OpenClaim := { program := "ytajmnjefajknoaagreat", sum := "06b5a6d83d6bcdcb16d5a9ca499953c72cca1e78c4ae267504428b14d7e5387c", func := "espalier/espalierlaw15.NodeTicks", spec := "nodeTicks", inPlace := ["internal/bytealg.Compare", "slices.overlaps[espalier/api.Peer]"], unfollowed := true, recurses := true, apart := false }
def NodeTicksSaid : Prop := nodeTicksRow.holds Tryz.pinned (OpenSpec.ofChange nodeTicksSpec)

/-- ITS FALSE NEIGHBOUR: 'it returns false'. Refute it at one input. -/
def nodeTicksWrong : ChangeSpec := { name := "nodeTicks", fn := fun _ => fun
  | [d1, d2] => { results := [.lit (.bool false)], args := [d1, d2] }
  | _ => none }
def NodeTicksWrongFalsely : Prop := nodeTicksRow.holds Tryz.pinned (OpenSpec.ofChange nodeTicksWrong)

/-- 'espalierlaw15.NodeTakes': WHATEVER THE INPUT: true; the input reads as it did. -/
def nodeTakesSpec : ChangeSpec := { name := "nodeTakes", fn := fun _ => fun
  | [d1, d2] => { results := [.lit (.bool true)], args := [d1, d2] }
  | _ => none }
def nodeTakesRow : OpenClaim := { program := "ytajmnjefajknoaagreat", sum := "06b5a6d83d6bcdcb16d5a9ca499953c72cca1e78c4ae267504428b14d7e5387c", func := "espalier/espalierlaw15.NodeTakes", spec := "nodeTakes", inPlace := ["internal/bytealg.Compare", "slices.overlaps[espalier/api.Peer]"], unfollowed := true, recurses := true, apart := false }
def NodeTakesSaid : Prop := nodeTakesRow.holds Tryz.pinned (OpenSpec.ofChange nodeTakesSpec)

/-- ITS FALSE NEIGHBOUR: 'it returns false'. Refute it at one input. -/
def nodeTakesWrong : ChangeSpec := { name := "nodeTakes", fn := fun _ => fun
  | [d1, d2] => { results := [.lit (.bool false)], args := [d1, d2] }
  | _ => none }
def NodeTakesWrongFalsely : Prop := nodeTakesRow.holds Tryz.pinned (OpenSpec.ofChange nodeTakesWrong)

/-- 'espalierlaw15.NodeIgnores': WHATEVER THE INPUT: true; the input reads as it did. -/
def nodeIgnoresSpec : ChangeSpec := { name := "nodeIgnores", fn := fun _ => fun
  | [d1, d2] => { results := [.lit (.bool true)], args := [d1, d2] }
  | _ => none }
def nodeIgnoresRow : OpenClaim := { program := "ytajmnjefajknoaagreat", sum := "06b5a6d83d6bcdcb16d5a9ca499953c72cca1e78c4ae267504428b14d7e5387c", func := "espalier/espalierlaw15.NodeIgnores", spec := "nodeIgnores", inPlace := ["internal/bytealg.Compare", "slices.overlaps[espalier/api.Peer]"], unfollowed := true, recurses := true, apart := false }
def NodeIgnoresSaid : Prop := nodeIgnoresRow.holds Tryz.pinned (OpenSpec.ofChange nodeIgnoresSpec)

/-- ITS FALSE NEIGHBOUR: 'it returns false'. Refute it at one input. -/
def nodeIgnoresWrong : ChangeSpec := { name := "nodeIgnores", fn := fun _ => fun
  | [d1, d2] => { results := [.lit (.bool false)], args := [d1, d2] }
  | _ => none }
def NodeIgnoresWrongFalsely : Prop := nodeIgnoresRow.holds Tryz.pinned (OpenSpec.ofChange nodeIgnoresWrong)

/-- 'espalierlaw15.NodeAnswers': WHATEVER THE INPUT: true; the input reads as it did. -/
def nodeAnswersSpec : ChangeSpec := { name := "nodeAnswers", fn := fun _ => fun
  | [d1, d2] => { results := [.lit (.bool true)], args := [d1, d2] }
  | _ => none }
def nodeAnswersRow : OpenClaim := { program := "ytajmnjefajknoaagreat", sum := "06b5a6d83d6bcdcb16d5a9ca499953c72cca1e78c4ae267504428b14d7e5387c", func := "espalier/espalierlaw15.NodeAnswers", spec := "nodeAnswers", inPlace := ["internal/bytealg.Compare", "slices.overlaps[espalier/api.Peer]"], unfollowed := true, recurses := true, apart := false }
def NodeAnswersSaid : Prop := nodeAnswersRow.holds Tryz.pinned (OpenSpec.ofChange nodeAnswersSpec)

/-- ITS FALSE NEIGHBOUR: 'it returns false'. Refute it at one input. -/
def nodeAnswersWrong : ChangeSpec := { name := "nodeAnswers", fn := fun _ => fun
  | [d1, d2] => { results := [.lit (.bool false)], args := [d1, d2] }
  | _ => none }
def NodeAnswersWrongFalsely : Prop := nodeAnswersRow.holds Tryz.pinned (OpenSpec.ofChange nodeAnswersWrong)

/-- 'espalierlaw15.NodeStarts': WHATEVER THE INPUT: true; the input reads as it did. -/
def nodeStartsSpec : ChangeSpec := { name := "nodeStarts", fn := fun _ => fun
  | [d1, d2, d3, d4] => { results := [.lit (.bool true)], args := [d1, d2, d3, d4] }
  | _ => none }
def nodeStartsRow : OpenClaim := { program := "ytajmnjefajknoaagreat", sum := "06b5a6d83d6bcdcb16d5a9ca499953c72cca1e78c4ae267504428b14d7e5387c", func := "espalier/espalierlaw15.NodeStarts", spec := "nodeStarts", inPlace := ["internal/bytealg.Compare", "slices.overlaps[espalier/api.Peer]"], unfollowed := true, recurses := true, apart := false }
def NodeStartsSaid : Prop := nodeStartsRow.holds Tryz.pinned (OpenSpec.ofChange nodeStartsSpec)

/-- ITS FALSE NEIGHBOUR: 'it returns false'. Refute it at one input. -/
def nodeStartsWrong : ChangeSpec := { name := "nodeStarts", fn := fun _ => fun
  | [d1, d2, d3, d4] => { results := [.lit (.bool false)], args := [d1, d2, d3, d4] }
  | _ => none }
def NodeStartsWrongFalsely : Prop := nodeStartsRow.holds Tryz.pinned (OpenSpec.ofChange nodeStartsWrong)

/-- 'espalierlaw15.NodeStays': WHATEVER THE INPUT: true; the input reads as it did. -/
def nodeStaysSpec : ChangeSpec := { name := "nodeStays", fn := fun _ => fun
  | [d1, d2, d3] => { results := [.lit (.bool true)], args := [d1, d2, d3] }
  | _ => none }
def nodeStaysRow : OpenClaim := { program := "ytajmnjefajknoaagreat", sum := "06b5a6d83d6bcdcb16d5a9ca499953c72cca1e78c4ae267504428b14d7e5387c", func := "espalier/espalierlaw15.NodeStays", spec := "nodeStays", inPlace := ["internal/bytealg.Compare", "slices.overlaps[espalier/api.Peer]"], unfollowed := true, recurses := true, apart := false }
def NodeStaysSaid : Prop := nodeStaysRow.holds Tryz.pinned (OpenSpec.ofChange nodeStaysSpec)

/-- ITS FALSE NEIGHBOUR: 'it returns false'. Refute it at one input. -/
def nodeStaysWrong : ChangeSpec := { name := "nodeStays", fn := fun _ => fun
  | [d1, d2, d3] => { results := [.lit (.bool false)], args := [d1, d2, d3] }
  | _ => none }
def NodeStaysWrongFalsely : Prop := nodeStaysRow.holds Tryz.pinned (OpenSpec.ofChange nodeStaysWrong)

/- THE SECOND FORM. 'bulk': how many values and letters a reading holds, each counted each time it is reached (what is shared counts as often as it is met; a slice's spare places count too). A statement '..UptoSaid' is the law's where the arguments, and the package variables that the reading takes, are together of bulk at most 1048576: NARROWER than '..Said'. Prove '..Said' where nothing that the law and all that it calls make is longer than what came in: it says more and counts as full. Else prove '..UptoSaid'. A law counts once. -/
mutual
def uptoBulk {H : Type} : DataW H → Nat
  | .lit (.string bytes) => bytes.length + 1
  | .lit _ => 1
  | .nil => 1
  | .ptr d => uptoBulk d + 1
  | .slice elems spare => uptoBulkAll elems + uptoBulkAll spare + 1
  | .agg parts => uptoBulkAll parts + 1
  | .iface _ d => uptoBulk d + 1
  | .map entries => uptoBulkEntries entries + 1
  | .held _ => 1
def uptoBulkAll {H : Type} : List (DataW H) → Nat
  | [] => 0
  | d :: r => uptoBulk d + uptoBulkAll r
def uptoBulkEntries {H : Type} : List (Lit × DataW H) → Nat
  | [] => 0
  | x :: r => uptoBulkEntry x + uptoBulkEntries r
def uptoBulkEntry {H : Type} : Lit × DataW H → Nat
  | (.string bytes, d) => bytes.length + uptoBulk d + 1
  | (_, d) => uptoBulk d + 1
 end
def uptoSmall : (H : Type) → List (DataW H) → Bool := fun _ ds => decide (uptoBulkAll ds ≤ 1048576)
def OpenSpec.upto (s : _root_.Go.ChangeSpec) : _root_.Go.OpenSpec := { _root_.Go.OpenSpec.ofChange s with cond := some uptoSmall }

/-- 'espalierlaw15.NodeTicks', WHERE WHAT IT READS IS OF BULK AT MOST 1048576: true; the input reads as it did. -/
def nodeTicksUptoRow : OpenClaim := { program := "ytajmnjefajknoaagreat", sum := "06b5a6d83d6bcdcb16d5a9ca499953c72cca1e78c4ae267504428b14d7e5387c", func := "espalier/espalierlaw15.NodeTicks", spec := "nodeTicks", inPlace := ["internal/bytealg.Compare", "slices.overlaps[espalier/api.Peer]"], unfollowed := true, recurses := true, apart := false, narrowed := true }
def NodeTicksUptoSaid : Prop := nodeTicksUptoRow.holds Tryz.pinned (OpenSpec.upto nodeTicksSpec)

/-- 'espalierlaw15.NodeTakes', WHERE WHAT IT READS IS OF BULK AT MOST 1048576: true; the input reads as it did. -/
def nodeTakesUptoRow : OpenClaim := { program := "ytajmnjefajknoaagreat", sum := "06b5a6d83d6bcdcb16d5a9ca499953c72cca1e78c4ae267504428b14d7e5387c", func := "espalier/espalierlaw15.NodeTakes", spec := "nodeTakes", inPlace := ["internal/bytealg.Compare", "slices.overlaps[espalier/api.Peer]"], unfollowed := true, recurses := true, apart := false, narrowed := true }
def NodeTakesUptoSaid : Prop := nodeTakesUptoRow.holds Tryz.pinned (OpenSpec.upto nodeTakesSpec)

/-- 'espalierlaw15.NodeIgnores', WHERE WHAT IT READS IS OF BULK AT MOST 1048576: true; the input reads as it did. -/
def nodeIgnoresUptoRow : OpenClaim := { program := "ytajmnjefajknoaagreat", sum := "06b5a6d83d6bcdcb16d5a9ca499953c72cca1e78c4ae267504428b14d7e5387c", func := "espalier/espalierlaw15.NodeIgnores", spec := "nodeIgnores", inPlace := ["internal/bytealg.Compare", "slices.overlaps[espalier/api.Peer]"], unfollowed := true, recurses := true, apart := false, narrowed := true }
def NodeIgnoresUptoSaid : Prop := nodeIgnoresUptoRow.holds Tryz.pinned (OpenSpec.upto nodeIgnoresSpec)

/-- 'espalierlaw15.NodeAnswers', WHERE WHAT IT READS IS OF BULK AT MOST 1048576: true; the input reads as it did. -/
def nodeAnswersUptoRow : OpenClaim := { program := "ytajmnjefajknoaagreat", sum := "06b5a6d83d6bcdcb16d5a9ca499953c72cca1e78c4ae267504428b14d7e5387c", func := "espalier/espalierlaw15.NodeAnswers", spec := "nodeAnswers", inPlace := ["internal/bytealg.Compare", "slices.overlaps[espalier/api.Peer]"], unfollowed := true, recurses := true, apart := false, narrowed := true }
def NodeAnswersUptoSaid : Prop := nodeAnswersUptoRow.holds Tryz.pinned (OpenSpec.upto nodeAnswersSpec)

/-- 'espalierlaw15.NodeStarts', WHERE WHAT IT READS IS OF BULK AT MOST 1048576: true; the input reads as it did. -/
def nodeStartsUptoRow : OpenClaim := { program := "ytajmnjefajknoaagreat", sum := "06b5a6d83d6bcdcb16d5a9ca499953c72cca1e78c4ae267504428b14d7e5387c", func := "espalier/espalierlaw15.NodeStarts", spec := "nodeStarts", inPlace := ["internal/bytealg.Compare", "slices.overlaps[espalier/api.Peer]"], unfollowed := true, recurses := true, apart := false, narrowed := true }
def NodeStartsUptoSaid : Prop := nodeStartsUptoRow.holds Tryz.pinned (OpenSpec.upto nodeStartsSpec)

/-- 'espalierlaw15.NodeStays', WHERE WHAT IT READS IS OF BULK AT MOST 1048576: true; the input reads as it did. -/
def nodeStaysUptoRow : OpenClaim := { program := "ytajmnjefajknoaagreat", sum := "06b5a6d83d6bcdcb16d5a9ca499953c72cca1e78c4ae267504428b14d7e5387c", func := "espalier/espalierlaw15.NodeStays", spec := "nodeStays", inPlace := ["internal/bytealg.Compare", "slices.overlaps[espalier/api.Peer]"], unfollowed := true, recurses := true, apart := false, narrowed := true }
def NodeStaysUptoSaid : Prop := nodeStaysUptoRow.holds Tryz.pinned (OpenSpec.upto nodeStaysSpec)

end Rows
end Go.Proofs.YtajmnjefajknoaaGreat
