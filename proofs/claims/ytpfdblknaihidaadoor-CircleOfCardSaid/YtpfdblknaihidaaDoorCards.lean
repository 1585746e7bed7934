/-
  DERIVED. GIVEN WITH THE SEED: THE CARDS: each row of YtpfdblknaihidaaDoorRows.lean that lists a variable, with what it lists TIED to the program's text (the seventh form; the later family's looks); each row that meets fmt, with fmt's text TOLD by the authors' own Lean function (tested against real Go, not proved from fmt's source: count such statements apart). THE CARD IS WHAT COUNTS. Prove the row's statement (the work); the ties are given (YtpfdblknaihidaaDoorTie.lean); close each card by the builder's one call (the guide's Derived/Test/ToyasCard.lean, 'card_holds'). Laid BY PROGRAM, IN A SANDBOX (cutbox-door.mjs). By AI agents, Wed Nov 11 2026. No macro, syntax, notation, axiom, sorry.
-/
import Derived.Test.YtpfdblknaihidaaDoorRows
import GoSem.ClaimSeven
namespace Go.Proofs.YtpfdblknaihidaaDoor
namespace Rows

/-- THE TIED CARD OF 'espalierlaw11.CircleOf'. -/
def circleOfCard : Claim7 := { stood := { row := circleOfRow, standIns := [], harness := (true, "757935fbd5376cd08a151945b804f828bae46876dfa9c193b2561efcc80f9bc2"), looks := false }, kinds := [], alts := [], laidByText := true, laidKinds := [.data, .data, .data], laidTests := true, laidLooks := .later }
def CircleOfCardSaid : Prop := Claim7.holds Tryd.pinned (.plain (OpenSpec.ofChange circleOfSpec)) circleOfCard

/-- THE SECOND FORM's CARD OF 'espalierlaw11.CircleOf'. -/
def circleOfUptoCard : Claim7 := { stood := { row := circleOfUptoRow, standIns := [], harness := (true, "757935fbd5376cd08a151945b804f828bae46876dfa9c193b2561efcc80f9bc2"), looks := false }, kinds := [], alts := [], laidByText := true, laidKinds := [.data, .data, .data], laidTests := true, laidLooks := .later }
def CircleOfUptoCardSaid : Prop := Claim7.holds Tryd.pinned (.plain (OpenSpec.upto circleOfSpec)) circleOfUptoCard
end Rows
end Go.Proofs.YtpfdblknaihidaaDoor
