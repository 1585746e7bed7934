/-
  DERIVED. GIVEN WITH THE SEED: THE CARDS: each row of YtbeahcfghjiogaaDoorRows.lean that lists a variable, with what it lists TIED to the program's text (the seventh form; the later family's looks); each row that meets fmt, with fmt's text TOLD by the authors' own Lean function (tested against real Go, not proved from fmt's source: count such statements apart). THE CARD IS WHAT COUNTS. Prove the row's statement (the work); the ties are given (YtbeahcfghjiogaaDoorTie.lean); close each card by the builder's one call (the guide's Derived/Test/ToyasCard.lean, 'card_holds'). Laid BY PROGRAM, IN A SANDBOX (cutbox-door.mjs). By AI agents, Wed Nov 11 2026. No macro, syntax, notation, axiom, sorry.
-/
import Derived.Test.YtbeahcfghjiogaaDoorRows
import GoSem.ClaimSeven
namespace Go.Proofs.YtbeahcfghjiogaaDoor
namespace Rows

/-- THE TIED CARD OF 'espalierlaw06.BlameDoes'. -/
def blameDoesCard : Claim7 := { stood := { row := blameDoesRow, standIns := [], harness := (true, "07e4c566cb92bd63188834aa675de61b599fc7b7e9e6eb6137cac3a339756970"), looks := true }, kinds := [], alts := [], laidByText := true, laidKinds := [.handle], laidTests := true, laidLooks := .later }
def BlameDoesCardSaid : Prop := Claim7.holds Tryd.pinned (.plain (OpenSpec.ofChange blameDoesSpec)) blameDoesCard

/-- THE TIED CARD OF 'espalierlaw06.BlameWraps'. -/
def blameWrapsCard : Claim7 := { stood := { row := blameWrapsRow, standIns := [], harness := (true, "07e4c566cb92bd63188834aa675de61b599fc7b7e9e6eb6137cac3a339756970"), looks := true }, kinds := [], alts := [], laidByText := true, laidKinds := [.handle], laidTests := true, laidLooks := .later }
def BlameWrapsCardSaid : Prop := Claim7.holds Tryd.pinned (.plain (OpenSpec.ofChange blameWrapsSpec)) blameWrapsCard

/-- THE TIED CARD OF 'espalierlaw06.BlameJoins'. -/
def blameJoinsCard : Claim7 := { stood := { row := blameJoinsRow, standIns := [], harness := (true, "07e4c566cb92bd63188834aa675de61b599fc7b7e9e6eb6137cac3a339756970"), looks := true }, kinds := [], alts := [], laidByText := true, laidKinds := [.handle], laidTests := true, laidLooks := .later }
def BlameJoinsCardSaid : Prop := Claim7.holds Tryd.pinned (.plain (OpenSpec.ofChange blameJoinsSpec)) blameJoinsCard

/-- THE TIED CARD OF 'espalierlaw06.BlameNew'. -/
def blameNewCard : Claim7 := { stood := { row := blameNewRow, standIns := [], harness := (true, "07e4c566cb92bd63188834aa675de61b599fc7b7e9e6eb6137cac3a339756970"), looks := true }, kinds := [], alts := [], laidByText := true, laidKinds := [.handle], laidTests := true, laidLooks := .later }
def BlameNewCardSaid : Prop := Claim7.holds Tryd.pinned (.plain (OpenSpec.ofChange blameNewSpec)) blameNewCard

/-- THE SECOND FORM's CARD OF 'espalierlaw06.BlameDoes'. -/
def blameDoesUptoCard : Claim7 := { stood := { row := blameDoesUptoRow, standIns := [], harness := (true, "07e4c566cb92bd63188834aa675de61b599fc7b7e9e6eb6137cac3a339756970"), looks := true }, kinds := [], alts := [], laidByText := true, laidKinds := [.handle], laidTests := true, laidLooks := .later }
def BlameDoesUptoCardSaid : Prop := Claim7.holds Tryd.pinned (.plain (OpenSpec.upto blameDoesSpec)) blameDoesUptoCard

/-- THE SECOND FORM's CARD OF 'espalierlaw06.BlameWraps'. -/
def blameWrapsUptoCard : Claim7 := { stood := { row := blameWrapsUptoRow, standIns := [], harness := (true, "07e4c566cb92bd63188834aa675de61b599fc7b7e9e6eb6137cac3a339756970"), looks := true }, kinds := [], alts := [], laidByText := true, laidKinds := [.handle], laidTests := true, laidLooks := .later }
def BlameWrapsUptoCardSaid : Prop := Claim7.holds Tryd.pinned (.plain (OpenSpec.upto blameWrapsSpec)) blameWrapsUptoCard

/-- THE SECOND FORM's CARD OF 'espalierlaw06.BlameJoins'. -/
def blameJoinsUptoCard : Claim7 := { stood := { row := blameJoinsUptoRow, standIns := [], harness := (true, "07e4c566cb92bd63188834aa675de61b599fc7b7e9e6eb6137cac3a339756970"), looks := true }, kinds := [], alts := [], laidByText := true, laidKinds := [.handle], laidTests := true, laidLooks := .later }
def BlameJoinsUptoCardSaid : Prop := Claim7.holds Tryd.pinned (.plain (OpenSpec.upto blameJoinsSpec)) blameJoinsUptoCard

/-- THE SECOND FORM's CARD OF 'espalierlaw06.BlameNew'. -/
def blameNewUptoCard : Claim7 := { stood := { row := blameNewUptoRow, standIns := [], harness := (true, "07e4c566cb92bd63188834aa675de61b599fc7b7e9e6eb6137cac3a339756970"), looks := true }, kinds := [], alts := [], laidByText := true, laidKinds := [.handle], laidTests := true, laidLooks := .later }
def BlameNewUptoCardSaid : Prop := Claim7.holds Tryd.pinned (.plain (OpenSpec.upto blameNewSpec)) blameNewUptoCard
end Rows
end Go.Proofs.YtbeahcfghjiogaaDoor
