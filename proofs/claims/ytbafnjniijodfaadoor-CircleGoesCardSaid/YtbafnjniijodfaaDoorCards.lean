/-
  DERIVED. GIVEN WITH THE SEED: THE CARDS: each row of YtbafnjniijodfaaDoorRows.lean that lists a variable, with what it lists TIED to the program's text (the seventh form; the later family's looks); each row that meets fmt, with fmt's text TOLD by the authors' own Lean function (tested against real Go, not proved from fmt's source: count such statements apart). THE CARD IS WHAT COUNTS. Prove the row's statement (the work); the ties are given (YtbafnjniijodfaaDoorTie.lean); close each card by the builder's one call (the guide's Derived/Test/ToyasCard.lean, 'card_holds'). Laid BY PROGRAM, IN A SANDBOX (cutbox-door.mjs). By AI agents, Wed Nov 11 2026. No macro, syntax, notation, axiom, sorry.
-/
import Derived.Test.YtbafnjniijodfaaDoorRows
import GoSem.ClaimSeven
namespace Go.Proofs.YtbafnjniijodfaaDoor
namespace Rows

/-- THE TIED CARD OF 'espalierlaw11.CircleOf'. -/
def circleOfCard : Claim7 := { stood := { row := circleOfRow, standIns := [], harness := (true, "f3dc5bd47debc05963454fae597e50d5fb77b0b874bfa5f65dbef997fc35dc2b"), looks := false }, kinds := [], alts := [], laidByText := true, laidKinds := [.data, .data, .data], laidTests := true, laidLooks := .later }
def CircleOfCardSaid : Prop := Claim7.holds Tryd.pinned (.plain (OpenSpec.ofChange circleOfSpec)) circleOfCard

/-- THE TIED CARD OF 'espalierlaw11.CircleGoes'. -/
def circleGoesCard : Claim7 := { stood := { row := circleGoesRow, standIns := [], harness := (true, "f3dc5bd47debc05963454fae597e50d5fb77b0b874bfa5f65dbef997fc35dc2b"), looks := false }, kinds := [], alts := [], laidByText := true, laidKinds := [.data, .data, .data], laidTests := true, laidLooks := .later }
def CircleGoesCardSaid : Prop := Claim7.holds Tryd.pinned (.plain (OpenSpec.ofChange circleGoesSpec)) circleGoesCard

/-- THE TIED CARD OF 'espalierlaw11.CircleArcs'. -/
def circleArcsCard : Claim7 := { stood := { row := circleArcsRow, standIns := [], harness := (true, "f3dc5bd47debc05963454fae597e50d5fb77b0b874bfa5f65dbef997fc35dc2b"), looks := false }, kinds := [], alts := [], laidByText := true, laidKinds := [.data, .data, .data], laidTests := true, laidLooks := .later }
def CircleArcsCardSaid : Prop := Claim7.holds Tryd.pinned (.plain (OpenSpec.ofChange circleArcsSpec)) circleArcsCard

/-- THE TIED CARD OF 'espalierlaw11.CircleDoes'. -/
def circleDoesCard : Claim7 := { stood := { row := circleDoesRow, standIns := [], harness := (true, "f3dc5bd47debc05963454fae597e50d5fb77b0b874bfa5f65dbef997fc35dc2b"), looks := false }, kinds := [], alts := [], laidByText := true, laidKinds := [.data, .data, .data], laidTests := true, laidLooks := .later }
def CircleDoesCardSaid : Prop := Claim7.holds Tryd.pinned (.plain (OpenSpec.ofChange circleDoesSpec)) circleDoesCard

/-- THE TIED CARD OF 'espalierlaw11.CircleFingers'. -/
def circleFingersCard : Claim7 := { stood := { row := circleFingersRow, standIns := [], harness := (true, "f3dc5bd47debc05963454fae597e50d5fb77b0b874bfa5f65dbef997fc35dc2b"), looks := false }, kinds := [], alts := [], laidByText := true, laidKinds := [.data, .data, .data], laidTests := true, laidLooks := .later }
def CircleFingersCardSaid : Prop := Claim7.holds Tryd.pinned (.plain (OpenSpec.ofChange circleFingersSpec)) circleFingersCard

/-- THE SECOND FORM's CARD OF 'espalierlaw11.CircleOf'. -/
def circleOfUptoCard : Claim7 := { stood := { row := circleOfUptoRow, standIns := [], harness := (true, "f3dc5bd47debc05963454fae597e50d5fb77b0b874bfa5f65dbef997fc35dc2b"), looks := false }, kinds := [], alts := [], laidByText := true, laidKinds := [.data, .data, .data], laidTests := true, laidLooks := .later }
def CircleOfUptoCardSaid : Prop := Claim7.holds Tryd.pinned (.plain (OpenSpec.upto circleOfSpec)) circleOfUptoCard

/-- THE SECOND FORM's CARD OF 'espalierlaw11.CircleGoes'. -/
def circleGoesUptoCard : Claim7 := { stood := { row := circleGoesUptoRow, standIns := [], harness := (true, "f3dc5bd47debc05963454fae597e50d5fb77b0b874bfa5f65dbef997fc35dc2b"), looks := false }, kinds := [], alts := [], laidByText := true, laidKinds := [.data, .data, .data], laidTests := true, laidLooks := .later }
def CircleGoesUptoCardSaid : Prop := Claim7.holds Tryd.pinned (.plain (OpenSpec.upto circleGoesSpec)) circleGoesUptoCard

/-- THE SECOND FORM's CARD OF 'espalierlaw11.CircleArcs'. -/
def circleArcsUptoCard : Claim7 := { stood := { row := circleArcsUptoRow, standIns := [], harness := (true, "f3dc5bd47debc05963454fae597e50d5fb77b0b874bfa5f65dbef997fc35dc2b"), looks := false }, kinds := [], alts := [], laidByText := true, laidKinds := [.data, .data, .data], laidTests := true, laidLooks := .later }
def CircleArcsUptoCardSaid : Prop := Claim7.holds Tryd.pinned (.plain (OpenSpec.upto circleArcsSpec)) circleArcsUptoCard

/-- THE SECOND FORM's CARD OF 'espalierlaw11.CircleDoes'. -/
def circleDoesUptoCard : Claim7 := { stood := { row := circleDoesUptoRow, standIns := [], harness := (true, "f3dc5bd47debc05963454fae597e50d5fb77b0b874bfa5f65dbef997fc35dc2b"), looks := false }, kinds := [], alts := [], laidByText := true, laidKinds := [.data, .data, .data], laidTests := true, laidLooks := .later }
def CircleDoesUptoCardSaid : Prop := Claim7.holds Tryd.pinned (.plain (OpenSpec.upto circleDoesSpec)) circleDoesUptoCard

/-- THE SECOND FORM's CARD OF 'espalierlaw11.CircleFingers'. -/
def circleFingersUptoCard : Claim7 := { stood := { row := circleFingersUptoRow, standIns := [], harness := (true, "f3dc5bd47debc05963454fae597e50d5fb77b0b874bfa5f65dbef997fc35dc2b"), looks := false }, kinds := [], alts := [], laidByText := true, laidKinds := [.data, .data, .data], laidTests := true, laidLooks := .later }
def CircleFingersUptoCardSaid : Prop := Claim7.holds Tryd.pinned (.plain (OpenSpec.upto circleFingersSpec)) circleFingersUptoCard
end Rows
end Go.Proofs.YtbafnjniijodfaaDoor
