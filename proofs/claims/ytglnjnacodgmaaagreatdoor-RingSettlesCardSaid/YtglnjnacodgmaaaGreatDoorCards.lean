/-
  DERIVED. GIVEN WITH THE SEED: THE CARDS: each row of YtglnjnacodgmaaaGreatDoorRows.lean that lists a variable, with what it lists TIED to the program's text (the seventh form; the later family's looks); each row that meets fmt, with fmt's text TOLD by the authors' own Lean function (tested against real Go, not proved from fmt's source: count such statements apart). THE CARD IS WHAT COUNTS. Prove the row's statement (the work); the ties are given (YtglnjnacodgmaaaGreatDoorTie.lean); close each card by the builder's one call (the guide's Derived/Test/ToyasCard.lean, 'card_holds'). Laid BY PROGRAM, IN A SANDBOX (cutbox-door.mjs). By AI agents, Wed Nov 11 2026. No macro, syntax, notation, axiom, sorry.
-/
import Derived.Test.YtglnjnacodgmaaaGreatDoorRows
import GoSem.ClaimSeven
namespace Go.Proofs.YtglnjnacodgmaaaGreatDoor
namespace Rows

/-- THE TIED CARD OF 'espalierlaw16.RingRounds'. -/
def ringRoundsCard : Claim7 := { stood := { row := ringRoundsRow, standIns := [], harness := (true, "39029a76d1b624227c2354b121ba34284453e528a6e1aa4016cb5dcf49859cdc"), looks := true }, kinds := [], alts := [], laidByText := true, laidKinds := [.data, .data, .data], laidTests := true, laidLooks := .later }
def RingRoundsCardSaid : Prop := Claim7.holds Tryz.pinned (.plain (OpenSpec.ofChange ringRoundsSpec)) ringRoundsCard

/-- THE TIED CARD OF 'espalierlaw16.RingStays'. -/
def ringStaysCard : Claim7 := { stood := { row := ringStaysRow, standIns := [], harness := (true, "39029a76d1b624227c2354b121ba34284453e528a6e1aa4016cb5dcf49859cdc"), looks := true }, kinds := [], alts := [], laidByText := true, laidKinds := [.data, .data, .data], laidTests := true, laidLooks := .later }
def RingStaysCardSaid : Prop := Claim7.holds Tryz.pinned (.plain (OpenSpec.ofChange ringStaysSpec)) ringStaysCard

/-- THE TIED CARD OF 'espalierlaw16.RingWalks'. -/
def ringWalksCard : Claim7 := { stood := { row := ringWalksRow, standIns := [], harness := (true, "39029a76d1b624227c2354b121ba34284453e528a6e1aa4016cb5dcf49859cdc"), looks := true }, kinds := [], alts := [], laidByText := true, laidKinds := [.data, .data, .data], laidTests := true, laidLooks := .later }
def RingWalksCardSaid : Prop := Claim7.holds Tryz.pinned (.plain (OpenSpec.ofChange ringWalksSpec)) ringWalksCard

/-- THE TIED CARD OF 'espalierlaw16.RingSettles'. -/
def ringSettlesCard : Claim7 := { stood := { row := ringSettlesRow, standIns := [], harness := (true, "39029a76d1b624227c2354b121ba34284453e528a6e1aa4016cb5dcf49859cdc"), looks := true }, kinds := [], alts := [], laidByText := true, laidKinds := [.data, .data, .data], laidTests := true, laidLooks := .later }
def RingSettlesCardSaid : Prop := Claim7.holds Tryz.pinned (.plain (OpenSpec.ofChange ringSettlesSpec)) ringSettlesCard

/-- THE SECOND FORM's CARD OF 'espalierlaw16.RingRounds'. -/
def ringRoundsUptoCard : Claim7 := { stood := { row := ringRoundsUptoRow, standIns := [], harness := (true, "39029a76d1b624227c2354b121ba34284453e528a6e1aa4016cb5dcf49859cdc"), looks := true }, kinds := [], alts := [], laidByText := true, laidKinds := [.data, .data, .data], laidTests := true, laidLooks := .later }
def RingRoundsUptoCardSaid : Prop := Claim7.holds Tryz.pinned (.plain (OpenSpec.upto ringRoundsSpec)) ringRoundsUptoCard

/-- THE SECOND FORM's CARD OF 'espalierlaw16.RingStays'. -/
def ringStaysUptoCard : Claim7 := { stood := { row := ringStaysUptoRow, standIns := [], harness := (true, "39029a76d1b624227c2354b121ba34284453e528a6e1aa4016cb5dcf49859cdc"), looks := true }, kinds := [], alts := [], laidByText := true, laidKinds := [.data, .data, .data], laidTests := true, laidLooks := .later }
def RingStaysUptoCardSaid : Prop := Claim7.holds Tryz.pinned (.plain (OpenSpec.upto ringStaysSpec)) ringStaysUptoCard

/-- THE SECOND FORM's CARD OF 'espalierlaw16.RingWalks'. -/
def ringWalksUptoCard : Claim7 := { stood := { row := ringWalksUptoRow, standIns := [], harness := (true, "39029a76d1b624227c2354b121ba34284453e528a6e1aa4016cb5dcf49859cdc"), looks := true }, kinds := [], alts := [], laidByText := true, laidKinds := [.data, .data, .data], laidTests := true, laidLooks := .later }
def RingWalksUptoCardSaid : Prop := Claim7.holds Tryz.pinned (.plain (OpenSpec.upto ringWalksSpec)) ringWalksUptoCard

/-- THE SECOND FORM's CARD OF 'espalierlaw16.RingSettles'. -/
def ringSettlesUptoCard : Claim7 := { stood := { row := ringSettlesUptoRow, standIns := [], harness := (true, "39029a76d1b624227c2354b121ba34284453e528a6e1aa4016cb5dcf49859cdc"), looks := true }, kinds := [], alts := [], laidByText := true, laidKinds := [.data, .data, .data], laidTests := true, laidLooks := .later }
def RingSettlesUptoCardSaid : Prop := Claim7.holds Tryz.pinned (.plain (OpenSpec.upto ringSettlesSpec)) ringSettlesUptoCard
end Rows
end Go.Proofs.YtglnjnacodgmaaaGreatDoor
