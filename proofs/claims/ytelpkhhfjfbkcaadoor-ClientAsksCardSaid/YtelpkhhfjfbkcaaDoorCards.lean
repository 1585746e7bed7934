/-
  DERIVED. GIVEN WITH THE SEED: THE CARDS: each row of YtelpkhhfjfbkcaaDoorRows.lean that lists a variable, with what it lists TIED to the program's text (the seventh form; the later family's looks); each row that meets fmt, with fmt's text TOLD by the authors' own Lean function (tested against real Go, not proved from fmt's source: count such statements apart). THE CARD IS WHAT COUNTS. Prove the row's statement (the work); the ties are given (YtelpkhhfjfbkcaaDoorTie.lean); close each card by the builder's one call (the guide's Derived/Test/ToyasCard.lean, 'card_holds'). Laid BY PROGRAM, IN A SANDBOX (cutbox-door.mjs). By AI agents, Wed Nov 11 2026. No macro, syntax, notation, axiom, sorry.
-/
import Derived.Test.YtelpkhhfjfbkcaaDoorRows
import GoSem.ClaimSeven
namespace Go.Proofs.YtelpkhhfjfbkcaaDoor
namespace Rows

/-- THE TIED CARD OF 'espalierlaw21.ClientStarts'. -/
def clientStartsCard : Claim7 := { stood := { row := clientStartsRow, standIns := [], harness := (true, "b8b6058d6bd7bceb7eb889e26ffe6d7ee169a96952dbadea6ac7b9080181ebda"), looks := true }, kinds := [], alts := [], laidByText := true, laidKinds := [.handle], laidTests := true, laidLooks := .later }
def ClientStartsCardSaid : Prop := Claim7.holds Tryd.pinned (.plain (OpenSpec.ofChange clientStartsSpec)) clientStartsCard

/-- THE TIED CARD OF 'espalierlaw21.ClientOnce'. -/
def clientOnceCard : Claim7 := { stood := { row := clientOnceRow, standIns := [], harness := (true, "b8b6058d6bd7bceb7eb889e26ffe6d7ee169a96952dbadea6ac7b9080181ebda"), looks := true }, kinds := [], alts := [], laidByText := true, laidKinds := [.handle], laidTests := true, laidLooks := .later }
def ClientOnceCardSaid : Prop := Claim7.holds Tryd.pinned (.plain (OpenSpec.ofChange clientOnceSpec)) clientOnceCard

/-- THE TIED CARD OF 'espalierlaw21.ClientEnds'. -/
def clientEndsCard : Claim7 := { stood := { row := clientEndsRow, standIns := [], harness := (true, "b8b6058d6bd7bceb7eb889e26ffe6d7ee169a96952dbadea6ac7b9080181ebda"), looks := true }, kinds := [], alts := [], laidByText := true, laidKinds := [.handle], laidTests := true, laidLooks := .later }
def ClientEndsCardSaid : Prop := Claim7.holds Tryd.pinned (.plain (OpenSpec.ofChange clientEndsSpec)) clientEndsCard

/-- THE TIED CARD OF 'espalierlaw21.ClientSteps'. -/
def clientStepsCard : Claim7 := { stood := { row := clientStepsRow, standIns := [], harness := (true, "b8b6058d6bd7bceb7eb889e26ffe6d7ee169a96952dbadea6ac7b9080181ebda"), looks := true }, kinds := [], alts := [], laidByText := true, laidKinds := [.handle], laidTests := true, laidLooks := .later }
def ClientStepsCardSaid : Prop := Claim7.holds Tryd.pinned (.plain (OpenSpec.ofChange clientStepsSpec)) clientStepsCard

/-- THE TIED CARD OF 'espalierlaw21.ClientAsks'. -/
def clientAsksCard : Claim7 := { stood := { row := clientAsksRow, standIns := [], harness := (true, "b8b6058d6bd7bceb7eb889e26ffe6d7ee169a96952dbadea6ac7b9080181ebda"), looks := true }, kinds := [], alts := [], laidByText := true, laidKinds := [.handle], laidTests := true, laidLooks := .later }
def ClientAsksCardSaid : Prop := Claim7.holds Tryd.pinned (.plain (OpenSpec.ofChange clientAsksSpec)) clientAsksCard

/-- THE TIED CARD OF 'espalierlaw06.BlameDoes'. -/
def blameDoesCard : Claim7 := { stood := { row := blameDoesRow, standIns := [], harness := (true, "b8b6058d6bd7bceb7eb889e26ffe6d7ee169a96952dbadea6ac7b9080181ebda"), looks := true }, kinds := [], alts := [], laidByText := true, laidKinds := [.handle], laidTests := true, laidLooks := .later }
def BlameDoesCardSaid : Prop := Claim7.holds Tryd.pinned (.plain (OpenSpec.ofChange blameDoesSpec)) blameDoesCard

/-- THE TIED CARD OF 'espalierlaw06.BlameWraps'. -/
def blameWrapsCard : Claim7 := { stood := { row := blameWrapsRow, standIns := [], harness := (true, "b8b6058d6bd7bceb7eb889e26ffe6d7ee169a96952dbadea6ac7b9080181ebda"), looks := true }, kinds := [], alts := [], laidByText := true, laidKinds := [.handle], laidTests := true, laidLooks := .later }
def BlameWrapsCardSaid : Prop := Claim7.holds Tryd.pinned (.plain (OpenSpec.ofChange blameWrapsSpec)) blameWrapsCard

/-- THE TIED CARD OF 'espalierlaw06.BlameJoins'. -/
def blameJoinsCard : Claim7 := { stood := { row := blameJoinsRow, standIns := [], harness := (true, "b8b6058d6bd7bceb7eb889e26ffe6d7ee169a96952dbadea6ac7b9080181ebda"), looks := true }, kinds := [], alts := [], laidByText := true, laidKinds := [.handle], laidTests := true, laidLooks := .later }
def BlameJoinsCardSaid : Prop := Claim7.holds Tryd.pinned (.plain (OpenSpec.ofChange blameJoinsSpec)) blameJoinsCard

/-- THE TIED CARD OF 'espalierlaw06.BlameNew'. -/
def blameNewCard : Claim7 := { stood := { row := blameNewRow, standIns := [], harness := (true, "b8b6058d6bd7bceb7eb889e26ffe6d7ee169a96952dbadea6ac7b9080181ebda"), looks := true }, kinds := [], alts := [], laidByText := true, laidKinds := [.handle], laidTests := true, laidLooks := .later }
def BlameNewCardSaid : Prop := Claim7.holds Tryd.pinned (.plain (OpenSpec.ofChange blameNewSpec)) blameNewCard

/-- THE SECOND FORM's CARD OF 'espalierlaw21.ClientStarts'. -/
def clientStartsUptoCard : Claim7 := { stood := { row := clientStartsUptoRow, standIns := [], harness := (true, "b8b6058d6bd7bceb7eb889e26ffe6d7ee169a96952dbadea6ac7b9080181ebda"), looks := true }, kinds := [], alts := [], laidByText := true, laidKinds := [.handle], laidTests := true, laidLooks := .later }
def ClientStartsUptoCardSaid : Prop := Claim7.holds Tryd.pinned (.plain (OpenSpec.upto clientStartsSpec)) clientStartsUptoCard

/-- THE SECOND FORM's CARD OF 'espalierlaw21.ClientOnce'. -/
def clientOnceUptoCard : Claim7 := { stood := { row := clientOnceUptoRow, standIns := [], harness := (true, "b8b6058d6bd7bceb7eb889e26ffe6d7ee169a96952dbadea6ac7b9080181ebda"), looks := true }, kinds := [], alts := [], laidByText := true, laidKinds := [.handle], laidTests := true, laidLooks := .later }
def ClientOnceUptoCardSaid : Prop := Claim7.holds Tryd.pinned (.plain (OpenSpec.upto clientOnceSpec)) clientOnceUptoCard

/-- THE SECOND FORM's CARD OF 'espalierlaw21.ClientEnds'. -/
def clientEndsUptoCard : Claim7 := { stood := { row := clientEndsUptoRow, standIns := [], harness := (true, "b8b6058d6bd7bceb7eb889e26ffe6d7ee169a96952dbadea6ac7b9080181ebda"), looks := true }, kinds := [], alts := [], laidByText := true, laidKinds := [.handle], laidTests := true, laidLooks := .later }
def ClientEndsUptoCardSaid : Prop := Claim7.holds Tryd.pinned (.plain (OpenSpec.upto clientEndsSpec)) clientEndsUptoCard

/-- THE SECOND FORM's CARD OF 'espalierlaw21.ClientSteps'. -/
def clientStepsUptoCard : Claim7 := { stood := { row := clientStepsUptoRow, standIns := [], harness := (true, "b8b6058d6bd7bceb7eb889e26ffe6d7ee169a96952dbadea6ac7b9080181ebda"), looks := true }, kinds := [], alts := [], laidByText := true, laidKinds := [.handle], laidTests := true, laidLooks := .later }
def ClientStepsUptoCardSaid : Prop := Claim7.holds Tryd.pinned (.plain (OpenSpec.upto clientStepsSpec)) clientStepsUptoCard

/-- THE SECOND FORM's CARD OF 'espalierlaw21.ClientAsks'. -/
def clientAsksUptoCard : Claim7 := { stood := { row := clientAsksUptoRow, standIns := [], harness := (true, "b8b6058d6bd7bceb7eb889e26ffe6d7ee169a96952dbadea6ac7b9080181ebda"), looks := true }, kinds := [], alts := [], laidByText := true, laidKinds := [.handle], laidTests := true, laidLooks := .later }
def ClientAsksUptoCardSaid : Prop := Claim7.holds Tryd.pinned (.plain (OpenSpec.upto clientAsksSpec)) clientAsksUptoCard

/-- THE SECOND FORM's CARD OF 'espalierlaw06.BlameDoes'. -/
def blameDoesUptoCard : Claim7 := { stood := { row := blameDoesUptoRow, standIns := [], harness := (true, "b8b6058d6bd7bceb7eb889e26ffe6d7ee169a96952dbadea6ac7b9080181ebda"), looks := true }, kinds := [], alts := [], laidByText := true, laidKinds := [.handle], laidTests := true, laidLooks := .later }
def BlameDoesUptoCardSaid : Prop := Claim7.holds Tryd.pinned (.plain (OpenSpec.upto blameDoesSpec)) blameDoesUptoCard

/-- THE SECOND FORM's CARD OF 'espalierlaw06.BlameWraps'. -/
def blameWrapsUptoCard : Claim7 := { stood := { row := blameWrapsUptoRow, standIns := [], harness := (true, "b8b6058d6bd7bceb7eb889e26ffe6d7ee169a96952dbadea6ac7b9080181ebda"), looks := true }, kinds := [], alts := [], laidByText := true, laidKinds := [.handle], laidTests := true, laidLooks := .later }
def BlameWrapsUptoCardSaid : Prop := Claim7.holds Tryd.pinned (.plain (OpenSpec.upto blameWrapsSpec)) blameWrapsUptoCard

/-- THE SECOND FORM's CARD OF 'espalierlaw06.BlameJoins'. -/
def blameJoinsUptoCard : Claim7 := { stood := { row := blameJoinsUptoRow, standIns := [], harness := (true, "b8b6058d6bd7bceb7eb889e26ffe6d7ee169a96952dbadea6ac7b9080181ebda"), looks := true }, kinds := [], alts := [], laidByText := true, laidKinds := [.handle], laidTests := true, laidLooks := .later }
def BlameJoinsUptoCardSaid : Prop := Claim7.holds Tryd.pinned (.plain (OpenSpec.upto blameJoinsSpec)) blameJoinsUptoCard

/-- THE SECOND FORM's CARD OF 'espalierlaw06.BlameNew'. -/
def blameNewUptoCard : Claim7 := { stood := { row := blameNewUptoRow, standIns := [], harness := (true, "b8b6058d6bd7bceb7eb889e26ffe6d7ee169a96952dbadea6ac7b9080181ebda"), looks := true }, kinds := [], alts := [], laidByText := true, laidKinds := [.handle], laidTests := true, laidLooks := .later }
def BlameNewUptoCardSaid : Prop := Claim7.holds Tryd.pinned (.plain (OpenSpec.upto blameNewSpec)) blameNewUptoCard
end Rows
end Go.Proofs.YtelpkhhfjfbkcaaDoor
