/-
  DERIVED. GIVEN WITH THE SEED: THE CARDS: each row of YtcclmaicdmogjaaDoorRows.lean that lists a variable, with what it lists TIED to the program's text (the seventh form; the later family's looks); each row that meets fmt, with fmt's text TOLD by the authors' own Lean function (tested against real Go, not proved from fmt's source: count such statements apart). THE CARD IS WHAT COUNTS. Prove the row's statement (the work); the ties are given (YtcclmaicdmogjaaDoorTie.lean); close each card by the builder's one call (the guide's Derived/Test/ToyasCard.lean, 'card_holds'). Laid BY PROGRAM, IN A SANDBOX (cutbox-door.mjs). By AI agents, Wed Nov 11 2026. No macro, syntax, notation, axiom, sorry.
-/
import Derived.Test.YtcclmaicdmogjaaDoorRows
import GoSem.ClaimSeven
namespace Go.Proofs.YtcclmaicdmogjaaDoor
namespace Rows

/-- THE TIED CARD OF 'calamuslaw05.HeadMaxps'. -/
def headMaxpsCard : Claim7 := { stood := { row := headMaxpsRow, standIns := [], harness := (true, "36ce4200e89c0b7e4b7749934fa07597096ce6f0584488470ad1efbc7b5ebd85"), looks := false }, kinds := [], alts := [], laidByText := true, laidKinds := [.data], laidTests := true, laidLooks := .later }
def HeadMaxpsCardSaid : Prop := Claim7.holds Tryd.pinned (.plain (OpenSpec.ofChange headMaxpsSpec)) headMaxpsCard

/-- THE TIED CARD OF 'calamuslaw05.HeadElse'. -/
def headElseCard : Claim7 := { stood := { row := headElseRow, standIns := [], harness := (true, "36ce4200e89c0b7e4b7749934fa07597096ce6f0584488470ad1efbc7b5ebd85"), looks := false }, kinds := [], alts := [], laidByText := true, laidKinds := [.data], laidTests := true, laidLooks := .later }
def HeadElseCardSaid : Prop := Claim7.holds Tryd.pinned (.plain (OpenSpec.ofChange headElseSpec)) headElseCard

/-- THE TIED CARD OF 'calamuslaw05.HeadReads'. -/
def headReadsCard : Claim7 := { stood := { row := headReadsRow, standIns := [], harness := (true, "36ce4200e89c0b7e4b7749934fa07597096ce6f0584488470ad1efbc7b5ebd85"), looks := false }, kinds := [], alts := [], laidByText := true, laidKinds := [.data], laidTests := true, laidLooks := .later }
def HeadReadsCardSaid : Prop := Claim7.holds Tryd.pinned (.plain (OpenSpec.ofChange headReadsSpec)) headReadsCard

/-- THE TIED CARD OF 'calamuslaw05.HeadBack'. -/
def headBackCard : Claim7 := { stood := { row := headBackRow, standIns := [], harness := (true, "36ce4200e89c0b7e4b7749934fa07597096ce6f0584488470ad1efbc7b5ebd85"), looks := false }, kinds := [], alts := [], laidByText := true, laidKinds := [.data], laidTests := true, laidLooks := .later }
def HeadBackCardSaid : Prop := Claim7.holds Tryd.pinned (.plain (OpenSpec.ofChange headBackSpec)) headBackCard

/-- THE TIED CARD OF 'calamuslaw09.FontBack'. -/
def fontBackCard : Claim7 := { stood := { row := fontBackRow, standIns := [], harness := (true, "36ce4200e89c0b7e4b7749934fa07597096ce6f0584488470ad1efbc7b5ebd85"), looks := false }, kinds := [], alts := [], laidByText := true, laidKinds := [.data], laidTests := true, laidLooks := .later }
def FontBackCardSaid : Prop := Claim7.holds Tryd.pinned (.plain (OpenSpec.ofChange fontBackSpec)) fontBackCard

/-- THE TIED CARD OF 'calamuslaw09.FontAgain'. -/
def fontAgainCard : Claim7 := { stood := { row := fontAgainRow, standIns := [], harness := (true, "36ce4200e89c0b7e4b7749934fa07597096ce6f0584488470ad1efbc7b5ebd85"), looks := false }, kinds := [], alts := [], laidByText := true, laidKinds := [.data], laidTests := true, laidLooks := .later }
def FontAgainCardSaid : Prop := Claim7.holds Tryd.pinned (.plain (OpenSpec.ofChange fontAgainSpec)) fontAgainCard

/-- THE TIED CARD OF 'calamuslaw09.FontKinds'. -/
def fontKindsCard : Claim7 := { stood := { row := fontKindsRow, standIns := [], harness := (true, "36ce4200e89c0b7e4b7749934fa07597096ce6f0584488470ad1efbc7b5ebd85"), looks := false }, kinds := [], alts := [], laidByText := true, laidKinds := [.data], laidTests := true, laidLooks := .later }
def FontKindsCardSaid : Prop := Claim7.holds Tryd.pinned (.plain (OpenSpec.ofChange fontKindsSpec)) fontKindsCard

/-- THE TIED CARD OF 'calamuslaw09.FontSyncs'. -/
def fontSyncsCard : Claim7 := { stood := { row := fontSyncsRow, standIns := [], harness := (true, "36ce4200e89c0b7e4b7749934fa07597096ce6f0584488470ad1efbc7b5ebd85"), looks := false }, kinds := [], alts := [], laidByText := true, laidKinds := [.data], laidTests := true, laidLooks := .later }
def FontSyncsCardSaid : Prop := Claim7.holds Tryd.pinned (.plain (OpenSpec.ofChange fontSyncsSpec)) fontSyncsCard

/-- THE TIED CARD OF 'calamuslaw09.FontPass'. -/
def fontPassCard : Claim7 := { stood := { row := fontPassRow, standIns := [], harness := (true, "36ce4200e89c0b7e4b7749934fa07597096ce6f0584488470ad1efbc7b5ebd85"), looks := false }, kinds := [], alts := [], laidByText := true, laidKinds := [.data], laidTests := true, laidLooks := .later }
def FontPassCardSaid : Prop := Claim7.holds Tryd.pinned (.plain (OpenSpec.ofChange fontPassSpec)) fontPassCard

/-- THE SECOND FORM's CARD OF 'calamuslaw05.HeadMaxps'. -/
def headMaxpsUptoCard : Claim7 := { stood := { row := headMaxpsUptoRow, standIns := [], harness := (true, "36ce4200e89c0b7e4b7749934fa07597096ce6f0584488470ad1efbc7b5ebd85"), looks := false }, kinds := [], alts := [], laidByText := true, laidKinds := [.data], laidTests := true, laidLooks := .later }
def HeadMaxpsUptoCardSaid : Prop := Claim7.holds Tryd.pinned (.plain (OpenSpec.upto headMaxpsSpec)) headMaxpsUptoCard

/-- THE SECOND FORM's CARD OF 'calamuslaw05.HeadElse'. -/
def headElseUptoCard : Claim7 := { stood := { row := headElseUptoRow, standIns := [], harness := (true, "36ce4200e89c0b7e4b7749934fa07597096ce6f0584488470ad1efbc7b5ebd85"), looks := false }, kinds := [], alts := [], laidByText := true, laidKinds := [.data], laidTests := true, laidLooks := .later }
def HeadElseUptoCardSaid : Prop := Claim7.holds Tryd.pinned (.plain (OpenSpec.upto headElseSpec)) headElseUptoCard

/-- THE SECOND FORM's CARD OF 'calamuslaw05.HeadReads'. -/
def headReadsUptoCard : Claim7 := { stood := { row := headReadsUptoRow, standIns := [], harness := (true, "36ce4200e89c0b7e4b7749934fa07597096ce6f0584488470ad1efbc7b5ebd85"), looks := false }, kinds := [], alts := [], laidByText := true, laidKinds := [.data], laidTests := true, laidLooks := .later }
def HeadReadsUptoCardSaid : Prop := Claim7.holds Tryd.pinned (.plain (OpenSpec.upto headReadsSpec)) headReadsUptoCard

/-- THE SECOND FORM's CARD OF 'calamuslaw05.HeadBack'. -/
def headBackUptoCard : Claim7 := { stood := { row := headBackUptoRow, standIns := [], harness := (true, "36ce4200e89c0b7e4b7749934fa07597096ce6f0584488470ad1efbc7b5ebd85"), looks := false }, kinds := [], alts := [], laidByText := true, laidKinds := [.data], laidTests := true, laidLooks := .later }
def HeadBackUptoCardSaid : Prop := Claim7.holds Tryd.pinned (.plain (OpenSpec.upto headBackSpec)) headBackUptoCard

/-- THE SECOND FORM's CARD OF 'calamuslaw09.FontBack'. -/
def fontBackUptoCard : Claim7 := { stood := { row := fontBackUptoRow, standIns := [], harness := (true, "36ce4200e89c0b7e4b7749934fa07597096ce6f0584488470ad1efbc7b5ebd85"), looks := false }, kinds := [], alts := [], laidByText := true, laidKinds := [.data], laidTests := true, laidLooks := .later }
def FontBackUptoCardSaid : Prop := Claim7.holds Tryd.pinned (.plain (OpenSpec.upto fontBackSpec)) fontBackUptoCard

/-- THE SECOND FORM's CARD OF 'calamuslaw09.FontAgain'. -/
def fontAgainUptoCard : Claim7 := { stood := { row := fontAgainUptoRow, standIns := [], harness := (true, "36ce4200e89c0b7e4b7749934fa07597096ce6f0584488470ad1efbc7b5ebd85"), looks := false }, kinds := [], alts := [], laidByText := true, laidKinds := [.data], laidTests := true, laidLooks := .later }
def FontAgainUptoCardSaid : Prop := Claim7.holds Tryd.pinned (.plain (OpenSpec.upto fontAgainSpec)) fontAgainUptoCard

/-- THE SECOND FORM's CARD OF 'calamuslaw09.FontKinds'. -/
def fontKindsUptoCard : Claim7 := { stood := { row := fontKindsUptoRow, standIns := [], harness := (true, "36ce4200e89c0b7e4b7749934fa07597096ce6f0584488470ad1efbc7b5ebd85"), looks := false }, kinds := [], alts := [], laidByText := true, laidKinds := [.data], laidTests := true, laidLooks := .later }
def FontKindsUptoCardSaid : Prop := Claim7.holds Tryd.pinned (.plain (OpenSpec.upto fontKindsSpec)) fontKindsUptoCard

/-- THE SECOND FORM's CARD OF 'calamuslaw09.FontSyncs'. -/
def fontSyncsUptoCard : Claim7 := { stood := { row := fontSyncsUptoRow, standIns := [], harness := (true, "36ce4200e89c0b7e4b7749934fa07597096ce6f0584488470ad1efbc7b5ebd85"), looks := false }, kinds := [], alts := [], laidByText := true, laidKinds := [.data], laidTests := true, laidLooks := .later }
def FontSyncsUptoCardSaid : Prop := Claim7.holds Tryd.pinned (.plain (OpenSpec.upto fontSyncsSpec)) fontSyncsUptoCard

/-- THE SECOND FORM's CARD OF 'calamuslaw09.FontPass'. -/
def fontPassUptoCard : Claim7 := { stood := { row := fontPassUptoRow, standIns := [], harness := (true, "36ce4200e89c0b7e4b7749934fa07597096ce6f0584488470ad1efbc7b5ebd85"), looks := false }, kinds := [], alts := [], laidByText := true, laidKinds := [.data], laidTests := true, laidLooks := .later }
def FontPassUptoCardSaid : Prop := Claim7.holds Tryd.pinned (.plain (OpenSpec.upto fontPassSpec)) fontPassUptoCard
end Rows
end Go.Proofs.YtcclmaicdmogjaaDoor
