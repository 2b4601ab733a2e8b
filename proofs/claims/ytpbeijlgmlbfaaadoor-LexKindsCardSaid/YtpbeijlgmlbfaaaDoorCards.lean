/-
  DERIVED. GIVEN WITH THE SEED: THE CARDS: each row of YtpbeijlgmlbfaaaDoorRows.lean that lists a variable, with what it lists TIED to the program's text (the seventh form; the later family's looks); each row that meets fmt, with fmt's text TOLD by the authors' own Lean function (tested against real Go, not proved from fmt's source: count such statements apart). THE CARD IS WHAT COUNTS. Prove the row's statement (the work); the ties are given (YtpbeijlgmlbfaaaDoorTie.lean); close each card by the builder's one call (the guide's Derived/Test/ToyasCard.lean, 'card_holds'). Laid BY PROGRAM, IN A SANDBOX (cutbox-door.mjs). By AI agents, Wed Nov 11 2026. No macro, syntax, notation, axiom, sorry.
-/
import Derived.Test.YtpbeijlgmlbfaaaDoorRows
import GoSem.ClaimSeven
namespace Go.Proofs.YtpbeijlgmlbfaaaDoor
namespace Rows

/-- THE TIED CARD OF 'underwoodlaw04.LexReads'. -/
def lexReadsCard : Claim7 := { stood := { row := lexReadsRow, standIns := [], harness := (true, "e4f2edfc899ff9f20825c939d4a2708e4d92e12d3826c2d2fb437e47c19df06e"), looks := true }, kinds := [], alts := [], laidByText := true, laidKinds := [.data, .data, .data, .sentinel, .sentinel], laidTests := true, laidLooks := .later }
def LexReadsCardSaid : Prop := Claim7.holds Tryd.pinned (.plain (OpenSpec.ofChange lexReadsSpec)) lexReadsCard

/-- THE TIED CARD OF 'underwoodlaw04.LexShows'. -/
def lexShowsCard : Claim7 := { stood := { row := lexShowsRow, standIns := [], harness := (true, "e4f2edfc899ff9f20825c939d4a2708e4d92e12d3826c2d2fb437e47c19df06e"), looks := true }, kinds := [], alts := [], laidByText := true, laidKinds := [.data, .data, .data, .sentinel, .sentinel], laidTests := true, laidLooks := .later }
def LexShowsCardSaid : Prop := Claim7.holds Tryd.pinned (.plain (OpenSpec.ofChange lexShowsSpec)) lexShowsCard

/-- THE TIED CARD OF 'underwoodlaw04.LexPlaces'. -/
def lexPlacesCard : Claim7 := { stood := { row := lexPlacesRow, standIns := [], harness := (true, "e4f2edfc899ff9f20825c939d4a2708e4d92e12d3826c2d2fb437e47c19df06e"), looks := true }, kinds := [], alts := [], laidByText := true, laidKinds := [.data, .data, .data, .sentinel, .sentinel], laidTests := true, laidLooks := .later }
def LexPlacesCardSaid : Prop := Claim7.holds Tryd.pinned (.plain (OpenSpec.ofChange lexPlacesSpec)) lexPlacesCard

/-- THE TIED CARD OF 'underwoodlaw04.LexAgain'. -/
def lexAgainCard : Claim7 := { stood := { row := lexAgainRow, standIns := [], harness := (true, "e4f2edfc899ff9f20825c939d4a2708e4d92e12d3826c2d2fb437e47c19df06e"), looks := true }, kinds := [], alts := [], laidByText := true, laidKinds := [.data, .data, .data, .sentinel, .sentinel], laidTests := true, laidLooks := .later }
def LexAgainCardSaid : Prop := Claim7.holds Tryd.pinned (.plain (OpenSpec.ofChange lexAgainSpec)) lexAgainCard

/-- THE TIED CARD OF 'underwoodlaw04.LexBoth'. -/
def lexBothCard : Claim7 := { stood := { row := lexBothRow, standIns := [], harness := (true, "e4f2edfc899ff9f20825c939d4a2708e4d92e12d3826c2d2fb437e47c19df06e"), looks := true }, kinds := [], alts := [], laidByText := true, laidKinds := [.data, .data, .data, .sentinel, .sentinel], laidTests := true, laidLooks := .later }
def LexBothCardSaid : Prop := Claim7.holds Tryd.pinned (.plain (OpenSpec.ofChange lexBothSpec)) lexBothCard

/-- THE TIED CARD OF 'underwoodlaw04.LexKinds'. -/
def lexKindsCard : Claim7 := { stood := { row := lexKindsRow, standIns := [], harness := (true, "e4f2edfc899ff9f20825c939d4a2708e4d92e12d3826c2d2fb437e47c19df06e"), looks := true }, kinds := [], alts := [], laidByText := true, laidKinds := [.data, .data, .data, .sentinel, .sentinel], laidTests := true, laidLooks := .later }
def LexKindsCardSaid : Prop := Claim7.holds Tryd.pinned (.plain (OpenSpec.ofChange lexKindsSpec)) lexKindsCard

/-- THE SECOND FORM's CARD OF 'underwoodlaw04.LexReads'. -/
def lexReadsUptoCard : Claim7 := { stood := { row := lexReadsUptoRow, standIns := [], harness := (true, "e4f2edfc899ff9f20825c939d4a2708e4d92e12d3826c2d2fb437e47c19df06e"), looks := true }, kinds := [], alts := [], laidByText := true, laidKinds := [.data, .data, .data, .sentinel, .sentinel], laidTests := true, laidLooks := .later }
def LexReadsUptoCardSaid : Prop := Claim7.holds Tryd.pinned (.plain (OpenSpec.upto lexReadsSpec)) lexReadsUptoCard

/-- THE SECOND FORM's CARD OF 'underwoodlaw04.LexShows'. -/
def lexShowsUptoCard : Claim7 := { stood := { row := lexShowsUptoRow, standIns := [], harness := (true, "e4f2edfc899ff9f20825c939d4a2708e4d92e12d3826c2d2fb437e47c19df06e"), looks := true }, kinds := [], alts := [], laidByText := true, laidKinds := [.data, .data, .data, .sentinel, .sentinel], laidTests := true, laidLooks := .later }
def LexShowsUptoCardSaid : Prop := Claim7.holds Tryd.pinned (.plain (OpenSpec.upto lexShowsSpec)) lexShowsUptoCard

/-- THE SECOND FORM's CARD OF 'underwoodlaw04.LexPlaces'. -/
def lexPlacesUptoCard : Claim7 := { stood := { row := lexPlacesUptoRow, standIns := [], harness := (true, "e4f2edfc899ff9f20825c939d4a2708e4d92e12d3826c2d2fb437e47c19df06e"), looks := true }, kinds := [], alts := [], laidByText := true, laidKinds := [.data, .data, .data, .sentinel, .sentinel], laidTests := true, laidLooks := .later }
def LexPlacesUptoCardSaid : Prop := Claim7.holds Tryd.pinned (.plain (OpenSpec.upto lexPlacesSpec)) lexPlacesUptoCard

/-- THE SECOND FORM's CARD OF 'underwoodlaw04.LexAgain'. -/
def lexAgainUptoCard : Claim7 := { stood := { row := lexAgainUptoRow, standIns := [], harness := (true, "e4f2edfc899ff9f20825c939d4a2708e4d92e12d3826c2d2fb437e47c19df06e"), looks := true }, kinds := [], alts := [], laidByText := true, laidKinds := [.data, .data, .data, .sentinel, .sentinel], laidTests := true, laidLooks := .later }
def LexAgainUptoCardSaid : Prop := Claim7.holds Tryd.pinned (.plain (OpenSpec.upto lexAgainSpec)) lexAgainUptoCard

/-- THE SECOND FORM's CARD OF 'underwoodlaw04.LexBoth'. -/
def lexBothUptoCard : Claim7 := { stood := { row := lexBothUptoRow, standIns := [], harness := (true, "e4f2edfc899ff9f20825c939d4a2708e4d92e12d3826c2d2fb437e47c19df06e"), looks := true }, kinds := [], alts := [], laidByText := true, laidKinds := [.data, .data, .data, .sentinel, .sentinel], laidTests := true, laidLooks := .later }
def LexBothUptoCardSaid : Prop := Claim7.holds Tryd.pinned (.plain (OpenSpec.upto lexBothSpec)) lexBothUptoCard

/-- THE SECOND FORM's CARD OF 'underwoodlaw04.LexKinds'. -/
def lexKindsUptoCard : Claim7 := { stood := { row := lexKindsUptoRow, standIns := [], harness := (true, "e4f2edfc899ff9f20825c939d4a2708e4d92e12d3826c2d2fb437e47c19df06e"), looks := true }, kinds := [], alts := [], laidByText := true, laidKinds := [.data, .data, .data, .sentinel, .sentinel], laidTests := true, laidLooks := .later }
def LexKindsUptoCardSaid : Prop := Claim7.holds Tryd.pinned (.plain (OpenSpec.upto lexKindsSpec)) lexKindsUptoCard
end Rows
end Go.Proofs.YtpbeijlgmlbfaaaDoor
