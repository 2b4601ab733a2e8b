/-
  DERIVED. GIVEN WITH THE SEED: THE CARDS: each row of YtoeaaemleaogbaaGreatDoorRows.lean that lists a variable, with what it lists TIED to the program's text (the seventh form; the later family's looks); each row that meets fmt, with fmt's text TOLD by the authors' own Lean function (tested against real Go, not proved from fmt's source: count such statements apart). THE CARD IS WHAT COUNTS. Prove the row's statement (the work); the ties are given (YtoeaaemleaogbaaGreatDoorTie.lean); close each card by the builder's one call (the guide's Derived/Test/ToyasCard.lean, 'card_holds'). Laid BY PROGRAM, IN A SANDBOX (cutbox-door.mjs). By AI agents, Wed Nov 11 2026. No macro, syntax, notation, axiom, sorry.
-/
import Derived.Test.YtoeaaemleaogbaaGreatDoorRows
import GoSem.ClaimSeven
namespace Go.Proofs.YtoeaaemleaogbaaGreatDoor
namespace Rows

/-- THE TIED CARD OF 'underwoodlaw06.CheckText'. -/
def checkTextCard : Claim7 := { stood := { row := checkTextRow, standIns := [], harness := (true, "3014ae1b02cb7b27d8299a6128467425e2aec4755e65894ccb3410fadd9136c3"), looks := true }, kinds := [], alts := [], laidByText := true, laidKinds := [.data, .data, .data, .sentinel, .sentinel], laidTests := true, laidLooks := .later }
def CheckTextCardSaid : Prop := Claim7.holds Tryz.pinned (.plain (OpenSpec.ofChange checkTextSpec)) checkTextCard

/-- THE TIED CARD OF 'underwoodlaw06.CheckCalls'. -/
def checkCallsCard : Claim7 := { stood := { row := checkCallsRow, standIns := [], harness := (true, "3014ae1b02cb7b27d8299a6128467425e2aec4755e65894ccb3410fadd9136c3"), looks := true }, kinds := [], alts := [], laidByText := true, laidKinds := [.data, .data, .data, .sentinel, .sentinel], laidTests := true, laidLooks := .later }
def CheckCallsCardSaid : Prop := Claim7.holds Tryz.pinned (.plain (OpenSpec.ofChange checkCallsSpec)) checkCallsCard

/-- THE TIED CARD OF 'underwoodlaw06.CheckNames'. -/
def checkNamesCard : Claim7 := { stood := { row := checkNamesRow, standIns := [], harness := (true, "3014ae1b02cb7b27d8299a6128467425e2aec4755e65894ccb3410fadd9136c3"), looks := true }, kinds := [], alts := [], laidByText := true, laidKinds := [.data, .data, .data, .sentinel, .sentinel], laidTests := true, laidLooks := .later }
def CheckNamesCardSaid : Prop := Claim7.holds Tryz.pinned (.plain (OpenSpec.ofChange checkNamesSpec)) checkNamesCard

/-- THE TIED CARD OF 'underwoodlaw06.CheckLocals'. -/
def checkLocalsCard : Claim7 := { stood := { row := checkLocalsRow, standIns := [], harness := (true, "3014ae1b02cb7b27d8299a6128467425e2aec4755e65894ccb3410fadd9136c3"), looks := true }, kinds := [], alts := [], laidByText := true, laidKinds := [.data, .data, .data, .sentinel, .sentinel], laidTests := true, laidLooks := .later }
def CheckLocalsCardSaid : Prop := Claim7.holds Tryz.pinned (.plain (OpenSpec.ofChange checkLocalsSpec)) checkLocalsCard

/-- THE TIED CARD OF 'underwoodlaw06.CheckTree'. -/
def checkTreeCard : Claim7 := { stood := { row := checkTreeRow, standIns := [], harness := (true, "3014ae1b02cb7b27d8299a6128467425e2aec4755e65894ccb3410fadd9136c3"), looks := true }, kinds := [], alts := [], laidByText := true, laidKinds := [.data, .data, .data, .sentinel, .sentinel], laidTests := true, laidLooks := .later }
def CheckTreeCardSaid : Prop := Claim7.holds Tryz.pinned (.plain (OpenSpec.ofChange checkTreeSpec)) checkTreeCard

/-- THE SECOND FORM's CARD OF 'underwoodlaw06.CheckText'. -/
def checkTextUptoCard : Claim7 := { stood := { row := checkTextUptoRow, standIns := [], harness := (true, "3014ae1b02cb7b27d8299a6128467425e2aec4755e65894ccb3410fadd9136c3"), looks := true }, kinds := [], alts := [], laidByText := true, laidKinds := [.data, .data, .data, .sentinel, .sentinel], laidTests := true, laidLooks := .later }
def CheckTextUptoCardSaid : Prop := Claim7.holds Tryz.pinned (.plain (OpenSpec.upto checkTextSpec)) checkTextUptoCard

/-- THE SECOND FORM's CARD OF 'underwoodlaw06.CheckCalls'. -/
def checkCallsUptoCard : Claim7 := { stood := { row := checkCallsUptoRow, standIns := [], harness := (true, "3014ae1b02cb7b27d8299a6128467425e2aec4755e65894ccb3410fadd9136c3"), looks := true }, kinds := [], alts := [], laidByText := true, laidKinds := [.data, .data, .data, .sentinel, .sentinel], laidTests := true, laidLooks := .later }
def CheckCallsUptoCardSaid : Prop := Claim7.holds Tryz.pinned (.plain (OpenSpec.upto checkCallsSpec)) checkCallsUptoCard

/-- THE SECOND FORM's CARD OF 'underwoodlaw06.CheckNames'. -/
def checkNamesUptoCard : Claim7 := { stood := { row := checkNamesUptoRow, standIns := [], harness := (true, "3014ae1b02cb7b27d8299a6128467425e2aec4755e65894ccb3410fadd9136c3"), looks := true }, kinds := [], alts := [], laidByText := true, laidKinds := [.data, .data, .data, .sentinel, .sentinel], laidTests := true, laidLooks := .later }
def CheckNamesUptoCardSaid : Prop := Claim7.holds Tryz.pinned (.plain (OpenSpec.upto checkNamesSpec)) checkNamesUptoCard

/-- THE SECOND FORM's CARD OF 'underwoodlaw06.CheckLocals'. -/
def checkLocalsUptoCard : Claim7 := { stood := { row := checkLocalsUptoRow, standIns := [], harness := (true, "3014ae1b02cb7b27d8299a6128467425e2aec4755e65894ccb3410fadd9136c3"), looks := true }, kinds := [], alts := [], laidByText := true, laidKinds := [.data, .data, .data, .sentinel, .sentinel], laidTests := true, laidLooks := .later }
def CheckLocalsUptoCardSaid : Prop := Claim7.holds Tryz.pinned (.plain (OpenSpec.upto checkLocalsSpec)) checkLocalsUptoCard

/-- THE SECOND FORM's CARD OF 'underwoodlaw06.CheckTree'. -/
def checkTreeUptoCard : Claim7 := { stood := { row := checkTreeUptoRow, standIns := [], harness := (true, "3014ae1b02cb7b27d8299a6128467425e2aec4755e65894ccb3410fadd9136c3"), looks := true }, kinds := [], alts := [], laidByText := true, laidKinds := [.data, .data, .data, .sentinel, .sentinel], laidTests := true, laidLooks := .later }
def CheckTreeUptoCardSaid : Prop := Claim7.holds Tryz.pinned (.plain (OpenSpec.upto checkTreeSpec)) checkTreeUptoCard
end Rows
end Go.Proofs.YtoeaaemleaogbaaGreatDoor
