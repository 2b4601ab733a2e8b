/-
  DERIVED. GIVEN WITH THE SEED: THE CARDS: each row of YticfdjaklojglaaGreatDoorRows.lean that lists a variable, with what it lists TIED to the program's text (the seventh form; the later family's looks); each row that meets fmt, with fmt's text TOLD by the authors' own Lean function (tested against real Go, not proved from fmt's source: count such statements apart). THE CARD IS WHAT COUNTS. Prove the row's statement (the work); the ties are given (YticfdjaklojglaaGreatDoorTie.lean); close each card by the builder's one call (the guide's Derived/Test/ToyasCard.lean, 'card_holds'). Laid BY PROGRAM, IN A SANDBOX (cutbox-door.mjs). By AI agents, Wed Nov 11 2026. No macro, syntax, notation, axiom, sorry.
-/
import Derived.Test.YticfdjaklojglaaGreatDoorRows
import GoSem.ClaimSeven
namespace Go.Proofs.YticfdjaklojglaaGreatDoor
namespace Rows

/-- THE TIED CARD OF 'underwoodlaw05.ParseWrites'. -/
def parseWritesCard : Claim7 := { stood := { row := parseWritesRow, standIns := [], harness := (true, "01f52ad9d300cd1e65e1835b36d05ef476c4a9e89a7d7d628b02136835316f40"), looks := true }, kinds := [], alts := [], laidByText := true, laidKinds := [.data, .data, .data, .sentinel, .sentinel], laidTests := true, laidLooks := .later }
def ParseWritesCardSaid : Prop := Claim7.holds Tryz.pinned (.plain (OpenSpec.ofChange parseWritesSpec)) parseWritesCard

/-- THE SECOND FORM's CARD OF 'underwoodlaw05.ParseWrites'. -/
def parseWritesUptoCard : Claim7 := { stood := { row := parseWritesUptoRow, standIns := [], harness := (true, "01f52ad9d300cd1e65e1835b36d05ef476c4a9e89a7d7d628b02136835316f40"), looks := true }, kinds := [], alts := [], laidByText := true, laidKinds := [.data, .data, .data, .sentinel, .sentinel], laidTests := true, laidLooks := .later }
def ParseWritesUptoCardSaid : Prop := Claim7.holds Tryz.pinned (.plain (OpenSpec.upto parseWritesSpec)) parseWritesUptoCard
end Rows
end Go.Proofs.YticfdjaklojglaaGreatDoor
