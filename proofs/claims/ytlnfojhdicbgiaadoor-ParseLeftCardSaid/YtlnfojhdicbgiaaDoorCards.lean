/-
  DERIVED. GIVEN WITH THE SEED: THE CARDS: each row of YtlnfojhdicbgiaaDoorRows.lean that lists a variable, with what it lists TIED to the program's text (the seventh form; the later family's looks); each row that meets fmt, with fmt's text TOLD by the authors' own Lean function (tested against real Go, not proved from fmt's source: count such statements apart). THE CARD IS WHAT COUNTS. Prove the row's statement (the work); the ties are given (YtlnfojhdicbgiaaDoorTie.lean); close each card by the builder's one call (the guide's Derived/Test/ToyasCard.lean, 'card_holds'). Laid BY PROGRAM, IN A SANDBOX (cutbox-door.mjs). By AI agents, Wed Nov 11 2026. No macro, syntax, notation, axiom, sorry.
-/
import Derived.Test.YtlnfojhdicbgiaaDoorRows
import GoSem.ClaimSeven
namespace Go.Proofs.YtlnfojhdicbgiaaDoor
namespace Rows

/-- THE TIED CARD OF 'underwoodlaw05.ParseLeft'. -/
def parseLeftCard : Claim7 := { stood := { row := parseLeftRow, standIns := [], harness := (true, "e8448abf829be711a8fc34ba72b65fbaac78661aaef71e392c4ab81f3cad4572"), looks := true }, kinds := [], alts := [], laidByText := true, laidKinds := [.data, .data, .data, .sentinel, .sentinel], laidTests := true, laidLooks := .later }
def ParseLeftCardSaid : Prop := Claim7.holds Tryd.pinned (.plain (OpenSpec.ofChange parseLeftSpec)) parseLeftCard

/-- THE SECOND FORM's CARD OF 'underwoodlaw05.ParseLeft'. -/
def parseLeftUptoCard : Claim7 := { stood := { row := parseLeftUptoRow, standIns := [], harness := (true, "e8448abf829be711a8fc34ba72b65fbaac78661aaef71e392c4ab81f3cad4572"), looks := true }, kinds := [], alts := [], laidByText := true, laidKinds := [.data, .data, .data, .sentinel, .sentinel], laidTests := true, laidLooks := .later }
def ParseLeftUptoCardSaid : Prop := Claim7.holds Tryd.pinned (.plain (OpenSpec.upto parseLeftSpec)) parseLeftUptoCard
end Rows
end Go.Proofs.YtlnfojhdicbgiaaDoor
