/-
  DERIVED. GIVEN WITH THE SEED: THE CARDS: each row of YtikpfliiodgonaaGreatDoorRows.lean that lists a variable, with what it lists TIED to the program's text (the seventh form; the later family's looks); each row that meets fmt, with fmt's text TOLD by the authors' own Lean function (tested against real Go, not proved from fmt's source: count such statements apart). THE CARD IS WHAT COUNTS. Prove the row's statement (the work); the ties are given (YtikpfliiodgonaaGreatDoorTie.lean); close each card by the builder's one call (the guide's Derived/Test/ToyasCard.lean, 'card_holds'). Laid BY PROGRAM, IN A SANDBOX (cutbox-door.mjs). By AI agents, Wed Nov 11 2026. No macro, syntax, notation, axiom, sorry.
-/
import Derived.Test.YtikpfliiodgonaaGreatDoorRows
import GoSem.ClaimSeven
namespace Go.Proofs.YtikpfliiodgonaaGreatDoor
namespace Rows

/-- THE TIED CARD OF 'underwoodlaw10.ElideUses'. -/
def elideUsesCard : Claim7 := { stood := { row := elideUsesRow, standIns := [], harness := (true, "be2fa9c3f25507a4040b75b10886564575cfd983a7dfa4152c633f5af5c77612"), looks := true }, kinds := [], alts := [], laidByText := true, laidKinds := [.data, .data, .data, .sentinel, .sentinel], laidTests := true, laidLooks := .later }
def ElideUsesCardSaid : Prop := Claim7.holds Tryz.pinned (.plain (OpenSpec.ofChange elideUsesSpec)) elideUsesCard

/-- THE TIED CARD OF 'underwoodlaw10.ElideStrands'. -/
def elideStrandsCard : Claim7 := { stood := { row := elideStrandsRow, standIns := [], harness := (true, "be2fa9c3f25507a4040b75b10886564575cfd983a7dfa4152c633f5af5c77612"), looks := true }, kinds := [], alts := [], laidByText := true, laidKinds := [.data, .data, .data, .sentinel, .sentinel], laidTests := true, laidLooks := .later }
def ElideStrandsCardSaid : Prop := Claim7.holds Tryz.pinned (.plain (OpenSpec.ofChange elideStrandsSpec)) elideStrandsCard

/-- THE TIED CARD OF 'underwoodlaw10.ElideBounds'. -/
def elideBoundsCard : Claim7 := { stood := { row := elideBoundsRow, standIns := [], harness := (true, "be2fa9c3f25507a4040b75b10886564575cfd983a7dfa4152c633f5af5c77612"), looks := true }, kinds := [], alts := [], laidByText := true, laidKinds := [.data, .data, .data, .sentinel, .sentinel], laidTests := true, laidLooks := .later }
def ElideBoundsCardSaid : Prop := Claim7.holds Tryz.pinned (.plain (OpenSpec.ofChange elideBoundsSpec)) elideBoundsCard

/-- THE SECOND FORM's CARD OF 'underwoodlaw10.ElideUses'. -/
def elideUsesUptoCard : Claim7 := { stood := { row := elideUsesUptoRow, standIns := [], harness := (true, "be2fa9c3f25507a4040b75b10886564575cfd983a7dfa4152c633f5af5c77612"), looks := true }, kinds := [], alts := [], laidByText := true, laidKinds := [.data, .data, .data, .sentinel, .sentinel], laidTests := true, laidLooks := .later }
def ElideUsesUptoCardSaid : Prop := Claim7.holds Tryz.pinned (.plain (OpenSpec.upto elideUsesSpec)) elideUsesUptoCard

/-- THE SECOND FORM's CARD OF 'underwoodlaw10.ElideStrands'. -/
def elideStrandsUptoCard : Claim7 := { stood := { row := elideStrandsUptoRow, standIns := [], harness := (true, "be2fa9c3f25507a4040b75b10886564575cfd983a7dfa4152c633f5af5c77612"), looks := true }, kinds := [], alts := [], laidByText := true, laidKinds := [.data, .data, .data, .sentinel, .sentinel], laidTests := true, laidLooks := .later }
def ElideStrandsUptoCardSaid : Prop := Claim7.holds Tryz.pinned (.plain (OpenSpec.upto elideStrandsSpec)) elideStrandsUptoCard

/-- THE SECOND FORM's CARD OF 'underwoodlaw10.ElideBounds'. -/
def elideBoundsUptoCard : Claim7 := { stood := { row := elideBoundsUptoRow, standIns := [], harness := (true, "be2fa9c3f25507a4040b75b10886564575cfd983a7dfa4152c633f5af5c77612"), looks := true }, kinds := [], alts := [], laidByText := true, laidKinds := [.data, .data, .data, .sentinel, .sentinel], laidTests := true, laidLooks := .later }
def ElideBoundsUptoCardSaid : Prop := Claim7.holds Tryz.pinned (.plain (OpenSpec.upto elideBoundsSpec)) elideBoundsUptoCard
end Rows
end Go.Proofs.YtikpfliiodgonaaGreatDoor
