/-
  DERIVED. GIVEN WITH THE SEED: THE CARDS: each row of YtkmkjfkpnmhaiaaGreatDoorRows.lean that lists a variable, with what it lists TIED to the program's text (the seventh form; the later family's looks); each row that meets fmt, with fmt's text TOLD by the authors' own Lean function (tested against real Go, not proved from fmt's source: count such statements apart). THE CARD IS WHAT COUNTS. Prove the row's statement (the work); the ties are given (YtkmkjfkpnmhaiaaGreatDoorTie.lean); close each card by the builder's one call (the guide's Derived/Test/ToyasCard.lean, 'card_holds'). Laid BY PROGRAM, IN A SANDBOX (cutbox-door.mjs). By AI agents, Wed Nov 11 2026. No macro, syntax, notation, axiom, sorry.
-/
import Derived.Test.YtkmkjfkpnmhaiaaGreatDoorRows
import GoSem.ClaimSeven
namespace Go.Proofs.YtkmkjfkpnmhaiaaGreatDoor
namespace Rows

/-- THE TIED CARD OF 'underwoodlaw07.CompileMay'. -/
def compileMayCard : Claim7 := { stood := { row := compileMayRow, standIns := [], harness := (true, "cb17bf5a779e652cc9d7ab5f054ee84b8357e7cbd73396fd8c6b5dab94fb09fd"), looks := true }, kinds := [], alts := [], laidByText := true, laidKinds := [.data, .data, .data, .sentinel, .sentinel], laidTests := true, laidLooks := .later }
def CompileMayCardSaid : Prop := Claim7.holds Tryz.pinned (.plain (OpenSpec.ofChange compileMaySpec)) compileMayCard

/-- THE TIED CARD OF 'underwoodlaw07.CompileBehind'. -/
def compileBehindCard : Claim7 := { stood := { row := compileBehindRow, standIns := [], harness := (true, "cb17bf5a779e652cc9d7ab5f054ee84b8357e7cbd73396fd8c6b5dab94fb09fd"), looks := true }, kinds := [], alts := [], laidByText := true, laidKinds := [.data, .data, .data, .sentinel, .sentinel], laidTests := true, laidLooks := .later }
def CompileBehindCardSaid : Prop := Claim7.holds Tryz.pinned (.plain (OpenSpec.ofChange compileBehindSpec)) compileBehindCard

/-- THE TIED CARD OF 'underwoodlaw07.CompileLocals'. -/
def compileLocalsCard : Claim7 := { stood := { row := compileLocalsRow, standIns := [], harness := (true, "cb17bf5a779e652cc9d7ab5f054ee84b8357e7cbd73396fd8c6b5dab94fb09fd"), looks := true }, kinds := [], alts := [], laidByText := true, laidKinds := [.data, .data, .data, .sentinel, .sentinel], laidTests := true, laidLooks := .later }
def CompileLocalsCardSaid : Prop := Claim7.holds Tryz.pinned (.plain (OpenSpec.ofChange compileLocalsSpec)) compileLocalsCard

/-- THE TIED CARD OF 'underwoodlaw07.CompileHelper'. -/
def compileHelperCard : Claim7 := { stood := { row := compileHelperRow, standIns := [], harness := (true, "cb17bf5a779e652cc9d7ab5f054ee84b8357e7cbd73396fd8c6b5dab94fb09fd"), looks := true }, kinds := [], alts := [], laidByText := true, laidKinds := [.data, .data, .data, .sentinel, .sentinel], laidTests := true, laidLooks := .later }
def CompileHelperCardSaid : Prop := Claim7.holds Tryz.pinned (.plain (OpenSpec.ofChange compileHelperSpec)) compileHelperCard

/-- THE TIED CARD OF 'underwoodlaw07.CompileWritten'. -/
def compileWrittenCard : Claim7 := { stood := { row := compileWrittenRow, standIns := [], harness := (true, "cb17bf5a779e652cc9d7ab5f054ee84b8357e7cbd73396fd8c6b5dab94fb09fd"), looks := true }, kinds := [], alts := [], laidByText := true, laidKinds := [.data, .data, .data, .sentinel, .sentinel], laidTests := true, laidLooks := .later }
def CompileWrittenCardSaid : Prop := Claim7.holds Tryz.pinned (.plain (OpenSpec.ofChange compileWrittenSpec)) compileWrittenCard

/-- THE SECOND FORM's CARD OF 'underwoodlaw07.CompileMay'. -/
def compileMayUptoCard : Claim7 := { stood := { row := compileMayUptoRow, standIns := [], harness := (true, "cb17bf5a779e652cc9d7ab5f054ee84b8357e7cbd73396fd8c6b5dab94fb09fd"), looks := true }, kinds := [], alts := [], laidByText := true, laidKinds := [.data, .data, .data, .sentinel, .sentinel], laidTests := true, laidLooks := .later }
def CompileMayUptoCardSaid : Prop := Claim7.holds Tryz.pinned (.plain (OpenSpec.upto compileMaySpec)) compileMayUptoCard

/-- THE SECOND FORM's CARD OF 'underwoodlaw07.CompileBehind'. -/
def compileBehindUptoCard : Claim7 := { stood := { row := compileBehindUptoRow, standIns := [], harness := (true, "cb17bf5a779e652cc9d7ab5f054ee84b8357e7cbd73396fd8c6b5dab94fb09fd"), looks := true }, kinds := [], alts := [], laidByText := true, laidKinds := [.data, .data, .data, .sentinel, .sentinel], laidTests := true, laidLooks := .later }
def CompileBehindUptoCardSaid : Prop := Claim7.holds Tryz.pinned (.plain (OpenSpec.upto compileBehindSpec)) compileBehindUptoCard

/-- THE SECOND FORM's CARD OF 'underwoodlaw07.CompileLocals'. -/
def compileLocalsUptoCard : Claim7 := { stood := { row := compileLocalsUptoRow, standIns := [], harness := (true, "cb17bf5a779e652cc9d7ab5f054ee84b8357e7cbd73396fd8c6b5dab94fb09fd"), looks := true }, kinds := [], alts := [], laidByText := true, laidKinds := [.data, .data, .data, .sentinel, .sentinel], laidTests := true, laidLooks := .later }
def CompileLocalsUptoCardSaid : Prop := Claim7.holds Tryz.pinned (.plain (OpenSpec.upto compileLocalsSpec)) compileLocalsUptoCard

/-- THE SECOND FORM's CARD OF 'underwoodlaw07.CompileHelper'. -/
def compileHelperUptoCard : Claim7 := { stood := { row := compileHelperUptoRow, standIns := [], harness := (true, "cb17bf5a779e652cc9d7ab5f054ee84b8357e7cbd73396fd8c6b5dab94fb09fd"), looks := true }, kinds := [], alts := [], laidByText := true, laidKinds := [.data, .data, .data, .sentinel, .sentinel], laidTests := true, laidLooks := .later }
def CompileHelperUptoCardSaid : Prop := Claim7.holds Tryz.pinned (.plain (OpenSpec.upto compileHelperSpec)) compileHelperUptoCard

/-- THE SECOND FORM's CARD OF 'underwoodlaw07.CompileWritten'. -/
def compileWrittenUptoCard : Claim7 := { stood := { row := compileWrittenUptoRow, standIns := [], harness := (true, "cb17bf5a779e652cc9d7ab5f054ee84b8357e7cbd73396fd8c6b5dab94fb09fd"), looks := true }, kinds := [], alts := [], laidByText := true, laidKinds := [.data, .data, .data, .sentinel, .sentinel], laidTests := true, laidLooks := .later }
def CompileWrittenUptoCardSaid : Prop := Claim7.holds Tryz.pinned (.plain (OpenSpec.upto compileWrittenSpec)) compileWrittenUptoCard
end Rows
end Go.Proofs.YtkmkjfkpnmhaiaaGreatDoor
