/-
  DERIVED. GIVEN WITH THE SEED: THE CARDS: each row of YticfdjaklojglaaDoorRows.lean that lists a variable, with what it lists TIED to the program's text (the seventh form; the later family's looks); each row that meets fmt, with fmt's text TOLD by the authors' own Lean function (tested against real Go, not proved from fmt's source: count such statements apart). THE CARD IS WHAT COUNTS. Prove the row's statement (the work); the ties are given (YticfdjaklojglaaDoorTie.lean); close each card by the builder's one call (the guide's Derived/Test/ToyasCard.lean, 'card_holds'). Laid BY PROGRAM, IN A SANDBOX (cutbox-door.mjs). By AI agents, Wed Nov 11 2026. No macro, syntax, notation, axiom, sorry.
-/
import Derived.Test.YticfdjaklojglaaDoorRows
import GoSem.ClaimSeven
namespace Go.Proofs.YticfdjaklojglaaDoor
namespace Rows

/-- THE TIED CARD OF 'underwoodlaw05.ParseBlanks'. -/
def parseBlanksCard : Claim7 := { stood := { row := parseBlanksRow, standIns := [], harness := (true, "2e44f8814be40d286f9ee70ddba5c2237eee4a85f49729edfeb7c2763d1ae509"), looks := true }, kinds := [], alts := [], laidByText := true, laidKinds := [.data, .data, .data, .sentinel, .sentinel], laidTests := true, laidLooks := .later }
def ParseBlanksCardSaid : Prop := Claim7.holds Tryd.pinned (.plain (OpenSpec.ofChange parseBlanksSpec)) parseBlanksCard

/-- THE TIED CARD OF 'underwoodlaw05.ParseNodes'. -/
def parseNodesCard : Claim7 := { stood := { row := parseNodesRow, standIns := [], harness := (true, "2e44f8814be40d286f9ee70ddba5c2237eee4a85f49729edfeb7c2763d1ae509"), looks := true }, kinds := [], alts := [], laidByText := true, laidKinds := [.data, .data, .data, .sentinel, .sentinel], laidTests := true, laidLooks := .later }
def ParseNodesCardSaid : Prop := Claim7.holds Tryd.pinned (.plain (OpenSpec.ofChange parseNodesSpec)) parseNodesCard

/-- THE TIED CARD OF 'underwoodlaw05.ParseCut'. -/
def parseCutCard : Claim7 := { stood := { row := parseCutRow, standIns := [], harness := (true, "2e44f8814be40d286f9ee70ddba5c2237eee4a85f49729edfeb7c2763d1ae509"), looks := true }, kinds := [], alts := [], laidByText := true, laidKinds := [.data, .data, .data, .sentinel, .sentinel], laidTests := true, laidLooks := .later }
def ParseCutCardSaid : Prop := Claim7.holds Tryd.pinned (.plain (OpenSpec.ofChange parseCutSpec)) parseCutCard

/-- THE TIED CARD OF 'underwoodlaw05.ParseBehind'. -/
def parseBehindCard : Claim7 := { stood := { row := parseBehindRow, standIns := [], harness := (true, "2e44f8814be40d286f9ee70ddba5c2237eee4a85f49729edfeb7c2763d1ae509"), looks := true }, kinds := [], alts := [], laidByText := true, laidKinds := [.data, .data, .data, .sentinel, .sentinel], laidTests := true, laidLooks := .later }
def ParseBehindCardSaid : Prop := Claim7.holds Tryd.pinned (.plain (OpenSpec.ofChange parseBehindSpec)) parseBehindCard

/-- THE TIED CARD OF 'underwoodlaw05.ParseBrackets'. -/
def parseBracketsCard : Claim7 := { stood := { row := parseBracketsRow, standIns := [], harness := (true, "2e44f8814be40d286f9ee70ddba5c2237eee4a85f49729edfeb7c2763d1ae509"), looks := true }, kinds := [], alts := [], laidByText := true, laidKinds := [.data, .data, .data, .sentinel, .sentinel], laidTests := true, laidLooks := .later }
def ParseBracketsCardSaid : Prop := Claim7.holds Tryd.pinned (.plain (OpenSpec.ofChange parseBracketsSpec)) parseBracketsCard

/-- THE TIED CARD OF 'underwoodlaw05.ParseLeft'. -/
def parseLeftCard : Claim7 := { stood := { row := parseLeftRow, standIns := [], harness := (true, "2e44f8814be40d286f9ee70ddba5c2237eee4a85f49729edfeb7c2763d1ae509"), looks := true }, kinds := [], alts := [], laidByText := true, laidKinds := [.data, .data, .data, .sentinel, .sentinel], laidTests := true, laidLooks := .later }
def ParseLeftCardSaid : Prop := Claim7.holds Tryd.pinned (.plain (OpenSpec.ofChange parseLeftSpec)) parseLeftCard

/-- THE SECOND FORM's CARD OF 'underwoodlaw05.ParseBlanks'. -/
def parseBlanksUptoCard : Claim7 := { stood := { row := parseBlanksUptoRow, standIns := [], harness := (true, "2e44f8814be40d286f9ee70ddba5c2237eee4a85f49729edfeb7c2763d1ae509"), looks := true }, kinds := [], alts := [], laidByText := true, laidKinds := [.data, .data, .data, .sentinel, .sentinel], laidTests := true, laidLooks := .later }
def ParseBlanksUptoCardSaid : Prop := Claim7.holds Tryd.pinned (.plain (OpenSpec.upto parseBlanksSpec)) parseBlanksUptoCard

/-- THE SECOND FORM's CARD OF 'underwoodlaw05.ParseNodes'. -/
def parseNodesUptoCard : Claim7 := { stood := { row := parseNodesUptoRow, standIns := [], harness := (true, "2e44f8814be40d286f9ee70ddba5c2237eee4a85f49729edfeb7c2763d1ae509"), looks := true }, kinds := [], alts := [], laidByText := true, laidKinds := [.data, .data, .data, .sentinel, .sentinel], laidTests := true, laidLooks := .later }
def ParseNodesUptoCardSaid : Prop := Claim7.holds Tryd.pinned (.plain (OpenSpec.upto parseNodesSpec)) parseNodesUptoCard

/-- THE SECOND FORM's CARD OF 'underwoodlaw05.ParseCut'. -/
def parseCutUptoCard : Claim7 := { stood := { row := parseCutUptoRow, standIns := [], harness := (true, "2e44f8814be40d286f9ee70ddba5c2237eee4a85f49729edfeb7c2763d1ae509"), looks := true }, kinds := [], alts := [], laidByText := true, laidKinds := [.data, .data, .data, .sentinel, .sentinel], laidTests := true, laidLooks := .later }
def ParseCutUptoCardSaid : Prop := Claim7.holds Tryd.pinned (.plain (OpenSpec.upto parseCutSpec)) parseCutUptoCard

/-- THE SECOND FORM's CARD OF 'underwoodlaw05.ParseBehind'. -/
def parseBehindUptoCard : Claim7 := { stood := { row := parseBehindUptoRow, standIns := [], harness := (true, "2e44f8814be40d286f9ee70ddba5c2237eee4a85f49729edfeb7c2763d1ae509"), looks := true }, kinds := [], alts := [], laidByText := true, laidKinds := [.data, .data, .data, .sentinel, .sentinel], laidTests := true, laidLooks := .later }
def ParseBehindUptoCardSaid : Prop := Claim7.holds Tryd.pinned (.plain (OpenSpec.upto parseBehindSpec)) parseBehindUptoCard

/-- THE SECOND FORM's CARD OF 'underwoodlaw05.ParseBrackets'. -/
def parseBracketsUptoCard : Claim7 := { stood := { row := parseBracketsUptoRow, standIns := [], harness := (true, "2e44f8814be40d286f9ee70ddba5c2237eee4a85f49729edfeb7c2763d1ae509"), looks := true }, kinds := [], alts := [], laidByText := true, laidKinds := [.data, .data, .data, .sentinel, .sentinel], laidTests := true, laidLooks := .later }
def ParseBracketsUptoCardSaid : Prop := Claim7.holds Tryd.pinned (.plain (OpenSpec.upto parseBracketsSpec)) parseBracketsUptoCard

/-- THE SECOND FORM's CARD OF 'underwoodlaw05.ParseLeft'. -/
def parseLeftUptoCard : Claim7 := { stood := { row := parseLeftUptoRow, standIns := [], harness := (true, "2e44f8814be40d286f9ee70ddba5c2237eee4a85f49729edfeb7c2763d1ae509"), looks := true }, kinds := [], alts := [], laidByText := true, laidKinds := [.data, .data, .data, .sentinel, .sentinel], laidTests := true, laidLooks := .later }
def ParseLeftUptoCardSaid : Prop := Claim7.holds Tryd.pinned (.plain (OpenSpec.upto parseLeftSpec)) parseLeftUptoCard
end Rows
end Go.Proofs.YticfdjaklojglaaDoor
