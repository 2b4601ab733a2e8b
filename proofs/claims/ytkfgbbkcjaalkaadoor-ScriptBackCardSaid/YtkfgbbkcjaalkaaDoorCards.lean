/-
  DERIVED. GIVEN WITH THE SEED: THE CARDS: each row of YtkfgbbkcjaalkaaDoorRows.lean that lists a variable, with what it lists TIED to the program's text (the seventh form; the later family's looks); each row that meets fmt, with fmt's text TOLD by the authors' own Lean function (tested against real Go, not proved from fmt's source: count such statements apart). THE CARD IS WHAT COUNTS. Prove the row's statement (the work); the ties are given (YtkfgbbkcjaalkaaDoorTie.lean); close each card by the builder's one call (the guide's Derived/Test/ToyasCard.lean, 'card_holds'). Laid BY PROGRAM, IN A SANDBOX (cutbox-door.mjs). By AI agents, Wed Nov 11 2026. No macro, syntax, notation, axiom, sorry.
-/
import Derived.Test.YtkfgbbkcjaalkaaDoorRows
import GoSem.ClaimSeven
namespace Go.Proofs.YtkfgbbkcjaalkaaDoor
namespace Rows

/-- THE TIED CARD OF 'underwoodlaw29.ScriptPlain'. -/
def scriptPlainCard : Claim7 := { stood := { row := scriptPlainRow, standIns := [], harness := (true, "62f0b19c5ae9400985ab9057525002dded9b2443e272f5b106ca6d4113378c64"), looks := false }, kinds := [], alts := [], laidByText := true, laidKinds := [.data, .data, .data], laidTests := true, laidLooks := .later }
def ScriptPlainCardSaid : Prop := Claim7.holds Tryd.pinned (.plain (OpenSpec.ofChange scriptPlainSpec)) scriptPlainCard

/-- THE TIED CARD OF 'underwoodlaw29.ScriptReads'. -/
def scriptReadsCard : Claim7 := { stood := { row := scriptReadsRow, standIns := [], harness := (true, "62f0b19c5ae9400985ab9057525002dded9b2443e272f5b106ca6d4113378c64"), looks := false }, kinds := [], alts := [], laidByText := true, laidKinds := [.data, .data, .data], laidTests := true, laidLooks := .later }
def ScriptReadsCardSaid : Prop := Claim7.holds Tryd.pinned (.plain (OpenSpec.ofChange scriptReadsSpec)) scriptReadsCard

/-- THE TIED CARD OF 'underwoodlaw29.ScriptBack'. -/
def scriptBackCard : Claim7 := { stood := { row := scriptBackRow, standIns := [], harness := (true, "62f0b19c5ae9400985ab9057525002dded9b2443e272f5b106ca6d4113378c64"), looks := false }, kinds := [], alts := [], laidByText := true, laidKinds := [.data, .data, .data], laidTests := true, laidLooks := .later }
def ScriptBackCardSaid : Prop := Claim7.holds Tryd.pinned (.plain (OpenSpec.ofChange scriptBackSpec)) scriptBackCard

/-- THE TIED CARD OF 'underwoodlaw29.ScriptAlive'. -/
def scriptAliveCard : Claim7 := { stood := { row := scriptAliveRow, standIns := [], harness := (true, "62f0b19c5ae9400985ab9057525002dded9b2443e272f5b106ca6d4113378c64"), looks := false }, kinds := [], alts := [], laidByText := true, laidKinds := [.data, .data, .data], laidTests := true, laidLooks := .later }
def ScriptAliveCardSaid : Prop := Claim7.holds Tryd.pinned (.plain (OpenSpec.ofChange scriptAliveSpec)) scriptAliveCard

/-- THE TIED CARD OF 'underwoodlaw29.ScriptTwice'. -/
def scriptTwiceCard : Claim7 := { stood := { row := scriptTwiceRow, standIns := [], harness := (true, "62f0b19c5ae9400985ab9057525002dded9b2443e272f5b106ca6d4113378c64"), looks := false }, kinds := [], alts := [], laidByText := true, laidKinds := [.data, .data, .data], laidTests := true, laidLooks := .later }
def ScriptTwiceCardSaid : Prop := Claim7.holds Tryd.pinned (.plain (OpenSpec.ofChange scriptTwiceSpec)) scriptTwiceCard

/-- THE TIED CARD OF 'underwoodlaw29.ScriptBegins'. -/
def scriptBeginsCard : Claim7 := { stood := { row := scriptBeginsRow, standIns := [], harness := (true, "62f0b19c5ae9400985ab9057525002dded9b2443e272f5b106ca6d4113378c64"), looks := false }, kinds := [], alts := [], laidByText := true, laidKinds := [.data, .data, .data], laidTests := true, laidLooks := .later }
def ScriptBeginsCardSaid : Prop := Claim7.holds Tryd.pinned (.plain (OpenSpec.ofChange scriptBeginsSpec)) scriptBeginsCard

/-- THE TIED CARD OF 'underwoodlaw29.ScriptTurns'. -/
def scriptTurnsCard : Claim7 := { stood := { row := scriptTurnsRow, standIns := [], harness := (true, "62f0b19c5ae9400985ab9057525002dded9b2443e272f5b106ca6d4113378c64"), looks := false }, kinds := [], alts := [], laidByText := true, laidKinds := [.data, .data, .data], laidTests := true, laidLooks := .later }
def ScriptTurnsCardSaid : Prop := Claim7.holds Tryd.pinned (.plain (OpenSpec.ofChange scriptTurnsSpec)) scriptTurnsCard

/-- THE TIED CARD OF 'underwoodlaw29.ScriptStalls'. -/
def scriptStallsCard : Claim7 := { stood := { row := scriptStallsRow, standIns := [], harness := (true, "62f0b19c5ae9400985ab9057525002dded9b2443e272f5b106ca6d4113378c64"), looks := false }, kinds := [], alts := [], laidByText := true, laidKinds := [.data, .data, .data], laidTests := true, laidLooks := .later }
def ScriptStallsCardSaid : Prop := Claim7.holds Tryd.pinned (.plain (OpenSpec.ofChange scriptStallsSpec)) scriptStallsCard

/-- THE SECOND FORM's CARD OF 'underwoodlaw29.ScriptPlain'. -/
def scriptPlainUptoCard : Claim7 := { stood := { row := scriptPlainUptoRow, standIns := [], harness := (true, "62f0b19c5ae9400985ab9057525002dded9b2443e272f5b106ca6d4113378c64"), looks := false }, kinds := [], alts := [], laidByText := true, laidKinds := [.data, .data, .data], laidTests := true, laidLooks := .later }
def ScriptPlainUptoCardSaid : Prop := Claim7.holds Tryd.pinned (.plain (OpenSpec.upto scriptPlainSpec)) scriptPlainUptoCard

/-- THE SECOND FORM's CARD OF 'underwoodlaw29.ScriptReads'. -/
def scriptReadsUptoCard : Claim7 := { stood := { row := scriptReadsUptoRow, standIns := [], harness := (true, "62f0b19c5ae9400985ab9057525002dded9b2443e272f5b106ca6d4113378c64"), looks := false }, kinds := [], alts := [], laidByText := true, laidKinds := [.data, .data, .data], laidTests := true, laidLooks := .later }
def ScriptReadsUptoCardSaid : Prop := Claim7.holds Tryd.pinned (.plain (OpenSpec.upto scriptReadsSpec)) scriptReadsUptoCard

/-- THE SECOND FORM's CARD OF 'underwoodlaw29.ScriptBack'. -/
def scriptBackUptoCard : Claim7 := { stood := { row := scriptBackUptoRow, standIns := [], harness := (true, "62f0b19c5ae9400985ab9057525002dded9b2443e272f5b106ca6d4113378c64"), looks := false }, kinds := [], alts := [], laidByText := true, laidKinds := [.data, .data, .data], laidTests := true, laidLooks := .later }
def ScriptBackUptoCardSaid : Prop := Claim7.holds Tryd.pinned (.plain (OpenSpec.upto scriptBackSpec)) scriptBackUptoCard

/-- THE SECOND FORM's CARD OF 'underwoodlaw29.ScriptAlive'. -/
def scriptAliveUptoCard : Claim7 := { stood := { row := scriptAliveUptoRow, standIns := [], harness := (true, "62f0b19c5ae9400985ab9057525002dded9b2443e272f5b106ca6d4113378c64"), looks := false }, kinds := [], alts := [], laidByText := true, laidKinds := [.data, .data, .data], laidTests := true, laidLooks := .later }
def ScriptAliveUptoCardSaid : Prop := Claim7.holds Tryd.pinned (.plain (OpenSpec.upto scriptAliveSpec)) scriptAliveUptoCard

/-- THE SECOND FORM's CARD OF 'underwoodlaw29.ScriptTwice'. -/
def scriptTwiceUptoCard : Claim7 := { stood := { row := scriptTwiceUptoRow, standIns := [], harness := (true, "62f0b19c5ae9400985ab9057525002dded9b2443e272f5b106ca6d4113378c64"), looks := false }, kinds := [], alts := [], laidByText := true, laidKinds := [.data, .data, .data], laidTests := true, laidLooks := .later }
def ScriptTwiceUptoCardSaid : Prop := Claim7.holds Tryd.pinned (.plain (OpenSpec.upto scriptTwiceSpec)) scriptTwiceUptoCard

/-- THE SECOND FORM's CARD OF 'underwoodlaw29.ScriptBegins'. -/
def scriptBeginsUptoCard : Claim7 := { stood := { row := scriptBeginsUptoRow, standIns := [], harness := (true, "62f0b19c5ae9400985ab9057525002dded9b2443e272f5b106ca6d4113378c64"), looks := false }, kinds := [], alts := [], laidByText := true, laidKinds := [.data, .data, .data], laidTests := true, laidLooks := .later }
def ScriptBeginsUptoCardSaid : Prop := Claim7.holds Tryd.pinned (.plain (OpenSpec.upto scriptBeginsSpec)) scriptBeginsUptoCard

/-- THE SECOND FORM's CARD OF 'underwoodlaw29.ScriptTurns'. -/
def scriptTurnsUptoCard : Claim7 := { stood := { row := scriptTurnsUptoRow, standIns := [], harness := (true, "62f0b19c5ae9400985ab9057525002dded9b2443e272f5b106ca6d4113378c64"), looks := false }, kinds := [], alts := [], laidByText := true, laidKinds := [.data, .data, .data], laidTests := true, laidLooks := .later }
def ScriptTurnsUptoCardSaid : Prop := Claim7.holds Tryd.pinned (.plain (OpenSpec.upto scriptTurnsSpec)) scriptTurnsUptoCard

/-- THE SECOND FORM's CARD OF 'underwoodlaw29.ScriptStalls'. -/
def scriptStallsUptoCard : Claim7 := { stood := { row := scriptStallsUptoRow, standIns := [], harness := (true, "62f0b19c5ae9400985ab9057525002dded9b2443e272f5b106ca6d4113378c64"), looks := false }, kinds := [], alts := [], laidByText := true, laidKinds := [.data, .data, .data], laidTests := true, laidLooks := .later }
def ScriptStallsUptoCardSaid : Prop := Claim7.holds Tryd.pinned (.plain (OpenSpec.upto scriptStallsSpec)) scriptStallsUptoCard
end Rows
end Go.Proofs.YtkfgbbkcjaalkaaDoor
