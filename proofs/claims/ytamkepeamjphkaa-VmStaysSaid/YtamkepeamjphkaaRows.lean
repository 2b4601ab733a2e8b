/-
  No cell of these rows narrows 'for every input' (looked for: loops, veiled, ifaces, maps, wideKeys, modest, calm, conditions, laid).
  DERIVED. THE GIVEN ROWS OF THIS SEAT. 7 by the template 'for every input the law returns true; each argument reads behind the call as it read before'; 0 by the template 'total and deterministic' (their statements: YtamkepeamjphkaaTotals.lean).
  GIVEN WITH THE SEED: the statements are not yours to turn. If you find one false, say at which input.
  Laid BY PROGRAM, IN A SANDBOX (cutbox-rows.mjs): the forced cells as the released guide's own fill.sh prints them over the translation 0ac2cd3e7d67937f… (all of the seat's roots in one cut). By AI agents, Wed Nov 11 2026. No macro, syntax, notation, axiom, sorry.
-/
import Derived.Test.YtamkepeamjphkaaChecked
import GoSem.Claim
import GoSem.ClaimJoined
import GoSem.ClaimMapViews
import Derived.JoinedTies
import Derived.KernelRfl
namespace Go.Proofs.Ytamkepeamjphkaa
/- THE CELL 'sum', in the pinned program and in every row, IS THE sha256 OF THE DUMP (.gsa) THAT YtamkepeamjphkaaProg.lean LOADS. Nothing in Lean hashes anything: it is a label: what it is worth is what the hold of that sum in a sandbox is worth. -/
noncomputable def Try.pinned : Pinned := { name := "ytamkepeamjphkaa", sum := "0ac2cd3e7d67937fd714c9dbdcc7bc944820652a8c29abd8df652ffc06a3a67c", checked := Try.checked }
namespace Rows
def none {H : Type} : Left H := { results := [], args := [] }

/-- 'underwoodlaw08.VmStarts': WHATEVER THE INPUT: true; the input reads as it did. -/
def vmStartsSpec : ChangeSpec := { name := "vmStarts", fn := fun _ => fun
  | [d] => { results := [.lit (.bool true)], args := [d] }
  | _ => none }
def vmStartsRow : OpenClaim := { program := "ytamkepeamjphkaa", sum := "0ac2cd3e7d67937fd714c9dbdcc7bc944820652a8c29abd8df652ffc06a3a67c", func := "underwood/underwoodlaw08.VmStarts", spec := "vmStarts", unfollowed := true, recurses := true, apart := false }
def VmStartsSaid : Prop := vmStartsRow.holds Try.pinned (OpenSpec.ofChange vmStartsSpec)

/-- ITS FALSE NEIGHBOUR: 'it returns false'. Refute it at one input. -/
def vmStartsWrong : ChangeSpec := { name := "vmStarts", fn := fun _ => fun
  | [d] => { results := [.lit (.bool false)], args := [d] }
  | _ => none }
def VmStartsWrongFalsely : Prop := vmStartsRow.holds Try.pinned (OpenSpec.ofChange vmStartsWrong)

/-- 'underwoodlaw08.VmStays': WHATEVER THE INPUT: true; the input reads as it did. -/
def vmStaysSpec : ChangeSpec := { name := "vmStays", fn := fun _ => fun
  | [d1, d2, d3] => { results := [.lit (.bool true)], args := [d1, d2, d3] }
  | _ => none }
def vmStaysRow : OpenClaim := { program := "ytamkepeamjphkaa", sum := "0ac2cd3e7d67937fd714c9dbdcc7bc944820652a8c29abd8df652ffc06a3a67c", func := "underwood/underwoodlaw08.VmStays", spec := "vmStays", unfollowed := true, recurses := true, apart := false }
def VmStaysSaid : Prop := vmStaysRow.holds Try.pinned (OpenSpec.ofChange vmStaysSpec)

/-- ITS FALSE NEIGHBOUR: 'it returns false'. Refute it at one input. -/
def vmStaysWrong : ChangeSpec := { name := "vmStays", fn := fun _ => fun
  | [d1, d2, d3] => { results := [.lit (.bool false)], args := [d1, d2, d3] }
  | _ => none }
def VmStaysWrongFalsely : Prop := vmStaysRow.holds Try.pinned (OpenSpec.ofChange vmStaysWrong)

/-- 'underwoodlaw08.VmAgain': WHATEVER THE INPUT: true; the input reads as it did. -/
def vmAgainSpec : ChangeSpec := { name := "vmAgain", fn := fun _ => fun
  | [d1, d2, d3] => { results := [.lit (.bool true)], args := [d1, d2, d3] }
  | _ => none }
def vmAgainRow : OpenClaim := { program := "ytamkepeamjphkaa", sum := "0ac2cd3e7d67937fd714c9dbdcc7bc944820652a8c29abd8df652ffc06a3a67c", func := "underwood/underwoodlaw08.VmAgain", spec := "vmAgain", unfollowed := true, recurses := true, apart := false }
def VmAgainSaid : Prop := vmAgainRow.holds Try.pinned (OpenSpec.ofChange vmAgainSpec)

/-- ITS FALSE NEIGHBOUR: 'it returns false'. Refute it at one input. -/
def vmAgainWrong : ChangeSpec := { name := "vmAgain", fn := fun _ => fun
  | [d1, d2, d3] => { results := [.lit (.bool false)], args := [d1, d2, d3] }
  | _ => none }
def VmAgainWrongFalsely : Prop := vmAgainRow.holds Try.pinned (OpenSpec.ofChange vmAgainWrong)

/-- 'underwoodlaw08.VmReckons': WHATEVER THE INPUT: true; the input reads as it did. -/
def vmReckonsSpec : ChangeSpec := { name := "vmReckons", fn := fun _ => fun
  | [d1, d2, d3] => { results := [.lit (.bool true)], args := [d1, d2, d3] }
  | _ => none }
def vmReckonsRow : OpenClaim := { program := "ytamkepeamjphkaa", sum := "0ac2cd3e7d67937fd714c9dbdcc7bc944820652a8c29abd8df652ffc06a3a67c", func := "underwood/underwoodlaw08.VmReckons", spec := "vmReckons", unfollowed := true, recurses := true, apart := false }
def VmReckonsSaid : Prop := vmReckonsRow.holds Try.pinned (OpenSpec.ofChange vmReckonsSpec)

/-- ITS FALSE NEIGHBOUR: 'it returns false'. Refute it at one input. -/
def vmReckonsWrong : ChangeSpec := { name := "vmReckons", fn := fun _ => fun
  | [d1, d2, d3] => { results := [.lit (.bool false)], args := [d1, d2, d3] }
  | _ => none }
def VmReckonsWrongFalsely : Prop := vmReckonsRow.holds Try.pinned (OpenSpec.ofChange vmReckonsWrong)

/-- 'underwoodlaw08.VmLoops': WHATEVER THE INPUT: true; the input reads as it did. -/
def vmLoopsSpec : ChangeSpec := { name := "vmLoops", fn := fun _ => fun
  | [d] => { results := [.lit (.bool true)], args := [d] }
  | _ => none }
def vmLoopsRow : OpenClaim := { program := "ytamkepeamjphkaa", sum := "0ac2cd3e7d67937fd714c9dbdcc7bc944820652a8c29abd8df652ffc06a3a67c", func := "underwood/underwoodlaw08.VmLoops", spec := "vmLoops", unfollowed := true, recurses := true, apart := false }
def VmLoopsSaid : Prop := vmLoopsRow.holds Try.pinned (OpenSpec.ofChange vmLoopsSpec)

/-- ITS FALSE NEIGHBOUR: 'it returns false'. Refute it at one input. -/
def vmLoopsWrong : ChangeSpec := { name := "vmLoops", fn := fun _ => fun
  | [d] => { results := [.lit (.bool false)], args := [d] }
  | _ => none }
def VmLoopsWrongFalsely : Prop := vmLoopsRow.holds Try.pinned (OpenSpec.ofChange vmLoopsWrong)

/-- 'underwoodlaw08.VmCalls': WHATEVER THE INPUT: true; the input reads as it did. -/
def vmCallsSpec : ChangeSpec := { name := "vmCalls", fn := fun _ => fun
  | [d] => { results := [.lit (.bool true)], args := [d] }
  | _ => none }
def vmCallsRow : OpenClaim := { program := "ytamkepeamjphkaa", sum := "0ac2cd3e7d67937fd714c9dbdcc7bc944820652a8c29abd8df652ffc06a3a67c", func := "underwood/underwoodlaw08.VmCalls", spec := "vmCalls", unfollowed := true, recurses := true, apart := false }
def VmCallsSaid : Prop := vmCallsRow.holds Try.pinned (OpenSpec.ofChange vmCallsSpec)

/-- ITS FALSE NEIGHBOUR: 'it returns false'. Refute it at one input. -/
def vmCallsWrong : ChangeSpec := { name := "vmCalls", fn := fun _ => fun
  | [d] => { results := [.lit (.bool false)], args := [d] }
  | _ => none }
def VmCallsWrongFalsely : Prop := vmCallsRow.holds Try.pinned (OpenSpec.ofChange vmCallsWrong)

/-- 'underwoodlaw08.VmFails': WHATEVER THE INPUT: true; the input reads as it did. -/
def vmFailsSpec : ChangeSpec := { name := "vmFails", fn := fun _ => fun
  | [d] => { results := [.lit (.bool true)], args := [d] }
  | _ => none }
def vmFailsRow : OpenClaim := { program := "ytamkepeamjphkaa", sum := "0ac2cd3e7d67937fd714c9dbdcc7bc944820652a8c29abd8df652ffc06a3a67c", func := "underwood/underwoodlaw08.VmFails", spec := "vmFails", unfollowed := true, recurses := true, apart := false }
def VmFailsSaid : Prop := vmFailsRow.holds Try.pinned (OpenSpec.ofChange vmFailsSpec)

/-- ITS FALSE NEIGHBOUR: 'it returns false'. Refute it at one input. -/
def vmFailsWrong : ChangeSpec := { name := "vmFails", fn := fun _ => fun
  | [d] => { results := [.lit (.bool false)], args := [d] }
  | _ => none }
def VmFailsWrongFalsely : Prop := vmFailsRow.holds Try.pinned (OpenSpec.ofChange vmFailsWrong)

/- THE SECOND FORM. 'bulk': how many values and letters a reading holds, each counted each time it is reached (what is shared counts as often as it is met; a slice's spare places count too). A statement '..UptoSaid' is the law's where the arguments, and the package variables that the reading takes, are together of bulk at most 1048576: NARROWER than '..Said'. Prove '..Said' where nothing that the law and all that it calls make is longer than what came in: it says more and counts as full. Else prove '..UptoSaid'. A law counts once. -/
mutual
def uptoBulk {H : Type} : DataW H → Nat
  | .lit (.string bytes) => bytes.length + 1
  | .lit _ => 1
  | .nil => 1
  | .ptr d => uptoBulk d + 1
  | .slice elems spare => uptoBulkAll elems + uptoBulkAll spare + 1
  | .agg parts => uptoBulkAll parts + 1
  | .iface _ d => uptoBulk d + 1
  | .map entries => uptoBulkEntries entries + 1
  | .held _ => 1
def uptoBulkAll {H : Type} : List (DataW H) → Nat
  | [] => 0
  | d :: r => uptoBulk d + uptoBulkAll r
def uptoBulkEntries {H : Type} : List (Lit × DataW H) → Nat
  | [] => 0
  | x :: r => uptoBulkEntry x + uptoBulkEntries r
def uptoBulkEntry {H : Type} : Lit × DataW H → Nat
  | (.string bytes, d) => bytes.length + uptoBulk d + 1
  | (_, d) => uptoBulk d + 1
 end
def uptoSmall : (H : Type) → List (DataW H) → Bool := fun _ ds => decide (uptoBulkAll ds ≤ 1048576)
def OpenSpec.upto (s : _root_.Go.ChangeSpec) : _root_.Go.OpenSpec := { _root_.Go.OpenSpec.ofChange s with cond := some uptoSmall }

/-- 'underwoodlaw08.VmStarts', WHERE WHAT IT READS IS OF BULK AT MOST 1048576: true; the input reads as it did. -/
def vmStartsUptoRow : OpenClaim := { program := "ytamkepeamjphkaa", sum := "0ac2cd3e7d67937fd714c9dbdcc7bc944820652a8c29abd8df652ffc06a3a67c", func := "underwood/underwoodlaw08.VmStarts", spec := "vmStarts", unfollowed := true, recurses := true, apart := false, narrowed := true }
def VmStartsUptoSaid : Prop := vmStartsUptoRow.holds Try.pinned (OpenSpec.upto vmStartsSpec)

/-- 'underwoodlaw08.VmStays', WHERE WHAT IT READS IS OF BULK AT MOST 1048576: true; the input reads as it did. -/
def vmStaysUptoRow : OpenClaim := { program := "ytamkepeamjphkaa", sum := "0ac2cd3e7d67937fd714c9dbdcc7bc944820652a8c29abd8df652ffc06a3a67c", func := "underwood/underwoodlaw08.VmStays", spec := "vmStays", unfollowed := true, recurses := true, apart := false, narrowed := true }
def VmStaysUptoSaid : Prop := vmStaysUptoRow.holds Try.pinned (OpenSpec.upto vmStaysSpec)

/-- 'underwoodlaw08.VmAgain', WHERE WHAT IT READS IS OF BULK AT MOST 1048576: true; the input reads as it did. -/
def vmAgainUptoRow : OpenClaim := { program := "ytamkepeamjphkaa", sum := "0ac2cd3e7d67937fd714c9dbdcc7bc944820652a8c29abd8df652ffc06a3a67c", func := "underwood/underwoodlaw08.VmAgain", spec := "vmAgain", unfollowed := true, recurses := true, apart := false, narrowed := true }
def VmAgainUptoSaid : Prop := vmAgainUptoRow.holds Try.pinned (OpenSpec.upto vmAgainSpec)

/-- 'underwoodlaw08.VmReckons', WHERE WHAT IT READS IS OF BULK AT MOST 1048576: true; the input reads as it did. -/
def vmReckonsUptoRow : OpenClaim := { program := "ytamkepeamjphkaa", sum := "0ac2cd3e7d67937fd714c9dbdcc7bc944820652a8c29abd8df652ffc06a3a67c", func := "underwood/underwoodlaw08.VmReckons", spec := "vmReckons", unfollowed := true, recurses := true, apart := false, narrowed := true }
def VmReckonsUptoSaid : Prop := vmReckonsUptoRow.holds Try.pinned (OpenSpec.upto vmReckonsSpec)

/-- 'underwoodlaw08.VmLoops', WHERE WHAT IT READS IS OF BULK AT MOST 1048576: true; the input reads as it did. -/
def vmLoopsUptoRow : OpenClaim := { program := "ytamkepeamjphkaa", sum := "0ac2cd3e7d67937fd714c9dbdcc7bc944820652a8c29abd8df652ffc06a3a67c", func := "underwood/underwoodlaw08.VmLoops", spec := "vmLoops", unfollowed := true, recurses := true, apart := false, narrowed := true }
def VmLoopsUptoSaid : Prop := vmLoopsUptoRow.holds Try.pinned (OpenSpec.upto vmLoopsSpec)

/-- 'underwoodlaw08.VmCalls', WHERE WHAT IT READS IS OF BULK AT MOST 1048576: true; the input reads as it did. -/
def vmCallsUptoRow : OpenClaim := { program := "ytamkepeamjphkaa", sum := "0ac2cd3e7d67937fd714c9dbdcc7bc944820652a8c29abd8df652ffc06a3a67c", func := "underwood/underwoodlaw08.VmCalls", spec := "vmCalls", unfollowed := true, recurses := true, apart := false, narrowed := true }
def VmCallsUptoSaid : Prop := vmCallsUptoRow.holds Try.pinned (OpenSpec.upto vmCallsSpec)

/-- 'underwoodlaw08.VmFails', WHERE WHAT IT READS IS OF BULK AT MOST 1048576: true; the input reads as it did. -/
def vmFailsUptoRow : OpenClaim := { program := "ytamkepeamjphkaa", sum := "0ac2cd3e7d67937fd714c9dbdcc7bc944820652a8c29abd8df652ffc06a3a67c", func := "underwood/underwoodlaw08.VmFails", spec := "vmFails", unfollowed := true, recurses := true, apart := false, narrowed := true }
def VmFailsUptoSaid : Prop := vmFailsUptoRow.holds Try.pinned (OpenSpec.upto vmFailsSpec)

end Rows
end Go.Proofs.Ytamkepeamjphkaa
