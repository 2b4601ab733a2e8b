/-
  PROVED HERE: 'Rows.VmFailsSaid': the law underwoodlaw08.VmFails returns true for every input, and turns no argument. No condition.
-/
import Derived.Test.YtamkepeamjphkaaRows
import Derived.WalkKit
import Derived.ProofKit
import Derived.OpenShut
import Derived.Test.YtamkepeamjphkaaFa
namespace Go.Proofs.Ytamkepeamjphkaa.vmFails
open Go.ChangeShapes Go.WideShapes Go.ChangeAt Go.RowKit
set_option linter.unusedVariables false

theorem own : ownKnob Try.prog.godebug = none := by kernel_rfl

theorem laidOut : laidOutB Try.prog = true := by kernel_rfl

set_option maxRecDepth 100000 in
theorem lifted (os : Os) (started : os.Started) (H : Type) (enc : TypeId × Value → H) :
    ReturnsInHanded {} Try.checked os 9 .any (Rows.vmFailsSpec.pre6 enc Try.prog Try.f9 Rows.vmFailsRow.domain false) (Rows.vmFailsSpec.post enc Try.prog Try.f9 false true false false) := by
  refine returnsInHanded_of_change (C := Try.checked) own started (by kernel_rfl) Try.func9
    (ChangeSpec.witness6 (enc := enc) (C := Try.checked) false ⟨#[], #[.slice none 0 0], []⟩ 8 (by kernel_rfl) (by kernel_rfl) (by kernel_rfl) (by kernel_rfl)) ?_
  intro W base args ds gs before hval0 hW hcnd _
  have hval : ∀ (j : Nat) t v, Try.f9.params[j]? = some t → args[j]? = some v → Value.okWide Try.prog W .any base t v := hval0
  have hW' := hW
  obtain ⟨p, q, hA0, hV, rfl, hfz, hnd⟩ := hW
  have hA : DataW.TrodAll enc Try.prog W 0 (fun _ => true) true Try.f9.params.toList args.toList ds p := hA0
  rw [Try.params9] at hA hval
  obtain ⟨v0, vs0, d0, ds0, p0, q0, hargs, rfl, rfl, h0, r0⟩ := trodAll_cons hA
  obtain ⟨rfl, rfl, rfl⟩ := trodAll_nil r0
  obtain rfl : args = #[v0] := by cases args; simp_all
  obtain ⟨rfl, rfl⟩ := trodVars_none hV
  obtain ⟨x0, t0, e0⟩ := Uw.args_dat (n := 9) (s := .slice 1 (.int .u32)) (by kernel_rfl) h0
  have e0 := Uw.arg_slice (t := 62) (e := 44) (by kernel_rfl) (hval 0 62 v0 rfl rfl) e0
  obtain ⟨xs, rfl, _, hx⟩ := t0
  obtain ⟨l, rfl, hl⟩ := Uw.list_of (f := fun n : Int => [Uw.Dat.int .u32 n]) (Q := fun n => 0 ≤ n ∧ n < 4294967296) (fun x hx' => by
    obtain ⟨n, rfl, hn⟩ := hx x hx'
    exact ⟨n, rfl, Uw.wf_u32 hn⟩)
  refine (Uw.Try.l9 l hl W Uw.allJ [v0] e0).mono ?_
  rintro e W' ⟨v, rfl, hv, hb⟩
  exact ⟨_, rfl, Uw.post_below laidOut (by kernel_rfl) (by kernel_rfl) Try.underlying4 rfl hW' rfl hb hv⟩

theorem over : Rows.vmFailsRow.holds Try.pinned (OpenSpec.ofChange Rows.vmFailsSpec) :=
  OpenClaim.holds_of_wide 9 Try.f9 rfl rfl rfl rfl rfl rfl rfl ⟨rfl, rfl, rfl, rfl, rfl⟩ rfl rfl rfl rfl rfl (by kernel_rfl) Try.func9 (by kernel_rfl)
    (of_decide_eq_true (by kernel_rfl)) (by unfold Func.isWrapper; first | (rw [if_pos (by decide +kernel)]; kernel_rfl) | (rw [if_neg (by decide +kernel)]; exact ⟨rfl, rfl⟩))
    (fun os started H enc _ => lifted os started H enc)

/-- THE STATEMENT. -/
theorem proved : Rows.VmFailsSaid :=
  over
#print axioms proved
end Go.Proofs.Ytamkepeamjphkaa.vmFails
