/-
  PROVED HERE: 'Rows.VmStartsSaid': the law underwoodlaw08.VmStarts returns true for every input, and turns no argument. No condition.
-/
import Derived.Test.YtamkepeamjphkaaRows
import Derived.WalkKit
import Derived.ProofKit
import Derived.OpenShut
import Derived.Test.YtamkepeamjphkaaSt
namespace Go.Proofs.Ytamkepeamjphkaa.vmStarts
open Go.ChangeShapes Go.WideShapes Go.ChangeAt Go.RowKit
set_option linter.unusedVariables false

theorem own : ownKnob Try.prog.godebug = none := by kernel_rfl

theorem laidOut : laidOutB Try.prog = true := by kernel_rfl

set_option maxRecDepth 100000 in
theorem lifted (os : Os) (started : os.Started) (H : Type) (enc : TypeId × Value → H) :
    ReturnsInHanded {} Try.checked os 3 .any (Rows.vmStartsSpec.pre6 enc Try.prog Try.f3 Rows.vmStartsRow.domain false) (Rows.vmStartsSpec.post enc Try.prog Try.f3 false true false false) := by
  refine returnsInHanded_of_change (C := Try.checked) own started (by kernel_rfl) Try.func3
    (ChangeSpec.witness6 (enc := enc) (C := Try.checked) false ⟨#[], #[.agg #[.slice none 0 0, .slice none 0 0, .int .i64 0, .int .i64 0, .int .i64 0, .int .i64 0, .int .i64 0, .slice none 0 0, .int .i64 0, .int .i64 0, .slice none 0 0]], []⟩ 8 (by kernel_rfl) (by kernel_rfl) (by kernel_rfl) (by kernel_rfl)) ?_
  intro W base args ds gs before hval0 hW hcnd _
  have hval : ∀ (j : Nat) t v, Try.f3.params[j]? = some t → args[j]? = some v → Value.okWide Try.prog W .any base t v := hval0
  have hW' := hW
  obtain ⟨p, q, hA0, hV, rfl, hfz, hnd⟩ := hW
  have hA : DataW.TrodAll enc Try.prog W 0 (fun _ => true) true Try.f3.params.toList args.toList ds p := hA0
  rw [Try.params3] at hA hval
  obtain ⟨v0, vs0, d0, ds0, p0, q0, hargs, rfl, rfl, h0, r0⟩ := trodAll_cons hA
  obtain ⟨rfl, rfl, rfl⟩ := trodAll_nil r0
  obtain rfl : args = #[v0] := by cases args; simp_all
  obtain ⟨rfl, rfl⟩ := trodVars_none hV
  obtain ⟨x0, t0, e0⟩ := Uw.args_dat (n := 9) (s := .struct [Uw.Try.tCode, Uw.Try.tI, Uw.Try.tIs, .struct [Uw.Try.tI, Uw.Try.tI], Uw.Try.tIs]) (by kernel_rfl) h0
  have e0 := Uw.arg_struct1 (t := 28) (by kernel_rfl) (hval 0 28 v0 rfl rfl) e0
  obtain ⟨c, fn, ar, z0, z1, path, hd⟩ := Uw.Try.starts_of t0
  rw [hd] at e0
  refine (Uw.Try.l3 c fn ar z0 z1 path W Uw.allJ [v0] ⟨_, [], rfl, e0, rfl⟩).mono ?_
  rintro e W' ⟨v, rfl, hv, hb⟩
  exact ⟨_, rfl, Uw.post_below laidOut (by kernel_rfl) (by kernel_rfl) Try.underlying4 rfl hW' rfl hb hv⟩

theorem over : Rows.vmStartsRow.holds Try.pinned (OpenSpec.ofChange Rows.vmStartsSpec) :=
  OpenClaim.holds_of_wide 3 Try.f3 rfl rfl rfl rfl rfl rfl rfl ⟨rfl, rfl, rfl, rfl, rfl⟩ rfl rfl rfl rfl rfl (by kernel_rfl) Try.func3 (by kernel_rfl)
    (of_decide_eq_true (by kernel_rfl)) (by unfold Func.isWrapper; first | (rw [if_pos (by decide +kernel)]; kernel_rfl) | (rw [if_neg (by decide +kernel)]; exact ⟨rfl, rfl⟩))
    (fun os started H enc _ => lifted os started H enc)

/-- THE STATEMENT. -/
theorem proved : Rows.VmStartsSaid :=
  over
#print axioms proved
end Go.Proofs.Ytamkepeamjphkaa.vmStarts
