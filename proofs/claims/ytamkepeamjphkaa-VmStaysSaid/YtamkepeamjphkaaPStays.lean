/-
  PROVED HERE: 'Rows.VmStaysSaid': the law underwoodlaw08.VmStays returns true for every input, and turns no argument. No condition.
-/
import Derived.Test.YtamkepeamjphkaaRows
import Derived.WalkKit
import Derived.ProofKit
import Derived.OpenShut
import Derived.Test.YtamkepeamjphkaaSt
import Derived.Test.YtamkepeamjphkaaSy
namespace Go.Proofs.Ytamkepeamjphkaa.vmStays
open Go.ChangeShapes Go.WideShapes Go.ChangeAt Go.RowKit
set_option linter.unusedVariables false

theorem own : ownKnob Try.prog.godebug = none := by kernel_rfl

theorem laidOut : laidOutB Try.prog = true := by kernel_rfl

set_option maxRecDepth 100000 in
theorem lifted (os : Os) (started : os.Started) (H : Type) (enc : TypeId × Value → H) :
    ReturnsInHanded {} Try.checked os 4 .any (Rows.vmStaysSpec.pre6 enc Try.prog Try.f4 Rows.vmStaysRow.domain false) (Rows.vmStaysSpec.post enc Try.prog Try.f4 false true false false) := by
  refine returnsInHanded_of_change (C := Try.checked) own started (by kernel_rfl) Try.func4
    (ChangeSpec.witness6 (enc := enc) (C := Try.checked) false ⟨#[], #[.agg #[.slice none 0 0, .slice none 0 0, .int .i64 0, .int .i64 0, .int .i64 0, .int .i64 0], .agg #[.int .i64 0, .slice none 0 0, .int .i64 0, .int .i64 0, .slice none 0 0, .slice none 0 0, .slice none 0 0, .int .i64 0, .int .i64 0, .bool false], .int .u32 0], []⟩ 8 (by kernel_rfl) (by kernel_rfl) (by kernel_rfl) (by kernel_rfl)) ?_
  intro W base args ds gs before hval0 hW hcnd _
  have hval : ∀ (j : Nat) t v, Try.f4.params[j]? = some t → args[j]? = some v → Value.okWide Try.prog W .any base t v := hval0
  have hW' := hW
  obtain ⟨p, q, hA0, hV, rfl, hfz, hnd⟩ := hW
  have hA : DataW.TrodAll enc Try.prog W 0 (fun _ => true) true Try.f4.params.toList args.toList ds p := hA0
  rw [Try.params4] at hA hval
  obtain ⟨v0, vs0, d0, ds0, p0, q0, hargs, rfl, rfl, h0, r0⟩ := trodAll_cons hA
  obtain ⟨v1, vs1, d1, ds1, p1, q1, rfl, rfl, rfl, h1, r1⟩ := trodAll_cons r0
  obtain ⟨v2, vs2, d2, ds2, p2, q2, rfl, rfl, rfl, h2, r2⟩ := trodAll_cons r1
  obtain ⟨rfl, rfl, rfl⟩ := trodAll_nil r2
  obtain rfl : args = #[v0, v1, v2] := by cases args; simp_all
  obtain ⟨rfl, rfl⟩ := trodVars_none hV
  obtain ⟨x0, t0, e0⟩ := Uw.args_dat (n := 9) (s := Uw.Try.tCode) (by kernel_rfl) h0
  have e0 := Uw.arg_struct1 (t := 25) (by kernel_rfl) (hval 0 25 v0 rfl rfl) e0
  obtain ⟨c, rfl⟩ := Uw.Try.code_of t0
  obtain ⟨x1, t1, e1⟩ := Uw.args_dat (n := 9) (s := Uw.Try.tFrame) (by kernel_rfl) h1
  have e1 := Uw.arg_struct1 (t := 33) (by kernel_rfl) (hval 1 33 v1 rfl rfl) e1
  obtain ⟨f, rfl, _⟩ := Uw.Try.frame_of t1
  obtain ⟨a2, rfl, rfl, rfl, w2⟩ := open_int Try.underlying44 (hval 2 44 v2 rfl rfl) h2
  refine (Uw.Try.l4 c f a2 (Uw.wf_u32 w2) W Uw.allJ [v0, v1, .int .u32 a2] ⟨_, _, rfl, e0, _, _, rfl, e1, _, [], rfl, rfl, rfl⟩).mono ?_
  rintro e W' ⟨v, rfl, hv, hb⟩
  exact ⟨_, rfl, Uw.post_below laidOut (by kernel_rfl) (by kernel_rfl) Try.underlying4 rfl hW' rfl hb hv⟩

theorem over : Rows.vmStaysRow.holds Try.pinned (OpenSpec.ofChange Rows.vmStaysSpec) :=
  OpenClaim.holds_of_wide 4 Try.f4 rfl rfl rfl rfl rfl rfl rfl ⟨rfl, rfl, rfl, rfl, rfl⟩ rfl rfl rfl rfl rfl (by kernel_rfl) Try.func4 (by kernel_rfl)
    (of_decide_eq_true (by kernel_rfl)) (by unfold Func.isWrapper; first | (rw [if_pos (by decide +kernel)]; kernel_rfl) | (rw [if_neg (by decide +kernel)]; exact ⟨rfl, rfl⟩))
    (fun os started H enc _ => lifted os started H enc)

/-- THE STATEMENT. -/
theorem proved : Rows.VmStaysSaid :=
  over
#print axioms proved
end Go.Proofs.Ytamkepeamjphkaa.vmStays
