/-
  PROVED HERE: 'Rows.ScriptStallsCardSaid': the law underwoodlaw29.ScriptStalls returns true for every input, and turns no argument. Its conditions: the listed variables of the library hold their tables, which is tied to the program's text.
-/
import Derived.Test.YtkfgbbkcjaalkaaDoorRows
import Derived.Test.YtkfgbbkcjaalkaaDoorTie
import Derived.Test.YtkfgbbkcjaalkaaDoorCards
import Derived.WalkKit
import Derived.ProofKit
import Derived.OpenShut
import Derived.LaidMore
import Derived.Stop.Joined
import Derived.SevenTiedAt
import Derived.Test.YtkfgbbkcjaalkaaDoorNy
namespace Go.Proofs.YtkfgbbkcjaalkaaDoor.scriptStalls
open Go.ChangeShapes Go.WideShapes Go.ChangeAt Go.WideMaps Go.WideElems Go.RowKit
set_option linter.unusedVariables false

theorem own : ownKnob Tryd.prog.godebug = none := by kernel_rfl

theorem laidOut : laidOutB Tryd.prog = true := by kernel_rfl

theorem door_met (os : Os) (args : Array Value) : laidMetH Tryd.prog Rows.scriptStallsRow.laid ((World.doorLaid Tryd.prog 24 os).forCall (fun _ _ => 0) ⟨#[], args, []⟩).memory :=
  laidMetH_of_parts3 (fuel := 8) (laidMet_of_run' 8 (by kernel_rfl) (by kernel_rfl)) (by kernel_rfl) (by kernel_rfl)

set_option maxRecDepth 100000 in
theorem lifted (os : Os) (started : os.Started) (H : Type) (enc : TypeId × Value → H) :
    ReturnsInHanded {} Tryd.checked os 10 .any (fun w args => (Rows.scriptStallsSpec.pre enc Tryd.prog Tryd.f10 [] false w args ∧ laidMetH Tryd.prog Rows.scriptStallsRow.laid w) ∧ sizedMet enc Tryd.prog Tryd.f10 (OpenSpec.ofChange Rows.scriptStallsSpec) false w args)
      (Rows.scriptStallsSpec.post enc Tryd.prog Tryd.f10 false true false false) := by
  refine returnsInHanded_of_change_and (C := Tryd.checked) (X := fun w _ => laidMetH Tryd.prog Rows.scriptStallsRow.laid w) (fun _ _ _ hh h => h.of_heap hh) own started (by kernel_rfl) Tryd.func10
    (ChangeSpec.witness_shaped (enc := enc) (C := Tryd.checked) (os := os) (X := fun w _ => laidMetH Tryd.prog Rows.scriptStallsRow.laid w) false (World.doorLaid Tryd.prog 24 os) #[.int .i64 0, .slice none 0 0, .slice none 0 0, .int .i64 0, .int .u8 0] 8 rfl (World.shaped_of_RefB (by kernel_rfl) (by kernel_rfl)) (by kernel_rfl) (by kernel_rfl) (by kernel_rfl) (door_met os _)) ?_
  intro W base args ds gs before hval0 hW _ hsz0 hL _
  have hval : ∀ (j : Nat) t v, Tryd.f10.params[j]? = some t → args[j]? = some v → Value.okWide Tryd.prog W .any base t v := hval0
  have hW' := hW
  obtain ⟨p, q, hA0, hV, rfl, hfz, hnd⟩ := hW
  have hA : DataW.TrodAll enc Tryd.prog W 0 (fun _ => true) true Tryd.f10.params.toList args.toList ds p := hA0
  have hsz : (DataW.weightsEach Tryd.prog (Tryd.f10.params.toList ++ Rows.scriptStallsSpec.plain.varTypes Tryd.prog) (ds ++ gs)).all (· ≤ reachBytes) = true := hsz0
  rw [Tryd.params10] at hA hval hsz
  obtain ⟨v0, vs0, d0, ds0, p0, q0, hargs, rfl, rfl, h0, r0⟩ := trodAll_cons hA
  obtain ⟨v1, vs1, d1, ds1, p1, q1, rfl, rfl, rfl, h1, r1⟩ := trodAll_cons r0
  obtain ⟨v2, vs2, d2, ds2, p2, q2, rfl, rfl, rfl, h2, r2⟩ := trodAll_cons r1
  obtain ⟨v3, vs3, d3, ds3, p3, q3, rfl, rfl, rfl, h3, r3⟩ := trodAll_cons r2
  obtain ⟨v4, vs4, d4, ds4, p4, q4, rfl, rfl, rfl, h4, r4⟩ := trodAll_cons r3
  obtain ⟨rfl, rfl, rfl⟩ := trodAll_nil r4
  obtain rfl : args = #[v0, v1, v2, v3, v4] := by cases args; simp_all
  obtain ⟨rfl, rfl⟩ := trodVars_none hV
  have hG := Uw.Tryd.gok (t := 87) (e := 77) hL rfl (by kernel_rfl) (by kernel_rfl) (by kernel_rfl) (by kernel_rfl) (by kernel_rfl)
  obtain ⟨a0, rfl, rfl, rfl, w0⟩ := open_int Tryd.underlying3 (hval 0 3 v0 rfl rfl) h0
  obtain ⟨x1, t1, e1⟩ := Uw.args_dat (n := 9) (s := .slice 3 (.struct [.int .i64, .int .i64, .int .i64])) (by kernel_rfl) h1 (Uw.sized_arg hsz 1 rfl rfl)
  obtain ⟨l1, rfl, b1⟩ := Uw.Tryd.picks_of t1
  obtain ⟨_, _, f1, e1, _⟩ := Uw.arg_slice (t := 22) (e := 26) (by kernel_rfl) (hval 1 22 v1 rfl rfl) e1
  injection f1 with f1 _
  subst f1
  obtain ⟨x2, t2, e2⟩ := Uw.args_dat (n := 9) (s := .slice 3 (.struct [.int .i64, .int .i64, .int .i64])) (by kernel_rfl) h2 (Uw.sized_arg hsz 2 rfl rfl)
  obtain ⟨l2, rfl, b2⟩ := Uw.Tryd.picks_of t2
  obtain ⟨_, _, f2, e2, _⟩ := Uw.arg_slice (t := 22) (e := 26) (by kernel_rfl) (hval 2 22 v2 rfl rfl) e2
  injection f2 with f2 _
  subst f2
  obtain ⟨a3, rfl, rfl, rfl, w3⟩ := open_int Tryd.underlying3 (hval 3 3 v3 rfl rfl) h3
  obtain ⟨a4, rfl, rfl, rfl, w4⟩ := open_int Tryd.underlying5 (hval 4 5 v4 rfl rfl) h4
  refine (Uw.Tryd.l_ScriptStalls a0 (Uw.wf_i64 w0) l1 (Nat.lt_of_le_of_lt b1 (by decide)) l2 (Nat.lt_of_le_of_lt b2 (by decide)) a3 (Uw.wf_i64 w3) a4 (Uw.wf_u8 w4) W Uw.allJ [.int .i64 a0, v1, v2, .int .i64 a3, .int .u8 a4] hG ⟨_, _, rfl, rfl, ⟨_, _, rfl, e1, ⟨_, _, rfl, e2, ⟨_, _, rfl, rfl, ⟨_, _, rfl, rfl, rfl⟩⟩⟩⟩⟩).mono ?_
  rintro e W' ⟨v, rfl, hv, hb⟩
  exact ⟨_, rfl, Uw.post_below laidOut (by kernel_rfl) (by kernel_rfl) Tryd.underlying4 rfl hW' rfl hb hv⟩

theorem over : Rows.ScriptStallsSaid :=
  OpenClaim.holds_of_wide 10 Tryd.f10 rfl rfl rfl rfl rfl rfl rfl ⟨rfl, rfl, rfl, rfl, rfl⟩ rfl rfl rfl rfl rfl (by kernel_rfl) Tryd.func10 (by kernel_rfl)
    (of_decide_eq_true (by kernel_rfl)) (by unfold Func.isWrapper; first | (rw [if_pos (by decide +kernel)]; kernel_rfl) | (rw [if_neg (by decide +kernel)]; exact ⟨rfl, rfl⟩))
    (fun os started H enc _ => lifted os started H enc)

/-- THE STATEMENT. -/
theorem proved : Rows.ScriptStallsCardSaid :=
  Claim7.holds_tied_plain_at .later [] [.data, .data, .data] true (true, "62f0b19c5ae9400985ab9057525002dded9b2443e272f5b106ca6d4113378c64") false
    over (fun _ h => by cases h) (by kernel_rfl) (fun _ h => by cases h) scriptStalls_row_tie rfl ⟨rfl, rfl⟩ (by kernel_rfl) rfl
    (fun f fn hf hfn => by
      obtain rfl : f = 10 := Option.some.inj ((show Tryd.prog.funcNamed "underwood/underwoodlaw29.ScriptStalls" = some 10 by kernel_rfl).symm.trans hf) |>.symm
      obtain rfl : fn = Tryd.f10 := (Option.some.inj (Tryd.func10.symm.trans hfn)).symm
      exact ⟨by kernel_rfl, fun j t ht => by
        rw [Tryd.params10] at ht
        rcases j with _ | _ | _ | _ | _ | j
        · obtain rfl : t = 3 := by simpa using ht.symm
          exact (show Tryd.prog.wantsStandIn 3 = false by kernel_rfl)
        · obtain rfl : t = 22 := by simpa using ht.symm
          exact (show Tryd.prog.wantsStandIn 22 = false by kernel_rfl)
        · obtain rfl : t = 22 := by simpa using ht.symm
          exact (show Tryd.prog.wantsStandIn 22 = false by kernel_rfl)
        · obtain rfl : t = 3 := by simpa using ht.symm
          exact (show Tryd.prog.wantsStandIn 3 = false by kernel_rfl)
        · obtain rfl : t = 5 := by simpa using ht.symm
          exact (show Tryd.prog.wantsStandIn 5 = false by kernel_rfl)
        · simp at ht⟩)
    (by kernel_rfl)
#print axioms proved
end Go.Proofs.YtkfgbbkcjaalkaaDoor.scriptStalls
