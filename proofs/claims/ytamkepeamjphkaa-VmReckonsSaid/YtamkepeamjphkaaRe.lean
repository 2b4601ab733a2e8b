/- Re: Vz (merged by merge.py from the working texts). -/
import Derived.Test.YtamkepeamjphkaaM8
set_option linter.unusedSimpArgs false
set_option linter.unnecessarySimpa false
set_option linter.unusedVariables false

/- RECKONS (printed by printz.py). -/
set_option linter.unusedVariables false
namespace Uw.Try
open Go Uw Go.Proofs

def rIns (a b op : Int) : List Ins := [⟨1, a, 0, 0⟩, ⟨1, b, 0, 0⟩, ⟨op, 0, 0, 0⟩, ⟨5, 1, 0, 0⟩, ⟨17, 0, 0, 0⟩]
def rF (pc sp : Int) (st : List Int) : Frame := ⟨3, [], 0, pc, [], st, [], 0, sp, false⟩
def rOp (op a b : Int) : Int := if op = 6 then wrapS (a + b) else if op = 7 then wrapS (a - b) else if op = 8 then wrapS (a * b) else if op = 9 then truth (decide (a < b)) else if op = 10 then truth (decide (a = b)) else (a + b) / 2

theorem r_next (a b op : Int) (ha : isVal a = true) (hb : isVal b = true) (ho : op = 6 ∨ op = 7 ∨ op = 8 ∨ op = 9 ∨ op = 10 ∨ op = 19) : nextS (plainC (rIns a b op) 0) (rF 0 0 []) = .ok (rF 4 4 []) ⟨2, 1, rOp op a b, (0, 0, 0, 0), []⟩ := by
  rw [next_run (by rfl)]
  have e1 : runF (plainC (rIns a b op) 0) ⟨0, 0, rIns a b op⟩ (rF 0 0 []) = runF (plainC (rIns a b op) 0) ⟨0, 0, rIns a b op⟩ (rF 1 1 [a]) :=
    runF_go _ (by simp [rF, rIns]) (by simp [rF]) (by simp [rF]) (s_push rfl ha (by simp [rF]))
  have e2 : runF (plainC (rIns a b op) 0) ⟨0, 0, rIns a b op⟩ (rF 1 1 [a]) = runF (plainC (rIns a b op) 0) ⟨0, 0, rIns a b op⟩ (rF 2 2 [a, b]) :=
    runF_go _ (by simp [rF, rIns]) (by simp [rF]) (by simp [rF]) (s_push rfl hb (by simp [rF]))
  have e3 : runF (plainC (rIns a b op) 0) ⟨0, 0, rIns a b op⟩ (rF 2 2 [a, b]) = runF (plainC (rIns a b op) 0) ⟨0, 0, rIns a b op⟩ (rF 3 3 [rOp op a b]) := by
    refine runF_go _ (by simp [rF, rIns]) (by simp [rF]) (by simp [rF]) ?_
    rcases ho with rfl | rfl | rfl | rfl | rfl | rfl <;> rfl
  have e4 : runF (plainC (rIns a b op) 0) ⟨0, 0, rIns a b op⟩ (rF 3 3 [rOp op a b]) = .ok (rF 4 4 []) ⟨2, 1, rOp op a b, (0, 0, 0, 0), []⟩ :=
    runF_ask _ _ (by simp [rF, rIns]) (by simp [rF]) rfl (by simp)
  exact e1.trans (e2.trans (e3.trans e4))

theorem u32_wrap (n : Int) : IntKind.u32.wrap n = n % 4294967296 := by simp [IntKind.wrap, IntKind.bits, IntKind.signed]

end Uw.Try
