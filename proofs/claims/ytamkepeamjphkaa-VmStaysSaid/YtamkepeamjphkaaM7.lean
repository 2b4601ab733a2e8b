/- M7: Vq Vq2 Vq3 Vr Vs Vt (merged by merge.py from the working texts). -/
import Derived.Test.YtamkepeamjphkaaM6
set_option linter.unusedSimpArgs false
set_option linter.unnecessarySimpa false
set_option linter.unusedVariables false

/- One step, whatever the instruction; values stay values. -/
set_option linter.unusedVariables false
namespace Uw.Try
open Go Uw Go.Proofs

/-- One instruction. -/
def stepS (c : Code) (b : Body) (f : Frame) (i : Ins) : Option (Frame × Ask) :=
  if i.op = 1 then sPush f i
  else if i.op = 2 then sLocal f i
  else if i.op = 3 then sSet f i
  else if i.op = 4 then sLoad c f i
  else if i.op = 5 then sStore c f i
  else if i.op = 6 then sReckon (fun x y => wrapS (x + y)) f
  else if i.op = 7 then sReckon (fun x y => wrapS (x - y)) f
  else if i.op = 8 then sReckon (fun x y => wrapS (x * y)) f
  else if i.op = 9 then sReckon (fun x y => truth (decide (x < y))) f
  else if i.op = 10 then sReckon (fun x y => truth (decide (x = y))) f
  else if i.op = 11 then sCall c f i
  else if i.op = 12 then sDrop f
  else if i.op = 13 then sSpawn c f i
  else if i.op = 14 then sSync f
  else if i.op = 15 then sJump b f i
  else if i.op = 16 then sZero b f i
  else if i.op = 17 then sEnd f
  else if i.op = 18 then sAssert f
  else if i.op = 19 then sReckon (fun x y => (x + y) / 2) f
  else none

/-- The parts of a frame that stay, or stay within bounds. -/
structure Vals (f : Frame) : Prop where
  loc : f.loc.all isVal = true
  stack : f.stack.all isVal = true

theorem isVal_wrap (n : Int) : isVal (wrapS n) = true := by
  have h : 0 ≤ wrapS n ∧ wrapS n < 4294967296 := by unfold wrapS; omega
  simp [isVal, h]
theorem isVal_truth (b : Bool) : isVal (truth b) = true := by cases b <;> rfl
theorem isVal_half {x y : Int} (hx : isVal x = true) (hy : isVal y = true) : isVal ((x + y) / 2) = true := by simp only [isVal, Bool.and_eq_true, decide_eq_true_eq] at *; omega

theorem all_dropLast {p : Int → Bool} {l : List Int} (h : l.all p = true) : l.dropLast.all p = true := by
  rw [List.all_eq_true] at *; exact fun x hx => h x (List.dropLast_subset _ hx)
theorem all_last {l : List Int} (h : l.all isVal = true) : isVal (l.getLastD 0) = true := by
  rw [List.all_eq_true] at h
  cases l with
  | nil => rfl
  | cons a r => rw [List.getLastD_cons]; exact h _ (by rw [← List.getLast_eq_getLastD (h := by simp)]; exact List.getLast_mem _)
theorem all_take' {p : Int → Bool} {l : List Int} (k : Nat) (h : l.all p = true) : (l.take k).all p = true := by
  rw [List.all_eq_true] at *; exact fun x hx => h x (List.take_subset _ _ hx)
theorem all_getD {l : List Int} (k : Nat) (h : l.all isVal = true) : isVal (l.getD k 0) = true := by
  rw [List.all_eq_true] at h
  rw [List.getD_eq_getElem?_getD]
  cases hk : l[k]? with
  | none => rfl
  | some x => exact h x (List.mem_of_getElem? hk)
theorem all_set {l : List Int} (k : Nat) {v : Int} (hv : isVal v = true) (h : l.all isVal = true) : (l.set k v).all isVal = true := by
  rw [List.all_eq_true] at *
  intro x hx
  rcases List.mem_or_eq_of_mem_set hx with h1 | h1
  · exact h x h1
  · rw [h1]; exact hv

theorem Vals.pop {f : Frame} (h : Vals f) : Vals (popF f) := ⟨h.loc, all_dropLast h.stack⟩
theorem Vals.drop {f : Frame} (h : Vals f) (k : Nat) : Vals (dropF f k) := ⟨h.loc, all_take' _ h.stack⟩
theorem Vals.put {f : Frame} (h : Vals f) {v : Int} (hv : isVal v = true) : Vals (putF f v) := ⟨h.loc, by simp only [putF, List.all_append, h.stack]; simp [hv]⟩
theorem Vals.pass {f : Frame} (h : Vals f) (to : Int) : Vals (pass f to) := ⟨h.loc, h.stack⟩
theorem Vals.next {f : Frame} (h : Vals f) : Vals (next f) := ⟨h.loc, h.stack⟩
theorem Vals.top {f : Frame} (h : Vals f) : isVal (topF f) = true := all_last h.stack

theorem Vals.reckon {f : Frame} (h : Vals f) {op : Int → Int → Int} (ho : ∀ x y, isVal x = true → isVal y = true → isVal (op x y) = true) {g : Frame} {a : Ask} (hs : sReckon op f = some (g, a)) : Vals g := by
  simp only [sReckon] at hs
  split at hs
  · simp at hs; obtain ⟨rfl, rfl⟩ := hs
    exact (h.pop.pop.put (ho _ _ h.pop.top h.top)).next
  · simp at hs

theorem step_vals {c : Code} {b : Body} {f g : Frame} {i : Ins} {a : Ask} (h : Vals f) (hs : stepS c b f i = some (g, a)) : Vals g := by
  unfold stepS at hs
  by_cases h1 : i.op = 1
  · rw [if_pos h1] at hs; simp only [sPush] at hs; split at hs
    · rename_i hh; simp at hs; obtain ⟨rfl, rfl⟩ := hs; exact (h.put hh.1).next
    · simp at hs
  rw [if_neg h1] at hs
  by_cases h1 : i.op = 2
  · rw [if_pos h1] at hs; simp only [sLocal] at hs; repeat' split at hs
    · simp at hs; obtain ⟨rfl, rfl⟩ := hs; exact h
    · simp at hs; obtain ⟨rfl, rfl⟩ := hs; exact (h.put (all_getD _ h.loc)).next
    · simp at hs
    · simp at hs
  rw [if_neg h1] at hs
  by_cases h1 : i.op = 3
  · rw [if_pos h1] at hs; simp only [sSet] at hs; repeat' split at hs
    · simp at hs; obtain ⟨rfl, rfl⟩ := hs; exact h
    · simp at hs
    · simp at hs; obtain ⟨rfl, rfl⟩ := hs; exact ⟨all_set _ h.top h.loc, h.pop.stack⟩
    · simp at hs
  rw [if_neg h1] at hs
  by_cases h1 : i.op = 4
  · rw [if_pos h1] at hs; simp only [sLoad] at hs; split at hs
    · simp at hs; obtain ⟨rfl, rfl⟩ := hs; exact h.next
    · simp at hs
  rw [if_neg h1] at hs
  by_cases h1 : i.op = 5
  · rw [if_pos h1] at hs; simp only [sStore] at hs; split at hs
    · simp at hs; obtain ⟨rfl, rfl⟩ := hs; exact h.pop.next
    · simp at hs
  rw [if_neg h1] at hs
  by_cases h1 : i.op = 6
  · rw [if_pos h1] at hs; exact h.reckon (fun _ _ _ _ => isVal_wrap _) hs
  rw [if_neg h1] at hs
  by_cases h1 : i.op = 7
  · rw [if_pos h1] at hs; exact h.reckon (fun _ _ _ _ => isVal_wrap _) hs
  rw [if_neg h1] at hs
  by_cases h1 : i.op = 8
  · rw [if_pos h1] at hs; exact h.reckon (fun _ _ _ _ => isVal_wrap _) hs
  rw [if_neg h1] at hs
  by_cases h1 : i.op = 9
  · rw [if_pos h1] at hs; exact h.reckon (fun _ _ _ _ => isVal_truth _) hs
  rw [if_neg h1] at hs
  by_cases h1 : i.op = 10
  · rw [if_pos h1] at hs; exact h.reckon (fun _ _ _ _ => isVal_truth _) hs
  rw [if_neg h1] at hs
  by_cases h1 : i.op = 11
  · rw [if_pos h1] at hs; simp only [sCall] at hs; split at hs
    · simp at hs; obtain ⟨rfl, rfl⟩ := hs; exact (h.drop _).next
    · simp at hs
  rw [if_neg h1] at hs
  by_cases h1 : i.op = 12
  · rw [if_pos h1] at hs; simp only [sDrop] at hs; split at hs
    · simp at hs; obtain ⟨rfl, rfl⟩ := hs; exact h.pop.next
    · simp at hs
  rw [if_neg h1] at hs
  by_cases h1 : i.op = 13
  · rw [if_pos h1] at hs; simp only [sSpawn] at hs; split at hs
    · simp at hs; obtain ⟨rfl, rfl⟩ := hs; exact (h.drop _).next
    · simp at hs
  rw [if_neg h1] at hs
  by_cases h1 : i.op = 14
  · rw [if_pos h1] at hs; simp only [sSync] at hs; split at hs
    · simp at hs; obtain ⟨rfl, rfl⟩ := hs; exact h.next
    · simp at hs; obtain ⟨rfl, rfl⟩ := hs; exact h
  rw [if_neg h1] at hs
  by_cases h1 : i.op = 15
  · rw [if_pos h1] at hs; simp only [sJump] at hs; split at hs
    · simp at hs; obtain ⟨rfl, rfl⟩ := hs; exact h.pass _
    · simp at hs
  rw [if_neg h1] at hs
  by_cases h1 : i.op = 16
  · rw [if_pos h1] at hs; simp only [sZero] at hs; repeat' split at hs
    · simp at hs; obtain ⟨rfl, rfl⟩ := hs; exact h.pop.pass _
    · simp at hs; obtain ⟨rfl, rfl⟩ := hs; exact h.pop.next
    · simp at hs
  rw [if_neg h1] at hs
  by_cases h1 : i.op = 17
  · rw [if_pos h1] at hs; simp only [sEnd] at hs; repeat' split at hs
    · simp at hs
    · simp at hs; obtain ⟨rfl, rfl⟩ := hs; exact h.pop.next
    · simp at hs; obtain ⟨rfl, rfl⟩ := hs; exact h
  rw [if_neg h1] at hs
  by_cases h1 : i.op = 18
  · rw [if_pos h1] at hs; simp only [sAssert] at hs; split at hs
    · simp at hs; obtain ⟨rfl, rfl⟩ := hs; exact ⟨h.pop.loc, h.pop.stack⟩
    · simp at hs
  rw [if_neg h1] at hs
  by_cases h1 : i.op = 19
  · rw [if_pos h1] at hs; exact h.reckon (fun _ _ hx hy => isVal_half hx hy) hs
  rw [if_neg h1] at hs
  simp at hs

end Uw.Try

/- What a step keeps. -/
set_option linter.unusedVariables false
namespace Uw.Try
open Go Uw Go.Proofs

theorem step_cases {c : Code} {b : Body} {f : Frame} {i : Ins} (P : Option (Frame × Ask) → Prop) (h1 : i.op = 1 → P (sPush f i)) (h2 : i.op = 2 → P (sLocal f i)) (h3 : i.op = 3 → P (sSet f i)) (h4 : i.op = 4 → P (sLoad c f i)) (h5 : i.op = 5 → P (sStore c f i))
    (h6 : i.op = 6 → P (sReckon (fun x y => wrapS (x + y)) f)) (h7 : i.op = 7 → P (sReckon (fun x y => wrapS (x - y)) f)) (h8 : i.op = 8 → P (sReckon (fun x y => wrapS (x * y)) f)) (h9 : i.op = 9 → P (sReckon (fun x y => truth (decide (x < y))) f)) (h10 : i.op = 10 → P (sReckon (fun x y => truth (decide (x = y))) f))
    (h11 : i.op = 11 → P (sCall c f i)) (h12 : i.op = 12 → P (sDrop f)) (h13 : i.op = 13 → P (sSpawn c f i)) (h14 : i.op = 14 → P (sSync f)) (h15 : i.op = 15 → P (sJump b f i)) (h16 : i.op = 16 → P (sZero b f i)) (h17 : i.op = 17 → P (sEnd f)) (h18 : i.op = 18 → P (sAssert f)) (h19 : i.op = 19 → P (sReckon (fun x y => (x + y) / 2) f)) (h0 : (i.op < 1 ∨ 19 < i.op) → P none) : P (stepS c b f i) := by
  unfold stepS
  by_cases e : i.op = 1
  · rw [if_pos e]; exact h1 e
  rw [if_neg e]
  by_cases e : i.op = 2
  · rw [if_pos e]; exact h2 e
  rw [if_neg e]
  by_cases e : i.op = 3
  · rw [if_pos e]; exact h3 e
  rw [if_neg e]
  by_cases e : i.op = 4
  · rw [if_pos e]; exact h4 e
  rw [if_neg e]
  by_cases e : i.op = 5
  · rw [if_pos e]; exact h5 e
  rw [if_neg e]
  by_cases e : i.op = 6
  · rw [if_pos e]; exact h6 e
  rw [if_neg e]
  by_cases e : i.op = 7
  · rw [if_pos e]; exact h7 e
  rw [if_neg e]
  by_cases e : i.op = 8
  · rw [if_pos e]; exact h8 e
  rw [if_neg e]
  by_cases e : i.op = 9
  · rw [if_pos e]; exact h9 e
  rw [if_neg e]
  by_cases e : i.op = 10
  · rw [if_pos e]; exact h10 e
  rw [if_neg e]
  by_cases e : i.op = 11
  · rw [if_pos e]; exact h11 e
  rw [if_neg e]
  by_cases e : i.op = 12
  · rw [if_pos e]; exact h12 e
  rw [if_neg e]
  by_cases e : i.op = 13
  · rw [if_pos e]; exact h13 e
  rw [if_neg e]
  by_cases e : i.op = 14
  · rw [if_pos e]; exact h14 e
  rw [if_neg e]
  by_cases e : i.op = 15
  · rw [if_pos e]; exact h15 e
  rw [if_neg e]
  by_cases e : i.op = 16
  · rw [if_pos e]; exact h16 e
  rw [if_neg e]
  by_cases e : i.op = 17
  · rw [if_pos e]; exact h17 e
  rw [if_neg e]
  by_cases e : i.op = 18
  · rw [if_pos e]; exact h18 e
  rw [if_neg e]
  by_cases e : i.op = 19
  · rw [if_pos e]; exact h19 e
  rw [if_neg e]
  exact h0 (by omega)

/-- What a step keeps, and what it asks. -/
structure Stays (b : Body) (f g : Frame) (a : Ask) : Prop where
  task : g.task = f.task
  path : g.path = f.path
  fn : g.fn = f.fn
  kids : g.kids = f.kids
  many : g.many = f.many
  loc : g.loc.length = f.loc.length
  stack : g.stack.length ≤ 100
  pc0 : 0 ≤ g.pc
  pc1 : g.pc ≤ b.ins.length
  spent : (a.kind = 5 ∧ g = f ∧ f.kids ≠ []) ∨ (a.kind ≠ 5 ∧ g.spent = f.spent + 1)
  kind4 : a.kind = 4 → dest a.b f.loc.length = true
  args : a.kind ≠ 4 → a.args = []
  kind : 0 ≤ a.kind ∧ a.kind ≤ 6
  kind0 : a.kind = 0 → a = ask0

theorem awaited_kids {f : Frame} {l : Int} (h : awaited f l = true) : f.kids ≠ [] := by
  intro e; simp [awaited, e] at h

theorem step_stays {c : Code} {b : Body} {f g : Frame} {i : Ins} {a : Ask} (h0 : 0 ≤ f.pc) (h1 : f.pc < b.ins.length) (hd : f.stack.length ≤ 100) (hs : stepS c b f i = some (g, a)) : Stays b f g a := by
  have dl : f.stack.dropLast.length ≤ f.stack.length := by simp
  have fin : ∀ {op}, sReckon op f = some (g, a) → Stays b f g a := by
    intro op hs
    simp only [sReckon] at hs
    split at hs
    · simp at hs; obtain ⟨rfl, rfl⟩ := hs
      refine ⟨rfl, rfl, rfl, rfl, rfl, rfl, ?_, ?_, ?_, .inr ⟨by simp [ask0], rfl⟩, by simp [ask0], by simp [ask0], by simp [ask0], by simp⟩
      · simp [next, pass, putF, popF]; omega
      · simp [next, pass, putF, popF]; omega
      · simp [next, pass, putF, popF]; omega
    · simp at hs
  revert hs
  refine step_cases (fun o => o = some (g, a) → Stays b f g a) ?_ ?_ ?_ ?_ ?_ (fun _ => fin) (fun _ => fin) (fun _ => fin) (fun _ => fin) (fun _ => fin) ?_ ?_ ?_ ?_ ?_ ?_ ?_ ?_ (fun _ => fin) ?_
  all_goals intro ho hs
  · simp only [sPush] at hs; split at hs
    · simp at hs; obtain ⟨rfl, rfl⟩ := hs
      refine ⟨rfl, rfl, rfl, rfl, rfl, rfl, ?_, ?_, ?_, .inr ⟨by simp [ask0], rfl⟩, by simp [ask0], by simp [ask0], by simp [ask0], by simp⟩ <;> simp [next, pass, putF] <;> omega
    · simp at hs
  · simp only [sLocal] at hs; split at hs
    · split at hs
      · rename_i hw; simp at hs; obtain ⟨rfl, rfl⟩ := hs
        exact ⟨rfl, rfl, rfl, rfl, rfl, rfl, hd, h0, by omega, .inl ⟨by simp, rfl, awaited_kids hw⟩, by simp, by simp [ask0], by simp, by simp⟩
      · split at hs
        · simp at hs; obtain ⟨rfl, rfl⟩ := hs
          refine ⟨rfl, rfl, rfl, rfl, rfl, rfl, ?_, ?_, ?_, .inr ⟨by simp [ask0], rfl⟩, by simp [ask0], by simp [ask0], by simp [ask0], by simp⟩ <;> simp [next, pass, putF] <;> omega
        · simp at hs
    · simp at hs
  · simp only [sSet] at hs; split at hs
    · split at hs
      · rename_i hw; simp at hs; obtain ⟨rfl, rfl⟩ := hs
        exact ⟨rfl, rfl, rfl, rfl, rfl, rfl, hd, h0, by omega, .inl ⟨by simp, rfl, awaited_kids hw⟩, by simp, by simp [ask0], by simp, by simp⟩
      · split at hs
        · simp at hs
        · simp at hs; obtain ⟨rfl, rfl⟩ := hs
          refine ⟨rfl, rfl, rfl, rfl, rfl, by simp [next, pass, setF, popF], ?_, ?_, ?_, .inr ⟨by simp [ask0], rfl⟩, by simp [ask0], by simp [ask0], by simp [ask0], by simp⟩ <;> simp [next, pass, setF, popF] <;> omega
    · simp at hs
  · simp only [sLoad] at hs; split at hs
    · simp at hs; obtain ⟨rfl, rfl⟩ := hs
      refine ⟨rfl, rfl, rfl, rfl, rfl, rfl, ?_, ?_, ?_, .inr ⟨by simp, rfl⟩, by simp, by simp [ask0], by simp, by simp⟩ <;> simp [next, pass] <;> omega
    · simp at hs
  · simp only [sStore] at hs; split at hs
    · simp at hs; obtain ⟨rfl, rfl⟩ := hs
      refine ⟨rfl, rfl, rfl, rfl, rfl, rfl, ?_, ?_, ?_, .inr ⟨by simp, rfl⟩, by simp, by simp [ask0], by simp, by simp⟩ <;> simp [next, pass, popF] <;> omega
    · simp at hs
  · simp only [sCall] at hs; split at hs
    · simp at hs; obtain ⟨rfl, rfl⟩ := hs
      refine ⟨rfl, rfl, rfl, rfl, rfl, rfl, ?_, ?_, ?_, .inr ⟨by simp, rfl⟩, by simp, by simp [ask0], by simp, by simp⟩ <;> simp [next, pass, dropF] <;> omega
    · simp at hs
  · simp only [sDrop] at hs; split at hs
    · simp at hs; obtain ⟨rfl, rfl⟩ := hs
      refine ⟨rfl, rfl, rfl, rfl, rfl, rfl, ?_, ?_, ?_, .inr ⟨by simp [ask0], rfl⟩, by simp [ask0], by simp [ask0], by simp [ask0], by simp⟩ <;> simp [next, pass, popF] <;> omega
    · simp at hs
  · simp only [sSpawn] at hs; split at hs
    · rename_i hw; simp at hs; obtain ⟨rfl, rfl⟩ := hs
      refine ⟨rfl, rfl, rfl, rfl, rfl, rfl, ?_, ?_, ?_, .inr ⟨by simp, rfl⟩, fun _ => hw.2.1, by simp, by simp, by simp⟩ <;> simp [next, pass, dropF] <;> omega
    · simp at hs
  · simp only [sSync] at hs; split at hs
    · simp at hs; obtain ⟨rfl, rfl⟩ := hs
      refine ⟨rfl, rfl, rfl, rfl, rfl, rfl, ?_, ?_, ?_, .inr ⟨by simp [ask0], rfl⟩, by simp [ask0], by simp [ask0], by simp [ask0], by simp⟩ <;> simp [next, pass] <;> omega
    · rename_i hw; simp at hs; obtain ⟨rfl, rfl⟩ := hs
      exact ⟨rfl, rfl, rfl, rfl, rfl, rfl, hd, h0, by omega, .inl ⟨by simp, rfl, hw⟩, by simp, by simp [ask0], by simp, by simp⟩
  · simp only [sJump] at hs; split at hs
    · rename_i hw; simp [below] at hw; simp at hs; obtain ⟨rfl, rfl⟩ := hs
      refine ⟨rfl, rfl, rfl, rfl, rfl, rfl, ?_, ?_, ?_, .inr ⟨by simp [ask0], rfl⟩, by simp [ask0], by simp [ask0], by simp [ask0], by simp⟩ <;> simp [pass] <;> omega
    · simp at hs
  · simp only [sZero] at hs; split at hs
    · rename_i hw; simp [below] at hw; split at hs
      · simp at hs; obtain ⟨rfl, rfl⟩ := hs
        refine ⟨rfl, rfl, rfl, rfl, rfl, rfl, ?_, ?_, ?_, .inr ⟨by simp [ask0], rfl⟩, by simp [ask0], by simp [ask0], by simp [ask0], by simp⟩ <;> simp [pass, popF] <;> omega
      · simp at hs; obtain ⟨rfl, rfl⟩ := hs
        refine ⟨rfl, rfl, rfl, rfl, rfl, rfl, ?_, ?_, ?_, .inr ⟨by simp [ask0], rfl⟩, by simp [ask0], by simp [ask0], by simp [ask0], by simp⟩ <;> simp [next, pass, popF] <;> omega
    · simp at hs
  · simp only [sEnd] at hs; split at hs
    · split at hs
      · simp at hs
      · simp at hs; obtain ⟨rfl, rfl⟩ := hs
        refine ⟨rfl, rfl, rfl, rfl, rfl, rfl, ?_, ?_, ?_, .inr ⟨by simp, rfl⟩, by simp, by simp [ask0], by simp, by simp⟩ <;> simp [next, pass, popF] <;> omega
    · rename_i hw; simp at hs; obtain ⟨rfl, rfl⟩ := hs
      exact ⟨rfl, rfl, rfl, rfl, rfl, rfl, hd, h0, by omega, .inl ⟨by simp, rfl, hw⟩, by simp, by simp [ask0], by simp, by simp⟩
  · simp only [sAssert] at hs; split at hs
    · simp at hs; obtain ⟨rfl, rfl⟩ := hs
      refine ⟨rfl, rfl, rfl, rfl, rfl, rfl, ?_, ?_, ?_, .inr ⟨by simp [ask0], rfl⟩, by simp [ask0], by simp [ask0], by simp [ask0], by simp⟩ <;> simp [next, pass, popF] <;> omega
    · simp at hs
  · simp at hs

/-- What Next comes to. -/
inductive Out where
  | err (e : Int)
  | ok (f : Frame) (a : Ask)

def insAt (b : Body) (f : Frame) : Ins := b.ins.getD f.pc.toNat ⟨0, 0, 0, 0⟩

def runN (c : Code) (b : Body) : Nat → Frame → Out
  | 0, _ => .err 11
  | n + 1, f =>
    if f.spent = 2000 then .err 11
    else if below f.pc b.ins.length = false then .err 1
    else match stepS c b f (insAt b f) with
      | none => .err 1
      | some (g, a) => if a.kind = 0 then runN c b n g else .ok g a

def fuelF (f : Frame) : Nat := (2001 - f.spent).toNat
def nextS (c : Code) (f : Frame) : Out := if right c f then runN c (bodyAt c f) (fuelF f) f else .err 1

/-- The arguments of what is asked: nil, but of a spawn. -/
def argsD (a : Ask) : Dat := if a.kind = 4 then ints a.args else .nil
def askD (a : Ask) : Dat := .agg [I a.kind, I a.a, I a.b, I a.op.1, I a.op.2.1, I a.op.2.2.1, I a.op.2.2.2, argsD a]
def outD (f0 : Frame) : Out → Dat
  | .err e => .tuple [frameD f0, askD ask0, I e]
  | .ok f a => .tuple [frameD f, askD a, I 0]

end Uw.Try

/- Contracts at a heap that has a block twice; more on what steps ask. -/
set_option linter.unusedVariables false
namespace Uw
open Go Go.RowKit

theorem SatD.mono {P : Program} {f : FuncId} {vs : List V} {h : Heap} {nx : Nat} {mode : Option Dat} {Q Q' : Heap → Nat → Prop} (hs : SatD P f vs h nx mode Q) (hq : ∀ h' nx', Q h' nx' → Q' h' nx') : SatD P f vs h nx mode Q' := by
  refine ⟨hs.1, fun c w0 F gvs u h1 h2 h3 h4 h5 h6 => (hs.2 c w0 F gvs u h1 h2 h3 h4 h5 h6).mono ?_⟩
  rintro e u' w' ⟨c', nx', v, e1, e2, e3, e4, e5, e6, e7, e8, e9⟩
  exact ⟨c', nx', v, e1, e2, e3, e4, e5, e6, e7, e8, hq _ _ e9⟩

theorem BlkEvo.refl (p : Pl) (b : Blk) : BlkEvo p p b b := by
  cases b with
  | var cs => exact rfl
  | arr k xs => exact ⟨rfl, ⟨[], by simp⟩, fun _ => rfl⟩
  | mt k v xs => exact ⟨rfl, Nat.le_refl _, fun _ => ⟨rfl, rfl⟩⟩
  | iter s p => exact rfl

/-- A contract holds at any heap that reads the same. -/
theorem SatC.same {P : Program} {f : FuncId} {vs : List V} {h h' : Heap} {nx : Nat} {Q : Res → Heap → Nat → Prop} (hl : ∀ i, look h' i = look h i) (hs : SatC P f vs h nx Q) : SatC P f vs h' nx Q := by
  refine ⟨hs.1, fun c w0 F gvs e1 e2 e3 e4 e5 => ?_⟩
  have hk : ∀ i, look h i = look c.heap i := by rw [e1]; exact fun i => (hl i).symm
  have hI : ∀ b o, Imm c b o → Imm { c with heap := h } b o := by
    rintro b o (hi | ⟨i1, i2, i3⟩)
    · exact .inl hi
    · exact .inr ⟨i1, i2, fun id blk hb => i3 id blk (by rw [← hk]; exact hb)⟩
  have evo : Evo c { c with heap := h } := ⟨fun b o hi => ⟨hI b o hi, rfl⟩, fun id b hb => ⟨b, by rw [hk]; exact hb, BlkEvo.refl _ _⟩⟩
  have hh : HRel { c with heap := h } w0 nx := by
    refine ⟨e2.below, e2.size0, ?_, ?_, ?_, ?_⟩
    · intro id b hb
      exact BlkRel.evo evo rfl (fun _ => rfl) (e2.blk id b (by rw [← hk]; exact hb))
    · intro id b hb; exact e2.lt id b (by rw [← hk]; exact hb)
    · intro id b hb; exact e2.ge id b (by rw [← hk]; exact hb)
    · intro id id' b b' hb hb'; exact e2.inj id id' b b' (by rw [← hk]; exact hb) (by rw [← hk]; exact hb')
  exact hs.2 { c with heap := h } w0 F gvs rfl hh e3 (F.ok c _ (evo.toK _) e4) (RelVL.evo evo _ _ e5)

theorem SatC.dup {P : Program} {f : FuncId} {vs : List V} {k : Nat} {a z : Blk} {h : Heap} {nx : Nat} {Q : Res → Heap → Nat → Prop} (hs : SatC P f vs ((k, a) :: h) nx Q) : SatC P f vs ((k, a) :: (k, z) :: h) nx Q :=
  SatC.same (fun i => by simp only [look]; cases Nat.beq k i <;> rfl) hs

end Uw
namespace Uw.Try
open Go Uw Go.Proofs

theorem step_kind4 {c : Code} {b : Body} {f g : Frame} {i : Ins} {a : Ask} (hs : stepS c b f i = some (g, a)) (h : i.op ≠ 13) : a.kind ≠ 4 := by
  have fin : ∀ {op}, sReckon op f = some (g, a) → a.kind ≠ 4 := by
    intro op hs
    simp only [sReckon] at hs
    split at hs
    · simp at hs; obtain ⟨rfl, rfl⟩ := hs; simp [ask0]
    · simp at hs
  revert hs
  refine step_cases (fun o => o = some (g, a) → a.kind ≠ 4) ?_ ?_ ?_ ?_ ?_ (fun _ => fin) (fun _ => fin) (fun _ => fin) (fun _ => fin) (fun _ => fin) ?_ ?_ (fun e => absurd e h) ?_ ?_ ?_ ?_ ?_ (fun _ => fin) ?_
  all_goals intro ho hs
  · simp only [sPush] at hs; split at hs
    · simp at hs; obtain ⟨rfl, rfl⟩ := hs; simp [ask0]
    · simp at hs
  · simp only [sLocal] at hs; repeat' split at hs
    · simp at hs; obtain ⟨rfl, rfl⟩ := hs; simp
    · simp at hs; obtain ⟨rfl, rfl⟩ := hs; simp [ask0]
    · simp at hs
    · simp at hs
  · simp only [sSet] at hs; repeat' split at hs
    · simp at hs; obtain ⟨rfl, rfl⟩ := hs; simp
    · simp at hs
    · simp at hs; obtain ⟨rfl, rfl⟩ := hs; simp [ask0]
    · simp at hs
  · simp only [sLoad] at hs; split at hs
    · simp at hs; obtain ⟨rfl, rfl⟩ := hs; simp
    · simp at hs
  · simp only [sStore] at hs; split at hs
    · simp at hs; obtain ⟨rfl, rfl⟩ := hs; simp
    · simp at hs
  · simp only [sCall] at hs; split at hs
    · simp at hs; obtain ⟨rfl, rfl⟩ := hs; simp
    · simp at hs
  · simp only [sDrop] at hs; split at hs
    · simp at hs; obtain ⟨rfl, rfl⟩ := hs; simp [ask0]
    · simp at hs
  · simp only [sSync] at hs; split at hs
    · simp at hs; obtain ⟨rfl, rfl⟩ := hs; simp [ask0]
    · simp at hs; obtain ⟨rfl, rfl⟩ := hs; simp
  · simp only [sJump] at hs; split at hs
    · simp at hs; obtain ⟨rfl, rfl⟩ := hs; simp [ask0]
    · simp at hs
  · simp only [sZero] at hs; repeat' split at hs
    · simp at hs; obtain ⟨rfl, rfl⟩ := hs; simp [ask0]
    · simp at hs; obtain ⟨rfl, rfl⟩ := hs; simp [ask0]
    · simp at hs
  · simp only [sEnd] at hs; repeat' split at hs
    · simp at hs
    · simp at hs; obtain ⟨rfl, rfl⟩ := hs; simp
    · simp at hs; obtain ⟨rfl, rfl⟩ := hs; simp
  · simp only [sAssert] at hs; split at hs
    · simp at hs; obtain ⟨rfl, rfl⟩ := hs; simp [ask0]
    · simp at hs
  · simp at hs

theorem step_kind13 {c : Code} {b : Body} {f g : Frame} {i : Ins} {a : Ask} (hs : sSpawn c f i = some (g, a)) : a.kind = 4 := by
  simp only [sSpawn] at hs; split at hs
  · simp at hs; obtain ⟨rfl, rfl⟩ := hs; rfl
  · simp at hs

end Uw.Try

/- Next's loop (printed by printr.py). -/
set_option linter.unusedVariables false
namespace Uw.Try
open Go Uw Go.Proofs

inductive LS where
  | at (x : LX) (a : Ask)
  | spawned (x : LX) (a : Ask)

def loopRegs : Regs := [(2, .ptr 0 0), (3, .ptr 1 0), (4, .ptr 2 0), (5, .ptr 3 0), (6, .ptr 4 0), (7, .ptr 5 0), (8, .ptr 17 0)]
def nextDefers : List V := [.func 33 [] [.ptr 1 0, .ptr 2 0, .ptr 3 0, .ptr 4 0]]
def loopSt (c : Code) (b : Body) (f0 : Frame) : LS → St
  | .at x a => ⟨loopRegs, loopHeap c b f0 x (askV a), 18, nextDefers, 0⟩
  | .spawned x a => ⟨loopRegs, (18, .mt 1 0 (rows a.args)) :: loopHeap c b f0 x (askR a (.ref 18 0 0 a.args.length)), 19, nextDefers, 0⟩

def loopInv (c : Code) (b : Body) (f0 : Frame) (o : Out) : LS → Prop
  | .at x a => Mid c b x ∧ Vals x.f ∧ ((a = ask0 ∧ runN c b (fuelF x.f) x.f = o) ∨ (a.kind ≠ 0 ∧ a.kind ≠ 4 ∧ o = .ok x.f a))
  | .spawned x a => Mid c b x ∧ Vals x.f ∧ a.kind = 4 ∧ o = .ok x.f a

def loopMu : LS → Nat
  | .at x a => if a.kind = 0 then fuelF x.f + 1 else 0
  | .spawned _ _ => 0

/-- The closure, where nothing is amiss. -/
theorem calm (h : Heap) (nx : Nat) : SatD Try.prog 33 [.ptr 1 0, .ptr 2 0, .ptr 3 0, .ptr 4 0] h nx none (fun h' nx' => h' = h ∧ nx' = nx) := by
  refine SatD_of_exec is33 rfl ?_
  refine WT_f rfl ?_
  exact WT_done ⟨.inl rfl, rfl, rfl, rfl⟩


set_option maxRecDepth 100000 in
/-- The closure, where something is amiss. -/
theorem amissL (c : Code) (b : Body) (f0 : Frame) (x : LX) (ask : List V) (i : Ins) (z : List V) (nx : Nat) (e : Int) : SatD Try.prog 33 [.ptr 1 0, .ptr 2 0, .ptr 3 0, .ptr 4 0] (loopHeap c b f0 x ask) nx (some (.iface 34 (I e)))
    (fun h' nx' => h' = (4, .var [.d (I e)]) :: (4, .var [.d (I 1)]) :: (3, .var noAsk) :: (2, .var (V.ofDat (frameD f0)).cells) :: loopHeap c b f0 x ask ∧ nx' = nx) := by
  refine SatD_of_exec is33 rfl ?_
  refine WT_t rfl ?_
  refine WT_t rfl ?_
  exact WT_done ⟨.inl rfl, rfl, rfl, rfl⟩


set_option maxRecDepth 100000 in
/-- The closure, where something is amiss. -/
theorem amissH (c : Code) (b : Body) (f0 : Frame) (x : LX) (ask : List V) (i : Ins) (z : List V) (nx : Nat) (e : Int) : SatD Try.prog 33 [.ptr 1 0, .ptr 2 0, .ptr 3 0, .ptr 4 0] (LH c b f0 x ask i) nx (some (.iface 34 (I e)))
    (fun h' nx' => h' = (4, .var [.d (I e)]) :: (4, .var [.d (I 1)]) :: (3, .var noAsk) :: (2, .var (V.ofDat (frameD f0)).cells) :: LH c b f0 x ask i ∧ nx' = nx) := by
  refine SatD_of_exec is33 rfl ?_
  refine WT_t rfl ?_
  refine WT_t rfl ?_
  exact WT_done ⟨.inl rfl, rfl, rfl, rfl⟩


set_option maxRecDepth 100000 in
/-- The closure, where something is amiss. -/
theorem amissD (c : Code) (b : Body) (f0 : Frame) (x : LX) (ask : List V) (i : Ins) (z : List V) (nx : Nat) (e : Int) : SatD Try.prog 33 [.ptr 1 0, .ptr 2 0, .ptr 3 0, .ptr 4 0] ((18, .var (insV i)) :: (18, .var z) :: loopHeap c b f0 x ask) nx (some (.iface 34 (I e)))
    (fun h' nx' => h' = (4, .var [.d (I e)]) :: (4, .var [.d (I 1)]) :: (3, .var noAsk) :: (2, .var (V.ofDat (frameD f0)).cells) :: (18, .var (insV i)) :: (18, .var z) :: loopHeap c b f0 x ask ∧ nx' = nx) := by
  refine SatD_of_exec is33 rfl ?_
  refine WT_t rfl ?_
  refine WT_t rfl ?_
  exact WT_done ⟨.inl rfl, rfl, rfl, rfl⟩


theorem op_cases {n : Int} (h0 : 1 ≤ n) (h1 : n < 20) : n = 1 ∨ n = 2 ∨ n = 3 ∨ n = 4 ∨ n = 5 ∨ n = 6 ∨ n = 7 ∨ n = 8 ∨ n = 9 ∨ n = 10 ∨ n = 11 ∨ n = 12 ∨ n = 13 ∨ n = 14 ∨ n = 15 ∨ n = 16 ∨ n = 17 ∨ n = 18 ∨ n = 19 := by omega

/-- One step of Next's plain form. -/
theorem run_step {c : Code} {b : Body} {f : Frame} {o : Out} (hr : runN c b (fuelF f) f = o) (h0 : f.spent < 2000) (hp : below f.pc b.ins.length = true) : o = match stepS c b f (insAt b f) with
      | none => .err 1
      | some (g, a) => if a.kind = 0 then runN c b (fuelF f - 1) g else .ok g a := by
  obtain ⟨n, hn⟩ : ∃ n, fuelF f = n + 1 := ⟨fuelF f - 1, by simp only [fuelF]; omega⟩
  rw [hn] at hr ⊢
  rw [← hr, runN, if_neg (by omega), if_neg (by rw [hp]; simp)]
  rfl

theorem Mid.inv {c : Code} {b : Body} {x : LX} (h : Mid c b x) (hp : x.f.pc < 1000) (hs : x.f.spent < 2000) (h1 : b.ins.length < 1000) (h2 : c.funs.length < 1000) (h3 : c.cells.length < 1000) : Inv c b x :=
  ⟨h.pre, h.len, h.le, h.loc, h.deep, h.pc0, hp, h.sp0, hs, h.locs, h.kids, h1, h2, h3⟩

/-- The loop goes on, or ends. -/
theorem loop_next {c : Code} {b : Body} {f0 : Frame} {o : Out} {x y : LX} {a : Ask} (hx : Inv c b x) (hv : Vals x.f) (hpc : x.f.pc < b.ins.length) (hr : runN c b (fuelF x.f) x.f = o) (hs : stepS c b x.f (insAt b x.f) = some (y.f, a)) (hm : Mid c b y) (h4 : a.kind ≠ 4) :
    loopInv c b f0 o (.at y a) ∧ loopMu (.at y a) < loopMu (.at x ask0) := by
  have st := step_stays hx.pc0 hpc hx.deep hs
  have hvy := step_vals hv hs
  have hrun := run_step hr hx.sp1 (by have := hx.pc0; simp [below]; omega)
  rw [hs] at hrun
  have h1 := hx.sp1
  by_cases hk : a.kind = 0
  · simp only [hk, if_true] at hrun
    have hsp : y.f.spent = x.f.spent + 1 := by
      rcases st.spent with ⟨h, _⟩ | ⟨_, h⟩
      · omega
      · exact h
    have hfu : fuelF x.f - 1 = fuelF y.f := by simp only [fuelF]; omega
    refine ⟨⟨hm, hvy, .inl ⟨st.kind0 hk, ?_⟩⟩, ?_⟩
    · rw [← hfu, hrun]
    · simp only [loopMu, hk, if_true, show ask0.kind = 0 from rfl, fuelF]; omega
  · simp only [hk, if_false] at hrun
    exact ⟨⟨hm, hvy, .inr ⟨hk, h4, hrun⟩⟩, by simp [loopMu, hk, show ask0.kind = 0 from rfl]⟩
theorem rows_take {l : List (List Dat)} {n : Nat} {s : List Int} (h : l.take n = rows s) : (l.drop 0).take n = rows s := by rw [List.drop_zero]; exact h

theorem frame_out {c : Code} {b : Body} {x : LX} (h : Mid c b x) : (Dat.agg [I x.f.task, .slice 1 (((rows x.f.path).drop 0).take x.f.path.length) false, I x.f.fn, I x.f.pc, .slice 1 ((x.ls.drop 0).take x.f.loc.length) false, .slice 1 ((x.xs.drop 0).take x.n) false, .slice 2 (((krows x.f.kids).drop 0).take x.f.kids.length) false, I x.f.many, I x.f.spent, .bool x.f.fail]) = frameD x.f := by
  rw [rows_take h.pre, h.loc, List.drop_zero, List.drop_zero, List.drop_zero]
  rw [List.take_of_length_le (by simp [rows]), List.take_of_length_le (by simp [rows]), List.take_of_length_le (by simp [krows])]
  rfl

def loopBody : MCode := (.seq (.seq (.ops [⟨none, (some 28), (.fld 19 (.t 7))⟩, ⟨none, (some 29), (.fld 0 (.t 28))⟩, ⟨none, (some 30), (.load false 1 (.t 29))⟩, ⟨none, (some 31), (.bin .eql (.t 30) (.c (.int .i64 0)))⟩]) (.cond (.t 31) .skip (.exit 0))) (.block 1 (.seq (.seq (.ops [⟨none, (some 32), (.fld 9 (.t 7))⟩, ⟨none, (some 33), (.fld 8 (.t 32))⟩, ⟨none, (some 34), (.load false 1 (.t 33))⟩, ⟨none, (some 35), (.bin .eql (.t 34) (.c (.int .i64 2000)))⟩]) (.cond (.t 35) (.ops [⟨none, (some 36), (.mkif 34 (.c (.int .i64 11)))⟩, ⟨none, none, (.panic (.t 36))⟩]) .skip)) (.seq (.ops [⟨none, (some 37), (.fld 9 (.t 7))⟩, ⟨none, (some 38), (.fld 3 (.t 37))⟩, ⟨none, (some 39), (.load false 1 (.t 38))⟩, ⟨none, (some 40), (.fld 6 (.t 7))⟩, ⟨none, (some 41), (.fld 2 (.t 40))⟩, ⟨none, (some 42), (.load false 1 (.t 41))⟩, ⟨none, (some 43), (.len false (.t 42))⟩, ⟨none, (some 44), (.call 25 [(.t 39), (.t 43)])⟩, ⟨none, (some 45), (.sub 36 [(.t 7), (.t 44)])⟩]) (.seq (.ops [⟨none, (some 46), (.fld 6 (.t 7))⟩, ⟨none, (some 47), (.fld 2 (.t 46))⟩, ⟨none, (some 48), (.load false 1 (.t 47))⟩, ⟨none, (some 49), (.fld 9 (.t 7))⟩, ⟨none, (some 50), (.fld 3 (.t 49))⟩, ⟨none, (some 51), (.load false 1 (.t 50))⟩, ⟨none, (some 52), (.idx 4 (.t 48) (.t 51))⟩, ⟨none, (some 53), (.load true 4 (.t 52))⟩, ⟨none, (some 9), (.alloc [(.int .i64 0), (.int .i64 0), (.int .i64 0), (.int .i64 0)])⟩, ⟨none, none, (.store 4 (.t 9) (.t 53))⟩]) (.seq (.ops [⟨none, (some 54), (.fld 0 (.t 9))⟩, ⟨none, (some 55), (.load false 1 (.t 54))⟩, ⟨none, (some 56), (.bin .geq (.t 55) (.c (.int .i64 1)))⟩, ⟨none, (some 57), (.mov (.t 56))⟩, ⟨(some (57, true)), (some 58), (.fld 0 (.t 9))⟩, ⟨(some (57, true)), (some 59), (.load false 1 (.t 58))⟩, ⟨(some (57, true)), (some 60), (.bin .lss (.t 59) (.c (.int .i64 20)))⟩, ⟨none, (some 61), (.pick (.t 57) (.t 60) (.c (.bool false)))⟩, ⟨none, (some 62), (.sub 36 [(.t 7), (.t 61)])⟩]) (.ops [⟨none, (some 63), (.fld 0 (.t 9))⟩, ⟨none, (some 64), (.load false 1 (.t 63))⟩, ⟨none, (some 65), (.idxa 20 1 (.t 8) (.t 64))⟩, ⟨none, (some 66), (.fld 0 (.t 65))⟩, ⟨none, (some 67), (.load false 1 (.t 66))⟩, ⟨none, (some 68), (.load true 4 (.t 9))⟩, ⟨none, (some 69), (.subv (.t 67) [(.t 7), (.t 68)])⟩])))))))

/-- What the closure makes, where something is amiss. -/
def Amiss (f0 : Frame) (h : Heap) (nx : Nat) (e : Int) : Prop := SatD Try.prog 33 [.ptr 1 0, .ptr 2 0, .ptr 3 0, .ptr 4 0] h nx (some (.iface 34 (I e)))
    (fun h' nx' => h' = (4, .var [.d (I e)]) :: (4, .var [.d (I 1)]) :: (3, .var noAsk) :: (2, .var (V.ofDat (frameD f0)).cells) :: h ∧ nx' = nx)

/-- What is asked of a panic's end. -/
def PanQ (f0 : Frame) (o : Out) (Q : MExit → St → Prop) : Prop := ∀ (regs : Regs) (h : Heap) (nx : Nat) (e : Int), look regs 4 = some (.ptr 2 0) → look regs 5 = some (.ptr 3 0) → look regs 6 = some (.ptr 4 0) → Amiss f0 h nx e → o = .err e →
    Q (.panic (.iface 34 (I e))) ⟨regs, h, nx, nextDefers, 0⟩

set_option maxRecDepth 100000 in
set_option maxHeartbeats 2000000 in
theorem rndBudget (c : Code) (b : Body) (f : Frame) (o : Out) (x : LX) (hm : Mid c b x) (hv : Vals x.f) (hrun : runN c b (fuelF x.f) x.f = o) (Q : MExit → St → Prop) (hpan : PanQ f o Q) (h : x.f.spent = 2000) : WT Try.prog (LoopQ (loopSt c b f) (loopInv c b f o) loopMu (.at x ask0) Q) (exec loopBody (loopSt c b f (.at x ask0)) Tree.done) := by
  refine WT_t rfl ?_
  refine WT_t (by simp [h]) ?_
  exact WT_throw (hpan _ _ _ 11 rfl rfl rfl (amissL c b f x noAsk ⟨0, 0, 0, 0⟩ [] 18 11) (by rw [← hrun, show fuelF x.f = 0 + 1 by simp only [fuelF]; omega, runN, if_pos h]))

set_option maxRecDepth 100000 in
set_option maxHeartbeats 2000000 in
theorem rndPc (c : Code) (b : Body) (f : Frame) (o : Out) (x : LX) (hm : Mid c b x) (hv : Vals x.f) (hrun : runN c b (fuelF x.f) x.f = o) (Q : MExit → St → Prop) (hpan : PanQ f o Q) (h : x.f.spent < 2000) (hpc : below x.f.pc b.ins.length = false) : WT Try.prog (LoopQ (loopSt c b f) (loopInv c b f o) loopMu (.at x ask0) Q) (exec loopBody (loopSt c b f (.at x ask0)) Tree.done) := by
  refine WT_t rfl ?_
  refine WT_f (by simp; omega) ?_
  refine WT_call _ (s25 _ _) ?_
  refine WT_sub (need_ok _ _ _ _) ?_
  rintro _ _ _ ⟨rfl, rfl, ⟨hpc', rfl⟩ | ⟨hpc', rfl⟩⟩
  · exfalso; simp [below] at hpc; simp at hpc'; omega
  refine WT_throw (hpan _ _ _ 1 rfl rfl rfl (amissL c b f x noAsk ⟨0, 0, 0, 0⟩ [] 18 1) ?_)
  obtain ⟨n, hn⟩ : ∃ n, fuelF x.f = n + 1 := ⟨fuelF x.f - 1, by simp only [fuelF]; omega⟩
  rw [← hrun, hn, runN, if_neg (by omega), if_pos hpc]

set_option maxRecDepth 100000 in
set_option maxHeartbeats 2000000 in
theorem rnd1 (c : Code) (b : Body) (f : Frame) (o : Out) (x : LX) (hm : Mid c b x) (hv : Vals x.f) (hrun : runN c b (fuelF x.f) x.f = o) (Q : MExit → St → Prop) (hpan : PanQ f o Q) (hx : Inv c b x) (hpc2 : 0 ≤ x.f.pc ∧ x.f.pc < b.ins.length) (ia ib ic : Int) (hi : insAt b x.f = ⟨1, ia, ib, ic⟩) : WT Try.prog (LoopQ (loopSt c b f) (loopInv c b f o) loopMu (.at x ask0) Q) (exec loopBody (loopSt c b f (.at x ask0)) Tree.done) := by
  have hs1 : stepS c b x.f ⟨1, ia, ib, ic⟩ = sPush x.f ⟨1, ia, ib, ic⟩ := rfl
  have hS := SatC.dup (k := 18) (a := .var (insV ⟨1, ia, ib, ic⟩)) (z := .var [.d (I 0), .d (I 0), .d (I 0), .d (I 0)]) (h := loopHeap c b f x noAsk) (i_push2 c b f x ⟨1, ia, ib, ic⟩ hx)
  rw [← hs1] at hS
  obtain ⟨s, hst⟩ : ∃ s, stepS c b x.f ⟨1, ia, ib, ic⟩ = s := ⟨_, rfl⟩
  rw [hst] at hS
  have hpc3 : below x.f.pc b.ins.length = true := by simpa [below] using hpc2
  have h := hx.sp1
  have hi2 : b.ins[x.f.pc.toNat]? = some ⟨1, ia, ib, ic⟩ := by
    have e : x.f.pc.toNat < b.ins.length := by omega
    rw [← hi]; simp [insAt, e]
  refine WT_t rfl ?_
  refine WT_f (by simp; omega) ?_
  refine WT_call _ (s25 _ _) ?_
  refine WT_sub (need_ok _ _ _ _) ?_
  rintro _ _ _ ⟨rfl, rfl, ⟨-, rfl⟩ | ⟨hpc', rfl⟩⟩
  rotate_left
  · exfalso; simp at hpc'; omega
  refine WT_t (by simp; omega) ?_
  refine WT_elem (insD ⟨1, ia, ib, ic⟩) (by simp [hi2]) ?_
  refine WT_t rfl ?_
  refine WT_t rfl ?_
  refine WT_sub (need_ok _ _ _ _) ?_
  rintro _ _ _ ⟨rfl, rfl, ⟨-, rfl⟩ | ⟨hno, rfl⟩⟩
  rotate_left
  · exfalso; simp at hno
  refine WT_t rfl ?_
  refine WT_sub hS ?_
  rintro r h' nx' hD
  cases s with
  | none =>
    obtain ⟨rfl, rfl, y, ask, rfl⟩ := hD
    exact WT_throw (hpan _ _ _ 1 rfl rfl rfl (amissH c b f y ask ⟨1, ia, ib, ic⟩ [] 19 1) (by rw [run_step hrun hx.sp1 hpc3, hi, hst]))
  | some p =>
    obtain ⟨g, a⟩ := p
    obtain ⟨rfl, rfl, y, rfl, hmy, rfl⟩ := hD
    have hnx := loop_next (f0 := f) hx hv hpc2.2 hrun (by rw [hi]; exact hst) hmy (step_kind4 hst (by show (1 : Int) ≠ 13; decide))
    exact WT_again (.at y a) hnx.1 hnx.2 (Weak.eqs [] (by kernel_rfl) (by kernel_rfl) (by kernel_rfl) (by kernel_rfl) (by kernel_rfl) (by kernel_rfl) (by kernel_rfl) (by kernel_rfl) (by kernel_rfl) (by kernel_rfl))

set_option maxRecDepth 100000 in
set_option maxHeartbeats 2000000 in
theorem rnd2 (c : Code) (b : Body) (f : Frame) (o : Out) (x : LX) (hm : Mid c b x) (hv : Vals x.f) (hrun : runN c b (fuelF x.f) x.f = o) (Q : MExit → St → Prop) (hpan : PanQ f o Q) (hx : Inv c b x) (hpc2 : 0 ≤ x.f.pc ∧ x.f.pc < b.ins.length) (ia ib ic : Int) (hi : insAt b x.f = ⟨2, ia, ib, ic⟩) : WT Try.prog (LoopQ (loopSt c b f) (loopInv c b f o) loopMu (.at x ask0) Q) (exec loopBody (loopSt c b f (.at x ask0)) Tree.done) := by
  have hs1 : stepS c b x.f ⟨2, ia, ib, ic⟩ = sLocal x.f ⟨2, ia, ib, ic⟩ := rfl
  have hS := SatC.dup (k := 18) (a := .var (insV ⟨2, ia, ib, ic⟩)) (z := .var [.d (I 0), .d (I 0), .d (I 0), .d (I 0)]) (h := loopHeap c b f x noAsk) (i_local c b f x ⟨2, ia, ib, ic⟩ hx)
  rw [← hs1] at hS
  obtain ⟨s, hst⟩ : ∃ s, stepS c b x.f ⟨2, ia, ib, ic⟩ = s := ⟨_, rfl⟩
  rw [hst] at hS
  have hpc3 : below x.f.pc b.ins.length = true := by simpa [below] using hpc2
  have h := hx.sp1
  have hi2 : b.ins[x.f.pc.toNat]? = some ⟨2, ia, ib, ic⟩ := by
    have e : x.f.pc.toNat < b.ins.length := by omega
    rw [← hi]; simp [insAt, e]
  refine WT_t rfl ?_
  refine WT_f (by simp; omega) ?_
  refine WT_call _ (s25 _ _) ?_
  refine WT_sub (need_ok _ _ _ _) ?_
  rintro _ _ _ ⟨rfl, rfl, ⟨-, rfl⟩ | ⟨hpc', rfl⟩⟩
  rotate_left
  · exfalso; simp at hpc'; omega
  refine WT_t (by simp; omega) ?_
  refine WT_elem (insD ⟨2, ia, ib, ic⟩) (by simp [hi2]) ?_
  refine WT_t rfl ?_
  refine WT_t rfl ?_
  refine WT_sub (need_ok _ _ _ _) ?_
  rintro _ _ _ ⟨rfl, rfl, ⟨-, rfl⟩ | ⟨hno, rfl⟩⟩
  rotate_left
  · exfalso; simp at hno
  refine WT_t rfl ?_
  refine WT_sub hS ?_
  rintro r h' nx' hD
  cases s with
  | none =>
    obtain ⟨rfl, rfl, y, ask, rfl⟩ := hD
    exact WT_throw (hpan _ _ _ 1 rfl rfl rfl (amissH c b f y ask ⟨2, ia, ib, ic⟩ [] 19 1) (by rw [run_step hrun hx.sp1 hpc3, hi, hst]))
  | some p =>
    obtain ⟨g, a⟩ := p
    obtain ⟨rfl, rfl, y, rfl, hmy, rfl⟩ := hD
    have hnx := loop_next (f0 := f) hx hv hpc2.2 hrun (by rw [hi]; exact hst) hmy (step_kind4 hst (by show (2 : Int) ≠ 13; decide))
    exact WT_again (.at y a) hnx.1 hnx.2 (Weak.eqs [] (by kernel_rfl) (by kernel_rfl) (by kernel_rfl) (by kernel_rfl) (by kernel_rfl) (by kernel_rfl) (by kernel_rfl) (by kernel_rfl) (by kernel_rfl) (by kernel_rfl))

set_option maxRecDepth 100000 in
set_option maxHeartbeats 2000000 in
theorem rnd3 (c : Code) (b : Body) (f : Frame) (o : Out) (x : LX) (hm : Mid c b x) (hv : Vals x.f) (hrun : runN c b (fuelF x.f) x.f = o) (Q : MExit → St → Prop) (hpan : PanQ f o Q) (hx : Inv c b x) (hpc2 : 0 ≤ x.f.pc ∧ x.f.pc < b.ins.length) (ia ib ic : Int) (hi : insAt b x.f = ⟨3, ia, ib, ic⟩) : WT Try.prog (LoopQ (loopSt c b f) (loopInv c b f o) loopMu (.at x ask0) Q) (exec loopBody (loopSt c b f (.at x ask0)) Tree.done) := by
  have hs1 : stepS c b x.f ⟨3, ia, ib, ic⟩ = sSet x.f ⟨3, ia, ib, ic⟩ := rfl
  have hS := SatC.dup (k := 18) (a := .var (insV ⟨3, ia, ib, ic⟩)) (z := .var [.d (I 0), .d (I 0), .d (I 0), .d (I 0)]) (h := loopHeap c b f x noAsk) (i_set c b f x ⟨3, ia, ib, ic⟩ hx)
  rw [← hs1] at hS
  obtain ⟨s, hst⟩ : ∃ s, stepS c b x.f ⟨3, ia, ib, ic⟩ = s := ⟨_, rfl⟩
  rw [hst] at hS
  have hpc3 : below x.f.pc b.ins.length = true := by simpa [below] using hpc2
  have h := hx.sp1
  have hi2 : b.ins[x.f.pc.toNat]? = some ⟨3, ia, ib, ic⟩ := by
    have e : x.f.pc.toNat < b.ins.length := by omega
    rw [← hi]; simp [insAt, e]
  refine WT_t rfl ?_
  refine WT_f (by simp; omega) ?_
  refine WT_call _ (s25 _ _) ?_
  refine WT_sub (need_ok _ _ _ _) ?_
  rintro _ _ _ ⟨rfl, rfl, ⟨-, rfl⟩ | ⟨hpc', rfl⟩⟩
  rotate_left
  · exfalso; simp at hpc'; omega
  refine WT_t (by simp; omega) ?_
  refine WT_elem (insD ⟨3, ia, ib, ic⟩) (by simp [hi2]) ?_
  refine WT_t rfl ?_
  refine WT_t rfl ?_
  refine WT_sub (need_ok _ _ _ _) ?_
  rintro _ _ _ ⟨rfl, rfl, ⟨-, rfl⟩ | ⟨hno, rfl⟩⟩
  rotate_left
  · exfalso; simp at hno
  refine WT_t rfl ?_
  refine WT_sub hS ?_
  rintro r h' nx' hD
  cases s with
  | none =>
    obtain ⟨rfl, rfl, y, ask, rfl⟩ := hD
    exact WT_throw (hpan _ _ _ 1 rfl rfl rfl (amissH c b f y ask ⟨3, ia, ib, ic⟩ [] 19 1) (by rw [run_step hrun hx.sp1 hpc3, hi, hst]))
  | some p =>
    obtain ⟨g, a⟩ := p
    obtain ⟨rfl, rfl, y, rfl, hmy, rfl⟩ := hD
    have hnx := loop_next (f0 := f) hx hv hpc2.2 hrun (by rw [hi]; exact hst) hmy (step_kind4 hst (by show (3 : Int) ≠ 13; decide))
    exact WT_again (.at y a) hnx.1 hnx.2 (Weak.eqs [] (by kernel_rfl) (by kernel_rfl) (by kernel_rfl) (by kernel_rfl) (by kernel_rfl) (by kernel_rfl) (by kernel_rfl) (by kernel_rfl) (by kernel_rfl) (by kernel_rfl))

set_option maxRecDepth 100000 in
set_option maxHeartbeats 2000000 in
theorem rnd4 (c : Code) (b : Body) (f : Frame) (o : Out) (x : LX) (hm : Mid c b x) (hv : Vals x.f) (hrun : runN c b (fuelF x.f) x.f = o) (Q : MExit → St → Prop) (hpan : PanQ f o Q) (hx : Inv c b x) (hpc2 : 0 ≤ x.f.pc ∧ x.f.pc < b.ins.length) (ia ib ic : Int) (hi : insAt b x.f = ⟨4, ia, ib, ic⟩) : WT Try.prog (LoopQ (loopSt c b f) (loopInv c b f o) loopMu (.at x ask0) Q) (exec loopBody (loopSt c b f (.at x ask0)) Tree.done) := by
  have hs1 : stepS c b x.f ⟨4, ia, ib, ic⟩ = sLoad c x.f ⟨4, ia, ib, ic⟩ := rfl
  have hS := SatC.dup (k := 18) (a := .var (insV ⟨4, ia, ib, ic⟩)) (z := .var [.d (I 0), .d (I 0), .d (I 0), .d (I 0)]) (h := loopHeap c b f x noAsk) (i_load c b f x ⟨4, ia, ib, ic⟩ hx)
  rw [← hs1] at hS
  obtain ⟨s, hst⟩ : ∃ s, stepS c b x.f ⟨4, ia, ib, ic⟩ = s := ⟨_, rfl⟩
  rw [hst] at hS
  have hpc3 : below x.f.pc b.ins.length = true := by simpa [below] using hpc2
  have h := hx.sp1
  have hi2 : b.ins[x.f.pc.toNat]? = some ⟨4, ia, ib, ic⟩ := by
    have e : x.f.pc.toNat < b.ins.length := by omega
    rw [← hi]; simp [insAt, e]
  refine WT_t rfl ?_
  refine WT_f (by simp; omega) ?_
  refine WT_call _ (s25 _ _) ?_
  refine WT_sub (need_ok _ _ _ _) ?_
  rintro _ _ _ ⟨rfl, rfl, ⟨-, rfl⟩ | ⟨hpc', rfl⟩⟩
  rotate_left
  · exfalso; simp at hpc'; omega
  refine WT_t (by simp; omega) ?_
  refine WT_elem (insD ⟨4, ia, ib, ic⟩) (by simp [hi2]) ?_
  refine WT_t rfl ?_
  refine WT_t rfl ?_
  refine WT_sub (need_ok _ _ _ _) ?_
  rintro _ _ _ ⟨rfl, rfl, ⟨-, rfl⟩ | ⟨hno, rfl⟩⟩
  rotate_left
  · exfalso; simp at hno
  refine WT_t rfl ?_
  refine WT_sub hS ?_
  rintro r h' nx' hD
  cases s with
  | none =>
    obtain ⟨rfl, rfl, y, ask, rfl⟩ := hD
    exact WT_throw (hpan _ _ _ 1 rfl rfl rfl (amissH c b f y ask ⟨4, ia, ib, ic⟩ [] 19 1) (by rw [run_step hrun hx.sp1 hpc3, hi, hst]))
  | some p =>
    obtain ⟨g, a⟩ := p
    obtain ⟨rfl, rfl, y, rfl, hmy, rfl⟩ := hD
    have hnx := loop_next (f0 := f) hx hv hpc2.2 hrun (by rw [hi]; exact hst) hmy (step_kind4 hst (by show (4 : Int) ≠ 13; decide))
    exact WT_again (.at y a) hnx.1 hnx.2 (Weak.eqs [] (by kernel_rfl) (by kernel_rfl) (by kernel_rfl) (by kernel_rfl) (by kernel_rfl) (by kernel_rfl) (by kernel_rfl) (by kernel_rfl) (by kernel_rfl) (by kernel_rfl))

set_option maxRecDepth 100000 in
set_option maxHeartbeats 2000000 in
theorem rnd5 (c : Code) (b : Body) (f : Frame) (o : Out) (x : LX) (hm : Mid c b x) (hv : Vals x.f) (hrun : runN c b (fuelF x.f) x.f = o) (Q : MExit → St → Prop) (hpan : PanQ f o Q) (hx : Inv c b x) (hpc2 : 0 ≤ x.f.pc ∧ x.f.pc < b.ins.length) (ia ib ic : Int) (hi : insAt b x.f = ⟨5, ia, ib, ic⟩) : WT Try.prog (LoopQ (loopSt c b f) (loopInv c b f o) loopMu (.at x ask0) Q) (exec loopBody (loopSt c b f (.at x ask0)) Tree.done) := by
  have hs1 : stepS c b x.f ⟨5, ia, ib, ic⟩ = sStore c x.f ⟨5, ia, ib, ic⟩ := rfl
  have hS := SatC.dup (k := 18) (a := .var (insV ⟨5, ia, ib, ic⟩)) (z := .var [.d (I 0), .d (I 0), .d (I 0), .d (I 0)]) (h := loopHeap c b f x noAsk) (i_store c b f x ⟨5, ia, ib, ic⟩ hx)
  rw [← hs1] at hS
  obtain ⟨s, hst⟩ : ∃ s, stepS c b x.f ⟨5, ia, ib, ic⟩ = s := ⟨_, rfl⟩
  rw [hst] at hS
  have hpc3 : below x.f.pc b.ins.length = true := by simpa [below] using hpc2
  have h := hx.sp1
  have hi2 : b.ins[x.f.pc.toNat]? = some ⟨5, ia, ib, ic⟩ := by
    have e : x.f.pc.toNat < b.ins.length := by omega
    rw [← hi]; simp [insAt, e]
  refine WT_t rfl ?_
  refine WT_f (by simp; omega) ?_
  refine WT_call _ (s25 _ _) ?_
  refine WT_sub (need_ok _ _ _ _) ?_
  rintro _ _ _ ⟨rfl, rfl, ⟨-, rfl⟩ | ⟨hpc', rfl⟩⟩
  rotate_left
  · exfalso; simp at hpc'; omega
  refine WT_t (by simp; omega) ?_
  refine WT_elem (insD ⟨5, ia, ib, ic⟩) (by simp [hi2]) ?_
  refine WT_t rfl ?_
  refine WT_t rfl ?_
  refine WT_sub (need_ok _ _ _ _) ?_
  rintro _ _ _ ⟨rfl, rfl, ⟨-, rfl⟩ | ⟨hno, rfl⟩⟩
  rotate_left
  · exfalso; simp at hno
  refine WT_t rfl ?_
  refine WT_sub hS ?_
  rintro r h' nx' hD
  cases s with
  | none =>
    obtain ⟨rfl, rfl, y, ask, rfl⟩ := hD
    exact WT_throw (hpan _ _ _ 1 rfl rfl rfl (amissH c b f y ask ⟨5, ia, ib, ic⟩ [] 19 1) (by rw [run_step hrun hx.sp1 hpc3, hi, hst]))
  | some p =>
    obtain ⟨g, a⟩ := p
    obtain ⟨rfl, rfl, y, rfl, hmy, rfl⟩ := hD
    have hnx := loop_next (f0 := f) hx hv hpc2.2 hrun (by rw [hi]; exact hst) hmy (step_kind4 hst (by show (5 : Int) ≠ 13; decide))
    exact WT_again (.at y a) hnx.1 hnx.2 (Weak.eqs [] (by kernel_rfl) (by kernel_rfl) (by kernel_rfl) (by kernel_rfl) (by kernel_rfl) (by kernel_rfl) (by kernel_rfl) (by kernel_rfl) (by kernel_rfl) (by kernel_rfl))

set_option maxRecDepth 100000 in
set_option maxHeartbeats 2000000 in
theorem rnd6 (c : Code) (b : Body) (f : Frame) (o : Out) (x : LX) (hm : Mid c b x) (hv : Vals x.f) (hrun : runN c b (fuelF x.f) x.f = o) (Q : MExit → St → Prop) (hpan : PanQ f o Q) (hx : Inv c b x) (hpc2 : 0 ≤ x.f.pc ∧ x.f.pc < b.ins.length) (ia ib ic : Int) (hi : insAt b x.f = ⟨6, ia, ib, ic⟩) : WT Try.prog (LoopQ (loopSt c b f) (loopInv c b f o) loopMu (.at x ask0) Q) (exec loopBody (loopSt c b f (.at x ask0)) Tree.done) := by
  have hs1 : stepS c b x.f ⟨6, ia, ib, ic⟩ = sReckon (fun x y => wrapS (x + y)) x.f := rfl
  have hS := SatC.dup (k := 18) (a := .var (insV ⟨6, ia, ib, ic⟩)) (z := .var [.d (I 0), .d (I 0), .d (I 0), .d (I 0)]) (h := loopHeap c b f x noAsk) (i_add c b f x ⟨6, ia, ib, ic⟩ hx)
  rw [← hs1] at hS
  obtain ⟨s, hst⟩ : ∃ s, stepS c b x.f ⟨6, ia, ib, ic⟩ = s := ⟨_, rfl⟩
  rw [hst] at hS
  have hpc3 : below x.f.pc b.ins.length = true := by simpa [below] using hpc2
  have h := hx.sp1
  have hi2 : b.ins[x.f.pc.toNat]? = some ⟨6, ia, ib, ic⟩ := by
    have e : x.f.pc.toNat < b.ins.length := by omega
    rw [← hi]; simp [insAt, e]
  refine WT_t rfl ?_
  refine WT_f (by simp; omega) ?_
  refine WT_call _ (s25 _ _) ?_
  refine WT_sub (need_ok _ _ _ _) ?_
  rintro _ _ _ ⟨rfl, rfl, ⟨-, rfl⟩ | ⟨hpc', rfl⟩⟩
  rotate_left
  · exfalso; simp at hpc'; omega
  refine WT_t (by simp; omega) ?_
  refine WT_elem (insD ⟨6, ia, ib, ic⟩) (by simp [hi2]) ?_
  refine WT_t rfl ?_
  refine WT_t rfl ?_
  refine WT_sub (need_ok _ _ _ _) ?_
  rintro _ _ _ ⟨rfl, rfl, ⟨-, rfl⟩ | ⟨hno, rfl⟩⟩
  rotate_left
  · exfalso; simp at hno
  refine WT_t rfl ?_
  refine WT_sub hS ?_
  rintro r h' nx' hD
  cases s with
  | none =>
    obtain ⟨rfl, rfl, y, ask, rfl⟩ := hD
    exact WT_throw (hpan _ _ _ 1 rfl rfl rfl (amissH c b f y ask ⟨6, ia, ib, ic⟩ [] 19 1) (by rw [run_step hrun hx.sp1 hpc3, hi, hst]))
  | some p =>
    obtain ⟨g, a⟩ := p
    obtain ⟨rfl, rfl, y, rfl, hmy, rfl⟩ := hD
    have hnx := loop_next (f0 := f) hx hv hpc2.2 hrun (by rw [hi]; exact hst) hmy (step_kind4 hst (by show (6 : Int) ≠ 13; decide))
    exact WT_again (.at y a) hnx.1 hnx.2 (Weak.eqs [] (by kernel_rfl) (by kernel_rfl) (by kernel_rfl) (by kernel_rfl) (by kernel_rfl) (by kernel_rfl) (by kernel_rfl) (by kernel_rfl) (by kernel_rfl) (by kernel_rfl))

set_option maxRecDepth 100000 in
set_option maxHeartbeats 2000000 in
theorem rnd7 (c : Code) (b : Body) (f : Frame) (o : Out) (x : LX) (hm : Mid c b x) (hv : Vals x.f) (hrun : runN c b (fuelF x.f) x.f = o) (Q : MExit → St → Prop) (hpan : PanQ f o Q) (hx : Inv c b x) (hpc2 : 0 ≤ x.f.pc ∧ x.f.pc < b.ins.length) (ia ib ic : Int) (hi : insAt b x.f = ⟨7, ia, ib, ic⟩) : WT Try.prog (LoopQ (loopSt c b f) (loopInv c b f o) loopMu (.at x ask0) Q) (exec loopBody (loopSt c b f (.at x ask0)) Tree.done) := by
  have hs1 : stepS c b x.f ⟨7, ia, ib, ic⟩ = sReckon (fun x y => wrapS (x - y)) x.f := rfl
  have hS := SatC.dup (k := 18) (a := .var (insV ⟨7, ia, ib, ic⟩)) (z := .var [.d (I 0), .d (I 0), .d (I 0), .d (I 0)]) (h := loopHeap c b f x noAsk) (i_sub c b f x ⟨7, ia, ib, ic⟩ hx)
  rw [← hs1] at hS
  obtain ⟨s, hst⟩ : ∃ s, stepS c b x.f ⟨7, ia, ib, ic⟩ = s := ⟨_, rfl⟩
  rw [hst] at hS
  have hpc3 : below x.f.pc b.ins.length = true := by simpa [below] using hpc2
  have h := hx.sp1
  have hi2 : b.ins[x.f.pc.toNat]? = some ⟨7, ia, ib, ic⟩ := by
    have e : x.f.pc.toNat < b.ins.length := by omega
    rw [← hi]; simp [insAt, e]
  refine WT_t rfl ?_
  refine WT_f (by simp; omega) ?_
  refine WT_call _ (s25 _ _) ?_
  refine WT_sub (need_ok _ _ _ _) ?_
  rintro _ _ _ ⟨rfl, rfl, ⟨-, rfl⟩ | ⟨hpc', rfl⟩⟩
  rotate_left
  · exfalso; simp at hpc'; omega
  refine WT_t (by simp; omega) ?_
  refine WT_elem (insD ⟨7, ia, ib, ic⟩) (by simp [hi2]) ?_
  refine WT_t rfl ?_
  refine WT_t rfl ?_
  refine WT_sub (need_ok _ _ _ _) ?_
  rintro _ _ _ ⟨rfl, rfl, ⟨-, rfl⟩ | ⟨hno, rfl⟩⟩
  rotate_left
  · exfalso; simp at hno
  refine WT_t rfl ?_
  refine WT_sub hS ?_
  rintro r h' nx' hD
  cases s with
  | none =>
    obtain ⟨rfl, rfl, y, ask, rfl⟩ := hD
    exact WT_throw (hpan _ _ _ 1 rfl rfl rfl (amissH c b f y ask ⟨7, ia, ib, ic⟩ [] 19 1) (by rw [run_step hrun hx.sp1 hpc3, hi, hst]))
  | some p =>
    obtain ⟨g, a⟩ := p
    obtain ⟨rfl, rfl, y, rfl, hmy, rfl⟩ := hD
    have hnx := loop_next (f0 := f) hx hv hpc2.2 hrun (by rw [hi]; exact hst) hmy (step_kind4 hst (by show (7 : Int) ≠ 13; decide))
    exact WT_again (.at y a) hnx.1 hnx.2 (Weak.eqs [] (by kernel_rfl) (by kernel_rfl) (by kernel_rfl) (by kernel_rfl) (by kernel_rfl) (by kernel_rfl) (by kernel_rfl) (by kernel_rfl) (by kernel_rfl) (by kernel_rfl))

set_option maxRecDepth 100000 in
set_option maxHeartbeats 2000000 in
theorem rnd8 (c : Code) (b : Body) (f : Frame) (o : Out) (x : LX) (hm : Mid c b x) (hv : Vals x.f) (hrun : runN c b (fuelF x.f) x.f = o) (Q : MExit → St → Prop) (hpan : PanQ f o Q) (hx : Inv c b x) (hpc2 : 0 ≤ x.f.pc ∧ x.f.pc < b.ins.length) (ia ib ic : Int) (hi : insAt b x.f = ⟨8, ia, ib, ic⟩) : WT Try.prog (LoopQ (loopSt c b f) (loopInv c b f o) loopMu (.at x ask0) Q) (exec loopBody (loopSt c b f (.at x ask0)) Tree.done) := by
  have hs1 : stepS c b x.f ⟨8, ia, ib, ic⟩ = sReckon (fun x y => wrapS (x * y)) x.f := rfl
  have hS := SatC.dup (k := 18) (a := .var (insV ⟨8, ia, ib, ic⟩)) (z := .var [.d (I 0), .d (I 0), .d (I 0), .d (I 0)]) (h := loopHeap c b f x noAsk) (i_mul c b f x ⟨8, ia, ib, ic⟩ hx)
  rw [← hs1] at hS
  obtain ⟨s, hst⟩ : ∃ s, stepS c b x.f ⟨8, ia, ib, ic⟩ = s := ⟨_, rfl⟩
  rw [hst] at hS
  have hpc3 : below x.f.pc b.ins.length = true := by simpa [below] using hpc2
  have h := hx.sp1
  have hi2 : b.ins[x.f.pc.toNat]? = some ⟨8, ia, ib, ic⟩ := by
    have e : x.f.pc.toNat < b.ins.length := by omega
    rw [← hi]; simp [insAt, e]
  refine WT_t rfl ?_
  refine WT_f (by simp; omega) ?_
  refine WT_call _ (s25 _ _) ?_
  refine WT_sub (need_ok _ _ _ _) ?_
  rintro _ _ _ ⟨rfl, rfl, ⟨-, rfl⟩ | ⟨hpc', rfl⟩⟩
  rotate_left
  · exfalso; simp at hpc'; omega
  refine WT_t (by simp; omega) ?_
  refine WT_elem (insD ⟨8, ia, ib, ic⟩) (by simp [hi2]) ?_
  refine WT_t rfl ?_
  refine WT_t rfl ?_
  refine WT_sub (need_ok _ _ _ _) ?_
  rintro _ _ _ ⟨rfl, rfl, ⟨-, rfl⟩ | ⟨hno, rfl⟩⟩
  rotate_left
  · exfalso; simp at hno
  refine WT_t rfl ?_
  refine WT_sub hS ?_
  rintro r h' nx' hD
  cases s with
  | none =>
    obtain ⟨rfl, rfl, y, ask, rfl⟩ := hD
    exact WT_throw (hpan _ _ _ 1 rfl rfl rfl (amissH c b f y ask ⟨8, ia, ib, ic⟩ [] 19 1) (by rw [run_step hrun hx.sp1 hpc3, hi, hst]))
  | some p =>
    obtain ⟨g, a⟩ := p
    obtain ⟨rfl, rfl, y, rfl, hmy, rfl⟩ := hD
    have hnx := loop_next (f0 := f) hx hv hpc2.2 hrun (by rw [hi]; exact hst) hmy (step_kind4 hst (by show (8 : Int) ≠ 13; decide))
    exact WT_again (.at y a) hnx.1 hnx.2 (Weak.eqs [] (by kernel_rfl) (by kernel_rfl) (by kernel_rfl) (by kernel_rfl) (by kernel_rfl) (by kernel_rfl) (by kernel_rfl) (by kernel_rfl) (by kernel_rfl) (by kernel_rfl))

set_option maxRecDepth 100000 in
set_option maxHeartbeats 2000000 in
theorem rnd9 (c : Code) (b : Body) (f : Frame) (o : Out) (x : LX) (hm : Mid c b x) (hv : Vals x.f) (hrun : runN c b (fuelF x.f) x.f = o) (Q : MExit → St → Prop) (hpan : PanQ f o Q) (hx : Inv c b x) (hpc2 : 0 ≤ x.f.pc ∧ x.f.pc < b.ins.length) (ia ib ic : Int) (hi : insAt b x.f = ⟨9, ia, ib, ic⟩) : WT Try.prog (LoopQ (loopSt c b f) (loopInv c b f o) loopMu (.at x ask0) Q) (exec loopBody (loopSt c b f (.at x ask0)) Tree.done) := by
  have hs1 : stepS c b x.f ⟨9, ia, ib, ic⟩ = sReckon (fun x y => truth (decide (x < y))) x.f := rfl
  have hS := SatC.dup (k := 18) (a := .var (insV ⟨9, ia, ib, ic⟩)) (z := .var [.d (I 0), .d (I 0), .d (I 0), .d (I 0)]) (h := loopHeap c b f x noAsk) (i_less c b f x ⟨9, ia, ib, ic⟩ hx)
  rw [← hs1] at hS
  obtain ⟨s, hst⟩ : ∃ s, stepS c b x.f ⟨9, ia, ib, ic⟩ = s := ⟨_, rfl⟩
  rw [hst] at hS
  have hpc3 : below x.f.pc b.ins.length = true := by simpa [below] using hpc2
  have h := hx.sp1
  have hi2 : b.ins[x.f.pc.toNat]? = some ⟨9, ia, ib, ic⟩ := by
    have e : x.f.pc.toNat < b.ins.length := by omega
    rw [← hi]; simp [insAt, e]
  refine WT_t rfl ?_
  refine WT_f (by simp; omega) ?_
  refine WT_call _ (s25 _ _) ?_
  refine WT_sub (need_ok _ _ _ _) ?_
  rintro _ _ _ ⟨rfl, rfl, ⟨-, rfl⟩ | ⟨hpc', rfl⟩⟩
  rotate_left
  · exfalso; simp at hpc'; omega
  refine WT_t (by simp; omega) ?_
  refine WT_elem (insD ⟨9, ia, ib, ic⟩) (by simp [hi2]) ?_
  refine WT_t rfl ?_
  refine WT_t rfl ?_
  refine WT_sub (need_ok _ _ _ _) ?_
  rintro _ _ _ ⟨rfl, rfl, ⟨-, rfl⟩ | ⟨hno, rfl⟩⟩
  rotate_left
  · exfalso; simp at hno
  refine WT_t rfl ?_
  refine WT_sub hS ?_
  rintro r h' nx' hD
  cases s with
  | none =>
    obtain ⟨rfl, rfl, y, ask, rfl⟩ := hD
    exact WT_throw (hpan _ _ _ 1 rfl rfl rfl (amissH c b f y ask ⟨9, ia, ib, ic⟩ [] 19 1) (by rw [run_step hrun hx.sp1 hpc3, hi, hst]))
  | some p =>
    obtain ⟨g, a⟩ := p
    obtain ⟨rfl, rfl, y, rfl, hmy, rfl⟩ := hD
    have hnx := loop_next (f0 := f) hx hv hpc2.2 hrun (by rw [hi]; exact hst) hmy (step_kind4 hst (by show (9 : Int) ≠ 13; decide))
    exact WT_again (.at y a) hnx.1 hnx.2 (Weak.eqs [] (by kernel_rfl) (by kernel_rfl) (by kernel_rfl) (by kernel_rfl) (by kernel_rfl) (by kernel_rfl) (by kernel_rfl) (by kernel_rfl) (by kernel_rfl) (by kernel_rfl))

set_option maxRecDepth 100000 in
set_option maxHeartbeats 2000000 in
theorem rnd10 (c : Code) (b : Body) (f : Frame) (o : Out) (x : LX) (hm : Mid c b x) (hv : Vals x.f) (hrun : runN c b (fuelF x.f) x.f = o) (Q : MExit → St → Prop) (hpan : PanQ f o Q) (hx : Inv c b x) (hpc2 : 0 ≤ x.f.pc ∧ x.f.pc < b.ins.length) (ia ib ic : Int) (hi : insAt b x.f = ⟨10, ia, ib, ic⟩) : WT Try.prog (LoopQ (loopSt c b f) (loopInv c b f o) loopMu (.at x ask0) Q) (exec loopBody (loopSt c b f (.at x ask0)) Tree.done) := by
  have hs1 : stepS c b x.f ⟨10, ia, ib, ic⟩ = sReckon (fun x y => truth (decide (x = y))) x.f := rfl
  have hS := SatC.dup (k := 18) (a := .var (insV ⟨10, ia, ib, ic⟩)) (z := .var [.d (I 0), .d (I 0), .d (I 0), .d (I 0)]) (h := loopHeap c b f x noAsk) (i_eq c b f x ⟨10, ia, ib, ic⟩ hx)
  rw [← hs1] at hS
  obtain ⟨s, hst⟩ : ∃ s, stepS c b x.f ⟨10, ia, ib, ic⟩ = s := ⟨_, rfl⟩
  rw [hst] at hS
  have hpc3 : below x.f.pc b.ins.length = true := by simpa [below] using hpc2
  have h := hx.sp1
  have hi2 : b.ins[x.f.pc.toNat]? = some ⟨10, ia, ib, ic⟩ := by
    have e : x.f.pc.toNat < b.ins.length := by omega
    rw [← hi]; simp [insAt, e]
  refine WT_t rfl ?_
  refine WT_f (by simp; omega) ?_
  refine WT_call _ (s25 _ _) ?_
  refine WT_sub (need_ok _ _ _ _) ?_
  rintro _ _ _ ⟨rfl, rfl, ⟨-, rfl⟩ | ⟨hpc', rfl⟩⟩
  rotate_left
  · exfalso; simp at hpc'; omega
  refine WT_t (by simp; omega) ?_
  refine WT_elem (insD ⟨10, ia, ib, ic⟩) (by simp [hi2]) ?_
  refine WT_t rfl ?_
  refine WT_t rfl ?_
  refine WT_sub (need_ok _ _ _ _) ?_
  rintro _ _ _ ⟨rfl, rfl, ⟨-, rfl⟩ | ⟨hno, rfl⟩⟩
  rotate_left
  · exfalso; simp at hno
  refine WT_t rfl ?_
  refine WT_sub hS ?_
  rintro r h' nx' hD
  cases s with
  | none =>
    obtain ⟨rfl, rfl, y, ask, rfl⟩ := hD
    exact WT_throw (hpan _ _ _ 1 rfl rfl rfl (amissH c b f y ask ⟨10, ia, ib, ic⟩ [] 19 1) (by rw [run_step hrun hx.sp1 hpc3, hi, hst]))
  | some p =>
    obtain ⟨g, a⟩ := p
    obtain ⟨rfl, rfl, y, rfl, hmy, rfl⟩ := hD
    have hnx := loop_next (f0 := f) hx hv hpc2.2 hrun (by rw [hi]; exact hst) hmy (step_kind4 hst (by show (10 : Int) ≠ 13; decide))
    exact WT_again (.at y a) hnx.1 hnx.2 (Weak.eqs [] (by kernel_rfl) (by kernel_rfl) (by kernel_rfl) (by kernel_rfl) (by kernel_rfl) (by kernel_rfl) (by kernel_rfl) (by kernel_rfl) (by kernel_rfl) (by kernel_rfl))

set_option maxRecDepth 100000 in
set_option maxHeartbeats 2000000 in
theorem rnd11 (c : Code) (b : Body) (f : Frame) (o : Out) (x : LX) (hm : Mid c b x) (hv : Vals x.f) (hrun : runN c b (fuelF x.f) x.f = o) (Q : MExit → St → Prop) (hpan : PanQ f o Q) (hx : Inv c b x) (hpc2 : 0 ≤ x.f.pc ∧ x.f.pc < b.ins.length) (ia ib ic : Int) (hi : insAt b x.f = ⟨11, ia, ib, ic⟩) : WT Try.prog (LoopQ (loopSt c b f) (loopInv c b f o) loopMu (.at x ask0) Q) (exec loopBody (loopSt c b f (.at x ask0)) Tree.done) := by
  have hs1 : stepS c b x.f ⟨11, ia, ib, ic⟩ = sCall c x.f ⟨11, ia, ib, ic⟩ := rfl
  have hS := SatC.dup (k := 18) (a := .var (insV ⟨11, ia, ib, ic⟩)) (z := .var [.d (I 0), .d (I 0), .d (I 0), .d (I 0)]) (h := loopHeap c b f x noAsk) (i_call c b f x ⟨11, ia, ib, ic⟩ hx)
  rw [← hs1] at hS
  obtain ⟨s, hst⟩ : ∃ s, stepS c b x.f ⟨11, ia, ib, ic⟩ = s := ⟨_, rfl⟩
  rw [hst] at hS
  have hpc3 : below x.f.pc b.ins.length = true := by simpa [below] using hpc2
  have h := hx.sp1
  have hi2 : b.ins[x.f.pc.toNat]? = some ⟨11, ia, ib, ic⟩ := by
    have e : x.f.pc.toNat < b.ins.length := by omega
    rw [← hi]; simp [insAt, e]
  refine WT_t rfl ?_
  refine WT_f (by simp; omega) ?_
  refine WT_call _ (s25 _ _) ?_
  refine WT_sub (need_ok _ _ _ _) ?_
  rintro _ _ _ ⟨rfl, rfl, ⟨-, rfl⟩ | ⟨hpc', rfl⟩⟩
  rotate_left
  · exfalso; simp at hpc'; omega
  refine WT_t (by simp; omega) ?_
  refine WT_elem (insD ⟨11, ia, ib, ic⟩) (by simp [hi2]) ?_
  refine WT_t rfl ?_
  refine WT_t rfl ?_
  refine WT_sub (need_ok _ _ _ _) ?_
  rintro _ _ _ ⟨rfl, rfl, ⟨-, rfl⟩ | ⟨hno, rfl⟩⟩
  rotate_left
  · exfalso; simp at hno
  refine WT_t rfl ?_
  refine WT_sub hS ?_
  rintro r h' nx' hD
  cases s with
  | none =>
    obtain ⟨rfl, rfl, y, ask, rfl⟩ := hD
    exact WT_throw (hpan _ _ _ 1 rfl rfl rfl (amissH c b f y ask ⟨11, ia, ib, ic⟩ [] 19 1) (by rw [run_step hrun hx.sp1 hpc3, hi, hst]))
  | some p =>
    obtain ⟨g, a⟩ := p
    obtain ⟨rfl, rfl, y, rfl, hmy, rfl⟩ := hD
    have hnx := loop_next (f0 := f) hx hv hpc2.2 hrun (by rw [hi]; exact hst) hmy (step_kind4 hst (by show (11 : Int) ≠ 13; decide))
    exact WT_again (.at y a) hnx.1 hnx.2 (Weak.eqs [] (by kernel_rfl) (by kernel_rfl) (by kernel_rfl) (by kernel_rfl) (by kernel_rfl) (by kernel_rfl) (by kernel_rfl) (by kernel_rfl) (by kernel_rfl) (by kernel_rfl))

set_option maxRecDepth 100000 in
set_option maxHeartbeats 2000000 in
theorem rnd12 (c : Code) (b : Body) (f : Frame) (o : Out) (x : LX) (hm : Mid c b x) (hv : Vals x.f) (hrun : runN c b (fuelF x.f) x.f = o) (Q : MExit → St → Prop) (hpan : PanQ f o Q) (hx : Inv c b x) (hpc2 : 0 ≤ x.f.pc ∧ x.f.pc < b.ins.length) (ia ib ic : Int) (hi : insAt b x.f = ⟨12, ia, ib, ic⟩) : WT Try.prog (LoopQ (loopSt c b f) (loopInv c b f o) loopMu (.at x ask0) Q) (exec loopBody (loopSt c b f (.at x ask0)) Tree.done) := by
  have hs1 : stepS c b x.f ⟨12, ia, ib, ic⟩ = sDrop x.f := rfl
  have hS := SatC.dup (k := 18) (a := .var (insV ⟨12, ia, ib, ic⟩)) (z := .var [.d (I 0), .d (I 0), .d (I 0), .d (I 0)]) (h := loopHeap c b f x noAsk) (i_drop c b f x ⟨12, ia, ib, ic⟩ hx)
  rw [← hs1] at hS
  obtain ⟨s, hst⟩ : ∃ s, stepS c b x.f ⟨12, ia, ib, ic⟩ = s := ⟨_, rfl⟩
  rw [hst] at hS
  have hpc3 : below x.f.pc b.ins.length = true := by simpa [below] using hpc2
  have h := hx.sp1
  have hi2 : b.ins[x.f.pc.toNat]? = some ⟨12, ia, ib, ic⟩ := by
    have e : x.f.pc.toNat < b.ins.length := by omega
    rw [← hi]; simp [insAt, e]
  refine WT_t rfl ?_
  refine WT_f (by simp; omega) ?_
  refine WT_call _ (s25 _ _) ?_
  refine WT_sub (need_ok _ _ _ _) ?_
  rintro _ _ _ ⟨rfl, rfl, ⟨-, rfl⟩ | ⟨hpc', rfl⟩⟩
  rotate_left
  · exfalso; simp at hpc'; omega
  refine WT_t (by simp; omega) ?_
  refine WT_elem (insD ⟨12, ia, ib, ic⟩) (by simp [hi2]) ?_
  refine WT_t rfl ?_
  refine WT_t rfl ?_
  refine WT_sub (need_ok _ _ _ _) ?_
  rintro _ _ _ ⟨rfl, rfl, ⟨-, rfl⟩ | ⟨hno, rfl⟩⟩
  rotate_left
  · exfalso; simp at hno
  refine WT_t rfl ?_
  refine WT_sub hS ?_
  rintro r h' nx' hD
  cases s with
  | none =>
    obtain ⟨rfl, rfl, y, ask, rfl⟩ := hD
    exact WT_throw (hpan _ _ _ 1 rfl rfl rfl (amissH c b f y ask ⟨12, ia, ib, ic⟩ [] 19 1) (by rw [run_step hrun hx.sp1 hpc3, hi, hst]))
  | some p =>
    obtain ⟨g, a⟩ := p
    obtain ⟨rfl, rfl, y, rfl, hmy, rfl⟩ := hD
    have hnx := loop_next (f0 := f) hx hv hpc2.2 hrun (by rw [hi]; exact hst) hmy (step_kind4 hst (by show (12 : Int) ≠ 13; decide))
    exact WT_again (.at y a) hnx.1 hnx.2 (Weak.eqs [] (by kernel_rfl) (by kernel_rfl) (by kernel_rfl) (by kernel_rfl) (by kernel_rfl) (by kernel_rfl) (by kernel_rfl) (by kernel_rfl) (by kernel_rfl) (by kernel_rfl))

set_option maxRecDepth 100000 in
set_option maxHeartbeats 2000000 in
theorem rnd13 (c : Code) (b : Body) (f : Frame) (o : Out) (x : LX) (hm : Mid c b x) (hv : Vals x.f) (hrun : runN c b (fuelF x.f) x.f = o) (Q : MExit → St → Prop) (hpan : PanQ f o Q) (hx : Inv c b x) (hpc2 : 0 ≤ x.f.pc ∧ x.f.pc < b.ins.length) (ia ib ic : Int) (hi : insAt b x.f = ⟨13, ia, ib, ic⟩) : WT Try.prog (LoopQ (loopSt c b f) (loopInv c b f o) loopMu (.at x ask0) Q) (exec loopBody (loopSt c b f (.at x ask0)) Tree.done) := by
  have hs1 : stepS c b x.f ⟨13, ia, ib, ic⟩ = sSpawn c x.f ⟨13, ia, ib, ic⟩ := rfl
  have hS := SatC.dup (k := 18) (a := .var (insV ⟨13, ia, ib, ic⟩)) (z := .var [.d (I 0), .d (I 0), .d (I 0), .d (I 0)]) (h := loopHeap c b f x noAsk) (i_spawn c b f x ⟨13, ia, ib, ic⟩ hx)
  rw [← hs1] at hS
  obtain ⟨s, hst⟩ : ∃ s, stepS c b x.f ⟨13, ia, ib, ic⟩ = s := ⟨_, rfl⟩
  rw [hst] at hS
  have hpc3 : below x.f.pc b.ins.length = true := by simpa [below] using hpc2
  have h := hx.sp1
  have hi2 : b.ins[x.f.pc.toNat]? = some ⟨13, ia, ib, ic⟩ := by
    have e : x.f.pc.toNat < b.ins.length := by omega
    rw [← hi]; simp [insAt, e]
  refine WT_t rfl ?_
  refine WT_f (by simp; omega) ?_
  refine WT_call _ (s25 _ _) ?_
  refine WT_sub (need_ok _ _ _ _) ?_
  rintro _ _ _ ⟨rfl, rfl, ⟨-, rfl⟩ | ⟨hpc', rfl⟩⟩
  rotate_left
  · exfalso; simp at hpc'; omega
  refine WT_t (by simp; omega) ?_
  refine WT_elem (insD ⟨13, ia, ib, ic⟩) (by simp [hi2]) ?_
  refine WT_t rfl ?_
  refine WT_t rfl ?_
  refine WT_sub (need_ok _ _ _ _) ?_
  rintro _ _ _ ⟨rfl, rfl, ⟨-, rfl⟩ | ⟨hno, rfl⟩⟩
  rotate_left
  · exfalso; simp at hno
  refine WT_t rfl ?_
  refine WT_sub hS ?_
  rintro r h' nx' hD
  cases s with
  | none =>
    obtain ⟨rfl, rfl, y, ask, rfl⟩ := hD
    exact WT_throw (hpan _ _ _ 1 rfl rfl rfl (amissH c b f y ask ⟨13, ia, ib, ic⟩ [] 19 1) (by rw [run_step hrun hx.sp1 hpc3, hi, hst]))
  | some p =>
    obtain ⟨g, a⟩ := p
    obtain ⟨rfl, rfl, y, rfl, hmy, rfl⟩ := hD
    have hk := step_kind13 (b := b) (hs1.symm.trans hst)
    have ho' : o = .ok y.f a := by rw [run_step hrun hx.sp1 hpc3, hi, hst]; simp [hk]
    exact WT_again (LS.spawned y a) (show loopInv c b f o (LS.spawned y a) from ⟨hmy, step_vals hv hst, hk, ho'⟩) (by simp [loopMu, ask0]) (Weak.eqs [(18, 19)] (by kernel_rfl) (by kernel_rfl) (by kernel_rfl) (by kernel_rfl) (by kernel_rfl) (by kernel_rfl) (by kernel_rfl) (by kernel_rfl) (by kernel_rfl) (by kernel_rfl))

set_option maxRecDepth 100000 in
set_option maxHeartbeats 2000000 in
theorem rnd14 (c : Code) (b : Body) (f : Frame) (o : Out) (x : LX) (hm : Mid c b x) (hv : Vals x.f) (hrun : runN c b (fuelF x.f) x.f = o) (Q : MExit → St → Prop) (hpan : PanQ f o Q) (hx : Inv c b x) (hpc2 : 0 ≤ x.f.pc ∧ x.f.pc < b.ins.length) (ia ib ic : Int) (hi : insAt b x.f = ⟨14, ia, ib, ic⟩) : WT Try.prog (LoopQ (loopSt c b f) (loopInv c b f o) loopMu (.at x ask0) Q) (exec loopBody (loopSt c b f (.at x ask0)) Tree.done) := by
  have hs1 : stepS c b x.f ⟨14, ia, ib, ic⟩ = sSync x.f := rfl
  have hS := SatC.dup (k := 18) (a := .var (insV ⟨14, ia, ib, ic⟩)) (z := .var [.d (I 0), .d (I 0), .d (I 0), .d (I 0)]) (h := loopHeap c b f x noAsk) (i_sync c b f x ⟨14, ia, ib, ic⟩ hx)
  rw [← hs1] at hS
  obtain ⟨s, hst⟩ : ∃ s, stepS c b x.f ⟨14, ia, ib, ic⟩ = s := ⟨_, rfl⟩
  rw [hst] at hS
  have hpc3 : below x.f.pc b.ins.length = true := by simpa [below] using hpc2
  have h := hx.sp1
  have hi2 : b.ins[x.f.pc.toNat]? = some ⟨14, ia, ib, ic⟩ := by
    have e : x.f.pc.toNat < b.ins.length := by omega
    rw [← hi]; simp [insAt, e]
  refine WT_t rfl ?_
  refine WT_f (by simp; omega) ?_
  refine WT_call _ (s25 _ _) ?_
  refine WT_sub (need_ok _ _ _ _) ?_
  rintro _ _ _ ⟨rfl, rfl, ⟨-, rfl⟩ | ⟨hpc', rfl⟩⟩
  rotate_left
  · exfalso; simp at hpc'; omega
  refine WT_t (by simp; omega) ?_
  refine WT_elem (insD ⟨14, ia, ib, ic⟩) (by simp [hi2]) ?_
  refine WT_t rfl ?_
  refine WT_t rfl ?_
  refine WT_sub (need_ok _ _ _ _) ?_
  rintro _ _ _ ⟨rfl, rfl, ⟨-, rfl⟩ | ⟨hno, rfl⟩⟩
  rotate_left
  · exfalso; simp at hno
  refine WT_t rfl ?_
  refine WT_sub hS ?_
  rintro r h' nx' hD
  cases s with
  | none =>
    obtain ⟨rfl, rfl, y, ask, rfl⟩ := hD
    exact WT_throw (hpan _ _ _ 1 rfl rfl rfl (amissH c b f y ask ⟨14, ia, ib, ic⟩ [] 19 1) (by rw [run_step hrun hx.sp1 hpc3, hi, hst]))
  | some p =>
    obtain ⟨g, a⟩ := p
    obtain ⟨rfl, rfl, y, rfl, hmy, rfl⟩ := hD
    have hnx := loop_next (f0 := f) hx hv hpc2.2 hrun (by rw [hi]; exact hst) hmy (step_kind4 hst (by show (14 : Int) ≠ 13; decide))
    exact WT_again (.at y a) hnx.1 hnx.2 (Weak.eqs [] (by kernel_rfl) (by kernel_rfl) (by kernel_rfl) (by kernel_rfl) (by kernel_rfl) (by kernel_rfl) (by kernel_rfl) (by kernel_rfl) (by kernel_rfl) (by kernel_rfl))

set_option maxRecDepth 100000 in
set_option maxHeartbeats 2000000 in
theorem rnd15 (c : Code) (b : Body) (f : Frame) (o : Out) (x : LX) (hm : Mid c b x) (hv : Vals x.f) (hrun : runN c b (fuelF x.f) x.f = o) (Q : MExit → St → Prop) (hpan : PanQ f o Q) (hx : Inv c b x) (hpc2 : 0 ≤ x.f.pc ∧ x.f.pc < b.ins.length) (ia ib ic : Int) (hi : insAt b x.f = ⟨15, ia, ib, ic⟩) : WT Try.prog (LoopQ (loopSt c b f) (loopInv c b f o) loopMu (.at x ask0) Q) (exec loopBody (loopSt c b f (.at x ask0)) Tree.done) := by
  have hs1 : stepS c b x.f ⟨15, ia, ib, ic⟩ = sJump b x.f ⟨15, ia, ib, ic⟩ := rfl
  have hS := SatC.dup (k := 18) (a := .var (insV ⟨15, ia, ib, ic⟩)) (z := .var [.d (I 0), .d (I 0), .d (I 0), .d (I 0)]) (h := loopHeap c b f x noAsk) (i_jump c b f x ⟨15, ia, ib, ic⟩ hx)
  rw [← hs1] at hS
  obtain ⟨s, hst⟩ : ∃ s, stepS c b x.f ⟨15, ia, ib, ic⟩ = s := ⟨_, rfl⟩
  rw [hst] at hS
  have hpc3 : below x.f.pc b.ins.length = true := by simpa [below] using hpc2
  have h := hx.sp1
  have hi2 : b.ins[x.f.pc.toNat]? = some ⟨15, ia, ib, ic⟩ := by
    have e : x.f.pc.toNat < b.ins.length := by omega
    rw [← hi]; simp [insAt, e]
  refine WT_t rfl ?_
  refine WT_f (by simp; omega) ?_
  refine WT_call _ (s25 _ _) ?_
  refine WT_sub (need_ok _ _ _ _) ?_
  rintro _ _ _ ⟨rfl, rfl, ⟨-, rfl⟩ | ⟨hpc', rfl⟩⟩
  rotate_left
  · exfalso; simp at hpc'; omega
  refine WT_t (by simp; omega) ?_
  refine WT_elem (insD ⟨15, ia, ib, ic⟩) (by simp [hi2]) ?_
  refine WT_t rfl ?_
  refine WT_t rfl ?_
  refine WT_sub (need_ok _ _ _ _) ?_
  rintro _ _ _ ⟨rfl, rfl, ⟨-, rfl⟩ | ⟨hno, rfl⟩⟩
  rotate_left
  · exfalso; simp at hno
  refine WT_t rfl ?_
  refine WT_sub hS ?_
  rintro r h' nx' hD
  cases s with
  | none =>
    obtain ⟨rfl, rfl, y, ask, rfl⟩ := hD
    exact WT_throw (hpan _ _ _ 1 rfl rfl rfl (amissH c b f y ask ⟨15, ia, ib, ic⟩ [] 19 1) (by rw [run_step hrun hx.sp1 hpc3, hi, hst]))
  | some p =>
    obtain ⟨g, a⟩ := p
    obtain ⟨rfl, rfl, y, rfl, hmy, rfl⟩ := hD
    have hnx := loop_next (f0 := f) hx hv hpc2.2 hrun (by rw [hi]; exact hst) hmy (step_kind4 hst (by show (15 : Int) ≠ 13; decide))
    exact WT_again (.at y a) hnx.1 hnx.2 (Weak.eqs [] (by kernel_rfl) (by kernel_rfl) (by kernel_rfl) (by kernel_rfl) (by kernel_rfl) (by kernel_rfl) (by kernel_rfl) (by kernel_rfl) (by kernel_rfl) (by kernel_rfl))

set_option maxRecDepth 100000 in
set_option maxHeartbeats 2000000 in
theorem rnd16 (c : Code) (b : Body) (f : Frame) (o : Out) (x : LX) (hm : Mid c b x) (hv : Vals x.f) (hrun : runN c b (fuelF x.f) x.f = o) (Q : MExit → St → Prop) (hpan : PanQ f o Q) (hx : Inv c b x) (hpc2 : 0 ≤ x.f.pc ∧ x.f.pc < b.ins.length) (ia ib ic : Int) (hi : insAt b x.f = ⟨16, ia, ib, ic⟩) : WT Try.prog (LoopQ (loopSt c b f) (loopInv c b f o) loopMu (.at x ask0) Q) (exec loopBody (loopSt c b f (.at x ask0)) Tree.done) := by
  have hs1 : stepS c b x.f ⟨16, ia, ib, ic⟩ = sZero b x.f ⟨16, ia, ib, ic⟩ := rfl
  have hS := SatC.dup (k := 18) (a := .var (insV ⟨16, ia, ib, ic⟩)) (z := .var [.d (I 0), .d (I 0), .d (I 0), .d (I 0)]) (h := loopHeap c b f x noAsk) (i_zero c b f x ⟨16, ia, ib, ic⟩ hx)
  rw [← hs1] at hS
  obtain ⟨s, hst⟩ : ∃ s, stepS c b x.f ⟨16, ia, ib, ic⟩ = s := ⟨_, rfl⟩
  rw [hst] at hS
  have hpc3 : below x.f.pc b.ins.length = true := by simpa [below] using hpc2
  have h := hx.sp1
  have hi2 : b.ins[x.f.pc.toNat]? = some ⟨16, ia, ib, ic⟩ := by
    have e : x.f.pc.toNat < b.ins.length := by omega
    rw [← hi]; simp [insAt, e]
  refine WT_t rfl ?_
  refine WT_f (by simp; omega) ?_
  refine WT_call _ (s25 _ _) ?_
  refine WT_sub (need_ok _ _ _ _) ?_
  rintro _ _ _ ⟨rfl, rfl, ⟨-, rfl⟩ | ⟨hpc', rfl⟩⟩
  rotate_left
  · exfalso; simp at hpc'; omega
  refine WT_t (by simp; omega) ?_
  refine WT_elem (insD ⟨16, ia, ib, ic⟩) (by simp [hi2]) ?_
  refine WT_t rfl ?_
  refine WT_t rfl ?_
  refine WT_sub (need_ok _ _ _ _) ?_
  rintro _ _ _ ⟨rfl, rfl, ⟨-, rfl⟩ | ⟨hno, rfl⟩⟩
  rotate_left
  · exfalso; simp at hno
  refine WT_t rfl ?_
  refine WT_sub hS ?_
  rintro r h' nx' hD
  cases s with
  | none =>
    obtain ⟨rfl, rfl, y, ask, rfl⟩ := hD
    exact WT_throw (hpan _ _ _ 1 rfl rfl rfl (amissH c b f y ask ⟨16, ia, ib, ic⟩ [] 19 1) (by rw [run_step hrun hx.sp1 hpc3, hi, hst]))
  | some p =>
    obtain ⟨g, a⟩ := p
    obtain ⟨rfl, rfl, y, rfl, hmy, rfl⟩ := hD
    have hnx := loop_next (f0 := f) hx hv hpc2.2 hrun (by rw [hi]; exact hst) hmy (step_kind4 hst (by show (16 : Int) ≠ 13; decide))
    exact WT_again (.at y a) hnx.1 hnx.2 (Weak.eqs [] (by kernel_rfl) (by kernel_rfl) (by kernel_rfl) (by kernel_rfl) (by kernel_rfl) (by kernel_rfl) (by kernel_rfl) (by kernel_rfl) (by kernel_rfl) (by kernel_rfl))

set_option maxRecDepth 100000 in
set_option maxHeartbeats 2000000 in
theorem rnd17 (c : Code) (b : Body) (f : Frame) (o : Out) (x : LX) (hm : Mid c b x) (hv : Vals x.f) (hrun : runN c b (fuelF x.f) x.f = o) (Q : MExit → St → Prop) (hpan : PanQ f o Q) (hx : Inv c b x) (hpc2 : 0 ≤ x.f.pc ∧ x.f.pc < b.ins.length) (ia ib ic : Int) (hi : insAt b x.f = ⟨17, ia, ib, ic⟩) : WT Try.prog (LoopQ (loopSt c b f) (loopInv c b f o) loopMu (.at x ask0) Q) (exec loopBody (loopSt c b f (.at x ask0)) Tree.done) := by
  have hs1 : stepS c b x.f ⟨17, ia, ib, ic⟩ = sEnd x.f := rfl
  have hS := SatC.dup (k := 18) (a := .var (insV ⟨17, ia, ib, ic⟩)) (z := .var [.d (I 0), .d (I 0), .d (I 0), .d (I 0)]) (h := loopHeap c b f x noAsk) (i_end c b f x ⟨17, ia, ib, ic⟩ hx)
  rw [← hs1] at hS
  obtain ⟨s, hst⟩ : ∃ s, stepS c b x.f ⟨17, ia, ib, ic⟩ = s := ⟨_, rfl⟩
  rw [hst] at hS
  have hpc3 : below x.f.pc b.ins.length = true := by simpa [below] using hpc2
  have h := hx.sp1
  have hi2 : b.ins[x.f.pc.toNat]? = some ⟨17, ia, ib, ic⟩ := by
    have e : x.f.pc.toNat < b.ins.length := by omega
    rw [← hi]; simp [insAt, e]
  refine WT_t rfl ?_
  refine WT_f (by simp; omega) ?_
  refine WT_call _ (s25 _ _) ?_
  refine WT_sub (need_ok _ _ _ _) ?_
  rintro _ _ _ ⟨rfl, rfl, ⟨-, rfl⟩ | ⟨hpc', rfl⟩⟩
  rotate_left
  · exfalso; simp at hpc'; omega
  refine WT_t (by simp; omega) ?_
  refine WT_elem (insD ⟨17, ia, ib, ic⟩) (by simp [hi2]) ?_
  refine WT_t rfl ?_
  refine WT_t rfl ?_
  refine WT_sub (need_ok _ _ _ _) ?_
  rintro _ _ _ ⟨rfl, rfl, ⟨-, rfl⟩ | ⟨hno, rfl⟩⟩
  rotate_left
  · exfalso; simp at hno
  refine WT_t rfl ?_
  refine WT_sub hS ?_
  rintro r h' nx' hD
  cases s with
  | none =>
    obtain ⟨rfl, rfl, y, ask, rfl⟩ := hD
    exact WT_throw (hpan _ _ _ 1 rfl rfl rfl (amissH c b f y ask ⟨17, ia, ib, ic⟩ [] 19 1) (by rw [run_step hrun hx.sp1 hpc3, hi, hst]))
  | some p =>
    obtain ⟨g, a⟩ := p
    obtain ⟨rfl, rfl, y, rfl, hmy, rfl⟩ := hD
    have hnx := loop_next (f0 := f) hx hv hpc2.2 hrun (by rw [hi]; exact hst) hmy (step_kind4 hst (by show (17 : Int) ≠ 13; decide))
    exact WT_again (.at y a) hnx.1 hnx.2 (Weak.eqs [] (by kernel_rfl) (by kernel_rfl) (by kernel_rfl) (by kernel_rfl) (by kernel_rfl) (by kernel_rfl) (by kernel_rfl) (by kernel_rfl) (by kernel_rfl) (by kernel_rfl))

set_option maxRecDepth 100000 in
set_option maxHeartbeats 2000000 in
theorem rnd18 (c : Code) (b : Body) (f : Frame) (o : Out) (x : LX) (hm : Mid c b x) (hv : Vals x.f) (hrun : runN c b (fuelF x.f) x.f = o) (Q : MExit → St → Prop) (hpan : PanQ f o Q) (hx : Inv c b x) (hpc2 : 0 ≤ x.f.pc ∧ x.f.pc < b.ins.length) (ia ib ic : Int) (hi : insAt b x.f = ⟨18, ia, ib, ic⟩) : WT Try.prog (LoopQ (loopSt c b f) (loopInv c b f o) loopMu (.at x ask0) Q) (exec loopBody (loopSt c b f (.at x ask0)) Tree.done) := by
  have hs1 : stepS c b x.f ⟨18, ia, ib, ic⟩ = sAssert x.f := rfl
  have hS := SatC.dup (k := 18) (a := .var (insV ⟨18, ia, ib, ic⟩)) (z := .var [.d (I 0), .d (I 0), .d (I 0), .d (I 0)]) (h := loopHeap c b f x noAsk) (i_assert c b f x ⟨18, ia, ib, ic⟩ hx)
  rw [← hs1] at hS
  obtain ⟨s, hst⟩ : ∃ s, stepS c b x.f ⟨18, ia, ib, ic⟩ = s := ⟨_, rfl⟩
  rw [hst] at hS
  have hpc3 : below x.f.pc b.ins.length = true := by simpa [below] using hpc2
  have h := hx.sp1
  have hi2 : b.ins[x.f.pc.toNat]? = some ⟨18, ia, ib, ic⟩ := by
    have e : x.f.pc.toNat < b.ins.length := by omega
    rw [← hi]; simp [insAt, e]
  refine WT_t rfl ?_
  refine WT_f (by simp; omega) ?_
  refine WT_call _ (s25 _ _) ?_
  refine WT_sub (need_ok _ _ _ _) ?_
  rintro _ _ _ ⟨rfl, rfl, ⟨-, rfl⟩ | ⟨hpc', rfl⟩⟩
  rotate_left
  · exfalso; simp at hpc'; omega
  refine WT_t (by simp; omega) ?_
  refine WT_elem (insD ⟨18, ia, ib, ic⟩) (by simp [hi2]) ?_
  refine WT_t rfl ?_
  refine WT_t rfl ?_
  refine WT_sub (need_ok _ _ _ _) ?_
  rintro _ _ _ ⟨rfl, rfl, ⟨-, rfl⟩ | ⟨hno, rfl⟩⟩
  rotate_left
  · exfalso; simp at hno
  refine WT_t rfl ?_
  refine WT_sub hS ?_
  rintro r h' nx' hD
  cases s with
  | none =>
    obtain ⟨rfl, rfl, y, ask, rfl⟩ := hD
    exact WT_throw (hpan _ _ _ 1 rfl rfl rfl (amissH c b f y ask ⟨18, ia, ib, ic⟩ [] 19 1) (by rw [run_step hrun hx.sp1 hpc3, hi, hst]))
  | some p =>
    obtain ⟨g, a⟩ := p
    obtain ⟨rfl, rfl, y, rfl, hmy, rfl⟩ := hD
    have hnx := loop_next (f0 := f) hx hv hpc2.2 hrun (by rw [hi]; exact hst) hmy (step_kind4 hst (by show (18 : Int) ≠ 13; decide))
    exact WT_again (.at y a) hnx.1 hnx.2 (Weak.eqs [] (by kernel_rfl) (by kernel_rfl) (by kernel_rfl) (by kernel_rfl) (by kernel_rfl) (by kernel_rfl) (by kernel_rfl) (by kernel_rfl) (by kernel_rfl) (by kernel_rfl))

set_option maxRecDepth 100000 in
set_option maxHeartbeats 2000000 in
theorem rnd19 (c : Code) (b : Body) (f : Frame) (o : Out) (x : LX) (hm : Mid c b x) (hv : Vals x.f) (hrun : runN c b (fuelF x.f) x.f = o) (Q : MExit → St → Prop) (hpan : PanQ f o Q) (hx : Inv c b x) (hpc2 : 0 ≤ x.f.pc ∧ x.f.pc < b.ins.length) (ia ib ic : Int) (hi : insAt b x.f = ⟨19, ia, ib, ic⟩) : WT Try.prog (LoopQ (loopSt c b f) (loopInv c b f o) loopMu (.at x ask0) Q) (exec loopBody (loopSt c b f (.at x ask0)) Tree.done) := by
  have hs1 : stepS c b x.f ⟨19, ia, ib, ic⟩ = sReckon (fun x y => (x + y) / 2) x.f := rfl
  have hS := SatC.dup (k := 18) (a := .var (insV ⟨19, ia, ib, ic⟩)) (z := .var [.d (I 0), .d (I 0), .d (I 0), .d (I 0)]) (h := loopHeap c b f x noAsk) (i_half c b f x ⟨19, ia, ib, ic⟩ hx hv.pop.top hv.top)
  rw [← hs1] at hS
  obtain ⟨s, hst⟩ : ∃ s, stepS c b x.f ⟨19, ia, ib, ic⟩ = s := ⟨_, rfl⟩
  rw [hst] at hS
  have hpc3 : below x.f.pc b.ins.length = true := by simpa [below] using hpc2
  have h := hx.sp1
  have hi2 : b.ins[x.f.pc.toNat]? = some ⟨19, ia, ib, ic⟩ := by
    have e : x.f.pc.toNat < b.ins.length := by omega
    rw [← hi]; simp [insAt, e]
  refine WT_t rfl ?_
  refine WT_f (by simp; omega) ?_
  refine WT_call _ (s25 _ _) ?_
  refine WT_sub (need_ok _ _ _ _) ?_
  rintro _ _ _ ⟨rfl, rfl, ⟨-, rfl⟩ | ⟨hpc', rfl⟩⟩
  rotate_left
  · exfalso; simp at hpc'; omega
  refine WT_t (by simp; omega) ?_
  refine WT_elem (insD ⟨19, ia, ib, ic⟩) (by simp [hi2]) ?_
  refine WT_t rfl ?_
  refine WT_t rfl ?_
  refine WT_sub (need_ok _ _ _ _) ?_
  rintro _ _ _ ⟨rfl, rfl, ⟨-, rfl⟩ | ⟨hno, rfl⟩⟩
  rotate_left
  · exfalso; simp at hno
  refine WT_t rfl ?_
  refine WT_sub hS ?_
  rintro r h' nx' hD
  cases s with
  | none =>
    obtain ⟨rfl, rfl, y, ask, rfl⟩ := hD
    exact WT_throw (hpan _ _ _ 1 rfl rfl rfl (amissH c b f y ask ⟨19, ia, ib, ic⟩ [] 19 1) (by rw [run_step hrun hx.sp1 hpc3, hi, hst]))
  | some p =>
    obtain ⟨g, a⟩ := p
    obtain ⟨rfl, rfl, y, rfl, hmy, rfl⟩ := hD
    have hnx := loop_next (f0 := f) hx hv hpc2.2 hrun (by rw [hi]; exact hst) hmy (step_kind4 hst (by show (19 : Int) ≠ 13; decide))
    exact WT_again (.at y a) hnx.1 hnx.2 (Weak.eqs [] (by kernel_rfl) (by kernel_rfl) (by kernel_rfl) (by kernel_rfl) (by kernel_rfl) (by kernel_rfl) (by kernel_rfl) (by kernel_rfl) (by kernel_rfl) (by kernel_rfl))

set_option maxRecDepth 100000 in
set_option maxHeartbeats 2000000 in
theorem rndOp (c : Code) (b : Body) (f : Frame) (o : Out) (x : LX) (hm : Mid c b x) (hv : Vals x.f) (hrun : runN c b (fuelF x.f) x.f = o) (Q : MExit → St → Prop) (hpan : PanQ f o Q) (hx : Inv c b x) (hpc2 : 0 ≤ x.f.pc ∧ x.f.pc < b.ins.length) (op ia ib ic : Int) (hi : insAt b x.f = ⟨op, ia, ib, ic⟩) (hop : op < 1 ∨ 19 < op) : WT Try.prog (LoopQ (loopSt c b f) (loopInv c b f o) loopMu (.at x ask0) Q) (exec loopBody (loopSt c b f (.at x ask0)) Tree.done) := by
  have hst : stepS c b x.f ⟨op, ia, ib, ic⟩ = none := step_cases (fun o => o = none) (fun e => by simp at e; omega) (fun e => by simp at e; omega) (fun e => by simp at e; omega) (fun e => by simp at e; omega) (fun e => by simp at e; omega) (fun e => by simp at e; omega) (fun e => by simp at e; omega) (fun e => by simp at e; omega) (fun e => by simp at e; omega) (fun e => by simp at e; omega) (fun e => by simp at e; omega) (fun e => by simp at e; omega) (fun e => by simp at e; omega) (fun e => by simp at e; omega) (fun e => by simp at e; omega) (fun e => by simp at e; omega) (fun e => by simp at e; omega) (fun e => by simp at e; omega) (fun e => by simp at e; omega) (fun _ => rfl)
  have hpc3 : below x.f.pc b.ins.length = true := by simpa [below] using hpc2
  have h := hx.sp1
  have hi2 : b.ins[x.f.pc.toNat]? = some ⟨op, ia, ib, ic⟩ := by
    have e : x.f.pc.toNat < b.ins.length := by omega
    rw [← hi]; simp [insAt, e]
  refine WT_t rfl ?_
  refine WT_f (by simp; omega) ?_
  refine WT_call _ (s25 _ _) ?_
  refine WT_sub (need_ok _ _ _ _) ?_
  rintro _ _ _ ⟨rfl, rfl, ⟨-, rfl⟩ | ⟨hpc', rfl⟩⟩
  rotate_left
  · exfalso; simp at hpc'; omega
  refine WT_t (by simp; omega) ?_
  refine WT_elem (insD ⟨op, ia, ib, ic⟩) (by simp [hi2]) ?_
  have ho' : o = .err 1 := by rw [run_step hrun hx.sp1 hpc3, hi, hst]
  by_cases hop1 : 1 ≤ op
  · refine WT_t (by simp; omega) ?_
    refine WT_t rfl ?_
    refine WT_sub (need_ok _ _ _ _) ?_
    rintro _ _ _ ⟨rfl, rfl, ⟨hno, rfl⟩ | ⟨hno, rfl⟩⟩
    · exfalso; simp at hno; omega
    · exact WT_throw (hpan _ _ _ 1 rfl rfl rfl (amissD c b f x noAsk ⟨op, ia, ib, ic⟩ [.d (I 0), .d (I 0), .d (I 0), .d (I 0)] 19 1) ho')
  · refine WT_f (by simp; omega) ?_
    refine WT_f rfl ?_
    refine WT_sub (need_ok _ _ _ _) ?_
    rintro _ _ _ ⟨rfl, rfl, ⟨hno, rfl⟩ | ⟨hno, rfl⟩⟩
    · exfalso; simp at hno
    · exact WT_throw (hpan _ _ _ 1 rfl rfl rfl (amissD c b f x noAsk ⟨op, ia, ib, ic⟩ [.d (I 0), .d (I 0), .d (I 0), .d (I 0)] 19 1) ho')

theorem rnd (c : Code) (b : Body) (f : Frame) (o : Out) (x : LX) (hm : Mid c b x) (hv : Vals x.f) (hrun : runN c b (fuelF x.f) x.f = o) (Q : MExit → St → Prop) (hpan : PanQ f o Q) (h1 : b.ins.length < 1000) (h2 : c.funs.length < 1000) (h3 : c.cells.length < 1000) : WT Try.prog (LoopQ (loopSt c b f) (loopInv c b f o) loopMu (.at x ask0) Q) (exec loopBody (loopSt c b f (.at x ask0)) Tree.done) := by
  have q1 := hm.sp0; have q2 := hm.sp1; have q3 := hm.pc0
  by_cases hs : x.f.spent = 2000
  · exact rndBudget c b f o x hm hv hrun Q hpan hs
  cases hpc : below x.f.pc b.ins.length with
  | false => exact rndPc c b f o x hm hv hrun Q hpan (by omega) hpc
  | true =>
    have hpc2 : 0 ≤ x.f.pc ∧ x.f.pc < b.ins.length := by simpa [below] using hpc
    have hx : Inv c b x := hm.inv (by omega) (by omega) h1 h2 h3
    obtain ⟨⟨op, ia, ib, ic⟩, hi⟩ : ∃ i, insAt b x.f = i := ⟨_, rfl⟩
    by_cases hop : 1 ≤ op ∧ op < 20
    · rcases op_cases hop.1 hop.2 with rfl | rfl | rfl | rfl | rfl | rfl | rfl | rfl | rfl | rfl | rfl | rfl | rfl | rfl | rfl | rfl | rfl | rfl | rfl
      · exact rnd1 c b f o x hm hv hrun Q hpan hx hpc2 ia ib ic hi
      · exact rnd2 c b f o x hm hv hrun Q hpan hx hpc2 ia ib ic hi
      · exact rnd3 c b f o x hm hv hrun Q hpan hx hpc2 ia ib ic hi
      · exact rnd4 c b f o x hm hv hrun Q hpan hx hpc2 ia ib ic hi
      · exact rnd5 c b f o x hm hv hrun Q hpan hx hpc2 ia ib ic hi
      · exact rnd6 c b f o x hm hv hrun Q hpan hx hpc2 ia ib ic hi
      · exact rnd7 c b f o x hm hv hrun Q hpan hx hpc2 ia ib ic hi
      · exact rnd8 c b f o x hm hv hrun Q hpan hx hpc2 ia ib ic hi
      · exact rnd9 c b f o x hm hv hrun Q hpan hx hpc2 ia ib ic hi
      · exact rnd10 c b f o x hm hv hrun Q hpan hx hpc2 ia ib ic hi
      · exact rnd11 c b f o x hm hv hrun Q hpan hx hpc2 ia ib ic hi
      · exact rnd12 c b f o x hm hv hrun Q hpan hx hpc2 ia ib ic hi
      · exact rnd13 c b f o x hm hv hrun Q hpan hx hpc2 ia ib ic hi
      · exact rnd14 c b f o x hm hv hrun Q hpan hx hpc2 ia ib ic hi
      · exact rnd15 c b f o x hm hv hrun Q hpan hx hpc2 ia ib ic hi
      · exact rnd16 c b f o x hm hv hrun Q hpan hx hpc2 ia ib ic hi
      · exact rnd17 c b f o x hm hv hrun Q hpan hx hpc2 ia ib ic hi
      · exact rnd18 c b f o x hm hv hrun Q hpan hx hpc2 ia ib ic hi
      · exact rnd19 c b f o x hm hv hrun Q hpan hx hpc2 ia ib ic hi
    · exact rndOp c b f o x hm hv hrun Q hpan hx hpc2 op ia ib ic hi (by omega)
end Uw.Try

/- Right, and Next. -/
set_option linter.unusedVariables false
namespace Uw.Try
open Go Uw Go.Proofs

theorem all_false_take {α : Type} (p : α → Bool) (l : List α) (k : Nat) (h : k < l.length) (hp : p l[k] = false) : l.all p = false := by
  rw [List.all_eq_false]; exact ⟨l[k], List.getElem_mem _, by simp [hp]⟩

set_option maxRecDepth 100000 in
set_option maxHeartbeats 1000000 in
theorem s22 (c : Code) (f : Frame) (ht : Tiny c f) : Ret Try.prog 22 [codeD c, frameD f] (.bool (right c f)) := by
  have t1 := ht.funs; have t2 := ht.loc; have t3 := ht.stack; have t4 := ht.kids
  obtain ⟨R, hR⟩ : ∃ R, right c f = R := ⟨_, rfl⟩
  obtain ⟨b, hB⟩ : ∃ b, bodyAt c f = b := ⟨_, rfl⟩
  have hR2 := hR
  unfold right at hR2
  rw [hB] at hR2
  rw [hR]
  by_cases h1 : f.task < 1
  · have e : R = false := by rw [← hR2]; simp [h1]
    refine Ret_by is22 rfl ?_
    refine WT_f (by simp [h1]) ?_
    refine WT_t rfl ?_
    refine WT_t rfl ?_
    exact WT_ret rfl rfl rfl rfl (congrArg Dat.bool e.symm)
  cases h2 : below f.fn c.funs.length with
  | false =>
    have e : R = false := by rw [← hR2, h2]; simp
    refine Ret_by is22 rfl ?_
    refine WT_t (by simp; omega) ?_
    refine WT_call _ (s25 _ _) ?_
    refine WT_f rfl ?_
    refine WT_t (by simp [below] at h2; simp; omega) ?_
    exact WT_ret rfl rfl rfl rfl (congrArg Dat.bool e.symm)
  | true =>
  have h2' : 0 ≤ f.fn ∧ f.fn < c.funs.length := by simpa [below] using h2
  have hlt : f.fn.toNat < c.funs.length := by omega
  have hb : c.funs[f.fn.toNat] = b := by rw [← hB]; simp [bodyAt, hlt]
  have hbi : b.ins.length < 1000 := ht.ins _ (by rw [← hb]; exact List.getElem_mem _)
  have start : ∀ (Q : MExit → St → Prop), True := fun _ => trivial
  cases h3 : below f.pc ((b.ins.length : Int) + 1) with
  | false =>
    have e : R = false := by rw [← hR2, h3]; simp
    refine Ret_by is22 rfl ?_
    refine WT_t (by simp; omega) ?_
    refine WT_call _ (s25 _ _) ?_
    refine WT_f rfl ?_
    refine WT_f (by simp; omega) ?_
    refine WT_t (by simp; omega) ?_
    refine WT_elem (bodyD b) (by simp [hlt, hb]) ?_
    refine WT_t (by simp [inR]; omega) ?_
    refine WT_call _ (s25 _ _) ?_
    refine WT_f (by simp [below] at h3; simp; omega) ?_
    refine WT_t rfl ?_
    refine WT_f rfl ?_
    refine WT_t rfl ?_
    refine WT_t rfl ?_
    exact WT_ret rfl rfl rfl rfl (congrArg Dat.bool e.symm)
  | true =>
  have h3' : 0 ≤ f.pc ∧ f.pc < (b.ins.length : Int) + 1 := by simpa [below] using h3
  by_cases h4 : (f.loc.length : Int) = b.locals
  case neg =>
    have e : R = false := by rw [← hR2]; simp [h4]
    refine Ret_by is22 rfl ?_
    refine WT_t (by simp; omega) ?_
    refine WT_call _ (s25 _ _) ?_
    refine WT_f rfl ?_
    refine WT_f (by simp; omega) ?_
    refine WT_t (by simp; omega) ?_
    refine WT_elem (bodyD b) (by simp [hlt, hb]) ?_
    refine WT_t (by simp [inR]; omega) ?_
    refine WT_call _ (s25 _ _) ?_
    refine WT_t (by simp; omega) ?_
    refine WT_f rfl ?_
    refine WT_f (by simp [h4]) ?_
    refine WT_t rfl ?_
    refine WT_t rfl ?_
    exact WT_ret rfl rfl rfl rfl (congrArg Dat.bool e.symm)
  by_cases h5 : 100 < (f.stack.length : Int)
  case pos =>
    have e : R = false := by rw [← hR2]; simp [h5]
    refine Ret_by is22 rfl ?_
    refine WT_t (by simp; omega) ?_
    refine WT_call _ (s25 _ _) ?_
    refine WT_f rfl ?_
    refine WT_f (by simp; omega) ?_
    refine WT_t (by simp; omega) ?_
    refine WT_elem (bodyD b) (by simp [hlt, hb]) ?_
    refine WT_t (by simp [inR]; omega) ?_
    refine WT_call _ (s25 _ _) ?_
    refine WT_t (by simp; omega) ?_
    refine WT_f rfl ?_
    refine WT_t (by simp [h4]) ?_
    refine WT_f rfl ?_
    refine WT_t (by simp; omega) ?_
    exact WT_ret rfl rfl rfl rfl (congrArg Dat.bool e.symm)
  have hR3 : (f.kids.all (okKid b.locals) && f.loc.all isVal && f.stack.all isVal && decide (0 ≤ f.many) && below f.spent 2001) = R := by
    rw [← hR2, h2, h3]
    have e1 : decide (f.task < 1) = false := by simp; omega
    have e4 : decide ((f.loc.length : Int) = b.locals) = true := by simp [h4]
    have e5 : decide (100 < (f.stack.length : Int)) = false := by simp; omega
    rw [e1, e4, e5]; simp
  refine Ret_by is22 rfl ?_
  refine WT_t (by simp; omega) ?_
  refine WT_call _ (s25 _ _) ?_
  refine WT_f rfl ?_
  refine WT_f (by simp; omega) ?_
  refine WT_t (by simp; omega) ?_
  refine WT_elem (bodyD b) (by simp [hlt, hb]) ?_
  refine WT_t (by simp [inR]; omega) ?_
  refine WT_call _ (s25 _ _) ?_
  refine WT_t (by simp; omega) ?_
  refine WT_f rfl ?_
  refine WT_t (by simp [h4]) ?_
  refine WT_f rfl ?_
  refine WT_f (by simp; omega) ?_
  refine WT_loop (fun k : Int => ⟨[(2, .ptr 0 0), (3, .ptr 1 0), (5, .ptr 2 0), (49, .d (.slice 2 (f.kids.map kidD) false)), (50, .d (.int .i64 (f.kids.map kidD).length)), (51, .d (.int .i64 k))], [(2, .var (bV b)), (0, .var (V.ofDat (codeD c)).cells), (1, .var (V.ofDat (frameD f)).cells)], 3, [], 0⟩)
    (fun k => 0 ≤ k ∧ k ≤ f.kids.length ∧ (f.kids.take k.toNat).all (okKid b.locals) = true) (fun k => (f.kids.length - k).toNat) 0 ?_ ⟨by omega, by omega, by simp⟩ ?_
  · exact Weak.eqs [] (by kernel_rfl) (by kernel_rfl) (by kernel_rfl) (by kernel_rfl) (by kernel_rfl) (by kernel_rfl) (by kernel_rfl) (by kernel_rfl) (by kernel_rfl) (by kernel_rfl)
  · rintro k ⟨g0, g1, hall⟩
    by_cases hk : k < f.kids.length
    · refine WT_t (by simp; omega) ?_
      have hkl : k.toNat < f.kids.length := by omega
      refine WT_t (by simp; omega) ?_
      refine WT_elem (kidD f.kids[k.toNat]) (by simp [hkl]) ?_
      by_cases hj : f.kids[k.toNat].1 < 1
      · have e : R = false := by
          rw [← hR3, all_false_take _ f.kids k.toNat hkl (by simp [okKid]; omega)]; simp
        refine WT_f (by simp [hj]) ?_
        refine WT_t rfl ?_
        refine WT_t rfl ?_
        refine WT_leave ?_
        exact WT_ret rfl rfl rfl rfl (congrArg Dat.bool e.symm)
      · refine WT_t (by simp; omega) ?_
        refine WT_call _ (s37 _ _) ?_
        refine WT_f rfl ?_
        by_cases hd : dest f.kids[k.toNat].2 b.locals = false
        · have e : R = false := by
            rw [← hR3, all_false_take _ f.kids k.toNat hkl (by simp [okKid, hd])]; simp
          refine WT_t (by simp [kidD] at hd ⊢; exact hd) ?_
          refine WT_leave ?_
          exact WT_ret rfl rfl rfl rfl (congrArg Dat.bool e.symm)
        · have hd : dest f.kids[k.toNat].2 b.locals = true := by simpa using hd
          refine WT_f (by simp [kidD] at hd ⊢; exact hd) ?_
          refine WT_t (by simp [inR]; omega) ?_
          refine WT_again (k + 1) ⟨by omega, by omega, ?_⟩ (by omega) ?_
          · rw [show (k + 1).toNat = k.toNat + 1 by omega, all_take _ _ k.toNat hkl, hall]
            simp [okKid, hd]; omega
          · exact Weak.eqs [] (by kernel_rfl) (by kernel_rfl) (by kernel_rfl) (by kernel_rfl) (by kernel_rfl) (by kernel_rfl) (by kernel_rfl) (by kernel_rfl) (by kernel_rfl) (by kernel_rfl)
    · refine WT_f (by simp; omega) ?_
      refine WT_break ?_
      rw [List.take_of_length_le (by omega)] at hall
      rw [hall] at hR3
      refine WT_call _ (s26 _ (by omega)) ?_
      by_cases hl : f.loc.all isVal = false
      · have e : R = false := by rw [← hR3, hl]; simp
        refine WT_f (by rw [hl]; rfl) ?_
        refine WT_f rfl ?_
        refine WT_f rfl ?_
        refine WT_f rfl ?_
        refine WT_f rfl ?_
        refine WT_f rfl ?_
        exact WT_ret rfl rfl rfl rfl (congrArg Dat.bool e.symm)
      · have hl : f.loc.all isVal = true := by simpa using hl
        refine WT_t (by rw [hl]; rfl) ?_
        refine WT_call _ (s26 _ (by omega)) ?_
        refine WT_t rfl ?_
        by_cases hs : f.stack.all isVal = false
        · have e : R = false := by rw [← hR3, hs]; simp
          refine WT_f (by rw [hs]; rfl) ?_
          refine WT_f rfl ?_
          refine WT_f rfl ?_
          refine WT_f rfl ?_
          exact WT_ret rfl rfl rfl rfl (congrArg Dat.bool e.symm)
        · have hs : f.stack.all isVal = true := by simpa using hs
          refine WT_t (by rw [hs]; rfl) ?_
          refine WT_t rfl ?_
          by_cases hm : 0 ≤ f.many
          · refine WT_t (by simpa using hm) ?_
            refine WT_call _ (s25 _ _) ?_
            refine WT_t rfl ?_
            refine WT_ret rfl rfl rfl rfl ?_
            rw [← hR3, hl, hs]; simp [packD, hm, below]
          · have e : R = false := by rw [← hR3]; simp; omega
            refine WT_f (by simp; omega) ?_
            refine WT_f rfl ?_
            exact WT_ret rfl rfl rfl rfl (congrArg Dat.bool e.symm)
end Uw.Try

/- vm.Next (printed by printt.py). -/
set_option linter.unusedVariables false
namespace Uw.Try
open Go Uw Go.Proofs

theorem out_pair {u u' v v' : Dat} (h : u = u') (h2 : v = v') : Dat.tuple [u, v, I 0] = .tuple [u', v', I 0] := by rw [h, h2]

set_option maxRecDepth 100000 in
set_option maxHeartbeats 2000000 in
theorem s21 (c : Code) (f : Frame) (ht : Tiny c f) : Ret Try.prog 21 [codeD c, frameD f] (outD f (nextS c f)) := by
  obtain ⟨o, ho⟩ : ∃ o, nextS c f = o := ⟨_, rfl⟩
  obtain ⟨b, hB⟩ : ∃ b, bodyAt c f = b := ⟨_, rfl⟩
  rw [ho]
  cases hr : right c f with
  | false =>
    have ho' : o = .err 1 := by rw [← ho]; simp [nextS, hr]
    subst ho'
    refine Ret_of_execD is21 rfl ?_
    refine WT_call _ (s22 c f ht) ?_
    refine WT_t (by rw [hr]; rfl) ?_
    exact WT_done (.inl ⟨.inr rfl, rfl, _, _, rfl, rfl, rfl, rfl⟩)
  | true =>
  have hr' := hr
  simp [right, below] at hr'
  obtain ⟨⟨⟨⟨⟨⟨hr1, hr2⟩, hr3⟩, hr4⟩, hr5⟩, hr6⟩, hr7⟩ := hr'
  have hlt : f.fn.toNat < c.funs.length := by omega
  have hb : c.funs[f.fn.toNat] = bodyAt c f := by simp [bodyAt, hlt]
  have hbi : (bodyAt c f).ins.length < 1000 := ht.ins _ (by rw [← hb]; exact List.getElem_mem _)
  have hf1 := ht.funs; have hf2 := ht.cells
  have hrun0 : runN c (bodyAt c f) (fuelF f) f = nextS c f := by simp [nextS, hr]
  rw [ho, hB] at hrun0
  rw [hB] at hb hbi hr2 hr3
  refine Ret_of_execD is21 rfl ?_
  refine WT_call _ (s22 c f ht) ?_
  refine WT_f (by rw [hr]; rfl) ?_
  refine WT_draw ⟨[(2, .ptr 0 0), (3, .ptr 1 0), (4, .ptr 2 0), (5, .ptr 3 0), (6, .ptr 4 0), (7, .ptr 5 0)], [(5, .var (cV c ++ bV b ++ ownFrame f 6 ++ noAsk)), (6, .mt 1 0 (rows f.path)), (7, .mt 1 0 (rows f.loc)), (8, .mt 1 0 (rows f.stack)), (9, .mt 2 0 (krows f.kids)),
   (0, .var (V.ofDat (codeD c)).cells), (1, .var (V.ofDat (frameD f)).cells), (2, .var zFrame), (3, .var noAsk), (4, .var [.d (I 0)])], 10, nextDefers, 0⟩ ?_ ?_

  · refine WT_t (by simp; omega) ?_
    refine WT_elem (bodyD b) (by simp [hlt, hb]) ?_
    refine WT_both ?_ ?_
    · skip
      refine WT_inl is34 rfl ?_
      refine WT_sub (clone27 f.path ht.path _ _) ?_
      rintro _ _ _ ⟨rfl, rfl, rfl⟩
      refine WT_sub (clone27 f.loc ht.loc _ _) ?_
      rintro _ _ _ ⟨rfl, rfl, rfl⟩
      refine WT_sub (clone27 f.stack ht.stack _ _) ?_
      rintro _ _ _ ⟨rfl, rfl, rfl⟩
      refine WT_sub (clone40 f.kids ht.kids _ _) ?_
      rintro _ _ _ ⟨rfl, rfl, rfl⟩
      refine WT_iret rfl rfl ?_
      iterate 5 (refine WT_same (by kernel_rfl) ?_)
      refine WT_t (by simp; omega) ?_
      refine WT_elem (bodyD b) (by simp [hlt, hb]) ?_
      iterate 7 (refine WT_same (by kernel_rfl) ?_)
      refine WT_t (by simp; omega) ?_
      refine WT_elem (bodyD b) (by simp [hlt, hb]) ?_
      iterate 3 (refine WT_same (by kernel_rfl) ?_)
      refine WT_done (.inl ⟨rfl, ?_⟩)
      exact Weak.eqs [(5, 11), (6, 7), (7, 8), (8, 9), (9, 10)] (by kernel_rfl) (by kernel_rfl) (by kernel_rfl) (by kernel_rfl) (by kernel_rfl) (by kernel_rfl) (by kernel_rfl) (by kernel_rfl) (by kernel_rfl) (by kernel_rfl)
    · skip
      iterate 5 (refine WT_same (by kernel_rfl) ?_)
      refine WT_t (by simp; omega) ?_
      refine WT_elem (bodyD b) (by simp [hlt, hb]) ?_
      iterate 3 (refine WT_same (by kernel_rfl) ?_)
      refine WT_inl is34 rfl ?_
      refine WT_sub (clone27 f.path ht.path _ _) ?_
      rintro _ _ _ ⟨rfl, rfl, rfl⟩
      refine WT_sub (clone27 f.loc ht.loc _ _) ?_
      rintro _ _ _ ⟨rfl, rfl, rfl⟩
      refine WT_sub (clone27 f.stack ht.stack _ _) ?_
      rintro _ _ _ ⟨rfl, rfl, rfl⟩
      refine WT_sub (clone40 f.kids ht.kids _ _) ?_
      rintro _ _ _ ⟨rfl, rfl, rfl⟩
      refine WT_iret rfl rfl ?_
      iterate 5 (refine WT_same (by kernel_rfl) ?_)
      refine WT_t (by simp; omega) ?_
      refine WT_elem (bodyD b) (by simp [hlt, hb]) ?_
      iterate 2 (refine WT_same (by kernel_rfl) ?_)
      refine WT_done (.inl ⟨rfl, ?_⟩)
      exact Weak.eqs [(5, 5), (6, 8), (7, 9), (8, 10), (9, 11)] (by kernel_rfl) (by kernel_rfl) (by kernel_rfl) (by kernel_rfl) (by kernel_rfl) (by kernel_rfl) (by kernel_rfl) (by kernel_rfl) (by kernel_rfl) (by kernel_rfl)
  refine WT_inl is35 rfl ?_
  iterate 6 (refine WT_inl is46 rfl ?_; refine WT_iret rfl rfl ?_)
  refine WT_iret rfl rfl ?_
  refine WT_loop (loopSt c b f) (loopInv c b f o) loopMu (.at ⟨f, rows f.stack, f.stack.length, 0, rows f.loc⟩ ask0) ?_ ?_ ?_
  · exact Weak.eqs [] (by kernel_rfl) (by kernel_rfl) (by kernel_rfl) (by kernel_rfl) (by kernel_rfl) (by kernel_rfl) (by kernel_rfl) (by kernel_rfl) (by kernel_rfl) (by kernel_rfl)
  · have h1 := ht.loc; have h2 := ht.kids
    exact ⟨⟨List.take_of_length_le (by simp [rows]), rfl, by simp [rows], rfl, by simp only []; omega, by simp only []; omega, by simp only []; omega, by simp only []; omega, by simp only []; omega, h1, h2⟩, ⟨List.all_eq_true.2 hr4, List.all_eq_true.2 hr5⟩, .inl ⟨rfl, hrun0⟩⟩
  · rintro (⟨x, a⟩ | ⟨x, a⟩)
    · rintro ⟨hm, hv, ⟨rfl, hrun⟩ | ⟨hk, hk4, hout⟩⟩
      · refine rnd c b f o x hm hv hrun _ ?_ hbi hf1 hf2
        intro regs h nx e h4 h5 h6 ha ho'
        subst ho'
        refine WT_done (.inr ⟨some (.iface 34 (I e)), 33, [], [.ptr 1 0, .ptr 2 0, .ptr 3 0, .ptr 4 0], .inr ⟨_, rfl, rfl⟩, rfl, ?_⟩)
        refine SatD.mono ha ?_
        rintro _ _ ⟨rfl, rfl⟩
        refine ⟨[.agg (V.ofDat (frameD f)).cells, .agg noAsk, .d (I e)], _, ?_, rfl, rfl, rfl⟩
        show resV _ [(.cell 4 true 10), (.cell 5 true 8), (.cell 6 false 1)] = _
        simp only [resV, h4, h5, h6]
        rfl
      · subst hout
        refine WT_f (by simpa using hk) ?_
        refine WT_break ?_
        refine WT_draw ⟨[(4, .ptr 2 0), (5, .ptr 3 0), (6, .ptr 4 0)], [(2, .var (frV x)), (3, .var (askV a)), (4, .var [.d (I 0)]), (6, .mt 1 0 (rows x.f.path)), (7, .mt 1 0 x.ls), (8, .mt 1 x.ver x.xs), (9, .mt 2 0 (krows x.f.kids)), (1, .var (V.ofDat (frameD f)).cells)], 18, nextDefers, 0⟩ ?_ ?_
        · iterate 2 (refine WT_same (by kernel_rfl) ?_)
          refine WT_done (.inl ⟨rfl, ?_⟩)
          exact Weak.eqs [] (by kernel_rfl) (by kernel_rfl) (by kernel_rfl) (by kernel_rfl) (by kernel_rfl) (by kernel_rfl) (by kernel_rfl) (by kernel_rfl) (by kernel_rfl) (by kernel_rfl)
        · refine WT_done (.inr ⟨none, 33, [], [.ptr 1 0, .ptr 2 0, .ptr 3 0, .ptr 4 0], .inl ⟨.inr rfl, rfl⟩, rfl, ?_⟩)
          refine SatD.mono (calm _ _) ?_
          rintro _ _ ⟨rfl, rfl⟩
          refine ⟨_, _, rfl, rfl, ?_, ?_⟩
          · simp [curL, V.cur, V.cur.go, frV, askV, askR, look]
          · refine out_pair (frame_out hm) ?_
            simp [askD, argsD, hk4]
    · rintro ⟨hm, hv, hk, hout⟩
      subst hout
      refine WT_f (by simp [hk]) ?_
      refine WT_break ?_
      refine WT_draw ⟨[(4, .ptr 2 0), (5, .ptr 3 0), (6, .ptr 4 0)], [(2, .var (frV x)), (3, .var (askR a (.ref 18 0 0 a.args.length))), (4, .var [.d (I 0)]), (6, .mt 1 0 (rows x.f.path)), (7, .mt 1 0 x.ls), (8, .mt 1 x.ver x.xs), (9, .mt 2 0 (krows x.f.kids)), (18, .mt 1 0 (rows a.args)), (1, .var (V.ofDat (frameD f)).cells)], 19, nextDefers, 0⟩ ?_ ?_
      · iterate 2 (refine WT_same (by kernel_rfl) ?_)
        refine WT_done (.inl ⟨rfl, ?_⟩)
        exact Weak.eqs [] (by kernel_rfl) (by kernel_rfl) (by kernel_rfl) (by kernel_rfl) (by kernel_rfl) (by kernel_rfl) (by kernel_rfl) (by kernel_rfl) (by kernel_rfl) (by kernel_rfl)
      · refine WT_done (.inr ⟨none, 33, [], [.ptr 1 0, .ptr 2 0, .ptr 3 0, .ptr 4 0], .inl ⟨.inr rfl, rfl⟩, rfl, ?_⟩)
        refine SatD.mono (calm _ _) ?_
        rintro _ _ ⟨rfl, rfl⟩
        refine ⟨_, _, rfl, rfl, ?_, ?_⟩
        · simp [curL, V.cur, V.cur.go, frV, askV, askR, look]
        · refine out_pair (frame_out hm) ?_
          rw [List.drop_zero, List.take_of_length_le (by simp [rows])]; simp [askD, argsD, hk, ints, rows]
end Uw.Try
