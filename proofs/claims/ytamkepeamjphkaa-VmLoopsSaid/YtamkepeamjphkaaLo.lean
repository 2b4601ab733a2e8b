/- Lo: Wa Wb (merged by merge.py from the working texts). -/
import Derived.Test.YtamkepeamjphkaaM8
set_option linter.unusedSimpArgs false
set_option linter.unnecessarySimpa false
set_option linter.unusedVariables false

/- LOOPS. -/
set_option linter.unusedVariables false
namespace Uw.Try
open Go Uw Go.Proofs

def lIns (k : Int) : List Ins := [⟨1, k, 0, 0⟩, ⟨3, 0, 0, 0⟩, ⟨2, 0, 0, 0⟩, ⟨16, 9, 0, 0⟩, ⟨2, 0, 0, 0⟩, ⟨1, 1, 0, 0⟩, ⟨7, 0, 0, 0⟩, ⟨3, 0, 0, 0⟩, ⟨15, 2, 0, 0⟩, ⟨1, 5, 0, 0⟩, ⟨17, 0, 0, 0⟩]
def lB (k : Int) : Body := ⟨0, 1, lIns k⟩
def lC (k : Int) : Code := plainC (lIns k) 1
def lF (pc j sp : Int) (st : List Int) : Frame := ⟨1, [], 0, pc, [j], st, [], 0, sp, false⟩

theorem l_go {k pc j sp pc' j' sp' : Int} {st st' : List Int} (h0 : 0 ≤ pc ∧ pc < 11) (hs : sp < 2000) (hd : st.length ≤ 100) (h : stepS (lC k) (lB k) (lF pc j sp st) (insAt (lB k) (lF pc j sp st)) = some (lF pc' j' sp' st', ask0)) : runF (lC k) (lB k) (lF pc j sp st) = runF (lC k) (lB k) (lF pc' j' sp' st') :=
  runF_go _ h0 hs hd h

theorem l_zero {k j sp : Int} : stepS (lC k) (lB k) (lF 3 j sp [j]) (insAt (lB k) (lF 3 j sp [j])) = if j = 0 then some (lF 9 j (sp + 1) [], ask0) else some (lF 4 j (sp + 1) [], ask0) := by
  have hi : insAt (lB k) (lF 3 j sp [j]) = ⟨16, 9, 0, 0⟩ := rfl
  rw [hi]
  show sZero (lB k) (lF 3 j sp [j]) ⟨16, 9, 0, 0⟩ = _
  rw [sZero, if_pos ⟨rfl, by simp [lF]⟩]
  rfl

/-- Once round. -/
theorem l_round {k j sp : Int} (hj : 0 < j) (hj2 : j < 4294967296) (hs : sp ≤ 2000) : runF (lC k) (lB k) (lF 2 j sp []) = if sp + 7 ≤ 2000 then runF (lC k) (lB k) (lF 2 (j - 1) (sp + 7) []) else .err 11 := by
  have hw : wrapS (j - 1) = j - 1 := by unfold wrapS; omega
  by_cases b0 : sp = 2000
  · rw [if_neg (by omega), runF_budget b0]
  rw [l_go (pc' := 3) (j' := j) (sp' := sp + 1) (st' := [j]) (by omega) (by omega) (by simp) rfl]
  by_cases b1 : sp + 1 = 2000
  · rw [if_neg (by omega), runF_budget b1]
  rw [l_go (pc' := 4) (j' := j) (sp' := sp + 1 + 1) (st' := []) (by omega) (by omega) (by simp) (by rw [l_zero, if_neg (by omega)])]
  by_cases b2 : sp + 1 + 1 = 2000
  · rw [if_neg (by omega), runF_budget b2]
  rw [l_go (pc' := 5) (j' := j) (sp' := sp + 1 + 1 + 1) (st' := [j]) (by omega) (by omega) (by simp) rfl]
  by_cases b3 : sp + 1 + 1 + 1 = 2000
  · rw [if_neg (by omega), runF_budget b3]
  rw [l_go (pc' := 6) (j' := j) (sp' := sp + 1 + 1 + 1 + 1) (st' := [j, 1]) (by omega) (by omega) (by simp) rfl]
  by_cases b4 : sp + 1 + 1 + 1 + 1 = 2000
  · rw [if_neg (by omega), runF_budget b4]
  rw [l_go (pc' := 7) (j' := j) (sp' := sp + 1 + 1 + 1 + 1 + 1) (st' := [wrapS (j - 1)]) (by omega) (by omega) (by simp) rfl]
  by_cases b5 : sp + 1 + 1 + 1 + 1 + 1 = 2000
  · rw [if_neg (by omega), runF_budget b5]
  rw [l_go (pc' := 8) (j' := wrapS (j - 1)) (sp' := sp + 1 + 1 + 1 + 1 + 1 + 1) (st' := []) (by omega) (by omega) (by simp) rfl]
  by_cases b6 : sp + 1 + 1 + 1 + 1 + 1 + 1 = 2000
  · rw [if_neg (by omega), runF_budget b6]
  rw [l_go (pc' := 2) (j' := wrapS (j - 1)) (sp' := sp + 1 + 1 + 1 + 1 + 1 + 1 + 1) (st' := []) (by omega) (by omega) (by simp) rfl]
  rw [if_pos (by omega), hw, show sp + 1 + 1 + 1 + 1 + 1 + 1 + 1 = sp + 7 by omega]

theorem l_last {k sp : Int} (hs : sp ≤ 2000) : runF (lC k) (lB k) (lF 2 0 sp []) = if sp + 4 ≤ 2000 then .ok (lF 11 0 (sp + 4) []) ⟨6, 5, 0, (0, 0, 0, 0), []⟩ else .err 11 := by
  by_cases b0 : sp = 2000
  · rw [if_neg (by omega), runF_budget b0]
  rw [l_go (pc' := 3) (j' := 0) (sp' := sp + 1) (st' := [0]) (by omega) (by omega) (by simp) rfl]
  by_cases b1 : sp + 1 = 2000
  · rw [if_neg (by omega), runF_budget b1]
  rw [l_go (pc' := 9) (j' := 0) (sp' := sp + 1 + 1) (st' := []) (by omega) (by omega) (by simp) (by rw [l_zero, if_pos rfl])]
  by_cases b2 : sp + 1 + 1 = 2000
  · rw [if_neg (by omega), runF_budget b2]
  rw [l_go (pc' := 10) (j' := 0) (sp' := sp + 1 + 1 + 1) (st' := [5]) (by omega) (by omega) (by simp) rfl]
  by_cases b3 : sp + 1 + 1 + 1 = 2000
  · rw [if_neg (by omega), runF_budget b3]
  rw [runF_ask (lF 11 0 (sp + 1 + 1 + 1 + 1) []) ⟨6, 5, 0, (0, 0, 0, 0), []⟩ (by simp [lF, lB, lIns]) (by simp [lF]; omega) rfl (by simp)]
  rw [if_pos (by omega), show sp + 1 + 1 + 1 + 1 = sp + 4 by omega]

theorem l_run {k : Int} : ∀ (n : Nat) (sp : Int), sp ≤ 2000 → n < 4294967296 → runF (lC k) (lB k) (lF 2 n sp []) = if sp + 7 * n + 4 ≤ 2000 then .ok (lF 11 0 (sp + 7 * n + 4) []) ⟨6, 5, 0, (0, 0, 0, 0), []⟩ else .err 11
  | 0, sp, hs, _ => by
    have := l_last (k := k) hs
    simpa using this
  | n + 1, sp, hs, hn => by
    rw [l_round (by omega) (by omega) hs]
    by_cases h : sp + 7 ≤ 2000
    · rw [if_pos h, show ((n + 1 : Nat) : Int) - 1 = n by omega, l_run n (sp + 7) h (by omega)]
      rw [show sp + 7 + 7 * (n : Int) + 4 = sp + 7 * ((n + 1 : Nat) : Int) + 4 by omega]
    · rw [if_neg h, if_neg (by omega)]

theorem l_next (k : Int) (h0 : 0 ≤ k) (h1 : k < 1000) : nextS (lC k) (lF 0 0 0 []) = if 2 + 7 * k + 2 + 2 ≤ 2000 then .ok (lF 11 0 (2 + 7 * k + 2 + 2) []) ⟨6, 5, 0, (0, 0, 0, 0), []⟩ else .err 11 := by
  rw [next_run (by rfl)]
  show runF (lC k) (lB k) (lF 0 0 0 []) = _
  rw [l_go (pc' := 1) (j' := 0) (sp' := 1) (st' := [k]) (by omega) (by omega) (by simp) (s_push rfl (by simp [isVal]; omega) (by simp [lF]))]
  rw [l_go (pc' := 2) (j' := k) (sp' := 2) (st' := []) (by omega) (by omega) (by simp) rfl]
  have := l_run (k := k) k.toNat 2 (by omega) (by omega)
  rw [show ((k.toNat : Nat) : Int) = k by omega] at this
  rw [this, show 2 + 7 * k + 4 = 2 + 7 * k + 2 + 2 by omega]

end Uw.Try

/- LOOPS: the law. -/
set_option linter.unusedVariables false
namespace Uw.Try
open Go Uw Go.Proofs

set_option maxRecDepth 100000 in
set_option maxHeartbeats 1000000 in
theorem l7 (n : Int) (hn : 0 ≤ n ∧ n < 65536) : Ret Try.prog 7 [.int .u16 n] (.bool true) := by
  have h0 : 0 ≤ n.tmod 1000 ∧ n.tmod 1000 < 1000 := by rw [Int.tmod_eq_emod_of_nonneg hn.1]; omega
  have hs : Ret Try.prog 12 [codeD (lC (n.tmod 1000)), I 0, ints [], I 1, ints []] (frErr (lF 0 0 0 [], 0)) := start_plain (lIns (n.tmod 1000)) 1 1 [] (by decide) (by decide) (by decide) (by decide)
  have hN := s21 (lC (n.tmod 1000)) (lF 0 0 0 []) (tiny_plain _ _ _ (by simp [lIns]) (by simp [lF]) (by simp [lF]) (by simp [lF]) (by simp [lF]))
  rw [l_next _ h0.1 h0.2] at hN
  have hS : Ret Try.prog 15 [frameD (lF 0 0 0 []), frameD (lF 0 0 0 [])] (.bool true) := s15 _ _ (by simp [lF]) (by simp [lF]) (by simp [lF]) (by simp [lF])
  by_cases hb : 2 + 7 * n.tmod 1000 + 2 + 2 ≤ 2000
  · rw [if_pos hb] at hN
    refine Ret_by is7 rfl ?_
    refine WT_call _ s10 ?_
    refine WT_t (by simp [inR]; omega) ?_
    refine WT_f rfl ?_
    refine WT_callL (codeD (lC (n.tmod 1000))) (s24 (lIns (n.tmod 1000)) 1) (.cons (.slice (.refl _)) (.refl _)) ?_
    refine WT_callL (frErr (lF 0 0 0 [], 0)) hs (.cons (.refl _) (.cons (.refl _) (.cons (.nil _) (.cons (.refl _) (.cons (.nil _) (.refl _)))))) ?_
    refine WT_call _ hN ?_
    refine WT_t (by simp [inR]; omega) ?_
    refine WT_t (by simp [inR]; omega) ?_
    refine WT_t (by simp [inR]; omega) ?_
    refine WT_t (by simp [inR]; omega) ?_
    refine WT_f rfl ?_
    refine WT_f (by simp; omega) ?_
    repeat (refine WT_t rfl ?_)
    refine WT_ret rfl rfl rfl rfl ?_
    simp [packD, lF]
  · rw [if_neg hb] at hN
    refine Ret_by is7 rfl ?_
    refine WT_call _ s10 ?_
    refine WT_t (by simp [inR]; omega) ?_
    refine WT_f rfl ?_
    refine WT_callL (codeD (lC (n.tmod 1000))) (s24 (lIns (n.tmod 1000)) 1) (.cons (.slice (.refl _)) (.refl _)) ?_
    refine WT_callL (frErr (lF 0 0 0 [], 0)) hs (.cons (.refl _) (.cons (.refl _) (.cons (.nil _) (.cons (.refl _) (.cons (.nil _) (.refl _)))))) ?_
    refine WT_call _ hN ?_
    refine WT_t (by simp [inR]; omega) ?_
    refine WT_t (by simp [inR]; omega) ?_
    refine WT_t (by simp [inR]; omega) ?_
    refine WT_t (by simp [inR]; omega) ?_
    refine WT_f rfl ?_
    refine WT_t (by simp; omega) ?_
    repeat (refine WT_t rfl ?_)
    refine WT_call _ hS ?_
    repeat (refine WT_t rfl ?_)
    exact WT_ret rfl rfl rfl rfl rfl

end Uw.Try
