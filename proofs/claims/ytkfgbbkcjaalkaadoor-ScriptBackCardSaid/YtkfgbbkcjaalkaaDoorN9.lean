/- N9: Sk Sl Sm (merged by merge2.py from the working texts). -/
import Derived.Test.YtkfgbbkcjaalkaaDoorN8
set_option linter.unusedSimpArgs false
set_option linter.unnecessarySimpa false
set_option linter.unusedVariables false
set_option linter.unusedSectionVars false

/- A word's pick, as the document says; the two are the same. -/
set_option linter.unusedVariables false
set_option linter.unusedSimpArgs false
namespace Uw.Tryd
open Go Uw Go.Proofs Go.RowKit

def wordR (s : List UInt8) : Pick × Int :=
  if numI (s.take (digs s)) < 0 ∨ 7 < numI (s.take (digs s)) then (⟨1, numI (s.take (digs s)), 0⟩, 0)
  else match s[digs s]? with
  | none => (⟨1, numI (s.take (digs s)), 0⟩, 1)
  | some b =>
    if b.toNat = 33 then (⟨3, numI (s.take (digs s)), 0⟩, if digs s + 1 = s.length then 1 else 0)
    else if b.toNat = 126 then (⟨2, numI (s.take (digs s)), numI (s.drop (digs s + 1))⟩, if 0 ≤ numI (s.drop (digs s + 1)) ∧ numI (s.drop (digs s + 1)) ≤ 1048576 then 1 else 0)
    else if b.toNat = 120 then (⟨1, numI (s.take (digs s)), 0⟩, max (numI (s.drop (digs s + 1))) 0)
    else (⟨1, numI (s.take (digs s)), 0⟩, 0)

theorem numI_some {s : List UInt8} {n : Nat} (h : numb s = some n) : numI s = n := by rw [numI, h]
theorem numI_none {s : List UInt8} (h : numb s = none) : numI s = -1 := by rw [numI, h]
theorem numI_range (s : List UInt8) : -1 ≤ numI s ∧ numI s < 10000000 := by
  rw [numI]
  cases h : numb s with
  | none => simp
  | some n =>
    rw [numb] at h
    by_cases hb : (badLen s || !s.all isDig) = true
    · rw [if_pos hb] at h; cases h
    · rw [if_neg hb] at h
      injection h with h
      simp only [Bool.or_eq_true, not_or, Bool.not_eq_true, Bool.not_eq_false'] at hb
      have hl : s.length ≤ 7 := by
        have := hb.1
        simp [badLen] at this; omega
      have := valOf_small s s.length hl (by rw [List.take_length]; exact hb.2)
      rw [List.take_length] at this
      simp only; omega

/-- What a word tells of: the program's way and the document's. -/
def Agree (r : Sev) (w : Pick × Int) : Prop := (r.2.2 = true → w = (r.1, r.2.1) ∧ 1 ≤ r.2.1) ∧ (r.2.2 = false → w.2 = 0)

theorem Agree.no {w : Pick × Int} (h : w.2 = 0) : Agree noSev w := ⟨fun h => (by cases h), fun _ => h⟩

theorem word_read (s : List UInt8) : Agree (readR s) (wordR s) := by
  cases hb : s[digs s]? with
  | none =>
    have hl : s.length ≤ digs s := by
      rcases Nat.lt_or_ge (digs s) s.length with h | h
      · rw [List.getElem?_eq_getElem h] at hb; cases hb
      · exact h
    rw [wordR, List.take_of_length_le hl, readR, hb]
    cases hn : numb s with
    | none => rw [numI_none hn]; exact ⟨fun h => (by cases h), fun _ => rfl⟩
    | some a =>
      rw [numI_some hn]
      by_cases ha : a < 8
      · rw [if_neg (by omega)]
        refine ⟨fun _ => ⟨rfl, by simp⟩, fun h => ?_⟩
        simp at h; omega
      · rw [if_pos (by omega)]
        refine ⟨fun h => ?_, fun _ => rfl⟩
        simp at h; omega
  | some b =>
    have hlt : digs s < s.length := by
      rcases Nat.lt_or_ge (digs s) s.length with h | h
      · exact h
      · rw [List.getElem?_eq_none h] at hb; cases hb
    have hR : readR s = (if b.toNat = 120 then signedR 1 (s.take (digs s)) (s.drop (digs s + 1))
      else if b.toNat = 126 then signedR 2 (s.take (digs s)) (s.drop (digs s + 1))
      else if b.toNat = 33 then signedR 3 (s.take (digs s)) (s.drop (digs s + 1))
      else noSev) := by rw [readR, hb]
    have hW : wordR s = if numI (s.take (digs s)) < 0 ∨ 7 < numI (s.take (digs s)) then (⟨1, numI (s.take (digs s)), 0⟩, 0) else
        if b.toNat = 33 then (⟨3, numI (s.take (digs s)), 0⟩, if digs s + 1 = s.length then 1 else 0)
        else if b.toNat = 126 then (⟨2, numI (s.take (digs s)), numI (s.drop (digs s + 1))⟩, if 0 ≤ numI (s.drop (digs s + 1)) ∧ numI (s.drop (digs s + 1)) ≤ 1048576 then 1 else 0)
        else if b.toNat = 120 then (⟨1, numI (s.take (digs s)), 0⟩, max (numI (s.drop (digs s + 1))) 0)
        else (⟨1, numI (s.take (digs s)), 0⟩, 0) := by rw [wordR, hb]
    have none1 : (∀ kind : Int, signedR kind (s.take (digs s)) (s.drop (digs s + 1)) = noSev) → (if b.toNat = 120 then signedR 1 (s.take (digs s)) (s.drop (digs s + 1))
      else if b.toNat = 126 then signedR 2 (s.take (digs s)) (s.drop (digs s + 1))
      else if b.toNat = 33 then signedR 3 (s.take (digs s)) (s.drop (digs s + 1))
      else noSev) = noSev := by
      intro h
      rw [h, h, h]
      repeat' split
      all_goals rfl
    cases hn : numb (s.take (digs s)) with
    | none =>
      rw [hR, none1 (by intro kind; rw [signedR, hn]), hW, numI_none hn, if_pos (by omega)]
      exact Agree.no rfl
    | some a =>
      rw [numI_some hn] at hW
      by_cases ha : 8 ≤ a
      · rw [hR, none1 (by intro kind; unfold signedR; rw [hn]; exact if_pos ha), hW, if_pos (by omega)]
        exact Agree.no rfl
      · have hS : ∀ kind : Int, signedR kind (s.take (digs s)) (s.drop (digs s + 1)) = if kind = 3 then (⟨3, a, 0⟩, 1, decide (s.drop (digs s + 1) = [])) else
            match numb (s.drop (digs s + 1)) with
            | none => noSev
            | some n => if kind = 1 then (⟨1, a, 0⟩, n, decide (1 ≤ n)) else (⟨kind, a, n⟩, 1, decide (n ≤ 1048576)) := by
          intro kind
          unfold signedR; rw [hn]; exact if_neg ha
        have c0 : ¬ ((a : Int) < 0 ∨ 7 < (a : Int)) := by omega
        rw [if_neg c0] at hW
        rw [hR, hW]
        by_cases h1 : b.toNat = 33
        · have h2 : ¬ b.toNat = 120 := by omega
          have h3 : ¬ b.toNat = 126 := by omega
          simp only [if_pos h1, if_neg h2, if_neg h3, hS, if_true]
          by_cases hd : digs s + 1 = s.length
          · rw [if_pos hd]
            refine ⟨fun _ => ⟨rfl, by simp⟩, fun h => ?_⟩
            simp at h; omega
          · rw [if_neg hd]
            refine ⟨fun h => ?_, fun _ => rfl⟩
            simp at h; omega
        · by_cases h2 : b.toNat = 126
          · have h3 : ¬ b.toNat = 120 := by omega
            simp only [if_neg h1, if_pos h2, if_neg h3, hS, show ¬ (2 : Int) = 3 by decide, if_false, show ¬ (2 : Int) = 1 by decide]
            cases ht : numb (s.drop (digs s + 1)) with
            | none => rw [numI_none ht]; exact Agree.no rfl
            | some n =>
              rw [numI_some ht]
              by_cases hm : n ≤ 1048576
              · rw [if_pos (by omega)]
                refine ⟨fun _ => ⟨rfl, by simp⟩, fun h => ?_⟩
                simp at h; omega
              · rw [if_neg (by omega)]
                refine ⟨fun h => ?_, fun _ => rfl⟩
                simp at h; omega
          · by_cases h3 : b.toNat = 120
            · simp only [if_neg h1, if_neg h2, if_pos h3, hS, show ¬ (1 : Int) = 3 by decide, if_false, if_true]
              cases ht : numb (s.drop (digs s + 1)) with
              | none => rw [numI_none ht]; exact Agree.no rfl
              | some n =>
                rw [numI_some ht]
                refine ⟨fun h => ?_, fun h => ?_⟩
                · simp at h
                  exact ⟨by simp <;> omega, by simp <;> omega⟩
                · simp at h; simp; omega
            · simp only [if_neg h1, if_neg h2, if_neg h3]
              exact Agree.no rfl

def wordD (x : Pick × Int) : Dat := .tuple [.agg (pickL x.1), I x.2]

end Uw.Tryd

/- The document's word. -/
set_option linter.unusedVariables false
set_option linter.unusedSimpArgs false
namespace Uw.Tryd
open Go Uw Go.Proofs Go.RowKit

set_option maxHeartbeats 1000000 in
theorem s_ref29_word (s : List UInt8) (hs : s.length < 1000000) : Ret P0 n_ref29_word [.str s] (wordD (wordR s)) := by
  have fin : ∀ (k : Nat) (A B : Int), digs s = k → numI (s.take k) = A → numI (s.drop (k + 1)) = B → wordR s = if A < 0 ∨ 7 < A then (⟨1, A, 0⟩, 0)
      else match s[k]? with
      | none => (⟨1, A, 0⟩, 1)
      | some b =>
        if b.toNat = 33 then (⟨3, A, 0⟩, if k + 1 = s.length then 1 else 0)
        else if b.toNat = 126 then (⟨2, A, B⟩, if 0 ≤ B ∧ B ≤ 1048576 then 1 else 0)
        else if b.toNat = 120 then (⟨1, A, 0⟩, max B 0)
        else (⟨1, A, 0⟩, 0) := by
    intro k A B h1 h2 h3
    subst h1; subst h2; subst h3; rfl
  generalize hW : wordR s = W at fin
  refine Ret_by is_ref29_word rfl ?_
  refine WT_loop (fun k : Nat => ⟨[(4, .d (I k)), (2, .ptr 0 0), (0, .d (.str s))], [(0, .var [.d (I 0), .d (I 0), .d (I 0)])], 1, [], 0⟩)
    (fun k => k ≤ s.length ∧ (s.take k).all isDig = true) (fun k => s.length - k) 0 (by ((refine Weak.of ?_ ?_ rfl rfl ?_ rfl rfl <;> repeat' first | exact trivial | refine ⟨⟨_, rfl, Or.inl ⟨rfl, rfl⟩⟩, ?_⟩ | refine ⟨⟨_, rfl, Or.inr (Or.inl ⟨rfl, by first | exact ⟨_, _, rfl, rfl, Or.inl rfl⟩ | exact ⟨_, _, rfl, rfl, Or.inr rfl⟩⟩)⟩, ?_⟩ | refine ⟨⟨_, rfl, Or.inr (Or.inr rfl)⟩, ?_⟩ | refine ⟨⟨_, rfl, VW_int (by assumption)⟩, ?_⟩ | refine ⟨⟨Or.inl ⟨_, rfl, ⟨rfl, rfl⟩⟩, rfl⟩, ?_⟩ | refine ⟨⟨Or.inl ⟨_, rfl, ⟨rfl, rfl, rfl⟩⟩, rfl⟩, ?_⟩ | refine ⟨⟨Or.inl ⟨_, rfl, BSim_by rfl rfl⟩, rfl⟩, ?_⟩ | refine ⟨⟨Or.inr ⟨rfl, rfl⟩, rfl⟩, ?_⟩ | refine ⟨⟨Or.inr ⟨rfl, rfl, rfl⟩, rfl⟩, ?_⟩))) (by simp) ?_
  rintro k ⟨h1, h2⟩
  have nr := numI_range (s.take k)
  have nr2 := numI_range (s.drop (k + 1))
  have hn1 : Ret P0 n_ref29_number [.str ((s.take k).drop 0)] (I (numI (s.take k))) := by
    rw [List.drop_zero]; exact s_ref29_number _ (by simp; omega)
  have hn2 : Ret P0 n_ref29_number [.str ((s.take s.length).drop (k + 1))] (I (numI (s.drop (k + 1)))) := by
    rw [List.take_length]; exact s_ref29_number _ (by simp; omega)
  have fin := fun h => fin k _ _ h rfl rfl
  generalize numI (s.take k) = A at nr hn1 fin
  generalize numI (s.drop (k + 1)) = B at nr2 hn2 fin
  refine WT_test (fun h3 => ?_) (fun h3 => ?_)
  · have h3 : k < s.length := by simpa using h3
    have hk : s[k]? = some s[k] := by simp [h3]
    have hbd : s[k].toNat < 256 := s[k].toNat_lt
    have stop : isDig s[k] = false → W = if A < 0 ∨ 7 < A then (⟨1, A, 0⟩, 0)
        else if s[k].toNat = 33 then (⟨3, A, 0⟩, if k + 1 = s.length then 1 else 0)
        else if s[k].toNat = 126 then (⟨2, A, B⟩, if 0 ≤ B ∧ B ≤ 1048576 then 1 else 0)
        else if s[k].toNat = 120 then (⟨1, A, 0⟩, max B 0)
        else (⟨1, A, 0⟩, 0) := by
      intro h
      rw [fin (digs_of s k h1 h2 (by intro b hb; rw [hk] at hb; injection hb with hb; rw [← hb]; exact h)), hk]
    (repeat first | refine WT_inR (by simp [inR]; omega) ?_ | refine WT_t rfl ?_ | refine WT_f rfl ?_ | refine WT_guard (by first | (simp [inR]; done) | (simp [inR]; omega)) ?_ | refine WT_elem _ (map_get _ _ _ (by first | assumption | omega)) ?_)
    refine WT_byte s[k] hk ?_
    (repeat first | refine WT_inR (by simp [inR]; omega) ?_ | refine WT_t rfl ?_ | refine WT_f rfl ?_ | refine WT_guard (by first | (simp [inR]; done) | (simp [inR]; omega)) ?_ | refine WT_elem _ (map_get _ _ _ (by first | assumption | omega)) ?_)
    refine WT_test (fun h4 => ?zA) (fun h4 => ?zB)
    case' zB => have hnd : isDig s[k] = false := by simp at h4; simp [isDig]; omega
    case' zA =>
      (repeat first | refine WT_inR (by simp [inR]; omega) ?_ | refine WT_t rfl ?_ | refine WT_f rfl ?_ | refine WT_guard (by first | (simp [inR]; done) | (simp [inR]; omega)) ?_ | refine WT_elem _ (map_get _ _ _ (by first | assumption | omega)) ?_)
      refine WT_byte s[k] hk ?_
      (repeat first | refine WT_inR (by simp [inR]; omega) ?_ | refine WT_t rfl ?_ | refine WT_f rfl ?_ | refine WT_guard (by first | (simp [inR]; done) | (simp [inR]; omega)) ?_ | refine WT_elem _ (map_get _ _ _ (by first | assumption | omega)) ?_)
      refine WT_test (fun h5 => ?zC) (fun h5 => ?zD)
    case zC =>
      (repeat first | refine WT_inR (by simp [inR]; omega) ?_ | refine WT_t rfl ?_ | refine WT_f rfl ?_ | refine WT_guard (by first | (simp [inR]; done) | (simp [inR]; omega)) ?_ | refine WT_elem _ (map_get _ _ _ (by first | assumption | omega)) ?_)
      refine WT_again (k + 1) ⟨by omega, ?_⟩ (by omega) (by ((refine Weak.of ?_ ?_ rfl rfl ?_ rfl rfl <;> repeat' first | exact trivial | refine ⟨⟨_, rfl, Or.inl ⟨rfl, rfl⟩⟩, ?_⟩ | refine ⟨⟨_, rfl, Or.inr (Or.inl ⟨rfl, by first | exact ⟨_, _, rfl, rfl, Or.inl rfl⟩ | exact ⟨_, _, rfl, rfl, Or.inr rfl⟩⟩)⟩, ?_⟩ | refine ⟨⟨_, rfl, Or.inr (Or.inr rfl)⟩, ?_⟩ | refine ⟨⟨_, rfl, VW_int (by assumption)⟩, ?_⟩ | refine ⟨⟨Or.inl ⟨_, rfl, ⟨rfl, rfl⟩⟩, rfl⟩, ?_⟩ | refine ⟨⟨Or.inl ⟨_, rfl, ⟨rfl, rfl, rfl⟩⟩, rfl⟩, ?_⟩ | refine ⟨⟨Or.inl ⟨_, rfl, BSim_by rfl rfl⟩, rfl⟩, ?_⟩ | refine ⟨⟨Or.inr ⟨rfl, rfl⟩, rfl⟩, ?_⟩ | refine ⟨⟨Or.inr ⟨rfl, rfl, rfl⟩, rfl⟩, ?_⟩)))
      simp at h4 h5
      rw [all_take _ _ _ h3, h2]; simp [isDig]; omega
    case' zD => have hnd : isDig s[k] = false := by simp at h4 h5; simp [isDig]; omega
    all_goals
      have hw := stop hnd
      (repeat first | refine WT_inR (by simp [inR]; omega) ?_ | refine WT_t rfl ?_ | refine WT_f rfl ?_ | refine WT_guard (by first | (simp [inR]; done) | (simp [inR]; omega)) ?_ | refine WT_elem _ (map_get _ _ _ (by first | assumption | omega)) ?_)
      refine WT_call _ hn1 ?_
      refine WT_test (fun h6 => ?_) (fun h6 => ?_)
      · have h6 : ¬ A < 0 := by simp at h6; omega
        (repeat first | refine WT_inR (by simp [inR]; omega) ?_ | refine WT_t rfl ?_ | refine WT_f rfl ?_ | refine WT_guard (by first | (simp [inR]; done) | (simp [inR]; omega)) ?_ | refine WT_elem _ (map_get _ _ _ (by first | assumption | omega)) ?_)
        refine WT_test (fun h7 => ?_) (fun h7 => ?_)
        · have h7 : 7 < A := by simpa using h7
          (repeat first | refine WT_inR (by simp [inR]; omega) ?_ | refine WT_t rfl ?_ | refine WT_f rfl ?_ | refine WT_guard (by first | (simp [inR]; done) | (simp [inR]; omega)) ?_ | refine WT_elem _ (map_get _ _ _ (by first | assumption | omega)) ?_)
          refine WT_ret rfl rfl rfl rfl ?_
          rw [hw, if_pos (.inr h7)]; rfl
        · have h7 : ¬ 7 < A := by simpa using h7
          rw [if_neg (by omega)] at hw
          (repeat first | refine WT_inR (by simp [inR]; omega) ?_ | refine WT_t rfl ?_ | refine WT_f rfl ?_ | refine WT_guard (by first | (simp [inR]; done) | (simp [inR]; omega)) ?_ | refine WT_elem _ (map_get _ _ _ (by first | assumption | omega)) ?_)
          refine WT_f (by simp; omega) ?_
          (repeat first | refine WT_inR (by simp [inR]; omega) ?_ | refine WT_t rfl ?_ | refine WT_f rfl ?_ | refine WT_guard (by first | (simp [inR]; done) | (simp [inR]; omega)) ?_ | refine WT_elem _ (map_get _ _ _ (by first | assumption | omega)) ?_)
          refine WT_call _ hn2 ?_
          (repeat first | refine WT_inR (by simp [inR]; omega) ?_ | refine WT_t rfl ?_ | refine WT_f rfl ?_ | refine WT_guard (by first | (simp [inR]; done) | (simp [inR]; omega)) ?_ | refine WT_elem _ (map_get _ _ _ (by first | assumption | omega)) ?_)
          refine WT_byte s[k] hk ?_
          refine WT_test (fun h8 => ?_) (fun h8 => ?_)
          · have h8 : s[k].toNat = 33 := by simp at h8; omega
            rw [if_pos h8] at hw
            (repeat first | refine WT_inR (by simp [inR]; omega) ?_ | refine WT_t rfl ?_ | refine WT_f rfl ?_ | refine WT_guard (by first | (simp [inR]; done) | (simp [inR]; omega)) ?_ | refine WT_elem _ (map_get _ _ _ (by first | assumption | omega)) ?_)
            refine WT_test (fun h9 => ?_) (fun h9 => ?_)
            · have h9 : k + 1 = s.length := by simp at h9; omega
              (repeat first | refine WT_inR (by simp [inR]; omega) ?_ | refine WT_t rfl ?_ | refine WT_f rfl ?_ | refine WT_guard (by first | (simp [inR]; done) | (simp [inR]; omega)) ?_ | refine WT_elem _ (map_get _ _ _ (by first | assumption | omega)) ?_)
              refine WT_ret rfl rfl rfl rfl ?_
              rw [hw, if_pos h9]; rfl
            · have h9 : ¬ k + 1 = s.length := by simp at h9; omega
              (repeat first | refine WT_inR (by simp [inR]; omega) ?_ | refine WT_t rfl ?_ | refine WT_f rfl ?_ | refine WT_guard (by first | (simp [inR]; done) | (simp [inR]; omega)) ?_ | refine WT_elem _ (map_get _ _ _ (by first | assumption | omega)) ?_)
              refine WT_ret rfl rfl rfl rfl ?_
              rw [hw, if_neg h9]; rfl
          · have h8 : ¬ s[k].toNat = 33 := by simp at h8; omega
            rw [if_neg h8] at hw
            (repeat first | refine WT_inR (by simp [inR]; omega) ?_ | refine WT_t rfl ?_ | refine WT_f rfl ?_ | refine WT_guard (by first | (simp [inR]; done) | (simp [inR]; omega)) ?_ | refine WT_elem _ (map_get _ _ _ (by first | assumption | omega)) ?_)
            refine WT_test (fun h9 => ?_) (fun h9 => ?_)
            · have h9 : s[k].toNat = 126 := by simp at h9; omega
              rw [if_pos h9] at hw
              (repeat first | refine WT_inR (by simp [inR]; omega) ?_ | refine WT_t rfl ?_ | refine WT_f rfl ?_ | refine WT_guard (by first | (simp [inR]; done) | (simp [inR]; omega)) ?_ | refine WT_elem _ (map_get _ _ _ (by first | assumption | omega)) ?_)
              refine WT_test (fun h10 => ?_) (fun h10 => ?_)
              · have h10 : 0 ≤ B := by simpa using h10
                (repeat first | refine WT_inR (by simp [inR]; omega) ?_ | refine WT_t rfl ?_ | refine WT_f rfl ?_ | refine WT_guard (by first | (simp [inR]; done) | (simp [inR]; omega)) ?_ | refine WT_elem _ (map_get _ _ _ (by first | assumption | omega)) ?_)
                refine WT_test (fun h11 => ?_) (fun h11 => ?_)
                · have h11 : B ≤ 1048576 := by simpa using h11
                  (repeat first | refine WT_inR (by simp [inR]; omega) ?_ | refine WT_t rfl ?_ | refine WT_f rfl ?_ | refine WT_guard (by first | (simp [inR]; done) | (simp [inR]; omega)) ?_ | refine WT_elem _ (map_get _ _ _ (by first | assumption | omega)) ?_)
                  refine WT_ret rfl rfl rfl rfl ?_
                  rw [hw, if_pos ⟨h10, h11⟩]; rfl
                · have h11 : ¬ B ≤ 1048576 := by simpa using h11
                  (repeat first | refine WT_inR (by simp [inR]; omega) ?_ | refine WT_t rfl ?_ | refine WT_f rfl ?_ | refine WT_guard (by first | (simp [inR]; done) | (simp [inR]; omega)) ?_ | refine WT_elem _ (map_get _ _ _ (by first | assumption | omega)) ?_)
                  refine WT_ret rfl rfl rfl rfl ?_
                  rw [hw, if_neg (by omega)]; rfl
              · have h10 : ¬ 0 ≤ B := by simpa using h10
                (repeat first | refine WT_inR (by simp [inR]; omega) ?_ | refine WT_t rfl ?_ | refine WT_f rfl ?_ | refine WT_guard (by first | (simp [inR]; done) | (simp [inR]; omega)) ?_ | refine WT_elem _ (map_get _ _ _ (by first | assumption | omega)) ?_)
                refine WT_ret rfl rfl rfl rfl ?_
                rw [hw, if_neg (by omega)]; rfl
            · have h9 : ¬ s[k].toNat = 126 := by simp at h9; omega
              rw [if_neg h9] at hw
              (repeat first | refine WT_inR (by simp [inR]; omega) ?_ | refine WT_t rfl ?_ | refine WT_f rfl ?_ | refine WT_guard (by first | (simp [inR]; done) | (simp [inR]; omega)) ?_ | refine WT_elem _ (map_get _ _ _ (by first | assumption | omega)) ?_)
              refine WT_test (fun h10 => ?_) (fun h10 => ?_)
              · have h10 : s[k].toNat = 120 := by simp at h10; omega
                rw [if_pos h10] at hw
                (repeat first | refine WT_inR (by simp [inR]; omega) ?_ | refine WT_t rfl ?_ | refine WT_f rfl ?_ | refine WT_guard (by first | (simp [inR]; done) | (simp [inR]; omega)) ?_ | refine WT_elem _ (map_get _ _ _ (by first | assumption | omega)) ?_)
                refine WT_ret rfl rfl rfl rfl ?_
                rw [hw]; rfl
              · have h10 : ¬ s[k].toNat = 120 := by simp at h10; omega
                rw [if_neg h10] at hw
                (repeat first | refine WT_inR (by simp [inR]; omega) ?_ | refine WT_t rfl ?_ | refine WT_f rfl ?_ | refine WT_guard (by first | (simp [inR]; done) | (simp [inR]; omega)) ?_ | refine WT_elem _ (map_get _ _ _ (by first | assumption | omega)) ?_)
                refine WT_ret rfl rfl rfl rfl ?_
                rw [hw]; rfl
      · have h6 : A < 0 := by simp at h6; omega
        (repeat first | refine WT_inR (by simp [inR]; omega) ?_ | refine WT_t rfl ?_ | refine WT_f rfl ?_ | refine WT_guard (by first | (simp [inR]; done) | (simp [inR]; omega)) ?_ | refine WT_elem _ (map_get _ _ _ (by first | assumption | omega)) ?_)
        refine WT_ret rfl rfl rfl rfl ?_
        rw [hw, if_pos (.inl h6)]; rfl
  · have h3 : s.length ≤ k := by simpa using h3
    have hw := fin (digs_of s k h1 h2 (by intro b hb; rw [List.getElem?_eq_none (by omega)] at hb; cases hb))
    rw [List.getElem?_eq_none (by omega)] at hw
    simp only at hw
    (repeat first | refine WT_inR (by simp [inR]; omega) ?_ | refine WT_t rfl ?_ | refine WT_f rfl ?_ | refine WT_guard (by first | (simp [inR]; done) | (simp [inR]; omega)) ?_ | refine WT_elem _ (map_get _ _ _ (by first | assumption | omega)) ?_)
    refine WT_call _ hn1 ?_
    refine WT_test (fun h6 => ?_) (fun h6 => ?_)
    · have h6 : ¬ A < 0 := by simp at h6; omega
      (repeat first | refine WT_inR (by simp [inR]; omega) ?_ | refine WT_t rfl ?_ | refine WT_f rfl ?_ | refine WT_guard (by first | (simp [inR]; done) | (simp [inR]; omega)) ?_ | refine WT_elem _ (map_get _ _ _ (by first | assumption | omega)) ?_)
      refine WT_test (fun h7 => ?_) (fun h7 => ?_)
      · have h7 : 7 < A := by simpa using h7
        (repeat first | refine WT_inR (by simp [inR]; omega) ?_ | refine WT_t rfl ?_ | refine WT_f rfl ?_ | refine WT_guard (by first | (simp [inR]; done) | (simp [inR]; omega)) ?_ | refine WT_elem _ (map_get _ _ _ (by first | assumption | omega)) ?_)
        refine WT_ret rfl rfl rfl rfl ?_
        rw [hw, if_pos (.inr h7)]; rfl
      · have h7 : ¬ 7 < A := by simpa using h7
        (repeat first | refine WT_inR (by simp [inR]; omega) ?_ | refine WT_t rfl ?_ | refine WT_f rfl ?_ | refine WT_guard (by first | (simp [inR]; done) | (simp [inR]; omega)) ?_ | refine WT_elem _ (map_get _ _ _ (by first | assumption | omega)) ?_)
        refine WT_t (by simp; omega) ?_
        (repeat first | refine WT_inR (by simp [inR]; omega) ?_ | refine WT_t rfl ?_ | refine WT_f rfl ?_ | refine WT_guard (by first | (simp [inR]; done) | (simp [inR]; omega)) ?_ | refine WT_elem _ (map_get _ _ _ (by first | assumption | omega)) ?_)
        refine WT_ret rfl rfl rfl rfl ?_
        rw [hw, if_neg (by omega)]; rfl
    · have h6 : A < 0 := by simp at h6; omega
      (repeat first | refine WT_inR (by simp [inR]; omega) ?_ | refine WT_t rfl ?_ | refine WT_f rfl ?_ | refine WT_guard (by first | (simp [inR]; done) | (simp [inR]; omega)) ?_ | refine WT_elem _ (map_get _ _ _ (by first | assumption | omega)) ?_)
      refine WT_ret rfl rfl rfl rfl ?_
      rw [hw, if_pos (.inl h6)]; rfl
end Uw.Tryd

/- Parse, the program's and the document's. -/
set_option linter.unusedVariables false
set_option linter.unusedSimpArgs false
namespace Uw.Tryd
open Go Uw Go.Proofs Go.RowKit

def okW (w : List UInt8) : Bool := (readR w).2.2
def manyW (w : List UInt8) : Int := (readR w).2.1
def pickW (w : List UInt8) : Pick := (readR w).1
def sevL (w : List UInt8) : List Dat := [I (pickW w).kind, I (pickW w).a, I (pickW w).b, I (manyW w)]
def totalW (l : List (List UInt8)) : Int := (l.map manyW).sum
def expand (l : List (List UInt8)) : List Pick := l.flatMap fun w => List.replicate (manyW w).toNat (pickW w)

theorem wordR_le (w : List UInt8) : (wordR w).2 ≤ 10000000 := by
  have h1 := numI_range (w.drop (digs w + 1))
  rw [wordR]
  repeat' split
  all_goals simp
  omega

theorem many_range (w : List UInt8) (h : okW w = true) : 1 ≤ manyW w ∧ manyW w ≤ 10000000 := by
  have := (word_read w).1 h
  have h2 := wordR_le w
  rw [this.1] at h2
  exact ⟨this.2, h2⟩

theorem totalW_take (l : List (List UInt8)) (k : Nat) (h : k < l.length) : totalW (l.take (k + 1)) = totalW (l.take k) + manyW l[k] := by
  rw [take_one l k h, totalW, totalW, List.map_append, List.sum_append]; simp

theorem totalW_range (l : List (List UInt8)) : ∀ k, k ≤ l.length → (l.take k).all okW = true → 0 ≤ totalW (l.take k) ∧ totalW (l.take k) ≤ 10000000 * k
  | 0, _, _ => by simp [totalW]
  | k + 1, h, ha => by
    rw [take_one l k (by omega), List.all_append, Bool.and_eq_true] at ha
    have ih := totalW_range l k (by omega) ha.1
    have h2 := many_range l[k] (by simpa using ha.2)
    rw [totalW_take l k (by omega)]; omega

theorem expand_take (l : List (List UInt8)) (k : Nat) (h : k < l.length) : expand (l.take (k + 1)) = expand (l.take k) ++ List.replicate (manyW l[k]).toNat (pickW l[k]) := by
  rw [take_one l k h, expand, expand, List.flatMap_append]; simp

theorem expand_len (l : List (List UInt8)) : ∀ k, k ≤ l.length → (l.take k).all okW = true → ((expand (l.take k)).length : Int) = totalW (l.take k)
  | 0, _, _ => by simp [expand, totalW]
  | k + 1, h, ha => by
    have ha' := ha
    rw [take_one l k (by omega), List.all_append, Bool.and_eq_true] at ha
    have ih := expand_len l k (by omega) ha.1
    have h2 := many_range l[k] (by simpa using ha.2)
    rw [totalW_take l k (by omega), expand_take l k (by omega), List.length_append, List.length_replicate]; omega

def parseP (ws : List (List UInt8)) : Option (List Pick) × Int := if ws.all okW = true then (if 10000 < totalW ws then (none, 2) else (some (expand ws), 0)) else (none, 3)
def picksO : Option (List Pick) → Dat
  | none => .nil
  | some l => picksD l
def parseD (x : Option (List Pick) × Int) : Dat := .tuple [picksO x.1, I x.2]

theorem parseP_no {ws : List (List UInt8)} (k : Nat) (h : k < ws.length) (h2 : okW ws[k] = false) : parseP ws = (none, 3) := by
  rw [parseP, if_neg]
  intro ha
  have := List.all_eq_true.1 ha ws[k] (List.getElem_mem _)
  rw [h2] at this; cases this

theorem s_script_Parse0 (s : List UInt8) (hs : s.length < 10000) (hws : (wordsOf s).length < 10000) (hwl : ∀ w ∈ wordsOf s, w.length < 10000) : Ret P0 n_script_Parse [.str s] (parseD (parseP (wordsOf s))) := by
  refine Ret_by is_script_Parse rfl ?_
  refine WT_call _ (s_script_split s (by omega)) ?_
  generalize wordsOf s = ws at hws hwl ⊢
  refine WT_loop (fun z : Nat × Nat × List (List Dat) × Int => ⟨[(16, .d (I z.1)), (15, .d (I (ws.map fun s => [Dat.str s]).length)), (14, .d (strsD ws)), (5, .d (I z.2.2.2)), (4, .ref 0 0 0 z.2.1)], [(0, .arr 4 z.2.2.1)], 1, [], 0⟩)
    (fun z => z.1 ≤ ws.length ∧ z.2.1 = z.2.2.1.length ∧ z.2.2.1 = (ws.take z.1).map sevL ∧ (ws.take z.1).all okW = true ∧ z.2.2.2 = totalW (ws.take z.1)) (fun z => ws.length - z.1) (0, 0, [], 0) (by ((refine Weak.of ?_ ?_ rfl rfl ?_ rfl rfl <;> repeat' first | exact trivial | refine ⟨⟨_, rfl, Or.inl ⟨rfl, rfl⟩⟩, ?_⟩ | refine ⟨⟨_, rfl, Or.inr (Or.inl ⟨rfl, by first | exact ⟨_, _, rfl, rfl, Or.inl rfl⟩ | exact ⟨_, _, rfl, rfl, Or.inr rfl⟩⟩)⟩, ?_⟩ | refine ⟨⟨_, rfl, Or.inr (Or.inr rfl)⟩, ?_⟩ | refine ⟨⟨_, rfl, VW_int (by assumption)⟩, ?_⟩ | refine ⟨⟨Or.inl ⟨_, rfl, ⟨rfl, rfl⟩⟩, rfl⟩, ?_⟩ | refine ⟨⟨Or.inl ⟨_, rfl, ⟨rfl, rfl, rfl⟩⟩, rfl⟩, ?_⟩ | refine ⟨⟨Or.inl ⟨_, rfl, BSim_by rfl rfl⟩, rfl⟩, ?_⟩ | refine ⟨⟨Or.inr ⟨rfl, rfl⟩, rfl⟩, ?_⟩ | refine ⟨⟨Or.inr ⟨rfl, rfl, rfl⟩, rfl⟩, ?_⟩))) (by simp [totalW]) ?_
  rintro ⟨k, n, xs, tot⟩ ⟨h1, h2, h3, h4, h5⟩
  simp only at h1 h2 h3 h4 h5
  have hr := totalW_range ws k h1 h4
  have hn : n = k := by rw [h2, h3]; simp; omega
  refine WT_test (fun h6 => ?_) (fun h6 => ?_)
  · have h6 : k < ws.length := by simpa using h6
    have hwk : ws[k].length < 1000000 := by have := hwl ws[k] (List.getElem_mem _); omega
    have hrd := s_script_read ws[k] hwk
    have hok : okW ws[k] = (readR ws[k]).2.2 := rfl
    have hmr := many_range ws[k]
    have hsv : sevL ws[k] = [I (readR ws[k]).1.kind, I (readR ws[k]).1.a, I (readR ws[k]).1.b, I (readR ws[k]).2.1] := rfl
    have htt := totalW_take ws k h6
    rw [manyW] at hmr htt
    generalize readR ws[k] = R at hrd hok hmr hsv htt
    (repeat first | refine WT_inR (by simp [inR]; omega) ?_ | refine WT_t rfl ?_ | refine WT_f rfl ?_ | refine WT_guard (by first | (simp [inR]; done) | (simp [inR]; omega)) ?_ | refine WT_elem _ (map_get _ _ _ (by first | assumption | omega)) ?_)
    refine WT_call _ hrd ?_
    (repeat first | refine WT_inR (by simp [inR]; omega) ?_ | refine WT_t rfl ?_ | refine WT_f rfl ?_ | refine WT_guard (by first | (simp [inR]; done) | (simp [inR]; omega)) ?_ | refine WT_elem _ (map_get _ _ _ (by first | assumption | omega)) ?_)
    refine WT_test (fun h7 => ?_) (fun h7 => ?_)
    · have h7 : R.2.2 = false := by simpa using h7
      (repeat first | refine WT_inR (by simp [inR]; omega) ?_ | refine WT_t rfl ?_ | refine WT_f rfl ?_ | refine WT_guard (by first | (simp [inR]; done) | (simp [inR]; omega)) ?_ | refine WT_elem _ (map_get _ _ _ (by first | assumption | omega)) ?_)
      refine WT_leave ?_
      refine WT_ret rfl rfl rfl rfl ?_
      rw [parseP_no k h6 (hok.trans h7)]; rfl
    · have h7 : R.2.2 = true := by simpa using h7
      have hm := hmr (hok.trans h7)
      (repeat first | refine WT_inR (by simp [inR]; omega) ?_ | refine WT_t rfl ?_ | refine WT_f rfl ?_ | refine WT_guard (by first | (simp [inR]; done) | (simp [inR]; omega)) ?_ | refine WT_elem _ (map_get _ _ _ (by first | assumption | omega)) ?_)
      refine WT_again (k + 1, n + 1, xs ++ [[I R.1.kind, I R.1.a, I R.1.b, I R.2.1]], tot + R.2.1) ⟨by simp; omega, by simp [h2], ?_, ?_, ?_⟩ (by simp; omega) (by ((refine Weak.of ?_ ?_ rfl rfl ?_ rfl rfl <;> repeat' first | exact trivial | refine ⟨⟨_, rfl, Or.inl ⟨rfl, rfl⟩⟩, ?_⟩ | refine ⟨⟨_, rfl, Or.inr (Or.inl ⟨rfl, by first | exact ⟨_, _, rfl, rfl, Or.inl rfl⟩ | exact ⟨_, _, rfl, rfl, Or.inr rfl⟩⟩)⟩, ?_⟩ | refine ⟨⟨_, rfl, Or.inr (Or.inr rfl)⟩, ?_⟩ | refine ⟨⟨_, rfl, VW_int (by assumption)⟩, ?_⟩ | refine ⟨⟨Or.inl ⟨_, rfl, ⟨rfl, rfl⟩⟩, rfl⟩, ?_⟩ | refine ⟨⟨Or.inl ⟨_, rfl, ⟨rfl, rfl, rfl⟩⟩, rfl⟩, ?_⟩ | refine ⟨⟨Or.inl ⟨_, rfl, BSim_by rfl rfl⟩, rfl⟩, ?_⟩ | refine ⟨⟨Or.inr ⟨rfl, rfl⟩, rfl⟩, ?_⟩ | refine ⟨⟨Or.inr ⟨rfl, rfl, rfl⟩, rfl⟩, ?_⟩)))
      · simp only; rw [take_one ws k h6, h3, List.map_append, ← hsv]; rfl
      · simp only; rw [take_one ws k h6, List.all_append, h4]; simp [hok, h7]
      · simp only; rw [htt, h5]
  · refine WT_break ?_
    have h6 : ws.length ≤ k := by simpa using h6
    rw [List.take_of_length_le h6] at h3 h4 h5 hr
    refine WT_test (fun h7 => ?_) (fun h7 => ?_)
    · have h7 : 10000 < tot := by simpa using h7
      (repeat first | refine WT_inR (by simp [inR]; omega) ?_ | refine WT_t rfl ?_ | refine WT_f rfl ?_ | refine WT_guard (by first | (simp [inR]; done) | (simp [inR]; omega)) ?_ | refine WT_elem _ (map_get _ _ _ (by first | assumption | omega)) ?_)
      refine WT_ret rfl rfl rfl rfl ?_
      rw [parseP, if_pos h4, if_pos (by omega)]; rfl
    · have h7 : ¬ 10000 < tot := by simpa using h7
      have hP : parseP ws = (some (expand ws), 0) := by rw [parseP, if_pos h4, if_neg (by omega)]
      (repeat first | refine WT_inR (by simp [inR]; omega) ?_ | refine WT_t rfl ?_ | refine WT_f rfl ?_ | refine WT_guard (by first | (simp [inR]; done) | (simp [inR]; omega)) ?_ | refine WT_elem _ (map_get _ _ _ (by first | assumption | omega)) ?_)
      have hkl : k = ws.length := by omega
      have hnn : n = ws.length := by omega
      refine WT_loop (fun z : Nat × Nat × List (List Dat) => ⟨[(42, .d (I z.1)), (41, .d (I n)), (40, .ref 0 0 0 n), (10, .ref 1 0 0 z.2.1)], [(1, .arr 3 z.2.2), (0, .arr 4 xs)], 2, [], 0⟩)
        (fun z => z.1 ≤ ws.length ∧ z.2.1 = z.2.2.length ∧ z.2.2 = (expand (ws.take z.1)).map pickL) (fun z => ws.length - z.1) (0, 0, []) (by ((refine Weak.of ?_ ?_ rfl rfl ?_ rfl rfl <;> repeat' first | exact trivial | refine ⟨⟨_, rfl, Or.inl ⟨rfl, rfl⟩⟩, ?_⟩ | refine ⟨⟨_, rfl, Or.inr (Or.inl ⟨rfl, by first | exact ⟨_, _, rfl, rfl, Or.inl rfl⟩ | exact ⟨_, _, rfl, rfl, Or.inr rfl⟩⟩)⟩, ?_⟩ | refine ⟨⟨_, rfl, Or.inr (Or.inr rfl)⟩, ?_⟩ | refine ⟨⟨_, rfl, VW_int (by assumption)⟩, ?_⟩ | refine ⟨⟨Or.inl ⟨_, rfl, ⟨rfl, rfl⟩⟩, rfl⟩, ?_⟩ | refine ⟨⟨Or.inl ⟨_, rfl, ⟨rfl, rfl, rfl⟩⟩, rfl⟩, ?_⟩ | refine ⟨⟨Or.inl ⟨_, rfl, BSim_by rfl rfl⟩, rfl⟩, ?_⟩ | refine ⟨⟨Or.inr ⟨rfl, rfl⟩, rfl⟩, ?_⟩ | refine ⟨⟨Or.inr ⟨rfl, rfl, rfl⟩, rfl⟩, ?_⟩))) (by simp [expand]) ?_
      rintro ⟨j, m, ys⟩ ⟨g1, g2, g3⟩
      simp only at g1 g2 g3
      have hall : ∀ i, (ws.take i).all okW = true := by
        intro i
        rw [List.all_eq_true] at h4 ⊢
        exact fun x hx => h4 x (List.mem_of_mem_take hx)
      have hm1 : (m : Int) = totalW (ws.take j) := by rw [g2, g3, List.length_map]; exact expand_len ws j g1 (hall j)
      have hm2 := totalW_range ws j g1 (hall j)
      refine WT_test (fun g4 => ?_) (fun g4 => ?_)
      · have g4 : j < ws.length := by simp at g4; omega
        have hxe : xs[0 + j]? = some (sevL ws[j]) := by rw [h3, Nat.zero_add]; exact map_get _ _ _ g4
        have hmj := many_range ws[j] (List.all_eq_true.1 h4 _ (List.getElem_mem _))
        (repeat first | refine WT_inR (by simp [inR]; omega) ?_ | refine WT_t rfl ?_ | refine WT_f rfl ?_ | refine WT_guard (by first | (simp [inR]; done) | (simp [inR]; omega)) ?_ | refine WT_elem _ (map_get _ _ _ (by first | assumption | omega)) ?_)
        have het := expand_take ws j g4
        have hsv : sevL ws[j] = [I (pickW ws[j]).kind, I (pickW ws[j]).a, I (pickW ws[j]).b, I (manyW ws[j])] := rfl
        rw [hsv] at hxe
        have hpl : pickL (pickW ws[j]) = [I (pickW ws[j]).kind, I (pickW ws[j]).a, I (pickW ws[j]).b] := rfl
        generalize pickW ws[j] = pk at *
        generalize manyW ws[j] = mn at *
        refine WT_elem _ hxe ?_
        (repeat first | refine WT_inR (by simp [inR]; omega) ?_ | refine WT_t rfl ?_ | refine WT_f rfl ?_ | refine WT_guard (by first | (simp [inR]; done) | (simp [inR]; omega)) ?_ | refine WT_elem _ (map_get _ _ _ (by first | assumption | omega)) ?_)
        refine WT_loop (fun z : Nat × Nat × List (List Dat) => ⟨[(48, .d (I z.1)), (47, .d (I mn)), (12, .ptr 2 0), (10, .ref 1 0 0 z.2.1), (42, .d (I j)), (41, .d (I n)), (40, .ref 0 0 0 n)], [(2, .var [.d (I pk.kind), .d (I pk.a), .d (I pk.b), .d (I mn)]), (1, .arr 3 z.2.2), (0, .arr 4 xs)], 3, [], 0⟩)
          (fun z => z.1 ≤ mn.toNat ∧ z.2.1 = z.2.2.length ∧ z.2.2 = ys ++ List.replicate z.1 (pickL pk)) (fun z => mn.toNat - z.1) (0, m, ys) (by ((refine Weak.of ?_ ?_ rfl rfl ?_ rfl rfl <;> repeat' first | exact trivial | refine ⟨⟨_, rfl, Or.inl ⟨rfl, rfl⟩⟩, ?_⟩ | refine ⟨⟨_, rfl, Or.inr (Or.inl ⟨rfl, by first | exact ⟨_, _, rfl, rfl, Or.inl rfl⟩ | exact ⟨_, _, rfl, rfl, Or.inr rfl⟩⟩)⟩, ?_⟩ | refine ⟨⟨_, rfl, Or.inr (Or.inr rfl)⟩, ?_⟩ | refine ⟨⟨_, rfl, VW_int (by assumption)⟩, ?_⟩ | refine ⟨⟨Or.inl ⟨_, rfl, ⟨rfl, rfl⟩⟩, rfl⟩, ?_⟩ | refine ⟨⟨Or.inl ⟨_, rfl, ⟨rfl, rfl, rfl⟩⟩, rfl⟩, ?_⟩ | refine ⟨⟨Or.inl ⟨_, rfl, BSim_by rfl rfl⟩, rfl⟩, ?_⟩ | refine ⟨⟨Or.inr ⟨rfl, rfl⟩, rfl⟩, ?_⟩ | refine ⟨⟨Or.inr ⟨rfl, rfl, rfl⟩, rfl⟩, ?_⟩))) (by simp [g2]) ?_
        rintro ⟨i, m', ys'⟩ ⟨f1, f2, f3⟩
        simp only at f1 f2 f3
        have hm' : m' = m + i := by rw [f2, f3, g2]; simp
        refine WT_test (fun f4 => ?_) (fun f4 => ?_)
        · have f4 : (i : Int) < mn := by simpa using f4
          (repeat first | refine WT_inR (by simp [inR]; omega) ?_ | refine WT_t rfl ?_ | refine WT_f rfl ?_ | refine WT_guard (by first | (simp [inR]; done) | (simp [inR]; omega)) ?_ | refine WT_elem _ (map_get _ _ _ (by first | assumption | omega)) ?_)
          refine WT_again (i + 1, m' + 1, ys' ++ [pickL pk]) ⟨by simp; omega, by simp [f2], ?_⟩ (by simp; omega) (by ((refine Weak.of ?_ ?_ rfl rfl ?_ rfl rfl <;> repeat' first | exact trivial | refine ⟨⟨_, rfl, Or.inl ⟨rfl, rfl⟩⟩, ?_⟩ | refine ⟨⟨_, rfl, Or.inr (Or.inl ⟨rfl, by first | exact ⟨_, _, rfl, rfl, Or.inl rfl⟩ | exact ⟨_, _, rfl, rfl, Or.inr rfl⟩⟩)⟩, ?_⟩ | refine ⟨⟨_, rfl, Or.inr (Or.inr rfl)⟩, ?_⟩ | refine ⟨⟨_, rfl, VW_int (by assumption)⟩, ?_⟩ | refine ⟨⟨Or.inl ⟨_, rfl, ⟨rfl, rfl⟩⟩, rfl⟩, ?_⟩ | refine ⟨⟨Or.inl ⟨_, rfl, ⟨rfl, rfl, rfl⟩⟩, rfl⟩, ?_⟩ | refine ⟨⟨Or.inl ⟨_, rfl, BSim_by rfl rfl⟩, rfl⟩, ?_⟩ | refine ⟨⟨Or.inr ⟨rfl, rfl⟩, rfl⟩, ?_⟩ | refine ⟨⟨Or.inr ⟨rfl, rfl, rfl⟩, rfl⟩, ?_⟩)))
          simp only; rw [f3, List.replicate_succ', List.append_assoc]
        · refine WT_break ?_
          have f4 : mn ≤ (i : Int) := by simp at f4; omega
          have hi : i = mn.toNat := by omega
          (repeat first | refine WT_inR (by simp [inR]; omega) ?_ | refine WT_t rfl ?_ | refine WT_f rfl ?_ | refine WT_guard (by first | (simp [inR]; done) | (simp [inR]; omega)) ?_ | refine WT_elem _ (map_get _ _ _ (by first | assumption | omega)) ?_)
          refine WT_again (j + 1, m', ys') ⟨by simp; omega, f2, ?_⟩ (by simp; omega) (by ((refine Weak.of ?_ ?_ rfl rfl ?_ rfl rfl <;> repeat' first | exact trivial | refine ⟨⟨_, rfl, Or.inl ⟨rfl, rfl⟩⟩, ?_⟩ | refine ⟨⟨_, rfl, Or.inr (Or.inl ⟨rfl, by first | exact ⟨_, _, rfl, rfl, Or.inl rfl⟩ | exact ⟨_, _, rfl, rfl, Or.inr rfl⟩⟩)⟩, ?_⟩ | refine ⟨⟨_, rfl, Or.inr (Or.inr rfl)⟩, ?_⟩ | refine ⟨⟨_, rfl, VW_int (by assumption)⟩, ?_⟩ | refine ⟨⟨Or.inl ⟨_, rfl, ⟨rfl, rfl⟩⟩, rfl⟩, ?_⟩ | refine ⟨⟨Or.inl ⟨_, rfl, ⟨rfl, rfl, rfl⟩⟩, rfl⟩, ?_⟩ | refine ⟨⟨Or.inl ⟨_, rfl, BSim_by rfl rfl⟩, rfl⟩, ?_⟩ | refine ⟨⟨Or.inr ⟨rfl, rfl⟩, rfl⟩, ?_⟩ | refine ⟨⟨Or.inr ⟨rfl, rfl, rfl⟩, rfl⟩, ?_⟩)))
          simp only; rw [f3, het, List.map_append, List.map_replicate, ← g3, hi]
      · refine WT_break ?_
        have g4 : ws.length ≤ j := by simp at g4; omega
        rw [List.take_of_length_le g4] at g3
        refine WT_ret rfl rfl rfl rfl ?_
        rw [hP]
        show Dat.tuple [.slice 3 ((ys.drop 0).take m) false, I 0] = _
        rw [row_eq g2 g3]; rfl

theorem parse_dle (x : Option (List Pick) × Int) : DLe (parseD x) (.tuple [picksD (x.1.getD []), I x.2]) := by
  obtain ⟨o, e⟩ := x
  cases o with
  | none => exact .tuple (.cons (.nil 3) (.refl _))
  | some l => exact .refl _

theorem s_ref29_Parse0 (s : List UInt8) (hs : s.length < 10000) (hws : (wordsOf s).length < 10000) (hwl : ∀ w ∈ wordsOf s, w.length < 10000) : Ret P0 n_ref29_Parse [.str s] (parseD (parseP (wordsOf s))) := by
  refine Ret_by is_ref29_Parse rfl ?_
  refine WT_call _ (s_ref29_words s (by omega)) ?_
  generalize wordsOf s = ws at hws hwl ⊢
  refine WT_loop (fun z : Nat × Int => ⟨[(6, .d (I z.1)), (5, .d (I z.2)), (4, .d (strsD ws))], [], 0, [], 0⟩)
    (fun z => z.1 ≤ ws.length ∧ (ws.take z.1).all okW = true ∧ z.2 = totalW (ws.take z.1)) (fun z => ws.length - z.1) (0, 0) (by ((refine Weak.of ?_ ?_ rfl rfl ?_ rfl rfl <;> repeat' first | exact trivial | refine ⟨⟨_, rfl, Or.inl ⟨rfl, rfl⟩⟩, ?_⟩ | refine ⟨⟨_, rfl, Or.inr (Or.inl ⟨rfl, by first | exact ⟨_, _, rfl, rfl, Or.inl rfl⟩ | exact ⟨_, _, rfl, rfl, Or.inr rfl⟩⟩)⟩, ?_⟩ | refine ⟨⟨_, rfl, Or.inr (Or.inr rfl)⟩, ?_⟩ | refine ⟨⟨_, rfl, VW_int (by assumption)⟩, ?_⟩ | refine ⟨⟨Or.inl ⟨_, rfl, ⟨rfl, rfl⟩⟩, rfl⟩, ?_⟩ | refine ⟨⟨Or.inl ⟨_, rfl, ⟨rfl, rfl, rfl⟩⟩, rfl⟩, ?_⟩ | refine ⟨⟨Or.inl ⟨_, rfl, BSim_by rfl rfl⟩, rfl⟩, ?_⟩ | refine ⟨⟨Or.inr ⟨rfl, rfl⟩, rfl⟩, ?_⟩ | refine ⟨⟨Or.inr ⟨rfl, rfl, rfl⟩, rfl⟩, ?_⟩))) (by simp [totalW]) ?_
  rintro ⟨k, tot⟩ ⟨h1, h4, h5⟩
  simp only at h1 h4 h5
  have hr := totalW_range ws k h1 h4
  have word : ∀ (j : Nat) (h : j < ws.length), Ret P0 n_ref29_word [.str ws[j]] (wordD (wordR ws[j])) ∧ ((wordR ws[j]).2 = 0 → okW ws[j] = false) ∧ ((wordR ws[j]).2 ≠ 0 → okW ws[j] = true ∧ (wordR ws[j]).1 = pickW ws[j] ∧ (wordR ws[j]).2 = manyW ws[j] ∧ 1 ≤ (wordR ws[j]).2 ∧ (wordR ws[j]).2 ≤ 10000000) := by
    intro j h
    refine ⟨s_ref29_word ws[j] (by have := hwl ws[j] (List.getElem_mem _); omega), ?_, ?_⟩
    · intro h0
      cases hk : okW ws[j] with
      | false => rfl
      | true =>
        have := (word_read ws[j]).1 hk
        rw [this.1] at h0
        simp only at h0; omega
    · intro h0
      cases hk : okW ws[j] with
      | false => exact (h0 ((word_read ws[j]).2 hk)).elim
      | true =>
        have := (word_read ws[j]).1 hk
        have h2 := many_range ws[j] hk
        rw [this.1]
        exact ⟨rfl, rfl, rfl, h2⟩
  refine WT_test (fun h6 => ?_) (fun h6 => ?_)
  · have h6 : k < ws.length := by simpa using h6
    have hw := word k h6
    have htt := totalW_take ws k h6
    generalize wordR ws[k] = R at hw
    (repeat first | refine WT_inR (by simp [inR]; omega) ?_ | refine WT_t rfl ?_ | refine WT_f rfl ?_ | refine WT_guard (by first | (simp [inR]; done) | (simp [inR]; omega)) ?_ | refine WT_elem _ (map_get _ _ _ (by first | assumption | omega)) ?_)
    refine WT_call _ hw.1 ?_
    refine WT_test (fun h7 => ?_) (fun h7 => ?_)
    · have h7 : R.2 = 0 := by simpa using h7
      (repeat first | refine WT_inR (by simp [inR]; omega) ?_ | refine WT_t rfl ?_ | refine WT_f rfl ?_ | refine WT_guard (by first | (simp [inR]; done) | (simp [inR]; omega)) ?_ | refine WT_elem _ (map_get _ _ _ (by first | assumption | omega)) ?_)
      refine WT_leave ?_
      refine WT_ret rfl rfl rfl rfl ?_
      rw [parseP_no k h6 (hw.2.1 h7)]; rfl
    · have h7 : R.2 ≠ 0 := by simpa using h7
      have hw2 := hw.2.2 h7
      have hb1 := hw2.2.2.2.1
      have hb2 := hw2.2.2.2.2
      (repeat first | refine WT_inR (by simp [inR]; omega) ?_ | refine WT_t rfl ?_ | refine WT_f rfl ?_ | refine WT_guard (by first | (simp [inR]; done) | (simp [inR]; omega)) ?_ | refine WT_elem _ (map_get _ _ _ (by first | assumption | omega)) ?_)
      refine WT_again (k + 1, tot + R.2) ⟨by simp; omega, ?_, ?_⟩ (by simp; omega) (by ((refine Weak.of ?_ ?_ rfl rfl ?_ rfl rfl <;> repeat' first | exact trivial | refine ⟨⟨_, rfl, Or.inl ⟨rfl, rfl⟩⟩, ?_⟩ | refine ⟨⟨_, rfl, Or.inr (Or.inl ⟨rfl, by first | exact ⟨_, _, rfl, rfl, Or.inl rfl⟩ | exact ⟨_, _, rfl, rfl, Or.inr rfl⟩⟩)⟩, ?_⟩ | refine ⟨⟨_, rfl, Or.inr (Or.inr rfl)⟩, ?_⟩ | refine ⟨⟨_, rfl, VW_int (by assumption)⟩, ?_⟩ | refine ⟨⟨Or.inl ⟨_, rfl, ⟨rfl, rfl⟩⟩, rfl⟩, ?_⟩ | refine ⟨⟨Or.inl ⟨_, rfl, ⟨rfl, rfl, rfl⟩⟩, rfl⟩, ?_⟩ | refine ⟨⟨Or.inl ⟨_, rfl, BSim_by rfl rfl⟩, rfl⟩, ?_⟩ | refine ⟨⟨Or.inr ⟨rfl, rfl⟩, rfl⟩, ?_⟩ | refine ⟨⟨Or.inr ⟨rfl, rfl, rfl⟩, rfl⟩, ?_⟩)))
      · simp only; rw [take_one ws k h6, List.all_append, h4]; simp [hw2.1]
      · simp only; rw [htt, h5, hw2.2.2.1]
  · refine WT_break ?_
    have h6 : ws.length ≤ k := by simpa using h6
    rw [List.take_of_length_le h6] at h4 h5 hr
    refine WT_test (fun h7 => ?_) (fun h7 => ?_)
    · have h7 : 10000 < tot := by simpa using h7
      (repeat first | refine WT_inR (by simp [inR]; omega) ?_ | refine WT_t rfl ?_ | refine WT_f rfl ?_ | refine WT_guard (by first | (simp [inR]; done) | (simp [inR]; omega)) ?_ | refine WT_elem _ (map_get _ _ _ (by first | assumption | omega)) ?_)
      refine WT_ret rfl rfl rfl rfl ?_
      rw [parseP, if_pos h4, if_pos (by omega)]; rfl
    · have h7 : ¬ 10000 < tot := by simpa using h7
      have hP : parseP ws = (some (expand ws), 0) := by rw [parseP, if_pos h4, if_neg (by omega)]
      (repeat first | refine WT_inR (by simp [inR]; omega) ?_ | refine WT_t rfl ?_ | refine WT_f rfl ?_ | refine WT_guard (by first | (simp [inR]; done) | (simp [inR]; omega)) ?_ | refine WT_elem _ (map_get _ _ _ (by first | assumption | omega)) ?_)
      have hall : ∀ i, (ws.take i).all okW = true := by
        intro i
        rw [List.all_eq_true] at h4 ⊢
        exact fun x hx => h4 x (List.mem_of_mem_take hx)
      refine WT_loop (fun z : Nat × Nat × List (List Dat) => ⟨[(10, .d (I z.1)), (9, .ref 0 0 0 z.2.1), (4, .d (strsD ws))], [(0, .arr 3 z.2.2)], 1, [], 0⟩)
        (fun z => z.1 ≤ ws.length ∧ z.2.1 = z.2.2.length ∧ z.2.2 = (expand (ws.take z.1)).map pickL) (fun z => ws.length - z.1) (0, 0, []) (by ((refine Weak.of ?_ ?_ rfl rfl ?_ rfl rfl <;> repeat' first | exact trivial | refine ⟨⟨_, rfl, Or.inl ⟨rfl, rfl⟩⟩, ?_⟩ | refine ⟨⟨_, rfl, Or.inr (Or.inl ⟨rfl, by first | exact ⟨_, _, rfl, rfl, Or.inl rfl⟩ | exact ⟨_, _, rfl, rfl, Or.inr rfl⟩⟩)⟩, ?_⟩ | refine ⟨⟨_, rfl, Or.inr (Or.inr rfl)⟩, ?_⟩ | refine ⟨⟨_, rfl, VW_int (by assumption)⟩, ?_⟩ | refine ⟨⟨Or.inl ⟨_, rfl, ⟨rfl, rfl⟩⟩, rfl⟩, ?_⟩ | refine ⟨⟨Or.inl ⟨_, rfl, ⟨rfl, rfl, rfl⟩⟩, rfl⟩, ?_⟩ | refine ⟨⟨Or.inl ⟨_, rfl, BSim_by rfl rfl⟩, rfl⟩, ?_⟩ | refine ⟨⟨Or.inr ⟨rfl, rfl⟩, rfl⟩, ?_⟩ | refine ⟨⟨Or.inr ⟨rfl, rfl, rfl⟩, rfl⟩, ?_⟩))) (by simp [expand]) ?_
      rintro ⟨j, m, ys⟩ ⟨g1, g2, g3⟩
      simp only at g1 g2 g3
      have hm1 : (m : Int) = totalW (ws.take j) := by rw [g2, g3, List.length_map]; exact expand_len ws j g1 (hall j)
      have hm2 := totalW_range ws j g1 (hall j)
      refine WT_test (fun g4 => ?_) (fun g4 => ?_)
      · have g4 : j < ws.length := by simp at g4; omega
        have hw := word j g4
        have hokj : okW ws[j] = true := List.all_eq_true.1 h4 _ (List.getElem_mem _)
        have hne : (wordR ws[j]).2 ≠ 0 := by intro h; rw [hw.2.1 h] at hokj; cases hokj
        have hw1 := hw.1
        have hw2 := hw.2.2 hne
        have het := expand_take ws j g4
        rw [← hw2.2.1, ← hw2.2.2.1] at het
        have hb1 := hw2.2.2.2.1
        have hb2 := hw2.2.2.2.2
        generalize wordR ws[j] = R at hw1 het hb1 hb2
        (repeat first | refine WT_inR (by simp [inR]; omega) ?_ | refine WT_t rfl ?_ | refine WT_f rfl ?_ | refine WT_guard (by first | (simp [inR]; done) | (simp [inR]; omega)) ?_ | refine WT_elem _ (map_get _ _ _ (by first | assumption | omega)) ?_)
        refine WT_call _ hw1 ?_
        (repeat first | refine WT_inR (by simp [inR]; omega) ?_ | refine WT_t rfl ?_ | refine WT_f rfl ?_ | refine WT_guard (by first | (simp [inR]; done) | (simp [inR]; omega)) ?_ | refine WT_elem _ (map_get _ _ _ (by first | assumption | omega)) ?_)
        refine WT_loop (fun z : Nat × Nat × List (List Dat) => ⟨[(13, .d (I z.1)), (12, .d (I R.2)), (11, .ptr 1 0), (9, .ref 0 0 0 z.2.1), (10, .d (I j)), (4, .d (strsD ws))], [(1, .var [.d (I R.1.kind), .d (I R.1.a), .d (I R.1.b)]), (0, .arr 3 z.2.2)], 2, [], 0⟩)
          (fun z => z.1 ≤ R.2.toNat ∧ z.2.1 = z.2.2.length ∧ z.2.2 = ys ++ List.replicate z.1 (pickL R.1)) (fun z => R.2.toNat - z.1) (0, m, ys) (by ((refine Weak.of ?_ ?_ rfl rfl ?_ rfl rfl <;> repeat' first | exact trivial | refine ⟨⟨_, rfl, Or.inl ⟨rfl, rfl⟩⟩, ?_⟩ | refine ⟨⟨_, rfl, Or.inr (Or.inl ⟨rfl, by first | exact ⟨_, _, rfl, rfl, Or.inl rfl⟩ | exact ⟨_, _, rfl, rfl, Or.inr rfl⟩⟩)⟩, ?_⟩ | refine ⟨⟨_, rfl, Or.inr (Or.inr rfl)⟩, ?_⟩ | refine ⟨⟨_, rfl, VW_int (by assumption)⟩, ?_⟩ | refine ⟨⟨Or.inl ⟨_, rfl, ⟨rfl, rfl⟩⟩, rfl⟩, ?_⟩ | refine ⟨⟨Or.inl ⟨_, rfl, ⟨rfl, rfl, rfl⟩⟩, rfl⟩, ?_⟩ | refine ⟨⟨Or.inl ⟨_, rfl, BSim_by rfl rfl⟩, rfl⟩, ?_⟩ | refine ⟨⟨Or.inr ⟨rfl, rfl⟩, rfl⟩, ?_⟩ | refine ⟨⟨Or.inr ⟨rfl, rfl, rfl⟩, rfl⟩, ?_⟩))) (by simp [g2]) ?_
        rintro ⟨i, m', ys'⟩ ⟨f1, f2, f3⟩
        simp only at f1 f2 f3
        have hm' : m' = m + i := by rw [f2, f3, g2]; simp
        refine WT_test (fun f4 => ?_) (fun f4 => ?_)
        · have f4 : (i : Int) < R.2 := by simpa using f4
          (repeat first | refine WT_inR (by simp [inR]; omega) ?_ | refine WT_t rfl ?_ | refine WT_f rfl ?_ | refine WT_guard (by first | (simp [inR]; done) | (simp [inR]; omega)) ?_ | refine WT_elem _ (map_get _ _ _ (by first | assumption | omega)) ?_)
          refine WT_again (i + 1, m' + 1, ys' ++ [pickL R.1]) ⟨by simp; omega, by simp [f2], ?_⟩ (by simp; omega) (by ((refine Weak.of ?_ ?_ rfl rfl ?_ rfl rfl <;> repeat' first | exact trivial | refine ⟨⟨_, rfl, Or.inl ⟨rfl, rfl⟩⟩, ?_⟩ | refine ⟨⟨_, rfl, Or.inr (Or.inl ⟨rfl, by first | exact ⟨_, _, rfl, rfl, Or.inl rfl⟩ | exact ⟨_, _, rfl, rfl, Or.inr rfl⟩⟩)⟩, ?_⟩ | refine ⟨⟨_, rfl, Or.inr (Or.inr rfl)⟩, ?_⟩ | refine ⟨⟨_, rfl, VW_int (by assumption)⟩, ?_⟩ | refine ⟨⟨Or.inl ⟨_, rfl, ⟨rfl, rfl⟩⟩, rfl⟩, ?_⟩ | refine ⟨⟨Or.inl ⟨_, rfl, ⟨rfl, rfl, rfl⟩⟩, rfl⟩, ?_⟩ | refine ⟨⟨Or.inl ⟨_, rfl, BSim_by rfl rfl⟩, rfl⟩, ?_⟩ | refine ⟨⟨Or.inr ⟨rfl, rfl⟩, rfl⟩, ?_⟩ | refine ⟨⟨Or.inr ⟨rfl, rfl, rfl⟩, rfl⟩, ?_⟩)))
          simp only; rw [f3, List.replicate_succ', List.append_assoc]
        · refine WT_break ?_
          have f4 : R.2 ≤ (i : Int) := by simp at f4; omega
          have hi : i = R.2.toNat := by omega
          (repeat first | refine WT_inR (by simp [inR]; omega) ?_ | refine WT_t rfl ?_ | refine WT_f rfl ?_ | refine WT_guard (by first | (simp [inR]; done) | (simp [inR]; omega)) ?_ | refine WT_elem _ (map_get _ _ _ (by first | assumption | omega)) ?_)
          refine WT_again (j + 1, m', ys') ⟨by simp; omega, f2, ?_⟩ (by simp; omega) (by ((refine Weak.of ?_ ?_ rfl rfl ?_ rfl rfl <;> repeat' first | exact trivial | refine ⟨⟨_, rfl, Or.inl ⟨rfl, rfl⟩⟩, ?_⟩ | refine ⟨⟨_, rfl, Or.inr (Or.inl ⟨rfl, by first | exact ⟨_, _, rfl, rfl, Or.inl rfl⟩ | exact ⟨_, _, rfl, rfl, Or.inr rfl⟩⟩)⟩, ?_⟩ | refine ⟨⟨_, rfl, Or.inr (Or.inr rfl)⟩, ?_⟩ | refine ⟨⟨_, rfl, VW_int (by assumption)⟩, ?_⟩ | refine ⟨⟨Or.inl ⟨_, rfl, ⟨rfl, rfl⟩⟩, rfl⟩, ?_⟩ | refine ⟨⟨Or.inl ⟨_, rfl, ⟨rfl, rfl, rfl⟩⟩, rfl⟩, ?_⟩ | refine ⟨⟨Or.inl ⟨_, rfl, BSim_by rfl rfl⟩, rfl⟩, ?_⟩ | refine ⟨⟨Or.inr ⟨rfl, rfl⟩, rfl⟩, ?_⟩ | refine ⟨⟨Or.inr ⟨rfl, rfl, rfl⟩, rfl⟩, ?_⟩)))
          simp only; rw [f3, het, List.map_append, List.map_replicate, ← g3, hi]
      · refine WT_break ?_
        have g4 : ws.length ≤ j := by simp at g4; omega
        rw [List.take_of_length_le g4] at g3
        refine WT_ret rfl rfl rfl rfl ?_
        rw [hP]
        show Dat.tuple [.slice 3 ((ys.drop 0).take m) false, I 0] = _
        rw [row_eq g2 g3]; rfl

theorem wst_words (s : List UInt8) : ∀ k, k ≤ s.length → ∀ w ∈ (wst (s.take k)).1, w.length ≤ k
  | 0, _ => by simp [wst]
  | k + 1, h => by
    have ih := wst_words s k (by omega)
    have hl := (wst_len s k (by omega)).2.2
    rw [wst_take s k (by omega), wstep]
    by_cases hb : isBlank s[k] = true
    · rw [if_pos hb]
      by_cases hc : (wst (s.take k)).2 = []
      · simp only [hc, if_true]
        intro w hw; have := ih w hw; omega
      · simp only [hc, if_false, List.mem_append, List.mem_singleton]
        rintro w (hw | rfl)
        · have := ih w hw; omega
        · omega
    · rw [if_neg hb]
      intro w hw; have := ih w hw; omega

theorem words_small (s : List UInt8) : (wordsOf s).length ≤ s.length + 1 ∧ ∀ w ∈ wordsOf s, w.length ≤ s.length := by
  have h1 := wst_len s s.length (Nat.le_refl _)
  have h2 := wst_words s s.length (Nat.le_refl _)
  rw [List.take_length] at h1 h2
  rw [wordsOf, wend]
  split
  · exact ⟨by omega, h2⟩
  · refine ⟨by simp; omega, ?_⟩
    simp only [List.mem_append, List.mem_singleton]
    rintro w (hw | rfl)
    · exact h2 w hw
    · omega

/-- What a text tells of. -/
def parse (s : List UInt8) : List Pick × Int := ((parseP (wordsOf s)).1.getD [], (parseP (wordsOf s)).2)
def resD (x : List Pick × Int) : Dat := .tuple [picksD x.1, I x.2]

theorem s_script_Parse (s : List UInt8) (hs : s.length < 9000) : Ret P0 n_script_Parse [.str s] (resD (parse s)) :=
  (s_script_Parse0 s (by omega) (by have := (words_small s).1; omega) (fun w hw => by have := (words_small s).2 w hw; omega)).res (parse_dle _)
theorem s_ref29_Parse (s : List UInt8) (hs : s.length < 9000) : Ret P0 n_ref29_Parse [.str s] (resD (parse s)) :=
  (s_ref29_Parse0 s (by omega) (by have := (words_small s).1; omega) (fun w hw => by have := (words_small s).2 w hw; omega)).res (parse_dle _)

theorem parse_len (s : List UInt8) : (parse s).1.length ≤ 10000 := by
  rw [parse, parseP]
  split
  · rename_i h
    split
    · simp
    · rename_i h2
      have := expand_len (wordsOf s) (wordsOf s).length (Nat.le_refl _) (by rw [List.take_length]; exact h)
      rw [List.take_length] at this
      simp only [Option.getD_some]; omega
  · simp
end Uw.Tryd
