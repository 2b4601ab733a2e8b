/- Ny: Sx Sy (merged by merge2.py from the working texts). -/
import Derived.Test.YtkfgbbkcjaalkaaDoorNu
import Derived.Test.YtkfgbbkcjaalkaaDoorN4
set_option linter.unusedSimpArgs false
set_option linter.unnecessarySimpa false
set_option linter.unusedVariables false
set_option linter.unusedSectionVars false

/- STALLS, plainly. -/
set_option linter.unusedVariables false
set_option linter.unusedSimpArgs false
namespace Uw.Tryd
open Go Uw

def plainP (seats : Int) (p : Pick) : Prop := right seats p = true ∧ p.kind ≠ 2

theorem kind13 {seats : Int} {p : Pick} (h : plainP seats p) : p.kind = 1 ∨ p.kind = 3 := by
  have h1 := h.1
  have h2 := h.2
  simp [right] at h1; omega

/-- How plain picks go on, whoever stalls: with the stall of a up to e. -/
theorem stall_run (seats : Int) (a e : Int) : ∀ (m : List Pick), (∀ p ∈ m, plainP seats p) → ∀ (n n' : Nat) (d : List Int),
    (plainR seats n [(a, e)] d m).filter (fun p => decide (p.a ≠ a)) = (plainR seats n' [] d m).filter (fun p => decide (p.a ≠ a)) ∧
    ((plainR seats n [(a, e)] d m).filter (fun p => decide (p.a = a))).length ≤ ((plainR seats n' [] d m).filter (fun p => decide (p.a = a))).length ∧
    (plainR seats n [(a, e)] d m).length ≤ (plainR seats n' [] d m).length
  | [], _, n, n', d => by simp [plainR]
  | p :: r, h, n, n', d => by
    have hp := h p (by simp)
    have hr := fun q hq => h q (List.mem_cons_of_mem _ hq)
    rw [plainR, plainR, if_pos hp.1, if_pos hp.1]
    rcases kind13 hp with hk | hk
    · rw [if_pos hk, if_pos hk]
      have ih := stall_run seats a e r hr (n + 1) (n' + 1) d
      have hs : stalled ([] : List (Int × Int)) p.a n' = false := rfl
      rw [hs, Bool.or_false]
      by_cases hd : p.a ∈ d
      · simp only [hd, decide_true, Bool.true_or, if_true]; exact ih
      · simp only [hd, decide_false, Bool.false_or, Bool.false_eq_true, if_false]
        by_cases hst : stalled [(a, e)] p.a n = true
        · rw [if_pos hst]
          have hpa : p.a = a := by simp [stalled] at hst; exact hst.1.symm
          simp only [List.filter_cons, hpa, ne_eq, not_true, decide_false, Bool.false_eq_true, if_false, decide_true, if_true, List.length_cons]
          exact ⟨ih.1, by omega, by omega⟩
        · rw [if_neg hst]
          by_cases hpa : p.a = a
          · simp only [List.filter_cons, hpa, ne_eq, not_true, decide_false, Bool.false_eq_true, if_false, decide_true, if_true, List.length_cons]
            exact ⟨ih.1, by omega, by omega⟩
          · simp only [List.filter_cons, hpa, ne_eq, not_false_eq_true, decide_true, if_true, decide_false, Bool.false_eq_true, if_false, List.length_cons]
            exact ⟨by rw [ih.1], by omega, by omega⟩
    · have k1 : ¬ p.kind = 1 := by omega
      have k2 : ¬ p.kind = 2 := by omega
      rw [if_neg k1, if_neg k1, if_neg k2, if_neg k2]
      by_cases hc : (decide (p.a ∈ d) || decide (seats - (d.length : Int) ≤ 1)) = true
      · rw [if_pos hc, if_pos hc]; exact stall_run seats a e r hr (n + 1) (n' + 1) d
      · rw [if_neg hc, if_neg hc]
        have ih := stall_run seats a e r hr (n + 1) (n' + 1) (p.a :: d)
        by_cases hpa : p.a = a
        · simp only [List.filter_cons, hpa, ne_eq, not_true, decide_false, Bool.false_eq_true, if_false, decide_true, if_true, List.length_cons]
          rw [hpa] at ih
          exact ⟨ih.1, by omega, by omega⟩
        · simp only [List.filter_cons, hpa, ne_eq, not_false_eq_true, decide_true, if_true, decide_false, Bool.false_eq_true, if_false, List.length_cons]
          exact ⟨by rw [ih.1], by omega, by omega⟩

/-- While it stalls a worker steps nowhere. -/
theorem stall_none (seats : Int) (a e : Int) : ∀ (m : List Pick), (∀ p ∈ m, plainP seats p) → ∀ (n : Nat) (d : List Int), (n : Int) + m.length ≤ e + 1 →
    (plainR seats n [(a, e)] d m).filter (fun p => decide (p.a = a) && decide (p.kind = 1)) = []
  | [], _, n, d, _ => rfl
  | p :: r, h, n, d, hl => by
    have hp := h p (by simp)
    have hr := fun q hq => h q (List.mem_cons_of_mem _ hq)
    simp at hl
    rw [plainR, if_pos hp.1]
    rcases kind13 hp with hk | hk
    · rw [if_pos hk]
      have ih := stall_none seats a e r hr (n + 1) d (by omega)
      by_cases hc : (decide (p.a ∈ d) || stalled [(a, e)] p.a n) = true
      · rw [if_pos hc]; exact ih
      · rw [if_neg hc]
        have hpa : p.a ≠ a := by
          intro hpa
          apply hc
          rw [Bool.or_eq_true]
          right
          simp [stalled, hpa]; omega
        rw [List.filter_cons, if_neg (by simp [hpa]), ih]
    · have k1 : ¬ p.kind = 1 := by omega
      have k2 : ¬ p.kind = 2 := by omega
      rw [if_neg k1, if_neg k2]
      by_cases hc : (decide (p.a ∈ d) || decide (seats - (d.length : Int) ≤ 1)) = true
      · rw [if_pos hc]; exact stall_none seats a e r hr (n + 1) d (by omega)
      · rw [if_neg hc, List.filter_cons, if_neg (by simp [k1])]
        exact stall_none seats a e r hr (n + 1) (p.a :: d) (by omega)

/-- Behind picks without stalls: so many, nobody stalls, some are dead. -/
theorem plain_split (seats : Int) : ∀ (l : List Pick), (∀ p ∈ l, plainP seats p) → ∀ (n : Nat) (d : List Int), ∃ d', ∀ m, plainR seats n [] d (l ++ m) = plainR seats n [] d l ++ plainR seats (n + l.length) [] d' m
  | [], _, n, d => ⟨d, fun m => by simp [plainR]⟩
  | p :: r, h, n, d => by
    have hp := h p (by simp)
    have hr := fun q hq => h q (List.mem_cons_of_mem _ hq)
    have key : ∀ d1 : List Int, ∃ d', ∀ m, plainR seats (n + 1) [] d1 (r ++ m) = plainR seats (n + 1) [] d1 r ++ plainR seats (n + (p :: r).length) [] d' m := by
      intro d1
      obtain ⟨d', hd⟩ := plain_split seats r hr (n + 1) d1
      exact ⟨d', fun m => by rw [hd m]; congr 2; simp; omega⟩
    rcases kind13 hp with hk | hk
    · obtain ⟨d', hd⟩ := key d
      refine ⟨d', fun m => ?_⟩
      rw [List.cons_append, plainR, plainR, if_pos hp.1, if_pos hp.1, if_pos hk, if_pos hk]
      split
      · exact hd m
      · rw [hd m]; rfl
    · have k1 : ¬ p.kind = 1 := by omega
      have k2 : ¬ p.kind = 2 := by omega
      by_cases hc : (decide (p.a ∈ d) || decide (seats - (d.length : Int) ≤ 1)) = true
      · obtain ⟨d', hd⟩ := key d
        refine ⟨d', fun m => ?_⟩
        rw [List.cons_append, plainR, plainR, if_pos hp.1, if_pos hp.1, if_neg k1, if_neg k1, if_neg k2, if_neg k2, if_pos hc, if_pos hc]
        exact hd m
      · obtain ⟨d', hd⟩ := key (p.a :: d)
        refine ⟨d', fun m => ?_⟩
        rw [List.cons_append, plainR, plainR, if_pos hp.1, if_pos hp.1, if_neg k1, if_neg k1, if_neg k2, if_neg k2, if_neg hc, if_neg hc, hd m]; rfl
end Uw.Tryd

/- STALLS. -/
set_option linter.unusedVariables false
set_option linter.unusedSimpArgs false
namespace Uw.Tryd
open Go Uw Go.Proofs Go.RowKit

theorem stalls_plain (seats : Int) (l m : List Pick) (a : Int) (b : Nat) (hl : ∀ p ∈ l, plainP seats p) (hm : ∀ p ∈ m, plainP seats p) (ha : 0 ≤ a ∧ a < seats) (hb : b < 256) :
    (plain seats (l ++ ⟨2, a, b⟩ :: m)).filter (fun p => decide (p.a ≠ a)) = (plain seats (l ++ m)).filter (fun p => decide (p.a ≠ a)) ∧
    ((plain seats (l ++ ⟨2, a, b⟩ :: m)).filter (fun p => decide (p.a = a))).length ≤ ((plain seats (l ++ m)).filter (fun p => decide (p.a = a))).length ∧
    (plain seats (l ++ ⟨2, a, b⟩ :: m.take b)).filter (fun p => decide (p.a = a) && decide (p.kind = 1)) = (plain seats l).filter (fun p => decide (p.a = a) && decide (p.kind = 1)) ∧
    (plain seats (l ++ ⟨2, a, b⟩ :: m.take b)).length ≤ (plain seats (l ++ m.take b)).length := by
  simp only [plain_eq]
  obtain ⟨d, hd⟩ := plain_split seats l hl 0 []
  have hst : ∀ X, plainR seats (0 + l.length) [] d (⟨2, a, b⟩ :: X) = plainR seats (0 + l.length + 1) [(a, ((0 + l.length : Nat) : Int) + b)] d X := by
    intro X
    rw [plainR, if_pos (by simp [right]; omega), if_neg (by simp), if_pos rfl]
  have hm' : ∀ p ∈ m.take b, plainP seats p := fun p hp => hm p (List.mem_of_mem_take hp)
  have r1 := stall_run seats a (((0 + l.length : Nat) : Int) + b) m hm (0 + l.length + 1) (0 + l.length) d
  have r2 := stall_run seats a (((0 + l.length : Nat) : Int) + b) (m.take b) hm' (0 + l.length + 1) (0 + l.length) d
  have r3 := stall_none seats a (((0 + l.length : Nat) : Int) + b) (m.take b) hm' (0 + l.length + 1) d (by simp; omega)
  rw [hd, hd, hd, hd, hst, hst]
  simp only [List.filter_append, List.length_append]
  refine ⟨by rw [r1.1], by omega, by rw [r3]; simp, by omega⟩

theorem filter_split (l : List Pick) (a : Int) : (l.filter (fun p => decide (p.a ≠ a))).length + (l.filter (fun p => decide (p.a = a))).length = l.length := by
  induction l with
  | nil => rfl
  | cons p r ih =>
    rw [List.filter_cons, List.filter_cons]
    by_cases h : p.a = a
    · simp only [h, ne_eq, not_true, decide_false, Bool.false_eq_true, if_false, decide_true, if_true, List.length_cons] at ih ⊢
      omega
    · simp only [h, ne_eq, not_false_eq_true, decide_true, if_true, decide_false, Bool.false_eq_true, if_false, List.length_cons] at ih ⊢
      omega

abbrev cutRow (m : List Pick) (b : Int) : List (List Dat) := List.drop (Int.toNat 0) (List.take (mmI false ((m.map pickL).length : Int) b).toNat (m.map pickL))
theorem cutRow_eq (m : List Pick) (b : Int) (hb : 0 ≤ b) : cutRow m b = (m.take b.toNat).map pickL := by
  have hmm : (mmI false ((m.map pickL).length : Int) b).toNat = min m.length b.toNat := by simp [mmI]; omega
  show List.drop 0 _ = _
  rw [hmm, List.drop_zero, List.map_take]
  rcases Nat.le_total m.length b.toNat with h | h
  · rw [Nat.min_eq_left h, List.take_of_length_le (by simp), List.take_of_length_le (by simpa using h)]
  · rw [Nat.min_eq_right h]
abbrev stRow (a b : Int) : List (List Dat) := (List.replicate 1 [Dat.int IntKind.i64 0, Dat.int IntKind.i64 0, Dat.int IntKind.i64 0]).set 0 [Dat.int IntKind.i64 2, I a, Dat.int IntKind.i64 b]

set_option maxRecDepth 4000 in
set_option maxHeartbeats 2000000 in
theorem l_ScriptStalls (seats : Int) (hs : -9223372036854775808 ≤ seats ∧ seats < 9223372036854775808) (l : List Pick) (hll : l.length < 1000000000000000) (m : List Pick) (hml : m.length < 1000000000000000) (a : Int) (ha : -9223372036854775808 ≤ a ∧ a < 9223372036854775808) (b : Int) (hb : 0 ≤ b ∧ b < 256) : Ret P0 n_law29_ScriptStalls [I seats, picksD l, picksD m, I a, .int .u8 b] (.bool true) := by
  by_cases hc : 400 < l.length + m.length ∨ a < 0 ∨ seats ≤ a
  · refine Ret_by is_law29_ScriptStalls rfl ?_
    (repeat first | refine WT_inR (by simp [inR]; omega) ?_ | refine WT_t rfl ?_ | refine WT_f rfl ?_ | refine WT_guard (by first | (simp [inR]; done) | (simp [inR]; omega)) ?_ | refine WT_elem _ (map_get _ _ _ (by first | assumption | omega)) ?_)
    refine WT_test (fun h => ?_) (fun h => ?_)
    · (repeat first | refine WT_inR (by simp [inR]; omega) ?_ | refine WT_t rfl ?_ | refine WT_f rfl ?_ | refine WT_guard (by first | (simp [inR]; done) | (simp [inR]; omega)) ?_ | refine WT_elem _ (map_get _ _ _ (by first | assumption | omega)) ?_)
      refine WT_test (fun h2 => ?_) (fun h2 => ?_)
      · (repeat first | refine WT_inR (by simp [inR]; omega) ?_ | refine WT_t rfl ?_ | refine WT_f rfl ?_ | refine WT_guard (by first | (simp [inR]; done) | (simp [inR]; omega)) ?_ | refine WT_elem _ (map_get _ _ _ (by first | assumption | omega)) ?_)
        refine WT_t (by simp at h h2 ⊢; omega) ?_
        refine WT_call _ s_alive ?_
        exact WT_ret (P := P0) rfl rfl rfl rfl rfl
      · (repeat first | refine WT_inR (by simp [inR]; omega) ?_ | refine WT_t rfl ?_ | refine WT_f rfl ?_ | refine WT_guard (by first | (simp [inR]; done) | (simp [inR]; omega)) ?_ | refine WT_elem _ (map_get _ _ _ (by first | assumption | omega)) ?_)
        refine WT_call _ s_alive ?_
        exact WT_ret (P := P0) rfl rfl rfl rfl rfl
    · (repeat first | refine WT_inR (by simp [inR]; omega) ?_ | refine WT_t rfl ?_ | refine WT_f rfl ?_ | refine WT_guard (by first | (simp [inR]; done) | (simp [inR]; omega)) ?_ | refine WT_elem _ (map_get _ _ _ (by first | assumption | omega)) ?_)
      refine WT_call _ s_alive ?_
      exact WT_ret (P := P0) rfl rfl rfl rfl rfl
  · have hsum : l.length + m.length ≤ 400 := by omega
    have st := fun h : (∀ p ∈ l ++ m, plainP seats p) => stalls_plain seats l m a b.toNat (fun p hp => h p (by simp [hp])) (fun p hp => h p (by simp [hp])) (by omega) (by omega)
    simp only [Int.toNat_of_nonneg hb.1] at st
    have hX := plain_len seats (l ++ ⟨2, a, b⟩ :: m)
    have hY := plain_len seats (l ++ m)
    simp only [List.length_append, List.length_cons] at hX hY
    have p1 : Ret P0 n_script_Plain [I seats, .slice 3 (List.take ((List.map pickL l).length + ((List.replicate 1 [Dat.int IntKind.i64 0, Dat.int IntKind.i64 0, Dat.int IntKind.i64 0]).set 0 [Dat.int IntKind.i64 2, I a, Dat.int IntKind.i64 b]).length + (List.map pickL m).length)
      (List.drop 0 (List.map pickL l ++ (List.replicate 1 [Dat.int IntKind.i64 0, Dat.int IntKind.i64 0, Dat.int IntKind.i64 0]).set 0 [Dat.int IntKind.i64 2, I a, Dat.int IntKind.i64 b] ++ List.map pickL m))) false] (picksD (plain seats (l ++ ⟨2, a, b⟩ :: m))) := by
      have e : (List.take ((List.map pickL l).length + ((List.replicate 1 [Dat.int IntKind.i64 0, Dat.int IntKind.i64 0, Dat.int IntKind.i64 0]).set 0 [Dat.int IntKind.i64 2, I a, Dat.int IntKind.i64 b]).length + (List.map pickL m).length)
        (List.drop 0 (List.map pickL l ++ (List.replicate 1 [Dat.int IntKind.i64 0, Dat.int IntKind.i64 0, Dat.int IntKind.i64 0]).set 0 [Dat.int IntKind.i64 2, I a, Dat.int IntKind.i64 b] ++ List.map pickL m))) = (l ++ ⟨2, a, b⟩ :: m).map pickL := by
        rw [List.drop_zero, List.take_of_length_le (by simp; omega)]; simp [pickL]
      rw [e]
      exact s_script_Plain seats _ (by simp; omega) hs.2
    have p2 : Ret P0 n_script_Plain [I seats, .slice 3 (List.take ((List.map pickL l).length + (List.map pickL m).length) (List.drop 0 (List.map pickL l ++ List.map pickL m))) false] (picksD (plain seats (l ++ m))) := by
      have e : (List.take ((List.map pickL l).length + (List.map pickL m).length) (List.drop 0 (List.map pickL l ++ List.map pickL m))) = (l ++ m).map pickL := by
        rw [List.drop_zero, List.take_of_length_le (by simp)]; simp
      rw [e]
      exact s_script_Plain seats _ (by simp; omega) hs.2
    generalize plain seats (l ++ ⟨2, a, b⟩ :: m) = X at p1 hX st
    generalize plain seats (l ++ m) = Y at p2 hY st
    have hcl : (m.take b.toNat).length ≤ m.length := by simp; omega
    have p3 : Ret P0 n_script_Plain [I seats, .slice 3 (List.take ((l.map pickL).length + (cutRow m b).length) (List.drop 0 (l.map pickL ++ cutRow m b))) false] (picksD (plain seats (l ++ m.take b.toNat))) := by
      have e : (List.take ((l.map pickL).length + (cutRow m b).length) (List.drop 0 (l.map pickL ++ cutRow m b))) = (l ++ m.take b.toNat).map pickL := by
        rw [cutRow_eq m b hb.1, List.drop_zero, List.take_of_length_le (by simp)]; simp
      rw [e]
      exact s_script_Plain seats _ (by rw [List.length_append]; omega) hs.2
    have p4 : Ret P0 n_script_Plain [I seats, .slice 3 (List.take ((List.take ((l.map pickL).length + (stRow a b).length) (List.drop 0 (l.map pickL ++ stRow a b ++ m.map pickL))).length + (cutRow m b).length) (List.drop 0 (List.take ((l.map pickL).length + (stRow a b).length) (List.drop 0 (l.map pickL ++ stRow a b ++ m.map pickL)) ++ cutRow m b))) false] (picksD (plain seats (l ++ ⟨2, a, b⟩ :: m.take b.toNat))) := by
      have e : (List.take ((l.map pickL).length + (stRow a b).length) (List.drop 0 (l.map pickL ++ stRow a b ++ m.map pickL))) = (l ++ [(⟨2, a, b⟩ : Pick)]).map pickL := by
        rw [List.drop_zero, ← List.length_append, List.take_left]; simp [pickL, stRow]
      rw [e, cutRow_eq m b hb.1, List.drop_zero, ← List.length_append, List.take_length, ← List.map_append]
      have e2 : l ++ [(⟨2, a, b⟩ : Pick)] ++ m.take b.toNat = l ++ ⟨2, a, b⟩ :: m.take b.toNat := by simp
      rw [e2]
      exact s_script_Plain seats _ (by rw [List.length_append, List.length_cons]; omega) hs.2
    have p5 := s_script_Plain seats l (by omega) hs.2
    have hT := plain_len seats l
    have hZ := plain_len seats (l ++ m.take b.toNat)
    have hW := plain_len seats (l ++ ⟨2, a, b⟩ :: m.take b.toNat)
    simp only [List.length_append, List.length_cons] at hZ hW
    generalize plain seats (l ++ m.take b.toNat) = Z at p3 hZ st
    generalize plain seats (l ++ ⟨2, a, b⟩ :: m.take b.toNat) = W at p4 hW st
    generalize plain seats l = T at p5 hT st
    have hmm : mmI false ((m.map pickL).length : Int) b = ((min m.length b.toNat : Nat) : Int) := by simp [mmI]; omega
    have hg : (decide ((0 : Int) ≤ 0) && decide ((0 : Int) ≤ mmI false ((m.map pickL).length : Int) b) && decide (mmI false ((m.map pickL).length : Int) b ≤ ((m.map pickL).length : Int))) = true := by
      rw [hmm, List.length_map]; simp only [Bool.and_eq_true, decide_eq_true_eq]; omega
    refine Ret_by is_law29_ScriptStalls rfl ?_
    (repeat first | refine WT_inR (by simp [inR]; omega) ?_ | refine WT_t rfl ?_ | refine WT_f rfl ?_ | refine WT_guard (by first | (simp [inR]; done) | (simp [inR]; omega)) ?_ | refine WT_elem _ (map_get _ _ _ (by first | assumption | omega)) ?_)
    refine WT_t (by simp; omega) ?_
    (repeat first | refine WT_inR (by simp [inR]; omega) ?_ | refine WT_t rfl ?_ | refine WT_f rfl ?_ | refine WT_guard (by first | (simp [inR]; done) | (simp [inR]; omega)) ?_ | refine WT_elem _ (map_get _ _ _ (by first | assumption | omega)) ?_)
    refine WT_t (by simp; omega) ?_
    (repeat first | refine WT_inR (by simp [inR]; omega) ?_ | refine WT_t rfl ?_ | refine WT_f rfl ?_ | refine WT_guard (by first | (simp [inR]; done) | (simp [inR]; omega)) ?_ | refine WT_elem _ (map_get _ _ _ (by first | assumption | omega)) ?_)
    refine WT_f (by simp; omega) ?_
    (repeat first | refine WT_inR (by simp [inR]; omega) ?_ | refine WT_t rfl ?_ | refine WT_f rfl ?_ | refine WT_guard (by first | (simp [inR]; done) | (simp [inR]; omega)) ?_ | refine WT_elem _ (map_get _ _ _ (by first | assumption | omega)) ?_)
    have hlm : (l.map pickL ++ m.map pickL) = (l ++ m).map pickL := by simp
    refine WT_loop (fun k : Nat => ⟨[(53, .d (I k)), (52, .d (I ((l.map pickL).length + (m.map pickL).length : Nat))), (51, .ref 0 0 0 ((l.map pickL).length + (m.map pickL).length)), (10, .d (.bool false)), (0, .d (I seats)), (1, .d (picksD l)), (2, .d (picksD m)), (3, .d (I a)), (4, .d (.int .u8 b))], [(0, .arr 3 (l.map pickL ++ m.map pickL))], 1, [], 0⟩)
      (fun k => k ≤ (l ++ m).length ∧ ∀ p ∈ (l ++ m).take k, plainP seats p) (fun k => (l ++ m).length - k) 0 (by ((refine Weak.of ?_ ?_ rfl rfl ?_ rfl rfl <;> repeat' first | exact trivial | refine ⟨⟨_, rfl, Or.inl ⟨rfl, rfl⟩⟩, ?_⟩ | refine ⟨⟨_, rfl, Or.inr (Or.inl ⟨rfl, by first | exact ⟨_, _, rfl, rfl, Or.inl rfl⟩ | exact ⟨_, _, rfl, rfl, Or.inr rfl⟩⟩)⟩, ?_⟩ | refine ⟨⟨_, rfl, Or.inr (Or.inr rfl)⟩, ?_⟩ | refine ⟨⟨_, rfl, VW_int (by assumption)⟩, ?_⟩ | refine ⟨⟨Or.inl ⟨_, rfl, ⟨rfl, rfl⟩⟩, rfl⟩, ?_⟩ | refine ⟨⟨Or.inl ⟨_, rfl, ⟨rfl, rfl, rfl⟩⟩, rfl⟩, ?_⟩ | refine ⟨⟨Or.inl ⟨_, rfl, BSim_by rfl rfl⟩, rfl⟩, ?_⟩ | refine ⟨⟨Or.inr ⟨rfl, rfl⟩, rfl⟩, ?_⟩ | refine ⟨⟨Or.inr ⟨rfl, rfl, rfl⟩, rfl⟩, ?_⟩))) (by simp) ?_
    rintro k ⟨h1, h2⟩
    refine WT_test (fun h3 => ?_) (fun h3 => ?_)
    · have h3 : k < (l ++ m).length := by simp at h3 ⊢; omega
      have hel : (l.map pickL ++ m.map pickL)[0 + k]? = some (pickL (l ++ m)[k]) := by rw [Nat.zero_add, hlm]; exact map_get _ _ _ h3
      have hrr := s_script_Right seats (l ++ m)[k]
      generalize hP : (l ++ m)[k] = p at hel hrr
      have h3' : k < l.length + m.length := by simpa using h3
      (repeat first | refine WT_inR (by simp [inR]; omega) ?_ | refine WT_t rfl ?_ | refine WT_f rfl ?_ | refine WT_guard (by first | (simp [inR]; done) | (simp [inR]; omega)) ?_ | refine WT_elem _ (map_get _ _ _ (by first | assumption | omega)) ?_)
      refine WT_elem _ hel ?_
      (repeat first | refine WT_inR (by simp [inR]; omega) ?_ | refine WT_t rfl ?_ | refine WT_f rfl ?_ | refine WT_guard (by first | (simp [inR]; done) | (simp [inR]; omega)) ?_ | refine WT_elem _ (map_get _ _ _ (by first | assumption | omega)) ?_)
      refine WT_test (fun h4 => ?_) (fun h4 => ?_)
      · have h4 : p.kind ≠ 2 := by simpa using h4
        (repeat first | refine WT_inR (by simp [inR]; omega) ?_ | refine WT_t rfl ?_ | refine WT_f rfl ?_ | refine WT_guard (by first | (simp [inR]; done) | (simp [inR]; omega)) ?_ | refine WT_elem _ (map_get _ _ _ (by first | assumption | omega)) ?_)
        refine WT_call _ hrr ?_
        (repeat first | refine WT_inR (by simp [inR]; omega) ?_ | refine WT_t rfl ?_ | refine WT_f rfl ?_ | refine WT_guard (by first | (simp [inR]; done) | (simp [inR]; omega)) ?_ | refine WT_elem _ (map_get _ _ _ (by first | assumption | omega)) ?_)
        refine WT_test (fun h5 => ?_) (fun h5 => ?_)
        · (repeat first | refine WT_inR (by simp [inR]; omega) ?_ | refine WT_t rfl ?_ | refine WT_f rfl ?_ | refine WT_guard (by first | (simp [inR]; done) | (simp [inR]; omega)) ?_ | refine WT_elem _ (map_get _ _ _ (by first | assumption | omega)) ?_)
          refine WT_call _ s_alive ?_
          exact WT_leave (WT_ret rfl rfl rfl rfl rfl)
        · have h5 : right seats p = true := by simpa using h5
          (repeat first | refine WT_inR (by simp [inR]; omega) ?_ | refine WT_t rfl ?_ | refine WT_f rfl ?_ | refine WT_guard (by first | (simp [inR]; done) | (simp [inR]; omega)) ?_ | refine WT_elem _ (map_get _ _ _ (by first | assumption | omega)) ?_)
          refine WT_again (k + 1) ⟨h3, ?_⟩ (by omega) (by ((refine Weak.of ?_ ?_ rfl rfl ?_ rfl rfl <;> repeat' first | exact trivial | refine ⟨⟨_, rfl, Or.inl ⟨rfl, rfl⟩⟩, ?_⟩ | refine ⟨⟨_, rfl, Or.inr (Or.inl ⟨rfl, by first | exact ⟨_, _, rfl, rfl, Or.inl rfl⟩ | exact ⟨_, _, rfl, rfl, Or.inr rfl⟩⟩)⟩, ?_⟩ | refine ⟨⟨_, rfl, Or.inr (Or.inr rfl)⟩, ?_⟩ | refine ⟨⟨_, rfl, VW_int (by assumption)⟩, ?_⟩ | refine ⟨⟨Or.inl ⟨_, rfl, ⟨rfl, rfl⟩⟩, rfl⟩, ?_⟩ | refine ⟨⟨Or.inl ⟨_, rfl, ⟨rfl, rfl, rfl⟩⟩, rfl⟩, ?_⟩ | refine ⟨⟨Or.inl ⟨_, rfl, BSim_by rfl rfl⟩, rfl⟩, ?_⟩ | refine ⟨⟨Or.inr ⟨rfl, rfl⟩, rfl⟩, ?_⟩ | refine ⟨⟨Or.inr ⟨rfl, rfl, rfl⟩, rfl⟩, ?_⟩)))
          intro q hq
          rw [take_one _ k h3, List.mem_append] at hq
          rcases hq with hq | hq
          · exact h2 q hq
          · rw [hP, List.mem_singleton] at hq
            subst hq; exact ⟨h5, h4⟩
      · (repeat first | refine WT_inR (by simp [inR]; omega) ?_ | refine WT_t rfl ?_ | refine WT_f rfl ?_ | refine WT_guard (by first | (simp [inR]; done) | (simp [inR]; omega)) ?_ | refine WT_elem _ (map_get _ _ _ (by first | assumption | omega)) ?_)
        refine WT_call _ s_alive ?_
        exact WT_leave (WT_ret rfl rfl rfl rfl rfl)
    · refine WT_break ?_
      have hall : ∀ p ∈ l ++ m, plainP seats p := by
        have h3 : (l ++ m).length ≤ k := by simp at h3 ⊢; omega
        rwa [List.take_of_length_le h3] at h2
      (repeat first | refine WT_inR (by simp [inR]; omega) ?_ | refine WT_t rfl ?_ | refine WT_f rfl ?_ | refine WT_guard (by first | (simp [inR]; done) | (simp [inR]; omega)) ?_ | refine WT_elem _ (map_get _ _ _ (by first | assumption | omega)) ?_)
      refine WT_call _ p1 ?_
      (repeat first | refine WT_inR (by simp [inR]; omega) ?_ | refine WT_t rfl ?_ | refine WT_f rfl ?_ | refine WT_guard (by first | (simp [inR]; done) | (simp [inR]; omega)) ?_ | refine WT_elem _ (map_get _ _ _ (by first | assumption | omega)) ?_)
      refine WT_call _ p2 ?_
      (repeat first | refine WT_inR (by simp [inR]; omega) ?_ | refine WT_t rfl ?_ | refine WT_f rfl ?_ | refine WT_guard (by first | (simp [inR]; done) | (simp [inR]; omega)) ?_ | refine WT_elem _ (map_get _ _ _ (by first | assumption | omega)) ?_)
      refine WT_loop (fun z : Nat × Nat × List (List Dat) => ⟨[(91, .d (I z.1)), (90, .d (I (X.map pickL).length)), (89, .d (picksD X)), (16, .ref 3 0 0 z.2.1), (17, .d .nil), (18, .d (I 0)), (14, .d (picksD X)), (15, .d (picksD Y)), (13, .ref 1 0 0 ((l.map pickL).length + (stRow a b).length)), (10, .d (.bool false)), (0, .d (I seats)), (1, .d (picksD l)), (2, .d (picksD m)), (3, .d (I a)), (4, .d (.int .u8 b))],
          [(3, .arr 3 z.2.2), (1, .arr 3 (l.map pickL ++ stRow a b ++ m.map pickL))], 4, [], 0⟩)
        (fun z => z.1 ≤ X.length ∧ z.2.1 = z.2.2.length ∧ z.2.2 = ((X.take z.1).filter (fun p => decide (p.a ≠ a))).map pickL) (fun z => X.length - z.1) (0, 0, []) (by ((refine Weak.of ?_ ?_ rfl rfl ?_ rfl rfl <;> repeat' first | exact trivial | refine ⟨⟨_, rfl, Or.inl ⟨rfl, rfl⟩⟩, ?_⟩ | refine ⟨⟨_, rfl, Or.inr (Or.inl ⟨rfl, by first | exact ⟨_, _, rfl, rfl, Or.inl rfl⟩ | exact ⟨_, _, rfl, rfl, Or.inr rfl⟩⟩)⟩, ?_⟩ | refine ⟨⟨_, rfl, Or.inr (Or.inr rfl)⟩, ?_⟩ | refine ⟨⟨_, rfl, VW_int (by assumption)⟩, ?_⟩ | refine ⟨⟨Or.inl ⟨_, rfl, ⟨rfl, rfl⟩⟩, rfl⟩, ?_⟩ | refine ⟨⟨Or.inl ⟨_, rfl, ⟨rfl, rfl, rfl⟩⟩, rfl⟩, ?_⟩ | refine ⟨⟨Or.inl ⟨_, rfl, BSim_by rfl rfl⟩, rfl⟩, ?_⟩ | refine ⟨⟨Or.inr ⟨rfl, rfl⟩, rfl⟩, ?_⟩ | refine ⟨⟨Or.inr ⟨rfl, rfl, rfl⟩, rfl⟩, ?_⟩))) (by simp) ?_
      · rintro ⟨i, n, xs⟩ ⟨x1, x2, x3⟩
        simp only at x1 x2 x3
        have hn : n ≤ i := by rw [x2, x3, List.length_map]; exact Nat.le_trans (List.length_filter_le ..) (by simp; omega)
        refine WT_test (fun h4 => ?_) (fun h4 => ?_)
        · have h4 : i < X.length := by simpa using h4
          (repeat first | refine WT_inR (by simp [inR]; omega) ?_ | refine WT_t rfl ?_ | refine WT_f rfl ?_ | refine WT_guard (by first | (simp [inR]; done) | (simp [inR]; omega)) ?_ | refine WT_elem _ (map_get _ _ _ (by first | assumption | omega)) ?_)
          refine WT_test (fun h5 => ?_) (fun h5 => ?_)
          · (repeat first | refine WT_inR (by simp [inR]; omega) ?_ | refine WT_t rfl ?_ | refine WT_f rfl ?_ | refine WT_guard (by first | (simp [inR]; done) | (simp [inR]; omega)) ?_ | refine WT_elem _ (map_get _ _ _ (by first | assumption | omega)) ?_)
            refine WT_again (i + 1, n + 1, xs ++ [pickL X[i]]) ⟨by simp; omega, by simp [x2], ?_⟩ (by simp; omega) (by ((refine Weak.of ?_ ?_ rfl rfl ?_ rfl rfl <;> repeat' first | exact trivial | refine ⟨⟨_, rfl, Or.inl ⟨rfl, rfl⟩⟩, ?_⟩ | refine ⟨⟨_, rfl, Or.inr (Or.inl ⟨rfl, by first | exact ⟨_, _, rfl, rfl, Or.inl rfl⟩ | exact ⟨_, _, rfl, rfl, Or.inr rfl⟩⟩)⟩, ?_⟩ | refine ⟨⟨_, rfl, Or.inr (Or.inr rfl)⟩, ?_⟩ | refine ⟨⟨_, rfl, VW_int (by assumption)⟩, ?_⟩ | refine ⟨⟨Or.inl ⟨_, rfl, ⟨rfl, rfl⟩⟩, rfl⟩, ?_⟩ | refine ⟨⟨Or.inl ⟨_, rfl, ⟨rfl, rfl, rfl⟩⟩, rfl⟩, ?_⟩ | refine ⟨⟨Or.inl ⟨_, rfl, BSim_by rfl rfl⟩, rfl⟩, ?_⟩ | refine ⟨⟨Or.inr ⟨rfl, rfl⟩, rfl⟩, ?_⟩ | refine ⟨⟨Or.inr ⟨rfl, rfl, rfl⟩, rfl⟩, ?_⟩)))
            simp only
            rw [take_one X i h4, x3, List.filter_append]; simp at h5; simp [h5]
          · (repeat first | refine WT_inR (by simp [inR]; omega) ?_ | refine WT_t rfl ?_ | refine WT_f rfl ?_ | refine WT_guard (by first | (simp [inR]; done) | (simp [inR]; omega)) ?_ | refine WT_elem _ (map_get _ _ _ (by first | assumption | omega)) ?_)
            refine WT_again (i + 1, n, xs) ⟨by simp; omega, by simp [x2], ?_⟩ (by simp; omega) (by ((refine Weak.of ?_ ?_ rfl rfl ?_ rfl rfl <;> repeat' first | exact trivial | refine ⟨⟨_, rfl, Or.inl ⟨rfl, rfl⟩⟩, ?_⟩ | refine ⟨⟨_, rfl, Or.inr (Or.inl ⟨rfl, by first | exact ⟨_, _, rfl, rfl, Or.inl rfl⟩ | exact ⟨_, _, rfl, rfl, Or.inr rfl⟩⟩)⟩, ?_⟩ | refine ⟨⟨_, rfl, Or.inr (Or.inr rfl)⟩, ?_⟩ | refine ⟨⟨_, rfl, VW_int (by assumption)⟩, ?_⟩ | refine ⟨⟨Or.inl ⟨_, rfl, ⟨rfl, rfl⟩⟩, rfl⟩, ?_⟩ | refine ⟨⟨Or.inl ⟨_, rfl, ⟨rfl, rfl, rfl⟩⟩, rfl⟩, ?_⟩ | refine ⟨⟨Or.inl ⟨_, rfl, BSim_by rfl rfl⟩, rfl⟩, ?_⟩ | refine ⟨⟨Or.inr ⟨rfl, rfl⟩, rfl⟩, ?_⟩ | refine ⟨⟨Or.inr ⟨rfl, rfl, rfl⟩, rfl⟩, ?_⟩)))
            simp only
            rw [take_one X i h4, x3, List.filter_append]; simp at h5; simp [h5]
        · refine WT_break ?_
          (repeat first | refine WT_inR (by simp [inR]; omega) ?_ | refine WT_t rfl ?_ | refine WT_f rfl ?_ | refine WT_guard (by first | (simp [inR]; done) | (simp [inR]; omega)) ?_ | refine WT_elem _ (map_get _ _ _ (by first | assumption | omega)) ?_)
          have x3 : xs = ((X.filter (fun p => decide (p.a ≠ a))).map pickL) := by rw [x3, List.take_of_length_le (by simpa using h4)]
          refine WT_loop (fun ((j, n', ys, own) : Nat × Nat × List (List Dat) × Int) => ⟨[(106, .d (I j)), (105, .d (I (Y.map pickL).length)), (104, .d (picksD Y)), (16, .ref 3 0 0 n), (17, .ref 4 0 0 n'), (18, .d (I own)), (14, .d (picksD X)), (13, .ref 1 0 0 ((l.map pickL).length + (stRow a b).length)), (10, .d (.bool false)), (0, .d (I seats)), (1, .d (picksD l)), (2, .d (picksD m)), (3, .d (I a)), (4, .d (.int .u8 b))],
              [(4, .arr 3 ys), (3, .arr 3 xs), (1, .arr 3 (l.map pickL ++ stRow a b ++ m.map pickL))], 5, [], 0⟩)
            (fun (j, n', ys, own) => j ≤ Y.length ∧ n' = ys.length ∧ ys = ((Y.take j).filter (fun p => decide (p.a ≠ a))).map pickL ∧ own = ((Y.take j).filter (fun p => decide (p.a = a))).length) (fun (j, _) => Y.length - j) (0, 0, [], 0) (by ((refine Weak.of ?_ ?_ rfl rfl ?_ rfl rfl <;> repeat' first | exact trivial | refine ⟨⟨_, rfl, Or.inl ⟨rfl, rfl⟩⟩, ?_⟩ | refine ⟨⟨_, rfl, Or.inr (Or.inl ⟨rfl, by first | exact ⟨_, _, rfl, rfl, Or.inl rfl⟩ | exact ⟨_, _, rfl, rfl, Or.inr rfl⟩⟩)⟩, ?_⟩ | refine ⟨⟨_, rfl, Or.inr (Or.inr rfl)⟩, ?_⟩ | refine ⟨⟨_, rfl, VW_int (by assumption)⟩, ?_⟩ | refine ⟨⟨Or.inl ⟨_, rfl, ⟨rfl, rfl⟩⟩, rfl⟩, ?_⟩ | refine ⟨⟨Or.inl ⟨_, rfl, ⟨rfl, rfl, rfl⟩⟩, rfl⟩, ?_⟩ | refine ⟨⟨Or.inl ⟨_, rfl, BSim_by rfl rfl⟩, rfl⟩, ?_⟩ | refine ⟨⟨Or.inr ⟨rfl, rfl⟩, rfl⟩, ?_⟩ | refine ⟨⟨Or.inr ⟨rfl, rfl, rfl⟩, rfl⟩, ?_⟩))) (by simp) ?_
          · rintro ⟨j, n', ys, own⟩ ⟨y1, y2, y3, y4⟩
            have hn' : n' ≤ j := by rw [y2, y3, List.length_map]; exact Nat.le_trans (List.length_filter_le ..) (by simp; omega)
            have ho : 0 ≤ own ∧ own ≤ j := by rw [y4]; exact ⟨by omega, by have := List.length_filter_le (fun p : Pick => decide (p.a = a)) (Y.take j); simp at this; omega⟩
            ((repeat' ((first | refine WT_same rfl ?_ | refine WT_i64 (by omega) ?_ | refine WT_inR (by simp [inR]; omega) ?_ | refine WT_t rfl ?_ | refine WT_f rfl ?_ | refine WT_ixm (by first | assumption | omega) ?_ | refine WT_ixl (by first | assumption | omega) ?_ | refine WT_elm (by first | assumption | omega) ?_ | refine WT_byt (by first | assumption | omega) ?_ | refine WT_guard (by first | (simp [inR]; done) | (simp [inR]; omega)) ?_ | refine WT_elem _ (map_get _ _ _ (by first | assumption | omega)) ?_ | refine WT_elem _ (by assumption) ?_ | refine WT_yes (by first | assumption | omega) ?_ | refine WT_no (by first | assumption | omega) ?_ | refine WT_nyes (by first | assumption | omega) ?_ | refine WT_nno (by first | assumption | omega) ?_ | refine WT_yT (by first | assumption | omega) ?_ | refine WT_nT (by first | assumption | omega) ?_ | refine WT_yF (by first | assumption | omega) ?_ | refine WT_nF (by first | assumption | omega) ?_ | refine WT_nyT (by first | assumption | omega) ?_ | refine WT_nnT (by first | assumption | omega) ?_ | refine WT_nyF (by first | assumption | omega) ?_ | refine WT_nnF (by first | assumption | omega) ?_ | refine WT_ty (by assumption) ?_ | refine WT_f (by assumption) ?_ | refine WT_byT (by assumption) ?_ | refine WT_bnT (by assumption) ?_ | refine WT_byF (by assumption) ?_ | refine WT_bnF (by assumption) ?_ | refine WT_nby (by assumption) ?_ | refine WT_nbn (by assumption) ?_ | refine WT_call _ (by assumption) ?_ | refine WT_dlen (fun _ => ?_) (fun _ => ?_) | refine WT_dlenK (fun _ => ?_) (fun _ => ?_) | refine WT_dec (fun _ => ?_) (fun _ => ?_) | refine WT_ndec (fun _ => ?_) (fun _ => ?_) | refine WT_decT (fun _ => ?_) (fun _ => ?_) | refine WT_decF (fun _ => ?_) (fun _ => ?_) | refine WT_ndecT (fun _ => ?_) (fun _ => ?_) | refine WT_ndecF (fun _ => ?_) (fun _ => ?_) | refine WT_bT (fun _ => ?_) (fun _ => ?_) | refine WT_bF (fun _ => ?_) (fun _ => ?_) | refine WT_nb (fun _ => ?_) (fun _ => ?_) | refine WT_test (fun _ => ?_) (fun _ => ?_)))))
            · refine WT_again (j + 1, n' + 1, ys ++ [pickL Y[j]], own) ⟨by omega, by simp [y2], ?_, ?_⟩ (by simp only; omega) (by ((refine Weak.of ?_ ?_ rfl rfl ?_ rfl rfl <;> repeat' first | exact trivial | refine ⟨⟨_, rfl, Or.inl ⟨rfl, rfl⟩⟩, ?_⟩ | refine ⟨⟨_, rfl, Or.inr (Or.inl ⟨rfl, by first | exact ⟨_, _, rfl, rfl, Or.inl rfl⟩ | exact ⟨_, _, rfl, rfl, Or.inr rfl⟩⟩)⟩, ?_⟩ | refine ⟨⟨_, rfl, Or.inr (Or.inr rfl)⟩, ?_⟩ | refine ⟨⟨_, rfl, VW_int (by assumption)⟩, ?_⟩ | refine ⟨⟨Or.inl ⟨_, rfl, ⟨rfl, rfl⟩⟩, rfl⟩, ?_⟩ | refine ⟨⟨Or.inl ⟨_, rfl, ⟨rfl, rfl, rfl⟩⟩, rfl⟩, ?_⟩ | refine ⟨⟨Or.inl ⟨_, rfl, BSim_by rfl rfl⟩, rfl⟩, ?_⟩ | refine ⟨⟨Or.inr ⟨rfl, rfl⟩, rfl⟩, ?_⟩ | refine ⟨⟨Or.inr ⟨rfl, rfl, rfl⟩, rfl⟩, ?_⟩)))
              · rw [take_one Y j (by assumption), y3, List.filter_append]; simp [*]
              · rw [take_one Y j (by assumption), y4, List.filter_append]; simp [*]
            · refine WT_again (j + 1, n', ys, own + 1) ⟨by omega, by simp [y2], ?_, ?_⟩ (by simp only; omega) (by ((refine Weak.of ?_ ?_ rfl rfl ?_ rfl rfl <;> repeat' first | exact trivial | refine ⟨⟨_, rfl, Or.inl ⟨rfl, rfl⟩⟩, ?_⟩ | refine ⟨⟨_, rfl, Or.inr (Or.inl ⟨rfl, by first | exact ⟨_, _, rfl, rfl, Or.inl rfl⟩ | exact ⟨_, _, rfl, rfl, Or.inr rfl⟩⟩)⟩, ?_⟩ | refine ⟨⟨_, rfl, Or.inr (Or.inr rfl)⟩, ?_⟩ | refine ⟨⟨_, rfl, VW_int (by assumption)⟩, ?_⟩ | refine ⟨⟨Or.inl ⟨_, rfl, ⟨rfl, rfl⟩⟩, rfl⟩, ?_⟩ | refine ⟨⟨Or.inl ⟨_, rfl, ⟨rfl, rfl, rfl⟩⟩, rfl⟩, ?_⟩ | refine ⟨⟨Or.inl ⟨_, rfl, BSim_by rfl rfl⟩, rfl⟩, ?_⟩ | refine ⟨⟨Or.inr ⟨rfl, rfl⟩, rfl⟩, ?_⟩ | refine ⟨⟨Or.inr ⟨rfl, rfl, rfl⟩, rfl⟩, ?_⟩)))
              · rw [take_one Y j (by assumption), y3, List.filter_append]; simp [*]
              · rw [take_one Y j (by assumption), y4, List.filter_append]; simp [*]
            · refine WT_break ?_
              have y3 : ys = ((Y.filter (fun p => decide (p.a ≠ a))).map pickL) := by rw [y3, List.take_of_length_le (by omega)]
              have y4 : own = ((Y.filter (fun p => decide (p.a = a))).length : Nat) := by rw [y4, List.take_of_length_le (by omega)]
              refine WT_draw ⟨[(16, .ref 3 0 0 n), (17, .ref 4 0 0 n'), (18, .d (I own)), (14, .d (picksD X)), (23, .d (picksD Z)), (10, .d (.bool false)), (13, .ref 1 0 0 ((l.map pickL).length + (stRow a b).length)), (0, .d (I seats)), (1, .d (picksD l)), (2, .d (picksD m)), (3, .d (I a)), (4, .d (.int .u8 b))], [(4, .arr 3 ys), (3, .arr 3 xs), (1, .arr 3 (l.map pickL ++ stRow a b ++ m.map pickL))], 6, [], 0⟩ ?_ ?_
              · ((repeat' ((first | refine WT_same rfl ?_ | refine WT_i64 (by omega) ?_ | refine WT_inR (by simp [inR]; omega) ?_ | refine WT_t rfl ?_ | refine WT_f rfl ?_ | refine WT_ixm (by first | assumption | omega) ?_ | refine WT_ixl (by first | assumption | omega) ?_ | refine WT_elm (by first | assumption | omega) ?_ | refine WT_byt (by first | assumption | omega) ?_ | refine WT_guard (by first | (simp [inR]; done) | (simp [inR]; omega)) ?_ | refine WT_elem _ (map_get _ _ _ (by first | assumption | omega)) ?_ | refine WT_elem _ (by assumption) ?_ | refine WT_yes (by first | assumption | omega) ?_ | refine WT_no (by first | assumption | omega) ?_ | refine WT_nyes (by first | assumption | omega) ?_ | refine WT_nno (by first | assumption | omega) ?_ | refine WT_yT (by first | assumption | omega) ?_ | refine WT_nT (by first | assumption | omega) ?_ | refine WT_yF (by first | assumption | omega) ?_ | refine WT_nF (by first | assumption | omega) ?_ | refine WT_nyT (by first | assumption | omega) ?_ | refine WT_nnT (by first | assumption | omega) ?_ | refine WT_nyF (by first | assumption | omega) ?_ | refine WT_nnF (by first | assumption | omega) ?_ | refine WT_ty (by assumption) ?_ | refine WT_f (by assumption) ?_ | refine WT_byT (by assumption) ?_ | refine WT_bnT (by assumption) ?_ | refine WT_byF (by assumption) ?_ | refine WT_bnF (by assumption) ?_ | refine WT_nby (by assumption) ?_ | refine WT_nbn (by assumption) ?_ | refine WT_call _ (by assumption) ?_ | refine WT_dlen (fun _ => ?_) (fun _ => ?_) | refine WT_dlenK (fun _ => ?_) (fun _ => ?_) | refine WT_dec (fun _ => ?_) (fun _ => ?_) | refine WT_ndec (fun _ => ?_) (fun _ => ?_) | refine WT_decT (fun _ => ?_) (fun _ => ?_) | refine WT_decF (fun _ => ?_) (fun _ => ?_) | refine WT_ndecT (fun _ => ?_) (fun _ => ?_) | refine WT_ndecF (fun _ => ?_) (fun _ => ?_) | refine WT_bT (fun _ => ?_) (fun _ => ?_) | refine WT_bF (fun _ => ?_) (fun _ => ?_) | refine WT_nb (fun _ => ?_) (fun _ => ?_) | refine WT_test (fun _ => ?_) (fun _ => ?_)))))
                exact WT_done (.inl ⟨rfl, by ((refine Weak.of ?_ ?_ rfl rfl ?_ rfl rfl <;> repeat' first | exact trivial | refine ⟨⟨_, rfl, Or.inl ⟨rfl, rfl⟩⟩, ?_⟩ | refine ⟨⟨_, rfl, Or.inr (Or.inl ⟨rfl, by first | exact ⟨_, _, rfl, rfl, Or.inl rfl⟩ | exact ⟨_, _, rfl, rfl, Or.inr rfl⟩⟩)⟩, ?_⟩ | refine ⟨⟨_, rfl, Or.inr (Or.inr rfl)⟩, ?_⟩ | refine ⟨⟨_, rfl, VW_int (by assumption)⟩, ?_⟩ | refine ⟨⟨Or.inl ⟨_, rfl, ⟨rfl, rfl⟩⟩, rfl⟩, ?_⟩ | refine ⟨⟨Or.inl ⟨_, rfl, ⟨rfl, rfl, rfl⟩⟩, rfl⟩, ?_⟩ | refine ⟨⟨Or.inl ⟨_, rfl, BSim_by rfl rfl⟩, rfl⟩, ?_⟩ | refine ⟨⟨Or.inr ⟨rfl, rfl⟩, rfl⟩, ?_⟩ | refine ⟨⟨Or.inr ⟨rfl, rfl, rfl⟩, rfl⟩, ?_⟩))⟩)
              · refine WT_draw ⟨[(16, .ref 3 0 0 n), (17, .ref 4 0 0 n'), (18, .d (I own)), (14, .d (picksD X)), (23, .d (picksD Z)), (24, .d (picksD W)), (10, .d (.bool false)), (0, .d (I seats)), (1, .d (picksD l)), (3, .d (I a))], [(4, .arr 3 ys), (3, .arr 3 xs)], 8, [], 0⟩ ?_ ?_
                · ((repeat' ((first | refine WT_same rfl ?_ | refine WT_i64 (by omega) ?_ | refine WT_inR (by simp [inR]; omega) ?_ | refine WT_t rfl ?_ | refine WT_f rfl ?_ | refine WT_ixm (by first | assumption | omega) ?_ | refine WT_ixl (by first | assumption | omega) ?_ | refine WT_elm (by first | assumption | omega) ?_ | refine WT_byt (by first | assumption | omega) ?_ | refine WT_guard (by first | (simp [inR]; done) | (simp [inR]; omega)) ?_ | refine WT_elem _ (map_get _ _ _ (by first | assumption | omega)) ?_ | refine WT_elem _ (by assumption) ?_ | refine WT_yes (by first | assumption | omega) ?_ | refine WT_no (by first | assumption | omega) ?_ | refine WT_nyes (by first | assumption | omega) ?_ | refine WT_nno (by first | assumption | omega) ?_ | refine WT_yT (by first | assumption | omega) ?_ | refine WT_nT (by first | assumption | omega) ?_ | refine WT_yF (by first | assumption | omega) ?_ | refine WT_nF (by first | assumption | omega) ?_ | refine WT_nyT (by first | assumption | omega) ?_ | refine WT_nnT (by first | assumption | omega) ?_ | refine WT_nyF (by first | assumption | omega) ?_ | refine WT_nnF (by first | assumption | omega) ?_ | refine WT_ty (by assumption) ?_ | refine WT_f (by assumption) ?_ | refine WT_byT (by assumption) ?_ | refine WT_bnT (by assumption) ?_ | refine WT_byF (by assumption) ?_ | refine WT_bnF (by assumption) ?_ | refine WT_nby (by assumption) ?_ | refine WT_nbn (by assumption) ?_ | refine WT_call _ (by assumption) ?_ | refine WT_dlen (fun _ => ?_) (fun _ => ?_) | refine WT_dlenK (fun _ => ?_) (fun _ => ?_) | refine WT_dec (fun _ => ?_) (fun _ => ?_) | refine WT_ndec (fun _ => ?_) (fun _ => ?_) | refine WT_decT (fun _ => ?_) (fun _ => ?_) | refine WT_decF (fun _ => ?_) (fun _ => ?_) | refine WT_ndecT (fun _ => ?_) (fun _ => ?_) | refine WT_ndecF (fun _ => ?_) (fun _ => ?_) | refine WT_bT (fun _ => ?_) (fun _ => ?_) | refine WT_bF (fun _ => ?_) (fun _ => ?_) | refine WT_nb (fun _ => ?_) (fun _ => ?_) | refine WT_test (fun _ => ?_) (fun _ => ?_)))))
                  exact WT_done (.inl ⟨rfl, by ((refine Weak.of ?_ ?_ rfl rfl ?_ rfl rfl <;> repeat' first | exact trivial | refine ⟨⟨_, rfl, Or.inl ⟨rfl, rfl⟩⟩, ?_⟩ | refine ⟨⟨_, rfl, Or.inr (Or.inl ⟨rfl, by first | exact ⟨_, _, rfl, rfl, Or.inl rfl⟩ | exact ⟨_, _, rfl, rfl, Or.inr rfl⟩⟩)⟩, ?_⟩ | refine ⟨⟨_, rfl, Or.inr (Or.inr rfl)⟩, ?_⟩ | refine ⟨⟨_, rfl, VW_int (by assumption)⟩, ?_⟩ | refine ⟨⟨Or.inl ⟨_, rfl, ⟨rfl, rfl⟩⟩, rfl⟩, ?_⟩ | refine ⟨⟨Or.inl ⟨_, rfl, ⟨rfl, rfl, rfl⟩⟩, rfl⟩, ?_⟩ | refine ⟨⟨Or.inl ⟨_, rfl, BSim_by rfl rfl⟩, rfl⟩, ?_⟩ | refine ⟨⟨Or.inr ⟨rfl, rfl⟩, rfl⟩, ?_⟩ | refine ⟨⟨Or.inr ⟨rfl, rfl, rfl⟩, rfl⟩, ?_⟩))⟩)
                · ((repeat' ((first | refine WT_same rfl ?_ | refine WT_i64 (by omega) ?_ | refine WT_inR (by simp [inR]; omega) ?_ | refine WT_t rfl ?_ | refine WT_f rfl ?_ | refine WT_ixm (by first | assumption | omega) ?_ | refine WT_ixl (by first | assumption | omega) ?_ | refine WT_elm (by first | assumption | omega) ?_ | refine WT_byt (by first | assumption | omega) ?_ | refine WT_guard (by first | (simp [inR]; done) | (simp [inR]; omega)) ?_ | refine WT_elem _ (map_get _ _ _ (by first | assumption | omega)) ?_ | refine WT_elem _ (by assumption) ?_ | refine WT_yes (by first | assumption | omega) ?_ | refine WT_no (by first | assumption | omega) ?_ | refine WT_nyes (by first | assumption | omega) ?_ | refine WT_nno (by first | assumption | omega) ?_ | refine WT_yT (by first | assumption | omega) ?_ | refine WT_nT (by first | assumption | omega) ?_ | refine WT_yF (by first | assumption | omega) ?_ | refine WT_nF (by first | assumption | omega) ?_ | refine WT_nyT (by first | assumption | omega) ?_ | refine WT_nnT (by first | assumption | omega) ?_ | refine WT_nyF (by first | assumption | omega) ?_ | refine WT_nnF (by first | assumption | omega) ?_ | refine WT_ty (by assumption) ?_ | refine WT_f (by assumption) ?_ | refine WT_byT (by assumption) ?_ | refine WT_bnT (by assumption) ?_ | refine WT_byF (by assumption) ?_ | refine WT_bnF (by assumption) ?_ | refine WT_nby (by assumption) ?_ | refine WT_nbn (by assumption) ?_ | refine WT_call _ (by assumption) ?_ | refine WT_dlen (fun _ => ?_) (fun _ => ?_) | refine WT_dlenK (fun _ => ?_) (fun _ => ?_) | refine WT_dec (fun _ => ?_) (fun _ => ?_) | refine WT_ndec (fun _ => ?_) (fun _ => ?_) | refine WT_decT (fun _ => ?_) (fun _ => ?_) | refine WT_decF (fun _ => ?_) (fun _ => ?_) | refine WT_ndecT (fun _ => ?_) (fun _ => ?_) | refine WT_ndecF (fun _ => ?_) (fun _ => ?_) | refine WT_bT (fun _ => ?_) (fun _ => ?_) | refine WT_bF (fun _ => ?_) (fun _ => ?_) | refine WT_nb (fun _ => ?_) (fun _ => ?_) | refine WT_test (fun _ => ?_) (fun _ => ?_)))))
                  refine WT_loop (fun ((j, c) : Nat × Nat) => ⟨[(151, .d (I j)), (150, .d (I (T.map pickL).length)), (149, .d (picksD T)), (26, .d (I 0)), (25, .d (I c)), (16, .ref 3 0 0 n), (17, .ref 4 0 0 n'), (18, .d (I own)), (14, .d (picksD X)), (23, .d (picksD Z)), (24, .d (picksD W)), (10, .d (.bool false)), (3, .d (I a))], [(4, .arr 3 ys), (3, .arr 3 xs)], 8, [], 0⟩)
                    (fun (j, c) => j ≤ T.length ∧ c = ((T.take j).filter (fun p => decide (p.a = a) && decide (p.kind = 1))).length) (fun (j, _) => T.length - j) (0, 0) (by ((refine Weak.of ?_ ?_ rfl rfl ?_ rfl rfl <;> repeat' first | exact trivial | refine ⟨⟨_, rfl, Or.inl ⟨rfl, rfl⟩⟩, ?_⟩ | refine ⟨⟨_, rfl, Or.inr (Or.inl ⟨rfl, by first | exact ⟨_, _, rfl, rfl, Or.inl rfl⟩ | exact ⟨_, _, rfl, rfl, Or.inr rfl⟩⟩)⟩, ?_⟩ | refine ⟨⟨_, rfl, Or.inr (Or.inr rfl)⟩, ?_⟩ | refine ⟨⟨_, rfl, VW_int (by assumption)⟩, ?_⟩ | refine ⟨⟨Or.inl ⟨_, rfl, ⟨rfl, rfl⟩⟩, rfl⟩, ?_⟩ | refine ⟨⟨Or.inl ⟨_, rfl, ⟨rfl, rfl, rfl⟩⟩, rfl⟩, ?_⟩ | refine ⟨⟨Or.inl ⟨_, rfl, BSim_by rfl rfl⟩, rfl⟩, ?_⟩ | refine ⟨⟨Or.inr ⟨rfl, rfl⟩, rfl⟩, ?_⟩ | refine ⟨⟨Or.inr ⟨rfl, rfl, rfl⟩, rfl⟩, ?_⟩))) (by simp) ?_
                  rintro ⟨j, c⟩ ⟨z1, z2⟩
                  have hc : c ≤ j := by rw [z2]; exact Nat.le_trans (List.length_filter_le ..) (by simp; omega)
                  ((repeat' ((first | refine WT_same rfl ?_ | refine WT_i64 (by omega) ?_ | refine WT_inR (by simp [inR]; omega) ?_ | refine WT_t rfl ?_ | refine WT_f rfl ?_ | refine WT_ixm (by first | assumption | omega) ?_ | refine WT_ixl (by first | assumption | omega) ?_ | refine WT_elm (by first | assumption | omega) ?_ | refine WT_byt (by first | assumption | omega) ?_ | refine WT_guard (by first | (simp [inR]; done) | (simp [inR]; omega)) ?_ | refine WT_elem _ (map_get _ _ _ (by first | assumption | omega)) ?_ | refine WT_elem _ (by assumption) ?_ | refine WT_yes (by first | assumption | omega) ?_ | refine WT_no (by first | assumption | omega) ?_ | refine WT_nyes (by first | assumption | omega) ?_ | refine WT_nno (by first | assumption | omega) ?_ | refine WT_yT (by first | assumption | omega) ?_ | refine WT_nT (by first | assumption | omega) ?_ | refine WT_yF (by first | assumption | omega) ?_ | refine WT_nF (by first | assumption | omega) ?_ | refine WT_nyT (by first | assumption | omega) ?_ | refine WT_nnT (by first | assumption | omega) ?_ | refine WT_nyF (by first | assumption | omega) ?_ | refine WT_nnF (by first | assumption | omega) ?_ | refine WT_ty (by assumption) ?_ | refine WT_f (by assumption) ?_ | refine WT_byT (by assumption) ?_ | refine WT_bnT (by assumption) ?_ | refine WT_byF (by assumption) ?_ | refine WT_bnF (by assumption) ?_ | refine WT_nby (by assumption) ?_ | refine WT_nbn (by assumption) ?_ | refine WT_call _ (by assumption) ?_ | refine WT_dlen (fun _ => ?_) (fun _ => ?_) | refine WT_dlenK (fun _ => ?_) (fun _ => ?_) | refine WT_dec (fun _ => ?_) (fun _ => ?_) | refine WT_ndec (fun _ => ?_) (fun _ => ?_) | refine WT_decT (fun _ => ?_) (fun _ => ?_) | refine WT_decF (fun _ => ?_) (fun _ => ?_) | refine WT_ndecT (fun _ => ?_) (fun _ => ?_) | refine WT_ndecF (fun _ => ?_) (fun _ => ?_) | refine WT_bT (fun _ => ?_) (fun _ => ?_) | refine WT_bF (fun _ => ?_) (fun _ => ?_) | refine WT_nb (fun _ => ?_) (fun _ => ?_) | refine WT_test (fun _ => ?_) (fun _ => ?_)))))
                  · refine WT_again (j + 1, c + 1) ⟨by omega, ?_⟩ (by simp only; omega) (by ((refine Weak.of ?_ ?_ rfl rfl ?_ rfl rfl <;> repeat' first | exact trivial | refine ⟨⟨_, rfl, Or.inl ⟨rfl, rfl⟩⟩, ?_⟩ | refine ⟨⟨_, rfl, Or.inr (Or.inl ⟨rfl, by first | exact ⟨_, _, rfl, rfl, Or.inl rfl⟩ | exact ⟨_, _, rfl, rfl, Or.inr rfl⟩⟩)⟩, ?_⟩ | refine ⟨⟨_, rfl, Or.inr (Or.inr rfl)⟩, ?_⟩ | refine ⟨⟨_, rfl, VW_int (by assumption)⟩, ?_⟩ | refine ⟨⟨Or.inl ⟨_, rfl, ⟨rfl, rfl⟩⟩, rfl⟩, ?_⟩ | refine ⟨⟨Or.inl ⟨_, rfl, ⟨rfl, rfl, rfl⟩⟩, rfl⟩, ?_⟩ | refine ⟨⟨Or.inl ⟨_, rfl, BSim_by rfl rfl⟩, rfl⟩, ?_⟩ | refine ⟨⟨Or.inr ⟨rfl, rfl⟩, rfl⟩, ?_⟩ | refine ⟨⟨Or.inr ⟨rfl, rfl, rfl⟩, rfl⟩, ?_⟩)))
                    rw [take_one T j (by assumption), z2, List.filter_append]; simp [*]
                  · refine WT_again (j + 1, c) ⟨by omega, ?_⟩ (by simp only; omega) (by ((refine Weak.of ?_ ?_ rfl rfl ?_ rfl rfl <;> repeat' first | exact trivial | refine ⟨⟨_, rfl, Or.inl ⟨rfl, rfl⟩⟩, ?_⟩ | refine ⟨⟨_, rfl, Or.inr (Or.inl ⟨rfl, by first | exact ⟨_, _, rfl, rfl, Or.inl rfl⟩ | exact ⟨_, _, rfl, rfl, Or.inr rfl⟩⟩)⟩, ?_⟩ | refine ⟨⟨_, rfl, Or.inr (Or.inr rfl)⟩, ?_⟩ | refine ⟨⟨_, rfl, VW_int (by assumption)⟩, ?_⟩ | refine ⟨⟨Or.inl ⟨_, rfl, ⟨rfl, rfl⟩⟩, rfl⟩, ?_⟩ | refine ⟨⟨Or.inl ⟨_, rfl, ⟨rfl, rfl, rfl⟩⟩, rfl⟩, ?_⟩ | refine ⟨⟨Or.inl ⟨_, rfl, BSim_by rfl rfl⟩, rfl⟩, ?_⟩ | refine ⟨⟨Or.inr ⟨rfl, rfl⟩, rfl⟩, ?_⟩ | refine ⟨⟨Or.inr ⟨rfl, rfl, rfl⟩, rfl⟩, ?_⟩)))
                    rw [take_one T j (by assumption), z2, List.filter_append]; simp [*]
                  · refine WT_again (j + 1, c) ⟨by omega, ?_⟩ (by simp only; omega) (by ((refine Weak.of ?_ ?_ rfl rfl ?_ rfl rfl <;> repeat' first | exact trivial | refine ⟨⟨_, rfl, Or.inl ⟨rfl, rfl⟩⟩, ?_⟩ | refine ⟨⟨_, rfl, Or.inr (Or.inl ⟨rfl, by first | exact ⟨_, _, rfl, rfl, Or.inl rfl⟩ | exact ⟨_, _, rfl, rfl, Or.inr rfl⟩⟩)⟩, ?_⟩ | refine ⟨⟨_, rfl, Or.inr (Or.inr rfl)⟩, ?_⟩ | refine ⟨⟨_, rfl, VW_int (by assumption)⟩, ?_⟩ | refine ⟨⟨Or.inl ⟨_, rfl, ⟨rfl, rfl⟩⟩, rfl⟩, ?_⟩ | refine ⟨⟨Or.inl ⟨_, rfl, ⟨rfl, rfl, rfl⟩⟩, rfl⟩, ?_⟩ | refine ⟨⟨Or.inl ⟨_, rfl, BSim_by rfl rfl⟩, rfl⟩, ?_⟩ | refine ⟨⟨Or.inr ⟨rfl, rfl⟩, rfl⟩, ?_⟩ | refine ⟨⟨Or.inr ⟨rfl, rfl, rfl⟩, rfl⟩, ?_⟩)))
                    rw [take_one T j (by assumption), z2, List.filter_append]; simp [*]
                  · refine WT_break ?_
                    have z2 : c = (T.filter (fun p => decide (p.a = a) && decide (p.kind = 1))).length := by rw [z2, List.take_of_length_le (by omega)]
                    ((repeat' ((first | refine WT_same rfl ?_ | refine WT_i64 (by omega) ?_ | refine WT_inR (by simp [inR]; omega) ?_ | refine WT_t rfl ?_ | refine WT_f rfl ?_ | refine WT_ixm (by first | assumption | omega) ?_ | refine WT_ixl (by first | assumption | omega) ?_ | refine WT_elm (by first | assumption | omega) ?_ | refine WT_byt (by first | assumption | omega) ?_ | refine WT_guard (by first | (simp [inR]; done) | (simp [inR]; omega)) ?_ | refine WT_elem _ (map_get _ _ _ (by first | assumption | omega)) ?_ | refine WT_elem _ (by assumption) ?_ | refine WT_yes (by first | assumption | omega) ?_ | refine WT_no (by first | assumption | omega) ?_ | refine WT_nyes (by first | assumption | omega) ?_ | refine WT_nno (by first | assumption | omega) ?_ | refine WT_yT (by first | assumption | omega) ?_ | refine WT_nT (by first | assumption | omega) ?_ | refine WT_yF (by first | assumption | omega) ?_ | refine WT_nF (by first | assumption | omega) ?_ | refine WT_nyT (by first | assumption | omega) ?_ | refine WT_nnT (by first | assumption | omega) ?_ | refine WT_nyF (by first | assumption | omega) ?_ | refine WT_nnF (by first | assumption | omega) ?_ | refine WT_ty (by assumption) ?_ | refine WT_f (by assumption) ?_ | refine WT_byT (by assumption) ?_ | refine WT_bnT (by assumption) ?_ | refine WT_byF (by assumption) ?_ | refine WT_bnF (by assumption) ?_ | refine WT_nby (by assumption) ?_ | refine WT_nbn (by assumption) ?_ | refine WT_call _ (by assumption) ?_ | refine WT_dlen (fun _ => ?_) (fun _ => ?_) | refine WT_dlenK (fun _ => ?_) (fun _ => ?_) | refine WT_dec (fun _ => ?_) (fun _ => ?_) | refine WT_ndec (fun _ => ?_) (fun _ => ?_) | refine WT_decT (fun _ => ?_) (fun _ => ?_) | refine WT_decF (fun _ => ?_) (fun _ => ?_) | refine WT_ndecT (fun _ => ?_) (fun _ => ?_) | refine WT_ndecF (fun _ => ?_) (fun _ => ?_) | refine WT_bT (fun _ => ?_) (fun _ => ?_) | refine WT_bF (fun _ => ?_) (fun _ => ?_) | refine WT_nb (fun _ => ?_) (fun _ => ?_) | refine WT_test (fun _ => ?_) (fun _ => ?_)))))
                    refine WT_loop (fun ((j, d) : Nat × Nat) => ⟨[(169, .d (I j)), (168, .d (I (W.map pickL).length)), (167, .d (picksD W)), (26, .d (I d)), (25, .d (I c)), (16, .ref 3 0 0 n), (17, .ref 4 0 0 n'), (18, .d (I own)), (14, .d (picksD X)), (23, .d (picksD Z)), (24, .d (picksD W)), (10, .d (.bool false)), (3, .d (I a))], [(4, .arr 3 ys), (3, .arr 3 xs)], 8, [], 0⟩)
                      (fun (j, d) => j ≤ W.length ∧ d = ((W.take j).filter (fun p => decide (p.a = a) && decide (p.kind = 1))).length) (fun (j, _) => W.length - j) (0, 0) (by ((refine Weak.of ?_ ?_ rfl rfl ?_ rfl rfl <;> repeat' first | exact trivial | refine ⟨⟨_, rfl, Or.inl ⟨rfl, rfl⟩⟩, ?_⟩ | refine ⟨⟨_, rfl, Or.inr (Or.inl ⟨rfl, by first | exact ⟨_, _, rfl, rfl, Or.inl rfl⟩ | exact ⟨_, _, rfl, rfl, Or.inr rfl⟩⟩)⟩, ?_⟩ | refine ⟨⟨_, rfl, Or.inr (Or.inr rfl)⟩, ?_⟩ | refine ⟨⟨_, rfl, VW_int (by assumption)⟩, ?_⟩ | refine ⟨⟨Or.inl ⟨_, rfl, ⟨rfl, rfl⟩⟩, rfl⟩, ?_⟩ | refine ⟨⟨Or.inl ⟨_, rfl, ⟨rfl, rfl, rfl⟩⟩, rfl⟩, ?_⟩ | refine ⟨⟨Or.inl ⟨_, rfl, BSim_by rfl rfl⟩, rfl⟩, ?_⟩ | refine ⟨⟨Or.inr ⟨rfl, rfl⟩, rfl⟩, ?_⟩ | refine ⟨⟨Or.inr ⟨rfl, rfl, rfl⟩, rfl⟩, ?_⟩))) (by simp) ?_
                    rintro ⟨j, d⟩ ⟨w1, w2⟩
                    have hd : d ≤ j := by rw [w2]; exact Nat.le_trans (List.length_filter_le ..) (by simp; omega)
                    ((repeat' ((first | refine WT_same rfl ?_ | refine WT_i64 (by omega) ?_ | refine WT_inR (by simp [inR]; omega) ?_ | refine WT_t rfl ?_ | refine WT_f rfl ?_ | refine WT_ixm (by first | assumption | omega) ?_ | refine WT_ixl (by first | assumption | omega) ?_ | refine WT_elm (by first | assumption | omega) ?_ | refine WT_byt (by first | assumption | omega) ?_ | refine WT_guard (by first | (simp [inR]; done) | (simp [inR]; omega)) ?_ | refine WT_elem _ (map_get _ _ _ (by first | assumption | omega)) ?_ | refine WT_elem _ (by assumption) ?_ | refine WT_yes (by first | assumption | omega) ?_ | refine WT_no (by first | assumption | omega) ?_ | refine WT_nyes (by first | assumption | omega) ?_ | refine WT_nno (by first | assumption | omega) ?_ | refine WT_yT (by first | assumption | omega) ?_ | refine WT_nT (by first | assumption | omega) ?_ | refine WT_yF (by first | assumption | omega) ?_ | refine WT_nF (by first | assumption | omega) ?_ | refine WT_nyT (by first | assumption | omega) ?_ | refine WT_nnT (by first | assumption | omega) ?_ | refine WT_nyF (by first | assumption | omega) ?_ | refine WT_nnF (by first | assumption | omega) ?_ | refine WT_ty (by assumption) ?_ | refine WT_f (by assumption) ?_ | refine WT_byT (by assumption) ?_ | refine WT_bnT (by assumption) ?_ | refine WT_byF (by assumption) ?_ | refine WT_bnF (by assumption) ?_ | refine WT_nby (by assumption) ?_ | refine WT_nbn (by assumption) ?_ | refine WT_call _ (by assumption) ?_ | refine WT_dlen (fun _ => ?_) (fun _ => ?_) | refine WT_dlenK (fun _ => ?_) (fun _ => ?_) | refine WT_dec (fun _ => ?_) (fun _ => ?_) | refine WT_ndec (fun _ => ?_) (fun _ => ?_) | refine WT_decT (fun _ => ?_) (fun _ => ?_) | refine WT_decF (fun _ => ?_) (fun _ => ?_) | refine WT_ndecT (fun _ => ?_) (fun _ => ?_) | refine WT_ndecF (fun _ => ?_) (fun _ => ?_) | refine WT_bT (fun _ => ?_) (fun _ => ?_) | refine WT_bF (fun _ => ?_) (fun _ => ?_) | refine WT_nb (fun _ => ?_) (fun _ => ?_) | refine WT_test (fun _ => ?_) (fun _ => ?_)))))
                    · refine WT_again (j + 1, d + 1) ⟨by omega, ?_⟩ (by simp only; omega) (by ((refine Weak.of ?_ ?_ rfl rfl ?_ rfl rfl <;> repeat' first | exact trivial | refine ⟨⟨_, rfl, Or.inl ⟨rfl, rfl⟩⟩, ?_⟩ | refine ⟨⟨_, rfl, Or.inr (Or.inl ⟨rfl, by first | exact ⟨_, _, rfl, rfl, Or.inl rfl⟩ | exact ⟨_, _, rfl, rfl, Or.inr rfl⟩⟩)⟩, ?_⟩ | refine ⟨⟨_, rfl, Or.inr (Or.inr rfl)⟩, ?_⟩ | refine ⟨⟨_, rfl, VW_int (by assumption)⟩, ?_⟩ | refine ⟨⟨Or.inl ⟨_, rfl, ⟨rfl, rfl⟩⟩, rfl⟩, ?_⟩ | refine ⟨⟨Or.inl ⟨_, rfl, ⟨rfl, rfl, rfl⟩⟩, rfl⟩, ?_⟩ | refine ⟨⟨Or.inl ⟨_, rfl, BSim_by rfl rfl⟩, rfl⟩, ?_⟩ | refine ⟨⟨Or.inr ⟨rfl, rfl⟩, rfl⟩, ?_⟩ | refine ⟨⟨Or.inr ⟨rfl, rfl, rfl⟩, rfl⟩, ?_⟩)))
                      rw [take_one W j (by assumption), w2, List.filter_append]; simp [*]
                    · refine WT_again (j + 1, d) ⟨by omega, ?_⟩ (by simp only; omega) (by ((refine Weak.of ?_ ?_ rfl rfl ?_ rfl rfl <;> repeat' first | exact trivial | refine ⟨⟨_, rfl, Or.inl ⟨rfl, rfl⟩⟩, ?_⟩ | refine ⟨⟨_, rfl, Or.inr (Or.inl ⟨rfl, by first | exact ⟨_, _, rfl, rfl, Or.inl rfl⟩ | exact ⟨_, _, rfl, rfl, Or.inr rfl⟩⟩)⟩, ?_⟩ | refine ⟨⟨_, rfl, Or.inr (Or.inr rfl)⟩, ?_⟩ | refine ⟨⟨_, rfl, VW_int (by assumption)⟩, ?_⟩ | refine ⟨⟨Or.inl ⟨_, rfl, ⟨rfl, rfl⟩⟩, rfl⟩, ?_⟩ | refine ⟨⟨Or.inl ⟨_, rfl, ⟨rfl, rfl, rfl⟩⟩, rfl⟩, ?_⟩ | refine ⟨⟨Or.inl ⟨_, rfl, BSim_by rfl rfl⟩, rfl⟩, ?_⟩ | refine ⟨⟨Or.inr ⟨rfl, rfl⟩, rfl⟩, ?_⟩ | refine ⟨⟨Or.inr ⟨rfl, rfl, rfl⟩, rfl⟩, ?_⟩)))
                      rw [take_one W j (by assumption), w2, List.filter_append]; simp [*]
                    · refine WT_again (j + 1, d) ⟨by omega, ?_⟩ (by simp only; omega) (by ((refine Weak.of ?_ ?_ rfl rfl ?_ rfl rfl <;> repeat' first | exact trivial | refine ⟨⟨_, rfl, Or.inl ⟨rfl, rfl⟩⟩, ?_⟩ | refine ⟨⟨_, rfl, Or.inr (Or.inl ⟨rfl, by first | exact ⟨_, _, rfl, rfl, Or.inl rfl⟩ | exact ⟨_, _, rfl, rfl, Or.inr rfl⟩⟩)⟩, ?_⟩ | refine ⟨⟨_, rfl, Or.inr (Or.inr rfl)⟩, ?_⟩ | refine ⟨⟨_, rfl, VW_int (by assumption)⟩, ?_⟩ | refine ⟨⟨Or.inl ⟨_, rfl, ⟨rfl, rfl⟩⟩, rfl⟩, ?_⟩ | refine ⟨⟨Or.inl ⟨_, rfl, ⟨rfl, rfl, rfl⟩⟩, rfl⟩, ?_⟩ | refine ⟨⟨Or.inl ⟨_, rfl, BSim_by rfl rfl⟩, rfl⟩, ?_⟩ | refine ⟨⟨Or.inr ⟨rfl, rfl⟩, rfl⟩, ?_⟩ | refine ⟨⟨Or.inr ⟨rfl, rfl, rfl⟩, rfl⟩, ?_⟩)))
                      rw [take_one W j (by assumption), w2, List.filter_append]; simp [*]
                    · refine WT_break ?_
                      have w2 : d = (W.filter (fun p => decide (p.a = a) && decide (p.kind = 1))).length := by rw [w2, List.take_of_length_le (by omega)]
                      obtain ⟨s1, s2, s3, s4⟩ := st hall
                      have sl := filter_split X a
                      have hfl : (X.filter (fun p => decide (p.a ≠ a))).length ≤ X.length := List.length_filter_le ..
                      have hnx : n = (X.filter (fun p => decide (p.a ≠ a))).length := by rw [x2, x3, List.length_map]
                      have hcd : c = d := by rw [z2, w2, s3]
                      have sm : Ret P0 n_ref29_Same [.slice 3 ((xs.drop 0).take n) false, .slice 3 ((ys.drop 0).take n') false] (.bool true) := by
                        rw [row_eq x2 x3, row_eq y2 y3, s1]
                        have := s_ref29_Same (Y.filter (fun p => decide (p.a ≠ a))) (Y.filter (fun p => decide (p.a ≠ a))) (by rw [← s1]; omega)
                        rw [decide_eq_true rfl] at this; exact this
                      have sv := s_alive
                      have e1 : (X.map pickL).length = X.length := by simp
                      have e2 : (W.map pickL).length = W.length := by simp
                      have e3 : (Z.map pickL).length = Z.length := by simp
                      have e4 : ((xs.drop 0).take n).length = n := by rw [List.length_take, List.length_drop]; omega
                      have k1 : ((X.map pickL).length : Int) - n ≤ own := by omega
                      have k2 : (d : Int) = c := by omega
                      have k3 : ((W.map pickL).length : Int) ≤ (Z.map pickL).length := by omega
                      ((repeat' ((first | refine WT_same rfl ?_ | refine WT_i64 (by omega) ?_ | refine WT_inR (by simp [inR]; omega) ?_ | refine WT_t rfl ?_ | refine WT_f rfl ?_ | refine WT_ixm (by first | assumption | omega) ?_ | refine WT_ixl (by first | assumption | omega) ?_ | refine WT_elm (by first | assumption | omega) ?_ | refine WT_byt (by first | assumption | omega) ?_ | refine WT_guard (by first | (simp [inR]; done) | (simp [inR]; omega)) ?_ | refine WT_elem _ (map_get _ _ _ (by first | assumption | omega)) ?_ | refine WT_elem _ (by assumption) ?_ | refine WT_yes (by first | assumption | omega) ?_ | refine WT_no (by first | assumption | omega) ?_ | refine WT_nyes (by first | assumption | omega) ?_ | refine WT_nno (by first | assumption | omega) ?_ | refine WT_yT (by first | assumption | omega) ?_ | refine WT_nT (by first | assumption | omega) ?_ | refine WT_yF (by first | assumption | omega) ?_ | refine WT_nF (by first | assumption | omega) ?_ | refine WT_nyT (by first | assumption | omega) ?_ | refine WT_nnT (by first | assumption | omega) ?_ | refine WT_nyF (by first | assumption | omega) ?_ | refine WT_nnF (by first | assumption | omega) ?_ | refine WT_ty (by assumption) ?_ | refine WT_f (by assumption) ?_ | refine WT_byT (by assumption) ?_ | refine WT_bnT (by assumption) ?_ | refine WT_byF (by assumption) ?_ | refine WT_bnF (by assumption) ?_ | refine WT_nby (by assumption) ?_ | refine WT_nbn (by assumption) ?_ | refine WT_call _ (by assumption) ?_ | refine WT_dlen (fun _ => ?_) (fun _ => ?_) | refine WT_dlenK (fun _ => ?_) (fun _ => ?_) | refine WT_dec (fun _ => ?_) (fun _ => ?_) | refine WT_ndec (fun _ => ?_) (fun _ => ?_) | refine WT_decT (fun _ => ?_) (fun _ => ?_) | refine WT_decF (fun _ => ?_) (fun _ => ?_) | refine WT_ndecT (fun _ => ?_) (fun _ => ?_) | refine WT_ndecF (fun _ => ?_) (fun _ => ?_) | refine WT_bT (fun _ => ?_) (fun _ => ?_) | refine WT_bF (fun _ => ?_) (fun _ => ?_) | refine WT_nb (fun _ => ?_) (fun _ => ?_) | refine WT_test (fun _ => ?_) (fun _ => ?_)))))
                      refine WT_ret rfl rfl rfl rfl ?_
                      simp only [packD, k3, decide_true]
end Uw.Tryd
