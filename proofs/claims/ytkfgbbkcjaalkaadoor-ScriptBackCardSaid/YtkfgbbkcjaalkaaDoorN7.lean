/- N7: Sf Sg (merged by merge2.py from the working texts). -/
import Derived.Test.YtkfgbbkcjaalkaaDoorN6
set_option linter.unusedSimpArgs false
set_option linter.unnecessarySimpa false
set_option linter.unusedVariables false
set_option linter.unusedSectionVars false

/- Whose turn it is: Next, the program's and the document's. -/
set_option linter.unusedVariables false
set_option linter.unusedSimpArgs false
namespace Uw.Tryd
open Go Uw Go.Proofs Go.RowKit

def boolsD (l : List Bool) : Dat := .slice 1 (l.map fun b => [.bool b]) false

/-- Where the turns begin. -/
def lastOf (n : Nat) (last : Int) : Nat := if last < 0 ∨ (n : Int) ≤ last then n - 1 else last.toNat

/-- The first of so many places, from one on, round and round, that is alive. -/
def nextFrom (on : List Bool) (last : Nat) : Nat → Option Nat
  | 0 => none
  | k + 1 => match nextFrom on last k with
    | some w => some w
    | none => if on.getD ((last + (k + 1)) % on.length) false then some ((last + (k + 1)) % on.length) else none

def nextO (on : List Bool) (last : Int) : Option Nat := nextFrom on (lastOf on.length last) on.length
def next (on : List Bool) (last : Int) : Int := match nextO on last with | some w => w | none => -1

theorem nextFrom_succ (on : List Bool) (L k : Nat) (h : nextFrom on L k = none) : nextFrom on L (k + 1) = if on.getD ((L + (k + 1)) % on.length) false then some ((L + (k + 1)) % on.length) else none := by
  rw [nextFrom, h]

theorem nextFrom_le (on : List Bool) (L k w : Nat) (h : nextFrom on L k = some w) : ∀ m, k ≤ m → nextFrom on L m = some w := by
  intro m hm
  induction m with
  | zero => obtain rfl : k = 0 := by omega
            exact h
  | succ m ih =>
    by_cases he : k = m + 1
    · subst he; exact h
    · rw [nextFrom, ih (by omega)]

theorem s_script_Next (on : List Bool) (last : Int) (hl : on.length < 1000000) : Ret P0 n_script_Next [boolsD on, I last] (I (next on last)) := by
  by_cases hn : on = []
  · subst hn
    refine Ret_by is_script_Next rfl ?_
    have fin : ∀ st : St, True := fun _ => trivial
    refine WT_test (fun h => ?_) (fun h => ?_)
    · (repeat first | refine WT_inR (by simp [inR]; omega) ?_ | refine WT_t rfl ?_ | refine WT_f rfl ?_ | refine WT_guard (by first | (simp [inR]; done) | (simp [inR]; omega)) ?_ | refine WT_elem _ (map_get _ _ _ (by first | assumption | omega)) ?_)
      refine WT_test (fun h2 => ?_) (fun h2 => ?_)
      · (repeat first | refine WT_inR (by simp [inR]; omega) ?_ | refine WT_t rfl ?_ | refine WT_f rfl ?_ | refine WT_guard (by first | (simp [inR]; done) | (simp [inR]; omega)) ?_ | refine WT_elem _ (map_get _ _ _ (by first | assumption | omega)) ?_)
        refine WT_rounds 1 ?_
        refine WT_f rfl ?_
        exact WT_ret (P := P0) rfl rfl rfl rfl rfl
      · simp at h h2; omega
    · (repeat first | refine WT_inR (by simp [inR]; omega) ?_ | refine WT_t rfl ?_ | refine WT_f rfl ?_ | refine WT_guard (by first | (simp [inR]; done) | (simp [inR]; omega)) ?_ | refine WT_elem _ (map_get _ _ _ (by first | assumption | omega)) ?_)
      refine WT_rounds 1 ?_
      refine WT_f rfl ?_
      exact WT_ret (P := P0) rfl rfl rfl rfl rfl
  · have hn : 0 < on.length := List.length_pos_iff.2 hn
    rw [next, nextO]
    generalize hL : lastOf on.length last = L
    have hLn : L < on.length := by rw [← hL, lastOf]; split <;> omega
    refine Ret_by is_script_Next rfl ?_
    have hv1 : (last < 0 ∨ (on.length : Int) ≤ last) → ((on.map fun b => [Dat.bool b]).length : Int) - 1 = (L : Int) := by
      intro h; rw [← hL, lastOf, if_pos h]; simp; omega
    have hv2 : ¬ (last < 0 ∨ (on.length : Int) ≤ last) → last = (L : Int) := by
      intro h; rw [← hL, lastOf, if_neg h]; omega
    refine WT_test (fun h => ?a) (fun h => ?b)
    case' a => ((repeat first | refine WT_inR (by simp [inR]; omega) ?_ | refine WT_t rfl ?_ | refine WT_f rfl ?_ | refine WT_guard (by first | (simp [inR]; done) | (simp [inR]; omega)) ?_ | refine WT_elem _ (map_get _ _ _ (by first | assumption | omega)) ?_); refine WT_test (fun h2 => ?c) (fun h2 => ?d))
    case' c => have hv := hv1 (by simp at h h2; omega)
    case' d => have hv := hv2 (by simp at h h2; omega)
    case' b => have hv := hv1 (by simp at h; omega)
    all_goals
      (repeat first | refine WT_inR (by simp [inR]; omega) ?_ | refine WT_t rfl ?_ | refine WT_f rfl ?_ | refine WT_guard (by first | (simp [inR]; done) | (simp [inR]; omega)) ?_ | refine WT_elem _ (map_get _ _ _ (by first | assumption | omega)) ?_)
      refine WT_loop (fun j : Nat => ⟨[(6, .d (I ((j + 1 : Nat) : Int))), (1, .d (I (L : Int))), (5, .d (I (on.map fun b => [Dat.bool b]).length)), (0, .d (boolsD on))], [], 0, [], 0⟩) (fun j => j ≤ on.length ∧ nextFrom on L j = none) (fun j => on.length - j) 0 (by ((refine Weak.of ?_ ?_ rfl rfl ?_ rfl rfl <;> repeat' first | exact trivial | refine ⟨⟨_, rfl, Or.inl ⟨rfl, rfl⟩⟩, ?_⟩ | refine ⟨⟨_, rfl, Or.inr (Or.inl ⟨rfl, by first | exact ⟨_, _, rfl, rfl, Or.inl rfl⟩ | exact ⟨_, _, rfl, rfl, Or.inr rfl⟩⟩)⟩, ?_⟩ | refine ⟨⟨_, rfl, Or.inr (Or.inr rfl)⟩, ?_⟩ | refine ⟨⟨_, rfl, VW_int (by assumption)⟩, ?_⟩ | refine ⟨⟨Or.inl ⟨_, rfl, ⟨rfl, rfl⟩⟩, rfl⟩, ?_⟩ | refine ⟨⟨Or.inl ⟨_, rfl, ⟨rfl, rfl, rfl⟩⟩, rfl⟩, ?_⟩ | refine ⟨⟨Or.inl ⟨_, rfl, BSim_by rfl rfl⟩, rfl⟩, ?_⟩ | refine ⟨⟨Or.inr ⟨rfl, rfl⟩, rfl⟩, ?_⟩ | refine ⟨⟨Or.inr ⟨rfl, rfl, rfl⟩, rfl⟩, ?_⟩))) ⟨by omega, rfl⟩ ?_
      rintro j ⟨h3, h4⟩
      refine WT_test (fun h5 => ?_) (fun h5 => ?_)
      · have h5 : j + 1 ≤ on.length := by simp at h5; omega
        have hm : (L + (j + 1)) % on.length < on.length := Nat.mod_lt _ hn
        have hg : (decide ((0 : Int) ≤ (((L + (j + 1)) % (on.map fun b => [Dat.bool b]).length : Nat) : Int)) && decide ((((L + (j + 1)) % (on.map fun b => [Dat.bool b]).length : Nat) : Int) < ((on.map fun b => [Dat.bool b]).length : Int))) = true := by
          rw [List.length_map, Bool.and_eq_true]
          exact ⟨decide_eq_true (Int.natCast_nonneg _), decide_eq_true (Int.ofNat_lt.2 hm)⟩
        have he : (on.map fun b => [Dat.bool b])[(L + (j + 1)) % (on.map fun b => [Dat.bool b]).length]? = some [.bool on[(L + (j + 1)) % on.length]] := by
          rw [List.length_map]; exact map_get _ _ _ hm
        (repeat first | refine WT_inR (by simp [inR]; omega) ?_ | refine WT_t rfl ?_ | refine WT_f rfl ?_ | refine WT_guard (by first | (simp [inR]; done) | (simp [inR]; omega)) ?_ | refine WT_elem _ (map_get _ _ _ (by first | assumption | omega)) ?_)
        refine WT_f (by simp; omega) ?_
        refine WT_t hg ?_
        refine WT_elem _ he ?_
        have hs := nextFrom_succ on L j h4
        have hgd : on.getD ((L + (j + 1)) % on.length) false = on[(L + (j + 1)) % on.length] := by simp [List.getD, hm]
        rw [hgd] at hs
        refine WT_test (fun h6 => ?_) (fun h6 => ?_)
        · refine WT_leave ?_
          refine WT_ret rfl rfl rfl rfl ?_
          rw [h6, if_pos rfl] at hs
          rw [nextFrom_le on L _ _ hs on.length h5]
          show I (((L + (j + 1)) % (on.map fun b => [Dat.bool b]).length : Nat) : Int) = _
          rw [List.length_map]
        · (repeat first | refine WT_inR (by simp [inR]; omega) ?_ | refine WT_t rfl ?_ | refine WT_f rfl ?_ | refine WT_guard (by first | (simp [inR]; done) | (simp [inR]; omega)) ?_ | refine WT_elem _ (map_get _ _ _ (by first | assumption | omega)) ?_)
          refine WT_again (j + 1) ⟨h5, ?_⟩ (by omega) (by ((refine Weak.of ?_ ?_ rfl rfl ?_ rfl rfl <;> repeat' first | exact trivial | refine ⟨⟨_, rfl, Or.inl ⟨rfl, rfl⟩⟩, ?_⟩ | refine ⟨⟨_, rfl, Or.inr (Or.inl ⟨rfl, by first | exact ⟨_, _, rfl, rfl, Or.inl rfl⟩ | exact ⟨_, _, rfl, rfl, Or.inr rfl⟩⟩)⟩, ?_⟩ | refine ⟨⟨_, rfl, Or.inr (Or.inr rfl)⟩, ?_⟩ | refine ⟨⟨_, rfl, VW_int (by assumption)⟩, ?_⟩ | refine ⟨⟨Or.inl ⟨_, rfl, ⟨rfl, rfl⟩⟩, rfl⟩, ?_⟩ | refine ⟨⟨Or.inl ⟨_, rfl, ⟨rfl, rfl, rfl⟩⟩, rfl⟩, ?_⟩ | refine ⟨⟨Or.inl ⟨_, rfl, BSim_by rfl rfl⟩, rfl⟩, ?_⟩ | refine ⟨⟨Or.inr ⟨rfl, rfl⟩, rfl⟩, ?_⟩ | refine ⟨⟨Or.inr ⟨rfl, rfl, rfl⟩, rfl⟩, ?_⟩)))
          rw [hs, h6]; rfl
      · refine WT_break ?_
        have h5 : on.length ≤ j := by simp at h5; omega
        obtain rfl : j = on.length := by omega
        refine WT_ret rfl rfl rfl rfl ?_
        rw [h4]; rfl
end Uw.Tryd

/- The document's Next; turns come round. -/
set_option linter.unusedVariables false
set_option linter.unusedSimpArgs false
namespace Uw.Tryd
open Go Uw Go.Proofs Go.RowKit

def firstOn (on : List Bool) (lo : Nat) : Nat → Option Nat
  | 0 => none
  | k + 1 => match firstOn on lo k with
    | some w => some w
    | none => if on.getD (lo + k) false then some (lo + k) else none

theorem firstOn_succ (on : List Bool) (lo k : Nat) (h : firstOn on lo k = none) : firstOn on lo (k + 1) = if on.getD (lo + k) false then some (lo + k) else none := by rw [firstOn, h]
theorem firstOn_le (on : List Bool) (lo k w : Nat) (h : firstOn on lo k = some w) : ∀ m, k ≤ m → firstOn on lo m = some w := by
  intro m hm
  induction m with
  | zero => obtain rfl : k = 0 := by omega
            exact h
  | succ m ih =>
    by_cases he : k = m + 1
    · subst he; exact h
    · rw [firstOn, ih (by omega)]

theorem nextFrom_ahead (on : List Bool) (L : Nat) : ∀ k, L + 1 + k ≤ on.length → nextFrom on L k = firstOn on (L + 1) k
  | 0, _ => rfl
  | k + 1, h => by
    rw [nextFrom, firstOn, nextFrom_ahead on L k (by omega)]
    cases firstOn on (L + 1) k with
    | some w => rfl
    | none => simp only; rw [Nat.mod_eq_of_lt (by omega), show L + (k + 1) = L + 1 + k by omega]

theorem nextFrom_round (on : List Bool) (L : Nat) (hL : L < on.length) : ∀ k, k ≤ L + 1 → nextFrom on L (on.length - (L + 1) + k) = match firstOn on (L + 1) (on.length - (L + 1)) with | some w => some w | none => firstOn on 0 k
  | 0, _ => by
    rw [Nat.add_zero, nextFrom_ahead on L _ (by omega)]
    cases firstOn on (L + 1) (on.length - (L + 1)) <;> rfl
  | k + 1, h => by
    have ih := nextFrom_round on L hL k (by omega)
    rw [show on.length - (L + 1) + (k + 1) = (on.length - (L + 1) + k) + 1 by omega, nextFrom, ih]
    cases firstOn on (L + 1) (on.length - (L + 1)) with
    | some w => rfl
    | none =>
      simp only [firstOn]
      cases firstOn on 0 k with
      | some w => rfl
      | none =>
        have e : (L + (on.length - (L + 1) + k + 1)) % on.length = 0 + k := by
          rw [show L + (on.length - (L + 1) + k + 1) = k + on.length by omega, Nat.add_mod_right, Nat.mod_eq_of_lt (by omega)]; omega
        simp only [e]

theorem nextO_eq (on : List Bool) (last : Int) : nextO on last = match firstOn on (lastOf on.length last + 1) (on.length - (lastOf on.length last + 1)) with | some w => some w | none => firstOn on 0 (min (lastOf on.length last + 1) on.length) := by
  by_cases hn : on = []
  · subst hn
    have e : lastOf ([] : List Bool).length last = 0 := by
      rw [lastOf]; split
      · rfl
      · simp at *; omega
    rw [e]; rfl
  · have hn : 0 < on.length := List.length_pos_iff.2 hn
    have hL : lastOf on.length last < on.length := by rw [lastOf]; split <;> omega
    have := nextFrom_round on _ hL (lastOf on.length last + 1) (by omega)
    rw [nextO, Nat.min_eq_left (by omega), ← this]
    congr 1; omega

theorem s_ref29_Next (on : List Bool) (last : Int) (hl : on.length < 1000000) : Ret P0 n_ref29_Next [boolsD on, I last] (I (next on last)) := by
  -- the place from which it looks, and how many behind it
  have key : ∀ (L : Nat) (r : Option Nat), L ≤ on.length → (match firstOn on L (on.length - L) with | some w => some w | none => firstOn on 0 (if last < 0 ∨ (on.length : Int) ≤ last then 0 else L)) = r → L = (if last < 0 ∨ (on.length : Int) ≤ last then 0 else last.toNat + 1) → nextO on last = r := by
    intro L r hL h hLe
    rw [nextO_eq]
    by_cases hc : last < 0 ∨ (on.length : Int) ≤ last
    · rw [if_pos hc] at h hLe
      subst hLe
      rw [lastOf, if_pos hc]
      by_cases hn : on.length = 0
      · have : on = [] := List.length_eq_zero_iff.1 hn
        subst this
        rw [← h]; rfl
      · rw [show on.length - 1 + 1 = on.length by omega, Nat.sub_self, Nat.min_self]
        simp only [firstOn]
        rw [← h]
        simp only [Nat.sub_zero, firstOn]
        cases firstOn on 0 on.length <;> rfl
    · rw [if_neg hc] at h hLe
      rw [lastOf, if_neg hc, ← hLe, Nat.min_eq_left hL]
      exact h
  refine Ret_by is_ref29_Next rfl ?_
  generalize hLd : (if last < 0 ∨ (on.length : Int) ≤ last then 0 else last.toNat + 1) = L at key
  have hLn : L ≤ on.length := by rw [← hLd]; split <;> omega
  have hLc : (if last < 0 ∨ (on.length : Int) ≤ last then 0 else L) = L := by
    rw [← hLd]; split <;> rfl
  have hv1 : (last < 0 ∨ (on.length : Int) ≤ last) → (-1 : Int) + 1 = (L : Int) ∧ (-1 : Int) = (L : Int) - 1 := by
    intro h; rw [← hLd, if_pos h]; exact ⟨rfl, rfl⟩
  have hv2 : ¬ (last < 0 ∨ (on.length : Int) ≤ last) → last + 1 = (L : Int) ∧ last = (L : Int) - 1 := by
    intro h; rw [← hLd, if_neg h]; omega
  refine WT_test (fun h => ?a) (fun h => ?b)
  case' a => ((repeat first | refine WT_inR (by simp [inR]; omega) ?_ | refine WT_t rfl ?_ | refine WT_f rfl ?_ | refine WT_guard (by first | (simp [inR]; done) | (simp [inR]; omega)) ?_ | refine WT_elem _ (map_get _ _ _ (by first | assumption | omega)) ?_); refine WT_test (fun h2 => ?c) (fun h2 => ?d))
  case' c => have hv := hv1 (by simp at h h2; omega)
  case' d => have hv := hv2 (by simp at h h2; omega)
  case' b => have hv := hv1 (by simp at h; omega)
  all_goals
    obtain ⟨hva, hvb⟩ := hv
    (repeat first | refine WT_inR (by simp [inR]; omega) ?_ | refine WT_t rfl ?_ | refine WT_f rfl ?_ | refine WT_guard (by first | (simp [inR]; done) | (simp [inR]; omega)) ?_ | refine WT_elem _ (map_get _ _ _ (by first | assumption | omega)) ?_)
    refine WT_loop (fun j : Nat => ⟨[(5, .d (I ((L + j : Nat) : Int))), (0, .d (boolsD on)), (1, .d (I ((L : Int) - 1)))], [], 0, [], 0⟩) (fun j => L + j ≤ on.length ∧ firstOn on L j = none) (fun j => on.length - j) 0 (by ((refine Weak.of ?_ ?_ rfl rfl ?_ rfl rfl <;> repeat' first | exact trivial | refine ⟨⟨_, rfl, Or.inl ⟨rfl, rfl⟩⟩, ?_⟩ | refine ⟨⟨_, rfl, Or.inr (Or.inl ⟨rfl, by first | exact ⟨_, _, rfl, rfl, Or.inl rfl⟩ | exact ⟨_, _, rfl, rfl, Or.inr rfl⟩⟩)⟩, ?_⟩ | refine ⟨⟨_, rfl, Or.inr (Or.inr rfl)⟩, ?_⟩ | refine ⟨⟨_, rfl, VW_int (by assumption)⟩, ?_⟩ | refine ⟨⟨Or.inl ⟨_, rfl, ⟨rfl, rfl⟩⟩, rfl⟩, ?_⟩ | refine ⟨⟨Or.inl ⟨_, rfl, ⟨rfl, rfl, rfl⟩⟩, rfl⟩, ?_⟩ | refine ⟨⟨Or.inl ⟨_, rfl, BSim_by rfl rfl⟩, rfl⟩, ?_⟩ | refine ⟨⟨Or.inr ⟨rfl, rfl⟩, rfl⟩, ?_⟩ | refine ⟨⟨Or.inr ⟨rfl, rfl, rfl⟩, rfl⟩, ?_⟩))) ⟨by omega, rfl⟩ ?_
    rintro j ⟨h3, h4⟩
    refine WT_test (fun h5 => ?_) (fun h5 => ?_)
    · have h5 : L + j < on.length := by simp at h5; omega
      have he : (on.map fun b => [Dat.bool b])[L + j]? = some [.bool on[L + j]] := map_get _ _ _ h5
      have hs := firstOn_succ on L j h4
      have hgd : on.getD (L + j) false = on[L + j] := by simp [List.getD, h5]
      rw [hgd] at hs
      refine WT_t (by simp; omega) ?_
      refine WT_elem _ he ?_
      refine WT_test (fun h6 => ?_) (fun h6 => ?_)
      · refine WT_leave ?_
        refine WT_ret rfl rfl rfl rfl ?_
        rw [h6, if_pos rfl] at hs
        have hk := key L (some (L + j)) hLn (by rw [firstOn_le on L _ _ hs (on.length - L) (by omega)]) rfl
        rw [next, hk]; rfl
      · (repeat first | refine WT_inR (by simp [inR]; omega) ?_ | refine WT_t rfl ?_ | refine WT_f rfl ?_ | refine WT_guard (by first | (simp [inR]; done) | (simp [inR]; omega)) ?_ | refine WT_elem _ (map_get _ _ _ (by first | assumption | omega)) ?_)
        refine WT_again (j + 1) ⟨by omega, ?_⟩ (by omega) (by ((refine Weak.of ?_ ?_ rfl rfl ?_ rfl rfl <;> repeat' first | exact trivial | refine ⟨⟨_, rfl, Or.inl ⟨rfl, rfl⟩⟩, ?_⟩ | refine ⟨⟨_, rfl, Or.inr (Or.inl ⟨rfl, by first | exact ⟨_, _, rfl, rfl, Or.inl rfl⟩ | exact ⟨_, _, rfl, rfl, Or.inr rfl⟩⟩)⟩, ?_⟩ | refine ⟨⟨_, rfl, Or.inr (Or.inr rfl)⟩, ?_⟩ | refine ⟨⟨_, rfl, VW_int (by assumption)⟩, ?_⟩ | refine ⟨⟨Or.inl ⟨_, rfl, ⟨rfl, rfl⟩⟩, rfl⟩, ?_⟩ | refine ⟨⟨Or.inl ⟨_, rfl, ⟨rfl, rfl, rfl⟩⟩, rfl⟩, ?_⟩ | refine ⟨⟨Or.inl ⟨_, rfl, BSim_by rfl rfl⟩, rfl⟩, ?_⟩ | refine ⟨⟨Or.inr ⟨rfl, rfl⟩, rfl⟩, ?_⟩ | refine ⟨⟨Or.inr ⟨rfl, rfl, rfl⟩, rfl⟩, ?_⟩)))
        rw [hs, h6]; rfl
    · refine WT_break ?_
      have h5 : on.length ≤ L + j := by simp at h5; omega
      have hj : j = on.length - L := by omega
      rw [hj] at h4
      refine WT_loop (fun k : Nat => ⟨[(6, .d (I (k : Int))), (0, .d (boolsD on)), (1, .d (I ((L : Int) - 1)))], [], 0, [], 0⟩) (fun k => k ≤ L ∧ firstOn on 0 k = none) (fun k => L - k) 0 (by ((refine Weak.of ?_ ?_ rfl rfl ?_ rfl rfl <;> repeat' first | exact trivial | refine ⟨⟨_, rfl, Or.inl ⟨rfl, rfl⟩⟩, ?_⟩ | refine ⟨⟨_, rfl, Or.inr (Or.inl ⟨rfl, by first | exact ⟨_, _, rfl, rfl, Or.inl rfl⟩ | exact ⟨_, _, rfl, rfl, Or.inr rfl⟩⟩)⟩, ?_⟩ | refine ⟨⟨_, rfl, Or.inr (Or.inr rfl)⟩, ?_⟩ | refine ⟨⟨_, rfl, VW_int (by assumption)⟩, ?_⟩ | refine ⟨⟨Or.inl ⟨_, rfl, ⟨rfl, rfl⟩⟩, rfl⟩, ?_⟩ | refine ⟨⟨Or.inl ⟨_, rfl, ⟨rfl, rfl, rfl⟩⟩, rfl⟩, ?_⟩ | refine ⟨⟨Or.inl ⟨_, rfl, BSim_by rfl rfl⟩, rfl⟩, ?_⟩ | refine ⟨⟨Or.inr ⟨rfl, rfl⟩, rfl⟩, ?_⟩ | refine ⟨⟨Or.inr ⟨rfl, rfl, rfl⟩, rfl⟩, ?_⟩))) ⟨by omega, rfl⟩ ?_
      rintro k ⟨h6, h7⟩
      refine WT_test (fun h8 => ?_) (fun h8 => ?_)
      · have h8 : k < L := by simp at h8; omega
        have he : (on.map fun b => [Dat.bool b])[k]? = some [.bool on[k]] := map_get _ _ _ (by omega)
        have hs := firstOn_succ on 0 k h7
        rw [Nat.zero_add] at hs
        have hgd : on.getD k false = on[k] := by simp [List.getD, show k < on.length by omega]
        rw [hgd] at hs
        refine WT_t (by simp; omega) ?_
        refine WT_elem _ he ?_
        refine WT_test (fun h9 => ?_) (fun h9 => ?_)
        · refine WT_leave ?_
          refine WT_ret rfl rfl rfl rfl ?_
          rw [h9, if_pos rfl] at hs
          have hk := key L (some k) hLn (by rw [h4]; simp only [hLc]; exact firstOn_le on 0 _ _ hs L (by omega)) rfl
          rw [next, hk]; rfl
        · (repeat first | refine WT_inR (by simp [inR]; omega) ?_ | refine WT_t rfl ?_ | refine WT_f rfl ?_ | refine WT_guard (by first | (simp [inR]; done) | (simp [inR]; omega)) ?_ | refine WT_elem _ (map_get _ _ _ (by first | assumption | omega)) ?_)
          refine WT_again (k + 1) ⟨by omega, ?_⟩ (by omega) (by ((refine Weak.of ?_ ?_ rfl rfl ?_ rfl rfl <;> repeat' first | exact trivial | refine ⟨⟨_, rfl, Or.inl ⟨rfl, rfl⟩⟩, ?_⟩ | refine ⟨⟨_, rfl, Or.inr (Or.inl ⟨rfl, by first | exact ⟨_, _, rfl, rfl, Or.inl rfl⟩ | exact ⟨_, _, rfl, rfl, Or.inr rfl⟩⟩)⟩, ?_⟩ | refine ⟨⟨_, rfl, Or.inr (Or.inr rfl)⟩, ?_⟩ | refine ⟨⟨_, rfl, VW_int (by assumption)⟩, ?_⟩ | refine ⟨⟨Or.inl ⟨_, rfl, ⟨rfl, rfl⟩⟩, rfl⟩, ?_⟩ | refine ⟨⟨Or.inl ⟨_, rfl, ⟨rfl, rfl, rfl⟩⟩, rfl⟩, ?_⟩ | refine ⟨⟨Or.inl ⟨_, rfl, BSim_by rfl rfl⟩, rfl⟩, ?_⟩ | refine ⟨⟨Or.inr ⟨rfl, rfl⟩, rfl⟩, ?_⟩ | refine ⟨⟨Or.inr ⟨rfl, rfl, rfl⟩, rfl⟩, ?_⟩)))
          rw [hs, h9]; rfl
      · refine WT_break ?_
        have h8 : L ≤ k := by simp at h8; omega
        obtain rfl : k = L := by omega
        refine WT_ret rfl rfl rfl rfl ?_
        have hk := key k none hLn (by rw [h4]; simp only [hLc]; exact h7) rfl
        rw [next, hk]; rfl

/-! ### turns come round -/
/-- The places that are alive, in order. -/
def alives (on : List Bool) : List Nat := (List.range on.length).filter fun i => on.getD i false

theorem alives_sorted (on : List Bool) : (alives on).Pairwise (· < ·) := List.Pairwise.filter _ List.pairwise_lt_range

/-- The places in the order in which turns come, behind x. -/
def rot (A : List Nat) (x : Nat) : List Nat := A.filter (fun i => decide (x < i)) ++ A.filter fun i => decide (i ≤ x)

theorem sorted_split : ∀ (A : List Nat) (x : Nat), A.Pairwise (· < ·) → A = A.filter (fun i => decide (i ≤ x)) ++ A.filter fun i => decide (x < i)
  | [], x, _ => rfl
  | a :: A, x, h => by
    rw [List.pairwise_cons] at h
    have ih := sorted_split A x h.2
    by_cases ha : a ≤ x
    · rw [List.filter_cons, List.filter_cons]
      simp only [ha, decide_true, if_true, show ¬ x < a by omega, decide_false, Bool.false_eq_true, if_false, List.cons_append]
      rw [← ih]
    · have e1 : (a :: A).filter (fun i => decide (i ≤ x)) = [] := by
        rw [List.filter_eq_nil_iff]
        intro b hb
        rw [List.mem_cons] at hb
        rcases hb with rfl | hb
        · simpa using ha
        · have := h.1 b hb; simp; omega
      have e2 : (a :: A).filter (fun i => decide (x < i)) = a :: A := by
        rw [List.filter_eq_self]
        intro b hb
        rw [List.mem_cons] at hb
        rcases hb with rfl | hb
        · simp; omega
        · have := h.1 b hb; simp; omega
      rw [e1, e2]; rfl

theorem rot_next (A : List Nat) (x y : Nat) (t : List Nat) (hA : A.Pairwise (· < ·)) (h : rot A x = y :: t) : rot A y = t ++ [y] := by
  have hs := sorted_split A x hA
  have filt : ∀ (u v : List Nat), A = u ++ y :: v → rot A y = v ++ (u ++ [y]) := by
    intro u v e
    rw [e] at hA
    rw [List.pairwise_append, List.pairwise_cons] at hA
    obtain ⟨h1, ⟨h2, h3⟩, h4⟩ := hA
    have e1 : u.filter (fun i => decide (y < i)) = [] := by
      rw [List.filter_eq_nil_iff]; intro a ha; have := h4 a ha y (by simp); simp; omega
    have e2 : v.filter (fun i => decide (y < i)) = v := by
      rw [List.filter_eq_self]; intro a ha; simpa using h2 a ha
    have e3 : u.filter (fun i => decide (i ≤ y)) = u := by
      rw [List.filter_eq_self]; intro a ha; have := h4 a ha y (by simp); simp; omega
    have e4 : v.filter (fun i => decide (i ≤ y)) = [] := by
      rw [List.filter_eq_nil_iff]; intro a ha; have := h2 a ha; simp; omega
    rw [rot, e, List.filter_append, List.filter_append, List.filter_cons, List.filter_cons, e1, e2, e3, e4]
    simp
  cases hb : A.filter (fun i => decide (x < i)) with
  | nil =>
    rw [rot, hb, List.nil_append] at h
    rw [hb, List.append_nil] at hs
    rw [h] at hs
    have := filt [] t hs
    simpa using this
  | cons z r =>
    rw [rot, hb, List.cons_append] at h
    injection h with e1 e2
    subst e1
    rw [hb] at hs
    rw [filt _ _ hs, ← e2]
    simp

theorem firstOn_head (on : List Bool) (lo : Nat) : ∀ k, firstOn on lo k = ((List.range' lo k).filter fun i => on.getD i false).head?
  | 0 => rfl
  | k + 1 => by
    rw [firstOn, firstOn_head on lo k, List.range'_concat, List.filter_append, List.head?_append]
    cases ((List.range' lo k).filter fun i => on.getD i false).head? with
    | some w => rfl
    | none =>
      simp only [Nat.one_mul, List.filter_cons, List.filter_nil, Option.none_or]
      split <;> rfl

theorem alives_split (on : List Bool) (x : Nat) (hx : x < on.length) : (alives on).filter (fun i => decide (x < i)) = (List.range' (x + 1) (on.length - (x + 1))).filter (fun i => on.getD i false) ∧ (alives on).filter (fun i => decide (i ≤ x)) = (List.range' 0 (x + 1)).filter fun i => on.getD i false := by
  have e : List.range on.length = List.range' 0 (x + 1) ++ List.range' (x + 1) (on.length - (x + 1)) := by
    have := List.range'_append (s := 0) (m := x + 1) (n := on.length - (x + 1)) (step := 1)
    rw [Nat.one_mul, Nat.zero_add] at this
    rw [List.range_eq_range', this]
    congr 1; omega
  have a1 : (List.range' 0 (x + 1)).filter (fun i => decide (x < i)) = [] := by
    rw [List.filter_eq_nil_iff]; intro a ha; rw [List.mem_range'_1] at ha; simp; omega
  have a2 : (List.range' (x + 1) (on.length - (x + 1))).filter (fun i => decide (x < i)) = List.range' (x + 1) (on.length - (x + 1)) := by
    rw [List.filter_eq_self]; intro a ha; rw [List.mem_range'_1] at ha; simp; omega
  have a3 : (List.range' 0 (x + 1)).filter (fun i => decide (i ≤ x)) = List.range' 0 (x + 1) := by
    rw [List.filter_eq_self]; intro a ha; rw [List.mem_range'_1] at ha; simp; omega
  have a4 : (List.range' (x + 1) (on.length - (x + 1))).filter (fun i => decide (i ≤ x)) = [] := by
    rw [List.filter_eq_nil_iff]; intro a ha; rw [List.mem_range'_1] at ha; simp; omega
  have comm : ∀ (l : List Nat) (p q : Nat → Bool), (l.filter p).filter q = (l.filter q).filter p := by
    intro l p q
    rw [List.filter_filter, List.filter_filter]
    congr 1; funext a; exact Bool.and_comm ..
  rw [alives, comm, comm _ _ (fun i => decide (i ≤ x)), e, List.filter_append, List.filter_append, List.filter_append, a1, a2, a3, a4]
  simp

theorem nextO_rot (on : List Bool) (last : Int) : nextO on last = (rot (alives on) (lastOf on.length last)).head? := by
  rw [nextO_eq]
  by_cases hn : on = []
  · subst hn
    have e : lastOf ([] : List Bool).length last = 0 := by
      rw [lastOf]; split
      · rfl
      · simp at *; omega
    rw [e]; rfl
  · have hn : 0 < on.length := List.length_pos_iff.2 hn
    have hL : lastOf on.length last < on.length := by rw [lastOf]; split <;> omega
    generalize lastOf on.length last = L at *
    obtain ⟨h1, h2⟩ := alives_split on L hL
    rw [rot, h1, h2, List.head?_append, ← firstOn_head, ← firstOn_head, Nat.min_eq_left (by omega)]
    cases firstOn on (L + 1) (on.length - (L + 1)) <;> rfl

theorem mem_alives (on : List Bool) (i : Nat) : i ∈ alives on ↔ i < on.length ∧ on.getD i false = true := by
  rw [alives, List.mem_filter, List.mem_range]

theorem mem_rot (A : List Nat) (x i : Nat) : i ∈ rot A x ↔ i ∈ A := by
  rw [rot, List.mem_append, List.mem_filter, List.mem_filter]
  simp only [decide_eq_true_eq]
  constructor
  · rintro (h | h) <;> exact h.1
  · intro h
    rcases Nat.lt_or_ge x i with h1 | h1
    · exact .inl ⟨h, h1⟩
    · exact .inr ⟨h, h1⟩

theorem rot_len (A : List Nat) (x : Nat) (h : A.Pairwise (· < ·)) : (rot A x).length = A.length := by
  have := congrArg List.length (sorted_split A x h)
  rw [List.length_append] at this
  rw [rot, List.length_append]; omega

theorem rot_nodup (A : List Nat) (x : Nat) (h : A.Pairwise (· < ·)) : (rot A x).Nodup := by
  have hp : A.Nodup := h.imp (fun h => by omega)
  rw [rot, List.nodup_append]
  refine ⟨hp.filter _, hp.filter _, ?_⟩
  intro a ha b hb
  rw [List.mem_filter] at ha hb
  simp at ha hb; omega
end Uw.Tryd
