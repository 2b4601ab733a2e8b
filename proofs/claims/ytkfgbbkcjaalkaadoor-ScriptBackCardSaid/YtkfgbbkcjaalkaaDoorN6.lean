/- N6: Sb Sc Sd Se (merged by merge2.py from the working texts). -/
import Derived.Test.YtkfgbbkcjaalkaaDoorN5
import Derived.Test.YtkfgbbkcjaalkaaDoorN4
set_option linter.unusedSimpArgs false
set_option linter.unnecessarySimpa false
set_option linter.unusedVariables false
set_option linter.unusedSectionVars false

/- Picks, plainly; contracts of the small functions. -/
set_option linter.unusedVariables false
namespace Uw.Tryd
open Go Uw Go.Proofs Go.RowKit

abbrev I (n : Int) : Dat := .int .i64 n
structure Pick where
  kind : Int
  a : Int
  b : Int
  deriving DecidableEq, Inhabited
def pickL (p : Pick) : List Dat := [I p.kind, I p.a, I p.b]
def picksD (l : List Pick) : Dat := .slice 3 (l.map pickL) false
def strsD (l : List (List UInt8)) : Dat := .slice 1 (l.map fun s => [.str s]) false

def right (seats : Int) (p : Pick) : Bool := (decide (0 ≤ p.a) && decide (p.a < seats)) && (((decide (p.kind = 1) || decide (p.kind = 3)) && decide (p.b = 0)) || (decide (p.kind = 2) && (decide (0 ≤ p.b) && decide (p.b ≤ 1048576))))

theorem s_script_Right (seats : Int) (p : Pick) : Ret P0 n_script_Right [I seats, .agg (pickL p)] (.bool (right seats p)) := by
  refine Ret_by is_script_Right rfl ?_
  (repeat' first | refine WT_t rfl ?_ | refine WT_f rfl ?_ | refine WT_ret rfl rfl rfl rfl ?_ | refine WT_test (fun h => ?_) (fun h => ?_))
  all_goals simp_all [packD, right]
  all_goals omega

theorem s_ref29_Right (seats : Int) (p : Pick) : Ret P0 n_ref29_Right [I seats, .agg (pickL p)] (.bool (right seats p)) := by
  refine Ret_by is_ref29_Right rfl ?_
  (repeat' first | refine WT_t rfl ?_ | refine WT_f rfl ?_ | refine WT_ret rfl rfl rfl rfl ?_ | refine WT_test (fun h => ?_) (fun h => ?_))
  all_goals simp_all [packD, right]
  all_goals omega

theorem s_ref29_Same (l m : List Pick) (hl : l.length < 1000000) : Ret P0 n_ref29_Same [picksD l, picksD m] (.bool (decide (l = m))) := by
  refine Ret_by is_ref29_Same rfl ?_
  refine WT_test (fun h => ?_) (fun h => ?_)
  · refine WT_ret rfl rfl rfl rfl ?_
    simp at h
    have : l ≠ m := fun e => h (by rw [e])
    simp [packD, this]
  · have h : l.length = m.length := by simp at h; omega
    refine WT_loop (fun k : Nat => ⟨[(5, .d (I k)), (0, .d (picksD l)), (1, .d (picksD m))], [], 0, [], 0⟩) (fun k => k ≤ l.length ∧ l.take k = m.take k) (fun k => l.length - k) 0 (by ((refine Weak.of ?_ ?_ rfl rfl ?_ rfl rfl <;> repeat' first | exact trivial | refine ⟨⟨_, rfl, Or.inl ⟨rfl, rfl⟩⟩, ?_⟩ | refine ⟨⟨_, rfl, Or.inr (Or.inl ⟨rfl, by first | exact ⟨_, _, rfl, rfl, Or.inl rfl⟩ | exact ⟨_, _, rfl, rfl, Or.inr rfl⟩⟩)⟩, ?_⟩ | refine ⟨⟨_, rfl, Or.inr (Or.inr rfl)⟩, ?_⟩ | refine ⟨⟨_, rfl, VW_int (by assumption)⟩, ?_⟩ | refine ⟨⟨Or.inl ⟨_, rfl, ⟨rfl, rfl⟩⟩, rfl⟩, ?_⟩ | refine ⟨⟨Or.inl ⟨_, rfl, ⟨rfl, rfl, rfl⟩⟩, rfl⟩, ?_⟩ | refine ⟨⟨Or.inl ⟨_, rfl, BSim_by rfl rfl⟩, rfl⟩, ?_⟩ | refine ⟨⟨Or.inr ⟨rfl, rfl⟩, rfl⟩, ?_⟩ | refine ⟨⟨Or.inr ⟨rfl, rfl, rfl⟩, rfl⟩, ?_⟩))) (by simp) ?_
    rintro k ⟨h1, h2⟩
    refine WT_test (fun h3 => ?_) (fun h3 => ?_)
    · have h3 : k < l.length := by simpa using h3
      (repeat first | refine WT_inR (by simp [inR]; omega) ?_ | refine WT_t rfl ?_ | refine WT_f rfl ?_ | refine WT_guard (by first | (simp [inR]; done) | (simp [inR]; omega)) ?_ | refine WT_elem _ (map_get _ _ _ (by first | assumption | omega)) ?_)
      refine WT_test (fun h4 => ?_) (fun h4 => ?_)
      · refine WT_leave ?_
        refine WT_ret rfl rfl rfl rfl ?_
        have : l ≠ m := by
          intro e
          subst e
          simp [negB] at h4
        simp [packD, this]
      · (repeat first | refine WT_inR (by simp [inR]; omega) ?_ | refine WT_t rfl ?_ | refine WT_f rfl ?_ | refine WT_guard (by first | (simp [inR]; done) | (simp [inR]; omega)) ?_ | refine WT_elem _ (map_get _ _ _ (by first | assumption | omega)) ?_)
        refine WT_again (k + 1) ⟨by omega, ?_⟩ (by omega) (by ((refine Weak.of ?_ ?_ rfl rfl ?_ rfl rfl <;> repeat' first | exact trivial | refine ⟨⟨_, rfl, Or.inl ⟨rfl, rfl⟩⟩, ?_⟩ | refine ⟨⟨_, rfl, Or.inr (Or.inl ⟨rfl, by first | exact ⟨_, _, rfl, rfl, Or.inl rfl⟩ | exact ⟨_, _, rfl, rfl, Or.inr rfl⟩⟩)⟩, ?_⟩ | refine ⟨⟨_, rfl, Or.inr (Or.inr rfl)⟩, ?_⟩ | refine ⟨⟨_, rfl, VW_int (by assumption)⟩, ?_⟩ | refine ⟨⟨Or.inl ⟨_, rfl, ⟨rfl, rfl⟩⟩, rfl⟩, ?_⟩ | refine ⟨⟨Or.inl ⟨_, rfl, ⟨rfl, rfl, rfl⟩⟩, rfl⟩, ?_⟩ | refine ⟨⟨Or.inl ⟨_, rfl, BSim_by rfl rfl⟩, rfl⟩, ?_⟩ | refine ⟨⟨Or.inr ⟨rfl, rfl⟩, rfl⟩, ?_⟩ | refine ⟨⟨Or.inr ⟨rfl, rfl, rfl⟩, rfl⟩, ?_⟩)))
        rw [take_one l k h3, take_one m k (by omega), h2]
        congr 2
        simp [negB] at h4
        rcases hx : l[k] with ⟨x1, x2, x3⟩
        rcases hy : m[k] with ⟨y1, y2, y3⟩
        rw [hx, hy] at h4
        simp at h4
        simp [h4]
    · refine WT_break ?_
      have h3 : l.length ≤ k := by simpa using h3
      refine WT_ret rfl rfl rfl rfl ?_
      rw [List.take_of_length_le h3, List.take_of_length_le (by omega)] at h2
      simp [packD, h2]

def deadIn (l : List Pick) (w : Int) : Bool := l.any fun p => decide (p.kind = 3) && decide (p.a = w)
def deaths (l : List Pick) : Nat := (l.filter fun p => decide (p.kind = 3)).length

theorem s_ref29_dead (l : List Pick) (w : Int) (hl : l.length < 1000000) : Ret P0 n_ref29_dead [picksD l, I w] (.bool (deadIn l w)) := by
  refine Ret_by is_ref29_dead rfl ?_
  refine WT_loop (fun k : Nat => ⟨[(5, .d (I k)), (0, .d (picksD l)), (1, .d (I w))], [], 0, [], 0⟩) (fun k => k ≤ l.length ∧ deadIn (l.take k) w = false) (fun k => l.length - k) 0 (by ((refine Weak.of ?_ ?_ rfl rfl ?_ rfl rfl <;> repeat' first | exact trivial | refine ⟨⟨_, rfl, Or.inl ⟨rfl, rfl⟩⟩, ?_⟩ | refine ⟨⟨_, rfl, Or.inr (Or.inl ⟨rfl, by first | exact ⟨_, _, rfl, rfl, Or.inl rfl⟩ | exact ⟨_, _, rfl, rfl, Or.inr rfl⟩⟩)⟩, ?_⟩ | refine ⟨⟨_, rfl, Or.inr (Or.inr rfl)⟩, ?_⟩ | refine ⟨⟨_, rfl, VW_int (by assumption)⟩, ?_⟩ | refine ⟨⟨Or.inl ⟨_, rfl, ⟨rfl, rfl⟩⟩, rfl⟩, ?_⟩ | refine ⟨⟨Or.inl ⟨_, rfl, ⟨rfl, rfl, rfl⟩⟩, rfl⟩, ?_⟩ | refine ⟨⟨Or.inl ⟨_, rfl, BSim_by rfl rfl⟩, rfl⟩, ?_⟩ | refine ⟨⟨Or.inr ⟨rfl, rfl⟩, rfl⟩, ?_⟩ | refine ⟨⟨Or.inr ⟨rfl, rfl, rfl⟩, rfl⟩, ?_⟩))) (by simp [deadIn]) ?_
  rintro k ⟨h1, h2⟩
  refine WT_test (fun h3 => ?_) (fun h3 => ?_)
  · have h3 : k < l.length := by simpa using h3
    have go : (decide (l[k].kind = 3) && decide (l[k].a = w)) = false → deadIn (l.take (k + 1)) w = false := by
      intro h
      rw [take_one l k h3, deadIn, List.any_append]
      rw [deadIn] at h2
      rw [h2]; simpa using h
    (repeat first | refine WT_inR (by simp [inR]; omega) ?_ | refine WT_t rfl ?_ | refine WT_f rfl ?_ | refine WT_guard (by first | (simp [inR]; done) | (simp [inR]; omega)) ?_ | refine WT_elem _ (map_get _ _ _ (by first | assumption | omega)) ?_)
    refine WT_test (fun h4 => ?_) (fun h4 => ?_)
    · (repeat first | refine WT_inR (by simp [inR]; omega) ?_ | refine WT_t rfl ?_ | refine WT_f rfl ?_ | refine WT_guard (by first | (simp [inR]; done) | (simp [inR]; omega)) ?_ | refine WT_elem _ (map_get _ _ _ (by first | assumption | omega)) ?_)
      refine WT_test (fun h5 => ?_) (fun h5 => ?_)
      · (repeat first | refine WT_inR (by simp [inR]; omega) ?_ | refine WT_t rfl ?_ | refine WT_f rfl ?_ | refine WT_guard (by first | (simp [inR]; done) | (simp [inR]; omega)) ?_ | refine WT_elem _ (map_get _ _ _ (by first | assumption | omega)) ?_)
        refine WT_leave ?_
        refine WT_ret rfl rfl rfl rfl ?_
        simp at h4 h5
        have : deadIn l w = true := by
          rw [deadIn, List.any_eq_true]
          exact ⟨l[k], List.getElem_mem _, by simp [h4, h5]⟩
        simp [packD, this]
      · (repeat first | refine WT_inR (by simp [inR]; omega) ?_ | refine WT_t rfl ?_ | refine WT_f rfl ?_ | refine WT_guard (by first | (simp [inR]; done) | (simp [inR]; omega)) ?_ | refine WT_elem _ (map_get _ _ _ (by first | assumption | omega)) ?_)
        refine WT_again (k + 1) ⟨by omega, go ?_⟩ (by omega) (by ((refine Weak.of ?_ ?_ rfl rfl ?_ rfl rfl <;> repeat' first | exact trivial | refine ⟨⟨_, rfl, Or.inl ⟨rfl, rfl⟩⟩, ?_⟩ | refine ⟨⟨_, rfl, Or.inr (Or.inl ⟨rfl, by first | exact ⟨_, _, rfl, rfl, Or.inl rfl⟩ | exact ⟨_, _, rfl, rfl, Or.inr rfl⟩⟩)⟩, ?_⟩ | refine ⟨⟨_, rfl, Or.inr (Or.inr rfl)⟩, ?_⟩ | refine ⟨⟨_, rfl, VW_int (by assumption)⟩, ?_⟩ | refine ⟨⟨Or.inl ⟨_, rfl, ⟨rfl, rfl⟩⟩, rfl⟩, ?_⟩ | refine ⟨⟨Or.inl ⟨_, rfl, ⟨rfl, rfl, rfl⟩⟩, rfl⟩, ?_⟩ | refine ⟨⟨Or.inl ⟨_, rfl, BSim_by rfl rfl⟩, rfl⟩, ?_⟩ | refine ⟨⟨Or.inr ⟨rfl, rfl⟩, rfl⟩, ?_⟩ | refine ⟨⟨Or.inr ⟨rfl, rfl, rfl⟩, rfl⟩, ?_⟩)))
        simp at h5; simp [h5]
    · (repeat first | refine WT_inR (by simp [inR]; omega) ?_ | refine WT_t rfl ?_ | refine WT_f rfl ?_ | refine WT_guard (by first | (simp [inR]; done) | (simp [inR]; omega)) ?_ | refine WT_elem _ (map_get _ _ _ (by first | assumption | omega)) ?_)
      refine WT_again (k + 1) ⟨by omega, go ?_⟩ (by omega) (by ((refine Weak.of ?_ ?_ rfl rfl ?_ rfl rfl <;> repeat' first | exact trivial | refine ⟨⟨_, rfl, Or.inl ⟨rfl, rfl⟩⟩, ?_⟩ | refine ⟨⟨_, rfl, Or.inr (Or.inl ⟨rfl, by first | exact ⟨_, _, rfl, rfl, Or.inl rfl⟩ | exact ⟨_, _, rfl, rfl, Or.inr rfl⟩⟩)⟩, ?_⟩ | refine ⟨⟨_, rfl, Or.inr (Or.inr rfl)⟩, ?_⟩ | refine ⟨⟨_, rfl, VW_int (by assumption)⟩, ?_⟩ | refine ⟨⟨Or.inl ⟨_, rfl, ⟨rfl, rfl⟩⟩, rfl⟩, ?_⟩ | refine ⟨⟨Or.inl ⟨_, rfl, ⟨rfl, rfl, rfl⟩⟩, rfl⟩, ?_⟩ | refine ⟨⟨Or.inl ⟨_, rfl, BSim_by rfl rfl⟩, rfl⟩, ?_⟩ | refine ⟨⟨Or.inr ⟨rfl, rfl⟩, rfl⟩, ?_⟩ | refine ⟨⟨Or.inr ⟨rfl, rfl, rfl⟩, rfl⟩, ?_⟩)))
      simp at h4; simp [h4]
  · refine WT_break ?_
    have h3 : l.length ≤ k := by simpa using h3
    refine WT_ret rfl rfl rfl rfl ?_
    rw [List.take_of_length_le h3] at h2
    simp [packD, h2]

theorem s_ref29_deaths (l : List Pick) (hl : l.length < 1000000) : Ret P0 n_ref29_deaths [picksD l] (I (deaths l)) := by
  refine Ret_by is_ref29_deaths rfl ?_
  refine WT_loop (fun k : Nat × Nat => ⟨[(4, .d (I k.1)), (3, .d (I k.2)), (0, .d (picksD l))], [], 0, [], 0⟩) (fun k => k.1 ≤ l.length ∧ k.2 = deaths (l.take k.1)) (fun k => l.length - k.1) (0, 0) (by ((refine Weak.of ?_ ?_ rfl rfl ?_ rfl rfl <;> repeat' first | exact trivial | refine ⟨⟨_, rfl, Or.inl ⟨rfl, rfl⟩⟩, ?_⟩ | refine ⟨⟨_, rfl, Or.inr (Or.inl ⟨rfl, by first | exact ⟨_, _, rfl, rfl, Or.inl rfl⟩ | exact ⟨_, _, rfl, rfl, Or.inr rfl⟩⟩)⟩, ?_⟩ | refine ⟨⟨_, rfl, Or.inr (Or.inr rfl)⟩, ?_⟩ | refine ⟨⟨_, rfl, VW_int (by assumption)⟩, ?_⟩ | refine ⟨⟨Or.inl ⟨_, rfl, ⟨rfl, rfl⟩⟩, rfl⟩, ?_⟩ | refine ⟨⟨Or.inl ⟨_, rfl, ⟨rfl, rfl, rfl⟩⟩, rfl⟩, ?_⟩ | refine ⟨⟨Or.inl ⟨_, rfl, BSim_by rfl rfl⟩, rfl⟩, ?_⟩ | refine ⟨⟨Or.inr ⟨rfl, rfl⟩, rfl⟩, ?_⟩ | refine ⟨⟨Or.inr ⟨rfl, rfl, rfl⟩, rfl⟩, ?_⟩))) (by simp [deaths]) ?_
  rintro ⟨k, n⟩ ⟨h1, h2⟩
  simp only at h1 h2
  have hn : n ≤ k := by rw [h2, deaths]; exact Nat.le_trans (List.length_filter_le ..) (by simp; omega)
  refine WT_test (fun h3 => ?_) (fun h3 => ?_)
  · have h3 : k < l.length := by simpa using h3
    (repeat first | refine WT_inR (by simp [inR]; omega) ?_ | refine WT_t rfl ?_ | refine WT_f rfl ?_ | refine WT_guard (by first | (simp [inR]; done) | (simp [inR]; omega)) ?_ | refine WT_elem _ (map_get _ _ _ (by first | assumption | omega)) ?_)
    refine WT_test (fun h4 => ?_) (fun h4 => ?_)
    · (repeat first | refine WT_inR (by simp [inR]; omega) ?_ | refine WT_t rfl ?_ | refine WT_f rfl ?_ | refine WT_guard (by first | (simp [inR]; done) | (simp [inR]; omega)) ?_ | refine WT_elem _ (map_get _ _ _ (by first | assumption | omega)) ?_)
      refine WT_again (k + 1, n + 1) ⟨by simp; omega, ?_⟩ (by simp; omega) (by ((refine Weak.of ?_ ?_ rfl rfl ?_ rfl rfl <;> repeat' first | exact trivial | refine ⟨⟨_, rfl, Or.inl ⟨rfl, rfl⟩⟩, ?_⟩ | refine ⟨⟨_, rfl, Or.inr (Or.inl ⟨rfl, by first | exact ⟨_, _, rfl, rfl, Or.inl rfl⟩ | exact ⟨_, _, rfl, rfl, Or.inr rfl⟩⟩)⟩, ?_⟩ | refine ⟨⟨_, rfl, Or.inr (Or.inr rfl)⟩, ?_⟩ | refine ⟨⟨_, rfl, VW_int (by assumption)⟩, ?_⟩ | refine ⟨⟨Or.inl ⟨_, rfl, ⟨rfl, rfl⟩⟩, rfl⟩, ?_⟩ | refine ⟨⟨Or.inl ⟨_, rfl, ⟨rfl, rfl, rfl⟩⟩, rfl⟩, ?_⟩ | refine ⟨⟨Or.inl ⟨_, rfl, BSim_by rfl rfl⟩, rfl⟩, ?_⟩ | refine ⟨⟨Or.inr ⟨rfl, rfl⟩, rfl⟩, ?_⟩ | refine ⟨⟨Or.inr ⟨rfl, rfl, rfl⟩, rfl⟩, ?_⟩)))
      simp at h4
      simp only
      rw [take_one l k h3, h2, deaths, deaths, List.filter_append]
      simp [h4]
    · (repeat first | refine WT_inR (by simp [inR]; omega) ?_ | refine WT_t rfl ?_ | refine WT_f rfl ?_ | refine WT_guard (by first | (simp [inR]; done) | (simp [inR]; omega)) ?_ | refine WT_elem _ (map_get _ _ _ (by first | assumption | omega)) ?_)
      refine WT_again (k + 1, n) ⟨by simp; omega, ?_⟩ (by simp; omega) (by ((refine Weak.of ?_ ?_ rfl rfl ?_ rfl rfl <;> repeat' first | exact trivial | refine ⟨⟨_, rfl, Or.inl ⟨rfl, rfl⟩⟩, ?_⟩ | refine ⟨⟨_, rfl, Or.inr (Or.inl ⟨rfl, by first | exact ⟨_, _, rfl, rfl, Or.inl rfl⟩ | exact ⟨_, _, rfl, rfl, Or.inr rfl⟩⟩)⟩, ?_⟩ | refine ⟨⟨_, rfl, Or.inr (Or.inr rfl)⟩, ?_⟩ | refine ⟨⟨_, rfl, VW_int (by assumption)⟩, ?_⟩ | refine ⟨⟨Or.inl ⟨_, rfl, ⟨rfl, rfl⟩⟩, rfl⟩, ?_⟩ | refine ⟨⟨Or.inl ⟨_, rfl, ⟨rfl, rfl, rfl⟩⟩, rfl⟩, ?_⟩ | refine ⟨⟨Or.inl ⟨_, rfl, BSim_by rfl rfl⟩, rfl⟩, ?_⟩ | refine ⟨⟨Or.inr ⟨rfl, rfl⟩, rfl⟩, ?_⟩ | refine ⟨⟨Or.inr ⟨rfl, rfl, rfl⟩, rfl⟩, ?_⟩)))
      simp at h4
      simp only
      rw [take_one l k h3, h2, deaths, deaths, List.filter_append]
      simp [h4]
  · refine WT_break ?_
    have h3 : l.length ≤ k := by simpa using h3
    refine WT_ret rfl rfl rfl rfl ?_
    rw [List.take_of_length_le h3] at h2
    simp [packD, h2]
end Uw.Tryd

/- right, stalls, Plain (the document's), Plain (the program's). -/
set_option linter.unusedVariables false
set_option linter.unusedSimpArgs false
namespace Uw.Tryd
open Go Uw Go.Proofs Go.RowKit

theorem s_ref29_right (seats : Int) (l : List Pick) (hl : l.length < 1000000) : Ret P0 n_ref29_right [I seats, picksD l] (picksD (l.filter (right seats))) := by
  refine Ret_by is_ref29_right rfl ?_
  refine WT_loop (fun s : Nat × Nat × List (List Dat) => ⟨[(6, .d (I s.1)), (5, .ref 0 0 0 s.2.1), (0, .d (I seats)), (1, .d (picksD l))], [(0, .arr 3 s.2.2)], 1, [], 0⟩)
    (fun s => s.1 ≤ l.length ∧ s.2.1 = s.2.2.length ∧ s.2.2 = ((l.take s.1).filter (right seats)).map pickL) (fun s => l.length - s.1) (0, 0, []) (by ((refine Weak.of ?_ ?_ rfl rfl ?_ rfl rfl <;> repeat' first | exact trivial | refine ⟨⟨_, rfl, Or.inl ⟨rfl, rfl⟩⟩, ?_⟩ | refine ⟨⟨_, rfl, Or.inr (Or.inl ⟨rfl, by first | exact ⟨_, _, rfl, rfl, Or.inl rfl⟩ | exact ⟨_, _, rfl, rfl, Or.inr rfl⟩⟩)⟩, ?_⟩ | refine ⟨⟨_, rfl, Or.inr (Or.inr rfl)⟩, ?_⟩ | refine ⟨⟨_, rfl, VW_int (by assumption)⟩, ?_⟩ | refine ⟨⟨Or.inl ⟨_, rfl, ⟨rfl, rfl⟩⟩, rfl⟩, ?_⟩ | refine ⟨⟨Or.inl ⟨_, rfl, ⟨rfl, rfl, rfl⟩⟩, rfl⟩, ?_⟩ | refine ⟨⟨Or.inl ⟨_, rfl, BSim_by rfl rfl⟩, rfl⟩, ?_⟩ | refine ⟨⟨Or.inr ⟨rfl, rfl⟩, rfl⟩, ?_⟩ | refine ⟨⟨Or.inr ⟨rfl, rfl, rfl⟩, rfl⟩, ?_⟩))) (by simp) ?_
  rintro ⟨k, n, xs⟩ ⟨h1, h2, h3⟩
  simp only at h1 h2 h3
  have hn : n ≤ k := by rw [h2, h3]; simp; exact Nat.le_trans (List.length_filter_le ..) (by simp; omega)
  refine WT_test (fun h4 => ?_) (fun h4 => ?_)
  · have h4 : k < l.length := by simpa using h4
    (repeat first | refine WT_inR (by simp [inR]; omega) ?_ | refine WT_t rfl ?_ | refine WT_f rfl ?_ | refine WT_guard (by first | (simp [inR]; done) | (simp [inR]; omega)) ?_ | refine WT_elem _ (map_get _ _ _ (by first | assumption | omega)) ?_)
    refine WT_call _ (s_ref29_Right seats l[k]) ?_
    refine WT_test (fun h5 => ?_) (fun h5 => ?_)
    · (repeat first | refine WT_inR (by simp [inR]; omega) ?_ | refine WT_t rfl ?_ | refine WT_f rfl ?_ | refine WT_guard (by first | (simp [inR]; done) | (simp [inR]; omega)) ?_ | refine WT_elem _ (map_get _ _ _ (by first | assumption | omega)) ?_)
      refine WT_again (k + 1, n + 1, xs ++ [pickL l[k]]) ⟨by simp; omega, by simp [h2], ?_⟩ (by simp; omega) (by ((refine Weak.of ?_ ?_ rfl rfl ?_ rfl rfl <;> repeat' first | exact trivial | refine ⟨⟨_, rfl, Or.inl ⟨rfl, rfl⟩⟩, ?_⟩ | refine ⟨⟨_, rfl, Or.inr (Or.inl ⟨rfl, by first | exact ⟨_, _, rfl, rfl, Or.inl rfl⟩ | exact ⟨_, _, rfl, rfl, Or.inr rfl⟩⟩)⟩, ?_⟩ | refine ⟨⟨_, rfl, Or.inr (Or.inr rfl)⟩, ?_⟩ | refine ⟨⟨_, rfl, VW_int (by assumption)⟩, ?_⟩ | refine ⟨⟨Or.inl ⟨_, rfl, ⟨rfl, rfl⟩⟩, rfl⟩, ?_⟩ | refine ⟨⟨Or.inl ⟨_, rfl, ⟨rfl, rfl, rfl⟩⟩, rfl⟩, ?_⟩ | refine ⟨⟨Or.inl ⟨_, rfl, BSim_by rfl rfl⟩, rfl⟩, ?_⟩ | refine ⟨⟨Or.inr ⟨rfl, rfl⟩, rfl⟩, ?_⟩ | refine ⟨⟨Or.inr ⟨rfl, rfl, rfl⟩, rfl⟩, ?_⟩)))
      simp only
      rw [take_one l k h4, h3, List.filter_append]; simp [h5]
    · (repeat first | refine WT_inR (by simp [inR]; omega) ?_ | refine WT_t rfl ?_ | refine WT_f rfl ?_ | refine WT_guard (by first | (simp [inR]; done) | (simp [inR]; omega)) ?_ | refine WT_elem _ (map_get _ _ _ (by first | assumption | omega)) ?_)
      refine WT_again (k + 1, n, xs) ⟨by simp; omega, h2, ?_⟩ (by simp; omega) (by ((refine Weak.of ?_ ?_ rfl rfl ?_ rfl rfl <;> repeat' first | exact trivial | refine ⟨⟨_, rfl, Or.inl ⟨rfl, rfl⟩⟩, ?_⟩ | refine ⟨⟨_, rfl, Or.inr (Or.inl ⟨rfl, by first | exact ⟨_, _, rfl, rfl, Or.inl rfl⟩ | exact ⟨_, _, rfl, rfl, Or.inr rfl⟩⟩)⟩, ?_⟩ | refine ⟨⟨_, rfl, Or.inr (Or.inr rfl)⟩, ?_⟩ | refine ⟨⟨_, rfl, VW_int (by assumption)⟩, ?_⟩ | refine ⟨⟨Or.inl ⟨_, rfl, ⟨rfl, rfl⟩⟩, rfl⟩, ?_⟩ | refine ⟨⟨Or.inl ⟨_, rfl, ⟨rfl, rfl, rfl⟩⟩, rfl⟩, ?_⟩ | refine ⟨⟨Or.inl ⟨_, rfl, BSim_by rfl rfl⟩, rfl⟩, ?_⟩ | refine ⟨⟨Or.inr ⟨rfl, rfl⟩, rfl⟩, ?_⟩ | refine ⟨⟨Or.inr ⟨rfl, rfl, rfl⟩, rfl⟩, ?_⟩)))
      simp only
      rw [take_one l k h4, h3, List.filter_append]; simp [h5]
  · refine WT_break ?_
    have h4 : l.length ≤ k := by simpa using h4
    refine WT_ret rfl rfl rfl rfl ?_
    rw [List.take_of_length_le h4] at h3
    rw [h2]
    simp [packD, picksD, ← h3]

/-- Does the worker of a pick, by its place, stall there? -/
def stallsK (l : List Pick) (at_ : Nat) (a : Int) (k : Nat) : Bool := (List.range k).any fun j => decide ((l.getD j default).kind = 2) && decide ((l.getD j default).a = a) && decide ((at_ : Int) - j ≤ (l.getD j default).b)

theorem stallsK_succ (l : List Pick) (n : Nat) (a : Int) (k : Nat) : stallsK l n a (k + 1) = (stallsK l n a k || (decide ((l.getD k default).kind = 2) && decide ((l.getD k default).a = a) && decide ((n : Int) - k ≤ (l.getD k default).b))) := by
  simp [stallsK, List.range_succ]

theorem getD_of {α : Type} [Inhabited α] (l : List α) (k : Nat) (h : k < l.length) : l.getD k default = l[k] := by simp [List.getD, h]

theorem stallsK_true (l : List Pick) (n : Nat) (a : Int) (k j : Nat) (hj : j < k) (hjl : j < l.length) (h1 : l[j].kind = 2) (h2 : l[j].a = a) (h3 : (n : Int) - j ≤ l[j].b) : stallsK l n a k = true := by
  rw [stallsK, List.any_eq_true]
  refine ⟨j, List.mem_range.2 hj, ?_⟩
  rw [getD_of l j hjl]
  simp [h1, h2, h3]

theorem s_ref29_stalls (l : List Pick) (n : Nat) (hl : l.length < 1000000) (hn : n < l.length) : Ret P0 n_ref29_stalls [picksD l, I n] (.bool (stallsK l n l[n].a n)) := by
  refine Ret_by is_ref29_stalls rfl ?_
  refine WT_loop (fun k : Nat => ⟨[(5, .d (I k)), (0, .d (picksD l)), (1, .d (I n))], [], 0, [], 0⟩)
    (fun k => k ≤ n ∧ stallsK l n l[n].a k = false) (fun k => n - k) 0 (by ((refine Weak.of ?_ ?_ rfl rfl ?_ rfl rfl <;> repeat' first | exact trivial | refine ⟨⟨_, rfl, Or.inl ⟨rfl, rfl⟩⟩, ?_⟩ | refine ⟨⟨_, rfl, Or.inr (Or.inl ⟨rfl, by first | exact ⟨_, _, rfl, rfl, Or.inl rfl⟩ | exact ⟨_, _, rfl, rfl, Or.inr rfl⟩⟩)⟩, ?_⟩ | refine ⟨⟨_, rfl, Or.inr (Or.inr rfl)⟩, ?_⟩ | refine ⟨⟨_, rfl, VW_int (by assumption)⟩, ?_⟩ | refine ⟨⟨Or.inl ⟨_, rfl, ⟨rfl, rfl⟩⟩, rfl⟩, ?_⟩ | refine ⟨⟨Or.inl ⟨_, rfl, ⟨rfl, rfl, rfl⟩⟩, rfl⟩, ?_⟩ | refine ⟨⟨Or.inl ⟨_, rfl, BSim_by rfl rfl⟩, rfl⟩, ?_⟩ | refine ⟨⟨Or.inr ⟨rfl, rfl⟩, rfl⟩, ?_⟩ | refine ⟨⟨Or.inr ⟨rfl, rfl, rfl⟩, rfl⟩, ?_⟩))) (by simp [stallsK]) ?_
  rintro k ⟨h1, h2⟩
  refine WT_test (fun h4 => ?_) (fun h4 => ?_)
  · have h4 : k < n := by simpa using h4
    have h5 : k < l.length := by omega
    have go : (decide (l[k].kind = 2) && decide (l[k].a = l[n].a) && decide ((n : Int) - k ≤ l[k].b)) = false → stallsK l n l[n].a (k + 1) = false := by
      intro h
      rw [stallsK_succ, h2, getD_of l k h5, h]; rfl
    (repeat first | refine WT_inR (by simp [inR]; omega) ?_ | refine WT_t rfl ?_ | refine WT_f rfl ?_ | refine WT_guard (by first | (simp [inR]; done) | (simp [inR]; omega)) ?_ | refine WT_elem _ (map_get _ _ _ (by first | assumption | omega)) ?_)
    refine WT_test (fun h6 => ?_) (fun h6 => ?_)
    · (repeat first | refine WT_inR (by simp [inR]; omega) ?_ | refine WT_t rfl ?_ | refine WT_f rfl ?_ | refine WT_guard (by first | (simp [inR]; done) | (simp [inR]; omega)) ?_ | refine WT_elem _ (map_get _ _ _ (by first | assumption | omega)) ?_)
      refine WT_test (fun h7 => ?_) (fun h7 => ?_)
      · (repeat first | refine WT_inR (by simp [inR]; omega) ?_ | refine WT_t rfl ?_ | refine WT_f rfl ?_ | refine WT_guard (by first | (simp [inR]; done) | (simp [inR]; omega)) ?_ | refine WT_elem _ (map_get _ _ _ (by first | assumption | omega)) ?_)
        refine WT_test (fun h8 => ?_) (fun h8 => ?_)
        · (repeat first | refine WT_inR (by simp [inR]; omega) ?_ | refine WT_t rfl ?_ | refine WT_f rfl ?_ | refine WT_guard (by first | (simp [inR]; done) | (simp [inR]; omega)) ?_ | refine WT_elem _ (map_get _ _ _ (by first | assumption | omega)) ?_)
          refine WT_leave ?_
          refine WT_ret rfl rfl rfl rfl ?_
          rw [stallsK_true l n l[n].a n k h4 h5 (by simpa using h6) (by simpa using h7) (by simpa using h8)]
          rfl
        · (repeat first | refine WT_inR (by simp [inR]; omega) ?_ | refine WT_t rfl ?_ | refine WT_f rfl ?_ | refine WT_guard (by first | (simp [inR]; done) | (simp [inR]; omega)) ?_ | refine WT_elem _ (map_get _ _ _ (by first | assumption | omega)) ?_)
          refine WT_again (k + 1) ⟨by omega, go ?_⟩ (by omega) (by ((refine Weak.of ?_ ?_ rfl rfl ?_ rfl rfl <;> repeat' first | exact trivial | refine ⟨⟨_, rfl, Or.inl ⟨rfl, rfl⟩⟩, ?_⟩ | refine ⟨⟨_, rfl, Or.inr (Or.inl ⟨rfl, by first | exact ⟨_, _, rfl, rfl, Or.inl rfl⟩ | exact ⟨_, _, rfl, rfl, Or.inr rfl⟩⟩)⟩, ?_⟩ | refine ⟨⟨_, rfl, Or.inr (Or.inr rfl)⟩, ?_⟩ | refine ⟨⟨_, rfl, VW_int (by assumption)⟩, ?_⟩ | refine ⟨⟨Or.inl ⟨_, rfl, ⟨rfl, rfl⟩⟩, rfl⟩, ?_⟩ | refine ⟨⟨Or.inl ⟨_, rfl, ⟨rfl, rfl, rfl⟩⟩, rfl⟩, ?_⟩ | refine ⟨⟨Or.inl ⟨_, rfl, BSim_by rfl rfl⟩, rfl⟩, ?_⟩ | refine ⟨⟨Or.inr ⟨rfl, rfl⟩, rfl⟩, ?_⟩ | refine ⟨⟨Or.inr ⟨rfl, rfl, rfl⟩, rfl⟩, ?_⟩)))
          simp at h8; simp; intros; omega
      · (repeat first | refine WT_inR (by simp [inR]; omega) ?_ | refine WT_t rfl ?_ | refine WT_f rfl ?_ | refine WT_guard (by first | (simp [inR]; done) | (simp [inR]; omega)) ?_ | refine WT_elem _ (map_get _ _ _ (by first | assumption | omega)) ?_)
        refine WT_again (k + 1) ⟨by omega, go ?_⟩ (by omega) (by ((refine Weak.of ?_ ?_ rfl rfl ?_ rfl rfl <;> repeat' first | exact trivial | refine ⟨⟨_, rfl, Or.inl ⟨rfl, rfl⟩⟩, ?_⟩ | refine ⟨⟨_, rfl, Or.inr (Or.inl ⟨rfl, by first | exact ⟨_, _, rfl, rfl, Or.inl rfl⟩ | exact ⟨_, _, rfl, rfl, Or.inr rfl⟩⟩)⟩, ?_⟩ | refine ⟨⟨_, rfl, Or.inr (Or.inr rfl)⟩, ?_⟩ | refine ⟨⟨_, rfl, VW_int (by assumption)⟩, ?_⟩ | refine ⟨⟨Or.inl ⟨_, rfl, ⟨rfl, rfl⟩⟩, rfl⟩, ?_⟩ | refine ⟨⟨Or.inl ⟨_, rfl, ⟨rfl, rfl, rfl⟩⟩, rfl⟩, ?_⟩ | refine ⟨⟨Or.inl ⟨_, rfl, BSim_by rfl rfl⟩, rfl⟩, ?_⟩ | refine ⟨⟨Or.inr ⟨rfl, rfl⟩, rfl⟩, ?_⟩ | refine ⟨⟨Or.inr ⟨rfl, rfl, rfl⟩, rfl⟩, ?_⟩)))
        simp at h7; simp [h7]
    · (repeat first | refine WT_inR (by simp [inR]; omega) ?_ | refine WT_t rfl ?_ | refine WT_f rfl ?_ | refine WT_guard (by first | (simp [inR]; done) | (simp [inR]; omega)) ?_ | refine WT_elem _ (map_get _ _ _ (by first | assumption | omega)) ?_)
      refine WT_again (k + 1) ⟨by omega, go ?_⟩ (by omega) (by ((refine Weak.of ?_ ?_ rfl rfl ?_ rfl rfl <;> repeat' first | exact trivial | refine ⟨⟨_, rfl, Or.inl ⟨rfl, rfl⟩⟩, ?_⟩ | refine ⟨⟨_, rfl, Or.inr (Or.inl ⟨rfl, by first | exact ⟨_, _, rfl, rfl, Or.inl rfl⟩ | exact ⟨_, _, rfl, rfl, Or.inr rfl⟩⟩)⟩, ?_⟩ | refine ⟨⟨_, rfl, Or.inr (Or.inr rfl)⟩, ?_⟩ | refine ⟨⟨_, rfl, VW_int (by assumption)⟩, ?_⟩ | refine ⟨⟨Or.inl ⟨_, rfl, ⟨rfl, rfl⟩⟩, rfl⟩, ?_⟩ | refine ⟨⟨Or.inl ⟨_, rfl, ⟨rfl, rfl, rfl⟩⟩, rfl⟩, ?_⟩ | refine ⟨⟨Or.inl ⟨_, rfl, BSim_by rfl rfl⟩, rfl⟩, ?_⟩ | refine ⟨⟨Or.inr ⟨rfl, rfl⟩, rfl⟩, ?_⟩ | refine ⟨⟨Or.inr ⟨rfl, rfl, rfl⟩, rfl⟩, ?_⟩)))
      simp at h6; simp [h6]
  · refine WT_break ?_
    have h4 : n ≤ k := by simpa using h4
    obtain rfl : k = n := by omega
    refine WT_ret rfl rfl rfl rfl ?_
    rw [h2]; rfl

/-- The document's Plain: one pick more. -/
def refStep (seats : Int) (all : List Pick) (k : Nat) (out : List Pick) : List Pick :=
  if deadIn out (all.getD k default).a || decide ((all.getD k default).kind = 2) then out
  else if (decide ((all.getD k default).kind = 1) && !stallsK all k (all.getD k default).a k) || (decide ((all.getD k default).kind = 3) && decide ((deaths out : Int) + 1 < seats)) then out ++ [all.getD k default] else out

def refPlainK (seats : Int) (all : List Pick) : Nat → List Pick
  | 0 => []
  | k + 1 => refStep seats all k (refPlainK seats all k)

theorem refPlainK_len (seats : Int) (all : List Pick) : ∀ k, (refPlainK seats all k).length ≤ k
  | 0 => by simp [refPlainK]
  | k + 1 => by
    have := refPlainK_len seats all k
    rw [refPlainK, refStep]
    split
    · omega
    · split
      · simp; omega
      · omega

def refPlain (seats : Int) (l : List Pick) : List Pick := refPlainK seats (l.filter (right seats)) (l.filter (right seats)).length

theorem s_ref29_Plain (seats : Int) (l : List Pick) (hl : l.length < 1000000) : Ret P0 n_ref29_Plain [I seats, picksD l] (picksD (refPlain seats l)) := by
  refine Ret_by is_ref29_Plain rfl ?_
  refine WT_call _ (s_ref29_right seats l hl) ?_
  have hl2 : (l.filter (right seats)).length < 1000000 := Nat.lt_of_le_of_lt (List.length_filter_le ..) hl
  rw [refPlain]
  generalize l.filter (right seats) = all at hl2 ⊢
  refine WT_loop (fun s : Nat × Nat × List (List Dat) => ⟨[(7, .d (I s.1)), (6, .ref 0 0 0 s.2.1), (5, .d (picksD all)), (0, .d (I seats))], [(0, .arr 3 s.2.2)], 1, [], 0⟩)
    (fun s => s.1 ≤ all.length ∧ s.2.1 = s.2.2.length ∧ s.2.2 = (refPlainK seats all s.1).map pickL) (fun s => all.length - s.1) (0, 0, []) (by ((refine Weak.of ?_ ?_ rfl rfl ?_ rfl rfl <;> repeat' first | exact trivial | refine ⟨⟨_, rfl, Or.inl ⟨rfl, rfl⟩⟩, ?_⟩ | refine ⟨⟨_, rfl, Or.inr (Or.inl ⟨rfl, by first | exact ⟨_, _, rfl, rfl, Or.inl rfl⟩ | exact ⟨_, _, rfl, rfl, Or.inr rfl⟩⟩)⟩, ?_⟩ | refine ⟨⟨_, rfl, Or.inr (Or.inr rfl)⟩, ?_⟩ | refine ⟨⟨_, rfl, VW_int (by assumption)⟩, ?_⟩ | refine ⟨⟨Or.inl ⟨_, rfl, ⟨rfl, rfl⟩⟩, rfl⟩, ?_⟩ | refine ⟨⟨Or.inl ⟨_, rfl, ⟨rfl, rfl, rfl⟩⟩, rfl⟩, ?_⟩ | refine ⟨⟨Or.inl ⟨_, rfl, BSim_by rfl rfl⟩, rfl⟩, ?_⟩ | refine ⟨⟨Or.inr ⟨rfl, rfl⟩, rfl⟩, ?_⟩ | refine ⟨⟨Or.inr ⟨rfl, rfl, rfl⟩, rfl⟩, ?_⟩))) (by simp [refPlainK]) ?_
  rintro ⟨k, n, xs⟩ ⟨h1, h2, h3⟩
  simp only at h1 h2 h3
  have hn : n ≤ k := by rw [h2, h3]; simp; exact refPlainK_len ..
  refine WT_test (fun h4 => ?_) (fun h4 => ?_)
  · have h4 : k < all.length := by simpa using h4
    have hg := getD_of all k h4
    have hx : Ret P0 n_ref29_dead [.slice 3 ((xs.drop 0).take n) false, I all[k].a] (.bool (deadIn (refPlainK seats all k) all[k].a)) := by
      rw [row_eq h2 h3]; exact s_ref29_dead _ _ (Nat.lt_of_le_of_lt (refPlainK_len ..) (by omega))
    have hy : Ret P0 n_ref29_deaths [.slice 3 ((xs.drop 0).take n) false] (I (deaths (refPlainK seats all k))) := by
      rw [row_eq h2 h3]; exact s_ref29_deaths _ (Nat.lt_of_le_of_lt (refPlainK_len ..) (by omega))
    have hd : deaths (refPlainK seats all k) ≤ k := Nat.le_trans (List.length_filter_le ..) (refPlainK_len ..)
    have skip : refPlainK seats all (k + 1) = refPlainK seats all k → xs = (refPlainK seats all (k + 1)).map pickL := fun h => by rw [h]; exact h3
    have add : refPlainK seats all (k + 1) = refPlainK seats all k ++ [all[k]] → xs ++ [pickL all[k]] = (refPlainK seats all (k + 1)).map pickL := fun h => by rw [h, h3]; simp
    have step : refPlainK seats all (k + 1) = refStep seats all k (refPlainK seats all k) := rfl
    rw [refStep, hg] at step
    (repeat first | refine WT_inR (by simp [inR]; omega) ?_ | refine WT_t rfl ?_ | refine WT_f rfl ?_ | refine WT_guard (by first | (simp [inR]; done) | (simp [inR]; omega)) ?_ | refine WT_elem _ (map_get _ _ _ (by first | assumption | omega)) ?_)
    refine WT_call _ hx ?_
    refine WT_test (fun h5 => ?_) (fun h5 => ?_)
    · have h5 : deadIn (refPlainK seats all k) all[k].a = false := by simpa using h5
      (repeat first | refine WT_inR (by simp [inR]; omega) ?_ | refine WT_t rfl ?_ | refine WT_f rfl ?_ | refine WT_guard (by first | (simp [inR]; done) | (simp [inR]; omega)) ?_ | refine WT_elem _ (map_get _ _ _ (by first | assumption | omega)) ?_)
      refine WT_test (fun h6 => ?_) (fun h6 => ?_)
      · (repeat first | refine WT_inR (by simp [inR]; omega) ?_ | refine WT_t rfl ?_ | refine WT_f rfl ?_ | refine WT_guard (by first | (simp [inR]; done) | (simp [inR]; omega)) ?_ | refine WT_elem _ (map_get _ _ _ (by first | assumption | omega)) ?_)
        refine WT_again (k + 1, n, xs) ⟨by simp; omega, h2, skip (by rw [step]; simp at h6; simp [h6])⟩ (by simp; omega) (by ((refine Weak.of ?_ ?_ rfl rfl ?_ rfl rfl <;> repeat' first | exact trivial | refine ⟨⟨_, rfl, Or.inl ⟨rfl, rfl⟩⟩, ?_⟩ | refine ⟨⟨_, rfl, Or.inr (Or.inl ⟨rfl, by first | exact ⟨_, _, rfl, rfl, Or.inl rfl⟩ | exact ⟨_, _, rfl, rfl, Or.inr rfl⟩⟩)⟩, ?_⟩ | refine ⟨⟨_, rfl, Or.inr (Or.inr rfl)⟩, ?_⟩ | refine ⟨⟨_, rfl, VW_int (by assumption)⟩, ?_⟩ | refine ⟨⟨Or.inl ⟨_, rfl, ⟨rfl, rfl⟩⟩, rfl⟩, ?_⟩ | refine ⟨⟨Or.inl ⟨_, rfl, ⟨rfl, rfl, rfl⟩⟩, rfl⟩, ?_⟩ | refine ⟨⟨Or.inl ⟨_, rfl, BSim_by rfl rfl⟩, rfl⟩, ?_⟩ | refine ⟨⟨Or.inr ⟨rfl, rfl⟩, rfl⟩, ?_⟩ | refine ⟨⟨Or.inr ⟨rfl, rfl, rfl⟩, rfl⟩, ?_⟩)))
      · (repeat first | refine WT_inR (by simp [inR]; omega) ?_ | refine WT_t rfl ?_ | refine WT_f rfl ?_ | refine WT_guard (by first | (simp [inR]; done) | (simp [inR]; omega)) ?_ | refine WT_elem _ (map_get _ _ _ (by first | assumption | omega)) ?_)
        have h6 : all[k].kind ≠ 2 := by simpa using h6
        refine WT_test (fun h7 => ?_) (fun h7 => ?_)
        · have h7 : all[k].kind = 1 := by simpa using h7
          (repeat first | refine WT_inR (by simp [inR]; omega) ?_ | refine WT_t rfl ?_ | refine WT_f rfl ?_ | refine WT_guard (by first | (simp [inR]; done) | (simp [inR]; omega)) ?_ | refine WT_elem _ (map_get _ _ _ (by first | assumption | omega)) ?_)
          refine WT_call _ (s_ref29_stalls all k hl2 h4) ?_
          (repeat first | refine WT_inR (by simp [inR]; omega) ?_ | refine WT_t rfl ?_ | refine WT_f rfl ?_ | refine WT_guard (by first | (simp [inR]; done) | (simp [inR]; omega)) ?_ | refine WT_elem _ (map_get _ _ _ (by first | assumption | omega)) ?_)
          refine WT_test (fun h8 => ?_) (fun h8 => ?_)
          · have h8 : stallsK all k all[k].a k = true := by simpa using h8
            (repeat first | refine WT_inR (by simp [inR]; omega) ?_ | refine WT_t rfl ?_ | refine WT_f rfl ?_ | refine WT_guard (by first | (simp [inR]; done) | (simp [inR]; omega)) ?_ | refine WT_elem _ (map_get _ _ _ (by first | assumption | omega)) ?_)
            refine WT_f (by simp [h7]) ?_
            (repeat first | refine WT_inR (by simp [inR]; omega) ?_ | refine WT_t rfl ?_ | refine WT_f rfl ?_ | refine WT_guard (by first | (simp [inR]; done) | (simp [inR]; omega)) ?_ | refine WT_elem _ (map_get _ _ _ (by first | assumption | omega)) ?_)
            refine WT_again (k + 1, n, xs) ⟨by simp; omega, h2, skip (by rw [step]; simp [h5, h7, h8])⟩ (by simp; omega) (by ((refine Weak.of ?_ ?_ rfl rfl ?_ rfl rfl <;> repeat' first | exact trivial | refine ⟨⟨_, rfl, Or.inl ⟨rfl, rfl⟩⟩, ?_⟩ | refine ⟨⟨_, rfl, Or.inr (Or.inl ⟨rfl, by first | exact ⟨_, _, rfl, rfl, Or.inl rfl⟩ | exact ⟨_, _, rfl, rfl, Or.inr rfl⟩⟩)⟩, ?_⟩ | refine ⟨⟨_, rfl, Or.inr (Or.inr rfl)⟩, ?_⟩ | refine ⟨⟨_, rfl, VW_int (by assumption)⟩, ?_⟩ | refine ⟨⟨Or.inl ⟨_, rfl, ⟨rfl, rfl⟩⟩, rfl⟩, ?_⟩ | refine ⟨⟨Or.inl ⟨_, rfl, ⟨rfl, rfl, rfl⟩⟩, rfl⟩, ?_⟩ | refine ⟨⟨Or.inl ⟨_, rfl, BSim_by rfl rfl⟩, rfl⟩, ?_⟩ | refine ⟨⟨Or.inr ⟨rfl, rfl⟩, rfl⟩, ?_⟩ | refine ⟨⟨Or.inr ⟨rfl, rfl, rfl⟩, rfl⟩, ?_⟩)))
          · have h8 : stallsK all k all[k].a k = false := by simpa using h8
            (repeat first | refine WT_inR (by simp [inR]; omega) ?_ | refine WT_t rfl ?_ | refine WT_f rfl ?_ | refine WT_guard (by first | (simp [inR]; done) | (simp [inR]; omega)) ?_ | refine WT_elem _ (map_get _ _ _ (by first | assumption | omega)) ?_)
            refine WT_again (k + 1, n + 1, xs ++ [pickL all[k]]) ⟨by simp; omega, by simp [h2], add (by rw [step]; simp [h5, h7, h8])⟩ (by simp; omega) (by ((refine Weak.of ?_ ?_ rfl rfl ?_ rfl rfl <;> repeat' first | exact trivial | refine ⟨⟨_, rfl, Or.inl ⟨rfl, rfl⟩⟩, ?_⟩ | refine ⟨⟨_, rfl, Or.inr (Or.inl ⟨rfl, by first | exact ⟨_, _, rfl, rfl, Or.inl rfl⟩ | exact ⟨_, _, rfl, rfl, Or.inr rfl⟩⟩)⟩, ?_⟩ | refine ⟨⟨_, rfl, Or.inr (Or.inr rfl)⟩, ?_⟩ | refine ⟨⟨_, rfl, VW_int (by assumption)⟩, ?_⟩ | refine ⟨⟨Or.inl ⟨_, rfl, ⟨rfl, rfl⟩⟩, rfl⟩, ?_⟩ | refine ⟨⟨Or.inl ⟨_, rfl, ⟨rfl, rfl, rfl⟩⟩, rfl⟩, ?_⟩ | refine ⟨⟨Or.inl ⟨_, rfl, BSim_by rfl rfl⟩, rfl⟩, ?_⟩ | refine ⟨⟨Or.inr ⟨rfl, rfl⟩, rfl⟩, ?_⟩ | refine ⟨⟨Or.inr ⟨rfl, rfl, rfl⟩, rfl⟩, ?_⟩)))
        · have h7 : all[k].kind ≠ 1 := by simpa using h7
          (repeat first | refine WT_inR (by simp [inR]; omega) ?_ | refine WT_t rfl ?_ | refine WT_f rfl ?_ | refine WT_guard (by first | (simp [inR]; done) | (simp [inR]; omega)) ?_ | refine WT_elem _ (map_get _ _ _ (by first | assumption | omega)) ?_)
          refine WT_test (fun h8 => ?_) (fun h8 => ?_)
          · have h8 : all[k].kind = 3 := by simpa using h8
            (repeat first | refine WT_inR (by simp [inR]; omega) ?_ | refine WT_t rfl ?_ | refine WT_f rfl ?_ | refine WT_guard (by first | (simp [inR]; done) | (simp [inR]; omega)) ?_ | refine WT_elem _ (map_get _ _ _ (by first | assumption | omega)) ?_)
            refine WT_call _ hy ?_
            (repeat first | refine WT_inR (by simp [inR]; omega) ?_ | refine WT_t rfl ?_ | refine WT_f rfl ?_ | refine WT_guard (by first | (simp [inR]; done) | (simp [inR]; omega)) ?_ | refine WT_elem _ (map_get _ _ _ (by first | assumption | omega)) ?_)
            refine WT_test (fun h9 => ?_) (fun h9 => ?_)
            · (repeat first | refine WT_inR (by simp [inR]; omega) ?_ | refine WT_t rfl ?_ | refine WT_f rfl ?_ | refine WT_guard (by first | (simp [inR]; done) | (simp [inR]; omega)) ?_ | refine WT_elem _ (map_get _ _ _ (by first | assumption | omega)) ?_)
              refine WT_again (k + 1, n + 1, xs ++ [pickL all[k]]) ⟨by simp; omega, by simp [h2], add (by rw [step]; simp at h9; simp [h5, h7, h8, h9])⟩ (by simp; omega) (by ((refine Weak.of ?_ ?_ rfl rfl ?_ rfl rfl <;> repeat' first | exact trivial | refine ⟨⟨_, rfl, Or.inl ⟨rfl, rfl⟩⟩, ?_⟩ | refine ⟨⟨_, rfl, Or.inr (Or.inl ⟨rfl, by first | exact ⟨_, _, rfl, rfl, Or.inl rfl⟩ | exact ⟨_, _, rfl, rfl, Or.inr rfl⟩⟩)⟩, ?_⟩ | refine ⟨⟨_, rfl, Or.inr (Or.inr rfl)⟩, ?_⟩ | refine ⟨⟨_, rfl, VW_int (by assumption)⟩, ?_⟩ | refine ⟨⟨Or.inl ⟨_, rfl, ⟨rfl, rfl⟩⟩, rfl⟩, ?_⟩ | refine ⟨⟨Or.inl ⟨_, rfl, ⟨rfl, rfl, rfl⟩⟩, rfl⟩, ?_⟩ | refine ⟨⟨Or.inl ⟨_, rfl, BSim_by rfl rfl⟩, rfl⟩, ?_⟩ | refine ⟨⟨Or.inr ⟨rfl, rfl⟩, rfl⟩, ?_⟩ | refine ⟨⟨Or.inr ⟨rfl, rfl, rfl⟩, rfl⟩, ?_⟩)))
            · (repeat first | refine WT_inR (by simp [inR]; omega) ?_ | refine WT_t rfl ?_ | refine WT_f rfl ?_ | refine WT_guard (by first | (simp [inR]; done) | (simp [inR]; omega)) ?_ | refine WT_elem _ (map_get _ _ _ (by first | assumption | omega)) ?_)
              refine WT_again (k + 1, n, xs) ⟨by simp; omega, h2, skip (by rw [step]; simp at h9; simp [h5, h7, h8]; omega)⟩ (by simp; omega) (by ((refine Weak.of ?_ ?_ rfl rfl ?_ rfl rfl <;> repeat' first | exact trivial | refine ⟨⟨_, rfl, Or.inl ⟨rfl, rfl⟩⟩, ?_⟩ | refine ⟨⟨_, rfl, Or.inr (Or.inl ⟨rfl, by first | exact ⟨_, _, rfl, rfl, Or.inl rfl⟩ | exact ⟨_, _, rfl, rfl, Or.inr rfl⟩⟩)⟩, ?_⟩ | refine ⟨⟨_, rfl, Or.inr (Or.inr rfl)⟩, ?_⟩ | refine ⟨⟨_, rfl, VW_int (by assumption)⟩, ?_⟩ | refine ⟨⟨Or.inl ⟨_, rfl, ⟨rfl, rfl⟩⟩, rfl⟩, ?_⟩ | refine ⟨⟨Or.inl ⟨_, rfl, ⟨rfl, rfl, rfl⟩⟩, rfl⟩, ?_⟩ | refine ⟨⟨Or.inl ⟨_, rfl, BSim_by rfl rfl⟩, rfl⟩, ?_⟩ | refine ⟨⟨Or.inr ⟨rfl, rfl⟩, rfl⟩, ?_⟩ | refine ⟨⟨Or.inr ⟨rfl, rfl, rfl⟩, rfl⟩, ?_⟩)))
          · have h8 : all[k].kind ≠ 3 := by simpa using h8
            (repeat first | refine WT_inR (by simp [inR]; omega) ?_ | refine WT_t rfl ?_ | refine WT_f rfl ?_ | refine WT_guard (by first | (simp [inR]; done) | (simp [inR]; omega)) ?_ | refine WT_elem _ (map_get _ _ _ (by first | assumption | omega)) ?_)
            refine WT_again (k + 1, n, xs) ⟨by simp; omega, h2, skip (by rw [step]; simp [h6, h7, h8])⟩ (by simp; omega) (by ((refine Weak.of ?_ ?_ rfl rfl ?_ rfl rfl <;> repeat' first | exact trivial | refine ⟨⟨_, rfl, Or.inl ⟨rfl, rfl⟩⟩, ?_⟩ | refine ⟨⟨_, rfl, Or.inr (Or.inl ⟨rfl, by first | exact ⟨_, _, rfl, rfl, Or.inl rfl⟩ | exact ⟨_, _, rfl, rfl, Or.inr rfl⟩⟩)⟩, ?_⟩ | refine ⟨⟨_, rfl, Or.inr (Or.inr rfl)⟩, ?_⟩ | refine ⟨⟨_, rfl, VW_int (by assumption)⟩, ?_⟩ | refine ⟨⟨Or.inl ⟨_, rfl, ⟨rfl, rfl⟩⟩, rfl⟩, ?_⟩ | refine ⟨⟨Or.inl ⟨_, rfl, ⟨rfl, rfl, rfl⟩⟩, rfl⟩, ?_⟩ | refine ⟨⟨Or.inl ⟨_, rfl, BSim_by rfl rfl⟩, rfl⟩, ?_⟩ | refine ⟨⟨Or.inr ⟨rfl, rfl⟩, rfl⟩, ?_⟩ | refine ⟨⟨Or.inr ⟨rfl, rfl, rfl⟩, rfl⟩, ?_⟩)))
    · (repeat first | refine WT_inR (by simp [inR]; omega) ?_ | refine WT_t rfl ?_ | refine WT_f rfl ?_ | refine WT_guard (by first | (simp [inR]; done) | (simp [inR]; omega)) ?_ | refine WT_elem _ (map_get _ _ _ (by first | assumption | omega)) ?_)
      refine WT_again (k + 1, n, xs) ⟨by simp; omega, h2, skip (by rw [step]; simp at h5; simp [h5])⟩ (by simp; omega) (by ((refine Weak.of ?_ ?_ rfl rfl ?_ rfl rfl <;> repeat' first | exact trivial | refine ⟨⟨_, rfl, Or.inl ⟨rfl, rfl⟩⟩, ?_⟩ | refine ⟨⟨_, rfl, Or.inr (Or.inl ⟨rfl, by first | exact ⟨_, _, rfl, rfl, Or.inl rfl⟩ | exact ⟨_, _, rfl, rfl, Or.inr rfl⟩⟩)⟩, ?_⟩ | refine ⟨⟨_, rfl, Or.inr (Or.inr rfl)⟩, ?_⟩ | refine ⟨⟨_, rfl, VW_int (by assumption)⟩, ?_⟩ | refine ⟨⟨Or.inl ⟨_, rfl, ⟨rfl, rfl⟩⟩, rfl⟩, ?_⟩ | refine ⟨⟨Or.inl ⟨_, rfl, ⟨rfl, rfl, rfl⟩⟩, rfl⟩, ?_⟩ | refine ⟨⟨Or.inl ⟨_, rfl, BSim_by rfl rfl⟩, rfl⟩, ?_⟩ | refine ⟨⟨Or.inr ⟨rfl, rfl⟩, rfl⟩, ?_⟩ | refine ⟨⟨Or.inr ⟨rfl, rfl, rfl⟩, rfl⟩, ?_⟩)))
  · refine WT_break ?_
    have h4 : k = all.length := by simp at h4; omega
    refine WT_ret rfl rfl rfl rfl ?_
    rw [h4] at h3
    rw [h2]
    simp [packD, picksD, ← h3]

/-- The program's Plain, plainly: `held`: who stalls, up to which place; `dead`: who is dead. -/
structure PS where
  held : List (Int × Int)
  dead : List Int
  at_ : Nat
  out : List Pick

def getP : List (Int × Int) → Int → Option Int
  | [], _ => none
  | (k, v) :: r, x => if x = k then some v else getP r x
def setP : List (Int × Int) → Int → Int → List (Int × Int)
  | [], x, d => [(x, d)]
  | (k, v) :: r, x, d => if x = k then (k, d) :: r else (k, v) :: setP r x d

def heldE (l : List (Int × Int)) : List (MKey × Dat) := l.map fun p => (.i p.1, I p.2)
def deadE (l : List Int) : List (MKey × Dat) := l.map fun p => (.i p, .bool true)

theorem mget_held : ∀ (l : List (Int × Int)) (x : Int), mget (heldE l) (.i x) = (getP l x).map I
  | [], x => rfl
  | (k, v) :: r, x => by
    have := mget_held r x
    simp only [heldE, List.map_cons, mget, getP] at this ⊢
    by_cases h : x = k
    · simp [h]
    · simp [h, this]
theorem mset_held : ∀ (l : List (Int × Int)) (x d : Int), mset (heldE l) (.i x) (I d) = heldE (setP l x d)
  | [], x, d => rfl
  | (k, v) :: r, x, d => by
    have := mset_held r x d
    simp only [heldE, List.map_cons, mset, setP] at this ⊢
    by_cases h : x = k
    · simp [h]
    · simp [h, this]
theorem mget_dead : ∀ (l : List Int) (x : Int), mget (deadE l) (.i x) = if x ∈ l then some (.bool true) else none
  | [], x => rfl
  | k :: r, x => by
    have := mget_dead r x
    simp only [deadE, List.map_cons, mget] at this ⊢
    by_cases h : x = k
    · simp [h]
    · simp [h, this]
theorem mset_dead : ∀ (l : List Int) (x : Int), x ∉ l → mset (deadE l) (.i x) (.bool true) = deadE (l ++ [x])
  | [], x, _ => rfl
  | k :: r, x, h => by
    simp at h
    have := mset_dead r x h.2
    simp only [deadE, List.map_cons, List.cons_append, mset] at this ⊢
    simp [h.1, this]

def heldO (o : Option Int) (n : Int) : Bool :=
  match o with
  | some e => decide (n ≤ e)
  | none => false
def lessO (o : Option Int) (n : Int) : Bool :=
  match o with
  | some e => decide (e < n)
  | none => true
def plainStep (seats : Int) (s : PS) (p : Pick) : PS :=
  if right seats p then
    if p.kind = 1 then { s with at_ := s.at_ + 1, out := if decide (p.a ∈ s.dead) || heldO (getP s.held p.a) s.at_ then s.out else s.out ++ [p] }
    else if p.kind = 2 then { s with at_ := s.at_ + 1, held := if lessO (getP s.held p.a) ((s.at_ : Int) + p.b) then setP s.held p.a ((s.at_ : Int) + p.b) else s.held }
    else if decide (p.a ∈ s.dead) || decide (seats - s.dead.length ≤ 1) then { s with at_ := s.at_ + 1 }
    else { s with at_ := s.at_ + 1, dead := s.dead ++ [p.a], out := s.out ++ [p] }
  else s
def ps0 : PS := ⟨[], [], 0, []⟩
def plainF (seats : Int) (l : List Pick) : PS := l.foldl (plainStep seats) ps0
def plain (seats : Int) (l : List Pick) : List Pick := (plainF seats l).out

theorem plainF_take (seats : Int) (l : List Pick) (k : Nat) (h : k < l.length) : plainF seats (l.take (k + 1)) = plainStep seats (plainF seats (l.take k)) l[k] := by
  rw [take_one l k h, plainF, plainF, List.foldl_append]; rfl

structure PSok (seats : Int) (k : Nat) (s : PS) : Prop where
  at_ : s.at_ ≤ k
  dead : s.dead.length ≤ k
  seats : s.dead ≠ [] → 0 < seats
  out : s.out.length ≤ k

theorem plainStep_ok {seats : Int} {k : Nat} {s : PS} (h : PSok seats k s) (p : Pick) : PSok seats (k + 1) (plainStep seats s p) := by
  obtain ⟨h1, h2, h3, h4⟩ := h
  rw [plainStep]
  by_cases hr : right seats p = true
  · rw [if_pos hr]
    have h0 : 0 < seats := by simp [right] at hr; omega
    split
    · have key : ∀ b : Bool, (if b = true then s.out else s.out ++ [p]).length ≤ k + 1 := by
        intro b
        cases b <;> simp <;> omega
      exact ⟨by simp; omega, by simp; omega, fun _ => h0, key _⟩
    · split
      · exact ⟨by simp; omega, by simp; omega, fun _ => h0, by simp; omega⟩
      · split
        · exact ⟨by simp; omega, by simp; omega, fun _ => h0, by simp; omega⟩
        · exact ⟨by simp; omega, by simp; omega, fun _ => h0, by simp; omega⟩
  · rw [if_neg hr]
    exact ⟨by omega, by omega, h3, by omega⟩

theorem plainF_ok (seats : Int) (l : List Pick) : ∀ k, k ≤ l.length → PSok seats k (plainF seats (l.take k))
  | 0, _ => ⟨by simp [plainF, ps0], by simp [plainF, ps0], by simp [plainF, ps0], by simp [plainF, ps0]⟩
  | k + 1, h => by rw [plainF_take seats l k (by omega)]; exact plainStep_ok (plainF_ok seats l k (by omega)) _

end Uw.Tryd

/- The program's Plain. -/
set_option linter.unusedVariables false
set_option linter.unusedSimpArgs false
namespace Uw.Tryd
open Go Uw Go.Proofs Go.RowKit

theorem s_script_Plain (seats : Int) (l : List Pick) (hl : l.length < 1000000) (hs : seats < 9223372036854775808) : Ret P0 n_script_Plain [I seats, picksD l] (picksD (plain seats l)) := by
  refine Ret_by is_script_Plain rfl ?_
  refine WT_loop (fun s : Nat × Nat × List (List Dat) × List (MKey × Dat) × List (MKey × Dat) × Nat => ⟨[(19, .d (I s.1)), (18, .d (I (l.map pickL).length)), (17, .d (picksD l)), (8, .d (I s.2.2.2.2.2)), (7, .hnd 1), (6, .hnd 0), (5, .ref 2 0 0 s.2.1), (0, .d (I seats))], [(2, .arr 3 s.2.2.1), (1, .map (some .i64) s.2.2.2.2.1), (0, .map (some .i64) s.2.2.2.1)], 3, [], 0⟩)
    (fun s => s.1 ≤ l.length ∧ s.2.1 = s.2.2.1.length ∧ s.2.2.1 = (plainF seats (l.take s.1)).out.map pickL ∧ s.2.2.2.1 = heldE (plainF seats (l.take s.1)).held ∧ s.2.2.2.2.1 = deadE (plainF seats (l.take s.1)).dead ∧ s.2.2.2.2.2 = (plainF seats (l.take s.1)).at_) (fun s => l.length - s.1) (0, 0, [], [], [], 0) (by ((refine Weak.of ?_ ?_ rfl rfl ?_ rfl rfl <;> repeat' first | exact trivial | refine ⟨⟨_, rfl, Or.inl ⟨rfl, rfl⟩⟩, ?_⟩ | refine ⟨⟨_, rfl, Or.inr (Or.inl ⟨rfl, by first | exact ⟨_, _, rfl, rfl, Or.inl rfl⟩ | exact ⟨_, _, rfl, rfl, Or.inr rfl⟩⟩)⟩, ?_⟩ | refine ⟨⟨_, rfl, Or.inr (Or.inr rfl)⟩, ?_⟩ | refine ⟨⟨_, rfl, VW_int (by assumption)⟩, ?_⟩ | refine ⟨⟨Or.inl ⟨_, rfl, ⟨rfl, rfl⟩⟩, rfl⟩, ?_⟩ | refine ⟨⟨Or.inl ⟨_, rfl, ⟨rfl, rfl, rfl⟩⟩, rfl⟩, ?_⟩ | refine ⟨⟨Or.inl ⟨_, rfl, BSim_by rfl rfl⟩, rfl⟩, ?_⟩ | refine ⟨⟨Or.inr ⟨rfl, rfl⟩, rfl⟩, ?_⟩ | refine ⟨⟨Or.inr ⟨rfl, rfl, rfl⟩, rfl⟩, ?_⟩))) (by simp [plainF, ps0, heldE, deadE]) ?_
  rintro ⟨k, n, xs, ea, eb, c⟩ ⟨h1, h2, h3, h4, h5, h6⟩
  simp only at h1 h2 h3 h4 h5 h6
  obtain ⟨g1, g2, g3, g4⟩ := plainF_ok seats l k h1
  have hn : n ≤ k := by rw [h2, h3]; simpa using g4
  have hp := plainF_take seats l k
  refine WT_test (fun h7 => ?_) (fun h7 => ?_)
  · have h7 : k < l.length := by simpa using h7
    have hp := hp h7
    generalize plainF seats (l.take k) = s at *
    -- the next state
    have again : ∀ (s' : PS), plainStep seats s l[k] = s' → ∀ (n' : Nat) (xs' : List (List Dat)) (ea' eb' : List (MKey × Dat)) (c' : Nat), n' = xs'.length → xs' = s'.out.map pickL → ea' = heldE s'.held → eb' = deadE s'.dead → c' = s'.at_ →
        ((k + 1, n', xs', ea', eb', c').1 ≤ l.length ∧ n' = xs'.length ∧ xs' = (plainF seats (l.take (k + 1))).out.map pickL ∧ ea' = heldE (plainF seats (l.take (k + 1))).held ∧ eb' = deadE (plainF seats (l.take (k + 1))).dead ∧ c' = (plainF seats (l.take (k + 1))).at_) := by
      intro s' e n' xs' ea' eb' c' e1 e2 e3 e4 e5
      rw [hp, e]
      exact ⟨by simp; omega, e1, e2, e3, e4, e5⟩
    have hmu : ∀ z : Nat × List (List Dat) × List (MKey × Dat) × List (MKey × Dat) × Nat, l.length - (k + 1, z).1 < l.length - k := by intro z; simp; omega
    rw [plainStep] at again
    have hm : mget ea (.i l[k].a) = (getP s.held l[k].a).map I := by rw [h4]; exact mget_held ..
    have hd : mget eb (.i l[k].a) = if l[k].a ∈ s.dead then some (.bool true) else none := by rw [h5]; exact mget_dead ..
    have hlen : eb.length = s.dead.length := by rw [h5]; simp [deadE]
    have hgd : (getP s.held l[k].a).isSome = true → getP s.held l[k].a = some ((getP s.held l[k].a).getD 0) := by
      intro h
      cases hh : getP s.held l[k].a with
      | none => rw [hh] at h; cases h
      | some e => rfl
    generalize hE : (getP s.held l[k].a).getD 0 = E at hgd
    have hxs : xs ++ [pickL l[k]] = (s.out ++ [l[k]]).map pickL := by rw [h3]; simp
    (repeat first | refine WT_inR (by simp [inR]; omega) ?_ | refine WT_t rfl ?_ | refine WT_f rfl ?_ | refine WT_guard (by first | (simp [inR]; done) | (simp [inR]; omega)) ?_ | refine WT_elem _ (map_get _ _ _ (by first | assumption | omega)) ?_)
    refine WT_call _ (s_script_Right seats l[k]) ?_
    refine WT_test (fun h8 => ?_) (fun h8 => ?_)
    · have h8 : right seats l[k] = false := by simpa using h8
      (repeat first | refine WT_inR (by simp [inR]; omega) ?_ | refine WT_t rfl ?_ | refine WT_f rfl ?_ | refine WT_guard (by first | (simp [inR]; done) | (simp [inR]; omega)) ?_ | refine WT_elem _ (map_get _ _ _ (by first | assumption | omega)) ?_)
      exact WT_again (k + 1, n, xs, ea, eb, c) (again s (by simp [h8]) n xs ea eb c h2 h3 h4 h5 h6) (hmu _) (by ((refine Weak.of ?_ ?_ rfl rfl ?_ rfl rfl <;> repeat' first | exact trivial | refine ⟨⟨_, rfl, Or.inl ⟨rfl, rfl⟩⟩, ?_⟩ | refine ⟨⟨_, rfl, Or.inr (Or.inl ⟨rfl, by first | exact ⟨_, _, rfl, rfl, Or.inl rfl⟩ | exact ⟨_, _, rfl, rfl, Or.inr rfl⟩⟩)⟩, ?_⟩ | refine ⟨⟨_, rfl, Or.inr (Or.inr rfl)⟩, ?_⟩ | refine ⟨⟨_, rfl, VW_int (by assumption)⟩, ?_⟩ | refine ⟨⟨Or.inl ⟨_, rfl, ⟨rfl, rfl⟩⟩, rfl⟩, ?_⟩ | refine ⟨⟨Or.inl ⟨_, rfl, ⟨rfl, rfl, rfl⟩⟩, rfl⟩, ?_⟩ | refine ⟨⟨Or.inl ⟨_, rfl, BSim_by rfl rfl⟩, rfl⟩, ?_⟩ | refine ⟨⟨Or.inr ⟨rfl, rfl⟩, rfl⟩, ?_⟩ | refine ⟨⟨Or.inr ⟨rfl, rfl, rfl⟩, rfl⟩, ?_⟩)))
    · have h8 : right seats l[k] = true := by simpa using h8
      have hb : 0 ≤ l[k].b ∧ l[k].b ≤ 1048576 ∧ (l[k].kind = 1 ∨ l[k].kind = 2 ∨ l[k].kind = 3) := by
        have := h8
        simp [right] at this
        omega
      have hseats : 0 < seats := by
        have := h8
        simp [right] at this
        omega
      (repeat first | refine WT_inR (by simp [inR]; omega) ?_ | refine WT_t rfl ?_ | refine WT_f rfl ?_ | refine WT_guard (by first | (simp [inR]; done) | (simp [inR]; omega)) ?_ | refine WT_elem _ (map_get _ _ _ (by first | assumption | omega)) ?_)
      refine WT_test (fun h9 => ?_) (fun h9 => ?_)
      · have h9 : l[k].kind = 1 := by simpa using h9
        (repeat first | refine WT_inR (by simp [inR]; omega) ?_ | refine WT_t rfl ?_ | refine WT_f rfl ?_ | refine WT_guard (by first | (simp [inR]; done) | (simp [inR]; omega)) ?_ | refine WT_elem _ (map_get _ _ _ (by first | assumption | omega)) ?_)
        refine WT_test (fun h10 => ?_) (fun h10 => ?_)
        · have h10 : (getP s.held l[k].a).isSome = true := by simpa [hm] using h10
          have h11 := hgd h10
          refine WT_val (I E) (hm.trans (by rw [h11]; rfl)) ?_
          (repeat first | refine WT_inR (by simp [inR]; omega) ?_ | refine WT_t rfl ?_ | refine WT_f rfl ?_ | refine WT_guard (by first | (simp [inR]; done) | (simp [inR]; omega)) ?_ | refine WT_elem _ (map_get _ _ _ (by first | assumption | omega)) ?_)
          refine WT_test (fun h12 => ?_) (fun h12 => ?_)
          · have h12 : l[k].a ∈ s.dead := by simpa [hd] using h12
            refine WT_val (.bool true) (hd.trans (by simp [h12])) ?_
            (repeat first | refine WT_inR (by simp [inR]; omega) ?_ | refine WT_t rfl ?_ | refine WT_f rfl ?_ | refine WT_guard (by first | (simp [inR]; done) | (simp [inR]; omega)) ?_ | refine WT_elem _ (map_get _ _ _ (by first | assumption | omega)) ?_)
            exact WT_again (k + 1, n, xs, ea, eb, c + 1) (again { s with at_ := s.at_ + 1 } (by simp [h8, h9, h12]) n xs ea eb (c + 1) h2 h3 h4 h5 (by simp [h6])) (hmu _) (by ((refine Weak.of ?_ ?_ rfl rfl ?_ rfl rfl <;> repeat' first | exact trivial | refine ⟨⟨_, rfl, Or.inl ⟨rfl, rfl⟩⟩, ?_⟩ | refine ⟨⟨_, rfl, Or.inr (Or.inl ⟨rfl, by first | exact ⟨_, _, rfl, rfl, Or.inl rfl⟩ | exact ⟨_, _, rfl, rfl, Or.inr rfl⟩⟩)⟩, ?_⟩ | refine ⟨⟨_, rfl, Or.inr (Or.inr rfl)⟩, ?_⟩ | refine ⟨⟨_, rfl, VW_int (by assumption)⟩, ?_⟩ | refine ⟨⟨Or.inl ⟨_, rfl, ⟨rfl, rfl⟩⟩, rfl⟩, ?_⟩ | refine ⟨⟨Or.inl ⟨_, rfl, ⟨rfl, rfl, rfl⟩⟩, rfl⟩, ?_⟩ | refine ⟨⟨Or.inl ⟨_, rfl, BSim_by rfl rfl⟩, rfl⟩, ?_⟩ | refine ⟨⟨Or.inr ⟨rfl, rfl⟩, rfl⟩, ?_⟩ | refine ⟨⟨Or.inr ⟨rfl, rfl, rfl⟩, rfl⟩, ?_⟩)))
          · have h12 : l[k].a ∉ s.dead := by simpa [hd] using h12
            (repeat first | refine WT_inR (by simp [inR]; omega) ?_ | refine WT_t rfl ?_ | refine WT_f rfl ?_ | refine WT_guard (by first | (simp [inR]; done) | (simp [inR]; omega)) ?_ | refine WT_elem _ (map_get _ _ _ (by first | assumption | omega)) ?_)
            refine WT_test (fun h13 => ?_) (fun h13 => ?_)
            · have h13 : ¬ (c : Int) ≤ E := by simpa using h13
              (repeat first | refine WT_inR (by simp [inR]; omega) ?_ | refine WT_t rfl ?_ | refine WT_f rfl ?_ | refine WT_guard (by first | (simp [inR]; done) | (simp [inR]; omega)) ?_ | refine WT_elem _ (map_get _ _ _ (by first | assumption | omega)) ?_)
              exact WT_again (k + 1, n + 1, xs ++ [pickL l[k]], ea, eb, c + 1) (again { s with at_ := s.at_ + 1, out := s.out ++ [l[k]] } (by rw [h11]; rw [h6] at h13; simp [heldO, lessO, h8, h9, h12, h13]) (n + 1) _ ea eb (c + 1) (by simp [h2]) hxs h4 h5 (by simp [h6])) (hmu _) (by ((refine Weak.of ?_ ?_ rfl rfl ?_ rfl rfl <;> repeat' first | exact trivial | refine ⟨⟨_, rfl, Or.inl ⟨rfl, rfl⟩⟩, ?_⟩ | refine ⟨⟨_, rfl, Or.inr (Or.inl ⟨rfl, by first | exact ⟨_, _, rfl, rfl, Or.inl rfl⟩ | exact ⟨_, _, rfl, rfl, Or.inr rfl⟩⟩)⟩, ?_⟩ | refine ⟨⟨_, rfl, Or.inr (Or.inr rfl)⟩, ?_⟩ | refine ⟨⟨_, rfl, VW_int (by assumption)⟩, ?_⟩ | refine ⟨⟨Or.inl ⟨_, rfl, ⟨rfl, rfl⟩⟩, rfl⟩, ?_⟩ | refine ⟨⟨Or.inl ⟨_, rfl, ⟨rfl, rfl, rfl⟩⟩, rfl⟩, ?_⟩ | refine ⟨⟨Or.inl ⟨_, rfl, BSim_by rfl rfl⟩, rfl⟩, ?_⟩ | refine ⟨⟨Or.inr ⟨rfl, rfl⟩, rfl⟩, ?_⟩ | refine ⟨⟨Or.inr ⟨rfl, rfl, rfl⟩, rfl⟩, ?_⟩)))
            · have h13 : (c : Int) ≤ E := by simpa using h13
              (repeat first | refine WT_inR (by simp [inR]; omega) ?_ | refine WT_t rfl ?_ | refine WT_f rfl ?_ | refine WT_guard (by first | (simp [inR]; done) | (simp [inR]; omega)) ?_ | refine WT_elem _ (map_get _ _ _ (by first | assumption | omega)) ?_)
              exact WT_again (k + 1, n, xs, ea, eb, c + 1) (again { s with at_ := s.at_ + 1 } (by rw [h11]; rw [h6] at h13; simp [heldO, lessO, h8, h9, h12, h13]) n xs ea eb (c + 1) h2 h3 h4 h5 (by simp [h6])) (hmu _) (by ((refine Weak.of ?_ ?_ rfl rfl ?_ rfl rfl <;> repeat' first | exact trivial | refine ⟨⟨_, rfl, Or.inl ⟨rfl, rfl⟩⟩, ?_⟩ | refine ⟨⟨_, rfl, Or.inr (Or.inl ⟨rfl, by first | exact ⟨_, _, rfl, rfl, Or.inl rfl⟩ | exact ⟨_, _, rfl, rfl, Or.inr rfl⟩⟩)⟩, ?_⟩ | refine ⟨⟨_, rfl, Or.inr (Or.inr rfl)⟩, ?_⟩ | refine ⟨⟨_, rfl, VW_int (by assumption)⟩, ?_⟩ | refine ⟨⟨Or.inl ⟨_, rfl, ⟨rfl, rfl⟩⟩, rfl⟩, ?_⟩ | refine ⟨⟨Or.inl ⟨_, rfl, ⟨rfl, rfl, rfl⟩⟩, rfl⟩, ?_⟩ | refine ⟨⟨Or.inl ⟨_, rfl, BSim_by rfl rfl⟩, rfl⟩, ?_⟩ | refine ⟨⟨Or.inr ⟨rfl, rfl⟩, rfl⟩, ?_⟩ | refine ⟨⟨Or.inr ⟨rfl, rfl, rfl⟩, rfl⟩, ?_⟩)))
        · have h11 : getP s.held l[k].a = none := by simpa [hm] using h10
          (repeat first | refine WT_inR (by simp [inR]; omega) ?_ | refine WT_t rfl ?_ | refine WT_f rfl ?_ | refine WT_guard (by first | (simp [inR]; done) | (simp [inR]; omega)) ?_ | refine WT_elem _ (map_get _ _ _ (by first | assumption | omega)) ?_)
          refine WT_test (fun h12 => ?_) (fun h12 => ?_)
          · have h12 : l[k].a ∈ s.dead := by simpa [hd] using h12
            refine WT_val (.bool true) (hd.trans (by simp [h12])) ?_
            (repeat first | refine WT_inR (by simp [inR]; omega) ?_ | refine WT_t rfl ?_ | refine WT_f rfl ?_ | refine WT_guard (by first | (simp [inR]; done) | (simp [inR]; omega)) ?_ | refine WT_elem _ (map_get _ _ _ (by first | assumption | omega)) ?_)
            exact WT_again (k + 1, n, xs, ea, eb, c + 1) (again { s with at_ := s.at_ + 1 } (by simp [h8, h9, h12]) n xs ea eb (c + 1) h2 h3 h4 h5 (by simp [h6])) (hmu _) (by ((refine Weak.of ?_ ?_ rfl rfl ?_ rfl rfl <;> repeat' first | exact trivial | refine ⟨⟨_, rfl, Or.inl ⟨rfl, rfl⟩⟩, ?_⟩ | refine ⟨⟨_, rfl, Or.inr (Or.inl ⟨rfl, by first | exact ⟨_, _, rfl, rfl, Or.inl rfl⟩ | exact ⟨_, _, rfl, rfl, Or.inr rfl⟩⟩)⟩, ?_⟩ | refine ⟨⟨_, rfl, Or.inr (Or.inr rfl)⟩, ?_⟩ | refine ⟨⟨_, rfl, VW_int (by assumption)⟩, ?_⟩ | refine ⟨⟨Or.inl ⟨_, rfl, ⟨rfl, rfl⟩⟩, rfl⟩, ?_⟩ | refine ⟨⟨Or.inl ⟨_, rfl, ⟨rfl, rfl, rfl⟩⟩, rfl⟩, ?_⟩ | refine ⟨⟨Or.inl ⟨_, rfl, BSim_by rfl rfl⟩, rfl⟩, ?_⟩ | refine ⟨⟨Or.inr ⟨rfl, rfl⟩, rfl⟩, ?_⟩ | refine ⟨⟨Or.inr ⟨rfl, rfl, rfl⟩, rfl⟩, ?_⟩)))
          · have h12 : l[k].a ∉ s.dead := by simpa [hd] using h12
            (repeat first | refine WT_inR (by simp [inR]; omega) ?_ | refine WT_t rfl ?_ | refine WT_f rfl ?_ | refine WT_guard (by first | (simp [inR]; done) | (simp [inR]; omega)) ?_ | refine WT_elem _ (map_get _ _ _ (by first | assumption | omega)) ?_)
            exact WT_again (k + 1, n + 1, xs ++ [pickL l[k]], ea, eb, c + 1) (again { s with at_ := s.at_ + 1, out := s.out ++ [l[k]] } (by rw [h11]; simp [heldO, lessO, h8, h9, h12]) (n + 1) _ ea eb (c + 1) (by simp [h2]) hxs h4 h5 (by simp [h6])) (hmu _) (by ((refine Weak.of ?_ ?_ rfl rfl ?_ rfl rfl <;> repeat' first | exact trivial | refine ⟨⟨_, rfl, Or.inl ⟨rfl, rfl⟩⟩, ?_⟩ | refine ⟨⟨_, rfl, Or.inr (Or.inl ⟨rfl, by first | exact ⟨_, _, rfl, rfl, Or.inl rfl⟩ | exact ⟨_, _, rfl, rfl, Or.inr rfl⟩⟩)⟩, ?_⟩ | refine ⟨⟨_, rfl, Or.inr (Or.inr rfl)⟩, ?_⟩ | refine ⟨⟨_, rfl, VW_int (by assumption)⟩, ?_⟩ | refine ⟨⟨Or.inl ⟨_, rfl, ⟨rfl, rfl⟩⟩, rfl⟩, ?_⟩ | refine ⟨⟨Or.inl ⟨_, rfl, ⟨rfl, rfl, rfl⟩⟩, rfl⟩, ?_⟩ | refine ⟨⟨Or.inl ⟨_, rfl, BSim_by rfl rfl⟩, rfl⟩, ?_⟩ | refine ⟨⟨Or.inr ⟨rfl, rfl⟩, rfl⟩, ?_⟩ | refine ⟨⟨Or.inr ⟨rfl, rfl, rfl⟩, rfl⟩, ?_⟩)))
      · have h9 : l[k].kind ≠ 1 := by simpa using h9
        (repeat first | refine WT_inR (by simp [inR]; omega) ?_ | refine WT_t rfl ?_ | refine WT_f rfl ?_ | refine WT_guard (by first | (simp [inR]; done) | (simp [inR]; omega)) ?_ | refine WT_elem _ (map_get _ _ _ (by first | assumption | omega)) ?_)
        refine WT_test (fun h10 => ?_) (fun h10 => ?_)
        · have h10 : l[k].kind = 2 := by simpa using h10
          (repeat first | refine WT_inR (by simp [inR]; omega) ?_ | refine WT_t rfl ?_ | refine WT_f rfl ?_ | refine WT_guard (by first | (simp [inR]; done) | (simp [inR]; omega)) ?_ | refine WT_elem _ (map_get _ _ _ (by first | assumption | omega)) ?_)
          refine WT_test (fun h12 => ?_) (fun h12 => ?_)
          · have h12 : (getP s.held l[k].a).isSome = true := by simpa [hm] using h12
            have h11 := hgd h12
            refine WT_val (I E) (hm.trans (by rw [h11]; rfl)) ?_
            (repeat first | refine WT_inR (by simp [inR]; omega) ?_ | refine WT_t rfl ?_ | refine WT_f rfl ?_ | refine WT_guard (by first | (simp [inR]; done) | (simp [inR]; omega)) ?_ | refine WT_elem _ (map_get _ _ _ (by first | assumption | omega)) ?_)
            refine WT_test (fun h13 => ?_) (fun h13 => ?_)
            · have h13 : E < (c : Int) + l[k].b := by simpa using h13
              (repeat first | refine WT_inR (by simp [inR]; omega) ?_ | refine WT_t rfl ?_ | refine WT_f rfl ?_ | refine WT_guard (by first | (simp [inR]; done) | (simp [inR]; omega)) ?_ | refine WT_elem _ (map_get _ _ _ (by first | assumption | omega)) ?_)
              exact WT_again (k + 1, n, xs, mset ea (.i l[k].a) (I ((c : Int) + l[k].b)), eb, c + 1) (again { s with at_ := s.at_ + 1, held := setP s.held l[k].a ((s.at_ : Int) + l[k].b) } (by rw [h11]; rw [h6] at h13; simp [heldO, lessO, h8, h10, h13]) n xs _ eb (c + 1) h2 h3 (by rw [h4, h6]; exact mset_held ..) h5 (by simp [h6])) (hmu _) (by ((refine Weak.of ?_ ?_ rfl rfl ?_ rfl rfl <;> repeat' first | exact trivial | refine ⟨⟨_, rfl, Or.inl ⟨rfl, rfl⟩⟩, ?_⟩ | refine ⟨⟨_, rfl, Or.inr (Or.inl ⟨rfl, by first | exact ⟨_, _, rfl, rfl, Or.inl rfl⟩ | exact ⟨_, _, rfl, rfl, Or.inr rfl⟩⟩)⟩, ?_⟩ | refine ⟨⟨_, rfl, Or.inr (Or.inr rfl)⟩, ?_⟩ | refine ⟨⟨_, rfl, VW_int (by assumption)⟩, ?_⟩ | refine ⟨⟨Or.inl ⟨_, rfl, ⟨rfl, rfl⟩⟩, rfl⟩, ?_⟩ | refine ⟨⟨Or.inl ⟨_, rfl, ⟨rfl, rfl, rfl⟩⟩, rfl⟩, ?_⟩ | refine ⟨⟨Or.inl ⟨_, rfl, BSim_by rfl rfl⟩, rfl⟩, ?_⟩ | refine ⟨⟨Or.inr ⟨rfl, rfl⟩, rfl⟩, ?_⟩ | refine ⟨⟨Or.inr ⟨rfl, rfl, rfl⟩, rfl⟩, ?_⟩)))
            · have h13 : ¬ E < (c : Int) + l[k].b := by simpa using h13
              (repeat first | refine WT_inR (by simp [inR]; omega) ?_ | refine WT_t rfl ?_ | refine WT_f rfl ?_ | refine WT_guard (by first | (simp [inR]; done) | (simp [inR]; omega)) ?_ | refine WT_elem _ (map_get _ _ _ (by first | assumption | omega)) ?_)
              exact WT_again (k + 1, n, xs, ea, eb, c + 1) (again { s with at_ := s.at_ + 1 } (by rw [h11]; rw [h6] at h13; simp [heldO, lessO, h8, h10]; intro hh; exact (h13 hh).elim) n xs ea eb (c + 1) h2 h3 h4 h5 (by simp [h6])) (hmu _) (by ((refine Weak.of ?_ ?_ rfl rfl ?_ rfl rfl <;> repeat' first | exact trivial | refine ⟨⟨_, rfl, Or.inl ⟨rfl, rfl⟩⟩, ?_⟩ | refine ⟨⟨_, rfl, Or.inr (Or.inl ⟨rfl, by first | exact ⟨_, _, rfl, rfl, Or.inl rfl⟩ | exact ⟨_, _, rfl, rfl, Or.inr rfl⟩⟩)⟩, ?_⟩ | refine ⟨⟨_, rfl, Or.inr (Or.inr rfl)⟩, ?_⟩ | refine ⟨⟨_, rfl, VW_int (by assumption)⟩, ?_⟩ | refine ⟨⟨Or.inl ⟨_, rfl, ⟨rfl, rfl⟩⟩, rfl⟩, ?_⟩ | refine ⟨⟨Or.inl ⟨_, rfl, ⟨rfl, rfl, rfl⟩⟩, rfl⟩, ?_⟩ | refine ⟨⟨Or.inl ⟨_, rfl, BSim_by rfl rfl⟩, rfl⟩, ?_⟩ | refine ⟨⟨Or.inr ⟨rfl, rfl⟩, rfl⟩, ?_⟩ | refine ⟨⟨Or.inr ⟨rfl, rfl, rfl⟩, rfl⟩, ?_⟩)))
          · have h11 : getP s.held l[k].a = none := by simpa [hm] using h12
            (repeat first | refine WT_inR (by simp [inR]; omega) ?_ | refine WT_t rfl ?_ | refine WT_f rfl ?_ | refine WT_guard (by first | (simp [inR]; done) | (simp [inR]; omega)) ?_ | refine WT_elem _ (map_get _ _ _ (by first | assumption | omega)) ?_)
            exact WT_again (k + 1, n, xs, mset ea (.i l[k].a) (I ((c : Int) + l[k].b)), eb, c + 1) (again { s with at_ := s.at_ + 1, held := setP s.held l[k].a ((s.at_ : Int) + l[k].b) } (by rw [h11]; simp [heldO, lessO, h8, h10]) n xs _ eb (c + 1) h2 h3 (by rw [h4, h6]; exact mset_held ..) h5 (by simp [h6])) (hmu _) (by ((refine Weak.of ?_ ?_ rfl rfl ?_ rfl rfl <;> repeat' first | exact trivial | refine ⟨⟨_, rfl, Or.inl ⟨rfl, rfl⟩⟩, ?_⟩ | refine ⟨⟨_, rfl, Or.inr (Or.inl ⟨rfl, by first | exact ⟨_, _, rfl, rfl, Or.inl rfl⟩ | exact ⟨_, _, rfl, rfl, Or.inr rfl⟩⟩)⟩, ?_⟩ | refine ⟨⟨_, rfl, Or.inr (Or.inr rfl)⟩, ?_⟩ | refine ⟨⟨_, rfl, VW_int (by assumption)⟩, ?_⟩ | refine ⟨⟨Or.inl ⟨_, rfl, ⟨rfl, rfl⟩⟩, rfl⟩, ?_⟩ | refine ⟨⟨Or.inl ⟨_, rfl, ⟨rfl, rfl, rfl⟩⟩, rfl⟩, ?_⟩ | refine ⟨⟨Or.inl ⟨_, rfl, BSim_by rfl rfl⟩, rfl⟩, ?_⟩ | refine ⟨⟨Or.inr ⟨rfl, rfl⟩, rfl⟩, ?_⟩ | refine ⟨⟨Or.inr ⟨rfl, rfl, rfl⟩, rfl⟩, ?_⟩)))
        · have h10 : l[k].kind = 3 := by simp at h10; omega
          (repeat first | refine WT_inR (by simp [inR]; omega) ?_ | refine WT_t rfl ?_ | refine WT_f rfl ?_ | refine WT_guard (by first | (simp [inR]; done) | (simp [inR]; omega)) ?_ | refine WT_elem _ (map_get _ _ _ (by first | assumption | omega)) ?_)
          refine WT_t (by simp [h10]) ?_
          (repeat first | refine WT_inR (by simp [inR]; omega) ?_ | refine WT_t rfl ?_ | refine WT_f rfl ?_ | refine WT_guard (by first | (simp [inR]; done) | (simp [inR]; omega)) ?_ | refine WT_elem _ (map_get _ _ _ (by first | assumption | omega)) ?_)
          refine WT_test (fun h12 => ?_) (fun h12 => ?_)
          · have h12 : l[k].a ∈ s.dead := by simpa [hd] using h12
            refine WT_val (.bool true) (hd.trans (by simp [h12])) ?_
            (repeat first | refine WT_inR (by simp [inR]; omega) ?_ | refine WT_t rfl ?_ | refine WT_f rfl ?_ | refine WT_guard (by first | (simp [inR]; done) | (simp [inR]; omega)) ?_ | refine WT_elem _ (map_get _ _ _ (by first | assumption | omega)) ?_)
            exact WT_again (k + 1, n, xs, ea, eb, c + 1) (again { s with at_ := s.at_ + 1 } (by simp [h8, h10, h12]) n xs ea eb (c + 1) h2 h3 h4 h5 (by simp [h6])) (hmu _) (by ((refine Weak.of ?_ ?_ rfl rfl ?_ rfl rfl <;> repeat' first | exact trivial | refine ⟨⟨_, rfl, Or.inl ⟨rfl, rfl⟩⟩, ?_⟩ | refine ⟨⟨_, rfl, Or.inr (Or.inl ⟨rfl, by first | exact ⟨_, _, rfl, rfl, Or.inl rfl⟩ | exact ⟨_, _, rfl, rfl, Or.inr rfl⟩⟩)⟩, ?_⟩ | refine ⟨⟨_, rfl, Or.inr (Or.inr rfl)⟩, ?_⟩ | refine ⟨⟨_, rfl, VW_int (by assumption)⟩, ?_⟩ | refine ⟨⟨Or.inl ⟨_, rfl, ⟨rfl, rfl⟩⟩, rfl⟩, ?_⟩ | refine ⟨⟨Or.inl ⟨_, rfl, ⟨rfl, rfl, rfl⟩⟩, rfl⟩, ?_⟩ | refine ⟨⟨Or.inl ⟨_, rfl, BSim_by rfl rfl⟩, rfl⟩, ?_⟩ | refine ⟨⟨Or.inr ⟨rfl, rfl⟩, rfl⟩, ?_⟩ | refine ⟨⟨Or.inr ⟨rfl, rfl, rfl⟩, rfl⟩, ?_⟩)))
          · have h12 : l[k].a ∉ s.dead := by simpa [hd] using h12
            (repeat first | refine WT_inR (by simp [inR]; omega) ?_ | refine WT_t rfl ?_ | refine WT_f rfl ?_ | refine WT_guard (by first | (simp [inR]; done) | (simp [inR]; omega)) ?_ | refine WT_elem _ (map_get _ _ _ (by first | assumption | omega)) ?_)
            refine WT_test (fun h13 => ?_) (fun h13 => ?_)
            · have h13 : 1 < seats - s.dead.length := by simpa [hlen] using h13
              (repeat first | refine WT_inR (by simp [inR]; omega) ?_ | refine WT_t rfl ?_ | refine WT_f rfl ?_ | refine WT_guard (by first | (simp [inR]; done) | (simp [inR]; omega)) ?_ | refine WT_elem _ (map_get _ _ _ (by first | assumption | omega)) ?_)
              exact WT_again (k + 1, n + 1, xs ++ [pickL l[k]], ea, mset eb (.i l[k].a) (.bool true), c + 1) (again { s with at_ := s.at_ + 1, dead := s.dead ++ [l[k].a], out := s.out ++ [l[k]] } (by simp [h8, h10, h12]; omega) (n + 1) _ ea _ (c + 1) (by simp [h2]) hxs h4 (by rw [h5]; exact mset_dead _ _ h12) (by simp [h6])) (hmu _) (by ((refine Weak.of ?_ ?_ rfl rfl ?_ rfl rfl <;> repeat' first | exact trivial | refine ⟨⟨_, rfl, Or.inl ⟨rfl, rfl⟩⟩, ?_⟩ | refine ⟨⟨_, rfl, Or.inr (Or.inl ⟨rfl, by first | exact ⟨_, _, rfl, rfl, Or.inl rfl⟩ | exact ⟨_, _, rfl, rfl, Or.inr rfl⟩⟩)⟩, ?_⟩ | refine ⟨⟨_, rfl, Or.inr (Or.inr rfl)⟩, ?_⟩ | refine ⟨⟨_, rfl, VW_int (by assumption)⟩, ?_⟩ | refine ⟨⟨Or.inl ⟨_, rfl, ⟨rfl, rfl⟩⟩, rfl⟩, ?_⟩ | refine ⟨⟨Or.inl ⟨_, rfl, ⟨rfl, rfl, rfl⟩⟩, rfl⟩, ?_⟩ | refine ⟨⟨Or.inl ⟨_, rfl, BSim_by rfl rfl⟩, rfl⟩, ?_⟩ | refine ⟨⟨Or.inr ⟨rfl, rfl⟩, rfl⟩, ?_⟩ | refine ⟨⟨Or.inr ⟨rfl, rfl, rfl⟩, rfl⟩, ?_⟩)))
            · have h13 : ¬ 1 < seats - s.dead.length := by simpa [hlen] using h13
              (repeat first | refine WT_inR (by simp [inR]; omega) ?_ | refine WT_t rfl ?_ | refine WT_f rfl ?_ | refine WT_guard (by first | (simp [inR]; done) | (simp [inR]; omega)) ?_ | refine WT_elem _ (map_get _ _ _ (by first | assumption | omega)) ?_)
              exact WT_again (k + 1, n, xs, ea, eb, c + 1) (again { s with at_ := s.at_ + 1 } (by simp [h8, h10]; omega) n xs ea eb (c + 1) h2 h3 h4 h5 (by simp [h6])) (hmu _) (by ((refine Weak.of ?_ ?_ rfl rfl ?_ rfl rfl <;> repeat' first | exact trivial | refine ⟨⟨_, rfl, Or.inl ⟨rfl, rfl⟩⟩, ?_⟩ | refine ⟨⟨_, rfl, Or.inr (Or.inl ⟨rfl, by first | exact ⟨_, _, rfl, rfl, Or.inl rfl⟩ | exact ⟨_, _, rfl, rfl, Or.inr rfl⟩⟩)⟩, ?_⟩ | refine ⟨⟨_, rfl, Or.inr (Or.inr rfl)⟩, ?_⟩ | refine ⟨⟨_, rfl, VW_int (by assumption)⟩, ?_⟩ | refine ⟨⟨Or.inl ⟨_, rfl, ⟨rfl, rfl⟩⟩, rfl⟩, ?_⟩ | refine ⟨⟨Or.inl ⟨_, rfl, ⟨rfl, rfl, rfl⟩⟩, rfl⟩, ?_⟩ | refine ⟨⟨Or.inl ⟨_, rfl, BSim_by rfl rfl⟩, rfl⟩, ?_⟩ | refine ⟨⟨Or.inr ⟨rfl, rfl⟩, rfl⟩, ?_⟩ | refine ⟨⟨Or.inr ⟨rfl, rfl, rfl⟩, rfl⟩, ?_⟩)))
  · refine WT_break ?_
    have h7 : l.length ≤ k := by simpa using h7
    rw [List.take_of_length_le h7] at h3
    refine WT_ret rfl rfl rfl rfl ?_
    rw [h2]
    simp [packD, picksD, plain, ← h3]
end Uw.Tryd

/- Plain, by recursion on the picks; the program's and the document's are the same. -/
set_option linter.unusedVariables false
set_option linter.unusedSimpArgs false
namespace Uw.Tryd
open Go Uw Go.Proofs Go.RowKit

/-- n: how many right ones there were; held: stalls (worker, last place); dead. -/
def stalled (held : List (Int × Int)) (a : Int) (n : Nat) : Bool := held.any fun h => decide (h.1 = a) && decide ((n : Int) ≤ h.2)

def plainR (seats : Int) : Nat → List (Int × Int) → List Int → List Pick → List Pick
  | _, _, _, [] => []
  | n, held, dead, p :: r =>
    if right seats p then
      if p.kind = 1 then (if decide (p.a ∈ dead) || stalled held p.a n then plainR seats (n + 1) held dead r else p :: plainR seats (n + 1) held dead r)
      else if p.kind = 2 then plainR seats (n + 1) ((p.a, (n : Int) + p.b) :: held) dead r
      else if decide (p.a ∈ dead) || decide (seats - dead.length ≤ 1) then plainR seats (n + 1) held dead r
      else p :: plainR seats (n + 1) held (p.a :: dead) r
    else plainR seats n held dead r

/-- What the program knows of stalls is what there were. -/
structure HeldOk (held : List (Int × Int)) (h : List (Int × Int)) : Prop where
  iff : ∀ (a : Int) (x : Int), (∃ e, getP held a = some e ∧ x ≤ e) ↔ ∃ y ∈ h, y.1 = a ∧ x ≤ y.2

theorem getP_setP (l : List (Int × Int)) (a d b : Int) : getP (setP l a d) b = if b = a then some d else getP l b := by
  induction l with
  | nil =>
    rw [setP, getP]; rfl
  | cons p r ih =>
    obtain ⟨k, v⟩ := p
    rw [setP]
    by_cases h : a = k
    · rw [if_pos h, getP, getP]
      subst h
      by_cases hb : b = a
      · simp [hb]
      · simp [hb]
    · rw [if_neg h, getP, getP, ih]
      by_cases hb : b = k
      · simp only [hb, if_true]; rw [if_neg (fun e => h e.symm)]
      · simp [hb]

theorem HeldOk.stalled {held h : List (Int × Int)} (ok : HeldOk held h) (a : Int) (n : Nat) : heldO (getP held a) n = Tryd.stalled h a n := by
  have := ok.iff a n
  rw [Bool.eq_iff_iff, Tryd.stalled, List.any_eq_true]
  simp only [Bool.and_eq_true, decide_eq_true_eq]
  rw [← this]
  cases getP held a with
  | none => simp [heldO]
  | some e => simp [heldO]

theorem HeldOk.set {held h : List (Int × Int)} (ok : HeldOk held h) (a e : Int) :
    HeldOk (if lessO (getP held a) e then setP held a e else held) ((a, e) :: h) := by
  constructor
  intro b x
  have ih := ok.iff b x
  have iha := ok.iff a x
  simp only [List.mem_cons, exists_eq_or_imp]
  rw [← ih]
  cases hg : getP held a with
  | none =>
    simp only [lessO, if_true]
    rw [getP_setP]
    by_cases hb : b = a
    · subst hb; simp [hg]
    · have hb' : ¬ a = b := fun h => hb h.symm
      simp [hb, hb']
  | some y =>
    simp only [lessO, decide_eq_true_eq]
    by_cases hy : y < e
    · rw [if_pos hy, getP_setP]
      by_cases hb : b = a
      · subst hb; simp [hg]; omega
      · have hb' : ¬ a = b := fun h => hb h.symm
        simp [hb, hb']
    · rw [if_neg hy]
      by_cases hb : b = a
      · subst hb; simp [hg]; omega
      · have hb' : ¬ a = b := fun h => hb h.symm
        simp [hb, hb']

theorem foldl_plainR (seats : Int) : ∀ (l : List Pick) (s : PS) (h : List (Int × Int)) (d : List Int), HeldOk s.held h → (∀ a, a ∈ s.dead ↔ a ∈ d) → s.dead.length = d.length →
    (l.foldl (plainStep seats) s).out = s.out ++ plainR seats s.at_ h d l
  | [], s, h, d, _, _, _ => by simp [plainR]
  | p :: r, s, h, d, ok, hd, hl => by
    rw [List.foldl_cons, plainR, plainStep]
    by_cases h1 : right seats p = true
    · rw [if_pos h1, if_pos h1]
      by_cases h2 : p.kind = 1
      · rw [if_pos h2, if_pos h2, ok.stalled p.a s.at_]
        have hdd : decide (p.a ∈ s.dead) = decide (p.a ∈ d) := by simp [hd]
        rw [hdd]
        refine (foldl_plainR seats r ⟨s.held, s.dead, s.at_ + 1, _⟩ h d ok hd hl).trans ?_
        by_cases h3 : (decide (p.a ∈ d) || stalled h p.a s.at_) = true
        · simp only [h3, if_true]
        · simp only [h3, if_false]; simp
      · rw [if_neg h2, if_neg h2]
        by_cases h3 : p.kind = 2
        · rw [if_pos h3, if_pos h3]
          exact foldl_plainR seats r ⟨_, s.dead, s.at_ + 1, s.out⟩ ((p.a, (s.at_ : Int) + p.b) :: h) d (ok.set p.a _) hd hl
        · rw [if_neg h3, if_neg h3]
          have hdd : decide (p.a ∈ s.dead) = decide (p.a ∈ d) := by simp [hd]
          rw [hdd, hl]
          by_cases h4 : (decide (p.a ∈ d) || decide (seats - (d.length : Int) ≤ 1)) = true
          · rw [if_pos h4, if_pos h4]; exact foldl_plainR seats r ⟨s.held, s.dead, s.at_ + 1, s.out⟩ h d ok hd hl
          · rw [if_neg h4, if_neg h4]
            refine (foldl_plainR seats r ⟨s.held, s.dead ++ [p.a], s.at_ + 1, s.out ++ [p]⟩ h (p.a :: d) ok (by intro a; simp [hd]; exact Or.comm) (by simp [hl])).trans ?_
            simp
    · rw [if_neg h1, if_neg h1]
      exact foldl_plainR seats r s h d ok hd hl

theorem plain_eq (seats : Int) (l : List Pick) : plain seats l = plainR seats 0 [] [] l := by
  rw [plain, plainF, foldl_plainR seats l ps0 [] [] ⟨by intro a x; simp [ps0, getP]⟩ (by simp [ps0]) rfl]
  rfl
end Uw.Tryd
