/- Nv: Sv (merged by merge2.py from the working texts). -/
import Derived.Test.YtkfgbbkcjaalkaaDoorNu
set_option linter.unusedSimpArgs false
set_option linter.unnecessarySimpa false
set_option linter.unusedVariables false
set_option linter.unusedSectionVars false

/- ALIVE. -/
set_option linter.unusedVariables false
set_option linter.unusedSimpArgs false
namespace Uw.Tryd
open Go Uw Go.Proofs Go.RowKit

/-- Who is gone, behind picks. -/
def goneL (n : Nat) (d : List Int) : List (List Dat) := (List.range n).map fun (i : Nat) => [Dat.bool (decide ((i : Int) ∈ d))]

theorem goneL_nil (n : Nat) : List.replicate n [Dat.bool false] = goneL n [] := by
  apply List.ext_getElem?
  intro i
  by_cases h : i < n
  · simp [goneL, h, List.getElem?_replicate]
  · simp [goneL, h, List.getElem?_replicate]
theorem goneL_get (n : Nat) (d : List Int) (i : Nat) (h : i < n) : (goneL n d)[i]? = some [Dat.bool (decide ((i : Int) ∈ d))] := by
  simp [goneL, h]
theorem goneL_set (n : Nat) (d : List Int) (i : Nat) (h : i < n) : (goneL n d).set i [Dat.bool true] = goneL n ((i : Int) :: d) := by
  apply List.ext_getElem?
  intro j
  rw [List.getElem?_set]
  by_cases hj : i = j
  · subst hj
    simp [goneL, h]
  · rw [if_neg hj]
    by_cases hjn : j < n
    · have : ¬ ((j : Int) = (i : Int)) := by omega
      simp [goneL, hjn, this]
    · simp [goneL, hjn]

theorem l_ScriptAlive (seats : Int) (hs : -9223372036854775808 ≤ seats ∧ seats < 9223372036854775808) (l : List Pick) : Ret P0 n_law29_ScriptAlive [I seats, picksD l] (.bool true) := by
  by_cases hc : 400 < l.length ∨ seats < 1 ∨ 100 < seats
  · refine Ret_by is_law29_ScriptAlive rfl ?_
    refine WT_test (fun h => ?_) (fun h => ?_)
    · (repeat first | refine WT_inR (by simp [inR]; omega) ?_ | refine WT_t rfl ?_ | refine WT_f rfl ?_ | refine WT_guard (by first | (simp [inR]; done) | (simp [inR]; omega)) ?_ | refine WT_elem _ (map_get _ _ _ (by first | assumption | omega)) ?_)
      refine WT_test (fun h2 => ?_) (fun h2 => ?_)
      · (repeat first | refine WT_inR (by simp [inR]; omega) ?_ | refine WT_t rfl ?_ | refine WT_f rfl ?_ | refine WT_guard (by first | (simp [inR]; done) | (simp [inR]; omega)) ?_ | refine WT_elem _ (map_get _ _ _ (by first | assumption | omega)) ?_)
        refine WT_t (by simp at h h2 ⊢; omega) ?_
        refine WT_call _ s_alive ?_
        exact WT_ret (P := P0) rfl rfl rfl rfl rfl
      · (repeat first | refine WT_inR (by simp [inR]; omega) ?_ | refine WT_t rfl ?_ | refine WT_f rfl ?_ | refine WT_guard (by first | (simp [inR]; done) | (simp [inR]; omega)) ?_ | refine WT_elem _ (map_get _ _ _ (by first | assumption | omega)) ?_)
        refine WT_call _ s_alive ?_
        exact WT_ret (P := P0) rfl rfl rfl rfl rfl
    · (repeat first | refine WT_inR (by simp [inR]; omega) ?_ | refine WT_t rfl ?_ | refine WT_f rfl ?_ | refine WT_guard (by first | (simp [inR]; done) | (simp [inR]; omega)) ?_ | refine WT_elem _ (map_get _ _ _ (by first | assumption | omega)) ?_)
      refine WT_call _ s_alive ?_
      exact WT_ret (P := P0) rfl rfl rfl rfl rfl
  · have p1 := s_script_Plain seats l (by omega) hs.2
    have hok : okP seats [] (plain seats l) := by rw [plain_eq]; exact plainR_ok seats l 0 [] []
    have hpl := plain_len seats l
    generalize plain seats l = R at p1 hok hpl
    refine Ret_by is_law29_ScriptAlive rfl ?_
    refine WT_t (by simp; omega) ?_
    (repeat first | refine WT_inR (by simp [inR]; omega) ?_ | refine WT_t rfl ?_ | refine WT_f rfl ?_ | refine WT_guard (by first | (simp [inR]; done) | (simp [inR]; omega)) ?_ | refine WT_elem _ (map_get _ _ _ (by first | assumption | omega)) ?_)
    refine WT_t (by simp; omega) ?_
    (repeat first | refine WT_inR (by simp [inR]; omega) ?_ | refine WT_t rfl ?_ | refine WT_f rfl ?_ | refine WT_guard (by first | (simp [inR]; done) | (simp [inR]; omega)) ?_ | refine WT_elem _ (map_get _ _ _ (by first | assumption | omega)) ?_)
    refine WT_f (by simp; omega) ?_
    (repeat first | refine WT_inR (by simp [inR]; omega) ?_ | refine WT_t rfl ?_ | refine WT_f rfl ?_ | refine WT_guard (by first | (simp [inR]; done) | (simp [inR]; omega)) ?_ | refine WT_elem _ (map_get _ _ _ (by first | assumption | omega)) ?_)
    refine WT_call _ p1 ?_
    (repeat first | refine WT_inR (by simp [inR]; omega) ?_ | refine WT_t rfl ?_ | refine WT_f rfl ?_ | refine WT_guard (by first | (simp [inR]; done) | (simp [inR]; omega)) ?_ | refine WT_elem _ (map_get _ _ _ (by first | assumption | omega)) ?_)
    have hgn := goneL_nil seats.toNat
    refine WT_loop (fun z : Nat × List (List Dat) × Int => ⟨[(28, .d (I z.1)), (27, .d (I (R.map pickL).length)), (26, .d (picksD R)), (6, .d (I z.2.2)), (5, .ref 0 0 0 seats.toNat), (4, .d (.bool false)), (0, .d (I seats)), (1, .d (picksD l))], [(0, .mt 1 0 z.2.1)], 1, [], 0⟩)
      (fun z => z.1 ≤ R.length ∧ ∃ d : List Int, okP seats d (R.drop z.1) ∧ z.2.2 = seats - d.length ∧ 1 ≤ z.2.2 ∧ z.2.1 = goneL seats.toNat d) (fun z => R.length - z.1) (0, List.replicate seats.toNat [.bool false], seats) (by ((refine Weak.of ?_ ?_ rfl rfl ?_ rfl rfl <;> repeat' first | exact trivial | refine ⟨⟨_, rfl, Or.inl ⟨rfl, rfl⟩⟩, ?_⟩ | refine ⟨⟨_, rfl, Or.inr (Or.inl ⟨rfl, by first | exact ⟨_, _, rfl, rfl, Or.inl rfl⟩ | exact ⟨_, _, rfl, rfl, Or.inr rfl⟩⟩)⟩, ?_⟩ | refine ⟨⟨_, rfl, Or.inr (Or.inr rfl)⟩, ?_⟩ | refine ⟨⟨_, rfl, VW_int (by assumption)⟩, ?_⟩ | refine ⟨⟨Or.inl ⟨_, rfl, ⟨rfl, rfl⟩⟩, rfl⟩, ?_⟩ | refine ⟨⟨Or.inl ⟨_, rfl, ⟨rfl, rfl, rfl⟩⟩, rfl⟩, ?_⟩ | refine ⟨⟨Or.inl ⟨_, rfl, BSim_by rfl rfl⟩, rfl⟩, ?_⟩ | refine ⟨⟨Or.inr ⟨rfl, rfl⟩, rfl⟩, ?_⟩ | refine ⟨⟨Or.inr ⟨rfl, rfl, rfl⟩, rfl⟩, ?_⟩))) ⟨by simp, [], by simpa using hok, by simp, by simp only; omega, hgn⟩ ?_
    rintro ⟨k, xs, left⟩ ⟨h1, d, h2, h3, h4, h5⟩
    simp only at h1 h2 h3 h4 h5
    refine WT_test (fun h6 => ?_) (fun h6 => ?_)
    · have h6 : k < R.length := by simpa using h6
      have hdk : R.drop k = R[k] :: R.drop (k + 1) := by rw [List.drop_eq_getElem_cons h6]
      rw [hdk] at h2
      obtain ⟨o1, o2, o3, o4, o5⟩ := h2
      have ho := o1
      simp only [right, Bool.and_eq_true, decide_eq_true_eq] at ho
      have ha0 := ho.1.1
      have ha1 := ho.1.2
      have rr := s_script_Right seats R[k]
      rw [o1] at rr
      have hel : xs[0 + R[k].a.toNat]? = some [Dat.bool false] := by
        rw [Nat.zero_add, h5, goneL_get seats.toNat d _ (by omega), Int.toNat_of_nonneg ha0]
        simp [o3]
      (repeat first | refine WT_inR (by simp [inR]; omega) ?_ | refine WT_t rfl ?_ | refine WT_f rfl ?_ | refine WT_guard (by first | (simp [inR]; done) | (simp [inR]; omega)) ?_ | refine WT_elem _ (map_get _ _ _ (by first | assumption | omega)) ?_)
      have k2 : (decide (R[k].kind = 2) == false) = true := by simp [o2]
      have hgd : (decide (0 ≤ R[k].a) && decide (R[k].a < (seats.toNat : Int))) = true := by simp; omega
      refine WT_call _ rr ?_
      (repeat first | refine WT_inR (by simp [inR]; omega) ?_ | refine WT_t rfl ?_ | refine WT_f rfl ?_ | refine WT_guard (by first | (simp [inR]; done) | (simp [inR]; omega)) ?_ | refine WT_elem _ (map_get _ _ _ (by first | assumption | omega)) ?_)
      refine WT_t k2 ?_
      (repeat first | refine WT_inR (by simp [inR]; omega) ?_ | refine WT_t rfl ?_ | refine WT_f rfl ?_ | refine WT_guard (by first | (simp [inR]; done) | (simp [inR]; omega)) ?_ | refine WT_elem _ (map_get _ _ _ (by first | assumption | omega)) ?_)
      refine WT_elem _ hel ?_
      (repeat first | refine WT_inR (by simp [inR]; omega) ?_ | refine WT_t rfl ?_ | refine WT_f rfl ?_ | refine WT_guard (by first | (simp [inR]; done) | (simp [inR]; omega)) ?_ | refine WT_elem _ (map_get _ _ _ (by first | assumption | omega)) ?_)
      refine WT_test (fun h7 => ?_) (fun h7 => ?_)
      · have h7 : R[k].kind = 3 := by simpa using h7
        rw [if_pos h7] at o5
        have o4 := o4 h7
        (repeat first | refine WT_inR (by simp [inR]; omega) ?_ | refine WT_t rfl ?_ | refine WT_f rfl ?_ | refine WT_guard (by first | (simp [inR]; done) | (simp [inR]; omega)) ?_ | refine WT_elem _ (map_get _ _ _ (by first | assumption | omega)) ?_)
        refine WT_elem _ hel ?_
        (repeat first | refine WT_inR (by simp [inR]; omega) ?_ | refine WT_t rfl ?_ | refine WT_f rfl ?_ | refine WT_guard (by first | (simp [inR]; done) | (simp [inR]; omega)) ?_ | refine WT_elem _ (map_get _ _ _ (by first | assumption | omega)) ?_)
        refine WT_again (k + 1, xs.set (0 + R[k].a.toNat) [.bool true], left - 1) ⟨by simp; omega, R[k].a :: d, o5, ?_, ?_, ?_⟩ (by simp; omega) (by ((refine Weak.of ?_ ?_ rfl rfl ?_ rfl rfl <;> repeat' first | exact trivial | refine ⟨⟨_, rfl, Or.inl ⟨rfl, rfl⟩⟩, ?_⟩ | refine ⟨⟨_, rfl, Or.inr (Or.inl ⟨rfl, by first | exact ⟨_, _, rfl, rfl, Or.inl rfl⟩ | exact ⟨_, _, rfl, rfl, Or.inr rfl⟩⟩)⟩, ?_⟩ | refine ⟨⟨_, rfl, Or.inr (Or.inr rfl)⟩, ?_⟩ | refine ⟨⟨_, rfl, VW_int (by assumption)⟩, ?_⟩ | refine ⟨⟨Or.inl ⟨_, rfl, ⟨rfl, rfl⟩⟩, rfl⟩, ?_⟩ | refine ⟨⟨Or.inl ⟨_, rfl, ⟨rfl, rfl, rfl⟩⟩, rfl⟩, ?_⟩ | refine ⟨⟨Or.inl ⟨_, rfl, BSim_by rfl rfl⟩, rfl⟩, ?_⟩ | refine ⟨⟨Or.inr ⟨rfl, rfl⟩, rfl⟩, ?_⟩ | refine ⟨⟨Or.inr ⟨rfl, rfl, rfl⟩, rfl⟩, ?_⟩)))
        · simp; omega
        · simp; omega
        · simp only
          rw [h5, Nat.zero_add, goneL_set seats.toNat d _ (by omega), Int.toNat_of_nonneg ha0]
      · have h7 : R[k].kind ≠ 3 := by simpa using h7
        rw [if_neg h7] at o5
        (repeat first | refine WT_inR (by simp [inR]; omega) ?_ | refine WT_t rfl ?_ | refine WT_f rfl ?_ | refine WT_guard (by first | (simp [inR]; done) | (simp [inR]; omega)) ?_ | refine WT_elem _ (map_get _ _ _ (by first | assumption | omega)) ?_)
        exact WT_again (k + 1, xs, left) ⟨by simp; omega, d, o5, h3, h4, h5⟩ (by simp; omega) (by ((refine Weak.of ?_ ?_ rfl rfl ?_ rfl rfl <;> repeat' first | exact trivial | refine ⟨⟨_, rfl, Or.inl ⟨rfl, rfl⟩⟩, ?_⟩ | refine ⟨⟨_, rfl, Or.inr (Or.inl ⟨rfl, by first | exact ⟨_, _, rfl, rfl, Or.inl rfl⟩ | exact ⟨_, _, rfl, rfl, Or.inr rfl⟩⟩)⟩, ?_⟩ | refine ⟨⟨_, rfl, Or.inr (Or.inr rfl)⟩, ?_⟩ | refine ⟨⟨_, rfl, VW_int (by assumption)⟩, ?_⟩ | refine ⟨⟨Or.inl ⟨_, rfl, ⟨rfl, rfl⟩⟩, rfl⟩, ?_⟩ | refine ⟨⟨Or.inl ⟨_, rfl, ⟨rfl, rfl, rfl⟩⟩, rfl⟩, ?_⟩ | refine ⟨⟨Or.inl ⟨_, rfl, BSim_by rfl rfl⟩, rfl⟩, ?_⟩ | refine ⟨⟨Or.inr ⟨rfl, rfl⟩, rfl⟩, ?_⟩ | refine ⟨⟨Or.inr ⟨rfl, rfl, rfl⟩, rfl⟩, ?_⟩)))
    · refine WT_break ?_
      refine WT_call _ s_alive ?_
      (repeat first | refine WT_inR (by simp [inR]; omega) ?_ | refine WT_t rfl ?_ | refine WT_f rfl ?_ | refine WT_guard (by first | (simp [inR]; done) | (simp [inR]; omega)) ?_ | refine WT_elem _ (map_get _ _ _ (by first | assumption | omega)) ?_)
      refine WT_ret rfl rfl rfl rfl ?_
      simp [packD]; omega
end Uw.Tryd
