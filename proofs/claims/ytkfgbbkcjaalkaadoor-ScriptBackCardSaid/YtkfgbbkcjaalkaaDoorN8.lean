/- N8: Sh Si Sj (merged by merge2.py from the working texts). -/
import Derived.Test.YtkfgbbkcjaalkaaDoorN6
import Derived.Test.YtkfgbbkcjaalkaaDoorN4
set_option linter.unusedSimpArgs false
set_option linter.unnecessarySimpa false
set_option linter.unusedVariables false
set_option linter.unusedSectionVars false

/- Numbers, words, picks of words. -/
set_option linter.unusedVariables false
set_option linter.unusedSimpArgs false
namespace Uw.Tryd
open Go Uw Go.Proofs Go.RowKit

def isDig (b : UInt8) : Bool := decide (48 ≤ b.toNat) && decide (b.toNat ≤ 57)
/-- What digits come to. -/
def valOf (l : List UInt8) : Nat := l.foldl (fun n b => 10 * n + (b.toNat - 48)) 0
def badLen (s : List UInt8) : Bool := decide (s.length = 0) || decide (7 < s.length) || (decide (1 < s.length) && decide (s.head? = some 48))
/-- The number that a text is. -/
def numb (s : List UInt8) : Option Nat := if badLen s || !s.all isDig then none else some (valOf s)

theorem valOf_lt : ∀ (l : List UInt8), l.all isDig = true → valOf l < 10 ^ l.length := by
  intro l
  suffices h : ∀ (l : List UInt8) (n : Nat), l.all isDig = true → l.foldl (fun n b => 10 * n + (b.toNat - 48)) n < (n + 1) * 10 ^ l.length by
    intro hl
    have := h l 0 hl
    simpa [valOf] using this
  intro l
  induction l with
  | nil => intro n _; simp
  | cons b r ih =>
    intro n h
    simp only [List.all_cons, Bool.and_eq_true] at h
    have h1 := ih (10 * n + (b.toNat - 48)) h.2
    have hb : b.toNat - 48 ≤ 9 := by simp [isDig] at h; omega
    rw [List.foldl_cons, List.length_cons, Nat.pow_succ]
    refine Nat.lt_of_lt_of_le h1 ?_
    have : 10 * n + (b.toNat - 48) + 1 ≤ (n + 1) * 10 := by omega
    calc (10 * n + (b.toNat - 48) + 1) * 10 ^ r.length ≤ ((n + 1) * 10) * 10 ^ r.length := Nat.mul_le_mul_right _ this
      _ = (n + 1) * (10 ^ r.length * 10) := by rw [Nat.mul_assoc, Nat.mul_comm 10]

theorem valOf_take (s : List UInt8) (k : Nat) (h : k < s.length) : valOf (s.take (k + 1)) = 10 * valOf (s.take k) + (s[k].toNat - 48) := by
  rw [take_one s k h, valOf, valOf, List.foldl_append]; rfl

theorem all_take (p : UInt8 → Bool) (s : List UInt8) (k : Nat) (h : k < s.length) : (s.take (k + 1)).all p = ((s.take k).all p && p s[k]) := by
  rw [take_one s k h, List.all_append]; simp

theorem valOf_small (s : List UInt8) (k : Nat) (hk : k ≤ 7) (h : (s.take k).all isDig = true) : valOf (s.take k) < 10000000 := by
  have h1 := valOf_lt _ h
  have h2 : 10 ^ (s.take k).length ≤ 10 ^ 7 := Nat.pow_le_pow_right (by omega) (by simp; omega)
  have h3 : (10 : Nat) ^ 7 = 10000000 := by decide
  omega

def numI (s : List UInt8) : Int := match numb s with | some n => n | none => -1

theorem numb_bad {s : List UInt8} (h : badLen s = true) : numb s = none := by simp [numb, h]
theorem numb_dig {s : List UInt8} (k : Nat) (hk : k < s.length) (h : isDig s[k] = false) : numb s = none := by
  have : s.all isDig = false := by
    rw [List.all_eq_false]; exact ⟨s[k], List.getElem_mem _, by simp [h]⟩
  simp [numb, this]
theorem numb_ok {s : List UInt8} (h : badLen s = false) (h2 : s.all isDig = true) : numb s = some (valOf s) := by simp [numb, h, h2]

theorem s_ref29_number (s : List UInt8) (hs : s.length < 1000000) : Ret P0 n_ref29_number [.str s] (I (numI s)) := by
  refine Ret_by is_ref29_number rfl ?_
  have bad : badLen s = true → I (-1) = I (numI s) := fun h => by rw [numI, numb_bad h]
  refine WT_test (fun h1 => ?a) (fun h1 => ?b)
  case b =>
    (repeat first | refine WT_inR (by simp [inR]; omega) ?_ | refine WT_t rfl ?_ | refine WT_f rfl ?_ | refine WT_guard (by first | (simp [inR]; done) | (simp [inR]; omega)) ?_ | refine WT_elem _ (map_get _ _ _ (by first | assumption | omega)) ?_)
    exact WT_ret (P := P0) rfl rfl rfl rfl (bad (by simp at h1; simp [badLen, h1]))
  have h1 : s.length ≠ 0 := by simp at h1; exact fun h => h1 (by simpa using h)
  (repeat first | refine WT_inR (by simp [inR]; omega) ?_ | refine WT_t rfl ?_ | refine WT_f rfl ?_ | refine WT_guard (by first | (simp [inR]; done) | (simp [inR]; omega)) ?_ | refine WT_elem _ (map_get _ _ _ (by first | assumption | omega)) ?_)
  refine WT_test (fun h2 => ?c) (fun h2 => ?d)
  case d =>
    (repeat first | refine WT_inR (by simp [inR]; omega) ?_ | refine WT_t rfl ?_ | refine WT_f rfl ?_ | refine WT_guard (by first | (simp [inR]; done) | (simp [inR]; omega)) ?_ | refine WT_elem _ (map_get _ _ _ (by first | assumption | omega)) ?_)
    exact WT_ret (P := P0) rfl rfl rfl rfl (bad (by simp at h2; simp [badLen]; left; right; omega))
  have h2 : s.length ≤ 7 := by simp at h2; omega
  have hh : s.head? = some s[0] := by rw [List.head?_eq_getElem?]; simp [show 0 < s.length by omega]
  (repeat first | refine WT_inR (by simp [inR]; omega) ?_ | refine WT_t rfl ?_ | refine WT_f rfl ?_ | refine WT_guard (by first | (simp [inR]; done) | (simp [inR]; omega)) ?_ | refine WT_elem _ (map_get _ _ _ (by first | assumption | omega)) ?_)
  refine WT_test (fun h3 => ?e) (fun h3 => ?f)
  case' e =>
    have h3 : 1 < s.length := by simp at h3; omega
    (repeat first | refine WT_inR (by simp [inR]; omega) ?_ | refine WT_t rfl ?_ | refine WT_f rfl ?_ | refine WT_guard (by first | (simp [inR]; done) | (simp [inR]; omega)) ?_ | refine WT_elem _ (map_get _ _ _ (by first | assumption | omega)) ?_)
    refine WT_byte s[0] (by simp <;> omega) ?_
    (repeat first | refine WT_inR (by simp [inR]; omega) ?_ | refine WT_t rfl ?_ | refine WT_f rfl ?_ | refine WT_guard (by first | (simp [inR]; done) | (simp [inR]; omega)) ?_ | refine WT_elem _ (map_get _ _ _ (by first | assumption | omega)) ?_)
    refine WT_test (fun h4 => ?g) (fun h4 => ?i)
  case g =>
    (repeat first | refine WT_inR (by simp [inR]; omega) ?_ | refine WT_t rfl ?_ | refine WT_f rfl ?_ | refine WT_guard (by first | (simp [inR]; done) | (simp [inR]; omega)) ?_ | refine WT_elem _ (map_get _ _ _ (by first | assumption | omega)) ?_)
    exact WT_ret (P := P0) rfl rfl rfl rfl (bad (by
      have h4 : s[0] = 48 := by simp at h4; exact UInt8.toNat_inj.1 (by show _ = 48; omega)
      simp [badLen, hh, h3, h4]))
  case' i =>
    have hb : badLen s = false := by
      have h4 : s[0] ≠ 48 := by simp at h4; intro e; rw [e] at h4; exact h4 rfl
      simp [badLen, hh, h1, h4]; omega
  case' f =>
    have hb : badLen s = false := by
      simp at h3
      simp [badLen, h1]; omega
  all_goals
    (repeat first | refine WT_inR (by simp [inR]; omega) ?_ | refine WT_t rfl ?_ | refine WT_f rfl ?_ | refine WT_guard (by first | (simp [inR]; done) | (simp [inR]; omega)) ?_ | refine WT_elem _ (map_get _ _ _ (by first | assumption | omega)) ?_)
    refine WT_loop (fun k : Nat × Int => ⟨[(4, .d (I k.1)), (3, .d (I k.2)), (0, .d (.str s))], [], 0, [], 0⟩) (fun k => k.1 ≤ s.length ∧ (s.take k.1).all isDig = true ∧ k.2 = (valOf (s.take k.1) : Nat)) (fun k => s.length - k.1) (0, 0) (by ((refine Weak.of ?_ ?_ rfl rfl ?_ rfl rfl <;> repeat' first | exact trivial | refine ⟨⟨_, rfl, Or.inl ⟨rfl, rfl⟩⟩, ?_⟩ | refine ⟨⟨_, rfl, Or.inr (Or.inl ⟨rfl, by first | exact ⟨_, _, rfl, rfl, Or.inl rfl⟩ | exact ⟨_, _, rfl, rfl, Or.inr rfl⟩⟩)⟩, ?_⟩ | refine ⟨⟨_, rfl, Or.inr (Or.inr rfl)⟩, ?_⟩ | refine ⟨⟨_, rfl, VW_int (by assumption)⟩, ?_⟩ | refine ⟨⟨Or.inl ⟨_, rfl, ⟨rfl, rfl⟩⟩, rfl⟩, ?_⟩ | refine ⟨⟨Or.inl ⟨_, rfl, ⟨rfl, rfl, rfl⟩⟩, rfl⟩, ?_⟩ | refine ⟨⟨Or.inl ⟨_, rfl, BSim_by rfl rfl⟩, rfl⟩, ?_⟩ | refine ⟨⟨Or.inr ⟨rfl, rfl⟩, rfl⟩, ?_⟩ | refine ⟨⟨Or.inr ⟨rfl, rfl, rfl⟩, rfl⟩, ?_⟩))) ⟨by simp, by simp, by simp [valOf]⟩ ?_
    rintro ⟨k, v⟩ ⟨g1, g2, g3⟩
    simp only at g1 g2 g3
    have g4 := valOf_small s k (by omega) g2
    refine WT_test (fun h5 => ?_) (fun h5 => ?_)
    · have h5 : k < s.length := by simp at h5; omega
      have hbd : s[k].toNat < 256 := s[k].toNat_lt
      (repeat first | refine WT_inR (by simp [inR]; omega) ?_ | refine WT_t rfl ?_ | refine WT_f rfl ?_ | refine WT_guard (by first | (simp [inR]; done) | (simp [inR]; omega)) ?_ | refine WT_elem _ (map_get _ _ _ (by first | assumption | omega)) ?_)
      refine WT_byte s[k] (by simp [h5]) ?_
      refine WT_test (fun h6 => ?_) (fun h6 => ?_)
      · have h6 : ¬ s[k].toNat < 48 := by simp at h6; omega
        (repeat first | refine WT_inR (by simp [inR]; omega) ?_ | refine WT_t rfl ?_ | refine WT_f rfl ?_ | refine WT_guard (by first | (simp [inR]; done) | (simp [inR]; omega)) ?_ | refine WT_elem _ (map_get _ _ _ (by first | assumption | omega)) ?_)
        refine WT_byte s[k] (by simp [h5]) ?_
        (repeat first | refine WT_inR (by simp [inR]; omega) ?_ | refine WT_t rfl ?_ | refine WT_f rfl ?_ | refine WT_guard (by first | (simp [inR]; done) | (simp [inR]; omega)) ?_ | refine WT_elem _ (map_get _ _ _ (by first | assumption | omega)) ?_)
        refine WT_test (fun h7 => ?_) (fun h7 => ?_)
        · refine WT_leave ?_
          have h7 : 57 < s[k].toNat := by simp at h7; omega
          refine WT_ret rfl rfl rfl rfl ?_
          rw [numI, numb_dig k h5 (by simp [isDig]; omega)]; rfl
        · have h7 : s[k].toNat ≤ 57 := by simp at h7; omega
          (repeat first | refine WT_inR (by simp [inR]; omega) ?_ | refine WT_t rfl ?_ | refine WT_f rfl ?_ | refine WT_guard (by first | (simp [inR]; done) | (simp [inR]; omega)) ?_ | refine WT_elem _ (map_get _ _ _ (by first | assumption | omega)) ?_)
          refine WT_byte s[k] (by simp [h5]) ?_
          (repeat first | refine WT_inR (by simp [inR]; omega) ?_ | refine WT_t rfl ?_ | refine WT_f rfl ?_ | refine WT_guard (by first | (simp [inR]; done) | (simp [inR]; omega)) ?_ | refine WT_elem _ (map_get _ _ _ (by first | assumption | omega)) ?_)
          refine WT_again (k + 1, 10 * v + s[k].toNat - 48) ⟨by simp; omega, ?_, ?_⟩ (by simp; omega) (by ((refine Weak.of ?_ ?_ rfl rfl ?_ rfl rfl <;> repeat' first | exact trivial | refine ⟨⟨_, rfl, Or.inl ⟨rfl, rfl⟩⟩, ?_⟩ | refine ⟨⟨_, rfl, Or.inr (Or.inl ⟨rfl, by first | exact ⟨_, _, rfl, rfl, Or.inl rfl⟩ | exact ⟨_, _, rfl, rfl, Or.inr rfl⟩⟩)⟩, ?_⟩ | refine ⟨⟨_, rfl, Or.inr (Or.inr rfl)⟩, ?_⟩ | refine ⟨⟨_, rfl, VW_int (by assumption)⟩, ?_⟩ | refine ⟨⟨Or.inl ⟨_, rfl, ⟨rfl, rfl⟩⟩, rfl⟩, ?_⟩ | refine ⟨⟨Or.inl ⟨_, rfl, ⟨rfl, rfl, rfl⟩⟩, rfl⟩, ?_⟩ | refine ⟨⟨Or.inl ⟨_, rfl, BSim_by rfl rfl⟩, rfl⟩, ?_⟩ | refine ⟨⟨Or.inr ⟨rfl, rfl⟩, rfl⟩, ?_⟩ | refine ⟨⟨Or.inr ⟨rfl, rfl, rfl⟩, rfl⟩, ?_⟩)))
          · rw [all_take _ _ _ h5, g2]; simp [isDig]; omega
          · simp only; rw [valOf_take s k h5]; omega
      · (repeat first | refine WT_inR (by simp [inR]; omega) ?_ | refine WT_t rfl ?_ | refine WT_f rfl ?_ | refine WT_guard (by first | (simp [inR]; done) | (simp [inR]; omega)) ?_ | refine WT_elem _ (map_get _ _ _ (by first | assumption | omega)) ?_)
        refine WT_leave ?_
        have h6 : s[k].toNat < 48 := by simp at h6; omega
        refine WT_ret rfl rfl rfl rfl ?_
        rw [numI, numb_dig k h5 (by simp [isDig]; omega)]; rfl
    · refine WT_break ?_
      have h5 : s.length ≤ k := by simp at h5; omega
      rw [List.take_of_length_le h5] at g2 g3
      refine WT_ret rfl rfl rfl rfl ?_
      rw [numI, numb_ok hb g2, g3]; rfl
theorem s_script_number (s : List UInt8) (hs : s.length < 1000000) : Ret P0 n_script_number [.str s] (.tuple [I ((numb s).getD 0 : Nat), .bool (numb s).isSome]) := by
  refine Ret_by is_script_number rfl ?_
  have no : numb s = none → packD [I 0, .bool false] = .tuple [I ((numb s).getD 0 : Nat), .bool (numb s).isSome] := fun h => by rw [h]; rfl
  have bad : badLen s = true → packD [I 0, .bool false] = .tuple [I ((numb s).getD 0 : Nat), .bool (numb s).isSome] := fun h => no (numb_bad h)
  refine WT_test (fun h1 => ?a) (fun h1 => ?b)
  case b =>
    (repeat first | refine WT_inR (by simp [inR]; omega) ?_ | refine WT_t rfl ?_ | refine WT_f rfl ?_ | refine WT_guard (by first | (simp [inR]; done) | (simp [inR]; omega)) ?_ | refine WT_elem _ (map_get _ _ _ (by first | assumption | omega)) ?_)
    exact WT_ret (P := P0) rfl rfl rfl rfl (bad (by
      have : s.length = 0 := by simp at h1; omega
      simp [badLen, this]))
  have h1 : s.length ≠ 0 := by simp at h1; omega
  (repeat first | refine WT_inR (by simp [inR]; omega) ?_ | refine WT_t rfl ?_ | refine WT_f rfl ?_ | refine WT_guard (by first | (simp [inR]; done) | (simp [inR]; omega)) ?_ | refine WT_elem _ (map_get _ _ _ (by first | assumption | omega)) ?_)
  refine WT_test (fun h2 => ?c) (fun h2 => ?d)
  case d =>
    (repeat first | refine WT_inR (by simp [inR]; omega) ?_ | refine WT_t rfl ?_ | refine WT_f rfl ?_ | refine WT_guard (by first | (simp [inR]; done) | (simp [inR]; omega)) ?_ | refine WT_elem _ (map_get _ _ _ (by first | assumption | omega)) ?_)
    exact WT_ret (P := P0) rfl rfl rfl rfl (bad (by simp at h2; simp [badLen]; left; right; omega))
  have h2 : s.length ≤ 7 := by simp at h2; omega
  have hh : s.head? = some s[0] := by rw [List.head?_eq_getElem?]; simp [show 0 < s.length by omega]
  (repeat first | refine WT_inR (by simp [inR]; omega) ?_ | refine WT_t rfl ?_ | refine WT_f rfl ?_ | refine WT_guard (by first | (simp [inR]; done) | (simp [inR]; omega)) ?_ | refine WT_elem _ (map_get _ _ _ (by first | assumption | omega)) ?_)
  refine WT_test (fun h3 => ?e) (fun h3 => ?f)
  case' e =>
    have h3 : 1 < s.length := by simp at h3; omega
    (repeat first | refine WT_inR (by simp [inR]; omega) ?_ | refine WT_t rfl ?_ | refine WT_f rfl ?_ | refine WT_guard (by first | (simp [inR]; done) | (simp [inR]; omega)) ?_ | refine WT_elem _ (map_get _ _ _ (by first | assumption | omega)) ?_)
    refine WT_byte s[0] (by simp <;> omega) ?_
    (repeat first | refine WT_inR (by simp [inR]; omega) ?_ | refine WT_t rfl ?_ | refine WT_f rfl ?_ | refine WT_guard (by first | (simp [inR]; done) | (simp [inR]; omega)) ?_ | refine WT_elem _ (map_get _ _ _ (by first | assumption | omega)) ?_)
    refine WT_test (fun h4 => ?g) (fun h4 => ?i)
  case g =>
    (repeat first | refine WT_inR (by simp [inR]; omega) ?_ | refine WT_t rfl ?_ | refine WT_f rfl ?_ | refine WT_guard (by first | (simp [inR]; done) | (simp [inR]; omega)) ?_ | refine WT_elem _ (map_get _ _ _ (by first | assumption | omega)) ?_)
    exact WT_ret (P := P0) rfl rfl rfl rfl (bad (by
      have h4 : s[0] = 48 := by simp at h4; exact UInt8.toNat_inj.1 (by show _ = 48; omega)
      simp [badLen, hh, h3, h4]))
  case' i =>
    have hb : badLen s = false := by
      have h4 : s[0] ≠ 48 := by simp at h4; intro e; rw [e] at h4; exact h4 rfl
      simp [badLen, hh, h1, h4]; omega
  case' f =>
    have hb : badLen s = false := by
      simp at h3
      simp [badLen, h1]; omega
  all_goals
    (repeat first | refine WT_inR (by simp [inR]; omega) ?_ | refine WT_t rfl ?_ | refine WT_f rfl ?_ | refine WT_guard (by first | (simp [inR]; done) | (simp [inR]; omega)) ?_ | refine WT_elem _ (map_get _ _ _ (by first | assumption | omega)) ?_)
    refine WT_loop (fun k : Nat × Int => ⟨[(26, .hnd 0), (4, .d (I k.2))], [(0, .iter s k.1)], 1, [], 0⟩) (fun k => k.1 ≤ s.length ∧ (s.take k.1).all isDig = true ∧ k.2 = (valOf (s.take k.1) : Nat)) (fun k => s.length - k.1) (0, 0) (by ((refine Weak.of ?_ ?_ rfl rfl ?_ rfl rfl <;> repeat' first | exact trivial | refine ⟨⟨_, rfl, Or.inl ⟨rfl, rfl⟩⟩, ?_⟩ | refine ⟨⟨_, rfl, Or.inr (Or.inl ⟨rfl, by first | exact ⟨_, _, rfl, rfl, Or.inl rfl⟩ | exact ⟨_, _, rfl, rfl, Or.inr rfl⟩⟩)⟩, ?_⟩ | refine ⟨⟨_, rfl, Or.inr (Or.inr rfl)⟩, ?_⟩ | refine ⟨⟨_, rfl, VW_int (by assumption)⟩, ?_⟩ | refine ⟨⟨Or.inl ⟨_, rfl, ⟨rfl, rfl⟩⟩, rfl⟩, ?_⟩ | refine ⟨⟨Or.inl ⟨_, rfl, ⟨rfl, rfl, rfl⟩⟩, rfl⟩, ?_⟩ | refine ⟨⟨Or.inl ⟨_, rfl, BSim_by rfl rfl⟩, rfl⟩, ?_⟩ | refine ⟨⟨Or.inr ⟨rfl, rfl⟩, rfl⟩, ?_⟩ | refine ⟨⟨Or.inr ⟨rfl, rfl, rfl⟩, rfl⟩, ?_⟩))) ⟨by simp, by simp, by simp [valOf]⟩ ?_
    rintro ⟨k, v⟩ ⟨g1, g2, g3⟩
    simp only at g1 g2 g3
    have g4 := valOf_small s k (by omega) g2
    refine WT_test (fun h5 => ?_) (fun h5 => ?_)
    · have h5 : k < s.length := by simpa using h5
      have hbd : s[k].toNat < 256 := s[k].toNat_lt
      have hk : s[k]? = some s[k] := by simp [h5]
      have hr : (s[k].toNat < 128 ∧ (runeAt s k).1 = s[k].toNat ∧ (runeAt s k).2 = 1) ∨ (128 ≤ s[k].toNat ∧ 128 ≤ (runeAt s k).1 ∧ (runeAt s k).1 ≤ 1114111) := by
        rcases Nat.lt_or_ge s[k].toNat 128 with h | h
        · rw [runeAt_low s k s[k] hk h]; exact .inl ⟨h, rfl, rfl⟩
        · have := runeAt_high s k s[k] hk h; exact .inr ⟨h, this.1, this.2.1⟩
      (repeat first | refine WT_inR (by simp [inR]; omega) ?_ | refine WT_t rfl ?_ | refine WT_f rfl ?_ | refine WT_guard (by first | (simp [inR]; done) | (simp [inR]; omega)) ?_ | refine WT_elem _ (map_get _ _ _ (by first | assumption | omega)) ?_)
      refine WT_test (fun h6 => ?_) (fun h6 => ?_)
      · have h6 : ¬ (runeAt s k).1 < 48 := by simp at h6; omega
        (repeat first | refine WT_inR (by simp [inR]; omega) ?_ | refine WT_t rfl ?_ | refine WT_f rfl ?_ | refine WT_guard (by first | (simp [inR]; done) | (simp [inR]; omega)) ?_ | refine WT_elem _ (map_get _ _ _ (by first | assumption | omega)) ?_)
        refine WT_test (fun h7 => ?_) (fun h7 => ?_)
        · refine WT_leave ?_
          have h7 : 57 < (runeAt s k).1 := by simp at h7; omega
          refine WT_ret rfl rfl rfl rfl (no ?_)
          exact numb_dig k h5 (by simp [isDig]; omega)
        · have h7 : (runeAt s k).1 ≤ 57 := by simp at h7; omega
          (repeat first | refine WT_inR (by simp [inR]; omega) ?_ | refine WT_t rfl ?_ | refine WT_f rfl ?_ | refine WT_guard (by first | (simp [inR]; done) | (simp [inR]; omega)) ?_ | refine WT_elem _ (map_get _ _ _ (by first | assumption | omega)) ?_)
          refine WT_again (k + (runeAt s k).2, 10 * v + ((runeAt s k).1 - 48)) ?_ ?_ (by ((refine Weak.of ?_ ?_ rfl rfl ?_ rfl rfl <;> repeat' first | exact trivial | refine ⟨⟨_, rfl, Or.inl ⟨rfl, rfl⟩⟩, ?_⟩ | refine ⟨⟨_, rfl, Or.inr (Or.inl ⟨rfl, by first | exact ⟨_, _, rfl, rfl, Or.inl rfl⟩ | exact ⟨_, _, rfl, rfl, Or.inr rfl⟩⟩)⟩, ?_⟩ | refine ⟨⟨_, rfl, Or.inr (Or.inr rfl)⟩, ?_⟩ | refine ⟨⟨_, rfl, VW_int (by assumption)⟩, ?_⟩ | refine ⟨⟨Or.inl ⟨_, rfl, ⟨rfl, rfl⟩⟩, rfl⟩, ?_⟩ | refine ⟨⟨Or.inl ⟨_, rfl, ⟨rfl, rfl, rfl⟩⟩, rfl⟩, ?_⟩ | refine ⟨⟨Or.inl ⟨_, rfl, BSim_by rfl rfl⟩, rfl⟩, ?_⟩ | refine ⟨⟨Or.inr ⟨rfl, rfl⟩, rfl⟩, ?_⟩ | refine ⟨⟨Or.inr ⟨rfl, rfl, rfl⟩, rfl⟩, ?_⟩)))
          · simp only
            rw [show (runeAt s k).2 = 1 by omega, show (runeAt s k).1 = s[k].toNat by omega]
            refine ⟨by omega, ?_, ?_⟩
            · rw [all_take _ _ _ h5, g2]; simp [isDig]; omega
            · rw [valOf_take s k h5]; omega
          · simp only; omega
      · (repeat first | refine WT_inR (by simp [inR]; omega) ?_ | refine WT_t rfl ?_ | refine WT_f rfl ?_ | refine WT_guard (by first | (simp [inR]; done) | (simp [inR]; omega)) ?_ | refine WT_elem _ (map_get _ _ _ (by first | assumption | omega)) ?_)
        refine WT_leave ?_
        have h6 : (runeAt s k).1 < 48 := by simp at h6; omega
        refine WT_ret rfl rfl rfl rfl (no ?_)
        exact numb_dig k h5 (by simp [isDig]; omega)
    · (repeat first | refine WT_inR (by simp [inR]; omega) ?_ | refine WT_t rfl ?_ | refine WT_f rfl ?_ | refine WT_guard (by first | (simp [inR]; done) | (simp [inR]; omega)) ?_ | refine WT_elem _ (map_get _ _ _ (by first | assumption | omega)) ?_)
      refine WT_break ?_
      have h5 : s.length ≤ k := by simpa using h5
      rw [List.take_of_length_le h5] at g2 g3
      refine WT_ret rfl rfl rfl rfl ?_
      rw [numb_ok hb g2, g3]; rfl
end Uw.Tryd

/- The words of a text. -/
set_option linter.unusedVariables false
set_option linter.unusedSimpArgs false
namespace Uw.Tryd
open Go Uw Go.Proofs Go.RowKit

def isBlank (b : UInt8) : Bool := decide (b.toNat = 32) || decide (b.toNat = 9) || decide (b.toNat = 10)
def wstep (st : List (List UInt8) × List UInt8) (b : UInt8) : List (List UInt8) × List UInt8 :=
  if isBlank b then (if st.2 = [] then st.1 else st.1 ++ [st.2], []) else (st.1, st.2 ++ [b])
def wst (s : List UInt8) : List (List UInt8) × List UInt8 := s.foldl wstep ([], [])
def wend (st : List (List UInt8) × List UInt8) : List (List UInt8) := if st.2 = [] then st.1 else st.1 ++ [st.2]
/-- The words of a text, that stand between blanks. -/
def wordsOf (s : List UInt8) : List (List UInt8) := wend (wst s)

theorem wst_take (s : List UInt8) (k : Nat) (h : k < s.length) : wst (s.take (k + 1)) = wstep (wst (s.take k)) s[k] := by
  rw [take_one s k h, wst, wst, List.foldl_append]; rfl

def strL (s : List UInt8) : List Dat := [.str s]

theorem wst_len (s : List UInt8) : ∀ k, k ≤ s.length → (wst (s.take k)).1.length + (wst (s.take k)).2.length ≤ k ∧ (wst (s.take k)).1.length ≤ k ∧ (wst (s.take k)).2.length ≤ k
  | 0, _ => by simp [wst]
  | k + 1, h => by
    have := wst_len s k (by omega)
    rw [wst_take s k (by omega), wstep]
    by_cases hb : isBlank s[k] = true
    · rw [if_pos hb]
      by_cases hc : (wst (s.take k)).2 = []
      · simp [hc]; omega
      · simp [hc]
        have := List.length_pos_iff.2 hc
        omega
    · rw [if_neg hb]; simp; omega

/-- The word that is begun is the end of what was read. -/
theorem wst_suffix (s : List UInt8) : ∀ k, k ≤ s.length → (wst (s.take k)).2 = (s.take k).drop (k - (wst (s.take k)).2.length)
  | 0, _ => by simp [wst]
  | k + 1, h => by
    have ih := wst_suffix s k (by omega)
    have hl := (wst_len s k (by omega)).2.2
    rw [wst_take s k (by omega), wstep]
    by_cases hb : isBlank s[k] = true
    · rw [if_pos hb]; simp
    · rw [if_neg hb]
      simp only [List.length_append, List.length_cons, List.length_nil]
      rw [take_one s k (by omega), List.drop_append_of_le_length (by simp; omega)]
      rw [show k + 1 - ((wst (s.take k)).2.length + (0 + 1)) = k - (wst (s.take k)).2.length by omega, ← ih]

theorem s_ref29_words (s : List UInt8) (hs : s.length < 1000000) : Ret P0 n_ref29_words [.str s] (strsD (wordsOf s)) := by
  refine Ret_by is_ref29_words rfl ?_
  refine WT_loop (fun z : Nat × Nat × List (List Dat) × List UInt8 => ⟨[(5, .d (I z.1)), (4, .d (.str z.2.2.2)), (3, .ref 0 0 0 z.2.1), (0, .d (.str s))], [(0, .arr 1 z.2.2.1)], 1, [], 0⟩)
    (fun z => z.1 ≤ s.length ∧ z.2.1 = z.2.2.1.length ∧ z.2.2.1 = (wst (s.take z.1)).1.map strL ∧ z.2.2.2 = (wst (s.take z.1)).2) (fun z => s.length - z.1) (0, 0, [], []) (by ((refine Weak.of ?_ ?_ rfl rfl ?_ rfl rfl <;> repeat' first | exact trivial | refine ⟨⟨_, rfl, Or.inl ⟨rfl, rfl⟩⟩, ?_⟩ | refine ⟨⟨_, rfl, Or.inr (Or.inl ⟨rfl, by first | exact ⟨_, _, rfl, rfl, Or.inl rfl⟩ | exact ⟨_, _, rfl, rfl, Or.inr rfl⟩⟩)⟩, ?_⟩ | refine ⟨⟨_, rfl, Or.inr (Or.inr rfl)⟩, ?_⟩ | refine ⟨⟨_, rfl, VW_int (by assumption)⟩, ?_⟩ | refine ⟨⟨Or.inl ⟨_, rfl, ⟨rfl, rfl⟩⟩, rfl⟩, ?_⟩ | refine ⟨⟨Or.inl ⟨_, rfl, ⟨rfl, rfl, rfl⟩⟩, rfl⟩, ?_⟩ | refine ⟨⟨Or.inl ⟨_, rfl, BSim_by rfl rfl⟩, rfl⟩, ?_⟩ | refine ⟨⟨Or.inr ⟨rfl, rfl⟩, rfl⟩, ?_⟩ | refine ⟨⟨Or.inr ⟨rfl, rfl, rfl⟩, rfl⟩, ?_⟩))) (by simp [wst]) ?_
  rintro ⟨k, n, xs, cur⟩ ⟨h1, h2, h3, h4⟩
  simp only at h1 h2 h3 h4
  obtain ⟨hl0, hl1, hl2⟩ := wst_len s k h1
  have hn : n ≤ k := by rw [h2, h3]; simpa using hl1
  have hcl : cur.length ≤ k := by rw [h4]; exact hl2
  have hmu : ∀ z : Nat × List (List Dat) × List UInt8, k < s.length → s.length - (k + 1, z).1 < s.length - k := by intro z h; simp; omega
  refine WT_test (fun h5 => ?_) (fun h5 => ?_)
  · have h5 : k < s.length := by simpa using h5
    have hw := wst_take s k h5
    rw [wstep, ← h4] at hw
    have inv : ∀ (n' : Nat) (xs' : List (List Dat)) (cur' : List UInt8) (st : List (List UInt8) × List UInt8), wst (s.take (k + 1)) = st → n' = xs'.length → xs' = st.1.map strL → cur' = st.2 → ((k + 1, n', xs', cur').1 ≤ s.length ∧ n' = xs'.length ∧ xs' = (wst (s.take (k + 1))).1.map strL ∧ cur' = (wst (s.take (k + 1))).2) := by
      intro n' xs' cur' st e e1 e2 e3
      rw [e]; exact ⟨by simp; omega, e1, e2, e3⟩
    have blank : isBlank s[k] = true → (cur = [] → ((k + 1, n, xs, ([] : List UInt8)).1 ≤ s.length ∧ n = xs.length ∧ xs = (wst (s.take (k + 1))).1.map strL ∧ ([] : List UInt8) = (wst (s.take (k + 1))).2)) ∧ (cur ≠ [] → ((k + 1, n + 1, xs ++ [strL cur], ([] : List UInt8)).1 ≤ s.length ∧ n + 1 = (xs ++ [strL cur]).length ∧ (xs ++ [strL cur]) = (wst (s.take (k + 1))).1.map strL ∧ ([] : List UInt8) = (wst (s.take (k + 1))).2)) := by
      intro hb
      rw [if_pos hb] at hw
      refine ⟨fun hc => inv _ _ _ _ hw h2 (by simp [hc, h3]) rfl, fun hc => inv _ _ _ _ hw (by simp [h2]) (by simp [hc, h3]) rfl⟩
    have plainB : isBlank s[k] = false → ((k + 1, n, xs, cur ++ [s[k]]).1 ≤ s.length ∧ n = xs.length ∧ xs = (wst (s.take (k + 1))).1.map strL ∧ cur ++ [s[k]] = (wst (s.take (k + 1))).2) := by
      intro hb
      rw [if_neg (by simp [hb])] at hw
      exact inv _ _ _ _ hw h2 h3 rfl
    have hsl : (s.take (k + 1)).drop k = [s[k]] := by rw [take_one s k h5, List.drop_append_of_le_length (by simp; omega)]; simp
    have hby : s[k]? = some s[k] := by simp [h5]
    (repeat first | refine WT_inR (by simp [inR]; omega) ?_ | refine WT_t rfl ?_ | refine WT_f rfl ?_ | refine WT_guard (by first | (simp [inR]; done) | (simp [inR]; omega)) ?_ | refine WT_elem _ (map_get _ _ _ (by first | assumption | omega)) ?_)
    refine WT_byte s[k] hby ?_
    refine WT_test (fun h6 => ?zA) (fun h6 => ?zB)
    case' zB => have hb : isBlank s[k] = true := by simp at h6; simp [isBlank]; omega
    case' zA =>
      (repeat first | refine WT_inR (by simp [inR]; omega) ?_ | refine WT_t rfl ?_ | refine WT_f rfl ?_ | refine WT_guard (by first | (simp [inR]; done) | (simp [inR]; omega)) ?_ | refine WT_elem _ (map_get _ _ _ (by first | assumption | omega)) ?_)
      refine WT_byte s[k] hby ?_
      (repeat first | refine WT_inR (by simp [inR]; omega) ?_ | refine WT_t rfl ?_ | refine WT_f rfl ?_ | refine WT_guard (by first | (simp [inR]; done) | (simp [inR]; omega)) ?_ | refine WT_elem _ (map_get _ _ _ (by first | assumption | omega)) ?_)
      refine WT_test (fun h7 => ?zD) (fun h7 => ?zC)
    case' zC => have hb : isBlank s[k] = true := by simp at h7; simp [isBlank]; omega
    case' zD =>
      (repeat first | refine WT_inR (by simp [inR]; omega) ?_ | refine WT_t rfl ?_ | refine WT_f rfl ?_ | refine WT_guard (by first | (simp [inR]; done) | (simp [inR]; omega)) ?_ | refine WT_elem _ (map_get _ _ _ (by first | assumption | omega)) ?_)
      refine WT_byte s[k] hby ?_
      (repeat first | refine WT_inR (by simp [inR]; omega) ?_ | refine WT_t rfl ?_ | refine WT_f rfl ?_ | refine WT_guard (by first | (simp [inR]; done) | (simp [inR]; omega)) ?_ | refine WT_elem _ (map_get _ _ _ (by first | assumption | omega)) ?_)
      refine WT_test (fun h8 => ?zE) (fun h8 => ?zF)
    case' zE => have hb : isBlank s[k] = true := by simp at h8; simp [isBlank]; omega
    case zF =>
      have hb : isBlank s[k] = false := by simp at h6 h7 h8; simp [isBlank]; omega
      (repeat first | refine WT_inR (by simp [inR]; omega) ?_ | refine WT_t rfl ?_ | refine WT_f rfl ?_ | refine WT_guard (by first | (simp [inR]; done) | (simp [inR]; omega)) ?_ | refine WT_elem _ (map_get _ _ _ (by first | assumption | omega)) ?_)
      refine WT_again (k + 1, n, xs, cur ++ (s.take (k + 1)).drop k) ?_ (hmu _ h5) (by ((refine Weak.of ?_ ?_ rfl rfl ?_ rfl rfl <;> repeat' first | exact trivial | refine ⟨⟨_, rfl, Or.inl ⟨rfl, rfl⟩⟩, ?_⟩ | refine ⟨⟨_, rfl, Or.inr (Or.inl ⟨rfl, by first | exact ⟨_, _, rfl, rfl, Or.inl rfl⟩ | exact ⟨_, _, rfl, rfl, Or.inr rfl⟩⟩)⟩, ?_⟩ | refine ⟨⟨_, rfl, Or.inr (Or.inr rfl)⟩, ?_⟩ | refine ⟨⟨_, rfl, VW_int (by assumption)⟩, ?_⟩ | refine ⟨⟨Or.inl ⟨_, rfl, ⟨rfl, rfl⟩⟩, rfl⟩, ?_⟩ | refine ⟨⟨Or.inl ⟨_, rfl, ⟨rfl, rfl, rfl⟩⟩, rfl⟩, ?_⟩ | refine ⟨⟨Or.inl ⟨_, rfl, BSim_by rfl rfl⟩, rfl⟩, ?_⟩ | refine ⟨⟨Or.inr ⟨rfl, rfl⟩, rfl⟩, ?_⟩ | refine ⟨⟨Or.inr ⟨rfl, rfl, rfl⟩, rfl⟩, ?_⟩)))
      rw [hsl]; exact plainB hb
    all_goals
      (repeat first | refine WT_inR (by simp [inR]; omega) ?_ | refine WT_t rfl ?_ | refine WT_f rfl ?_ | refine WT_guard (by first | (simp [inR]; done) | (simp [inR]; omega)) ?_ | refine WT_elem _ (map_get _ _ _ (by first | assumption | omega)) ?_)
      refine WT_test (fun h9 => ?_) (fun h9 => ?_)
      · have h9 : cur ≠ [] := by simpa using h9
        (repeat first | refine WT_inR (by simp [inR]; omega) ?_ | refine WT_t rfl ?_ | refine WT_f rfl ?_ | refine WT_guard (by first | (simp [inR]; done) | (simp [inR]; omega)) ?_ | refine WT_elem _ (map_get _ _ _ (by first | assumption | omega)) ?_)
        exact WT_again (k + 1, n + 1, xs ++ [strL cur], []) ((blank hb).2 h9) (hmu _ h5) (by ((refine Weak.of ?_ ?_ rfl rfl ?_ rfl rfl <;> repeat' first | exact trivial | refine ⟨⟨_, rfl, Or.inl ⟨rfl, rfl⟩⟩, ?_⟩ | refine ⟨⟨_, rfl, Or.inr (Or.inl ⟨rfl, by first | exact ⟨_, _, rfl, rfl, Or.inl rfl⟩ | exact ⟨_, _, rfl, rfl, Or.inr rfl⟩⟩)⟩, ?_⟩ | refine ⟨⟨_, rfl, Or.inr (Or.inr rfl)⟩, ?_⟩ | refine ⟨⟨_, rfl, VW_int (by assumption)⟩, ?_⟩ | refine ⟨⟨Or.inl ⟨_, rfl, ⟨rfl, rfl⟩⟩, rfl⟩, ?_⟩ | refine ⟨⟨Or.inl ⟨_, rfl, ⟨rfl, rfl, rfl⟩⟩, rfl⟩, ?_⟩ | refine ⟨⟨Or.inl ⟨_, rfl, BSim_by rfl rfl⟩, rfl⟩, ?_⟩ | refine ⟨⟨Or.inr ⟨rfl, rfl⟩, rfl⟩, ?_⟩ | refine ⟨⟨Or.inr ⟨rfl, rfl, rfl⟩, rfl⟩, ?_⟩)))
      · have h9 : cur = [] := by simpa using h9
        (repeat first | refine WT_inR (by simp [inR]; omega) ?_ | refine WT_t rfl ?_ | refine WT_f rfl ?_ | refine WT_guard (by first | (simp [inR]; done) | (simp [inR]; omega)) ?_ | refine WT_elem _ (map_get _ _ _ (by first | assumption | omega)) ?_)
        exact WT_again (k + 1, n, xs, []) ((blank hb).1 h9) (hmu _ h5) (by ((refine Weak.of ?_ ?_ rfl rfl ?_ rfl rfl <;> repeat' first | exact trivial | refine ⟨⟨_, rfl, Or.inl ⟨rfl, rfl⟩⟩, ?_⟩ | refine ⟨⟨_, rfl, Or.inr (Or.inl ⟨rfl, by first | exact ⟨_, _, rfl, rfl, Or.inl rfl⟩ | exact ⟨_, _, rfl, rfl, Or.inr rfl⟩⟩)⟩, ?_⟩ | refine ⟨⟨_, rfl, Or.inr (Or.inr rfl)⟩, ?_⟩ | refine ⟨⟨_, rfl, VW_int (by assumption)⟩, ?_⟩ | refine ⟨⟨Or.inl ⟨_, rfl, ⟨rfl, rfl⟩⟩, rfl⟩, ?_⟩ | refine ⟨⟨Or.inl ⟨_, rfl, ⟨rfl, rfl, rfl⟩⟩, rfl⟩, ?_⟩ | refine ⟨⟨Or.inl ⟨_, rfl, BSim_by rfl rfl⟩, rfl⟩, ?_⟩ | refine ⟨⟨Or.inr ⟨rfl, rfl⟩, rfl⟩, ?_⟩ | refine ⟨⟨Or.inr ⟨rfl, rfl, rfl⟩, rfl⟩, ?_⟩)))
  · refine WT_break ?_
    have h5 : s.length ≤ k := by simpa using h5
    rw [List.take_of_length_le h5] at h3 h4
    have he : wordsOf s = if cur = [] then (wst s).1 else (wst s).1 ++ [cur] := by rw [wordsOf, wend, ← h4]
    refine WT_test (fun h9 => ?_) (fun h9 => ?_)
    · have h9 : cur ≠ [] := by simpa using h9
      (repeat first | refine WT_inR (by simp [inR]; omega) ?_ | refine WT_t rfl ?_ | refine WT_f rfl ?_ | refine WT_guard (by first | (simp [inR]; done) | (simp [inR]; omega)) ?_ | refine WT_elem _ (map_get _ _ _ (by first | assumption | omega)) ?_)
      refine WT_ret rfl rfl rfl rfl ?_
      rw [he, if_neg h9]
      show Dat.slice 1 (((xs ++ [strL cur]).drop 0).take (n + 1)) false = _
      rw [row_eq (l := (wst s).1 ++ [cur]) (g := strL) (by simp [h2]) (by simp [h3])]; rfl
    · have h9 : cur = [] := by simpa using h9
      refine WT_ret rfl rfl rfl rfl ?_
      rw [he, if_pos h9]
      show Dat.slice 1 ((xs.drop 0).take n) false = _
      rw [row_eq h2 h3]; rfl

theorem wst_run (s : List UInt8) (k : Nat) : ∀ w, k + w ≤ s.length → (∀ j, j < w → ∃ c, s[k + j]? = some c ∧ isBlank c = false) → wst (s.take (k + w)) = ((wst (s.take k)).1, (wst (s.take k)).2 ++ (s.take (k + w)).drop k)
  | 0, h, _ => by simp
  | w + 1, h, hb => by
    have ih := wst_run s k w (by omega) (fun j hj => hb j (by omega))
    obtain ⟨c, h1, h2⟩ := hb w (by omega)
    have h3 : s[k + w] = c := by rw [List.getElem?_eq_getElem (by omega)] at h1; simpa using h1
    rw [← Nat.add_assoc, wst_take s (k + w) (by omega), wstep, h3, if_neg (by simp [h2]), ih]
    simp only [Prod.mk.injEq, true_and]
    rw [take_one s (k + w) (by omega), List.drop_append_of_le_length (by simp; omega), List.append_assoc, h3]

theorem s_script_split (s : List UInt8) (hs : s.length < 1000000) : Ret P0 n_script_split [.str s] (strsD (wordsOf s)) := by
  refine Ret_by is_script_split rfl ?_
  refine WT_loop (fun z : Nat × Nat × List (List Dat) × Int => ⟨[(9, .hnd 0), (4, .d (I z.2.2.2)), (3, .ref 1 0 0 z.2.1), (0, .d (.str s))], [(1, .arr 1 z.2.2.1), (0, .iter s z.1)], 2, [], 0⟩)
    (fun z => z.1 ≤ s.length ∧ z.2.1 = z.2.2.1.length ∧ z.2.2.1 = (wst (s.take z.1)).1.map strL ∧ z.2.2.2 = if (wst (s.take z.1)).2 = [] then (-1 : Int) else ((z.1 - (wst (s.take z.1)).2.length : Nat) : Int)) (fun z => s.length - z.1) (0, 0, [], -1) (by ((refine Weak.of ?_ ?_ rfl rfl ?_ rfl rfl <;> repeat' first | exact trivial | refine ⟨⟨_, rfl, Or.inl ⟨rfl, rfl⟩⟩, ?_⟩ | refine ⟨⟨_, rfl, Or.inr (Or.inl ⟨rfl, by first | exact ⟨_, _, rfl, rfl, Or.inl rfl⟩ | exact ⟨_, _, rfl, rfl, Or.inr rfl⟩⟩)⟩, ?_⟩ | refine ⟨⟨_, rfl, Or.inr (Or.inr rfl)⟩, ?_⟩ | refine ⟨⟨_, rfl, VW_int (by assumption)⟩, ?_⟩ | refine ⟨⟨Or.inl ⟨_, rfl, ⟨rfl, rfl⟩⟩, rfl⟩, ?_⟩ | refine ⟨⟨Or.inl ⟨_, rfl, ⟨rfl, rfl, rfl⟩⟩, rfl⟩, ?_⟩ | refine ⟨⟨Or.inl ⟨_, rfl, BSim_by rfl rfl⟩, rfl⟩, ?_⟩ | refine ⟨⟨Or.inr ⟨rfl, rfl⟩, rfl⟩, ?_⟩ | refine ⟨⟨Or.inr ⟨rfl, rfl, rfl⟩, rfl⟩, ?_⟩))) (by simp [wst]) ?_
  rintro ⟨k, n, xs, st⟩ ⟨h1, h2, h3, h4⟩
  simp only at h1 h2 h3 h4
  obtain ⟨hl0, hl1, hl2⟩ := wst_len s k h1
  have hn : n ≤ k := by rw [h2, h3]; simpa using hl1
  have hsuf := wst_suffix s k h1
  refine WT_test (fun h5 => ?_) (fun h5 => ?_)
  · have h5 : k < s.length := by simpa using h5
    have hk : s[k]? = some s[k] := by simp [h5]
    have hw := wst_take s k h5
    rw [wstep] at hw
    have hbd : s[k].toNat < 256 := s[k].toNat_lt
    have hr : 1 ≤ (runeAt s k).2 ∧ k + (runeAt s k).2 ≤ s.length ∧ ((runeAt s k).1 = 9 ∨ (runeAt s k).1 = 10 ∨ (runeAt s k).1 = 32 → (runeAt s k).2 = 1 ∧ isBlank s[k] = true) ∧ (¬ ((runeAt s k).1 = 9 ∨ (runeAt s k).1 = 10 ∨ (runeAt s k).1 = 32) → wst (s.take (k + (runeAt s k).2)) = ((wst (s.take k)).1, (wst (s.take k)).2 ++ (s.take (k + (runeAt s k).2)).drop k)) := by
      rcases Nat.lt_or_ge s[k].toNat 128 with h | h
      · rw [runeAt_low s k s[k] hk h]
        refine ⟨by omega, by simp only; omega, fun h => ⟨rfl, by simp only at h; simp [isBlank]; omega⟩, fun h => wst_run s k 1 (by omega) ?_⟩
        intro j hj
        obtain rfl : j = 0 := by omega
        exact ⟨s[k], hk, by simp only at h; simp [isBlank]; omega⟩
      · obtain ⟨a1, a2, a3, a4, a5⟩ := runeAt_high s k s[k] hk h
        refine ⟨a3, a4, fun h => by omega, fun _ => wst_run s k _ a4 ?_⟩
        intro j hj
        obtain ⟨c, c1, c2⟩ := a5 j hj
        exact ⟨c, c1, by simp [isBlank]; omega⟩
    obtain ⟨r1, r2, r3, r4⟩ := hr
    have hmu : ∀ z : Nat × List (List Dat) × Int, s.length - (k + (runeAt s k).2, z).1 < s.length - k := by intro z; simp only; omega
    have inv : ∀ (n' : Nat) (xs' : List (List Dat)) (st' : Int) (q : List (List UInt8) × List UInt8), wst (s.take (k + (runeAt s k).2)) = q → n' = xs'.length → xs' = q.1.map strL → (st' = if q.2 = [] then (-1 : Int) else ((k + (runeAt s k).2 - q.2.length : Nat) : Int)) →
        ((k + (runeAt s k).2, n', xs', st').1 ≤ s.length ∧ n' = xs'.length ∧ xs' = (wst (s.take (k + (runeAt s k).2, n', xs', st').1)).1.map strL ∧ st' = if (wst (s.take (k + (runeAt s k).2, n', xs', st').1)).2 = [] then (-1 : Int) else (((k + (runeAt s k).2, n', xs', st').1 - (wst (s.take (k + (runeAt s k).2, n', xs', st').1)).2.length : Nat) : Int)) := by
      intro n' xs' st' q e e1 e2 e3
      simp only [e]; exact ⟨r2, e1, e2, e3⟩
    -- behind a blank
    have blank : (runeAt s k).1 = 9 ∨ (runeAt s k).1 = 10 ∨ (runeAt s k).1 = 32 → wst (s.take (k + (runeAt s k).2)) = (if (wst (s.take k)).2 = [] then (wst (s.take k)).1 else (wst (s.take k)).1 ++ [(wst (s.take k)).2], []) := by
      intro h
      obtain ⟨b1, b2⟩ := r3 h
      rw [b1, hw, if_pos b2]
    have hcur : ∀ e : 0 ≤ st, (s.take k).drop st.toNat = (wst (s.take k)).2 ∧ (wst (s.take k)).2 ≠ [] ∧ st ≤ k := by
      intro e
      by_cases hc : (wst (s.take k)).2 = []
      · rw [if_pos hc] at h4; omega
      · rw [if_neg hc] at h4
        refine ⟨?_, hc, by omega⟩
        rw [h4, Int.toNat_natCast, ← hsuf]
    have hneg : ¬ 0 ≤ st → (wst (s.take k)).2 = [] ∧ st = -1 := by
      intro e
      by_cases hc : (wst (s.take k)).2 = []
      · rw [if_pos hc] at h4; exact ⟨hc, h4⟩
      · rw [if_neg hc] at h4; omega
    (repeat first | refine WT_inR (by simp [inR]; omega) ?_ | refine WT_t rfl ?_ | refine WT_f rfl ?_ | refine WT_guard (by first | (simp [inR]; done) | (simp [inR]; omega)) ?_ | refine WT_elem _ (map_get _ _ _ (by first | assumption | omega)) ?_)
    refine WT_test (fun h6 => ?zA) (fun h6 => ?zB)
    case' zB => have hb : (runeAt s k).1 = 9 ∨ (runeAt s k).1 = 10 ∨ (runeAt s k).1 = 32 := by simp at h6; omega
    case' zA =>
      (repeat first | refine WT_inR (by simp [inR]; omega) ?_ | refine WT_t rfl ?_ | refine WT_f rfl ?_ | refine WT_guard (by first | (simp [inR]; done) | (simp [inR]; omega)) ?_ | refine WT_elem _ (map_get _ _ _ (by first | assumption | omega)) ?_)
      refine WT_test (fun h7 => ?zD) (fun h7 => ?zC)
    case' zC => have hb : (runeAt s k).1 = 9 ∨ (runeAt s k).1 = 10 ∨ (runeAt s k).1 = 32 := by simp at h7; omega
    case' zD =>
      (repeat first | refine WT_inR (by simp [inR]; omega) ?_ | refine WT_t rfl ?_ | refine WT_f rfl ?_ | refine WT_guard (by first | (simp [inR]; done) | (simp [inR]; omega)) ?_ | refine WT_elem _ (map_get _ _ _ (by first | assumption | omega)) ?_)
      refine WT_test (fun h8 => ?zE) (fun h8 => ?zF)
    case' zE => have hb : (runeAt s k).1 = 9 ∨ (runeAt s k).1 = 10 ∨ (runeAt s k).1 = 32 := by simp at h8; omega
    case zF =>
      have hb : ¬ ((runeAt s k).1 = 9 ∨ (runeAt s k).1 = 10 ∨ (runeAt s k).1 = 32) := by simp at h6 h7 h8; omega
      have hq := r4 hb
      have hlen : ((s.take (k + (runeAt s k).2)).drop k).length = (runeAt s k).2 := by simp; omega
      (repeat first | refine WT_inR (by simp [inR]; omega) ?_ | refine WT_t rfl ?_ | refine WT_f rfl ?_ | refine WT_guard (by first | (simp [inR]; done) | (simp [inR]; omega)) ?_ | refine WT_elem _ (map_get _ _ _ (by first | assumption | omega)) ?_)
      refine WT_t (by simp; omega) ?_
      (repeat first | refine WT_inR (by simp [inR]; omega) ?_ | refine WT_t rfl ?_ | refine WT_f rfl ?_ | refine WT_guard (by first | (simp [inR]; done) | (simp [inR]; omega)) ?_ | refine WT_elem _ (map_get _ _ _ (by first | assumption | omega)) ?_)
      refine WT_test (fun h9 => ?_) (fun h9 => ?_)
      · have c0 := hneg (by simp at h9; omega)
        have c1 := c0.1
        have c2 := c0.2
        (repeat first | refine WT_inR (by simp [inR]; omega) ?_ | refine WT_t rfl ?_ | refine WT_f rfl ?_ | refine WT_guard (by first | (simp [inR]; done) | (simp [inR]; omega)) ?_ | refine WT_elem _ (map_get _ _ _ (by first | assumption | omega)) ?_)
        refine WT_again (k + (runeAt s k).2, n, xs, (k : Int)) (inv _ _ _ _ hq h2 h3 ?_) (hmu _) (by ((refine Weak.of ?_ ?_ rfl rfl ?_ rfl rfl <;> repeat' first | exact trivial | refine ⟨⟨_, rfl, Or.inl ⟨rfl, rfl⟩⟩, ?_⟩ | refine ⟨⟨_, rfl, Or.inr (Or.inl ⟨rfl, by first | exact ⟨_, _, rfl, rfl, Or.inl rfl⟩ | exact ⟨_, _, rfl, rfl, Or.inr rfl⟩⟩)⟩, ?_⟩ | refine ⟨⟨_, rfl, Or.inr (Or.inr rfl)⟩, ?_⟩ | refine ⟨⟨_, rfl, VW_int (by assumption)⟩, ?_⟩ | refine ⟨⟨Or.inl ⟨_, rfl, ⟨rfl, rfl⟩⟩, rfl⟩, ?_⟩ | refine ⟨⟨Or.inl ⟨_, rfl, ⟨rfl, rfl, rfl⟩⟩, rfl⟩, ?_⟩ | refine ⟨⟨Or.inl ⟨_, rfl, BSim_by rfl rfl⟩, rfl⟩, ?_⟩ | refine ⟨⟨Or.inr ⟨rfl, rfl⟩, rfl⟩, ?_⟩ | refine ⟨⟨Or.inr ⟨rfl, rfl, rfl⟩, rfl⟩, ?_⟩)))
        simp only [c1, List.nil_append, hlen]
        rw [if_neg (by intro e; rw [e] at hlen; simp at hlen; omega)]; omega
      · have c0 := hcur (by simp at h9; omega)
        have c1 := c0.1
        have c2 := c0.2.1
        have c3 := c0.2.2
        (repeat first | refine WT_inR (by simp [inR]; omega) ?_ | refine WT_t rfl ?_ | refine WT_f rfl ?_ | refine WT_guard (by first | (simp [inR]; done) | (simp [inR]; omega)) ?_ | refine WT_elem _ (map_get _ _ _ (by first | assumption | omega)) ?_)
        refine WT_again (k + (runeAt s k).2, n, xs, st) (inv _ _ _ _ hq h2 h3 ?_) (hmu _) (by ((refine Weak.of ?_ ?_ rfl rfl ?_ rfl rfl <;> repeat' first | exact trivial | refine ⟨⟨_, rfl, Or.inl ⟨rfl, rfl⟩⟩, ?_⟩ | refine ⟨⟨_, rfl, Or.inr (Or.inl ⟨rfl, by first | exact ⟨_, _, rfl, rfl, Or.inl rfl⟩ | exact ⟨_, _, rfl, rfl, Or.inr rfl⟩⟩)⟩, ?_⟩ | refine ⟨⟨_, rfl, Or.inr (Or.inr rfl)⟩, ?_⟩ | refine ⟨⟨_, rfl, VW_int (by assumption)⟩, ?_⟩ | refine ⟨⟨Or.inl ⟨_, rfl, ⟨rfl, rfl⟩⟩, rfl⟩, ?_⟩ | refine ⟨⟨Or.inl ⟨_, rfl, ⟨rfl, rfl, rfl⟩⟩, rfl⟩, ?_⟩ | refine ⟨⟨Or.inl ⟨_, rfl, BSim_by rfl rfl⟩, rfl⟩, ?_⟩ | refine ⟨⟨Or.inr ⟨rfl, rfl⟩, rfl⟩, ?_⟩ | refine ⟨⟨Or.inr ⟨rfl, rfl, rfl⟩, rfl⟩, ?_⟩)))
        rw [if_neg c2] at h4
        simp only [List.length_append, hlen]
        rw [if_neg (by simp [c2])]; omega
    all_goals
      have hq := blank hb
      (repeat first | refine WT_inR (by simp [inR]; omega) ?_ | refine WT_t rfl ?_ | refine WT_f rfl ?_ | refine WT_guard (by first | (simp [inR]; done) | (simp [inR]; omega)) ?_ | refine WT_elem _ (map_get _ _ _ (by first | assumption | omega)) ?_)
      refine WT_test (fun h9 => ?_) (fun h9 => ?_)
      · have h9 : 0 ≤ st := by simpa using h9
        have c1 := (hcur h9).1
        have c2 := (hcur h9).2.1
        have c3 := (hcur h9).2.2
        rw [if_neg c2] at hq
        (repeat first | refine WT_inR (by simp [inR]; omega) ?_ | refine WT_t rfl ?_ | refine WT_f rfl ?_ | refine WT_guard (by first | (simp [inR]; done) | (simp [inR]; omega)) ?_ | refine WT_elem _ (map_get _ _ _ (by first | assumption | omega)) ?_)
        try (refine WT_f (by simp at h8; simp; omega) ?_; (repeat first | refine WT_inR (by simp [inR]; omega) ?_ | refine WT_t rfl ?_ | refine WT_f rfl ?_ | refine WT_guard (by first | (simp [inR]; done) | (simp [inR]; omega)) ?_ | refine WT_elem _ (map_get _ _ _ (by first | assumption | omega)) ?_))
        refine WT_again (k + (runeAt s k).2, n + 1, xs ++ [strL ((s.take k).drop st.toNat)], -1) (inv _ _ _ _ hq (by simp [h2]) (by rw [c1, h3]; simp) (by simp)) (hmu _) (by ((refine Weak.of ?_ ?_ rfl rfl ?_ rfl rfl <;> repeat' first | exact trivial | refine ⟨⟨_, rfl, Or.inl ⟨rfl, rfl⟩⟩, ?_⟩ | refine ⟨⟨_, rfl, Or.inr (Or.inl ⟨rfl, by first | exact ⟨_, _, rfl, rfl, Or.inl rfl⟩ | exact ⟨_, _, rfl, rfl, Or.inr rfl⟩⟩)⟩, ?_⟩ | refine ⟨⟨_, rfl, Or.inr (Or.inr rfl)⟩, ?_⟩ | refine ⟨⟨_, rfl, VW_int (by assumption)⟩, ?_⟩ | refine ⟨⟨Or.inl ⟨_, rfl, ⟨rfl, rfl⟩⟩, rfl⟩, ?_⟩ | refine ⟨⟨Or.inl ⟨_, rfl, ⟨rfl, rfl, rfl⟩⟩, rfl⟩, ?_⟩ | refine ⟨⟨Or.inl ⟨_, rfl, BSim_by rfl rfl⟩, rfl⟩, ?_⟩ | refine ⟨⟨Or.inr ⟨rfl, rfl⟩, rfl⟩, ?_⟩ | refine ⟨⟨Or.inr ⟨rfl, rfl, rfl⟩, rfl⟩, ?_⟩)))
      · have h9 : ¬ 0 ≤ st := by simpa using h9
        have c1 := (hneg h9).1
        have c2 := (hneg h9).2
        rw [if_pos c1] at hq
        (repeat first | refine WT_inR (by simp [inR]; omega) ?_ | refine WT_t rfl ?_ | refine WT_f rfl ?_ | refine WT_guard (by first | (simp [inR]; done) | (simp [inR]; omega)) ?_ | refine WT_elem _ (map_get _ _ _ (by first | assumption | omega)) ?_)
        try (refine WT_f (by simp at h8; simp; omega) ?_; (repeat first | refine WT_inR (by simp [inR]; omega) ?_ | refine WT_t rfl ?_ | refine WT_f rfl ?_ | refine WT_guard (by first | (simp [inR]; done) | (simp [inR]; omega)) ?_ | refine WT_elem _ (map_get _ _ _ (by first | assumption | omega)) ?_))
        refine WT_again (k + (runeAt s k).2, n, xs, st) (inv _ _ _ _ hq h2 h3 (by simp [c2])) (hmu _) (by ((refine Weak.of ?_ ?_ rfl rfl ?_ rfl rfl <;> repeat' first | exact trivial | refine ⟨⟨_, rfl, Or.inl ⟨rfl, rfl⟩⟩, ?_⟩ | refine ⟨⟨_, rfl, Or.inr (Or.inl ⟨rfl, by first | exact ⟨_, _, rfl, rfl, Or.inl rfl⟩ | exact ⟨_, _, rfl, rfl, Or.inr rfl⟩⟩)⟩, ?_⟩ | refine ⟨⟨_, rfl, Or.inr (Or.inr rfl)⟩, ?_⟩ | refine ⟨⟨_, rfl, VW_int (by assumption)⟩, ?_⟩ | refine ⟨⟨Or.inl ⟨_, rfl, ⟨rfl, rfl⟩⟩, rfl⟩, ?_⟩ | refine ⟨⟨Or.inl ⟨_, rfl, ⟨rfl, rfl, rfl⟩⟩, rfl⟩, ?_⟩ | refine ⟨⟨Or.inl ⟨_, rfl, BSim_by rfl rfl⟩, rfl⟩, ?_⟩ | refine ⟨⟨Or.inr ⟨rfl, rfl⟩, rfl⟩, ?_⟩ | refine ⟨⟨Or.inr ⟨rfl, rfl, rfl⟩, rfl⟩, ?_⟩)))
  · (repeat first | refine WT_inR (by simp [inR]; omega) ?_ | refine WT_t rfl ?_ | refine WT_f rfl ?_ | refine WT_guard (by first | (simp [inR]; done) | (simp [inR]; omega)) ?_ | refine WT_elem _ (map_get _ _ _ (by first | assumption | omega)) ?_)
    refine WT_break ?_
    have h5 : s.length ≤ k := by simpa using h5
    rw [List.take_of_length_le h5] at h3 h4 hsuf
    refine WT_test (fun h9 => ?_) (fun h9 => ?_)
    · have h9 : 0 ≤ st := by simpa using h9
      have hc : (wst s).2 ≠ [] := by intro e; rw [if_pos e] at h4; omega
      rw [if_neg hc] at h4
      have hkl : k = s.length := by omega
      have hl2' : (wst s).2.length ≤ s.length := by
        have := (wst_len s s.length (Nat.le_refl _)).2.2
        rwa [List.take_length] at this
      have hst : st.toNat = k - (wst s).2.length := by rw [h4, Int.toNat_natCast]
      (repeat first | refine WT_inR (by simp [inR]; omega) ?_ | refine WT_t rfl ?_ | refine WT_f rfl ?_ | refine WT_guard (by first | (simp [inR]; done) | (simp [inR]; omega)) ?_ | refine WT_elem _ (map_get _ _ _ (by first | assumption | omega)) ?_)
      refine WT_ret rfl rfl rfl rfl ?_
      show Dat.slice 1 (((xs ++ [strL ((s.take s.length).drop st.toNat)]).drop 0).take (n + 1)) false = _
      rw [List.take_length, hst, ← hsuf, row_eq (l := (wst s).1 ++ [(wst s).2]) (g := strL) (by simp [h2]) (by simp [h3]), wordsOf, wend, if_neg hc]; rfl
    · have h9 : ¬ 0 ≤ st := by simpa using h9
      have hc : (wst s).2 = [] := by
        by_cases e : (wst s).2 = []
        · exact e
        · rw [if_neg e] at h4; omega
      refine WT_ret rfl rfl rfl rfl ?_
      rw [wordsOf, wend, if_pos hc]
      show Dat.slice 1 ((xs.drop 0).take n) false = _
      rw [row_eq h2 h3]; rfl
end Uw.Tryd

/- A word's pick. -/
set_option linter.unusedVariables false
set_option linter.unusedSimpArgs false
namespace Uw.Tryd
open Go Uw Go.Proofs Go.RowKit

abbrev Sev := Pick × Int × Bool
def sevD (x : Sev) : Dat := .tuple [.agg [I x.1.kind, I x.1.a, I x.1.b, I x.2.1], .bool x.2.2]
def noSev : Sev := (⟨0, 0, 0⟩, 0, false)

def signedR (kind : Int) (head tail : List UInt8) : Sev :=
  match numb head with
  | none => noSev
  | some a => if 8 ≤ a then noSev else
    if kind = 3 then (⟨3, a, 0⟩, 1, decide (tail = [])) else
    match numb tail with
    | none => noSev
    | some n => if kind = 1 then (⟨1, a, 0⟩, n, decide (1 ≤ n)) else (⟨kind, a, n⟩, 1, decide (n ≤ 1048576))

theorem s_script_signed (kind : Int) (head tail : List UInt8) (h1 : head.length < 1000000) (h2 : tail.length < 1000000) : Ret P0 n_script_signed [I kind, .str head, .str tail] (sevD (signedR kind head tail)) := by
  have n1 := s_script_number head h1
  have n2 := s_script_number tail h2
  rw [signedR]
  cases hh : numb head with
  | none =>
    rw [hh] at n1
    refine Ret_by is_script_signed rfl ?_
    refine WT_call _ n1 ?_
    (repeat first | refine WT_inR (by simp [inR]; omega) ?_ | refine WT_t rfl ?_ | refine WT_f rfl ?_ | refine WT_guard (by first | (simp [inR]; done) | (simp [inR]; omega)) ?_ | refine WT_elem _ (map_get _ _ _ (by first | assumption | omega)) ?_)
    exact WT_ret (P := P0) rfl rfl rfl rfl rfl
  | some a =>
    rw [hh] at n1
    simp only
    by_cases ha : 8 ≤ a
    · rw [if_pos ha]
      refine Ret_by is_script_signed rfl ?_
      refine WT_call _ n1 ?_
      (repeat first | refine WT_inR (by simp [inR]; omega) ?_ | refine WT_t rfl ?_ | refine WT_f rfl ?_ | refine WT_guard (by first | (simp [inR]; done) | (simp [inR]; omega)) ?_ | refine WT_elem _ (map_get _ _ _ (by first | assumption | omega)) ?_)
      refine WT_t (by simp; omega) ?_
      (repeat first | refine WT_inR (by simp [inR]; omega) ?_ | refine WT_t rfl ?_ | refine WT_f rfl ?_ | refine WT_guard (by first | (simp [inR]; done) | (simp [inR]; omega)) ?_ | refine WT_elem _ (map_get _ _ _ (by first | assumption | omega)) ?_)
      exact WT_ret (P := P0) rfl rfl rfl rfl rfl
    · rw [if_neg ha]
      by_cases hk : kind = 3
      · rw [if_pos hk]
        subst hk
        refine Ret_by is_script_signed rfl ?_
        refine WT_call _ n1 ?_
        (repeat first | refine WT_inR (by simp [inR]; omega) ?_ | refine WT_t rfl ?_ | refine WT_f rfl ?_ | refine WT_guard (by first | (simp [inR]; done) | (simp [inR]; omega)) ?_ | refine WT_elem _ (map_get _ _ _ (by first | assumption | omega)) ?_)
        refine WT_f (by simp; omega) ?_
        (repeat first | refine WT_inR (by simp [inR]; omega) ?_ | refine WT_t rfl ?_ | refine WT_f rfl ?_ | refine WT_guard (by first | (simp [inR]; done) | (simp [inR]; omega)) ?_ | refine WT_elem _ (map_get _ _ _ (by first | assumption | omega)) ?_)
        exact WT_ret (P := P0) rfl rfl rfl rfl rfl
      · rw [if_neg hk]
        cases ht : numb tail with
        | none =>
          rw [ht] at n2
          refine Ret_by is_script_signed rfl ?_
          refine WT_call _ n1 ?_
          (repeat first | refine WT_inR (by simp [inR]; omega) ?_ | refine WT_t rfl ?_ | refine WT_f rfl ?_ | refine WT_guard (by first | (simp [inR]; done) | (simp [inR]; omega)) ?_ | refine WT_elem _ (map_get _ _ _ (by first | assumption | omega)) ?_)
          refine WT_f (by simp; omega) ?_
          (repeat first | refine WT_inR (by simp [inR]; omega) ?_ | refine WT_t rfl ?_ | refine WT_f rfl ?_ | refine WT_guard (by first | (simp [inR]; done) | (simp [inR]; omega)) ?_ | refine WT_elem _ (map_get _ _ _ (by first | assumption | omega)) ?_)
          refine WT_f (by simp [hk]) ?_
          refine WT_call _ n2 ?_
          (repeat first | refine WT_inR (by simp [inR]; omega) ?_ | refine WT_t rfl ?_ | refine WT_f rfl ?_ | refine WT_guard (by first | (simp [inR]; done) | (simp [inR]; omega)) ?_ | refine WT_elem _ (map_get _ _ _ (by first | assumption | omega)) ?_)
          exact WT_ret (P := P0) rfl rfl rfl rfl rfl
        | some n =>
          rw [ht] at n2
          simp only
          by_cases hk1 : kind = 1
          · rw [if_pos hk1]
            subst hk1
            refine Ret_by is_script_signed rfl ?_
            refine WT_call _ n1 ?_
            (repeat first | refine WT_inR (by simp [inR]; omega) ?_ | refine WT_t rfl ?_ | refine WT_f rfl ?_ | refine WT_guard (by first | (simp [inR]; done) | (simp [inR]; omega)) ?_ | refine WT_elem _ (map_get _ _ _ (by first | assumption | omega)) ?_)
            refine WT_f (by simp; omega) ?_
            (repeat first | refine WT_inR (by simp [inR]; omega) ?_ | refine WT_t rfl ?_ | refine WT_f rfl ?_ | refine WT_guard (by first | (simp [inR]; done) | (simp [inR]; omega)) ?_ | refine WT_elem _ (map_get _ _ _ (by first | assumption | omega)) ?_)
            refine WT_call _ n2 ?_
            (repeat first | refine WT_inR (by simp [inR]; omega) ?_ | refine WT_t rfl ?_ | refine WT_f rfl ?_ | refine WT_guard (by first | (simp [inR]; done) | (simp [inR]; omega)) ?_ | refine WT_elem _ (map_get _ _ _ (by first | assumption | omega)) ?_)
            refine WT_ret (P := P0) rfl rfl rfl rfl ?_
            simp [packD, sevD]; omega
          · rw [if_neg hk1]
            refine Ret_by is_script_signed rfl ?_
            refine WT_call _ n1 ?_
            (repeat first | refine WT_inR (by simp [inR]; omega) ?_ | refine WT_t rfl ?_ | refine WT_f rfl ?_ | refine WT_guard (by first | (simp [inR]; done) | (simp [inR]; omega)) ?_ | refine WT_elem _ (map_get _ _ _ (by first | assumption | omega)) ?_)
            refine WT_f (by simp; omega) ?_
            (repeat first | refine WT_inR (by simp [inR]; omega) ?_ | refine WT_t rfl ?_ | refine WT_f rfl ?_ | refine WT_guard (by first | (simp [inR]; done) | (simp [inR]; omega)) ?_ | refine WT_elem _ (map_get _ _ _ (by first | assumption | omega)) ?_)
            refine WT_f (by simp [hk]) ?_
            refine WT_call _ n2 ?_
            (repeat first | refine WT_inR (by simp [inR]; omega) ?_ | refine WT_t rfl ?_ | refine WT_f rfl ?_ | refine WT_guard (by first | (simp [inR]; done) | (simp [inR]; omega)) ?_ | refine WT_elem _ (map_get _ _ _ (by first | assumption | omega)) ?_)
            refine WT_f (by simp [hk1]) ?_
            (repeat first | refine WT_inR (by simp [inR]; omega) ?_ | refine WT_t rfl ?_ | refine WT_f rfl ?_ | refine WT_guard (by first | (simp [inR]; done) | (simp [inR]; omega)) ?_ | refine WT_elem _ (map_get _ _ _ (by first | assumption | omega)) ?_)
            refine WT_ret (P := P0) rfl rfl rfl rfl ?_
            simp [packD, sevD]; omega

/-- How many digits a word begins with. -/
def digs (s : List UInt8) : Nat := (s.takeWhile isDig).length

theorem digs_of (s : List UInt8) (k : Nat) (h : k ≤ s.length) (h1 : (s.take k).all isDig = true) (h2 : ∀ b, s[k]? = some b → isDig b = false) : digs s = k := by
  rw [digs]
  have e : s = s.take k ++ s.drop k := by simp
  have h1' : ∀ a ∈ s.take k, isDig a = true := by simpa [List.all_eq_true] using h1
  rw [e, List.takeWhile_append_of_pos h1']
  have : (s.drop k).takeWhile isDig = [] := by
    cases hd : s.drop k with
    | nil => rfl
    | cons b r =>
      have hb : s[k]? = some b := by
        have := congrArg (fun l => l[0]?) hd
        simpa using this
      rw [List.takeWhile_cons, h2 b hb]; rfl
  rw [this]; simp; omega

def readR (s : List UInt8) : Sev :=
  match s[digs s]? with
  | none => (⟨1, ((numb s).getD 0 : Nat), 0⟩, 1, (numb s).isSome && decide ((numb s).getD 0 < 8))
  | some b => if b.toNat = 120 then signedR 1 (s.take (digs s)) (s.drop (digs s + 1))
    else if b.toNat = 126 then signedR 2 (s.take (digs s)) (s.drop (digs s + 1))
    else if b.toNat = 33 then signedR 3 (s.take (digs s)) (s.drop (digs s + 1))
    else noSev

theorem s_script_read (s : List UInt8) (hs : s.length < 1000000) : Ret P0 n_script_read [.str s] (sevD (readR s)) := by
  have hnum := s_script_number s hs
  refine Ret_by is_script_read rfl ?_
  refine WT_loop (fun k : Nat => ⟨[(16, .hnd 2), (4, .ptr 1 0), (2, .ptr 0 0), (0, .d (.str s))], [(2, .iter s k), (1, .var [.d (.int .i32 120), .d (I 1), .d (.int .i32 126), .d (I 2), .d (.int .i32 33), .d (I 3)]), (0, .var [.d (I 0), .d (I 0), .d (I 0), .d (I 0)])], 3, [], 0⟩)
    (fun k => k ≤ s.length ∧ (s.take k).all isDig = true) (fun k => s.length - k) 0 (by ((refine Weak.of ?_ ?_ rfl rfl ?_ rfl rfl <;> repeat' first | exact trivial | refine ⟨⟨_, rfl, Or.inl ⟨rfl, rfl⟩⟩, ?_⟩ | refine ⟨⟨_, rfl, Or.inr (Or.inl ⟨rfl, by first | exact ⟨_, _, rfl, rfl, Or.inl rfl⟩ | exact ⟨_, _, rfl, rfl, Or.inr rfl⟩⟩)⟩, ?_⟩ | refine ⟨⟨_, rfl, Or.inr (Or.inr rfl)⟩, ?_⟩ | refine ⟨⟨_, rfl, VW_int (by assumption)⟩, ?_⟩ | refine ⟨⟨Or.inl ⟨_, rfl, ⟨rfl, rfl⟩⟩, rfl⟩, ?_⟩ | refine ⟨⟨Or.inl ⟨_, rfl, ⟨rfl, rfl, rfl⟩⟩, rfl⟩, ?_⟩ | refine ⟨⟨Or.inl ⟨_, rfl, BSim_by rfl rfl⟩, rfl⟩, ?_⟩ | refine ⟨⟨Or.inr ⟨rfl, rfl⟩, rfl⟩, ?_⟩ | refine ⟨⟨Or.inr ⟨rfl, rfl, rfl⟩, rfl⟩, ?_⟩))) (by simp) ?_
  rintro k ⟨h1, h2⟩
  refine WT_test (fun h3 => ?_) (fun h3 => ?_)
  · have h3 : k < s.length := by simpa using h3
    have hbd : s[k].toNat < 256 := s[k].toNat_lt
    have hk : s[k]? = some s[k] := by simp [h3]
    have hr : (s[k].toNat < 128 ∧ (runeAt s k).1 = s[k].toNat ∧ (runeAt s k).2 = 1) ∨ (128 ≤ s[k].toNat ∧ 128 ≤ (runeAt s k).1 ∧ (runeAt s k).1 ≤ 1114111) := by
      rcases Nat.lt_or_ge s[k].toNat 128 with h | h
      · rw [runeAt_low s k s[k] hk h]; exact .inl ⟨h, rfl, rfl⟩
      · have := runeAt_high s k s[k] hk h; exact .inr ⟨h, this.1, this.2.1⟩
    have hrd : isDig s[k] = false → readR s = (if s[k].toNat = 120 then signedR 1 (s.take k) (s.drop (k + 1)) else if s[k].toNat = 126 then signedR 2 (s.take k) (s.drop (k + 1)) else if s[k].toNat = 33 then signedR 3 (s.take k) (s.drop (k + 1)) else noSev) := by
      intro h
      have hd : digs s = k := digs_of s k h1 h2 (by intro b hb; rw [hk] at hb; injection hb with hb; rw [← hb]; exact h)
      rw [readR, hd, hk]
    have hsg : ∀ kind : Int, Ret P0 n_script_signed [I kind, .str ((s.take k).drop 0), .str ((s.take s.length).drop (k + 1))] (sevD (signedR kind (s.take k) (s.drop (k + 1)))) := by
      intro kind
      have := s_script_signed kind (s.take k) (s.drop (k + 1)) (by simp; omega) (by simp; omega)
      rw [List.drop_zero, List.take_length]; exact this
    (repeat first | refine WT_inR (by simp [inR]; omega) ?_ | refine WT_t rfl ?_ | refine WT_f rfl ?_ | refine WT_guard (by first | (simp [inR]; done) | (simp [inR]; omega)) ?_ | refine WT_elem _ (map_get _ _ _ (by first | assumption | omega)) ?_)
    refine WT_test (fun h6 => ?zA) (fun h6 => ?zB)
    case' zB => have hnd : isDig s[k] = false := by simp at h6; simp [isDig]; omega
    case' zA =>
      (repeat first | refine WT_inR (by simp [inR]; omega) ?_ | refine WT_t rfl ?_ | refine WT_f rfl ?_ | refine WT_guard (by first | (simp [inR]; done) | (simp [inR]; omega)) ?_ | refine WT_elem _ (map_get _ _ _ (by first | assumption | omega)) ?_)
      refine WT_test (fun h7 => ?zC) (fun h7 => ?zD)
    case zC =>
      (repeat first | refine WT_inR (by simp [inR]; omega) ?_ | refine WT_t rfl ?_ | refine WT_f rfl ?_ | refine WT_guard (by first | (simp [inR]; done) | (simp [inR]; omega)) ?_ | refine WT_elem _ (map_get _ _ _ (by first | assumption | omega)) ?_)
      refine WT_again (k + (runeAt s k).2) ?_ ?_ (by ((refine Weak.of ?_ ?_ rfl rfl ?_ rfl rfl <;> repeat' first | exact trivial | refine ⟨⟨_, rfl, Or.inl ⟨rfl, rfl⟩⟩, ?_⟩ | refine ⟨⟨_, rfl, Or.inr (Or.inl ⟨rfl, by first | exact ⟨_, _, rfl, rfl, Or.inl rfl⟩ | exact ⟨_, _, rfl, rfl, Or.inr rfl⟩⟩)⟩, ?_⟩ | refine ⟨⟨_, rfl, Or.inr (Or.inr rfl)⟩, ?_⟩ | refine ⟨⟨_, rfl, VW_int (by assumption)⟩, ?_⟩ | refine ⟨⟨Or.inl ⟨_, rfl, ⟨rfl, rfl⟩⟩, rfl⟩, ?_⟩ | refine ⟨⟨Or.inl ⟨_, rfl, ⟨rfl, rfl, rfl⟩⟩, rfl⟩, ?_⟩ | refine ⟨⟨Or.inl ⟨_, rfl, BSim_by rfl rfl⟩, rfl⟩, ?_⟩ | refine ⟨⟨Or.inr ⟨rfl, rfl⟩, rfl⟩, ?_⟩ | refine ⟨⟨Or.inr ⟨rfl, rfl, rfl⟩, rfl⟩, ?_⟩)))
      · simp at h6 h7
        rw [show (runeAt s k).2 = 1 by omega]
        exact ⟨by omega, by rw [all_take _ _ _ h3, h2]; simp [isDig]; omega⟩
      · simp at h6 h7; omega
    case' zD => have hnd : isDig s[k] = false := by simp at h6 h7; simp [isDig]; omega
    all_goals
      have hrd := hrd hnd
      (repeat first | refine WT_inR (by simp [inR]; omega) ?_ | refine WT_t rfl ?_ | refine WT_f rfl ?_ | refine WT_guard (by first | (simp [inR]; done) | (simp [inR]; omega)) ?_ | refine WT_elem _ (map_get _ _ _ (by first | assumption | omega)) ?_)
      refine WT_rounds 4 ?_
      (repeat first | refine WT_inR (by simp [inR]; omega) ?_ | refine WT_t rfl ?_ | refine WT_f rfl ?_ | refine WT_guard (by first | (simp [inR]; done) | (simp [inR]; omega)) ?_ | refine WT_elem _ (map_get _ _ _ (by first | assumption | omega)) ?_)
      refine WT_test (fun h8 => ?_) (fun h8 => ?_)
      · have h8 : s[k].toNat = 120 := by simp at h8; omega
        (repeat first | refine WT_inR (by simp [inR]; omega) ?_ | refine WT_t rfl ?_ | refine WT_f rfl ?_ | refine WT_guard (by first | (simp [inR]; done) | (simp [inR]; omega)) ?_ | refine WT_elem _ (map_get _ _ _ (by first | assumption | omega)) ?_)
        refine WT_call _ (hsg 1) ?_
        (repeat first | refine WT_inR (by simp [inR]; omega) ?_ | refine WT_t rfl ?_ | refine WT_f rfl ?_ | refine WT_guard (by first | (simp [inR]; done) | (simp [inR]; omega)) ?_ | refine WT_elem _ (map_get _ _ _ (by first | assumption | omega)) ?_)
        refine WT_rleave ?_
        refine WT_leave ?_
        refine WT_ret rfl rfl rfl rfl ?_
        rw [hrd, if_pos h8]; rfl
      · have h8 : s[k].toNat ≠ 120 := by simp at h8; omega
        (repeat first | refine WT_inR (by simp [inR]; omega) ?_ | refine WT_t rfl ?_ | refine WT_f rfl ?_ | refine WT_guard (by first | (simp [inR]; done) | (simp [inR]; omega)) ?_ | refine WT_elem _ (map_get _ _ _ (by first | assumption | omega)) ?_)
        refine WT_test (fun h9 => ?_) (fun h9 => ?_)
        · have h9 : s[k].toNat = 126 := by simp at h9; omega
          (repeat first | refine WT_inR (by simp [inR]; omega) ?_ | refine WT_t rfl ?_ | refine WT_f rfl ?_ | refine WT_guard (by first | (simp [inR]; done) | (simp [inR]; omega)) ?_ | refine WT_elem _ (map_get _ _ _ (by first | assumption | omega)) ?_)
          refine WT_call _ (hsg 2) ?_
          (repeat first | refine WT_inR (by simp [inR]; omega) ?_ | refine WT_t rfl ?_ | refine WT_f rfl ?_ | refine WT_guard (by first | (simp [inR]; done) | (simp [inR]; omega)) ?_ | refine WT_elem _ (map_get _ _ _ (by first | assumption | omega)) ?_)
          refine WT_rleave ?_
          refine WT_leave ?_
          refine WT_ret rfl rfl rfl rfl ?_
          rw [hrd, if_neg h8, if_pos h9]; rfl
        · have h9 : s[k].toNat ≠ 126 := by simp at h9; omega
          (repeat first | refine WT_inR (by simp [inR]; omega) ?_ | refine WT_t rfl ?_ | refine WT_f rfl ?_ | refine WT_guard (by first | (simp [inR]; done) | (simp [inR]; omega)) ?_ | refine WT_elem _ (map_get _ _ _ (by first | assumption | omega)) ?_)
          refine WT_test (fun h10 => ?_) (fun h10 => ?_)
          · have h10 : s[k].toNat = 33 := by simp at h10; omega
            (repeat first | refine WT_inR (by simp [inR]; omega) ?_ | refine WT_t rfl ?_ | refine WT_f rfl ?_ | refine WT_guard (by first | (simp [inR]; done) | (simp [inR]; omega)) ?_ | refine WT_elem _ (map_get _ _ _ (by first | assumption | omega)) ?_)
            refine WT_call _ (hsg 3) ?_
            (repeat first | refine WT_inR (by simp [inR]; omega) ?_ | refine WT_t rfl ?_ | refine WT_f rfl ?_ | refine WT_guard (by first | (simp [inR]; done) | (simp [inR]; omega)) ?_ | refine WT_elem _ (map_get _ _ _ (by first | assumption | omega)) ?_)
            refine WT_rleave ?_
            refine WT_leave ?_
            refine WT_ret rfl rfl rfl rfl ?_
            rw [hrd, if_neg h8, if_neg h9, if_pos h10]; rfl
          · have h10 : s[k].toNat ≠ 33 := by simp at h10; omega
            (repeat first | refine WT_inR (by simp [inR]; omega) ?_ | refine WT_t rfl ?_ | refine WT_f rfl ?_ | refine WT_guard (by first | (simp [inR]; done) | (simp [inR]; omega)) ?_ | refine WT_elem _ (map_get _ _ _ (by first | assumption | omega)) ?_)
            refine WT_rbreak ?_
            (repeat first | refine WT_inR (by simp [inR]; omega) ?_ | refine WT_t rfl ?_ | refine WT_f rfl ?_ | refine WT_guard (by first | (simp [inR]; done) | (simp [inR]; omega)) ?_ | refine WT_elem _ (map_get _ _ _ (by first | assumption | omega)) ?_)
            refine WT_leave ?_
            refine WT_ret rfl rfl rfl rfl ?_
            rw [hrd, if_neg h8, if_neg h9, if_neg h10]; rfl
  · (repeat first | refine WT_inR (by simp [inR]; omega) ?_ | refine WT_t rfl ?_ | refine WT_f rfl ?_ | refine WT_guard (by first | (simp [inR]; done) | (simp [inR]; omega)) ?_ | refine WT_elem _ (map_get _ _ _ (by first | assumption | omega)) ?_)
    refine WT_break ?_
    have h3 : s.length ≤ k := by simpa using h3
    have hd : digs s = k := digs_of s k h1 h2 (by intro b hb; rw [List.getElem?_eq_none (by omega)] at hb; cases hb)
    have hrr : readR s = (⟨1, ((numb s).getD 0 : Nat), 0⟩, 1, (numb s).isSome && decide ((numb s).getD 0 < 8)) := by
      rw [readR, hd, List.getElem?_eq_none (by omega)]
    refine WT_call _ hnum ?_
    (repeat first | refine WT_inR (by simp [inR]; omega) ?_ | refine WT_t rfl ?_ | refine WT_f rfl ?_ | refine WT_guard (by first | (simp [inR]; done) | (simp [inR]; omega)) ?_ | refine WT_elem _ (map_get _ _ _ (by first | assumption | omega)) ?_)
    refine WT_test (fun h8 => ?_) (fun h8 => ?_)
    · have h8 : (numb s).isSome = true := by simpa using h8
      (repeat first | refine WT_inR (by simp [inR]; omega) ?_ | refine WT_t rfl ?_ | refine WT_f rfl ?_ | refine WT_guard (by first | (simp [inR]; done) | (simp [inR]; omega)) ?_ | refine WT_elem _ (map_get _ _ _ (by first | assumption | omega)) ?_)
      refine WT_ret rfl rfl rfl rfl ?_
      rw [hrr]; simp [packD, sevD, h8]; omega
    · have h8 : (numb s).isSome = false := by simpa using h8
      (repeat first | refine WT_inR (by simp [inR]; omega) ?_ | refine WT_t rfl ?_ | refine WT_f rfl ?_ | refine WT_guard (by first | (simp [inR]; done) | (simp [inR]; omega)) ?_ | refine WT_elem _ (map_get _ _ _ (by first | assumption | omega)) ?_)
      refine WT_ret rfl rfl rfl rfl ?_
      rw [hrr]; simp [packD, sevD, h8]
end Uw.Tryd
