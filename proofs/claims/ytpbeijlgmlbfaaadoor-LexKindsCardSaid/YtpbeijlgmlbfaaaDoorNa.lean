/- Na: Xn Xr (merged by merge2.py from the working texts). -/
import Derived.Test.YtpbeijlgmlbfaaaDoorN9
import Derived.Test.YtpbeijlgmlbfaaaDoorN6
import Derived.Test.YtpbeijlgmlbfaaaDoorN4
set_option linter.unusedSimpArgs false
set_option linter.unnecessarySimpa false
set_option linter.unusedVariables false
set_option linter.unusedSectionVars false

/- lex: awake, digits. -/
set_option linter.unusedVariables false
set_option linter.unusedSimpArgs false
namespace Uw.Tryd
open Go Uw Go.Proofs Go.RowKit

set_option maxRecDepth 4000 in
set_option maxHeartbeats 2000000 in
theorem s_law04_awake : Ret P0 n_law04_awake [] (.bool true) := by
  have w1 := s_lex_Words [120, 49, 61, 120, 61, 61, 55] (by decide)
  have w2 := s_lex_Words [120, 49, 61, 120, 61, 61, 48, 55] (by decide)
  have e1 : wordsR [120, 49, 61, 120, 61, 61, 55] = ([⟨1, [120, 49], 0, 0⟩, ⟨3, [61], 0, 2⟩, ⟨1, [120], 0, 3⟩, ⟨3, [61, 61], 0, 4⟩, ⟨2, [55], 7, 6⟩], 0) := by decide +kernel
  have e2 : wordsR [120, 49, 61, 120, 61, 61, 48, 55] = ([], 3) := by decide +kernel
  rw [e1] at w1
  rw [e2] at w2
  clear e1 e2
  have sm := s_ref04_Same [⟨1, [120, 49], 0, 0⟩, ⟨3, [61], 0, 2⟩, ⟨1, [120], 0, 3⟩, ⟨3, [61, 61], 0, 4⟩, ⟨2, [55], 7, 6⟩] [⟨1, [120, 49], 0, 0⟩, ⟨3, [61], 0, 2⟩, ⟨1, [120], 0, 3⟩, ⟨3, [61, 61], 0, 4⟩, ⟨2, [55], 7, 6⟩] (by decide)
  have sm := sm.args (ds := [toksD [⟨1, [120, 49], 0, 0⟩, ⟨3, [61], 0, 2⟩, ⟨1, [120], 0, 3⟩, ⟨3, [61, 61], 0, 4⟩, ⟨2, [55], 7, 6⟩], .slice 4 ([(⟨1, [120, 49], 0, 0⟩ : Tok), ⟨3, [61], 0, 2⟩, ⟨1, [120], 0, 3⟩, ⟨3, [61, 61], 0, 4⟩, ⟨2, [55], 7, 6⟩].map tokL) true]) (.cons (.refl _) (.cons (.slice (.refl _)) (.refl _)))
  have sh := s_lex_Show [⟨1, [120, 49], 0, 0⟩, ⟨3, [61], 0, 2⟩, ⟨1, [120], 0, 3⟩, ⟨3, [61, 61], 0, 4⟩, ⟨2, [55], 7, 6⟩] (by decide)
  refine Ret_by is_law04_awake rfl ?_
  ((repeat' ((first | (show WT _ _ (Tree.test _ _ _); first | refine WT_i64 (by omega) ?_ | refine WT_inR (by simp [inR]; omega) ?_ | refine WT_t rfl ?_ | refine WT_f rfl ?_ | refine WT_ixmZ (by first | assumption | omega) ?_ | refine WT_ixZ (by first | assumption | omega) ?_ | refine WT_ixmS (by first | assumption | omega) ?_ | refine WT_ixS (by first | assumption | omega) ?_ | refine WT_ixm (by first | assumption | omega) ?_ | refine WT_ixl (by first | assumption | omega) ?_ | refine WT_guard (by first | (simp [inR]; done) | (simp [inR]; omega)) ?_ | refine WT_yT (by first | assumption | omega | exact rfl) ?_ | refine WT_nT (by first | assumption | omega) ?_ | refine WT_yF (by first | assumption | omega) ?_ | refine WT_nF (by first | assumption | omega | exact rfl) ?_ | refine WT_nyT (by first | assumption | omega) ?_ | refine WT_nnT (by first | assumption | omega | exact rfl) ?_ | refine WT_nyF (by first | assumption | omega | exact rfl) ?_ | refine WT_nnF (by first | assumption | omega) ?_ | refine WT_byT (by assumption) ?_ | refine WT_bnT (by assumption) ?_ | refine WT_byF (by assumption) ?_ | refine WT_bnF (by assumption) ?_ | refine WT_yes (by first | assumption | omega | exact rfl) ?_ | refine WT_no (by first | assumption | omega) ?_ | refine WT_nyes (by first | assumption | omega) ?_ | refine WT_nno (by first | assumption | omega | exact rfl) ?_ | refine WT_ty (by assumption) ?_ | refine WT_f (by assumption) ?_ | refine WT_nby (by assumption) ?_ | refine WT_nbn (by assumption) ?_ | refine WT_dlenS (fun _ => ?_) (fun _ => ?_) | refine WT_dlen (fun _ => ?_) (fun _ => ?_) | refine WT_decT (fun _ => ?_) (fun _ => ?_) | refine WT_decF (fun _ => ?_) (fun _ => ?_) | refine WT_ndecT (fun _ => ?_) (fun _ => ?_) | refine WT_ndecF (fun _ => ?_) (fun _ => ?_) | refine WT_bT (fun _ => ?_) (fun _ => ?_) | refine WT_bF (fun _ => ?_) (fun _ => ?_) | refine WT_dec (fun _ => ?_) (fun _ => ?_) | refine WT_ndec (fun _ => ?_) (fun _ => ?_) | refine WT_nb (fun _ => ?_) (fun _ => ?_) | refine WT_test (fun _ => ?_) (fun _ => ?_)) | (show WT _ _ (Tree.call _ _ _); refine WT_call _ (by assumption) ?_) | (show WT _ _ (Tree.elem _ _ _); first | refine WT_elmZ (by first | assumption | omega) ?_ | refine WT_elmS (by first | assumption | omega) ?_ | refine WT_elm (by first | assumption | omega) ?_ | refine WT_elem _ (map_get _ _ _ (by first | assumption | omega)) ?_ | refine WT_elem _ (by assumption) ?_) | (show WT _ _ (Tree.byte _ _ _); first | refine WT_bytZ (by first | assumption | omega) ?_ | refine WT_bytS (by first | assumption | omega) ?_ | refine WT_byt (by first | assumption | omega) ?_ | refine WT_bytN (by first | assumption | omega) ?_) | (show WT _ _ (Tree.same _ _ _); refine WT_same rfl ?_)))))
  refine WT_ret (P := P0) rfl rfl rfl rfl ?_
  exact congrArg Dat.bool (by decide +kernel)

def dig (n : Nat) : UInt8 := UInt8.ofNat (48 + n % 10)
def decN : Nat → Nat → List UInt8 → List UInt8
  | 0, _, s => s
  | f + 1, n, s => if n ≤ 9 then s else decN f (n / 10) (dig (n / 10) :: s)
def digitsR (n : Nat) : List UInt8 := decN 12 n [dig n]

theorem dig_nat (n : Nat) : (dig n).toNat = 48 + n % 10 := by
  rw [dig, UInt8.toNat_ofNat']; omega
theorem dig_digB (n : Nat) : digB (dig n) = true := by
  have h := dig_nat n
  have : cls (dig n) = 2 := by unfold cls; rw [if_neg (by omega), if_pos (by omega)]
  simp [digB, this]
theorem valD_cons (b : UInt8) (s : List UInt8) : valD (b :: s) = (b.toNat - 48) * 10 ^ s.length + valD s := by
  have key : ∀ (s : List UInt8) (m : Nat), s.foldl (fun n b => 10 * n + (b.toNat - 48)) m = m * 10 ^ s.length + s.foldl (fun n b => 10 * n + (b.toNat - 48)) 0 := by
    intro s
    induction s with
    | nil => intro m; simp
    | cons c r ih =>
      intro m
      rw [List.foldl_cons, List.foldl_cons, ih (10 * m + (c.toNat - 48)), ih (10 * 0 + (c.toNat - 48)), List.length_cons, Nat.pow_succ]
      rw [Nat.add_mul, Nat.add_mul, Nat.mul_zero, Nat.zero_mul, Nat.zero_add, Nat.mul_comm 10 m, Nat.mul_assoc, Nat.mul_comm 10 (10 ^ r.length)]
      omega
  rw [valD, List.foldl_cons, key, Nat.mul_zero, Nat.zero_add, valD]

structure DInv (N m : Nat) (s : List UInt8) : Prop where
  all : s.all digB = true
  pos : 0 < s.length
  head : s.head? = some (dig m)
  val : valD s + 10 ^ s.length * (m / 10) = N
  lead : 2 ≤ s.length → 1 ≤ m
  size : 10 ^ (s.length - 1) * m ≤ N

theorem DInv.step {N m : Nat} {s : List UInt8} (h : DInv N m s) (hm : 9 < m) : DInv N (m / 10) (dig (m / 10) :: s) := by
  obtain ⟨h1, h2, h3, h4, h5, h6⟩ := h
  refine ⟨by rw [List.all_cons, h1, dig_digB]; rfl, by simp, rfl, ?_, fun _ => by omega, ?_⟩
  · rw [valD_cons, dig_nat, List.length_cons, Nat.pow_succ, Nat.add_sub_cancel_left, ← h4]
    generalize 10 ^ s.length = Q
    have e : m / 10 = 10 * (m / 10 / 10) + m / 10 % 10 := by omega
    generalize m / 10 / 10 = a at *
    generalize m / 10 % 10 = b at *
    rw [e, Nat.mul_add, ← Nat.mul_assoc, Nat.mul_comm b Q]; omega
  · rw [List.length_cons, Nat.add_sub_cancel]
    have e : 10 ^ s.length = 10 ^ (s.length - 1) * 10 := by rw [← Nat.pow_succ]; congr 1; omega
    refine Nat.le_trans ?_ h6
    rw [e, Nat.mul_assoc]
    exact Nat.mul_le_mul_left _ (by omega)

theorem decN_ok (N : Nat) : ∀ (f m : Nat) (s : List UInt8), DInv N m s → m < 10 ^ (f + 1) → ∃ m', m' ≤ 9 ∧ DInv N m' (decN f m s)
  | 0, m, s, h, hm => ⟨m, by omega, h⟩
  | f + 1, m, s, h, hm => by
    rw [decN]
    by_cases h9 : m ≤ 9
    · rw [if_pos h9]; exact ⟨m, h9, h⟩
    · rw [if_neg h9]
      refine decN_ok N f (m / 10) _ (h.step (by omega)) ?_
      rw [Nat.pow_succ] at hm; omega

theorem digits_ok (n : Nat) (h : n < 4294967296) : (digitsR n).all digB = true ∧ 0 < (digitsR n).length ∧ (digitsR n).length ≤ 10 ∧ valD (digitsR n) = n ∧ ((digitsR n).head? = some 48 → (digitsR n).length = 1) := by
  have h0 : DInv n n [dig n] := by
    refine ⟨by rw [List.all_cons, dig_digB]; rfl, by simp, rfl, ?_, by simp, by simp⟩
    rw [valD_cons, dig_nat, List.length_nil, List.length_cons, List.length_nil]
    have : valD [] = 0 := rfl
    rw [this]; omega
  obtain ⟨m, hm, h1, h2, h3, h4, h5, h6⟩ := decN_ok n 12 n [dig n] h0 (by rw [show (10 : Nat) ^ (12 + 1) = 10000000000000 by decide]; omega)
  change (digitsR n).all digB = true at h1
  change 0 < (digitsR n).length at h2
  change (digitsR n).head? = _ at h3
  change valD (digitsR n) + 10 ^ (digitsR n).length * _ = _ at h4
  change 2 ≤ (digitsR n).length → _ at h5
  change 10 ^ ((digitsR n).length - 1) * _ ≤ _ at h6
  refine ⟨h1, h2, ?_, ?_, ?_⟩
  · rcases Nat.lt_or_ge (digitsR n).length 11 with hl | hl
    · omega
    · exfalso
      have hm1 := h5 (by omega)
      have q : 10 ^ 10 ≤ 10 ^ ((digitsR n).length - 1) := Nat.pow_le_pow_right (by omega) (by omega)
      have q2 : 10 ^ ((digitsR n).length - 1) * 1 ≤ 10 ^ ((digitsR n).length - 1) * m := Nat.mul_le_mul_left _ hm1
      have q3 : (10 : Nat) ^ 10 = 10000000000 := by decide
      omega
  · have : m / 10 = 0 := by omega
    rw [this, Nat.mul_zero, Nat.add_zero] at h4; exact h4
  · intro hh
    rw [h3] at hh
    injection hh with hh
    have := congrArg UInt8.toNat hh
    rw [dig_nat] at this
    have h48 : (48 : UInt8).toNat = 48 := rfl
    rw [h48] at this
    rcases Nat.lt_or_ge (digitsR n).length 2 with hl | hl
    · omega
    · have := h5 hl; omega

set_option maxRecDepth 4000 in
set_option maxHeartbeats 2000000 in
theorem s_law04_digits (n : Nat) (hn : n < 4294967296) : Ret P0 n_law04_digits [I n] (.str (digitsR n)) := by
  have ht : 0 ≤ (n : Int).tmod 10 ∧ (n : Int).tmod 10 < 10 := by
    rw [Int.tmod_eq_emod_of_nonneg (by omega)]; omega
  have e0 : decN 12 n [UInt8.ofNat (48 + (n : Int).tmod 10).toNat] = digitsR n := rfl
  generalize digitsR n = R at e0
  refine Ret_by is_law04_digits rfl ?_
  ((repeat' ((first | (show WT _ _ (Tree.test _ _ _); first | refine WT_i64 (by omega) ?_ | refine WT_inR (by simp [inR]; omega) ?_ | refine WT_t rfl ?_ | refine WT_f rfl ?_ | refine WT_ixmZ (by first | assumption | omega) ?_ | refine WT_ixZ (by first | assumption | omega) ?_ | refine WT_ixmS (by first | assumption | omega) ?_ | refine WT_ixS (by first | assumption | omega) ?_ | refine WT_ixm (by first | assumption | omega) ?_ | refine WT_ixl (by first | assumption | omega) ?_ | refine WT_guard (by first | (simp [inR]; done) | (simp [inR]; omega)) ?_ | refine WT_yT (by first | assumption | omega | exact rfl) ?_ | refine WT_nT (by first | assumption | omega) ?_ | refine WT_yF (by first | assumption | omega) ?_ | refine WT_nF (by first | assumption | omega | exact rfl) ?_ | refine WT_nyT (by first | assumption | omega) ?_ | refine WT_nnT (by first | assumption | omega | exact rfl) ?_ | refine WT_nyF (by first | assumption | omega | exact rfl) ?_ | refine WT_nnF (by first | assumption | omega) ?_ | refine WT_byT (by assumption) ?_ | refine WT_bnT (by assumption) ?_ | refine WT_byF (by assumption) ?_ | refine WT_bnF (by assumption) ?_ | refine WT_yes (by first | assumption | omega | exact rfl) ?_ | refine WT_no (by first | assumption | omega) ?_ | refine WT_nyes (by first | assumption | omega) ?_ | refine WT_nno (by first | assumption | omega | exact rfl) ?_ | refine WT_ty (by assumption) ?_ | refine WT_f (by assumption) ?_ | refine WT_nby (by assumption) ?_ | refine WT_nbn (by assumption) ?_ | refine WT_dlenS (fun _ => ?_) (fun _ => ?_) | refine WT_dlen (fun _ => ?_) (fun _ => ?_) | refine WT_decT (fun _ => ?_) (fun _ => ?_) | refine WT_decF (fun _ => ?_) (fun _ => ?_) | refine WT_ndecT (fun _ => ?_) (fun _ => ?_) | refine WT_ndecF (fun _ => ?_) (fun _ => ?_) | refine WT_bT (fun _ => ?_) (fun _ => ?_) | refine WT_bF (fun _ => ?_) (fun _ => ?_) | refine WT_dec (fun _ => ?_) (fun _ => ?_) | refine WT_ndec (fun _ => ?_) (fun _ => ?_) | refine WT_nb (fun _ => ?_) (fun _ => ?_) | refine WT_test (fun _ => ?_) (fun _ => ?_)) | (show WT _ _ (Tree.call _ _ _); refine WT_call _ (by assumption) ?_) | (show WT _ _ (Tree.elem _ _ _); first | refine WT_elmZ (by first | assumption | omega) ?_ | refine WT_elmS (by first | assumption | omega) ?_ | refine WT_elm (by first | assumption | omega) ?_ | refine WT_elem _ (map_get _ _ _ (by first | assumption | omega)) ?_ | refine WT_elem _ (by assumption) ?_) | (show WT _ _ (Tree.byte _ _ _); first | refine WT_bytZ (by first | assumption | omega) ?_ | refine WT_bytS (by first | assumption | omega) ?_ | refine WT_byt (by first | assumption | omega) ?_ | refine WT_bytN (by first | assumption | omega) ?_) | (show WT _ _ (Tree.same _ _ _); refine WT_same rfl ?_)))))
  refine WT_loop (fun ((k, m, s) : Nat × Nat × List UInt8) => ⟨[(4, .d (I k)), (3, .d (.str s)), (0, .d (I m))], [], 0, [], 0⟩) (fun (k, m, s) => k ≤ 12 ∧ m < 4294967296 ∧ s.length ≤ k + 1 ∧ decN (12 - k) m s = R) (fun (k, _) => 12 - k) (0, n, [UInt8.ofNat (48 + (n : Int).tmod 10).toNat]) (by ((refine Weak.of ?_ ?_ rfl rfl ?_ rfl rfl <;> repeat' first | exact trivial | refine ⟨⟨_, rfl, Or.inl ⟨rfl, rfl⟩⟩, ?_⟩ | refine ⟨⟨_, rfl, Or.inr (Or.inl ⟨rfl, by first | exact ⟨_, _, rfl, rfl, Or.inl rfl⟩ | exact ⟨_, _, rfl, rfl, Or.inr rfl⟩⟩)⟩, ?_⟩ | refine ⟨⟨_, rfl, Or.inr (Or.inr rfl)⟩, ?_⟩ | refine ⟨⟨_, rfl, VW_int (by assumption)⟩, ?_⟩ | refine ⟨⟨Or.inl ⟨_, rfl, ⟨rfl, rfl⟩⟩, rfl⟩, ?_⟩ | refine ⟨⟨Or.inl ⟨_, rfl, ⟨rfl, rfl, rfl⟩⟩, rfl⟩, ?_⟩ | refine ⟨⟨Or.inl ⟨_, rfl, BSim_by rfl rfl⟩, rfl⟩, ?_⟩ | refine ⟨⟨Or.inr ⟨rfl, rfl⟩, rfl⟩, ?_⟩ | refine ⟨⟨Or.inr ⟨rfl, rfl, rfl⟩, rfl⟩, ?_⟩))) ⟨by omega, hn, by simp, e0⟩ ?_
  rintro ⟨k, m, s⟩ ⟨h1, h2, h3, h4⟩
  clear e0 ht
  have hd : (m : Int).tdiv 10 = ((m / 10 : Nat) : Int) := rfl
  have ht : 0 ≤ ((m : Int).tdiv 10).tmod 10 ∧ ((m : Int).tdiv 10).tmod 10 < 10 := by
    rw [hd, Int.tmod_eq_emod_of_nonneg (by omega)]; omega
  have e5 : UInt8.ofNat (48 + ((m : Int).tdiv 10).tmod 10).toNat = dig (m / 10) := rfl
  by_cases hk : k < 12
  · have e : 12 - k = (12 - (k + 1)) + 1 := by omega
    rw [e, decN] at h4
    by_cases h9 : 9 < m
    · rw [if_neg (by omega)] at h4
      ((repeat' ((first | (show WT _ _ (Tree.test _ _ _); first | refine WT_i64 (by omega) ?_ | refine WT_inR (by simp [inR]; omega) ?_ | refine WT_t rfl ?_ | refine WT_f rfl ?_ | refine WT_ixmZ (by first | assumption | omega) ?_ | refine WT_ixZ (by first | assumption | omega) ?_ | refine WT_ixmS (by first | assumption | omega) ?_ | refine WT_ixS (by first | assumption | omega) ?_ | refine WT_ixm (by first | assumption | omega) ?_ | refine WT_ixl (by first | assumption | omega) ?_ | refine WT_guard (by first | (simp [inR]; done) | (simp [inR]; omega)) ?_ | refine WT_yT (by first | assumption | omega | exact rfl) ?_ | refine WT_nT (by first | assumption | omega) ?_ | refine WT_yF (by first | assumption | omega) ?_ | refine WT_nF (by first | assumption | omega | exact rfl) ?_ | refine WT_nyT (by first | assumption | omega) ?_ | refine WT_nnT (by first | assumption | omega | exact rfl) ?_ | refine WT_nyF (by first | assumption | omega | exact rfl) ?_ | refine WT_nnF (by first | assumption | omega) ?_ | refine WT_byT (by assumption) ?_ | refine WT_bnT (by assumption) ?_ | refine WT_byF (by assumption) ?_ | refine WT_bnF (by assumption) ?_ | refine WT_yes (by first | assumption | omega | exact rfl) ?_ | refine WT_no (by first | assumption | omega) ?_ | refine WT_nyes (by first | assumption | omega) ?_ | refine WT_nno (by first | assumption | omega | exact rfl) ?_ | refine WT_ty (by assumption) ?_ | refine WT_f (by assumption) ?_ | refine WT_nby (by assumption) ?_ | refine WT_nbn (by assumption) ?_ | refine WT_dlenS (fun _ => ?_) (fun _ => ?_) | refine WT_dlen (fun _ => ?_) (fun _ => ?_) | refine WT_decT (fun _ => ?_) (fun _ => ?_) | refine WT_decF (fun _ => ?_) (fun _ => ?_) | refine WT_ndecT (fun _ => ?_) (fun _ => ?_) | refine WT_ndecF (fun _ => ?_) (fun _ => ?_) | refine WT_bT (fun _ => ?_) (fun _ => ?_) | refine WT_bF (fun _ => ?_) (fun _ => ?_) | refine WT_dec (fun _ => ?_) (fun _ => ?_) | refine WT_ndec (fun _ => ?_) (fun _ => ?_) | refine WT_nb (fun _ => ?_) (fun _ => ?_) | refine WT_test (fun _ => ?_) (fun _ => ?_)) | (show WT _ _ (Tree.call _ _ _); refine WT_call _ (by assumption) ?_) | (show WT _ _ (Tree.elem _ _ _); first | refine WT_elmZ (by first | assumption | omega) ?_ | refine WT_elmS (by first | assumption | omega) ?_ | refine WT_elm (by first | assumption | omega) ?_ | refine WT_elem _ (map_get _ _ _ (by first | assumption | omega)) ?_ | refine WT_elem _ (by assumption) ?_) | (show WT _ _ (Tree.byte _ _ _); first | refine WT_bytZ (by first | assumption | omega) ?_ | refine WT_bytS (by first | assumption | omega) ?_ | refine WT_byt (by first | assumption | omega) ?_ | refine WT_bytN (by first | assumption | omega) ?_) | (show WT _ _ (Tree.same _ _ _); refine WT_same rfl ?_)))))
      exact WT_again (k + 1, m / 10, UInt8.ofNat (48 + ((m : Int).tdiv 10).tmod 10).toNat :: s) ⟨by omega, by omega, by simp; omega, by rw [e5]; exact h4⟩ (by simp only; omega) (by ((refine Weak.of ?_ ?_ rfl rfl ?_ rfl rfl <;> repeat' first | exact trivial | refine ⟨⟨_, rfl, Or.inl ⟨rfl, rfl⟩⟩, ?_⟩ | refine ⟨⟨_, rfl, Or.inr (Or.inl ⟨rfl, by first | exact ⟨_, _, rfl, rfl, Or.inl rfl⟩ | exact ⟨_, _, rfl, rfl, Or.inr rfl⟩⟩)⟩, ?_⟩ | refine ⟨⟨_, rfl, Or.inr (Or.inr rfl)⟩, ?_⟩ | refine ⟨⟨_, rfl, VW_int (by assumption)⟩, ?_⟩ | refine ⟨⟨Or.inl ⟨_, rfl, ⟨rfl, rfl⟩⟩, rfl⟩, ?_⟩ | refine ⟨⟨Or.inl ⟨_, rfl, ⟨rfl, rfl, rfl⟩⟩, rfl⟩, ?_⟩ | refine ⟨⟨Or.inl ⟨_, rfl, BSim_by rfl rfl⟩, rfl⟩, ?_⟩ | refine ⟨⟨Or.inr ⟨rfl, rfl⟩, rfl⟩, ?_⟩ | refine ⟨⟨Or.inr ⟨rfl, rfl, rfl⟩, rfl⟩, ?_⟩)))
    · rw [if_pos (by omega)] at h4
      subst h4
      ((repeat' ((first | (show WT _ _ (Tree.test _ _ _); first | refine WT_i64 (by omega) ?_ | refine WT_inR (by simp [inR]; omega) ?_ | refine WT_t rfl ?_ | refine WT_f rfl ?_ | refine WT_ixmZ (by first | assumption | omega) ?_ | refine WT_ixZ (by first | assumption | omega) ?_ | refine WT_ixmS (by first | assumption | omega) ?_ | refine WT_ixS (by first | assumption | omega) ?_ | refine WT_ixm (by first | assumption | omega) ?_ | refine WT_ixl (by first | assumption | omega) ?_ | refine WT_guard (by first | (simp [inR]; done) | (simp [inR]; omega)) ?_ | refine WT_yT (by first | assumption | omega | exact rfl) ?_ | refine WT_nT (by first | assumption | omega) ?_ | refine WT_yF (by first | assumption | omega) ?_ | refine WT_nF (by first | assumption | omega | exact rfl) ?_ | refine WT_nyT (by first | assumption | omega) ?_ | refine WT_nnT (by first | assumption | omega | exact rfl) ?_ | refine WT_nyF (by first | assumption | omega | exact rfl) ?_ | refine WT_nnF (by first | assumption | omega) ?_ | refine WT_byT (by assumption) ?_ | refine WT_bnT (by assumption) ?_ | refine WT_byF (by assumption) ?_ | refine WT_bnF (by assumption) ?_ | refine WT_yes (by first | assumption | omega | exact rfl) ?_ | refine WT_no (by first | assumption | omega) ?_ | refine WT_nyes (by first | assumption | omega) ?_ | refine WT_nno (by first | assumption | omega | exact rfl) ?_ | refine WT_ty (by assumption) ?_ | refine WT_f (by assumption) ?_ | refine WT_nby (by assumption) ?_ | refine WT_nbn (by assumption) ?_ | refine WT_dlenS (fun _ => ?_) (fun _ => ?_) | refine WT_dlen (fun _ => ?_) (fun _ => ?_) | refine WT_decT (fun _ => ?_) (fun _ => ?_) | refine WT_decF (fun _ => ?_) (fun _ => ?_) | refine WT_ndecT (fun _ => ?_) (fun _ => ?_) | refine WT_ndecF (fun _ => ?_) (fun _ => ?_) | refine WT_bT (fun _ => ?_) (fun _ => ?_) | refine WT_bF (fun _ => ?_) (fun _ => ?_) | refine WT_dec (fun _ => ?_) (fun _ => ?_) | refine WT_ndec (fun _ => ?_) (fun _ => ?_) | refine WT_nb (fun _ => ?_) (fun _ => ?_) | refine WT_test (fun _ => ?_) (fun _ => ?_)) | (show WT _ _ (Tree.call _ _ _); refine WT_call _ (by assumption) ?_) | (show WT _ _ (Tree.elem _ _ _); first | refine WT_elmZ (by first | assumption | omega) ?_ | refine WT_elmS (by first | assumption | omega) ?_ | refine WT_elm (by first | assumption | omega) ?_ | refine WT_elem _ (map_get _ _ _ (by first | assumption | omega)) ?_ | refine WT_elem _ (by assumption) ?_) | (show WT _ _ (Tree.byte _ _ _); first | refine WT_bytZ (by first | assumption | omega) ?_ | refine WT_bytS (by first | assumption | omega) ?_ | refine WT_byt (by first | assumption | omega) ?_ | refine WT_bytN (by first | assumption | omega) ?_) | (show WT _ _ (Tree.same _ _ _); refine WT_same rfl ?_)))))
      exact WT_ret (P := P0) rfl rfl rfl rfl rfl
  · have e : 12 - k = 0 := by omega
    rw [e, decN] at h4
    subst h4
    ((repeat' ((first | (show WT _ _ (Tree.test _ _ _); first | refine WT_i64 (by omega) ?_ | refine WT_inR (by simp [inR]; omega) ?_ | refine WT_t rfl ?_ | refine WT_f rfl ?_ | refine WT_ixmZ (by first | assumption | omega) ?_ | refine WT_ixZ (by first | assumption | omega) ?_ | refine WT_ixmS (by first | assumption | omega) ?_ | refine WT_ixS (by first | assumption | omega) ?_ | refine WT_ixm (by first | assumption | omega) ?_ | refine WT_ixl (by first | assumption | omega) ?_ | refine WT_guard (by first | (simp [inR]; done) | (simp [inR]; omega)) ?_ | refine WT_yT (by first | assumption | omega | exact rfl) ?_ | refine WT_nT (by first | assumption | omega) ?_ | refine WT_yF (by first | assumption | omega) ?_ | refine WT_nF (by first | assumption | omega | exact rfl) ?_ | refine WT_nyT (by first | assumption | omega) ?_ | refine WT_nnT (by first | assumption | omega | exact rfl) ?_ | refine WT_nyF (by first | assumption | omega | exact rfl) ?_ | refine WT_nnF (by first | assumption | omega) ?_ | refine WT_byT (by assumption) ?_ | refine WT_bnT (by assumption) ?_ | refine WT_byF (by assumption) ?_ | refine WT_bnF (by assumption) ?_ | refine WT_yes (by first | assumption | omega | exact rfl) ?_ | refine WT_no (by first | assumption | omega) ?_ | refine WT_nyes (by first | assumption | omega) ?_ | refine WT_nno (by first | assumption | omega | exact rfl) ?_ | refine WT_ty (by assumption) ?_ | refine WT_f (by assumption) ?_ | refine WT_nby (by assumption) ?_ | refine WT_nbn (by assumption) ?_ | refine WT_dlenS (fun _ => ?_) (fun _ => ?_) | refine WT_dlen (fun _ => ?_) (fun _ => ?_) | refine WT_decT (fun _ => ?_) (fun _ => ?_) | refine WT_decF (fun _ => ?_) (fun _ => ?_) | refine WT_ndecT (fun _ => ?_) (fun _ => ?_) | refine WT_ndecF (fun _ => ?_) (fun _ => ?_) | refine WT_bT (fun _ => ?_) (fun _ => ?_) | refine WT_bF (fun _ => ?_) (fun _ => ?_) | refine WT_dec (fun _ => ?_) (fun _ => ?_) | refine WT_ndec (fun _ => ?_) (fun _ => ?_) | refine WT_nb (fun _ => ?_) (fun _ => ?_) | refine WT_test (fun _ => ?_) (fun _ => ?_)) | (show WT _ _ (Tree.call _ _ _); refine WT_call _ (by assumption) ?_) | (show WT _ _ (Tree.elem _ _ _); first | refine WT_elmZ (by first | assumption | omega) ?_ | refine WT_elmS (by first | assumption | omega) ?_ | refine WT_elm (by first | assumption | omega) ?_ | refine WT_elem _ (map_get _ _ _ (by first | assumption | omega)) ?_ | refine WT_elem _ (by assumption) ?_) | (show WT _ _ (Tree.byte _ _ _); first | refine WT_bytZ (by first | assumption | omega) ?_ | refine WT_bytS (by first | assumption | omega) ?_ | refine WT_byt (by first | assumption | omega) ?_ | refine WT_bytN (by first | assumption | omega) ?_) | (show WT _ _ (Tree.same _ _ _); refine WT_same rfl ?_)))))
    exact WT_ret (P := P0) rfl rfl rfl rfl rfl
end Uw.Tryd

/- Readings of arguments as words. -/
set_option linter.unusedVariables false
namespace Uw.Tryd
open Go Uw Go.Proofs Go.RowKit

theorem toks_of {ds : List Dat} (h : HasTy (.slice 4 (.struct [.int .i64, .str, .int .i64, .int .i64])) ds) : ∃ l, ds = [toksD l] ∧ l.length ≤ reachBytes := by
  obtain ⟨xs, rfl, hlen, hx⟩ := h
  obtain ⟨l, rfl, _⟩ := list_of (f := tokL) (Q := fun _ => True) (fun x hx' => by
    obtain ⟨_, _, rfl, ⟨a, rfl, _⟩, _, _, rfl, ⟨b, rfl, _⟩, _, _, rfl, ⟨c, rfl, _⟩, _, _, rfl, ⟨d, rfl, _⟩, rfl⟩ := hx x hx'
    exact ⟨⟨a, b, c, d⟩, rfl, trivial⟩)
  exact ⟨l, rfl, by simpa using hlen⟩
end Uw.Tryd
