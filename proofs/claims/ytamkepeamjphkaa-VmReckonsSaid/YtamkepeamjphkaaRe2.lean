/- Re2: Vz2 (merged by merge.py from the working texts). -/
import Derived.Test.YtamkepeamjphkaaRe
set_option linter.unusedSimpArgs false
set_option linter.unnecessarySimpa false
set_option linter.unusedVariables false

/- RECKONS, case 2 (printed by printz.py). -/
set_option linter.unusedVariables false
set_option linter.unusedSimpArgs false
namespace Uw.Try
open Go Uw Go.Proofs

set_option maxRecDepth 100000 in
set_option maxHeartbeats 1000000 in
theorem reck2 (a b k : Int) (ha : 0 ≤ a ∧ a < 4294967296) (hb : 0 ≤ b ∧ b < 4294967296) (hk : 0 ≤ k ∧ k < 256) (hj : k.tmod 6 = 2) : Ret Try.prog 6 [.int .u32 a, .int .u32 b, .int .u8 k] (.bool true) := by
  have va : isVal a = true := by simp [isVal]; omega
  have vb : isVal b = true := by simp [isVal]; omega
  have hn : Ret Try.prog 21 [codeD (plainC (rIns a b 8) 0), frameD (rF 0 0 [])] (outD (rF 0 0 []) (.ok (rF 4 4 []) ⟨2, 1, rOp 8 a b, (0, 0, 0, 0), []⟩)) := by
    rw [← r_next a b 8 va vb (by simp)]
    exact s21 _ _ (tiny_plain _ _ _ (by simp [rIns]) (by simp [rF]) (by simp [rF]) (by simp [rF]) (by simp [rF]))
  have hs : Ret Try.prog 12 [codeD (plainC (rIns a b 8) 0), I 0, ints [], I 3, ints []] (frErr (rF 0 0 [], 0)) := start_plain (rIns a b 8) 0 3 [] (by decide) (by decide) (by decide) (by decide)
  have w1 := u32_wrap (a + b); have w2 := u32_wrap (a - b); have w3 := u32_wrap (a * b)
  have hp : ∀ x : Int, 0 ≤ x % 4294967296 ∧ x % 4294967296 < 4294967296 := fun x => by omega
  have p3 := hp (a * b)
  have htd : (a + b).tdiv 2 = (a + b) / 2 := Int.tdiv_eq_ediv_of_nonneg (by omega)
  have hs1 : a + b < 4294967296 ∨ 4294967296 ≤ a + b := by omega
  have hm0 : 0 ≤ a * b := Int.mul_nonneg ha.1 hb.1
  have hm1 : a * b < 4294967296 ∨ 4294967296 ≤ a * b := by omega
  rcases Int.lt_trichotomy a b with c1 | c1 | c1 <;> rcases hs1 with s1 | s1 <;> rcases hm1 with m1 | m1
  all_goals
    refine Ret_by is6 rfl ?_
    refine WT_call _ s10 ?_
    refine WT_t (by simp [inR]; omega) ?_
    refine WT_f rfl ?_
    first | refine WT_t (by simp; omega) ?_ | refine WT_f (by simp; omega) ?_
    first | refine WT_t (by simp; omega) ?_ | refine WT_f (by simp; omega) ?_
    first | refine WT_t (by simp [inR]; omega) ?_ | refine WT_f (by simp [inR]; omega) ?_
    first | refine WT_t (by simp [inR]; omega) ?_ | refine WT_t (by rw [w1]; simp [inR]; omega) ?_
    first | refine WT_t (by simp [inR]; omega) ?_ | refine WT_f (by simp [inR]; omega) ?_
    first | refine WT_t (by simp [inR]; omega) ?_ | refine WT_t (by rw [w2]; simp [inR]; omega) ?_
    first | refine WT_t (by simp [inR]; omega) ?_ | refine WT_f (by simp [inR]; omega) ?_
    first | refine WT_t (by simp [inR]; omega) ?_ | refine WT_t (by rw [w3]; simp [inR]; omega) ?_
    refine WT_t (by simp [inR]; omega) ?_
    refine WT_t (by simp [inR]; omega) ?_
    refine WT_t (by simp [inR]; omega) ?_
    refine WT_f rfl ?_
    refine WT_t (by rw [htd]; simp [inR]; omega) ?_
    refine WT_t (by rw [htd]; simp [inR]; omega) ?_
    refine WT_t (by simp [inR]; omega) ?_
    refine WT_t (by simp [inR]; omega) ?_
    refine WT_t (by rw [hj]; rfl) ?_
    refine WT_elem [I 8] (by rw [hj]; rfl) ?_
    refine WT_callL (codeD (plainC (rIns a b 8) 0)) (s24 (rIns a b 8) 0) (.cons (.slice (.refl _)) (.refl _)) ?_
    refine WT_callL (frErr (rF 0 0 [], 0)) hs (.cons (.refl _) (.cons (.refl _) (.cons (.nil _) (.cons (.refl _) (.cons (.nil _) (.refl _)))))) ?_
    refine WT_call _ hn ?_
    repeat (refine WT_t rfl ?_)
    refine WT_t (by rw [hj]; rfl) ?_
    refine WT_elem _ (by rw [hj]; rfl) ?_
    refine WT_t rfl ?_
    refine WT_t (by simp [rOp, wrapS, w3] <;> omega) ?_
    repeat (refine WT_t rfl ?_)
    exact WT_ret rfl rfl rfl rfl rfl

end Uw.Try
