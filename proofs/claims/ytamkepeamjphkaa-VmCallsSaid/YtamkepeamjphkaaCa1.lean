/- Ca1: We1 We2 We3 (merged by merge.py from the working texts). -/
import Derived.Test.YtamkepeamjphkaaCa0
set_option linter.unusedSimpArgs false
set_option linter.unnecessarySimpa false
set_option linter.unusedVariables false

/- CALLS, operation 1 (printed by printc.py). -/
set_option linter.unusedVariables false
set_option linter.unusedSimpArgs false
namespace Uw.Try
open Go Uw Go.Proofs

set_option maxRecDepth 100000 in
set_option maxHeartbeats 2000000 in
theorem calls1F (k a b vl : Int) (hk : 0 ≤ k ∧ k < 256) (ha : 0 ≤ a ∧ a < 4294967296) (hb : 0 ≤ b ∧ b < 4294967296) (hvl : 0 ≤ vl ∧ vl < 4294967296) (hj : k.tmod 7 = 0) : Ret Try.prog 8 [.agg [.int .u8 k, .int .u32 a, .int .u32 b, .int .u32 vl, .bool false]] (.bool true) := by
  have va : isVal a = true := by simp [isVal]; omega
  have vb : isVal b = true := by simp [isVal]; omega
  have hK : 1 + k.tmod 7 = 1 := by omega
  have hv := c_value (1 + k.tmod 7) vl false
  have eV : valueS (1 + k.tmod 7) vl false = 0 := by rw [hK]; rfl
  have hS : Ret Try.prog 12 [codeD (cC (1 + k.tmod 7) a b 1), I 0, ints [], I 1, ints []] (frErr (cF 0 [], 0)) := start_plain (cIns (1 + k.tmod 7) a b 1) 0 1 [] (by decide) (by decide) (by decide) (by decide)
  have h1 := s21 (cC (1 + k.tmod 7) a b 1) (cF 0 []) (c_tiny _ _ _ _ _ (by simp [cF]) (by simp [cF]) (by simp [cF]) (by simp [cF]))
  rw [c_n1 _ a b hK va vb] at h1
  have h2 := s23a (cF 4 [9, a]) ⟨3, 0, 0, (1 + k.tmod 7, 0, keyS b, 0), []⟩ [valueS (1 + k.tmod 7) vl false] (c_tinyF _ _ (by simp)) (by simp)
  rw [c_t1 a b _ hv] at h2
  have h3 := s21 (cC (1 + k.tmod 7) a b 1) (cF 4 [9, a, valueS (1 + k.tmod 7) vl false]) (c_tiny _ _ _ _ _ (by simp [cF]) (by simp [cF]) (by simp [cF]) (by simp [cF]))
  rw [c_e1 _ a b _ va vb hv] at h3
  have h18 := s18 (1 + k.tmod 7) 0 (keyS b) (0) vl false
  refine Ret_by is8 rfl ?_
  refine WT_call _ s10 ?_
  refine WT_t (by simp [inR]; omega) ?_
  refine WT_f rfl ?_
  refine WT_t (by rw [hK]; rfl) ?_
  refine WT_t (by rw [hK]; rfl) ?_
  refine WT_t (by rw [hK]; rfl) ?_
  refine WT_elem [I 1] (by rw [hK]; rfl) ?_
  refine WT_t (by simp [inR]; omega) ?_
  refine WT_t (by simp [inR]; omega) ?_
  refine WT_callL (codeD (cC (1 + k.tmod 7) a b 1)) (s24 (cIns (1 + k.tmod 7) a b 1) 0) (.cons (.slice (.refl _)) (.refl _)) ?_
  refine WT_callL (frErr (cF 0 [], 0)) hS (.cons (.refl _) (.cons (.refl _) (.cons (.nil _) (.cons (.refl _) (.cons (.nil _) (.refl _)))))) ?_
  refine WT_call _ h1 ?_
  refine WT_t (by simp [inR]; omega) ?_
  refine WT_t (by simp [inR]; omega) ?_
  repeat (first | refine WT_t rfl ?_ | refine WT_f rfl ?_)
  refine WT_t (by simp) ?_
  repeat (first | refine WT_t rfl ?_ | refine WT_f rfl ?_)
  refine WT_rounds 3 ?_
  refine WT_t rfl ?_
  refine WT_t rfl ?_
  refine WT_elem [I 9] rfl ?_
  refine WT_t rfl ?_
  refine WT_elem [I 9] rfl ?_
  refine WT_f (by simp) ?_
  refine WT_t rfl ?_
  refine WT_done ?_
  refine WT_t rfl ?_
  refine WT_t rfl ?_
  refine WT_elem [I a] rfl ?_
  refine WT_t rfl ?_
  refine WT_elem [I a] rfl ?_
  refine WT_f (by simp) ?_
  refine WT_t rfl ?_
  refine WT_done ?_
  refine WT_f rfl ?_
  refine WT_done ?_
  repeat (refine WT_t rfl ?_)
  refine WT_t (by rw [hK]; rfl) ?_
  repeat (refine WT_t rfl ?_)
  refine WT_elem [I b] rfl ?_
  refine WT_f rfl ?_
  repeat (refine WT_t rfl ?_)
  refine WT_elem [I b] rfl ?_
  refine WT_draw ⟨[(6, .d (.int .u32 vl)), (7, .d (.bool false)), (8, .d (.bool true)), (9, .d (I (1 + k.tmod 7))), (10, .d (I 1)), (11, .ptr 1 0), (15, .ptr 4 0), (19, .ref 5 1 0 3), (20, .ptr 6 0), (21, .d (I 0))], [(1, .var (cV (cC (1 + k.tmod 7) a b 1))), (4, .var (askV ⟨3, 0, 0, (1 + k.tmod 7, 0, keyS b, 0), []⟩)), (5, .mt 1 1 [[I (b.tmod 65536)], [I (0)], [I (0)]]), (6, .var (V.ofDat (frameD (cF 4 [9, a, valueS (1 + k.tmod 7) vl false]))).cells)], 7, [], 0⟩ ?_ ?_
  · refine WT_t (by simp [inR]; omega) ?_
    refine WT_call _ h18 ?_
    refine WT_callL _ h2 (.cons (.refl _) (.cons (.refl _) (.cons (.slice (.refl _)) (.refl _)))) ?_
    iterate 5 (refine WT_same (by kernel_rfl) ?_)
    refine WT_t (by simp [inR]; omega) ?_
    iterate 2 (refine WT_same (by kernel_rfl) ?_)
    refine WT_call _ h18 ?_
    iterate 2 (refine WT_same (by kernel_rfl) ?_)
    refine WT_callL _ h2 (.cons (.refl _) (.cons (.refl _) (.cons (.slice (.refl _)) (.refl _)))) ?_
    iterate 4 (refine WT_same (by kernel_rfl) ?_)
    iterate 1 (refine WT_same (by kernel_rfl) ?_)
    refine WT_done (.inl ⟨rfl, ?_⟩)
    exact Weak.eqs [] (by kernel_rfl) (by kernel_rfl) (by kernel_rfl) (by kernel_rfl) (by kernel_rfl) (by kernel_rfl) (by kernel_rfl) (by kernel_rfl) (by kernel_rfl) (by kernel_rfl)
  refine WT_call _ h3 ?_
  refine WT_f rfl ?_
  repeat (refine WT_t rfl ?_)
  refine WT_elem [I (b.tmod 65536)] rfl ?_
  repeat (refine WT_t rfl ?_)
  have eK : keyS b = b.tmod 65536 := by rw [Int.tmod_eq_emod_of_nonneg (by omega)]; rfl
  refine WT_t (by rw [eK]; simp) ?_
  repeat (refine WT_t rfl ?_)
  refine WT_elem [I (0)] rfl ?_
  repeat (refine WT_t rfl ?_)
  try (refine WT_t (by rw [eV]; simp) ?_)
  repeat (refine WT_t rfl ?_)
  exact WT_ret rfl rfl rfl rfl rfl

set_option maxRecDepth 100000 in
set_option maxHeartbeats 2000000 in
theorem calls1T (k a b vl : Int) (hk : 0 ≤ k ∧ k < 256) (ha : 0 ≤ a ∧ a < 4294967296) (hb : 0 ≤ b ∧ b < 4294967296) (hvl : 0 ≤ vl ∧ vl < 4294967296) (hj : k.tmod 7 = 0) : Ret Try.prog 8 [.agg [.int .u8 k, .int .u32 a, .int .u32 b, .int .u32 vl, .bool true]] (.bool true) := by
  have va : isVal a = true := by simp [isVal]; omega
  have vb : isVal b = true := by simp [isVal]; omega
  have hK : 1 + k.tmod 7 = 1 := by omega
  have hv := c_value (1 + k.tmod 7) vl true
  have eV : valueS (1 + k.tmod 7) vl true = (vl + 1) % 4294967296 := by rw [hK]; simp [valueS, wrapS]
  have hS : Ret Try.prog 12 [codeD (cC (1 + k.tmod 7) a b 1), I 0, ints [], I 1, ints []] (frErr (cF 0 [], 0)) := start_plain (cIns (1 + k.tmod 7) a b 1) 0 1 [] (by decide) (by decide) (by decide) (by decide)
  have h1 := s21 (cC (1 + k.tmod 7) a b 1) (cF 0 []) (c_tiny _ _ _ _ _ (by simp [cF]) (by simp [cF]) (by simp [cF]) (by simp [cF]))
  rw [c_n1 _ a b hK va vb] at h1
  have h2 := s23a (cF 4 [9, a]) ⟨3, 0, 0, (1 + k.tmod 7, 0, keyS b, 0), []⟩ [valueS (1 + k.tmod 7) vl true] (c_tinyF _ _ (by simp)) (by simp)
  rw [c_t1 a b _ hv] at h2
  have h3 := s21 (cC (1 + k.tmod 7) a b 1) (cF 4 [9, a, valueS (1 + k.tmod 7) vl true]) (c_tiny _ _ _ _ _ (by simp [cF]) (by simp [cF]) (by simp [cF]) (by simp [cF]))
  rw [c_e1 _ a b _ va vb hv] at h3
  have h18 := s18 (1 + k.tmod 7) 0 (keyS b) (0) vl true
  refine Ret_by is8 rfl ?_
  refine WT_call _ s10 ?_
  refine WT_t (by simp [inR]; omega) ?_
  refine WT_f rfl ?_
  refine WT_t (by rw [hK]; rfl) ?_
  refine WT_t (by rw [hK]; rfl) ?_
  refine WT_t (by rw [hK]; rfl) ?_
  refine WT_elem [I 1] (by rw [hK]; rfl) ?_
  refine WT_t (by simp [inR]; omega) ?_
  refine WT_t (by simp [inR]; omega) ?_
  refine WT_callL (codeD (cC (1 + k.tmod 7) a b 1)) (s24 (cIns (1 + k.tmod 7) a b 1) 0) (.cons (.slice (.refl _)) (.refl _)) ?_
  refine WT_callL (frErr (cF 0 [], 0)) hS (.cons (.refl _) (.cons (.refl _) (.cons (.nil _) (.cons (.refl _) (.cons (.nil _) (.refl _)))))) ?_
  refine WT_call _ h1 ?_
  refine WT_t (by simp [inR]; omega) ?_
  refine WT_t (by simp [inR]; omega) ?_
  repeat (first | refine WT_t rfl ?_ | refine WT_f rfl ?_)
  refine WT_t (by simp) ?_
  repeat (first | refine WT_t rfl ?_ | refine WT_f rfl ?_)
  refine WT_rounds 3 ?_
  refine WT_t rfl ?_
  refine WT_t rfl ?_
  refine WT_elem [I 9] rfl ?_
  refine WT_t rfl ?_
  refine WT_elem [I 9] rfl ?_
  refine WT_f (by simp) ?_
  refine WT_t rfl ?_
  refine WT_done ?_
  refine WT_t rfl ?_
  refine WT_t rfl ?_
  refine WT_elem [I a] rfl ?_
  refine WT_t rfl ?_
  refine WT_elem [I a] rfl ?_
  refine WT_f (by simp) ?_
  refine WT_t rfl ?_
  refine WT_done ?_
  refine WT_f rfl ?_
  refine WT_done ?_
  repeat (refine WT_t rfl ?_)
  refine WT_t (by rw [hK]; rfl) ?_
  repeat (refine WT_t rfl ?_)
  refine WT_elem [I b] rfl ?_
  refine WT_f rfl ?_
  repeat (refine WT_t rfl ?_)
  refine WT_elem [I b] rfl ?_
  refine WT_draw ⟨[(6, .d (.int .u32 vl)), (7, .d (.bool true)), (8, .d (.bool true)), (9, .d (I (1 + k.tmod 7))), (10, .d (I 1)), (11, .ptr 1 0), (15, .ptr 4 0), (19, .ref 5 1 0 3), (20, .ptr 6 0), (21, .d (I 0))], [(1, .var (cV (cC (1 + k.tmod 7) a b 1))), (4, .var (askV ⟨3, 0, 0, (1 + k.tmod 7, 0, keyS b, 0), []⟩)), (5, .mt 1 1 [[I (b.tmod 65536)], [I (0)], [I (0)]]), (6, .var (V.ofDat (frameD (cF 4 [9, a, valueS (1 + k.tmod 7) vl true]))).cells)], 7, [], 0⟩ ?_ ?_
  · refine WT_t (by simp [inR]; omega) ?_
    refine WT_call _ h18 ?_
    refine WT_callL _ h2 (.cons (.refl _) (.cons (.refl _) (.cons (.slice (.refl _)) (.refl _)))) ?_
    iterate 5 (refine WT_same (by kernel_rfl) ?_)
    refine WT_t (by simp [inR]; omega) ?_
    iterate 2 (refine WT_same (by kernel_rfl) ?_)
    refine WT_call _ h18 ?_
    iterate 2 (refine WT_same (by kernel_rfl) ?_)
    refine WT_callL _ h2 (.cons (.refl _) (.cons (.refl _) (.cons (.slice (.refl _)) (.refl _)))) ?_
    iterate 4 (refine WT_same (by kernel_rfl) ?_)
    iterate 1 (refine WT_same (by kernel_rfl) ?_)
    refine WT_done (.inl ⟨rfl, ?_⟩)
    exact Weak.eqs [] (by kernel_rfl) (by kernel_rfl) (by kernel_rfl) (by kernel_rfl) (by kernel_rfl) (by kernel_rfl) (by kernel_rfl) (by kernel_rfl) (by kernel_rfl) (by kernel_rfl)
  refine WT_call _ h3 ?_
  refine WT_t rfl ?_
  refine WT_f (by rw [hK]; rfl) ?_
  refine WT_t rfl ?_
  refine WT_f rfl ?_
  refine WT_t rfl ?_
  refine WT_t rfl ?_
  refine WT_t (by simp [inR]; omega) ?_
  refine WT_t (by simp [inR]; omega) ?_
  refine WT_f rfl ?_
  repeat (refine WT_t rfl ?_)
  refine WT_elem [I (b.tmod 65536)] rfl ?_
  repeat (refine WT_t rfl ?_)
  have eK : keyS b = b.tmod 65536 := by rw [Int.tmod_eq_emod_of_nonneg (by omega)]; rfl
  refine WT_t (by rw [eK]; simp) ?_
  repeat (refine WT_t rfl ?_)
  refine WT_elem [I (0)] rfl ?_
  repeat (refine WT_t rfl ?_)
  try (refine WT_t (by rw [eV]; rw [Int.tmod_eq_emod_of_nonneg (by omega)]; simp) ?_)
  repeat (refine WT_t rfl ?_)
  exact WT_ret rfl rfl rfl rfl rfl

end Uw.Try

/- CALLS, operation 2 (printed by printc.py). -/
set_option linter.unusedVariables false
set_option linter.unusedSimpArgs false
namespace Uw.Try
open Go Uw Go.Proofs

set_option maxRecDepth 100000 in
set_option maxHeartbeats 2000000 in
theorem calls2F (k a b vl : Int) (hk : 0 ≤ k ∧ k < 256) (ha : 0 ≤ a ∧ a < 4294967296) (hb : 0 ≤ b ∧ b < 4294967296) (hvl : 0 ≤ vl ∧ vl < 4294967296) (hj : k.tmod 7 = 1) : Ret Try.prog 8 [.agg [.int .u8 k, .int .u32 a, .int .u32 b, .int .u32 vl, .bool false]] (.bool true) := by
  have va : isVal a = true := by simp [isVal]; omega
  have vb : isVal b = true := by simp [isVal]; omega
  have hK : 1 + k.tmod 7 = 2 := by omega
  have hv := c_value (1 + k.tmod 7) vl false
  have eV : valueS (1 + k.tmod 7) vl false = 0 := by rw [hK]; rfl
  have hS : Ret Try.prog 12 [codeD (cC (1 + k.tmod 7) a b 2), I 0, ints [], I 1, ints []] (frErr (cF 0 [], 0)) := start_plain (cIns (1 + k.tmod 7) a b 2) 0 1 [] (by decide) (by decide) (by decide) (by decide)
  have h1 := s21 (cC (1 + k.tmod 7) a b 2) (cF 0 []) (c_tiny _ _ _ _ _ (by simp [cF]) (by simp [cF]) (by simp [cF]) (by simp [cF]))
  rw [c_n2 _ a b hK va vb] at h1
  have h2 := s23a (cF 4 [9]) ⟨3, 0, 0, (1 + k.tmod 7, 0, keyS a, b), []⟩ [valueS (1 + k.tmod 7) vl false] (c_tinyF _ _ (by simp)) (by simp)
  rw [c_t2 a b _ hv] at h2
  have h3 := s21 (cC (1 + k.tmod 7) a b 2) (cF 4 [9, valueS (1 + k.tmod 7) vl false]) (c_tiny _ _ _ _ _ (by simp [cF]) (by simp [cF]) (by simp [cF]) (by simp [cF]))
  rw [c_e2 _ a b _ va vb hv] at h3
  have h18 := s18 (1 + k.tmod 7) 0 (keyS a) (b) vl false
  refine Ret_by is8 rfl ?_
  refine WT_call _ s10 ?_
  refine WT_t (by simp [inR]; omega) ?_
  refine WT_f rfl ?_
  refine WT_t (by rw [hK]; rfl) ?_
  refine WT_t (by rw [hK]; rfl) ?_
  refine WT_t (by rw [hK]; rfl) ?_
  refine WT_elem [I 2] (by rw [hK]; rfl) ?_
  refine WT_t (by simp [inR]; omega) ?_
  refine WT_t (by simp [inR]; omega) ?_
  refine WT_callL (codeD (cC (1 + k.tmod 7) a b 2)) (s24 (cIns (1 + k.tmod 7) a b 2) 0) (.cons (.slice (.refl _)) (.refl _)) ?_
  refine WT_callL (frErr (cF 0 [], 0)) hS (.cons (.refl _) (.cons (.refl _) (.cons (.nil _) (.cons (.refl _) (.cons (.nil _) (.refl _)))))) ?_
  refine WT_call _ h1 ?_
  refine WT_t (by simp [inR]; omega) ?_
  refine WT_t (by simp [inR]; omega) ?_
  repeat (first | refine WT_t rfl ?_ | refine WT_f rfl ?_)
  refine WT_t (by simp) ?_
  repeat (first | refine WT_t rfl ?_ | refine WT_f rfl ?_)
  refine WT_rounds 2 ?_
  refine WT_t rfl ?_
  refine WT_t rfl ?_
  refine WT_elem [I 9] rfl ?_
  refine WT_t rfl ?_
  refine WT_elem [I 9] rfl ?_
  refine WT_f (by simp) ?_
  refine WT_t rfl ?_
  refine WT_done ?_
  refine WT_f rfl ?_
  refine WT_done ?_
  repeat (refine WT_t rfl ?_)
  refine WT_t (by rw [hK]; rfl) ?_
  repeat (refine WT_t rfl ?_)
  refine WT_elem [I a] rfl ?_
  refine WT_f rfl ?_
  repeat (refine WT_t rfl ?_)
  refine WT_elem [I a] rfl ?_
  refine WT_draw ⟨[(6, .d (.int .u32 vl)), (7, .d (.bool false)), (8, .d (.bool true)), (9, .d (I (1 + k.tmod 7))), (10, .d (I 2)), (11, .ptr 1 0), (15, .ptr 4 0), (19, .ref 5 1 0 4), (20, .ptr 6 0), (21, .d (I 0))], [(1, .var (cV (cC (1 + k.tmod 7) a b 2))), (4, .var (askV ⟨3, 0, 0, (1 + k.tmod 7, 0, keyS a, b), []⟩)), (5, .mt 1 1 [[I (a.tmod 65536)], [I (b)], [I (0)], [I (0)]]), (6, .var (V.ofDat (frameD (cF 4 [9, valueS (1 + k.tmod 7) vl false]))).cells)], 7, [], 0⟩ ?_ ?_
  · refine WT_t (by simp [inR]; omega) ?_
    refine WT_call _ h18 ?_
    refine WT_callL _ h2 (.cons (.refl _) (.cons (.refl _) (.cons (.slice (.refl _)) (.refl _)))) ?_
    iterate 5 (refine WT_same (by kernel_rfl) ?_)
    refine WT_t (by simp [inR]; omega) ?_
    iterate 2 (refine WT_same (by kernel_rfl) ?_)
    refine WT_call _ h18 ?_
    iterate 2 (refine WT_same (by kernel_rfl) ?_)
    refine WT_callL _ h2 (.cons (.refl _) (.cons (.refl _) (.cons (.slice (.refl _)) (.refl _)))) ?_
    iterate 4 (refine WT_same (by kernel_rfl) ?_)
    iterate 1 (refine WT_same (by kernel_rfl) ?_)
    refine WT_done (.inl ⟨rfl, ?_⟩)
    exact Weak.eqs [] (by kernel_rfl) (by kernel_rfl) (by kernel_rfl) (by kernel_rfl) (by kernel_rfl) (by kernel_rfl) (by kernel_rfl) (by kernel_rfl) (by kernel_rfl) (by kernel_rfl)
  refine WT_call _ h3 ?_
  refine WT_f rfl ?_
  repeat (refine WT_t rfl ?_)
  refine WT_elem [I (a.tmod 65536)] rfl ?_
  repeat (refine WT_t rfl ?_)
  have eK : keyS a = a.tmod 65536 := by rw [Int.tmod_eq_emod_of_nonneg (by omega)]; rfl
  refine WT_t (by rw [eK]; simp) ?_
  repeat (refine WT_t rfl ?_)
  refine WT_elem [I (b)] rfl ?_
  repeat (refine WT_t rfl ?_)
  refine WT_t (by simp) ?_
  repeat (refine WT_t rfl ?_)
  try (refine WT_t (by rw [eV]; simp) ?_)
  repeat (refine WT_t rfl ?_)
  exact WT_ret rfl rfl rfl rfl rfl

set_option maxRecDepth 100000 in
set_option maxHeartbeats 2000000 in
theorem calls2T (k a b vl : Int) (hk : 0 ≤ k ∧ k < 256) (ha : 0 ≤ a ∧ a < 4294967296) (hb : 0 ≤ b ∧ b < 4294967296) (hvl : 0 ≤ vl ∧ vl < 4294967296) (hj : k.tmod 7 = 1) : Ret Try.prog 8 [.agg [.int .u8 k, .int .u32 a, .int .u32 b, .int .u32 vl, .bool true]] (.bool true) := by
  have va : isVal a = true := by simp [isVal]; omega
  have vb : isVal b = true := by simp [isVal]; omega
  have hK : 1 + k.tmod 7 = 2 := by omega
  have hv := c_value (1 + k.tmod 7) vl true
  have eV : valueS (1 + k.tmod 7) vl true = 1 := by rw [hK]; simp [valueS, wrapS]
  have hS : Ret Try.prog 12 [codeD (cC (1 + k.tmod 7) a b 2), I 0, ints [], I 1, ints []] (frErr (cF 0 [], 0)) := start_plain (cIns (1 + k.tmod 7) a b 2) 0 1 [] (by decide) (by decide) (by decide) (by decide)
  have h1 := s21 (cC (1 + k.tmod 7) a b 2) (cF 0 []) (c_tiny _ _ _ _ _ (by simp [cF]) (by simp [cF]) (by simp [cF]) (by simp [cF]))
  rw [c_n2 _ a b hK va vb] at h1
  have h2 := s23a (cF 4 [9]) ⟨3, 0, 0, (1 + k.tmod 7, 0, keyS a, b), []⟩ [valueS (1 + k.tmod 7) vl true] (c_tinyF _ _ (by simp)) (by simp)
  rw [c_t2 a b _ hv] at h2
  have h3 := s21 (cC (1 + k.tmod 7) a b 2) (cF 4 [9, valueS (1 + k.tmod 7) vl true]) (c_tiny _ _ _ _ _ (by simp [cF]) (by simp [cF]) (by simp [cF]) (by simp [cF]))
  rw [c_e2 _ a b _ va vb hv] at h3
  have h18 := s18 (1 + k.tmod 7) 0 (keyS a) (b) vl true
  refine Ret_by is8 rfl ?_
  refine WT_call _ s10 ?_
  refine WT_t (by simp [inR]; omega) ?_
  refine WT_f rfl ?_
  refine WT_t (by rw [hK]; rfl) ?_
  refine WT_t (by rw [hK]; rfl) ?_
  refine WT_t (by rw [hK]; rfl) ?_
  refine WT_elem [I 2] (by rw [hK]; rfl) ?_
  refine WT_t (by simp [inR]; omega) ?_
  refine WT_t (by simp [inR]; omega) ?_
  refine WT_callL (codeD (cC (1 + k.tmod 7) a b 2)) (s24 (cIns (1 + k.tmod 7) a b 2) 0) (.cons (.slice (.refl _)) (.refl _)) ?_
  refine WT_callL (frErr (cF 0 [], 0)) hS (.cons (.refl _) (.cons (.refl _) (.cons (.nil _) (.cons (.refl _) (.cons (.nil _) (.refl _)))))) ?_
  refine WT_call _ h1 ?_
  refine WT_t (by simp [inR]; omega) ?_
  refine WT_t (by simp [inR]; omega) ?_
  repeat (first | refine WT_t rfl ?_ | refine WT_f rfl ?_)
  refine WT_t (by simp) ?_
  repeat (first | refine WT_t rfl ?_ | refine WT_f rfl ?_)
  refine WT_rounds 2 ?_
  refine WT_t rfl ?_
  refine WT_t rfl ?_
  refine WT_elem [I 9] rfl ?_
  refine WT_t rfl ?_
  refine WT_elem [I 9] rfl ?_
  refine WT_f (by simp) ?_
  refine WT_t rfl ?_
  refine WT_done ?_
  refine WT_f rfl ?_
  refine WT_done ?_
  repeat (refine WT_t rfl ?_)
  refine WT_t (by rw [hK]; rfl) ?_
  repeat (refine WT_t rfl ?_)
  refine WT_elem [I a] rfl ?_
  refine WT_f rfl ?_
  repeat (refine WT_t rfl ?_)
  refine WT_elem [I a] rfl ?_
  refine WT_draw ⟨[(6, .d (.int .u32 vl)), (7, .d (.bool true)), (8, .d (.bool true)), (9, .d (I (1 + k.tmod 7))), (10, .d (I 2)), (11, .ptr 1 0), (15, .ptr 4 0), (19, .ref 5 1 0 4), (20, .ptr 6 0), (21, .d (I 0))], [(1, .var (cV (cC (1 + k.tmod 7) a b 2))), (4, .var (askV ⟨3, 0, 0, (1 + k.tmod 7, 0, keyS a, b), []⟩)), (5, .mt 1 1 [[I (a.tmod 65536)], [I (b)], [I (0)], [I (0)]]), (6, .var (V.ofDat (frameD (cF 4 [9, valueS (1 + k.tmod 7) vl true]))).cells)], 7, [], 0⟩ ?_ ?_
  · refine WT_t (by simp [inR]; omega) ?_
    refine WT_call _ h18 ?_
    refine WT_callL _ h2 (.cons (.refl _) (.cons (.refl _) (.cons (.slice (.refl _)) (.refl _)))) ?_
    iterate 5 (refine WT_same (by kernel_rfl) ?_)
    refine WT_t (by simp [inR]; omega) ?_
    iterate 2 (refine WT_same (by kernel_rfl) ?_)
    refine WT_call _ h18 ?_
    iterate 2 (refine WT_same (by kernel_rfl) ?_)
    refine WT_callL _ h2 (.cons (.refl _) (.cons (.refl _) (.cons (.slice (.refl _)) (.refl _)))) ?_
    iterate 4 (refine WT_same (by kernel_rfl) ?_)
    iterate 1 (refine WT_same (by kernel_rfl) ?_)
    refine WT_done (.inl ⟨rfl, ?_⟩)
    exact Weak.eqs [] (by kernel_rfl) (by kernel_rfl) (by kernel_rfl) (by kernel_rfl) (by kernel_rfl) (by kernel_rfl) (by kernel_rfl) (by kernel_rfl) (by kernel_rfl) (by kernel_rfl)
  refine WT_call _ h3 ?_
  refine WT_t rfl ?_
  refine WT_t (by rw [hK]; rfl) ?_
  refine WT_f rfl ?_
  refine WT_t (by rw [hK]; rfl) ?_
  refine WT_f rfl ?_
  refine WT_f (by rw [hK]; rfl) ?_
  repeat (refine WT_t rfl ?_)
  refine WT_elem [I (a.tmod 65536)] rfl ?_
  repeat (refine WT_t rfl ?_)
  have eK : keyS a = a.tmod 65536 := by rw [Int.tmod_eq_emod_of_nonneg (by omega)]; rfl
  refine WT_t (by rw [eK]; simp) ?_
  repeat (refine WT_t rfl ?_)
  refine WT_elem [I (b)] rfl ?_
  repeat (refine WT_t rfl ?_)
  refine WT_t (by simp) ?_
  repeat (refine WT_t rfl ?_)
  try (refine WT_t (by rw [eV]; simp) ?_)
  repeat (refine WT_t rfl ?_)
  exact WT_ret rfl rfl rfl rfl rfl

end Uw.Try

/- CALLS, operation 3 (printed by printc.py). -/
set_option linter.unusedVariables false
set_option linter.unusedSimpArgs false
namespace Uw.Try
open Go Uw Go.Proofs

set_option maxRecDepth 100000 in
set_option maxHeartbeats 2000000 in
theorem calls3F (k a b vl : Int) (hk : 0 ≤ k ∧ k < 256) (ha : 0 ≤ a ∧ a < 4294967296) (hb : 0 ≤ b ∧ b < 4294967296) (hvl : 0 ≤ vl ∧ vl < 4294967296) (hj : k.tmod 7 = 2) : Ret Try.prog 8 [.agg [.int .u8 k, .int .u32 a, .int .u32 b, .int .u32 vl, .bool false]] (.bool true) := by
  have va : isVal a = true := by simp [isVal]; omega
  have vb : isVal b = true := by simp [isVal]; omega
  have hK : 1 + k.tmod 7 = 3 := by omega
  have hv := c_value (1 + k.tmod 7) vl false
  have eV : valueS (1 + k.tmod 7) vl false = 0 := by rw [hK]; rfl
  have hS : Ret Try.prog 12 [codeD (cC (1 + k.tmod 7) a b 1), I 0, ints [], I 1, ints []] (frErr (cF 0 [], 0)) := start_plain (cIns (1 + k.tmod 7) a b 1) 0 1 [] (by decide) (by decide) (by decide) (by decide)
  have h1 := s21 (cC (1 + k.tmod 7) a b 1) (cF 0 []) (c_tiny _ _ _ _ _ (by simp [cF]) (by simp [cF]) (by simp [cF]) (by simp [cF]))
  rw [c_n3 _ a b hK va vb] at h1
  have h2 := s23a (cF 4 [9, a]) ⟨3, 0, 0, (1 + k.tmod 7, 0, keyS b, 0), []⟩ [valueS (1 + k.tmod 7) vl false] (c_tinyF _ _ (by simp)) (by simp)
  rw [c_t3 a b _ hv] at h2
  have h3 := s21 (cC (1 + k.tmod 7) a b 1) (cF 4 [9, a, valueS (1 + k.tmod 7) vl false]) (c_tiny _ _ _ _ _ (by simp [cF]) (by simp [cF]) (by simp [cF]) (by simp [cF]))
  rw [c_e3 _ a b _ va vb hv] at h3
  have h18 := s18 (1 + k.tmod 7) 0 (keyS b) (0) vl false
  refine Ret_by is8 rfl ?_
  refine WT_call _ s10 ?_
  refine WT_t (by simp [inR]; omega) ?_
  refine WT_f rfl ?_
  refine WT_t (by rw [hK]; rfl) ?_
  refine WT_t (by rw [hK]; rfl) ?_
  refine WT_t (by rw [hK]; rfl) ?_
  refine WT_elem [I 1] (by rw [hK]; rfl) ?_
  refine WT_t (by simp [inR]; omega) ?_
  refine WT_t (by simp [inR]; omega) ?_
  refine WT_callL (codeD (cC (1 + k.tmod 7) a b 1)) (s24 (cIns (1 + k.tmod 7) a b 1) 0) (.cons (.slice (.refl _)) (.refl _)) ?_
  refine WT_callL (frErr (cF 0 [], 0)) hS (.cons (.refl _) (.cons (.refl _) (.cons (.nil _) (.cons (.refl _) (.cons (.nil _) (.refl _)))))) ?_
  refine WT_call _ h1 ?_
  refine WT_t (by simp [inR]; omega) ?_
  refine WT_t (by simp [inR]; omega) ?_
  repeat (first | refine WT_t rfl ?_ | refine WT_f rfl ?_)
  refine WT_t (by simp) ?_
  repeat (first | refine WT_t rfl ?_ | refine WT_f rfl ?_)
  refine WT_rounds 3 ?_
  refine WT_t rfl ?_
  refine WT_t rfl ?_
  refine WT_elem [I 9] rfl ?_
  refine WT_t rfl ?_
  refine WT_elem [I 9] rfl ?_
  refine WT_f (by simp) ?_
  refine WT_t rfl ?_
  refine WT_done ?_
  refine WT_t rfl ?_
  refine WT_t rfl ?_
  refine WT_elem [I a] rfl ?_
  refine WT_t rfl ?_
  refine WT_elem [I a] rfl ?_
  refine WT_f (by simp) ?_
  refine WT_t rfl ?_
  refine WT_done ?_
  refine WT_f rfl ?_
  refine WT_done ?_
  repeat (refine WT_t rfl ?_)
  refine WT_t (by rw [hK]; rfl) ?_
  repeat (refine WT_t rfl ?_)
  refine WT_elem [I b] rfl ?_
  refine WT_f rfl ?_
  repeat (refine WT_t rfl ?_)
  refine WT_elem [I b] rfl ?_
  refine WT_draw ⟨[(6, .d (.int .u32 vl)), (7, .d (.bool false)), (8, .d (.bool true)), (9, .d (I (1 + k.tmod 7))), (10, .d (I 1)), (11, .ptr 1 0), (15, .ptr 4 0), (19, .ref 5 1 0 3), (20, .ptr 6 0), (21, .d (I 0))], [(1, .var (cV (cC (1 + k.tmod 7) a b 1))), (4, .var (askV ⟨3, 0, 0, (1 + k.tmod 7, 0, keyS b, 0), []⟩)), (5, .mt 1 1 [[I (b.tmod 65536)], [I (0)], [I (0)]]), (6, .var (V.ofDat (frameD (cF 4 [9, a, valueS (1 + k.tmod 7) vl false]))).cells)], 7, [], 0⟩ ?_ ?_
  · refine WT_t (by simp [inR]; omega) ?_
    refine WT_call _ h18 ?_
    refine WT_callL _ h2 (.cons (.refl _) (.cons (.refl _) (.cons (.slice (.refl _)) (.refl _)))) ?_
    iterate 5 (refine WT_same (by kernel_rfl) ?_)
    refine WT_t (by simp [inR]; omega) ?_
    iterate 2 (refine WT_same (by kernel_rfl) ?_)
    refine WT_call _ h18 ?_
    iterate 2 (refine WT_same (by kernel_rfl) ?_)
    refine WT_callL _ h2 (.cons (.refl _) (.cons (.refl _) (.cons (.slice (.refl _)) (.refl _)))) ?_
    iterate 4 (refine WT_same (by kernel_rfl) ?_)
    iterate 1 (refine WT_same (by kernel_rfl) ?_)
    refine WT_done (.inl ⟨rfl, ?_⟩)
    exact Weak.eqs [] (by kernel_rfl) (by kernel_rfl) (by kernel_rfl) (by kernel_rfl) (by kernel_rfl) (by kernel_rfl) (by kernel_rfl) (by kernel_rfl) (by kernel_rfl) (by kernel_rfl)
  refine WT_call _ h3 ?_
  refine WT_f rfl ?_
  repeat (refine WT_t rfl ?_)
  refine WT_elem [I (b.tmod 65536)] rfl ?_
  repeat (refine WT_t rfl ?_)
  have eK : keyS b = b.tmod 65536 := by rw [Int.tmod_eq_emod_of_nonneg (by omega)]; rfl
  refine WT_t (by rw [eK]; simp) ?_
  repeat (refine WT_t rfl ?_)
  refine WT_elem [I (0)] rfl ?_
  repeat (refine WT_t rfl ?_)
  try (refine WT_t (by rw [eV]; simp) ?_)
  repeat (refine WT_t rfl ?_)
  exact WT_ret rfl rfl rfl rfl rfl

set_option maxRecDepth 100000 in
set_option maxHeartbeats 2000000 in
theorem calls3T (k a b vl : Int) (hk : 0 ≤ k ∧ k < 256) (ha : 0 ≤ a ∧ a < 4294967296) (hb : 0 ≤ b ∧ b < 4294967296) (hvl : 0 ≤ vl ∧ vl < 4294967296) (hj : k.tmod 7 = 2) : Ret Try.prog 8 [.agg [.int .u8 k, .int .u32 a, .int .u32 b, .int .u32 vl, .bool true]] (.bool true) := by
  have va : isVal a = true := by simp [isVal]; omega
  have vb : isVal b = true := by simp [isVal]; omega
  have hK : 1 + k.tmod 7 = 3 := by omega
  have hv := c_value (1 + k.tmod 7) vl true
  have eV : valueS (1 + k.tmod 7) vl true = 1 := by rw [hK]; simp [valueS, wrapS]
  have hS : Ret Try.prog 12 [codeD (cC (1 + k.tmod 7) a b 1), I 0, ints [], I 1, ints []] (frErr (cF 0 [], 0)) := start_plain (cIns (1 + k.tmod 7) a b 1) 0 1 [] (by decide) (by decide) (by decide) (by decide)
  have h1 := s21 (cC (1 + k.tmod 7) a b 1) (cF 0 []) (c_tiny _ _ _ _ _ (by simp [cF]) (by simp [cF]) (by simp [cF]) (by simp [cF]))
  rw [c_n3 _ a b hK va vb] at h1
  have h2 := s23a (cF 4 [9, a]) ⟨3, 0, 0, (1 + k.tmod 7, 0, keyS b, 0), []⟩ [valueS (1 + k.tmod 7) vl true] (c_tinyF _ _ (by simp)) (by simp)
  rw [c_t3 a b _ hv] at h2
  have h3 := s21 (cC (1 + k.tmod 7) a b 1) (cF 4 [9, a, valueS (1 + k.tmod 7) vl true]) (c_tiny _ _ _ _ _ (by simp [cF]) (by simp [cF]) (by simp [cF]) (by simp [cF]))
  rw [c_e3 _ a b _ va vb hv] at h3
  have h18 := s18 (1 + k.tmod 7) 0 (keyS b) (0) vl true
  refine Ret_by is8 rfl ?_
  refine WT_call _ s10 ?_
  refine WT_t (by simp [inR]; omega) ?_
  refine WT_f rfl ?_
  refine WT_t (by rw [hK]; rfl) ?_
  refine WT_t (by rw [hK]; rfl) ?_
  refine WT_t (by rw [hK]; rfl) ?_
  refine WT_elem [I 1] (by rw [hK]; rfl) ?_
  refine WT_t (by simp [inR]; omega) ?_
  refine WT_t (by simp [inR]; omega) ?_
  refine WT_callL (codeD (cC (1 + k.tmod 7) a b 1)) (s24 (cIns (1 + k.tmod 7) a b 1) 0) (.cons (.slice (.refl _)) (.refl _)) ?_
  refine WT_callL (frErr (cF 0 [], 0)) hS (.cons (.refl _) (.cons (.refl _) (.cons (.nil _) (.cons (.refl _) (.cons (.nil _) (.refl _)))))) ?_
  refine WT_call _ h1 ?_
  refine WT_t (by simp [inR]; omega) ?_
  refine WT_t (by simp [inR]; omega) ?_
  repeat (first | refine WT_t rfl ?_ | refine WT_f rfl ?_)
  refine WT_t (by simp) ?_
  repeat (first | refine WT_t rfl ?_ | refine WT_f rfl ?_)
  refine WT_rounds 3 ?_
  refine WT_t rfl ?_
  refine WT_t rfl ?_
  refine WT_elem [I 9] rfl ?_
  refine WT_t rfl ?_
  refine WT_elem [I 9] rfl ?_
  refine WT_f (by simp) ?_
  refine WT_t rfl ?_
  refine WT_done ?_
  refine WT_t rfl ?_
  refine WT_t rfl ?_
  refine WT_elem [I a] rfl ?_
  refine WT_t rfl ?_
  refine WT_elem [I a] rfl ?_
  refine WT_f (by simp) ?_
  refine WT_t rfl ?_
  refine WT_done ?_
  refine WT_f rfl ?_
  refine WT_done ?_
  repeat (refine WT_t rfl ?_)
  refine WT_t (by rw [hK]; rfl) ?_
  repeat (refine WT_t rfl ?_)
  refine WT_elem [I b] rfl ?_
  refine WT_f rfl ?_
  repeat (refine WT_t rfl ?_)
  refine WT_elem [I b] rfl ?_
  refine WT_draw ⟨[(6, .d (.int .u32 vl)), (7, .d (.bool true)), (8, .d (.bool true)), (9, .d (I (1 + k.tmod 7))), (10, .d (I 1)), (11, .ptr 1 0), (15, .ptr 4 0), (19, .ref 5 1 0 3), (20, .ptr 6 0), (21, .d (I 0))], [(1, .var (cV (cC (1 + k.tmod 7) a b 1))), (4, .var (askV ⟨3, 0, 0, (1 + k.tmod 7, 0, keyS b, 0), []⟩)), (5, .mt 1 1 [[I (b.tmod 65536)], [I (0)], [I (0)]]), (6, .var (V.ofDat (frameD (cF 4 [9, a, valueS (1 + k.tmod 7) vl true]))).cells)], 7, [], 0⟩ ?_ ?_
  · refine WT_t (by simp [inR]; omega) ?_
    refine WT_call _ h18 ?_
    refine WT_callL _ h2 (.cons (.refl _) (.cons (.refl _) (.cons (.slice (.refl _)) (.refl _)))) ?_
    iterate 5 (refine WT_same (by kernel_rfl) ?_)
    refine WT_t (by simp [inR]; omega) ?_
    iterate 2 (refine WT_same (by kernel_rfl) ?_)
    refine WT_call _ h18 ?_
    iterate 2 (refine WT_same (by kernel_rfl) ?_)
    refine WT_callL _ h2 (.cons (.refl _) (.cons (.refl _) (.cons (.slice (.refl _)) (.refl _)))) ?_
    iterate 4 (refine WT_same (by kernel_rfl) ?_)
    iterate 1 (refine WT_same (by kernel_rfl) ?_)
    refine WT_done (.inl ⟨rfl, ?_⟩)
    exact Weak.eqs [] (by kernel_rfl) (by kernel_rfl) (by kernel_rfl) (by kernel_rfl) (by kernel_rfl) (by kernel_rfl) (by kernel_rfl) (by kernel_rfl) (by kernel_rfl) (by kernel_rfl)
  refine WT_call _ h3 ?_
  refine WT_t rfl ?_
  refine WT_t (by rw [hK]; rfl) ?_
  refine WT_f rfl ?_
  refine WT_t (by rw [hK]; rfl) ?_
  refine WT_f rfl ?_
  refine WT_f (by rw [hK]; rfl) ?_
  repeat (refine WT_t rfl ?_)
  refine WT_elem [I (b.tmod 65536)] rfl ?_
  repeat (refine WT_t rfl ?_)
  have eK : keyS b = b.tmod 65536 := by rw [Int.tmod_eq_emod_of_nonneg (by omega)]; rfl
  refine WT_t (by rw [eK]; simp) ?_
  repeat (refine WT_t rfl ?_)
  refine WT_elem [I (0)] rfl ?_
  repeat (refine WT_t rfl ?_)
  try (refine WT_t (by rw [eV]; simp) ?_)
  repeat (refine WT_t rfl ?_)
  exact WT_ret rfl rfl rfl rfl rfl

end Uw.Try
