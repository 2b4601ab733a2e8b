/- Ca2: We4 We5 We6 We7 (merged by merge.py from the working texts). -/
import Derived.Test.YtamkepeamjphkaaCa0
set_option linter.unusedSimpArgs false
set_option linter.unnecessarySimpa false
set_option linter.unusedVariables false

/- CALLS, operation 4 (printed by printc.py). -/
set_option linter.unusedVariables false
set_option linter.unusedSimpArgs false
namespace Uw.Try
open Go Uw Go.Proofs

set_option maxRecDepth 100000 in
set_option maxHeartbeats 2000000 in
theorem calls4F (k a b vl : Int) (hk : 0 ≤ k ∧ k < 256) (ha : 0 ≤ a ∧ a < 4294967296) (hb : 0 ≤ b ∧ b < 4294967296) (hvl : 0 ≤ vl ∧ vl < 4294967296) (hj : k.tmod 7 = 3) : Ret Try.prog 8 [.agg [.int .u8 k, .int .u32 a, .int .u32 b, .int .u32 vl, .bool false]] (.bool true) := by
  have va : isVal a = true := by simp [isVal]; omega
  have vb : isVal b = true := by simp [isVal]; omega
  have hK : 1 + k.tmod 7 = 4 := by omega
  have hv := c_value (1 + k.tmod 7) vl false
  have eV : valueS (1 + k.tmod 7) vl false = 0 := by rw [hK]; rfl
  have hS : Ret Try.prog 12 [codeD (cC (1 + k.tmod 7) a b 1), I 0, ints [], I 1, ints []] (frErr (cF 0 [], 0)) := start_plain (cIns (1 + k.tmod 7) a b 1) 0 1 [] (by decide) (by decide) (by decide) (by decide)
  have h1 := s21 (cC (1 + k.tmod 7) a b 1) (cF 0 []) (c_tiny _ _ _ _ _ (by simp [cF]) (by simp [cF]) (by simp [cF]) (by simp [cF]))
  rw [c_n4 _ a b hK va vb] at h1
  have h2 := s23a (cF 4 [9, a]) ⟨3, 0, 0, (1 + k.tmod 7, 0, b, 0), []⟩ [valueS (1 + k.tmod 7) vl false] (c_tinyF _ _ (by simp)) (by simp)
  rw [c_t4 a b _ hv] at h2
  have h3 := s21 (cC (1 + k.tmod 7) a b 1) (cF 4 [9, a, valueS (1 + k.tmod 7) vl false]) (c_tiny _ _ _ _ _ (by simp [cF]) (by simp [cF]) (by simp [cF]) (by simp [cF]))
  rw [c_e4 _ a b _ va vb hv] at h3
  have h18 := s18 (1 + k.tmod 7) 0 (b) (0) vl false
  refine Ret_by is8 rfl ?_
  refine WT_call _ s10 ?_
  refine WT_t (by simp [inR]; omega) ?_
  refine WT_f rfl ?_
  refine WT_t (by rw [hK]; rfl) ?_
  refine WT_t (by rw [hK]; rfl) ?_
  refine WT_t (by rw [hK]; rfl) ?_
  refine WT_elem [I 1] (by rw [hK]; rfl) ?_
  refine WT_t (by simp [inR]; omega) ?_
  refine WT_t (by simp [inR]; omega) ?_
  refine WT_callL (codeD (cC (1 + k.tmod 7) a b 1)) (s24 (cIns (1 + k.tmod 7) a b 1) 0) (.cons (.slice (.refl _)) (.refl _)) ?_
  refine WT_callL (frErr (cF 0 [], 0)) hS (.cons (.refl _) (.cons (.refl _) (.cons (.nil _) (.cons (.refl _) (.cons (.nil _) (.refl _)))))) ?_
  refine WT_call _ h1 ?_
  refine WT_t (by simp [inR]; omega) ?_
  refine WT_t (by simp [inR]; omega) ?_
  repeat (first | refine WT_t rfl ?_ | refine WT_f rfl ?_)
  refine WT_t (by simp) ?_
  repeat (first | refine WT_t rfl ?_ | refine WT_f rfl ?_)
  refine WT_rounds 3 ?_
  refine WT_t rfl ?_
  refine WT_t rfl ?_
  refine WT_elem [I 9] rfl ?_
  refine WT_t rfl ?_
  refine WT_elem [I 9] rfl ?_
  refine WT_f (by simp) ?_
  refine WT_t rfl ?_
  refine WT_done ?_
  refine WT_t rfl ?_
  refine WT_t rfl ?_
  refine WT_elem [I a] rfl ?_
  refine WT_t rfl ?_
  refine WT_elem [I a] rfl ?_
  refine WT_f (by simp) ?_
  refine WT_t rfl ?_
  refine WT_done ?_
  refine WT_f rfl ?_
  refine WT_done ?_
  repeat (refine WT_t rfl ?_)
  refine WT_f (by rw [hK]; rfl) ?_
  refine WT_draw ⟨[(6, .d (.int .u32 vl)), (7, .d (.bool false)), (8, .d (.bool true)), (9, .d (I (1 + k.tmod 7))), (10, .d (I 1)), (11, .ptr 1 0), (15, .ptr 4 0), (19, .ref 5 1 0 3), (20, .ptr 6 0), (21, .d (I 0))], [(1, .var (cV (cC (1 + k.tmod 7) a b 1))), (4, .var (askV ⟨3, 0, 0, (1 + k.tmod 7, 0, b, 0), []⟩)), (5, .mt 1 1 [[I (b)], [I (0)], [I (0)]]), (6, .var (V.ofDat (frameD (cF 4 [9, a, valueS (1 + k.tmod 7) vl false]))).cells)], 7, [], 0⟩ ?_ ?_
  · refine WT_t (by simp [inR]; omega) ?_
    refine WT_call _ h18 ?_
    refine WT_callL _ h2 (.cons (.refl _) (.cons (.refl _) (.cons (.slice (.refl _)) (.refl _)))) ?_
    iterate 5 (refine WT_same (by kernel_rfl) ?_)
    refine WT_t (by simp [inR]; omega) ?_
    iterate 2 (refine WT_same (by kernel_rfl) ?_)
    refine WT_call _ h18 ?_
    iterate 2 (refine WT_same (by kernel_rfl) ?_)
    refine WT_callL _ h2 (.cons (.refl _) (.cons (.refl _) (.cons (.slice (.refl _)) (.refl _)))) ?_
    iterate 4 (refine WT_same (by kernel_rfl) ?_)
    iterate 1 (refine WT_same (by kernel_rfl) ?_)
    refine WT_done (.inl ⟨rfl, ?_⟩)
    exact Weak.eqs [] (by kernel_rfl) (by kernel_rfl) (by kernel_rfl) (by kernel_rfl) (by kernel_rfl) (by kernel_rfl) (by kernel_rfl) (by kernel_rfl) (by kernel_rfl) (by kernel_rfl)
  refine WT_call _ h3 ?_
  refine WT_f rfl ?_
  repeat (refine WT_t rfl ?_)
  refine WT_elem [I (b)] rfl ?_
  repeat (refine WT_t rfl ?_)
  refine WT_t (by simp) ?_
  repeat (refine WT_t rfl ?_)
  refine WT_elem [I (0)] rfl ?_
  repeat (refine WT_t rfl ?_)
  try (refine WT_t (by rw [eV]; simp) ?_)
  repeat (refine WT_t rfl ?_)
  exact WT_ret rfl rfl rfl rfl rfl

set_option maxRecDepth 100000 in
set_option maxHeartbeats 2000000 in
theorem calls4T (k a b vl : Int) (hk : 0 ≤ k ∧ k < 256) (ha : 0 ≤ a ∧ a < 4294967296) (hb : 0 ≤ b ∧ b < 4294967296) (hvl : 0 ≤ vl ∧ vl < 4294967296) (hj : k.tmod 7 = 3) : Ret Try.prog 8 [.agg [.int .u8 k, .int .u32 a, .int .u32 b, .int .u32 vl, .bool true]] (.bool true) := by
  have va : isVal a = true := by simp [isVal]; omega
  have vb : isVal b = true := by simp [isVal]; omega
  have hK : 1 + k.tmod 7 = 4 := by omega
  have hv := c_value (1 + k.tmod 7) vl true
  have eV : valueS (1 + k.tmod 7) vl true = 1 := by rw [hK]; simp [valueS, wrapS]
  have hS : Ret Try.prog 12 [codeD (cC (1 + k.tmod 7) a b 1), I 0, ints [], I 1, ints []] (frErr (cF 0 [], 0)) := start_plain (cIns (1 + k.tmod 7) a b 1) 0 1 [] (by decide) (by decide) (by decide) (by decide)
  have h1 := s21 (cC (1 + k.tmod 7) a b 1) (cF 0 []) (c_tiny _ _ _ _ _ (by simp [cF]) (by simp [cF]) (by simp [cF]) (by simp [cF]))
  rw [c_n4 _ a b hK va vb] at h1
  have h2 := s23a (cF 4 [9, a]) ⟨3, 0, 0, (1 + k.tmod 7, 0, b, 0), []⟩ [valueS (1 + k.tmod 7) vl true] (c_tinyF _ _ (by simp)) (by simp)
  rw [c_t4 a b _ hv] at h2
  have h3 := s21 (cC (1 + k.tmod 7) a b 1) (cF 4 [9, a, valueS (1 + k.tmod 7) vl true]) (c_tiny _ _ _ _ _ (by simp [cF]) (by simp [cF]) (by simp [cF]) (by simp [cF]))
  rw [c_e4 _ a b _ va vb hv] at h3
  have h18 := s18 (1 + k.tmod 7) 0 (b) (0) vl true
  refine Ret_by is8 rfl ?_
  refine WT_call _ s10 ?_
  refine WT_t (by simp [inR]; omega) ?_
  refine WT_f rfl ?_
  refine WT_t (by rw [hK]; rfl) ?_
  refine WT_t (by rw [hK]; rfl) ?_
  refine WT_t (by rw [hK]; rfl) ?_
  refine WT_elem [I 1] (by rw [hK]; rfl) ?_
  refine WT_t (by simp [inR]; omega) ?_
  refine WT_t (by simp [inR]; omega) ?_
  refine WT_callL (codeD (cC (1 + k.tmod 7) a b 1)) (s24 (cIns (1 + k.tmod 7) a b 1) 0) (.cons (.slice (.refl _)) (.refl _)) ?_
  refine WT_callL (frErr (cF 0 [], 0)) hS (.cons (.refl _) (.cons (.refl _) (.cons (.nil _) (.cons (.refl _) (.cons (.nil _) (.refl _)))))) ?_
  refine WT_call _ h1 ?_
  refine WT_t (by simp [inR]; omega) ?_
  refine WT_t (by simp [inR]; omega) ?_
  repeat (first | refine WT_t rfl ?_ | refine WT_f rfl ?_)
  refine WT_t (by simp) ?_
  repeat (first | refine WT_t rfl ?_ | refine WT_f rfl ?_)
  refine WT_rounds 3 ?_
  refine WT_t rfl ?_
  refine WT_t rfl ?_
  refine WT_elem [I 9] rfl ?_
  refine WT_t rfl ?_
  refine WT_elem [I 9] rfl ?_
  refine WT_f (by simp) ?_
  refine WT_t rfl ?_
  refine WT_done ?_
  refine WT_t rfl ?_
  refine WT_t rfl ?_
  refine WT_elem [I a] rfl ?_
  refine WT_t rfl ?_
  refine WT_elem [I a] rfl ?_
  refine WT_f (by simp) ?_
  refine WT_t rfl ?_
  refine WT_done ?_
  refine WT_f rfl ?_
  refine WT_done ?_
  repeat (refine WT_t rfl ?_)
  refine WT_f (by rw [hK]; rfl) ?_
  refine WT_draw ⟨[(6, .d (.int .u32 vl)), (7, .d (.bool true)), (8, .d (.bool true)), (9, .d (I (1 + k.tmod 7))), (10, .d (I 1)), (11, .ptr 1 0), (15, .ptr 4 0), (19, .ref 5 1 0 3), (20, .ptr 6 0), (21, .d (I 0))], [(1, .var (cV (cC (1 + k.tmod 7) a b 1))), (4, .var (askV ⟨3, 0, 0, (1 + k.tmod 7, 0, b, 0), []⟩)), (5, .mt 1 1 [[I (b)], [I (0)], [I (0)]]), (6, .var (V.ofDat (frameD (cF 4 [9, a, valueS (1 + k.tmod 7) vl true]))).cells)], 7, [], 0⟩ ?_ ?_
  · refine WT_t (by simp [inR]; omega) ?_
    refine WT_call _ h18 ?_
    refine WT_callL _ h2 (.cons (.refl _) (.cons (.refl _) (.cons (.slice (.refl _)) (.refl _)))) ?_
    iterate 5 (refine WT_same (by kernel_rfl) ?_)
    refine WT_t (by simp [inR]; omega) ?_
    iterate 2 (refine WT_same (by kernel_rfl) ?_)
    refine WT_call _ h18 ?_
    iterate 2 (refine WT_same (by kernel_rfl) ?_)
    refine WT_callL _ h2 (.cons (.refl _) (.cons (.refl _) (.cons (.slice (.refl _)) (.refl _)))) ?_
    iterate 4 (refine WT_same (by kernel_rfl) ?_)
    iterate 1 (refine WT_same (by kernel_rfl) ?_)
    refine WT_done (.inl ⟨rfl, ?_⟩)
    exact Weak.eqs [] (by kernel_rfl) (by kernel_rfl) (by kernel_rfl) (by kernel_rfl) (by kernel_rfl) (by kernel_rfl) (by kernel_rfl) (by kernel_rfl) (by kernel_rfl) (by kernel_rfl)
  refine WT_call _ h3 ?_
  refine WT_t rfl ?_
  refine WT_t (by rw [hK]; rfl) ?_
  refine WT_f rfl ?_
  refine WT_t (by rw [hK]; rfl) ?_
  refine WT_f rfl ?_
  refine WT_f (by rw [hK]; rfl) ?_
  repeat (refine WT_t rfl ?_)
  refine WT_elem [I (b)] rfl ?_
  repeat (refine WT_t rfl ?_)
  refine WT_t (by simp) ?_
  repeat (refine WT_t rfl ?_)
  refine WT_elem [I (0)] rfl ?_
  repeat (refine WT_t rfl ?_)
  try (refine WT_t (by rw [eV]; simp) ?_)
  repeat (refine WT_t rfl ?_)
  exact WT_ret rfl rfl rfl rfl rfl

end Uw.Try

/- CALLS, operation 5 (printed by printc.py). -/
set_option linter.unusedVariables false
set_option linter.unusedSimpArgs false
namespace Uw.Try
open Go Uw Go.Proofs

set_option maxRecDepth 100000 in
set_option maxHeartbeats 2000000 in
theorem calls5F (k a b vl : Int) (hk : 0 ≤ k ∧ k < 256) (ha : 0 ≤ a ∧ a < 4294967296) (hb : 0 ≤ b ∧ b < 4294967296) (hvl : 0 ≤ vl ∧ vl < 4294967296) (hj : k.tmod 7 = 4) : Ret Try.prog 8 [.agg [.int .u8 k, .int .u32 a, .int .u32 b, .int .u32 vl, .bool false]] (.bool true) := by
  have va : isVal a = true := by simp [isVal]; omega
  have vb : isVal b = true := by simp [isVal]; omega
  have hK : 1 + k.tmod 7 = 5 := by omega
  have hv := c_value (1 + k.tmod 7) vl false
  have eV : valueS (1 + k.tmod 7) vl false = 0 := by rw [hK]; rfl
  have hS : Ret Try.prog 12 [codeD (cC (1 + k.tmod 7) a b 0), I 0, ints [], I 1, ints []] (frErr (cF 0 [], 0)) := start_plain (cIns (1 + k.tmod 7) a b 0) 0 1 [] (by decide) (by decide) (by decide) (by decide)
  have h1 := s21 (cC (1 + k.tmod 7) a b 0) (cF 0 []) (c_tiny _ _ _ _ _ (by simp [cF]) (by simp [cF]) (by simp [cF]) (by simp [cF]))
  rw [c_n5 _ a b hK va vb] at h1
  have h2 := s23a (cF 4 [9, a, b]) ⟨3, 0, 0, (1 + k.tmod 7, 0, 0, 0), []⟩ [valueS (1 + k.tmod 7) vl false] (c_tinyF _ _ (by simp)) (by simp)
  rw [c_t5 a b _ hv] at h2
  have h3 := s21 (cC (1 + k.tmod 7) a b 0) (cF 4 [9, a, b, valueS (1 + k.tmod 7) vl false]) (c_tiny _ _ _ _ _ (by simp [cF]) (by simp [cF]) (by simp [cF]) (by simp [cF]))
  rw [c_e5 _ a b _ va vb hv] at h3
  have h18 := s18 (1 + k.tmod 7) 0 (0) (0) vl false
  refine Ret_by is8 rfl ?_
  refine WT_call _ s10 ?_
  refine WT_t (by simp [inR]; omega) ?_
  refine WT_f rfl ?_
  refine WT_t (by rw [hK]; rfl) ?_
  refine WT_t (by rw [hK]; rfl) ?_
  refine WT_t (by rw [hK]; rfl) ?_
  refine WT_elem [I 0] (by rw [hK]; rfl) ?_
  refine WT_t (by simp [inR]; omega) ?_
  refine WT_t (by simp [inR]; omega) ?_
  refine WT_callL (codeD (cC (1 + k.tmod 7) a b 0)) (s24 (cIns (1 + k.tmod 7) a b 0) 0) (.cons (.slice (.refl _)) (.refl _)) ?_
  refine WT_callL (frErr (cF 0 [], 0)) hS (.cons (.refl _) (.cons (.refl _) (.cons (.nil _) (.cons (.refl _) (.cons (.nil _) (.refl _)))))) ?_
  refine WT_call _ h1 ?_
  refine WT_t (by simp [inR]; omega) ?_
  refine WT_t (by simp [inR]; omega) ?_
  repeat (first | refine WT_t rfl ?_ | refine WT_f rfl ?_)
  refine WT_t (by simp) ?_
  repeat (first | refine WT_t rfl ?_ | refine WT_f rfl ?_)
  refine WT_rounds 4 ?_
  refine WT_t rfl ?_
  refine WT_t rfl ?_
  refine WT_elem [I 9] rfl ?_
  refine WT_t rfl ?_
  refine WT_elem [I 9] rfl ?_
  refine WT_f (by simp) ?_
  refine WT_t rfl ?_
  refine WT_done ?_
  refine WT_t rfl ?_
  refine WT_t rfl ?_
  refine WT_elem [I a] rfl ?_
  refine WT_t rfl ?_
  refine WT_elem [I a] rfl ?_
  refine WT_f (by simp) ?_
  refine WT_t rfl ?_
  refine WT_done ?_
  refine WT_t rfl ?_
  refine WT_t rfl ?_
  refine WT_elem [I b] rfl ?_
  refine WT_t rfl ?_
  refine WT_elem [I b] rfl ?_
  refine WT_f (by simp) ?_
  refine WT_t rfl ?_
  refine WT_done ?_
  refine WT_f rfl ?_
  refine WT_done ?_
  repeat (refine WT_t rfl ?_)
  refine WT_f (by rw [hK]; rfl) ?_
  refine WT_draw ⟨[(6, .d (.int .u32 vl)), (7, .d (.bool false)), (8, .d (.bool true)), (9, .d (I (1 + k.tmod 7))), (10, .d (I 0)), (11, .ptr 1 0), (15, .ptr 4 0), (19, .ref 5 1 0 2), (20, .ptr 6 0), (21, .d (I 0))], [(1, .var (cV (cC (1 + k.tmod 7) a b 0))), (4, .var (askV ⟨3, 0, 0, (1 + k.tmod 7, 0, 0, 0), []⟩)), (5, .mt 1 1 [[I (0)], [I (0)]]), (6, .var (V.ofDat (frameD (cF 4 [9, a, b, valueS (1 + k.tmod 7) vl false]))).cells)], 7, [], 0⟩ ?_ ?_
  · refine WT_t (by simp [inR]; omega) ?_
    refine WT_call _ h18 ?_
    refine WT_callL _ h2 (.cons (.refl _) (.cons (.refl _) (.cons (.slice (.refl _)) (.refl _)))) ?_
    iterate 5 (refine WT_same (by kernel_rfl) ?_)
    refine WT_t (by simp [inR]; omega) ?_
    iterate 2 (refine WT_same (by kernel_rfl) ?_)
    refine WT_call _ h18 ?_
    iterate 2 (refine WT_same (by kernel_rfl) ?_)
    refine WT_callL _ h2 (.cons (.refl _) (.cons (.refl _) (.cons (.slice (.refl _)) (.refl _)))) ?_
    iterate 4 (refine WT_same (by kernel_rfl) ?_)
    iterate 1 (refine WT_same (by kernel_rfl) ?_)
    refine WT_done (.inl ⟨rfl, ?_⟩)
    exact Weak.eqs [] (by kernel_rfl) (by kernel_rfl) (by kernel_rfl) (by kernel_rfl) (by kernel_rfl) (by kernel_rfl) (by kernel_rfl) (by kernel_rfl) (by kernel_rfl) (by kernel_rfl)
  refine WT_call _ h3 ?_
  refine WT_f rfl ?_
  repeat (refine WT_t rfl ?_)
  refine WT_elem [I (0)] rfl ?_
  repeat (refine WT_t rfl ?_)
  repeat (refine WT_t rfl ?_)
  refine WT_elem [I (0)] rfl ?_
  repeat (refine WT_t rfl ?_)
  try (refine WT_t (by rw [eV]; simp) ?_)
  repeat (refine WT_t rfl ?_)
  exact WT_ret rfl rfl rfl rfl rfl

set_option maxRecDepth 100000 in
set_option maxHeartbeats 2000000 in
theorem calls5T (k a b vl : Int) (hk : 0 ≤ k ∧ k < 256) (ha : 0 ≤ a ∧ a < 4294967296) (hb : 0 ≤ b ∧ b < 4294967296) (hvl : 0 ≤ vl ∧ vl < 4294967296) (hj : k.tmod 7 = 4) : Ret Try.prog 8 [.agg [.int .u8 k, .int .u32 a, .int .u32 b, .int .u32 vl, .bool true]] (.bool true) := by
  have va : isVal a = true := by simp [isVal]; omega
  have vb : isVal b = true := by simp [isVal]; omega
  have hK : 1 + k.tmod 7 = 5 := by omega
  have hv := c_value (1 + k.tmod 7) vl true
  have eV : valueS (1 + k.tmod 7) vl true = (vl + 1) % 4294967296 := by rw [hK]; simp [valueS, wrapS]
  have hS : Ret Try.prog 12 [codeD (cC (1 + k.tmod 7) a b 0), I 0, ints [], I 1, ints []] (frErr (cF 0 [], 0)) := start_plain (cIns (1 + k.tmod 7) a b 0) 0 1 [] (by decide) (by decide) (by decide) (by decide)
  have h1 := s21 (cC (1 + k.tmod 7) a b 0) (cF 0 []) (c_tiny _ _ _ _ _ (by simp [cF]) (by simp [cF]) (by simp [cF]) (by simp [cF]))
  rw [c_n5 _ a b hK va vb] at h1
  have h2 := s23a (cF 4 [9, a, b]) ⟨3, 0, 0, (1 + k.tmod 7, 0, 0, 0), []⟩ [valueS (1 + k.tmod 7) vl true] (c_tinyF _ _ (by simp)) (by simp)
  rw [c_t5 a b _ hv] at h2
  have h3 := s21 (cC (1 + k.tmod 7) a b 0) (cF 4 [9, a, b, valueS (1 + k.tmod 7) vl true]) (c_tiny _ _ _ _ _ (by simp [cF]) (by simp [cF]) (by simp [cF]) (by simp [cF]))
  rw [c_e5 _ a b _ va vb hv] at h3
  have h18 := s18 (1 + k.tmod 7) 0 (0) (0) vl true
  refine Ret_by is8 rfl ?_
  refine WT_call _ s10 ?_
  refine WT_t (by simp [inR]; omega) ?_
  refine WT_f rfl ?_
  refine WT_t (by rw [hK]; rfl) ?_
  refine WT_t (by rw [hK]; rfl) ?_
  refine WT_t (by rw [hK]; rfl) ?_
  refine WT_elem [I 0] (by rw [hK]; rfl) ?_
  refine WT_t (by simp [inR]; omega) ?_
  refine WT_t (by simp [inR]; omega) ?_
  refine WT_callL (codeD (cC (1 + k.tmod 7) a b 0)) (s24 (cIns (1 + k.tmod 7) a b 0) 0) (.cons (.slice (.refl _)) (.refl _)) ?_
  refine WT_callL (frErr (cF 0 [], 0)) hS (.cons (.refl _) (.cons (.refl _) (.cons (.nil _) (.cons (.refl _) (.cons (.nil _) (.refl _)))))) ?_
  refine WT_call _ h1 ?_
  refine WT_t (by simp [inR]; omega) ?_
  refine WT_t (by simp [inR]; omega) ?_
  repeat (first | refine WT_t rfl ?_ | refine WT_f rfl ?_)
  refine WT_t (by simp) ?_
  repeat (first | refine WT_t rfl ?_ | refine WT_f rfl ?_)
  refine WT_rounds 4 ?_
  refine WT_t rfl ?_
  refine WT_t rfl ?_
  refine WT_elem [I 9] rfl ?_
  refine WT_t rfl ?_
  refine WT_elem [I 9] rfl ?_
  refine WT_f (by simp) ?_
  refine WT_t rfl ?_
  refine WT_done ?_
  refine WT_t rfl ?_
  refine WT_t rfl ?_
  refine WT_elem [I a] rfl ?_
  refine WT_t rfl ?_
  refine WT_elem [I a] rfl ?_
  refine WT_f (by simp) ?_
  refine WT_t rfl ?_
  refine WT_done ?_
  refine WT_t rfl ?_
  refine WT_t rfl ?_
  refine WT_elem [I b] rfl ?_
  refine WT_t rfl ?_
  refine WT_elem [I b] rfl ?_
  refine WT_f (by simp) ?_
  refine WT_t rfl ?_
  refine WT_done ?_
  refine WT_f rfl ?_
  refine WT_done ?_
  repeat (refine WT_t rfl ?_)
  refine WT_f (by rw [hK]; rfl) ?_
  refine WT_draw ⟨[(6, .d (.int .u32 vl)), (7, .d (.bool true)), (8, .d (.bool true)), (9, .d (I (1 + k.tmod 7))), (10, .d (I 0)), (11, .ptr 1 0), (15, .ptr 4 0), (19, .ref 5 1 0 2), (20, .ptr 6 0), (21, .d (I 0))], [(1, .var (cV (cC (1 + k.tmod 7) a b 0))), (4, .var (askV ⟨3, 0, 0, (1 + k.tmod 7, 0, 0, 0), []⟩)), (5, .mt 1 1 [[I (0)], [I (0)]]), (6, .var (V.ofDat (frameD (cF 4 [9, a, b, valueS (1 + k.tmod 7) vl true]))).cells)], 7, [], 0⟩ ?_ ?_
  · refine WT_t (by simp [inR]; omega) ?_
    refine WT_call _ h18 ?_
    refine WT_callL _ h2 (.cons (.refl _) (.cons (.refl _) (.cons (.slice (.refl _)) (.refl _)))) ?_
    iterate 5 (refine WT_same (by kernel_rfl) ?_)
    refine WT_t (by simp [inR]; omega) ?_
    iterate 2 (refine WT_same (by kernel_rfl) ?_)
    refine WT_call _ h18 ?_
    iterate 2 (refine WT_same (by kernel_rfl) ?_)
    refine WT_callL _ h2 (.cons (.refl _) (.cons (.refl _) (.cons (.slice (.refl _)) (.refl _)))) ?_
    iterate 4 (refine WT_same (by kernel_rfl) ?_)
    iterate 1 (refine WT_same (by kernel_rfl) ?_)
    refine WT_done (.inl ⟨rfl, ?_⟩)
    exact Weak.eqs [] (by kernel_rfl) (by kernel_rfl) (by kernel_rfl) (by kernel_rfl) (by kernel_rfl) (by kernel_rfl) (by kernel_rfl) (by kernel_rfl) (by kernel_rfl) (by kernel_rfl)
  refine WT_call _ h3 ?_
  refine WT_t rfl ?_
  refine WT_t (by rw [hK]; rfl) ?_
  refine WT_f rfl ?_
  refine WT_f (by rw [hK]; rfl) ?_
  refine WT_t rfl ?_
  refine WT_t rfl ?_
  refine WT_t (by simp [inR]; omega) ?_
  refine WT_t (by simp [inR]; omega) ?_
  refine WT_f rfl ?_
  repeat (refine WT_t rfl ?_)
  refine WT_elem [I (0)] rfl ?_
  repeat (refine WT_t rfl ?_)
  repeat (refine WT_t rfl ?_)
  refine WT_elem [I (0)] rfl ?_
  repeat (refine WT_t rfl ?_)
  try (refine WT_t (by rw [eV]; rw [Int.tmod_eq_emod_of_nonneg (by omega)]; simp) ?_)
  repeat (refine WT_t rfl ?_)
  exact WT_ret rfl rfl rfl rfl rfl

end Uw.Try

/- CALLS, operation 6 (printed by printc.py). -/
set_option linter.unusedVariables false
set_option linter.unusedSimpArgs false
namespace Uw.Try
open Go Uw Go.Proofs

set_option maxRecDepth 100000 in
set_option maxHeartbeats 2000000 in
theorem calls6F (k a b vl : Int) (hk : 0 ≤ k ∧ k < 256) (ha : 0 ≤ a ∧ a < 4294967296) (hb : 0 ≤ b ∧ b < 4294967296) (hvl : 0 ≤ vl ∧ vl < 4294967296) (hj : k.tmod 7 = 5) : Ret Try.prog 8 [.agg [.int .u8 k, .int .u32 a, .int .u32 b, .int .u32 vl, .bool false]] (.bool true) := by
  have va : isVal a = true := by simp [isVal]; omega
  have vb : isVal b = true := by simp [isVal]; omega
  have hK : 1 + k.tmod 7 = 6 := by omega
  have hv := c_value (1 + k.tmod 7) vl false
  have eV : valueS (1 + k.tmod 7) vl false = 0 := by rw [hK]; rfl
  have hS : Ret Try.prog 12 [codeD (cC (1 + k.tmod 7) a b 1), I 0, ints [], I 1, ints []] (frErr (cF 0 [], 0)) := start_plain (cIns (1 + k.tmod 7) a b 1) 0 1 [] (by decide) (by decide) (by decide) (by decide)
  have h1 := s21 (cC (1 + k.tmod 7) a b 1) (cF 0 []) (c_tiny _ _ _ _ _ (by simp [cF]) (by simp [cF]) (by simp [cF]) (by simp [cF]))
  rw [c_n6 _ a b hK va vb] at h1
  have h2 := s23a (cF 4 [9, a]) ⟨3, 0, 0, (1 + k.tmod 7, 0, b, 0), []⟩ [valueS (1 + k.tmod 7) vl false] (c_tinyF _ _ (by simp)) (by simp)
  rw [c_t6 a b _ hv] at h2
  have h3 := s21 (cC (1 + k.tmod 7) a b 1) (cF 4 [9, a, valueS (1 + k.tmod 7) vl false]) (c_tiny _ _ _ _ _ (by simp [cF]) (by simp [cF]) (by simp [cF]) (by simp [cF]))
  rw [c_e6 _ a b _ va vb hv] at h3
  have h18 := s18 (1 + k.tmod 7) 0 (b) (0) vl false
  refine Ret_by is8 rfl ?_
  refine WT_call _ s10 ?_
  refine WT_t (by simp [inR]; omega) ?_
  refine WT_f rfl ?_
  refine WT_t (by rw [hK]; rfl) ?_
  refine WT_t (by rw [hK]; rfl) ?_
  refine WT_t (by rw [hK]; rfl) ?_
  refine WT_elem [I 1] (by rw [hK]; rfl) ?_
  refine WT_t (by simp [inR]; omega) ?_
  refine WT_t (by simp [inR]; omega) ?_
  refine WT_callL (codeD (cC (1 + k.tmod 7) a b 1)) (s24 (cIns (1 + k.tmod 7) a b 1) 0) (.cons (.slice (.refl _)) (.refl _)) ?_
  refine WT_callL (frErr (cF 0 [], 0)) hS (.cons (.refl _) (.cons (.refl _) (.cons (.nil _) (.cons (.refl _) (.cons (.nil _) (.refl _)))))) ?_
  refine WT_call _ h1 ?_
  refine WT_t (by simp [inR]; omega) ?_
  refine WT_t (by simp [inR]; omega) ?_
  repeat (first | refine WT_t rfl ?_ | refine WT_f rfl ?_)
  refine WT_t (by simp) ?_
  repeat (first | refine WT_t rfl ?_ | refine WT_f rfl ?_)
  refine WT_rounds 3 ?_
  refine WT_t rfl ?_
  refine WT_t rfl ?_
  refine WT_elem [I 9] rfl ?_
  refine WT_t rfl ?_
  refine WT_elem [I 9] rfl ?_
  refine WT_f (by simp) ?_
  refine WT_t rfl ?_
  refine WT_done ?_
  refine WT_t rfl ?_
  refine WT_t rfl ?_
  refine WT_elem [I a] rfl ?_
  refine WT_t rfl ?_
  refine WT_elem [I a] rfl ?_
  refine WT_f (by simp) ?_
  refine WT_t rfl ?_
  refine WT_done ?_
  refine WT_f rfl ?_
  refine WT_done ?_
  repeat (refine WT_t rfl ?_)
  refine WT_f (by rw [hK]; rfl) ?_
  refine WT_draw ⟨[(6, .d (.int .u32 vl)), (7, .d (.bool false)), (8, .d (.bool true)), (9, .d (I (1 + k.tmod 7))), (10, .d (I 1)), (11, .ptr 1 0), (15, .ptr 4 0), (19, .ref 5 1 0 3), (20, .ptr 6 0), (21, .d (I 0))], [(1, .var (cV (cC (1 + k.tmod 7) a b 1))), (4, .var (askV ⟨3, 0, 0, (1 + k.tmod 7, 0, b, 0), []⟩)), (5, .mt 1 1 [[I (b)], [I (0)], [I (0)]]), (6, .var (V.ofDat (frameD (cF 4 [9, a, valueS (1 + k.tmod 7) vl false]))).cells)], 7, [], 0⟩ ?_ ?_
  · refine WT_t (by simp [inR]; omega) ?_
    refine WT_call _ h18 ?_
    refine WT_callL _ h2 (.cons (.refl _) (.cons (.refl _) (.cons (.slice (.refl _)) (.refl _)))) ?_
    iterate 5 (refine WT_same (by kernel_rfl) ?_)
    refine WT_t (by simp [inR]; omega) ?_
    iterate 2 (refine WT_same (by kernel_rfl) ?_)
    refine WT_call _ h18 ?_
    iterate 2 (refine WT_same (by kernel_rfl) ?_)
    refine WT_callL _ h2 (.cons (.refl _) (.cons (.refl _) (.cons (.slice (.refl _)) (.refl _)))) ?_
    iterate 4 (refine WT_same (by kernel_rfl) ?_)
    iterate 1 (refine WT_same (by kernel_rfl) ?_)
    refine WT_done (.inl ⟨rfl, ?_⟩)
    exact Weak.eqs [] (by kernel_rfl) (by kernel_rfl) (by kernel_rfl) (by kernel_rfl) (by kernel_rfl) (by kernel_rfl) (by kernel_rfl) (by kernel_rfl) (by kernel_rfl) (by kernel_rfl)
  refine WT_call _ h3 ?_
  refine WT_f rfl ?_
  repeat (refine WT_t rfl ?_)
  refine WT_elem [I (b)] rfl ?_
  repeat (refine WT_t rfl ?_)
  refine WT_t (by simp) ?_
  repeat (refine WT_t rfl ?_)
  refine WT_elem [I (0)] rfl ?_
  repeat (refine WT_t rfl ?_)
  try (refine WT_t (by rw [eV]; simp) ?_)
  repeat (refine WT_t rfl ?_)
  exact WT_ret rfl rfl rfl rfl rfl

set_option maxRecDepth 100000 in
set_option maxHeartbeats 2000000 in
theorem calls6T (k a b vl : Int) (hk : 0 ≤ k ∧ k < 256) (ha : 0 ≤ a ∧ a < 4294967296) (hb : 0 ≤ b ∧ b < 4294967296) (hvl : 0 ≤ vl ∧ vl < 4294967296) (hj : k.tmod 7 = 5) : Ret Try.prog 8 [.agg [.int .u8 k, .int .u32 a, .int .u32 b, .int .u32 vl, .bool true]] (.bool true) := by
  have va : isVal a = true := by simp [isVal]; omega
  have vb : isVal b = true := by simp [isVal]; omega
  have hK : 1 + k.tmod 7 = 6 := by omega
  have hv := c_value (1 + k.tmod 7) vl true
  have eV : valueS (1 + k.tmod 7) vl true = 1 := by rw [hK]; simp [valueS, wrapS]
  have hS : Ret Try.prog 12 [codeD (cC (1 + k.tmod 7) a b 1), I 0, ints [], I 1, ints []] (frErr (cF 0 [], 0)) := start_plain (cIns (1 + k.tmod 7) a b 1) 0 1 [] (by decide) (by decide) (by decide) (by decide)
  have h1 := s21 (cC (1 + k.tmod 7) a b 1) (cF 0 []) (c_tiny _ _ _ _ _ (by simp [cF]) (by simp [cF]) (by simp [cF]) (by simp [cF]))
  rw [c_n6 _ a b hK va vb] at h1
  have h2 := s23a (cF 4 [9, a]) ⟨3, 0, 0, (1 + k.tmod 7, 0, b, 0), []⟩ [valueS (1 + k.tmod 7) vl true] (c_tinyF _ _ (by simp)) (by simp)
  rw [c_t6 a b _ hv] at h2
  have h3 := s21 (cC (1 + k.tmod 7) a b 1) (cF 4 [9, a, valueS (1 + k.tmod 7) vl true]) (c_tiny _ _ _ _ _ (by simp [cF]) (by simp [cF]) (by simp [cF]) (by simp [cF]))
  rw [c_e6 _ a b _ va vb hv] at h3
  have h18 := s18 (1 + k.tmod 7) 0 (b) (0) vl true
  refine Ret_by is8 rfl ?_
  refine WT_call _ s10 ?_
  refine WT_t (by simp [inR]; omega) ?_
  refine WT_f rfl ?_
  refine WT_t (by rw [hK]; rfl) ?_
  refine WT_t (by rw [hK]; rfl) ?_
  refine WT_t (by rw [hK]; rfl) ?_
  refine WT_elem [I 1] (by rw [hK]; rfl) ?_
  refine WT_t (by simp [inR]; omega) ?_
  refine WT_t (by simp [inR]; omega) ?_
  refine WT_callL (codeD (cC (1 + k.tmod 7) a b 1)) (s24 (cIns (1 + k.tmod 7) a b 1) 0) (.cons (.slice (.refl _)) (.refl _)) ?_
  refine WT_callL (frErr (cF 0 [], 0)) hS (.cons (.refl _) (.cons (.refl _) (.cons (.nil _) (.cons (.refl _) (.cons (.nil _) (.refl _)))))) ?_
  refine WT_call _ h1 ?_
  refine WT_t (by simp [inR]; omega) ?_
  refine WT_t (by simp [inR]; omega) ?_
  repeat (first | refine WT_t rfl ?_ | refine WT_f rfl ?_)
  refine WT_t (by simp) ?_
  repeat (first | refine WT_t rfl ?_ | refine WT_f rfl ?_)
  refine WT_rounds 3 ?_
  refine WT_t rfl ?_
  refine WT_t rfl ?_
  refine WT_elem [I 9] rfl ?_
  refine WT_t rfl ?_
  refine WT_elem [I 9] rfl ?_
  refine WT_f (by simp) ?_
  refine WT_t rfl ?_
  refine WT_done ?_
  refine WT_t rfl ?_
  refine WT_t rfl ?_
  refine WT_elem [I a] rfl ?_
  refine WT_t rfl ?_
  refine WT_elem [I a] rfl ?_
  refine WT_f (by simp) ?_
  refine WT_t rfl ?_
  refine WT_done ?_
  refine WT_f rfl ?_
  refine WT_done ?_
  repeat (refine WT_t rfl ?_)
  refine WT_f (by rw [hK]; rfl) ?_
  refine WT_draw ⟨[(6, .d (.int .u32 vl)), (7, .d (.bool true)), (8, .d (.bool true)), (9, .d (I (1 + k.tmod 7))), (10, .d (I 1)), (11, .ptr 1 0), (15, .ptr 4 0), (19, .ref 5 1 0 3), (20, .ptr 6 0), (21, .d (I 0))], [(1, .var (cV (cC (1 + k.tmod 7) a b 1))), (4, .var (askV ⟨3, 0, 0, (1 + k.tmod 7, 0, b, 0), []⟩)), (5, .mt 1 1 [[I (b)], [I (0)], [I (0)]]), (6, .var (V.ofDat (frameD (cF 4 [9, a, valueS (1 + k.tmod 7) vl true]))).cells)], 7, [], 0⟩ ?_ ?_
  · refine WT_t (by simp [inR]; omega) ?_
    refine WT_call _ h18 ?_
    refine WT_callL _ h2 (.cons (.refl _) (.cons (.refl _) (.cons (.slice (.refl _)) (.refl _)))) ?_
    iterate 5 (refine WT_same (by kernel_rfl) ?_)
    refine WT_t (by simp [inR]; omega) ?_
    iterate 2 (refine WT_same (by kernel_rfl) ?_)
    refine WT_call _ h18 ?_
    iterate 2 (refine WT_same (by kernel_rfl) ?_)
    refine WT_callL _ h2 (.cons (.refl _) (.cons (.refl _) (.cons (.slice (.refl _)) (.refl _)))) ?_
    iterate 4 (refine WT_same (by kernel_rfl) ?_)
    iterate 1 (refine WT_same (by kernel_rfl) ?_)
    refine WT_done (.inl ⟨rfl, ?_⟩)
    exact Weak.eqs [] (by kernel_rfl) (by kernel_rfl) (by kernel_rfl) (by kernel_rfl) (by kernel_rfl) (by kernel_rfl) (by kernel_rfl) (by kernel_rfl) (by kernel_rfl) (by kernel_rfl)
  refine WT_call _ h3 ?_
  refine WT_t rfl ?_
  refine WT_t (by rw [hK]; rfl) ?_
  refine WT_f rfl ?_
  refine WT_t (by rw [hK]; rfl) ?_
  refine WT_f rfl ?_
  refine WT_f (by rw [hK]; rfl) ?_
  repeat (refine WT_t rfl ?_)
  refine WT_elem [I (b)] rfl ?_
  repeat (refine WT_t rfl ?_)
  refine WT_t (by simp) ?_
  repeat (refine WT_t rfl ?_)
  refine WT_elem [I (0)] rfl ?_
  repeat (refine WT_t rfl ?_)
  try (refine WT_t (by rw [eV]; simp) ?_)
  repeat (refine WT_t rfl ?_)
  exact WT_ret rfl rfl rfl rfl rfl

end Uw.Try

/- CALLS, operation 7 (printed by printc.py). -/
set_option linter.unusedVariables false
set_option linter.unusedSimpArgs false
namespace Uw.Try
open Go Uw Go.Proofs

set_option maxRecDepth 100000 in
set_option maxHeartbeats 2000000 in
theorem calls7F (k a b vl : Int) (hk : 0 ≤ k ∧ k < 256) (ha : 0 ≤ a ∧ a < 4294967296) (hb : 0 ≤ b ∧ b < 4294967296) (hvl : 0 ≤ vl ∧ vl < 4294967296) (hj : k.tmod 7 = 6) : Ret Try.prog 8 [.agg [.int .u8 k, .int .u32 a, .int .u32 b, .int .u32 vl, .bool false]] (.bool true) := by
  have va : isVal a = true := by simp [isVal]; omega
  have vb : isVal b = true := by simp [isVal]; omega
  have hK : 1 + k.tmod 7 = 7 := by omega
  have hv := c_value (1 + k.tmod 7) vl false
  have eV : valueS (1 + k.tmod 7) vl false = 0 := by rw [hK]; rfl
  have hS : Ret Try.prog 12 [codeD (cC (1 + k.tmod 7) a b 0), I 0, ints [], I 1, ints []] (frErr (cF 0 [], 0)) := start_plain (cIns (1 + k.tmod 7) a b 0) 0 1 [] (by decide) (by decide) (by decide) (by decide)
  have h1 := s21 (cC (1 + k.tmod 7) a b 0) (cF 0 []) (c_tiny _ _ _ _ _ (by simp [cF]) (by simp [cF]) (by simp [cF]) (by simp [cF]))
  rw [c_n7 _ a b hK va vb] at h1
  have h2 := s23a (cF 4 [9, a, b]) ⟨3, 0, 0, (1 + k.tmod 7, 0, 0, 0), []⟩ [valueS (1 + k.tmod 7) vl false] (c_tinyF _ _ (by simp)) (by simp)
  rw [c_t7 a b _ hv] at h2
  have h3 := s21 (cC (1 + k.tmod 7) a b 0) (cF 4 [9, a, b, valueS (1 + k.tmod 7) vl false]) (c_tiny _ _ _ _ _ (by simp [cF]) (by simp [cF]) (by simp [cF]) (by simp [cF]))
  rw [c_e7 _ a b _ va vb hv] at h3
  have h18 := s18 (1 + k.tmod 7) 0 (0) (0) vl false
  refine Ret_by is8 rfl ?_
  refine WT_call _ s10 ?_
  refine WT_t (by simp [inR]; omega) ?_
  refine WT_f rfl ?_
  refine WT_t (by rw [hK]; rfl) ?_
  refine WT_t (by rw [hK]; rfl) ?_
  refine WT_t (by rw [hK]; rfl) ?_
  refine WT_elem [I 0] (by rw [hK]; rfl) ?_
  refine WT_t (by simp [inR]; omega) ?_
  refine WT_t (by simp [inR]; omega) ?_
  refine WT_callL (codeD (cC (1 + k.tmod 7) a b 0)) (s24 (cIns (1 + k.tmod 7) a b 0) 0) (.cons (.slice (.refl _)) (.refl _)) ?_
  refine WT_callL (frErr (cF 0 [], 0)) hS (.cons (.refl _) (.cons (.refl _) (.cons (.nil _) (.cons (.refl _) (.cons (.nil _) (.refl _)))))) ?_
  refine WT_call _ h1 ?_
  refine WT_t (by simp [inR]; omega) ?_
  refine WT_t (by simp [inR]; omega) ?_
  repeat (first | refine WT_t rfl ?_ | refine WT_f rfl ?_)
  refine WT_t (by simp) ?_
  repeat (first | refine WT_t rfl ?_ | refine WT_f rfl ?_)
  refine WT_rounds 4 ?_
  refine WT_t rfl ?_
  refine WT_t rfl ?_
  refine WT_elem [I 9] rfl ?_
  refine WT_t rfl ?_
  refine WT_elem [I 9] rfl ?_
  refine WT_f (by simp) ?_
  refine WT_t rfl ?_
  refine WT_done ?_
  refine WT_t rfl ?_
  refine WT_t rfl ?_
  refine WT_elem [I a] rfl ?_
  refine WT_t rfl ?_
  refine WT_elem [I a] rfl ?_
  refine WT_f (by simp) ?_
  refine WT_t rfl ?_
  refine WT_done ?_
  refine WT_t rfl ?_
  refine WT_t rfl ?_
  refine WT_elem [I b] rfl ?_
  refine WT_t rfl ?_
  refine WT_elem [I b] rfl ?_
  refine WT_f (by simp) ?_
  refine WT_t rfl ?_
  refine WT_done ?_
  refine WT_f rfl ?_
  refine WT_done ?_
  repeat (refine WT_t rfl ?_)
  refine WT_f (by rw [hK]; rfl) ?_
  refine WT_draw ⟨[(6, .d (.int .u32 vl)), (7, .d (.bool false)), (8, .d (.bool true)), (9, .d (I (1 + k.tmod 7))), (10, .d (I 0)), (11, .ptr 1 0), (15, .ptr 4 0), (19, .ref 5 1 0 2), (20, .ptr 6 0), (21, .d (I 0))], [(1, .var (cV (cC (1 + k.tmod 7) a b 0))), (4, .var (askV ⟨3, 0, 0, (1 + k.tmod 7, 0, 0, 0), []⟩)), (5, .mt 1 1 [[I (0)], [I (0)]]), (6, .var (V.ofDat (frameD (cF 4 [9, a, b, valueS (1 + k.tmod 7) vl false]))).cells)], 7, [], 0⟩ ?_ ?_
  · refine WT_t (by simp [inR]; omega) ?_
    refine WT_call _ h18 ?_
    refine WT_callL _ h2 (.cons (.refl _) (.cons (.refl _) (.cons (.slice (.refl _)) (.refl _)))) ?_
    iterate 5 (refine WT_same (by kernel_rfl) ?_)
    refine WT_t (by simp [inR]; omega) ?_
    iterate 2 (refine WT_same (by kernel_rfl) ?_)
    refine WT_call _ h18 ?_
    iterate 2 (refine WT_same (by kernel_rfl) ?_)
    refine WT_callL _ h2 (.cons (.refl _) (.cons (.refl _) (.cons (.slice (.refl _)) (.refl _)))) ?_
    iterate 4 (refine WT_same (by kernel_rfl) ?_)
    iterate 1 (refine WT_same (by kernel_rfl) ?_)
    refine WT_done (.inl ⟨rfl, ?_⟩)
    exact Weak.eqs [] (by kernel_rfl) (by kernel_rfl) (by kernel_rfl) (by kernel_rfl) (by kernel_rfl) (by kernel_rfl) (by kernel_rfl) (by kernel_rfl) (by kernel_rfl) (by kernel_rfl)
  refine WT_call _ h3 ?_
  refine WT_f rfl ?_
  repeat (refine WT_t rfl ?_)
  refine WT_elem [I (0)] rfl ?_
  repeat (refine WT_t rfl ?_)
  repeat (refine WT_t rfl ?_)
  refine WT_elem [I (0)] rfl ?_
  repeat (refine WT_t rfl ?_)
  try (refine WT_t (by rw [eV]; simp) ?_)
  repeat (refine WT_t rfl ?_)
  exact WT_ret rfl rfl rfl rfl rfl

set_option maxRecDepth 100000 in
set_option maxHeartbeats 2000000 in
theorem calls7T (k a b vl : Int) (hk : 0 ≤ k ∧ k < 256) (ha : 0 ≤ a ∧ a < 4294967296) (hb : 0 ≤ b ∧ b < 4294967296) (hvl : 0 ≤ vl ∧ vl < 4294967296) (hj : k.tmod 7 = 6) : Ret Try.prog 8 [.agg [.int .u8 k, .int .u32 a, .int .u32 b, .int .u32 vl, .bool true]] (.bool true) := by
  have va : isVal a = true := by simp [isVal]; omega
  have vb : isVal b = true := by simp [isVal]; omega
  have hK : 1 + k.tmod 7 = 7 := by omega
  have hv := c_value (1 + k.tmod 7) vl true
  have eV : valueS (1 + k.tmod 7) vl true = (vl + 1) % 4294967296 := by rw [hK]; simp [valueS, wrapS]
  have hS : Ret Try.prog 12 [codeD (cC (1 + k.tmod 7) a b 0), I 0, ints [], I 1, ints []] (frErr (cF 0 [], 0)) := start_plain (cIns (1 + k.tmod 7) a b 0) 0 1 [] (by decide) (by decide) (by decide) (by decide)
  have h1 := s21 (cC (1 + k.tmod 7) a b 0) (cF 0 []) (c_tiny _ _ _ _ _ (by simp [cF]) (by simp [cF]) (by simp [cF]) (by simp [cF]))
  rw [c_n7 _ a b hK va vb] at h1
  have h2 := s23a (cF 4 [9, a, b]) ⟨3, 0, 0, (1 + k.tmod 7, 0, 0, 0), []⟩ [valueS (1 + k.tmod 7) vl true] (c_tinyF _ _ (by simp)) (by simp)
  rw [c_t7 a b _ hv] at h2
  have h3 := s21 (cC (1 + k.tmod 7) a b 0) (cF 4 [9, a, b, valueS (1 + k.tmod 7) vl true]) (c_tiny _ _ _ _ _ (by simp [cF]) (by simp [cF]) (by simp [cF]) (by simp [cF]))
  rw [c_e7 _ a b _ va vb hv] at h3
  have h18 := s18 (1 + k.tmod 7) 0 (0) (0) vl true
  refine Ret_by is8 rfl ?_
  refine WT_call _ s10 ?_
  refine WT_t (by simp [inR]; omega) ?_
  refine WT_f rfl ?_
  refine WT_t (by rw [hK]; rfl) ?_
  refine WT_t (by rw [hK]; rfl) ?_
  refine WT_t (by rw [hK]; rfl) ?_
  refine WT_elem [I 0] (by rw [hK]; rfl) ?_
  refine WT_t (by simp [inR]; omega) ?_
  refine WT_t (by simp [inR]; omega) ?_
  refine WT_callL (codeD (cC (1 + k.tmod 7) a b 0)) (s24 (cIns (1 + k.tmod 7) a b 0) 0) (.cons (.slice (.refl _)) (.refl _)) ?_
  refine WT_callL (frErr (cF 0 [], 0)) hS (.cons (.refl _) (.cons (.refl _) (.cons (.nil _) (.cons (.refl _) (.cons (.nil _) (.refl _)))))) ?_
  refine WT_call _ h1 ?_
  refine WT_t (by simp [inR]; omega) ?_
  refine WT_t (by simp [inR]; omega) ?_
  repeat (first | refine WT_t rfl ?_ | refine WT_f rfl ?_)
  refine WT_t (by simp) ?_
  repeat (first | refine WT_t rfl ?_ | refine WT_f rfl ?_)
  refine WT_rounds 4 ?_
  refine WT_t rfl ?_
  refine WT_t rfl ?_
  refine WT_elem [I 9] rfl ?_
  refine WT_t rfl ?_
  refine WT_elem [I 9] rfl ?_
  refine WT_f (by simp) ?_
  refine WT_t rfl ?_
  refine WT_done ?_
  refine WT_t rfl ?_
  refine WT_t rfl ?_
  refine WT_elem [I a] rfl ?_
  refine WT_t rfl ?_
  refine WT_elem [I a] rfl ?_
  refine WT_f (by simp) ?_
  refine WT_t rfl ?_
  refine WT_done ?_
  refine WT_t rfl ?_
  refine WT_t rfl ?_
  refine WT_elem [I b] rfl ?_
  refine WT_t rfl ?_
  refine WT_elem [I b] rfl ?_
  refine WT_f (by simp) ?_
  refine WT_t rfl ?_
  refine WT_done ?_
  refine WT_f rfl ?_
  refine WT_done ?_
  repeat (refine WT_t rfl ?_)
  refine WT_f (by rw [hK]; rfl) ?_
  refine WT_draw ⟨[(6, .d (.int .u32 vl)), (7, .d (.bool true)), (8, .d (.bool true)), (9, .d (I (1 + k.tmod 7))), (10, .d (I 0)), (11, .ptr 1 0), (15, .ptr 4 0), (19, .ref 5 1 0 2), (20, .ptr 6 0), (21, .d (I 0))], [(1, .var (cV (cC (1 + k.tmod 7) a b 0))), (4, .var (askV ⟨3, 0, 0, (1 + k.tmod 7, 0, 0, 0), []⟩)), (5, .mt 1 1 [[I (0)], [I (0)]]), (6, .var (V.ofDat (frameD (cF 4 [9, a, b, valueS (1 + k.tmod 7) vl true]))).cells)], 7, [], 0⟩ ?_ ?_
  · refine WT_t (by simp [inR]; omega) ?_
    refine WT_call _ h18 ?_
    refine WT_callL _ h2 (.cons (.refl _) (.cons (.refl _) (.cons (.slice (.refl _)) (.refl _)))) ?_
    iterate 5 (refine WT_same (by kernel_rfl) ?_)
    refine WT_t (by simp [inR]; omega) ?_
    iterate 2 (refine WT_same (by kernel_rfl) ?_)
    refine WT_call _ h18 ?_
    iterate 2 (refine WT_same (by kernel_rfl) ?_)
    refine WT_callL _ h2 (.cons (.refl _) (.cons (.refl _) (.cons (.slice (.refl _)) (.refl _)))) ?_
    iterate 4 (refine WT_same (by kernel_rfl) ?_)
    iterate 1 (refine WT_same (by kernel_rfl) ?_)
    refine WT_done (.inl ⟨rfl, ?_⟩)
    exact Weak.eqs [] (by kernel_rfl) (by kernel_rfl) (by kernel_rfl) (by kernel_rfl) (by kernel_rfl) (by kernel_rfl) (by kernel_rfl) (by kernel_rfl) (by kernel_rfl) (by kernel_rfl)
  refine WT_call _ h3 ?_
  refine WT_t rfl ?_
  refine WT_t (by rw [hK]; rfl) ?_
  refine WT_f rfl ?_
  refine WT_t (by rw [hK]; rfl) ?_
  refine WT_f rfl ?_
  refine WT_t (by rw [hK]; rfl) ?_
  refine WT_t (by simp [inR]; omega) ?_
  refine WT_t (by simp [inR]; omega) ?_
  refine WT_f rfl ?_
  repeat (refine WT_t rfl ?_)
  refine WT_elem [I (0)] rfl ?_
  repeat (refine WT_t rfl ?_)
  repeat (refine WT_t rfl ?_)
  refine WT_elem [I (0)] rfl ?_
  repeat (refine WT_t rfl ?_)
  try (refine WT_t (by rw [eV]; rw [Int.tmod_eq_emod_of_nonneg (by omega)]; simp) ?_)
  repeat (refine WT_t rfl ?_)
  exact WT_ret rfl rfl rfl rfl rfl

end Uw.Try
