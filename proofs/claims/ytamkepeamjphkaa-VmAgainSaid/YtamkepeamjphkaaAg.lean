/- Ag: Wc (merged by merge.py from the working texts). -/
import Derived.Test.YtamkepeamjphkaaM8
set_option linter.unusedSimpArgs false
set_option linter.unnecessarySimpa false
set_option linter.unusedVariables false

/- AGAIN. -/
set_option linter.unusedVariables false
namespace Uw.Try
open Go Uw Go.Proofs

def aIns (d : Int) : List Ins := [⟨13, 0, 0, 0⟩, ⟨13, 0, 0, d⟩, ⟨2, 0, 0, 0⟩, ⟨2, 1, 0, 0⟩, ⟨6, 0, 0, 0⟩, ⟨17, 0, 0, 0⟩]
def aC (d : Int) : Code := plainC (aIns d) 2
def aB (d : Int) : Body := ⟨0, 2, aIns d⟩
def aF (pc sp many : Int) (loc st : List Int) (kids : List (Int × Int)) : Frame := ⟨1, [4], 0, pc, loc, st, kids, many, sp, false⟩

theorem a_n1 (d : Int) (hd : d = 0 ∨ d = 1) : nextS (aC d) (aF 0 0 0 [0, 0] [] []) = .ok (aF 1 1 0 [0, 0] [] []) ⟨4, 0, 0, (0, 0, 0, 0), []⟩ := by rcases hd with rfl | rfl <;> rfl
theorem a_t1 : toldS (aF 1 1 0 [0, 0] [] []) 4 0 [7] = (aF 1 1 1 [0, 0] [] [(7, 0)], 0) := rfl
theorem a_n2 (d : Int) (hd : d = 0 ∨ d = 1) : nextS (aC d) (aF 1 1 1 [0, 0] [] [(7, 0)]) = .ok (aF 2 2 1 [0, 0] [] [(7, 0)]) ⟨4, 0, d, (0, 0, 0, 0), []⟩ := by rcases hd with rfl | rfl <;> rfl
theorem a_t2 (d : Int) (hd : d = 0 ∨ d = 1) : toldS (aF 2 2 1 [0, 0] [] [(7, 0)]) 4 d [8] = (aF 2 2 2 [0, 0] [] [(7, 0), (8, d)], 0) := by rcases hd with rfl | rfl <;> rfl
theorem a_n3 (d : Int) (hd : d = 0 ∨ d = 1) : nextS (aC d) (aF 2 2 2 [0, 0] [] [(7, 0), (8, d)]) = .ok (aF 2 2 2 [0, 0] [] [(7, 0), (8, d)]) ⟨5, 0, 0, (0, 0, 0, 0), []⟩ := by rcases hd with rfl | rfl <;> rfl
def aL (d a b : Int) : List Int := if d = 0 then [b, 0] else [a, b]
theorem a_t3 (d a b : Int) (hd : d = 0 ∨ d = 1) (ha : isVal a = true) (hb : isVal b = true) : toldS (aF 2 2 2 [0, 0] [] [(7, 0), (8, d)]) 5 0 [a, b] = (aF 2 2 2 (aL d a b) [] [], 0) := by
  have h : toldOk (aF 2 2 2 [0, 0] [] [(7, 0), (8, d)]) 5 0 [a, b] = true := by
    show (true && (isVal a && (isVal b && true)) && _) = true
    rw [ha, hb]
    rcases hd with rfl | rfl <;> rfl
  rw [toldS, if_pos h]
  rcases hd with rfl | rfl <;> rfl
theorem a_n4 (d x y : Int) (hd : d = 0 ∨ d = 1) (hx : isVal x = true) (hy : isVal y = true) : nextS (aC d) (aF 2 2 2 [x, y] [] []) = .ok (aF 6 6 2 [x, y] [] []) ⟨6, wrapS (x + y), 0, (0, 0, 0, 0), []⟩ := by
  have hr : right (aC d) (aF 2 2 2 [x, y] [] []) = true := by
    show (_ && _ && _ && (isVal x && (isVal y && true)) && _ && _ && _) = true
    rw [hx, hy]; rfl
  rw [next_run hr]
  show runF (aC d) (aB d) (aF 2 2 2 [x, y] [] []) = _
  have e1 : runF (aC d) (aB d) (aF 2 2 2 [x, y] [] []) = runF (aC d) (aB d) (aF 3 3 2 [x, y] [x] []) := runF_go _ (by simp [aF, aB, aIns]) (by simp [aF]) (by simp [aF]) rfl
  have e2 : runF (aC d) (aB d) (aF 3 3 2 [x, y] [x] []) = runF (aC d) (aB d) (aF 4 4 2 [x, y] [x, y] []) := runF_go _ (by simp [aF, aB, aIns]) (by simp [aF]) (by simp [aF]) rfl
  have e3 : runF (aC d) (aB d) (aF 4 4 2 [x, y] [x, y] []) = runF (aC d) (aB d) (aF 5 5 2 [x, y] [wrapS (x + y)] []) := runF_go _ (by simp [aF, aB, aIns]) (by simp [aF]) (by simp [aF]) rfl
  have e4 : runF (aC d) (aB d) (aF 5 5 2 [x, y] [wrapS (x + y)] []) = .ok (aF 6 6 2 [x, y] [] []) ⟨6, wrapS (x + y), 0, (0, 0, 0, 0), []⟩ := runF_ask _ _ (by simp [aF, aB, aIns]) (by simp [aF]) rfl (by simp)
  exact e1.trans (e2.trans (e3.trans e4))

theorem a_tiny (d : Int) (f : Frame) (h1 : f.path.length < 1000) (h2 : f.loc.length < 1000) (h3 : f.stack.length < 1000) (h4 : f.kids.length < 1000) : Tiny (aC d) f := tiny_plain _ _ _ (by simp [aIns]) h1 h2 h3 h4

set_option maxRecDepth 100000 in
set_option maxHeartbeats 1000000 in
theorem again5 (a b k x y w : Int) (ha : 0 ≤ a ∧ a < 4294967296) (hb : 0 ≤ b ∧ b < 4294967296) (hk : 0 ≤ k ∧ k < 256) (hd : k.tmod 2 = 0 ∧ x = b ∧ y = 0 ∧ w = b ∨ k.tmod 2 = 1 ∧ x = a ∧ y = b ∧ w = a + b) : Ret Try.prog 5 [.int .u32 a, .int .u32 b, .int .u8 k] (.bool true) := by
  have va : isVal a = true := by simp [isVal]; omega
  have vb : isVal b = true := by simp [isVal]; omega
  have hd' : k.tmod 2 = 0 ∨ k.tmod 2 = 1 := by omega
  have hx : isVal x = true := by simp [isVal]; omega
  have hy : isVal y = true := by simp [isVal]; omega
  have eL : aL (k.tmod 2) a b = [x, y] := by
    rcases hd with ⟨h, rfl, rfl, _⟩ | ⟨h, rfl, rfl, _⟩ <;> simp [aL, h]
  have hw : wrapS (x + y) = w.tmod 4294967296 := by
    rw [Int.tmod_eq_emod_of_nonneg (by omega)]; unfold wrapS; omega
  have hS : Ret Try.prog 12 [codeD (aC (k.tmod 2)), I 0, ints [], I 1, ints [4]] (frErr (aF 0 0 0 [0, 0] [] [], 0)) := start_plain (aIns (k.tmod 2)) 2 1 [4] (by decide) (by decide) (by decide) (by decide)
  have h1 := s21 (aC (k.tmod 2)) (aF 0 0 0 [0, 0] [] []) (a_tiny _ _ (by simp [aF]) (by simp [aF]) (by simp [aF]) (by simp [aF]))
  rw [a_n1 _ hd'] at h1
  have t1 := s23a (aF 1 1 0 [0, 0] [] []) ⟨4, 0, 0, (0, 0, 0, 0), []⟩ [7] ⟨by simp [aF], by simp [aF], by simp [aF], by simp [aF], by simp [aF], by simp [aF]⟩ (by simp)
  rw [show toldS (aF 1 1 0 [0, 0] [] []) 4 0 [7] = (aF 1 1 1 [0, 0] [] [(7, 0)], 0) from a_t1] at t1
  have h2 := s21 (aC (k.tmod 2)) (aF 1 1 1 [0, 0] [] [(7, 0)]) (a_tiny _ _ (by simp [aF]) (by simp [aF]) (by simp [aF]) (by simp [aF]))
  rw [a_n2 _ hd'] at h2
  have t2 := s23a (aF 2 2 1 [0, 0] [] [(7, 0)]) ⟨4, 0, k.tmod 2, (0, 0, 0, 0), []⟩ [8] ⟨by simp [aF], by simp [aF], by simp [aF], by simp [aF], by simp [aF], by simp [aF]⟩ (by simp)
  rw [a_t2 _ hd'] at t2
  have h3 := s21 (aC (k.tmod 2)) (aF 2 2 2 [0, 0] [] [(7, 0), (8, k.tmod 2)]) (a_tiny _ _ (by simp [aF]) (by simp [aF]) (by simp [aF]) (by simp [aF]))
  rw [a_n3 _ hd'] at h3
  have t3 := s23a (aF 2 2 2 [0, 0] [] [(7, 0), (8, k.tmod 2)]) ⟨5, 0, 0, (0, 0, 0, 0), []⟩ [a, b] ⟨by simp [aF], by simp [aF], by simp [aF], by simp [aF], by simp [aF], by simp [aF]⟩ (by simp)
  rw [a_t3 _ a b hd' va vb, eL] at t3
  have h4 := s21 (aC (k.tmod 2)) (aF 2 2 2 [x, y] [] []) (a_tiny _ _ (by simp [aF]) (by simp [aF]) (by simp [aF]) (by simp [aF]))
  rw [a_n4 _ x y hd' hx hy] at h4
  have hs : Ret Try.prog 15 [frameD (aF 2 2 2 [0, 0] [] [(7, 0), (8, k.tmod 2)]), frameD (aF 2 2 2 [0, 0] [] [(7, 0), (8, k.tmod 2)])] (.bool true) := by
    have := s15 (aF 2 2 2 [0, 0] [] [(7, 0), (8, k.tmod 2)]) (aF 2 2 2 [0, 0] [] [(7, 0), (8, k.tmod 2)]) (by simp [aF]) (by simp [aF]) (by simp [aF]) (by simp [aF])
    rwa [sameS_self] at this
  refine Ret_by is5 rfl ?_
  refine WT_call _ s10 ?_
  refine WT_t (by simp [inR]; omega) ?_
  refine WT_f rfl ?_
  refine WT_callL (codeD (aC (k.tmod 2))) (s24 (aIns (k.tmod 2)) 2) (.cons (.slice (.refl _)) (.refl _)) ?_
  refine WT_callL (frErr (aF 0 0 0 [0, 0] [] [], 0)) hS (.cons (.refl _) (.cons (.refl _) (.cons (.nil _) (.cons (.refl _) (.cons (.slice (.refl _)) (.refl _)))))) ?_
  refine WT_call _ h1 ?_
  refine WT_callL _ t1 (.cons (.refl _) (.cons (.refl _) (.cons (.slice (.refl _)) (.refl _)))) ?_
  refine WT_call _ h2 ?_
  refine WT_callL _ t2 (.cons (.refl _) (.cons (.refl _) (.cons (.slice (.refl _)) (.refl _)))) ?_
  refine WT_call _ h3 ?_
  refine WT_call _ h3 ?_
  repeat (first | refine WT_t rfl ?_ | refine WT_f rfl ?_)
  refine WT_t (by simp [inR]; omega) ?_
  refine WT_t (by simp [inR]; omega) ?_
  refine WT_callL _ t3 (.cons (.refl _) (.cons (.refl _) (.cons (.slice (.refl _)) (.refl _)))) ?_
  refine WT_call _ h4 ?_
  refine WT_t (by simp [inR]; omega) ?_
  refine WT_t (by simp [inR]; omega) ?_
  refine WT_t (by simp [inR]; omega) ?_
  by_cases h0 : k.tmod 2 = 0
  · have ew : w = b := by omega
    refine WT_t (by simpa using h0) ?_
    refine WT_t (by simp [inR]; omega) ?_
    repeat (first | refine WT_t rfl ?_ | refine WT_f rfl ?_)
    refine WT_call _ hs ?_
    repeat (first | refine WT_t rfl ?_ | refine WT_f rfl ?_)
    refine WT_t (by rw [hw, ew]; simp) ?_
    repeat (first | refine WT_t rfl ?_ | refine WT_f rfl ?_)
    refine WT_ret rfl rfl rfl rfl ?_
    simp [packD, aF]
  · have ew : w = a + b := by omega
    refine WT_f (by simpa using h0) ?_
    repeat (first | refine WT_t rfl ?_ | refine WT_f rfl ?_)
    refine WT_call _ hs ?_
    repeat (first | refine WT_t rfl ?_ | refine WT_f rfl ?_)
    refine WT_t (by rw [hw, ew]; simp) ?_
    repeat (first | refine WT_t rfl ?_ | refine WT_f rfl ?_)
    refine WT_ret rfl rfl rfl rfl ?_
    simp [packD, aF]

theorem l5 (a b k : Int) (ha : 0 ≤ a ∧ a < 4294967296) (hb : 0 ≤ b ∧ b < 4294967296) (hk : 0 ≤ k ∧ k < 256) : Ret Try.prog 5 [.int .u32 a, .int .u32 b, .int .u8 k] (.bool true) := by
  have h0 : k.tmod 2 = 0 ∨ k.tmod 2 = 1 := by rw [Int.tmod_eq_emod_of_nonneg hk.1]; omega
  rcases h0 with h | h
  · exact again5 a b k b 0 b ha hb hk (.inl ⟨h, rfl, rfl, rfl⟩)
  · exact again5 a b k a b (a + b) ha hb hk (.inr ⟨h, rfl, rfl, rfl⟩)

end Uw.Try
