/- Ca0: We (merged by merge.py from the working texts). -/
import Derived.Test.YtamkepeamjphkaaM8
set_option linter.unusedSimpArgs false
set_option linter.unnecessarySimpa false
set_option linter.unusedVariables false

/- CALLS: plain part (printed by printc.py). -/
set_option linter.unusedVariables false
namespace Uw.Try
open Go Uw Go.Proofs

def cIns (K a b T : Int) : List Ins := [⟨1, 9, 0, 0⟩, ⟨1, a, 0, 0⟩, ⟨1, b, 0, 0⟩, ⟨11, K, 0, T⟩, ⟨17, 0, 0, 0⟩]
def cC (K a b T : Int) : Code := plainC (cIns K a b T) 0
def cB (K a b T : Int) : Body := ⟨0, 0, cIns K a b T⟩
def cF (pc : Int) (st : List Int) : Frame := ⟨1, [], 0, pc, [], st, [], 0, pc, false⟩

theorem c_three (K a b T : Int) (ha : isVal a = true) (hb : isVal b = true) : nextS (cC K a b T) (cF 0 []) = runF (cC K a b T) (cB K a b T) (cF 3 [9, a, b]) := by
  rw [next_run (by rfl)]
  have e1 : runF (cC K a b T) (cB K a b T) (cF 0 []) = runF (cC K a b T) (cB K a b T) (cF 1 [9]) := runF_go _ (by simp [cF, cB, cIns]) (by simp [cF]) (by simp [cF]) (s_push rfl rfl (by simp [cF]))
  have e2 : runF (cC K a b T) (cB K a b T) (cF 1 [9]) = runF (cC K a b T) (cB K a b T) (cF 2 [9, a]) := runF_go _ (by simp [cF, cB, cIns]) (by simp [cF]) (by simp [cF]) (s_push rfl ha (by simp [cF]))
  have e3 : runF (cC K a b T) (cB K a b T) (cF 2 [9, a]) = runF (cC K a b T) (cB K a b T) (cF 3 [9, a, b]) := runF_go _ (by simp [cF, cB, cIns]) (by simp [cF]) (by simp [cF]) (s_push rfl hb (by simp [cF]))
  exact e1.trans (e2.trans e3)

theorem c_value (K v : Int) (is : Bool) : isVal (valueS K v is) = true := by
  unfold valueS; split
  · rfl
  · split
    · exact isVal_wrap _
    · rfl

theorem c_tiny (K a b T : Int) (f : Frame) (h1 : f.path.length < 1000) (h2 : f.loc.length < 1000) (h3 : f.stack.length < 1000) (h4 : f.kids.length < 1000) : Tiny (cC K a b T) f := tiny_plain _ _ _ (by simp [cIns]) h1 h2 h3 h4
theorem c_tinyF (pc : Int) (st : List Int) (h : st.length < 1000) : TinyF (cF pc st) := ⟨by simp [cF], by simp [cF], h, by simp [cF], by simp [cF], by simp [cF]⟩

theorem c_n1 (K a b : Int) (hK : K = 1) (ha : isVal a = true) (hb : isVal b = true) : nextS (cC K a b 1) (cF 0 []) = .ok (cF 4 [9, a]) ⟨3, 0, 0, (K, 0, keyS b, 0), []⟩ := by
  rw [c_three K a b 1 ha hb]
  subst hK
  exact runF_ask _ _ (by simp [cF, cB, cIns]) (by simp [cF]) rfl (by simp)
theorem c_t1 (a b v : Int) (hv : isVal v = true) : toldS (cF 4 [9, a]) 3 0 [v] = (cF 4 [9, a, v], 0) := by
  have h : toldOk (cF 4 [9, a]) 3 0 [v] = true := by
    show (true && (isVal v && true) && true) = true
    rw [hv]; rfl
  rw [toldS, if_pos h]; rfl
theorem c_e1 (K a b v : Int) (ha : isVal a = true) (hb : isVal b = true) (hv : isVal v = true) : nextS (cC K a b 1) (cF 4 [9, a, v]) = .ok (cF 5 [9, a]) ⟨6, v, 0, (0, 0, 0, 0), []⟩ := by
  have hr : right (cC K a b 1) (cF 4 [9, a, v]) = true := by
    show (_ && _ && _ && _ && (isVal 9 && (isVal a && (isVal v && true))) && _ && _) = true
    rw [ha, hv]; rfl
  rw [next_run hr]
  exact runF_ask _ _ (by show (0 : Int) ≤ 4 ∧ (4 : Int) < 5; omega) (by simp [cF]) rfl (by simp)

theorem c_n2 (K a b : Int) (hK : K = 2) (ha : isVal a = true) (hb : isVal b = true) : nextS (cC K a b 2) (cF 0 []) = .ok (cF 4 [9]) ⟨3, 0, 0, (K, 0, keyS a, b), []⟩ := by
  rw [c_three K a b 2 ha hb]
  subst hK
  exact runF_ask _ _ (by simp [cF, cB, cIns]) (by simp [cF]) rfl (by simp)
theorem c_t2 (a b v : Int) (hv : isVal v = true) : toldS (cF 4 [9]) 3 0 [v] = (cF 4 [9, v], 0) := by
  have h : toldOk (cF 4 [9]) 3 0 [v] = true := by
    show (true && (isVal v && true) && true) = true
    rw [hv]; rfl
  rw [toldS, if_pos h]; rfl
theorem c_e2 (K a b v : Int) (ha : isVal a = true) (hb : isVal b = true) (hv : isVal v = true) : nextS (cC K a b 2) (cF 4 [9, v]) = .ok (cF 5 [9]) ⟨6, v, 0, (0, 0, 0, 0), []⟩ := by
  have hr : right (cC K a b 2) (cF 4 [9, v]) = true := by
    show (_ && _ && _ && _ && (isVal 9 && (isVal v && true)) && _ && _) = true
    rw [hv]; rfl
  rw [next_run hr]
  exact runF_ask _ _ (by show (0 : Int) ≤ 4 ∧ (4 : Int) < 5; omega) (by simp [cF]) rfl (by simp)

theorem c_n3 (K a b : Int) (hK : K = 3) (ha : isVal a = true) (hb : isVal b = true) : nextS (cC K a b 1) (cF 0 []) = .ok (cF 4 [9, a]) ⟨3, 0, 0, (K, 0, keyS b, 0), []⟩ := by
  rw [c_three K a b 1 ha hb]
  subst hK
  exact runF_ask _ _ (by simp [cF, cB, cIns]) (by simp [cF]) rfl (by simp)
theorem c_t3 (a b v : Int) (hv : isVal v = true) : toldS (cF 4 [9, a]) 3 0 [v] = (cF 4 [9, a, v], 0) := by
  have h : toldOk (cF 4 [9, a]) 3 0 [v] = true := by
    show (true && (isVal v && true) && true) = true
    rw [hv]; rfl
  rw [toldS, if_pos h]; rfl
theorem c_e3 (K a b v : Int) (ha : isVal a = true) (hb : isVal b = true) (hv : isVal v = true) : nextS (cC K a b 1) (cF 4 [9, a, v]) = .ok (cF 5 [9, a]) ⟨6, v, 0, (0, 0, 0, 0), []⟩ := by
  have hr : right (cC K a b 1) (cF 4 [9, a, v]) = true := by
    show (_ && _ && _ && _ && (isVal 9 && (isVal a && (isVal v && true))) && _ && _) = true
    rw [ha, hv]; rfl
  rw [next_run hr]
  exact runF_ask _ _ (by show (0 : Int) ≤ 4 ∧ (4 : Int) < 5; omega) (by simp [cF]) rfl (by simp)

theorem c_n4 (K a b : Int) (hK : K = 4) (ha : isVal a = true) (hb : isVal b = true) : nextS (cC K a b 1) (cF 0 []) = .ok (cF 4 [9, a]) ⟨3, 0, 0, (K, 0, b, 0), []⟩ := by
  rw [c_three K a b 1 ha hb]
  subst hK
  exact runF_ask _ _ (by simp [cF, cB, cIns]) (by simp [cF]) rfl (by simp)
theorem c_t4 (a b v : Int) (hv : isVal v = true) : toldS (cF 4 [9, a]) 3 0 [v] = (cF 4 [9, a, v], 0) := by
  have h : toldOk (cF 4 [9, a]) 3 0 [v] = true := by
    show (true && (isVal v && true) && true) = true
    rw [hv]; rfl
  rw [toldS, if_pos h]; rfl
theorem c_e4 (K a b v : Int) (ha : isVal a = true) (hb : isVal b = true) (hv : isVal v = true) : nextS (cC K a b 1) (cF 4 [9, a, v]) = .ok (cF 5 [9, a]) ⟨6, v, 0, (0, 0, 0, 0), []⟩ := by
  have hr : right (cC K a b 1) (cF 4 [9, a, v]) = true := by
    show (_ && _ && _ && _ && (isVal 9 && (isVal a && (isVal v && true))) && _ && _) = true
    rw [ha, hv]; rfl
  rw [next_run hr]
  exact runF_ask _ _ (by show (0 : Int) ≤ 4 ∧ (4 : Int) < 5; omega) (by simp [cF]) rfl (by simp)

theorem c_n5 (K a b : Int) (hK : K = 5) (ha : isVal a = true) (hb : isVal b = true) : nextS (cC K a b 0) (cF 0 []) = .ok (cF 4 [9, a, b]) ⟨3, 0, 0, (K, 0, 0, 0), []⟩ := by
  rw [c_three K a b 0 ha hb]
  subst hK
  exact runF_ask _ _ (by simp [cF, cB, cIns]) (by simp [cF]) rfl (by simp)
theorem c_t5 (a b v : Int) (hv : isVal v = true) : toldS (cF 4 [9, a, b]) 3 0 [v] = (cF 4 [9, a, b, v], 0) := by
  have h : toldOk (cF 4 [9, a, b]) 3 0 [v] = true := by
    show (true && (isVal v && true) && true) = true
    rw [hv]; rfl
  rw [toldS, if_pos h]; rfl
theorem c_e5 (K a b v : Int) (ha : isVal a = true) (hb : isVal b = true) (hv : isVal v = true) : nextS (cC K a b 0) (cF 4 [9, a, b, v]) = .ok (cF 5 [9, a, b]) ⟨6, v, 0, (0, 0, 0, 0), []⟩ := by
  have hr : right (cC K a b 0) (cF 4 [9, a, b, v]) = true := by
    show (_ && _ && _ && _ && (isVal 9 && (isVal a && (isVal b && (isVal v && true)))) && _ && _) = true
    rw [ha, hb, hv]; rfl
  rw [next_run hr]
  exact runF_ask _ _ (by show (0 : Int) ≤ 4 ∧ (4 : Int) < 5; omega) (by simp [cF]) rfl (by simp)

theorem c_n6 (K a b : Int) (hK : K = 6) (ha : isVal a = true) (hb : isVal b = true) : nextS (cC K a b 1) (cF 0 []) = .ok (cF 4 [9, a]) ⟨3, 0, 0, (K, 0, b, 0), []⟩ := by
  rw [c_three K a b 1 ha hb]
  subst hK
  exact runF_ask _ _ (by simp [cF, cB, cIns]) (by simp [cF]) rfl (by simp)
theorem c_t6 (a b v : Int) (hv : isVal v = true) : toldS (cF 4 [9, a]) 3 0 [v] = (cF 4 [9, a, v], 0) := by
  have h : toldOk (cF 4 [9, a]) 3 0 [v] = true := by
    show (true && (isVal v && true) && true) = true
    rw [hv]; rfl
  rw [toldS, if_pos h]; rfl
theorem c_e6 (K a b v : Int) (ha : isVal a = true) (hb : isVal b = true) (hv : isVal v = true) : nextS (cC K a b 1) (cF 4 [9, a, v]) = .ok (cF 5 [9, a]) ⟨6, v, 0, (0, 0, 0, 0), []⟩ := by
  have hr : right (cC K a b 1) (cF 4 [9, a, v]) = true := by
    show (_ && _ && _ && _ && (isVal 9 && (isVal a && (isVal v && true))) && _ && _) = true
    rw [ha, hv]; rfl
  rw [next_run hr]
  exact runF_ask _ _ (by show (0 : Int) ≤ 4 ∧ (4 : Int) < 5; omega) (by simp [cF]) rfl (by simp)

theorem c_n7 (K a b : Int) (hK : K = 7) (ha : isVal a = true) (hb : isVal b = true) : nextS (cC K a b 0) (cF 0 []) = .ok (cF 4 [9, a, b]) ⟨3, 0, 0, (K, 0, 0, 0), []⟩ := by
  rw [c_three K a b 0 ha hb]
  subst hK
  exact runF_ask _ _ (by simp [cF, cB, cIns]) (by simp [cF]) rfl (by simp)
theorem c_t7 (a b v : Int) (hv : isVal v = true) : toldS (cF 4 [9, a, b]) 3 0 [v] = (cF 4 [9, a, b, v], 0) := by
  have h : toldOk (cF 4 [9, a, b]) 3 0 [v] = true := by
    show (true && (isVal v && true) && true) = true
    rw [hv]; rfl
  rw [toldS, if_pos h]; rfl
theorem c_e7 (K a b v : Int) (ha : isVal a = true) (hb : isVal b = true) (hv : isVal v = true) : nextS (cC K a b 0) (cF 4 [9, a, b, v]) = .ok (cF 5 [9, a, b]) ⟨6, v, 0, (0, 0, 0, 0), []⟩ := by
  have hr : right (cC K a b 0) (cF 4 [9, a, b, v]) = true := by
    show (_ && _ && _ && _ && (isVal 9 && (isVal a && (isVal b && (isVal v && true)))) && _ && _) = true
    rw [ha, hb, hv]; rfl
  rw [next_run hr]
  exact runF_ask _ _ (by show (0 : Int) ≤ 4 ∧ (4 : Int) < 5; omega) (by simp [cF]) rfl (by simp)

end Uw.Try
