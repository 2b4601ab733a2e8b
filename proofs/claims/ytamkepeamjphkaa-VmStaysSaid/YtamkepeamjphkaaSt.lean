/- St: Wf Wg Wh Wi (merged by merge.py from the working texts). -/
import Derived.Test.YtamkepeamjphkaaM8
import Derived.Test.YtamkepeamjphkaaM4
set_option linter.unusedSimpArgs false
set_option linter.unnecessarySimpa false
set_option linter.unusedVariables false

/- The functions of the document's answer (printed by printg.py). -/
set_option linter.unusedVariables false
namespace Uw.Try
open Go Uw Go.Proofs

theorem s39 (n : Int) : Ret Try.prog 39 [I n] (.bool (isVal n)) := by
  refine Ret_by is39 rfl ?_
  refine WT_test (fun h => ?_) (fun h => ?_)
  · refine WT_t rfl ?_
    refine WT_ret rfl rfl rfl rfl ?_
    simp at h; simp [h, packD, isVal]
  · refine WT_f rfl ?_
    refine WT_ret rfl rfl rfl rfl ?_
    simp at h; simp [packD, isVal]; omega

set_option maxRecDepth 100000 in
theorem s28 (l : List Int) (hl : l.length < 1000000) : Ret Try.prog 28 [ints l] (.bool (l.all isVal)) := by
  obtain ⟨R, hR⟩ : ∃ R, l.all isVal = R := ⟨_, rfl⟩
  rw [hR]
  refine Ret_by is28 rfl ?_
  refine WT_loop (fun k : Int => ⟨[(0, .d (ints l)), (3, .d (I k))], [], 0, [], 0⟩)
    (fun k => 0 ≤ k ∧ k ≤ l.length ∧ (l.take k.toNat).all isVal = true) (fun k => (l.length - k).toNat) 0 ?_ ⟨by omega, by omega, by simp⟩ ?_
  · exact Weak.eqs [] (by kernel_rfl) (by kernel_rfl) (by kernel_rfl) (by kernel_rfl) (by kernel_rfl) (by kernel_rfl) (by kernel_rfl) (by kernel_rfl) (by kernel_rfl) (by kernel_rfl)
  · rintro k ⟨h0, h1, hall⟩
    by_cases hk : k < l.length
    · have k1 : k.toNat < l.length := by omega
      refine WT_t (by simp; omega) ?_
      refine WT_t (by simp; omega) ?_
      refine WT_elem [I l[k.toNat]] (by simp) ?_
      refine WT_call _ (s39 _) ?_
      by_cases hv : isVal l[k.toNat] = true
      · refine WT_f (by rw [hv]; rfl) ?_
        refine WT_t (by simp [inR]; omega) ?_
        refine WT_again (k + 1) ⟨by omega, by omega, ?_⟩ (by omega) (Weak.eqs [] (by kernel_rfl) (by kernel_rfl) (by kernel_rfl) (by kernel_rfl) (by kernel_rfl) (by kernel_rfl) (by kernel_rfl) (by kernel_rfl) (by kernel_rfl) (by kernel_rfl))
        rw [show (k + 1).toNat = k.toNat + 1 by omega, all_take isVal l k.toNat k1, hall, hv]; rfl
      · have hv' : isVal l[k.toNat] = false := by simpa using hv
        refine WT_t (by rw [hv']; rfl) ?_
        refine WT_leave ?_
        refine WT_ret rfl rfl rfl rfl ?_
        rw [← hR, all_false_take isVal l k.toNat k1 hv']; rfl
    · refine WT_f (by simp; omega) ?_
      refine WT_break ?_
      refine WT_ret rfl rfl rfl rfl ?_
      rw [List.take_of_length_le (by omega)] at hall
      rw [← hR, hall]; rfl

theorem tmod_fix (n m : Int) (hm : 0 < m) : (if n.tmod m < 0 then n.tmod m + m else n.tmod m) = n % m := by
  have h1 := Int.emod_nonneg n (show m ≠ 0 by omega)
  have h2 := Int.emod_lt_of_pos n hm
  rw [Int.tmod_eq_emod]
  have : (m.natAbs : Int) = m := by omega
  split <;> split <;> omega

theorem tmod_range (n m : Int) (hm : 0 < m) : -m < n.tmod m ∧ n.tmod m < m := by
  have h1 := Int.emod_nonneg n (show m ≠ 0 by omega)
  have h2 := Int.emod_lt_of_pos n hm
  rw [Int.tmod_eq_emod]
  have : (m.natAbs : Int) = m := by omega
  split <;> omega

theorem s32 (n : Int) : Ret Try.prog 32 [I n] (I (wrapS n)) := by
  have h := tmod_range n 4294967296 (by omega)
  have e := tmod_fix n 4294967296 (by omega)
  have e2 : wrapS n = n % 4294967296 := rfl
  by_cases hn : n.tmod 4294967296 < 0
  · rw [if_pos hn] at e
    refine Ret_by is32 rfl ?_
    refine WT_f rfl ?_
    refine WT_t (by simpa using hn) ?_
    refine WT_t (by simp [inR]; omega) ?_
    exact WT_ret rfl rfl rfl rfl (by rw [e2, ← e]; rfl)
  · rw [if_neg hn] at e
    refine Ret_by is32 rfl ?_
    refine WT_f rfl ?_
    refine WT_f (by simpa using hn) ?_
    exact WT_ret rfl rfl rfl rfl (by rw [e2, ← e]; rfl)

theorem s17 (n : Int) : Ret Try.prog 17 [I n] (I (keyS n)) := by
  have h := tmod_range n 65536 (by omega)
  have e := tmod_fix n 65536 (by omega)
  have e2 : keyS n = n % 65536 := rfl
  by_cases hn : n.tmod 65536 < 0
  · rw [if_pos hn] at e
    refine Ret_by is17 rfl ?_
    refine WT_f rfl ?_
    refine WT_t (by simpa using hn) ?_
    refine WT_t (by simp [inR]; omega) ?_
    exact WT_ret rfl rfl rfl rfl (by rw [e2, ← e]; rfl)
  · rw [if_neg hn] at e
    refine Ret_by is17 rfl ?_
    refine WT_f rfl ?_
    refine WT_f (by simpa using hn) ?_
    exact WT_ret rfl rfl rfl rfl (by rw [e2, ← e]; rfl)

theorem wrap_twice (v : Int) : wrapS (wrapS v + 1) = wrapS (v + 1) := by unfold wrapS; omega

theorem s19 (k o a b val : Int) (is : Bool) : Ret Try.prog 19 [opD k o a b, I val, .bool is] (I (valueS k val is)) := by
  have hr : 0 ≤ wrapS val ∧ wrapS val < 4294967296 := by unfold wrapS; omega
  cases is with
  | false =>
    refine Ret_by is19 rfl ?_
    refine WT_t rfl ?_
    exact WT_ret rfl rfl rfl rfl rfl
  | true =>
    have fin : (k = 1 ∨ k = 5 ∨ k = 7) → I (wrapS (wrapS val + 1)) = I (valueS k val true) := fun h => by rw [wrap_twice]; simp [valueS, h]
    by_cases h1 : k = 1
    · refine Ret_by is19 rfl ?_
      refine WT_f rfl ?_
      refine WT_f (by simp [h1]) ?_
      refine WT_t rfl ?_
      refine WT_f rfl ?_
      refine WT_t rfl ?_
      refine WT_t rfl ?_
      refine WT_call _ (s32 _) ?_
      refine WT_t (by simp [inR]; omega) ?_
      refine WT_call _ (s32 _) ?_
      exact WT_ret rfl rfl rfl rfl (fin (.inl h1))
    by_cases h2 : k = 5
    · refine Ret_by is19 rfl ?_
      refine WT_f rfl ?_
      refine WT_t (by simp [h1]) ?_
      refine WT_f rfl ?_
      refine WT_f (by simp [h2]) ?_
      refine WT_t rfl ?_
      refine WT_t rfl ?_
      refine WT_call _ (s32 _) ?_
      refine WT_t (by simp [inR]; omega) ?_
      refine WT_call _ (s32 _) ?_
      exact WT_ret rfl rfl rfl rfl (fin (.inr (.inl h2)))
    by_cases h3 : k = 7
    · refine Ret_by is19 rfl ?_
      refine WT_f rfl ?_
      refine WT_t (by simp [h1]) ?_
      refine WT_f rfl ?_
      refine WT_t (by simp [h2]) ?_
      refine WT_f rfl ?_
      refine WT_t (by simp [h3]) ?_
      refine WT_call _ (s32 _) ?_
      refine WT_t (by simp [inR]; omega) ?_
      refine WT_call _ (s32 _) ?_
      exact WT_ret rfl rfl rfl rfl (fin (.inr (.inr h3)))
    · refine Ret_by is19 rfl ?_
      refine WT_f rfl ?_
      refine WT_t (by simp [h1]) ?_
      refine WT_f rfl ?_
      refine WT_t (by simp [h2]) ?_
      refine WT_f rfl ?_
      refine WT_f (by simp [h3]) ?_
      exact WT_ret rfl rfl rfl rfl (by simp [packD, valueS, h1, h2, h3])

def smallB (b : Body) : Bool := decide (b.ins.length ≤ 500) && decide (b.locals ≤ 200)
def smallS (c : Code) (f : Frame) : Bool := decide (c.funs.length ≤ 20) && decide (c.cells.length ≤ 40) && decide (f.loc.length ≤ 100) && decide (f.stack.length ≤ 120) && decide (f.kids.length ≤ 60) && decide (f.path.length ≤ 60) && c.funs.all smallB

set_option maxRecDepth 100000 in
set_option maxHeartbeats 1000000 in
theorem s11 (c : Code) (f : Frame) : Ret Try.prog 11 [codeD c, frameD f] (.bool (smallS c f)) := by
  by_cases e0 : c.funs.length ≤ 20
  case neg =>
    have e : smallS c f = false := by simp [smallS, e0]
    rw [e]
    refine Ret_by is11 rfl ?_
    refine WT_f (by simp; omega) ?_
    refine WT_t rfl ?_
    refine WT_f rfl ?_
    refine WT_t rfl ?_
    refine WT_f rfl ?_
    refine WT_t rfl ?_
    refine WT_f rfl ?_
    refine WT_t rfl ?_
    refine WT_f rfl ?_
    refine WT_t rfl ?_
    refine WT_t rfl ?_
    exact WT_ret rfl rfl rfl rfl rfl
  by_cases e1 : c.cells.length ≤ 40
  case neg =>
    have e : smallS c f = false := by simp [smallS, e1]
    rw [e]
    refine Ret_by is11 rfl ?_
    refine WT_t (by simp; omega) ?_
    refine WT_f rfl ?_
    refine WT_f (by simp; omega) ?_
    refine WT_t rfl ?_
    refine WT_f rfl ?_
    refine WT_t rfl ?_
    refine WT_f rfl ?_
    refine WT_t rfl ?_
    refine WT_f rfl ?_
    refine WT_t rfl ?_
    refine WT_t rfl ?_
    exact WT_ret rfl rfl rfl rfl rfl
  by_cases e2 : f.loc.length ≤ 100
  case neg =>
    have e : smallS c f = false := by simp [smallS, e2]
    rw [e]
    refine Ret_by is11 rfl ?_
    refine WT_t (by simp; omega) ?_
    refine WT_f rfl ?_
    refine WT_t (by simp; omega) ?_
    refine WT_f rfl ?_
    refine WT_f (by simp; omega) ?_
    refine WT_t rfl ?_
    refine WT_f rfl ?_
    refine WT_t rfl ?_
    refine WT_f rfl ?_
    refine WT_t rfl ?_
    refine WT_t rfl ?_
    exact WT_ret rfl rfl rfl rfl rfl
  by_cases e3 : f.stack.length ≤ 120
  case neg =>
    have e : smallS c f = false := by simp [smallS, e3]
    rw [e]
    refine Ret_by is11 rfl ?_
    refine WT_t (by simp; omega) ?_
    refine WT_f rfl ?_
    refine WT_t (by simp; omega) ?_
    refine WT_f rfl ?_
    refine WT_t (by simp; omega) ?_
    refine WT_f rfl ?_
    refine WT_f (by simp; omega) ?_
    refine WT_t rfl ?_
    refine WT_f rfl ?_
    refine WT_t rfl ?_
    refine WT_t rfl ?_
    exact WT_ret rfl rfl rfl rfl rfl
  by_cases e4 : f.kids.length ≤ 60
  case neg =>
    have e : smallS c f = false := by simp [smallS, e4]
    rw [e]
    refine Ret_by is11 rfl ?_
    refine WT_t (by simp; omega) ?_
    refine WT_f rfl ?_
    refine WT_t (by simp; omega) ?_
    refine WT_f rfl ?_
    refine WT_t (by simp; omega) ?_
    refine WT_f rfl ?_
    refine WT_t (by simp; omega) ?_
    refine WT_f rfl ?_
    refine WT_f (by simp; omega) ?_
    refine WT_t rfl ?_
    refine WT_t rfl ?_
    exact WT_ret rfl rfl rfl rfl rfl
  by_cases e5 : f.path.length ≤ 60
  case neg =>
    have e : smallS c f = false := by simp [smallS, e5]
    rw [e]
    refine Ret_by is11 rfl ?_
    refine WT_t (by simp; omega) ?_
    refine WT_f rfl ?_
    refine WT_t (by simp; omega) ?_
    refine WT_f rfl ?_
    refine WT_t (by simp; omega) ?_
    refine WT_f rfl ?_
    refine WT_t (by simp; omega) ?_
    refine WT_f rfl ?_
    refine WT_t (by simp; omega) ?_
    refine WT_f rfl ?_
    refine WT_t (by simp; omega) ?_
    exact WT_ret rfl rfl rfl rfl rfl
  have eS : smallS c f = c.funs.all smallB := by simp [smallS, e0, e1, e2, e3, e4, e5]
  obtain ⟨R, hR⟩ : ∃ R, c.funs.all smallB = R := ⟨_, rfl⟩
  rw [eS, hR]
  refine Ret_by is11 rfl ?_
  refine WT_t (by simp; omega) ?_
  refine WT_f rfl ?_
  refine WT_t (by simp; omega) ?_
  refine WT_f rfl ?_
  refine WT_t (by simp; omega) ?_
  refine WT_f rfl ?_
  refine WT_t (by simp; omega) ?_
  refine WT_f rfl ?_
  refine WT_t (by simp; omega) ?_
  refine WT_f rfl ?_
  refine WT_f (by simp; omega) ?_
  refine WT_loop (fun k : Int => ⟨[(2, .ptr 0 0), (5, .d (I k))], [(0, .var (V.ofDat (codeD c)).cells)], 1, [], 0⟩)
    (fun k => 0 ≤ k ∧ k ≤ c.funs.length ∧ (c.funs.take k.toNat).all smallB = true) (fun k => (c.funs.length - k).toNat) 0 ?_ ⟨by omega, by omega, by simp⟩ ?_
  · exact Weak.eqs [] (by kernel_rfl) (by kernel_rfl) (by kernel_rfl) (by kernel_rfl) (by kernel_rfl) (by kernel_rfl) (by kernel_rfl) (by kernel_rfl) (by kernel_rfl) (by kernel_rfl)
  · rintro k ⟨h0, h1, hall⟩
    by_cases hk : k < c.funs.length
    · have k1 : k.toNat < c.funs.length := by omega
      have he : (c.funs.map bodyD)[k.toNat]? = some (bodyD c.funs[k.toNat]) := by rw [List.getElem?_map, List.getElem?_eq_getElem k1]; rfl
      refine WT_t (by simp; omega) ?_
      refine WT_t (by simp; omega) ?_
      refine WT_elem _ he ?_
      by_cases hi : c.funs[k.toNat].ins.length ≤ 500
      · refine WT_t (by simp; omega) ?_
        refine WT_t (by simp; omega) ?_
        refine WT_elem _ he ?_
        refine WT_f rfl ?_
        by_cases hl : c.funs[k.toNat].locals ≤ 200
        · refine WT_f (by simp; omega) ?_
          refine WT_t (by simp [inR]; omega) ?_
          refine WT_again (k + 1) ⟨by omega, by omega, ?_⟩ (by omega) (Weak.eqs [] (by kernel_rfl) (by kernel_rfl) (by kernel_rfl) (by kernel_rfl) (by kernel_rfl) (by kernel_rfl) (by kernel_rfl) (by kernel_rfl) (by kernel_rfl) (by kernel_rfl))
          rw [show (k + 1).toNat = k.toNat + 1 by omega, all_take smallB c.funs k.toNat k1, hall]; simp [smallB, hi, hl]
        · refine WT_t (by simp; omega) ?_
          refine WT_leave ?_
          refine WT_ret rfl rfl rfl rfl ?_
          rw [← hR, all_false_take smallB c.funs k.toNat k1 (by simp [smallB]; omega)]; rfl
      · refine WT_f (by simp; omega) ?_
        refine WT_t rfl ?_
        refine WT_t rfl ?_
        refine WT_leave ?_
        refine WT_ret rfl rfl rfl rfl ?_
        rw [← hR, all_false_take smallB c.funs k.toNat k1 (by simp [smallB]; omega)]; rfl
    · refine WT_f (by simp; omega) ?_
      refine WT_break ?_
      refine WT_ret rfl rfl rfl rfl ?_
      rw [List.take_of_length_le (by omega)] at hall
      rw [← hR, hall]; rfl

end Uw.Try

/- The document's Start (printed by printh2.py). -/
set_option linter.unusedVariables false
namespace Uw.Try
open Go Uw Go.Proofs

set_option maxRecDepth 100000 in
set_option maxHeartbeats 1000000 in
theorem s13 (c : Code) (fn : Int) (args : List Int) (task : Int) (path : List Int) (h1 : c.funs.length < 1000) (h2 : ∀ b ∈ c.funs, b.locals < 1000) (h3 : args.length < 1000) (h4 : path.length < 1000) :
    Ret Try.prog 13 [codeD c, I fn, ints args, I task, ints path] (frErr (startS c fn args task path)) := by
  have hz : DLe (.tuple [.agg [I 0, .nil, I 0, I 0, .nil, .nil, .nil, I 0, I 0, .bool false], I 1]) (frErr (zF, 1)) :=
    .tuple (.cons (.agg (.cons (.refl _) (.cons (.nil _) (.cons (.refl _) (.cons (.refl _) (.cons (.nil _) (.cons (.nil _) (.cons (.nil _) (.refl _))))))))) (.refl _))
  by_cases a0 : fn < 0
  case pos =>
    have e : startS c fn args task path = (zF, 1) := by 
      have : below fn c.funs.length = false := by simp [below]; omega
      simp [startS, startOk, this]
    rw [e]
    refine Ret.res ?_ hz
    refine Ret_by is13 rfl ?_
    refine WT_f (by simp; omega) ?_
    refine WT_t rfl ?_
    refine WT_f rfl ?_
    refine WT_t rfl ?_
    refine WT_t rfl ?_
    exact WT_ret rfl rfl rfl rfl rfl
  by_cases a1 : (c.funs.length : Int) ≤ fn
  case pos =>
    have e : startS c fn args task path = (zF, 1) := by 
      have : below fn c.funs.length = false := by simp [below]; omega
      simp [startS, startOk, this]
    rw [e]
    refine Ret.res ?_ hz
    refine Ret_by is13 rfl ?_
    refine WT_t (by simp; omega) ?_
    refine WT_f rfl ?_
    refine WT_f (by simp; omega) ?_
    refine WT_t rfl ?_
    refine WT_t rfl ?_
    exact WT_ret rfl rfl rfl rfl rfl
  by_cases a2 : task < 1
  case pos =>
    have e : startS c fn args task path = (zF, 1) := by simp [startS, startOk, a2]
    rw [e]
    refine Ret.res ?_ hz
    refine Ret_by is13 rfl ?_
    refine WT_t (by simp; omega) ?_
    refine WT_f rfl ?_
    refine WT_t (by simp; omega) ?_
    refine WT_f rfl ?_
    refine WT_t (by simp; omega) ?_
    exact WT_ret rfl rfl rfl rfl rfl
  have b1 : below fn c.funs.length = true := by simp [below]; omega
  have hlt : fn.toNat < c.funs.length := by omega
  obtain ⟨b, hB⟩ : ∃ b, funAt c fn = b := ⟨_, rfl⟩
  have hb : c.funs[fn.toNat] = b := by rw [← hB]; simp [funAt, hlt]
  have hbl : b.locals < 1000 := h2 b (by rw [← hb]; exact List.getElem_mem _)
  by_cases b4 : b.args = args.length
  case neg =>
    have e : startS c fn args task path = (zF, 1) := by simp [startS, startOk, hB, b4]
    rw [e]
    refine Ret.res ?_ hz
    refine Ret_by is13 rfl ?_
    refine WT_t (by simp; omega) ?_
    refine WT_f rfl ?_
    refine WT_t (by simp; omega) ?_
    refine WT_f rfl ?_
    refine WT_f (by simp; omega) ?_
    refine WT_t (by simp; omega) ?_
    refine WT_elem (bodyD b) (by simp [hlt, hb]) ?_
    refine WT_call _ (s28 _ (by omega)) ?_
    refine WT_f (by simp [b4]) ?_
    refine WT_t rfl ?_
    refine WT_f rfl ?_
    refine WT_t rfl ?_
    refine WT_t rfl ?_
    exact WT_ret rfl rfl rfl rfl rfl
  by_cases b5 : b.locals < b.args
  case pos =>
    have e : startS c fn args task path = (zF, 1) := by simp [startS, startOk, hB, b5]
    rw [e]
    refine Ret.res ?_ hz
    refine Ret_by is13 rfl ?_
    refine WT_t (by simp; omega) ?_
    refine WT_f rfl ?_
    refine WT_t (by simp; omega) ?_
    refine WT_f rfl ?_
    refine WT_f (by simp; omega) ?_
    refine WT_t (by simp; omega) ?_
    refine WT_elem (bodyD b) (by simp [hlt, hb]) ?_
    refine WT_call _ (s28 _ (by omega)) ?_
    refine WT_t (by simp [b4]) ?_
    refine WT_f rfl ?_
    refine WT_f (by simpa using b5) ?_
    refine WT_t rfl ?_
    refine WT_t rfl ?_
    exact WT_ret rfl rfl rfl rfl rfl
  by_cases b3 : args.all isVal = true
  case neg =>
    have e : startS c fn args task path = (zF, 1) := by rw [startS, if_neg]; intro h; rw [startOk] at h; simp only [Bool.and_eq_true] at h; exact b3 h.1.1.2
    rw [e]
    refine Ret.res ?_ hz
    refine Ret_by is13 rfl ?_
    refine WT_t (by simp; omega) ?_
    refine WT_f rfl ?_
    refine WT_t (by simp; omega) ?_
    refine WT_f rfl ?_
    refine WT_f (by simp; omega) ?_
    refine WT_t (by simp; omega) ?_
    refine WT_elem (bodyD b) (by simp [hlt, hb]) ?_
    refine WT_call _ (s28 _ (by omega)) ?_
    refine WT_t (by simp [b4]) ?_
    refine WT_f rfl ?_
    refine WT_t (by simp; omega) ?_
    refine WT_f rfl ?_
    refine WT_t (by simp at b3; simp [b3]) ?_
    exact WT_ret rfl rfl rfl rfl rfl
  have e : startS c fn args task path = (startF c fn args task path, 0) := by
    have h : startOk c fn args task = true := by
      have e2 : decide (task < 1) = false := by simp; omega
      have e4 : decide (b.args = (args.length : Int)) = true := by simp [b4]
      have e5 : decide (b.locals < b.args) = false := by simp; omega
      rw [startOk, hB, b1, b3, e2, e4, e5]; rfl
    rw [startS, if_pos h]
  rw [e]
  have hlen : (startF c fn args task path).loc.length = b.locals.toNat := by
    simp [startF, hB]; omega
  have hz2 : DLe (.tuple [.agg [I task, .slice 1 (((rows path).drop 0).take path.length) false, I fn, I 0, .slice 1 (((rows (startF c fn args task path).loc).drop 0).take b.locals.toNat) false, .nil, .nil, I 0, I 0, .bool false], I 0]) (frErr (startF c fn args task path, 0)) := by
    rw [frErr, ← ownD (startF c fn args task path) path.length b.locals.toNat rfl hlen.symm]
    exact .tuple (.cons (.agg (.cons (.refl _) (.cons (.refl _) (.cons (.refl _) (.cons (.refl _) (.cons (.refl _) (.cons (.nil _) (.cons (.nil _) (.refl _))))))))) (.refl _))
  refine Ret.res ?_ hz2
  refine Ret_by is13 rfl ?_
  refine WT_t (by simp; omega) ?_
  refine WT_f rfl ?_
  refine WT_t (by simp; omega) ?_
  refine WT_f rfl ?_
  refine WT_f (by simp; omega) ?_
  refine WT_t (by simp; omega) ?_
  refine WT_elem (bodyD b) (by simp [hlt, hb]) ?_
  refine WT_call _ (s28 _ (by omega)) ?_
  refine WT_t (by simp [b4]) ?_
  refine WT_f rfl ?_
  refine WT_t (by simp; omega) ?_
  refine WT_f rfl ?_
  refine WT_f (by rw [b3]; rfl) ?_
  refine WT_t rfl ?_
  refine WT_t (by simp; omega) ?_
  refine WT_loop (fun x : List (List Dat) × Nat × Nat => ⟨[(1, .d (I fn)), (3, .d (I task)), (4, .d (ints path)), (10, .ptr 1 0), (12, .ptr 2 0), (14, .ref 3 x.2.2 0 x.2.1)], [(1, .var zFrame), (2, .var (bV b)), (3, .mt 1 x.2.2 x.1)], 4, [], 0⟩)
    (fun x => args.length ≤ x.2.1 ∧ x.2.1 ≤ b.locals.toNat ∧ x.1 = rows (args ++ List.replicate (x.2.1 - args.length) 0) ∧ x.1.length = x.2.1) (fun x => b.locals.toNat - x.2.1) (rows args, (rows args).length, 0) ?_ ⟨by simp [rows], by simp [rows]; omega, by simp [rows], rfl⟩ ?_
  · exact Weak.eqs [] (by kernel_rfl) (by kernel_rfl) (by kernel_rfl) (by kernel_rfl) (by kernel_rfl) (by kernel_rfl) (by kernel_rfl) (by kernel_rfl) (by kernel_rfl) (by kernel_rfl)
  · rintro ⟨xs, n, ver⟩ ⟨g0, g1, g2, g3⟩
    simp only at g0 g1 g2 g3
    refine WT_v ?_
    by_cases hn : (n : Int) < b.locals
    · refine WT_t (by simpa using hn) ?_
      refine WT_v ?_
      refine WT_t (by simp; omega) ?_
      refine WT_again (xs.take n ++ [[I 0]], n + 1, ver + 1) ⟨by simp only []; omega, by simp only []; omega, ?_, by simp; omega⟩ (by simp only []; omega) (Weak.eqs [] (by kernel_rfl) (by kernel_rfl) (by kernel_rfl) (by kernel_rfl) (by kernel_rfl) (by kernel_rfl) (by kernel_rfl) (by kernel_rfl) (by kernel_rfl) (by kernel_rfl))
      simp only []
      rw [List.take_of_length_le (by omega), g2, show n + 1 - args.length = (n - args.length) + 1 by omega, List.replicate_succ']
      simp [rows]
    · refine WT_f (by simpa using hn) ?_
      refine WT_break ?_
      have hnn : n = b.locals.toNat := by omega
      refine WT_t rfl ?_
      refine WT_t (by simp; omega) ?_
      refine WT_ret rfl rfl rfl ?_ ?_
      · simp [curL, V.cur, V.cur.go, look, put, rowBlk, newBlk]
      · have hloc : xs = rows (startF c fn args task path).loc := by rw [g2, hnn]; simp [startF, hB]
        rw [hloc, hnn]
        show Dat.tuple [.agg [_, .slice 1 (((rows path).drop 0).take (rows path).length) false, _, _, _, _, _, _, _, _], _] = _
        rw [show (rows path).length = path.length by simp [rows]]

end Uw.Try

/- STARTS (printed by printi.py). -/
set_option linter.unusedVariables false
namespace Uw.Try
open Go Uw Go.Proofs

def startsD (c : Code) (fn : Int) (args : List Int) (z0 z1 : Int) (path : List Int) : Dat :=
  .agg [.slice 3 (c.funs.map bodyD) false, ints c.cells, I c.maps, I c.stacks, I c.chans, I c.main, I fn, ints args, I z0, I z1, ints path]

theorem path_at (path : List Int) (z : Int) {k : Nat} (h : k < path.length) : ((path ++ [z]).map fun n => [I n])[k]? = some [I path[k]] := by
  rw [List.getElem?_map, List.getElem?_append_left h, List.getElem?_eq_getElem h]; rfl
theorem path_end (path : List Int) (z : Int) : ((path ++ [z]).map fun n => [I n])[path.length]? = some [I z] := by
  rw [List.getElem?_map, List.getElem?_append_right (by omega)]; simp

set_option maxRecDepth 100000 in
set_option maxHeartbeats 1000000 in
theorem l3 (c : Code) (fn : Int) (args : List Int) (z0 z1 : Int) (path : List Int) : Ret Try.prog 3 [startsD c fn args z0 z1 path] (.bool true) := by
  have hz : DLeL [codeD c, .agg [I 0, .nil, I 0, I 0, .nil, .nil, .nil, I 0, I 0, .bool false]] [codeD c, frameD zF] :=
    .cons (.refl _) (.cons (.agg (.cons (.refl _) (.cons (.nil _) (.cons (.refl _) (.cons (.refl _) (.cons (.nil _) (.cons (.nil _) (.cons (.nil _) (.refl _))))))))) (.refl _))
  have h11 := s11 c zF
  by_cases hs : smallS c zF = true
  case neg =>
    refine Ret_by is3 rfl ?_
    refine WT_call _ s10 ?_
    refine WT_callL _ h11 hz ?_
    refine WT_f (by simp at hs; simp [hs]) ?_
    refine WT_t rfl ?_
    refine WT_f rfl ?_
    refine WT_t rfl ?_
    refine WT_t rfl ?_
    exact WT_ret rfl rfl rfl rfl rfl
  by_cases h1 : args.length ≤ 30
  case neg =>
    refine Ret_by is3 rfl ?_
    refine WT_call _ s10 ?_
    refine WT_callL _ h11 hz ?_
    refine WT_t (by rw [hs]; rfl) ?_
    refine WT_f rfl ?_
    refine WT_f (by simp; omega) ?_
    refine WT_t rfl ?_
    refine WT_t rfl ?_
    exact WT_ret rfl rfl rfl rfl rfl
  by_cases h2 : path.length ≤ 30
  case neg =>
    refine Ret_by is3 rfl ?_
    refine WT_call _ s10 ?_
    refine WT_callL _ h11 hz ?_
    refine WT_t (by rw [hs]; rfl) ?_
    refine WT_f rfl ?_
    refine WT_t (by simp; omega) ?_
    refine WT_f rfl ?_
    refine WT_t (by simp; omega) ?_
    exact WT_ret rfl rfl rfl rfl rfl
  have hs' := hs
  simp only [smallS, Bool.and_eq_true] at hs'
  have hf : c.funs.length < 1000 := by have := of_decide_eq_true hs'.1.1.1.1.1.1; omega
  have hl : ∀ b ∈ c.funs, b.locals < 1000 := fun b hb => by
    have := List.all_eq_true.1 hs'.2 b hb
    simp [smallB] at this; omega
  obtain ⟨p, hp⟩ : ∃ p, startS c fn args z0 path = p := ⟨_, rfl⟩
  have hpl : p.1.path.length < 1000 ∧ p.1.loc.length < 1000 ∧ p.1.stack.length < 1000 ∧ p.1.kids.length < 1000 := by
    rw [← hp, startS]
    split
    · rename_i ho
      have hb : (funAt c fn).locals < 1000 := by
        unfold funAt
        rw [List.getD_eq_getElem?_getD]
        cases hg : c.funs[fn.toNat]? with
        | none => simp
        | some b => exact hl b (List.mem_of_getElem? hg)
      simp [startF]; omega
    · simp [zF]
  have h12 := s12 c fn args z0 path hf hl (by omega) (by omega)
  have h13 := s13 c fn args z0 path hf hl (by omega) (by omega)
  rw [hp] at h12 h13
  obtain ⟨fr, er⟩ := p
  have h14 : Ret Try.prog 14 [.agg [I 0, ints path, I 0, I 0, .nil, .nil, .nil, I z1, I 0, .bool false]] (ints (path ++ [z1])) :=
    (s14 ⟨0, path, 0, 0, [], [], [], z1, 0, false⟩ (by simp only []; omega)).args (.cons (.agg (.cons (.refl _) (.cons (.refl _) (.cons (.refl _) (.cons (.refl _) (.cons (.nil _) (.cons (.nil _) (.cons (.nil _) (.refl _))))))))) (.refl _))
  have h15 := s15 fr fr hpl.1 hpl.2.1 hpl.2.2.1 hpl.2.2.2
  rw [sameS_self] at h15
  refine Ret_by is3 rfl ?_
  refine WT_call _ s10 ?_
  refine WT_callL _ h11 hz ?_
  refine WT_t (by rw [hs]; rfl) ?_
  refine WT_f rfl ?_
  refine WT_t (by simp; omega) ?_
  refine WT_f rfl ?_
  refine WT_f (by simp; omega) ?_
  refine WT_t rfl ?_
  refine WT_call _ h12 ?_
  refine WT_t rfl ?_
  refine WT_call _ h13 ?_
  refine WT_t rfl ?_
  refine WT_t rfl ?_
  refine WT_call _ h14 ?_
  refine WT_t (by simp [inR]; omega) ?_
  refine WT_t (by simp) ?_
  refine WT_t (by simp; omega) ?_
  refine WT_elem [I z1] (by simpa using path_end path z1) ?_
  refine WT_t rfl ?_
  refine WT_f rfl ?_
  refine WT_f (by simp) ?_
  refine WT_loop (fun k : Int => ⟨[(6, .ptr 2 0), (7, .d (ints path)), (8, .d (.bool true)), (9, .ptr 3 0), (10, .d (I er)), (11, .ptr 4 0), (12, .d (I er)), (13, .ptr 5 0), (15, .d (ints (path ++ [z1]))), (16, .d (I k))], [(2, .var [.d (I z0), .d (I z1)]), (3, .var (V.ofDat (frameD fr)).cells), (4, .var (V.ofDat (frameD fr)).cells), (5, .var [.d (I z1), .d (I 0), .d (I 0), .d (I 0)])], 7, [], 0⟩)
    (fun k => 0 ≤ k ∧ k ≤ path.length) (fun k => (path.length - k).toNat) 0 ?_ ⟨by omega, by omega⟩ ?_
  · exact Weak.eqs [] (by kernel_rfl) (by kernel_rfl) (by kernel_rfl) (by kernel_rfl) (by kernel_rfl) (by kernel_rfl) (by kernel_rfl) (by kernel_rfl) (by kernel_rfl) (by kernel_rfl)
  · rintro k ⟨g0, g1⟩
    by_cases hk : k < path.length
    · have k1 : k.toNat < path.length := by omega
      refine WT_t (by simp; omega) ?_
      refine WT_t (by simp; omega) ?_
      refine WT_elem [I path[k.toNat]] (path_at path z1 k1) ?_
      refine WT_t (by simp; omega) ?_
      refine WT_elem [I path[k.toNat]] (by simp) ?_
      refine WT_f (by simp) ?_
      refine WT_t (by simp [inR]; omega) ?_
      exact WT_again (k + 1) ⟨by omega, by omega⟩ (by omega) (Weak.eqs [] (by kernel_rfl) (by kernel_rfl) (by kernel_rfl) (by kernel_rfl) (by kernel_rfl) (by kernel_rfl) (by kernel_rfl) (by kernel_rfl) (by kernel_rfl) (by kernel_rfl))
    · refine WT_f (by simp; omega) ?_
      refine WT_break ?_
      refine WT_t rfl ?_
      refine WT_call _ h15 ?_
      refine WT_t rfl ?_
      refine WT_t rfl ?_
      refine WT_t rfl ?_
      refine WT_t (by simp) ?_
      refine WT_t rfl ?_
      refine WT_call _ (s16 z0) ?_
      refine WT_t rfl ?_
      refine WT_call _ (s17 z0) ?_
      refine WT_t rfl ?_
      refine WT_t (by simp) ?_
      refine WT_t rfl ?_
      refine WT_call _ (s18 z1 0 0 0 z0 true) ?_
      refine WT_t rfl ?_
      refine WT_call _ (s19 z1 0 0 0 z0 true) ?_
      refine WT_t rfl ?_
      refine WT_t (by simp) ?_
      refine WT_t rfl ?_
      refine WT_call _ (s18 z1 0 0 0 z0 false) ?_
      refine WT_t rfl ?_
      refine WT_call _ (s19 z1 0 0 0 z0 false) ?_
      refine WT_t rfl ?_
      refine WT_ret rfl rfl rfl rfl ?_
      simp [packD]

end Uw.Try

/- Codes and frames out of readings. -/
set_option linter.unusedVariables false
namespace Uw.Try
open Go Uw Go.Proofs

abbrev tI : Ty := .int .i64
abbrev tIs : Ty := .slice 1 tI
abbrev tIns : Ty := .struct [tI, tI, tI, tI]
abbrev tBody : Ty := .struct [tI, tI, .slice 4 tIns]
abbrev tCode : Ty := .struct [.slice 3 tBody, tIs, tI, tI, tI, tI]
abbrev tKid : Ty := .struct [tI, tI]
abbrev tFrame : Ty := .struct [tI, tIs, tI, tI, tIs, tIs, .slice 2 tKid, tI, tI, .bool]

theorem ints_of {ds : List Dat} (h : HasTy tIs ds) : ∃ l : List Int, ds = [ints l] := by
  obtain ⟨xs, rfl, _, hx⟩ := h
  obtain ⟨l, rfl, _⟩ := list_of (f := fun n : Int => [I n]) (Q := fun _ => True) (fun x hx' => by
    obtain ⟨n, rfl, _⟩ := hx x hx'
    exact ⟨n, rfl, trivial⟩)
  exact ⟨l, rfl⟩

theorem ins_of {ds : List Dat} (h : HasTy tIns ds) : ∃ i : Ins, ds = insD i := by
  obtain ⟨_, _, rfl, ⟨a, rfl, _⟩, _, _, rfl, ⟨b, rfl, _⟩, _, _, rfl, ⟨c, rfl, _⟩, _, _, rfl, ⟨d, rfl, _⟩, rfl⟩ := h
  exact ⟨⟨a, b, c, d⟩, rfl⟩

theorem body_of {ds : List Dat} (h : HasTy tBody ds) : ∃ b : Body, ds = bodyD b := by
  obtain ⟨_, _, rfl, ⟨a, rfl, _⟩, _, _, rfl, ⟨b, rfl, _⟩, _, _, rfl, ⟨xs, rfl, _, hx⟩, rfl⟩ := h
  obtain ⟨l, rfl, _⟩ := list_of (f := insD) (Q := fun _ => True) (fun x hx' => by
    obtain ⟨i, rfl⟩ := ins_of (hx x hx')
    exact ⟨i, rfl, trivial⟩)
  exact ⟨⟨a, b, l⟩, rfl⟩

theorem code_of {ds : List Dat} (h : HasTy tCode ds) : ∃ c : Code, ds = [.slice 3 (c.funs.map bodyD) false, ints c.cells, I c.maps, I c.stacks, I c.chans, I c.main] := by
  obtain ⟨_, _, rfl, ⟨xs, rfl, _, hx⟩, _, _, rfl, h2, _, _, rfl, ⟨a, rfl, _⟩, _, _, rfl, ⟨b, rfl, _⟩, _, _, rfl, ⟨c, rfl, _⟩, _, _, rfl, ⟨d, rfl, _⟩, rfl⟩ := h
  obtain ⟨l, rfl, _⟩ := list_of (f := bodyD) (Q := fun _ => True) (fun x hx' => by
    obtain ⟨i, rfl⟩ := body_of (hx x hx')
    exact ⟨i, rfl, trivial⟩)
  obtain ⟨m, rfl⟩ := ints_of h2
  exact ⟨⟨l, m, a, b, c, d⟩, rfl⟩

theorem kid_of {ds : List Dat} (h : HasTy tKid ds) : ∃ k : Int × Int, ds = kidD k := by
  obtain ⟨_, _, rfl, ⟨a, rfl, _⟩, _, _, rfl, ⟨b, rfl, _⟩, rfl⟩ := h
  exact ⟨(a, b), rfl⟩

theorem frame_of {ds : List Dat} (h : HasTy tFrame ds) : ∃ f : Frame, ds = [I f.task, ints f.path, I f.fn, I f.pc, ints f.loc, ints f.stack, .slice 2 (f.kids.map kidD) false, I f.many, I f.spent, .bool f.fail] ∧ f.many < 9223372036854775808 := by
  obtain ⟨_, _, rfl, ⟨a, rfl, _⟩, _, _, rfl, h2, _, _, rfl, ⟨b, rfl, _⟩, _, _, rfl, ⟨c, rfl, _⟩, _, _, rfl, h5, _, _, rfl, h6, _, _, rfl, ⟨xs, rfl, _, hx⟩, _, _, rfl, ⟨d, rfl, hd⟩, _, _, rfl, ⟨e, rfl, _⟩, _, _, rfl, ⟨g, rfl⟩, rfl⟩ := h
  obtain ⟨l, rfl, _⟩ := list_of (f := kidD) (Q := fun _ => True) (fun x hx' => by
    obtain ⟨i, rfl⟩ := kid_of (hx x hx')
    exact ⟨i, rfl, trivial⟩)
  obtain ⟨p, rfl⟩ := ints_of h2
  obtain ⟨q, rfl⟩ := ints_of h5
  obtain ⟨s, rfl⟩ := ints_of h6
  exact ⟨⟨a, p, b, c, q, s, l, d, e, g⟩, rfl, (wf_i64 hd).2⟩

theorem starts_of {ds : List Dat} (h : HasTy (.struct [tCode, tI, tIs, .struct [tI, tI], tIs]) ds) : ∃ c fn args z0 z1 path, Dat.agg ds = startsD c fn args z0 z1 path := by
  obtain ⟨_, _, rfl, h1, _, _, rfl, ⟨a, rfl, _⟩, _, _, rfl, h3, _, _, rfl, h4, _, _, rfl, h5, rfl⟩ := h
  obtain ⟨_, _, rfl, ⟨z0, rfl, _⟩, _, _, rfl, ⟨z1, rfl, _⟩, rfl⟩ := h4
  obtain ⟨c, rfl⟩ := code_of h1
  obtain ⟨l, rfl⟩ := ints_of h3
  obtain ⟨p, rfl⟩ := ints_of h5
  exact ⟨c, a, l, z0, z1, p, rfl⟩

end Uw.Try
