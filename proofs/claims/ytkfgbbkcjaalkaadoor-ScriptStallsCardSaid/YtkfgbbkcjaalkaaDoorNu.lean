/- Nu: St Su (merged by merge2.py from the working texts). -/
import Derived.Test.YtkfgbbkcjaalkaaDoorN6
import Derived.Test.YtkfgbbkcjaalkaaDoorNb
set_option linter.unusedSimpArgs false
set_option linter.unnecessarySimpa false
set_option linter.unusedVariables false
set_option linter.unusedSectionVars false

/- Plain: what it comes to (no program in sight). -/
set_option linter.unusedVariables false
set_option linter.unusedSimpArgs false
namespace Uw.Tryd
open Go Uw

/-! ### the document's Plain -/
def stl (all : List Pick) : Nat → List (Int × Int)
  | 0 => []
  | k + 1 => if (all.getD k default).kind = 2 then ((all.getD k default).a, (k : Int) + (all.getD k default).b) :: stl all k else stl all k

theorem stalled_stl (all : List Pick) (a : Int) (n : Nat) : ∀ k, stalled (stl all k) a n = stallsK all n a k
  | 0 => rfl
  | k + 1 => by
    rw [stallsK_succ, stl, ← stalled_stl all a n k]
    by_cases h : (all.getD k default).kind = 2
    · rw [if_pos h, stalled, stalled, List.any_cons, Bool.or_comm]
      simp only [h, decide_true, Bool.true_and]
      congr 2
      exact decide_eq_decide.2 (by omega)
    · rw [if_neg h, decide_eq_false h]; simp

structure RefInv (seats : Int) (all : List Pick) (k : Nat) (s : PS) : Prop where
  out : s.out = refPlainK seats all k
  dead : ∀ a, a ∈ s.dead ↔ deadIn s.out a = true
  many : s.dead.length = deaths s.out
  at_ : s.at_ = k
  held : HeldOk s.held (stl all k)

theorem deadIn_snoc (l : List Pick) (p : Pick) (a : Int) : deadIn (l ++ [p]) a = (deadIn l a || (decide (p.kind = 3) && decide (p.a = a))) := by
  simp [deadIn, List.any_append]
theorem deaths_snoc (l : List Pick) (p : Pick) : deaths (l ++ [p]) = deaths l + (if p.kind = 3 then 1 else 0) := by
  rw [deaths, deaths, List.filter_append, List.length_append]
  by_cases h : p.kind = 3 <;> simp [h]

theorem refInv (seats : Int) (all : List Pick) (hr : ∀ p ∈ all, right seats p = true) : ∀ k, k ≤ all.length → RefInv seats all k (plainF seats (all.take k))
  | 0, _ => ⟨rfl, by simp [plainF, ps0, deadIn], rfl, rfl, ⟨by intro a x; simp [plainF, ps0, getP, stl]⟩⟩
  | k + 1, h => by
    have hk : k < all.length := by omega
    obtain ⟨i1, i2, i3, i4, i5⟩ := refInv seats all hr k (by omega)
    rw [plainF_take seats all k hk]
    have hg : all.getD k default = all[k] := getD_of all k hk
    have hrk := hr all[k] (List.getElem_mem _)
    have hst := i5.stalled all[k].a k
    rw [stalled_stl] at hst
    generalize plainF seats (all.take k) = s at *
    have hout : refPlainK seats all (k + 1) = refStep seats all k s.out := by rw [refPlainK, i1]
    rw [refStep, hg] at hout
    have hd2 : decide (all[k].a ∈ s.dead) = deadIn s.out all[k].a := by
      rw [Bool.eq_iff_iff]; simpa using i2 all[k].a
    rw [plainStep, if_pos hrk]
    by_cases h1 : all[k].kind = 1
    · rw [if_pos h1]
      have n2 : ¬ all[k].kind = 2 := by omega
      have n3 : ¬ all[k].kind = 3 := by omega
      have hs : stl all (k + 1) = stl all k := by rw [stl, hg, if_neg n2]
      simp only [h1, decide_true, Bool.true_and, show decide ((1 : Int) = 2) = false from rfl, show decide ((1 : Int) = 3) = false from rfl, Bool.false_and, Bool.or_false] at hout
      rw [i4, hst, hd2]
      by_cases hc : (deadIn s.out all[k].a || stallsK all k all[k].a k) = true
      · rw [if_pos hc]
        refine ⟨?_, i2, i3, rfl, by rw [hs]; exact i5⟩
        rw [hout]
        rw [Bool.or_eq_true] at hc
        rcases hc with hc | hc
        · rw [if_pos hc]
        · by_cases hd : deadIn s.out all[k].a = true
          · rw [if_pos hd]
          · rw [if_neg hd, if_neg (by simp [hc])]
      · rw [if_neg hc]
        rw [Bool.or_eq_true, not_or] at hc
        refine ⟨?_, ?_, ?_, rfl, by rw [hs]; exact i5⟩
        · rw [hout, if_neg hc.1, if_pos (by simpa using hc.2)]
        · intro a
          rw [deadIn_snoc, i2 a]; simp [n3]
        · show s.dead.length = _
          rw [deaths_snoc, if_neg n3, i3]; rfl
    · rw [if_neg h1]
      by_cases h2 : all[k].kind = 2
      · rw [if_pos h2]
        have hs : stl all (k + 1) = (all[k].a, (k : Int) + all[k].b) :: stl all k := by rw [stl, hg, if_pos h2]
        refine ⟨?_, i2, i3, by simp [i4], ?_⟩
        · refine Eq.trans ?_ (hout.trans (if_pos (by simp [h2]))).symm
          rfl
        · rw [hs, i4]
          exact i5.set all[k].a _
      · rw [if_neg h2]
        have h3 : all[k].kind = 3 := by
          have := hrk
          simp [right] at this; omega
        have hs : stl all (k + 1) = stl all k := by rw [stl, hg, if_neg h2]
        simp only [h3, decide_true, Bool.true_and, show decide ((3 : Int) = 2) = false from rfl, show decide ((3 : Int) = 1) = false from rfl, Bool.false_and, Bool.or_false, Bool.false_or] at hout
        rw [hd2, i3]
        by_cases hc : (deadIn s.out all[k].a || decide (seats - (deaths s.out : Int) ≤ 1)) = true
        · rw [if_pos hc]
          refine ⟨?_, i2, i3, by simp [i4], by rw [hs]; exact i5⟩
          rw [hout]
          rw [Bool.or_eq_true] at hc
          by_cases hd : deadIn s.out all[k].a = true
          · rw [if_pos hd]
          · rw [if_neg hd, if_neg]
            have := hc.resolve_left hd
            simp at this ⊢; omega
        · rw [if_neg hc]
          rw [Bool.or_eq_true, not_or] at hc
          refine ⟨?_, ?_, ?_, by simp [i4], by rw [hs]; exact i5⟩
          · rw [hout, if_neg hc.1, if_pos]
            have := hc.2
            simp at this ⊢; omega
          · intro a
            rw [deadIn_snoc, List.mem_append, i2 a]; simp [h3]
            exact ⟨fun h => h.imp_right Eq.symm, fun h => h.imp_right Eq.symm⟩
          · show (s.dead ++ [all[k].a]).length = _
            rw [deaths_snoc, if_pos h3, List.length_append, i3]; rfl

theorem plainF_filter (seats : Int) : ∀ (l : List Pick) (s : PS), l.foldl (plainStep seats) s = (l.filter (right seats)).foldl (plainStep seats) s
  | [], s => rfl
  | p :: r, s => by
    rw [List.foldl_cons, List.filter_cons]
    by_cases h : right seats p = true
    · rw [if_pos h, List.foldl_cons, plainF_filter seats r]
    · rw [if_neg h, plainStep, if_neg h, plainF_filter seats r]

theorem plain_ref (seats : Int) (l : List Pick) : plain seats l = refPlain seats l := by
  rw [plain, plainF, plainF_filter, refPlain]
  have := (refInv seats (l.filter (right seats)) (fun p hp => (List.mem_filter.1 hp).2) _ (Nat.le_refl _)).out
  rw [List.take_length] at this
  exact this

/-! ### what Plain keeps -/
theorem plainR_begins (seats : Int) : ∀ (a b : List Pick) (n : Nat) (h : List (Int × Int)) (d : List Int), ∃ x, plainR seats n h d (a ++ b) = plainR seats n h d a ++ x
  | [], b, n, h, d => ⟨plainR seats n h d b, by simp [plainR]⟩
  | p :: a, b, n, h, d => by
    rw [List.cons_append, plainR, plainR]
    repeat' split
    all_goals first
      | exact plainR_begins seats a b _ _ _
      | (obtain ⟨x, hx⟩ := plainR_begins seats a b (n + 1) h d; exact ⟨x, by rw [hx]; rfl⟩)
      | (obtain ⟨x, hx⟩ := plainR_begins seats a b (n + 1) h (p.a :: d); exact ⟨x, by rw [hx]; rfl⟩)

theorem plain_begins (seats : Int) (l : List Pick) (k : Nat) : (plain seats (l.take k)).length ≤ (plain seats l).length ∧ (plain seats l).take (plain seats (l.take k)).length = plain seats (l.take k) := by
  obtain ⟨x, hx⟩ := plainR_begins seats (l.take k) (l.drop k) 0 [] []
  rw [List.take_append_drop] at hx
  rw [plain_eq, plain_eq, hx]
  refine ⟨by simp, by simp⟩

/-- Plain picks: right, no stall, of nobody who is dead. -/
def okP (seats : Int) : List Int → List Pick → Prop
  | _, [] => True
  | d, p :: r => right seats p = true ∧ p.kind ≠ 2 ∧ p.a ∉ d ∧ (p.kind = 3 → (d.length : Int) + 1 < seats) ∧ okP seats (if p.kind = 3 then p.a :: d else d) r

theorem plainR_ok (seats : Int) : ∀ (l : List Pick) (n : Nat) (h : List (Int × Int)) (d : List Int), okP seats d (plainR seats n h d l)
  | [], n, h, d => trivial
  | p :: r, n, h, d => by
    rw [plainR]
    by_cases h1 : right seats p = true
    · rw [if_pos h1]
      by_cases h2 : p.kind = 1
      · rw [if_pos h2]
        by_cases h3 : (decide (p.a ∈ d) || stalled h p.a n) = true
        · rw [if_pos h3]; exact plainR_ok seats r _ _ _
        · rw [if_neg h3]
          simp at h3
          refine ⟨h1, by omega, h3.1, by omega, ?_⟩
          rw [if_neg (by omega)]
          exact plainR_ok seats r _ _ _
      · rw [if_neg h2]
        by_cases h4 : p.kind = 2
        · rw [if_pos h4]; exact plainR_ok seats r _ _ _
        · rw [if_neg h4]
          have h5 : p.kind = 3 := by
            have := h1
            simp [right] at this; omega
          by_cases h3 : (decide (p.a ∈ d) || decide (seats - (d.length : Int) ≤ 1)) = true
          · rw [if_pos h3]; exact plainR_ok seats r _ _ _
          · rw [if_neg h3]
            simp at h3
            refine ⟨h1, by omega, h3.1, by omega, ?_⟩
            rw [if_pos h5]
            exact plainR_ok seats r _ _ _
    · rw [if_neg h1]; exact plainR_ok seats r _ _ _

/-- Picks that are plain come to themselves. -/
theorem plainR_same (seats : Int) : ∀ (l : List Pick) (n : Nat) (d : List Int), okP seats d l → plainR seats n [] d l = l
  | [], n, d, _ => rfl
  | p :: r, n, d, ⟨h1, h2, h3, h4, h5⟩ => by
    rw [plainR, if_pos h1]
    by_cases hk : p.kind = 1
    · rw [if_pos hk, if_neg (by simp [h3, stalled])]
      rw [if_neg (by omega)] at h5
      rw [plainR_same seats r _ d h5]
    · rw [if_neg hk, if_neg h2]
      have hk3 : p.kind = 3 := by
        have := h1
        simp [right] at this; omega
      have := h4 hk3
      rw [if_neg (by simp [h3]; omega)]
      rw [if_pos hk3] at h5
      rw [plainR_same seats r _ _ h5]

theorem plain_twice (seats : Int) (l : List Pick) : plain seats (plain seats l) = plain seats l := by
  rw [plain_eq seats (plain seats l)]
  exact plainR_same seats _ 0 [] (by rw [plain_eq]; exact plainR_ok seats l 0 [] [])

def stepOk (seats : Int) (x : Pick) : Bool := decide (x.kind = 1) && (decide (x.b = 0) && (decide (0 ≤ x.a) && decide (x.a < seats)))

theorem okP_steps (seats : Int) : ∀ (l : List Pick), (∀ x ∈ l, stepOk seats x = true) → okP seats [] l
  | [], _ => trivial
  | p :: r, h => by
    have hp := h p (by simp)
    simp [stepOk] at hp
    refine ⟨by simp [right]; omega, by omega, by simp, by omega, ?_⟩
    rw [if_neg (by omega)]
    exact okP_steps seats r (fun x hx => h x (by simp [hx]))

theorem plain_steps (seats : Int) (l : List Pick) : plain seats (l.filter (stepOk seats)) = l.filter (stepOk seats) := by
  rw [plain_eq]
  exact plainR_same seats _ 0 [] (okP_steps seats _ (fun x hx => (List.mem_filter.1 hx).2))
end Uw.Tryd

/- PLAIN, TWICE, BEGINS. -/
set_option linter.unusedVariables false
set_option linter.unusedSimpArgs false
namespace Uw.Tryd
open Go Uw Go.Proofs Go.RowKit

theorem wf_u16 {n : Int} (h : (Lit.int .u16 n).wf = true) : 0 ≤ n ∧ n < 65536 := by
  simp [Lit.wf, IntKind.min, IntKind.max, IntKind.signed, IntKind.bits] at h; omega

theorem plain_len (seats : Int) (l : List Pick) : (plain seats l).length ≤ l.length := by
  have := (plainF_ok seats l l.length (Nat.le_refl _)).out
  rw [List.take_length] at this
  exact this

theorem l_ScriptPlain (seats : Int) (hs : -9223372036854775808 ≤ seats ∧ seats < 9223372036854775808) (l : List Pick) (on : List Bool) (last : Int) (hla : -9223372036854775808 ≤ last ∧ last < 9223372036854775808) : Ret P0 n_law29_ScriptPlain [I seats, picksD l, boolsD on, I last] (.bool true) := by
  by_cases hc : 400 < l.length ∨ 100 < on.length
  · refine Ret_by is_law29_ScriptPlain rfl ?_
    refine WT_test (fun h => ?_) (fun h => ?_)
    · (repeat first | refine WT_inR (by simp [inR]; omega) ?_ | refine WT_t rfl ?_ | refine WT_f rfl ?_ | refine WT_guard (by first | (simp [inR]; done) | (simp [inR]; omega)) ?_ | refine WT_elem _ (map_get _ _ _ (by first | assumption | omega)) ?_)
      refine WT_t (by simp at h ⊢; omega) ?_
      refine WT_call _ s_alive ?_
      exact WT_ret (P := P0) rfl rfl rfl rfl rfl
    · (repeat first | refine WT_inR (by simp [inR]; omega) ?_ | refine WT_t rfl ?_ | refine WT_f rfl ?_ | refine WT_guard (by first | (simp [inR]; done) | (simp [inR]; omega)) ?_ | refine WT_elem _ (map_get _ _ _ (by first | assumption | omega)) ?_)
      refine WT_call _ s_alive ?_
      exact WT_ret (P := P0) rfl rfl rfl rfl rfl
  · have p1 := s_script_Plain seats l (by omega) hs.2
    have p2 := s_ref29_Plain seats l (by omega)
    rw [← plain_ref] at p2
    have hpl := plain_len seats l
    generalize plain seats l = R at p1 p2 hpl
    have sm := s_ref29_Same R R (by omega)
    rw [decide_eq_true rfl] at sm
    have n1 := s_script_Next on last (by omega)
    have n2 := s_ref29_Next on last (by omega)
    refine Ret_by is_law29_ScriptPlain rfl ?_
    refine WT_t (by simp; omega) ?_
    (repeat first | refine WT_inR (by simp [inR]; omega) ?_ | refine WT_t rfl ?_ | refine WT_f rfl ?_ | refine WT_guard (by first | (simp [inR]; done) | (simp [inR]; omega)) ?_ | refine WT_elem _ (map_get _ _ _ (by first | assumption | omega)) ?_)
    refine WT_f (by simp; omega) ?_
    (repeat first | refine WT_inR (by simp [inR]; omega) ?_ | refine WT_t rfl ?_ | refine WT_f rfl ?_ | refine WT_guard (by first | (simp [inR]; done) | (simp [inR]; omega)) ?_ | refine WT_elem _ (map_get _ _ _ (by first | assumption | omega)) ?_)
    refine WT_loop (fun k : Nat => ⟨[(22, .d (I k)), (21, .d (I (l.map pickL).length)), (20, .d (picksD l)), (8, .d (.bool false)), (0, .d (I seats)), (1, .d (picksD l)), (2, .d (boolsD on)), (3, .d (I last))], [], 0, [], 0⟩)
      (fun k => k ≤ l.length) (fun k => l.length - k) 0 (by ((refine Weak.of ?_ ?_ rfl rfl ?_ rfl rfl <;> repeat' first | exact trivial | refine ⟨⟨_, rfl, Or.inl ⟨rfl, rfl⟩⟩, ?_⟩ | refine ⟨⟨_, rfl, Or.inr (Or.inl ⟨rfl, by first | exact ⟨_, _, rfl, rfl, Or.inl rfl⟩ | exact ⟨_, _, rfl, rfl, Or.inr rfl⟩⟩)⟩, ?_⟩ | refine ⟨⟨_, rfl, Or.inr (Or.inr rfl)⟩, ?_⟩ | refine ⟨⟨_, rfl, VW_int (by assumption)⟩, ?_⟩ | refine ⟨⟨Or.inl ⟨_, rfl, ⟨rfl, rfl⟩⟩, rfl⟩, ?_⟩ | refine ⟨⟨Or.inl ⟨_, rfl, ⟨rfl, rfl, rfl⟩⟩, rfl⟩, ?_⟩ | refine ⟨⟨Or.inl ⟨_, rfl, BSim_by rfl rfl⟩, rfl⟩, ?_⟩ | refine ⟨⟨Or.inr ⟨rfl, rfl⟩, rfl⟩, ?_⟩ | refine ⟨⟨Or.inr ⟨rfl, rfl, rfl⟩, rfl⟩, ?_⟩))) (by simp) ?_
    rintro k h1
    refine WT_test (fun h2 => ?_) (fun h2 => ?_)
    · have h2 : k < l.length := by simpa using h2
      (repeat first | refine WT_inR (by simp [inR]; omega) ?_ | refine WT_t rfl ?_ | refine WT_f rfl ?_ | refine WT_guard (by first | (simp [inR]; done) | (simp [inR]; omega)) ?_ | refine WT_elem _ (map_get _ _ _ (by first | assumption | omega)) ?_)
      refine WT_call _ (s_script_Right seats l[k]) ?_
      refine WT_call _ (s_ref29_Right seats l[k]) ?_
      refine WT_f (by simp) ?_
      (repeat first | refine WT_inR (by simp [inR]; omega) ?_ | refine WT_t rfl ?_ | refine WT_f rfl ?_ | refine WT_guard (by first | (simp [inR]; done) | (simp [inR]; omega)) ?_ | refine WT_elem _ (map_get _ _ _ (by first | assumption | omega)) ?_)
      exact WT_again (k + 1) h2 (by omega) (by ((refine Weak.of ?_ ?_ rfl rfl ?_ rfl rfl <;> repeat' first | exact trivial | refine ⟨⟨_, rfl, Or.inl ⟨rfl, rfl⟩⟩, ?_⟩ | refine ⟨⟨_, rfl, Or.inr (Or.inl ⟨rfl, by first | exact ⟨_, _, rfl, rfl, Or.inl rfl⟩ | exact ⟨_, _, rfl, rfl, Or.inr rfl⟩⟩)⟩, ?_⟩ | refine ⟨⟨_, rfl, Or.inr (Or.inr rfl)⟩, ?_⟩ | refine ⟨⟨_, rfl, VW_int (by assumption)⟩, ?_⟩ | refine ⟨⟨Or.inl ⟨_, rfl, ⟨rfl, rfl⟩⟩, rfl⟩, ?_⟩ | refine ⟨⟨Or.inl ⟨_, rfl, ⟨rfl, rfl, rfl⟩⟩, rfl⟩, ?_⟩ | refine ⟨⟨Or.inl ⟨_, rfl, BSim_by rfl rfl⟩, rfl⟩, ?_⟩ | refine ⟨⟨Or.inr ⟨rfl, rfl⟩, rfl⟩, ?_⟩ | refine ⟨⟨Or.inr ⟨rfl, rfl, rfl⟩, rfl⟩, ?_⟩)))
    · refine WT_break ?_
      refine WT_call _ s_alive ?_
      (repeat first | refine WT_inR (by simp [inR]; omega) ?_ | refine WT_t rfl ?_ | refine WT_f rfl ?_ | refine WT_guard (by first | (simp [inR]; done) | (simp [inR]; omega)) ?_ | refine WT_elem _ (map_get _ _ _ (by first | assumption | omega)) ?_)
      refine WT_call _ p1 ?_
      refine WT_call _ p2 ?_
      refine WT_call _ sm ?_
      (repeat first | refine WT_inR (by simp [inR]; omega) ?_ | refine WT_t rfl ?_ | refine WT_f rfl ?_ | refine WT_guard (by first | (simp [inR]; done) | (simp [inR]; omega)) ?_ | refine WT_elem _ (map_get _ _ _ (by first | assumption | omega)) ?_)
      refine WT_call _ n1 ?_
      refine WT_call _ n2 ?_
      (repeat first | refine WT_inR (by simp [inR]; omega) ?_ | refine WT_t rfl ?_ | refine WT_f rfl ?_ | refine WT_guard (by first | (simp [inR]; done) | (simp [inR]; omega)) ?_ | refine WT_elem _ (map_get _ _ _ (by first | assumption | omega)) ?_)
      refine WT_ret rfl rfl rfl rfl ?_
      simp [packD]

theorem l_ScriptTwice (seats : Int) (hs : -9223372036854775808 ≤ seats ∧ seats < 9223372036854775808) (l : List Pick) : Ret P0 n_law29_ScriptTwice [I seats, picksD l] (.bool true) := by
  by_cases hc : 400 < l.length
  · refine Ret_by is_law29_ScriptTwice rfl ?_
    refine WT_t (by simp; omega) ?_
    refine WT_call _ s_alive ?_
    exact WT_ret (P := P0) rfl rfl rfl rfl rfl
  · refine Ret_by is_law29_ScriptTwice rfl ?_
    refine WT_f (by simp; omega) ?_
    refine WT_call _ (s_script_Plain seats l (by omega) hs.2) ?_
    have hpl := plain_len seats l
    have p2 := s_script_Plain seats (plain seats l) (by omega) hs.2
    rw [plain_twice] at p2
    have p3 := s_script_Plain seats (l.filter (stepOk seats)) (by have := List.length_filter_le (stepOk seats) l; omega) hs.2
    rw [plain_steps] at p3
    generalize plain seats l = R at p2 hpl
    have sm := s_ref29_Same R R (by omega)
    rw [decide_eq_true rfl] at sm
    refine WT_loop (fun z : Nat × Nat × List (List Dat) => ⟨[(18, .d (I z.1)), (17, .d (I (l.map pickL).length)), (16, .d (picksD l)), (6, .ref 0 0 0 z.2.1), (5, .d (picksD R)), (4, .d (.bool false)), (0, .d (I seats)), (1, .d (picksD l))], [(0, .arr 3 z.2.2)], 1, [], 0⟩)
      (fun z => z.1 ≤ l.length ∧ z.2.1 = z.2.2.length ∧ z.2.2 = ((l.take z.1).filter (stepOk seats)).map pickL) (fun z => l.length - z.1) (0, 0, []) (by ((refine Weak.of ?_ ?_ rfl rfl ?_ rfl rfl <;> repeat' first | exact trivial | refine ⟨⟨_, rfl, Or.inl ⟨rfl, rfl⟩⟩, ?_⟩ | refine ⟨⟨_, rfl, Or.inr (Or.inl ⟨rfl, by first | exact ⟨_, _, rfl, rfl, Or.inl rfl⟩ | exact ⟨_, _, rfl, rfl, Or.inr rfl⟩⟩)⟩, ?_⟩ | refine ⟨⟨_, rfl, Or.inr (Or.inr rfl)⟩, ?_⟩ | refine ⟨⟨_, rfl, VW_int (by assumption)⟩, ?_⟩ | refine ⟨⟨Or.inl ⟨_, rfl, ⟨rfl, rfl⟩⟩, rfl⟩, ?_⟩ | refine ⟨⟨Or.inl ⟨_, rfl, ⟨rfl, rfl, rfl⟩⟩, rfl⟩, ?_⟩ | refine ⟨⟨Or.inl ⟨_, rfl, BSim_by rfl rfl⟩, rfl⟩, ?_⟩ | refine ⟨⟨Or.inr ⟨rfl, rfl⟩, rfl⟩, ?_⟩ | refine ⟨⟨Or.inr ⟨rfl, rfl, rfl⟩, rfl⟩, ?_⟩))) (by simp) ?_
    rintro ⟨k, n, xs⟩ ⟨h1, h2, h3⟩
    simp only at h1 h2 h3
    have hn : n ≤ k := by rw [h2, h3]; simp; exact Nat.le_trans (List.length_filter_le ..) (by simp; omega)
    refine WT_test (fun h4 => ?_) (fun h4 => ?_)
    · have h4 : k < l.length := by simpa using h4
      have skip : stepOk seats l[k] = false → ((k + 1, n, xs).1 ≤ l.length ∧ n = xs.length ∧ xs = ((l.take (k + 1)).filter (stepOk seats)).map pickL) := by
        intro h
        refine ⟨by simp; omega, h2, ?_⟩
        rw [take_one l k h4, h3, List.filter_append]; simp [h]
      (repeat first | refine WT_inR (by simp [inR]; omega) ?_ | refine WT_t rfl ?_ | refine WT_f rfl ?_ | refine WT_guard (by first | (simp [inR]; done) | (simp [inR]; omega)) ?_ | refine WT_elem _ (map_get _ _ _ (by first | assumption | omega)) ?_)
      refine WT_test (fun h5 => ?_) (fun h5 => ?_)
      · have h5 : l[k].kind = 1 := by simpa using h5
        (repeat first | refine WT_inR (by simp [inR]; omega) ?_ | refine WT_t rfl ?_ | refine WT_f rfl ?_ | refine WT_guard (by first | (simp [inR]; done) | (simp [inR]; omega)) ?_ | refine WT_elem _ (map_get _ _ _ (by first | assumption | omega)) ?_)
        refine WT_test (fun h6 => ?_) (fun h6 => ?_)
        · have h6 : l[k].b = 0 := by simpa using h6
          (repeat first | refine WT_inR (by simp [inR]; omega) ?_ | refine WT_t rfl ?_ | refine WT_f rfl ?_ | refine WT_guard (by first | (simp [inR]; done) | (simp [inR]; omega)) ?_ | refine WT_elem _ (map_get _ _ _ (by first | assumption | omega)) ?_)
          refine WT_test (fun h7 => ?_) (fun h7 => ?_)
          · have h7 : 0 ≤ l[k].a := by simpa using h7
            (repeat first | refine WT_inR (by simp [inR]; omega) ?_ | refine WT_t rfl ?_ | refine WT_f rfl ?_ | refine WT_guard (by first | (simp [inR]; done) | (simp [inR]; omega)) ?_ | refine WT_elem _ (map_get _ _ _ (by first | assumption | omega)) ?_)
            refine WT_test (fun h8 => ?_) (fun h8 => ?_)
            · have h8 : l[k].a < seats := by simpa using h8
              (repeat first | refine WT_inR (by simp [inR]; omega) ?_ | refine WT_t rfl ?_ | refine WT_f rfl ?_ | refine WT_guard (by first | (simp [inR]; done) | (simp [inR]; omega)) ?_ | refine WT_elem _ (map_get _ _ _ (by first | assumption | omega)) ?_)
              refine WT_again (k + 1, n + 1, xs ++ [pickL l[k]]) ⟨by simp; omega, by simp [h2], ?_⟩ (by simp; omega) (by ((refine Weak.of ?_ ?_ rfl rfl ?_ rfl rfl <;> repeat' first | exact trivial | refine ⟨⟨_, rfl, Or.inl ⟨rfl, rfl⟩⟩, ?_⟩ | refine ⟨⟨_, rfl, Or.inr (Or.inl ⟨rfl, by first | exact ⟨_, _, rfl, rfl, Or.inl rfl⟩ | exact ⟨_, _, rfl, rfl, Or.inr rfl⟩⟩)⟩, ?_⟩ | refine ⟨⟨_, rfl, Or.inr (Or.inr rfl)⟩, ?_⟩ | refine ⟨⟨_, rfl, VW_int (by assumption)⟩, ?_⟩ | refine ⟨⟨Or.inl ⟨_, rfl, ⟨rfl, rfl⟩⟩, rfl⟩, ?_⟩ | refine ⟨⟨Or.inl ⟨_, rfl, ⟨rfl, rfl, rfl⟩⟩, rfl⟩, ?_⟩ | refine ⟨⟨Or.inl ⟨_, rfl, BSim_by rfl rfl⟩, rfl⟩, ?_⟩ | refine ⟨⟨Or.inr ⟨rfl, rfl⟩, rfl⟩, ?_⟩ | refine ⟨⟨Or.inr ⟨rfl, rfl, rfl⟩, rfl⟩, ?_⟩)))
              simp only
              rw [take_one l k h4, h3, List.filter_append]; simp [stepOk, h5, h6, h7, h8]
            · have h8 : ¬ l[k].a < seats := by simpa using h8
              (repeat first | refine WT_inR (by simp [inR]; omega) ?_ | refine WT_t rfl ?_ | refine WT_f rfl ?_ | refine WT_guard (by first | (simp [inR]; done) | (simp [inR]; omega)) ?_ | refine WT_elem _ (map_get _ _ _ (by first | assumption | omega)) ?_)
              exact WT_again (k + 1, n, xs) (skip (by simp [stepOk]; omega)) (by simp; omega) (by ((refine Weak.of ?_ ?_ rfl rfl ?_ rfl rfl <;> repeat' first | exact trivial | refine ⟨⟨_, rfl, Or.inl ⟨rfl, rfl⟩⟩, ?_⟩ | refine ⟨⟨_, rfl, Or.inr (Or.inl ⟨rfl, by first | exact ⟨_, _, rfl, rfl, Or.inl rfl⟩ | exact ⟨_, _, rfl, rfl, Or.inr rfl⟩⟩)⟩, ?_⟩ | refine ⟨⟨_, rfl, Or.inr (Or.inr rfl)⟩, ?_⟩ | refine ⟨⟨_, rfl, VW_int (by assumption)⟩, ?_⟩ | refine ⟨⟨Or.inl ⟨_, rfl, ⟨rfl, rfl⟩⟩, rfl⟩, ?_⟩ | refine ⟨⟨Or.inl ⟨_, rfl, ⟨rfl, rfl, rfl⟩⟩, rfl⟩, ?_⟩ | refine ⟨⟨Or.inl ⟨_, rfl, BSim_by rfl rfl⟩, rfl⟩, ?_⟩ | refine ⟨⟨Or.inr ⟨rfl, rfl⟩, rfl⟩, ?_⟩ | refine ⟨⟨Or.inr ⟨rfl, rfl, rfl⟩, rfl⟩, ?_⟩)))
          · have h7 : ¬ 0 ≤ l[k].a := by simpa using h7
            (repeat first | refine WT_inR (by simp [inR]; omega) ?_ | refine WT_t rfl ?_ | refine WT_f rfl ?_ | refine WT_guard (by first | (simp [inR]; done) | (simp [inR]; omega)) ?_ | refine WT_elem _ (map_get _ _ _ (by first | assumption | omega)) ?_)
            exact WT_again (k + 1, n, xs) (skip (by simp [stepOk]; omega)) (by simp; omega) (by ((refine Weak.of ?_ ?_ rfl rfl ?_ rfl rfl <;> repeat' first | exact trivial | refine ⟨⟨_, rfl, Or.inl ⟨rfl, rfl⟩⟩, ?_⟩ | refine ⟨⟨_, rfl, Or.inr (Or.inl ⟨rfl, by first | exact ⟨_, _, rfl, rfl, Or.inl rfl⟩ | exact ⟨_, _, rfl, rfl, Or.inr rfl⟩⟩)⟩, ?_⟩ | refine ⟨⟨_, rfl, Or.inr (Or.inr rfl)⟩, ?_⟩ | refine ⟨⟨_, rfl, VW_int (by assumption)⟩, ?_⟩ | refine ⟨⟨Or.inl ⟨_, rfl, ⟨rfl, rfl⟩⟩, rfl⟩, ?_⟩ | refine ⟨⟨Or.inl ⟨_, rfl, ⟨rfl, rfl, rfl⟩⟩, rfl⟩, ?_⟩ | refine ⟨⟨Or.inl ⟨_, rfl, BSim_by rfl rfl⟩, rfl⟩, ?_⟩ | refine ⟨⟨Or.inr ⟨rfl, rfl⟩, rfl⟩, ?_⟩ | refine ⟨⟨Or.inr ⟨rfl, rfl, rfl⟩, rfl⟩, ?_⟩)))
        · have h6 : ¬ l[k].b = 0 := by simpa using h6
          (repeat first | refine WT_inR (by simp [inR]; omega) ?_ | refine WT_t rfl ?_ | refine WT_f rfl ?_ | refine WT_guard (by first | (simp [inR]; done) | (simp [inR]; omega)) ?_ | refine WT_elem _ (map_get _ _ _ (by first | assumption | omega)) ?_)
          exact WT_again (k + 1, n, xs) (skip (by simp [stepOk]; omega)) (by simp; omega) (by ((refine Weak.of ?_ ?_ rfl rfl ?_ rfl rfl <;> repeat' first | exact trivial | refine ⟨⟨_, rfl, Or.inl ⟨rfl, rfl⟩⟩, ?_⟩ | refine ⟨⟨_, rfl, Or.inr (Or.inl ⟨rfl, by first | exact ⟨_, _, rfl, rfl, Or.inl rfl⟩ | exact ⟨_, _, rfl, rfl, Or.inr rfl⟩⟩)⟩, ?_⟩ | refine ⟨⟨_, rfl, Or.inr (Or.inr rfl)⟩, ?_⟩ | refine ⟨⟨_, rfl, VW_int (by assumption)⟩, ?_⟩ | refine ⟨⟨Or.inl ⟨_, rfl, ⟨rfl, rfl⟩⟩, rfl⟩, ?_⟩ | refine ⟨⟨Or.inl ⟨_, rfl, ⟨rfl, rfl, rfl⟩⟩, rfl⟩, ?_⟩ | refine ⟨⟨Or.inl ⟨_, rfl, BSim_by rfl rfl⟩, rfl⟩, ?_⟩ | refine ⟨⟨Or.inr ⟨rfl, rfl⟩, rfl⟩, ?_⟩ | refine ⟨⟨Or.inr ⟨rfl, rfl, rfl⟩, rfl⟩, ?_⟩)))
      · have h5 : ¬ l[k].kind = 1 := by simpa using h5
        (repeat first | refine WT_inR (by simp [inR]; omega) ?_ | refine WT_t rfl ?_ | refine WT_f rfl ?_ | refine WT_guard (by first | (simp [inR]; done) | (simp [inR]; omega)) ?_ | refine WT_elem _ (map_get _ _ _ (by first | assumption | omega)) ?_)
        exact WT_again (k + 1, n, xs) (skip (by simp [stepOk]; omega)) (by simp; omega) (by ((refine Weak.of ?_ ?_ rfl rfl ?_ rfl rfl <;> repeat' first | exact trivial | refine ⟨⟨_, rfl, Or.inl ⟨rfl, rfl⟩⟩, ?_⟩ | refine ⟨⟨_, rfl, Or.inr (Or.inl ⟨rfl, by first | exact ⟨_, _, rfl, rfl, Or.inl rfl⟩ | exact ⟨_, _, rfl, rfl, Or.inr rfl⟩⟩)⟩, ?_⟩ | refine ⟨⟨_, rfl, Or.inr (Or.inr rfl)⟩, ?_⟩ | refine ⟨⟨_, rfl, VW_int (by assumption)⟩, ?_⟩ | refine ⟨⟨Or.inl ⟨_, rfl, ⟨rfl, rfl⟩⟩, rfl⟩, ?_⟩ | refine ⟨⟨Or.inl ⟨_, rfl, ⟨rfl, rfl, rfl⟩⟩, rfl⟩, ?_⟩ | refine ⟨⟨Or.inl ⟨_, rfl, BSim_by rfl rfl⟩, rfl⟩, ?_⟩ | refine ⟨⟨Or.inr ⟨rfl, rfl⟩, rfl⟩, ?_⟩ | refine ⟨⟨Or.inr ⟨rfl, rfl, rfl⟩, rfl⟩, ?_⟩)))
    · refine WT_break ?_
      have h4 : l.length ≤ k := by simpa using h4
      rw [List.take_of_length_le h4] at h3
      have hfl : (l.filter (stepOk seats)).length ≤ l.length := List.length_filter_le ..
      have p3' : Ret P0 n_script_Plain [I seats, .slice 3 ((xs.drop 0).take n) false] (picksD (l.filter (stepOk seats))) := by rw [row_eq h2 h3]; exact p3
      have sm2 : Ret P0 n_ref29_Same [picksD (l.filter (stepOk seats)), .slice 3 ((xs.drop 0).take n) false] (.bool true) := by
        rw [row_eq h2 h3]
        have := s_ref29_Same (l.filter (stepOk seats)) (l.filter (stepOk seats)) (by omega)
        rw [decide_eq_true rfl] at this; exact this
      refine WT_call _ s_alive ?_
      (repeat first | refine WT_inR (by simp [inR]; omega) ?_ | refine WT_t rfl ?_ | refine WT_f rfl ?_ | refine WT_guard (by first | (simp [inR]; done) | (simp [inR]; omega)) ?_ | refine WT_elem _ (map_get _ _ _ (by first | assumption | omega)) ?_)
      refine WT_call _ p2 ?_
      refine WT_call _ sm ?_
      (repeat first | refine WT_inR (by simp [inR]; omega) ?_ | refine WT_t rfl ?_ | refine WT_f rfl ?_ | refine WT_guard (by first | (simp [inR]; done) | (simp [inR]; omega)) ?_ | refine WT_elem _ (map_get _ _ _ (by first | assumption | omega)) ?_)
      refine WT_call _ p3' ?_
      refine WT_call _ sm2 ?_
      (repeat first | refine WT_inR (by simp [inR]; omega) ?_ | refine WT_t rfl ?_ | refine WT_f rfl ?_ | refine WT_guard (by first | (simp [inR]; done) | (simp [inR]; omega)) ?_ | refine WT_elem _ (map_get _ _ _ (by first | assumption | omega)) ?_)
      exact WT_ret rfl rfl rfl rfl rfl

theorem l_ScriptBegins (seats : Int) (hs : -9223372036854775808 ≤ seats ∧ seats < 9223372036854775808) (l : List Pick) (k : Int) (hk : 0 ≤ k ∧ k < 65536) : Ret P0 n_law29_ScriptBegins [I seats, picksD l, .int .u16 k] (.bool true) := by
  by_cases hc : 400 < l.length
  · refine Ret_by is_law29_ScriptBegins rfl ?_
    refine WT_t (by simp; omega) ?_
    refine WT_call _ s_alive ?_
    exact WT_ret (P := P0) rfl rfl rfl rfl rfl
  · refine Ret_by is_law29_ScriptBegins rfl ?_
    refine WT_f (by simp; omega) ?_
    refine WT_call _ (s_script_Plain seats l (by omega) hs.2) ?_
    have hm : k.tmod ((l.map pickL).length + 1) = ((k.toNat % (l.length + 1) : Nat) : Int) := by
      rw [List.length_map, Int.tmod_eq_emod_of_nonneg hk.1, Int.natCast_emod, Int.toNat_of_nonneg hk.1]; rfl
    have hml : k.toNat % (l.length + 1) < l.length + 1 := Nat.mod_lt _ (by omega)
    have hg : (decide ((0 : Int) ≤ 0) && decide ((0 : Int) ≤ k.tmod ((l.map pickL).length + 1)) && decide (k.tmod ((l.map pickL).length + 1) ≤ ((l.map pickL).length : Int))) = true := by
      rw [hm, List.length_map]; simp only [Bool.and_eq_true, decide_eq_true_eq]; exact ⟨⟨by omega, Int.natCast_nonneg _⟩, by omega⟩
    have p2 : Ret P0 n_script_Plain [I seats, .slice 3 (((l.map pickL).take (k.tmod ((l.map pickL).length + 1)).toNat).drop 0) false] (picksD (plain seats (l.take (k.toNat % (l.length + 1))))) := by
      rw [hm, Int.toNat_natCast, List.drop_zero, ← List.map_take]
      exact s_script_Plain seats _ (by simp; omega) hs.2
    obtain ⟨b1, b2⟩ := plain_begins seats l (k.toNat % (l.length + 1))
    have hpl := plain_len seats l
    generalize plain seats (l.take (k.toNat % (l.length + 1))) = Q at p2 b1 b2
    generalize plain seats l = R at b1 b2 hpl
    (repeat first | refine WT_inR (by simp [inR]; omega) ?_ | refine WT_t rfl ?_ | refine WT_f rfl ?_ | refine WT_guard (by first | (simp [inR]; done) | (simp [inR]; omega)) ?_ | refine WT_elem _ (map_get _ _ _ (by first | assumption | omega)) ?_)
    refine WT_t hg ?_
    refine WT_call _ p2 ?_
    refine WT_call _ s_alive ?_
    have sm : Ret P0 n_ref29_Same [picksD Q, .slice 3 (((R.map pickL).take (mmI false ((Q.map pickL).length : Int) ((R.map pickL).length : Int)).toNat).drop 0) false] (.bool true) := by
      have e : (mmI false ((Q.map pickL).length : Int) ((R.map pickL).length : Int)).toNat = Q.length := by simp [mmI]; omega
      rw [e, List.drop_zero, ← List.map_take, b2]
      have := s_ref29_Same Q Q (by omega)
      rw [decide_eq_true rfl] at this; exact this
    (repeat first | refine WT_inR (by simp [inR]; omega) ?_ | refine WT_t rfl ?_ | refine WT_f rfl ?_ | refine WT_guard (by first | (simp [inR]; done) | (simp [inR]; omega)) ?_ | refine WT_elem _ (map_get _ _ _ (by first | assumption | omega)) ?_)
    refine WT_t (by simp; omega) ?_
    (repeat first | refine WT_inR (by simp [inR]; omega) ?_ | refine WT_t rfl ?_ | refine WT_f rfl ?_ | refine WT_guard (by first | (simp [inR]; done) | (simp [inR]; omega)) ?_ | refine WT_elem _ (map_get _ _ _ (by first | assumption | omega)) ?_)
    refine WT_t (by simp [mmI]; omega) ?_
    refine WT_call _ sm ?_
    (repeat first | refine WT_inR (by simp [inR]; omega) ?_ | refine WT_t rfl ?_ | refine WT_f rfl ?_ | refine WT_guard (by first | (simp [inR]; done) | (simp [inR]; omega)) ?_ | refine WT_elem _ (map_get _ _ _ (by first | assumption | omega)) ?_)
    exact WT_ret (P := P0) rfl rfl rfl rfl rfl
end Uw.Tryd
