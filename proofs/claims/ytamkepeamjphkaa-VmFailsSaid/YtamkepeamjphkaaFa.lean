/- Fa: Wd (merged by merge.py from the working texts). -/
import Derived.Test.YtamkepeamjphkaaM8
set_option linter.unusedSimpArgs false
set_option linter.unnecessarySimpa false
set_option linter.unusedVariables false

/- FAILS. -/
set_option linter.unusedVariables false
namespace Uw.Try
open Go Uw Go.Proofs

def failIns : List Int → List Ins
  | [] => []
  | v :: l => ⟨1, v, 0, 0⟩ :: ⟨18, 0, 0, 0⟩ :: failIns l
def failEnd : List Ins := [⟨1, 1, 0, 0⟩, ⟨17, 0, 0, 0⟩]
def fF (p : Int) (fl : Bool) (st : List Int) : Frame := ⟨1, [], 0, p, [], st, [], 0, p, fl⟩

theorem failIns_len : ∀ l, (failIns l).length = 2 * l.length
  | [] => rfl
  | v :: l => by simp [failIns, failIns_len l]; omega
theorem failIns_append : ∀ l m, failIns (l ++ m) = failIns l ++ failIns m
  | [], m => rfl
  | v :: l, m => by simp [failIns, failIns_append l m]

theorem ins_at {pre tail : List Ins} {i : Ins} {p : Int} {fl : Bool} {st : List Int} (hp : p = pre.length) : insAt ⟨0, 0, pre ++ i :: tail⟩ (fF p fl st) = i := by
  subst hp; simp [insAt, fF]

theorem f_run (c : Code) : ∀ (l : List Int) (pre : List Ins) (p : Int) (fl : Bool), p = pre.length → pre.length + 2 * l.length + 2 ≤ 100 → l.all isVal = true →
    runF c ⟨0, 0, pre ++ (failIns l ++ failEnd)⟩ (fF p fl []) = .ok (fF (p + 2 * l.length + 2) (fl || l.any fun v => decide (v = 0)) []) ⟨6, 1, 0, (0, 0, 0, 0), []⟩
  | [], pre, p, fl, hp, hl, _ => by
    have e1 : runF c ⟨0, 0, pre ++ (failIns [] ++ failEnd)⟩ (fF p fl []) = runF c ⟨0, 0, pre ++ (failIns [] ++ failEnd)⟩ (fF (p + 1) fl [1]) :=
      runF_go _ (by simp [fF, failEnd, hp]; omega) (by simp [fF, hp]; simp at hl; omega) (by simp [fF]) (s_push (ins_at hp) rfl (by simp [fF]))
    have e2 : runF c ⟨0, 0, pre ++ (failIns [] ++ failEnd)⟩ (fF (p + 1) fl [1]) = .ok (fF (p + 1 + 1) fl []) ⟨6, 1, 0, (0, 0, 0, 0), []⟩ := by
      refine runF_ask _ _ (by simp [fF, failEnd, hp]; omega) (by simp [fF, hp]; simp at hl; omega) ?_ (by simp)
      have hi : insAt ⟨0, 0, pre ++ (failIns [] ++ failEnd)⟩ (fF (p + 1) fl [1]) = ⟨17, 0, 0, 0⟩ := by
        have := ins_at (pre := pre ++ [⟨1, 1, 0, 0⟩]) (tail := []) (i := ⟨17, 0, 0, 0⟩) (p := p + 1) (fl := fl) (st := [1]) (by simp [hp])
        simpa [failIns, failEnd] using this
      rw [hi]; rfl
    rw [e1, e2, show p + 2 * (([] : List Int).length : Int) + 2 = p + 1 + 1 by simp; omega]
    simp
  | v :: l, pre, p, fl, hp, hl, hv => by
    have hv1 : isVal v = true ∧ l.all isVal = true := by simpa using hv
    simp at hl
    have e1 : runF c ⟨0, 0, pre ++ (failIns (v :: l) ++ failEnd)⟩ (fF p fl []) = runF c ⟨0, 0, pre ++ (failIns (v :: l) ++ failEnd)⟩ (fF (p + 1) fl [v]) :=
      runF_go _ (by simp [fF, failIns, hp]; omega) (by simp [fF, hp]; omega) (by simp [fF]) (s_push (ins_at hp) hv1.1 (by simp [fF]))
    have e2 : runF c ⟨0, 0, pre ++ (failIns (v :: l) ++ failEnd)⟩ (fF (p + 1) fl [v]) = runF c ⟨0, 0, pre ++ (failIns (v :: l) ++ failEnd)⟩ (fF (p + 1 + 1) (fl || decide (v = 0)) []) := by
      refine runF_go _ (by simp [fF, failIns, hp]; omega) (by simp [fF, hp]; omega) (by simp [fF]) ?_
      have hi : insAt ⟨0, 0, pre ++ (failIns (v :: l) ++ failEnd)⟩ (fF (p + 1) fl [v]) = ⟨18, 0, 0, 0⟩ := by
        have := ins_at (pre := pre ++ [⟨1, v, 0, 0⟩]) (tail := failIns l ++ failEnd) (i := ⟨18, 0, 0, 0⟩) (p := p + 1) (fl := fl) (st := [v]) (by simp [hp])
        simpa [failIns] using this
      rw [hi]; rfl
    have e3 := f_run c l (pre ++ [⟨1, v, 0, 0⟩, ⟨18, 0, 0, 0⟩]) (p + 1 + 1) (fl || decide (v = 0)) (by simp [hp]; omega) (by simp; omega) hv1.2
    have e4 : pre ++ [⟨1, v, 0, 0⟩, ⟨18, 0, 0, 0⟩] ++ (failIns l ++ failEnd) = pre ++ (failIns (v :: l) ++ failEnd) := by simp [failIns]
    rw [e4] at e3
    rw [e1, e2, e3]
    rw [show p + 1 + 1 + 2 * (l.length : Int) + 2 = p + 2 * ((v :: l).length : Int) + 2 by simp; omega, List.any_cons, Bool.or_assoc]

theorem f_next (l : List Int) (h : l.length ≤ 20) (hv : l.all isVal = true) : nextS (plainC (failIns l ++ failEnd) 0) (fF 0 false []) = .ok (fF (2 * l.length + 2) (l.any fun v => decide (v = 0)) []) ⟨6, 1, 0, (0, 0, 0, 0), []⟩ := by
  rw [next_run (by
    have h1 : below 0 ((bodyAt (plainC (failIns l ++ failEnd) 0) (fF 0 false [])).ins.length + 1) = true := by simp [below]
    show (_ && !(!below 0 _ || _ || _) && _ && _ && _ && _ && _) = true
    rw [h1]; rfl)]
  show runF _ ⟨0, 0, failIns l ++ failEnd⟩ (fF 0 false []) = _
  have := f_run (plainC (failIns l ++ failEnd) 0) l [] 0 false rfl (by simp; omega) hv
  simpa using this

def u32s (l : List Int) : Dat := .slice 1 (l.map fun n => [Dat.int .u32 n]) false

theorem take_failIns (l : List Int) (k : Nat) (h : k < l.length) : failIns (l.take (k + 1)) = failIns (l.take k) ++ [⟨1, l[k], 0, 0⟩, ⟨18, 0, 0, 0⟩] := by
  rw [List.take_succ_eq_append_getElem h, failIns_append]; rfl

set_option maxRecDepth 100000 in
set_option maxHeartbeats 1000000 in
theorem l9 (l : List Int) (hl : ∀ n ∈ l, 0 ≤ n ∧ n < 4294967296) : Ret Try.prog 9 [u32s l] (.bool true) := by
  by_cases h20 : 20 < l.length
  · refine Ret_by is9 rfl ?_
    refine WT_call _ s10 ?_
    refine WT_t (by simp; omega) ?_
    exact WT_ret rfl rfl rfl rfl rfl
  have hv : l.all isVal = true := List.all_eq_true.2 (fun n hn => by have := hl n hn; simp [isVal]; omega)
  have hS : Ret Try.prog 12 [codeD (plainC (failIns l ++ failEnd) 0), I 0, ints [], I 1, ints []] (frErr (fF 0 false [], 0)) := start_plain (failIns l ++ failEnd) 0 1 [] (by decide) (by decide) (by decide) (by decide)
  have hN := s21 (plainC (failIns l ++ failEnd) 0) (fF 0 false []) (tiny_plain _ _ _ (by simp [failIns_len, failEnd]; omega) (by simp [fF]) (by simp [fF]) (by simp [fF]) (by simp [fF]))
  rw [f_next l (by omega) hv] at hN
  refine Ret_by is9 rfl ?_
  refine WT_call _ s10 ?_
  refine WT_f (by simp; omega) ?_
  refine WT_loop (fun x : Int × List (List Dat) × Nat × Bool => ⟨[(0, .d (u32s l)), (3, .d (.bool true)), (4, .ref 0 0 0 x.2.2.1), (5, .d (.bool x.2.2.2)), (6, .d (I x.1))], [(0, .arr 4 x.2.1)], 1, [], 0⟩)
    (fun x => 0 ≤ x.1 ∧ x.1 ≤ l.length ∧ x.2.1 = (failIns (l.take x.1.toNat)).map insD ∧ x.2.2.1 = x.2.1.length ∧ x.2.2.2 = (l.take x.1.toNat).any fun v => decide (v = 0)) (fun x => (l.length - x.1).toNat) (0, [], 0, false) ?_ ⟨by simp, by simp, by simp [failIns], by simp, by simp⟩ ?_
  · exact Weak.of ⟨⟨_, rfl, .inl ⟨rfl, rfl⟩⟩, ⟨_, rfl, .inl ⟨rfl, rfl⟩⟩, ⟨_, rfl, .inr (.inl ⟨rfl, 0, 4, rfl, rfl, .inl rfl⟩)⟩, ⟨_, rfl, .inl ⟨rfl, rfl⟩⟩, ⟨_, rfl, .inl ⟨rfl, rfl⟩⟩, trivial⟩ ⟨⟨.inr ⟨rfl, rfl⟩, rfl⟩, trivial⟩ rfl rfl trivial rfl rfl
  · rintro ⟨k, xs, n, fl⟩ ⟨g0, g1, g2, g3, g4⟩
    simp only at g0 g1 g2 g3 g4
    have hxl : xs.length = 2 * k.toNat := by rw [g2, List.length_map, failIns_len, List.length_take]; omega
    by_cases hk : k < l.length
    · have k1 : k.toNat < l.length := by omega
      have hb := hl l[k.toNat] (List.getElem_mem _)
      have ek : (k + 1).toNat = k.toNat + 1 := by omega
      have hrow : xs ++ [insD ⟨1, l[k.toNat], 0, 0⟩, insD ⟨18, 0, 0, 0⟩] = (failIns (l.take (k + 1).toNat)).map insD := by
        rw [ek, take_failIns l _ k1, g2, List.map_append]; rfl
      have hany : ((l.take (k + 1).toNat).any fun v => decide (v = 0)) = (fl || decide (l[k.toNat] = 0)) := by
        rw [ek, any_take _ _ _ k1, g4]
      refine WT_t (by simp; omega) ?_
      refine WT_t (by simp; omega) ?_
      refine WT_elem [.int .u32 l[k.toNat]] (by simp [k1]) ?_
      refine WT_t (by simp [inR]; omega) ?_
      refine WT_t (by simp; omega) ?_
      by_cases hf : fl = true
      · refine WT_f (by simp [hf]) ?_
        refine WT_t rfl ?_
        refine WT_t (by simp [inR]; omega) ?_
        exact WT_again (k + 1, xs ++ [insD ⟨1, l[k.toNat], 0, 0⟩, insD ⟨18, 0, 0, 0⟩], n + 2, true) ⟨by simp only []; omega, by simp only []; omega, hrow, by simp; omega, by rw [hany, hf]; rfl⟩ (by simp only []; omega)
          (Weak.eqs [] (by kernel_rfl) (by kernel_rfl) (by kernel_rfl) (by kernel_rfl) (by kernel_rfl) (by kernel_rfl) (by kernel_rfl) (by kernel_rfl) (by kernel_rfl) (by kernel_rfl))
      · have hf' : fl = false := by simpa using hf
        refine WT_t (by simp [hf']) ?_
        refine WT_t (by simp; omega) ?_
        refine WT_elem [.int .u32 l[k.toNat]] (by simp [k1]) ?_
        refine WT_f rfl ?_
        refine WT_t (by simp [inR]; omega) ?_
        exact WT_again (k + 1, xs ++ [insD ⟨1, l[k.toNat], 0, 0⟩, insD ⟨18, 0, 0, 0⟩], n + 2, decide (l[k.toNat] = 0)) ⟨by simp only []; omega, by simp only []; omega, hrow, by simp; omega, by rw [hany, hf']; rfl⟩ (by simp only []; omega)
          (Weak.eqs [] (by kernel_rfl) (by kernel_rfl) (by kernel_rfl) (by kernel_rfl) (by kernel_rfl) (by kernel_rfl) (by kernel_rfl) (by kernel_rfl) (by kernel_rfl) (by kernel_rfl))
    · rw [List.take_of_length_le (by omega)] at g2 g4
      have h24 : Ret Try.prog 24 [.slice 4 (((xs ++ [insD ⟨1, 1, 0, 0⟩, insD ⟨17, 0, 0, 0⟩]).drop 0).take (n + 2)) false, I 0] (codeD (plainC (failIns l ++ failEnd) 0)) := by
        have e : ((xs ++ [insD ⟨1, 1, 0, 0⟩, insD ⟨17, 0, 0, 0⟩]).drop 0).take (n + 2) = (failIns l ++ failEnd).map insD := by
          rw [List.drop_zero, List.take_of_length_le (by simp; omega), g2, List.map_append]; rfl
        rw [e]; exact s24 _ 0
      refine WT_f (by simp; omega) ?_
      refine WT_break ?_
      refine WT_t (by simp; omega) ?_
      refine WT_call _ h24 ?_
      refine WT_callL (frErr (fF 0 false [], 0)) hS (.cons (.refl _) (.cons (.refl _) (.cons (.nil _) (.cons (.refl _) (.cons (.nil _) (.refl _)))))) ?_
      refine WT_call _ hN ?_
      repeat (refine WT_t rfl ?_)
      refine WT_t (by simp [fF, g4]) ?_
      refine WT_t (by simp [inR]; omega) ?_
      refine WT_t (by simp [inR]; omega) ?_
      refine WT_t rfl ?_
      refine WT_ret rfl rfl rfl rfl ?_
      simp [packD, fF]

end Uw.Try
