/- Sy: Wj Wk Wl (merged by merge.py from the working texts). -/
import Derived.Test.YtamkepeamjphkaaM8
import Derived.Test.YtamkepeamjphkaaSt
set_option linter.unusedSimpArgs false
set_option linter.unnecessarySimpa false
set_option linter.unusedVariables false

/- STAYS: the plain law. -/
set_option linter.unusedVariables false
namespace Uw.Try
open Go Uw Go.Proofs

structure Good (c : Code) (b : Body) (f : Frame) : Prop where
  task : 1 ≤ f.task
  fn0 : 0 ≤ f.fn
  fn1 : f.fn < c.funs.length
  body : bodyAt c f = b
  pc0 : 0 ≤ f.pc
  pc1 : f.pc ≤ b.ins.length
  loc : (f.loc.length : Int) = b.locals
  stack : f.stack.length ≤ 100
  kids : ∀ k ∈ f.kids, okKid b.locals k = true
  vals : Vals f
  many : 0 ≤ f.many
  sp0 : 0 ≤ f.spent
  sp1 : f.spent ≤ 2000

theorem Good.of {c : Code} {f : Frame} (h : right c f = true) : Good c (bodyAt c f) f := by
  simp only [right, Bool.and_eq_true, Bool.not_eq_true', Bool.or_eq_false_iff, decide_eq_false_iff_not, Bool.not_eq_false', decide_eq_true_eq, below] at h
  obtain ⟨⟨⟨⟨⟨⟨h1, h2⟩, h3⟩, h4⟩, h5⟩, h6⟩, h7⟩ := h
  exact ⟨by omega, h1.2.1, h1.2.2, rfl, h2.1.1.1, by omega, h2.1.2, by omega, List.all_eq_true.1 h3, ⟨h4, h5⟩, h6, h7.1, by omega⟩

theorem Good.right {c : Code} {b : Body} {f : Frame} (h : Good c b f) : right c f = true := by
  have hb := h.body
  have h1 := h.task; have h2 := h.fn0; have h3 := h.fn1; have h4 := h.pc0; have h5 := h.pc1; have h6 := h.stack; have h7 := h.sp0; have h8 := h.sp1; have h9 := h.many
  have e1 : decide (f.task < 1) = false := by simp; omega
  have e2 : below f.fn c.funs.length = true := by simp [below]; omega
  have e3 : below f.pc (b.ins.length + 1) = true := by simp [below]; omega
  have e4 : decide ((f.loc.length : Int) = b.locals) = true := by simp [h.loc]
  have e5 : decide (100 < (f.stack.length : Int)) = false := by simp; omega
  have e6 : f.kids.all (okKid b.locals) = true := List.all_eq_true.2 h.kids
  have e7 : decide (0 ≤ f.many) = true := by simp [h9]
  have e8 : below f.spent 2001 = true := by simp [below]; omega
  rw [Uw.Try.right, hb, e1, e2, e3, e4, e5, e6, h.vals.loc, h.vals.stack, e7, e8]; rfl

theorem Good.step {c : Code} {b : Body} {f g : Frame} {i : Ins} {a : Ask} (h : Good c b f) (hp : f.pc < b.ins.length) (hsp : f.spent < 2000) (hs : stepS c b f i = some (g, a)) : Good c b g := by
  have st := step_stays h.pc0 hp h.stack hs
  have h7 := h.sp0
  refine ⟨by rw [st.task]; exact h.task, by rw [st.fn]; exact h.fn0, by rw [st.fn]; exact h.fn1, by rw [← h.body, bodyAt, bodyAt, st.fn], st.pc0, st.pc1, by rw [st.loc]; exact h.loc, st.stack, by rw [st.kids]; exact h.kids, step_vals h.vals hs, by rw [st.many]; exact h.many, ?_, ?_⟩
  · rcases st.spent with ⟨_, e, _⟩ | ⟨_, e⟩
    · rw [e]; omega
    · omega
  · rcases st.spent with ⟨_, e, _⟩ | ⟨_, e⟩
    · rw [e]; omega
    · omega

/-- What Next keeps. -/
structure Kept (c : Code) (b : Body) (f g : Frame) (a : Ask) : Prop where
  good : Good c b g
  kids : g.kids = f.kids
  path : g.path = f.path
  many : g.many = f.many
  loc : g.loc.length = f.loc.length
  le : f.spent ≤ g.spent
  lt : a.kind ≠ 5 → f.spent < g.spent
  wait : a.kind = 5 → g.kids ≠ []
  k1 : 1 ≤ a.kind
  k6 : a.kind ≤ 6
  k4 : a.kind = 4 → dest a.b g.loc.length = true

theorem run_good (c : Code) (b : Body) : ∀ (n : Nat) (f : Frame), Good c b f → (∀ e, runN c b n f = .err e → e = 1 ∨ e = 11) ∧ ∀ g a, runN c b n f = .ok g a → Kept c b f g a
  | 0, f, h => by simp [runN]
  | n + 1, f, h => by
    rw [runN]
    split
    · simp
    split
    · simp
    rename_i hsp hpc
    have hpc' : 0 ≤ f.pc ∧ f.pc < b.ins.length := by simpa [below] using hpc
    have hsp' : f.spent < 2000 := by have := h.sp1; omega
    cases hs : stepS c b f (insAt b f) with
    | none => simp
    | some p =>
      obtain ⟨g, a⟩ := p
      have hg := h.step hpc'.2 hsp' hs
      have st := step_stays hpc'.1 hpc'.2 h.stack hs
      simp only []
      by_cases hk : a.kind = 0
      · rw [if_pos hk]
        have hspg : g.spent = f.spent + 1 := by
          rcases st.spent with ⟨e, _⟩ | ⟨_, e⟩
          · omega
          · exact e
        obtain ⟨i1, i2⟩ := run_good c b n g hg
        refine ⟨i1, fun g' a' hr => ?_⟩
        have k := i2 g' a' hr
        have kle := k.le
        exact ⟨k.good, k.kids.trans st.kids, k.path.trans st.path, k.many.trans st.many, k.loc.trans st.loc, by omega, fun _ => by omega, k.wait, k.k1, k.k6, k.k4⟩
      · rw [if_neg hk]
        refine ⟨by simp, fun g' a' hr => ?_⟩
        simp at hr
        obtain ⟨rfl, rfl⟩ := hr
        refine ⟨hg, st.kids, st.path, st.many, st.loc, ?_, ?_, ?_, by have := st.kind; omega, st.kind.2, fun h4 => by rw [st.loc]; exact st.kind4 h4⟩
        · rcases st.spent with ⟨_, e, _⟩ | ⟨_, e⟩
          · rw [e]; exact Int.le_refl _
          · omega
        · intro h5
          rcases st.spent with ⟨e, _⟩ | ⟨_, e⟩
          · exact absurd e h5
          · omega
        · intro h5
          rcases st.spent with ⟨_, e, e2⟩ | ⟨e, _⟩
          · rw [e]; exact e2
          · exact absurd h5 e

theorem next_good {c : Code} {f : Frame} (hr : right c f = true) : (∃ e, nextS c f = .err e ∧ (e = 1 ∨ e = 11)) ∨ ∃ g a, nextS c f = .ok g a ∧ Kept c (bodyAt c f) f g a := by
  have h := run_good c (bodyAt c f) (fuelF f) f (Good.of hr)
  have e : nextS c f = runN c (bodyAt c f) (fuelF f) f := by simp [nextS, hr]
  rw [e]
  cases hx : runN c (bodyAt c f) (fuelF f) f with
  | err n => exact .inl ⟨n, rfl, h.1 n hx⟩
  | ok g a => exact .inr ⟨g, a, rfl, h.2 g a hx⟩

/-- Frames behind an answer. -/
theorem Good.put {c : Code} {b : Body} {f : Frame} (h : Good c b f) {v : Int} (hv : isVal v = true) (hs : f.stack.length < 100) : Good c b { f with stack := f.stack ++ [v] } :=
  ⟨h.task, h.fn0, h.fn1, h.body, h.pc0, h.pc1, h.loc, by simp; omega, h.kids, h.vals.put hv, h.many, h.sp0, h.sp1⟩
theorem Good.kid {c : Code} {b : Body} {f : Frame} (h : Good c b f) {v d : Int} (hv : 1 ≤ v) (hd : dest d f.loc.length = true) : Good c b { f with kids := f.kids ++ [(v, d)], many := f.many + 1 } := by
  have hm := h.many
  refine ⟨h.task, h.fn0, h.fn1, h.body, h.pc0, h.pc1, h.loc, h.stack, ?_, ⟨h.vals.loc, h.vals.stack⟩, by simp only []; omega, h.sp0, h.sp1⟩
  intro k hk
  simp only [List.mem_append, List.mem_singleton] at hk
  rcases hk with hk | rfl
  · exact h.kids k hk
  · rw [okKid, ← h.loc, hd]; simp [hv]
theorem sync_vals : ∀ (l : List ((Int × Int) × Int)) (loc : List Int), loc.all isVal = true → (∀ p ∈ l, isVal p.2 = true) → (syncL loc l).all isVal = true
  | [], loc, h, _ => h
  | p :: l, loc, h, hp => by
    show (syncL (if 0 ≤ p.1.2 then loc.set p.1.2.toNat p.2 else loc) l).all isVal = true
    refine sync_vals l _ ?_ (fun q hq => hp q (by simp [hq]))
    split
    · exact all_set _ (hp p (by simp)) h
    · exact h
theorem Good.sync {c : Code} {b : Body} {f : Frame} (h : Good c b f) {vals : List Int} (hv : vals.all isVal = true) : Good c b { f with loc := syncL f.loc (f.kids.zip vals), kids := [] } := by
  refine ⟨h.task, h.fn0, h.fn1, h.body, h.pc0, h.pc1, by simp only [sync_len]; exact h.loc, h.stack, by simp, ⟨?_, h.vals.stack⟩, h.many, h.sp0, h.sp1⟩
  refine sync_vals _ _ h.vals.loc (fun p hp => ?_)
  exact List.all_eq_true.1 hv p.2 (List.of_mem_zip hp).2
theorem Good.dests {c : Code} {b : Body} {f : Frame} (h : Good c b f) : f.kids.all (destOk f) = true := by
  refine List.all_eq_true.2 (fun k hk => ?_)
  have := h.kids k hk
  rw [okKid, Bool.and_eq_true] at this
  rw [destOk, h.loc]; exact this.2

end Uw.Try

/- The document's Right (printed by printk.py). -/
set_option linter.unusedVariables false
namespace Uw.Try
open Go Uw Go.Proofs

set_option maxRecDepth 100000 in
set_option maxHeartbeats 1000000 in
theorem s20 (c : Code) (f : Frame) (h1 : f.loc.length < 1000) (h2 : f.kids.length < 1000) : Ret Try.prog 20 [codeD c, frameD f] (.bool (right c f)) := by
  by_cases a0 : f.task < 1
  case pos =>
    have e : right c f = false := by
      cases hr : right c f with
      | false => rfl
      | true =>
        have g := Good.of hr
        exfalso
        have := g.task; omega
    rw [e]
    refine Ret_by is20 rfl ?_
    refine WT_f (by simp; omega) ?_
    refine WT_t rfl ?_
    refine WT_f rfl ?_
    refine WT_t rfl ?_
    refine WT_f rfl ?_
    refine WT_t rfl ?_
    refine WT_f rfl ?_
    refine WT_t rfl ?_
    refine WT_f rfl ?_
    refine WT_t rfl ?_
    refine WT_f rfl ?_
    refine WT_t rfl ?_
    refine WT_t rfl ?_
    exact WT_ret rfl rfl rfl rfl rfl
  by_cases a1 : f.fn < 0
  case pos =>
    have e : right c f = false := by
      cases hr : right c f with
      | false => rfl
      | true =>
        have g := Good.of hr
        exfalso
        have := g.fn0; omega
    rw [e]
    refine Ret_by is20 rfl ?_
    refine WT_t (by simp; omega) ?_
    refine WT_f rfl ?_
    refine WT_f (by simp; omega) ?_
    refine WT_t rfl ?_
    refine WT_f rfl ?_
    refine WT_t rfl ?_
    refine WT_f rfl ?_
    refine WT_t rfl ?_
    refine WT_f rfl ?_
    refine WT_t rfl ?_
    refine WT_f rfl ?_
    refine WT_t rfl ?_
    refine WT_t rfl ?_
    exact WT_ret rfl rfl rfl rfl rfl
  by_cases a2 : (c.funs.length : Int) ≤ f.fn
  case pos =>
    have e : right c f = false := by
      cases hr : right c f with
      | false => rfl
      | true =>
        have g := Good.of hr
        exfalso
        have := g.fn1; omega
    rw [e]
    refine Ret_by is20 rfl ?_
    refine WT_t (by simp; omega) ?_
    refine WT_f rfl ?_
    refine WT_t (by simp; omega) ?_
    refine WT_f rfl ?_
    refine WT_f (by simp; omega) ?_
    refine WT_t rfl ?_
    refine WT_f rfl ?_
    refine WT_t rfl ?_
    refine WT_f rfl ?_
    refine WT_t rfl ?_
    refine WT_f rfl ?_
    refine WT_t rfl ?_
    refine WT_t rfl ?_
    exact WT_ret rfl rfl rfl rfl rfl
  by_cases a3 : f.many < 0
  case pos =>
    have e : right c f = false := by
      cases hr : right c f with
      | false => rfl
      | true =>
        have g := Good.of hr
        exfalso
        have := g.many; omega
    rw [e]
    refine Ret_by is20 rfl ?_
    refine WT_t (by simp; omega) ?_
    refine WT_f rfl ?_
    refine WT_t (by simp; omega) ?_
    refine WT_f rfl ?_
    refine WT_t (by simp; omega) ?_
    refine WT_f rfl ?_
    refine WT_f (by simp; omega) ?_
    refine WT_t rfl ?_
    refine WT_f rfl ?_
    refine WT_t rfl ?_
    refine WT_f rfl ?_
    refine WT_t rfl ?_
    refine WT_t rfl ?_
    exact WT_ret rfl rfl rfl rfl rfl
  by_cases a4 : f.spent < 0
  case pos =>
    have e : right c f = false := by
      cases hr : right c f with
      | false => rfl
      | true =>
        have g := Good.of hr
        exfalso
        have := g.sp0; omega
    rw [e]
    refine Ret_by is20 rfl ?_
    refine WT_t (by simp; omega) ?_
    refine WT_f rfl ?_
    refine WT_t (by simp; omega) ?_
    refine WT_f rfl ?_
    refine WT_t (by simp; omega) ?_
    refine WT_f rfl ?_
    refine WT_t (by simp; omega) ?_
    refine WT_f rfl ?_
    refine WT_f (by simp; omega) ?_
    refine WT_t rfl ?_
    refine WT_f rfl ?_
    refine WT_t rfl ?_
    refine WT_t rfl ?_
    exact WT_ret rfl rfl rfl rfl rfl
  by_cases a5 : 2000 < f.spent
  case pos =>
    have e : right c f = false := by
      cases hr : right c f with
      | false => rfl
      | true =>
        have g := Good.of hr
        exfalso
        have := g.sp1; omega
    rw [e]
    refine Ret_by is20 rfl ?_
    refine WT_t (by simp; omega) ?_
    refine WT_f rfl ?_
    refine WT_t (by simp; omega) ?_
    refine WT_f rfl ?_
    refine WT_t (by simp; omega) ?_
    refine WT_f rfl ?_
    refine WT_t (by simp; omega) ?_
    refine WT_f rfl ?_
    refine WT_t (by simp; omega) ?_
    refine WT_f rfl ?_
    refine WT_f (by simp; omega) ?_
    refine WT_t rfl ?_
    refine WT_t rfl ?_
    exact WT_ret rfl rfl rfl rfl rfl
  by_cases a6 : 100 < f.stack.length
  case pos =>
    have e : right c f = false := by
      cases hr : right c f with
      | false => rfl
      | true =>
        have g := Good.of hr
        exfalso
        have := g.stack; omega
    rw [e]
    refine Ret_by is20 rfl ?_
    refine WT_t (by simp; omega) ?_
    refine WT_f rfl ?_
    refine WT_t (by simp; omega) ?_
    refine WT_f rfl ?_
    refine WT_t (by simp; omega) ?_
    refine WT_f rfl ?_
    refine WT_t (by simp; omega) ?_
    refine WT_f rfl ?_
    refine WT_t (by simp; omega) ?_
    refine WT_f rfl ?_
    refine WT_t (by simp; omega) ?_
    refine WT_f rfl ?_
    refine WT_t (by simp; omega) ?_
    exact WT_ret rfl rfl rfl rfl rfl
  have hlt : f.fn.toNat < c.funs.length := by omega
  obtain ⟨b, hB⟩ : ∃ b, bodyAt c f = b := ⟨_, rfl⟩
  have hb : c.funs[f.fn.toNat] = b := by rw [← hB]; simp [bodyAt, hlt]
  by_cases b0 : f.pc < 0
  case pos =>
    have e : right c f = false := by
      cases hr : right c f with
      | false => rfl
      | true =>
        have g := Good.of hr
        exfalso
        have := g.pc0; omega
    rw [e]
    refine Ret_by is20 rfl ?_
    refine WT_t (by simp; omega) ?_
    refine WT_f rfl ?_
    refine WT_t (by simp; omega) ?_
    refine WT_f rfl ?_
    refine WT_t (by simp; omega) ?_
    refine WT_f rfl ?_
    refine WT_t (by simp; omega) ?_
    refine WT_f rfl ?_
    refine WT_t (by simp; omega) ?_
    refine WT_f rfl ?_
    refine WT_t (by simp; omega) ?_
    refine WT_f rfl ?_
    refine WT_f (by simp; omega) ?_
    refine WT_t (by simp; omega) ?_
    refine WT_elem (bodyD b) (by simp [hlt, hb]) ?_
    refine WT_f (by simp; omega) ?_
    refine WT_t rfl ?_
    refine WT_f rfl ?_
    refine WT_t rfl ?_
    refine WT_t rfl ?_
    exact WT_ret rfl rfl rfl rfl rfl
  by_cases b1 : (b.ins.length : Int) < f.pc
  case pos =>
    have e : right c f = false := by
      cases hr : right c f with
      | false => rfl
      | true =>
        have g := Good.of hr
        exfalso
        have := g.pc1; rw [hB] at this; omega
    rw [e]
    refine Ret_by is20 rfl ?_
    refine WT_t (by simp; omega) ?_
    refine WT_f rfl ?_
    refine WT_t (by simp; omega) ?_
    refine WT_f rfl ?_
    refine WT_t (by simp; omega) ?_
    refine WT_f rfl ?_
    refine WT_t (by simp; omega) ?_
    refine WT_f rfl ?_
    refine WT_t (by simp; omega) ?_
    refine WT_f rfl ?_
    refine WT_t (by simp; omega) ?_
    refine WT_f rfl ?_
    refine WT_f (by simp; omega) ?_
    refine WT_t (by simp; omega) ?_
    refine WT_elem (bodyD b) (by simp [hlt, hb]) ?_
    refine WT_t (by simp; omega) ?_
    refine WT_f rfl ?_
    refine WT_f (by simp; omega) ?_
    refine WT_t rfl ?_
    refine WT_t rfl ?_
    exact WT_ret rfl rfl rfl rfl rfl
  by_cases b2 : (f.loc.length : Int) = b.locals
  case neg =>
    have e : right c f = false := by
      cases hr : right c f with
      | false => rfl
      | true =>
        have g := Good.of hr
        exfalso
        have := g.loc; rw [hB] at this; exact b2 this
    rw [e]
    refine Ret_by is20 rfl ?_
    refine WT_t (by simp; omega) ?_
    refine WT_f rfl ?_
    refine WT_t (by simp; omega) ?_
    refine WT_f rfl ?_
    refine WT_t (by simp; omega) ?_
    refine WT_f rfl ?_
    refine WT_t (by simp; omega) ?_
    refine WT_f rfl ?_
    refine WT_t (by simp; omega) ?_
    refine WT_f rfl ?_
    refine WT_t (by simp; omega) ?_
    refine WT_f rfl ?_
    refine WT_f (by simp; omega) ?_
    refine WT_t (by simp; omega) ?_
    refine WT_elem (bodyD b) (by simp [hlt, hb]) ?_
    refine WT_t (by simp; omega) ?_
    refine WT_f rfl ?_
    refine WT_t (by simp; omega) ?_
    refine WT_f rfl ?_
    refine WT_t (by simp [b2]) ?_
    exact WT_ret rfl rfl rfl rfl rfl
  by_cases d0 : f.loc.all isVal = true
  case neg =>
    have e : right c f = false := by
      cases hr : right c f with
      | false => rfl
      | true =>
        have g := Good.of hr
        exfalso
        exact d0 g.vals.loc
    rw [e]
    refine Ret_by is20 rfl ?_
    refine WT_t (by simp; omega) ?_
    refine WT_f rfl ?_
    refine WT_t (by simp; omega) ?_
    refine WT_f rfl ?_
    refine WT_t (by simp; omega) ?_
    refine WT_f rfl ?_
    refine WT_t (by simp; omega) ?_
    refine WT_f rfl ?_
    refine WT_t (by simp; omega) ?_
    refine WT_f rfl ?_
    refine WT_t (by simp; omega) ?_
    refine WT_f rfl ?_
    refine WT_f (by simp; omega) ?_
    refine WT_t (by simp; omega) ?_
    refine WT_elem (bodyD b) (by simp [hlt, hb]) ?_
    refine WT_t (by simp; omega) ?_
    refine WT_f rfl ?_
    refine WT_t (by simp; omega) ?_
    refine WT_f rfl ?_
    refine WT_f (by simp [b2]) ?_
    refine WT_call _ (s28 _ (by omega)) ?_
    refine WT_call _ (s28 _ (by omega)) ?_
    refine WT_f (by simp at d0; simp [d0]) ?_
    refine WT_t rfl ?_
    refine WT_t rfl ?_
    exact WT_ret rfl rfl rfl rfl rfl
  by_cases d1 : f.stack.all isVal = true
  case neg =>
    have e : right c f = false := by
      cases hr : right c f with
      | false => rfl
      | true =>
        have g := Good.of hr
        exfalso
        exact d1 g.vals.stack
    rw [e]
    refine Ret_by is20 rfl ?_
    refine WT_t (by simp; omega) ?_
    refine WT_f rfl ?_
    refine WT_t (by simp; omega) ?_
    refine WT_f rfl ?_
    refine WT_t (by simp; omega) ?_
    refine WT_f rfl ?_
    refine WT_t (by simp; omega) ?_
    refine WT_f rfl ?_
    refine WT_t (by simp; omega) ?_
    refine WT_f rfl ?_
    refine WT_t (by simp; omega) ?_
    refine WT_f rfl ?_
    refine WT_f (by simp; omega) ?_
    refine WT_t (by simp; omega) ?_
    refine WT_elem (bodyD b) (by simp [hlt, hb]) ?_
    refine WT_t (by simp; omega) ?_
    refine WT_f rfl ?_
    refine WT_t (by simp; omega) ?_
    refine WT_f rfl ?_
    refine WT_f (by simp [b2]) ?_
    refine WT_call _ (s28 _ (by omega)) ?_
    refine WT_call _ (s28 _ (by omega)) ?_
    refine WT_t (by rw [d0]; rfl) ?_
    refine WT_f rfl ?_
    refine WT_t (by simp at d1; simp [d1]) ?_
    exact WT_ret rfl rfl rfl rfl rfl
  have eR : right c f = f.kids.all (okKid b.locals) := by
    have q1 : decide (f.task < 1) = false := by simp; omega
    have q2 : below f.fn c.funs.length = true := by simp [below]; omega
    have q3 : below f.pc (b.ins.length + 1) = true := by simp [below]; omega
    have q4 : decide ((f.loc.length : Int) = b.locals) = true := by simp [b2]
    have q5 : decide (100 < (f.stack.length : Int)) = false := by simp; omega
    have q7 : decide (0 ≤ f.many) = true := by simp; omega
    have q8 : below f.spent 2001 = true := by simp [below]; omega
    rw [right, hB, q1, q2, q3, q4, q5, d0, d1, q7, q8]; simp
  obtain ⟨R, hR⟩ : ∃ R, f.kids.all (okKid b.locals) = R := ⟨_, rfl⟩
  rw [eR, hR]
  refine Ret_by is20 rfl ?_
  refine WT_t (by simp; omega) ?_
  refine WT_f rfl ?_
  refine WT_t (by simp; omega) ?_
  refine WT_f rfl ?_
  refine WT_t (by simp; omega) ?_
  refine WT_f rfl ?_
  refine WT_t (by simp; omega) ?_
  refine WT_f rfl ?_
  refine WT_t (by simp; omega) ?_
  refine WT_f rfl ?_
  refine WT_t (by simp; omega) ?_
  refine WT_f rfl ?_
  refine WT_f (by simp; omega) ?_
  refine WT_t (by simp; omega) ?_
  refine WT_elem (bodyD b) (by simp [hlt, hb]) ?_
  refine WT_t (by simp; omega) ?_
  refine WT_f rfl ?_
  refine WT_t (by simp; omega) ?_
  refine WT_f rfl ?_
  refine WT_f (by simp [b2]) ?_
  refine WT_call _ (s28 _ (by omega)) ?_
  refine WT_call _ (s28 _ (by omega)) ?_
  refine WT_t (by rw [d0]; rfl) ?_
  refine WT_f rfl ?_
  refine WT_f (by rw [d1]; rfl) ?_
  refine WT_loop (fun k : Int => ⟨[(3, .ptr 1 0), (5, .ptr 2 0), (8, .d (I k))], [(1, .var (V.ofDat (frameD f)).cells), (2, .var (bV b))], 3, [], 0⟩)
    (fun k => 0 ≤ k ∧ k ≤ f.kids.length ∧ (f.kids.take k.toNat).all (okKid b.locals) = true) (fun k => (f.kids.length - k).toNat) 0 ?_ ⟨by omega, by omega, by simp⟩ ?_
  · exact Weak.eqs [] (by kernel_rfl) (by kernel_rfl) (by kernel_rfl) (by kernel_rfl) (by kernel_rfl) (by kernel_rfl) (by kernel_rfl) (by kernel_rfl) (by kernel_rfl) (by kernel_rfl)
  · rintro k ⟨g0, g1, hall⟩
    by_cases hk : k < f.kids.length
    · have k1 : k.toNat < f.kids.length := by omega
      have he : (f.kids.map kidD)[k.toNat]? = some (kidD f.kids[k.toNat]) := by rw [List.getElem?_map, List.getElem?_eq_getElem k1]; rfl
      refine WT_t (by simp; omega) ?_
      refine WT_t (by simp; omega) ?_
      refine WT_elem _ he ?_
      by_cases t1 : f.kids[k.toNat].1 < 1
      · refine WT_f (by simpa using t1) ?_
        refine WT_t rfl ?_
        refine WT_f rfl ?_
        refine WT_t rfl ?_
        refine WT_t rfl ?_
        refine WT_leave ?_
        refine WT_ret rfl rfl rfl rfl ?_
        rw [← hR, all_false_take _ f.kids k.toNat k1 (by simp [okKid]; omega)]; rfl
      refine WT_t (by simp; omega) ?_
      refine WT_t (by simp; omega) ?_
      refine WT_elem _ he ?_
      refine WT_f rfl ?_
      by_cases t2 : f.kids[k.toNat].2 < -1
      · refine WT_f (by simpa using t2) ?_
        refine WT_t rfl ?_
        refine WT_t rfl ?_
        refine WT_leave ?_
        refine WT_ret rfl rfl rfl rfl ?_
        rw [← hR, all_false_take _ f.kids k.toNat k1 (by simp [okKid, dest, below]; omega)]; rfl
      refine WT_t (by simp; omega) ?_
      refine WT_t (by simp; omega) ?_
      refine WT_elem _ he ?_
      refine WT_f rfl ?_
      by_cases t3 : b.locals ≤ f.kids[k.toNat].2
      · refine WT_t (by simpa using t3) ?_
        refine WT_leave ?_
        refine WT_ret rfl rfl rfl rfl ?_
        rw [← hR, all_false_take _ f.kids k.toNat k1 (by simp [okKid, dest, below]; omega)]; rfl
      refine WT_f (by simpa using t3) ?_
      refine WT_t (by simp [inR]; omega) ?_
      refine WT_again (k + 1) ⟨by omega, by omega, ?_⟩ (by omega) (Weak.eqs [] (by kernel_rfl) (by kernel_rfl) (by kernel_rfl) (by kernel_rfl) (by kernel_rfl) (by kernel_rfl) (by kernel_rfl) (by kernel_rfl) (by kernel_rfl) (by kernel_rfl))
      rw [show (k + 1).toNat = k.toNat + 1 by omega, all_take _ f.kids k.toNat k1, hall]; simp [okKid, dest, below]; omega
    · refine WT_f (by simp; omega) ?_
      refine WT_break ?_
      refine WT_ret rfl rfl rfl rfl ?_
      rw [List.take_of_length_le (by omega)] at hall
      rw [← hR, hall]; rfl

end Uw.Try

/- STAYS (printed by printl2.py). -/
set_option linter.unusedVariables false
set_option linter.unusedSimpArgs false
namespace Uw.Try
open Go Uw Go.Proofs

theorem small_tiny {c : Code} {f : Frame} (h : smallS c f = true) : Tiny c f ∧ f.loc.length ≤ 100 ∧ f.kids.length ≤ 60 ∧ f.path.length ≤ 60 := by
  simp only [smallS, Bool.and_eq_true, decide_eq_true_eq] at h
  obtain ⟨⟨⟨⟨⟨⟨h1, h2⟩, h3⟩, h4⟩, h5⟩, h6⟩, h7⟩ := h
  exact ⟨⟨by omega, by omega, fun b hb => by have := List.all_eq_true.1 h7 b hb; simp [smallB] at this; omega, by omega, by omega, by omega, by omega⟩, h3, h5, h6⟩

theorem kept_tiny {c : Code} {b : Body} {f g : Frame} {a : Ask} (h : Tiny c f) (k : Kept c b f g a) : Tiny c g := by
  have := k.good.stack
  exact ⟨h.funs, h.cells, h.ins, by rw [k.path]; exact h.path, by rw [k.loc]; exact h.loc, by omega, by rw [k.kids]; exact h.kids⟩

theorem t_put {f : Frame} {n b : Int} (hn : isVal n = true) (hs : f.stack.length < 100) (kd : Int) (hk : kd = 1 ∨ kd = 3) : toldS f kd b [n] = ({ f with stack := f.stack ++ [n] }, 0) := by
  have h : toldOk f kd b [n] = true := by rw [toldOk, if_pos hk]; simp [hn, hs]
  rw [toldS, if_pos h, toldF, if_pos hk]
theorem t_store {f : Frame} {b : Int} : toldS f 2 b [] = (f, 0) := rfl
theorem t_kid {f : Frame} {v d : Int} (hv : 1 ≤ v) (hd : dest d f.loc.length = true) : toldS f 4 d [v] = ({ f with kids := f.kids ++ [(v, d)], many := f.many + 1 }, 0) := by
  have h : toldOk f 4 d [v] = true := by
    show (decide (1 = 1) && decide (1 ≤ v) && dest d f.loc.length) = true
    rw [hd]; simp [hv]
  rw [toldS, if_pos h]; rfl
theorem t_sync {f : Frame} {vals : List Int} {b : Int} (hl : vals.length = f.kids.length) (hv : vals.all isVal = true) (hd : f.kids.all (destOk f) = true) : toldS f 5 b vals = ({ f with loc := syncL f.loc (f.kids.zip vals), kids := [] }, 0) := by
  have h : toldOk f 5 b vals = true := by
    show (decide (vals.length = f.kids.length) && vals.all isVal && f.kids.all (destOk f)) = true
    rw [hv, hd]; simp [hl]
  rw [toldS, if_pos h]; rfl

def syncVals (n : Int) (k : Nat) : List Int := (List.range k).map fun i : Nat => (n + (i : Int)).tmod 65536
theorem syncVals_succ (n : Int) (k : Nat) : syncVals n (k + 1) = syncVals n k ++ [(n + k).tmod 65536] := by simp [syncVals, List.range_succ]
theorem syncVals_len (n : Int) (k : Nat) : (syncVals n k).length = k := by simp [syncVals]
theorem syncVals_all (n : Int) (k : Nat) (hn : 0 ≤ n) : (syncVals n k).all isVal = true := by
  refine List.all_eq_true.2 (fun v hv => ?_)
  simp only [syncVals, List.mem_map] at hv
  obtain ⟨i, _, rfl⟩ := hv
  rw [Int.tmod_eq_emod_of_nonneg (by omega)]
  have h : 0 ≤ (n + i) % 65536 ∧ (n + i) % 65536 < 4294967296 := by omega
  simp [isVal, h]

set_option maxRecDepth 100000 in
set_option maxHeartbeats 2000000 in
theorem stays1 (c : Code) (f g : Frame) (n aa ab o1 o2 o3 o4 : Int) (ar : List Int) (hn : 0 ≤ n ∧ n < 4294967296) (hsm : smallS c f = true) (hr : right c f = true) (hx : nextS c f = .ok g ⟨1, aa, ab, (o1, o2, o3, o4), ar⟩) (k : Kept c (bodyAt c f) f g ⟨1, aa, ab, (o1, o2, o3, o4), ar⟩) : Ret Try.prog 4 [codeD c, frameD f, .int .u32 n] (.bool true) := by
  obtain ⟨ht, hl1, hl2, hl3⟩ := small_tiny hsm
  have hg := kept_tiny ht k
  have hN := s21 c f ht
  rw [hx] at hN
  have h20 := s20 c f (by omega) (by omega)
  rw [hr] at h20
  have h22 := s22 c g hg
  rw [k.good.right] at h22
  have q1 := k.le; have q2 := k.good.sp1; have q3 := k.good.stack; have q4 := k.good.many
  have q5 : g.loc.length ≤ 100 := by rw [k.loc]; exact hl1
  have q6 : g.kids.length ≤ 60 := by rw [k.kids]; exact hl2
  have q7 : g.path.length ≤ 60 := by rw [k.path]; exact hl3
  have q0 := k.lt (by show (1 : Int) ≠ 5; decide)
  have hv : isVal n = true := by simp [isVal]; omega
  have fin : g.stack.length < 100 → g.many ≤ 1000000 → Ret Try.prog 23 [frameD g, askD ⟨1, aa, ab, (o1, o2, o3, o4), ar⟩, ints [n]] (frErr ({ g with stack := g.stack ++ [n] }, 0)) ∧ Ret Try.prog 22 [codeD c, frameD { g with stack := g.stack ++ [n] }] (.bool true) := by
    intro c1 c2
    have h23 := s23a g ⟨1, aa, ab, (o1, o2, o3, o4), ar⟩ [n] ⟨by omega, by omega, by omega, by omega, by omega, by omega⟩ (by simp)
    rw [show toldS g 1 ab [n] = ({ g with stack := g.stack ++ [n] }, 0) from t_put hv (by omega) 1 (.inl rfl)] at h23
    have g2 : Good c (bodyAt c f) { g with stack := g.stack ++ [n] } := k.good.put hv (by omega)
    have h22' := s22 c { g with stack := g.stack ++ [n] } ⟨hg.funs, hg.cells, hg.ins, hg.path, hg.loc, by simp; omega, hg.kids⟩
    rw [g2.right] at h22'
    exact ⟨h23, h22'⟩
  refine Ret_by is4 rfl ?_
  refine WT_call _ s10 ?_
  refine WT_call _ (s11 c f) ?_
  refine WT_t (by rw [hsm]; rfl) ?_
  refine WT_call _ h20 ?_
  refine WT_f rfl ?_
  refine WT_f rfl ?_
  refine WT_call _ hN ?_
  refine WT_f rfl ?_
  refine WT_t rfl ?_
  refine WT_t rfl ?_
  refine WT_t (by simp [inR]; omega) ?_
  refine WT_call _ h22 ?_
  refine WT_t rfl ?_
  refine WT_f rfl ?_
  refine WT_t (by simp; omega) ?_
  refine WT_f rfl ?_
  refine WT_t (by simp; omega) ?_
  refine WT_t rfl ?_
  refine WT_t rfl ?_
  refine WT_t rfl ?_
  refine WT_f rfl ?_
  refine WT_t (by simp; omega) ?_
  refine WT_f rfl ?_
  refine WT_t rfl ?_
  refine WT_f rfl ?_
  refine WT_f rfl ?_
  refine WT_f rfl ?_
  refine WT_t rfl ?_
  refine WT_f rfl ?_
  by_cases c1 : g.stack.length < 100
  case neg =>
    refine WT_f (by simp; omega) ?_
    refine WT_t rfl ?_
    refine WT_t rfl ?_
    refine WT_t rfl ?_
    refine WT_t rfl ?_
    refine WT_ret rfl rfl rfl rfl ?_
    simp [packD, k.kids]
  refine WT_t (by simp; omega) ?_
  refine WT_f rfl ?_
  by_cases c2 : g.many ≤ 1000000
  case neg =>
    refine WT_t (by simp; omega) ?_
    refine WT_t rfl ?_
    refine WT_t rfl ?_
    refine WT_ret rfl rfl rfl rfl ?_
    simp [packD, k.kids]
  refine WT_f (by simp; omega) ?_
  refine WT_callL _ (fin c1 c2).1 (.cons (.refl _) (.cons (.refl _) (.cons (.slice (.refl _)) (.refl _)))) ?_
  repeat (refine WT_t rfl ?_)
  refine WT_call _ (fin c1 c2).2 ?_
  refine WT_t rfl ?_
  refine WT_t rfl ?_
  refine WT_t rfl ?_
  refine WT_t (by simp) ?_
  refine WT_t rfl ?_
  refine WT_ret rfl rfl rfl rfl ?_
  simp [packD]

set_option maxRecDepth 100000 in
set_option maxHeartbeats 2000000 in
theorem stays2 (c : Code) (f g : Frame) (n aa ab o1 o2 o3 o4 : Int) (ar : List Int) (hn : 0 ≤ n ∧ n < 4294967296) (hsm : smallS c f = true) (hr : right c f = true) (hx : nextS c f = .ok g ⟨2, aa, ab, (o1, o2, o3, o4), ar⟩) (k : Kept c (bodyAt c f) f g ⟨2, aa, ab, (o1, o2, o3, o4), ar⟩) : Ret Try.prog 4 [codeD c, frameD f, .int .u32 n] (.bool true) := by
  obtain ⟨ht, hl1, hl2, hl3⟩ := small_tiny hsm
  have hg := kept_tiny ht k
  have hN := s21 c f ht
  rw [hx] at hN
  have h20 := s20 c f (by omega) (by omega)
  rw [hr] at h20
  have h22 := s22 c g hg
  rw [k.good.right] at h22
  have q1 := k.le; have q2 := k.good.sp1; have q3 := k.good.stack; have q4 := k.good.many
  have q5 : g.loc.length ≤ 100 := by rw [k.loc]; exact hl1
  have q6 : g.kids.length ≤ 60 := by rw [k.kids]; exact hl2
  have q7 : g.path.length ≤ 60 := by rw [k.path]; exact hl3
  have q0 := k.lt (by show (2 : Int) ≠ 5; decide)
  have fin : g.stack.length < 100 → g.many ≤ 1000000 → Ret Try.prog 23 [frameD g, askD ⟨2, aa, ab, (o1, o2, o3, o4), ar⟩, ints []] (frErr (g, 0)) ∧ Ret Try.prog 22 [codeD c, frameD g] (.bool true) := by
    intro c1 c2
    have h23 := s23a g ⟨2, aa, ab, (o1, o2, o3, o4), ar⟩ [] ⟨by omega, by omega, by omega, by omega, by omega, by omega⟩ (by simp)
    rw [show toldS g 2 ab [] = (g, 0) from t_store] at h23
    have g2 : Good c (bodyAt c f) g := k.good
    have h22' := s22 c g hg
    rw [g2.right] at h22'
    exact ⟨h23, h22'⟩
  refine Ret_by is4 rfl ?_
  refine WT_call _ s10 ?_
  refine WT_call _ (s11 c f) ?_
  refine WT_t (by rw [hsm]; rfl) ?_
  refine WT_call _ h20 ?_
  refine WT_f rfl ?_
  refine WT_f rfl ?_
  refine WT_call _ hN ?_
  refine WT_f rfl ?_
  refine WT_f rfl ?_
  refine WT_f rfl ?_
  refine WT_f rfl ?_
  refine WT_f rfl ?_
  refine WT_call _ h22 ?_
  refine WT_t rfl ?_
  refine WT_f rfl ?_
  refine WT_t (by simp; omega) ?_
  refine WT_f rfl ?_
  refine WT_t (by simp; omega) ?_
  refine WT_t rfl ?_
  refine WT_t rfl ?_
  refine WT_t rfl ?_
  refine WT_f rfl ?_
  refine WT_t (by simp; omega) ?_
  refine WT_f rfl ?_
  refine WT_t rfl ?_
  refine WT_f rfl ?_
  refine WT_f rfl ?_
  refine WT_f rfl ?_
  refine WT_t rfl ?_
  refine WT_f rfl ?_
  by_cases c1 : g.stack.length < 100
  case neg =>
    refine WT_f (by simp; omega) ?_
    refine WT_t rfl ?_
    refine WT_t rfl ?_
    refine WT_t rfl ?_
    refine WT_t rfl ?_
    refine WT_ret rfl rfl rfl rfl ?_
    simp [packD, k.kids]
  refine WT_t (by simp; omega) ?_
  refine WT_f rfl ?_
  by_cases c2 : g.many ≤ 1000000
  case neg =>
    refine WT_t (by simp; omega) ?_
    refine WT_t rfl ?_
    refine WT_t rfl ?_
    refine WT_ret rfl rfl rfl rfl ?_
    simp [packD, k.kids]
  refine WT_f (by simp; omega) ?_
  refine WT_callL _ (fin c1 c2).1 (.cons (.refl _) (.cons (.refl _) (.cons (.nil _) (.refl _)))) ?_
  repeat (refine WT_t rfl ?_)
  refine WT_call _ (fin c1 c2).2 ?_
  refine WT_t rfl ?_
  refine WT_t rfl ?_
  refine WT_t rfl ?_
  refine WT_t (by simp) ?_
  refine WT_t rfl ?_
  refine WT_ret rfl rfl rfl rfl ?_
  simp [packD]

set_option maxRecDepth 100000 in
set_option maxHeartbeats 2000000 in
theorem stays3 (c : Code) (f g : Frame) (n aa ab o1 o2 o3 o4 : Int) (ar : List Int) (hn : 0 ≤ n ∧ n < 4294967296) (hsm : smallS c f = true) (hr : right c f = true) (hx : nextS c f = .ok g ⟨3, aa, ab, (o1, o2, o3, o4), ar⟩) (k : Kept c (bodyAt c f) f g ⟨3, aa, ab, (o1, o2, o3, o4), ar⟩) : Ret Try.prog 4 [codeD c, frameD f, .int .u32 n] (.bool true) := by
  obtain ⟨ht, hl1, hl2, hl3⟩ := small_tiny hsm
  have hg := kept_tiny ht k
  have hN := s21 c f ht
  rw [hx] at hN
  have h20 := s20 c f (by omega) (by omega)
  rw [hr] at h20
  have h22 := s22 c g hg
  rw [k.good.right] at h22
  have q1 := k.le; have q2 := k.good.sp1; have q3 := k.good.stack; have q4 := k.good.many
  have q5 : g.loc.length ≤ 100 := by rw [k.loc]; exact hl1
  have q6 : g.kids.length ≤ 60 := by rw [k.kids]; exact hl2
  have q7 : g.path.length ≤ 60 := by rw [k.path]; exact hl3
  have q0 := k.lt (by show (3 : Int) ≠ 5; decide)
  have hv : isVal n = true := by simp [isVal]; omega
  have fin : g.stack.length < 100 → g.many ≤ 1000000 → Ret Try.prog 23 [frameD g, askD ⟨3, aa, ab, (o1, o2, o3, o4), ar⟩, ints [n]] (frErr ({ g with stack := g.stack ++ [n] }, 0)) ∧ Ret Try.prog 22 [codeD c, frameD { g with stack := g.stack ++ [n] }] (.bool true) := by
    intro c1 c2
    have h23 := s23a g ⟨3, aa, ab, (o1, o2, o3, o4), ar⟩ [n] ⟨by omega, by omega, by omega, by omega, by omega, by omega⟩ (by simp)
    rw [show toldS g 3 ab [n] = ({ g with stack := g.stack ++ [n] }, 0) from t_put hv (by omega) 3 (.inr rfl)] at h23
    have g2 : Good c (bodyAt c f) { g with stack := g.stack ++ [n] } := k.good.put hv (by omega)
    have h22' := s22 c { g with stack := g.stack ++ [n] } ⟨hg.funs, hg.cells, hg.ins, hg.path, hg.loc, by simp; omega, hg.kids⟩
    rw [g2.right] at h22'
    exact ⟨h23, h22'⟩
  refine Ret_by is4 rfl ?_
  refine WT_call _ s10 ?_
  refine WT_call _ (s11 c f) ?_
  refine WT_t (by rw [hsm]; rfl) ?_
  refine WT_call _ h20 ?_
  refine WT_f rfl ?_
  refine WT_f rfl ?_
  refine WT_call _ hN ?_
  refine WT_f rfl ?_
  refine WT_f rfl ?_
  refine WT_t rfl ?_
  refine WT_t (by simp [inR]; omega) ?_
  refine WT_call _ h22 ?_
  refine WT_t rfl ?_
  refine WT_f rfl ?_
  refine WT_t (by simp; omega) ?_
  refine WT_f rfl ?_
  refine WT_t (by simp; omega) ?_
  refine WT_t rfl ?_
  refine WT_t rfl ?_
  refine WT_t rfl ?_
  refine WT_f rfl ?_
  refine WT_t (by simp; omega) ?_
  refine WT_f rfl ?_
  refine WT_t rfl ?_
  refine WT_f rfl ?_
  refine WT_f rfl ?_
  refine WT_f rfl ?_
  refine WT_t rfl ?_
  refine WT_f rfl ?_
  by_cases c1 : g.stack.length < 100
  case neg =>
    refine WT_f (by simp; omega) ?_
    refine WT_t rfl ?_
    refine WT_t rfl ?_
    refine WT_t rfl ?_
    refine WT_t rfl ?_
    refine WT_ret rfl rfl rfl rfl ?_
    simp [packD, k.kids]
  refine WT_t (by simp; omega) ?_
  refine WT_f rfl ?_
  by_cases c2 : g.many ≤ 1000000
  case neg =>
    refine WT_t (by simp; omega) ?_
    refine WT_t rfl ?_
    refine WT_t rfl ?_
    refine WT_ret rfl rfl rfl rfl ?_
    simp [packD, k.kids]
  refine WT_f (by simp; omega) ?_
  refine WT_callL _ (fin c1 c2).1 (.cons (.refl _) (.cons (.refl _) (.cons (.slice (.refl _)) (.refl _)))) ?_
  repeat (refine WT_t rfl ?_)
  refine WT_call _ (fin c1 c2).2 ?_
  refine WT_t rfl ?_
  refine WT_t rfl ?_
  refine WT_t rfl ?_
  refine WT_t (by simp) ?_
  refine WT_t rfl ?_
  refine WT_ret rfl rfl rfl rfl ?_
  simp [packD]

set_option maxRecDepth 100000 in
set_option maxHeartbeats 2000000 in
theorem stays4 (c : Code) (f g : Frame) (n aa ab o1 o2 o3 o4 : Int) (ar : List Int) (hn : 0 ≤ n ∧ n < 4294967296) (hsm : smallS c f = true) (hr : right c f = true) (hx : nextS c f = .ok g ⟨4, aa, ab, (o1, o2, o3, o4), ar⟩) (k : Kept c (bodyAt c f) f g ⟨4, aa, ab, (o1, o2, o3, o4), ar⟩) : Ret Try.prog 4 [codeD c, frameD f, .int .u32 n] (.bool true) := by
  obtain ⟨ht, hl1, hl2, hl3⟩ := small_tiny hsm
  have hg := kept_tiny ht k
  have hN := s21 c f ht
  rw [hx] at hN
  have h20 := s20 c f (by omega) (by omega)
  rw [hr] at h20
  have h22 := s22 c g hg
  rw [k.good.right] at h22
  have q1 := k.le; have q2 := k.good.sp1; have q3 := k.good.stack; have q4 := k.good.many
  have q5 : g.loc.length ≤ 100 := by rw [k.loc]; exact hl1
  have q6 : g.kids.length ≤ 60 := by rw [k.kids]; exact hl2
  have q7 : g.path.length ≤ 60 := by rw [k.path]; exact hl3
  have q0 := k.lt (by show (4 : Int) ≠ 5; decide)
  have hm : 0 ≤ n.tmod 60 ∧ n.tmod 60 < 60 := by rw [Int.tmod_eq_emod_of_nonneg hn.1]; omega
  have hd : dest ab g.loc.length = true := k.k4 rfl
  have fin : g.stack.length < 100 → g.many ≤ 1000000 → Ret Try.prog 23 [frameD g, askD ⟨4, aa, ab, (o1, o2, o3, o4), ar⟩, ints [1 + n.tmod 60]] (frErr ({ g with kids := g.kids ++ [(1 + n.tmod 60, ab)], many := g.many + 1 }, 0)) ∧ Ret Try.prog 22 [codeD c, frameD { g with kids := g.kids ++ [(1 + n.tmod 60, ab)], many := g.many + 1 }] (.bool true) := by
    intro c1 c2
    have h23 := s23a g ⟨4, aa, ab, (o1, o2, o3, o4), ar⟩ [1 + n.tmod 60] ⟨by omega, by omega, by omega, by omega, by omega, by omega⟩ (by simp)
    rw [show toldS g 4 ab [1 + n.tmod 60] = ({ g with kids := g.kids ++ [(1 + n.tmod 60, ab)], many := g.many + 1 }, 0) from t_kid (by omega) hd] at h23
    have g2 : Good c (bodyAt c f) { g with kids := g.kids ++ [(1 + n.tmod 60, ab)], many := g.many + 1 } := k.good.kid (by omega) hd
    have h22' := s22 c { g with kids := g.kids ++ [(1 + n.tmod 60, ab)], many := g.many + 1 } ⟨hg.funs, hg.cells, hg.ins, hg.path, hg.loc, hg.stack, by simp; omega⟩
    rw [g2.right] at h22'
    exact ⟨h23, h22'⟩
  refine Ret_by is4 rfl ?_
  refine WT_call _ s10 ?_
  refine WT_call _ (s11 c f) ?_
  refine WT_t (by rw [hsm]; rfl) ?_
  refine WT_call _ h20 ?_
  refine WT_f rfl ?_
  refine WT_f rfl ?_
  refine WT_call _ hN ?_
  refine WT_f rfl ?_
  refine WT_f rfl ?_
  refine WT_f rfl ?_
  refine WT_t rfl ?_
  refine WT_t (by simp [inR]; omega) ?_
  refine WT_f rfl ?_
  refine WT_t (by simp [inR]; omega) ?_
  refine WT_call _ h22 ?_
  refine WT_t rfl ?_
  refine WT_f rfl ?_
  refine WT_t (by simp; omega) ?_
  refine WT_f rfl ?_
  refine WT_t (by simp; omega) ?_
  refine WT_t rfl ?_
  refine WT_t rfl ?_
  refine WT_t rfl ?_
  refine WT_f rfl ?_
  refine WT_t (by simp; omega) ?_
  refine WT_f rfl ?_
  refine WT_t rfl ?_
  refine WT_f rfl ?_
  refine WT_f rfl ?_
  refine WT_f rfl ?_
  refine WT_t rfl ?_
  refine WT_f rfl ?_
  by_cases c1 : g.stack.length < 100
  case neg =>
    refine WT_f (by simp; omega) ?_
    refine WT_t rfl ?_
    refine WT_t rfl ?_
    refine WT_t rfl ?_
    refine WT_t rfl ?_
    refine WT_ret rfl rfl rfl rfl ?_
    simp [packD, k.kids]
  refine WT_t (by simp; omega) ?_
  refine WT_f rfl ?_
  by_cases c2 : g.many ≤ 1000000
  case neg =>
    refine WT_t (by simp; omega) ?_
    refine WT_t rfl ?_
    refine WT_t rfl ?_
    refine WT_ret rfl rfl rfl rfl ?_
    simp [packD, k.kids]
  refine WT_f (by simp; omega) ?_
  refine WT_callL _ (fin c1 c2).1 (.cons (.refl _) (.cons (.refl _) (.cons (.slice (.refl _)) (.refl _)))) ?_
  repeat (refine WT_t rfl ?_)
  refine WT_call _ (fin c1 c2).2 ?_
  refine WT_t rfl ?_
  refine WT_t rfl ?_
  refine WT_t rfl ?_
  refine WT_t (by simp) ?_
  refine WT_t rfl ?_
  refine WT_ret rfl rfl rfl rfl ?_
  simp [packD]

set_option maxRecDepth 100000 in
set_option maxHeartbeats 2000000 in
theorem stays5 (c : Code) (f g : Frame) (n aa ab o1 o2 o3 o4 : Int) (ar : List Int) (hn : 0 ≤ n ∧ n < 4294967296) (hsm : smallS c f = true) (hr : right c f = true) (hx : nextS c f = .ok g ⟨5, aa, ab, (o1, o2, o3, o4), ar⟩) (k : Kept c (bodyAt c f) f g ⟨5, aa, ab, (o1, o2, o3, o4), ar⟩) : Ret Try.prog 4 [codeD c, frameD f, .int .u32 n] (.bool true) := by
  obtain ⟨ht, hl1, hl2, hl3⟩ := small_tiny hsm
  have hg := kept_tiny ht k
  have hN := s21 c f ht
  rw [hx] at hN
  have h20 := s20 c f (by omega) (by omega)
  rw [hr] at h20
  have h22 := s22 c g hg
  rw [k.good.right] at h22
  have q1 := k.le; have q2 := k.good.sp1; have q3 := k.good.stack; have q4 := k.good.many
  have q5 : g.loc.length ≤ 100 := by rw [k.loc]; exact hl1
  have q6 : g.kids.length ≤ 60 := by rw [k.kids]; exact hl2
  have q7 : g.path.length ≤ 60 := by rw [k.path]; exact hl3
  have q0 : g.kids ≠ [] := k.wait rfl
  have q0' : g.kids.length ≠ 0 := fun h => q0 (List.eq_nil_of_length_eq_zero h)
  have fin : g.stack.length < 100 → g.many ≤ 1000000 → Ret Try.prog 23 [frameD g, askD ⟨5, aa, ab, (o1, o2, o3, o4), ar⟩, ints (syncVals n g.kids.length)] (frErr ({ g with loc := syncL g.loc (g.kids.zip (syncVals n g.kids.length)), kids := [] }, 0)) ∧ Ret Try.prog 22 [codeD c, frameD { g with loc := syncL g.loc (g.kids.zip (syncVals n g.kids.length)), kids := [] }] (.bool true) := by
    intro c1 c2
    have h23 := s23a g ⟨5, aa, ab, (o1, o2, o3, o4), ar⟩ (syncVals n g.kids.length) ⟨by omega, by omega, by omega, by omega, by omega, by omega⟩ (by rw [syncVals_len]; omega)
    rw [show toldS g 5 ab (syncVals n g.kids.length) = ({ g with loc := syncL g.loc (g.kids.zip (syncVals n g.kids.length)), kids := [] }, 0) from t_sync (syncVals_len _ _) (syncVals_all _ _ hn.1) k.good.dests] at h23
    have g2 : Good c (bodyAt c f) { g with loc := syncL g.loc (g.kids.zip (syncVals n g.kids.length)), kids := [] } := k.good.sync (syncVals_all _ _ hn.1)
    have h22' := s22 c { g with loc := syncL g.loc (g.kids.zip (syncVals n g.kids.length)), kids := [] } ⟨hg.funs, hg.cells, hg.ins, hg.path, by simp only [sync_len]; exact hg.loc, hg.stack, by simp⟩
    rw [g2.right] at h22'
    exact ⟨h23, h22'⟩
  refine Ret_by is4 rfl ?_
  refine WT_call _ s10 ?_
  refine WT_call _ (s11 c f) ?_
  refine WT_t (by rw [hsm]; rfl) ?_
  refine WT_call _ h20 ?_
  refine WT_f rfl ?_
  refine WT_f rfl ?_
  refine WT_call _ hN ?_
  refine WT_f rfl ?_
  refine WT_f rfl ?_
  refine WT_f rfl ?_
  refine WT_f rfl ?_
  refine WT_t rfl ?_
  refine WT_loop (fun x : Int × List (List Dat) × Nat => ⟨[(2, .d (.int .u32 n)), (3, .ptr 0 0), (4, .ptr 1 0), (7, .d (.bool true)), (8, .ptr 2 0), (9, .ptr 3 0), (11, .ref 4 0 0 x.2.2), (12, .d (I x.1))], [(0, .var (V.ofDat (codeD c)).cells), (1, .var (V.ofDat (frameD f)).cells), (2, .var (V.ofDat (frameD g)).cells), (3, .var (V.ofDat (askD ⟨5, aa, ab, (o1, o2, o3, o4), ar⟩)).cells), (4, .arr 1 x.2.1)], 5, [], 0⟩)
    (fun x => 0 ≤ x.1 ∧ x.1 ≤ g.kids.length ∧ x.2.1 = rows (syncVals n x.1.toNat) ∧ x.2.2 = x.1.toNat) (fun x => (g.kids.length - x.1).toNat) (0, [], 0) ?_ ⟨by simp, by simp, by simp [syncVals, rows], by simp⟩ ?_
  · exact Weak.of ⟨⟨_, rfl, .inl ⟨rfl, rfl⟩⟩, ⟨_, rfl, .inl ⟨rfl, rfl⟩⟩, ⟨_, rfl, .inl ⟨rfl, rfl⟩⟩, ⟨_, rfl, .inl ⟨rfl, rfl⟩⟩, ⟨_, rfl, .inl ⟨rfl, rfl⟩⟩, ⟨_, rfl, .inl ⟨rfl, rfl⟩⟩, ⟨_, rfl, .inr (.inl ⟨rfl, 4, 1, rfl, rfl, .inl rfl⟩)⟩, ⟨_, rfl, .inl ⟨rfl, rfl⟩⟩, trivial⟩ ⟨⟨.inl ⟨_, rfl, BSim_ren (b := .var (V.ofDat (codeD c)).cells) rfl⟩, rfl⟩, ⟨.inl ⟨_, rfl, BSim_ren (b := .var (V.ofDat (frameD f)).cells) rfl⟩, rfl⟩, ⟨.inl ⟨_, rfl, BSim_ren (b := .var (V.ofDat (frameD g)).cells) rfl⟩, rfl⟩, ⟨.inl ⟨_, rfl, BSim_ren (b := .var (V.ofDat (askD ⟨5, aa, ab, (o1, o2, o3, o4), ar⟩)).cells) rfl⟩, rfl⟩, ⟨.inr ⟨rfl, rfl⟩, rfl⟩, trivial⟩ rfl rfl trivial rfl rfl
  · rintro ⟨i, xs, m⟩ ⟨g0, g1, g2, g3⟩
    simp only at g0 g1 g2 g3
    have hxl : xs.length = m := by rw [g2, g3]; simp [rows, syncVals_len]
    by_cases hi : i < g.kids.length
    · refine WT_t (by simp; omega) ?_
      refine WT_t (by simp [inR]; omega) ?_
      refine WT_t (by simp [inR]; omega) ?_
      refine WT_f rfl ?_
      refine WT_t (by simp; omega) ?_
      refine WT_t (by simp [inR]; omega) ?_
      refine WT_again (i + 1, xs ++ [[I ((n + i).tmod 65536)]], m + 1) ⟨by simp only []; omega, by simp only []; omega, ?_, by simp only []; omega⟩ (by simp only []; omega) (Weak.eqs [] (by kernel_rfl) (by kernel_rfl) (by kernel_rfl) (by kernel_rfl) (by kernel_rfl) (by kernel_rfl) (by kernel_rfl) (by kernel_rfl) (by kernel_rfl) (by kernel_rfl))
      simp only []
      rw [show (i + 1).toNat = i.toNat + 1 by omega, syncVals_succ, g2, show ((i.toNat : Nat) : Int) = i by omega]
      simp [rows]
    · have hin : i.toNat = g.kids.length := by omega
      have fin : g.stack.length < 100 → g.many ≤ 1000000 → Ret Try.prog 23 [frameD g, askD ⟨5, aa, ab, (o1, o2, o3, o4), ar⟩, .slice 1 ((xs.drop 0).take m) false] (frErr ({ g with loc := syncL g.loc (g.kids.zip (syncVals n g.kids.length)), kids := [] }, 0)) ∧ Ret Try.prog 22 [codeD c, frameD { g with loc := syncL g.loc (g.kids.zip (syncVals n g.kids.length)), kids := [] }] (.bool true) := by
        intro c1 c2
        have e : (xs.drop 0).take m = rows (syncVals n g.kids.length) := by rw [List.drop_zero, List.take_of_length_le (by omega), g2, hin]
        rw [e]; exact fin c1 c2
      refine WT_f (by simp; omega) ?_
      refine WT_break ?_
      refine WT_call _ h22 ?_
      refine WT_t rfl ?_
      refine WT_f rfl ?_
      refine WT_t (by simp; omega) ?_
      refine WT_f rfl ?_
      refine WT_t (by simp; omega) ?_
      refine WT_f rfl ?_
      refine WT_t rfl ?_
      refine WT_f rfl ?_
      refine WT_f rfl ?_
      refine WT_t rfl ?_
      refine WT_t rfl ?_
      refine WT_t rfl ?_
      refine WT_t rfl ?_
      refine WT_f rfl ?_
      refine WT_f (by simp [q0]) ?_
      refine WT_t rfl ?_
      refine WT_f rfl ?_
      by_cases c1 : g.stack.length < 100
      case neg =>
        refine WT_f (by simp; omega) ?_
        refine WT_t rfl ?_
        refine WT_t rfl ?_
        refine WT_t rfl ?_
        refine WT_t rfl ?_
        refine WT_ret rfl rfl rfl rfl ?_
        simp [packD, k.kids]
      refine WT_t (by simp; omega) ?_
      refine WT_f rfl ?_
      by_cases c2 : g.many ≤ 1000000
      case neg =>
        refine WT_t (by simp; omega) ?_
        refine WT_t rfl ?_
        refine WT_t rfl ?_
        refine WT_ret rfl rfl rfl rfl ?_
        simp [packD, k.kids]
      refine WT_f (by simp; omega) ?_
      refine WT_call _ (fin c1 c2).1 ?_
      repeat (refine WT_t rfl ?_)
      refine WT_call _ (fin c1 c2).2 ?_
      refine WT_t rfl ?_
      refine WT_t rfl ?_
      refine WT_t rfl ?_
      refine WT_t (by simp) ?_
      refine WT_t rfl ?_
      refine WT_ret rfl rfl rfl rfl ?_
      simp [packD]

set_option maxRecDepth 100000 in
set_option maxHeartbeats 2000000 in
theorem stays6 (c : Code) (f g : Frame) (n aa ab o1 o2 o3 o4 : Int) (ar : List Int) (hn : 0 ≤ n ∧ n < 4294967296) (hsm : smallS c f = true) (hr : right c f = true) (hx : nextS c f = .ok g ⟨6, aa, ab, (o1, o2, o3, o4), ar⟩) (k : Kept c (bodyAt c f) f g ⟨6, aa, ab, (o1, o2, o3, o4), ar⟩) : Ret Try.prog 4 [codeD c, frameD f, .int .u32 n] (.bool true) := by
  obtain ⟨ht, hl1, hl2, hl3⟩ := small_tiny hsm
  have hg := kept_tiny ht k
  have hN := s21 c f ht
  rw [hx] at hN
  have h20 := s20 c f (by omega) (by omega)
  rw [hr] at h20
  have h22 := s22 c g hg
  rw [k.good.right] at h22
  have q1 := k.le; have q2 := k.good.sp1; have q3 := k.good.stack; have q4 := k.good.many
  have q5 : g.loc.length ≤ 100 := by rw [k.loc]; exact hl1
  have q6 : g.kids.length ≤ 60 := by rw [k.kids]; exact hl2
  have q7 : g.path.length ≤ 60 := by rw [k.path]; exact hl3
  have q0 := k.lt (by show (6 : Int) ≠ 5; decide)
  refine Ret_by is4 rfl ?_
  refine WT_call _ s10 ?_
  refine WT_call _ (s11 c f) ?_
  refine WT_t (by rw [hsm]; rfl) ?_
  refine WT_call _ h20 ?_
  refine WT_f rfl ?_
  refine WT_f rfl ?_
  refine WT_call _ hN ?_
  refine WT_f rfl ?_
  refine WT_f rfl ?_
  refine WT_f rfl ?_
  refine WT_f rfl ?_
  refine WT_f rfl ?_
  refine WT_call _ h22 ?_
  refine WT_t rfl ?_
  refine WT_f rfl ?_
  refine WT_t (by simp; omega) ?_
  refine WT_f rfl ?_
  refine WT_t (by simp; omega) ?_
  refine WT_t rfl ?_
  refine WT_t rfl ?_
  refine WT_t rfl ?_
  refine WT_f rfl ?_
  refine WT_t (by simp; omega) ?_
  refine WT_f rfl ?_
  refine WT_t rfl ?_
  refine WT_f rfl ?_
  refine WT_f rfl ?_
  refine WT_f rfl ?_
  refine WT_f rfl ?_
  refine WT_t rfl ?_
  refine WT_f rfl ?_
  refine WT_t rfl ?_
  refine WT_t rfl ?_
  refine WT_t rfl ?_
  refine WT_t rfl ?_
  refine WT_ret rfl rfl rfl rfl ?_
  simp [packD, k.kids]

set_option maxRecDepth 100000 in
set_option maxHeartbeats 1000000 in
theorem l4 (c : Code) (f : Frame) (n : Int) (hn : 0 ≤ n ∧ n < 4294967296) : Ret Try.prog 4 [codeD c, frameD f, .int .u32 n] (.bool true) := by
  by_cases hsm : smallS c f = true
  case neg =>
    refine Ret_by is4 rfl ?_
    refine WT_call _ s10 ?_
    refine WT_call _ (s11 c f) ?_
    refine WT_f (by simp at hsm; simp [hsm]) ?_
    refine WT_t rfl ?_
    refine WT_t rfl ?_
    exact WT_ret rfl rfl rfl rfl rfl
  obtain ⟨ht, hl1, hl2, hl3⟩ := small_tiny hsm
  have h20 := s20 c f (by omega) (by omega)
  by_cases hr : right c f = true
  case neg =>
    have hr' : right c f = false := by simpa using hr
    rw [hr'] at h20
    refine Ret_by is4 rfl ?_
    refine WT_call _ s10 ?_
    refine WT_call _ (s11 c f) ?_
    refine WT_t (by rw [hsm]; rfl) ?_
    refine WT_call _ h20 ?_
    refine WT_f rfl ?_
    refine WT_t rfl ?_
    exact WT_ret rfl rfl rfl rfl rfl
  rcases next_good hr with ⟨e, hx, he⟩ | ⟨g, a, hx, k⟩
  · rw [hr] at h20
    have hN := s21 c f ht
    rw [hx] at hN
    have h15 := s15 f f ht.path ht.loc ht.stack ht.kids
    rw [sameS_self] at h15
    rcases he with rfl | rfl
    · refine Ret_by is4 rfl ?_
      refine WT_call _ s10 ?_
      refine WT_call _ (s11 c f) ?_
      refine WT_t (by rw [hsm]; rfl) ?_
      refine WT_call _ h20 ?_
      refine WT_f rfl ?_
      refine WT_f rfl ?_
      refine WT_call _ hN ?_
      refine WT_t rfl ?_
      refine WT_t rfl ?_
      refine WT_call _ h15 ?_
      repeat (first | refine WT_t rfl ?_ | refine WT_f rfl ?_)
      exact WT_ret rfl rfl rfl rfl rfl
    · refine Ret_by is4 rfl ?_
      refine WT_call _ s10 ?_
      refine WT_call _ (s11 c f) ?_
      refine WT_t (by rw [hsm]; rfl) ?_
      refine WT_call _ h20 ?_
      refine WT_f rfl ?_
      refine WT_f rfl ?_
      refine WT_call _ hN ?_
      refine WT_t rfl ?_
      refine WT_t rfl ?_
      refine WT_call _ h15 ?_
      repeat (first | refine WT_t rfl ?_ | refine WT_f rfl ?_)
      exact WT_ret rfl rfl rfl rfl rfl
  · obtain ⟨kd, aa, ab, ⟨o1, o2, o3, o4⟩, ar⟩ := a
    have k1 := k.k1; have k6 := k.k6
    simp only at k1 k6
    have hkd : kd = 1 ∨ kd = 2 ∨ kd = 3 ∨ kd = 4 ∨ kd = 5 ∨ kd = 6 := by omega
    rcases hkd with rfl | rfl | rfl | rfl | rfl | rfl
    · exact stays1 c f g n aa ab o1 o2 o3 o4 ar hn hsm hr hx k
    · exact stays2 c f g n aa ab o1 o2 o3 o4 ar hn hsm hr hx k
    · exact stays3 c f g n aa ab o1 o2 o3 o4 ar hn hsm hr hx k
    · exact stays4 c f g n aa ab o1 o2 o3 o4 ar hn hsm hr hx k
    · exact stays5 c f g n aa ab o1 o2 o3 o4 ar hn hsm hr hx k
    · exact stays6 c f g n aa ab o1 o2 o3 o4 ar hn hsm hr hx k

end Uw.Try
