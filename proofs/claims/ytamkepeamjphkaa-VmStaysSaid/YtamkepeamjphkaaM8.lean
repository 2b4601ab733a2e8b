/- M8: Vu Vv Vw Vx Vy (merged by merge.py from the working texts). -/
import Derived.Test.YtamkepeamjphkaaM7
import Derived.Test.YtamkepeamjphkaaM4
set_option linter.unusedSimpArgs false
set_option linter.unnecessarySimpa false
set_option linter.unusedVariables false

/- Start, Child, Value, plain, and Same. -/
set_option linter.unusedVariables false
namespace Uw.Try
open Go Uw Go.Proofs

def zF : Frame := ⟨0, [], 0, 0, [], [], [], 0, 0, false⟩
def funAt (c : Code) (fn : Int) : Body := c.funs.getD fn.toNat ⟨0, 0, []⟩
def startOk (c : Code) (fn : Int) (args : List Int) (task : Int) : Bool :=
  below fn c.funs.length && !decide (task < 1) && args.all isVal && decide ((funAt c fn).args = args.length) && !decide ((funAt c fn).locals < (funAt c fn).args)
def startF (c : Code) (fn : Int) (args : List Int) (task : Int) (path : List Int) : Frame :=
  ⟨task, path, fn, 0, args ++ List.replicate ((funAt c fn).locals.toNat - args.length) 0, [], [], 0, 0, false⟩
def startS (c : Code) (fn : Int) (args : List Int) (task : Int) (path : List Int) : Frame × Int :=
  if startOk c fn args task then (startF c fn args task path, 0) else (zF, 1)
def frErr (p : Frame × Int) : Dat := .tuple [frameD p.1, I p.2]

theorem place_rep {α : Type} (z : α) : ∀ (l : List α) (n : Nat), l.length ≤ n → place (List.replicate n z) 0 l = l ++ List.replicate (n - l.length) z
  | [], n, _ => by cases n <;> simp [place]
  | x :: l, 0, h => by simp at h
  | x :: l, n + 1, h => by
    simp at h
    rw [List.replicate_succ, place, place_rep z l n h]
    simp

theorem ownD (f : Frame) (k m : Nat) (hk : k = f.path.length) (hm : m = f.loc.length) : Dat.agg [I f.task, .slice 1 (((rows f.path).drop 0).take k) false, I f.fn, I f.pc, .slice 1 (((rows f.loc).drop 0).take m) false, .slice 1 (rows f.stack) false, .slice 2 (krows f.kids) false, I f.many, I f.spent, .bool f.fail] = frameD f := by
  subst hk hm
  rw [List.drop_zero, List.take_of_length_le (by simp [rows]), List.drop_zero, List.take_of_length_le (by simp [rows])]
  rfl

set_option maxRecDepth 100000 in
set_option maxHeartbeats 1000000 in
theorem s12 (c : Code) (fn : Int) (args : List Int) (task : Int) (path : List Int) (h1 : c.funs.length < 1000) (h2 : ∀ b ∈ c.funs, b.locals < 1000) (h3 : args.length < 1000) (h4 : path.length < 1000) :
    Ret Try.prog 12 [codeD c, I fn, ints args, I task, ints path] (frErr (startS c fn args task path)) := by
  have hz : DLe (.tuple [.agg [I 0, .nil, I 0, I 0, .nil, .nil, .nil, I 0, I 0, .bool false], I 1]) (frErr (zF, 1)) :=
    .tuple (.cons (.agg (.cons (.refl _) (.cons (.nil _) (.cons (.refl _) (.cons (.refl _) (.cons (.nil _) (.cons (.nil _) (.cons (.nil _) (.refl _))))))))) (.refl _))
  cases b1 : below fn c.funs.length with
  | false =>
    have e : startS c fn args task path = (zF, 1) := by simp [startS, startOk, b1]
    rw [e]
    refine Ret.res ?_ hz
    refine Ret_by is12 rfl ?_
    refine WT_call _ (s25 _ _) ?_
    refine WT_f (by simp [below] at b1; simp; omega) ?_
    refine WT_t rfl ?_
    refine WT_f rfl ?_
    refine WT_t rfl ?_
    refine WT_t rfl ?_
    exact WT_ret rfl rfl rfl rfl rfl
  | true =>
  have b1' : 0 ≤ fn ∧ fn < c.funs.length := by simpa [below] using b1
  have hlt : fn.toNat < c.funs.length := by omega
  obtain ⟨b, hB⟩ : ∃ b, funAt c fn = b := ⟨_, rfl⟩
  have hb : c.funs[fn.toNat] = b := by rw [← hB]; simp [funAt, hlt]
  have hbl : b.locals < 1000 := h2 b (by rw [← hb]; exact List.getElem_mem _)
  by_cases b2 : task < 1
  case pos =>
    have e : startS c fn args task path = (zF, 1) := by simp [startS, startOk, b2]
    rw [e]
    refine Ret.res ?_ hz
    refine Ret_by is12 rfl ?_
    refine WT_call _ (s25 _ _) ?_
    refine WT_t (by simp; omega) ?_
    refine WT_f rfl ?_
    refine WT_f (by simp [b2]) ?_
    refine WT_t rfl ?_
    refine WT_t rfl ?_
    exact WT_ret rfl rfl rfl rfl rfl
  cases b3 : args.all isVal with
  | false =>
    have e : startS c fn args task path = (zF, 1) := by simp only [startS, startOk, b3]; simp
    rw [e]
    refine Ret.res ?_ hz
    refine Ret_by is12 rfl ?_
    refine WT_call _ (s25 _ _) ?_
    refine WT_t (by simp; omega) ?_
    refine WT_f rfl ?_
    refine WT_t (by simp [b2]) ?_
    refine WT_call _ (s26 _ (by omega)) ?_
    refine WT_f rfl ?_
    refine WT_t (by rw [b3]; rfl) ?_
    exact WT_ret rfl rfl rfl rfl rfl
  | true =>
  by_cases b4 : b.args = args.length
  case neg =>
    have e : startS c fn args task path = (zF, 1) := by simp [startS, startOk, hB, b4]
    rw [e]
    refine Ret.res ?_ hz
    refine Ret_by is12 rfl ?_
    refine WT_call _ (s25 _ _) ?_
    refine WT_t (by simp; omega) ?_
    refine WT_f rfl ?_
    refine WT_t (by simp [b2]) ?_
    refine WT_call _ (s26 _ (by omega)) ?_
    refine WT_f rfl ?_
    refine WT_f (by rw [b3]; rfl) ?_
    refine WT_t (by simp; omega) ?_
    refine WT_elem (bodyD b) (by simp [hlt, hb]) ?_
    refine WT_f (by simp [b4]) ?_
    refine WT_t rfl ?_
    refine WT_t rfl ?_
    exact WT_ret rfl rfl rfl rfl rfl
  by_cases b5 : b.locals < b.args
  case pos =>
    have e : startS c fn args task path = (zF, 1) := by simp [startS, startOk, hB, b5]
    rw [e]
    refine Ret.res ?_ hz
    refine Ret_by is12 rfl ?_
    refine WT_call _ (s25 _ _) ?_
    refine WT_t (by simp; omega) ?_
    refine WT_f rfl ?_
    refine WT_t (by simp [b2]) ?_
    refine WT_call _ (s26 _ (by omega)) ?_
    refine WT_f rfl ?_
    refine WT_f (by rw [b3]; rfl) ?_
    refine WT_t (by simp; omega) ?_
    refine WT_elem (bodyD b) (by simp [hlt, hb]) ?_
    refine WT_t (by simp [b4]) ?_
    refine WT_f rfl ?_
    refine WT_t (by simpa using b5) ?_
    exact WT_ret rfl rfl rfl rfl rfl
  have e : startS c fn args task path = (startF c fn args task path, 0) := by
    have h : startOk c fn args task = true := by
      have e2 : decide (task < 1) = false := by simp; omega
      have e4 : decide (b.args = (args.length : Int)) = true := by simp [b4]
      have e5 : decide (b.locals < b.args) = false := by simp; omega
      rw [startOk, hB, b1, b3, e2, e4, e5]; rfl
    rw [startS, if_pos h]
  rw [e]
  have hrow : (setAt (List.replicate b.locals.toNat [I 0]) 0 ((rows args).take (min b.locals.toNat (rows args).length))) = rows (startF c fn args task path).loc := by
    have hl : (rows args).length = args.length := by simp [rows]
    rw [List.take_of_length_le (by omega), ← place_eq, place_rep _ _ _ (by omega), hl]
    simp [startF, hB, rows]
  have hlen : (startF c fn args task path).loc.length = b.locals.toNat := by
    simp [startF, hB]; omega
  have hz2 : DLe (.tuple [.agg [I task, .slice 1 (((rows path).drop 0).take path.length) false, I fn, I 0, .slice 1 (((rows (startF c fn args task path).loc).drop 0).take b.locals.toNat) false, .nil, .nil, I 0, I 0, .bool false], I 0]) (frErr (startF c fn args task path, 0)) := by
    rw [frErr, ← ownD (startF c fn args task path) path.length b.locals.toNat rfl hlen.symm]
    exact .tuple (.cons (.agg (.cons (.refl _) (.cons (.refl _) (.cons (.refl _) (.cons (.refl _) (.cons (.refl _) (.cons (.nil _) (.cons (.nil _) (.refl _))))))))) (.refl _))
  refine Ret.res ?_ hz2
  refine Ret_by is12 rfl ?_
  refine WT_call _ (s25 _ _) ?_
  refine WT_t (by simp; omega) ?_
  refine WT_f rfl ?_
  refine WT_t (by simp [b2]) ?_
  refine WT_call _ (s26 _ (by omega)) ?_
  refine WT_f rfl ?_
  refine WT_f (by rw [b3]; rfl) ?_
  refine WT_t (by simp; omega) ?_
  refine WT_elem (bodyD b) (by simp [hlt, hb]) ?_
  refine WT_t (by simp [b4]) ?_
  refine WT_f rfl ?_
  refine WT_f (by simpa using b5) ?_
  refine WT_t (by simp; omega) ?_
  refine WT_t rfl ?_
  refine WT_sub (clone27 path h4 _ _) ?_
  rintro _ _ _ ⟨rfl, rfl, rfl⟩
  refine WT_ret rfl rfl rfl rfl ?_
  rw [← hrow]
  rfl

/-! ### Child, Value, plain -/
set_option maxRecDepth 100000 in
theorem s14 (f : Frame) (h1 : f.path.length < 1000) : Ret Try.prog 14 [frameD f] (ints (f.path ++ [f.many])) := by
  refine Ret_by is14 rfl ?_
  refine WT_draw ⟨[(2, .ref 1 1 0 (f.path.length + 1))], [(1, .mt 1 1 ((rows f.path).take f.path.length ++ [[I f.many]]))], 2, [], 0⟩ ?_ ?_
  · refine WT_sub (clone27 f.path h1 _ _) ?_
    rintro _ _ _ ⟨rfl, rfl, rfl⟩
    iterate 4 (refine WT_same (by kernel_rfl) ?_)
    refine WT_t rfl ?_
    refine WT_t (by simp; omega) ?_
    iterate 3 (refine WT_same (by kernel_rfl) ?_)
    refine WT_done (.inl ⟨rfl, ?_⟩)
    exact Weak.eqs [] (by kernel_rfl) (by kernel_rfl) (by kernel_rfl) (by kernel_rfl) (by kernel_rfl) (by kernel_rfl) (by kernel_rfl) (by kernel_rfl) (by kernel_rfl) (by kernel_rfl)
  · refine WT_ret rfl rfl rfl rfl ?_
    show Dat.slice 1 ((((rows f.path).take f.path.length ++ [[I f.many]]).drop 0).take (f.path.length + 1)) false = _
    rw [List.drop_zero, List.take_of_length_le (by simp [rows]), List.take_of_length_le (by simp [rows])]
    simp [rows, ints]

def valueS (kind val : Int) (is : Bool) : Int := if is = false then 0 else if kind = 1 ∨ kind = 5 ∨ kind = 7 then wrapS (val + 1) else 1
def opD (k o a b : Int) : Dat := .agg [I k, I o, I a, I b]

theorem s18 (k o a b val : Int) (is : Bool) : Ret Try.prog 18 [opD k o a b, I val, .bool is] (I (valueS k val is)) := by
  refine Ret_by is18 rfl ?_
  cases is with
  | false =>
    refine WT_t rfl ?_
    exact WT_ret rfl rfl rfl rfl rfl
  | true =>
    refine WT_f rfl ?_
    have fin : ∀ (h : k = 1 ∨ k = 5 ∨ k = 7), I (wrapS (val + 1)) = I (valueS k val true) := fun h => by simp [valueS, h]
    refine WT_test (fun h => ?_) (fun h => ?_)
    · have h : k = 1 := by simpa using h
      refine WT_t (by simp [h]) ?_
      refine WT_test (fun h2 => ?_) (fun h2 => ?_)
      · refine WT_call _ (s31 _) ?_
        exact WT_ret rfl rfl rfl rfl (fin (.inl h))
      · refine WT_call _ (s31 _) ?_
        refine WT_ret rfl rfl rfl rfl ?_
        rw [mod_wrap]; exact fin (.inl h)
    · have h : ¬ k = 1 := by simpa using h
      refine WT_test (fun h' => ?_) (fun h' => ?_)
      · have h' : k = 5 := by simpa using h'
        refine WT_t (by simp [h']) ?_
        refine WT_test (fun h2 => ?_) (fun h2 => ?_)
        · refine WT_call _ (s31 _) ?_
          exact WT_ret rfl rfl rfl rfl (fin (.inr (.inl h')))
        · refine WT_call _ (s31 _) ?_
          refine WT_ret rfl rfl rfl rfl ?_
          rw [mod_wrap]; exact fin (.inr (.inl h'))
      · have h' : ¬ k = 5 := by simpa using h'
        refine WT_test (fun h'' => ?_) (fun h'' => ?_)
        · have h'' : k = 7 := by simpa using h''
          refine WT_test (fun h2 => ?_) (fun h2 => ?_)
          · refine WT_call _ (s31 _) ?_
            exact WT_ret rfl rfl rfl rfl (fin (.inr (.inr h'')))
          · refine WT_call _ (s31 _) ?_
            refine WT_ret rfl rfl rfl rfl ?_
            rw [mod_wrap]; exact fin (.inr (.inr h''))
        · have h'' : ¬ k = 7 := by simpa using h''
          refine WT_ret rfl rfl rfl rfl ?_
          simp [packD, valueS, h, h', h'']

def plainC (l : List Ins) (locals : Int) : Code := ⟨[⟨0, locals, l⟩], [0, 0], 1, 1, 1, 0⟩
theorem s24 (l : List Ins) (locals : Int) : Ret Try.prog 24 [.slice 4 (l.map insD) false, I locals] (codeD (plainC l locals)) := by
  refine Ret.res (r := .agg [.slice 3 [[I 0, I locals, .slice 4 (l.map insD) false]] true, .slice 1 [[I 0], [I 0]] true, I 1, I 1, I 1, I 0]) ?_ ?_
  · refine Ret_by is24 rfl ?_
    exact WT_ret rfl rfl rfl rfl rfl
  · exact .agg (.cons (.slice (.refl _)) (.cons (.slice (.refl _)) (.refl _)))

end Uw.Try

/- Same, and what it is made of. -/
set_option linter.unusedVariables false
namespace Uw.Try
open Go Uw Go.Proofs

theorem take_succ_eq {α : Type} {a b : List α} {k : Nat} (h1 : k < a.length) (h2 : k < b.length) (h : a.take k = b.take k) (he : a[k] = b[k]) : a.take (k + 1) = b.take (k + 1) := by
  rw [List.take_succ_eq_append_getElem h1, List.take_succ_eq_append_getElem h2, h, he]

set_option maxRecDepth 100000 in
theorem s29 (a b : List Int) (ha : a.length < 1000) : Ret Try.prog 29 [ints a, ints b] (.bool (decide (a = b))) := by
  by_cases hl : a.length = b.length
  case neg =>
    have e : decide (a = b) = false := by simp; intro h; rw [h] at hl; exact hl rfl
    rw [e]
    refine Ret_by is29 rfl ?_
    refine WT_t (by simp; omega) ?_
    exact WT_ret rfl rfl rfl rfl rfl
  obtain ⟨R, hR⟩ : ∃ R, decide (a = b) = R := ⟨_, rfl⟩
  rw [hR]
  refine Ret_by is29 rfl ?_
  refine WT_f (by simp; omega) ?_
  refine WT_loop (fun k : Int => ⟨[(0, .d (ints a)), (1, .d (ints b)), (5, .d (I k))], [], 0, [], 0⟩)
    (fun k => 0 ≤ k ∧ k ≤ a.length ∧ a.take k.toNat = b.take k.toNat) (fun k => (a.length - k).toNat) 0 ?_ ⟨by omega, by omega, by simp⟩ ?_
  · exact Weak.eqs [] (by kernel_rfl) (by kernel_rfl) (by kernel_rfl) (by kernel_rfl) (by kernel_rfl) (by kernel_rfl) (by kernel_rfl) (by kernel_rfl) (by kernel_rfl) (by kernel_rfl)
  · rintro k ⟨h0, h1, hall⟩
    by_cases hk : k < a.length
    · have k1 : k.toNat < a.length := by omega
      have k2 : k.toNat < b.length := by omega
      refine WT_t (by simp; omega) ?_
      refine WT_t (by simp; omega) ?_
      refine WT_elem [I a[k.toNat]] (by simp) ?_
      refine WT_t (by simp; omega) ?_
      refine WT_elem [I b[k.toNat]] (by simp) ?_
      by_cases he : a[k.toNat] = b[k.toNat]
      · refine WT_f (by simp [he]) ?_
        refine WT_t (by simp [inR]; omega) ?_
        refine WT_again (k + 1) ⟨by omega, by omega, ?_⟩ (by omega) (Weak.eqs [] (by kernel_rfl) (by kernel_rfl) (by kernel_rfl) (by kernel_rfl) (by kernel_rfl) (by kernel_rfl) (by kernel_rfl) (by kernel_rfl) (by kernel_rfl) (by kernel_rfl))
        rw [show (k + 1).toNat = k.toNat + 1 by omega]
        exact take_succ_eq k1 k2 hall he
      · refine WT_t (by simp [he]) ?_
        refine WT_leave ?_
        refine WT_ret rfl rfl rfl rfl ?_
        rw [← hR]
        refine congrArg Dat.bool ?_
        symm
        rw [decide_eq_false_iff_not]
        intro h; subst h; exact he rfl
    · refine WT_f (by simp; omega) ?_
      refine WT_break ?_
      refine WT_ret rfl rfl rfl rfl ?_
      rw [List.take_of_length_le (by omega), List.take_of_length_le (by omega)] at hall
      rw [← hR]
      simp [packD, hall]

set_option maxRecDepth 100000 in
theorem s30 (a b : List (Int × Int)) (ha : a.length < 1000) : Ret Try.prog 30 [.slice 2 (a.map kidD) false, .slice 2 (b.map kidD) false] (.bool (decide (a = b))) := by
  by_cases hl : a.length = b.length
  case neg =>
    have e : decide (a = b) = false := by simp; intro h; rw [h] at hl; exact hl rfl
    rw [e]
    refine Ret_by is30 rfl ?_
    refine WT_t (by simp; omega) ?_
    exact WT_ret rfl rfl rfl rfl rfl
  obtain ⟨R, hR⟩ : ∃ R, decide (a = b) = R := ⟨_, rfl⟩
  rw [hR]
  refine Ret_by is30 rfl ?_
  refine WT_f (by simp; omega) ?_
  refine WT_loop (fun k : Int => ⟨[(0, .d (.slice 2 (a.map kidD) false)), (1, .d (.slice 2 (b.map kidD) false)), (5, .d (I k))], [], 0, [], 0⟩)
    (fun k => 0 ≤ k ∧ k ≤ a.length ∧ a.take k.toNat = b.take k.toNat) (fun k => (a.length - k).toNat) 0 ?_ ⟨by omega, by omega, by simp⟩ ?_
  · exact Weak.eqs [] (by kernel_rfl) (by kernel_rfl) (by kernel_rfl) (by kernel_rfl) (by kernel_rfl) (by kernel_rfl) (by kernel_rfl) (by kernel_rfl) (by kernel_rfl) (by kernel_rfl)
  · rintro k ⟨h0, h1, hall⟩
    by_cases hk : k < a.length
    · have k1 : k.toNat < a.length := by omega
      have k2 : k.toNat < b.length := by omega
      refine WT_t (by simp; omega) ?_
      refine WT_t (by simp; omega) ?_
      refine WT_elem (kidD a[k.toNat]) (by rw [List.getElem?_map, List.getElem?_eq_getElem k1]; rfl) ?_
      refine WT_t (by simp; omega) ?_
      refine WT_elem (kidD b[k.toNat]) (by rw [List.getElem?_map, List.getElem?_eq_getElem k2]; rfl) ?_
      by_cases he : a[k.toNat] = b[k.toNat]
      · refine WT_f (by rw [he]; simp [negB]) ?_
        refine WT_t (by simp [inR]; omega) ?_
        refine WT_again (k + 1) ⟨by omega, by omega, ?_⟩ (by omega) (Weak.eqs [] (by kernel_rfl) (by kernel_rfl) (by kernel_rfl) (by kernel_rfl) (by kernel_rfl) (by kernel_rfl) (by kernel_rfl) (by kernel_rfl) (by kernel_rfl) (by kernel_rfl))
        rw [show (k + 1).toNat = k.toNat + 1 by omega]
        exact take_succ_eq k1 k2 hall he
      · have he2 : ¬ (a[k.toNat].1 = b[k.toNat].1 ∧ a[k.toNat].2 = b[k.toNat].2) := fun h => he (Prod.ext h.1 h.2)
        refine WT_t (by simp [negB]; omega) ?_
        refine WT_leave ?_
        refine WT_ret rfl rfl rfl rfl ?_
        rw [← hR]
        refine congrArg Dat.bool ?_
        symm
        rw [decide_eq_false_iff_not]
        intro h; subst h; exact he rfl
    · refine WT_f (by simp; omega) ?_
      refine WT_break ?_
      refine WT_ret rfl rfl rfl rfl ?_
      rw [List.take_of_length_le (by omega), List.take_of_length_le (by omega)] at hall
      rw [← hR]
      simp [packD, hall]

def sameS (f g : Frame) : Bool := decide (f.task = g.task) && decide (f.fn = g.fn) && decide (f.pc = g.pc) && decide (f.many = g.many) && decide (f.spent = g.spent) && (f.fail == g.fail) && decide (f.path = g.path) && decide (f.loc = g.loc) && decide (f.stack = g.stack) && decide (f.kids = g.kids)

theorem sameS_self (f : Frame) : sameS f f = true := by simp [sameS]

set_option maxRecDepth 100000 in
set_option maxHeartbeats 1000000 in
theorem s15 (f g : Frame) (h1 : f.path.length < 1000) (h2 : f.loc.length < 1000) (h3 : f.stack.length < 1000) (h4 : f.kids.length < 1000) : Ret Try.prog 15 [frameD f, frameD g] (.bool (sameS f g)) := by
  by_cases e0 : f.task = g.task
  case neg =>
    have e : sameS f g = false := by simp [sameS, e0]
    rw [e]
    refine Ret_by is15 rfl ?_
    refine WT_f (by simp [e0]) ?_
    refine WT_t rfl ?_
    refine WT_f rfl ?_
    refine WT_t rfl ?_
    refine WT_f rfl ?_
    refine WT_t rfl ?_
    refine WT_f rfl ?_
    refine WT_t rfl ?_
    refine WT_f rfl ?_
    refine WT_t rfl ?_
    refine WT_t rfl ?_
    exact WT_ret rfl rfl rfl rfl rfl
  by_cases e1 : f.fn = g.fn
  case neg =>
    have e : sameS f g = false := by simp [sameS, e1]
    rw [e]
    refine Ret_by is15 rfl ?_
    refine WT_t (by simp [e0]) ?_
    refine WT_f rfl ?_
    refine WT_f (by simp [e1]) ?_
    refine WT_t rfl ?_
    refine WT_f rfl ?_
    refine WT_t rfl ?_
    refine WT_f rfl ?_
    refine WT_t rfl ?_
    refine WT_f rfl ?_
    refine WT_t rfl ?_
    refine WT_t rfl ?_
    exact WT_ret rfl rfl rfl rfl rfl
  by_cases e2 : f.pc = g.pc
  case neg =>
    have e : sameS f g = false := by simp [sameS, e2]
    rw [e]
    refine Ret_by is15 rfl ?_
    refine WT_t (by simp [e0]) ?_
    refine WT_f rfl ?_
    refine WT_t (by simp [e1]) ?_
    refine WT_f rfl ?_
    refine WT_f (by simp [e2]) ?_
    refine WT_t rfl ?_
    refine WT_f rfl ?_
    refine WT_t rfl ?_
    refine WT_f rfl ?_
    refine WT_t rfl ?_
    refine WT_t rfl ?_
    exact WT_ret rfl rfl rfl rfl rfl
  by_cases e3 : f.many = g.many
  case neg =>
    have e : sameS f g = false := by simp [sameS, e3]
    rw [e]
    refine Ret_by is15 rfl ?_
    refine WT_t (by simp [e0]) ?_
    refine WT_f rfl ?_
    refine WT_t (by simp [e1]) ?_
    refine WT_f rfl ?_
    refine WT_t (by simp [e2]) ?_
    refine WT_f rfl ?_
    refine WT_f (by simp [e3]) ?_
    refine WT_t rfl ?_
    refine WT_f rfl ?_
    refine WT_t rfl ?_
    refine WT_t rfl ?_
    exact WT_ret rfl rfl rfl rfl rfl
  by_cases e4 : f.spent = g.spent
  case neg =>
    have e : sameS f g = false := by simp [sameS, e4]
    rw [e]
    refine Ret_by is15 rfl ?_
    refine WT_t (by simp [e0]) ?_
    refine WT_f rfl ?_
    refine WT_t (by simp [e1]) ?_
    refine WT_f rfl ?_
    refine WT_t (by simp [e2]) ?_
    refine WT_f rfl ?_
    refine WT_t (by simp [e3]) ?_
    refine WT_f rfl ?_
    refine WT_f (by simp [e4]) ?_
    refine WT_t rfl ?_
    refine WT_t rfl ?_
    exact WT_ret rfl rfl rfl rfl rfl
  by_cases e5 : f.fail = g.fail
  case neg =>
    have e : sameS f g = false := by simp [sameS, e5]
    rw [e]
    refine Ret_by is15 rfl ?_
    refine WT_t (by simp [e0]) ?_
    refine WT_f rfl ?_
    refine WT_t (by simp [e1]) ?_
    refine WT_f rfl ?_
    refine WT_t (by simp [e2]) ?_
    refine WT_f rfl ?_
    refine WT_t (by simp [e3]) ?_
    refine WT_f rfl ?_
    refine WT_t (by simp [e4]) ?_
    refine WT_f rfl ?_
    refine WT_t (by simp [e5]) ?_
    exact WT_ret rfl rfl rfl rfl rfl
  by_cases e6 : f.path = g.path
  case neg =>
    have e : sameS f g = false := by simp [sameS, e6]
    rw [e]
    refine Ret_by is15 rfl ?_
    refine WT_t (by simp [e0]) ?_
    refine WT_f rfl ?_
    refine WT_t (by simp [e1]) ?_
    refine WT_f rfl ?_
    refine WT_t (by simp [e2]) ?_
    refine WT_f rfl ?_
    refine WT_t (by simp [e3]) ?_
    refine WT_f rfl ?_
    refine WT_t (by simp [e4]) ?_
    refine WT_f rfl ?_
    refine WT_f (by simp [e5]) ?_
    refine WT_call _ (s29 f.path g.path h1) ?_
    refine WT_f (by simp [e6]) ?_
    refine WT_f rfl ?_
    refine WT_f rfl ?_
    refine WT_f rfl ?_
    refine WT_f rfl ?_
    refine WT_f rfl ?_
    exact WT_ret rfl rfl rfl rfl rfl
  by_cases e7 : f.loc = g.loc
  case neg =>
    have e : sameS f g = false := by simp [sameS, e7]
    rw [e]
    refine Ret_by is15 rfl ?_
    refine WT_t (by simp [e0]) ?_
    refine WT_f rfl ?_
    refine WT_t (by simp [e1]) ?_
    refine WT_f rfl ?_
    refine WT_t (by simp [e2]) ?_
    refine WT_f rfl ?_
    refine WT_t (by simp [e3]) ?_
    refine WT_f rfl ?_
    refine WT_t (by simp [e4]) ?_
    refine WT_f rfl ?_
    refine WT_f (by simp [e5]) ?_
    refine WT_call _ (s29 f.path g.path h1) ?_
    refine WT_t (by simp [e6]) ?_
    refine WT_call _ (s29 f.loc g.loc h2) ?_
    refine WT_t rfl ?_
    refine WT_f (by simp [e7]) ?_
    refine WT_f rfl ?_
    refine WT_f rfl ?_
    refine WT_f rfl ?_
    exact WT_ret rfl rfl rfl rfl rfl
  by_cases e8 : f.stack = g.stack
  case neg =>
    have e : sameS f g = false := by simp [sameS, e8]
    rw [e]
    refine Ret_by is15 rfl ?_
    refine WT_t (by simp [e0]) ?_
    refine WT_f rfl ?_
    refine WT_t (by simp [e1]) ?_
    refine WT_f rfl ?_
    refine WT_t (by simp [e2]) ?_
    refine WT_f rfl ?_
    refine WT_t (by simp [e3]) ?_
    refine WT_f rfl ?_
    refine WT_t (by simp [e4]) ?_
    refine WT_f rfl ?_
    refine WT_f (by simp [e5]) ?_
    refine WT_call _ (s29 f.path g.path h1) ?_
    refine WT_t (by simp [e6]) ?_
    refine WT_call _ (s29 f.loc g.loc h2) ?_
    refine WT_t rfl ?_
    refine WT_t (by simp [e7]) ?_
    refine WT_call _ (s29 f.stack g.stack h3) ?_
    refine WT_t rfl ?_
    refine WT_f (by simp [e8]) ?_
    refine WT_f rfl ?_
    exact WT_ret rfl rfl rfl rfl rfl
  · have e : sameS f g = decide (f.kids = g.kids) := by simp [sameS, e0, e1, e2, e3, e4, e5, e6, e7, e8]
    rw [e]
    refine Ret_by is15 rfl ?_
    refine WT_t (by simp [e0]) ?_
    refine WT_f rfl ?_
    refine WT_t (by simp [e1]) ?_
    refine WT_f rfl ?_
    refine WT_t (by simp [e2]) ?_
    refine WT_f rfl ?_
    refine WT_t (by simp [e3]) ?_
    refine WT_f rfl ?_
    refine WT_t (by simp [e4]) ?_
    refine WT_f rfl ?_
    refine WT_f (by simp [e5]) ?_
    refine WT_call _ (s29 f.path g.path h1) ?_
    refine WT_t (by simp [e6]) ?_
    refine WT_call _ (s29 f.loc g.loc h2) ?_
    refine WT_t rfl ?_
    refine WT_t (by simp [e7]) ?_
    refine WT_call _ (s29 f.stack g.stack h3) ?_
    refine WT_t rfl ?_
    refine WT_t (by simp [e8]) ?_
    refine WT_call _ (s30 f.kids g.kids h4) ?_
    refine WT_t rfl ?_
    exact WT_ret rfl rfl rfl rfl rfl

end Uw.Try

/- Told (printed by printw.py). -/
set_option linter.unusedVariables false
namespace Uw.Try
open Go Uw Go.Proofs

/-- What is asked, whatever its arguments. -/
def askG (k a b o1 o2 o3 o4 : Int) (d : Dat) : Dat := .agg [I k, I a, I b, I o1, I o2, I o3, I o4, d]
def syncL (loc : List Int) (l : List ((Int × Int) × Int)) : List Int := l.foldl (fun l p => if 0 ≤ p.1.2 then l.set p.1.2.toNat p.2 else l) loc
def destOk (f : Frame) (k : Int × Int) : Bool := dest k.2 f.loc.length
def toldOk (f : Frame) (kind b : Int) (vals : List Int) : Bool :=
  if kind = 1 ∨ kind = 3 then decide (vals.length = 1) && vals.all isVal && decide (f.stack.length < 100)
  else if kind = 2 then decide (vals.length = 0)
  else if kind = 4 then decide (vals.length = 1) && decide (1 ≤ vals.head?.getD 0) && dest b f.loc.length
  else if kind = 5 then decide (vals.length = f.kids.length) && vals.all isVal && f.kids.all (destOk f)
  else false
def toldF (f : Frame) (kind b : Int) (vals : List Int) : Frame :=
  if kind = 1 ∨ kind = 3 then { f with stack := f.stack ++ vals }
  else if kind = 2 then f
  else if kind = 4 then { f with kids := f.kids ++ vals.map (fun v => (v, b)), many := f.many + 1 }
  else { f with loc := syncL f.loc (f.kids.zip vals), kids := [] }
def toldS (f : Frame) (kind b : Int) (vals : List Int) : Frame × Int := if toldOk f kind b vals then (toldF f kind b vals, 0) else (f, 1)

structure TinyF (f : Frame) : Prop where
  path : f.path.length < 1000
  loc : f.loc.length < 1000
  stack : f.stack.length < 1000
  kids : f.kids.length < 1000
  many0 : -1000000000 < f.many
  many : f.many < 1000000000

theorem own_out (f : Frame) (n m : Nat) (xs : List (List Dat)) (ks : List (List Dat)) (p q : Nat) (hp : p = f.path.length) (hq : q = f.loc.length) (hn : (xs.drop 0).take n = rows f.stack) (hm : (ks.drop 0).take m = krows f.kids) : Dat.agg [I f.task, .slice 1 (((rows f.path).drop 0).take p) false, I f.fn, I f.pc, .slice 1 (((rows f.loc).drop 0).take q) false, .slice 1 ((xs.drop 0).take n) false, .slice 2 ((ks.drop 0).take m) false, I f.many, I f.spent, .bool f.fail] = frameD f := by
  subst hp hq
  rw [hn, hm, List.drop_zero, List.take_of_length_le (by simp [rows]), List.drop_zero, List.take_of_length_le (by simp [rows])]
  rfl
theorem rows_full {l : List Int} {n : Nat} (h : n = l.length) : ((rows l).drop 0).take n = rows l := by
  subst h; rw [List.drop_zero, List.take_of_length_le (by simp [rows])]
theorem krows_full {l : List (Int × Int)} {n : Nat} (h : n = l.length) : ((krows l).drop 0).take n = krows l := by
  subst h; rw [List.drop_zero, List.take_of_length_le (by simp [krows])]

set_option maxRecDepth 100000 in
set_option maxHeartbeats 1000000 in
theorem told1 (f : Frame) (a b o1 o2 o3 o4 : Int) (d : Dat) (vals : List Int) (ht : TinyF f) (hv : vals.length < 1000) : Ret Try.prog 23 [frameD f, askG 1 a b o1 o2 o3 o4 d, ints vals] (frErr (toldS f 1 b vals)) := by
  have t1 := ht.path; have t2 := ht.loc; have t3 := ht.stack; have t4 := ht.kids; have t5 := ht.many0; have t6 := ht.many
  obtain ⟨R, hR⟩ : ∃ R, toldS f 1 b vals = R := ⟨_, rfl⟩
  rw [hR]
  unfold toldS toldOk toldF at hR
  simp at hR
  refine Ret_by is23 rfl ?_
  refine WT_inl is34 rfl ?_
  refine WT_sub (clone27 f.path ht.path _ _) ?_
  rintro _ _ _ ⟨rfl, rfl, rfl⟩
  refine WT_sub (clone27 f.loc ht.loc _ _) ?_
  rintro _ _ _ ⟨rfl, rfl, rfl⟩
  refine WT_sub (clone27 f.stack ht.stack _ _) ?_
  rintro _ _ _ ⟨rfl, rfl, rfl⟩
  refine WT_sub (clone40 f.kids ht.kids _ _) ?_
  rintro _ _ _ ⟨rfl, rfl, rfl⟩
  refine WT_iret rfl rfl ?_
  refine WT_t rfl ?_
  refine WT_t rfl ?_
  by_cases h1 : vals.length = 1
  · refine WT_t (by simp [h1]) ?_
    refine WT_call _ (s26 _ (by omega)) ?_
    refine WT_t rfl ?_
    by_cases h2 : vals.all isVal = true
    · refine WT_t (by rw [h2]; rfl) ?_
      refine WT_t rfl ?_
      refine WT_t rfl ?_
      refine WT_t (by simp; omega) ?_
      by_cases h3 : f.stack.length < 100
      · refine WT_f (by simp; omega) ?_
        have e : R = ({ f with stack := f.stack ++ vals }, 0) := by rw [← hR, if_pos ⟨⟨h1, by simpa using h2⟩, h3⟩]
        refine WT_ret rfl rfl rfl rfl ?_
        rw [e]
        refine congrArg (fun z => Dat.tuple [z, I 0]) (own_out { f with stack := f.stack ++ vals } _ _ _ _ _ _ rfl rfl ?_ (krows_full rfl))
        rw [List.drop_zero, List.take_of_length_le (by simp [rows]), List.take_of_length_le (by simp [rows])]
        simp [rows]
      · refine WT_t (by simp; omega) ?_
        have e : R = (f, 1) := by rw [← hR, if_neg (fun h => h3 h.2)]
        exact WT_ret rfl rfl rfl rfl (congrArg frErr e.symm)
    · refine WT_f (by simp at h2; simp [h2]) ?_
      refine WT_f rfl ?_
      refine WT_t rfl ?_
      refine WT_t (by simp; omega) ?_
      refine WT_t rfl ?_
      have e : R = (f, 1) := by rw [← hR, if_neg (fun h => h2 (by simpa using h.1.2))]
      exact WT_ret rfl rfl rfl rfl (congrArg frErr e.symm)
  · refine WT_f (by simp; omega) ?_
    refine WT_f rfl ?_
    refine WT_f rfl ?_
    refine WT_f rfl ?_
    refine WT_t rfl ?_
    refine WT_t (by simp; omega) ?_
    refine WT_t rfl ?_
    have e : R = (f, 1) := by rw [← hR, if_neg (fun h => h1 h.1.1)]
    exact WT_ret rfl rfl rfl rfl (congrArg frErr e.symm)

set_option maxRecDepth 100000 in
set_option maxHeartbeats 1000000 in
theorem told3 (f : Frame) (a b o1 o2 o3 o4 : Int) (d : Dat) (vals : List Int) (ht : TinyF f) (hv : vals.length < 1000) : Ret Try.prog 23 [frameD f, askG 3 a b o1 o2 o3 o4 d, ints vals] (frErr (toldS f 3 b vals)) := by
  have t1 := ht.path; have t2 := ht.loc; have t3 := ht.stack; have t4 := ht.kids; have t5 := ht.many0; have t6 := ht.many
  obtain ⟨R, hR⟩ : ∃ R, toldS f 3 b vals = R := ⟨_, rfl⟩
  rw [hR]
  unfold toldS toldOk toldF at hR
  simp at hR
  refine Ret_by is23 rfl ?_
  refine WT_inl is34 rfl ?_
  refine WT_sub (clone27 f.path ht.path _ _) ?_
  rintro _ _ _ ⟨rfl, rfl, rfl⟩
  refine WT_sub (clone27 f.loc ht.loc _ _) ?_
  rintro _ _ _ ⟨rfl, rfl, rfl⟩
  refine WT_sub (clone27 f.stack ht.stack _ _) ?_
  rintro _ _ _ ⟨rfl, rfl, rfl⟩
  refine WT_sub (clone40 f.kids ht.kids _ _) ?_
  rintro _ _ _ ⟨rfl, rfl, rfl⟩
  refine WT_iret rfl rfl ?_
  refine WT_f rfl ?_
  refine WT_t rfl ?_
  by_cases h1 : vals.length = 1
  · refine WT_t (by simp [h1]) ?_
    refine WT_call _ (s26 _ (by omega)) ?_
    refine WT_t rfl ?_
    by_cases h2 : vals.all isVal = true
    · refine WT_t (by rw [h2]; rfl) ?_
      refine WT_t rfl ?_
      refine WT_t rfl ?_
      refine WT_t (by simp; omega) ?_
      by_cases h3 : f.stack.length < 100
      · refine WT_f (by simp; omega) ?_
        have e : R = ({ f with stack := f.stack ++ vals }, 0) := by rw [← hR, if_pos ⟨⟨h1, by simpa using h2⟩, h3⟩]
        refine WT_ret rfl rfl rfl rfl ?_
        rw [e]
        refine congrArg (fun z => Dat.tuple [z, I 0]) (own_out { f with stack := f.stack ++ vals } _ _ _ _ _ _ rfl rfl ?_ (krows_full rfl))
        rw [List.drop_zero, List.take_of_length_le (by simp [rows]), List.take_of_length_le (by simp [rows])]
        simp [rows]
      · refine WT_t (by simp; omega) ?_
        have e : R = (f, 1) := by rw [← hR, if_neg (fun h => h3 h.2)]
        exact WT_ret rfl rfl rfl rfl (congrArg frErr e.symm)
    · refine WT_f (by simp at h2; simp [h2]) ?_
      refine WT_f rfl ?_
      refine WT_t rfl ?_
      refine WT_t (by simp; omega) ?_
      refine WT_t rfl ?_
      have e : R = (f, 1) := by rw [← hR, if_neg (fun h => h2 (by simpa using h.1.2))]
      exact WT_ret rfl rfl rfl rfl (congrArg frErr e.symm)
  · refine WT_f (by simp; omega) ?_
    refine WT_f rfl ?_
    refine WT_f rfl ?_
    refine WT_f rfl ?_
    refine WT_t rfl ?_
    refine WT_t (by simp; omega) ?_
    refine WT_t rfl ?_
    have e : R = (f, 1) := by rw [← hR, if_neg (fun h => h1 h.1.1)]
    exact WT_ret rfl rfl rfl rfl (congrArg frErr e.symm)

set_option maxRecDepth 100000 in
set_option maxHeartbeats 1000000 in
theorem told2 (f : Frame) (a b o1 o2 o3 o4 : Int) (d : Dat) (vals : List Int) (ht : TinyF f) (hv : vals.length < 1000) : Ret Try.prog 23 [frameD f, askG 2 a b o1 o2 o3 o4 d, ints vals] (frErr (toldS f 2 b vals)) := by
  have t1 := ht.path; have t2 := ht.loc; have t3 := ht.stack; have t4 := ht.kids; have t5 := ht.many0; have t6 := ht.many
  obtain ⟨R, hR⟩ : ∃ R, toldS f 2 b vals = R := ⟨_, rfl⟩
  rw [hR]
  unfold toldS toldOk toldF at hR
  simp at hR
  refine Ret_by is23 rfl ?_
  refine WT_inl is34 rfl ?_
  refine WT_sub (clone27 f.path ht.path _ _) ?_
  rintro _ _ _ ⟨rfl, rfl, rfl⟩
  refine WT_sub (clone27 f.loc ht.loc _ _) ?_
  rintro _ _ _ ⟨rfl, rfl, rfl⟩
  refine WT_sub (clone27 f.stack ht.stack _ _) ?_
  rintro _ _ _ ⟨rfl, rfl, rfl⟩
  refine WT_sub (clone40 f.kids ht.kids _ _) ?_
  rintro _ _ _ ⟨rfl, rfl, rfl⟩
  refine WT_iret rfl rfl ?_
  refine WT_f rfl ?_
  refine WT_f rfl ?_
  refine WT_t rfl ?_
  by_cases h1 : vals = []
  · refine WT_f (by simp [h1]) ?_
    have e : R = (f, 0) := by rw [← hR, if_pos h1]
    refine WT_ret rfl rfl rfl rfl ?_
    rw [e]
    exact congrArg (fun z => Dat.tuple [z, I 0]) (own_out f _ _ _ _ _ _ rfl rfl (rows_full rfl) (krows_full rfl))
  · refine WT_t (by simp [h1]) ?_
    have e : R = (f, 1) := by rw [← hR, if_neg h1]
    exact WT_ret rfl rfl rfl rfl (congrArg frErr e.symm)

set_option maxRecDepth 100000 in
set_option maxHeartbeats 1000000 in
theorem told0 (f : Frame) (k a b o1 o2 o3 o4 : Int) (d : Dat) (vals : List Int) (ht : TinyF f) (hv : vals.length < 1000) (hk : k ≠ 1 ∧ k ≠ 2 ∧ k ≠ 3 ∧ k ≠ 4 ∧ k ≠ 5) : Ret Try.prog 23 [frameD f, askG k a b o1 o2 o3 o4 d, ints vals] (frErr (toldS f k b vals)) := by
  have t1 := ht.path; have t2 := ht.loc; have t3 := ht.stack; have t4 := ht.kids; have t5 := ht.many0; have t6 := ht.many
  obtain ⟨R, hR⟩ : ∃ R, toldS f k b vals = R := ⟨_, rfl⟩
  rw [hR]
  unfold toldS toldOk toldF at hR
  obtain ⟨k1, k2, k3, k4, k5⟩ := hk
  simp [k1, k2, k3, k4, k5] at hR
  refine Ret_by is23 rfl ?_
  refine WT_inl is34 rfl ?_
  refine WT_sub (clone27 f.path ht.path _ _) ?_
  rintro _ _ _ ⟨rfl, rfl, rfl⟩
  refine WT_sub (clone27 f.loc ht.loc _ _) ?_
  rintro _ _ _ ⟨rfl, rfl, rfl⟩
  refine WT_sub (clone27 f.stack ht.stack _ _) ?_
  rintro _ _ _ ⟨rfl, rfl, rfl⟩
  refine WT_sub (clone40 f.kids ht.kids _ _) ?_
  rintro _ _ _ ⟨rfl, rfl, rfl⟩
  refine WT_iret rfl rfl ?_
  refine WT_f (by simp [k1]) ?_
  refine WT_f (by simp [k3]) ?_
  refine WT_f (by simp [k2]) ?_
  refine WT_f (by simp [k4]) ?_
  refine WT_f (by simp [k5]) ?_
  refine WT_t rfl ?_
  have e : R = (f, 1) := hR.symm
  exact WT_ret rfl rfl rfl rfl (congrArg frErr e.symm)

theorem map_take_succ (vals : List Int) (b : Int) (k : Nat) (h : k < vals.length) : (vals.take (k + 1)).map (fun v => (v, b)) = (vals.take k).map (fun v => (v, b)) ++ [(vals[k], b)] := by
  rw [List.take_succ_eq_append_getElem h, List.map_append]; rfl

set_option maxRecDepth 100000 in
set_option maxHeartbeats 1000000 in
theorem told4 (f : Frame) (a b o1 o2 o3 o4 : Int) (d : Dat) (vals : List Int) (ht : TinyF f) (hv : vals.length < 1000) : Ret Try.prog 23 [frameD f, askG 4 a b o1 o2 o3 o4 d, ints vals] (frErr (toldS f 4 b vals)) := by
  have t1 := ht.path; have t2 := ht.loc; have t3 := ht.stack; have t4 := ht.kids; have t5 := ht.many0; have t6 := ht.many
  obtain ⟨R, hR⟩ : ∃ R, toldS f 4 b vals = R := ⟨_, rfl⟩
  rw [hR]
  unfold toldS toldOk toldF at hR
  simp at hR
  refine Ret_by is23 rfl ?_
  refine WT_inl is34 rfl ?_
  refine WT_sub (clone27 f.path ht.path _ _) ?_
  rintro _ _ _ ⟨rfl, rfl, rfl⟩
  refine WT_sub (clone27 f.loc ht.loc _ _) ?_
  rintro _ _ _ ⟨rfl, rfl, rfl⟩
  refine WT_sub (clone27 f.stack ht.stack _ _) ?_
  rintro _ _ _ ⟨rfl, rfl, rfl⟩
  refine WT_sub (clone40 f.kids ht.kids _ _) ?_
  rintro _ _ _ ⟨rfl, rfl, rfl⟩
  refine WT_iret rfl rfl ?_
  refine WT_f rfl ?_
  refine WT_f rfl ?_
  refine WT_f rfl ?_
  refine WT_t rfl ?_
  by_cases h1 : vals.length = 1
  · have h0 : 0 < vals.length := by omega
    have hh : vals.head?.getD 0 = vals[0] := by cases vals <;> simp at h0 ⊢
    refine WT_t (by simp [h1]) ?_
    refine WT_t (by simp [h1]) ?_
    refine WT_elem [I vals[0]] (by simp [h0]) ?_
    refine WT_t rfl ?_
    by_cases h2 : 1 ≤ vals.head?.getD 0
    · refine WT_t (by rw [hh] at h2; simpa using h2) ?_
      refine WT_call _ (s37 _ _) ?_
      refine WT_t rfl ?_
      by_cases h3 : dest b f.loc.length = true
      · skip
        refine WT_loop (fun x : Int × List (List Dat) × Nat × Nat => ⟨[(2, .d (ints vals)), (3, .ptr 0 0), (4, .ptr 1 0), (6, .ptr 2 0), (8, .ptr 9 0), (9, .d (.bool (dest b (f.loc.map fun n => [Dat.int .i64 n]).length))), (63, .d (ints vals)), (64, .d (.int .i64 (vals.map fun n => [Dat.int .i64 n]).length)), (65, .d (I x.1))],
          [(9, .var [.d (I f.task), .ref 5 0 0 f.path.length, .d (I f.fn), .d (I f.pc), .ref 6 0 0 f.loc.length, .ref 7 0 0 f.stack.length, .ref 8 x.2.2.2 0 x.2.2.1, .d (I f.many), .d (I f.spent), .d (.bool f.fail)]), (8, .mt 2 x.2.2.2 x.2.1), (5, .mt 1 0 (rows f.path)), (6, .mt 1 0 (rows f.loc)), (7, .mt 1 0 (rows f.stack)), (0, .var (V.ofDat (frameD f)).cells), (1, .var (V.ofDat (askG 4 a b o1 o2 o3 o4 d)).cells), (2, .var zFrame)], 10, [], 0⟩)
          (fun x => 0 ≤ x.1 ∧ x.1 ≤ vals.length ∧ x.2.2.1 = f.kids.length + x.1.toNat ∧ x.2.1 = krows (f.kids ++ (vals.take x.1.toNat).map (fun v => (v, b)))) (fun x => (vals.length - x.1).toNat) (0, krows f.kids, f.kids.length, 0) ?_ ⟨by simp, by simp, by simp, by simp⟩ ?_
        · exact Weak.eqs [] (by kernel_rfl) (by kernel_rfl) (by kernel_rfl) (by kernel_rfl) (by kernel_rfl) (by kernel_rfl) (by kernel_rfl) (by kernel_rfl) (by kernel_rfl) (by kernel_rfl)
        · rintro ⟨k, xs, n, ver⟩ ⟨g0, g1, hn, hx⟩
          simp only at g0 g1 hn hx
          have hxl : xs.length = n := by rw [hx, hn]; simp [krows]; omega
          by_cases hk : k < vals.length
          · have k1 : k.toNat < vals.length := by omega
            refine WT_t (by simp; omega) ?_
            refine WT_t (by simp; omega) ?_
            refine WT_elem [I vals[k.toNat]] (by simp) ?_
            refine WT_v ?_
            refine WT_t (by simp; omega) ?_
            refine WT_t (by simp [inR]; omega) ?_
            refine WT_again (k + 1, xs.take n ++ [[I vals[k.toNat], I b]], n + 1, ver + 1) ⟨by simp only []; omega, by simp only []; omega, by simp only []; omega, ?_⟩ (by simp only []; omega) (Weak.eqs [] (by kernel_rfl) (by kernel_rfl) (by kernel_rfl) (by kernel_rfl) (by kernel_rfl) (by kernel_rfl) (by kernel_rfl) (by kernel_rfl) (by kernel_rfl) (by kernel_rfl))
            simp only []
            rw [show (k + 1).toNat = k.toNat + 1 by omega, map_take_succ vals b k.toNat k1, List.take_of_length_le (by omega), hx]
            simp [krows, kidD]
          · refine WT_f (by simp; omega) ?_
            refine WT_break ?_
            refine WT_t (by simp [inR]; omega) ?_
            refine WT_f (by simp [h3]) ?_
            have e : R = ({ f with kids := f.kids ++ vals.map (fun v => (v, b)), many := f.many + 1 }, 0) := by rw [← hR, if_pos ⟨⟨h1, h2⟩, h3⟩]
            refine WT_ret rfl rfl rfl ?_ ?_
            · simp [curL, V.cur, V.cur.go, look, put]
            rw [e]
            refine congrArg (fun z => Dat.tuple [z, I 0]) (own_out { f with kids := f.kids ++ vals.map (fun v => (v, b)), many := f.many + 1 } _ _ _ _ _ _ rfl rfl (rows_full rfl) ?_)
            rw [List.drop_zero, List.take_of_length_le (by simp only []; omega), hx, List.take_of_length_le (by omega)]
      · skip
        refine WT_loop (fun x : Int × List (List Dat) × Nat × Nat => ⟨[(2, .d (ints vals)), (3, .ptr 0 0), (4, .ptr 1 0), (6, .ptr 2 0), (8, .ptr 9 0), (9, .d (.bool (dest b (f.loc.map fun n => [Dat.int .i64 n]).length))), (63, .d (ints vals)), (64, .d (.int .i64 (vals.map fun n => [Dat.int .i64 n]).length)), (65, .d (I x.1))],
          [(9, .var [.d (I f.task), .ref 5 0 0 f.path.length, .d (I f.fn), .d (I f.pc), .ref 6 0 0 f.loc.length, .ref 7 0 0 f.stack.length, .ref 8 x.2.2.2 0 x.2.2.1, .d (I f.many), .d (I f.spent), .d (.bool f.fail)]), (8, .mt 2 x.2.2.2 x.2.1), (5, .mt 1 0 (rows f.path)), (6, .mt 1 0 (rows f.loc)), (7, .mt 1 0 (rows f.stack)), (0, .var (V.ofDat (frameD f)).cells), (1, .var (V.ofDat (askG 4 a b o1 o2 o3 o4 d)).cells), (2, .var zFrame)], 10, [], 0⟩)
          (fun x => 0 ≤ x.1 ∧ x.1 ≤ vals.length ∧ x.2.2.1 = f.kids.length + x.1.toNat ∧ x.2.1 = krows (f.kids ++ (vals.take x.1.toNat).map (fun v => (v, b)))) (fun x => (vals.length - x.1).toNat) (0, krows f.kids, f.kids.length, 0) ?_ ⟨by simp, by simp, by simp, by simp⟩ ?_
        · exact Weak.eqs [] (by kernel_rfl) (by kernel_rfl) (by kernel_rfl) (by kernel_rfl) (by kernel_rfl) (by kernel_rfl) (by kernel_rfl) (by kernel_rfl) (by kernel_rfl) (by kernel_rfl)
        · rintro ⟨k, xs, n, ver⟩ ⟨g0, g1, hn, hx⟩
          simp only at g0 g1 hn hx
          have hxl : xs.length = n := by rw [hx, hn]; simp [krows]; omega
          by_cases hk : k < vals.length
          · have k1 : k.toNat < vals.length := by omega
            refine WT_t (by simp; omega) ?_
            refine WT_t (by simp; omega) ?_
            refine WT_elem [I vals[k.toNat]] (by simp) ?_
            refine WT_v ?_
            refine WT_t (by simp; omega) ?_
            refine WT_t (by simp [inR]; omega) ?_
            refine WT_again (k + 1, xs.take n ++ [[I vals[k.toNat], I b]], n + 1, ver + 1) ⟨by simp only []; omega, by simp only []; omega, by simp only []; omega, ?_⟩ (by simp only []; omega) (Weak.eqs [] (by kernel_rfl) (by kernel_rfl) (by kernel_rfl) (by kernel_rfl) (by kernel_rfl) (by kernel_rfl) (by kernel_rfl) (by kernel_rfl) (by kernel_rfl) (by kernel_rfl))
            simp only []
            rw [show (k + 1).toNat = k.toNat + 1 by omega, map_take_succ vals b k.toNat k1, List.take_of_length_le (by omega), hx]
            simp [krows, kidD]
          · refine WT_f (by simp; omega) ?_
            refine WT_break ?_
            refine WT_t (by simp [inR]; omega) ?_
            refine WT_t (by simp [h3]) ?_
            have e : R = (f, 1) := by rw [← hR, if_neg (fun h => h3 h.2)]
            exact WT_ret rfl rfl rfl rfl (congrArg frErr e.symm)
    · refine WT_f (by rw [hh] at h2; simp; omega) ?_
      refine WT_f rfl ?_
      refine WT_loop (fun x : Int × List (List Dat) × Nat × Nat => ⟨[(2, .d (ints vals)), (3, .ptr 0 0), (4, .ptr 1 0), (6, .ptr 2 0), (8, .ptr 9 0), (9, .d (.bool (false))), (63, .d (ints vals)), (64, .d (.int .i64 (vals.map fun n => [Dat.int .i64 n]).length)), (65, .d (I x.1))],
        [(9, .var [.d (I f.task), .ref 5 0 0 f.path.length, .d (I f.fn), .d (I f.pc), .ref 6 0 0 f.loc.length, .ref 7 0 0 f.stack.length, .ref 8 x.2.2.2 0 x.2.2.1, .d (I f.many), .d (I f.spent), .d (.bool f.fail)]), (8, .mt 2 x.2.2.2 x.2.1), (5, .mt 1 0 (rows f.path)), (6, .mt 1 0 (rows f.loc)), (7, .mt 1 0 (rows f.stack)), (0, .var (V.ofDat (frameD f)).cells), (1, .var (V.ofDat (askG 4 a b o1 o2 o3 o4 d)).cells), (2, .var zFrame)], 10, [], 0⟩)
        (fun x => 0 ≤ x.1 ∧ x.1 ≤ vals.length ∧ x.2.2.1 = f.kids.length + x.1.toNat ∧ x.2.1 = krows (f.kids ++ (vals.take x.1.toNat).map (fun v => (v, b)))) (fun x => (vals.length - x.1).toNat) (0, krows f.kids, f.kids.length, 0) ?_ ⟨by simp, by simp, by simp, by simp⟩ ?_
      · exact Weak.eqs [] (by kernel_rfl) (by kernel_rfl) (by kernel_rfl) (by kernel_rfl) (by kernel_rfl) (by kernel_rfl) (by kernel_rfl) (by kernel_rfl) (by kernel_rfl) (by kernel_rfl)
      · rintro ⟨k, xs, n, ver⟩ ⟨g0, g1, hn, hx⟩
        simp only at g0 g1 hn hx
        have hxl : xs.length = n := by rw [hx, hn]; simp [krows]; omega
        by_cases hk : k < vals.length
        · have k1 : k.toNat < vals.length := by omega
          refine WT_t (by simp; omega) ?_
          refine WT_t (by simp; omega) ?_
          refine WT_elem [I vals[k.toNat]] (by simp) ?_
          refine WT_v ?_
          refine WT_t (by simp; omega) ?_
          refine WT_t (by simp [inR]; omega) ?_
          refine WT_again (k + 1, xs.take n ++ [[I vals[k.toNat], I b]], n + 1, ver + 1) ⟨by simp only []; omega, by simp only []; omega, by simp only []; omega, ?_⟩ (by simp only []; omega) (Weak.eqs [] (by kernel_rfl) (by kernel_rfl) (by kernel_rfl) (by kernel_rfl) (by kernel_rfl) (by kernel_rfl) (by kernel_rfl) (by kernel_rfl) (by kernel_rfl) (by kernel_rfl))
          simp only []
          rw [show (k + 1).toNat = k.toNat + 1 by omega, map_take_succ vals b k.toNat k1, List.take_of_length_le (by omega), hx]
          simp [krows, kidD]
        · refine WT_f (by simp; omega) ?_
          refine WT_break ?_
          refine WT_t (by simp [inR]; omega) ?_
          refine WT_t (by simp) ?_
          have e : R = (f, 1) := by rw [← hR, if_neg (fun h => h2 h.1.2)]
          exact WT_ret rfl rfl rfl rfl (congrArg frErr e.symm)
  · refine WT_f (by simp; omega) ?_
    refine WT_f rfl ?_
    refine WT_f rfl ?_
    refine WT_f rfl ?_
    refine WT_loop (fun x : Int × List (List Dat) × Nat × Nat => ⟨[(2, .d (ints vals)), (3, .ptr 0 0), (4, .ptr 1 0), (6, .ptr 2 0), (8, .ptr 9 0), (9, .d (.bool (false))), (63, .d (ints vals)), (64, .d (.int .i64 (vals.map fun n => [Dat.int .i64 n]).length)), (65, .d (I x.1))],
      [(9, .var [.d (I f.task), .ref 5 0 0 f.path.length, .d (I f.fn), .d (I f.pc), .ref 6 0 0 f.loc.length, .ref 7 0 0 f.stack.length, .ref 8 x.2.2.2 0 x.2.2.1, .d (I f.many), .d (I f.spent), .d (.bool f.fail)]), (8, .mt 2 x.2.2.2 x.2.1), (5, .mt 1 0 (rows f.path)), (6, .mt 1 0 (rows f.loc)), (7, .mt 1 0 (rows f.stack)), (0, .var (V.ofDat (frameD f)).cells), (1, .var (V.ofDat (askG 4 a b o1 o2 o3 o4 d)).cells), (2, .var zFrame)], 10, [], 0⟩)
      (fun x => 0 ≤ x.1 ∧ x.1 ≤ vals.length ∧ x.2.2.1 = f.kids.length + x.1.toNat ∧ x.2.1 = krows (f.kids ++ (vals.take x.1.toNat).map (fun v => (v, b)))) (fun x => (vals.length - x.1).toNat) (0, krows f.kids, f.kids.length, 0) ?_ ⟨by simp, by simp, by simp, by simp⟩ ?_
    · exact Weak.eqs [] (by kernel_rfl) (by kernel_rfl) (by kernel_rfl) (by kernel_rfl) (by kernel_rfl) (by kernel_rfl) (by kernel_rfl) (by kernel_rfl) (by kernel_rfl) (by kernel_rfl)
    · rintro ⟨k, xs, n, ver⟩ ⟨g0, g1, hn, hx⟩
      simp only at g0 g1 hn hx
      have hxl : xs.length = n := by rw [hx, hn]; simp [krows]; omega
      by_cases hk : k < vals.length
      · have k1 : k.toNat < vals.length := by omega
        refine WT_t (by simp; omega) ?_
        refine WT_t (by simp; omega) ?_
        refine WT_elem [I vals[k.toNat]] (by simp) ?_
        refine WT_v ?_
        refine WT_t (by simp; omega) ?_
        refine WT_t (by simp [inR]; omega) ?_
        refine WT_again (k + 1, xs.take n ++ [[I vals[k.toNat], I b]], n + 1, ver + 1) ⟨by simp only []; omega, by simp only []; omega, by simp only []; omega, ?_⟩ (by simp only []; omega) (Weak.eqs [] (by kernel_rfl) (by kernel_rfl) (by kernel_rfl) (by kernel_rfl) (by kernel_rfl) (by kernel_rfl) (by kernel_rfl) (by kernel_rfl) (by kernel_rfl) (by kernel_rfl))
        simp only []
        rw [show (k + 1).toNat = k.toNat + 1 by omega, map_take_succ vals b k.toNat k1, List.take_of_length_le (by omega), hx]
        simp [krows, kidD]
      · refine WT_f (by simp; omega) ?_
        refine WT_break ?_
        refine WT_t (by simp [inR]; omega) ?_
        refine WT_t (by simp) ?_
        have e : R = (f, 1) := by rw [← hR, if_neg (fun h => h1 h.1.1)]
        exact WT_ret rfl rfl rfl rfl (congrArg frErr e.symm)

theorem sync_succ (loc : List Int) (l : List ((Int × Int) × Int)) (k : Nat) (h : k < l.length) : syncL loc (l.take (k + 1)) = (if 0 ≤ l[k].1.2 then (syncL loc (l.take k)).set l[k].1.2.toNat l[k].2 else syncL loc (l.take k)) := by
  rw [List.take_succ_eq_append_getElem h, syncL, List.foldl_append]; rfl
theorem sync_len (loc : List Int) : ∀ (l : List ((Int × Int) × Int)), (syncL loc l).length = loc.length := by
  intro l
  induction l generalizing loc with
  | nil => rfl
  | cons p l ih =>
    show (syncL (if 0 ≤ p.1.2 then loc.set p.1.2.toNat p.2 else loc) l).length = _
    rw [ih]; split <;> simp
theorem rows_set (l : List Int) (k : Nat) (v : Int) : (rows l).set k [I v] = rows (l.set k v) := by simp [rows, List.map_set]

set_option maxRecDepth 100000 in
set_option maxHeartbeats 1000000 in
theorem told5 (f : Frame) (a b o1 o2 o3 o4 : Int) (d : Dat) (vals : List Int) (ht : TinyF f) (hv : vals.length < 1000) : Ret Try.prog 23 [frameD f, askG 5 a b o1 o2 o3 o4 d, ints vals] (frErr (toldS f 5 b vals)) := by
  have t1 := ht.path; have t2 := ht.loc; have t3 := ht.stack; have t4 := ht.kids; have t5 := ht.many0; have t6 := ht.many
  obtain ⟨R, hR⟩ : ∃ R, toldS f 5 b vals = R := ⟨_, rfl⟩
  rw [hR]
  unfold toldS toldOk toldF at hR
  simp at hR
  obtain ⟨R0, hR0⟩ : ∃ R0, (decide (vals.length = f.kids.length) && vals.all isVal) = R0 := ⟨_, rfl⟩
  have hbad : ∀ R1 : Bool, R1 = (R0 && f.kids.all (destOk f)) → R1 = false → R = (f, 1) := by
    intro R1 h1 h2
    rw [← hR, if_neg]
    intro h
    rw [hR0] at h
    rw [h2, h] at h1; cases h1
  have hgood : R0 = true → f.kids.all (destOk f) = true → R = ({ f with loc := syncL f.loc (f.kids.zip vals), kids := [] }, 0) ∧ vals.length = f.kids.length := by
    intro h1 h2
    rw [← hR0] at h1
    have h1' : vals.length = f.kids.length ∧ ∀ x ∈ vals, isVal x = true := by rw [Bool.and_eq_true, decide_eq_true_eq, List.all_eq_true] at h1; exact h1
    exact ⟨by rw [← hR, if_pos (by rw [hR0, ← hR0, h1, h2]; rfl)], h1'.1⟩
  have hlen0 : R0 = true → vals.length = f.kids.length := by
    intro h1; rw [← hR0, Bool.and_eq_true, decide_eq_true_eq] at h1; exact h1.1
  obtain ⟨D, hD⟩ : ∃ D, D = (if (R0 && f.kids.all (destOk f)) = true then Dat.tuple [.agg [I f.task, .slice 1 (rows f.path) false, I f.fn, I f.pc, .slice 1 (rows (syncL f.loc (f.kids.zip vals))) false, .slice 1 (rows f.stack) false, .nil, I f.many, I f.spent, .bool f.fail], I 0] else frErr (f, 1)) := ⟨_, rfl⟩
  have hle : DLe D (frErr R) := by
    by_cases hc : (R0 && f.kids.all (destOk f)) = true
    · have hc' := hc; rw [Bool.and_eq_true] at hc'
      rw [hD, if_pos hc, (hgood hc'.1 hc'.2).1]
      exact .tuple (.cons (.agg (.cons (.refl _) (.cons (.refl _) (.cons (.refl _) (.cons (.refl _) (.cons (.refl _) (.cons (.refl _) (.cons (.nil _) (.refl _))))))))) (.refl _))
    · rw [hD, if_neg hc, hbad _ rfl (by simpa using hc)]; exact .refl _
  refine Ret.res (r := D) ?_ hle
  refine Ret_by is23 rfl ?_
  refine WT_inl is34 rfl ?_
  refine WT_sub (clone27 f.path ht.path _ _) ?_
  rintro _ _ _ ⟨rfl, rfl, rfl⟩
  refine WT_sub (clone27 f.loc ht.loc _ _) ?_
  rintro _ _ _ ⟨rfl, rfl, rfl⟩
  refine WT_sub (clone27 f.stack ht.stack _ _) ?_
  rintro _ _ _ ⟨rfl, rfl, rfl⟩
  refine WT_sub (clone40 f.kids ht.kids _ _) ?_
  rintro _ _ _ ⟨rfl, rfl, rfl⟩
  refine WT_iret rfl rfl ?_
  refine WT_f rfl ?_
  refine WT_f rfl ?_
  refine WT_f rfl ?_
  refine WT_f rfl ?_
  refine WT_t rfl ?_
  by_cases h1 : vals.length = f.kids.length
  · refine WT_t (by simp [h1]) ?_
    refine WT_call _ (s26 _ (by omega)) ?_
    refine WT_t rfl ?_
    refine WT_loop (fun x : Int × Bool × List (List Dat) => ⟨[(2, .d (ints vals)), (3, .ptr 0 0), (4, .ptr 1 0), (6, .ptr 2 0), (8, .ptr 9 0), (9, .d (.bool x.2.1)), (97, .d (.slice 2 (f.kids.map kidD) false)), (98, .d (.int .i64 (f.kids.map kidD).length)), (99, .d (I x.1))],
      [(9, .var [.d (I f.task), .ref 5 0 0 f.path.length, .d (I f.fn), .d (I f.pc), .ref 6 0 0 f.loc.length, .ref 7 0 0 f.stack.length, .d .nil, .d (I f.many), .d (I f.spent), .d (.bool f.fail)]), (5, .mt 1 0 (rows f.path)), (6, .mt 1 0 x.2.2), (7, .mt 1 0 (rows f.stack)), (0, .var (V.ofDat (frameD f)).cells), (1, .var (V.ofDat (askG 5 a b o1 o2 o3 o4 d)).cells), (2, .var zFrame)], 10, [], 0⟩)
      (fun x => 0 ≤ x.1 ∧ x.1 ≤ f.kids.length ∧ x.2.2.length = f.loc.length ∧ x.2.1 = (R0 && (f.kids.take x.1.toNat).all (destOk f)) ∧ (x.2.1 = true → x.2.2 = rows (syncL f.loc ((f.kids.zip vals).take x.1.toNat)))) (fun x => (f.kids.length - x.1).toNat) (0, vals.all isVal, rows f.loc) ?_ ⟨by simp, by simp, by simp [rows], by rw [← hR0, decide_eq_true h1]; simp, fun _ => by simp [syncL]⟩ ?_
    · exact Weak.eqs [] (by kernel_rfl) (by kernel_rfl) (by kernel_rfl) (by kernel_rfl) (by kernel_rfl) (by kernel_rfl) (by kernel_rfl) (by kernel_rfl) (by kernel_rfl) (by kernel_rfl)
    · rintro ⟨k, rt, ls⟩ ⟨g0, g1, g2, g3, g4⟩
      simp only at g0 g1 g2 g3 g4
      by_cases hk : k < f.kids.length
      · have k1 : k.toNat < f.kids.length := by omega
        have hall : ∀ r : Bool, r = (rt && destOk f f.kids[k.toNat]) → r = (R0 && (f.kids.take (k + 1).toNat).all (destOk f)) := by
          intro r hr; rw [hr, g3, show (k + 1).toNat = k.toNat + 1 by omega, all_take _ _ _ k1, Bool.and_assoc]
        cases rt with
        | false =>
          refine WT_t (by simp; omega) ?_
          refine WT_t (by simp; omega) ?_
          refine WT_elem (kidD f.kids[k.toNat]) (by rw [List.getElem?_map, List.getElem?_eq_getElem k1]; rfl) ?_
          refine WT_f rfl ?_
          refine WT_f rfl ?_
          refine WT_f rfl ?_
          refine WT_f rfl ?_
          refine WT_f rfl ?_
          refine WT_t (by simp [inR]; omega) ?_
          exact WT_again (k + 1, false, ls) ⟨by simp only []; omega, by simp only []; omega, g2, hall _ (by simp), by simp⟩ (by simp only []; omega) (Weak.eqs [] (by kernel_rfl) (by kernel_rfl) (by kernel_rfl) (by kernel_rfl) (by kernel_rfl) (by kernel_rfl) (by kernel_rfl) (by kernel_rfl) (by kernel_rfl) (by kernel_rfl))
        | true =>
          have hr0 : R0 = true := by have g3' := g3.symm; rw [Bool.and_eq_true] at g3'; exact g3'.1
          have hvl := hlen0 hr0
          have k2 : k.toNat < vals.length := by omega
          have kz : k.toNat < (f.kids.zip vals).length := by simp; omega
          have ez : (f.kids.zip vals)[k.toNat] = (f.kids[k.toNat], vals[k.toNat]) := by simp
          have hls := g4 rfl
          have hsucc := sync_succ f.loc (f.kids.zip vals) k.toNat kz
          rw [ez] at hsucc
          have ek : (k + 1).toNat = k.toNat + 1 := by omega
          rw [← ek] at hsucc
          refine WT_t (by simp; omega) ?_
          refine WT_t (by simp; omega) ?_
          refine WT_elem (kidD f.kids[k.toNat]) (by rw [List.getElem?_map, List.getElem?_eq_getElem k1]; rfl) ?_
          refine WT_t rfl ?_
          refine WT_call _ (s37 _ _) ?_
          refine WT_t rfl ?_
          by_cases hd : dest f.kids[k.toNat].2 f.loc.length = true
          · refine WT_t (by simpa using hd) ?_
            refine WT_t rfl ?_
            have hall2 := hall (dest f.kids[k.toNat].2 (f.loc.map fun n => [Dat.int .i64 n]).length) (by simp [destOk])
            by_cases hp : 0 ≤ f.kids[k.toNat].2
            · have hd2 : f.kids[k.toNat].2 < f.loc.length := by simp [dest, below] at hd; omega
              have hd3 : f.kids[k.toNat].2.toNat < ls.length := by omega
              refine WT_t (by simpa using hp) ?_
              refine WT_t (by simp; omega) ?_
              refine WT_elem [I vals[k.toNat]] (by simp) ?_
              refine WT_t rfl ?_
              refine WT_t (by simp; omega) ?_
              refine WT_t rfl ?_
              refine WT_elem [I ((syncL f.loc ((f.kids.zip vals).take k.toNat)).getD f.kids[k.toNat].2.toNat 0)] (by rw [hls]; exact row_at (by rw [sync_len]; omega) (by simp)) ?_
              refine WT_t (by simp [inR]; omega) ?_
              refine WT_again (k + 1, dest f.kids[k.toNat].2 (f.loc.map fun n => [Dat.int .i64 n]).length, ls.set (0 + f.kids[k.toNat].2.toNat) [I vals[k.toNat]]) ⟨by simp only []; omega, by simp only []; omega, by simp [g2], hall2, fun _ => ?_⟩ (by simp only []; omega) (Weak.eqs [] (by kernel_rfl) (by kernel_rfl) (by kernel_rfl) (by kernel_rfl) (by kernel_rfl) (by kernel_rfl) (by kernel_rfl) (by kernel_rfl) (by kernel_rfl) (by kernel_rfl))
              simp only []
              rw [hsucc, if_pos hp, hls, Nat.zero_add, rows_set]
            · refine WT_f (by simpa using hp) ?_
              refine WT_t (by simp [inR]; omega) ?_
              refine WT_again (k + 1, dest f.kids[k.toNat].2 (f.loc.map fun n => [Dat.int .i64 n]).length, ls) ⟨by simp only []; omega, by simp only []; omega, g2, hall2, fun _ => ?_⟩ (by simp only []; omega) (Weak.eqs [] (by kernel_rfl) (by kernel_rfl) (by kernel_rfl) (by kernel_rfl) (by kernel_rfl) (by kernel_rfl) (by kernel_rfl) (by kernel_rfl) (by kernel_rfl) (by kernel_rfl))
              simp only []
              rw [hsucc, if_neg hp, hls]
          · have hd' : dest f.kids[k.toNat].2 f.loc.length = false := by simpa using hd
            refine WT_f (by simpa using hd') ?_
            refine WT_f rfl ?_
            refine WT_f rfl ?_
            refine WT_t (by simp [inR]; omega) ?_
            exact WT_again (k + 1, dest f.kids[k.toNat].2 (f.loc.map fun n => [Dat.int .i64 n]).length, ls) ⟨by simp only []; omega, by simp only []; omega, g2, hall _ (by simp [destOk]), fun h => by simp [hd'] at h⟩ (by simp only []; omega) (Weak.eqs [] (by kernel_rfl) (by kernel_rfl) (by kernel_rfl) (by kernel_rfl) (by kernel_rfl) (by kernel_rfl) (by kernel_rfl) (by kernel_rfl) (by kernel_rfl) (by kernel_rfl))
      · have hke : f.kids.take k.toNat = f.kids := List.take_of_length_le (by omega)
        rw [hke] at g3
        cases rt with
        | false =>
          refine WT_f (by simp; omega) ?_
          refine WT_break ?_
          refine WT_t rfl ?_
          exact WT_ret rfl rfl rfl rfl (by rw [hD, if_neg (by rw [← g3]; simp)]; rfl)
        | true =>
          have g3' := g3.symm; rw [Bool.and_eq_true] at g3'
          obtain ⟨e, hvl⟩ := hgood g3'.1 g3'.2
          have hls := g4 rfl
          rw [List.take_of_length_le (by simp; omega)] at hls
          refine WT_f (by simp; omega) ?_
          refine WT_break ?_
          refine WT_f rfl ?_
          refine WT_ret rfl rfl rfl rfl ?_
          rw [hD, if_pos g3.symm]
          show Dat.tuple [.agg [_, .slice 1 (((rows f.path).drop 0).take f.path.length) false, _, _, .slice 1 ((ls.drop 0).take f.loc.length) false, .slice 1 (((rows f.stack).drop 0).take f.stack.length) false, _, _, _, _], _] = _
          rw [rows_full rfl, rows_full rfl, hls, rows_full (by rw [sync_len])]
  · refine WT_f (by simp; omega) ?_
    refine WT_f rfl ?_
    refine WT_loop (fun x : Int × Bool × List (List Dat) => ⟨[(2, .d (ints vals)), (3, .ptr 0 0), (4, .ptr 1 0), (6, .ptr 2 0), (8, .ptr 9 0), (9, .d (.bool x.2.1)), (97, .d (.slice 2 (f.kids.map kidD) false)), (98, .d (.int .i64 (f.kids.map kidD).length)), (99, .d (I x.1))],
      [(9, .var [.d (I f.task), .ref 5 0 0 f.path.length, .d (I f.fn), .d (I f.pc), .ref 6 0 0 f.loc.length, .ref 7 0 0 f.stack.length, .d .nil, .d (I f.many), .d (I f.spent), .d (.bool f.fail)]), (5, .mt 1 0 (rows f.path)), (6, .mt 1 0 x.2.2), (7, .mt 1 0 (rows f.stack)), (0, .var (V.ofDat (frameD f)).cells), (1, .var (V.ofDat (askG 5 a b o1 o2 o3 o4 d)).cells), (2, .var zFrame)], 10, [], 0⟩)
      (fun x => 0 ≤ x.1 ∧ x.1 ≤ f.kids.length ∧ x.2.2.length = f.loc.length ∧ x.2.1 = (R0 && (f.kids.take x.1.toNat).all (destOk f)) ∧ (x.2.1 = true → x.2.2 = rows (syncL f.loc ((f.kids.zip vals).take x.1.toNat)))) (fun x => (f.kids.length - x.1).toNat) (0, false, rows f.loc) ?_ ⟨by simp, by simp, by simp [rows], by rw [← hR0, decide_eq_false h1]; simp, fun _ => by simp [syncL]⟩ ?_
    · exact Weak.eqs [] (by kernel_rfl) (by kernel_rfl) (by kernel_rfl) (by kernel_rfl) (by kernel_rfl) (by kernel_rfl) (by kernel_rfl) (by kernel_rfl) (by kernel_rfl) (by kernel_rfl)
    · rintro ⟨k, rt, ls⟩ ⟨g0, g1, g2, g3, g4⟩
      simp only at g0 g1 g2 g3 g4
      by_cases hk : k < f.kids.length
      · have k1 : k.toNat < f.kids.length := by omega
        have hall : ∀ r : Bool, r = (rt && destOk f f.kids[k.toNat]) → r = (R0 && (f.kids.take (k + 1).toNat).all (destOk f)) := by
          intro r hr; rw [hr, g3, show (k + 1).toNat = k.toNat + 1 by omega, all_take _ _ _ k1, Bool.and_assoc]
        cases rt with
        | false =>
          refine WT_t (by simp; omega) ?_
          refine WT_t (by simp; omega) ?_
          refine WT_elem (kidD f.kids[k.toNat]) (by rw [List.getElem?_map, List.getElem?_eq_getElem k1]; rfl) ?_
          refine WT_f rfl ?_
          refine WT_f rfl ?_
          refine WT_f rfl ?_
          refine WT_f rfl ?_
          refine WT_f rfl ?_
          refine WT_t (by simp [inR]; omega) ?_
          exact WT_again (k + 1, false, ls) ⟨by simp only []; omega, by simp only []; omega, g2, hall _ (by simp), by simp⟩ (by simp only []; omega) (Weak.eqs [] (by kernel_rfl) (by kernel_rfl) (by kernel_rfl) (by kernel_rfl) (by kernel_rfl) (by kernel_rfl) (by kernel_rfl) (by kernel_rfl) (by kernel_rfl) (by kernel_rfl))
        | true =>
          have hr0 : R0 = true := by have g3' := g3.symm; rw [Bool.and_eq_true] at g3'; exact g3'.1
          have hvl := hlen0 hr0
          have k2 : k.toNat < vals.length := by omega
          have kz : k.toNat < (f.kids.zip vals).length := by simp; omega
          have ez : (f.kids.zip vals)[k.toNat] = (f.kids[k.toNat], vals[k.toNat]) := by simp
          have hls := g4 rfl
          have hsucc := sync_succ f.loc (f.kids.zip vals) k.toNat kz
          rw [ez] at hsucc
          have ek : (k + 1).toNat = k.toNat + 1 := by omega
          rw [← ek] at hsucc
          refine WT_t (by simp; omega) ?_
          refine WT_t (by simp; omega) ?_
          refine WT_elem (kidD f.kids[k.toNat]) (by rw [List.getElem?_map, List.getElem?_eq_getElem k1]; rfl) ?_
          refine WT_t rfl ?_
          refine WT_call _ (s37 _ _) ?_
          refine WT_t rfl ?_
          by_cases hd : dest f.kids[k.toNat].2 f.loc.length = true
          · refine WT_t (by simpa using hd) ?_
            refine WT_t rfl ?_
            have hall2 := hall (dest f.kids[k.toNat].2 (f.loc.map fun n => [Dat.int .i64 n]).length) (by simp [destOk])
            by_cases hp : 0 ≤ f.kids[k.toNat].2
            · have hd2 : f.kids[k.toNat].2 < f.loc.length := by simp [dest, below] at hd; omega
              have hd3 : f.kids[k.toNat].2.toNat < ls.length := by omega
              refine WT_t (by simpa using hp) ?_
              refine WT_t (by simp; omega) ?_
              refine WT_elem [I vals[k.toNat]] (by simp) ?_
              refine WT_t rfl ?_
              refine WT_t (by simp; omega) ?_
              refine WT_t rfl ?_
              refine WT_elem [I ((syncL f.loc ((f.kids.zip vals).take k.toNat)).getD f.kids[k.toNat].2.toNat 0)] (by rw [hls]; exact row_at (by rw [sync_len]; omega) (by simp)) ?_
              refine WT_t (by simp [inR]; omega) ?_
              refine WT_again (k + 1, dest f.kids[k.toNat].2 (f.loc.map fun n => [Dat.int .i64 n]).length, ls.set (0 + f.kids[k.toNat].2.toNat) [I vals[k.toNat]]) ⟨by simp only []; omega, by simp only []; omega, by simp [g2], hall2, fun _ => ?_⟩ (by simp only []; omega) (Weak.eqs [] (by kernel_rfl) (by kernel_rfl) (by kernel_rfl) (by kernel_rfl) (by kernel_rfl) (by kernel_rfl) (by kernel_rfl) (by kernel_rfl) (by kernel_rfl) (by kernel_rfl))
              simp only []
              rw [hsucc, if_pos hp, hls, Nat.zero_add, rows_set]
            · refine WT_f (by simpa using hp) ?_
              refine WT_t (by simp [inR]; omega) ?_
              refine WT_again (k + 1, dest f.kids[k.toNat].2 (f.loc.map fun n => [Dat.int .i64 n]).length, ls) ⟨by simp only []; omega, by simp only []; omega, g2, hall2, fun _ => ?_⟩ (by simp only []; omega) (Weak.eqs [] (by kernel_rfl) (by kernel_rfl) (by kernel_rfl) (by kernel_rfl) (by kernel_rfl) (by kernel_rfl) (by kernel_rfl) (by kernel_rfl) (by kernel_rfl) (by kernel_rfl))
              simp only []
              rw [hsucc, if_neg hp, hls]
          · have hd' : dest f.kids[k.toNat].2 f.loc.length = false := by simpa using hd
            refine WT_f (by simpa using hd') ?_
            refine WT_f rfl ?_
            refine WT_f rfl ?_
            refine WT_t (by simp [inR]; omega) ?_
            exact WT_again (k + 1, dest f.kids[k.toNat].2 (f.loc.map fun n => [Dat.int .i64 n]).length, ls) ⟨by simp only []; omega, by simp only []; omega, g2, hall _ (by simp [destOk]), fun h => by simp [hd'] at h⟩ (by simp only []; omega) (Weak.eqs [] (by kernel_rfl) (by kernel_rfl) (by kernel_rfl) (by kernel_rfl) (by kernel_rfl) (by kernel_rfl) (by kernel_rfl) (by kernel_rfl) (by kernel_rfl) (by kernel_rfl))
      · have hke : f.kids.take k.toNat = f.kids := List.take_of_length_le (by omega)
        rw [hke] at g3
        cases rt with
        | false =>
          refine WT_f (by simp; omega) ?_
          refine WT_break ?_
          refine WT_t rfl ?_
          exact WT_ret rfl rfl rfl rfl (by rw [hD, if_neg (by rw [← g3]; simp)]; rfl)
        | true =>
          have g3' := g3.symm; rw [Bool.and_eq_true] at g3'
          obtain ⟨e, hvl⟩ := hgood g3'.1 g3'.2
          have hls := g4 rfl
          rw [List.take_of_length_le (by simp; omega)] at hls
          refine WT_f (by simp; omega) ?_
          refine WT_break ?_
          refine WT_f rfl ?_
          refine WT_ret rfl rfl rfl rfl ?_
          rw [hD, if_pos g3.symm]
          show Dat.tuple [.agg [_, .slice 1 (((rows f.path).drop 0).take f.path.length) false, _, _, .slice 1 ((ls.drop 0).take f.loc.length) false, .slice 1 (((rows f.stack).drop 0).take f.stack.length) false, _, _, _, _], _] = _
          rw [rows_full rfl, rows_full rfl, hls, rows_full (by rw [sync_len])]

end Uw.Try

/- Told, whatever the kind; the document's example. -/
set_option linter.unusedVariables false
namespace Uw.Try
open Go Uw Go.Proofs

theorem s23 (f : Frame) (k a b o1 o2 o3 o4 : Int) (d : Dat) (vals : List Int) (ht : TinyF f) (hv : vals.length < 1000) : Ret Try.prog 23 [frameD f, askG k a b o1 o2 o3 o4 d, ints vals] (frErr (toldS f k b vals)) := by
  by_cases h1 : k = 1
  · subst h1; exact told1 f a b o1 o2 o3 o4 d vals ht hv
  by_cases h2 : k = 2
  · subst h2; exact told2 f a b o1 o2 o3 o4 d vals ht hv
  by_cases h3 : k = 3
  · subst h3; exact told3 f a b o1 o2 o3 o4 d vals ht hv
  by_cases h4 : k = 4
  · subst h4; exact told4 f a b o1 o2 o3 o4 d vals ht hv
  by_cases h5 : k = 5
  · subst h5; exact told5 f a b o1 o2 o3 o4 d vals ht hv
  exact told0 f k a b o1 o2 o3 o4 d vals ht hv ⟨h1, h2, h3, h4, h5⟩

theorem s23a (f : Frame) (a : Ask) (vals : List Int) (ht : TinyF f) (hv : vals.length < 1000) : Ret Try.prog 23 [frameD f, askD a, ints vals] (frErr (toldS f a.kind a.b vals)) := s23 f a.kind a.a a.b a.op.1 a.op.2.1 a.op.2.2.1 a.op.2.2.2 (argsD a) vals ht hv

def l0 : List Ins := [⟨1, 2, 0, 0⟩, ⟨1, 3, 0, 0⟩, ⟨8, 0, 0, 0⟩, ⟨17, 0, 0, 0⟩]
def c0 : Code := plainC l0 0
def f0 : Frame := ⟨1, [], 0, 0, [], [], [], 0, 0, false⟩
def g0 : Frame := ⟨1, [], 0, 4, [], [], [], 0, 4, false⟩
def a0 : Ask := ⟨6, 6, 0, (0, 0, 0, 0), []⟩

theorem tiny_plain (l : List Ins) (n : Int) (f : Frame) (hl : l.length < 1000) (h1 : f.path.length < 1000) (h2 : f.loc.length < 1000) (h3 : f.stack.length < 1000) (h4 : f.kids.length < 1000) : Tiny (plainC l n) f :=
  ⟨by simp [plainC], by simp [plainC], by simp [plainC, hl], h1, h2, h3, h4⟩

theorem start_plain (l : List Ins) (n : Int) (task : Int) (path : List Int) (hn : 0 ≤ n) (hn2 : n < 1000) (ht : 1 ≤ task) (hp : path.length < 1000) : Ret Try.prog 12 [codeD (plainC l n), I 0, ints [], I task, ints path] (frErr (⟨task, path, 0, 0, List.replicate n.toNat 0, [], [], 0, 0, false⟩, 0)) := by
  have h := s12 (plainC l n) 0 [] task path (by simp [plainC]) (by simp [plainC]; omega) (by simp) hp
  have e : startS (plainC l n) 0 [] task path = (⟨task, path, 0, 0, List.replicate n.toNat 0, [], [], 0, 0, false⟩, 0) := by
    have h1 : startOk (plainC l n) 0 [] task = true := by
      have e1 : funAt (plainC l n) 0 = ⟨0, n, l⟩ := rfl
      have e2 : decide (task < 1) = false := by simp; omega
      have e3 : decide (n < 0) = false := by simp; omega
      rw [startOk, e1, e2]
      show (below 0 1 && !false && true && true && !decide (n < 0)) = true
      rw [e3]; rfl
    rw [startS, if_pos h1]
    simp [startF, funAt, plainC]
  rw [e] at h
  exact h

set_option maxRecDepth 100000 in
set_option maxHeartbeats 1000000 in
theorem s10 : Ret Try.prog 10 [] (.bool true) := by
  have hs : Ret Try.prog 12 [codeD c0, I 0, ints [], I 1, ints []] (frErr (f0, 0)) := start_plain l0 0 1 [] (by decide) (by decide) (by decide) (by decide)
  have hn : Ret Try.prog 21 [codeD c0, frameD f0] (outD f0 (.ok g0 a0)) := s21 c0 f0 (tiny_plain l0 0 f0 (by decide) (by decide) (by decide) (by decide) (by decide))
  have hn2 : Ret Try.prog 21 [codeD c0, frameD g0] (outD g0 (.err 1)) := s21 c0 g0 (tiny_plain l0 0 g0 (by decide) (by decide) (by decide) (by decide) (by decide))
  have ht : Ret Try.prog 23 [frameD f0, askG 1 0 0 0 0 0 0 .nil, ints []] (frErr (f0, 1)) := s23 f0 1 0 0 0 0 0 0 .nil [] ⟨by decide, by decide, by decide, by decide, by decide, by decide⟩ (by decide)
  have hc : Ret Try.prog 14 [frameD f0] (ints [0]) := s14 f0 (by decide)
  have hr : Ret Try.prog 22 [codeD c0, frameD f0] (.bool true) := s22 c0 f0 (tiny_plain l0 0 f0 (by decide) (by decide) (by decide) (by decide) (by decide))
  have hr2 : Ret Try.prog 22 [codeD c0, frameD zF] (.bool false) := s22 c0 zF (tiny_plain l0 0 zF (by decide) (by decide) (by decide) (by decide) (by decide))
  refine Ret_by is10 rfl ?_
  refine WT_callL (codeD c0) (s24 l0 0) (.cons (.slice (.refl _)) (.refl _)) ?_
  refine WT_callL (frErr (f0, 0)) hs (.cons (.refl _) (.cons (.refl _) (.cons (.nil _) (.cons (.refl _) (.cons (.nil _) (.refl _)))))) ?_
  refine WT_call _ hn ?_
  refine WT_call _ hn2 ?_
  refine WT_callL _ ht (.cons (.refl _) (.cons (.refl _) (.cons (.nil _) (.refl _)))) ?_
  refine WT_call _ hc ?_
  refine WT_f rfl ?_
  repeat (refine WT_t rfl ?_)
  refine WT_elem [I 0] rfl ?_
  repeat (refine WT_t rfl ?_)
  refine WT_call _ hr ?_
  repeat (refine WT_t rfl ?_)
  refine WT_callL _ hr2 (.cons (.refl _) (.cons (.agg (.cons (.refl _) (.cons (.nil _) (.cons (.refl _) (.cons (.refl _) (.cons (.nil _) (.cons (.nil _) (.cons (.nil _) (.refl _))))))))) (.refl _))) ?_
  repeat (refine WT_t rfl ?_)
  refine WT_call _ (s16 (-1)) ?_
  repeat (refine WT_t rfl ?_)
  refine WT_call _ (s18 5 0 0 0 6 true) ?_
  repeat (refine WT_t rfl ?_)
  refine WT_call _ (s18 2 0 0 0 6 true) ?_
  repeat (refine WT_t rfl ?_)
  exact WT_ret rfl rfl rfl rfl rfl

end Uw.Try

/- Next, step by step, in plain Lean. -/
set_option linter.unusedVariables false
namespace Uw
open Go
theorem WT_either {P : Program} {Q : MExit → St → Prop} {b : Bool} {y n : Tree} (g : WT P Q n) (e : b = true → n = y) : WT P Q (.test b y n) := ⟨fun h => e h ▸ g, fun _ => g⟩
end Uw
namespace Uw.Try
open Go Uw Go.Proofs

def runF (c : Code) (b : Body) (f : Frame) : Out := runN c b (fuelF f) f

theorem runF_go {c : Code} {b : Body} {f : Frame} (g : Frame) (h0 : 0 ≤ f.pc ∧ f.pc < b.ins.length) (hs : f.spent < 2000) (hd : f.stack.length ≤ 100) (h : stepS c b f (insAt b f) = some (g, ask0)) : runF c b f = runF c b g := by
  have st := step_stays h0.1 h0.2 hd h
  have := run_step (c := c) (b := b) (f := f) rfl hs (by simp [below]; omega)
  rw [h] at this
  simp only [show ask0.kind = 0 from rfl, if_true] at this
  have hsp : g.spent = f.spent + 1 := by
    rcases st.spent with ⟨h, _⟩ | ⟨_, h⟩
    · simp [ask0] at h
    · exact h
  rw [runF, this, runF, show fuelF f - 1 = fuelF g by simp only [fuelF]; omega]

theorem runF_ask {c : Code} {b : Body} {f : Frame} (g : Frame) (a : Ask) (h0 : 0 ≤ f.pc ∧ f.pc < b.ins.length) (hs : f.spent < 2000) (h : stepS c b f (insAt b f) = some (g, a)) (ha : a.kind ≠ 0) : runF c b f = .ok g a := by
  have := run_step (c := c) (b := b) (f := f) rfl hs (by simp [below]; omega)
  rw [h] at this
  simp only [ha, if_false] at this
  exact this

theorem runF_budget {c : Code} {b : Body} {f : Frame} (h : f.spent = 2000) : runF c b f = .err 11 := by
  rw [runF, show fuelF f = 0 + 1 by simp only [fuelF]; omega, runN, if_pos h]

theorem next_run {c : Code} {f : Frame} (h : right c f = true) : nextS c f = runF c (bodyAt c f) f := by simp [nextS, h, runF]

theorem s_push {c : Code} {b : Body} {f : Frame} {v : Int} (hi : insAt b f = ⟨1, v, 0, 0⟩) (hv : isVal v = true) (hd : f.stack.length < 100) : stepS c b f (insAt b f) = some (next (putF f v), ask0) := by
  rw [hi]; show sPush f ⟨1, v, 0, 0⟩ = _; rw [sPush, if_pos ⟨hv, hd⟩]

end Uw.Try
