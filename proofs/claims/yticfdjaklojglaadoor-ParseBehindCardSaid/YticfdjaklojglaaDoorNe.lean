/- Ne: Qa Qs Tl (merged by merge2.py from the working texts). -/
import Derived.Test.YticfdjaklojglaaDoorN8
import Derived.Test.YticfdjaklojglaaDoorN7
import Derived.Test.YticfdjaklojglaaDoorNb
import Derived.Test.YticfdjaklojglaaDoorNd
set_option linter.unusedSimpArgs false
set_option linter.unnecessarySimpa false
set_option linter.unusedVariables false
set_option linter.unusedSectionVars false
namespace Uw.Tryd
open Go Uw
def ofT (l : List Tok) : Pg × Int :=
 if 40 < deepT l 0 0 then (noPg, 2)
 else match progF l with
   | none => (noPg, 3)
   | some x => (pgOf x, 0)
theorem ofR_some {s : List UInt8} {l : List Tok} (h : lexF s 0 = some l) (hs : s.length ≤ 4000) : ofR s = ofT l := by
 have hw : wordsR s = (l, 0) := by unfold wordsR; rw [if_neg (by omega), h]
 unfold ofR ofT
 rw [hw]
 rfl
theorem ofR_none {s : List UInt8} (h : lexF s 0 = none) (hs : s.length ≤ 4000) : ofR s = (noPg, 3) := by
 have hw : wordsR s = ([], 3) := by unfold wordsR; rw [if_neg (by omega), h]
 unfold ofR
 rw [hw]
 rfl
theorem deepT_strip : ∀ (l : List Tok) (d m : Int), deepT (l.map strip) d m = deepT l d m
 | [], _, _ => rfl
 | t :: r, d, m => deepT_strip r _ _
theorem ofT_strip (l : List Tok) : ofT (l.map strip) = ofT l := by
 unfold ofT
 rw [progF_strip, deepT_strip]
theorem ofT_same {l m : List Tok} (h : l.map strip = m.map strip) : ofT l = ofT m := by
 rw [← ofT_strip l, h, ofT_strip]
theorem ofT_ok {l : List Tok} (h : (ofT l).2 = 0) : ∃ ds fs, Prg l ds fs ∧ ofT l = (pgOf (ds, fs), 0) ∧ deepT l 0 0 ≤ 40 := by
 unfold ofT at h ⊢
 by_cases hd : 40 < deepT l 0 0
 · rw [if_pos hd] at h; cases h
 · rw [if_neg hd] at h ⊢
   cases hp : progF l with
   | none => rw [hp] at h; cases h
   | some x =>
     obtain ⟨ds, fs⟩ := x
     exact ⟨ds, fs, progF_iff.1 hp, rfl, by omega⟩
theorem ofT_prg {l : List Tok} {ds : List Dec} {fs : List Fn} (h : Prg l ds fs) (hd : deepT l 0 0 ≤ 40) : ofT l = (pgOf (ds, fs), 0) := by
 unfold ofT
 rw [if_neg (by omega), progF_iff.2 h]
theorem ofT_bad {l : List Tok} (h : (ofT l).2 ≠ 0) (hd : deepT l 0 0 ≤ 40) : ofT l = (noPg, 3) := by
 unfold ofT at h ⊢
 rw [if_neg (by omega)] at h ⊢
 cases hp : progF l with
 | none => rfl
 | some x => rw [hp] at h; exact absurd rfl h
def Word1 (t : Tok) : Prop := ∃ r n, tokLen r = some (t.kind, n, t.n) ∧ t.text = r.take n
theorem words_word {s : List UInt8} {l : List Tok} (h : lexF s 0 = some l) : ∀ t ∈ l, Word1 t := by
 intro t ht
 obtain ⟨p, n, h1, h2, _⟩ := (placed_of h).mem t ht
 exact ⟨_, n, h1, h2⟩
def linesT (c : UInt8) (l : List Tok) : List UInt8 := l.flatMap fun t => t.text ++ [c]
theorem lex_lines (c : UInt8) (hc : cls c = 4) : ∀ (l : List Tok) (p : Int), (∀ t ∈ l, Word1 t) → ∃ m, lexF (linesT c l) p = some m ∧ m.map strip = l.map strip
 | [], p, _ => ⟨[], rfl, rfl⟩
 | t :: l, p, h => by
   obtain ⟨r, n, h1, h2⟩ := h t (List.mem_cons_self ..)
   obtain ⟨m, h3, h4⟩ := lex_lines c hc l (p + t.text.length + 1) (fun x hx => h x (List.mem_cons_of_mem _ hx))
   have e : linesT c (t :: l) = t.text ++ c :: linesT c l := by simp [linesT]
   refine ⟨⟨t.kind, t.text, t.n, p⟩ :: m, ?_, ?_⟩
   · have h5 : lexF t.text p = some [⟨t.kind, t.text, t.n, p⟩] := by rw [h2]; exact lexF_alone h1 p
     rw [e, lexF_app c hc _ _ _ _ (Nat.le_refl _), h5]
     show (lexF (linesT c l) (p + t.text.length + 1)).map _ = _
     rw [h3]; rfl
   · rw [List.map_cons, List.map_cons, h4]; rfl
theorem lines_len (c : UInt8) (l : List Tok) : (linesT c l).length = (l.map fun t => t.text.length + 1).sum := by
 induction l with
 | nil => rfl
 | cons t l ih =>
   have e : linesT c (t :: l) = t.text ++ [c] ++ linesT c l := by simp [linesT]
   rw [e, List.length_append, ih]
   simp
theorem take_sum {α : Type} (f : α → Nat) : ∀ (l : List α) (n : Nat), ((l.take n).map f).sum ≤ (l.map f).sum
 | [], n => by simp
 | a :: l, 0 => by simp
 | a :: l, n + 1 => by
   have := take_sum f l n
   simp only [List.take_succ_cons, List.map_cons, List.sum_cons]
   omega
theorem ofR_lines {s : List UInt8} {l : List Tok} (c : UInt8) (hc : cls c = 4) (h : lexF s 0 = some l) (hs : s.length ≤ 1500) (n : Nat) : ofR (linesT c (l.take n)) = ofT (l.take n) := by
 obtain ⟨m, h1, h2⟩ := lex_lines c hc (l.take n) 0 (fun t ht => words_word h t (List.mem_of_mem_take ht))
 have h3 := words_total h
 have h4 := lines_len c (l.take n)
 have h5 := take_sum (fun (t : Tok) => t.text.length + 1) l n
 rw [ofR_some h1 (by omega)]
 exact ofT_same h2
theorem deepT_ge : ∀ (l : List Tok) (d m : Int), m ≤ deepT l d m
 | [], _, m => Int.le_refl m
 | t :: r, d, m => by
   have := deepT_ge r (d + delta t.text) (max m (d + delta t.text))
   rw [deepT]; omega
theorem deepT_app : ∀ (a b : List Tok) (d m : Int), deepT (a ++ b) d m = deepT b (d + bal a) (deepT a d m)
 | [], b, d, m => by simp [deepT, bal]
 | t :: r, b, d, m => by
   rw [List.cons_append, deepT, deepT_app r b, deepT, bal, Int.add_assoc]
theorem deepT_from : ∀ (l : List Tok) (d m : Int), d ≤ m → deepT l d m = max m (d + deepT l 0 0)
 | [], d, m, h => by simp [deepT]; omega
 | t :: r, d, m, h => by
   rw [deepT, deepT, deepT_from r _ _ (Int.le_max_right ..), deepT_from r (0 + delta t.text) _ (Int.le_max_right ..)]
   omega
theorem deepT_take (l : List Tok) (n : Nat) : deepT (l.take n) 0 0 ≤ deepT l 0 0 := by
 conv => rhs; rw [← List.take_append_drop n l]
 rw [deepT_app]
 exact deepT_ge _ _ _
theorem Decs.cut {l1 r1 : List Tok} {ds1 : List Dec} (h1 : Decs l1 ds1 r1) : ∀ {r2 r3 : List Tok} {ds : List Dec}, Decs (l1 ++ r2) ds r3 → (r1 = [] → ∃ ds2, ds = ds1 ++ ds2 ∧ Decs r2 ds2 r3) ∧ (r1 ≠ [] → ds = ds1 ∧ r3 = r1 ++ r2) := by
 induction h1 with
 | stop h =>
   rename_i r
   intro r2 r3 ds h2
   refine ⟨fun e => ⟨ds, rfl, by subst e; exact h2⟩, fun hne => ?_⟩
   have hf : hd r = sFunc := h.resolve_left hne
   have hf2 : hd (r ++ r2) = sFunc := by rw [← hf, hd_app r r2 [] hne, List.append_nil]
   cases h2 with
   | stop _ => exact ⟨rfl, rfl⟩
   | cons hh _ _ => exact absurd (.inr hf2) hh
 | cons h hd' _ ih =>
   rename_i r r' r'' d ds1 _
   intro r2 r3 ds h2
   obtain ⟨c, e⟩ := isp_decl.pre _ _ _ hd'
   have hp : pDecl (r ++ r2) = .ok d (r' ++ r2) := by
     rw [e] at hd' ⊢
     rw [List.append_assoc]
     exact decl_end hd' _
   have hne : r ≠ [] := fun e => h (.inl e)
   have hnf : ¬ hd r = sFunc := fun e => h (.inr e)
   cases h2 with
   | stop hh =>
     rcases hh with hh | hh
     · exact absurd (List.append_eq_nil_iff.1 hh).1 hne
     · rw [hd_app r r2 [] hne, List.append_nil] at hh; exact absurd hh hnf
   | cons hh h3 h4 =>
     rw [hp] at h3
     injection h3 with e1 e2
     subst e1 e2
     obtain ⟨g1, g2⟩ := ih h4
     refine ⟨fun e => ?_, fun e => ?_⟩
     · obtain ⟨ds2, h5, h6⟩ := g1 e
       exact ⟨ds2, by rw [h5]; rfl, h6⟩
     · obtain ⟨h5, h6⟩ := g2 e
       exact ⟨by rw [h5], h6⟩
theorem fun_app {r r' : List Tok} {f : Fn} (h : Reads pFun r f r') (r2 : List Tok) : Reads pFun (r ++ r2) f (r' ++ r2) := by
 obtain ⟨n, h⟩ := h
 obtain ⟨c, e⟩ := (isp_fun n).pre _ _ _ h
 refine ⟨n, ?_⟩
 rw [e] at h ⊢
 rw [List.append_assoc]
 exact fun_end h _
theorem Funs.cut {l1 : List Tok} {fs1 : List Fn} (h1 : Funs l1 fs1) : ∀ {r2 : List Tok} {fs : List Fn}, Funs (l1 ++ r2) fs → ∃ fs2, fs = fs1 ++ fs2 ∧ Funs r2 fs2 := by
 induction h1 with
 | nil => exact fun h => ⟨_, rfl, h⟩
 | cons h _ ih =>
   rename_i r r' f fs1 _
   intro r2 fs h2
   have h3 := fun_app h r2
   have hne : r ≠ [] := by
     rintro rfl
     obtain ⟨n, h⟩ := h
     have := eats_fun n _ _ _ h
     simp at this
   generalize hl : r ++ r2 = l at h2 h3
   cases h2 with
   | nil => exact absurd (List.append_eq_nil_iff.1 hl).1 hne
   | cons h4 h5 =>
     obtain ⟨e1, e2⟩ := Reads.det isp_fun h3 h4
     subst e1 e2
     obtain ⟨fs2, h6, h7⟩ := ih h5
     exact ⟨fs2, by rw [h6]; rfl, h7⟩
theorem fun_one {t : Tok} {f : Fn} {r : List Tok} (h : Reads pFun [t] f r) : False := by
 obtain ⟨n, h⟩ := h
 rw [pFun] at h
 obtain ⟨_, r1, h1, h⟩ := bind_ok.1 h
 obtain ⟨_, rfl⟩ := want_ok h1
 obtain ⟨s, r2, h2, h⟩ := bind_ok.1 h
 cases h2
theorem decl_one {t : Tok} {d : Dec} {r : List Tok} (h : pDecl [t] = .ok d r) : False := by
 rw [pDecl_eq] at h
 obtain ⟨t', r1, h1, h⟩ := bind_ok.1 h
 obtain ⟨q, e1, rfl, hk⟩ := word_ok h1
 injection e1 with _ e1
 subst e1
 have h : cKind t'.text [] = .ok d r := h
 unfold cKind at h
 cases hk : kindOf t'.text with
 | none => rw [hk] at h; cases h
 | some k =>
   rw [hk] at h
   obtain ⟨s, r2, h2, h⟩ := bind_ok.1 h
   cases h2
theorem funs_one {t : Tok} {fs : List Fn} (h : Funs [t] fs) : False := by
 cases h with
 | cons h _ => exact fun_one h
theorem Prg.cut {l1 r2 : List Tok} {ds1 ds : List Dec} {fs1 fs : List Fn} (h1 : Prg l1 ds1 fs1) (h : Prg (l1 ++ r2) ds fs) : (∃ ds2 fs2, ds = ds1 ++ ds2 ∧ fs = fs1 ++ fs2) ∧ r2.length ≠ 1 := by
 obtain ⟨q1, a1, b1⟩ := h1
 obtain ⟨q, a, b⟩ := h
 obtain ⟨g1, g2⟩ := a1.cut a
 by_cases hq : q1 = []
 · obtain ⟨ds2, e1, h2⟩ := g1 hq
   subst hq
   have hfs : fs1 = [] := by
     cases b1 with
     | nil => rfl
     | cons h _ =>
       obtain ⟨n, h⟩ := h
       have := eats_fun n _ _ _ h
       simp at this
   subst hfs
   refine ⟨⟨ds2, fs, e1, rfl⟩, fun hl => ?_⟩
   obtain ⟨t, rfl⟩ := List.length_eq_one_iff.1 hl
   cases h2 with
   | stop _ => exact funs_one b
   | cons _ h3 _ => exact decl_one h3
 · obtain ⟨e1, e2⟩ := g2 hq
   subst e1 e2
   obtain ⟨fs2, e3, h3⟩ := b1.cut b
   refine ⟨⟨[], fs2, by simp, e3⟩, fun hl => ?_⟩
   obtain ⟨t, rfl⟩ := List.length_eq_one_iff.1 hl
   exact funs_one h3
theorem Decs.app {l1 r1 : List Tok} {ds : List Dec} (h : Decs l1 ds r1) (r2 : List Tok) (h2 : r2 = [] ∨ hd r2 = sFunc) : Decs (l1 ++ r2) ds (r1 ++ r2) := by
 induction h with
 | stop h =>
   rename_i r
   refine .stop ?_
   by_cases hr : r = []
   · subst hr; exact h2
   · rw [hd_app r r2 [] hr, List.append_nil]; exact .inr (h.resolve_left hr)
 | cons h hd' _ ih =>
   rename_i r r' r'' d ds1 _
   obtain ⟨c, e⟩ := isp_decl.pre _ _ _ hd'
   have hp : pDecl (r ++ r2) = .ok d (r' ++ r2) := by
     rw [e] at hd' ⊢
     rw [List.append_assoc]
     exact decl_end hd' _
   have hne : r ≠ [] := fun e => h (.inl e)
   refine .cons ?_ hp ih
   rintro (hh | hh)
   · exact hne (List.append_eq_nil_iff.1 hh).1
   · rw [hd_app r r2 [] hne, List.append_nil] at hh; exact h (.inr hh)
theorem Funs.app {l1 : List Tok} {fs1 : List Fn} (h : Funs l1 fs1) {l2 : List Tok} {fs2 : List Fn} (h2 : Funs l2 fs2) : Funs (l1 ++ l2) (fs1 ++ fs2) := by
 induction h with
 | nil => exact h2
 | cons h _ ih => exact .cons (fun_app h l2) ih
theorem Prg.app {l1 l2 : List Tok} {ds1 : List Dec} {fs1 fs2 : List Fn} (h1 : Prg l1 ds1 fs1) (h2 : Prg l2 [] fs2) : Prg (l1 ++ l2) ds1 (fs1 ++ fs2) := by
 obtain ⟨q1, a1, b1⟩ := h1
 obtain ⟨q2, a2, b2⟩ := h2
 cases a2 with
 | stop h => exact ⟨_, a1.app l2 h, b1.app b2⟩
theorem Decs.bal {r r' : List Tok} {ds : List Dec} (h : Decs r ds r') : (∀ t ∈ r, Wf t) → Uw.Tryd.bal r = Uw.Tryd.bal r' ∧ ∀ t ∈ r', Wf t := by
 induction h with
 | stop _ => exact fun h => ⟨rfl, h⟩
 | cons _ h1 _ ih =>
   intro ht
   have h2 := isp_decl.bal _ _ _ ht h1
   obtain ⟨c, e⟩ := isp_decl.pre _ _ _ h1
   obtain ⟨g1, g2⟩ := ih (fun t h => ht t (by rw [e]; exact List.mem_append_right _ h))
   exact ⟨by rw [h2, g1]; omega, g2⟩
theorem Funs.bal {r : List Tok} {fs : List Fn} (h : Funs r fs) : (∀ t ∈ r, Wf t) → Uw.Tryd.bal r = 0 := by
 induction h with
 | nil => exact fun _ => rfl
 | cons h1 _ ih =>
   intro ht
   obtain ⟨n, h1⟩ := h1
   have h2 := (isp_fun n).bal _ _ _ ht h1
   obtain ⟨c, e⟩ := (isp_fun n).pre _ _ _ h1
   rw [h2, ih (fun t h => ht t (by rw [e]; exact List.mem_append_right _ h))]; rfl
theorem Prg.bal {l : List Tok} {ds : List Dec} {fs : List Fn} (h : Prg l ds fs) (ht : ∀ t ∈ l, Wf t) : Uw.Tryd.bal l = 0 := by
 obtain ⟨q, a, b⟩ := h
 obtain ⟨h1, h2⟩ := a.bal ht
 rw [h1, b.bal h2]
def shN (d : Nat) (x : Nod) : Nod := { x with of := x.of.map (· + d) }
theorem shN_of (d : Nat) (k n : Int) (s1 s2 : Str) (l : List Nat) : shN d ⟨k, n, s1, s2, l⟩ = ⟨k, n, s1, s2, l.map (· + d)⟩ := rfl
theorem Exs.places_sh (d : Nat) : ∀ (e : Exs) (b : Nat), e.places (b + d) = (e.places b).map (· + d)
 | .nil, b => rfl
 | .cons e r, b => by
   have := e.sz_pos
   rw [Exs.places, Exs.places, List.map_cons, ← places_sh d r, show b + d + e.sz - 1 = b + e.sz - 1 + d by omega, show b + d + e.sz = b + e.sz + d by omega]
theorem Bl.places_sh (d : Nat) : ∀ (e : Bl) (b : Nat), e.places (b + d) = (e.places b).map (· + d)
 | .nil, b => rfl
 | .cons e r, b => by
   have := e.sz_pos
   rw [Bl.places, Bl.places, List.map_cons, ← places_sh d r, show b + d + e.sz - 1 = b + e.sz - 1 + d by omega, show b + d + e.sz = b + e.sz + d by omega]
mutual
theorem Ex.flat_sh (d : Nat) : ∀ (e : Ex) (b : Nat), e.flat (b + d) = (e.flat b).map (shN d)
 | .num _, b => rfl
 | .name _, b => rfl
 | .bin k x y, b => by
   have := x.sz_pos
   have := y.sz_pos
   rw [Ex.flat, Ex.flat, x.flat_sh d b, show b + d + x.sz = b + x.sz + d by omega, y.flat_sh d, List.map_append, List.map_append, List.map_cons, List.map_nil, shN_of, List.map_cons, List.map_cons, List.map_nil,
     show b + x.sz + d - 1 = b + x.sz - 1 + d by omega, show b + x.sz + d + y.sz - 1 = b + x.sz + y.sz - 1 + d by omega]
 | .call o v ar, b => by
   rw [Ex.flat, Ex.flat, ar.flat_sh d b, List.map_append, List.map_cons, List.map_nil, shN_of, ar.places_sh d b]
theorem Exs.flat_sh (d : Nat) : ∀ (e : Exs) (b : Nat), e.flat (b + d) = (e.flat b).map (shN d)
 | .nil, b => rfl
 | .cons e r, b => by
   rw [Exs.flat, Exs.flat, e.flat_sh d b, show b + d + e.sz = b + e.sz + d by omega, r.flat_sh d, List.map_append]
end
theorem Bl.all_sh (d : Nat) (x : Bl) (b : Nat) (h : x.flat (b + d) = (x.flat b).map (shN d)) : x.all (b + d) = (x.all b).map (shN d) := by
 rw [Bl.all, Bl.all, h, List.map_append, List.map_cons, List.map_nil, shN_of, x.places_sh d b]
mutual
theorem Stm.flat_sh (d : Nat) : ∀ (e : Stm) (b : Nat), e.flat (b + d) = (e.flat b).map (shN d)
 | .set s e, b => by
   have := e.sz_pos
   rw [Stm.flat, Stm.flat, e.flat_sh d b, List.map_append, List.map_cons, List.map_nil, shN_of, List.map_cons, List.map_nil, show b + d + e.sz - 1 = b + e.sz - 1 + d by omega]
 | .task par to f ar, b => by
   rw [Stm.flat, Stm.flat, ar.flat_sh d b, List.map_append, List.map_cons, List.map_nil, shN_of, ar.places_sh d b]
 | .sync, b => rfl
 | .if1 e x, b => by
   have := e.sz_pos
   have h := x.all_sh d (b + e.sz) (x.flat_sh d _)
   show e.flat (b + d) ++ x.all (b + d + e.sz) ++ [(⟨13, 0, [], [], [b + d + e.sz - 1, b + d + e.sz + (x.sz + 1) - 1]⟩ : Nod)] = (e.flat b ++ x.all (b + e.sz) ++ [(⟨13, 0, [], [], [b + e.sz - 1, b + e.sz + (x.sz + 1) - 1]⟩ : Nod)]).map (shN d)
   rw [e.flat_sh d b, show b + d + e.sz = b + e.sz + d by omega, h, List.map_append, List.map_append, List.map_cons, List.map_nil, shN_of, List.map_cons, List.map_cons, List.map_nil, show b + e.sz + d - 1 = b + e.sz - 1 + d by omega, show b + e.sz + d + (x.sz + 1) - 1 = b + e.sz + (x.sz + 1) - 1 + d by omega]
 | .if2 e x y, b => by
   have := e.sz_pos
   have h := x.all_sh d (b + e.sz) (x.flat_sh d _)
   have h2 := y.all_sh d (b + e.sz + (x.sz + 1)) (y.flat_sh d _)
   show e.flat (b + d) ++ x.all (b + d + e.sz) ++ y.all (b + d + e.sz + (x.sz + 1)) ++ [(⟨13, 0, [], [], [b + d + e.sz - 1, b + d + e.sz + (x.sz + 1) - 1, b + d + e.sz + (x.sz + 1) + (y.sz + 1) - 1]⟩ : Nod)] = (e.flat b ++ x.all (b + e.sz) ++ y.all (b + e.sz + (x.sz + 1)) ++ [(⟨13, 0, [], [], [b + e.sz - 1, b + e.sz + (x.sz + 1) - 1, b + e.sz + (x.sz + 1) + (y.sz + 1) - 1]⟩ : Nod)]).map (shN d)
   rw [e.flat_sh d b, show b + d + e.sz = b + e.sz + d by omega, h, show b + e.sz + d + (x.sz + 1) = b + e.sz + (x.sz + 1) + d by omega, h2, List.map_append, List.map_append, List.map_append, List.map_cons, List.map_nil, shN_of, List.map_cons, List.map_cons, List.map_cons, List.map_nil, show b + e.sz + d - 1 = b + e.sz - 1 + d by omega, show b + e.sz + (x.sz + 1) + d - 1 = b + e.sz + (x.sz + 1) - 1 + d by omega, show b + e.sz + (x.sz + 1) + d + (y.sz + 1) - 1 = b + e.sz + (x.sz + 1) + (y.sz + 1) - 1 + d by omega]
 | .loop e x, b => by
   have := e.sz_pos
   have h := x.all_sh d (b + e.sz) (x.flat_sh d _)
   show e.flat (b + d) ++ x.all (b + d + e.sz) ++ [(⟨14, 0, [], [], [b + d + e.sz - 1, b + d + e.sz + (x.sz + 1) - 1]⟩ : Nod)] = (e.flat b ++ x.all (b + e.sz) ++ [(⟨14, 0, [], [], [b + e.sz - 1, b + e.sz + (x.sz + 1) - 1]⟩ : Nod)]).map (shN d)
   rw [e.flat_sh d b, show b + d + e.sz = b + e.sz + d by omega, h, List.map_append, List.map_append, List.map_cons, List.map_nil, shN_of, List.map_cons, List.map_cons, List.map_nil, show b + e.sz + d - 1 = b + e.sz - 1 + d by omega, show b + e.sz + d + (x.sz + 1) - 1 = b + e.sz + (x.sz + 1) - 1 + d by omega]
 | .one k e, b => by
   have := e.sz_pos
   rw [Stm.flat, Stm.flat, e.flat_sh d b, List.map_append, List.map_cons, List.map_nil, shN_of, List.map_cons, List.map_nil, show b + d + e.sz - 1 = b + e.sz - 1 + d by omega]
 | .act o v ar, b => by
   rw [Stm.flat, Stm.flat, ar.flat_sh d b, List.map_append, List.map_append, List.map_cons, List.map_nil, List.map_cons, List.map_nil, shN_of, shN_of, ar.places_sh d b, List.map_cons, List.map_nil, show b + d + ar.sz + 1 - 1 = b + ar.sz + 1 - 1 + d by omega]
theorem Bl.flat_sh (d : Nat) : ∀ (e : Bl) (b : Nat), e.flat (b + d) = (e.flat b).map (shN d)
 | .nil, b => rfl
 | .cons e r, b => by
   rw [Bl.flat, Bl.flat, e.flat_sh d b, show b + d + e.sz = b + e.sz + d by omega, r.flat_sh d, List.map_append]
end
theorem nodesF_sh (d : Nat) : ∀ (fs : List Fn) (b : Nat), nodesF fs (b + d) = (nodesF fs b).map (shN d)
 | [], b => rfl
 | f :: fs, b => by
   rw [nodesF, nodesF, f.body.all_sh d b (f.body.flat_sh d b), show b + d + f.sz = b + f.sz + d by omega, nodesF_sh d fs, List.map_append]
def shF (d : Nat) (f : Fu) : Fu := { f with body := f.body + d }
theorem funsF_sh (d : Nat) : ∀ (fs : List Fn) (b : Nat), funsF fs (b + d) = (funsF fs b).map (shF d)
 | [], b => rfl
 | f :: fs, b => by
   rw [funsF, funsF, show b + d + f.sz = b + f.sz + d by omega, funsF_sh d fs, List.map_cons, shF]
   congr 2
   simp only
   omega
end Uw.Tryd
namespace Uw.Tryd
open Go Uw
theorem namesT_len : ∀ (n : Nat) {r r' : List Tok} {l : List Str}, pNamesT n r = .ok l r' → r'.length + l.length ≤ r.length
 | 0, _, _, _, h => by rw [pNamesT] at h; cases h
 | n + 1, r, r', l, h => by
   rw [pNamesT] at h
   split at h
   · rename_i hh
     obtain ⟨s, r1, h1, h⟩ := bind_ok.1 h
     obtain ⟨q, r2, h2, h⟩ := bind_ok.1 h
     injection h with e1 e2
     subst e1 e2
     have := (Suf.hd hh (by simp)).len
     have := (Suf.name h1).len
     have := namesT_len n h2
     simp only [List.length_cons]; omega
   · obtain ⟨_, r1, h1, h⟩ := bind_ok.1 h
     injection h with e1 e2
     subst e1 e2
     have := (Suf.want (by simp) h1).len
     simp only [List.length_nil]; omega
theorem names_len {n : Nat} {r r' : List Tok} {l : List Str} (h : pNames n r = .ok l r') : r'.length + l.length ≤ r.length := by
 rw [pNames] at h
 obtain ⟨_, r1, h1, h⟩ := bind_ok.1 h
 have := (Suf.want (by simp) h1).len
 split at h
 · injection h with e1 e2
   subst e1 e2
   simp; omega
 · obtain ⟨s, r2, h2, h⟩ := bind_ok.1 h
   obtain ⟨q, r3, h3, h⟩ := bind_ok.1 h
   injection h with e1 e2
   subst e1 e2
   have := (Suf.name h2).len
   have := namesT_len n h3
   simp only [List.length_cons]; omega
theorem fun_len {n : Nat} {r r' : List Tok} {f : Fn} (h : pFun n r = .ok f r') : r'.length + f.args.length + f.sz + 1 ≤ r.length := by
 rw [pFun] at h
 obtain ⟨_, r1, h1, h⟩ := bind_ok.1 h
 obtain ⟨s, r2, h2, h⟩ := bind_ok.1 h
 obtain ⟨l, r3, h3, h⟩ := bind_ok.1 h
 obtain ⟨b, r4, h4, h⟩ := bind_ok.1 h
 injection h with e1 e2
 subst e1 e2
 have := (Suf.want (by decide) h1).len
 have := (Suf.name h2).len
 have := names_len h3
 have := ((suf_s n).block _ _ _ h4).len
 show r4.length + l.length + (b.sz + 1) + 1 ≤ _
 omega
theorem Funs.len {r : List Tok} {fs : List Fn} (h : Funs r fs) : fs.length + sizeF fs ≤ r.length ∧ ∀ f ∈ fs, f.args.length ≤ r.length := by
 induction h with
 | nil => simp [sizeF]
 | cons h _ ih =>
   obtain ⟨n, h⟩ := h
   have h1 := fun_len h
   obtain ⟨i1, i2⟩ := ih
   refine ⟨by simp only [List.length_cons, sizeF]; omega, fun f hf => ?_⟩
   rcases List.mem_cons.1 hf with rfl | hf
   · omega
   · have := i2 f hf; omega
theorem Prg.len {l : List Tok} {ds : List Dec} {fs : List Fn} (h : Prg l ds fs) : ds.length + fs.length + sizeF fs ≤ l.length ∧ ∀ f ∈ fs, f.args.length ≤ l.length := by
 obtain ⟨r, h1, h2⟩ := h
 have := h1.len
 obtain ⟨i1, i2⟩ := h2.len
 exact ⟨by omega, fun f hf => by have := i2 f hf; omega⟩
theorem of_len {x : Nod} : ∀ {l : List Nod}, x ∈ l → x.of.length ≤ (ofs l).length
 | y :: l, h => by
   rw [show ofs (y :: l) = y.of ++ ofs l by simp [ofs], List.length_append]
   rcases List.mem_cons.1 h with rfl | h
   · omega
   · have := of_len h; omega
theorem funsF_mem {f : Fu} : ∀ {fs : List Fn} {b : Nat}, f ∈ funsF fs b → ∃ g ∈ fs, f.args = g.args
 | g :: fs, b, h => by
   rcases List.mem_cons.1 h with rfl | h
   · exact ⟨g, List.mem_cons_self .., rfl⟩
   · obtain ⟨g', h1, h2⟩ := funsF_mem h
     exact ⟨g', List.mem_cons_of_mem _ h1, h2⟩
theorem small_pg {l : List Tok} {ds : List Dec} {fs : List Fn} (h : Prg l ds fs) (hl : l.length < 1000000) : Small (pgOf (ds, fs)) := by
 obtain ⟨h1, h2⟩ := h.len
 refine ⟨?_, ?_, ?_, ?_, ?_⟩
 · show ds.length < _; omega
 · show (funsF fs 0).length < _; rw [funsF_len]; omega
 · show ((nodesF fs 0).map Nod.nd).length < _; rw [List.length_map, nodesF_len]; omega
 · intro f hf
   obtain ⟨g, h3, h4⟩ := funsF_mem hf
   have := h2 g h3
   rw [h4]; omega
 · intro x hx
   obtain ⟨y, h3, rfl⟩ := List.mem_map.1 hx
   have h4 : y.of.length ≤ (ofs (nodesF fs 0)).length := of_len h3
   have h5 := (nodesF_perm fs 0).length_eq
   rw [List.length_append, List.length_range'] at h5
   show (y.of.map _).length < _
   rw [List.length_map]; omega
theorem small_no : Small noPg := ⟨by decide, by decide, by decide, fun _ h => (by cases h), fun _ h => (by cases h)⟩
theorem words_short (s : List UInt8) : (wordsR s).1.length ≤ 4000 := by
 unfold wordsR
 split
 · simp
 · rename_i h
   split
   · simp
   · rename_i l hl
     have := (words_total hl).1
     simp only; omega
theorem small_of (s : List UInt8) : Small (ofR s).1 := by
 have hl := words_short s
 unfold ofR
 split
 · exact small_no
 · split
   · exact small_no
   · cases hp : progF (wordsR s).1 with
     | none => exact small_no
     | some x =>
       obtain ⟨ds, fs⟩ := x
       exact small_pg (progF_iff.1 hp) (by omega)
structure Bnd (p : Pg) : Prop where
 body : ∀ f ∈ p.funs, 0 ≤ f.body ∧ f.body < p.nodes.length
 of : ∀ (j : Nat) (h : j < p.nodes.length), ∀ c ∈ p.nodes[j].of, 0 ≤ c ∧ c < j
theorem funsF_body {f : Fu} : ∀ {fs : List Fn} {b : Nat}, f ∈ funsF fs b → 0 ≤ f.body ∧ f.body < ((b + sizeF fs : Nat) : Int)
 | g :: fs, b, h => by
   rcases List.mem_cons.1 h with rfl | h
   · simp only [sizeF, Fn.sz]; omega
   · have := funsF_body h
     simp only [sizeF]; omega
theorem bnd_pg (ds : List Dec) (fs : List Fn) : Bnd (pgOf (ds, fs)) := by
 have hn : (pgOf (ds, fs)).nodes.length = sizeF fs := by show ((nodesF fs 0).map _).length = _; rw [List.length_map, nodesF_len]
 refine ⟨fun f hf => ?_, fun j h c hc => ?_⟩
 · have := funsF_body (fs := fs) (b := 0) hf
   rw [hn]; omega
 · have h' : j < (nodesF fs 0).length := by rw [nodesF_len, ← hn]; exact h
   have e : (pgOf (ds, fs)).nodes[j] = (nodesF fs 0)[j].nd := List.getElem_map (f := Nod.nd) (l := nodesF fs 0) (i := j) (h := h)
   rw [e] at hc
   obtain ⟨i, hi, rfl⟩ := List.mem_map.1 hc
   have := (nodesF_low fs 0).at j h' i hi
   omega
theorem bnd_of (s : List UInt8) : Bnd (ofR s).1 := by
 have h0 : Bnd noPg := ⟨fun _ h => (by cases h), fun j h => absurd h (Nat.not_lt_zero j)⟩
 unfold ofR
 split
 · exact h0
 · split
   · exact h0
   · cases progF (wordsR s).1 with
     | none => exact h0
     | some x => exact bnd_pg x.1 x.2
end Uw.Tryd
namespace Uw.Tryd
open Go Uw
def alT1 : List UInt8 := [99, 101, 108, 108, 32, 120, 32, 61, 32, 55, 59, 32, 102, 117, 110, 99, 32, 102, 40, 97, 44, 32, 98, 41, 32, 123, 32, 125, 32, 102, 117, 110, 99, 32, 109, 97, 105, 110, 40, 41, 32, 123, 32, 120, 32, 61, 32, 49, 32, 43, 32, 50, 32, 42, 32, 51, 59, 32, 121, 32, 61, 32, 115, 112, 97, 119, 110, 32, 102, 40, 40, 49, 41, 44, 32, 120, 41, 59, 32, 125]
def alT2 : List UInt8 := [102, 117, 110, 99, 32, 109, 97, 105, 110, 40, 41, 32, 123, 32, 120, 32, 61, 32, 49, 32, 43, 32, 59, 32, 125]
def alTX : List UInt8 := [99, 101, 108, 108, 32, 120, 61, 55, 59, 102, 117, 110, 99, 32, 102, 40, 97, 44, 98, 41, 123, 125, 102, 117, 110, 99, 32, 109, 97, 105, 110, 40, 41, 123, 120, 61, 49, 43, 50, 42, 51, 59, 121, 61, 115, 112, 97, 119, 110, 32, 102, 40, 49, 44, 120, 41, 59, 125]
def alP : List Dec × List Fn := ([⟨0, [120], 7⟩], [⟨[102], [[97], [98]], .nil⟩, ⟨[109, 97, 105, 110], [], .cons (.set [120] (.bin 3 (.num 1) (.bin 5 (.num 2) (.num 3)))) (.cons (.task false [121] [102] (.cons (.num 1) (.cons (.name [120]) .nil))) .nil)⟩])
theorem alP_prog : progF (wordsR alT1).1 = some alP := by kernel_rfl
theorem al_of1 : ofR alT1 = (pgOf alP, 0) := by kernel_rfl
theorem al_of2 : ofR alT2 = (noPg, 3) := by kernel_rfl
theorem itoa_one (n : Nat) (h : n < 10) : Lib.itoa (n : Int) = [UInt8.ofNat (48 + n)] := by
 unfold Lib.itoa
 rw [if_neg (by omega), show ((n : Int)).toNat = n by omega, Lib.decDigits_one h]
theorem al_words : wProg alP = [[99, 101, 108, 108], [120], [61], [55], [59], [102, 117, 110, 99], [102], [40], [97], [44], [98], [41], [123], [125], [102, 117, 110, 99], [109, 97, 105, 110], [40], [41], [123], [120], [61], [49], [43], [50], [42], [51], [59], [121], [61], [115, 112, 97, 119, 110], [102], [40], [49], [44], [120], [41], [59], [125]] := by
 have e1 : Lib.itoa 1 = [49] := itoa_one 1 (by omega)
 have e2 : Lib.itoa 2 = [50] := itoa_one 2 (by omega)
 have e3 : Lib.itoa 3 = [51] := itoa_one 3 (by omega)
 have e7 : Lib.itoa 7 = [55] := itoa_one 7 (by omega)
 simp [wProg, alP, wDec, wFn, wBlock, wBl, wStm, wEx, wExs, wTail, wArgs, wStrs, e1, e2, e3, e7, tightO, signO, kindS, sCell, sFunc, sSpawn, sPar]
theorem al_join : joinR [] (wProg alP) = alTX := by rw [al_words]; kernel_rfl
theorem alP_good : (∀ d ∈ alP.1, d.good) ∧ ∀ f ∈ alP.2, f.good := by
 have h := words_ok alT1
 exact (progF_iff.1 alP_prog).good h
theorem al_text : Ret P0 n_parse_Text [pgD (pgOf alP)] (.str alTX) := by
 have h := s_parse_Text0 alP alP_good (by decide) (by rw [al_words]; decide) (by rw [al_join]; decide)
 rw [al_join] at h
 exact h
set_option maxRecDepth 8000 in
set_option maxHeartbeats 4000000 in
theorem s_law05_alive : Ret P0 n_law05_alive [] (.bool true) := by
 have h1 := s_parse_Of alT1 (by decide)
 have h2 := s_parse_Of alT2 (by decide)
 rw [al_of1] at h1
 rw [al_of2] at h2
 have h3 := al_text
 have h1 : Ret P0 n_parse_Of [.str alT1] (.tuple [pgD (pgOf alP), I 0]) := h1
 have h2 : Ret P0 n_parse_Of [.str alT2] (.tuple [pgD noPg, I 3]) := h2
 have e5 : (List.map ndL (pgOf alP).nodes)[Int.toNat 5]? = some [I 3, I 0, .str [], .str [], intsD [1, 4]] := by kernel_rfl
 have e6 : (List.map ndL (pgOf alP).nodes)[Int.toNat 6]? = some [I 9, I 0, .str [120], .str [], intsD [5]] := by kernel_rfl
 have e10 : (List.map ndL (pgOf alP).nodes)[Int.toNat 10]? = some [I 18, I 0, .str [], .str [], intsD [6, 9]] := by kernel_rfl
 have d0 : (List.map decL (pgOf alP).decls)[Int.toNat 0]? = some [I 0, .str [120], I 7] := by kernel_rfl
 have f0 : (List.map fuL (pgOf alP).funs)[Int.toNat 0]? = some [.str [102], .slice 1 [[.str [97]], [.str [98]]] false, I 0] := by kernel_rfl
 have f1 : (List.map fuL (pgOf alP).funs)[Int.toNat 1]? = some [.str [109, 97, 105, 110], .slice 1 [] false, I 10] := by kernel_rfl
 have n1 : (List.map decL (pgOf alP).decls).length = 1 := by kernel_rfl
 have n2 : (List.map fuL (pgOf alP).funs).length = 2 := by kernel_rfl
 have n3 : (List.map ndL (pgOf alP).nodes).length = 11 := by kernel_rfl
 refine Ret_by is_law05_alive rfl ?_
 ((repeat' first|refine aw ?_|refine bw (fun _=>?_) fun _=>?_))
 refine WT_draw ⟨[(7, .ptr 4 0), (6, .ptr 3 0), (5, .ptr 2 0), (1, .ptr 0 0)], [(4, .var [.d (I 18), .d (I 0), .d (.str []), .d (.str []), .d (intsD [6, 9])]), (3, .var [.d (I 9), .d (I 0), .d (.str [120]), .d (.str []), .d (intsD [5])]), (2, .var [.d (I 3), .d (I 0), .d (.str []), .d (.str []), .d (intsD [1, 4])]), (0, .var [.d (Dat.slice 3 (List.map decL (pgOf alP).decls) false), .d (Dat.slice 3 (List.map fuL (pgOf alP).funs) false), .d (Dat.slice 5 (List.map ndL (pgOf alP).nodes) false)])], 5, [], 0⟩ ?_ ?_
 · ((repeat' first|refine aw ?_|refine bw (fun _=>?_) fun _=>?_))
   repeat' first | refine WT_both ?_ ?_ | refine aw ?_
   all_goals first | exact WT_done (.inl ⟨rfl, Weak.eqs [(2, 2), (3, 3), (4, 4)] rfl rfl rfl rfl rfl rfl rfl rfl rfl rfl⟩) | exact WT_done (.inl ⟨rfl, Weak.eqs [(2, 2), (3, 4), (4, 3)] rfl rfl rfl rfl rfl rfl rfl rfl rfl rfl⟩) | exact WT_done (.inl ⟨rfl, Weak.eqs [(2, 3), (3, 2), (4, 4)] rfl rfl rfl rfl rfl rfl rfl rfl rfl rfl⟩) | exact WT_done (.inl ⟨rfl, Weak.eqs [(2, 3), (3, 4), (4, 2)] rfl rfl rfl rfl rfl rfl rfl rfl rfl rfl⟩) | exact WT_done (.inl ⟨rfl, Weak.eqs [(2, 4), (3, 2), (4, 3)] rfl rfl rfl rfl rfl rfl rfl rfl rfl rfl⟩) | exact WT_done (.inl ⟨rfl, Weak.eqs [(2, 4), (3, 3), (4, 2)] rfl rfl rfl rfl rfl rfl rfl rfl rfl rfl⟩)
 · have i0 : ([1, 4].map fun i => [I i])[Int.toNat 0]? = some [I 1] := rfl
   have i1 : ([1, 4].map fun i => [I i])[Int.toNat 1]? = some [I 4] := rfl
   have j1 : ([6, 9].map fun i => [I i])[Int.toNat 1]? = some [I 9] := rfl
   ((repeat' first|refine aw ?_|refine bw (fun _=>?_) fun _=>?_))
   refine WT_ret rfl rfl rfl rfl ?_
   exact congrArg Dat.bool (decide_eq_true (by kernel_rfl))
end Uw.Tryd
