/- N4: Un Uz Uz2 Uz3 Uz4 Uz5 Uz6 Uz7 Uz8 (merged by merge2.py from the working texts). -/
import Derived.Test.YtlnfojhdicbgiaaDoorN3
import Derived.LoopN
import Derived.Recover
import Derived.Carry
import Derived.ProofKit
import Derived.OpenShut
import Derived.SizedLaws
import Derived.Lib.SpaceUEq
set_option linter.unusedSimpArgs false
set_option linter.unnecessarySimpa false
set_option linter.unusedVariables false
set_option linter.unusedSectionVars false
namespace Uw
open Go Go.RowKit
variable [Glob]
theorem exec_ok {P : Program} {n : Nat} {pol : Pol} {Q : MExit → St → Prop} {w0 : World} {gs : Fr} : ∀ (code : Code) (m : MCode), comp P n pol code = some m → ∀ (q : MExit → St → Tree) (c : Cx) (st : St) (a : Act), Rel c w0 n gs st a →
   WT P Q (exec m st q) → Code.wp P code (Came P Q q c w0 n gs) a c.w := by
 intro code
 induction code with
 | skip =>
   intro m hc q c st a r h
   simp [comp] at hc; subst hc
   exact wp_skip ⟨c, .normal, st, rfl, rfl, rfl, trivial, r, h⟩
 | region id ops draw =>
   intro m hc q c st a r h
   cases draw with
   | true =>
     simp only [comp] at hc
     split at hc
     · rename_i l hm hl
       split at hc
       · rename_i hd
         simp at hc; subst hc
         have := drawn_ok (id := id) (Q := Q) (q := q) (w0 := w0) (gs := gs) hm hl hd r h
         simpa using this
       · rename_i hd
         have hc' : comp P n pol (.region id ops true) = some m := by simp only [comp, hm, hl, hd]; exact hc
         split at hc
         · simp only [Option.some.injEq] at hc; subst hc
           simp only [exec_skip, exec_ops, exec_seq, exec_cond, exec_block, exec_loop, exec_exit, exec_ret, exec_draw, WT] at h
           exact h n pol _ hc' c w0 gs a r
         · simp at hc
     · simp at hc
   | false =>
     simp only [comp, Option.map_eq_some_iff] at hc
     obtain ⟨l, hl, rfl⟩ := hc
     have := execOps_ok (P := P) (n := n) (ops := ops.toList) (Q := Q) (q := q) (w0 := w0) (gs := gs) (c0 := c) ops.toList l none c st a hl rfl rfl r (by intro t w' h' hh; simp at hh) h
     exact wp_region_list (by simpa using this)
 | seq x y ihx ihy =>
   intro m hc q c st a r h
   simp only [comp] at hc
   split at hc
   · rename_i mx my hx hy
     simp at hc; subst hc
     simp only [exec_skip, exec_ops, exec_seq, exec_cond, exec_block, exec_loop, exec_exit, exec_ret, exec_draw] at h
     refine wp_seq (Code.wp_mono ?_ (ihx mx hx _ c st a r h))
     intro e a' w' hq
     obtain ⟨c', me, st', e1, e2, e3, e4, e5, e6⟩ := hq
     subst e3
     cases e with
     | normal =>
       cases me <;> simp only [ExRel] at e4
       have := ihy my hy q c' st' a' e5 e6
       refine Code.wp_mono ?_ this
       intro e a'' w'' ⟨c'', me', st'', f1, f2, f3, f4, f5, f6⟩
       exact ⟨c'', me', st'', f1.trans e1, f2.trans e2, f3, f4, f5, f6⟩
     | exit id => cases me <;> simp only [ExRel] at e4; rename_i j; exact ⟨c', .exit j, st', e1, e2, rfl, e4, e5, e6⟩
     | goto l => cases me <;> simp only [ExRel] at e4
     | ret => cases me <;> simp only [ExRel] at e4; exact ⟨c', .ret, st', e1, e2, rfl, trivial, e5, e6⟩
     | panic ch => cases me <;> simp only [ExRel] at e4; rename_i d; exact ⟨c', .panic d, st', e1, e2, rfl, e4, e5, e6⟩
     | outgrown => cases me <;> simp only [ExRel] at e4
   · simp at hc
 | cond x y z ihy ihz =>
   intro m hc q c st a r h
   simp only [comp] at hc
   split at hc
   · rename_i cx my mz hx hy hz
     simp at hc; subst hc
     simp only [exec_skip, exec_ops, exec_seq, exec_cond, exec_block, exec_loop, exec_exit, exec_ret, exec_draw] at h
     split at h
     · rename_i b hb
       have e := opd_rel r hx hb
       simp only [RelV, RelI] at e
       simp only [WT] at h
       exact wp_cond_split e (fun hb' => ihy my hy q c st a r (h.1 hb')) (fun hb' => ihz mz hz q c st a r (h.2 hb'))
     · exact h.elim
   · simp at hc
 | block id x ih =>
   intro m hc q c st a r h
   simp only [comp, Option.map_eq_some_iff] at hc
   obtain ⟨mx, hx, rfl⟩ := hc
   simp only [exec_skip, exec_ops, exec_seq, exec_cond, exec_block, exec_loop, exec_exit, exec_ret, exec_draw] at h
   refine wp_block (Code.wp_mono ?_ (ih mx hx _ c st a r h))
   intro e a' w' hq
   obtain ⟨c', me, st', e1, e2, e3, e4, e5, e6⟩ := hq
   cases e with
   | normal => cases me <;> simp only [ExRel] at e4; exact ⟨c', .normal, st', e1, e2, e3, trivial, e5, e6⟩
   | exit j =>
     cases me <;> simp only [ExRel] at e4
     rename_i j'
     subst e4
     simp only [Exit.inBlock]
     by_cases hj : j = id
     · subst hj
       simp only [if_true]
       simp at e6
       exact ⟨c', .normal, st', e1, e2, e3, trivial, e5, e6⟩
     · have hb : Nat.beq j id = false := by
         rw [Bool.eq_false_iff]; intro hb; exact hj (Nat.eq_of_beq_eq_true hb)
       simp only [hb] at e6
       simp only [hj, if_false]
       exact ⟨c', .exit j, st', e1, e2, e3, rfl, e5, e6⟩
   | goto l => cases me <;> simp only [ExRel] at e4
   | ret => cases me <;> simp only [ExRel] at e4; exact ⟨c', .ret, st', e1, e2, e3, trivial, e5, e6⟩
   | panic ch => cases me <;> simp only [ExRel] at e4; rename_i d; exact ⟨c', .panic d, st', e1, e2, e3, e4, e5, e6⟩
   | outgrown => cases me <;> simp only [ExRel] at e4
 | loop x ih =>
   intro m hc q c st a r h
   have hc' := hc
   simp only [comp, Option.map_eq_some_iff] at hc
   obtain ⟨mx, hx, rfl⟩ := hc
   simp only [exec_skip, exec_ops, exec_seq, exec_cond, exec_block, exec_loop, exec_exit, exec_ret, exec_draw, WT] at h
   exact h n pol _ hc' c w0 gs a r
 | exit id =>
   intro m hc q c st a r h
   simp [comp] at hc; subst hc
   exact wp_exit ⟨c, .exit id, st, rfl, rfl, rfl, rfl, r, h⟩
 | ret =>
   intro m hc q c st a r h
   simp [comp] at hc; subst hc
   exact wp_ret ⟨c, .ret, st, rfl, rfl, rfl, trivial, r, h⟩
 | _ => intro m hc; simp [comp] at hc
theorem WT.mono {P : Program} {Q Q' : MExit → St → Prop} (hq : ∀ e st, Q e st → Q' e st) : ∀ (t : Tree), WT P Q t → WT P Q' t := by
 intro t
 induction t with
 | done e st => exact hq e st
 | fail => exact fun h => h
 | test b y n ih1 ih2 => exact fun h => ⟨fun hb => ih1 (h.1 hb), fun hb => ih2 (h.2 hb)⟩
 | elem xs i k ih => rintro ⟨x, h1, h2⟩; exact ⟨x, h1, ih x h2⟩
 | byte s i k ih => rintro ⟨x, h1, h2⟩; exact ⟨x, h1, ih x h2⟩
 | val o k ih => rintro ⟨x, h1, h2⟩; exact ⟨x, h1, ih x h2⟩
 | call f ds k ih => rintro ⟨r, h1, h2⟩; exact ⟨r, h1, ih r h2⟩
 | both y n ih1 ih2 => exact fun h => ⟨ih1 h.1, ih2 h.2⟩
 | same x y t ih => exact fun h => ⟨h.1, ih h.2⟩
 | sub f vs h nx k ih =>
   rintro ⟨hb, h⟩
   refine ⟨hb, fun c w0 F gvs h1 h2 h3 h4 h5 => (h c w0 F gvs h1 h2 h3 h4 h5).mono ?_⟩
   rintro e w' ⟨c', r, nx', e1, e2, e3, e4, e5, e6, e7, e8⟩
   exact ⟨c', r, nx', e1, e2, e3, e4, e5, e6, e7, ih r _ nx' e8⟩
 | code m st k ih =>
   intro h n pol code hc c w0 gs a r
   refine Code.wp_mono ?_ (h n pol code hc c w0 gs a r)
   intro e a' w' ⟨c', me, st', e1, e2, e3, e4, e5, e6⟩
   exact ⟨c', me, st', e1, e2, e3, e4, e5, ih me st' e6⟩
mutual
def V.closed (h : Heap) : V → Bool
 | .ptr id _ => (look h id).isSome
 | .eptr id _ _ _ => (look h id).isSome
 | .ref id _ _ _ => (look h id).isSome
 | .agg cs => closedL h cs
 | .func _ fs cs => closedL h fs && closedL h cs
 | .tuple cs => closedL h cs
 | .d _ => true
 | .ro _ _ => true
 | .hnd id => (look h id).isSome
 | .undef => true
def closedL (h : Heap) : List V → Bool
 | [] => true
 | v :: r => v.closed h && closedL h r
end
mutual
def V.ren (ρ : Nat → Nat) : V → V
 | .ptr id o => .ptr (ρ id) o
 | .eptr id v i c => .eptr (ρ id) v i c
 | .ref id v o l => .ref (ρ id) v o l
 | .agg cs => .agg (renL ρ cs)
 | .func f fs cs => .func f (renL ρ fs) (renL ρ cs)
 | .tuple cs => .tuple (renL ρ cs)
 | .d x => .d x
 | .ro cs o => .ro cs o
 | .hnd id => .hnd (ρ id)
 | .undef => .undef
def renL (ρ : Nat → Nat) : List V → List V
 | [] => []
 | v :: r => v.ren ρ :: renL ρ r
end
def Zero (ρ : Nat → Nat) (h h' : Heap) (v : V) : Prop := ∃ id k, v = .ref id 0 0 0 ∧ look h (ρ id) = none ∧ (look h' id = some (.arr k []) ∨ look h' id = some (.mt k 0 []))
def Froze (h : Heap) (v v' : V) : Prop := ∃ id ver off len k xs ys, v = .ref id ver off len ∧ look h id = some (.arr k xs) ∧ (xs.drop off).take len = ys ∧ v' = .d (.slice k ys false)
def VW0 (ρ : Nat → Nat) (h h' : Heap) (v v' : V) : Prop := (v = v'.ren ρ ∧ v'.closed h' = true) ∨ (v = .d .nil ∧ Zero ρ h h' v') ∨ v' = .undef ∨ Froze h v v'
def VWL0 (ρ : Nat → Nat) (h h' : Heap) : List V → List V → Prop
 | [], [] => True
 | v :: r, v' :: r' => VW0 ρ h h' v v' ∧ VWL0 ρ h h' r r'
 | _, _ => False
def VW (ρ : Nat → Nat) (h h' : Heap) (v v' : V) : Prop := (v = v'.ren ρ ∧ v'.closed h' = true) ∨ (v = .d .nil ∧ Zero ρ h h' v') ∨ v' = .undef ∨ Froze h v v' ∨ ∃ cs cs', v = .agg cs ∧ v' = .agg cs' ∧ VWL0 ρ h h' cs cs'
theorem VW0.up {ρ : Nat → Nat} {h h' : Heap} {v v' : V} (hw : VW0 ρ h h' v v') : VW ρ h h' v v' := by
 rcases hw with h | h | h | h
 · exact .inl h
 · exact .inr (.inl h)
 · exact .inr (.inr (.inl h))
 · exact .inr (.inr (.inr (.inl h)))
def VWL (ρ : Nat → Nat) (h h' : Heap) : List V → List V → Prop
 | [], [] => True
 | v :: r, v' :: r' => VW ρ h h' v v' ∧ VWL ρ h h' r r'
 | _, _ => False
def BSim (ρ : Nat → Nat) (h h' : Heap) : Blk → Blk → Prop
 | .var cs, .var cs' => VWL ρ h h' cs cs'
 | .arr k xs, .arr k' xs' => k = k' ∧ xs = xs'
 | .mt k v xs, .mt k' v' xs' => k = k' ∧ v = v' ∧ xs = xs'
 | .iter s p, .iter s' p' => s = s' ∧ p = p'
 | .map k es, .map k' es' => k = k' ∧ es = es'
 | _, _ => False
def ZeroB : Blk → Prop
 | .arr _ xs => xs = []
 | .mt _ v xs => v = 0 ∧ xs = []
 | _ => False
structure WeakR (ρ : Nat → Nat) (st st' : St) : Prop where
 regs : ∀ i v', look st'.regs i = some v' → ∃ v, look st.regs i = some v ∧ VW ρ st.heap st'.heap v v'
 heap : ∀ id b', look st'.heap id = some b' → (∃ b, look st.heap (ρ id) = some b ∧ BSim ρ st.heap st'.heap b b') ∨ (look st.heap (ρ id) = none ∧ ZeroB b')
 lt : ∀ id b, look st'.heap id = some b → id < st'.next
 base : st'.base = st.base
 next : st.base ≤ st'.next
 keep : ∀ id, id < st.base → ρ id = id ∧ ((look st.heap id).isSome = true → (look st'.heap id).isSome = true)
 inj : ∀ id id', (look st'.heap id).isSome = true → (look st'.heap id').isSome = true → ρ id = ρ id' → id = id'
 defers : closedL st'.heap st'.defers = true
 defers' : st.defers = renL ρ st'.defers
def Weak (st st' : St) : Prop := ∃ ρ, WeakR ρ st st'
def Cx.weakJ (c : Cx) (ρ : Nat → Nat) (h' : Heap) (J : JX) : Cx := { c with J0 := J, heap := h', pl := fun i => match look c.heap (ρ i) with | some _ => c.pl (ρ i) | none => ⟨0, 0⟩ }
abbrev Cx.weak (c : Cx) (ρ : Nat → Nat) (h' : Heap) : Cx := c.weakJ ρ h' c.J0
section
variable {c : Cx} {h' : Heap} {ρ : Nat → Nat} {J : JX} (hs : ∀ id b', look h' id = some b' → (∃ b, look c.heap (ρ id) = some b ∧ BSim ρ c.heap h' b b') ∨ (look c.heap (ρ id) = none ∧ ZeroB b'))
include hs
theorem weak_pl {id : Nat} {b : Blk} (h : look c.heap (ρ id) = some b) : (c.weakJ ρ h' J).pl id = c.pl (ρ id) := by simp [Cx.weakJ, h]
theorem weak_pl0 {id : Nat} (h : look c.heap (ρ id) = none) : (c.weakJ ρ h' J).pl id = ⟨0, 0⟩ := by simp [Cx.weakJ, h]
theorem Imm.weak (b o : Nat) (h : Imm c b o) : Imm (c.weak ρ h') b o := by
 rcases h with h | ⟨h1, h2, h3⟩
 · exact .inl h
 · refine .inr ⟨h1, h2, fun id blk hl hph hg => ?_⟩
   rcases hs id blk hl with ⟨b0, hb, hsim⟩ | ⟨hn, hz⟩
   · rw [weak_pl hs hb] at hph hg
     have hph0 : Ph (c.pl (ρ id)) b0 := by
       cases b0 <;> cases blk <;> simp [BSim] at hsim <;> first | exact hph | trivial
     obtain ⟨k, xs, e, hlt⟩ := h3 (ρ id) b0 hb hph0 hg
     subst e
     cases blk with
     | arr k' xs' => obtain ⟨rfl, rfl⟩ := hsim; exact ⟨k, xs, rfl, hlt⟩
     | _ => exact hsim.elim
   · rw [weak_pl0 hs hn] at hph
     exfalso
     cases blk <;> simp [ZeroB, Ph] at hz hph
theorem keeps_weak : Keeps c.w c.w (Imm c) (Imm (c.weak ρ h')) := fun b o h => ⟨Imm.weak hs b o h, rfl⟩
theorem weak_look {id : Nat} {b : Blk} (hc : (look h' id).isSome = true) (hb : look c.heap (ρ id) = some b) : ∃ b', look h' id = some b' ∧ BSim ρ c.heap h' b b' := by
 cases hl : look h' id with
 | none => rw [hl] at hc; simp at hc
 | some b' =>
   rcases hs id b' hl with ⟨b0, hb0, hsim⟩ | ⟨hn, _⟩
   · rw [hb] at hb0; injection hb0 with hb0; subst hb0; exact ⟨b', rfl, hsim⟩
   · rw [hb] at hn; cases hn
variable (hk : Keeps c.w c.w (Imm c) (Imm (c.weakJ ρ h' J)))
include hk
mutual
theorem RelV.weak : ∀ (x : V) (v : Value), x.closed h' = true → RelV c (x.ren ρ) v → RelV (c.weakJ ρ h' J) x v
 | .d x, v, _, r => RelI.keep (hk) x v r
 | .ptr id off, v, hc, r => by
   obtain ⟨⟨cs, h1⟩, h2⟩ := r
   obtain ⟨b', hb', hsim⟩ := weak_look hs hc h1
   cases b' with
   | var cs' => exact ⟨⟨cs', hb'⟩, by rw [weak_pl hs h1]; exact h2⟩
   | _ => exact hsim.elim
 | .ro cs off, v, _, r => by
   obtain ⟨b, o, h1, h2⟩ := r
   exact ⟨b, o, h1, RelC.keep (hk) _ _ _ h2⟩
 | .eptr id ver i cc, v, hc, r => by
   simp only [RelV, V.ren] at r ⊢
   cases hl : look c.heap (ρ id) with
   | none => rw [hl] at r; exact r.elim
   | some b =>
     obtain ⟨b', hb', hsim⟩ := weak_look hs hc hl
     rw [hl] at r
     show RelEptr (c.weakJ ρ h' J) id ver i cc v (look h' id)
     rw [hb']
     cases b with
     | mt k v0 xs =>
       cases b' with
       | mt k' v' xs' =>
         obtain ⟨rfl, rfl, rfl⟩ := hsim
         unfold RelEptr at *
         rw [weak_pl hs hl]; exact r
       | _ => exact hsim.elim
     | _ => exact r.elim
 | .ref id ver off len, v, hc, r => by
   simp only [RelV, V.ren] at r ⊢
   cases hl : look c.heap (ρ id) with
   | none => rw [hl] at r; exact r.elim
   | some b =>
     obtain ⟨b', hb', hsim⟩ := weak_look hs hc hl
     rw [hl] at r
     show RelRef (c.weakJ ρ h' J) id ver off len v (look h' id)
     rw [hb']
     cases b with
     | mt k v0 xs =>
       cases b' with
       | mt k' v' xs' =>
         obtain ⟨rfl, rfl, rfl⟩ := hsim
         unfold RelRef at *
         rw [weak_pl hs hl]; exact r
       | _ => exact hsim.elim
     | arr k xs =>
       cases b' with
       | arr k' xs' =>
         obtain ⟨rfl, rfl⟩ := hsim
         unfold RelRef at *
         rw [weak_pl hs hl]
         obtain ⟨r1, r2⟩ := r
         refine ⟨r1, ?_⟩
         rcases r2 with r2 | ⟨b, o, cap, r2, r3, r4, r5⟩
         · exact .inl r2
         · exact .inr ⟨b, o, cap, r2, r3, RelE.keep (hk) _ _ _ _ r4, r5⟩
       | _ => exact hsim.elim
     | _ => exact r.elim
 | .agg cs, v, hc, r => by
   obtain ⟨vs, h1, h2⟩ := r
   exact ⟨vs, h1, RelVL.weak cs vs hc h2⟩
 | .func f fs cap, v, hc, r => by
   obtain ⟨us, vs, h1, h2, h3⟩ := r
   simp only [V.closed, Bool.and_eq_true] at hc
   exact ⟨us, vs, h1, RelVL.weak fs us hc.1 h2, RelVL.weak cap vs hc.2 h3⟩
 | .tuple ds, v, hc, r => by
   obtain ⟨vs, h1, h2⟩ := r
   exact ⟨vs, h1, RelVL.weak ds vs hc h2⟩
 | .hnd id, v, hc, r => by
   simp only [RelV, V.ren] at r ⊢
   cases hl : look c.heap (ρ id) with
   | none => rw [hl] at r; exact r.elim
   | some b =>
     obtain ⟨b', hb', hsim⟩ := weak_look hs hc hl
     rw [hl] at r
     show RelHnd (c.weakJ ρ h' J) id v (look h' id)
     rw [hb']
     cases b with
     | iter s p =>
       cases b' with
       | iter s' p' => unfold RelHnd at *; rw [weak_pl hs hl]; exact r
       | _ => exact hsim.elim
     | map kk es =>
       cases b' with
       | map kk' es' => unfold RelHnd at *; rw [weak_pl hs hl]; exact r
       | _ => exact hsim.elim
     | _ => exact r.elim
 | .undef, v, _, r => trivial
theorem RelVL.weak : ∀ (xs : List V) (vs : List Value), closedL h' xs = true → RelVL c (renL ρ xs) vs → RelVL (c.weakJ ρ h' J) xs vs
 | [], vs, _, r => r
 | d :: ds, vs, hc, r => by
   obtain ⟨v, vs', h1, h2, h3⟩ := r
   simp only [closedL, Bool.and_eq_true] at hc
   exact ⟨v, vs', h1, RelV.weak d v hc.1 h2, RelVL.weak ds vs' hc.2 h3⟩
end
theorem RelV.vw0 {x x' : V} {v : Value} (hw : VW0 ρ c.heap h' x x') (r : RelV c x v) : RelV (c.weakJ ρ h' J) x' v := by
 rcases hw with ⟨rfl, hc⟩ | ⟨rfl, id, k, rfl, hn, hl⟩ | rfl | ⟨id, ver, off, len, k, xs, ys, rfl, hl, rfl, rfl⟩
 · exact RelV.weak hs hk x' v hc r
 · simp only [RelV, RelI] at r
   subst r
   have hpl := weak_pl0 (J := J) hs hn
   show RelRef (c.weakJ ρ h' J) id 0 0 0 (.slice none 0 0) (look h' id)
   rcases hl with hl | hl
   · rw [hl]; exact ⟨by simp, .inl ⟨rfl, rfl, fun _ => by rw [hpl]⟩⟩
   · rw [hl]; exact ⟨Nat.le_refl _, ⟨_, _, _, rfl⟩, fun _ => ⟨by simp, .inl ⟨rfl, rfl, rfl, by rw [hpl]⟩⟩⟩
 · trivial
 · exact RelI.keep hk _ _ (ref_dat hl r)
theorem RelVL.vw0 : ∀ {xs xs' : List V} {vs : List Value}, VWL0 ρ c.heap h' xs xs' → RelVL c xs vs → RelVL (c.weakJ ρ h' J) xs' vs
 | [], [], vs, _, r => r
 | x :: xs, x' :: xs', vs, hw, r => by
   obtain ⟨v, vs', h1, h2, h3⟩ := r
   exact ⟨v, vs', h1, RelV.vw0 hs hk hw.1 h2, RelVL.vw0 hw.2 h3⟩
 | [], _ :: _, vs, hw, r => hw.elim
 | _ :: _, [], vs, hw, r => hw.elim
theorem RelV.vw {x x' : V} {v : Value} (hw : VW ρ c.heap h' x x') (r : RelV c x v) : RelV (c.weakJ ρ h' J) x' v := by
 rcases hw with h | h | h | h | ⟨cs, cs', rfl, rfl, h⟩
 · exact RelV.vw0 hs hk (.inl h) r
 · exact RelV.vw0 hs hk (.inr (.inl h)) r
 · exact RelV.vw0 hs hk (.inr (.inr (.inl h))) r
 · exact RelV.vw0 hs hk (.inr (.inr (.inr h))) r
 · obtain ⟨vs, h1, h2⟩ := r
   exact ⟨vs, h1, RelVL.vw0 hs hk h h2⟩
theorem RelVL.vw : ∀ {xs xs' : List V} {vs : List Value}, VWL ρ c.heap h' xs xs' → RelVL c xs vs → RelVL (c.weakJ ρ h' J) xs' vs
 | [], [], vs, _, r => r
 | x :: xs, x' :: xs', vs, hw, r => by
   obtain ⟨v, vs', h1, h2, h3⟩ := r
   exact ⟨v, vs', h1, RelV.vw hs hk hw.1 h2, RelVL.vw hw.2 h3⟩
 | [], _ :: _, vs, hw, r => hw.elim
 | _ :: _, [], vs, hw, r => hw.elim
theorem BlkRel.weak {id : Nat} {b b' : Blk} (hl : look c.heap (ρ id) = some b) (hsim : BSim ρ c.heap h' b b') (r : BlkRel c (ρ id) b) : BlkRel (c.weakJ ρ h' J) id b' := by
 have hp := weak_pl (J := J) hs hl
 cases b with
 | var cs =>
   cases b' with
   | var cs' => obtain ⟨vs, e, h1, h2⟩ := r; exact ⟨vs, e, by rw [hp]; exact h1, RelVL.vw hs hk hsim h2⟩
   | _ => exact hsim.elim
 | arr k xs =>
   cases b' with
   | arr k' xs' =>
     obtain ⟨rfl, rfl⟩ := hsim
     obtain ⟨h0, r⟩ := r
     refine ⟨by rw [hp]; exact h0, fun hc => ?_⟩
     rw [hp] at hc ⊢
     obtain ⟨vs, e, h1, h2, h4⟩ := r hc
     exact ⟨vs, e, h1, h2, RelE.keep (hk) _ _ _ _ h4⟩
   | _ => exact hsim.elim
 | mt k v xs =>
   cases b' with
   | mt k' v' xs' =>
     obtain ⟨rfl, rfl, rfl⟩ := hsim
     obtain ⟨h0, h4, r⟩ := r
     refine ⟨by rw [hp]; exact h0, h4, fun hc => ?_⟩
     rw [hp] at hc ⊢
     obtain ⟨vs, e, h1, h2, h5, h6⟩ := r hc
     exact ⟨vs, e, h1, h2, RelL.keep (hk) _ _ h5, h6⟩
   | _ => exact hsim.elim
 | iter s p =>
   cases b' with
   | iter s' p' => obtain ⟨rfl, rfl⟩ := hsim; unfold BlkRel at *; rw [hp]; exact r
   | _ => exact hsim.elim
 | map kk es =>
   cases b' with
   | map kk' es' => obtain ⟨rfl, rfl⟩ := hsim; obtain ⟨ms, k, h1, h2⟩ := r; exact ⟨ms, k, by rw [hp]; exact h1, RelM.keep (hk) _ _ h2⟩
   | _ => exact hsim.elim
theorem RelDefers.weak : ∀ {vs : List V} {ds : List Deferred}, closedL h' vs = true → RelDefers c (renL ρ vs) ds → RelDefers (c.weakJ ρ h' J) vs ds
 | [], _, _, r => r
 | v :: vs, ds, hc, r => by
   obtain ⟨d, ds', f, first, cap, fs, cs, h1, hv, h3, h4, h6, h5⟩ := r
   cases v with
   | func f0 first0 cap0 =>
     simp only [V.ren, V.func.injEq] at hv
     obtain ⟨rfl, rfl, rfl⟩ := hv
     simp only [closedL, V.closed, Bool.and_eq_true] at hc
     exact ⟨d, ds', f0, first0, cap0, fs, cs, h1, rfl, h3, RelVL.weak hs hk _ _ hc.1.1 h4, RelVL.weak hs hk _ _ hc.1.2 h6, RelDefers.weak hc.2 h5⟩
   | _ => simp [V.ren] at hv
end
theorem BSim.ph {ρ : Nat → Nat} {h h' : Heap} {p : Pl} {b b' : Blk} (hs : BSim ρ h h' b b') (hp : Ph p b') : Ph p b := by
 cases b <;> cases b' <;> simp [BSim] at hs <;> first | exact hp | trivial
theorem Rel.weakR {c : Cx} {w0 : World} {n : Nat} {gs : Fr} {st st' : St} {a : Act} {ρ : Nat → Nat} (r : Rel c w0 n gs st a) (h : WeakR ρ st st') : Rel (c.weak ρ st'.heap) w0 n gs st' a := by
 have hs : ∀ id b', look st'.heap id = some b' → (∃ b, look c.heap (ρ id) = some b ∧ BSim ρ c.heap st'.heap b b') ∨ (look c.heap (ρ id) = none ∧ ZeroB b') := by rw [r.heap]; exact h.heap
 have nz : ∀ id b', look c.heap (ρ id) = none → ZeroB b' → ¬ Ph ((c.weak ρ st'.heap).pl id) b' := by
   intro id b' hn hz hp
   rw [weak_pl0 hs hn] at hp
   cases b' <;> simp [ZeroB, Ph] at hz hp
 refine ⟨rfl, ⟨r.hrel.below, r.hrel.other, r.hrel.size0, ?_, h.lt, ?_, ?_⟩, r.size, ?_, ?_, by rw [h.base]; exact r.fbase, by rw [h.base]; exact h.next, ?_⟩
 · intro id b' hl
   rcases hs id b' hl with ⟨b, hb, hsim⟩ | ⟨hn, hz⟩
   · exact BlkRel.weak hs (keeps_weak hs) hb hsim (r.hrel.blk (ρ id) b hb)
   · have hp := weak_pl0 (J := c.J0) hs hn
     cases b' with
     | arr k xs => simp [ZeroB] at hz; subst hz; exact ⟨by simp, fun hc => by rw [hp] at hc; simp at hc⟩
     | mt k v xs => simp [ZeroB] at hz; obtain ⟨rfl, rfl⟩ := hz; exact ⟨by simp, by simp, fun hc => by rw [hp] at hc; simp at hc⟩
     | _ => exact hz.elim
 · intro id b' hl hph
   rcases hs id b' hl with ⟨b, hb, hsim⟩ | ⟨hn, hz⟩
   · rw [weak_pl hs hb] at hph ⊢; exact r.hrel.ge (ρ id) b hb (hsim.ph hph)
   · exact (nz id b' hn hz hph).elim
 · intro id id' b1 b2 h1 h2 p1 p2 hg
   rcases hs id b1 h1 with ⟨x1, hb1, s1⟩ | ⟨hn, hz⟩
   · rcases hs id' b2 h2 with ⟨x2, hb2, s2⟩ | ⟨hn, hz⟩
     · rw [weak_pl hs hb1] at p1 hg
       rw [weak_pl hs hb2] at p2 hg
       have := r.hrel.inj (ρ id) (ρ id') x1 x2 hb1 hb2 (s1.ph p1) (s2.ph p2) hg
       refine h.inj id id' ?_ ?_ this
       · show (look st'.heap id).isSome = true
         have h1' : look st'.heap id = some b1 := h1
         rw [h1']; rfl
       · show (look st'.heap id').isSome = true
         have h2' : look st'.heap id' = some b2 := h2
         rw [h2']; rfl
     · exact (nz id' b2 hn hz p2).elim
   · exact (nz id b1 hn hz p1).elim
 · intro i v' hv
   obtain ⟨v, hv1, hv2⟩ := h.regs i v' hv
   rw [← r.heap] at hv2
   exact RelV.vw hs (keeps_weak hs) hv2 (r.regs i v hv1)
 · refine gs.ok c _ ⟨keeps_weak hs, ?_⟩ r.frames
   intro id b hid hb
   have hid' : id < st.base := Nat.lt_of_lt_of_le hid r.fbase
   obtain ⟨hk1, hk2⟩ := h.keep id hid'
   have hsome : (look st'.heap id).isSome = true := hk2 (by rw [← r.heap, hb]; rfl)
   have hb' : look c.heap (ρ id) = some b := by rw [hk1]; exact hb
   obtain ⟨b', e1, e2⟩ := weak_look hs hsome hb'
   refine ⟨b', e1, ?_⟩
   rw [weak_pl hs hb', hk1]
   cases b <;> cases b' <;> simp [BSim] at e2 <;> simp [BlkEvo, e2]
 · exact RelDefers.weak hs (keeps_weak hs) h.defers (by rw [← h.defers']; exact r.defers)
theorem Rel.weak {c : Cx} {w0 : World} {n : Nat} {gs : Fr} {st st' : St} {a : Act} (r : Rel c w0 n gs st a) (h : Weak st st') : ∃ c', c'.B = c.B ∧ c'.J0 = c.J0 ∧ c'.w = c.w ∧ Keeps c.w c.w (Imm c) (Imm c') ∧ Rel c' w0 n gs st' a := by
 obtain ⟨ρ, h⟩ := h
 exact ⟨c.weak ρ st'.heap, rfl, rfl, rfl, keeps_weak (by rw [r.heap]; exact h.heap), r.weakR h⟩
theorem comp_loop {P : Program} {n : Nat} {pol : Pol} {code : Code} {m : MCode} (hc : comp P n pol code = some (.loop m)) : ∃ x, code = .loop x ∧ comp P n pol x = some m := by
 cases code with
 | loop x =>
   simp only [comp, Option.map_eq_some_iff, MCode.loop.injEq] at hc
   obtain ⟨mx, hx, rfl⟩ := hc
   exact ⟨x, rfl, hx⟩
 | region id ops draw =>
   cases draw with
   | false => simp [comp] at hc
   | true =>
     simp only [comp] at hc
     split at hc
     · split at hc
       · simp at hc
       · split at hc <;> simp at hc
     · simp at hc
 | seq x y => simp only [comp] at hc; split at hc <;> simp at hc
 | cond x y z => simp only [comp] at hc; split at hc <;> simp at hc
 | _ => simp [comp] at hc
theorem comp_draw {P : Program} {n : Nat} {pol : Pol} {code : Code} {fuel : Nat} {l : List DOp} (hc : comp P n pol code = some (.draw fuel l)) : ∃ id ops mi, code = .region id ops true ∧ P.follows .mixedOrders = true ∧ compOps P n pol ops.toList ops.toList = some mi ∧ drawB2 (mkDraw ops.toList mi) = true ∧ l = mkDraw ops.toList mi := by
 cases code with
 | region id ops draw =>
   cases draw with
   | false => simp [comp] at hc
   | true =>
     simp only [comp] at hc
     split at hc
     · rename_i mi hm hl
       split at hc
       · simp at hc
       · split at hc
         · rename_i hb
           simp only [Option.some.injEq, MCode.draw.injEq] at hc
           exact ⟨id, ops, mi, rfl, hm, hl, hb, hc.2.symm⟩
         · simp at hc
     · simp at hc
 | seq x y => simp only [comp] at hc; split at hc <;> simp at hc
 | cond x y z => simp only [comp] at hc; split at hc <;> simp at hc
 | _ => simp [comp] at hc
theorem SatM_draw {P : Program} {fuel : Nat} {l : List DOp} {st : St} {Q : MExit → St → Prop} (h : WT P (fun e s => ∃ s', (s' = s ∨ Weak s s') ∧ Q e s') (drawT l (keepR l st.regs) fuel [] [] st Tree.done)) : SatM P (.draw fuel l) st Q := by
 intro n pol code hc c w0 gs a r
 obtain ⟨id, ops, mi, rfl, hm, hl, hb, rfl⟩ := comp_draw hc
 have := drawn2_ok (id := id) (w0 := w0) (gs := gs) (q := Tree.done) hm hl hb r h
 have e : ops.toList.toArray = ops := by simp
 rw [e] at this
 refine Code.wp_mono ?_ this
 intro e a' w' ⟨c', me, st', e1, e2, e3, e4, e5, e6⟩
 obtain ⟨s', hw, hq⟩ := e6
 subst e3
 obtain ⟨c3, k1, k2, k3, k5, k4⟩ : ∃ c3 : Cx, c3.B = c'.B ∧ c3.J0 = c'.J0 ∧ c3.w = c'.w ∧ Keeps c'.w c'.w (Imm c') (Imm c3) ∧ Rel c3 w0 n gs s' a' := by
   rcases hw with rfl | hw
   · exact ⟨c', rfl, rfl, rfl, fun b o h => ⟨h, rfl⟩, e5⟩
   · exact e5.weak hw
 refine ⟨c3, me, s', k1.trans e1, k2.trans e2, k3, ?_, k4, hq⟩
 cases e <;> cases me <;> simp only [ExRel] at e4 ⊢ <;> first | exact e4 | skip
 obtain ⟨v, h1, h2⟩ := e4
 refine ⟨v, h1, ?_⟩
 rw [k3]
 exact RelI.keep k5 _ _ h2
theorem SatM_loop {P : Program} {m : MCode} {st : St} {Q : MExit → St → Prop} (I : Nat → St → Prop) (n0 : Nat) (st0 : St) (hw : Weak st st0) (h0 : I n0 st0)
   (round : ∀ k s, I k s → WT P (fun e s' => match e with | .normal => ∃ k' s'', k' < k ∧ Weak s' s'' ∧ I k' s'' | e => Q e s') (exec m s Tree.done)) : SatM P (.loop m) st Q := by
 intro n pol code hc c w0 gs a r
 obtain ⟨x, rfl, hx⟩ := comp_loop hc
 · refine wp_loop_ghost (fun k a' w' => ∃ c' s, c'.B = c.B ∧ c'.J0 = c.J0 ∧ c'.w = w' ∧ Rel c' w0 n gs s a' ∧ I k s) n0 (by obtain ⟨c', k1, k2, k3, _, k4⟩ := r.weak hw; exact ⟨c', st0, k1, k2, k3, k4, h0⟩) ?_
   rintro k a' w' ⟨c', s, e1, e2, rfl, e4, e5⟩
   refine Code.wp_mono ?_ (exec_ok x m hx Tree.done c' s a' e4 (round k s e5))
   intro e a'' w'' ⟨c'', me, s', f1, f2, f3, f4, f5, f6⟩
   subst f3
   simp only [WT] at f6
   cases e with
   | normal =>
     cases me <;> simp only [ExRel] at f4
     obtain ⟨k', s'', g1, g2, g3⟩ := f6
     obtain ⟨c3, k1, k2, k3, _, k4⟩ := f5.weak g2
     exact ⟨k', g1, c3, s'', k1.trans (f1.trans e1), k2.trans (f2.trans e2), k3, k4, g3⟩
   | exit id => cases me <;> simp only [ExRel] at f4; rename_i j; exact ⟨c'', .exit j, s', f1.trans e1, f2.trans e2, rfl, f4, f5, f6⟩
   | goto l => cases me <;> simp only [ExRel] at f4
   | ret => cases me <;> simp only [ExRel] at f4; exact ⟨c'', .ret, s', f1.trans e1, f2.trans e2, rfl, trivial, f5, f6⟩
   | panic ch => cases me <;> simp only [ExRel] at f4; rename_i d; exact ⟨c'', .panic d, s', f1.trans e1, f2.trans e2, rfl, f4, f5, f6⟩
   | outgrown => cases me <;> simp only [ExRel] at f4
inductive MRes where
 | tmp (t : Nat)
 | cell (t : Nat) (agg : Bool) (n : Nat)
def compRes (P : Program) : List ResultVar → Option (List MRes)
 | [] => some []
 | .tmp t :: r => (compRes P r).map (MRes.tmp t :: ·)
 | .cell t ty :: r => match isAggT P ty, sizeT P ty, compRes P r with
   | some g, some n, some l => some (.cell t g n :: l)
   | _, _, _ => none
def resV (st : St) : List MRes → Option (List V)
 | [] => some []
 | .tmp t :: r => match (Opd.t t).ev st, resV st r with
   | some v, some l => some (v :: l)
   | _, _ => none
 | .cell t g n :: r => match look st.regs t with
   | some (.ptr id off) => match look st.heap id with
     | some (.var cs) => match Nat.ble (off + n) cs.length with
       | true => match mkVal g ((cs.drop off).take n), resV st r with
         | some v, some l => some (v :: l)
         | _, _ => none
       | false => none
     | _ => none
   | _ => none
structure MFun where
 n : Nat
 pol : Pol
 res : List MRes
 code : MCode
def IsFun (P : Program) (f : FuncId) (m : MFun) : Prop :=
 ∃ fn code, P.funcs[f]? = some fn ∧ fn.body = some code ∧ (fn.name == "runtime.NumGoroutine") = false ∧ fn.ntmps = m.n ∧ compRes P fn.results.toList = some m.res ∧ comp P m.n m.pol code = some m.code
def isFun (P : Program) (f : FuncId) (n : Nat) (pol : Pol) : Option (List MRes × MCode) :=
 match P.funcs[f]? with
 | some fn => match fn.body with
   | some code => match !(fn.name == "runtime.NumGoroutine") && Nat.beq fn.ntmps n, compRes P fn.results.toList, comp P n pol code with
     | true, some l, some c => some (l, c)
     | _, _, _ => none
   | none => none
 | none => none
theorem isFun_ok {P : Program} {f : FuncId} {m : MFun} (h : isFun P f m.n m.pol = some (m.res, m.code)) : IsFun P f m := by
 unfold isFun at h
 split at h
 · rename_i fn hf
   split at h
   · rename_i code hb
     split at h
     · rename_i l c h1 h2 h3
       simp at h
       obtain ⟨rfl, rfl⟩ := h
       rw [Bool.and_eq_true] at h1
       exact ⟨fn, code, hf, hb, by simpa using h1.1, Nat.eq_of_beq_eq_true h1.2, h2, h3⟩
     · simp at h
   · simp at h
 · simp at h
def initRegs : Nat → List V → Regs
 | _, [] => []
 | i, v :: r => (i, v) :: initRegs (i + 1) r
def initSt (args : List Dat) : St := { regs := initRegs 0 (args.map V.ofDat), heap := [], next := 0, defers := [], base := 0 }
theorem look_init : ∀ (vs : List V) (i j : Nat) (v : V), look (initRegs i vs) j = some v → i ≤ j ∧ vs[j - i]? = some v
 | [], i, j, v, h => by simp [initRegs, look] at h
 | x :: vs, i, j, v, h => by
   simp only [initRegs, look_cons] at h
   by_cases hij : i = j
   · subst hij; simp at h; subst h; simp
   · rw [if_neg hij] at h
     obtain ⟨h1, h2⟩ := look_init vs (i + 1) j v h
     refine ⟨by omega, ?_⟩
     rw [show j - i = (j - (i + 1)) + 1 by omega]
     simpa using h2
theorem RelVL.ofDats {c : Cx} : ∀ {ds : List Dat} {vs : List Value}, RelL c.w (Imm c) ds vs → RelVL c (ds.map V.ofDat) vs
 | [], vs, h => by simpa [RelVL, RelL] using h
 | d :: ds, vs, h => by obtain ⟨v, vs', rfl, h2, h3⟩ := h; exact ⟨v, vs', rfl, RelV.ofDat h2, RelVL.ofDats h3⟩
theorem run_results {P : Program} {c : Cx} {w0 : World} {n : Nat} {gs : Fr} {st : St} {a : Act} (r : Rel c w0 n gs st a) : ∀ {l : List ResultVar} {ms : List MRes} {vs : List V}, compRes P l = some ms → resV st ms = some vs →
   ∃ us, (l.mapM (fun (x : ResultVar) => (match x with | .tmp t => pure (a.tmps.getD t undef) | .cell x t => do loadVar t (← asAddr (a.tmps.getD x undef)) : Sem Value))).run P c.w = .ok us c.w ∧ RelVL c vs us := by
 intro l
 induction l with
 | nil =>
   intro ms vs h1 h2
   simp [compRes] at h1; subst h1
   simp [resV] at h2; subst h2
   exact ⟨[], by simp, by simp [RelVL]⟩
 | cons x l ih =>
   intro ms vs h1 h2
   cases x with
   | tmp t =>
     simp only [compRes, Option.map_eq_some_iff] at h1
     obtain ⟨ms', h1, rfl⟩ := h1
     simp only [resV] at h2
     split at h2
     · rename_i v l' g1 g2
       simp at h2; subst h2
       obtain ⟨us, f1, f2⟩ := ih h1 g2
       refine ⟨a.tmps.getD t undef :: us, ?_, ⟨_, us, rfl, r.regs t v (ev_t g1).1, f2⟩⟩
       rw [List.mapM_cons, run_bind_ok (s := pure _) (x := a.tmps.getD t undef) (w' := c.w) rfl, run_bind_ok f1]
       rfl
     · simp at h2
   | cell t ty =>
     simp only [compRes] at h1
     split at h1
     · rename_i g m ms' e1 e2 e3
       simp at h1; subst h1
       simp only [resV] at h2
       split at h2
       · rename_i id off hv
         split at h2
         · rename_i cs hl
           split at h2
           · rename_i hle
             have hle := Nat.le_of_ble_eq_true hle
             split at h2
             · rename_i v l' hmk g2
               simp at h2; subst h2
               obtain ⟨us, f1, f2⟩ := ih e3 g2
               obtain ⟨⟨cs0, _⟩, p2⟩ := r.regs t _ hv
               have hl' : look c.heap id = some (.var cs) := by rw [r.heap]; exact hl
               obtain ⟨vs, e, b1, b2⟩ := r.hrel.blk id _ hl'
               have hlen := b2.length
               obtain ⟨u, hu, hru⟩ := pack_rel ((b2.drop off).take m) hmk
               refine ⟨u :: us, ?_, ⟨u, us, rfl, hru, f2⟩⟩
               have hload : (loadVar ty ⟨(c.pl id).gb, off, none⟩).run P c.w = .ok u c.w := by
                 refine run_loadVar e1 e2 ?_ hu ?_
                 · simp at hlen ⊢; omega
                 · intro j x hx
                   rw [cell_in_block b1]
                   rw [List.getElem?_take] at hx
                   split at hx
                   · simpa using hx
                   · simp at hx
               have hl2 : ((do loadVar ty (← asAddr (a.tmps.getD t undef)) : Sem Value)).run P c.w = .ok u c.w := by
                 rw [p2, run_bind_ok (s := asAddr _) (x := ⟨(c.pl id).gb, off, none⟩) (w' := c.w) rfl]
                 exact hload
               rw [List.mapM_cons, run_bind_ok hl2, run_bind_ok f1]
               rfl
             · simp at h2
           · simp at h2
         · simp at h2
       · simp at h2
     · simp at h1
theorem cell_lt {w : World} {b o : Nat} {v : Value} (h : w.cell? ⟨b, o, none⟩ = some v) : b < w.heap.size := by
 by_cases hb : b < w.heap.size
 · exact hb
 · simp [World.cell?, Array.getElem?_eq_none (by omega : w.heap.size ≤ b)] at h
mutual
theorem RelI.bound {w : World} {J : Nat → Nat → Prop} : ∀ (d : Dat) (v : Value), RelI w J d v → RelI w (fun b o => J b o ∧ b < w.heap.size) d v
 | .bool b, v, r => r
 | .int k n, v, r => r
 | .str s, v, r => r
 | .nil, v, r => r
 | .slice k xs z, v, .inl r => .inl r
 | .slice k xs z, v, .inr ⟨b, o, cap, h1, h2, h3, h4⟩ => .inr ⟨b, o, cap, h1, h2, h3, RelE.bound b k o xs h4⟩
 | .agg cs, v, ⟨vs, h1, h2⟩ => ⟨vs, h1, RelL.bound cs vs h2⟩
 | .func f, v, r => r
 | .nilFunc, v, r => r
 | .nilIface, v, r => r
 | .nilPtr, v, r => r
 | .iface t d, v, ⟨u, h1, h2⟩ => ⟨u, h1, RelI.bound d u h2⟩
 | .tuple ds, v, ⟨vs, h1, h2⟩ => ⟨vs, h1, RelL.bound ds vs h2⟩
theorem RelL.bound {w : World} {J : Nat → Nat → Prop} : ∀ (ds : List Dat) (vs : List Value), RelL w J ds vs → RelL w (fun b o => J b o ∧ b < w.heap.size) ds vs
 | [], vs, r => r
 | d :: ds, vs, ⟨v, vs', h1, h2, h3⟩ => ⟨v, vs', h1, RelI.bound d v h2, RelL.bound ds vs' h3⟩
theorem RelC.bound {w : World} {J : Nat → Nat → Prop} (b : Nat) : ∀ (o : Nat) (ds : List Dat), RelC w J b o ds → RelC w (fun b o => J b o ∧ b < w.heap.size) b o ds
 | o, [], _ => trivial
 | o, d :: ds, ⟨⟨v, h1, h2, h5, h3⟩, h4⟩ => ⟨⟨v, h1, ⟨h2, cell_lt h1⟩, h5, RelI.bound d v h3⟩, RelC.bound b (o + 1) ds h4⟩
theorem RelE.bound {w : World} {J : Nat → Nat → Prop} (b k : Nat) : ∀ (o : Nat) (cs : List (List Dat)), RelE w J b k o cs → RelE w (fun b o => J b o ∧ b < w.heap.size) b k o cs
 | o, [], _ => trivial
 | o, c :: cs, ⟨h1, h2, h3⟩ => ⟨h1, RelC.bound b o c h2, RelE.bound b k (o + k) cs h3⟩
end
theorem Rel.enter {c : Cx} {w0 : World} {n nx : Nat} {F : Fr} {vs : List V} {gvs : List Value} (hh : HRel c w0 nx) (hF : F.K ≤ nx) (hp : F.p c) (hv : RelVL c vs gvs) (hn : vs.length ≤ n) :
   Rel c w0 n F ⟨initRegs 0 vs, c.heap, nx, [], nx⟩ { tmps := gvs.toArray ++ Array.replicate (n - gvs.toArray.size) undef, defers := [] } := by
 have hlen := hv.length
 refine ⟨rfl, hh, ?_, ?_, hp, hF, Nat.le_refl _, rfl⟩
 · simp; omega
 · intro i v hi
   obtain ⟨h1, h2⟩ := look_init _ _ _ _ hi
   simp only [Nat.sub_zero] at h2
   obtain ⟨u, g1, g2⟩ := hv.get i v h2
   have : (gvs.toArray ++ Array.replicate (n - gvs.toArray.size) undef).getD i undef = u := by
     have hi' : i < gvs.length := by
       by_cases hh : i < gvs.length
       · exact hh
       · rw [List.getElem?_eq_none (by omega)] at g1; cases g1
     rw [Array.getD_eq_getD_getElem?, Array.getElem?_append_left (by simpa using hi')]
     simp [g1]
   rw [this]; exact g2
theorem run_resultsA {P : Program} {fn : Func} {t : Array Value} {w : World} {us : List Value} (f1 : (fn.results.toList.mapM (fun (x : ResultVar) => (match x with | .tmp t' => pure (t.getD t' undef) | .cell x t' => do loadVar t' (← asAddr (t.getD x undef)) : Sem Value))).run P w = .ok us w) :
   (results fn t).run P w = .ok (if h : us.toArray.size = 1 then us.toArray[0] else .tuple us.toArray) w := by
 unfold results
 rw [Array.mapM_eq_mapM_toList]
 have : ((List.toArray <$> fn.results.toList.mapM (fun (x : ResultVar) => (match x with | .tmp t' => pure (t.getD t' undef) | .cell x t' => do loadVar t' (← asAddr (t.getD x undef)) : Sem Value)))).run P w = .ok us.toArray w := by
   rw [map_eq_pure_bind, run_bind_ok f1]; rfl
 exact run_bind_ok this
def packV : List V → V
 | [v] => v
 | vs => .tuple vs
theorem packV_rel {c : Cx} {vs : List V} {us : List Value} (h : RelVL c vs us) : RelV c (packV vs) (if h : us.toArray.size = 1 then us.toArray[0] else .tuple us.toArray) := by
 have hl := h.length
 match vs, h, hl with
 | [], h, hl => simp [RelVL] at h; subst h; exact ⟨[], by simp, rfl⟩
 | [v], h, hl =>
   obtain ⟨u, us', rfl, h1, h2⟩ := h
   simp [RelVL] at h2; subst h2
   simpa [packV] using h1
 | v :: v' :: r, h, hl =>
   rw [dif_neg (by simp at hl ⊢; omega)]
   exact ⟨us, rfl, h⟩
def InlQ (res : List MRes) (Q : Res → Heap → Nat → Prop) : MExit → St → Prop
 | .normal, st => st.defers = [] ∧ ∃ vs, resV st res = some vs ∧ Q (.val (packV vs)) st.heap st.next
 | .ret, st => st.defers = [] ∧ ∃ vs, resV st res = some vs ∧ Q (.val (packV vs)) st.heap st.next
 | .panic d, st => st.defers = [] ∧ Q (.pan d) st.heap st.next
 | .exit _, _ => False
theorem IsFun.body {P : Program} {f : FuncId} {m : MFun} (h : IsFun P f m) : HasBody P f := by
 obtain ⟨fn, code, h1, h2, h3, _⟩ := h
 exact ⟨fn, h1, by rw [h2]; rfl, h3⟩
theorem SatC_of_exec {P : Program} {f : FuncId} {m : MFun} (hf : IsFun P f m) {vs : List V} {h : Heap} {nx : Nat} {Q : Res → Heap → Nat → Prop} (hn : Nat.ble vs.length m.n = true)
   (hw : WT P (fun e st => ∃ st', (st' = st ∨ Weak st st') ∧ InlQ m.res Q e st') (exec m.code ⟨initRegs 0 vs, h, nx, [], nx⟩ Tree.done)) : SatC P f vs h nx Q := by
 refine ⟨hf.body, ?_⟩
 obtain ⟨fn, code, h1, h2, h0, h3, h4, h5⟩ := hf
 rintro c w0 F gvs rfl hh hF hp hv
 let F' : Fr := ⟨nx, F.p, fun c c' he hc => F.ok c c' (he.mono hF) hc⟩
 refine calls_of_wp h1 h2 ?_
 rw [h3]
 refine Code.wp_mono ?_ (exec_ok code m.code h5 Tree.done _ _ _ (Rel.enter (F := F') hh (Nat.le_refl _) hp hv (Nat.le_of_ble_eq_true hn)) hw)
 intro e a' w' ⟨c1, me, st1, e1', e2', e3', e4', e5', e6'⟩
 subst e3'
 simp only [WT] at e6'
 obtain ⟨st', hweak, e6⟩ := e6'
 obtain ⟨c', k1, k2, k3, k5, e5⟩ : ∃ c', c'.B = c1.B ∧ c'.J0 = c1.J0 ∧ c'.w = c1.w ∧ Keeps c1.w c1.w (Imm c1) (Imm c') ∧ Rel c' w0 m.n F' st' a' := by
   rcases hweak with rfl | hweak
   · exact ⟨c1, rfl, rfl, rfl, fun b o h => ⟨h, rfl⟩, e5'⟩
   · exact e5'.weak hweak
 have e1 := k1.trans e1'
 have e2 := k2.trans e2'
 have e4 : ExRel c' e me := by
   cases e <;> cases me <;> simp only [ExRel] at e4' ⊢ <;> first | exact e4' | skip
   obtain ⟨v, h1, h2⟩ := e4'
   exact ⟨v, h1, by rw [k3]; exact RelI.keep k5 _ _ h2⟩
 rw [← k3]
 have hnx : nx ≤ st'.next := Nat.le_trans e5.fbase e5.base
 have hdef : st'.defers = [] → a'.defers = [] := fun hd => by have := e5.defers; rw [hd] at this; exact this
 have key : (st'.defers = [] ∧ ∃ vs, resV st' m.res = some vs ∧ Q (.val (packV vs)) st'.heap st'.next) → a'.defers = [] ∧ ∃ v, (results fn a'.tmps).run P c'.w = .ok v c'.w ∧ (∃ c'' r nx', c''.B = c.B ∧ c''.J0 = c.J0 ∧ c''.w = c'.w ∧ HRel c'' w0 nx' ∧ nx ≤ nx' ∧ F.p c'' ∧ EndRel c'' (.returned v) r ∧ Q r c''.heap nx') := by
   rintro ⟨hd, vs', hvs, hq⟩
   obtain ⟨us, f1, f2⟩ := run_results (P := P) e5 h4 hvs
   refine ⟨hdef hd, _, run_resultsA f1, c', .val (packV vs'), st'.next, e1, e2, rfl, e5.hrel, hnx, e5.frames, packV_rel f2, ?_⟩
   rw [e5.heap]; exact hq
 cases e with
 | normal => cases me <;> simp only [ExRel] at e4; exact key e6
 | ret => cases me <;> simp only [ExRel] at e4; exact key e6
 | exit id => cases me <;> simp only [ExRel] at e4; exact e6.elim
 | goto l => cases me <;> simp only [ExRel] at e4
 | panic ch =>
   cases me <;> simp only [ExRel] at e4
   rename_i d
   obtain ⟨hd, hq⟩ := e6
   exact ⟨hdef hd, c', .pan d, st'.next, e1, e2, rfl, e5.hrel, hnx, e5.frames, e4, by rw [e5.heap]; exact hq⟩
 | outgrown => cases me <;> simp only [ExRel] at e4
theorem SatC.mono {P : Program} {f : FuncId} {vs : List V} {h : Heap} {nx : Nat} {Q Q' : Res → Heap → Nat → Prop} (hs : SatC P f vs h nx Q) (hq : ∀ r h' nx', Q r h' nx' → Q' r h' nx') : SatC P f vs h nx Q' := by
 refine ⟨hs.1, fun c w0 F gvs h1 h2 h3 h4 h5 => (hs.2 c w0 F gvs h1 h2 h3 h4 h5).mono ?_⟩
 rintro e w' ⟨c', r, nx', e1, e2, e3, e4, e5, e6, e7, e8⟩
 exact ⟨c', r, nx', e1, e2, e3, e4, e5, e6, e7, hq _ _ _ e8⟩
theorem SatC_of_Ret {P : Program} {f : FuncId} {vs : List V} {h : Heap} {nx : Nat} {Q : Res → Heap → Nat → Prop} {ds : List Dat} {r : Dat} (hb : HasBody P f) (hd : datList h vs = some ds) (hr : Ret P f ds r) (hq : Q (.val (V.ofDat r)) h nx) : SatC P f vs h nx Q := by
 refine ⟨hb, ?_⟩
 rintro c w0 F gvs rfl hh hF hp hv
 refine (hr c.w (Imm c) gvs hh.glob (datList_rel hd hv)).mono ?_
 rintro e w' ⟨v, rfl, hv, hbel⟩
 have hev := Evo.grow hh hbel
 refine ⟨{ c with w := w' }, .val (V.ofDat r), nx, rfl, rfl, rfl, hh.grow hbel, Nat.le_refl _, F.ok _ _ (hev.toK _) hp, RelV.ofDat ?_, hq⟩
 refine RelI.keep ?_ _ _ hv
 intro b o' hj
 refine ⟨?_, rfl⟩
 rcases hj with hj | ⟨hj1, hj2⟩
 · exact (hev.keeps b o' hj).1
 · refine .inr ⟨hh.old_ge hj1, hj2, ?_⟩
   intro id blk hl hph hg
   have := hh.gb_lt hl hph
   have hg' : (c.pl id).gb = b := hg
   omega
def V.datF (h : Heap) : V → Option Dat
 | .d x => some x
 | .agg cs => (go cs).map Dat.agg
 | .ref id _ off len => match look h id with
   | some (.arr k xs) => some (.slice k ((xs.drop off).take len) false)
   | some (.mt k _ xs) => some (.slice k ((xs.drop off).take len) false)
   | _ => none
 | .func f [] [] => some (.func f)
 | _ => none
where
 go : List V → Option (List Dat)
   | [] => some []
   | .d x :: r => match go r with | some l => some (x :: l) | none => none
   | .ref id _ off len :: r => match look h id, go r with
     | some (.arr k xs), some l => some (.slice k ((xs.drop off).take len) false :: l)
     | some (.mt k _ xs), some l => some (.slice k ((xs.drop off).take len) false :: l)
     | _, _ => none
   | .func f [] [] :: r => match go r with | some l => some (.func f :: l) | none => none
   | _ => none
def datListF (h : Heap) : List V → Option (List Dat)
 | [] => some []
 | v :: r => match v.datF h, datListF h r with
   | some x, some l => some (x :: l)
   | _, _ => none
def V.cur (h : Heap) : V → Bool
 | .agg cs => go cs
 | .ref id ver _ _ => match look h id with
   | some (.mt _ ver' _) => Nat.beq ver ver'
   | _ => true
 | _ => true
where
 go : List V → Bool
   | [] => true
   | .ref id ver _ _ :: r => match look h id with
     | some (.mt _ ver' _) => Nat.beq ver ver' && go r
     | _ => go r
   | _ :: r => go r
def curL (h : Heap) : List V → Bool
 | [] => true
 | v :: r => v.cur h && curL h r
def packD : List Dat → Dat
 | [d] => d
 | ds => .tuple ds
section
variable {c : Cx} {w0 : World} {nx : Nat} {J : Nat → Nat → Prop} (hh : HRel c w0 nx) (hk : Keeps c.w c.w (Imm c) J) (hnew : ∀ b o, ¬ c.Old b → b < c.w.heap.size → J b o)
include hh hk hnew
theorem ref_datF {id ver off len k ver' : Nat} {xs : List (List Dat)} {gv : Value} (hl : look c.heap id = some (.mt k ver' xs)) (hv : ver = ver') (h : RelV c (.ref id ver off len) gv) : RelI c.w J (.slice k ((xs.drop off).take len) false) gv := by
 subst hv
 simp only [RelV, hl] at h
 obtain ⟨_, _, h⟩ := h
 obtain ⟨h1, h2⟩ := h rfl
 have hlen : ((xs.drop off).take len).length = len := by simp; omega
 rcases h2 with ⟨h2, h3, _⟩ | ⟨b, o, h2, h3⟩
 · exact .inl ⟨⟨_, h2, by simp⟩, List.eq_nil_of_length_eq_zero (by omega)⟩
 · obtain ⟨b3, b4, bb⟩ := hh.blk id _ hl
   refine .inr ⟨b, o, (c.pl id).cap - off, by rw [hlen]; exact h2, by rw [hlen]; omega, by simp, ?_⟩
   by_cases hl0 : len = 0
   · subst hl0; simp [RelE]
   · obtain ⟨vs, e, g1, g2, g3, g4⟩ := bb (by omega)
     obtain ⟨rfl, rfl⟩ := h3 (by omega)
     have hgb := hh.ge id _ hl (show 0 < (c.pl id).cap by omega)
     have hlt := hh.gb_lt hl (show 0 < (c.pl id).cap by omega)
     have hfl := flatten_window b4 off len (by omega)
     refine RelE.of_flat (us := ((vs.toList.take (xs.length * k)).drop (off * k)).take (len * k)) (fun x hx => b4 x (List.mem_of_mem_drop (List.mem_of_mem_take hx))) ?_ ?_
     · rw [hfl]; exact RelL.keep hk _ _ ((g3.drop _).take _)
     · intro j v hv
       refine ⟨?_, hnew _ _ hgb hlt, g4 v (List.mem_of_mem_drop (List.mem_of_mem_take (List.mem_of_getElem? hv)))⟩
       rw [List.getElem?_take] at hv
       split at hv
       · rw [List.getElem?_drop, List.getElem?_take] at hv
         split at hv
         · rw [cell_in_block g1]; simpa using hv
         · simp at hv
       · simp at hv
theorem datGoF_rel : ∀ {vs : List V} {ds : List Dat} {us : List Value}, V.datF.go c.heap vs = some ds → V.cur.go c.heap vs = true → RelVL c vs us → RelL c.w J ds us := by
 intro vs
 induction vs with
 | nil => intro ds us h _ r; simp [V.datF.go] at h; subst h; simpa [RelL, RelVL] using r
 | cons v vs ih =>
   intro ds us h hc r
   obtain ⟨u, us', rfl, r1, r2⟩ := r
   unfold V.datF.go at h
   split at h
   · simp at *
   · rename_i x rr heq
     simp only [List.cons.injEq] at heq
     obtain ⟨rfl, rfl⟩ := heq
     split at h
     · rename_i l hl
       simp at h; subst h
       exact ⟨u, us', rfl, RelI.keep hk _ _ r1, ih hl (by simpa [V.cur.go] using hc) r2⟩
     · simp at h
   · rename_i id ver off len rr heq
     simp only [List.cons.injEq] at heq
     obtain ⟨rfl, rfl⟩ := heq
     split at h
     · rename_i k xs l hl1 hl2
       simp at h; subst h
       simp only [V.cur.go, hl1] at hc
       exact ⟨u, us', rfl, RelI.keep hk _ _ (ref_dat hl1 r1), ih hl2 hc r2⟩
     · rename_i k ver' xs l hl1 hl2
       simp at h; subst h
       simp only [V.cur.go, hl1, Bool.and_eq_true] at hc
       exact ⟨u, us', rfl, ref_datF hh hk hnew hl1 (Nat.eq_of_beq_eq_true hc.1) r1, ih hl2 hc.2 r2⟩
     · simp at h
   · rename_i f rr heq
     simp only [List.cons.injEq] at heq
     obtain ⟨rfl, rfl⟩ := heq
     split at h
     · rename_i l hl
       simp at h; subst h
       obtain ⟨fs', vs', e1, e3, e2⟩ := r1
       simp [RelVL] at e2 e3; subst e2 e3
       exact ⟨u, us', rfl, e1, ih hl (by simpa [V.cur.go] using hc) r2⟩
     · simp at h
   · simp at h
theorem datF_rel {v : V} {x : Dat} {gv : Value} (h : v.datF c.heap = some x) (hc : v.cur c.heap = true) (r : RelV c v gv) : RelI c.w J x gv := by
 cases v with
 | d y => simp [V.datF] at h; subst h; exact RelI.keep hk _ _ r
 | agg cs =>
   simp only [V.datF, Option.map_eq_some_iff] at h
   obtain ⟨ds, h1, rfl⟩ := h
   obtain ⟨us, rfl, h2⟩ := r
   exact ⟨us, rfl, datGoF_rel hh hk hnew h1 hc h2⟩
 | ref id ver off len =>
   simp only [V.datF] at h
   split at h
   · rename_i k xs hl
     simp at h; subst h
     exact RelI.keep hk _ _ (ref_dat hl r)
   · rename_i k ver' xs hl
     simp at h; subst h
     simp only [V.cur, hl] at hc
     exact ref_datF hh hk hnew hl (Nat.eq_of_beq_eq_true hc) r
   · simp at h
 | func f fs cap =>
   cases fs with
   | cons a b => simp [V.datF] at h
   | nil =>
     cases cap with
     | nil =>
       simp [V.datF] at h; subst h
       obtain ⟨fs', vs', e1, e3, e2⟩ := r
       simp [RelVL] at e2 e3; subst e2 e3
       exact e1
     | cons a b => simp [V.datF] at h
 | _ => simp [V.datF] at h
theorem datListF_rel : ∀ {vs : List V} {ds : List Dat} {us : List Value}, datListF c.heap vs = some ds → curL c.heap vs = true → RelVL c vs us → RelL c.w J ds us := by
 intro vs
 induction vs with
 | nil => intro ds us h _ r; simp [datListF] at h; subst h; simpa [RelL, RelVL] using r
 | cons v vs ih =>
   intro ds us h hc r
   obtain ⟨u, us', rfl, r1, r2⟩ := r
   simp only [curL, Bool.and_eq_true] at hc
   unfold datListF at h
   split at h
   · rename_i x l h1 h2
     simp at h; subst h
     exact ⟨u, us', rfl, datF_rel hh hk hnew h1 hc.1 r1, ih h2 hc.2 r2⟩
   · simp at h
end
def RetQ (res : List MRes) (r : Dat) (e : MExit) (st : St) : Prop := (e = .normal ∨ e = .ret) ∧ st.defers = [] ∧ ∃ vs ds, resV st res = some vs ∧ datListF st.heap vs = some ds ∧ curL st.heap vs = true ∧ packD ds = r
theorem end_data {P : Program} {c' : Cx} {w0 : World} {n : Nat} {gs : Fr} {st' : St} {a' : Act} {fn : Func} {res : List MRes} {J : Nat → Nat → Prop} {w : World} (e5 : Rel c' w0 n gs st' a') (hres : compRes P fn.results.toList = some res) (hB : c'.B = w.heap.size) (hJ : c'.J0 = ⟨J, fun _ => False⟩)
   {vs : List V} {ds : List Dat} (g1 : resV st' res = some vs) (g2 : datListF st'.heap vs = some ds) (g3 : curL st'.heap vs = true) :
   ∃ v, (results fn a'.tmps).run P c'.w = .ok v c'.w ∧ RelI c'.w (fun b o => J b o ∨ (w.heap.size ≤ b ∧ b < c'.w.heap.size)) (packD ds) v := by
 have hk : Keeps c'.w c'.w (Imm c') (fun b o => J b o ∨ (w.heap.size ≤ b ∧ b < c'.w.heap.size)) := by
   intro b o hi
   refine ⟨?_, rfl⟩
   rcases hi with ⟨_, hi⟩ | ⟨hi1, hi2, _⟩
   · rw [hJ] at hi; exact .inl hi
   · exact .inr ⟨Nat.le_of_not_lt fun h => hi1 (.inl (by rw [hB]; exact h)), hi2⟩
 obtain ⟨us, f1, f2⟩ := run_results (P := P) e5 hres g1
 rw [← e5.heap] at g2 g3
 have k1 := datListF_rel e5.hrel hk (fun b o h1 h2 => .inr ⟨Nat.le_of_not_lt fun h => h1 (.inl (by rw [hB]; exact h)), h2⟩) g2 g3 f2
 refine ⟨_, run_resultsA f1, ?_⟩
 have hl := k1.length
 match ds, k1, hl with
 | [], k1, hl => simp [RelL] at k1; subst k1; exact ⟨[], by simp, rfl⟩
 | [d], k1, hl =>
   obtain ⟨u, us', rfl, h1, h2⟩ := k1
   simp [RelL] at h2; subst h2
   simpa [packD] using h1
 | d :: d' :: r, k1, hl =>
   rw [dif_neg (by simp at hl ⊢; omega)]
   exact ⟨us, rfl, k1⟩
theorem Rel.init {w : World} {J : Nat → Nat → Prop} {args : List Dat} {vs : List Value} {n : Nat} (hG : GOk w.heap.size w) (hrel : RelL w J args vs) (hn : args.length ≤ n) :
   Rel { B := w.heap.size, J0 := ⟨J, fun _ => False⟩, heap := [], pl := fun _ => ⟨0, 0⟩, w := w } w n Fr.none (initSt args) { tmps := vs.toArray ++ Array.replicate (n - vs.toArray.size) undef, defers := [] } := by
 have hv : RelVL { B := w.heap.size, J0 := ⟨J, fun _ => False⟩, heap := [], pl := fun _ => ⟨0, 0⟩, w := w } (args.map V.ofDat) vs := by
   refine RelVL.ofDats (RelL.keep ?_ _ _ (RelL.bound _ _ hrel))
   intro b o hj
   exact ⟨.inl ⟨.inl hj.2, hj.1⟩, rfl⟩
 exact Rel.enter (F := Fr.none) (nx := 0) ⟨Below.refl _ _, fun _ h => h.elim, hG, by simp [look], by simp [look], by simp [look], by simp [look]⟩ (Nat.le_refl _) trivial hv (by simpa using hn)
theorem Ret_of_exec {P : Program} {f : FuncId} {m : MFun} (hf : IsFun P f m) {args : List Dat} {r : Dat} (hn : Nat.ble args.length m.n = true)
   (h : WT P (RetQ m.res r) (exec m.code (initSt args) Tree.done)) : Ret P f args r := by
 obtain ⟨fn, code, h1, h2, h0, h3, h4, h5⟩ := hf
 intro w J vs hG hrel
 refine calls_of_wp h1 h2 ?_
 rw [h3]
 refine Code.wp_mono ?_ (exec_ok code m.code h5 Tree.done _ _ _ (Rel.init hG hrel (Nat.le_of_ble_eq_true hn)) h)
 intro e a' w' ⟨c', me, st', e1, e2, e3, e4, e5, e6⟩
 subst e3
 simp only [WT] at e6
 obtain ⟨g1, g2, vs', ds, g3, g4, g5, rfl⟩ := e6
 obtain ⟨v, hv1, hv2⟩ := end_data (P := P) (w := w) (J := J) e5 h4 e1 e2 g3 g4 g5
 have hbel : Below w.heap.size w c'.w := by have := e5.hrel.below; rw [e1] at this; exact this
 have key : a'.defers = [] ∧ ∃ v, (results fn a'.tmps).run P c'.w = .ok v c'.w ∧ (∃ v', Ending.returned v = .returned v' ∧ RelI c'.w (fun b o => J b o ∨ (w.heap.size ≤ b ∧ b < c'.w.heap.size)) (packD ds) v' ∧ Below w.heap.size w c'.w) :=
   ⟨by have := e5.defers; rw [g2] at this; exact this, v, hv1, v, rfl, hv2, hbel⟩
 cases e with
 | normal => exact key
 | ret => exact key
 | exit id => cases me <;> simp only [ExRel] at e4; simp at g1
 | goto l => cases me <;> simp only [ExRel] at e4
 | panic ch => cases me <;> simp only [ExRel] at e4; simp at g1
 | outgrown => cases me <;> simp only [ExRel] at e4
end Uw
namespace Uw
open Go
variable [Glob]
section
variable {P : Program} {Q : MExit → St → Prop}
theorem WT_test {b : Bool} {y n : Tree} (h1 : b = true → WT P Q y) (h2 : b = false → WT P Q n) : WT P Q (.test b y n) := ⟨h1, h2⟩
theorem WT_t {b : Bool} {y n : Tree} (hb : b = true) (h1 : WT P Q y) : WT P Q (.test b y n) := ⟨fun _ => h1, fun h => (by rw [hb] at h; cases h)⟩
theorem WT_f {b : Bool} {y n : Tree} (hb : b = false) (h1 : WT P Q n) : WT P Q (.test b y n) := ⟨fun h => (by rw [hb] at h; cases h), fun _ => h1⟩
theorem WT_both {y n : Tree} (h1 : WT P Q y) (h2 : WT P Q n) : WT P Q (.both y n) := ⟨h1, h2⟩
theorem WT_done {e : MExit} {st : St} (h : Q e st) : WT P Q (.done e st) := h
theorem WT_call {f : FuncId} {ds : List Dat} {k : Dat → Tree} (r : Dat) (h : Ret P f ds r) (h2 : WT P Q (k r)) : WT P Q (.call f ds k) := ⟨r, h, h2⟩
theorem WT_elem {xs : List (List Dat)} {i : Nat} {k : List Dat → Tree} (x : List Dat) (h : xs[i]? = some x) (h2 : WT P Q (k x)) : WT P Q (.elem xs i k) := ⟨x, h, h2⟩
theorem WT_byte {s : List UInt8} {i : Nat} {k : UInt8 → Tree} (x : UInt8) (h : s[i]? = some x) (h2 : WT P Q (k x)) : WT P Q (.byte s i k) := ⟨x, h, h2⟩
theorem WT_code {c : MCode} {st : St} {k : MExit → St → Tree} (h : SatM P c st fun e st' => WT P Q (k e st')) : WT P Q (.code c st k) := h
theorem WT_same {x y : Option V} {t : Tree} (h : x = y) (h1 : WT P Q t) : WT P Q (.same x y t) := ⟨h, h1⟩
theorem WT_draw {fuel : Nat} {l : List DOp} {st : St} {k : MExit → St → Tree} (S : St) (h : WT P (fun e s => (e = .normal ∧ Weak s S) ∨ (∃ d, e = .panic d ∧ ∃ s', (s' = s ∨ Weak s s') ∧ WT P Q (k e s'))) (drawT l (keepR l st.regs) fuel [] [] st Tree.done)) (h2 : WT P Q (k .normal S)) : WT P Q (.code (.draw fuel l) st k) := by
 refine WT_code (SatM_draw (WT.mono ?_ _ h))
 rintro e s (⟨rfl, hw⟩ | ⟨d, rfl, s', hw, hq⟩)
 · exact ⟨S, .inr hw, h2⟩
 · exact ⟨s', hw, hq⟩
theorem WT_drawP {fuel : Nat} {l : List DOp} {st : St} {k : MExit → St → Tree} (h : WT P (fun e s => ∃ d, e = .panic d ∧ WT P Q (k e s)) (drawT l (keepR l st.regs) fuel [] [] st Tree.done)) : WT P Q (.code (.draw fuel l) st k) := by
 refine WT_code (SatM_draw (WT.mono ?_ _ h))
 rintro e s ⟨d, rfl, hq⟩
 exact ⟨s, .inl rfl, hq⟩
theorem SatC_by {f : FuncId} {m : MFun} (hf : IsFun P f m) {vs : List V} {h : Heap} {nx : Nat} {R : Res → Heap → Nat → Prop} (hn : Nat.ble vs.length m.n = true)
   (hw : WT P (InlQ m.res R) (exec m.code ⟨initRegs 0 vs, h, nx, [], nx⟩ Tree.done)) : SatC P f vs h nx R := SatC_of_exec hf hn (WT.mono (fun e st hq => ⟨st, .inl rfl, hq⟩) _ hw)
theorem WT_sub {f : FuncId} {vs : List V} {h : Heap} {nx : Nat} {k : Res → Heap → Nat → Tree} {R : Res → Heap → Nat → Prop} (hs : SatC P f vs h nx R) (h2 : ∀ r h' nx', R r h' nx' → WT P Q (k r h' nx')) : WT P Q (.sub f vs h nx k) := hs.mono h2
theorem WT_inl {f : FuncId} {m : MFun} (hf : IsFun P f m) {vs : List V} {h : Heap} {nx : Nat} {k : Res → Heap → Nat → Tree} (hn : Nat.ble vs.length m.n = true)
   (hw : WT P (InlQ m.res fun r h' nx' => WT P Q (k r h' nx')) (exec m.code ⟨initRegs 0 vs, h, nx, [], nx⟩ Tree.done)) : WT P Q (.sub f vs h nx k) := SatC_by hf hn hw
theorem WT_subret {f : FuncId} {vs : List V} {h : Heap} {nx : Nat} {k : Res → Heap → Nat → Tree} {ds : List Dat} (r : Dat) (hb : HasBody P f) (hd : datList h vs = some ds) (hr : Ret P f ds r) (hq : WT P Q (k (.val (V.ofDat r)) h nx)) : WT P Q (.sub f vs h nx k) := SatC_of_Ret hb hd hr hq
theorem WT_iret {res : List MRes} {R : Res → Heap → Nat → Prop} {st : St} {vs : List V} (hd : st.defers = []) (h : resV st res = some vs) (hq : R (.val (packV vs)) st.heap st.next) : WT P (InlQ res R) (.done .ret st) := ⟨hd, vs, h, hq⟩
theorem WT_iend {res : List MRes} {R : Res → Heap → Nat → Prop} {st : St} {vs : List V} (hd : st.defers = []) (h : resV st res = some vs) (hq : R (.val (packV vs)) st.heap st.next) : WT P (InlQ res R) (.done .normal st) := ⟨hd, vs, h, hq⟩
theorem WT_ipan {res : List MRes} {R : Res → Heap → Nat → Prop} {st : St} {d : Dat} (hd : st.defers = []) (hq : R (.pan d) st.heap st.next) : WT P (InlQ res R) (.done (.panic d) st) := ⟨hd, hq⟩
theorem WT_ret {res : List MRes} {r : Dat} {st : St} {vs : List V} {ds : List Dat} (hd : st.defers = []) (h : resV st res = some vs) (h2 : datListF st.heap vs = some ds) (h3 : curL st.heap vs = true) (he : packD ds = r) : WT P (RetQ res r) (.done .ret st) := ⟨.inr rfl, hd, vs, ds, h, h2, h3, he⟩
theorem Ret_by {f : FuncId} {m : MFun} (hf : IsFun P f m) {args : List Dat} {r : Dat} (hn : Nat.ble args.length m.n = true) (h : WT P (RetQ m.res r) (exec m.code (initSt args) Tree.done)) : Ret P f args r :=
 Ret_of_exec hf hn h
def LoopQ {α : Type} (S : α → St) (inv : α → Prop) (mu : α → Nat) (x : α) (Q : MExit → St → Prop) : MExit → St → Prop
 | .normal, s => ∃ y, inv y ∧ mu y < mu x ∧ Weak s (S y)
 | e, s => Q e s
theorem WT_loop {α : Type} (S : α → St) (inv : α → Prop) (mu : α → Nat) (x0 : α) {m : MCode} {st : St} {k : MExit → St → Tree} (hw : Weak st (S x0)) (h0 : inv x0)
   (round : ∀ x, inv x → WT P (LoopQ S inv mu x fun e s => WT P Q (k e s)) (exec m (S x) Tree.done)) : WT P Q (.code (.loop m) st k) := by
 refine WT_code (SatM_loop (fun n s => ∃ x, n = mu x ∧ inv x ∧ s = S x) (mu x0) (S x0) hw ⟨x0, rfl, h0, rfl⟩ ?_)
 rintro n s ⟨x, rfl, hx, rfl⟩
 refine WT.mono ?_ _ (round x hx)
 intro e s hq
 cases e with
 | normal => obtain ⟨y, h1, h2, h3⟩ := hq; exact ⟨mu y, S y, h2, h3, y, rfl, h1, rfl⟩
 | exit j => exact hq
 | ret => exact hq
 | panic d => exact hq
section
variable {α : Type} {S : α → St} {inv : α → Prop} {mu : α → Nat} {x : α}
theorem WT_again (y : α) {s : St} (hi : inv y) (hm : mu y < mu x) (hw : Weak s (S y)) : WT P (LoopQ S inv mu x Q) (.done .normal s) := ⟨y, hi, hm, hw⟩
theorem WT_break {j : Nat} {s : St} (h : Q (.exit j) s) : WT P (LoopQ S inv mu x Q) (.done (.exit j) s) := h
theorem WT_leave {s : St} (h : Q .ret s) : WT P (LoopQ S inv mu x Q) (.done .ret s) := h
theorem WT_throw {s : St} {d : Dat} (h : Q (.panic d) s) : WT P (LoopQ S inv mu x Q) (.done (.panic d) s) := h
end
def subR (ρ : Nat → Nat) (regs : Regs) (h h' : Heap) : Regs → Prop
 | [] => True
 | (i, v') :: r => (∃ v, look regs i = some v ∧ VW ρ h h' v v') ∧ subR ρ regs h h' r
def subH (ρ : Nat → Nat) (h h' : Heap) (next : Nat) : Heap → Prop
 | [] => True
 | (i, b') :: r => (((∃ b, look h (ρ i) = some b ∧ BSim ρ h h' b b') ∨ (look h (ρ i) = none ∧ ZeroB b')) ∧ Nat.blt i next = true) ∧ subH ρ h h' next r
def keepB (ρ : Nat → Nat) (h h' : Heap) : Nat → Prop
 | 0 => True
 | n + 1 => (ρ n = n ∧ ((look h n).isSome = true → (look h' n).isSome = true)) ∧ keepB ρ h h' n
def renF : List (Nat × Nat) → Nat → Nat
 | [], i => i
 | (a, b) :: r, i => match Nat.beq a i with
   | true => b
   | false => renF r i
def idsH : Heap → List Nat
 | [] => []
 | (i, _) :: r => i :: idsH r
def noDupN (ρ : Nat → Nat) : List Nat → Bool
 | [] => true
 | i :: r => (r.all fun j => !(Nat.beq (ρ i) (ρ j)) || Nat.beq i j) && noDupN ρ r
theorem keepB_look {ρ : Nat → Nat} {h h' : Heap} : ∀ {n : Nat}, keepB ρ h h' n → ∀ id, id < n → ρ id = id ∧ ((look h id).isSome = true → (look h' id).isSome = true)
 | 0, _, id, hid => by omega
 | n + 1, ⟨h1, h2⟩, id, hid => by
   by_cases he : id = n
   · subst he; exact h1
   · exact keepB_look h2 id (by omega)
theorem subR_look {ρ : Nat → Nat} {regs : Regs} {h h' : Heap} : ∀ {r : Regs}, subR ρ regs h h' r → ∀ i v', look r i = some v' → ∃ v, look regs i = some v ∧ VW ρ h h' v v'
 | [], _, i, v, hh => by simp [look] at hh
 | (j, u) :: r, ⟨h1, h2⟩, i, v, hh => by
   rw [look_cons] at hh
   by_cases hj : j = i
   · rw [if_pos hj] at hh; injection hh with hh; subst hh; subst hj; exact h1
   · rw [if_neg hj] at hh; exact subR_look h2 i v hh
theorem subH_look {ρ : Nat → Nat} {h h' : Heap} {next : Nat} : ∀ {r : Heap}, subH ρ h h' next r → ∀ i b', look r i = some b' → ((∃ b, look h (ρ i) = some b ∧ BSim ρ h h' b b') ∨ (look h (ρ i) = none ∧ ZeroB b')) ∧ i < next
 | [], _, i, v, hh => by simp [look] at hh
 | (j, u) :: r, ⟨h1, h2⟩, i, v, hh => by
   rw [look_cons] at hh
   by_cases hj : j = i
   · rw [if_pos hj] at hh; injection hh with hh; subst hh; subst hj; exact ⟨h1.1, by simpa using h1.2⟩
   · rw [if_neg hj] at hh; exact subH_look h2 i v hh
theorem mem_idsH : ∀ {h : Heap} {id : Nat}, (look h id).isSome = true → id ∈ idsH h
 | [], id, hh => by simp [look] at hh
 | (j, u) :: r, id, hh => by
   rw [look_cons] at hh
   by_cases hj : j = id
   · simp [idsH, hj]
   · rw [if_neg hj] at hh; simp [idsH, mem_idsH hh]
theorem noDupN_ok {ρ : Nat → Nat} : ∀ {l : List Nat}, noDupN ρ l = true → ∀ i ∈ l, ∀ j ∈ l, ρ i = ρ j → i = j
 | [], _, i, hi, _, _, _ => by simp at hi
 | x :: l, h, i, hi, j, hj, he => by
   rw [noDupN, Bool.and_eq_true] at h
   have key : ∀ y ∈ l, ρ x = ρ y → x = y := by
     intro y hy hxy
     have := List.all_eq_true.1 h.1 y hy
     rw [hxy] at this
     simpa using this
   rw [List.mem_cons] at hi hj
   rcases hi with rfl | hi
   · rcases hj with rfl | hj
     · rfl
     · exact key j hj he
   · rcases hj with rfl | hj
     · exact (key i hi he.symm).symm
     · exact noDupN_ok h.2 i hi j hj he
theorem Weak.ofR (l : List (Nat × Nat)) {st st' : St} (h1 : subR (renF l) st.regs st.heap st'.heap st'.regs) (h2 : subH (renF l) st.heap st'.heap st'.next st'.heap) (h3 : st'.base = st.base) (h4 : Nat.ble st.base st'.next = true) (h5 : keepB (renF l) st.heap st'.heap st.base)
   (h8 : noDupN (renF l) (idsH st'.heap) = true) (h6 : closedL st'.heap st'.defers = true) (h7 : st.defers = renL (renF l) st'.defers) : Weak st st' :=
 ⟨renF l, fun i v h => subR_look h1 i v h, fun i b h => (subH_look h2 i b h).1, fun i b h => (subH_look h2 i b h).2, h3, Nat.le_of_ble_eq_true h4, keepB_look h5, fun id id' hi hi' he => noDupN_ok h8 id (mem_idsH hi) id' (mem_idsH hi') he, h6, h7⟩
def Blk.ren (ρ : Nat → Nat) : Blk → Blk
 | .var cs => .var (renL ρ cs)
 | b => b
def Blk.closed (h : Heap) : Blk → Bool
 | .var cs => closedL h cs
 | _ => true
theorem VWL_ren {ρ : Nat → Nat} {h h' : Heap} : ∀ {cs : List V}, closedL h' cs = true → VWL ρ h h' (renL ρ cs) cs
 | [], _ => trivial
 | v :: r, hc => by
   simp only [closedL, Bool.and_eq_true] at hc
   exact ⟨.inl ⟨rfl, hc.1⟩, VWL_ren hc.2⟩
theorem BSim_ren {ρ : Nat → Nat} {h h' : Heap} {b : Blk} (hc : b.closed h' = true) : BSim ρ h h' (b.ren ρ) b := by
 cases b with
 | var cs => exact VWL_ren hc
 | arr k xs => exact ⟨rfl, rfl⟩
 | mt k v xs => exact ⟨rfl, rfl, rfl⟩
 | iter s p => exact ⟨rfl, rfl⟩
 | map kk es => exact ⟨rfl, rfl⟩
theorem look_mem {α : Type} : ∀ {l : List (Nat × α)} {i : Nat} {a : α}, look l i = some a → (i, a) ∈ l
 | [], i, a, h => by simp [look] at h
 | (j, b) :: r, i, a, h => by
   rw [look_cons] at h
   by_cases hj : j = i
   · rw [if_pos hj] at h; injection h with h; subst h; subst hj; simp
   · rw [if_neg hj] at h; simp [look_mem h]
def keepN (ρ : Nat → Nat) (h h' : Heap) : Nat → Bool
 | 0 => true
 | n + 1 => Nat.beq (ρ n) n && (!(look h n).isSome || (look h' n).isSome) && keepN ρ h h' n
theorem keepN_ok {ρ : Nat → Nat} {h h' : Heap} : ∀ {n : Nat}, keepN ρ h h' n = true → keepB ρ h h' n
 | 0, _ => trivial
 | n + 1, hk => by
   rw [keepN, Bool.and_eq_true, Bool.and_eq_true] at hk
   refine ⟨⟨Nat.eq_of_beq_eq_true hk.1.1, fun hs => ?_⟩, keepN_ok hk.2⟩
   have := hk.1.2
   rw [hs] at this
   simpa using this
theorem map_eq_get {α β : Type} {f g : α → β} : ∀ {l : List α}, l.map f = l.map g → ∀ a ∈ l, f a = g a
 | [], _, a, ha => by simp at ha
 | x :: l, h, a, ha => by
   simp only [List.map_cons, List.cons.injEq] at h
   rw [List.mem_cons] at ha
   rcases ha with rfl | ha
   · exact h.1
   · exact map_eq_get h.2 a ha
theorem Weak.eqs (l : List (Nat × Nat)) {st st' : St} (h1 : st'.regs.map (fun p => look st.regs p.1) = st'.regs.map (fun p => some (p.2.ren (renF l)))) (h1c : (st'.regs.all fun p => p.2.closed st'.heap) = true)
   (h2 : st'.heap.map (fun p => look st.heap (renF l p.1)) = st'.heap.map (fun p => some (p.2.ren (renF l)))) (h2c : (st'.heap.all fun p => p.2.closed st'.heap && Nat.blt p.1 st'.next) = true)
   (h3 : st'.base = st.base) (h4 : Nat.ble st.base st'.next = true) (h5 : keepN (renF l) st.heap st'.heap st.base = true) (h8 : noDupN (renF l) (idsH st'.heap) = true) (h6 : closedL st'.heap st'.defers = true) (h7 : st.defers = renL (renF l) st'.defers) : Weak st st' := by
 refine ⟨renF l, ?_, ?_, ?_, h3, Nat.le_of_ble_eq_true h4, keepB_look (keepN_ok h5), fun id id' hi hi' he => noDupN_ok h8 id (mem_idsH hi) id' (mem_idsH hi') he, h6, h7⟩
 · intro i v' hv
   have hm := look_mem hv
   exact ⟨v'.ren (renF l), map_eq_get h1 (i, v') hm, .inl ⟨rfl, List.all_eq_true.1 h1c (i, v') hm⟩⟩
 · intro id b' hb
   have hm := look_mem hb
   have := List.all_eq_true.1 h2c (id, b') hm
   rw [Bool.and_eq_true] at this
   exact .inl ⟨b'.ren (renF l), map_eq_get h2 (id, b') hm, BSim_ren this.1⟩
 · intro id b' hb
   have := List.all_eq_true.1 h2c (id, b') (look_mem hb)
   rw [Bool.and_eq_true] at this
   simpa using this.2
theorem Weak.of {st st' : St} (h1 : subR (renF []) st.regs st.heap st'.heap st'.regs) (h2 : subH (renF []) st.heap st'.heap st'.next st'.heap) (h3 : st'.base = st.base) (h4 : Nat.ble st.base st'.next = true) (h5 : keepB (renF []) st.heap st'.heap st.base)
   (h6 : closedL st'.heap st'.defers = true) (h7 : st.defers = renL (renF []) st'.defers) : Weak st st' :=
 ⟨renF [], fun i v h => subR_look h1 i v h, fun i b h => (subH_look h2 i b h).1, fun i b h => (subH_look h2 i b h).2, h3, Nat.le_of_ble_eq_true h4, keepB_look h5, fun id id' _ _ he => he, h6, h7⟩
end
end Uw
namespace Uw
open Go Go.RowKit
variable [Glob]
structure DFun where
 n : Nat
 pol : Pol
 t : Nat
 ops : List MI
 rest : MCode
def isRec (o : Oper) : Option Nat :=
 match o.op, o.guard, o.dst with
 | .call c, none, some t => match c.callee with
   | .builtin .recover => some t
   | _ => none
 | _, _, _ => none
def isDef (P : Program) (f : FuncId) (n : Nat) (pol : Pol) : Option (Nat × List MI × MCode) :=
 match P.funcs[f]? with
 | some fn => match fn.body, fn.results.toList with
   | some (.seq (.region _ ops false) code), [] => match ops.toList with
     | o :: l => match !(fn.name == "runtime.NumGoroutine") && Nat.beq fn.ntmps n, isRec o, compOps P n pol ops.toList l, comp P n pol code with
       | true, some t, some mi, some c => match Nat.blt t n with
         | true => some (t, mi, c)
         | false => none
       | _, _, _, _ => none
     | [] => none
   | _, _ => none
 | none => none
def IsDef (P : Program) (f : FuncId) (m : DFun) : Prop := isDef P f m.n m.pol = some (m.t, m.ops, m.rest)
def ModeRel (c : Cx) : Option Dat → FrameMode → Prop
 | none, u => u = .returning
 | some d, u => ∃ v, u = .panicking [{ v := v, recovered := false }] ∧ RelI c.w (Imm c) d v
def modeD : Option Dat → Dat
 | some d => d
 | none => .nilIface
def SatD (P : Program) (f : FuncId) (vs : List V) (h : Heap) (nx : Nat) (mode : Option Dat) (Q : Heap → Nat → Prop) : Prop :=
 HasBody P f ∧ ∀ (c : Cx) (w0 : World) (F : Fr) (gvs : List Value) (u : FrameMode), c.heap = h → HRel c w0 nx → F.K ≤ nx → F.p c → RelVL c vs gvs → ModeRel c mode u →
   CallsD P f gvs.toArray u c.w fun e u' w' => ∃ c' nx' v, c'.B = c.B ∧ c'.J0 = c.J0 ∧ c'.w = w' ∧ HRel c' w0 nx' ∧ nx ≤ nx' ∧ F.p c' ∧ e = .returned v ∧ settle u' = .returning ∧ Q c'.heap nx'
theorem wp_mono2 {P : Program} {o : Oper} {a : Act} {w : World} {K K' : Act → World → Prop} {Q Q' : Exit → Act → World → Prop} (h : ∀ a w, K a w → K' a w) (hq : ∀ e a w, Q e a w → Q' e a w) (hh : o.wp P a w K Q) : o.wp P a w K' Q' := by
 unfold Oper.wp at *
 generalize (execOp a.eval o).run P w = r at *
 cases r with
 | ok n w' =>
   cases n <;> simp only [Oper.upon] at hh ⊢ <;>
     first
       | exact h _ _ hh
       | exact Calls.mono hh (fun e w'' he => by cases e <;> first | exact h _ _ he | exact hq _ _ _ he | (obtain ⟨a1, w1, h1⟩ := he; exact ⟨a1, w1, hq _ _ _ h1⟩))
       | exact Rows.mono hh (fun _ _ he => h _ _ he)
 | halt x w' => cases x <;> simp only [Oper.upon] at hh ⊢ <;> first | exact hq _ _ _ hh | exact hh
theorem wpList_mono' {P : Program} {ops : Array Oper} {Q Q' : Exit → Act → World → Prop} (hq : ∀ e a w, Q e a w → Q' e a w) : ∀ (l : List Oper) (a : Act) (w : World), wpList P ops Q l a w → wpList P ops Q' l a w
 | [], a, w, h => hq _ _ _ h
 | o :: l, a, w, h => by
   simp only [wpList] at h ⊢
   split at h
   · rename_i hw
     rw [if_pos hw]
     rcases h with h | ⟨h1, a1, w1, h2⟩
     · exact .inl (wp_mono2 (fun a w => wpList_mono' hq l a w) hq h)
     · exact .inr ⟨h1, a1, w1, hq _ _ _ h2⟩
   · rename_i hw
     rw [if_neg hw]
     exact wpList_mono' hq l _ _ h
theorem wpOpsS_of_wpOps {P : Program} {ops : Array Oper} {Q : Exit → Act → List Frame → World → Prop} {cs : List Frame} (hno : ∀ a w, ¬ Q .outgrown a cs w) : ∀ (l : List Nat) (a : Act) (w : World), wpOps P ops (fun e a w => Q e a cs w) l a w → wpOpsS P ops Q l a cs w := by
 intro l
 induction l with
 | nil => intro a w h; exact h
 | cons i l ih =>
   intro a w h
   simp only [wpOps] at h
   simp only [wpOpsS]
   cases ho : ops[i]? with
   | none => simp only [ho] at h ⊢; exact ih a w h
   | some o =>
     simp only [ho] at h ⊢
     split
     · rename_i hw
       simp only [hw, if_true] at h
       rcases h with h | ⟨_, a', w', hl⟩
       · have h' := Oper.wp_mono ih h
         unfold Oper.wp at h'
         split
         · rename_i w' hr
           rw [hr] at h'
           exact h'.elim
         · exact h'
       · exact (hno _ _ hl).elim
     · rename_i hw
       simp only [hw] at h
       exact ih _ _ h
theorem isDef_ok {P : Program} {f : FuncId} {m : DFun} (h : IsDef P f m) : ∃ fn id ops code o l, P.funcs[f]? = some fn ∧ fn.body = some (.seq (.region id ops false) code) ∧ fn.results.toList = [] ∧ ops.toList = o :: l ∧ (fn.name == "runtime.NumGoroutine") = false ∧ fn.ntmps = m.n ∧ isRec o = some m.t ∧ compOps P m.n m.pol ops.toList l = some m.ops ∧ comp P m.n m.pol code = some m.rest ∧ m.t < m.n := by
 unfold IsDef isDef at h
 split at h
 · rename_i fn hf
   split at h
   · rename_i id ops code hb hr
     split at h
     · rename_i o l ho
       split at h
       · rename_i t mi c h1 h2 h3 h4
         split at h
         · rename_i h5
           simp only [Option.some.injEq, Prod.mk.injEq] at h
           obtain ⟨rfl, rfl, rfl⟩ := h
           rw [Bool.and_eq_true] at h1
           exact ⟨fn, id, ops, code, o, l, hf, hb, hr, ho, by simpa using h1.1, Nat.eq_of_beq_eq_true h1.2, h2, h3, h4, by simpa using h5⟩
         · simp at h
       · simp at h
     · simp at h
   · simp at h
 · simp at h
theorem isRec_ok {P : Program} {o : Oper} {t : Nat} (h : isRec o = some t) : o.guard = none ∧ o.dst = some t ∧ ∀ (a : Act) (w : World), (execOp a.eval o).run P w = .ok .recover w := by
 unfold isRec at h
 split at h
 · rename_i cl t' ho hg hd
   split at h
   · rename_i hc
     simp at h; subst h
     refine ⟨hg, hd, fun a w => ?_⟩
     obtain ⟨cal, args, ats⟩ := cl
     simp only at hc
     subst hc
     simp only [execOp, ho, resolve, invoke, builtin]
     rfl
   · simp at h
 · simp at h
def DefQ (Q : Heap → Nat → Prop) (e : MExit) (s : St) : Prop := (e = .normal ∨ e = .ret) ∧ s.defers = [] ∧ Q s.heap s.next
noncomputable def execD (m : DFun) (st : St) (q : MExit → St → Tree) : Tree :=
 execOps m.ops none st fun e st' => match e with
   | .normal => exec m.rest st' q
   | e => q e st'
theorem SatD_of_exec {P : Program} {f : FuncId} {m : DFun} (hf : IsDef P f m) {vs : List V} {h : Heap} {nx : Nat} {mode : Option Dat} {Q : Heap → Nat → Prop} (hn : Nat.ble vs.length m.n = true)
   (hw : WT P (DefQ Q) (execD m (put (some m.t) (.d (modeD mode)) ⟨initRegs 0 vs, h, nx, [], nx⟩) Tree.done)) : SatD P f vs h nx mode Q := by
 obtain ⟨fn, id, ops, code, o, l, h1, h2, hres, hol, hname, hnt, hrec, hcl, hcode, htn⟩ := isDef_ok hf
 refine ⟨⟨fn, h1, by rw [h2]; rfl, hname⟩, ?_⟩
 rintro c w0 F gvs u rfl hh hF hp hv hmode
 let F' : Fr := ⟨nx, F.p, fun c c' he hc => F.ok c c' (he.mono hF) hc⟩
 have r0 := Rel.enter (F := F') (n := m.n) hh (Nat.le_refl _) hp hv (Nat.le_of_ble_eq_true hn)
 obtain ⟨hg, hdst, hrun⟩ := isRec_ok (P := P) hrec
 refine callsD_of_wpS h1 h2 ?_
 intro c₀ cs hu
 rw [hnt]
 have final : ∀ (v : Value) (u' : FrameMode), settle u' = .returning → RelV c (.d (modeD mode)) v →
     wpOpsS P ops (Exit.thenS (code.wpS P (bodyPostS P fn c₀ cs fun e u' w' => ∃ c' nx' v, c'.B = c.B ∧ c'.J0 = c.J0 ∧ c'.w = w' ∧ HRel c' w0 nx' ∧ nx ≤ nx' ∧ F.p c' ∧ e = .returned v ∧ settle u' = .returning ∧ Q c'.heap nx')) (bodyPostS P fn c₀ cs fun e u' w' => ∃ c' nx' v, c'.B = c.B ∧ c'.J0 = c.J0 ∧ c'.w = w' ∧ HRel c' w0 nx' ∧ nx ≤ nx' ∧ F.p c' ∧ e = .returned v ∧ settle u' = .returning ∧ Q c'.heap nx'))
       (List.range' 1 l.length) (({ tmps := gvs.toArray ++ Array.replicate (m.n - gvs.toArray.size) undef, defers := [] } : Act).put o.dst v) ({ c₀ with mode := u' } :: cs) c.w := by
   intro v u' hset hvr
   have r1 := r0.put (dst := some m.t) (by simpa using htn) hvr
   have hend : ∀ (e : Exit) (a' : Act) (w' : World), Came P (DefQ Q) Tree.done c w0 m.n F' e a' w' → bodyPostS P fn c₀ cs (fun e u' w' => ∃ c' nx' v, c'.B = c.B ∧ c'.J0 = c.J0 ∧ c'.w = w' ∧ HRel c' w0 nx' ∧ nx ≤ nx' ∧ F.p c' ∧ e = .returned v ∧ settle u' = .returning ∧ Q c'.heap nx') e a' ({ c₀ with mode := u' } :: cs) w' := by
     intro e a' w' ⟨c', me, st', e1, e2, e3, e4, e5, e6⟩
     subst e3
     simp only [WT, DefQ] at e6
     obtain ⟨g1, g2, g3⟩ := e6
     have hdef : a'.defers = [] := by have := e5.defers; rw [g2] at this; exact this
     have hres' : (results fn a'.tmps).run P c'.w = .ok (.tuple #[]) c'.w := by
       have := run_resultsA (P := P) (fn := fn) (t := a'.tmps) (w := c'.w) (us := []) (by rw [hres]; simp)
       simpa using this
     have key : a'.defers = [] ∧ ∃ u'', { c₀ with mode := u' } :: cs = { c₀ with mode := u'' } :: cs ∧ ∃ v, (results fn a'.tmps).run P c'.w = .ok v c'.w ∧ (∃ c'' nx' v', c''.B = c.B ∧ c''.J0 = c.J0 ∧ c''.w = c'.w ∧ HRel c'' w0 nx' ∧ nx ≤ nx' ∧ F.p c'' ∧ Ending.returned v = .returned v' ∧ settle u'' = .returning ∧ Q c''.heap nx') :=
       ⟨hdef, u', rfl, _, hres', c', st'.next, _, e1, e2, rfl, e5.hrel, Nat.le_trans e5.fbase e5.base, e5.frames, rfl, hset, by rw [e5.heap]; exact g3⟩
     cases e with
     | normal => exact key
     | ret => exact key
     | exit id => cases me <;> simp only [ExRel] at e4; simp at g1
     | goto l => cases me <;> simp only [ExRel] at e4
     | panic ch => cases me <;> simp only [ExRel] at e4; simp at g1
     | outgrown => cases me <;> simp only [ExRel] at e4
   have hlist := execOps_ok (P := P) (n := m.n) (pol := m.pol) (ops := ops.toList) (Q := DefQ Q) (w0 := w0) (gs := F') (c0 := c) l m.ops none c _ _ hcl rfl rfl r1 (by intro t w' h' hh; simp at hh) hw
   have e : ops.toList.toArray = ops := by simp
   rw [e] at hlist
   rw [hdst]
   refine wpOpsS_of_wpOps ?_ _ _ _ ?_
   · intro a w hq
     simp only [Exit.thenS, bodyPostS] at hq
     obtain ⟨u'', c', nx', v', _, _, _, _, _, _, hh, _⟩ := hq
     cases hh
   · rw [wpOps_eq_wpList l 1 (by intro j; rw [← Array.getElem?_toList, hol, Nat.add_comm]; rfl)]
     refine wpList_mono' ?_ _ _ _ hlist
     intro e' a' w' hq
     obtain ⟨c', me, st', e1, e2, e3, e4, e5, e6⟩ := hq
     subst e3
     cases e' with
     | normal =>
       cases me <;> simp only [ExRel] at e4
       simp only [Exit.thenS]
       refine wpS_of_wp (Code.wp_mono ?_ (exec_ok code m.rest hcode Tree.done c' st' a' e5 e6))
       intro e'' a'' w'' hq''
       obtain ⟨c'', me', st'', f1, f2, f3, f4, f5, f6⟩ := hq''
       exact hend _ _ _ ⟨c'', me', st'', f1.trans e1, f2.trans e2, f3, f4, f5, f6⟩
     | exit id => cases me <;> simp only [ExRel] at e4; rename_i j; exact hend (.exit id) a' c'.w ⟨c', .exit j, st', e1, e2, rfl, e4, e5, e6⟩
     | goto l => cases me <;> simp only [ExRel] at e4
     | ret => cases me <;> simp only [ExRel] at e4; exact hend .ret a' c'.w ⟨c', .ret, st', e1, e2, rfl, trivial, e5, e6⟩
     | panic ch => cases me <;> simp only [ExRel] at e4; rename_i d; exact hend (.panic ch) a' c'.w ⟨c', .panic d, st', e1, e2, rfl, e4, e5, e6⟩
     | outgrown => cases me <;> simp only [ExRel] at e4
 refine wpS_seq (wpS_region ?_)
 have hsize : ops.size = l.length + 1 := by rw [← Array.length_toList, hol]; rfl
 rw [hsize, List.range_eq_range', List.range'_succ]
 have ho0 : ops[0]? = some o := by rw [← Array.getElem?_toList, hol]; rfl
 simp only [wpOpsS, ho0]
 have hwant : Region.wanted o (yielded ops (gvs.toArray ++ Array.replicate (m.n - gvs.toArray.size) undef)) = true := by simp [Region.wanted, hg]
 rw [if_pos hwant]
 rw [hrun]
 simp only []
 cases mode with
 | none =>
   have hu' : c₀.mode = .returning := by rw [hu]; exact hmode
   have : recoverD (c₀ :: cs) = none := by simp [recoverD, hu']
   simp only [this]
   have := final .nilIface .returning rfl (by simp [RelV, modeD, RelI])
   have ec : ({ c₀ with mode := .returning } : Frame) = c₀ := by rw [← hu']
   rw [ec] at this
   simpa using this
 | some d =>
   obtain ⟨v, hu2, hv2⟩ := hmode
   have hu' : c₀.mode = .panicking [{ v := v, recovered := false }] := by rw [hu]; exact hu2
   have : recoverD (c₀ :: cs) = some (v, { c₀ with mode := .panicking [{ v := v, recovered := true }] } :: cs) := by simp [recoverD, hu']
   simp only [this]
   have := final v (.panicking [{ v := v, recovered := true }]) rfl hv2
   simpa using this
def RetQD (P : Program) (res : List MRes) (r : Dat) (e : MExit) (st : St) : Prop :=
 ((e = .normal ∨ e = .ret) ∧ st.defers = [] ∧ ∃ vs ds, resV st res = some vs ∧ datListF st.heap vs = some ds ∧ curL st.heap vs = true ∧ packD ds = r) ∨
 ∃ mode g fs cs, ((e = .normal ∨ e = .ret) ∧ mode = none ∨ ∃ d, e = .panic d ∧ mode = some d) ∧ st.defers = [.func g fs cs] ∧
   SatD P g (fs ++ cs) st.heap st.next mode fun h' nx' => ∃ vs ds, resV { st with heap := h', next := nx' } res = some vs ∧ datListF h' vs = some ds ∧ curL h' vs = true ∧ packD ds = r
theorem run_invoke {P : Program} {f : FuncId} {fs cs : Array Value} {w : World} (hb : HasBody P f) : (invoke (.fn (.func f) cs) fs).run P w = .ok (.enter f (fs ++ cs)) w := by
 obtain ⟨fn, hf, hb, hn⟩ := hb
 have hb' : fn.body.isNone = false := by cases h : fn.body <;> simp [h] at hb ⊢
 simp only [invoke]
 unfold callFunc
 rw [run_bind_ok (s := program) (x := P) (w' := w) rfl]
 simp only [hf, hn, hb', Bool.false_eq_true, if_false]
 rfl
theorem Came.weak {P : Program} {Q : MExit → St → Prop} {c : Cx} {w0 : World} {n : Nat} {gs : Fr} {e : Exit} {a : Act} {w : World} (h : Came P (fun e st => ∃ st', (st' = st ∨ Weak st st') ∧ Q e st') Tree.done c w0 n gs e a w) : Came P Q Tree.done c w0 n gs e a w := by
 obtain ⟨c1, me, st1, e1', e2', e3', e4', e5', e6'⟩ := h
 subst e3'
 simp only [WT] at e6'
 obtain ⟨st', hweak, e6⟩ := e6'
 obtain ⟨c', k1, k2, k3, k5, e5⟩ : ∃ c', c'.B = c1.B ∧ c'.J0 = c1.J0 ∧ c'.w = c1.w ∧ Keeps c1.w c1.w (Imm c1) (Imm c') ∧ Rel c' w0 n gs st' a := by
   rcases hweak with rfl | hweak
   · exact ⟨c1, rfl, rfl, rfl, fun b o h => ⟨h, rfl⟩, e5'⟩
   · exact e5'.weak hweak
 have e4 : ExRel c' e me := by
   cases e <;> cases me <;> simp only [ExRel] at e4' ⊢ <;> first | exact e4' | skip
   obtain ⟨v, h1, h2⟩ := e4'
   exact ⟨v, h1, by rw [k3]; exact RelI.keep k5 _ _ h2⟩
 exact ⟨c', me, st', k1.trans e1', k2.trans e2', k3, e4, e5, e6⟩
theorem Ret_of_execDW {P : Program} {f : FuncId} {m : MFun} (hf : IsFun P f m) {args : List Dat} {r : Dat} (hn : Nat.ble args.length m.n = true)
   (h : WT P (fun e st => ∃ st', (st' = st ∨ Weak st st') ∧ RetQD P m.res r e st') (exec m.code (initSt args) Tree.done)) : Ret P f args r := by
 obtain ⟨fn, code, h1, h2, h0, h3, h4, h5⟩ := hf
 intro w J vs hG hrel
 refine calls_of_wp_defers h1 h2 ?_
 rw [h3]
 refine Code.wp_mono ?_ (exec_ok code m.code h5 Tree.done _ _ _ (Rel.init hG hrel (Nat.le_of_ble_eq_true hn)) h)
 intro e a' w' hcame
 obtain ⟨c', me, st', e1, e2, e3, e4, e5, e6⟩ := hcame.weak
 subst e3
 simp only [WT] at e6
 rcases e6 with ⟨g1, g2, vs', ds, g3, g4, g5, rfl⟩ | ⟨mode, g, fs, cs, hmode, hdef, hsat⟩
 · obtain ⟨v, hv1, hv2⟩ := end_data (P := P) (w := w) (J := J) e5 h4 e1 e2 g3 g4 g5
   have hbel : Below w.heap.size w c'.w := by have := e5.hrel.below; rw [e1] at this; exact this
   have hd : a'.defers = [] := by have := e5.defers; rw [g2] at this; exact this
   have key : Leaves P fn a'.tmps (fun e w' => ∃ v, e = .returned v ∧ RelI w' (fun b o => J b o ∨ (w.heap.size ≤ b ∧ b < w'.heap.size)) (packD ds) v ∧ Below w.heap.size w w') a'.defers .returning c'.w := by
     rw [hd]; exact ⟨v, hv1, v, rfl, hv2, hbel⟩
   cases e with
   | normal => exact key
   | ret => exact key
   | exit id => cases me <;> simp only [ExRel] at e4; simp at g1
   | goto l => cases me <;> simp only [ExRel] at e4
   | panic ch => cases me <;> simp only [ExRel] at e4; simp at g1
   | outgrown => cases me <;> simp only [ExRel] at e4
 · have hd := e5.defers
   rw [hdef] at hd
   obtain ⟨dd, ds', f', first, cap, us, ws, hd1, hd2, hd3, hd4, hd5, hd6⟩ := hd
   simp only [V.func.injEq] at hd2
   obtain ⟨rfl, rfl, rfl⟩ := hd2
   simp only [RelDefers] at hd6
   subst hd6 hd3
   have key : ∀ u, u ≠ .run → ModeRel c' mode u → Leaves P fn a'.tmps (fun e w' => ∃ v, e = .returned v ∧ RelI w' (fun b o => J b o ∨ (w.heap.size ≤ b ∧ b < w'.heap.size)) r v ∧ Below w.heap.size w w') a'.defers u c'.w := by
     intro u hur hu
     rw [hd1]
     refine leaves_cons hur (run_invoke hsat.1) ?_
     have hs := hsat.2 c' w (callFr Fr.none st' a' e5.frK) (us ++ ws) u e5.heap e5.hrel (Nat.le_refl _) e5.toFr (hd4.append hd5) hu
     rw [← List.append_toArray] at hs
     refine hs.mono ?_
     rintro e u' w' ⟨c'', nx', v, pB, pJ, rfl, pH, pn, pF, rfl, hset, vs', ds, q1, q2, q3, rfl⟩
     have r' := e5.ofFr pF pH pn
     simp only [hset]
     obtain ⟨v, hv1, hv2⟩ := end_data (P := P) (w := w) (J := J) r' h4 (pB.trans e1) (pJ.trans e2) q1 q2 q3
     have hbel : Below w.heap.size w c''.w := by have := pH.below; rw [pB, e1] at this; exact this
     exact ⟨v, hv1, v, rfl, hv2, hbel⟩
   cases e with
   | normal =>
     cases me <;> simp only [ExRel] at e4
     rcases hmode with ⟨_, rfl⟩ | ⟨d, hh, _⟩
     · exact key .returning (by simp) rfl
     · cases hh
   | ret =>
     cases me <;> simp only [ExRel] at e4
     rcases hmode with ⟨_, rfl⟩ | ⟨d, hh, _⟩
     · exact key .returning (by simp) rfl
     · cases hh
   | exit id => cases me <;> simp only [ExRel] at e4; rcases hmode with ⟨hh, _⟩ | ⟨d, hh, _⟩ <;> simp at hh
   | goto l => cases me <;> simp only [ExRel] at e4
   | panic ch =>
     cases me <;> simp only [ExRel] at e4
     rename_i d0
     rcases hmode with ⟨hh, _⟩ | ⟨d, hh, rfl⟩
     · simp at hh
     · injection hh with hh; subst hh
       obtain ⟨v, rfl, hv⟩ := e4
       exact key _ (by simp) ⟨v, rfl, hv⟩
   | outgrown => cases me <;> simp only [ExRel] at e4
theorem SatD.mono {P : Program} {f : FuncId} {vs : List V} {h : Heap} {nx : Nat} {mode : Option Dat} {Q Q' : Heap → Nat → Prop} (hs : SatD P f vs h nx mode Q) (hq : ∀ h' nx', Q h' nx' → Q' h' nx') : SatD P f vs h nx mode Q' := by
 refine ⟨hs.1, fun c w0 F gvs u h1 h2 h3 h4 h5 h6 => (hs.2 c w0 F gvs u h1 h2 h3 h4 h5 h6).mono ?_⟩
 rintro e u' w' ⟨c', nx', v, e1, e2, e3, e4, e5, e6, e7, e8, e9⟩
 exact ⟨c', nx', v, e1, e2, e3, e4, e5, e6, e7, e8, hq _ _ e9⟩
end Uw
namespace Uw
open Go Go.RowKit
variable [Glob]
end Uw
namespace Uw
open Go Go.RowKit
variable [Glob]
mutual
inductive DLe : Dat → Dat → Prop
 | refl (d : Dat) : DLe d d
 | nil (k : Nat) : DLe .nil (.slice k [] false)
 | slice {k : Nat} {xs ys : List (List Dat)} {z : Bool} (h : DLeE xs ys) : DLe (.slice k xs z) (.slice k ys false)
 | agg {cs ds : List Dat} (h : DLeL cs ds) : DLe (.agg cs) (.agg ds)
 | tuple {cs ds : List Dat} (h : DLeL cs ds) : DLe (.tuple cs) (.tuple ds)
inductive DLeL : List Dat → List Dat → Prop
 | refl (l : List Dat) : DLeL l l
 | cons {a b : Dat} {as bs : List Dat} (h : DLe a b) (h2 : DLeL as bs) : DLeL (a :: as) (b :: bs)
inductive DLeE : List (List Dat) → List (List Dat) → Prop
 | refl (l : List (List Dat)) : DLeE l l
 | cons {a b : List Dat} {as bs : List (List Dat)} (h : DLeL a b) (h2 : DLeE as bs) : DLeE (a :: as) (b :: bs)
end
mutual
theorem DLe.rel {w : World} {J : Nat → Nat → Prop} : ∀ {d d' : Dat}, DLe d d' → ∀ {v : Value}, RelI w J d v → RelI w J d' v
 | _, _, .refl d, v, r => r
 | _, _, .nil k, v, r => .inl ⟨⟨_, r, by simp⟩, rfl⟩
 | _, _, .slice h, v, .inl ⟨⟨x, r1, _⟩, r2⟩ => .inl ⟨⟨x, r1, by simp⟩, by subst r2; cases h; rfl⟩
 | _, _, .slice h, v, .inr ⟨b, o, cap, h1, h2, h3, h4⟩ => .inr ⟨b, o, cap, by rw [← h.len]; exact h1, by rw [← h.len]; exact h2, by simp, h.rel h4⟩
 | _, _, .agg h, v, ⟨vs, h1, h2⟩ => ⟨vs, h1, h.rel h2⟩
 | _, _, .tuple h, v, ⟨vs, h1, h2⟩ => ⟨vs, h1, h.rel h2⟩
theorem DLeL.rel {w : World} {J : Nat → Nat → Prop} : ∀ {d d' : List Dat}, DLeL d d' → ∀ {vs : List Value}, RelL w J d vs → RelL w J d' vs
 | _, _, .refl l, vs, r => r
 | _, _, .cons h h2, vs, ⟨v, vs', e1, e2, e3⟩ => ⟨v, vs', e1, h.rel e2, h2.rel e3⟩
theorem DLeL.relC {w : World} {J : Nat → Nat → Prop} {b : Nat} : ∀ {d d' : List Dat}, DLeL d d' → ∀ {o : Nat}, RelC w J b o d → RelC w J b o d'
 | _, _, .refl l, o, r => r
 | _, _, .cons h h2, o, ⟨⟨v, e1, e2, e3, e4⟩, e5⟩ => ⟨⟨v, e1, e2, e3, h.rel e4⟩, h2.relC e5⟩
theorem DLeE.rel {w : World} {J : Nat → Nat → Prop} {b k : Nat} : ∀ {d d' : List (List Dat)}, DLeE d d' → ∀ {o : Nat}, RelE w J b k o d → RelE w J b k o d'
 | _, _, .refl l, o, r => r
 | _, _, .cons h h2, o, ⟨e1, e2, e3⟩ => ⟨by rw [← h.len]; exact e1, h.relC e2, h2.rel e3⟩
theorem DLeL.len : ∀ {d d' : List Dat}, DLeL d d' → d.length = d'.length
 | _, _, .refl l => rfl
 | _, _, .cons h h2 => by simp [h2.len]
theorem DLeE.len : ∀ {d d' : List (List Dat)}, DLeE d d' → d.length = d'.length
 | _, _, .refl l => rfl
 | _, _, .cons h h2 => by simp [h2.len]
end
theorem Ret.args {P : Program} {f : FuncId} {ds ds' : List Dat} {r : Dat} (h : Ret P f ds' r) (hl : DLeL ds ds') : Ret P f ds r := fun w J vs hg hr => h w J vs hg (hl.rel hr)
theorem Ret.res {P : Program} {f : FuncId} {ds : List Dat} {r r' : Dat} (h : Ret P f ds r) (hl : DLe r r') : Ret P f ds r' := fun w J vs hg hr => (h w J vs hg hr).mono (by
 rintro e w' ⟨v, e1, e2, e3⟩; exact ⟨v, e1, hl.rel e2, e3⟩)
theorem WT_guard {P : Program} {Q : MExit → St → Prop} {b : Bool} {y : Tree} (hb : b = true) (h1 : WT P Q y) : WT P Q (.test b y .fail) := ⟨fun _ => h1, fun h => (by rw [hb] at h; cases h)⟩
theorem WT_inR {P : Program} {Q : MExit → St → Prop} {k : IntKind} {x : Int} {y n : Tree} (hb : inR k x = true) (h1 : WT P Q y) : WT P Q (.test (inR k x) y n) := ⟨fun _ => h1, fun h => (by rw [hb] at h; cases h)⟩
theorem BSim_by {ρ : Nat → Nat} {h h' : Heap} {b b' : Blk} (e : b = b'.ren ρ) (hc : b'.closed h' = true) : BSim ρ h h' b b' := by subst e; exact BSim_ren hc
theorem VW_int {ρ : Nat → Nat} {h h' : Heap} {k : IntKind} {a b : Int} (e : a = b) : VW ρ h h' (.d (.int k a)) (.d (.int k b)) := by subst e; exact Or.inl ⟨rfl, rfl⟩
theorem VW_ref {ρ : Nat → Nat} {h h' : Heap} {id ver off a b : Nat} (e : a = b) (hr : ρ id = id) (hc : (look h' id).isSome = true) : VW ρ h h' (.ref id ver off a) (.ref id ver off b) := by subst e; exact Or.inl ⟨by rw [V.ren, hr], hc⟩
theorem VW_str {ρ : Nat → Nat} {h h' : Heap} {a b : List UInt8} (e : a = b) : VW ρ h h' (.d (.str a)) (.d (.str b)) := by subst e; exact Or.inl ⟨rfl, rfl⟩
theorem row_eq {α : Type} {g : α → List Dat} {l : List α} {n : Nat} {xs : List (List Dat)} (h1 : n = xs.length) (h2 : xs = l.map g) : (xs.drop 0).take n = l.map g := by subst h1; rw [List.drop_zero, List.take_length, h2]
theorem map_get {α β : Type} (g : α → β) (l : List α) (k : Nat) (h : k < l.length) : (l.map g)[k]? = some (g l[k]) := by simp [h]
theorem take_one {α : Type} (l : List α) (k : Nat) (h : k < l.length) : l.take (k + 1) = l.take k ++ [l[k]] := by rw [List.take_succ_eq_append_getElem h]
end Uw
namespace Uw
open Go Go.RowKit Go.ChangeShapes Go.WideShapes Go.ChangeAt
variable [Glob]
theorem trodAll_below {H : Type} {enc : TypeId × Value → H} {P : Program} {W W' : World} (hl : laidOutB P = true) (hb : Below W.heap.size W W') : ∀ {ts : List TypeId} {vs : List Value} {ds : List (DataW H)} {p : List MemPlace},
   (ts.all fun t => P.readableRec t && decide (t < P.types.size)) = true → DataW.TrodAll enc P W 0 (fun _ => true) true ts vs ds p → (∀ x ∈ p, x.block < W.heap.size) → DataW.TrodAll enc P W' 0 (fun b => decide (b < W.heap.size)) true ts vs ds p
 | [], [], [], p, _, h, _ => h
 | t :: ts, v :: vs, d :: ds, p, ht, ⟨p1, q1, h1, h2, h3⟩, hlt => by
   rw [List.all_cons, Bool.and_eq_true, Bool.and_eq_true] at ht
   subst h3
   exact ⟨p1, q1, Below.trod hl ht.1.1 (of_decide_eq_true ht.1.2) h1 hb (fun x hx => hlt x (by simp [hx])), trodAll_below hl hb ht.2 h2 (fun x hx => hlt x (by simp [hx])), rfl⟩
 | [], _ :: _, _, _, _, h, _ => h.elim
 | [], [], _ :: _, _, _, h, _ => h.elim
 | _ :: _, [], _, _, _, h, _ => h.elim
 | _ :: _, _ :: _, [], _, _, h, _ => h.elim
theorem post_below {H : Type} {enc : TypeId × Value → H} {P : Program} {f : Func} {s : ChangeSpec} {apart fresh handsOn : Bool} {W W' : World} {args : Array Value} {v : Value} {ds gs : List (DataW H)} {before : List MemPlace} {tb : TypeId}
   (hl : laidOutB P = true) (hts : (f.params.toList.all fun t => P.readableRec t && decide (t < P.types.size)) = true) (hrt : f.resultTypes = #[tb]) (htb : P.underlying tb = some .bool) (hvs : s.vars = [])
   (hW : DataW.Whole enc P f.params.toList s.vars apart W args.toList ds gs before) (hfn : s.fn H ds = { results := [.lit (.bool true)], args := ds }) (hb : Below W.heap.size W W') (hv : v = .bool true) : s.post enc P f apart fresh handsOn false W args v W' := by
 have hW' := hW
 obtain ⟨p, q, hA, hV, rfl, hfz, hnd⟩ := hW
 rw [hvs] at hV
 obtain ⟨rfl, rfl⟩ := trodVars_none hV
 have hlt : ∀ x ∈ p, x.block < W.heap.size := fun x hx => by simpa using hW'.lt x (by simpa using hx)
 subst hv
 refine ⟨ds, [], p ++ [], [], p, [], hW', ?_, ?_, ?_, ?_, by simp⟩
 · rw [List.append_nil, hfn, hrt]
   exact trodAll_cons_mk (shut_bool htb _) trodAll_mk0
 · rw [List.append_nil, hfn]
   exact trodAll_below hl hb hts hA hlt
 · rw [hvs, List.append_nil, hfn]
   rfl
 · exact World.keptBut_mono (fun _ h => h.elim) (hb.frame (fun _ => False))
end Uw
namespace Uw
open Go Go.RowKit
variable [Glob]
inductive Ty where
 | bool
 | int (k : IntKind)
 | str
 | slice (n : Nat) (e : Ty)
 | struct (fs : List Ty)
abbrev allJ : Nat → Nat → Prop := fun _ _ => True
theorem RelC.ofL {w : World} {b : Nat} : ∀ {ds : List Dat} {cs : List Value} {o : Nat}, RelL w allJ ds cs → (∀ v ∈ cs, one v = true) → (∀ j v, cs[j]? = some v → w.cell? ⟨b, o + j, none⟩ = some v) → RelC w allJ b o ds
 | [], cs, o, _, _, _ => by simp [RelC]
 | d :: ds, cs, o, ⟨v, vs, e, h1, h2⟩, h3, h4 => by
   subst e
   refine ⟨⟨v, by simpa using h4 0 v rfl, trivial, h3 v (by simp), h1⟩, RelC.ofL h2 (fun u hu => h3 u (by simp [hu])) (fun j u hu => ?_)⟩
   have := h4 (j + 1) u (by simpa using hu)
   rw [show o + 1 + j = o + (j + 1) by omega]; exact this
theorem RelE.of {w : World} {b k : Nat} : ∀ {xs : List (List Dat)} {o : Nat}, (∀ i x, xs[i]? = some x → x.length = k ∧ RelC w allJ b (o + i * k) x) → RelE w allJ b k o xs
 | [], o, _ => by simp [RelE]
 | x :: xs, o, h => by
   have h0 := h 0 x rfl
   refine ⟨h0.1, by simpa using h0.2, RelE.of (fun i y hy => ?_)⟩
   have := h (i + 1) y (by simpa using hy)
   rw [show o + k + i * k = o + (i + 1) * k by rw [Nat.add_mul]; omega]; exact this
theorem wf_u8 {n : Int} (h : (Lit.int .u8 n).wf = true) : 0 ≤ n ∧ n < 256 := by
 simp [Lit.wf, IntKind.min, IntKind.max, IntKind.signed, IntKind.bits] at h; omega
end Uw
namespace Uw
open Go Go.Lib
theorem get_bytes (s : List UInt8) (i : Nat) (b : UInt8) (h : s[i]? = some b) : (⟨s.toArray⟩ : ByteArray).get! i = b := by
 show s.toArray[i]! = b
 rw [getElem!_def]
 simp [h]
theorem runeAt_at (s : List UInt8) (pos : Nat) : runeAt s pos = decodeN (s.length - pos) ((⟨s.toArray⟩ : ByteArray).get! pos).toNat ((⟨s.toArray⟩ : ByteArray).get! (pos + 1)).toNat ((⟨s.toArray⟩ : ByteArray).get! (pos + 2)).toNat ((⟨s.toArray⟩ : ByteArray).get! (pos + 3)).toNat := by
 rw [runeAt_eq, decode_at]
 rfl
theorem runeAt_low (s : List UInt8) (pos : Nat) (b : UInt8) (h : s[pos]? = some b) (hb : b.toNat < 128) : runeAt s pos = (b.toNat, 1) := by
 rw [runeAt_at, get_bytes s pos b h, decodeN, if_pos hb]
theorem decodeN_high (n b0 b1 b2 b3 : Nat) (h : 128 ≤ b0) (hb : b0 < 256) : 128 ≤ (decodeN n b0 b1 b2 b3).1 ∧ (decodeN n b0 b1 b2 b3).1 ≤ 1114111 ∧ 1 ≤ (decodeN n b0 b1 b2 b3).2 := by
 unfold decodeN
 repeat' split
 all_goals (simp only; omega)
theorem runeAt_high (s : List UInt8) (pos : Nat) (b : UInt8) (h : s[pos]? = some b) (hb : 128 ≤ b.toNat) :
   128 ≤ (runeAt s pos).1 ∧ (runeAt s pos).1 ≤ 1114111 ∧ 1 ≤ (runeAt s pos).2 ∧ pos + (runeAt s pos).2 ≤ s.length ∧ ∀ j, j < (runeAt s pos).2 → ∃ c, s[pos + j]? = some c ∧ 128 ≤ c.toNat := by
 have hlt : pos < s.length := by
   rcases Nat.lt_or_ge pos s.length with h1 | h1
   · exact h1
   · rw [List.getElem?_eq_none h1] at h; cases h
 have hg := get_bytes s pos b h
 rw [runeAt_at, hg]
 have h1 := decodeN_high (s.length - pos) b.toNat ((⟨s.toArray⟩ : ByteArray).get! (pos + 1)).toNat ((⟨s.toArray⟩ : ByteArray).get! (pos + 2)).toNat ((⟨s.toArray⟩ : ByteArray).get! (pos + 3)).toNat hb b.toNat_lt
 have h2 := decodeN_conts (s.length - pos) b.toNat ((⟨s.toArray⟩ : ByteArray).get! (pos + 1)).toNat ((⟨s.toArray⟩ : ByteArray).get! (pos + 2)).toNat ((⟨s.toArray⟩ : ByteArray).get! (pos + 3)).toNat
 generalize decodeN (s.length - pos) b.toNat ((⟨s.toArray⟩ : ByteArray).get! (pos + 1)).toNat ((⟨s.toArray⟩ : ByteArray).get! (pos + 2)).toNat ((⟨s.toArray⟩ : ByteArray).get! (pos + 3)).toNat = r at h1 h2
 obtain ⟨r1, r2⟩ := r
 simp only at h1 h2 ⊢
 obtain ⟨a1, a2, a3⟩ := h1
 obtain ⟨c1, c2, c3, c4⟩ := h2
 refine ⟨a1, a2, a3, by omega, fun j hj => ?_⟩
 have hjl : pos + j < s.length := by omega
 refine ⟨s[pos + j], by simp [hjl], ?_⟩
 have hgj := get_bytes s (pos + j) s[pos + j] (by simp [hjl])
 rcases j with _ | _ | _ | _ | j
 · have : s[pos + 0] = b := by
     have := h; rw [List.getElem?_eq_getElem hlt] at this; simpa using this
   rw [this]; exact hb
 · have := (c1 (by omega)).1; rw [hgj] at this; omega
 · have := (c2 (by omega)).1; rw [hgj] at this; omega
 · have := (c3 (by omega)).1; rw [hgj] at this; omega
 · omega
end Uw
namespace Uw
open Go
variable [Glob]
section
variable {P : Program} {Q : MExit → St → Prop} {p q : Prop} [Decidable p] [Decidable q] {b : Bool} {y n : Tree}
theorem WT_dec (h1 : p → WT P Q y) (h2 : ¬ p → WT P Q n) : WT P Q (.test (decide p) y n) := ⟨fun h => h1 (of_decide_eq_true h), fun h => h2 (of_decide_eq_false h)⟩
theorem WT_ndec (h1 : ¬ p → WT P Q y) (h2 : p → WT P Q n) : WT P Q (.test (!decide p) y n) := ⟨fun h => h1 (by simpa using h), fun h => h2 (by simpa using h)⟩
theorem WT_decT (h1 : p → WT P Q y) (h2 : ¬ p → WT P Q n) : WT P Q (.test (decide p == true) y n) := ⟨fun h => h1 (by simpa using h), fun h => h2 (by simpa using h)⟩
theorem WT_decF (h1 : ¬ p → WT P Q y) (h2 : p → WT P Q n) : WT P Q (.test (decide p == false) y n) := ⟨fun h => h1 (by simpa using h), fun h => h2 (by simpa using h)⟩
theorem WT_ndecT (h1 : ¬ p → WT P Q y) (h2 : p → WT P Q n) : WT P Q (.test ((!decide p) == true) y n) := ⟨fun h => h1 (by simpa using h), fun h => h2 (by simpa using h)⟩
theorem WT_ndecF (h1 : p → WT P Q y) (h2 : ¬ p → WT P Q n) : WT P Q (.test ((!decide p) == false) y n) := ⟨fun h => h1 (by simpa using h), fun h => h2 (by simpa using h)⟩
theorem WT_bT (h1 : b = true → WT P Q y) (h2 : b = false → WT P Q n) : WT P Q (.test (b == true) y n) := ⟨fun h => h1 (by simpa using h), fun h => h2 (by simpa using h)⟩
theorem WT_bF (h1 : b = false → WT P Q y) (h2 : b = true → WT P Q n) : WT P Q (.test (b == false) y n) := ⟨fun h => h1 (by simpa using h), fun h => h2 (by simpa using h)⟩
theorem WT_nb (h1 : b = false → WT P Q y) (h2 : b = true → WT P Q n) : WT P Q (.test (!b) y n) := ⟨fun h => h1 (by simpa using h), fun h => h2 (by simpa using h)⟩
theorem WT_ty (hb : b = true) (h1 : WT P Q y) : WT P Q (.test b y n) := ⟨fun _ => h1, fun h => (by rw [hb] at h; cases h)⟩
theorem WT_yes (hp : p) (h1 : WT P Q y) : WT P Q (.test (decide p) y n) := ⟨fun _ => h1, fun h => absurd hp (of_decide_eq_false h)⟩
theorem WT_no (hp : ¬ p) (h1 : WT P Q n) : WT P Q (.test (decide p) y n) := ⟨fun h => absurd (of_decide_eq_true h) hp, fun _ => h1⟩
theorem WT_nyes (hp : ¬ p) (h1 : WT P Q y) : WT P Q (.test (!decide p) y n) := ⟨fun _ => h1, fun h => absurd (by simpa using h) hp⟩
theorem WT_nno (hp : p) (h1 : WT P Q n) : WT P Q (.test (!decide p) y n) := ⟨fun h => absurd hp (by simpa using h), fun _ => h1⟩
theorem WT_yT (hp : p) (h1 : WT P Q y) : WT P Q (.test (decide p == true) y n) := WT_decT (fun _ => h1) (fun h => absurd hp h)
theorem WT_nT (hp : ¬ p) (h1 : WT P Q n) : WT P Q (.test (decide p == true) y n) := WT_decT (fun h => absurd h hp) (fun _ => h1)
theorem WT_yF (hp : ¬ p) (h1 : WT P Q y) : WT P Q (.test (decide p == false) y n) := WT_decF (fun _ => h1) (fun h => absurd h hp)
theorem WT_nF (hp : p) (h1 : WT P Q n) : WT P Q (.test (decide p == false) y n) := WT_decF (fun h => absurd hp h) (fun _ => h1)
theorem WT_nyT (hp : ¬ p) (h1 : WT P Q y) : WT P Q (.test ((!decide p) == true) y n) := WT_ndecT (fun _ => h1) (fun h => absurd h hp)
theorem WT_nnT (hp : p) (h1 : WT P Q n) : WT P Q (.test ((!decide p) == true) y n) := WT_ndecT (fun h => absurd hp h) (fun _ => h1)
theorem WT_nyF (hp : p) (h1 : WT P Q y) : WT P Q (.test ((!decide p) == false) y n) := WT_ndecF (fun _ => h1) (fun h => absurd hp h)
theorem WT_nnF (hp : ¬ p) (h1 : WT P Q n) : WT P Q (.test ((!decide p) == false) y n) := WT_ndecF (fun h => absurd h hp) (fun _ => h1)
theorem WT_byT (hb : b = true) (h1 : WT P Q y) : WT P Q (.test (b == true) y n) := WT_bT (fun _ => h1) (fun h => (by rw [hb] at h; cases h))
theorem WT_bnT (hb : b = false) (h1 : WT P Q n) : WT P Q (.test (b == true) y n) := WT_bT (fun h => (by rw [hb] at h; cases h)) (fun _ => h1)
theorem WT_byF (hb : b = false) (h1 : WT P Q y) : WT P Q (.test (b == false) y n) := WT_bF (fun _ => h1) (fun h => (by rw [hb] at h; cases h))
theorem WT_bnF (hb : b = true) (h1 : WT P Q n) : WT P Q (.test (b == false) y n) := WT_bF (fun h => (by rw [hb] at h; cases h)) (fun _ => h1)
theorem WT_nby (hb : b = false) (h1 : WT P Q y) : WT P Q (.test (!b) y n) := WT_nb (fun _ => h1) (fun h => (by rw [hb] at h; cases h))
theorem WT_nbn (hb : b = true) (h1 : WT P Q n) : WT P Q (.test (!b) y n) := WT_nb (fun h => (by rw [hb] at h; cases h)) (fun _ => h1)
theorem WT_ix (hp : p ∧ q) (h1 : WT P Q y) : WT P Q (.test (decide p && decide q) y n) := ⟨fun _ => h1, fun h => (by simp [hp.1, hp.2] at h)⟩
theorem WT_i64 {x : Int} (hp : -9223372036854775808 ≤ x ∧ x < 9223372036854775808) (h1 : WT P Q y) : WT P Q (.test (inR .i64 x) y n) := ⟨fun _ => h1, fun h => (by simp [inR, hp.1, hp.2] at h)⟩
theorem WT_dlen {α β : Type} {g : α → β} {l : List α} {k : Nat} (h1 : k < l.length → WT P Q y) (h2 : ¬ k < l.length → WT P Q n) : WT P Q (.test (decide ((k : Int) < ((l.map g).length : Nat))) y n) := WT_dec (fun h => h1 (by simpa using h)) (fun h => h2 (by simpa using h))
theorem WT_ixm {α β : Type} {g : α → β} {l : List α} {k : Nat} (hk : k < l.length) (h1 : WT P Q y) : WT P Q (.test (decide ((0 : Int) ≤ (k : Int)) && decide ((k : Int) < ((l.map g).length : Nat))) y n) := WT_ix ⟨by omega, by simpa using hk⟩ h1
theorem WT_ixl {α : Type} {l : List α} {k : Nat} (hk : k < l.length) (h1 : WT P Q y) : WT P Q (.test (decide ((0 : Int) ≤ (k : Int)) && decide ((k : Int) < (l.length : Nat))) y n) := WT_ix ⟨by omega, by simpa using hk⟩ h1
theorem WT_elm {α : Type} {g : α → List Dat} {l : List α} {k : Nat} {t : List Dat → Tree} (hk : k < l.length) (h1 : WT P Q (t (g l[k]))) : WT P Q (.elem (l.map g) (k : Int).toNat t) := WT_elem _ (by simp [hk]) h1
theorem WT_byt {s : List UInt8} {k : Nat} {t : UInt8 → Tree} (hk : k < s.length) (h1 : WT P Q (t s[k])) : WT P Q (.byte s (k : Int).toNat t) := WT_byte _ (by simp [hk]) h1
theorem WT_dlenS {α β : Type} {g : α → β} {l : List α} {k : Nat} (h1 : k + 1 < l.length → WT P Q y) (h2 : ¬ k + 1 < l.length → WT P Q n) : WT P Q (.test (decide ((k : Int) + 1 < ((l.map g).length : Nat))) y n) := WT_dec (fun h => h1 (by simp at h; omega)) (fun h => h2 (by simp at h; omega))
theorem WT_ixS {α : Type} {l : List α} {k : Nat} (hk : k + 1 < l.length) (h1 : WT P Q y) : WT P Q (.test (decide ((0 : Int) ≤ (k : Int) + 1) && decide ((k : Int) + 1 < (l.length : Nat))) y n) := WT_ix ⟨by omega, by omega⟩ h1
theorem WT_ixmS {α β : Type} {g : α → β} {l : List α} {k : Nat} (hk : k + 1 < l.length) (h1 : WT P Q y) : WT P Q (.test (decide ((0 : Int) ≤ (k : Int) + 1) && decide ((k : Int) + 1 < ((l.map g).length : Nat))) y n) := WT_ix ⟨by omega, by simp; omega⟩ h1
theorem WT_elmS {α : Type} {g : α → List Dat} {l : List α} {k : Nat} {t : List Dat → Tree} (hk : k + 1 < l.length) (h1 : WT P Q (t (g l[k + 1]))) : WT P Q (.elem (l.map g) ((k : Int) + 1).toNat t) := WT_elm (k := k + 1) hk h1
theorem WT_bytS {s : List UInt8} {k : Nat} {t : UInt8 → Tree} (hk : k + 1 < s.length) (h1 : WT P Q (t s[k + 1])) : WT P Q (.byte s ((k : Int) + 1).toNat t) := WT_byt (k := k + 1) hk h1
theorem WT_bytZ {s : List UInt8} {t : UInt8 → Tree} (hk : 0 < s.length) (h1 : WT P Q (t s[0])) : WT P Q (.byte s (0 : Int).toNat t) := WT_byt (k := 0) hk h1
theorem WT_elmZ {α : Type} {g : α → List Dat} {l : List α} {t : List Dat → Tree} (hk : 0 < l.length) (h1 : WT P Q (t (g l[0]))) : WT P Q (.elem (l.map g) (0 : Int).toNat t) := WT_elm (k := 0) hk h1
theorem WT_ixZ {α : Type} {l : List α} (hk : 0 < l.length) (h1 : WT P Q y) : WT P Q (.test (decide ((0 : Int) ≤ 0) && decide ((0 : Int) < (l.length : Nat))) y n) := WT_ix ⟨by omega, by omega⟩ h1
theorem WT_ixmZ {α β : Type} {g : α → β} {l : List α} (hk : 0 < l.length) (h1 : WT P Q y) : WT P Q (.test (decide ((0 : Int) ≤ 0) && decide ((0 : Int) < ((l.map g).length : Nat))) y n) := WT_ix ⟨by omega, by simp; omega⟩ h1
theorem WT_bytN {s : List UInt8} {k : Nat} {t : UInt8 → Tree} (hk : k < s.length) (h1 : WT P Q (t s[k])) : WT P Q (.byte s k t) := WT_byte _ (by simp [hk]) h1
end
end Uw
