/- N3: Uo Up Uq Uq2 Uq3 Uq4 (merged by merge2.py from the working texts). -/
import Derived.Test.YtlnfojhdicbgiaaDoorN2
import Derived.StillTail
set_option linter.unusedSimpArgs false
set_option linter.unnecessarySimpa false
set_option linter.unusedVariables false
set_option linter.unusedSectionVars false
namespace Uw
open Go Go.RowKit
variable [Glob]
def Sel {α : Type} (P : Program) (T : (α → Tree) → Tree) : Prop :=
 ∀ (Q : MExit → St → Prop) (f : α → Tree), WT P Q (T f) → ∃ x, WT P Q (f x) ∧ ∀ (Q' : MExit → St → Prop) (f' : α → Tree), WT P Q' (f' x) → WT P Q' (T f')
section
variable {P : Program} {α β : Type}
theorem Sel.pure (x : α) : Sel P (fun f => f x) := fun Q f h => ⟨x, h, fun Q' f' h' => h'⟩
theorem Sel.fail : Sel (α := α) P (fun _ => Tree.fail) := fun Q f h => h.elim
theorem Sel.test {b : Bool} {T1 T2 : (α → Tree) → Tree} (h1 : Sel P T1) (h2 : Sel P T2) : Sel P (fun f => Tree.test b (T1 f) (T2 f)) := by
 intro Q f h
 simp only [WT] at h
 cases b with
 | true =>
   obtain ⟨x, g1, g2⟩ := h1 Q f (h.1 rfl)
   exact ⟨x, g1, fun Q' f' h' => ⟨fun _ => g2 Q' f' h', fun hb => by cases hb⟩⟩
 | false =>
   obtain ⟨x, g1, g2⟩ := h2 Q f (h.2 rfl)
   exact ⟨x, g1, fun Q' f' h' => ⟨fun hb => (by cases hb), fun _ => g2 Q' f' h'⟩⟩
theorem Sel.elem {xs : List (List Dat)} {i : Nat} {T : List Dat → (α → Tree) → Tree} (h1 : ∀ c, Sel P (T c)) : Sel P (fun f => Tree.elem xs i (fun c => T c f)) := by
 intro Q f h
 obtain ⟨c, hc, h⟩ := h
 obtain ⟨x, g1, g2⟩ := h1 c Q f h
 exact ⟨x, g1, fun Q' f' h' => ⟨c, hc, g2 Q' f' h'⟩⟩
theorem Sel.byte {xs : List UInt8} {i : Nat} {T : UInt8 → (α → Tree) → Tree} (h1 : ∀ c, Sel P (T c)) : Sel P (fun f => Tree.byte xs i (fun c => T c f)) := by
 intro Q f h
 obtain ⟨c, hc, h⟩ := h
 obtain ⟨x, g1, g2⟩ := h1 c Q f h
 exact ⟨x, g1, fun Q' f' h' => ⟨c, hc, g2 Q' f' h'⟩⟩
theorem Sel.val {o : Option Dat} {T : Dat → (α → Tree) → Tree} (h1 : ∀ c, Sel P (T c)) : Sel P (fun f => Tree.val o (fun c => T c f)) := by
 intro Q f h
 obtain ⟨c, hc, h⟩ := h
 obtain ⟨x, g1, g2⟩ := h1 c Q f h
 exact ⟨x, g1, fun Q' f' h' => ⟨c, hc, g2 Q' f' h'⟩⟩
theorem Sel.call {g : FuncId} {ds : List Dat} {T : Dat → (α → Tree) → Tree} (h1 : ∀ c, Sel P (T c)) : Sel P (fun f => Tree.call g ds (fun c => T c f)) := by
 intro Q f h
 obtain ⟨c, hc, h⟩ := h
 obtain ⟨x, g1, g2⟩ := h1 c Q f h
 exact ⟨x, g1, fun Q' f' h' => ⟨c, hc, g2 Q' f' h'⟩⟩
theorem Sel.fit {k : IntKind} {n : Int} {T : Int → (α → Tree) → Tree} (h1 : ∀ m, Sel P (T m)) : Sel P (fun f => fit k n (fun m => T m f)) := Sel.test (h1 _) (h1 _)
theorem Sel.binI {op : BinOp} {k : IntKind} {a b : Int} {T : Dat → (α → Tree) → Tree} (h1 : ∀ d, Sel P (T d)) : Sel P (fun f => binI op k a b (fun d => T d f)) := by
 cases op with
 | add => exact Sel.fit fun _ => h1 _
 | sub => exact Sel.fit fun _ => h1 _
 | mul => exact Sel.fit fun _ => h1 _
 | quo => exact Sel.test Sel.fail (Sel.fit fun _ => h1 _)
 | rem => exact Sel.test Sel.fail (h1 _)
 | shl => exact Sel.fail
 | shr => exact Sel.fail
 | _ => exact h1 _
theorem Sel.strI {op : BinOp} {a b : List UInt8} {T : Dat → (α → Tree) → Tree} (h1 : ∀ d, Sel P (T d)) : Sel P (fun f => strI op a b (fun d => T d f)) := by
 cases op with
 | add => exact Sel.test (h1 _) Sel.fail
 | sub => exact Sel.fail
 | mul => exact Sel.fail
 | quo => exact Sel.fail
 | rem => exact Sel.fail
 | shl => exact Sel.fail
 | shr => exact Sel.fail
 | and => exact Sel.fail
 | or => exact Sel.fail
 | xor => exact Sel.fail
 | andNot => exact Sel.fail
 | _ => exact h1 _
end
theorem ev_agree {st st' : St} {y : Opd} (h : ∀ t ∈ y.tmps, look st'.regs t = look st.regs t) : y.ev st' = y.ev st := by
 cases y with
 | t n => simp only [Opd.ev, h n (by simp [Opd.tmps])]
 | c d => rfl
theorem evList_agree {st st' : St} : ∀ {ys : List Opd}, (∀ t ∈ opdsTmps ys, look st'.regs t = look st.regs t) → evList st' ys = evList st ys
 | [], _ => rfl
 | y :: ys, h => by
   simp only [evList]
   rw [ev_agree (y := y) (fun t ht => h t (by simp [opdsTmps, ht])), evList_agree (ys := ys) (fun t ht => h t (by simp [opdsTmps, ht]))]
theorem fillParts_agree {st st' : St} : ∀ {ps : List (Nat × Nat × Opd)} (cs : List V), (∀ t ∈ partsTmps ps, look st'.regs t = look st.regs t) → fillParts st' cs ps = fillParts st cs ps
 | [], cs, _ => rfl
 | (off, n, x) :: ps, cs, h => by
   simp only [fillParts]
   rw [ev_agree (y := x) (fun t ht => h t (by simp [partsTmps, ht]))]
   split
   · split
     · exact fillParts_agree _ (fun t ht => h t (by simp [partsTmps, ht]))
     · rfl
   · rfl
theorem optInt_agree {st st' : St} {d : Int} {x : Option Opd} (h : ∀ t ∈ optTmps x, look st'.regs t = look st.regs t) : optInt st' d x = optInt st d x := by
 cases x with
 | none => rfl
 | some y => simp only [optInt, ev_agree h]
theorem bsParts_agree {st st' : St} {k : Nat} (hh : st'.heap = st.heap) : ∀ {ps : List (Nat × Opd)} {xs : List (List Dat)}, (∀ t ∈ bsTmps ps, look st'.regs t = look st.regs t) → bsParts st' k xs ps = bsParts st k xs ps
 | [], xs, _ => rfl
 | (i, x) :: ps, xs, h => by
   simp only [bsParts]
   rw [ev_agree (y := x) (fun t ht => h t (by simp [bsTmps, ht])), hh]
   split
   · split
     · split
       · exact bsParts_agree hh (fun t ht => h t (by simp [bsTmps, ht]))
       · rfl
     · rfl
   · rfl
theorem quiet_fac {P : Program} {mo : MOp} (hq : quietOp mo = true) (st : St) : ∃ T : (V → Tree) → Tree, Sel P T ∧ ∀ st', (∀ t ∈ mo.tmps, look st'.regs t = look st.regs t) → st'.heap = st.heap → ∀ q' x', step mo st' q' x' = T (fun v => q' v st') := by
 cases mo with
 | mm mx x y =>
   refine ⟨fun f => step (.mm mx x y) st (fun v _ => f v) (fun _ _ => .fail), ?_, ?_⟩
   · simp only [step, forceL_eq, place_eq, fillK_eq]
     repeat' first
       | exact Sel.fail
       | exact Sel.pure _
       | refine Sel.test ?_ ?_
       | refine Sel.val fun _ => ?_
       | split
   · intro st' ha hh q' x'
     have e0 : Opd.ev st' x = Opd.ev st x := ev_agree fun t ht => ha t (by simp [MOp.tmps, ht])
     have e1 : Opd.ev st' y = Opd.ev st y := ev_agree fun t ht => ha t (by simp [MOp.tmps, ht])
     simp only [step, forceL_eq, e0, e1, hh]
 | lkp ok kk z m x =>
   refine ⟨fun f => step (.lkp ok kk z m x) st (fun v _ => f v) (fun _ _ => .fail), ?_, ?_⟩
   · simp only [step, forceL_eq, place_eq, fillK_eq]
     repeat' first
       | exact Sel.fail
       | exact Sel.pure _
       | refine Sel.test ?_ ?_
       | refine Sel.val fun _ => ?_
       | split
   · intro st' ha hh q' x'
     have e0 : Opd.ev st' m = Opd.ev st m := ev_agree fun t ht => ha t (by simp [MOp.tmps, ht])
     have e1 : Opd.ev st' x = Opd.ev st x := ev_agree fun t ht => ha t (by simp [MOp.tmps, ht])
     simp only [step, forceL_eq, e0, e1, hh]
 | lenm m =>
   refine ⟨fun f => step (.lenm m) st (fun v _ => f v) (fun _ _ => .fail), ?_, ?_⟩
   · simp only [step, forceL_eq, place_eq, fillK_eq]
     repeat' first
       | exact Sel.fail
       | exact Sel.pure _
       | refine Sel.test ?_ ?_
       | refine Sel.val fun _ => ?_
       | split
   · intro st' ha hh q' x'
     have e0 : Opd.ev st' m = Opd.ev st m := ev_agree fun t ht => ha t (by simp [MOp.tmps, ht])
     simp only [step, forceL_eq, e0, hh]
 | idxv g n k x i =>
   refine ⟨fun f => step (.idxv g n k x i) st (fun v _ => f v) (fun _ _ => .fail), ?_, ?_⟩
   · simp only [step, forceL_eq, place_eq, fillK_eq]
     repeat' first
       | exact Sel.fail
       | exact Sel.pure _
       | refine Sel.test ?_ ?_
       | refine Sel.val fun _ => ?_
       | split
   · intro st' ha hh q' x'
     have e0 : Opd.ev st' x = Opd.ev st x := ev_agree fun t ht => ha t (by simp [MOp.tmps, ht])
     have e1 : Opd.ev st' i = Opd.ev st i := ev_agree fun t ht => ha t (by simp [MOp.tmps, ht])
     simp only [step, forceL_eq, e0, e1, hh]
 | b2s x =>
   refine ⟨fun f => step (.b2s x) st (fun v _ => f v) (fun _ _ => .fail), ?_, ?_⟩
   · simp only [step, forceL_eq, place_eq, fillK_eq]
     repeat' first
       | exact Sel.fail
       | exact Sel.pure _
       | refine Sel.test ?_ ?_
       | refine Sel.val fun _ => ?_
       | split
   · intro st' ha hh q' x'
     have e0 : Opd.ev st' x = Opd.ev st x := ev_agree fun t ht => ha t (by simp [MOp.tmps, ht])
     simp only [step, forceL_eq, e0, hh]
 | mov x =>
   refine ⟨fun f => step (.mov x) st (fun v _ => f v) (fun _ _ => .fail), ?_, ?_⟩
   · simp only [step, forceL_eq, place_eq, fillK_eq]
     repeat' first
       | exact Sel.fail
       | exact Sel.pure _
       | refine Sel.test ?_ ?_
       | refine Sel.elem fun _ => ?_
       | refine Sel.byte fun _ => ?_
       | refine Sel.call fun _ => ?_
       | exact Sel.binI fun _ => Sel.pure _
       | exact Sel.strI fun _ => Sel.pure _
       | exact Sel.fit fun _ => Sel.pure _
       | split
   · intro st' ha hh q' x'
     have e0 : Opd.ev st' x = Opd.ev st x := ev_agree fun t ht => ha t (by simp [MOp.tmps, ht])
     simp only [step, forceL_eq, place_eq, e0, hh]
 | pick c a b =>
   refine ⟨fun f => step (.pick c a b) st (fun v _ => f v) (fun _ _ => .fail), ?_, ?_⟩
   · simp only [step, forceL_eq, place_eq, fillK_eq]
     repeat' first
       | exact Sel.fail
       | exact Sel.pure _
       | refine Sel.test ?_ ?_
       | refine Sel.elem fun _ => ?_
       | refine Sel.byte fun _ => ?_
       | refine Sel.call fun _ => ?_
       | exact Sel.binI fun _ => Sel.pure _
       | exact Sel.strI fun _ => Sel.pure _
       | exact Sel.fit fun _ => Sel.pure _
       | split
   · intro st' ha hh q' x'
     have e0 : Opd.ev st' c = Opd.ev st c := ev_agree fun t ht => ha t (by simp [MOp.tmps, ht])
     have e1 : Opd.ev st' a = Opd.ev st a := ev_agree fun t ht => ha t (by simp [MOp.tmps, ht])
     have e2 : Opd.ev st' b = Opd.ev st b := ev_agree fun t ht => ha t (by simp [MOp.tmps, ht])
     simp only [step, e0, e1, e2, hh]
 | build zs ps =>
   refine ⟨fun f => step (.build zs ps) st (fun v _ => f v) (fun _ _ => .fail), ?_, ?_⟩
   · simp only [step, forceL_eq, place_eq, fillK_eq]
     repeat' first
       | exact Sel.fail
       | exact Sel.pure _
       | refine Sel.test ?_ ?_
       | refine Sel.elem fun _ => ?_
       | refine Sel.byte fun _ => ?_
       | refine Sel.call fun _ => ?_
       | exact Sel.binI fun _ => Sel.pure _
       | exact Sel.strI fun _ => Sel.pure _
       | exact Sel.fit fun _ => Sel.pure _
       | split
   · intro st' ha hh q' x'
     simp only [step, forceL_eq, place_eq, fillK_eq, hh, fillParts_agree _ ha]
 | load g n a =>
   refine ⟨fun f => step (.load g n a) st (fun v _ => f v) (fun _ _ => .fail), ?_, ?_⟩
   · simp only [step, forceL_eq, place_eq, fillK_eq]
     repeat' first
       | exact Sel.fail
       | exact Sel.pure _
       | refine Sel.test ?_ ?_
       | refine Sel.elem fun _ => ?_
       | refine Sel.byte fun _ => ?_
       | refine Sel.call fun _ => ?_
       | exact Sel.binI fun _ => Sel.pure _
       | exact Sel.strI fun _ => Sel.pure _
       | exact Sel.fit fun _ => Sel.pure _
       | split
   · intro st' ha hh q' x'
     have e0 : Opd.ev st' a = Opd.ev st a := ev_agree fun t ht => ha t (by simp [MOp.tmps, ht])
     simp only [step, forceL_eq, place_eq, e0, hh]
 | fld off a =>
   refine ⟨fun f => step (.fld off a) st (fun v _ => f v) (fun _ _ => .fail), ?_, ?_⟩
   · simp only [step, forceL_eq, place_eq, fillK_eq]
     repeat' first
       | exact Sel.fail
       | exact Sel.pure _
       | refine Sel.test ?_ ?_
       | refine Sel.elem fun _ => ?_
       | refine Sel.byte fun _ => ?_
       | refine Sel.call fun _ => ?_
       | exact Sel.binI fun _ => Sel.pure _
       | exact Sel.strI fun _ => Sel.pure _
       | exact Sel.fit fun _ => Sel.pure _
       | split
   · intro st' ha hh q' x'
     have e0 : Opd.ev st' a = Opd.ev st a := ev_agree fun t ht => ha t (by simp [MOp.tmps, ht])
     simp only [step, forceL_eq, place_eq, e0, hh]
 | nilck a =>
   refine ⟨fun f => step (.nilck a) st (fun v _ => f v) (fun _ _ => .fail), ?_, ?_⟩
   · simp only [step, forceL_eq, place_eq, fillK_eq]
     repeat' first
       | exact Sel.fail
       | exact Sel.pure _
       | refine Sel.test ?_ ?_
       | refine Sel.elem fun _ => ?_
       | refine Sel.byte fun _ => ?_
       | refine Sel.call fun _ => ?_
       | exact Sel.binI fun _ => Sel.pure _
       | exact Sel.strI fun _ => Sel.pure _
       | exact Sel.fit fun _ => Sel.pure _
       | split
   · intro st' ha hh q' x'
     have e0 : Opd.ev st' a = Opd.ev st a := ev_agree fun t ht => ha t (by simp [MOp.tmps, ht])
     simp only [step, forceL_eq, place_eq, e0, hh]
 | idx k s i =>
   refine ⟨fun f => step (.idx k s i) st (fun v _ => f v) (fun _ _ => .fail), ?_, ?_⟩
   · simp only [step, forceL_eq, place_eq, fillK_eq]
     repeat' first
       | exact Sel.fail
       | exact Sel.pure _
       | refine Sel.test ?_ ?_
       | refine Sel.elem fun _ => ?_
       | refine Sel.byte fun _ => ?_
       | refine Sel.call fun _ => ?_
       | exact Sel.binI fun _ => Sel.pure _
       | exact Sel.strI fun _ => Sel.pure _
       | exact Sel.fit fun _ => Sel.pure _
       | split
   · intro st' ha hh q' x'
     have e0 : Opd.ev st' s = Opd.ev st s := ev_agree fun t ht => ha t (by simp [MOp.tmps, ht])
     have e1 : Opd.ev st' i = Opd.ev st i := ev_agree fun t ht => ha t (by simp [MOp.tmps, ht])
     simp only [step, e0, e1, hh]
 | idxs s i =>
   refine ⟨fun f => step (.idxs s i) st (fun v _ => f v) (fun _ _ => .fail), ?_, ?_⟩
   · simp only [step, forceL_eq, place_eq, fillK_eq]
     repeat' first
       | exact Sel.fail
       | exact Sel.pure _
       | refine Sel.test ?_ ?_
       | refine Sel.elem fun _ => ?_
       | refine Sel.byte fun _ => ?_
       | refine Sel.call fun _ => ?_
       | exact Sel.binI fun _ => Sel.pure _
       | exact Sel.strI fun _ => Sel.pure _
       | exact Sel.fit fun _ => Sel.pure _
       | split
   · intro st' ha hh q' x'
     have e0 : Opd.ev st' s = Opd.ev st s := ev_agree fun t ht => ha t (by simp [MOp.tmps, ht])
     have e1 : Opd.ev st' i = Opd.ev st i := ev_agree fun t ht => ha t (by simp [MOp.tmps, ht])
     simp only [step, e0, e1, hh]
 | len b s =>
   refine ⟨fun f => step (.len b s) st (fun v _ => f v) (fun _ _ => .fail), ?_, ?_⟩
   · cases b
     all_goals
       simp only [step]
       repeat' first
         | exact Sel.fail
         | exact Sel.pure _
         | refine Sel.test ?_ ?_
         | refine Sel.elem fun _ => ?_
         | refine Sel.byte fun _ => ?_
         | refine Sel.call fun _ => ?_
         | exact Sel.binI fun _ => Sel.pure _
         | exact Sel.strI fun _ => Sel.pure _
         | exact Sel.fit fun _ => Sel.pure _
         | split
   · intro st' ha hh q' x'
     have e0 : Opd.ev st' s = Opd.ev st s := ev_agree fun t ht => ha t (by simp [MOp.tmps, ht])
     cases b <;> simp only [step, forceL_eq, place_eq, e0, hh]
 | eqs neg ks x y =>
   refine ⟨fun f => step (.eqs neg ks x y) st (fun v _ => f v) (fun _ _ => .fail), ?_, ?_⟩
   · simp only [step, forceL_eq, place_eq, fillK_eq]
     repeat' first
       | exact Sel.fail
       | exact Sel.pure _
       | split
   · intro st' ha hh q' x'
     have e0 : Opd.ev st' x = Opd.ev st x := ev_agree fun t ht => ha t (by simp [MOp.tmps, ht])
     have e1 : Opd.ev st' y = Opd.ev st y := ev_agree fun t ht => ha t (by simp [MOp.tmps, ht])
     simp only [step, e0, e1, hh]
 | bin op x y =>
   refine ⟨fun f => step (.bin op x y) st (fun v _ => f v) (fun _ _ => .fail), ?_, ?_⟩
   · simp only [step, forceL_eq, place_eq, fillK_eq]
     repeat' first
       | exact Sel.fail
       | exact Sel.pure _
       | refine Sel.test ?_ ?_
       | refine Sel.elem fun _ => ?_
       | refine Sel.byte fun _ => ?_
       | refine Sel.call fun _ => ?_
       | exact Sel.binI fun _ => Sel.pure _
       | exact Sel.strI fun _ => Sel.pure _
       | exact Sel.fit fun _ => Sel.pure _
       | split
   · intro st' ha hh q' x'
     have e0 : Opd.ev st' x = Opd.ev st x := ev_agree fun t ht => ha t (by simp [MOp.tmps, ht])
     have e1 : Opd.ev st' y = Opd.ev st y := ev_agree fun t ht => ha t (by simp [MOp.tmps, ht])
     simp only [step, e0, e1, hh]
 | eqb neg x y =>
   refine ⟨fun f => step (.eqb neg x y) st (fun v _ => f v) (fun _ _ => .fail), ?_, ?_⟩
   · simp only [step, forceL_eq, place_eq, fillK_eq]
     repeat' first
       | exact Sel.fail
       | exact Sel.pure _
       | refine Sel.test ?_ ?_
       | refine Sel.elem fun _ => ?_
       | refine Sel.byte fun _ => ?_
       | refine Sel.call fun _ => ?_
       | exact Sel.binI fun _ => Sel.pure _
       | exact Sel.strI fun _ => Sel.pure _
       | exact Sel.fit fun _ => Sel.pure _
       | split
   · intro st' ha hh q' x'
     have e0 : Opd.ev st' x = Opd.ev st x := ev_agree fun t ht => ha t (by simp [MOp.tmps, ht])
     have e1 : Opd.ev st' y = Opd.ev st y := ev_agree fun t ht => ha t (by simp [MOp.tmps, ht])
     simp only [step, e0, e1, hh]
 | not x =>
   refine ⟨fun f => step (.not x) st (fun v _ => f v) (fun _ _ => .fail), ?_, ?_⟩
   · simp only [step, forceL_eq, place_eq, fillK_eq]
     repeat' first
       | exact Sel.fail
       | exact Sel.pure _
       | refine Sel.test ?_ ?_
       | refine Sel.elem fun _ => ?_
       | refine Sel.byte fun _ => ?_
       | refine Sel.call fun _ => ?_
       | exact Sel.binI fun _ => Sel.pure _
       | exact Sel.strI fun _ => Sel.pure _
       | exact Sel.fit fun _ => Sel.pure _
       | split
   · intro st' ha hh q' x'
     have e0 : Opd.ev st' x = Opd.ev st x := ev_agree fun t ht => ha t (by simp [MOp.tmps, ht])
     simp only [step, forceL_eq, place_eq, e0, hh]
 | conv k x =>
   refine ⟨fun f => step (.conv k x) st (fun v _ => f v) (fun _ _ => .fail), ?_, ?_⟩
   · simp only [step, forceL_eq, place_eq, fillK_eq]
     repeat' first
       | exact Sel.fail
       | exact Sel.pure _
       | refine Sel.test ?_ ?_
       | refine Sel.elem fun _ => ?_
       | refine Sel.byte fun _ => ?_
       | refine Sel.call fun _ => ?_
       | exact Sel.binI fun _ => Sel.pure _
       | exact Sel.strI fun _ => Sel.pure _
       | exact Sel.fit fun _ => Sel.pure _
       | split
   · intro st' ha hh q' x'
     have e0 : Opd.ev st' x = Opd.ev st x := ev_agree fun t ht => ha t (by simp [MOp.tmps, ht])
     simp only [step, forceL_eq, place_eq, e0, hh]
 | call g xs =>
   refine ⟨fun f => step (.call g xs) st (fun v _ => f v) (fun _ _ => .fail), ?_, ?_⟩
   · simp only [step, forceL_eq, place_eq, fillK_eq]
     repeat' first
       | exact Sel.fail
       | exact Sel.pure _
       | refine Sel.test ?_ ?_
       | refine Sel.elem fun _ => ?_
       | refine Sel.byte fun _ => ?_
       | refine Sel.call fun _ => ?_
       | exact Sel.binI fun _ => Sel.pure _
       | exact Sel.strI fun _ => Sel.pure _
       | exact Sel.fit fun _ => Sel.pure _
       | split
   · intro st' ha hh q' x'
     simp only [step, hh, evList_agree ha]
 | ext x i =>
   refine ⟨fun f => step (.ext x i) st (fun v _ => f v) (fun _ _ => .fail), ?_, ?_⟩
   · simp only [step, forceL_eq, place_eq, fillK_eq]
     repeat' first
       | exact Sel.fail
       | exact Sel.pure _
       | refine Sel.test ?_ ?_
       | refine Sel.elem fun _ => ?_
       | refine Sel.byte fun _ => ?_
       | refine Sel.call fun _ => ?_
       | exact Sel.binI fun _ => Sel.pure _
       | exact Sel.strI fun _ => Sel.pure _
       | exact Sel.fit fun _ => Sel.pure _
       | split
   · intro st' ha hh q' x'
     have e0 : Opd.ev st' x = Opd.ev st x := ev_agree fun t ht => ha t (by simp [MOp.tmps, ht])
     simp only [step, forceL_eq, place_eq, e0, hh]
 | bslice k m zs ps =>
   refine ⟨fun f => step (.bslice k m zs ps) st (fun v _ => f v) (fun _ _ => .fail), ?_, ?_⟩
   · simp only [step, forceL_eq, place_eq, fillK_eq]
     repeat' first
       | exact Sel.fail
       | exact Sel.pure _
       | refine Sel.test ?_ ?_
       | refine Sel.elem fun _ => ?_
       | refine Sel.byte fun _ => ?_
       | refine Sel.call fun _ => ?_
       | exact Sel.binI fun _ => Sel.pure _
       | exact Sel.strI fun _ => Sel.pure _
       | exact Sel.fit fun _ => Sel.pure _
       | split
   · intro st' ha hh q' x'
     simp only [step, hh, bsParts_agree hh ha]
 | fldv g n off x =>
   refine ⟨fun f => step (.fldv g n off x) st (fun v _ => f v) (fun _ _ => .fail), ?_, ?_⟩
   · simp only [step, forceL_eq, place_eq, fillK_eq]
     repeat' first
       | exact Sel.fail
       | exact Sel.pure _
       | refine Sel.test ?_ ?_
       | split
   · intro st' ha hh q' x'
     have e0 : Opd.ev st' x = Opd.ev st x := ev_agree fun t ht => ha t (by simp [MOp.tmps, ht])
     simp only [step, forceL_eq, e0, hh]
 | sl3 k x lo hi mx =>
   refine ⟨fun f => step (.sl3 k x lo hi mx) st (fun v _ => f v) (fun _ _ => .fail), ?_, ?_⟩
   · simp only [step, forceL_eq, place_eq, fillK_eq]
     repeat' first
       | exact Sel.fail
       | exact Sel.pure _
       | refine Sel.test ?_ ?_
       | split
   · intro st' ha hh q' x'
     have e0 : Opd.ev st' x = Opd.ev st x := ev_agree fun t ht => ha t (by simp [MOp.tmps, ht])
     simp only [step, e0, hh, fun d => optInt_agree (st := st) (st' := st') (d := d) (x := lo) (fun t ht => ha t (by simp [MOp.tmps, ht])), fun d => optInt_agree (st := st) (st' := st') (d := d) (x := some hi) (fun t ht => ha t (by simp only [optTmps] at ht; simp [MOp.tmps, ht])), fun d => optInt_agree (st := st) (st' := st') (d := d) (x := some mx) (fun t ht => ha t (by simp only [optTmps] at ht; simp [MOp.tmps, ht]))]
 | sl k x lo hi =>
   refine ⟨fun f => step (.sl k x lo hi) st (fun v _ => f v) (fun _ _ => .fail), ?_, ?_⟩
   · simp only [step, forceL_eq, place_eq, fillK_eq]
     repeat' first
       | exact Sel.fail
       | exact Sel.pure _
       | refine Sel.test ?_ ?_
       | refine Sel.elem fun _ => ?_
       | refine Sel.byte fun _ => ?_
       | refine Sel.call fun _ => ?_
       | exact Sel.binI fun _ => Sel.pure _
       | exact Sel.strI fun _ => Sel.pure _
       | exact Sel.fit fun _ => Sel.pure _
       | split
   · intro st' ha hh q' x'
     have e0 : Opd.ev st' x = Opd.ev st x := ev_agree fun t ht => ha t (by simp [MOp.tmps, ht])
     simp only [step, e0, hh, fun d => optInt_agree (st := st) (st' := st') (d := d) (x := lo) (fun t ht => ha t (by simp [MOp.tmps, ht])), fun d => optInt_agree (st := st) (st' := st') (d := d) (x := hi) (fun t ht => ha t (by simp [MOp.tmps, ht]))]
 | slstr x lo hi =>
   refine ⟨fun f => step (.slstr x lo hi) st (fun v _ => f v) (fun _ _ => .fail), ?_, ?_⟩
   · simp only [step, forceL_eq, place_eq, fillK_eq]
     repeat' first
       | exact Sel.fail
       | exact Sel.pure _
       | refine Sel.test ?_ ?_
       | refine Sel.elem fun _ => ?_
       | refine Sel.byte fun _ => ?_
       | refine Sel.call fun _ => ?_
       | exact Sel.binI fun _ => Sel.pure _
       | exact Sel.strI fun _ => Sel.pure _
       | exact Sel.fit fun _ => Sel.pure _
       | split
   · intro st' ha hh q' x'
     have e0 : Opd.ev st' x = Opd.ev st x := ev_agree fun t ht => ha t (by simp [MOp.tmps, ht])
     simp only [step, e0, hh, fun d => optInt_agree (st := st) (st' := st') (d := d) (x := lo) (fun t ht => ha t (by simp [MOp.tmps, ht])), fun d => optInt_agree (st := st) (st' := st') (d := d) (x := hi) (fun t ht => ha t (by simp [MOp.tmps, ht]))]
 | idxa m k x i =>
   refine ⟨fun f => step (.idxa m k x i) st (fun v _ => f v) (fun _ _ => .fail), ?_, ?_⟩
   · simp only [step, forceL_eq, place_eq, fillK_eq]
     repeat' first
       | exact Sel.fail
       | exact Sel.pure _
       | refine Sel.test ?_ ?_
       | refine Sel.elem fun _ => ?_
       | refine Sel.byte fun _ => ?_
       | refine Sel.call fun _ => ?_
       | exact Sel.binI fun _ => Sel.pure _
       | exact Sel.strI fun _ => Sel.pure _
       | exact Sel.fit fun _ => Sel.pure _
       | split
   · intro st' ha hh q' x'
     have e0 : Opd.ev st' x = Opd.ev st x := ev_agree fun t ht => ha t (by simp [MOp.tmps, ht])
     have e1 : Opd.ev st' i = Opd.ev st i := ev_agree fun t ht => ha t (by simp [MOp.tmps, ht])
     simp only [step, e0, e1, hh]
 | _ => simp [quietOp] at hq
end Uw
namespace Uw
open Go Go.RowKit
variable [Glob]
def gRes (g : Option (Nat × Bool)) (st : St) : Option Bool :=
 match g with
 | none => some true
 | some (t, want) => match look st.regs t with
   | some (.d (.bool b)) => some (b == want)
   | some (.tuple []) => some false
   | _ => none
def OpOK (P : Program) (i : MI) (st : St) (v : V) : Prop :=
 ∀ st' : St, (∀ t ∈ i.tmps, look st'.regs t = look st.regs t) → st'.heap = st.heap →
   (gRes i.g st' = some true ∧ ∀ (Q' : MExit → St → Prop) (q' : V → St → Tree) (x' : MExit → St → Tree), WT P Q' (q' v st') → WT P Q' (step i.op st' q' x')) ∨ (gRes i.g st' = some false ∧ v = .tuple [])
structure SameSt (st st' : St) : Prop where
 regs : ∀ t, look st'.regs t = look st.regs t
 heap : st'.heap = st.heap
 next : st'.next = st.next
 defers : st'.defers = st.defers
 base : st'.base = st.base
theorem SameSt.refl (st : St) : SameSt st st := ⟨fun _ => rfl, rfl, rfl, rfl, rfl⟩
theorem SameSt.put {st st' : St} (h : SameSt st st') (dst : Option Nat) (v : V) : SameSt (Uw.put dst v st) (Uw.put dst v st') := by
 cases dst with
 | none => exact h
 | some d => exact ⟨fun t => by simp only [Uw.put, look_cons, h.regs t], h.heap, h.next, h.defers, h.base⟩
theorem SameSt.known {st : St} {t : Nat} {v : V} (h : look st.regs t = some v) : SameSt st (Uw.put (some t) v st) := by
 refine ⟨fun t' => ?_, rfl, rfl, rfl, rfl⟩
 simp only [Uw.put, look_cons]
 by_cases ht : t = t'
 · subst ht; rw [if_pos rfl, h]
 · rw [if_neg ht]
theorem SameSt.trans {a b c : St} (h : SameSt a b) (g : SameSt b c) : SameSt a c :=
 ⟨fun t => (g.regs t).trans (h.regs t), g.heap.trans h.heap, g.next.trans h.next, g.defers.trans h.defers, g.base.trans h.base⟩
theorem OpOK.same {P : Program} {i : MI} {st st1 : St} {v : V} (hs : SameSt st st1) (h : OpOK P i st1 v) : OpOK P i st v :=
 fun st' ha hh => h st' (fun t ht => (ha t ht).trans (hs.regs t).symm) (hh.trans hs.heap.symm)
def Chain (P : Program) : List MI → St → List V → St → Prop
 | [], st, vs, sf => vs = [] ∧ SameSt st sf
 | i :: l, st, vs, sf => ∃ v vs', vs = v :: vs' ∧ OpOK P i st v ∧ Chain P l (put i.dst v st) vs' sf
theorem Chain.same {P : Program} : ∀ {l : List MI} {st st1 : St} {vs : List V} {sf : St}, SameSt st st1 → Chain P l st1 vs sf → Chain P l st vs sf
 | [], st, st1, vs, sf, hs, h => ⟨h.1, hs.trans h.2⟩
 | i :: l, st, st1, vs, sf, hs, h => by
   obtain ⟨v, vs', h1, h2, h3⟩ := h
   exact ⟨v, vs', h1, h2.same hs, Chain.same (hs.put _ _) h3⟩
theorem OpOK.of_step {P : Program} {i : MI} {st : St} {Q : MExit → St → Prop} {q : V → St → Tree} {x : MExit → St → Tree} (hq : quietOp i.op = true) (hg : gRes i.g st = some true) (h : WT P Q (step i.op st q x)) : ∃ v, OpOK P i st v ∧ WT P Q (q v st) := by
 obtain ⟨T, hT, hf⟩ := quiet_fac (P := P) hq st
 rw [hf st (fun _ _ => rfl) rfl] at h
 obtain ⟨v, g1, g2⟩ := hT Q _ h
 refine ⟨v, ?_, g1⟩
 intro st' ha hh
 refine .inl ⟨?_, fun Q' q' x' h' => ?_⟩
 · rw [← hg]
   unfold gRes
   cases hi : i.g with
   | none => rfl
   | some p => obtain ⟨t, want⟩ := p; simp only []; rw [ha t (by simp [MI.tmps, hi])]
 · rw [hf st' (fun t ht => ha t (by simp [MI.tmps, ht])) hh]
   exact g2 Q' _ h'
theorem OpOK.of_not {P : Program} {i : MI} {st : St} (hg : gRes i.g st = some false) : OpOK P i st (.tuple []) := by
 intro st' ha hh
 refine .inr ⟨?_, rfl⟩
 rw [← hg]
 unfold gRes
 cases hi : i.g with
 | none => rfl
 | some p => obtain ⟨t, want⟩ := p; simp only []; rw [ha t (by simp [MI.tmps, hi])]
theorem decided_mode {mode : Option (Nat × Bool × Bool)} {t : Nat} {want hold : Bool} {st : St} (hdec : decided mode t want = some hold) (hm : ModeOK mode st) : ∃ b, look st.regs t = some (.d (.bool b)) ∧ (b == want) = hold := by
 unfold decided at hdec
 split at hdec
 · rename_i t' want' hold'
   split at hdec
   · rename_i hbb
     simp at hdec; subst hdec
     rw [Bool.and_eq_true] at hbb
     have e1 := Nat.eq_of_beq_eq_true hbb.1
     have e2 : want = want' := by simpa using hbb.2
     subst e1 e2
     exact hm _ _ _ rfl
   · simp at hdec
 · simp at hdec
theorem execOps_split {P : Program} {Q : MExit → St → Prop} {q : MExit → St → Tree} {l2 : List MI} : ∀ (l1 : List MI) (mode : Option (Nat × Bool × Bool)) (st : St), (∀ i ∈ l1, quietOp i.op = true) → ModeOK mode st → WT P Q (execOps (l1 ++ l2) mode st q) →
   ∃ vs sf mode', Chain P l1 st vs sf ∧ ModeOK mode' sf ∧ WT P Q (execOps l2 mode' sf q) := by
 intro l1
 induction l1 with
 | nil => intro mode st _ hm h; exact ⟨[], st, mode, ⟨rfl, SameSt.refl _⟩, hm, h⟩
 | cons i l ih =>
   intro mode st hq hm h
   have hqi := hq i (by simp)
   have hql : ∀ j ∈ l, quietOp j.op = true := fun j hj => hq j (by simp [hj])
   -- go on behind a value
   have go : ∀ (mode1 : Option (Nat × Bool × Bool)) (st1 : St) (v : V), SameSt st st1 → OpOK P i st1 v → ModeOK mode1 (put i.dst v st1) → WT P Q (execOps (l ++ l2) mode1 (put i.dst v st1) q) →
       ∃ vs sf mode', Chain P (i :: l) st vs sf ∧ ModeOK mode' sf ∧ WT P Q (execOps l2 mode' sf q) := by
     intro mode1 st1 v hs ho hm1 hw
     obtain ⟨vs, sf, mode', g1, g2, g3⟩ := ih mode1 _ hql hm1 hw
     exact ⟨v :: vs, sf, mode', ⟨v, vs, rfl, ho.same hs, Chain.same (hs.put _ _) g1⟩, g2, g3⟩
   simp only [List.cons_append, execOps_nil, execOps_cons, onSt_eq] at h
   split at h
   · rename_i hg
     obtain ⟨v, ho, hw⟩ := OpOK.of_step hqi (by simp [gRes, hg]) h
     exact go none st v (SameSt.refl _) ho (by intro t w' h' hh; simp at hh) hw
   · rename_i t want hg
     split at h
     · rename_i hdec
       obtain ⟨b, hb1, hb2⟩ := decided_mode hdec hm
       obtain ⟨v, ho, hw⟩ := OpOK.of_step hqi (by simp [gRes, hg, hb1, hb2]) h
       exact go _ st v (SameSt.refl _) ho (hm.put rfl _ _) hw
     · rename_i hdec
       obtain ⟨b, hb1, hb2⟩ := decided_mode hdec hm
       exact go _ st (.tuple []) (SameSt.refl _) (OpOK.of_not (by simp [gRes, hg, hb1, hb2])) (hm.put rfl _ _) h
     · split at h
       · rename_i b hb
         simp only [WT] at h
         cases hbw : (b == want) with
         | true =>
           have hbw' : b = want := by simpa using hbw
           subst hbw'
           have hs := SameSt.known hb
           obtain ⟨v, ho, hw⟩ := OpOK.of_step (st := put (some t) (.d (.bool b)) st) hqi (by simp [gRes, hg, Uw.put, look_cons]) (h.1 hbw)
           refine go _ _ v hs ho ?_ hw
           refine ModeOK.put (st := put (some t) (.d (.bool b)) st) ?_ rfl _ _
           intro t' w' h' hh
           simp at hh
           obtain ⟨rfl, rfl, rfl⟩ := hh
           exact ⟨b, by simp [Uw.put, look_cons], by simp⟩
         | false =>
           have hbw' : b = !want := by cases b <;> cases want <;> simp_all
           subst hbw'
           have hs := SameSt.known hb
           refine go _ _ (.tuple []) hs (OpOK.of_not (by simp [gRes, hg, Uw.put, look_cons])) ?_ (h.2 hbw)
           refine ModeOK.put (st := put (some t) (.d (.bool (!want))) st) ?_ rfl _ _
           intro t' w' h' hh
           simp at hh
           obtain ⟨rfl, rfl, rfl⟩ := hh
           exact ⟨!want, by simp [Uw.put, look_cons], by cases want <;> rfl⟩
       · rename_i hb
         exact go _ st (.tuple []) (SameSt.refl _) (OpOK.of_not (by simp [gRes, hg, hb])) (hm.put rfl _ _) h
       · exact h.elim
def after (st : St) : List MI → List V → St
 | i :: l, v :: vs => after (put i.dst v st) l vs
 | _, _ => st
theorem Chain.length {P : Program} : ∀ {l : List MI} {st : St} {vs : List V} {sf : St}, Chain P l st vs sf → vs.length = l.length
 | [], st, vs, sf, h => by rw [h.1]; rfl
 | i :: l, st, vs, sf, h => by obtain ⟨v, vs', rfl, h2, h3⟩ := h; simp [Chain.length h3]
theorem Chain.last {P : Program} : ∀ {l : List MI} {st : St} {vs : List V} {sf : St}, Chain P l st vs sf → SameSt (after st l vs) sf
 | [], st, vs, sf, h => by rw [h.1]; exact h.2
 | i :: l, st, vs, sf, h => by obtain ⟨v, vs', rfl, h2, h3⟩ := h; exact show SameSt (after (put i.dst v st) l vs') sf from Chain.last h3
theorem Chain.at {P : Program} : ∀ {l : List MI} {st : St} {vs : List V} {sf : St}, Chain P l st vs sf → ∀ (k : Nat) (i : MI), l[k]? = some i → ∃ v, vs[k]? = some v ∧ OpOK P i (after st (l.take k) (vs.take k)) v
 | [], st, vs, sf, h, k, i, hk => by simp at hk
 | j :: l, st, vs, sf, h, k, i, hk => by
   obtain ⟨v, vs', rfl, h2, h3⟩ := h
   cases k with
   | zero => simp at hk; subst hk; exact ⟨v, rfl, h2⟩
   | succ k =>
     simp at hk
     obtain ⟨u, g1, g2⟩ := Chain.at h3 k i hk
     exact ⟨u, by simpa using g1, g2⟩
theorem after_heap : ∀ (l : List MI) (vs : List V) (st : St), (after st l vs).heap = st.heap ∧ (after st l vs).next = st.next ∧ (after st l vs).defers = st.defers ∧ (after st l vs).base = st.base
 | [], vs, st => by simp [after]
 | i :: l, [], st => by simp [after]
 | i :: l, v :: vs, st => by
   rw [after]
   obtain ⟨h1, h2, h3, h4⟩ := after_heap l vs (put i.dst v st)
   cases hd : i.dst <;> simp [hd, Uw.put] at h1 h2 h3 h4 ⊢ <;> exact ⟨h1, h2, h3, h4⟩
theorem look_after_none : ∀ (l : List MI) (vs : List V) (st : St) (t : Nat), (∀ (j : Nat) (i : MI), l[j]? = some i → i.dst ≠ some t) → look (after st l vs).regs t = look st.regs t
 | [], vs, st, t, _ => by simp [after]
 | i :: l, [], st, t, _ => by simp [after]
 | i :: l, v :: vs, st, t, h => by
   rw [after, look_after_none l vs _ t (fun j i' hj => h (j + 1) i' (by simpa using hj))]
   have h0 := h 0 i rfl
   cases hd : i.dst with
   | none => simp [Uw.put]
   | some d =>
     simp only [Uw.put, look_cons]
     rw [if_neg]
     intro e; subst e; exact h0 hd
theorem look_after_one : ∀ (l : List MI) (vs : List V) (st : St) (t j : Nat) (i : MI) (v : V), l[j]? = some i → vs[j]? = some v → i.dst = some t → (∀ (j' : Nat) (i' : MI), l[j']? = some i' → i'.dst = some t → j' = j) → vs.length = l.length → look (after st l vs).regs t = some v
 | [], vs, st, t, j, i, v, hj, _, _, _, _ => by simp at hj
 | x :: l, [], st, t, j, i, v, hj, hv, hd, hu, hl => by simp at hl
 | x :: l, u :: vs, st, t, j, i, v, hj, hv, hd, hu, hl => by
   rw [after]
   cases j with
   | zero =>
     simp at hj hv
     subst hj hv
     rw [look_after_none]
     · simp [hd, Uw.put, look_cons]
     · intro j' i' hj' hd'
       have := hu (j' + 1) i' (by simpa using hj') hd'
       omega
   | succ j =>
     simp at hj hv
     exact look_after_one l vs _ t j i v hj hv hd (fun j' i' hj' hd' => by
       have := hu (j' + 1) i' (by simpa using hj') hd'
       omega) (by simpa using hl)
end Uw
namespace Uw
open Go Go.RowKit
variable [Glob]
theorem compOps_get {P : Program} {n : Nat} {pol : Pol} {ops : List Oper} : ∀ {l : List Oper} {mi : List MI}, compOps P n pol ops l = some mi → mi.length = l.length ∧ ∀ (k : Nat) (o : Oper), l[k]? = some o → ∃ i, mi[k]? = some i ∧ compG ops o.guard = some i.g ∧ compOp P pol o = some i.op ∧ i.dst = o.dst ∧
   (match o.dst with | some d => Nat.blt d n | none => true) = true := by
 intro l
 induction l with
 | nil => intro mi h; simp [compOps] at h; subst h; simp
 | cons o l ih =>
   intro mi h
   unfold compOps at h
   split at h
   · rename_i g m mi' h1 h2 h3 h4
     simp at h; subst h
     obtain ⟨g1, g2⟩ := ih h3
     refine ⟨by simp [g1], ?_⟩
     intro k o' hk
     cases k with
     | zero => simp at hk; subst hk; exact ⟨_, rfl, h1, h2, rfl, h4⟩
     | succ k => simp at hk; simpa using g2 k o' hk
   · simp at h
theorem compOps_drop {P : Program} {n : Nat} {pol : Pol} {ops : List Oper} : ∀ {l : List Oper} {mi : List MI} (k : Nat), compOps P n pol ops l = some mi → compOps P n pol ops (l.drop k) = some (mi.drop k) := by
 intro l
 induction l with
 | nil => intro mi k h; simp [compOps] at h; subst h; simp [compOps]
 | cons o l ih =>
   intro mi k h
   cases k with
   | zero => simpa using h
   | succ k =>
     unfold compOps at h
     split at h
     · rename_i g m mi' h1 h2 h3 h4
       simp at h; subst h
       simpa using ih k h3
     · simp at h
theorem wanted_gRes {c : Cx} {w0 : World} {n : Nat} {gs : Fr} {st : St} {a : Act} (r : Rel c w0 n gs st a) {ops : List Oper} {o : Oper} {g : Option (Nat × Bool)} (hg : compG ops o.guard = some g) {b : Bool} (hb : gRes g st = some b) :
   Region.wanted o (yielded ops.toArray a.tmps) = b := by
 cases hgo : o.guard with
 | none =>
   rw [hgo] at hg
   simp [compG] at hg; subst hg
   simp [gRes] at hb; subst hb
   simp [Region.wanted, hgo]
 | some jw =>
   obtain ⟨j, want⟩ := jw
   rw [hgo] at hg
   simp only [compG] at hg
   split at hg
   · rename_i oj hoj
     split at hg
     · rename_i t ht
       simp at hg; subst hg
       simp only [gRes] at hb
       split at hb
       · rename_i b' hb'
         simp at hb; subst hb
         have e := r.regs t _ hb'
         simp only [RelV, RelI] at e
         have e' : a.tmps[t]? = some (.bool b') := by
           rw [Array.getD_eq_getD_getElem?] at e
           cases hq : a.tmps[t]? with
           | none => rw [hq] at e; simp [undef] at e
           | some u => rw [hq] at e; simp at e; rw [e]
         have ey : yielded ops.toArray a.tmps j = some b' := by
           unfold yielded
           simp [hoj, ht, e']
         simp only [Region.wanted, hgo, ey]
         cases b' <;> cases want <;> rfl
       · rename_i hb'
         simp at hb; subst hb
         have e := r.regs t _ hb'
         have ey : yielded ops.toArray a.tmps j = none := by
           simp [RelV, RelVL] at e
           unfold yielded
           cases hq : a.tmps[t]? with
           | none => simp [hoj, ht, hq]
           | some u => rw [hq] at e; simp at e; simp [hoj, ht, hq, e]
         simp only [Region.wanted, hgo, ey]; cases want <;> rfl
       · simp at hb
     · simp at hg
   · simp at hg
theorem Rel.same {c : Cx} {w0 : World} {n : Nat} {gs : Fr} {st st' : St} {a : Act} (r : Rel c w0 n gs st a) (h : SameSt st st') : Rel c w0 n gs st' a :=
 ⟨r.heap.trans h.heap.symm, by rw [h.next]; exact r.hrel, r.size, fun i v hv => r.regs i v (by rw [← h.regs i]; exact hv), r.frames, by rw [h.base]; exact r.fbase, by rw [h.base, h.next]; exact r.base, by rw [h.defers]; exact r.defers⟩
structure StInv (mi : List MI) (h : Nat) (vs : List V) (st : St) (listed : Array Bool) (s : St) : Prop where
 none : ∀ t, (∀ (j : Nat) (i : MI), j < h → mi[j]? = some i → listed.getD j false = true → i.dst ≠ some t) → look s.regs t = look st.regs t
 one : ∀ (j : Nat) (i : MI) (t : Nat), j < h → mi[j]? = some i → listed.getD j false = true → i.dst = some t → look s.regs t = vs[j]?
 heap : s.heap = st.heap
 next : s.next = st.next
 defers : s.defers = st.defers
 base : s.base = st.base
def left (listed : Array Bool) : Nat → Nat
 | 0 => 0
 | h + 1 => left listed h + (if listed.getD h false then 0 else 1)
theorem left_zero {listed : Array Bool} : ∀ {h : Nat}, left listed h = 0 → ∀ i, i < h → listed.getD i false = true
 | 0, _, i, hi => by omega
 | h + 1, hl, i, hi => by
   simp only [left] at hl
   have h1 : left listed h = 0 := by omega
   have h2 : (if listed.getD h false then 0 else 1) = 0 := by omega
   by_cases hih : i = h
   · subst hih
     by_cases hb : listed.getD i false = true
     · exact hb
     · simp [hb] at h2
   · exact left_zero h1 i (by omega)
theorem left_set_ge {listed : Array Bool} {i : Nat} : ∀ {h : Nat}, h ≤ i → left (listed.setIfInBounds i true) h = left listed h
 | 0, _ => rfl
 | h + 1, hi => by
   simp only [left]
   rw [left_set_ge (by omega), getD_set_ne false (by omega)]
theorem left_set {listed : Array Bool} {i : Nat} (hs : i < listed.size) (hu : listed.getD i false = false) : ∀ {h : Nat}, i < h → left (listed.setIfInBounds i true) h + 1 = left listed h
 | 0, hi => by omega
 | h + 1, hi => by
   simp only [left]
   by_cases hih : i = h
   · subst hih
     rw [left_set_ge (Nat.le_refl _)]
     have : (listed.setIfInBounds i true).getD i false = true := by simp [hs]
     rw [this, hu]; simp
   · have := left_set hs hu (h := h) (by omega)
     rw [getD_set_ne false hih]
     omega
theorem exists_least_unlisted {listed : Array Bool} {h : Nat} (hl : left listed h ≠ 0) : ∃ i, i < h ∧ listed.getD i false = false ∧ ∀ j, j < i → listed.getD j false = true := by
 induction h with
 | zero => simp [left] at hl
 | succ h ih =>
   by_cases h0 : left listed h = 0
   · refine ⟨h, by omega, ?_, fun j hj => left_zero h0 j hj⟩
     simp only [left, h0] at hl
     cases hb : listed.getD h false with
     | true => simp [hb] at hl
     | false => rfl
   · obtain ⟨i, h1, h2, h3⟩ := ih h0
     exact ⟨i, by omega, h2, h3⟩
section
variable {P : Program} {n h : Nat} {pol : Pol} {ops : List Oper} {mi : List MI} {Q : MExit → St → Prop} {q : MExit → St → Tree} {w0 : World} {gs : Fr} {st : St} {c0 : Cx} {vs : List V} {sf : St} {mode : Option (Nat × Bool × Bool)}
theorem drawn_any (hc : compOps P n pol ops ops = some mi) (hd : drawB ops mi h = true) (hch : Chain P (mi.take h) st vs sf) (hm : ModeOK mode sf) (hw : WT P Q (execOps (mi.drop h) mode sf q)) :
   ∀ (d : Nat) (listed : Array Bool) (c : Cx) (a : Act) (s : St), left listed h = d → HeadInv .any ops.toArray h listed → StInv mi h vs st listed s → c.B = c0.B → c.J0 = c0.J0 → Rel c w0 n gs s a →
     wpAny P .any ops.toArray (Came P Q q c0 w0 n gs) (d + (ops.length - h)) listed a c.w := by
 simp only [drawB, Bool.and_eq_true, decide_eq_true_eq] at hd
 obtain ⟨⟨⟨⟨⟨hle, hquiet⟩, hacyc⟩, hsees⟩, htail⟩, hseq⟩ := hd
 obtain ⟨hlen, hget⟩ := compOps_get hc
 have hvl := hch.length
 have htl : (mi.take h).length = h := by simp; omega
 rw [htl] at hvl
 have sees : ∀ i j, i < h → j < h → i ≠ j → ∀ (x y : MI), mi[i]? = some x → mi[j]? = some y → ∀ t, y.dst = some t → x.dst ≠ some t ∧ (t ∈ x.tmps → (j < i ∧ Region.waitsFor .any ops.toArray i j = true) ∨ (i < j ∧ Region.waitsFor .any ops.toArray j i = true)) := by
   intro i j hi hj hij x y hx hy t ht
   have h1 := List.all_eq_true.1 (List.all_eq_true.1 hsees i (List.mem_range.2 hi)) j (List.mem_range.2 hj)
   simp only [Bool.or_eq_true, beq_iff_eq] at h1
   rcases h1 with h1 | h1
   · exact (hij h1).elim
   · simp only [seesB, hx, hy, ht, Bool.and_eq_true, Bool.or_eq_true] at h1
     refine ⟨by simpa using h1.1, fun hmem => ?_⟩
     rcases h1.2 with h2 | h2
     · have : x.tmps.contains t = true := by simpa using hmem
       rw [this] at h2; simp at h2
     · by_cases hji : j < i
       · rw [if_pos hji] at h2; exact .inl ⟨hji, h2⟩
       · rw [if_neg hji] at h2; exact .inr ⟨by omega, h2⟩
 intro d
 induction d with
 | zero =>
   intro listed c a s hl hinv hst hB hJ r
   have hall := left_zero hl
   have hcan : listed = canon h ops.length := by
     apply Array.ext
     · rw [hinv.size]; simp [canon]
     · intro i h1 h2
       have e1 : listed.getD i false = listed[i] := by simp [h1]
       have hi : i < ops.length := by rw [hinv.size] at h1; simpa using h1
       simp only [canon, List.getElem_toArray, List.getElem_map, List.getElem_range]
       by_cases hih : i < h
       · rw [← e1, hall i hih]; simp [hih]
       · have := hinv.tail i (by omega) (by simpa using hi)
         have e2 : listed.getD i true = listed[i] := by simp [h1]
         rw [← e2, this]; simp [hih]
   have hsame : SameSt s sf := by
     refine SameSt.trans ?_ hch.last
     obtain ⟨a1, a2, a3, a4⟩ := after_heap (mi.take h) vs st
     refine ⟨fun t => ?_, by rw [a1, hst.heap], by rw [a2, hst.next], by rw [a3, hst.defers], by rw [a4, hst.base]⟩
     by_cases hex : ∃ (j : Nat) (i : MI), j < h ∧ mi[j]? = some i ∧ i.dst = some t
     · obtain ⟨j, i, hj, hi, ht⟩ := hex
       have hv : vs[j]? = some vs[j] := List.getElem?_eq_getElem (by omega)
       rw [hst.one j i t hj hi (hall j hj) ht, hv]
       refine look_after_one (mi.take h) vs st t j i _ (by rw [List.getElem?_take, if_pos hj]; exact hi) hv ht ?_ (by rw [htl, hvl])
       intro j' i' hj' ht'
       rw [List.getElem?_take] at hj'
       split at hj'
       · rename_i hjh
         by_cases hjj : j' = j
         · exact hjj
         · exact ((sees j' j hjh hj hjj i' i hj' hi t ht).1 ht').elim
       · simp at hj'
     · rw [hst.none t (fun j i hj hi _ ht => hex ⟨j, i, hj, hi, ht⟩)]
       refine look_after_none (mi.take h) vs st t ?_
       intro j i hi ht
       rw [List.getElem?_take] at hi
       split at hi
       · rename_i hj; exact hex ⟨j, i, hj, hi, ht⟩
       · simp at hi
   have hlist := execOps_ok (P := P) (n := n) (ops := ops) (Q := Q) (q := q) (w0 := w0) (gs := gs) (c0 := c0) (ops.drop h) (mi.drop h) mode c sf a (compOps_drop h hc) hB hJ (r.same hsame) hm hw
   have := wpAny_of_seq (md := .any) (ops.drop h) h listed a c.w (fun j => by simp [List.getElem?_drop]) (by rw [hcan]; simpa using hseq) hlist
   simpa using this
 | succ d ih =>
   intro listed c a s hl hinv hst hB hJ r
   rw [show d + 1 + (ops.length - h) = (d + (ops.length - h)) + 1 by omega]
   obtain ⟨i0, hi0, hu0, hlo0⟩ := exists_least_unlisted (listed := listed) (h := h) (by omega)
   have hsz := hinv.size
   have hszl : listed.size = ops.length := by simpa using hsz
   have hready : i0 ∈ Region.ready .any ops.toArray listed := by
     rw [mem_ready]
     refine ⟨getD_in (by omega) hu0, ?_⟩
     have h1 := List.all_eq_true.1 hacyc i0 (List.mem_range.2 hi0)
     have ho : ops[i0]? = some ops[i0] := List.getElem?_eq_getElem (by omega)
     rw [ho] at h1
     refine ⟨ops[i0], by simp, fun e he hb => ?_⟩
     have h2 := Array.all_eq_true_iff_forall_mem.1 h1 e he
     simp only [Bool.or_eq_true, Bool.not_eq_true', decide_eq_true_eq, hb] at h2
     rcases h2 with h2 | h2
     · cases h2
     · exact hlo0 _ h2
   refine ⟨fun h0 => (by rw [h0] at hready; cases hready), ?_⟩
   intro i hi
   -- a head
   have hih : i < h := by
     by_cases hih : i < h
     · exact hih
     · exfalso
       obtain ⟨_, oi, hoi, _⟩ := mem_ready.1 hi
       have hilt : i < ops.length := by
         have := (Array.getElem?_eq_some_iff.1 hoi).1
         simpa using this
       rcases Bool.or_eq_true .. ▸ htail with ht | ht
       · have : h = ops.length := by simpa using ht
         omega
       · rw [Bool.and_eq_true] at ht
         exact tail_waits ht.1 ht.2 (by simp; omega) hinv (h - i0) i0 rfl hi0 (getD_in (by omega) hu0) i (by omega) hi
   have hui := (mem_ready.1 hi).1
   have hui' := getD_both hui
   obtain ⟨oi, hoi, hwait⟩ := (mem_ready.1 hi).2
   have hoi' : ops[i]? = some oi := by simpa using hoi
   obtain ⟨x, hx, hg, hop, hdst, hdn⟩ := hget i oi hoi'
   have hxt : (mi.take h)[i]? = some x := by rw [List.getElem?_take, if_pos hih]; exact hx
   obtain ⟨v, hv, hok⟩ := hch.at i x hxt
   -- what it looks at is there
   have hagree : ∀ t ∈ x.tmps, look s.regs t = look (after st ((mi.take h).take i) (vs.take i)).regs t := by
     intro t ht
     by_cases hex : ∃ (j : Nat) (y : MI), j < h ∧ j ≠ i ∧ mi[j]? = some y ∧ y.dst = some t
     · obtain ⟨j, y, hj, hji, hy, hyt⟩ := hex
       rcases (sees i j hih hj (Ne.symm hji) x y hx hy t hyt).2 ht with ⟨hlt, hwf⟩ | ⟨hlt, hwf⟩
       · -- j ahead of i, and i waits for it
         obtain ⟨o', ho', e, he, hb, hon⟩ := Region.waitsFor_spec hwf
         have : o' = oi := Option.some.inj (ho'.symm.trans hoi)
         subst this
         have hlj : listed.getD j false = true := by rw [← hon]; exact hwait e he hb
         have hvj : vs[j]? = some vs[j] := List.getElem?_eq_getElem (by omega)
         rw [hst.one j y t hj hy hlj hyt, hvj]
         symm
         refine look_after_one _ _ st t j y _ ?_ ?_ hyt ?_ ?_
         · rw [List.getElem?_take, if_pos hlt, List.getElem?_take, if_pos hj]; exact hy
         · rw [List.getElem?_take, if_pos hlt]; exact hvj
         · intro j' y' hj' hyt'
           rw [List.getElem?_take] at hj'
           split at hj'
           · rename_i hj'i
             rw [List.getElem?_take] at hj'
             split at hj'
             · rename_i hj'h
               by_cases hjj : j' = j
               · exact hjj
               · exact ((sees j' j hj'h hj hjj y' y hj' hy t hyt).1 hyt').elim
             · simp at hj'
           · simp at hj'
         · simp; omega
       · -- i ahead of j, which waits for it: it has not come
         have hlj : listed.getD j false = false := by
           cases hb : listed.getD j false with
           | false => rfl
           | true =>
             obtain ⟨o', ho', e, he, hbb, hon⟩ := Region.waitsFor_spec hwf
             have := hinv.closed j o' ho' hb e he hbb
             rw [hon, hui'] at this; cases this
         rw [hst.none t]
         · symm
           refine look_after_none _ _ st t ?_
           intro j' y' hj' hyt'
           rw [List.getElem?_take] at hj'
           split at hj'
           · rename_i hj'i
             rw [List.getElem?_take] at hj'
             split at hj'
             · rename_i hj'h
               exact ((sees j' j hj'h hj (by omega) y' y hj' hy t hyt).1 hyt').elim
             · simp at hj'
           · simp at hj'
         · intro j' y' hj'h hj' hl' hyt'
           by_cases hjj : j' = j
           · subst hjj; rw [hlj] at hl'; cases hl'
           · exact ((sees j' j hj'h hj hjj y' y hj' hy t hyt).1 hyt').elim
     · rw [hst.none t]
       · symm
         refine look_after_none _ _ st t ?_
         intro j' y' hj' hyt'
         rw [List.getElem?_take] at hj'
         split at hj'
         · rename_i hj'i
           rw [List.getElem?_take] at hj'
           split at hj'
           · rename_i hj'h
             exact hex ⟨j', y', hj'h, by omega, hj', hyt'⟩
           · simp at hj'
         · simp at hj'
       · intro j' y' hj'h hj' hl' hyt'
         by_cases hjj : j' = i
         · subst hjj; rw [hui'] at hl'; cases hl'
         · exact hex ⟨j', y', hj'h, hjj, hj', hyt'⟩
   have hheap : s.heap = (after st ((mi.take h).take i) (vs.take i)).heap := by
     rw [hst.heap, (after_heap _ _ _).1]
   have hleft : left (listed.setIfInBounds i true) h = d := by
     have := left_set (listed := listed) (i := i) (by omega) hui' (h := h) hih
     omega
   have hinv' := hinv.set hi hih
   have hst' : ∀ u, vs[i]? = some u → StInv mi h vs st (listed.setIfInBounds i true) (put x.dst u s) := by
     intro u hu
     have hlisted : ∀ j, (listed.setIfInBounds i true).getD j false = true → j = i ∨ listed.getD j false = true := by
       intro j hj
       by_cases hji : j = i
       · exact .inl hji
       · rw [getD_set_ne false (Ne.symm hji)] at hj; exact .inr hj
     have hput : (put x.dst u s).heap = s.heap ∧ (put x.dst u s).next = s.next ∧ (put x.dst u s).defers = s.defers ∧ (put x.dst u s).base = s.base := by
       cases x.dst <;> simp [Uw.put]
     have hii : (listed.setIfInBounds i true).getD i false = true := by simp [show i < listed.size by omega]
     refine ⟨?_, ?_, by rw [hput.1, hst.heap], by rw [hput.2.1, hst.next], by rw [hput.2.2.1, hst.defers], by rw [hput.2.2.2, hst.base]⟩
     · intro t ht
       have hnx : x.dst ≠ some t := ht i x hih hx hii
       have hs' : look (put x.dst u s).regs t = look s.regs t := by
         cases hxd : x.dst with
         | none => simp [Uw.put]
         | some dd =>
           simp only [Uw.put, look_cons]
           rw [if_neg]
           intro e; subst e; exact hnx hxd
       rw [hs']
       refine hst.none t (fun j y hj hy hl' => ht j y hj hy ?_)
       exact getD_set_true hl'
     · intro j y t hj hy hl' hyt
       rcases hlisted j hl' with rfl | hl''
       · rw [hx] at hy; injection hy with hy; subst hy
         rw [hyt, hu]
         simp [Uw.put, look_cons]
       · by_cases hji : j = i
         · subst hji; rw [hui'] at hl''; cases hl''
         · have hne := (sees i j hih hj (Ne.symm hji) x y hx hy t hyt).1
           have hs' : look (put x.dst u s).regs t = look s.regs t := by
             cases hxd : x.dst with
             | none => simp [Uw.put]
             | some dd =>
               simp only [Uw.put, look_cons]
               rw [if_neg]
               intro e; subst e; exact hne hxd
           rw [hs']
           exact hst.one j y t hj hy hl'' hyt
   unfold wpOp
   simp only [hoi]
   rcases hok s hagree hheap with ⟨hgr, hstep⟩ | ⟨hgr, rfl⟩
   · rw [wanted_gRes r hg hgr]
     simp only [if_true]
     left
     have hW := hstep (fun _ z => z = put (some 0) v s) (fun v' s' => Tree.done .normal (put (some 0) v' s')) (fun _ _ => .fail) rfl
     refine step_ok (xx := fun _ _ => Tree.fail) r hop ?_ (fun c' st' d ch _ _ _ _ _ hq => False.elim hq) hW
     intro c' s' a' v' gv hB' hJ' htm r' hregs hv' hq
     simp only [WT, Uw.put, St.mk.injEq, List.cons.injEq, Prod.mk.injEq, true_and] at hq
     obtain ⟨⟨rfl, e1⟩, e2, e3, e4, e5⟩ := hq
     have hss : s' = s := by cases s'; cases s; simp_all
     subst hss
     refine ih _ c' _ (put x.dst v' s') hleft hinv' (hst' v' hv) (hB'.trans hB) (hJ'.trans hJ) ?_
     rw [hdst]
     exact r'.put hdn hv'
   · rw [wanted_gRes r hg hgr]
     simp only [Bool.false_eq_true, if_false]
     refine ih _ c _ (put x.dst (.tuple []) s) hleft hinv' (hst' (.tuple []) hv) hB hJ ?_
     rw [hdst]
     exact r.put hdn (by simp [RelV, RelVL, undef])
theorem drawn_ok {id : Nat} {c : Cx} {a : Act} (hm : P.follows .mixedOrders = true) (hc : compOps P n pol ops ops = some mi) (hd : drawB ops mi h = true) (r : Rel c w0 n gs st a) (hw : WT P Q (execOps mi none st q)) :
   (Code.region id ops.toArray true).wp P (Came P Q q c w0 n gs) a c.w := by
 have hd' := hd
 simp only [drawB, Bool.and_eq_true, decide_eq_true_eq] at hd'
 obtain ⟨⟨⟨⟨⟨hle, hquiet⟩, _⟩, _⟩, _⟩, _⟩ := hd'
 rw [← List.take_append_drop h mi] at hw
 obtain ⟨vs, sf, mode, g1, g2, g3⟩ := execOps_split (mi.take h) none st (fun i hi => List.all_eq_true.1 hquiet i hi) (by intro t w' h' hh; simp at hh) hw
 refine wp_region_any hm ?_
 have hbel : Below c.w.heap.size c.w { c.w with drawn := c.w.drawn + 1 } := ⟨rfl, rfl, rfl, Nat.le_refl _, fun _ _ => rfl⟩
 have r1 := r.grow hbel
 have hnone : ∀ j, (Array.replicate ops.toArray.size false).getD j false = false := fun j => getD_replicate_false _ j
 have hl : ∀ k, left (Array.replicate ops.toArray.size false) k = k := by
   intro k
   induction k with
   | zero => rfl
   | succ k ih => simp only [left, ih, hnone, Bool.false_eq_true, if_false]
 have := drawn_any (c0 := c) (gs := gs) (w0 := w0) hc hd g1 g2 g3 h (Array.replicate ops.toArray.size false) { c with w := { c.w with drawn := c.w.drawn + 1 } } a st (hl h)
   ⟨by simp, fun j oj _ hl' => (by rw [hnone] at hl'; cases hl'), fun t _ ht => getD_in (by simpa using ht) (hnone t)⟩
   ⟨fun _ _ => rfl, fun j i t _ _ hl' => (by rw [hnone] at hl'; cases hl'), rfl, rfl, rfl, rfl⟩ rfl rfl r1
 rw [show h + (ops.length - h) = ops.toArray.size by simp; omega] at this
 exact this
end
end Uw
namespace Uw
open Go Go.RowKit
variable [Glob]
def St.withH (st s : St) : St := { st with heap := s.heap, next := s.next, defers := s.defers, base := s.base }
theorem step_frame {op : MOp} {st s : St} (ha : ∀ t ∈ op.tmps, look s.regs t = look st.regs t) (hh : s.heap = st.heap) (hn : s.next = st.next) (hd : s.defers = st.defers) (hb : s.base = st.base) (q : V → St → Tree) (x : MExit → St → Tree) :
   step op s (fun v s' => q v (st.withH s')) (fun e s' => x e (st.withH s')) = step op st q x := by
 obtain ⟨r, h, n, d, b⟩ := st
 obtain ⟨r', h', n', d', b'⟩ := s
 simp only at hh hn hd hb ha
 subst hh hn hd hb
 cases op with
 | mm mx1 x1 y1 =>
   have e0 : Opd.ev ⟨r', h', n', d', b'⟩ x1 = Opd.ev ⟨r, h', n', d', b'⟩ x1 := ev_agree fun t ht => ha t (by simp [MOp.tmps, ht])
   have e1 : Opd.ev ⟨r', h', n', d', b'⟩ y1 = Opd.ev ⟨r, h', n', d', b'⟩ y1 := ev_agree fun t ht => ha t (by simp [MOp.tmps, ht])
   simp only [step, forceL_eq, place_eq, fillK_eq, e0, e1]
   rfl
 | mkmap kk1 =>
   simp only [step, forceL_eq, place_eq, fillK_eq]
   rfl
 | lkp ok1 kk1 z1 m1 x1 =>
   have e0 : Opd.ev ⟨r', h', n', d', b'⟩ m1 = Opd.ev ⟨r, h', n', d', b'⟩ m1 := ev_agree fun t ht => ha t (by simp [MOp.tmps, ht])
   have e1 : Opd.ev ⟨r', h', n', d', b'⟩ x1 = Opd.ev ⟨r, h', n', d', b'⟩ x1 := ev_agree fun t ht => ha t (by simp [MOp.tmps, ht])
   simp only [step, forceL_eq, place_eq, fillK_eq, e0, e1]
   rfl
 | mupd kk1 m1 x1 v1 =>
   have e0 : Opd.ev ⟨r', h', n', d', b'⟩ m1 = Opd.ev ⟨r, h', n', d', b'⟩ m1 := ev_agree fun t ht => ha t (by simp [MOp.tmps, ht])
   have e1 : Opd.ev ⟨r', h', n', d', b'⟩ x1 = Opd.ev ⟨r, h', n', d', b'⟩ x1 := ev_agree fun t ht => ha t (by simp [MOp.tmps, ht])
   have e2 : Opd.ev ⟨r', h', n', d', b'⟩ v1 = Opd.ev ⟨r, h', n', d', b'⟩ v1 := ev_agree fun t ht => ha t (by simp [MOp.tmps, ht])
   simp only [step, forceL_eq, place_eq, fillK_eq, e0, e1, e2]
   rfl
 | lenm m1 =>
   have e0 : Opd.ev ⟨r', h', n', d', b'⟩ m1 = Opd.ev ⟨r, h', n', d', b'⟩ m1 := ev_agree fun t ht => ha t (by simp [MOp.tmps, ht])
   simp only [step, forceL_eq, place_eq, fillK_eq, e0]
   rfl
 | rng x1 =>
   have e0 : Opd.ev ⟨r', h', n', d', b'⟩ x1 = Opd.ev ⟨r, h', n', d', b'⟩ x1 := ev_agree fun t ht => ha t (by simp [MOp.tmps, ht])
   simp only [step, forceL_eq, place_eq, fillK_eq, e0]
   rfl
 | nxt x1 =>
   have e0 : Opd.ev ⟨r', h', n', d', b'⟩ x1 = Opd.ev ⟨r, h', n', d', b'⟩ x1 := ev_agree fun t ht => ha t (by simp [MOp.tmps, ht])
   simp only [step, forceL_eq, place_eq, fillK_eq, e0]
   rfl
 | idxv g1 n1 k1 x1 i1 =>
   have e0 : Opd.ev ⟨r', h', n', d', b'⟩ x1 = Opd.ev ⟨r, h', n', d', b'⟩ x1 := ev_agree fun t ht => ha t (by simp [MOp.tmps, ht])
   have e1 : Opd.ev ⟨r', h', n', d', b'⟩ i1 = Opd.ev ⟨r, h', n', d', b'⟩ i1 := ev_agree fun t ht => ha t (by simp [MOp.tmps, ht])
   simp only [step, forceL_eq, place_eq, fillK_eq, e0, e1]
   rfl
 | b2s x1 =>
   have e0 : Opd.ev ⟨r', h', n', d', b'⟩ x1 = Opd.ev ⟨r, h', n', d', b'⟩ x1 := ev_agree fun t ht => ha t (by simp [MOp.tmps, ht])
   simp only [step, forceL_eq, place_eq, fillK_eq, e0]
   rfl
 | mov x1 =>
   have e0 : Opd.ev ⟨r', h', n', d', b'⟩ x1 = Opd.ev ⟨r, h', n', d', b'⟩ x1 := ev_agree fun t ht => ha t (by simp [MOp.tmps, ht])
   simp only [step, forceL_eq, place_eq, fillK_eq, e0]
   rfl
 | pick c1 a1 b1 =>
   have e0 : Opd.ev ⟨r', h', n', d', b'⟩ c1 = Opd.ev ⟨r, h', n', d', b'⟩ c1 := ev_agree fun t ht => ha t (by simp [MOp.tmps, ht])
   have e1 : Opd.ev ⟨r', h', n', d', b'⟩ a1 = Opd.ev ⟨r, h', n', d', b'⟩ a1 := ev_agree fun t ht => ha t (by simp [MOp.tmps, ht])
   have e2 : Opd.ev ⟨r', h', n', d', b'⟩ b1 = Opd.ev ⟨r, h', n', d', b'⟩ b1 := ev_agree fun t ht => ha t (by simp [MOp.tmps, ht])
   simp only [step, forceL_eq, place_eq, fillK_eq, e0, e1, e2]
   rfl
 | box x1 =>
   have e0 : Opd.ev ⟨r', h', n', d', b'⟩ x1 = Opd.ev ⟨r, h', n', d', b'⟩ x1 := ev_agree fun t ht => ha t (by simp [MOp.tmps, ht])
   simp only [step, forceL_eq, place_eq, fillK_eq, e0]
   rfl
 | alloc zs1 =>
   simp only [step, forceL_eq, place_eq, fillK_eq]
   rfl
 | build zs1 ps1 =>
   have e0 : ∀ z, fillParts ⟨r', h', n', d', b'⟩ z ps1 = fillParts ⟨r, h', n', d', b'⟩ z ps1 := fun z => fillParts_agree z fun t ht => ha t (by simp [MOp.tmps, ht])
   simp only [step, forceL_eq, place_eq, fillK_eq, e0]
   rfl
 | load g1 n1 a1 =>
   have e0 : Opd.ev ⟨r', h', n', d', b'⟩ a1 = Opd.ev ⟨r, h', n', d', b'⟩ a1 := ev_agree fun t ht => ha t (by simp [MOp.tmps, ht])
   simp only [step, forceL_eq, place_eq, fillK_eq, e0]
   rfl
 | store n1 a1 x1 =>
   have e0 : Opd.ev ⟨r', h', n', d', b'⟩ a1 = Opd.ev ⟨r, h', n', d', b'⟩ a1 := ev_agree fun t ht => ha t (by simp [MOp.tmps, ht])
   have e1 : Opd.ev ⟨r', h', n', d', b'⟩ x1 = Opd.ev ⟨r, h', n', d', b'⟩ x1 := ev_agree fun t ht => ha t (by simp [MOp.tmps, ht])
   simp only [step, forceL_eq, place_eq, fillK_eq, e0, e1]
   rfl
 | fld off1 a1 =>
   have e0 : Opd.ev ⟨r', h', n', d', b'⟩ a1 = Opd.ev ⟨r, h', n', d', b'⟩ a1 := ev_agree fun t ht => ha t (by simp [MOp.tmps, ht])
   simp only [step, forceL_eq, place_eq, fillK_eq, e0]
   rfl
 | nilck x1 =>
   have e0 : Opd.ev ⟨r', h', n', d', b'⟩ x1 = Opd.ev ⟨r, h', n', d', b'⟩ x1 := ev_agree fun t ht => ha t (by simp [MOp.tmps, ht])
   simp only [step, forceL_eq, place_eq, fillK_eq, e0]
   rfl
 | idx k1 s1 i1 =>
   have e0 : Opd.ev ⟨r', h', n', d', b'⟩ s1 = Opd.ev ⟨r, h', n', d', b'⟩ s1 := ev_agree fun t ht => ha t (by simp [MOp.tmps, ht])
   have e1 : Opd.ev ⟨r', h', n', d', b'⟩ i1 = Opd.ev ⟨r, h', n', d', b'⟩ i1 := ev_agree fun t ht => ha t (by simp [MOp.tmps, ht])
   simp only [step, forceL_eq, place_eq, fillK_eq, e0, e1]
   rfl
 | idxs s1 i1 =>
   have e0 : Opd.ev ⟨r', h', n', d', b'⟩ s1 = Opd.ev ⟨r, h', n', d', b'⟩ s1 := ev_agree fun t ht => ha t (by simp [MOp.tmps, ht])
   have e1 : Opd.ev ⟨r', h', n', d', b'⟩ i1 = Opd.ev ⟨r, h', n', d', b'⟩ i1 := ev_agree fun t ht => ha t (by simp [MOp.tmps, ht])
   simp only [step, forceL_eq, place_eq, fillK_eq, e0, e1]
   rfl
 | len b1 s1 =>
   have e0 : Opd.ev ⟨r', h', n', d', b'⟩ s1 = Opd.ev ⟨r, h', n', d', b'⟩ s1 := ev_agree fun t ht => ha t (by simp [MOp.tmps, ht])
   cases b1
   all_goals
     simp only [step, forceL_eq, place_eq, fillK_eq, e0]
     rfl
 | bin op1 x1 y1 =>
   have e0 : Opd.ev ⟨r', h', n', d', b'⟩ x1 = Opd.ev ⟨r, h', n', d', b'⟩ x1 := ev_agree fun t ht => ha t (by simp [MOp.tmps, ht])
   have e1 : Opd.ev ⟨r', h', n', d', b'⟩ y1 = Opd.ev ⟨r, h', n', d', b'⟩ y1 := ev_agree fun t ht => ha t (by simp [MOp.tmps, ht])
   simp only [step, forceL_eq, place_eq, fillK_eq, e0, e1]
   rfl
 | eqb neg1 x1 y1 =>
   have e0 : Opd.ev ⟨r', h', n', d', b'⟩ x1 = Opd.ev ⟨r, h', n', d', b'⟩ x1 := ev_agree fun t ht => ha t (by simp [MOp.tmps, ht])
   have e1 : Opd.ev ⟨r', h', n', d', b'⟩ y1 = Opd.ev ⟨r, h', n', d', b'⟩ y1 := ev_agree fun t ht => ha t (by simp [MOp.tmps, ht])
   simp only [step, forceL_eq, place_eq, fillK_eq, e0, e1]
   rfl
 | not x1 =>
   have e0 : Opd.ev ⟨r', h', n', d', b'⟩ x1 = Opd.ev ⟨r, h', n', d', b'⟩ x1 := ev_agree fun t ht => ha t (by simp [MOp.tmps, ht])
   simp only [step, forceL_eq, place_eq, fillK_eq, e0]
   rfl
 | conv k1 x1 =>
   have e0 : Opd.ev ⟨r', h', n', d', b'⟩ x1 = Opd.ev ⟨r, h', n', d', b'⟩ x1 := ev_agree fun t ht => ha t (by simp [MOp.tmps, ht])
   simp only [step, forceL_eq, place_eq, fillK_eq, e0]
   rfl
 | call f1 args1 =>
   have e0 : evList ⟨r', h', n', d', b'⟩ args1 = evList ⟨r, h', n', d', b'⟩ args1 := evList_agree fun t ht => ha t (by simp [MOp.tmps, ht])
   simp only [step, forceL_eq, place_eq, fillK_eq, e0]
   rfl
 | ext x1 i1 =>
   have e0 : Opd.ev ⟨r', h', n', d', b'⟩ x1 = Opd.ev ⟨r, h', n', d', b'⟩ x1 := ev_agree fun t ht => ha t (by simp [MOp.tmps, ht])
   simp only [step, forceL_eq, place_eq, fillK_eq, e0]
   rfl
 | bslice k1 n1 zs1 ps1 =>
   have e0 : ∀ k z, bsParts ⟨r', h', n', d', b'⟩ k z ps1 = bsParts ⟨r, h', n', d', b'⟩ k z ps1 := fun k z => bsParts_agree (st := ⟨r, h', n', d', b'⟩) (st' := ⟨r', h', n', d', b'⟩) rfl fun t ht => ha t (by simp [MOp.tmps, ht])
   simp only [step, forceL_eq, place_eq, fillK_eq, e0]
   rfl
 | app m1 k1 bytes1 s1 x1 =>
   have e0 : Opd.ev ⟨r', h', n', d', b'⟩ s1 = Opd.ev ⟨r, h', n', d', b'⟩ s1 := ev_agree fun t ht => ha t (by simp [MOp.tmps, ht])
   have e1 : Opd.ev ⟨r', h', n', d', b'⟩ x1 = Opd.ev ⟨r, h', n', d', b'⟩ x1 := ev_agree fun t ht => ha t (by simp [MOp.tmps, ht])
   simp only [step, forceL_eq, place_eq, fillK_eq, e0, e1]
   rfl
 | mksl m1 k1 bytes1 zs1 l1 c1 =>
   have e0 : Opd.ev ⟨r', h', n', d', b'⟩ l1 = Opd.ev ⟨r, h', n', d', b'⟩ l1 := ev_agree fun t ht => ha t (by simp [MOp.tmps, ht])
   have e1 : Opd.ev ⟨r', h', n', d', b'⟩ c1 = Opd.ev ⟨r, h', n', d', b'⟩ c1 := ev_agree fun t ht => ha t (by simp [MOp.tmps, ht])
   simp only [step, forceL_eq, place_eq, fillK_eq, e0, e1]
   rfl
 | fldv g1 n1 off1 x1 =>
   have e0 : Opd.ev ⟨r', h', n', d', b'⟩ x1 = Opd.ev ⟨r, h', n', d', b'⟩ x1 := ev_agree fun t ht => ha t (by simp [MOp.tmps, ht])
   simp only [step, forceL_eq, place_eq, fillK_eq, e0]
   rfl
 | sl3 k1 x1 lo1 hi1 mx1 =>
   have e0 : Opd.ev ⟨r', h', n', d', b'⟩ x1 = Opd.ev ⟨r, h', n', d', b'⟩ x1 := ev_agree fun t ht => ha t (by simp [MOp.tmps, ht])
   have e1 : ∀ z, optInt ⟨r', h', n', d', b'⟩ z lo1 = optInt ⟨r, h', n', d', b'⟩ z lo1 := fun z => optInt_agree fun t ht => ha t (by simp [MOp.tmps, ht])
   have e2 : ∀ z, optInt ⟨r', h', n', d', b'⟩ z (some hi1) = optInt ⟨r, h', n', d', b'⟩ z (some hi1) := fun z => optInt_agree fun t ht => ha t (by simp only [optTmps] at ht; simp [MOp.tmps, ht])
   have e3 : ∀ z, optInt ⟨r', h', n', d', b'⟩ z (some mx1) = optInt ⟨r, h', n', d', b'⟩ z (some mx1) := fun z => optInt_agree fun t ht => ha t (by simp only [optTmps] at ht; simp [MOp.tmps, ht])
   simp only [step, forceL_eq, place_eq, fillK_eq, e0, e1, e2, e3]
   rfl
 | sl k1 x1 lo1 hi1 =>
   have e0 : Opd.ev ⟨r', h', n', d', b'⟩ x1 = Opd.ev ⟨r, h', n', d', b'⟩ x1 := ev_agree fun t ht => ha t (by simp [MOp.tmps, ht])
   have e1 : ∀ z, optInt ⟨r', h', n', d', b'⟩ z lo1 = optInt ⟨r, h', n', d', b'⟩ z lo1 := fun z => optInt_agree fun t ht => ha t (by simp [MOp.tmps, ht])
   have e2 : ∀ z, optInt ⟨r', h', n', d', b'⟩ z hi1 = optInt ⟨r, h', n', d', b'⟩ z hi1 := fun z => optInt_agree fun t ht => ha t (by simp [MOp.tmps, ht])
   simp only [step, forceL_eq, place_eq, fillK_eq, e0, e1, e2]
   rfl
 | slstr x1 lo1 hi1 =>
   have e0 : Opd.ev ⟨r', h', n', d', b'⟩ x1 = Opd.ev ⟨r, h', n', d', b'⟩ x1 := ev_agree fun t ht => ha t (by simp [MOp.tmps, ht])
   have e1 : ∀ z, optInt ⟨r', h', n', d', b'⟩ z lo1 = optInt ⟨r, h', n', d', b'⟩ z lo1 := fun z => optInt_agree fun t ht => ha t (by simp [MOp.tmps, ht])
   have e2 : ∀ z, optInt ⟨r', h', n', d', b'⟩ z hi1 = optInt ⟨r, h', n', d', b'⟩ z hi1 := fun z => optInt_agree fun t ht => ha t (by simp [MOp.tmps, ht])
   simp only [step, forceL_eq, place_eq, fillK_eq, e0, e1, e2]
   rfl
 | idxa n1 k1 a1 i1 =>
   have e0 : Opd.ev ⟨r', h', n', d', b'⟩ a1 = Opd.ev ⟨r, h', n', d', b'⟩ a1 := ev_agree fun t ht => ha t (by simp [MOp.tmps, ht])
   have e1 : Opd.ev ⟨r', h', n', d', b'⟩ i1 = Opd.ev ⟨r, h', n', d', b'⟩ i1 := ev_agree fun t ht => ha t (by simp [MOp.tmps, ht])
   simp only [step, forceL_eq, place_eq, fillK_eq, e0, e1]
   rfl
 | eqn neg1 x1 =>
   have e0 : Opd.ev ⟨r', h', n', d', b'⟩ x1 = Opd.ev ⟨r, h', n', d', b'⟩ x1 := ev_agree fun t ht => ha t (by simp [MOp.tmps, ht])
   simp only [step, forceL_eq, place_eq, fillK_eq, e0]
   rfl
 | eqi neg1 x1 =>
   have e0 : Opd.ev ⟨r', h', n', d', b'⟩ x1 = Opd.ev ⟨r, h', n', d', b'⟩ x1 := ev_agree fun t ht => ha t (by simp [MOp.tmps, ht])
   simp only [step, forceL_eq, place_eq, fillK_eq, e0]
   rfl
 | eqs neg1 ks1 x1 y1 =>
   have e0 : Opd.ev ⟨r', h', n', d', b'⟩ x1 = Opd.ev ⟨r, h', n', d', b'⟩ x1 := ev_agree fun t ht => ha t (by simp [MOp.tmps, ht])
   have e1 : Opd.ev ⟨r', h', n', d', b'⟩ y1 = Opd.ev ⟨r, h', n', d', b'⟩ y1 := ev_agree fun t ht => ha t (by simp [MOp.tmps, ht])
   simp only [step, forceL_eq, place_eq, fillK_eq, e0, e1]
   rfl
 | sub f1 args1 =>
   have e0 : evList ⟨r', h', n', d', b'⟩ args1 = evList ⟨r, h', n', d', b'⟩ args1 := evList_agree fun t ht => ha t (by simp [MOp.tmps, ht])
   simp only [step, forceL_eq, place_eq, fillK_eq, e0]
   rfl
 | subv x1 args1 =>
   have e0 : Opd.ev ⟨r', h', n', d', b'⟩ x1 = Opd.ev ⟨r, h', n', d', b'⟩ x1 := ev_agree fun t ht => ha t (by simp [MOp.tmps, ht])
   have e1 : evList ⟨r', h', n', d', b'⟩ args1 = evList ⟨r, h', n', d', b'⟩ args1 := evList_agree fun t ht => ha t (by simp [MOp.tmps, ht])
   simp only [step, forceL_eq, place_eq, fillK_eq, e0, e1]
   rfl
 | mkfn f1 xs1 ys1 =>
   have e0 : evList ⟨r', h', n', d', b'⟩ xs1 = evList ⟨r, h', n', d', b'⟩ xs1 := evList_agree fun t ht => ha t (by simp [MOp.tmps, ht])
   have e1 : evList ⟨r', h', n', d', b'⟩ ys1 = evList ⟨r, h', n', d', b'⟩ ys1 := evList_agree fun t ht => ha t (by simp [MOp.tmps, ht])
   simp only [step, forceL_eq, place_eq, fillK_eq, e0, e1]
   rfl
 | defer x1 args1 =>
   have e0 : Opd.ev ⟨r', h', n', d', b'⟩ x1 = Opd.ev ⟨r, h', n', d', b'⟩ x1 := ev_agree fun t ht => ha t (by simp [MOp.tmps, ht])
   have e1 : evList ⟨r', h', n', d', b'⟩ args1 = evList ⟨r, h', n', d', b'⟩ args1 := evList_agree fun t ht => ha t (by simp [MOp.tmps, ht])
   simp only [step, forceL_eq, place_eq, fillK_eq, e0, e1]
   rfl
 | panic x1 =>
   have e0 : Opd.ev ⟨r', h', n', d', b'⟩ x1 = Opd.ev ⟨r, h', n', d', b'⟩ x1 := ev_agree fun t ht => ha t (by simp [MOp.tmps, ht])
   simp only [step, forceL_eq, place_eq, fillK_eq, e0]
   rfl
 | mkif t1 x1 =>
   have e0 : Opd.ev ⟨r', h', n', d', b'⟩ x1 = Opd.ev ⟨r, h', n', d', b'⟩ x1 := ev_agree fun t ht => ha t (by simp [MOp.tmps, ht])
   simp only [step, forceL_eq, place_eq, fillK_eq, e0]
   rfl
 | tas t1 z1 x1 =>
   have e0 : Opd.ev ⟨r', h', n', d', b'⟩ x1 = Opd.ev ⟨r, h', n', d', b'⟩ x1 := ev_agree fun t ht => ha t (by simp [MOp.tmps, ht])
   simp only [step, forceL_eq, place_eq, fillK_eq, e0]
   rfl
 | copy k1 d1 s1 =>
   have e0 : Opd.ev ⟨r', h', n', d', b'⟩ d1 = Opd.ev ⟨r, h', n', d', b'⟩ d1 := ev_agree fun t ht => ha t (by simp [MOp.tmps, ht])
   have e1 : Opd.ev ⟨r', h', n', d', b'⟩ s1 = Opd.ev ⟨r, h', n', d', b'⟩ s1 := ev_agree fun t ht => ha t (by simp [MOp.tmps, ht])
   simp only [step, forceL_eq, place_eq, fillK_eq, e0, e1]
   rfl
end Uw
namespace Uw
open Go Go.RowKit
variable [Glob]
theorem memN_cons {x i : Nat} {r : List Nat} : memN (x :: r) i = true ↔ x = i ∨ memN r i = true := by
 rw [memN]
 cases h : Nat.beq x i with
 | true => simp [Nat.eq_of_beq_eq_true h]
 | false =>
   have : x ≠ i := by rintro rfl; simp at h
   simp [this]
theorem memN_iff {i : Nat} : ∀ {l : List Nat}, memN l i = true ↔ i ∈ l
 | [] => by simp [memN]
 | x :: r => by rw [memN_cons, memN_iff, List.mem_cons]; constructor <;> rintro (h | h) <;> simp [h]
theorem allMem_iff {E D : List Nat} : ∀ {l : List Nat}, allMem l E D = true ↔ ∀ j ∈ l, j ∈ E ∨ j ∈ D
 | [] => by simp [allMem]
 | x :: r => by
   rw [allMem, Bool.and_eq_true, Bool.or_eq_true, memN_iff, memN_iff, allMem_iff]
   simp
theorem waited_iff {all : List DOp} {i : Nat} : ∀ {D : List Nat}, waited all D i = true ↔ ∃ n ∈ D, ∃ o, all[n]? = some o ∧ i ∈ o.dep
 | [] => by simp [waited]
 | n :: D => by
   rw [waited, Bool.or_eq_true, waited_iff]
   constructor
   · rintro (h | ⟨m, hm, o, h1, h2⟩)
     · split at h
       · rename_i o ho; exact ⟨n, by simp, o, ho, memN_iff.1 h⟩
       · cases h
     · exact ⟨m, by simp [hm], o, h1, h2⟩
   · rintro ⟨m, hm, o, h1, h2⟩
     simp at hm
     rcases hm with rfl | hm
     · left; rw [h1]; exact memN_iff.2 h2
     · right; exact ⟨m, hm, o, h1, h2⟩
structure DrawOK (l : List DOp) : Prop where
 self : ∀ (i : Nat) (o : DOp), l[i]? = some o → ∀ t, o.mi.dst = some t → t ∉ o.mi.tmps
 acyc : ∀ (i : Nat) (o : DOp), l[i]? = some o → ∀ j ∈ o.dep, j < i
 noG : ∀ (i : Nat) (o : DOp), l[i]? = some o → o.loud = true → o.mi.g = none
 sees : ∀ (i j : Nat) (x y : DOp), i ≠ j → l[i]? = some x → l[j]? = some y → ∀ t, y.mi.dst = some t → x.mi.dst ≠ some t ∧ (t ∈ x.mi.tmps → j < i ∧ j ∈ x.dep)
theorem drawB2_ok {l : List DOp} (h : drawB2 l = true) : DrawOK l := by
 unfold drawB2 at h
 rw [Bool.and_eq_true] at h
 have key : ∀ (i : Nat) (o : DOp), l[i]? = some o → (o.dep.all (fun j => decide (j < i)) && (!o.loud || o.mi.g.isNone) && selfB o) = true := by
   intro i o ho
   have hi : i < l.length := by
     by_cases hh : i < l.length
     · exact hh
     · rw [List.getElem?_eq_none (by omega)] at ho; cases ho
   have := List.all_eq_true.1 h.1 i (List.mem_range.2 hi)
   rwa [ho] at this
 refine ⟨?_, ?_, ?_, ?_⟩
 · intro i o ho t ht hm
   have := key i o ho
   rw [Bool.and_eq_true] at this
   have h2 := this.2
   simp only [selfB, ht] at h2
   have : o.mi.tmps.contains t = true := by simpa using hm
   rw [this] at h2; simp at h2
 · intro i o ho j hj
   have := key i o ho
   rw [Bool.and_eq_true, Bool.and_eq_true] at this
   simpa using List.all_eq_true.1 this.1.1 j hj
 · intro i o ho hl
   have := key i o ho
   rw [Bool.and_eq_true, Bool.and_eq_true, hl] at this
   simpa using this.1.2
 · intro i j x y hij hx hy t ht
   have hi : i < l.length := by
     by_cases hh : i < l.length
     · exact hh
     · rw [List.getElem?_eq_none (by omega)] at hx; cases hx
   have hj : j < l.length := by
     by_cases hh : j < l.length
     · exact hh
     · rw [List.getElem?_eq_none (by omega)] at hy; cases hy
   have h1 := List.all_eq_true.1 (List.all_eq_true.1 h.2 i (List.mem_range.2 hi)) j (List.mem_range.2 hj)
   simp only [Bool.or_eq_true, beq_iff_eq] at h1
   rcases h1 with h1 | h1
   · exact (hij h1).elim
   · simp only [sees2, hx, hy, ht, Bool.and_eq_true, Bool.or_eq_true] at h1
     refine ⟨by simpa using h1.1, fun hm => ?_⟩
     rcases h1.2 with h2 | h2
     · have : x.mi.tmps.contains t = true := by simpa using hm
       rw [this] at h2; simp at h2
     · exact ⟨by simpa using h2.1, memN_iff.1 h2.2⟩
theorem eval_one {P : Program} {Q : MExit → St → Prop} {i : MI} {st : St} {q : MExit → St → Tree} (hq : quietOp i.op = true) (h : WT P Q (execOps [i] none st q)) : ∃ v sf, OpOK P i st v ∧ SameSt (put i.dst v st) sf ∧ WT P Q (q .normal sf) := by
 obtain ⟨vs, sf, mode', h1, h2, h3⟩ := execOps_split (l2 := []) [i] none st (by simpa using hq) (by intro t w' h' hh; simp at hh) (by simpa using h)
 obtain ⟨v, vs', rfl, g1, g2⟩ := h1
 obtain ⟨rfl, g2⟩ := g2
 exact ⟨v, sf, g1, g2, h3⟩
theorem OpOK.agree {P : Program} {i : MI} {st st1 : St} {v : V} (ha : ∀ t ∈ i.tmps, look st1.regs t = look st.regs t) (hh : st1.heap = st.heap) (h : OpOK P i st v) : OpOK P i st1 v :=
 fun st' g1 g2 => h st' (fun t ht => (g1 t ht).trans (ha t ht)) (g2.trans hh)
theorem look_put {dst : Option Nat} {v : V} {st : St} {t : Nat} : look (put dst v st).regs t = if dst = some t then some v else look st.regs t := by
 cases dst with
 | none => simp [Uw.put]
 | some d => simp only [Uw.put, look_cons, Option.some.injEq]
structure PhOK (P : Program) (all : List DOp) (D E : List Nat) (S : St) (k : Nat) : Prop where
 op : ∀ (i : Nat) (o : DOp), i < k → all[i]? = some o → o.loud = false → i ∈ E → waited all D i = false → ∃ v, OpOK P o.mi S v ∧ ∀ d, o.mi.dst = some d → look S.regs d = some v
 sat : ∀ (i : Nat) (o : DOp), i < k → all[i]? = some o → o.loud = false → (∀ j ∈ o.dep, j ∈ E ∨ j ∈ D) → i ∈ E
structure Ext (all : List DOp) (D E E' : List Nat) (st st' : St) : Prop where
 sub : ∀ i, i ∈ E → i ∈ E'
 quiet : ∀ (i : Nat) (o : DOp), all[i]? = some o → o.loud = true → i ∈ E' → i ∈ E
 same : ∀ t, (∀ (i : Nat) (o : DOp), all[i]? = some o → o.mi.dst = some t → i ∈ E' → i ∈ E) → look st'.regs t = look st.regs t
 heap : st'.heap = st.heap
 next : st'.next = st.next
 defers : st'.defers = st.defers
 base : st'.base = st.base
theorem phase_ok {P : Program} {Q : MExit → St → Prop} {all : List DOp} (hd : DrawOK all) (hquiet : ∀ (i : Nat) (o : DOp), all[i]? = some o → o.loud = false → quietOp o.mi.op = true) {D : List Nat} {q : List Nat → St → Tree} :
   ∀ (l : List DOp) (i : Nat) (E : List Nat) (st : St), l = all.drop i → (∀ j ∈ E, j < i ∨ True) → PhOK P all D E st i → WT P Q (phaseT all D l i E st q) →
     ∃ E' st', PhOK P all D E' st' all.length ∧ Ext all D E E' st st' ∧ WT P Q (q E' st') := by
 intro l
 induction l with
 | nil =>
   intro i E st hl _ hp h
   have hi : all.length ≤ i := by
     have := congrArg List.length hl
     simp at this; omega
   exact ⟨E, st, ⟨fun j o hj => hp.op j o (by omega), fun j o hj => hp.sat j o (by omega)⟩, ⟨fun _ h => h, fun _ _ _ _ h => h, fun _ _ => rfl, rfl, rfl, rfl, rfl⟩, h⟩
 | cons o r ih =>
   intro i E st hl _ hp h
   have ho : all[i]? = some o := by
     have : (all.drop i)[0]? = some o := by rw [← hl]; rfl
     rw [List.getElem?_drop] at this; simpa using this
   have hr : r = all.drop (i + 1) := by
     rw [← List.tail_drop, ← hl]; rfl
   have hdep := hd.acyc i o ho
   simp only [phaseT] at h
   split at h
   · -- a loud one
     rename_i hloud
     refine ih (i + 1) E st hr (fun _ _ => .inr trivial) ⟨?_, ?_⟩ h
     · intro j oj hj hoj hlj
       by_cases hji : j = i
       · subst hji; rw [ho] at hoj; injection hoj with hoj; subst hoj; rw [hloud] at hlj; cases hlj
       · exact hp.op j oj (by omega) hoj hlj
     · intro j oj hj hoj hlj
       by_cases hji : j = i
       · subst hji; rw [ho] at hoj; injection hoj with hoj; subst hoj; rw [hloud] at hlj; cases hlj
       · exact hp.sat j oj (by omega) hoj hlj
   · rename_i hloud
     have hqo := hquiet i o ho hloud
     split at h
     · rename_i hmem
       have hmem := memN_iff.1 hmem
       split at h
       · rename_i hw
         refine ih (i + 1) E st hr (fun _ _ => .inr trivial) ⟨?_, ?_⟩ h
         · intro j oj hj hoj hlj hje hwj
           by_cases hji : j = i
           · subst hji; rw [hw] at hwj; cases hwj
           · exact hp.op j oj (by omega) hoj hlj hje hwj
         · intro j oj hj hoj hlj hdj
           by_cases hji : j = i
           · subst hji; exact hmem
           · exact hp.sat j oj (by omega) hoj hlj hdj
       · rename_i hw
         obtain ⟨v, sf, g1, g2, g3⟩ := eval_one hqo h
         obtain ⟨g4, g5⟩ := g3
         refine ih (i + 1) E st hr (fun _ _ => .inr trivial) ⟨?_, ?_⟩ g5
         · intro j oj hj hoj hlj hje hwj
           by_cases hji : j = i
           · subst hji; rw [ho] at hoj; injection hoj with hoj; subst hoj
             refine ⟨v, g1, fun d hdst => ?_⟩
             rw [hdst] at g4
             simp only at g4
             rw [← g4, g2.regs d, look_put, if_pos hdst]
           · exact hp.op j oj (by omega) hoj hlj hje hwj
         · intro j oj hj hoj hlj hdj
           by_cases hji : j = i
           · subst hji; exact hmem
           · exact hp.sat j oj (by omega) hoj hlj hdj
     · rename_i hmem
       have hmem : i ∉ E := fun hh => by rw [memN_iff.2 hh] at hmem; cases hmem
       split at h
       · rename_i hall
         have hall := allMem_iff.1 hall
         obtain ⟨v, sf, g1, g2, g3⟩ := eval_one hqo h
         -- what the new value does not touch
         have hlook : ∀ t, o.mi.dst ≠ some t → look sf.regs t = look st.regs t := fun t ht => by rw [g2.regs t, look_put, if_neg ht]
         have hagree : ∀ (j : Nat) (oj : DOp), all[j]? = some oj → j ≤ i → ∀ t ∈ oj.mi.tmps, look sf.regs t = look st.regs t := by
           intro j oj hoj hji t ht
           refine hlook t (fun hdst => ?_)
           by_cases hij : j = i
           · subst hij
             rw [ho] at hoj; injection hoj with hoj; subst hoj
             -- an operation that reads what it writes: its own temporary; then agreement is asked of the state ahead of it
             exact absurd ht (hd.self j o ho t hdst)
           · have := (hd.sees j i oj o hij hoj ho t hdst).2 ht
             omega
         have hph : PhOK P all D (i :: E) sf (i + 1) := by
           refine ⟨?_, ?_⟩
           · intro j oj hj hoj hlj hje hwj
             have hheap : sf.heap = st.heap := by rw [g2.heap]; cases o.mi.dst <;> rfl
             by_cases hji : j = i
             · subst hji; rw [ho] at hoj; injection hoj with hoj; subst hoj
               exact ⟨v, g1.agree (hagree j o ho (Nat.le_refl _)) hheap, fun d hdst => by rw [g2.regs d, look_put, if_pos hdst]⟩
             · have hje' : j ∈ E := by simpa [hji] using hje
               obtain ⟨u, u1, u2⟩ := hp.op j oj (by omega) hoj hlj hje' hwj
               refine ⟨u, u1.agree (hagree j oj hoj (by omega)) hheap, fun d hdst => ?_⟩
               rw [hlook d (fun hdst' => (hd.sees j i oj o hji hoj ho d hdst').1 hdst)]
               exact u2 d hdst
           · intro j oj hj hoj hlj hdj
             by_cases hji : j = i
             · simp [hji]
             · have := hp.sat j oj (by omega) hoj hlj (fun m hm => by
                 have hmj := hd.acyc j oj hoj m hm
                 rcases hdj m hm with h1 | h1
                 · simp at h1
                   rcases h1 with rfl | h1
                   · omega
                   · exact .inl h1
                 · exact .inr h1)
               simp [this]
         obtain ⟨E', st', p1, p2, p3⟩ := ih (i + 1) (i :: E) sf hr (fun _ _ => .inr trivial) hph g3
         · refine ⟨E', st', p1, ⟨fun j hj => p2.sub j (by simp [hj]), fun j oj hoj hlj hje => by
             have := p2.quiet j oj hoj hlj hje
             simp at this
             rcases this with rfl | this
             · rw [ho] at hoj; injection hoj with hoj; subst hoj; rw [hloud] at hlj; cases hlj
             · exact this, ?_, ?_, ?_, ?_, ?_⟩, p3⟩
           · intro t ht
             rw [p2.same t (fun j oj hoj hdst hje => by simp [ht j oj hoj hdst hje])]
             refine hlook t (fun hdst => hmem (ht i o ho hdst (p2.sub i (by simp))))
           · rw [p2.heap, g2.heap]; cases o.mi.dst <;> rfl
           · rw [p2.next, g2.next]; cases o.mi.dst <;> rfl
           · rw [p2.defers, g2.defers]; cases o.mi.dst <;> rfl
           · rw [p2.base, g2.base]; cases o.mi.dst <;> rfl
       · rename_i hall
         refine ih (i + 1) E st hr (fun _ _ => .inr trivial) ⟨?_, ?_⟩ h
         · intro j oj hj hoj hlj hje hwj
           by_cases hji : j = i
           · subst hji; exact (hmem hje).elim
           · exact hp.op j oj (by omega) hoj hlj hje hwj
         · intro j oj hj hoj hlj hdj
           by_cases hji : j = i
           · subst hji; rw [ho] at hoj; injection hoj with hoj; subst hoj
             rw [allMem_iff.2 hdj] at hall; cases hall
           · exact hp.sat j oj (by omega) hoj hlj hdj
end Uw
namespace Uw
open Go Go.RowKit
variable [Glob]
theorem mkDraw_get : ∀ (ops : List Oper) (mi : List MI), mi.length = ops.length → (mkDraw ops mi).length = ops.length ∧ ∀ (i : Nat) (o : DOp), (mkDraw ops mi)[i]? = some o → ∃ oi, ops[i]? = some oi ∧ mi[i]? = some o.mi ∧ o.dep = depsOf oi ∧ o.loud = !quietOp o.mi.op
 | [], [], _ => ⟨rfl, fun i o h => by simp [mkDraw] at h⟩
 | [], _ :: _, h => by simp at h
 | _ :: _, [], h => by simp at h
 | x :: ops, y :: mi, h => by
   obtain ⟨h1, h2⟩ := mkDraw_get ops mi (by simpa using h)
   refine ⟨by simp [mkDraw, h1], fun i o ho => ?_⟩
   cases i with
   | zero => simp [mkDraw] at ho; subst ho; exact ⟨x, rfl, rfl, rfl, rfl⟩
   | succ i => simp [mkDraw] at ho; simpa using h2 i o ho
theorem mem_depsOf {o : Oper} {j : Nat} : j ∈ depsOf o ↔ ∃ e ∈ o.after, Region.binds .any e = true ∧ e.on = j := by
 simp only [depsOf, List.mem_map, List.mem_filter, Array.mem_toList_iff]
 constructor
 · rintro ⟨e, ⟨h1, h2⟩, h3⟩; exact ⟨e, h1, h2, h3⟩
 · rintro ⟨e, h1, h2, h3⟩; exact ⟨e, ⟨h1, h2⟩, h3⟩
theorem WT_bothL {P : Program} {Q : MExit → St → Prop} : ∀ {l : List Tree}, WT P Q (bothL l) → l ≠ [] ∧ ∀ t ∈ l, WT P Q t
 | [], h => h.elim
 | [t], h => ⟨by simp, fun u hu => by simp at hu; subst hu; exact h⟩
 | t :: t' :: r, h => by
   obtain ⟨h1, h2⟩ := h
   obtain ⟨_, h3⟩ := WT_bothL h2
   refine ⟨by simp, fun u hu => ?_⟩
   rw [List.mem_cons] at hu
   rcases hu with rfl | hu
   · exact h1
   · exact h3 u hu
theorem mem_loudT {E D : List Nat} {f : Nat → DOp → Tree} : ∀ {l : List DOp} {k : Nat} {T : Tree}, T ∈ loudT E D l k f ↔ ∃ i o, l[i]? = some o ∧ o.loud = true ∧ memN D (k + i) = false ∧ allMem o.dep E D = true ∧ T = f (k + i) o
 | [], k, T => by simp [loudT]
 | x :: l, k, T => by
   have ih := @mem_loudT E D f l (k + 1) T
   have shift : (∃ i o, l[i]? = some o ∧ o.loud = true ∧ memN D (k + 1 + i) = false ∧ allMem o.dep E D = true ∧ T = f (k + 1 + i) o) → ∃ i o, (x :: l)[i]? = some o ∧ o.loud = true ∧ memN D (k + i) = false ∧ allMem o.dep E D = true ∧ T = f (k + i) o := by
     rintro ⟨i, o, h1, h2, h3, h4, h5⟩
     exact ⟨i + 1, o, by simpa using h1, h2, by rw [show k + (i + 1) = k + 1 + i by omega]; exact h3, h4, by rw [show k + (i + 1) = k + 1 + i by omega]; exact h5⟩
   rw [loudT]
   constructor
   · intro h
     split at h
     · rename_i hb
       simp only [Bool.and_eq_true, Bool.not_eq_true'] at hb
       rw [List.mem_cons] at h
       rcases h with rfl | h
       · exact ⟨0, x, rfl, hb.1.1, by simpa using hb.1.2, hb.2, rfl⟩
       · exact shift (ih.1 h)
     · exact shift (ih.1 h)
   · rintro ⟨i, o, h1, h2, h3, h4, h5⟩
     cases i with
     | zero =>
       simp at h1; subst h1
       simp only [Nat.add_zero] at h3 h5
       rw [h2, h3, h4]
       simp [h5]
     | succ i =>
       have : T ∈ loudT E D l (k + 1) f := ih.2 ⟨i, o, by simpa using h1, h2, by rw [show k + 1 + i = k + (i + 1) by omega]; exact h3, h4, by rw [show k + 1 + i = k + (i + 1) by omega]; exact h5⟩
       split
       · exact List.mem_cons_of_mem _ this
       · exact this
theorem noLoud_ok {D : List Nat} : ∀ {l : List DOp} {k : Nat}, noLoud D l k = true → ∀ (i : Nat) (o : DOp), l[i]? = some o → o.loud = true → k + i ∈ D
 | [], k, _, i, o, h, _ => by simp at h
 | x :: l, k, hn, i, o, h, hl => by
   rw [noLoud, Bool.and_eq_true] at hn
   cases i with
   | zero =>
     simp at h; subst h
     rw [hl] at hn
     simpa using memN_iff.1 (by simpa using hn.1)
   | succ i =>
     have := noLoud_ok hn.2 i o (by simpa using h) hl
     rwa [show k + 1 + i = k + (i + 1) by omega] at this
theorem keepR_look {all : List DOp} : ∀ {r : Regs} {t : Nat} {v : V}, look (keepR all r) t = some v → look r t = some v ∧ ∀ (i : Nat) (o : DOp), all[i]? = some o → o.mi.dst ≠ some t
 | [], t, v, h => by simp [keepR, look] at h
 | (t0, u) :: r, t, v, h => by
   rw [keepR] at h
   split at h
   · rename_i hb
     obtain ⟨h1, h2⟩ := keepR_look h
     refine ⟨?_, h2⟩
     rw [look_cons]
     by_cases ht : t0 = t
     · subst ht
       exfalso
       obtain ⟨o, ho, hd⟩ := List.any_eq_true.1 hb
       obtain ⟨i, hi⟩ := List.getElem?_of_mem ho
       unfold dstIs at hd
       split at hd
       · rename_i d hdst
         have := Nat.eq_of_beq_eq_true hd
         subst this
         exact h2 i o hi hdst
       · cases hd
     · rw [if_neg ht]; exact h1
   · rename_i hb
     rw [look_cons] at h
     by_cases ht : t0 = t
     · subst ht
       rw [if_pos rfl] at h
       refine ⟨by rw [look_cons, if_pos rfl]; exact h, fun i o ho hdst => ?_⟩
       have : all.any (dstIs t0) = true := by
         refine List.any_eq_true.2 ⟨o, List.mem_of_getElem? ho, ?_⟩
         unfold dstIs; rw [hdst]; exact Nat.beq_refl _
       rw [hb] at this; cases this
     · rw [if_neg ht] at h
       obtain ⟨h1, h2⟩ := keepR_look h
       exact ⟨by rw [look_cons, if_neg ht]; exact h1, h2⟩
noncomputable def restT (all : List DOp) (r0 : Regs) (m : Nat) (E D : List Nat) (st : St) (q : MExit → St → Tree) : Tree :=
 match m with
 | 0 => match noLoud D all 0 with
   | true => q .normal st
   | false => .fail
 | m + 1 => bothL (loudT E D all 0 fun i o => execOps [o.mi] none st fun e st'' => match e with
   | .normal => drawT all r0 m E (i :: D) st'' q
   | e => q e { st'' with regs := r0 })
theorem drawT_eq (all : List DOp) (r0 : Regs) (m : Nat) (E D : List Nat) (st : St) (q : MExit → St → Tree) : drawT all r0 m E D st q = phaseT all D all 0 E st fun E' st' => restT all r0 m E' D st' q := by
 cases m <;> rfl
structure Act2 (all : List DOp) (st0 : St) (listed : Array Bool) (E D : List Nat) (S s : St) : Prop where
 none : ∀ t, (∀ (j : Nat) (o : DOp), all[j]? = some o → listed.getD j false = true → o.mi.dst ≠ some t) → look s.regs t = look st0.regs t
 one : ∀ (j : Nat) (o : DOp) (t : Nat), all[j]? = some o → listed.getD j false = true → o.mi.dst = some t → look s.regs t = look S.regs t
 other : ∀ t, (∀ (j : Nat) (o : DOp), all[j]? = some o → o.mi.dst ≠ some t) → look S.regs t = look st0.regs t
 qE : ∀ (j : Nat) (o : DOp), all[j]? = some o → o.loud = false → listed.getD j false = true → j ∈ E
 lD : ∀ (j : Nat) (o : DOp), all[j]? = some o → o.loud = true → (listed.getD j false = true ↔ j ∈ D)
 Dl : ∀ j ∈ D, ∃ o : DOp, all[j]? = some o ∧ o.loud = true
 heap : s.heap = S.heap
 next : s.next = S.next
 defers : s.defers = S.defers
 base : s.base = S.base
section
variable {P : Program} {n : Nat} {pol : Pol} {ops : List Oper} {mi : List MI} {Q : MExit → St → Prop} {q : MExit → St → Tree} {w0 : World} {gs : Fr} {st0 : St} {c0 : Cx}
theorem drawn2_any (hc : compOps P n pol ops ops = some mi) (hd : DrawOK (mkDraw ops mi)) :
   ∀ (d m : Nat) (listed : Array Bool) (E D : List Nat) (S s : St) (c : Cx) (a : Act), left listed ops.length = d → HeadInv .any ops.toArray ops.length listed → PhOK P (mkDraw ops mi) D E S (mkDraw ops mi).length → Act2 (mkDraw ops mi) st0 listed E D S s → c.B = c0.B → c.J0 = c0.J0 → Rel c w0 n gs s a →
     WT P Q (restT (mkDraw ops mi) (keepR (mkDraw ops mi) st0.regs) m E D S q) → wpAny P .any ops.toArray (Came P Q q c0 w0 n gs) d listed a c.w := by
 obtain ⟨hlen, hget⟩ := compOps_get hc
 obtain ⟨hall, hmk⟩ := mkDraw_get ops mi hlen
 generalize hA : mkDraw ops mi = all at hd hall hmk
 have hex : ∀ i, i < ops.length → ∃ o, all[i]? = some o := fun i hi => ⟨all[i]'(by omega), List.getElem?_eq_getElem (by omega)⟩
 have hquiet : ∀ (i : Nat) (o : DOp), all[i]? = some o → o.loud = false → quietOp o.mi.op = true := by
   intro i o ho hl
   obtain ⟨oi, h1, h2, h3, h4⟩ := hmk i o ho
   rw [hl] at h4; simpa using h4.symm
 intro d
 induction d with
 | zero =>
   intro m listed E D S s c a hl hinv hph hact hB hJ r hW
   have hlist := left_zero hl
   have hready : Region.ready .any ops.toArray listed = [] := by
     rw [List.eq_nil_iff_forall_not_mem]
     intro i hi
     obtain ⟨h1, oi, hoi, _⟩ := mem_ready.1 hi
     have hilt : i < ops.length := by simpa using (Array.getElem?_eq_some_iff.1 hoi).1
     have h2 := hlist i hilt
     rw [getD_both h1] at h2; cases h2
   refine ⟨hready, ?_⟩
   cases m with
   | zero =>
     simp only [restT] at hW
     split at hW
     · have hsame : SameSt s S := by
         refine ⟨fun t => ?_, hact.heap.symm, hact.next.symm, hact.defers.symm, hact.base.symm⟩
         by_cases hdst : ∃ (j : Nat) (o : DOp), all[j]? = some o ∧ o.mi.dst = some t
         · obtain ⟨j, o, ho, ht⟩ := hdst
           have hj : j < ops.length := by
             by_cases hh : j < all.length
             · omega
             · rw [List.getElem?_eq_none (by omega)] at ho; cases ho
           exact (hact.one j o t ho (hlist j hj) ht).symm
         · rw [hact.none t (fun j o ho _ ht => hdst ⟨j, o, ho, ht⟩), hact.other t (fun j o ho ht => hdst ⟨j, o, ho, ht⟩)]
       exact ⟨c, .normal, S, hB, hJ, rfl, trivial, r.same hsame, hW⟩
     · exact hW.elim
   | succ m =>
     exfalso
     simp only [restT] at hW
     obtain ⟨hne, _⟩ := WT_bothL hW
     apply hne
     rw [List.eq_nil_iff_forall_not_mem]
     intro T hT
     obtain ⟨i, o, ho, hlo, hnd, _⟩ := mem_loudT.1 hT
     rw [Nat.zero_add] at hnd
     have hi : i < ops.length := by
       by_cases hh : i < all.length
       · omega
       · rw [List.getElem?_eq_none (by omega)] at ho; cases ho
     have := memN_iff.2 ((hact.lD i o ho hlo).1 (hlist i hi))
     rw [hnd] at this; cases this
 | succ d ih =>
   intro m listed E D S s c a hl hinv hph hact hB hJ r hW
   obtain ⟨i0, hi0, hu0, hlo0⟩ := exists_least_unlisted (listed := listed) (h := ops.length) (by omega)
   have hsz := hinv.size
   have hszl : listed.size = ops.length := by simpa using hsz
   have hready : i0 ∈ Region.ready .any ops.toArray listed := by
     rw [mem_ready]
     refine ⟨getD_in (by omega) hu0, ?_⟩
     obtain ⟨o0, ho0⟩ := hex i0 hi0
     obtain ⟨oi, h1, h2, h3, h4⟩ := hmk i0 o0 ho0
     refine ⟨oi, by simpa using h1, fun e he hb => ?_⟩
     exact hlo0 _ (hd.acyc i0 o0 ho0 e.on (by rw [h3]; exact mem_depsOf.2 ⟨e, he, hb, rfl⟩))
   refine ⟨fun h0 => (by rw [h0] at hready; cases hready), ?_⟩
   intro i hi
   obtain ⟨hui, oi, hoi, hwait⟩ := mem_ready.1 hi
   have hui' := getD_both hui
   have hoi' : ops[i]? = some oi := by simpa using hoi
   have hilt : i < ops.length := by
     by_cases hh : i < ops.length
     · exact hh
     · rw [List.getElem?_eq_none (by omega)] at hoi'; cases hoi'
   obtain ⟨o, ho⟩ := hex i hilt
   obtain ⟨oi2, h1, hmi, hdep, hloud⟩ := hmk i o ho
   have : oi2 = oi := Option.some.inj (h1.symm.trans hoi')
   subst this
   obtain ⟨x, hx, hg, hop, hdst, hdn⟩ := hget i oi2 hoi'
   have hxo : x = o.mi := Option.some.inj (hx.symm.trans hmi)
   subst hxo
   have hdl : ∀ j ∈ o.dep, listed.getD j false = true := by
     intro j hj
     rw [hdep] at hj
     obtain ⟨e, he, hb, rfl⟩ := mem_depsOf.1 hj
     exact hwait e he hb
   have hdepED : ∀ j ∈ o.dep, j ∈ E ∨ j ∈ D := by
     intro j hj
     have hji := hd.acyc i o ho j hj
     obtain ⟨oj, hoj⟩ := hex j (by omega)
     cases hlj : oj.loud with
     | true => exact .inr ((hact.lD j oj hoj hlj).1 (hdl j hj))
     | false => exact .inl (hact.qE j oj hoj hlj (hdl j hj))
   have hagree : ∀ t ∈ o.mi.tmps, look s.regs t = look S.regs t := by
     intro t ht
     by_cases hdst : ∃ (j : Nat) (oj : DOp), all[j]? = some oj ∧ oj.mi.dst = some t
     · obtain ⟨j, oj, hoj, htj⟩ := hdst
       by_cases hji : j = i
       · subst hji
         rw [ho] at hoj; injection hoj with hoj; subst hoj
         exact absurd ht (hd.self j o ho t htj)
       · have := (hd.sees i j o oj (Ne.symm hji) ho hoj t htj).2 ht
         exact hact.one j oj t hoj (hdl j this.2) htj
     · rw [hact.none t (fun j oj hoj _ htj => hdst ⟨j, oj, hoj, htj⟩), hact.other t (fun j oj hoj htj => hdst ⟨j, oj, hoj, htj⟩)]
   have hleft : left (listed.setIfInBounds i true) ops.length = d := by
     have := left_set (listed := listed) (i := i) (by omega) hui' (h := ops.length) hilt
     omega
   have hinv' := hinv.set hi hilt
   have hii : (listed.setIfInBounds i true).getD i false = true := by simp [show i < listed.size by omega]
   have hlisted : ∀ j, (listed.setIfInBounds i true).getD j false = true → j = i ∨ listed.getD j false = true := by
     intro j hj
     by_cases hji : j = i
     · exact .inl hji
     · rw [getD_set_ne false (Ne.symm hji)] at hj; exact .inr hj
   cases hlo : o.loud with
   | false =>
     have hiE := hph.sat i o (by omega) ho hlo hdepED
     have hwd : waited all D i = false := by
       cases hw : waited all D i with
       | false => rfl
       | true =>
         obtain ⟨nn, hn, on, hon, hin⟩ := waited_iff.1 hw
         obtain ⟨on', hon', hlon⟩ := hact.Dl nn hn
         have : on' = on := Option.some.inj (hon'.symm.trans hon)
         subst this
         have hnl := (hact.lD nn on' hon hlon).2 hn
         obtain ⟨oo, k1, k2, k3, k4⟩ := hmk nn on' hon
         rw [k3] at hin
         obtain ⟨e, he, hb, heq⟩ := mem_depsOf.1 hin
         have := hinv.closed nn oo (by simpa using k1) hnl e he hb
         rw [heq, hui'] at this; cases this
     obtain ⟨v, hok, hvS⟩ := hph.op i o (by omega) ho hlo hiE hwd
     have hact' : ∀ u, (∀ dd, o.mi.dst = some dd → look S.regs dd = some u) → Act2 all st0 (listed.setIfInBounds i true) E D S (put o.mi.dst u s) := by
       intro u hu
       have hput : (put o.mi.dst u s).heap = s.heap ∧ (put o.mi.dst u s).next = s.next ∧ (put o.mi.dst u s).defers = s.defers ∧ (put o.mi.dst u s).base = s.base := by
         cases o.mi.dst <;> simp [Uw.put]
       refine ⟨?_, ?_, hact.other, ?_, ?_, hact.Dl, by rw [hput.1, hact.heap], by rw [hput.2.1, hact.next], by rw [hput.2.2.1, hact.defers], by rw [hput.2.2.2, hact.base]⟩
       · intro t ht
         rw [look_put, if_neg (ht i o ho hii)]
         exact hact.none t (fun j oj hoj hlj => ht j oj hoj (getD_set_true hlj))
       · intro j oj t hoj hlj htj
         by_cases hji : j = i
         · subst hji
           rw [ho] at hoj; injection hoj with hoj; subst hoj
           rw [look_put, if_pos htj, hu t htj]
         · rw [look_put, if_neg (hd.sees i j o oj (Ne.symm hji) ho hoj t htj).1]
           exact hact.one j oj t hoj ((hlisted j hlj).resolve_left hji) htj
       · intro j oj hoj hlj hl'
         by_cases hji : j = i
         · subst hji; exact hiE
         · exact hact.qE j oj hoj hlj ((hlisted j hl').resolve_left hji)
       · intro j oj hoj hlj
         have hji : j ≠ i := by rintro rfl; rw [ho] at hoj; injection hoj with hoj; subst hoj; rw [hlo] at hlj; cases hlj
         rw [getD_set_ne false (Ne.symm hji)]
         exact hact.lD j oj hoj hlj
     unfold wpOp
     simp only [hoi]
     rcases hok s hagree hact.heap with ⟨hgr, hstep⟩ | ⟨hgr, rfl⟩
     · rw [wanted_gRes r hg hgr]
       simp only [if_true]
       left
       have hW2 := hstep (fun _ z => z = put (some 0) v s) (fun v' s' => Tree.done .normal (put (some 0) v' s')) (fun _ _ => .fail) rfl
       refine step_ok (xx := fun _ _ => Tree.fail) r hop ?_ (fun c' st' d ch _ _ _ _ _ hq => False.elim hq) hW2
       intro c' s' a' v' gv hB' hJ' htm r' hregs hv' hq
       simp only [WT, Uw.put, St.mk.injEq, List.cons.injEq, Prod.mk.injEq, true_and] at hq
       obtain ⟨⟨rfl, e1⟩, e2, e3, e4, e5⟩ := hq
       have hss : s' = s := by cases s'; cases s; simp_all
       subst hss
       refine ih m _ E D S (put o.mi.dst v' s') c' _ hleft hinv' hph (hact' v' hvS) (hB'.trans hB) (hJ'.trans hJ) ?_ hW
       rw [hdst]
       exact r'.put hdn hv'
     · rw [wanted_gRes r hg hgr]
       simp only [Bool.false_eq_true, if_false]
       refine ih m _ E D S (put o.mi.dst (.tuple []) s) c _ hleft hinv' hph (hact' (.tuple []) hvS) hB hJ ?_ hW
       rw [hdst]
       exact r.put hdn (by simp [RelV, RelVL, undef])
   | true =>
     have hnG := hd.noG i o ho hlo
     have hiD : i ∉ D := fun hh => by
       have := (hact.lD i o ho hlo).2 hh
       rw [hui'] at this; cases this
     cases m with
     | zero =>
       exfalso
       simp only [restT] at hW
       split at hW
       · rename_i hn
         have := noLoud_ok hn i o ho hlo
         rw [Nat.zero_add] at this
         exact hiD this
       · exact hW
     | succ m =>
       simp only [restT] at hW
       have hmem := (WT_bothL hW).2 _ (mem_loudT.2 ⟨i, o, ho, hlo, by
         rw [Nat.zero_add]
         cases hh : memN D i with
         | false => rfl
         | true => exact (hiD (memN_iff.1 hh)).elim, allMem_iff.2 hdepED, rfl⟩)
       rw [Nat.zero_add] at hmem
       simp only [execOps_nil, execOps_cons, onSt_eq, hnG] at hmem
       have hagree2 : ∀ t ∈ o.mi.op.tmps, look s.regs t = look S.regs t := fun t ht => hagree t (by simp [MI.tmps, ht])
       rw [← step_frame hagree2 hact.heap hact.next hact.defers hact.base] at hmem
       unfold wpOp
       simp only [hoi]
       have hwant : Region.wanted oi2 (yielded ops.toArray a.tmps) = true := wanted_gRes r hg (by simp [gRes, hnG])
       rw [hwant]
       simp only [if_true]
       left
       refine step_ok r hop ?_ ?_ hmem
       · intro c' s' a' v gv hB' hJ' htm r' hregs hv hq
         simp only [] at hq
         rw [drawT_eq] at hq
         obtain ⟨E', S', p1, p2, p3⟩ := phase_ok hd hquiet all 0 E (put o.mi.dst v (S.withH s')) rfl (fun _ _ => .inr trivial) ⟨fun j _ hj => by omega, fun j _ hj => by omega⟩ hq
         have hputS : ∀ t, look (put o.mi.dst v (S.withH s')).regs t = if o.mi.dst = some t then some v else look S.regs t := fun t => by rw [look_put]; rfl
         have hold : ∀ (j : Nat) (oj : DOp) (t : Nat), all[j]? = some oj → (listed.setIfInBounds i true).getD j false = true → oj.mi.dst = some t → look S'.regs t = look (put o.mi.dst v (S.withH s')).regs t := by
           intro j oj t hoj hlj htj
           refine p2.same t (fun j' oj' hoj' htj' hjE => ?_)
           have hjj : j' = j := by
             by_cases hjj : j' = j
             · exact hjj
             · exact ((hd.sees j' j oj' oj hjj hoj' hoj t htj).1 htj').elim
           subst hjj
           rw [hoj] at hoj'; injection hoj' with hoj'; subst hoj'
           by_cases hji : j' = i
           · subst hji
             exact p2.quiet j' oj hoj (by rw [ho] at hoj; injection hoj with hoj; subst hoj; exact hlo) hjE
           · cases hlj' : oj.loud with
             | false => exact hact.qE j' oj hoj hlj' ((hlisted j' hlj).resolve_left hji)
             | true => exact p2.quiet j' oj hoj hlj' hjE
         have hput : (put o.mi.dst v s').heap = s'.heap ∧ (put o.mi.dst v s').next = s'.next ∧ (put o.mi.dst v s').defers = s'.defers ∧ (put o.mi.dst v s').base = s'.base := by
           cases o.mi.dst <;> simp [Uw.put]
         have hputW : (put o.mi.dst v (S.withH s')).heap = s'.heap ∧ (put o.mi.dst v (S.withH s')).next = s'.next ∧ (put o.mi.dst v (S.withH s')).defers = s'.defers ∧ (put o.mi.dst v (S.withH s')).base = s'.base := by
           cases o.mi.dst <;> simp [Uw.put, St.withH]
         have hact' : Act2 all st0 (listed.setIfInBounds i true) E' (i :: D) S' (put o.mi.dst v s') := by
           refine ⟨?_, ?_, ?_, ?_, ?_, ?_, by rw [hput.1, p2.heap, hputW.1], by rw [hput.2.1, p2.next, hputW.2.1], by rw [hput.2.2.1, p2.defers, hputW.2.2.1], by rw [hput.2.2.2, p2.base, hputW.2.2.2]⟩
           · intro t ht
             rw [look_put, if_neg (ht i o ho hii), hregs]
             exact hact.none t (fun j oj hoj hlj => ht j oj hoj (getD_set_true hlj))
           · intro j oj t hoj hlj htj
             rw [hold j oj t hoj hlj htj, hputS, look_put, hregs]
             by_cases hji : j = i
             · subst hji
               rw [ho] at hoj; injection hoj with hoj; subst hoj
               rw [if_pos htj, if_pos htj]
             · have hne := (hd.sees i j o oj (Ne.symm hji) ho hoj t htj).1
               rw [if_neg hne, if_neg hne]
               exact hact.one j oj t hoj ((hlisted j hlj).resolve_left hji) htj
           · intro t ht
             rw [p2.same t (fun j oj hoj htj _ => (ht j oj hoj htj).elim), hputS, if_neg (ht i o ho)]
             exact hact.other t ht
           · intro j oj hoj hlj hl'
             have hji : j ≠ i := by rintro rfl; rw [ho] at hoj; injection hoj with hoj; subst hoj; rw [hlo] at hlj; cases hlj
             exact p2.sub j (hact.qE j oj hoj hlj ((hlisted j hl').resolve_left hji))
           · intro j oj hoj hlj
             by_cases hji : j = i
             · subst hji; simp [hii]
             · rw [getD_set_ne false (Ne.symm hji), hact.lD j oj hoj hlj]
               simp [hji]
           · intro j hj
             simp at hj
             rcases hj with rfl | hj
             · exact ⟨o, ho, hlo⟩
             · exact hact.Dl j hj
         refine ih m _ E' (i :: D) S' (put o.mi.dst v s') c' _ hleft hinv' p1 hact' (hB'.trans hB) (hJ'.trans hJ) ?_ p3
         rw [hdst]
         exact r'.put hdn hv
       · intro c' s' dd ch hB' hJ' r' hregs hex' hq
         simp only [] at hq
         refine ⟨c', .panic dd, _, hB'.trans hB, hJ'.trans hJ, rfl, hex', ?_, hq⟩
         refine ⟨r'.heap, r'.hrel, r'.size, ?_, r'.frames, r'.fbase, r'.base, r'.defers⟩
         intro t v hv
         obtain ⟨k1, k2⟩ := keepR_look hv
         rw [← hact.none t (fun j oj hoj _ => k2 j oj hoj)] at k1
         exact r'.regs t v (by rw [hregs]; exact k1)
theorem drawn2_ok {id fuel : Nat} {c : Cx} {a : Act} (hm : P.follows .mixedOrders = true) (hc : compOps P n pol ops ops = some mi) (hd : drawB2 (mkDraw ops mi) = true) (r : Rel c w0 n gs st0 a)
   (hw : WT P Q (drawT (mkDraw ops mi) (keepR (mkDraw ops mi) st0.regs) fuel [] [] st0 q)) : (Code.region id ops.toArray true).wp P (Came P Q q c w0 n gs) a c.w := by
 have hd := drawB2_ok hd
 obtain ⟨hlen, hget⟩ := compOps_get hc
 obtain ⟨hall, hmk⟩ := mkDraw_get ops mi hlen
 have hquiet : ∀ (i : Nat) (o : DOp), (mkDraw ops mi)[i]? = some o → o.loud = false → quietOp o.mi.op = true := by
   intro i o ho hl
   obtain ⟨oi, h1, h2, h3, h4⟩ := hmk i o ho
   rw [hl] at h4; simpa using h4.symm
 refine wp_region_any hm ?_
 have hbel : Below c.w.heap.size c.w { c.w with drawn := c.w.drawn + 1 } := ⟨rfl, rfl, rfl, Nat.le_refl _, fun _ _ => rfl⟩
 have r1 := r.grow hbel
 have hnone : ∀ j, (Array.replicate ops.toArray.size false).getD j false = false := fun j => getD_replicate_false _ j
 have hl : ∀ k, left (Array.replicate ops.toArray.size false) k = k := by
   intro k
   induction k with
   | zero => rfl
   | succ k ih => simp only [left, ih, hnone, Bool.false_eq_true, if_false]
 rw [drawT_eq] at hw
 obtain ⟨E', S', p1, p2, p3⟩ := phase_ok hd hquiet (mkDraw ops mi) 0 [] st0 rfl (fun _ _ => .inr trivial) ⟨fun j _ hj => by omega, fun j _ hj => by omega⟩ hw
 have hact : Act2 (mkDraw ops mi) st0 (Array.replicate ops.toArray.size false) E' [] S' st0 :=
   ⟨fun _ _ => rfl, fun j o t _ hl' => (by rw [hnone] at hl'; cases hl'), fun t ht => p2.same t (fun j o ho hdst _ => (ht j o ho hdst).elim), fun j o _ _ hl' => (by rw [hnone] at hl'; cases hl'), fun j o _ _ => ⟨fun hl' => (by rw [hnone] at hl'; cases hl'), fun h => (by cases h)⟩, fun j hj => (by cases hj), p2.heap.symm, p2.next.symm, p2.defers.symm, p2.base.symm⟩
 have := drawn2_any (c0 := c) (gs := gs) (w0 := w0) (st0 := st0) hc hd ops.length fuel (Array.replicate ops.toArray.size false) E' [] S' st0 { c with w := { c.w with drawn := c.w.drawn + 1 } } a (hl _)
   ⟨by simp, fun j oj _ hl' => (by rw [hnone] at hl'; cases hl'), fun t _ ht => getD_in (by simpa using ht) (hnone t)⟩ p1 hact rfl rfl r1 p3
 rw [show ops.toArray.size = ops.length by simp]
 exact this
end
end Uw
