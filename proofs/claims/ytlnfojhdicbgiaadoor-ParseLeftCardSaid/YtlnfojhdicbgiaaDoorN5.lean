/- N5: Uz9 Uza Uzd Uzb Uzc (merged by merge2.py from the working texts). -/
import Derived.Test.YtlnfojhdicbgiaaDoorN4
set_option linter.unusedSimpArgs false
set_option linter.unnecessarySimpa false
set_option linter.unusedVariables false
set_option linter.unusedSectionVars false
namespace Uw
open Go Go.RowKit
variable [Glob]
def heapOf : Nat → List Blk → Heap
 | _, [] => []
 | i, b :: r => (i, b) :: heapOf (i + 1) r
def nameOf : List Nat → Nat → Nat → Nat
 | [], nx, i => nx + i
 | a :: r, nx, i => match i with
   | 0 => a
   | i + 1 => nameOf r nx i
def renH (ρ : Nat → Nat) : Heap → Heap
 | [] => []
 | (i, b) :: r => (ρ i, b.ren ρ) :: renH ρ r
def Res.ren (ρ : Nat → Nat) : Res → Res
 | .val v => .val (v.ren ρ)
 | .pan d => .pan d
theorem heapOf_look : ∀ (bs : List Blk) (j i : Nat), look (heapOf j bs) i = if j ≤ i then bs[i - j]? else none
 | [], j, i => by simp [heapOf, look]
 | b :: r, j, i => by
   rw [heapOf, look_cons]
   by_cases h : j = i
   · subst h; simp
   · rw [if_neg h, heapOf_look r (j + 1) i]
     by_cases h2 : j ≤ i
     · rw [if_pos (by omega), if_pos h2, show i - j = (i - (j + 1)) + 1 by omega, List.getElem?_cons_succ]
     · rw [if_neg (by omega), if_neg h2]
theorem heapOf_some (bs : List Blk) (i : Nat) (h : i < bs.length) : ∃ b, look (heapOf 0 bs) i = some b := ⟨bs[i], by rw [heapOf_look]; simp [h]⟩
theorem heapOf_lt (bs : List Blk) (i : Nat) {b : Blk} (h : look (heapOf 0 bs) i = some b) : i < bs.length := by
 rw [heapOf_look] at h
 simp at h
 exact (List.getElem?_eq_some_iff.1 h).1
theorem name_lt : ∀ {ids : List Nat} {nx i : Nat}, i < ids.length → nameOf ids nx i ∈ ids
 | [], _, _, h => by simp at h
 | a :: r, nx, 0, _ => by simp [nameOf]
 | a :: r, nx, i + 1, h => by
   rw [nameOf]
   exact List.mem_cons_of_mem _ (name_lt (by simpa using h))
theorem name_ge : ∀ {ids : List Nat} {nx i : Nat}, ids.length ≤ i → nameOf ids nx i = nx + (i - ids.length)
 | [], _, _, _ => rfl
 | a :: r, nx, 0, h => by simp at h
 | a :: r, nx, i + 1, h => by
   simp only [List.length_cons] at h
   rw [nameOf, name_ge (by omega), List.length_cons]
   omega
theorem name_get : ∀ {ids : List Nat} {nx i : Nat} (h : i < ids.length), nameOf ids nx i = ids[i]
 | [], _, _, h => by simp at h
 | a :: r, nx, 0, _ => rfl
 | a :: r, nx, i + 1, h => by
   rw [nameOf, name_get (by simpa using h)]; rfl
def nodupN : List Nat → Bool
 | [] => true
 | a :: r => (r.all fun b => !(Nat.beq a b)) && nodupN r
theorem nodupN_ok : ∀ {l : List Nat}, nodupN l = true → l.Nodup
 | [], _ => List.nodup_nil
 | a :: r, h => by
   rw [nodupN, Bool.and_eq_true] at h
   refine List.nodup_cons.2 ⟨fun hm => ?_, nodupN_ok h.2⟩
   have := List.all_eq_true.1 h.1 a hm
   simp at this
theorem name_inj {ids : List Nat} {nx : Nat} (hl : ∀ a ∈ ids, a < nx) (hn : ids.Nodup) {i j : Nat} (h : nameOf ids nx i = nameOf ids nx j) : i = j := by
 rcases Nat.lt_or_ge i ids.length with h1 | h1 <;> rcases Nat.lt_or_ge j ids.length with h2 | h2
 · rw [name_get h1, name_get h2] at h
   rcases Nat.lt_trichotomy i j with hlt | he | hlt
   · exact absurd h (List.pairwise_iff_getElem.1 hn i j h1 h2 hlt)
   · exact he
   · exact absurd h.symm (List.pairwise_iff_getElem.1 hn j i h2 h1 hlt)
 · have := hl _ (name_lt (nx := nx) h1); rw [name_ge h2] at h; omega
 · have := hl _ (name_lt (nx := nx) h2); rw [name_ge h1] at h; omega
 · rw [name_ge h1, name_ge h2] at h; omega
theorem look_append : ∀ (a b : Heap) (j : Nat), look (a ++ b) j = match look a j with | some x => some x | none => look b j
 | [], b, j => rfl
 | (i, x) :: a, b, j => by
   rw [List.cons_append, look_cons, look_cons]
   by_cases h : i = j
   · rw [if_pos h, if_pos h]
   · rw [if_neg h, if_neg h]; exact look_append a b j
theorem look_renH {ρ : Nat → Nat} (hi : ∀ i j, ρ i = ρ j → i = j) : ∀ (h : Heap) (i : Nat), look (renH ρ h) (ρ i) = (look h i).map (Blk.ren ρ)
 | [], i => rfl
 | (k, b) :: r, i => by
   rw [renH, look_cons, look_cons]
   by_cases h : k = i
   · subst h; simp
   · rw [if_neg h, if_neg (fun e => h (hi _ _ e))]; exact look_renH hi r i
theorem look_renH_none {ρ : Nat → Nat} {j : Nat} (hj : ∀ i, ρ i ≠ j) : ∀ (h : Heap), look (renH ρ h) j = none
 | [] => rfl
 | (k, b) :: r => by rw [renH, look_cons, if_neg (hj k)]; exact look_renH_none hj r
def Shp : Blk → Blk → Prop
 | .var _, .var _ => True
 | .arr k xs, .arr k' xs' => k = k' ∧ xs = xs'
 | .mt k v xs, .mt k' v' xs' => k = k' ∧ v = v' ∧ xs = xs'
 | .iter _ _, .iter _ _ => True
 | .map _ _, .map _ _ => True
 | _, _ => False
theorem Shp.ren (ρ : Nat → Nat) (b : Blk) : Shp b (b.ren ρ) := by cases b <;> simp [Shp, Blk.ren]
section
variable {c c' : Cx} {ρ : Nat → Nat} (hk : Keeps c.w c'.w (Imm c) (Imm c')) (hl : ∀ id b, look c.heap id = some b → ∃ b', look c'.heap (ρ id) = some b' ∧ Shp b b' ∧ c'.pl (ρ id) = c.pl id)
include hk hl
mutual
theorem RelV.push : ∀ (x : V) (v : Value), RelV c x v → RelV c' (x.ren ρ) v
 | .d x, v, r => RelI.keep hk x v r
 | .ptr id off, v, r => by
   obtain ⟨⟨cs, h1⟩, h2⟩ := r
   obtain ⟨b', e1, e2, e3⟩ := hl id _ h1
   cases b' with
   | var cs' => exact ⟨⟨cs', e1⟩, by rw [e3]; exact h2⟩
   | _ => exact e2.elim
 | .ro cs off, v, r => by
   obtain ⟨b, o, h1, h2⟩ := r
   exact ⟨b, o, h1, RelC.keep hk _ _ _ h2⟩
 | .eptr id ver i cc, v, r => by
   simp only [RelV, V.ren] at r ⊢
   cases hb : look c.heap id with
   | none => rw [hb] at r; exact r.elim
   | some b =>
     obtain ⟨b', e1, e2, e3⟩ := hl id b hb
     rw [hb] at r
     rw [e1]
     cases b with
     | mt k v0 xs =>
       cases b' with
       | mt k' v' xs' =>
         obtain ⟨rfl, rfl, rfl⟩ := e2
         unfold RelEptr at *
         rw [e3]; exact r
       | _ => exact e2.elim
     | _ => exact r.elim
 | .ref id ver off len, v, r => by
   simp only [RelV, V.ren] at r ⊢
   cases hb : look c.heap id with
   | none => rw [hb] at r; exact r.elim
   | some b =>
     obtain ⟨b', e1, e2, e3⟩ := hl id b hb
     rw [hb] at r
     rw [e1]
     cases b with
     | mt k v0 xs =>
       cases b' with
       | mt k' v' xs' =>
         obtain ⟨rfl, rfl, rfl⟩ := e2
         unfold RelRef at *
         rw [e3]; exact r
       | _ => exact e2.elim
     | arr k xs =>
       cases b' with
       | arr k' xs' =>
         obtain ⟨rfl, rfl⟩ := e2
         unfold RelRef at *
         rw [e3]
         obtain ⟨r1, r2⟩ := r
         refine ⟨r1, ?_⟩
         rcases r2 with r2 | ⟨b, o, cap, r2, r3, r4, r5⟩
         · exact .inl r2
         · exact .inr ⟨b, o, cap, r2, r3, RelE.keep hk _ _ _ _ r4, r5⟩
       | _ => exact e2.elim
     | _ => exact r.elim
 | .agg cs, v, r => by
   obtain ⟨vs, h1, h2⟩ := r
   exact ⟨vs, h1, RelVL.push cs vs h2⟩
 | .func f fs cap, v, r => by
   obtain ⟨us, vs, h1, h2, h3⟩ := r
   exact ⟨us, vs, h1, RelVL.push fs us h2, RelVL.push cap vs h3⟩
 | .tuple ds, v, r => by
   obtain ⟨vs, h1, h2⟩ := r
   exact ⟨vs, h1, RelVL.push ds vs h2⟩
 | .hnd id, v, r => by
   simp only [RelV, V.ren] at r ⊢
   cases hb : look c.heap id with
   | none => rw [hb] at r; exact r.elim
   | some b =>
     obtain ⟨b', e1, e2, e3⟩ := hl id b hb
     rw [hb] at r
     rw [e1]
     cases b with
     | iter s p =>
       cases b' with
       | iter s' p' => unfold RelHnd at *; rw [e3]; exact r
       | _ => exact e2.elim
     | map kk es =>
       cases b' with
       | map kk' es' => unfold RelHnd at *; rw [e3]; exact r
       | _ => exact e2.elim
     | _ => exact r.elim
 | .undef, v, r => trivial
theorem RelVL.push : ∀ (xs : List V) (vs : List Value), RelVL c xs vs → RelVL c' (renL ρ xs) vs
 | [], vs, r => r
 | d :: ds, vs, r => by
   obtain ⟨v, vs', h1, h2, h3⟩ := r
   exact ⟨v, vs', h1, RelV.push d v h2, RelVL.push ds vs' h3⟩
end
theorem BlkRel.push (hw : c'.w = c.w) {id : Nat} {b : Blk} (hp : c'.pl (ρ id) = c.pl id) (r : BlkRel c id b) : BlkRel c' (ρ id) (b.ren ρ) := by
 cases b with
 | var cs => obtain ⟨vs, e, h1, h2⟩ := r; exact ⟨vs, e, by rw [hp, hw]; exact h1, RelVL.push hk hl _ _ h2⟩
 | arr k xs =>
   obtain ⟨h0, r⟩ := r
   refine ⟨by rw [hp]; exact h0, fun hc => ?_⟩
   rw [hp] at hc ⊢
   obtain ⟨vs, e, h1, h2, h4⟩ := r hc
   exact ⟨vs, e, by rw [hw]; exact h1, h2, RelE.keep hk _ _ _ _ h4⟩
 | mt k v xs =>
   obtain ⟨h0, h4, r⟩ := r
   refine ⟨by rw [hp]; exact h0, h4, fun hc => ?_⟩
   rw [hp] at hc ⊢
   obtain ⟨vs, e, h1, h2, h5, h6⟩ := r hc
   exact ⟨vs, e, by rw [hw]; exact h1, h2, RelL.keep hk _ _ h5, h6⟩
 | iter s p => simp only [Blk.ren, BlkRel] at r ⊢; rw [hp, hw]; exact r
 | map kk es => obtain ⟨ms, k, h1, h2⟩ := r; exact ⟨ms, k, by rw [hp, hw]; exact h1, RelM.keep hk _ _ h2⟩
end
theorem EvoK.trans {K : Nat} {a b c : Cx} (h1 : EvoK K a b) (h2 : EvoK K b c) : EvoK K a c := by
 refine ⟨fun x o hx => ?_, fun id x hid hx => ?_⟩
 · obtain ⟨e1, e2⟩ := h1.keeps x o hx
   obtain ⟨e3, e4⟩ := h2.keeps x o e1
   exact ⟨e3, e4.trans e2⟩
 · obtain ⟨y, e1, e2⟩ := h1.blks id x hid hx
   obtain ⟨z, e3, e4⟩ := h2.blks id y hid e1
   refine ⟨z, e3, ?_⟩
   cases x <;> cases y <;> simp only [BlkEvo] at e2 <;> cases z <;> simp only [BlkEvo] at e4 ⊢
   · exact e2.trans e4
   · obtain ⟨rfl, ⟨ys, rfl⟩, p1⟩ := e2
     obtain ⟨rfl, ⟨zs, rfl⟩, p2⟩ := e4
     refine ⟨rfl, ⟨ys ++ zs, by simp⟩, fun he => ?_⟩
     have hlen := congrArg List.length he
     simp only [List.length_append] at hlen
     obtain ⟨rfl, rfl⟩ : ys = [] ∧ zs = [] := ⟨List.eq_nil_of_length_eq_zero (by omega), List.eq_nil_of_length_eq_zero (by omega)⟩
     rw [p2 (by simp), p1 (by simp)]
   · obtain ⟨rfl, v1, p1⟩ := e2
     obtain ⟨rfl, v2, p2⟩ := e4
     refine ⟨rfl, Nat.le_trans v1 v2, fun he => ?_⟩
     obtain ⟨q1, q2⟩ := p1 (by omega)
     obtain ⟨q3, q4⟩ := p2 (by omega)
     exact ⟨q3.trans q1, q4.trans q2⟩
   · exact e2.trans e4
   · exact ⟨e2.1.trans e4.1, e2.2.trans e4.2⟩
theorem BlkEvo.refl (p : Pl) (b : Blk) : BlkEvo p p b b := by cases b <;> simp [BlkEvo]
theorem EvoK.refl (K : Nat) (c : Cx) : EvoK K c c := ⟨fun _ _ h => ⟨h, rfl⟩, fun _ b _ h => ⟨b, h, BlkEvo.refl _ _⟩⟩
theorem Ph.ren {p : Pl} {b : Blk} {ρ : Nat → Nat} : Ph p (b.ren ρ) ↔ Ph p b := by cases b <;> simp [Ph, Blk.ren]
theorem SatC.frame {P : Program} {f : FuncId} {vs0 : List V} {bs : List Blk} {R0 : Res → Heap → Nat → Prop} (hs : SatC P f vs0 (heapOf 0 bs) bs.length R0) (ids : List Nat) {H : Heap} {nx : Nat}
   (hm : ids.length ≤ bs.length) (hids : ∀ a ∈ ids, a < nx) (hnd : ids.Nodup)
   (hfit : ∀ i b', look (heapOf 0 bs) i = some b' → (∃ b, look H (nameOf ids nx i) = some b ∧ BSim (nameOf ids nx) H (heapOf 0 bs) b b') ∨ (look H (nameOf ids nx i) = none ∧ ZeroB b'))
   {vs : List V} (hvs : VWL (nameOf ids nx) H (heapOf 0 bs) vs vs0) :
   SatC P f vs H nx (fun r h n => ∃ r0 h0 n0, R0 r0 h0 n0 ∧ r = r0.ren (nameOf ids nx) ∧ h = renH (nameOf ids nx) h0 ++ H ∧ n = nx + (n0 - ids.length)) := by
 refine ⟨hs.1, ?_⟩
 rintro c w0 F gvs rfl hH hFK hFp hv
 have hinj : ∀ i j, nameOf ids nx i = nameOf ids nx j → i = j := fun i j h => name_inj hids hnd h
 generalize hρ : nameOf ids nx = ρ at *
 -- the part's context
 let J : JX := ⟨Imm c, fun b => c.Old b ∨ (b < c.w.heap.size ∧ ∀ i blk, look (heapOf 0 bs) i = some blk → Ph (c.pl (ρ i)) blk → (look c.heap (ρ i)).isSome = true → (c.pl (ρ i)).gb ≠ b)⟩
 let c1 : Cx := c.weakJ ρ (heapOf 0 bs) J
 have hz : ∀ i b', look c.heap (ρ i) = none → ZeroB b' → ¬ Ph (c1.pl i) b' := by
   intro i b' hn hz hp
   have : c1.pl i = ⟨0, 0⟩ := by simp [c1, Cx.weakJ, hn]
   rw [this] at hp
   cases b' <;> simp [ZeroB, Ph] at hz hp
 have hpl : ∀ i b, look c.heap (ρ i) = some b → c1.pl i = c.pl (ρ i) := fun i b h => by simp [c1, Cx.weakJ, h]
 have oldX : ∀ b, c.Old b → c1.Old b := fun b h => .inr (.inl h)
 have own1 : ∀ i b', look (heapOf 0 bs) i = some b' → Ph (c1.pl i) b' → ¬ c1.Old (c1.pl i).gb := by
   intro i b' hl hph
   rcases hfit i b' hl with ⟨b, hb, hsim⟩ | ⟨hn, hzz⟩
   · rw [hpl i b hb] at hph ⊢
     have hg := hH.ge (ρ i) b hb (hsim.ph hph)
     rintro (h | h | ⟨_, h⟩)
     · exact hg (.inl h)
     · exact hg h
     · exact h i b' hl hph (by rw [hb]; rfl) rfl
   · exact (hz i b' hn hzz hph).elim
 have imm1 : ∀ b o, Imm c b o → Imm c1 b o := by
   intro b o hi
   by_cases ho : c1.Old b
   · exact .inl ⟨ho, hi⟩
   · refine .inr ⟨ho, hH.imm_lt hi, fun i blk hl hph hg => ?_⟩
     rcases hi with ⟨h1, _⟩ | ⟨h1, h2, h3⟩
     · exact (ho (oldX b h1)).elim
     · rcases hfit i blk hl with ⟨b0, hb, hsim⟩ | ⟨hn, hzz⟩
       · have hph' : Ph (c1.pl i) blk := hph
         have hg' : (c1.pl i).gb = b := hg
         rw [hpl i b0 hb] at hph' hg'
         obtain ⟨k, xs, e, hlt⟩ := h3 (ρ i) b0 hb (hsim.ph hph') hg'
         subst e
         cases blk with
         | arr k' xs' => obtain ⟨rfl, rfl⟩ := hsim; exact ⟨k, xs, rfl, hlt⟩
         | _ => exact hsim.elim
       · exact (hz i blk hn hzz hph).elim
 have hk1 : Keeps c.w c.w (Imm c) (Imm c1) := fun b o h => ⟨imm1 b o h, rfl⟩
 have hH1 : HRel c1 c.w bs.length := by
   refine ⟨Below.refl _ _, ?_, ⟨hH.B_le, hH.size0.2.1, hH.glob.2.2⟩, ?_, fun i b h => heapOf_lt bs i h, own1, ?_⟩
   · rintro b (h | ⟨h, _⟩)
     · exact ⟨hH.old_lt h, rfl⟩
     · exact ⟨h, rfl⟩
   · intro i b' hl
     rcases hfit i b' hl with ⟨b, hb, hsim⟩ | ⟨hn, hzz⟩
     · exact BlkRel.weak hfit hk1 hb hsim (hH.blk (ρ i) b hb)
     · have hp : c1.pl i = ⟨0, 0⟩ := by simp [c1, Cx.weakJ, hn]
       cases b' with
       | arr k xs => simp [ZeroB] at hzz; subst hzz; exact ⟨by simp, fun hc => by rw [hp] at hc; simp at hc⟩
       | mt k v xs => simp [ZeroB] at hzz; obtain ⟨rfl, rfl⟩ := hzz; exact ⟨by simp, by simp, fun hc => by rw [hp] at hc; simp at hc⟩
       | _ => exact hzz.elim
   · intro i i' b1 b2 h1 h2 p1 p2 hg
     rcases hfit i b1 h1 with ⟨x1, hb1, s1⟩ | ⟨hn, hzz⟩
     · rcases hfit i' b2 h2 with ⟨x2, hb2, s2⟩ | ⟨hn, hzz⟩
       · rw [hpl i x1 hb1] at p1 hg
         rw [hpl i' x2 hb2] at p2 hg
         exact hinj _ _ (hH.inj (ρ i) (ρ i') x1 x2 hb1 hb2 (s1.ph p1) (s2.ph p2) hg)
       · exact (hz i' b2 hn hzz p2).elim
     · exact (hz i b1 hn hzz p1).elim
 let F1 : Fr := ⟨bs.length, fun c2 => EvoK bs.length c1 c2, fun a b h1 h2 => h2.trans h1⟩
 refine (hs.2 c1 c.w F1 gvs rfl hH1 (Nat.le_refl _) (EvoK.refl _ _) (RelVL.vw hfit hk1 hvs hv)).mono ?_
 rintro e w' ⟨c2, r0, n0, eB, eJ, rfl, hH2, hn0, hev, hend, hR⟩
 -- behind the call
 have oldE : ∀ b, c2.Old b ↔ c1.Old b := fun b => by unfold Cx.Old; rw [eB, eJ]
 have hJ2 : ∀ b o, c2.J0.J b o ↔ Imm c b o := fun b o => by rw [eJ]; exact Iff.rfl
 have hout : ∀ b, c1.Old b → c2.w.heap[b]? = c.w.heap[b]? := by
   intro b hb
   rcases hb with hb | hb
   · have hb' : b < c2.B := by rw [eB]; exact hb
     exact hH2.below.block b hb'
   · exact (hH2.other b (by rw [eJ]; exact hb)).2
 classical
 let pl' : Nat → Pl := fun j => if h : ∃ i, ρ i = j then c2.pl h.choose else c.pl j
 have hpl1 : ∀ i, pl' (ρ i) = c2.pl i := by
   intro i
   have h : ∃ i', ρ i' = ρ i := ⟨i, rfl⟩
   simp only [pl', dif_pos h]
   rw [hinj _ _ h.choose_spec]
 have hpl2 : ∀ j, (∀ i, ρ i ≠ j) → pl' j = c.pl j := fun j h => by simp only [pl', dif_neg (fun ⟨i, e⟩ => h i e : ¬ ∃ i, ρ i = j)]
 let c' : Cx := { B := c.B, J0 := c.J0, heap := renH ρ c2.heap ++ c.heap, pl := pl', w := c2.w }
 have there : ∀ i, i < ids.length → ∃ b, look c2.heap i = some b := by
   intro i hi
   obtain ⟨b, hb⟩ := heapOf_some bs i (by omega)
   obtain ⟨b', hb', _⟩ := hev.blks i b (by omega) hb
   exact ⟨b', hb'⟩
 -- the blocks behind the call: the part's, and those beside it
 have look1 : ∀ i b, look c2.heap i = some b → look c'.heap (ρ i) = some (b.ren ρ) := by
   intro i b h
   show look (renH ρ c2.heap ++ c.heap) (ρ i) = _
   rw [look_append, look_renH hinj, h]; rfl
 have look2 : ∀ j b, look c.heap j = some b → (∀ i, ρ i ≠ j) → look c'.heap j = some b := by
   intro j b h hj
   show look (renH ρ c2.heap ++ c.heap) j = _
   rw [look_append, look_renH_none hj]; exact h
 have split : ∀ j b, look c'.heap j = some b → (∃ i b0, j = ρ i ∧ look c2.heap i = some b0 ∧ b = b0.ren ρ) ∨ (look c.heap j = some b ∧ ∀ i, ρ i ≠ j) := by
   intro j b h
   have h : look (renH ρ c2.heap ++ c.heap) j = some b := h
   rw [look_append] at h
   by_cases hj : ∃ i, ρ i = j
   · obtain ⟨i, rfl⟩ := hj
     rw [look_renH hinj] at h
     cases hi : look c2.heap i with
     | some b0 =>
       rw [hi] at h
       simp only [Option.map_some, Option.some.injEq] at h
       exact .inl ⟨i, b0, rfl, hi, h.symm⟩
     | none =>
       rw [hi] at h
       simp only [Option.map_none] at h
       exfalso
       have hlt := hH.lt _ _ h
       rcases Nat.lt_or_ge i ids.length with h1 | h1
       · obtain ⟨b0, hb0⟩ := there i h1
         rw [hi] at hb0; cases hb0
       · rw [← hρ, name_ge h1] at hlt; omega
   · have hj' : ∀ i, ρ i ≠ j := fun i e => hj ⟨i, e⟩
     rw [look_renH_none hj'] at h
     exact .inr ⟨h, hj'⟩
 -- a block beside the part is old to it
 have beside : ∀ j b, look c.heap j = some b → (∀ i, ρ i ≠ j) → Ph (c.pl j) b → c1.Old (c.pl j).gb := by
   intro j b h hj hph
   refine .inr (.inr ⟨hH.gb_lt h hph, fun i blk hl hp hs hg => ?_⟩)
   rcases hfit i blk hl with ⟨b0, hb, hsim⟩ | ⟨hn, hzz⟩
   · exact hj i (hH.inj (ρ i) j b0 b hb h (hsim.ph hp) hph hg)
   · rw [hn] at hs; cases hs
 have imm2 : ∀ b o, Imm c2 b o → Imm c' b o := by
   intro b o hi
   rcases hi with ⟨h1, h2⟩ | ⟨h1, h2, h3⟩
   · rw [oldE] at h1
     rw [hJ2] at h2
     by_cases ho : c.Old b
     · rcases h2 with h2 | h2
       · exact .inl h2
       · exact (h2.1 ho).elim
     · rcases h2 with h2 | ⟨g1, g2, g3⟩
       · exact (ho h2.1).elim
       · refine .inr ⟨ho, Nat.lt_of_lt_of_le g2 hH2.below.size, fun j blk hl hph hg => ?_⟩
         rcases split j blk hl with ⟨i, b0, rfl, hl0, rfl⟩ | ⟨hl0, hj⟩
         · exfalso
           have hph' : Ph (pl' (ρ i)) (b0.ren ρ) := hph
           have hg' : (pl' (ρ i)).gb = b := hg
           rw [hpl1, Ph.ren] at hph'
           rw [hpl1] at hg'
           exact hH2.ge i b0 hl0 hph' (by rw [hg', oldE]; exact h1)
         · have hph' : Ph (pl' j) blk := hph
           have hg' : (pl' j).gb = b := hg
           rw [hpl2 j hj] at hph' hg'
           exact g3 j blk hl0 hph' hg'
   · have h1' : ¬ c1.Old b := fun h => h1 ((oldE b).2 h)
     refine .inr ⟨fun h => h1' (oldX b h), h2, fun j blk hl hph hg => ?_⟩
     have hph' : Ph (pl' j) blk := hph
     have hg' : (pl' j).gb = b := hg
     rcases split j blk hl with ⟨i, b0, rfl, hl0, rfl⟩ | ⟨hl0, hj⟩
     · rw [hpl1, Ph.ren] at hph'
       rw [hpl1] at hg'
       obtain ⟨k, xs, rfl, hlt⟩ := h3 i b0 hl0 hph' hg'
       exact ⟨k, xs, rfl, hlt⟩
     · rw [hpl2 j hj] at hph' hg'
       exact (h1' (hg' ▸ beside j blk hl0 hj hph')).elim
 have hk2 : Keeps c2.w c'.w (Imm c2) (Imm c') := fun b o h => ⟨imm2 b o h, rfl⟩
 have hlk : ∀ i b, look c2.heap i = some b → ∃ b', look c'.heap (ρ i) = some b' ∧ Shp b b' ∧ c'.pl (ρ i) = c2.pl i := fun i b h => ⟨_, look1 i b h, Shp.ren ρ b, hpl1 i⟩
 have evo : Evo c c' := by
   refine ⟨fun b o hi => ?_, fun j b hb => ?_⟩
   · obtain ⟨q1, q2⟩ := hev.keeps b o (imm1 b o hi)
     exact ⟨imm2 b o q1, q2⟩
   · by_cases hj : ∃ i, ρ i = j
     · obtain ⟨i, rfl⟩ := hj
       have hlt := hH.lt _ _ hb
       have hi : i < ids.length := by
         rcases Nat.lt_or_ge i ids.length with h1 | h1
         · exact h1
         · rw [← hρ, name_ge h1] at hlt; omega
       obtain ⟨b0, hb0⟩ := heapOf_some bs i (by omega)
       obtain ⟨b1, hb1, he⟩ := hev.blks i b0 (by omega) hb0
       refine ⟨b1.ren ρ, look1 i b1 hb1, ?_⟩
       show BlkEvo (c.pl (ρ i)) (pl' (ρ i)) b (b1.ren ρ)
       rw [hpl1]
       rcases hfit i b0 hb0 with ⟨x, hx, hsim⟩ | ⟨hn, _⟩
       · rw [hb] at hx; injection hx with hx; subst hx
         rw [hpl i b hb] at he
         cases b <;> cases b0 <;> simp only [BSim] at hsim <;> cases b1 <;> simp only [BlkEvo, Blk.ren] at he ⊢
         · exact he
         · obtain ⟨rfl, rfl⟩ := hsim; exact he
         · obtain ⟨rfl, rfl, rfl⟩ := hsim; exact he
         · exact he
         · obtain ⟨rfl, rfl⟩ := hsim; exact he
       · rw [hb] at hn; cases hn
     · have hj' : ∀ i, ρ i ≠ j := fun i e => hj ⟨i, e⟩
       refine ⟨b, look2 j b hb hj', ?_⟩
       show BlkEvo (c.pl j) (pl' j) b b
       rw [hpl2 j hj']; exact BlkEvo.refl _ _
 have hH' : HRel c' w0 (nx + (n0 - ids.length)) := by
   refine ⟨?_, ?_, hH.size0, ?_, ?_, ?_, ?_⟩
   · have := hH2.below
     rw [eB] at this
     exact hH.below.trans this
   · intro b hb
     exact ⟨(hH.other b hb).1, (hout b (oldX b (.inr hb))).trans (hH.other b hb).2⟩
   · intro j b hl
     rcases split j b hl with ⟨i, b0, rfl, hl0, rfl⟩ | ⟨hl0, hj⟩
     · exact BlkRel.push hk2 hlk rfl (hpl1 i) (hH2.blk i b0 hl0)
     · exact BlkRel.evo evo (hpl2 j hj) (fun hph => hout _ (beside j b hl0 hj hph)) (hH.blk j b hl0)
   · intro j b hl
     rcases split j b hl with ⟨i, b0, rfl, hl0, rfl⟩ | ⟨hl0, hj⟩
     · have := hH2.lt i b0 hl0
       rcases Nat.lt_or_ge i ids.length with h1 | h1
       · have := hids _ (name_lt (nx := nx) h1)
         rw [hρ] at this; omega
       · rw [← hρ, name_ge h1]; omega
     · have := hH.lt j b hl0; omega
   · intro j b hl hph
     have hph' : Ph (pl' j) b := hph
     show ¬ c'.Old (pl' j).gb
     rcases split j b hl with ⟨i, b0, rfl, hl0, rfl⟩ | ⟨hl0, hj⟩
     · rw [hpl1, Ph.ren] at hph'
       rw [hpl1]
       exact fun h => hH2.ge i b0 hl0 hph' ((oldE _).2 (oldX _ h))
     · rw [hpl2 j hj] at hph' ⊢
       exact hH.ge j b hl0 hph'
   · intro j j' b b' hl hl' hp hp' hg
     have hp : Ph (pl' j) b := hp
     have hp' : Ph (pl' j') b' := hp'
     have hg : (pl' j).gb = (pl' j').gb := hg
     rcases split j b hl with ⟨i, b0, rfl, hl0, rfl⟩ | ⟨hl0, hj⟩
     · rw [hpl1, Ph.ren] at hp
       rw [hpl1] at hg
       rcases split j' b' hl' with ⟨i', b0', rfl, hl0', rfl⟩ | ⟨hl0', hj'⟩
       · rw [hpl1, Ph.ren] at hp'
         rw [hpl1] at hg
         rw [hH2.inj i i' b0 b0' hl0 hl0' hp hp' hg]
       · rw [hpl2 j' hj'] at hp' hg
         exact (hH2.ge i b0 hl0 hp (by rw [hg, oldE]; exact beside j' b' hl0' hj' hp')).elim
     · rw [hpl2 j hj] at hp hg
       rcases split j' b' hl' with ⟨i', b0', rfl, hl0', rfl⟩ | ⟨hl0', hj'⟩
       · rw [hpl1, Ph.ren] at hp'
         rw [hpl1] at hg
         exact (hH2.ge i' b0' hl0' hp' (by rw [← hg, oldE]; exact beside j b hl0 hj hp)).elim
       · rw [hpl2 j' hj'] at hp' hg
         exact hH.inj j j' b b' hl0 hl0' hp hp' hg
 refine ⟨c', r0.ren ρ, nx + (n0 - ids.length), rfl, rfl, rfl, hH', by omega, F.ok c c' (evo.toK _) hFp, ?_, r0, c2.heap, n0, hR, rfl, rfl, rfl⟩
 cases e with
 | returned gv =>
   cases r0 with
   | val v => exact RelV.push hk2 hlk v gv hend
   | pan d => exact hend.elim
 | panicked ch =>
   cases r0 with
   | val v => exact hend.elim
   | pan d => obtain ⟨v, h1, h2⟩ := hend; exact ⟨v, h1, RelI.keep hk2 _ _ h2⟩
 | outgrown => cases r0 <;> exact hend.elim
end Uw
namespace Uw
open Go
variable [Glob]
section
variable {P : Program} {Q : MExit → St → Prop} {t t' y n : Tree} {p q : Prop}
theorem aw (hgo' : WT P Q t') (h : WT P Q t' → WT P Q t := by
   first
   | (show _ → WT _ _ (Tree.test _ _ _)
      first
      | exact WT_i64 (by omega)
      | exact WT_inR (by simp [inR]; omega)
      | exact WT_t rfl
      | exact WT_f rfl
      | exact WT_ixmZ (by first | assumption | omega)
      | exact WT_ixZ (by first | assumption | omega)
      | exact WT_ixmS (by first | assumption | omega)
      | exact WT_ixS (by first | assumption | omega)
      | exact WT_ixm (by first | assumption | omega)
      | exact WT_ixl (by first | assumption | omega)
      | exact WT_guard (by first | (simp [inR]; done) | (simp [inR]; omega))
      | exact WT_yT (by first | assumption | omega | exact rfl)
      | exact WT_nT (by first | assumption | omega)
      | exact WT_yF (by first | assumption | omega)
      | exact WT_nF (by first | assumption | omega | exact rfl)
      | exact WT_nyT (by first | assumption | omega)
      | exact WT_nnT (by first | assumption | omega | exact rfl)
      | exact WT_nyF (by first | assumption | omega | exact rfl)
      | exact WT_nnF (by first | assumption | omega)
      | exact WT_byT (by assumption)
      | exact WT_bnT (by assumption)
      | exact WT_byF (by assumption)
      | exact WT_bnF (by assumption)
      | exact WT_yes (by first | assumption | omega | exact rfl)
      | exact WT_no (by first | assumption | omega)
      | exact WT_nyes (by first | assumption | omega)
      | exact WT_nno (by first | assumption | omega | exact rfl)
      | exact WT_ty (by assumption)
      | exact WT_f (by assumption)
      | exact WT_nby (by assumption)
      | exact WT_nbn (by assumption))
   | (show _ → WT _ _ (Tree.call _ _ _)
      exact WT_call _ (by assumption))
   | (show _ → WT _ _ (Tree.elem _ _ _)
      first
      | exact WT_elem _ (by assumption)
      | exact WT_elmZ (by first | assumption | omega)
      | exact WT_elmS (by first | assumption | omega)
      | exact WT_elm (by first | assumption | omega)
      | exact WT_elem _ (map_get _ _ _ (by first | assumption | omega))
      | exact WT_elem _ (by assumption))
   | (show _ → WT _ _ (Tree.byte _ _ _)
      first
      | exact WT_bytZ (by first | assumption | omega)
      | exact WT_bytS (by first | assumption | omega)
      | exact WT_byt (by first | assumption | omega)
      | exact WT_bytN (by first | assumption | omega))
   | (show _ → WT _ _ (Tree.same _ _ _)
      exact WT_same rfl)) : WT P Q t := h hgo'
theorem bw (h1 : p → WT P Q y) (h2 : q → WT P Q n) (h : (p → WT P Q y) → (q → WT P Q n) → WT P Q t := by
   show _ → _ → WT _ _ (Tree.test _ _ _)
   first
   | exact WT_dlenS
   | exact WT_dlen
   | exact WT_decT
   | exact WT_decF
   | exact WT_ndecT
   | exact WT_ndecF
   | exact WT_bT
   | exact WT_bF
   | exact WT_dec
   | exact WT_ndec
   | exact WT_nb
   | exact WT_test) : WT P Q t := h h1 h2
end
theorem wW {st st' : St} (h : Weak st st' := by
   refine Weak.of ?_ ?_ rfl rfl ?_ rfl rfl <;> repeat' first | exact trivial | refine ⟨⟨_, rfl, ?_⟩, ?_⟩ | exact VW_int (by first | with_reducible rfl | assumption | omega) | exact VW_ref (by first | with_reducible rfl | assumption | omega | (simp; done) | (simp; omega)) rfl rfl | exact Or.inl ⟨rfl, rfl⟩ | exact VW_str (by assumption) | exact Or.inr (Or.inl ⟨rfl, by first | exact ⟨_, _, rfl, rfl, Or.inl rfl⟩ | exact ⟨_, _, rfl, rfl, Or.inr rfl⟩⟩) | exact Or.inr (Or.inr (Or.inl rfl)) | exact Or.inr (Or.inr (Or.inr (Or.inl ⟨_, _, _, _, _, _, _, rfl, rfl, by first | assumption | exact rfl, rfl⟩))) | exact Or.inr (Or.inr (Or.inr ⟨_, _, _, _, _, _, _, rfl, rfl, by first | assumption | exact rfl, rfl⟩)) | refine Or.inr (Or.inr (Or.inr (Or.inr ⟨_, _, rfl, rfl, ?_⟩))) | refine ⟨⟨Or.inl ⟨_, rfl, ?_⟩, rfl⟩, ?_⟩ | refine ⟨⟨Or.inr ⟨rfl, rfl⟩, rfl⟩, ?_⟩ | refine ⟨⟨Or.inr ⟨rfl, rfl, rfl⟩, rfl⟩, ?_⟩ | exact ⟨rfl, rfl⟩ | exact ⟨rfl, by assumption⟩ | exact ⟨rfl, rfl, rfl⟩ | exact BSim_by rfl rfl | refine ⟨⟨rfl, fun _ => rfl⟩, ?_⟩ | refine And.intro ?_ ?_ | refine ⟨⟨rfl, fun _ => rfl⟩, ?_⟩) : Weak st st' := h
end Uw
namespace Uw
open Go Go.RowKit
section
variable {P : Program} [Glob] {Q : MExit → St → Prop} {t t' : Tree}
end
end Uw
namespace Uw
open Go
variable [Glob]
def fitP (ρ : Nat → Nat) (H h0 : Heap) : Nat → List Blk → Prop
 | _, [] => True
 | i, b' :: r => ((∃ b, look H (ρ i) = some b ∧ BSim ρ H h0 b b') ∨ (look H (ρ i) = none ∧ ZeroB b')) ∧ fitP ρ H h0 (i + 1) r
theorem fit_of {ρ : Nat → Nat} {H h0 : Heap} : ∀ {bs : List Blk} {i : Nat}, fitP ρ H h0 i bs → ∀ j b', look (heapOf i bs) j = some b' → (∃ b, look H (ρ j) = some b ∧ BSim ρ H h0 b b') ∨ (look H (ρ j) = none ∧ ZeroB b')
 | [], _, _, j, b', h => by simp [heapOf, look] at h
 | b0 :: r, i, ⟨h1, h2⟩, j, b', h => by
   rw [heapOf, look_cons] at h
   by_cases e : i = j
   · subst e
     rw [if_pos rfl] at h
     injection h with h; subst h; exact h1
   · rw [if_neg e] at h
     exact fit_of h2 j b' h
theorem WT_fr {P : Program} {Q : MExit → St → Prop} {f : FuncId} {vs vs0 : List V} {H : Heap} {nx : Nat} {k : Res → Heap → Nat → Tree} {bs : List Blk} {R0 : Res → Heap → Nat → Prop} (ids : List Nat) (hs : SatC P f vs0 (heapOf 0 bs) bs.length R0)
   (hm : Nat.ble ids.length bs.length = true) (hids : (ids.all fun a => Nat.blt a nx) = true) (hnd : nodupN ids = true) (hfit : fitP (nameOf ids nx) H (heapOf 0 bs) 0 bs) (hvs : VWL (nameOf ids nx) H (heapOf 0 bs) vs vs0)
   (h2 : ∀ r0 h0 n0, R0 r0 h0 n0 → WT P Q (k (r0.ren (nameOf ids nx)) (renH (nameOf ids nx) h0 ++ H) (nx + (n0 - ids.length)))) : WT P Q (.sub f vs H nx k) := by
 refine WT_sub (SatC.frame hs ids (Nat.le_of_ble_eq_true hm) (fun a ha => by have := List.all_eq_true.1 hids a ha; simpa using this) (nodupN_ok hnd) (fit_of hfit) hvs) ?_
 rintro r h n ⟨r0, h0, n0, h1, rfl, rfl, rfl⟩
 exact h2 r0 h0 n0 h1
def SatE (P : Program) (f : FuncId) (vs : List V) (bs : List Blk) (r : V) (bs' : List Blk) : Prop := SatC P f vs (heapOf 0 bs) bs.length fun r' h n => r' = .val r ∧ h = heapOf 0 bs' ∧ n = bs'.length
def SatP (P : Program) (f : FuncId) (vs : List V) (bs : List Blk) (d : Dat) : Prop := SatC P f vs (heapOf 0 bs) bs.length fun r' h n => r' = .pan d
section
variable {P : Program} {Q : MExit → St → Prop} {f : FuncId} {vs vs0 : List V} {H : Heap} {k : Res → Heap → Nat → Tree} {bs bs' : List Blk} {v : V} {d : Dat}
theorem WT_frE (nx : Nat) (ids : List Nat) (hs : SatE P f vs0 bs v bs')
   (h2 : WT P Q (k (.val (v.ren (nameOf ids nx))) (renH (nameOf ids nx) (heapOf 0 bs') ++ H) (nx + (bs'.length - ids.length))))
   (hm : Nat.ble ids.length bs.length = true := by rfl) (hids : (ids.all fun a => Nat.blt a nx) = true := by rfl) (hnd : nodupN ids = true := by rfl)
   (hfit : fitP (nameOf ids nx) H (heapOf 0 bs) 0 bs := by
     repeat' first
       | exact trivial
       | refine And.intro (Or.inl ⟨_, rfl, ⟨rfl, rfl⟩⟩) ?_
       | refine And.intro (Or.inl ⟨_, rfl, ⟨rfl, rfl, rfl⟩⟩) ?_
       | refine And.intro (Or.inl ⟨_, rfl, ?_⟩) ?_
       | refine And.intro (Or.inr ⟨rfl, rfl⟩) ?_
       | refine And.intro (Or.inr ⟨rfl, rfl, rfl⟩) ?_
       | exact VW_int (by first | with_reducible rfl | assumption | omega)
       | exact VW_ref (by first | with_reducible rfl | assumption | omega | (simp; done) | (simp; omega)) rfl rfl
       | exact Or.inl ⟨rfl, rfl⟩
       | exact Or.inr (Or.inl ⟨rfl, by first | exact ⟨_, _, rfl, rfl, Or.inl rfl⟩ | exact ⟨_, _, rfl, rfl, Or.inr rfl⟩⟩)
       | refine And.intro ?_ ?_)
   (hvs : VWL (nameOf ids nx) H (heapOf 0 bs) vs vs0 := by
     repeat' first
       | exact trivial
       | refine And.intro (VW_int (by first | with_reducible rfl | assumption | omega)) ?_
       | refine And.intro (Or.inl ⟨rfl, rfl⟩) ?_
       | refine And.intro (Or.inr (Or.inl ⟨rfl, by first | exact ⟨_, _, rfl, rfl, Or.inl rfl⟩ | exact ⟨_, _, rfl, rfl, Or.inr rfl⟩⟩)) ?_) : WT P Q (.sub f vs H nx k) := by
 refine WT_fr ids hs hm hids hnd hfit hvs ?_
 rintro r0 h0 n0 ⟨rfl, rfl, rfl⟩
 exact h2
theorem WT_frP (nx : Nat) (ids : List Nat) (hs : SatP P f vs0 bs d) (h2 : ∀ h n, WT P Q (k (.pan d) h n))
   (hm : Nat.ble ids.length bs.length = true := by rfl) (hids : (ids.all fun a => Nat.blt a nx) = true := by rfl) (hnd : nodupN ids = true := by rfl)
   (hfit : fitP (nameOf ids nx) H (heapOf 0 bs) 0 bs := by
     repeat' first
       | exact trivial
       | refine And.intro (Or.inl ⟨_, rfl, ⟨rfl, rfl⟩⟩) ?_
       | refine And.intro (Or.inl ⟨_, rfl, ⟨rfl, rfl, rfl⟩⟩) ?_
       | refine And.intro (Or.inl ⟨_, rfl, ?_⟩) ?_
       | refine And.intro (Or.inr ⟨rfl, rfl⟩) ?_
       | refine And.intro (Or.inr ⟨rfl, rfl, rfl⟩) ?_
       | exact VW_int (by first | with_reducible rfl | assumption | omega)
       | exact VW_ref (by first | with_reducible rfl | assumption | omega | (simp; done) | (simp; omega)) rfl rfl
       | exact Or.inl ⟨rfl, rfl⟩
       | exact Or.inr (Or.inl ⟨rfl, by first | exact ⟨_, _, rfl, rfl, Or.inl rfl⟩ | exact ⟨_, _, rfl, rfl, Or.inr rfl⟩⟩)
       | refine And.intro ?_ ?_)
   (hvs : VWL (nameOf ids nx) H (heapOf 0 bs) vs vs0 := by
     repeat' first
       | exact trivial
       | refine And.intro (VW_int (by first | with_reducible rfl | assumption | omega)) ?_
       | refine And.intro (Or.inl ⟨rfl, rfl⟩) ?_
       | refine And.intro (Or.inr (Or.inl ⟨rfl, by first | exact ⟨_, _, rfl, rfl, Or.inl rfl⟩ | exact ⟨_, _, rfl, rfl, Or.inr rfl⟩⟩)) ?_) : WT P Q (.sub f vs H nx k) := by
 refine WT_fr ids hs hm hids hnd hfit hvs ?_
 rintro r0 h0 n0 rfl
 exact h2 _ _
theorem SatC.weakE {P : Program} {f : FuncId} {vs : List V} {h : Heap} {nx : Nat} {R0 R : Res → Heap → Nat → Prop} (hs : SatC P f vs h nx R0)
   (hq : ∀ r h0 n0, R0 r h0 n0 → ∃ v v' h1 n1, r = .val v ∧ Weak ⟨[(0, v)], h0, n0, [], nx⟩ ⟨[(0, v')], h1, n1, [], nx⟩ ∧ R (.val v') h1 n1) : SatC P f vs h nx R := by
 refine ⟨hs.1, fun c w0 F gvs h1 h2 h3 h4 h5 => (hs.2 c w0 F gvs h1 h2 h3 h4 h5).mono ?_⟩
 rintro e w' ⟨c', r, nx', e1, e2, e3, e4, e5, e6, e7, e8⟩
 obtain ⟨v, v', h1', n1, rfl, hw, hr⟩ := hq _ _ _ e8
 cases e with
 | returned gv =>
   have r0 : Rel c' w0 1 F ⟨[(0, v)], c'.heap, nx', [], nx⟩ { tmps := #[gv], defers := [] } := by
     refine ⟨rfl, e4, rfl, ?_, e6, h3, e5, rfl⟩
     intro i u hu
     rw [look_cons] at hu
     by_cases hi : 0 = i
     · subst hi
       rw [if_pos rfl] at hu
       injection hu with hu; subst hu
       exact e7
     · rw [if_neg hi] at hu; simp [look] at hu
   obtain ⟨c2, k1, k2, k3, k4, k5⟩ := r0.weak hw
   refine ⟨c2, .val v', n1, k1.trans e1, k2.trans e2, k3.trans e3, k5.hrel, k5.base, k5.frames, ?_, by rw [k5.heap]; exact hr⟩
   have := k5.regs 0 v' (by simp [look_cons])
   show RelV c2 v' gv
   simpa using this
 | panicked ch => exact e7.elim
 | outgrown => exact e7.elim
def EQ (b : Nat) (res : List MRes) (v : V) (bs' : List Blk) (e : MExit) (st : St) : Prop := (e = .normal ∨ e = .ret) ∧ st.defers = [] ∧ ∃ vs, resV st res = some vs ∧ Weak ⟨[(0, packV vs)], st.heap, st.next, [], b⟩ ⟨[(0, v)], heapOf 0 bs', bs'.length, [], b⟩
def PQ (res : List MRes) (d : Dat) (e : MExit) (st : St) : Prop := ∃ st', (st' = st ∨ Weak st st') ∧ InlQ res (fun r' h n => r' = .pan d) e st'
theorem SatE_by {m : MFun} (hf : IsFun P f m) (hn : Nat.ble vs.length m.n = true) (hw : WT P (EQ bs.length m.res v bs') (exec m.code ⟨initRegs 0 vs, heapOf 0 bs, bs.length, [], bs.length⟩ Tree.done)) : SatE P f vs bs v bs' := by
 refine SatC.weakE (R0 := fun r h n => ∃ u, r = .val u ∧ Weak ⟨[(0, u)], h, n, [], bs.length⟩ ⟨[(0, v)], heapOf 0 bs', bs'.length, [], bs.length⟩) (SatC_of_exec hf hn (WT.mono ?_ _ hw)) ?_
 · rintro e st ⟨he, hd, vs, hr, hw⟩
   refine ⟨st, .inl rfl, ?_⟩
   rcases he with rfl | rfl <;> exact ⟨hd, vs, hr, _, rfl, hw⟩
 · rintro r h0 n0 ⟨u, rfl, hw⟩
   exact ⟨u, v, _, _, rfl, hw, rfl, rfl, rfl⟩
theorem SatP_by {m : MFun} (hf : IsFun P f m) (hn : Nat.ble vs.length m.n = true) (hw : WT P (PQ m.res d) (exec m.code ⟨initRegs 0 vs, heapOf 0 bs, bs.length, [], bs.length⟩ Tree.done)) : SatP P f vs bs d := SatC_of_exec hf hn hw
theorem WT_eret (b : Nat) {res : List MRes} {vs' : List V} {st : St} (hd : st.defers = []) (hr : resV st res = some vs') (hw : Weak ⟨[(0, packV vs')], st.heap, st.next, [], b⟩ ⟨[(0, v)], heapOf 0 bs', bs'.length, [], b⟩) : WT P (EQ b res v bs') (.done .ret st) := ⟨.inr rfl, hd, vs', hr, hw⟩
theorem WT_eend (b : Nat) {res : List MRes} {vs' : List V} {st : St} (hd : st.defers = []) (hr : resV st res = some vs') (hw : Weak ⟨[(0, packV vs')], st.heap, st.next, [], b⟩ ⟨[(0, v)], heapOf 0 bs', bs'.length, [], b⟩) : WT P (EQ b res v bs') (.done .normal st) := ⟨.inl rfl, hd, vs', hr, hw⟩
theorem WT_epan {res : List MRes} {st : St} (hd : st.defers = []) : WT P (PQ res d) (.done (.panic d) st) := ⟨st, .inl rfl, hd, rfl⟩
end
end Uw
namespace Uw
open Go Go.RowKit
variable [Glob]
def SatCD (P : Program) (f : FuncId) (vs : List V) (h : Heap) (nx : Nat) (Q : Res → Heap → Nat → Prop) : Prop :=
 HasBody P f ∧ ∀ (c : Cx) (w0 : World) (F : Fr) (gvs : List Value) (u : FrameMode), c.heap = h → HRel c w0 nx → F.K ≤ nx → F.p c → RelVL c vs gvs →
   CallsD P f gvs.toArray u c.w fun e u' w' => u' = u ∧ ∃ c' r nx', c'.B = c.B ∧ c'.J0 = c.J0 ∧ c'.w = w' ∧ HRel c' w0 nx' ∧ nx ≤ nx' ∧ F.p c' ∧ EndRel c' e r ∧ Q r c'.heap nx'
theorem SatCD_of_exec {P : Program} {f : FuncId} {m : MFun} (hf : IsFun P f m) {vs : List V} {h : Heap} {nx : Nat} {Q : Res → Heap → Nat → Prop} (hn : Nat.ble vs.length m.n = true)
   (hw : WT P (fun e st => ∃ st', (st' = st ∨ Weak st st') ∧ InlQ m.res Q e st') (exec m.code ⟨initRegs 0 vs, h, nx, [], nx⟩ Tree.done)) : SatCD P f vs h nx Q := by
 refine ⟨hf.body, ?_⟩
 obtain ⟨fn, code, h1, h2, h0, h3, h4, h5⟩ := hf
 rintro c w0 F gvs u rfl hh hF hp hv
 let F' : Fr := ⟨nx, F.p, fun c c' he hc => F.ok c c' (he.mono hF) hc⟩
 refine callsD_of_wp h1 h2 ?_
 rw [h3]
 refine Code.wp_mono ?_ (exec_ok code m.code h5 Tree.done _ _ _ (Rel.enter (F := F') hh (Nat.le_refl _) hp hv (Nat.le_of_ble_eq_true hn)) hw)
 intro e a' w' hcame
 obtain ⟨c', me, st', e1, e2, e3, e4, e5, e6⟩ := hcame.weak
 subst e3
 simp only [WT] at e6
 have hnx : nx ≤ st'.next := Nat.le_trans e5.fbase e5.base
 have hdef : st'.defers = [] → a'.defers = [] := fun hd => by have := e5.defers; rw [hd] at this; exact this
 have key : (st'.defers = [] ∧ ∃ vs, resV st' m.res = some vs ∧ Q (.val (packV vs)) st'.heap st'.next) → a'.defers = [] ∧ ∃ v, (results fn a'.tmps).run P c'.w = .ok v c'.w ∧ (∃ c'' r nx', c''.B = c.B ∧ c''.J0 = c.J0 ∧ c''.w = c'.w ∧ HRel c'' w0 nx' ∧ nx ≤ nx' ∧ F.p c'' ∧ EndRel c'' (.returned v) r ∧ Q r c''.heap nx') := by
   rintro ⟨hd, vs', hvs, hq⟩
   obtain ⟨us, f1, f2⟩ := run_results (P := P) e5 h4 hvs
   refine ⟨hdef hd, _, run_resultsA f1, c', .val (packV vs'), st'.next, e1, e2, rfl, e5.hrel, hnx, e5.frames, packV_rel f2, ?_⟩
   rw [e5.heap]; exact hq
 cases e with
 | normal => cases me <;> simp only [ExRel] at e4; exact key e6
 | ret => cases me <;> simp only [ExRel] at e4; exact key e6
 | exit id => cases me <;> simp only [ExRel] at e4; exact e6.elim
 | goto l => cases me <;> simp only [ExRel] at e4
 | panic ch =>
   cases me <;> simp only [ExRel] at e4
   rename_i d
   obtain ⟨hd, hq⟩ := e6
   exact ⟨hdef hd, c', .pan d, st'.next, e1, e2, rfl, e5.hrel, hnx, e5.frames, e4, by rw [e5.heap]; exact hq⟩
 | outgrown => cases me <;> simp only [ExRel] at e4
def InlQD (P : Program) (res : List MRes) (Q : Res → Heap → Nat → Prop) (e : MExit) (st : St) : Prop :=
 InlQ res Q e st ∨ ((e = .normal ∨ e = .ret) ∧ ∃ g fs cs, st.defers = [.func g fs cs] ∧
   SatCD P g (fs ++ cs) st.heap st.next fun r h' nx' => (∃ v, r = .val v) ∧ ∃ vs, resV { st with heap := h', next := nx', defers := [] } res = some vs ∧ Q (.val (packV vs)) h' nx')
theorem SatC_of_execD {P : Program} {f : FuncId} {m : MFun} (hf : IsFun P f m) {vs : List V} {h : Heap} {nx : Nat} {Q : Res → Heap → Nat → Prop} (hn : Nat.ble vs.length m.n = true)
   (hw : WT P (fun e st => ∃ st', (st' = st ∨ Weak st st') ∧ InlQD P m.res Q e st') (exec m.code ⟨initRegs 0 vs, h, nx, [], nx⟩ Tree.done)) : SatC P f vs h nx Q := by
 refine ⟨hf.body, ?_⟩
 obtain ⟨fn, code, h1, h2, h0, h3, h4, h5⟩ := hf
 rintro c w0 F gvs rfl hh hF hp hv
 let F' : Fr := ⟨nx, F.p, fun c c' he hc => F.ok c c' (he.mono hF) hc⟩
 refine calls_of_wp_defers h1 h2 ?_
 rw [h3]
 refine Code.wp_mono ?_ (exec_ok code m.code h5 Tree.done _ _ _ (Rel.enter (F := F') hh (Nat.le_refl _) hp hv (Nat.le_of_ble_eq_true hn)) hw)
 intro e a' w' hcame
 obtain ⟨c', me, st', e1, e2, e3, e4, e5, e6⟩ := hcame.weak
 subst e3
 simp only [WT] at e6
 have hnx : nx ≤ st'.next := Nat.le_trans e5.fbase e5.base
 have hdef : st'.defers = [] → a'.defers = [] := fun hd => by have := e5.defers; rw [hd] at this; exact this
 rcases e6 with e6 | ⟨hret, g, fs, cs, hdf, hsat⟩
 · have key : (st'.defers = [] ∧ ∃ vs, resV st' m.res = some vs ∧ Q (.val (packV vs)) st'.heap st'.next) → Leaves P fn a'.tmps (fun e w' => ∃ c'' r nx', c''.B = c.B ∧ c''.J0 = c.J0 ∧ c''.w = w' ∧ HRel c'' w0 nx' ∧ nx ≤ nx' ∧ F.p c'' ∧ EndRel c'' e r ∧ Q r c''.heap nx') a'.defers .returning c'.w := by
     rintro ⟨hd, vs', hvs, hq⟩
     obtain ⟨us, f1, f2⟩ := run_results (P := P) e5 h4 hvs
     rw [hdef hd]
     refine ⟨_, run_resultsA f1, c', .val (packV vs'), st'.next, e1, e2, rfl, e5.hrel, hnx, e5.frames, packV_rel f2, ?_⟩
     rw [e5.heap]; exact hq
   cases e with
   | normal => cases me <;> simp only [ExRel] at e4; exact key e6
   | ret => cases me <;> simp only [ExRel] at e4; exact key e6
   | exit id => cases me <;> simp only [ExRel] at e4; exact e6.elim
   | goto l => cases me <;> simp only [ExRel] at e4
   | panic ch =>
     cases me <;> simp only [ExRel] at e4
     rename_i d
     obtain ⟨hd, hq⟩ := e6
     show Leaves P fn a'.tmps _ a'.defers (.panicking ch) c'.w
     rw [hdef hd]
     exact ⟨c', .pan d, st'.next, e1, e2, rfl, e5.hrel, hnx, e5.frames, e4, by rw [e5.heap]; exact hq⟩
   | outgrown => cases me <;> simp only [ExRel] at e4
 · have hd := e5.defers
   rw [hdf] at hd
   obtain ⟨dd, ds', f', first, cap, us, ws, hd1, hd2, hd3, hd4, hd5, hd6⟩ := hd
   simp only [V.func.injEq] at hd2
   obtain ⟨rfl, rfl, rfl⟩ := hd2
   simp only [RelDefers] at hd6
   subst hd6 hd3
   have key : Leaves P fn a'.tmps (fun e w' => ∃ c'' r nx', c''.B = c.B ∧ c''.J0 = c.J0 ∧ c''.w = w' ∧ HRel c'' w0 nx' ∧ nx ≤ nx' ∧ F.p c'' ∧ EndRel c'' e r ∧ Q r c''.heap nx') a'.defers .returning c'.w := by
     rw [hd1]
     refine leaves_cons (by simp) (run_invoke hsat.1) ?_
     have hs := hsat.2 c' w0 (callFr F' st' a' e5.frK) (us ++ ws) .returning e5.heap e5.hrel (Nat.le_refl _) e5.toFr (hd4.append hd5)
     rw [← List.append_toArray] at hs
     refine hs.mono ?_
     rintro e' u' w' ⟨rfl, c'', r, nx', pB, pJ, rfl, pH, pn, pF, pE, ⟨v, rfl⟩, vs', q1, q2⟩
     have r' := e5.ofFr pF pH pn
     cases e' with
     | returned gv =>
       obtain ⟨us2, f1, f2⟩ := run_results (P := P) (st := { st' with heap := c''.heap, next := nx', defers := [] }) (c := c'') (w0 := w0) (n := m.n) (gs := F') (a := { a' with defers := [] }) ⟨r'.heap, r'.hrel, r'.size, r'.regs, r'.frames, r'.fbase, r'.base, rfl⟩ h4 q1
       exact ⟨_, run_resultsA f1, c'', .val (packV vs'), nx', pB.trans e1, pJ.trans e2, rfl, pH, Nat.le_trans hnx pn, r'.frames, packV_rel f2, q2⟩
     | panicked ch => exact pE.elim
     | outgrown => exact pE.elim
   cases e with
   | normal => exact key
   | ret => exact key
   | exit id => rcases hret with rfl | rfl <;> cases e4
   | goto l => cases me <;> simp only [ExRel] at e4
   | panic ch => rcases hret with rfl | rfl <;> cases e4
   | outgrown => cases me <;> simp only [ExRel] at e4
theorem name_other {ids : List Nat} {nx j : Nat} (hj : j < nx) (hn : ids.contains j = false) (i : Nat) : nameOf ids nx i ≠ j := by
 intro e
 rcases Nat.lt_or_ge i ids.length with h | h
 · have := name_lt (nx := nx) h
   rw [e] at this
   rw [List.contains_eq_mem] at hn
   simp at hn
   exact hn this
 · rw [name_ge h] at e
   omega
theorem Weak.rest {ids : List Nat} {nx : Nat} {h0 H H' : Heap} {n n' : Nat} {regs regs' : Regs} {ds : List V} {b : Nat} (hR : ∀ p ∈ regs', look regs p.1 = some p.2 ∧ p.2.closed H' = true ∧ p.2 = p.2.ren (renF [])) (hH : ∀ p ∈ H', p.1 < n' ∧ p.1 < nx ∧ ids.contains p.1 = false ∧ look H p.1 = look H' p.1 ∧ p.2.closed H' = true ∧ p.2 = p.2.ren (renF []))
   (hc : closedL H' ds = true) (hd : ds = renL (renF []) ds) (hb : b = 0) : Weak ⟨regs, renH (nameOf ids nx) h0 ++ H, n, ds, b⟩ ⟨regs', H', n', ds, b⟩ := by
 have hl : ∀ {α : Type} (l : List (Nat × α)) (i : Nat) (x : α), look l i = some x → (i, x) ∈ l := by
   intro α l
   induction l with
   | nil => intro i x h; simp [look] at h
   | cons p l ih =>
     intro i x h
     obtain ⟨j, y⟩ := p
     rw [look_cons] at h
     by_cases e : j = i
     · subst e; rw [if_pos rfl] at h; injection h with h; subst h; exact List.mem_cons_self ..
     · rw [if_neg e] at h; exact List.mem_cons_of_mem _ (ih i x h)
 refine ⟨renF [], ?_, ?_, ?_, rfl, ?_, ?_, fun _ _ _ _ e => e, hc, ?_⟩
 · intro i v' h
   obtain ⟨h1, h2, h3⟩ := hR _ (hl _ _ _ h)
   exact ⟨v', h1, .inl ⟨h3, h2⟩⟩
 · intro id b' h
   obtain ⟨_, h2, h3, h4, h5, h6⟩ := hH _ (hl _ _ _ h)
   refine .inl ⟨b', ?_, BSim_by h6 h5⟩
   show look (renH (nameOf ids nx) h0 ++ H) id = _
   rw [look_append, look_renH_none (name_other h2 h3)]
   show look H id = _
   rw [h4, h]
 · intro id x h
   exact (hH _ (hl _ _ _ h)).1
 · subst hb; exact Nat.zero_le _
 · subst hb; intro id h; exact absurd h (Nat.not_lt_zero _)
 · exact hd
section
variable {P : Program} {Q : MExit → St → Prop} {f : FuncId} {vs vs0 : List V} {H : Heap} {k : Res → Heap → Nat → Tree} {bs bs' : List Blk} {v : V} {d : Dat}
theorem WT_frPW (nx : Nat) (ids : List Nat) (hs : SatP P f vs0 bs d) (h2 : ∀ h0 n0, WT P Q (k (.pan d) (renH (nameOf ids nx) h0 ++ H) (nx + (n0 - ids.length))))
   (hm : Nat.ble ids.length bs.length = true := by rfl) (hids : (ids.all fun a => Nat.blt a nx) = true := by rfl) (hnd : nodupN ids = true := by rfl)
   (hfit : fitP (nameOf ids nx) H (heapOf 0 bs) 0 bs := by
     repeat' first
       | exact trivial
       | refine And.intro (Or.inl ⟨_, rfl, ⟨rfl, rfl⟩⟩) ?_
       | refine And.intro (Or.inl ⟨_, rfl, ⟨rfl, rfl, rfl⟩⟩) ?_
       | refine And.intro (Or.inl ⟨_, rfl, ?_⟩) ?_
       | refine And.intro (Or.inr ⟨rfl, rfl⟩) ?_
       | refine And.intro (Or.inr ⟨rfl, rfl, rfl⟩) ?_
       | exact VW_int (by first | with_reducible rfl | assumption | omega)
       | exact VW_ref (by first | with_reducible rfl | assumption | omega | (simp; done) | (simp; omega)) rfl rfl
       | exact Or.inl ⟨rfl, rfl⟩
       | exact Or.inr (Or.inl ⟨rfl, by first | exact ⟨_, _, rfl, rfl, Or.inl rfl⟩ | exact ⟨_, _, rfl, rfl, Or.inr rfl⟩⟩)
       | refine And.intro ?_ ?_)
   (hvs : VWL (nameOf ids nx) H (heapOf 0 bs) vs vs0 := by
     repeat' first
       | exact trivial
       | refine And.intro (VW_int (by first | with_reducible rfl | assumption | omega)) ?_
       | refine And.intro (Or.inl ⟨rfl, rfl⟩) ?_
       | refine And.intro (Or.inr (Or.inl ⟨rfl, by first | exact ⟨_, _, rfl, rfl, Or.inl rfl⟩ | exact ⟨_, _, rfl, rfl, Or.inr rfl⟩⟩)) ?_) : WT P Q (.sub f vs H nx k) := by
 refine WT_fr ids hs hm hids hnd hfit hvs ?_
 rintro r0 h0 n0 rfl
 exact h2 _ _
end
end Uw
