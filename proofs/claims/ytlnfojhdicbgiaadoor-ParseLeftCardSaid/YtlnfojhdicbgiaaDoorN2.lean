/- N2: Ur Us Ut Uu Uv Uw Ux Uy Uy2 Uy3 Uy4 Ul Um (merged by merge2.py from the working texts). -/
import Derived.Test.YtlnfojhdicbgiaaDoorN1
import Derived.Laws.StructEq
import Derived.Laws.BytesString
set_option linter.unusedSimpArgs false
set_option linter.unnecessarySimpa false
set_option linter.unusedVariables false
set_option linter.unusedSectionVars false
namespace Uw
open Go Go.RowKit
variable [Glob]
theorem RelL.append {w : World} {J : Nat → Nat → Prop} : ∀ {xs ys : List Dat} {vs us : List Value}, RelL w J xs vs → RelL w J ys us → RelL w J (xs ++ ys) (vs ++ us)
 | [], ys, vs, us, h1, h2 => by simp [RelL] at h1; subst h1; simpa using h2
 | x :: xs, ys, vs, us, h1, h2 => by
   obtain ⟨v, vs', rfl, g1, g2⟩ := h1
   exact ⟨v, vs' ++ us, rfl, g1, RelL.append g2 h2⟩
theorem RelC.flat {w : World} {J : Nat → Nat → Prop} {b : Nat} : ∀ {ds : List Dat} {o : Nat}, RelC w J b o ds → ∃ us : List Value, RelL w J ds us ∧ (∀ j v, us[j]? = some v → w.cell? ⟨b, o + j, none⟩ = some v) ∧ ∀ v ∈ us, one v = true
 | [], o, _ => ⟨[], rfl, by simp, by simp⟩
 | x :: xs, o, h => by
   obtain ⟨⟨v, h1, h2, h5, h3⟩, h4⟩ := h
   obtain ⟨us, g1, g2, g3⟩ := RelC.flat h4
   refine ⟨v :: us, ⟨v, us, rfl, h3, g1⟩, ?_, ?_⟩
   · intro j u hu
     cases j with
     | zero => simp at hu; subst hu; exact h1
     | succ j =>
       simp at hu
       have := g2 j u hu
       rwa [show o + 1 + j = o + (j + 1) by omega] at this
   · intro u hu
     simp at hu
     rcases hu with rfl | hu
     · exact h5
     · exact g3 u hu
theorem RelE.flat {w : World} {J : Nat → Nat → Prop} {b k : Nat} : ∀ {xs : List (List Dat)} {o : Nat}, RelE w J b k o xs → (∀ x ∈ xs, x.length = k) ∧ ∃ us : List Value, RelL w J xs.flatten us ∧ us.length = xs.length * k ∧ (∀ j v, us[j]? = some v → w.cell? ⟨b, o + j, none⟩ = some v) ∧ ∀ v ∈ us, one v = true
 | [], o, _ => ⟨by simp, [], by simp [RelL], by simp, by simp, by simp⟩
 | x :: xs, o, h => by
   obtain ⟨h1, h2, h3⟩ := h
   obtain ⟨us, g1, g2, g3⟩ := RelC.flat h2
   obtain ⟨p1, vs, p2, p3, p4, p5⟩ := RelE.flat h3
   have hl := g1.length
   refine ⟨by intro y hy; simp at hy; rcases hy with rfl | hy; exact h1; exact p1 y hy, us ++ vs, ?_, ?_, ?_, ?_⟩
   · rw [List.flatten_cons]; exact g1.append p2
   · simp [p3, hl, h1, Nat.add_mul]; omega
   · intro j v hv
     by_cases hj : j < us.length
     · rw [List.getElem?_append_left hj] at hv; exact g2 j v hv
     · rw [List.getElem?_append_right (by omega)] at hv
       have := p4 (j - us.length) v hv
       rwa [show o + k + (j - us.length) = o + j by omega] at this
   · intro v hv
     simp at hv
     rcases hv with hv | hv
     · exact g3 v hv
     · exact p5 v hv
theorem RelC.of_flat {w : World} {J : Nat → Nat → Prop} {b : Nat} : ∀ {ds : List Dat} {us : List Value} {o : Nat}, RelL w J ds us → (∀ j v, us[j]? = some v → w.cell? ⟨b, o + j, none⟩ = some v ∧ J b (o + j) ∧ one v = true) → RelC w J b o ds
 | [], us, o, _, _ => trivial
 | d :: ds, us, o, h, hc => by
   obtain ⟨v, us', rfl, g1, g2⟩ := h
   have h0 := hc 0 v rfl
   refine ⟨⟨v, h0.1, h0.2.1, h0.2.2, g1⟩, RelC.of_flat g2 ?_⟩
   intro j u hu
   have := hc (j + 1) u (by simpa using hu)
   rwa [show o + (j + 1) = o + 1 + j by omega] at this
theorem RelL.split {w : World} {J : Nat → Nat → Prop} : ∀ {xs ys : List Dat} {us : List Value}, RelL w J (xs ++ ys) us → RelL w J xs (us.take xs.length) ∧ RelL w J ys (us.drop xs.length)
 | [], ys, us, h => by simpa [RelL] using h
 | x :: xs, ys, us, h => by
   obtain ⟨v, us', rfl, g1, g2⟩ := h
   obtain ⟨p1, p2⟩ := RelL.split g2
   exact ⟨⟨v, _, rfl, g1, p1⟩, p2⟩
theorem RelE.of_flat {w : World} {J : Nat → Nat → Prop} {b k : Nat} : ∀ {xs : List (List Dat)} {us : List Value} {o : Nat}, (∀ x ∈ xs, x.length = k) → RelL w J xs.flatten us → (∀ j v, us[j]? = some v → w.cell? ⟨b, o + j, none⟩ = some v ∧ J b (o + j) ∧ one v = true) → RelE w J b k o xs
 | [], us, o, _, _, _ => trivial
 | x :: xs, us, o, hk, h, hc => by
   rw [List.flatten_cons] at h
   have hx := hk x (by simp)
   obtain ⟨h1, h2⟩ := RelL.split h
   refine ⟨hx, RelC.of_flat h1 ?_, RelE.of_flat (fun y hy => hk y (by simp [hy])) h2 ?_⟩
   · intro j v hv
     rw [List.getElem?_take] at hv
     split at hv
     · exact hc j v hv
     · simp at hv
   · intro j v hv
     rw [List.getElem?_drop] at hv
     have := hc (x.length + j) v hv
     rwa [show o + (x.length + j) = o + k + j by omega] at this
theorem flatten_drop {α : Type} {k : Nat} : ∀ {xs : List (List α)} (h : ∀ x ∈ xs, x.length = k) (m : Nat), m ≤ xs.length → (xs.drop m).flatten = xs.flatten.drop (m * k)
 | xs, h, 0, _ => by simp
 | [], h, m + 1, hm => by simp
 | x :: xs, h, m + 1, hm => by
   have hx := h x (by simp)
   rw [List.drop_succ_cons, flatten_drop (fun y hy => h y (by simp [hy])) m (by simpa using hm), List.flatten_cons, show (m + 1) * k = x.length + m * k by rw [Nat.add_mul, hx]; omega, List.drop_length_add_append]
theorem flatten_take {α : Type} {k : Nat} : ∀ {xs : List (List α)} (h : ∀ x ∈ xs, x.length = k) (m : Nat), m ≤ xs.length → (xs.take m).flatten = xs.flatten.take (m * k)
 | xs, h, 0, _ => by simp
 | [], h, m + 1, hm => by simp
 | x :: xs, h, m + 1, hm => by
   have hx := h x (by simp)
   rw [List.take_succ_cons, List.flatten_cons, flatten_take (fun y hy => h y (by simp [hy])) m (by simpa using hm), List.flatten_cons, show (m + 1) * k = x.length + m * k by rw [Nat.add_mul, hx]; omega, List.take_length_add_append]
theorem flatten_window {α : Type} {k : Nat} {xs : List (List α)} (h : ∀ x ∈ xs, x.length = k) (off len : Nat) (hle : off + len ≤ xs.length) : ((xs.drop off).take len).flatten = (xs.flatten.drop (off * k)).take (len * k) := by
 rw [flatten_take (fun x hx => h x (List.mem_of_mem_drop hx)) len (by simp; omega), flatten_drop h off (by omega)]
section
variable {P : Program} {Q : MExit → St → Prop} {q : V → St → Tree} {c : Cx} {w0 : World} {n : Nat} {gs : Fr} {st : St} {a : Act} {K : Act → World → Prop} {Qx : Exit → Act → World → Prop} {o : Oper} {xx : MExit → St → Tree}
def SrcOK (c : Cx) (k : Nat) (gv : Value) (ys : List (List Dat)) : Prop :=
 ((∃ x : Option Addr, gv = .slice x 0 0) ∧ ys = []) ∨ ∃ b o cp us, gv = .slice (some ⟨b, o, none⟩) ys.length cp ∧ ys.length ≤ cp ∧ (∀ x ∈ ys, x.length = k) ∧ RelL c.w (Imm c) ys.flatten us ∧ us.length = ys.length * k ∧
   (∀ j v, us[j]? = some v → c.w.cell? ⟨b, o + j, none⟩ = some v) ∧ ∀ v ∈ us, one v = true
theorem src_ok (r : Rel c w0 n gs st a) {k : Nat} {y : V} {gv : Value} {ys : List (List Dat)} {vb : Option Bool} (hy : RelV c y gv) (h : srcE st.heap k y = some (vb, ys)) (hvb : vb ≠ some false) : SrcOK c k gv ys := by
 unfold srcE at h
 split at h
 · simp at h; obtain ⟨_, rfl⟩ := h
   exact .inl ⟨⟨_, hy⟩, rfl⟩
 · rename_i k' xs z
   split at h
   · rename_i hb
     have hb := Nat.eq_of_beq_eq_true hb
     simp at h
     obtain ⟨_, rfl⟩ := h
     subst hb
     simp only [RelV, RelI] at hy
     rcases hy with hy | ⟨b, o', cap, e1, e2, e3, e4⟩
     · obtain ⟨⟨x, hx, _⟩, h0⟩ := hy; exact .inl ⟨⟨x, hx⟩, h0⟩
     obtain ⟨g1, us, g2, g3, g4, g5⟩ := RelE.flat e4
     exact .inr ⟨b, o', cap, us, e1, e2, g1, g2, g3, g4, g5⟩
   · simp at h
 · rename_i id ver off len
   simp only [RelV] at hy
   rw [r.heap] at hy
   split at h
   · rename_i k' xs hl
     rw [hl] at hy
     split at h
     · rename_i hb
       have hb := Nat.eq_of_beq_eq_true hb
       simp at h
       obtain ⟨_, rfl⟩ := h
       subst hb
       obtain ⟨f1, hy⟩ := hy
       have hlen : ((xs.drop off).take len).length = len := by simp; omega
       rcases hy with ⟨f2, f3, _⟩ | ⟨b, o', cap, f2, f3, f4, f5⟩
       · exact .inl ⟨⟨_, f2⟩, List.eq_nil_of_length_eq_zero (by omega)⟩
       obtain ⟨g1, us, g2, g3, g4, g5⟩ := RelE.flat f4
       exact .inr ⟨b, o', cap, us, by rw [hlen]; exact f2, by rw [hlen]; exact f3, g1, g2, g3, g4, g5⟩
     · simp at h
   · rename_i k' ver' xs hl
     rw [hl] at hy
     split at h
     · rename_i hb
       have hb1 := Nat.eq_of_beq_eq_true hb
       simp only [Option.some.injEq, Prod.mk.injEq] at h
       obtain ⟨h0, rfl⟩ := h
       have hbv : Nat.beq ver ver' = true := by
         cases hbv : Nat.beq ver ver' with
         | false => rw [hbv] at h0; exact (hvb h0.symm).elim
         | true => rfl
       have hb2 := Nat.eq_of_beq_eq_true hbv
       subst hb1 hb2
       obtain ⟨_, _, f⟩ := hy
       obtain ⟨f1, f2⟩ := f rfl
       have hl' : look c.heap id = some (.mt k ver xs) := by rw [r.heap]; exact hl
       obtain ⟨b3, b4, bb⟩ := r.hrel.blk id _ hl'
       have hlen : ((xs.drop off).take len).length = len := by simp; omega
       rcases f2 with ⟨f2, f3, _⟩ | ⟨b, o', f2, f3⟩
       · exact .inl ⟨⟨_, f2⟩, List.eq_nil_of_length_eq_zero (by omega)⟩
       by_cases hl0 : len = 0
       · subst hl0
         refine .inr ⟨b, o', (c.pl id).cap - off, [], by simpa using f2, by simp, by simp, by simp [RelL], by simp, by simp, by simp⟩
       obtain ⟨vs, e, b1, b2, b5, b6⟩ := bb (by omega)
       have hfl : ((xs.drop off).take len).flatten = (xs.flatten.drop (off * k)).take (len * k) := flatten_window b4 off len (by omega)
       refine .inr ⟨b, o', (c.pl id).cap - off, ((vs.toList.take (xs.length * k)).drop (off * k)).take (len * k), by rw [hlen]; exact f2, by rw [hlen]; omega, ?_, ?_, ?_, ?_, ?_⟩
       · intro x hx
         exact b4 x (List.mem_of_mem_drop (List.mem_of_mem_take hx))
       · rw [hfl]; exact (b5.drop _).take _
       · have h1 : (off + len) * k ≤ xs.length * k := Nat.mul_le_mul_right _ f1
         have h2 : xs.length * k ≤ vs.size := by rw [b2]; exact Nat.mul_le_mul_right _ b3
         rw [Nat.add_mul] at h1
         rw [hlen]
         simp; omega
       · intro j v hv
         rw [List.getElem?_take] at hv
         split at hv
         · rename_i hj
           rw [List.getElem?_drop, List.getElem?_take] at hv
           split at hv
           · have hlpos : 0 < len := by
               rcases Nat.eq_zero_or_pos len with h0 | h0
               · subst h0; simp at hj
               · exact h0
             obtain ⟨rfl, rfl⟩ := f3 (by omega)
             rw [cell_in_block b1]
             simpa using hv
           · simp at hv
         · simp at hv
       · intro v hv
         exact b6 v (List.mem_of_mem_drop (List.mem_of_mem_take hv))
     · simp at h
   · simp at h
 · simp at h
end
end Uw
namespace Uw
open Go Go.RowKit
variable [Glob]
section
variable {P : Program} {Q : MExit → St → Prop} {q : V → St → Tree} {c : Cx} {w0 : World} {n : Nat} {gs : Fr} {st : St} {a : Act} {K : Act → World → Prop} {Qx : Exit → Act → World → Prop} {o : Oper} {xx : MExit → St → Tree}
theorem push_row (r : Rel c w0 n gs st a) (m : Bool) {k cap : Nat} {xs : List (List Dat)} {us : List Value} {vs : Array Value} {e : TypeId} (h1 : ∀ x ∈ xs, x.length = k) (h2 : RelL c.w (Imm c) xs.flatten us) (h3 : ∀ v ∈ us, one v = true)
   (h4 : vs.size = cap * k) (h5 : xs.length ≤ cap) (h6 : vs.toList.take (xs.length * k) = us) :
   Rel (c.push st.next cap (rowBlk m k xs) (.cells vs e)) w0 n gs (newBlk st (rowBlk m k xs)) a ∧ RelV (c.push st.next cap (rowBlk m k xs) (.cells vs e)) (.ref st.next 0 0 xs.length) (.slice (some ⟨c.w.heap.size, 0, none⟩) xs.length cap) := by
 have hev : Evo c (c.push st.next cap (rowBlk m k xs) (.cells vs e)) := Evo.push r.hrel
 have hpl : (c.push st.next cap (rowBlk m k xs) (.cells vs e)).pl st.next = ⟨c.w.heap.size, cap⟩ := by simp [Cx.push]
 have hlook : look (c.push st.next cap (rowBlk m k xs) (.cells vs e)).heap st.next = some (rowBlk m k xs) := by simp [Cx.push, look_cons]
 have hblk : (c.push st.next cap (rowBlk m k xs) (.cells vs e)).w.heap[c.w.heap.size]? = some (.cells vs e (0, 0)) := by
   show (c.w.heap.push (.cells vs e))[c.w.heap.size]? = _
   simp
 have h2' := RelL.keep hev.keeps _ _ h2
 have hul : us.length = xs.length * k := by
   rw [h2.length, flatten_len h1]
 cases m with
 | true =>
   have hb : BlkRel (c.push st.next cap (rowBlk true k xs) (.cells vs e)) st.next (rowBlk true k xs) := by
     refine ⟨by rw [hpl]; exact h5, h1, fun _ => ⟨vs, e, by rw [hpl]; exact hblk, by rw [hpl]; exact h4, by rw [h6]; exact h2', by rw [h6]; exact h3⟩⟩
   refine ⟨r.push hb, ?_⟩
   have hpl' : (c.push st.next cap (.mt k 0 xs) (.cells vs e)).pl st.next = ⟨c.w.heap.size, cap⟩ := hpl
   simp only [RelV]
   rw [hlook]
   simp only [rowBlk]
   refine ⟨Nat.le_refl _, ⟨_, _, _, rfl⟩, fun _ => ⟨by simp, .inr ⟨c.w.heap.size, 0, ?_, fun _ => ?_⟩⟩⟩
   · rw [hpl']; rfl
   · rw [hpl']; simp
 | false =>
   have hE : RelE (c.push st.next cap (rowBlk false k xs) (.cells vs e)).w (Imm (c.push st.next cap (rowBlk false k xs) (.cells vs e))) c.w.heap.size k 0 xs := by
     refine RelE.of_flat h1 h2' ?_
     intro j v hv
     have hj : j < us.length := by
       by_cases hh : j < us.length
       · exact hh
       · rw [List.getElem?_eq_none (by omega)] at hv; cases hv
     refine ⟨?_, ?_, h3 v (List.mem_of_getElem? hv)⟩
     · rw [cell_in_block hblk]
       rw [← h6, List.getElem?_take, if_pos (by omega)] at hv
       simpa using hv
     · refine .inr ⟨r.hrel.old_ge (Nat.le_refl _), ?_, ?_⟩
       · show c.w.heap.size < (c.w.heap.push (.cells vs e)).size
         simp
       · intro id blk hl hph hg
         by_cases hid : st.next = id
         · subst hid
           rw [hlook] at hl; injection hl with hl; subst hl
           exact ⟨k, xs, rfl, by omega⟩
         · exfalso
           simp only [Cx.push, look_cons, if_neg hid] at hl
           simp [Cx.push, show id ≠ st.next from fun h => hid h.symm] at hg hph
           have := r.hrel.gb_lt hl hph
           omega
   have hb : BlkRel (c.push st.next cap (rowBlk false k xs) (.cells vs e)) st.next (rowBlk false k xs) := by
     refine ⟨by rw [hpl]; exact h5, fun _ => ⟨vs, e, by rw [hpl]; exact hblk, by rw [hpl]; exact h4, by rw [hpl]; exact hE⟩⟩
   refine ⟨r.push hb, ?_⟩
   have hpl' : (c.push st.next cap (.arr k xs) (.cells vs e)).pl st.next = ⟨c.w.heap.size, cap⟩ := hpl
   simp only [RelV]
   rw [hlook]
   simp only [rowBlk]
   refine ⟨by simp, .inr ⟨c.w.heap.size, 0, cap, rfl, h5, ?_, fun _ => ?_⟩⟩
   · have hE' : RelE (c.push st.next cap (.arr k xs) (.cells vs e)).w (Imm (c.push st.next cap (.arr k xs) (.cells vs e))) c.w.heap.size k 0 xs := hE
     simpa using hE'
   · rw [hpl']; simp
theorem zero_row (r : Rel c w0 n gs st a) (m : Bool) (k : Nat) {x : Option Addr} (hx : x = none ∨ ∃ b o, x = some ⟨b, o, none⟩) :
   Rel (c.zero st.next (rowBlk m k [])) w0 n gs (newBlk st (rowBlk m k [])) a ∧ RelV (c.zero st.next (rowBlk m k [])) (.ref st.next 0 0 0) (.slice x 0 0) := by
 have hlook : look (c.zero st.next (rowBlk m k [])).heap st.next = some (rowBlk m k []) := by simp [Cx.zero, look_cons]
 have hpl : (c.zero st.next (rowBlk m k [])).pl st.next = ⟨0, 0⟩ := by simp [Cx.zero]
 have hph : ¬ Ph ⟨0, 0⟩ (rowBlk m k []) := by cases m <;> simp [rowBlk, Ph]
 refine ⟨r.zero hph ?_, ?_⟩
 · cases m with
   | true => exact ⟨by simp, by simp, fun h => by rw [hpl] at h; simp at h⟩
   | false => exact ⟨by simp, fun h => by rw [hpl] at h; simp at h⟩
 · simp only [RelV]
   rw [hlook]
   cases m with
   | true =>
     refine ⟨Nat.le_refl _, ⟨_, _, _, rfl⟩, fun _ => ⟨by simp, ?_⟩⟩
     rcases hx with rfl | ⟨b, o, rfl⟩
     · exact .inl ⟨rfl, rfl, rfl, by rw [hpl]⟩
     · exact .inr ⟨b, o, by rw [hpl]; rfl, fun h => by rw [hpl] at h; simp at h⟩
   | false =>
     refine ⟨by simp, ?_⟩
     rcases hx with rfl | ⟨b, o, rfl⟩
     · exact .inl ⟨rfl, rfl, fun _ => by rw [hpl]⟩
     · exact .inr ⟨b, o, 0, rfl, by simp, by simp [RelE], fun _ => by rw [hpl]; simp⟩
theorem run_app_zero {t ty e : TypeId} {i : TypeInfo} {w : World} {base xb : Option Addr} {sLen sCap xc : Nat} (ht : P.underlying t = some (.slice e)) (hi : P.info? e = some i) (hle : sLen ≤ sCap) :
   (Builtin.append_ #[t, t] ty #[.slice base sLen sCap, .slice xb 0 xc]).run P w = .ok (.slice base sLen sCap) w := by
 cases base <;> cases xb <;> simp [Builtin.append_, run_und ht, Go.sizeOf, typeInfo, hi, Builtin.lenOf, Builtin.firstCells, loadCells, loadCellsFrom, storeCells, hle]
theorem run_app_room {t ty e : TypeId} {i : TypeInfo} {w : World} {g off sLen sCap m cp b o' k : Nat} {cur : Array Value} {e' : TypeId} {news : List Value} (ht : P.underlying t = some (.slice e)) (hi : P.info? e = some i) (hk : i.size = k)
   (hg : w.heap[g]? = some (.cells cur e' (0, 0))) (hl : news.length = m * k) (hnews : ∀ j u, news[j]? = some u → w.cell? ⟨b, o' + j, none⟩ = some u) (h1 : ∀ u ∈ news, one u = true)
   (hroom : sLen + m ≤ sCap) (hfit : off + sLen * k + news.length ≤ cur.size) :
   ∃ w', (Builtin.append_ #[t, t] ty #[.slice (some ⟨g, off, none⟩) sLen sCap, .slice (some ⟨b, o', none⟩) m cp]).run P w = .ok (.slice (some ⟨g, off, none⟩) (sLen + m) sCap) w' ∧ Laid w w' g (layAt cur (off + sLen * k) news) e' := by
 obtain ⟨w', hw', L⟩ := run_storeCells (P := P) g (off + sLen * k) news 0 cur w hg (by omega) h1
 refine ⟨w', ?_, L⟩
 have hf : (Builtin.firstCells k m (.slice (some ⟨b, o', none⟩) m cp)).run P w = .ok news.toArray w := by
   simp only [Builtin.firstCells]
   exact run_loadCells hl hnews
 subst hk
 simp [Builtin.append_, run_und ht, Go.sizeOf, typeInfo, hi, Builtin.lenOf, hroom, hf, addr_add, hw']
theorem run_call_append {cl : Call} {x y : Operand} {t : TypeId} {w w' : World} {v : Value} (ho : o.op = .call cl) (hb : cl.callee = .builtin .append) (hx : cl.args.toList = [x, y]) (ht : cl.argTypes.toList = [t, t])
   (h : (Builtin.append_ #[t, t] o.type #[a.eval x, a.eval y]).run P w = .ok v w') : (execOp a.eval o).run P w = .ok (.value v) w' := by
 obtain ⟨cal, args, ats⟩ := cl
 simp only at hb hx ht
 subst hb
 have hx' : args = #[x, y] := by rw [← hx]
 have ht' : ats = #[t, t] := by rw [← ht]
 subst hx' ht'
 simp only [execOp, ho, resolve, invoke, builtin]
 simp [h]
theorem drew_rel (r : Rel c w0 n gs st a) : Rel { c with w := c.w.drew } w0 n gs st a :=
 r.grow ⟨rfl, rfl, rfl, Nat.le_refl _, fun _ _ => rfl⟩
theorem imm_drew (c : Cx) : Keeps c.w c.w.drew (Imm c) (Imm { c with w := c.w.drew }) := by
 intro b o' h
 exact ⟨h, rfl⟩
structure ElemT (P : Program) (t e : TypeId) (k bytes : Nat) : Prop where
 und : P.underlying t = some (.slice e)
 info : ∃ i z zs, P.info? e = some i ∧ i.size = k ∧ i.bytes = bytes ∧ i.zero = some z ∧ datsOf z.cells.toList = some zs ∧ z.cells.size = k
 pos : 0 < bytes
theorem grown_row (r : Rel c w0 n gs st a) (m : Bool) {k need cap : Nat} {e : TypeId} {z : Value} {xs : List (List Dat)} {us : List Value} (h1 : ∀ x ∈ xs, x.length = k) (h2 : RelL c.w (Imm c) xs.flatten us) (h3 : ∀ v ∈ us, one v = true) (hz : z.cells.size = k) (hn : xs.length = need) (hc : need ≤ cap) :
   ∃ c' : Cx, c'.B = c.B ∧ c'.J0 = c.J0 ∧ c'.w = c.w.drew.alloc (.cells (us.toArray ++ Builtin.zeroCells z.cells (cap - need)) e) ∧ Rel c' w0 n gs (newBlk st (rowBlk m k xs)) a ∧
   RelV c' (.ref st.next 0 0 xs.length) (.slice (some ⟨c.w.heap.size, 0, none⟩) xs.length cap) := by
 have hul : us.length = xs.length * k := by rw [h2.length, flatten_len h1]
 refine ⟨Cx.push { c with w := c.w.drew } st.next cap (rowBlk m k xs) (.cells (us.toArray ++ Builtin.zeroCells z.cells (cap - need)) e), rfl, rfl, rfl, ?_⟩
 refine push_row (drew_rel r) m h1 (RelL.keep (imm_drew c) _ _ h2) h3 ?_ (by omega) ?_
 · have hz' : (Builtin.zeroCells z.cells (cap - need)).size = (cap - need) * k := by simp [Builtin.zeroCells, hz]
   rw [Array.size_append, hz', List.size_toArray, hul, hn, ← Nat.add_mul]
   congr 1; omega
 · rw [Array.toList_append, ← hul]; simp
end
end Uw
namespace Uw
open Go Go.RowKit
variable [Glob]
section
variable {P : Program} {Q : MExit → St → Prop} {q : V → St → Tree} {c : Cx} {w0 : World} {n : Nat} {gs : Fr} {st : St} {a : Act} {K : Act → World → Prop} {Qx : Exit → Act → World → Prop} {o : Oper} {xx : MExit → St → Tree}
theorem Rel.setBlk (r : Rel c w0 n gs st a) {id : Nat} {b b' : Blk} {p' : Pl} (hl : look c.heap id = some b) {w' : World}
   (hother : ∀ k, k < c.w.heap.size → (Ph (c.pl id) b → k ≠ (c.pl id).gb) → w'.heap[k]? = c.w.heap[k]?) (hsz : c.w.heap.size ≤ w'.heap.size) (hbel : Below c.B c.w w')
   (hp : (p'.gb = (c.pl id).gb ∧ (Ph p' b' → Ph (c.pl id) b)) ∨ c.w.heap.size ≤ p'.gb)
   (himm : Ph (c.pl id) b → ∀ o, Imm c (c.pl id).gb o → w'.cell? ⟨(c.pl id).gb, o, none⟩ = c.w.cell? ⟨(c.pl id).gb, o, none⟩ ∧ (p'.gb = (c.pl id).gb → ∃ k xs, b' = .arr k xs ∧ o < xs.length * k))
   (hbe : BlkEvo (c.pl id) p' b b') (hb : Evo c (c.setBlk id b' p' w') → BlkRel (c.setBlk id b' p' w') id b') : Rel (c.setBlk id b' p' w') w0 n gs { st with heap := (id, b') :: st.heap } a := by
 have he := Evo.setBlk r.hrel hl hother hsz hp himm hbe
 exact r.evo he (by simp [Cx.setBlk, r.heap]) (r.hrel.setBlk hl he hother hbel hp (hb he)) rfl rfl rfl (Nat.le_refl _)
theorem run_app_row {t e ty : TypeId} {k bytes g cap len m cp b o' : Nat} {w : World} {vs : Array Value} {e' : TypeId} {us : List Value} (he : ElemT P t e k bytes) (hg : w.heap[g]? = some (.cells vs e' (0, 0))) (hs : vs.size = cap * k) (hlen : len ≤ cap)
   (hone : ∀ v ∈ vs.toList.take (len * k), one v = true)
   (hl : us.length = m * k) (hn : ∀ j v, us[j]? = some v → w.cell? ⟨b, o' + j, none⟩ = some v) (h1 : ∀ v ∈ us, one v = true) (hby : (len + m) * bytes ≤ 70368744177664) :
   (∃ w', (Builtin.append_ #[t, t] ty #[.slice (some ⟨g, 0, none⟩) len cap, .slice (some ⟨b, o', none⟩) m cp]).run P w = .ok (.slice (some ⟨g, 0, none⟩) (len + m) cap) w' ∧ len + m ≤ cap ∧ Laid w w' g (layAt vs (len * k) us) e') ∨
   (∃ w' cap' vs', (Builtin.append_ #[t, t] ty #[.slice (some ⟨g, 0, none⟩) len cap, .slice (some ⟨b, o', none⟩) m cp]).run P w = .ok (.slice (some ⟨w.heap.size, 0, none⟩) (len + m) cap') w' ∧ len + m ≤ cap' ∧ w' = w.drew.alloc (.cells vs' e) ∧ vs'.size = cap' * k ∧
     vs'.toList.take ((len + m) * k) = vs.toList.take (len * k) ++ us) := by
 obtain ⟨i, z, zs, hi, hsz, hbyt, hzero, hzs, hzk⟩ := he.info
 have hund := he.und
 have hpos := he.pos
 have hle : len + m ≤ 70368744177664 := Nat.le_trans (Nat.le_mul_of_pos_right _ hpos) hby
 have hlk : len * k ≤ vs.size := by rw [hs]; exact Nat.mul_le_mul_right _ hlen
 by_cases hroom : len + m ≤ cap
 · left
   have hfit : 0 + len * k + us.length ≤ vs.size := by
     rw [hl, hs, Nat.zero_add, ← Nat.add_mul]; exact Nat.mul_le_mul_right _ hroom
   obtain ⟨w', hw', L⟩ := run_app_room (P := P) (ty := ty) (cp := cp) (off := 0) hund hi hsz hg hl hn h1 hroom hfit
   exact ⟨w', hw', hroom, by simpa using L⟩
 · right
   have hold : (vs.toList.take (len * k)).length = len * k := by simp; omega
   have hgr := run_append_grow w t ty e i z hund hi hzero ⟨g, 0, none⟩ len cap (vs.toList.take (len * k)) (by rw [hsz]; exact hold) (fun j v hv => by
       rw [addr_add, cell_in_block hg]
       rw [List.getElem?_take] at hv
       split at hv
       · simpa using hv
       · simp at hv) ⟨b, o', none⟩ m cp us (by rw [hsz]; exact hl) (fun j v hv => by rw [addr_add]; exact hn j v hv) (by omega) (by omega) (growslice_fits (by omega) (by rw [hbyt]; omega))
   have hge := grownCap_ge w (len + m) cap e
   refine ⟨_, grownCap w (len + m) cap e, _, hgr, hge, rfl, ?_, ?_⟩
   · have hz' : (Builtin.zeroCells z.cells (grownCap w (len + m) cap e - (len + m))).size = (grownCap w (len + m) cap e - (len + m)) * k := by simp [Builtin.zeroCells, hzk]
     rw [Array.size_append, Array.size_append, hz', List.size_toArray, List.size_toArray, hold, hl, ← Nat.add_mul, ← Nat.add_mul]
     congr 1; omega
   · have h3 : (vs.toList.take (len * k) ++ us).length = (len + m) * k := by rw [List.length_append, hold, hl, Nat.add_mul]
     simp only [Array.toList_append, List.append_assoc]
     rw [← List.append_assoc, ← h3]
     exact List.take_left
theorem run_app_none {t e ty : TypeId} {k bytes m cp b o' b1 o1 : Nat} {w : World} {us : List Value} (he : ElemT P t e k bytes)
   (hl : us.length = m * k) (hn : ∀ j v, us[j]? = some v → w.cell? ⟨b, o' + j, none⟩ = some v) (hm : 0 < m) (hby : m * bytes ≤ 70368744177664) :
   ∃ w' cap' vs', (Builtin.append_ #[t, t] ty #[.slice (some ⟨b1, o1, none⟩) 0 0, .slice (some ⟨b, o', none⟩) m cp]).run P w = .ok (.slice (some ⟨w.heap.size, 0, none⟩) m cap') w' ∧ m ≤ cap' ∧ w' = w.drew.alloc (.cells vs' e) ∧ vs'.size = cap' * k ∧
     vs'.toList.take (m * k) = us := by
 obtain ⟨i, z, zs, hi, hsz, hbyt, hzero, hzs, hzk⟩ := he.info
 have hund := he.und
 have hpos := he.pos
 have hle : m ≤ 70368744177664 := Nat.le_trans (Nat.le_mul_of_pos_right _ hpos) hby
 have hgr := run_append_grow w t ty e i z hund hi hzero ⟨b1, o1, none⟩ 0 0 [] (by simp) (by simp) ⟨b, o', none⟩ m cp us (by rw [hsz]; exact hl) (fun j v hv => by rw [addr_add]; exact hn j v hv) (by omega) (by omega) (growslice_fits (by omega) (by rw [hbyt, Nat.zero_add]; omega))
 simp only [Nat.zero_add] at hgr
 have hge := grownCap_ge w m 0 e
 refine ⟨_, grownCap w m 0 e, _, hgr, hge, rfl, ?_, ?_⟩
 · have hz' : (Builtin.zeroCells z.cells (grownCap w m 0 e - m)).size = (grownCap w m 0 e - m) * k := by simp [Builtin.zeroCells, hzk]
   rw [Array.size_append, Array.size_append, hz', List.size_toArray, List.size_toArray, hl, List.length_nil, Nat.zero_add, ← Nat.add_mul]
   congr 1; omega
 · simp only [Array.toList_append, List.append_assoc, List.nil_append]
   rw [← hl]
   exact List.take_left
theorem layAt_take {vs : Array Value} {us : List Value} {p m : Nat} (h : p + us.length = m) (hm : m ≤ vs.size) : (layAt vs p us).toList.take m = vs.toList.take p ++ us := by
 rw [layAt_list]
 apply List.ext_getElem?
 intro j
 rw [List.getElem?_take, setAt_get]
 simp only [Array.length_toList]
 by_cases hj : j < p
 · rw [List.getElem?_append_left (by simp; omega), List.getElem?_take, if_pos hj, if_pos (by omega), if_neg (by omega)]
 · rw [List.getElem?_append_right (by simp; omega)]
   simp only [List.length_take, Array.length_toList]
   by_cases hjm : j < m
   · rw [if_pos hjm, if_pos (by omega)]
     congr 1; omega
   · rw [if_neg hjm]
     rw [List.getElem?_eq_none (by omega)]
theorem app_mt (r : Rel c w0 n gs st a) (hK : NextOK P Q q c w0 n gs st a o.dst K) {cl : Call} {x1 x2 : Operand} {t e : TypeId} {k bytes id ver len : Nat} {xs ys : List (List Dat)} (ho : o.op = .call cl) (hb : cl.callee = .builtin .append) (hx : cl.args.toList = [x1, x2]) (ht : cl.argTypes.toList = [t, t])
   (he : ElemT P t e k bytes) (hl' : look st.heap id = some (.mt k ver xs)) (hv1 : RelV c (.ref id ver 0 len) (a.eval x1)) (e2 : SrcOK c k (a.eval x2) ys) (hby : (len + ys.length) * bytes ≤ 70368744177664)
   (h : WT P Q (q (.ref id (ver + 1) 0 (len + ys.length)) { st with heap := (id, .mt k (ver + 1) (xs.take len ++ ys)) :: st.heap })) : o.wp P a c.w K Qx := by
 have hl : look c.heap id = some (.mt k ver xs) := by rw [r.heap]; exact hl'
 simp only [RelV, hl] at hv1
 obtain ⟨_, _, hv1⟩ := hv1
 obtain ⟨v1, v2⟩ := hv1 rfl
 simp only [Nat.zero_add, Nat.sub_zero, Nat.zero_mul] at v1 v2
 obtain ⟨b3, b4, bb⟩ := r.hrel.blk id _ hl
 have hll : (xs.take len).length = len := by simp; omega
 have hk1 : ∀ x ∈ xs.take len, x.length = k := fun x hx => b4 x (List.mem_of_mem_take hx)
 by_cases hcap0 : (c.pl id).cap = 0
 · -- there is no room, and nothing
   have hl0 : len = 0 := by omega
   have hxs : xs = [] := List.eq_nil_of_length_eq_zero (by omega)
   subst hl0 hxs
   have nph : ¬ Ph (c.pl id) (.mt k ver []) := by simp [Ph, hcap0]
   obtain ⟨xa, hxa, hxa'⟩ : ∃ xa : Option Addr, a.eval x1 = .slice xa 0 0 ∧ (xa = none ∨ ∃ b o, xa = some ⟨b, o, none⟩) := by
     rcases v2 with ⟨v2, _⟩ | ⟨b, o1, v2, _⟩
     · exact ⟨none, v2, .inl rfl⟩
     · exact ⟨some ⟨b, o1, none⟩, by rw [v2, hcap0], .inr ⟨b, o1, rfl⟩⟩
   have hstay : ys = [] → (∃ xb xc, a.eval x2 = .slice xb 0 xc) → o.wp P a c.w K Qx := by
     rintro rfl ⟨xb, xc, hx2⟩
     simp only [List.append_nil, List.take_nil, List.length_nil, Nat.add_zero] at h
     have hrel : Rel (c.setBlk id (.mt k (ver + 1) []) (c.pl id) c.w) w0 n gs { st with heap := (id, .mt k (ver + 1) []) :: st.heap } a := by
       refine r.setBlk hl (fun _ _ _ => rfl) (Nat.le_refl _) (Below.refl _ _) (.inl ⟨rfl, fun h => h⟩) (fun hh => (nph hh).elim) ⟨rfl, by omega, fun hh => by omega⟩ (fun hev => ?_)
       exact ⟨by simp, by simp, fun hh => by rw [look_setBlk_same.2] at hh; omega⟩
     refine wp_value (w' := c.w) (run_call_append ho hb hx ht ?_) (hK (c.setBlk id (.mt k (ver + 1) []) (c.pl id) c.w) _ (.ref id (ver + 1) 0 0) (.slice xa 0 0) rfl rfl hrel rfl ?_ h)
     · rw [hxa, hx2]
       obtain ⟨i, z, zs, hi, _⟩ := he.info
       exact run_app_zero he.und hi (by omega)
     · simp only [RelV, look_setBlk_same.1]
       refine ⟨Nat.le_refl _, ⟨_, _, _, rfl⟩, fun _ => ⟨by simp, ?_⟩⟩
       rw [look_setBlk_same.2]
       rcases hxa' with rfl | ⟨b, o1, rfl⟩
       · exact .inl ⟨rfl, rfl, rfl, hcap0⟩
       · exact .inr ⟨b, o1, by rw [hcap0], fun hh => by omega⟩
   rcases e2 with ⟨⟨_, e2⟩, rfl⟩ | ⟨bb', o', cp, us, e2, e3, e4, e5, e6, e7, e8⟩
   · exact hstay rfl ⟨_, 0, e2⟩
   · by_cases hy0 : ys = []
     · exact hstay hy0 ⟨_, cp, by rw [e2, hy0]; rfl⟩
     · have hpos' : 0 < ys.length := by cases ys <;> simp_all
       simp only [List.take_nil, List.nil_append, Nat.zero_add] at h hby
       have hrun : ∃ w' cap' vs', (Builtin.append_ #[t, t] o.type #[a.eval x1, a.eval x2]).run P c.w = .ok (.slice (some ⟨c.w.heap.size, 0, none⟩) ys.length cap') w' ∧ ys.length ≤ cap' ∧ w' = c.w.drew.alloc (.cells vs' e) ∧ vs'.size = cap' * k ∧ vs'.toList.take (ys.length * k) = us := by
         rcases hxa' with rfl | ⟨b, o1, rfl⟩
         · obtain ⟨i, z, zs, hi, hsz, hbyt, hzero, hzs, hzk⟩ := he.info
           have hlen : ys.length ≤ 70368744177664 := Nat.le_trans (Nat.le_mul_of_pos_right _ he.pos) hby
           have hge := grownCap_ge c.w ys.length 0 e
           rw [hxa, e2]
           refine ⟨_, _, _, run_append_nil c.w t o.type e i z he.und hi hzero ⟨bb', o', none⟩ ys.length cp us (by rw [hsz]; exact e6) (fun j v hv => by rw [addr_add]; exact e7 j v hv) hpos' (by omega) (by rw [hbyt]; omega), hge, rfl, ?_, ?_⟩
           · have hz' : (Builtin.zeroCells z.cells (grownCap c.w ys.length 0 e - ys.length)).size = (grownCap c.w ys.length 0 e - ys.length) * k := by simp [Builtin.zeroCells, hzk]
             rw [Array.size_append, hz', List.size_toArray, e6, ← Nat.add_mul]
             congr 1; omega
           · rw [Array.toList_append, ← e6]; simp
         · rw [hxa, e2]
           exact run_app_none he e6 e7 hpos' hby
       obtain ⟨w', cap', vs', hw', hroom, rfl, hs', htake⟩ := hrun
       have hbel : Below c.B c.w (c.w.drew.alloc (.cells vs' e)) := (Below.refl c.B c.w).drew.alloc r.hrel.B_le _
       have hrel : Rel (c.setBlk id (.mt k (ver + 1) ys) ⟨c.w.heap.size, cap'⟩ (c.w.drew.alloc (.cells vs' e))) w0 n gs { st with heap := (id, .mt k (ver + 1) ys) :: st.heap } a := by
         refine r.setBlk hl (fun k' hk' _ => Below.heap_alloc c.w.drew _ _ hk') (by rw [show (c.w.drew.alloc (Obj.cells vs' e)).heap = c.w.heap.push (.cells vs' e) from rfl]; simp) hbel (.inr (Nat.le_refl _)) (fun hh => (nph hh).elim) ⟨rfl, by omega, fun hh => by omega⟩ (fun hev => ?_)
         refine ⟨by rw [look_setBlk_same.2]; exact hroom, e4, fun _ => ⟨vs', e, ?_, by rw [look_setBlk_same.2]; exact hs', ?_, ?_⟩⟩
         · rw [look_setBlk_same.2]
           show (c.w.heap.push (.cells vs' e))[c.w.heap.size]? = _
           simp
         · rw [htake]; exact RelL.keep hev.keeps _ _ e5
         · rw [htake]; exact e8
       refine wp_value (run_call_append ho hb hx ht hw') (hK (c.setBlk id (.mt k (ver + 1) ys) ⟨c.w.heap.size, cap'⟩ (c.w.drew.alloc (.cells vs' e))) _ (.ref id (ver + 1) 0 ys.length) _ rfl rfl hrel rfl ?_ h)
       simp only [RelV, look_setBlk_same.1]
       refine ⟨Nat.le_refl _, ⟨_, _, _, rfl⟩, fun _ => ⟨by omega, .inr ⟨c.w.heap.size, 0, ?_, ?_⟩⟩⟩
       · rw [look_setBlk_same.2]; rfl
       · rw [look_setBlk_same.2]; simp
 have hcap : 0 < (c.pl id).cap := by omega
 obtain ⟨vs, e', b1, b2, b5, b6⟩ := bb hcap
 have hge := r.hrel.ge id _ hl hcap
 have hgb := r.hrel.geB hl hcap
 obtain ⟨b, o1, v2, v3⟩ : ∃ b o, a.eval x1 = .slice (some ⟨b, o, none⟩) len (c.pl id).cap ∧ (0 < (c.pl id).cap → b = (c.pl id).gb ∧ o = 0) := by
   rcases v2 with ⟨_, _, _, v2⟩ | v2
   · omega
   · exact v2
 have hlk : len * k ≤ xs.length * k := Nat.mul_le_mul_right _ v1
 have hsz : xs.length * k ≤ vs.size := by rw [b2]; exact Nat.mul_le_mul_right _ b3
 have htk : (vs.toList.take (xs.length * k)).take (len * k) = vs.toList.take (len * k) := by rw [List.take_take]; congr 1; omega
 have hold : RelL c.w (Imm c) (xs.take len).flatten (vs.toList.take (len * k)) := by
   rw [flatten_take b4 len v1, ← htk]; exact b5.take _
 have hone : ∀ v ∈ vs.toList.take (len * k), one v = true := fun v hv => b6 v (by rw [← htk] at hv; exact List.mem_of_mem_take hv)
 have noimm : ∀ o, Imm c (c.pl id).gb o → False := by
   intro o hi
   rcases hi with hi | ⟨_, _, g3⟩
   · exact hge hi.1
   · obtain ⟨_, _, hh, _⟩ := g3 id _ hl hcap rfl; cases hh
 -- nothing is appended
 have zero : ys = [] → (∃ xb xc, a.eval x2 = .slice xb 0 xc) → o.wp P a c.w K Qx := by
   rintro rfl ⟨xb, xc, hx2⟩
   simp only [List.append_nil, List.length_nil, Nat.add_zero] at h
   have hrel : Rel (c.setBlk id (.mt k (ver + 1) (xs.take len)) (c.pl id) c.w) w0 n gs { st with heap := (id, .mt k (ver + 1) (xs.take len)) :: st.heap } a := by
     refine r.setBlk hl (fun _ _ _ => rfl) (Nat.le_refl _) (Below.refl _ _) (.inl ⟨rfl, fun _ => hcap⟩) (fun _ o hi => (noimm o hi).elim) ⟨rfl, by omega, fun hh => by omega⟩ (fun hev => ?_)
     refine ⟨by rw [look_setBlk_same.2]; omega, hk1, fun _ => ⟨vs, e', by rw [look_setBlk_same.2]; exact b1, by rw [look_setBlk_same.2]; exact b2, ?_, ?_⟩⟩
     · rw [hll]; exact RelL.keep hev.keeps _ _ hold
     · rw [hll]; exact hone
   refine wp_value (w' := c.w) (run_call_append ho hb hx ht ?_) (hK (c.setBlk id (.mt k (ver + 1) (xs.take len)) (c.pl id) c.w) _ (.ref id (ver + 1) 0 len) (a.eval x1) rfl rfl hrel rfl ?_ h)
   · rw [v2, hx2]
     obtain ⟨i, z, zs, hi, _⟩ := he.info
     exact run_app_zero he.und hi (by omega)
   · simp only [RelV, look_setBlk_same.1]
     refine ⟨Nat.le_refl _, ⟨_, _, _, v2⟩, fun _ => ⟨by omega, .inr ⟨b, o1, ?_, ?_⟩⟩⟩
     · rw [look_setBlk_same.2]; exact v2
     · rw [look_setBlk_same.2]; simpa using v3
 rcases e2 with ⟨⟨_, e2⟩, rfl⟩ | ⟨bb, o', cp, us, e2, e3, e4, e5, e6, e7, e8⟩
 · exact zero rfl ⟨_, 0, e2⟩
 · by_cases hy0 : ys = []
   · exact zero hy0 ⟨_, cp, by rw [e2, hy0]; rfl⟩
   · have hpos' : 0 < ys.length := by cases ys <;> simp_all
     have hk2 : ∀ x ∈ xs.take len ++ ys, x.length = k := fun x hx => by rcases List.mem_append.1 hx with hx | hx; exact hk1 x hx; exact e4 x hx
     have hfl : RelL c.w (Imm c) (xs.take len ++ ys).flatten (vs.toList.take (len * k) ++ us) := by rw [List.flatten_append]; exact hold.append e5
     have hone2 : ∀ v ∈ vs.toList.take (len * k) ++ us, one v = true := fun v hv => by rcases List.mem_append.1 hv with hv | hv; exact hone v hv; exact e8 v hv
     have hll2 : (xs.take len ++ ys).length = len + ys.length := by rw [List.length_append, hll]
     -- it moves
     have moved : ∀ (w' : World) (cap' : Nat) (vs' : Array Value), (Builtin.append_ #[t, t] o.type #[a.eval x1, a.eval x2]).run P c.w = .ok (.slice (some ⟨c.w.heap.size, 0, none⟩) (len + ys.length) cap') w' → len + ys.length ≤ cap' → w' = c.w.drew.alloc (.cells vs' e) → vs'.size = cap' * k →
         vs'.toList.take ((len + ys.length) * k) = vs.toList.take (len * k) ++ us → o.wp P a c.w K Qx := by
       rintro w' cap' vs' hw' hroom rfl hs' htake
       have hbel : Below c.B c.w (c.w.drew.alloc (.cells vs' e)) := (Below.refl c.B c.w).drew.alloc r.hrel.B_le _
       have hrel : Rel (c.setBlk id (.mt k (ver + 1) (xs.take len ++ ys)) ⟨c.w.heap.size, cap'⟩ (c.w.drew.alloc (.cells vs' e))) w0 n gs { st with heap := (id, .mt k (ver + 1) (xs.take len ++ ys)) :: st.heap } a := by
         refine r.setBlk hl (fun k' hk' _ => Below.heap_alloc c.w.drew _ _ hk') (by rw [show (c.w.drew.alloc (Obj.cells vs' e)).heap = c.w.heap.push (.cells vs' e) from rfl]; simp) hbel (.inr (Nat.le_refl _)) (fun _ o hi => (noimm o hi).elim) ⟨rfl, by omega, fun hh => by omega⟩ (fun hev => ?_)
         refine ⟨by rw [look_setBlk_same.2, hll2]; exact hroom, hk2, fun _ => ⟨vs', e, ?_, by rw [look_setBlk_same.2]; exact hs', ?_, ?_⟩⟩
         · rw [look_setBlk_same.2]
           show (c.w.heap.push (.cells vs' e))[c.w.heap.size]? = _
           simp
         · rw [hll2, htake]; exact RelL.keep hev.keeps _ _ hfl
         · rw [hll2, htake]; exact hone2
       refine wp_value (run_call_append ho hb hx ht hw') (hK (c.setBlk id (.mt k (ver + 1) (xs.take len ++ ys)) ⟨c.w.heap.size, cap'⟩ (c.w.drew.alloc (.cells vs' e))) _ (.ref id (ver + 1) 0 (len + ys.length)) _ rfl rfl hrel rfl ?_ h)
       simp only [RelV, look_setBlk_same.1]
       refine ⟨Nat.le_refl _, ⟨_, _, _, rfl⟩, fun _ => ⟨by omega, .inr ⟨c.w.heap.size, 0, ?_, ?_⟩⟩⟩
       · rw [look_setBlk_same.2]; rfl
       · rw [look_setBlk_same.2]; simp
     obtain ⟨rfl, rfl⟩ := v3 hcap
     rcases run_app_row (ty := o.type) (cp := cp) he b1 b2 (by omega) hone e6 e7 e8 hby with ⟨w', hw', hroom, L⟩ | ⟨w', cap', vs', hw', hroom, rfl, hs', htake⟩
     · have hrel : Rel (c.setBlk id (.mt k (ver + 1) (xs.take len ++ ys)) (c.pl id) w') w0 n gs { st with heap := (id, .mt k (ver + 1) (xs.take len ++ ys)) :: st.heap } a := by
         refine r.setBlk hl (fun k' _ hk' => L.other k' (hk' hcap)) (by rw [L.size]; exact Nat.le_refl _) (L.below hgb) (.inl ⟨rfl, fun _ => hcap⟩) (fun _ o hi => (noimm o hi).elim) ⟨rfl, by omega, fun hh => by omega⟩ (fun hev => ?_)
         have htk2 : (layAt vs (len * k) us).toList.take ((xs.take len ++ ys).length * k) = vs.toList.take (len * k) ++ us := by
           refine layAt_take ?_ ?_
           · rw [hll2, e6, Nat.add_mul]
           · rw [hll2, b2]; exact Nat.mul_le_mul_right _ hroom
         refine ⟨by rw [look_setBlk_same.2, hll2]; exact hroom, hk2, fun _ => ⟨_, e', by rw [look_setBlk_same.2]; exact L.here, by rw [look_setBlk_same.2, size_layAt]; exact b2, ?_, ?_⟩⟩
         · rw [htk2]; exact RelL.keep hev.keeps _ _ hfl
         · rw [htk2]; exact hone2
       refine wp_value (w' := w') (run_call_append ho hb hx ht (by rw [v2, e2]; exact hw')) (hK (c.setBlk id (.mt k (ver + 1) (xs.take len ++ ys)) (c.pl id) w') _ (.ref id (ver + 1) 0 (len + ys.length)) _ rfl rfl hrel rfl ?_ h)
       simp only [RelV, look_setBlk_same.1]
       refine ⟨Nat.le_refl _, ⟨_, _, _, rfl⟩, fun _ => ⟨by omega, .inr ⟨(c.pl id).gb, 0, ?_, ?_⟩⟩⟩
       · rw [look_setBlk_same.2]; rfl
       · rw [look_setBlk_same.2]; simp
     · exact moved _ cap' vs' (by rw [v2, e2]; exact hw') hroom rfl hs' htake
end
end Uw
namespace Uw
open Go Go.RowKit
variable [Glob]
section
variable {P : Program} {Q : MExit → St → Prop} {q : V → St → Tree} {c : Cx} {w0 : World} {n : Nat} {gs : Fr} {st : St} {a : Act} {K : Act → World → Prop} {Qx : Exit → Act → World → Prop} {o : Oper} {xx : MExit → St → Tree}
theorem arr_rel {c' : Cx} {id k cap gb : Nat} {xs : List (List Dat)} {us : List Value} {vs : Array Value} {e : TypeId} {w0' : World} {next : Nat} (hlook : look c'.heap id = some (.arr k xs)) (hpl : c'.pl id = ⟨gb, cap⟩) (hblk : c'.w.heap[gb]? = some (.cells vs e (0, 0))) (hB : ¬ c'.Old gb)
   (hinj : ∀ id' b', look c'.heap id' = some b' → Ph (c'.pl id') b' → (c'.pl id').gb = gb → id' = id)
   (h1 : ∀ x ∈ xs, x.length = k) (h2 : RelL c'.w (Imm c') xs.flatten us) (h3 : ∀ v ∈ us, one v = true) (h6 : vs.toList.take (xs.length * k) = us) : RelE c'.w (Imm c') gb k 0 xs := by
 have hul : us.length = xs.length * k := by rw [h2.length, flatten_len h1]
 refine RelE.of_flat h1 h2 ?_
 intro j v hv
 have hj : j < us.length := by
   by_cases hh : j < us.length
   · exact hh
   · rw [List.getElem?_eq_none (by omega)] at hv; cases hv
 refine ⟨?_, ?_, h3 v (List.mem_of_getElem? hv)⟩
 · rw [cell_in_block hblk]
   rw [← h6, List.getElem?_take, if_pos (by omega)] at hv
   simpa using hv
 · refine .inr ⟨hB, ?_, ?_⟩
   · by_cases hlt : gb < c'.w.heap.size
     · exact hlt
     · rw [Array.getElem?_eq_none (by omega)] at hblk; cases hblk
   · intro id' blk hl hph hg
     have := hinj id' blk hl hph hg
     subst this
     rw [hlook] at hl; injection hl with hl; subst hl
     exact ⟨k, xs, rfl, by omega⟩
theorem app_arr (r : Rel c w0 n gs st a) (hK : NextOK P Q q c w0 n gs st a o.dst K) {cl : Call} {x1 x2 : Operand} {t e : TypeId} {k bytes id ver len : Nat} {xs ys : List (List Dat)} (ho : o.op = .call cl) (hb : cl.callee = .builtin .append) (hx : cl.args.toList = [x1, x2]) (ht : cl.argTypes.toList = [t, t])
   (he : ElemT P t e k bytes) (hl' : look st.heap id = some (.arr k xs)) (hv1 : RelV c (.ref id ver 0 len) (a.eval x1)) (e2 : SrcOK c k (a.eval x2) ys) (hlen : len = xs.length) (hby : (len + ys.length) * bytes ≤ 70368744177664)
   (h : WT P Q (q (.ref id 0 0 (len + ys.length)) { st with heap := (id, .arr k (xs ++ ys)) :: st.heap })) : o.wp P a c.w K Qx := by
 have hl : look c.heap id = some (.arr k xs) := by rw [r.heap]; exact hl'
 subst hlen
 simp only [RelV, hl] at hv1
 obtain ⟨_, hv1⟩ := hv1
 obtain ⟨b3, bb⟩ := r.hrel.blk id _ hl
 by_cases hcap0 : (c.pl id).cap = 0
 · -- there is no room, and nothing
   have hxs : xs = [] := List.eq_nil_of_length_eq_zero (by omega)
   subst hxs
   have nph : ¬ Ph (c.pl id) (.arr k []) := by simp [Ph, hcap0]
   obtain ⟨xa, hxa, hxa'⟩ : ∃ xa : Option Addr, a.eval x1 = .slice xa 0 0 ∧ (xa = none ∨ ∃ b o, xa = some ⟨b, o, none⟩) := by
     rcases hv1 with ⟨v2, _⟩ | ⟨b, o1, cap, v2, _, _, v3⟩
     · exact ⟨none, v2, .inl rfl⟩
     · obtain ⟨v3, _⟩ := v3 (by simp)
       exact ⟨some ⟨b, o1, none⟩, by rw [v2, v3, hcap0]; rfl, .inr ⟨b, o1, rfl⟩⟩
   have hstay : ys = [] → (∃ xb xc, a.eval x2 = .slice xb 0 xc) → o.wp P a c.w K Qx := by
     rintro rfl ⟨xb, xc, hx2⟩
     simp only [List.append_nil, List.length_nil, Nat.add_zero] at h
     have hrel : Rel (c.setBlk id (.arr k []) (c.pl id) c.w) w0 n gs { st with heap := (id, .arr k []) :: st.heap } a := by
       refine r.setBlk hl (fun _ _ _ => rfl) (Nat.le_refl _) (Below.refl _ _) (.inl ⟨rfl, fun h => h⟩) (fun hh => (nph hh).elim) ⟨rfl, ⟨[], rfl⟩, fun _ => rfl⟩ (fun hev => ?_)
       exact ⟨by simp, fun hh => by rw [look_setBlk_same.2] at hh; omega⟩
     refine wp_value (w' := c.w) (run_call_append ho hb hx ht ?_) (hK (c.setBlk id (.arr k []) (c.pl id) c.w) _ (.ref id 0 0 0) (.slice xa 0 0) rfl rfl hrel rfl ?_ h)
     · rw [hxa, hx2]
       obtain ⟨i, z, zs, hi, _⟩ := he.info
       exact run_app_zero he.und hi (by omega)
     · simp only [RelV, look_setBlk_same.1]
       refine ⟨by simp, ?_⟩
       rw [look_setBlk_same.2]
       rcases hxa' with rfl | ⟨b, o1, rfl⟩
       · exact .inl ⟨rfl, rfl, fun _ => hcap0⟩
       · exact .inr ⟨b, o1, 0, rfl, by simp, by simp [RelE], fun _ => ⟨by rw [hcap0], fun hh => by omega⟩⟩
   rcases e2 with ⟨⟨_, e2⟩, rfl⟩ | ⟨bb', o', cp, us, e2, e3, e4, e5, e6, e7, e8⟩
   · exact hstay rfl ⟨_, 0, e2⟩
   · by_cases hy0 : ys = []
     · exact hstay hy0 ⟨_, cp, by rw [e2, hy0]; rfl⟩
     · have hpos' : 0 < ys.length := by cases ys <;> simp_all
       simp only [List.nil_append, List.length_nil, Nat.zero_add] at h hby
       have hrun : ∃ w' cap' vs', (Builtin.append_ #[t, t] o.type #[a.eval x1, a.eval x2]).run P c.w = .ok (.slice (some ⟨c.w.heap.size, 0, none⟩) ys.length cap') w' ∧ ys.length ≤ cap' ∧ w' = c.w.drew.alloc (.cells vs' e) ∧ vs'.size = cap' * k ∧ vs'.toList.take (ys.length * k) = us := by
         rcases hxa' with rfl | ⟨b, o1, rfl⟩
         · obtain ⟨i, z, zs, hi, hsz, hbyt, hzero, hzs, hzk⟩ := he.info
           have hlen : ys.length ≤ 70368744177664 := Nat.le_trans (Nat.le_mul_of_pos_right _ he.pos) hby
           have hge := grownCap_ge c.w ys.length 0 e
           rw [hxa, e2]
           refine ⟨_, _, _, run_append_nil c.w t o.type e i z he.und hi hzero ⟨bb', o', none⟩ ys.length cp us (by rw [hsz]; exact e6) (fun j v hv => by rw [addr_add]; exact e7 j v hv) hpos' (by omega) (by rw [hbyt]; omega), hge, rfl, ?_, ?_⟩
           · have hz' : (Builtin.zeroCells z.cells (grownCap c.w ys.length 0 e - ys.length)).size = (grownCap c.w ys.length 0 e - ys.length) * k := by simp [Builtin.zeroCells, hzk]
             rw [Array.size_append, hz', List.size_toArray, e6, ← Nat.add_mul]
             congr 1; omega
           · rw [Array.toList_append, ← e6]; simp
         · rw [hxa, e2]
           exact run_app_none he e6 e7 hpos' hby
       obtain ⟨w', cap', vs', hw', hroom, rfl, hs', htake⟩ := hrun
       have hbel : Below c.B c.w (c.w.drew.alloc (.cells vs' e)) := (Below.refl c.B c.w).drew.alloc r.hrel.B_le _
       have hblk : (c.w.drew.alloc (.cells vs' e)).heap[c.w.heap.size]? = some (.cells vs' e (0, 0)) := by
         show (c.w.heap.push (.cells vs' e))[c.w.heap.size]? = _
         simp
       have hsz2 : c.w.heap.size ≤ (c.w.drew.alloc (.cells vs' e)).heap.size := by rw [show (c.w.drew.alloc (Obj.cells vs' e)).heap = c.w.heap.push (.cells vs' e) from rfl]; simp
       have hbe : BlkEvo (c.pl id) ⟨c.w.heap.size, cap'⟩ (.arr k []) (.arr k ys) := ⟨rfl, ⟨ys, rfl⟩, fun hh => (hy0 hh).elim⟩
       have hev := Evo.setBlk (p' := ⟨c.w.heap.size, cap'⟩) (b' := .arr k ys) (w' := c.w.drew.alloc (.cells vs' e)) r.hrel hl (fun k' hk' _ => Below.heap_alloc c.w.drew _ _ hk') hsz2 (.inr (Nat.le_refl _)) (fun hh => (nph hh).elim) hbe
       have hinj0 : ∀ id' x, look (c.setBlk id (.arr k ys) ⟨c.w.heap.size, cap'⟩ (c.w.drew.alloc (.cells vs' e))).heap id' = some x → Ph ((c.setBlk id (.arr k ys) ⟨c.w.heap.size, cap'⟩ (c.w.drew.alloc (.cells vs' e))).pl id') x → ((c.setBlk id (.arr k ys) ⟨c.w.heap.size, cap'⟩ (c.w.drew.alloc (.cells vs' e))).pl id').gb = c.w.heap.size → id' = id := by
         intro id' x hx hph hg
         by_cases hid : id = id'
         · exact hid.symm
         · exfalso
           rw [(look_setBlk hid).1] at hx
           rw [(look_setBlk hid).2] at hg hph
           have := r.hrel.gb_lt hx hph
           omega
       have hE : RelE (c.setBlk id (.arr k ys) ⟨c.w.heap.size, cap'⟩ (c.w.drew.alloc (.cells vs' e))).w (Imm (c.setBlk id (.arr k ys) ⟨c.w.heap.size, cap'⟩ (c.w.drew.alloc (.cells vs' e)))) c.w.heap.size k 0 ys :=
         arr_rel (w0' := w0) (next := 0) look_setBlk_same.1 look_setBlk_same.2 hblk (r.hrel.old_ge (Nat.le_refl _)) hinj0 e4 (RelL.keep hev.keeps _ _ e5) e8 htake
       have hrel : Rel (c.setBlk id (.arr k ys) ⟨c.w.heap.size, cap'⟩ (c.w.drew.alloc (.cells vs' e))) w0 n gs { st with heap := (id, .arr k ys) :: st.heap } a := by
         refine r.setBlk hl (fun k' hk' _ => Below.heap_alloc c.w.drew _ _ hk') hsz2 hbel (.inr (Nat.le_refl _)) (fun hh => (nph hh).elim) hbe (fun _ => ?_)
         exact ⟨by rw [look_setBlk_same.2]; exact hroom, fun _ => ⟨vs', e, by rw [look_setBlk_same.2]; exact hblk, by rw [look_setBlk_same.2]; exact hs', by rw [look_setBlk_same.2]; exact hE⟩⟩
       refine wp_value (run_call_append ho hb hx ht hw') (hK (c.setBlk id (.arr k ys) ⟨c.w.heap.size, cap'⟩ (c.w.drew.alloc (.cells vs' e))) _ (.ref id 0 0 ys.length) _ rfl rfl hrel rfl ?_ h)
       simp only [RelV, look_setBlk_same.1]
       refine ⟨by omega, .inr ⟨c.w.heap.size, 0, cap', rfl, hroom, ?_, fun _ => ?_⟩⟩
       · rw [List.drop_zero, List.take_of_length_le (by omega)]; exact hE
       · rw [look_setBlk_same.2]; simp
 have hcap : 0 < (c.pl id).cap := by omega
 obtain ⟨vs, e', b1, b2, b4⟩ := bb hcap
 have hge := r.hrel.ge id _ hl hcap
 have hgb := r.hrel.geB hl hcap
 obtain ⟨b, o1, v2, v4, v5, v3⟩ : ∃ b o1, a.eval x1 = .slice (some ⟨b, o1, none⟩) xs.length (c.pl id).cap ∧ xs.length ≤ (c.pl id).cap ∧ RelE c.w (Imm c) b k o1 ((xs.drop 0).take xs.length) ∧ (0 < (c.pl id).cap → b = (c.pl id).gb ∧ o1 = 0) := by
   rcases hv1 with ⟨_, v2, v3⟩ | ⟨b, o1, cap, v2, v4, v5, v3⟩
   · have := v3 (by omega); omega
   · obtain ⟨v6, v3'⟩ := v3 (by omega)
     simp only [Nat.sub_zero, Nat.zero_mul] at v6 v3'
     subst v6
     exact ⟨b, o1, v2, v4, v5, v3'⟩
 obtain ⟨hk1, olds, p2, p3, p4, p5⟩ := RelE.flat b4
 have hsz : xs.length * k ≤ vs.size := by rw [b2]; exact Nat.mul_le_mul_right _ b3
 have hold : vs.toList.take (xs.length * k) = olds := by
   apply List.ext_getElem?
   intro j
   rw [List.getElem?_take]
   by_cases hj : j < xs.length * k
   · rw [if_pos hj]
     have hj' : j < olds.length := by omega
     have := p4 j olds[j] (List.getElem?_eq_getElem hj')
     rw [cell_in_block b1] at this
     rw [List.getElem?_eq_getElem hj']
     simpa using this
   · rw [if_neg hj, List.getElem?_eq_none (by omega)]
 have immlt : ∀ o', Imm c (c.pl id).gb o' → o' < xs.length * k := by
   intro o' hi
   rcases hi with hi | ⟨_, _, g3⟩
   · exact (hge hi.1).elim
   · obtain ⟨k', xs', hh, h4⟩ := g3 id _ hl hcap rfl
     injection hh with h5 h6
     subst h5 h6
     exact h4
 have hinj : ∀ (b' : Blk) (p' : Pl) (w' : World), (p'.gb = (c.pl id).gb ∨ c.w.heap.size ≤ p'.gb) → ∀ id' x, look (c.setBlk id b' p' w').heap id' = some x → Ph ((c.setBlk id b' p' w').pl id') x → ((c.setBlk id b' p' w').pl id').gb = p'.gb → id' = id := by
   intro b' p' w' hp id' x hx hph hg
   by_cases hid : id = id'
   · exact hid.symm
   · exfalso
     rw [(look_setBlk hid).1] at hx
     rw [(look_setBlk hid).2] at hg hph
     have := r.hrel.gb_lt hx hph
     rcases hp with hp | hp
     · exact hid (r.hrel.inj id' id x _ hx hl hph hcap (by rw [hg, hp])).symm
     · omega
 have zero : ys = [] → (∃ xb xc, a.eval x2 = .slice xb 0 xc) → o.wp P a c.w K Qx := by
   rintro rfl ⟨xb, xc, hx2⟩
   simp only [List.append_nil, List.length_nil, Nat.add_zero] at h
   have himm : ∀ o', Imm c (c.pl id).gb o' → c.w.cell? ⟨(c.pl id).gb, o', none⟩ = c.w.cell? ⟨(c.pl id).gb, o', none⟩ ∧ ((c.pl id).gb = (c.pl id).gb → ∃ k' xs', Blk.arr k xs = .arr k' xs' ∧ o' < xs'.length * k') :=
     fun o' hi => ⟨rfl, fun _ => ⟨k, xs, rfl, immlt o' hi⟩⟩
   have hbe : BlkEvo (c.pl id) (c.pl id) (.arr k xs) (.arr k xs) := ⟨rfl, ⟨[], by simp⟩, fun _ => rfl⟩
   have hev := Evo.setBlk (p' := c.pl id) (b' := .arr k xs) r.hrel hl (fun _ _ _ => rfl) (Nat.le_refl _) (.inl ⟨rfl, fun _ => hcap⟩) (fun _ => himm) hbe
   have hrel : Rel (c.setBlk id (.arr k xs) (c.pl id) c.w) w0 n gs { st with heap := (id, .arr k xs) :: st.heap } a := by
     refine r.setBlk hl (fun _ _ _ => rfl) (Nat.le_refl _) (Below.refl _ _) (.inl ⟨rfl, fun _ => hcap⟩) (fun _ => himm) hbe (fun hev => ?_)
     refine ⟨by rw [look_setBlk_same.2]; exact b3, fun _ => ⟨vs, e', by rw [look_setBlk_same.2]; exact b1, by rw [look_setBlk_same.2]; exact b2, by rw [look_setBlk_same.2]; exact RelE.keep hev.keeps _ _ _ _ b4⟩⟩
   refine wp_value (w' := c.w) (run_call_append ho hb hx ht ?_) (hK (c.setBlk id (.arr k xs) (c.pl id) c.w) _ (.ref id 0 0 xs.length) (a.eval x1) rfl rfl hrel rfl ?_ h)
   · rw [v2, hx2]
     obtain ⟨i, z, zs, hi, _⟩ := he.info
     exact run_app_zero he.und hi (by omega)
   · simp only [RelV, look_setBlk_same.1]
     refine ⟨by omega, .inr ⟨b, o1, (c.pl id).cap, v2, v4, RelE.keep hev.keeps _ _ _ _ v5, fun _ => ?_⟩⟩
     rw [look_setBlk_same.2]
     exact ⟨rfl, by simpa using v3⟩
 rcases e2 with ⟨⟨_, e2⟩, rfl⟩ | ⟨bb, o', cp, us, e2, e3, e4, e5, e6, e7, e8⟩
 · exact zero rfl ⟨_, 0, e2⟩
 · by_cases hy0 : ys = []
   · exact zero hy0 ⟨_, cp, by rw [e2, hy0]; rfl⟩
   · have hpos' : 0 < ys.length := by cases ys <;> simp_all
     have hk2 : ∀ x ∈ xs ++ ys, x.length = k := fun x hx => by rcases List.mem_append.1 hx with hx | hx; exact hk1 x hx; exact e4 x hx
     have hfl : RelL c.w (Imm c) (xs ++ ys).flatten (olds ++ us) := by rw [List.flatten_append]; exact p2.append e5
     have hone2 : ∀ v ∈ olds ++ us, one v = true := fun v hv => by rcases List.mem_append.1 hv with hv | hv; exact p5 v hv; exact e8 v hv
     have hll2 : (xs ++ ys).length = xs.length + ys.length := List.length_append
     have hne : (xs ++ ys = xs → False) := fun hh => by have := congrArg List.length hh; rw [List.length_append] at this; omega
     -- it moves
     have moved : ∀ (w' : World) (cap' : Nat) (vs' : Array Value), (Builtin.append_ #[t, t] o.type #[a.eval x1, a.eval x2]).run P c.w = .ok (.slice (some ⟨c.w.heap.size, 0, none⟩) (xs.length + ys.length) cap') w' → xs.length + ys.length ≤ cap' → w' = c.w.drew.alloc (.cells vs' e) → vs'.size = cap' * k →
         vs'.toList.take ((xs.length + ys.length) * k) = olds ++ us → o.wp P a c.w K Qx := by
       rintro w' cap' vs' hw' hroom rfl hs' htake
       have hbel : Below c.B c.w (c.w.drew.alloc (.cells vs' e)) := (Below.refl c.B c.w).drew.alloc r.hrel.B_le _
       have hblk : (c.w.drew.alloc (.cells vs' e)).heap[c.w.heap.size]? = some (.cells vs' e (0, 0)) := by
         show (c.w.heap.push (.cells vs' e))[c.w.heap.size]? = _
         simp
       have hlt := r.hrel.gb_lt hl hcap
       have himm : ∀ o', Imm c (c.pl id).gb o' → (c.w.drew.alloc (.cells vs' e)).cell? ⟨(c.pl id).gb, o', none⟩ = c.w.cell? ⟨(c.pl id).gb, o', none⟩ ∧ (c.w.heap.size = (c.pl id).gb → ∃ k' xs', Blk.arr k (xs ++ ys) = .arr k' xs' ∧ o' < xs'.length * k') :=
         fun o' hi => ⟨cell_of_block (Below.heap_alloc c.w.drew _ _ hlt), fun hh => by omega⟩
       have hbe : BlkEvo (c.pl id) ⟨c.w.heap.size, cap'⟩ (.arr k xs) (.arr k (xs ++ ys)) := ⟨rfl, ⟨ys, rfl⟩, fun hh => (hne hh).elim⟩
       have hsz2 : c.w.heap.size ≤ (c.w.drew.alloc (.cells vs' e)).heap.size := by rw [show (c.w.drew.alloc (Obj.cells vs' e)).heap = c.w.heap.push (.cells vs' e) from rfl]; simp
       have hev := Evo.setBlk (p' := ⟨c.w.heap.size, cap'⟩) (b' := .arr k (xs ++ ys)) (w' := c.w.drew.alloc (.cells vs' e)) r.hrel hl (fun k' hk' _ => Below.heap_alloc c.w.drew _ _ hk') hsz2 (.inr (Nat.le_refl _)) (fun _ => himm) hbe
       have hE : RelE (c.setBlk id (.arr k (xs ++ ys)) ⟨c.w.heap.size, cap'⟩ (c.w.drew.alloc (.cells vs' e))).w (Imm (c.setBlk id (.arr k (xs ++ ys)) ⟨c.w.heap.size, cap'⟩ (c.w.drew.alloc (.cells vs' e)))) c.w.heap.size k 0 (xs ++ ys) :=
         arr_rel (w0' := w0) (next := 0) look_setBlk_same.1 look_setBlk_same.2 hblk (r.hrel.old_ge (Nat.le_refl _)) (hinj _ _ _ (.inr (Nat.le_refl _))) hk2 (RelL.keep hev.keeps _ _ hfl) hone2 (by rw [hll2]; exact htake)
       have hrel : Rel (c.setBlk id (.arr k (xs ++ ys)) ⟨c.w.heap.size, cap'⟩ (c.w.drew.alloc (.cells vs' e))) w0 n gs { st with heap := (id, .arr k (xs ++ ys)) :: st.heap } a := by
         refine r.setBlk hl (fun k' hk' _ => Below.heap_alloc c.w.drew _ _ hk') hsz2 hbel (.inr (Nat.le_refl _)) (fun _ => himm) hbe (fun _ => ?_)
         exact ⟨by rw [look_setBlk_same.2, hll2]; exact hroom, fun _ => ⟨vs', e, by rw [look_setBlk_same.2]; exact hblk, by rw [look_setBlk_same.2]; exact hs', by rw [look_setBlk_same.2]; exact hE⟩⟩
       refine wp_value (run_call_append ho hb hx ht hw') (hK (c.setBlk id (.arr k (xs ++ ys)) ⟨c.w.heap.size, cap'⟩ (c.w.drew.alloc (.cells vs' e))) _ (.ref id 0 0 (xs.length + ys.length)) _ rfl rfl hrel rfl ?_ h)
       simp only [RelV, look_setBlk_same.1]
       refine ⟨by omega, .inr ⟨c.w.heap.size, 0, cap', rfl, hroom, ?_, fun _ => ?_⟩⟩
       · rw [List.drop_zero, List.take_of_length_le (by omega)]; exact hE
       · rw [look_setBlk_same.2]; simp
     · obtain ⟨rfl, rfl⟩ := v3 hcap
       rcases run_app_row (ty := o.type) (cp := cp) he b1 b2 b3 (by rw [hold]; exact p5) e6 e7 e8 hby with ⟨w', hw', hroom, L⟩ | ⟨w', cap', vs', hw', hroom, hw2, hs', htake⟩
       · have hlk : xs.length * k + us.length ≤ vs.size := by rw [e6, b2, ← Nat.add_mul]; exact Nat.mul_le_mul_right _ hroom
         have htk2 : (layAt vs (xs.length * k) us).toList.take ((xs ++ ys).length * k) = olds ++ us := by
           rw [← hold]
           refine layAt_take ?_ ?_
           · rw [hll2, e6, Nat.add_mul]
           · rw [hll2, b2]; exact Nat.mul_le_mul_right _ hroom
         have himm : ∀ o', Imm c (c.pl id).gb o' → w'.cell? ⟨(c.pl id).gb, o', none⟩ = c.w.cell? ⟨(c.pl id).gb, o', none⟩ ∧ ((c.pl id).gb = (c.pl id).gb → ∃ k' xs', Blk.arr k (xs ++ ys) = .arr k' xs' ∧ o' < xs'.length * k') := by
           intro o' hi
           have hlt := immlt o' hi
           refine ⟨?_, fun _ => ⟨k, xs ++ ys, rfl, by rw [hll2, Nat.add_mul]; omega⟩⟩
           rw [cell_in_block L.here, cell_in_block b1, ← Array.getElem?_toList, layAt_list, setAt_get, if_neg (by omega), Array.getElem?_toList]
         have hbe : BlkEvo (c.pl id) (c.pl id) (.arr k xs) (.arr k (xs ++ ys)) := ⟨rfl, ⟨ys, rfl⟩, fun _ => rfl⟩
         have hev := Evo.setBlk (p' := c.pl id) (b' := .arr k (xs ++ ys)) (w' := w') r.hrel hl (fun k' _ hk' => L.other k' (hk' hcap)) (by rw [L.size]; exact Nat.le_refl _) (.inl ⟨rfl, fun _ => hcap⟩) (fun _ => himm) hbe
         have hE : RelE (c.setBlk id (.arr k (xs ++ ys)) (c.pl id) w').w (Imm (c.setBlk id (.arr k (xs ++ ys)) (c.pl id) w')) (c.pl id).gb k 0 (xs ++ ys) :=
           arr_rel (w0' := w0) (next := 0) (cap := (c.pl id).cap) look_setBlk_same.1 look_setBlk_same.2 L.here hge (hinj _ _ _ (.inl rfl)) hk2 (RelL.keep hev.keeps _ _ hfl) hone2 htk2
         have hrel : Rel (c.setBlk id (.arr k (xs ++ ys)) (c.pl id) w') w0 n gs { st with heap := (id, .arr k (xs ++ ys)) :: st.heap } a := by
           refine r.setBlk hl (fun k' _ hk' => L.other k' (hk' hcap)) (by rw [L.size]; exact Nat.le_refl _) (L.below hgb) (.inl ⟨rfl, fun _ => hcap⟩) (fun _ => himm) hbe (fun _ => ?_)
           exact ⟨by rw [look_setBlk_same.2, hll2]; exact hroom, fun _ => ⟨_, e', by rw [look_setBlk_same.2]; exact L.here, by rw [look_setBlk_same.2, size_layAt]; exact b2, by rw [look_setBlk_same.2]; exact hE⟩⟩
         refine wp_value (w' := w') (run_call_append ho hb hx ht (by rw [v2, e2]; exact hw')) (hK (c.setBlk id (.arr k (xs ++ ys)) (c.pl id) w') _ (.ref id 0 0 (xs.length + ys.length)) _ rfl rfl hrel rfl ?_ h)
         simp only [RelV, look_setBlk_same.1]
         refine ⟨by omega, .inr ⟨(c.pl id).gb, 0, (c.pl id).cap, rfl, hroom, ?_, fun _ => ?_⟩⟩
         · rw [List.drop_zero, List.take_of_length_le (by omega)]; exact hE
         · rw [look_setBlk_same.2]; simp
       · exact moved w' cap' vs' (by rw [v2, e2]; exact hw') hroom hw2 hs' (by rw [← hold]; exact htake)
end
end Uw
namespace Uw
open Go Go.RowKit
variable [Glob]
section
variable {P : Program} {Q : MExit → St → Prop} {q : V → St → Tree} {c : Cx} {w0 : World} {n : Nat} {gs : Fr} {st : St} {a : Act} {K : Act → World → Prop} {Qx : Exit → Act → World → Prop} {o : Oper} {xx : MExit → St → Tree}
theorem WT_vtest {vb : Option Bool} {T : Tree} (h : WT P Q (vtest vb T)) : vb ≠ some false ∧ WT P Q T := by
 cases vb with
 | none => exact ⟨by simp, h⟩
 | some b =>
   simp only [vtest, WT] at h
   cases b with
   | true => exact ⟨by simp, h.1 rfl⟩
   | false => exact (h.2 rfl).elim
theorem WT_testD {b : Bool} {T : Tree} (h : WT P Q (.test b T .fail)) : b = true ∧ WT P Q T := by
 simp only [WT] at h
 cases b with
 | true => exact ⟨rfl, h.1 rfl⟩
 | false => exact (h.2 rfl).elim
theorem app_emptyN (r : Rel c w0 n gs st a) (hK : NextOK P Q q c w0 n gs st a o.dst K) {cl : Call} {x1 x2 : Operand} {t e : TypeId} {m : Bool} {k bytes : Nat} (ho : o.op = .call cl) (hb : cl.callee = .builtin .append) (hx : cl.args.toList = [x1, x2]) (ht : cl.argTypes.toList = [t, t])
   (he : ElemT P t e k bytes) {xa : Option Addr} (hxa : a.eval x1 = .slice xa 0 0) {ys : List (List Dat)} (e2 : SrcOK c k (a.eval x2) ys) (hy0 : ys ≠ []) (hd : ys.length * bytes ≤ 70368744177664)
   (h : WT P Q (q (.ref st.next 0 0 ys.length) (newBlk st (rowBlk m k ys)))) : o.wp P a c.w K Qx := by
 obtain ⟨i, z, zs, hi, hsz, hby, hzero, hzs, hzk⟩ := he.info
 have hund := he.und
 have hlen : ys.length ≤ 70368744177664 := Nat.le_trans (Nat.le_mul_of_pos_right _ he.pos) hd
 rcases e2 with ⟨⟨_, e2⟩, rfl⟩ | ⟨b, o', cp, us, e2, e3, e4, e5, e6, e7, e8⟩
 · exact absurd rfl hy0
 · have hpos' : 0 < ys.length := by cases ys <;> simp_all
   have hge := grownCap_ge c.w ys.length 0 e
   obtain ⟨c', pB, pJ, pw, p1, p2⟩ := grown_row r m (e := e) (z := z) (cap := grownCap c.w ys.length 0 e) e4 e5 e8 hzk rfl hge
   refine wp_value (run_call_append ho hb hx ht ?_) (hK c' _ _ _ pB pJ p1 rfl p2 h)
   cases xa with
   | none =>
     rw [hxa, e2, pw]
     exact run_append_nil c.w t o.type e i z hund hi hzero ⟨b, o', none⟩ ys.length cp us (by rw [hsz]; exact e6) (fun j v hv => by rw [addr_add]; exact e7 j v hv) hpos' (by omega) (by rw [hby]; omega)
   | some p =>
     rw [hxa, e2, pw]
     have := run_append_grow c.w t o.type e i z hund hi hzero p 0 0 [] (by simp) (by simp) ⟨b, o', none⟩ ys.length cp us (by rw [hsz]; exact e6) (fun j v hv => by rw [addr_add]; exact e7 j v hv)
       (by omega) (by omega) (growslice_fits (by omega) (by rw [hby, Nat.zero_add]; omega))
     simpa using this
theorem app_empty (r : Rel c w0 n gs st a) (hK : NextOK P Q q c w0 n gs st a o.dst K) {cl : Call} {x1 x2 : Operand} {t e : TypeId} {m : Bool} {k bytes : Nat} (ho : o.op = .call cl) (hb : cl.callee = .builtin .append) (hx : cl.args.toList = [x1, x2]) (ht : cl.argTypes.toList = [t, t])
   (he : ElemT P t e k bytes) {xa : Option Addr} (hxa : a.eval x1 = .slice xa 0 0) (hxa' : xa = none ∨ ∃ b o, xa = some ⟨b, o, none⟩) {ys : List (List Dat)} (e2 : SrcOK c k (a.eval x2) ys) (hd : ys.length * bytes ≤ 70368744177664)
   (h : WT P Q (q (.ref st.next 0 0 ys.length) (newBlk st (rowBlk m k ys)))) : o.wp P a c.w K Qx := by
 obtain ⟨i, z, zs, hi, hsz, hby, hzero, hzs, hzk⟩ := he.info
 have hund := he.und
 have hlen : ys.length ≤ 70368744177664 := Nat.le_trans (Nat.le_mul_of_pos_right _ he.pos) hd
 have stay : ys = [] → (∃ xb xc, a.eval x2 = .slice xb 0 xc) → o.wp P a c.w K Qx := by
   rintro rfl ⟨xb, xc, hx2⟩
   obtain ⟨p1, p2⟩ := zero_row r m k hxa'
   refine wp_value (w' := c.w) (run_call_append ho hb hx ht ?_) (hK (c.zero st.next (rowBlk m k [])) _ _ _ rfl rfl p1 rfl p2 h)
   rw [hxa, hx2]
   exact run_app_zero hund hi (by omega)
 rcases e2 with ⟨⟨_, e2⟩, rfl⟩ | ⟨b, o', cp, us, e2, e3, e4, e5, e6, e7, e8⟩
 · exact stay rfl ⟨_, 0, e2⟩
 · by_cases hy0 : ys = []
   · exact stay hy0 ⟨_, cp, by rw [e2, hy0]; rfl⟩
   · have hpos' : 0 < ys.length := by cases ys <;> simp_all
     have hge := grownCap_ge c.w ys.length 0 e
     obtain ⟨c', pB, pJ, pw, p1, p2⟩ := grown_row r m (e := e) (z := z) (cap := grownCap c.w ys.length 0 e) e4 e5 e8 hzk rfl hge
     refine wp_value (run_call_append ho hb hx ht ?_) (hK c' _ _ _ pB pJ p1 rfl p2 h)
     rcases hxa' with rfl | ⟨b1, o1, rfl⟩
     · rw [hxa, e2, pw]
       exact run_append_nil c.w t o.type e i z hund hi hzero ⟨b, o', none⟩ ys.length cp us (by rw [hsz]; exact e6) (fun j v hv => by rw [addr_add]; exact e7 j v hv) hpos' (by omega) (by rw [hby]; omega)
     · rw [hxa, e2, pw]
       have := run_append_grow c.w t o.type e i z hund hi hzero ⟨b1, o1, none⟩ 0 0 [] (by simp) (by simp) ⟨b, o', none⟩ ys.length cp us (by rw [hsz]; exact e6) (fun j v hv => by rw [addr_add]; exact e7 j v hv)
         (by omega) (by omega) (growslice_fits (by omega) (by rw [hby, Nat.zero_add]; omega))
       simpa using this
theorem app_ok (r : Rel c w0 n gs st a) (hK : NextOK P Q q c w0 n gs st a o.dst K) {cl : Call} {x1 x2 : Operand} {y1 y2 : Opd} {t e : TypeId} {m : Bool} {k bytes : Nat} (ho : o.op = .call cl) (hb : cl.callee = .builtin .append) (hx : cl.args.toList = [x1, x2]) (ht : cl.argTypes.toList = [t, t])
   (he : ElemT P t e k bytes) (hc1 : compOpd x1 = some y1) (hc2 : compOpd x2 = some y2) (h : WT P Q (step (.app m k bytes y1 y2) st q xx)) : o.wp P a c.w K Qx := by
 obtain ⟨i, z, zs, hi, hsz, hby, hzero, hzs, hzk⟩ := he.info
 have hund := he.und
 have hpos := he.pos
 simp only [step] at h
 split at h
 · rename_i bv yv hv1 hv2
   split at h
   · rename_i vb ys hys
     replace h := WT_vtest h
     obtain ⟨hvb, h⟩ := h
     have e2 := src_ok r (opd_rel r hc2 hv2) hys hvb
     have e1 := opd_rel r hc1 hv1
     split at h
     · -- nil
       simp only [RelV, RelI] at e1
       replace h := WT_testD h
       obtain ⟨hd, h⟩ := h
       exact app_empty r hK ho hb hx ht he e1 (.inl rfl) e2 (of_decide_eq_true hd) h
     · -- a slice whose capacity is its length
       rename_i k' xs
       split at h
       · rename_i hkk
         have hkk := Nat.eq_of_beq_eq_true hkk
         subst hkk
         simp only [WT] at h
         obtain ⟨h1, h2⟩ := h
         cases hxe : xs.isEmpty with
         | true =>
           have h := h1 hxe
           obtain ⟨hd, h⟩ := WT_testD (P := P) (Q := Q) (b := decide (ys.length * bytes ≤ 70368744177664)) (T := .test ys.isEmpty (q (.d (.slice k xs true)) st) (q (.ref st.next 0 0 ys.length) (newBlk st (rowBlk m k ys)))) (by simpa only [WT] using h)
           have hxs : xs = [] := by simpa using hxe
           subst hxs
           have hbase : RelV c (.d (.slice k [] true)) (a.eval x1) := e1
           simp only [RelV, RelI] at e1
           have e3 : ∃ xa, a.eval x1 = .slice xa 0 0 := by
             rcases e1 with ⟨⟨xa, e1, _⟩, _⟩ | ⟨bb, oo, cap, f1, f2, f3, f4⟩
             · exact ⟨xa, e1⟩
             · have f3 := f3 trivial
               subst f3
               exact ⟨_, f1⟩
           obtain ⟨xa, e3⟩ := e3
           simp only [WT] at h
           obtain ⟨g1, g2⟩ := h
           by_cases hy0 : ys = []
           · subst hy0
             have e4 : ∃ xb xc, a.eval x2 = .slice xb 0 xc := by
               rcases e2 with ⟨⟨_, e2⟩, _⟩ | ⟨b, o', cp, us, e2, _⟩
               · exact ⟨_, 0, e2⟩
               · exact ⟨_, cp, e2⟩
             obtain ⟨xb, xc, e4⟩ := e4
             refine ok_same r hK hbase (g1 rfl) (run_call_append ho hb hx ht ?_)
             rw [e3, e4]
             exact run_app_zero hund hi (Nat.le_refl _)
           · exact app_emptyN r hK ho hb hx ht he e3 e2 hy0 (of_decide_eq_true hd) (g2 (by cases ys <;> simp_all))
         | false =>
           have h := h2 hxe
           have hxn : xs ≠ [] := by intro hh; subst hh; simp at hxe
           have hbase : RelV c (.d (.slice k xs true)) (a.eval x1) := e1
           simp only [RelV, RelI] at e1
           rcases e1 with ⟨_, e1⟩ | ⟨bb, oo, cap, f1, f2, f3, f4⟩
           · exact (hxn e1).elim
           have f3 := f3 trivial
           obtain ⟨q1, olds, q2, q3, q4, q5⟩ := RelE.flat f4
           obtain ⟨h, hf⟩ := h
           cases hd : decide ((xs.length + ys.length) * bytes ≤ 70368744177664) with
           | false => exact (hf hd).elim
           | true =>
             obtain ⟨g1, g2⟩ := h hd
             simp only [decide_eq_true_eq] at hd
             have hlen : xs.length + ys.length ≤ 70368744177664 := Nat.le_trans (Nat.le_mul_of_pos_right _ hpos) hd
             rcases e2 with ⟨⟨_, e2⟩, rfl⟩ | ⟨b, o', cp, us, e2, e3, e4, e5, e6, e7, e8⟩
             · refine ok_same r hK hbase (g1 rfl) (run_call_append ho hb hx ht ?_)
               rw [f1, e2]
               exact run_app_zero hund hi f2
             · by_cases hy0 : ys = []
               · subst hy0
                 refine ok_same r hK hbase (g1 rfl) (run_call_append ho hb hx ht ?_)
                 rw [f1, e2]
                 exact run_app_zero hund hi f2
               · have hne : ys.isEmpty = false := by cases ys <;> simp_all
                 have hpos' : 0 < ys.length := by cases ys <;> simp_all
                 have hge := grownCap_ge c.w (xs.length + ys.length) cap e
                 obtain ⟨c', pB, pJ, pw, p1, p2⟩ := grown_row r m (e := e) (z := z) (need := xs.length + ys.length) (cap := grownCap c.w (xs.length + ys.length) cap e) (k := k) (xs := xs ++ ys) (us := olds ++ us)
                   (fun x hx => by rcases List.mem_append.1 hx with hx | hx; exact q1 x hx; exact e4 x hx) (by rw [List.flatten_append]; exact q2.append e5)
                   (fun v hv => by rcases List.mem_append.1 hv with hv | hv; exact q5 v hv; exact e8 v hv) hzk (by simp) hge
                 rw [List.length_append] at p2
                 refine wp_value (run_call_append ho hb hx ht ?_) (hK c' _ _ _ pB pJ p1 rfl p2 (g2 hne))
                 rw [f1, e2, pw]
                 have := run_append_grow c.w t o.type e i z hund hi hzero ⟨bb, oo, none⟩ xs.length cap olds (by rw [hsz]; exact q3) (fun j v hv => by rw [addr_add]; exact q4 j v hv) ⟨b, o', none⟩ ys.length cp us (by rw [hsz]; exact e6) (fun j v hv => by rw [addr_add]; exact e7 j v hv)
                   (by omega) (by omega) (growslice_fits (by omega) (by rw [hby]; omega))
                 rw [this]
                 simp
       · exact h.elim
     · rename_i id ver len
       split at h
       · rename_i k' xs hl
         split at h
         · rename_i hkk
           have hkk := Nat.eq_of_beq_eq_true hkk
           subst hkk
           obtain ⟨hd, g⟩ := WT_testD h
           simp only [Bool.and_eq_true, decide_eq_true_eq] at hd
           exact app_arr r hK ho hb hx ht he hl e1 e2 hd.1 hd.2 g
         · exact h.elim
       · rename_i k' ver' xs hl
         split at h
         · rename_i hkk
           have h1 := Nat.eq_of_beq_eq_true hkk
           subst h1
           replace h := WT_testD h
           obtain ⟨hv, h⟩ := h
           have h2 := Nat.eq_of_beq_eq_true hv
           subst h2
           obtain ⟨hd, g⟩ := WT_testD h
           simp only [decide_eq_true_eq] at hd
           exact app_mt r hK ho hb hx ht he hl e1 e2 hd g
         · exact h.elim
       · exact h.elim
     · exact h.elim
   · exact h.elim
 · exact h.elim
theorem optInt_rel (r : Rel c w0 n gs st a) {x : Option Operand} {y : Option Opd} {d i : Int} (hx : (match x with | none => some none | some z => (compOpd z).map some) = some y) (h : optInt st d y = some i) :
   (x = none ∧ y = none ∧ i = d) ∨ ∃ z k, x = some z ∧ a.eval z = .int k i := by
 cases x with
 | none =>
   simp at hx; subst hx
   simp [optInt] at h
   exact .inl ⟨rfl, rfl, h.symm⟩
 | some z =>
   simp only [Option.map_eq_some_iff] at hx
   obtain ⟨y', hy', rfl⟩ := hx
   simp only [optInt] at h
   split at h
   · rename_i k m hv
     simp at h; subst h
     have e := opd_rel r hy' hv
     simp only [RelV, RelI] at e
     exact .inr ⟨z, k, rfl, e⟩
   · simp at h
theorem compOpt_eq (x : Option Operand) : compOpt x = (match x with | none => some none | some z => (compOpd z).map some) := by cases x <;> rfl
theorem run_sliceBounds {isS : Bool} {len cap : Nat} {lo hi : Option Operand} {l h : Int} {w : World} (hlo : (lo = none ∧ l = 0) ∨ ∃ z k, lo = some z ∧ a.eval z = .int k l) (hhi : (hi = none ∧ h = len) ∨ ∃ z k, hi = some z ∧ a.eval z = .int k h)
   (h0 : 0 ≤ l) (h1 : l ≤ h) (h2 : h ≤ cap) : (Instr.sliceBounds isS len cap (lo.map a.eval) (hi.map a.eval) none).run P w = .ok (l.toNat, h.toNat, cap) w := by
 have hh0 : 0 ≤ h := by omega
 unfold Instr.sliceBounds
 rcases hlo with ⟨rfl, rfl⟩ | ⟨z, k, rfl, hz⟩
 · rcases hhi with ⟨rfl, rfl⟩ | ⟨z', k', rfl, hz'⟩
   · simp
   · simp [hz', Instr.sliceBound, asIntOf, hh0, h2]
 · rcases hhi with ⟨rfl, rfl⟩ | ⟨z', k', rfl, hz'⟩
   · simp [hz, Instr.sliceBound, asIntOf, h0, h1]
   · have : (h.toNat : Int) = h := by omega
     simp [hz, hz', Instr.sliceBound, asIntOf, h0, h1, hh0, h2, this]
theorem slstr_ok (r : Rel c w0 n gs st a) (hK : NextOK P Q q c w0 n gs st a o.dst K) {t : TypeId} {x : Operand} {lo hi : Option Operand} {y : Opd} {lo' hi' : Option Opd} (ho : o.op = .slice t x lo hi none) (hu : P.underlying t = some .string)
   (hc : compOpd x = some y) (hl : compOpt lo = some lo') (hh : compOpt hi = some hi') (h : WT P Q (step (.slstr y lo' hi') st q xx)) : o.wp P a c.w K Qx := by
 simp only [step] at h
 split at h
 · rename_i s hv
   have e1 := opd_rel r hc hv
   simp only [RelV, RelI] at e1
   split at h
   · rename_i l u hl' hu'
     simp only [WT] at h
     cases hd : (decide (0 ≤ l) && decide (l ≤ u) && decide (u ≤ (s.length : Int))) with
     | false => exact (h.2 hd).elim
     | true =>
       have g := h.1 hd
       simp only [Bool.and_eq_true, decide_eq_true_eq] at hd
       rw [compOpt_eq] at hl hh
       have r1 := optInt_rel r hl hl'
       have r2 := optInt_rel r hh hu'
       have hb := run_sliceBounds (P := P) (isS := false) (w := c.w) (len := s.length) (cap := s.length) (a := a) (r1.imp (fun h => ⟨h.1, h.2.2⟩) id) (r2.imp (fun h => ⟨h.1, h.2.2⟩) id) hd.1.1 hd.1.2 hd.2
       refine ok_same r hK (gv := .string ⟨((s.take u.toNat).drop l.toNat).toArray⟩) (by simp [RelV, RelI]) g ?_
       have hsz : (⟨s.toArray⟩ : ByteArray).size = s.length := by simp [ByteArray.size]
       have hex : (⟨s.toArray⟩ : ByteArray).extract l.toNat u.toNat = ⟨((s.take u.toNat).drop l.toNat).toArray⟩ := by
         apply ByteArray.ext
         simp [ByteArray.data_extract, List.drop_take]
       simp only [execOp, ho]
       have : (Instr.sliceAt t (a.eval x) (lo.map a.eval) (hi.map a.eval) (Option.map a.eval none)).run P c.w = .ok (.string ⟨((s.take u.toNat).drop l.toNat).toArray⟩) c.w := by
         simp only [Instr.sliceAt, Instr.slice, e1, Option.map_none]
         rw [run_bind_ok (run_und hu)]
         simp only []
         rw [run_bind_ok (run_und hu)]
         simp [hsz, hb, hex]
       rw [run_bind_ok this]
       rfl
   · exact h.elim
 · exact h.elim
end
end Uw
namespace Uw
open Go Go.RowKit
variable [Glob]
section
variable {P : Program} {Q : MExit → St → Prop} {q : V → St → Tree} {c : Cx} {w0 : World} {n : Nat} {gs : Fr} {st : St} {a : Act} {K : Act → World → Prop} {Qx : Exit → Act → World → Prop} {o : Oper} {xx : MExit → St → Tree}
theorem run_slice_slice {t e : TypeId} {x : Operand} {lo hi : Option Operand} {k len cap b o' : Nat} {l u : Int} {w : World} (ho : o.op = .slice t x lo hi none) (hu : P.underlying t = some (.slice e)) (hk : sizeT P e = some k) (hx : a.eval x = .slice (some ⟨b, o', none⟩) len cap)
   (hlo : (lo = none ∧ l = 0) ∨ ∃ z k, lo = some z ∧ a.eval z = .int k l) (hhi : (hi = none ∧ u = len) ∨ ∃ z k, hi = some z ∧ a.eval z = .int k u) (h0 : 0 ≤ l) (h1 : l ≤ u) (h2 : u ≤ cap) :
   (execOp a.eval o).run P w = .ok (.value (.slice (some (if cap = l.toNat then ⟨b, o', none⟩ else ⟨b, o' + l.toNat * k, none⟩)) (u.toNat - l.toNat) (cap - l.toNat))) w := by
 have hb := run_sliceBounds (P := P) (isS := true) (w := w) (len := len) (cap := cap) (a := a) hlo hhi h0 h1 h2
 simp only [execOp, ho]
 have : (Instr.sliceAt t (a.eval x) (lo.map a.eval) (hi.map a.eval) (Option.map a.eval none)).run P w = .ok (.slice (some (if cap = l.toNat then ⟨b, o', none⟩ else ⟨b, o' + l.toNat * k, none⟩)) (u.toNat - l.toNat) (cap - l.toNat)) w := by
   simp only [Instr.sliceAt, Instr.slice, hx, Option.map_none]
   rw [run_bind_ok (run_und hu)]
   simp only []
   rw [run_bind_ok (run_und hu)]
   simp only []
   rw [run_bind_ok hb]
   simp only []
   rw [run_bind_ok (run_size hk)]
   by_cases hc : cap = l.toNat
   · simp [hc]
   · simp [hc, addr_add]
 rw [run_bind_ok this]
 rfl
theorem run_slice3 {t e : TypeId} {x hi mx : Operand} {lo : Option Operand} {k len cap : Nat} {ad : Option Addr} {l u : Int} {k1 k2 : IntKind} {w : World} (ho : o.op = .slice t x lo (some hi) (some mx)) (hu : P.underlying t = some (.slice e)) (hk : sizeT P e = some k) (hx : a.eval x = .slice ad len cap)
   (hlo : (lo = none ∧ l = 0) ∨ ∃ z k, lo = some z ∧ a.eval z = .int k l) (hhi : a.eval hi = .int k1 u) (hmx : a.eval mx = .int k2 u) (h0 : 0 ≤ l) (h1 : l ≤ u) (h2 : u ≤ cap) :
   (execOp a.eval o).run P w = .ok (.value (.slice (if u.toNat = l.toNat then ad else ad.map (·.add (l.toNat * k))) (u.toNat - l.toNat) (u.toNat - l.toNat))) w := by
 have hu0 : 0 ≤ u := by omega
 have hut : (u.toNat : Int) = u := by omega
 have hb : (Instr.sliceBounds true len cap (lo.map a.eval) (some (a.eval hi)) (some (a.eval mx))).run P w = .ok (l.toNat, u.toNat, u.toNat) w := by
   unfold Instr.sliceBounds
   rcases hlo with ⟨rfl, rfl⟩ | ⟨z, k, rfl, hz⟩
   · simp [hhi, hmx, Instr.sliceBound, asIntOf, hu0, h2, hut]
   · simp [hz, hhi, hmx, Instr.sliceBound, asIntOf, h0, h1, hu0, h2, hut]
 simp only [execOp, ho]
 have : (Instr.sliceAt t (a.eval x) (lo.map a.eval) ((some hi).map a.eval) ((some mx).map a.eval)).run P w = .ok (.slice (if u.toNat = l.toNat then ad else ad.map (·.add (l.toNat * k))) (u.toNat - l.toNat) (u.toNat - l.toNat)) w := by
   simp only [Instr.sliceAt, Instr.slice, hx, Option.map_some]
   rw [run_bind_ok (run_und hu)]
   simp only []
   rw [run_bind_ok (run_und hu)]
   simp only []
   rw [run_bind_ok hb]
   simp only []
   rw [run_bind_ok (run_size hk)]
   rfl
 rw [run_bind_ok this]
 rfl
theorem run_slice_nil {t e : TypeId} {x : Operand} {lo hi : Option Operand} {k : Nat} {w : World} {xo : Option Addr} (ho : o.op = .slice t x lo hi none) (hu : P.underlying t = some (.slice e)) (hk : sizeT P e = some k) (hx : a.eval x = .slice xo 0 0)
   (hlo : (lo = none ∧ (0 : Int) = 0) ∨ ∃ z k, lo = some z ∧ a.eval z = .int k 0) (hhi : (hi = none ∧ (0 : Int) = ((0 : Nat) : Int)) ∨ ∃ z k, hi = some z ∧ a.eval z = .int k 0) : (execOp a.eval o).run P w = .ok (.value (.slice xo 0 0)) w := by
 have hb := run_sliceBounds (P := P) (isS := true) (w := w) (len := 0) (cap := 0) (a := a) hlo hhi (by omega) (by omega) (by omega)
 simp only [execOp, ho]
 have : (Instr.sliceAt t (a.eval x) (lo.map a.eval) (hi.map a.eval) (Option.map a.eval none)).run P w = .ok (.slice xo 0 0) w := by
   simp only [Instr.sliceAt, Instr.slice, hx, Option.map_none]
   rw [run_bind_ok (run_und hu)]
   simp only []
   rw [run_bind_ok (run_und hu)]
   simp only []
   rw [run_bind_ok hb]
   simp only []
   rw [run_bind_ok (run_size hk)]
   cases xo <;> simp
 rw [run_bind_ok this]
 rfl
theorem RelE.window {w : World} {J : Nat → Nat → Prop} {b k : Nat} : ∀ {xs : List (List Dat)} {o : Nat}, RelE w J b k o xs → ∀ m, m ≤ xs.length → RelE w J b k (o + m * k) (xs.drop m)
 | xs, o, h, 0, _ => by simpa using h
 | [], o, h, m + 1, hm => by simp [RelE]
 | x :: xs, o, h, m + 1, hm => by
   obtain ⟨h1, h2, h3⟩ := h
   have := RelE.window h3 m (by simpa using hm)
   rw [show o + k + m * k = o + (m + 1) * k by rw [Nat.add_mul]; omega] at this
   simpa using this
theorem RelE.take {w : World} {J : Nat → Nat → Prop} {b k : Nat} : ∀ {xs : List (List Dat)} {o : Nat}, RelE w J b k o xs → ∀ m, RelE w J b k o (xs.take m)
 | xs, o, h, 0 => by simp [RelE]
 | [], o, h, m + 1 => by simp [RelE]
 | x :: xs, o, h, m + 1 => by
   obtain ⟨h1, h2, h3⟩ := h
   exact ⟨h1, h2, RelE.take h3 m⟩
theorem sl3_ok (r : Rel c w0 n gs st a) (hK : NextOK P Q q c w0 n gs st a o.dst K) {t e : TypeId} {k : Nat} {x hi mx : Operand} {lo : Option Operand} {y hi' mx' : Opd} {lo' : Option Opd} (ho : o.op = .slice t x lo (some hi) (some mx)) (hu : P.underlying t = some (.slice e)) (hk : sizeT P e = some k)
   (hc : compOpd x = some y) (hl : compOpt lo = some lo') (hh : compOpd hi = some hi') (hm : compOpd mx = some mx') (h : WT P Q (step (.sl3 k y lo' hi' mx') st q xx)) : o.wp P a c.w K Qx := by
 rw [compOpt_eq] at hl
 have int : ∀ {z : Operand} {z' : Opd} {i : Int}, compOpd z = some z' → optInt st 0 (some z') = some i → ∃ kk, a.eval z = .int kk i := by
   intro z z' i hz hi
   rcases optInt_rel r (x := some z) (y := some z') (d := 0) (by simp [hz]) hi with ⟨h, _⟩ | ⟨z1, kk, h1, h2⟩
   · cases h
   · injection h1 with h1; subst h1; exact ⟨kk, h2⟩
 simp only [step] at h
 split at h
 · rename_i k' xs z hv
   have e0 := opd_rel r hc hv
   simp only [RelV, RelI] at e0
   split at h
   · rename_i l u m hkk hl' hu' hm'
     have hkk := Nat.eq_of_beq_eq_true hkk
     subst hkk
     simp only [WT] at h
     obtain ⟨ht, hf⟩ := h
     cases hd : (decide (0 ≤ l) && decide (l < u) && decide (u = m) && decide (m ≤ (xs.length : Int))) with
     | true =>
         have g := ht hd
         simp only [Bool.and_eq_true, decide_eq_true_eq] at hd
         obtain ⟨⟨⟨d1, d2⟩, d3⟩, d4⟩ := hd
         subst d3
         have r1 := (optInt_rel r hl hl').imp (fun h => (⟨h.1, h.2.2⟩ : lo = none ∧ l = 0)) (fun h => h)
         obtain ⟨k1, r2⟩ := int hh hu'
         obtain ⟨k2, r3⟩ := int hm hm'
         rcases e0 with ⟨⟨x9, e0, _⟩, rfl⟩ | ⟨b, o', cap, e1, e2, e3, e4⟩
         · simp only [List.length_nil] at d4; omega
         refine ok_same r hK ?_ g (run_slice3 ho hu hk e1 r1 r2 r3 d1 (by omega) (by omega))
         have hlen : ((xs.take u.toNat).drop l.toNat).length = u.toNat - l.toNat := by simp; omega
         have hE : RelE c.w (Imm c) b k (o' + l.toNat * k) ((xs.take u.toNat).drop l.toNat) := (e4.take u.toNat).window l.toNat (by simp; omega)
         rw [if_neg (by omega)]
         exact .inr ⟨b, o' + l.toNat * k, u.toNat - l.toNat, by rw [hlen]; simp [addr_add], by rw [hlen]; omega, fun _ => by rw [hlen], hE⟩
     | false =>
         obtain ⟨hd2, g⟩ := WT_testD (P := P) (Q := Q) (b := decide (l = 0) && decide (u = 0) && decide (m = 0)) (T := q (.d (.slice k [] true)) st) (by simpa only [WT] using hf hd)
         simp only [Bool.and_eq_true, decide_eq_true_eq] at hd2
         obtain ⟨⟨rfl, rfl⟩, rfl⟩ := hd2
         have r1 := (optInt_rel r hl hl').imp (fun h => (⟨h.1, h.2.2⟩ : lo = none ∧ (0 : Int) = 0)) (fun h => h)
         obtain ⟨k1, r2⟩ := int hh hu'
         obtain ⟨k2, r3⟩ := int hm hm'
         rcases e0 with ⟨⟨x9, e0, _⟩, _⟩ | ⟨b, o', cap, e1, e2, e3, e4⟩
         · exact ok_same r hK (gv := .slice x9 0 0) (by simp only [RelV, RelI]; exact .inl ⟨⟨x9, rfl, fun _ => trivial⟩, trivial⟩) g (run_slice3 ho hu hk e0 r1 r2 r3 (by omega) (by omega) (by omega))
         · exact ok_same r hK (gv := .slice (some ⟨b, o', none⟩) 0 0) (by simp only [RelV, RelI]; exact .inl ⟨⟨_, rfl, fun _ => trivial⟩, trivial⟩) g (run_slice3 ho hu hk e1 r1 r2 r3 (by omega) (by omega) (by omega))
   · exact h.elim
 · rename_i id ver off len hv
   have e1 := opd_rel r hc hv
   simp only [RelV] at e1
   rw [r.heap] at e1
   split at h
   · rename_i k' xs l u m hlk hl' hu' hm'
     rw [hlk] at e1
     split at h
     · rename_i hkk
       have hkk := Nat.eq_of_beq_eq_true hkk
       subst hkk
       obtain ⟨f1, e1⟩ := e1
       obtain ⟨hd, g⟩ := WT_testD h
       simp only [Bool.and_eq_true, decide_eq_true_eq] at hd
       obtain ⟨⟨⟨d1, d2⟩, d3⟩, d4⟩ := hd
       subst d3
       have r1 := (optInt_rel r hl hl').imp (fun h => (⟨h.1, h.2.2⟩ : lo = none ∧ l = 0)) (fun h => h)
       obtain ⟨k1, r2⟩ := int hh hu'
       obtain ⟨k2, r3⟩ := int hm hm'
       rcases e1 with ⟨f2, f3, f4⟩ | ⟨b, o', cap, f2, f3, f4, f5⟩
       · subst f3; omega
       refine ok_same r hK ?_ g (run_slice3 ho hu hk f2 r1 r2 r3 d1 (by omega) (by omega))
       have hlen : ((((xs.drop off).take len).take u.toNat).drop l.toNat).length = u.toNat - l.toNat := by simp; omega
       have hE : RelE c.w (Imm c) b k (o' + l.toNat * k) ((((xs.drop off).take len).take u.toNat).drop l.toNat) := (f4.take u.toNat).window l.toNat (by simp; omega)
       rw [if_neg (by omega)]
       exact .inr ⟨b, o' + l.toNat * k, u.toNat - l.toNat, by rw [hlen]; simp [addr_add], by rw [hlen]; omega, fun _ => by rw [hlen], hE⟩
     · exact h.elim
   · exact h.elim
 · rename_i hv
   have e0 := opd_rel r hc hv
   simp only [RelV, RelI] at e0
   split at h
   · rename_i l u m hl' hu' hm'
     obtain ⟨hd, g⟩ := WT_testD h
     simp only [Bool.and_eq_true, decide_eq_true_eq] at hd
     obtain ⟨⟨rfl, rfl⟩, rfl⟩ := hd
     have r1 := (optInt_rel r hl hl').imp (fun h => (⟨h.1, h.2.2⟩ : lo = none ∧ (0 : Int) = 0)) (fun h => h)
     obtain ⟨k1, r2⟩ := int hh hu'
     obtain ⟨k2, r3⟩ := int hm hm'
     exact ok_same r hK (gv := .slice none 0 0) (by simp [RelV, RelI]) g (run_slice3 ho hu hk e0 r1 r2 r3 (by omega) (by omega) (by omega))
   · exact h.elim
 · exact h.elim
theorem sl_ok (r : Rel c w0 n gs st a) (hK : NextOK P Q q c w0 n gs st a o.dst K) {t e : TypeId} {k : Nat} {x : Operand} {lo hi : Option Operand} {y : Opd} {lo' hi' : Option Opd} (ho : o.op = .slice t x lo hi none) (hu : P.underlying t = some (.slice e)) (hk : sizeT P e = some k)
   (hc : compOpd x = some y) (hl : compOpt lo = some lo') (hh : compOpt hi = some hi') (h : WT P Q (step (.sl k y lo' hi') st q xx)) : o.wp P a c.w K Qx := by
 rw [compOpt_eq] at hl hh
 simp only [step] at h
 split at h
 · rename_i k' xs z hv
   have e0 := opd_rel r hc hv
   simp only [RelV, RelI] at e0
   split at h
   · rename_i l u hkk hl' hu'
     have hkk := Nat.eq_of_beq_eq_true hkk
     subst hkk
     simp only [WT] at h
     cases hd : (decide (0 ≤ l) && decide (l ≤ u) && decide (u ≤ (xs.length : Int))) with
     | false => exact (h.2 hd).elim
     | true =>
       have g := h.1 hd
       simp only [Bool.and_eq_true, decide_eq_true_eq] at hd
       have r1 := (optInt_rel r hl hl').imp (fun h => (⟨h.1, h.2.2⟩ : lo = none ∧ l = 0)) (fun h => h)
       have r2 := (optInt_rel r hh hu').imp (fun h => (⟨h.1, h.2.2⟩ : hi = none ∧ u = xs.length)) (fun h => h)
       rcases e0 with ⟨⟨x9, e0, _⟩, rfl⟩ | ⟨b, o', cap, e1, e2, e3, e4⟩
       · simp only [List.length_nil] at hd r2
         have hl0 : l = 0 := by omega
         have hu0 : u = 0 := by omega
         subst hl0 hu0
         refine ok_same r hK (gv := .slice x9 0 0) ?_ g (run_slice_nil ho hu hk e0 r1 r2)
         exact .inl ⟨⟨_, rfl, by simp⟩, by simp⟩
       refine ok_same r hK ?_ g (run_slice_slice ho hu hk e1 r1 r2 hd.1.1 hd.1.2 (by omega))
       have hlen : ((xs.take u.toNat).drop l.toNat).length = u.toNat - l.toNat := by simp; omega
       have hE : RelE c.w (Imm c) b k (o' + l.toNat * k) ((xs.take u.toNat).drop l.toNat) := (e4.take u.toNat).window l.toNat (by simp; omega)
       by_cases hcap : cap = l.toNat
       · rw [if_pos hcap]
         refine .inr ⟨b, o', cap - l.toNat, by rw [hlen], by rw [hlen]; omega, by simp, ?_⟩
         have : (xs.take u.toNat).drop l.toNat = [] := List.eq_nil_of_length_eq_zero (by omega)
         rw [this]; trivial
       · rw [if_neg hcap]
         exact .inr ⟨b, o' + l.toNat * k, cap - l.toNat, by rw [hlen], by rw [hlen]; omega, by simp, hE⟩
   · exact h.elim
 · rename_i id ver off len hv
   have e1 := opd_rel r hc hv
   simp only [RelV] at e1
   rw [r.heap] at e1
   split at h
   · rename_i k' xs l u hlk hl' hu'
     rw [hlk] at e1
     split at h
     · rename_i hkk
       have hkk := Nat.eq_of_beq_eq_true hkk
       subst hkk
       obtain ⟨f1, e1⟩ := e1
       simp only [WT] at h
       cases hd : (decide (0 ≤ l) && decide (l ≤ u) && decide (u ≤ (len : Int))) with
       | false => exact (h.2 hd).elim
       | true =>
         have g := h.1 hd
         simp only [Bool.and_eq_true, decide_eq_true_eq] at hd
         have r1 := (optInt_rel r hl hl').imp (fun h => (⟨h.1, h.2.2⟩ : lo = none ∧ l = 0)) (fun h => h)
         have r2 := (optInt_rel r hh hu').imp (fun h => (⟨h.1, h.2.2⟩ : hi = none ∧ u = len)) (fun h => h)
         have hlk' : look c.heap id = some (.arr k xs) := by rw [r.heap]; exact hlk
         rcases e1 with ⟨f2, f3, f4⟩ | ⟨b, o', cap, f2, f3, f4, f5⟩
         · subst f3
           have hl0 : l = 0 := by omega
           have hu0 : u = 0 := by omega
           subst hl0 hu0
           refine ok_same r hK (gv := .slice none 0 0) ?_ g (run_slice_nil ho hu hk f2 r1 r2)
           simp only [RelV, hlk']
           exact ⟨by simp; omega, .inl ⟨rfl, by simp, by simpa using f4⟩⟩
         refine ok_same r hK ?_ g (run_slice_slice ho hu hk f2 r1 r2 hd.1.1 hd.1.2 (by omega))
         simp only [RelV, hlk']
         have hul : (u - l).toNat = u.toNat - l.toNat := by omega
         have hwin : (xs.drop (off + l.toNat)).take (u - l).toNat = (((xs.drop off).take len).take u.toNat).drop l.toNat := by
           rw [List.drop_take, List.drop_take, List.drop_drop, List.take_take]
           congr 1
           omega
         refine ⟨by omega, ?_⟩
         have hE : RelE c.w (Imm c) b k (o' + l.toNat * k) ((((xs.drop off).take len).take u.toNat).drop l.toNat) := (f4.take u.toNat).window l.toNat (by simp; omega)
         by_cases hcap : cap = l.toNat
         · rw [if_pos hcap]
           refine .inr ⟨b, o', cap - l.toNat, by rw [hul], by omega, ?_, ?_⟩
           · rw [hwin]
             have : (((xs.drop off).take len).take u.toNat).drop l.toNat = [] := List.eq_nil_of_length_eq_zero (by simp; omega)
             rw [this]; trivial
           · intro hend
             obtain ⟨f6, f7⟩ := f5 (by omega)
             refine ⟨by omega, fun hlt => by omega⟩
         · rw [if_neg hcap]
           refine .inr ⟨b, o' + l.toNat * k, cap - l.toNat, by rw [hul], by omega, by rw [hwin]; exact hE, ?_⟩
           intro hend
           obtain ⟨f6, f7⟩ := f5 (by omega)
           refine ⟨by omega, fun hlt => ?_⟩
           obtain ⟨f8, f9⟩ := f7 (by omega)
           exact ⟨f8, by rw [f9, Nat.add_mul]⟩
     · exact h.elim
   · rename_i k' ver' xs l u hlk hl' hu'
     rw [hlk] at e1
     split at h
     · rename_i hkk
       have h1 := Nat.eq_of_beq_eq_true hkk
       subst h1
       replace h := WT_testD h
       obtain ⟨hv2, h⟩ := h
       have h2 := Nat.eq_of_beq_eq_true hv2
       subst h2
       obtain ⟨f0, _, f⟩ := e1
       obtain ⟨f1, f2⟩ := f rfl
       have hlk' : look c.heap id = some (.mt k ver xs) := by rw [r.heap]; exact hlk
       obtain ⟨b3, b4, bb⟩ := r.hrel.blk id _ hlk'
       simp only [WT] at h
       cases hd : (decide (0 ≤ l) && decide (l ≤ u) && decide (u ≤ (len : Int))) with
       | false => exact (h.2 hd).elim
       | true =>
         have g := h.1 hd
         simp only [Bool.and_eq_true, decide_eq_true_eq] at hd
         have r1 := (optInt_rel r hl hl').imp (fun h => (⟨h.1, h.2.2⟩ : lo = none ∧ l = 0)) (fun h => h)
         have r2 := (optInt_rel r hh hu').imp (fun h => (⟨h.1, h.2.2⟩ : hi = none ∧ u = len)) (fun h => h)
         rcases f2 with ⟨f2, f3, f4, f5⟩ | ⟨b, o', f2, f3⟩
         · subst f3 f4
           have hl0 : l = 0 := by omega
           have hu0 : u = 0 := by omega
           subst hl0 hu0
           refine ok_same r hK (gv := .slice none 0 0) ?_ g (run_slice_nil ho hu hk f2 r1 r2)
           simp only [RelV, hlk']
           exact ⟨Nat.le_refl _, ⟨_, _, _, rfl⟩, fun _ => ⟨by simp, .inl ⟨rfl, rfl, rfl, f5⟩⟩⟩
         refine ok_same r hK ?_ g (run_slice_slice ho hu hk f2 r1 r2 hd.1.1 hd.1.2 (by omega))
         simp only [RelV, hlk']
         have hul : (u - l).toNat = u.toNat - l.toNat := by omega
         refine ⟨Nat.le_refl _, ⟨_, _, _, rfl⟩, fun _ => ⟨by omega, ?_⟩⟩
         by_cases hcap : (c.pl id).cap - off = l.toNat
         · rw [if_pos hcap]
           exact .inr ⟨b, o', by rw [hul, Nat.sub_sub], fun hlt => by omega⟩
         · rw [if_neg hcap]
           refine .inr ⟨b, o' + l.toNat * k, by rw [hul, Nat.sub_sub], fun hlt => ?_⟩
           obtain ⟨f8, f9⟩ := f3 (by omega)
           exact ⟨f8, by rw [f9, Nat.add_mul]⟩
     · exact h.elim
   · exact h.elim
 · rename_i hv
   have e1 := opd_rel r hc hv
   simp only [RelV, RelI] at e1
   split at h
   · rename_i l u hl' hu'
     simp only [WT] at h
     cases hd : (decide (l = 0) && decide (u = 0)) with
     | false => exact (h.2 hd).elim
     | true =>
       have g := h.1 hd
       simp only [Bool.and_eq_true, decide_eq_true_eq] at hd
       obtain ⟨rfl, rfl⟩ := hd
       have r1 := (optInt_rel r hl hl').imp (fun h => (⟨h.1, h.2.2⟩ : lo = none ∧ (0 : Int) = 0)) id
       have r2 := (optInt_rel r hh hu').imp (fun h => (⟨h.1, h.2.2⟩ : hi = none ∧ (0 : Int) = ((0 : Nat) : Int))) id
       refine ok_same r hK (v := .d .nil) (gv := .slice none 0 0) (by simp [RelV, RelI]) g ?_
       have hb := run_sliceBounds (P := P) (isS := true) (w := c.w) (len := 0) (cap := 0) (a := a) r1 r2 (by omega) (by omega) (by omega)
       simp only [execOp, ho]
       have : (Instr.sliceAt t (a.eval x) (lo.map a.eval) (hi.map a.eval) (Option.map a.eval none)).run P c.w = .ok (.slice none 0 0) c.w := by
         simp only [Instr.sliceAt, Instr.slice, e1, Option.map_none]
         rw [run_bind_ok (run_und hu)]
         simp only []
         rw [run_bind_ok (run_und hu)]
         simp only []
         rw [run_bind_ok hb]
         simp only []
         rw [run_bind_ok (run_size hk)]
         simp
       rw [run_bind_ok this]
       rfl
   · exact h.elim
 · exact h.elim
theorem setAt_full {α : Type} (cs ds : List α) (h : ds.length = cs.length) : setAt cs 0 ds = ds := by
 apply List.ext_getElem?
 intro j
 rw [setAt_get]
 by_cases hj : j < ds.length
 · rw [if_pos (by omega)]; simp
 · rw [if_neg (by omega), List.getElem?_eq_none (by omega), List.getElem?_eq_none (by omega)]
theorem bs_fill (r : Rel c w0 n gs st a) {k : Nat} : ∀ (ps : List (Nat × Operand)) (qs : List (Nat × Opd)) (xs xs' : List (List Dat)) (vs : Array Value), (∀ p ∈ ps.zip qs, p.1.1 = p.2.1 ∧ compOpd p.1.2 = some p.2.2) → ps.length = qs.length →
   (∀ x ∈ xs, x.length = k) → RelL c.w (Imm c) xs.flatten vs.toList → (∀ v ∈ vs.toList, one v = true) → bsParts st k xs qs = some xs' →
   ∃ vs', Instr.fill (fun i => some (i * k, k)) vs (ps.map fun (i, x) => (i, a.eval x)) = some vs' ∧ (∀ x ∈ xs', x.length = k) ∧ xs'.length = xs.length ∧ RelL c.w (Imm c) xs'.flatten vs'.toList ∧ ∀ v ∈ vs'.toList, one v = true := by
 intro ps
 induction ps with
 | nil =>
   intro qs xs xs' vs _ hl h1 h2 h3 h
   have : qs = [] := List.eq_nil_of_length_eq_zero (by simpa using hl.symm)
   subst this
   simp [bsParts] at h; subst h
   exact ⟨vs, rfl, h1, rfl, h2, h3⟩
 | cons p ps ih =>
   intro qs xs xs' vs hz hl h1 h2 h3 h
   cases qs with
   | nil => simp at hl
   | cons q0 qs =>
     obtain ⟨i, x⟩ := p
     obtain ⟨i', y⟩ := q0
     have hz0 := hz ((i, x), (i', y)) (by simp)
     obtain ⟨hii, hcy⟩ := hz0
     simp only at hii hcy
     subst hii
     simp only [bsParts] at h
     split at h
     · rename_i v hv
       split at h
       · rename_i ds hds
         split at h
         · rename_i hb
           rw [Bool.and_eq_true, Bool.and_eq_true] at hb
           have hb1 := Nat.eq_of_beq_eq_true hb.1.1
           have hb2 : i < xs.length := by simpa using hb.1.2
           have e4 := opd_rel r hcy hv
           have e5 := cells_rel e4 (ev_ne hv)
           rw [← r.heap] at hds
           have e6 := datList_rel hds e5
           have hcs : xs[i]? = some xs[i] := List.getElem?_eq_getElem hb2
           have hcl : xs[i].length = k := h1 _ (List.getElem_mem hb2)
           have hset : setAt xs[i] 0 ds = ds := setAt_full _ _ (by omega)
           have hdl : (a.eval x).cells.size = k := by have := e6.length; simp at this; omega
           have hvl : vs.size = xs.length * k := by have := h2.length; rw [flatten_len h1] at this; simpa using this
           have hik : (i + 1) * k ≤ xs.length * k := Nat.mul_le_mul_right _ (by omega)
           have hik' : i * k + k = (i + 1) * k := by rw [Nat.add_mul]; omega
           have hfs := flatten_set h1 (cc := 0) (ds := ds) hcs (by omega)
           rw [hset, Nat.add_zero] at hfs
           obtain ⟨vs', g1, g2, g3, g4, g5⟩ := ih qs (xs.set i ds) xs' (layAt vs (i * k) (a.eval x).cells.toList) (fun p hp => hz p (by simp [hp])) (by simpa using hl)
             (fun z hz => by rcases List.mem_or_eq_of_mem_set hz with hz | hz; exact h1 z hz; rw [hz]; exact hb1)
             (by rw [hfs, layAt_list]; exact RelL.setAt h2 e6 _)
             (fun u hu => by
               rw [layAt_list] at hu
               rcases mem_setAt hu with hu | hu
               · exact h3 u hu
               · obtain ⟨j, hj⟩ := List.getElem?_of_mem hu
                 obtain ⟨z, hz, hzr⟩ := e5.get' j u hj
                 exact one_rel hzr (List.all_eq_true.1 hb.2 z (List.mem_of_getElem? hz))) h
           refine ⟨vs', ?_, g2, by rw [g3]; simp, g4, g5⟩
           simp only [List.map_cons, Instr.fill]
           rw [if_neg (by simp; omega)]
           have e := foldl_lay (i * k) (a.eval x).cells.toList 0 vs
           simp only [Nat.add_zero] at e
           rw [← Array.foldl_toList, Array.toList_zipIdx, e]
           exact g1
         · simp at h
       · simp at h
     · simp at h
theorem lit_rel (r : Rel c w0 n gs st a) {k : Nat} {xs : List (List Dat)} {vs : Array Value} {e : TypeId} (h1 : ∀ x ∈ xs, x.length = k) (h2 : RelL c.w (Imm c) xs.flatten vs.toList) (h3 : ∀ v ∈ vs.toList, one v = true) :
   Rel { c with w := c.w.alloc (.cells vs e) } w0 n gs st a ∧ RelV { c with w := c.w.alloc (.cells vs e) } (.d (.slice k xs true)) (.slice (some ⟨c.w.heap.size, 0, none⟩) xs.length xs.length) := by
 have hbel : Below c.w.heap.size c.w (c.w.alloc (.cells vs e)) := (Below.refl _ _).alloc (Nat.le_refl _) _
 have hev := Evo.grow r.hrel hbel
 refine ⟨r.grow hbel, .inr ⟨c.w.heap.size, 0, xs.length, rfl, Nat.le_refl _, fun _ => rfl, ?_⟩⟩
 refine RelE.of_flat h1 (RelL.keep hev.keeps _ _ h2) ?_
 intro j v hv
 refine ⟨?_, ?_, h3 v (List.mem_of_getElem? hv)⟩
 · have hblk : (c.w.alloc (.cells vs e)).heap[c.w.heap.size]? = some (.cells vs e (0, 0)) := by
     show (c.w.heap.push (.cells vs e))[c.w.heap.size]? = _
     simp
   rw [cell_in_block hblk]
   simpa using hv
 · refine .inr ⟨r.hrel.old_ge (Nat.le_refl _), ?_, ?_⟩
   · show c.w.heap.size < (c.w.heap.push (.cells vs e)).size
     simp
   · intro id blk hl hph hg
     exfalso
     have := r.hrel.gb_lt hl hph
     simp only at hg
     omega
end
end Uw
namespace Uw
open Go Go.RowKit
variable [Glob]
theorem datOf_one {v : Value} {d : Dat} (h : datOf v = some d) : one v = true := by
 cases v <;> first | rfl | (simp [datOf] at h)
theorem datsOf_one : ∀ {vs : List Value} {ds : List Dat}, datsOf vs = some ds → ∀ v ∈ vs, one v = true
 | [], ds, h, v, hv => by simp at hv
 | u :: vs, ds, h, v, hv => by
   unfold datsOf at h
   split at h
   · rename_i x l hx hl
     simp at hv
     rcases hv with rfl | hv
     · exact datOf_one hx
     · exact datsOf_one hl v hv
   · simp at h
theorem datsOf_len : ∀ {vs : List Value} {ds : List Dat}, datsOf vs = some ds → ds.length = vs.length
 | [], ds, h => by simp [datsOf] at h; subst h; rfl
 | u :: vs, ds, h => by
   unfold datsOf at h
   split at h
   · rename_i x l hx hl
     simp at h; subst h
     simp [datsOf_len hl]
   · simp at h
theorem range_flat (z : Array Value) (hz : 0 < z.size) : ∀ m, ((Array.range (m * z.size)).map (fun i => z[i % z.size]!)).toList = (List.replicate m z.toList).flatten := by
 intro m
 apply List.ext_getElem?
 intro j
 have hlen : ((List.replicate m z.toList).flatten).length = m * z.size := by simp
 by_cases hj : j < m * z.size
 · have h1 : ((Array.range (m * z.size)).map (fun i => z[i % z.size]!)).toList[j]? = some (z[j % z.size]!) := by
     rw [Array.getElem?_toList, Array.getElem?_map]
     simp [hj]
   rw [h1]
   have hmod := Nat.mod_lt j hz
   have hdiv : j / z.size < m := by rw [Nat.div_lt_iff_lt_mul hz]; exact hj
   have h2 := flatten_at (k := z.size) (xs := List.replicate m z.toList) (fun x hx => by rw [List.eq_of_mem_replicate hx]; simp) (i := j / z.size) (cs := z.toList) (by rw [List.getElem?_replicate, if_pos hdiv])
   have h3 : (List.replicate m z.toList).flatten[j]? = z.toList[j % z.size]? := by
     have h4 : (((List.replicate m z.toList).flatten.drop (j / z.size * z.size)).take z.size)[j % z.size]? = (List.replicate m z.toList).flatten[j]? := by
       rw [List.getElem?_take, if_pos hmod, List.getElem?_drop, Nat.div_add_mod']
     rw [← h4, h2]
   rw [h3]
   simp [hmod]
 · rw [List.getElem?_eq_none (by simp; omega), List.getElem?_eq_none (by rw [hlen]; omega)]
theorem RelL.replicate {w : World} {J : Nat → Nat → Prop} {zs : List Dat} {vs : List Value} (h : RelL w J zs vs) : ∀ m, RelL w J (List.replicate m zs).flatten (List.replicate m vs).flatten
 | 0 => by simp [RelL]
 | m + 1 => by
   rw [List.replicate_succ, List.replicate_succ, List.flatten_cons, List.flatten_cons]
   exact h.append (RelL.replicate h m)
section
variable {P : Program} {Q : MExit → St → Prop} {q : V → St → Tree} {c : Cx} {w0 : World} {n : Nat} {gs : Fr} {st : St} {a : Act} {K : Act → World → Prop} {Qx : Exit → Act → World → Prop} {o : Oper} {xx : MExit → St → Tree}
theorem compBs_ok : ∀ {ps : List (Nat × Operand)} {qs : List (Nat × Opd)}, compBs ps = some qs → ps.length = qs.length ∧ ∀ p ∈ ps.zip qs, p.1.1 = p.2.1 ∧ compOpd p.1.2 = some p.2.2
 | [], qs, h => by simp [compBs] at h; subst h; simp
 | (i, x) :: ps, qs, h => by
   unfold compBs at h
   split at h
   · rename_i y l hy hl
     simp at h; subst h
     obtain ⟨h1, h2⟩ := compBs_ok hl
     refine ⟨by simp [h1], ?_⟩
     intro p hp
     simp at hp
     rcases hp with rfl | hp
     · exact ⟨rfl, hy⟩
     · exact h2 p (by simpa using hp)
   · simp at h
theorem bslice_ok (r : Rel c w0 n gs st a) (hK : NextOK P Q q c w0 n gs st a o.dst K) {t e : TypeId} {k len : Nat} {zs : List Dat} {ps : Array (Nat × Operand)} {qs : List (Nat × Opd)} (ho : o.op = .buildSlice t len ps) (hu : P.underlying t = some (.slice e)) (hk : sizeT P e = some k) (hkp : 0 < k)
   (hz : zeroT P e = some zs) (hzl : zs.length = k) (hle : len * k ≤ 16777216) (hq : compBs ps.toList = some qs) (h : WT P Q (step (.bslice k len zs qs) st q xx)) : o.wp P a c.w K Qx := by
 simp only [step] at h
 split at h
 · rename_i xs hxs
   obtain ⟨z, hzv, hzd⟩ := run_zero (w := c.w) hz
   obtain ⟨hl, hzip⟩ := compBs_ok hq
   have hzk : z.cells.size = k := by have := datsOf_len hzd; simp at this; omega
   have hzr := datsOf_rel hzd c.w (Imm c)
   have hflat := range_flat z.cells (by omega) len
   rw [hzk] at hflat
   obtain ⟨vs', g1, g2, g3, g4, g5⟩ := bs_fill r ps.toList qs (List.replicate len zs) xs ((Array.range (len * k)).map (fun i => z.cells[i % k]!)) hzip hl
     (fun x hx => by rw [List.eq_of_mem_replicate hx]; exact hzl) (by rw [hflat]; exact RelL.replicate hzr len)
     (fun v hv => by
       rw [hflat] at hv
       obtain ⟨l, hl1, hl2⟩ := List.mem_flatten.1 hv
       rw [List.eq_of_mem_replicate hl1] at hl2
       exact datsOf_one hzd v hl2) hxs
   obtain ⟨p1, p2⟩ := lit_rel r (e := e) g2 g4 g5
   have hlen : xs.length = len := by rw [g3]; simp
   rw [hlen] at p2
   refine wp_value (w' := c.w.alloc (.cells vs' e)) ?_ (hK { c with w := c.w.alloc (.cells vs' e) } st _ _ rfl rfl p1 rfl p2 h)
   simp only [execOp, ho]
   have : (Instr.buildSlice t len (ps.map fun (i, x) => (i, a.eval x))).run P c.w = .ok (.slice (some ⟨c.w.heap.size, 0, none⟩) len len) (c.w.alloc (.cells vs' e)) := by
     unfold Instr.buildSlice
     rw [run_bind_ok (run_und hu)]
     simp only []
     rw [run_bind_ok (run_size hk)]
     have hgt : ¬ len * k > 2 ^ 24 := by omega
     simp only [hgt, if_false]
     have hps : (ps.map fun (i, x) => (i, a.eval x)).toList = ps.toList.map fun (i, x) => (i, a.eval x) := by simp
     by_cases h0 : len * k = 0
     · rw [if_pos h0]
       rw [run_bind_ok (s := pure _) (x := (#[] : Array Value)) (w' := c.w) rfl]
       have harr : (Array.range (len * k)).map (fun i => (#[] : Array Value)[i % (#[] : Array Value).size]!) = (Array.range (len * k)).map (fun i => z.cells[i % k]!) := by
         apply Array.ext
         · simp
         · intro i h1 h2; simp [h0] at h1
       simp only [harr, hps, g1]
       rfl
     · rw [if_neg h0]
       rw [run_bind_ok hzv]
       rw [run_bind_ok (s := pure _) (x := z.cells) (w' := c.w) rfl]
       simp only [hzk, hps, g1]
       rfl
   rw [run_bind_ok this]
   rfl
 · exact h.elim
theorem idxa_ok (r : Rel c w0 n gs st a) (hK : NextOK P Q q c w0 n gs st a o.dst K) {t e : TypeId} {k m : Nat} {x i : Operand} {y j : Opd} (ho : o.op = .indexAddr t x i) (hu : P.underlying t = some (.array m e)) (hk : sizeT P e = some k)
   (hc1 : compOpd x = some y) (hc2 : compOpd i = some j) (h : WT P Q (step (.idxa m k y j) st q xx)) : o.wp P a c.w K Qx := by
 have run : ∀ {b o' : Nat} {ik : IntKind} {d : Int}, a.eval x = .pointer (some ⟨b, o', none⟩) → a.eval i = .int ik d → 0 ≤ d → d < m → (execOp a.eval o).run P c.w = .ok (.value (.pointer (some ⟨b, o' + d.toNat * k, none⟩))) c.w := by
   intro b o' ik d hx hi h1 h2
   simp only [execOp, ho]
   have : (Instr.indexAt t (a.eval x) (a.eval i)).run P c.w = .ok (.pointer (some ⟨b, o' + d.toNat * k, none⟩)) c.w := by
     rw [hx, hi]
     simp [Instr.indexAt, asIntOf, run_und hu, run_size hk, h1, h2, addr_add, Instr.sureAddr]
   rw [run_bind_ok this]
   rfl
 simp only [step] at h
 split at h
 · rename_i id off ik d hv1 hv2
   obtain ⟨e1, e2⟩ := opd_rel r hc1 hv1
   have e5 := opd_rel r hc2 hv2
   simp only [RelV, RelI] at e5
   simp only [WT] at h
   cases hb : (decide (0 ≤ d) && decide (d < (m : Int))) with
   | false => exact (h.2 hb).elim
   | true =>
     have g := h.1 hb
     simp at hb
     exact ok_same r hK (v := .ptr id (off + d.toNat * k)) ⟨e1, rfl⟩ g (run e2 e5 hb.1 hb.2)
 · rename_i cs off ik d hv1 hv2
   obtain ⟨b, o', e1, e2⟩ := opd_rel r hc1 hv1
   have e5 := opd_rel r hc2 hv2
   simp only [RelV, RelI] at e5
   simp only [WT] at h
   cases hb : (decide (0 ≤ d) && decide (d < (m : Int))) with
   | false => exact (h.2 hb).elim
   | true =>
     have g := h.1 hb
     simp at hb
     refine ok_same r hK (v := .ro cs (off + d.toNat * k)) ⟨b, o', ?_, e2⟩ g (run e1 e5 hb.1 hb.2)
     rw [Nat.add_assoc]
 · exact h.elim
theorem mksl_ok (r : Rel c w0 n gs st a) (hK : NextOK P Q q c w0 n gs st a o.dst K) {t e : TypeId} {k bytes : Nat} {zs : List Dat} {m : Bool} {x1 x2 : Operand} {y1 y2 : Opd} (ho : o.op = .makeSlice t x1 x2) (he : ElemT P t e k bytes) (hkp : 0 < k) (hz : zeroT P e = some zs) (hzl : zs.length = k)
   (hc1 : compOpd x1 = some y1) (hc2 : compOpd x2 = some y2) (h : WT P Q (step (.mksl m k bytes zs y1 y2) st q xx)) : o.wp P a c.w K Qx := by
 simp only [step] at h
 split at h
 · rename_i l cp hv1 hv2
   have e1 := opd_rel r hc1 hv1
   have e2 := opd_rel r hc2 hv2
   simp only [RelV, RelI] at e1 e2
   simp only [WT] at h
   cases hd : (decide (0 ≤ l) && decide (l ≤ cp) && decide (cp * (bytes : Int) ≤ 70368744177664)) with
   | false => exact (h.2 hd).elim
   | true =>
     have g := h.1 hd
     simp only [Bool.and_eq_true, decide_eq_true_eq] at hd
     obtain ⟨⟨d1, d2⟩, d3⟩ := hd
     obtain ⟨i, z, zs', hi, hsz, hby, hzero, hzs, hzk⟩ := he.info
     have hzs' : zs' = zs := by
       simp only [zeroT, hi, hzero] at hz
       rw [hzs] at hz; injection hz
     subst hzs'
     have hpos := he.pos
     have hcb : cp ≤ 70368744177664 := by
       have : cp * 1 ≤ cp * (bytes : Int) := Int.mul_le_mul_of_nonneg_left (by omega) (by omega)
       omega
     have hflat := range_flat z.cells (by omega) cp.toNat
     rw [hzk] at hflat
     have hzr := datsOf_rel hzs c.w (Imm c)
     have hmc : (madeCells z.cells (cp.toNat * k)).toList = (List.replicate cp.toNat z.cells.toList).flatten := by
       rw [← hflat]; simp [madeCells, hzk]
     have hll : ∀ x ∈ List.replicate cp.toNat z.cells.toList, x.length = k := fun x hx => by rw [List.eq_of_mem_replicate hx]; simpa using hzk
     obtain ⟨p1, p2⟩ := push_row r m (e := e) (cap := cp.toNat) (k := k) (xs := List.replicate l.toNat zs') (us := (List.replicate l.toNat z.cells.toList).flatten) (vs := madeCells z.cells (cp.toNat * k))
       (fun x hx => by rw [List.eq_of_mem_replicate hx]; exact hzl) (RelL.replicate hzr _)
       (fun v hv => by
         obtain ⟨l', hl1, hl2⟩ := List.mem_flatten.1 hv
         rw [List.eq_of_mem_replicate hl1] at hl2
         exact datsOf_one hzs v hl2)
       (by have := congrArg List.length hmc; rw [flatten_len hll] at this; simpa using this)
       (by simp; omega)
       (by
         rw [hmc, List.length_replicate, ← flatten_take hll l.toNat (by simp; omega)]
         congr 1
         rw [List.take_replicate]
         congr 1; omega)
     rw [List.length_replicate] at p2
     refine wp_value (w' := c.w.alloc (.cells (madeCells z.cells (cp.toNat * k)) e)) ?_ (hK (c.push st.next cp.toNat (rowBlk m k (List.replicate l.toNat zs')) (.cells (madeCells z.cells (cp.toNat * k)) e)) _ _ _ rfl rfl p1 rfl p2 g)
     simp only [execOp, ho, e1, e2]
     have := run_make c.w t e i z he.und hi hzero .i64 .i64 l cp d1 d2 (by rw [hby, Int.mul_comm]; omega) (by omega)
     rw [hsz] at this
     rw [run_bind_ok this]
     rfl
 · exact h.elim
end
end Uw
namespace Uw
open Go Go.RowKit
variable [Glob]
def ExitOK (P : Program) (Q : MExit → St → Prop) (xx : MExit → St → Tree) (c : Cx) (w0 : World) (n : Nat) (gs : Fr) (st : St) (a : Act) (Qx : Exit → Act → World → Prop) : Prop :=
 ∀ c' st' d ch, c'.B = c.B → c'.J0 = c.J0 → Rel c' w0 n gs st' a → st'.regs = st.regs → ExRel c' (.panic ch) (.panic d) → WT P Q (xx (.panic d) st') → Qx (.panic ch) a c'.w
theorem EvoK.mono {K K' : Nat} {c c' : Cx} (h : EvoK K c c') (hk : K' ≤ K) : EvoK K' c c' := ⟨h.keeps, fun id b hid hb => h.blks id b (by omega) hb⟩
theorem RelDefers.lt {c : Cx} {K : Nat} (h : ∀ id b, look c.heap id = some b → id < K) : ∀ {vs : List V} {ds : List Deferred}, RelDefers c vs ds → ltL K vs
 | [], _, _ => trivial
 | v :: vs, ds, ⟨d, ds', f, first, cap, fs, cs, h1, h2, h3, h4, h6, h5⟩ => ⟨by subst h2; exact ⟨RelVL.lt h _ _ h4, RelVL.lt h _ _ h6⟩, RelDefers.lt h h5⟩
theorem RelDefers.evoK {K : Nat} {c c' : Cx} (h : EvoK K c c') : ∀ {vs : List V} {ds : List Deferred}, ltL K vs → RelDefers c vs ds → RelDefers c' vs ds
 | [], _, _, r => r
 | v :: vs, ds, hl, ⟨d, ds', f, first, cap, fs, cs, h1, h2, h3, h4, h6, h5⟩ => by
   subst h2
   exact ⟨d, ds', f, first, cap, fs, cs, h1, rfl, h3, RelVL.evoK h _ _ hl.1.1 h4, RelVL.evoK h _ _ hl.1.2 h6, RelDefers.evoK h hl.2 h5⟩
def callFr (gs : Fr) (st : St) (a : Act) (hK : gs.K ≤ st.next) : Fr where
 K := st.next
 p := fun c => (∀ i v, look st.regs i = some v → v.lt st.next ∧ RelV c v (a.tmps.getD i undef)) ∧ (ltL st.next st.defers ∧ RelDefers c st.defers a.defers) ∧ gs.p c
 ok := by
   rintro c c' he ⟨h1, ⟨h2, h3⟩, h4⟩
   exact ⟨fun i v hv => ⟨(h1 i v hv).1, RelV.evoK he v _ (h1 i v hv).1 (h1 i v hv).2⟩, ⟨h2, h3.evoK he h2⟩, gs.ok c c' (he.mono hK) h4⟩
theorem Rel.frK {c : Cx} {w0 : World} {n : Nat} {gs : Fr} {st : St} {a : Act} (r : Rel c w0 n gs st a) : gs.K ≤ st.next := Nat.le_trans r.fbase r.base
theorem Rel.toFr {c : Cx} {w0 : World} {n : Nat} {gs : Fr} {st : St} {a : Act} (r : Rel c w0 n gs st a) : (callFr gs st a r.frK).p c :=
 ⟨fun i v hv => ⟨RelV.lt r.hrel.lt v _ (r.regs i v hv), r.regs i v hv⟩, ⟨RelDefers.lt r.hrel.lt r.defers, r.defers⟩, r.frames⟩
theorem Rel.ofFr {c c' : Cx} {w0 : World} {n : Nat} {gs : Fr} {st : St} {a : Act} (r : Rel c w0 n gs st a) {nx : Nat} (hp : (callFr gs st a r.frK).p c') (hh : HRel c' w0 nx) (hn : st.next ≤ nx) : Rel c' w0 n gs { st with heap := c'.heap, next := nx } a :=
 ⟨rfl, hh, r.size, fun i v hv => (hp.1 i v hv).2, hp.2.2, r.fbase, Nat.le_trans r.base hn, hp.2.1.2⟩
theorem mapA (f : Operand → Value) (xs : Array Operand) : (xs.toList.map f).toArray = xs.map f := by rw [← Array.toList_map]
section
variable {P : Program} {Q : MExit → St → Prop} {q : V → St → Tree} {c : Cx} {w0 : World} {n : Nat} {gs : Fr} {st : St} {a : Act} {K : Act → World → Prop} {Qx : Exit → Act → World → Prop} {o : Oper} {xx : MExit → St → Tree}
theorem opds_rel (r : Rel c w0 n gs st a) : ∀ {xs : List Operand} {ys : List Opd} {vs : List V}, compOpds xs = some ys → evList st ys = some vs → RelVL c vs (xs.map a.eval) := by
 intro xs
 induction xs with
 | nil => intro ys vs h1 h2; simp [compOpds] at h1; subst h1; simp [evList] at h2; subst h2; simp [RelVL]
 | cons x xs ih =>
   intro ys vs h1 h2
   unfold compOpds at h1
   split at h1
   · rename_i y l g1 g2
     simp at h1; subst h1
     unfold evList at h2
     split at h2
     · rename_i v l' f1 f2
       simp at h2; subst h2
       exact ⟨_, _, rfl, opd_rel r g1 f1, ih g2 f2⟩
     · simp at h2
   · simp at h1
theorem RelVL.append {c : Cx} : ∀ {xs ys : List V} {vs us : List Value}, RelVL c xs vs → RelVL c ys us → RelVL c (xs ++ ys) (vs ++ us)
 | [], ys, vs, us, h1, h2 => by simp [RelVL] at h1; subst h1; simpa using h2
 | x :: xs, ys, vs, us, h1, h2 => by
   obtain ⟨v, vs', rfl, g1, g2⟩ := h1
   exact ⟨v, vs' ++ us, rfl, g1, RelVL.append g2 h2⟩
theorem enter_ok (r : Rel c w0 n gs st a) (hK : NextOK P Q q c w0 n gs st a o.dst K) (hX : ExitOK P Q xx c w0 n gs st a Qx) {f : FuncId} {vs : List V} {gvs : List Value} (hrun : (execOp a.eval o).run P c.w = .ok (.enter f gvs.toArray) c.w) (hvs : RelVL c vs gvs)
   (h : SatC P f vs st.heap st.next fun rr h' nx' => WT P Q (match rr with | .val v => q v { st with heap := h', next := nx' } | .pan d => xx (.panic d) { st with heap := h', next := nx' })) : o.wp P a c.w K Qx := by
 unfold Oper.wp
 rw [hrun]
 have h2 := h.2 c w0 (callFr gs st a r.frK) gvs r.heap r.hrel (Nat.le_refl _) r.toFr hvs
 refine h2.mono ?_
 rintro e w' ⟨c', rr, nx', pB, pJ, rfl, pH, pn, pF, pE, pQ⟩
 have r' := r.ofFr pF pH pn
 cases e with
 | returned gv =>
   cases rr with
   | val v => exact hK c' _ v gv pB pJ r' rfl pE pQ
   | pan d => exact pE.elim
 | panicked ch =>
   cases rr with
   | val v => exact pE.elim
   | pan d => exact hX c' _ d ch pB pJ r' rfl pE pQ
 | outgrown => cases rr <;> exact pE.elim
theorem run_enter {cl : Call} {f : FuncId} {fn : Func} {w : World} (ho : o.op = .call cl) (hcal : cl.callee = .value (.func f)) (hf : P.funcs[f]? = some fn) (hb : fn.body.isSome = true) (hn : (fn.name == "runtime.NumGoroutine") = false) :
   (execOp a.eval o).run P w = .ok (.enter f (cl.args.map a.eval)) w := by
 obtain ⟨cal, args, ats⟩ := cl
 simp only at hcal
 subst hcal
 have hb' : fn.body.isNone = false := by cases h : fn.body <;> simp [h] at hb ⊢
 have : (callFunc f (args.map a.eval)).run P w = .ok (.enter f (args.map a.eval)) w := by
   unfold callFunc
   rw [run_bind_ok (s := program) (x := P) (w' := w) rfl]
   simp only [hf, hn, hb', Bool.false_eq_true, if_false]
   rfl
 simp [execOp, ho, resolve, Act.eval, Deferred.ofValue, invoke]
 exact this
theorem run_enterv {cl : Call} {f : FuncId} {t : Nat} {fs cs : Array Value} {w : World} (ho : o.op = .call cl) (hcal : cl.callee = .value (.tmp t)) (hv : a.eval (.tmp t) = .func (.func f) fs cs) (hb : HasBody P f) :
   (execOp a.eval o).run P w = .ok (.enter f (fs ++ cl.args.map a.eval ++ cs)) w := by
 obtain ⟨cal, args, ats⟩ := cl
 obtain ⟨fn, hf, hb, hn⟩ := hb
 simp only at hcal
 subst hcal
 have hb' : fn.body.isNone = false := by cases h : fn.body <;> simp [h] at hb ⊢
 have : (callFunc f (fs ++ args.map a.eval ++ cs)).run P w = .ok (.enter f (fs ++ args.map a.eval ++ cs)) w := by
   unfold callFunc
   rw [run_bind_ok (s := program) (x := P) (w' := w) rfl]
   simp only [hf, hn, hb', Bool.false_eq_true, if_false]
   rfl
 simp only [execOp, ho, resolve, hv, Deferred.ofValue, invoke]
 exact this
theorem sub_ok (r : Rel c w0 n gs st a) (hK : NextOK P Q q c w0 n gs st a o.dst K) (hX : ExitOK P Q xx c w0 n gs st a Qx) {cl : Call} {f : FuncId} {fn : Func} {ys : List Opd} (ho : o.op = .call cl) (hcal : cl.callee = .value (.func f)) (hf : P.funcs[f]? = some fn)
   (hb : fn.body.isSome = true) (hn : (fn.name == "runtime.NumGoroutine") = false) (hc : compOpds cl.args.toList = some ys) (h : WT P Q (step (.sub f ys) st q xx)) : o.wp P a c.w K Qx := by
 simp only [step] at h
 split at h
 · rename_i vs hvs
   simp only [WT] at h
   have e : (cl.args.toList.map a.eval).toArray = cl.args.map a.eval := by rw [← Array.toList_map]
   exact enter_ok r hK hX (gvs := cl.args.toList.map a.eval) (by rw [e]; exact run_enter ho hcal hf hb hn) (opds_rel r hc hvs) h
 · exact h.elim
theorem subv_ok (r : Rel c w0 n gs st a) (hK : NextOK P Q q c w0 n gs st a o.dst K) (hX : ExitOK P Q xx c w0 n gs st a Qx) {cl : Call} {t : Nat} {ys : List Opd} (ho : o.op = .call cl) (hcal : cl.callee = .value (.tmp t)) (hc : compOpds cl.args.toList = some ys)
   (h : WT P Q (step (.subv (.t t) ys) st q xx)) : o.wp P a c.w K Qx := by
 simp only [step] at h
 split at h
 · rename_i f vs hg hvs
   simp only [WT] at h
   have e1 := opd_rel r (x := .tmp t) rfl hg
   simp only [RelV, RelI] at e1
   have hrun := run_enterv (w := c.w) ho hcal e1 h.1
   have e : (cl.args.toList.map a.eval).toArray = #[] ++ cl.args.map a.eval ++ #[] := by rw [mapA]; simp
   exact enter_ok r hK hX (gvs := cl.args.toList.map a.eval) (by rw [e]; exact hrun) (opds_rel r hc hvs) h
 · rename_i f fs cs vs hg hvs
   simp only [WT] at h
   obtain ⟨us, ws, e1, e2, e3⟩ := opd_rel r (x := .tmp t) rfl hg
   have hrun := run_enterv (w := c.w) ho hcal e1 h.1
   have e : (us ++ (cl.args.toList.map a.eval ++ ws)).toArray = us.toArray ++ cl.args.map a.eval ++ ws.toArray := by
     rw [← List.append_assoc, ← List.append_toArray, ← List.append_toArray, ← Array.toList_map]
   exact enter_ok r hK hX (gvs := us ++ (cl.args.toList.map a.eval ++ ws)) (by rw [e]; exact hrun) (e2.append ((opds_rel r hc hvs).append e3)) h
 · exact h.elim
theorem mkfn_ok (r : Rel c w0 n gs st a) (hK : NextOK P Q q c w0 n gs st a o.dst K) {f : FuncId} {fs cs : Array Operand} {ys zs : List Opd} (ho : o.op = .makeFunc (.func f) fs cs) (hc1 : compOpds fs.toList = some ys) (hc2 : compOpds cs.toList = some zs)
   (h : WT P Q (step (.mkfn f ys zs) st q xx)) : o.wp P a c.w K Qx := by
 simp only [step] at h
 split at h
 · rename_i us vs hu hv
   refine ok_same r hK (v := .func f us vs) (gv := .func (.func f) (fs.map a.eval) (cs.map a.eval)) ⟨fs.toList.map a.eval, cs.toList.map a.eval, ?_, opds_rel r hc1 hu, opds_rel r hc2 hv⟩ h ?_
   · rw [mapA, mapA]
   · simp [execOp, ho, Instr.makeFunc, pure, Bind.bind, Sem.bind, Sem.run]
 · exact h.elim
theorem run_defer {cl : Call} {f : FuncId} {t : Operand} {fs cs : Array Value} {w : World} (ho : o.op = .defer cl) (hcal : cl.callee = .value t) (hv : a.eval t = .func (.func f) fs cs) :
   (execOp a.eval o).run P w = .ok (.defer { target := .fn (.func f) cs, args := fs ++ cl.args.map a.eval }) w := by
 obtain ⟨cal, args, ats⟩ := cl
 simp only at hcal
 subst hcal
 simp only [execOp, ho, resolve, hv, Deferred.ofValue]
 rfl
theorem Rel.defer {c : Cx} {w0 : World} {n : Nat} {gs : Fr} {st : St} {a : Act} (r : Rel c w0 n gs st a) {f : FuncId} {fs cs : List V} {us ws : List Value} (h1 : RelVL c fs us) (h2 : RelVL c cs ws) :
   Rel c w0 n gs { st with defers := .func f fs cs :: st.defers } { a with defers := { target := .fn (.func f) ws.toArray, args := us.toArray } :: a.defers } :=
 ⟨r.heap, r.hrel, r.size, r.regs, r.frames, r.fbase, r.base, ⟨_, _, f, fs, cs, us, ws, rfl, rfl, rfl, h1, h2, r.defers⟩⟩
def NextD (P : Program) (Q : MExit → St → Prop) (q : V → St → Tree) (c : Cx) (w0 : World) (n : Nat) (gs : Fr) (st : St) (a : Act) (dst : Option Tmp) (K : Act → World → Prop) : Prop :=
 ∀ c' st' a' v gv, c'.B = c.B → c'.J0 = c.J0 → a'.tmps = a.tmps → Rel c' w0 n gs st' a' → st'.regs = st.regs → RelV c' v gv → WT P Q (q v st') → K (a'.put dst gv) c'.w
theorem NextD.ok (h : NextD P Q q c w0 n gs st a o.dst K) : NextOK P Q q c w0 n gs st a o.dst K := fun c' st' v gv h1 h2 h3 h4 h5 h6 => h c' st' a v gv h1 h2 rfl h3 h4 h5 h6
theorem defer_ok (r : Rel c w0 n gs st a) (hK : NextD P Q q c w0 n gs st a o.dst K) {cl : Call} {t : Operand} {t' : Opd} {ys : List Opd} (ho : o.op = .defer cl) (hcal : cl.callee = .value t) (ht : compOpd t = some t') (hc : compOpds cl.args.toList = some ys)
   (h : WT P Q (step (.defer t' ys) st q xx)) : o.wp P a c.w K Qx := by
 simp only [step] at h
 split at h
 · rename_i f vs hg hvs
   have e1 := opd_rel r ht hg
   simp only [RelV, RelI] at e1
   have hrun := run_defer (P := P) (w := c.w) ho hcal e1
   unfold Oper.wp
   rw [hrun]
   have e : #[] ++ cl.args.map a.eval = (cl.args.toList.map a.eval).toArray := by rw [mapA]; simp
   rw [e]
   exact hK c _ _ .undef undef rfl rfl rfl (r.defer (opds_rel r hc hvs) (cs := []) (ws := []) rfl) rfl trivial h
 · rename_i f fs cs vs hg hvs
   obtain ⟨us, ws, e1, e2, e3⟩ := opd_rel r ht hg
   have hrun := run_defer (P := P) (w := c.w) ho hcal e1
   unfold Oper.wp
   rw [hrun]
   have e : us.toArray ++ cl.args.map a.eval = (us ++ cl.args.toList.map a.eval).toArray := by rw [← List.append_toArray, ← Array.toList_map]
   rw [e]
   exact hK c _ _ .undef undef rfl rfl rfl (r.defer (e2.append (opds_rel r hc hvs)) e3) rfl trivial h
 · exact h.elim
theorem panic_ok (r : Rel c w0 n gs st a) (hX : ExitOK P Q xx c w0 n gs st a Qx) {x : Operand} {y : Opd} (ho : o.op = .panic x) (hc : compOpd x = some y) (h : WT P Q (step (.panic y) st q xx)) : o.wp P a c.w K Qx := by
 simp only [step] at h
 split at h
 · rename_i t d hv
   obtain ⟨u, e1, e2⟩ := opd_rel r hc hv
   have hrun : (execOp a.eval o).run P c.w = .halt (.panic (.iface t u)) c.w := by
     simp [execOp, ho, e1, Instr.panic, goPanic, pure, Bind.bind, Sem.bind, Sem.run]
   unfold Oper.wp
   rw [hrun]
   exact hX c st (.iface t d) _ rfl rfl r rfl ⟨.iface t u, rfl, u, rfl, e2⟩ h
 · exact h.elim
theorem concT_und {P : Program} {t : TypeId} (h : concT P t = true) : ∃ d, P.underlying t = some d ∧ ∀ m, d ≠ .interface m := by
 unfold concT at h
 split at h
 · simp at h
 · rename_i d hd hne
   exact ⟨d, hne, fun m hm => hd m hm⟩
 · simp at h
theorem mkif_ok (r : Rel c w0 n gs st a) (hK : NextOK P Q q c w0 n gs st a o.dst K) {t : TypeId} {x : Operand} {y : Opd} (ho : o.op = .makeInterface t x) (ht : concT P t = true) (hc : compOpd x = some y) (h : WT P Q (step (.mkif t y) st q xx)) : o.wp P a c.w K Qx := by
 simp only [step] at h
 split at h
 · rename_i v hv
   split at h
   · rename_i d hd
     have e1 := opd_rel r hc hv
     rw [← r.heap] at hd
     have e2 := dat_rel hd e1
     refine ok_same r hK (v := .d (.iface t d)) (gv := .iface t (a.eval x)) ⟨_, rfl, e2⟩ h ?_
     obtain ⟨dd, h1, h2⟩ := concT_und ht
     simp only [execOp, ho]
     have : (Instr.makeInterface t (a.eval x)).run P c.w = .ok (.iface t (a.eval x)) c.w := by
       unfold Instr.makeInterface
       rw [run_bind_ok (run_und h1)]
       cases dd <;> first | rfl | exact (h2 _ rfl).elim
     rw [run_bind_ok this]
     rfl
   · exact h.elim
 · exact h.elim
theorem zeroV_ok {P : Program} {t : TypeId} {z : Dat} (h : zeroV P t = some z) (w : World) : ∃ v, (zeroValue t).run P w = .ok v w ∧ ∀ J, RelI w J z v := by
 unfold zeroV at h
 split at h
 · rename_i i hi
   split at h
   · rename_i vs hz
     simp only [Option.map_eq_some_iff] at h
     obtain ⟨ds, h1, rfl⟩ := h
     refine ⟨.agg vs, ?_, fun J => ⟨vs.toList, by simp, datsOf_rel h1 w J⟩⟩
     unfold zeroValue
     rw [run_bind_ok (run_info hi), hz]
     rfl
   · rename_i v hne hz
     refine ⟨v, ?_, fun J => datOf_rel h w J⟩
     unfold zeroValue
     rw [run_bind_ok (run_info hi), hz]
     rfl
   · simp at h
 · simp at h
theorem tas_ok (r : Rel c w0 n gs st a) (hK : NextOK P Q q c w0 n gs st a o.dst K) {t xt : TypeId} {z : Dat} {x : Operand} {y : Opd} (ho : o.op = .typeAssert x xt t true) (ht : concT P t = true) (hz : zeroV P t = some z) (hc : compOpd x = some y)
   (h : WT P Q (step (.tas t z y) st q xx)) : o.wp P a c.w K Qx := by
 obtain ⟨dd, h1, h2⟩ := concT_und ht
 obtain ⟨zv, z1, z2⟩ := zeroV_ok hz c.w
 have fails : RelV c (.tuple [V.ofDat z, .d (.bool false)]) (.tuple #[zv, .bool false]) :=
   ⟨[zv, .bool false], rfl, zv, [.bool false], rfl, RelV.ofDat (z2 _), .bool false, [], rfl, by simp [RelV, RelI], rfl⟩
 simp only [step] at h
 split at h
 · rename_i t' d hv
   obtain ⟨u, e1, e2⟩ := opd_rel r hc hv
   split at h
   · rename_i hb
     have hb := Nat.eq_of_beq_eq_true hb
     subst hb
     refine ok_same r hK (v := .tuple [V.ofDat d, .d (.bool true)]) (gv := .tuple #[u, .bool true]) ⟨[u, .bool true], rfl, u, [.bool true], rfl, RelV.ofDat e2, .bool true, [], rfl, by simp [RelV, RelI], rfl⟩ h ?_
     simp only [execOp, ho]
     have : (Instr.typeAssert (a.eval x) xt t true).run P c.w = .ok (.tuple #[u, .bool true]) c.w := by
       unfold Instr.typeAssert
       rw [run_bind_ok (run_und h1), e1]
       cases dd <;> first | (exact (h2 _ rfl).elim) | simp
     rw [run_bind_ok this]
     rfl
   · rename_i hb
     have hne : t' ≠ t := by rintro rfl; simp at hb
     refine ok_same r hK fails h ?_
     simp only [execOp, ho]
     have : (Instr.typeAssert (a.eval x) xt t true).run P c.w = .ok (.tuple #[zv, .bool false]) c.w := by
       unfold Instr.typeAssert
       rw [run_bind_ok (run_und h1), e1]
       cases dd <;> first | (exact (h2 _ rfl).elim) | simp [hne, z1]
     rw [run_bind_ok this]
     rfl
 · rename_i hv
   have e1 := opd_rel r hc hv
   simp only [RelV, RelI] at e1
   refine ok_same r hK fails h ?_
   simp only [execOp, ho]
   have : (Instr.typeAssert (a.eval x) xt t true).run P c.w = .ok (.tuple #[zv, .bool false]) c.w := by
     unfold Instr.typeAssert
     rw [run_bind_ok (run_und h1), e1]
     cases dd <;> first | (exact (h2 _ rfl).elim) | simp [z1]
   rw [run_bind_ok this]
   rfl
 · exact h.elim
end
end Uw
namespace Uw
open Go Go.RowKit
variable [Glob]
theorem setAt_append {α : Type} : ∀ (ys zs xs : List α) (i : Nat), setAt xs i (ys ++ zs) = setAt (setAt xs i ys) (i + ys.length) zs
 | [], zs, xs, i => by simp [setAt]
 | y :: ys, zs, xs, i => by
   rw [List.cons_append, setAt, setAt_append ys zs, setAt, List.length_cons]
   congr 1; omega
theorem flatten_setAt {α : Type} {k : Nat} : ∀ (ys xs : List (List α)) (i : Nat), (∀ x ∈ xs, x.length = k) → (∀ y ∈ ys, y.length = k) → i + ys.length ≤ xs.length → (setAt xs i ys).flatten = setAt xs.flatten (i * k) ys.flatten
 | [], xs, i, _, _, _ => by simp [setAt]
 | y :: ys, xs, i, h1, h2, h3 => by
   rw [List.length_cons] at h3
   have hy := h2 y (by simp)
   have hi : xs[i]? = some xs[i] := List.getElem?_eq_getElem (by omega)
   have hl := h1 xs[i] (List.getElem_mem _)
   have hs := flatten_set h1 (cc := 0) (ds := y) hi (by omega)
   rw [setAt_full _ _ (by omega), Nat.add_zero] at hs
   rw [setAt, flatten_setAt ys (xs.set i y) (i + 1) (fun x hx => by rcases List.mem_or_eq_of_mem_set hx with hx | hx; exact h1 x hx; rw [hx]; exact hy) (fun z hz => h2 z (by simp [hz])) (by simp; omega), hs, List.flatten_cons, setAt_append]
   congr 1
   rw [Nat.add_mul, hy]; omega
section
variable {P : Program} {Q : MExit → St → Prop} {q : V → St → Tree} {c : Cx} {w0 : World} {n : Nat} {gs : Fr} {st : St} {a : Act} {K : Act → World → Prop} {Qx : Exit → Act → World → Prop} {o : Oper} {xx : MExit → St → Tree}
theorem run_call_copy {cl : Call} {x y : Operand} {t t' : TypeId} {w w' : World} {v : Value} (ho : o.op = .call cl) (hb : cl.callee = .builtin .copy) (hx : cl.args.toList = [x, y]) (ht : cl.argTypes.toList = [t, t'])
   (h : (Builtin.copy_ #[t, t'] o.type #[a.eval x, a.eval y]).run P w = .ok v w') : (execOp a.eval o).run P w = .ok (.value v) w' := by
 obtain ⟨cal, args, ats⟩ := cl
 simp only at hb hx ht
 subst hb
 have hx' : args = #[x, y] := by rw [← hx]
 have ht' : ats = #[t, t'] := by rw [← ht]
 subst hx' ht'
 simp only [execOp, ho, resolve, invoke, builtin]
 simp [h]
theorem copy_ok (r : Rel c w0 n gs st a) (hK : NextOK P Q q c w0 n gs st a o.dst K) {cl : Call} {x1 x2 : Operand} {y1 y2 : Opd} {t t' e : TypeId} {k bytes : Nat} (ho : o.op = .call cl) (hb : cl.callee = .builtin .copy) (hx : cl.args.toList = [x1, x2]) (ht : cl.argTypes.toList = [t, t'])
   (he : ElemT P t e k bytes) (hc1 : compOpd x1 = some y1) (hc2 : compOpd x2 = some y2) (h : WT P Q (step (.copy k y1 y2) st q xx)) : o.wp P a c.w K Qx := by
 obtain ⟨i, z, zs, hi, hsz, hby, hzero, hzs, hzk⟩ := he.info
 have hund := he.und
 simp only [step] at h
 split at h
 · rename_i id ver off len yv hv1 hv2
   split at h
   · rename_i k' ver' xs vb ys hl hys
     split at h
     · rename_i hkk
       have hkk := Nat.eq_of_beq_eq_true hkk
       subst hkk
       replace h := WT_vtest h
       obtain ⟨hvb, h⟩ := h
       replace h := WT_testD h
       obtain ⟨hv, h⟩ := h
       have hv := Nat.eq_of_beq_eq_true hv
       subst hv
       have e2 := src_ok r (opd_rel r hc2 hv2) hys hvb
       have e1 := opd_rel r hc1 hv1
       have hl' : look c.heap id = some (.mt k ver xs) := by rw [r.heap]; exact hl
       simp only [RelV, hl'] at e1
       obtain ⟨_, _, e1⟩ := e1
       obtain ⟨f1, f2⟩ := e1 rfl
       obtain ⟨b3, b4, bb⟩ := r.hrel.blk id _ hl'
       -- nothing is copied
       have none0 : min len ys.length = 0 → (∃ x cp, a.eval x1 = .slice x len cp ∧ (x = none ∨ ∃ b o, x = some ⟨b, o, none⟩)) → (∃ x cp, a.eval x2 = .slice x ys.length cp ∧ (x = none → ys.length = 0)) → o.wp P a c.w K Qx := by
         rintro h0 ⟨xa, cp, hxa, hxa'⟩ ⟨xb, cp', hxb, hxb'⟩
         rw [h0] at h
         simp only [List.take_zero, setAt] at h
         have hev : Evo c (c.setBlk id (.mt k ver xs) (c.pl id) c.w) := by
           refine Evo.setBlk r.hrel hl' (fun _ _ _ => rfl) (Nat.le_refl _) (.inl ⟨rfl, fun hp => hp⟩) ?_ ⟨rfl, Nat.le_refl _, fun _ => ⟨rfl, rfl⟩⟩
           intro hp o' hi
           exfalso
           rcases hi with hi | ⟨_, _, g3⟩
           · exact r.hrel.ge id _ hl' hp hi.1
           · obtain ⟨_, _, hh, _⟩ := g3 id _ hl' hp rfl; cases hh
         have hH : HRel (c.setBlk id (.mt k ver xs) (c.pl id) c.w) w0 st.next := by
           refine r.hrel.setBlk hl' hev (fun _ _ _ => rfl) (Below.refl _ _) (.inl ⟨rfl, fun hp => hp⟩) ?_
           refine ⟨by rw [look_setBlk_same.2]; exact b3, b4, fun hcap => ?_⟩
           rw [look_setBlk_same.2] at hcap ⊢
           obtain ⟨vs, e', g1, g2, g3, g4⟩ := bb hcap
           exact ⟨vs, e', g1, g2, RelL.keep hev.keeps _ _ g3, g4⟩
         have hst : (c.setBlk id (.mt k ver xs) (c.pl id) c.w).heap = (id, .mt k ver xs) :: st.heap := by simp [Cx.setBlk, r.heap]
         refine wp_value (w' := c.w) (run_call_copy (v := .int .i64 0) ho hb hx ht ?_) (hK (c.setBlk id (.mt k ver xs) (c.pl id) c.w) { st with heap := (id, .mt k ver xs) :: st.heap } (.d (.int .i64 ((0 : Nat) : Int))) _ rfl rfl (r.evo hev hst hH rfl rfl rfl (Nat.le_refl _)) rfl (by simp [RelV, RelI]) h)
         have hm : ys.length.min len = 0 := by rw [Nat.min_comm] at h0; exact h0
         rw [hxa, hxb]
         rcases hxa' with rfl | ⟨b, o', rfl⟩
         · simp [Builtin.copy_, run_und hund, Go.sizeOf, typeInfo, hi, Builtin.lenOf, hm, goInt]
           cases xb <;> simp [Builtin.firstCells, loadCells, loadCellsFrom]
         · simp [Builtin.copy_, run_und hund, Go.sizeOf, typeInfo, hi, Builtin.lenOf, hm, goInt]
           cases xb <;> simp [Builtin.firstCells, loadCells, loadCellsFrom, storeCells]
       have hdst : ∃ x cp, a.eval x1 = .slice x len cp ∧ (x = none ∨ ∃ b o, x = some ⟨b, o, none⟩) := by
         rcases f2 with ⟨f2, f3, _⟩ | ⟨b, o', f2, f3⟩
         · exact ⟨none, 0, by rw [f2, f3], .inl rfl⟩
         · exact ⟨_, _, f2, .inr ⟨b, o', rfl⟩⟩
       rcases e2 with ⟨⟨x9, e2⟩, rfl⟩ | ⟨bb2, o2, cp, us, e2, e3, e4, e5, e6, e7, e8⟩
       · exact none0 (by simp) hdst ⟨x9, 0, e2, fun _ => rfl⟩
       · by_cases h0 : min len ys.length = 0
         · exact none0 h0 hdst ⟨_, cp, e2, fun hh => by cases hh⟩
         · have hlen : 0 < len := by omega
           have hcap : 0 < (c.pl id).cap := by omega
           rcases f2 with ⟨_, f3, _⟩ | ⟨b, o', f2, f3⟩
           · omega
           obtain ⟨rfl, rfl⟩ := f3 (by omega)
           obtain ⟨vs, e', g1, g2, g3, g4⟩ := bb hcap
           have hge := r.hrel.ge id _ hl' hcap
           have hgb := r.hrel.geB hl' hcap
           have hmk : min len ys.length * k ≤ ys.length * k := Nat.mul_le_mul_right _ (by omega)
           have hul : (us.take (min len ys.length * k)).length = min len ys.length * k := by simp; omega
           have hxk : (off + len) * k ≤ xs.length * k := Nat.mul_le_mul_right _ f1
           have hvk : xs.length * k ≤ vs.size := by rw [g2]; exact Nat.mul_le_mul_right _ b3
           have hml : min len ys.length * k ≤ len * k := Nat.mul_le_mul_right _ (by omega)
           rw [Nat.add_mul] at hxk
           have hone : ∀ u ∈ us.take (min len ys.length * k), one u = true := fun u hu => e8 u (List.mem_of_mem_take hu)
           obtain ⟨w', hw', L⟩ := run_storeCells (P := P) (c.pl id).gb (off * k) (us.take (min len ys.length * k)) 0 vs c.w g1 (by omega) hone
           have htk : RelL c.w (Imm c) (ys.take (min len ys.length)).flatten (us.take (min len ys.length * k)) := by
             rw [flatten_take e4 _ (by omega)]; exact e5.take _
           have hk2 : ∀ x ∈ setAt xs off (ys.take (min len ys.length)), x.length = k := fun x hx => by
             rcases mem_setAt hx with hx | hx
             · exact b4 x hx
             · exact e4 x (List.mem_of_mem_take hx)
           have hev : Evo c (c.setBlk id (.mt k ver (setAt xs off (ys.take (min len ys.length)))) (c.pl id) w') := by
             refine Evo.setBlk r.hrel hl' (fun k' _ hk' => L.other k' (hk' hcap)) (by rw [L.size]; exact Nat.le_refl _) (.inl ⟨rfl, fun _ => hcap⟩) ?_ ⟨rfl, Nat.le_refl _, fun _ => ⟨rfl, setAt_length _ _ _⟩⟩
             intro _ o' hi
             exfalso
             rcases hi with hi | ⟨_, _, g3⟩
             · exact hge hi.1
             · obtain ⟨_, _, hh, _⟩ := g3 id _ hl' hcap rfl; cases hh
           have hH : HRel (c.setBlk id (.mt k ver (setAt xs off (ys.take (min len ys.length)))) (c.pl id) w') w0 st.next := by
             refine r.hrel.setBlk hl' hev (fun k' _ hk' => L.other k' (hk' hcap)) (L.below hgb) (.inl ⟨rfl, fun _ => hcap⟩) ?_
             refine ⟨by rw [look_setBlk_same.2, setAt_length]; exact b3, hk2, fun _ => ⟨layAt vs (off * k + 0) (us.take (min len ys.length * k)), e', ?_, ?_, ?_, ?_⟩⟩
             · rw [look_setBlk_same.2]; exact L.here
             · rw [look_setBlk_same.2, size_layAt]; exact g2
             · refine RelL.keep hev.keeps _ _ ?_
               rw [setAt_length, layAt_list, Nat.add_zero, take_setAt _ _ _ _ (by rw [hul]; omega), flatten_setAt _ _ _ b4 (fun y hy => e4 y (List.mem_of_mem_take hy)) (by simp; omega)]
               exact RelL.setAt g3 htk _
             · intro u hu
               rw [setAt_length, layAt_list, Nat.add_zero, take_setAt _ _ _ _ (by rw [hul]; omega)] at hu
               rcases mem_setAt hu with hu | hu
               · exact g4 u hu
               · exact hone u hu
           have hst : (c.setBlk id (.mt k ver (setAt xs off (ys.take (min len ys.length)))) (c.pl id) w').heap = (id, .mt k ver (setAt xs off (ys.take (min len ys.length)))) :: st.heap := by simp [Cx.setBlk, r.heap]
           refine wp_value (w' := w') (run_call_copy (v := .int .i64 ((min len ys.length : Nat) : Int)) ho hb hx ht ?_) (hK (c.setBlk id (.mt k ver (setAt xs off (ys.take (min len ys.length)))) (c.pl id) w') { st with heap := (id, .mt k ver (setAt xs off (ys.take (min len ys.length)))) :: st.heap } (.d (.int .i64 ((min len ys.length : Nat) : Int))) _ rfl rfl (r.evo hev hst hH rfl rfl rfl (Nat.le_refl _)) rfl (by simp [RelV, RelI]) ?_)
           · have hm : ys.length.min len = min len ys.length := Nat.min_comm _ _
             rw [f2, e2]
             have hf : (Builtin.firstCells k (min len ys.length) (.slice (some ⟨bb2, o2, none⟩) ys.length cp)).run P c.w = .ok (us.take (min len ys.length * k)).toArray c.w := by
               simp only [Builtin.firstCells]
               refine run_loadCells hul ?_
               intro j v hv
               rw [List.getElem?_take] at hv
               split at hv
               · exact e7 j v hv
               · simp at hv
             simp only [Builtin.copy_]
             simp [run_und hund, Go.sizeOf, typeInfo, hi, Builtin.lenOf, hm, hsz, hf, hw', goInt]
           · exact h
     · exact h.elim
   · exact h.elim
 · exact h.elim
theorem guard_slice {op : BinOp} {t : TypeId} {x y : Operand} {p p' : Option Addr} {l c' l' c'' : Nat} {w : World} : (eqGuard op t x y (.slice p l c') (.slice p' l' c'')).run P w = .ok () w := by
 unfold eqGuard
 cases op <;> simp
theorem run_equal_slice {t e : TypeId} {p : Option Addr} {l c' l' c'' : Nat} {w : World} (hu : P.underlying t = some (.slice e)) : (Op.equal t (.slice p l c') (.slice none l' c'')).run P w = .ok p.isNone w := by
 have key : ∀ d, (Op.equalIn (d + 1) t (.slice p l c') (.slice none l' c'')).run P w = .ok p.isNone w := by
   intro d
   cases p <;> simp [Op.equalIn, run_und hu]
 exact key 9999
theorem eqn_ok (r : Rel c w0 n gs st a) (hK : NextOK P Q q c w0 n gs st a o.dst K) {op : BinOp} {t t' e : TypeId} {x y0 : Operand} {y : Opd} {neg : Bool} (ho : o.op = .binOp op t x y0 t') (hop : op = if neg then .neq else .eql) (hu : P.underlying t = some (.slice e)) (hy : isNilC y0 = true)
   (hc : compOpd x = some y) (h : WT P Q (step (.eqn neg y) st q xx)) : o.wp P a c.w K Qx := by
 have hy' : ∃ l' c'', a.eval y0 = .slice none l' c'' := by
   unfold isNilC at hy
   split at hy
   · exact ⟨_, _, rfl⟩
   · simp at hy
 obtain ⟨l', c'', hy'⟩ := hy'
 have run : ∀ (p : Option Addr) (l cp : Nat), a.eval x = .slice p l cp → (execOp a.eval o).run P c.w = .ok (.value (.bool (if p.isNone then !neg else neg))) c.w := by
   intro p l cp hx
   refine run_bin (v := .bool true) ho (by rw [hx, hy']; exact guard_slice) ?_
   rw [hx, hy']
   cases neg with
   | true =>
     simp only [if_true] at hop; subst hop
     simp only [binOp]
     rw [run_bind_ok (run_equal_slice hu)]
     cases p <;> rfl
   | false =>
     simp only [Bool.false_eq_true, if_false] at hop; subst hop
     simp only [binOp]
     rw [run_bind_ok (run_equal_slice hu)]
     cases p <;> rfl
 simp only [step] at h
 split at h
 · rename_i hv
   have e1 := opd_rel r hc hv
   simp only [RelV, RelI] at e1
   exact ok_same r hK (gv := .bool (!neg)) (by simp [RelV, RelI]) h (run none 0 0 e1)
 · rename_i k xs z hv
   have e1 := opd_rel r hc hv
   simp only [RelV, RelI] at e1
   simp only [WT] at h
   rcases e1 with ⟨⟨x9, e1, _⟩, rfl⟩ | ⟨b, o', cap, e1, _⟩
   · cases x9 with
     | none => exact ok_same r hK (gv := .bool (!neg)) (by simp [RelV, RelI]) (h.1 rfl).1 (run none 0 0 e1)
     | some x9 => exact ok_same r hK (gv := .bool neg) (by simp [RelV, RelI]) (h.1 rfl).2 (run (some x9) 0 0 e1)
   · have hq : WT P Q (q (.d (.bool neg)) st) := by
       cases hxe : xs.isEmpty with
       | true => exact (h.1 hxe).2
       | false => exact h.2 hxe
     exact ok_same r hK (gv := .bool neg) (by simp [RelV, RelI]) hq (run (some ⟨b, o', none⟩) _ _ e1)
 · exact h.elim
theorem eqi_ok (r : Rel c w0 n gs st a) (hK : NextOK P Q q c w0 n gs st a o.dst K) {op : BinOp} {t t' : TypeId} {ms : Array (String × TypeId)} {x y0 : Operand} {y : Opd} {neg : Bool} (ho : o.op = .binOp op t x y0 t') (hop : op = if neg then .neq else .eql) (hu : P.underlying t = some (.interface ms)) (hy : isNilI y0 = true)
   (hc : compOpd x = some y) (h : WT P Q (step (.eqi neg y) st q xx)) : o.wp P a c.w K Qx := by
 have hy' : y0 = .const .nilIface := by
   unfold isNilI at hy
   split at hy
   · rfl
   · simp at hy
 subst hy'
 have key : ∀ (v : Value) (b : Bool), a.eval x = v → (v = .nilIface ∧ b = true ∨ (∃ t u, v = .iface t u) ∧ b = false) → (execOp a.eval o).run P c.w = .ok (.value (.bool (if b then !neg else neg))) c.w := by
   intro v b hx hv
   have he : ∀ d, (Op.equalIn (d + 1) t v .nilIface).run P c.w = .ok b c.w := by
     intro d
     rcases hv with ⟨rfl, rfl⟩ | ⟨⟨t1, u, rfl⟩, rfl⟩ <;> simp [Op.equalIn, run_und hu]
   have he : (Op.equal t v .nilIface).run P c.w = .ok b c.w := he 9999
   have hg : (eqGuard op t x (.const .nilIface) v .nilIface).run P c.w = .ok () c.w := by
     unfold eqGuard
     rcases hv with ⟨rfl, rfl⟩ | ⟨⟨t1, u, rfl⟩, rfl⟩ <;> cases op <;> simp
   refine run_bin (v := .bool true) ho (by rw [hx]; exact hg) ?_
   rw [hx]
   show (binOp op t v .nilIface).run P c.w = _
   cases neg with
   | true =>
     simp only [if_true] at hop; subst hop
     rcases hv with ⟨rfl, rfl⟩ | ⟨⟨t1, u, rfl⟩, rfl⟩ <;> simp only [binOp] <;> rw [run_bind_ok he] <;> rfl
   | false =>
     simp only [Bool.false_eq_true, if_false] at hop; subst hop
     rcases hv with ⟨rfl, rfl⟩ | ⟨⟨t1, u, rfl⟩, rfl⟩ <;> simp only [binOp] <;> rw [run_bind_ok he] <;> rfl
 simp only [step] at h
 split at h
 · rename_i hv
   have e1 := opd_rel r hc hv
   simp only [RelV, RelI] at e1
   exact ok_same r hK (gv := .bool (!neg)) (by simp [RelV, RelI]) h (key _ true e1 (.inl ⟨rfl, rfl⟩))
 · rename_i t1 d hv
   obtain ⟨u, e1, e2⟩ := opd_rel r hc hv
   exact ok_same r hK (gv := .bool neg) (by simp [RelV, RelI]) h (key _ false e1 (.inr ⟨⟨t1, u, rfl⟩, rfl⟩))
 · exact h.elim
end
end Uw
namespace Uw
open Go Go.RowKit
variable [Glob]
theorem eqD_ok {P : Program} {w : World} {J : Nat → Nat → Prop} {k : Nat} {x y : Dat} {v u : Value} {b : Bool} (h : eqD k x y = some b) (hx : RelI w J x v) (hy : RelI w J y u) {t : TypeId} (ht : kindT P t = some k) (d : Nat) : (Op.equalIn (d + 1) t v u).run P w = .ok b w := by
 unfold eqD at h
 split at h
 · rename_i k1 a k' b'
   split at h
   · rename_i hk
     have hk : k1 = k' := of_decide_eq_true hk
     subst hk
     simp at h; subst h
     simp only [RelI] at hx hy
     subst hx hy
     unfold kindT at ht
     split at ht <;> simp at ht
     rename_i k2 hu
     rw [run_equalIn_int w d t k1 k2 a b' hu]
     congr 1
   · simp at h
 · rename_i a b'
   simp at h; subst h
   simp only [RelI] at hx hy
   subst hx hy
   unfold kindT at ht
   split at ht <;> simp at ht
   rename_i hu
   exact run_equalIn_bool' w d t a b' hu
 · rename_i a b'
   simp at h; subst h
   simp only [RelI] at hx hy
   subst hx hy
   unfold kindT at ht
   split at ht <;> simp at ht
   rename_i hu
   rw [run_equalIn_string w d t _ _ hu, bytes_eq]
 · simp at h
theorem kindT_agg {P : Program} {t : TypeId} {k : Nat} (h : kindT P t = some k) : isAggT P t = some false := by
 unfold kindT at h
 unfold isAggT
 split at h <;> simp_all
theorem run_part {P : Program} {t : TypeId} {w : World} {cs : Array Value} {off : Nat} {v : Value} (ht : isAggT P t = some false) (hv : cs[off]? = some v) : (part t cs off).run P w = .ok v w := by
 unfold part
 rw [run_bind_ok (run_isAgg ht)]
 simp [hv]
theorem eqFields_ok {P : Program} {c : Cx} {xs ys : Array Value} (d : Nat) : ∀ (fs : List Field) (i : Nat) (ks : List Nat) (cs ds : List V) (b : Bool), flatF P i fs = some ks → RelVL c cs (xs.toList.drop i) → RelVL c ds (ys.toList.drop i) → eqL ks cs ds = some b →
   (Op.eqFields (d + 1) xs ys fs).run P c.w = .ok b c.w := by
 intro fs
 induction fs with
 | nil =>
   intro i ks cs ds b hf h1 h2 h
   simp [flatF] at hf; subst hf
   cases cs with
   | cons a r => simp [eqL] at h
   | nil =>
     cases ds with
     | cons a r => simp [eqL] at h
     | nil => simp [eqL] at h; subst h; rfl
 | cons f fs ih =>
   intro i ks cs ds b hf h1 h2 h
   simp only [flatF] at hf
   split at hf
   · rename_i k l hk hb hl
     simp at hf; subst hf
     rw [Bool.and_eq_true] at hb
     have hoff := Nat.eq_of_beq_eq_true hb.1
     have hname : f.name ≠ "_" := by simpa using hb.2
     unfold eqL at h
     split at h
     · simp at *
     · rename_i k0 ks0 x r y r' e1
       simp only [List.cons.injEq] at e1
       obtain ⟨rfl, rfl⟩ := e1
       split at h
       · rename_i b1 b2 hd hr
         simp at h; subst h
         obtain ⟨v, vs', e1, g1, g2⟩ := h1
         obtain ⟨u, us', e2, g3, g4⟩ := h2
         have hv : xs[i]? = some v := by
           have : (xs.toList.drop i)[0]? = some v := by rw [e1]; rfl
           rw [List.getElem?_drop] at this; simpa using this
         have hu : ys[i]? = some u := by
           have : (ys.toList.drop i)[0]? = some u := by rw [e2]; rfl
           rw [List.getElem?_drop] at this; simpa using this
         have e1' : xs.toList.drop (i + 1) = vs' := by
           rw [← List.tail_drop, e1]; rfl
         have e2' : ys.toList.drop (i + 1) = us' := by
           rw [← List.tail_drop, e2]; rfl
         simp only [Op.eqFields, hname, ne_eq, not_false_eq_true, if_true]
         rw [run_bind_ok (run_part (kindT_agg hk) (by rw [hoff]; exact hv)), run_bind_ok (run_part (kindT_agg hk) (by rw [hoff]; exact hu)), run_bind_ok (eqD_ok hd g1 g3 hk d)]
         cases b1 with
         | false => simp
         | true =>
           simp only [Bool.not_true, Bool.false_eq_true, if_false, Bool.true_and]
           exact ih (i + 1) _ _ _ b2 hl (by rw [e1']; exact g2) (by rw [e2']; exact g4) hr
       · simp at h
     · simp at h
   · simp at hf
theorem isAgg_val {c : Cx} {v : V} {gv : Value} (h : v.isAgg = true) (r : RelV c v gv) : ∃ vs : List Value, gv = .agg vs.toArray ∧ RelVL c v.cells vs := by
 cases v with
 | agg cs => exact r
 | d x =>
   cases x with
   | agg ds => obtain ⟨vs, h1, h2⟩ := r; exact ⟨vs, h1, RelVL.ofL h2⟩
   | _ => simp [V.isAgg] at h
 | _ => simp [V.isAgg] at h
section
variable {P : Program} {Q : MExit → St → Prop} {q : V → St → Tree} {c : Cx} {w0 : World} {n : Nat} {gs : Fr} {st : St} {a : Act} {K : Act → World → Prop} {Qx : Exit → Act → World → Prop} {o : Oper} {xx : MExit → St → Tree}
theorem eqs_ok (r : Rel c w0 n gs st a) (hK : NextOK P Q q c w0 n gs st a o.dst K) {op : BinOp} {t t' : TypeId} {x1 x2 : Operand} {y1 y2 : Opd} {neg : Bool} {ks : List Nat} (ho : o.op = .binOp op t x1 x2 t') (hop : op = if neg then .neq else .eql) (ht : flatT P t = some ks)
   (hc1 : compOpd x1 = some y1) (hc2 : compOpd x2 = some y2) (h : WT P Q (step (.eqs neg ks y1 y2) st q xx)) : o.wp P a c.w K Qx := by
 simp only [step] at h
 split at h
 · rename_i v u hv hu
   split at h
   · rename_i b hag hb
     rw [Bool.and_eq_true] at hag
     obtain ⟨vs, e1, e2⟩ := isAgg_val hag.1 (opd_rel r hc1 hv)
     obtain ⟨us, e3, e4⟩ := isAgg_val hag.2 (opd_rel r hc2 hu)
     unfold flatT at ht
     split at ht
     · rename_i fs hund
       split at ht
       · rename_i hg
         rw [Bool.and_eq_true] at hg
         have hg1 : P.stoodInHeld t = false := by simpa using hg.1
         have hg2 : P.eqGuardType P.depth t = false := by simpa using hg.2
         have hfo : P.fieldsOf t = fs := by simp [Program.fieldsOf, hund]
         have heq : (Op.equalIn 10000 t (.agg vs.toArray) (.agg us.toArray)).run P c.w = .ok b c.w := by
           rw [run_equalIn_struct c.w 9999 t _ _ (by rw [hfo]; exact hund) hg1, hfo]
           exact eqFields_ok 9998 fs.toList 0 ks _ _ b ht (by simpa using e2) (by simpa using e4) hb
         refine ok_same r hK (v := .d (.bool (negB neg b))) (gv := .bool (negB neg b)) (by simp [RelV, RelI]) h (run_bin (v := .bool true) ho ?_ ?_)
         · rw [e1, e3]; exact run_eqGuard_agg c.w op t x1 x2 _ _ hg2
         · rw [e1, e3]
           cases neg with
           | true =>
             simp only [if_true] at hop; subst hop
             rw [run_neq_struct, heq]; rfl
           | false =>
             simp only [Bool.false_eq_true, if_false] at hop; subst hop
             rw [run_eql_struct, heq]; rfl
       · simp at ht
     · simp at ht
   · exact h.elim
 · exact h.elim
end
end Uw
namespace Uw
open Go Go.RowKit
variable [Glob]
def setO (w : World) (r : Nat) (o : Obj) : World := { w with heap := w.heap.setIfInBounds r o }
section
variable {P : Program} {w : World}
theorem run_getMap {r : Nat} {ms : Array MapEntry} {k : Nat} (h : w.heap[r]? = some (.map ms k)) : (getObj r).run P w = .ok (.map ms k) w := by
 simp [getObj, Sem.run, h]
theorem run_getIter {r : Nat} {s : ByteArray} {k : Nat} (h : w.heap[r]? = some (.stringIter s k)) : (getObj r).run P w = .ok (.stringIter s k) w := by
 simp [getObj, Sem.run, h]
theorem run_setMap {r : Nat} {ms : Array MapEntry} {k : Nat} {o : Obj} (h : w.heap[r]? = some (.map ms k)) : (setObj r o).run P w = .ok () (setO w r o) := by
 simp [setObj, Sem.run, h, setO]
theorem run_setIter {r : Nat} {s : ByteArray} {k : Nat} {o : Obj} (h : w.heap[r]? = some (.stringIter s k)) : (setObj r o).run P w = .ok () (setO w r o) := by
 simp [setObj, Sem.run, h, setO]
theorem setO_other {r : Nat} {o : Obj} {k : Nat} (h : k ≠ r) : (setO w r o).heap[k]? = w.heap[k]? := by
 simp [setO, Array.getElem?_setIfInBounds, Ne.symm h]
theorem setO_here {r : Nat} {o o' : Obj} (h : w.heap[r]? = some o') : (setO w r o).heap[r]? = some o := by
 have hlt : r < w.heap.size := by
   by_cases hlt : r < w.heap.size
   · exact hlt
   · rw [Array.getElem?_eq_none (by omega)] at h; cases h
 simp [setO, Array.getElem?_setIfInBounds, hlt]
theorem setO_size {r : Nat} {o : Obj} : (setO w r o).heap.size = w.heap.size := by simp [setO]
def KindK : Option IntKind → TypeDesc → Prop
 | some _, d => ∃ k, d = .int k
 | none, d => d = .string
theorem mapT_ok {t k e : TypeId} {kk : Option IntKind} {z : Dat} (h : mapT P t = some (k, e, kk, z)) : P.underlying t = some (.map k e) ∧ zeroV P e = some z ∧ ∃ d, P.underlying k = some d ∧ KindK kk d := by
 unfold mapT at h
 split at h
 · rename_i k' e' hu
   split at h
   · rename_i ik z' hk hz
     simp at h
     obtain ⟨rfl, rfl, rfl, rfl⟩ := h
     exact ⟨hu, hz, _, hk, _, rfl⟩
   · rename_i z' hk hz
     simp at h
     obtain ⟨rfl, rfl, rfl, rfl⟩ := h
     exact ⟨hu, hz, _, hk, rfl⟩
   · simp at h
 · simp at h
theorem keyOf_ok {w : World} {J : Nat → Nat → Prop} {kk : Option IntKind} {x : Dat} {key : MKey} {v : Value} (h : keyOf kk x = some key) (r : RelI w J x v) : keyRel kk key v := by
 unfold keyOf at h
 split at h
 · split at h
   · rename_i hk
     have hk := of_decide_eq_true hk
     subst hk
     simp at h; subst h
     exact r
   · simp at h
 · simp at h; subst h; exact r
 · simp at h
theorem run_checkKey {b : Bool} {t : TypeId} {d : TypeDesc} {kk : Option IntKind} {key : MKey} {v : Value} (hu : P.underlying t = some d) (hk : KindK kk d) (hv : keyRel kk key v) : (Instr.checkKey b 10000 t v).run P w = .ok () w := by
 rw [show (10000 : Nat) = 9999 + 1 from rfl, Instr.checkKey, run_bind_ok (run_und hu)]
 cases kk with
 | some k => obtain ⟨k', rfl⟩ := hk; rfl
 | none => cases hk; rfl
theorem keyRel_fun {kk : Option IntKind} {key : MKey} {v u : Value} (h1 : keyRel kk key v) (h2 : keyRel kk key u) : u = v := by
 cases kk <;> cases key <;> simp only [keyRel] at h1 h2 <;> first | (rw [h1, h2]) | exact h1.elim
theorem beq_bytes (s t : List UInt8) : ((⟨s.toArray⟩ : ByteArray) == (⟨t.toArray⟩ : ByteArray)) = decide (s = t) := by
 have h : ((⟨s.toArray⟩ : ByteArray) == (⟨t.toArray⟩ : ByteArray)) = (s.toArray == t.toArray) := rfl
 rw [h]
 apply Bool.eq_iff_iff.mpr
 simp
theorem same_ok {kk : Option IntKind} {d : TypeDesc} (hk : KindK kk d) {k1 k2 : MKey} {v u : Value} (h1 : keyRel kk k1 v) (h2 : keyRel kk k2 u) : Instr.sameNow d v u = some (decide (k1 = k2)) := by
 cases kk with
 | some k =>
   obtain ⟨k', rfl⟩ := hk
   cases k1 with
   | s b => exact h1.elim
   | i n1 =>
     cases k2 with
     | s b => exact h2.elim
     | i n2 =>
       simp only [keyRel] at h1 h2
       subst h1 h2; simp [Instr.sameNow]
       apply Bool.eq_iff_iff.mpr; simp
 | none =>
   cases hk
   cases k1 with
   | i n1 => exact h1.elim
   | s b1 =>
     cases k2 with
     | i n2 => exact h2.elim
     | s b2 =>
       simp only [keyRel] at h1 h2
       subst h1 h2
       simp only [Instr.sameNow, MKey.s.injEq]
       congr 1
       exact beq_bytes b1 b2
theorem bits_ok {kk : Option IntKind} {key : MKey} {v : Value} (h1 : keyRel kk key v) : Instr.sameBits 10000 v v = true := by
 cases kk <;> cases key <;> simp only [keyRel] at h1 <;> first | (subst h1; simp [Instr.sameBits, beq_bytes]; done) | exact h1.elim
theorem find_ok {J : Nat → Nat → Prop} {kk : Option IntKind} {d : TypeDesc} (hk : KindK kk d) {key : MKey} {x : Value} (hx : keyRel kk key x) : ∀ (es : List (MKey × Dat)) (ms : List MapEntry) (i : Nat), RelM w J kk es ms →
   (mget es key = none ∧ Instr.findNow d x ms i = some none ∧ ∀ (v : Value) (b : Nat) (dd : Dat), RelI w J dd v → RelM w J kk (mset es key dd) (ms ++ [{ key := x, val := v, born := b }])) ∨
   (∃ dv j v m, mget es key = some dv ∧ Instr.findNow d x ms i = some (some (i + j, v)) ∧ ms[j]? = some m ∧ keyRel kk key m.key ∧ RelI w J dv v ∧ ∀ (u : Value) (dd : Dat), RelI w J dd u → RelM w J kk (mset es key dd) (ms.modify j fun e => { e with key := x, val := u }))
 | [], ms, i, r => by
   simp only [RelM] at r; subst r
   refine .inl ⟨rfl, rfl, fun v b dd hv => ⟨_, [], rfl, hx, hv, rfl⟩⟩
 | (k, dd) :: es, ms, i, ⟨m, ms', e1, h2, h3, h4⟩ => by
   subst e1
   have hs := same_ok hk hx h2
   by_cases hkk : key = k
   · subst hkk
     refine .inr ⟨dd, 0, m.val, m, by simp [mget], by simp [Instr.findNow, hs], rfl, h2, h3, fun u dd' hu => ?_⟩
     simp only [mset, decide_true, List.modify_zero_cons]
     exact ⟨_, ms', rfl, hx, hu, h4⟩
   · have hd : decide (key = k) = false := by simpa using hkk
     rcases find_ok hk hx es ms' (i + 1) h4 with ⟨g1, g2, g3⟩ | ⟨dv, j, v, m', g1, g2, g3, g4, g5, g6⟩
     · refine .inl ⟨by simp [mget, hd, g1], by simp [Instr.findNow, hs, hd, g2], fun v b dd' hv => ?_⟩
       simp only [mset, hd]
       exact ⟨m, _, rfl, h2, h3, g3 v b dd' hv⟩
     · refine .inr ⟨dv, j + 1, v, m', by simp [mget, hd, g1], by simp [Instr.findNow, hs, hd, g2]; omega, by simpa using g3, g4, g5, fun u dd' hu => ?_⟩
       simp only [mset, hd, List.modify_succ_cons]
       exact ⟨m, _, rfl, h2, h3, g6 u dd' hu⟩
theorem run_findKey {t : TypeId} {d : TypeDesc} {v : Value} {ms : List MapEntry} {res : Option (Nat × Value)} (hu : P.underlying t = some d) (h : Instr.findNow d v ms 0 = some res) : (Instr.findKey t v ms).run P w = .ok res w := by
 unfold Instr.findKey
 rw [run_bind_ok (run_und hu), h]
 rfl
theorem RelM.length {J : Nat → Nat → Prop} {kk : Option IntKind} : ∀ (es : List (MKey × Dat)) (ms : List MapEntry), RelM w J kk es ms → ms.length = es.length
 | [], ms, r => by simp only [RelM] at r; subst r; rfl
 | (k, dd) :: es, ms, ⟨m, ms', e1, h2, h3, h4⟩ => by subst e1; simp [RelM.length es ms' h4]
end
section
variable {P : Program} {Q : MExit → St → Prop} {q : V → St → Tree} {c : Cx} {w0 : World} {n : Nat} {gs : Fr} {st : St} {a : Act} {K : Act → World → Prop} {Qx : Exit → Act → World → Prop} {o : Oper} {xx : MExit → St → Tree}
theorem Rel.setObj (r : Rel c w0 n gs st a) {id : Nat} {b b' : Blk} (hl : look c.heap id = some b) (hna : ∀ k xs, b ≠ .arr k xs) (hph : Ph (c.pl id) b) (hbe : BlkEvo (c.pl id) (c.pl id) b b') {ob : Obj}
   (hb : Evo c (c.setBlk id b' (c.pl id) (setO c.w (c.pl id).gb ob)) → BlkRel (c.setBlk id b' (c.pl id) (setO c.w (c.pl id).gb ob)) id b') :
   Rel (c.setBlk id b' (c.pl id) (setO c.w (c.pl id).gb ob)) w0 n gs { st with heap := (id, b') :: st.heap } a := by
 have hge := r.hrel.ge id b hl hph
 have hgB := r.hrel.geB hl hph
 refine r.setBlk hl (fun k _ hk => setO_other (hk hph)) (by rw [setO_size]; exact Nat.le_refl _) ⟨rfl, rfl, rfl, by rw [setO_size]; exact Nat.le_refl _, fun k hk => setO_other (by omega)⟩ (.inl ⟨rfl, fun _ => hph⟩) ?_ hbe hb
 intro _ oo hi
 exfalso
 rcases hi with ⟨h1, _⟩ | ⟨h1, h2, h3⟩
 · exact hge h1
 · obtain ⟨k, xs, h, _⟩ := h3 id b hl hph rfl
   exact hna k xs h
theorem mkmap_ok (r : Rel c w0 n gs st a) (hK : NextOK P Q q c w0 n gs st a o.dst K) {t : TypeId} {kk : Option IntKind} (ho : o.op = .makeMap t none) (h : WT P Q (step (.mkmap kk) st q xx)) : o.wp P a c.w K Qx := by
 simp only [step] at h
 refine wp_value (w' := c.w.alloc (.map #[] 0)) (gv := .map (some c.w.heap.size)) ?_ (hK (c.push st.next 0 (.map kk []) (.map #[] 0)) _ _ _ rfl rfl (r.push ?_) rfl ?_ h)
 · simp [execOp, ho, Instr.makeMap, newObj, pure, Bind.bind, Sem.bind, Sem.run]
 · refine ⟨#[], 0, ?_, rfl⟩
   show (c.w.heap.push (.map #[] 0))[((c.push st.next 0 (.map kk []) (.map #[] 0)).pl st.next).gb]? = _
   simp [Cx.push]
 · simp [RelV, Cx.push, look_cons, RelHnd]
theorem rng_ok (r : Rel c w0 n gs st a) (hK : NextOK P Q q c w0 n gs st a o.dst K) {t : TypeId} {x : Operand} {y : Opd} (ho : o.op = .range t x) (hu : P.underlying t = some .string) (hc : compOpd x = some y) (h : WT P Q (step (.rng y) st q xx)) : o.wp P a c.w K Qx := by
 simp only [step] at h
 split at h
 · rename_i s hv
   have e1 := opd_rel r hc hv
   simp only [RelV, RelI] at e1
   refine wp_value (w' := c.w.alloc (.stringIter ⟨s.toArray⟩ 0)) (gv := .pointer (some ⟨c.w.heap.size, 0, none⟩)) ?_ (hK (c.push st.next 0 (.iter s 0) (.stringIter ⟨s.toArray⟩ 0)) _ _ _ rfl rfl (r.push ?_) rfl ?_ h)
   · simp only [execOp, ho, e1]
     have : (Instr.range t (.string ⟨s.toArray⟩)).run P c.w = .ok (.pointer (some ⟨c.w.heap.size, 0, none⟩)) (c.w.alloc (.stringIter ⟨s.toArray⟩ 0)) := by
       unfold Instr.range
       simp [run_und hu, newObj, Sem.run]
     rw [run_bind_ok this]; rfl
   · show (c.w.heap.push (.stringIter ⟨s.toArray⟩ 0))[((c.push st.next 0 (.iter s 0) (.stringIter ⟨s.toArray⟩ 0)).pl st.next).gb]? = _
     simp [Cx.push]
   · simp [RelV, Cx.push, look_cons, RelHnd]
 · exact h.elim
theorem nxt_ok (r : Rel c w0 n gs st a) (hK : NextOK P Q q c w0 n gs st a o.dst K) {x : Operand} {y : Opd} (ho : o.op = .next x true) (hc : compOpd x = some y) (h : WT P Q (step (.nxt y) st q xx)) : o.wp P a c.w K Qx := by
 simp only [step] at h
 split at h
 · rename_i id hv
   have e1 := opd_rel r hc hv
   simp only [RelV] at e1
   rw [r.heap] at e1
   split at h
   · rename_i s pos hl
     rw [hl] at e1
     simp only [RelHnd] at e1
     have hl' : look c.heap id = some (.iter s pos) := by rw [r.heap]; exact hl
     have hb : c.w.heap[(c.pl id).gb]? = some (.stringIter ⟨s.toArray⟩ pos) := r.hrel.blk id _ hl'
     simp only [WT] at h
     cases hp : decide (pos < s.length) with
     | false =>
       have hq := h.2 hp
       have hp := of_decide_eq_false hp
       refine ok_same r hK (v := .tuple [.d (.bool false)]) (gv := .tuple #[.bool false]) ⟨[.bool false], rfl, .bool false, [], rfl, by simp [RelV, RelI], rfl⟩ hq ?_
       simp only [execOp, ho, e1]
       have : (Instr.next (.pointer (some ⟨(c.pl id).gb, 0, none⟩)) true o.type).run P c.w = .ok (.tuple #[.bool false]) c.w := by
         unfold Instr.next
         simp only
         rw [run_bind_ok (run_getIter hb)]
         simp [ByteArray.size, hp]
       rw [run_bind_ok this]; rfl
     | true =>
       have hq := h.1 hp
       have hp := of_decide_eq_true hp
       have hr : Rel (c.setBlk id (.iter s (pos + (runeAt s pos).2)) (c.pl id) (setO c.w (c.pl id).gb (.stringIter ⟨s.toArray⟩ (pos + (runeAt s pos).2)))) w0 n gs _ a :=
         r.setObj (b' := .iter s (pos + (runeAt s pos).2)) hl' (by simp) trivial rfl (fun _ => by
           show (setO c.w (c.pl id).gb _).heap[((c.setBlk id _ (c.pl id) _).pl id).gb]? = _
           rw [look_setBlk_same.2, setO_here hb])
       refine wp_value (w' := setO c.w (c.pl id).gb (.stringIter ⟨s.toArray⟩ (pos + (runeAt s pos).2))) (gv := .tuple #[.bool true, .int .i64 pos, .int .i32 (runeAt s pos).1]) ?_ (hK (c.setBlk id (.iter s (pos + (runeAt s pos).2)) (c.pl id) (setO c.w (c.pl id).gb (.stringIter ⟨s.toArray⟩ (pos + (runeAt s pos).2)))) _ (.tuple [.d (.bool true), .d (.int .i64 pos), .d (.int .i32 (runeAt s pos).1)]) _ rfl rfl hr rfl ⟨[.bool true, .int .i64 pos, .int .i32 (runeAt s pos).1], rfl, _, _, rfl, by simp [RelV, RelI], _, _, rfl, by simp [RelV, RelI], _, _, rfl, by simp [RelV, RelI], rfl⟩ hq)
       simp only [execOp, ho, e1]
       have : (Instr.next (.pointer (some ⟨(c.pl id).gb, 0, none⟩)) true o.type).run P c.w = .ok (.tuple #[.bool true, .int .i64 pos, .int .i32 (runeAt s pos).1]) (setO c.w (c.pl id).gb (.stringIter ⟨s.toArray⟩ (pos + (runeAt s pos).2))) := by
         unfold Instr.next
         simp only
         rw [run_bind_ok (run_getIter hb)]
         have hp' : pos < (⟨s.toArray⟩ : ByteArray).size := by simpa [ByteArray.size] using hp
         simp only [hp', if_true]
         rw [run_bind_ok (run_setIter hb)]
         simp [goInt, runeAt_eq]
       rw [run_bind_ok this]; rfl
   · exact h.elim
 · exact h.elim
theorem lkp_ok (r : Rel c w0 n gs st a) (hK : NextOK P Q q c w0 n gs st a o.dst K) {t k e : TypeId} {kk : Option IntKind} {z : Dat} {x i : Operand} {y j : Opd} {ok : Bool} (ho : o.op = .lookup t x i ok) (ht : mapT P t = some (k, e, kk, z))
   (hc1 : compOpd x = some y) (hc2 : compOpd i = some j) (h : WT P Q (step (.lkp ok kk z y j) st q xx)) : o.wp P a c.w K Qx := by
 obtain ⟨hu, hz, dk, hk, hkk⟩ := mapT_ok ht
 simp only [step] at h
 split at h
 · rename_i id xd hv1 hv2
   have e1 := opd_rel r hc1 hv1
   have e2 := opd_rel r hc2 hv2
   simp only [RelV] at e1
   rw [r.heap] at e1
   split at h
   · rename_i kk' es hl
     rw [hl] at e1
     simp only [RelHnd] at e1
     have hl' : look c.heap id = some (.map kk' es) := by rw [r.heap]; exact hl
     split at h
     · rename_i key hd hkey
       have hd := of_decide_eq_true hd
       subst hd
       obtain ⟨ms, clock, hb, hm⟩ := r.hrel.blk id _ hl'
       have hkr := keyOf_ok hkey e2
       simp only [WT] at h
       have run : ∀ (fd : Option (Nat × Value)) (v : Value) (b : Bool), Instr.findNow dk (a.eval i) ms.toList 0 = some fd → ((fd = none ∧ (zeroValue e).run P c.w = .ok v c.w ∧ b = false) ∨ (∃ jj, fd = some (jj, v) ∧ b = true)) →
           (execOp a.eval o).run P c.w = .ok (.value (if ok then .tuple #[v, .bool b] else v)) c.w := by
         intro fd v b hf hcase
         simp only [execOp, ho, e1]
         have : (Instr.lookup t (.map (some (c.pl id).gb)) (a.eval i) ok).run P c.w = .ok (if ok then .tuple #[v, .bool b] else v) c.w := by
           unfold Instr.lookup
           rw [run_bind_ok (run_und hu)]
           simp only
           rw [run_bind_ok (run_getMap hb)]
           simp only
           rw [run_bind_ok (s := pure ms) (x := ms) (w' := c.w) rfl]
           rw [run_bind_ok (run_checkKey hk hkk hkr), run_bind_ok (run_findKey hk hf)]
           rcases hcase with ⟨rfl, hz, rfl⟩ | ⟨jj, rfl, rfl⟩
           · simp only
             rw [run_bind_ok hz]
             rfl
           · simp only
             rfl
         rw [run_bind_ok this]; rfl
       have res : ∀ (u : V) (v : Value) (b : Bool), RelV c u v → RelV c (lkRes ok u b) (if ok then .tuple #[v, .bool b] else v) := by
         intro u v b hu
         cases ok with
         | true => exact ⟨[v, .bool b], rfl, _, _, rfl, hu, _, _, rfl, by simp [RelV, RelI], rfl⟩
         | false => exact hu
       rcases find_ok hkk hkr es ms.toList 0 hm with ⟨g1, g2, _⟩ | ⟨dv, jj, v, m, g1, g2, _, _, g5, _⟩
       · obtain ⟨zv, z1, z2⟩ := zeroV_ok hz c.w
         exact ok_same r hK (res _ _ _ (RelV.ofDat (z2 _))) (h.2 (by rw [g1]; rfl)) (run _ zv false g2 (.inl ⟨rfl, z1, rfl⟩))
       · obtain ⟨dv', h1, h2⟩ := h.1 (by rw [g1]; rfl)
         rw [g1] at h1; injection h1 with h1; subst h1
         exact ok_same r hK (res _ _ _ (RelV.ofDat g5)) h2 (run _ v true g2 (.inr ⟨_, rfl, rfl⟩))
     · exact h.elim
   · exact h.elim
 · exact h.elim
theorem mupd_ok (r : Rel c w0 n gs st a) (hK : NextOK P Q q c w0 n gs st a o.dst K) {t k e : TypeId} {kk : Option IntKind} {z : Dat} {x i u : Operand} {y j l : Opd} (ho : o.op = .mapUpdate t x i u) (ht : mapT P t = some (k, e, kk, z))
   (hc1 : compOpd x = some y) (hc2 : compOpd i = some j) (hc3 : compOpd u = some l) (h : WT P Q (step (.mupd kk y j l) st q xx)) : o.wp P a c.w K Qx := by
 obtain ⟨hu, hz, dk, hk, hkk⟩ := mapT_ok ht
 simp only [step] at h
 split at h
 · rename_i id xd uv hv1 hv2 hv3
   have e1 := opd_rel r hc1 hv1
   have e2 := opd_rel r hc2 hv2
   have e3 := opd_rel r hc3 hv3
   simp only [RelV] at e1
   rw [r.heap] at e1
   split at h
   · rename_i kk' es dd hl hdd
     rw [hl] at e1
     simp only [RelHnd] at e1
     have hl' : look c.heap id = some (.map kk' es) := by rw [r.heap]; exact hl
     rw [← r.heap] at hdd
     have e3 := dat_rel hdd e3
     split at h
     · rename_i key hd hkey
       have hd := of_decide_eq_true hd
       subst hd
       obtain ⟨ms, clock, hb, hm⟩ := r.hrel.blk id _ hl'
       have hkr := keyOf_ok hkey e2
       have fin : ∀ (ms' : Array MapEntry) (k' : Nat), RelM c.w (Imm c) kk (mset es key dd) ms'.toList → (Instr.mapUpdate t (.map (some (c.pl id).gb)) (a.eval i) (a.eval u)).run P c.w = .ok () (setO c.w (c.pl id).gb (.map ms' k')) → o.wp P a c.w K Qx := by
         intro ms' k' hm' hrun
         have hr : Rel (c.setBlk id (.map kk (mset es key dd)) (c.pl id) (setO c.w (c.pl id).gb (.map ms' k'))) w0 n gs _ a :=
           r.setObj (b' := .map kk (mset es key dd)) hl' (by simp) trivial ⟨rfl, rfl⟩ (fun he => by
             refine ⟨ms', k', ?_, RelM.keep he.keeps _ _ hm'⟩
             show (setO c.w (c.pl id).gb _).heap[((c.setBlk id _ (c.pl id) _).pl id).gb]? = _
             rw [look_setBlk_same.2, setO_here hb])
         refine wp_skip' (w' := setO c.w (c.pl id).gb (.map ms' k')) ?_ (hK (c.setBlk id (.map kk (mset es key dd)) (c.pl id) (setO c.w (c.pl id).gb (.map ms' k'))) _ .undef undef rfl rfl hr rfl trivial h)
         simp only [execOp, ho, e1]
         rw [run_bind_ok hrun]; rfl
       have pre : ∀ (fd : Option (Nat × Value)), Instr.findNow dk (a.eval i) ms.toList 0 = some fd → (Instr.mapUpdate t (.map (some (c.pl id).gb)) (a.eval i) (a.eval u)).run P c.w =
           (match fd with
             | some (i1, _) => do
               let key ← Instr.keyThatStays (((ms[i1]?).map (·.key)).getD (a.eval i)) (a.eval i)
               setObj (c.pl id).gb (.map (ms.modify i1 fun e => { e with key, val := a.eval u }) clock)
             | none => setObj (c.pl id).gb (.map (ms.push { key := a.eval i, val := a.eval u, born := clock }) (clock + 1)) : Sem Unit).run P c.w := by
         intro fd hf
         unfold Instr.mapUpdate
         rw [run_bind_ok (run_und hu)]
         simp only
         rw [run_bind_ok (run_getMap hb)]
         simp only
         rw [run_bind_ok (run_checkKey hk hkk hkr), run_bind_ok (run_findKey hk hf)]
         rfl
       rcases find_ok hkk hkr es ms.toList 0 hm with ⟨g1, g2, g3⟩ | ⟨dv, jj, v, m, g1, g2, g3, g4, g5, g6⟩
       · refine fin (ms.push { key := a.eval i, val := a.eval u, born := clock }) (clock + 1) ?_ ?_
         · rw [Array.toList_push]; exact g3 _ _ _ e3
         · rw [pre _ g2]; exact run_setMap hb
       · refine fin (ms.modify jj fun e => { e with key := a.eval i, val := a.eval u }) clock ?_ ?_
         · rw [Array.toList_modify]; exact g6 _ _ e3
         · rw [pre _ g2]
           simp only [Nat.zero_add]
           have hm0 : ms[jj]? = some m := by simpa using g3
           have hst : (Instr.keyThatStays (((ms[jj]?).map (·.key)).getD (a.eval i)) (a.eval i)).run P c.w = .ok (a.eval i) c.w := by
             rw [hm0]
             simp only [Option.map_some, Option.getD_some]
             rw [keyRel_fun hkr g4]
             unfold Instr.keyThatStays
             rw [if_pos (bits_ok hkr)]; rfl
           rw [run_bind_ok hst]; exact run_setMap hb
     · exact h.elim
   · exact h.elim
 · exact h.elim
theorem lenm_ok (r : Rel c w0 n gs st a) (hK : NextOK P Q q c w0 n gs st a o.dst K) {cl : Call} {x : Operand} {t k e : TypeId} {y : Opd} (ho : o.op = .call cl) (hb : cl.callee = .builtin .len) (hx : cl.args.toList = [x]) (ht : cl.argTypes.toList = [t])
   (hu : P.underlying t = some (.map k e)) (hc : compOpd x = some y) (h : WT P Q (step (.lenm y) st q xx)) : o.wp P a c.w K Qx := by
 simp only [step] at h
 split at h
 · rename_i id hv
   have e1 := opd_rel r hc hv
   simp only [RelV] at e1
   rw [r.heap] at e1
   split at h
   · rename_i kk es hl
     rw [hl] at e1
     simp only [RelHnd] at e1
     have hl' : look c.heap id = some (.map kk es) := by rw [r.heap]; exact hl
     obtain ⟨ms, clock, hbk, hm⟩ := r.hrel.blk id _ hl'
     have hlen := RelM.length _ _ hm
     simp only [Array.length_toList] at hlen
     refine ok_same r hK (v := .d (.int .i64 es.length)) (gv := .int .i64 es.length) (by simp [RelV, RelI]) h ?_
     obtain ⟨cal, args, ats⟩ := cl
     simp only at hb hx ht
     subst hb
     have hx' : args = #[x] := by rw [← hx]
     have ht' : ats = #[t] := by rw [← ht]
     subst hx' ht'
     simp only [execOp, ho, resolve, invoke, builtin]
     have : (Builtin.len_ #[t] o.type #[a.eval x]).run P c.w = .ok (.int .i64 es.length) c.w := by
       rw [e1]
       unfold Builtin.len_
       simp [run_und hu, run_getMap hbk, goInt, hlen]
     simp [this]
   · exact h.elim
 · exact h.elim
theorem mm_ok (r : Rel c w0 n gs st a) (hK : NextOK P Q q c w0 n gs st a o.dst K) {cl : Call} {x1 x2 : Operand} {y1 y2 : Opd} {mx : Bool} (ho : o.op = .call cl) (hb : cl.callee = .builtin (if mx then .max else .min)) (hx : cl.args.toList = [x1, x2])
   (hc1 : compOpd x1 = some y1) (hc2 : compOpd x2 = some y2) (h : WT P Q (step (.mm mx y1 y2) st q xx)) : o.wp P a c.w K Qx := by
 simp only [step] at h
 split at h
 · rename_i k i k' j hv1 hv2
   have e1 := opd_rel r hc1 hv1
   have e2 := opd_rel r hc2 hv2
   simp only [RelV, RelI] at e1 e2
   split at h
   · rename_i hd
     have hd := of_decide_eq_true hd
     subst hd
     refine ok_same r hK (v := .d (.int k (mmI mx i j))) (gv := .int k (mmI mx i j)) (by simp [RelV, RelI]) h ?_
     obtain ⟨cal, args, ats⟩ := cl
     simp only at hb hx
     subst hb
     have hx' : args = #[x1, x2] := by rw [← hx]
     subst hx'
     simp only [execOp, ho, resolve, invoke]
     cases mx with
     | true =>
       have : (Builtin.max_ ats o.type #[a.eval x1, a.eval x2]).run P c.w = .ok (.int k (mmI true i j)) c.w := by
         rw [e1, e2]
         unfold Builtin.max_
         simp only [List.foldlM_cons, List.foldlM_nil, Builtin.max2, mmI]
         have : (if j > i then j else i) = max i j := by split <;> omega
         rw [this]; rfl
       simp [this, builtin]
     | false =>
       have : (Builtin.min_ ats o.type #[a.eval x1, a.eval x2]).run P c.w = .ok (.int k (mmI false i j)) c.w := by
         rw [e1, e2]
         unfold Builtin.min_
         simp only [List.foldlM_cons, List.foldlM_nil, Builtin.min2, mmI]
         have : (if j < i then j else i) = min i j := by split <;> omega
         rw [this]; rfl
       simp [this, builtin]
   · exact h.elim
 · exact h.elim
theorem bytesOf_vals {w : World} {J : Nat → Nat → Prop} : ∀ {ys : List (List Dat)} {bs : List UInt8} {us : List Value}, bytesOf ys = some bs → RelL w J ys.flatten us → ∃ ns : List Int, us = ns.map (Value.int .u8) ∧ bs = ns.map (fun m => UInt8.ofNat m.toNat)
 | [], bs, us, h, r => by
   simp [bytesOf] at h; subst h
   simp [RelL] at r; subst r
   exact ⟨[], rfl, rfl⟩
 | y :: ys, bs, us, h, r => by
   unfold bytesOf at h
   split at h
   · simp at *
   · rename_i m rr e1
     simp only [List.cons.injEq] at e1
     obtain ⟨rfl, rfl⟩ := e1
     split at h
     · rename_i l hl
       simp at h; subst h
       simp only [List.flatten_cons, List.cons_append, List.nil_append] at r
       obtain ⟨v, us', rfl, r1, r2⟩ := r
       simp only [RelI] at r1; subst r1
       obtain ⟨ns, rfl, rfl⟩ := bytesOf_vals hl r2
       exact ⟨m :: ns, rfl, rfl⟩
     · simp at h
   · simp at h
theorem push_fold : ∀ (ns : List Int) (s : ByteArray), ns.foldl (fun r m => r.push (UInt8.ofNat m.toNat)) s = ⟨s.data ++ (ns.map fun m => UInt8.ofNat m.toNat).toArray⟩
 | [], s => by simp
 | m :: ns, s => by
   rw [List.foldl_cons, push_fold ns]
   simp [ByteArray.push]
theorem b2s_ok (r : Rel c w0 n gs st a) (hK : NextOK P Q q c w0 n gs st a o.dst K) {s d e : TypeId} {x : Operand} {y : Opd} (ho : o.op = .convert s d x) (hs : P.underlying s = some (.slice e)) (hd : P.underlying d = some .string) (he : P.underlying e = some (.int .u8)) (hc : compOpd x = some y)
   (h : WT P Q (step (.b2s y) st q xx)) : o.wp P a c.w K Qx := by
 simp only [step] at h
 split at h
 · rename_i k ys z hv
   have e1 := opd_rel r hc hv
   split at h
   · rename_i bs hk hbs
     have hk := Nat.eq_of_beq_eq_true hk
     subst hk
     refine ok_same r hK (v := .d (.str bs)) (gv := .string ⟨bs.toArray⟩) (by simp [RelV, RelI]) h ?_
     simp only [execOp, ho]
     have key : (convert s d (a.eval x)).run P c.w = .ok (.string ⟨bs.toArray⟩) c.w := by
       rcases e1 with ⟨⟨xa, e2, _⟩, rfl⟩ | ⟨b, o', cap, e2, h1, h2, h3⟩
       · simp [bytesOf] at hbs; subst hbs
         rw [e2, run_convert_bytes_string c.w s d e _ _ _ hs he hd]
         cases xa with
         | none => rfl
         | some aa =>
           rw [run_bytesToString c.w aa 0 0 [] (by rfl)]
           rfl
       · obtain ⟨g1, us, g2, g3⟩ := RelE.flat h3
         obtain ⟨ns, rfl, rfl⟩ := bytesOf_vals hbs g2
         have hl : (ns.map (Value.int .u8)).length = ys.length := by
           have h1 := RelL.length g2
           have h2 := flatten_len g1
           simp at h1 h2 ⊢; omega
         rw [e2, run_convert_bytes_string c.w s d e _ _ _ hs he hd, run_bytesToString c.w _ _ _ ns (run_loadCells hl g3.2.1), push_fold]
         simp
     rw [run_bind_ok key]; rfl
   · exact h.elim
 · exact h.elim
theorem fldv_ok (r : Rel c w0 n gs st a) (hK : NextOK P Q q c w0 n gs st a o.dst K) {s : TypeId} {fs : Array Field} {f : Nat} {fd : Field} {k : Nat} {g : Bool} {x : Operand} {y : Opd} (ho : o.op = .field s x f) (hu : P.underlying s = some (.struct fs)) (hf : fs[f]? = some fd) (hg : isAggT P fd.type = some g) (hk : sizeT P fd.type = some k)
   (hc1 : compOpd x = some y) (h : WT P Q (step (.fldv g k fd.offset y) st q xx)) : o.wp P a c.w K Qx := by
 simp only [step, forceL_eq] at h
 split at h
 · rename_i v hv1
   split at h
   · rename_i hag
     rw [Bool.and_eq_true] at hag
     obtain ⟨vs, e1, e2⟩ := isAgg_val hag.1 (opd_rel r hc1 hv1)
     have hle := Nat.le_of_ble_eq_true hag.2
     split at h
     · rename_i u hmk
       obtain ⟨gu, p1, p2⟩ := pack_rel ((e2.drop fd.offset).take k) hmk
       refine ok_same r hK p2 h ?_
       simp only [execOp, ho]
       have : (Instr.field s (a.eval x) f).run P c.w = .ok gu c.w := by
         unfold Instr.field
         rw [e1, run_bind_ok (run_und hu)]
         simp only [hf]
         rw [run_bind_ok (s := asAgg _) (x := vs.toArray) (w' := c.w) rfl]
         unfold part
         rw [run_bind_ok (run_isAgg hg)]
         cases g with
         | true =>
           simp only [pack, Option.some.injEq] at p1
           subst p1
           simp only [if_true]
           rw [run_bind_ok (run_size hk)]
           simp [List.extract_toArray, List.extract_eq_take_drop]
         | false =>
           simp only [Bool.false_eq_true, if_false]
           have hlen := mkVal_len (g := false) hmk
           match hl : (vs.drop fd.offset).take k, p1 with
           | [v0], p1 =>
             simp only [pack, Option.some.injEq] at p1
             subst p1
             have hv0 : vs[fd.offset]? = some v0 := by
               have h0 : ((vs.drop fd.offset).take k)[0]? = some v0 := by rw [hl]; rfl
               rw [List.getElem?_take] at h0
               split at h0
               · simpa using h0
               · simp at h0
             simp [hv0]
       rw [run_bind_ok this]; rfl
     · exact h.elim
   · exact h.elim
 · exact h.elim
theorem idxv_ok (r : Rel c w0 n gs st a) (hK : NextOK P Q q c w0 n gs st a o.dst K) {t e : TypeId} {m k : Nat} {g : Bool} {x i : Operand} {y j : Opd} (ho : o.op = .index t x i) (hu : P.underlying t = some (.array m e)) (hg : isAggT P e = some g) (hk : sizeT P e = some k)
   (hc1 : compOpd x = some y) (hc2 : compOpd i = some j) (h : WT P Q (step (.idxv g m k y j) st q xx)) : o.wp P a c.w K Qx := by
 simp only [step, forceL_eq] at h
 split at h
 · rename_i v ik jj hv1 hv2
   have e5 := opd_rel r hc2 hv2
   simp only [RelV, RelI] at e5
   split at h
   · rename_i hag
     obtain ⟨vs, e1, e2⟩ := isAgg_val hag (opd_rel r hc1 hv1)
     obtain ⟨hb, h⟩ := WT_testD h
     simp only [Bool.and_eq_true, decide_eq_true_eq] at hb
     split at h
     · rename_i hle
       have hle := Nat.le_of_ble_eq_true hle
       split at h
       · rename_i u hmk
         obtain ⟨gu, p1, p2⟩ := pack_rel ((e2.drop (jj.toNat * k)).take k) hmk
         refine ok_same r hK p2 h ?_
         simp only [execOp, ho]
         have : (Instr.index t (a.eval x) (a.eval i)).run P c.w = .ok gu c.w := by
           unfold Instr.index
           rw [e1, e5, run_bind_ok (s := asIntOf _) (x := (ik, jj)) (w' := c.w) rfl]
           simp only []
           rw [run_bind_ok (run_und hu)]
           simp only [hb, and_self, if_true]
           rw [run_bind_ok (run_size hk)]
           unfold part
           rw [run_bind_ok (run_isAgg hg)]
           cases g with
           | true =>
             simp only [pack, Option.some.injEq] at p1
             subst p1
             simp only [if_true]
             rw [run_bind_ok (run_size hk)]
             simp [List.extract_toArray, List.extract_eq_take_drop]
           | false =>
             simp only [Bool.false_eq_true, if_false]
             have hlen := mkVal_len (g := false) hmk
             match hl : (vs.drop (jj.toNat * k)).take k, p1 with
             | [v0], p1 =>
               simp only [pack, Option.some.injEq] at p1
               subst p1
               have hv0 : vs[jj.toNat * k]? = some v0 := by
                 have h0 : ((vs.drop (jj.toNat * k)).take k)[0]? = some v0 := by rw [hl]; rfl
                 rw [List.getElem?_take] at h0
                 split at h0
                 · simpa using h0
                 · simp at h0
               simp [hv0]
         rw [run_bind_ok this]; rfl
       · exact h.elim
     · exact h.elim
   · exact h.elim
 · exact h.elim
end
end Uw
namespace Uw
open Go Go.RowKit
variable [Glob]
section
variable {P : Program} {Q : MExit → St → Prop} {q : V → St → Tree} {c : Cx} {w0 : World} {n : Nat} {gs : Fr} {st : St} {a : Act} {K : Act → World → Prop} {Qx : Exit → Act → World → Prop} {o : Oper} {xx : MExit → St → Tree}
theorem call_ok (r : Rel c w0 n gs st a) (hK : NextOK P Q q c w0 n gs st a o.dst K) {cl : Call} {f : FuncId} {fn : Func} {ys : List Opd} (ho : o.op = .call cl) (hcal : cl.callee = .value (.func f)) (hf : P.funcs[f]? = some fn)
   (hb : fn.body.isSome = true) (hn : (fn.name == "runtime.NumGoroutine") = false) (hc : compOpds cl.args.toList = some ys) (h : WT P Q (step (.call f ys) st q xx)) : o.wp P a c.w K Qx := by
 simp only [step] at h
 split at h
 · rename_i vs hvs
   split at h
   · rename_i ds hds
     simp only [WT] at h
     obtain ⟨res, hret, hq⟩ := h
     rw [← r.heap] at hds
     have h1 := datList_rel hds (opds_rel r hc hvs)
     unfold Oper.wp
     rw [run_enter ho hcal hf hb hn]
     have h2 := hret c.w (Imm c) _ r.hrel.glob h1
     have e : (cl.args.toList.map a.eval).toArray = cl.args.map a.eval := by
       rw [← Array.toList_map]
     rw [e] at h2
     refine h2.mono ?_
     rintro e w' ⟨v, rfl, hv, hbel⟩
     have hgrow := r.grow hbel
     refine hK { c with w := w' } st (V.ofDat res) v rfl rfl hgrow rfl (RelV.ofDat ?_) hq
     refine RelI.keep ?_ _ _ hv
     intro b o' hj
     refine ⟨?_, rfl⟩
     rcases hj with hj | ⟨hj1, hj2⟩
     · exact ((Evo.grow r.hrel hbel).keeps b o' hj).1
     · refine .inr ⟨r.hrel.old_ge hj1, hj2, ?_⟩
       intro id blk hl hph hg
       have := r.hrel.gb_lt hl hph
       have hg' : (c.pl id).gb = b := hg
       omega
   · exact h.elim
 · exact h.elim
theorem elemT_ok {P : Program} {t e : TypeId} {k bytes : Nat} {zs : List Dat} (h : elemT P t = some (e, k, bytes, zs)) : ElemT P t e k bytes ∧ 0 < k ∧ sizeT P e = some k ∧ zeroT P e = some zs ∧ zs.length = k := by
 unfold elemT at h
 split at h
 · rename_i e' hu
   split at h
   · rename_i i hi
     split at h
     · rename_i z hz
       split at h
       · rename_i zs' hzs
         split at h
         · rename_i hb
           simp only [Bool.and_eq_true] at hb
           simp at h
           obtain ⟨rfl, rfl, rfl, rfl⟩ := h
           have h1 := Nat.eq_of_beq_eq_true hb.1.1.1
           have h2 := Nat.eq_of_beq_eq_true hb.1.1.2
           refine ⟨⟨hu, ⟨i, z, zs', hi, rfl, rfl, hz, hzs, h1⟩, by simpa using hb.2⟩, by simpa using hb.1.2, by simp [sizeT, hi], by simp [zeroT, hi, hz, hzs], h2⟩
         · simp at h
       · simp at h
     · simp at h
   · simp at h
 · simp at h
theorem step_ok (r : Rel c w0 n gs st a) {mo : MOp} {pol : Pol} (hc : compOp P pol o = some mo) (hD : NextD P Q q c w0 n gs st a o.dst K) (hX : ExitOK P Q xx c w0 n gs st a Qx) (h : WT P Q (step mo st q xx)) : o.wp P a c.w K Qx := by
 have hK := hD.ok
 unfold compOp at hc
 split at hc
 · rename_i x ho
   simp only [Option.map_eq_some_iff] at hc
   obtain ⟨y, hy, rfl⟩ := hc
   exact mov_ok r hK (.inl ho) hy h
 · rename_i x ho
   simp only [Option.map_eq_some_iff] at hc
   obtain ⟨y, hy, rfl⟩ := hc
   exact mov_ok r hK (.inr ho) hy h
 · rename_i x1 x2 x3 ho
   split at hc
   · rename_i y1 y2 y3 h1 h2 h3
     simp at hc; subst hc
     exact pick_ok r hK ho h1 h2 h3 h
   · simp at hc
 · rename_i t x ho
   simp only [Option.map_eq_some_iff] at hc
   obtain ⟨y, hy, rfl⟩ := hc
   exact box_ok r hK ho hy h
 · rename_i t ho
   simp only [Option.map_eq_some_iff] at hc
   obtain ⟨zs, hz, rfl⟩ := hc
   exact alloc_ok r hK ho hz h
 · rename_i t ps ho
   split at hc
   · rename_i place zs hp hz
     simp only [Option.map_eq_some_iff] at hc
     obtain ⟨qs, hq, rfl⟩ := hc
     exact build_ok r hK ho hp hz hq h
   · simp at hc
 · rename_i t x ho
   split at hc
   · rename_i g m y h1 h2 h3
     simp at hc; subst hc
     exact load_ok r hK ho h1 h2 h3 h
   · simp at hc
 · rename_i t x1 x2 ho
   split at hc
   · rename_i m y1 y2 h1 h2 h3
     simp at hc; subst hc
     exact store_ok r hK ho h1 h2 h3 h
   · simp at hc
 · rename_i x ho
   simp only [Option.map_eq_some_iff] at hc
   obtain ⟨y, hy, rfl⟩ := hc
   exact nilck_ok r hK ho hy h
 · rename_i s x f ho
   split at hc
   · rename_i fs hu
     split at hc
     · rename_i fd hf
       split at hc
       · rename_i m y h1 h2
         simp at hc; subst hc
         exact fld_ok r hK ho hu hf h1 h2 h
       · simp at hc
     · simp at hc
   · simp at hc
 · rename_i t x i ho
   split at hc
   · rename_i e hu
     split at hc
     · rename_i k y j h1 h2 h3
       simp at hc; subst hc
       exact idx_ok r hK ho hu h1 h2 h3 h
     · simp at hc
   · rename_i m e hu
     split at hc
     · rename_i k y j h1 h2 h3
       simp at hc; subst hc
       exact idxa_ok r hK ho hu h1 h2 h3 h
     · simp at hc
   · simp at hc
 · rename_i t x i ho
   split at hc
   · rename_i hu
     split at hc
     · rename_i y j h2 h3
       simp at hc; subst hc
       exact idxs_ok r hK ho hu h2 h3 h
     · simp at hc
   · rename_i m e hu
     split at hc
     · rename_i g k y j h0 h1 h2 h3
       simp at hc; subst hc
       exact idxv_ok r hK ho hu h0 h1 h2 h3 h
     · simp at hc
   · simp at hc
 · rename_i t ho
   split at hc
   · rename_i k e kk z ht
     simp at hc; subst hc
     exact mkmap_ok r hK ho h
   · simp at hc
 · rename_i t x i ok ho
   split at hc
   · rename_i k e kk z y j ht h1 h2
     simp at hc; subst hc
     exact lkp_ok r hK ho ht h1 h2 h
   · simp at hc
 · rename_i t x i u ho
   split at hc
   · rename_i k e kk z y j l ht h1 h2 h3
     simp at hc; subst hc
     exact mupd_ok r hK ho ht h1 h2 h3 h
   · simp at hc
 · rename_i t x ho
   split at hc
   · rename_i hu
     simp only [Option.map_eq_some_iff] at hc
     obtain ⟨y, hy, rfl⟩ := hc
     exact rng_ok r hK ho hu hy h
   · simp at hc
 · rename_i x ho
   simp only [Option.map_eq_some_iff] at hc
   obtain ⟨y, hy, rfl⟩ := hc
   exact nxt_ok r hK ho hy h
 · rename_i op t x1 x2 t' ho
   split at hc
   · rename_i y1 y2 hu h1 h2
     split at hc
     · simp at hc; subst hc
       exact eqb_ok r hK ho (by simp) hu h1 h2 h
     · simp at hc; subst hc
       exact eqb_ok r hK ho (by simp) hu h1 h2 h
     · simp at hc
   · rename_i k y1 y2 hu h1 h2
     simp at hc; subst hc
     exact bin_ok r hK ho h1 h2 h
   · rename_i y1 y2 hu h1 h2
     simp at hc; subst hc
     exact bin_ok r hK ho h1 h2 h
   · rename_i e y1 y2 hu h1 h2
     split at hc
     · rename_i hn
       simp at hc; subst hc
       exact eqn_ok r hK ho (by simp) hu hn h1 h
     · rename_i hn
       simp at hc; subst hc
       exact eqn_ok r hK ho (by simp) hu hn h1 h
     · simp at hc
   · rename_i ms y1 y2 hu h1 h2
     split at hc
     · rename_i hn
       simp at hc; subst hc
       exact eqi_ok r hK ho (by simp) hu hn h1 h
     · rename_i hn
       simp at hc; subst hc
       exact eqi_ok r hK ho (by simp) hu hn h1 h
     · simp at hc
   · rename_i fs y1 y2 hu h1 h2
     split at hc
     · rename_i ks hn
       simp at hc; subst hc
       exact eqs_ok r hK ho (by simp) hn h1 h2 h
     · rename_i ks hn
       simp at hc; subst hc
       exact eqs_ok r hK ho (by simp) hn h1 h2 h
     · simp at hc
   · simp at hc
 · rename_i t x ho
   simp only [Option.map_eq_some_iff] at hc
   obtain ⟨y, hy, rfl⟩ := hc
   exact not_ok r hK ho hy h
 · rename_i s d x ho
   split at hc
   · rename_i k' k hs hd
     simp only [Option.map_eq_some_iff] at hc
     obtain ⟨y, hy, rfl⟩ := hc
     exact conv_ok r hK ho hs hd hy h
   · rename_i e hs hd
     split at hc
     · rename_i he
       simp only [Option.map_eq_some_iff] at hc
       obtain ⟨y, hy, rfl⟩ := hc
       exact b2s_ok r hK ho hs hd he hy h
     · simp at hc
   · simp at hc
 · rename_i cl ho
   split at hc
   · rename_i hcal
     split at hc
     · rename_i x t hx ht
       split at hc
       · rename_i e hu
         simp only [Option.map_eq_some_iff] at hc
         obtain ⟨y, hy, rfl⟩ := hc
         exact len_ok r hK ho hcal hx ht (by simpa using ⟨e, hu⟩) hy h
       · rename_i hu
         simp only [Option.map_eq_some_iff] at hc
         obtain ⟨y, hy, rfl⟩ := hc
         exact len_ok r hK ho hcal hx ht (by simpa using hu) hy h
       · rename_i k e hu
         simp only [Option.map_eq_some_iff] at hc
         obtain ⟨y, hy, rfl⟩ := hc
         exact lenm_ok r hK ho hcal hx ht hu hy h
       · simp at hc
     · simp at hc
   · rename_i hcal
     split at hc
     · rename_i x y hx
       split at hc
       · rename_i x' y' h1 h2
         simp at hc; subst hc
         exact mm_ok (mx := false) r hK ho (by simpa using hcal) hx h1 h2 h
       · simp at hc
     · simp at hc
   · rename_i hcal
     split at hc
     · rename_i x y hx
       split at hc
       · rename_i x' y' h1 h2
         simp at hc; subst hc
         exact mm_ok (mx := true) r hK ho (by simpa using hcal) hx h1 h2 h
       · simp at hc
     · simp at hc
   · rename_i hcal
     split at hc
     · rename_i x y t t' hx ht
       split at hc
       · rename_i e k bytes zs x' y' hbt hel h1 h2
         have hbt := Nat.eq_of_beq_eq_true hbt
         subst hbt
         simp at hc; subst hc
         exact app_ok r hK ho hcal hx ht (elemT_ok hel).1 h1 h2 h
       · simp at hc
     · simp at hc
   · rename_i f hcal
     split at hc
     · rename_i fn hf
       split at hc
       · rename_i hb
         simp only [Bool.and_eq_true, Bool.not_eq_true'] at hb
         split at hc
         · simp only [Option.map_eq_some_iff] at hc
           obtain ⟨ys, hy, rfl⟩ := hc
           exact sub_ok r hK hX ho hcal hf hb.1 hb.2 hy h
         · simp only [Option.map_eq_some_iff] at hc
           obtain ⟨ys, hy, rfl⟩ := hc
           exact call_ok r hK ho hcal hf hb.1 hb.2 hy h
       · simp at hc
     · simp at hc
   · rename_i t hcal
     simp only [Option.map_eq_some_iff] at hc
     obtain ⟨ys, hy, rfl⟩ := hc
     exact subv_ok r hK hX ho hcal hy h
   · rename_i hcal
     split at hc
     · rename_i x y t t' hx ht
       split at hc
       · rename_i e k bytes zs e' x' y' hel hu h1 h2
         simp at hc; subst hc
         exact copy_ok r hK ho hcal hx ht (elemT_ok hel).1 h1 h2 h
       · simp at hc
     · simp at hc
   · simp at hc
 · rename_i f fs cs ho
   split at hc
   · rename_i fs' cs' h1 h2
     simp at hc; subst hc
     exact mkfn_ok r hK ho h1 h2 h
   · simp at hc
 · rename_i cl ho
   split at hc
   · rename_i t hcal
     simp only [Option.map_eq_some_iff] at hc
     obtain ⟨ys, hy, rfl⟩ := hc
     exact defer_ok r hD ho hcal rfl hy h
   · rename_i f hcal
     simp only [Option.map_eq_some_iff] at hc
     obtain ⟨ys, hy, rfl⟩ := hc
     exact defer_ok r hD ho hcal rfl hy h
   · simp at hc
 · rename_i x ho
   simp only [Option.map_eq_some_iff] at hc
   obtain ⟨y, hy, rfl⟩ := hc
   exact panic_ok r hX ho hy h
 · rename_i t x ho
   split at hc
   · rename_i y ht h1
     simp at hc; subst hc
     exact mkif_ok r hK ho ht h1 h
   · simp at hc
 · rename_i x xt t ho
   split at hc
   · rename_i z y ht hz h1
     simp at hc; subst hc
     exact tas_ok r hK ho ht hz h1 h
   · simp at hc
 · rename_i x i ho
   simp only [Option.map_eq_some_iff] at hc
   obtain ⟨y, hy, rfl⟩ := hc
   exact ext_ok r hK ho hy h
 · rename_i s x f ho
   split at hc
   · rename_i fs hu
     split at hc
     · rename_i fd hf
       split at hc
       · rename_i g k y h0 h1 h2
         simp at hc; subst hc
         exact fldv_ok r hK ho hu hf h0 h1 h2 h
       · simp at hc
     · simp at hc
   · simp at hc
 · rename_i t len ps ho
   split at hc
   · rename_i e k bytes zs qs hel hq
     split at hc
     · rename_i hle
       simp at hc; subst hc
       obtain ⟨g1, g2, g3, g4, g5⟩ := elemT_ok hel
       exact bslice_ok r hK ho g1.und g3 g2 g4 g5 (Nat.le_of_ble_eq_true hle) hq h
     · simp at hc
   · simp at hc
 · rename_i t l cp ho
   split at hc
   · rename_i e k bytes zs l' cp' hel h1 h2
     simp at hc; subst hc
     obtain ⟨g1, g2, g3, g4, g5⟩ := elemT_ok hel
     exact mksl_ok r hK ho g1 g2 g4 g5 h1 h2 h
   · simp at hc
 · rename_i t x lo hi ho
   split at hc
   · rename_i hu
     split at hc
     · rename_i x' lo' hi' h1 h2 h3
       simp at hc; subst hc
       exact slstr_ok r hK ho hu h1 h2 h3 h
     · simp at hc
   · rename_i e hu
     split at hc
     · rename_i k x' lo' hi' h0 h1 h2 h3
       simp at hc; subst hc
       exact sl_ok r hK ho hu h0 h1 h2 h3 h
     · simp at hc
   · simp at hc
 · rename_i t x lo hi mx ho
   split at hc
   · rename_i e hu
     split at hc
     · rename_i k x' lo' hi' mx' h0 h1 h2 h3 h4
       simp at hc; subst hc
       exact sl3_ok r hK ho hu h0 h1 h2 h3 h4 h
     · simp at hc
   · simp at hc
 · simp at hc
end
end Uw
namespace Uw
open Go Go.RowKit
variable [Glob]
theorem getD_put {t : Array Value} {d i : Nat} {v : Value} (hd : d < t.size) : (t.setIfInBounds d v).getD i undef = if d = i then v else t.getD i undef := by
 simp only [Array.getD_eq_getD_getElem?, Array.getElem?_setIfInBounds]
 by_cases h : d = i
 · subst h; simp [hd]
 · simp [h]
theorem Rel.put {c : Cx} {w0 : World} {n : Nat} {gs : Fr} {st : St} {a : Act} (r : Rel c w0 n gs st a) {dst : Option Nat} (hd : (match dst with | some d => Nat.blt d n | none => true) = true) {v : V} {gv : Value} (hv : RelV c v gv) :
   Rel c w0 n gs (put dst v st) (a.put dst gv) := by
 cases dst with
 | none => exact r
 | some d =>
   have hd : d < n := by simpa using hd
   refine ⟨r.heap, r.hrel, by simp [Act.put, r.size], ?_, r.frames, r.fbase, r.base, r.defers⟩
   intro i x hx
   simp only [Uw.put, look_cons] at hx
   simp only [Act.put]
   rw [getD_put (by rw [r.size]; exact hd)]
   by_cases h : d = i
   · rw [if_pos h] at hx ⊢; injection hx with hx; subst hx; exact hv
   · rw [if_neg h] at hx ⊢; exact r.regs i x hx
theorem Rel.known {c : Cx} {w0 : World} {n : Nat} {gs : Fr} {st : St} {a : Act} (r : Rel c w0 n gs st a) {t : Nat} {v : V} (hv : RelV c v (a.tmps.getD t undef)) : Rel c w0 n gs (Uw.put (some t) v st) a := by
 refine ⟨r.heap, r.hrel, r.size, ?_, r.frames, r.fbase, r.base, r.defers⟩
 intro i x hx
 simp only [Uw.put, look_cons] at hx
 by_cases h : t = i
 · rw [if_pos h] at hx; injection hx with hx; subst hx; subst h; exact hv
 · rw [if_neg h] at hx; exact r.regs i x hx
def ModeOK (mode : Option (Nat × Bool × Bool)) (st : St) : Prop := ∀ t want hold, mode = some (t, want, hold) → ∃ b, look st.regs t = some (.d (.bool b)) ∧ (b == want) = hold
theorem ModeOK.put {mode : Option (Nat × Bool × Bool)} {st st' : St} (h : ModeOK mode st) (hr : st'.regs = st.regs) (dst : Option Nat) (v : V) : ModeOK (keepMode dst mode) (Uw.put dst v st') := by
 intro t want hold hm
 unfold keepMode at hm
 split at hm
 · rename_i d t' want' hold'
   split at hm
   · simp at hm
   · rename_i hb
     simp at hm
     obtain ⟨rfl, rfl, rfl⟩ := hm
     obtain ⟨b, hb1, hb2⟩ := h _ _ _ rfl
     refine ⟨b, ?_, hb2⟩
     simp only [Uw.put, look_cons, hr]
     rw [if_neg]
     · exact hb1
     · intro e; subst e; simp at hb
 · rename_i m hne
   obtain ⟨b, hb1, hb2⟩ := h _ _ _ hm
   refine ⟨b, ?_, hb2⟩
   cases dst with
   | none => simp [Uw.put, hr, hb1]
   | some d =>
     cases mode with
     | none => simp at hm
     | some x => obtain ⟨a1, a2, a3⟩ := x; exact (hne d a1 a2 a3 rfl rfl).elim
def Came (P : Program) (Q : MExit → St → Prop) (q : MExit → St → Tree) (c : Cx) (w0 : World) (n : Nat) (gs : Fr) (e : Exit) (a' : Act) (w' : World) : Prop :=
 ∃ c' me st', c'.B = c.B ∧ c'.J0 = c.J0 ∧ c'.w = w' ∧ ExRel c' e me ∧ Rel c' w0 n gs st' a' ∧ WT P Q (q me st')
theorem execOps_ok {P : Program} {n : Nat} {pol : Pol} {ops : List Oper} {Q : MExit → St → Prop} {q : MExit → St → Tree} {w0 : World} {gs : Fr} {c0 : Cx} :
   ∀ (l : List Oper) (mi : List MI) (mode : Option (Nat × Bool × Bool)) (c : Cx) (st : St) (a : Act), compOps P n pol ops l = some mi → c.B = c0.B → c.J0 = c0.J0 → Rel c w0 n gs st a → ModeOK mode st → WT P Q (execOps mi mode st q) →
     wpList P ops.toArray (Came P Q q c0 w0 n gs) l a c.w := by
 intro l
 induction l with
 | nil =>
   intro mi mode c st a hc hB hJ r hm h
   simp [compOps] at hc; subst hc
   exact ⟨c, .normal, st, hB, hJ, rfl, trivial, r, h⟩
 | cons o l ih =>
   intro mi mode c st a hc hB hJ r hm h
   unfold compOps at hc
   split at hc
   · rename_i g m mi' hg ho hl hd
     simp at hc; subst hc
     simp only [execOps_nil, execOps_cons, onSt_eq] at h
     -- what each way comes to
     have run : ∀ (mode' : Option (Nat × Bool × Bool)) (st1 : St), Rel c w0 n gs st1 a → (∀ (v : V) (st2 : St), st2.regs = st1.regs → ModeOK mode' (Uw.put o.dst v st2)) →
         WT P Q (step m st1 (fun v st' => execOps mi' mode' (Uw.put o.dst v st') q) q) → ∀ (K : Act → World → Prop), (∀ a w, wpList P ops.toArray (Came P Q q c0 w0 n gs) l a w → K a w) → o.wp P a c.w K (Came P Q q c0 w0 n gs) := by
       intro mode' st1 r1 hm' hw K hK
       refine step_ok r1 ho ?_ ?_ hw
       · intro c' st' a' v gv hB' hJ' htm r' hregs hv hq
         exact hK _ _ (ih mi' mode' c' _ _ hl (hB'.trans hB) (hJ'.trans hJ) (r'.put hd hv) (hm' v st' hregs) hq)
       · intro c' st' d ch hB' hJ' r' _ hex hq
         exact ⟨c', .panic d, st', hB'.trans hB, hJ'.trans hJ, rfl, hex, r', hq⟩
     have skip : ∀ (mode' : Option (Nat × Bool × Bool)) (st1 : St), Rel c w0 n gs st1 a → ModeOK mode' (Uw.put o.dst (.tuple []) st1) → WT P Q (execOps mi' mode' (Uw.put o.dst (.tuple []) st1) q) →
         wpList P ops.toArray (Came P Q q c0 w0 n gs) l (a.put o.dst undef) c.w := by
       intro mode' st1 r1 hm' hw
       exact ih mi' mode' c _ _ hl hB hJ (r1.put hd (v := .tuple []) (by simp [RelV, RelVL, undef])) hm' hw
     refine wpList_step fun K hK => ?_
     cases hgo : o.guard with
     | none =>
       rw [hgo] at hg
       simp [compG] at hg; subst hg
       simp only [Region.wanted, hgo, if_true]
       exact run none st r (fun v st2 _ => by intro t w' h' hh; simp at hh) h K hK
     | some jb =>
       obtain ⟨j, want⟩ := jb
       rw [hgo] at hg
       unfold compG at hg
       split at hg
       · simp at *
       · rename_i j' b' heq
         simp at heq
         obtain ⟨rfl, rfl⟩ := heq
         split at hg
         · rename_i oj hoj
           split at hg
           · rename_i t ht
             simp at hg; subst hg
             simp only at h
             have hy : ∀ b, look st.regs t = some (.d (.bool b)) → Region.wanted o (yielded ops.toArray a.tmps) = (b == want) := by
               intro b hb
               have e := r.regs t _ hb
               simp only [RelV, RelI] at e
               have ey : yielded ops.toArray a.tmps j = some b := by
                 have e' : a.tmps[t]? = some (.bool b) := by
                   rw [Array.getD_eq_getD_getElem?] at e
                   cases hq : a.tmps[t]? with
                   | none => rw [hq] at e; simp [undef] at e
                   | some u => rw [hq] at e; simp at e; rw [e]
                 unfold yielded
                 simp [hoj, ht, e']
               simp only [Region.wanted, hgo, ey]
               cases b <;> cases want <;> rfl
             cases hdec : decided mode t want with
             | some hold =>
               have : ∃ b, look st.regs t = some (.d (.bool b)) ∧ (b == want) = hold := by
                 unfold decided at hdec
                 split at hdec
                 · rename_i t' want' hold'
                   split at hdec
                   · rename_i hbb
                     simp at hdec; subst hdec
                     rw [Bool.and_eq_true] at hbb
                     have e1 := Nat.eq_of_beq_eq_true hbb.1
                     have e2 : want = want' := by simpa using hbb.2
                     subst e1 e2
                     exact hm _ _ _ rfl
                   · simp at hdec
                 · simp at hdec
               obtain ⟨b, hb1, hb2⟩ := this
               simp only [hdec] at h
               rw [hy b hb1, hb2]
               cases hold with
               | true => exact run _ st r (fun v st2 hr => hm.put hr _ _) h K hK
               | false => exact hK _ _ (skip _ st r (hm.put rfl _ _) h)
             | none =>
               simp only [hdec] at h
               split at h
               · rename_i b hb
                 have e := r.regs t _ hb
                 simp only [RelV, RelI] at e
                 rw [hy b hb]
                 simp only [WT] at h
                 cases hbw : (b == want) with
                 | true =>
                   have hbw' : b = want := by simpa using hbw
                   subst hbw'
                   have r1 : Rel c w0 n gs (Uw.put (some t) (.d (.bool b)) st) a := r.known (by simp [RelV, RelI, e])
                   refine run _ _ r1 ?_ (h.1 hbw) K hK
                   intro v st2 hr
                   refine ModeOK.put (st := Uw.put (some t) (.d (.bool b)) st) ?_ hr _ _
                   intro t' w' h' hh
                   simp at hh
                   obtain ⟨rfl, rfl, rfl⟩ := hh
                   exact ⟨b, by simp [Uw.put, look_cons], by simp⟩
                 | false =>
                   have hbw' : b = !want := by cases b <;> cases want <;> simp_all
                   subst hbw'
                   have r1 : Rel c w0 n gs (Uw.put (some t) (.d (.bool (!want))) st) a := r.known (by simp [RelV, RelI, e])
                   refine hK _ _ (skip _ _ r1 ?_ (h.2 hbw))
                   refine ModeOK.put (st := Uw.put (some t) (.d (.bool (!want))) st) ?_ rfl _ _
                   intro t' w' h' hh
                   simp at hh
                   obtain ⟨rfl, rfl, rfl⟩ := hh
                   exact ⟨!want, by simp [Uw.put, look_cons], by cases want <;> rfl⟩
               · rename_i hb
                 have e := r.regs t _ hb
                 have ey : yielded ops.toArray a.tmps j = none := by
                   simp [RelV, RelVL] at e
                   unfold yielded
                   cases hq : a.tmps[t]? with
                   | none => simp [hoj, ht, hq]
                   | some u => rw [hq] at e; simp at e; simp [hoj, ht, hq, e]
                 have hw : Region.wanted o (yielded ops.toArray a.tmps) = false := by simp only [Region.wanted, hgo, ey]; cases want <;> rfl
                 rw [hw]
                 exact hK _ _ (skip _ st r (hm.put rfl _ _) h)
               · exact h.elim
           · simp at hg
         · simp at hg
   · simp at hc
end Uw
