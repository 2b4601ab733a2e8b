/- Nz: what the proof texts use besides. -/
import Derived.Test.YticfdjaklojglaaDoorN6
set_option linter.unusedSimpArgs false
set_option linter.unnecessarySimpa false
set_option linter.unusedVariables false
set_option linter.unusedSectionVars false
namespace Uw
open Go Go.RowKit
variable [Glob]
section
variable {c : Cx} {h' : Heap} {ρ : Nat → Nat} {J : JX} (hs : ∀ id b', look h' id = some b' → (∃ b, look c.heap (ρ id) = some b ∧ BSim ρ c.heap h' b b') ∨ (look c.heap (ρ id) = none ∧ ZeroB b'))
include hs
variable (hk : Keeps c.w c.w (Imm c) (Imm (c.weakJ ρ h' J)))
include hk
end
section
variable {c : Cx} {w0 : World} {nx : Nat} {J : Nat → Nat → Prop} (hh : HRel c w0 nx) (hk : Keeps c.w c.w (Imm c) J) (hnew : ∀ b o, ¬ c.Old b → b < c.w.heap.size → J b o)
include hh hk hnew
end
end Uw
namespace Uw
open Go
variable [Glob]
section
variable {P : Program} {Q : MExit → St → Prop}
section
variable {α : Type} {S : α → St} {inv : α → Prop} {mu : α → Nat} {x : α}
end
end
end Uw
namespace Uw
open Go Go.RowKit
variable [Glob]
end Uw
namespace Uw
open Go Go.RowKit
variable [Glob]
end Uw
namespace Uw
open Go Go.RowKit
variable [Glob]
end Uw
namespace Uw
open Go Go.RowKit Go.ChangeShapes Go.WideShapes Go.ChangeAt
variable [Glob]
theorem trodAll_below {H : Type} {enc : TypeId × Value → H} {P : Program} {W W' : World} (hl : laidOutB P = true) (hb : Below W.heap.size W W') : ∀ {ts : List TypeId} {vs : List Value} {ds : List (DataW H)} {p : List MemPlace},
   (ts.all fun t => P.readableRec t && decide (t < P.types.size)) = true → DataW.TrodAll enc P W 0 (fun _ => true) true ts vs ds p → (∀ x ∈ p, x.block < W.heap.size) → DataW.TrodAll enc P W' 0 (fun b => decide (b < W.heap.size)) true ts vs ds p
 | [], [], [], p, _, h, _ => h
 | t :: ts, v :: vs, d :: ds, p, ht, ⟨p1, q1, h1, h2, h3⟩, hlt => by
   rw [List.all_cons, Bool.and_eq_true, Bool.and_eq_true] at ht
   subst h3
   exact ⟨p1, q1, Below.trod hl ht.1.1 (of_decide_eq_true ht.1.2) h1 hb (fun x hx => hlt x (by simp [hx])), trodAll_below hl hb ht.2 h2 (fun x hx => hlt x (by simp [hx])), rfl⟩
 | [], _ :: _, _, _, _, h, _ => h.elim
 | [], [], _ :: _, _, _, h, _ => h.elim
 | _ :: _, [], _, _, _, h, _ => h.elim
 | _ :: _, _ :: _, [], _, _, h, _ => h.elim
theorem post_below {H : Type} {enc : TypeId × Value → H} {P : Program} {f : Func} {s : ChangeSpec} {apart fresh handsOn : Bool} {W W' : World} {args : Array Value} {v : Value} {ds gs : List (DataW H)} {before : List MemPlace} {tb : TypeId}
   (hl : laidOutB P = true) (hts : (f.params.toList.all fun t => P.readableRec t && decide (t < P.types.size)) = true) (hrt : f.resultTypes = #[tb]) (htb : P.underlying tb = some .bool) (hvs : s.vars = [])
   (hW : DataW.Whole enc P f.params.toList s.vars apart W args.toList ds gs before) (hfn : s.fn H ds = { results := [.lit (.bool true)], args := ds }) (hb : Below W.heap.size W W') (hv : v = .bool true) : s.post enc P f apart fresh handsOn false W args v W' := by
 have hW' := hW
 obtain ⟨p, q, hA, hV, rfl, hfz, hnd⟩ := hW
 rw [hvs] at hV
 obtain ⟨rfl, rfl⟩ := trodVars_none hV
 have hlt : ∀ x ∈ p, x.block < W.heap.size := fun x hx => by simpa using hW'.lt x (by simpa using hx)
 subst hv
 refine ⟨ds, [], p ++ [], [], p, [], hW', ?_, ?_, ?_, ?_, by simp⟩
 · rw [List.append_nil, hfn, hrt]
   exact trodAll_cons_mk (shut_bool htb _) trodAll_mk0
 · rw [List.append_nil, hfn]
   exact trodAll_below hl hb hts hA hlt
 · rw [hvs, List.append_nil, hfn]
   rfl
 · exact World.keptBut_mono (fun _ h => h.elim) (hb.frame (fun _ => False))
end Uw
namespace Uw
open Go Go.RowKit
variable [Glob]
mutual
def HasTy : Ty → List Dat → Prop
 | .bool, ds => ∃ b, ds = [.bool b]
 | .int k, ds => ∃ n, ds = [.int k n] ∧ (Lit.int k n).wf = true
 | .str, ds => ∃ s : List UInt8, ds = [.str s] ∧ s.length ≤ reachBytes
 | .slice n e, ds => ∃ xs : List (List Dat), ds = [.slice n xs false] ∧ xs.length ≤ reachBytes ∧ ∀ x, x ∈ xs → HasTy e x
 | .struct fs, ds => HasTys fs ds
def HasTys : List Ty → List Dat → Prop
 | [], ds => ds = []
 | t :: ts, ds => ∃ a b, ds = a ++ b ∧ HasTy t a ∧ HasTys ts b
end
def tyFs (P : Program) (f : TypeId → Option Ty) (total : Nat) : Nat → List Field → Option (List Ty)
 | off, [] => match Nat.beq off total with | true => some [] | false => none
 | off, fd :: r => match Nat.beq fd.offset off, f fd.type, tyFs P f total (off + P.cellsOf fd.type) r with
   | true, some s, some l => some (s :: l)
   | _, _, _ => none
def tyOf (P : Program) : Nat → TypeId → Option Ty
 | 0, _ => none
 | n + 1, t => match P.underlying t with
   | some .bool => some .bool
   | some (.int k) => some (.int k)
   | some .string => some .str
   | some (.slice e) => match tyOf P n e, Nat.blt 0 (P.cellsOf e) && Nat.blt 0 (P.bytesOf e) with
     | some s, true => some (.slice (P.cellsOf e) s)
     | _, _ => none
   | some (.struct fs) => (tyFs P (tyOf P n) (P.cellsOf t) 0 fs.toList).map Ty.struct
   | some (.array m e) => match tyOf P n e, Nat.beq (P.cellsOf t) (m * P.cellsOf e) with
     | some s, true => some (.struct (List.replicate m s))
     | _, _ => none
   | _ => none
theorem RelL.append2 {w : World} {J : Nat → Nat → Prop} : ∀ {a b : List Dat} {u v : List Value}, RelL w J a u → RelL w J b v → RelL w J (a ++ b) (u ++ v)
 | [], b, u, v, h1, h2 => by simp only [RelL] at h1; subst h1; simpa using h2
 | x :: a, b, u, v, ⟨y, us, e, h1, h3⟩, h2 => by subst e; exact ⟨y, us ++ v, rfl, h1, RelL.append2 h3 h2⟩
theorem choose_list {α : Type} {Q : Nat → α → Prop} : ∀ (n : Nat), (∀ i, i < n → ∃ x, Q i x) → ∃ xs : List α, xs.length = n ∧ ∀ i x, xs[i]? = some x → Q i x
 | 0, _ => ⟨[], rfl, by simp⟩
 | n + 1, h => by
   obtain ⟨xs, h1, h2⟩ := choose_list n (fun i hi => h i (by omega))
   obtain ⟨x, hx⟩ := h n (by omega)
   refine ⟨xs ++ [x], by simp [h1], fun i y hy => ?_⟩
   by_cases hi : i < n
   · rw [List.getElem?_append_left (by omega)] at hy; exact h2 i y hy
   · rw [List.getElem?_append_right (by omega)] at hy
     have : i = n := by
       have := (List.getElem?_eq_some_iff.1 hy).1; simp at this; omega
     subst this
     simp [h1] at hy; subst hy; exact hx
theorem cells_get {w : World} {a : Addr} {n : Nat} {cs : List Value} (h : w.cells? 0 a n = some cs) : cs.length = n ∧ ∀ j v, cs[j]? = some v → w.cell? (a.add j) = some v := by
 unfold World.cells? at h
 rw [if_pos (by omega)] at h
 refine ⟨by simpa using mapM_some_length h, fun j v hv => ?_⟩
 have hj : j < n := by have := (List.getElem?_eq_some_iff.1 hv).1; rw [mapM_some_length h] at this; simpa using this
 have := mapM_some_get h j j (by simp [hj])
 rw [this, hv]
theorem spot_of_cell {w : World} {a : Addr} {v : Value} (h : w.cell? a = some v) : a.spot = none := by
 unfold World.cell? at h
 split at h
 · split at h
   · cases h
   · rename_i hs; simpa using hs
 · cases h
theorem fields_dat {H : Type} {enc : TypeId × Value → H} {P : Program} {w : World} {m total : Nat} {g : TypeId → Option Ty} {cs : List Value} (hcs : cs.length = total)
   (ih : ∀ t s cs x, g t = some s → DataW.trod enc P w 0 (fun _ => true) true m t cs = some x → (∀ n ∈ x.1.weights P t, n ≤ reachBytes) → ∃ ds, HasTy s ds ∧ RelL w allJ ds cs ∧ ∀ v ∈ cs, one v = true) :
   ∀ (fs : List Field) (off : Nat) (ts : List Ty), tyFs P g total off fs = some ts → (∀ f ∈ fs, ∃ x, DataW.trod enc P w 0 (fun _ => true) true m f.type ((cs.drop f.offset).take (P.cellsOf f.type)) = some x ∧ ∀ n ∈ x.1.weights P f.type, n ≤ reachBytes) →
     ∃ ds, HasTys ts ds ∧ RelL w allJ ds (cs.drop off) ∧ ∀ v ∈ cs.drop off, one v = true
 | [], off, ts, h, _ => by
   simp only [tyFs] at h
   split at h
   · rename_i hb
     have hb := Nat.eq_of_beq_eq_true hb
     simp at h; subst h
     have : cs.drop off = [] := List.drop_eq_nil_of_le (by omega)
     exact ⟨[], rfl, by rw [this]; rfl, by rw [this]; simp⟩
   · cases h
 | f :: fs, off, ts, h, hx => by
   simp only [tyFs] at h
   split at h
   · rename_i s l h1 h2 h3
     have h1 := Nat.eq_of_beq_eq_true h1
     simp at h; subst h
     obtain ⟨x, hx0, hxw⟩ := hx f (by simp)
     obtain ⟨ds, d1, d2, d3⟩ := ih f.type s _ x h2 hx0 hxw
     obtain ⟨es, e1, e2, e3⟩ := fields_dat hcs ih fs (off + P.cellsOf f.type) l h3 (fun f' hf' => hx f' (by simp [hf']))
     rw [h1] at d2 d3
     have hsp : cs.drop off = (cs.drop off).take (P.cellsOf f.type) ++ cs.drop (off + P.cellsOf f.type) := by
       rw [← List.drop_drop, List.take_append_drop]
     refine ⟨ds ++ es, ⟨ds, es, rfl, d1, e1⟩, ?_, ?_⟩
     · rw [hsp]; exact RelL.append2 d2 e2
     · rw [hsp]; intro v hv
       rcases List.mem_append.1 hv with hv | hv
       · exact d3 v hv
       · exact e3 v hv
   · cases h
theorem elems_dat {w : World} {s : Ty} {k : Nat} : ∀ (n : Nat) (cs : List Value), cs.length = n * k → (∀ i, i < n → ∃ ds, HasTy s ds ∧ RelL w allJ ds ((cs.drop (i * k)).take k) ∧ ∀ v ∈ (cs.drop (i * k)).take k, one v = true) →
     ∃ ds, HasTys (List.replicate n s) ds ∧ RelL w allJ ds cs ∧ ∀ v ∈ cs, one v = true
 | 0, cs, h, _ => by
   have : cs = [] := List.eq_nil_of_length_eq_zero (by simpa using h)
   subst this
   exact ⟨[], rfl, rfl, by simp⟩
 | n + 1, cs, h, hx => by
   obtain ⟨ds, d1, d2, d3⟩ := hx 0 (by omega)
   simp only [Nat.zero_mul, List.drop_zero] at d2 d3
   obtain ⟨es, e1, e2, e3⟩ := elems_dat (k := k) n (cs.drop k) (by rw [List.length_drop, h, Nat.add_mul]; omega) (fun i hi => by
     have := hx (i + 1) (by omega)
     rw [show (i + 1) * k = k + i * k by rw [Nat.add_mul]; omega, ← List.drop_drop] at this
     exact this)
   refine ⟨ds ++ es, by rw [List.replicate_succ]; exact ⟨ds, es, rfl, d1, e1⟩, ?_, ?_⟩
   · have := RelL.append2 d2 e2
     rwa [List.take_append_drop] at this
   · intro v hv
     rw [← List.take_append_drop k cs] at hv
     rcases List.mem_append.1 hv with hv | hv
     · exact d3 v hv
     · exact e3 v hv
theorem weightsAll_mem {H : Type} {P : Program} {e : TypeId} : ∀ {l : List (DataW H)} {i : Nat} {d : DataW H}, l[i]? = some d → ∀ n ∈ d.weights P e, n ∈ DataW.weightsAll P e l
 | [], i, d, h, n, hn => by simp at h
 | x :: l, 0, d, h, n, hn => by simp at h; subst h; simp [DataW.weightsAll, hn]
 | x :: l, i + 1, d, h, n, hn => by
   simp at h
   simp only [DataW.weightsAll, List.mem_append]
   exact .inr (weightsAll_mem h n hn)
theorem trod_dat {H : Type} {enc : TypeId × Value → H} {P : Program} {w : World} : ∀ (fuel n : Nat) (t : TypeId) (s : Ty) (cs : List Value) (x : DataW H × List MemPlace), tyOf P n t = some s → DataW.trod enc P w 0 (fun _ => true) true fuel t cs = some x → (∀ n ∈ x.1.weights P t, n ≤ reachBytes) →
   ∃ ds, HasTy s ds ∧ RelL w allJ ds cs ∧ ∀ v ∈ cs, one v = true := by
 intro fuel
 induction fuel with
 | zero => intro n t s cs x _ h _; simp [DataW.trod] at h
 | succ m ih =>
   intro n t s cs x hs h hwt
   cases n with
   | zero => simp [tyOf] at hs
   | succ n =>
     simp only [tyOf] at hs
     split at hs
     · rename_i hu
       simp at hs; subst hs
       obtain ⟨b, rfl, _⟩ := DataW.trod_bool hu h
       exact ⟨[.bool b], ⟨b, rfl⟩, ⟨_, [], rfl, rfl, rfl⟩, by simp [one]⟩
     · rename_i k hu
       simp at hs; subst hs
       obtain ⟨z, rfl, _, hw⟩ := DataW.trod_int hu h
       exact ⟨[.int k z], ⟨z, rfl, hw⟩, ⟨_, [], rfl, rfl, rfl⟩, by simp [one]⟩
     · rename_i hu
       simp at hs; subst hs
       obtain ⟨b, rfl, rfl, hw⟩ := DataW.trod_string hu h
       refine ⟨[.str b.data.toList], ⟨_, rfl, hwt _ (by simp [DataW.weights])⟩, ⟨_, [], rfl, ?_, rfl⟩, by simp [one]⟩
       show Value.string b = .string ⟨b.data.toList.toArray⟩
       simp
     · rename_i e hu
       split at hs
       · rename_i s' h1 h2
         simp at hs; subst hs
         rw [Bool.and_eq_true] at h2
         have hk : 0 < P.cellsOf e := by simpa using h2.1
         have hby : 0 < P.bytesOf e := by simpa using h2.2
         rcases DataW.trod_slice hu h with ⟨rfl, _⟩ | ⟨a, len, cap, elems, rest, n', hn', rfl, rfl, _, hl, hm, hlen, hel, hsp, _⟩
         · exact ⟨[.slice (P.cellsOf e) [] false], ⟨[], rfl, by simp, by simp⟩, ⟨_, [], rfl, .inl ⟨⟨_, rfl, by simp⟩, rfl⟩, rfl⟩, by simp [one]⟩
         · have hn' : n' = m := by omega
           subst hn'
           have hlr : len ≤ reachBytes := by
             have := hwt (((elems.map (·.1)).length + (rest.map (·.1)).length) * P.bytesOf e) (by simp [DataW.weights, hu])
             have h3 := Nat.le_mul_of_pos_right ((elems.map (·.1)).length + (rest.map (·.1)).length) hby
             simp only [List.length_map] at this h3
             omega
           obtain ⟨hrl, hre⟩ := hsp rfl
           have spot : cap ≠ 0 → a.spot = none := by
             intro hc
             have h0 : ∃ y, (w.cells? 0 (a.add (0 * P.cellsOf e)) (P.cellsOf e)).bind (DataW.trod enc P w 0 (fun _ => true) true n' e) = some y := by
               by_cases hl0 : 0 < len
               · exact ⟨elems[0]'(by omega), by rw [hel 0 hl0, List.getElem?_eq_getElem]⟩
               · have : len = 0 := by omega
                 subst this
                 have := hre 0 (by omega)
                 simp only [Nat.zero_add] at this
                 exact ⟨rest[0]'(by omega), by rw [this, List.getElem?_eq_getElem]⟩
             obtain ⟨y, hy⟩ := h0
             rw [Option.bind_eq_some_iff] at hy
             obtain ⟨cs', hc1, _⟩ := hy
             obtain ⟨g1, g2⟩ := cells_get hc1
             have := g2 0 (cs'[0]'(by omega)) (by rw [List.getElem?_eq_getElem])
             simp [Addr.add] at this
             exact spot_of_cell this
           have each : ∀ i, i < len → ∃ ds : List Dat, (HasTy s' ds ∧ ds.length = P.cellsOf e) ∧ ∃ cs', w.cells? 0 (a.add (i * P.cellsOf e)) (P.cellsOf e) = some cs' ∧ RelL w allJ ds cs' ∧ ∀ v ∈ cs', one v = true := by
             intro i hi
             have := hel i hi
             rw [List.getElem?_eq_getElem (by omega), Option.bind_eq_some_iff] at this
             obtain ⟨cs', hc1, hc2⟩ := this
             obtain ⟨ds, d1, d2, d3⟩ := ih n e s' cs' _ h1 hc2 (fun q hq => hwt q (by
               simp only [DataW.weights, hu, List.mem_cons, List.mem_append]
               exact .inr (.inl (weightsAll_mem (i := i) (by simp [List.getElem?_eq_getElem (show i < elems.length by omega)]) q hq))))
             exact ⟨ds, ⟨d1, by rw [← RelL.length d2]; exact (cells_get hc1).1⟩, cs', hc1, d2, d3⟩
           obtain ⟨xs, hx1, hx2⟩ := choose_list len each
           refine ⟨[.slice (P.cellsOf e) xs false], ⟨xs, rfl, by omega, fun x hx => ?_⟩, ⟨_, [], rfl, ?_, rfl⟩, by simp [one]⟩
           · obtain ⟨i, hi, he⟩ := List.mem_iff_getElem.1 hx
             exact (hx2 i x (by rw [List.getElem?_eq_getElem hi, he])).1.1
           · by_cases hc : cap = 0
             · have hl0 : len = 0 := by omega
               have : xs = [] := List.eq_nil_of_length_eq_zero (by omega)
               subst this hc hl0
               exact .inl ⟨⟨_, rfl, by simp⟩, rfl⟩
             · obtain ⟨b, o, sp⟩ := a
               have hspot : sp = none := spot hc
               subst hspot
               refine .inr ⟨b, o, cap, by rw [hx1], by omega, by simp, RelE.of (fun i y hy => ?_)⟩
               obtain ⟨⟨_, y1⟩, cs', y2, y3, y4⟩ := hx2 i y hy
               refine ⟨y1, RelC.ofL y3 y4 (fun j v hv => ?_)⟩
               have := (cells_get y2).2 j v hv
               rw [addr_add, addr_add] at this
               exact this
       · cases hs
     · rename_i fs hu
       rw [Option.map_eq_some_iff] at hs
       obtain ⟨ts, hts, rfl⟩ := hs
       obtain ⟨xs, n', hn', rfl, hl, hxl, hx⟩ := DataW.trod_struct hu h
       have hn' : n' = m := by omega
       subst hn'
       have := fields_dat (enc := enc) (P := P) (w := w) (m := n') hl (fun t s cs x hg ht hq => ih n t s cs x hg ht hq) fs.toList 0 ts hts (fun f hf => by
         obtain ⟨i, hi, he⟩ := List.mem_iff_getElem.1 hf
         have hi' : i < fs.size := by simpa using hi
         have := hx i f (by rw [← he]; simp [hi'])
         rw [List.getElem?_eq_getElem (by omega)] at this
         refine ⟨_, this, fun q hq => hwt q ?_⟩
         simp only [DataW.weights, hu]
         exact DataW.weights_mem_each (j := i) (t := f.type) (by rw [List.getElem?_map, List.getElem?_eq_getElem hi, he]; rfl) (by rw [List.getElem?_map, List.getElem?_eq_getElem (by omega)]; rfl) q hq)
       simpa [HasTy] using this
     · rename_i k e hu
       split at hs
       · rename_i s' h1 h2
         simp at hs; subst hs
         have h2 := Nat.eq_of_beq_eq_true h2
         obtain ⟨xs, n', hn', rfl, hl, hxl, hx⟩ := DataW.trod_array hu h
         have hn' : n' = m := by omega
         subst hn'
         have := elems_dat (w := w) (s := s') (k := P.cellsOf e) k cs (by rw [hl, h2]) (fun i hi => by
           have := hx i hi
           rw [List.getElem?_eq_getElem (by omega)] at this
           exact ih n e s' _ _ h1 this (fun q hq => hwt q (by
             simp only [DataW.weights, hu]
             exact weightsAll_mem (i := i) (by rw [List.getElem?_map, List.getElem?_eq_getElem (by omega)]; rfl) q hq)))
         simpa [HasTy] using this
       · cases hs
     · cases hs
theorem args_dat {H : Type} {enc : TypeId × Value → H} {P : Program} {w : World} {v : Value} {t : TypeId} {n : Nat} {s : Ty} {d : DataW H} {ps : List MemPlace} (hs : tyOf P n t = some s) (h : DataW.Trod enc P w 0 (fun _ => true) true t v d ps) (hw : ∀ n ∈ d.weights P t, n ≤ reachBytes) :
   ∃ ds, HasTy s ds ∧ RelL w allJ ds v.cells.toList := by
 obtain ⟨fuel, h⟩ := h
 obtain ⟨ds, h1, h2, _⟩ := trod_dat fuel n t s _ _ hs h hw
 exact ⟨ds, h1, h2⟩
theorem sized_arg {H : Type} {P : Program} {ts : List TypeId} {ds : List (DataW H)} (h : (DataW.weightsEach P ts ds).all (· ≤ reachBytes) = true) (j : Nat) {t : TypeId} {d : DataW H} (ht : ts[j]? = some t) (hd : ds[j]? = some d) : ∀ n ∈ d.weights P t, n ≤ reachBytes := fun n hn => by
 have := List.all_eq_true.1 h n (DataW.weights_mem_each ht hd n hn)
 simpa using this
theorem wf_u8 {n : Int} (h : (Lit.int .u8 n).wf = true) : 0 ≤ n ∧ n < 256 := by
 simp [Lit.wf, IntKind.min, IntKind.max, IntKind.signed, IntKind.bits] at h; omega
end Uw
namespace Uw
open Go Go.Lib
end Uw
namespace Uw
open Go
variable [Glob]
section
variable {P : Program} {Q : MExit → St → Prop} {p q : Prop} [Decidable p] [Decidable q] {b : Bool} {y n : Tree}
end
end Uw
namespace Uw.Tryd
open Go Uw
theorem gok {W : World} {l : List (String × DataW Unit)} (h : laidMetH P0 l W) (hl : (l.filter fun x => x.1 == "internal/strconv.uint64pow10") = [("internal/strconv.uint64pow10", Lib.tabData .u64 Lib.pow10Tab)]) {t e : TypeId} (hty : (P0.globals[3]?).map (·.type) = some t) (ht : P0.underlying t = some (.array 20 e)) (he : P0.underlying e = some (.int .u64)) (hce : P0.cellsOf e = 1) (hct : P0.cellsOf t = 20) : GOk W.heap.size W := by
 have h1 := laidMetH.filter (fun x => x.1 == "internal/strconv.uint64pow10") h
 rw [hl, MakeChecks.laidMetH_plain _ _ _ rfl] at h1
 have h2 : Lib.TabIs P0 W "internal/strconv.uint64pow10" .u64 Lib.pow10Tab := Lib.tabIs_of_head gPow hty ht he hce hct h1
 refine ⟨Nat.le_refl _, ?_, h2⟩
 show 3 + 1 ≤ W.heap.size
 unfold Lib.TabIs World.var? at h2
 rw [gPow] at h2
 simp only [Option.bind_some] at h2
 rcases Nat.lt_or_ge 3 W.heap.size with h3 | h3
 · exact h3
 · rw [Array.getElem?_eq_none h3] at h2
   simp at h2
end Uw.Tryd
set_option maxRecDepth 100000
namespace Uw.Tryd
open Go Uw
end Uw.Tryd
set_option maxRecDepth 100000
namespace Uw.Tryd
open Go Uw
end Uw.Tryd
