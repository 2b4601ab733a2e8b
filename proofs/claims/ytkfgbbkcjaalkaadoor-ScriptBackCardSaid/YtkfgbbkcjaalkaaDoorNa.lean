/- Na: Sn So Sp (merged by merge2.py from the working texts). -/
import Derived.Test.YtkfgbbkcjaalkaaDoorN6
import Derived.Test.YtkfgbbkcjaalkaaDoorShelf
import Derived.Lib.AppendIntMem
set_option linter.unusedSimpArgs false
set_option linter.unnecessarySimpa false
set_option linter.unusedVariables false
set_option linter.unusedSectionVars false

/- strconv.Itoa and strings.Join as contracts; digits. -/
set_option linter.unusedVariables false
set_option linter.unusedSimpArgs false
namespace Uw.Tryd
open Go Uw Go.Proofs Go.RowKit

theorem s_strconv_Itoa (n : Int) (h0 : -9223372036854775808 ≤ n) (h1 : n ≤ 9223372036854775807) : Ret P0 n_strconv_Itoa [I n] (.str (Lib.itoa n)) := by
  intro w J vs hG hr
  obtain ⟨v, vs', rfl, hv, hr⟩ := hr
  simp only [RelL] at hr; subst hr
  simp only [RelI] at hv; subst hv
  refine (Tryd.strconv_Itoa n h0 h1 w hG.2.2).mono ?_
  rintro e w' ⟨rfl, k, os, rfl⟩
  exact ⟨_, rfl, rfl, Lib.below_grow _ w (Nat.le_refl _) k os⟩

theorem s_strings_Join (l : List (List UInt8)) (sep : List UInt8) (z : Bool) (hN : l.length ≤ 140737488355328) (hlen : (Lib.join l sep).length ≤ 140737488355328) :
    Ret P0 n_strings_Join [.slice 1 (l.map fun s => [.str s]) z, .str sep] (.str (Lib.join l sep)) := by
  intro w J vs hG hr
  obtain ⟨v, vs', rfl, hv, u, vs'', rfl, hu, hr⟩ := hr
  simp only [RelL] at hr; subst hr
  simp only [RelI] at hu; subst hu
  have none : ∀ (a : Option Addr) (c : Nat), l = [] → Calls P0 n_strings_Join #[.slice a 0 c, .string ⟨sep.toArray⟩] w fun e w' => ∃ v, e = .returned v ∧ RelI w' (fun b o => J b o ∨ (w.heap.size ≤ b ∧ b < w'.heap.size)) (.str (Lib.join l sep)) v ∧ Below w.heap.size w w' := by
    intro a c hl
    subst hl
    refine (Tryd.strings_Join_none a c ⟨sep.toArray⟩ w).mono ?_
    rintro e w' ⟨rfl, rfl⟩
    exact ⟨_, rfl, rfl, Below.refl _ _⟩
  rcases hv with ⟨⟨x, rfl, _⟩, hl⟩ | ⟨b, o, cap, rfl, h2, h3, h4⟩
  · exact none x 0 (by simpa using hl)
  · cases hl : l with
    | nil =>
      have := none (some ⟨b, o, Option.none⟩) cap hl
      simpa [hl] using this
    | cons s0 r0 =>
      rw [← hl]
      have hc : ∀ (j : Nat) (s : List UInt8), l[j]? = some s → w.cell? ⟨b, o + j, Option.none⟩ = some (.string ⟨s.toArray⟩) := by
        intro j s hj
        obtain ⟨_, g⟩ := RelE.get h4 j [.str s] (by simp [hj])
        obtain ⟨v, g1, _, g2⟩ := RelC.get g 0 (.str s) rfl
        simp only [RelI] at g2; subst g2
        simpa using g1
      have hbk : b < w.heap.size := by
        have h0 := hc 0 s0 (by simp [hl])
        by_cases hlt : b < w.heap.size
        · exact hlt
        · have hn : w.heap[b]? = Option.none := Array.getElem?_eq_none (by omega)
          simp [World.cell?, hn] at h0
      have e1 : (l.map fun s => (⟨s.toArray⟩ : ByteArray)).map (·.data.toList) = l := by
        rw [List.map_map]; exact List.map_id'' (fun s => by simp) l
      have key := Tryd.strings_Join b o cap (l.map fun s => (⟨s.toArray⟩ : ByteArray)) ⟨sep.toArray⟩ w (by
        intro j x hj
        rw [List.getElem?_map, Option.map_eq_some_iff] at hj
        obtain ⟨s, h1, rfl⟩ := hj
        exact hc j s h1) hbk (by simpa using hN) (by simpa using h2) (by rw [e1]; simpa using hlen)
      rw [e1] at key
      simp only [List.length_map] at key ⊢
      refine key.mono ?_
      rintro e w' ⟨rfl, hb⟩
      exact ⟨_, rfl, rfl, hb⟩

/-- The digits of a number. -/
def digits : Nat → Nat → List UInt8
  | 0, n => [UInt8.ofNat (48 + n)]
  | f + 1, n => if n < 10 then [UInt8.ofNat (48 + n)] else digits f (n / 10) ++ [UInt8.ofNat (48 + n % 10)]

theorem digits_len : ∀ (f n : Nat), (digits f n).length ≤ f + 1
  | 0, n => by simp [digits]
  | f + 1, n => by
    rw [digits]
    split
    · simp
    · have := digits_len f (n / 10); simp; omega

theorem s_ref29_digits : ∀ (f n : Nat), f + 1 < 100 → n < 10 ^ (f + 1) → n < 1000000000 → Ret P0 n_ref29_digits [I n] (.str (digits f n)) := by
  intro f
  induction f with
  | zero =>
    intro n hf h h2
    refine Ret_by is_ref29_digits rfl ?_
    refine WT_t (by simp; omega) ?_
    (repeat first | refine WT_inR (by simp [inR]; omega) ?_ | refine WT_t rfl ?_ | refine WT_f rfl ?_ | refine WT_guard (by first | (simp [inR]; done) | (simp [inR]; omega)) ?_ | refine WT_elem _ (map_get _ _ _ (by first | assumption | omega)) ?_)
    refine WT_ret rfl rfl rfl rfl ?_
    show Dat.str [UInt8.ofNat (48 + (n : Int)).toNat] = .str [UInt8.ofNat (48 + n)]
    congr 3
  | succ f ih =>
    intro n hf h h2
    rw [digits]
    by_cases hn : n < 10
    · rw [if_pos hn]
      refine Ret_by is_ref29_digits rfl ?_
      refine WT_t (by simp; omega) ?_
      (repeat first | refine WT_inR (by simp [inR]; omega) ?_ | refine WT_t rfl ?_ | refine WT_f rfl ?_ | refine WT_guard (by first | (simp [inR]; done) | (simp [inR]; omega)) ?_ | refine WT_elem _ (map_get _ _ _ (by first | assumption | omega)) ?_)
      refine WT_ret rfl rfl rfl rfl ?_
      show Dat.str [UInt8.ofNat (48 + (n : Int)).toNat] = .str [UInt8.ofNat (48 + n)]
      congr 3
    · rw [if_neg hn]
      have ih := ih (n / 10) (by omega) (by rw [Nat.pow_succ] at h; omega) (by omega)
      generalize hdd : digits f (n / 10) = d at ih
      refine Ret_by is_ref29_digits rfl ?_
      have hl : d.length < 100 := by rw [← hdd]; exact Nat.lt_of_le_of_lt (digits_len f _) (by omega)
      refine WT_f (by simp; omega) ?_
      (repeat first | refine WT_inR (by simp [inR]; omega) ?_ | refine WT_t rfl ?_ | refine WT_f rfl ?_ | refine WT_guard (by first | (simp [inR]; done) | (simp [inR]; omega)) ?_ | refine WT_elem _ (map_get _ _ _ (by first | assumption | omega)) ?_)
      refine WT_call _ ih ?_
      have hm : (n : Int).tmod 10 = ((n % 10 : Nat) : Int) := rfl
      refine WT_f rfl ?_
      refine WT_inR (by rw [hm]; simp [inR]; omega) ?_
      refine WT_inR (by rw [hm]; simp [inR]; omega) ?_
      (repeat first | refine WT_inR (by simp [inR]; omega) ?_ | refine WT_t rfl ?_ | refine WT_f rfl ?_ | refine WT_guard (by first | (simp [inR]; done) | (simp [inR]; omega)) ?_ | refine WT_elem _ (map_get _ _ _ (by first | assumption | omega)) ?_)
      refine WT_ret rfl rfl rfl rfl ?_
      rfl

theorem decDigits_digits : ∀ (f n : Nat), n < 10 ^ (f + 1) → Lib.decDigits n = digits f n
  | 0, n, h => by rw [Lib.decDigits, dif_pos (by omega)]; rfl
  | f + 1, n, h => by
    rw [Lib.decDigits, digits]
    by_cases hn : n < 10
    · rw [dif_pos hn, if_pos hn]
    · rw [dif_neg hn, if_neg hn, decDigits_digits f (n / 10) (by rw [Nat.pow_succ] at h; omega)]

/-- A number as digits. -/
theorem s_digits (n : Nat) (h : n < 100000000) : Ret P0 n_ref29_digits [I n] (.str (Lib.itoa n)) := by
  have e : Lib.itoa (n : Int) = digits 7 n := by
    rw [Lib.itoa, if_neg (by omega), Int.toNat_natCast, decDigits_digits 7 n (by omega)]
  rw [e]
  exact s_ref29_digits 7 n (by omega) (by omega) (by omega)
end Uw.Tryd

/- Text, the program's and the document's. -/
set_option linter.unusedVariables false
set_option linter.unusedSimpArgs false
namespace Uw.Tryd
open Go Uw Go.Proofs Go.RowKit

theorem takeWhile_len {α : Type} (p : α → Bool) (l : List α) (k : Nat) (h : k ≤ l.length) (h1 : ∀ (j : Nat) (hj : j < l.length), j < k → p l[j] = true) (h2 : ∀ b, l[k]? = some b → p b = false) : (l.takeWhile p).length = k := by
  have e : l = l.take k ++ l.drop k := by simp
  have h1' : ∀ a ∈ l.take k, p a = true := by
    intro a ha
    rw [List.mem_take_iff_getElem] at ha
    obtain ⟨j, hj, rfl⟩ := ha
    exact h1 j (by omega) (by omega)
  rw [e, List.takeWhile_append_of_pos h1']
  have : (l.drop k).takeWhile p = [] := by
    cases hd : l.drop k with
    | nil => rfl
    | cons b r =>
      have hb : l[k]? = some b := by
        have := congrArg (fun l => l[0]?) hd
        simpa using this
      rw [List.takeWhile_cons, h2 b hb]; rfl
  rw [this]; simp; omega

/-- How many of a pick there are on end, from a place on. -/
def nAt (l : List Pick) (i : Nat) : Nat := if (l.getD i default).kind = 1 then 1 + ((l.drop (i + 1)).takeWhile fun q => decide (q = l.getD i default)).length else 1
def wordAt (l : List Pick) (i : Nat) : List UInt8 :=
  if (l.getD i default).kind = 1 then (if nAt l i = 1 then Lib.itoa (l.getD i default).a else Lib.itoa (l.getD i default).a ++ (120 :: Lib.itoa (nAt l i : Nat)))
  else if (l.getD i default).kind = 2 then Lib.itoa (l.getD i default).a ++ (126 :: Lib.itoa (l.getD i default).b)
  else Lib.itoa (l.getD i default).a ++ [33]
def textK (l : List Pick) : Nat → Nat → List (List UInt8)
  | 0, _ => []
  | f + 1, i => if i < l.length then wordAt l i :: textK l f (i + nAt l i) else []
def textW (l : List Pick) : List (List UInt8) := textK l l.length 0
def text (l : List Pick) : List UInt8 := Lib.join (textW l) [32]

theorem nAt_pos (l : List Pick) (i : Nat) : 1 ≤ nAt l i := by rw [nAt]; split <;> omega

theorem textK_eq (l : List Pick) : ∀ (f g i : Nat), l.length ≤ i + f → l.length ≤ i + g → textK l f i = textK l g i
  | 0, 0, i, _, _ => rfl
  | 0, g + 1, i, h1, h2 => by rw [textK, textK, if_neg (by omega)]
  | f + 1, 0, i, h1, h2 => by rw [textK, textK, if_neg (by omega)]
  | f + 1, g + 1, i, h1, h2 => by
    have := nAt_pos l i
    rw [textK, textK, textK_eq l f g (i + nAt l i) (by omega) (by omega)]

/-- The words from a place on. -/
def textF (l : List Pick) (i : Nat) : List (List UInt8) := textK l (l.length - i) i
theorem textF_end (l : List Pick) (i : Nat) (h : l.length ≤ i) : textF l i = [] := by rw [textF, show l.length - i = 0 by omega]; rfl
theorem textF_step (l : List Pick) (i : Nat) (h : i < l.length) : textF l i = wordAt l i :: textF l (i + nAt l i) := by
  have := nAt_pos l i
  rw [textF, show l.length - i = (l.length - i - 1) + 1 by omega, textK, if_pos h, textF]
  congr 1
  exact textK_eq l _ _ _ (by omega) (by omega)
theorem textF_zero (l : List Pick) : textF l 0 = textW l := rfl

theorem nAt_le (l : List Pick) (i : Nat) (h : i < l.length) : i + nAt l i ≤ l.length := by
  rw [nAt]
  split
  · have := (List.takeWhile_prefix (p := fun q => decide (q = l.getD i default)) (l := l.drop (i + 1))).length_le
    simp at this ⊢; omega
  · omega

theorem nAt_of (l : List Pick) (i n : Nat) (hi : i < l.length) (hk : l[i].kind = 1) (hn : 1 ≤ n) (h : i + n ≤ l.length) (h1 : ∀ (j : Nat) (hj : j < l.length), i < j → j < i + n → l[j] = l[i]) (h2 : ∀ b, l[i + n]? = some b → b ≠ l[i]) : nAt l i = n := by
  have hg : l.getD i default = l[i] := by simp [List.getD, hi]
  rw [nAt, hg, if_pos hk, takeWhile_len _ (l.drop (i + 1)) (n - 1) (by simp; omega) ?_ ?_]
  · omega
  · intro j hj hjn
    rw [List.getElem_drop]
    exact decide_eq_true (h1 (i + 1 + j) (by simp at hj; omega) (by omega) (by omega))
  · intro b hb
    rw [List.getElem?_drop, show i + 1 + (n - 1) = i + n by omega] at hb
    exact decide_eq_false (h2 b hb)

theorem pick_ext {p q : Pick} (h1 : p.kind = q.kind) (h2 : p.a = q.a) (h3 : p.b = q.b) : p = q := by
  obtain ⟨a, b, c⟩ := p
  obtain ⟨d, e, f⟩ := q
  simp only at h1 h2 h3
  rw [h1, h2, h3]

/-- Picks that a text can tell of. -/
structure Fine (p : Pick) : Prop where
  kind : p.kind = 1 ∨ p.kind = 2 ∨ p.kind = 3
  a0 : 0 ≤ p.a
  a1 : p.a < 10000000
  b0 : 0 ≤ p.b
  b1 : p.b < 10000000
  b2 : p.kind = 1 → p.b = 0

theorem itoa_len (n : Int) (h : 0 ≤ n) (h2 : n < 100000000) : (Lib.itoa n).length ≤ 8 := by
  obtain ⟨m, rfl⟩ := Int.eq_ofNat_of_zero_le h
  have e : Lib.itoa ((m : Nat) : Int) = digits 7 m := by
    rw [Lib.itoa, if_neg (by omega), Int.toNat_natCast, decDigits_digits 7 m (by omega)]
  have := digits_len 7 m
  rw [← e] at this
  exact this

theorem wordAt_len (l : List Pick) (i : Nat) (hl : l.length < 20000) (hi : i < l.length) (hf : ∀ p ∈ l, Fine p) : (wordAt l i).length ≤ 20 := by
  have hfi := hf l[i] (List.getElem_mem _)
  have hg : l.getD i default = l[i] := by simp [List.getD, hi]
  have h1 := itoa_len l[i].a hfi.a0 (by have := hfi.a1; omega)
  have h2 := itoa_len l[i].b hfi.b0 (by have := hfi.b1; omega)
  have hn := nAt_le l i hi
  have h3 := itoa_len (nAt l i : Nat) (by omega) (by omega)
  rw [wordAt, hg]
  repeat' split
  all_goals simp
  all_goals omega

theorem textK_len (l : List Pick) (hl : l.length < 20000) (hf : ∀ p ∈ l, Fine p) : ∀ (f i : Nat), (textK l f i).length ≤ f ∧ ∀ w ∈ textK l f i, w.length ≤ 20
  | 0, i => by simp [textK]
  | f + 1, i => by
    rw [textK]
    by_cases h : i < l.length
    · rw [if_pos h]
      have ih := textK_len l hl hf f (i + nAt l i)
      refine ⟨by simp; omega, ?_⟩
      simp only [List.mem_cons]
      rintro w (rfl | hw)
      · exact wordAt_len l i hl h hf
      · exact ih.2 w hw
    · rw [if_neg h]; simp

theorem join_len : ∀ (ws : List (List UInt8)), (∀ w ∈ ws, w.length ≤ 20) → (Lib.join ws [32]).length ≤ 21 * ws.length
  | [], _ => by simp [Lib.join]
  | [w], h => by
    have := h w (by simp)
    simp [Lib.join]; omega
  | w :: v :: r, h => by
    have ih := join_len (v :: r) (fun x hx => h x (by simp [hx]))
    have := h w (by simp)
    have e : Lib.join (w :: v :: r) [32] = w ++ ([32] ++ Lib.join (v :: r) [32]) := by simp [Lib.join, List.intercalate, List.intersperse]
    rw [e]; simp at ih ⊢; omega

theorem text_len (l : List Pick) (hl : l.length < 20000) (hf : ∀ p ∈ l, Fine p) : (text l).length ≤ 21 * l.length := by
  have h := textK_len l hl hf l.length 0
  have := join_len (textK l l.length 0) h.2
  rw [text, textW]; omega

theorem s_script_Text (l : List Pick) (hl : l.length < 20000) (hf : ∀ p ∈ l, Fine p) : Ret P0 n_script_Text [picksD l] (.str (text l)) := by
  refine Ret_by is_script_Text rfl ?_
  refine WT_loop (fun z : Nat × Nat × List (List Dat) => ⟨[(4, .d (I z.1)), (3, .ref 0 0 0 z.2.1), (0, .d (picksD l))], [(0, .arr 1 z.2.2)], 1, [], 0⟩)
    (fun z => z.1 ≤ l.length ∧ z.2.1 = z.2.2.length ∧ z.2.1 ≤ z.1 ∧ ∃ acc, z.2.2 = acc.map (fun s => [Dat.str s]) ∧ acc ++ textF l z.1 = textW l) (fun z => l.length - z.1) (0, 0, []) (by ((refine Weak.of ?_ ?_ rfl rfl ?_ rfl rfl <;> repeat' first | exact trivial | refine ⟨⟨_, rfl, Or.inl ⟨rfl, rfl⟩⟩, ?_⟩ | refine ⟨⟨_, rfl, Or.inr (Or.inl ⟨rfl, by first | exact ⟨_, _, rfl, rfl, Or.inl rfl⟩ | exact ⟨_, _, rfl, rfl, Or.inr rfl⟩⟩)⟩, ?_⟩ | refine ⟨⟨_, rfl, Or.inr (Or.inr rfl)⟩, ?_⟩ | refine ⟨⟨_, rfl, VW_int (by assumption)⟩, ?_⟩ | refine ⟨⟨Or.inl ⟨_, rfl, ⟨rfl, rfl⟩⟩, rfl⟩, ?_⟩ | refine ⟨⟨Or.inl ⟨_, rfl, ⟨rfl, rfl, rfl⟩⟩, rfl⟩, ?_⟩ | refine ⟨⟨Or.inl ⟨_, rfl, BSim_by rfl rfl⟩, rfl⟩, ?_⟩ | refine ⟨⟨Or.inr ⟨rfl, rfl⟩, rfl⟩, ?_⟩ | refine ⟨⟨Or.inr ⟨rfl, rfl, rfl⟩, rfl⟩, ?_⟩))) ⟨by simp, by simp, by simp, [], rfl, rfl⟩ ?_
  rintro ⟨i, n, xs⟩ ⟨h1, h2, h3, acc, h4, h5⟩
  simp only at h1 h2 h3 h4 h5
  refine WT_test (fun h6 => ?_) (fun h6 => ?_)
  · have h6 : i < l.length := by simpa using h6
    have hfi := hf l[i] (List.getElem_mem _)
    have hit := s_strconv_Itoa l[i].a (by have := hfi.a0; omega) (by have := hfi.a1; omega)
    have hitb := s_strconv_Itoa l[i].b (by have := hfi.b0; omega) (by have := hfi.b1; omega)
    have hnl := nAt_le l i h6
    have hg : l.getD i default = l[i] := by simp [List.getD, h6]
    have fin : ∀ (w : List UInt8) (k : Nat), wordAt l i = w → nAt l i = k → ((i + k, n + 1, xs ++ [[Dat.str w]]).1 ≤ l.length ∧ n + 1 = (xs ++ [[Dat.str w]]).length ∧ n + 1 ≤ i + k ∧ ∃ acc, (xs ++ [[Dat.str w]]) = acc.map (fun s => [Dat.str s]) ∧ acc ++ textF l (i + k) = textW l) := by
      intro w k e1 e2
      have := nAt_pos l i
      refine ⟨by simp only; omega, by simp [h2], by omega, acc ++ [w], by simp [h4], ?_⟩
      rw [← h5, textF_step l i h6, e1, e2]; simp
    have hmu : ∀ (k : Nat) (z : Nat × List (List Dat)), 1 ≤ k → l.length - (i + k, z).1 < l.length - i := by intro k z h; simp only; omega
    have wA : ∀ k, l[i].kind = 1 → nAt l i = k → wordAt l i = if k = 1 then Lib.itoa l[i].a else Lib.itoa l[i].a ++ (120 :: Lib.itoa (k : Nat)) := by
      intro k hk e; rw [wordAt, hg, if_pos hk, e]
    have wB : l[i].kind = 2 → nAt l i = 1 ∧ wordAt l i = Lib.itoa l[i].a ++ (126 :: Lib.itoa l[i].b) := by
      intro hk; rw [nAt, wordAt, hg, hk]; simp
    have wC : l[i].kind = 3 → nAt l i = 1 ∧ wordAt l i = Lib.itoa l[i].a ++ [33] := by
      intro hk; rw [nAt, wordAt, hg, hk]; simp
    have la := itoa_len l[i].a hfi.a0 (by have := hfi.a1; omega)
    have lb := itoa_len l[i].b hfi.b0 (by have := hfi.b1; omega)
    have hkk := hfi.kind
    generalize Lib.itoa l[i].a = ta at hit wA wB wC la
    generalize Lib.itoa l[i].b = tb at hitb wB lb
    (repeat first | refine WT_inR (by simp [inR]; omega) ?_ | refine WT_t rfl ?_ | refine WT_f rfl ?_ | refine WT_guard (by first | (simp [inR]; done) | (simp [inR]; omega)) ?_ | refine WT_elem _ (map_get _ _ _ (by first | assumption | omega)) ?_)
    refine WT_call _ hit ?_
    (repeat first | refine WT_inR (by simp [inR]; omega) ?_ | refine WT_t rfl ?_ | refine WT_f rfl ?_ | refine WT_guard (by first | (simp [inR]; done) | (simp [inR]; omega)) ?_ | refine WT_elem _ (map_get _ _ _ (by first | assumption | omega)) ?_)
    refine WT_test (fun h7 => ?_) (fun h7 => ?_)
    · have h7 : l[i].kind = 1 := by simpa using h7
      (repeat first | refine WT_inR (by simp [inR]; omega) ?_ | refine WT_t rfl ?_ | refine WT_f rfl ?_ | refine WT_guard (by first | (simp [inR]; done) | (simp [inR]; omega)) ?_ | refine WT_elem _ (map_get _ _ _ (by first | assumption | omega)) ?_)
      refine WT_loop (fun m : Nat => ⟨[(7, .d (.str ta)), (6, .d (I m)), (5, .ptr 1 0), (4, .d (I i)), (3, .ref 0 0 0 n), (0, .d (picksD l))], [(1, .var [.d (I l[i].kind), .d (I l[i].a), .d (I l[i].b)]), (0, .arr 1 xs)], 2, [], 0⟩)
        (fun m => 1 ≤ m ∧ i + m ≤ l.length ∧ ∀ (j : Nat) (hj : j < l.length), i < j → j < i + m → l[j] = l[i]) (fun m => l.length - m) 1 (by ((refine Weak.of ?_ ?_ rfl rfl ?_ rfl rfl <;> repeat' first | exact trivial | refine ⟨⟨_, rfl, Or.inl ⟨rfl, rfl⟩⟩, ?_⟩ | refine ⟨⟨_, rfl, Or.inr (Or.inl ⟨rfl, by first | exact ⟨_, _, rfl, rfl, Or.inl rfl⟩ | exact ⟨_, _, rfl, rfl, Or.inr rfl⟩⟩)⟩, ?_⟩ | refine ⟨⟨_, rfl, Or.inr (Or.inr rfl)⟩, ?_⟩ | refine ⟨⟨_, rfl, VW_int (by assumption)⟩, ?_⟩ | refine ⟨⟨Or.inl ⟨_, rfl, ⟨rfl, rfl⟩⟩, rfl⟩, ?_⟩ | refine ⟨⟨Or.inl ⟨_, rfl, ⟨rfl, rfl, rfl⟩⟩, rfl⟩, ?_⟩ | refine ⟨⟨Or.inl ⟨_, rfl, BSim_by rfl rfl⟩, rfl⟩, ?_⟩ | refine ⟨⟨Or.inr ⟨rfl, rfl⟩, rfl⟩, ?_⟩ | refine ⟨⟨Or.inr ⟨rfl, rfl, rfl⟩, rfl⟩, ?_⟩))) ⟨by omega, by omega, fun j hj a b => by omega⟩ ?_
      rintro m ⟨g1, g2, g3⟩
      have stop : (∀ b, l[i + m]? = some b → b ≠ l[i]) → nAt l i = m := fun h => nAt_of l i m h6 h7 g1 g2 g3 h
      have hel : ∀ h : i + m < l.length, (l.map pickL)[i + m]? = some (pickL l[i + m]) := fun h => map_get _ _ _ h
      have hitm := s_strconv_Itoa (m : Int) (by omega) (by omega)
      have lm := itoa_len (m : Int) (by omega) (by omega)
      have wA := wA m h7
      generalize Lib.itoa (m : Int) = tm at hitm lm wA
      (repeat first | refine WT_inR (by simp [inR]; omega) ?_ | refine WT_t rfl ?_ | refine WT_f rfl ?_ | refine WT_guard (by first | (simp [inR]; done) | (simp [inR]; omega)) ?_ | refine WT_elem _ (map_get _ _ _ (by first | assumption | omega)) ?_)
      refine WT_test (fun g4 => ?zA) (fun g4 => ?zB)
      case' zB =>
        have hst := stop (by
          intro b hb
          have hle : l.length ≤ i + m := by simp at g4; omega
          rw [List.getElem?_eq_none hle] at hb; cases hb)
      case' zA =>
        have g5 : i + m < l.length := by simp at g4; omega
        have hfm := hf l[i + m] (List.getElem_mem _)
        (repeat first | refine WT_inR (by simp [inR]; omega) ?_ | refine WT_t rfl ?_ | refine WT_f rfl ?_ | refine WT_guard (by first | (simp [inR]; done) | (simp [inR]; omega)) ?_ | refine WT_elem _ (map_get _ _ _ (by first | assumption | omega)) ?_)
        refine WT_test (fun g6 => ?zC) (fun g6 => ?zD)
      case' zD =>
        have g6 : (decide (l[i + m].kind = 1) == true) = false := g6
        have hst := stop (by
          intro b hb e
          rw [List.getElem?_eq_getElem g5] at hb
          injection hb with hb
          rw [← hb] at e
          rw [← e] at h7
          simp [h7] at g6)
      case' zC =>
        have g6 : (decide (l[i + m].kind = 1) == true) = true := g6
        have g6 : l[i + m].kind = 1 := by simpa using g6
        (repeat first | refine WT_inR (by simp [inR]; omega) ?_ | refine WT_t rfl ?_ | refine WT_f rfl ?_ | refine WT_guard (by first | (simp [inR]; done) | (simp [inR]; omega)) ?_ | refine WT_elem _ (map_get _ _ _ (by first | assumption | omega)) ?_)
        refine WT_test (fun g7 => ?zE) (fun g7 => ?zF)
      case zE =>
        have g7 : decide (l[i + m].a = l[i].a) = true := g7
        have g7 : l[i + m].a = l[i].a := by simpa using g7
        have he : l[i + m] = l[i] := pick_ext (g6.trans h7.symm) g7 ((hfm.b2 g6).trans (hfi.b2 h7).symm)
        (repeat first | refine WT_inR (by simp [inR]; omega) ?_ | refine WT_t rfl ?_ | refine WT_f rfl ?_ | refine WT_guard (by first | (simp [inR]; done) | (simp [inR]; omega)) ?_ | refine WT_elem _ (map_get _ _ _ (by first | assumption | omega)) ?_)
        refine WT_again (m + 1) ⟨by omega, by omega, ?_⟩ (by omega) (by ((refine Weak.of ?_ ?_ rfl rfl ?_ rfl rfl <;> repeat' first | exact trivial | refine ⟨⟨_, rfl, Or.inl ⟨rfl, rfl⟩⟩, ?_⟩ | refine ⟨⟨_, rfl, Or.inr (Or.inl ⟨rfl, by first | exact ⟨_, _, rfl, rfl, Or.inl rfl⟩ | exact ⟨_, _, rfl, rfl, Or.inr rfl⟩⟩)⟩, ?_⟩ | refine ⟨⟨_, rfl, Or.inr (Or.inr rfl)⟩, ?_⟩ | refine ⟨⟨_, rfl, VW_int (by assumption)⟩, ?_⟩ | refine ⟨⟨Or.inl ⟨_, rfl, ⟨rfl, rfl⟩⟩, rfl⟩, ?_⟩ | refine ⟨⟨Or.inl ⟨_, rfl, ⟨rfl, rfl, rfl⟩⟩, rfl⟩, ?_⟩ | refine ⟨⟨Or.inl ⟨_, rfl, BSim_by rfl rfl⟩, rfl⟩, ?_⟩ | refine ⟨⟨Or.inr ⟨rfl, rfl⟩, rfl⟩, ?_⟩ | refine ⟨⟨Or.inr ⟨rfl, rfl, rfl⟩, rfl⟩, ?_⟩)))
        intro j hj a b
        by_cases e : j = i + m
        · subst e; exact he
        · exact g3 j hj a (by omega)
      case' zF =>
        have g7 : decide (l[i + m].a = l[i].a) = false := g7
        have hst := stop (by
          intro b hb e
          rw [List.getElem?_eq_getElem g5] at hb
          injection hb with hb
          rw [← hb] at e
          rw [e] at g7
          simp at g7)
      all_goals
        have wA := wA hst
        (repeat first | refine WT_inR (by simp [inR]; omega) ?_ | refine WT_t rfl ?_ | refine WT_f rfl ?_ | refine WT_guard (by first | (simp [inR]; done) | (simp [inR]; omega)) ?_ | refine WT_elem _ (map_get _ _ _ (by first | assumption | omega)) ?_)
        refine WT_test (fun f1 => ?_) (fun f1 => ?_)
        · have f1 : 1 < m := by simp at f1; omega
          rw [if_neg (by omega)] at wA
          (repeat first | refine WT_inR (by simp [inR]; omega) ?_ | refine WT_t rfl ?_ | refine WT_f rfl ?_ | refine WT_guard (by first | (simp [inR]; done) | (simp [inR]; omega)) ?_ | refine WT_elem _ (map_get _ _ _ (by first | assumption | omega)) ?_)
          refine WT_call _ hitm ?_
          (repeat first | refine WT_inR (by simp [inR]; omega) ?_ | refine WT_t rfl ?_ | refine WT_f rfl ?_ | refine WT_guard (by first | (simp [inR]; done) | (simp [inR]; omega)) ?_ | refine WT_elem _ (map_get _ _ _ (by first | assumption | omega)) ?_)
          refine WT_again (i + m, n + 1, xs ++ [[Dat.str (ta ++ ([120] ++ tm))]]) (fin _ m wA hst) (hmu m _ g1) (by ((refine Weak.of ?_ ?_ rfl rfl ?_ rfl rfl <;> repeat' first | exact trivial | refine ⟨⟨_, rfl, Or.inl ⟨rfl, rfl⟩⟩, ?_⟩ | refine ⟨⟨_, rfl, Or.inr (Or.inl ⟨rfl, by first | exact ⟨_, _, rfl, rfl, Or.inl rfl⟩ | exact ⟨_, _, rfl, rfl, Or.inr rfl⟩⟩)⟩, ?_⟩ | refine ⟨⟨_, rfl, Or.inr (Or.inr rfl)⟩, ?_⟩ | refine ⟨⟨_, rfl, VW_int (by assumption)⟩, ?_⟩ | refine ⟨⟨Or.inl ⟨_, rfl, ⟨rfl, rfl⟩⟩, rfl⟩, ?_⟩ | refine ⟨⟨Or.inl ⟨_, rfl, ⟨rfl, rfl, rfl⟩⟩, rfl⟩, ?_⟩ | refine ⟨⟨Or.inl ⟨_, rfl, BSim_by rfl rfl⟩, rfl⟩, ?_⟩ | refine ⟨⟨Or.inr ⟨rfl, rfl⟩, rfl⟩, ?_⟩ | refine ⟨⟨Or.inr ⟨rfl, rfl, rfl⟩, rfl⟩, ?_⟩)))
        · have f1 : m = 1 := by simp at f1; omega
          rw [if_pos f1] at wA
          (repeat first | refine WT_inR (by simp [inR]; omega) ?_ | refine WT_t rfl ?_ | refine WT_f rfl ?_ | refine WT_guard (by first | (simp [inR]; done) | (simp [inR]; omega)) ?_ | refine WT_elem _ (map_get _ _ _ (by first | assumption | omega)) ?_)
          refine WT_again (i + m, n + 1, xs ++ [[Dat.str ta]]) (fin _ m wA hst) (hmu m _ g1) (by ((refine Weak.of ?_ ?_ rfl rfl ?_ rfl rfl <;> repeat' first | exact trivial | refine ⟨⟨_, rfl, Or.inl ⟨rfl, rfl⟩⟩, ?_⟩ | refine ⟨⟨_, rfl, Or.inr (Or.inl ⟨rfl, by first | exact ⟨_, _, rfl, rfl, Or.inl rfl⟩ | exact ⟨_, _, rfl, rfl, Or.inr rfl⟩⟩)⟩, ?_⟩ | refine ⟨⟨_, rfl, Or.inr (Or.inr rfl)⟩, ?_⟩ | refine ⟨⟨_, rfl, VW_int (by assumption)⟩, ?_⟩ | refine ⟨⟨Or.inl ⟨_, rfl, ⟨rfl, rfl⟩⟩, rfl⟩, ?_⟩ | refine ⟨⟨Or.inl ⟨_, rfl, ⟨rfl, rfl, rfl⟩⟩, rfl⟩, ?_⟩ | refine ⟨⟨Or.inl ⟨_, rfl, BSim_by rfl rfl⟩, rfl⟩, ?_⟩ | refine ⟨⟨Or.inr ⟨rfl, rfl⟩, rfl⟩, ?_⟩ | refine ⟨⟨Or.inr ⟨rfl, rfl, rfl⟩, rfl⟩, ?_⟩)))
    · have h7 : l[i].kind ≠ 1 := by simpa using h7
      (repeat first | refine WT_inR (by simp [inR]; omega) ?_ | refine WT_t rfl ?_ | refine WT_f rfl ?_ | refine WT_guard (by first | (simp [inR]; done) | (simp [inR]; omega)) ?_ | refine WT_elem _ (map_get _ _ _ (by first | assumption | omega)) ?_)
      refine WT_test (fun h8 => ?_) (fun h8 => ?_)
      · have h8 : l[i].kind = 2 := by simpa using h8
        (repeat first | refine WT_inR (by simp [inR]; omega) ?_ | refine WT_t rfl ?_ | refine WT_f rfl ?_ | refine WT_guard (by first | (simp [inR]; done) | (simp [inR]; omega)) ?_ | refine WT_elem _ (map_get _ _ _ (by first | assumption | omega)) ?_)
        refine WT_call _ hitb ?_
        (repeat first | refine WT_inR (by simp [inR]; omega) ?_ | refine WT_t rfl ?_ | refine WT_f rfl ?_ | refine WT_guard (by first | (simp [inR]; done) | (simp [inR]; omega)) ?_ | refine WT_elem _ (map_get _ _ _ (by first | assumption | omega)) ?_)
        refine WT_again (i + 1, n + 1, xs ++ [[Dat.str (ta ++ ([126] ++ tb))]]) (fin _ 1 (wB h8).2 (wB h8).1) (hmu 1 _ (by omega)) (by ((refine Weak.of ?_ ?_ rfl rfl ?_ rfl rfl <;> repeat' first | exact trivial | refine ⟨⟨_, rfl, Or.inl ⟨rfl, rfl⟩⟩, ?_⟩ | refine ⟨⟨_, rfl, Or.inr (Or.inl ⟨rfl, by first | exact ⟨_, _, rfl, rfl, Or.inl rfl⟩ | exact ⟨_, _, rfl, rfl, Or.inr rfl⟩⟩)⟩, ?_⟩ | refine ⟨⟨_, rfl, Or.inr (Or.inr rfl)⟩, ?_⟩ | refine ⟨⟨_, rfl, VW_int (by assumption)⟩, ?_⟩ | refine ⟨⟨Or.inl ⟨_, rfl, ⟨rfl, rfl⟩⟩, rfl⟩, ?_⟩ | refine ⟨⟨Or.inl ⟨_, rfl, ⟨rfl, rfl, rfl⟩⟩, rfl⟩, ?_⟩ | refine ⟨⟨Or.inl ⟨_, rfl, BSim_by rfl rfl⟩, rfl⟩, ?_⟩ | refine ⟨⟨Or.inr ⟨rfl, rfl⟩, rfl⟩, ?_⟩ | refine ⟨⟨Or.inr ⟨rfl, rfl, rfl⟩, rfl⟩, ?_⟩)))
      · have h8 : l[i].kind = 3 := by simp at h8; omega
        (repeat first | refine WT_inR (by simp [inR]; omega) ?_ | refine WT_t rfl ?_ | refine WT_f rfl ?_ | refine WT_guard (by first | (simp [inR]; done) | (simp [inR]; omega)) ?_ | refine WT_elem _ (map_get _ _ _ (by first | assumption | omega)) ?_)
        refine WT_t (by simp [h8]) ?_
        (repeat first | refine WT_inR (by simp [inR]; omega) ?_ | refine WT_t rfl ?_ | refine WT_f rfl ?_ | refine WT_guard (by first | (simp [inR]; done) | (simp [inR]; omega)) ?_ | refine WT_elem _ (map_get _ _ _ (by first | assumption | omega)) ?_)
        refine WT_again (i + 1, n + 1, xs ++ [[Dat.str (ta ++ [33])]]) (fin _ 1 (wC h8).2 (wC h8).1) (hmu 1 _ (by omega)) (by ((refine Weak.of ?_ ?_ rfl rfl ?_ rfl rfl <;> repeat' first | exact trivial | refine ⟨⟨_, rfl, Or.inl ⟨rfl, rfl⟩⟩, ?_⟩ | refine ⟨⟨_, rfl, Or.inr (Or.inl ⟨rfl, by first | exact ⟨_, _, rfl, rfl, Or.inl rfl⟩ | exact ⟨_, _, rfl, rfl, Or.inr rfl⟩⟩)⟩, ?_⟩ | refine ⟨⟨_, rfl, Or.inr (Or.inr rfl)⟩, ?_⟩ | refine ⟨⟨_, rfl, VW_int (by assumption)⟩, ?_⟩ | refine ⟨⟨Or.inl ⟨_, rfl, ⟨rfl, rfl⟩⟩, rfl⟩, ?_⟩ | refine ⟨⟨Or.inl ⟨_, rfl, ⟨rfl, rfl, rfl⟩⟩, rfl⟩, ?_⟩ | refine ⟨⟨Or.inl ⟨_, rfl, BSim_by rfl rfl⟩, rfl⟩, ?_⟩ | refine ⟨⟨Or.inr ⟨rfl, rfl⟩, rfl⟩, ?_⟩ | refine ⟨⟨Or.inr ⟨rfl, rfl, rfl⟩, rfl⟩, ?_⟩)))
  · refine WT_break ?_
    have h6 : l.length ≤ i := by simpa using h6
    rw [textF_end l i h6, List.append_nil] at h5
    have hx : (xs.drop 0).take n = (textW l).map fun s => [Dat.str s] := by rw [row_eq h2 h4, h5]
    have hj : Ret P0 n_strings_Join [.slice 1 ((xs.drop 0).take n) false, .str [32]] (.str (text l)) := by
      rw [hx]
      exact s_strings_Join (textW l) [32] false (by rw [← h5]; have := congrArg List.length h4; simp at this; omega) (by have := text_len l hl hf; rw [text] at this; omega)
    (repeat first | refine WT_inR (by simp [inR]; omega) ?_ | refine WT_t rfl ?_ | refine WT_f rfl ?_ | refine WT_guard (by first | (simp [inR]; done) | (simp [inR]; omega)) ?_ | refine WT_elem _ (map_get _ _ _ (by first | assumption | omega)) ?_)
    refine WT_call _ hj ?_
    exact WT_ret rfl rfl rfl rfl rfl
end Uw.Tryd

/- The document's Text. -/
set_option linter.unusedVariables false
set_option linter.unusedSimpArgs false
namespace Uw.Tryd
open Go Uw Go.Proofs Go.RowKit

theorem join_snoc (ws : List (List UInt8)) (w : List UInt8) (h : ws ≠ []) : Lib.join (ws ++ [w]) [32] = Lib.join ws [32] ++ (32 :: w) := by
  induction ws with
  | nil => exact (h rfl).elim
  | cons v r ih =>
    cases r with
    | nil => simp [Lib.join, List.intercalate, List.intersperse]
    | cons u r =>
      have e : ∀ (x : List UInt8) (t : List (List UInt8)) (y : List UInt8), Lib.join (x :: y :: t) [32] = x ++ (32 :: Lib.join (y :: t) [32]) := by
        intro x t y; simp [Lib.join, List.intercalate, List.intersperse]
      have := ih (by simp)
      rw [List.cons_append, List.cons_append, e, e, ← List.cons_append, this]
      simp

set_option maxHeartbeats 1000000 in
theorem s_ref29_Text (l : List Pick) (hl : l.length < 20000) (hf : ∀ p ∈ l, Fine p) : Ret P0 n_ref29_Text [picksD l] (.str (text l)) := by
  refine Ret_by is_ref29_Text rfl ?_
  refine WT_loop (fun z : Nat × List UInt8 => ⟨[(4, .d (I z.1)), (3, .d (.str z.2)), (0, .d (picksD l))], [], 0, [], 0⟩)
    (fun z => z.1 ≤ l.length ∧ ∃ acc, z.2 = Lib.join acc [32] ∧ acc ++ textF l z.1 = textW l ∧ (z.1 = 0 ↔ acc = [])) (fun z => l.length - z.1) (0, []) (by ((refine Weak.of ?_ ?_ rfl rfl ?_ rfl rfl <;> repeat' first | exact trivial | refine ⟨⟨_, rfl, Or.inl ⟨rfl, rfl⟩⟩, ?_⟩ | refine ⟨⟨_, rfl, Or.inr (Or.inl ⟨rfl, by first | exact ⟨_, _, rfl, rfl, Or.inl rfl⟩ | exact ⟨_, _, rfl, rfl, Or.inr rfl⟩⟩)⟩, ?_⟩ | refine ⟨⟨_, rfl, Or.inr (Or.inr rfl)⟩, ?_⟩ | refine ⟨⟨_, rfl, VW_int (by assumption)⟩, ?_⟩ | refine ⟨⟨Or.inl ⟨_, rfl, ⟨rfl, rfl⟩⟩, rfl⟩, ?_⟩ | refine ⟨⟨Or.inl ⟨_, rfl, ⟨rfl, rfl, rfl⟩⟩, rfl⟩, ?_⟩ | refine ⟨⟨Or.inl ⟨_, rfl, BSim_by rfl rfl⟩, rfl⟩, ?_⟩ | refine ⟨⟨Or.inr ⟨rfl, rfl⟩, rfl⟩, ?_⟩ | refine ⟨⟨Or.inr ⟨rfl, rfl, rfl⟩, rfl⟩, ?_⟩))) ⟨by simp, [], by simp [Lib.join], rfl, by simp⟩ ?_
  rintro ⟨i, out⟩ ⟨h1, acc, h3, h4, h5⟩
  simp only at h1 h3 h4 h5
  have hol : out.length ≤ 21 * 20000 := by
    have e1 := textK_len l hl hf l.length 0
    have e2 : ∀ w ∈ acc, w.length ≤ 20 := fun w hw => e1.2 w (by have : w ∈ textW l := by rw [← h4]; simp [hw]
                                                                 exact this)
    have e3 : acc.length ≤ l.length := by
      have := congrArg List.length h4
      have e4 : (textW l).length ≤ l.length := e1.1
      simp at this; omega
    have := join_len acc e2
    rw [h3]; omega
  refine WT_test (fun h6 => ?_) (fun h6 => ?_)
  · have h6 : i < l.length := by simpa using h6
    have hfi := hf l[i] (List.getElem_mem _)
    have hnl := nAt_le l i h6
    have hg : l.getD i default = l[i] := by simp [List.getD, h6]
    have e0 := hfi.a0
    have e1 := hfi.a1
    have e2 := hfi.b0
    have e3 := hfi.b1
    have hit : Ret P0 n_ref29_digits [I l[i].a] (.str (Lib.itoa l[i].a)) := by
      have := s_digits l[i].a.toNat (by omega)
      rw [Int.toNat_of_nonneg e0] at this; exact this
    have hitb : Ret P0 n_ref29_digits [I l[i].b] (.str (Lib.itoa l[i].b)) := by
      have := s_digits l[i].b.toNat (by omega)
      rw [Int.toNat_of_nonneg e2] at this; exact this
    have wA : ∀ k, l[i].kind = 1 → nAt l i = k → wordAt l i = if k = 1 then Lib.itoa l[i].a else Lib.itoa l[i].a ++ (120 :: Lib.itoa (k : Nat)) := by
      intro k hk e; rw [wordAt, hg, if_pos hk, e]
    have wB : l[i].kind = 2 → nAt l i = 1 ∧ wordAt l i = Lib.itoa l[i].a ++ (126 :: Lib.itoa l[i].b) := by
      intro hk; rw [nAt, wordAt, hg, hk]; simp
    have wC : l[i].kind = 3 → nAt l i = 1 ∧ wordAt l i = Lib.itoa l[i].a ++ [33] := by
      intro hk; rw [nAt, wordAt, hg, hk]; simp
    have la := itoa_len l[i].a hfi.a0 (by omega)
    have lb := itoa_len l[i].b hfi.b0 (by omega)
    have hkk := hfi.kind
    have hmu : ∀ (k : Nat) (z : List UInt8), 1 ≤ k → l.length - (i + k, z).1 < l.length - i := by intro k z h; simp only; omega
    generalize Lib.itoa l[i].a = ta at hit wA wB wC la
    generalize Lib.itoa l[i].b = tb at hitb wB lb
    refine WT_test (fun h7 => ?_) (fun h7 => ?_)
    · have h7 : 0 < i := by simpa using h7
      have fin : ∀ (w t : List UInt8) (k : Nat), t = (out ++ [32]) ++ w → wordAt l i = w → nAt l i = k → ((i + k, t).1 ≤ l.length ∧ ∃ acc, t = Lib.join acc [32] ∧ acc ++ textF l (i + k) = textW l ∧ (i + k = 0 ↔ acc = [])) := by
        intro w t k e0 e1 e2
        have hp := nAt_pos l i
        refine ⟨by simp only; omega, acc ++ [w], ?_, ?_, ?_⟩
        · rw [e0]; rw [join_snoc acc w (fun e => by have := h5.2 e; omega), ← h3]; simp
        · rw [← h4, textF_step l i h6, e1, e2]; simp
        · constructor
          · intro h; omega
          · intro h; simp at h
      (repeat first | refine WT_inR (by simp [inR]; omega) ?_ | refine WT_t rfl ?_ | refine WT_f rfl ?_ | refine WT_guard (by first | (simp [inR]; done) | (simp [inR]; omega)) ?_ | refine WT_elem _ (map_get _ _ _ (by first | assumption | omega)) ?_)
      refine WT_call _ hit ?_
      (repeat first | refine WT_inR (by simp [inR]; omega) ?_ | refine WT_t rfl ?_ | refine WT_f rfl ?_ | refine WT_guard (by first | (simp [inR]; done) | (simp [inR]; omega)) ?_ | refine WT_elem _ (map_get _ _ _ (by first | assumption | omega)) ?_)
      refine WT_loop (fun m : Nat => ⟨[(6, .d (I m)), (5, .ptr 0 0), (4, .d (I i)), (3, .d (.str ((out ++ [32]) ++ ta))), (0, .d (picksD l))], [(0, .var [.d (I l[i].kind), .d (I l[i].a), .d (I l[i].b)])], 1, [], 0⟩)
        (fun m => 1 ≤ m ∧ i + m ≤ l.length ∧ (l[i].kind = 1 ∨ m = 1) ∧ ∀ (j : Nat) (hj : j < l.length), i < j → j < i + m → l[j] = l[i]) (fun m => l.length - m) 1 (by ((refine Weak.of ?_ ?_ rfl rfl ?_ rfl rfl <;> repeat' first | exact trivial | refine ⟨⟨_, rfl, Or.inl ⟨rfl, rfl⟩⟩, ?_⟩ | refine ⟨⟨_, rfl, Or.inr (Or.inl ⟨rfl, by first | exact ⟨_, _, rfl, rfl, Or.inl rfl⟩ | exact ⟨_, _, rfl, rfl, Or.inr rfl⟩⟩)⟩, ?_⟩ | refine ⟨⟨_, rfl, Or.inr (Or.inr rfl)⟩, ?_⟩ | refine ⟨⟨_, rfl, VW_int (by assumption)⟩, ?_⟩ | refine ⟨⟨Or.inl ⟨_, rfl, ⟨rfl, rfl⟩⟩, rfl⟩, ?_⟩ | refine ⟨⟨Or.inl ⟨_, rfl, ⟨rfl, rfl, rfl⟩⟩, rfl⟩, ?_⟩ | refine ⟨⟨Or.inl ⟨_, rfl, BSim_by rfl rfl⟩, rfl⟩, ?_⟩ | refine ⟨⟨Or.inr ⟨rfl, rfl⟩, rfl⟩, ?_⟩ | refine ⟨⟨Or.inr ⟨rfl, rfl, rfl⟩, rfl⟩, ?_⟩))) ⟨by omega, by omega, .inr rfl, fun j hj a b => by omega⟩ ?_
      rintro m ⟨g1, g2, g3, g4⟩
      (repeat first | refine WT_inR (by simp [inR]; omega) ?_ | refine WT_t rfl ?_ | refine WT_f rfl ?_ | refine WT_guard (by first | (simp [inR]; done) | (simp [inR]; omega)) ?_ | refine WT_elem _ (map_get _ _ _ (by first | assumption | omega)) ?_)
      refine WT_test (fun k1 => ?zA) (fun k1 => ?zB)
      case zB =>
        have k1 : l[i].kind ≠ 1 := by simpa using k1
        have hm1 : m = 1 := g3.resolve_left k1
        subst hm1
        (repeat first | refine WT_inR (by simp [inR]; omega) ?_ | refine WT_t rfl ?_ | refine WT_f rfl ?_ | refine WT_guard (by first | (simp [inR]; done) | (simp [inR]; omega)) ?_ | refine WT_elem _ (map_get _ _ _ (by first | assumption | omega)) ?_)
        refine WT_test (fun k2 => ?_) (fun k2 => ?_)
        · have k2 : l[i].kind = 2 := by simpa using k2
          (repeat first | refine WT_inR (by simp [inR]; omega) ?_ | refine WT_t rfl ?_ | refine WT_f rfl ?_ | refine WT_guard (by first | (simp [inR]; done) | (simp [inR]; omega)) ?_ | refine WT_elem _ (map_get _ _ _ (by first | assumption | omega)) ?_)
          refine WT_call _ hitb ?_
          (repeat first | refine WT_inR (by simp [inR]; omega) ?_ | refine WT_t rfl ?_ | refine WT_f rfl ?_ | refine WT_guard (by first | (simp [inR]; done) | (simp [inR]; omega)) ?_ | refine WT_elem _ (map_get _ _ _ (by first | assumption | omega)) ?_)
          refine WT_f (by simp [k2]) ?_
          (repeat first | refine WT_inR (by simp [inR]; omega) ?_ | refine WT_t rfl ?_ | refine WT_f rfl ?_ | refine WT_guard (by first | (simp [inR]; done) | (simp [inR]; omega)) ?_ | refine WT_elem _ (map_get _ _ _ (by first | assumption | omega)) ?_)
          exact WT_again (i + 1, (out ++ [32]) ++ ta ++ [126] ++ tb) (fin _ _ 1 (by simp) (wB k2).2 (wB k2).1) (hmu 1 _ (by omega)) (by ((refine Weak.of ?_ ?_ rfl rfl ?_ rfl rfl <;> repeat' first | exact trivial | refine ⟨⟨_, rfl, Or.inl ⟨rfl, rfl⟩⟩, ?_⟩ | refine ⟨⟨_, rfl, Or.inr (Or.inl ⟨rfl, by first | exact ⟨_, _, rfl, rfl, Or.inl rfl⟩ | exact ⟨_, _, rfl, rfl, Or.inr rfl⟩⟩)⟩, ?_⟩ | refine ⟨⟨_, rfl, Or.inr (Or.inr rfl)⟩, ?_⟩ | refine ⟨⟨_, rfl, VW_int (by assumption)⟩, ?_⟩ | refine ⟨⟨Or.inl ⟨_, rfl, ⟨rfl, rfl⟩⟩, rfl⟩, ?_⟩ | refine ⟨⟨Or.inl ⟨_, rfl, ⟨rfl, rfl, rfl⟩⟩, rfl⟩, ?_⟩ | refine ⟨⟨Or.inl ⟨_, rfl, BSim_by rfl rfl⟩, rfl⟩, ?_⟩ | refine ⟨⟨Or.inr ⟨rfl, rfl⟩, rfl⟩, ?_⟩ | refine ⟨⟨Or.inr ⟨rfl, rfl, rfl⟩, rfl⟩, ?_⟩)))
        · have k2 : l[i].kind = 3 := by simp at k2; omega
          (repeat first | refine WT_inR (by simp [inR]; omega) ?_ | refine WT_t rfl ?_ | refine WT_f rfl ?_ | refine WT_guard (by first | (simp [inR]; done) | (simp [inR]; omega)) ?_ | refine WT_elem _ (map_get _ _ _ (by first | assumption | omega)) ?_)
          refine WT_t (by simp [k2]) ?_
          (repeat first | refine WT_inR (by simp [inR]; omega) ?_ | refine WT_t rfl ?_ | refine WT_f rfl ?_ | refine WT_guard (by first | (simp [inR]; done) | (simp [inR]; omega)) ?_ | refine WT_elem _ (map_get _ _ _ (by first | assumption | omega)) ?_)
          exact WT_again (i + 1, (out ++ [32]) ++ ta ++ [33]) (fin _ _ 1 (by simp) (wC k2).2 (wC k2).1) (hmu 1 _ (by omega)) (by ((refine Weak.of ?_ ?_ rfl rfl ?_ rfl rfl <;> repeat' first | exact trivial | refine ⟨⟨_, rfl, Or.inl ⟨rfl, rfl⟩⟩, ?_⟩ | refine ⟨⟨_, rfl, Or.inr (Or.inl ⟨rfl, by first | exact ⟨_, _, rfl, rfl, Or.inl rfl⟩ | exact ⟨_, _, rfl, rfl, Or.inr rfl⟩⟩)⟩, ?_⟩ | refine ⟨⟨_, rfl, Or.inr (Or.inr rfl)⟩, ?_⟩ | refine ⟨⟨_, rfl, VW_int (by assumption)⟩, ?_⟩ | refine ⟨⟨Or.inl ⟨_, rfl, ⟨rfl, rfl⟩⟩, rfl⟩, ?_⟩ | refine ⟨⟨Or.inl ⟨_, rfl, ⟨rfl, rfl, rfl⟩⟩, rfl⟩, ?_⟩ | refine ⟨⟨Or.inl ⟨_, rfl, BSim_by rfl rfl⟩, rfl⟩, ?_⟩ | refine ⟨⟨Or.inr ⟨rfl, rfl⟩, rfl⟩, ?_⟩ | refine ⟨⟨Or.inr ⟨rfl, rfl, rfl⟩, rfl⟩, ?_⟩)))
      have k1 : l[i].kind = 1 := by simpa using k1
      have stop : (∀ b, l[i + m]? = some b → b ≠ l[i]) → nAt l i = m := fun h => nAt_of l i m h6 k1 g1 g2 g4 h
      have hitm := s_digits m (by omega)
      have lm := itoa_len (m : Int) (by omega) (by omega)
      have wA := wA m k1
      generalize Lib.itoa (m : Int) = tm at hitm lm wA
      (repeat first | refine WT_inR (by simp [inR]; omega) ?_ | refine WT_t rfl ?_ | refine WT_f rfl ?_ | refine WT_guard (by first | (simp [inR]; done) | (simp [inR]; omega)) ?_ | refine WT_elem _ (map_get _ _ _ (by first | assumption | omega)) ?_)
      refine WT_test (fun k3 => ?zC) (fun k3 => ?zD)
      case' zD =>
        have hst := stop (by
          intro b hb
          have hle : l.length ≤ i + m := by simp at k3; omega
          rw [List.getElem?_eq_none hle] at hb; cases hb)
      case' zC =>
        have g5 : i + m < l.length := by simp at k3; omega
        (repeat first | refine WT_inR (by simp [inR]; omega) ?_ | refine WT_t rfl ?_ | refine WT_f rfl ?_ | refine WT_guard (by first | (simp [inR]; done) | (simp [inR]; omega)) ?_ | refine WT_elem _ (map_get _ _ _ (by first | assumption | omega)) ?_)
        refine WT_test (fun k4 => ?zE) (fun k4 => ?zF)
      case zE =>
        have k4 : ((decide (l[i + m].kind = l[i].kind)) && ((decide (l[i + m].a = l[i].a)) && ((decide (l[i + m].b = l[i].b)) && true))) = true := k4
        have he : l[i + m] = l[i] := by simp at k4; exact pick_ext k4.1 k4.2.1 k4.2.2
        (repeat first | refine WT_inR (by simp [inR]; omega) ?_ | refine WT_t rfl ?_ | refine WT_f rfl ?_ | refine WT_guard (by first | (simp [inR]; done) | (simp [inR]; omega)) ?_ | refine WT_elem _ (map_get _ _ _ (by first | assumption | omega)) ?_)
        refine WT_again (m + 1) ⟨by omega, by omega, .inl k1, ?_⟩ (by omega) (by ((refine Weak.of ?_ ?_ rfl rfl ?_ rfl rfl <;> repeat' first | exact trivial | refine ⟨⟨_, rfl, Or.inl ⟨rfl, rfl⟩⟩, ?_⟩ | refine ⟨⟨_, rfl, Or.inr (Or.inl ⟨rfl, by first | exact ⟨_, _, rfl, rfl, Or.inl rfl⟩ | exact ⟨_, _, rfl, rfl, Or.inr rfl⟩⟩)⟩, ?_⟩ | refine ⟨⟨_, rfl, Or.inr (Or.inr rfl)⟩, ?_⟩ | refine ⟨⟨_, rfl, VW_int (by assumption)⟩, ?_⟩ | refine ⟨⟨Or.inl ⟨_, rfl, ⟨rfl, rfl⟩⟩, rfl⟩, ?_⟩ | refine ⟨⟨Or.inl ⟨_, rfl, ⟨rfl, rfl, rfl⟩⟩, rfl⟩, ?_⟩ | refine ⟨⟨Or.inl ⟨_, rfl, BSim_by rfl rfl⟩, rfl⟩, ?_⟩ | refine ⟨⟨Or.inr ⟨rfl, rfl⟩, rfl⟩, ?_⟩ | refine ⟨⟨Or.inr ⟨rfl, rfl, rfl⟩, rfl⟩, ?_⟩)))
        intro j hj a b
        by_cases e : j = i + m
        · subst e; exact he
        · exact g4 j hj a (by omega)
      case' zF =>
        have k4 : ((decide (l[i + m].kind = l[i].kind)) && ((decide (l[i + m].a = l[i].a)) && ((decide (l[i + m].b = l[i].b)) && true))) = false := k4
        have hst := stop (by
          intro b hb e
          rw [List.getElem?_eq_getElem g5] at hb
          injection hb with hb
          rw [← hb] at e
          rw [e] at k4
          simp at k4)
      all_goals
        have wA := wA hst
        (repeat first | refine WT_inR (by simp [inR]; omega) ?_ | refine WT_t rfl ?_ | refine WT_f rfl ?_ | refine WT_guard (by first | (simp [inR]; done) | (simp [inR]; omega)) ?_ | refine WT_elem _ (map_get _ _ _ (by first | assumption | omega)) ?_)
        refine WT_f (by simp [k1]) ?_
        (repeat first | refine WT_inR (by simp [inR]; omega) ?_ | refine WT_t rfl ?_ | refine WT_f rfl ?_ | refine WT_guard (by first | (simp [inR]; done) | (simp [inR]; omega)) ?_ | refine WT_elem _ (map_get _ _ _ (by first | assumption | omega)) ?_)
        refine WT_f (by simp [k1]) ?_
        (repeat first | refine WT_inR (by simp [inR]; omega) ?_ | refine WT_t rfl ?_ | refine WT_f rfl ?_ | refine WT_guard (by first | (simp [inR]; done) | (simp [inR]; omega)) ?_ | refine WT_elem _ (map_get _ _ _ (by first | assumption | omega)) ?_)
        refine WT_test (fun f1 => ?_) (fun f1 => ?_)
        · have f1 : 1 < m := by simp at f1; omega
          rw [if_neg (by omega)] at wA
          (repeat first | refine WT_inR (by simp [inR]; omega) ?_ | refine WT_t rfl ?_ | refine WT_f rfl ?_ | refine WT_guard (by first | (simp [inR]; done) | (simp [inR]; omega)) ?_ | refine WT_elem _ (map_get _ _ _ (by first | assumption | omega)) ?_)
          refine WT_call _ hitm ?_
          (repeat first | refine WT_inR (by simp [inR]; omega) ?_ | refine WT_t rfl ?_ | refine WT_f rfl ?_ | refine WT_guard (by first | (simp [inR]; done) | (simp [inR]; omega)) ?_ | refine WT_elem _ (map_get _ _ _ (by first | assumption | omega)) ?_)
          exact WT_again (i + m, (out ++ [32]) ++ ta ++ [120] ++ tm) (fin _ _ m (by simp) wA hst) (hmu m _ g1) (by ((refine Weak.of ?_ ?_ rfl rfl ?_ rfl rfl <;> repeat' first | exact trivial | refine ⟨⟨_, rfl, Or.inl ⟨rfl, rfl⟩⟩, ?_⟩ | refine ⟨⟨_, rfl, Or.inr (Or.inl ⟨rfl, by first | exact ⟨_, _, rfl, rfl, Or.inl rfl⟩ | exact ⟨_, _, rfl, rfl, Or.inr rfl⟩⟩)⟩, ?_⟩ | refine ⟨⟨_, rfl, Or.inr (Or.inr rfl)⟩, ?_⟩ | refine ⟨⟨_, rfl, VW_int (by assumption)⟩, ?_⟩ | refine ⟨⟨Or.inl ⟨_, rfl, ⟨rfl, rfl⟩⟩, rfl⟩, ?_⟩ | refine ⟨⟨Or.inl ⟨_, rfl, ⟨rfl, rfl, rfl⟩⟩, rfl⟩, ?_⟩ | refine ⟨⟨Or.inl ⟨_, rfl, BSim_by rfl rfl⟩, rfl⟩, ?_⟩ | refine ⟨⟨Or.inr ⟨rfl, rfl⟩, rfl⟩, ?_⟩ | refine ⟨⟨Or.inr ⟨rfl, rfl, rfl⟩, rfl⟩, ?_⟩)))
        · have f1 : m = 1 := by simp at f1; omega
          rw [if_pos f1] at wA
          (repeat first | refine WT_inR (by simp [inR]; omega) ?_ | refine WT_t rfl ?_ | refine WT_f rfl ?_ | refine WT_guard (by first | (simp [inR]; done) | (simp [inR]; omega)) ?_ | refine WT_elem _ (map_get _ _ _ (by first | assumption | omega)) ?_)
          exact WT_again (i + m, (out ++ [32]) ++ ta) (fin _ _ m (by simp) wA hst) (hmu m _ g1) (by ((refine Weak.of ?_ ?_ rfl rfl ?_ rfl rfl <;> repeat' first | exact trivial | refine ⟨⟨_, rfl, Or.inl ⟨rfl, rfl⟩⟩, ?_⟩ | refine ⟨⟨_, rfl, Or.inr (Or.inl ⟨rfl, by first | exact ⟨_, _, rfl, rfl, Or.inl rfl⟩ | exact ⟨_, _, rfl, rfl, Or.inr rfl⟩⟩)⟩, ?_⟩ | refine ⟨⟨_, rfl, Or.inr (Or.inr rfl)⟩, ?_⟩ | refine ⟨⟨_, rfl, VW_int (by assumption)⟩, ?_⟩ | refine ⟨⟨Or.inl ⟨_, rfl, ⟨rfl, rfl⟩⟩, rfl⟩, ?_⟩ | refine ⟨⟨Or.inl ⟨_, rfl, ⟨rfl, rfl, rfl⟩⟩, rfl⟩, ?_⟩ | refine ⟨⟨Or.inl ⟨_, rfl, BSim_by rfl rfl⟩, rfl⟩, ?_⟩ | refine ⟨⟨Or.inr ⟨rfl, rfl⟩, rfl⟩, ?_⟩ | refine ⟨⟨Or.inr ⟨rfl, rfl, rfl⟩, rfl⟩, ?_⟩)))
    · have h7 : i = 0 := by simp at h7; omega
      have fin : ∀ (w t : List UInt8) (k : Nat), t = out ++ w → wordAt l i = w → nAt l i = k → ((i + k, t).1 ≤ l.length ∧ ∃ acc, t = Lib.join acc [32] ∧ acc ++ textF l (i + k) = textW l ∧ (i + k = 0 ↔ acc = [])) := by
        intro w t k e0 e1 e2
        have hp := nAt_pos l i
        refine ⟨by simp only; omega, acc ++ [w], ?_, ?_, ?_⟩
        · rw [e0]; rw [h5.1 h7, h3, h5.1 h7]; simp [Lib.join]
        · rw [← h4, textF_step l i h6, e1, e2]; simp
        · constructor
          · intro h; omega
          · intro h; simp at h
      (repeat first | refine WT_inR (by simp [inR]; omega) ?_ | refine WT_t rfl ?_ | refine WT_f rfl ?_ | refine WT_guard (by first | (simp [inR]; done) | (simp [inR]; omega)) ?_ | refine WT_elem _ (map_get _ _ _ (by first | assumption | omega)) ?_)
      refine WT_call _ hit ?_
      (repeat first | refine WT_inR (by simp [inR]; omega) ?_ | refine WT_t rfl ?_ | refine WT_f rfl ?_ | refine WT_guard (by first | (simp [inR]; done) | (simp [inR]; omega)) ?_ | refine WT_elem _ (map_get _ _ _ (by first | assumption | omega)) ?_)
      refine WT_loop (fun m : Nat => ⟨[(6, .d (I m)), (5, .ptr 0 0), (4, .d (I i)), (3, .d (.str (out ++ ta))), (0, .d (picksD l))], [(0, .var [.d (I l[i].kind), .d (I l[i].a), .d (I l[i].b)])], 1, [], 0⟩)
        (fun m => 1 ≤ m ∧ i + m ≤ l.length ∧ (l[i].kind = 1 ∨ m = 1) ∧ ∀ (j : Nat) (hj : j < l.length), i < j → j < i + m → l[j] = l[i]) (fun m => l.length - m) 1 (by ((refine Weak.of ?_ ?_ rfl rfl ?_ rfl rfl <;> repeat' first | exact trivial | refine ⟨⟨_, rfl, Or.inl ⟨rfl, rfl⟩⟩, ?_⟩ | refine ⟨⟨_, rfl, Or.inr (Or.inl ⟨rfl, by first | exact ⟨_, _, rfl, rfl, Or.inl rfl⟩ | exact ⟨_, _, rfl, rfl, Or.inr rfl⟩⟩)⟩, ?_⟩ | refine ⟨⟨_, rfl, Or.inr (Or.inr rfl)⟩, ?_⟩ | refine ⟨⟨_, rfl, VW_int (by assumption)⟩, ?_⟩ | refine ⟨⟨Or.inl ⟨_, rfl, ⟨rfl, rfl⟩⟩, rfl⟩, ?_⟩ | refine ⟨⟨Or.inl ⟨_, rfl, ⟨rfl, rfl, rfl⟩⟩, rfl⟩, ?_⟩ | refine ⟨⟨Or.inl ⟨_, rfl, BSim_by rfl rfl⟩, rfl⟩, ?_⟩ | refine ⟨⟨Or.inr ⟨rfl, rfl⟩, rfl⟩, ?_⟩ | refine ⟨⟨Or.inr ⟨rfl, rfl, rfl⟩, rfl⟩, ?_⟩))) ⟨by omega, by omega, .inr rfl, fun j hj a b => by omega⟩ ?_
      rintro m ⟨g1, g2, g3, g4⟩
      (repeat first | refine WT_inR (by simp [inR]; omega) ?_ | refine WT_t rfl ?_ | refine WT_f rfl ?_ | refine WT_guard (by first | (simp [inR]; done) | (simp [inR]; omega)) ?_ | refine WT_elem _ (map_get _ _ _ (by first | assumption | omega)) ?_)
      refine WT_test (fun k1 => ?yA) (fun k1 => ?yB)
      case yB =>
        have k1 : l[i].kind ≠ 1 := by simpa using k1
        have hm1 : m = 1 := g3.resolve_left k1
        subst hm1
        (repeat first | refine WT_inR (by simp [inR]; omega) ?_ | refine WT_t rfl ?_ | refine WT_f rfl ?_ | refine WT_guard (by first | (simp [inR]; done) | (simp [inR]; omega)) ?_ | refine WT_elem _ (map_get _ _ _ (by first | assumption | omega)) ?_)
        refine WT_test (fun k2 => ?_) (fun k2 => ?_)
        · have k2 : l[i].kind = 2 := by simpa using k2
          (repeat first | refine WT_inR (by simp [inR]; omega) ?_ | refine WT_t rfl ?_ | refine WT_f rfl ?_ | refine WT_guard (by first | (simp [inR]; done) | (simp [inR]; omega)) ?_ | refine WT_elem _ (map_get _ _ _ (by first | assumption | omega)) ?_)
          refine WT_call _ hitb ?_
          (repeat first | refine WT_inR (by simp [inR]; omega) ?_ | refine WT_t rfl ?_ | refine WT_f rfl ?_ | refine WT_guard (by first | (simp [inR]; done) | (simp [inR]; omega)) ?_ | refine WT_elem _ (map_get _ _ _ (by first | assumption | omega)) ?_)
          refine WT_f (by simp [k2]) ?_
          (repeat first | refine WT_inR (by simp [inR]; omega) ?_ | refine WT_t rfl ?_ | refine WT_f rfl ?_ | refine WT_guard (by first | (simp [inR]; done) | (simp [inR]; omega)) ?_ | refine WT_elem _ (map_get _ _ _ (by first | assumption | omega)) ?_)
          exact WT_again (i + 1, out ++ ta ++ [126] ++ tb) (fin _ _ 1 (by simp) (wB k2).2 (wB k2).1) (hmu 1 _ (by omega)) (by ((refine Weak.of ?_ ?_ rfl rfl ?_ rfl rfl <;> repeat' first | exact trivial | refine ⟨⟨_, rfl, Or.inl ⟨rfl, rfl⟩⟩, ?_⟩ | refine ⟨⟨_, rfl, Or.inr (Or.inl ⟨rfl, by first | exact ⟨_, _, rfl, rfl, Or.inl rfl⟩ | exact ⟨_, _, rfl, rfl, Or.inr rfl⟩⟩)⟩, ?_⟩ | refine ⟨⟨_, rfl, Or.inr (Or.inr rfl)⟩, ?_⟩ | refine ⟨⟨_, rfl, VW_int (by assumption)⟩, ?_⟩ | refine ⟨⟨Or.inl ⟨_, rfl, ⟨rfl, rfl⟩⟩, rfl⟩, ?_⟩ | refine ⟨⟨Or.inl ⟨_, rfl, ⟨rfl, rfl, rfl⟩⟩, rfl⟩, ?_⟩ | refine ⟨⟨Or.inl ⟨_, rfl, BSim_by rfl rfl⟩, rfl⟩, ?_⟩ | refine ⟨⟨Or.inr ⟨rfl, rfl⟩, rfl⟩, ?_⟩ | refine ⟨⟨Or.inr ⟨rfl, rfl, rfl⟩, rfl⟩, ?_⟩)))
        · have k2 : l[i].kind = 3 := by simp at k2; omega
          (repeat first | refine WT_inR (by simp [inR]; omega) ?_ | refine WT_t rfl ?_ | refine WT_f rfl ?_ | refine WT_guard (by first | (simp [inR]; done) | (simp [inR]; omega)) ?_ | refine WT_elem _ (map_get _ _ _ (by first | assumption | omega)) ?_)
          refine WT_t (by simp [k2]) ?_
          (repeat first | refine WT_inR (by simp [inR]; omega) ?_ | refine WT_t rfl ?_ | refine WT_f rfl ?_ | refine WT_guard (by first | (simp [inR]; done) | (simp [inR]; omega)) ?_ | refine WT_elem _ (map_get _ _ _ (by first | assumption | omega)) ?_)
          exact WT_again (i + 1, out ++ ta ++ [33]) (fin _ _ 1 (by simp) (wC k2).2 (wC k2).1) (hmu 1 _ (by omega)) (by ((refine Weak.of ?_ ?_ rfl rfl ?_ rfl rfl <;> repeat' first | exact trivial | refine ⟨⟨_, rfl, Or.inl ⟨rfl, rfl⟩⟩, ?_⟩ | refine ⟨⟨_, rfl, Or.inr (Or.inl ⟨rfl, by first | exact ⟨_, _, rfl, rfl, Or.inl rfl⟩ | exact ⟨_, _, rfl, rfl, Or.inr rfl⟩⟩)⟩, ?_⟩ | refine ⟨⟨_, rfl, Or.inr (Or.inr rfl)⟩, ?_⟩ | refine ⟨⟨_, rfl, VW_int (by assumption)⟩, ?_⟩ | refine ⟨⟨Or.inl ⟨_, rfl, ⟨rfl, rfl⟩⟩, rfl⟩, ?_⟩ | refine ⟨⟨Or.inl ⟨_, rfl, ⟨rfl, rfl, rfl⟩⟩, rfl⟩, ?_⟩ | refine ⟨⟨Or.inl ⟨_, rfl, BSim_by rfl rfl⟩, rfl⟩, ?_⟩ | refine ⟨⟨Or.inr ⟨rfl, rfl⟩, rfl⟩, ?_⟩ | refine ⟨⟨Or.inr ⟨rfl, rfl, rfl⟩, rfl⟩, ?_⟩)))
      have k1 : l[i].kind = 1 := by simpa using k1
      have stop : (∀ b, l[i + m]? = some b → b ≠ l[i]) → nAt l i = m := fun h => nAt_of l i m h6 k1 g1 g2 g4 h
      have hitm := s_digits m (by omega)
      have lm := itoa_len (m : Int) (by omega) (by omega)
      have wA := wA m k1
      generalize Lib.itoa (m : Int) = tm at hitm lm wA
      (repeat first | refine WT_inR (by simp [inR]; omega) ?_ | refine WT_t rfl ?_ | refine WT_f rfl ?_ | refine WT_guard (by first | (simp [inR]; done) | (simp [inR]; omega)) ?_ | refine WT_elem _ (map_get _ _ _ (by first | assumption | omega)) ?_)
      refine WT_test (fun k3 => ?yC) (fun k3 => ?yD)
      case' yD =>
        have hst := stop (by
          intro b hb
          have hle : l.length ≤ i + m := by simp at k3; omega
          rw [List.getElem?_eq_none hle] at hb; cases hb)
      case' yC =>
        have g5 : i + m < l.length := by simp at k3; omega
        (repeat first | refine WT_inR (by simp [inR]; omega) ?_ | refine WT_t rfl ?_ | refine WT_f rfl ?_ | refine WT_guard (by first | (simp [inR]; done) | (simp [inR]; omega)) ?_ | refine WT_elem _ (map_get _ _ _ (by first | assumption | omega)) ?_)
        refine WT_test (fun k4 => ?yE) (fun k4 => ?yF)
      case yE =>
        have k4 : ((decide (l[i + m].kind = l[i].kind)) && ((decide (l[i + m].a = l[i].a)) && ((decide (l[i + m].b = l[i].b)) && true))) = true := k4
        have he : l[i + m] = l[i] := by simp at k4; exact pick_ext k4.1 k4.2.1 k4.2.2
        (repeat first | refine WT_inR (by simp [inR]; omega) ?_ | refine WT_t rfl ?_ | refine WT_f rfl ?_ | refine WT_guard (by first | (simp [inR]; done) | (simp [inR]; omega)) ?_ | refine WT_elem _ (map_get _ _ _ (by first | assumption | omega)) ?_)
        refine WT_again (m + 1) ⟨by omega, by omega, .inl k1, ?_⟩ (by omega) (by ((refine Weak.of ?_ ?_ rfl rfl ?_ rfl rfl <;> repeat' first | exact trivial | refine ⟨⟨_, rfl, Or.inl ⟨rfl, rfl⟩⟩, ?_⟩ | refine ⟨⟨_, rfl, Or.inr (Or.inl ⟨rfl, by first | exact ⟨_, _, rfl, rfl, Or.inl rfl⟩ | exact ⟨_, _, rfl, rfl, Or.inr rfl⟩⟩)⟩, ?_⟩ | refine ⟨⟨_, rfl, Or.inr (Or.inr rfl)⟩, ?_⟩ | refine ⟨⟨_, rfl, VW_int (by assumption)⟩, ?_⟩ | refine ⟨⟨Or.inl ⟨_, rfl, ⟨rfl, rfl⟩⟩, rfl⟩, ?_⟩ | refine ⟨⟨Or.inl ⟨_, rfl, ⟨rfl, rfl, rfl⟩⟩, rfl⟩, ?_⟩ | refine ⟨⟨Or.inl ⟨_, rfl, BSim_by rfl rfl⟩, rfl⟩, ?_⟩ | refine ⟨⟨Or.inr ⟨rfl, rfl⟩, rfl⟩, ?_⟩ | refine ⟨⟨Or.inr ⟨rfl, rfl, rfl⟩, rfl⟩, ?_⟩)))
        intro j hj a b
        by_cases e : j = i + m
        · subst e; exact he
        · exact g4 j hj a (by omega)
      case' yF =>
        have k4 : ((decide (l[i + m].kind = l[i].kind)) && ((decide (l[i + m].a = l[i].a)) && ((decide (l[i + m].b = l[i].b)) && true))) = false := k4
        have hst := stop (by
          intro b hb e
          rw [List.getElem?_eq_getElem g5] at hb
          injection hb with hb
          rw [← hb] at e
          rw [e] at k4
          simp at k4)
      all_goals
        have wA := wA hst
        (repeat first | refine WT_inR (by simp [inR]; omega) ?_ | refine WT_t rfl ?_ | refine WT_f rfl ?_ | refine WT_guard (by first | (simp [inR]; done) | (simp [inR]; omega)) ?_ | refine WT_elem _ (map_get _ _ _ (by first | assumption | omega)) ?_)
        refine WT_f (by simp [k1]) ?_
        (repeat first | refine WT_inR (by simp [inR]; omega) ?_ | refine WT_t rfl ?_ | refine WT_f rfl ?_ | refine WT_guard (by first | (simp [inR]; done) | (simp [inR]; omega)) ?_ | refine WT_elem _ (map_get _ _ _ (by first | assumption | omega)) ?_)
        refine WT_f (by simp [k1]) ?_
        (repeat first | refine WT_inR (by simp [inR]; omega) ?_ | refine WT_t rfl ?_ | refine WT_f rfl ?_ | refine WT_guard (by first | (simp [inR]; done) | (simp [inR]; omega)) ?_ | refine WT_elem _ (map_get _ _ _ (by first | assumption | omega)) ?_)
        refine WT_test (fun f1 => ?_) (fun f1 => ?_)
        · have f1 : 1 < m := by simp at f1; omega
          rw [if_neg (by omega)] at wA
          (repeat first | refine WT_inR (by simp [inR]; omega) ?_ | refine WT_t rfl ?_ | refine WT_f rfl ?_ | refine WT_guard (by first | (simp [inR]; done) | (simp [inR]; omega)) ?_ | refine WT_elem _ (map_get _ _ _ (by first | assumption | omega)) ?_)
          refine WT_call _ hitm ?_
          (repeat first | refine WT_inR (by simp [inR]; omega) ?_ | refine WT_t rfl ?_ | refine WT_f rfl ?_ | refine WT_guard (by first | (simp [inR]; done) | (simp [inR]; omega)) ?_ | refine WT_elem _ (map_get _ _ _ (by first | assumption | omega)) ?_)
          exact WT_again (i + m, out ++ ta ++ [120] ++ tm) (fin _ _ m (by simp) wA hst) (hmu m _ g1) (by ((refine Weak.of ?_ ?_ rfl rfl ?_ rfl rfl <;> repeat' first | exact trivial | refine ⟨⟨_, rfl, Or.inl ⟨rfl, rfl⟩⟩, ?_⟩ | refine ⟨⟨_, rfl, Or.inr (Or.inl ⟨rfl, by first | exact ⟨_, _, rfl, rfl, Or.inl rfl⟩ | exact ⟨_, _, rfl, rfl, Or.inr rfl⟩⟩)⟩, ?_⟩ | refine ⟨⟨_, rfl, Or.inr (Or.inr rfl)⟩, ?_⟩ | refine ⟨⟨_, rfl, VW_int (by assumption)⟩, ?_⟩ | refine ⟨⟨Or.inl ⟨_, rfl, ⟨rfl, rfl⟩⟩, rfl⟩, ?_⟩ | refine ⟨⟨Or.inl ⟨_, rfl, ⟨rfl, rfl, rfl⟩⟩, rfl⟩, ?_⟩ | refine ⟨⟨Or.inl ⟨_, rfl, BSim_by rfl rfl⟩, rfl⟩, ?_⟩ | refine ⟨⟨Or.inr ⟨rfl, rfl⟩, rfl⟩, ?_⟩ | refine ⟨⟨Or.inr ⟨rfl, rfl, rfl⟩, rfl⟩, ?_⟩)))
        · have f1 : m = 1 := by simp at f1; omega
          rw [if_pos f1] at wA
          (repeat first | refine WT_inR (by simp [inR]; omega) ?_ | refine WT_t rfl ?_ | refine WT_f rfl ?_ | refine WT_guard (by first | (simp [inR]; done) | (simp [inR]; omega)) ?_ | refine WT_elem _ (map_get _ _ _ (by first | assumption | omega)) ?_)
          exact WT_again (i + m, out ++ ta) (fin _ _ m (by simp) wA hst) (hmu m _ g1) (by ((refine Weak.of ?_ ?_ rfl rfl ?_ rfl rfl <;> repeat' first | exact trivial | refine ⟨⟨_, rfl, Or.inl ⟨rfl, rfl⟩⟩, ?_⟩ | refine ⟨⟨_, rfl, Or.inr (Or.inl ⟨rfl, by first | exact ⟨_, _, rfl, rfl, Or.inl rfl⟩ | exact ⟨_, _, rfl, rfl, Or.inr rfl⟩⟩)⟩, ?_⟩ | refine ⟨⟨_, rfl, Or.inr (Or.inr rfl)⟩, ?_⟩ | refine ⟨⟨_, rfl, VW_int (by assumption)⟩, ?_⟩ | refine ⟨⟨Or.inl ⟨_, rfl, ⟨rfl, rfl⟩⟩, rfl⟩, ?_⟩ | refine ⟨⟨Or.inl ⟨_, rfl, ⟨rfl, rfl, rfl⟩⟩, rfl⟩, ?_⟩ | refine ⟨⟨Or.inl ⟨_, rfl, BSim_by rfl rfl⟩, rfl⟩, ?_⟩ | refine ⟨⟨Or.inr ⟨rfl, rfl⟩, rfl⟩, ?_⟩ | refine ⟨⟨Or.inr ⟨rfl, rfl, rfl⟩, rfl⟩, ?_⟩)))
  · refine WT_break ?_
    have h6 : l.length ≤ i := by simpa using h6
    rw [textF_end l i h6, List.append_nil] at h4
    refine WT_ret rfl rfl rfl rfl ?_
    rw [text, ← h4, ← h3]; rfl
end Uw.Tryd
