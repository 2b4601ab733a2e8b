/- Nz: Sz S1 (merged by merge2.py from the working texts). -/
import Derived.Test.YtkfgbbkcjaalkaaDoorNa
import Derived.Test.YtkfgbbkcjaalkaaDoorNb
import Derived.Test.YtkfgbbkcjaalkaaDoorN4
set_option linter.unusedSimpArgs false
set_option linter.unnecessarySimpa false
set_option linter.unusedVariables false
set_option linter.unusedSectionVars false

/- BACK: what is written is read as it was. -/
set_option linter.unusedVariables false
set_option linter.unusedSimpArgs false
namespace Uw.Tryd
open Go Uw Go.Proofs Go.RowKit

/-! ### numbers -/
theorem ofNat_dig (n : Nat) (h : n < 10) : (UInt8.ofNat (48 + n)).toNat = 48 + n := by
  simp; omega
theorem isDig_of (n : Nat) (h : n < 10) : isDig (UInt8.ofNat (48 + n)) = true := by
  rw [isDig, ofNat_dig n h]; simp; omega
theorem valOf_snoc (l : List UInt8) (b : UInt8) : valOf (l ++ [b]) = 10 * valOf l + (b.toNat - 48) := by
  rw [valOf, valOf, List.foldl_append]; rfl

theorem dec_facts : ∀ (n : Nat), (Lib.decDigits n).all isDig = true ∧ valOf (Lib.decDigits n) = n ∧ 1 ≤ (Lib.decDigits n).length ∧ (1 ≤ n → (Lib.decDigits n).head? ≠ some 48) ∧ ∀ f, n < 10 ^ (f + 1) → (Lib.decDigits n).length ≤ f + 1 := by
  intro n
  induction n using Nat.strongRecOn with
  | _ n ih =>
    by_cases h : n < 10
    · rw [Lib.decDigits, dif_pos h]
      refine ⟨by simp only [List.all_cons, List.all_nil, isDig_of n h]; rfl, ?_, by simp, ?_, by simp⟩
      · show 10 * 0 + ((UInt8.ofNat (48 + n)).toNat - 48) = n
        rw [ofNat_dig n h]; omega
      · intro h1 h2
        simp only [List.head?_cons, Option.some.injEq] at h2
        have := congrArg UInt8.toNat h2
        rw [ofNat_dig n h] at this
        simp at this; omega
    · obtain ⟨a1, a2, a3, a4, a5⟩ := ih (n / 10) (by omega)
      rw [Lib.decDigits, dif_neg h]
      refine ⟨by rw [List.all_append, a1]; simp only [List.all_cons, List.all_nil, isDig_of (n % 10) (by omega)]; rfl, ?_, by simp, ?_, ?_⟩
      · rw [valOf_snoc, a2, ofNat_dig _ (by omega)]; omega
      · intro _ h2
        have h3 : (Lib.decDigits (n / 10)).head? = some 48 := by
          cases hd : Lib.decDigits (n / 10) with
          | nil => rw [hd] at a3; simp at a3
          | cons x r => rw [hd] at h2; simpa using h2
        exact a4 (by omega) h3
      · intro f hf
        cases f with
        | zero => omega
        | succ f =>
          have := a5 f (by rw [Nat.pow_succ] at hf; omega)
          simp; omega

theorem itoa_nn (n : Nat) : Lib.itoa (n : Int) = Lib.decDigits n := by rw [Lib.itoa, if_neg (by omega)]; simp

theorem numb_itoa (n : Nat) (h : n < 10000000) : numb (Lib.itoa (n : Int)) = some n := by
  obtain ⟨a1, a2, a3, a4, a5⟩ := dec_facts n
  rw [itoa_nn, numb_ok _ a1, a2]
  have h7 := a5 6 (by omega)
  rw [badLen]
  by_cases h0 : n = 0
  · subst h0
    rw [Lib.decDigits, dif_pos (by omega)]; rfl
  · have := a4 (by omega)
    simp [this]; exact ⟨by intro e; rw [e] at a3; simp at a3, by omega⟩

theorem itoa_dig (n : Nat) : (Lib.itoa (n : Int)).all isDig = true := by rw [itoa_nn]; exact (dec_facts n).1
theorem itoa_pos (n : Nat) : Lib.itoa (n : Int) ≠ [] := by
  rw [itoa_nn]; intro e
  have := (dec_facts n).2.2.1
  rw [e] at this; simp at this

/-- A word that is a number, and what is behind it. -/
theorem digs_itoa (n : Nat) (r : List UInt8) (hr : ∀ b, r[0]? = some b → isDig b = false) : digs (Lib.itoa (n : Int) ++ r) = (Lib.itoa (n : Int)).length := by
  refine digs_of _ _ (by simp) (by rw [List.take_left]; exact itoa_dig n) ?_
  intro b hb
  rw [List.getElem?_append_right (Nat.le_refl _), Nat.sub_self] at hb
  exact hr b hb

theorem read_sign (n : Nat) (c : UInt8) (r : List UInt8) (hc : isDig c = false) : readR (Lib.itoa (n : Int) ++ c :: r) = if c.toNat = 120 then signedR 1 (Lib.itoa (n : Int)) r
    else if c.toNat = 126 then signedR 2 (Lib.itoa (n : Int)) r else if c.toNat = 33 then signedR 3 (Lib.itoa (n : Int)) r else noSev := by
  have hd := digs_itoa n (c :: r) (fun b hb => by simp at hb; subst hb; exact hc)
  have h1 : (Lib.itoa (n : Int) ++ c :: r)[(Lib.itoa (n : Int)).length]? = some c := by
    rw [List.getElem?_append_right (Nat.le_refl _), Nat.sub_self]; rfl
  have h2 : (Lib.itoa (n : Int) ++ c :: r).drop ((Lib.itoa (n : Int)).length + 1) = r := by
    rw [← List.drop_drop, List.drop_left]; rfl
  rw [readR, hd, h1]
  simp only [List.take_left, h2]

theorem read_step1 (a : Nat) (h : a < 8) : readR (Lib.itoa (a : Int)) = (⟨1, a, 0⟩, 1, true) := by
  have hd := digs_itoa a [] (fun b hb => by simp at hb)
  rw [List.append_nil] at hd
  rw [readR, hd, List.getElem?_eq_none (Nat.le_refl _), numb_itoa a (by omega)]
  simp [h]
theorem read_stepN (a n : Nat) (h : a < 8) (h1 : 1 ≤ n) (h2 : n < 10000000) : readR (Lib.itoa (a : Int) ++ 120 :: Lib.itoa (n : Int)) = ((⟨1, a, 0⟩ : Pick), (n : Int), true) := by
  rw [read_sign a 120 _ (by decide), if_pos (by decide), signedR, numb_itoa a (by omega)]
  simp only
  rw [if_neg (by omega), if_neg (by omega), numb_itoa n h2]
  simp [h1]
theorem read_stall (a b : Nat) (h : a < 8) (h2 : b ≤ 1048576) : readR (Lib.itoa (a : Int) ++ 126 :: Lib.itoa (b : Int)) = (⟨2, a, b⟩, 1, true) := by
  rw [read_sign a 126 _ (by decide), if_neg (by decide), if_pos (by decide), signedR, numb_itoa a (by omega)]
  simp only
  rw [if_neg (by omega), if_neg (by omega), numb_itoa b (by omega)]
  simp [h2]
theorem read_die (a : Nat) (h : a < 8) : readR (Lib.itoa (a : Int) ++ [33]) = (⟨3, a, 0⟩, 1, true) := by
  rw [read_sign a 33 _ (by decide), if_neg (by decide), if_neg (by decide), if_pos (by decide), signedR, numb_itoa a (by omega)]
  simp only
  rw [if_neg (by omega)]
  simp

/-! ### words -/
def clean (w : List UInt8) : Prop := w ≠ [] ∧ ∀ b ∈ w, isBlank b = false

theorem wfold_word (w : List UInt8) (hw : ∀ b ∈ w, isBlank b = false) : ∀ st : List (List UInt8) × List UInt8, w.foldl wstep st = (st.1, st.2 ++ w) := by
  induction w with
  | nil => intro st; simp
  | cons b r ih =>
    intro st
    rw [List.foldl_cons, ih (fun c hc => hw c (List.mem_cons_of_mem _ hc)), wstep, if_neg (by rw [hw b (by simp)]; simp)]
    simp

theorem wfold_join : ∀ (ws : List (List UInt8)), (∀ w ∈ ws, clean w) → ∀ (a : List (List UInt8)), wend ((Lib.join ws [32]).foldl wstep (a, [])) = a ++ ws
  | [], _, a => by simp [Lib.join_nil, wend]
  | [w], h, a => by
    have := h w (by simp)
    rw [Lib.join_one, wfold_word w this.2, wend]
    simp [this.1]
  | w :: v :: r, h, a => by
    have hw := h w (by simp)
    have e : Lib.join (w :: v :: r) [32] = w ++ (32 :: Lib.join (v :: r) [32]) := by
      rw [Lib.join_cons, Lib.join_cons]; simp [Lib.joinTail]
    rw [e, List.foldl_append, List.foldl_cons, wfold_word w hw.2]
    have e2 : wstep (a, [] ++ w) 32 = (a ++ [w], []) := by
      rw [wstep, if_pos (by decide)]
      simp [hw.1]
    rw [show ((a, []) : List (List UInt8) × List UInt8).1 = a from rfl, e2, wfold_join (v :: r) (fun x hx => h x (List.mem_cons_of_mem _ hx)) (a ++ [w])]
    simp

theorem words_join (ws : List (List UInt8)) (h : ∀ w ∈ ws, clean w) : wordsOf (Lib.join ws [32]) = ws := by
  rw [wordsOf, wst, wfold_join ws h]; simp

theorem dig_blank (b : UInt8) (h : isDig b = true) : isBlank b = false := by
  simp [isDig] at h
  simp [isBlank]; omega

theorem itoa_blank (n : Nat) : ∀ b ∈ Lib.itoa (n : Int), isBlank b = false := fun b hb => dig_blank b (List.all_eq_true.1 (itoa_dig n) b hb)

/-! ### picks -/
theorem word_back (l : List Pick) (seats : Int) (hs : seats ≤ 8) (hr : ∀ p ∈ l, right seats p = true) (hl : l.length ≤ 400) (i : Nat) (hi : i < l.length) :
    clean (wordAt l i) ∧ readR (wordAt l i) = (l[i], (nAt l i : Int), true) := by
  have hp := hr l[i] (List.getElem_mem _)
  have hg : l.getD i default = l[i] := by simp [List.getD, hi]
  have hn := nAt_le l i hi
  have hn1 := nAt_pos l i
  simp only [right, Bool.and_eq_true, Bool.or_eq_true, decide_eq_true_eq] at hp
  obtain ⟨⟨h0, h1⟩, h2⟩ := hp
  have one : l[i].kind ≠ 1 → nAt l i = 1 := fun h => by rw [nAt, hg, if_neg h]
  rw [wordAt, hg]
  generalize l[i] = p at h0 h1 h2 one
  obtain ⟨k, a, b⟩ := p
  simp only at h0 h1 h2 one ⊢
  obtain ⟨a, rfl⟩ := Int.eq_ofNat_of_zero_le h0
  have ha : a < 8 := by omega
  by_cases k1 : k = 1
  · subst k1
    have hb : b = 0 := by omega
    subst hb
    rw [if_pos rfl]
    by_cases n1 : nAt l i = 1
    · rw [if_pos n1, n1]
      exact ⟨⟨itoa_pos a, itoa_blank a⟩, read_step1 a ha⟩
    · rw [if_neg n1]
      refine ⟨⟨by simp, ?_⟩, read_stepN a _ ha hn1 (by omega)⟩
      intro b hb
      rw [List.mem_append, List.mem_cons] at hb
      rcases hb with hb | rfl | hb
      · exact itoa_blank a b hb
      · decide
      · exact itoa_blank _ b hb
  · rw [if_neg k1, one k1]
    by_cases k2 : k = 2
    · subst k2
      rw [if_pos rfl]
      obtain ⟨b, rfl⟩ := Int.eq_ofNat_of_zero_le (show 0 ≤ b by omega)
      refine ⟨⟨by simp, ?_⟩, read_stall a b ha (by omega)⟩
      intro c hc
      rw [List.mem_append, List.mem_cons] at hc
      rcases hc with hc | rfl | hc
      · exact itoa_blank a c hc
      · decide
      · exact itoa_blank _ c hc
    · have k3 : k = 3 := by omega
      have hb : b = 0 := by omega
      subst k3 hb
      rw [if_neg (by omega)]
      refine ⟨⟨by simp, ?_⟩, read_die a ha⟩
      intro c hc
      rw [List.mem_append, List.mem_singleton] at hc
      rcases hc with hc | rfl
      · exact itoa_blank a c hc
      · decide

theorem takeWhile_eq_rep {α : Type} [DecidableEq α] (x : α) : ∀ (l : List α), l.takeWhile (fun q => decide (q = x)) = List.replicate (l.takeWhile (fun q => decide (q = x))).length x
  | [] => rfl
  | y :: r => by
    rw [List.takeWhile_cons]
    by_cases h : y = x
    · rw [if_pos (by simp [h]), List.length_cons, List.replicate_succ, h, ← takeWhile_eq_rep x r]
    · rw [if_neg (by simp [h])]; rfl

theorem drop_takeWhile {α : Type} (p : α → Bool) : ∀ (l : List α), l.drop (l.takeWhile p).length = l.dropWhile p
  | [] => rfl
  | y :: r => by
    rw [List.takeWhile_cons, List.dropWhile_cons]
    split
    · rw [List.length_cons, List.drop_succ_cons, drop_takeWhile p r]
    · rfl

theorem nAt_rep (l : List Pick) (i : Nat) (hi : i < l.length) : l.drop i = List.replicate (nAt l i) l[i] ++ l.drop (i + nAt l i) := by
  have hg : l.getD i default = l[i] := by simp [List.getD, hi]
  have hd : l.drop i = l[i] :: l.drop (i + 1) := List.drop_eq_getElem_cons hi
  rw [nAt, hg]
  split
  · have e := takeWhile_eq_rep l[i] (l.drop (i + 1))
    have e2 := (List.takeWhile_append_dropWhile (p := fun q => decide (q = l[i])) (l := l.drop (i + 1))).symm
    have e3 : l.drop (i + (1 + ((l.drop (i + 1)).takeWhile fun q => decide (q = l[i])).length)) = (l.drop (i + 1)).dropWhile fun q => decide (q = l[i]) := by
      rw [← Nat.add_assoc, ← List.drop_drop, drop_takeWhile]
    rw [e3, Nat.add_comm 1, List.replicate_succ, hd, List.cons_append]
    conv => lhs; rw [e2, e]
  · rw [hd]; rfl

theorem expand_back (l : List Pick) (seats : Int) (hs : seats ≤ 8) (hr : ∀ p ∈ l, right seats p = true) (hl : l.length ≤ 400) : ∀ (f i : Nat), l.length ≤ i + f →
    (∀ w ∈ textK l f i, clean w ∧ okW w = true) ∧ expand (textK l f i) = l.drop i
  | 0, i, h => by simp [textK, expand, List.drop_eq_nil_of_le (show l.length ≤ i by omega)]
  | f + 1, i, h => by
    rw [textK]
    by_cases hi : i < l.length
    · rw [if_pos hi]
      have hn1 := nAt_pos l i
      obtain ⟨c1, c2⟩ := word_back l seats hs hr hl i hi
      obtain ⟨e1, e2⟩ := expand_back l seats hs hr hl f (i + nAt l i) (by omega)
      refine ⟨?_, ?_⟩
      · intro w hw
        rw [List.mem_cons] at hw
        rcases hw with rfl | hw
        · exact ⟨c1, by rw [okW, c2]⟩
        · exact e1 w hw
      · rw [expand, List.flatMap_cons, manyW, pickW, c2, nAt_rep l i hi]
        simp only [Int.toNat_natCast]
        rw [← e2]; rfl
    · rw [if_neg hi]
      simp [expand, List.drop_eq_nil_of_le (show l.length ≤ i by omega)]

theorem parse_text (l : List Pick) (seats : Int) (hs : seats ≤ 8) (hr : ∀ p ∈ l, right seats p = true) (hl : l.length ≤ 400) : parse (text l) = (l, 0) := by
  obtain ⟨e1, e2⟩ := expand_back l seats hs hr hl l.length 0 (by omega)
  have hw : wordsOf (text l) = textW l := words_join _ (fun w hw => (e1 w hw).1)
  have ha : (textW l).all okW = true := List.all_eq_true.2 (fun w hw => (e1 w hw).2)
  rw [List.drop_zero] at e2
  have e2 : expand (textW l) = l := e2
  have ht := expand_len (textW l) (textW l).length (Nat.le_refl _) (by rw [List.take_length]; exact ha)
  rw [List.take_length, e2] at ht
  rw [parse, hw, parseP, if_pos ha, if_neg (by omega), e2]; rfl
end Uw.Tryd

/- BACK: the law. -/
set_option linter.unusedVariables false
set_option linter.unusedSimpArgs false
namespace Uw.Tryd
open Go Uw Go.Proofs Go.RowKit

theorem fine_right {seats : Int} (hs : seats ≤ 8) {p : Pick} (h : right seats p = true) : Fine p := by
  simp only [right, Bool.and_eq_true, Bool.or_eq_true, decide_eq_true_eq] at h
  exact ⟨by omega, by omega, by omega, by omega, by omega, by intro; omega⟩

set_option maxRecDepth 4000 in
set_option maxHeartbeats 2000000 in
theorem l_ScriptBack (seats : Int) (l : List Pick) : Ret P0 n_law29_ScriptBack [I seats, picksD l] (.bool true) := by
  have hm : (l.map pickL).length = l.length := by simp
  have sv := s_alive
  have hfin : (∀ p ∈ l, right seats p = true) → l.length ≤ 400 → seats ≤ 8 → ∃ t, Ret P0 n_script_Text [picksD l] (.str t) ∧ Ret P0 n_ref29_Text [picksD l] (.str t) ∧ Ret P0 n_script_Parse [.str t] (resD (l, 0)) ∧ Ret P0 n_ref29_Same [picksD l, picksD l] (.bool true) := by
    intro hr hl hs
    have hf : ∀ p ∈ l, Fine p := fun p hp => fine_right hs (hr p hp)
    have h1 := textK_len l (by omega) hf l.length 0
    have h2 := join_len _ h1.2
    have h3 : (text l).length ≤ 21 * (textK l l.length 0).length := h2
    have hp := s_script_Parse (text l) (by omega)
    rw [parse_text l seats hs hr hl] at hp
    have sm := s_ref29_Same l l (by omega)
    rw [decide_eq_true rfl] at sm
    exact ⟨text l, s_script_Text l (by omega) hf, s_ref29_Text l (by omega) hf, hp, sm⟩
  by_cases hc : l.length ≤ 400 ∧ seats ≤ 8
  · obtain ⟨hl, hs⟩ := hc
    refine Ret_by is_law29_ScriptBack rfl ?_
    ((repeat' ((first | refine WT_same rfl ?_ | refine WT_i64 (by omega) ?_ | refine WT_inR (by simp [inR]; omega) ?_ | refine WT_t rfl ?_ | refine WT_f rfl ?_ | refine WT_ixm (by first | assumption | omega) ?_ | refine WT_ixl (by first | assumption | omega) ?_ | refine WT_elm (by first | assumption | omega) ?_ | refine WT_byt (by first | assumption | omega) ?_ | refine WT_guard (by first | (simp [inR]; done) | (simp [inR]; omega)) ?_ | refine WT_elem _ (map_get _ _ _ (by first | assumption | omega)) ?_ | refine WT_elem _ (by assumption) ?_ | refine WT_yT (by first | assumption | omega | exact rfl) ?_ | refine WT_nT (by first | assumption | omega) ?_ | refine WT_yF (by first | assumption | omega) ?_ | refine WT_nF (by first | assumption | omega | exact rfl) ?_ | refine WT_nyT (by first | assumption | omega) ?_ | refine WT_nnT (by first | assumption | omega | exact rfl) ?_ | refine WT_nyF (by first | assumption | omega | exact rfl) ?_ | refine WT_nnF (by first | assumption | omega) ?_ | refine WT_byT (by assumption) ?_ | refine WT_bnT (by assumption) ?_ | refine WT_byF (by assumption) ?_ | refine WT_bnF (by assumption) ?_ | refine WT_yes (by first | assumption | omega | exact rfl) ?_ | refine WT_no (by first | assumption | omega) ?_ | refine WT_nyes (by first | assumption | omega) ?_ | refine WT_nno (by first | assumption | omega | exact rfl) ?_ | refine WT_ty (by assumption) ?_ | refine WT_f (by assumption) ?_ | refine WT_nby (by assumption) ?_ | refine WT_nbn (by assumption) ?_ | refine WT_call _ (by assumption) ?_ | refine WT_dlen (fun _ => ?_) (fun _ => ?_) | refine WT_dlenK (fun _ => ?_) (fun _ => ?_) | refine WT_decT (fun _ => ?_) (fun _ => ?_) | refine WT_decF (fun _ => ?_) (fun _ => ?_) | refine WT_ndecT (fun _ => ?_) (fun _ => ?_) | refine WT_ndecF (fun _ => ?_) (fun _ => ?_) | refine WT_bT (fun _ => ?_) (fun _ => ?_) | refine WT_bF (fun _ => ?_) (fun _ => ?_) | refine WT_dec (fun _ => ?_) (fun _ => ?_) | refine WT_ndec (fun _ => ?_) (fun _ => ?_) | refine WT_nb (fun _ => ?_) (fun _ => ?_) | refine WT_test (fun _ => ?_) (fun _ => ?_)))))
    refine WT_loop (fun k : Nat => ⟨[(20, .d (I k)), (19, .d (I (l.map pickL).length)), (18, .d (picksD l)), (0, .d (I seats)), (1, .d (picksD l))], [], 0, [], 0⟩)
      (fun k => k ≤ l.length ∧ ∀ p ∈ l.take k, right seats p = true) (fun k => l.length - k) 0 (by ((refine Weak.of ?_ ?_ rfl rfl ?_ rfl rfl <;> repeat' first | exact trivial | refine ⟨⟨_, rfl, Or.inl ⟨rfl, rfl⟩⟩, ?_⟩ | refine ⟨⟨_, rfl, Or.inr (Or.inl ⟨rfl, by first | exact ⟨_, _, rfl, rfl, Or.inl rfl⟩ | exact ⟨_, _, rfl, rfl, Or.inr rfl⟩⟩)⟩, ?_⟩ | refine ⟨⟨_, rfl, Or.inr (Or.inr rfl)⟩, ?_⟩ | refine ⟨⟨_, rfl, VW_int (by assumption)⟩, ?_⟩ | refine ⟨⟨Or.inl ⟨_, rfl, ⟨rfl, rfl⟩⟩, rfl⟩, ?_⟩ | refine ⟨⟨Or.inl ⟨_, rfl, ⟨rfl, rfl, rfl⟩⟩, rfl⟩, ?_⟩ | refine ⟨⟨Or.inl ⟨_, rfl, BSim_by rfl rfl⟩, rfl⟩, ?_⟩ | refine ⟨⟨Or.inr ⟨rfl, rfl⟩, rfl⟩, ?_⟩ | refine ⟨⟨Or.inr ⟨rfl, rfl, rfl⟩, rfl⟩, ?_⟩))) (by simp) ?_
    rintro k ⟨h1, h2⟩
    by_cases hk : k < l.length
    · have hrr := s_script_Right seats l[k]
      clear hfin
      ((repeat' ((first | refine WT_same rfl ?_ | refine WT_i64 (by omega) ?_ | refine WT_inR (by simp [inR]; omega) ?_ | refine WT_t rfl ?_ | refine WT_f rfl ?_ | refine WT_ixm (by first | assumption | omega) ?_ | refine WT_ixl (by first | assumption | omega) ?_ | refine WT_elm (by first | assumption | omega) ?_ | refine WT_byt (by first | assumption | omega) ?_ | refine WT_guard (by first | (simp [inR]; done) | (simp [inR]; omega)) ?_ | refine WT_elem _ (map_get _ _ _ (by first | assumption | omega)) ?_ | refine WT_elem _ (by assumption) ?_ | refine WT_yT (by first | assumption | omega | exact rfl) ?_ | refine WT_nT (by first | assumption | omega) ?_ | refine WT_yF (by first | assumption | omega) ?_ | refine WT_nF (by first | assumption | omega | exact rfl) ?_ | refine WT_nyT (by first | assumption | omega) ?_ | refine WT_nnT (by first | assumption | omega | exact rfl) ?_ | refine WT_nyF (by first | assumption | omega | exact rfl) ?_ | refine WT_nnF (by first | assumption | omega) ?_ | refine WT_byT (by assumption) ?_ | refine WT_bnT (by assumption) ?_ | refine WT_byF (by assumption) ?_ | refine WT_bnF (by assumption) ?_ | refine WT_yes (by first | assumption | omega | exact rfl) ?_ | refine WT_no (by first | assumption | omega) ?_ | refine WT_nyes (by first | assumption | omega) ?_ | refine WT_nno (by first | assumption | omega | exact rfl) ?_ | refine WT_ty (by assumption) ?_ | refine WT_f (by assumption) ?_ | refine WT_nby (by assumption) ?_ | refine WT_nbn (by assumption) ?_ | refine WT_call _ (by assumption) ?_ | refine WT_dlen (fun _ => ?_) (fun _ => ?_) | refine WT_dlenK (fun _ => ?_) (fun _ => ?_) | refine WT_decT (fun _ => ?_) (fun _ => ?_) | refine WT_decF (fun _ => ?_) (fun _ => ?_) | refine WT_ndecT (fun _ => ?_) (fun _ => ?_) | refine WT_ndecF (fun _ => ?_) (fun _ => ?_) | refine WT_bT (fun _ => ?_) (fun _ => ?_) | refine WT_bF (fun _ => ?_) (fun _ => ?_) | refine WT_dec (fun _ => ?_) (fun _ => ?_) | refine WT_ndec (fun _ => ?_) (fun _ => ?_) | refine WT_nb (fun _ => ?_) (fun _ => ?_) | refine WT_test (fun _ => ?_) (fun _ => ?_)))))
      · exact WT_leave (WT_ret rfl rfl rfl rfl rfl)
      · refine WT_again (k + 1) ⟨by omega, ?_⟩ (by omega) (by ((refine Weak.of ?_ ?_ rfl rfl ?_ rfl rfl <;> repeat' first | exact trivial | refine ⟨⟨_, rfl, Or.inl ⟨rfl, rfl⟩⟩, ?_⟩ | refine ⟨⟨_, rfl, Or.inr (Or.inl ⟨rfl, by first | exact ⟨_, _, rfl, rfl, Or.inl rfl⟩ | exact ⟨_, _, rfl, rfl, Or.inr rfl⟩⟩)⟩, ?_⟩ | refine ⟨⟨_, rfl, Or.inr (Or.inr rfl)⟩, ?_⟩ | refine ⟨⟨_, rfl, VW_int (by assumption)⟩, ?_⟩ | refine ⟨⟨Or.inl ⟨_, rfl, ⟨rfl, rfl⟩⟩, rfl⟩, ?_⟩ | refine ⟨⟨Or.inl ⟨_, rfl, ⟨rfl, rfl, rfl⟩⟩, rfl⟩, ?_⟩ | refine ⟨⟨Or.inl ⟨_, rfl, BSim_by rfl rfl⟩, rfl⟩, ?_⟩ | refine ⟨⟨Or.inr ⟨rfl, rfl⟩, rfl⟩, ?_⟩ | refine ⟨⟨Or.inr ⟨rfl, rfl, rfl⟩, rfl⟩, ?_⟩)))
        intro p hp
        rw [take_one l k hk, List.mem_append, List.mem_singleton] at hp
        rcases hp with hp | rfl
        · exact h2 p hp
        · assumption
    · have hall : ∀ p ∈ l, right seats p = true := by rwa [List.take_of_length_le (by omega)] at h2
      obtain ⟨t, q1, q2, q3, q4⟩ := hfin hall hl hs
      clear hfin h2 hall
      ((repeat' ((first | refine WT_same rfl ?_ | refine WT_i64 (by omega) ?_ | refine WT_inR (by simp [inR]; omega) ?_ | refine WT_t rfl ?_ | refine WT_f rfl ?_ | refine WT_ixm (by first | assumption | omega) ?_ | refine WT_ixl (by first | assumption | omega) ?_ | refine WT_elm (by first | assumption | omega) ?_ | refine WT_byt (by first | assumption | omega) ?_ | refine WT_guard (by first | (simp [inR]; done) | (simp [inR]; omega)) ?_ | refine WT_elem _ (map_get _ _ _ (by first | assumption | omega)) ?_ | refine WT_elem _ (by assumption) ?_ | refine WT_yT (by first | assumption | omega | exact rfl) ?_ | refine WT_nT (by first | assumption | omega) ?_ | refine WT_yF (by first | assumption | omega) ?_ | refine WT_nF (by first | assumption | omega | exact rfl) ?_ | refine WT_nyT (by first | assumption | omega) ?_ | refine WT_nnT (by first | assumption | omega | exact rfl) ?_ | refine WT_nyF (by first | assumption | omega | exact rfl) ?_ | refine WT_nnF (by first | assumption | omega) ?_ | refine WT_byT (by assumption) ?_ | refine WT_bnT (by assumption) ?_ | refine WT_byF (by assumption) ?_ | refine WT_bnF (by assumption) ?_ | refine WT_yes (by first | assumption | omega | exact rfl) ?_ | refine WT_no (by first | assumption | omega) ?_ | refine WT_nyes (by first | assumption | omega) ?_ | refine WT_nno (by first | assumption | omega | exact rfl) ?_ | refine WT_ty (by assumption) ?_ | refine WT_f (by assumption) ?_ | refine WT_nby (by assumption) ?_ | refine WT_nbn (by assumption) ?_ | refine WT_call _ (by assumption) ?_ | refine WT_dlen (fun _ => ?_) (fun _ => ?_) | refine WT_dlenK (fun _ => ?_) (fun _ => ?_) | refine WT_decT (fun _ => ?_) (fun _ => ?_) | refine WT_decF (fun _ => ?_) (fun _ => ?_) | refine WT_ndecT (fun _ => ?_) (fun _ => ?_) | refine WT_ndecF (fun _ => ?_) (fun _ => ?_) | refine WT_bT (fun _ => ?_) (fun _ => ?_) | refine WT_bF (fun _ => ?_) (fun _ => ?_) | refine WT_dec (fun _ => ?_) (fun _ => ?_) | refine WT_ndec (fun _ => ?_) (fun _ => ?_) | refine WT_nb (fun _ => ?_) (fun _ => ?_) | refine WT_test (fun _ => ?_) (fun _ => ?_)))))
      exact WT_ret rfl rfl rfl rfl rfl
  · clear hfin
    refine Ret_by is_law29_ScriptBack rfl ?_
    ((repeat' ((first | refine WT_same rfl ?_ | refine WT_i64 (by omega) ?_ | refine WT_inR (by simp [inR]; omega) ?_ | refine WT_t rfl ?_ | refine WT_f rfl ?_ | refine WT_ixm (by first | assumption | omega) ?_ | refine WT_ixl (by first | assumption | omega) ?_ | refine WT_elm (by first | assumption | omega) ?_ | refine WT_byt (by first | assumption | omega) ?_ | refine WT_guard (by first | (simp [inR]; done) | (simp [inR]; omega)) ?_ | refine WT_elem _ (map_get _ _ _ (by first | assumption | omega)) ?_ | refine WT_elem _ (by assumption) ?_ | refine WT_yT (by first | assumption | omega | exact rfl) ?_ | refine WT_nT (by first | assumption | omega) ?_ | refine WT_yF (by first | assumption | omega) ?_ | refine WT_nF (by first | assumption | omega | exact rfl) ?_ | refine WT_nyT (by first | assumption | omega) ?_ | refine WT_nnT (by first | assumption | omega | exact rfl) ?_ | refine WT_nyF (by first | assumption | omega | exact rfl) ?_ | refine WT_nnF (by first | assumption | omega) ?_ | refine WT_byT (by assumption) ?_ | refine WT_bnT (by assumption) ?_ | refine WT_byF (by assumption) ?_ | refine WT_bnF (by assumption) ?_ | refine WT_yes (by first | assumption | omega | exact rfl) ?_ | refine WT_no (by first | assumption | omega) ?_ | refine WT_nyes (by first | assumption | omega) ?_ | refine WT_nno (by first | assumption | omega | exact rfl) ?_ | refine WT_ty (by assumption) ?_ | refine WT_f (by assumption) ?_ | refine WT_nby (by assumption) ?_ | refine WT_nbn (by assumption) ?_ | refine WT_call _ (by assumption) ?_ | refine WT_dlen (fun _ => ?_) (fun _ => ?_) | refine WT_dlenK (fun _ => ?_) (fun _ => ?_) | refine WT_decT (fun _ => ?_) (fun _ => ?_) | refine WT_decF (fun _ => ?_) (fun _ => ?_) | refine WT_ndecT (fun _ => ?_) (fun _ => ?_) | refine WT_ndecF (fun _ => ?_) (fun _ => ?_) | refine WT_bT (fun _ => ?_) (fun _ => ?_) | refine WT_bF (fun _ => ?_) (fun _ => ?_) | refine WT_dec (fun _ => ?_) (fun _ => ?_) | refine WT_ndec (fun _ => ?_) (fun _ => ?_) | refine WT_nb (fun _ => ?_) (fun _ => ?_) | refine WT_test (fun _ => ?_) (fun _ => ?_)))))
    all_goals exact WT_ret rfl rfl rfl rfl rfl
end Uw.Tryd
