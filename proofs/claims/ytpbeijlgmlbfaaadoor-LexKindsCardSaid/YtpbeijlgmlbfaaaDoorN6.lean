/- N6: La Xa Xb Xc Xd (merged by merge2.py from the working texts). -/
import Derived.Test.YtpbeijlgmlbfaaaDoorShelf
import Derived.Test.YtpbeijlgmlbfaaaDoorN5
import Derived.Test.YtpbeijlgmlbfaaaDoorN4
import Derived.Lib.Join
set_option linter.unusedSimpArgs false
set_option linter.unnecessarySimpa false
set_option linter.unusedVariables false
set_option linter.unusedSectionVars false

/- strings.Join. -/
set_option linter.unusedVariables false
set_option linter.unusedSimpArgs false
namespace Uw.Tryd
open Go Uw Go.Proofs Go.RowKit

theorem s_strings_Join (l : List (List UInt8)) (sep : List UInt8) (z : Bool) (hN : l.length ≤ 140737488355328) (hlen : (Lib.join l sep).length ≤ 140737488355328) :
    Ret P0 n_strings_Join [.slice 1 (l.map fun s => [.str s]) z, .str sep] (.str (Lib.join l sep)) := by
  intro w J vs hG hr
  obtain ⟨v, vs', rfl, hv, u, vs'', rfl, hu, hr⟩ := hr
  simp only [RelL] at hr; subst hr
  simp only [RelI] at hu; subst hu
  have none : ∀ (a : Option Addr) (c : Nat), l = [] → Calls P0 n_strings_Join #[.slice a 0 c, .string ⟨sep.toArray⟩] w fun e w' => ∃ v, e = .returned v ∧ RelI w' (fun b o => J b o ∨ (w.heap.size ≤ b ∧ b < w'.heap.size)) (.str (Lib.join l sep)) v ∧ Below w.heap.size w w' := by
    intro a c hl
    subst hl
    refine (Tryd.strings_Join_none a c ⟨sep.toArray⟩ w).mono ?_
    rintro e w' ⟨rfl, rfl⟩
    exact ⟨_, rfl, rfl, Below.refl _ _⟩
  rcases hv with ⟨⟨x, rfl, _⟩, hl⟩ | ⟨b, o, cap, rfl, h2, h3, h4⟩
  · exact none x 0 (by simpa using hl)
  · cases hl : l with
    | nil =>
      have := none (some ⟨b, o, Option.none⟩) cap hl
      simpa [hl] using this
    | cons s0 r0 =>
      rw [← hl]
      have hc : ∀ (j : Nat) (s : List UInt8), l[j]? = some s → w.cell? ⟨b, o + j, Option.none⟩ = some (.string ⟨s.toArray⟩) := by
        intro j s hj
        obtain ⟨_, g⟩ := RelE.get h4 j [.str s] (by simp [hj])
        obtain ⟨v, g1, _, g2⟩ := RelC.get g 0 (.str s) rfl
        simp only [RelI] at g2; subst g2
        simpa using g1
      have hbk : b < w.heap.size := by
        have h0 := hc 0 s0 (by simp [hl])
        by_cases hlt : b < w.heap.size
        · exact hlt
        · have hn : w.heap[b]? = Option.none := Array.getElem?_eq_none (by omega)
          simp [World.cell?, hn] at h0
      have e1 : (l.map fun s => (⟨s.toArray⟩ : ByteArray)).map (·.data.toList) = l := by
        rw [List.map_map]; exact List.map_id'' (fun s => by simp) l
      have key := Tryd.strings_Join b o cap (l.map fun s => (⟨s.toArray⟩ : ByteArray)) ⟨sep.toArray⟩ w (by
        intro j x hj
        rw [List.getElem?_map, Option.map_eq_some_iff] at hj
        obtain ⟨s, h1, rfl⟩ := hj
        exact hc j s h1) hbk (by simpa using hN) (by simpa using h2) (by rw [e1]; simpa using hlen)
      rw [e1] at key
      simp only [List.length_map] at key ⊢
      refine key.mono ?_
      rintro e w' ⟨rfl, hb⟩
      exact ⟨_, rfl, rfl, hb⟩
end Uw.Tryd

/- lex: words of a text, plainly. -/
set_option linter.unusedVariables false
set_option linter.unusedSimpArgs false
namespace Uw.Tryd
open Go Uw

abbrev I (n : Int) : Dat := .int .i64 n
structure Tok where
  kind : Int
  text : List UInt8
  n : Int
  at_ : Int
  deriving DecidableEq, Inhabited
def tokL (t : Tok) : List Dat := [I t.kind, .str t.text, I t.n, I t.at_]
def toksD (l : List Tok) : Dat := .slice 4 (l.map tokL) false

/-- What a byte is: 1 a letter, 2 a digit, 3 _, 4 a blank, 5 a sign, 0 none of these. -/
def cls (c : UInt8) : Nat :=
  if 97 ≤ c.toNat ∧ c.toNat ≤ 122 ∨ 65 ≤ c.toNat ∧ c.toNat ≤ 90 then 1
  else if 48 ≤ c.toNat ∧ c.toNat ≤ 57 then 2
  else if c.toNat = 95 then 3
  else if c.toNat = 9 ∨ c.toNat = 10 ∨ c.toNat = 32 then 4
  else if c.toNat = 40 ∨ c.toNat = 41 ∨ c.toNat = 123 ∨ c.toNat = 125 ∨ c.toNat = 44 ∨ c.toNat = 59 ∨ c.toNat = 46 ∨ c.toNat = 61 ∨ c.toNat = 43 ∨ c.toNat = 45 ∨ c.toNat = 42 ∨ c.toNat = 60 then 5
  else 0

def nameB (c : UInt8) : Bool := decide (cls c = 1) || decide (cls c = 2) || decide (cls c = 3)
def digB (c : UInt8) : Bool := decide (cls c = 2)
/-- What digits come to. -/
def valD (l : List UInt8) : Nat := l.foldl (fun n b => 10 * n + (b.toNat - 48)) 0
/-- Does a letter, or _, come first? -/
def letr (r : List UInt8) : Bool := match r with | [] => false | b :: _ => decide (cls b = 1) || decide (cls b = 3)
def eqq (r : List UInt8) : Bool := match r with | [] => false | b :: _ => decide (b.toNat = 61)

/-- The word with which a text begins: its kind, its length, its number. -/
def tokLen : List UInt8 → Option (Int × Nat × Int)
  | [] => none
  | c :: t =>
    if cls c = 1 then (if 1 + (t.takeWhile nameB).length ≤ 12 then some (1, 1 + (t.takeWhile nameB).length, 0) else none)
    else if cls c = 2 then
      (if 1 + (t.takeWhile digB).length ≤ 10 ∧ ¬ (1 < 1 + (t.takeWhile digB).length ∧ c.toNat = 48) ∧ valD (c :: t.takeWhile digB) < 4294967296 ∧ letr (t.dropWhile digB) = false
        then some (2, 1 + (t.takeWhile digB).length, (valD (c :: t.takeWhile digB) : Nat)) else none)
    else if cls c = 5 then (if c.toNat = 61 ∧ eqq t = true then some (3, 2, 0) else some (3, 1, 0))
    else none

def lexK : Nat → List UInt8 → Int → Option (List Tok)
  | _, [], _ => some []
  | 0, _, _ => none
  | f + 1, c :: t, at_ =>
    if cls c = 4 then lexK f t (at_ + 1)
    else match tokLen (c :: t) with
      | none => none
      | some (k, n, v) => (lexK f ((c :: t).drop n) (at_ + n)).map (⟨k, (c :: t).take n, v, at_⟩ :: ·)
def lexF (r : List UInt8) (at_ : Int) : Option (List Tok) := lexK r.length r at_

theorem takeWhile_le {α : Type} (p : α → Bool) (l : List α) : (l.takeWhile p).length ≤ l.length := (List.takeWhile_prefix (p := p) (l := l)).length_le

theorem tokLen_le {r : List UInt8} {k : Int} {n : Nat} {v : Int} (h : tokLen r = some (k, n, v)) : 1 ≤ n ∧ n ≤ r.length := by
  cases r with
  | nil => simp [tokLen] at h
  | cons c t =>
    have h1 := takeWhile_le nameB t
    have h2 := takeWhile_le digB t
    rw [tokLen] at h
    by_cases a1 : cls c = 1
    · rw [if_pos a1] at h
      split at h
      · simp at h; simp; omega
      · cases h
    · rw [if_neg a1] at h
      by_cases a2 : cls c = 2
      · rw [if_pos a2] at h
        split at h
        · simp only [Option.some.injEq, Prod.mk.injEq] at h; simp only [List.length_cons]; omega
        · cases h
      · rw [if_neg a2] at h
        split at h
        · split at h
          · rename_i h3
            cases t with
            | nil => simp [eqq] at h3
            | cons b u => simp at h; simp; omega
          · simp at h; simp; omega
        · cases h

theorem lexK_enough : ∀ (f g : Nat) (r : List UInt8) (a : Int), r.length ≤ f → r.length ≤ g → lexK f r a = lexK g r a
  | 0, g, [], a, _, _ => by cases g <;> rfl
  | f + 1, g, [], a, _, _ => by cases g <;> rfl
  | 0, _, _ :: _, _, h, _ => by simp at h
  | _ + 1, 0, _ :: _, _, _, h => by simp at h
  | f + 1, g + 1, c :: t, a, h1, h2 => by
    simp only [List.length_cons] at h1 h2
    rw [lexK, lexK]
    by_cases hb : cls c = 4
    · rw [if_pos hb, if_pos hb]; exact lexK_enough f g t (a + 1) (by omega) (by omega)
    · rw [if_neg hb, if_neg hb]
      cases ht : tokLen (c :: t) with
      | none => rfl
      | some x =>
        obtain ⟨k, n, v⟩ := x
        have := tokLen_le ht
        simp only [List.length_cons] at this
        simp only
        rw [lexK_enough f g ((c :: t).drop n) (a + n) (by simp; omega) (by simp; omega)]

theorem lexF_nil (a : Int) : lexF [] a = some [] := rfl
theorem lexF_blank (c : UInt8) (t : List UInt8) (a : Int) (h : cls c = 4) : lexF (c :: t) a = lexF t (a + 1) := by
  rw [lexF, List.length_cons, lexK, if_pos h]; rfl
theorem lexF_none (c : UInt8) (t : List UInt8) (a : Int) (h : cls c ≠ 4) (h2 : tokLen (c :: t) = none) : lexF (c :: t) a = none := by
  rw [lexF, List.length_cons, lexK, if_neg h, h2]
theorem lexF_tok (c : UInt8) (t : List UInt8) (a : Int) (h : cls c ≠ 4) {k : Int} {n : Nat} {v : Int} (h2 : tokLen (c :: t) = some (k, n, v)) : lexF (c :: t) a = (lexF ((c :: t).drop n) (a + n)).map (⟨k, (c :: t).take n, v, a⟩ :: ·) := by
  have := tokLen_le h2
  simp only [List.length_cons] at this
  rw [lexF, List.length_cons, lexK, if_neg h, h2]
  simp only
  rw [lexF, lexK_enough t.length _ ((c :: t).drop n) (a + n) (by simp; omega) (Nat.le_refl _)]

/-- Words of a text, and why not. -/
def wordsR (s : List UInt8) : List Tok × Int := if 4000 < s.length then ([], 2) else match lexF s 0 with | none => ([], 3) | some l => (l, 0)
def wordsD (x : List Tok × Int) : Dat := .tuple [toksD x.1, I x.2]
def showT (l : List Tok) : List UInt8 := Lib.join (l.map (·.text)) [32]
end Uw.Tryd

/- lex: the document's small functions. -/
set_option linter.unusedVariables false
set_option linter.unusedSimpArgs false
namespace Uw.Tryd
open Go Uw

abbrev B8 (c : UInt8) : Dat := .int .u8 (c.toNat : Int)

set_option maxRecDepth 4000 in
set_option maxHeartbeats 2000000 in
theorem s_ref04_class (c : UInt8) : Ret P0 n_ref04_class [B8 c] (I (cls c)) := by
  refine Ret_by is_ref04_class rfl ?_
  ((repeat' ((first | (show WT _ _ (Tree.test _ _ _); first | refine WT_i64 (by omega) ?_ | refine WT_inR (by simp [inR]; omega) ?_ | refine WT_t rfl ?_ | refine WT_f rfl ?_ | refine WT_ixmZ (by first | assumption | omega) ?_ | refine WT_ixZ (by first | assumption | omega) ?_ | refine WT_ixmS (by first | assumption | omega) ?_ | refine WT_ixS (by first | assumption | omega) ?_ | refine WT_ixm (by first | assumption | omega) ?_ | refine WT_ixl (by first | assumption | omega) ?_ | refine WT_guard (by first | (simp [inR]; done) | (simp [inR]; omega)) ?_ | refine WT_yT (by first | assumption | omega | exact rfl) ?_ | refine WT_nT (by first | assumption | omega) ?_ | refine WT_yF (by first | assumption | omega) ?_ | refine WT_nF (by first | assumption | omega | exact rfl) ?_ | refine WT_nyT (by first | assumption | omega) ?_ | refine WT_nnT (by first | assumption | omega | exact rfl) ?_ | refine WT_nyF (by first | assumption | omega | exact rfl) ?_ | refine WT_nnF (by first | assumption | omega) ?_ | refine WT_byT (by assumption) ?_ | refine WT_bnT (by assumption) ?_ | refine WT_byF (by assumption) ?_ | refine WT_bnF (by assumption) ?_ | refine WT_yes (by first | assumption | omega | exact rfl) ?_ | refine WT_no (by first | assumption | omega) ?_ | refine WT_nyes (by first | assumption | omega) ?_ | refine WT_nno (by first | assumption | omega | exact rfl) ?_ | refine WT_ty (by assumption) ?_ | refine WT_f (by assumption) ?_ | refine WT_nby (by assumption) ?_ | refine WT_nbn (by assumption) ?_ | refine WT_dlenS (fun _ => ?_) (fun _ => ?_) | refine WT_dlen (fun _ => ?_) (fun _ => ?_) | refine WT_decT (fun _ => ?_) (fun _ => ?_) | refine WT_decF (fun _ => ?_) (fun _ => ?_) | refine WT_ndecT (fun _ => ?_) (fun _ => ?_) | refine WT_ndecF (fun _ => ?_) (fun _ => ?_) | refine WT_bT (fun _ => ?_) (fun _ => ?_) | refine WT_bF (fun _ => ?_) (fun _ => ?_) | refine WT_dec (fun _ => ?_) (fun _ => ?_) | refine WT_ndec (fun _ => ?_) (fun _ => ?_) | refine WT_nb (fun _ => ?_) (fun _ => ?_) | refine WT_test (fun _ => ?_) (fun _ => ?_)) | (show WT _ _ (Tree.call _ _ _); refine WT_call _ (by assumption) ?_) | (show WT _ _ (Tree.elem _ _ _); first | refine WT_elmZ (by first | assumption | omega) ?_ | refine WT_elmS (by first | assumption | omega) ?_ | refine WT_elm (by first | assumption | omega) ?_ | refine WT_elem _ (map_get _ _ _ (by first | assumption | omega)) ?_ | refine WT_elem _ (by assumption) ?_) | (show WT _ _ (Tree.byte _ _ _); first | refine WT_bytZ (by first | assumption | omega) ?_ | refine WT_bytS (by first | assumption | omega) ?_ | refine WT_byt (by first | assumption | omega) ?_ | refine WT_bytN (by first | assumption | omega) ?_) | (show WT _ _ (Tree.same _ _ _); refine WT_same rfl ?_)))))
  all_goals
    refine WT_ret rfl rfl rfl rfl ?_
    refine congrArg I ?_
    unfold cls
    repeat' split
    all_goals omega
end Uw.Tryd

/- lex: the document's functions. -/
set_option linter.unusedVariables false
set_option linter.unusedSimpArgs false
namespace Uw.Tryd
open Go Uw

/-- Where the word ends that begins a text. -/
def endOf (r : List UInt8) : Nat :=
  match r with
  | [] => 0
  | c :: t => if cls c = 5 then (if c.toNat = 61 ∧ eqq t = true then 2 else 1)
    else if cls c = 1 then 1 + (t.takeWhile nameB).length else 1 + (t.takeWhile digB).length

theorem endOf_sign (c : UInt8) (t : List UInt8) (h : cls c = 5) : endOf (c :: t) = if c.toNat = 61 ∧ eqq t = true then 2 else 1 := by
  rw [endOf, if_pos h]

theorem takeWhile_at {α : Type} (p : α → Bool) (l : List α) (k : Nat) (h : k ≤ l.length) (h1 : ∀ (j : Nat) (hj : j < l.length), j < k → p l[j] = true) (h2 : ∀ b, l[k]? = some b → p b = false) : (l.takeWhile p).length = k := by
  have e : l = l.take k ++ l.drop k := by simp
  have h1' : ∀ a ∈ l.take k, p a = true := by
    intro a ha
    rw [List.mem_take_iff_getElem] at ha
    obtain ⟨j, hj, rfl⟩ := ha
    exact h1 j (by omega) (by omega)
  rw [e, List.takeWhile_append_of_pos h1']
  have : (l.drop k).takeWhile p = [] := by
    cases hd : l.drop k with
    | nil => rfl
    | cons b r =>
      have hb : l[k]? = some b := by
        have := congrArg (fun l => l[0]?) hd
        simpa using this
      rw [List.takeWhile_cons, h2 b hb]; rfl
  rw [this]; simp; omega

theorem eqq_lt (s : List UInt8) (k : Nat) (h : k < s.length) : eqq (s.drop k) = decide (s[k].toNat = 61) := by
  rw [List.drop_eq_getElem_cons h]; rfl
theorem eqq_ge (s : List UInt8) (k : Nat) (h : s.length ≤ k) : eqq (s.drop k) = false := by
  rw [List.drop_eq_nil_of_le h]; rfl

theorem takeWhile_drop (p : UInt8 → Bool) (s : List UInt8) (a j : Nat) (h0 : a ≤ j) (h : j ≤ s.length) (h1 : ∀ (i : Nat) (hi : i < s.length), a ≤ i → i < j → p s[i] = true) (h2 : ∀ (hj : j < s.length), p s[j] = false) : ((s.drop a).takeWhile p).length = j - a := by
  refine takeWhile_at p (s.drop a) (j - a) (by simp; omega) ?_ ?_
  · intro i hi hij
    simp at hi
    rw [List.getElem_drop]
    exact h1 (a + i) (by omega) (by omega) (by omega)
  · intro b hb
    rw [List.getElem?_drop] at hb
    have hlt : j < s.length := by
      have := (List.getElem?_eq_some_iff.1 hb).1; omega
    have := h2 hlt
    rw [List.getElem?_eq_getElem (by omega)] at hb
    injection hb with hb
    simp only [show a + (j - a) = j by omega] at hb
    rw [← hb]; exact this

set_option maxRecDepth 4000 in
set_option maxHeartbeats 2000000 in
theorem s_ref04_end (s : List UInt8) (a : Nat) (hs : s.length < 1000000) (ha : a < s.length) (hc : cls s[a] ≠ 0 ∧ cls s[a] ≠ 4 ∧ cls s[a] ≠ 3) : Ret P0 n_ref04_end [.str s, I a] (I ((a + endOf (s.drop a) : Nat))) := by
  have hd : s.drop a = s[a] :: s.drop (a + 1) := List.drop_eq_getElem_cons ha
  have c0 := s_ref04_class s[a]
  have hk : cls s[a] = 1 ∨ cls s[a] = 2 ∨ cls s[a] = 5 := by
    have : cls s[a] ≤ 5 := by unfold cls; repeat' split
                              all_goals omega
    omega
  have loop : ∀ (p : UInt8 → Bool), (∀ b, p b = (decide (cls b = 2) || (decide (cls s[a] = 1) && (decide (cls b = 1) || decide (cls b = 3))))) → cls s[a] ≠ 5 → endOf (s.drop a) = 1 + ((s.drop (a + 1)).takeWhile p).length → Ret P0 n_ref04_end [.str s, I a] (I ((a + endOf (s.drop a) : Nat))) := by
    intro p hp h5 he
    refine Ret_by is_ref04_end rfl ?_
    ((repeat' ((first | (show WT _ _ (Tree.test _ _ _); first | refine WT_i64 (by omega) ?_ | refine WT_inR (by simp [inR]; omega) ?_ | refine WT_t rfl ?_ | refine WT_f rfl ?_ | refine WT_ixmZ (by first | assumption | omega) ?_ | refine WT_ixZ (by first | assumption | omega) ?_ | refine WT_ixmS (by first | assumption | omega) ?_ | refine WT_ixS (by first | assumption | omega) ?_ | refine WT_ixm (by first | assumption | omega) ?_ | refine WT_ixl (by first | assumption | omega) ?_ | refine WT_guard (by first | (simp [inR]; done) | (simp [inR]; omega)) ?_ | refine WT_yT (by first | assumption | omega | exact rfl) ?_ | refine WT_nT (by first | assumption | omega) ?_ | refine WT_yF (by first | assumption | omega) ?_ | refine WT_nF (by first | assumption | omega | exact rfl) ?_ | refine WT_nyT (by first | assumption | omega) ?_ | refine WT_nnT (by first | assumption | omega | exact rfl) ?_ | refine WT_nyF (by first | assumption | omega | exact rfl) ?_ | refine WT_nnF (by first | assumption | omega) ?_ | refine WT_byT (by assumption) ?_ | refine WT_bnT (by assumption) ?_ | refine WT_byF (by assumption) ?_ | refine WT_bnF (by assumption) ?_ | refine WT_yes (by first | assumption | omega | exact rfl) ?_ | refine WT_no (by first | assumption | omega) ?_ | refine WT_nyes (by first | assumption | omega) ?_ | refine WT_nno (by first | assumption | omega | exact rfl) ?_ | refine WT_ty (by assumption) ?_ | refine WT_f (by assumption) ?_ | refine WT_nby (by assumption) ?_ | refine WT_nbn (by assumption) ?_ | refine WT_dlenS (fun _ => ?_) (fun _ => ?_) | refine WT_dlen (fun _ => ?_) (fun _ => ?_) | refine WT_decT (fun _ => ?_) (fun _ => ?_) | refine WT_decF (fun _ => ?_) (fun _ => ?_) | refine WT_ndecT (fun _ => ?_) (fun _ => ?_) | refine WT_ndecF (fun _ => ?_) (fun _ => ?_) | refine WT_bT (fun _ => ?_) (fun _ => ?_) | refine WT_bF (fun _ => ?_) (fun _ => ?_) | refine WT_dec (fun _ => ?_) (fun _ => ?_) | refine WT_ndec (fun _ => ?_) (fun _ => ?_) | refine WT_nb (fun _ => ?_) (fun _ => ?_) | refine WT_test (fun _ => ?_) (fun _ => ?_)) | (show WT _ _ (Tree.call _ _ _); refine WT_call _ (by assumption) ?_) | (show WT _ _ (Tree.elem _ _ _); first | refine WT_elmZ (by first | assumption | omega) ?_ | refine WT_elmS (by first | assumption | omega) ?_ | refine WT_elm (by first | assumption | omega) ?_ | refine WT_elem _ (map_get _ _ _ (by first | assumption | omega)) ?_ | refine WT_elem _ (by assumption) ?_) | (show WT _ _ (Tree.byte _ _ _); first | refine WT_bytZ (by first | assumption | omega) ?_ | refine WT_bytS (by first | assumption | omega) ?_ | refine WT_byt (by first | assumption | omega) ?_ | refine WT_bytN (by first | assumption | omega) ?_) | (show WT _ _ (Tree.same _ _ _); refine WT_same rfl ?_)))))
    refine WT_loop (fun j : Nat => ⟨[(6, .d (I j)), (5, .d (I (cls s[a]))), (0, .d (.str s))], [], 0, [], 0⟩)
      (fun j => a + 1 ≤ j ∧ j ≤ s.length ∧ ∀ (i : Nat) (hi : i < s.length), a + 1 ≤ i → i < j → p s[i] = true) (fun j => s.length - j) (a + 1) (by ((refine Weak.of ?_ ?_ rfl rfl ?_ rfl rfl <;> repeat' first | exact trivial | refine ⟨⟨_, rfl, Or.inl ⟨rfl, rfl⟩⟩, ?_⟩ | refine ⟨⟨_, rfl, Or.inr (Or.inl ⟨rfl, by first | exact ⟨_, _, rfl, rfl, Or.inl rfl⟩ | exact ⟨_, _, rfl, rfl, Or.inr rfl⟩⟩)⟩, ?_⟩ | refine ⟨⟨_, rfl, Or.inr (Or.inr rfl)⟩, ?_⟩ | refine ⟨⟨_, rfl, VW_int (by assumption)⟩, ?_⟩ | refine ⟨⟨Or.inl ⟨_, rfl, ⟨rfl, rfl⟩⟩, rfl⟩, ?_⟩ | refine ⟨⟨Or.inl ⟨_, rfl, ⟨rfl, rfl, rfl⟩⟩, rfl⟩, ?_⟩ | refine ⟨⟨Or.inl ⟨_, rfl, BSim_by rfl rfl⟩, rfl⟩, ?_⟩ | refine ⟨⟨Or.inr ⟨rfl, rfl⟩, rfl⟩, ?_⟩ | refine ⟨⟨Or.inr ⟨rfl, rfl, rfl⟩, rfl⟩, ?_⟩))) ⟨by omega, by omega, by intros; omega⟩ ?_
    rintro j ⟨h1, h2, h3⟩
    by_cases hj : j < s.length
    · have cj := s_ref04_class s[j]
      have hpj := hp s[j]
      have go : p s[j] = true → ∀ (i : Nat) (hi : i < s.length), a + 1 ≤ i → i < j + 1 → p s[i] = true := by
        intro h i hi hi1 hi2
        by_cases e : i = j
        · subst e; exact h
        · exact h3 i hi hi1 (by omega)
      have stop : p s[j] = false → (j : Int) = ((a + endOf (s.drop a) : Nat) : Int) := by
        intro h
        rw [he, takeWhile_drop p s (a + 1) j h1 h2 h3 (fun _ => h)]; omega
      clear h3 he
      ((repeat' ((first | (show WT _ _ (Tree.test _ _ _); first | refine WT_i64 (by omega) ?_ | refine WT_inR (by simp [inR]; omega) ?_ | refine WT_t rfl ?_ | refine WT_f rfl ?_ | refine WT_ixmZ (by first | assumption | omega) ?_ | refine WT_ixZ (by first | assumption | omega) ?_ | refine WT_ixmS (by first | assumption | omega) ?_ | refine WT_ixS (by first | assumption | omega) ?_ | refine WT_ixm (by first | assumption | omega) ?_ | refine WT_ixl (by first | assumption | omega) ?_ | refine WT_guard (by first | (simp [inR]; done) | (simp [inR]; omega)) ?_ | refine WT_yT (by first | assumption | omega | exact rfl) ?_ | refine WT_nT (by first | assumption | omega) ?_ | refine WT_yF (by first | assumption | omega) ?_ | refine WT_nF (by first | assumption | omega | exact rfl) ?_ | refine WT_nyT (by first | assumption | omega) ?_ | refine WT_nnT (by first | assumption | omega | exact rfl) ?_ | refine WT_nyF (by first | assumption | omega | exact rfl) ?_ | refine WT_nnF (by first | assumption | omega) ?_ | refine WT_byT (by assumption) ?_ | refine WT_bnT (by assumption) ?_ | refine WT_byF (by assumption) ?_ | refine WT_bnF (by assumption) ?_ | refine WT_yes (by first | assumption | omega | exact rfl) ?_ | refine WT_no (by first | assumption | omega) ?_ | refine WT_nyes (by first | assumption | omega) ?_ | refine WT_nno (by first | assumption | omega | exact rfl) ?_ | refine WT_ty (by assumption) ?_ | refine WT_f (by assumption) ?_ | refine WT_nby (by assumption) ?_ | refine WT_nbn (by assumption) ?_ | refine WT_dlenS (fun _ => ?_) (fun _ => ?_) | refine WT_dlen (fun _ => ?_) (fun _ => ?_) | refine WT_decT (fun _ => ?_) (fun _ => ?_) | refine WT_decF (fun _ => ?_) (fun _ => ?_) | refine WT_ndecT (fun _ => ?_) (fun _ => ?_) | refine WT_ndecF (fun _ => ?_) (fun _ => ?_) | refine WT_bT (fun _ => ?_) (fun _ => ?_) | refine WT_bF (fun _ => ?_) (fun _ => ?_) | refine WT_dec (fun _ => ?_) (fun _ => ?_) | refine WT_ndec (fun _ => ?_) (fun _ => ?_) | refine WT_nb (fun _ => ?_) (fun _ => ?_) | refine WT_test (fun _ => ?_) (fun _ => ?_)) | (show WT _ _ (Tree.call _ _ _); refine WT_call _ (by assumption) ?_) | (show WT _ _ (Tree.elem _ _ _); first | refine WT_elmZ (by first | assumption | omega) ?_ | refine WT_elmS (by first | assumption | omega) ?_ | refine WT_elm (by first | assumption | omega) ?_ | refine WT_elem _ (map_get _ _ _ (by first | assumption | omega)) ?_ | refine WT_elem _ (by assumption) ?_) | (show WT _ _ (Tree.byte _ _ _); first | refine WT_bytZ (by first | assumption | omega) ?_ | refine WT_bytS (by first | assumption | omega) ?_ | refine WT_byt (by first | assumption | omega) ?_ | refine WT_bytN (by first | assumption | omega) ?_) | (show WT _ _ (Tree.same _ _ _); refine WT_same rfl ?_)))))
      all_goals first
      | exact WT_again (j + 1) ⟨by omega, by omega, go (by rw [hpj]; simp; omega)⟩ (by omega) (by ((refine Weak.of ?_ ?_ rfl rfl ?_ rfl rfl <;> repeat' first | exact trivial | refine ⟨⟨_, rfl, Or.inl ⟨rfl, rfl⟩⟩, ?_⟩ | refine ⟨⟨_, rfl, Or.inr (Or.inl ⟨rfl, by first | exact ⟨_, _, rfl, rfl, Or.inl rfl⟩ | exact ⟨_, _, rfl, rfl, Or.inr rfl⟩⟩)⟩, ?_⟩ | refine ⟨⟨_, rfl, Or.inr (Or.inr rfl)⟩, ?_⟩ | refine ⟨⟨_, rfl, VW_int (by assumption)⟩, ?_⟩ | refine ⟨⟨Or.inl ⟨_, rfl, ⟨rfl, rfl⟩⟩, rfl⟩, ?_⟩ | refine ⟨⟨Or.inl ⟨_, rfl, ⟨rfl, rfl, rfl⟩⟩, rfl⟩, ?_⟩ | refine ⟨⟨Or.inl ⟨_, rfl, BSim_by rfl rfl⟩, rfl⟩, ?_⟩ | refine ⟨⟨Or.inr ⟨rfl, rfl⟩, rfl⟩, ?_⟩ | refine ⟨⟨Or.inr ⟨rfl, rfl, rfl⟩, rfl⟩, ?_⟩)))
      | exact WT_ret (P := P0) rfl rfl rfl rfl (congrArg I (stop (by rw [hpj]; simp; omega)))
    · have stop : (j : Int) = ((a + endOf (s.drop a) : Nat) : Int) := by
        rw [he, takeWhile_drop p s (a + 1) j h1 h2 h3 (fun hj' => absurd hj' hj)]; omega
      clear h3 he
      ((repeat' ((first | (show WT _ _ (Tree.test _ _ _); first | refine WT_i64 (by omega) ?_ | refine WT_inR (by simp [inR]; omega) ?_ | refine WT_t rfl ?_ | refine WT_f rfl ?_ | refine WT_ixmZ (by first | assumption | omega) ?_ | refine WT_ixZ (by first | assumption | omega) ?_ | refine WT_ixmS (by first | assumption | omega) ?_ | refine WT_ixS (by first | assumption | omega) ?_ | refine WT_ixm (by first | assumption | omega) ?_ | refine WT_ixl (by first | assumption | omega) ?_ | refine WT_guard (by first | (simp [inR]; done) | (simp [inR]; omega)) ?_ | refine WT_yT (by first | assumption | omega | exact rfl) ?_ | refine WT_nT (by first | assumption | omega) ?_ | refine WT_yF (by first | assumption | omega) ?_ | refine WT_nF (by first | assumption | omega | exact rfl) ?_ | refine WT_nyT (by first | assumption | omega) ?_ | refine WT_nnT (by first | assumption | omega | exact rfl) ?_ | refine WT_nyF (by first | assumption | omega | exact rfl) ?_ | refine WT_nnF (by first | assumption | omega) ?_ | refine WT_byT (by assumption) ?_ | refine WT_bnT (by assumption) ?_ | refine WT_byF (by assumption) ?_ | refine WT_bnF (by assumption) ?_ | refine WT_yes (by first | assumption | omega | exact rfl) ?_ | refine WT_no (by first | assumption | omega) ?_ | refine WT_nyes (by first | assumption | omega) ?_ | refine WT_nno (by first | assumption | omega | exact rfl) ?_ | refine WT_ty (by assumption) ?_ | refine WT_f (by assumption) ?_ | refine WT_nby (by assumption) ?_ | refine WT_nbn (by assumption) ?_ | refine WT_dlenS (fun _ => ?_) (fun _ => ?_) | refine WT_dlen (fun _ => ?_) (fun _ => ?_) | refine WT_decT (fun _ => ?_) (fun _ => ?_) | refine WT_decF (fun _ => ?_) (fun _ => ?_) | refine WT_ndecT (fun _ => ?_) (fun _ => ?_) | refine WT_ndecF (fun _ => ?_) (fun _ => ?_) | refine WT_bT (fun _ => ?_) (fun _ => ?_) | refine WT_bF (fun _ => ?_) (fun _ => ?_) | refine WT_dec (fun _ => ?_) (fun _ => ?_) | refine WT_ndec (fun _ => ?_) (fun _ => ?_) | refine WT_nb (fun _ => ?_) (fun _ => ?_) | refine WT_test (fun _ => ?_) (fun _ => ?_)) | (show WT _ _ (Tree.call _ _ _); refine WT_call _ (by assumption) ?_) | (show WT _ _ (Tree.elem _ _ _); first | refine WT_elmZ (by first | assumption | omega) ?_ | refine WT_elmS (by first | assumption | omega) ?_ | refine WT_elm (by first | assumption | omega) ?_ | refine WT_elem _ (map_get _ _ _ (by first | assumption | omega)) ?_ | refine WT_elem _ (by assumption) ?_) | (show WT _ _ (Tree.byte _ _ _); first | refine WT_bytZ (by first | assumption | omega) ?_ | refine WT_bytS (by first | assumption | omega) ?_ | refine WT_byt (by first | assumption | omega) ?_ | refine WT_bytN (by first | assumption | omega) ?_) | (show WT _ _ (Tree.same _ _ _); refine WT_same rfl ?_)))))
      refine WT_ret (P := P0) rfl rfl rfl rfl ?_
      exact congrArg I stop
  rcases hk with hk | hk | hk
  · exact loop nameB (fun b => by simp [nameB, hk]; cases decide (cls b = 1) <;> cases decide (cls b = 2) <;> simp) (by omega) (by rw [hd]; simp [endOf, hk])
  · exact loop digB (fun b => by simp [digB, hk]) (by omega) (by rw [hd]; simp [endOf, hk])
  · clear loop
    refine Ret_by is_ref04_end rfl ?_
    ((repeat' ((first | (show WT _ _ (Tree.test _ _ _); first | refine WT_i64 (by omega) ?_ | refine WT_inR (by simp [inR]; omega) ?_ | refine WT_t rfl ?_ | refine WT_f rfl ?_ | refine WT_ixmZ (by first | assumption | omega) ?_ | refine WT_ixZ (by first | assumption | omega) ?_ | refine WT_ixmS (by first | assumption | omega) ?_ | refine WT_ixS (by first | assumption | omega) ?_ | refine WT_ixm (by first | assumption | omega) ?_ | refine WT_ixl (by first | assumption | omega) ?_ | refine WT_guard (by first | (simp [inR]; done) | (simp [inR]; omega)) ?_ | refine WT_yT (by first | assumption | omega | exact rfl) ?_ | refine WT_nT (by first | assumption | omega) ?_ | refine WT_yF (by first | assumption | omega) ?_ | refine WT_nF (by first | assumption | omega | exact rfl) ?_ | refine WT_nyT (by first | assumption | omega) ?_ | refine WT_nnT (by first | assumption | omega | exact rfl) ?_ | refine WT_nyF (by first | assumption | omega | exact rfl) ?_ | refine WT_nnF (by first | assumption | omega) ?_ | refine WT_byT (by assumption) ?_ | refine WT_bnT (by assumption) ?_ | refine WT_byF (by assumption) ?_ | refine WT_bnF (by assumption) ?_ | refine WT_yes (by first | assumption | omega | exact rfl) ?_ | refine WT_no (by first | assumption | omega) ?_ | refine WT_nyes (by first | assumption | omega) ?_ | refine WT_nno (by first | assumption | omega | exact rfl) ?_ | refine WT_ty (by assumption) ?_ | refine WT_f (by assumption) ?_ | refine WT_nby (by assumption) ?_ | refine WT_nbn (by assumption) ?_ | refine WT_dlenS (fun _ => ?_) (fun _ => ?_) | refine WT_dlen (fun _ => ?_) (fun _ => ?_) | refine WT_decT (fun _ => ?_) (fun _ => ?_) | refine WT_decF (fun _ => ?_) (fun _ => ?_) | refine WT_ndecT (fun _ => ?_) (fun _ => ?_) | refine WT_ndecF (fun _ => ?_) (fun _ => ?_) | refine WT_bT (fun _ => ?_) (fun _ => ?_) | refine WT_bF (fun _ => ?_) (fun _ => ?_) | refine WT_dec (fun _ => ?_) (fun _ => ?_) | refine WT_ndec (fun _ => ?_) (fun _ => ?_) | refine WT_nb (fun _ => ?_) (fun _ => ?_) | refine WT_test (fun _ => ?_) (fun _ => ?_)) | (show WT _ _ (Tree.call _ _ _); refine WT_call _ (by assumption) ?_) | (show WT _ _ (Tree.elem _ _ _); first | refine WT_elmZ (by first | assumption | omega) ?_ | refine WT_elmS (by first | assumption | omega) ?_ | refine WT_elm (by first | assumption | omega) ?_ | refine WT_elem _ (map_get _ _ _ (by first | assumption | omega)) ?_ | refine WT_elem _ (by assumption) ?_) | (show WT _ _ (Tree.byte _ _ _); first | refine WT_bytZ (by first | assumption | omega) ?_ | refine WT_bytS (by first | assumption | omega) ?_ | refine WT_byt (by first | assumption | omega) ?_ | refine WT_bytN (by first | assumption | omega) ?_) | (show WT _ _ (Tree.same _ _ _); refine WT_same rfl ?_)))))
    all_goals
      refine WT_ret (P := P0) rfl rfl rfl rfl ?_
      refine congrArg I ?_
      rw [hd, endOf_sign _ _ hk]
      first
      | rw [if_pos ⟨show s[a].toNat = 61 by omega, show eqq (s.drop (a + 1)) = true by rw [eqq_lt s (a + 1) (by omega)]; exact decide_eq_true (by omega)⟩]; rfl
      | (rw [if_neg (show ¬ (s[a].toNat = 61 ∧ eqq (s.drop (a + 1)) = true) from fun ⟨h1, h2⟩ => by
           first
           | omega
           | (rw [eqq_lt s (a + 1) (by omega)] at h2; have h2 := of_decide_eq_true h2; omega)
           | (rw [eqq_ge s (a + 1) (by omega)] at h2; cases h2))]; rfl)
end Uw.Tryd

/- lex: the document's number and words. -/
set_option linter.unusedVariables false
set_option linter.unusedSimpArgs false
namespace Uw.Tryd
open Go Uw

theorem valD_lt : ∀ (l : List UInt8), l.all digB = true → valD l < 10 ^ l.length := by
  intro l
  suffices h : ∀ (l : List UInt8) (n : Nat), l.all digB = true → l.foldl (fun n b => 10 * n + (b.toNat - 48)) n < (n + 1) * 10 ^ l.length by
    intro hl
    have := h l 0 hl
    simpa [valD] using this
  intro l
  induction l with
  | nil => intro n _; simp
  | cons b r ih =>
    intro n hl
    rw [List.all_cons, Bool.and_eq_true] at hl
    rw [List.foldl_cons]
    refine Nat.lt_of_lt_of_le (ih _ hl.2) ?_
    have hb : b.toNat ≤ 57 := by
      have := hl.1
      simp only [digB, decide_eq_true_eq] at this
      unfold cls at this
      repeat' split at this
      all_goals first | omega | cases this
    rw [List.length_cons, Nat.pow_succ, Nat.mul_comm (10 ^ r.length) 10, ← Nat.mul_assoc]
    exact Nat.mul_le_mul_right _ (by omega)

theorem valD_take (s : List UInt8) (k : Nat) (h : k < s.length) : valD (s.take (k + 1)) = 10 * valD (s.take k) + (s[k].toNat - 48) := by
  rw [take_one s k h, valD, valD, List.foldl_append]; rfl

theorem digB_range {b : UInt8} (h : digB b = true) : 48 ≤ b.toNat ∧ b.toNat ≤ 57 := by
  simp only [digB, decide_eq_true_eq] at h
  unfold cls at h
  repeat' split at h
  all_goals first | omega | cases h

theorem valD_small (s : List UInt8) (k : Nat) (hk : k ≤ 10) (h : s.all digB = true) : valD (s.take k) < 10000000000 := by
  have h0 : (s.take k).all digB = true := List.all_eq_true.2 (fun x hx => List.all_eq_true.1 h x (List.mem_of_mem_take hx))
  have h1 := valD_lt _ h0
  have h2 : 10 ^ (s.take k).length ≤ 10 ^ 10 := Nat.pow_le_pow_right (by omega) (by simp; omega)
  have h3 : (10 : Nat) ^ 10 = 10000000000 := by decide
  omega

def numR (w : List UInt8) : Int := if 10 < w.length ∨ (w.head? = some 48 ∧ 1 < w.length) then -1 else if 4294967296 ≤ valD w then -1 else ((valD w : Nat) : Int)

theorem head_48 (w : List UInt8) (h : 0 < w.length) : (w.head? = some 48) ↔ w[0].toNat = 48 := by
  cases w with
  | nil => simp at h
  | cons b r =>
    simp only [List.head?_cons, Option.some.injEq, List.getElem_cons_zero]
    constructor
    · intro e; rw [e]; rfl
    · intro e; exact UInt8.toNat_inj.1 e

set_option maxRecDepth 4000 in
set_option maxHeartbeats 2000000 in
theorem s_ref04_number (w : List UInt8) (hs : w.length < 1000000) (h0 : 0 < w.length) (hd : w.all digB = true) : Ret P0 n_ref04_number [.str w] (I (numR w)) := by
  have hh := head_48 w h0
  by_cases hb : 10 < w.length ∨ (w.head? = some 48 ∧ 1 < w.length)
  · have e : numR w = -1 := by rw [numR, if_pos hb]
    rw [e]
    rw [hh] at hb
    clear hd
    refine Ret_by is_ref04_number rfl ?_
    ((repeat' ((first | (show WT _ _ (Tree.test _ _ _); first | refine WT_i64 (by omega) ?_ | refine WT_inR (by simp [inR]; omega) ?_ | refine WT_t rfl ?_ | refine WT_f rfl ?_ | refine WT_ixmZ (by first | assumption | omega) ?_ | refine WT_ixZ (by first | assumption | omega) ?_ | refine WT_ixmS (by first | assumption | omega) ?_ | refine WT_ixS (by first | assumption | omega) ?_ | refine WT_ixm (by first | assumption | omega) ?_ | refine WT_ixl (by first | assumption | omega) ?_ | refine WT_guard (by first | (simp [inR]; done) | (simp [inR]; omega)) ?_ | refine WT_yT (by first | assumption | omega | exact rfl) ?_ | refine WT_nT (by first | assumption | omega) ?_ | refine WT_yF (by first | assumption | omega) ?_ | refine WT_nF (by first | assumption | omega | exact rfl) ?_ | refine WT_nyT (by first | assumption | omega) ?_ | refine WT_nnT (by first | assumption | omega | exact rfl) ?_ | refine WT_nyF (by first | assumption | omega | exact rfl) ?_ | refine WT_nnF (by first | assumption | omega) ?_ | refine WT_byT (by assumption) ?_ | refine WT_bnT (by assumption) ?_ | refine WT_byF (by assumption) ?_ | refine WT_bnF (by assumption) ?_ | refine WT_yes (by first | assumption | omega | exact rfl) ?_ | refine WT_no (by first | assumption | omega) ?_ | refine WT_nyes (by first | assumption | omega) ?_ | refine WT_nno (by first | assumption | omega | exact rfl) ?_ | refine WT_ty (by assumption) ?_ | refine WT_f (by assumption) ?_ | refine WT_nby (by assumption) ?_ | refine WT_nbn (by assumption) ?_ | refine WT_dlenS (fun _ => ?_) (fun _ => ?_) | refine WT_dlen (fun _ => ?_) (fun _ => ?_) | refine WT_decT (fun _ => ?_) (fun _ => ?_) | refine WT_decF (fun _ => ?_) (fun _ => ?_) | refine WT_ndecT (fun _ => ?_) (fun _ => ?_) | refine WT_ndecF (fun _ => ?_) (fun _ => ?_) | refine WT_bT (fun _ => ?_) (fun _ => ?_) | refine WT_bF (fun _ => ?_) (fun _ => ?_) | refine WT_dec (fun _ => ?_) (fun _ => ?_) | refine WT_ndec (fun _ => ?_) (fun _ => ?_) | refine WT_nb (fun _ => ?_) (fun _ => ?_) | refine WT_test (fun _ => ?_) (fun _ => ?_)) | (show WT _ _ (Tree.call _ _ _); refine WT_call _ (by assumption) ?_) | (show WT _ _ (Tree.elem _ _ _); first | refine WT_elmZ (by first | assumption | omega) ?_ | refine WT_elmS (by first | assumption | omega) ?_ | refine WT_elm (by first | assumption | omega) ?_ | refine WT_elem _ (map_get _ _ _ (by first | assumption | omega)) ?_ | refine WT_elem _ (by assumption) ?_) | (show WT _ _ (Tree.byte _ _ _); first | refine WT_bytZ (by first | assumption | omega) ?_ | refine WT_bytS (by first | assumption | omega) ?_ | refine WT_byt (by first | assumption | omega) ?_ | refine WT_bytN (by first | assumption | omega) ?_) | (show WT _ _ (Tree.same _ _ _); refine WT_same rfl ?_)))))
    all_goals exact WT_ret (P := P0) rfl rfl rfl rfl rfl
  · have e : numR w = if 4294967296 ≤ valD w then -1 else ((valD w : Nat) : Int) := by rw [numR, if_neg hb]
    rw [e]
    rw [hh] at hb
    have fin : ∀ v : Nat, v = valD w → (4294967296 ≤ v → (-1 : Int) = if 4294967296 ≤ valD w then -1 else ((valD w : Nat) : Int)) ∧ (¬ 4294967296 ≤ v → (v : Int) = if 4294967296 ≤ valD w then -1 else ((valD w : Nat) : Int)) := by
      rintro v rfl
      exact ⟨fun h => by rw [if_pos h], fun h => by rw [if_neg h]⟩
    generalize (if 4294967296 ≤ valD w then -1 else ((valD w : Nat) : Int)) = R at fin
    clear e
    refine Ret_by is_ref04_number rfl ?_
    ((repeat' ((first | (show WT _ _ (Tree.test _ _ _); first | refine WT_i64 (by omega) ?_ | refine WT_inR (by simp [inR]; omega) ?_ | refine WT_t rfl ?_ | refine WT_f rfl ?_ | refine WT_ixmZ (by first | assumption | omega) ?_ | refine WT_ixZ (by first | assumption | omega) ?_ | refine WT_ixmS (by first | assumption | omega) ?_ | refine WT_ixS (by first | assumption | omega) ?_ | refine WT_ixm (by first | assumption | omega) ?_ | refine WT_ixl (by first | assumption | omega) ?_ | refine WT_guard (by first | (simp [inR]; done) | (simp [inR]; omega)) ?_ | refine WT_yT (by first | assumption | omega | exact rfl) ?_ | refine WT_nT (by first | assumption | omega) ?_ | refine WT_yF (by first | assumption | omega) ?_ | refine WT_nF (by first | assumption | omega | exact rfl) ?_ | refine WT_nyT (by first | assumption | omega) ?_ | refine WT_nnT (by first | assumption | omega | exact rfl) ?_ | refine WT_nyF (by first | assumption | omega | exact rfl) ?_ | refine WT_nnF (by first | assumption | omega) ?_ | refine WT_byT (by assumption) ?_ | refine WT_bnT (by assumption) ?_ | refine WT_byF (by assumption) ?_ | refine WT_bnF (by assumption) ?_ | refine WT_yes (by first | assumption | omega | exact rfl) ?_ | refine WT_no (by first | assumption | omega) ?_ | refine WT_nyes (by first | assumption | omega) ?_ | refine WT_nno (by first | assumption | omega | exact rfl) ?_ | refine WT_ty (by assumption) ?_ | refine WT_f (by assumption) ?_ | refine WT_nby (by assumption) ?_ | refine WT_nbn (by assumption) ?_ | refine WT_dlenS (fun _ => ?_) (fun _ => ?_) | refine WT_dlen (fun _ => ?_) (fun _ => ?_) | refine WT_decT (fun _ => ?_) (fun _ => ?_) | refine WT_decF (fun _ => ?_) (fun _ => ?_) | refine WT_ndecT (fun _ => ?_) (fun _ => ?_) | refine WT_ndecF (fun _ => ?_) (fun _ => ?_) | refine WT_bT (fun _ => ?_) (fun _ => ?_) | refine WT_bF (fun _ => ?_) (fun _ => ?_) | refine WT_dec (fun _ => ?_) (fun _ => ?_) | refine WT_ndec (fun _ => ?_) (fun _ => ?_) | refine WT_nb (fun _ => ?_) (fun _ => ?_) | refine WT_test (fun _ => ?_) (fun _ => ?_)) | (show WT _ _ (Tree.call _ _ _); refine WT_call _ (by assumption) ?_) | (show WT _ _ (Tree.elem _ _ _); first | refine WT_elmZ (by first | assumption | omega) ?_ | refine WT_elmS (by first | assumption | omega) ?_ | refine WT_elm (by first | assumption | omega) ?_ | refine WT_elem _ (map_get _ _ _ (by first | assumption | omega)) ?_ | refine WT_elem _ (by assumption) ?_) | (show WT _ _ (Tree.byte _ _ _); first | refine WT_bytZ (by first | assumption | omega) ?_ | refine WT_bytS (by first | assumption | omega) ?_ | refine WT_byt (by first | assumption | omega) ?_ | refine WT_bytN (by first | assumption | omega) ?_) | (show WT _ _ (Tree.same _ _ _); refine WT_same rfl ?_)))))
    all_goals
      refine WT_loop (fun k : Nat => ⟨[(4, .d (I k)), (3, .d (I (valD (w.take k) : Nat))), (0, .d (.str w))], [], 0, [], 0⟩)
        (fun k => k ≤ w.length) (fun k => w.length - k) 0 (by ((refine Weak.of ?_ ?_ rfl rfl ?_ rfl rfl <;> repeat' first | exact trivial | refine ⟨⟨_, rfl, Or.inl ⟨rfl, rfl⟩⟩, ?_⟩ | refine ⟨⟨_, rfl, Or.inr (Or.inl ⟨rfl, by first | exact ⟨_, _, rfl, rfl, Or.inl rfl⟩ | exact ⟨_, _, rfl, rfl, Or.inr rfl⟩⟩)⟩, ?_⟩ | refine ⟨⟨_, rfl, Or.inr (Or.inr rfl)⟩, ?_⟩ | refine ⟨⟨_, rfl, VW_int (by assumption)⟩, ?_⟩ | refine ⟨⟨Or.inl ⟨_, rfl, ⟨rfl, rfl⟩⟩, rfl⟩, ?_⟩ | refine ⟨⟨Or.inl ⟨_, rfl, ⟨rfl, rfl, rfl⟩⟩, rfl⟩, ?_⟩ | refine ⟨⟨Or.inl ⟨_, rfl, BSim_by rfl rfl⟩, rfl⟩, ?_⟩ | refine ⟨⟨Or.inr ⟨rfl, rfl⟩, rfl⟩, ?_⟩ | refine ⟨⟨Or.inr ⟨rfl, rfl, rfl⟩, rfl⟩, ?_⟩))) (by omega) ?_
      intro k hk
      have v1 := valD_small w k (by omega) hd
      by_cases hk2 : k < w.length
      · have v2 := valD_take w k hk2
        have v3 := digB_range (List.all_eq_true.1 hd w[k] (List.getElem_mem _))
        have v4 : 10 * (valD (w.take k) : Int) + (w[k].toNat : Int) - 48 = (valD (w.take (k + 1)) : Nat) := by omega
        ((repeat' ((first | (show WT _ _ (Tree.test _ _ _); first | refine WT_i64 (by omega) ?_ | refine WT_inR (by simp [inR]; omega) ?_ | refine WT_t rfl ?_ | refine WT_f rfl ?_ | refine WT_ixmZ (by first | assumption | omega) ?_ | refine WT_ixZ (by first | assumption | omega) ?_ | refine WT_ixmS (by first | assumption | omega) ?_ | refine WT_ixS (by first | assumption | omega) ?_ | refine WT_ixm (by first | assumption | omega) ?_ | refine WT_ixl (by first | assumption | omega) ?_ | refine WT_guard (by first | (simp [inR]; done) | (simp [inR]; omega)) ?_ | refine WT_yT (by first | assumption | omega | exact rfl) ?_ | refine WT_nT (by first | assumption | omega) ?_ | refine WT_yF (by first | assumption | omega) ?_ | refine WT_nF (by first | assumption | omega | exact rfl) ?_ | refine WT_nyT (by first | assumption | omega) ?_ | refine WT_nnT (by first | assumption | omega | exact rfl) ?_ | refine WT_nyF (by first | assumption | omega | exact rfl) ?_ | refine WT_nnF (by first | assumption | omega) ?_ | refine WT_byT (by assumption) ?_ | refine WT_bnT (by assumption) ?_ | refine WT_byF (by assumption) ?_ | refine WT_bnF (by assumption) ?_ | refine WT_yes (by first | assumption | omega | exact rfl) ?_ | refine WT_no (by first | assumption | omega) ?_ | refine WT_nyes (by first | assumption | omega) ?_ | refine WT_nno (by first | assumption | omega | exact rfl) ?_ | refine WT_ty (by assumption) ?_ | refine WT_f (by assumption) ?_ | refine WT_nby (by assumption) ?_ | refine WT_nbn (by assumption) ?_ | refine WT_dlenS (fun _ => ?_) (fun _ => ?_) | refine WT_dlen (fun _ => ?_) (fun _ => ?_) | refine WT_decT (fun _ => ?_) (fun _ => ?_) | refine WT_decF (fun _ => ?_) (fun _ => ?_) | refine WT_ndecT (fun _ => ?_) (fun _ => ?_) | refine WT_ndecF (fun _ => ?_) (fun _ => ?_) | refine WT_bT (fun _ => ?_) (fun _ => ?_) | refine WT_bF (fun _ => ?_) (fun _ => ?_) | refine WT_dec (fun _ => ?_) (fun _ => ?_) | refine WT_ndec (fun _ => ?_) (fun _ => ?_) | refine WT_nb (fun _ => ?_) (fun _ => ?_) | refine WT_test (fun _ => ?_) (fun _ => ?_)) | (show WT _ _ (Tree.call _ _ _); refine WT_call _ (by assumption) ?_) | (show WT _ _ (Tree.elem _ _ _); first | refine WT_elmZ (by first | assumption | omega) ?_ | refine WT_elmS (by first | assumption | omega) ?_ | refine WT_elm (by first | assumption | omega) ?_ | refine WT_elem _ (map_get _ _ _ (by first | assumption | omega)) ?_ | refine WT_elem _ (by assumption) ?_) | (show WT _ _ (Tree.byte _ _ _); first | refine WT_bytZ (by first | assumption | omega) ?_ | refine WT_bytS (by first | assumption | omega) ?_ | refine WT_byt (by first | assumption | omega) ?_ | refine WT_bytN (by first | assumption | omega) ?_) | (show WT _ _ (Tree.same _ _ _); refine WT_same rfl ?_)))))
        exact WT_again (k + 1) (by omega) (by omega) (by ((refine Weak.of ?_ ?_ rfl rfl ?_ rfl rfl <;> repeat' first | exact trivial | refine ⟨⟨_, rfl, Or.inl ⟨rfl, rfl⟩⟩, ?_⟩ | refine ⟨⟨_, rfl, Or.inr (Or.inl ⟨rfl, by first | exact ⟨_, _, rfl, rfl, Or.inl rfl⟩ | exact ⟨_, _, rfl, rfl, Or.inr rfl⟩⟩)⟩, ?_⟩ | refine ⟨⟨_, rfl, Or.inr (Or.inr rfl)⟩, ?_⟩ | refine ⟨⟨_, rfl, VW_int (by assumption)⟩, ?_⟩ | refine ⟨⟨Or.inl ⟨_, rfl, ⟨rfl, rfl⟩⟩, rfl⟩, ?_⟩ | refine ⟨⟨Or.inl ⟨_, rfl, ⟨rfl, rfl, rfl⟩⟩, rfl⟩, ?_⟩ | refine ⟨⟨Or.inl ⟨_, rfl, BSim_by rfl rfl⟩, rfl⟩, ?_⟩ | refine ⟨⟨Or.inr ⟨rfl, rfl⟩, rfl⟩, ?_⟩ | refine ⟨⟨Or.inr ⟨rfl, rfl, rfl⟩, rfl⟩, ?_⟩)))
      · obtain ⟨f1, f2⟩ := fin (valD (w.take k)) (by rw [List.take_of_length_le (by omega)])
        clear fin
        ((repeat' ((first | (show WT _ _ (Tree.test _ _ _); first | refine WT_i64 (by omega) ?_ | refine WT_inR (by simp [inR]; omega) ?_ | refine WT_t rfl ?_ | refine WT_f rfl ?_ | refine WT_ixmZ (by first | assumption | omega) ?_ | refine WT_ixZ (by first | assumption | omega) ?_ | refine WT_ixmS (by first | assumption | omega) ?_ | refine WT_ixS (by first | assumption | omega) ?_ | refine WT_ixm (by first | assumption | omega) ?_ | refine WT_ixl (by first | assumption | omega) ?_ | refine WT_guard (by first | (simp [inR]; done) | (simp [inR]; omega)) ?_ | refine WT_yT (by first | assumption | omega | exact rfl) ?_ | refine WT_nT (by first | assumption | omega) ?_ | refine WT_yF (by first | assumption | omega) ?_ | refine WT_nF (by first | assumption | omega | exact rfl) ?_ | refine WT_nyT (by first | assumption | omega) ?_ | refine WT_nnT (by first | assumption | omega | exact rfl) ?_ | refine WT_nyF (by first | assumption | omega | exact rfl) ?_ | refine WT_nnF (by first | assumption | omega) ?_ | refine WT_byT (by assumption) ?_ | refine WT_bnT (by assumption) ?_ | refine WT_byF (by assumption) ?_ | refine WT_bnF (by assumption) ?_ | refine WT_yes (by first | assumption | omega | exact rfl) ?_ | refine WT_no (by first | assumption | omega) ?_ | refine WT_nyes (by first | assumption | omega) ?_ | refine WT_nno (by first | assumption | omega | exact rfl) ?_ | refine WT_ty (by assumption) ?_ | refine WT_f (by assumption) ?_ | refine WT_nby (by assumption) ?_ | refine WT_nbn (by assumption) ?_ | refine WT_dlenS (fun _ => ?_) (fun _ => ?_) | refine WT_dlen (fun _ => ?_) (fun _ => ?_) | refine WT_decT (fun _ => ?_) (fun _ => ?_) | refine WT_decF (fun _ => ?_) (fun _ => ?_) | refine WT_ndecT (fun _ => ?_) (fun _ => ?_) | refine WT_ndecF (fun _ => ?_) (fun _ => ?_) | refine WT_bT (fun _ => ?_) (fun _ => ?_) | refine WT_bF (fun _ => ?_) (fun _ => ?_) | refine WT_dec (fun _ => ?_) (fun _ => ?_) | refine WT_ndec (fun _ => ?_) (fun _ => ?_) | refine WT_nb (fun _ => ?_) (fun _ => ?_) | refine WT_test (fun _ => ?_) (fun _ => ?_)) | (show WT _ _ (Tree.call _ _ _); refine WT_call _ (by assumption) ?_) | (show WT _ _ (Tree.elem _ _ _); first | refine WT_elmZ (by first | assumption | omega) ?_ | refine WT_elmS (by first | assumption | omega) ?_ | refine WT_elm (by first | assumption | omega) ?_ | refine WT_elem _ (map_get _ _ _ (by first | assumption | omega)) ?_ | refine WT_elem _ (by assumption) ?_) | (show WT _ _ (Tree.byte _ _ _); first | refine WT_bytZ (by first | assumption | omega) ?_ | refine WT_bytS (by first | assumption | omega) ?_ | refine WT_byt (by first | assumption | omega) ?_ | refine WT_bytN (by first | assumption | omega) ?_) | (show WT _ _ (Tree.same _ _ _); refine WT_same rfl ?_)))))
        · exact WT_ret (P := P0) rfl rfl rfl rfl (congrArg I (f1 (by omega)))
        · exact WT_ret (P := P0) rfl rfl rfl rfl (congrArg I (f2 (by omega)))
end Uw.Tryd
