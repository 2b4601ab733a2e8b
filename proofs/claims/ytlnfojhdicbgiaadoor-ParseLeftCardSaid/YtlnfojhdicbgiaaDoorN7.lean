/- N7: Xa Xb Xc Xd Xe Xf Xg Xh Xi Xj Xm (merged by merge2.py from the working texts). -/
import Derived.Test.YtlnfojhdicbgiaaDoorN6
import Derived.Test.YtlnfojhdicbgiaaDoorN4
import Derived.Lib.Join
import Derived.Test.YtlnfojhdicbgiaaDoorN5
import Derived.Test.YtlnfojhdicbgiaaDoorShelf
import Derived.Lib.AtoiErrMem
set_option maxRecDepth 4000
set_option maxHeartbeats 2000000
set_option linter.unusedSimpArgs false
set_option linter.unnecessarySimpa false
set_option linter.unusedVariables false
set_option linter.unusedSectionVars false
namespace Uw.Tryd
open Go Uw
abbrev I (n : Int) : Dat := .int .i64 n
structure Tok where
 kind : Int
 text : List UInt8
 n : Int
 at_ : Int
 deriving DecidableEq, Inhabited
def tokL (t : Tok) : List Dat := [I t.kind, .str t.text, I t.n, I t.at_]
def toksD (l : List Tok) : Dat := .slice 4 (l.map tokL) false
def cls (c : UInt8) : Nat :=
 if 97 ≤ c.toNat ∧ c.toNat ≤ 122 ∨ 65 ≤ c.toNat ∧ c.toNat ≤ 90 then 1
 else if 48 ≤ c.toNat ∧ c.toNat ≤ 57 then 2
 else if c.toNat = 95 then 3
 else if c.toNat = 9 ∨ c.toNat = 10 ∨ c.toNat = 32 then 4
 else if c.toNat = 40 ∨ c.toNat = 41 ∨ c.toNat = 123 ∨ c.toNat = 125 ∨ c.toNat = 44 ∨ c.toNat = 59 ∨ c.toNat = 46 ∨ c.toNat = 61 ∨ c.toNat = 43 ∨ c.toNat = 45 ∨ c.toNat = 42 ∨ c.toNat = 60 then 5
 else 0
def nameB (c : UInt8) : Bool := decide (cls c = 1) || decide (cls c = 2) || decide (cls c = 3)
def digB (c : UInt8) : Bool := decide (cls c = 2)
def valD (l : List UInt8) : Nat := l.foldl (fun n b => 10 * n + (b.toNat - 48)) 0
def letr (r : List UInt8) : Bool := match r with | [] => false | b :: _ => decide (cls b = 1) || decide (cls b = 3)
def eqq (r : List UInt8) : Bool := match r with | [] => false | b :: _ => decide (b.toNat = 61)
def tokLen : List UInt8 → Option (Int × Nat × Int)
 | [] => none
 | c :: t =>
   if cls c = 1 then (if 1 + (t.takeWhile nameB).length ≤ 12 then some (1, 1 + (t.takeWhile nameB).length, 0) else none)
   else if cls c = 2 then
     (if 1 + (t.takeWhile digB).length ≤ 10 ∧ ¬ (1 < 1 + (t.takeWhile digB).length ∧ c.toNat = 48) ∧ valD (c :: t.takeWhile digB) < 4294967296 ∧ letr (t.dropWhile digB) = false
       then some (2, 1 + (t.takeWhile digB).length, (valD (c :: t.takeWhile digB) : Nat)) else none)
   else if cls c = 5 then (if c.toNat = 61 ∧ eqq t = true then some (3, 2, 0) else some (3, 1, 0))
   else none
def lexK : Nat → List UInt8 → Int → Option (List Tok)
 | _, [], _ => some []
 | 0, _, _ => none
 | f + 1, c :: t, at_ =>
   if cls c = 4 then lexK f t (at_ + 1)
   else match tokLen (c :: t) with
     | none => none
     | some (k, n, v) => (lexK f ((c :: t).drop n) (at_ + n)).map (⟨k, (c :: t).take n, v, at_⟩ :: ·)
def lexF (r : List UInt8) (at_ : Int) : Option (List Tok) := lexK r.length r at_
theorem takeWhile_le {α : Type} (p : α → Bool) (l : List α) : (l.takeWhile p).length ≤ l.length := (List.takeWhile_prefix (p := p) (l := l)).length_le
theorem tokLen_le {r : List UInt8} {k : Int} {n : Nat} {v : Int} (h : tokLen r = some (k, n, v)) : 1 ≤ n ∧ n ≤ r.length := by
 cases r with
 | nil => simp [tokLen] at h
 | cons c t =>
   have h1 := takeWhile_le nameB t
   have h2 := takeWhile_le digB t
   rw [tokLen] at h
   by_cases a1 : cls c = 1
   · rw [if_pos a1] at h
     split at h
     · simp at h; simp; omega
     · cases h
   · rw [if_neg a1] at h
     by_cases a2 : cls c = 2
     · rw [if_pos a2] at h
       split at h
       · simp only [Option.some.injEq, Prod.mk.injEq] at h; simp only [List.length_cons]; omega
       · cases h
     · rw [if_neg a2] at h
       split at h
       · split at h
         · rename_i h3
           cases t with
           | nil => simp [eqq] at h3
           | cons b u => simp at h; simp; omega
         · simp at h; simp; omega
       · cases h
theorem lexK_enough : ∀ (f g : Nat) (r : List UInt8) (a : Int), r.length ≤ f → r.length ≤ g → lexK f r a = lexK g r a
 | 0, g, [], a, _, _ => by cases g <;> rfl
 | f + 1, g, [], a, _, _ => by cases g <;> rfl
 | 0, _, _ :: _, _, h, _ => by simp at h
 | _ + 1, 0, _ :: _, _, _, h => by simp at h
 | f + 1, g + 1, c :: t, a, h1, h2 => by
   simp only [List.length_cons] at h1 h2
   rw [lexK, lexK]
   by_cases hb : cls c = 4
   · rw [if_pos hb, if_pos hb]; exact lexK_enough f g t (a + 1) (by omega) (by omega)
   · rw [if_neg hb, if_neg hb]
     cases ht : tokLen (c :: t) with
     | none => rfl
     | some x =>
       obtain ⟨k, n, v⟩ := x
       have := tokLen_le ht
       simp only [List.length_cons] at this
       simp only
       rw [lexK_enough f g ((c :: t).drop n) (a + n) (by simp; omega) (by simp; omega)]
theorem lexF_nil (a : Int) : lexF [] a = some [] := rfl
theorem lexF_blank (c : UInt8) (t : List UInt8) (a : Int) (h : cls c = 4) : lexF (c :: t) a = lexF t (a + 1) := by
 rw [lexF, List.length_cons, lexK, if_pos h]; rfl
theorem lexF_none (c : UInt8) (t : List UInt8) (a : Int) (h : cls c ≠ 4) (h2 : tokLen (c :: t) = none) : lexF (c :: t) a = none := by
 rw [lexF, List.length_cons, lexK, if_neg h, h2]
theorem lexF_tok (c : UInt8) (t : List UInt8) (a : Int) (h : cls c ≠ 4) {k : Int} {n : Nat} {v : Int} (h2 : tokLen (c :: t) = some (k, n, v)) : lexF (c :: t) a = (lexF ((c :: t).drop n) (a + n)).map (⟨k, (c :: t).take n, v, a⟩ :: ·) := by
 have := tokLen_le h2
 simp only [List.length_cons] at this
 rw [lexF, List.length_cons, lexK, if_neg h, h2]
 simp only
 rw [lexF, lexK_enough t.length _ ((c :: t).drop n) (a + n) (by simp; omega) (Nat.le_refl _)]
def wordsR (s : List UInt8) : List Tok × Int := if 4000 < s.length then ([], 2) else match lexF s 0 with | none => ([], 3) | some l => (l, 0)
def wordsD (x : List Tok × Int) : Dat := .tuple [toksD x.1, I x.2]
end Uw.Tryd
namespace Uw.Tryd
open Go Uw
end Uw.Tryd
namespace Uw.Tryd
open Go Uw
def endOf (r : List UInt8) : Nat :=
 match r with
 | [] => 0
 | c :: t => if cls c = 5 then (if c.toNat = 61 ∧ eqq t = true then 2 else 1)
   else if cls c = 1 then 1 + (t.takeWhile nameB).length else 1 + (t.takeWhile digB).length
theorem endOf_sign (c : UInt8) (t : List UInt8) (h : cls c = 5) : endOf (c :: t) = if c.toNat = 61 ∧ eqq t = true then 2 else 1 := by
 rw [endOf, if_pos h]
theorem takeWhile_at {α : Type} (p : α → Bool) (l : List α) (k : Nat) (h : k ≤ l.length) (h1 : ∀ (j : Nat) (hj : j < l.length), j < k → p l[j] = true) (h2 : ∀ b, l[k]? = some b → p b = false) : (l.takeWhile p).length = k := by
 have e : l = l.take k ++ l.drop k := by simp
 have h1' : ∀ a ∈ l.take k, p a = true := by
   intro a ha
   rw [List.mem_take_iff_getElem] at ha
   obtain ⟨j, hj, rfl⟩ := ha
   exact h1 j (by omega) (by omega)
 rw [e, List.takeWhile_append_of_pos h1']
 have : (l.drop k).takeWhile p = [] := by
   cases hd : l.drop k with
   | nil => rfl
   | cons b r =>
     have hb : l[k]? = some b := by
       have := congrArg (fun l => l[0]?) hd
       simpa using this
     rw [List.takeWhile_cons, h2 b hb]; rfl
 rw [this]; simp; omega
end Uw.Tryd
namespace Uw.Tryd
open Go Uw
theorem digB_range {b : UInt8} (h : digB b = true) : 48 ≤ b.toNat ∧ b.toNat ≤ 57 := by
 simp only [digB, decide_eq_true_eq] at h
 unfold cls at h
 repeat' split at h
 all_goals first | omega | cases h
def numR (w : List UInt8) : Int := if 10 < w.length ∨ (w.head? = some 48 ∧ 1 < w.length) then -1 else if 4294967296 ≤ valD w then -1 else ((valD w : Nat) : Int)
theorem head_48 (w : List UInt8) (h : 0 < w.length) : (w.head? = some 48) ↔ w[0].toNat = 48 := by
 cases w with
 | nil => simp at h
 | cons b r =>
   simp only [List.head?_cons, Option.some.injEq, List.getElem_cons_zero]
   constructor
   · intro e; rw [e]; rfl
   · intro e; exact UInt8.toNat_inj.1 e
end Uw.Tryd
namespace Uw.Tryd
open Go Uw
theorem tokLen_name (c : UInt8) (t : List UInt8) (h : cls c = 1) : tokLen (c :: t) = if endOf (c :: t) ≤ 12 then some (1, endOf (c :: t), 0) else none := by
 have e : endOf (c :: t) = 1 + (t.takeWhile nameB).length := by simp [endOf, h]
 rw [tokLen, if_pos h, e]
theorem tokLen_sign (c : UInt8) (t : List UInt8) (h : cls c = 5) : tokLen (c :: t) = some (3, endOf (c :: t), 0) := by
 rw [tokLen, if_neg (by omega), if_neg (by omega), if_pos h, endOf_sign c t h]
 split <;> rfl
theorem tokLen_other (c : UInt8) (t : List UInt8) (h : cls c ≠ 1) (h2 : cls c ≠ 2) (h3 : cls c ≠ 5) : tokLen (c :: t) = none := by
 rw [tokLen, if_neg h, if_neg h2, if_neg h3]
theorem endOf_dig (c : UInt8) (t : List UInt8) (h : cls c = 2) : endOf (c :: t) = 1 + (t.takeWhile digB).length := by simp [endOf, h]
theorem drop_takeWhile {α : Type} (p : α → Bool) : ∀ (l : List α), l.drop (l.takeWhile p).length = l.dropWhile p
 | [] => rfl
 | y :: r => by
   rw [List.takeWhile_cons, List.dropWhile_cons]
   split
   · rw [List.length_cons, List.drop_succ_cons, drop_takeWhile p r]
   · rfl
theorem take_takeWhile {α : Type} (p : α → Bool) : ∀ (l : List α), l.take (l.takeWhile p).length = l.takeWhile p
 | [] => rfl
 | y :: r => by
   rw [List.takeWhile_cons]
   split
   · rw [List.length_cons, List.take_succ_cons, take_takeWhile p r]
   · rfl
theorem take_dig (c : UInt8) (t : List UInt8) (h : cls c = 2) : (c :: t).take (endOf (c :: t)) = c :: t.takeWhile digB := by
 rw [endOf_dig c t h, Nat.add_comm, List.take_succ_cons, take_takeWhile]
theorem drop_dig (c : UInt8) (t : List UInt8) (h : cls c = 2) : (c :: t).drop (endOf (c :: t)) = t.dropWhile digB := by
 rw [endOf_dig c t h, Nat.add_comm, List.drop_succ_cons, drop_takeWhile]
theorem all_takeWhile {α : Type} (p : α → Bool) (l : List α) : (l.takeWhile p).all p = true := by
 induction l with
 | nil => rfl
 | cons y r ih =>
   rw [List.takeWhile_cons]
   split
   · rename_i h; simp [h]
   · rfl
theorem all_dig (c : UInt8) (t : List UInt8) (h : cls c = 2) : ((c :: t).take (endOf (c :: t))).all digB = true := by
 rw [take_dig c t h, List.all_cons, all_takeWhile]; simp [digB, h]
theorem tokLen_dig (c : UInt8) (t : List UInt8) (h : cls c = 2) : tokLen (c :: t) = if 0 ≤ numR ((c :: t).take (endOf (c :: t))) ∧ letr ((c :: t).drop (endOf (c :: t))) = false then some (2, endOf (c :: t), numR ((c :: t).take (endOf (c :: t)))) else none := by
 rw [tokLen, if_neg (by omega), if_pos h, take_dig c t h, drop_dig c t h, endOf_dig c t h]
 have hc : (c.toNat = 48) ↔ ((c :: t.takeWhile digB).head? = some 48) := by rw [head_48 _ (by simp)]; rfl
 have n1 : (10 < (t.takeWhile digB).length + 1 ∨ c.toNat = 48 ∧ 1 < (t.takeWhile digB).length + 1) → numR (c :: t.takeWhile digB) = -1 := fun h => by
   rw [numR, if_pos (by rw [← hc]; exact h)]
 have n2 : ¬ (10 < (t.takeWhile digB).length + 1 ∨ c.toNat = 48 ∧ 1 < (t.takeWhile digB).length + 1) → numR (c :: t.takeWhile digB) = if 4294967296 ≤ valD (c :: t.takeWhile digB) then -1 else ((valD (c :: t.takeWhile digB) : Nat) : Int) := fun h => by
   rw [numR, if_neg (by rw [← hc]; exact h)]
 generalize numR (c :: t.takeWhile digB) = R at n1 n2
 by_cases h1 : 1 + (t.takeWhile digB).length ≤ 10 ∧ ¬ (1 < 1 + (t.takeWhile digB).length ∧ c.toNat = 48)
 · have n2 := n2 (by omega)
   by_cases h2 : valD (c :: t.takeWhile digB) < 4294967296
   · rw [if_neg (by omega)] at n2
     by_cases h3 : letr (t.dropWhile digB) = false
     · rw [if_pos ⟨h1.1, h1.2, h2, h3⟩, if_pos ⟨by omega, h3⟩, n2]
     · rw [if_neg (fun h => h3 h.2.2.2), if_neg (fun h => h3 h.2)]
   · rw [if_pos (by omega)] at n2
     rw [if_neg (fun h => h2 h.2.2.1), if_neg (fun h => by have := h.1; omega)]
 · have n1 := n1 (by omega)
   rw [if_neg (fun h => h1 ⟨h.1, h.2.1⟩), if_neg (fun h => by have := h.1; omega)]
theorem endOf_le (c : UInt8) (t : List UInt8) : 1 ≤ endOf (c :: t) ∧ endOf (c :: t) ≤ t.length + 1 := by
 have h1 := takeWhile_le nameB t
 have h2 := takeWhile_le digB t
 rw [endOf]
 split
 · split
   · rename_i h
     cases t with
     | nil => simp [eqq] at h
     | cons b r => simp
   · omega
 · split <;> omega
def Read (s : List UInt8) (a : Nat) (out : List Tok) : Prop := lexF s 0 = (lexF (s.drop a) (a : Int)).map (out ++ ·)
theorem Read.init (s : List UInt8) : Read s 0 [] := by
 rw [Read, List.drop_zero]; simp
theorem Read.blank {s : List UInt8} {a : Nat} {out : List Tok} (h : Read s a out) (ha : a < s.length) (hb : cls s[a] = 4) : Read s (a + 1) out := by
 rw [Read, List.drop_eq_getElem_cons ha, lexF_blank _ _ _ hb] at h
 rw [Read, h]; rfl
theorem Read.none {s : List UInt8} {a : Nat} {out : List Tok} (h : Read s a out) (ha : a < s.length) (hb : cls s[a] ≠ 4) (ht : tokLen (s.drop a) = none) : lexF s 0 = none := by
 rw [Read] at h; rw [h]
 rw [List.drop_eq_getElem_cons ha] at ht ⊢
 rw [lexF_none _ _ _ hb ht]; rfl
theorem Read.tok {s : List UInt8} {a : Nat} {out : List Tok} (h : Read s a out) (ha : a < s.length) (hb : cls s[a] ≠ 4) {k : Int} {n : Nat} {v : Int} (ht : tokLen (s.drop a) = some (k, n, v)) :
   Read s (a + n) (out ++ [⟨k, (s.drop a).take n, v, a⟩]) := by
 rw [Read, h]
 rw [List.drop_eq_getElem_cons ha] at ht ⊢
 rw [lexF_tok _ _ _ hb ht, ← List.drop_eq_getElem_cons ha, List.drop_drop]
 rw [show ((a : Int) + (n : Int)) = ((a + n : Nat) : Int) by omega]
 cases lexF (s.drop (a + n)) ((a + n : Nat) : Int) with
 | none => rfl
 | some l => simp
theorem Read.end {s : List UInt8} {a : Nat} {out : List Tok} (h : Read s a out) (ha : s.length ≤ a) : lexF s 0 = some out := by
 rw [Read] at h; rw [h, List.drop_eq_nil_of_le ha, lexF_nil]; simp
def rawW (s : List UInt8) : Dat := if 4000 < s.length then .tuple [.nil, I 2] else match lexF s 0 with | none => .tuple [.nil, I 3] | some l => .tuple [toksD l, I 0]
theorem raw_dle (s : List UInt8) : DLe (rawW s) (wordsD (wordsR s)) := by
 rw [rawW, wordsR]
 by_cases h : 4000 < s.length
 · rw [if_pos h, if_pos h]; exact .tuple (.cons (.nil 4) (.refl _))
 · rw [if_neg h, if_neg h]
   cases lexF s 0 with
   | none => exact .tuple (.cons (.nil 4) (.refl _))
   | some l => exact .refl _
theorem tok_len {s : List UInt8} {a n : Nat} (h : a + n ≤ s.length) : ((s.drop a).take n).length = n := by simp; omega
end Uw.Tryd
namespace Uw.Tryd
open Go Uw
def letR (r : Int) : Bool := decide ((97 ≤ r ∧ r ≤ 122) ∨ (65 ≤ r ∧ r ≤ 90))
def digR (r : Int) : Bool := decide (48 ≤ r ∧ r ≤ 57)
def blkR (r : Int) : Bool := decide (r = 9 ∨ r = 10 ∨ r = 32)
theorem s_lex_letter (r : Int) : Ret P0 n_lex_letter [.int .i32 r] (.bool (letR r)) := by
 refine Ret_by is_lex_letter rfl ?_
 ((repeat' first|refine aw ?_|refine bw (fun _=>?_) fun _=>?_))
 all_goals
   refine WT_ret (P := P0) rfl rfl rfl rfl ?_
   exact congrArg Dat.bool (Bool.eq_iff_iff.2 (by simp only [decide_eq_true_eq, Bool.or_eq_true, letR, digR, blkR, eq_self, true_iff, Bool.false_eq_true, false_iff]; omega))
theorem s_lex_digit (r : Int) : Ret P0 n_lex_digit [.int .i32 r] (.bool (digR r)) := by
 refine Ret_by is_lex_digit rfl ?_
 ((repeat' first|refine aw ?_|refine bw (fun _=>?_) fun _=>?_))
 all_goals
   refine WT_ret (P := P0) rfl rfl rfl rfl ?_
   exact congrArg Dat.bool (Bool.eq_iff_iff.2 (by simp only [decide_eq_true_eq, Bool.or_eq_true, letR, digR, blkR, eq_self, true_iff, Bool.false_eq_true, false_iff]; omega))
theorem s_lex_blank (r : Int) : Ret P0 n_lex_blank [.int .i32 r] (.bool (blkR r)) := by
 refine Ret_by is_lex_blank rfl ?_
 ((repeat' first|refine aw ?_|refine bw (fun _=>?_) fun _=>?_))
 all_goals
   refine WT_ret (P := P0) rfl rfl rfl rfl ?_
   exact congrArg Dat.bool (Bool.eq_iff_iff.2 (by simp only [decide_eq_true_eq, Bool.or_eq_true, letR, digR, blkR, eq_self, true_iff, Bool.false_eq_true, false_iff]; omega))
theorem s_lex_name_1 (r : Int) : Ret P0 n_lex_name_1 [.int .i32 r] (.bool (letR r || digR r || decide (r = 95))) := by
 have h1 := s_lex_letter r
 have h2 := s_lex_digit r
 refine Ret_by is_lex_name_1 rfl ?_
 ((repeat' first|refine aw ?_|refine bw (fun _=>?_) fun _=>?_))
 all_goals
   refine WT_ret (P := P0) rfl rfl rfl rfl ?_
   exact congrArg Dat.bool (Bool.eq_iff_iff.2 (by simp only [decide_eq_true_eq, Bool.or_eq_true, letR, digR, blkR, eq_self, true_iff, Bool.false_eq_true, false_iff]; omega))
theorem s_lex_number_1 (r : Int) : Ret P0 n_lex_number_1 [.int .i32 r] (.bool (letR r || decide (r = 95))) := by
 have h1 := s_lex_letter r
 refine Ret_by is_lex_number_1 rfl ?_
 ((repeat' first|refine aw ?_|refine bw (fun _=>?_) fun _=>?_))
 all_goals
   refine WT_ret (P := P0) rfl rfl rfl rfl ?_
   exact congrArg Dat.bool (Bool.eq_iff_iff.2 (by simp only [decide_eq_true_eq, Bool.or_eq_true, letR, digR, blkR, eq_self, true_iff, Bool.false_eq_true, false_iff]; omega))
theorem s_lex_span (f : FuncId) (p : Int → Bool) (hb : HasBody P0 f) (hf : ∀ r, Ret P0 f [.int .i32 r] (.bool (p r))) (hp : ∀ r, 128 ≤ r → p r = false) (s : List UInt8) (hs : s.length < 1000000) : Ret P0 n_lex_span [.str s, .func f] (I ((s.takeWhile (fun b => p (b.toNat : Int))).length : Nat)) := by
 refine Ret_by is_lex_span rfl ?_
 ((repeat' first|refine aw ?_|refine bw (fun _=>?_) fun _=>?_))
 refine WT_loop (fun k : Nat => ⟨[(8, .hnd 0), (0, .d (.str s)), (1, .d (.func f))], [(0, .iter s k)], 1, [], 0⟩)
   (fun k => k ≤ s.length ∧ ∀ (i : Nat) (hi : i < s.length), i < k → p (s[i].toNat : Int) = true) (fun k => s.length - k) 0 (by exact Uw.wW) ⟨by omega, by intros; omega⟩ ?_
 rintro k ⟨h1, h2⟩
 by_cases hk : k < s.length
 · have hk' : s[k]? = some s[k] := by simp [hk]
   have stop : p (s[k].toNat : Int) = false → (s.takeWhile (fun b => p (b.toNat : Int))).length = k := fun h => takeWhile_at _ s k h1 h2 (fun b hb => by rw [hk'] at hb; injection hb with hb; rw [← hb]; exact h)
   by_cases hlow : s[k].toNat < 128
   · have hr := runeAt_low s k s[k] hk' hlow
     have hr1 : ((runeAt s k).1 : Int) = s[k].toNat := by rw [hr]
     have hr2 : (runeAt s k).2 = 1 := by rw [hr]
     have hfr := hf ((runeAt s k).1 : Int)
     rw [show p ((runeAt s k).1 : Int) = p (s[k].toNat : Int) by rw [hr1]] at hfr
     have hk1 : k + (runeAt s k).2 = k + 1 := by rw [hr2]
     clear hr hr1
     cases hpk : p (s[k].toNat : Int) with
     | false =>
       rw [hpk] at hfr
       have hst := stop hpk
       clear stop h2
       ((repeat' first|refine aw ?_|refine bw (fun _=>?_) fun _=>?_))
       refine WT_subret _ hb rfl hfr ?_
       ((repeat' first|refine aw ?_|refine bw (fun _=>?_) fun _=>?_))
       exact WT_ret (P := P0) rfl rfl rfl rfl (by rw [hst]; rfl)
     | true =>
       rw [hpk] at hfr
       have h3 : ∀ (i : Nat) (hi : i < s.length), i < k + (runeAt s k).2 → p (s[i].toNat : Int) = true := by
         intro i hi hik
         by_cases e : i = k
         · subst e; exact hpk
         · exact h2 i hi (by omega)
       clear stop h2
       ((repeat' first|refine aw ?_|refine bw (fun _=>?_) fun _=>?_))
       refine WT_subret _ hb rfl hfr ?_
       ((repeat' first|refine aw ?_|refine bw (fun _=>?_) fun _=>?_))
       exact WT_again (k + (runeAt s k).2) ⟨by omega, h3⟩ (by omega) (by exact Uw.wW)
   · obtain ⟨a1, a2, a3, a4, a5⟩ := runeAt_high s k s[k] hk' (by omega)
     have hfr := hf ((runeAt s k).1 : Int)
     rw [hp _ (by omega)] at hfr
     have hst := stop (hp _ (by omega))
     clear stop h2 a5
     ((repeat' first|refine aw ?_|refine bw (fun _=>?_) fun _=>?_))
     refine WT_subret _ hb rfl hfr ?_
     ((repeat' first|refine aw ?_|refine bw (fun _=>?_) fun _=>?_))
     exact WT_ret (P := P0) rfl rfl rfl rfl (by rw [hst]; rfl)
 · have hst : (s.takeWhile (fun b => p (b.toNat : Int))).length = s.length := by
     have e : k = s.length := by omega
     exact takeWhile_at _ s s.length (Nat.le_refl _) (fun j hj _ => h2 j hj (by omega)) (fun b hb => by rw [List.getElem?_eq_none (Nat.le_refl _)] at hb; cases hb)
   clear h2
   ((repeat' first|refine aw ?_|refine bw (fun _=>?_) fun _=>?_))
   exact WT_ret (P := P0) rfl rfl rfl rfl (by rw [hst]; rfl)
end Uw.Tryd
namespace Uw.Tryd
open Go Uw Go.Proofs Go.RowKit
theorem decFrom_dig : ∀ (l : List UInt8) (n : Nat), l.all digB = true → Lib.decFrom n l = some (l.foldl (fun n b => 10 * n + (b.toNat - 48)) n)
 | [], n, _ => rfl
 | b :: r, n, h => by
   rw [List.all_cons, Bool.and_eq_true] at h
   have hb := digB_range h.1
   rw [Lib.decFrom, Lib.digitVal, if_pos hb]
   simp only
   rw [decFrom_dig r _ h.2, List.foldl_cons, Nat.mul_comm]
theorem atoi_dig (l : List UInt8) (h0 : l ≠ []) (h : l.all digB = true) : Lib.atoi l = some (valD l : Nat) := by
 cases l with
 | nil => exact absurd rfl h0
 | cons b r =>
   have hb := digB_range (by rw [List.all_cons, Bool.and_eq_true] at h; exact h.1)
   have h1 : (b == 45) = false := by
     rw [beq_eq_false_iff_ne]; intro e; subst e; simp at hb
   have h2 : (b == 43) = false := by
     rw [beq_eq_false_iff_ne]; intro e; subst e; simp at hb
   rw [Lib.atoi, h1, h2]
   simp only [Bool.false_eq_true, if_false]
   rw [Lib.decNat, decFrom_dig _ _ h]
   rfl
theorem s_strconv_Atoi (l : List UInt8) (h0 : l ≠ []) (h : l.all digB = true) (hl : l.length ≤ 18) : Ret P0 n_strconv_Atoi [.str l] (.tuple [I (valD l : Nat), .nilIface]) := by
 intro w J vs hG hr
 obtain ⟨v, vs', rfl, hv, hr⟩ := hr
 simp only [RelL] at hr; subst hr
 simp only [RelI] at hv; subst hv
 refine (Tryd.strconv_Atoi ⟨l.toArray⟩ (valD l : Nat) (by simpa [ByteArray.size] using hl) (by simpa using atoi_dig l h0 h) w).mono ?_
 rintro e w' ⟨rfl, t, rfl⟩
 exact ⟨_, rfl, ⟨[_, _], rfl, ⟨_, _, rfl, rfl, ⟨_, _, rfl, rfl, rfl⟩⟩⟩, Lib.bytesWorld_below _ _ _⟩
theorem s_strings_HasPrefix (s p : List UInt8) : Ret P0 n_strings_HasPrefix [.str s, .str p] (.bool (Lib.hasPrefix s p)) := by
 intro w J vs hG hr
 obtain ⟨v, vs', rfl, hv, u, vs'', rfl, hu, hr⟩ := hr
 simp only [RelL] at hr; subst hr
 simp only [RelI] at hv hu; subst hv hu
 refine (Tryd.strings_HasPrefix ⟨s.toArray⟩ ⟨p.toArray⟩ w).mono ?_
 rintro e w' ⟨rfl, rfl⟩
 exact ⟨_, rfl, rfl, Below.refl _ _⟩
theorem s_strings_IndexByte (s : List UInt8) (c : UInt8) : Ret P0 n_strings_IndexByte [.str s, .int .u8 (c.toNat : Int)] (I (Lib.indexByte s c)) := by
 intro w J vs hG hr
 obtain ⟨v, vs', rfl, hv, u, vs'', rfl, hu, hr⟩ := hr
 simp only [RelL] at hr; subst hr
 simp only [RelI] at hv hu; subst hv hu
 refine (Tryd.strings_IndexByte ⟨s.toArray⟩ (c.toNat : Int) w).mono ?_
 rintro e w' ⟨rfl, rfl⟩
 refine ⟨_, rfl, ?_, Below.refl _ _⟩
 simp [RelI]
theorem s_lex_value (l : List UInt8) (h0 : l ≠ []) (h : l.all digB = true) (hl : l.length ≤ 18) : Ret P0 n_lex_value [.str l] (I (valD l : Nat)) := by
 have ha := s_strconv_Atoi l h0 h hl
 clear h h0
 refine Ret_by is_lex_value rfl ?_
 ((repeat' first|refine aw ?_|refine bw (fun _=>?_) fun _=>?_))
 exact WT_ret (P := P0) rfl rfl rfl rfl rfl
end Uw.Tryd
namespace Uw.Tryd
open Go Uw Go.Proofs Go.RowKit
theorem letR_cls (b : UInt8) : letR (b.toNat : Int) = decide (cls b = 1) := by
 refine Bool.eq_iff_iff.2 ?_
 simp only [letR, decide_eq_true_eq]
 unfold cls
 constructor
 · intro h; rw [if_pos (by omega)]
 · intro h
   split at h
   · omega
   · repeat' split at h
     all_goals omega
theorem digR_cls (b : UInt8) : digR (b.toNat : Int) = decide (cls b = 2) := by
 refine Bool.eq_iff_iff.2 ?_
 simp only [digR, decide_eq_true_eq]
 unfold cls
 constructor
 · intro h; rw [if_neg (by omega), if_pos (by omega)]
 · intro h
   repeat' split at h
   all_goals omega
theorem und_cls (b : UInt8) : decide ((b.toNat : Int) = 95) = decide (cls b = 3) := by
 refine Bool.eq_iff_iff.2 ?_
 simp only [decide_eq_true_eq]
 unfold cls
 constructor
 · intro h; rw [if_neg (by omega), if_neg (by omega), if_pos (by omega)]
 · intro h
   repeat' split at h
   all_goals omega
theorem blkR_cls (b : UInt8) : blkR (b.toNat : Int) = decide (cls b = 4) := by
 refine Bool.eq_iff_iff.2 ?_
 simp only [blkR, decide_eq_true_eq]
 unfold cls
 constructor
 · intro h; rw [if_neg (by omega), if_neg (by omega), if_neg (by omega), if_pos (by omega)]
 · intro h
   repeat' split at h
   all_goals omega
theorem sp_letter (s : List UInt8) (hs : s.length < 1000000) : Ret P0 n_lex_span [.str s, .func n_lex_letter] (I ((s.takeWhile (fun b => decide (cls b = 1))).length : Nat)) := by
 have := s_lex_span n_lex_letter letR is_lex_letter.body s_lex_letter (fun r hr => by simp [letR]; omega) s hs
 simpa only [letR_cls] using this
theorem sp_digit (s : List UInt8) (hs : s.length < 1000000) : Ret P0 n_lex_span [.str s, .func n_lex_digit] (I ((s.takeWhile digB).length : Nat)) := by
 have := s_lex_span n_lex_digit digR is_lex_digit.body s_lex_digit (fun r hr => by simp [digR]; omega) s hs
 simp only [digR_cls] at this
 exact this
theorem sp_name (s : List UInt8) (hs : s.length < 1000000) : Ret P0 n_lex_span [.str s, .func n_lex_name_1] (I ((s.takeWhile nameB).length : Nat)) := by
 have := s_lex_span n_lex_name_1 (fun r => letR r || digR r || decide (r = 95)) is_lex_name_1.body s_lex_name_1 (fun r hr => by simp [letR, digR]; omega) s hs
 simp only [letR_cls, digR_cls, und_cls] at this
 exact this
theorem sp_number (s : List UInt8) (hs : s.length < 1000000) : Ret P0 n_lex_span [.str s, .func n_lex_number_1] (I ((s.takeWhile (fun b => decide (cls b = 1) || decide (cls b = 3))).length : Nat)) := by
 have := s_lex_span n_lex_number_1 (fun r => letR r || decide (r = 95)) is_lex_number_1.body s_lex_number_1 (fun r hr => by simp [letR]; omega) s hs
 simp only [letR_cls, und_cls] at this
 exact this
def nameN (r : List UInt8) : Nat := match tokLen r with | some (k, n, _) => if k = 1 then n else 0 | none => 0
def numbN (r : List UInt8) : Nat := match tokLen r with | some (k, n, _) => if k = 2 then n else 0 | none => 0
def signN (r : List UInt8) : Nat := match tokLen r with | some (k, n, _) => if k = 3 then n else 0 | none => 0
theorem nameN_no (c : UInt8) (t : List UInt8) (h : cls c ≠ 1) : nameN (c :: t) = 0 := by
 rw [nameN]
 by_cases h2 : cls c = 2
 · rw [tokLen_dig c t h2]; split
   · rename_i h3; split at h3
     · simp at h3; simp [← h3.1]
     · cases h3
   · rfl
 · by_cases h5 : cls c = 5
   · rw [tokLen_sign c t h5]; rfl
   · rw [tokLen_other c t h h2 h5]
theorem nameN_yes (c : UInt8) (t : List UInt8) (h : cls c = 1) : nameN (c :: t) = if endOf (c :: t) ≤ 12 then endOf (c :: t) else 0 := by
 rw [nameN, tokLen_name c t h]
 by_cases h2 : endOf (c :: t) ≤ 12
 · rw [if_pos h2, if_pos h2]; rfl
 · rw [if_neg h2, if_neg h2]
theorem s_lex_name (c : UInt8) (t : List UInt8) (hs : (c :: t).length < 1000000) : Ret P0 n_lex_name [.str (c :: t)] (I (nameN (c :: t))) := by
 have h1 := sp_letter (c :: t) hs
 have h2 := sp_name (c :: t) hs
 by_cases h : cls c = 1
 · have e1 : 0 < ((c :: t).takeWhile (fun b => decide (cls b = 1))).length := by rw [List.takeWhile_cons, if_pos (by simp [h])]; simp
   have e2 : ((c :: t).takeWhile nameB).length = endOf (c :: t) := by rw [List.takeWhile_cons, if_pos (by simp [nameB, h])]; simp [endOf, h]; omega
   have e3 := nameN_yes c t h
   rw [e2] at h2
   generalize endOf (c :: t) = E at *
   generalize ((c :: t).takeWhile (fun b => decide (cls b = 1))).length = A at *
   generalize nameN (c :: t) = R at *
   clear e2
   generalize c :: t = s at *
   by_cases hE : E ≤ 12
   · rw [if_pos hE] at e3
     subst e3
     refine Ret_by is_lex_name rfl ?_
     ((repeat' first|refine aw ?_|refine bw (fun _=>?_) fun _=>?_))
     exact WT_ret (P := P0) rfl rfl rfl rfl rfl
   · rw [if_neg hE] at e3
     subst e3
     refine Ret_by is_lex_name rfl ?_
     ((repeat' first|refine aw ?_|refine bw (fun _=>?_) fun _=>?_))
     exact WT_ret (P := P0) rfl rfl rfl rfl rfl
 · have e1 : ((c :: t).takeWhile (fun b => decide (cls b = 1))).length = 0 := by rw [List.takeWhile_cons, if_neg (by simp [h])]; rfl
   rw [e1] at h1
   have e3 := nameN_no c t h
   rw [e3]
   clear h2 e1 e3 h
   generalize c :: t = s at *
   refine Ret_by is_lex_name rfl ?_
   ((repeat' first|refine aw ?_|refine bw (fun _=>?_) fun _=>?_))
   exact WT_ret (P := P0) rfl rfl rfl rfl rfl
theorem numbN_no (c : UInt8) (t : List UInt8) (h : cls c ≠ 2) : numbN (c :: t) = 0 := by
 rw [numbN]
 by_cases h2 : cls c = 1
 · rw [tokLen_name c t h2]; split
   · rename_i h3; split at h3
     · simp at h3; simp [← h3.1]
     · cases h3
   · rfl
 · by_cases h5 : cls c = 5
   · rw [tokLen_sign c t h5]; rfl
   · rw [tokLen_other c t h2 h h5]
theorem numbN_yes (c : UInt8) (t : List UInt8) (h : cls c = 2) : numbN (c :: t) = if 0 ≤ numR ((c :: t).take (endOf (c :: t))) ∧ letr ((c :: t).drop (endOf (c :: t))) = false then endOf (c :: t) else 0 := by
 rw [numbN, tokLen_dig c t h]
 by_cases h2 : 0 ≤ numR ((c :: t).take (endOf (c :: t))) ∧ letr ((c :: t).drop (endOf (c :: t))) = false
 · rw [if_pos h2, if_pos h2]; rfl
 · rw [if_neg h2, if_neg h2]
theorem letr_tw (r : List UInt8) : letr r = decide (0 < (r.takeWhile (fun b => decide (cls b = 1) || decide (cls b = 3))).length) := by
 cases r with
 | nil => rfl
 | cons b t =>
   rw [letr, List.takeWhile_cons]
   cases decide (cls b = 1) || decide (cls b = 3) <;> simp
theorem s_lex_number (c : UInt8) (t : List UInt8) (hs : (c :: t).length < 1000000) : Ret P0 n_lex_number [.str (c :: t)] (I (numbN (c :: t))) := by
 have h1 := sp_digit (c :: t) hs
 by_cases h : cls c = 2
 · have e1 : ((c :: t).takeWhile digB).length = endOf (c :: t) := by rw [List.takeWhile_cons, if_pos (by simp [digB, h])]; simp [endOf, h]; omega
   have hall := all_dig c t h
   have hle := endOf_le c t
   have e3 := numbN_yes c t h
   rw [e1] at h1
   have hl0 : (c :: t).length = t.length + 1 := rfl
   have hc0 : ∀ hp : 0 < (c :: t).length, (c :: t)[0]'hp = c := fun _ => rfl
   have hhd : ((c :: t).take (endOf (c :: t))).head? = some 48 ↔ c.toNat = 48 := by
     rw [take_dig c t h, head_48 _ (by simp)]; rfl
   have h0 : 0 < (c :: t).length := by simp
   generalize endOf (c :: t) = E at *
   clear e1
   generalize numbN (c :: t) = R at *
   generalize c :: t = s at *
   have hc0 := congrArg UInt8.toNat (hc0 h0)
   have hwl : (s.take E).length = E := by simp; omega
   have hsp := sp_number ((s.take s.length).drop E) (by simp; omega)
   have hlt := letr_tw (s.drop E)
   have e5 : (s.take s.length).drop E = s.drop E := by rw [List.take_length]
   rw [← e5] at e3 hlt
   generalize letr ((s.take s.length).drop E) = L at *
   generalize (((s.take s.length).drop E).takeWhile (fun b => decide (cls b = 1) || decide (cls b = 3))).length = A at *
   have hnr : numR (s.take E) = if 10 < E ∨ (c.toNat = 48 ∧ 1 < E) then -1 else if 4294967296 ≤ valD (s.take E) then -1 else ((valD (s.take E) : Nat) : Int) := by
     rw [numR, hwl]; simp only [hhd]
   by_cases hb : 10 < E ∨ (c.toNat = 48 ∧ 1 < E)
   · rw [if_pos hb] at hnr
     rw [if_neg (by rintro ⟨q, _⟩; omega)] at e3
     subst e3
     clear hsp hlt hall hhd e5 hnr
     refine Ret_by is_lex_number rfl ?_
     ((repeat' first|refine aw ?_|refine bw (fun _=>?_) fun _=>?_))
     all_goals exact WT_ret (P := P0) rfl rfl rfl rfl rfl
   · rw [if_neg hb] at hnr
     have hv := s_lex_value ((s.take E).drop 0) (by rw [List.drop_zero]; intro e; rw [e] at hwl; simp at hwl; omega) (by rw [List.drop_zero]; exact hall) (by rw [List.drop_zero, hwl]; omega)
     rw [show valD ((s.take E).drop 0) = valD (s.take E) by rw [List.drop_zero]] at hv
     generalize valD (s.take E) = V at *
     by_cases hA : 0 < A
     · rw [decide_eq_true hA] at hlt
       rw [if_neg (by rintro ⟨_, q⟩; rw [hlt] at q; cases q)] at e3
       subst e3
       clear hall hhd e5 hnr
       refine Ret_by is_lex_number rfl ?_
       ((repeat' first|refine aw ?_|refine bw (fun _=>?_) fun _=>?_))
       all_goals exact WT_ret (P := P0) rfl rfl rfl rfl rfl
     · rw [decide_eq_false hA] at hlt
       by_cases hV : 4294967296 ≤ V
       · rw [if_pos hV] at hnr
         rw [if_neg (by rintro ⟨q, _⟩; omega)] at e3
         subst e3
         clear hall hhd e5 hnr hlt
         refine Ret_by is_lex_number rfl ?_
         ((repeat' first|refine aw ?_|refine bw (fun _=>?_) fun _=>?_))
         all_goals exact WT_ret (P := P0) rfl rfl rfl rfl rfl
       · rw [if_neg hV] at hnr
         rw [if_pos ⟨by omega, hlt⟩] at e3
         subst e3
         clear hall hhd e5 hnr hlt
         refine Ret_by is_lex_number rfl ?_
         ((repeat' first|refine aw ?_|refine bw (fun _=>?_) fun _=>?_))
         all_goals exact WT_ret (P := P0) rfl rfl rfl rfl rfl
 · have e1 : ((c :: t).takeWhile digB).length = 0 := by rw [List.takeWhile_cons, if_neg (by simp [digB, h])]; rfl
   rw [e1] at h1
   rw [numbN_no c t h]
   clear e1 h
   generalize c :: t = s at *
   refine Ret_by is_lex_number rfl ?_
   ((repeat' first|refine aw ?_|refine bw (fun _=>?_) fun _=>?_))
   exact WT_ret (P := P0) rfl rfl rfl rfl rfl
end Uw.Tryd
namespace Uw.Tryd
open Go Uw Go.Proofs Go.RowKit
def signsS : List UInt8 := [40, 41, 123, 125, 44, 59, 46, 61, 43, 45, 42, 60]
theorem index_fin : ∀ n : Fin 256, decide (0 ≤ Lib.indexByte signsS (UInt8.ofNat n.val)) = decide (cls (UInt8.ofNat n.val) = 5) := by decide +kernel
theorem index_cls (c : UInt8) : 0 ≤ Lib.indexByte signsS c ↔ cls c = 5 := by
 have h := index_fin ⟨c.toNat, c.toNat_lt⟩
 simp only [UInt8.ofNat_toNat] at h
 exact decide_eq_decide.1 h
theorem prefix_eqq (c : UInt8) (t : List UInt8) : Lib.hasPrefix (c :: t) [61, 61] = (decide (c.toNat = 61) && eqq t) := by
 have key : ∀ b : UInt8, (61 == b) = decide (b.toNat = 61) := by
   intro b
   rw [Bool.eq_iff_iff, beq_iff_eq, decide_eq_true_eq]
   exact ⟨fun h => by rw [← h]; rfl, fun h => (UInt8.toNat_inj.1 (by rw [h]; rfl)).symm⟩
 rw [Lib.hasPrefix]
 cases t with
 | nil => simp [List.isPrefixOf, eqq]
 | cons b r => simp only [List.isPrefixOf, eqq, key, Bool.and_true]
theorem signN_yes (c : UInt8) (t : List UInt8) (h : cls c = 5) : signN (c :: t) = endOf (c :: t) := by rw [signN, tokLen_sign c t h]; rfl
theorem signN_no (c : UInt8) (t : List UInt8) (h : cls c ≠ 5) : signN (c :: t) = 0 := by
 rw [signN]
 by_cases h1 : cls c = 1
 · rw [tokLen_name c t h1]; split
   · rename_i h3; split at h3
     · simp at h3; simp [← h3.1]
     · cases h3
   · rfl
 · by_cases h2 : cls c = 2
   · rw [tokLen_dig c t h2]; split
     · rename_i h3; split at h3
       · simp at h3; simp [← h3.1]
       · cases h3
     · rfl
   · rw [tokLen_other c t h1 h2 h]
theorem s_lex_sign (c : UInt8) (t : List UInt8) (hs : (c :: t).length < 1000000) : Ret P0 n_lex_sign [.str (c :: t)] (I (signN (c :: t))) := by
 have h1 := s_strings_HasPrefix (c :: t) [61, 61]
 have h2 := s_strings_IndexByte signsS c
 rw [prefix_eqq] at h1
 have h3 := index_cls c
 have h0 : 0 < (c :: t).length := by simp
 have hc0 : ∀ hp : 0 < (c :: t).length, (c :: t)[0]'hp = c := fun _ => rfl
 have hc0 := hc0 h0
 have he : cls c = 5 → (decide (c.toNat = 61) && eqq t) = true → signN (c :: t) = 2 := fun h h' => by
   simp at h'
   rw [signN_yes c t h, endOf_sign c t h, if_pos h']
 have he2 : cls c = 5 → (decide (c.toNat = 61) && eqq t) = false → signN (c :: t) = 1 := fun h h' => by
   rw [signN_yes c t h, endOf_sign c t h, if_neg (by rintro ⟨q1, q2⟩; rw [decide_eq_true q1, q2] at h'; cases h')]
 have he3 : cls c ≠ 5 → signN (c :: t) = 0 := signN_no c t
 have h61 : (decide (c.toNat = 61) && eqq t) = true → cls c = 5 := fun h => by
   simp at h
   have : c = 61 := UInt8.toNat_inj.1 h.1
   subst this; rfl
 generalize (decide (c.toNat = 61) && eqq t) = q at *
 generalize signN (c :: t) = R at *
 generalize Lib.indexByte signsS c = X at *
 by_cases h5 : cls c = 5
 · have hX : 0 ≤ X := h3.2 h5
   cases q with
   | true =>
     have he := he h5 rfl
     subst he
     clear h2 h3 hX he2 he3 h61 hc0
     generalize c :: t = s at *
     refine Ret_by is_lex_sign rfl ?_
     ((repeat' first|refine aw ?_|refine bw (fun _=>?_) fun _=>?_))
     exact WT_ret (P := P0) rfl rfl rfl rfl rfl
   | false =>
     have he := he2 h5 rfl
     subst he
     clear he2 he3 h61
     rw [← hc0] at h2
     clear hc0 h3
     generalize c :: t = s at *
     refine Ret_by is_lex_sign rfl ?_
     ((repeat' first|refine aw ?_|refine bw (fun _=>?_) fun _=>?_))
     exact WT_ret (P := P0) rfl rfl rfl rfl rfl
 · have hX : ¬ 0 ≤ X := fun h => h5 (h3.1 h)
   have he := he3 h5
   subst he
   cases q with
   | true => exact absurd (h61 rfl) h5
   | false =>
     clear he2 he3 h61
     rw [← hc0] at h2
     clear hc0 h3
     generalize c :: t = s at *
     refine Ret_by is_lex_sign rfl ?_
     ((repeat' first|refine aw ?_|refine bw (fun _=>?_) fun _=>?_))
     exact WT_ret (P := P0) rfl rfl rfl rfl rfl
def firstR (r : List UInt8) : Tok × Bool := match tokLen r with | none => (⟨0, [], 0, 0⟩, false) | some (k, n, v) => (⟨k, r.take n, v, 0⟩, true)
def firstD (x : Tok × Bool) : Dat := .tuple [.agg (tokL x.1), .bool x.2]
def rulesD : Dat := .slice 2 [[I 1, .func n_lex_name], [I 2, .func n_lex_number], [I 3, .func n_lex_sign]] false
theorem tokLen_kind {r : List UInt8} {k : Int} {n : Nat} {v : Int} (h : tokLen r = some (k, n, v)) :
   (k = 1 ∧ v = 0 ∧ n ≤ 12) ∨ (k = 2 ∧ v = (valD (r.take n) : Nat) ∧ (r.take n).all digB = true ∧ n ≤ 10 ∧ v < 4294967296) ∨ (k = 3 ∧ v = 0 ∧ n ≤ 2) := by
 cases r with
 | nil => simp [tokLen] at h
 | cons c t =>
   by_cases h1 : cls c = 1
   · rw [tokLen_name c t h1] at h
     split at h
     · simp only [Option.some.injEq, Prod.mk.injEq] at h; omega
     · cases h
   · by_cases h2 : cls c = 2
     · have ha := all_dig c t h2
       rw [tokLen_dig c t h2] at h
       split at h
       · rename_i hc
         simp only [Option.some.injEq, Prod.mk.injEq] at h
         obtain ⟨q1, q2, q3⟩ := h
         have hc := hc.1
         have hel := endOf_le c t
         rw [q2] at ha hc q3 hel
         have hl : ((c :: t).take n).length = n := by simp; omega
         rw [numR] at q3 hc
         split at hc
         · omega
         · rename_i q4
           rw [if_neg q4] at q3
           split at hc
           · omega
           · rename_i q5
             rw [if_neg q5] at q3
             right; left
             exact ⟨q1.symm, q3.symm, ha, by omega, by omega⟩
       · cases h
     · by_cases h5 : cls c = 5
       · rw [tokLen_sign c t h5] at h
         simp only [Option.some.injEq, Prod.mk.injEq] at h
         have := endOf_sign c t h5
         split at this <;> omega
       · rw [tokLen_other c t h1 h2 h5] at h; cases h
theorem first_facts (r : List UInt8) : (nameN r ≠ 0 → firstR r = (⟨1, r.take (nameN r), 0, 0⟩, true) ∧ nameN r ≤ r.length) ∧
   (nameN r = 0 → numbN r ≠ 0 → firstR r = (⟨2, r.take (numbN r), (valD (r.take (numbN r)) : Nat), 0⟩, true) ∧ (r.take (numbN r)).all digB = true ∧ numbN r ≤ 10 ∧ numbN r ≤ r.length) ∧
   (nameN r = 0 → numbN r = 0 → signN r ≠ 0 → firstR r = (⟨3, r.take (signN r), 0, 0⟩, true) ∧ signN r ≤ r.length) ∧ (nameN r = 0 → numbN r = 0 → signN r = 0 → firstR r = (⟨0, [], 0, 0⟩, false)) := by
 rw [nameN, numbN, signN, firstR]
 cases h : tokLen r with
 | none => simp
 | some x =>
   obtain ⟨k, n, v⟩ := x
   have hn := tokLen_le h
   rcases tokLen_kind h with ⟨rfl, rfl, _⟩ | ⟨rfl, rfl, h2, h3, _⟩ | ⟨rfl, rfl, _⟩
   · simp only [if_true]
     exact ⟨fun _ => ⟨trivial, hn.2⟩, fun h => by omega, fun h => by omega, fun h => by omega⟩
   · simp only [show ¬ (2 : Int) = 1 by omega, if_false, if_true]
     exact ⟨fun h => by omega, fun _ _ => ⟨trivial, h2, h3, hn.2⟩, fun _ h => by omega, fun _ h => by omega⟩
   · simp only [show ¬ (3 : Int) = 1 by omega, show ¬ (3 : Int) = 2 by omega, if_false, if_true]
     exact ⟨fun h => by omega, fun _ h => by omega, fun _ _ _ => ⟨trivial, hn.2⟩, fun _ _ h => by omega⟩
theorem s_lex_first (c : UInt8) (t : List UInt8) (hs : (c :: t).length < 1000000) : Ret P0 n_lex_first [rulesD, .str (c :: t)] (firstD (firstR (c :: t))) := by
 have h1 := s_lex_name c t hs
 have h2 := s_lex_number c t hs
 have h3 := s_lex_sign c t hs
 obtain ⟨f1, f2, f3, f4⟩ := first_facts (c :: t)
 have hv := fun (q : (nameN (c :: t) = 0 ∧ numbN (c :: t) ≠ 0)) => s_lex_value (((c :: t).take (numbN (c :: t))).drop 0) (by rw [List.drop_zero]; intro e; have := congrArg List.length e; rw [List.length_take] at this; have := (f2 q.1 q.2).2.2.2; simp at *; omega) (by rw [List.drop_zero]; exact (f2 q.1 q.2).2.1) (by rw [List.drop_zero, List.length_take]; have := (f2 q.1 q.2).2.2.1; omega)
 simp only [List.drop_zero] at hv
 generalize nameN (c :: t) = A at *
 generalize numbN (c :: t) = B at *
 generalize signN (c :: t) = C at *
 generalize firstR (c :: t) = R at *
 generalize c :: t = s at *
 refine Ret_by is_lex_first rfl ?_
 ((repeat' first|refine aw ?_|refine bw (fun _=>?_) fun _=>?_))
 refine WT_loop (fun k : Nat => ⟨[(12, .d (I k)), (11, .d (I (↑[[I 1, Dat.func n_lex_name], [I 2, Dat.func n_lex_number], [I 3, Dat.func n_lex_sign]].length))), (10, .d rulesD), (4, .ptr 0 0), (1, .d (.str s))], [(0, .var [.d (I 0), .d (.str []), .d (I 0), .d (I 0)])], 1, [], 0⟩)
   (fun k => k ≤ 3 ∧ (1 ≤ k → A = 0) ∧ (2 ≤ k → B = 0) ∧ (3 ≤ k → C = 0)) (fun k => 3 - k) 0 (by exact Uw.wW) (by omega) ?_
 rintro k ⟨k1, k2, k3, k4⟩
 have hk : k = 0 ∨ k = 1 ∨ k = 2 ∨ k = 3 := by omega
 rcases hk with rfl | rfl | rfl | rfl
 · by_cases hA : A = 0
   · clear f1 f2 f3 f4 hv
     subst hA
     ((repeat' first|refine aw ?_|refine bw (fun _=>?_) fun _=>?_))
     refine WT_elem _ rfl ?_
     ((repeat' first|refine aw ?_|refine bw (fun _=>?_) fun _=>?_))
     refine WT_subret _ is_lex_name.body rfl h1 ?_
     ((repeat' first|refine aw ?_|refine bw (fun _=>?_) fun _=>?_))
     exact WT_again 1 (by omega) (by omega) (by exact Uw.wW)
   · obtain ⟨e, hle⟩ := f1 hA
     subst e
     clear f1 f2 f3 f4 hv
     ((repeat' first|refine aw ?_|refine bw (fun _=>?_) fun _=>?_))
     refine WT_elem _ rfl ?_
     ((repeat' first|refine aw ?_|refine bw (fun _=>?_) fun _=>?_))
     refine WT_subret _ is_lex_name.body rfl h1 ?_
     ((repeat' first|refine aw ?_|refine bw (fun _=>?_) fun _=>?_))
     refine WT_draw ⟨[(7, .ptr 1 0), (9, .ptr 2 0), (4, .ptr 0 0)], [(2, .var [.d (I 1), .d (.str ((s.take A).drop 0)), .d (I 0), .d (I 0)]), (1, .var [.d (I 1), .d (.func n_lex_name)]), (0, .var [.d (I 0), .d (.str []), .d (I 0), .d (I 0)])], 3, [], 0⟩ ?_ ?_
     · ((repeat' first|refine aw ?_|refine bw (fun _=>?_) fun _=>?_))
       exact WT_done (.inl ⟨rfl, by exact Uw.wW⟩)
     · ((repeat' first|refine aw ?_|refine bw (fun _=>?_) fun _=>?_))
       exact WT_leave (WT_ret (P := P0) rfl rfl rfl rfl rfl)
 · have hA := k2 (by omega)
   by_cases hB : B = 0
   · clear f1 f2 f3 f4 hv
     subst hB
     ((repeat' first|refine aw ?_|refine bw (fun _=>?_) fun _=>?_))
     refine WT_elem _ rfl ?_
     ((repeat' first|refine aw ?_|refine bw (fun _=>?_) fun _=>?_))
     refine WT_subret _ is_lex_number.body rfl h2 ?_
     ((repeat' first|refine aw ?_|refine bw (fun _=>?_) fun _=>?_))
     exact WT_again 2 (by omega) (by omega) (by exact Uw.wW)
   · obtain ⟨e, q1, q2, hle⟩ := f2 hA hB
     have hv := hv ⟨hA, hB⟩
     subst e
     clear f1 f2 f3 f4
     ((repeat' first|refine aw ?_|refine bw (fun _=>?_) fun _=>?_))
     refine WT_elem _ rfl ?_
     ((repeat' first|refine aw ?_|refine bw (fun _=>?_) fun _=>?_))
     refine WT_subret _ is_lex_number.body rfl h2 ?_
     ((repeat' first|refine aw ?_|refine bw (fun _=>?_) fun _=>?_))
     refine WT_draw ⟨[(7, .ptr 1 0), (9, .ptr 2 0), (4, .ptr 0 0)], [(2, .var [.d (I 2), .d (.str ((s.take B).drop 0)), .d (I 0), .d (I 0)]), (1, .var [.d (I 2), .d (.func n_lex_number)]), (0, .var [.d (I 0), .d (.str []), .d (I 0), .d (I 0)])], 3, [], 0⟩ ?_ ?_
     · ((repeat' first|refine aw ?_|refine bw (fun _=>?_) fun _=>?_))
       exact WT_done (.inl ⟨rfl, by exact Uw.wW⟩)
     · ((repeat' first|refine aw ?_|refine bw (fun _=>?_) fun _=>?_))
       exact WT_leave (WT_ret (P := P0) rfl rfl rfl rfl rfl)
 · have hA := k2 (by omega)
   have hB := k3 (by omega)
   by_cases hC : C = 0
   · clear f1 f2 f3 f4 hv
     subst hC
     ((repeat' first|refine aw ?_|refine bw (fun _=>?_) fun _=>?_))
     refine WT_elem _ rfl ?_
     ((repeat' first|refine aw ?_|refine bw (fun _=>?_) fun _=>?_))
     refine WT_subret _ is_lex_sign.body rfl h3 ?_
     ((repeat' first|refine aw ?_|refine bw (fun _=>?_) fun _=>?_))
     exact WT_again 3 (by omega) (by omega) (by exact Uw.wW)
   · obtain ⟨e, hle⟩ := f3 hA hB hC
     subst e
     clear f1 f2 f3 f4 hv
     ((repeat' first|refine aw ?_|refine bw (fun _=>?_) fun _=>?_))
     refine WT_elem _ rfl ?_
     ((repeat' first|refine aw ?_|refine bw (fun _=>?_) fun _=>?_))
     refine WT_subret _ is_lex_sign.body rfl h3 ?_
     ((repeat' first|refine aw ?_|refine bw (fun _=>?_) fun _=>?_))
     refine WT_draw ⟨[(7, .ptr 1 0), (9, .ptr 2 0), (4, .ptr 0 0)], [(2, .var [.d (I 3), .d (.str ((s.take C).drop 0)), .d (I 0), .d (I 0)]), (1, .var [.d (I 3), .d (.func n_lex_sign)]), (0, .var [.d (I 0), .d (.str []), .d (I 0), .d (I 0)])], 3, [], 0⟩ ?_ ?_
     · ((repeat' first|refine aw ?_|refine bw (fun _=>?_) fun _=>?_))
       exact WT_done (.inl ⟨rfl, by exact Uw.wW⟩)
     · ((repeat' first|refine aw ?_|refine bw (fun _=>?_) fun _=>?_))
       exact WT_leave (WT_ret (P := P0) rfl rfl rfl rfl rfl)
 · have hA := k2 (by omega)
   have hB := k3 (by omega)
   have hC := k4 (by omega)
   have e := f4 hA hB hC
   subst e
   clear f1 f2 f3 f4 hv k2 k3 k4
   ((repeat' first|refine aw ?_|refine bw (fun _=>?_) fun _=>?_))
   exact WT_ret (P := P0) rfl rfl rfl rfl rfl
end Uw.Tryd
namespace Uw.Tryd
open Go Uw Go.Proofs Go.RowKit
theorem firstR_none {r : List UInt8} (h : tokLen r = none) : firstR r = (⟨0, [], 0, 0⟩, false) := by rw [firstR, h]
theorem firstR_some {r : List UInt8} {k : Int} {n : Nat} {v : Int} (h : tokLen r = some (k, n, v)) : firstR r = (⟨k, r.take n, v, 0⟩, true) := by rw [firstR, h]
theorem nameB_low {b : UInt8} (h : nameB b = true) : b.toNat < 128 := by
 simp only [nameB, Bool.or_eq_true, decide_eq_true_eq] at h
 unfold cls at h
 repeat' split at h
 all_goals omega
theorem cls_low {b : UInt8} (h : cls b ≠ 0) : b.toNat < 128 := by
 unfold cls at h
 repeat' split at h
 all_goals omega
theorem takeWhile_all {α : Type} (p : α → Bool) (l : List α) : ∀ x ∈ l.takeWhile p, p x = true := List.all_eq_true.1 (all_takeWhile p l)
theorem tok_low {r : List UInt8} {k : Int} {n : Nat} {v : Int} (h : tokLen r = some (k, n, v)) : ∀ b ∈ r.take n, b.toNat < 128 := by
 cases r with
 | nil => simp [tokLen] at h
 | cons c t =>
   by_cases h1 : cls c = 1
   · rw [tokLen_name c t h1] at h
     have e : endOf (c :: t) = 1 + (t.takeWhile nameB).length := by simp [endOf, h1]
     split at h
     · simp only [Option.some.injEq, Prod.mk.injEq] at h
       rw [← h.2.1, e, Nat.add_comm, List.take_succ_cons, take_takeWhile]
       intro b hb
       rcases List.mem_cons.1 hb with rfl | hb
       · exact cls_low (by omega)
       · exact nameB_low (takeWhile_all _ _ b hb)
     · cases h
   · by_cases h2 : cls c = 2
     · have hd := take_dig c t h2
       rw [tokLen_dig c t h2] at h
       split at h
       · simp only [Option.some.injEq, Prod.mk.injEq] at h
         rw [← h.2.1, hd]
         intro b hb
         rcases List.mem_cons.1 hb with rfl | hb
         · exact cls_low (by omega)
         · have := digB_range (takeWhile_all _ _ b hb); omega
       · cases h
     · by_cases h5 : cls c = 5
       · have he := endOf_sign c t h5
         rw [tokLen_sign c t h5] at h
         simp only [Option.some.injEq, Prod.mk.injEq] at h
         rw [← h.2.1, he]
         intro b hb
         split at hb
         · rename_i q
           cases t with
           | nil => simp [eqq] at q
           | cons d u =>
             simp only [eqq, decide_eq_true_eq] at q
             simp at hb
             rcases hb with rfl | rfl <;> omega
         · simp at hb; subst hb; exact cls_low (by omega)
       · rw [tokLen_other c t h1 h2 h5] at h; cases h
def lowTo (s : List UInt8) (k b : Nat) : Prop := ∀ i, k ≤ i → i < b → ∀ c, s[i]? = some c → c.toNat < 128
theorem s_lex_Words (s : List UInt8) (hs : s.length < 1000000) : Ret P0 n_lex_Words [.str s] (wordsD (wordsR s)) := by
 refine Ret.res (r := rawW s) ?_ (raw_dle s)
 by_cases h4 : 4000 < s.length
 · have e : rawW s = .tuple [.nil, I 2] := by rw [rawW, if_pos h4]
   rw [e]
   refine Ret_by is_lex_Words rfl ?_
   ((repeat' first|refine aw ?_|refine bw (fun _=>?_) fun _=>?_))
   exact WT_ret (P := P0) rfl rfl rfl rfl rfl
 · have bad : lexF s 0 = none → rawW s = .tuple [.nil, I 3] := fun h => by rw [rawW, if_neg h4, h]
   have good : ∀ l, lexF s 0 = some l → rawW s = .tuple [toksD l, I 0] := fun l h => by rw [rawW, if_neg h4, h]
   generalize rawW s = R at bad good
   refine Ret_by is_lex_Words rfl ?_
   ((repeat' first|refine aw ?_|refine bw (fun _=>?_) fun _=>?_))
   refine WT_loop (fun ((k, b, n, xs) : Nat × Nat × Nat × List (List Dat)) => ⟨[(19, .hnd 0), (6, .d (I b)), (5, .ref 1 0 0 n), (4, .d (Dat.slice 2 ((((List.replicate 3 [Dat.int IntKind.i64 0, Dat.nilFunc]).set 0 [Dat.int IntKind.i64 1, Dat.func n_lex_name]).set 1 [Dat.int IntKind.i64 2, Dat.func n_lex_number]).set 2 [Dat.int IntKind.i64 3, Dat.func n_lex_sign]) true)), (0, .d (.str s))], [(1, .arr 4 xs), (0, .iter s k)], 2, [], 0⟩)
     (fun (k, b, n, xs) => k ≤ s.length ∧ b ≤ s.length ∧ n = xs.length ∧ n ≤ b ∧ n ≤ k ∧ lowTo s k b ∧ ∃ out, xs = out.map tokL ∧ Read s (max k b) out) (fun (k, _) => s.length - k) (0, 0, 0, []) (by exact Uw.wW) ⟨by omega, by omega, rfl, by omega, by omega, by intro i h1 h2; omega, [], rfl, Read.init s⟩ ?_
   rintro ⟨k, b, n, xs⟩ ⟨h1, h2, h3, h3', h3'', hlow, out, h5, h6⟩
   by_cases hk : k < s.length
   · have hk' : s[k]? = some s[k] := by simp [hk]
     have hd : s.drop k = s[k] :: s.drop (k + 1) := List.drop_eq_getElem_cons hk
     by_cases hkb : k < b
     · have hl := hlow k (Nat.le_refl _) hkb s[k] hk'
       have hr := runeAt_low s k s[k] hk' hl
       have hr2 : (runeAt s k).2 = 1 := by rw [hr]
       clear hr
       have hm : max (k + (runeAt s k).2) b = max k b := by omega
       have h7 : Read s (max (k + (runeAt s k).2) b) out := by rw [hm]; exact h6
       have hl2 : lowTo s (k + (runeAt s k).2) b := fun i q1 q2 => hlow i (by omega) q2
       clear good bad h6 hd hlow
       ((repeat' first|refine aw ?_|refine bw (fun _=>?_) fun _=>?_))
       exact WT_again (k + (runeAt s k).2, b, n, xs) ⟨by omega, h2, h3, h3', by omega, hl2, out, h5, h7⟩ (by simp only; omega) (by exact Uw.wW)
     · have hm : max k b = k := by omega
       rw [hm] at h6
       have hbl := s_lex_blank ((runeAt s k).1 : Int)
       have hfi := (s_lex_first s[k] (s.drop (k + 1)) (by rw [← hd]; simp; omega)).args (ds := [.slice 2 [[I 1, .func n_lex_name], [I 2, .func n_lex_number], [I 3, .func n_lex_sign]] true, .str (s[k] :: s.drop (k + 1))]) (.cons (.slice (.refl _)) (.refl _))
       rw [← hd] at hfi
       have hfi' : Ret P0 n_lex_first [.slice 2 [[I 1, .func n_lex_name], [I 2, .func n_lex_number], [I 3, .func n_lex_sign]] true, .str ((s.take s.length).drop k)] (firstD (firstR (s.drop k))) := by rw [List.take_length]; exact hfi
       clear hfi
       by_cases hl : s[k].toNat < 128
       · have hr := runeAt_low s k s[k] hk' hl
         have hr1 : ((runeAt s k).1 : Int) = s[k].toNat := by rw [hr]
         have hr2 : (runeAt s k).2 = 1 := by rw [hr]
         clear hr
         rw [show blkR ((runeAt s k).1 : Int) = decide (cls s[k] = 4) by rw [hr1, blkR_cls]] at hbl
         by_cases k4 : cls s[k] = 4
         · rw [decide_eq_true k4] at hbl
           have h7 : Read s (max (k + (runeAt s k).2) b) out := by rw [hr2, show max (k + 1) b = k + 1 by omega]; exact h6.blank hk k4
           have hl2 : lowTo s (k + (runeAt s k).2) b := fun i q1 q2 => by omega
           clear good bad h6 hd hlow hfi'
           ((repeat' first|refine aw ?_|refine bw (fun _=>?_) fun _=>?_))
           exact WT_again (k + (runeAt s k).2, b, n, xs) ⟨by omega, h2, h3, h3', by omega, hl2, out, h5, h7⟩ (by simp only; omega) (by exact Uw.wW)
         · rw [decide_eq_false k4] at hbl
           cases ht : tokLen (s.drop k) with
           | none =>
             rw [firstR_none ht] at hfi'
             have hb := bad (h6.none hk k4 ht)
             subst hb
             clear good bad h6 hd hlow ht
             ((repeat' first|refine aw ?_|refine bw (fun _=>?_) fun _=>?_))
             exact WT_leave (WT_ret (P := P0) rfl rfl rfl rfl rfl)
           | some x =>
             obtain ⟨K, N, v⟩ := x
             rw [firstR_some ht] at hfi'
             have hn := tokLen_le ht
             have hlw := tok_low ht
             have h8 := h6.tok hk k4 ht
             have hN : k + N ≤ s.length := by have := hn.2; simp at this; omega
             have hxl : ((s.drop k).take N).length = N := tok_len hN
             have h7 : Read s (max (k + (runeAt s k).2) (k + N)) (out ++ [⟨K, (s.drop k).take N, v, k⟩]) := by rw [hr2, show max (k + 1) (k + N) = k + N by omega]; exact h8
             have hl2 : lowTo s (k + (runeAt s k).2) (k + N) := by
               intro i q1 q2 c hc
               refine hlw c ?_
               rw [List.mem_take_iff_getElem]
               refine ⟨i - k, by simp; have := (List.getElem?_eq_some_iff.1 hc).1; omega, ?_⟩
               rw [List.getElem_drop]
               have := (List.getElem?_eq_some_iff.1 hc).2
               simp only [show k + (i - k) = i by omega]; exact this
             generalize (s.drop k).take N = w at *
             clear good bad h6 hd hlow ht h8 hlw
             have hen : (k : Int) + (w.length : Int) = ((k + N : Nat) : Int) := by omega
             ((repeat' first|refine aw ?_|refine bw (fun _=>?_) fun _=>?_))
             refine WT_again (k + (runeAt s k).2, k + N, n + 1, xs ++ [[I K, .str w, I v, I k]]) ⟨by omega, hN, by simp [h3], by omega, by omega, hl2, out ++ [⟨K, w, v, k⟩], ?_, h7⟩ (by simp only; omega) (by exact Uw.wW)
             rw [h5]; simp [tokL]
       · obtain ⟨a1, a2, a3, a4, a5⟩ := runeAt_high s k s[k] hk' (by omega)
         have hc0 : cls s[k] = 0 := by
           by_cases h : cls s[k] = 0
           · exact h
           · exact absurd (cls_low h) hl
         have ht : tokLen (s.drop k) = none := by rw [hd]; exact tokLen_other _ _ (by omega) (by omega) (by omega)
         rw [show blkR ((runeAt s k).1 : Int) = false by simp [blkR]; omega] at hbl
         rw [firstR_none ht] at hfi'
         have hb := bad (h6.none hk (by omega) ht)
         subst hb
         clear good bad h6 hd hlow ht a5
         ((repeat' first|refine aw ?_|refine bw (fun _=>?_) fun _=>?_))
         exact WT_leave (WT_ret (P := P0) rfl rfl rfl rfl rfl)
   · have hg := good out (h6.end (by omega))
     subst hg
     clear good bad h6 hlow
     ((repeat' first|refine aw ?_|refine bw (fun _=>?_) fun _=>?_))
     exact WT_ret (P := P0) rfl rfl rfl rfl (by rw [row_eq h3 h5]; rfl)
end Uw.Tryd
namespace Uw.Tryd
open Go Uw Go.Proofs
def shiftT (d : Int) (t : Tok) : Tok := { t with at_ := t.at_ + d }
theorem lexK_shift (d : Int) : ∀ (f : Nat) (r : List UInt8) (a : Int), lexK f r (a + d) = (lexK f r a).map (List.map (shiftT d))
 | f, [], a => by cases f <;> rfl
 | 0, c :: t, a => rfl
 | f + 1, c :: t, a => by
   rw [lexK, lexK]
   by_cases hb : cls c = 4
   · rw [if_pos hb, if_pos hb, show a + d + 1 = (a + 1) + d by omega]; exact lexK_shift d f t (a + 1)
   · rw [if_neg hb, if_neg hb]
     cases ht : tokLen (c :: t) with
     | none => rfl
     | some x =>
       obtain ⟨k, n, v⟩ := x
       simp only
       rw [show a + d + (n : Int) = (a + n) + d by omega, lexK_shift d f ((c :: t).drop n) (a + n)]
       cases lexK f ((c :: t).drop n) (a + n) with
       | none => rfl
       | some l => rfl
theorem lexF_shift (d : Int) (r : List UInt8) (a : Int) : lexF r (a + d) = (lexF r a).map (List.map (shiftT d)) := lexK_shift d _ r a
theorem lexF_from (r : List UInt8) (a : Int) : lexF r a = (lexF r 0).map (List.map (shiftT a)) := by
 have := lexF_shift a r 0
 rwa [Int.zero_add] at this
theorem takeWhile_app (p : UInt8 → Bool) (c : UInt8) (b : List UInt8) (hc : p c = false) : ∀ (a : List UInt8), (a ++ c :: b).takeWhile p = a.takeWhile p
 | [] => by rw [List.nil_append, List.takeWhile_cons, hc]; rfl
 | x :: r => by
   rw [List.cons_append, List.takeWhile_cons, List.takeWhile_cons, takeWhile_app p c b hc r]
theorem dropWhile_app (p : UInt8 → Bool) (c : UInt8) (b : List UInt8) (hc : p c = false) : ∀ (a : List UInt8), (a ++ c :: b).dropWhile p = a.dropWhile p ++ c :: b
 | [] => by rw [List.nil_append, List.dropWhile_cons, hc]; rfl
 | x :: r => by
   rw [List.cons_append, List.dropWhile_cons, List.dropWhile_cons, dropWhile_app p c b hc r]
   split <;> rfl
theorem tokLen_app (c : UInt8) (hc : cls c = 4) (b : List UInt8) : ∀ (a : List UInt8), a ≠ [] → tokLen (a ++ c :: b) = tokLen a
 | [], h => absurd rfl h
 | x :: r, _ => by
   have n1 : nameB c = false := by simp [nameB, hc]
   have n2 : digB c = false := by simp [digB, hc]
   have hl : letr ((r ++ c :: b).dropWhile digB) = letr (r.dropWhile digB) := by
     rw [dropWhile_app digB c b n2 r]
     cases r.dropWhile digB with
     | nil => rw [List.nil_append, letr, letr, hc]; rfl
     | cons y z => rfl
   have he : eqq (r ++ c :: b) = eqq r := by
     cases r with
     | nil =>
       rw [List.nil_append, eqq, eqq]
       exact decide_eq_false (fun h => by have : c = 61 := UInt8.toNat_inj.1 h; subst this; revert hc; decide)
     | cons y z => rfl
   rw [List.cons_append, tokLen, tokLen, takeWhile_app nameB c b n1, takeWhile_app digB c b n2, hl, he]
theorem lexF_app (c : UInt8) (hc : cls c = 4) (b : List UInt8) : ∀ (n : Nat) (a : List UInt8) (p : Int), a.length ≤ n → lexF (a ++ c :: b) p = (lexF a p).bind fun l => (lexF b (p + a.length + 1)).map (l ++ ·)
 | n, [], p, _ => by
   rw [List.nil_append, lexF_blank c b p hc, lexF_nil]
   simp
 | 0, _ :: _, _, h => by simp at h
 | n + 1, x :: r, p, h => by
   simp only [List.length_cons] at h
   by_cases hx : cls x = 4
   · rw [List.cons_append, lexF_blank x _ p hx, lexF_blank x r p hx, lexF_app c hc b n r (p + 1) (by omega)]
     rw [show p + 1 + (r.length : Int) + 1 = p + ((x :: r).length : Nat) + 1 by simp; omega]
   · have ht := tokLen_app c hc b (x :: r) (by simp)
     cases hk : tokLen (x :: r) with
     | none =>
       rw [hk] at ht
       rw [lexF_none x r p hx hk]
       exact lexF_none x (r ++ c :: b) p hx ht
     | some q =>
       obtain ⟨k, m, v⟩ := q
       rw [hk] at ht
       have hm := tokLen_le hk
       simp only [List.length_cons] at hm
       rw [lexF_tok x r p hx hk]
       have e1 : ((x :: r) ++ c :: b).drop m = ((x :: r).drop m) ++ c :: b := List.drop_append_of_le_length (by simp; omega)
       have e2 : ((x :: r) ++ c :: b).take m = (x :: r).take m := List.take_append_of_le_length (by simp; omega)
       have := lexF_tok x (r ++ c :: b) p hx (by rw [← List.cons_append]; exact ht)
       rw [List.cons_append, this, ← List.cons_append, e1, e2, lexF_app c hc b n ((x :: r).drop m) (p + m) (by simp; omega)]
       rw [show p + (m : Int) + (((x :: r).drop m).length : Nat) + 1 = p + ((x :: r).length : Nat) + 1 by simp; omega]
       cases lexF ((x :: r).drop m) (p + m) with
       | none => rfl
       | some l =>
         simp only [Option.bind_some, Option.map_some, Option.map_map]
         rfl
inductive Placed (s : List UInt8) : Nat → List Tok → Prop
 | nil {a : Nat} (h : ∀ (k : Nat) (hk : k < s.length), a ≤ k → cls s[k] = 4) : Placed s a []
 | cons {a p n : Nat} {k : Int} {v : Int} {l : List Tok} (h1 : a ≤ p) (h2 : ∀ (k : Nat) (hk : k < s.length), a ≤ k → k < p → cls s[k] = 4) (h3 : tokLen (s.drop p) = some (k, n, v)) (h4 : Placed s (p + n) l) : Placed s a (⟨k, (s.drop p).take n, v, p⟩ :: l)
theorem Placed.blank {s : List UInt8} {a : Nat} {l : List Tok} (h : Placed s (a + 1) l) (ha : a < s.length) (hb : cls s[a] = 4) : Placed s a l := by
 have key : ∀ (k : Nat) (hk : k < s.length), a ≤ k → (a + 1 ≤ k → cls s[k] = 4) → cls s[k] = 4 := by
   intro k hk h1 h2
   by_cases e : k = a
   · subst e; exact hb
   · exact h2 (by omega)
 cases h with
 | nil h => exact .nil (fun k hk h1 => key k hk h1 (h k hk))
 | cons h1 h2 h3 h4 => exact .cons (by omega) (fun k hk q1 q2 => key k hk q1 (fun q => h2 k hk q q2)) h3 h4
theorem placed_lexF (s : List UInt8) : ∀ (f a : Nat), s.length - a ≤ f → ∀ l, lexF (s.drop a) (a : Int) = some l → Placed s a l := by
 intro f
 induction f with
 | zero =>
   intro a h l hl
   rw [List.drop_eq_nil_of_le (by omega), lexF_nil] at hl
   injection hl with hl; subst hl
   exact .nil (fun k hk h1 => by omega)
 | succ f ih =>
   intro a h l hl
   by_cases ha : a < s.length
   · rw [List.drop_eq_getElem_cons ha] at hl
     by_cases hb : cls s[a] = 4
     · rw [lexF_blank _ _ _ hb] at hl
       exact (ih (a + 1) (by omega) l hl).blank ha hb
     · cases ht : tokLen (s[a] :: s.drop (a + 1)) with
       | none => rw [lexF_none _ _ _ hb ht] at hl; cases hl
       | some q =>
         obtain ⟨k, n, v⟩ := q
         have hn := tokLen_le ht
         rw [lexF_tok _ _ _ hb ht, ← List.drop_eq_getElem_cons ha, List.drop_drop, show (a : Int) + (n : Int) = ((a + n : Nat) : Int) by omega] at hl
         rw [← List.drop_eq_getElem_cons ha] at ht
         cases hr : lexF (s.drop (a + n)) ((a + n : Nat) : Int) with
         | none => rw [hr] at hl; cases hl
         | some l' =>
           rw [hr] at hl
           simp only [Option.map_some, Option.some.injEq] at hl
           subst hl
           exact .cons (Nat.le_refl _) (fun k hk q1 q2 => by omega) ht (ih (a + n) (by omega) l' hr)
   · rw [List.drop_eq_nil_of_le (by omega), lexF_nil] at hl
     injection hl with hl; subst hl
     exact .nil (fun k hk h1 => by omega)
theorem placed_of {s : List UInt8} {l : List Tok} (h : lexF s 0 = some l) : Placed s 0 l := placed_lexF s s.length 0 (by omega) l (by simpa using h)
theorem Placed.len {s : List UInt8} {a : Nat} {l : List Tok} (h : Placed s a l) : l.length ≤ s.length - a ∧ (l.map fun t => t.text.length + 1).sum ≤ 2 * (s.length - a) := by
 induction h with
 | nil h => simp
 | @cons a p n k v l h1 h2 h3 h4 ih =>
   have := (tokLen_le h3).2
   have := (tokLen_le h3).1
   simp at *
   omega
theorem words_total {s : List UInt8} {l : List Tok} (h : lexF s 0 = some l) : l.length ≤ s.length ∧ (l.map fun t => t.text.length + 1).sum ≤ 2 * s.length := by
 have := (placed_of h).len
 simpa using this
end Uw.Tryd
