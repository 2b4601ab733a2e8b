/- Nl: Rf (merged by merge2.py from the working texts). -/
import Derived.Test.YtlnfojhdicbgiaaDoorNg
import Derived.Test.YtlnfojhdicbgiaaDoorNj
set_option maxRecDepth 4000
set_option maxHeartbeats 2000000
set_option linter.unusedSimpArgs false
set_option linter.unnecessarySimpa false
set_option linter.unusedVariables false
set_option linter.unusedSectionVars false
namespace Uw.Tryd
open Go Uw
abbrev dgS (a : Int) (k : Int) (o : Str) : St := ⟨[(4, .d (I k)), (3, .d (.str o)), (0, .d (.int .u8 a))], [], 0, [], 0⟩
def dgK (j : Nat) : Nat := if j = 0 then 100 else if j = 1 then 10 else if j = 2 then 1 else 0
def dgO (n j : Nat) : Str := if j = 0 then [] else if j = 1 then (if n / 100 > 0 then [UInt8.ofNat (48 + n / 100 % 10)] else []) else if j = 2 then (if n / 100 > 0 then [UInt8.ofNat (48 + n / 100 % 10)] else []) ++ (if n / 10 > 0 then [UInt8.ofNat (48 + n / 10 % 10)] else []) else dgR n
theorem dgO_len (n j : Nat) : (dgO n j).length ≤ 3 := by
 unfold dgO dgR
 repeat' split
 all_goals simp
theorem dgF (n j : Nat) (hj : j < 3) : ((dgK j : Nat) : Int).tdiv 10 = ((dgK (j + 1) : Nat) : Int) ∧ 0 < dgK j ∧ dgK j ≤ 100 ∧ (0 < n / dgK j ∨ dgK j = 1 → dgO n j ++ [UInt8.ofNat (48 + ((n / dgK j % 10 : Nat) : Int)).toNat] = dgO n (j + 1)) ∧ (¬ (0 < n / dgK j ∨ dgK j = 1) → dgO n j = dgO n (j + 1)) := by
 have e : (48 + ((n / dgK j % 10 : Nat) : Int)).toNat = 48 + n / dgK j % 10 := by omega
 rw [e]
 have hj' : j = 0 ∨ j = 1 ∨ j = 2 := by omega
 rcases hj' with rfl | rfl | rfl
 · refine ⟨rfl, by decide, by decide, fun h => ?_, fun h => ?_⟩
   · have h : 0 < n / 100 := by rcases h with h | h; exact h; cases h
     show _ = (if n / 100 > 0 then _ else _)
     rw [if_pos h]; rfl
   · have h : ¬ 0 < n / 100 := fun h' => h (.inl h')
     show _ = (if n / 100 > 0 then _ else _)
     rw [if_neg h]; rfl
 · refine ⟨rfl, by decide, by decide, fun h => ?_, fun h => ?_⟩
   · have h : 0 < n / 10 := by rcases h with h | h; exact h; cases h
     show (if n / 100 > 0 then _ else _) ++ _ = (if n / 100 > 0 then _ else _) ++ (if n / 10 > 0 then _ else _)
     rw [if_pos h]; rfl
   · have h : ¬ 0 < n / 10 := fun h' => h (.inl h')
     show (if n / 100 > 0 then _ else _) = (if n / 100 > 0 then _ else _) ++ (if n / 10 > 0 then _ else _)
     rw [if_neg h, List.append_nil]
 · refine ⟨rfl, by decide, by decide, fun h => ?_, fun h => absurd (.inr rfl) h⟩
   show _ ++ [UInt8.ofNat (48 + n / 1 % 10)] = dgR n
   rw [Nat.div_one]; rfl
theorem s_law05_digits (a : Int) (n : Nat) (han : a = (n : Int)) (ha : n < 256) : Ret P0 n_law05_digits [.int .u8 a] (.str (dgR n)) := by
 have hf := dgF n
 have hd : ∀ j < 3, ∃ q m : Int, a.tdiv (dgK j : Nat) = q ∧ q.tmod 10 = m ∧ q = ((n / dgK j : Nat) : Int) ∧ m = ((n / dgK j % 10 : Nat) : Int) := by
   intro j hj
   subst han
   exact ⟨_, _, rfl, rfl, rfl, rfl⟩
 refine Ret_by is_law05_digits rfl ?_
 ((repeat' first|refine aw ?_|refine bw (fun _=>?_) fun _=>?_))
 refine WT_loop (fun (j : Nat) => dgS a (dgK j : Nat) (dgO n j)) (fun j => j ≤ 3) (fun j => 3 - j) 0 (by exact Uw.wW) (by omega) ?_
 intro j hj
 by_cases h3 : j = 3
 · subst h3
   clear hf hd
   refine WT_no (by decide) ?_
   refine WT_break ?_
   exact WT_ret rfl rfl rfl rfl rfl
 · obtain ⟨q, m, ed, em, eq, eqm⟩ := hd j (by omega)
   clear hd
   have hf := hf j (by omega)
   have f1 := hf.1
   have f2 := hf.2.1
   have f3 := hf.2.2.1
   have f4 := hf.2.2.2.1
   have f5 := hf.2.2.2.2
   have eb : n / dgK j ≤ n := Nat.div_le_self ..
   have ec : n / dgK j % 10 < 10 := Nat.mod_lt _ (by omega)
   have hl := dgO_len n j
   have hl1 := dgO_len n (j + 1)
   have key : ∀ st, Weak st (dgS a (((dgK j : Nat) : Int).tdiv 10) (dgO n (j + 1))) → Weak st (dgS a (dgK (j + 1) : Nat) (dgO n (j + 1))) := fun st h => by
     rw [← f1]; exact h
   have f4 : 0 < q ∨ ((dgK j : Nat) : Int) = 1 → dgO n j ++ [UInt8.ofNat (48 + m).toNat] = dgO n (j + 1) := by
     rw [eq, eqm]; intro h; exact f4 (h.imp (fun h => Int.natCast_pos.1 h) (fun h => by omega))
   have f5 : ¬ (0 < q ∨ ((dgK j : Nat) : Int) = 1) → dgO n j = dgO n (j + 1) := by
     rw [eq]; intro h; exact f5 (fun h' => h (h'.imp (fun h => Int.natCast_pos.2 h) (fun h => by omega)))
   have k0 : (0 : Int) < ((dgK j : Nat) : Int) := by omega
   have k1 : ((dgK j : Nat) : Int) ≤ 100 := by omega
   have q0 : 0 ≤ q := by rw [eq]; exact Int.natCast_nonneg _
   have q1 : q < 256 := by rw [eq]; exact Int.ofNat_lt.2 (Nat.lt_of_le_of_lt eb ha)
   have m0 : 0 ≤ m := by rw [eqm]; exact Int.natCast_nonneg _
   have m1 : m < 10 := by rw [eqm]; exact Int.ofNat_lt.2 ec
   have kt : dgK (j + 1) ≤ 100 := by unfold dgK; (repeat' split) <;> omega
   have kd0 : 0 ≤ ((dgK j : Nat) : Int).tdiv 10 := by rw [f1]; omega
   have kd1 : ((dgK j : Nat) : Int).tdiv 10 ≤ 100 := by rw [f1]; omega
   clear hf f1 f2 f3 eq eqm eb ec
   generalize dgO n j = O at *
   generalize ((dgK j : Nat) : Int) = K at *
   by_cases hq : 0 < q
   · have f4 := f4 (.inl hq)
     clear f5
     subst ed em
     ((repeat' first|refine aw ?_|refine bw (fun _=>?_) fun _=>?_))
     refine WT_again (j + 1) (by omega) (by show _ < _; omega) (key _ ?_)
     exact Uw.wW
   · by_cases hK : K = 1
     · have f4 := f4 (.inr hK)
       clear f5
       subst ed em
       ((repeat' first|refine aw ?_|refine bw (fun _=>?_) fun _=>?_))
       refine WT_again (j + 1) (by omega) (by show _ < _; omega) (key _ ?_)
       exact Uw.wW
     · have f5 := f5 (by omega)
       clear f4
       subst ed em
       ((repeat' first|refine aw ?_|refine bw (fun _=>?_) fun _=>?_))
       refine WT_again (j + 1) (by omega) (by show _ < _; omega) (key _ ?_)
       exact Uw.wW
abbrev sgL : List (List Dat) := (((((List.replicate 5 [Dat.str []]).set 0 [Dat.str [43]]).set 1 [Dat.str [45]]).set 2 [Dat.str [42]]).set 3 [Dat.str [60]]).set 4 [Dat.str [61, 61]]
abbrev rkL : List (List Dat) := (((((List.replicate 5 [I 0]).set 0 [I 2]).set 1 [I 2]).set 2 [I 3]).set 3 [I 1]).set 4 [I 1]
abbrev dgL (A B C : Str) : List (List Dat) := (((List.replicate 3 [Dat.str []]).set 0 [Dat.str A]).set 1 [Dat.str B]).set 2 [Dat.str C]
abbrev pre32' : List UInt8 := [102, 117, 110, 99, 32, 109, 97, 105, 110, 40, 41, 123, 114, 101, 116, 117, 114, 110, 32]
abbrev pre40 : List UInt8 := [102, 117, 110, 99, 32, 109, 97, 105, 110, 40, 41, 123, 114, 101, 116, 117, 114, 110, 32, 40]
theorem sg_at {i : Nat} (h : five i) : sgL[i]? = some [Dat.str (sgn5 i)] := by
 rcases h with rfl | rfl | rfl | rfl | rfl <;> rfl
theorem rk_at {i : Nat} (h : five i) : rkL[i]? = some [I (rk5 i : Nat)] := by
 rcases h with rfl | rfl | rfl | rfl | rfl <;> rfl
theorem txF_eq (i j a b c : Nat) : txF i j a b c = pre32' ++ dgR a ++ sgn5 i ++ dgR b ++ sgn5 j ++ dgR c ++ [59, 125] := by
 simp [txF, preS, pre32']
theorem txL_eq (i j a b c : Nat) : txL i j a b c = pre40 ++ dgR a ++ sgn5 i ++ dgR b ++ [41] ++ sgn5 j ++ dgR c ++ [59, 125] := by
 simp [txL, preS, pre40]
theorem txR_eq (i j a b c : Nat) : txR i j a b c = pre32' ++ dgR a ++ sgn5 i ++ [40] ++ dgR b ++ sgn5 j ++ dgR c ++ [41, 59, 125] := by
 simp [txR, preS, pre32']
abbrev pgB (p : Pg) : Blk := .var [.d (.slice 3 (p.decls.map decL) false), .d (.slice 3 (p.funs.map fuL) false), .d (.slice 5 (p.nodes.map ndL) false)]
abbrev lfS (s t : Int) (S T A B C : Str) (R : Regs) (h : Heap) (n : Nat) : St := ⟨R ++ [(4, .d (.int .u8 t)), (3, .d (.int .u8 s)), (14, .d (.slice 1 (dgL A B C) true)), (13, .d (.str T)), (12, .d (.str S))], h, n, [], 0⟩
theorem l_ParseLeft (a : Int) (ha : 0 ≤ a ∧ a < 256) (b : Int) (hb : 0 ≤ b ∧ b < 256) (c : Int) (hc : 0 ≤ c ∧ c < 256) (s : Int) (hs : 0 ≤ s ∧ s < 256) (t : Int) (ht : 0 ≤ t ∧ t < 256) : Ret P0 n_law05_ParseLeft [.int .u8 a, .int .u8 b, .int .u8 c, .int .u8 s, .int .u8 t] (.bool true) := by
 have al := s_law05_alive
 have da := s_law05_digits a a.toNat (by omega) (by omega)
 have db := s_law05_digits b b.toNat (by omega) (by omega)
 have dc := s_law05_digits c c.toNat (by omega) (by omega)
 have hi : five (s.tmod 5).toNat := five_of (by rw [Int.tmod_eq_emod_of_nonneg hs.1]; omega)
 have hj : five (t.tmod 5).toNat := five_of (by rw [Int.tmod_eq_emod_of_nonneg ht.1]; omega)
 have s0 : 0 ≤ s.tmod 5 ∧ s.tmod 5 < 5 := by rw [Int.tmod_eq_emod_of_nonneg hs.1]; omega
 have t0 : 0 ≤ t.tmod 5 ∧ t.tmod 5 < 5 := by rw [Int.tmod_eq_emod_of_nonneg ht.1]; omega
 have hlen := lens hi hj (show a.toNat < 256 by omega) (show b.toNat < 256 by omega) (show c.toNat < 256 by omega)
 have xs := sg_at hi
 have xt := sg_at hj
 have rs := rk_at hi
 have rt := rk_at hj
 have x0 : (dgL (dgR a.toNat) (dgR b.toNat) (dgR c.toNat))[Int.toNat 0]? = some [.str (dgR a.toNat)] := rfl
 have x1 : (dgL (dgR a.toNat) (dgR b.toNat) (dgR c.toNat))[Int.toNat 1]? = some [.str (dgR b.toNat)] := rfl
 have x2 : (dgL (dgR a.toNat) (dgR b.toNat) (dgR c.toNat))[Int.toNat 2]? = some [.str (dgR c.toNat)] := rfl
 have oL := of_left hi hj (show a.toNat < 256 by omega) (show b.toNat < 256 by omega) (show c.toNat < 256 by omega)
 have oR := of_right hi hj (show a.toNat < 256 by omega) (show b.toNat < 256 by omega) (show c.toNat < 256 by omega)
 have oF := of_flat hi hj (show a.toNat < 256 by omega) (show b.toNat < 256 by omega) (show c.toNat < 256 by omega)
 have oN := of_none hi hj (show a.toNat < 256 by omega) (show b.toNat < 256 by omega) (show c.toNat < 256 by omega)
 have hLR := left_right (s.tmod 5).toNat (t.tmod 5).toNat a.toNat b.toNat c.toNat
 have smL := small_of (txL (s.tmod 5).toNat (t.tmod 5).toNat a.toNat b.toNat c.toNat)
 have smR := small_of (txR (s.tmod 5).toNat (t.tmod 5).toNat a.toNat b.toNat c.toNat)
 rw [oL] at smL
 rw [oR] at smR
 have h1 : ∀ X : List UInt8, X.length < 100 → Ret P0 n_parse_Of [.str X] (.tuple [pgD (ofR X).1, I (ofR X).2]) := fun X hX => s_parse_Of X (by omega)
 have hF := h1 (txF (s.tmod 5).toNat (t.tmod 5).toNat a.toNat b.toNat c.toNat) (by simp [txF, preS]; omega)
 have hL := h1 (txL (s.tmod 5).toNat (t.tmod 5).toNat a.toNat b.toNat c.toNat) (by simp [txL, preS]; omega)
 have hR := h1 (txR (s.tmod 5).toNat (t.tmod 5).toNat a.toNat b.toNat c.toNat) (by simp [txR, preS]; omega)
 rw [oL, txL_eq] at hL
 rw [oR, txR_eq] at hR
 generalize hpL : pgOf ([], retF (eL (s.tmod 5).toNat (t.tmod 5).toNat a.toNat b.toNat c.toNat)) = pL at *
 generalize hpR : pgOf ([], retF (eR (s.tmod 5).toNat (t.tmod 5).toNat a.toNat b.toNat c.toNat)) = pR at *
 have hL : Ret P0 n_parse_Of [.str (pre40 ++ dgR a.toNat ++ sgn5 (s.tmod 5).toNat ++ dgR b.toNat ++ [41] ++ sgn5 (t.tmod 5).toNat ++ dgR c.toNat ++ [59, 125])] (.tuple [pgD pL, I 0]) := hL
 have hR : Ret P0 n_parse_Of [.str (pre32' ++ dgR a.toNat ++ sgn5 (s.tmod 5).toNat ++ [40] ++ dgR b.toNat ++ sgn5 (t.tmod 5).toNat ++ dgR c.toNat ++ [41, 59, 125])] (.tuple [pgD pR, I 0]) := hR
 have hF : Ret P0 n_parse_Of [.str (pre32' ++ dgR a.toNat ++ sgn5 (s.tmod 5).toNat ++ dgR b.toNat ++ sgn5 (t.tmod 5).toNat ++ dgR c.toNat ++ [59, 125])] (.tuple [pgD (ofR (txF (s.tmod 5).toNat (t.tmod 5).toNat a.toNat b.toNat c.toNat)).1, I (ofR (txF (s.tmod 5).toNat (t.tmod 5).toNat a.toNat b.toNat c.toNat)).2]) := by rw [← txF_eq]; exact hF
 have smF := small_of (txF (s.tmod 5).toNat (t.tmod 5).toNat a.toNat b.toNat c.toNat)
 clear oL oR h1
 generalize ofR (txF (s.tmod 5).toNat (t.tmod 5).toNat a.toNat b.toNat c.toNat) = oo at *
 obtain ⟨pF, eF⟩ := oo
 have hN : (rk5 (s.tmod 5).toNat : Int) = 1 → (rk5 (t.tmod 5).toNat : Int) = 1 → eF = 3 := fun n1 n2 => by
   have := oN ⟨by omega, by omega⟩
   injection this
 have hle : ¬ ((rk5 (s.tmod 5).toNat : Int) = 1 ∧ (rk5 (t.tmod 5).toNat : Int) = 1) → (rk5 (t.tmod 5).toNat : Int) ≤ (rk5 (s.tmod 5).toNat : Int) → eF = 0 ∧ pF = pL := fun n1 n2 => by
   have := oF (by omega)
   rw [if_pos (by omega)] at this
   injection this with e1 e2
   exact ⟨e2, e1.trans hpL⟩
 have hgt : ¬ ((rk5 (s.tmod 5).toNat : Int) = 1 ∧ (rk5 (t.tmod 5).toNat : Int) = 1) → ¬ (rk5 (t.tmod 5).toNat : Int) ≤ (rk5 (s.tmod 5).toNat : Int) → eF = 0 ∧ pF = pR ∧ ¬ pF = pL := fun n1 n2 => by
   have := oF (by omega)
   rw [if_neg (by omega)] at this
   injection this with e1 e2
   exact ⟨e2, e1.trans hpR, by rw [e1, hpR]; exact hLR⟩
 have smL' := s_ref05_Same pF pL smF smL
 have smR' := s_ref05_Same pF pR smF smR
 have hF : Ret P0 n_parse_Of [.str (pre32' ++ dgR a.toNat ++ sgn5 (s.tmod 5).toNat ++ dgR b.toNat ++ sgn5 (t.tmod 5).toNat ++ dgR c.toNat ++ [59, 125])] (.tuple [pgD pF, I eF]) := hF
 clear hpL hpR oF oN hLR smL smR smF
 generalize ((rk5 (s.tmod 5).toNat : Nat) : Int) = r1 at *
 generalize ((rk5 (t.tmod 5).toNat : Nat) : Int) = r2 at *
 generalize dgR a.toNat = A at *
 generalize dgR b.toNat = B at *
 generalize dgR c.toNat = C at *
 generalize sgn5 (s.tmod 5).toNat = S at *
 generalize sgn5 (t.tmod 5).toNat = T at *
 have l1 := hlen.1
 have l2 := hlen.2.1
 have l3 := hlen.2.2.1
 have l4 := hlen.2.2.2.1
 have l5 := hlen.2.2.2.2
 clear hlen hi hj ha hb hc
 refine Ret_by is_law05_ParseLeft rfl ?_
 ((repeat' first|refine aw ?_|refine bw (fun _=>?_) fun _=>?_))
 clear da db dc
 refine WT_draw (lfS s t S T A B C [(16, .d (I eF)), (15, .ptr 0 0)] [(0, pgB pF)] 1) ?_ ?_
 · clear hL hR xs xt rs rt hN hle hgt smL' smR' al s0 t0
   repeat' first | refine WT_yes (by simp only [List.length_append, List.length_cons, List.length_nil]; omega) ?_ | refine WT_elem _ x0 ?_ | refine WT_elem _ x1 ?_ | refine WT_elem _ x2 ?_ | refine WT_call _ hF ?_ | refine WT_ixm (by decide) ?_ | refine WT_same rfl ?_ | refine WT_t rfl ?_
   exact WT_done (Or.inl ⟨rfl, by exact Uw.wW⟩)
 clear hF
 refine WT_draw (lfS s t S T A B C [(18, .d (I 0)), (17, .ptr 1 0), (16, .d (I eF)), (15, .ptr 0 0)] [(1, pgB pL), (0, pgB pF)] 2) ?_ ?_
 · clear hR xs xt rs rt hN hle hgt smL' smR' al s0 t0
   repeat' first | refine WT_yes (by simp only [List.length_append, List.length_cons, List.length_nil]; omega) ?_ | refine WT_elem _ x0 ?_ | refine WT_elem _ x1 ?_ | refine WT_elem _ x2 ?_ | refine WT_call _ hL ?_ | refine WT_ixm (by decide) ?_ | refine WT_same rfl ?_ | refine WT_t rfl ?_
   exact WT_done (Or.inl ⟨rfl, by exact Uw.wW⟩)
 clear hL
 refine WT_draw (lfS s t S T A B C [(20, .d (I 0)), (19, .ptr 2 0), (18, .d (I 0)), (17, .ptr 1 0), (16, .d (I eF)), (15, .ptr 0 0)] [(2, pgB pR), (1, pgB pL), (0, pgB pF)] 3) ?_ ?_
 · clear xs xt rs rt hN hle hgt smL' smR' al s0 t0
   repeat' first | refine WT_yes (by simp only [List.length_append, List.length_cons, List.length_nil]; omega) ?_ | refine WT_elem _ x0 ?_ | refine WT_elem _ x1 ?_ | refine WT_elem _ x2 ?_ | refine WT_call _ hR ?_ | refine WT_ixm (by decide) ?_ | refine WT_same rfl ?_ | refine WT_t rfl ?_
   exact WT_done (Or.inl ⟨rfl, by exact Uw.wW⟩)
 clear hR xs xt x0 x1 x2
 ((repeat' first|refine aw ?_|refine bw (fun _=>?_) fun _=>?_))
 all_goals first
   | exact WT_ret rfl rfl rfl rfl (congrArg Dat.bool (decide_eq_true (hN (by omega) (by omega))))
   | exact WT_ret rfl rfl rfl rfl (congrArg Dat.bool (decide_eq_true (hle (by omega) (by omega)).2))
   | exact WT_ret rfl rfl rfl rfl (congrArg (fun b => Dat.bool (!b)) (decide_eq_false (hgt (by omega) (by omega)).2.2))
   | exact absurd (hgt (by omega) (by omega)).2.1 (by assumption)
end Uw.Tryd
