/- Nk: Re (merged by merge2.py from the working texts). -/
import Derived.Test.YticfdjaklojglaaDoorNe
import Derived.Test.YticfdjaklojglaaDoorNj
set_option maxRecDepth 4000
set_option maxHeartbeats 2000000
set_option linter.unusedSimpArgs false
set_option linter.unnecessarySimpa false
set_option linter.unusedVariables false
set_option linter.unusedSectionVars false
namespace Uw.Tryd
open Go Uw
theorem rep_more (c : UInt8) (k : Nat) : List.replicate k c ++ [c] = List.replicate (k + 1) c := by
 rw [List.replicate_succ']
abbrev pre32 : List UInt8 := [102, 117, 110, 99, 32, 109, 97, 105, 110, 40, 41, 123, 114, 101, 116, 117, 114, 110, 32]
theorem brS_app (k : Nat) (s : List UInt8) : pre32 ++ List.replicate k 40 ++ s ++ List.replicate k 41 ++ [59, 125] = brS k s := by
 simp [brS, pre32, preS]
theorem brS_zero (s : List UInt8) : pre32 ++ s ++ [59, 125] = brS 0 s := by
 simp [brS, pre32, preS]
abbrev brSt (s : List UInt8) (a e f : Int) (L : List Tok) (p : Pg) (j : Nat) : St := ⟨[(34, .d (I j)), (33, .d (I (a.tmod 60))), (11, .d (.str (List.replicate j 41))), (10, .d (.str (List.replicate j 40))), (9, .d (I (a.tmod 60))), (8, .d (I f)), (7, .d (toksD L)), (6, .d (I e)), (5, .ptr 0 0), (0, .d (.str s))], [(0, .var [.d (Dat.slice 3 (List.map decL p.decls) false), .d (Dat.slice 3 (List.map fuL p.funs) false), .d (Dat.slice 5 (List.map ndL p.nodes) false)])], 1, [], 0⟩
theorem l_ParseBrackets (s : List UInt8) (a : Int) (ha : 0 ≤ a ∧ a < 256) : Ret P0 n_law05_ParseBrackets [.str s, .int .u8 a] (.bool true) := by
 have al := s_law05_alive
 by_cases hs : 1500 < s.length
 · refine Ret_by is_law05_ParseBrackets rfl ?_
   ((repeat' first|refine aw ?_|refine bw (fun _=>?_) fun _=>?_))
   exact WT_ret rfl rfl rfl rfl rfl
 have hw := s_lex_Words s (by omega)
 generalize hk : a.toNat % 60 = k
 have hk60 : k < 60 := by rw [← hk]; exact Nat.mod_lt _ (by omega)
 have hkI : a.tmod 60 = (k : Int) := by rw [Int.tmod_eq_emod_of_nonneg ha.1, ← hk]; omega
 have hlen : ∀ j, j < 60 → (brS j s).length < 1000000 := fun j hj => by simp [brS, preS]; omega
 have ho := s_parse_Of (brS 0 s) (hlen 0 (by omega))
 have ho2 := s_parse_Of (brS k s) (hlen k hk60)
 have sm1 := small_of (brS 0 s)
 have sm2 := small_of (brS k s)
 have hwl : (wordsR s).1.length < 1000000 := by have := words_short s; omega
 have hdp := s_parse_Depth (wordsR s).1 hwl
 have hdl : deepT (wordsR s).1 0 0 ≤ (wordsR s).1.length := by have := deepT_le (wordsR s).1 0 0 (Int.le_refl 0); omega
 have hdg := deepT_ge (wordsR s).1 0 0
 have hmain : (ofR (brS 0 s)).2 = 0 → (wordsR s).2 = 0 → (ofR (brS 0 s)).1.funs.length = 1 → ∀ x, (ofR (brS 0 s)).1.nodes.getLast? = some x → x.of.length = 1 →
     (40 < 1 + (k : Int) + deepT (wordsR s).1 0 0 → (ofR (brS k s)).2 = 2) ∧ (1 + (k : Int) + deepT (wordsR s).1 0 0 ≤ 40 → (ofR (brS k s)).2 = 0 ∧ (ofR (brS 0 s)).1 = (ofR (brS k s)).1) := by
   intro h0 hw0 h1 x hx h2
   have hL : ∃ L, lexF s 0 = some L ∧ (wordsR s).1 = L := by
     unfold wordsR at hw0 ⊢
     rw [if_neg (by omega)] at hw0 ⊢
     cases hx : lexF s 0 with
     | none => rw [hx] at hw0; cases hw0
     | some L => exact ⟨L, rfl, rfl⟩
   obtain ⟨L, hL1, hL2⟩ := hL
   have := brackets_plain hL1 (by omega) k hk60 h0 h1 x hx h2
   rw [hL2]
   exact ⟨fun h => by rw [this.1 h], fun h => by rw [this.2 h, h0]; exact ⟨rfl, rfl⟩⟩
 have hwt : Ret P0 n_lex_Words [.str s] (.tuple [toksD (wordsR s).1, I (wordsR s).2]) := hw
 rw [show ofOut (ofR (brS 0 s)) = .tuple [pgD (ofR (brS 0 s)).1, I (ofR (brS 0 s)).2] from rfl, ← brS_zero] at ho
 rw [show ofOut (ofR (brS k s)) = .tuple [pgD (ofR (brS k s)).1, I (ofR (brS k s)).2] from rfl, ← brS_app] at ho2
 rw [← brS_zero, ← brS_app] at hmain
 rw [← brS_zero] at sm1
 rw [← brS_app] at sm2
 have hsame := s_ref05_Same _ _ sm1 sm2
 generalize (ofR (pre32 ++ s ++ [59, 125])) = o1 at *
 generalize (ofR (pre32 ++ List.replicate k 40 ++ s ++ List.replicate k 41 ++ [59, 125])) = o2 at *
 obtain ⟨p, e⟩ := o1
 obtain ⟨q, g⟩ := o2
 generalize (wordsR s).2 = f at *
 generalize deepT (wordsR s).1 0 0 = D at *
 clear hw
 generalize (wordsR s).1 = L at *
 have ho : Ret P0 n_parse_Of [.str (pre32 ++ s ++ [59, 125])] (.tuple [pgD p, I e]) := ho
 have ho2 : Ret P0 n_parse_Of [.str (pre32 ++ List.replicate k 40 ++ s ++ List.replicate k 41 ++ [59, 125])] (.tuple [pgD q, I g]) := ho2
 have hmain : e = 0 → f = 0 → p.funs.length = 1 → ∀ x, p.nodes.getLast? = some x → x.of.length = 1 →
     (40 < 1 + (k : Int) + D → g = 2) ∧ (1 + (k : Int) + D ≤ 40 → g = 0 ∧ p = q) := hmain
 have hsame : Ret P0 n_ref05_Same [pgD p, pgD q] (.bool (decide (p = q))) := hsame
 have mf : (p.funs.map fuL).length = p.funs.length := by simp
 have mn : (p.nodes.map ndL).length = p.nodes.length := by simp
 generalize p.funs.length = fl at *
 have hinv : ∀ j : Nat, List.replicate j (40 : UInt8) ++ [40] = List.replicate (j + 1) 40 ∧ List.replicate j (41 : UInt8) ++ [41] = List.replicate (j + 1) 41 := fun j => ⟨rep_more _ _, rep_more _ _⟩
 have hlr : ∀ j : Nat, (List.replicate j (40 : UInt8)).length = j ∧ (List.replicate j (41 : UInt8)).length = j := fun j => by simp
 have ms : p.nodes.length < 1000000 := sm1.nodes
 by_cases hn0 : p.nodes.length = 0
 · refine Ret_by is_law05_ParseBrackets rfl ?_
   ((repeat' first|refine aw ?_|refine bw (fun _=>?_) fun _=>?_))
   refine WT_loop (fun (j : Nat) => brSt s a e f L p j) (fun j => j ≤ k) (fun j => k - j) 0 (by exact Uw.wW) (Nat.zero_le _) ?_
   intro j hj
   by_cases h : j < k
   · have h1 := (hinv j).1
     have h1' := (hinv j).2
     have h2 := (hlr j).1
     have h2' := (hlr j).2
     clear hinv hlr hmain
     ((repeat' first|refine aw ?_|refine bw (fun _=>?_) fun _=>?_))
     exact WT_again (j + 1) (by omega) (by show _ < _; omega) (by exact Uw.wW)
   · have hj0 : j = k := by omega
     subst hj0
     have h2 := (hlr j).1
     have h2' := (hlr j).2
     clear hinv hlr hmain
     refine WT_no (by omega) ?_
     refine WT_break ?_
     ((repeat' first|refine aw ?_|refine bw (fun _=>?_) fun _=>?_))
     all_goals exact WT_ret rfl rfl rfl rfl rfl
 · have hx : ∃ x, p.nodes.getLast? = some x ∧ (p.nodes.map ndL)[(((p.nodes.map ndL).length : Int) - 1).toNat]? = some (ndL x) := by
     refine ⟨p.nodes[p.nodes.length - 1]'(by omega), ?_, ?_⟩
     · rw [List.getLast?_eq_getElem?]; exact List.getElem?_eq_getElem _
     · rw [mn, show ((p.nodes.length : Int) - 1).toNat = p.nodes.length - 1 by omega, map_get _ _ _ (by omega)]
   obtain ⟨x, hx1, hx2⟩ := hx
   have hmain := fun h0 h1 h2 => hmain h0 h1 h2 x hx1
   have mo : (x.of.map fun i => [I i]).length = x.of.length := by simp
   refine Ret_by is_law05_ParseBrackets rfl ?_
   ((repeat' first|refine aw ?_|refine bw (fun _=>?_) fun _=>?_))
   refine WT_loop (fun (j : Nat) => brSt s a e f L p j) (fun j => j ≤ k) (fun j => k - j) 0 (by exact Uw.wW) (Nat.zero_le _) ?_
   intro j hj
   by_cases h : j < k
   · have h1 := (hinv j).1
     have h1' := (hinv j).2
     have h2 := (hlr j).1
     have h2' := (hlr j).2
     clear hinv hlr hmain
     ((repeat' first|refine aw ?_|refine bw (fun _=>?_) fun _=>?_))
     exact WT_again (j + 1) (by omega) (by show _ < _; omega) (by exact Uw.wW)
   · have hj0 : j = k := by omega
     subst hj0
     have h2 := (hlr j).1
     have h2' := (hlr j).2
     clear hinv hlr
     refine WT_no (by omega) ?_
     refine WT_break ?_
     ((repeat' first|refine aw ?_|refine bw (fun _=>?_) fun _=>?_))
     all_goals first
       | exact WT_ret rfl rfl rfl rfl rfl
       | exact WT_ret rfl rfl rfl rfl (congrArg Dat.bool (decide_eq_true ((hmain (by assumption) (by assumption) (by omega) (by omega)).1 (by omega))))
       | exact WT_ret rfl rfl rfl rfl (congrArg Dat.bool (decide_eq_true ((hmain (by assumption) (by assumption) (by omega) (by omega)).2 (by omega)).2))
       | exact absurd ((hmain (by assumption) (by assumption) (by omega) (by omega)).2 (by omega)).1 (by assumption)
end Uw.Tryd
