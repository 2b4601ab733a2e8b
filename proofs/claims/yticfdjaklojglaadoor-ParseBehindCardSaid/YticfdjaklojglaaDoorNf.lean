/- Nf: Ra (merged by merge2.py from the working texts). -/
import Derived.Test.YticfdjaklojglaaDoorNe
set_option maxRecDepth 4000
set_option maxHeartbeats 2000000
set_option linter.unusedSimpArgs false
set_option linter.unnecessarySimpa false
set_option linter.unusedVariables false
set_option linter.unusedSectionVars false
namespace Uw.Tryd
open Go Uw
theorem lines_take (c : UInt8) (l : List Tok) (j : Nat) (h : j < l.length) : linesT c (l.take (j + 1)) = linesT c (l.take j) ++ (l[j].text ++ [c]) := by
 rw [take_one l j h, linesT, List.flatMap_append]; simp only [List.flatMap_cons, List.flatMap_nil, List.append_nil, linesT]
theorem lines_le (c : UInt8) (l : List Tok) (j : Nat) : (linesT c (l.take j)).length ≤ (l.map fun t => t.text.length + 1).sum := by
 rw [lines_len]; exact take_sum _ l j
theorem l_ParseBlanks (s : List UInt8) : Ret P0 n_law05_ParseBlanks [.str s] (.bool true) := by
 have al := s_law05_alive
 by_cases hs : 1500 < s.length
 · refine Ret_by is_law05_ParseBlanks rfl ?_
   ((repeat' first|refine aw ?_|refine bw (fun _=>?_) fun _=>?_))
   exact WT_ret rfl rfl rfl rfl rfl
 have hw := s_lex_Words s (by omega)
 have ho := s_parse_Of s (by omega)
 cases hx : lexF s 0 with
 | none =>
   have e1 : wordsR s = ([], 3) := by unfold wordsR; rw [if_neg (by omega), hx]
   rw [e1] at hw
   rw [ofR_none hx (by omega)] at ho
   have hw : Ret P0 n_lex_Words [.str s] (.tuple [toksD [], I 3]) := hw
   have ho : Ret P0 n_parse_Of [.str s] (.tuple [pgD noPg, I 3]) := ho
   refine Ret_by is_law05_ParseBlanks rfl ?_
   ((repeat' first|refine aw ?_|refine bw (fun _=>?_) fun _=>?_))
   exact WT_ret rfl rfl rfl rfl rfl
 | some l =>
   have e1 : wordsR s = (l, 0) := by unfold wordsR; rw [if_neg (by omega), hx]
   rw [e1] at hw
   have hw : Ret P0 n_lex_Words [.str s] (.tuple [toksD l, I 0]) := hw
   have e2 := ofR_lines 10 (by decide) hx (by omega) l.length
   rw [List.take_length] at e2
   have e3 := ofR_some hx (by omega)
   have ht := words_total hx
   have hsm := small_of s
   rw [e3] at ho hsm
   have hl2 : (linesT 10 l).length ≤ 3000 := by rw [lines_len]; omega
   have ho2 := s_parse_Of (linesT 10 l) (by omega)
   rw [e2] at ho2
   have hle := lines_le 10 l
   have hlt := lines_take 10 l
   generalize ofT l = o at *
   obtain ⟨p, e⟩ := o
   have hsame := s_ref05_Same p p hsm hsm
   rw [decide_eq_true rfl] at hsame
   have ho : Ret P0 n_parse_Of [.str s] (.tuple [pgD p, I e]) := ho
   have ho2 : Ret P0 n_parse_Of [.str (linesT 10 l)] (.tuple [pgD p, I e]) := ho2
   have hm : (l.map tokL).length = l.length := by simp
   have he : ∀ (j : Nat) (h : j < l.length), (l.map tokL)[(j : Int).toNat]? = some (tokL l[j]) := by
     intro j h
     rw [show ((j : Nat) : Int).toNat = j by omega, map_get _ _ _ h]
   refine Ret_by is_law05_ParseBlanks rfl ?_
   ((repeat' first|refine aw ?_|refine bw (fun _=>?_) fun _=>?_))
   refine WT_loop (fun (j : Nat) => ⟨[(38, .d (I j)), (37, .d (I (l.map tokL).length)), (36, .d (toksD l)), (7, .d (.str (linesT 10 (l.take j)))), (0, .d (.str s))], [], 0, [], 0⟩)
     (fun j => j ≤ l.length) (fun j => l.length - j) 0 (by exact Uw.wW) (Nat.zero_le _) ?_
   intro j hj
   by_cases h : j < l.length
   · have he := he j h
     have hlt := hlt j h
     have hle1 := hle (j + 1)
     rw [hlt] at hle1
     simp only [List.length_append, List.length_cons, List.length_nil] at hle1
     clear hle hl2 e2
     have hlt := hlt.symm
     generalize l[j] = x at *
     ((repeat' first|refine aw ?_|refine bw (fun _=>?_) fun _=>?_))
     exact WT_again (j + 1) (by omega) (by show _ < _; omega) (by exact Uw.wW)
   · have hj0 : j = l.length := by omega
     subst hj0
     rw [List.take_length]
     clear hle hlt
     generalize linesT 10 l = w2 at *
     ((repeat' first|refine aw ?_|refine bw (fun _=>?_) fun _=>?_))
     refine WT_break ?_
     ((repeat' first|refine aw ?_|refine bw (fun _=>?_) fun _=>?_))
     exact WT_ret rfl rfl rfl rfl rfl
end Uw.Tryd
