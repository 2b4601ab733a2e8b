/- Ng: Rb (merged by merge2.py from the working texts). -/
import Derived.Test.YticfdjaklojglaaDoorNf
set_option maxRecDepth 4000
set_option maxHeartbeats 2000000
set_option linter.unusedSimpArgs false
set_option linter.unnecessarySimpa false
set_option linter.unusedVariables false
set_option linter.unusedSectionVars false
namespace Uw.Tryd
open Go Uw
theorem wf_u16 {n : Int} (h : (Lit.int .u16 n).wf = true) : 0 ≤ n ∧ n < 65536 := by
 simp [Lit.wf, IntKind.min, IntKind.max, IntKind.signed, IntKind.bits] at h; omega
abbrev rawC (a : Int) (l : List Tok) : List (List Dat) := List.drop (Int.toNat 0) (List.take (a.tmod ((List.map tokL l).length : Int)).toNat (List.map tokL l))
abbrev rawT {α β : Type} (g : α → List Dat) (h : β → List Dat) (q : List β) (p : List α) : List (List Dat) := List.drop (Int.toNat 0) (List.take (mmI false ((List.map h q).length : Int) ((List.map g p).length : Int)).toNat (List.map g p))
theorem rawT_eq {α β : Type} (g : α → List Dat) (h : β → List Dat) (q : List β) (p : List α) : rawT g h q p = (p.take (min q.length p.length)).map g := by
 have e : (mmI false ((List.map h q).length : Int) ((List.map g p).length : Int)).toNat = min q.length p.length := by
   have : mmI false ((List.map h q).length : Int) ((List.map g p).length : Int) = min ((List.map h q).length : Int) ((List.map g p).length : Int) := rfl
   rw [this, List.length_map, List.length_map]
   omega
 unfold rawT
 rw [e, show Int.toNat 0 = 0 from rfl, List.drop_zero, List.map_take]
theorem mm_ok {α β : Type} (g : α → List Dat) (h : β → List Dat) (q : List β) (p : List α) : (decide ((0 : Int) ≤ 0) && decide ((0 : Int) ≤ mmI false ((List.map h q).length : Int) ((List.map g p).length : Int)) && decide (mmI false ((List.map h q).length : Int) ((List.map g p).length : Int) ≤ ((List.map g p).length : Int))) = true := by
 have : mmI false ((List.map h q).length : Int) ((List.map g p).length : Int) = min ((List.map h q).length : Int) ((List.map g p).length : Int) := rfl
 rw [this]
 simp
 omega
def cutP (p q : Pg) : Pg := ⟨p.decls.take (min q.decls.length p.decls.length), p.funs.take (min q.funs.length p.funs.length), p.nodes.take (min q.nodes.length p.nodes.length)⟩
theorem cut_plain {l : List Tok} (h : (ofT l).2 = 0) (n : Nat) (hn : n < l.length) : ofT (l.take n) = (noPg, 3) ∨ ((ofT (l.take n)).2 = 0 ∧ n ≠ l.length - 1 ∧ cutP (ofT l).1 (ofT (l.take n)).1 = (ofT (l.take n)).1) := by
 obtain ⟨ds, fs, h1, h2, h3⟩ := ofT_ok h
 have h4 := deepT_take l n
 by_cases h5 : (ofT (l.take n)).2 = 0
 · right
   obtain ⟨ds1, fs1, g1, g2, g3⟩ := ofT_ok h5
   have hl : Prg (l.take n ++ l.drop n) ds fs := by rw [List.take_append_drop]; exact h1
   obtain ⟨⟨ds2, fs2, e1, e2⟩, e3⟩ := g1.cut hl
   refine ⟨h5, ?_, ?_⟩
   · rw [List.length_drop] at e3; omega
   · rw [h2, g2]
     subst e1 e2
     unfold cutP
     have a1 : (ds1 ++ ds2).take (min ds1.length (ds1 ++ ds2).length) = ds1 := by
       rw [Nat.min_eq_left (by simp)]; simp
     have a2 : (funsF (fs1 ++ fs2) 0).take (min (funsF fs1 0).length (funsF (fs1 ++ fs2) 0).length) = funsF fs1 0 := by
       rw [funsF_app, Nat.min_eq_left (by simp)]; simp
     have a3 : ((nodesF (fs1 ++ fs2) 0).map Nod.nd).take (min ((nodesF fs1 0).map Nod.nd).length ((nodesF (fs1 ++ fs2) 0).map Nod.nd).length) = (nodesF fs1 0).map Nod.nd := by
       rw [nodesF_app, Nat.min_eq_left (by simp)]; simp
     show _ = Pg.mk ds1 (funsF fs1 0) ((nodesF fs1 0).map Nod.nd)
     have a2' : (pgOf (ds1 ++ ds2, fs1 ++ fs2)).funs = funsF (fs1 ++ fs2) 0 := rfl
     have a3' : (pgOf (ds1 ++ ds2, fs1 ++ fs2)).nodes = (nodesF (fs1 ++ fs2) 0).map Nod.nd := rfl
     have b2 : (pgOf (ds1, fs1)).funs = funsF fs1 0 := rfl
     have b3 : (pgOf (ds1, fs1)).nodes = (nodesF fs1 0).map Nod.nd := rfl
     have b1 : (pgOf (ds1, fs1)).decls = ds1 := rfl
     have a1' : (pgOf (ds1 ++ ds2, fs1 ++ fs2)).decls = ds1 ++ ds2 := rfl
     simp only [a1', a2', a3', b1, b2, b3]
     rw [a1, a2, a3]
 · exact .inl (ofT_bad h5 (by omega))
theorem l_ParseCut (s : List UInt8) (a : Int) (ha : 0 ≤ a ∧ a < 65536) : Ret P0 n_law05_ParseCut [.str s, .int .u16 a] (.bool true) := by
 have al := s_law05_alive
 by_cases hs : 1500 < s.length
 · refine Ret_by is_law05_ParseCut rfl ?_
   ((repeat' first|refine aw ?_|refine bw (fun _=>?_) fun _=>?_))
   exact WT_ret rfl rfl rfl rfl rfl
 have hw := s_lex_Words s (by omega)
 have ho := s_parse_Of s (by omega)
 cases hx : lexF s 0 with
 | none =>
   have e1 : wordsR s = ([], 3) := by unfold wordsR; rw [if_neg (by omega), hx]
   rw [e1] at hw
   rw [ofR_none hx (by omega)] at ho
   have hw : Ret P0 n_lex_Words [.str s] (.tuple [toksD [], I 3]) := hw
   have ho : Ret P0 n_parse_Of [.str s] (.tuple [pgD noPg, I 3]) := ho
   refine Ret_by is_law05_ParseCut rfl ?_
   ((repeat' first|refine aw ?_|refine bw (fun _=>?_) fun _=>?_))
   exact WT_ret rfl rfl rfl rfl rfl
 | some l =>
   have e1 : wordsR s = (l, 0) := by unfold wordsR; rw [if_neg (by omega), hx]
   rw [e1] at hw
   have hw : Ret P0 n_lex_Words [.str s] (.tuple [toksD l, I 0]) := hw
   have e3 := ofR_some hx (by omega)
   have ht := words_total hx
   have hsm := small_of s
   rw [e3] at ho hsm
   have hm : (l.map tokL).length = l.length := by simp
   have ho : Ret P0 n_parse_Of [.str s] (.tuple [pgD (ofT l).1, I (ofT l).2]) := ho
   by_cases he0 : (ofT l).2 = 0
   rotate_left
   · generalize ofT l = o at *
     obtain ⟨p, e⟩ := o
     simp only at ho he0
     refine Ret_by is_law05_ParseCut rfl ?_
     ((repeat' first|refine aw ?_|refine bw (fun _=>?_) fun _=>?_))
     exact WT_ret rfl rfl rfl rfl rfl
   by_cases hl0 : l.length = 0
   · rw [he0] at ho
     generalize (ofT l).1 = p at *
     refine Ret_by is_law05_ParseCut rfl ?_
     ((repeat' first|refine aw ?_|refine bw (fun _=>?_) fun _=>?_))
     exact WT_ret rfl rfl rfl rfl rfl
   generalize hn : a.toNat % l.length = n
   have hnl : n < l.length := by rw [← hn]; exact Nat.mod_lt _ (by omega)
   have hnI : a % (l.length : Int) = (n : Int) := by rw [← hn, Int.natCast_emod, Int.toNat_of_nonneg ha.1]
   have hc := cut_plain he0 n hnl
   have e2 := ofR_lines 32 (by decide) hx (by omega) n
   have hle := lines_le 32 l
   have hlt := lines_take 32 l
   have ho2 := s_parse_Of (linesT 32 (l.take n)) (by have := lines_le 32 l n; omega)
   have hsm2 := small_of (linesT 32 (l.take n))
   rw [e2] at ho2 hsm2
   rw [he0] at ho
   have hT : a.tmod ((l.map tokL).length : Int) = (n : Int) := by rw [hm, Int.tmod_eq_emod_of_nonneg ha.1, hnI]
   have hmk : (decide ((0 : Int) ≤ 0) && decide ((0 : Int) ≤ a.tmod ((l.map tokL).length : Int)) && decide (a.tmod ((l.map tokL).length : Int) ≤ ((l.map tokL).length : Int))) = true := by rw [hT]; simp; omega
   have hraw : rawC a l = (l.take n).map tokL := by unfold rawC; rw [hT]; simp
   have hrl : (rawC a l).length = n := by rw [hraw]; simp; omega
   have he : ∀ (j : Nat) (h : j < n), (rawC a l)[(j : Int).toNat]? = some (tokL (l[j]'(by omega))) := by
     intro j h
     rw [hraw, show ((j : Nat) : Int).toNat = j by omega]
     rw [map_get _ _ _ (by simp; omega)]
     simp
   generalize hq : (ofT (l.take n)) = q at *
   generalize (ofT l).1 = p at *
   obtain ⟨q, g⟩ := q
   simp only at hc ho2 hsm2
   rcases hc with hc | ⟨hg0, hne, hcut⟩
   · injection hc with e4 e5
     subst e4 e5
     have ho2 : Ret P0 n_parse_Of [.str (linesT 32 (l.take n))] (.tuple [pgD noPg, I 3]) := ho2
     refine Ret_by is_law05_ParseCut rfl ?_
     ((repeat' first|refine aw ?_|refine bw (fun _=>?_) fun _=>?_))
     refine WT_loop (fun (j : Nat) => ⟨[(50, .d (I j)), (49, .d (I (rawC a l).length)), (48, .d (.slice 4 (rawC a l) false)), (10, .d (.str (linesT 32 (l.take j)))), (9, .d (I (a.tmod ((List.map tokL l).length : Int)))), (7, .d (toksD l)), (5, .ptr 0 0)], [(0, .var [.d (.slice 3 (p.decls.map decL) false), .d (.slice 3 (p.funs.map fuL) false), .d (.slice 5 (p.nodes.map ndL) false)])], 1, [], 0⟩)
       (fun j => j ≤ n) (fun j => n - j) 0 (by exact Uw.wW) (Nat.zero_le _) ?_
     intro j hj
     by_cases h : j < n
     · have he := he j h
       have hlt := hlt j (by omega)
       have hle1 := hle (j + 1)
       rw [hlt] at hle1
       simp only [List.length_append, List.length_cons, List.length_nil] at hle1
       have hlt := hlt.symm
       clear hle e2 hraw
       generalize l[j]'(by omega) = x at *
       ((repeat' first|refine aw ?_|refine bw (fun _=>?_) fun _=>?_))
       exact WT_again (j + 1) (by omega) (by show _ < _; omega) (by exact Uw.wW)
     · have hj0 : j = n := by omega
       subst hj0
       clear hle hlt
       ((repeat' first|refine aw ?_|refine bw (fun _=>?_) fun _=>?_))
       refine WT_break ?_
       ((repeat' first|refine aw ?_|refine bw (fun _=>?_) fun _=>?_))
       all_goals exact WT_ret rfl rfl rfl rfl rfl
   · have hg0 : g = 0 := hg0
     subst hg0
     have hcut : cutP p q = q := hcut
     have hk1 := mm_ok decL decL q.decls p.decls
     have hk2 := mm_ok fuL fuL q.funs p.funs
     have hk3 := mm_ok ndL ndL q.nodes p.nodes
     have hsame : Ret P0 n_ref05_Same [.agg [.slice 3 (rawT decL decL q.decls p.decls) false, .slice 3 (rawT fuL fuL q.funs p.funs) false, .slice 5 (rawT ndL ndL q.nodes p.nodes) false], pgD q] (.bool true) := by
       rw [rawT_eq, rawT_eq, rawT_eq]
       have := s_ref05_Same (cutP p q) q (by rw [hcut]; exact hsm2) hsm2
       rw [decide_eq_true hcut] at this
       exact this
     have ho2 : Ret P0 n_parse_Of [.str (linesT 32 (l.take n))] (.tuple [pgD q, I 0]) := ho2
     have hneI : ¬ (a.tmod ((l.map tokL).length : Int) = ((l.map tokL).length : Int) - 1) := by rw [hT, hm]; omega
     refine Ret_by is_law05_ParseCut rfl ?_
     ((repeat' first|refine aw ?_|refine bw (fun _=>?_) fun _=>?_))
     refine WT_loop (fun (j : Nat) => ⟨[(50, .d (I j)), (49, .d (I (rawC a l).length)), (48, .d (.slice 4 (rawC a l) false)), (10, .d (.str (linesT 32 (l.take j)))), (9, .d (I (a.tmod ((List.map tokL l).length : Int)))), (7, .d (toksD l)), (5, .ptr 0 0)], [(0, .var [.d (.slice 3 (p.decls.map decL) false), .d (.slice 3 (p.funs.map fuL) false), .d (.slice 5 (p.nodes.map ndL) false)])], 1, [], 0⟩)
       (fun j => j ≤ n) (fun j => n - j) 0 (by exact Uw.wW) (Nat.zero_le _) ?_
     intro j hj
     by_cases h : j < n
     · have he := he j h
       have hlt := hlt j (by omega)
       have hle1 := hle (j + 1)
       rw [hlt] at hle1
       simp only [List.length_append, List.length_cons, List.length_nil] at hle1
       have hlt := hlt.symm
       clear hle e2 hraw
       generalize l[j]'(by omega) = x at *
       ((repeat' first|refine aw ?_|refine bw (fun _=>?_) fun _=>?_))
       exact WT_again (j + 1) (by omega) (by show _ < _; omega) (by exact Uw.wW)
     · have hj0 : j = n := by omega
       subst hj0
       clear hle hlt
       ((repeat' first|refine aw ?_|refine bw (fun _=>?_) fun _=>?_))
       refine WT_break ?_
       ((repeat' first|refine aw ?_|refine bw (fun _=>?_) fun _=>?_))
       refine WT_draw ⟨[(13, .ptr 1 0), (5, .ptr 0 0)], [(0, .var [.d (.slice 3 (rawT decL decL q.decls p.decls) false), .d (.slice 3 (rawT fuL fuL q.funs p.funs) false), .d (.slice 5 (rawT ndL ndL q.nodes p.nodes) false)]), (1, .var [.d (Dat.slice 3 (List.map decL q.decls) false), .d (Dat.slice 3 (List.map fuL q.funs) false), .d (Dat.slice 5 (List.map ndL q.nodes) false)])], 2, [], 0⟩ ?_ ?_
       · ((repeat' first|refine aw ?_|refine bw (fun _=>?_) fun _=>?_))
         repeat' first | refine WT_both ?_ ?_ | refine aw ?_
         all_goals exact WT_done (Or.inl ⟨rfl, by exact Uw.wW⟩)
       · ((repeat' first|refine aw ?_|refine bw (fun _=>?_) fun _=>?_))
         exact WT_ret rfl rfl rfl rfl rfl
end Uw.Tryd
