/- Ni: Rc (merged by merge2.py from the working texts). -/
import Derived.Test.YticfdjaklojglaaDoorNg
set_option maxRecDepth 4000
set_option maxHeartbeats 2000000
set_option linter.unusedSimpArgs false
set_option linter.unnecessarySimpa false
set_option linter.unusedVariables false
set_option linter.unusedSectionVars false
namespace Uw.Tryd
open Go Uw
def shNd (n : Nat) (x : Nd) : Nd := { x with of := x.of.map fun c => c + n }
theorem shN_nd (d : Nat) (x : Nod) : (shN d x).nd = shNd d x.nd := by
 simp [shN, shNd, Nod.nd]
theorem strip_shift (d : Int) (l : List Tok) : (l.map (shiftT d)).map strip = l.map strip := by
 rw [List.map_map]; rfl
theorem behind_plain {a b : List UInt8} {la lb : List Tok} (ha : lexF a 0 = some la) (hb : lexF b 0 = some lb) (hl : a.length + b.length ≤ 1500) {p q : Pg} (h1 : ofT la = (p, 0)) (h2 : ofT lb = (q, 0)) (hq : q.decls = []) :
   ofR (a ++ 10 :: b) = (⟨p.decls, p.funs ++ q.funs.map (shF p.nodes.length), p.nodes ++ q.nodes.map (shNd p.nodes.length)⟩, 0) := by
 have hlex : lexF (a ++ 10 :: b) 0 = some (la ++ lb.map (shiftT (0 + a.length + 1))) := by
   rw [lexF_app 10 (by decide) b _ _ _ (Nat.le_refl _), ha, lexF_from b, hb]; rfl
 rw [ofR_some hlex (by simp; omega)]
 obtain ⟨ds, fs, p1, e1, d1⟩ := ofT_ok (by rw [h1])
 obtain ⟨ds2, fs2, p2, e2, d2⟩ := ofT_ok (by rw [h2])
 rw [h1] at e1
 rw [h2] at e2
 injection e1 with e1 _
 injection e2 with e2 _
 subst e1 e2
 have hds2 : ds2 = [] := hq
 subst hds2
 have hwa := words_ok a
 have hwa' : (wordsR a).1 = la := by unfold wordsR; rw [if_neg (by omega), ha]
 rw [hwa'] at hwa
 have hbal := p1.bal fun t ht => (hwa t ht).wf
 have hd : deepT (la ++ lb) 0 0 ≤ 40 := by
   rw [deepT_app, hbal, deepT_from _ _ _ (by have := deepT_ge la 0 0; omega)]
   omega
 rw [ofT_same (show _ = (la ++ lb).map strip by rw [List.map_append, List.map_append, strip_shift])]
 rw [ofT_prg (p1.app p2) hd]
 have hn : (pgOf (ds, fs)).nodes.length = sizeF fs := by show ((nodesF fs 0).map _).length = _; rw [List.length_map, nodesF_len]
 rw [hn]
 show (Pg.mk ds (funsF (fs ++ fs2) 0) ((nodesF (fs ++ fs2) 0).map Nod.nd), (0 : Int)) = _
 rw [funsF_app, nodesF_app, funsF_sh, nodesF_sh, List.map_append, List.map_map]
 show _ = (Pg.mk ds (funsF fs 0 ++ (funsF fs2 0).map _) ((nodesF fs 0).map Nod.nd ++ ((nodesF fs2 0).map Nod.nd).map _), (0 : Int))
 rw [List.map_map]
 have : (Nod.nd ∘ shN (sizeF fs)) = (shNd (sizeF fs) ∘ Nod.nd) := funext fun x => shN_nd _ x
 rw [this]
theorem app_rows {W0 W1 : List (List Dat)} {x : List Dat} (z : List Dat) (h : W0 ++ [x] = W1) : (List.drop 0 (List.drop (Int.toNat 0) (List.take ((W0.length : Nat) : Int).toNat W0) ++ (List.replicate 1 z).set 0 x)).take ((List.drop (Int.toNat 0) (List.take ((W0.length : Nat) : Int).toNat W0)).length + ((List.replicate 1 z).set 0 x).length) = W1 := by
 have e : List.drop (Int.toNat 0) (List.take ((W0.length : Nat) : Int).toNat W0) = W0 := by
   rw [show Int.toNat 0 = 0 from rfl, List.drop_zero, show ((W0.length : Nat) : Int).toNat = W0.length by omega, List.take_length]
 rw [e, show (List.replicate 1 z).set 0 x = [x] from rfl, List.drop_zero, h]
 rw [← h, List.take_of_length_le (by simp)]
abbrev bhS (p q r : Pg) (j : Nat) (rows : List (List Dat)) : St := ⟨[(63, .d (I j)), (62, .d (I (q.funs.map fuL).length)), (61, .d (.slice 3 (q.funs.map fuL) false)), (11, .d (I (p.nodes.map ndL).length)), (10, .d (I 0)), (9, .ptr 2 0), (7, .ptr 1 0), (5, .ptr 0 0)], [(2, .var [.d (.slice 3 (r.decls.map decL) false), .d (.slice 3 (r.funs.map fuL) false), .d (.slice 5 (r.nodes.map ndL) false)]), (1, .var [.d (.slice 3 (q.decls.map decL) false), .d (.slice 3 (q.funs.map fuL) false), .d (.slice 5 (q.nodes.map ndL) false)]), (0, .var [.d (.slice 3 (p.decls.map decL) false), .d (.slice 3 rows false), .d (.slice 5 (p.nodes.map ndL) false)])], 3, [], 0⟩
abbrev bnS (p q r : Pg) (F : List (List Dat)) (j : Nat) (rows : List (List Dat)) : St := ⟨[(89, .d (I j)), (88, .d (I (q.nodes.map ndL).length)), (87, .d (.slice 5 (q.nodes.map ndL) false)), (11, .d (I (p.nodes.map ndL).length)), (10, .d (I 0)), (9, .ptr 2 0), (5, .ptr 0 0)], [(2, .var [.d (.slice 3 (r.decls.map decL) false), .d (.slice 3 (r.funs.map fuL) false), .d (.slice 5 (r.nodes.map ndL) false)]), (0, .var [.d (.slice 3 (p.decls.map decL) false), .d (.slice 3 F false), .d (.slice 5 rows false)])], 3, [], 0⟩
def shR (x : Nd) (n i : Nat) : List (List Dat) := (x.of.take i).map fun c => [I (c + n)]
abbrev bmS (p q r : Pg) (F W : List (List Dat)) (x : Nd) (j i : Nat) (R : List (List Dat)) : St := ⟨[(96, .d (I i)), (95, .d (I (x.of.map fun i => [I i]).length)), (94, .d (intsD x.of)), (16, .ref 4 0 0 i), (15, .ptr 3 0), (89, .d (I j)), (88, .d (I (q.nodes.map ndL).length)), (87, .d (.slice 5 (q.nodes.map ndL) false)), (11, .d (I (p.nodes.map ndL).length)), (10, .d (I 0)), (9, .ptr 2 0), (5, .ptr 0 0)], [(4, .arr 1 R), (3, .var [.d (I x.kind), .d (I x.n), .d (.str x.name), .d (.str x.name2), .d (intsD x.of)]), (2, .var [.d (.slice 3 (r.decls.map decL) false), .d (.slice 3 (r.funs.map fuL) false), .d (.slice 5 (r.nodes.map ndL) false)]), (0, .var [.d (.slice 3 (p.decls.map decL) false), .d (.slice 3 F false), .d (.slice 5 W false)])], 5, [], 0⟩
theorem full_z {L : Nat} (h : L = 0) : (decide ((0 : Int) = 0) && decide ((L : Int) = 0) && decide ((L : Int) = 0)) = true := by subst h; decide
theorem full_t {L : Nat} (h : ¬ L = 0) : (decide ((0 : Int) ≤ 0) && decide ((0 : Int) < (L : Int)) && decide ((L : Int) = (L : Int)) && decide ((L : Int) ≤ (L : Int))) = true := by simp; omega
theorem full_f {L : Nat} (h : L = 0) : (decide ((0 : Int) ≤ 0) && decide ((0 : Int) < (L : Int)) && decide ((L : Int) = (L : Int)) && decide ((L : Int) ≤ (L : Int))) = false := by subst h; decide
theorem emp_t {α : Type} {l : List α} {n : Nat} (hl : l.length = n) (h : n = 0) : l.isEmpty = true := by cases l with | nil => rfl | cons a r => simp at hl; omega
theorem emp_f {α : Type} {l : List α} {n : Nat} (hl : l.length = n) (h : ¬ n = 0) : l.isEmpty = false := by cases l with | nil => simp at hl; omega | cons a r => rfl
theorem app_none {W0 W1 : List (List Dat)} {x : List Dat} (z : List Dat) (h0 : W0.length = 0) (h : W0 ++ [x] = W1) : (List.drop 0 ((List.replicate 1 z).set 0 x)).take 1 = W1 := by
 rw [List.eq_nil_of_length_eq_zero h0] at h
 rw [← h]; rfl
theorem str_bound {w : World} {J : Nat → Nat → Prop} {s' : List UInt8} {s0 : ByteArray} {n : Nat} (h : RelL w J [.str s'] (Value.string s0).cells.toList) (hn : s'.length ≤ n) : s0.data.toList.length ≤ n := by
 obtain ⟨v, vs, h1, h2, h3⟩ := h
 have h1 : [Value.string s0] = v :: vs := h1
 injection h1 with e1 e2
 subst e1
 have h2 : Value.string s0 = .string ⟨s'.toArray⟩ := h2
 injection h2 with h2
 rw [h2]; simpa using hn
theorem l_ParseBehind (a b : List UInt8) (hra : a.length ≤ 140737488355328) (hrb : b.length ≤ 140737488355328) : Ret P0 n_law05_ParseBehind [.str a, .str b] (.bool true) := by
 have al := s_law05_alive
 by_cases hs : 1500 < a.length + b.length
 · refine Ret_by is_law05_ParseBehind rfl ?_
   ((repeat' first|refine aw ?_|refine bw (fun _=>?_) fun _=>?_))
   exact WT_ret rfl rfl rfl rfl rfl
 have hpa := s_parse_Of a (by omega)
 have hpb := s_parse_Of b (by omega)
 have sma := small_of a
 have smb := small_of b
 have bdb := bnd_of b
 by_cases hea : (ofR a).2 = 0
 rotate_left
 · generalize ofR a = oa at *
   generalize ofR b = ob at *
   obtain ⟨p, e⟩ := oa
   obtain ⟨q, f⟩ := ob
   have hpa : Ret P0 n_parse_Of [.str a] (.tuple [pgD p, I e]) := hpa
   have hpb : Ret P0 n_parse_Of [.str b] (.tuple [pgD q, I f]) := hpb
   simp only at hea
   refine Ret_by is_law05_ParseBehind rfl ?_
   ((repeat' first|refine aw ?_|refine bw (fun _=>?_) fun _=>?_))
   exact WT_ret rfl rfl rfl rfl rfl
 by_cases heb : (ofR b).2 = 0
 rotate_left
 · generalize ofR a = oa at *
   generalize ofR b = ob at *
   obtain ⟨p, e⟩ := oa
   obtain ⟨q, f⟩ := ob
   simp only at hea heb
   subst hea
   have hpa : Ret P0 n_parse_Of [.str a] (.tuple [pgD p, I 0]) := hpa
   have hpb : Ret P0 n_parse_Of [.str b] (.tuple [pgD q, I f]) := hpb
   refine Ret_by is_law05_ParseBehind rfl ?_
   ((repeat' first|refine aw ?_|refine bw (fun _=>?_) fun _=>?_))
   exact WT_ret rfl rfl rfl rfl rfl
 by_cases hdq : (ofR b).1.decls.length = 0
 rotate_left
 · generalize ofR a = oa at *
   generalize ofR b = ob at *
   obtain ⟨p, e⟩ := oa
   obtain ⟨q, f⟩ := ob
   simp only at hea heb hdq
   subst hea heb
   have hpa : Ret P0 n_parse_Of [.str a] (.tuple [pgD p, I 0]) := hpa
   have hpb : Ret P0 n_parse_Of [.str b] (.tuple [pgD q, I 0]) := hpb
   have hm : (q.decls.map decL).length = q.decls.length := by simp
   refine Ret_by is_law05_ParseBehind rfl ?_
   ((repeat' first|refine aw ?_|refine bw (fun _=>?_) fun _=>?_))
   exact WT_ret rfl rfl rfl rfl rfl
 have hla : ∃ la, lexF a 0 = some la := by
   cases h : lexF a 0 with
   | none => rw [ofR_none h (by omega)] at hea; cases hea
   | some la => exact ⟨la, rfl⟩
 have hlb : ∃ lb, lexF b 0 = some lb := by
   cases h : lexF b 0 with
   | none => rw [ofR_none h (by omega)] at heb; cases heb
   | some la => exact ⟨la, rfl⟩
 obtain ⟨la, hla⟩ := hla
 obtain ⟨lb, hlb⟩ := hlb
 have hpl := behind_plain hla hlb (by omega) (p := (ofR a).1) (q := (ofR b).1) (by rw [← ofR_some hla (by omega), ← hea]) (by rw [← ofR_some hlb (by omega), ← heb]) (List.eq_nil_of_length_eq_zero hdq)
 have hpr := s_parse_Of (a ++ 10 :: b) (by simp; omega)
 have smr := small_of (a ++ 10 :: b)
 rw [hpl] at hpr smr
 generalize ofR a = oa at *
 generalize ofR b = ob at *
 obtain ⟨p, e⟩ := oa
 obtain ⟨q, f⟩ := ob
 simp only at hea heb hdq
 subst hea heb
 have hpa : Ret P0 n_parse_Of [.str a] (.tuple [pgD p, I 0]) := hpa
 have hpb : Ret P0 n_parse_Of [.str b] (.tuple [pgD q, I 0]) := hpb
 simp only at hpr smr
 have hsame := s_ref05_Same _ _ smr smr
 rw [decide_eq_true rfl] at hsame
 have hpr : Ret P0 n_parse_Of [.str (a ++ [10] ++ b)] (.tuple [pgD ⟨p.decls, p.funs ++ q.funs.map (shF p.nodes.length), p.nodes ++ q.nodes.map (shNd p.nodes.length)⟩, I 0]) := by rw [List.append_assoc]; exact hpr
 have m1 : (q.decls.map decL).length = q.decls.length := by simp
 have m2 : (q.funs.map fuL).length = q.funs.length := by simp
 have m3 : (q.nodes.map ndL).length = q.nodes.length := by simp
 have m4 : (p.nodes.map ndL).length = p.nodes.length := by simp
 rw [← m4] at hpr smr hsame
 have hsmr := smr
 generalize hR : Pg.mk p.decls (p.funs ++ q.funs.map (shF (p.nodes.map ndL).length)) (p.nodes ++ q.nodes.map (shNd (p.nodes.map ndL).length)) = r at *
 have hef : ∀ (j : Nat) (h : j < q.funs.length), (q.funs.map fuL)[(j : Int).toNat]? = some (fuL q.funs[j]) := by
   intro j h
   rw [show ((j : Nat) : Int).toNat = j by omega, map_get _ _ _ h]
 have hbd := bdb.body
 have ms : p.nodes.length < 1000000 := sma.nodes
 have key : ∀ st, Weak st (bhS p q r 0 (p.funs.map fuL)) → Weak st (bhS p q r 0 ((p.funs ++ (q.funs.take 0).map (shF (p.nodes.map ndL).length)).map fuL)) := by
   intro st h
   rw [show p.funs ++ (q.funs.take 0).map (shF (p.nodes.map ndL).length) = p.funs by simp]
   exact h
 refine Ret_by is_law05_ParseBehind rfl ?_
 ((repeat' first|refine aw ?_|refine bw (fun _=>?_) fun _=>?_))
 refine WT_loop (fun (j : Nat) => bhS p q r j ((p.funs ++ (q.funs.take j).map (shF (p.nodes.map ndL).length)).map fuL))
   (fun j => j ≤ q.funs.length) (fun j => q.funs.length - j) 0 (key _ (by exact Uw.wW)) (Nat.zero_le _) ?_
 clear key
 intro j hj
 by_cases h : j < q.funs.length
 · have he := hef j h
   have hlt : j < (q.funs.map fuL).length := by omega
   have hb := hbd _ (List.getElem_mem h)
   have ms2 : q.nodes.length < 1000000 := smb.nodes
   have ms3 : q.funs.length < 1000000 := smb.funs
   have ms4 : p.funs.length < 1000000 := sma.funs
   have hll : ((p.funs ++ (q.funs.take j).map (shF (p.nodes.map ndL).length)).map fuL).length = p.funs.length + j := by simp; omega
   have hrow : (p.funs ++ (q.funs.take j).map (shF (p.nodes.map ndL).length)).map fuL ++ [fuL (shF (p.nodes.map ndL).length q.funs[j])] = (p.funs ++ (q.funs.take (j + 1)).map (shF (p.nodes.map ndL).length)).map fuL := by
     rw [take_one q.funs j h, List.map_append (f := shF _), ← List.append_assoc]
     rw [show List.map fuL (p.funs ++ (q.funs.take j).map (shF (p.nodes.map ndL).length) ++ List.map (shF (p.nodes.map ndL).length) [q.funs[j]]) = _ from List.map_append]; rfl
   have hb : 0 ≤ q.funs[j].body ∧ q.funs[j].body < (q.nodes.length : Int) := hb
   clear hef
   generalize q.funs[j] = f at *
   have hrow1 := app_rows [Dat.str [], Dat.nil, Dat.int .i64 0] hrow
   have hrow0 := fun h0 => app_none [Dat.str [], Dat.nil, Dat.int .i64 0] h0 hrow
   generalize (q.funs.take j).map (shF (p.nodes.map ndL).length) = A at *
   have hdl : (List.drop (Int.toNat 0) (List.take (((List.map fuL (p.funs ++ A)).length : Nat) : Int).toNat (List.map fuL (p.funs ++ A)))).length = p.funs.length + j := by
     rw [show Int.toNat 0 = 0 from rfl, List.drop_zero, show ((((List.map fuL (p.funs ++ A)).length : Nat) : Int)).toNat = (List.map fuL (p.funs ++ A)).length by omega, List.take_length, hll]
   have hnl : ((List.replicate 1 [Dat.str [], Dat.nil, Dat.int .i64 0]).set 0 [Dat.str f.name, strsC f.args, Dat.int .i64 (f.body + ((List.map ndL p.nodes).length : Nat))]).length = 1 := rfl
   by_cases h0 : p.funs.length + j = 0
   · have hrow0 := hrow0 (by rw [hll]; exact h0)
     have t1 := full_f (show (List.map fuL (p.funs ++ A)).length = 0 by rw [hll]; exact h0)
     have t2 := emp_t hdl h0
     have t3 := full_z (show (List.map fuL (p.funs ++ A)).length = 0 by rw [hll]; exact h0)
     clear hrow1 hrow
     have k4 : ∀ st, Weak st (bhS p q r (j + 1) (List.take 1 (List.drop 0 ((List.replicate 1 [Dat.str [], Dat.nil, Dat.int .i64 0]).set 0 [Dat.str f.name, strsC f.args, Dat.int .i64 (f.body + ((List.map ndL p.nodes).length : Nat))])))) → Weak st (bhS p q r (j + 1) ((p.funs ++ (q.funs.take (j + 1)).map (shF (p.nodes.map ndL).length)).map fuL)) := fun st h => by rw [← hrow0]; exact h
     clear hrow0
     ((repeat' first|refine aw ?_|refine bw (fun _=>?_) fun _=>?_))
     refine WT_again (j + 1) (by omega) (by show _ < _; omega) (k4 _ ?_)
     refine Weak.of ?_ ?_ rfl rfl ?_ rfl rfl
     · refine ⟨⟨_, rfl, VW_int rfl⟩, ?_⟩
       repeat' first | exact trivial | refine ⟨⟨_, rfl, Or.inl ⟨rfl, rfl⟩⟩, ?_⟩
     · refine ⟨⟨Or.inl ⟨_, rfl, ?_⟩, rfl⟩, ?_⟩
       · exact BSim_by rfl rfl
       refine ⟨⟨Or.inl ⟨_, rfl, ?_⟩, rfl⟩, ?_⟩
       · exact BSim_by rfl rfl
       refine ⟨⟨Or.inl ⟨_, rfl, ?_⟩, rfl⟩, ?_⟩
       · refine ⟨Or.inl ⟨rfl, rfl⟩, ?_, Or.inl ⟨rfl, rfl⟩, trivial⟩
         exact Or.inr (Or.inr (Or.inr (Or.inl ⟨4, 0, 0, _, 3, _, _, rfl, rfl, rfl, rfl⟩)))
       · exact trivial
     · exact trivial
   · have t1 := full_t (show ¬ (List.map fuL (p.funs ++ A)).length = 0 by rw [hll]; exact h0)
     have t2 := emp_f hdl h0
     clear hrow0 hrow
     have hrow2 : List.take ((List.drop (Int.toNat 0) (List.take ((((List.map fuL (p.funs ++ A)).length : Nat) : Int)).toNat (List.map fuL (p.funs ++ A)))).length + ((List.replicate 1 [Dat.str [], Dat.nil, Dat.int .i64 0]).set 0 [Dat.str f.name, strsC f.args, Dat.int .i64 (f.body + ((List.map ndL p.nodes).length : Nat))]).length) (List.drop 0 (List.drop (Int.toNat 0) (List.take (((List.map fuL (p.funs ++ A)).length : Nat) : Int).toNat (List.map fuL (p.funs ++ A))) ++ (List.replicate 1 [Dat.str [], Dat.nil, Dat.int .i64 0]).set 0 [Dat.str f.name, strsC f.args, Dat.int .i64 (f.body + ((List.map ndL p.nodes).length : Nat))])) = (p.funs ++ (q.funs.take (j + 1)).map (shF (p.nodes.map ndL).length)).map fuL := hrow1
     clear hrow1
     have k4 : ∀ st, Weak st (bhS p q r (j + 1) (List.take ((List.drop (Int.toNat 0) (List.take ((((List.map fuL (p.funs ++ A)).length : Nat) : Int)).toNat (List.map fuL (p.funs ++ A)))).length + ((List.replicate 1 [Dat.str [], Dat.nil, Dat.int .i64 0]).set 0 [Dat.str f.name, strsC f.args, Dat.int .i64 (f.body + ((List.map ndL p.nodes).length : Nat))]).length) (List.drop 0 (List.drop (Int.toNat 0) (List.take (((List.map fuL (p.funs ++ A)).length : Nat) : Int).toNat (List.map fuL (p.funs ++ A))) ++ (List.replicate 1 [Dat.str [], Dat.nil, Dat.int .i64 0]).set 0 [Dat.str f.name, strsC f.args, Dat.int .i64 (f.body + ((List.map ndL p.nodes).length : Nat))])))) → Weak st (bhS p q r (j + 1) ((p.funs ++ (q.funs.take (j + 1)).map (shF (p.nodes.map ndL).length)).map fuL)) := fun st h => by rw [← hrow2]; exact h
     clear hrow2
     have t5 : decide (((List.drop (Int.toNat 0) (List.take (((List.map fuL (p.funs ++ A)).length : Nat) : Int).toNat (List.map fuL (p.funs ++ A)))).length + ((List.replicate 1 [Dat.str [], Dat.nil, Dat.int .i64 0]).set 0 [Dat.str f.name, strsC f.args, Dat.int .i64 (f.body + ((List.map ndL p.nodes).length : Nat))]).length) * 48 ≤ 70368744177664) = true := decide_eq_true (by rw [hdl]; show (p.funs.length + j + 1) * 48 ≤ _; omega)
     iterate 6 refine aw ?_
     refine WT_t t5 ?_
     refine aw ?_
     refine aw ?_
     refine WT_again (j + 1) (by omega) (by show _ < _; omega) (k4 _ ?_)
     refine Weak.of ?_ ?_ rfl rfl ?_ rfl rfl
     · refine ⟨⟨_, rfl, VW_int rfl⟩, ?_⟩
       repeat' first | exact trivial | refine ⟨⟨_, rfl, Or.inl ⟨rfl, rfl⟩⟩, ?_⟩
     · refine ⟨⟨Or.inl ⟨_, rfl, ?_⟩, rfl⟩, ?_⟩
       · exact BSim_by rfl rfl
       refine ⟨⟨Or.inl ⟨_, rfl, ?_⟩, rfl⟩, ?_⟩
       · exact BSim_by rfl rfl
       refine ⟨⟨Or.inl ⟨_, rfl, ?_⟩, rfl⟩, ?_⟩
       · refine ⟨Or.inl ⟨rfl, rfl⟩, ?_, Or.inl ⟨rfl, rfl⟩, trivial⟩
         exact Or.inr (Or.inr (Or.inr (Or.inl ⟨4, 0, 0, _, 3, _, _, rfl, rfl, rfl, rfl⟩)))
       · exact trivial
     · exact trivial
 · have hj0 : j = q.funs.length := by omega
   subst hj0
   rw [List.take_length]
   have hlt : ¬ q.funs.length < (q.funs.map fuL).length := by omega
   clear hef hbd h hj hlt
   have hsame2 : Ret P0 n_ref05_Same [pgD r, .agg [.slice 3 (p.decls.map decL) false, .slice 3 ((p.funs ++ q.funs.map (shF (p.nodes.map ndL).length)).map fuL) false, .slice 5 ((p.nodes ++ q.nodes.map (shNd (p.nodes.map ndL).length)).map ndL) false]] (.bool true) := by
     rw [← hR] at hsame ⊢; exact hsame
   clear hsame hR
   generalize (p.funs ++ q.funs.map (shF (p.nodes.map ndL).length)).map fuL = F at *
   have hen : ∀ (j : Nat) (h : j < q.nodes.length), (q.nodes.map ndL)[(j : Int).toNat]? = some (ndL q.nodes[j]) := by
     intro j h
     rw [show ((j : Nat) : Int).toNat = j by omega, map_get _ _ _ h]
   have ms2 : q.nodes.length < 1000000 := smb.nodes
   have key2 : ∀ st, Weak st (bnS p q r F 0 (p.nodes.map ndL)) → Weak st (bnS p q r F 0 ((p.nodes ++ (q.nodes.take 0).map (shNd (p.nodes.map ndL).length)).map ndL)) := by
     intro st h
     rw [show p.nodes ++ (q.nodes.take 0).map (shNd (p.nodes.map ndL).length) = p.nodes by simp]
     exact h
   refine WT_no (by omega) ?_
   refine WT_break ?_
   ((repeat' first|refine aw ?_|refine bw (fun _=>?_) fun _=>?_))
   refine WT_loop (fun (j : Nat) => bnS p q r F j ((p.nodes ++ (q.nodes.take j).map (shNd (p.nodes.map ndL).length)).map ndL))
     (fun j => j ≤ q.nodes.length) (fun j => q.nodes.length - j) 0 (key2 _ (by exact Uw.wW)) (Nat.zero_le _) ?_
   clear key2
   intro j hj
   by_cases h : j < q.nodes.length
   · have he := hen j h
     have hlt : j < (q.nodes.map ndL).length := by omega
     have hb := bdb.of j h
     have hol := smb.of _ (List.getElem_mem h)
     clear hen
     have hrow : (p.nodes ++ (q.nodes.take j).map (shNd (p.nodes.map ndL).length)).map ndL ++ [ndL (shNd (p.nodes.map ndL).length q.nodes[j])] = (p.nodes ++ (q.nodes.take (j + 1)).map (shNd (p.nodes.map ndL).length)).map ndL := by
       rw [take_one q.nodes j h, List.map_append (f := shNd _), ← List.append_assoc]
       rw [show List.map ndL (p.nodes ++ (q.nodes.take j).map (shNd (p.nodes.map ndL).length) ++ List.map (shNd (p.nodes.map ndL).length) [q.nodes[j]]) = _ from List.map_append]; rfl
     have hll : ((p.nodes ++ (q.nodes.take j).map (shNd (p.nodes.map ndL).length)).map ndL).length = p.nodes.length + j := by simp; omega
     generalize q.nodes[j] = x at *
     generalize (p.nodes ++ (q.nodes.take j).map (shNd (p.nodes.map ndL).length)).map ndL = W at *
     generalize hW1 : (p.nodes ++ (q.nodes.take (j + 1)).map (shNd (p.nodes.map ndL).length)).map ndL = W1 at *
     have hal : (x.of.map fun i => [I i]).length = x.of.length := by simp
     have hei : ∀ (i : Nat) (h : i < x.of.length), (x.of.map fun i => [I i])[(i : Int).toNat]? = some [I x.of[i]] := by
       intro i h
       rw [show ((i : Nat) : Int).toNat = i by omega]
       simp [h]
     have hob : ∀ c ∈ x.of, 0 ≤ c ∧ c < 1000000 := fun c hc => by have := hb c hc; omega
     have hsh : (ndL (shNd (p.nodes.map ndL).length x)) = [I x.kind, I x.n, .str x.name, .str x.name2, .slice 1 (shR x (p.nodes.map ndL).length x.of.length) false] := by
       unfold shR shNd ndL intsD
       simp
     rw [hsh] at hrow
     clear hsh hb
     ((repeat' first|refine aw ?_|refine bw (fun _=>?_) fun _=>?_))
     refine WT_loop (fun (i : Nat) => bmS p q r F W x j i (shR x (p.nodes.map ndL).length i))
       (fun i => i ≤ x.of.length) (fun i => x.of.length - i) 0 (by exact Uw.wW) (Nat.zero_le _) ?_
     intro i hi
     by_cases h2 : i < x.of.length
     · have he2 := hei i h2
       have hc := hob _ (List.getElem_mem h2)
       have hro : shR x (p.nodes.map ndL).length i ++ [[I (x.of[i] + ((p.nodes.map ndL).length : Nat))]] = shR x (p.nodes.map ndL).length (i + 1) := by
         unfold shR; rw [take_one x.of i h2, List.map_append]; rfl
       have hrl : (shR x (p.nodes.map ndL).length i).length = i := by unfold shR; simp; omega
       clear hei hob hrow
       generalize x.of[i] = c at *
       have key4 : ∀ st, Weak st (bmS p q r F W x j (i + 1) (shR x (p.nodes.map ndL).length i ++ (List.replicate 1 [Dat.int .i64 0]).set 0 [Dat.int .i64 (c + ((p.nodes.map ndL).length : Nat))])) → Weak st (bmS p q r F W x j (i + 1) (shR x (p.nodes.map ndL).length (i + 1))) := fun st h => by
         rw [← hro]; exact h
       have hi9 : i < 1000000 := by omega
       clear hro
       generalize shR x (p.nodes.map ndL).length i = R at *
       ((repeat' first|refine aw ?_|refine bw (fun _=>?_) fun _=>?_))
       exact WT_again (i + 1) (by omega) (by show _ < _; omega) (key4 _ (by exact Uw.wW))
     · have hi0 : i = x.of.length := by omega
       subst hi0
       have hnlt : ¬ x.of.length < (x.of.map fun i => [I i]).length := by omega
       clear hei hob hal hi h2
       have hrl : (shR x (p.nodes.map ndL).length x.of.length).length = x.of.length := by unfold shR; simp
       generalize shR x (p.nodes.map ndL).length x.of.length = R at *
       generalize x.of.length = xl at *
       have hrow1 := app_rows [Dat.int .i64 0, Dat.int .i64 0, Dat.str [], Dat.str [], Dat.nil] hrow
       have hrow0 := fun h0 => app_none [Dat.int .i64 0, Dat.int .i64 0, Dat.str [], Dat.str [], Dat.nil] h0 hrow
       clear hrow
       have hRR : List.take xl (List.drop 0 R) = R := by rw [List.drop_zero, ← hrl, List.take_length]
       have hdl : (List.drop (Int.toNat 0) (List.take ((W.length : Nat) : Int).toNat W)).length = p.nodes.length + j := by
         rw [show Int.toNat 0 = 0 from rfl, List.drop_zero, show ((W.length : Nat) : Int).toNat = W.length by omega, List.take_length, hll]
       by_cases h0 : p.nodes.length + j = 0
       · have hrow0 := hrow0 (by rw [hll]; exact h0)
         have t1 := full_f (show W.length = 0 by rw [hll]; exact h0)
         have t2 := emp_t hdl h0
         have t3 := full_z (show W.length = 0 by rw [hll]; exact h0)
         clear hrow1
         have k4 : ∀ st, Weak st (bnS p q r F (j + 1) (List.take 1 (List.drop 0 ((List.replicate 1 [Dat.int .i64 0, Dat.int .i64 0, Dat.str [], Dat.str [], Dat.nil]).set 0 [Dat.int .i64 x.kind, Dat.int .i64 x.n, Dat.str x.name, Dat.str x.name2, Dat.slice 1 (List.take xl (List.drop 0 R)) false])))) → Weak st (bnS p q r F (j + 1) ((p.nodes ++ (q.nodes.take (j + 1)).map (shNd (p.nodes.map ndL).length)).map ndL)) := fun st h => by
           rw [hW1, ← hrow0]; rw [hRR] at h; exact h
         clear hrow0 hRR hdl hW1
         refine WT_no (by omega) ?_
         refine WT_break ?_
         ((repeat' first|refine aw ?_|refine bw (fun _=>?_) fun _=>?_))
         refine WT_again (j + 1) (by omega) (by show _ < _; omega) (k4 _ ?_)
         refine Weak.of ?_ ?_ rfl rfl ?_ rfl rfl
         · refine ⟨⟨_, rfl, VW_int rfl⟩, ?_⟩
           repeat' first | exact trivial | refine ⟨⟨_, rfl, Or.inl ⟨rfl, rfl⟩⟩, ?_⟩
         · refine ⟨⟨Or.inl ⟨_, rfl, ?_⟩, rfl⟩, ?_⟩
           · exact BSim_by rfl rfl
           refine ⟨⟨Or.inl ⟨_, rfl, ?_⟩, rfl⟩, ?_⟩
           · refine ⟨Or.inl ⟨rfl, rfl⟩, Or.inl ⟨rfl, rfl⟩, ?_, trivial⟩
             exact Or.inr (Or.inr (Or.inr (Or.inl ⟨5, 0, 0, _, 5, _, _, rfl, rfl, rfl, rfl⟩)))
           · exact trivial
         · exact trivial
       · have t1 := full_t (show ¬ W.length = 0 by rw [hll]; exact h0)
         have t2 := emp_f hdl h0
         clear hrow0
         have hrow2 : List.take ((List.drop (Int.toNat 0) (List.take ((W.length : Nat) : Int).toNat W)).length + ((List.replicate 1 [Dat.int .i64 0, Dat.int .i64 0, Dat.str [], Dat.str [], Dat.nil]).set 0 [Dat.int .i64 x.kind, Dat.int .i64 x.n, Dat.str x.name, Dat.str x.name2, Dat.slice 1 (List.take xl (List.drop 0 R)) false]).length) (List.drop 0 (List.drop (Int.toNat 0) (List.take ((W.length : Nat) : Int).toNat W) ++ (List.replicate 1 [Dat.int .i64 0, Dat.int .i64 0, Dat.str [], Dat.str [], Dat.nil]).set 0 [Dat.int .i64 x.kind, Dat.int .i64 x.n, Dat.str x.name, Dat.str x.name2, Dat.slice 1 (List.take xl (List.drop 0 R)) false])) = W1 := by
           rw [hRR]; exact hrow1
         clear hrow1
         have k4 : ∀ st, Weak st (bnS p q r F (j + 1) (List.take ((List.drop (Int.toNat 0) (List.take ((W.length : Nat) : Int).toNat W)).length + ((List.replicate 1 [Dat.int .i64 0, Dat.int .i64 0, Dat.str [], Dat.str [], Dat.nil]).set 0 [Dat.int .i64 x.kind, Dat.int .i64 x.n, Dat.str x.name, Dat.str x.name2, Dat.slice 1 (List.take xl (List.drop 0 R)) false]).length) (List.drop 0 (List.drop (Int.toNat 0) (List.take ((W.length : Nat) : Int).toNat W) ++ (List.replicate 1 [Dat.int .i64 0, Dat.int .i64 0, Dat.str [], Dat.str [], Dat.nil]).set 0 [Dat.int .i64 x.kind, Dat.int .i64 x.n, Dat.str x.name, Dat.str x.name2, Dat.slice 1 (List.take xl (List.drop 0 R)) false])))) → Weak st (bnS p q r F (j + 1) ((p.nodes ++ (q.nodes.take (j + 1)).map (shNd (p.nodes.map ndL).length)).map ndL)) := fun st h => by
           rw [hW1]; rw [hrow2] at h; exact h
         clear hrow2 hRR hW1
         have t5 : decide (((List.drop (Int.toNat 0) (List.take ((W.length : Nat) : Int).toNat W)).length + ((List.replicate 1 [Dat.int .i64 0, Dat.int .i64 0, Dat.str [], Dat.str [], Dat.nil]).set 0 [Dat.int .i64 x.kind, Dat.int .i64 x.n, Dat.str x.name, Dat.str x.name2, Dat.slice 1 (List.take xl (List.drop 0 R)) false]).length) * 72 ≤ 70368744177664) = true := decide_eq_true (by rw [hdl]; show (p.nodes.length + j + 1) * 72 ≤ _; have := sma.nodes; omega)
         refine WT_no (by omega) ?_
         refine WT_break ?_
         ((repeat' first|refine aw ?_|refine bw (fun _=>?_) fun _=>?_))
         refine WT_again (j + 1) (by omega) (by show _ < _; omega) (k4 _ ?_)
         refine Weak.of ?_ ?_ rfl rfl ?_ rfl rfl
         · refine ⟨⟨_, rfl, VW_int rfl⟩, ?_⟩
           repeat' first | exact trivial | refine ⟨⟨_, rfl, Or.inl ⟨rfl, rfl⟩⟩, ?_⟩
         · refine ⟨⟨Or.inl ⟨_, rfl, ?_⟩, rfl⟩, ?_⟩
           · exact BSim_by rfl rfl
           refine ⟨⟨Or.inl ⟨_, rfl, ?_⟩, rfl⟩, ?_⟩
           · refine ⟨Or.inl ⟨rfl, rfl⟩, Or.inl ⟨rfl, rfl⟩, ?_, trivial⟩
             exact Or.inr (Or.inr (Or.inr (Or.inl ⟨5, 0, 0, _, 5, _, _, rfl, rfl, rfl, rfl⟩)))
           · exact trivial
         · exact trivial
   · have hj0 : j = q.nodes.length := by omega
     subst hj0
     rw [List.take_length]
     clear hen
     refine WT_no (by omega) ?_
     refine WT_break ?_
     ((repeat' first|refine aw ?_|refine bw (fun _=>?_) fun _=>?_))
     exact WT_ret rfl rfl rfl rfl rfl
end Uw.Tryd
