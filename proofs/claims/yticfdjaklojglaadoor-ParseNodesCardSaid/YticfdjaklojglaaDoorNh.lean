/- Nh: Qc Rd (merged by merge2.py from the working texts). -/
import Derived.Test.YticfdjaklojglaaDoorNe
import Derived.Test.YticfdjaklojglaaDoorN6
set_option maxRecDepth 4000
set_option maxHeartbeats 2000000
set_option linter.unusedSimpArgs false
set_option linter.unnecessarySimpa false
set_option linter.unusedVariables false
set_option linter.unusedSectionVars false
namespace Uw.Tryd
open Go Uw
theorem funsF_bodies : ∀ (fs : List Fn) (c : Nat), (funsF fs c).map (·.body) = (bodies fs c).map fun (n : Nat) => (n : Int)
 | [], c => rfl
 | f :: fs, c => by rw [funsF, bodies, List.map_cons, List.map_cons, funsF_bodies fs]
theorem bodies_len : ∀ (fs : List Fn) (c : Nat), (bodies fs c).length = fs.length
 | [], _ => rfl
 | f :: fs, c => by rw [bodies, List.length_cons, bodies_len fs]; rfl
theorem bodies_kind : ∀ (fs : List Fn) (c : Nat), ∀ b ∈ bodies fs c, c ≤ b ∧ ∃ x, (nodesF fs c)[b - c]? = some x ∧ x.kind = 18
 | [], _, b, h => by cases h
 | f :: fs, c, b, h => by
   rcases List.mem_cons.1 h with rfl | h
   · refine ⟨by omega, ⟨18, 0, [], [], f.body.places c⟩, ?_, rfl⟩
     rw [show c + f.body.sz - c = f.body.sz by omega, nodesF, Bl.all, List.append_assoc, List.getElem?_append_right (by rw [Bl.flat_len]; exact Nat.le_refl _), Bl.flat_len, Nat.sub_self]
     rfl
   · obtain ⟨h1, x, h2, h3⟩ := bodies_kind fs _ b h
     have h4 : f.sz = f.body.sz + 1 := rfl
     refine ⟨by omega, x, ?_, h3⟩
     rw [nodesF, List.getElem?_append_right (by rw [Bl.all_len]; omega), Bl.all_len, ← h2]
     congr 1
     omega
theorem bodies_last : ∀ (fs : List Fn) (c : Nat) (h : fs ≠ []), (bodies fs c)[fs.length - 1]? = some (c + sizeF fs - 1)
 | [f], c, _ => by
   exact congrArg some (by simp only [sizeF, Fn.sz]; omega)
 | f :: g :: fs, c, _ => by
   have h := bodies_last (g :: fs) (c + f.sz) (by simp)
   rw [bodies, show (f :: g :: fs).length - 1 = ((g :: fs).length - 1) + 1 by simp, List.getElem?_cons_succ, h]
   congr 1
   simp only [sizeF]; omega
def cntB (m : Nat) (l : List Nat) : List (List Dat) := (List.range m).map fun i => [I ((l.count i : Nat) : Int)]
theorem cnt_len (m : Nat) (l : List Nat) : (cntB m l).length = m := by simp [cntB]
theorem cnt_zero (m : Nat) : List.replicate m [I 0] = cntB m [] := by
 refine List.ext_getElem (by simp [cntB]) fun i h1 h2 => ?_
 simp [cntB]
theorem cnt_get (m : Nat) (l : List Nat) (c : Nat) (h : c < m) : (cntB m l)[c]? = some [I ((l.count c : Nat) : Int)] := by
 simp [cntB, h]
theorem cnt_set (m : Nat) (l : List Nat) (c : Nat) : (cntB m l).set c [I ((l.count c : Nat) + 1 : Int)] = cntB m (l ++ [c]) := by
 refine List.ext_getElem (by simp [cntB]) fun i h1 h2 => ?_
 simp only [cntB, List.getElem_set, List.getElem_map, List.getElem_range, List.count_append]
 by_cases h : c = i
 · subst h; simp
 · rw [if_neg h]
   simp [List.count_cons, h]
theorem count_range' (i : Nat) : ∀ (m s : Nat), (List.range' s m).count i = if s ≤ i ∧ i < s + m then 1 else 0
 | 0, s => by rw [if_neg (by omega)]; rfl
 | m + 1, s => by
   rw [List.range'_succ, List.count_cons, count_range' i m (s + 1)]
   by_cases h : s = i
   · subst h; rw [if_neg (show ¬ (s + 1 ≤ s ∧ s < s + 1 + m) by omega), if_pos (show s ≤ s ∧ s < s + (m + 1) by omega)]; simp
   · simp only [beq_iff_eq, h, if_false]
     by_cases h2 : s ≤ i ∧ i < s + (m + 1)
     · rw [if_pos h2, if_pos (by omega)]
     · rw [if_neg h2, if_neg (by omega)]
theorem count_range (m i : Nat) (h : i < m) : (List.range' 0 m).count i = 1 := by
 rw [count_range', if_pos (by omega)]
theorem cnt_done {l : List Nat} {m : Nat} (h : l.Perm (List.range' 0 m)) (i : Nat) (hi : i < m) : (cntB m l)[i]? = some [I 1] := by
 rw [cnt_get m l i hi, h.count_eq i, count_range m i hi]; rfl
theorem ofs_take (NS : List Nod) (j : Nat) (h : j < NS.length) : ofs (NS.take (j + 1)) = ofs (NS.take j) ++ NS[j].of := by
 rw [take_one NS j h, ofs_app, ofs_one]
theorem of_pg (s : List UInt8) : ∃ ds fs, (ofR s).1 = pgOf (ds, fs) := by
 have h0 : noPg = pgOf ([], []) := rfl
 unfold ofR
 split
 · exact ⟨[], [], h0⟩
 · split
   · exact ⟨[], [], h0⟩
   · cases progF (wordsR s).1 with
     | none => exact ⟨[], [], h0⟩
     | some x => exact ⟨x.1, x.2, rfl⟩
end Uw.Tryd
namespace Uw.Tryd
open Go Uw
abbrev ndS1 (ds : List Dec) (F N : List (List Dat)) (j : Nat) (C : List (List Dat)) : St := ⟨[(30, .d (I j)), (29, .d (I N.length)), (28, .d (.slice 5 N false)), (5, .ref 1 0 0 C.length), (3, .ptr 0 0)], [(1, .mt 1 0 C), (0, .var [.d (.slice 3 (List.map decL ds) false), .d (.slice 3 F false), .d (.slice 5 N false)])], 2, [], 0⟩
abbrev ndS2 (ds : List Dec) (F N : List (List Dat)) (j : Nat) (AR : List (List Dat)) (i : Nat) (C : List (List Dat)) : St := ⟨[(38, .d (I i)), (37, .d (I AR.length)), (36, .d (.slice 1 AR false)), (6, .d (I j)), (30, .d (I j)), (29, .d (I N.length)), (28, .d (.slice 5 N false)), (5, .ref 1 0 0 C.length), (3, .ptr 0 0)], [(1, .mt 1 0 C), (0, .var [.d (.slice 3 (List.map decL ds) false), .d (.slice 3 F false), .d (.slice 5 N false)])], 3, [], 0⟩
abbrev ndS3 (ds : List Dec) (F N : List (List Dat)) (j : Nat) (C : List (List Dat)) : St := ⟨[(60, .d (I j)), (59, .d (I F.length)), (58, .d (.slice 3 F false)), (5, .ref 1 0 0 C.length), (3, .ptr 0 0)], [(1, .mt 1 0 C), (0, .var [.d (.slice 3 (List.map decL ds) false), .d (.slice 3 F false), .d (.slice 5 N false)])], 2, [], 0⟩
theorem l_ParseNodes (s : List UInt8) : Ret P0 n_law05_ParseNodes [.str s] (.bool true) := by
 have al := s_law05_alive
 by_cases hs : 1500 < s.length
 · refine Ret_by is_law05_ParseNodes_w rfl ?_
   ((repeat' first|refine aw ?_|refine bw (fun _=>?_) fun _=>?_))
   exact WT_ret rfl rfl rfl rfl rfl
 have ho := s_parse_Of s (by omega)
 have hsm := small_of s
 obtain ⟨ds, fs, hp⟩ := of_pg s
 rw [show ofOut (ofR s) = .tuple [pgD (ofR s).1, I (ofR s).2] from rfl, hp] at ho
 rw [hp] at hsm
 generalize (ofR s).2 = e at ho
 have hk := bodies_kind fs 0
 have hlast := bodies_last fs 0
 have hperm := nodesF_perm fs 0
 have hlow := nodesF_low fs 0
 have hbl := bodies_len fs 0
 have hfb := funsF_bodies fs 0
 have hnl := nodesF_len fs 0
 have mn : ((pgOf (ds, fs)).nodes.map ndL).length = sizeF fs := by simp [pgOf, nodesF_len]
 have mf : ((pgOf (ds, fs)).funs.map fuL).length = fs.length := by simp [pgOf, funsF_len]
 have hms : sizeF fs < 1000000 := by have := hsm.nodes; rw [← hnl]; simpa [pgOf] using this
 have hen : ∀ (j : Nat) (h : j < (nodesF fs 0).length), ((pgOf (ds, fs)).nodes.map ndL)[(j : Int).toNat]? = some (ndL (nodesF fs 0)[j].nd) := by
   intro j h
   rw [show ((j : Nat) : Int).toNat = j by omega]
   show (((nodesF fs 0).map Nod.nd).map ndL)[j]? = _
   rw [List.map_map, map_get _ _ _ h]; rfl
 have hef : ∀ (j : Nat) (h : j < (bodies fs 0).length), ∃ (nm : Str) (ar : List (List Dat)), ((pgOf (ds, fs)).funs.map fuL)[(j : Int).toNat]? = some [.str nm, .slice 1 ar false, I (((bodies fs 0)[j] : Nat) : Int)] := by
   intro j h
   have hj : j < (funsF fs 0).length := by rw [funsF_len, ← hbl]; exact h
   refine ⟨(funsF fs 0)[j].name, (funsF fs 0)[j].args.map fun s => [.str s], ?_⟩
   rw [show ((j : Nat) : Int).toNat = j by omega]
   show ((funsF fs 0).map fuL)[j]? = _
   rw [map_get _ _ _ hj]
   have h2 : ((funsF fs 0).map (·.body))[j]? = ((bodies fs 0).map fun (n : Nat) => (n : Int))[j]? := by rw [hfb]
   rw [List.getElem?_map, List.getElem?_map, List.getElem?_eq_getElem hj, List.getElem?_eq_getElem h] at h2
   injection h2 with h2
   have h2 : (funsF fs 0)[j].body = (((bodies fs 0)[j] : Nat) : Int) := h2
   rw [fuL, h2]; rfl
 have hdecl : (pgOf (ds, fs)).decls = ds := rfl
 have mf' : ((pgOf (ds, fs)).funs.map fuL).length = (pgOf (ds, fs)).funs.length := by simp
 generalize hF : (pgOf (ds, fs)).funs.map fuL = F at *
 generalize hN : (pgOf (ds, fs)).nodes.map ndL = N at *
 have ho : Ret P0 n_parse_Of [.str s] (.tuple [.agg [.slice 3 (ds.map decL) false, .slice 3 F false, .slice 5 N false], I e]) := by rw [← hF, ← hN]; exact ho
 have hmk : (decide ((0 : Int) ≤ (N.length : Int)) && decide ((N.length : Int) ≤ (N.length : Int)) && decide ((N.length : Int) * ((1 : Nat) : Int) ≤ 70368744177664)) = true := by simp; omega
 have z0 := cnt_zero N.length
 generalize nodesF fs 0 = NS at *
 generalize bodies fs 0 = BS at *
 have key : ∀ st, Weak st (ndS1 ds F N 0 (List.replicate N.length [I 0])) → Weak st (ndS1 ds F N 0 (cntB N.length (ofs (NS.take 0)))) := fun st h => by
   rw [z0] at h; exact h
 refine Ret_by is_law05_ParseNodes_w rfl ?_
 ((repeat' first|refine aw ?_|refine bw (fun _=>?_) fun _=>?_))
 refine WT_loop (fun (j : Nat) => ndS1 ds F N j (cntB N.length (ofs (NS.take j)))) (fun j => j ≤ N.length) (fun j => N.length - j) 0 (key _ ?_) (Nat.zero_le _) ?_
 · exact Uw.wW
 clear key z0
 intro j hj
 by_cases h : j < N.length
 · have hjn : j < NS.length := by omega
   have he := hen j hjn
   have hlo := hlow.at j hjn
   have hot := ofs_take NS j hjn
   clear hen hef
   generalize NS[j] = x at *
   have hcl := cnt_len N.length (ofs (NS.take j))
   have hol : (x.nd.of.map fun i => [I i]).length = x.of.length := by simp [Nod.nd]
   have hei : ∀ (i : Nat) (h : i < x.of.length), (x.nd.of.map fun i => [I i])[(i : Int).toNat]? = some [I ((x.of[i] : Nat) : Int)] := by
     intro i h
     rw [show ((i : Nat) : Int).toNat = i by omega]
     simp [Nod.nd, h]
   have he : N[(j : Int).toNat]? = some [I x.kind, I x.n, .str x.name, .str x.name2, .slice 1 (x.nd.of.map fun i => [I i]) false] := he
   generalize (x.nd.of.map fun i => [I i]) = AR at *
   have hofl : (ofs (NS.take j)).length + x.of.length < 1000000 := by
     have h1 := hperm.length_eq
     rw [List.length_append, List.length_range'] at h1
     have h2 : (ofs (NS.take (j + 1))).length ≤ (ofs NS).length := by
       conv => rhs; rw [← List.take_append_drop (j + 1) NS]
       rw [ofs_app, List.length_append]; omega
     rw [hot, List.length_append] at h2
     omega
   have key2 : ∀ st, Weak st (ndS2 ds F N j AR 0 (cntB N.length (ofs (NS.take j)))) → Weak st (ndS2 ds F N j AR 0 (cntB N.length (ofs (NS.take j) ++ x.of.take 0))) := fun st h => by
     rw [List.take_zero, List.append_nil]; exact h
   have key3 : ∀ st, Weak st (ndS1 ds F N (j + 1) (cntB N.length (ofs (NS.take j) ++ x.of))) → Weak st (ndS1 ds F N (j + 1) (cntB N.length (ofs (NS.take (j + 1))))) := fun st h => by
     rw [hot]; exact h
   generalize ofs (NS.take j) = L at *
   ((repeat' first|refine aw ?_|refine bw (fun _=>?_) fun _=>?_))
   refine WT_loop (fun (i : Nat) => ndS2 ds F N j AR i (cntB N.length (L ++ x.of.take i))) (fun i => i ≤ x.of.length) (fun i => x.of.length - i) 0 (key2 _ (by exact Uw.wW)) (Nat.zero_le _) ?_
   clear key2
   intro i hi
   by_cases h2 : i < x.of.length
   · have he2 := hei i h2
     have hc := hlo x.of[i] (List.getElem_mem h2)
     have hst : L ++ x.of.take (i + 1) = (L ++ x.of.take i) ++ [x.of[i]] := by rw [take_one x.of i h2, List.append_assoc]
     have hcl2 := cnt_len N.length (L ++ x.of.take i)
     have hgt := cnt_get N.length (L ++ x.of.take i) x.of[i] (by omega)
     have hse := cnt_set N.length (L ++ x.of.take i) x.of[i]
     have hcn : (L ++ x.of.take i).count x.of[i] < 1000000 := by
       refine Nat.lt_of_le_of_lt (List.count_le_length ..) ?_
       rw [List.length_append, List.length_take]; omega
     generalize x.of[i] = c at *
     generalize L ++ x.of.take i = M at *
     have hgt1 : (cntB N.length M)[0 + ((c : Nat) : Int).toNat]? = some [I ((M.count c : Nat) : Int)] := by rw [show 0 + ((c : Nat) : Int).toNat = c by omega]; exact hgt
     have hse1 : (cntB N.length M).set (0 + ((c : Nat) : Int).toNat) [I ((M.count c : Nat) + 1 : Int)] = cntB N.length (M ++ [c]) := by rw [show 0 + ((c : Nat) : Int).toNat = c by omega]; exact hse
     have key4 : ∀ st, Weak st (ndS2 ds F N j AR (i + 1) ((cntB N.length M).set (0 + ((c : Nat) : Int).toNat) [I ((M.count c : Nat) + 1 : Int)])) → Weak st (ndS2 ds F N j AR (i + 1) (cntB N.length (L ++ x.of.take (i + 1)))) := fun st h => by
       rw [hst, ← hse1]; exact h
     clear hse hse1 hgt hst key3 hlo hot
     generalize M.count c = cc at *
     ((repeat' first|refine aw ?_|refine bw (fun _=>?_) fun _=>?_))
     refine WT_again (i + 1) (by omega) (by show _ < _; omega) (key4 _ ?_)
     exact Uw.wW
   · have hi0 : i = x.of.length := by omega
     subst hi0
     rw [List.take_length]
     have hnlt : ¬ x.of.length < AR.length := by omega
     have hj9 : j < 1000000 := by omega
     have hlI : ¬ ((x.of.length : Nat) : Int) < ((AR.length : Nat) : Int) := by omega
     clear hei hlo hot hofl hjn hol hk hlast hperm hlow hbl hfb hsm hmk
     generalize x.of.length = xl at *
     refine WT_no hlI ?_
     refine WT_break ?_
     ((repeat' first|refine aw ?_|refine bw (fun _=>?_) fun _=>?_))
     refine WT_again (j + 1) (by omega) (by show _ < _; omega) (key3 _ ?_)
     exact Uw.wW
 · have hj0 : j = N.length := by omega
   subst hj0
   have hnt : NS.take N.length = NS := by rw [show N.length = NS.length by omega, List.take_length]
   rw [hnt]
   have hnlt : ¬ N.length < N.length := by omega
   have hen2 := hen
   clear hen
   have key5 : ∀ st, Weak st (ndS3 ds F N 0 (cntB N.length (ofs NS))) → Weak st (ndS3 ds F N 0 (cntB N.length (ofs NS ++ BS.take 0))) := fun st h => by
     rw [List.take_zero, List.append_nil]; exact h
   ((repeat' first|refine aw ?_|refine bw (fun _=>?_) fun _=>?_))
   refine WT_break ?_
   ((repeat' first|refine aw ?_|refine bw (fun _=>?_) fun _=>?_))
   refine WT_loop (fun (j : Nat) => ndS3 ds F N j (cntB N.length (ofs NS ++ BS.take j))) (fun j => j ≤ F.length) (fun j => F.length - j) 0 (key5 _ ?_) (Nat.zero_le _) ?_
   · exact Uw.wW
   clear key5 hlow hj
   intro j hj
   by_cases h2 : j < F.length
   · have hjb : j < BS.length := by omega
     obtain ⟨nm, ar, he⟩ := hef j hjb
     obtain ⟨_, x, hx1, hx2⟩ := hk BS[j] (List.getElem_mem hjb)
     rw [Nat.sub_zero] at hx1
     have hbn : BS[j] < NS.length := (List.getElem?_eq_some_iff.1 hx1).1
     have hN9 : N[((BS[j] : Nat) : Int).toNat]? = some [I 18, I x.n, .str x.name, .str x.name2, intsD x.nd.of] := by
       have h3 := hen2 BS[j] hbn
       rw [(List.getElem?_eq_some_iff.1 hx1).2] at h3
       rw [h3, ← hx2]; rfl
     have hend : j + 1 = F.length → BS[j] + 1 = N.length := by
       intro hh
       have hfsne : fs ≠ [] := by
         intro e9
         have h9 : fs.length = 0 := by rw [e9]; rfl
         omega
       have h4 := hlast hfsne
       rw [show fs.length - 1 = j by omega, List.getElem?_eq_getElem hjb] at h4
       injection h4 with h4
       rw [h4]; omega
     have hcm0 : BS[j] < N.length := by rw [mn, ← hnl]; exact hbn
     have hst : ofs NS ++ BS.take (j + 1) = (ofs NS ++ BS.take j) ++ [BS[j]] := by rw [take_one BS j hjb, List.append_assoc]
     have hcl2 := cnt_len N.length (ofs NS ++ BS.take j)
     have hgt := cnt_get N.length (ofs NS ++ BS.take j) BS[j] hcm0
     have hse := cnt_set N.length (ofs NS ++ BS.take j) BS[j]
     have hcn : (ofs NS ++ BS.take j).count BS[j] < 1000000 := by
       refine Nat.lt_of_le_of_lt (List.count_le_length ..) ?_
       have h1 := hperm.length_eq
       rw [List.length_append, List.length_range'] at h1
       rw [List.length_append, List.length_take]; omega
     generalize BS[j] = c at *
     generalize hM : ofs NS ++ BS.take j = M at *
     have hgt1 : (cntB N.length M)[0 + ((c : Nat) : Int).toNat]? = some [I ((M.count c : Nat) : Int)] := by rw [show 0 + ((c : Nat) : Int).toNat = c by omega]; exact hgt
     have hse1 : (cntB N.length M).set (0 + ((c : Nat) : Int).toNat) [I ((M.count c : Nat) + 1 : Int)] = cntB N.length (M ++ [c]) := by rw [show 0 + ((c : Nat) : Int).toNat = c by omega]; exact hse
     have key4 : ∀ st, Weak st (ndS3 ds F N (j + 1) ((cntB N.length M).set (0 + ((c : Nat) : Int).toNat) [I ((M.count c : Nat) + 1 : Int)])) → Weak st (ndS3 ds F N (j + 1) (cntB N.length (ofs NS ++ BS.take (j + 1)))) := fun st h => by
       rw [hst, ← hse1]; exact h
     have hcm : c < N.length := hcm0
     have hFs : F.length < 1000000 := by have := hsm.funs; rw [← mf'] at this; exact this
     clear hse hse1 hgt hst hef hen2 hk hx1 hx2 hbn hlast hperm hfb hM
     generalize M.count c = cc at *
     by_cases hl : j + 1 = F.length
     · have hc9 := hend hl
       clear hend
       ((repeat' first|refine aw ?_|refine bw (fun _=>?_) fun _=>?_))
       refine WT_again (j + 1) (by omega) (by show _ < _; omega) (key4 _ ?_)
       exact Uw.wW
     · clear hend
       ((repeat' first|refine aw ?_|refine bw (fun _=>?_) fun _=>?_))
       refine WT_again (j + 1) (by omega) (by show _ < _; omega) (key4 _ ?_)
       exact Uw.wW
   · have hj0 : j = F.length := by omega
     have hbt : BS.take j = BS := by rw [show j = BS.length by omega, List.take_length]
     rw [hbt]
     have hdn := fun (i : Nat) (h : i < N.length) => cnt_done (l := ofs NS ++ BS) (m := NS.length) (by rw [hnl]; exact hperm) i (by omega)
     rw [show NS.length = N.length by omega] at hdn
     have hcl := cnt_len N.length (ofs NS ++ BS)
     generalize cntB N.length (ofs NS ++ BS) = C at *
     clear hef hen2 hk hlast hperm hfb
     refine WT_no (by omega) ?_
     refine WT_break ?_
     have hC : ∀ (i : Nat) (h : i < C.length), C[0 + ((i : Nat) : Int).toNat]? = some [I 1] := by
       intro i h
       rw [show 0 + ((i : Nat) : Int).toNat = i by omega]; exact hdn i (by omega)
     have hC9 : C.length < 1000000 := by omega
     clear hdn
     ((repeat' first|refine aw ?_|refine bw (fun _=>?_) fun _=>?_))
     refine WT_loop (fun (i : Nat) => ⟨[(109, .d (I i)), (108, .d (I C.length)), (107, .ref 1 0 0 C.length)], [(1, .mt 1 0 C)], 2, [], 0⟩) (fun i => i ≤ C.length) (fun i => C.length - i) 0 (by exact Uw.wW) (Nat.zero_le _) ?_
     intro i hi
     by_cases h3 : i < C.length
     · have he := hC i h3
       clear hC
       ((repeat' first|refine aw ?_|refine bw (fun _=>?_) fun _=>?_))
       exact WT_again (i + 1) (by omega) (by show _ < _; omega) (by exact Uw.wW)
     · clear hC
       ((repeat' first|refine aw ?_|refine bw (fun _=>?_) fun _=>?_))
       refine WT_break ?_
       ((repeat' first|refine aw ?_|refine bw (fun _=>?_) fun _=>?_))
       exact WT_ret rfl rfl rfl rfl rfl
end Uw.Tryd
