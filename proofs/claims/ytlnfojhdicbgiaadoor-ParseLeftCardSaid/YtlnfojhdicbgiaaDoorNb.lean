/- Nb: Po Pp Pq Pr Px (merged by merge2.py from the working texts). -/
import Derived.Test.YtlnfojhdicbgiaaDoorN8
import Derived.Test.YtlnfojhdicbgiaaDoorN6
import Derived.Test.YtlnfojhdicbgiaaDoorN5
import Derived.Test.YtlnfojhdicbgiaaDoorNa
import Derived.Test.YtlnfojhdicbgiaaDoorN7
set_option maxRecDepth 4000
set_option maxHeartbeats 2000000
set_option linter.unusedSimpArgs false
set_option linter.unnecessarySimpa false
set_option linter.unusedVariables false
set_option linter.unusedSectionVars false
namespace Uw.Tryd
open Go Uw
theorem delta_cases (s : Str) : (s = [40] ∧ delta s = 1) ∨ (s ≠ [40] ∧ s = [123] ∧ delta s = 1) ∨ (s ≠ [40] ∧ s ≠ [123] ∧ s = [41] ∧ delta s = -1) ∨ (s ≠ [40] ∧ s ≠ [123] ∧ s ≠ [41] ∧ s = [125] ∧ delta s = -1) ∨ (s ≠ [40] ∧ s ≠ [123] ∧ s ≠ [41] ∧ s ≠ [125] ∧ delta s = 0) := by
 unfold delta
 by_cases h1 : s = [40]
 · subst h1; exact .inl ⟨rfl, by decide⟩
 · by_cases h2 : s = [123]
   · subst h2; exact .inr (.inl ⟨h1, rfl, by decide⟩)
   · by_cases h3 : s = [41]
     · subst h3; exact .inr (.inr (.inl ⟨h1, h2, rfl, by decide⟩))
     · by_cases h4 : s = [125]
       · subst h4; exact .inr (.inr (.inr (.inl ⟨h1, h2, h3, rfl, by decide⟩)))
       · exact .inr (.inr (.inr (.inr ⟨h1, h2, h3, h4, by simp [h1, h2, h3, h4]⟩)))
theorem max_mm (a b : Int) : max a b = mmI true a b := rfl
theorem mm_le (a b : Int) : a ≤ mmI true a b ∧ b ≤ mmI true a b ∧ (mmI true a b = a ∨ mmI true a b = b) := by
 rw [← max_mm]; omega
theorem s_parse_Depth (l : List Tok) (hl : l.length < 1000000) : Ret P0 n_parse_Depth [toksD l] (I (deepT l 0 0)) := by
 have hm : (l.map tokL).length = l.length := by simp
 generalize hD : deepT l 0 0 = D
 refine Ret_by is_parse_Depth rfl ?_
 ((repeat' first|refine aw ?_|refine bw (fun _=>?_) fun _=>?_))
 refine WT_loop (fun ((j, d, m) : Nat × Int × Int) => ⟨[(9, .d (I j)), (8, .d (I (↑(List.map tokL l).length))), (7, .d (toksD l)), (4, .d (I m)), (3, .d (I d))], [], 0, [], 0⟩)
   (fun (j, d, m) => j ≤ l.length ∧ deepT (l.drop j) d m = D ∧ - (j : Int) ≤ d ∧ d ≤ j ∧ 0 ≤ m ∧ m ≤ j) (fun (j, _, _) => l.length - j) (0, 0, 0) (by exact Uw.wW) ⟨Nat.zero_le _, hD, by simp, by simp, by simp, by simp⟩ ?_
 clear hD
 rintro ⟨j, d, m⟩ ⟨hj, hD, h1, h2, h3, h4⟩
 by_cases h : j < l.length
 · rw [List.drop_eq_getElem_cons h, deepT] at hD
   generalize hx : l[j] = x at *
   obtain ⟨k, s, n, a⟩ := x
   have he : (l.map tokL)[((j : Int)).toNat]? = some [I k, .str s, I n, I a] := by
     rw [show ((j : Int)).toNat = j by omega, map_get _ _ _ h, hx]; rfl
   have hD : deepT (l.drop (j + 1)) (d + delta s) (max m (d + delta s)) = D := hD
   rcases delta_cases s with ⟨e1, e2⟩ | ⟨e0, e1, e2⟩ | ⟨e0, e3, e1, e2⟩ | ⟨e0, e3, e4, e1, e2⟩ | ⟨e0, e3, e4, e5, e2⟩
   all_goals rw [e2, max_mm] at hD
   all_goals try rw [show d + -1 = d - 1 by omega] at hD
   all_goals try rw [Int.add_zero] at hD
   all_goals ((repeat' first|refine aw ?_|refine bw (fun _=>?_) fun _=>?_))
   all_goals first | exact WT_again (j + 1, _, _) ⟨by omega, hD, by omega, by omega, by have := mm_le m (d + 1); have := mm_le m (d - 1); have := mm_le m d; omega, by have := mm_le m (d + 1); have := mm_le m (d - 1); have := mm_le m d; omega⟩ (by simp only; omega) (by exact Uw.wW)
 · rw [List.drop_eq_nil_of_le (by omega), deepT] at hD
   subst hD
   ((repeat' first|refine aw ?_|refine bw (fun _=>?_) fun _=>?_))
   refine WT_break ?_
   ((repeat' first|refine aw ?_|refine bw (fun _=>?_) fun _=>?_))
   exact WT_ret rfl rfl rfl rfl rfl
end Uw.Tryd
namespace Uw.Tryd
open Go Uw
def frows : List Fn → Nat → List (List Dat)
 | [], _ => []
 | f :: fs, b => [.str f.name, strsD f.args, I ((b + f.body.sz : Nat))] :: frows fs (b + f.sz)
theorem frows_app : ∀ (a c : List Fn) (b : Nat), frows (a ++ c) b = frows a b ++ frows c (b + sizeF a)
 | [], c, b => by simp [frows, sizeF]
 | f :: fs, c, b => by simp [frows, sizeF, frows_app fs, Nat.add_assoc]
theorem frows_len : ∀ (a : List Fn) (b : Nat), (frows a b).length = a.length
 | [], b => rfl
 | f :: fs, b => by simp [frows, frows_len fs]
def outP (l : List Tok) (x : R (List Dec × List Fn)) : Out :=
 match x with
 | .ok (ds, fs) _ => .ok (.agg [.d (.slice 3 (ds.map decL) false), .d (.slice 3 (frows fs 0) false), .d (.slice 5 ((nodesF fs 0).map nodL) false)]) (rdN l l.length (nodesF fs 0))
 | .bad => .bad
 | .out => .out
theorem outP_ne {l : List Tok} {x : R (List Dec × List Fn)} (h : x ≠ R.out) : outP l x ≠ Out.out := by
 cases x with
 | out => exact absurd rfl h
 | bad => intro h; cases h
 | ok e r => intro h; cases h
theorem useD {f : FuncId} {vs : List V} {l : List Tok} {k : Nat} {ns : List Nod} {x : R Dec} (h : SatO f vs (rdN l k ns) (outD l ns x)) (hk : k ≤ l.length) (hs : ∀ e r, x = .ok e r → Suf (l.drop k) r 1) :
   x = .out ∨ (x = .bad ∧ SatP P0 f vs (rdN l k ns) wrongD) ∨ ∃ e k', x = .ok e (l.drop k') ∧ k' ≤ l.length ∧ k + 1 ≤ k' ∧ SatE P0 f vs (rdN l k ns) (decV e) (rdN l k' ns) := by
 cases x with
 | out => exact .inl rfl
 | bad => exact .inr (.inl ⟨rfl, h⟩)
 | ok e r =>
   obtain ⟨k', h1, rfl, h2⟩ := suf_at (hs e r rfl) hk
   refine .inr (.inr ⟨e, k', rfl, h1, h2, ?_⟩)
   have h : SatE P0 f vs (rdN l k ns) (decV e) (rdN l (l.length - (l.drop k').length) ns) := h
   rw [len_drop h1] at h
   exact h
theorem useF {f : FuncId} {vs : List V} {l : List Tok} {k : Nat} {ns : List Nod} {x : R Fn} (h : SatO f vs (rdN l k ns) (outF l ns x)) (hk : k ≤ l.length) (hs : ∀ e r, x = .ok e r → Suf (l.drop k) r (e.body.sz + 1)) :
   x = .out ∨ (x = .bad ∧ SatP P0 f vs (rdN l k ns) wrongD) ∨ ∃ e k', x = .ok e (l.drop k') ∧ k' ≤ l.length ∧ k + (e.body.sz + 1) ≤ k' ∧ SatE P0 f vs (rdN l k ns) (.agg [.d (.str e.name), .d (strsD e.args), .d (I ((ns.length + e.body.sz : Nat)))]) (rdN l k' (ns ++ e.body.all ns.length)) := by
 cases x with
 | out => exact .inl rfl
 | bad => exact .inr (.inl ⟨rfl, h⟩)
 | ok e r =>
   obtain ⟨k', h1, rfl, h2⟩ := suf_at (hs e r rfl) hk
   refine .inr (.inr ⟨e, k', rfl, h1, h2, ?_⟩)
   have h : SatE P0 f vs (rdN l k ns) (.agg [.d (.str e.name), .d (strsD e.args), .d (I ((ns.length + e.body.sz : Nat)))]) (rdN l (l.length - (l.drop k').length) (ns ++ e.body.all ns.length)) := h
   rw [len_drop h1] at h
   exact h
theorem suf_of_eats {α : Type} {d : Int} {p q : List Tok → R α} (hp : IsP d p q) (he : Eats p) {r r' : List Tok} {a : α} (h : p r = .ok a r') : Suf r r' 1 := by
 obtain ⟨c, rfl⟩ := hp.pre _ _ _ h
 have := he _ _ _ h
 simp at this
 exact ⟨c.length, by simp, by simp, by cases c <;> simp at *⟩
theorem suf_fun {n : Nat} {r r' : List Tok} {f : Fn} (h : pFun n r = .ok f r') : Suf r r' (f.body.sz + 1) := by
 rw [pFun] at h
 obtain ⟨_, r1, h1, h⟩ := bind_ok.1 h
 obtain ⟨s, r2, h2, h⟩ := bind_ok.1 h
 obtain ⟨l, r3, h3, h⟩ := bind_ok.1 h
 obtain ⟨b, r4, h4, h⟩ := bind_ok.1 h
 injection h with h h'
 subst h h'
 have : Suf r2 r3 0 := by
   obtain ⟨c, rfl⟩ := (isp_names n).pre _ _ _ h3
   exact ⟨c.length, by simp, by simp, Nat.zero_le _⟩
 exact ((Suf.want (by decide) h1).trans ((Suf.name h2).trans (this.trans ((suf_s n).block _ _ _ h4)))).le (by simp only; omega)
theorem c_prog (l : List Tok) (hl : l.length < 1000000) (n : Nat) : SatO n_parse_reader_program [.ptr 0 0] (rdN l 0 []) (outP l (pProg n l)) := by
 rw [pProg]
 generalize hR : ((pDecls n l).bind fun d r => (pFuns n r).bind fun f r => R.ok (d, f) r) = Rr
 by_cases hout : Rr = .out
 · rw [hout]; exact trivial
 have hR : ((pDecls n (l.drop 0)).bind fun es r => R.ok (([] : List Dec) ++ es) r).bind (fun d r => (pFuns n r).bind fun f r => R.ok (d, f) r) = Rr := by
   rw [← hR, List.drop_zero]
   cases pDecls n l <;> rfl
 refine SatO_by is_parse_reader_program rfl (outP_ne hout) ?_
 ((repeat' first|refine aw ?_|refine bw (fun _=>?_) fun _=>?_))
 refine WT_loop (fun ((ds, k, m) : List Dec × Nat × Nat) => ⟨[(3, .ptr 3 0), (2, .ptr 2 0), (0, .ptr 0 0)], heapOf 0 (rdN l k [] ++ [.var [.d .nil, .d .nil, .d .nil], .var [.ref 4 0 0 (ds.map decL).length, .d .nil, .d .nil], .arr 3 (ds.map decL)]), 5, [], 2⟩)
   (fun (ds, k, m) => ((pDecls m (l.drop k)).bind fun es r => R.ok (ds ++ es) r).bind (fun d r => (pFuns n r).bind fun f r => R.ok (d, f) r) = Rr ∧ k ≤ l.length ∧ ds.length ≤ k) (fun (_, _, m) => m) ([], 0, n) (by exact Uw.wW) ⟨hR, Nat.zero_le _, Nat.le_refl _⟩ ?_
 clear hR
 rintro ⟨ds, k, m⟩ ⟨hR, hk, hds⟩
 have hdl : (ds.map decL).length = ds.length := by simp
 cases m with
 | zero => rw [pDecls] at hR; exact absurd hR.symm hout
 | succ m =>
   have pk := s_parse_reader_peek l k (([] : List Nod).map nodL) hk
   have e1 : (l.map tokL).length = l.length := by simp
   by_cases hs : l.drop k = [] ∨ hd (l.drop k) = sFunc
   · rw [pDecls, if_pos hs] at hR
     have hR : ((pFuns n (l.drop k)).bind fun es r => R.ok (([] : List Fn) ++ es) r).bind (fun f r => R.ok (ds, f) r) = Rr := by
       rw [← hR]
       show _ = (pFuns n (l.drop k)).bind fun f r => R.ok (ds ++ [], f) r
       rw [List.append_nil]
       cases pFuns n (l.drop k) <;> rfl
     have hcase : (k < l.length ∧ hd (l.drop k) = sFunc) ∨ ¬ k < l.length := by
       by_cases hk2 : k < l.length
       · exact .inl ⟨hk2, hs.resolve_left (by intro e; have := congrArg List.length e; simp at this; omega)⟩
       · exact .inr hk2
     clear hs
     rcases hcase with ⟨hk0, hs2⟩ | hk0
     rotate_left
     ((repeat' first|refine aw ?_|refine bw (fun _=>?_) fun _=>?_))
     refine WT_break ?_
     ((repeat' first|refine aw ?_|refine bw (fun _=>?_) fun _=>?_))
     rotate_left
     rw [hs2] at pk
     ((repeat' first|refine aw ?_|refine bw (fun _=>?_) fun _=>?_))
     refine WT_frE 5 [0, 1] pk ?_
     ((repeat' first|refine aw ?_|refine bw (fun _=>?_) fun _=>?_))
     refine WT_break ?_
     ((repeat' first|refine aw ?_|refine bw (fun _=>?_) fun _=>?_))
     all_goals clear hk0
     all_goals
       refine WT_loop (fun ((fs, k, m) : List Fn × Nat × Nat) => ⟨[(3, .ptr 3 0), (2, .ptr 2 0), (0, .ptr 0 0)], heapOf 0 (rdN l k (nodesF fs 0) ++ [.var [.d .nil, .d .nil, .d .nil], .var [.ref 4 0 0 (ds.map decL).length, .ref 5 0 0 (frows fs 0).length, .d .nil], .arr 3 (ds.map decL), .arr 3 (frows fs 0)]), 6, [], 2⟩)
         (fun (fs, k, m) => ((pFuns m (l.drop k)).bind fun es r => R.ok (fs ++ es) r).bind (fun f r => R.ok (ds, f) r) = Rr ∧ k ≤ l.length ∧ fs.length + sizeF fs ≤ 2 * k ∧ sizeF fs ≤ k) (fun (_, _, m) => m) ([], k, n) (by exact Uw.wW) ⟨hR, hk, by simp [sizeF], by simp [sizeF]⟩ ?_
       clear hR
       rintro ⟨fs, k, m⟩ ⟨hR, hk, hfs, hsz⟩
       have hfl : (frows fs 0).length = fs.length := frows_len fs 0
       have hnl : (nodesF fs 0).length = sizeF fs := nodesF_len fs 0
       cases m with
       | zero => rw [pFuns] at hR; exact absurd hR.symm hout
       | succ m =>
         by_cases hk2 : k < l.length
         · rw [pFuns, if_neg (by intro e; have := congrArg List.length e; simp at this; omega)] at hR
           rcases useF (c_fun l hl m k (nodesF fs 0) hk (by omega)) hk (fun e r h => suf_fun h) with h0 | ⟨h0, h1⟩ | ⟨f, k2, h0, hk3, hk3', h1⟩
           · rw [h0] at hR; exact absurd hR.symm hout
           · rw [h0] at hR
             have hb : outP l Rr = .bad := by rw [← hR]; rfl
             clear hR hout h0
             ((repeat' first|refine aw ?_|refine bw (fun _=>?_) fun _=>?_))
             refine WT_drawP ?_
             ((repeat' first|refine aw ?_|refine bw (fun _=>?_) fun _=>?_))
             refine WT_frP 6 [0, 1] h1 ?_
             intro H q
             ((repeat' first|refine aw ?_|refine bw (fun _=>?_) fun _=>?_))
             refine WT_done ⟨wrongD, rfl, ?_⟩
             ((repeat' first|refine aw ?_|refine bw (fun _=>?_) fun _=>?_))
             exact WT_throw (WT_opan 2 hb rfl)
           · rw [h0] at hR
             have hR : ((pFuns m (l.drop k2)).bind fun es r => R.ok ((fs ++ [f]) ++ es) r).bind (fun f r => R.ok (ds, f) r) = Rr := by
               rw [← hR]
               show _ = R.bind (R.bind (R.bind (pFuns m (l.drop k2)) _) _) _
               cases pFuns m (l.drop k2) with
               | ok es r => show R.bind (R.ok (fs ++ [f] ++ es) r) _ = R.bind (R.ok (fs ++ (f :: es)) r) _; rw [List.append_assoc]; rfl
               | bad => rfl
               | out => rfl
             have hsf : sizeF (fs ++ [f]) = sizeF fs + (f.body.sz + 1) := by rw [sizeF_app]; simp [sizeF, Fn.sz]
             have hnn : nodesF fs 0 ++ f.body.all (nodesF fs 0).length = nodesF (fs ++ [f]) 0 := by rw [nodesF_app, hnl]; simp [nodesF]
             have hff : frows fs 0 ++ [[.str f.name, strsD f.args, I (((nodesF fs 0).length + f.body.sz : Nat))]] = frows (fs ++ [f]) 0 := by rw [frows_app, hnl]; simp [frows]
             have hfn : (frows fs 0).length + 1 = (frows (fs ++ [f]) 0).length := by rw [frows_len, frows_len]; simp
             rw [hnn] at h1
             have hz : strsD f.args = .nil ∨ strsD f.args = .slice 1 (rowS f.args) false := by
               unfold strsD
               split
               · exact .inl rfl
               · exact .inr rfl
             clear hout h0 hnn
             rcases hz with e | e
             all_goals rw [e] at h1 hff
             all_goals ((repeat' first|refine aw ?_|refine bw (fun _=>?_) fun _=>?_))
             all_goals refine WT_draw ⟨[(3, .ptr 3 0), (2, .ptr 2 0), (0, .ptr 0 0)], heapOf 0 (rdN l k2 (nodesF (fs ++ [f]) 0) ++ [.var [.d .nil, .d .nil, .d .nil], .var [.ref 4 0 0 (ds.map decL).length, .ref 5 0 0 (frows (fs ++ [f]) 0).length, .d .nil], .arr 3 (ds.map decL), .arr 3 (frows (fs ++ [f]) 0)]), 6, [], 2⟩ ?_ ?_
             any_goals
               ((repeat' first|refine aw ?_|refine bw (fun _=>?_) fun _=>?_))
               refine WT_frE 6 [0, 1] h1 ?_
               ((repeat' first|refine aw ?_|refine bw (fun _=>?_) fun _=>?_))
               exact WT_done (.inl ⟨rfl, by exact Uw.wW⟩)
             all_goals ((repeat' first|refine aw ?_|refine bw (fun _=>?_) fun _=>?_))
             all_goals exact WT_again (fs ++ [f], k2, m) ⟨hR, hk3, by rw [hsf]; simp; omega, by omega⟩ (by simp only; omega) (by exact Uw.wW)
         · rw [List.drop_eq_nil_of_le (by omega), pFuns, if_pos rfl] at hR
           have hR : R.ok (ds, fs ++ []) [] = Rr := hR
           rw [List.append_nil] at hR
           have hkl : k = l.length := by omega
           have hb : outP l Rr = .ok (.agg [.d (.slice 3 (ds.map decL) false), .d (.slice 3 (frows fs 0) false), .d (.slice 5 ((nodesF fs 0).map nodL) false)]) (rdN l l.length (nodesF fs 0)) := by rw [← hR]; rfl
           have z1 : ((ds.map decL).drop 0).take (ds.map decL).length = ds.map decL := by rw [List.drop_zero, List.take_length]
           have z2 : ((frows fs 0).drop 0).take (frows fs 0).length = frows fs 0 := by rw [List.drop_zero, List.take_length]
           have z3 : (((nodesF fs 0).map nodL).drop 0).take ((nodesF fs 0).map nodL).length = (nodesF fs 0).map nodL := by rw [List.drop_zero, List.take_length]
           clear hR hout
           subst hkl
           ((repeat' first|refine aw ?_|refine bw (fun _=>?_) fun _=>?_))
           refine WT_break ?_
           ((repeat' first|refine aw ?_|refine bw (fun _=>?_) fun _=>?_))
           exact WT_oret 2 hb rfl rfl (by exact Uw.wW)
   · rw [pDecls, if_neg hs] at hR
     have hk2 : k < l.length := by
       rcases Nat.lt_or_ge k l.length with h | h
       · exact h
       · exact absurd (.inl (List.drop_eq_nil_of_le h)) hs
     have hs2 : hd (l.drop k) ≠ sFunc := fun h => hs (.inr h)
     clear hs
     unfold sFunc at hs2
     rcases useD (c_decl l hl k [] hk) hk (fun e r h => suf_of_eats isp_decl eats_decl h) with h0 | ⟨h0, h1⟩ | ⟨d, k2, h0, hk3, hk3', h1⟩
     · exact absurd h0 (no_decl _)
     · rw [h0] at hR
       have hb : outP l Rr = .bad := by rw [← hR]; rfl
       clear hR hout h0
       ((repeat' first|refine aw ?_|refine bw (fun _=>?_) fun _=>?_))
       refine WT_frE 5 [0, 1] pk ?_
       ((repeat' first|refine aw ?_|refine bw (fun _=>?_) fun _=>?_))
       refine WT_drawP ?_
       ((repeat' first|refine aw ?_|refine bw (fun _=>?_) fun _=>?_))
       refine WT_frP 5 [0, 1] h1 ?_
       intro H q
       ((repeat' first|refine aw ?_|refine bw (fun _=>?_) fun _=>?_))
       refine WT_done ⟨wrongD, rfl, ?_⟩
       ((repeat' first|refine aw ?_|refine bw (fun _=>?_) fun _=>?_))
       exact WT_throw (WT_opan 2 hb rfl)
     · rw [h0] at hR
       have hR : ((pDecls m (l.drop k2)).bind fun es r => R.ok ((ds ++ [d]) ++ es) r).bind (fun d r => (pFuns n r).bind fun f r => R.ok (d, f) r) = Rr := by
         rw [← hR]
         show _ = R.bind (R.bind (R.bind (pDecls m (l.drop k2)) _) _) _
         cases pDecls m (l.drop k2) with
         | ok es r => show R.bind (R.ok (ds ++ [d] ++ es) r) _ = R.bind (R.ok (ds ++ (d :: es)) r) _; rw [List.append_assoc]; rfl
         | bad => rfl
         | out => rfl
       have hdr : ds.map decL ++ [decL d] = (ds ++ [d]).map decL := by simp
       have hdn : (ds.map decL).length + 1 = ((ds ++ [d]).map decL).length := by simp
       clear hout h0
       ((repeat' first|refine aw ?_|refine bw (fun _=>?_) fun _=>?_))
       refine WT_frE 5 [0, 1] pk ?_
       ((repeat' first|refine aw ?_|refine bw (fun _=>?_) fun _=>?_))
       refine WT_draw ⟨[(3, .ptr 3 0), (2, .ptr 2 0), (0, .ptr 0 0)], heapOf 0 (rdN l k2 [] ++ [.var [.d .nil, .d .nil, .d .nil], .var [.ref 4 0 0 ((ds ++ [d]).map decL).length, .d .nil, .d .nil], .arr 3 ((ds ++ [d]).map decL)]), 5, [], 2⟩ ?_ ?_
       · ((repeat' first|refine aw ?_|refine bw (fun _=>?_) fun _=>?_))
         refine WT_frE 5 [0, 1] h1 ?_
         ((repeat' first|refine aw ?_|refine bw (fun _=>?_) fun _=>?_))
         exact WT_done (.inl ⟨rfl, by exact Uw.wW⟩)
       · ((repeat' first|refine aw ?_|refine bw (fun _=>?_) fun _=>?_))
         exact WT_again (ds ++ [d], k2, m) ⟨hR, hk3, by simp; omega⟩ (by simp only; omega) (by exact Uw.wW)
end Uw.Tryd
namespace Uw.Tryd
open Go Uw
def rawP (x : List Dec × List Fn) : Dat := .agg [.slice 3 (x.1.map decL) false, .slice 3 (frows x.2 0) false, .slice 5 ((nodesF x.2 0).map nodL) false]
def noD : Dat := .agg [.nil, .nil, .nil]
theorem of_calm (h : Heap) (nx : Nat) : SatD P0 n_parse_Of_1 [.ptr 0 0, .ptr 1 0] h nx none (fun h' nx' => h' = h ∧ nx' = nx) := by
 refine SatD_of_exec is_parse_Of_1 rfl ?_
 refine WT_f rfl ?_
 exact WT_done ⟨.inl rfl, rfl, rfl, rfl⟩
theorem of_caught (a b c d : V) (nx : Nat) : SatD P0 n_parse_Of_1 [.ptr 0 0, .ptr 1 0] [(0, .var [a, b, c]), (1, .var [d])] nx (some wrongD) (fun h' nx' => h' = (1, .var [.d (I 3)]) :: (0, .var [.d .nil, .d .nil, .d .nil]) :: [(0, .var [a, b, c]), (1, .var [d])] ∧ nx' = nx) := by
 refine SatD_of_exec is_parse_Of_1 rfl ?_
 refine WT_t rfl ?_
 exact WT_done ⟨.inl rfl, rfl, rfl, rfl⟩
theorem s_parse_Of_err (s : List UInt8) (hs : s.length < 1000000) (l : List Tok) (e : Int) (hw : wordsR s = (l, e)) (he : e ≠ 0) : Ret P0 n_parse_Of [.str s] (.tuple [noD, I e]) := by
 have h1 := s_lex_Words s hs
 rw [hw] at h1
 refine Ret_of_execDW is_parse_Of rfl ?_
 ((repeat' first|refine aw ?_|refine bw (fun _=>?_) fun _=>?_))
 refine WT_draw ⟨[(3, .ptr 1 0), (2, .ptr 0 0)], [(1, .var [.d (I e)]), (0, .var [.d .nil, .d .nil, .d .nil])], 2, [], 0⟩ ?_ ?_
 · ((repeat' first|refine aw ?_|refine bw (fun _=>?_) fun _=>?_))
   exact WT_done (.inl ⟨rfl, by exact Uw.wW⟩)
 · ((repeat' first|refine aw ?_|refine bw (fun _=>?_) fun _=>?_))
   exact WT_done ⟨_, .inl rfl, .inl ⟨.inr rfl, rfl, _, _, rfl, rfl, rfl, rfl⟩⟩
theorem s_parse_Of_deep (s : List UInt8) (hs : s.length < 1000000) (l : List Tok) (hl : l.length < 1000000) (hw : wordsR s = (l, 0)) (he : 40 < deepT l 0 0) : Ret P0 n_parse_Of [.str s] (.tuple [noD, I 2]) := by
 have h1 := s_lex_Words s hs
 have h2 := s_parse_Depth l hl
 rw [hw] at h1
 generalize deepT l 0 0 = d at *
 refine Ret_of_execDW is_parse_Of rfl ?_
 ((repeat' first|refine aw ?_|refine bw (fun _=>?_) fun _=>?_))
 exact WT_done ⟨_, .inl rfl, .inl ⟨.inr rfl, rfl, _, _, rfl, rfl, rfl, rfl⟩⟩
theorem s_parse_Of_bad (s : List UInt8) (hs : s.length < 1000000) (l : List Tok) (hl : l.length < 1000000) (hw : wordsR s = (l, 0)) (he : deepT l 0 0 ≤ 40) (hb : SatP P0 n_parse_reader_program [.ptr 0 0] (rdN l 0 []) wrongD) : Ret P0 n_parse_Of [.str s] (.tuple [noD, I 3]) := by
 have h1 := s_lex_Words s hs
 have h2 := s_parse_Depth l hl
 rw [hw] at h1
 generalize deepT l 0 0 = d at *
 refine Ret_of_execDW is_parse_Of rfl ?_
 ((repeat' first|refine aw ?_|refine bw (fun _=>?_) fun _=>?_))
 refine WT_frPW 3 [2] hb ?_
 intro h0 n0
 · refine WT_done ⟨⟨[(2, .ptr 0 0), (3, .ptr 1 0)], [(0, .var [.d .nil, .d .nil, .d .nil]), (1, .var [.d (I 0)])], 2, _, 0⟩, .inr (Weak.rest ?_ ?_ rfl rfl rfl), .inr ⟨some wrongD, n_parse_Of_1, [], [.ptr 0 0, .ptr 1 0], .inr ⟨_, rfl, rfl⟩, rfl, ?_⟩⟩
   · intro p hp
     simp only [List.mem_cons, List.not_mem_nil, or_false] at hp
     rcases hp with rfl | rfl
     · exact ⟨rfl, rfl, rfl⟩
     · exact ⟨rfl, rfl, rfl⟩
   · intro p hp
     simp only [List.mem_cons, List.not_mem_nil, or_false] at hp
     rcases hp with rfl | rfl
     · exact ⟨by decide, by decide, rfl, rfl, rfl, rfl⟩
     · exact ⟨by decide, by decide, rfl, rfl, rfl, rfl⟩
   · refine SatD.mono (of_caught _ _ _ _ _) ?_
     rintro h' nx' ⟨rfl, rfl⟩
     exact ⟨[.agg [.d .nil, .d .nil, .d .nil], .d (I 3)], _, rfl, rfl, rfl, rfl⟩
theorem s_parse_Of_ok (s : List UInt8) (hs : s.length < 1000000) (l : List Tok) (hl : l.length < 1000000) (hw : wordsR s = (l, 0)) (he : deepT l 0 0 ≤ 40) (a b c : List (List Dat)) (ns : List Nod)
   (hb : SatE P0 n_parse_reader_program [.ptr 0 0] (rdN l 0 []) (.agg [.d (.slice 3 a false), .d (.slice 3 b false), .d (.slice 5 c false)]) (rdN l l.length ns)) : Ret P0 n_parse_Of [.str s] (.tuple [.agg [.slice 3 a false, .slice 3 b false, .slice 5 c false], I 0]) := by
 have h1 := s_lex_Words s hs
 have h2 := s_parse_Depth l hl
 rw [hw] at h1
 generalize deepT l 0 0 = d at *
 refine Ret_of_execDW is_parse_Of rfl ?_
 ((repeat' first|refine aw ?_|refine bw (fun _=>?_) fun _=>?_))
 refine WT_frE 3 [2] hb ?_
 ((repeat' first|refine aw ?_|refine bw (fun _=>?_) fun _=>?_))
 refine WT_done ⟨_, .inl rfl, .inr ⟨none, n_parse_Of_1, [], [.ptr 0 0, .ptr 1 0], .inl ⟨.inr rfl, rfl⟩, rfl, ?_⟩⟩
 refine SatD.mono (of_calm _ _) ?_
 rintro h' nx' ⟨rfl, rfl⟩
 exact ⟨[.agg [.d (.slice 3 a false), .d (.slice 3 b false), .d (.slice 5 c false)], .d (I 0)], _, rfl, rfl, rfl, rfl⟩
def ofOut (x : Pg × Int) : Dat := .tuple [pgD x.1, I x.2]
theorem frows_le : ∀ (fs : List Fn) (b : Nat), DLeE (frows fs b) ((funsF fs b).map fuL)
 | [], b => .refl _
 | f :: fs, b => by
   refine .cons (.cons (.refl _) (.cons ?_ (.refl _))) (frows_le fs _)
   show DLe (strsD f.args) (strsC f.args)
   unfold strsD
   split
   · rename_i h; rw [h]; exact .nil 1
   · exact .refl _
theorem ofD_le {x : Nod} (h : x.kind = 1 ∨ x.kind = 2 ∨ x.kind = 12 → x.of = []) : DLe (ofD x.kind x.of) (intsD (x.of.map fun (i : Nat) => (i : Int))) := by
 have e : (x.of.map fun (i : Nat) => [I i]) = ((x.of.map fun (i : Nat) => (i : Int)).map fun i => [I i]) := by simp
 unfold ofD intsD
 split
 · rename_i hk; rw [h hk]; exact .nil 1
 · split
   · split
     · rename_i h0; rw [h0]; exact .nil 1
     · rw [e]; exact .refl _
   · split
     · rw [e]; exact .refl _
     · rw [e]; exact .slice (.refl _)
def NoOf (l : List Nod) : Prop := ∀ x ∈ l, x.kind = 1 ∨ x.kind = 2 ∨ x.kind = 12 → x.of = []
theorem NoOf.app {a b : List Nod} (h1 : NoOf a) (h2 : NoOf b) : NoOf (a ++ b) := fun x hx => (List.mem_append.1 hx).elim (h1 x) (h2 x)
theorem NoOf.one {x : Nod} (h : x.kind = 1 ∨ x.kind = 2 ∨ x.kind = 12 → x.of = []) : NoOf [x] := fun y hy => by simp at hy; subst hy; exact h
end Uw.Tryd
namespace Uw.Tryd
open Go Uw
theorem take_eq_step {α : Type} {a b : List α} {j : Nat} (ha : j < a.length) (hb : j < b.length) (h : a.take j = b.take j) : a.take (j + 1) = b.take (j + 1) ↔ a[j] = b[j] := by
 rw [take_one a j ha, take_one b j hb, h]
 constructor
 · intro e; have := List.append_cancel_left e; simpa using this
 · intro e; rw [e]
theorem take_all_eq {α : Type} {a b : List α} (hl : a.length = b.length) (h : a.take a.length = b.take a.length) : a = b := by
 rw [List.take_length, hl, List.take_length] at h; exact h
theorem s_ref05_ints (a b : List Int) (ha : a.length < 1000000) (hb : b.length < 1000000) : Ret P0 n_ref05_ints [intsD a, intsD b] (.bool (decide (a = b))) := by
 have hma : (a.map fun i => [I i]).length = a.length := by simp
 have hmb : (b.map fun i => [I i]).length = b.length := by simp
 by_cases hl : a.length = b.length
 · refine Ret_by is_ref05_ints rfl ?_
   ((repeat' first|refine aw ?_|refine bw (fun _=>?_) fun _=>?_))
   have he : ∀ (l : List Int) (j : Nat) (h : j < l.length), (l.map fun x => [I x])[((j : Int)).toNat]? = some [I l[j]] := by
     intro l j h
     rw [show ((j : Int)).toNat = j by omega, map_get _ _ _ h]
   refine WT_loop (fun (j : Nat) => ⟨[(5, .d (I j)), (0, .d (intsD a)), (1, .d (intsD b))], [], 0, [], 0⟩)
     (fun j => j ≤ a.length ∧ a.take j = b.take j) (fun j => a.length - j) 0 (by exact Uw.wW) ⟨Nat.zero_le _, rfl⟩ ?_
   rintro j ⟨hj, ht⟩
   by_cases h : j < a.length
   · have h2 : j < b.length := by omega
     have ea := he a j h
     have eb := he b j h2
     by_cases hx : a[j] = b[j]
     · have ht2 := (take_eq_step h h2 ht).2 hx
       rw [← hx] at eb
       clear ht he
       generalize a[j] = x at *
       ((repeat' first|refine aw ?_|refine bw (fun _=>?_) fun _=>?_))
       exact WT_again (j + 1) ⟨by omega, ht2⟩ (by show _ < _; omega) (by exact Uw.wW)
     · rw [decide_eq_false (fun e => hx (by subst e; rfl))]
       clear ht he
       generalize a[j] = x at *
       generalize b[j] = y at *
       ((repeat' first|refine aw ?_|refine bw (fun _=>?_) fun _=>?_))
       exact WT_leave (WT_ret rfl rfl rfl rfl rfl)
   · have ha0 : j = a.length := by omega
     rw [decide_eq_true (take_all_eq hl (by rw [← ha0]; exact ht))]
     ((repeat' first|refine aw ?_|refine bw (fun _=>?_) fun _=>?_))
     refine WT_break ?_
     ((repeat' first|refine aw ?_|refine bw (fun _=>?_) fun _=>?_))
     exact WT_ret rfl rfl rfl rfl rfl
 · rw [decide_eq_false (fun e => hl (by rw [e]))]
   refine Ret_by is_ref05_ints rfl ?_
   ((repeat' first|refine aw ?_|refine bw (fun _=>?_) fun _=>?_))
   exact WT_ret rfl rfl rfl rfl rfl
theorem s_ref05_texts (a b : List Str) (ha : a.length < 1000000) (hb : b.length < 1000000) : Ret P0 n_ref05_texts [strsC a, strsC b] (.bool (decide (a = b))) := by
 have hma : (a.map fun s => [Dat.str s]).length = a.length := by simp
 have hmb : (b.map fun s => [Dat.str s]).length = b.length := by simp
 by_cases hl : a.length = b.length
 · refine Ret_by is_ref05_texts rfl ?_
   ((repeat' first|refine aw ?_|refine bw (fun _=>?_) fun _=>?_))
   have he : ∀ (l : List Str) (j : Nat) (h : j < l.length), (l.map fun x => [Dat.str x])[((j : Int)).toNat]? = some [Dat.str l[j]] := by
     intro l j h
     rw [show ((j : Int)).toNat = j by omega, map_get _ _ _ h]
   refine WT_loop (fun (j : Nat) => ⟨[(5, .d (I j)), (0, .d (strsC a)), (1, .d (strsC b))], [], 0, [], 0⟩)
     (fun j => j ≤ a.length ∧ a.take j = b.take j) (fun j => a.length - j) 0 (by exact Uw.wW) ⟨Nat.zero_le _, rfl⟩ ?_
   rintro j ⟨hj, ht⟩
   by_cases h : j < a.length
   · have h2 : j < b.length := by omega
     have ea := he a j h
     have eb := he b j h2
     by_cases hx : a[j] = b[j]
     · have ht2 := (take_eq_step h h2 ht).2 hx
       rw [← hx] at eb
       clear ht he
       generalize a[j] = x at *
       ((repeat' first|refine aw ?_|refine bw (fun _=>?_) fun _=>?_))
       exact WT_again (j + 1) ⟨by omega, ht2⟩ (by show _ < _; omega) (by exact Uw.wW)
     · rw [decide_eq_false (fun e => hx (by subst e; rfl))]
       clear ht he
       generalize a[j] = x at *
       generalize b[j] = y at *
       ((repeat' first|refine aw ?_|refine bw (fun _=>?_) fun _=>?_))
       exact WT_leave (WT_ret rfl rfl rfl rfl rfl)
   · have ha0 : j = a.length := by omega
     rw [decide_eq_true (take_all_eq hl (by rw [← ha0]; exact ht))]
     ((repeat' first|refine aw ?_|refine bw (fun _=>?_) fun _=>?_))
     refine WT_break ?_
     ((repeat' first|refine aw ?_|refine bw (fun _=>?_) fun _=>?_))
     exact WT_ret rfl rfl rfl rfl rfl
 · rw [decide_eq_false (fun e => hl (by rw [e]))]
   refine Ret_by is_ref05_texts rfl ?_
   ((repeat' first|refine aw ?_|refine bw (fun _=>?_) fun _=>?_))
   exact WT_ret rfl rfl rfl rfl rfl
theorem dec_eq (x y : Dec) : negB true (decide (x.kind = y.kind) && (decide (x.name = y.name) && (decide (x.n = y.n) && true))) = !decide (x = y) := by
 obtain ⟨k, s, n⟩ := x
 obtain ⟨k', s', n'⟩ := y
 by_cases h1 : k = k' <;> by_cases h2 : s = s' <;> by_cases h3 : n = n' <;> simp [h1, h2, h3, negB]
structure Small (p : Pg) : Prop where
 decls : p.decls.length < 1000000
 funs : p.funs.length < 1000000
 nodes : p.nodes.length < 1000000
 args : ∀ f ∈ p.funs, f.args.length < 1000000
 of : ∀ x ∈ p.nodes, x.of.length < 1000000
abbrev sameH (a b : Pg) : Heap := [(1, .var [.d (Dat.slice 3 (List.map decL b.decls) false), .d (Dat.slice 3 (List.map fuL b.funs) false), .d (Dat.slice 5 (List.map ndL b.nodes) false)]), (0, .var [.d (Dat.slice 3 (List.map decL a.decls) false), .d (Dat.slice 3 (List.map fuL a.funs) false), .d (Dat.slice 5 (List.map ndL a.nodes) false)])]
theorem s_ref05_Same (a b : Pg) (ha : Small a) (hb : Small b) : Ret P0 n_ref05_Same [pgD a, pgD b] (.bool (decide (a = b))) := by
 obtain ⟨ha1, ha2, ha3, ha4, ha5⟩ := ha
 obtain ⟨hb1, hb2, hb3, hb4, hb5⟩ := hb
 have m1 : (a.decls.map decL).length = a.decls.length := by simp
 have m2 : (b.decls.map decL).length = b.decls.length := by simp
 have m3 : (a.funs.map fuL).length = a.funs.length := by simp
 have m4 : (b.funs.map fuL).length = b.funs.length := by simp
 have m5 : (a.nodes.map ndL).length = a.nodes.length := by simp
 have m6 : (b.nodes.map ndL).length = b.nodes.length := by simp
 by_cases hl1 : a.decls.length = b.decls.length
 rotate_left
 · rw [decide_eq_false (fun e => hl1 (by rw [e]))]
   refine Ret_by is_ref05_Same rfl ?_
   ((repeat' first|refine aw ?_|refine bw (fun _=>?_) fun _=>?_))
   exact WT_ret rfl rfl rfl rfl rfl
 by_cases hl2 : a.funs.length = b.funs.length
 rotate_left
 · rw [decide_eq_false (fun e => hl2 (by rw [e]))]
   refine Ret_by is_ref05_Same rfl ?_
   ((repeat' first|refine aw ?_|refine bw (fun _=>?_) fun _=>?_))
   exact WT_ret rfl rfl rfl rfl rfl
 by_cases hl3 : a.nodes.length = b.nodes.length
 rotate_left
 · rw [decide_eq_false (fun e => hl3 (by rw [e]))]
   refine Ret_by is_ref05_Same rfl ?_
   ((repeat' first|refine aw ?_|refine bw (fun _=>?_) fun _=>?_))
   exact WT_ret rfl rfl rfl rfl rfl
 generalize hD : decide (a = b) = D
 refine Ret_by is_ref05_Same rfl ?_
 ((repeat' first|refine aw ?_|refine bw (fun _=>?_) fun _=>?_))
 refine WT_loop (fun (j : Nat) => ⟨[(5, .d (I j)), (3, .ptr 1 0), (2, .ptr 0 0)], sameH a b, 2, [], 0⟩)
   (fun j => j ≤ a.decls.length ∧ a.decls.take j = b.decls.take j) (fun j => a.decls.length - j) 0 (by exact Uw.wW) ⟨Nat.zero_le _, rfl⟩ ?_
 rintro j ⟨hj, ht⟩
 by_cases h : j < a.decls.length
 · have h2 : j < b.decls.length := by omega
   have ea : (a.decls.map decL)[((j : Int)).toNat]? = some (decL a.decls[j]) := by rw [show ((j : Int)).toNat = j by omega, map_get _ _ _ h]
   have eb : (b.decls.map decL)[((j : Int)).toNat]? = some (decL b.decls[j]) := by rw [show ((j : Int)).toNat = j by omega, map_get _ _ _ h2]
   have hq := dec_eq a.decls[j] b.decls[j]
   by_cases hx : a.decls[j] = b.decls[j]
   · have ht2 := (take_eq_step h h2 ht).2 hx
     rw [decide_eq_true hx] at hq
     have hq : negB true (decide (a.decls[j].kind = b.decls[j].kind) && (decide (a.decls[j].name = b.decls[j].name) && (decide (a.decls[j].n = b.decls[j].n) && true))) = false := hq
     clear ht hx
     generalize a.decls[j] = x at *
     generalize b.decls[j] = y at *
     ((repeat' first|refine aw ?_|refine bw (fun _=>?_) fun _=>?_))
     exact WT_again (j + 1) ⟨by omega, ht2⟩ (by show _ < _; omega) (by exact Uw.wW)
   · have : D = false := by rw [← hD]; exact decide_eq_false (fun e => hx (by subst e; rfl))
     subst this
     rw [decide_eq_false hx] at hq
     have hq : negB true (decide (a.decls[j].kind = b.decls[j].kind) && (decide (a.decls[j].name = b.decls[j].name) && (decide (a.decls[j].n = b.decls[j].n) && true))) = true := hq
     clear ht hx
     generalize a.decls[j] = x at *
     generalize b.decls[j] = y at *
     ((repeat' first|refine aw ?_|refine bw (fun _=>?_) fun _=>?_))
     exact WT_leave (WT_ret rfl rfl rfl rfl rfl)
 have hd : a.decls = b.decls := take_all_eq hl1 (by rw [← show j = a.decls.length by omega]; exact ht)
 clear ht
 ((repeat' first|refine aw ?_|refine bw (fun _=>?_) fun _=>?_))
 refine WT_break ?_
 ((repeat' first|refine aw ?_|refine bw (fun _=>?_) fun _=>?_))
 refine WT_loop (fun (j : Nat) => ⟨[(6, .d (I j)), (3, .ptr 1 0), (2, .ptr 0 0)], sameH a b, 2, [], 0⟩)
   (fun j => j ≤ a.funs.length ∧ a.funs.take j = b.funs.take j) (fun j => a.funs.length - j) 0 (by exact Uw.wW) ⟨Nat.zero_le _, rfl⟩ ?_
 clear h hj j
 rintro j ⟨hj, ht⟩
 by_cases h : j < a.funs.length
 · have h2 : j < b.funs.length := by omega
   have ea : (a.funs.map fuL)[((j : Int)).toNat]? = some (fuL a.funs[j]) := by rw [show ((j : Int)).toNat = j by omega, map_get _ _ _ h]
   have eb : (b.funs.map fuL)[((j : Int)).toNat]? = some (fuL b.funs[j]) := by rw [show ((j : Int)).toNat = j by omega, map_get _ _ _ h2]
   have hS := s_ref05_texts a.funs[j].args b.funs[j].args (ha4 _ (List.getElem_mem _)) (hb4 _ (List.getElem_mem _))
   by_cases hx : a.funs[j] = b.funs[j]
   · have ht2 := (take_eq_step h h2 ht).2 hx
     rw [← hx] at hS
     rw [← hx] at eb
     rw [decide_eq_true rfl] at hS
     clear ht hx
     generalize a.funs[j] = x at *
     obtain ⟨n, l, c⟩ := x
     ((repeat' first|refine aw ?_|refine bw (fun _=>?_) fun _=>?_))
     exact WT_again (j + 1) ⟨by omega, ht2⟩ (by show _ < _; omega) (by exact Uw.wW)
   · have : D = false := by rw [← hD]; exact decide_eq_false (fun e => hx (by subst e; rfl))
     subst this
     clear ht
     generalize a.funs[j] = x at *
     generalize b.funs[j] = y at *
     obtain ⟨n, l, c⟩ := x
     obtain ⟨n', l', c'⟩ := y
     by_cases h3 : n = n'
     · by_cases h4 : c = c'
       · have h5 : ¬ l = l' := by rintro rfl; exact hx (by rw [h3, h4])
         simp only [decide_eq_false h5] at hS
         clear hx
         subst h3 h4
         ((repeat' first|refine aw ?_|refine bw (fun _=>?_) fun _=>?_))
         exact WT_leave (WT_ret rfl rfl rfl rfl rfl)
       · clear hx
         subst h3
         ((repeat' first|refine aw ?_|refine bw (fun _=>?_) fun _=>?_))
         exact WT_leave (WT_ret rfl rfl rfl rfl rfl)
     · clear hx
       ((repeat' first|refine aw ?_|refine bw (fun _=>?_) fun _=>?_))
       exact WT_leave (WT_ret rfl rfl rfl rfl rfl)
 have hf : a.funs = b.funs := take_all_eq hl2 (by rw [← show j = a.funs.length by omega]; exact ht)
 clear ht
 ((repeat' first|refine aw ?_|refine bw (fun _=>?_) fun _=>?_))
 refine WT_break ?_
 ((repeat' first|refine aw ?_|refine bw (fun _=>?_) fun _=>?_))
 refine WT_loop (fun (j : Nat) => ⟨[(7, .d (I j)), (3, .ptr 1 0), (2, .ptr 0 0)], sameH a b, 2, [], 0⟩)
   (fun j => j ≤ a.nodes.length ∧ a.nodes.take j = b.nodes.take j) (fun j => a.nodes.length - j) 0 (by exact Uw.wW) ⟨Nat.zero_le _, rfl⟩ ?_
 clear h hj j
 rintro j ⟨hj, ht⟩
 by_cases h : j < a.nodes.length
 · have h2 : j < b.nodes.length := by omega
   have ea : (a.nodes.map ndL)[((j : Int)).toNat]? = some (ndL a.nodes[j]) := by rw [show ((j : Int)).toNat = j by omega, map_get _ _ _ h]
   have eb : (b.nodes.map ndL)[((j : Int)).toNat]? = some (ndL b.nodes[j]) := by rw [show ((j : Int)).toNat = j by omega, map_get _ _ _ h2]
   have hS := s_ref05_ints a.nodes[j].of b.nodes[j].of (ha5 _ (List.getElem_mem _)) (hb5 _ (List.getElem_mem _))
   by_cases hx : a.nodes[j] = b.nodes[j]
   · have ht2 := (take_eq_step h h2 ht).2 hx
     rw [← hx] at hS
     rw [← hx] at eb
     rw [decide_eq_true rfl] at hS
     clear ht hx
     generalize a.nodes[j] = x at *
     obtain ⟨k, n, s, s2, l⟩ := x
     ((repeat' first|refine aw ?_|refine bw (fun _=>?_) fun _=>?_))
     exact WT_again (j + 1) ⟨by omega, ht2⟩ (by show _ < _; omega) (by exact Uw.wW)
   · have : D = false := by rw [← hD]; exact decide_eq_false (fun e => hx (by subst e; rfl))
     subst this
     clear ht
     generalize a.nodes[j] = x at *
     generalize b.nodes[j] = y at *
     obtain ⟨k, n, s, s2, l⟩ := x
     obtain ⟨k', n', s', s2', l'⟩ := y
     by_cases h3 : k = k'
     · by_cases h4 : n = n'
       · by_cases h5 : s = s'
         · by_cases h6 : s2 = s2'
           · have h7 : ¬ l = l' := by rintro rfl; exact hx (by rw [h3, h4, h5, h6])
             simp only [decide_eq_false h7] at hS
             clear hx
             subst h3 h4 h5 h6
             ((repeat' first|refine aw ?_|refine bw (fun _=>?_) fun _=>?_))
             exact WT_leave (WT_ret rfl rfl rfl rfl rfl)
           · clear hx
             subst h3 h4 h5
             ((repeat' first|refine aw ?_|refine bw (fun _=>?_) fun _=>?_))
             exact WT_leave (WT_ret rfl rfl rfl rfl rfl)
         · clear hx
           subst h3 h4
           ((repeat' first|refine aw ?_|refine bw (fun _=>?_) fun _=>?_))
           exact WT_leave (WT_ret rfl rfl rfl rfl rfl)
       · clear hx
         subst h3
         ((repeat' first|refine aw ?_|refine bw (fun _=>?_) fun _=>?_))
         exact WT_leave (WT_ret rfl rfl rfl rfl rfl)
     · clear hx
       ((repeat' first|refine aw ?_|refine bw (fun _=>?_) fun _=>?_))
       exact WT_leave (WT_ret rfl rfl rfl rfl rfl)
 have hn : a.nodes = b.nodes := take_all_eq hl3 (by rw [← show j = a.nodes.length by omega]; exact ht)
 have : D = true := by
   rw [← hD]
   refine decide_eq_true ?_
   obtain ⟨a1, a2, a3⟩ := a
   obtain ⟨b1, b2, b3⟩ := b
   have hd : a1 = b1 := hd
   have hf : a2 = b2 := hf
   have hn : a3 = b3 := hn
   rw [hd, hf, hn]
 subst this
 ((repeat' first|refine aw ?_|refine bw (fun _=>?_) fun _=>?_))
 refine WT_break ?_
 ((repeat' first|refine aw ?_|refine bw (fun _=>?_) fun _=>?_))
 exact WT_ret rfl rfl rfl rfl rfl
end Uw.Tryd
namespace Uw.Tryd
open Go Uw
mutual
theorem Ex.noOf : ∀ (e : Ex) (b : Nat), e.good → NoOf (e.flat b)
 | .num _, b, _ => .one (fun _ => rfl)
 | .name _, b, _ => .one (fun _ => rfl)
 | .bin k x y, b, ⟨hk, hx, hy⟩ => ((x.noOf b hx).app (y.noOf _ hy)).app (.one (by simp only; omega))
 | .call o v ar, b, ⟨_, _, h⟩ => (ar.noOf b h).app (.one (by simp))
theorem Exs.noOf : ∀ (e : Exs) (b : Nat), e.good → NoOf (e.flat b)
 | .nil, b, _ => by simp [NoOf, Exs.flat]
 | .cons e r, b, ⟨h1, h2⟩ => (e.noOf b h1).app (r.noOf _ h2)
end
theorem Bl.all_noOf {x : Bl} {b : Nat} (h : NoOf (x.flat b)) : NoOf (x.all b) := h.app (.one (by simp))
mutual
theorem Stm.noOf : ∀ (e : Stm) (b : Nat), e.good → NoOf (e.flat b)
 | .set s e, b, ⟨_, h⟩ => (e.noOf b h).app (.one (by simp))
 | .task par to f ar, b, ⟨_, _, h, _⟩ => (ar.noOf b h).app (.one (by simp only; split <;> omega))
 | .sync, b, _ => .one (fun _ => rfl)
 | .if1 e x, b, ⟨h1, h2⟩ => ((e.noOf b h1).app (Bl.all_noOf (x.noOf _ h2))).app (.one (by simp))
 | .if2 e x y, b, ⟨h1, h2, h3⟩ => (((e.noOf b h1).app (Bl.all_noOf (x.noOf _ h2))).app (Bl.all_noOf (y.noOf _ h3))).app (.one (by simp))
 | .loop e x, b, ⟨h1, h2⟩ => ((e.noOf b h1).app (Bl.all_noOf (x.noOf _ h2))).app (.one (by simp))
 | .one k e, b, ⟨hk, h⟩ => (e.noOf b h).app (.one (by simp only; omega))
 | .act o v ar, b, ⟨_, _, h⟩ => ((ar.noOf b h).app (.one (by simp))).app (.one (by simp))
theorem Bl.noOf : ∀ (e : Bl) (b : Nat), e.good → NoOf (e.flat b)
 | .nil, b, _ => by simp [NoOf, Bl.flat]
 | .cons e r, b, ⟨h1, h2⟩ => (e.noOf b h1).app (r.noOf _ h2)
end
theorem nodesF_noOf : ∀ (fs : List Fn) (b : Nat), (∀ f ∈ fs, f.good) → NoOf (nodesF fs b)
 | [], b, _ => by simp [NoOf, nodesF]
 | f :: fs, b, h => (Bl.all_noOf (f.body.noOf b (h f (List.mem_cons_self ..)).body)).app (nodesF_noOf fs _ fun x hx => h x (List.mem_cons_of_mem _ hx))
theorem nodes_le : ∀ (l : List Nod), NoOf l → DLeE (l.map nodL) ((l.map Nod.nd).map ndL)
 | [], _ => .refl _
 | x :: l, h => .cons (.cons (.refl _) (.cons (.refl _) (.cons (.refl _) (.cons (.refl _) (.cons (ofD_le (h x (List.mem_cons_self ..))) (.refl _)))))) (nodes_le l fun y hy => h y (List.mem_cons_of_mem _ hy))
theorem raw_le {x : List Dec × List Fn} (h : ∀ f ∈ x.2, f.good) : DLe (rawP x) (pgD (pgOf x)) :=
 .agg (.cons (.refl _) (.cons (.slice (frows_le x.2 0)) (.cons (.slice (nodes_le _ (nodesF_noOf x.2 0 h))) (.refl _))))
theorem no_le : DLe noD (pgD noPg) := .agg (.cons (.nil 3) (.cons (.nil 3) (.cons (.nil 5) (.refl _))))
theorem lexK_len : ∀ (f : Nat) (r : List UInt8) (a : Int) (l : List Tok), lexK f r a = some l → l.length ≤ r.length
 | 0, [], a, l, h => by rw [lexK] at h; injection h with h; subst h; simp
 | _ + 1, [], a, l, h => by rw [lexK] at h; injection h with h; subst h; simp
 | 0, c :: t, a, l, h => by unfold lexK at h; cases h
 | f + 1, c :: t, a, l, h => by
   rw [lexK] at h
   split at h
   · have := lexK_len f _ _ _ h
     simp; omega
   · split at h
     · cases h
     · rename_i k n v ht
       rw [Option.map_eq_some_iff] at h
       obtain ⟨l', h1, rfl⟩ := h
       have := lexK_len f _ _ _ h1
       have := tokLen_le ht
       simp at *
       omega
theorem words_len' (s : List UInt8) : (wordsR s).1.length ≤ s.length := by
 unfold wordsR
 split
 · simp
 · split
   · simp
   · rename_i l h
     exact lexK_len _ _ _ _ h
theorem s_parse_Of (s : List UInt8) (hs : s.length < 1000000) : Ret P0 n_parse_Of [.str s] (ofOut (ofR s)) := by
 have hno : ∀ e : Int, DLe (.tuple [noD, I e]) (.tuple [pgD noPg, I e]) := fun e => .tuple (.cons no_le (.refl _))
 generalize hw : wordsR s = w
 obtain ⟨l, e⟩ := w
 have hl : l.length < 1000000 := by
   have := words_len' s
   rw [hw] at this
   simp only at this
   omega
 unfold ofR
 rw [hw]
 simp only
 by_cases he : e ≠ 0
 · rw [if_pos he]
   exact (s_parse_Of_err s hs l e hw he).res (hno e)
 · rw [if_neg he]
   have he : e = 0 := Classical.byContradiction he
   subst he
   by_cases hd : 40 < deepT l 0 0
   · rw [if_pos hd]
     exact (s_parse_Of_deep s hs l hl hw hd).res (hno 2)
   · rw [if_neg hd]
     have hc := c_prog l hl (fuelP l)
     have hno2 := no_prog l
     unfold progF
     cases hp : pProg (fuelP l) l with
     | out => exact absurd hp hno2
     | bad =>
       rw [hp] at hc
       exact (s_parse_Of_bad s hs l hl hw (by omega) hc).res (hno 3)
     | ok x r =>
       obtain ⟨ds, fs⟩ := x
       rw [hp] at hc
       refine (s_parse_Of_ok s hs l hl hw (by omega) _ _ _ (nodesF fs 0) hc).res ?_
       refine .tuple (.cons (raw_le (x := (ds, fs)) ?_) (.refl _))
       have := words_ok s
       rw [hw] at this
       exact ((prog_of hp).good this).2
end Uw.Tryd
