/- Ne: Qa Qs Tl (merged by merge2.py from the working texts). -/
import Derived.Test.YtlnfojhdicbgiaaDoorN8
import Derived.Test.YtlnfojhdicbgiaaDoorN7
import Derived.Test.YtlnfojhdicbgiaaDoorNb
import Derived.Test.YtlnfojhdicbgiaaDoorNd
set_option linter.unusedSimpArgs false
set_option linter.unnecessarySimpa false
set_option linter.unusedVariables false
set_option linter.unusedSectionVars false
namespace Uw.Tryd
open Go Uw
def ofT (l : List Tok) : Pg × Int :=
 if 40 < deepT l 0 0 then (noPg, 2)
 else match progF l with
   | none => (noPg, 3)
   | some x => (pgOf x, 0)
theorem ofR_some {s : List UInt8} {l : List Tok} (h : lexF s 0 = some l) (hs : s.length ≤ 4000) : ofR s = ofT l := by
 have hw : wordsR s = (l, 0) := by unfold wordsR; rw [if_neg (by omega), h]
 unfold ofR ofT
 rw [hw]
 rfl
theorem deepT_strip : ∀ (l : List Tok) (d m : Int), deepT (l.map strip) d m = deepT l d m
 | [], _, _ => rfl
 | t :: r, d, m => deepT_strip r _ _
theorem ofT_strip (l : List Tok) : ofT (l.map strip) = ofT l := by
 unfold ofT
 rw [progF_strip, deepT_strip]
theorem ofT_prg {l : List Tok} {ds : List Dec} {fs : List Fn} (h : Prg l ds fs) (hd : deepT l 0 0 ≤ 40) : ofT l = (pgOf (ds, fs), 0) := by
 unfold ofT
 rw [if_neg (by omega), progF_iff.2 h]
theorem fun_app {r r' : List Tok} {f : Fn} (h : Reads pFun r f r') (r2 : List Tok) : Reads pFun (r ++ r2) f (r' ++ r2) := by
 obtain ⟨n, h⟩ := h
 obtain ⟨c, e⟩ := (isp_fun n).pre _ _ _ h
 refine ⟨n, ?_⟩
 rw [e] at h ⊢
 rw [List.append_assoc]
 exact fun_end h _
theorem Decs.app {l1 r1 : List Tok} {ds : List Dec} (h : Decs l1 ds r1) (r2 : List Tok) (h2 : r2 = [] ∨ hd r2 = sFunc) : Decs (l1 ++ r2) ds (r1 ++ r2) := by
 induction h with
 | stop h =>
   rename_i r
   refine .stop ?_
   by_cases hr : r = []
   · subst hr; exact h2
   · rw [hd_app r r2 [] hr, List.append_nil]; exact .inr (h.resolve_left hr)
 | cons h hd' _ ih =>
   rename_i r r' r'' d ds1 _
   obtain ⟨c, e⟩ := isp_decl.pre _ _ _ hd'
   have hp : pDecl (r ++ r2) = .ok d (r' ++ r2) := by
     rw [e] at hd' ⊢
     rw [List.append_assoc]
     exact decl_end hd' _
   have hne : r ≠ [] := fun e => h (.inl e)
   refine .cons ?_ hp ih
   rintro (hh | hh)
   · exact hne (List.append_eq_nil_iff.1 hh).1
   · rw [hd_app r r2 [] hne, List.append_nil] at hh; exact h (.inr hh)
theorem Funs.app {l1 : List Tok} {fs1 : List Fn} (h : Funs l1 fs1) {l2 : List Tok} {fs2 : List Fn} (h2 : Funs l2 fs2) : Funs (l1 ++ l2) (fs1 ++ fs2) := by
 induction h with
 | nil => exact h2
 | cons h _ ih => exact .cons (fun_app h l2) ih
theorem Prg.app {l1 l2 : List Tok} {ds1 : List Dec} {fs1 fs2 : List Fn} (h1 : Prg l1 ds1 fs1) (h2 : Prg l2 [] fs2) : Prg (l1 ++ l2) ds1 (fs1 ++ fs2) := by
 obtain ⟨q1, a1, b1⟩ := h1
 obtain ⟨q2, a2, b2⟩ := h2
 cases a2 with
 | stop h => exact ⟨_, a1.app l2 h, b1.app b2⟩
end Uw.Tryd
namespace Uw.Tryd
open Go Uw
theorem namesT_len : ∀ (n : Nat) {r r' : List Tok} {l : List Str}, pNamesT n r = .ok l r' → r'.length + l.length ≤ r.length
 | 0, _, _, _, h => by rw [pNamesT] at h; cases h
 | n + 1, r, r', l, h => by
   rw [pNamesT] at h
   split at h
   · rename_i hh
     obtain ⟨s, r1, h1, h⟩ := bind_ok.1 h
     obtain ⟨q, r2, h2, h⟩ := bind_ok.1 h
     injection h with e1 e2
     subst e1 e2
     have := (Suf.hd hh (by simp)).len
     have := (Suf.name h1).len
     have := namesT_len n h2
     simp only [List.length_cons]; omega
   · obtain ⟨_, r1, h1, h⟩ := bind_ok.1 h
     injection h with e1 e2
     subst e1 e2
     have := (Suf.want (by simp) h1).len
     simp only [List.length_nil]; omega
theorem names_len {n : Nat} {r r' : List Tok} {l : List Str} (h : pNames n r = .ok l r') : r'.length + l.length ≤ r.length := by
 rw [pNames] at h
 obtain ⟨_, r1, h1, h⟩ := bind_ok.1 h
 have := (Suf.want (by simp) h1).len
 split at h
 · injection h with e1 e2
   subst e1 e2
   simp; omega
 · obtain ⟨s, r2, h2, h⟩ := bind_ok.1 h
   obtain ⟨q, r3, h3, h⟩ := bind_ok.1 h
   injection h with e1 e2
   subst e1 e2
   have := (Suf.name h2).len
   have := namesT_len n h3
   simp only [List.length_cons]; omega
theorem fun_len {n : Nat} {r r' : List Tok} {f : Fn} (h : pFun n r = .ok f r') : r'.length + f.args.length + f.sz + 1 ≤ r.length := by
 rw [pFun] at h
 obtain ⟨_, r1, h1, h⟩ := bind_ok.1 h
 obtain ⟨s, r2, h2, h⟩ := bind_ok.1 h
 obtain ⟨l, r3, h3, h⟩ := bind_ok.1 h
 obtain ⟨b, r4, h4, h⟩ := bind_ok.1 h
 injection h with e1 e2
 subst e1 e2
 have := (Suf.want (by decide) h1).len
 have := (Suf.name h2).len
 have := names_len h3
 have := ((suf_s n).block _ _ _ h4).len
 show r4.length + l.length + (b.sz + 1) + 1 ≤ _
 omega
theorem Funs.len {r : List Tok} {fs : List Fn} (h : Funs r fs) : fs.length + sizeF fs ≤ r.length ∧ ∀ f ∈ fs, f.args.length ≤ r.length := by
 induction h with
 | nil => simp [sizeF]
 | cons h _ ih =>
   obtain ⟨n, h⟩ := h
   have h1 := fun_len h
   obtain ⟨i1, i2⟩ := ih
   refine ⟨by simp only [List.length_cons, sizeF]; omega, fun f hf => ?_⟩
   rcases List.mem_cons.1 hf with rfl | hf
   · omega
   · have := i2 f hf; omega
theorem Prg.len {l : List Tok} {ds : List Dec} {fs : List Fn} (h : Prg l ds fs) : ds.length + fs.length + sizeF fs ≤ l.length ∧ ∀ f ∈ fs, f.args.length ≤ l.length := by
 obtain ⟨r, h1, h2⟩ := h
 have := h1.len
 obtain ⟨i1, i2⟩ := h2.len
 exact ⟨by omega, fun f hf => by have := i2 f hf; omega⟩
theorem of_len {x : Nod} : ∀ {l : List Nod}, x ∈ l → x.of.length ≤ (ofs l).length
 | y :: l, h => by
   rw [show ofs (y :: l) = y.of ++ ofs l by simp [ofs], List.length_append]
   rcases List.mem_cons.1 h with rfl | h
   · omega
   · have := of_len h; omega
theorem funsF_mem {f : Fu} : ∀ {fs : List Fn} {b : Nat}, f ∈ funsF fs b → ∃ g ∈ fs, f.args = g.args
 | g :: fs, b, h => by
   rcases List.mem_cons.1 h with rfl | h
   · exact ⟨g, List.mem_cons_self .., rfl⟩
   · obtain ⟨g', h1, h2⟩ := funsF_mem h
     exact ⟨g', List.mem_cons_of_mem _ h1, h2⟩
theorem small_pg {l : List Tok} {ds : List Dec} {fs : List Fn} (h : Prg l ds fs) (hl : l.length < 1000000) : Small (pgOf (ds, fs)) := by
 obtain ⟨h1, h2⟩ := h.len
 refine ⟨?_, ?_, ?_, ?_, ?_⟩
 · show ds.length < _; omega
 · show (funsF fs 0).length < _; rw [funsF_len]; omega
 · show ((nodesF fs 0).map Nod.nd).length < _; rw [List.length_map, nodesF_len]; omega
 · intro f hf
   obtain ⟨g, h3, h4⟩ := funsF_mem hf
   have := h2 g h3
   rw [h4]; omega
 · intro x hx
   obtain ⟨y, h3, rfl⟩ := List.mem_map.1 hx
   have h4 : y.of.length ≤ (ofs (nodesF fs 0)).length := of_len h3
   have h5 := (nodesF_perm fs 0).length_eq
   rw [List.length_append, List.length_range'] at h5
   show (y.of.map _).length < _
   rw [List.length_map]; omega
theorem small_no : Small noPg := ⟨by decide, by decide, by decide, fun _ h => (by cases h), fun _ h => (by cases h)⟩
theorem words_short (s : List UInt8) : (wordsR s).1.length ≤ 4000 := by
 unfold wordsR
 split
 · simp
 · rename_i h
   split
   · simp
   · rename_i l hl
     have := (words_total hl).1
     simp only; omega
theorem small_of (s : List UInt8) : Small (ofR s).1 := by
 have hl := words_short s
 unfold ofR
 split
 · exact small_no
 · split
   · exact small_no
   · cases hp : progF (wordsR s).1 with
     | none => exact small_no
     | some x =>
       obtain ⟨ds, fs⟩ := x
       exact small_pg (progF_iff.1 hp) (by omega)
structure Bnd (p : Pg) : Prop where
 body : ∀ f ∈ p.funs, 0 ≤ f.body ∧ f.body < p.nodes.length
 of : ∀ (j : Nat) (h : j < p.nodes.length), ∀ c ∈ p.nodes[j].of, 0 ≤ c ∧ c < j
end Uw.Tryd
namespace Uw.Tryd
open Go Uw
def alT1 : List UInt8 := [99, 101, 108, 108, 32, 120, 32, 61, 32, 55, 59, 32, 102, 117, 110, 99, 32, 102, 40, 97, 44, 32, 98, 41, 32, 123, 32, 125, 32, 102, 117, 110, 99, 32, 109, 97, 105, 110, 40, 41, 32, 123, 32, 120, 32, 61, 32, 49, 32, 43, 32, 50, 32, 42, 32, 51, 59, 32, 121, 32, 61, 32, 115, 112, 97, 119, 110, 32, 102, 40, 40, 49, 41, 44, 32, 120, 41, 59, 32, 125]
def alT2 : List UInt8 := [102, 117, 110, 99, 32, 109, 97, 105, 110, 40, 41, 32, 123, 32, 120, 32, 61, 32, 49, 32, 43, 32, 59, 32, 125]
def alTX : List UInt8 := [99, 101, 108, 108, 32, 120, 61, 55, 59, 102, 117, 110, 99, 32, 102, 40, 97, 44, 98, 41, 123, 125, 102, 117, 110, 99, 32, 109, 97, 105, 110, 40, 41, 123, 120, 61, 49, 43, 50, 42, 51, 59, 121, 61, 115, 112, 97, 119, 110, 32, 102, 40, 49, 44, 120, 41, 59, 125]
def alP : List Dec × List Fn := ([⟨0, [120], 7⟩], [⟨[102], [[97], [98]], .nil⟩, ⟨[109, 97, 105, 110], [], .cons (.set [120] (.bin 3 (.num 1) (.bin 5 (.num 2) (.num 3)))) (.cons (.task false [121] [102] (.cons (.num 1) (.cons (.name [120]) .nil))) .nil)⟩])
theorem alP_prog : progF (wordsR alT1).1 = some alP := by kernel_rfl
theorem al_of1 : ofR alT1 = (pgOf alP, 0) := by kernel_rfl
theorem al_of2 : ofR alT2 = (noPg, 3) := by kernel_rfl
theorem itoa_one (n : Nat) (h : n < 10) : Lib.itoa (n : Int) = [UInt8.ofNat (48 + n)] := by
 unfold Lib.itoa
 rw [if_neg (by omega), show ((n : Int)).toNat = n by omega, Lib.decDigits_one h]
theorem al_words : wProg alP = [[99, 101, 108, 108], [120], [61], [55], [59], [102, 117, 110, 99], [102], [40], [97], [44], [98], [41], [123], [125], [102, 117, 110, 99], [109, 97, 105, 110], [40], [41], [123], [120], [61], [49], [43], [50], [42], [51], [59], [121], [61], [115, 112, 97, 119, 110], [102], [40], [49], [44], [120], [41], [59], [125]] := by
 have e1 : Lib.itoa 1 = [49] := itoa_one 1 (by omega)
 have e2 : Lib.itoa 2 = [50] := itoa_one 2 (by omega)
 have e3 : Lib.itoa 3 = [51] := itoa_one 3 (by omega)
 have e7 : Lib.itoa 7 = [55] := itoa_one 7 (by omega)
 simp [wProg, alP, wDec, wFn, wBlock, wBl, wStm, wEx, wExs, wTail, wArgs, wStrs, e1, e2, e3, e7, tightO, signO, kindS, sCell, sFunc, sSpawn, sPar]
theorem al_join : joinR [] (wProg alP) = alTX := by rw [al_words]; kernel_rfl
theorem alP_good : (∀ d ∈ alP.1, d.good) ∧ ∀ f ∈ alP.2, f.good := by
 have h := words_ok alT1
 exact (progF_iff.1 alP_prog).good h
theorem al_text : Ret P0 n_parse_Text [pgD (pgOf alP)] (.str alTX) := by
 have h := s_parse_Text0 alP alP_good (by decide) (by rw [al_words]; decide) (by rw [al_join]; decide)
 rw [al_join] at h
 exact h
set_option maxRecDepth 8000 in
set_option maxHeartbeats 4000000 in
theorem s_law05_alive : Ret P0 n_law05_alive [] (.bool true) := by
 have h1 := s_parse_Of alT1 (by decide)
 have h2 := s_parse_Of alT2 (by decide)
 rw [al_of1] at h1
 rw [al_of2] at h2
 have h3 := al_text
 have h1 : Ret P0 n_parse_Of [.str alT1] (.tuple [pgD (pgOf alP), I 0]) := h1
 have h2 : Ret P0 n_parse_Of [.str alT2] (.tuple [pgD noPg, I 3]) := h2
 have e5 : (List.map ndL (pgOf alP).nodes)[Int.toNat 5]? = some [I 3, I 0, .str [], .str [], intsD [1, 4]] := by kernel_rfl
 have e6 : (List.map ndL (pgOf alP).nodes)[Int.toNat 6]? = some [I 9, I 0, .str [120], .str [], intsD [5]] := by kernel_rfl
 have e10 : (List.map ndL (pgOf alP).nodes)[Int.toNat 10]? = some [I 18, I 0, .str [], .str [], intsD [6, 9]] := by kernel_rfl
 have d0 : (List.map decL (pgOf alP).decls)[Int.toNat 0]? = some [I 0, .str [120], I 7] := by kernel_rfl
 have f0 : (List.map fuL (pgOf alP).funs)[Int.toNat 0]? = some [.str [102], .slice 1 [[.str [97]], [.str [98]]] false, I 0] := by kernel_rfl
 have f1 : (List.map fuL (pgOf alP).funs)[Int.toNat 1]? = some [.str [109, 97, 105, 110], .slice 1 [] false, I 10] := by kernel_rfl
 have n1 : (List.map decL (pgOf alP).decls).length = 1 := by kernel_rfl
 have n2 : (List.map fuL (pgOf alP).funs).length = 2 := by kernel_rfl
 have n3 : (List.map ndL (pgOf alP).nodes).length = 11 := by kernel_rfl
 refine Ret_by is_law05_alive rfl ?_
 ((repeat' first|refine aw ?_|refine bw (fun _=>?_) fun _=>?_))
 refine WT_draw ⟨[(7, .ptr 4 0), (6, .ptr 3 0), (5, .ptr 2 0), (1, .ptr 0 0)], [(4, .var [.d (I 18), .d (I 0), .d (.str []), .d (.str []), .d (intsD [6, 9])]), (3, .var [.d (I 9), .d (I 0), .d (.str [120]), .d (.str []), .d (intsD [5])]), (2, .var [.d (I 3), .d (I 0), .d (.str []), .d (.str []), .d (intsD [1, 4])]), (0, .var [.d (Dat.slice 3 (List.map decL (pgOf alP).decls) false), .d (Dat.slice 3 (List.map fuL (pgOf alP).funs) false), .d (Dat.slice 5 (List.map ndL (pgOf alP).nodes) false)])], 5, [], 0⟩ ?_ ?_
 · ((repeat' first|refine aw ?_|refine bw (fun _=>?_) fun _=>?_))
   repeat' first | refine WT_both ?_ ?_ | refine aw ?_
   all_goals first | exact WT_done (.inl ⟨rfl, Weak.eqs [(2, 2), (3, 3), (4, 4)] rfl rfl rfl rfl rfl rfl rfl rfl rfl rfl⟩) | exact WT_done (.inl ⟨rfl, Weak.eqs [(2, 2), (3, 4), (4, 3)] rfl rfl rfl rfl rfl rfl rfl rfl rfl rfl⟩) | exact WT_done (.inl ⟨rfl, Weak.eqs [(2, 3), (3, 2), (4, 4)] rfl rfl rfl rfl rfl rfl rfl rfl rfl rfl⟩) | exact WT_done (.inl ⟨rfl, Weak.eqs [(2, 3), (3, 4), (4, 2)] rfl rfl rfl rfl rfl rfl rfl rfl rfl rfl⟩) | exact WT_done (.inl ⟨rfl, Weak.eqs [(2, 4), (3, 2), (4, 3)] rfl rfl rfl rfl rfl rfl rfl rfl rfl rfl⟩) | exact WT_done (.inl ⟨rfl, Weak.eqs [(2, 4), (3, 3), (4, 2)] rfl rfl rfl rfl rfl rfl rfl rfl rfl rfl⟩)
 · have i0 : ([1, 4].map fun i => [I i])[Int.toNat 0]? = some [I 1] := rfl
   have i1 : ([1, 4].map fun i => [I i])[Int.toNat 1]? = some [I 4] := rfl
   have j1 : ([6, 9].map fun i => [I i])[Int.toNat 1]? = some [I 9] := rfl
   ((repeat' first|refine aw ?_|refine bw (fun _=>?_) fun _=>?_))
   refine WT_ret rfl rfl rfl rfl ?_
   exact congrArg Dat.bool (decide_eq_true (by kernel_rfl))
end Uw.Tryd
