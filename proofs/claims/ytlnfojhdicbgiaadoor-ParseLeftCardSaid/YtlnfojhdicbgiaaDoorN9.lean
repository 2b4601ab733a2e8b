/- N9: Pb Pc Pd Pe Pf Pg Ph (merged by merge2.py from the working texts). -/
import Derived.Test.YtlnfojhdicbgiaaDoorN8
import Derived.Test.YtlnfojhdicbgiaaDoorN6
import Derived.Test.YtlnfojhdicbgiaaDoorN5
set_option maxRecDepth 4000
set_option maxHeartbeats 2000000
set_option linter.unusedSimpArgs false
set_option linter.unnecessarySimpa false
set_option linter.unusedVariables false
set_option linter.unusedSectionVars false
namespace Uw.Tryd
open Go Uw
def rd (l : List Tok) (k : Nat) (xs : List (List Dat)) : List Blk := [.var [.d (toksD l), .d (I k), .ref 1 0 0 xs.length], .arr 5 xs]
theorem s_parse_reader_peek (l : List Tok) (k : Nat) (xs : List (List Dat)) (hk : k ≤ l.length) : SatE P0 n_parse_reader_peek [.ptr 0 0] (rd l k xs) (.d (.str (hd (l.drop k)))) (rd l k xs) := by
 have e1 : (l.map tokL).length = l.length := by simp
 by_cases h : k < l.length
 · have e : hd (l.drop k) = l[k].text := by rw [List.drop_eq_getElem_cons h]; rfl
   rw [e]
   refine SatE_by is_parse_reader_peek rfl ?_
   ((repeat' first|refine aw ?_|refine bw (fun _=>?_) fun _=>?_))
   exact WT_eret 2 rfl rfl (by exact Uw.wW)
 · have e : hd (l.drop k) = [] := by rw [List.drop_eq_nil_of_le (by omega)]; rfl
   rw [e]
   refine SatE_by is_parse_reader_peek rfl ?_
   ((repeat' first|refine aw ?_|refine bw (fun _=>?_) fun _=>?_))
   exact WT_eret 2 rfl rfl (by exact Uw.wW)
abbrev wrongD : Dat := .iface t_parse_wrong (.agg [])
theorem s_parse_reader_have (l : List Tok) (k : Nat) (xs : List (List Dat)) (hk : k ≤ l.length) (hl : l.length < 1000000) (s : Str) (hs : s ≠ []) : SatE P0 n_parse_reader_have [.ptr 0 0, .d (.str s)] (rd l k xs) (.d (.bool (decide (hd (l.drop k) = s)))) (rd l (if hd (l.drop k) = s then k + 1 else k) xs) := by
 have pk := s_parse_reader_peek l k xs hk
 by_cases h : hd (l.drop k) = s
 · rw [if_pos h, decide_eq_true h]
   rw [h] at pk
   have hkl : k < l.length := by
     rcases Nat.lt_or_ge k l.length with h1 | h1
     · exact h1
     · rw [List.drop_eq_nil_of_le h1] at h; exact absurd h.symm hs
   clear h
   refine SatE_by is_parse_reader_have rfl ?_
   ((repeat' first|refine aw ?_|refine bw (fun _=>?_) fun _=>?_))
   refine WT_frE 2 [0, 1] pk ?_
   ((repeat' first|refine aw ?_|refine bw (fun _=>?_) fun _=>?_))
   exact WT_eret 2 rfl rfl (by exact Uw.wW)
 · rw [if_neg h, decide_eq_false h]
   generalize hd (l.drop k) = p at *
   refine SatE_by is_parse_reader_have rfl ?_
   ((repeat' first|refine aw ?_|refine bw (fun _=>?_) fun _=>?_))
   refine WT_frE 2 [0, 1] pk ?_
   ((repeat' first|refine aw ?_|refine bw (fun _=>?_) fun _=>?_))
   exact WT_eret 2 rfl rfl (by exact Uw.wW)
theorem s_parse_reader_want (l : List Tok) (k : Nat) (xs : List (List Dat)) (hk : k ≤ l.length) (hl : l.length < 1000000) (s : Str) (hs : s ≠ []) (h : hd (l.drop k) = s) : SatE P0 n_parse_reader_want [.ptr 0 0, .d (.str s)] (rd l k xs) (.tuple []) (rd l (k + 1) xs) := by
 have hv := s_parse_reader_have l k xs hk hl s hs
 rw [if_pos h, decide_eq_true h] at hv
 refine SatE_by is_parse_reader_want rfl ?_
 ((repeat' first|refine aw ?_|refine bw (fun _=>?_) fun _=>?_))
 refine WT_frE 2 [0, 1] hv ?_
 ((repeat' first|refine aw ?_|refine bw (fun _=>?_) fun _=>?_))
 exact WT_eend 2 rfl rfl (by exact Uw.wW)
theorem p_parse_reader_want (l : List Tok) (k : Nat) (xs : List (List Dat)) (hk : k ≤ l.length) (hl : l.length < 1000000) (s : Str) (hs : s ≠ []) (h : hd (l.drop k) ≠ s) : SatP P0 n_parse_reader_want [.ptr 0 0, .d (.str s)] (rd l k xs) wrongD := by
 have hv := s_parse_reader_have l k xs hk hl s hs
 rw [if_neg h, decide_eq_false h] at hv
 refine SatP_by is_parse_reader_want rfl ?_
 ((repeat' first|refine aw ?_|refine bw (fun _=>?_) fun _=>?_))
 refine WT_frE 2 [0, 1] hv ?_
 ((repeat' first|refine aw ?_|refine bw (fun _=>?_) fun _=>?_))
 exact WT_epan rfl
theorem s_parse_reader_word (l : List Tok) (k : Nat) (xs : List (List Dat)) (hk : k ≤ l.length) (hl : l.length < 1000000) (K : Int) (h : k < l.length) (hK : l[k].kind = K) : SatE P0 n_parse_reader_word [.ptr 0 0, .d (I K)] (rd l k xs) (.agg ((tokL l[k]).map V.d)) (rd l (k + 1) xs) := by
 have e1 : (l.map tokL).length = l.length := by simp
 have he : (l.map tokL)[((k : Int) + 1 - 1).toNat]? = some (tokL l[k]) := by
   rw [show ((k : Int) + 1 - 1).toNat = k by omega]; exact map_get _ _ _ h
 refine SatE_by is_parse_reader_word rfl ?_
 ((repeat' first|refine aw ?_|refine bw (fun _=>?_) fun _=>?_))
 exact WT_eret 2 rfl rfl (by exact Uw.wW)
theorem p_parse_reader_word (l : List Tok) (k : Nat) (xs : List (List Dat)) (hk : k ≤ l.length) (hl : l.length < 1000000) (K : Int) (h : ∀ (h : k < l.length), l[k].kind ≠ K) : SatP P0 n_parse_reader_word [.ptr 0 0, .d (I K)] (rd l k xs) wrongD := by
 have e1 : (l.map tokL).length = l.length := by simp
 by_cases h1 : k < l.length
 · have h2 := h h1
   clear h
   refine SatP_by is_parse_reader_word rfl ?_
   ((repeat' first|refine aw ?_|refine bw (fun _=>?_) fun _=>?_))
   exact WT_epan rfl
 · clear h
   refine SatP_by is_parse_reader_word rfl ?_
   ((repeat' first|refine aw ?_|refine bw (fun _=>?_) fun _=>?_))
   exact WT_epan rfl
theorem s_parse_reader_name (l : List Tok) (k : Nat) (xs : List (List Dat)) (hk : k ≤ l.length) (hl : l.length < 1000000) (h : k < l.length) (hK : l[k].kind = 1) (hw : keyw l[k].text = false) : SatE P0 n_parse_reader_name [.ptr 0 0] (rd l k xs) (.d (.str l[k].text)) (rd l (k + 1) xs) := by
 have wd := s_parse_reader_word l k xs hk hl 1 h hK
 simp only [keyw, Bool.or_eq_false_iff, decide_eq_false_iff_not, sCell, sMap, sStack, sChan, sFunc, sSpawn, sPar, sSync, sIf, sElse, sWhile, sReturn, sAssert] at hw
 obtain ⟨⟨⟨⟨⟨⟨⟨⟨⟨⟨⟨⟨w1, w2⟩, w3⟩, w4⟩, w5⟩, w6⟩, w7⟩, w8⟩, w9⟩, w10⟩, w11⟩, w12⟩, w13⟩ := hw
 refine SatE_by is_parse_reader_name rfl ?_
 ((repeat' first|refine aw ?_|refine bw (fun _=>?_) fun _=>?_))
 refine WT_frE 2 [0, 1] wd ?_
 ((repeat' first|refine aw ?_|refine bw (fun _=>?_) fun _=>?_))
 exact WT_eret 2 rfl rfl (by exact Uw.wW)
theorem p_parse_reader_name (l : List Tok) (k : Nat) (xs : List (List Dat)) (hk : k ≤ l.length) (hl : l.length < 1000000) (h : ∀ (h : k < l.length), l[k].kind ≠ 1 ∨ keyw l[k].text = true) : SatP P0 n_parse_reader_name [.ptr 0 0] (rd l k xs) wrongD := by
 by_cases h1 : ∃ h1 : k < l.length, l[k].kind = 1
 · obtain ⟨h1, h2⟩ := h1
   have h3 := (h h1).resolve_left (fun e => e h2)
   clear h
   have wd := s_parse_reader_word l k xs hk hl 1 h1 h2
   generalize l[k] = t at *
   simp only [keyw, Bool.or_eq_true, decide_eq_true_eq, or_assoc] at h3
   rcases h3 with h3 | h3 | h3 | h3 | h3 | h3 | h3 | h3 | h3 | h3 | h3 | h3 | h3
   all_goals
     rw [tokL, h3] at wd
     refine SatP_by is_parse_reader_name rfl ?_
     ((repeat' first|refine aw ?_|refine bw (fun _=>?_) fun _=>?_))
     refine WT_frE 2 [0, 1] wd ?_
     ((repeat' first|refine aw ?_|refine bw (fun _=>?_) fun _=>?_))
     exact WT_epan rfl
 · have wd := p_parse_reader_word l k xs hk hl 1 (fun h h2 => h1 ⟨h, h2⟩)
   refine SatP_by is_parse_reader_name rfl ?_
   ((repeat' first|refine aw ?_|refine bw (fun _=>?_) fun _=>?_))
   refine WT_frP 2 [0, 1] wd ?_
   intro h n
   ((repeat' first|refine aw ?_|refine bw (fun _=>?_) fun _=>?_))
   exact WT_epan rfl
def ofD (kind : Int) (of : List Nat) : Dat :=
 if kind = 1 ∨ kind = 2 ∨ kind = 12 then .nil
 else if kind = 8 ∨ kind = 10 ∨ kind = 11 then (if of = [] then .nil else .slice 1 (of.map fun (i : Nat) => [I i]) false)
 else if kind = 13 ∨ kind = 18 then .slice 1 (of.map fun (i : Nat) => [I i]) false
 else .slice 1 (of.map fun (i : Nat) => [I i]) true
def nodL (x : Nod) : List Dat := [I x.kind, I x.n, .str x.name, .str x.name2, ofD x.kind x.of]
theorem s_parse_reader_put (l : List Tok) (k : Nat) (xs : List (List Dat)) (hx : xs.length < 1000000) (a b : Int) (c d : Str) (o : Dat) (ho : o = .nil ∨ ∃ ys z, o = .slice 1 ys z) : SatE P0 n_parse_reader_put [.ptr 0 0, .agg [.d (I a), .d (I b), .d (.str c), .d (.str d), .d o]] (rd l k xs) (.d (I xs.length)) (rd l k (xs ++ [[I a, I b, .str c, .str d, o]])) := by
 have e0 : ((xs.length + 1 : Nat) : Int) - 1 = (xs.length : Nat) := by omega
 rcases ho with rfl | ⟨ys, z, rfl⟩
 · refine SatE_by is_parse_reader_put rfl ?_
   ((repeat' first|refine aw ?_|refine bw (fun _=>?_) fun _=>?_))
   refine WT_draw ⟨[(0, .ptr 0 0)], [(0, .var [.d (toksD l), .d (I k), .ref 1 0 0 (xs.length + 1)]), (1, .arr 5 (xs ++ [[I a, I b, .str c, .str d, .nil]]))], 3, [], 2⟩ ?_ ?_
   · ((repeat' first|refine aw ?_|refine bw (fun _=>?_) fun _=>?_))
     exact WT_done (.inl ⟨rfl, by exact Uw.wW⟩)
   · ((repeat' first|refine aw ?_|refine bw (fun _=>?_) fun _=>?_))
     exact WT_eret 2 rfl rfl (by exact Uw.wW)
 · refine SatE_by is_parse_reader_put rfl ?_
   ((repeat' first|refine aw ?_|refine bw (fun _=>?_) fun _=>?_))
   refine WT_draw ⟨[(0, .ptr 0 0)], [(0, .var [.d (toksD l), .d (I k), .ref 1 0 0 (xs.length + 1)]), (1, .arr 5 (xs ++ [[I a, I b, .str c, .str d, .slice 1 ys z]]))], 3, [], 2⟩ ?_ ?_
   · ((repeat' first|refine aw ?_|refine bw (fun _=>?_) fun _=>?_))
     exact WT_done (.inl ⟨rfl, by exact Uw.wW⟩)
   · ((repeat' first|refine aw ?_|refine bw (fun _=>?_) fun _=>?_))
     exact WT_eret 2 rfl rfl (by exact Uw.wW)
end Uw.Tryd
namespace Uw.Tryd
open Go Uw
def rdN (l : List Tok) (k : Nat) (ns : List Nod) : List Blk := rd l k (ns.map nodL)
inductive Out where
 | ok (v : V) (bs : List Blk)
 | bad
 | out
def SatO (f : FuncId) (vs : List V) (bs : List Blk) (x : Out) : Prop :=
 match x with
 | .ok v bs' => SatE P0 f vs bs v bs'
 | .bad => SatP P0 f vs bs wrongD
 | .out => True
def OQ (b : Nat) (res : List MRes) (x : Out) : MExit → St → Prop :=
 match x with
 | .ok v bs' => EQ b res v bs'
 | .bad => PQ res wrongD
 | .out => fun _ _ => True
theorem SatO_by {f : FuncId} {m : MFun} {vs : List V} {bs : List Blk} {x : Out} (hf : IsFun P0 f m) (hn : Nat.ble vs.length m.n = true) (hx : x ≠ .out) (hw : WT P0 (OQ bs.length m.res x) (exec m.code ⟨initRegs 0 vs, heapOf 0 bs, bs.length, [], bs.length⟩ Tree.done)) : SatO f vs bs x := by
 cases x with
 | ok v bs' => exact SatE_by hf hn hw
 | bad => exact SatP_by hf hn hw
 | out => exact absurd rfl hx
theorem WT_oret (b : Nat) {res : List MRes} {x : Out} {v : V} {bs' : List Blk} {vs' : List V} {st : St} (hx : x = .ok v bs') (hd : st.defers = []) (hr : resV st res = some vs') (hw : Weak ⟨[(0, packV vs')], st.heap, st.next, [], b⟩ ⟨[(0, v)], heapOf 0 bs', bs'.length, [], b⟩) : WT P0 (OQ b res x) (.done .ret st) := by
 subst hx; exact WT_eret b hd hr hw
theorem WT_opan (b : Nat) {res : List MRes} {x : Out} {st : St} (hx : x = .bad) (hd : st.defers = []) : WT P0 (OQ b res x) (.done (.panic wrongD) st) := by
 subst hx; exact WT_epan hd
def outE (l : List Tok) (ns : List Nod) (x : R Ex) : Out :=
 match x with
 | .ok e r => .ok (.d (I ((ns.length + e.sz - 1 : Nat)))) (rdN l (l.length - r.length) (ns ++ e.flat ns.length))
 | .bad => .bad
 | .out => .out
abbrev OkE (f : FuncId) (l : List Tok) (k : Nat) (ns : List Nod) (x : R Ex) : Prop := SatO f [.ptr 0 0] (rdN l k ns) (outE l ns x)
theorem outE_ne {l : List Tok} {ns : List Nod} {x : R Ex} (h : x ≠ .out) : outE l ns x ≠ .out := by cases x <;> first | exact absurd rfl h | (intro h; cases h)
theorem ofD_form (k : Int) (of : List Nat) : ofD k of = .nil ∨ ∃ ys z, ofD k of = .slice 1 ys z := by
 unfold ofD
 repeat' split
 all_goals first | exact .inl rfl | exact .inr ⟨_, _, rfl⟩
theorem put_ok (l : List Tok) (k : Nat) (ns ms : List Nod) (nd : Nod) (hms : ms = ns ++ [nd]) (p : Nat) (hp : p = ns.length) (hx : ns.length < 1000000) :
   SatE P0 n_parse_reader_put [.ptr 0 0, .agg [.d (I nd.kind), .d (I nd.n), .d (.str nd.name), .d (.str nd.name2), .d (ofD nd.kind nd.of)]] (rdN l k ns) (.d (I p)) (rdN l k ms) := by
 subst hms hp
 have := s_parse_reader_put l k (ns.map nodL) (by simpa using hx) nd.kind nd.n nd.name nd.name2 (ofD nd.kind nd.of) (ofD_form _ _)
 have e : (ns ++ [nd]).map nodL = ns.map nodL ++ [[I nd.kind, I nd.n, .str nd.name, .str nd.name2, ofD nd.kind nd.of]] := by simp [nodL]
 rw [rdN, rdN, e]
 simpa using this
theorem hd_lt {l : List Tok} {k : Nat} {s : Str} (h : hd (l.drop k) = s) (hs : s ≠ []) : k < l.length := by
 rcases Nat.lt_or_ge k l.length with h1 | h1
 · exact h1
 · rw [List.drop_eq_nil_of_le h1] at h; exact absurd h.symm hs
theorem len_drop {l : List Tok} {k : Nat} (h : k ≤ l.length) : l.length - (l.drop k).length = k := by simp; omega
theorem suf_at {l r : List Tok} {k s : Nat} (h : Suf (l.drop k) r s) (hk : k ≤ l.length) : ∃ k', k' ≤ l.length ∧ r = l.drop k' ∧ k + s ≤ k' := by
 obtain ⟨j, h1, rfl, h3⟩ := h
 simp at h1
 exact ⟨k + j, by omega, by rw [List.drop_drop], by omega⟩
def Exs.argD (es : Exs) (b : Nat) : Dat := ofD 8 (es.places b)
def outA (l : List Tok) (ns : List Nod) (x : R Exs) : Out :=
 match x with
 | .ok es r => .ok (.d (es.argD ns.length)) (rdN l (l.length - r.length) (ns ++ es.flat ns.length))
 | .bad => .bad
 | .out => .out
def outC (l : List Tok) (ns : List Nod) (s : Str) (x : R (Str × Exs)) : Out :=
 match x with
 | .ok y r => .ok (.d (I ((ns.length + (Ex.call s y.1 y.2).sz - 1 : Nat)))) (rdN l (l.length - r.length) (ns ++ (Ex.call s y.1 y.2).flat ns.length))
 | .bad => .bad
 | .out => .out
structure CE (l : List Tok) (n : Nat) : Prop where
 args : ∀ k ns, k ≤ l.length → ns.length ≤ k → SatO n_parse_reader_arguments [.ptr 0 0] (rdN l k ns) (outA l ns (pArgs n (l.drop k)))
 call : ∀ s k ns, k ≤ l.length → ns.length ≤ k → SatO n_parse_reader_call [.ptr 0 0, .d (.str s)] (rdN l k ns) (outC l ns s (pCall n s (l.drop k)))
 prim : ∀ k ns, k ≤ l.length → ns.length ≤ k → OkE n_parse_reader_primary l k ns (pPrim n (l.drop k))
 prod : ∀ k ns, k ≤ l.length → ns.length ≤ k → OkE n_parse_reader_product l k ns (pProd n (l.drop k))
 sum : ∀ k ns, k ≤ l.length → ns.length ≤ k → OkE n_parse_reader_sum l k ns (pSum n (l.drop k))
 expr : ∀ k ns, k ≤ l.length → ns.length ≤ k → OkE n_parse_reader_expression l k ns (pExpr n (l.drop k))
theorem useE {f : FuncId} {l : List Tok} {k : Nat} {ns : List Nod} {x : R Ex} (h : OkE f l k ns x) (hk : k ≤ l.length) (hs : ∀ e r, x = .ok e r → Suf (l.drop k) r e.sz) :
   x = .out ∨ (x = .bad ∧ SatP P0 f [.ptr 0 0] (rdN l k ns) wrongD) ∨ ∃ e k', x = .ok e (l.drop k') ∧ k' ≤ l.length ∧ k + e.sz ≤ k' ∧ SatE P0 f [.ptr 0 0] (rdN l k ns) (.d (I ((ns.length + e.sz - 1 : Nat)))) (rdN l k' (ns ++ e.flat ns.length)) := by
 cases x with
 | out => exact .inl rfl
 | bad => exact .inr (.inl ⟨rfl, h⟩)
 | ok e r =>
   obtain ⟨k', h1, rfl, h2⟩ := suf_at (hs e r rfl) hk
   refine .inr (.inr ⟨e, k', rfl, h1, h2, ?_⟩)
   have h : SatE P0 f [.ptr 0 0] (rdN l k ns) (.d (I ((ns.length + e.sz - 1 : Nat)))) (rdN l (l.length - (l.drop k').length) (ns ++ e.flat ns.length)) := h
   rw [len_drop h1] at h
   exact h
theorem bin_flat (ns : List Nod) (k : Int) (x y : Ex) : ns ++ (Ex.bin k x y).flat ns.length = ns ++ x.flat ns.length ++ y.flat (ns ++ x.flat ns.length).length ++ [⟨k, 0, [], [], [ns.length + x.sz - 1, (ns ++ x.flat ns.length).length + y.sz - 1]⟩] := by
 simp [Ex.flat, Ex.flat_len]
theorem put_bin (l : List Tok) (k : Nat) (ns : List Nod) (K : Int) (x y : Ex) (hx : (ns ++ x.flat ns.length ++ y.flat (ns ++ x.flat ns.length).length).length < 1000000) (hK : 3 ≤ K ∧ K ≤ 7) :
   SatE P0 n_parse_reader_put [.ptr 0 0, .agg [.d (I K), .d (I 0), .d (.str []), .d (.str []), .d (.slice 1 [[I ((ns.length + x.sz - 1 : Nat))], [I (((ns ++ x.flat ns.length).length + y.sz - 1 : Nat))]] true)]] (rdN l k (ns ++ x.flat ns.length ++ y.flat (ns ++ x.flat ns.length).length)) (.d (I ((ns.length + (Ex.bin K x y).sz - 1 : Nat)))) (rdN l k (ns ++ (Ex.bin K x y).flat ns.length)) := by
 have := put_ok l k _ _ _ (bin_flat ns K x y) (ns.length + (Ex.bin K x y).sz - 1) (by simp [Ex.sz, Ex.flat_len]; try omega) hx
 have e : ofD K [ns.length + x.sz - 1, (ns ++ x.flat ns.length).length + y.sz - 1] = .slice 1 [[I ((ns.length + x.sz - 1 : Nat))], [I (((ns ++ x.flat ns.length).length + y.sz - 1 : Nat))]] true := by
   unfold ofD
   rw [if_neg (by omega), if_neg (by omega), if_neg (by omega)]
   rfl
 simp only [e] at this
 exact this
theorem c_prod (l : List Tok) (hl : l.length < 1000000) (n : Nat) (ih : ∀ m, m ≤ n → CE l m) (k : Nat) (ns : List Nod) (hk : k ≤ l.length) (hn : ns.length ≤ k) : OkE n_parse_reader_product l k ns (pProd (n + 1) (l.drop k)) := by
 rw [pProd]
 rcases useE ((ih n (Nat.le_refl _)).prim k ns hk hn) hk (fun e r h => (suf_e n).prim _ _ _ h) with h0 | ⟨h0, h1⟩ | ⟨e, k1, h0, hk1, hk1', h1⟩
 · rw [h0]; exact trivial
 · rw [h0]
   refine SatP_by is_parse_reader_product rfl ?_
   ((repeat' first|refine aw ?_|refine bw (fun _=>?_) fun _=>?_))
   refine WT_frP 2 [0, 1] h1 ?_
   intro h m
   ((repeat' first|refine aw ?_|refine bw (fun _=>?_) fun _=>?_))
   exact WT_epan rfl
 · rw [h0]
   show OkE _ _ _ _ (pProdT n e (l.drop k1))
   by_cases hout : pProdT n e (l.drop k1) = .out
   · rw [hout]; exact trivial
   generalize hR : pProdT n e (l.drop k1) = R at hout
   refine SatO_by is_parse_reader_product rfl (outE_ne hout) ?_
   ((repeat' first|refine aw ?_|refine bw (fun _=>?_) fun _=>?_))
   refine WT_frE 2 [0, 1] h1 ?_
   ((repeat' first|refine aw ?_|refine bw (fun _=>?_) fun _=>?_))
   refine WT_loop (fun ((e, k1, m) : Ex × Nat × Nat) => ⟨[(3, .d (I ↑(ns.length + e.sz - 1))), (0, .ptr 0 0)], heapOf 0 (rdN l k1 (ns ++ e.flat ns.length)), 2, [], 2⟩) (fun (e, k1, m) => pProdT m e (l.drop k1) = R ∧ m ≤ n ∧ k1 ≤ l.length ∧ k + e.sz ≤ k1) (fun (_, _, m) => m) (e, k1, n) (by exact Uw.wW) ⟨hR, Nat.le_refl _, hk1, hk1'⟩ ?_
   clear hR h0 h1 hk1 hk1'
   rintro ⟨e, k1, m⟩ ⟨hR, hm, hk1, hk2⟩
   cases m with
   | zero => rw [pProdT] at hR; exact absurd hR.symm hout
   | succ m =>
     rw [pProdT] at hR
     have pk := s_parse_reader_peek l k1 ((ns ++ e.flat ns.length).map nodL) hk1
     have hfl : (ns ++ e.flat ns.length).length = ns.length + e.sz := by simp [Ex.flat_len]
     by_cases hs : hd (l.drop k1) = [42]
     · have hlt := hd_lt hs (by simp)
       rw [if_pos hs, List.tail_drop] at hR
       rw [hs] at pk
       rcases useE ((ih m (by omega)).prim (k1 + 1) (ns ++ e.flat ns.length) (by omega) (by omega)) (by omega) (fun e r h => (suf_e m).prim _ _ _ h) with h0 | ⟨h0, h1⟩ | ⟨y, k2, h0, hk3, hk3', h1⟩
       · rw [h0] at hR; exact absurd hR.symm hout
       · rw [h0] at hR
         have hb : outE l ns R = .bad := by rw [← hR]; rfl
         clear ih hR hout hs
         ((repeat' first|refine aw ?_|refine bw (fun _=>?_) fun _=>?_))
         refine WT_frE 2 [0, 1] pk ?_
         ((repeat' first|refine aw ?_|refine bw (fun _=>?_) fun _=>?_))
         refine WT_inl is_parse_reader_pair rfl ?_
         ((repeat' first|refine aw ?_|refine bw (fun _=>?_) fun _=>?_))
         refine WT_frP 2 [0, 1] h1 ?_
         intro h q
         ((repeat' first|refine aw ?_|refine bw (fun _=>?_) fun _=>?_))
         refine WT_ipan rfl ?_
         ((repeat' first|refine aw ?_|refine bw (fun _=>?_) fun _=>?_))
         exact WT_throw (WT_opan 2 hb rfl)
       · rw [h0] at hR
         have hR : pProdT m (.bin 5 e y) (l.drop k2) = R := hR
         have hp := put_bin l k2 ns 5 e y (by simp [Ex.flat_len]; omega) (by omega)
         clear ih hout hs
         ((repeat' first|refine aw ?_|refine bw (fun _=>?_) fun _=>?_))
         refine WT_frE 2 [0, 1] pk ?_
         ((repeat' first|refine aw ?_|refine bw (fun _=>?_) fun _=>?_))
         refine WT_inl is_parse_reader_pair rfl ?_
         ((repeat' first|refine aw ?_|refine bw (fun _=>?_) fun _=>?_))
         refine WT_frE 2 [0, 1] h1 ?_
         ((repeat' first|refine aw ?_|refine bw (fun _=>?_) fun _=>?_))
         refine WT_frE 2 [0, 1] hp ?_
         ((repeat' first|refine aw ?_|refine bw (fun _=>?_) fun _=>?_))
         refine WT_iret rfl rfl ?_
         ((repeat' first|refine aw ?_|refine bw (fun _=>?_) fun _=>?_))
         exact WT_again (.bin 5 e y, k2, m) ⟨hR, by omega, hk3, by rw [Ex.sz]; omega⟩ (by simp only; omega) (by exact Uw.wW)
     · rw [if_neg hs] at hR
       have hb : outE l ns R = .ok (.d (I ((ns.length + e.sz - 1 : Nat)))) (rdN l k1 (ns ++ e.flat ns.length)) := by rw [← hR]; show Out.ok _ (rdN l (l.length - (l.drop k1).length) _) = _; rw [len_drop hk1]
       generalize hd (l.drop k1) = p at *
       clear ih hR hout
       ((repeat' first|refine aw ?_|refine bw (fun _=>?_) fun _=>?_))
       refine WT_frE 2 [0, 1] pk ?_
       ((repeat' first|refine aw ?_|refine bw (fun _=>?_) fun _=>?_))
       exact WT_oret 2 hb rfl rfl (by exact Uw.wW)
end Uw.Tryd
namespace Uw.Tryd
open Go Uw
theorem c_sum (l : List Tok) (hl : l.length < 1000000) (n : Nat) (ih : ∀ m, m ≤ n → CE l m) (k : Nat) (ns : List Nod) (hk : k ≤ l.length) (hn : ns.length ≤ k) : OkE n_parse_reader_sum l k ns (pSum (n + 1) (l.drop k)) := by
 rw [pSum]
 rcases useE ((ih n (Nat.le_refl _)).prod k ns hk hn) hk (fun e r h => (suf_e n).prod _ _ _ h) with h0 | ⟨h0, h1⟩ | ⟨e, k1, h0, hk1, hk1', h1⟩
 · rw [h0]; exact trivial
 · rw [h0]
   refine SatP_by is_parse_reader_sum rfl ?_
   ((repeat' first|refine aw ?_|refine bw (fun _=>?_) fun _=>?_))
   refine WT_frP 2 [0, 1] h1 ?_
   intro h m
   ((repeat' first|refine aw ?_|refine bw (fun _=>?_) fun _=>?_))
   exact WT_epan rfl
 · rw [h0]
   show OkE _ _ _ _ (pSumT n e (l.drop k1))
   by_cases hout : pSumT n e (l.drop k1) = .out
   · rw [hout]; exact trivial
   generalize hR : pSumT n e (l.drop k1) = R at hout
   refine SatO_by is_parse_reader_sum rfl (outE_ne hout) ?_
   ((repeat' first|refine aw ?_|refine bw (fun _=>?_) fun _=>?_))
   refine WT_frE 2 [0, 1] h1 ?_
   ((repeat' first|refine aw ?_|refine bw (fun _=>?_) fun _=>?_))
   refine WT_loop (fun ((e, k1, m) : Ex × Nat × Nat) => ⟨[(3, .d (I ↑(ns.length + e.sz - 1))), (0, .ptr 0 0)], heapOf 0 (rdN l k1 (ns ++ e.flat ns.length)), 2, [], 2⟩) (fun (e, k1, m) => pSumT m e (l.drop k1) = R ∧ m ≤ n ∧ k1 ≤ l.length ∧ k + e.sz ≤ k1) (fun (_, _, m) => m) (e, k1, n) (by exact Uw.wW) ⟨hR, Nat.le_refl _, hk1, hk1'⟩ ?_
   clear hR h0 h1 hk1 hk1'
   rintro ⟨e, k1, m⟩ ⟨hR, hm, hk1, hk2⟩
   cases m with
   | zero => rw [pSumT] at hR; exact absurd hR.symm hout
   | succ m =>
     rw [pSumT] at hR
     have pk := s_parse_reader_peek l k1 ((ns ++ e.flat ns.length).map nodL) hk1
     have hfl : (ns ++ e.flat ns.length).length = ns.length + e.sz := by simp [Ex.flat_len]
     by_cases hs : hd (l.drop k1) = [43] ∨ hd (l.drop k1) = [45]
     · have hlt : k1 < l.length := by rcases hs with hs | hs <;> exact hd_lt hs (by simp)
       rcases useE ((ih m (by omega)).prod (k1 + 1) (ns ++ e.flat ns.length) (by omega) (by omega)) (by omega) (fun e r h => (suf_e m).prod _ _ _ h) with h0 | ⟨h0, h1⟩ | ⟨y, k2, h0, hk3, hk3', h1⟩
       · exfalso
         rcases hs with hs | hs
         · rw [if_pos hs, List.tail_drop, h0] at hR; exact hout hR.symm
         · rw [if_neg (by rw [hs]; decide), if_pos hs, List.tail_drop, h0] at hR; exact hout hR.symm
       · have hb : outE l ns R = .bad := by
           rcases hs with hs | hs
           · rw [if_pos hs, List.tail_drop, h0] at hR; rw [← hR]; rfl
           · rw [if_neg (by rw [hs]; decide), if_pos hs, List.tail_drop, h0] at hR; rw [← hR]; rfl
         clear ih hR hout
         rcases hs with hs | hs
         all_goals
           rw [hs] at pk
           clear hs
           ((repeat' first|refine aw ?_|refine bw (fun _=>?_) fun _=>?_))
           refine WT_frE 2 [0, 1] pk ?_
           ((repeat' first|refine aw ?_|refine bw (fun _=>?_) fun _=>?_))
           refine WT_inl is_parse_reader_pair rfl ?_
           ((repeat' first|refine aw ?_|refine bw (fun _=>?_) fun _=>?_))
           refine WT_frP 2 [0, 1] h1 ?_
           intro h q
           ((repeat' first|refine aw ?_|refine bw (fun _=>?_) fun _=>?_))
           refine WT_ipan rfl ?_
           ((repeat' first|refine aw ?_|refine bw (fun _=>?_) fun _=>?_))
           exact WT_throw (WT_opan 2 hb rfl)
       · rcases hs with hs | hs
         · have hR : pSumT m (.bin 3 e y) (l.drop k2) = R := by rw [if_pos hs, List.tail_drop, h0] at hR; exact hR
           have hp := put_bin l k2 ns 3 e y (by simp [Ex.flat_len]; omega) (by omega)
           rw [hs] at pk
           clear ih hout hs
           ((repeat' first|refine aw ?_|refine bw (fun _=>?_) fun _=>?_))
           refine WT_frE 2 [0, 1] pk ?_
           ((repeat' first|refine aw ?_|refine bw (fun _=>?_) fun _=>?_))
           refine WT_inl is_parse_reader_pair rfl ?_
           ((repeat' first|refine aw ?_|refine bw (fun _=>?_) fun _=>?_))
           refine WT_frE 2 [0, 1] h1 ?_
           ((repeat' first|refine aw ?_|refine bw (fun _=>?_) fun _=>?_))
           refine WT_frE 2 [0, 1] hp ?_
           ((repeat' first|refine aw ?_|refine bw (fun _=>?_) fun _=>?_))
           refine WT_iret rfl rfl ?_
           ((repeat' first|refine aw ?_|refine bw (fun _=>?_) fun _=>?_))
           exact WT_again (.bin 3 e y, k2, m) ⟨hR, by omega, hk3, by rw [Ex.sz]; omega⟩ (by simp only; omega) (by exact Uw.wW)
         · have hR : pSumT m (.bin 4 e y) (l.drop k2) = R := by rw [if_neg (by rw [hs]; decide), if_pos hs, List.tail_drop, h0] at hR; exact hR
           have hp := put_bin l k2 ns 4 e y (by simp [Ex.flat_len]; omega) (by omega)
           rw [hs] at pk
           clear ih hout hs
           ((repeat' first|refine aw ?_|refine bw (fun _=>?_) fun _=>?_))
           refine WT_frE 2 [0, 1] pk ?_
           ((repeat' first|refine aw ?_|refine bw (fun _=>?_) fun _=>?_))
           refine WT_inl is_parse_reader_pair rfl ?_
           ((repeat' first|refine aw ?_|refine bw (fun _=>?_) fun _=>?_))
           refine WT_frE 2 [0, 1] h1 ?_
           ((repeat' first|refine aw ?_|refine bw (fun _=>?_) fun _=>?_))
           refine WT_frE 2 [0, 1] hp ?_
           ((repeat' first|refine aw ?_|refine bw (fun _=>?_) fun _=>?_))
           refine WT_iret rfl rfl ?_
           ((repeat' first|refine aw ?_|refine bw (fun _=>?_) fun _=>?_))
           exact WT_again (.bin 4 e y, k2, m) ⟨hR, by omega, hk3, by rw [Ex.sz]; omega⟩ (by simp only; omega) (by exact Uw.wW)
     · rw [if_neg (fun h => hs (.inl h)), if_neg (fun h => hs (.inr h))] at hR
       have hb : outE l ns R = .ok (.d (I ((ns.length + e.sz - 1 : Nat)))) (rdN l k1 (ns ++ e.flat ns.length)) := by rw [← hR]; show Out.ok _ (rdN l (l.length - (l.drop k1).length) _) = _; rw [len_drop hk1]
       generalize hd (l.drop k1) = p at *
       have hs1 : ¬ p = [43] := fun h => hs (.inl h)
       have hs2 : ¬ p = [45] := fun h => hs (.inr h)
       clear ih hR hout hs
       ((repeat' first|refine aw ?_|refine bw (fun _=>?_) fun _=>?_))
       refine WT_frE 2 [0, 1] pk ?_
       ((repeat' first|refine aw ?_|refine bw (fun _=>?_) fun _=>?_))
       exact WT_leave (WT_oret 2 hb rfl rfl (by exact Uw.wW))
theorem c_expr (l : List Tok) (hl : l.length < 1000000) (n : Nat) (ih : ∀ m, m ≤ n → CE l m) (k : Nat) (ns : List Nod) (hk : k ≤ l.length) (hn : ns.length ≤ k) : OkE n_parse_reader_expression l k ns (pExpr (n + 1) (l.drop k)) := by
 rw [pExpr]
 rcases useE ((ih n (Nat.le_refl _)).sum k ns hk hn) hk (fun e r h => (suf_e n).sum _ _ _ h) with h0 | ⟨h0, h1⟩ | ⟨e, k1, h0, hk1, hk1', h1⟩
 · rw [h0]; exact trivial
 · rw [h0]
   refine SatP_by is_parse_reader_expression rfl ?_
   ((repeat' first|refine aw ?_|refine bw (fun _=>?_) fun _=>?_))
   refine WT_frP 2 [0, 1] h1 ?_
   intro h m
   ((repeat' first|refine aw ?_|refine bw (fun _=>?_) fun _=>?_))
   exact WT_epan rfl
 · rw [h0]
   have pk := s_parse_reader_peek l k1 ((ns ++ e.flat ns.length).map nodL) hk1
   have hfl : (ns ++ e.flat ns.length).length = ns.length + e.sz := by simp [Ex.flat_len]
   show OkE _ _ _ _ (if hd (l.drop k1) = [60] then _ else _)
   by_cases hs : hd (l.drop k1) = [60] ∨ hd (l.drop k1) = [61, 61]
   · have hlt : k1 < l.length := by rcases hs with hs | hs <;> exact hd_lt hs (by simp)
     rcases useE ((ih n (Nat.le_refl _)).sum (k1 + 1) (ns ++ e.flat ns.length) (by omega) (by omega)) (by omega) (fun e r h => (suf_e n).sum _ _ _ h) with h2 | ⟨h2, h3⟩ | ⟨y, k2, h2, hk3, hk3', h3⟩
     · rcases hs with hs | hs
       · rw [if_pos hs, List.tail_drop, h2]; exact trivial
       · rw [if_neg (by rw [hs]; decide), if_pos hs, List.tail_drop, h2]; exact trivial
     · rcases hs with hs | hs
       · rw [if_pos hs, List.tail_drop, h2]
         rw [hs] at pk
         clear hs ih
         refine SatP_by is_parse_reader_expression rfl ?_
         ((repeat' first|refine aw ?_|refine bw (fun _=>?_) fun _=>?_))
         refine WT_frE 2 [0, 1] h1 ?_
         ((repeat' first|refine aw ?_|refine bw (fun _=>?_) fun _=>?_))
         refine WT_frE 2 [0, 1] pk ?_
         ((repeat' first|refine aw ?_|refine bw (fun _=>?_) fun _=>?_))
         refine WT_inl is_parse_reader_pair rfl ?_
         ((repeat' first|refine aw ?_|refine bw (fun _=>?_) fun _=>?_))
         refine WT_frP 2 [0, 1] h3 ?_
         intro h q
         ((repeat' first|refine aw ?_|refine bw (fun _=>?_) fun _=>?_))
         refine WT_ipan rfl ?_
         ((repeat' first|refine aw ?_|refine bw (fun _=>?_) fun _=>?_))
         exact WT_epan rfl
       · rw [if_neg (by rw [hs]; decide), if_pos hs, List.tail_drop, h2]
         rw [hs] at pk
         clear hs ih
         refine SatP_by is_parse_reader_expression rfl ?_
         ((repeat' first|refine aw ?_|refine bw (fun _=>?_) fun _=>?_))
         refine WT_frE 2 [0, 1] h1 ?_
         ((repeat' first|refine aw ?_|refine bw (fun _=>?_) fun _=>?_))
         refine WT_frE 2 [0, 1] pk ?_
         ((repeat' first|refine aw ?_|refine bw (fun _=>?_) fun _=>?_))
         refine WT_inl is_parse_reader_pair rfl ?_
         ((repeat' first|refine aw ?_|refine bw (fun _=>?_) fun _=>?_))
         refine WT_frP 2 [0, 1] h3 ?_
         intro h q
         ((repeat' first|refine aw ?_|refine bw (fun _=>?_) fun _=>?_))
         refine WT_ipan rfl ?_
         ((repeat' first|refine aw ?_|refine bw (fun _=>?_) fun _=>?_))
         exact WT_epan rfl
     · rcases hs with hs | hs
       · rw [if_pos hs, List.tail_drop, h2]
         have hp := put_bin l k2 ns 6 e y (by simp [Ex.flat_len]; omega) (by omega)
         rw [hs] at pk
         show SatE _ _ _ _ _ (rdN l (l.length - (l.drop k2).length) _)
         rw [len_drop hk3]
         clear hs ih
         refine SatE_by is_parse_reader_expression rfl ?_
         ((repeat' first|refine aw ?_|refine bw (fun _=>?_) fun _=>?_))
         refine WT_frE 2 [0, 1] h1 ?_
         ((repeat' first|refine aw ?_|refine bw (fun _=>?_) fun _=>?_))
         refine WT_frE 2 [0, 1] pk ?_
         ((repeat' first|refine aw ?_|refine bw (fun _=>?_) fun _=>?_))
         refine WT_inl is_parse_reader_pair rfl ?_
         ((repeat' first|refine aw ?_|refine bw (fun _=>?_) fun _=>?_))
         refine WT_frE 2 [0, 1] h3 ?_
         ((repeat' first|refine aw ?_|refine bw (fun _=>?_) fun _=>?_))
         refine WT_frE 2 [0, 1] hp ?_
         ((repeat' first|refine aw ?_|refine bw (fun _=>?_) fun _=>?_))
         refine WT_iret rfl rfl ?_
         ((repeat' first|refine aw ?_|refine bw (fun _=>?_) fun _=>?_))
         exact WT_eret 2 rfl rfl (by exact Uw.wW)
       · rw [if_neg (by rw [hs]; decide), if_pos hs, List.tail_drop, h2]
         have hp := put_bin l k2 ns 7 e y (by simp [Ex.flat_len]; omega) (by omega)
         rw [hs] at pk
         show SatE _ _ _ _ _ (rdN l (l.length - (l.drop k2).length) _)
         rw [len_drop hk3]
         clear hs ih
         refine SatE_by is_parse_reader_expression rfl ?_
         ((repeat' first|refine aw ?_|refine bw (fun _=>?_) fun _=>?_))
         refine WT_frE 2 [0, 1] h1 ?_
         ((repeat' first|refine aw ?_|refine bw (fun _=>?_) fun _=>?_))
         refine WT_frE 2 [0, 1] pk ?_
         ((repeat' first|refine aw ?_|refine bw (fun _=>?_) fun _=>?_))
         refine WT_inl is_parse_reader_pair rfl ?_
         ((repeat' first|refine aw ?_|refine bw (fun _=>?_) fun _=>?_))
         refine WT_frE 2 [0, 1] h3 ?_
         ((repeat' first|refine aw ?_|refine bw (fun _=>?_) fun _=>?_))
         refine WT_frE 2 [0, 1] hp ?_
         ((repeat' first|refine aw ?_|refine bw (fun _=>?_) fun _=>?_))
         refine WT_iret rfl rfl ?_
         ((repeat' first|refine aw ?_|refine bw (fun _=>?_) fun _=>?_))
         exact WT_eret 2 rfl rfl (by exact Uw.wW)
   · rw [if_neg (fun h => hs (.inl h)), if_neg (fun h => hs (.inr h))]
     show SatE _ _ _ _ _ (rdN l (l.length - (l.drop k1).length) _)
     rw [len_drop hk1]
     generalize hd (l.drop k1) = p at *
     have hs1 : ¬ p = [60] := fun h => hs (.inl h)
     have hs2 : ¬ p = [61, 61] := fun h => hs (.inr h)
     clear ih hs
     refine SatE_by is_parse_reader_expression rfl ?_
     ((repeat' first|refine aw ?_|refine bw (fun _=>?_) fun _=>?_))
     refine WT_frE 2 [0, 1] h1 ?_
     ((repeat' first|refine aw ?_|refine bw (fun _=>?_) fun _=>?_))
     refine WT_frE 2 [0, 1] pk ?_
     ((repeat' first|refine aw ?_|refine bw (fun _=>?_) fun _=>?_))
     exact WT_eret 2 rfl rfl (by exact Uw.wW)
end Uw.Tryd
namespace Uw.Tryd
open Go Uw
def Exs.app : Exs → Exs → Exs
 | .nil, b => b
 | .cons e r, b => .cons e (r.app b)
theorem Exs.app_sz : ∀ (a b : Exs), (a.app b).sz = a.sz + b.sz
 | .nil, b => by simp [Exs.app, Exs.sz]
 | .cons e r, b => by rw [Exs.app, Exs.sz, Exs.sz, Exs.app_sz r b]; omega
theorem Exs.app_flat : ∀ (a b : Exs) (n : Nat), (a.app b).flat n = a.flat n ++ b.flat (n + a.sz)
 | .nil, b, n => by simp [Exs.app, Exs.flat, Exs.sz]
 | .cons e r, b, n => by rw [Exs.app, Exs.flat, Exs.flat, Exs.app_flat r b, Exs.sz, List.append_assoc, Nat.add_assoc]
theorem Exs.app_places : ∀ (a b : Exs) (n : Nat), (a.app b).places n = a.places n ++ b.places (n + a.sz)
 | .nil, b, n => by simp [Exs.app, Exs.places, Exs.sz]
 | .cons e r, b, n => by rw [Exs.app, Exs.places, Exs.places, Exs.app_places r b, Exs.sz, List.cons_append, Nat.add_assoc]
theorem Exs.app_nil : ∀ (a : Exs), a.app .nil = a
 | .nil => rfl
 | .cons e r => by rw [Exs.app, Exs.app_nil r]
theorem Exs.app_assoc : ∀ (a b c : Exs), (a.app b).app c = a.app (b.app c)
 | .nil, b, c => rfl
 | .cons e r, b, c => by rw [Exs.app, Exs.app, Exs.app, Exs.app_assoc r b c]
def rowN (ys : List Nat) : List (List Dat) := ys.map fun (i : Nat) => [I i]
theorem s_args1_first (l : List Tok) (k k' : Nat) (ns ms : List Nod) (p : Nat) (h : SatE P0 n_parse_reader_expression [.ptr 0 0] (rdN l k ns) (.d (I p)) (rdN l k' ms)) :
   SatE P0 n_parse_reader_arguments_1 [.ptr 3 0, .ptr 2 0] (rdN l k ns ++ [.var [.ptr 0 0], .var [.d .nil]]) (.tuple []) (rdN l k' ms ++ [.var [.ptr 0 0], .var [.ref 4 0 0 (rowN [p]).length], .arr 1 (rowN [p])]) := by
 refine SatE_by is_parse_reader_arguments_1 rfl ?_
 refine WT_draw ⟨[], heapOf 0 (rdN l k' ms ++ [.var [.ptr 0 0], .var [.ref 4 0 0 (rowN [p]).length], .arr 1 (rowN [p])]), 5, [], 4⟩ ?_ ?_
 · ((repeat' first|refine aw ?_|refine bw (fun _=>?_) fun _=>?_))
   refine WT_frE 4 [0, 1] h ?_
   ((repeat' first|refine aw ?_|refine bw (fun _=>?_) fun _=>?_))
   exact WT_done (.inl ⟨rfl, by exact Uw.wW⟩)
 · ((repeat' first|refine aw ?_|refine bw (fun _=>?_) fun _=>?_))
   exact WT_eend 4 rfl rfl (by exact Uw.wW)
theorem s_args1_next (l : List Tok) (k k' : Nat) (ns ms : List Nod) (ys : List Nat) (p : Nat) (hy : ys.length < 1000000) (h : SatE P0 n_parse_reader_expression [.ptr 0 0] (rdN l k ns) (.d (I p)) (rdN l k' ms)) :
   SatE P0 n_parse_reader_arguments_1 [.ptr 3 0, .ptr 2 0] (rdN l k ns ++ [.var [.ptr 0 0], .var [.ref 4 0 0 (rowN ys).length], .arr 1 (rowN ys)]) (.tuple []) (rdN l k' ms ++ [.var [.ptr 0 0], .var [.ref 4 0 0 (rowN (ys ++ [p])).length], .arr 1 (rowN (ys ++ [p]))]) := by
 have e : rowN (ys ++ [p]) = rowN ys ++ [[I p]] := by simp [rowN]
 have hy' : (rowN ys).length < 1000000 := by simpa [rowN] using hy
 rw [e]
 generalize rowN ys = zs at *
 refine SatE_by is_parse_reader_arguments_1 rfl ?_
 refine WT_draw ⟨[], heapOf 0 (rdN l k' ms ++ [.var [.ptr 0 0], .var [.ref 4 0 0 (zs ++ [[I p]]).length], .arr 1 (zs ++ [[I p]])]), 5, [], 5⟩ ?_ ?_
 · ((repeat' first|refine aw ?_|refine bw (fun _=>?_) fun _=>?_))
   refine WT_frE 5 [0, 1] h ?_
   ((repeat' first|refine aw ?_|refine bw (fun _=>?_) fun _=>?_))
   exact WT_done (.inl ⟨rfl, by exact Uw.wW⟩)
 · ((repeat' first|refine aw ?_|refine bw (fun _=>?_) fun _=>?_))
   exact WT_eend 5 rfl rfl (by exact Uw.wW)
theorem p_args1_first (l : List Tok) (k : Nat) (ns : List Nod) (h : SatP P0 n_parse_reader_expression [.ptr 0 0] (rdN l k ns) wrongD) :
   SatP P0 n_parse_reader_arguments_1 [.ptr 3 0, .ptr 2 0] (rdN l k ns ++ [.var [.ptr 0 0], .var [.d .nil]]) wrongD := by
 refine SatP_by is_parse_reader_arguments_1 rfl ?_
 refine WT_drawP ?_
 ((repeat' first|refine aw ?_|refine bw (fun _=>?_) fun _=>?_))
 refine WT_frP 4 [0, 1] h ?_
 intro H n
 ((repeat' first|refine aw ?_|refine bw (fun _=>?_) fun _=>?_))
 exact WT_done ⟨wrongD, rfl, WT_epan rfl⟩
theorem p_args1_next (l : List Tok) (k : Nat) (ns : List Nod) (ys : List Nat) (h : SatP P0 n_parse_reader_expression [.ptr 0 0] (rdN l k ns) wrongD) :
   SatP P0 n_parse_reader_arguments_1 [.ptr 3 0, .ptr 2 0] (rdN l k ns ++ [.var [.ptr 0 0], .var [.ref 4 0 0 (rowN ys).length], .arr 1 (rowN ys)]) wrongD := by
 generalize rowN ys = zs at *
 refine SatP_by is_parse_reader_arguments_1 rfl ?_
 refine WT_drawP ?_
 ((repeat' first|refine aw ?_|refine bw (fun _=>?_) fun _=>?_))
 refine WT_frP 5 [0, 1] h ?_
 intro H n
 ((repeat' first|refine aw ?_|refine bw (fun _=>?_) fun _=>?_))
 exact WT_done ⟨wrongD, rfl, WT_epan rfl⟩
theorem useA {l : List Tok} {k : Nat} {ns : List Nod} {f : FuncId} {x : R Exs} (h : SatO f [.ptr 0 0] (rdN l k ns) (outA l ns x)) (hk : k ≤ l.length) (hs : ∀ e r, x = .ok e r → Suf (l.drop k) r (e.sz + 1)) :
   x = .out ∨ (x = .bad ∧ SatP P0 f [.ptr 0 0] (rdN l k ns) wrongD) ∨ ∃ e k', x = .ok e (l.drop k') ∧ k' ≤ l.length ∧ k + (e.sz + 1) ≤ k' ∧ SatE P0 f [.ptr 0 0] (rdN l k ns) (.d (e.argD ns.length)) (rdN l k' (ns ++ e.flat ns.length)) := by
 cases x with
 | out => exact .inl rfl
 | bad => exact .inr (.inl ⟨rfl, h⟩)
 | ok e r =>
   obtain ⟨k', h1, rfl, h2⟩ := suf_at (hs e r rfl) hk
   refine .inr (.inr ⟨e, k', rfl, h1, h2, ?_⟩)
   have h : SatE P0 f [.ptr 0 0] (rdN l k ns) (.d (e.argD ns.length)) (rdN l (l.length - (l.drop k').length) (ns ++ e.flat ns.length)) := h
   rw [len_drop h1] at h
   exact h
theorem outA_ne {l : List Tok} {ns : List Nod} {x : R Exs} (h : x ≠ .out) : outA l ns x ≠ .out := by cases x <;> first | exact absurd rfl h | (intro h; cases h)
theorem c_args (l : List Tok) (hl : l.length < 1000000) (n : Nat) (ih : ∀ m, m ≤ n → CE l m) (k : Nat) (ns : List Nod) (hk : k ≤ l.length) (hn : ns.length ≤ k) : SatO n_parse_reader_arguments [.ptr 0 0] (rdN l k ns) (outA l ns (pArgs (n + 1) (l.drop k))) := by
 rw [pArgs]
 by_cases h0 : hd (l.drop k) = [40]
 · have hlt := hd_lt h0 (by simp)
   have w0 := s_parse_reader_want l k (ns.map nodL) hk hl [40] (by simp) h0
   have hv := s_parse_reader_have l (k + 1) (ns.map nodL) hlt hl [41] (by simp)
   rw [want, if_pos h0, List.tail_drop]
   show SatO _ _ _ (outA l ns (if hd (l.drop (k + 1)) = [41] then _ else _))
   by_cases h1 : hd (l.drop (k + 1)) = [41]
   · have hlt1 := hd_lt h1 (by simp)
     rw [if_pos h1, List.tail_drop]
     rw [if_pos h1, decide_eq_true h1] at hv
     show SatE _ _ _ _ (.d .nil) (rdN l (l.length - (l.drop (k + 1 + 1)).length) (ns ++ []))
     rw [len_drop (by omega), List.append_nil]
     clear ih h0 h1
     refine SatE_by is_parse_reader_arguments rfl ?_
     ((repeat' first|refine aw ?_|refine bw (fun _=>?_) fun _=>?_))
     refine WT_inl is_parse_reader_row rfl ?_
     ((repeat' first|refine aw ?_|refine bw (fun _=>?_) fun _=>?_))
     refine WT_frE 4 [0, 1] w0 ?_
     ((repeat' first|refine aw ?_|refine bw (fun _=>?_) fun _=>?_))
     refine WT_frE 4 [0, 1] hv ?_
     ((repeat' first|refine aw ?_|refine bw (fun _=>?_) fun _=>?_))
     refine WT_iret rfl rfl ?_
     ((repeat' first|refine aw ?_|refine bw (fun _=>?_) fun _=>?_))
     exact WT_eret 2 rfl rfl (by exact Uw.wW)
   · rw [if_neg h1]
     rw [if_neg h1, decide_eq_false h1] at hv
     rcases useE ((ih n (Nat.le_refl _)).expr (k + 1) ns hlt (by omega)) hlt (fun e r h => (suf_e n).expr _ _ _ h) with h2 | ⟨h2, h3⟩ | ⟨e, k1, h2, hk1, hk1', h3⟩
     · rw [h2]; exact trivial
     · rw [h2]
       have a1 := p_args1_first l (k + 1) ns h3
       clear ih h0 h1
       refine SatP_by is_parse_reader_arguments rfl ?_
       ((repeat' first|refine aw ?_|refine bw (fun _=>?_) fun _=>?_))
       refine WT_inl is_parse_reader_row rfl ?_
       ((repeat' first|refine aw ?_|refine bw (fun _=>?_) fun _=>?_))
       refine WT_frE 4 [0, 1] w0 ?_
       ((repeat' first|refine aw ?_|refine bw (fun _=>?_) fun _=>?_))
       refine WT_frE 4 [0, 1] hv ?_
       ((repeat' first|refine aw ?_|refine bw (fun _=>?_) fun _=>?_))
       refine WT_frP 4 [0, 1, 2, 3] a1 ?_
       intro H q
       ((repeat' first|refine aw ?_|refine bw (fun _=>?_) fun _=>?_))
       refine WT_ipan rfl ?_
       ((repeat' first|refine aw ?_|refine bw (fun _=>?_) fun _=>?_))
       exact WT_epan rfl
     · rw [h2]
       show SatO _ _ _ (outA l ns ((pArgsT n (l.drop k1)).bind fun es r => .ok (.cons e es) r))
       have hf1 : ns ++ e.flat ns.length = ns ++ (Exs.cons e .nil).flat ns.length := by simp [Exs.flat]
       have a1 := s_args1_first l (k + 1) k1 ns (ns ++ e.flat ns.length) _ h3
       rw [hf1] at a1
       have hz1 : (Exs.cons e .nil).sz = e.sz := rfl
       generalize hR : (pArgsT n (l.drop k1)).bind (fun es r => R.ok (Exs.cons e es) r) = Rr
       by_cases hout : Rr = .out
       · rw [hout]; exact trivial
       refine SatO_by is_parse_reader_arguments rfl (outA_ne hout) ?_
       ((repeat' first|refine aw ?_|refine bw (fun _=>?_) fun _=>?_))
       refine WT_inl is_parse_reader_row rfl ?_
       ((repeat' first|refine aw ?_|refine bw (fun _=>?_) fun _=>?_))
       refine WT_frE 4 [0, 1] w0 ?_
       ((repeat' first|refine aw ?_|refine bw (fun _=>?_) fun _=>?_))
       refine WT_frE 4 [0, 1] hv ?_
       ((repeat' first|refine aw ?_|refine bw (fun _=>?_) fun _=>?_))
       refine WT_frE 4 [0, 1, 2, 3] a1 ?_
       ((repeat' first|refine aw ?_|refine bw (fun _=>?_) fun _=>?_))
       refine WT_loop (fun ((d, k1, m) : Exs × Nat × Nat) => ⟨[(0, .ptr 0 0), (1, V.func n_parse_reader_arguments_1 [] [V.ptr 3 0, V.ptr 2 0])], heapOf 0 (rdN l k1 (ns ++ d.flat ns.length) ++ [.var [.ptr 0 0], .var [.ref 4 0 0 (rowN (d.places ns.length)).length], .arr 1 (rowN (d.places ns.length))]), 5, [], 4⟩)
         (fun (d, k1, m) => (pArgsT m (l.drop k1)).bind (fun es r => R.ok (d.app es) r) = Rr ∧ m ≤ n ∧ k1 ≤ l.length ∧ k + d.sz + 1 ≤ k1 ∧ d.places ns.length ≠ []) (fun (_, _, m) => m) (.cons e .nil, k1, n) (by exact Uw.wW) ⟨hR, Nat.le_refl _, hk1, by omega, by simp [Exs.places]⟩ ?_
       clear hR h0 h1 h2 h3 hk1 hk1' a1 hf1 hz1 w0 hv
       rintro ⟨d, k1, m⟩ ⟨hR, hm, hk1, hk2, hd0⟩
       cases m with
       | zero => rw [pArgsT] at hR; exact absurd hR.symm hout
       | succ m =>
         rw [pArgsT] at hR
         have hfl : (ns ++ d.flat ns.length).length = ns.length + d.sz := by simp [Exs.flat_len]
         have hv := s_parse_reader_have l k1 ((ns ++ d.flat ns.length).map nodL) hk1 hl [44] (by simp)
         by_cases hs : hd (l.drop k1) = [44]
         · have hlt := hd_lt hs (by simp)
           rw [if_pos hs, List.tail_drop] at hR
           rw [if_pos hs, decide_eq_true hs] at hv
           rcases useE ((ih m (by omega)).expr (k1 + 1) (ns ++ d.flat ns.length) (by omega) (by omega)) (by omega) (fun e r h => (suf_e m).expr _ _ _ h) with h0 | ⟨h0, h1⟩ | ⟨y, k2, h0, hk3, hk3', h1⟩
           · rw [h0] at hR; exact absurd hR.symm hout
           · rw [h0] at hR
             have hb : outA l ns Rr = .bad := by rw [← hR]; rfl
             have a1 := p_args1_next l (k1 + 1) _ (d.places ns.length) h1
             clear ih hR hout hs h0 h1 hd0
             ((repeat' first|refine aw ?_|refine bw (fun _=>?_) fun _=>?_))
             refine WT_frE 5 [0, 1] hv ?_
             ((repeat' first|refine aw ?_|refine bw (fun _=>?_) fun _=>?_))
             refine WT_frP 5 [0, 1, 2, 3, 4] a1 ?_
             intro h q
             ((repeat' first|refine aw ?_|refine bw (fun _=>?_) fun _=>?_))
             refine WT_throw (WT_ipan rfl ?_)
             ((repeat' first|refine aw ?_|refine bw (fun _=>?_) fun _=>?_))
             exact WT_opan 2 hb rfl
           · rw [h0] at hR
             have hR : (pArgsT m (l.drop k2)).bind (fun es r => R.ok ((d.app (.cons y .nil)).app es) r) = Rr := by
               rw [← hR]
               show _ = ((pArgsT m (l.drop k2)).bind fun es r => R.ok (Exs.cons y es) r).bind fun es r => R.ok (d.app es) r
               cases pArgsT m (l.drop k2) with
               | ok es r => show R.ok _ _ = R.ok _ _; rw [Exs.app_assoc]; rfl
               | bad => rfl
               | out => rfl
             have a1 := s_args1_next l (k1 + 1) k2 _ _ (d.places ns.length) _ (by
               have : ∀ (d : Exs) (b : Nat), (d.places b).length ≤ d.sz := by
                 intro d
                 induction d using Exs.rec (motive_1 := fun _ => True) with
                 | nil => simp [Exs.places]
                 | cons e r _ ih => intro b; have := ih (b + e.sz); have := e.sz_pos; simp [Exs.places, Exs.sz]; omega
                 | _ => trivial
               have := this d ns.length; omega) h1
             have hpl : d.places ns.length ++ [(ns ++ d.flat ns.length).length + y.sz - 1] = (d.app (.cons y .nil)).places ns.length := by rw [Exs.app_places, hfl]; rfl
             have hff : ns ++ d.flat ns.length ++ y.flat (ns ++ d.flat ns.length).length = ns ++ (d.app (.cons y .nil)).flat ns.length := by rw [Exs.app_flat, hfl]; simp [Exs.flat]
             have hsz : (d.app (.cons y .nil)).sz = d.sz + y.sz := by rw [Exs.app_sz]; rfl
             have hd1 : (d.app (.cons y .nil)).places ns.length ≠ [] := by rw [← hpl]; simp
             rw [hpl, hff] at a1
             clear ih hout hs h0 h1 hd0 hpl hff
             ((repeat' first|refine aw ?_|refine bw (fun _=>?_) fun _=>?_))
             refine WT_frE 5 [0, 1] hv ?_
             ((repeat' first|refine aw ?_|refine bw (fun _=>?_) fun _=>?_))
             refine WT_frE 5 [0, 1, 2, 3, 4] a1 ?_
             ((repeat' first|refine aw ?_|refine bw (fun _=>?_) fun _=>?_))
             exact WT_again (d.app (.cons y .nil), k2, m) ⟨hR, by omega, hk3, by omega, hd1⟩ (by simp only; omega) (by exact Uw.wW)
         · rw [if_neg hs] at hR
           rw [if_neg hs, decide_eq_false hs] at hv
           by_cases hw : hd (l.drop k1) = [41]
           · have hlt := hd_lt hw (by simp)
             have w1 := s_parse_reader_want l k1 ((ns ++ d.flat ns.length).map nodL) hk1 hl [41] (by simp) hw
             have hb : outA l ns Rr = .ok (.d (.slice 1 (rowN (d.places ns.length)) false)) (rdN l (k1 + 1) (ns ++ d.flat ns.length)) := by
               rw [want, if_pos hw, List.tail_drop] at hR
               have hR : R.ok (d.app .nil) (l.drop (k1 + 1)) = Rr := hR
               rw [← hR, Exs.app_nil]
               show Out.ok (.d (ofD 8 (d.places ns.length))) (rdN l (l.length - (l.drop (k1 + 1)).length) _) = _
               rw [len_drop (by omega)]
               have : ofD 8 (d.places ns.length) = .slice 1 (rowN (d.places ns.length)) false := by
                 unfold ofD
                 rw [if_neg (by omega), if_pos (by omega), if_neg hd0]; rfl
               rw [this]
             have hfz : ((rowN (d.places ns.length)).drop 0).take (rowN (d.places ns.length)).length = rowN (d.places ns.length) := by simp
             clear ih hR hout hs hw hd0
             ((repeat' first|refine aw ?_|refine bw (fun _=>?_) fun _=>?_))
             refine WT_frE 5 [0, 1] hv ?_
             ((repeat' first|refine aw ?_|refine bw (fun _=>?_) fun _=>?_))
             refine WT_break ?_
             refine WT_frE 5 [0, 1] w1 ?_
             ((repeat' first|refine aw ?_|refine bw (fun _=>?_) fun _=>?_))
             refine WT_iend rfl rfl ?_
             ((repeat' first|refine aw ?_|refine bw (fun _=>?_) fun _=>?_))
             exact WT_oret 2 hb rfl rfl (by exact Uw.wW)
           · have w1 := p_parse_reader_want l k1 ((ns ++ d.flat ns.length).map nodL) hk1 hl [41] (by simp) hw
             have hb : outA l ns Rr = .bad := by
               rw [want, if_neg hw] at hR; rw [← hR]; rfl
             clear ih hR hout hs hw hd0
             ((repeat' first|refine aw ?_|refine bw (fun _=>?_) fun _=>?_))
             refine WT_frE 5 [0, 1] hv ?_
             ((repeat' first|refine aw ?_|refine bw (fun _=>?_) fun _=>?_))
             refine WT_break ?_
             refine WT_frP 5 [0, 1] w1 ?_
             intro h q
             ((repeat' first|refine aw ?_|refine bw (fun _=>?_) fun _=>?_))
             refine WT_ipan rfl ?_
             ((repeat' first|refine aw ?_|refine bw (fun _=>?_) fun _=>?_))
             exact WT_opan 2 hb rfl
 · rw [want, if_neg h0]
   have w0 := p_parse_reader_want l k (ns.map nodL) hk hl [40] (by simp) h0
   clear ih h0
   refine SatP_by is_parse_reader_arguments rfl ?_
   ((repeat' first|refine aw ?_|refine bw (fun _=>?_) fun _=>?_))
   refine WT_inl is_parse_reader_row rfl ?_
   ((repeat' first|refine aw ?_|refine bw (fun _=>?_) fun _=>?_))
   refine WT_frP 4 [0, 1] w0 ?_
   intro H q
   ((repeat' first|refine aw ?_|refine bw (fun _=>?_) fun _=>?_))
   refine WT_ipan rfl ?_
   ((repeat' first|refine aw ?_|refine bw (fun _=>?_) fun _=>?_))
   exact WT_epan rfl
end Uw.Tryd
namespace Uw.Tryd
open Go Uw
theorem name_cases (l : List Tok) (k : Nat) (xs : List (List Dat)) (hk : k ≤ l.length) (hl : l.length < 1000000) :
   (pName (l.drop k) = .bad ∧ SatP P0 n_parse_reader_name [.ptr 0 0] (rd l k xs) wrongD) ∨ ∃ s, pName (l.drop k) = .ok s (l.drop (k + 1)) ∧ k < l.length ∧ SatE P0 n_parse_reader_name [.ptr 0 0] (rd l k xs) (.d (.str s)) (rd l (k + 1) xs) := by
 by_cases h : k < l.length
 · have hd : l.drop k = l[k] :: l.drop (k + 1) := List.drop_eq_getElem_cons h
   by_cases h1 : l[k].kind = 1
   · have hw : pWord 1 (l.drop k) = .ok l[k] (l.drop (k + 1)) := by rw [hd, pWord, if_pos h1]
     cases h2 : keyw l[k].text with
     | true =>
       refine .inl ⟨?_, p_parse_reader_name l k xs hk hl (fun _ => .inr h2)⟩
       rw [pName, hw]; show (if keyw l[k].text = true then _ else _) = _; rw [if_pos h2]
     | false =>
       refine .inr ⟨l[k].text, ?_, h, s_parse_reader_name l k xs hk hl h h1 h2⟩
       rw [pName, hw]; show (if keyw l[k].text = true then _ else _) = _; rw [if_neg (by rw [h2]; decide)]
   · refine .inl ⟨?_, p_parse_reader_name l k xs hk hl (fun _ => .inl h1)⟩
     rw [pName, hd, pWord, if_neg h1]; rfl
 · refine .inl ⟨?_, p_parse_reader_name l k xs hk hl (fun h' => absurd h' h)⟩
   rw [pName, List.drop_eq_nil_of_le (by omega), pWord]; rfl
theorem argD_form (es : Exs) (b : Nat) : es.argD b = .nil ∨ es.argD b = .slice 1 (rowN (es.places b)) false := by
 unfold Exs.argD ofD
 rw [if_neg (by omega), if_pos (by omega)]
 split
 · exact .inl rfl
 · exact .inr rfl
theorem c_call (l : List Tok) (hl : l.length < 1000000) (n : Nat) (ih : ∀ m, m ≤ n → CE l m) (s : Str) (k : Nat) (ns : List Nod) (hk : k ≤ l.length) (hn : ns.length ≤ k) : SatO n_parse_reader_call [.ptr 0 0, .d (.str s)] (rdN l k ns) (outC l ns s (pCall (n + 1) s (l.drop k))) := by
 rw [pCall]
 by_cases h0 : hd (l.drop k) = [46]
 · have hlt := hd_lt h0 (by simp)
   have w0 := s_parse_reader_want l k (ns.map nodL) hk hl [46] (by simp) h0
   rw [want, if_pos h0, List.tail_drop]
   show SatO _ _ _ (outC l ns s ((pName (l.drop (k + 1))).bind _))
   rcases name_cases l (k + 1) (ns.map nodL) hlt hl with ⟨h1, h2⟩ | ⟨v, h1, hlt1, h2⟩
   · rw [h1]
     clear ih h0
     refine SatP_by is_parse_reader_call rfl ?_
     ((repeat' first|refine aw ?_|refine bw (fun _=>?_) fun _=>?_))
     refine WT_frE 2 [0, 1] w0 ?_
     ((repeat' first|refine aw ?_|refine bw (fun _=>?_) fun _=>?_))
     refine WT_frP 2 [0, 1] h2 ?_
     intro H q
     ((repeat' first|refine aw ?_|refine bw (fun _=>?_) fun _=>?_))
     exact WT_epan rfl
   · rw [h1]
     show SatO _ _ _ (outC l ns s ((pArgs n (l.drop (k + 1 + 1))).bind _))
     rcases useA ((ih n (Nat.le_refl _)).args (k + 1 + 1) ns (by omega) (by omega)) (by omega) (fun e r h => (suf_e n).args _ _ _ h) with h3 | ⟨h3, h4⟩ | ⟨es, k1, h3, hk1, hk1', h4⟩
     · rw [h3]; exact trivial
     · rw [h3]
       clear ih h0
       refine SatP_by is_parse_reader_call rfl ?_
       ((repeat' first|refine aw ?_|refine bw (fun _=>?_) fun _=>?_))
       refine WT_frE 2 [0, 1] w0 ?_
       ((repeat' first|refine aw ?_|refine bw (fun _=>?_) fun _=>?_))
       refine WT_frE 2 [0, 1] h2 ?_
       ((repeat' first|refine aw ?_|refine bw (fun _=>?_) fun _=>?_))
       refine WT_frP 3 [0, 1] h4 ?_
       intro H q
       ((repeat' first|refine aw ?_|refine bw (fun _=>?_) fun _=>?_))
       exact WT_epan rfl
     · rw [h3]
       show SatE _ _ _ _ (.d (I ((ns.length + (Ex.call s v es).sz - 1 : Nat)))) (rdN l (l.length - (l.drop k1).length) (ns ++ (Ex.call s v es).flat ns.length))
       rw [len_drop hk1]
       have hp := put_ok l k1 (ns ++ es.flat ns.length) (ns ++ (Ex.call s v es).flat ns.length) ⟨8, 0, s, v, es.places ns.length⟩ (by simp [Ex.flat]) (ns.length + (Ex.call s v es).sz - 1) (by simp [Ex.sz, Exs.flat_len]; try omega) (by simp [Exs.flat_len]; omega)
       have hp : SatE P0 n_parse_reader_put [.ptr 0 0, .agg [.d (I 8), .d (I 0), .d (.str s), .d (.str v), .d (es.argD ns.length)]] (rdN l k1 (ns ++ es.flat ns.length)) (.d (I ((ns.length + (Ex.call s v es).sz - 1 : Nat)))) (rdN l k1 (ns ++ (Ex.call s v es).flat ns.length)) := hp
       clear ih h0
       rcases argD_form es ns.length with e | e
       all_goals
         rw [e] at hp h4
         refine SatE_by is_parse_reader_call rfl ?_
         ((repeat' first|refine aw ?_|refine bw (fun _=>?_) fun _=>?_))
         refine WT_frE 2 [0, 1] w0 ?_
         ((repeat' first|refine aw ?_|refine bw (fun _=>?_) fun _=>?_))
         refine WT_frE 2 [0, 1] h2 ?_
         ((repeat' first|refine aw ?_|refine bw (fun _=>?_) fun _=>?_))
         refine WT_frE 3 [0, 1] h4 ?_
         ((repeat' first|refine aw ?_|refine bw (fun _=>?_) fun _=>?_))
         refine WT_frE 3 [0, 1] hp ?_
         ((repeat' first|refine aw ?_|refine bw (fun _=>?_) fun _=>?_))
         exact WT_eret 2 rfl rfl (by exact Uw.wW)
 · rw [want, if_neg h0]
   have w0 := p_parse_reader_want l k (ns.map nodL) hk hl [46] (by simp) h0
   clear ih h0
   refine SatP_by is_parse_reader_call rfl ?_
   ((repeat' first|refine aw ?_|refine bw (fun _=>?_) fun _=>?_))
   refine WT_frP 2 [0, 1] w0 ?_
   intro H q
   ((repeat' first|refine aw ?_|refine bw (fun _=>?_) fun _=>?_))
   exact WT_epan rfl
theorem useC {l : List Tok} {k : Nat} {ns : List Nod} {s : Str} {x : R (Str × Exs)} (h : SatO n_parse_reader_call [.ptr 0 0, .d (.str s)] (rdN l k ns) (outC l ns s x)) (hk : k ≤ l.length) (hs : ∀ e r, x = .ok e r → Suf (l.drop k) r (e.2.sz + 1)) :
   x = .out ∨ (x = .bad ∧ SatP P0 n_parse_reader_call [.ptr 0 0, .d (.str s)] (rdN l k ns) wrongD) ∨ ∃ v e k', x = .ok (v, e) (l.drop k') ∧ k' ≤ l.length ∧ k + (e.sz + 1) ≤ k' ∧ SatE P0 n_parse_reader_call [.ptr 0 0, .d (.str s)] (rdN l k ns) (.d (I ((ns.length + (Ex.call s v e).sz - 1 : Nat)))) (rdN l k' (ns ++ (Ex.call s v e).flat ns.length)) := by
 cases x with
 | out => exact .inl rfl
 | bad => exact .inr (.inl ⟨rfl, h⟩)
 | ok e r =>
   obtain ⟨v, e⟩ := e
   obtain ⟨k', h1, rfl, h2⟩ := suf_at (hs _ r rfl) hk
   refine .inr (.inr ⟨v, e, k', rfl, h1, h2, ?_⟩)
   have h : SatE P0 n_parse_reader_call [.ptr 0 0, .d (.str s)] (rdN l k ns) (.d (I ((ns.length + (Ex.call s v e).sz - 1 : Nat)))) (rdN l (l.length - (l.drop k').length) (ns ++ (Ex.call s v e).flat ns.length)) := h
   rw [len_drop h1] at h
   exact h
theorem isNum_lt {l : List Tok} {k : Nat} (h : isNum (l.drop k) = true) : ∃ h : k < l.length, l[k].kind = 2 ∧ numOf (l.drop k) = l[k].n := by
 rcases Nat.lt_or_ge k l.length with h1 | h1
 · rw [List.drop_eq_getElem_cons h1] at h ⊢
   exact ⟨h1, by simpa [isNum] using h, rfl⟩
 · rw [List.drop_eq_nil_of_le h1] at h; cases h
theorem c_prim (l : List Tok) (hl : l.length < 1000000) (n : Nat) (ih : ∀ m, m ≤ n → CE l m) (k : Nat) (ns : List Nod) (hk : k ≤ l.length) (hn : ns.length ≤ k) : OkE n_parse_reader_primary l k ns (pPrim (n + 1) (l.drop k)) := by
 have e1 : (l.map tokL).length = l.length := by simp
 rw [pPrim]
 have hv := s_parse_reader_have l k (ns.map nodL) hk hl [40] (by simp)
 by_cases h0 : hd (l.drop k) = [40]
 · have hlt := hd_lt h0 (by simp)
   rw [if_pos h0, decide_eq_true h0] at hv
   rw [if_pos h0, List.tail_drop]
   rcases useE ((ih n (Nat.le_refl _)).expr (k + 1) ns hlt (by omega)) hlt (fun e r h => (suf_e n).expr _ _ _ h) with h2 | ⟨h2, h3⟩ | ⟨e, k1, h2, hk1, hk1', h3⟩
   · rw [h2]; exact trivial
   · rw [h2]
     clear ih h0
     refine SatP_by is_parse_reader_primary rfl ?_
     ((repeat' first|refine aw ?_|refine bw (fun _=>?_) fun _=>?_))
     refine WT_frE 2 [0, 1] hv ?_
     ((repeat' first|refine aw ?_|refine bw (fun _=>?_) fun _=>?_))
     refine WT_frP 2 [0, 1] h3 ?_
     intro H q
     ((repeat' first|refine aw ?_|refine bw (fun _=>?_) fun _=>?_))
     exact WT_epan rfl
   · rw [h2]
     show SatO _ _ _ (outE l ns ((want [41] (l.drop k1)).bind _))
     by_cases h4 : hd (l.drop k1) = [41]
     · have hlt1 := hd_lt h4 (by simp)
       have w1 := s_parse_reader_want l k1 ((ns ++ e.flat ns.length).map nodL) hk1 hl [41] (by simp) h4
       rw [want, if_pos h4, List.tail_drop]
       show SatE _ _ _ _ (.d (I ((ns.length + e.sz - 1 : Nat)))) (rdN l (l.length - (l.drop (k1 + 1)).length) _)
       rw [len_drop hlt1]
       clear ih h0 h4
       refine SatE_by is_parse_reader_primary rfl ?_
       ((repeat' first|refine aw ?_|refine bw (fun _=>?_) fun _=>?_))
       refine WT_frE 2 [0, 1] hv ?_
       ((repeat' first|refine aw ?_|refine bw (fun _=>?_) fun _=>?_))
       refine WT_frE 2 [0, 1] h3 ?_
       ((repeat' first|refine aw ?_|refine bw (fun _=>?_) fun _=>?_))
       refine WT_frE 2 [0, 1] w1 ?_
       ((repeat' first|refine aw ?_|refine bw (fun _=>?_) fun _=>?_))
       exact WT_eret 2 rfl rfl (by exact Uw.wW)
     · have w1 := p_parse_reader_want l k1 ((ns ++ e.flat ns.length).map nodL) hk1 hl [41] (by simp) h4
       rw [want, if_neg h4]
       clear ih h0 h4
       refine SatP_by is_parse_reader_primary rfl ?_
       ((repeat' first|refine aw ?_|refine bw (fun _=>?_) fun _=>?_))
       refine WT_frE 2 [0, 1] hv ?_
       ((repeat' first|refine aw ?_|refine bw (fun _=>?_) fun _=>?_))
       refine WT_frE 2 [0, 1] h3 ?_
       ((repeat' first|refine aw ?_|refine bw (fun _=>?_) fun _=>?_))
       refine WT_frP 2 [0, 1] w1 ?_
       intro H q
       ((repeat' first|refine aw ?_|refine bw (fun _=>?_) fun _=>?_))
       exact WT_epan rfl
 · rw [if_neg h0, decide_eq_false h0] at hv
   rw [if_neg h0]
   cases hnum : isNum (l.drop k) with
   | true =>
     rw [if_pos rfl, List.tail_drop]
     obtain ⟨hlt, hkd, hno⟩ := isNum_lt hnum
     rw [hno]
     have wd := s_parse_reader_word l k (ns.map nodL) hk hl 2 hlt hkd
     have hp := put_ok l (k + 1) ns (ns ++ (Ex.num l[k].n).flat ns.length) ⟨1, l[k].n, [], [], []⟩ rfl (ns.length + (Ex.num l[k].n).sz - 1) (by simp [Ex.sz]) (by omega)
     have hp : SatE P0 n_parse_reader_put [.ptr 0 0, .agg [.d (I 1), .d (I l[k].n), .d (.str []), .d (.str []), .d .nil]] (rdN l (k + 1) ns) (.d (I ((ns.length + (Ex.num l[k].n).sz - 1 : Nat)))) (rdN l (k + 1) (ns ++ (Ex.num l[k].n).flat ns.length)) := hp
     show SatE _ _ _ _ (.d (I ((ns.length + (Ex.num l[k].n).sz - 1 : Nat)))) (rdN l (l.length - (l.drop (k + 1)).length) _)
     rw [len_drop hlt]
     clear ih h0 hnum hno
     refine SatE_by is_parse_reader_primary rfl ?_
     ((repeat' first|refine aw ?_|refine bw (fun _=>?_) fun _=>?_))
     refine WT_frE 2 [0, 1] hv ?_
     ((repeat' first|refine aw ?_|refine bw (fun _=>?_) fun _=>?_))
     refine WT_frE 2 [0, 1] wd ?_
     ((repeat' first|refine aw ?_|refine bw (fun _=>?_) fun _=>?_))
     refine WT_frE 2 [0, 1] hp ?_
     ((repeat' first|refine aw ?_|refine bw (fun _=>?_) fun _=>?_))
     exact WT_eret 2 rfl rfl (by exact Uw.wW)
   | false =>
     rw [if_neg (by decide)]
     have hkd : ∀ (h : k < l.length), ¬ l[k].kind = 2 := by
       intro h h2
       rw [List.drop_eq_getElem_cons h] at hnum
       simp [isNum, h2] at hnum
     rcases name_cases l k (ns.map nodL) hk hl with ⟨h1, h2⟩ | ⟨s, h1, hlt, h2⟩
     · rw [h1]
       clear ih h0 hnum h1
       by_cases hlt : k < l.length
       · have hkd := hkd hlt
         refine SatP_by is_parse_reader_primary rfl ?_
         ((repeat' first|refine aw ?_|refine bw (fun _=>?_) fun _=>?_))
         refine WT_frE 2 [0, 1] hv ?_
         ((repeat' first|refine aw ?_|refine bw (fun _=>?_) fun _=>?_))
         refine WT_frP 2 [0, 1] h2 ?_
         intro H q
         ((repeat' first|refine aw ?_|refine bw (fun _=>?_) fun _=>?_))
         exact WT_epan rfl
       · clear hkd
         refine SatP_by is_parse_reader_primary rfl ?_
         ((repeat' first|refine aw ?_|refine bw (fun _=>?_) fun _=>?_))
         refine WT_frE 2 [0, 1] hv ?_
         ((repeat' first|refine aw ?_|refine bw (fun _=>?_) fun _=>?_))
         refine WT_frP 2 [0, 1] h2 ?_
         intro H q
         ((repeat' first|refine aw ?_|refine bw (fun _=>?_) fun _=>?_))
         exact WT_epan rfl
     · rw [h1]
       have hkd := hkd hlt
       have pk := s_parse_reader_peek l (k + 1) (ns.map nodL) hlt
       show SatO _ _ _ (outE l ns (if hd (l.drop (k + 1)) = [46] then _ else _))
       by_cases h3 : hd (l.drop (k + 1)) = [46]
       · rw [if_pos h3]
         rw [h3] at pk
         rcases useC ((ih n (Nat.le_refl _)).call s (k + 1) ns hlt (by omega)) hlt (fun e r h => (suf_e n).call _ _ _ _ h) with h4 | ⟨h4, h5⟩ | ⟨v, es, k1, h4, hk1, hk1', h5⟩
         · rw [h4]; exact trivial
         · rw [h4]
           clear ih h0 hnum h1
           refine SatP_by is_parse_reader_primary rfl ?_
           ((repeat' first|refine aw ?_|refine bw (fun _=>?_) fun _=>?_))
           refine WT_frE 2 [0, 1] hv ?_
           ((repeat' first|refine aw ?_|refine bw (fun _=>?_) fun _=>?_))
           refine WT_frE 2 [0, 1] h2 ?_
           ((repeat' first|refine aw ?_|refine bw (fun _=>?_) fun _=>?_))
           refine WT_frE 2 [0, 1] pk ?_
           ((repeat' first|refine aw ?_|refine bw (fun _=>?_) fun _=>?_))
           refine WT_frP 2 [0, 1] h5 ?_
           intro H q
           ((repeat' first|refine aw ?_|refine bw (fun _=>?_) fun _=>?_))
           exact WT_epan rfl
         · rw [h4]
           show SatE _ _ _ _ (.d (I ((ns.length + (Ex.call s v es).sz - 1 : Nat)))) (rdN l (l.length - (l.drop k1).length) _)
           rw [len_drop hk1]
           clear ih h0 hnum h1
           refine SatE_by is_parse_reader_primary rfl ?_
           ((repeat' first|refine aw ?_|refine bw (fun _=>?_) fun _=>?_))
           refine WT_frE 2 [0, 1] hv ?_
           ((repeat' first|refine aw ?_|refine bw (fun _=>?_) fun _=>?_))
           refine WT_frE 2 [0, 1] h2 ?_
           ((repeat' first|refine aw ?_|refine bw (fun _=>?_) fun _=>?_))
           refine WT_frE 2 [0, 1] pk ?_
           ((repeat' first|refine aw ?_|refine bw (fun _=>?_) fun _=>?_))
           refine WT_frE 2 [0, 1] h5 ?_
           ((repeat' first|refine aw ?_|refine bw (fun _=>?_) fun _=>?_))
           exact WT_eret 2 rfl rfl (by exact Uw.wW)
       · rw [if_neg h3]
         have hp := put_ok l (k + 1) ns (ns ++ (Ex.name s).flat ns.length) ⟨2, 0, s, [], []⟩ rfl (ns.length + (Ex.name s).sz - 1) (by simp [Ex.sz]) (by omega)
         have hp : SatE P0 n_parse_reader_put [.ptr 0 0, .agg [.d (I 2), .d (I 0), .d (.str s), .d (.str []), .d .nil]] (rdN l (k + 1) ns) (.d (I ((ns.length + (Ex.name s).sz - 1 : Nat)))) (rdN l (k + 1) (ns ++ (Ex.name s).flat ns.length)) := hp
         show SatE _ _ _ _ (.d (I ((ns.length + (Ex.name s).sz - 1 : Nat)))) (rdN l (l.length - (l.drop (k + 1)).length) _)
         rw [len_drop hlt]
         generalize hd (l.drop (k + 1)) = p at *
         clear ih h0 hnum h1
         refine SatE_by is_parse_reader_primary rfl ?_
         ((repeat' first|refine aw ?_|refine bw (fun _=>?_) fun _=>?_))
         refine WT_frE 2 [0, 1] hv ?_
         ((repeat' first|refine aw ?_|refine bw (fun _=>?_) fun _=>?_))
         refine WT_frE 2 [0, 1] h2 ?_
         ((repeat' first|refine aw ?_|refine bw (fun _=>?_) fun _=>?_))
         refine WT_frE 2 [0, 1] pk ?_
         ((repeat' first|refine aw ?_|refine bw (fun _=>?_) fun _=>?_))
         refine WT_frE 2 [0, 1] hp ?_
         ((repeat' first|refine aw ?_|refine bw (fun _=>?_) fun _=>?_))
         exact WT_eret 2 rfl rfl (by exact Uw.wW)
theorem ce (l : List Tok) (hl : l.length < 1000000) : ∀ n, ∀ m, m ≤ n → CE l m
 | 0, m, hm => by
   obtain rfl : m = 0 := by omega
   refine ⟨?_, ?_, ?_, ?_, ?_, ?_⟩
   · intro k ns _ _; rw [pArgs]; exact trivial
   · intro s k ns _ _; rw [pCall]; exact trivial
   · intro k ns _ _; rw [pPrim]; exact trivial
   · intro k ns _ _; rw [pProd]; exact trivial
   · intro k ns _ _; rw [pSum]; exact trivial
   · intro k ns _ _; rw [pExpr]; exact trivial
 | n + 1, m, hm => by
   have ih := ce l hl n
   by_cases h : m ≤ n
   · exact ih m h
   · obtain rfl : m = n + 1 := by omega
     exact ⟨fun k ns => c_args l hl n ih k ns, fun s k ns => c_call l hl n ih s k ns, fun k ns => c_prim l hl n ih k ns, fun k ns => c_prod l hl n ih k ns, fun k ns => c_sum l hl n ih k ns, fun k ns => c_expr l hl n ih k ns⟩
end Uw.Tryd
namespace Uw.Tryd
open Go Uw
def outS (l : List Tok) (ns : List Nod) (x : R Stm) : Out :=
 match x with
 | .ok s r => .ok (.d (I ((ns.length + s.sz - 1 : Nat)))) (rdN l (l.length - r.length) (ns ++ s.flat ns.length))
 | .bad => .bad
 | .out => .out
theorem useS {f : FuncId} {vs : List V} {l : List Tok} {k : Nat} {ns : List Nod} {x : R Stm} (h : SatO f vs (rdN l k ns) (outS l ns x)) (hk : k ≤ l.length) (hs : ∀ e r, x = .ok e r → Suf (l.drop k) r e.sz) :
   x = .out ∨ (x = .bad ∧ SatP P0 f vs (rdN l k ns) wrongD) ∨ ∃ e k', x = .ok e (l.drop k') ∧ k' ≤ l.length ∧ k + e.sz ≤ k' ∧ SatE P0 f vs (rdN l k ns) (.d (I ((ns.length + e.sz - 1 : Nat)))) (rdN l k' (ns ++ e.flat ns.length)) := by
 cases x with
 | out => exact .inl rfl
 | bad => exact .inr (.inl ⟨rfl, h⟩)
 | ok e r =>
   obtain ⟨k', h1, rfl, h2⟩ := suf_at (hs e r rfl) hk
   refine .inr (.inr ⟨e, k', rfl, h1, h2, ?_⟩)
   have h : SatE P0 f vs (rdN l k ns) (.d (I ((ns.length + e.sz - 1 : Nat)))) (rdN l (l.length - (l.drop k').length) (ns ++ e.flat ns.length)) := h
   rw [len_drop h1] at h
   exact h
theorem places_len : ∀ (d : Exs) (b : Nat), (d.places b).length = d.length
 | .nil, b => rfl
 | .cons e r, b => by rw [Exs.places, List.length_cons, places_len r, Exs.length]
theorem c_child (l : List Tok) (hl : l.length < 1000000) (n : Nat) (to : Str) (k : Nat) (ns : List Nod) (hk : k ≤ l.length) (hn : ns.length ≤ k) : SatO n_parse_reader_child [.ptr 0 0, .d (.str to)] (rdN l k ns) (outS l ns (pChild n to (l.drop k))) := by
 rw [pChild]
 have hv := s_parse_reader_have l k (ns.map nodL) hk hl sSpawn (by decide)
 -- behind the word
 have tail : ∀ (par : Bool) (k1 : Nat), k1 ≤ l.length → k + 1 ≤ k1 →
     (∀ {x : Out}, SatO n_parse_reader_child [.ptr 0 0, .d (.str to)] (rdN l k ns) x → True) → True := fun _ _ _ _ _ => trivial
 clear tail
 by_cases h0 : hd (l.drop k) = sSpawn
 · have hlt := hd_lt h0 (by decide)
   rw [if_pos h0, decide_eq_true h0] at hv
   rw [if_pos h0, List.tail_drop]
   show SatO _ _ _ (outS l ns ((pName (l.drop (k + 1))).bind _))
   rcases name_cases l (k + 1) (ns.map nodL) hlt hl with ⟨h1, h2⟩ | ⟨f, h1, hlt1, h2⟩
   · rw [h1]
     clear h0
     refine SatP_by is_parse_reader_child rfl ?_
     ((repeat' first|refine aw ?_|refine bw (fun _=>?_) fun _=>?_))
     refine WT_frE 2 [0, 1] hv ?_
     ((repeat' first|refine aw ?_|refine bw (fun _=>?_) fun _=>?_))
     refine WT_frP 2 [0, 1] h2 ?_
     intro H q
     ((repeat' first|refine aw ?_|refine bw (fun _=>?_) fun _=>?_))
     exact WT_epan rfl
   · rw [h1]
     show SatO _ _ _ (outS l ns ((pArgs n (l.drop (k + 1 + 1))).bind _))
     rcases useA ((ce l hl n n (Nat.le_refl _)).args (k + 1 + 1) ns (by omega) (by omega)) (by omega) (fun e r h => (suf_e n).args _ _ _ h) with h3 | ⟨h3, h4⟩ | ⟨es, k1, h3, hk1, hk1', h4⟩
     · rw [h3]; exact trivial
     · rw [h3]
       clear h0
       refine SatP_by is_parse_reader_child rfl ?_
       ((repeat' first|refine aw ?_|refine bw (fun _=>?_) fun _=>?_))
       refine WT_frE 2 [0, 1] hv ?_
       ((repeat' first|refine aw ?_|refine bw (fun _=>?_) fun _=>?_))
       refine WT_frE 2 [0, 1] h2 ?_
       ((repeat' first|refine aw ?_|refine bw (fun _=>?_) fun _=>?_))
       refine WT_frP 3 [0, 1] h4 ?_
       intro H q
       ((repeat' first|refine aw ?_|refine bw (fun _=>?_) fun _=>?_))
       exact WT_epan rfl
     · rw [h3]
       show SatO _ _ _ (outS l ns (if false = true ∧ es.length ≠ 2 then .bad else .ok (.task false to f es) (l.drop k1)))
       rw [if_neg (by rintro ⟨q, _⟩; cases q)]
       show SatE _ _ _ _ (.d (I ((ns.length + (Stm.task false to f es).sz - 1 : Nat)))) (rdN l (l.length - (l.drop k1).length) (ns ++ (Stm.task false to f es).flat ns.length))
       rw [len_drop hk1]
       have hp := put_ok l k1 (ns ++ es.flat ns.length) (ns ++ (Stm.task false to f es).flat ns.length) ⟨10, 0, to, f, es.places ns.length⟩ (by simp [Stm.flat]) (ns.length + (Stm.task false to f es).sz - 1) (by simp [Stm.sz, Exs.flat_len]) (by simp [Exs.flat_len]; omega)
       have hp : SatE P0 n_parse_reader_put [.ptr 0 0, .agg [.d (I 10), .d (I 0), .d (.str to), .d (.str f), .d (es.argD ns.length)]] (rdN l k1 (ns ++ es.flat ns.length)) (.d (I ((ns.length + (Stm.task false to f es).sz - 1 : Nat)))) (rdN l k1 (ns ++ (Stm.task false to f es).flat ns.length)) := hp
       clear h0
       rcases argD_form es ns.length with e | e
       all_goals
         rw [e] at hp h4
         refine SatE_by is_parse_reader_child rfl ?_
         ((repeat' first|refine aw ?_|refine bw (fun _=>?_) fun _=>?_))
         refine WT_frE 2 [0, 1] hv ?_
         ((repeat' first|refine aw ?_|refine bw (fun _=>?_) fun _=>?_))
         refine WT_frE 2 [0, 1] h2 ?_
         ((repeat' first|refine aw ?_|refine bw (fun _=>?_) fun _=>?_))
         refine WT_frE 3 [0, 1] h4 ?_
         ((repeat' first|refine aw ?_|refine bw (fun _=>?_) fun _=>?_))
         refine WT_frE 3 [0, 1] hp ?_
         ((repeat' first|refine aw ?_|refine bw (fun _=>?_) fun _=>?_))
         exact WT_eret 2 rfl rfl (by exact Uw.wW)
 · rw [if_neg h0, decide_eq_false h0] at hv
   rw [if_neg h0]
   by_cases hp0 : hd (l.drop k) = sPar
   · have hlt := hd_lt hp0 (by decide)
     have w0 := s_parse_reader_want l k (ns.map nodL) hk hl sPar (by decide) hp0
     rw [want, if_pos hp0, List.tail_drop]
     show SatO _ _ _ (outS l ns ((pName (l.drop (k + 1))).bind _))
     rcases name_cases l (k + 1) (ns.map nodL) hlt hl with ⟨h1, h2⟩ | ⟨f, h1, hlt1, h2⟩
     · rw [h1]
       clear h0 hp0
       refine SatP_by is_parse_reader_child rfl ?_
       ((repeat' first|refine aw ?_|refine bw (fun _=>?_) fun _=>?_))
       refine WT_frE 2 [0, 1] hv ?_
       ((repeat' first|refine aw ?_|refine bw (fun _=>?_) fun _=>?_))
       refine WT_frE 2 [0, 1] w0 ?_
       ((repeat' first|refine aw ?_|refine bw (fun _=>?_) fun _=>?_))
       refine WT_frP 2 [0, 1] h2 ?_
       intro H q
       ((repeat' first|refine aw ?_|refine bw (fun _=>?_) fun _=>?_))
       exact WT_epan rfl
     · rw [h1]
       show SatO _ _ _ (outS l ns ((pArgs n (l.drop (k + 1 + 1))).bind _))
       rcases useA ((ce l hl n n (Nat.le_refl _)).args (k + 1 + 1) ns (by omega) (by omega)) (by omega) (fun e r h => (suf_e n).args _ _ _ h) with h3 | ⟨h3, h4⟩ | ⟨es, k1, h3, hk1, hk1', h4⟩
       · rw [h3]; exact trivial
       · rw [h3]
         clear h0 hp0
         refine SatP_by is_parse_reader_child rfl ?_
         ((repeat' first|refine aw ?_|refine bw (fun _=>?_) fun _=>?_))
         refine WT_frE 2 [0, 1] hv ?_
         ((repeat' first|refine aw ?_|refine bw (fun _=>?_) fun _=>?_))
         refine WT_frE 2 [0, 1] w0 ?_
         ((repeat' first|refine aw ?_|refine bw (fun _=>?_) fun _=>?_))
         refine WT_frE 2 [0, 1] h2 ?_
         ((repeat' first|refine aw ?_|refine bw (fun _=>?_) fun _=>?_))
         refine WT_frP 3 [0, 1] h4 ?_
         intro H q
         ((repeat' first|refine aw ?_|refine bw (fun _=>?_) fun _=>?_))
         exact WT_epan rfl
       · rw [h3]
         show SatO _ _ _ (outS l ns (if true = true ∧ es.length ≠ 2 then .bad else .ok (.task true to f es) (l.drop k1)))
         have hlen : (rowN (es.places ns.length)).length = es.length := by rw [rowN, List.length_map, places_len]
         by_cases h2' : es.length = 2
         · rw [if_neg (by rintro ⟨_, q⟩; exact q h2')]
           show SatE _ _ _ _ (.d (I ((ns.length + (Stm.task true to f es).sz - 1 : Nat)))) (rdN l (l.length - (l.drop k1).length) (ns ++ (Stm.task true to f es).flat ns.length))
           rw [len_drop hk1]
           have hp := put_ok l k1 (ns ++ es.flat ns.length) (ns ++ (Stm.task true to f es).flat ns.length) ⟨11, 0, to, f, es.places ns.length⟩ (by simp [Stm.flat]) (ns.length + (Stm.task true to f es).sz - 1) (by simp [Stm.sz, Exs.flat_len]) (by simp [Exs.flat_len]; omega)
           have hp : SatE P0 n_parse_reader_put [.ptr 0 0, .agg [.d (I 11), .d (I 0), .d (.str to), .d (.str f), .d (es.argD ns.length)]] (rdN l k1 (ns ++ es.flat ns.length)) (.d (I ((ns.length + (Stm.task true to f es).sz - 1 : Nat)))) (rdN l k1 (ns ++ (Stm.task true to f es).flat ns.length)) := hp
           have e : es.argD ns.length = .slice 1 (rowN (es.places ns.length)) false := by
             rcases argD_form es ns.length with e | e
             · exfalso
               have hne : es.places ns.length ≠ [] := by intro h; have := places_len es ns.length; rw [h] at this; simp at this; omega
               unfold Exs.argD ofD at e
               rw [if_neg (by omega), if_pos (by omega), if_neg hne] at e
               cases e
             · exact e
           rw [e] at hp h4
           clear h0 hp0
           refine SatE_by is_parse_reader_child rfl ?_
           ((repeat' first|refine aw ?_|refine bw (fun _=>?_) fun _=>?_))
           refine WT_frE 2 [0, 1] hv ?_
           ((repeat' first|refine aw ?_|refine bw (fun _=>?_) fun _=>?_))
           refine WT_frE 2 [0, 1] w0 ?_
           ((repeat' first|refine aw ?_|refine bw (fun _=>?_) fun _=>?_))
           refine WT_frE 2 [0, 1] h2 ?_
           ((repeat' first|refine aw ?_|refine bw (fun _=>?_) fun _=>?_))
           refine WT_frE 3 [0, 1] h4 ?_
           ((repeat' first|refine aw ?_|refine bw (fun _=>?_) fun _=>?_))
           refine WT_frE 3 [0, 1] hp ?_
           ((repeat' first|refine aw ?_|refine bw (fun _=>?_) fun _=>?_))
           exact WT_eret 2 rfl rfl (by exact Uw.wW)
         · rw [if_pos ⟨rfl, h2'⟩]
           clear h0 hp0
           rcases argD_form es ns.length with e | e
           all_goals
             rw [e] at h4
             refine SatP_by is_parse_reader_child rfl ?_
             ((repeat' first|refine aw ?_|refine bw (fun _=>?_) fun _=>?_))
             refine WT_frE 2 [0, 1] hv ?_
             ((repeat' first|refine aw ?_|refine bw (fun _=>?_) fun _=>?_))
             refine WT_frE 2 [0, 1] w0 ?_
             ((repeat' first|refine aw ?_|refine bw (fun _=>?_) fun _=>?_))
             refine WT_frE 2 [0, 1] h2 ?_
             ((repeat' first|refine aw ?_|refine bw (fun _=>?_) fun _=>?_))
             refine WT_frE 3 [0, 1] h4 ?_
             ((repeat' first|refine aw ?_|refine bw (fun _=>?_) fun _=>?_))
             exact WT_epan rfl
   · have w0 := p_parse_reader_want l k (ns.map nodL) hk hl sPar (by decide) hp0
     rw [want, if_neg hp0]
     clear h0 hp0
     refine SatP_by is_parse_reader_child rfl ?_
     ((repeat' first|refine aw ?_|refine bw (fun _=>?_) fun _=>?_))
     refine WT_frE 2 [0, 1] hv ?_
     ((repeat' first|refine aw ?_|refine bw (fun _=>?_) fun _=>?_))
     refine WT_frP 2 [0, 1] w0 ?_
     intro H q
     ((repeat' first|refine aw ?_|refine bw (fun _=>?_) fun _=>?_))
     exact WT_epan rfl
end Uw.Tryd
namespace Uw.Tryd
open Go Uw
theorem put_one (l : List Tok) (k : Nat) (ns : List Nod) (K : Int) (s : Str) (e : Ex) (ms : List Nod) (hms : ms = ns ++ e.flat ns.length ++ [⟨K, 0, s, [], [ns.length + e.sz - 1]⟩]) (p : Nat) (hp : p = ns.length + e.sz) (hx : (ns ++ e.flat ns.length).length < 1000000) (hK : K = 9 ∨ K = 15 ∨ K = 16 ∨ K = 17) :
   SatE P0 n_parse_reader_put [.ptr 0 0, .agg [.d (I K), .d (I 0), .d (.str s), .d (.str []), .d (.slice 1 [[I ((ns.length + e.sz - 1 : Nat))]] true)]] (rdN l k (ns ++ e.flat ns.length)) (.d (I p)) (rdN l k ms) := by
 have := put_ok l k _ _ _ hms p (by rw [hp]; simp [Ex.flat_len]) hx
 have e : ofD K [ns.length + e.sz - 1] = .slice 1 [[I ((ns.length + e.sz - 1 : Nat))]] true := by
   unfold ofD
   rw [if_neg (by omega), if_neg (by omega), if_neg (by omega)]
   rfl
 simp only [e] at this
 exact this
theorem c_one (l : List Tok) (hl : l.length < 1000000) (n : Nat) (K : Int) (hK : K = 15 ∨ K = 16) (k : Nat) (ns : List Nod) (hk : k < l.length) (hn : ns.length ≤ k) : SatO n_parse_reader_one [.ptr 0 0, .d (I K)] (rdN l k ns) (outS l ns ((pExpr n (l.drop (k + 1))).bind fun e r => .ok (.one K e) r)) := by
 rcases useE ((ce l hl n n (Nat.le_refl _)).expr (k + 1) ns hk (by omega)) hk (fun e r h => (suf_e n).expr _ _ _ h) with h2 | ⟨h2, h3⟩ | ⟨e, k1, h2, hk1, hk1', h3⟩
 · rw [h2]; exact trivial
 · rw [h2]
   refine SatP_by is_parse_reader_one rfl ?_
   ((repeat' first|refine aw ?_|refine bw (fun _=>?_) fun _=>?_))
   refine WT_frP 2 [0, 1] h3 ?_
   intro H q
   ((repeat' first|refine aw ?_|refine bw (fun _=>?_) fun _=>?_))
   exact WT_epan rfl
 · rw [h2]
   have hz : (Stm.one K e).sz = e.sz + 1 := rfl
   have hp := put_one l k1 ns K [] e (ns ++ (Stm.one K e).flat ns.length) (by simp [Stm.flat]) (ns.length + (Stm.one K e).sz - 1) (by omega) (by simp [Ex.flat_len]; omega) (by omega)
   show SatE _ _ _ _ (.d (I ((ns.length + (Stm.one K e).sz - 1 : Nat)))) (rdN l (l.length - (l.drop k1).length) _)
   rw [len_drop hk1]
   refine SatE_by is_parse_reader_one rfl ?_
   ((repeat' first|refine aw ?_|refine bw (fun _=>?_) fun _=>?_))
   refine WT_frE 2 [0, 1] h3 ?_
   ((repeat' first|refine aw ?_|refine bw (fun _=>?_) fun _=>?_))
   refine WT_frE 2 [0, 1] hp ?_
   ((repeat' first|refine aw ?_|refine bw (fun _=>?_) fun _=>?_))
   exact WT_eret 2 rfl rfl (by exact Uw.wW)
theorem c_simple (l : List Tok) (hl : l.length < 1000000) (n : Nat) (k : Nat) (ns : List Nod) (hk : k ≤ l.length) (hn : ns.length ≤ k) : SatO n_parse_reader_simple [.ptr 0 0] (rdN l k ns) (outS l ns (pSimple n (l.drop k))) := by
 rw [pSimple]
 have pk := s_parse_reader_peek l k (ns.map nodL) hk
 by_cases h0 : hd (l.drop k) = sSpawn ∨ hd (l.drop k) = sPar
 · rw [if_pos h0]
   rcases useS (c_child l hl n [] k ns hk hn) hk (fun e r h => suf_child h) with h2 | ⟨h2, h3⟩ | ⟨s, k1, h2, hk1, hk1', h3⟩
   · rw [h2]; exact trivial
   · rw [h2]
     rcases h0 with h0 | h0
     all_goals
       rw [h0] at pk
       clear h0
       refine SatP_by is_parse_reader_simple rfl ?_
       ((repeat' first|refine aw ?_|refine bw (fun _=>?_) fun _=>?_))
       refine WT_frE 2 [0, 1] pk ?_
       ((repeat' first|refine aw ?_|refine bw (fun _=>?_) fun _=>?_))
       refine WT_frP 2 [0, 1] h3 ?_
       intro H q
       ((repeat' first|refine aw ?_|refine bw (fun _=>?_) fun _=>?_))
       exact WT_epan rfl
   · rw [h2]
     show SatE _ _ _ _ (.d (I ((ns.length + s.sz - 1 : Nat)))) (rdN l (l.length - (l.drop k1).length) _)
     rw [len_drop hk1]
     rcases h0 with h0 | h0
     all_goals
       rw [h0] at pk
       clear h0
       refine SatE_by is_parse_reader_simple rfl ?_
       ((repeat' first|refine aw ?_|refine bw (fun _=>?_) fun _=>?_))
       refine WT_frE 2 [0, 1] pk ?_
       ((repeat' first|refine aw ?_|refine bw (fun _=>?_) fun _=>?_))
       refine WT_frE 2 [0, 1] h3 ?_
       ((repeat' first|refine aw ?_|refine bw (fun _=>?_) fun _=>?_))
       exact WT_eret 2 rfl rfl (by exact Uw.wW)
 · rw [if_neg h0]
   by_cases h1 : hd (l.drop k) = sSync
   · have hlt := hd_lt h1 (by decide)
     rw [if_pos h1, List.tail_drop]
     have w0 := s_parse_reader_want l k (ns.map nodL) hk hl sSync (by decide) h1
     rw [h1] at pk
     have hp := put_ok l (k + 1) ns (ns ++ (Stm.sync).flat ns.length) ⟨12, 0, [], [], []⟩ rfl (ns.length + (Stm.sync).sz - 1) (by simp [Stm.sz]) (by omega)
     have hp : SatE P0 n_parse_reader_put [.ptr 0 0, .agg [.d (I 12), .d (I 0), .d (.str []), .d (.str []), .d .nil]] (rdN l (k + 1) ns) (.d (I ((ns.length + (Stm.sync).sz - 1 : Nat)))) (rdN l (k + 1) (ns ++ (Stm.sync).flat ns.length)) := hp
     show SatE _ _ _ _ (.d (I ((ns.length + (Stm.sync).sz - 1 : Nat)))) (rdN l (l.length - (l.drop (k + 1)).length) _)
     rw [len_drop hlt]
     clear h0 h1
     refine SatE_by is_parse_reader_simple rfl ?_
     ((repeat' first|refine aw ?_|refine bw (fun _=>?_) fun _=>?_))
     refine WT_frE 2 [0, 1] pk ?_
     ((repeat' first|refine aw ?_|refine bw (fun _=>?_) fun _=>?_))
     refine WT_frE 2 [0, 1] w0 ?_
     ((repeat' first|refine aw ?_|refine bw (fun _=>?_) fun _=>?_))
     refine WT_frE 2 [0, 1] hp ?_
     ((repeat' first|refine aw ?_|refine bw (fun _=>?_) fun _=>?_))
     exact WT_eret 2 rfl rfl (by exact Uw.wW)
   · rw [if_neg h1]
     have one : ∀ (K : Int) (w : Str), (K = 15 ∧ w = sReturn) ∨ (K = 16 ∧ w = sAssert) → hd (l.drop k) = w → SatO n_parse_reader_simple [.ptr 0 0] (rdN l k ns) (outS l ns ((pExpr n (l.drop (k + 1))).bind fun e r => .ok (.one K e) r)) := by
       intro K w hw hh
       have hlt := hd_lt hh (by rcases hw with ⟨_, rfl⟩ | ⟨_, rfl⟩ <;> decide)
       rw [hh] at pk
       clear h0 h1 hh
       rcases useS (c_one l hl n K (by omega) k ns hlt hn) hk (fun e r h => by
         obtain ⟨e1, r1, h1, h2⟩ := bind_ok.1 h
         injection h2 with e2 e3
         subst e2 e3
         have := (suf_e n).expr _ _ _ h1
         obtain ⟨j, j1, j2, j3⟩ := this
         simp at j1
         exact ⟨j + 1, by simp; omega, by rw [j2, List.drop_drop, List.drop_drop]; congr 1; omega, by rw [Stm.sz]; omega⟩) with h2 | ⟨h2, h3⟩ | ⟨s, k1, h2, hk1, hk1', h3⟩
       · rw [h2]; exact trivial
       · rw [h2]
         rcases hw with ⟨rfl, rfl⟩ | ⟨rfl, rfl⟩
         all_goals
           refine SatP_by is_parse_reader_simple rfl ?_
           ((repeat' first|refine aw ?_|refine bw (fun _=>?_) fun _=>?_))
           refine WT_frE 2 [0, 1] pk ?_
           ((repeat' first|refine aw ?_|refine bw (fun _=>?_) fun _=>?_))
           refine WT_frP 2 [0, 1] h3 ?_
           intro H q
           ((repeat' first|refine aw ?_|refine bw (fun _=>?_) fun _=>?_))
           exact WT_epan rfl
       · rw [h2]
         show SatE _ _ _ _ (.d (I ((ns.length + s.sz - 1 : Nat)))) (rdN l (l.length - (l.drop k1).length) _)
         rw [len_drop hk1]
         rcases hw with ⟨rfl, rfl⟩ | ⟨rfl, rfl⟩
         all_goals
           refine SatE_by is_parse_reader_simple rfl ?_
           ((repeat' first|refine aw ?_|refine bw (fun _=>?_) fun _=>?_))
           refine WT_frE 2 [0, 1] pk ?_
           ((repeat' first|refine aw ?_|refine bw (fun _=>?_) fun _=>?_))
           refine WT_frE 2 [0, 1] h3 ?_
           ((repeat' first|refine aw ?_|refine bw (fun _=>?_) fun _=>?_))
           exact WT_eret 2 rfl rfl (by exact Uw.wW)
     by_cases h2 : hd (l.drop k) = sReturn
     · rw [if_pos h2, List.tail_drop]
       exact one 15 _ (.inl ⟨rfl, rfl⟩) h2
     · rw [if_neg h2]
       by_cases h3 : hd (l.drop k) = sAssert
       · rw [if_pos h3, List.tail_drop]
         exact one 16 _ (.inr ⟨rfl, rfl⟩) h3
       · rw [if_neg h3]
         clear one
         generalize hd (l.drop k) = p at *
         have q1 : ¬ p = sSpawn := fun h => h0 (.inl h)
         have q2 : ¬ p = sPar := fun h => h0 (.inr h)
         clear h0
         unfold sSpawn at q1
         unfold sPar at q2
         unfold sSync at h1
         unfold sReturn at h2
         unfold sAssert at h3
         rcases name_cases l k (ns.map nodL) hk hl with ⟨h4, h5⟩ | ⟨s, h4, hlt, h5⟩
         · rw [h4]
           refine SatP_by is_parse_reader_simple rfl ?_
           ((repeat' first|refine aw ?_|refine bw (fun _=>?_) fun _=>?_))
           refine WT_frE 2 [0, 1] pk ?_
           ((repeat' first|refine aw ?_|refine bw (fun _=>?_) fun _=>?_))
           refine WT_frP 2 [0, 1] h5 ?_
           intro H q
           ((repeat' first|refine aw ?_|refine bw (fun _=>?_) fun _=>?_))
           exact WT_epan rfl
         · rw [h4]
           clear h4
           have pk2 := s_parse_reader_peek l (k + 1) (ns.map nodL) hlt
           show SatO _ _ _ (outS l ns (if hd (l.drop (k + 1)) = [46] then _ else _))
           by_cases h6 : hd (l.drop (k + 1)) = [46]
           · rw [if_pos h6]
             rw [h6] at pk2
             clear h6
             rcases useC ((ce l hl n n (Nat.le_refl _)).call s (k + 1) ns hlt (by omega)) hlt (fun e r h => (suf_e n).call _ _ _ _ h) with h7 | ⟨h7, h8⟩ | ⟨v, es, k1, h7, hk1, hk1', h8⟩
             · rw [h7]; exact trivial
             · rw [h7]
               refine SatP_by is_parse_reader_simple rfl ?_
               ((repeat' first|refine aw ?_|refine bw (fun _=>?_) fun _=>?_))
               refine WT_frE 2 [0, 1] pk ?_
               ((repeat' first|refine aw ?_|refine bw (fun _=>?_) fun _=>?_))
               refine WT_frE 2 [0, 1] h5 ?_
               ((repeat' first|refine aw ?_|refine bw (fun _=>?_) fun _=>?_))
               refine WT_frE 2 [0, 1] pk2 ?_
               ((repeat' first|refine aw ?_|refine bw (fun _=>?_) fun _=>?_))
               refine WT_frP 2 [0, 1] h8 ?_
               intro H q
               ((repeat' first|refine aw ?_|refine bw (fun _=>?_) fun _=>?_))
               exact WT_epan rfl
             · rw [h7]
               show SatE _ _ _ _ (.d (I ((ns.length + (Stm.act s v es).sz - 1 : Nat)))) (rdN l (l.length - (l.drop k1).length) (ns ++ (Stm.act s v es).flat ns.length))
               rw [len_drop hk1]
               have hz : (Ex.call s v es).sz = es.sz + 1 := rfl
               have hp := put_one l k1 ns 17 [] (.call s v es) (ns ++ (Stm.act s v es).flat ns.length) (by simp [Stm.flat, Ex.flat, Ex.sz]; try omega) (ns.length + (Stm.act s v es).sz - 1) (by simp [Stm.sz, Ex.sz]; try omega) (by simp [Ex.flat_len]; omega) (by omega)
               refine SatE_by is_parse_reader_simple rfl ?_
               ((repeat' first|refine aw ?_|refine bw (fun _=>?_) fun _=>?_))
               refine WT_frE 2 [0, 1] pk ?_
               ((repeat' first|refine aw ?_|refine bw (fun _=>?_) fun _=>?_))
               refine WT_frE 2 [0, 1] h5 ?_
               ((repeat' first|refine aw ?_|refine bw (fun _=>?_) fun _=>?_))
               refine WT_frE 2 [0, 1] pk2 ?_
               ((repeat' first|refine aw ?_|refine bw (fun _=>?_) fun _=>?_))
               refine WT_frE 2 [0, 1] h8 ?_
               ((repeat' first|refine aw ?_|refine bw (fun _=>?_) fun _=>?_))
               refine WT_frE 2 [0, 1] hp ?_
               ((repeat' first|refine aw ?_|refine bw (fun _=>?_) fun _=>?_))
               exact WT_eret 2 rfl rfl (by exact Uw.wW)
           · rw [if_neg h6]
             by_cases h7 : hd (l.drop (k + 1)) = [61]
             · have hlt2 := hd_lt h7 (by simp)
               have w1 := s_parse_reader_want l (k + 1) (ns.map nodL) hlt hl [61] (by simp) h7
               rw [want, if_pos h7, List.tail_drop]
               rw [h7] at pk2
               clear h6 h7
               have pk3 := s_parse_reader_peek l (k + 1 + 1) (ns.map nodL) hlt2
               show SatO _ _ _ (outS l ns (if hd (l.drop (k + 1 + 1)) = sSpawn ∨ hd (l.drop (k + 1 + 1)) = sPar then _ else _))
               by_cases h8 : hd (l.drop (k + 1 + 1)) = sSpawn ∨ hd (l.drop (k + 1 + 1)) = sPar
               · rw [if_pos h8]
                 rcases useS (c_child l hl n s (k + 1 + 1) ns hlt2 (by omega)) hlt2 (fun e r h => suf_child h) with h9 | ⟨h9, h10⟩ | ⟨s2, k1, h9, hk1, hk1', h10⟩
                 · rw [h9]; exact trivial
                 · rw [h9]
                   rcases h8 with h8 | h8
                   · rw [h8] at pk3
                     clear h8
                     refine SatP_by is_parse_reader_simple rfl ?_
                     ((repeat' first|refine aw ?_|refine bw (fun _=>?_) fun _=>?_))
                     refine WT_frE 2 [0, 1] pk ?_
                     ((repeat' first|refine aw ?_|refine bw (fun _=>?_) fun _=>?_))
                     refine WT_frE 2 [0, 1] h5 ?_
                     ((repeat' first|refine aw ?_|refine bw (fun _=>?_) fun _=>?_))
                     refine WT_frE 2 [0, 1] pk2 ?_
                     ((repeat' first|refine aw ?_|refine bw (fun _=>?_) fun _=>?_))
                     refine WT_frE 2 [0, 1] w1 ?_
                     ((repeat' first|refine aw ?_|refine bw (fun _=>?_) fun _=>?_))
                     refine WT_frE 2 [0, 1] pk3 ?_
                     ((repeat' first|refine aw ?_|refine bw (fun _=>?_) fun _=>?_))
                     refine WT_frP 2 [0, 1] h10 ?_
                     intro H q
                     ((repeat' first|refine aw ?_|refine bw (fun _=>?_) fun _=>?_))
                     exact WT_epan rfl
                   · rw [h8] at pk3
                     clear h8
                     refine SatP_by is_parse_reader_simple rfl ?_
                     ((repeat' first|refine aw ?_|refine bw (fun _=>?_) fun _=>?_))
                     refine WT_frE 2 [0, 1] pk ?_
                     ((repeat' first|refine aw ?_|refine bw (fun _=>?_) fun _=>?_))
                     refine WT_frE 2 [0, 1] h5 ?_
                     ((repeat' first|refine aw ?_|refine bw (fun _=>?_) fun _=>?_))
                     refine WT_frE 2 [0, 1] pk2 ?_
                     ((repeat' first|refine aw ?_|refine bw (fun _=>?_) fun _=>?_))
                     refine WT_frE 2 [0, 1] w1 ?_
                     ((repeat' first|refine aw ?_|refine bw (fun _=>?_) fun _=>?_))
                     refine WT_frE 2 [0, 1] pk3 ?_
                     ((repeat' first|refine aw ?_|refine bw (fun _=>?_) fun _=>?_))
                     refine WT_frE 2 [0, 1] pk3 ?_
                     ((repeat' first|refine aw ?_|refine bw (fun _=>?_) fun _=>?_))
                     refine WT_frP 2 [0, 1] h10 ?_
                     intro H q
                     ((repeat' first|refine aw ?_|refine bw (fun _=>?_) fun _=>?_))
                     exact WT_epan rfl
                 · rw [h9]
                   show SatE _ _ _ _ (.d (I ((ns.length + s2.sz - 1 : Nat)))) (rdN l (l.length - (l.drop k1).length) _)
                   rw [len_drop hk1]
                   rcases h8 with h8 | h8
                   · rw [h8] at pk3
                     clear h8
                     refine SatE_by is_parse_reader_simple rfl ?_
                     ((repeat' first|refine aw ?_|refine bw (fun _=>?_) fun _=>?_))
                     refine WT_frE 2 [0, 1] pk ?_
                     ((repeat' first|refine aw ?_|refine bw (fun _=>?_) fun _=>?_))
                     refine WT_frE 2 [0, 1] h5 ?_
                     ((repeat' first|refine aw ?_|refine bw (fun _=>?_) fun _=>?_))
                     refine WT_frE 2 [0, 1] pk2 ?_
                     ((repeat' first|refine aw ?_|refine bw (fun _=>?_) fun _=>?_))
                     refine WT_frE 2 [0, 1] w1 ?_
                     ((repeat' first|refine aw ?_|refine bw (fun _=>?_) fun _=>?_))
                     refine WT_frE 2 [0, 1] pk3 ?_
                     ((repeat' first|refine aw ?_|refine bw (fun _=>?_) fun _=>?_))
                     refine WT_frE 2 [0, 1] h10 ?_
                     ((repeat' first|refine aw ?_|refine bw (fun _=>?_) fun _=>?_))
                     exact WT_eret 2 rfl rfl (by exact Uw.wW)
                   · rw [h8] at pk3
                     clear h8
                     refine SatE_by is_parse_reader_simple rfl ?_
                     ((repeat' first|refine aw ?_|refine bw (fun _=>?_) fun _=>?_))
                     refine WT_frE 2 [0, 1] pk ?_
                     ((repeat' first|refine aw ?_|refine bw (fun _=>?_) fun _=>?_))
                     refine WT_frE 2 [0, 1] h5 ?_
                     ((repeat' first|refine aw ?_|refine bw (fun _=>?_) fun _=>?_))
                     refine WT_frE 2 [0, 1] pk2 ?_
                     ((repeat' first|refine aw ?_|refine bw (fun _=>?_) fun _=>?_))
                     refine WT_frE 2 [0, 1] w1 ?_
                     ((repeat' first|refine aw ?_|refine bw (fun _=>?_) fun _=>?_))
                     refine WT_frE 2 [0, 1] pk3 ?_
                     ((repeat' first|refine aw ?_|refine bw (fun _=>?_) fun _=>?_))
                     refine WT_frE 2 [0, 1] pk3 ?_
                     ((repeat' first|refine aw ?_|refine bw (fun _=>?_) fun _=>?_))
                     refine WT_frE 2 [0, 1] h10 ?_
                     ((repeat' first|refine aw ?_|refine bw (fun _=>?_) fun _=>?_))
                     exact WT_eret 2 rfl rfl (by exact Uw.wW)
               · rw [if_neg h8]
                 generalize hd (l.drop (k + 1 + 1)) = p3 at *
                 have q3 : ¬ p3 = sSpawn := fun h => h8 (.inl h)
                 have q4 : ¬ p3 = sPar := fun h => h8 (.inr h)
                 clear h8
                 unfold sSpawn at q3
                 unfold sPar at q4
                 rcases useE ((ce l hl n n (Nat.le_refl _)).expr (k + 1 + 1) ns hlt2 (by omega)) hlt2 (fun e r h => (suf_e n).expr _ _ _ h) with h9 | ⟨h9, h10⟩ | ⟨e, k1, h9, hk1, hk1', h10⟩
                 · rw [h9]; exact trivial
                 · rw [h9]
                   refine SatP_by is_parse_reader_simple rfl ?_
                   ((repeat' first|refine aw ?_|refine bw (fun _=>?_) fun _=>?_))
                   refine WT_frE 2 [0, 1] pk ?_
                   ((repeat' first|refine aw ?_|refine bw (fun _=>?_) fun _=>?_))
                   refine WT_frE 2 [0, 1] h5 ?_
                   ((repeat' first|refine aw ?_|refine bw (fun _=>?_) fun _=>?_))
                   refine WT_frE 2 [0, 1] pk2 ?_
                   ((repeat' first|refine aw ?_|refine bw (fun _=>?_) fun _=>?_))
                   refine WT_frE 2 [0, 1] w1 ?_
                   ((repeat' first|refine aw ?_|refine bw (fun _=>?_) fun _=>?_))
                   refine WT_frE 2 [0, 1] pk3 ?_
                   ((repeat' first|refine aw ?_|refine bw (fun _=>?_) fun _=>?_))
                   refine WT_frE 2 [0, 1] pk3 ?_
                   ((repeat' first|refine aw ?_|refine bw (fun _=>?_) fun _=>?_))
                   refine WT_frP 2 [0, 1] h10 ?_
                   intro H q
                   ((repeat' first|refine aw ?_|refine bw (fun _=>?_) fun _=>?_))
                   exact WT_epan rfl
                 · rw [h9]
                   have hz : (Stm.set s e).sz = e.sz + 1 := rfl
                   have hp := put_one l k1 ns 9 s e (ns ++ (Stm.set s e).flat ns.length) (by simp [Stm.flat]) (ns.length + (Stm.set s e).sz - 1) (by omega) (by simp [Ex.flat_len]; omega) (by omega)
                   show SatE _ _ _ _ (.d (I ((ns.length + (Stm.set s e).sz - 1 : Nat)))) (rdN l (l.length - (l.drop k1).length) _)
                   rw [len_drop hk1]
                   refine SatE_by is_parse_reader_simple rfl ?_
                   ((repeat' first|refine aw ?_|refine bw (fun _=>?_) fun _=>?_))
                   refine WT_frE 2 [0, 1] pk ?_
                   ((repeat' first|refine aw ?_|refine bw (fun _=>?_) fun _=>?_))
                   refine WT_frE 2 [0, 1] h5 ?_
                   ((repeat' first|refine aw ?_|refine bw (fun _=>?_) fun _=>?_))
                   refine WT_frE 2 [0, 1] pk2 ?_
                   ((repeat' first|refine aw ?_|refine bw (fun _=>?_) fun _=>?_))
                   refine WT_frE 2 [0, 1] w1 ?_
                   ((repeat' first|refine aw ?_|refine bw (fun _=>?_) fun _=>?_))
                   refine WT_frE 2 [0, 1] pk3 ?_
                   ((repeat' first|refine aw ?_|refine bw (fun _=>?_) fun _=>?_))
                   refine WT_frE 2 [0, 1] pk3 ?_
                   ((repeat' first|refine aw ?_|refine bw (fun _=>?_) fun _=>?_))
                   refine WT_frE 2 [0, 1] h10 ?_
                   ((repeat' first|refine aw ?_|refine bw (fun _=>?_) fun _=>?_))
                   refine WT_frE 2 [0, 1] hp ?_
                   ((repeat' first|refine aw ?_|refine bw (fun _=>?_) fun _=>?_))
                   exact WT_eret 2 rfl rfl (by exact Uw.wW)
             · have w1 := p_parse_reader_want l (k + 1) (ns.map nodL) hlt hl [61] (by simp) h7
               rw [want, if_neg h7]
               generalize hd (l.drop (k + 1)) = p2 at *
               clear h7
               refine SatP_by is_parse_reader_simple rfl ?_
               ((repeat' first|refine aw ?_|refine bw (fun _=>?_) fun _=>?_))
               refine WT_frE 2 [0, 1] pk ?_
               ((repeat' first|refine aw ?_|refine bw (fun _=>?_) fun _=>?_))
               refine WT_frE 2 [0, 1] h5 ?_
               ((repeat' first|refine aw ?_|refine bw (fun _=>?_) fun _=>?_))
               refine WT_frE 2 [0, 1] pk2 ?_
               ((repeat' first|refine aw ?_|refine bw (fun _=>?_) fun _=>?_))
               refine WT_frP 2 [0, 1] w1 ?_
               intro H q
               ((repeat' first|refine aw ?_|refine bw (fun _=>?_) fun _=>?_))
               exact WT_epan rfl
end Uw.Tryd
