/- Na: Pi Pj Pk Pl Pm Pn Pn2 (merged by merge2.py from the working texts). -/
import Derived.Test.YtlnfojhdicbgiaaDoorN9
set_option maxRecDepth 4000
set_option maxHeartbeats 2000000
set_option linter.unusedSimpArgs false
set_option linter.unnecessarySimpa false
set_option linter.unusedVariables false
set_option linter.unusedSectionVars false
namespace Uw.Tryd
open Go Uw
theorem put_row (l : List Tok) (k : Nat) (ns ms : List Nod) (nd : Nod) (hms : ms = ns ++ [nd]) (p : Nat) (hp : p = ns.length) (hx : ns.length < 1000000) (hof : ofD nd.kind nd.of = .slice 1 (rowN nd.of) false) :
   SatE P0 n_parse_reader_put [.ptr 0 0, .agg [.d (I nd.kind), .d (I nd.n), .d (.str nd.name), .d (.str nd.name2), .ref 2 0 0 (rowN nd.of).length]] (rdN l k ns ++ [.arr 1 (rowN nd.of)]) (.d (I p)) (rdN l k ms ++ [.arr 1 (rowN nd.of)]) := by
 subst hms hp
 obtain ⟨a, b, c, d, of⟩ := nd
 simp only at hof ⊢
 have e : (ns ++ [(⟨a, b, c, d, of⟩ : Nod)]).map nodL = ns.map nodL ++ [[I a, I b, .str c, .str d, .slice 1 (rowN of) false]] := by simp [nodL, hof]
 have hxs : (ns.map nodL).length < 1000000 := by simpa using hx
 have hxe : (ns.map nodL).length = ns.length := by simp
 have hfz : ((rowN of).drop 0).take (rowN of).length = rowN of := by simp
 rw [rdN, rdN, e]
 generalize ns.map nodL = xs at *
 generalize rowN of = ys at *
 have e2 : xs ++ [[I a, I b, .str c, .str d, .slice 1 ((ys.drop 0).take ys.length) false]] = xs ++ [[I a, I b, .str c, .str d, .slice 1 ys false]] := by rw [hfz]
 refine SatE_by is_parse_reader_put rfl ?_
 ((repeat' first|refine aw ?_|refine bw (fun _=>?_) fun _=>?_))
 refine WT_draw ⟨[(0, .ptr 0 0)], [(0, .var [.d (toksD l), .d (I k), .ref 1 0 0 (xs.length + 1)]), (1, .arr 5 (xs ++ [[I a, I b, .str c, .str d, .slice 1 ys false]])), (2, .arr 1 ys)], 4, [], 3⟩ ?_ ?_
 · ((repeat' first|refine aw ?_|refine bw (fun _=>?_) fun _=>?_))
   exact WT_done (.inl ⟨rfl, by exact Uw.wW⟩)
 · ((repeat' first|refine aw ?_|refine bw (fun _=>?_) fun _=>?_))
   exact WT_eret 3 rfl rfl (by exact Uw.wW)
def outB (l : List Tok) (ns : List Nod) (x : R Bl) : Out :=
 match x with
 | .ok s r => .ok (.d (I ((ns.length + s.sz : Nat)))) (rdN l (l.length - r.length) (ns ++ s.all ns.length))
 | .bad => .bad
 | .out => .out
theorem outB_ne {l : List Tok} {ns : List Nod} {x : R Bl} (h : x ≠ R.out) : outB l ns x ≠ Out.out := by
 cases x with
 | out => exact absurd rfl h
 | bad => intro h; cases h
 | ok e r => intro h; cases h
theorem useB {f : FuncId} {vs : List V} {l : List Tok} {k : Nat} {ns : List Nod} {x : R Bl} (h : SatO f vs (rdN l k ns) (outB l ns x)) (hk : k ≤ l.length) (hs : ∀ e r, x = .ok e r → Suf (l.drop k) r (e.sz + 1)) :
   x = .out ∨ (x = .bad ∧ SatP P0 f vs (rdN l k ns) wrongD) ∨ ∃ e k', x = .ok e (l.drop k') ∧ k' ≤ l.length ∧ k + (e.sz + 1) ≤ k' ∧ SatE P0 f vs (rdN l k ns) (.d (I ((ns.length + e.sz : Nat)))) (rdN l k' (ns ++ e.all ns.length)) := by
 cases x with
 | out => exact .inl rfl
 | bad => exact .inr (.inl ⟨rfl, h⟩)
 | ok e r =>
   obtain ⟨k', h1, rfl, h2⟩ := suf_at (hs e r rfl) hk
   refine .inr (.inr ⟨e, k', rfl, h1, h2, ?_⟩)
   have h : SatE P0 f vs (rdN l k ns) (.d (I ((ns.length + e.sz : Nat)))) (rdN l (l.length - (l.drop k').length) (ns ++ e.all ns.length)) := h
   rw [len_drop h1] at h
   exact h
structure CS (l : List Tok) (n : Nat) : Prop where
 stmt : ∀ k ns, k ≤ l.length → ns.length ≤ k → SatO n_parse_reader_statement [.ptr 0 0] (rdN l k ns) (outS l ns (pStmt n (l.drop k)))
 block : ∀ k ns, k ≤ l.length → ns.length ≤ k → SatO n_parse_reader_block [.ptr 0 0] (rdN l k ns) (outB l ns (pBlock n (l.drop k)))
def Bl.app : Bl → Bl → Bl
 | .nil, b => b
 | .cons e r, b => .cons e (r.app b)
theorem Bl.app_sz : ∀ (a b : Bl), (a.app b).sz = a.sz + b.sz
 | .nil, b => by simp [Bl.app, Bl.sz]
 | .cons e r, b => by rw [Bl.app, Bl.sz, Bl.sz, Bl.app_sz r b]; omega
theorem Bl.app_flat : ∀ (a b : Bl) (n : Nat), (a.app b).flat n = a.flat n ++ b.flat (n + a.sz)
 | .nil, b, n => by simp [Bl.app, Bl.flat, Bl.sz]
 | .cons e r, b, n => by rw [Bl.app, Bl.flat, Bl.flat, Bl.app_flat r b, Bl.sz, List.append_assoc, Nat.add_assoc]
theorem Bl.app_places : ∀ (a b : Bl) (n : Nat), (a.app b).places n = a.places n ++ b.places (n + a.sz)
 | .nil, b, n => by simp [Bl.app, Bl.places, Bl.sz]
 | .cons e r, b, n => by rw [Bl.app, Bl.places, Bl.places, Bl.app_places r b, Bl.sz, List.cons_append, Nat.add_assoc]
theorem Bl.app_nil : ∀ (a : Bl), a.app .nil = a
 | .nil => rfl
 | .cons e r => by rw [Bl.app, Bl.app_nil r]
theorem Bl.app_assoc : ∀ (a b c : Bl), (a.app b).app c = a.app (b.app c)
 | .nil, b, c => rfl
 | .cons e r, b, c => by rw [Bl.app, Bl.app, Bl.app, Bl.app_assoc r b c]
theorem Bl.places_le : ∀ (d : Bl) (b : Nat), (d.places b).length ≤ d.sz
 | .nil, b => by simp [Bl.places]
 | .cons s r, b => by have := Bl.places_le r (b + s.sz); have := s.sz_pos; simp [Bl.places, Bl.sz]; omega
theorem c_block (l : List Tok) (hl : l.length < 1000000) (n : Nat) (ih : ∀ m, m ≤ n → CS l m) (k : Nat) (ns : List Nod) (hk : k ≤ l.length) (hn : ns.length ≤ k) : SatO n_parse_reader_block [.ptr 0 0] (rdN l k ns) (outB l ns (pBlock (n + 1) (l.drop k))) := by
 rw [pBlock]
 by_cases h0 : hd (l.drop k) = [123]
 · have hlt := hd_lt h0 (by simp)
   have w0 := s_parse_reader_want l k (ns.map nodL) hk hl [123] (by simp) h0
   rw [want, if_pos h0, List.tail_drop]
   show SatO _ _ _ (outB l ns (pStmts n (l.drop (k + 1))))
   by_cases hout : pStmts n (l.drop (k + 1)) = .out
   · rw [hout]; exact trivial
   generalize hR : pStmts n (l.drop (k + 1)) = Rr at hout
   refine SatO_by is_parse_reader_block rfl (outB_ne hout) ?_
   ((repeat' first|refine aw ?_|refine bw (fun _=>?_) fun _=>?_))
   refine WT_frE 2 [0, 1] w0 ?_
   ((repeat' first|refine aw ?_|refine bw (fun _=>?_) fun _=>?_))
   refine WT_loop (fun ((d, k1, m) : Bl × Nat × Nat) => ⟨[(3, .ref 2 0 0 (rowN (d.places ns.length)).length), (0, .ptr 0 0)], heapOf 0 (rdN l k1 (ns ++ d.flat ns.length) ++ [.arr 1 (rowN (d.places ns.length))]), 3, [], 2⟩)
     (fun (d, k1, m) => (pStmts m (l.drop k1)).bind (fun es r => R.ok (d.app es) r) = Rr ∧ m ≤ n ∧ k1 ≤ l.length ∧ k + d.sz + 1 ≤ k1) (fun (_, _, m) => m) (.nil, k + 1, n) (by
       have e : ns = ns ++ Bl.nil.flat ns.length := by simp [Bl.flat]
       have e1 : (ns.map nodL).length = ((ns ++ Bl.nil.flat ns.length).map nodL).length := by rw [← e]
       have e2 : ns.map nodL = (ns ++ Bl.nil.flat ns.length).map nodL := by rw [← e]
       exact Uw.wW) ⟨by rw [← hR]; cases pStmts n (l.drop (k + 1)) <;> rfl, Nat.le_refl _, hlt, by simp [Bl.sz]⟩ ?_
   clear hR w0 h0
   rintro ⟨d, k1, m⟩ ⟨hR, hm, hk1, hk2⟩
   cases m with
   | zero => rw [pStmts] at hR; exact absurd hR.symm hout
   | succ m =>
     rw [pStmts] at hR
     have hfl : (ns ++ d.flat ns.length).length = ns.length + d.sz := by simp [Bl.flat_len]
     have hv := s_parse_reader_have l k1 ((ns ++ d.flat ns.length).map nodL) hk1 hl [125] (by simp)
     have hpy : (rowN (d.places ns.length)).length < 1000000 := by have := d.places_le ns.length; simp [rowN]; omega
     by_cases hs : hd (l.drop k1) = [125]
     · have hlt := hd_lt hs (by simp)
       rw [if_pos hs, List.tail_drop] at hR
       rw [if_pos hs, decide_eq_true hs] at hv
       have hR : R.ok (d.app .nil) (l.drop (k1 + 1)) = Rr := hR
       have hb : outB l ns Rr = .ok (.d (I ((ns.length + d.sz : Nat)))) (rdN l (k1 + 1) (ns ++ d.all ns.length)) := by
         rw [← hR, Bl.app_nil]
         show Out.ok _ (rdN l (l.length - (l.drop (k1 + 1)).length) _) = _
         rw [len_drop (by omega)]
       have hp := put_row l (k1 + 1) (ns ++ d.flat ns.length) (ns ++ d.all ns.length) ⟨18, 0, [], [], d.places ns.length⟩ (by simp [Bl.all]) (ns.length + d.sz) (by simp [Bl.flat_len]) (by simp [Bl.flat_len]; omega) rfl
       clear ih hR hout hs
       ((repeat' first|refine aw ?_|refine bw (fun _=>?_) fun _=>?_))
       refine WT_frE 3 [0, 1] hv ?_
       ((repeat' first|refine aw ?_|refine bw (fun _=>?_) fun _=>?_))
       refine WT_break ?_
       ((repeat' first|refine aw ?_|refine bw (fun _=>?_) fun _=>?_))
       refine WT_frE 3 [0, 1, 2] hp ?_
       ((repeat' first|refine aw ?_|refine bw (fun _=>?_) fun _=>?_))
       exact WT_oret 2 hb rfl rfl (by exact Uw.wW)
     · rw [if_neg hs] at hR
       rw [if_neg hs, decide_eq_false hs] at hv
       rcases useS ((ih m (by omega)).stmt k1 (ns ++ d.flat ns.length) hk1 (by omega)) hk1 (fun e r h => (suf_s m).stmt _ _ _ h) with h0 | ⟨h0, h1⟩ | ⟨y, k2, h0, hk3, hk3', h1⟩
       · rw [h0] at hR; exact absurd hR.symm hout
       · rw [h0] at hR
         have hb : outB l ns Rr = .bad := by rw [← hR]; rfl
         clear ih hR hout hs h0
         ((repeat' first|refine aw ?_|refine bw (fun _=>?_) fun _=>?_))
         refine WT_frE 3 [0, 1] hv ?_
         ((repeat' first|refine aw ?_|refine bw (fun _=>?_) fun _=>?_))
         refine WT_frP 3 [0, 1] h1 ?_
         intro h q
         ((repeat' first|refine aw ?_|refine bw (fun _=>?_) fun _=>?_))
         exact WT_throw (WT_opan 2 hb rfl)
       · rw [h0] at hR
         have hR : (pStmts m (l.drop k2)).bind (fun es r => R.ok ((d.app (.cons y .nil)).app es) r) = Rr := by
           rw [← hR]
           show _ = ((pStmts m (l.drop k2)).bind fun es r => R.ok (Bl.cons y es) r).bind fun es r => R.ok (d.app es) r
           cases pStmts m (l.drop k2) with
           | ok es r => show R.ok _ _ = R.ok _ _; rw [Bl.app_assoc]; rfl
           | bad => rfl
           | out => rfl
         have hpl : d.places ns.length ++ [(ns ++ d.flat ns.length).length + y.sz - 1] = (d.app (.cons y .nil)).places ns.length := by rw [Bl.app_places, hfl]; rfl
         have hpr : rowN (d.places ns.length) ++ [[I (((ns ++ d.flat ns.length).length + y.sz - 1 : Nat))]] = rowN ((d.app (.cons y .nil)).places ns.length) := by rw [← hpl]; simp [rowN]
         have hpn : (rowN (d.places ns.length)).length + 1 = (rowN ((d.app (.cons y .nil)).places ns.length)).length := by rw [← hpr]; simp
         have hff : ns ++ d.flat ns.length ++ y.flat (ns ++ d.flat ns.length).length = ns ++ (d.app (.cons y .nil)).flat ns.length := by rw [Bl.app_flat, hfl]; simp [Bl.flat]
         have hsz : (d.app (.cons y .nil)).sz = d.sz + y.sz := by rw [Bl.app_sz]; rfl
         rw [hff] at h1
         clear ih hout hs h0 hff hpl
         ((repeat' first|refine aw ?_|refine bw (fun _=>?_) fun _=>?_))
         refine WT_frE 3 [0, 1] hv ?_
         ((repeat' first|refine aw ?_|refine bw (fun _=>?_) fun _=>?_))
         refine WT_frE 3 [0, 1] h1 ?_
         ((repeat' first|refine aw ?_|refine bw (fun _=>?_) fun _=>?_))
         exact WT_again (d.app (.cons y .nil), k2, m) ⟨hR, by omega, hk3, by omega⟩ (by simp only; omega) (by exact Uw.wW)
 · rw [want, if_neg h0]
   have w0 := p_parse_reader_want l k (ns.map nodL) hk hl [123] (by simp) h0
   clear ih h0
   refine SatP_by is_parse_reader_block rfl ?_
   ((repeat' first|refine aw ?_|refine bw (fun _=>?_) fun _=>?_))
   refine WT_frP 2 [0, 1] w0 ?_
   intro H q
   ((repeat' first|refine aw ?_|refine bw (fun _=>?_) fun _=>?_))
   exact WT_epan rfl
end Uw.Tryd
namespace Uw.Tryd
open Go Uw
def pIf (n : Nat) (r : List Tok) : R Stm := (pExpr n r.tail).bind fun e r => (pBlock n r).bind fun a r =>
 if hd r = sElse then (pBlock n r.tail).bind fun b r => .ok (.if2 e a b) r else .ok (.if1 e a) r
theorem c_choice (l : List Tok) (hl : l.length < 1000000) (n : Nat) (ih : ∀ m, m ≤ n → CS l m) (k : Nat) (ns : List Nod) (hk : k ≤ l.length) (hn : ns.length ≤ k) (h0 : hd (l.drop k) = sIf) : SatO n_parse_reader_choice [.ptr 0 0] (rdN l k ns) (outS l ns (pIf n (l.drop k))) := by
 have hlt := hd_lt h0 (by decide)
 have w0 := s_parse_reader_want l k (ns.map nodL) hk hl sIf (by decide) h0
 clear h0
 rw [pIf, List.tail_drop]
 rcases useE ((ce l hl n n (Nat.le_refl _)).expr (k + 1) ns hlt (by omega)) hlt (fun e r h => (suf_e n).expr _ _ _ h) with h2 | ⟨h2, h3⟩ | ⟨e, k1, h2, hk1, hk1', h3⟩
 · rw [h2]; exact trivial
 · rw [h2]
   refine SatP_by is_parse_reader_choice rfl ?_
   ((repeat' first|refine aw ?_|refine bw (fun _=>?_) fun _=>?_))
   refine WT_frE 2 [0, 1] w0 ?_
   ((repeat' first|refine aw ?_|refine bw (fun _=>?_) fun _=>?_))
   refine WT_frP 2 [0, 1] h3 ?_
   intro H q
   ((repeat' first|refine aw ?_|refine bw (fun _=>?_) fun _=>?_))
   exact WT_epan rfl
 · rw [h2]
   have hf1 : (ns ++ e.flat ns.length).length = ns.length + e.sz := by simp [Ex.flat_len]
   show SatO _ _ _ (outS l ns ((pBlock n (l.drop k1)).bind _))
   rcases useB ((ih n (Nat.le_refl _)).block k1 (ns ++ e.flat ns.length) hk1 (by omega)) hk1 (fun e r h => (suf_s n).block _ _ _ h) with h4 | ⟨h4, h5⟩ | ⟨a, k2, h4, hk2, hk2', h5⟩
   · rw [h4]; exact trivial
   · rw [h4]
     refine SatP_by is_parse_reader_choice rfl ?_
     ((repeat' first|refine aw ?_|refine bw (fun _=>?_) fun _=>?_))
     refine WT_frE 2 [0, 1] w0 ?_
     ((repeat' first|refine aw ?_|refine bw (fun _=>?_) fun _=>?_))
     refine WT_frE 2 [0, 1] h3 ?_
     ((repeat' first|refine aw ?_|refine bw (fun _=>?_) fun _=>?_))
     refine WT_frP 2 [0, 1] h5 ?_
     intro H q
     ((repeat' first|refine aw ?_|refine bw (fun _=>?_) fun _=>?_))
     exact WT_epan rfl
   · rw [h4]
     have hf2 : (ns ++ e.flat ns.length ++ a.all (ns ++ e.flat ns.length).length).length = ns.length + e.sz + (a.sz + 1) := by simp [Ex.flat_len, Bl.all_len]; omega
     have hv := s_parse_reader_have l k2 ((ns ++ e.flat ns.length ++ a.all (ns ++ e.flat ns.length).length).map nodL) hk2 hl sElse (by decide)
     show SatO _ _ _ (outS l ns (if hd (l.drop k2) = sElse then _ else _))
     by_cases h6 : hd (l.drop k2) = sElse
     · have hlt2 := hd_lt h6 (by decide)
       rw [if_pos h6, decide_eq_true h6] at hv
       rw [if_pos h6, List.tail_drop]
       clear h6
       rcases useB ((ih n (Nat.le_refl _)).block (k2 + 1) (ns ++ e.flat ns.length ++ a.all (ns ++ e.flat ns.length).length) hlt2 (by omega)) hlt2 (fun e r h => (suf_s n).block _ _ _ h) with h7 | ⟨h7, h8⟩ | ⟨b, k3, h7, hk3, hk3', h8⟩
       · rw [h7]; exact trivial
       · rw [h7]
         refine SatP_by is_parse_reader_choice rfl ?_
         ((repeat' first|refine aw ?_|refine bw (fun _=>?_) fun _=>?_))
         refine WT_frE 2 [0, 1] w0 ?_
         ((repeat' first|refine aw ?_|refine bw (fun _=>?_) fun _=>?_))
         refine WT_frE 2 [0, 1] h3 ?_
         ((repeat' first|refine aw ?_|refine bw (fun _=>?_) fun _=>?_))
         refine WT_frE 2 [0, 1] h5 ?_
         ((repeat' first|refine aw ?_|refine bw (fun _=>?_) fun _=>?_))
         refine WT_frE 3 [0, 1] hv ?_
         ((repeat' first|refine aw ?_|refine bw (fun _=>?_) fun _=>?_))
         refine WT_frP 3 [0, 1] h8 ?_
         intro H q
         ((repeat' first|refine aw ?_|refine bw (fun _=>?_) fun _=>?_))
         exact WT_epan rfl
       · rw [h7]
         show SatE _ _ _ _ (.d (I ((ns.length + (Stm.if2 e a b).sz - 1 : Nat)))) (rdN l (l.length - (l.drop k3).length) (ns ++ (Stm.if2 e a b).flat ns.length))
         rw [len_drop hk3]
         have hp := put_row l k3 (ns ++ e.flat ns.length ++ a.all (ns ++ e.flat ns.length).length ++ b.all (ns ++ e.flat ns.length ++ a.all (ns ++ e.flat ns.length).length).length) (ns ++ (Stm.if2 e a b).flat ns.length) ⟨13, 0, [], [], [ns.length + e.sz - 1, (ns ++ e.flat ns.length).length + a.sz, (ns ++ e.flat ns.length ++ a.all (ns ++ e.flat ns.length).length).length + b.sz]⟩ (by
           rw [hf2, hf1]; simp [Stm.flat, Bl.all]; try omega) (ns.length + (Stm.if2 e a b).sz - 1) (by simp [Stm.sz, Ex.flat_len, Bl.all_len]; try omega) (by simp [Ex.flat_len, Bl.all_len]; omega) rfl
         refine SatE_by is_parse_reader_choice rfl ?_
         ((repeat' first|refine aw ?_|refine bw (fun _=>?_) fun _=>?_))
         refine WT_frE 2 [0, 1] w0 ?_
         ((repeat' first|refine aw ?_|refine bw (fun _=>?_) fun _=>?_))
         refine WT_frE 2 [0, 1] h3 ?_
         ((repeat' first|refine aw ?_|refine bw (fun _=>?_) fun _=>?_))
         refine WT_frE 2 [0, 1] h5 ?_
         ((repeat' first|refine aw ?_|refine bw (fun _=>?_) fun _=>?_))
         refine WT_frE 3 [0, 1] hv ?_
         ((repeat' first|refine aw ?_|refine bw (fun _=>?_) fun _=>?_))
         refine WT_frE 3 [0, 1] h8 ?_
         ((repeat' first|refine aw ?_|refine bw (fun _=>?_) fun _=>?_))
         refine WT_frE 3 [0, 1, 2] hp ?_
         ((repeat' first|refine aw ?_|refine bw (fun _=>?_) fun _=>?_))
         exact WT_eret 2 rfl rfl (by exact Uw.wW)
     · rw [if_neg h6, decide_eq_false h6] at hv
       rw [if_neg h6]
       clear h6
       show SatE _ _ _ _ (.d (I ((ns.length + (Stm.if1 e a).sz - 1 : Nat)))) (rdN l (l.length - (l.drop k2).length) (ns ++ (Stm.if1 e a).flat ns.length))
       rw [len_drop hk2]
       have hp := put_row l k2 (ns ++ e.flat ns.length ++ a.all (ns ++ e.flat ns.length).length) (ns ++ (Stm.if1 e a).flat ns.length) ⟨13, 0, [], [], [ns.length + e.sz - 1, (ns ++ e.flat ns.length).length + a.sz]⟩ (by
         rw [hf1]; simp [Stm.flat, Bl.all]; try omega) (ns.length + (Stm.if1 e a).sz - 1) (by simp [Stm.sz, Ex.flat_len, Bl.all_len]; try omega) (by simp [Ex.flat_len, Bl.all_len]; omega) rfl
       refine SatE_by is_parse_reader_choice rfl ?_
       ((repeat' first|refine aw ?_|refine bw (fun _=>?_) fun _=>?_))
       refine WT_frE 2 [0, 1] w0 ?_
       ((repeat' first|refine aw ?_|refine bw (fun _=>?_) fun _=>?_))
       refine WT_frE 2 [0, 1] h3 ?_
       ((repeat' first|refine aw ?_|refine bw (fun _=>?_) fun _=>?_))
       refine WT_frE 2 [0, 1] h5 ?_
       ((repeat' first|refine aw ?_|refine bw (fun _=>?_) fun _=>?_))
       refine WT_frE 3 [0, 1] hv ?_
       ((repeat' first|refine aw ?_|refine bw (fun _=>?_) fun _=>?_))
       refine WT_frE 3 [0, 1, 2] hp ?_
       ((repeat' first|refine aw ?_|refine bw (fun _=>?_) fun _=>?_))
       exact WT_eret 2 rfl rfl (by exact Uw.wW)
theorem c_stmt (l : List Tok) (hl : l.length < 1000000) (n : Nat) (ih : ∀ m, m ≤ n → CS l m) (k : Nat) (ns : List Nod) (hk : k ≤ l.length) (hn : ns.length ≤ k) : SatO n_parse_reader_statement [.ptr 0 0] (rdN l k ns) (outS l ns (pStmt (n + 1) (l.drop k))) := by
 have pk := s_parse_reader_peek l k (ns.map nodL) hk
 rw [pStmt]
 by_cases h0 : hd (l.drop k) = sIf
 · have hlt := hd_lt h0 (by decide)
   rw [if_pos h0]
   have hc := c_choice l hl n ih k ns hk hn h0
   have e : pStmt (n + 1) (l.drop k) = pIf n (l.drop k) := by rw [pStmt, if_pos h0]; rfl
   show SatO _ _ _ (outS l ns (pIf n (l.drop k)))
   rw [h0] at pk
   clear h0
   rcases useS hc hk (fun s r h => (suf_s (n + 1)).stmt _ _ _ (e.trans h)) with h2 | ⟨h2, h3⟩ | ⟨s, k1, h2, hk1, hk1', h3⟩
   · rw [h2]; exact trivial
   · rw [h2]
     refine SatP_by is_parse_reader_statement rfl ?_
     ((repeat' first|refine aw ?_|refine bw (fun _=>?_) fun _=>?_))
     refine WT_frE 2 [0, 1] pk ?_
     ((repeat' first|refine aw ?_|refine bw (fun _=>?_) fun _=>?_))
     refine WT_frP 2 [0, 1] h3 ?_
     intro H q
     ((repeat' first|refine aw ?_|refine bw (fun _=>?_) fun _=>?_))
     exact WT_epan rfl
   · rw [h2]
     show SatE _ _ _ _ (.d (I ((ns.length + s.sz - 1 : Nat)))) (rdN l (l.length - (l.drop k1).length) _)
     rw [len_drop hk1]
     refine SatE_by is_parse_reader_statement rfl ?_
     ((repeat' first|refine aw ?_|refine bw (fun _=>?_) fun _=>?_))
     refine WT_frE 2 [0, 1] pk ?_
     ((repeat' first|refine aw ?_|refine bw (fun _=>?_) fun _=>?_))
     refine WT_frE 2 [0, 1] h3 ?_
     ((repeat' first|refine aw ?_|refine bw (fun _=>?_) fun _=>?_))
     exact WT_eret 2 rfl rfl (by exact Uw.wW)
 · rw [if_neg h0]
   by_cases h1 : hd (l.drop k) = sWhile
   · have hlt := hd_lt h1 (by decide)
     have w0 := s_parse_reader_want l k (ns.map nodL) hk hl sWhile (by decide) h1
     rw [if_pos h1, List.tail_drop]
     rw [h1] at pk
     clear h0 h1
     rcases useE ((ce l hl n n (Nat.le_refl _)).expr (k + 1) ns hlt (by omega)) hlt (fun e r h => (suf_e n).expr _ _ _ h) with h2 | ⟨h2, h3⟩ | ⟨e, k1, h2, hk1, hk1', h3⟩
     · rw [h2]; exact trivial
     · rw [h2]
       refine SatP_by is_parse_reader_statement rfl ?_
       ((repeat' first|refine aw ?_|refine bw (fun _=>?_) fun _=>?_))
       refine WT_frE 2 [0, 1] pk ?_
       ((repeat' first|refine aw ?_|refine bw (fun _=>?_) fun _=>?_))
       refine WT_frE 2 [0, 1] w0 ?_
       ((repeat' first|refine aw ?_|refine bw (fun _=>?_) fun _=>?_))
       refine WT_frP 2 [0, 1] h3 ?_
       intro H q
       ((repeat' first|refine aw ?_|refine bw (fun _=>?_) fun _=>?_))
       exact WT_epan rfl
     · rw [h2]
       have hf1 : (ns ++ e.flat ns.length).length = ns.length + e.sz := by simp [Ex.flat_len]
       show SatO _ _ _ (outS l ns ((pBlock n (l.drop k1)).bind _))
       rcases useB ((ih n (Nat.le_refl _)).block k1 (ns ++ e.flat ns.length) hk1 (by omega)) hk1 (fun e r h => (suf_s n).block _ _ _ h) with h4 | ⟨h4, h5⟩ | ⟨a, k2, h4, hk2, hk2', h5⟩
       · rw [h4]; exact trivial
       · rw [h4]
         refine SatP_by is_parse_reader_statement rfl ?_
         ((repeat' first|refine aw ?_|refine bw (fun _=>?_) fun _=>?_))
         refine WT_frE 2 [0, 1] pk ?_
         ((repeat' first|refine aw ?_|refine bw (fun _=>?_) fun _=>?_))
         refine WT_frE 2 [0, 1] w0 ?_
         ((repeat' first|refine aw ?_|refine bw (fun _=>?_) fun _=>?_))
         refine WT_frE 2 [0, 1] h3 ?_
         ((repeat' first|refine aw ?_|refine bw (fun _=>?_) fun _=>?_))
         refine WT_frP 2 [0, 1] h5 ?_
         intro H q
         ((repeat' first|refine aw ?_|refine bw (fun _=>?_) fun _=>?_))
         exact WT_epan rfl
       · rw [h4]
         show SatE _ _ _ _ (.d (I ((ns.length + (Stm.loop e a).sz - 1 : Nat)))) (rdN l (l.length - (l.drop k2).length) (ns ++ (Stm.loop e a).flat ns.length))
         rw [len_drop hk2]
         have hp := put_ok l k2 (ns ++ e.flat ns.length ++ a.all (ns ++ e.flat ns.length).length) (ns ++ (Stm.loop e a).flat ns.length) ⟨14, 0, [], [], [ns.length + e.sz - 1, (ns ++ e.flat ns.length).length + a.sz]⟩ (by
           rw [hf1]; simp [Stm.flat, Bl.all]; try omega) (ns.length + (Stm.loop e a).sz - 1) (by simp [Stm.sz, Ex.flat_len, Bl.all_len]; try omega) (by simp [Ex.flat_len, Bl.all_len]; omega)
         have hp : SatE P0 n_parse_reader_put [.ptr 0 0, .agg [.d (I 14), .d (I 0), .d (.str []), .d (.str []), .d (.slice 1 [[I ((ns.length + e.sz - 1 : Nat))], [I (((ns ++ e.flat ns.length).length + a.sz : Nat))]] true)]] (rdN l k2 (ns ++ e.flat ns.length ++ a.all (ns ++ e.flat ns.length).length)) (.d (I ((ns.length + (Stm.loop e a).sz - 1 : Nat)))) (rdN l k2 (ns ++ (Stm.loop e a).flat ns.length)) := hp
         refine SatE_by is_parse_reader_statement rfl ?_
         ((repeat' first|refine aw ?_|refine bw (fun _=>?_) fun _=>?_))
         refine WT_frE 2 [0, 1] pk ?_
         ((repeat' first|refine aw ?_|refine bw (fun _=>?_) fun _=>?_))
         refine WT_frE 2 [0, 1] w0 ?_
         ((repeat' first|refine aw ?_|refine bw (fun _=>?_) fun _=>?_))
         refine WT_frE 2 [0, 1] h3 ?_
         ((repeat' first|refine aw ?_|refine bw (fun _=>?_) fun _=>?_))
         refine WT_frE 2 [0, 1] h5 ?_
         ((repeat' first|refine aw ?_|refine bw (fun _=>?_) fun _=>?_))
         refine WT_frE 2 [0, 1] hp ?_
         ((repeat' first|refine aw ?_|refine bw (fun _=>?_) fun _=>?_))
         exact WT_eret 2 rfl rfl (by exact Uw.wW)
   · rw [if_neg h1]
     generalize hd (l.drop k) = p at *
     unfold sIf at h0
     unfold sWhile at h1
     rcases useS (c_simple l hl n k ns hk hn) hk (fun s r h => suf_simple h) with h2 | ⟨h2, h3⟩ | ⟨s, k1, h2, hk1, hk1', h3⟩
     · rw [h2]; exact trivial
     · rw [h2]
       refine SatP_by is_parse_reader_statement rfl ?_
       ((repeat' first|refine aw ?_|refine bw (fun _=>?_) fun _=>?_))
       refine WT_frE 2 [0, 1] pk ?_
       ((repeat' first|refine aw ?_|refine bw (fun _=>?_) fun _=>?_))
       refine WT_frP 2 [0, 1] h3 ?_
       intro H q
       ((repeat' first|refine aw ?_|refine bw (fun _=>?_) fun _=>?_))
       exact WT_epan rfl
     · rw [h2]
       show SatO _ _ _ (outS l ns ((want [59] (l.drop k1)).bind _))
       by_cases h4 : hd (l.drop k1) = [59]
       · have hlt1 := hd_lt h4 (by simp)
         have w1 := s_parse_reader_want l k1 ((ns ++ s.flat ns.length).map nodL) hk1 hl [59] (by simp) h4
         rw [want, if_pos h4, List.tail_drop]
         show SatE _ _ _ _ (.d (I ((ns.length + s.sz - 1 : Nat)))) (rdN l (l.length - (l.drop (k1 + 1)).length) _)
         rw [len_drop hlt1]
         clear h4
         refine SatE_by is_parse_reader_statement rfl ?_
         ((repeat' first|refine aw ?_|refine bw (fun _=>?_) fun _=>?_))
         refine WT_frE 2 [0, 1] pk ?_
         ((repeat' first|refine aw ?_|refine bw (fun _=>?_) fun _=>?_))
         refine WT_frE 2 [0, 1] h3 ?_
         ((repeat' first|refine aw ?_|refine bw (fun _=>?_) fun _=>?_))
         refine WT_frE 2 [0, 1] w1 ?_
         ((repeat' first|refine aw ?_|refine bw (fun _=>?_) fun _=>?_))
         exact WT_eret 2 rfl rfl (by exact Uw.wW)
       · have w1 := p_parse_reader_want l k1 ((ns ++ s.flat ns.length).map nodL) hk1 hl [59] (by simp) h4
         rw [want, if_neg h4]
         clear h4
         refine SatP_by is_parse_reader_statement rfl ?_
         ((repeat' first|refine aw ?_|refine bw (fun _=>?_) fun _=>?_))
         refine WT_frE 2 [0, 1] pk ?_
         ((repeat' first|refine aw ?_|refine bw (fun _=>?_) fun _=>?_))
         refine WT_frE 2 [0, 1] h3 ?_
         ((repeat' first|refine aw ?_|refine bw (fun _=>?_) fun _=>?_))
         refine WT_frP 2 [0, 1] w1 ?_
         intro H q
         ((repeat' first|refine aw ?_|refine bw (fun _=>?_) fun _=>?_))
         exact WT_epan rfl
theorem cs (l : List Tok) (hl : l.length < 1000000) : ∀ n, ∀ m, m ≤ n → CS l m
 | 0, m, hm => by
   obtain rfl : m = 0 := by omega
   refine ⟨?_, ?_⟩
   · intro k ns _ _; rw [pStmt]; exact trivial
   · intro k ns _ _; rw [pBlock]; exact trivial
 | n + 1, m, hm => by
   have ih := cs l hl n
   by_cases h : m ≤ n
   · exact ih m h
   · obtain rfl : m = n + 1 := by omega
     exact ⟨fun k ns => c_stmt l hl n ih k ns, fun k ns => c_block l hl n ih k ns⟩
end Uw.Tryd
namespace Uw.Tryd
open Go Uw
def decV (d : Dec) : V := .agg [.d (I d.kind), .d (.str d.name), .d (I d.n)]
def outD (l : List Tok) (ns : List Nod) (x : R Dec) : Out :=
 match x with
 | .ok d r => .ok (decV d) (rdN l (l.length - r.length) ns)
 | .bad => .bad
 | .out => .out
theorem word_cases (l : List Tok) (k : Nat) (xs : List (List Dat)) (hk : k ≤ l.length) (hl : l.length < 1000000) (K : Int) :
   (pWord K (l.drop k) = .bad ∧ SatP P0 n_parse_reader_word [.ptr 0 0, .d (I K)] (rd l k xs) wrongD) ∨ ∃ t, pWord K (l.drop k) = .ok t (l.drop (k + 1)) ∧ k < l.length ∧ SatE P0 n_parse_reader_word [.ptr 0 0, .d (I K)] (rd l k xs) (.agg ((tokL t).map V.d)) (rd l (k + 1) xs) := by
 by_cases h : k < l.length
 · have hd : l.drop k = l[k] :: l.drop (k + 1) := List.drop_eq_getElem_cons h
   by_cases h1 : l[k].kind = K
   · exact .inr ⟨l[k], by rw [hd, pWord, if_pos h1], h, s_parse_reader_word l k xs hk hl K h h1⟩
   · exact .inl ⟨by rw [hd, pWord, if_neg h1], p_parse_reader_word l k xs hk hl K (fun _ => h1)⟩
 · exact .inl ⟨by rw [List.drop_eq_nil_of_le (by omega), pWord], p_parse_reader_word l k xs hk hl K (fun h' => absurd h' h)⟩
def pDeclT (k : Int) (s : Str) (r : List Tok) : R Dec := (if k = 0 ∧ hd r = [61] then (pWord 2 r.tail).bind fun t r => R.ok t.n r else .ok 0 r).bind fun v r => (want [59] r).bind fun _ r => .ok ⟨k, s, v⟩ r
theorem c_decl (l : List Tok) (hl : l.length < 1000000) (k : Nat) (ns : List Nod) (hk : k ≤ l.length) : SatO n_parse_reader_decl [.ptr 0 0] (rdN l k ns) (outD l ns (pDecl (l.drop k))) := by
 rw [pDecl]
 rcases word_cases l k (ns.map nodL) hk hl 1 with ⟨h1, h2⟩ | ⟨t, h1, hlt, h2⟩
 · rw [h1]
   refine SatP_by is_parse_reader_decl rfl ?_
   ((repeat' first|refine aw ?_|refine bw (fun _=>?_) fun _=>?_))
   refine WT_frP 4 [0, 1] h2 ?_
   intro H q
   ((repeat' first|refine aw ?_|refine bw (fun _=>?_) fun _=>?_))
   exact WT_epan rfl
 · rw [h1]
   obtain ⟨kind, text, num, place⟩ := t
   show SatO _ _ _ (outD l ns (match kindOf text with | none => R.bad | some K => (pName (l.drop (k + 1))).bind fun s r => pDeclT K s r))
   rw [kindOf]
   by_cases c0 : text = sCell
   · subst c0
     show SatO _ _ _ (outD l ns ((pName (l.drop (k + 1))).bind fun s r => pDeclT 0 s r))
     rcases name_cases l (k + 1) (ns.map nodL) hlt hl with ⟨h3, h4⟩ | ⟨s, h3, hlt2, h4⟩
     · rw [h3]
       refine SatP_by is_parse_reader_decl rfl ?_
       ((repeat' first|refine aw ?_|refine bw (fun _=>?_) fun _=>?_))
       refine WT_frE 4 [0, 1] h2 ?_
       ((repeat' first|refine aw ?_|refine bw (fun _=>?_) fun _=>?_))
       refine WT_frP 4 [0, 1] h4 ?_
       intro H q
       ((repeat' first|refine aw ?_|refine bw (fun _=>?_) fun _=>?_))
       exact WT_epan rfl
     · rw [h3]
       show SatO _ _ _ (outD l ns (pDeclT 0 s (l.drop (k + 1 + 1))))
       rw [pDeclT]
       have hv := s_parse_reader_have l (k + 1 + 1) (ns.map nodL) hlt2 hl [61] (by simp)
       by_cases h5 : hd (l.drop (k + 1 + 1)) = [61]
       · have hlt3 := hd_lt h5 (by simp)
         rw [if_pos h5, decide_eq_true h5] at hv
         rw [if_pos ⟨rfl, h5⟩, List.tail_drop]
         clear h5
         rcases word_cases l (k + 1 + 1 + 1) (ns.map nodL) hlt3 hl 2 with ⟨h6, h7⟩ | ⟨t, h6, hlt4, h7⟩
         · rw [h6]
           refine SatP_by is_parse_reader_decl rfl ?_
           ((repeat' first|refine aw ?_|refine bw (fun _=>?_) fun _=>?_))
           refine WT_frE 4 [0, 1] h2 ?_
           ((repeat' first|refine aw ?_|refine bw (fun _=>?_) fun _=>?_))
           refine WT_frE 4 [0, 1] h4 ?_
           ((repeat' first|refine aw ?_|refine bw (fun _=>?_) fun _=>?_))
           refine WT_frE 4 [0, 1] hv ?_
           ((repeat' first|refine aw ?_|refine bw (fun _=>?_) fun _=>?_))
           refine WT_frP 4 [0, 1] h7 ?_
           intro H q
           ((repeat' first|refine aw ?_|refine bw (fun _=>?_) fun _=>?_))
           exact WT_epan rfl
         · rw [h6]
           obtain ⟨k2, x2, n2, p2⟩ := t
           show SatO _ _ _ (outD l ns ((want [59] (l.drop (k + 1 + 1 + 1 + 1))).bind fun _ r => R.ok ⟨0, s, n2⟩ r))
           by_cases hs : hd (l.drop (k + 1 + 1 + 1 + 1)) = [59]
           · have hlt9 := hd_lt hs (by simp)
             have w9 := s_parse_reader_want l (k + 1 + 1 + 1 + 1) (ns.map nodL) (by omega) hl [59] (by simp) hs
             rw [want, if_pos hs, List.tail_drop]
             show SatE _ _ _ _ (decV ⟨0, s, n2⟩) (rdN l (l.length - (l.drop (k + 1 + 1 + 1 + 1 + 1)).length) ns)
             rw [len_drop (by omega)]
             clear hs
             refine SatE_by is_parse_reader_decl rfl ?_
             ((repeat' first|refine aw ?_|refine bw (fun _=>?_) fun _=>?_))
             refine WT_frE 4 [0, 1] h2 ?_
             ((repeat' first|refine aw ?_|refine bw (fun _=>?_) fun _=>?_))
             refine WT_frE 4 [0, 1] h4 ?_
             ((repeat' first|refine aw ?_|refine bw (fun _=>?_) fun _=>?_))
             refine WT_frE 4 [0, 1] hv ?_
             ((repeat' first|refine aw ?_|refine bw (fun _=>?_) fun _=>?_))
             refine WT_frE 4 [0, 1] h7 ?_
             ((repeat' first|refine aw ?_|refine bw (fun _=>?_) fun _=>?_))
             refine WT_frE 4 [0, 1] w9 ?_
             ((repeat' first|refine aw ?_|refine bw (fun _=>?_) fun _=>?_))
             exact WT_eret 2 rfl rfl (by exact Uw.wW)
           · have w9 := p_parse_reader_want l (k + 1 + 1 + 1 + 1) (ns.map nodL) (by omega) hl [59] (by simp) hs
             rw [want, if_neg hs]
             clear hs
             refine SatP_by is_parse_reader_decl rfl ?_
             ((repeat' first|refine aw ?_|refine bw (fun _=>?_) fun _=>?_))
             refine WT_frE 4 [0, 1] h2 ?_
             ((repeat' first|refine aw ?_|refine bw (fun _=>?_) fun _=>?_))
             refine WT_frE 4 [0, 1] h4 ?_
             ((repeat' first|refine aw ?_|refine bw (fun _=>?_) fun _=>?_))
             refine WT_frE 4 [0, 1] hv ?_
             ((repeat' first|refine aw ?_|refine bw (fun _=>?_) fun _=>?_))
             refine WT_frE 4 [0, 1] h7 ?_
             ((repeat' first|refine aw ?_|refine bw (fun _=>?_) fun _=>?_))
             refine WT_frP 4 [0, 1] w9 ?_
             intro H q
             ((repeat' first|refine aw ?_|refine bw (fun _=>?_) fun _=>?_))
             exact WT_epan rfl
       · rw [if_neg h5, decide_eq_false h5] at hv
         rw [if_neg (fun h => h5 h.2)]
         clear h5
         show SatO _ _ _ (outD l ns ((want [59] (l.drop (k + 1 + 1))).bind fun _ r => R.ok ⟨0, s, 0⟩ r))
         by_cases hs : hd (l.drop (k + 1 + 1)) = [59]
         · have hlt9 := hd_lt hs (by simp)
           have w9 := s_parse_reader_want l (k + 1 + 1) (ns.map nodL) (by omega) hl [59] (by simp) hs
           rw [want, if_pos hs, List.tail_drop]
           show SatE _ _ _ _ (decV ⟨0, s, 0⟩) (rdN l (l.length - (l.drop (k + 1 + 1 + 1)).length) ns)
           rw [len_drop (by omega)]
           clear hs
           refine SatE_by is_parse_reader_decl rfl ?_
           ((repeat' first|refine aw ?_|refine bw (fun _=>?_) fun _=>?_))
           refine WT_frE 4 [0, 1] h2 ?_
           ((repeat' first|refine aw ?_|refine bw (fun _=>?_) fun _=>?_))
           refine WT_frE 4 [0, 1] h4 ?_
           ((repeat' first|refine aw ?_|refine bw (fun _=>?_) fun _=>?_))
           refine WT_frE 4 [0, 1] hv ?_
           ((repeat' first|refine aw ?_|refine bw (fun _=>?_) fun _=>?_))
           refine WT_frE 4 [0, 1] w9 ?_
           ((repeat' first|refine aw ?_|refine bw (fun _=>?_) fun _=>?_))
           exact WT_eret 2 rfl rfl (by exact Uw.wW)
         · have w9 := p_parse_reader_want l (k + 1 + 1) (ns.map nodL) (by omega) hl [59] (by simp) hs
           rw [want, if_neg hs]
           clear hs
           refine SatP_by is_parse_reader_decl rfl ?_
           ((repeat' first|refine aw ?_|refine bw (fun _=>?_) fun _=>?_))
           refine WT_frE 4 [0, 1] h2 ?_
           ((repeat' first|refine aw ?_|refine bw (fun _=>?_) fun _=>?_))
           refine WT_frE 4 [0, 1] h4 ?_
           ((repeat' first|refine aw ?_|refine bw (fun _=>?_) fun _=>?_))
           refine WT_frE 4 [0, 1] hv ?_
           ((repeat' first|refine aw ?_|refine bw (fun _=>?_) fun _=>?_))
           refine WT_frP 4 [0, 1] w9 ?_
           intro H q
           ((repeat' first|refine aw ?_|refine bw (fun _=>?_) fun _=>?_))
           exact WT_epan rfl
   · by_cases c1 : text = sMap
     · subst c1
       show SatO _ _ _ (outD l ns ((pName (l.drop (k + 1))).bind fun s r => pDeclT 1 s r))
       clear c0
       rcases name_cases l (k + 1) (ns.map nodL) hlt hl with ⟨h3, h4⟩ | ⟨s, h3, hlt2, h4⟩
       · rw [h3]
         refine SatP_by is_parse_reader_decl rfl ?_
         ((repeat' first|refine aw ?_|refine bw (fun _=>?_) fun _=>?_))
         refine WT_frE 4 [0, 1] h2 ?_
         ((repeat' first|refine aw ?_|refine bw (fun _=>?_) fun _=>?_))
         refine WT_frP 4 [0, 1] h4 ?_
         intro H q
         ((repeat' first|refine aw ?_|refine bw (fun _=>?_) fun _=>?_))
         exact WT_epan rfl
       · rw [h3]
         show SatO _ _ _ (outD l ns (pDeclT 1 s (l.drop (k + 1 + 1))))
         rw [pDeclT]
         rw [if_neg (fun h => by have := h.1; omega)]
         show SatO _ _ _ (outD l ns ((want [59] (l.drop (k + 1 + 1))).bind fun _ r => R.ok ⟨1, s, 0⟩ r))
         by_cases hs : hd (l.drop (k + 1 + 1)) = [59]
         · have hlt9 := hd_lt hs (by simp)
           have w9 := s_parse_reader_want l (k + 1 + 1) (ns.map nodL) (by omega) hl [59] (by simp) hs
           rw [want, if_pos hs, List.tail_drop]
           show SatE _ _ _ _ (decV ⟨1, s, 0⟩) (rdN l (l.length - (l.drop (k + 1 + 1 + 1)).length) ns)
           rw [len_drop (by omega)]
           clear hs
           refine SatE_by is_parse_reader_decl rfl ?_
           ((repeat' first|refine aw ?_|refine bw (fun _=>?_) fun _=>?_))
           refine WT_frE 4 [0, 1] h2 ?_
           ((repeat' first|refine aw ?_|refine bw (fun _=>?_) fun _=>?_))
           refine WT_frE 4 [0, 1] h4 ?_
           ((repeat' first|refine aw ?_|refine bw (fun _=>?_) fun _=>?_))
           refine WT_frE 4 [0, 1] w9 ?_
           ((repeat' first|refine aw ?_|refine bw (fun _=>?_) fun _=>?_))
           exact WT_eret 2 rfl rfl (by exact Uw.wW)
         · have w9 := p_parse_reader_want l (k + 1 + 1) (ns.map nodL) (by omega) hl [59] (by simp) hs
           rw [want, if_neg hs]
           clear hs
           refine SatP_by is_parse_reader_decl rfl ?_
           ((repeat' first|refine aw ?_|refine bw (fun _=>?_) fun _=>?_))
           refine WT_frE 4 [0, 1] h2 ?_
           ((repeat' first|refine aw ?_|refine bw (fun _=>?_) fun _=>?_))
           refine WT_frE 4 [0, 1] h4 ?_
           ((repeat' first|refine aw ?_|refine bw (fun _=>?_) fun _=>?_))
           refine WT_frP 4 [0, 1] w9 ?_
           intro H q
           ((repeat' first|refine aw ?_|refine bw (fun _=>?_) fun _=>?_))
           exact WT_epan rfl
     · by_cases c2 : text = sStack
       · subst c2
         show SatO _ _ _ (outD l ns ((pName (l.drop (k + 1))).bind fun s r => pDeclT 2 s r))
         clear c0 c1
         rcases name_cases l (k + 1) (ns.map nodL) hlt hl with ⟨h3, h4⟩ | ⟨s, h3, hlt2, h4⟩
         · rw [h3]
           refine SatP_by is_parse_reader_decl rfl ?_
           ((repeat' first|refine aw ?_|refine bw (fun _=>?_) fun _=>?_))
           refine WT_frE 4 [0, 1] h2 ?_
           ((repeat' first|refine aw ?_|refine bw (fun _=>?_) fun _=>?_))
           refine WT_frP 4 [0, 1] h4 ?_
           intro H q
           ((repeat' first|refine aw ?_|refine bw (fun _=>?_) fun _=>?_))
           exact WT_epan rfl
         · rw [h3]
           show SatO _ _ _ (outD l ns (pDeclT 2 s (l.drop (k + 1 + 1))))
           rw [pDeclT]
           rw [if_neg (fun h => by have := h.1; omega)]
           show SatO _ _ _ (outD l ns ((want [59] (l.drop (k + 1 + 1))).bind fun _ r => R.ok ⟨2, s, 0⟩ r))
           by_cases hs : hd (l.drop (k + 1 + 1)) = [59]
           · have hlt9 := hd_lt hs (by simp)
             have w9 := s_parse_reader_want l (k + 1 + 1) (ns.map nodL) (by omega) hl [59] (by simp) hs
             rw [want, if_pos hs, List.tail_drop]
             show SatE _ _ _ _ (decV ⟨2, s, 0⟩) (rdN l (l.length - (l.drop (k + 1 + 1 + 1)).length) ns)
             rw [len_drop (by omega)]
             clear hs
             refine SatE_by is_parse_reader_decl rfl ?_
             ((repeat' first|refine aw ?_|refine bw (fun _=>?_) fun _=>?_))
             refine WT_frE 4 [0, 1] h2 ?_
             ((repeat' first|refine aw ?_|refine bw (fun _=>?_) fun _=>?_))
             refine WT_frE 4 [0, 1] h4 ?_
             ((repeat' first|refine aw ?_|refine bw (fun _=>?_) fun _=>?_))
             refine WT_frE 4 [0, 1] w9 ?_
             ((repeat' first|refine aw ?_|refine bw (fun _=>?_) fun _=>?_))
             exact WT_eret 2 rfl rfl (by exact Uw.wW)
           · have w9 := p_parse_reader_want l (k + 1 + 1) (ns.map nodL) (by omega) hl [59] (by simp) hs
             rw [want, if_neg hs]
             clear hs
             refine SatP_by is_parse_reader_decl rfl ?_
             ((repeat' first|refine aw ?_|refine bw (fun _=>?_) fun _=>?_))
             refine WT_frE 4 [0, 1] h2 ?_
             ((repeat' first|refine aw ?_|refine bw (fun _=>?_) fun _=>?_))
             refine WT_frE 4 [0, 1] h4 ?_
             ((repeat' first|refine aw ?_|refine bw (fun _=>?_) fun _=>?_))
             refine WT_frP 4 [0, 1] w9 ?_
             intro H q
             ((repeat' first|refine aw ?_|refine bw (fun _=>?_) fun _=>?_))
             exact WT_epan rfl
       · by_cases c3 : text = sChan
         · subst c3
           show SatO _ _ _ (outD l ns ((pName (l.drop (k + 1))).bind fun s r => pDeclT 3 s r))
           clear c0 c1 c2
           rcases name_cases l (k + 1) (ns.map nodL) hlt hl with ⟨h3, h4⟩ | ⟨s, h3, hlt2, h4⟩
           · rw [h3]
             refine SatP_by is_parse_reader_decl rfl ?_
             ((repeat' first|refine aw ?_|refine bw (fun _=>?_) fun _=>?_))
             refine WT_frE 4 [0, 1] h2 ?_
             ((repeat' first|refine aw ?_|refine bw (fun _=>?_) fun _=>?_))
             refine WT_frP 4 [0, 1] h4 ?_
             intro H q
             ((repeat' first|refine aw ?_|refine bw (fun _=>?_) fun _=>?_))
             exact WT_epan rfl
           · rw [h3]
             show SatO _ _ _ (outD l ns (pDeclT 3 s (l.drop (k + 1 + 1))))
             rw [pDeclT]
             rw [if_neg (fun h => by have := h.1; omega)]
             show SatO _ _ _ (outD l ns ((want [59] (l.drop (k + 1 + 1))).bind fun _ r => R.ok ⟨3, s, 0⟩ r))
             by_cases hs : hd (l.drop (k + 1 + 1)) = [59]
             · have hlt9 := hd_lt hs (by simp)
               have w9 := s_parse_reader_want l (k + 1 + 1) (ns.map nodL) (by omega) hl [59] (by simp) hs
               rw [want, if_pos hs, List.tail_drop]
               show SatE _ _ _ _ (decV ⟨3, s, 0⟩) (rdN l (l.length - (l.drop (k + 1 + 1 + 1)).length) ns)
               rw [len_drop (by omega)]
               clear hs
               refine SatE_by is_parse_reader_decl rfl ?_
               ((repeat' first|refine aw ?_|refine bw (fun _=>?_) fun _=>?_))
               refine WT_frE 4 [0, 1] h2 ?_
               ((repeat' first|refine aw ?_|refine bw (fun _=>?_) fun _=>?_))
               refine WT_frE 4 [0, 1] h4 ?_
               ((repeat' first|refine aw ?_|refine bw (fun _=>?_) fun _=>?_))
               refine WT_frE 4 [0, 1] w9 ?_
               ((repeat' first|refine aw ?_|refine bw (fun _=>?_) fun _=>?_))
               exact WT_eret 2 rfl rfl (by exact Uw.wW)
             · have w9 := p_parse_reader_want l (k + 1 + 1) (ns.map nodL) (by omega) hl [59] (by simp) hs
               rw [want, if_neg hs]
               clear hs
               refine SatP_by is_parse_reader_decl rfl ?_
               ((repeat' first|refine aw ?_|refine bw (fun _=>?_) fun _=>?_))
               refine WT_frE 4 [0, 1] h2 ?_
               ((repeat' first|refine aw ?_|refine bw (fun _=>?_) fun _=>?_))
               refine WT_frE 4 [0, 1] h4 ?_
               ((repeat' first|refine aw ?_|refine bw (fun _=>?_) fun _=>?_))
               refine WT_frP 4 [0, 1] w9 ?_
               intro H q
               ((repeat' first|refine aw ?_|refine bw (fun _=>?_) fun _=>?_))
               exact WT_epan rfl
         · rw [if_neg c0, if_neg c1, if_neg c2, if_neg c3]
           unfold sCell at c0
           unfold sMap at c1
           unfold sStack at c2
           unfold sChan at c3
           refine SatP_by is_parse_reader_decl rfl ?_
           ((repeat' first|refine aw ?_|refine bw (fun _=>?_) fun _=>?_))
           refine WT_frE 4 [0, 1] h2 ?_
           ((repeat' first|refine aw ?_|refine bw (fun _=>?_) fun _=>?_))
           exact WT_epan rfl
end Uw.Tryd
namespace Uw.Tryd
open Go Uw
def rowS (ys : List Str) : List (List Dat) := ys.map fun s => [.str s]
theorem s_fun1_first (l : List Tok) (k k' : Nat) (ns : List Nod) (f p : Str) (h : SatE P0 n_parse_reader_name [.ptr 0 0] (rdN l k ns) (.d (.str p)) (rdN l k' ns)) :
   SatE P0 n_parse_reader_function_1 [.ptr 3 0, .ptr 2 0] (rdN l k ns ++ [.var [.ptr 0 0], .var [.d (.str f), .d .nil, .d (I 0)]]) (.tuple []) (rdN l k' ns ++ [.var [.ptr 0 0], .var [.d (.str f), .ref 4 0 0 (rowS [p]).length, .d (I 0)], .arr 1 (rowS [p])]) := by
 refine SatE_by is_parse_reader_function_1 rfl ?_
 refine WT_draw ⟨[], heapOf 0 (rdN l k' ns ++ [.var [.ptr 0 0], .var [.d (.str f), .ref 4 0 0 (rowS [p]).length, .d (I 0)], .arr 1 (rowS [p])]), 5, [], 4⟩ ?_ ?_
 · ((repeat' first|refine aw ?_|refine bw (fun _=>?_) fun _=>?_))
   refine WT_frE 4 [0, 1] h ?_
   ((repeat' first|refine aw ?_|refine bw (fun _=>?_) fun _=>?_))
   exact WT_done (.inl ⟨rfl, by exact Uw.wW⟩)
 · ((repeat' first|refine aw ?_|refine bw (fun _=>?_) fun _=>?_))
   exact WT_eend 4 rfl rfl (by exact Uw.wW)
theorem s_fun1_next (l : List Tok) (k k' : Nat) (ns : List Nod) (f p : Str) (ys : List Str) (hy : ys.length < 1000000) (h : SatE P0 n_parse_reader_name [.ptr 0 0] (rdN l k ns) (.d (.str p)) (rdN l k' ns)) :
   SatE P0 n_parse_reader_function_1 [.ptr 3 0, .ptr 2 0] (rdN l k ns ++ [.var [.ptr 0 0], .var [.d (.str f), .ref 4 0 0 (rowS ys).length, .d (I 0)], .arr 1 (rowS ys)]) (.tuple []) (rdN l k' ns ++ [.var [.ptr 0 0], .var [.d (.str f), .ref 4 0 0 (rowS (ys ++ [p])).length, .d (I 0)], .arr 1 (rowS (ys ++ [p]))]) := by
 have e : rowS (ys ++ [p]) = rowS ys ++ [[.str p]] := by simp [rowS]
 have hy' : (rowS ys).length < 1000000 := by simpa [rowS] using hy
 rw [e]
 generalize rowS ys = zs at *
 refine SatE_by is_parse_reader_function_1 rfl ?_
 refine WT_draw ⟨[], heapOf 0 (rdN l k' ns ++ [.var [.ptr 0 0], .var [.d (.str f), .ref 4 0 0 (zs ++ [[Dat.str p]]).length, .d (I 0)], .arr 1 (zs ++ [[.str p]])]), 5, [], 5⟩ ?_ ?_
 · ((repeat' first|refine aw ?_|refine bw (fun _=>?_) fun _=>?_))
   refine WT_frE 5 [0, 1] h ?_
   ((repeat' first|refine aw ?_|refine bw (fun _=>?_) fun _=>?_))
   exact WT_done (.inl ⟨rfl, by exact Uw.wW⟩)
 · ((repeat' first|refine aw ?_|refine bw (fun _=>?_) fun _=>?_))
   exact WT_eend 5 rfl rfl (by exact Uw.wW)
theorem p_fun1_first (l : List Tok) (k : Nat) (ns : List Nod) (f : Str) (h : SatP P0 n_parse_reader_name [.ptr 0 0] (rdN l k ns) wrongD) :
   SatP P0 n_parse_reader_function_1 [.ptr 3 0, .ptr 2 0] (rdN l k ns ++ [.var [.ptr 0 0], .var [.d (.str f), .d .nil, .d (I 0)]]) wrongD := by
 refine SatP_by is_parse_reader_function_1 rfl ?_
 refine WT_drawP ?_
 ((repeat' first|refine aw ?_|refine bw (fun _=>?_) fun _=>?_))
 refine WT_frP 4 [0, 1] h ?_
 intro H n
 ((repeat' first|refine aw ?_|refine bw (fun _=>?_) fun _=>?_))
 exact WT_done ⟨wrongD, rfl, WT_epan rfl⟩
theorem p_fun1_next (l : List Tok) (k : Nat) (ns : List Nod) (f : Str) (ys : List Str) (h : SatP P0 n_parse_reader_name [.ptr 0 0] (rdN l k ns) wrongD) :
   SatP P0 n_parse_reader_function_1 [.ptr 3 0, .ptr 2 0] (rdN l k ns ++ [.var [.ptr 0 0], .var [.d (.str f), .ref 4 0 0 (rowS ys).length, .d (I 0)], .arr 1 (rowS ys)]) wrongD := by
 generalize rowS ys = zs at *
 refine SatP_by is_parse_reader_function_1 rfl ?_
 refine WT_drawP ?_
 ((repeat' first|refine aw ?_|refine bw (fun _=>?_) fun _=>?_))
 refine WT_frP 5 [0, 1] h ?_
 intro H n
 ((repeat' first|refine aw ?_|refine bw (fun _=>?_) fun _=>?_))
 exact WT_done ⟨wrongD, rfl, WT_epan rfl⟩
end Uw.Tryd
namespace Uw.Tryd
open Go Uw
def strsD (ys : List Str) : Dat := if ys = [] then .nil else .slice 1 (rowS ys) false
def outF (l : List Tok) (ns : List Nod) (x : R Fn) : Out :=
 match x with
 | .ok f r => .ok (.agg [.d (.str f.name), .d (strsD f.args), .d (I ((ns.length + f.body.sz : Nat)))]) (rdN l (l.length - r.length) (ns ++ f.body.all ns.length))
 | .bad => .bad
 | .out => .out
theorem suf_namesT : ∀ (n : Nat) (r : List Tok) (x : List Str) (r' : List Tok), pNamesT n r = .ok x r' → Suf r r' (x.length + 1)
 | 0, _, _, _, h => by rw [pNamesT] at h; cases h
 | n + 1, r, x, r', h => by
   rw [pNamesT] at h
   split at h
   · rename_i hh
     obtain ⟨s, r2, h2, h⟩ := bind_ok.1 h
     obtain ⟨ss, r3, h3, h⟩ := bind_ok.1 h
     injection h with h4 h5
     subst h4 h5
     exact ((Suf.hd hh (by simp)).trans ((Suf.name h2).trans (suf_namesT n _ _ _ h3))).le (by simp; omega)
   · obtain ⟨_, r1, h1, h⟩ := bind_ok.1 h
     injection h with h4 h5
     subst h4 h5
     exact (Suf.want (by simp) h1).le (by simp)
end Uw.Tryd
namespace Uw.Tryd
open Go Uw
theorem WT_oend (b : Nat) {res : List MRes} {x : Out} {v : V} {bs' : List Blk} {vs' : List V} {st : St} (hx : x = .ok v bs') (hd : st.defers = []) (hr : resV st res = some vs') (hw : Weak ⟨[(0, packV vs')], st.heap, st.next, [], b⟩ ⟨[(0, v)], heapOf 0 bs', bs'.length, [], b⟩) : WT P0 (OQ b res x) (.done .normal st) := by
 subst hx; exact WT_eend b hd hr hw
def fnB (f : Str) (v : V) : List Blk := [.var [.ptr 0 0], .var [.d (.str f), v, .d (I 0)]]
def outN (l : List Tok) (ns : List Nod) (f : Str) (x : R (List Str)) : Out :=
 match x with
 | .ok ar r => .ok (.tuple []) (rdN l (l.length - r.length) ns ++ fnB f (.d (strsD ar)))
 | .bad => .bad
 | .out => .out
theorem outN_ne {l : List Tok} {ns : List Nod} {f : Str} {x : R (List Str)} (h : x ≠ R.out) : outN l ns f x ≠ Out.out := by
 cases x with
 | out => exact absurd rfl h
 | bad => intro h; cases h
 | ok e r => intro h; cases h
theorem c_names (l : List Tok) (hl : l.length < 1000000) (n : Nat) (k : Nat) (ns : List Nod) (f : Str) (hk : k ≤ l.length) (hn : ns.length ≤ k) : SatO n_parse_reader_row [.ptr 0 0, .func n_parse_reader_function_1 [] [.ptr 3 0, .ptr 2 0]] (rdN l k ns ++ fnB f (.d .nil)) (outN l ns f (pNames n (l.drop k))) := by
 rw [pNames]
 by_cases h3 : hd (l.drop k) = [40]
 rotate_left
 · have w1 := p_parse_reader_want l k (ns.map nodL) hk hl [40] (by simp) h3
   rw [want, if_neg h3]
   clear h3
   refine SatP_by is_parse_reader_row rfl ?_
   ((repeat' first|refine aw ?_|refine bw (fun _=>?_) fun _=>?_))
   refine WT_frP 4 [0, 1] w1 ?_
   intro H q
   ((repeat' first|refine aw ?_|refine bw (fun _=>?_) fun _=>?_))
   exact WT_epan rfl
 have hlt2 := hd_lt h3 (by simp)
 have w1 := s_parse_reader_want l k (ns.map nodL) hk hl [40] (by simp) h3
 have hv := s_parse_reader_have l (k + 1) (ns.map nodL) hlt2 hl [41] (by simp)
 rw [want, if_pos h3, List.tail_drop]
 clear h3
 show SatO _ _ _ (outN l ns f (if hd (l.drop (k + 1)) = [41] then R.ok [] (l.drop (k + 1)).tail else _))
 by_cases h4 : hd (l.drop (k + 1)) = [41]
 · have hlt3 := hd_lt h4 (by simp)
   rw [if_pos h4, List.tail_drop]
   rw [if_pos h4, decide_eq_true h4] at hv
   clear h4
   show SatE _ _ _ _ (.tuple []) (rdN l (l.length - (l.drop (k + 1 + 1)).length) ns ++ fnB f (.d .nil))
   rw [len_drop (by omega)]
   refine SatE_by is_parse_reader_row rfl ?_
   ((repeat' first|refine aw ?_|refine bw (fun _=>?_) fun _=>?_))
   refine WT_frE 4 [0, 1] w1 ?_
   ((repeat' first|refine aw ?_|refine bw (fun _=>?_) fun _=>?_))
   refine WT_frE 4 [0, 1] hv ?_
   ((repeat' first|refine aw ?_|refine bw (fun _=>?_) fun _=>?_))
   exact WT_eret 4 rfl rfl (by exact Uw.wW)
 rw [if_neg h4]
 rw [if_neg h4, decide_eq_false h4] at hv
 rcases name_cases l (k + 1) (ns.map nodL) hlt2 hl with ⟨h5, h6⟩ | ⟨p, h5, hlt3, h6⟩
 · rw [h5]
   have a1 := p_fun1_first l (k + 1) ns f h6
   clear h4
   refine SatP_by is_parse_reader_row rfl ?_
   ((repeat' first|refine aw ?_|refine bw (fun _=>?_) fun _=>?_))
   refine WT_frE 4 [0, 1] w1 ?_
   ((repeat' first|refine aw ?_|refine bw (fun _=>?_) fun _=>?_))
   refine WT_frE 4 [0, 1] hv ?_
   ((repeat' first|refine aw ?_|refine bw (fun _=>?_) fun _=>?_))
   refine WT_frP 4 [0, 1, 2, 3] a1 ?_
   intro H q
   ((repeat' first|refine aw ?_|refine bw (fun _=>?_) fun _=>?_))
   exact WT_epan rfl
 rw [h5]
 have a1 := s_fun1_first l (k + 1) _ ns f p h6
 show SatO _ _ _ (outN l ns f ((pNamesT n (l.drop (k + 1 + 1))).bind fun es r => R.ok ([p] ++ es) r))
 generalize hR : ((pNamesT n (l.drop (k + 1 + 1))).bind fun es r => R.ok ([p] ++ es) r) = Rr
 by_cases hout : Rr = .out
 · rw [hout]; exact trivial
 clear h4 h5
 refine SatO_by is_parse_reader_row rfl (outN_ne hout) ?_
 ((repeat' first|refine aw ?_|refine bw (fun _=>?_) fun _=>?_))
 refine WT_frE 4 [0, 1] w1 ?_
 ((repeat' first|refine aw ?_|refine bw (fun _=>?_) fun _=>?_))
 refine WT_frE 4 [0, 1] hv ?_
 ((repeat' first|refine aw ?_|refine bw (fun _=>?_) fun _=>?_))
 refine WT_frE 4 [0, 1, 2, 3] a1 ?_
 ((repeat' first|refine aw ?_|refine bw (fun _=>?_) fun _=>?_))
 refine WT_loop (fun ((d, k1, m) : List Str × Nat × Nat) => ⟨[(0, .ptr 0 0), (1, V.func n_parse_reader_function_1 [] [V.ptr 3 0, V.ptr 2 0])], heapOf 0 (rdN l k1 ns ++ [.var [.ptr 0 0], .var [.d (.str f), .ref 4 0 0 (rowS d).length, .d (I 0)], .arr 1 (rowS d)]), 5, [], 4⟩)
   (fun (d, k1, m) => ((pNamesT m (l.drop k1)).bind fun es r => R.ok (d ++ es) r) = Rr ∧ m ≤ n ∧ k1 ≤ l.length ∧ k ≤ k1 ∧ d.length ≤ k1 ∧ d ≠ []) (fun (_, _, m) => m) ([p], k + 1 + 1, n) (by exact Uw.wW) ⟨hR, Nat.le_refl _, hlt3, by omega, by simp, by simp⟩ ?_
 clear hR h6 a1 w1 hv
 rintro ⟨d, k1, m⟩ ⟨hR, hm, hk1, hk2, hd1, hd0⟩
 cases m with
 | zero => rw [pNamesT] at hR; exact absurd hR.symm hout
 | succ m =>
   rw [pNamesT] at hR
   have hv := s_parse_reader_have l k1 (ns.map nodL) hk1 hl [44] (by simp)
   by_cases hs : hd (l.drop k1) = [44]
   · have hlt := hd_lt hs (by simp)
     rw [if_pos hs, List.tail_drop] at hR
     rw [if_pos hs, decide_eq_true hs] at hv
     rcases name_cases l (k1 + 1) (ns.map nodL) (by omega) hl with ⟨h0, h1⟩ | ⟨y, h0, hlt4, h1⟩
     · rw [h0] at hR
       have hb : outN l ns f Rr = .bad := by rw [← hR]; rfl
       have a1 := p_fun1_next l (k1 + 1) ns f d h1
       clear hR hout hs h0 h1 hd0
       ((repeat' first|refine aw ?_|refine bw (fun _=>?_) fun _=>?_))
       refine WT_frE 5 [0, 1] hv ?_
       ((repeat' first|refine aw ?_|refine bw (fun _=>?_) fun _=>?_))
       refine WT_frP 5 [0, 1, 2, 3, 4] a1 ?_
       intro h q
       ((repeat' first|refine aw ?_|refine bw (fun _=>?_) fun _=>?_))
       exact WT_throw (WT_opan 4 hb rfl)
     · rw [h0] at hR
       have hR : ((pNamesT m (l.drop (k1 + 1 + 1))).bind fun es r => R.ok ((d ++ [y]) ++ es) r) = Rr := by
         rw [← hR]
         show _ = R.bind (R.bind (pNamesT m (l.drop (k1 + 1 + 1))) _) _
         cases pNamesT m (l.drop (k1 + 1 + 1)) with
         | ok es r => show R.ok (d ++ [y] ++ es) r = R.ok (d ++ (y :: es)) r; rw [List.append_assoc]; rfl
         | bad => rfl
         | out => rfl
       have a1 := s_fun1_next l (k1 + 1) _ ns f y d (by omega) h1
       have hd2 : (d ++ [y]) ≠ [] := by simp
       clear hout hs h0 h1 hd0
       ((repeat' first|refine aw ?_|refine bw (fun _=>?_) fun _=>?_))
       refine WT_frE 5 [0, 1] hv ?_
       ((repeat' first|refine aw ?_|refine bw (fun _=>?_) fun _=>?_))
       refine WT_frE 5 [0, 1, 2, 3, 4] a1 ?_
       ((repeat' first|refine aw ?_|refine bw (fun _=>?_) fun _=>?_))
       exact WT_again (d ++ [y], k1 + 1 + 1, m) ⟨hR, by omega, hlt4, by omega, by simp; omega, hd2⟩ (by simp only; omega) (by exact Uw.wW)
   · rw [if_neg hs] at hR
     rw [if_neg hs, decide_eq_false hs] at hv
     by_cases hw : hd (l.drop k1) = [41]
     · have hlt := hd_lt hw (by simp)
       have w1 := s_parse_reader_want l k1 (ns.map nodL) hk1 hl [41] (by simp) hw
       rw [want, if_pos hw, List.tail_drop] at hR
       have hR : R.ok (d ++ []) (l.drop (k1 + 1)) = Rr := hR
       rw [List.append_nil] at hR
       have hfz : ((rowS d).drop 0).take (rowS d).length = rowS d := by simp
       have hb : outN l ns f Rr = .ok (.tuple []) (rdN l (k1 + 1) ns ++ fnB f (.d (.slice 1 (rowS d) false))) := by
         rw [← hR]
         show Out.ok _ (rdN l (l.length - (l.drop (k1 + 1)).length) _ ++ fnB f (.d (strsD d))) = _
         rw [len_drop (by omega)]
         unfold strsD
         rw [if_neg hd0]
       clear hR hout hs hw hd0
       ((repeat' first|refine aw ?_|refine bw (fun _=>?_) fun _=>?_))
       refine WT_frE 5 [0, 1] hv ?_
       ((repeat' first|refine aw ?_|refine bw (fun _=>?_) fun _=>?_))
       refine WT_break ?_
       refine WT_frE 5 [0, 1] w1 ?_
       ((repeat' first|refine aw ?_|refine bw (fun _=>?_) fun _=>?_))
       exact WT_oend 4 hb rfl rfl (by exact Uw.wW)
     · have w1 := p_parse_reader_want l k1 (ns.map nodL) hk1 hl [41] (by simp) hw
       have hb : outN l ns f Rr = .bad := by
         rw [want, if_neg hw] at hR; rw [← hR]; rfl
       clear hR hout hs hw hd0
       ((repeat' first|refine aw ?_|refine bw (fun _=>?_) fun _=>?_))
       refine WT_frE 5 [0, 1] hv ?_
       ((repeat' first|refine aw ?_|refine bw (fun _=>?_) fun _=>?_))
       refine WT_break ?_
       refine WT_frP 5 [0, 1] w1 ?_
       intro h q
       ((repeat' first|refine aw ?_|refine bw (fun _=>?_) fun _=>?_))
       exact WT_opan 4 hb rfl
end Uw.Tryd
namespace Uw.Tryd
open Go Uw
theorem useN {f : Str} {vs : List V} {g : FuncId} {l : List Tok} {k : Nat} {ns : List Nod} {bs : List Blk} {x : R (List Str)} (h : SatO g vs bs (outN l ns f x)) (hk : k ≤ l.length) (hs : ∀ e r, x = .ok e r → Suf (l.drop k) r 0) :
   x = .out ∨ (x = .bad ∧ SatP P0 g vs bs wrongD) ∨ ∃ e k', x = .ok e (l.drop k') ∧ k' ≤ l.length ∧ k ≤ k' ∧ SatE P0 g vs bs (.tuple []) (rdN l k' ns ++ fnB f (.d (strsD e))) := by
 cases x with
 | out => exact .inl rfl
 | bad => exact .inr (.inl ⟨rfl, h⟩)
 | ok e r =>
   obtain ⟨k', h1, rfl, h2⟩ := suf_at (hs e r rfl) hk
   refine .inr (.inr ⟨e, k', rfl, h1, h2, ?_⟩)
   have h : SatE P0 g vs bs (.tuple []) (rdN l (l.length - (l.drop k').length) ns ++ fnB f (.d (strsD e))) := h
   rw [len_drop h1] at h
   exact h
theorem suf_names {n : Nat} {r r' : List Tok} {x : List Str} (h : pNames n r = .ok x r') : Suf r r' 0 := by
 rw [pNames] at h
 obtain ⟨_, r1, h1, h⟩ := bind_ok.1 h
 have s1 := Suf.want (by simp) h1
 split at h
 · rename_i hh
   injection h with _ h
   subst h
   exact (s1.trans (Suf.hd hh (by simp))).le (Nat.zero_le _)
 · obtain ⟨s, r2, h2, h⟩ := bind_ok.1 h
   obtain ⟨ss, r3, h3, h⟩ := bind_ok.1 h
   injection h with _ h
   subst h
   exact (s1.trans ((Suf.name h2).trans (suf_namesT n _ _ _ h3))).le (Nat.zero_le _)
theorem c_fun (l : List Tok) (hl : l.length < 1000000) (n : Nat) (k : Nat) (ns : List Nod) (hk : k ≤ l.length) (hn : ns.length ≤ k) : SatO n_parse_reader_function [.ptr 0 0] (rdN l k ns) (outF l ns (pFun n (l.drop k))) := by
 rw [pFun]
 by_cases h0 : hd (l.drop k) = sFunc
 rotate_left
 · rw [want, if_neg h0]
   have w0 := p_parse_reader_want l k (ns.map nodL) hk hl sFunc (by decide) h0
   clear h0
   refine SatP_by is_parse_reader_function rfl ?_
   ((repeat' first|refine aw ?_|refine bw (fun _=>?_) fun _=>?_))
   refine WT_frP 4 [0, 1] w0 ?_
   intro H q
   ((repeat' first|refine aw ?_|refine bw (fun _=>?_) fun _=>?_))
   exact WT_epan rfl
 have hlt := hd_lt h0 (by decide)
 have w0 := s_parse_reader_want l k (ns.map nodL) hk hl sFunc (by decide) h0
 rw [want, if_pos h0, List.tail_drop]
 clear h0
 show SatO _ _ _ (outF l ns ((pName (l.drop (k + 1))).bind _))
 rcases name_cases l (k + 1) (ns.map nodL) hlt hl with ⟨h1, h2⟩ | ⟨f, h1, hlt1, h2⟩
 · rw [h1]
   refine SatP_by is_parse_reader_function rfl ?_
   ((repeat' first|refine aw ?_|refine bw (fun _=>?_) fun _=>?_))
   refine WT_frE 4 [0, 1] w0 ?_
   ((repeat' first|refine aw ?_|refine bw (fun _=>?_) fun _=>?_))
   refine WT_frP 4 [0, 1] h2 ?_
   intro H q
   ((repeat' first|refine aw ?_|refine bw (fun _=>?_) fun _=>?_))
   exact WT_epan rfl
 rw [h1]
 show SatO _ _ _ (outF l ns ((pNames n (l.drop (k + 1 + 1))).bind fun ar r => (pBlock n r).bind fun b r => .ok ⟨f, ar, b⟩ r))
 rcases useN (c_names l hl n (k + 1 + 1) ns f hlt1 (by omega)) hlt1 (fun e r h => suf_names h) with h3 | ⟨h3, h4⟩ | ⟨ar, k2, h3, hk2, hk2', h4⟩
 · rw [h3]; exact trivial
 · rw [h3]
   refine SatP_by is_parse_reader_function rfl ?_
   ((repeat' first|refine aw ?_|refine bw (fun _=>?_) fun _=>?_))
   refine WT_frE 4 [0, 1] w0 ?_
   ((repeat' first|refine aw ?_|refine bw (fun _=>?_) fun _=>?_))
   refine WT_frE 4 [0, 1] h2 ?_
   ((repeat' first|refine aw ?_|refine bw (fun _=>?_) fun _=>?_))
   refine WT_frP 5 [0, 1, 2, 4] h4 ?_
   intro H q
   ((repeat' first|refine aw ?_|refine bw (fun _=>?_) fun _=>?_))
   exact WT_epan rfl
 rw [h3]
 show SatO _ _ _ (outF l ns ((pBlock n (l.drop k2)).bind fun b r => .ok ⟨f, ar, b⟩ r))
 rcases useB ((cs l hl n n (Nat.le_refl _)).block k2 ns hk2 (by omega)) hk2 (fun e r h => (suf_s n).block _ _ _ h) with h5 | ⟨h5, h6⟩ | ⟨b, k3, h5, hk3, hk3', h6⟩
 · rw [h5]; exact trivial
 · rw [h5]
   refine SatP_by is_parse_reader_function rfl ?_
   ((repeat' first|refine aw ?_|refine bw (fun _=>?_) fun _=>?_))
   refine WT_frE 4 [0, 1] w0 ?_
   ((repeat' first|refine aw ?_|refine bw (fun _=>?_) fun _=>?_))
   refine WT_frE 4 [0, 1] h2 ?_
   ((repeat' first|refine aw ?_|refine bw (fun _=>?_) fun _=>?_))
   refine WT_frE 5 [0, 1, 2, 4] h4 ?_
   ((repeat' first|refine aw ?_|refine bw (fun _=>?_) fun _=>?_))
   refine WT_frP 5 [0, 1] h6 ?_
   intro h q
   ((repeat' first|refine aw ?_|refine bw (fun _=>?_) fun _=>?_))
   exact WT_epan rfl
 rw [h5]
 show SatE _ _ _ _ (.agg [.d (.str f), .d (strsD ar), .d (I ((ns.length + b.sz : Nat)))]) (rdN l (l.length - (l.drop k3).length) (ns ++ b.all ns.length))
 rw [len_drop hk3]
 have hz : strsD ar = .nil ∨ strsD ar = .slice 1 (rowS ar) false := by
   unfold strsD
   split
   · exact .inl rfl
   · exact .inr rfl
 rcases hz with e | e
 all_goals rw [e] at h4 ⊢
 all_goals refine SatE_by is_parse_reader_function rfl ?_
 all_goals ((repeat' first|refine aw ?_|refine bw (fun _=>?_) fun _=>?_))
 all_goals refine WT_frE 4 [0, 1] w0 ?_
 all_goals ((repeat' first|refine aw ?_|refine bw (fun _=>?_) fun _=>?_))
 all_goals refine WT_frE 4 [0, 1] h2 ?_
 all_goals ((repeat' first|refine aw ?_|refine bw (fun _=>?_) fun _=>?_))
 all_goals refine WT_frE 5 [0, 1, 2, 4] h4 ?_
 all_goals ((repeat' first|refine aw ?_|refine bw (fun _=>?_) fun _=>?_))
 all_goals refine WT_frE 5 [0, 1] h6 ?_
 all_goals ((repeat' first|refine aw ?_|refine bw (fun _=>?_) fun _=>?_))
 all_goals exact WT_eret 2 rfl rfl (by exact Uw.wW)
end Uw.Tryd
