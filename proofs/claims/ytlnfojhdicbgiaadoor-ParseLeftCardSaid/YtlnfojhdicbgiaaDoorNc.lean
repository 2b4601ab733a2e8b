/- Nc: Ta Tb Tc Td Te Tf Tf2 (merged by merge2.py from the working texts). -/
import Derived.Test.YtlnfojhdicbgiaaDoorN8
import Derived.Lib.ItoaNum
import Derived.Test.YtlnfojhdicbgiaaDoorN6
import Derived.Test.YtlnfojhdicbgiaaDoorShelf
import Derived.Lib.AppendIntMem
import Derived.Test.YtlnfojhdicbgiaaDoorN5
import Derived.Test.YtlnfojhdicbgiaaDoorNa
set_option maxRecDepth 4000
set_option maxHeartbeats 2000000
set_option linter.unusedSimpArgs false
set_option linter.unnecessarySimpa false
set_option linter.unusedVariables false
set_option linter.unusedSectionVars false
namespace Uw.Tryd
open Go Uw
def tightO (k : Int) : Int := if k = 6 then 0 else if k = 7 then 0 else if k = 3 then 1 else if k = 4 then 1 else if k = 5 then 2 else 3
def signO (k : Int) : Str := if k = 6 then [60] else if k = 7 then [61, 61] else if k = 3 then [43] else if k = 4 then [45] else if k = 5 then [42] else []
mutual
def wEx : Ex → Int → List Str
 | .num n, _ => [Lib.itoa n]
 | .name s, _ => [s]
 | .bin k a b, l => if tightO k < l then [[40]] ++ (wEx a (max (tightO k) 1) ++ [signO k] ++ wEx b (tightO k + 1)) ++ [[41]] else wEx a (max (tightO k) 1) ++ [signO k] ++ wEx b (tightO k + 1)
 | .call o v ar, _ => [o, [46], v] ++ ([[40]] ++ wExs ar ++ [[41]])
def wExs : Exs → List Str
 | .nil => []
 | .cons e r => wEx e 0 ++ wTail r
def wTail : Exs → List Str
 | .nil => []
 | .cons e r => [[44]] ++ wEx e 0 ++ wTail r
end
def wArgs (ar : Exs) : List Str := [[40]] ++ wExs ar ++ [[41]]
mutual
def wStm : Stm → List Str
 | .set s e => [s, [61]] ++ wEx e 0 ++ [[59]]
 | .task par to f ar => (if to = [] then [] else [to, [61]]) ++ [if par then sPar else sSpawn, f] ++ wArgs ar ++ [[59]]
 | .sync => [sSync] ++ [[59]]
 | .if1 e a => [sIf] ++ wEx e 0 ++ ([[123]] ++ wBl a ++ [[125]])
 | .if2 e a b => [sIf] ++ wEx e 0 ++ ([[123]] ++ wBl a ++ [[125]]) ++ [sElse] ++ ([[123]] ++ wBl b ++ [[125]])
 | .loop e a => [sWhile] ++ wEx e 0 ++ ([[123]] ++ wBl a ++ [[125]])
 | .one k e => [if k = 15 then sReturn else sAssert] ++ wEx e 0 ++ [[59]]
 | .act o v ar => wEx (.call o v ar) 0 ++ [[59]]
def wBl : Bl → List Str
 | .nil => []
 | .cons s r => wStm s ++ wBl r
end
def wBlock (b : Bl) : List Str := [[123]] ++ wBl b ++ [[125]]
def kindS (k : Int) : Str := if k = 0 then sCell else if k = 1 then sMap else if k = 2 then sStack else sChan
def wDec (d : Dec) : List Str := [kindS d.kind, d.name] ++ (if d.n ≠ 0 then [[61], Lib.itoa d.n] else []) ++ [[59]]
def wStrs : List Str → List Str
 | [] => []
 | s :: r => [s] ++ r.flatMap fun s => [[44], s]
def wFn (f : Fn) : List Str := [sFunc, f.name, [40]] ++ wStrs f.args ++ [[41]] ++ wBlock f.body
def wProg (x : List Dec × List Fn) : List Str := x.1.flatMap wDec ++ x.2.flatMap wFn
def longR (s : Str) : Bool := match s with
 | [] => false
 | c :: _ => (decide (97 ≤ c.toNat) && decide (c.toNat ≤ 122)) || (decide (65 ≤ c.toNat) && decide (c.toNat ≤ 90)) || (decide (48 ≤ c.toNat) && decide (c.toNat ≤ 57))
def joinR : Str → List Str → List UInt8
 | _, [] => []
 | a, s :: r => (if longR a && longR s then [32] else []) ++ s ++ joinR s r
mutual
theorem wEx_len : ∀ (e : Ex) (l : Int), (wEx e l).length + 1 ≤ 7 * e.sz
 | .num _, _ => by simp [wEx, Ex.sz]
 | .name _, _ => by simp [wEx, Ex.sz]
 | .bin k a b, l => by
   have h1 := wEx_len a (max (tightO k) 1)
   have h2 := wEx_len b (tightO k + 1)
   rw [wEx, Ex.sz]
   split <;> simp <;> omega
 | .call o v ar, _ => by
   have := wExs_len ar
   rw [wEx, Ex.sz]
   simp; omega
theorem wExs_len : ∀ (e : Exs), (wExs e).length ≤ 7 * e.sz
 | .nil => by simp [wExs]
 | .cons e r => by
   have h1 := wEx_len e 0
   have h2 := wTail_len r
   rw [wExs, Exs.sz]
   simp; omega
theorem wTail_len : ∀ (e : Exs), (wTail e).length ≤ 7 * e.sz
 | .nil => by simp [wTail]
 | .cons e r => by
   have h1 := wEx_len e 0
   have h2 := wTail_len r
   have := e.sz_pos
   rw [wTail, Exs.sz]
   simp; omega
end
end Uw.Tryd
namespace Uw.Tryd
open Go Uw
section
open Go.Proofs Go.RowKit
theorem s_strconv_Itoa (n : Int) (h0 : -9223372036854775808 ≤ n) (h1 : n ≤ 9223372036854775807) : Ret P0 n_strconv_Itoa [I n] (.str (Lib.itoa n)) := by
 intro w J vs hG hr
 obtain ⟨v, vs', rfl, hv, hr⟩ := hr
 simp only [RelL] at hr; subst hr
 simp only [RelI] at hv; subst hv
 refine (Tryd.strconv_Itoa n h0 h1 w hG.2.2).mono ?_
 rintro e w' ⟨rfl, k, os, rfl⟩
 exact ⟨_, rfl, rfl, Lib.below_grow _ w (Nat.le_refl _) k os⟩
end
def rowT (ys : List Str) : List (List Dat) := ys.map fun s => [.str s]
theorem rowT_app (a b : List Str) : rowT (a ++ b) = rowT a ++ rowT b := by simp [rowT]
def wroB (m : Nat) (p : Nat → Bool) : List (List Dat) := (List.range m).map fun i => [.bool (p i)]
def wr (ds fs ns : List (List Dat)) (p : Nat → Bool) (ws : List Str) : List Blk :=
 [.var [.d (.slice 3 ds false), .d (.slice 3 fs false), .d (.slice 5 ns false), .ref 1 0 0 (wroB ns.length p).length, .ref 2 0 0 (rowT ws).length], .mt 1 0 (wroB ns.length p), .arr 1 (rowT ws)]
theorem s_writer_put (ds fs ns : List (List Dat)) (p : Nat → Bool) (ws l : List Str) (h : ws.length + l.length < 1000000) : SatE P0 n_parse_writer_put [.ptr 0 0, .d (.slice 1 (rowT l) true)] (wr ds fs ns p ws) (.tuple []) (wr ds fs ns p (ws ++ l)) := by
 have h1 : (rowT ws).length = ws.length := by simp [rowT]
 have h2 : (rowT l).length = l.length := by simp [rowT]
 rw [wr, wr, rowT_app]
 generalize wroB ns.length p = wro at *
 generalize rowT ws = x at *
 generalize rowT l = y at *
 refine SatE_by is_parse_writer_put rfl ?_
 ((repeat' first|refine aw ?_|refine bw (fun _=>?_) fun _=>?_))
 exact WT_eend 3 rfl rfl (by exact Uw.wW)
def setP (p : Nat → Bool) (k : Nat) : Nat → Bool := fun i => p i || decide (i = k)
theorem wro_set (m : Nat) (p : Nat → Bool) (k : Nat) : (wroB m p).set k [.bool true] = wroB m (setP p k) := by
 refine List.ext_getElem (by simp [wroB]) fun i h1 h2 => ?_
 simp only [wroB, List.getElem_set, List.getElem_map, List.getElem_range, setP]
 by_cases h : k = i
 · subst h; simp
 · rw [if_neg h]; simp only [show ¬ i = k from fun e => h e.symm, decide_false, Bool.or_false]
theorem s_writer_node (ds fs ns : List (List Dat)) (p : Nat → Bool) (ws : List Str) (k : Nat) (hk : k < ns.length) (hn : ns.length < 1000000) (hp : p k = false) (x : Nd) (hx : ns[k]? = some (ndL x)) : SatE P0 n_parse_writer_node [.ptr 0 0, .d (I k)] (wr ds fs ns p ws) (.agg [.d (I x.kind), .d (I x.n), .d (.str x.name), .d (.str x.name2), .d (intsD x.of)]) (wr ds fs ns (setP p k) ws) := by
 have hw : (wroB ns.length p)[0 + ((k : Int)).toNat]? = some [.bool false] := by
   rw [show 0 + ((k : Int)).toNat = k by omega]
   simp [wroB, hk, hp]
 have hx' : ns[((k : Int)).toNat]? = some (ndL x) := by rw [show ((k : Int)).toNat = k by omega]; exact hx
 have hs := wro_set ns.length p k
 have hs' : (wroB ns.length p).set (0 + ((k : Int)).toNat) [.bool true] = wroB ns.length (setP p k) := by rw [show 0 + ((k : Int)).toNat = k by omega]; exact hs
 have hl : (wroB ns.length p).length = ns.length := by simp [wroB]
 rw [wr, wr, ← hs']
 clear hs hs'
 generalize wroB ns.length p = wro at *
 generalize rowT ws = y at *
 refine SatE_by is_parse_writer_node rfl ?_
 ((repeat' first|refine aw ?_|refine bw (fun _=>?_) fun _=>?_))
 exact WT_eret 3 rfl rfl (by exact Uw.wW)
theorem s_parse_binding (k : Int) : Ret P0 n_parse_binding [I k] (.tuple [I (tightO k), .str (signO k)]) := by
 unfold tightO signO
 by_cases h6 : k = 6
 · subst h6
   refine Ret_by is_parse_binding rfl ?_
   ((repeat' first|refine aw ?_|refine bw (fun _=>?_) fun _=>?_))
   exact WT_ret rfl rfl rfl rfl rfl
 by_cases h7 : k = 7
 · subst h7
   refine Ret_by is_parse_binding rfl ?_
   ((repeat' first|refine aw ?_|refine bw (fun _=>?_) fun _=>?_))
   exact WT_ret rfl rfl rfl rfl rfl
 by_cases h3 : k = 3
 · subst h3
   refine Ret_by is_parse_binding rfl ?_
   ((repeat' first|refine aw ?_|refine bw (fun _=>?_) fun _=>?_))
   exact WT_ret rfl rfl rfl rfl rfl
 by_cases h4 : k = 4
 · subst h4
   refine Ret_by is_parse_binding rfl ?_
   ((repeat' first|refine aw ?_|refine bw (fun _=>?_) fun _=>?_))
   exact WT_ret rfl rfl rfl rfl rfl
 by_cases h5 : k = 5
 · subst h5
   refine Ret_by is_parse_binding rfl ?_
   ((repeat' first|refine aw ?_|refine bw (fun _=>?_) fun _=>?_))
   exact WT_ret rfl rfl rfl rfl rfl
 rw [if_neg h6, if_neg h7, if_neg h3, if_neg h4, if_neg h5, if_neg h6, if_neg h7, if_neg h3, if_neg h4, if_neg h5]
 refine Ret_by is_parse_binding rfl ?_
 ((repeat' first|refine aw ?_|refine bw (fun _=>?_) fun _=>?_))
 exact WT_ret rfl rfl rfl rfl rfl
end Uw.Tryd
namespace Uw.Tryd
open Go Uw
def EQD (P : Program) (b : Nat) (res : List MRes) (v : V) (bs' : List Blk) (e : MExit) (st : St) : Prop :=
 (e = .normal ∨ e = .ret) ∧ ∃ g fs cs, st.defers = [.func g fs cs] ∧ SatCD P g (fs ++ cs) st.heap st.next fun r h' nx' => (∃ v0, r = .val v0) ∧ ∃ vs, resV { st with heap := h', next := nx', defers := [] } res = some vs ∧ Weak ⟨[(0, packV vs)], h', nx', [], b⟩ ⟨[(0, v)], heapOf 0 bs', bs'.length, [], b⟩
theorem SatE_byD {P : Program} {f : FuncId} {vs : List V} {bs bs' : List Blk} {v : V} {m : MFun} (hf : IsFun P f m) (hn : Nat.ble vs.length m.n = true) (hw : WT P (EQD P bs.length m.res v bs') (exec m.code ⟨initRegs 0 vs, heapOf 0 bs, bs.length, [], bs.length⟩ Tree.done)) : SatE P f vs bs v bs' := by
 refine SatC.weakE (R0 := fun r h n => ∃ u, r = .val u ∧ Weak ⟨[(0, u)], h, n, [], bs.length⟩ ⟨[(0, v)], heapOf 0 bs', bs'.length, [], bs.length⟩) (SatC_of_execD hf hn (WT.mono ?_ _ hw)) ?_
 · rintro e st ⟨he, g, fs, cs, hd, hs⟩
   refine ⟨st, .inl rfl, .inr ⟨he, g, fs, cs, hd, hs.1, fun c w0 F gvs u h1 h2 h3 h4 h5 => (hs.2 c w0 F gvs u h1 h2 h3 h4 h5).mono ?_⟩⟩
   rintro e' u' w' ⟨hu, c', r, nx', e1, e2, e3, e4, e5, e6, e7, h1, vs, h2, h3⟩
   exact ⟨hu, c', r, nx', e1, e2, e3, e4, e5, e6, e7, h1, vs, h2, _, rfl, h3⟩
 · rintro r0 h0 n0 ⟨u, rfl, hw⟩
   exact ⟨u, v, _, _, rfl, hw, rfl, rfl, rfl⟩
def At (NS : List Nod) (b : Nat) (l : List Nod) : Prop := ∀ j (h : j < l.length), NS[b + j]? = some l[j]
theorem At.left {NS : List Nod} {b : Nat} {x y : List Nod} (h : At NS b (x ++ y)) : At NS b x := fun j hj => by
 rw [h j (by simp; omega), List.getElem_append_left hj]
theorem At.right {NS : List Nod} {b : Nat} {x y : List Nod} (h : At NS b (x ++ y)) : At NS (b + x.length) y := fun j hj => by
 rw [show b + x.length + j = b + (x.length + j) by omega, h (x.length + j) (by simp; omega)]
 simp
theorem At.one {NS : List Nod} {b : Nat} {x : Nod} (h : At NS b [x]) : NS[b]? = some x := h 0 (by simp)
def nsL (NS : List Nod) : List (List Dat) := NS.map fun x => ndL x.nd
theorem nsL_get {NS : List Nod} {b : Nat} {x : Nod} (h : NS[b]? = some x) : b < (nsL NS).length ∧ (nsL NS)[b]? = some (ndL x.nd) := by
 obtain ⟨h1, h2⟩ := List.getElem?_eq_some_iff.1 h
 refine ⟨by simpa [nsL] using h1, ?_⟩
 simp [nsL, h]
def orR (p : Nat → Bool) (b n : Nat) : Nat → Bool := fun i => p i || (decide (b ≤ i) && decide (i < b + n))
theorem orR_one (p : Nat → Bool) (b : Nat) : setP p b = orR p b 1 := by
 funext i
 simp only [setP, orR]
 by_cases h : i = b
 · subst h; simp
 · have : ¬ (b ≤ i ∧ i < b + 1) := by omega
   by_cases h1 : b ≤ i
   · simp [h, show ¬ i < b + 1 by omega]
   · simp [h, h1]
theorem orR_zero (p : Nat → Bool) (b : Nat) : orR p b 0 = p := by
 funext i
 simp only [orR]
 by_cases h1 : b ≤ i
 · simp [show ¬ i < b by omega]
 · simp [h1]
theorem orR_two (p : Nat → Bool) (b x y : Nat) : orR (orR p b x) (b + x) y = orR p b (x + y) := by
 funext i
 simp only [orR]
 by_cases h1 : i < b
 · simp [show ¬ b ≤ i by omega, show ¬ b + x ≤ i by omega]
 · by_cases h2 : i < b + x
   · simp [show b ≤ i by omega, h2, show i < b + (x + y) by omega]
   · by_cases h3 : i < b + (x + y)
     · simp [show b ≤ i by omega, show b + x ≤ i by omega, h3, show i < b + x + y by omega]
     · simp [h2, h3, show ¬ i < b + x + y by omega]
theorem orR_comm (p : Nat → Bool) (b x c y : Nat) : orR (orR p b x) c y = orR (orR p c y) b x := by
 funext i
 simp only [orR, Bool.or_assoc]
 rw [Bool.or_comm (decide (b ≤ i) && decide (i < b + x))]
theorem orR_root (p : Nat → Bool) (b n : Nat) : orR (setP p (b + n)) b n = orR p b (n + 1) := by rw [orR_one, orR_comm, orR_two]
theorem setP_not {p : Nat → Bool} {k i : Nat} (h : i ≠ k) : setP p k i = p i := by simp [setP, h]
theorem orR_not {p : Nat → Bool} {b n i : Nat} (h : i < b ∨ b + n ≤ i) : orR p b n i = p i := by
 simp only [orR]
 rcases h with h | h
 · simp [show ¬ b ≤ i by omega]
 · simp [show ¬ i < b + n by omega]
def Free (p : Nat → Bool) (b n : Nat) : Prop := ∀ i, b ≤ i → i < b + n → p i = false
abbrev wrN (D F : List (List Dat)) (NS : List Nod) (p : Nat → Bool) (ws : List Str) : List Blk := wr D F (nsL NS) p ws
theorem node_ok (D F : List (List Dat)) (NS : List Nod) (hN : NS.length < 100000) (p : Nat → Bool) (ws : List Str) (k : Nat) (x : Nod) (hx : NS[k]? = some x) (hp : p k = false) :
   SatE P0 n_parse_writer_node [.ptr 0 0, .d (I k)] (wrN D F NS p ws) (.agg [.d (I x.kind), .d (I x.n), .d (.str x.name), .d (.str x.name2), .d (intsD x.nd.of)]) (wrN D F NS (setP p k) ws) := by
 obtain ⟨h1, h2⟩ := nsL_get hx
 exact s_writer_node D F (nsL NS) p ws k h1 (by simp [nsL]; omega) hp x.nd h2
def CEx (D F : List (List Dat)) (NS : List Nod) (e : Ex) : Prop := ∀ b (l : Int) p ws, At NS b (e.flat b) → Free p b e.sz → l ≤ 3 → ws.length + (wEx e l).length < 1000000 →
 SatE P0 n_parse_writer_expression [.ptr 0 0, .d (I ((b + e.sz - 1 : Nat))), .d (I l)] (wrN D F NS p ws) (.tuple []) (wrN D F NS (orR p b e.sz) (ws ++ wEx e l))
theorem cEx_num (D F : List (List Dat)) (NS : List Nod) (hN : NS.length < 100000) (n : Int) (hn : NumOk n) : CEx D F NS (.num n) := by
 intro b l p ws ha hp hl hw
 have h1 := node_ok D F NS hN p ws b ⟨1, n, [], [], []⟩ ha.one (hp b (Nat.le_refl _) (by simp [Ex.sz]))
 have h2 : Ret P0 n_parse_binding [I 1] (.tuple [I 3, .str []]) := s_parse_binding 1
 have h3 := s_strconv_Itoa n (by have := hn.1; omega) (by have := hn.2; omega)
 have h4 := s_writer_put D F (nsL NS) (setP p b) ws [Lib.itoa n] hw
 rw [show b + (Ex.num n).sz - 1 = b from rfl, show orR p b (Ex.num n).sz = setP p b from (orR_one p b).symm]
 show SatE P0 _ _ _ _ (wrN D F NS (setP p b) (ws ++ [Lib.itoa n]))
 clear ha hp hn hw
 generalize Lib.itoa n = s at *
 refine SatE_by is_parse_writer_expression rfl ?_
 ((repeat' first|refine aw ?_|refine bw (fun _=>?_) fun _=>?_))
 refine WT_frE 3 [0, 1, 2] h1 ?_
 ((repeat' first|refine aw ?_|refine bw (fun _=>?_) fun _=>?_))
 refine WT_frE 4 [0, 1, 2] h4 ?_
 ((repeat' first|refine aw ?_|refine bw (fun _=>?_) fun _=>?_))
 exact WT_eend 3 rfl rfl (by exact Uw.wW)
theorem cEx_name (D F : List (List Dat)) (NS : List Nod) (hN : NS.length < 100000) (s : Str) : CEx D F NS (.name s) := by
 intro b l p ws ha hp hl hw
 have h1 := node_ok D F NS hN p ws b ⟨2, 0, s, [], []⟩ ha.one (hp b (Nat.le_refl _) (by simp [Ex.sz]))
 have h2 : Ret P0 n_parse_binding [I 2] (.tuple [I 3, .str []]) := s_parse_binding 2
 have h4 := s_writer_put D F (nsL NS) (setP p b) ws [s] hw
 rw [show b + (Ex.name s).sz - 1 = b from rfl, show orR p b (Ex.name s).sz = setP p b from (orR_one p b).symm]
 show SatE P0 _ _ _ _ (wrN D F NS (setP p b) (ws ++ [s]))
 clear ha hp hw
 refine SatE_by is_parse_writer_expression rfl ?_
 ((repeat' first|refine aw ?_|refine bw (fun _=>?_) fun _=>?_))
 refine WT_frE 3 [0, 1, 2] h1 ?_
 ((repeat' first|refine aw ?_|refine bw (fun _=>?_) fun _=>?_))
 refine WT_frE 4 [0, 1, 2] h4 ?_
 ((repeat' first|refine aw ?_|refine bw (fun _=>?_) fun _=>?_))
 exact WT_eend 3 rfl rfl (by exact Uw.wW)
def BinW (D F : List (List Dat)) (NS : List Nod) (k l t : Int) (sg : Str) (q0 q1 q2 : Nat) (p p1 p2 p3 : Nat → Bool) (ws ws2 ws3 ws4 : List Str) : Prop :=
 SatE P0 n_parse_writer_node [.ptr 0 0, .d (I q0)] (wrN D F NS p ws) (.agg [.d (I k), .d (I 0), .d (.str []), .d (.str []), .d (intsD [(q1 : Int), (q2 : Int)])]) (wrN D F NS p1 ws) →
 Ret P0 n_parse_binding [I k] (.tuple [I t, .str sg]) →
 SatE P0 n_parse_writer_expression [.ptr 0 0, .d (I q1), .d (I (mmI true t 1))] (wrN D F NS p1 ws) (.tuple []) (wrN D F NS p2 ws2) →
 SatE P0 n_parse_writer_put [.ptr 0 0, .d (.slice 1 (rowT [sg]) true)] (wrN D F NS p2 ws2) (.tuple []) (wrN D F NS p2 ws3) →
 SatE P0 n_parse_writer_expression [.ptr 0 0, .d (I q2), .d (I (t + 1))] (wrN D F NS p2 ws3) (.tuple []) (wrN D F NS p3 ws4) →
 SatE P0 n_parse_writer_expression [.ptr 0 0, .d (I q0), .d (I l)] (wrN D F NS p ws) (.tuple []) (wrN D F NS p3 ws4)
theorem bin0 (D F : List (List Dat)) (NS : List Nod) (k l t : Int) (sg : Str) (q0 q1 q2 : Nat) (p p1 p2 p3 : Nat → Bool) (ws ws2 ws3 ws4 : List Str) (hk : 3 ≤ k ∧ k ≤ 7) (ht : 0 ≤ t ∧ t ≤ 3) (hb : ¬ t < l) : BinW D F NS k l t sg q0 q1 q2 p p1 p2 p3 ws ws2 ws3 ws4 := by
 intro h1 h2 h4 h5 h6
 have he0 : ([(q1 : Int), (q2 : Int)].map fun i => [I i])[Int.toNat 0]? = some [I q1] := rfl
 have he1 : ([(q1 : Int), (q2 : Int)].map fun i => [I i])[Int.toNat 1]? = some [I q2] := rfl
 have hk5 : k = 3 ∨ k = 4 ∨ k = 5 ∨ k = 6 ∨ k = 7 := by omega
 rcases hk5 with rfl | rfl | rfl | rfl | rfl
 all_goals refine SatE_by is_parse_writer_expression rfl ?_
 all_goals ((repeat' first|refine aw ?_|refine bw (fun _=>?_) fun _=>?_))
 all_goals refine WT_frE 3 [0, 1, 2] h1 ?_
 all_goals ((repeat' first|refine aw ?_|refine bw (fun _=>?_) fun _=>?_))
 all_goals refine WT_frE 4 [0, 1, 2] h4 ?_
 all_goals ((repeat' first|refine aw ?_|refine bw (fun _=>?_) fun _=>?_))
 all_goals refine WT_frE 4 [0, 1, 2] h5 ?_
 all_goals ((repeat' first|refine aw ?_|refine bw (fun _=>?_) fun _=>?_))
 all_goals refine WT_frE 4 [0, 1, 2] h6 ?_
 all_goals ((repeat' first|refine aw ?_|refine bw (fun _=>?_) fun _=>?_))
 all_goals exact WT_eend 3 rfl rfl (by exact Uw.wW)
end Uw.Tryd
namespace Uw.Tryd
open Go Uw
theorem bin1 (D F : List (List Dat)) (NS : List Nod) (k l t : Int) (sg : Str) (q0 q1 q2 : Nat) (p p1 p2 p3 : Nat → Bool) (ws ws1 ws2 ws3 ws4 : List Str) (hk : 3 ≤ k ∧ k ≤ 7) (ht : 0 ≤ t ∧ t ≤ 3) (hb : t < l) (hl4 : ws4.length + 1 < 1000000)
   (h1 : SatE P0 n_parse_writer_node [.ptr 0 0, .d (I q0)] (wrN D F NS p ws) (.agg [.d (I k), .d (I 0), .d (.str []), .d (.str []), .d (intsD [(q1 : Int), (q2 : Int)])]) (wrN D F NS p1 ws))
   (h2 : Ret P0 n_parse_binding [I k] (.tuple [I t, .str sg]))
   (h3 : SatE P0 n_parse_writer_put [.ptr 0 0, .d (.slice 1 (rowT [[40]]) true)] (wrN D F NS p1 ws) (.tuple []) (wrN D F NS p1 ws1))
   (h4 : SatE P0 n_parse_writer_expression [.ptr 0 0, .d (I q1), .d (I (mmI true t 1))] (wrN D F NS p1 ws1) (.tuple []) (wrN D F NS p2 ws2))
   (h5 : SatE P0 n_parse_writer_put [.ptr 0 0, .d (.slice 1 (rowT [sg]) true)] (wrN D F NS p2 ws2) (.tuple []) (wrN D F NS p2 ws3))
   (h6 : SatE P0 n_parse_writer_expression [.ptr 0 0, .d (I q2), .d (I (t + 1))] (wrN D F NS p2 ws3) (.tuple []) (wrN D F NS p3 ws4)) :
   SatE P0 n_parse_writer_expression [.ptr 0 0, .d (I q0), .d (I l)] (wrN D F NS p ws) (.tuple []) (wrN D F NS p3 (ws4 ++ [[41]])) := by
 have he0 : ([(q1 : Int), (q2 : Int)].map fun i => [I i])[Int.toNat 0]? = some [I q1] := rfl
 have he1 : ([(q1 : Int), (q2 : Int)].map fun i => [I i])[Int.toNat 1]? = some [I q2] := rfl
 have hl5 : (rowT ws4).length < 999999 := by simp [rowT]; omega
 have hr : wrN D F NS p3 (ws4 ++ [[41]]) = [.var [.d (.slice 3 D false), .d (.slice 3 F false), .d (.slice 5 (nsL NS) false), .ref 1 0 0 (wroB (nsL NS).length p3).length, .ref 2 0 0 (rowT ws4 ++ [[Dat.str [41]]]).length], .mt 1 0 (wroB (nsL NS).length p3), .arr 1 (rowT ws4 ++ [[Dat.str [41]]])] := by rw [wrN, wr, rowT_app]; rfl
 rw [hr]
 clear hr
 have hk5 : k = 3 ∨ k = 4 ∨ k = 5 ∨ k = 6 ∨ k = 7 := by omega
 rcases hk5 with rfl | rfl | rfl | rfl | rfl
 all_goals refine SatE_byD is_parse_writer_expression rfl ?_
 all_goals ((repeat' first|refine aw ?_|refine bw (fun _=>?_) fun _=>?_))
 all_goals refine WT_frE 3 [0, 1, 2] h1 ?_
 all_goals ((repeat' first|refine aw ?_|refine bw (fun _=>?_) fun _=>?_))
 all_goals refine WT_frE 4 [0, 1, 2] h3 ?_
 all_goals ((repeat' first|refine aw ?_|refine bw (fun _=>?_) fun _=>?_))
 all_goals refine WT_frE 4 [0, 1, 2] h4 ?_
 all_goals ((repeat' first|refine aw ?_|refine bw (fun _=>?_) fun _=>?_))
 all_goals refine WT_frE 4 [0, 1, 2] h5 ?_
 all_goals ((repeat' first|refine aw ?_|refine bw (fun _=>?_) fun _=>?_))
 all_goals refine WT_frE 4 [0, 1, 2] h6 ?_
 all_goals ((repeat' first|refine aw ?_|refine bw (fun _=>?_) fun _=>?_))
 all_goals refine WT_done ⟨.inl rfl, n_parse_writer_put, _, _, rfl, ?_⟩
 all_goals refine SatCD_of_exec is_parse_writer_put rfl ?_
 all_goals ((repeat' first|refine aw ?_|refine bw (fun _=>?_) fun _=>?_))
 all_goals exact WT_done ⟨_, .inl rfl, rfl, _, rfl, ⟨_, rfl⟩, _, rfl, by exact Uw.wW⟩
theorem tight_le (k : Int) : 0 ≤ tightO k ∧ tightO k ≤ 3 := by unfold tightO; repeat' split <;> omega
theorem tight_le2 (k : Int) (hk : 3 ≤ k ∧ k ≤ 7) : tightO k ≤ 2 := by
 have hk5 : k = 3 ∨ k = 4 ∨ k = 5 ∨ k = 6 ∨ k = 7 := by omega
 rcases hk5 with rfl | rfl | rfl | rfl | rfl <;> decide
theorem cEx_bin (D F : List (List Dat)) (NS : List Nod) (hN : NS.length < 100000) (k : Int) (hk : 3 ≤ k ∧ k ≤ 7) (x y : Ex) (ihx : CEx D F NS x) (ihy : CEx D F NS y) : CEx D F NS (.bin k x y) := by
 intro b l p ws ha hp hl hw
 have hsz : (Ex.bin k x y).sz = x.sz + y.sz + 1 := rfl
 have hx1 := x.sz_pos
 have hy1 := y.sz_pos
 have ha1 : At NS b (x.flat b ++ y.flat (b + x.sz) ++ [⟨k, 0, [], [], [b + x.sz - 1, b + x.sz + y.sz - 1]⟩]) := ha
 have hroot := ha1.right.one
 rw [List.length_append, Ex.flat_len, Ex.flat_len] at hroot
 have hax := ha1.left.left
 have hay := ha1.left.right
 rw [Ex.flat_len] at hay
 have h1 := node_ok D F NS hN p ws (b + (x.sz + y.sz)) _ hroot (hp _ (by omega) (by rw [hsz]; omega))
 have e1 : b + (Ex.bin k x y).sz - 1 = b + (x.sz + y.sz) := by rw [hsz]; omega
 have e2 : orR p b (Ex.bin k x y).sz = orR (orR (setP p (b + (x.sz + y.sz))) b x.sz) (b + x.sz) y.sz := by rw [orR_two, hsz, orR_root]
 have hf1 : Free (setP p (b + (x.sz + y.sz))) b x.sz := fun i h1 h2 => by rw [setP_not (by omega)]; exact hp i h1 (by rw [hsz]; omega)
 have hf2 : Free (orR (setP p (b + (x.sz + y.sz))) b x.sz) (b + x.sz) y.sz := fun i h1 h2 => by rw [orR_not (by omega), setP_not (by omega)]; exact hp i (by omega) (by rw [hsz]; omega)
 rw [e1, e2]
 have ht := tight_le2 k hk
 have ht0 := tight_le k
 have h2 := s_parse_binding k
 by_cases hb : tightO k < l
 · rw [wEx, if_pos hb] at hw ⊢
   have hw' : ws.length + (1 + ((wEx x (max (tightO k) 1)).length + 1 + (wEx y (tightO k + 1)).length) + 1) < 1000000 := by
     simp only [List.length_append, List.length_cons, List.length_nil] at hw; omega
   rw [show ws ++ ([[40]] ++ (wEx x (max (tightO k) 1) ++ [signO k] ++ wEx y (tightO k + 1)) ++ [[41]]) = (ws ++ [[40]] ++ wEx x (max (tightO k) 1) ++ [signO k] ++ wEx y (tightO k + 1)) ++ [[41]] by simp]
   exact bin1 D F NS k l (tightO k) (signO k) _ (b + x.sz - 1) (b + x.sz + y.sz - 1) p _ _ _ ws _ _ _ _ hk ht0 hb (by simp only [List.length_append, List.length_cons, List.length_nil]; omega) h1 h2
     (s_writer_put D F (nsL NS) _ ws [[40]] (by simp; omega))
     (ihx b (max (tightO k) 1) _ (ws ++ [[40]]) hax hf1 (by omega) (by simp; omega))
     (s_writer_put D F (nsL NS) _ _ [signO k] (by simp; omega))
     (ihy (b + x.sz) (tightO k + 1) _ _ hay hf2 (by omega) (by simp; omega))
 · rw [wEx, if_neg hb] at hw ⊢
   have hw' : ws.length + ((wEx x (max (tightO k) 1)).length + 1 + (wEx y (tightO k + 1)).length) < 1000000 := by
     simp only [List.length_append, List.length_cons, List.length_nil] at hw; omega
   rw [show ws ++ (wEx x (max (tightO k) 1) ++ [signO k] ++ wEx y (tightO k + 1)) = ws ++ wEx x (max (tightO k) 1) ++ [signO k] ++ wEx y (tightO k + 1) by simp]
   exact bin0 D F NS k l (tightO k) (signO k) _ (b + x.sz - 1) (b + x.sz + y.sz - 1) p _ _ _ ws _ _ _ hk ht0 hb h1 h2
     (ihx b (max (tightO k) 1) _ ws hax hf1 (by omega) (by omega))
     (s_writer_put D F (nsL NS) _ _ [signO k] (by simp; omega))
     (ihy (b + x.sz) (tightO k + 1) _ _ hay hf2 (by omega) (by simp; omega))
end Uw.Tryd
namespace Uw.Tryd
open Go Uw
def CExs (D F : List (List Dat)) (NS : List Nod) : Exs → Prop
 | .nil => True
 | .cons e r => CEx D F NS e ∧ CExs D F NS r
def intsN (l : List Nat) : List Int := l.map fun (i : Nat) => (i : Int)
theorem length_le_sz : ∀ (ar : Exs), ar.length ≤ ar.sz
 | .nil => Nat.le_refl _
 | .cons e r => by have := e.sz_pos; have := length_le_sz r; simp [Exs.length, Exs.sz]; omega
theorem wTail_app : ∀ (a r : Exs), wTail (a.app r) = wTail a ++ wTail r
 | .nil, r => by simp [Exs.app, wTail]
 | .cons e a, r => by rw [Exs.app, wTail, wTail, wTail_app a r]; simp
theorem app_length : ∀ (a r : Exs), (a.app r).length = a.length + r.length
 | .nil, r => by simp [Exs.app, Exs.length]
 | .cons e a, r => by simp [Exs.app, Exs.length, app_length a r]; omega
theorem wExs_app (a : Exs) (e : Ex) (r : Exs) : wExs (a.app (.cons e r)) = wExs a ++ (if a.length = 0 then [] else [[44]]) ++ wEx e 0 ++ wTail r := by
 cases a with
 | nil => simp [Exs.app, wExs, Exs.length]
 | cons e' a => rw [Exs.app, wExs, wExs, wTail_app, wTail]; simp [Exs.length]
theorem c_arguments (D F : List (List Dat)) (NS : List Nod) (hN : NS.length < 100000) (ar : Exs) (hc : CExs D F NS ar) (b : Nat) (p : Nat → Bool) (ws : List Str) (ha : At NS b (ar.flat b)) (hp : Free p b ar.sz) (hs : ar.sz < 100000) (hw : ws.length + (wArgs ar).length < 1000000) :
   SatE P0 n_parse_writer_arguments [.ptr 0 0, .d (intsD (intsN (ar.places b)))] (wrN D F NS p ws) (.tuple []) (wrN D F NS (orR p b ar.sz) (ws ++ wArgs ar)) := by
 have hl := places_len ar b
 have hl2 := length_le_sz ar
 have hm : ((intsN (ar.places b)).map fun i => [I i]).length = ar.length := by simp [intsN, hl]
 have hw' : ws.length + (2 + (wExs ar).length) < 1000000 := by
   unfold wArgs at hw; simp only [List.length_append, List.length_cons, List.length_nil] at hw; omega
 have h1 := s_writer_put D F (nsL NS) p ws [[40]] (by simp; omega)
 have h9 := s_writer_put D F (nsL NS) (orR p b ar.sz) (ws ++ [[40]] ++ wExs ar) [[41]] (by simp; omega)
 have hfin : ws ++ wArgs ar = ws ++ [[40]] ++ wExs ar ++ [[41]] := by unfold wArgs; simp
 generalize hL : (intsN (ar.places b)).map (fun i => [I i]) = L at hm
 have hLd : intsD (intsN (ar.places b)) = .slice 1 L false := by rw [← hL]; rfl
 rw [hLd, hfin]
 have hel : ∀ (d r : Exs) (e : Ex), ar = d.app (.cons e r) → L[((d.length : Nat) : Int).toNat]? = some [I ((b + d.sz + e.sz - 1 : Nat) : Int)] := by
   intro d r e he
   rw [← hL, he, Exs.app_places, show ((d.length : Nat) : Int).toNat = d.length by omega, ← places_len d b]
   simp [intsN, Exs.places]
 have z0 : orR p b Exs.nil.sz = p := orR_zero p b
 have z1 : ws ++ [[40]] ++ wExs .nil = ws ++ [[40]] := by simp [wExs]
 clear hL hLd
 generalize hT : wrN D F NS (orR p b ar.sz) (ws ++ [[40]] ++ wExs ar ++ [[41]]) = T
 refine SatE_by is_parse_writer_arguments rfl ?_
 ((repeat' first|refine aw ?_|refine bw (fun _=>?_) fun _=>?_))
 refine WT_frE 3 [0, 1, 2] h1 ?_
 ((repeat' first|refine aw ?_|refine bw (fun _=>?_) fun _=>?_))
 refine WT_loop (fun ((d, r) : Exs × Exs) => ⟨[(11, .d (I d.length)), (10, .d (I L.length)), (9, .d (.slice 1 L false)), (0, .ptr 0 0)], heapOf 0 (wrN D F NS (orR p b d.sz) (ws ++ [[40]] ++ wExs d)), 3, [], 3⟩)
   (fun (d, r) => ar = d.app r ∧ CExs D F NS r) (fun (_, r) => r.length) (.nil, ar) (by
     show Weak _ ⟨_, heapOf 0 (wrN D F NS (orR p b Exs.nil.sz) (ws ++ [[40]] ++ wExs .nil)), _, _, _⟩
     rw [z0, z1]
     exact Uw.wW) ⟨rfl, hc⟩ ?_
 clear hc h1 z0 z1
 rintro ⟨d, r⟩ ⟨hd, hc⟩
 have hdl : ar.length = d.length + r.length := by rw [hd, app_length]
 cases r with
 | nil =>
   have hd : ar = d := by rw [hd, Exs.app_nil]
   subst hd
   have hdl : ¬ ar.length < L.length := by omega
   clear hel
   ((repeat' first|refine aw ?_|refine bw (fun _=>?_) fun _=>?_))
   refine WT_break ?_
   ((repeat' first|refine aw ?_|refine bw (fun _=>?_) fun _=>?_))
   refine WT_frE 3 [0, 1, 2] h9 ?_
   ((repeat' first|refine aw ?_|refine bw (fun _=>?_) fun _=>?_))
   subst hT
   exact WT_eend 3 rfl rfl (by exact Uw.wW)
 | cons e r =>
   have hlt : d.length < L.length := by rw [hm, hdl]; simp [Exs.length]
   have he := hel d r e hd
   have hsz : ar.sz = d.sz + (e.sz + r.sz) := by rw [hd, Exs.app_sz, Exs.sz]
   have hae : At NS (b + d.sz) (e.flat (b + d.sz)) := by
     rw [hd, Exs.app_flat, Exs.flat] at ha
     have := ha.right.left
     rw [Exs.flat_len] at this
     exact this
   have hfe : Free (orR p b d.sz) (b + d.sz) e.sz := fun i h1 h2 => by rw [orR_not (by omega)]; exact hp i (by omega) (by omega)
   have hwl : (wExs ar).length = (wExs d).length + (if d.length = 0 then [] else [[44]] : List Str).length + (wEx e 0).length + (wTail r).length := by rw [hd, wExs_app]; simp only [List.length_append]
   have hd' : ar = (d.app (.cons e .nil)).app r := by rw [Exs.app_assoc]; exact hd
   have hsz' : (d.app (.cons e .nil)).sz = d.sz + e.sz := by rw [Exs.app_sz]; rfl
   have hlen' : (d.app (.cons e .nil)).length = d.length + 1 := by rw [app_length]; rfl
   have hor : orR (orR p b d.sz) (b + d.sz) e.sz = orR p b (d.app (.cons e .nil)).sz := by rw [orR_two, hsz']
   by_cases h0 : d.length = 0
   · rw [if_pos h0] at hwl
     have hwn : wExs (d.app (.cons e .nil)) = wExs d ++ wEx e 0 := by rw [wExs_app, if_pos h0]; simp [wTail]
     have hce := hc.1 (b + d.sz) 0 (orR p b d.sz) (ws ++ [[40]] ++ wExs d) hae hfe (by omega) (by simp at *; omega)
     rw [hor, List.append_assoc _ (wExs d), ← hwn] at hce
     clear hel
     ((repeat' first|refine aw ?_|refine bw (fun _=>?_) fun _=>?_))
     refine WT_frE 3 [0, 1, 2] hce ?_
     ((repeat' first|refine aw ?_|refine bw (fun _=>?_) fun _=>?_))
     exact WT_again (d.app (.cons e .nil), r) ⟨hd', hc.2⟩ (by show _ < _; simp [Exs.length]) (by exact Uw.wW)
   · rw [if_neg h0] at hwl
     have hwn : wExs (d.app (.cons e .nil)) = wExs d ++ [[44]] ++ wEx e 0 := by rw [wExs_app, if_neg h0]; simp [wTail]
     have h2 := s_writer_put D F (nsL NS) (orR p b d.sz) (ws ++ [[40]] ++ wExs d) [[44]] (by simp at *; omega)
     have hce := hc.1 (b + d.sz) 0 (orR p b d.sz) (ws ++ [[40]] ++ wExs d ++ [[44]]) hae hfe (by omega) (by simp at *; omega)
     rw [hor, List.append_assoc (ws ++ [[40]]) (wExs d), List.append_assoc (ws ++ [[40]]) (wExs d ++ [[44]]), ← hwn] at hce
     rw [List.append_assoc (ws ++ [[40]]) (wExs d)] at h2
     clear hel
     ((repeat' first|refine aw ?_|refine bw (fun _=>?_) fun _=>?_))
     refine WT_frE 3 [0, 1, 2] h2 ?_
     ((repeat' first|refine aw ?_|refine bw (fun _=>?_) fun _=>?_))
     refine WT_frE 3 [0, 1, 2] hce ?_
     ((repeat' first|refine aw ?_|refine bw (fun _=>?_) fun _=>?_))
     exact WT_again (d.app (.cons e .nil), r) ⟨hd', hc.2⟩ (by show _ < _; simp [Exs.length]) (by exact Uw.wW)
theorem cEx_call (D F : List (List Dat)) (NS : List Nod) (hN : NS.length < 100000) (o v : Str) (ar : Exs) (hc : CExs D F NS ar) : CEx D F NS (.call o v ar) := by
 intro b l p ws ha hp hl hw
 have hsz : (Ex.call o v ar).sz = ar.sz + 1 := rfl
 have ha1 : At NS b (ar.flat b ++ [⟨8, 0, o, v, ar.places b⟩]) := ha
 have hroot := ha1.right.one
 rw [Exs.flat_len] at hroot
 have hlt : b + ar.sz < NS.length := (List.getElem?_eq_some_iff.1 hroot).1
 have h1 := node_ok D F NS hN p ws (b + ar.sz) _ hroot (hp _ (by omega) (by rw [hsz]; omega))
 have e1 : b + (Ex.call o v ar).sz - 1 = b + ar.sz := by rw [hsz]; omega
 have e2 : orR p b (Ex.call o v ar).sz = orR (setP p (b + ar.sz)) b ar.sz := by rw [hsz, orR_root]
 have hf1 : Free (setP p (b + ar.sz)) b ar.sz := fun i h1 h2 => by rw [setP_not (by omega)]; exact hp i h1 (by rw [hsz]; omega)
 have hwe : wEx (.call o v ar) l = [o, [46], v] ++ wArgs ar := rfl
 rw [e1, e2]
 rw [hwe] at hw ⊢
 have hw2 : ws.length + (3 + (wArgs ar).length) < 1000000 := by simp only [List.length_append, List.length_cons, List.length_nil] at hw; omega
 have h3 := s_writer_put D F (nsL NS) (setP p (b + ar.sz)) ws [o, [46], v] (by simp; omega)
 have h4 := c_arguments D F NS hN ar hc b (setP p (b + ar.sz)) (ws ++ [o, [46], v]) ha1.left hf1 (by omega) (by simp; omega)
 have h2 : Ret P0 n_parse_binding [I 8] (.tuple [I 3, .str []]) := s_parse_binding 8
 rw [List.append_assoc] at h4
 have hof : (Nod.nd ⟨8, 0, o, v, ar.places b⟩).of = intsN (ar.places b) := rfl
 rw [hof] at h1
 generalize intsN (ar.places b) = pl at *
 generalize setP p (b + ar.sz) = p1 at *
 generalize orR p1 b ar.sz = p2 at *
 generalize b + ar.sz = q at *
 clear ha hp hw hw2 ha1 hroot hf1 e1 e2 hwe hc hof
 refine SatE_by is_parse_writer_expression rfl ?_
 ((repeat' first|refine aw ?_|refine bw (fun _=>?_) fun _=>?_))
 refine WT_frE 3 [0, 1, 2] h1 ?_
 ((repeat' first|refine aw ?_|refine bw (fun _=>?_) fun _=>?_))
 refine WT_frE 4 [0, 1, 2] h3 ?_
 ((repeat' first|refine aw ?_|refine bw (fun _=>?_) fun _=>?_))
 refine WT_frE 4 [0, 1, 2] h4 ?_
 ((repeat' first|refine aw ?_|refine bw (fun _=>?_) fun _=>?_))
 exact WT_eend 3 rfl rfl (by exact Uw.wW)
end Uw.Tryd
namespace Uw.Tryd
open Go Uw
mutual
theorem wStm_len : ∀ (s : Stm), (wStm s).length ≤ 20 * s.sz
 | .set s e => by have := wEx_len e 0; rw [wStm, Stm.sz]; simp; omega
 | .task par to f ar => by
   have := wExs_len ar
   rw [wStm, Stm.sz, wArgs]
   split <;> simp <;> omega
 | .sync => by simp [wStm, Stm.sz]
 | .if1 e a => by have := wEx_len e 0; have := wBl_len a; rw [wStm, Stm.sz]; simp; omega
 | .if2 e a b => by have := wEx_len e 0; have := wBl_len a; have := wBl_len b; rw [wStm, Stm.sz]; simp; omega
 | .loop e a => by have := wEx_len e 0; have := wBl_len a; rw [wStm, Stm.sz]; simp; omega
 | .one k e => by have := wEx_len e 0; rw [wStm, Stm.sz]; simp; omega
 | .act o v ar => by have := wExs_len ar; rw [wStm, Stm.sz, wEx]; simp; omega
theorem wBl_len : ∀ (s : Bl), (wBl s).length ≤ 20 * s.sz
 | .nil => by simp [wBl]
 | .cons s r => by have := wStm_len s; have := wBl_len r; rw [wBl, Bl.sz]; simp; omega
end
theorem c_child_w (D F : List (List Dat)) (NS : List Nod) (p p2 : Nat → Bool) (ws ws2 : List Str) (par : Bool) (to f : Str) (ps : List Int)
   (h0 : SatE P0 n_parse_writer_put [.ptr 0 0, .d (.slice 1 (rowT [to, [61]]) true)] (wrN D F NS p ws) (.tuple []) (wrN D F NS p (ws ++ [to, [61]])))
   (h1 : SatE P0 n_parse_writer_put [.ptr 0 0, .d (.slice 1 (rowT [if par then sPar else sSpawn, f]) true)] (wrN D F NS p (ws ++ if to = [] then [] else [to, [61]])) (.tuple []) (wrN D F NS p ((ws ++ if to = [] then [] else [to, [61]]) ++ [if par then sPar else sSpawn, f])))
   (h2 : SatE P0 n_parse_writer_arguments [.ptr 0 0, .d (intsD ps)] (wrN D F NS p ((ws ++ if to = [] then [] else [to, [61]]) ++ [if par then sPar else sSpawn, f])) (.tuple []) (wrN D F NS p2 ws2)) :
   SatE P0 n_parse_writer_child [.ptr 0 0, .agg [.d (I (if par then 11 else 10)), .d (I 0), .d (.str to), .d (.str f), .d (intsD ps)]] (wrN D F NS p ws) (.tuple []) (wrN D F NS p2 ws2) := by
 by_cases ht : to = []
 · subst ht
   rw [if_pos rfl, List.append_nil] at h1 h2
   cases par
   · replace h1 : SatE P0 n_parse_writer_put [.ptr 0 0, .d (.slice 1 (rowT [sSpawn, f]) true)] (wrN D F NS p ws) (.tuple []) (wrN D F NS p (ws ++ [sSpawn, f])) := h1
     replace h2 : SatE P0 n_parse_writer_arguments [.ptr 0 0, .d (intsD ps)] (wrN D F NS p (ws ++ [sSpawn, f])) (.tuple []) (wrN D F NS p2 ws2) := h2
     show SatE P0 _ [_, .agg [.d (I 10), _, _, _, _]] _ _ _
     unfold sSpawn at h1 h2
     generalize ws ++ [_, f] = ws1 at *
     refine SatE_by is_parse_writer_child rfl ?_
     ((repeat' first|refine aw ?_|refine bw (fun _=>?_) fun _=>?_))
     refine WT_frE 4 [0, 1, 2] h1 ?_
     ((repeat' first|refine aw ?_|refine bw (fun _=>?_) fun _=>?_))
     refine WT_frE 4 [0, 1, 2] h2 ?_
     ((repeat' first|refine aw ?_|refine bw (fun _=>?_) fun _=>?_))
     exact WT_eend 3 rfl rfl (by exact Uw.wW)
   · replace h1 : SatE P0 n_parse_writer_put [.ptr 0 0, .d (.slice 1 (rowT [sPar, f]) true)] (wrN D F NS p ws) (.tuple []) (wrN D F NS p (ws ++ [sPar, f])) := h1
     replace h2 : SatE P0 n_parse_writer_arguments [.ptr 0 0, .d (intsD ps)] (wrN D F NS p (ws ++ [sPar, f])) (.tuple []) (wrN D F NS p2 ws2) := h2
     show SatE P0 _ [_, .agg [.d (I 11), _, _, _, _]] _ _ _
     unfold sPar at h1 h2
     generalize ws ++ [_, f] = ws1 at *
     refine SatE_by is_parse_writer_child rfl ?_
     ((repeat' first|refine aw ?_|refine bw (fun _=>?_) fun _=>?_))
     refine WT_frE 4 [0, 1, 2] h1 ?_
     ((repeat' first|refine aw ?_|refine bw (fun _=>?_) fun _=>?_))
     refine WT_frE 4 [0, 1, 2] h2 ?_
     ((repeat' first|refine aw ?_|refine bw (fun _=>?_) fun _=>?_))
     exact WT_eend 3 rfl rfl (by exact Uw.wW)
 · rw [if_neg ht] at h1 h2
   cases par
   · replace h1 : SatE P0 n_parse_writer_put [.ptr 0 0, .d (.slice 1 (rowT [sSpawn, f]) true)] (wrN D F NS p (ws ++ [to, [61]])) (.tuple []) (wrN D F NS p (ws ++ [to, [61]] ++ [sSpawn, f])) := h1
     replace h2 : SatE P0 n_parse_writer_arguments [.ptr 0 0, .d (intsD ps)] (wrN D F NS p (ws ++ [to, [61]] ++ [sSpawn, f])) (.tuple []) (wrN D F NS p2 ws2) := h2
     show SatE P0 _ [_, .agg [.d (I 10), _, _, _, _]] _ _ _
     unfold sSpawn at h1 h2
     generalize ws ++ [to, [61]] ++ [_, f] = ws1 at *
     generalize ws ++ [to, [61]] = ws0 at *
     refine SatE_by is_parse_writer_child rfl ?_
     ((repeat' first|refine aw ?_|refine bw (fun _=>?_) fun _=>?_))
     refine WT_frE 4 [0, 1, 2] h0 ?_
     ((repeat' first|refine aw ?_|refine bw (fun _=>?_) fun _=>?_))
     refine WT_frE 4 [0, 1, 2] h1 ?_
     ((repeat' first|refine aw ?_|refine bw (fun _=>?_) fun _=>?_))
     refine WT_frE 4 [0, 1, 2] h2 ?_
     ((repeat' first|refine aw ?_|refine bw (fun _=>?_) fun _=>?_))
     exact WT_eend 3 rfl rfl (by exact Uw.wW)
   · replace h1 : SatE P0 n_parse_writer_put [.ptr 0 0, .d (.slice 1 (rowT [sPar, f]) true)] (wrN D F NS p (ws ++ [to, [61]])) (.tuple []) (wrN D F NS p (ws ++ [to, [61]] ++ [sPar, f])) := h1
     replace h2 : SatE P0 n_parse_writer_arguments [.ptr 0 0, .d (intsD ps)] (wrN D F NS p (ws ++ [to, [61]] ++ [sPar, f])) (.tuple []) (wrN D F NS p2 ws2) := h2
     show SatE P0 _ [_, .agg [.d (I 11), _, _, _, _]] _ _ _
     unfold sPar at h1 h2
     generalize ws ++ [to, [61]] ++ [_, f] = ws1 at *
     generalize ws ++ [to, [61]] = ws0 at *
     refine SatE_by is_parse_writer_child rfl ?_
     ((repeat' first|refine aw ?_|refine bw (fun _=>?_) fun _=>?_))
     refine WT_frE 4 [0, 1, 2] h0 ?_
     ((repeat' first|refine aw ?_|refine bw (fun _=>?_) fun _=>?_))
     refine WT_frE 4 [0, 1, 2] h1 ?_
     ((repeat' first|refine aw ?_|refine bw (fun _=>?_) fun _=>?_))
     refine WT_frE 4 [0, 1, 2] h2 ?_
     ((repeat' first|refine aw ?_|refine bw (fun _=>?_) fun _=>?_))
     exact WT_eend 3 rfl rfl (by exact Uw.wW)
end Uw.Tryd
namespace Uw.Tryd
open Go Uw
def CStm (D F : List (List Dat)) (NS : List Nod) (s : Stm) : Prop := ∀ b p ws, At NS b (s.flat b) → Free p b s.sz → ws.length + 20 * s.sz < 1000000 →
 SatE P0 n_parse_writer_statement [.ptr 0 0, .d (I ((b + s.sz - 1 : Nat)))] (wrN D F NS p ws) (.tuple []) (wrN D F NS (orR p b s.sz) (ws ++ wStm s))
def CBlock (D F : List (List Dat)) (NS : List Nod) (x : Bl) : Prop := ∀ b p ws, At NS b (x.all b) → Free p b (x.sz + 1) → ws.length + 20 * (x.sz + 1) < 1000000 →
 SatE P0 n_parse_writer_block [.ptr 0 0, .d (I ((b + x.sz : Nat)))] (wrN D F NS p ws) (.tuple []) (wrN D F NS (orR p b (x.sz + 1)) (ws ++ wBlock x))
def CBl (D F : List (List Dat)) (NS : List Nod) : Bl → Prop
 | .nil => True
 | .cons s r => CStm D F NS s ∧ CBl D F NS r
def Bl.length : Bl → Nat
 | .nil => 0
 | .cons _ r => r.length + 1
theorem bplaces_len : ∀ (ar : Bl) (b : Nat), (ar.places b).length = ar.length
 | .nil, _ => rfl
 | .cons e r, b => by simp [Bl.places, Bl.length, bplaces_len r]
theorem blength_le : ∀ (ar : Bl), ar.length ≤ ar.sz
 | .nil => Nat.le_refl _
 | .cons e r => by have := e.sz_pos; have := blength_le r; simp [Bl.length, Bl.sz]; omega
theorem wBl_app : ∀ (a r : Bl), wBl (a.app r) = wBl a ++ wBl r
 | .nil, r => by simp [Bl.app, wBl]
 | .cons e a, r => by rw [Bl.app, wBl, wBl, wBl_app a r]; simp
theorem bapp_length : ∀ (a r : Bl), (a.app r).length = a.length + r.length
 | .nil, r => by simp [Bl.app, Bl.length]
 | .cons e a, r => by simp [Bl.app, Bl.length, bapp_length a r]; omega
theorem c_block_w (D F : List (List Dat)) (NS : List Nod) (hN : NS.length < 100000) (x : Bl) (hc : CBl D F NS x) : CBlock D F NS x := by
 intro b p ws ha hp hw
 have hroot := At.one (At.right ha)
 rw [Bl.flat_len] at hroot
 have ha0 : At NS b (x.flat b) := At.left ha
 have h0 := node_ok D F NS hN p ws (b + x.sz) _ hroot (hp _ (by omega) (by omega))
 have hof : (Nod.nd ⟨18, 0, [], [], x.places b⟩).of = intsN (x.places b) := rfl
 rw [hof] at h0
 have hor : orR p b (x.sz + 1) = orR (setP p (b + x.sz)) b x.sz := (orR_root p b x.sz).symm
 rw [hor]
 have hp1 : Free (setP p (b + x.sz)) b x.sz := fun i h1 h2 => by rw [setP_not (by omega)]; exact hp i h1 (by omega)
 generalize setP p (b + x.sz) = p1 at *
 have hl := bplaces_len x b
 have hl2 := blength_le x
 have hwl := wBl_len x
 have hlt : b + x.sz < NS.length := (List.getElem?_eq_some_iff.1 hroot).1
 have hm : ((intsN (x.places b)).map fun i => [I i]).length = x.length := by simp [intsN, hl]
 have h1 := s_writer_put D F (nsL NS) p1 ws [[123]] (by simp; omega)
 have h9 := s_writer_put D F (nsL NS) (orR p1 b x.sz) (ws ++ [[123]] ++ wBl x) [[125]] (by simp; omega)
 have hfin : ws ++ wBlock x = ws ++ [[123]] ++ wBl x ++ [[125]] := by unfold wBlock; simp
 generalize hL : (intsN (x.places b)).map (fun i => [I i]) = L at hm
 have hLd : intsD (intsN (x.places b)) = .slice 1 L false := by rw [← hL]; rfl
 rw [hLd] at h0
 rw [hfin]
 have hel : ∀ (d r : Bl) (e : Stm), x = d.app (.cons e r) → L[((d.length : Nat) : Int).toNat]? = some [I ((b + d.sz + e.sz - 1 : Nat) : Int)] := by
   intro d r e he
   rw [← hL, he, Bl.app_places, show ((d.length : Nat) : Int).toNat = d.length by omega, ← bplaces_len d b]
   simp [intsN, Bl.places]
 have z0 : orR p1 b Bl.nil.sz = p1 := orR_zero p1 b
 have z1 : ws ++ [[123]] ++ wBl .nil = ws ++ [[123]] := by simp [wBl]
 clear hL hLd hof hor ha
 generalize hT : wrN D F NS (orR p1 b x.sz) (ws ++ [[123]] ++ wBl x ++ [[125]]) = T
 generalize b + x.sz = q at h0 ⊢
 have key : ∀ st, Weak st ⟨[(16, .d (I 0)), (15, .d (I L.length)), (14, .d (.slice 1 L false)), (0, .ptr 0 0)], heapOf 0 (wrN D F NS p1 (ws ++ [[123]])), 4, [], 3⟩ → Weak st ⟨[(16, .d (I (Bl.nil.length : Nat))), (15, .d (I L.length)), (14, .d (.slice 1 L false)), (0, .ptr 0 0)], heapOf 0 (wrN D F NS (orR p1 b Bl.nil.sz) (ws ++ [[123]] ++ wBl .nil)), 4, [], 3⟩ := by
   intro st h
   rw [z0, z1]
   exact h
 refine SatE_by is_parse_writer_block rfl ?_
 ((repeat' first|refine aw ?_|refine bw (fun _=>?_) fun _=>?_))
 refine WT_frE 3 [0, 1, 2] h0 ?_
 ((repeat' first|refine aw ?_|refine bw (fun _=>?_) fun _=>?_))
 refine WT_frE 4 [0, 1, 2] h1 ?_
 ((repeat' first|refine aw ?_|refine bw (fun _=>?_) fun _=>?_))
 refine WT_loop (fun ((d, r) : Bl × Bl) => ⟨[(16, .d (I d.length)), (15, .d (I L.length)), (14, .d (.slice 1 L false)), (0, .ptr 0 0)], heapOf 0 (wrN D F NS (orR p1 b d.sz) (ws ++ [[123]] ++ wBl d)), 4, [], 3⟩)
   (fun (d, r) => x = d.app r ∧ CBl D F NS r) (fun (_, r) => r.length) (.nil, x) (key _ (by exact Uw.wW)) ⟨rfl, hc⟩ ?_
 clear hc h1 z0 z1 h0 key
 rintro ⟨d, r⟩ ⟨hd, hc⟩
 have hdl : x.length = d.length + r.length := by rw [hd, bapp_length]
 cases r with
 | nil =>
   have hd : x = d := by rw [hd, Bl.app_nil]
   subst hd
   have hdl : ¬ x.length < L.length := by omega
   clear hel
   ((repeat' first|refine aw ?_|refine bw (fun _=>?_) fun _=>?_))
   refine WT_break ?_
   ((repeat' first|refine aw ?_|refine bw (fun _=>?_) fun _=>?_))
   refine WT_frE 4 [0, 1, 2] h9 ?_
   ((repeat' first|refine aw ?_|refine bw (fun _=>?_) fun _=>?_))
   subst hT
   exact WT_eend 3 rfl rfl (by exact Uw.wW)
 | cons e r =>
   have hlt : d.length < L.length := by rw [hm, hdl]; simp [Bl.length]
   have he := hel d r e hd
   have hsz : x.sz = d.sz + (e.sz + r.sz) := by rw [hd, Bl.app_sz, Bl.sz]
   have hae : At NS (b + d.sz) (e.flat (b + d.sz)) := by
     rw [hd, Bl.app_flat, Bl.flat] at ha0
     have := ha0.right.left
     rw [Bl.flat_len] at this
     exact this
   have hfe : Free (orR p1 b d.sz) (b + d.sz) e.sz := fun i h1 h2 => by rw [orR_not (by omega)]; exact hp1 i (by omega) (by omega)
   have hd' : x = (d.app (.cons e .nil)).app r := by rw [Bl.app_assoc]; exact hd
   have hsz' : (d.app (.cons e .nil)).sz = d.sz + e.sz := by rw [Bl.app_sz]; rfl
   have hlen' : (d.app (.cons e .nil)).length = d.length + 1 := by rw [bapp_length]; rfl
   have hor : orR (orR p1 b d.sz) (b + d.sz) e.sz = orR p1 b (d.app (.cons e .nil)).sz := by rw [orR_two, hsz']
   have hwn : wBl (d.app (.cons e .nil)) = wBl d ++ wStm e := by rw [wBl_app]; simp [wBl]
   have hwd := wBl_len d
   have hce := hc.1 (b + d.sz) (orR p1 b d.sz) (ws ++ [[123]] ++ wBl d) hae hfe (by simp at *; omega)
   rw [hor, List.append_assoc _ (wBl d), ← hwn] at hce
   clear hel
   ((repeat' first|refine aw ?_|refine bw (fun _=>?_) fun _=>?_))
   refine WT_frE 4 [0, 1, 2] hce ?_
   ((repeat' first|refine aw ?_|refine bw (fun _=>?_) fun _=>?_))
   exact WT_again (d.app (.cons e .nil), r) ⟨hd', hc.2⟩ (by show _ < _; simp [Bl.length]) (by exact Uw.wW)
end Uw.Tryd
