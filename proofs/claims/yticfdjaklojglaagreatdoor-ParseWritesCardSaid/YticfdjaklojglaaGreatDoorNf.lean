/- Nf: Wa Wb Wc Wd We (merged by merge2.py from the working texts). -/
import Derived.Test.YticfdjaklojglaaGreatDoorN8
import Derived.Test.YticfdjaklojglaaGreatDoorNc
import Derived.Test.YticfdjaklojglaaGreatDoorNe
set_option linter.unusedSimpArgs false
set_option linter.unnecessarySimpa false
set_option linter.unusedVariables false
set_option linter.unusedSectionVars false
namespace Uw.Tryz
open Go Uw
abbrev txs (l : List Tok) : List Str := l.map (·.text)
def balS : List Str → Int
 | [] => 0
 | s :: r => delta s + balS r
def depS : List Str → Int → Int → Int
 | [], _, m => m
 | s :: r, d, m => depS r (d + delta s) (max m (d + delta s))
theorem deepT_S : ∀ (l : List Tok) (d m : Int), deepT l d m = depS (txs l) d m
 | [], _, _ => rfl
 | t :: r, d, m => deepT_S r _ _
theorem depS_mono : ∀ (l : List Str) {d m d' m' : Int}, d ≤ d' → m ≤ m' → depS l d m ≤ depS l d' m'
 | [], _, _, _, _, _, h => h
 | s :: r, d, m, d', m', h1, h2 => depS_mono r (by omega) (by omega)
theorem depS_app : ∀ (a b : List Str) (d m : Int), depS (a ++ b) d m = depS b (d + balS a) (depS a d m)
 | [], b, d, m => by simp [depS, balS]
 | t :: r, b, d, m => by
   rw [List.cons_append, depS, depS_app r b, depS, balS, Int.add_assoc]
theorem balS_app : ∀ (a b : List Str), balS (a ++ b) = balS a + balS b
 | [], b => by simp [balS]
 | t :: r, b => by
   rw [List.cons_append, balS, balS_app r b, balS]; omega
structure T (c o : List Str) : Prop where
 sub : o.Sublist c
 bal : balS o = balS c
 dep : ∀ d m, depS o d m ≤ depS c d m
theorem T.refl (c : List Str) : T c c := ⟨List.Sublist.refl c, rfl, fun _ _ => Int.le_refl _⟩
theorem T.of {c o : List Str} (h : c = o) : T c o := h ▸ T.refl c
theorem T.trans {a b c : List Str} (h1 : T a b) (h2 : T b c) : T a c := ⟨h2.sub.trans h1.sub, h2.bal.trans h1.bal, fun d m => Int.le_trans (h2.dep d m) (h1.dep d m)⟩
theorem T.app {a b c d : List Str} (h1 : T a b) (h2 : T c d) : T (a ++ c) (b ++ d) := by
 refine ⟨h1.sub.append h2.sub, by rw [balS_app, balS_app, h1.bal, h2.bal], fun k m => ?_⟩
 rw [depS_app, depS_app]
 refine Int.le_trans (depS_mono d (Int.le_refl _) (h1.dep k m)) ?_
 rw [h1.bal]
 exact h2.dep _ _
theorem T.br (c : List Str) : T ([40] :: (c ++ [[41]])) c := by
 have e1 : delta [40] = 1 := by decide
 have e2 : delta [41] = -1 := by decide
 refine ⟨((List.sublist_append_left c [[41]])).cons _, ?_, fun d m => ?_⟩
 · rw [balS, balS_app, e1, balS, balS, e2]; omega
 · rw [depS, depS_app, e1, depS, depS, e2]
   have := depS_mono c (show d ≤ d + 1 by omega) (show m ≤ max m (d + 1) by omega)
   omega
theorem T.zero {a b c : Str} (ha : delta a = 0) (hb : delta b = 0) : T [a, b, c] [c] := by
 refine ⟨((List.Sublist.refl [c]).cons b).cons a, ?_, fun d m => ?_⟩
 · simp only [balS, ha, hb]; omega
 · simp only [depS, ha, hb]; omega
structure TokW (t : Tok) : Prop where
 ok : TokOk t
 num : t.kind = 2 → t.text = Lib.itoa t.n
def TQ {α : Type} (pre : List Str) (p : List Tok → R α) (W : α → List Str) : Prop := ∀ r a r', (∀ t ∈ r, TokW t) → p r = .ok a r' → ∃ c, r = c ++ r' ∧ T (pre ++ txs c) (W a)
section
variable {α β : Type} {pre pre' : List Str} {p q : List Tok → R α} {W : α → List Str} {W1 : β → List Str}
theorem TQ.ret {a : α} (h : T pre (W a)) : TQ pre (cRet a) W := by
 intro r b r' _ e
 injection e with e1 e2
 subst e1 e2
 exact ⟨[], rfl, by simpa using h⟩
theorem TQ.bad : TQ pre (cBad (α := α)) W := by intro _ _ _ _ e; cases e
theorem tq_out (h : ∀ r, p r = .out) : TQ pre p W := by
 intro r a r' _ he; rw [h] at he; cases he
theorem TQ.fst (h : T pre pre') (hp : TQ pre' p W) : TQ pre p W := by
 intro r a r' ht e
 obtain ⟨c, e1, h1⟩ := hp r a r' ht e
 exact ⟨c, e1, (h.app (T.refl _)).trans h1⟩
theorem TQ.up (hp : TQ [] p W) : TQ pre p fun a => pre ++ W a := by
 intro r a r' ht e
 obtain ⟨c, e1, h1⟩ := hp r a r' ht e
 exact ⟨c, e1, (T.refl pre).app (by simpa using h1)⟩
theorem TQ.mono {W' : α → List Str} (hp : TQ pre p W) (h : ∀ a, T (W a) (W' a)) : TQ pre p W' := by
 intro r a r' ht e
 obtain ⟨c, e1, h1⟩ := hp r a r' ht e
 exact ⟨c, e1, h1.trans (h a)⟩
theorem TQ.bindp {p : List Tok → R β} {f : β → List Tok → R α} (h1 : TQ pre p W1) (h2 : ∀ b, TQ (W1 b) (f b) W) : TQ pre (cBind p f) W := by
 intro r a r' ht e
 obtain ⟨b, r1, e1, e2⟩ := bind_ok.1 e
 obtain ⟨c1, g1, g2⟩ := h1 _ _ _ ht e1
 obtain ⟨c2, g3, g4⟩ := h2 b _ _ _ (fun t h => ht t (by rw [g1]; exact List.mem_append_right _ h)) e2
 refine ⟨c1 ++ c2, by rw [g1, g3, List.append_assoc], ?_⟩
 rw [show txs (c1 ++ c2) = txs c1 ++ txs c2 from List.map_append, ← List.append_assoc]
 exact (g2.app (T.refl _)).trans g4
theorem TQ.bind {p : List Tok → R β} {f : β → List Tok → R α} (h1 : TQ [] p W1) (h2 : ∀ b, TQ (pre ++ W1 b) (f b) W) : TQ pre (cBind p f) W := .bindp h1.up h2
theorem TQ.bindQ {p : List Tok → R β} {f : β → List Tok → R α} {Q : β → Prop} (hv : VV p Q) (h1 : TQ [] p W1) (h2 : ∀ b, Q b → TQ (pre ++ W1 b) (f b) W) : TQ pre (cBind p f) W := by
 intro r a r' ht e
 obtain ⟨b, r1, e1, e2⟩ := bind_ok.1 e
 have hb := (hv _ _ _ (fun t h => (ht t h).ok) e1).1
 obtain ⟨c1, g1, g2⟩ := h1 _ _ _ ht e1
 obtain ⟨c2, g3, g4⟩ := h2 b hb _ _ _ (fun t h => ht t (by rw [g1]; exact List.mem_append_right _ h)) e2
 refine ⟨c1 ++ c2, by rw [g1, g3, List.append_assoc], ?_⟩
 rw [show txs (c1 ++ c2) = txs c1 ++ txs c2 from List.map_append, ← List.append_assoc]
 exact (((T.refl pre).app (by simpa using g2)).app (T.refl _)).trans g4
theorem tq_tok {t : Tok} {l c r' : List Tok} {o : List Str} (e : l = c ++ r') (h : T ((pre ++ [t.text]) ++ txs c) o) : ∃ c, t :: l = c ++ r' ∧ T (pre ++ txs c) o :=
 ⟨t :: c, by rw [e]; rfl, by simpa using h⟩
theorem TQ.want {s : Str} (hs : s ≠ []) (h : TQ (pre ++ [s]) p W) : TQ pre (cWant s p) W := by
 intro r a r' ht e
 obtain ⟨b, r1, e1, e2⟩ := bind_ok.1 e
 obtain ⟨hh, rfl⟩ := want_ok e1
 obtain ⟨t, g1, g2⟩ := tail_of hh hs
 obtain ⟨c, g3, g4⟩ := h _ _ _ (fun t h => ht t (List.mem_of_mem_tail h)) e2
 rw [g1]
 exact tq_tok g3 (by rw [g2]; exact g4)
theorem TQ.skip {s : Str} (hs : s ≠ []) (h1 : TQ (pre ++ [s]) p W) (h2 : TQ pre q W) : TQ pre (cSkip s p q) W := by
 intro r a r' ht e
 unfold cSkip at e
 split at e
 · rename_i hh
   obtain ⟨t, g1, g2⟩ := tail_of hh hs
   obtain ⟨c, g3, g4⟩ := h1 _ _ _ (fun t h => ht t (List.mem_of_mem_tail h)) e
   rw [g1]
   exact tq_tok g3 (by rw [g2]; exact g4)
 · exact h2 _ _ _ ht e
theorem TQ.peek {s : Str} (h1 : TQ pre p W) (h2 : TQ pre q W) : TQ pre (cPeek s p q) W := by
 intro r a r' ht e
 unfold cPeek at e
 split at e
 · exact h1 _ _ _ ht e
 · exact h2 _ _ _ ht e
theorem TQ.name {f : Str → List Tok → R α} (h : ∀ s, TQ (pre ++ [s]) (f s) W) : TQ pre (cName f) W := by
 intro r a r' ht e
 obtain ⟨b, r1, e1, e2⟩ := bind_ok.1 e
 obtain ⟨t, rfl, rfl, h4, h5⟩ := name_ok e1
 obtain ⟨c, g3, g4⟩ := h _ _ _ _ (fun t h => ht t (List.mem_cons_of_mem _ h)) e2
 exact tq_tok g3 g4
theorem TQ.word {k : Int} {f : Str → Int → List Tok → R α} (h : ∀ s n, (k = 2 → s = Lib.itoa n) → TQ (pre ++ [s]) (f s n) W) : TQ pre (cWord k f) W := by
 intro r a r' ht e
 obtain ⟨t, r1, e1, e2⟩ := bind_ok.1 e
 obtain ⟨q, rfl, rfl, h4⟩ := word_ok e1
 obtain ⟨c, g3, g4⟩ := h _ _ (fun hk => (ht t (List.mem_cons_self ..)).num (by omega)) _ _ _ (fun t h => ht t (List.mem_cons_of_mem _ h)) e2
 exact tq_tok g3 g4
theorem TQ.num {f : Int → List Tok → R α} (h1 : ∀ n, TQ (pre ++ [Lib.itoa n]) (f n) W) (h2 : TQ pre q W) : TQ pre (cNum f q) W := by
 intro r a r' ht e
 unfold cNum at e
 split at e
 · rename_i hn
   cases r with
   | nil => cases hn
   | cons t l =>
     have hk : t.kind = 2 := by simpa [isNum] using hn
     obtain ⟨c, g3, g4⟩ := h1 _ _ _ _ (fun t h => ht t (List.mem_cons_of_mem _ h)) e
     exact tq_tok g3 (by rw [(ht t (List.mem_cons_self ..)).num hk]; exact g4)
 · exact h2 _ _ _ ht e
end
def tg : Ex → Int
 | .bin k _ _ => tightO k
 | _ => 3
theorem tightO_le (k : Int) : 0 ≤ tightO k ∧ tightO k ≤ 3 := by unfold tightO; (repeat' split) <;> omega
theorem wEx_br (e : Ex) (l : Int) (hl : 0 ≤ l) (h3 : l ≤ 3) : wEx e l = if tg e < l then [40] :: (wEx e 0 ++ [[41]]) else wEx e 0 := by
 cases e with
 | num n => rw [if_neg (by show ¬ (3 : Int) < l; omega)]; rfl
 | name n => rw [if_neg (by show ¬ (3 : Int) < l; omega)]; rfl
 | call o v ar => rw [if_neg (by show ¬ (3 : Int) < l; omega)]; rfl
 | bin k a b =>
   have h := tightO_le k
   show (if tightO k < l then _ else _) = if tightO k < l then _ else (if tightO k < 0 then _ else _)
   by_cases hk : tightO k < l
   · rw [if_pos hk, if_pos hk]
     show _ = [40] :: ((if tightO k < 0 then _ else _) ++ [[41]])
     rw [if_neg (by omega)]
     simp
   · rw [if_neg hk, if_neg hk, if_neg (by omega)]
theorem wEx_dn (e : Ex) (l m : Int) (hl : 0 ≤ l) (hm : m ≤ 3) (h : l ≤ m) : T (wEx e m) (wEx e l) := by
 rw [wEx_br e m (by omega) hm, wEx_br e l hl (by omega)]
 by_cases h1 : tg e < l
 · rw [if_pos h1, if_pos (by omega)]; exact T.refl _
 · rw [if_neg h1]
   split
   · exact T.br _
   · exact T.refl _
theorem wEx_up (e : Ex) (l : Int) (hl : 0 ≤ l) (hm : l ≤ 3) : T ([40] :: (wEx e 0 ++ [[41]])) (wEx e l) := by
 rw [wEx_br e l hl hm]
 split
 · exact T.refl _
 · exact T.br _
structure TE (n : Nat) : Prop where
 prim : TQ [] (pPrim n) fun e => wEx e 3
 call : ∀ s, TQ [s] (pCall n s) fun x => wEx (.call s x.1 x.2) 3
 args : TQ [] (pArgs n) wArgs
 argsT : TQ [] (pArgsT n) fun es => wTail es ++ [[41]]
 prod : TQ [] (pProd n) fun e => wEx e 2
 prodT : ∀ l, TQ (wEx l 2) (pProdT n l) fun e => wEx e 2
 sum : TQ [] (pSum n) fun e => wEx e 1
 sumT : ∀ l, TQ (wEx l 1) (pSumT n l) fun e => wEx e 1
 expr : TQ [] (pExpr n) fun e => wEx e 0
theorem w5 (l e : Ex) : wEx l 2 ++ [[42]] ++ wEx e 3 = wEx (.bin 5 l e) 2 := rfl
theorem w3 (l e : Ex) : wEx l 1 ++ [[43]] ++ wEx e 2 = wEx (.bin 3 l e) 1 := rfl
theorem w4 (l e : Ex) : wEx l 1 ++ [[45]] ++ wEx e 2 = wEx (.bin 4 l e) 1 := rfl
theorem w6 (l e : Ex) : wEx l 1 ++ [[60]] ++ wEx e 1 = wEx (.bin 6 l e) 0 := rfl
theorem w7 (l e : Ex) : wEx l 1 ++ [[61, 61]] ++ wEx e 1 = wEx (.bin 7 l e) 0 := rfl
theorem te : ∀ n, TE n
 | 0 => ⟨tq_out fun r => by rw [pPrim], fun s => tq_out fun r => by rw [pCall], tq_out fun r => by rw [pArgs], tq_out fun r => by rw [pArgsT], tq_out fun r => by rw [pProd], fun l => tq_out fun r => by rw [pProdT], tq_out fun r => by rw [pSum], fun l => tq_out fun r => by rw [pSumT], tq_out fun r => by rw [pExpr]⟩
 | n + 1 => by
   have ih := te n
   refine ⟨?_, ?_, ?_, ?_, ?_, ?_, ?_, ?_, ?_⟩
   · rw [pPrim_eq n]
     exact .skip (by decide) (.bind ih.expr fun e => .want (by decide) (.ret (by simpa using wEx_up e 3 (by decide) (by decide)))) (.num (fun v => .ret (T.refl _)) (.name fun s => .peek (.bindp (ih.call s) fun x => .ret (T.refl _)) (.ret (T.refl _))))
   · intro s
     rw [pCall_eq n]
     exact .want (by decide) (.name fun v => .bind ih.args fun ar => .ret (T.of (by simp [wEx, wArgs])))
   · rw [pArgs_eq n]
     exact .want (by decide) (.skip (by decide) (.ret (T.of (by simp [wArgs, wExs]))) (.bind ih.expr fun e => .bind ih.argsT fun es => .ret (T.of (by simp [wArgs, wExs]))))
   · rw [pArgsT_eq n]
     exact .skip (by decide) (.bind ih.expr fun e => .bind ih.argsT fun es => .ret (T.of (by simp [wTail]))) (.want (by decide) (.ret (T.of (by simp [wTail]))))
   · rw [pProd_eq n]
     exact .bind ih.prim fun e => .fst (wEx_dn e 2 3 (by decide) (by decide) (by decide)) (ih.prodT e)
   · intro l
     rw [pProdT_eq n]
     exact .skip (by decide) (.bind ih.prim fun e => .fst (T.of (w5 l e)) (ih.prodT _)) (.ret (T.refl _))
   · rw [pSum_eq n]
     exact .bind ih.prod fun e => .fst (wEx_dn e 1 2 (by decide) (by decide) (by decide)) (ih.sumT e)
   · intro l
     rw [pSumT_eq n]
     exact .skip (by decide) (.bind ih.prod fun e => .fst (T.of (w3 l e)) (ih.sumT _)) (.skip (by decide) (.bind ih.prod fun e => .fst (T.of (w4 l e)) (ih.sumT _)) (.ret (T.refl _)))
   · rw [pExpr_eq n]
     exact .bind ih.sum fun l => .skip (by decide) (.bind ih.sum fun e => .ret (T.of (w6 l e))) (.skip (by decide) (.bind ih.sum fun e => .ret (T.of (w7 l e))) (.ret (wEx_dn l 0 1 (by decide) (by decide) (by decide))))
def wSim : Stm → List Str
 | .set s e => [s, [61]] ++ wEx e 0
 | .task par to f ar => (if to = [] then [] else [to, [61]]) ++ [if par then sPar else sSpawn, f] ++ wArgs ar
 | .sync => [sSync]
 | .one k e => [if k = 15 then sReturn else sAssert] ++ wEx e 0
 | .act o v ar => wEx (.call o v ar) 0
 | _ => []
def isSim : Stm → Prop
 | .if1 _ _ => False
 | .if2 _ _ _ => False
 | .loop _ _ => False
 | _ => True
theorem wSim_ok {s : Stm} (h : isSim s) : wSim s ++ [[59]] = wStm s := by
 cases s with
 | if1 _ _ => exact h.elim
 | if2 _ _ _ => exact h.elim
 | loop _ _ => exact h.elim
 | set s e => simp [wSim, wStm]
 | task par to f ar => simp [wSim, wStm]
 | sync => rfl
 | one k e => simp [wSim, wStm]
 | act o v ar => simp [wSim, wStm]
theorem vv_simc (n : Nat) (to : Str) : VV (pChild n to) isSim := by
 rw [pChild_eq n]
 refine .bind (Q1 := fun _ => True) (.skip (.ret trivial) (.want (.ret trivial))) fun par _ => .name fun f hf => .bind (ve n).args fun ar har => ?_
 split
 · exact .bad
 · exact .ret trivial
theorem vv_sim (n : Nat) : VV (pSimple n) isSim := by
 rw [pSimple_eq n]
 exact .peek (vv_simc n []) (.peek (vv_simc n []) (.skip (.ret trivial) (.skip (.bind (ve n).expr fun e he => .ret trivial) (.skip (.bind (ve n).expr fun e he => .ret trivial)
   (.name fun s hs => .peek (.bind ((ve n).call s) fun x hx => .ret trivial) (.want (.peek (vv_simc n s) (.peek (vv_simc n s) (.bind (ve n).expr fun e he => .ret trivial)))))))))
theorem tq_child (n : Nat) (to : Str) : TQ (if to = [] then [] else [to, [61]]) (pChild n to) wSim := by
 rw [pChild_eq n]
 refine .bind (W1 := fun par => [if par then sPar else sSpawn]) (.skip (by decide) (.ret (T.refl _)) (.want (by decide) (.ret (T.refl _)))) fun par => .name fun f => .bind (te n).args fun ar => ?_
 by_cases hp : par = true ∧ ar.length ≠ 2
 · rw [if_pos hp]; exact .bad
 · rw [if_neg hp]; exact .ret (T.of (by simp [wSim]))
theorem tq_simple (n : Nat) : TQ [] (pSimple n) wSim := by
 rw [pSimple_eq n]
 have hc : ∀ s : Str, s ≠ [] → TQ ([] ++ [s] ++ [[61]]) (pChild n s) wSim := fun s hs => by
   have := tq_child n s
   rw [if_neg hs] at this
   exact this
 have h0 : TQ [] (pChild n []) wSim := tq_child n []
 refine .peek h0 (.peek h0 (.skip (by decide) (.ret (T.refl _)) (.skip (by decide) (.bind (te n).expr fun e => .ret (T.refl _)) (.skip (by decide) (.bind (te n).expr fun e => .ret (T.refl _)) ?_))))
 intro r a r' ht e
 obtain ⟨b, r1, e1, e2⟩ := bind_ok.1 e
 have hb : b ≠ [] := by
   obtain ⟨t, rfl, rfl, h4, h5⟩ := name_ok e1
   have := (ht t (List.mem_cons_self ..)).ok.name h4
   intro hn
   rw [hn] at this
   cases this
 refine (TQ.name (pre := []) (W := wSim) (f := fun s => cPeek [46] (cBind (pCall n s) fun x => cRet (.act s x.1 x.2)) (cWant [61] (if s = [] then cBad else (cPeek sSpawn (pChild n s) (cPeek sPar (pChild n s) (cBind (pExpr n) fun e => cRet (.set s e))))))) fun s => ?_) r a r' ht ?_
 · refine .peek (.bindp ((te n).call s) fun x => .ret (T.refl _)) (.want (by decide) ?_)
   split
   · exact .bad
   · rename_i hs
     exact .peek (hc s hs) (.peek (hc s hs) (.bind (te n).expr fun e => .ret (T.refl _)))
 · show R.bind _ _ = _
   rw [e1, ok_bind, if_neg hb]
   exact e2
structure TS (n : Nat) : Prop where
 stmt : TQ [] (pStmt n) wStm
 block : TQ [] (pBlock n) wBlock
 stmts : TQ [] (pStmts n) fun x => wBl x ++ [[125]]
theorem ts : ∀ n, TS n
 | 0 => ⟨tq_out fun r => by rw [pStmt], tq_out fun r => by rw [pBlock], tq_out fun r => by rw [pStmts]⟩
 | n + 1 => by
   have ih := ts n
   refine ⟨?_, ?_, ?_⟩
   · rw [pStmt_eq n]
     exact .skip (by decide) (.bind (te n).expr fun e => .bind ih.block fun a => .skip (by decide) (.bind ih.block fun b => .ret (T.of (by simp [wStm, wBlock]))) (.ret (T.of (by simp [wStm, wBlock])))) (.skip (by decide) (.bind (te n).expr fun e => .bind ih.block fun a => .ret (T.of (by simp [wStm, wBlock]))) (.bindQ (vv_sim n) (tq_simple n) fun s hs => .want (by decide) (.ret (T.of (by simpa using wSim_ok hs)))))
   · rw [pBlock_eq n]
     exact .want (by decide) (ih.stmts.up.mono fun x => T.of (by simp [wBlock]))
   · rw [pStmts_eq n]
     exact .skip (by decide) (.ret (T.refl _)) (.bind ih.stmt fun s => .bind ih.stmts fun ss => .ret (T.of (by simp [wBl])))
theorem tq_namesT : ∀ n, TQ [] (pNamesT n) fun l => (l.flatMap fun s => [[44], s]) ++ [[41]]
 | 0 => tq_out fun r => by rw [pNamesT]
 | n + 1 => by
   rw [pNamesT_eq n]
   exact .skip (by decide) (.name fun s => .bind (tq_namesT n) fun l => .ret (T.of (by simp))) (.want (by decide) (.ret (T.refl _)))
theorem tq_fun (n : Nat) : TQ [] (pFun n) wFn := by
 rw [pFun_eq n]
 refine .want (by decide) (.name fun s => .bind (W1 := fun l => [[40]] ++ wStrs l ++ [[41]]) ?_ fun l => .bind (ts n).block fun b => .ret (T.of (by simp [wFn])))
 rw [pNames_eq n]
 exact .want (by decide) (.skip (by decide) (.ret (T.refl _)) (.name fun s => .bind (tq_namesT n) fun l => .ret (T.of (by simp [wStrs]))))
theorem kindOf_S {t : Str} {k : Int} (h : kindOf t = some k) : t = kindS k := by
 unfold kindOf at h
 repeat' split at h
 all_goals first | (injection h with h; subst h; assumption) | cases h
theorem tq_decl : TQ [] pDecl fun d => wDec d := by
 rw [pDecl_eq]
 refine .word fun t _ _ => ?_
 unfold cKind
 cases hk : kindOf t with
 | none => exact .bad
 | some k =>
   have hk := kindOf_S hk
   subst hk
   refine .name fun s => ?_
   have hz : T ([] ++ [kindS k] ++ [s] ++ [[59]]) (wDec ⟨k, s, 0⟩) := T.of (by simp [wDec])
   show TQ _ (if k = 0 then _ else _) _
   split
   · refine .skip (by decide) (.word fun x n hn => .want (by decide) (.ret ?_)) (.want (by decide) (.ret hz))
     rw [hn rfl]
     by_cases h0 : n = 0
     · subst h0
       have : T ([[61], Lib.itoa 0, [59]] : List Str) [[59]] := T.zero (by decide) (by
         have : Lib.itoa 0 = [48] := by unfold Lib.itoa; rw [if_neg (by decide)]; exact Lib.decDigits_one (by decide)
         rw [this]; decide)
       have h2 := (T.refl [kindS k, s]).app this
       simpa [wDec] using h2
     · exact T.of (by simp [wDec, h0])
   · exact .want (by decide) (.ret hz)
theorem Decs.tq {r r' : List Tok} {ds : List Dec} (h : Decs r ds r') : (∀ t ∈ r, TokW t) → ∃ c, r = c ++ r' ∧ T (txs c) (ds.flatMap wDec) := by
 induction h with
 | stop _ => exact fun _ => ⟨[], rfl, T.refl _⟩
 | cons _ h1 _ ih =>
   intro ht
   obtain ⟨c, e, h2⟩ := tq_decl _ _ _ ht h1
   obtain ⟨c2, e2, h3⟩ := ih (fun t h => ht t (by rw [e]; exact List.mem_append_right _ h))
   refine ⟨c ++ c2, by rw [e, e2, List.append_assoc], ?_⟩
   rw [show txs (c ++ c2) = txs c ++ txs c2 from List.map_append, List.flatMap_cons]
   exact T.app (by simpa using h2) h3
theorem Funs.tq {r : List Tok} {fs : List Fn} (h : Funs r fs) : (∀ t ∈ r, TokW t) → T (txs r) (fs.flatMap wFn) := by
 induction h with
 | nil => exact fun _ => T.refl _
 | cons h1 _ ih =>
   intro ht
   obtain ⟨n, h1⟩ := h1
   obtain ⟨c, e, h2⟩ := tq_fun n _ _ _ ht h1
   have h3 := ih (fun t h => ht t (by rw [e]; exact List.mem_append_right _ h))
   rw [e, show txs (c ++ _) = txs c ++ txs _ from List.map_append, List.flatMap_cons]
   exact T.app (by simpa using h2) h3
theorem Prg.tq {l : List Tok} {ds : List Dec} {fs : List Fn} (h : Prg l ds fs) (ht : ∀ t ∈ l, TokW t) : T (txs l) (wProg (ds, fs)) := by
 obtain ⟨r, h1, h2⟩ := h
 obtain ⟨c, e, h3⟩ := h1.tq ht
 have h4 := h2.tq (fun t h => ht t (by rw [e]; exact List.mem_append_right _ h))
 rw [e, show txs (c ++ r) = txs c ++ txs r from List.map_append]
 exact h3.app h4
end Uw.Tryz
namespace Uw.Tryz
open Go Uw
theorem fold_ge (l : List UInt8) : ∀ m : Nat, m ≤ l.foldl (fun n b => 10 * n + (b.toNat - 48)) m := by
 induction l with
 | nil => exact fun m => Nat.le_refl m
 | cons b l ih => intro m; rw [List.foldl_cons]; exact Nat.le_trans (show m ≤ 10 * m + (b.toNat - 48) by omega) (ih _)
theorem valD_snoc (l : List UInt8) (b : UInt8) : valD (l ++ [b]) = 10 * valD l + (b.toNat - 48) := by
 simp [valD, List.foldl_append]
theorem cls2 {c : UInt8} : cls c = 2 ↔ 48 ≤ c.toNat ∧ c.toNat ≤ 57 := by
 unfold cls
 constructor
 · intro h
   repeat' split at h
   all_goals first | assumption | omega
 · intro h
   rw [if_neg (by omega), if_pos h]
theorem dec_val (k : Nat) : ∀ (l : List UInt8), l.length = k → (∀ b ∈ l, cls b = 2) → l ≠ [] → (∀ c r, l = c :: r → r ≠ [] → c.toNat ≠ 48) → Lib.decDigits (valD l) = l := by
 induction k with
 | zero => intro l h _ h2 _; exact absurd (List.eq_nil_of_length_eq_zero h) h2
 | succ k ih =>
   intro l hl hd hne h0
   obtain ⟨l', b, rfl⟩ : ∃ l' b, l = l' ++ [b] := ⟨l.dropLast, l.getLast hne, (List.dropLast_concat_getLast hne).symm⟩
   have hb := cls2.1 (hd b (by simp))
   rw [valD_snoc]
   cases l' with
   | nil =>
     show Lib.decDigits (10 * 0 + _) = [b]
     rw [Lib.decDigits_one (by omega)]
     congr 1
     apply UInt8.toNat.inj
     simp; omega
   | cons c r =>
     have hc := h0 c (r ++ [b]) rfl (by simp)
     have hc2 := cls2.1 (hd c (by simp))
     have hv : 1 ≤ valD (c :: r) := by
       have : (c.toNat - 48) ≤ valD (c :: r) := by
         have := fold_ge r (10 * 0 + (c.toNat - 48))
         simp only [Nat.mul_zero, Nat.zero_add] at this
         simpa [valD] using this
       omega
     have h1 := ih (c :: r) (by simp at hl ⊢; omega) (fun x hx => hd x (by simp at hx ⊢; rcases hx with h | h; exact .inl h; exact .inr (.inl h))) (by simp) (fun c' r' e _ => by injection e with e1 e2; subst e1; exact hc)
     rw [Lib.decDigits, dif_neg (by omega), show (10 * valD (c :: r) + (b.toNat - 48)) / 10 = valD (c :: r) by omega, h1]
     congr 2
     apply UInt8.toNat.inj
     simp; omega
theorem tw_mem {α : Type} (p : α → Bool) : ∀ (l : List α), ∀ b ∈ l.takeWhile p, p b = true
 | [], b, h => by cases h
 | a :: l, b, h => by
   rw [List.takeWhile_cons] at h
   split at h
   · rename_i hp
     rcases List.mem_cons.1 h with rfl | h
     · exact hp
     · exact tw_mem p l b h
   · cases h
theorem tokLen_num2 {r : List UInt8} {n : Nat} {v : Int} (h : tokLen r = some (2, n, v)) : r.take n = Lib.itoa v := by
 cases r with
 | nil => simp [tokLen] at h
 | cons c t =>
   rw [tokLen] at h
   split at h
   · split at h
     · simp at h
     · cases h
   · split at h
     · rename_i h1 h2
       split at h
       · rename_i hl
         simp only [Option.some.injEq, Prod.mk.injEq, true_and] at h
         obtain ⟨rfl, rfl⟩ := h
         rw [Nat.add_comm, List.take_succ_cons, take_of_takeWhile, Lib.itoa, if_neg (by omega), Int.toNat_natCast]
         refine (dec_val _ _ rfl ?_ (by simp) ?_).symm
         · intro b hb
           rcases List.mem_cons.1 hb with rfl | hb
           · exact h2
           · have := tw_mem digB t b hb
             simpa [digB] using this
         · intro c' r' e hr h48
           injection e with e1 e2
           subst e1 e2
           refine hl.2.1 ⟨?_, h48⟩
           have := List.length_pos_iff.2 hr
           omega
       · cases h
     · split at h
       · split at h <;> simp at h
       · cases h
theorem lexK_w : ∀ (f : Nat) (r : List UInt8) (a : Int) (l : List Tok), lexK f r a = some l → ∀ t ∈ l, TokW t
 | 0, [], a, l, h => by rw [lexK] at h; injection h with h; subst h; simp
 | _ + 1, [], a, l, h => by rw [lexK] at h; injection h with h; subst h; simp
 | 0, c :: t, a, l, h => by unfold lexK at h; cases h
 | f + 1, c :: t, a, l, h => by
   rw [lexK] at h
   split at h
   · exact lexK_w f _ _ _ h
   · split at h
     · cases h
     · rename_i k n v ht
       rw [Option.map_eq_some_iff] at h
       obtain ⟨l', h1, rfl⟩ := h
       intro x hx
       rcases List.mem_cons.1 hx with rfl | hx
       · refine ⟨tok_ok ht a, fun hk => ?_⟩
         have hk : k = 2 := hk
         subst hk
         exact tokLen_num2 ht
       · exact lexK_w f _ _ _ h1 x hx
theorem longR_cls (c : UInt8) (x : List UInt8) : longR (c :: x) = (decide (cls c = 1) || decide (cls c = 2)) := by
 show ((decide (97 ≤ c.toNat) && decide (c.toNat ≤ 122)) || (decide (65 ≤ c.toNat) && decide (c.toNat ≤ 90)) || (decide (48 ≤ c.toNat) && decide (c.toNat ≤ 57))) = _
 unfold cls
 by_cases h1 : 97 ≤ c.toNat ∧ c.toNat ≤ 122 ∨ 65 ≤ c.toNat ∧ c.toNat ≤ 90
 · rw [if_pos h1]
   rcases h1 with h | h <;> simp [h.1, h.2]
 · rw [if_neg h1]
   by_cases h2 : 48 ≤ c.toNat ∧ c.toNat ≤ 57
   · rw [if_pos h2]; simp [h2.1, h2.2]
   · rw [if_neg h2]
     have e1 : (decide (97 ≤ c.toNat) && decide (c.toNat ≤ 122)) = false := by simp; omega
     have e2 : (decide (65 ≤ c.toNat) && decide (c.toNat ≤ 90)) = false := by simp; omega
     have e3 : (decide (48 ≤ c.toNat) && decide (c.toNat ≤ 57)) = false := by simp; omega
     rw [e1, e2, e3]
     repeat' split
     all_goals decide
theorem jl_skip (a s : Str) (l : List Str) : (joinR a l).length ≤ (joinR s l).length + 1 := by
 cases l with
 | nil => simp [joinR]
 | cons x l =>
   rw [joinR, joinR]
   have : (if longR a && longR x then ([32] : Str) else []).length ≤ 1 := by split <;> simp
   simp only [List.length_append]
   omega
theorem jl_sub {o c : List Str} (h : o.Sublist c) : (∀ s ∈ c, s ≠ []) → ∀ a, (joinR a o).length ≤ (joinR a c).length := by
 induction h with
 | slnil => exact fun _ a => Nat.le_refl _
 | cons s _ ih =>
   intro hc a
   rename_i c' _
   have h1 := ih (fun x hx => hc x (List.mem_cons_of_mem _ hx)) a
   have h2 := jl_skip a s c'
   have h3 := List.length_pos_iff.2 (hc s (List.mem_cons_self ..))
   conv => rhs; rw [joinR]
   simp only [List.length_append]
   omega
 | cons_cons s _ ih =>
   intro hc a
   have h1 := ih (fun x hx => hc x (List.mem_cons_of_mem _ hx)) s
   rw [joinR, joinR]
   simp only [List.length_append]
   omega
theorem dropWhile_head {α : Type} (p : α → Bool) : ∀ (l : List α) (c : α) (t : List α), l.dropWhile p = c :: t → p c = false
 | [], _, _, h => by cases h
 | a :: l, c, t, h => by
   rw [List.dropWhile_cons] at h
   split at h
   · exact dropWhile_head p l c t h
   · rename_i hp
     injection h with h _
     subst h
     simpa using hp
theorem drop_of_takeWhile {α : Type} (p : α → Bool) : ∀ (l : List α), l.drop (l.takeWhile p).length = l.dropWhile p
 | [] => rfl
 | a :: l => by
   rw [List.takeWhile_cons, List.dropWhile_cons]
   split
   · rw [List.length_cons, List.drop_succ_cons, drop_of_takeWhile p l]
   · rfl
theorem tok_rest {c : UInt8} {t : List UInt8} {k : Int} {n : Nat} {v : Int} (h : tokLen (c :: t) = some (k, n, v)) (hl : longR ((c :: t).take n) = true) : ∀ x y, (c :: t).drop n = x :: y → nameB x = false := by
 have hn := (tokLen_le h).1
 obtain ⟨m, rfl⟩ : ∃ m, n = m + 1 := ⟨n - 1, by omega⟩
 rw [List.take_succ_cons, longR_cls] at hl
 rw [tokLen] at h
 split at h
 · split at h
   · simp only [Option.some.injEq, Prod.mk.injEq] at h
     obtain ⟨_, h2, _⟩ := h
     obtain rfl : (t.takeWhile nameB).length = m := by omega
     intro x y e
     rw [List.drop_succ_cons, drop_of_takeWhile] at e
     exact dropWhile_head _ _ _ _ e
   · cases h
 · split at h
   · rename_i h1 h2
     split at h
     · rename_i hl
       simp only [Option.some.injEq, Prod.mk.injEq] at h
       obtain ⟨_, h3, _⟩ := h
       obtain rfl : (t.takeWhile digB).length = m := by omega
       intro x y e
       rw [List.drop_succ_cons, drop_of_takeWhile] at e
       have h4 := dropWhile_head _ _ _ _ e
       have h5 := hl.2.2.2
       rw [e] at h5
       simp [letr] at h5
       simp [digB] at h4
       simp [nameB, h4, h5]
     · cases h
   · rename_i h1 h2
     simp [h1, h2] at hl
theorem jl_text : ∀ (f : Nat) (r : List UInt8) (p : Int) (l : List Tok) (a : Str), lexK f r p = some l → (longR a = true → ∀ c t, r = c :: t → nameB c = false) → (joinR a (txs l)).length ≤ r.length
 | 0, [], p, l, a, h, _ => by rw [lexK] at h; injection h with h; subst h; simp [joinR]
 | _ + 1, [], p, l, a, h, _ => by rw [lexK] at h; injection h with h; subst h; simp [joinR]
 | 0, c :: t, p, l, a, h, _ => by unfold lexK at h; cases h
 | f + 1, c :: t, p, l, a, h, ha => by
   rw [lexK] at h
   split at h
   · have h1 := jl_text f _ _ _ [] h (fun h => by cases h)
     have h2 := jl_skip a [] (txs l)
     rw [List.length_cons]; omega
   · split at h
     · cases h
     · rename_i hb k n v ht
       rw [Option.map_eq_some_iff] at h
       obtain ⟨l', h1, rfl⟩ := h
       have hl := tokLen_le ht
       have h2 := jl_text f _ _ _ ((c :: t).take n) h1 (fun hh => tok_rest ht hh)
       show (joinR a ((c :: t).take n :: txs l')).length ≤ _
       rw [joinR]
       have h3 : (longR a && longR ((c :: t).take n)) = false := by
         cases h4 : longR a with
         | false => rfl
         | true =>
           have h5 := ha h4 c t rfl
           obtain ⟨m, rfl⟩ : ∃ m, n = m + 1 := ⟨n - 1, by omega⟩
           rw [List.take_succ_cons, longR_cls]
           simp [nameB] at h5
           simp [h5]
       rw [h3]
       simp only [List.length_append, List.length_take, List.length_drop, Bool.false_eq_true, if_false, List.length_nil] at h2 ⊢
       omega
end Uw.Tryz
namespace Uw.Tryz
open Go Uw
def GW (s : Str) : Prop := ∃ k v, tokLen s = some (k, s.length, v)
def tokW (s : Str) : Tok := match tokLen s with | some (k, _, v) => ⟨k, s, v, 0⟩ | none => ⟨3, s, 0, 0⟩
abbrev wt (l : List Str) : List Tok := l.map tokW
theorem tokW_eq {s : Str} {k : Int} {n : Nat} {v : Int} (h : tokLen s = some (k, n, v)) : tokW s = ⟨k, s, v, 0⟩ := by unfold tokW; rw [h]
theorem txs_wt (l : List Str) : txs (wt l) = l := by
 rw [txs, List.map_map]
 have : ((fun (t : Tok) => t.text) ∘ tokW) = id := by
   funext s
   show (tokW s).text = s
   unfold tokW
   split <;> rfl
 rw [this, List.map_id]
theorem tw_app {α : Type} (p : α → Bool) (x Y : List α) (hx : (x.takeWhile p).length = x.length) (hY : ∀ c t, Y = c :: t → p c = false) : (x ++ Y).takeWhile p = x.takeWhile p ∧ (x ++ Y).dropWhile p = Y := by
 have h0 : Y.takeWhile p = [] ∧ Y.dropWhile p = Y := by
   cases Y with
   | nil => exact ⟨rfl, rfl⟩
   | cons c t => have := hY c t rfl; simp [List.takeWhile_cons, List.dropWhile_cons, this]
 have h1 : x.takeWhile p = x := by
   have := List.takeWhile_prefix (p := p) (l := x)
   exact this.eq_of_length hx
 constructor
 · rw [List.takeWhile_append, if_pos hx, h0.1, List.append_nil, h1]
 · have h2 : ∀ (x : List α), x.takeWhile p = x → (x ++ Y).dropWhile p = Y := by
     intro x
     induction x with
     | nil => exact fun _ => h0.2
     | cons a x ih =>
       intro h
       rw [List.takeWhile_cons] at h
       split at h
       · rename_i ha
         injection h with _ h
         rw [List.cons_append, List.dropWhile_cons, if_pos ha]; exact ih h
       · cases h
   exact h2 x h1
theorem tok_stab {s : Str} {k : Int} {v : Int} (h : tokLen s = some (k, s.length, v)) (Y : List UInt8) (hY : ∀ c t, Y = c :: t → (longR s = true → nameB c = false) ∧ (s = [61] → c.toNat ≠ 61)) : tokLen (s ++ Y) = some (k, s.length, v) := by
 cases s with
 | nil => simp [tokLen] at h
 | cons c x =>
   rw [longR_cls] at hY
   rw [List.cons_append]
   rw [tokLen] at h ⊢
   by_cases a1 : cls c = 1
   · have hh : ∀ c t, Y = c :: t → nameB c = false := fun c' t e => (hY c' t e).1 (by simp [a1])
     rw [if_pos a1] at h ⊢
     split at h
     · rename_i hl
       simp only [Option.some.injEq, Prod.mk.injEq, List.length_cons] at h
       obtain ⟨h1, h2, h3⟩ := h
       have e := (tw_app nameB x Y (by omega) hh).1
       rw [e, if_pos hl, h1, ← h3]
       simp; omega
     · cases h
   · rw [if_neg a1] at h ⊢
     by_cases a2 : cls c = 2
     · have hh : ∀ c t, Y = c :: t → nameB c = false := fun c' t e => (hY c' t e).1 (by simp [a2])
       rw [if_pos a2] at h ⊢
       split at h
       · rename_i hl
         simp only [Option.some.injEq, Prod.mk.injEq, List.length_cons] at h
         obtain ⟨h1, h2, h3⟩ := h
         obtain ⟨e1, e2⟩ := tw_app digB x Y (by omega) (fun c' t e => by have := hh c' t e; simp [nameB] at this; simp [digB, this])
         have e3 : letr Y = false := by
           cases Y with
           | nil => rfl
           | cons c' t => have := hh c' t rfl; simp [nameB] at this; simp [letr, this]
         rw [e1, e2, e3, if_pos ⟨hl.1, hl.2.1, hl.2.2.1, rfl⟩, h1, ← h3]
         simp; omega
       · cases h
     · rw [if_neg a2] at h ⊢
       by_cases a5 : cls c = 5
       · rw [if_pos a5] at h ⊢
         cases x with
         | cons d y =>
           split at h
           · rename_i hq
             simp only [Option.some.injEq, Prod.mk.injEq, List.length_cons] at h
             rw [List.cons_append, if_pos ⟨hq.1, by simpa [eqq] using hq.2⟩, h.1, h.2.2, h.2.1]
             simp
           · simp only [Option.some.injEq, Prod.mk.injEq, List.length_cons] at h
             omega
         | nil =>
           rw [if_neg (by simp [eqq])] at h
           rw [List.nil_append, if_neg ?_]
           · exact h
           · rintro ⟨h1, h2⟩
             cases Y with
             | nil => cases h2
             | cons d y =>
               have hc : c = 61 := UInt8.toNat.inj h1
               subst hc
               exact (hY d y rfl).2 rfl (by simpa [eqq] using h2)
       · rw [if_neg a5] at h; cases h
def NQ : List Str → Prop
 | a :: b :: r => (a = [61] → b.head? ≠ some 61) ∧ NQ (b :: r)
 | _ => True
theorem lex_join : ∀ (l : List Str) (a : Str) (p : Int), (∀ s ∈ l, GW s) → NQ l → ∃ m, lexF (joinR a l) p = some m ∧ m.map strip = wt l
 | [], a, p, _, _ => ⟨[], rfl, rfl⟩
 | s :: r, a, p, hg, hn => by
   obtain ⟨k, v, hk⟩ := hg s (List.mem_cons_self ..)
   have hcore : ∀ p, ∃ m, lexF (s ++ joinR s r) p = some m ∧ m.map strip = wt (s :: r) := by
     intro p
     obtain ⟨m, h1, h2⟩ := lex_join r s (p + s.length) (fun x hx => hg x (List.mem_cons_of_mem _ hx)) (by cases r with | nil => trivial | cons b r => exact hn.2)
     have hst : tokLen (s ++ joinR s r) = some (k, s.length, v) := by
       refine tok_stab hk _ fun c t e => ?_
       cases r with
       | nil => cases e
       | cons b r =>
         obtain ⟨kb, vb, hb⟩ := hg b (by simp)
         rw [joinR] at e
         cases hlb : longR s with
         | true =>
           refine ⟨fun _ => ?_, fun h => by rw [h] at hlb; cases hlb⟩
           rw [hlb, Bool.true_and] at e
           cases hl2 : longR b with
           | true => rw [hl2] at e; injection e with e _; subst e; decide
           | false =>
             rw [hl2] at e
             cases b with
             | nil => simp [tokLen] at hb
             | cons d y =>
               injection e with e _
               subst e
               rw [longR_cls] at hl2
               simp at hl2
               rw [tokLen, if_neg hl2.1, if_neg hl2.2] at hb
               split at hb
               · rename_i h5; simp [nameB, h5]
               · cases hb
         | false =>
           refine ⟨fun h => (by cases h), fun hs => ?_⟩
           rw [hlb] at e
           cases b with
           | nil => simp [tokLen] at hb
           | cons d y =>
             injection e with e _
             subst e
             have := hn.1 hs
             intro h61
             exact this (by rw [show d = 61 from UInt8.toNat.inj h61]; rfl)
     cases s with
     | nil => simp [tokLen] at hk
     | cons c x =>
       have hb4 : cls c ≠ 4 := by
         intro h4
         rw [tokLen, if_neg (by omega), if_neg (by omega), if_neg (by omega)] at hk
         cases hk
       rw [List.cons_append] at hst ⊢
       rw [lexF_tok c _ p hb4 hst, ← List.cons_append, List.drop_left, List.take_left, h1]
       exact ⟨_, rfl, by rw [List.map_cons, h2]; show _ = tokW (c :: x) :: wt r; rw [tokW_eq hk]; rfl⟩
   rw [joinR]
   split
   · obtain ⟨m, h1, h2⟩ := hcore (p + 1)
     refine ⟨m, ?_, h2⟩
     rw [List.append_assoc]
     show lexF (32 :: (s ++ joinR s r)) p = _
     rw [lexF_blank 32 _ p (by decide), h1]
   · exact hcore p
def AllG (l : List Str) : Prop := ∀ s ∈ l, GW s
theorem AllG.app {a b : List Str} (ha : AllG a) (hb : AllG b) : AllG (a ++ b) := fun s hs => (List.mem_append.1 hs).elim (ha s) (hb s)
theorem AllG.one {s : Str} (h : GW s) : AllG [s] := fun x hx => by rw [List.mem_singleton.1 hx]; exact h
theorem AllG.nil : AllG [] := fun _ h => by cases h
theorem T.allG {c o : List Str} (h : T c o) (hc : AllG c) : AllG o := fun s hs => hc s (h.sub.subset hs)
theorem lex_allG : ∀ (f : Nat) (r : List UInt8) (a : Int) (l : List Tok), lexK f r a = some l → AllG (txs l)
 | 0, [], a, l, h => by rw [lexK] at h; injection h with h; subst h; exact AllG.nil
 | _ + 1, [], a, l, h => by rw [lexK] at h; injection h with h; subst h; exact AllG.nil
 | 0, c :: t, a, l, h => by unfold lexK at h; cases h
 | f + 1, c :: t, a, l, h => by
   rw [lexK] at h
   split at h
   · exact lex_allG f _ _ _ h
   · split at h
     · cases h
     · rename_i k n v ht
       rw [Option.map_eq_some_iff] at h
       obtain ⟨l', h1, rfl⟩ := h
       refine AllG.app (a := [(c :: t).take n]) (AllG.one ?_) (lex_allG f _ _ _ h1)
       have hl := tokLen_le ht
       refine ⟨k, v, ?_⟩
       rw [(tokLen_one ht).1, List.length_take, Nat.min_eq_left hl.2]
theorem NQ.app : ∀ {a b : List Str}, NQ a → NQ b → (∀ x, a.getLast? = some x → x ≠ [61]) → NQ (a ++ b)
 | [], b, _, hb, _ => hb
 | [x], [], _, _, _ => trivial
 | [x], y :: b, _, hb, h => ⟨fun e => absurd e (h x rfl), hb⟩
 | x :: y :: a, b, ha, hb, h => ⟨ha.1, NQ.app (a := y :: a) ha.2 hb (fun z hz => h z (by rw [List.getLast?_cons_cons]; exact hz))⟩
def EN (l : List Str) : Prop := ∀ x, l.getLast? = some x → x ≠ [61]
theorem EN.app {a b : List Str} (hb : EN b) (hne : b ≠ []) : EN (a ++ b) := by
 intro x hx
 rw [List.getLast?_append] at hx
 cases h : b.getLast? with
 | none => rw [List.getLast?_eq_none_iff] at h; exact absurd h hne
 | some y => rw [h] at hx; exact hb x (by rw [h]; exact hx)
theorem EN.one {s : Str} (h : s ≠ [61]) : EN [s] := fun x hx => by injection hx with hx; subst hx; exact h
def NH (l : List Str) : Prop := l ≠ [] ∧ ∀ s r, l = s :: r → s.head? ≠ some 61
theorem NH.app {a b : List Str} (h : NH a) : NH (a ++ b) := by
 obtain ⟨h1, h2⟩ := h
 cases a with
 | nil => exact absurd rfl h1
 | cons s r => exact ⟨by simp, fun s' r' e => by injection e with e _; subst e; exact h2 s r rfl⟩
structure Fine (l : List Str) : Prop where
 ne : NQ l
 en : EN l
 so : l ≠ []
theorem Fine.app {a b : List Str} (ha : Fine a) (hb : Fine b) : Fine (a ++ b) := ⟨ha.ne.app hb.ne ha.en, hb.en.app hb.so, by have := ha.so; simp [this]⟩
theorem Fine.one {s : Str} (h : s ≠ [61]) (h0 : s ≠ []) : Fine [s] := ⟨trivial, EN.one h, by simp⟩
theorem Fine.eq {b : List Str} (hb : Fine b) (hh : NH b) : Fine ([61] :: b) := by
 cases b with
 | nil => exact absurd rfl hb.so
 | cons s r => exact ⟨⟨fun _ => hh.2 s r rfl, hb.ne⟩, EN.app (a := [[61]]) hb.en hb.so, by simp⟩
theorem name_fine {s : Str} (h : NameOk s) : Fine [s] ∧ NH [s] := by
 have h1 : s ≠ [] := by rintro rfl; have := h.1; cases this
 have h2 : s.head? ≠ some 61 := by
   intro e
   cases s with
   | nil => exact h1 rfl
   | cons c t =>
     injection e with e
     subst e
     have := h.1
     unfold NameS at this
     rw [tokLen, if_neg (by decide), if_neg (by decide), if_pos (by decide)] at this
     split at this <;> simp at this
 refine ⟨.one (by rintro rfl; exact h2 rfl) h1, by simp, fun s' r e => by injection e with e _; subst e; exact h2⟩
theorem dec_pos : ∀ n, ∃ c r, Lib.decDigits n = c :: r ∧ cls c = 2 := by
 intro n
 induction n using Nat.strongRecOn with
 | _ n ih =>
   by_cases h : n < 10
   · refine ⟨UInt8.ofNat (48 + n), [], Lib.decDigits_one h, ?_⟩
     rw [cls2]; simp; omega
   · obtain ⟨c, r, h1, h2⟩ := ih (n / 10) (by omega)
     rw [Lib.decDigits, dif_neg h, h1]
     exact ⟨c, _, rfl, h2⟩
theorem num_fine {n : Int} (h : NumOk n) : Fine [Lib.itoa n] ∧ NH [Lib.itoa n] := by
 obtain ⟨c, r, h1, h2⟩ := dec_pos n.toNat
 have e : Lib.itoa n = c :: r := by rw [Lib.itoa, if_neg (by have := h.1; omega), h1]
 have hc : c ≠ 61 := by rintro rfl; cases h2
 rw [e]
 exact ⟨.one (by rintro h; injection h with h _; exact hc h) (by simp), by simp, fun s' r' e => by injection e with e _; subst e; intro h; injection h with h; exact hc h⟩
theorem sign_fine (k : Int) (h : 3 ≤ k ∧ k ≤ 7) : Fine [signO k] := by
 unfold signO
 repeat' split
 all_goals first | exact .one (by decide) (by decide) | omega
end Uw.Tryz
namespace Uw.Tryz
open Go Uw
theorem dec_all : ∀ n, ∃ c r, Lib.decDigits n = c :: r ∧ (∀ b ∈ c :: r, cls b = 2) ∧ valD (c :: r) = n ∧ (r ≠ [] → c.toNat ≠ 48) ∧ (∀ k, n < 10 ^ (k + 1) → r.length ≤ k) := by
 intro n
 induction n using Nat.strongRecOn with
 | _ n ih =>
   by_cases h : n < 10
   · refine ⟨UInt8.ofNat (48 + n), [], Lib.decDigits_one h, ?_, ?_, fun h => absurd rfl h, fun k _ => Nat.zero_le _⟩
     · intro b hb
       rw [List.mem_singleton.1 hb, cls2]; simp; omega
     · simp [valD]; omega
   · obtain ⟨c, r, h1, h2, h3, h4, h5⟩ := ih (n / 10) (by omega)
     refine ⟨c, r ++ [UInt8.ofNat (48 + n % 10)], by rw [Lib.decDigits, dif_neg h, h1]; rfl, ?_, ?_, ?_, ?_⟩
     · intro b hb
       rw [← List.cons_append] at hb
       rcases List.mem_append.1 hb with hb | hb
       · exact h2 b hb
       · rw [List.mem_singleton.1 hb, cls2]; simp; omega
     · rw [← List.cons_append, valD_snoc, h3]; simp; omega
     · intro _ h48
       cases r with
       | nil =>
         have : valD [c] = n / 10 := h3
         simp [valD] at this
         omega
       | cons x y => exact h4 (by simp) h48
     · intro k hk
       cases k with
       | zero => omega
       | succ k =>
         have := h5 k (by rw [Nat.pow_succ] at hk; omega)
         simp; omega
theorem tw_all {α : Type} {p : α → Bool} : ∀ {l : List α}, (∀ b ∈ l, p b = true) → l.takeWhile p = l
 | [], _ => rfl
 | a :: l, h => by rw [List.takeWhile_cons, if_pos (h a (List.mem_cons_self ..)), tw_all fun b hb => h b (List.mem_cons_of_mem _ hb)]
theorem tok_itoa {n : Int} (h : NumOk n) : tokLen (Lib.itoa n) = some (2, (Lib.itoa n).length, n) := by
 obtain ⟨c, r, h1, h2, h3, h4, h5⟩ := dec_all n.toNat
 have e : Lib.itoa n = c :: r := by rw [Lib.itoa, if_neg (by have := h.1; omega), h1]
 have hr : ∀ b ∈ r, digB b = true := fun b hb => by simp [digB, h2 b (List.mem_cons_of_mem _ hb)]
 have hc := h2 c (List.mem_cons_self ..)
 have hl := h5 9 (by have := h.2; have := h.1; omega)
 have h6 := tw_all hr
 have h7 := (tw_app digB r [] (by rw [tw_all hr]) (fun _ _ h => by cases h)).2
 rw [List.append_nil] at h7
 have hz : 1 + r.length ≤ 10 ∧ ¬ (1 < 1 + r.length ∧ c.toNat = 48) ∧ n.toNat < 4294967296 ∧ letr [] = false := by
   refine ⟨by omega, ?_, by have := h.2; have := h.1; omega, rfl⟩
   rintro ⟨a, b⟩
   exact h4 (by rintro rfl; simp at a) b
 have h0 := h.1
 have e2 : ((n.toNat : Nat) : Int) = n := by omega
 rw [e, tokLen, if_neg (by rw [hc]; decide), if_pos hc, h6, h7, h3, if_pos hz, e2, List.length_cons, Nat.add_comm]
theorem tokW_num {n : Int} (h : NumOk n) : tokW (Lib.itoa n) = ⟨2, Lib.itoa n, n, 0⟩ := tokW_eq (tok_itoa h)
theorem tokW_name {s : Str} (h : NameOk s) : tokW s = ⟨1, s, 0, 0⟩ := tokW_eq h.1
theorem tokW_text (s : Str) : (tokW s).text = s := by unfold tokW; split <;> rfl
theorem hd_w (s : Str) (r : List Tok) : hd (tokW s :: r) = s := tokW_text s
def Ev {α : Type} (p : Nat → List Tok → R α) (r : List Tok) (a : α) (r' : List Tok) : Prop := ∃ N, ∀ n, N ≤ n → p n r = .ok a r'
section
variable {α β : Type} {p q : Nat → List Tok → R α} {r r1 r' : List Tok} {a : α} {b : β}
theorem Ev.ret : Ev (fun _ => cRet a) r a r := ⟨0, fun _ _ => rfl⟩
theorem Ev.step (h : ∀ n, p (n + 1) = q n) (hq : Ev q r a r') : Ev p r a r' := by
 obtain ⟨N, h1⟩ := hq
 refine ⟨N + 1, fun n hn => ?_⟩
 obtain ⟨m, rfl⟩ : ∃ m, n = m + 1 := ⟨n - 1, by omega⟩
 rw [h]; exact h1 m (by omega)
theorem Ev.same (h : ∀ n, p n = q n) (hq : Ev q r a r') : Ev p r a r' := by
 obtain ⟨N, h1⟩ := hq
 exact ⟨N, fun n hn => by rw [h]; exact h1 n hn⟩
theorem Ev.bind {p : Nat → List Tok → R β} {f : Nat → β → List Tok → R α} (h1 : Ev p r b r1) (h2 : Ev (fun n => f n b) r1 a r') : Ev (fun n => cBind (p n) (f n)) r a r' := by
 obtain ⟨N, h1⟩ := h1
 obtain ⟨M, h2⟩ := h2
 refine ⟨max N M, fun n hn => ?_⟩
 show (p n r).bind (f n) = _
 rw [h1 n (by omega)]
 exact h2 n (by omega)
theorem Ev.want {s : Str} (h : Ev p r a r') : Ev (fun n => cWant s (p n)) (tokW s :: r) a r' := by
 obtain ⟨N, h⟩ := h
 refine ⟨N, fun n hn => ?_⟩
 show (Uw.Tryz.want s (tokW s :: r)).bind _ = _
 rw [Uw.Tryz.want, if_pos (hd_w s r)]
 exact h n hn
theorem Ev.skipY {s : Str} (h : Ev p r a r') : Ev (fun n => cSkip s (p n) (q n)) (tokW s :: r) a r' := by
 obtain ⟨N, h⟩ := h
 refine ⟨N, fun n hn => ?_⟩
 show (if hd (tokW s :: r) = s then _ else _) = _
 rw [if_pos (hd_w s r)]
 exact h n hn
theorem Ev.skipN {s : Str} (hs : hd r ≠ s) (h : Ev q r a r') : Ev (fun n => cSkip s (p n) (q n)) r a r' := by
 obtain ⟨N, h⟩ := h
 refine ⟨N, fun n hn => ?_⟩
 show (if hd r = s then _ else _) = _
 rw [if_neg hs]
 exact h n hn
theorem Ev.peekY {s : Str} (h : Ev p (tokW s :: r) a r') : Ev (fun n => cPeek s (p n) (q n)) (tokW s :: r) a r' := by
 obtain ⟨N, h⟩ := h
 refine ⟨N, fun n hn => ?_⟩
 show (if hd (tokW s :: r) = s then _ else _) = _
 rw [if_pos (hd_w s r)]
 exact h n hn
theorem Ev.peekN {s : Str} (hs : hd r ≠ s) (h : Ev q r a r') : Ev (fun n => cPeek s (p n) (q n)) r a r' := by
 obtain ⟨N, h⟩ := h
 refine ⟨N, fun n hn => ?_⟩
 show (if hd r = s then _ else _) = _
 rw [if_neg hs]
 exact h n hn
theorem pName_w {s : Str} (hs : NameOk s) (r : List Tok) : pName (tokW s :: r) = .ok s r := by
 rw [tokW_name hs]
 show (if keyw s = true then (R.bad : R Str) else R.ok s r) = _
 rw [if_neg (by rw [hs.2]; decide)]
theorem Ev.name {s : Str} {f : Nat → Str → List Tok → R α} (hs : NameOk s) (h : Ev (fun n => f n s) r a r') : Ev (fun n => cName (f n)) (tokW s :: r) a r' := by
 obtain ⟨N, h⟩ := h
 refine ⟨N, fun n hn => ?_⟩
 show (pName (tokW s :: r)).bind _ = _
 rw [pName_w hs]
 exact h n hn
theorem Ev.numY {v : Int} {f : Nat → Int → List Tok → R α} (hv : NumOk v) (h : Ev (fun n => f n v) r a r') : Ev (fun n => cNum (f n) (q n)) (tokW (Lib.itoa v) :: r) a r' := by
 obtain ⟨N, h⟩ := h
 refine ⟨N, fun n hn => ?_⟩
 rw [tokW_num hv]
 exact h n hn
theorem Ev.numN {s : Str} {f : Nat → Int → List Tok → R α} (hs : NameOk s) (h : Ev q (tokW s :: r) a r') : Ev (fun n => cNum (f n) (q n)) (tokW s :: r) a r' := by
 obtain ⟨N, h⟩ := h
 refine ⟨N, fun n hn => ?_⟩
 show (if isNum (tokW s :: r) = true then f n (numOf (tokW s :: r)) (tokW s :: r).tail else q n (tokW s :: r)) = _
 rw [tokW_name hs] at h ⊢
 exact h n hn
end
theorem ne_key {s : Str} (h : NameOk s) {k : Str} (hk : keyw k = true) : s ≠ k := by
 rintro rfl; rw [h.2] at hk; cases hk
def Lead (s : Str) : Prop := s = [40] ∨ (∃ n, NumOk n ∧ s = Lib.itoa n) ∨ NameOk s
theorem num_head {n : Int} (h : NumOk n) : ∃ c r, Lib.itoa n = c :: r ∧ cls c = 2 := by
 obtain ⟨c, r, h1, h2⟩ := dec_pos n.toNat
 exact ⟨c, r, by rw [Lib.itoa, if_neg (by have := h.1; omega), h1], h2⟩
theorem name_head {s : Str} (h : NameOk s) : ∃ c r, s = c :: r ∧ cls c = 1 := by
 have h1 := h.1
 unfold NameS at h1
 cases s with
 | nil => cases h1
 | cons c r =>
   refine ⟨c, r, rfl, ?_⟩
   rw [tokLen] at h1
   by_cases hc : cls c = 1
   · exact hc
   · rw [if_neg hc] at h1
     split at h1
     · split at h1 <;> simp at h1
     · split at h1
       · split at h1 <;> simp at h1
       · cases h1
theorem Lead.ne {s : Str} (h : Lead s) {c : UInt8} {r : Str} (h1 : cls c = 5) (h2 : c ≠ 40) : s ≠ c :: r := by
 rcases h with rfl | ⟨n, hn, rfl⟩ | h
 · intro e; injection e with e _; exact h2 e.symm
 · obtain ⟨d, t, e, hd⟩ := num_head hn
   rw [e]; intro e; injection e with e _; subst e; omega
 · obtain ⟨d, t, rfl, hd⟩ := name_head h
   intro e; injection e with e _; subst e; omega
theorem Lead.key {s : Str} (h : Lead s) {k : Str} (hk : keyw k = true) (hc : ∀ c r, k = c :: r → cls c = 1) : s ≠ k := by
 rcases h with rfl | ⟨n, hn, rfl⟩ | h
 · rintro rfl; exact absurd (hc 40 [] rfl) (by decide)
 · obtain ⟨d, t, e, hd⟩ := num_head hn
   rintro rfl; have := hc _ _ e; omega
 · exact ne_key h hk
theorem lead_ex : ∀ (e : Ex) (l : Int), e.good → ∃ s r, wEx e l = s :: r ∧ Lead s
 | .num n, _, h => ⟨_, [], rfl, .inr (.inl ⟨n, h, rfl⟩)⟩
 | .name s, _, h => ⟨s, [], rfl, .inr (.inr h)⟩
 | .call o v ar, _, h => ⟨o, _, rfl, .inr (.inr h.1)⟩
 | .bin k a b, l, h => by
   obtain ⟨s, r, h1, h2⟩ := lead_ex a (max (tightO k) 1) h.2.1
   by_cases hk : tightO k < l
   · exact ⟨[40], _, by show (if tightO k < l then _ else _) = _; rw [if_pos hk]; rfl, .inl rfl⟩
   · refine ⟨s, r ++ ([signO k] ++ wEx b (tightO k + 1)), ?_, h2⟩
     show (if tightO k < l then _ else _) = _
     rw [if_neg hk, h1]
     simp
theorem wt_app (a b : List Str) : wt (a ++ b) = wt a ++ wt b := List.map_append
theorem wt_cons (s : Str) (b : List Str) : wt (s :: b) = tokW s :: wt b := rfl
structure Lv (e : Ex) : Prop where
 l3 : ∀ Z, hd Z ≠ [46] → Ev pPrim (wt (wEx e 3) ++ Z) e Z
 l2 : ∀ Z x Z', hd Z ≠ [46] → Ev (fun n => pProdT n e) Z x Z' → Ev pProd (wt (wEx e 2) ++ Z) x Z'
 l1 : ∀ Z x Z', hd Z ≠ [46] → hd Z ≠ [42] → Ev (fun n => pSumT n e) Z x Z' → Ev pSum (wt (wEx e 1) ++ Z) x Z'
 l0 : ∀ Z, hd Z ≠ [46] → hd Z ≠ [42] → hd Z ≠ [43] → hd Z ≠ [45] → hd Z ≠ [60] → hd Z ≠ [61, 61] → Ev pExpr (wt (wEx e 0) ++ Z) e Z
theorem prodT_stop {e : Ex} {Z : List Tok} (h : hd Z ≠ [42]) : Ev (fun n => pProdT n e) Z e Z := .step (fun n => pProdT_eq n e) (.skipN h .ret)
theorem sumT_stop {e : Ex} {Z : List Tok} (h : hd Z ≠ [43]) (h2 : hd Z ≠ [45]) : Ev (fun n => pSumT n e) Z e Z := .step (fun n => pSumT_eq n e) (.skipN h (.skipN h2 .ret))
theorem Lv.two {e : Ex} {Z : List Tok} (h : Lv e) (h1 : hd Z ≠ [46]) (h2 : hd Z ≠ [42]) : Ev pProd (wt (wEx e 2) ++ Z) e Z := h.l2 Z e Z h1 (prodT_stop h2)
theorem Lv.one {e : Ex} {Z : List Tok} (h : Lv e) (h1 : hd Z ≠ [46]) (h2 : hd Z ≠ [42]) (h3 : hd Z ≠ [43]) (h4 : hd Z ≠ [45]) : Ev pSum (wt (wEx e 1) ++ Z) e Z := h.l1 Z e Z h1 h2 (sumT_stop h3 h4)
theorem wEx_at (e : Ex) {l : Int} (hl : 0 ≤ l) (h3 : l ≤ 3) (h : ¬ tg e < l) : wEx e l = wEx e 0 := by rw [wEx_br e l hl h3, if_neg h]
theorem wEx_in (e : Ex) {l : Int} (hl : 0 ≤ l) (h3 : l ≤ 3) (h : tg e < l) : wEx e l = [40] :: (wEx e 0 ++ [[41]]) := by rw [wEx_br e l hl h3, if_pos h]
section
variable {e : Ex}
theorem up2 (h : ∀ Z, hd Z ≠ [46] → Ev pPrim (wt (wEx e 2) ++ Z) e Z) : ∀ Z x Z', hd Z ≠ [46] → Ev (fun n => pProdT n e) Z x Z' → Ev pProd (wt (wEx e 2) ++ Z) x Z' :=
 fun Z x Z' h1 h2 => .step pProd_eq (.bind (h Z h1) h2)
theorem up1 (h : ∀ Z x Z', hd Z ≠ [46] → Ev (fun n => pProdT n e) Z x Z' → Ev pProd (wt (wEx e 1) ++ Z) x Z') : ∀ Z x Z', hd Z ≠ [46] → hd Z ≠ [42] → Ev (fun n => pSumT n e) Z x Z' → Ev pSum (wt (wEx e 1) ++ Z) x Z' :=
 fun Z x Z' h1 h2 h3 => .step pSum_eq (.bind (h Z e Z h1 (prodT_stop h2)) h3)
theorem up0 (h : ∀ Z x Z', hd Z ≠ [46] → hd Z ≠ [42] → Ev (fun n => pSumT n e) Z x Z' → Ev pSum (wt (wEx e 0) ++ Z) x Z') : ∀ Z, hd Z ≠ [46] → hd Z ≠ [42] → hd Z ≠ [43] → hd Z ≠ [45] → hd Z ≠ [60] → hd Z ≠ [61, 61] → Ev pExpr (wt (wEx e 0) ++ Z) e Z :=
 fun Z h1 h2 h3 h4 h5 h6 => .step pExpr_eq (.bind (h Z e Z h1 h2 (sumT_stop h3 h4)) (.skipN h5 (.skipN h6 .ret)))
theorem inbr (h : ∀ Z, hd Z ≠ [46] → hd Z ≠ [42] → hd Z ≠ [43] → hd Z ≠ [45] → hd Z ≠ [60] → hd Z ≠ [61, 61] → Ev pExpr (wt (wEx e 0) ++ Z) e Z) (Z : List Tok) : Ev pPrim (wt ([40] :: (wEx e 0 ++ [[41]])) ++ Z) e Z := by
 rw [wt_cons, wt_app, List.cons_append, List.append_assoc]
 refine .step pPrim_eq (.skipY (.bind (h _ ?_ ?_ ?_ ?_ ?_ ?_) (.want .ret)))
 all_goals (show hd (tokW [41] :: Z) ≠ _; rw [hd_w]; decide)
theorem lv_of3 (ht : tg e = 3) (h : ∀ Z, hd Z ≠ [46] → Ev pPrim (wt (wEx e 0) ++ Z) e Z) : Lv e := by
 have a3 := wEx_at e (l := 3) (by decide) (by decide) (by omega)
 have a2 := wEx_at e (l := 2) (by decide) (by decide) (by omega)
 have a1 := wEx_at e (l := 1) (by decide) (by decide) (by omega)
 have b2 := up2 (e := e) (by rw [a2]; exact h)
 have b1 := up1 (e := e) (by rw [a1, ← a2]; exact b2)
 exact ⟨by rw [a3]; exact h, b2, b1, up0 (by rw [← a1]; exact b1)⟩
theorem lv_of2 (ht : tg e = 2) (h : ∀ Z x Z', hd Z ≠ [46] → Ev (fun n => pProdT n e) Z x Z' → Ev pProd (wt (wEx e 0) ++ Z) x Z') : Lv e := by
 have a3 := wEx_in e (l := 3) (by decide) (by decide) (by omega)
 have a2 := wEx_at e (l := 2) (by decide) (by decide) (by omega)
 have a1 := wEx_at e (l := 1) (by decide) (by decide) (by omega)
 have b1 := up1 (e := e) (by rw [a1]; exact h)
 have b0 := up0 (e := e) (by rw [← a1]; exact b1)
 exact ⟨fun Z _ => by rw [a3]; exact inbr b0 Z, by rw [a2]; exact h, b1, b0⟩
theorem lv_of1 (ht : tg e = 1) (h : ∀ Z x Z', hd Z ≠ [46] → hd Z ≠ [42] → Ev (fun n => pSumT n e) Z x Z' → Ev pSum (wt (wEx e 0) ++ Z) x Z') : Lv e := by
 have a3 := wEx_in e (l := 3) (by decide) (by decide) (by omega)
 have a2 := wEx_in e (l := 2) (by decide) (by decide) (by omega)
 have a1 := wEx_at e (l := 1) (by decide) (by decide) (by omega)
 have b0 := up0 (e := e) h
 exact ⟨fun Z _ => by rw [a3]; exact inbr b0 Z, up2 (fun Z _ => by rw [a2]; exact inbr b0 Z), by rw [a1]; exact h, b0⟩
theorem lv_of0 (ht : tg e = 0) (b0 : ∀ Z, hd Z ≠ [46] → hd Z ≠ [42] → hd Z ≠ [43] → hd Z ≠ [45] → hd Z ≠ [60] → hd Z ≠ [61, 61] → Ev pExpr (wt (wEx e 0) ++ Z) e Z) : Lv e := by
 have a3 := wEx_in e (l := 3) (by decide) (by decide) (by omega)
 have a2 := wEx_in e (l := 2) (by decide) (by decide) (by omega)
 have a1 := wEx_in e (l := 1) (by decide) (by decide) (by omega)
 have b2 := up2 (e := e) (fun Z _ => by rw [a2]; exact inbr b0 Z)
 exact ⟨fun Z _ => by rw [a3]; exact inbr b0 Z, b2, up1 (by rw [a1, ← a2]; exact b2), b0⟩
end
theorem app3 (a b c : List Str) (Z : List Tok) : wt (a ++ b ++ c) ++ Z = wt a ++ (wt b ++ (wt c ++ Z)) := by simp
theorem app2 (a b : List Str) (Z : List Tok) : wt (a ++ b) ++ Z = wt a ++ (wt b ++ Z) := by simp
structure Lz (es : Exs) : Prop where
 args : ∀ Z, Ev pArgs (wt (wArgs es) ++ Z) es Z
 tail : ∀ Z, Ev pArgsT (wt (wTail es ++ [[41]]) ++ Z) es Z
theorem hd_lead {e : Ex} (hg : e.good) (l : Int) (Z : List Tok) : Lead (hd (wt (wEx e l) ++ Z)) := by
 obtain ⟨s, r, h1, h2⟩ := lead_ex e l hg
 rw [h1, wt_cons, List.cons_append, hd_w]; exact h2
theorem tailE (es : Exs) (Z : List Tok) : hd (wt (wTail es ++ [[41]]) ++ Z) = [44] ∨ hd (wt (wTail es ++ [[41]]) ++ Z) = [41] := by
 cases es with
 | nil => exact .inr (hd_w _ _)
 | cons e r => exact .inl (hd_w _ _)
mutual
theorem lv_ex : ∀ (e : Ex), e.good → Lv e
 | .num n, h => lv_of3 rfl fun Z _ => .step pPrim_eq (.skipN (by rw [show wt (wEx (.num n) 0) ++ Z = tokW (Lib.itoa n) :: Z from rfl, hd_w]; obtain ⟨c, r, e, hc⟩ := num_head h; rw [e]; intro e; injection e with e _; subst e; cases hc) (.numY h .ret))
 | .name s, h => lv_of3 rfl fun Z hZ => .step pPrim_eq (.skipN (by rw [show wt (wEx (.name s) 0) ++ Z = tokW s :: Z from rfl, hd_w]; obtain ⟨c, r, e, hc⟩ := name_head h; rw [e]; intro e; injection e with e _; subst e; cases hc) (.numN h (.name h (.peekN hZ .ret))))
 | .call o v ar, h => by
   have ih := lz_ex ar h.2.2
   refine lv_of3 rfl fun Z hZ => .step pPrim_eq ?_
   have e1 : wt (wEx (.call o v ar) 0) ++ Z = tokW o :: tokW [46] :: tokW v :: (wt (wArgs ar) ++ Z) := by simp [wEx, wArgs]
   rw [e1]
   refine .skipN (by rw [hd_w]; obtain ⟨c, r, e, hc⟩ := name_head h.1; rw [e]; intro e; injection e with e _; subst e; cases hc) (.numN h.1 (.name h.1 (.peekY (.bind (b := (v, ar)) ?_ .ret))))
   exact .step (fun n => pCall_eq n o) (.want (.name h.2.1 (.bind (ih.args Z) .ret)))
 | .bin k a b, h => by
   have ha := lv_ex a h.2.1
   have hb := lv_ex b h.2.2
   have hk := h.1
   have hh : ∀ s l Z, hd (wt [s] ++ (wt (wEx b l) ++ Z)) = s := fun s l Z => hd_w s _
   rcases (show k = 3 ∨ k = 4 ∨ k = 5 ∨ k = 6 ∨ k = 7 by omega) with rfl | rfl | rfl | rfl | rfl
   · refine lv_of1 rfl fun Z x Z' z1 z2 h3 => ?_
     rw [show wEx (.bin 3 a b) 0 = wEx a 1 ++ [[43]] ++ wEx b 2 from (w3 a b).symm, app3]
     refine ha.l1 _ _ _ (by rw [hh]; decide) (by rw [hh]; decide) (.step (fun n => pSumT_eq n a) (.skipY (.bind (hb.two z1 z2) h3)))
   · refine lv_of1 rfl fun Z x Z' z1 z2 h3 => ?_
     rw [show wEx (.bin 4 a b) 0 = wEx a 1 ++ [[45]] ++ wEx b 2 from (w4 a b).symm, app3]
     refine ha.l1 _ _ _ (by rw [hh]; decide) (by rw [hh]; decide) (.step (fun n => pSumT_eq n a) (.skipN (by rw [hh]; decide) (.skipY (.bind (hb.two z1 z2) h3))))
   · refine lv_of2 rfl fun Z x Z' z1 h3 => ?_
     rw [show wEx (.bin 5 a b) 0 = wEx a 2 ++ [[42]] ++ wEx b 3 from (w5 a b).symm, app3]
     refine ha.l2 _ _ _ (by rw [hh]; decide) (.step (fun n => pProdT_eq n a) (.skipY (.bind (hb.l3 _ z1) h3)))
   · refine lv_of0 rfl fun Z z1 z2 z3 z4 z5 z6 => ?_
     rw [← w6 a b, app3]
     refine .step pExpr_eq (.bind (ha.one (by rw [hh]; decide) (by rw [hh]; decide) (by rw [hh]; decide) (by rw [hh]; decide)) (.skipY (.bind (hb.one z1 z2 z3 z4) .ret)))
   · refine lv_of0 rfl fun Z z1 z2 z3 z4 z5 z6 => ?_
     rw [← w7 a b, app3]
     refine .step pExpr_eq (.bind (ha.one (by rw [hh]; decide) (by rw [hh]; decide) (by rw [hh]; decide) (by rw [hh]; decide)) (.skipN (by rw [hh]; decide) (.skipY (.bind (hb.one z1 z2 z3 z4) .ret))))
theorem lz_ex : ∀ (es : Exs), es.good → Lz es
 | .nil, _ => ⟨fun Z => .step pArgs_eq (.want (.skipY .ret)), fun Z => .step pArgsT_eq (.skipN (by rw [show wt (wTail .nil ++ [[41]]) ++ Z = tokW [41] :: Z from rfl, hd_w]; decide) (.want .ret))⟩
 | .cons e r, h => by
   have he := lv_ex e h.1
   have hr := lz_ex r h.2
   have z : ∀ (s : Str) Z, s ≠ [44] → s ≠ [41] → hd (wt (wTail r ++ [[41]]) ++ Z) ≠ s := fun s Z h1 h2 => by
     rcases tailE r Z with h | h <;> rw [h]
     · exact h1.symm
     · exact h2.symm
   refine ⟨fun Z => ?_, fun Z => ?_⟩
   · have e1 : wt (wArgs (.cons e r)) ++ Z = tokW [40] :: (wt (wEx e 0) ++ (wt (wTail r ++ [[41]]) ++ Z)) := by simp [wArgs, wExs]
     rw [e1]
     refine .step pArgs_eq (.want (.skipN ((hd_lead h.1 0 _).ne (by decide) (by decide)) (.bind (he.l0 _ (z _ Z (by decide) (by decide)) (z _ Z (by decide) (by decide)) (z _ Z (by decide) (by decide)) (z _ Z (by decide) (by decide)) (z _ Z (by decide) (by decide)) (z _ Z (by decide) (by decide))) (.bind (hr.tail Z) .ret))))
   · have e1 : wt (wTail (.cons e r) ++ [[41]]) ++ Z = tokW [44] :: (wt (wEx e 0) ++ (wt (wTail r ++ [[41]]) ++ Z)) := by simp [wTail]
     rw [e1]
     refine .step pArgsT_eq (.skipY (.bind (he.l0 _ (z _ Z (by decide) (by decide)) (z _ Z (by decide) (by decide)) (z _ Z (by decide) (by decide)) (z _ Z (by decide) (by decide)) (z _ Z (by decide) (by decide)) (z _ Z (by decide) (by decide))) (.bind (hr.tail Z) .ret)))
end
end Uw.Tryz
namespace Uw.Tryz
open Go Uw
theorem ev_child {par : Bool} {to f : Str} {ar : Exs} (hf : NameOk f) (ha : ar.good) (hp : par = true → ar.length = 2) (Z : List Tok) :
   Ev (fun n => pChild n to) (wt ([if par then sPar else sSpawn, f] ++ wArgs ar) ++ Z) (.task par to f ar) Z := by
 have h1 := (lz_ex ar ha).args Z
 have e1 : wt ([if par then sPar else sSpawn, f] ++ wArgs ar) ++ Z = tokW (if par then sPar else sSpawn) :: tokW f :: (wt (wArgs ar) ++ Z) := by simp
 rw [e1]
 refine .same (fun n => pChild_eq n to) (.bind (b := par) (r1 := tokW f :: (wt (wArgs ar) ++ Z)) ?_ (.name hf (.bind h1 ?_)))
 · cases par with
   | false => exact .skipY .ret
   | true => exact .skipN (by rw [hd_w]; decide) (.want .ret)
 · rw [if_neg (by rintro ⟨a, b⟩; exact b (hp a))]
   exact .ret
theorem key_c {k : Str} (hk : k = sSpawn ∨ k = sPar ∨ k = sSync ∨ k = sReturn ∨ k = sAssert ∨ k = sIf ∨ k = sWhile ∨ k = sElse ∨ k = sFunc) : keyw k = true ∧ ∀ c r, k = c :: r → cls c = 1 := by
 rcases hk with rfl | rfl | rfl | rfl | rfl | rfl | rfl | rfl | rfl <;> exact ⟨by decide, fun c r e => by injection e with e _; subst e; decide⟩
theorem ev_simple {s : Stm} (h : s.good) (hs : isSim s) {Z : List Tok} (hZ : hd Z = [59]) : Ev pSimple (wt (wSim s) ++ Z) s Z := by
 have z : ∀ k : Str, k ≠ [59] → hd Z ≠ k := fun k hk => by rw [hZ]; exact hk.symm
 have ex : ∀ e : Ex, e.good → Ev pExpr (wt (wEx e 0) ++ Z) e Z := fun e he => (lv_ex e he).l0 Z (z _ (by decide)) (z _ (by decide)) (z _ (by decide)) (z _ (by decide)) (z _ (by decide)) (z _ (by decide))
 have nm : ∀ {n : Str} (r : List Tok), NameOk n → ∀ k : Str, keyw k = true → hd (tokW n :: r) ≠ k := fun r hn k hk => by rw [hd_w]; exact ne_key hn hk
 cases s with
 | if1 _ _ => exact hs.elim
 | if2 _ _ _ => exact hs.elim
 | loop _ _ => exact hs.elim
 | set n e =>
   have e1 : wt (wSim (.set n e)) ++ Z = tokW n :: tokW [61] :: (wt (wEx e 0) ++ Z) := by simp [wSim]
   rw [e1]
   refine .same pSimple_eq (.peekN (nm _ h.1 _ (by decide)) (.peekN (nm _ h.1 _ (by decide)) (.skipN (nm _ h.1 _ (by decide)) (.skipN (nm _ h.1 _ (by decide)) (.skipN (nm _ h.1 _ (by decide)) (.name h.1 (.peekN (by rw [hd_w]; decide) (.want ?_))))))))
   have hl := hd_lead h.2 0 Z
   have k1 := key_c (k := sSpawn) (.inl rfl)
   have k2 := key_c (k := sPar) (.inr (.inl rfl))
   exact .peekN (hl.key k1.1 k1.2) (.peekN (hl.key k2.1 k2.2) (.bind (ex e h.2) .ret))
 | task par to f ar =>
   obtain ⟨h1, h2, h3, h4⟩ := h
   by_cases ht : to = []
   · subst ht
     have hc := ev_child (to := []) h2 h3 h4 Z
     have e1 : wt (wSim (.task par [] f ar)) ++ Z = wt ([if par then sPar else sSpawn, f] ++ wArgs ar) ++ Z := by simp [wSim]
     rw [e1]
     refine .same pSimple_eq ?_
     cases par with
     | false => exact .peekY hc
     | true => exact .peekN (by show hd (tokW sPar :: _) ≠ _; rw [hd_w]; decide) (.peekY hc)
   · have hn : NameOk to := h1.resolve_left ht
     have hc := ev_child (to := to) h2 h3 h4 Z
     have e1 : wt (wSim (.task par to f ar)) ++ Z = tokW to :: tokW [61] :: (wt ([if par then sPar else sSpawn, f] ++ wArgs ar) ++ Z) := by simp [wSim, ht]
     rw [e1]
     refine .same pSimple_eq (.peekN (nm _ hn _ (by decide)) (.peekN (nm _ hn _ (by decide)) (.skipN (nm _ hn _ (by decide)) (.skipN (nm _ hn _ (by decide)) (.skipN (nm _ hn _ (by decide)) (.name hn (.peekN (by rw [hd_w]; decide) (.want ?_))))))))
     cases par with
     | false => exact .peekY hc
     | true => exact .peekN (by show hd (tokW sPar :: _) ≠ _; rw [hd_w]; decide) (.peekY hc)
 | sync =>
   refine .same pSimple_eq (.peekN (by show hd (tokW sSync :: _) ≠ _; rw [hd_w]; decide) (.peekN (by show hd (tokW sSync :: _) ≠ _; rw [hd_w]; decide) (.skipY .ret)))
 | one k e =>
   rcases h.1 with rfl | rfl
   · refine .same pSimple_eq (.peekN (by show hd (tokW sReturn :: _) ≠ _; rw [hd_w]; decide) (.peekN (by show hd (tokW sReturn :: _) ≠ _; rw [hd_w]; decide) (.skipN (by show hd (tokW sReturn :: _) ≠ _; rw [hd_w]; decide) (.skipY (.bind (ex e h.2) .ret)))))
   · refine .same pSimple_eq (.peekN (by show hd (tokW sAssert :: _) ≠ _; rw [hd_w]; decide) (.peekN (by show hd (tokW sAssert :: _) ≠ _; rw [hd_w]; decide) (.skipN (by show hd (tokW sAssert :: _) ≠ _; rw [hd_w]; decide) (.skipN (by show hd (tokW sAssert :: _) ≠ _; rw [hd_w]; decide) (.skipY (.bind (ex e h.2) .ret))))))
 | act o v ar =>
   have e1 : wt (wSim (.act o v ar)) ++ Z = tokW o :: tokW [46] :: tokW v :: (wt (wArgs ar) ++ Z) := by simp [wSim, wEx, wArgs]
   rw [e1]
   refine .same pSimple_eq (.peekN (nm _ h.1 _ (by decide)) (.peekN (nm _ h.1 _ (by decide)) (.skipN (nm _ h.1 _ (by decide)) (.skipN (nm _ h.1 _ (by decide)) (.skipN (nm _ h.1 _ (by decide)) (.name h.1 (.peekY (.bind (b := (v, ar)) ?_ .ret))))))))
   exact .step (fun n => pCall_eq n o) (.want (.name h.2.1 (.bind ((lz_ex ar h.2.2).args Z) .ret)))
theorem lead_stm {s : Stm} (h : s.good) : ∃ w r, wStm s = w :: r ∧ w ≠ sElse ∧ w ≠ [125] ∧ (isSim s → w ≠ sIf ∧ w ≠ sWhile) := by
 have nm : ∀ {n : Str}, NameOk n → n ≠ sElse ∧ n ≠ [125] ∧ (isSim s → n ≠ sIf ∧ n ≠ sWhile) := fun hn => ⟨ne_key hn (by decide), (by obtain ⟨c, r, e, hc⟩ := name_head hn; rw [e]; intro e; injection e with e _; subst e; cases hc), fun _ => ⟨ne_key hn (by decide), ne_key hn (by decide)⟩⟩
 cases s with
 | if1 e a => exact ⟨sIf, _, rfl, by decide, by decide, fun h => h.elim⟩
 | if2 e a b => exact ⟨sIf, _, rfl, by decide, by decide, fun h => h.elim⟩
 | loop e a => exact ⟨sWhile, _, rfl, by decide, by decide, fun h => h.elim⟩
 | set n e => exact ⟨n, _, rfl, nm h.1⟩
 | task par to f ar =>
   by_cases ht : to = []
   · subst ht
     cases par with
     | false => exact ⟨sSpawn, _, rfl, by decide, by decide, fun _ => ⟨by decide, by decide⟩⟩
     | true => exact ⟨sPar, _, rfl, by decide, by decide, fun _ => ⟨by decide, by decide⟩⟩
   · exact ⟨to, [[61]] ++ ([if par then sPar else sSpawn, f] ++ (wArgs ar ++ [[59]])), by simp [wStm, ht], nm (h.1.resolve_left ht)⟩
 | sync => exact ⟨sSync, _, rfl, by decide, by decide, fun _ => ⟨by decide, by decide⟩⟩
 | one k e =>
   rcases h.1 with rfl | rfl
   · exact ⟨sReturn, _, rfl, by decide, by decide, fun _ => ⟨by decide, by decide⟩⟩
   · exact ⟨sAssert, _, rfl, by decide, by decide, fun _ => ⟨by decide, by decide⟩⟩
 | act o v ar => exact ⟨o, _, rfl, nm h.1⟩
theorem ev_sim {s : Stm} (h : s.good) (hs : isSim s) (Z : List Tok) : Ev pStmt (wt (wStm s) ++ Z) s Z := by
 obtain ⟨w, r, h1, _, _, h4⟩ := lead_stm h
 obtain ⟨h4, h5⟩ := h4 hs
 have e1 : hd (wt (wStm s) ++ Z) = w := by rw [h1]; exact hd_w _ _
 refine .step pStmt_eq (.skipN (by rw [e1]; exact h4) (.skipN (by rw [e1]; exact h5) ?_))
 rw [← wSim_ok hs, app2]
 exact .bind (ev_simple h hs (hd_w _ _)) (.want .ret)
theorem ev_head {e : Ex} (he : e.good) (Z : List Tok) : Ev pExpr (wt (wEx e 0) ++ (tokW [123] :: Z)) e (tokW [123] :: Z) := by
 have z : ∀ k : Str, k ≠ [123] → hd (tokW [123] :: Z) ≠ k := fun k hk => by rw [hd_w]; exact hk.symm
 exact (lv_ex e he).l0 _ (z _ (by decide)) (z _ (by decide)) (z _ (by decide)) (z _ (by decide)) (z _ (by decide)) (z _ (by decide))
theorem ev_blk {b : Bl} (h : ∀ Z, Ev pStmts (wt (wBl b ++ [[125]]) ++ Z) b Z) (Z : List Tok) : Ev pBlock (tokW [123] :: (wt (wBl b ++ [[125]]) ++ Z)) b Z := .step pBlock_eq (.want (h Z))
mutual
theorem ev_stm : ∀ (s : Stm), s.good → ∀ Z, hd Z ≠ sElse → Ev pStmt (wt (wStm s) ++ Z) s Z
 | .set n e, h, Z, _ => ev_sim h trivial Z
 | .task par to f ar, h, Z, _ => ev_sim h trivial Z
 | .sync, h, Z, _ => ev_sim h trivial Z
 | .one k e, h, Z, _ => ev_sim h trivial Z
 | .act o v ar, h, Z, _ => ev_sim h trivial Z
 | .if1 e a, h, Z, hZ => by
   have e1 : wt (wStm (.if1 e a)) ++ Z = tokW sIf :: (wt (wEx e 0) ++ (tokW [123] :: (wt (wBl a ++ [[125]]) ++ Z))) := by simp [wStm]
   rw [e1]
   exact .step pStmt_eq (.skipY (.bind (ev_head h.1 _) (.bind (ev_blk (ev_bl a h.2) Z) (.skipN hZ .ret))))
 | .if2 e a b, h, Z, hZ => by
   have e1 : wt (wStm (.if2 e a b)) ++ Z = tokW sIf :: (wt (wEx e 0) ++ (tokW [123] :: (wt (wBl a ++ [[125]]) ++ (tokW sElse :: tokW [123] :: (wt (wBl b ++ [[125]]) ++ Z))))) := by simp [wStm]
   rw [e1]
   exact .step pStmt_eq (.skipY (.bind (ev_head h.1 _) (.bind (ev_blk (ev_bl a h.2.1) _) (.skipY (.bind (ev_blk (ev_bl b h.2.2) Z) .ret)))))
 | .loop e a, h, Z, hZ => by
   have e1 : wt (wStm (.loop e a)) ++ Z = tokW sWhile :: (wt (wEx e 0) ++ (tokW [123] :: (wt (wBl a ++ [[125]]) ++ Z))) := by simp [wStm]
   rw [e1]
   exact .step pStmt_eq (.skipN (by rw [hd_w]; decide) (.skipY (.bind (ev_head h.1 _) (.bind (ev_blk (ev_bl a h.2) Z) .ret))))
theorem ev_bl : ∀ (b : Bl), b.good → ∀ Z, Ev pStmts (wt (wBl b ++ [[125]]) ++ Z) b Z
 | .nil, _, Z => .step pStmts_eq (.skipY .ret)
 | .cons s r, h, Z => by
   have e1 : wt (wBl (.cons s r) ++ [[125]]) ++ Z = wt (wStm s) ++ (wt (wBl r ++ [[125]]) ++ Z) := by simp [wBl]
   obtain ⟨w, q, h1, _, h3, _⟩ := lead_stm h.1
   have e2 : hd (wt (wStm s) ++ (wt (wBl r ++ [[125]]) ++ Z)) = w := by rw [h1]; exact hd_w _ _
   have e3 : hd (wt (wBl r ++ [[125]]) ++ Z) ≠ sElse := by
     cases r with
     | nil => show hd (tokW [125] :: _) ≠ _; rw [hd_w]; decide
     | cons s2 r2 =>
       obtain ⟨w2, q2, h1, h2, _, _⟩ := lead_stm h.2.1
       rw [wBl, h1]
       show hd (tokW w2 :: _) ≠ _
       rw [hd_w]; exact h2
   rw [e1]
   exact .step pStmts_eq (.skipN (by rw [e2]; exact h3) (.bind (ev_stm s h.1 _ e3) (.bind (ev_bl r h.2 Z) .ret)))
end
theorem ev_namesT : ∀ (l : List Str), (∀ s ∈ l, NameOk s) → ∀ Z, Ev pNamesT (wt ((l.flatMap fun s => [[44], s]) ++ [[41]]) ++ Z) l Z
 | [], _, Z => .step pNamesT_eq (.skipN (by show hd (tokW [41] :: Z) ≠ _; rw [hd_w]; decide) (.want .ret))
 | s :: l, h, Z => by
   have e1 : wt (((s :: l).flatMap fun s => [[44], s]) ++ [[41]]) ++ Z = tokW [44] :: tokW s :: (wt ((l.flatMap fun s => [[44], s]) ++ [[41]]) ++ Z) := by simp
   rw [e1]
   exact .step pNamesT_eq (.skipY (.name (h s (List.mem_cons_self ..)) (.bind (ev_namesT l (fun x hx => h x (List.mem_cons_of_mem _ hx)) Z) .ret)))
theorem ev_fun {f : Fn} (h : f.good) (Z : List Tok) : Ev pFun (wt (wFn f) ++ Z) f Z := by
 obtain ⟨nm, al, b⟩ := f
 have e1 : wt (wFn ⟨nm, al, b⟩) ++ Z = tokW sFunc :: tokW nm :: tokW [40] :: (wt (wStrs al ++ [[41]]) ++ (tokW [123] :: (wt (wBl b ++ [[125]]) ++ Z))) := by simp [wFn, wBlock]
 rw [e1]
 refine .same pFun_eq (.want (.name h.name (.bind (b := al) ?_ (.bind (ev_blk (ev_bl b h.body) Z) .ret))))
 cases al with
 | nil => exact .same pNames_eq (.want (.skipY .ret))
 | cons s l =>
   have hs : NameOk s := h.args s (List.mem_cons_self ..)
   have e2 : ∀ Z, wt (wStrs (s :: l) ++ [[41]]) ++ Z = tokW s :: (wt ((l.flatMap fun s => [[44], s]) ++ [[41]]) ++ Z) := fun Z => by simp [wStrs]
   rw [e2]
   exact .same pNames_eq (.want (.skipN (by rw [hd_w]; obtain ⟨c, r, e, hc⟩ := name_head hs; rw [e]; intro e; injection e with e _; subst e; cases hc) (.name hs (.bind (ev_namesT l (fun x hx => h.args x (List.mem_cons_of_mem _ hx)) _) .ret))))
theorem kindS_ok {k : Int} (h : 0 ≤ k ∧ k ≤ 3) : kindOf (kindS k) = some k ∧ tokW (kindS k) = ⟨1, kindS k, 0, 0⟩ ∧ kindS k ≠ sFunc := by
 rcases (show k = 0 ∨ k = 1 ∨ k = 2 ∨ k = 3 by omega) with rfl | rfl | rfl | rfl <;> exact ⟨by decide, by decide, by decide⟩
theorem ev_decl {d : Dec} (h : d.good) (Z : List Tok) : pDecl (wt (wDec d) ++ Z) = .ok d Z := by
 obtain ⟨k, nm, n⟩ := d
 obtain ⟨k1, k2, _⟩ := kindS_ok h.kind
 have hw : ∀ (x : Dec) Z, cWant [59] (cRet x) (tokW [59] :: Z) = .ok x Z := fun x Z => by
   show (want [59] (tokW [59] :: Z)).bind _ = _
   rw [want, if_pos (hd_w _ _)]; rfl
 have e1 : wt (wDec ⟨k, nm, n⟩) ++ Z = ⟨1, kindS k, 0, 0⟩ :: tokW nm :: (wt ((if n ≠ 0 then [[61], Lib.itoa n] else []) ++ [[59]]) ++ Z) := by
   rw [← k2]; simp [wDec]
 rw [e1, pDecl_eq]
 show cKind (kindS k) _ = _
 unfold cKind
 rw [k1]
 show (pName (tokW nm :: _)).bind _ = _
 rw [pName_w h.name, ok_bind]
 by_cases h0 : n = 0
 · subst h0
   show (if k = 0 then (cSkip [61] _ _ : List Tok → R Dec) else cWant [59] (cRet ⟨k, nm, 0⟩)) (tokW [59] :: Z) = _
   split
   · show (if hd (tokW [59] :: Z) = [61] then _ else _) = _
     rw [if_neg (by rw [hd_w]; decide)]
     exact hw _ _
   · exact hw _ _
 · have hk : k = 0 := by
     by_cases hk : k = 0
     · exact hk
     · exact absurd (h.zero hk) h0
   rw [if_pos hk, if_pos h0]
   show (if hd (tokW [61] :: _) = [61] then _ else _) = _
   rw [if_pos (hd_w _ _)]
   show (pWord 2 (tokW (Lib.itoa n) :: tokW [59] :: Z)).bind _ = _
   rw [tokW_num h.n]
   exact hw _ _
theorem wDec_cons (d : Dec) : ∃ r, wDec d = kindS d.kind :: r := ⟨_, rfl⟩
theorem rd_decs : ∀ (ds : List Dec), (∀ d ∈ ds, d.good) → ∀ Z, (Z = [] ∨ hd Z = sFunc) → Decs (wt (ds.flatMap wDec) ++ Z) ds Z
 | [], _, Z, hZ => .stop hZ
 | d :: ds, h, Z, hZ => by
   rw [List.flatMap_cons, app2]
   have hd1 := h d (List.mem_cons_self ..)
   refine .cons ?_ (ev_decl hd1 _) (rd_decs ds (fun x hx => h x (List.mem_cons_of_mem _ hx)) Z hZ)
   obtain ⟨r, e⟩ := wDec_cons d
   rw [e, wt_cons]
   rintro (h | h)
   · cases h
   · rw [List.cons_append, hd_w] at h
     exact (kindS_ok hd1.kind).2.2 h
theorem rd_funs : ∀ (fs : List Fn), (∀ f ∈ fs, f.good) → Funs (wt (fs.flatMap wFn)) fs
 | [], _ => .nil
 | f :: fs, h => by
   rw [List.flatMap_cons, wt_app]
   obtain ⟨N, h1⟩ := ev_fun (h f (List.mem_cons_self ..)) (wt (fs.flatMap wFn))
   exact .cons ⟨N, h1 N (Nat.le_refl _)⟩ (rd_funs fs fun x hx => h x (List.mem_cons_of_mem _ hx))
theorem rd_prog (x : List Dec × List Fn) (hg : (∀ d ∈ x.1, d.good) ∧ ∀ f ∈ x.2, f.good) : Prg (wt (wProg x)) x.1 x.2 := by
 obtain ⟨ds, fs⟩ := x
 refine ⟨wt (fs.flatMap wFn), ?_, rd_funs fs hg.2⟩
 rw [wProg, wt_app]
 refine rd_decs ds hg.1 _ ?_
 cases fs with
 | nil => exact .inl rfl
 | cons f fs =>
   refine .inr ?_
   rw [List.flatMap_cons, wFn]
   exact hd_w _ _
theorem fine_w (c : UInt8) (r : Str) (h : c ≠ 61) : Fine [c :: r] ∧ NH [c :: r] :=
 ⟨.one (by intro e; injection e with e _; exact h e) (by simp), by simp, fun s q e => by injection e with e _; subst e; intro h2; injection h2 with h2; exact h h2⟩
theorem FN.app {a b : List Str} (ha : Fine a ∧ NH a) (hb : Fine b) : Fine (a ++ b) ∧ NH (a ++ b) := ⟨ha.1.app hb, ha.2.app⟩
theorem fine_key {k : Str} (hk : keyw k = true) : Fine [k] ∧ NH [k] := by
 cases k with
 | nil => exact absurd hk (by decide)
 | cons c r =>
   refine fine_w c r ?_
   rintro rfl
   unfold keyw at hk
   simp [sCell, sMap, sStack, sChan, sFunc, sSpawn, sPar, sSync, sIf, sElse, sWhile, sReturn, sAssert] at hk
theorem fine_o : Fine [([40] : Str)] ∧ NH [([40] : Str)] := fine_w 40 [] (by decide)
theorem fine_c : Fine [([41] : Str)] ∧ NH [([41] : Str)] := fine_w 41 [] (by decide)
mutual
theorem fn_ex : ∀ (e : Ex) (l : Int), e.good → Fine (wEx e l) ∧ NH (wEx e l)
 | .num n, _, h => num_fine h
 | .name s, _, h => name_fine h
 | .call o v ar, _, h => by
   have e1 : wEx (.call o v ar) 0 = [o] ++ ([[46]] ++ ([v] ++ ([[40]] ++ (wExs ar ++ [[41]])))) := by simp [wEx]
   show Fine (wEx (.call o v ar) 0) ∧ NH (wEx (.call o v ar) 0)
   rw [e1]
   exact FN.app (name_fine h.1) ((fine_w 46 [] (by decide)).1.app ((name_fine h.2.1).1.app (fn_exs ar h.2.2)))
 | .bin k a b, l, h => by
   have core : Fine (wEx a (max (tightO k) 1) ++ [signO k] ++ wEx b (tightO k + 1)) ∧ NH (wEx a (max (tightO k) 1) ++ [signO k] ++ wEx b (tightO k + 1)) := by
     rw [List.append_assoc]
     exact FN.app (fn_ex a _ h.2.1) ((sign_fine k h.1).app (fn_ex b _ h.2.2).1)
   show Fine (if tightO k < l then _ else _) ∧ NH (if tightO k < l then _ else _)
   split
   · rw [List.append_assoc]
     exact FN.app fine_o (core.1.app fine_c.1)
   · exact core
theorem fn_exs : ∀ (es : Exs), es.good → Fine ([[40]] ++ (wExs es ++ [[41]]))
 | .nil, _ => fine_o.1.app fine_c.1
 | .cons e r, h => by
   have e1 : [[40]] ++ (wExs (.cons e r) ++ [[41]]) = [[40]] ++ (wEx e 0 ++ (wTail r ++ [[41]])) := by simp [wExs]
   rw [e1]
   exact fine_o.1.app ((fn_ex e 0 h.1).1.app (fn_tail r h.2))
theorem fn_tail : ∀ (es : Exs), es.good → Fine (wTail es ++ [[41]])
 | .nil, _ => fine_c.1
 | .cons e r, h => by
   have e1 : wTail (.cons e r) ++ [[41]] = [[44]] ++ (wEx e 0 ++ (wTail r ++ [[41]])) := by simp [wTail]
   rw [e1]
   exact (fine_w 44 [] (by decide)).1.app ((fn_ex e 0 h.1).1.app (fn_tail r h.2))
end
theorem fn_args {es : Exs} (h : es.good) : Fine (wArgs es) := by rw [wArgs, List.append_assoc]; exact fn_exs es h
theorem fine_e : Fine [([59] : Str)] := (fine_w 59 [] (by decide)).1
mutual
theorem fn_stm : ∀ (s : Stm), s.good → Fine (wStm s)
 | .set n e, h => by
   have e1 : wStm (.set n e) = [n] ++ ([61] :: (wEx e 0 ++ [[59]])) := by simp [wStm]
   rw [e1]
   have := fn_ex e 0 h.2
   exact (name_fine h.1).1.app (Fine.eq (this.1.app fine_e) this.2.app)
 | .task par to f ar, h => by
   have k1 : Fine [if par then sPar else sSpawn] ∧ NH [if par then sPar else sSpawn] := by cases par <;> exact fine_key (by decide)
   have core := FN.app k1 ((name_fine h.2.1).1.app ((fn_args h.2.2.1).app fine_e))
   by_cases ht : to = []
   · subst ht
     have e1 : wStm (.task par [] f ar) = [if par then sPar else sSpawn] ++ ([f] ++ (wArgs ar ++ [[59]])) := by simp [wStm]
     rw [e1]; exact core.1
   · have e1 : wStm (.task par to f ar) = [to] ++ ([61] :: ([if par then sPar else sSpawn] ++ ([f] ++ (wArgs ar ++ [[59]])))) := by simp [wStm, ht]
     rw [e1]
     exact (name_fine (h.1.resolve_left ht)).1.app (Fine.eq core.1 core.2)
 | .sync, h => (fine_key (k := sSync) (by decide)).1.app fine_e
 | .if1 e a, h => by
   have e1 : wStm (.if1 e a) = [sIf] ++ (wEx e 0 ++ wBlock a) := by simp [wStm, wBlock]
   rw [e1]
   exact (fine_key (k := sIf) (by decide)).1.app ((fn_ex e 0 h.1).1.app (fn_blk a h.2))
 | .if2 e a b, h => by
   have e1 : wStm (.if2 e a b) = [sIf] ++ (wEx e 0 ++ (wBlock a ++ ([sElse] ++ wBlock b))) := by simp [wStm, wBlock]
   rw [e1]
   exact (fine_key (k := sIf) (by decide)).1.app ((fn_ex e 0 h.1).1.app ((fn_blk a h.2.1).app ((fine_key (k := sElse) (by decide)).1.app (fn_blk b h.2.2))))
 | .loop e a, h => by
   have e1 : wStm (.loop e a) = [sWhile] ++ (wEx e 0 ++ wBlock a) := by simp [wStm, wBlock]
   rw [e1]
   exact (fine_key (k := sWhile) (by decide)).1.app ((fn_ex e 0 h.1).1.app (fn_blk a h.2))
 | .one k e, h => by
   have e1 : wStm (.one k e) = [if k = 15 then sReturn else sAssert] ++ (wEx e 0 ++ [[59]]) := by simp [wStm]
   rw [e1]
   refine Fine.app ?_ ((fn_ex e 0 h.2).1.app fine_e)
   split <;> exact (fine_key (by decide)).1
 | .act o v ar, h => ((fn_ex (.call o v ar) 0 h).1).app fine_e
theorem fn_blk : ∀ (b : Bl), b.good → Fine (wBlock b)
 | .nil, _ => (fine_w 123 [] (by decide)).1.app (fine_w 125 [] (by decide)).1
 | .cons s r, h => by
   have e1 : wBlock (.cons s r) = [[123]] ++ (wStm s ++ (wBl r ++ [[125]])) := by simp [wBlock, wBl]
   rw [e1]
   exact (fine_w 123 [] (by decide)).1.app ((fn_stm s h.1).app (fn_bl r h.2))
theorem fn_bl : ∀ (b : Bl), b.good → Fine (wBl b ++ [[125]])
 | .nil, _ => (fine_w 125 [] (by decide)).1
 | .cons s r, h => by
   have e1 : wBl (.cons s r) ++ [[125]] = wStm s ++ (wBl r ++ [[125]]) := by simp [wBl]
   rw [e1]
   exact (fn_stm s h.1).app (fn_bl r h.2)
end
theorem fn_dec {d : Dec} (h : d.good) : Fine (wDec d) := by
 have k1 : Fine [kindS d.kind] := by
   have hk := h.kind
   rcases (show d.kind = 0 ∨ d.kind = 1 ∨ d.kind = 2 ∨ d.kind = 3 by omega) with e | e | e | e <;> rw [e] <;> exact (fine_key (by decide)).1
 by_cases h0 : d.n = 0
 · have e1 : wDec d = [kindS d.kind] ++ ([d.name] ++ [[59]]) := by simp [wDec, h0]
   rw [e1]; exact k1.app ((name_fine h.name).1.app fine_e)
 · have e1 : wDec d = [kindS d.kind] ++ ([d.name] ++ ([61] :: ([Lib.itoa d.n] ++ [[59]]))) := by simp [wDec, h0]
   rw [e1]
   have := num_fine h.n
   exact k1.app ((name_fine h.name).1.app (Fine.eq (this.1.app fine_e) this.2.app))
theorem fn_comma : ∀ (l : List Str), (∀ s ∈ l, NameOk s) → Fine ((l.flatMap fun s => [[44], s]) ++ [[41]])
 | [], _ => fine_c.1
 | s :: l, h => by
   have e1 : ((s :: l).flatMap fun s => [[44], s]) ++ [[41]] = [[44]] ++ ([s] ++ ((l.flatMap fun s => [[44], s]) ++ [[41]])) := by simp
   rw [e1]
   exact (fine_w 44 [] (by decide)).1.app ((name_fine (h s (List.mem_cons_self ..))).1.app (fn_comma l fun x hx => h x (List.mem_cons_of_mem _ hx)))
theorem fn_fun {f : Fn} (h : f.good) : Fine (wFn f) := by
 obtain ⟨nm, al, b⟩ := f
 have hb := fn_blk b h.body
 have hk := (fine_key (k := sFunc) (by decide)).1.app ((name_fine h.name).1.app fine_o.1)
 cases al with
 | nil =>
   have e1 : wFn ⟨nm, [], b⟩ = ([sFunc] ++ ([nm] ++ [[40]])) ++ ([[41]] ++ wBlock b) := by simp [wFn, wStrs]
   rw [e1]; exact hk.app (fine_c.1.app hb)
 | cons s l =>
   have e1 : wFn ⟨nm, s :: l, b⟩ = ([sFunc] ++ ([nm] ++ [[40]])) ++ ([s] ++ (((l.flatMap fun s => [[44], s]) ++ [[41]]) ++ wBlock b)) := by simp [wFn, wStrs]
   rw [e1]
   exact hk.app ((name_fine (h.args s (List.mem_cons_self ..))).1.app ((fn_comma l fun x hx => h.args x (List.mem_cons_of_mem _ hx)).app hb))
theorem fine_all {α : Type} {W : α → List Str} : ∀ (l : List α), (∀ x ∈ l, Fine (W x)) → NQ (l.flatMap W) ∧ EN (l.flatMap W)
 | [], _ => ⟨trivial, fun _ h => by cases h⟩
 | x :: l, h => by
   rw [List.flatMap_cons]
   have h1 := h x (List.mem_cons_self ..)
   obtain ⟨h2, h3⟩ := fine_all l fun y hy => h y (List.mem_cons_of_mem _ hy)
   refine ⟨h1.ne.app h2 h1.en, ?_⟩
   by_cases hl : l.flatMap W = []
   · rw [hl, List.append_nil]; exact h1.en
   · exact h3.app hl
theorem nq_prog (x : List Dec × List Fn) (hg : (∀ d ∈ x.1, d.good) ∧ ∀ f ∈ x.2, f.good) : NQ (wProg x) := by
 obtain ⟨ds, fs⟩ := x
 obtain ⟨h1, h2⟩ := fine_all (W := wDec) ds fun d hd => fn_dec (hg.1 d hd)
 exact h1.app (fine_all (W := wFn) fs fun f hf => fn_fun (hg.2 f hf)).1 h2
theorem writes_plain {s : List UInt8} {L : List Tok} (h : lexF s 0 = some L) (hs : s.length ≤ 1500) {ds : List Dec} {fs : List Fn} (hp : Prg L ds fs) (hd : deepT L 0 0 ≤ 40) :
   (joinR [] (wProg (ds, fs))).length ≤ s.length ∧ ofR (joinR [] (wProg (ds, fs))) = (pgOf (ds, fs), 0) ∧ ((∀ d ∈ ds, d.good) ∧ ∀ f ∈ fs, f.good) ∧ (wProg (ds, fs)).Sublist (txs L) := by
 have hw := lexK_w _ _ _ _ h
 have hg := hp.good fun t ht => (hw t ht).ok
 have ht := hp.tq hw
 have ha := lex_allG _ _ _ _ h
 have hl : (joinR [] (wProg (ds, fs))).length ≤ s.length := by
   refine Nat.le_trans (jl_sub ht.sub (fun x hx => ?_) []) (jl_text _ _ _ _ [] h (fun h => by cases h))
   obtain ⟨k, v, e⟩ := ha x hx
   rintro rfl
   cases e
 refine ⟨hl, ?_, hg, ht.sub⟩
 obtain ⟨m, h1, h2⟩ := lex_join (wProg (ds, fs)) [] 0 (ht.allG ha) (nq_prog _ hg)
 rw [ofR_some h1 (by omega), ← ofT_strip, h2]
 refine ofT_prg (rd_prog (ds, fs) hg) ?_
 rw [deepT_S, txs_wt]
 refine Int.le_trans (ht.dep 0 0) ?_
 rw [← deepT_S]; exact hd
end Uw.Tryz
