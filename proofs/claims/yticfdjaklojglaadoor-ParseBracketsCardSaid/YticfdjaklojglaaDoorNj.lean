/- Nj: Qb Qd Qe (merged by merge2.py from the working texts). -/
import Derived.Test.YticfdjaklojglaaDoorNe
set_option linter.unusedSimpArgs false
set_option linter.unnecessarySimpa false
set_option linter.unusedVariables false
set_option linter.unusedSectionVars false
namespace Uw.Tryd
open Go Uw
theorem tokLen_sgn (c : UInt8) (hc : cls c = 5) (h61 : c.toNat ≠ 61) (b : List UInt8) : ∀ (a : List UInt8), a ≠ [] → tokLen (a ++ c :: b) = tokLen a
 | [], h => absurd rfl h
 | x :: r, _ => by
   have n1 : nameB c = false := by simp [nameB, hc]
   have n2 : digB c = false := by simp [digB, hc]
   have hl : letr ((r ++ c :: b).dropWhile digB) = letr (r.dropWhile digB) := by
     rw [dropWhile_app digB c b n2 r]
     cases r.dropWhile digB with
     | nil => rw [List.nil_append, letr, letr, hc]; rfl
     | cons y z => rfl
   have he : eqq (r ++ c :: b) = eqq r := by
     cases r with
     | nil =>
       rw [List.nil_append, eqq, eqq]
       exact decide_eq_false h61
     | cons y z => rfl
   rw [List.cons_append, tokLen, tokLen, takeWhile_app nameB c b n1, takeWhile_app digB c b n2, hl, he]
theorem lexF_one (c : UInt8) (hc : cls c = 5) (h61 : c.toNat ≠ 61) (b : List UInt8) (p : Int) : lexF (c :: b) p = (lexF b (p + 1)).map (⟨3, [c], 0, p⟩ :: ·) := by
 have h : tokLen (c :: b) = some (3, 1, 0) := by
   rw [tokLen, if_neg (by omega), if_neg (by omega), if_pos hc, if_neg (fun h => h61 h.1)]
 exact lexF_tok c b p (by omega) h
theorem lexF_sign (c : UInt8) (hc : cls c = 5) (h61 : c.toNat ≠ 61) (b : List UInt8) : ∀ (n : Nat) (a : List UInt8) (p : Int), a.length ≤ n → lexF (a ++ c :: b) p = (lexF a p).bind fun l => (lexF (c :: b) (p + a.length)).map (l ++ ·)
 | n, [], p, _ => by
   rw [List.nil_append, lexF_nil]
   simp
 | 0, _ :: _, _, h => by simp at h
 | n + 1, x :: r, p, h => by
   simp only [List.length_cons] at h
   by_cases hx : cls x = 4
   · rw [List.cons_append, lexF_blank x _ p hx, lexF_blank x r p hx, lexF_sign c hc h61 b n r (p + 1) (by omega)]
     rw [show p + 1 + (r.length : Int) = p + ((x :: r).length : Nat) by simp; omega]
   · have ht := tokLen_sgn c hc h61 b (x :: r) (by simp)
     cases hk : tokLen (x :: r) with
     | none =>
       rw [hk] at ht
       rw [lexF_none x r p hx hk]
       exact lexF_none x (r ++ c :: b) p hx ht
     | some q =>
       obtain ⟨k, m, v⟩ := q
       rw [hk] at ht
       have hm := tokLen_le hk
       simp only [List.length_cons] at hm
       rw [lexF_tok x r p hx hk]
       have e1 : ((x :: r) ++ c :: b).drop m = ((x :: r).drop m) ++ c :: b := List.drop_append_of_le_length (by simp; omega)
       have e2 : ((x :: r) ++ c :: b).take m = (x :: r).take m := List.take_append_of_le_length (by simp; omega)
       have := lexF_tok x (r ++ c :: b) p hx (by rw [← List.cons_append]; exact ht)
       rw [List.cons_append, this, ← List.cons_append, e1, e2, lexF_sign c hc h61 b n ((x :: r).drop m) (p + m) (by simp; omega)]
       rw [show p + (m : Int) + (((x :: r).drop m).length : Nat) = p + ((x :: r).length : Nat) by simp; omega]
       cases lexF ((x :: r).drop m) (p + m) with
       | none => rfl
       | some l =>
         simp only [Option.bind_some, Option.map_some, Option.map_map]
         rfl
theorem strip_shift' (d : Int) (l : List Tok) : (l.map (shiftT d)).map strip = l.map strip := by
 rw [List.map_map]; rfl
def tk (c : UInt8) : Tok := ⟨3, [c], 0, 0⟩
def sMain : Str := [109, 97, 105, 110]
def preS : List UInt8 := [102, 117, 110, 99, 32, 109, 97, 105, 110, 40, 41, 123, 114, 101, 116, 117, 114, 110]
def preT : List Tok := [⟨1, sFunc, 0, 0⟩, ⟨1, sMain, 0, 0⟩, tk 40, tk 41, tk 123, ⟨1, sReturn, 0, 0⟩]
theorem lex_pre : ∃ l, lexF preS 0 = some l ∧ l.map strip = preT := ⟨_, rfl, by decide⟩
theorem lex_rep (c : UInt8) (hc : cls c = 5) (h61 : c.toNat ≠ 61) (X : List UInt8) : ∀ (k : Nat) (p : Int), ∃ l, l.map strip = List.replicate k (tk c) ∧ lexF (List.replicate k c ++ X) p = (lexF X (p + k)).map (l ++ ·)
 | 0, p => ⟨[], rfl, by simp⟩
 | k + 1, p => by
   obtain ⟨l, h1, h2⟩ := lex_rep c hc h61 X k (p + 1)
   refine ⟨⟨3, [c], 0, p⟩ :: l, by rw [List.map_cons, h1]; rfl, ?_⟩
   rw [List.replicate_succ, List.cons_append, lexF_one c hc h61, h2, Option.map_map, show p + 1 + (k : Int) = p + ((k + 1 : Nat) : Int) by omega]
   rfl
def brS (k : Nat) (s : List UInt8) : List UInt8 := preS ++ 32 :: (List.replicate k 40 ++ (s ++ (List.replicate k 41 ++ [59, 125])))
def brT (k : Nat) (L : List Tok) : List Tok := preT ++ (List.replicate k (tk 40) ++ L ++ List.replicate k (tk 41) ++ [tk 59, tk 125])
theorem lex_end (k : Nat) (p : Int) : ∃ l, lexF (List.replicate k 41 ++ [59, 125]) p = some l ∧ l.map strip = List.replicate k (tk 41) ++ [tk 59, tk 125] := by
 obtain ⟨l, h1, h2⟩ := lex_rep 41 (by decide) (by decide) [59, 125] k p
 have h3 : lexF [59, 125] (p + k) = some [⟨3, [59], 0, p + k⟩, ⟨3, [125], 0, p + k + 1⟩] := by
   rw [lexF_one 59 (by decide) (by decide), lexF_one 125 (by decide) (by decide), lexF_nil]; rfl
 refine ⟨l ++ [⟨3, [59], 0, p + k⟩, ⟨3, [125], 0, p + k + 1⟩], by rw [h2, h3]; rfl, by rw [List.map_append, h1]; rfl⟩
theorem lex_br {s : List UInt8} {L : List Tok} (h : lexF s 0 = some L) (k : Nat) : ∃ T, lexF (brS k s) 0 = some T ∧ T.map strip = brT k (L.map strip) := by
 obtain ⟨l1, e1, f1⟩ := lex_pre
 have hz : ∃ c b, List.replicate k 41 ++ [59, 125] = c :: b ∧ cls c = 5 ∧ c.toNat ≠ 61 := by
   cases k with
   | zero => exact ⟨59, [125], rfl, by decide, by decide⟩
   | succ k => exact ⟨41, _, rfl, by decide, by decide⟩
 have hmid : ∀ p : Int, ∃ T, lexF (s ++ (List.replicate k 41 ++ [59, 125])) p = some T ∧ T.map strip = L.map strip ++ (List.replicate k (tk 41) ++ [tk 59, tk 125]) := by
   intro p
   obtain ⟨l3, e3, f3⟩ := lex_end k (p + s.length)
   obtain ⟨c, b, ez, hc, h61⟩ := hz
   rw [ez] at e3 ⊢
   rw [lexF_sign c hc h61 b _ s p (Nat.le_refl _), e3, lexF_from s, h]
   refine ⟨L.map (shiftT p) ++ l3, rfl, ?_⟩
   rw [List.map_append, f3, List.map_map]; rfl
 unfold brS
 rw [lexF_app 32 (by decide) _ _ preS 0 (Nat.le_refl _), e1]
 obtain ⟨l2, f2, e2⟩ := lex_rep 40 (by decide) (by decide) (s ++ (List.replicate k 41 ++ [59, 125])) k (0 + preS.length + 1)
 obtain ⟨T, e3, f3⟩ := hmid (0 + preS.length + 1 + k)
 refine ⟨l1 ++ (l2 ++ T), ?_, ?_⟩
 · show (lexF _ _).map _ = _
   rw [e2, e3]; rfl
 · rw [List.map_append, List.map_append, f1, f2, f3]
   simp [brT]
theorem fun_ret (q : Nat) (Y : List Tok) : pFun (q + 3) (preT ++ Y) = ((pExpr q Y).bind fun e r => (want [59] r).bind fun _ r => (pStmts (q + 1) r).bind fun ss r => .ok ⟨sMain, [], .cons (.one 15 e) ss⟩ r) := by
 have h : pFun (q + 3) (preT ++ Y) = ((((pExpr q Y).bind fun e r => R.ok (Stm.one 15 e) r).bind fun s r => (want [59] r).bind fun _ r => R.ok s r).bind fun s r => (pStmts (q + 1) r).bind fun ss r => R.ok (Bl.cons s ss) r).bind (fun b r => R.ok ⟨sMain, [], b⟩ r) := by
   rw [pFun]
   show ((pBlock (q + 3) (tk 123 :: ⟨1, sReturn, 0, 0⟩ :: Y)).bind _) = _
   rw [pBlock]
   show ((pStmts (q + 2) (⟨1, sReturn, 0, 0⟩ :: Y)).bind _) = _
   rw [pStmts]
   show (((pStmt (q + 1) (⟨1, sReturn, 0, 0⟩ :: Y)).bind _).bind _) = _
   rw [pStmt]
   rfl
 rw [h]
 cases pExpr q Y with
 | ok e r =>
   show (((want [59] r).bind _).bind _).bind _ = (want [59] r).bind _
   cases want [59] r with
   | ok u r =>
     show ((pStmts (q + 1) r).bind _).bind _ = (pStmts (q + 1) r).bind _
     cases pStmts (q + 1) r <;> rfl
   | bad => rfl
   | out => rfl
 | bad => rfl
 | out => rfl
def retF (e : Ex) : List Fn := [⟨sMain, [], .cons (.one 15 e) .nil⟩]
theorem ret_back {q : Nat} {X : List Tok} {e : Ex} (h : pExpr q (X ++ [tk 59, tk 125]) = .ok e [tk 59, tk 125]) : Prg (preT ++ (X ++ [tk 59, tk 125])) [] (retF e) := by
 refine ⟨_, .stop (.inr rfl), .cons ⟨q + 3, ?_⟩ .nil⟩
 rw [fun_ret, h, ok_bind, show want [59] [tk 59, tk 125] = .ok () [tk 125] from rfl, ok_bind, pStmts]
 rfl
theorem last_of {f : Fn} : ((nodesF [f] 0).map Nod.nd).getLast? = some (Nod.nd ⟨18, 0, [], [], f.body.places 0⟩) := by
 show (((f.body.flat 0 ++ [_]) ++ []).map Nod.nd).getLast? = _
 rw [List.append_nil, List.map_append, List.map_cons, List.map_nil, List.getLast?_append]
 rfl
theorem ret_prog {X : List Tok} {ds : List Dec} {fs : List Fn} (h : Prg (preT ++ (X ++ [tk 59, tk 125])) ds fs) (h1 : fs.length = 1) (h2 : ∀ f ∈ fs, (f.body.places 0).length = 1) : ∃ q e, pExpr q (X ++ [tk 59, tk 125]) = .ok e [tk 59, tk 125] ∧ ds = [] ∧ fs = retF e := by
 obtain ⟨r, hd', hf⟩ := h
 have hds : ds = [] ∧ r = preT ++ (X ++ [tk 59, tk 125]) := by
   cases hd' with
   | stop _ => exact ⟨rfl, rfl⟩
   | cons h _ _ => exact absurd (.inr rfl) h
 obtain ⟨rfl, rfl⟩ := hds
 clear hd'
 generalize hl : preT ++ (X ++ [tk 59, tk 125]) = l at hf
 cases hf with
 | nil => cases h1
 | cons hr hf2 =>
   rename_i r' f fs'
   have hfs : fs' = [] := List.eq_nil_of_length_eq_zero (by simpa using h1)
   subst hfs
   cases hf2 with
   | nil =>
   subst hl
   obtain ⟨n, hn⟩ := hr
   have h3 := up' isp_fun hn (Nat.le_add_right n 3)
   rw [fun_ret] at h3
   obtain ⟨e, r1, a1, h3⟩ := bind_ok.1 h3
   obtain ⟨_, r2, a2, h3⟩ := bind_ok.1 h3
   obtain ⟨ss, r3, a3, h3⟩ := bind_ok.1 h3
   injection h3 with b1 b2
   subst b1 b2
   obtain ⟨a4, rfl⟩ := want_ok a2
   have h4 := h2 _ (List.mem_cons_self ..)
   have hss : ss = .nil := by
     cases ss with
     | nil => rfl
     | cons s t => simp [Bl.places] at h4
   subst hss
   rw [pStmts] at a3
   have a5 : hd r1.tail = [125] ∧ r1.tail.tail = [] := by
     split at a3
     · rename_i hh
       injection a3 with _ a3
       exact ⟨hh, a3⟩
     · obtain ⟨s, r4, _, a3⟩ := bind_ok.1 a3
       obtain ⟨t, r5, _, a3⟩ := bind_ok.1 a3
       injection a3 with a3 _
       cases a3
   obtain ⟨c, ec⟩ := (pe n).expr.pre _ _ _ a1
   obtain ⟨t1, g1, _⟩ := tail_of a4 (by decide)
   obtain ⟨t2, g2, _⟩ := tail_of a5.1 (by decide)
   rw [a5.2] at g2
   rw [g2] at g1
   have hr1 : r1 = [tk 59, tk 125] := by
     have hlen : c.length = X.length := by
       have := congrArg List.length ec
       rw [g1] at this
       simp at this; omega
     exact (List.append_inj_right ec hlen.symm).symm
   rw [hr1] at a1
   exact ⟨n, e, a1, rfl, rfl⟩
theorem br_one {n : Nat} {X R : List Tok} {e : Ex} (h : pExpr n (X ++ tk 41 :: R) = .ok e (tk 41 :: R)) (hR : hd R = [41] ∨ hd R = [59]) : pExpr (n + 4) (tk 40 :: (X ++ tk 41 :: R)) = .ok e R := by
 have a1 : pPrim (n + 1) (tk 40 :: (X ++ tk 41 :: R)) = .ok e R := by
   rw [pPrim]
   show (pExpr n (X ++ tk 41 :: R)).bind _ = _
   rw [h]; rfl
 have b1 : ¬ hd R = [42] := by rcases hR with h | h <;> rw [h] <;> decide
 have b2 : ¬ hd R = [43] := by rcases hR with h | h <;> rw [h] <;> decide
 have b3 : ¬ hd R = [45] := by rcases hR with h | h <;> rw [h] <;> decide
 have b4 : ¬ hd R = [60] := by rcases hR with h | h <;> rw [h] <;> decide
 have b5 : ¬ hd R = [61, 61] := by rcases hR with h | h <;> rw [h] <;> decide
 have a2 : pProd (n + 2) (tk 40 :: (X ++ tk 41 :: R)) = .ok e R := by
   rw [pProd, a1]
   show pProdT (n + 1) e R = _
   rw [pProdT, if_neg b1]
 have a3 : pSum (n + 3) (tk 40 :: (X ++ tk 41 :: R)) = .ok e R := by
   rw [pSum, a2]
   show pSumT (n + 2) e R = _
   rw [pSumT, if_neg b2, if_neg b3]
 rw [pExpr, a3]
 show (if hd R = [60] then _ else if hd R = [61, 61] then _ else _) = _
 rw [if_neg b4, if_neg b5]
theorem br_all {n : Nat} {X : List Tok} {e : Ex} (h : pExpr n (X ++ [tk 59, tk 125]) = .ok e [tk 59, tk 125]) : ∀ (k : Nat) (R : List Tok), (hd R = [41] ∨ hd R = [59]) → ∃ m, pExpr m (List.replicate k (tk 40) ++ X ++ List.replicate k (tk 41) ++ R) = .ok e R
 | 0, R, hR => ⟨n, by
   simp only [List.replicate_zero, List.nil_append, List.append_nil]
   exact (pe n).expr.stab _ _ _ h R (hR.elim .inr .inl)⟩
 | k + 1, R, hR => by
   obtain ⟨m, hm⟩ := br_all h k (tk 41 :: R) (.inl rfl)
   refine ⟨m + 4, ?_⟩
   have := br_one hm hR
   rw [show List.replicate (k + 1) (tk 40) ++ X ++ List.replicate (k + 1) (tk 41) ++ R = tk 40 :: (List.replicate k (tk 40) ++ X ++ List.replicate k (tk 41) ++ tk 41 :: R) by
     rw [List.replicate_succ, List.replicate_succ']; simp]
   exact this
theorem deepT_bal : ∀ (l : List Tok) (d m : Int), d ≤ m → d + bal l ≤ deepT l d m
 | [], d, m, h => by simp [bal, deepT]; exact h
 | t :: r, d, m, h => by
   have := deepT_bal r (d + delta t.text) (max m (d + delta t.text)) (by omega)
   rw [bal, deepT]; omega
theorem deepT_opens : ∀ (k : Nat) (d : Int), deepT (List.replicate k (tk 40)) d d = d + k ∧ bal (List.replicate k (tk 40)) = k
 | 0, d => by simp [deepT, bal]
 | k + 1, d => by
   have h := deepT_opens k (d + 1)
   have hd : delta (tk 40).text = 1 := by decide
   rw [List.replicate_succ, deepT, bal, hd, show max d (d + 1) = d + 1 by omega, h.1, h.2]
   omega
theorem deepT_falls : ∀ (l : List Tok) (d m : Int), (∀ t ∈ l, delta t.text ≤ 0) → d ≤ m → deepT l d m = m
 | [], d, m, _, _ => rfl
 | t :: r, d, m, h, hm => by
   have := h t (List.mem_cons_self ..)
   rw [deepT, show max m (d + delta t.text) = m by omega]
   exact deepT_falls r _ _ (fun x hx => h x (List.mem_cons_of_mem _ hx)) (by omega)
theorem deepT_br (k : Nat) (L : List Tok) : deepT (brT k L) 0 0 = 1 + k + deepT L 0 0 := by
 unfold brT
 rw [deepT_app, show deepT preT 0 0 = 1 by decide, show (0 : Int) + bal preT = 1 by decide]
 rw [List.append_assoc, List.append_assoc, deepT_app, (deepT_opens k 1).1, (deepT_opens k 1).2, deepT_app, deepT_from L _ _ (Int.le_refl _)]
 have h1 := deepT_ge L 0 0
 have h2 := deepT_bal L 0 0 (Int.le_refl _)
 rw [deepT_falls _ _ _ ?_ (by omega)]
 · omega
 · intro t ht
   rcases List.mem_append.1 ht with ht | ht
   · rw [List.eq_of_mem_replicate ht]; decide
   · simp only [List.mem_cons, List.not_mem_nil, or_false] at ht
     rcases ht with rfl | rfl <;> decide
theorem brackets_plain {s : List UInt8} {L : List Tok} (h : lexF s 0 = some L) (hs : s.length ≤ 1500) (k : Nat) (hk : k < 60) :
   ((ofR (brS 0 s)).2 = 0 → (ofR (brS 0 s)).1.funs.length = 1 → ∀ x, (ofR (brS 0 s)).1.nodes.getLast? = some x → x.of.length = 1 →
     (40 < 1 + (k : Int) + deepT L 0 0 → ofR (brS k s) = (noPg, 2)) ∧ (1 + (k : Int) + deepT L 0 0 ≤ 40 → ofR (brS k s) = ofR (brS 0 s))) := by
 have key : ∀ j, j < 60 → ofR (brS j s) = ofT (brT j (L.map strip)) := by
   intro j hj
   obtain ⟨T, h1, h2⟩ := lex_br h j
   rw [ofR_some h1 (by simp [brS, preS]; omega)]
   rw [← ofT_strip, h2]
 have hdL : deepT (L.map strip) 0 0 = deepT L 0 0 := deepT_strip L 0 0
 rw [key 0 (by omega), key k hk]
 intro h0 h1 x hx h2
 obtain ⟨ds, fs, p1, p2, p3⟩ := ofT_ok h0
 rw [p2] at h1 hx ⊢
 have h1 : fs.length = 1 := by have : (funsF fs 0).length = 1 := h1; rwa [funsF_len] at this
 obtain ⟨f, rfl⟩ := List.length_eq_one_iff.1 h1
 have hx : ((nodesF [f] 0).map Nod.nd).getLast? = some x := hx
 rw [last_of] at hx
 injection hx with hx
 have hpl : (f.body.places 0).length = 1 := by rw [← hx] at h2; simpa [Nod.nd] using h2
 have p1' : Prg (preT ++ ((L.map strip) ++ [tk 59, tk 125])) ds [f] := by
   have : brT 0 (L.map strip) = preT ++ ((L.map strip) ++ [tk 59, tk 125]) := by simp [brT]
   rw [← this]; exact p1
 obtain ⟨q, e, a1, a2, a3⟩ := ret_prog p1' h1 (fun g hg => by simp at hg; subst hg; exact hpl)
 obtain ⟨m, a4⟩ := br_all a1 k [tk 59, tk 125] (.inr rfl)
 have hP : Prg (brT k (L.map strip)) [] (retF e) := ret_back a4
 have hdeep := deepT_br k (L.map strip)
 rw [hdL] at hdeep
 refine ⟨fun hd => ?_, fun hd => ?_⟩
 · unfold ofT
   rw [if_pos (by rw [hdeep]; exact hd)]
 · rw [ofT_prg hP (by rw [hdeep]; exact hd), a2, a3]
end Uw.Tryd
namespace Uw.Tryd
open Go Uw
def nu (T : Str) (v : Int) : Tok := ⟨2, T, v, 0⟩
def sg (s : Str) : Tok := ⟨3, s, 0, 0⟩
theorem prim_num (n : Nat) (T : Str) (v : Int) (r : List Tok) (hT : ¬ T = [40]) : pPrim (n + 1) (nu T v :: r) = .ok (.num v) r := by
 rw [pPrim, if_neg (by exact hT)]; rfl
theorem prim_br (n : Nat) (r : List Tok) : pPrim (n + 1) (tk 40 :: r) = (pExpr n r).bind fun e r => (want [41] r).bind fun _ r => .ok e r := by
 rw [pPrim]; rfl
abbrev tl : List Tok := [tk 59, tk 125]
def sgn5 (i : Nat) : Str := if i = 0 then [43] else if i = 1 then [45] else if i = 2 then [42] else if i = 3 then [60] else [61, 61]
def kd5 (i : Nat) : Int := if i = 0 then 3 else if i = 1 then 4 else if i = 2 then 5 else if i = 3 then 6 else 7
def rk5 (i : Nat) : Nat := if i = 0 then 2 else if i = 1 then 2 else if i = 2 then 3 else 1
def five (i : Nat) : Prop := i = 0 ∨ i = 1 ∨ i = 2 ∨ i = 3 ∨ i = 4
theorem five_of {i : Nat} (h : i < 5) : five i := by unfold five; omega
def eL (i j : Nat) (a b c : Int) : Ex := .bin (kd5 j) (.bin (kd5 i) (.num a) (.num b)) (.num c)
def eR (i j : Nat) (a b c : Int) : Ex := .bin (kd5 i) (.num a) (.bin (kd5 j) (.num b) (.num c))
def RPr (r : List Tok) (e : Ex) (r' : List Tok) : Prop := ∃ n, pPrim n r = .ok e r'
def RPd (r : List Tok) (e : Ex) (r' : List Tok) : Prop := ∃ n, pProd n r = .ok e r'
def RPt (l : Ex) (r : List Tok) (e : Ex) (r' : List Tok) : Prop := ∃ n, pProdT n l r = .ok e r'
def RSm (r : List Tok) (e : Ex) (r' : List Tok) : Prop := ∃ n, pSum n r = .ok e r'
def RSt (l : Ex) (r : List Tok) (e : Ex) (r' : List Tok) : Prop := ∃ n, pSumT n l r = .ok e r'
def REx (r : List Tok) (e : Ex) (r' : List Tok) : Prop := ∃ n, pExpr n r = .ok e r'
def mul (s : Str) : Prop := s = [42]
theorem rpt_stop {l : Ex} {r : List Tok} (h : hd r ≠ [42]) : RPt l r l r := ⟨1, by rw [pProdT, if_neg h]⟩
theorem rpt_go {l e x : Ex} {r r1 r2 : List Tok} (h1 : RPr r e r1) (h2 : RPt (.bin 5 l e) r1 x r2) : RPt l (sg [42] :: r) x r2 := by
 obtain ⟨n, h1⟩ := h1
 obtain ⟨m, h2⟩ := h2
 have h1 := up' (p := fun n => pPrim n) (fun n => (pe n).prim) h1 (Nat.le_max_left n m)
 have h2 := up' (p := fun n => pProdT n (.bin 5 l e)) (fun n => (pe n).prodT _) h2 (Nat.le_max_right n m)
 refine ⟨max n m + 1, ?_⟩
 rw [pProdT, if_pos (show hd (sg [42] :: r) = [42] from rfl)]
 show (pPrim (max n m) r).bind _ = _
 rw [show pPrim (max n m) r = _ from h1]
 exact h2
theorem rpd {e x : Ex} {r r1 r2 : List Tok} (h1 : RPr r e r1) (h2 : RPt e r1 x r2) : RPd r x r2 := by
 obtain ⟨n, h1⟩ := h1
 obtain ⟨m, h2⟩ := h2
 have h1 := up' (p := fun n => pPrim n) (fun n => (pe n).prim) h1 (Nat.le_max_left n m)
 have h2 := up' (p := fun n => pProdT n e) (fun n => (pe n).prodT _) h2 (Nat.le_max_right n m)
 refine ⟨max n m + 1, ?_⟩
 rw [pProd, show pPrim (max n m) r = _ from h1]
 exact h2
theorem rst_stop {l : Ex} {r : List Tok} (h : hd r ≠ [43]) (h' : hd r ≠ [45]) : RSt l r l r := ⟨1, by rw [pSumT, if_neg h, if_neg h']⟩
theorem rst_go {i : Nat} (hi : i = 0 ∨ i = 1) {l e x : Ex} {r r1 r2 : List Tok} (h1 : RPd r e r1) (h2 : RSt (.bin (kd5 i) l e) r1 x r2) : RSt l (sg (sgn5 i) :: r) x r2 := by
 obtain ⟨n, h1⟩ := h1
 obtain ⟨m, h2⟩ := h2
 have h1 := up' (p := fun n => pProd n) (fun n => (pe n).prod) h1 (Nat.le_max_left n m)
 have h2 := up' (p := fun n => pSumT n (.bin (kd5 i) l e)) (fun n => (pe n).sumT _) h2 (Nat.le_max_right n m)
 refine ⟨max n m + 1, ?_⟩
 rcases hi with rfl | rfl
 · rw [pSumT, if_pos (show hd (sg (sgn5 0) :: r) = [43] from rfl)]
   show (pProd (max n m) r).bind _ = _
   rw [show pProd (max n m) r = _ from h1]
   exact h2
 · rw [pSumT, if_neg (show ¬ hd (sg (sgn5 1) :: r) = [43] from (by decide : ¬ ([45] : Str) = [43])), if_pos (show hd (sg (sgn5 1) :: r) = [45] from rfl)]
   show (pProd (max n m) r).bind _ = _
   rw [show pProd (max n m) r = _ from h1]
   exact h2
theorem rsm {e x : Ex} {r r1 r2 : List Tok} (h1 : RPd r e r1) (h2 : RSt e r1 x r2) : RSm r x r2 := by
 obtain ⟨n, h1⟩ := h1
 obtain ⟨m, h2⟩ := h2
 have h1 := up' (p := fun n => pProd n) (fun n => (pe n).prod) h1 (Nat.le_max_left n m)
 have h2 := up' (p := fun n => pSumT n e) (fun n => (pe n).sumT _) h2 (Nat.le_max_right n m)
 refine ⟨max n m + 1, ?_⟩
 rw [pSum, show pProd (max n m) r = _ from h1]
 exact h2
theorem rex_stop {e : Ex} {r r1 : List Tok} (h1 : RSm r e r1) (h : hd r1 ≠ [60]) (h' : hd r1 ≠ [61, 61]) : REx r e r1 := by
 obtain ⟨n, h1⟩ := h1
 refine ⟨n + 1, ?_⟩
 rw [pExpr, h1, ok_bind, if_neg h, if_neg h']
theorem rex_go {i : Nat} (hi : i = 3 ∨ i = 4) {e x : Ex} {r r1 r2 : List Tok} (h1 : RSm r e (sg (sgn5 i) :: r1)) (h2 : RSm r1 x r2) : REx r (.bin (kd5 i) e x) r2 := by
 obtain ⟨n, h1⟩ := h1
 obtain ⟨m, h2⟩ := h2
 have h1 := up' (p := fun n => pSum n) (fun n => (pe n).sum) h1 (Nat.le_max_left n m)
 have h2 := up' (p := fun n => pSum n) (fun n => (pe n).sum) h2 (Nat.le_max_right n m)
 refine ⟨max n m + 1, ?_⟩
 rw [pExpr, show pSum (max n m) r = _ from h1, ok_bind]
 rcases hi with rfl | rfl
 · rw [if_pos (show hd (sg (sgn5 3) :: r1) = [60] from rfl)]
   show (pSum (max n m) r1).bind _ = _
   rw [show pSum (max n m) r1 = _ from h2]; rfl
 · rw [if_neg (show ¬ hd (sg (sgn5 4) :: r1) = [60] from (by decide : ¬ ([61, 61] : Str) = [60])), if_pos (show hd (sg (sgn5 4) :: r1) = [61, 61] from rfl)]
   show (pSum (max n m) r1).bind _ = _
   rw [show pSum (max n m) r1 = _ from h2]; rfl
theorem rnum {T : Str} {v : Int} {r : List Tok} (hT : ¬ T = [40]) : RPr (nu T v :: r) (.num v) r := ⟨1, prim_num 0 T v r hT⟩
theorem rbr {e : Ex} {r r' : List Tok} (h : REx r e (tk 41 :: r')) : RPr (tk 40 :: r) e r' := by
 obtain ⟨n, h⟩ := h
 exact ⟨n + 1, by rw [prim_br, h]; rfl⟩
theorem p1 {e : Ex} {r r1 : List Tok} (h : RPr r e r1) (h1 : hd r1 ≠ [42]) : RPd r e r1 := rpd h (rpt_stop h1)
theorem s1 {e : Ex} {r r1 : List Tok} (h : RPd r e r1) (h1 : hd r1 ≠ [43]) (h2 : hd r1 ≠ [45]) : RSm r e r1 := rsm h (rst_stop h1 h2)
def Stop (r : List Tok) : Prop := hd r = [41] ∨ hd r = [59]
theorem Stop.ne {r : List Tok} (h : Stop r) {s : Str} (hs : s ≠ [41]) (hs2 : s ≠ [59]) : hd r ≠ s := by
 rcases h with h | h <;> rw [h]
 · exact hs.symm
 · exact hs2.symm
theorem two {i : Nat} (hi : five i) {e1 e2 : Ex} {r r1 R : List Tok} (h1 : RPr r e1 (sg (sgn5 i) :: r1)) (h2 : RPr r1 e2 R) (hR : Stop R) : REx r (.bin (kd5 i) e1 e2) R := by
 have a1 : hd R ≠ [42] := hR.ne (by decide) (by decide)
 have a2 : hd R ≠ [43] := hR.ne (by decide) (by decide)
 have a3 : hd R ≠ [45] := hR.ne (by decide) (by decide)
 have a4 : hd R ≠ [60] := hR.ne (by decide) (by decide)
 have a5 : hd R ≠ [61, 61] := hR.ne (by decide) (by decide)
 have sum : ∀ i, (i = 0 ∨ i = 1) → hd (sg (sgn5 i) :: r1) ≠ [42] → RPr r e1 (sg (sgn5 i) :: r1) → REx r (.bin (kd5 i) e1 e2) R := fun i hi h0 h1 => rex_stop (rsm (p1 h1 h0) (rst_go hi (p1 h2 a1) (rst_stop a2 a3))) a4 a5
 have cmp : ∀ i, (i = 3 ∨ i = 4) → hd (sg (sgn5 i) :: r1) ≠ [42] → hd (sg (sgn5 i) :: r1) ≠ [43] → hd (sg (sgn5 i) :: r1) ≠ [45] → RPr r e1 (sg (sgn5 i) :: r1) → REx r (.bin (kd5 i) e1 e2) R := fun i hi h0 h4 h5 h1 => rex_go hi (s1 (p1 h1 h0) h4 h5) (s1 (p1 h2 a1) a2 a3)
 rcases hi with rfl | rfl | rfl | rfl | rfl
 · exact sum 0 (.inl rfl) (by show ([43] : Str) ≠ _; decide) h1
 · exact sum 1 (.inr rfl) (by show ([45] : Str) ≠ _; decide) h1
 · exact rex_stop (s1 (rpd h1 (rpt_go h2 (rpt_stop a1))) a2 a3) a4 a5
 · exact cmp 3 (.inl rfl) (by show ([60] : Str) ≠ _; decide) (by show ([60] : Str) ≠ _; decide) (by show ([60] : Str) ≠ _; decide) h1
 · exact cmp 4 (.inr rfl) (by show ([61, 61] : Str) ≠ _; decide) (by show ([61, 61] : Str) ≠ _; decide) (by show ([61, 61] : Str) ≠ _; decide) h1
theorem stop_tl : Stop tl := .inr rfl
theorem sg_ne {i : Nat} {s : Str} {r : List Tok} (h : sgn5 i ≠ s) : hd (sg (sgn5 i) :: r) ≠ s := h
section
variable {A B C : Str} {a b c : Int} (hA : ¬ A = [40]) (hB : ¬ B = [40]) (hC : ¬ C = [40])
include hA hB hC
theorem expr_left {i j : Nat} (hi : five i) (hj : five j) : REx ((tk 40 :: nu A a :: sg (sgn5 i) :: nu B b :: tk 41 :: sg (sgn5 j) :: [nu C c]) ++ tl) (eL i j a b c) tl :=
 two hj (rbr (two hi (rnum hA) (rnum hB) (.inl rfl))) (rnum hC) stop_tl
theorem expr_right {i j : Nat} (hi : five i) (hj : five j) : REx ((nu A a :: sg (sgn5 i) :: tk 40 :: nu B b :: sg (sgn5 j) :: nu C c :: [tk 41]) ++ tl) (eR i j a b c) tl :=
 two hi (rnum hA) (rbr (two hj (rnum hB) (rnum hC) (.inl rfl))) stop_tl
theorem expr_flat {i j : Nat} (hi : five i) (hj : five j) (h : ¬ (rk5 i = 1 ∧ rk5 j = 1)) : REx ((nu A a :: sg (sgn5 i) :: nu B b :: sg (sgn5 j) :: [nu C c]) ++ tl) (if rk5 j ≤ rk5 i then eL i j a b c else eR i j a b c) tl := by
 have a1 : hd tl ≠ [42] := by decide
 have a2 : hd tl ≠ [43] := by decide
 have a3 : hd tl ≠ [45] := by decide
 have a4 : hd tl ≠ [60] := by decide
 have a5 : hd tl ≠ [61, 61] := by decide
 show REx (nu A a :: sg (sgn5 i) :: nu B b :: sg (sgn5 j) :: nu C c :: tl) _ tl
 have ci : (i = 0 ∨ i = 1) ∨ i = 2 ∨ (i = 3 ∨ i = 4) := by unfold five at hi; omega
 have cj : (j = 0 ∨ j = 1) ∨ j = 2 ∨ (j = 3 ∨ j = 4) := by unfold five at hj; omega
 have r2 : ∀ i, (i = 0 ∨ i = 1) → rk5 i = 2 ∧ sgn5 i ≠ [42] := by rintro i (rfl | rfl) <;> decide
 have r1 : ∀ i, (i = 3 ∨ i = 4) → rk5 i = 1 ∧ sgn5 i ≠ [42] ∧ sgn5 i ≠ [43] ∧ sgn5 i ≠ [45] := by rintro i (rfl | rfl) <;> decide
 rcases ci with ci | rfl | ci <;> rcases cj with cj | rfl | cj
 · rw [if_pos (by rw [(r2 i ci).1, (r2 j cj).1]; exact Nat.le_refl _)]
   exact rex_stop (rsm (p1 (rnum hA) (sg_ne (r2 i ci).2)) (rst_go ci (p1 (rnum hB) (sg_ne (r2 j cj).2)) (rst_go cj (p1 (rnum hC) a1) (rst_stop a2 a3)))) a4 a5
 · rw [if_neg (by rw [(r2 i ci).1]; decide)]
   exact rex_stop (rsm (p1 (rnum hA) (sg_ne (r2 i ci).2)) (rst_go ci (rpd (rnum hB) (rpt_go (rnum hC) (rpt_stop a1))) (rst_stop a2 a3))) a4 a5
 · rw [if_pos (by rw [(r2 i ci).1, (r1 j cj).1]; decide)]
   exact rex_go cj (rsm (p1 (rnum hA) (sg_ne (r2 i ci).2)) (rst_go ci (p1 (rnum hB) (sg_ne (r1 j cj).2.1)) (rst_stop (sg_ne (r1 j cj).2.2.1) (sg_ne (r1 j cj).2.2.2)))) (s1 (p1 (rnum hC) a1) a2 a3)
 · rw [if_pos (by rw [(r2 j cj).1]; decide)]
   exact rex_stop (rsm (rpd (rnum hA) (rpt_go (rnum hB) (rpt_stop (sg_ne (r2 j cj).2)))) (rst_go cj (p1 (rnum hC) a1) (rst_stop a2 a3))) a4 a5
 · rw [if_pos (Nat.le_refl _)]
   exact rex_stop (s1 (rpd (rnum hA) (rpt_go (rnum hB) (rpt_go (rnum hC) (rpt_stop a1)))) a2 a3) a4 a5
 · rw [if_pos (by rw [(r1 j cj).1]; decide)]
   exact rex_go cj (s1 (rpd (rnum hA) (rpt_go (rnum hB) (rpt_stop (sg_ne (r1 j cj).2.1)))) (sg_ne (r1 j cj).2.2.1) (sg_ne (r1 j cj).2.2.2)) (s1 (p1 (rnum hC) a1) a2 a3)
 · rw [if_neg (by rw [(r1 i ci).1, (r2 j cj).1]; decide)]
   exact rex_go ci (s1 (p1 (rnum hA) (sg_ne (r1 i ci).2.1)) (sg_ne (r1 i ci).2.2.1) (sg_ne (r1 i ci).2.2.2)) (rsm (p1 (rnum hB) (sg_ne (r2 j cj).2)) (rst_go cj (p1 (rnum hC) a1) (rst_stop a2 a3)))
 · rw [if_neg (by rw [(r1 i ci).1]; decide)]
   exact rex_go ci (s1 (p1 (rnum hA) (sg_ne (r1 i ci).2.1)) (sg_ne (r1 i ci).2.2.1) (sg_ne (r1 i ci).2.2.2)) (s1 (rpd (rnum hB) (rpt_go (rnum hC) (rpt_stop a1))) a2 a3)
 · exact absurd ⟨(r1 i ci).1, (r1 j cj).1⟩ h
theorem expr_none {i j : Nat} (hi : five i) (hj : five j) (h : rk5 i = 1 ∧ rk5 j = 1) : ∃ e, REx ((nu A a :: sg (sgn5 i) :: nu B b :: sg (sgn5 j) :: [nu C c]) ++ tl) e (sg (sgn5 j) :: nu C c :: tl) := by
 have ci : i = 3 ∨ i = 4 := by rcases hi with rfl | rfl | rfl | rfl | rfl <;> first | (exact absurd h.1 (by decide)) | simp
 have cj : j = 3 ∨ j = 4 := by rcases hj with rfl | rfl | rfl | rfl | rfl <;> first | (exact absurd h.2 (by decide)) | simp
 have r1 : ∀ i, (i = 3 ∨ i = 4) → rk5 i = 1 ∧ sgn5 i ≠ [42] ∧ sgn5 i ≠ [43] ∧ sgn5 i ≠ [45] := by rintro i (rfl | rfl) <;> decide
 exact ⟨_, rex_go ci (s1 (p1 (rnum hA) (sg_ne (r1 i ci).2.1)) (sg_ne (r1 i ci).2.2.1) (sg_ne (r1 i ci).2.2.2)) (s1 (p1 (rnum hB) (sg_ne (r1 j cj).2.1)) (sg_ne (r1 j cj).2.2.1) (sg_ne (r1 j cj).2.2.2))⟩
end
end Uw.Tryd
namespace Uw.Tryd
open Go Uw
theorem no_ret {X r : List Tok} {e : Ex} {q : Nat} (h : pExpr q X = .ok e r) (hr : hd r ≠ [59]) : progF (preT ++ X) = none := by
 cases hp : progF (preT ++ X) with
 | none => rfl
 | some x =>
   exfalso
   obtain ⟨ds, fs⟩ := x
   obtain ⟨r0, hd', hf⟩ := progF_iff.1 hp
   have hds : r0 = preT ++ X := by
     cases hd' with
     | stop _ => rfl
     | cons h _ _ => exact absurd (.inr rfl) h
   subst hds
   clear hd'
   generalize hl : preT ++ X = l at hf
   cases hf with
   | nil => exact absurd hl (by simp [preT])
   | cons hr2 hf2 =>
     subst hl
     obtain ⟨n, hn⟩ := hr2
     have h3 := up' isp_fun hn (Nat.le_trans (Nat.le_add_right n q) (Nat.le_add_right (n + q) 3))
     rw [fun_ret] at h3
     have h4 := up' (p := fun n => pExpr n) (fun n => (pe n).expr) h (Nat.le_add_left q n)
     have h4 : pExpr (n + q) X = .ok e r := h4
     rw [h4, ok_bind] at h3
     obtain ⟨_, r2, a2, _⟩ := bind_ok.1 h3
     exact hr (want_ok a2).1
def dgR (n : Nat) : Str := (if n / 100 > 0 then [UInt8.ofNat (48 + n / 100 % 10)] else []) ++ (if n / 10 > 0 then [UInt8.ofNat (48 + n / 10 % 10)] else []) ++ [UInt8.ofNat (48 + n % 10)]
theorem dg_fin : ∀ n : Fin 256, tokLen (dgR n.val) = some (2, (dgR n.val).length, (n.val : Int)) ∧ (dgR n.val).length ≤ 3 ∧ dgR n.val ≠ [] ∧ cls ((dgR n.val).headD 0) = 2 ∧ (dgR n.val).headD 0 ≠ 40 := by decide +kernel
theorem dg_ok {n : Nat} (h : n < 256) : tokLen (dgR n) = some (2, (dgR n).length, (n : Int)) ∧ (dgR n).length ≤ 3 ∧ ∃ x r, dgR n = x :: r ∧ cls x = 2 ∧ x ≠ 40 := by
 obtain ⟨h1, h2, h0, h3, h4⟩ := dg_fin ⟨n, h⟩
 refine ⟨h1, h2, ?_⟩
 simp only at h0 h3 h4
 cases hd : dgR n with
 | nil => exact absurd hd h0
 | cons x r => rw [hd] at h3 h4; exact ⟨x, r, rfl, h3, h4⟩
theorem dg_ne {n : Nat} (h : n < 256) : ¬ dgR n = [40] := by
 obtain ⟨_, _, x, r, e, _, h3⟩ := dg_ok h
 rw [e]; rintro h; injection h with h _; exact h3 h
theorem tokLen_num (x : UInt8) (r : List UInt8) (c : UInt8) (b : List UInt8) (hx : cls x = 2) (hc : cls c = 5) : tokLen (x :: r ++ c :: b) = tokLen (x :: r) := by
 have n2 : digB c = false := by simp [digB, hc]
 have hl : letr ((r ++ c :: b).dropWhile digB) = letr (r.dropWhile digB) := by
   rw [dropWhile_app digB c b n2 r]
   cases r.dropWhile digB with
   | nil => rw [List.nil_append, letr, letr, hc]; rfl
   | cons y z => rfl
 have h1 : ¬ cls x = 1 := by omega
 rw [List.cons_append, tokLen, tokLen, if_neg h1, if_neg h1, if_pos hx, if_pos hx, takeWhile_app digB c b n2, hl]
def LexTo (X : List UInt8) (T : List Tok) : Prop := ∀ p, ∃ l, lexF X p = some l ∧ l.map strip = T
theorem LexTo.num {n : Nat} (hn : n < 256) {c : UInt8} {Y : List UInt8} {T : List Tok} (hc : cls c = 5) (h : LexTo (c :: Y) T) : LexTo (dgR n ++ c :: Y) (nu (dgR n) n :: T) := by
 intro p
 obtain ⟨h1, _, x, r, e, hx, _⟩ := dg_ok hn
 obtain ⟨l, h2, h3⟩ := h (p + (dgR n).length)
 rw [e] at h1 h2 ⊢
 have ht := tokLen_num x r c Y hx hc
 rw [h1] at ht
 refine ⟨⟨2, x :: r, n, p⟩ :: l, ?_, by rw [List.map_cons, h3]; rfl⟩
 rw [List.cons_append, lexF_tok x (r ++ c :: Y) p (by omega) ht, ← List.cons_append, List.drop_left, List.take_left, h2]
 rfl
theorem LexTo.one {c : UInt8} {Y : List UInt8} {T : List Tok} (hc : cls c = 5) (h61 : c.toNat ≠ 61) (h : LexTo Y T) : LexTo (c :: Y) (tk c :: T) := by
 intro p
 obtain ⟨l, h2, h3⟩ := h (p + 1)
 exact ⟨⟨3, [c], 0, p⟩ :: l, by rw [lexF_one c hc h61, h2]; rfl, by rw [List.map_cons, h3]; rfl⟩
theorem LexTo.sgn {i : Nat} (hi : five i) {Y : List UInt8} {T : List Tok} (h : LexTo Y T) : LexTo (sgn5 i ++ Y) (sg (sgn5 i) :: T) := by
 rcases hi with rfl | rfl | rfl | rfl | rfl
 · exact h.one (c := 43) (by decide) (by decide)
 · exact h.one (c := 45) (by decide) (by decide)
 · exact h.one (c := 42) (by decide) (by decide)
 · exact h.one (c := 60) (by decide) (by decide)
 · intro p
   obtain ⟨l, h2, h3⟩ := h (p + 2)
   have ht : tokLen (61 :: 61 :: Y) = some (3, 2, 0) := by
     rw [tokLen, if_neg (by decide), if_neg (by decide), if_pos (by decide), if_pos ⟨by decide, rfl⟩]
   exact ⟨⟨3, [61, 61], 0, p⟩ :: l, by
     show lexF (61 :: 61 :: Y) p = _
     rw [lexF_tok 61 (61 :: Y) p (by decide) ht]
     show (lexF Y (p + 2)).map _ = _
     rw [h2]; rfl, by rw [List.map_cons, h3]; rfl⟩
theorem sgn_head {i : Nat} (hi : five i) (Y : List UInt8) : ∃ c Z, sgn5 i ++ Y = c :: Z ∧ cls c = 5 := by
 rcases hi with rfl | rfl | rfl | rfl | rfl
 · exact ⟨43, Y, rfl, by decide⟩
 · exact ⟨45, Y, rfl, by decide⟩
 · exact ⟨42, Y, rfl, by decide⟩
 · exact ⟨60, Y, rfl, by decide⟩
 · exact ⟨61, 61 :: Y, rfl, by decide⟩
theorem LexTo.numS {n i : Nat} (hn : n < 256) (hi : five i) {Y : List UInt8} {T : List Tok} (h : LexTo (sgn5 i ++ Y) T) : LexTo (dgR n ++ (sgn5 i ++ Y)) (nu (dgR n) n :: T) := by
 obtain ⟨c, Z, e, hc⟩ := sgn_head hi Y
 rw [e] at h ⊢
 exact h.num hn hc
theorem LexTo.end : LexTo [59, 125] tl := fun p => ⟨[⟨3, [59], 0, p⟩, ⟨3, [125], 0, p + 1⟩], by rw [lexF_one 59 (by decide) (by decide), lexF_one 125 (by decide) (by decide), lexF_nil]; rfl, rfl⟩
theorem LexTo.pre {Y : List UInt8} {T : List Tok} (h : LexTo Y T) : LexTo (preS ++ 32 :: Y) (preT ++ T) := by
 intro p
 obtain ⟨l1, e1, f1⟩ := lex_pre
 obtain ⟨l, h2, h3⟩ := h (p + preS.length + 1)
 rw [lexF_app 32 (by decide) _ _ preS p (Nat.le_refl _), lexF_from preS, e1]
 refine ⟨l1.map (shiftT p) ++ l, ?_, ?_⟩
 · show (lexF Y _).map _ = _
   rw [h2]; rfl
 · rw [List.map_append, h3, strip_shift', f1]
theorem deepT_le : ∀ (l : List Tok) (d m : Int), d ≤ m → deepT l d m ≤ m + l.length
 | [], d, m, h => by simp [deepT]
 | t :: r, d, m, h => by
   have h1 : delta t.text ≤ 1 := by unfold delta; repeat' split <;> omega
   have := deepT_le r (d + delta t.text) (max m (d + delta t.text)) (by omega)
   rw [deepT, List.length_cons]; omega
theorem ofR_lex {X : List UInt8} {T : List Tok} (h : LexTo X T) (hX : X.length ≤ 4000) : ofR X = ofT T := by
 obtain ⟨l, h1, h2⟩ := h 0
 rw [ofR_some h1 hX, ← ofT_strip, h2]
def txF (i j a b c : Nat) : List UInt8 := preS ++ 32 :: (dgR a ++ (sgn5 i ++ (dgR b ++ (sgn5 j ++ (dgR c ++ [59, 125])))))
def txL (i j a b c : Nat) : List UInt8 := preS ++ 32 :: (40 :: (dgR a ++ (sgn5 i ++ (dgR b ++ (41 :: (sgn5 j ++ (dgR c ++ [59, 125])))))))
def txR (i j a b c : Nat) : List UInt8 := preS ++ 32 :: (dgR a ++ (sgn5 i ++ (40 :: (dgR b ++ (sgn5 j ++ (dgR c ++ (41 :: [59, 125])))))))
section
variable {i j a b c : Nat} (hi : five i) (hj : five j) (ha : a < 256) (hb : b < 256) (hc : c < 256)
include hi hj ha hb hc
theorem lens : (dgR a).length ≤ 3 ∧ (dgR b).length ≤ 3 ∧ (dgR c).length ≤ 3 ∧ (sgn5 i).length ≤ 2 ∧ (sgn5 j).length ≤ 2 := by
 refine ⟨(dg_ok ha).2.1, (dg_ok hb).2.1, (dg_ok hc).2.1, ?_, ?_⟩
 · rcases hi with rfl | rfl | rfl | rfl | rfl <;> decide
 · rcases hj with rfl | rfl | rfl | rfl | rfl <;> decide
theorem of_left : ofR (txL i j a b c) = (pgOf ([], retF (eL i j a b c)), 0) := by
 have hl := lens hi hj ha hb hc
 have h : LexTo (txL i j a b c) (preT ++ ((tk 40 :: nu (dgR a) a :: sg (sgn5 i) :: nu (dgR b) b :: tk 41 :: sg (sgn5 j) :: [nu (dgR c) c]) ++ tl)) :=
   (((((((LexTo.end.num hc (c := 59) (by decide)).sgn hj).one (c := 41) (by decide) (by decide)).num hb (by decide)).sgn hi).numS ha hi).one (c := 40) (by decide) (by decide)).pre
 rw [ofR_lex h (by simp [txL, preS]; omega), ofT_prg (ret_back (expr_left (a := (a : Int)) (b := (b : Int)) (c := (c : Int)) (dg_ne ha) (dg_ne hb) (dg_ne hc) hi hj).choose_spec)]
 have := deepT_le (preT ++ ((tk 40 :: nu (dgR a) a :: sg (sgn5 i) :: nu (dgR b) b :: tk 41 :: sg (sgn5 j) :: [nu (dgR c) c]) ++ tl)) 0 0 (by omega)
 have h2 : (preT ++ ((tk 40 :: nu (dgR a) a :: sg (sgn5 i) :: nu (dgR b) b :: tk 41 :: sg (sgn5 j) :: [nu (dgR c) c]) ++ tl)).length = 15 := rfl
 rw [h2] at this
 exact Int.le_trans this (by decide)
theorem of_right : ofR (txR i j a b c) = (pgOf ([], retF (eR i j a b c)), 0) := by
 have hl := lens hi hj ha hb hc
 have h : LexTo (txR i j a b c) (preT ++ ((nu (dgR a) a :: sg (sgn5 i) :: tk 40 :: nu (dgR b) b :: sg (sgn5 j) :: nu (dgR c) c :: [tk 41]) ++ tl)) :=
   ((((((((LexTo.end.one (c := 41) (by decide) (by decide)).num hc (by decide)).sgn hj).numS hb hj).one (c := 40) (by decide) (by decide)).sgn hi).numS ha hi)).pre
 rw [ofR_lex h (by simp [txR, preS]; omega), ofT_prg (ret_back (expr_right (a := (a : Int)) (b := (b : Int)) (c := (c : Int)) (dg_ne ha) (dg_ne hb) (dg_ne hc) hi hj).choose_spec)]
 have := deepT_le (preT ++ ((nu (dgR a) a :: sg (sgn5 i) :: tk 40 :: nu (dgR b) b :: sg (sgn5 j) :: nu (dgR c) c :: [tk 41]) ++ tl)) 0 0 (by omega)
 have h2 : (preT ++ ((nu (dgR a) a :: sg (sgn5 i) :: tk 40 :: nu (dgR b) b :: sg (sgn5 j) :: nu (dgR c) c :: [tk 41]) ++ tl)).length = 15 := rfl
 rw [h2] at this
 exact Int.le_trans this (by decide)
theorem lex_flat : LexTo (txF i j a b c) (preT ++ ((nu (dgR a) a :: sg (sgn5 i) :: nu (dgR b) b :: sg (sgn5 j) :: [nu (dgR c) c]) ++ tl)) :=
 (((((LexTo.end.num hc (c := 59) (by decide)).sgn hj).numS hb hj).sgn hi).numS ha hi).pre
theorem of_flat (h : ¬ (rk5 i = 1 ∧ rk5 j = 1)) : ofR (txF i j a b c) = (pgOf ([], retF (if rk5 j ≤ rk5 i then eL i j a b c else eR i j a b c)), 0) := by
 have hl := lens hi hj ha hb hc
 rw [ofR_lex (lex_flat hi hj ha hb hc) (by simp [txF, preS]; omega), ofT_prg (ret_back (expr_flat (a := (a : Int)) (b := (b : Int)) (c := (c : Int)) (dg_ne ha) (dg_ne hb) (dg_ne hc) hi hj h).choose_spec)]
 have := deepT_le (preT ++ ((nu (dgR a) a :: sg (sgn5 i) :: nu (dgR b) b :: sg (sgn5 j) :: [nu (dgR c) c]) ++ tl)) 0 0 (by omega)
 have h2 : (preT ++ ((nu (dgR a) a :: sg (sgn5 i) :: nu (dgR b) b :: sg (sgn5 j) :: [nu (dgR c) c]) ++ tl)).length = 13 := rfl
 rw [h2] at this
 exact Int.le_trans this (by decide)
theorem of_none (h : rk5 i = 1 ∧ rk5 j = 1) : ofR (txF i j a b c) = (noPg, 3) := by
 have hl := lens hi hj ha hb hc
 obtain ⟨e, q, he⟩ := expr_none (a := (a : Int)) (b := (b : Int)) (c := (c : Int)) (dg_ne ha) (dg_ne hb) (dg_ne hc) hi hj h
 rw [ofR_lex (lex_flat hi hj ha hb hc) (by simp [txF, preS]; omega)]
 unfold ofT
 rw [no_ret he ?_, if_neg ?_]
 · have := deepT_le (preT ++ ((nu (dgR a) a :: sg (sgn5 i) :: nu (dgR b) b :: sg (sgn5 j) :: [nu (dgR c) c]) ++ tl)) 0 0 (by omega)
   have h2 : (preT ++ ((nu (dgR a) a :: sg (sgn5 i) :: nu (dgR b) b :: sg (sgn5 j) :: [nu (dgR c) c]) ++ tl)).length = 13 := rfl
   rw [h2] at this
   intro hh
   have h3 : (40 : Int) < 0 + ((13 : Nat) : Int) := Int.lt_of_lt_of_le hh this
   exact absurd h3 (by decide)
 · show sgn5 j ≠ [59]
   rcases hj with rfl | rfl | rfl | rfl | rfl <;> decide
end
theorem left_right (i j : Nat) (a b c : Int) : pgOf ([], retF (eR i j a b c)) ≠ pgOf ([], retF (eL i j a b c)) := by
 intro h
 have h2 := congrArg (fun p => p.nodes[2]?.map (·.kind)) h
 have h3 : some (1 : Int) = some (kd5 i) := h2
 injection h3 with h3
 unfold kd5 at h3
 repeat' split at h3
 all_goals omega
end Uw.Tryd
