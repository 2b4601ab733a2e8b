/- Nj: Qb Qd Qe (merged by merge2.py from the working texts). -/
import Derived.Test.YtlnfojhdicbgiaaDoorNe
set_option linter.unusedSimpArgs false
set_option linter.unnecessarySimpa false
set_option linter.unusedVariables false
set_option linter.unusedSectionVars false
namespace Uw.Tryd
open Go Uw
theorem lexF_one (c : UInt8) (hc : cls c = 5) (h61 : c.toNat ≠ 61) (b : List UInt8) (p : Int) : lexF (c :: b) p = (lexF b (p + 1)).map (⟨3, [c], 0, p⟩ :: ·) := by
 have h : tokLen (c :: b) = some (3, 1, 0) := by
   rw [tokLen, if_neg (by omega), if_neg (by omega), if_pos hc, if_neg (fun h => h61 h.1)]
 exact lexF_tok c b p (by omega) h
theorem strip_shift' (d : Int) (l : List Tok) : (l.map (shiftT d)).map strip = l.map strip := by
 rw [List.map_map]; rfl
def tk (c : UInt8) : Tok := ⟨3, [c], 0, 0⟩
def sMain : Str := [109, 97, 105, 110]
def preS : List UInt8 := [102, 117, 110, 99, 32, 109, 97, 105, 110, 40, 41, 123, 114, 101, 116, 117, 114, 110]
def preT : List Tok := [⟨1, sFunc, 0, 0⟩, ⟨1, sMain, 0, 0⟩, tk 40, tk 41, tk 123, ⟨1, sReturn, 0, 0⟩]
theorem lex_pre : ∃ l, lexF preS 0 = some l ∧ l.map strip = preT := ⟨_, rfl, by decide⟩
theorem fun_ret (q : Nat) (Y : List Tok) : pFun (q + 3) (preT ++ Y) = ((pExpr q Y).bind fun e r => (want [59] r).bind fun _ r => (pStmts (q + 1) r).bind fun ss r => .ok ⟨sMain, [], .cons (.one 15 e) ss⟩ r) := by
 have h : pFun (q + 3) (preT ++ Y) = ((((pExpr q Y).bind fun e r => R.ok (Stm.one 15 e) r).bind fun s r => (want [59] r).bind fun _ r => R.ok s r).bind fun s r => (pStmts (q + 1) r).bind fun ss r => R.ok (Bl.cons s ss) r).bind (fun b r => R.ok ⟨sMain, [], b⟩ r) := by
   rw [pFun]
   show ((pBlock (q + 3) (tk 123 :: ⟨1, sReturn, 0, 0⟩ :: Y)).bind _) = _
   rw [pBlock]
   show ((pStmts (q + 2) (⟨1, sReturn, 0, 0⟩ :: Y)).bind _) = _
   rw [pStmts]
   show (((pStmt (q + 1) (⟨1, sReturn, 0, 0⟩ :: Y)).bind _).bind _) = _
   rw [pStmt]
   rfl
 rw [h]
 cases pExpr q Y with
 | ok e r =>
   show (((want [59] r).bind _).bind _).bind _ = (want [59] r).bind _
   cases want [59] r with
   | ok u r =>
     show ((pStmts (q + 1) r).bind _).bind _ = (pStmts (q + 1) r).bind _
     cases pStmts (q + 1) r <;> rfl
   | bad => rfl
   | out => rfl
 | bad => rfl
 | out => rfl
def retF (e : Ex) : List Fn := [⟨sMain, [], .cons (.one 15 e) .nil⟩]
theorem ret_back {q : Nat} {X : List Tok} {e : Ex} (h : pExpr q (X ++ [tk 59, tk 125]) = .ok e [tk 59, tk 125]) : Prg (preT ++ (X ++ [tk 59, tk 125])) [] (retF e) := by
 refine ⟨_, .stop (.inr rfl), .cons ⟨q + 3, ?_⟩ .nil⟩
 rw [fun_ret, h, ok_bind, show want [59] [tk 59, tk 125] = .ok () [tk 125] from rfl, ok_bind, pStmts]
 rfl
end Uw.Tryd
namespace Uw.Tryd
open Go Uw
def nu (T : Str) (v : Int) : Tok := ⟨2, T, v, 0⟩
def sg (s : Str) : Tok := ⟨3, s, 0, 0⟩
theorem prim_num (n : Nat) (T : Str) (v : Int) (r : List Tok) (hT : ¬ T = [40]) : pPrim (n + 1) (nu T v :: r) = .ok (.num v) r := by
 rw [pPrim, if_neg (by exact hT)]; rfl
theorem prim_br (n : Nat) (r : List Tok) : pPrim (n + 1) (tk 40 :: r) = (pExpr n r).bind fun e r => (want [41] r).bind fun _ r => .ok e r := by
 rw [pPrim]; rfl
abbrev tl : List Tok := [tk 59, tk 125]
def sgn5 (i : Nat) : Str := if i = 0 then [43] else if i = 1 then [45] else if i = 2 then [42] else if i = 3 then [60] else [61, 61]
def kd5 (i : Nat) : Int := if i = 0 then 3 else if i = 1 then 4 else if i = 2 then 5 else if i = 3 then 6 else 7
def rk5 (i : Nat) : Nat := if i = 0 then 2 else if i = 1 then 2 else if i = 2 then 3 else 1
def five (i : Nat) : Prop := i = 0 ∨ i = 1 ∨ i = 2 ∨ i = 3 ∨ i = 4
theorem five_of {i : Nat} (h : i < 5) : five i := by unfold five; omega
def eL (i j : Nat) (a b c : Int) : Ex := .bin (kd5 j) (.bin (kd5 i) (.num a) (.num b)) (.num c)
def eR (i j : Nat) (a b c : Int) : Ex := .bin (kd5 i) (.num a) (.bin (kd5 j) (.num b) (.num c))
def RPr (r : List Tok) (e : Ex) (r' : List Tok) : Prop := ∃ n, pPrim n r = .ok e r'
def RPd (r : List Tok) (e : Ex) (r' : List Tok) : Prop := ∃ n, pProd n r = .ok e r'
def RPt (l : Ex) (r : List Tok) (e : Ex) (r' : List Tok) : Prop := ∃ n, pProdT n l r = .ok e r'
def RSm (r : List Tok) (e : Ex) (r' : List Tok) : Prop := ∃ n, pSum n r = .ok e r'
def RSt (l : Ex) (r : List Tok) (e : Ex) (r' : List Tok) : Prop := ∃ n, pSumT n l r = .ok e r'
def REx (r : List Tok) (e : Ex) (r' : List Tok) : Prop := ∃ n, pExpr n r = .ok e r'
def mul (s : Str) : Prop := s = [42]
theorem rpt_stop {l : Ex} {r : List Tok} (h : hd r ≠ [42]) : RPt l r l r := ⟨1, by rw [pProdT, if_neg h]⟩
theorem rpt_go {l e x : Ex} {r r1 r2 : List Tok} (h1 : RPr r e r1) (h2 : RPt (.bin 5 l e) r1 x r2) : RPt l (sg [42] :: r) x r2 := by
 obtain ⟨n, h1⟩ := h1
 obtain ⟨m, h2⟩ := h2
 have h1 := up' (p := fun n => pPrim n) (fun n => (pe n).prim) h1 (Nat.le_max_left n m)
 have h2 := up' (p := fun n => pProdT n (.bin 5 l e)) (fun n => (pe n).prodT _) h2 (Nat.le_max_right n m)
 refine ⟨max n m + 1, ?_⟩
 rw [pProdT, if_pos (show hd (sg [42] :: r) = [42] from rfl)]
 show (pPrim (max n m) r).bind _ = _
 rw [show pPrim (max n m) r = _ from h1]
 exact h2
theorem rpd {e x : Ex} {r r1 r2 : List Tok} (h1 : RPr r e r1) (h2 : RPt e r1 x r2) : RPd r x r2 := by
 obtain ⟨n, h1⟩ := h1
 obtain ⟨m, h2⟩ := h2
 have h1 := up' (p := fun n => pPrim n) (fun n => (pe n).prim) h1 (Nat.le_max_left n m)
 have h2 := up' (p := fun n => pProdT n e) (fun n => (pe n).prodT _) h2 (Nat.le_max_right n m)
 refine ⟨max n m + 1, ?_⟩
 rw [pProd, show pPrim (max n m) r = _ from h1]
 exact h2
theorem rst_stop {l : Ex} {r : List Tok} (h : hd r ≠ [43]) (h' : hd r ≠ [45]) : RSt l r l r := ⟨1, by rw [pSumT, if_neg h, if_neg h']⟩
theorem rst_go {i : Nat} (hi : i = 0 ∨ i = 1) {l e x : Ex} {r r1 r2 : List Tok} (h1 : RPd r e r1) (h2 : RSt (.bin (kd5 i) l e) r1 x r2) : RSt l (sg (sgn5 i) :: r) x r2 := by
 obtain ⟨n, h1⟩ := h1
 obtain ⟨m, h2⟩ := h2
 have h1 := up' (p := fun n => pProd n) (fun n => (pe n).prod) h1 (Nat.le_max_left n m)
 have h2 := up' (p := fun n => pSumT n (.bin (kd5 i) l e)) (fun n => (pe n).sumT _) h2 (Nat.le_max_right n m)
 refine ⟨max n m + 1, ?_⟩
 rcases hi with rfl | rfl
 · rw [pSumT, if_pos (show hd (sg (sgn5 0) :: r) = [43] from rfl)]
   show (pProd (max n m) r).bind _ = _
   rw [show pProd (max n m) r = _ from h1]
   exact h2
 · rw [pSumT, if_neg (show ¬ hd (sg (sgn5 1) :: r) = [43] from (by decide : ¬ ([45] : Str) = [43])), if_pos (show hd (sg (sgn5 1) :: r) = [45] from rfl)]
   show (pProd (max n m) r).bind _ = _
   rw [show pProd (max n m) r = _ from h1]
   exact h2
theorem rsm {e x : Ex} {r r1 r2 : List Tok} (h1 : RPd r e r1) (h2 : RSt e r1 x r2) : RSm r x r2 := by
 obtain ⟨n, h1⟩ := h1
 obtain ⟨m, h2⟩ := h2
 have h1 := up' (p := fun n => pProd n) (fun n => (pe n).prod) h1 (Nat.le_max_left n m)
 have h2 := up' (p := fun n => pSumT n e) (fun n => (pe n).sumT _) h2 (Nat.le_max_right n m)
 refine ⟨max n m + 1, ?_⟩
 rw [pSum, show pProd (max n m) r = _ from h1]
 exact h2
theorem rex_stop {e : Ex} {r r1 : List Tok} (h1 : RSm r e r1) (h : hd r1 ≠ [60]) (h' : hd r1 ≠ [61, 61]) : REx r e r1 := by
 obtain ⟨n, h1⟩ := h1
 refine ⟨n + 1, ?_⟩
 rw [pExpr, h1, ok_bind, if_neg h, if_neg h']
theorem rex_go {i : Nat} (hi : i = 3 ∨ i = 4) {e x : Ex} {r r1 r2 : List Tok} (h1 : RSm r e (sg (sgn5 i) :: r1)) (h2 : RSm r1 x r2) : REx r (.bin (kd5 i) e x) r2 := by
 obtain ⟨n, h1⟩ := h1
 obtain ⟨m, h2⟩ := h2
 have h1 := up' (p := fun n => pSum n) (fun n => (pe n).sum) h1 (Nat.le_max_left n m)
 have h2 := up' (p := fun n => pSum n) (fun n => (pe n).sum) h2 (Nat.le_max_right n m)
 refine ⟨max n m + 1, ?_⟩
 rw [pExpr, show pSum (max n m) r = _ from h1, ok_bind]
 rcases hi with rfl | rfl
 · rw [if_pos (show hd (sg (sgn5 3) :: r1) = [60] from rfl)]
   show (pSum (max n m) r1).bind _ = _
   rw [show pSum (max n m) r1 = _ from h2]; rfl
 · rw [if_neg (show ¬ hd (sg (sgn5 4) :: r1) = [60] from (by decide : ¬ ([61, 61] : Str) = [60])), if_pos (show hd (sg (sgn5 4) :: r1) = [61, 61] from rfl)]
   show (pSum (max n m) r1).bind _ = _
   rw [show pSum (max n m) r1 = _ from h2]; rfl
theorem rnum {T : Str} {v : Int} {r : List Tok} (hT : ¬ T = [40]) : RPr (nu T v :: r) (.num v) r := ⟨1, prim_num 0 T v r hT⟩
theorem rbr {e : Ex} {r r' : List Tok} (h : REx r e (tk 41 :: r')) : RPr (tk 40 :: r) e r' := by
 obtain ⟨n, h⟩ := h
 exact ⟨n + 1, by rw [prim_br, h]; rfl⟩
theorem p1 {e : Ex} {r r1 : List Tok} (h : RPr r e r1) (h1 : hd r1 ≠ [42]) : RPd r e r1 := rpd h (rpt_stop h1)
theorem s1 {e : Ex} {r r1 : List Tok} (h : RPd r e r1) (h1 : hd r1 ≠ [43]) (h2 : hd r1 ≠ [45]) : RSm r e r1 := rsm h (rst_stop h1 h2)
def Stop (r : List Tok) : Prop := hd r = [41] ∨ hd r = [59]
theorem Stop.ne {r : List Tok} (h : Stop r) {s : Str} (hs : s ≠ [41]) (hs2 : s ≠ [59]) : hd r ≠ s := by
 rcases h with h | h <;> rw [h]
 · exact hs.symm
 · exact hs2.symm
theorem two {i : Nat} (hi : five i) {e1 e2 : Ex} {r r1 R : List Tok} (h1 : RPr r e1 (sg (sgn5 i) :: r1)) (h2 : RPr r1 e2 R) (hR : Stop R) : REx r (.bin (kd5 i) e1 e2) R := by
 have a1 : hd R ≠ [42] := hR.ne (by decide) (by decide)
 have a2 : hd R ≠ [43] := hR.ne (by decide) (by decide)
 have a3 : hd R ≠ [45] := hR.ne (by decide) (by decide)
 have a4 : hd R ≠ [60] := hR.ne (by decide) (by decide)
 have a5 : hd R ≠ [61, 61] := hR.ne (by decide) (by decide)
 have sum : ∀ i, (i = 0 ∨ i = 1) → hd (sg (sgn5 i) :: r1) ≠ [42] → RPr r e1 (sg (sgn5 i) :: r1) → REx r (.bin (kd5 i) e1 e2) R := fun i hi h0 h1 => rex_stop (rsm (p1 h1 h0) (rst_go hi (p1 h2 a1) (rst_stop a2 a3))) a4 a5
 have cmp : ∀ i, (i = 3 ∨ i = 4) → hd (sg (sgn5 i) :: r1) ≠ [42] → hd (sg (sgn5 i) :: r1) ≠ [43] → hd (sg (sgn5 i) :: r1) ≠ [45] → RPr r e1 (sg (sgn5 i) :: r1) → REx r (.bin (kd5 i) e1 e2) R := fun i hi h0 h4 h5 h1 => rex_go hi (s1 (p1 h1 h0) h4 h5) (s1 (p1 h2 a1) a2 a3)
 rcases hi with rfl | rfl | rfl | rfl | rfl
 · exact sum 0 (.inl rfl) (by show ([43] : Str) ≠ _; decide) h1
 · exact sum 1 (.inr rfl) (by show ([45] : Str) ≠ _; decide) h1
 · exact rex_stop (s1 (rpd h1 (rpt_go h2 (rpt_stop a1))) a2 a3) a4 a5
 · exact cmp 3 (.inl rfl) (by show ([60] : Str) ≠ _; decide) (by show ([60] : Str) ≠ _; decide) (by show ([60] : Str) ≠ _; decide) h1
 · exact cmp 4 (.inr rfl) (by show ([61, 61] : Str) ≠ _; decide) (by show ([61, 61] : Str) ≠ _; decide) (by show ([61, 61] : Str) ≠ _; decide) h1
theorem stop_tl : Stop tl := .inr rfl
theorem sg_ne {i : Nat} {s : Str} {r : List Tok} (h : sgn5 i ≠ s) : hd (sg (sgn5 i) :: r) ≠ s := h
section
variable {A B C : Str} {a b c : Int} (hA : ¬ A = [40]) (hB : ¬ B = [40]) (hC : ¬ C = [40])
include hA hB hC
theorem expr_left {i j : Nat} (hi : five i) (hj : five j) : REx ((tk 40 :: nu A a :: sg (sgn5 i) :: nu B b :: tk 41 :: sg (sgn5 j) :: [nu C c]) ++ tl) (eL i j a b c) tl :=
 two hj (rbr (two hi (rnum hA) (rnum hB) (.inl rfl))) (rnum hC) stop_tl
theorem expr_right {i j : Nat} (hi : five i) (hj : five j) : REx ((nu A a :: sg (sgn5 i) :: tk 40 :: nu B b :: sg (sgn5 j) :: nu C c :: [tk 41]) ++ tl) (eR i j a b c) tl :=
 two hi (rnum hA) (rbr (two hj (rnum hB) (rnum hC) (.inl rfl))) stop_tl
theorem expr_flat {i j : Nat} (hi : five i) (hj : five j) (h : ¬ (rk5 i = 1 ∧ rk5 j = 1)) : REx ((nu A a :: sg (sgn5 i) :: nu B b :: sg (sgn5 j) :: [nu C c]) ++ tl) (if rk5 j ≤ rk5 i then eL i j a b c else eR i j a b c) tl := by
 have a1 : hd tl ≠ [42] := by decide
 have a2 : hd tl ≠ [43] := by decide
 have a3 : hd tl ≠ [45] := by decide
 have a4 : hd tl ≠ [60] := by decide
 have a5 : hd tl ≠ [61, 61] := by decide
 show REx (nu A a :: sg (sgn5 i) :: nu B b :: sg (sgn5 j) :: nu C c :: tl) _ tl
 have ci : (i = 0 ∨ i = 1) ∨ i = 2 ∨ (i = 3 ∨ i = 4) := by unfold five at hi; omega
 have cj : (j = 0 ∨ j = 1) ∨ j = 2 ∨ (j = 3 ∨ j = 4) := by unfold five at hj; omega
 have r2 : ∀ i, (i = 0 ∨ i = 1) → rk5 i = 2 ∧ sgn5 i ≠ [42] := by rintro i (rfl | rfl) <;> decide
 have r1 : ∀ i, (i = 3 ∨ i = 4) → rk5 i = 1 ∧ sgn5 i ≠ [42] ∧ sgn5 i ≠ [43] ∧ sgn5 i ≠ [45] := by rintro i (rfl | rfl) <;> decide
 rcases ci with ci | rfl | ci <;> rcases cj with cj | rfl | cj
 · rw [if_pos (by rw [(r2 i ci).1, (r2 j cj).1]; exact Nat.le_refl _)]
   exact rex_stop (rsm (p1 (rnum hA) (sg_ne (r2 i ci).2)) (rst_go ci (p1 (rnum hB) (sg_ne (r2 j cj).2)) (rst_go cj (p1 (rnum hC) a1) (rst_stop a2 a3)))) a4 a5
 · rw [if_neg (by rw [(r2 i ci).1]; decide)]
   exact rex_stop (rsm (p1 (rnum hA) (sg_ne (r2 i ci).2)) (rst_go ci (rpd (rnum hB) (rpt_go (rnum hC) (rpt_stop a1))) (rst_stop a2 a3))) a4 a5
 · rw [if_pos (by rw [(r2 i ci).1, (r1 j cj).1]; decide)]
   exact rex_go cj (rsm (p1 (rnum hA) (sg_ne (r2 i ci).2)) (rst_go ci (p1 (rnum hB) (sg_ne (r1 j cj).2.1)) (rst_stop (sg_ne (r1 j cj).2.2.1) (sg_ne (r1 j cj).2.2.2)))) (s1 (p1 (rnum hC) a1) a2 a3)
 · rw [if_pos (by rw [(r2 j cj).1]; decide)]
   exact rex_stop (rsm (rpd (rnum hA) (rpt_go (rnum hB) (rpt_stop (sg_ne (r2 j cj).2)))) (rst_go cj (p1 (rnum hC) a1) (rst_stop a2 a3))) a4 a5
 · rw [if_pos (Nat.le_refl _)]
   exact rex_stop (s1 (rpd (rnum hA) (rpt_go (rnum hB) (rpt_go (rnum hC) (rpt_stop a1)))) a2 a3) a4 a5
 · rw [if_pos (by rw [(r1 j cj).1]; decide)]
   exact rex_go cj (s1 (rpd (rnum hA) (rpt_go (rnum hB) (rpt_stop (sg_ne (r1 j cj).2.1)))) (sg_ne (r1 j cj).2.2.1) (sg_ne (r1 j cj).2.2.2)) (s1 (p1 (rnum hC) a1) a2 a3)
 · rw [if_neg (by rw [(r1 i ci).1, (r2 j cj).1]; decide)]
   exact rex_go ci (s1 (p1 (rnum hA) (sg_ne (r1 i ci).2.1)) (sg_ne (r1 i ci).2.2.1) (sg_ne (r1 i ci).2.2.2)) (rsm (p1 (rnum hB) (sg_ne (r2 j cj).2)) (rst_go cj (p1 (rnum hC) a1) (rst_stop a2 a3)))
 · rw [if_neg (by rw [(r1 i ci).1]; decide)]
   exact rex_go ci (s1 (p1 (rnum hA) (sg_ne (r1 i ci).2.1)) (sg_ne (r1 i ci).2.2.1) (sg_ne (r1 i ci).2.2.2)) (s1 (rpd (rnum hB) (rpt_go (rnum hC) (rpt_stop a1))) a2 a3)
 · exact absurd ⟨(r1 i ci).1, (r1 j cj).1⟩ h
theorem expr_none {i j : Nat} (hi : five i) (hj : five j) (h : rk5 i = 1 ∧ rk5 j = 1) : ∃ e, REx ((nu A a :: sg (sgn5 i) :: nu B b :: sg (sgn5 j) :: [nu C c]) ++ tl) e (sg (sgn5 j) :: nu C c :: tl) := by
 have ci : i = 3 ∨ i = 4 := by rcases hi with rfl | rfl | rfl | rfl | rfl <;> first | (exact absurd h.1 (by decide)) | simp
 have cj : j = 3 ∨ j = 4 := by rcases hj with rfl | rfl | rfl | rfl | rfl <;> first | (exact absurd h.2 (by decide)) | simp
 have r1 : ∀ i, (i = 3 ∨ i = 4) → rk5 i = 1 ∧ sgn5 i ≠ [42] ∧ sgn5 i ≠ [43] ∧ sgn5 i ≠ [45] := by rintro i (rfl | rfl) <;> decide
 exact ⟨_, rex_go ci (s1 (p1 (rnum hA) (sg_ne (r1 i ci).2.1)) (sg_ne (r1 i ci).2.2.1) (sg_ne (r1 i ci).2.2.2)) (s1 (p1 (rnum hB) (sg_ne (r1 j cj).2.1)) (sg_ne (r1 j cj).2.2.1) (sg_ne (r1 j cj).2.2.2))⟩
end
end Uw.Tryd
namespace Uw.Tryd
open Go Uw
theorem no_ret {X r : List Tok} {e : Ex} {q : Nat} (h : pExpr q X = .ok e r) (hr : hd r ≠ [59]) : progF (preT ++ X) = none := by
 cases hp : progF (preT ++ X) with
 | none => rfl
 | some x =>
   exfalso
   obtain ⟨ds, fs⟩ := x
   obtain ⟨r0, hd', hf⟩ := progF_iff.1 hp
   have hds : r0 = preT ++ X := by
     cases hd' with
     | stop _ => rfl
     | cons h _ _ => exact absurd (.inr rfl) h
   subst hds
   clear hd'
   generalize hl : preT ++ X = l at hf
   cases hf with
   | nil => exact absurd hl (by simp [preT])
   | cons hr2 hf2 =>
     subst hl
     obtain ⟨n, hn⟩ := hr2
     have h3 := up' isp_fun hn (Nat.le_trans (Nat.le_add_right n q) (Nat.le_add_right (n + q) 3))
     rw [fun_ret] at h3
     have h4 := up' (p := fun n => pExpr n) (fun n => (pe n).expr) h (Nat.le_add_left q n)
     have h4 : pExpr (n + q) X = .ok e r := h4
     rw [h4, ok_bind] at h3
     obtain ⟨_, r2, a2, _⟩ := bind_ok.1 h3
     exact hr (want_ok a2).1
def dgR (n : Nat) : Str := (if n / 100 > 0 then [UInt8.ofNat (48 + n / 100 % 10)] else []) ++ (if n / 10 > 0 then [UInt8.ofNat (48 + n / 10 % 10)] else []) ++ [UInt8.ofNat (48 + n % 10)]
theorem dg_fin : ∀ n : Fin 256, tokLen (dgR n.val) = some (2, (dgR n.val).length, (n.val : Int)) ∧ (dgR n.val).length ≤ 3 ∧ dgR n.val ≠ [] ∧ cls ((dgR n.val).headD 0) = 2 ∧ (dgR n.val).headD 0 ≠ 40 := by decide +kernel
theorem dg_ok {n : Nat} (h : n < 256) : tokLen (dgR n) = some (2, (dgR n).length, (n : Int)) ∧ (dgR n).length ≤ 3 ∧ ∃ x r, dgR n = x :: r ∧ cls x = 2 ∧ x ≠ 40 := by
 obtain ⟨h1, h2, h0, h3, h4⟩ := dg_fin ⟨n, h⟩
 refine ⟨h1, h2, ?_⟩
 simp only at h0 h3 h4
 cases hd : dgR n with
 | nil => exact absurd hd h0
 | cons x r => rw [hd] at h3 h4; exact ⟨x, r, rfl, h3, h4⟩
theorem dg_ne {n : Nat} (h : n < 256) : ¬ dgR n = [40] := by
 obtain ⟨_, _, x, r, e, _, h3⟩ := dg_ok h
 rw [e]; rintro h; injection h with h _; exact h3 h
theorem tokLen_num (x : UInt8) (r : List UInt8) (c : UInt8) (b : List UInt8) (hx : cls x = 2) (hc : cls c = 5) : tokLen (x :: r ++ c :: b) = tokLen (x :: r) := by
 have n2 : digB c = false := by simp [digB, hc]
 have hl : letr ((r ++ c :: b).dropWhile digB) = letr (r.dropWhile digB) := by
   rw [dropWhile_app digB c b n2 r]
   cases r.dropWhile digB with
   | nil => rw [List.nil_append, letr, letr, hc]; rfl
   | cons y z => rfl
 have h1 : ¬ cls x = 1 := by omega
 rw [List.cons_append, tokLen, tokLen, if_neg h1, if_neg h1, if_pos hx, if_pos hx, takeWhile_app digB c b n2, hl]
def LexTo (X : List UInt8) (T : List Tok) : Prop := ∀ p, ∃ l, lexF X p = some l ∧ l.map strip = T
theorem LexTo.num {n : Nat} (hn : n < 256) {c : UInt8} {Y : List UInt8} {T : List Tok} (hc : cls c = 5) (h : LexTo (c :: Y) T) : LexTo (dgR n ++ c :: Y) (nu (dgR n) n :: T) := by
 intro p
 obtain ⟨h1, _, x, r, e, hx, _⟩ := dg_ok hn
 obtain ⟨l, h2, h3⟩ := h (p + (dgR n).length)
 rw [e] at h1 h2 ⊢
 have ht := tokLen_num x r c Y hx hc
 rw [h1] at ht
 refine ⟨⟨2, x :: r, n, p⟩ :: l, ?_, by rw [List.map_cons, h3]; rfl⟩
 rw [List.cons_append, lexF_tok x (r ++ c :: Y) p (by omega) ht, ← List.cons_append, List.drop_left, List.take_left, h2]
 rfl
theorem LexTo.one {c : UInt8} {Y : List UInt8} {T : List Tok} (hc : cls c = 5) (h61 : c.toNat ≠ 61) (h : LexTo Y T) : LexTo (c :: Y) (tk c :: T) := by
 intro p
 obtain ⟨l, h2, h3⟩ := h (p + 1)
 exact ⟨⟨3, [c], 0, p⟩ :: l, by rw [lexF_one c hc h61, h2]; rfl, by rw [List.map_cons, h3]; rfl⟩
theorem LexTo.sgn {i : Nat} (hi : five i) {Y : List UInt8} {T : List Tok} (h : LexTo Y T) : LexTo (sgn5 i ++ Y) (sg (sgn5 i) :: T) := by
 rcases hi with rfl | rfl | rfl | rfl | rfl
 · exact h.one (c := 43) (by decide) (by decide)
 · exact h.one (c := 45) (by decide) (by decide)
 · exact h.one (c := 42) (by decide) (by decide)
 · exact h.one (c := 60) (by decide) (by decide)
 · intro p
   obtain ⟨l, h2, h3⟩ := h (p + 2)
   have ht : tokLen (61 :: 61 :: Y) = some (3, 2, 0) := by
     rw [tokLen, if_neg (by decide), if_neg (by decide), if_pos (by decide), if_pos ⟨by decide, rfl⟩]
   exact ⟨⟨3, [61, 61], 0, p⟩ :: l, by
     show lexF (61 :: 61 :: Y) p = _
     rw [lexF_tok 61 (61 :: Y) p (by decide) ht]
     show (lexF Y (p + 2)).map _ = _
     rw [h2]; rfl, by rw [List.map_cons, h3]; rfl⟩
theorem sgn_head {i : Nat} (hi : five i) (Y : List UInt8) : ∃ c Z, sgn5 i ++ Y = c :: Z ∧ cls c = 5 := by
 rcases hi with rfl | rfl | rfl | rfl | rfl
 · exact ⟨43, Y, rfl, by decide⟩
 · exact ⟨45, Y, rfl, by decide⟩
 · exact ⟨42, Y, rfl, by decide⟩
 · exact ⟨60, Y, rfl, by decide⟩
 · exact ⟨61, 61 :: Y, rfl, by decide⟩
theorem LexTo.numS {n i : Nat} (hn : n < 256) (hi : five i) {Y : List UInt8} {T : List Tok} (h : LexTo (sgn5 i ++ Y) T) : LexTo (dgR n ++ (sgn5 i ++ Y)) (nu (dgR n) n :: T) := by
 obtain ⟨c, Z, e, hc⟩ := sgn_head hi Y
 rw [e] at h ⊢
 exact h.num hn hc
theorem LexTo.end : LexTo [59, 125] tl := fun p => ⟨[⟨3, [59], 0, p⟩, ⟨3, [125], 0, p + 1⟩], by rw [lexF_one 59 (by decide) (by decide), lexF_one 125 (by decide) (by decide), lexF_nil]; rfl, rfl⟩
theorem LexTo.pre {Y : List UInt8} {T : List Tok} (h : LexTo Y T) : LexTo (preS ++ 32 :: Y) (preT ++ T) := by
 intro p
 obtain ⟨l1, e1, f1⟩ := lex_pre
 obtain ⟨l, h2, h3⟩ := h (p + preS.length + 1)
 rw [lexF_app 32 (by decide) _ _ preS p (Nat.le_refl _), lexF_from preS, e1]
 refine ⟨l1.map (shiftT p) ++ l, ?_, ?_⟩
 · show (lexF Y _).map _ = _
   rw [h2]; rfl
 · rw [List.map_append, h3, strip_shift', f1]
theorem deepT_le : ∀ (l : List Tok) (d m : Int), d ≤ m → deepT l d m ≤ m + l.length
 | [], d, m, h => by simp [deepT]
 | t :: r, d, m, h => by
   have h1 : delta t.text ≤ 1 := by unfold delta; repeat' split <;> omega
   have := deepT_le r (d + delta t.text) (max m (d + delta t.text)) (by omega)
   rw [deepT, List.length_cons]; omega
theorem ofR_lex {X : List UInt8} {T : List Tok} (h : LexTo X T) (hX : X.length ≤ 4000) : ofR X = ofT T := by
 obtain ⟨l, h1, h2⟩ := h 0
 rw [ofR_some h1 hX, ← ofT_strip, h2]
def txF (i j a b c : Nat) : List UInt8 := preS ++ 32 :: (dgR a ++ (sgn5 i ++ (dgR b ++ (sgn5 j ++ (dgR c ++ [59, 125])))))
def txL (i j a b c : Nat) : List UInt8 := preS ++ 32 :: (40 :: (dgR a ++ (sgn5 i ++ (dgR b ++ (41 :: (sgn5 j ++ (dgR c ++ [59, 125])))))))
def txR (i j a b c : Nat) : List UInt8 := preS ++ 32 :: (dgR a ++ (sgn5 i ++ (40 :: (dgR b ++ (sgn5 j ++ (dgR c ++ (41 :: [59, 125])))))))
section
variable {i j a b c : Nat} (hi : five i) (hj : five j) (ha : a < 256) (hb : b < 256) (hc : c < 256)
include hi hj ha hb hc
theorem lens : (dgR a).length ≤ 3 ∧ (dgR b).length ≤ 3 ∧ (dgR c).length ≤ 3 ∧ (sgn5 i).length ≤ 2 ∧ (sgn5 j).length ≤ 2 := by
 refine ⟨(dg_ok ha).2.1, (dg_ok hb).2.1, (dg_ok hc).2.1, ?_, ?_⟩
 · rcases hi with rfl | rfl | rfl | rfl | rfl <;> decide
 · rcases hj with rfl | rfl | rfl | rfl | rfl <;> decide
theorem of_left : ofR (txL i j a b c) = (pgOf ([], retF (eL i j a b c)), 0) := by
 have hl := lens hi hj ha hb hc
 have h : LexTo (txL i j a b c) (preT ++ ((tk 40 :: nu (dgR a) a :: sg (sgn5 i) :: nu (dgR b) b :: tk 41 :: sg (sgn5 j) :: [nu (dgR c) c]) ++ tl)) :=
   (((((((LexTo.end.num hc (c := 59) (by decide)).sgn hj).one (c := 41) (by decide) (by decide)).num hb (by decide)).sgn hi).numS ha hi).one (c := 40) (by decide) (by decide)).pre
 rw [ofR_lex h (by simp [txL, preS]; omega), ofT_prg (ret_back (expr_left (a := (a : Int)) (b := (b : Int)) (c := (c : Int)) (dg_ne ha) (dg_ne hb) (dg_ne hc) hi hj).choose_spec)]
 have := deepT_le (preT ++ ((tk 40 :: nu (dgR a) a :: sg (sgn5 i) :: nu (dgR b) b :: tk 41 :: sg (sgn5 j) :: [nu (dgR c) c]) ++ tl)) 0 0 (by omega)
 have h2 : (preT ++ ((tk 40 :: nu (dgR a) a :: sg (sgn5 i) :: nu (dgR b) b :: tk 41 :: sg (sgn5 j) :: [nu (dgR c) c]) ++ tl)).length = 15 := rfl
 rw [h2] at this
 exact Int.le_trans this (by decide)
theorem of_right : ofR (txR i j a b c) = (pgOf ([], retF (eR i j a b c)), 0) := by
 have hl := lens hi hj ha hb hc
 have h : LexTo (txR i j a b c) (preT ++ ((nu (dgR a) a :: sg (sgn5 i) :: tk 40 :: nu (dgR b) b :: sg (sgn5 j) :: nu (dgR c) c :: [tk 41]) ++ tl)) :=
   ((((((((LexTo.end.one (c := 41) (by decide) (by decide)).num hc (by decide)).sgn hj).numS hb hj).one (c := 40) (by decide) (by decide)).sgn hi).numS ha hi)).pre
 rw [ofR_lex h (by simp [txR, preS]; omega), ofT_prg (ret_back (expr_right (a := (a : Int)) (b := (b : Int)) (c := (c : Int)) (dg_ne ha) (dg_ne hb) (dg_ne hc) hi hj).choose_spec)]
 have := deepT_le (preT ++ ((nu (dgR a) a :: sg (sgn5 i) :: tk 40 :: nu (dgR b) b :: sg (sgn5 j) :: nu (dgR c) c :: [tk 41]) ++ tl)) 0 0 (by omega)
 have h2 : (preT ++ ((nu (dgR a) a :: sg (sgn5 i) :: tk 40 :: nu (dgR b) b :: sg (sgn5 j) :: nu (dgR c) c :: [tk 41]) ++ tl)).length = 15 := rfl
 rw [h2] at this
 exact Int.le_trans this (by decide)
theorem lex_flat : LexTo (txF i j a b c) (preT ++ ((nu (dgR a) a :: sg (sgn5 i) :: nu (dgR b) b :: sg (sgn5 j) :: [nu (dgR c) c]) ++ tl)) :=
 (((((LexTo.end.num hc (c := 59) (by decide)).sgn hj).numS hb hj).sgn hi).numS ha hi).pre
theorem of_flat (h : ¬ (rk5 i = 1 ∧ rk5 j = 1)) : ofR (txF i j a b c) = (pgOf ([], retF (if rk5 j ≤ rk5 i then eL i j a b c else eR i j a b c)), 0) := by
 have hl := lens hi hj ha hb hc
 rw [ofR_lex (lex_flat hi hj ha hb hc) (by simp [txF, preS]; omega), ofT_prg (ret_back (expr_flat (a := (a : Int)) (b := (b : Int)) (c := (c : Int)) (dg_ne ha) (dg_ne hb) (dg_ne hc) hi hj h).choose_spec)]
 have := deepT_le (preT ++ ((nu (dgR a) a :: sg (sgn5 i) :: nu (dgR b) b :: sg (sgn5 j) :: [nu (dgR c) c]) ++ tl)) 0 0 (by omega)
 have h2 : (preT ++ ((nu (dgR a) a :: sg (sgn5 i) :: nu (dgR b) b :: sg (sgn5 j) :: [nu (dgR c) c]) ++ tl)).length = 13 := rfl
 rw [h2] at this
 exact Int.le_trans this (by decide)
theorem of_none (h : rk5 i = 1 ∧ rk5 j = 1) : ofR (txF i j a b c) = (noPg, 3) := by
 have hl := lens hi hj ha hb hc
 obtain ⟨e, q, he⟩ := expr_none (a := (a : Int)) (b := (b : Int)) (c := (c : Int)) (dg_ne ha) (dg_ne hb) (dg_ne hc) hi hj h
 rw [ofR_lex (lex_flat hi hj ha hb hc) (by simp [txF, preS]; omega)]
 unfold ofT
 rw [no_ret he ?_, if_neg ?_]
 · have := deepT_le (preT ++ ((nu (dgR a) a :: sg (sgn5 i) :: nu (dgR b) b :: sg (sgn5 j) :: [nu (dgR c) c]) ++ tl)) 0 0 (by omega)
   have h2 : (preT ++ ((nu (dgR a) a :: sg (sgn5 i) :: nu (dgR b) b :: sg (sgn5 j) :: [nu (dgR c) c]) ++ tl)).length = 13 := rfl
   rw [h2] at this
   intro hh
   have h3 : (40 : Int) < 0 + ((13 : Nat) : Int) := Int.lt_of_lt_of_le hh this
   exact absurd h3 (by decide)
 · show sgn5 j ≠ [59]
   rcases hj with rfl | rfl | rfl | rfl | rfl <;> decide
end
theorem left_right (i j : Nat) (a b c : Int) : pgOf ([], retF (eR i j a b c)) ≠ pgOf ([], retF (eL i j a b c)) := by
 intro h
 have h2 := congrArg (fun p => p.nodes[2]?.map (·.kind)) h
 have h3 : some (1 : Int) = some (kd5 i) := h2
 injection h3 with h3
 unfold kd5 at h3
 repeat' split at h3
 all_goals omega
end Uw.Tryd
