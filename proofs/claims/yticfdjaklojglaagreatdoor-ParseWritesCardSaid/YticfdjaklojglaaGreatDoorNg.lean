/- Ng: Wf Wg Wh (merged by merge2.py from the working texts). -/
import Derived.Test.YticfdjaklojglaaGreatDoorNf
import Derived.Test.YticfdjaklojglaaGreatDoorNc
import Derived.Test.YticfdjaklojglaaGreatDoorNd
set_option maxRecDepth 4000
set_option maxHeartbeats 2000000
set_option linter.unusedSimpArgs false
set_option linter.unnecessarySimpa false
set_option linter.unusedVariables false
set_option linter.unusedSectionVars false
namespace Uw.Tryz
open Go Uw
theorem joinR_c (a s : Str) (r : List Str) : joinR a (s :: r) = (if longR a && longR s then [32] else []) ++ s ++ joinR s r := rfl
theorem joinR_as {a b : Str} (h : longR a = longR b) (l : List Str) : joinR a l = joinR b l := by
 cases l with
 | nil => rfl
 | cons s r => rw [joinR, joinR, h]
theorem longR_nil : longR [] = false := rfl
theorem joinR_sg {s : Str} (h : longR s = false) (l : List Str) : joinR s l = joinR [] l := joinR_as (by rw [h]; rfl) l
theorem joinR_1 (s : Str) : joinR [] [s] = s := by rw [joinR_c, longR_nil]; simp [joinR]
theorem joinR_s0 {s : Str} (h : longR s = false) (l : List Str) : joinR [] (s :: l) = s ++ joinR [] l := by rw [joinR_c, joinR_sg h]; simp [longR]
theorem joinR_mid : ∀ (u : List Str) (a s : Str) (v : List Str), longR s = false → joinR a (u ++ s :: v) = joinR a u ++ (s ++ joinR [] v)
 | [], a, s, v, h => by
   show joinR a (s :: v) = _
   rw [joinR_c, h, Bool.and_false, joinR_sg h]; simp [joinR]
 | x :: u, a, s, v, h => by rw [List.cons_append, joinR_c, joinR_mid u x s v h, joinR_c]; simp
theorem joinR_end (u : List Str) (a s : Str) (h : longR s = false) : joinR a (u ++ [s]) = joinR a u ++ s := by rw [joinR_mid u a s [] h]; simp [joinR]
def SgE (l : List Str) : Prop := ∀ x, l.getLast? = some x → longR x = false
theorem joinR_cat : ∀ (u : List Str) (a : Str) (v : List Str), SgE u → (u = [] → longR a = false) → joinR a (u ++ v) = joinR a u ++ joinR [] v
 | [], a, v, _, ha => by rw [List.nil_append, joinR_sg (ha rfl)]; simp [joinR]
 | [x], a, v, h, _ => by
   have := h x rfl
   show joinR a (x :: v) = _
   rw [joinR, joinR, joinR_sg this]; simp [joinR]
 | x :: y :: u, a, v, h, ha => by
   have h' : SgE (y :: u) := fun z hz => h z (by rw [List.getLast?_cons_cons]; exact hz)
   rw [List.cons_append, joinR, joinR_cat (y :: u) x v h' (fun h => by cases h)]
   conv => rhs; rw [joinR]
   simp
def Sh (l : List Str) : Prop := ∀ s ∈ l, s.length ≤ 12
theorem Sh.app {a b : List Str} (ha : Sh a) (hb : Sh b) : Sh (a ++ b) := fun s hs => (List.mem_append.1 hs).elim (ha s) (hb s)
theorem Sh.one {s : Str} (h : s.length ≤ 12) : Sh [s] := fun x hx => by rw [List.mem_singleton.1 hx]; exact h
theorem Sh.nil : Sh [] := fun _ h => by cases h
theorem tok_short {s : Str} {k v : Int} (h : tokLen s = some (k, s.length, v)) : s.length ≤ 12 := by
 cases s with
 | nil => simp
 | cons c t =>
   rw [tokLen] at h
   split at h
   · split at h
     · simp only [Option.some.injEq, Prod.mk.injEq] at h; omega
     · cases h
   · split at h
     · split at h
       · simp only [Option.some.injEq, Prod.mk.injEq] at h; omega
       · cases h
     · split at h
       · split at h <;> (simp only [Option.some.injEq, Prod.mk.injEq] at h; omega)
       · cases h
theorem sh_name {s : Str} (h : NameOk s) : Sh [s] := .one (tok_short h.1)
theorem sh_num {n : Int} (h : NumOk n) : Sh [Lib.itoa n] := .one (tok_short (tok_itoa h))
theorem sh_sign (k : Int) : Sh [signO k] := by
 refine .one ?_
 unfold signO
 repeat' split
 all_goals simp
theorem jl_short : ∀ (l : List Str) (a : Str), Sh l → (joinR a l).length ≤ 13 * l.length
 | [], _, _ => by simp [joinR]
 | s :: r, a, h => by
   have h1 := jl_short r s fun x hx => h x (List.mem_cons_of_mem _ hx)
   have h2 := h s (List.mem_cons_self ..)
   rw [joinR]
   have h3 : (if longR a && longR s then ([32] : Str) else []).length ≤ 1 := by split <;> simp
   simp only [List.length_append, List.length_cons]
   omega
mutual
theorem sh_ex : ∀ (e : Ex) (l : Int), e.good → Sh (wEx e l)
 | .num n, _, h => sh_num h
 | .name s, _, h => sh_name h
 | .call o v ar, _, h => by
   have e1 : wEx (.call o v ar) 0 = [o] ++ ([[46]] ++ ([v] ++ ([[40]] ++ (wExs ar ++ [[41]])))) := by simp [wEx]
   show Sh (wEx (.call o v ar) 0)
   rw [e1]
   exact (sh_name h.1).app ((Sh.one (by decide)).app ((sh_name h.2.1).app ((Sh.one (by decide)).app ((sh_exs ar h.2.2).app (.one (by decide))))))
 | .bin k a b, l, h => by
   have core : Sh (wEx a (max (tightO k) 1) ++ [signO k] ++ wEx b (tightO k + 1)) := ((sh_ex a _ h.2.1).app (sh_sign k)).app (sh_ex b _ h.2.2)
   show Sh (if tightO k < l then _ else _)
   split
   · exact ((Sh.one (by decide)).app core).app (.one (by decide))
   · exact core
theorem sh_exs : ∀ (es : Exs), es.good → Sh (wExs es)
 | .nil, _ => .nil
 | .cons e r, h => (sh_ex e 0 h.1).app (sh_tail r h.2)
theorem sh_tail : ∀ (es : Exs), es.good → Sh (wTail es)
 | .nil, _ => .nil
 | .cons e r, h => ((Sh.one (by decide)).app (sh_ex e 0 h.1)).app (sh_tail r h.2)
end
theorem sh_args {es : Exs} (h : es.good) : Sh (wArgs es) := ((Sh.one (by decide)).app (sh_exs es h)).app (.one (by decide))
theorem jl_ex {e : Ex} (h : e.good) (l : Int) (hs : e.sz < 100000) : (joinR [] (wEx e l)).length ≤ 10000000 := by
 have := jl_short (wEx e l) [] (sh_ex e l h)
 have := wEx_len e l
 omega
theorem jl_args {es : Exs} (h : es.good) (hs : es.sz < 100000) : (joinR [] (wArgs es)).length ≤ 10000000 := by
 have := jl_short (wArgs es) [] (sh_args h)
 have h2 := wExs_len es
 simp [wArgs] at this
 simp [wArgs]
 omega
abbrev PD (D F : List (List Dat)) (NS : List Nod) : Dat := .agg [.slice 3 D false, .slice 3 F false, .slice 5 (nsL NS) false]
theorem s_ref05_digits : ∀ (n : Nat), n < 4294967296 → Ret P0 n_ref05_digits [I n] (.str (Lib.decDigits n)) := by
 intro n
 induction n using Nat.strongRecOn with
 | _ n ih =>
   intro h
   by_cases hn : n < 10
   · rw [Lib.decDigits_one hn]
     refine Ret_by is_ref05_digits rfl ?_
     ((repeat' first|refine aw ?_|refine bw (fun _=>?_) fun _=>?_))
     refine WT_ret rfl rfl rfl rfl ?_
     show Dat.str [UInt8.ofNat (48 + (n : Int)).toNat] = .str [UInt8.ofNat (48 + n)]
     congr 3
   · have ih := ih (n / 10) (by omega) (by omega)
     rw [Lib.decDigits, dif_neg hn]
     have hl : (Lib.decDigits (n / 10)).length < 100 := by
       obtain ⟨c, r, h1, _, _, _, h5⟩ := dec_all (n / 10)
       have := h5 9 (by omega)
       rw [h1, List.length_cons]; omega
     generalize Lib.decDigits (n / 10) = d at *
     refine Ret_by is_ref05_digits rfl ?_
     refine WT_f (by simp; omega) ?_
     repeat (refine Uw.wg1 ?_)
     refine WT_call _ ih ?_
     have hm : (n : Int).tmod 10 = ((n % 10 : Nat) : Int) := rfl
     refine WT_f rfl ?_
     refine WT_inR (by rw [hm]; simp [inR]; omega) ?_
     refine WT_inR (by rw [hm]; simp [inR]; omega) ?_
     repeat (refine Uw.wg1 ?_)
     refine WT_ret rfl rfl rfl rfl ?_
     rfl
theorem digits_num {n : Int} (h : NumOk n) : Ret P0 n_ref05_digits [I n] (.str (Lib.itoa n)) := by
 have := s_ref05_digits n.toNat (by have := h.2; have := h.1; omega)
 rw [show ((n.toNat : Nat) : Int) = n by have := h.1; omega] at this
 rw [Lib.itoa, if_neg (by have := h.1; omega)]
 exact this
def wordB (c : UInt8) : Bool := decide (c.toNat = 95) || (decide (48 ≤ c.toNat) && decide (c.toNat ≤ 57)) || (decide (65 ≤ c.toNat) && decide (c.toNat ≤ 90)) || (decide (97 ≤ c.toNat) && decide (c.toNat ≤ 122))
theorem s_ref05_worded (c : UInt8) : Ret P0 n_ref05_worded [.int .u8 c.toNat] (.bool (wordB c)) := by
 have hc := c.toNat_lt
 unfold wordB
 refine Ret_by is_ref05_worded rfl ?_
 ((repeat' first|refine aw ?_|refine bw (fun _=>?_) fun _=>?_))
 all_goals
   refine WT_ret rfl rfl rfl rfl ?_
   refine congrArg Dat.bool (Bool.eq_iff_iff.2 ?_)
   simp
   try omega
theorem wr_num (D F : List (List Dat)) (NS : List Nod) (k : Nat) (n t : Int) (hx : (nsL NS)[k]? = some [I 1, I n, .str [], .str [], intsD []]) (hk : k < (nsL NS).length) (s : Str) (hd : Ret P0 n_ref05_digits [I n] (.str s)) : Ret P0 n_ref05_write [PD D F NS, I k, I t] (.str s) := by
 have hx' : (nsL NS)[((k : Int)).toNat]? = some [I 1, I n, .str [], .str [], intsD []] := by rw [show ((k : Int)).toNat = k by omega]; exact hx
 unfold PD
 generalize nsL NS = N at *
 refine Ret_by is_ref05_write rfl ?_
 ((repeat' first|refine aw ?_|refine bw (fun _=>?_) fun _=>?_))
 exact WT_ret rfl rfl rfl rfl rfl
theorem wr_name (D F : List (List Dat)) (NS : List Nod) (k : Nat) (s : Str) (t : Int) (hx : (nsL NS)[k]? = some [I 2, I 0, .str s, .str [], intsD []]) (hk : k < (nsL NS).length) : Ret P0 n_ref05_write [PD D F NS, I k, I t] (.str s) := by
 have hx' : (nsL NS)[((k : Int)).toNat]? = some [I 2, I 0, .str s, .str [], intsD []] := by rw [show ((k : Int)).toNat = k by omega]; exact hx
 unfold PD
 generalize nsL NS = N at *
 refine Ret_by is_ref05_write rfl ?_
 ((repeat' first|refine aw ?_|refine bw (fun _=>?_) fun _=>?_))
 exact WT_ret rfl rfl rfl rfl rfl
theorem wr_call (D F : List (List Dat)) (NS : List Nod) (k : Nat) (o v A : Str) (ps : List Int) (t : Int) (hx : (nsL NS)[k]? = some [I 8, I 0, .str o, .str v, intsD ps]) (hk : k < (nsL NS).length) (ho : o.length ≤ 12) (hv : v.length ≤ 12) (hA : A.length ≤ 10000000)
   (h1 : Ret P0 n_ref05_list [PD D F NS, intsD ps] (.str A)) : Ret P0 n_ref05_write [PD D F NS, I k, I t] (.str (o ++ [46] ++ v ++ A)) := by
 have hx' : (nsL NS)[((k : Int)).toNat]? = some [I 8, I 0, .str o, .str v, intsD ps] := by rw [show ((k : Int)).toNat = k by omega]; exact hx
 unfold PD at *
 generalize nsL NS = N at *
 have l1 : (o ++ [46]).length ≤ 13 := by simp; omega
 have l2 : (o ++ [46] ++ v).length ≤ 25 := by simp; omega
 refine Ret_by is_ref05_write rfl ?_
 ((repeat' first|refine aw ?_|refine bw (fun _=>?_) fun _=>?_))
 exact WT_ret rfl rfl rfl rfl rfl
theorem wr_bin (D F : List (List Dat)) (NS : List Nod) (p k own left : Nat) (sg A B : Str) (q1 q2 : Nat) (t : Int) (hx : (nsL NS)[p]? = some [I k, I 0, .str [], .str [], .slice 1 [[I q1], [I q2]] false]) (hp : p < (nsL NS).length) (hA : A.length ≤ 10000000) (hB : B.length ≤ 10000000)
   (hk : (k = 3 ∧ own = 2 ∧ left = 2 ∧ sg = [43]) ∨ (k = 4 ∧ own = 2 ∧ left = 2 ∧ sg = [45]) ∨ (k = 5 ∧ own = 3 ∧ left = 3 ∧ sg = [42]) ∨ (k = 6 ∧ own = 1 ∧ left = 2 ∧ sg = [60]) ∨ (k = 7 ∧ own = 1 ∧ left = 2 ∧ sg = [61, 61]))
   (h1 : Ret P0 n_ref05_write [PD D F NS, I q1, I left] (.str A)) (h2 : Ret P0 n_ref05_write [PD D F NS, I q2, I (own + 1)] (.str B)) : Ret P0 n_ref05_write [PD D F NS, I p, I t] (.str (if (own : Int) < t then [40] ++ (A ++ sg ++ B) ++ [41] else A ++ sg ++ B)) := by
 have hx' : (nsL NS)[((p : Int)).toNat]? = some [I k, I 0, .str [], .str [], .slice 1 [[I q1], [I q2]] false] := by rw [show ((p : Int)).toNat = p by omega]; exact hx
 unfold PD at *
 generalize nsL NS = N at *
 have l1 : (A ++ sg).length ≤ 10000002 := by rcases hk with ⟨_, _, _, rfl⟩ | ⟨_, _, _, rfl⟩ | ⟨_, _, _, rfl⟩ | ⟨_, _, _, rfl⟩ | ⟨_, _, _, rfl⟩ <;> simp <;> omega
 have l2 : (A ++ sg ++ B).length ≤ 20000002 := by rw [List.length_append]; omega
 have l3 : ([40] ++ (A ++ sg ++ B)).length ≤ 20000003 := by rw [List.length_append, List.length_singleton]; omega
 have l4 : (1 : Nat) + (A ++ sg ++ B).length ≤ 20000003 := by omega
 rcases hk with ⟨rfl, rfl, rfl, rfl⟩ | ⟨rfl, rfl, rfl, rfl⟩ | ⟨rfl, rfl, rfl, rfl⟩ | ⟨rfl, rfl, rfl, rfl⟩ | ⟨rfl, rfl, rfl, rfl⟩
 all_goals
   refine Ret_by is_ref05_write rfl ?_
   ((repeat' first|refine aw ?_|refine bw (fun _=>?_) fun _=>?_))
   refine WT_elem [I q1] rfl ?_
   ((repeat' first|refine aw ?_|refine bw (fun _=>?_) fun _=>?_))
   refine WT_elem [I q2] rfl ?_
   ((repeat' first|refine aw ?_|refine bw (fun _=>?_) fun _=>?_))
   all_goals
     refine WT_ret rfl rfl rfl rfl ?_
     refine congrArg Dat.str ?_
     first | rw [if_pos (by assumption)] | rw [if_neg (by omega)]
theorem at_len {NS : List Nod} {b : Nat} {l : List Nod} (h : At NS b l) (h0 : 0 < l.length) : b + l.length ≤ NS.length := by
 have := h (l.length - 1) (by omega)
 obtain ⟨h1, _⟩ := List.getElem?_eq_some_iff.1 this
 omega
def CW (D F : List (List Dat)) (NS : List Nod) (e : Ex) : Prop := ∀ (b : Nat) (t : Int), At NS b (e.flat b) → 1 ≤ t → t ≤ 4 → Ret P0 n_ref05_write [PD D F NS, I ((b + e.sz - 1 : Nat) : Int), I t] (.str (joinR [] (wEx e (t - 1))))
def CWs (D F : List (List Dat)) (NS : List Nod) : Exs → Prop
 | .nil => True
 | .cons e r => CW D F NS e ∧ CWs D F NS r
theorem jl_tail (r : Exs) (u : List Str) (a : Str) : joinR a (u ++ (wTail r ++ [[41]])) = joinR a u ++ joinR [] (wTail r ++ [[41]]) := by
 cases r with
 | nil => show joinR a (u ++ [[41]]) = _; rw [joinR_mid u a [41] [] rfl]; rfl
 | cons e r => show joinR a (u ++ [44] :: (wEx e 0 ++ wTail r ++ [[41]])) = joinR a u ++ joinR [] ([44] :: (wEx e 0 ++ wTail r ++ [[41]])); rw [joinR_mid u a [44] _ rfl, joinR_s0 (s := [44]) rfl]
theorem exs_places_len : ∀ (r : Exs) (b : Nat), (r.places b).length = r.length
 | .nil, _ => rfl
 | .cons e r, b => by rw [Exs.places, List.length_cons, exs_places_len r, Exs.length]
theorem wr_list (D F : List (List Dat)) (NS : List Nod) (hN : NS.length < 100000) (ar : Exs) (hg : ar.good) (hc : CWs D F NS ar) (b : Nat) (ha : At NS b (ar.flat b)) (hs : ar.sz < 100000) :
   Ret P0 n_ref05_list [PD D F NS, intsD ((ar.places b).map fun (i : Nat) => (i : Int))] (.str (joinR [] (wArgs ar))) := by
 have hT := jl_args hg hs
 have hT2 : joinR [] (wArgs ar) = [40] ++ joinR [] (wExs ar ++ [[41]]) := joinR_s0 (s := [40]) rfl _
 rw [hT2] at hT ⊢
 have hpl : ((ar.places b).map fun (i : Nat) => (i : Int)).length < 100000 := by
   rw [List.length_map, exs_places_len]
   exact Nat.lt_of_le_of_lt (length_le_sz ar) hs
 generalize hps : ((ar.places b).map fun (i : Nat) => (i : Int)) = ps at *
 generalize hTT : [40] ++ joinR [] (wExs ar ++ [[41]]) = T at *
 have hm : (ps.map fun i => [I i]).length = ps.length := by simp
 unfold CW at *
 refine Ret_by is_ref05_list rfl ?_
 unfold PD intsD
 generalize hNN : nsL NS = N at *
 ((repeat' first|refine aw ?_|refine bw (fun _=>?_) fun _=>?_))
 refine WT_loop (fun ((j, X) : Nat × Str) => ⟨[(6, .d (I j)), (5, .d (.str X)), (2, .ptr 0 0), (1, .d (Dat.slice 1 (List.map (fun i => [I i]) ps) false))], [(0, .var [.d (Dat.slice 3 D false), .d (Dat.slice 3 F false), .d (Dat.slice 5 N false)])], 1, [], 0⟩)
   (fun (j, X) => ∃ r b', ps.drop j = (r.places b').map (fun (i : Nat) => (i : Int)) ∧ r.good ∧ CWs D F NS r ∧ At NS b' (r.flat b') ∧ X ++ (if j = 0 then joinR [] (wExs r ++ [[41]]) else joinR [] (wTail r ++ [[41]])) = T ∧ j ≤ ps.length) (fun (j, _) => ps.length - j) (0, [40]) (by exact Uw.wW) ⟨ar, b, by rw [List.drop_zero, hps], hg, hc, ha, hTT, Nat.zero_le _⟩ ?_
 clear hps hTT ha hc hg hs
 rintro ⟨j, X⟩ ⟨r, b', h1, h2, h3, h4, h5, h6⟩
 cases r with
 | nil =>
   have hj : j = ps.length := by
     have : (ps.drop j).length = 0 := by rw [h1]; rfl
     rw [List.length_drop] at this
     omega
   have hX : X ++ [41] = T := by
     rw [← h5]
     split <;> rfl
   have hl : X.length + 1 ≤ 10000000 := by rw [← hX, List.length_append] at hT; exact hT
   have hl2 : decide (X.length + [41].length < 4611686018427387904) = true := decide_eq_true (show X.length + 1 < _ by omega)
   clear h1 h2 h3 h4 h5
   repeat refine aw ?_
   refine WT_t hl2 ?_
   repeat refine aw ?_
   refine WT_ret rfl rfl rfl rfl ?_
   exact congrArg Dat.str hX
 | cons e r =>
   have hx : ps[j]? = some ((b' + e.sz - 1 : Nat) : Int) := by
     have := congrArg (fun l => l[0]?) h1
     simpa [Exs.places] using this
   have hj : j < ps.length := (List.getElem?_eq_some_iff.1 hx).1
   have hx' : (ps.map fun i => [I i])[((j : Int)).toNat]? = some [I ((b' + e.sz - 1 : Nat) : Int)] := by
     rw [show ((j : Int)).toNat = j by omega, List.getElem?_map, hx]; rfl
   have hw := h3.1 b' 1 (by have := h4; rw [Exs.flat] at this; exact this.left) (by decide) (by decide)
   rw [show (1 : Int) - 1 = 0 from rfl] at hw
   unfold PD at hw
   rw [hNN] at hw
   have hnext : ps.drop (j + 1) = (r.places (b' + e.sz)).map (fun (i : Nat) => (i : Int)) := by
     rw [← List.tail_drop, h1]; rfl
   have hat : At NS (b' + e.sz) (r.flat (b' + e.sz)) := by
     rw [Exs.flat] at h4
     have := h4.right
     rw [Ex.flat_len] at this
     exact this
   have hg2 := h2.2
   have hc2 := h3.2
   have e1 : joinR [] (wExs (.cons e r) ++ [[41]]) = joinR [] (wEx e 0) ++ joinR [] (wTail r ++ [[41]]) := by
     rw [← jl_tail]; simp [wExs]
   have e2 : joinR [] (wTail (.cons e r) ++ [[41]]) = [44] ++ (joinR [] (wEx e 0) ++ joinR [] (wTail r ++ [[41]])) := by
     rw [← jl_tail, ← joinR_s0 (s := [44]) rfl]; simp [wTail]
   rw [e1, e2] at h5
   clear h1 h2 h3 h4 e1 e2 hx
   generalize b' + e.sz - 1 = q at *
   generalize joinR [] (wEx e 0) = A at *
   by_cases h0 : j = 0
   · rw [if_pos h0] at h5
     have hl1 : (X ++ A).length ≤ 10000000 := by rw [← h5, ← List.append_assoc, List.length_append] at hT; omega
     have hl2 : X.length + A.length ≤ 10000000 := by rw [List.length_append] at hl1; exact hl1
     ((repeat' first|refine aw ?_|refine bw (fun _=>?_) fun _=>?_))
     exact WT_again (j + 1, X ++ A) ⟨r, _, hnext, hg2, hc2, hat, by rw [if_neg (by omega), List.append_assoc]; exact h5, by omega⟩ (by simp only; omega) (by exact Uw.wW)
   · rw [if_neg h0] at h5
     have hl1 : (X ++ [44]).length + A.length ≤ 10000000 := by rw [← h5] at hT; simp at hT ⊢; omega
     have hl2 : X.length + 1 ≤ 10000000 := by rw [List.length_append, List.length_singleton] at hl1; omega
     ((repeat' first|refine aw ?_|refine bw (fun _=>?_) fun _=>?_))
     exact WT_again (j + 1, X ++ [44] ++ A) ⟨r, _, hnext, hg2, hc2, hat, by rw [if_neg (by omega), List.append_assoc, List.append_assoc]; exact h5, by omega⟩ (by simp only; omega) (by exact Uw.wW)
theorem cw_num (D F : List (List Dat)) (NS : List Nod) (n : Int) (hg : NumOk n) : CW D F NS (.num n) := by
 intro b t ha _ _
 obtain ⟨h1, h2⟩ := nsL_get (At.one ha)
 show Ret P0 n_ref05_write [PD D F NS, I ((b + 1 - 1 : Nat) : Int), I t] (.str (joinR [] [Lib.itoa n]))
 rw [joinR_1]
 exact wr_num D F NS b n t h2 h1 _ (digits_num hg)
theorem cw_name (D F : List (List Dat)) (NS : List Nod) (s : Str) : CW D F NS (.name s) := by
 intro b t ha _ _
 obtain ⟨h1, h2⟩ := nsL_get (At.one ha)
 show Ret P0 n_ref05_write [PD D F NS, I ((b + 1 - 1 : Nat) : Int), I t] (.str (joinR [] [s]))
 rw [joinR_1]
 exact wr_name D F NS b s t h2 h1
theorem cw_call (D F : List (List Dat)) (NS : List Nod) (hN : NS.length < 100000) (o v : Str) (ar : Exs) (hg : (Ex.call o v ar).good) (hc : CWs D F NS ar) : CW D F NS (.call o v ar) := by
 intro b t ha _ _
 have ha' : At NS b (ar.flat b ++ [⟨8, 0, o, v, ar.places b⟩]) := ha
 have hr := ha'.right
 rw [Exs.flat_len] at hr
 obtain ⟨h1, h2⟩ := nsL_get (At.one hr)
 have hs : ar.sz < 100000 := by
   have := at_len ha' (by simp)
   rw [List.length_append, Exs.flat_len] at this
   omega
 have hl := wr_list D F NS hN ar hg.2.2 hc b ha'.left hs
 have e1 : joinR [] (wEx (.call o v ar) (t - 1)) = o ++ [46] ++ v ++ joinR [] (wArgs ar) := by
   show joinR [] ([o] ++ [46] :: ([v] ++ [40] :: (wExs ar ++ [[41]]))) = _
   rw [joinR_mid [o] [] [46] _ rfl, joinR_mid [v] [] [40] _ rfl]
   show _ = _ ++ joinR [] ([40] :: (wExs ar ++ [[41]]))
   rw [joinR_s0 (s := [40]) rfl, joinR_1, joinR_1]
   simp
 rw [e1]
 exact wr_call D F NS (b + ar.sz) o v _ _ t h2 h1 (sh_name hg.1 o (List.mem_singleton_self _)) (sh_name hg.2.1 v (List.mem_singleton_self _)) (jl_args hg.2.2 hs) hl
theorem cw_bin (D F : List (List Dat)) (NS : List Nod) (hN : NS.length < 100000) (k : Int) (x y : Ex) (hg : (Ex.bin k x y).good) (hx : CW D F NS x) (hy : CW D F NS y) : CW D F NS (.bin k x y) := by
 intro b t ha t1 t4
 have ha' : At NS b ((x.flat b ++ y.flat (b + x.sz)) ++ [⟨k, 0, [], [], [b + x.sz - 1, b + x.sz + y.sz - 1]⟩]) := ha
 have hr := ha'.right
 rw [List.length_append, Ex.flat_len, Ex.flat_len] at hr
 obtain ⟨h1, h2⟩ := nsL_get (At.one hr)
 have hlen := at_len ha' (by rw [List.length_append]; exact Nat.lt_of_lt_of_le Nat.zero_lt_one (Nat.le_add_left 1 _))
 simp only [List.length_append, Ex.flat_len, List.length_singleton] at hlen
 have hyA := ha'.left.right
 rw [Ex.flat_len] at hyA
 obtain ⟨kn, own, left, sg, hk, e1, e2, e3, e4⟩ : ∃ kn own left : Nat, ∃ sg : Str, ((kn = 3 ∧ own = 2 ∧ left = 2 ∧ sg = [43]) ∨ (kn = 4 ∧ own = 2 ∧ left = 2 ∧ sg = [45]) ∨ (kn = 5 ∧ own = 3 ∧ left = 3 ∧ sg = [42]) ∨ (kn = 6 ∧ own = 1 ∧ left = 2 ∧ sg = [60]) ∨ (kn = 7 ∧ own = 1 ∧ left = 2 ∧ sg = [61, 61])) ∧ k = kn ∧ tightO k = own - 1 ∧ max (tightO k) 1 = left - 1 ∧ signO k = sg := by
   rcases (show k = 3 ∨ k = 4 ∨ k = 5 ∨ k = 6 ∨ k = 7 by have := hg.1; omega) with rfl | rfl | rfl | rfl | rfl
   · exact ⟨3, 2, 2, [43], .inl ⟨rfl, rfl, rfl, rfl⟩, rfl, rfl, rfl, rfl⟩
   · exact ⟨4, 2, 2, [45], .inr (.inl ⟨rfl, rfl, rfl, rfl⟩), rfl, rfl, rfl, rfl⟩
   · exact ⟨5, 3, 3, [42], .inr (.inr (.inl ⟨rfl, rfl, rfl, rfl⟩)), rfl, rfl, rfl, rfl⟩
   · exact ⟨6, 1, 2, [60], .inr (.inr (.inr (.inl ⟨rfl, rfl, rfl, rfl⟩))), rfl, rfl, rfl, rfl⟩
   · exact ⟨7, 1, 2, [61, 61], .inr (.inr (.inr (.inr ⟨rfl, rfl, rfl, rfl⟩))), rfl, rfl, rfl, rfl⟩
 have hsg : longR sg = false := by rcases hk with ⟨_, _, _, rfl⟩ | ⟨_, _, _, rfl⟩ | ⟨_, _, _, rfl⟩ | ⟨_, _, _, rfl⟩ | ⟨_, _, _, rfl⟩ <;> rfl
 have ho : 1 ≤ own ∧ own ≤ 3 ∧ 1 ≤ left ∧ left ≤ 4 := by rcases hk with ⟨_, rfl, rfl, _⟩ | ⟨_, rfl, rfl, _⟩ | ⟨_, rfl, rfl, _⟩ | ⟨_, rfl, rfl, _⟩ | ⟨_, rfl, rfl, _⟩ <;> decide
 have c1 := hx b left ha'.left.left (by omega) (by omega)
 have c2 := hy (b + x.sz) (own + 1) hyA (by omega) (by omega)
 rw [← e3] at c1
 rw [show (own : Int) + 1 - 1 = tightO k + 1 by omega] at c2
 have e5 : joinR [] (wEx (.bin k x y) (t - 1)) = if (own : Int) < t then [40] ++ (joinR [] (wEx x (max (tightO k) 1)) ++ sg ++ joinR [] (wEx y (tightO k + 1))) ++ [41] else joinR [] (wEx x (max (tightO k) 1)) ++ sg ++ joinR [] (wEx y (tightO k + 1)) := by
   have e6 : ∀ (v : List Str), joinR [] (wEx x (max (tightO k) 1) ++ [signO k] ++ wEx y (tightO k + 1)) = joinR [] (wEx x (max (tightO k) 1)) ++ sg ++ joinR [] (wEx y (tightO k + 1)) := fun v => by
     rw [List.append_assoc, e4, List.singleton_append, joinR_mid _ _ _ _ hsg, List.append_assoc]
   show joinR [] (if tightO k < t - 1 then _ else _) = _
   by_cases ht : tightO k < t - 1
   · rw [if_pos ht, if_pos (by omega), ← e6 []]
     generalize wEx x (max (tightO k) 1) ++ [signO k] ++ wEx y (tightO k + 1) = M
     rw [List.append_assoc, List.singleton_append, joinR_s0 (s := [40]) rfl, joinR_end _ _ [41] rfl, List.append_assoc]
   · rw [if_neg ht, if_neg (by omega), e6 []]
 rw [e5]
 have hA := jl_ex hg.2.1 (max (tightO k) 1) (by omega)
 have hB := jl_ex hg.2.2 (tightO k + 1) (by omega)
 subst e1
 have h2' : (nsL NS)[b + (x.sz + y.sz)]? = some [I kn, I 0, .str [], .str [], .slice 1 [[I ((b + x.sz - 1 : Nat) : Int)], [I ((b + x.sz + y.sz - 1 : Nat) : Int)]] false] := h2
 have := wr_bin D F NS (b + (x.sz + y.sz)) kn own left sg _ _ (b + x.sz - 1) (b + x.sz + y.sz - 1) t h2' h1 hA hB hk c1 c2
 rw [show b + (Ex.bin (kn : Int) x y).sz - 1 = b + (x.sz + y.sz) by rw [Ex.sz]; omega]
 exact this
mutual
theorem cw_ex (D F : List (List Dat)) (NS : List Nod) (hN : NS.length < 100000) : ∀ (e : Ex), e.good → CW D F NS e
 | .num n, h => cw_num D F NS n h
 | .name s, _ => cw_name D F NS s
 | .call o v ar, h => cw_call D F NS hN o v ar h (cw_exs D F NS hN ar h.2.2)
 | .bin k a b, h => cw_bin D F NS hN k a b h (cw_ex D F NS hN a h.2.1) (cw_ex D F NS hN b h.2.2)
theorem cw_exs (D F : List (List Dat)) (NS : List Nod) (hN : NS.length < 100000) : ∀ (e : Exs), e.good → CWs D F NS e
 | .nil, _ => trivial
 | .cons e r, h => ⟨cw_ex D F NS hN e h.1, cw_exs D F NS hN r h.2⟩
end
end Uw.Tryz
namespace Uw.Tryz
open Go Uw
theorem s_ref05_then (a : Str) (z c : UInt8) (b : Str) (hz : a[a.length - 1]? = some z) (ha : a.length ≤ 12) (hb : b.length ≤ 10000000) (h1 : wordB z = true) : Ret P0 n_ref05_then [.str a, .str (c :: b)] (.str (if wordB c = true then a ++ [32] ++ (c :: b) else a ++ (c :: b))) := by
 have hl : 0 < a.length := by
   rcases Nat.eq_zero_or_pos a.length with h | h
   · rw [h] at hz; rw [List.getElem?_eq_none (by omega)] at hz; cases hz
   · exact h
 have hz' : a[(((a.length : Nat) : Int) - 1).toNat]? = some z := by rw [show (((a.length : Nat) : Int) - 1).toNat = a.length - 1 by omega]; exact hz
 have hc' : (c :: b)[(0 : Int).toNat]? = some c := rfl
 have w1' := s_ref05_worded z
 have w2' := s_ref05_worded c
 rw [h1] at w1'
 have hl1 : (c :: b).length ≤ 10000001 := by rw [List.length_cons]; omega
 have hl0 : 0 < (c :: b).length := by rw [List.length_cons]; omega
 have hl2 : (a ++ [32]).length ≤ 13 := by rw [List.length_append, List.length_singleton]; omega
 generalize c :: b = cb at *
 obtain ⟨hb1, hb2⟩ := List.getElem?_eq_some_iff.1 hz'
 obtain ⟨hb3, hb4⟩ := List.getElem?_eq_some_iff.1 hc'
 rw [← hb2] at w1'
 rw [← hb4] at w2'
 by_cases hw : wordB c = true
 · rw [if_pos hw]
   rw [hb4, hw, ← hb4] at w2'
   refine Ret_by is_ref05_then rfl ?_
   ((repeat' first|refine aw ?_|refine bw (fun _=>?_) fun _=>?_))
   exact WT_ret rfl rfl rfl rfl rfl
 · rw [if_neg hw]
   rw [Bool.not_eq_true] at hw
   rw [hb4, hw, ← hb4] at w2'
   refine Ret_by is_ref05_then rfl ?_
   ((repeat' first|refine aw ?_|refine bw (fun _=>?_) fun _=>?_))
   exact WT_ret rfl rfl rfl rfl rfl
theorem sy_set (D F : List (List Dat)) (NS : List Nod) (p q1 : Nat) (s A : Str) (hx : (nsL NS)[p]? = some [I 9, I 0, .str s, .str [], .slice 1 [[I q1]] false]) (hp : p < (nsL NS).length) (hs : s.length ≤ 12) (hA : A.length ≤ 10000000)
   (h1 : Ret P0 n_ref05_write [PD D F NS, I q1, I 1] (.str A)) : Ret P0 n_ref05_say [PD D F NS, I p] (.str (s ++ [61] ++ A ++ [59])) := by
 have hx' : (nsL NS)[((p : Int)).toNat]? = some [I 9, I 0, .str s, .str [], .slice 1 [[I q1]] false] := by rw [show ((p : Int)).toNat = p by omega]; exact hx
 unfold PD at *
 generalize nsL NS = N at *
 have l1 : (s ++ [61]).length ≤ 13 := by simp; omega
 have l2 : (s ++ [61] ++ A).length ≤ 10000013 := by rw [List.length_append]; omega
 refine Ret_by is_ref05_say rfl ?_
 ((repeat' first|refine aw ?_|refine bw (fun _=>?_) fun _=>?_))
 refine WT_elem [I q1] rfl ?_
 ((repeat' first|refine aw ?_|refine bw (fun _=>?_) fun _=>?_))
 exact WT_ret rfl rfl rfl rfl rfl
theorem sy_sync (D F : List (List Dat)) (NS : List Nod) (p : Nat) (hx : (nsL NS)[p]? = some [I 12, I 0, .str [], .str [], .slice 1 [] false]) (hp : p < (nsL NS).length) : Ret P0 n_ref05_say [PD D F NS, I p] (.str (sSync ++ [59])) := by
 have hx' : (nsL NS)[((p : Int)).toNat]? = some [I 12, I 0, .str [], .str [], .slice 1 [] false] := by rw [show ((p : Int)).toNat = p by omega]; exact hx
 unfold PD at *
 generalize nsL NS = N at *
 refine Ret_by is_ref05_say rfl ?_
 ((repeat' first|refine aw ?_|refine bw (fun _=>?_) fun _=>?_))
 exact WT_ret rfl rfl rfl rfl rfl
theorem sy_act (D F : List (List Dat)) (NS : List Nod) (p q1 : Nat) (A : Str) (hx : (nsL NS)[p]? = some [I 17, I 0, .str [], .str [], .slice 1 [[I q1]] false]) (hp : p < (nsL NS).length) (hA : A.length ≤ 10000000)
   (h1 : Ret P0 n_ref05_write [PD D F NS, I q1, I 1] (.str A)) : Ret P0 n_ref05_say [PD D F NS, I p] (.str (A ++ [59])) := by
 have hx' : (nsL NS)[((p : Int)).toNat]? = some [I 17, I 0, .str [], .str [], .slice 1 [[I q1]] false] := by rw [show ((p : Int)).toNat = p by omega]; exact hx
 unfold PD at *
 generalize nsL NS = N at *
 have l2 : A.length + 1 ≤ 10000013 := by omega
 refine Ret_by is_ref05_say rfl ?_
 ((repeat' first|refine aw ?_|refine bw (fun _=>?_) fun _=>?_))
 refine WT_elem [I q1] rfl ?_
 ((repeat' first|refine aw ?_|refine bw (fun _=>?_) fun _=>?_))
 exact WT_ret rfl rfl rfl rfl rfl
theorem sy_one (D F : List (List Dat)) (NS : List Nod) (p q1 k : Nat) (kw A T : Str) (hk : (k = 15 ∧ kw = sReturn) ∨ (k = 16 ∧ kw = sAssert)) (hx : (nsL NS)[p]? = some [I k, I 0, .str [], .str [], .slice 1 [[I q1]] false]) (hp : p < (nsL NS).length) (hT : T.length ≤ 10000020)
   (h1 : Ret P0 n_ref05_write [PD D F NS, I q1, I 1] (.str A)) (h2 : Ret P0 n_ref05_then [.str kw, .str A] (.str T)) : Ret P0 n_ref05_say [PD D F NS, I p] (.str (T ++ [59])) := by
 have hx' : (nsL NS)[((p : Int)).toNat]? = some [I k, I 0, .str [], .str [], .slice 1 [[I q1]] false] := by rw [show ((p : Int)).toNat = p by omega]; exact hx
 unfold PD at *
 generalize nsL NS = N at *
 have l2 : T.length + 1 ≤ 10000033 := by omega
 rcases hk with ⟨rfl, rfl⟩ | ⟨rfl, rfl⟩
 all_goals
   refine Ret_by is_ref05_say rfl ?_
   ((repeat' first|refine aw ?_|refine bw (fun _=>?_) fun _=>?_))
   refine WT_elem [I q1] rfl ?_
   ((repeat' first|refine aw ?_|refine bw (fun _=>?_) fun _=>?_))
   exact WT_ret rfl rfl rfl rfl rfl
theorem sy_loop (D F : List (List Dat)) (NS : List Nod) (p q1 q2 k : Nat) (kw A T B : Str) (hk : (k = 14 ∧ kw = sWhile) ∨ (k = 13 ∧ kw = sIf)) (hx : (nsL NS)[p]? = some [I k, I 0, .str [], .str [], .slice 1 [[I q1], [I q2]] false]) (hp : p < (nsL NS).length) (hT : T.length ≤ 10000020) (hB : B.length ≤ 100000000)
   (h1 : Ret P0 n_ref05_write [PD D F NS, I q1, I 1] (.str A)) (h2 : Ret P0 n_ref05_then [.str kw, .str A] (.str T)) (h3 : Ret P0 n_ref05_say [PD D F NS, I q2] (.str B)) : Ret P0 n_ref05_say [PD D F NS, I p] (.str (T ++ B)) := by
 have hx' : (nsL NS)[((p : Int)).toNat]? = some [I k, I 0, .str [], .str [], .slice 1 [[I q1], [I q2]] false] := by rw [show ((p : Int)).toNat = p by omega]; exact hx
 unfold PD at *
 generalize nsL NS = N at *
 rcases hk with ⟨rfl, rfl⟩ | ⟨rfl, rfl⟩
 all_goals
   refine Ret_by is_ref05_say rfl ?_
   ((repeat' first|refine aw ?_|refine bw (fun _=>?_) fun _=>?_))
   refine WT_elem [I q1] rfl ?_
   ((repeat' first|refine aw ?_|refine bw (fun _=>?_) fun _=>?_))
   refine WT_elem [I q2] rfl ?_
   ((repeat' first|refine aw ?_|refine bw (fun _=>?_) fun _=>?_))
   exact WT_ret rfl rfl rfl rfl rfl
theorem sy_if2 (D F : List (List Dat)) (NS : List Nod) (p q1 q2 q3 : Nat) (A T B C : Str) (hx : (nsL NS)[p]? = some [I 13, I 0, .str [], .str [], .slice 1 [[I q1], [I q2], [I q3]] false]) (hp : p < (nsL NS).length) (hT : T.length ≤ 10000020) (hB : B.length ≤ 100000000) (hC : C.length ≤ 100000000)
   (h1 : Ret P0 n_ref05_write [PD D F NS, I q1, I 1] (.str A)) (h2 : Ret P0 n_ref05_then [.str sIf, .str A] (.str T)) (h3 : Ret P0 n_ref05_say [PD D F NS, I q2] (.str B)) (h4 : Ret P0 n_ref05_say [PD D F NS, I q3] (.str C)) : Ret P0 n_ref05_say [PD D F NS, I p] (.str (T ++ B ++ sElse ++ C)) := by
 have hx' : (nsL NS)[((p : Int)).toNat]? = some [I 13, I 0, .str [], .str [], .slice 1 [[I q1], [I q2], [I q3]] false] := by rw [show ((p : Int)).toNat = p by omega]; exact hx
 unfold PD at *
 generalize nsL NS = N at *
 have l1 : (T ++ B).length ≤ 110000020 := by rw [List.length_append]; omega
 have l2 : (T ++ B ++ sElse).length ≤ 110000024 := by rw [List.length_append]; exact Nat.add_le_add_right l1 4
 unfold sElse at *
 refine Ret_by is_ref05_say rfl ?_
 ((repeat' first|refine aw ?_|refine bw (fun _=>?_) fun _=>?_))
 refine WT_elem [I q1] rfl ?_
 ((repeat' first|refine aw ?_|refine bw (fun _=>?_) fun _=>?_))
 refine WT_elem [I q2] rfl ?_
 ((repeat' first|refine aw ?_|refine bw (fun _=>?_) fun _=>?_))
 refine WT_elem [I q3] rfl ?_
 ((repeat' first|refine aw ?_|refine bw (fun _=>?_) fun _=>?_))
 exact WT_ret rfl rfl rfl rfl rfl
theorem s_told (D F : List (List Dat)) (NS : List Nod) (k : Nat) (kw to f A : Str) (ps : List Int) (hk : (k = 10 ∧ kw = sSpawn) ∨ (k = 11 ∧ kw = sPar)) (ht : to.length ≤ 12) (hf : f.length ≤ 12) (hA : A.length ≤ 10000000)
   (h1 : Ret P0 n_ref05_list [PD D F NS, intsD ps] (.str A)) : Ret P0 n_ref05_told [PD D F NS, .agg [I k, I 0, .str to, .str f, intsD ps]] (.str ((if to = [] then [] else to ++ [61]) ++ (kw ++ [32] ++ f ++ A ++ [59]))) := by
 unfold PD at *
 generalize nsL NS = N at *
 have l0 : (kw ++ [32]).length ≤ 6 := by rcases hk with ⟨_, rfl⟩ | ⟨_, rfl⟩ <;> decide
 have l1 : (kw ++ [32] ++ f).length ≤ 18 := by rw [List.length_append]; omega
 have l2 : (kw ++ [32] ++ f ++ A).length ≤ 10000018 := by rw [List.length_append]; omega
 have l3 : (kw ++ [32] ++ f ++ A ++ [59]).length ≤ 10000019 := by rw [List.length_append, List.length_singleton]; omega
 have l4 : (to ++ [61]).length ≤ 13 := by rw [List.length_append, List.length_singleton]; omega
 rcases hk with ⟨rfl, rfl⟩ | ⟨rfl, rfl⟩
 all_goals
   by_cases h0 : to = []
   · rw [if_pos h0]
     subst h0
     refine Ret_by is_ref05_told rfl ?_
     ((repeat' first|refine aw ?_|refine bw (fun _=>?_) fun _=>?_))
     exact WT_ret rfl rfl rfl rfl rfl
   · rw [if_neg h0]
     refine Ret_by is_ref05_told rfl ?_
     ((repeat' first|refine aw ?_|refine bw (fun _=>?_) fun _=>?_))
     exact WT_ret rfl rfl rfl rfl rfl
theorem sy_task (D F : List (List Dat)) (NS : List Nod) (p k : Nat) (to f T : Str) (ps : List Int) (hk : k = 10 ∨ k = 11) (hx : (nsL NS)[p]? = some [I k, I 0, .str to, .str f, intsD ps]) (hp : p < (nsL NS).length)
   (h1 : Ret P0 n_ref05_told [PD D F NS, .agg [I k, I 0, .str to, .str f, intsD ps]] (.str T)) : Ret P0 n_ref05_say [PD D F NS, I p] (.str T) := by
 have hx' : (nsL NS)[((p : Int)).toNat]? = some [I k, I 0, .str to, .str f, intsD ps] := by rw [show ((p : Int)).toNat = p by omega]; exact hx
 unfold PD at *
 generalize nsL NS = N at *
 rcases hk with rfl | rfl
 all_goals
   refine Ret_by is_ref05_say rfl ?_
   ((repeat' first|refine aw ?_|refine bw (fun _=>?_) fun _=>?_))
   exact WT_ret rfl rfl rfl rfl rfl
def CSt (D F : List (List Dat)) (NS : List Nod) (s : Stm) : Prop := ∀ (b : Nat), At NS b (s.flat b) → Ret P0 n_ref05_say [PD D F NS, I ((b + s.sz - 1 : Nat) : Int)] (.str (joinR [] (wStm s)))
def CBw (D F : List (List Dat)) (NS : List Nod) (x : Bl) : Prop := ∀ (b : Nat), At NS b (x.all b) → Ret P0 n_ref05_say [PD D F NS, I ((b + x.sz : Nat) : Int)] (.str (joinR [] (wBlock x)))
def CSs (D F : List (List Dat)) (NS : List Nod) : Bl → Prop
 | .nil => True
 | .cons s r => CSt D F NS s ∧ CSs D F NS r
theorem SgE.app {a b : List Str} (hb : SgE b) (h : b ≠ []) : SgE (a ++ b) := by
 intro x hx
 rw [List.getLast?_append] at hx
 cases hh : b.getLast? with
 | none => rw [List.getLast?_eq_none_iff] at hh; exact absurd hh h
 | some y => rw [hh] at hx; exact hb x (by rw [hh]; exact hx)
theorem SgE.one {s : Str} (h : longR s = false) : SgE [s] := fun x hx => by injection hx with hx; subst hx; exact h
theorem sge_blk (b : Bl) : SgE (wBlock b) := (SgE.one (s := [125]) rfl).app (a := [[123]] ++ wBl b) (by simp)
theorem sge_stm (s : Stm) : SgE (wStm s) ∧ wStm s ≠ [] := by
 have h59 : ∀ a : List Str, SgE (a ++ [[59]]) ∧ a ++ [[59]] ≠ [] := fun a => ⟨(SgE.one (s := [59]) rfl).app (by simp), by simp⟩
 have hb : ∀ (a : List Str) (b : Bl), SgE (a ++ wBlock b) ∧ a ++ wBlock b ≠ [] := fun a b => ⟨(sge_blk b).app (by simp [wBlock]), by simp [wBlock]⟩
 cases s with
 | set n e => exact h59 _
 | task par to f ar => exact h59 _
 | sync => exact h59 _
 | if1 e a => exact hb _ a
 | if2 e a b => exact hb _ b
 | loop e a => exact hb _ a
 | one k e => exact h59 _
 | act o v ar => exact h59 _
theorem jl_stm (s : Stm) (v : List Str) : joinR [] (wStm s ++ v) = joinR [] (wStm s) ++ joinR [] v := joinR_cat _ _ _ (sge_stm s).1 fun h => absurd h (sge_stm s).2
mutual
theorem sh_stm : ∀ (s : Stm), s.good → Sh (wStm s)
 | .set n e, h => ((sh_name h.1).app (.one (by decide : ([61] : Str).length ≤ 12)) |>.app (sh_ex e 0 h.2)).app (.one (by decide))
 | .task par to f ar, h => by
   refine Sh.app (Sh.app (Sh.app ?_ ?_) (sh_args h.2.2.1)) (.one (by decide))
   · split
     · exact .nil
     · rename_i ht; exact (sh_name (h.1.resolve_left ht)).app (.one (by decide : ([61] : Str).length ≤ 12))
   · refine Sh.app (a := [if par then sPar else sSpawn]) (.one ?_) (sh_name h.2.1)
     cases par <;> decide
 | .sync, h => (Sh.one (by decide : sSync.length ≤ 12)).app (.one (by decide))
 | .if1 e a, h => ((Sh.one (by decide : sIf.length ≤ 12)).app (sh_ex e 0 h.1)).app (sh_blk a h.2)
 | .if2 e a b, h => ((((Sh.one (by decide : sIf.length ≤ 12)).app (sh_ex e 0 h.1)).app (sh_blk a h.2.1)).app (.one (by decide : sElse.length ≤ 12))).app (sh_blk b h.2.2)
 | .loop e a, h => ((Sh.one (by decide : sWhile.length ≤ 12)).app (sh_ex e 0 h.1)).app (sh_blk a h.2)
 | .one k e, h => by
   refine Sh.app (Sh.app (.one ?_) (sh_ex e 0 h.2)) (.one (by decide))
   split <;> decide
 | .act o v ar, h => (sh_ex (.call o v ar) 0 h).app (.one (by decide))
theorem sh_blk : ∀ (b : Bl), b.good → Sh ([[123]] ++ wBl b ++ [[125]])
 | .nil, _ => ((Sh.one (by decide : ([123] : Str).length ≤ 12)).app .nil).app (.one (by decide))
 | .cons s r, h => ((Sh.one (by decide : ([123] : Str).length ≤ 12)).app ((sh_stm s h.1).app (sh_bl r h.2))).app (.one (by decide))
theorem sh_bl : ∀ (b : Bl), b.good → Sh (wBl b)
 | .nil, _ => .nil
 | .cons s r, h => (sh_stm s h.1).app (sh_bl r h.2)
end
theorem jl_blk_len {x : Bl} (h : x.good) (hs : x.sz < 100000) : (joinR [] (wBlock x)).length ≤ 30000000 := by
 have := jl_short (wBlock x) [] (sh_blk x h)
 have := wBl_len x
 simp only [wBlock, List.length_append, List.length_singleton] at *
 omega
theorem bl_places_le (x : Bl) (b : Nat) : (x.places b).length ≤ x.sz := by rw [bplaces_len]; exact blength_le x
theorem sy_block (D F : List (List Dat)) (NS : List Nod) (hN : NS.length < 100000) (x : Bl) (hg : x.good) (hc : CSs D F NS x) : CBw D F NS x := by
 intro b ha
 have ha' : At NS b (x.flat b ++ [⟨18, 0, [], [], x.places b⟩]) := ha
 have hr := ha'.right
 rw [Bl.flat_len] at hr
 obtain ⟨hp, hx⟩ := nsL_get (At.one hr)
 have hs : x.sz < 100000 := by
   have := at_len ha' (by rw [List.length_append]; exact Nat.lt_of_lt_of_le Nat.zero_lt_one (Nat.le_add_left 1 _))
   simp only [List.length_append, Bl.flat_len, List.length_singleton] at this
   omega
 have hT := jl_blk_len hg hs
 have hT2 : joinR [] (wBlock x) = [123] ++ joinR [] (wBl x ++ [[125]]) := joinR_s0 (s := [123]) rfl _
 rw [hT2] at hT ⊢
 have hpl : ((x.places b).map fun (i : Nat) => (i : Int)).length < 100000 := by
   rw [List.length_map]
   exact Nat.lt_of_le_of_lt (bl_places_le x b) hs
 have hx : (nsL NS)[b + x.sz]? = some [I 18, I 0, .str [], .str [], intsD ((x.places b).map fun (i : Nat) => (i : Int))] := hx
 have haL := ha'.left
 clear ha ha' hr hT2
 generalize b + x.sz = p at *
 generalize hps : ((x.places b).map fun (i : Nat) => (i : Int)) = ps at *
 generalize hTT : [123] ++ joinR [] (wBl x ++ [[125]]) = T at *
 have hx' : (nsL NS)[((p : Int)).toNat]? = some [I 18, I 0, .str [], .str [], intsD ps] := by rw [show ((p : Int)).toNat = p by omega]; exact hx
 have hm : (ps.map fun i => [I i]).length = ps.length := by simp
 refine Ret_by is_ref05_say rfl ?_
 unfold PD
 generalize hNN : nsL NS = N at *
 ((repeat' first|refine aw ?_|refine bw (fun _=>?_) fun _=>?_))
 refine WT_loop (fun ((j, X) : Nat × Str) => ⟨[(8, .d (I j)), (7, .d (.str X)), (5, .ptr 1 0), (2, .ptr 0 0)], [(1, .var [.d (I 18), .d (I 0), .d (.str []), .d (.str []), .d (intsD ps)]), (0, .var [.d (Dat.slice 3 D false), .d (Dat.slice 3 F false), .d (Dat.slice 5 N false)])], 2, [], 0⟩)
   (fun (j, X) => ∃ r b', ps.drop j = (r.places b').map (fun (i : Nat) => (i : Int)) ∧ r.good ∧ CSs D F NS r ∧ At NS b' (r.flat b') ∧ X ++ joinR [] (wBl r ++ [[125]]) = T ∧ j ≤ ps.length) (fun (j, _) => ps.length - j) (0, [123]) (by exact Uw.wW) ⟨x, b, by rw [List.drop_zero, hps], hg, hc, haL, hTT, Nat.zero_le _⟩ ?_
 clear hps hTT haL hc hg hs
 rintro ⟨j, X⟩ ⟨r, b', h1, h2, h3, h4, h5, h6⟩
 cases r with
 | nil =>
   have hj : j = ps.length := by
     have : (ps.drop j).length = 0 := by rw [h1]; rfl
     rw [List.length_drop] at this
     omega
   have hX : X ++ [125] = T := by rw [← h5]; rfl
   have hl : X.length + 1 ≤ 30000000 := by rw [← hX, List.length_append] at hT; exact hT
   have hl2 : decide (X.length + [125].length < 4611686018427387904) = true := decide_eq_true (show X.length + 1 < _ by omega)
   clear h1 h2 h3 h4 h5
   repeat refine aw ?_
   refine WT_break ?_
   repeat refine aw ?_
   first
   | refine WT_t hl2 ?_
     repeat refine aw ?_
   | skip
   refine WT_ret rfl rfl rfl rfl ?_
   exact congrArg Dat.str hX
 | cons s r =>
   have hx : ps[j]? = some ((b' + s.sz - 1 : Nat) : Int) := by
     have := congrArg (fun l => l[0]?) h1
     simpa [Bl.places] using this
   have hj : j < ps.length := (List.getElem?_eq_some_iff.1 hx).1
   have hx' : (ps.map fun i => [I i])[((j : Int)).toNat]? = some [I ((b' + s.sz - 1 : Nat) : Int)] := by
     rw [show ((j : Int)).toNat = j by omega, List.getElem?_map, hx]; rfl
   have hw := h3.1 b' (by have := h4; rw [Bl.flat] at this; exact this.left)
   unfold PD at hw
   rw [hNN] at hw
   have hnext : ps.drop (j + 1) = (r.places (b' + s.sz)).map (fun (i : Nat) => (i : Int)) := by
     rw [← List.tail_drop, h1]; rfl
   have hat : At NS (b' + s.sz) (r.flat (b' + s.sz)) := by
     rw [Bl.flat] at h4
     have := h4.right
     rw [Stm.flat_len] at this
     exact this
   have hg2 := h2.2
   have hc2 := h3.2
   have e1 : joinR [] (wBl (.cons s r) ++ [[125]]) = joinR [] (wStm s) ++ joinR [] (wBl r ++ [[125]]) := by
     rw [← jl_stm]; simp [wBl]
   rw [e1] at h5
   clear h1 h2 h3 h4 e1 hx
   generalize b' + s.sz - 1 = q at *
   generalize joinR [] (wStm s) = A at *
   have hl2 : X.length + A.length ≤ 30000000 := by rw [← h5, ← List.append_assoc, List.length_append, List.length_append] at hT; omega
   ((repeat' first|refine aw ?_|refine bw (fun _=>?_) fun _=>?_))
   exact WT_again (j + 1, X ++ A) ⟨r, _, hnext, hg2, hc2, hat, by rw [List.append_assoc]; exact h5, by omega⟩ (by simp only; omega) (by exact Uw.wW)
end Uw.Tryz
namespace Uw.Tryz
open Go Uw
theorem lead_word {s : Str} (h : Lead s) : ∃ c t, s = c :: t ∧ longR s = wordB c := by
 have key : ∀ c t, cls c = 1 ∨ cls c = 2 → longR (c :: t) = wordB c := by
   intro c t hc
   rw [longR_cls]
   have h1 : cls c = 1 → (97 ≤ c.toNat ∧ c.toNat ≤ 122 ∨ 65 ≤ c.toNat ∧ c.toNat ≤ 90) := fun h => by
     unfold cls at h
     split at h
     · assumption
     · repeat' split at h
       all_goals omega
   rcases hc with hc | hc
   · have := h1 hc
     rw [hc]
     unfold wordB
     rcases this with h | h <;> simp [h]
   · have := cls2.1 hc
     rw [hc]
     unfold wordB
     simp [this]
 rcases h with rfl | ⟨n, hn, rfl⟩ | h
 · exact ⟨40, [], rfl, by decide⟩
 · obtain ⟨c, t, e, hc⟩ := num_head hn
   exact ⟨c, t, e, by rw [e]; exact key c t (.inr hc)⟩
 · obtain ⟨c, t, e, hc⟩ := name_head h
   exact ⟨c, t, e, by rw [e]; exact key c t (.inl hc)⟩
theorem then_ok {e : Ex} (he : e.good) (hs : e.sz < 100000) (kw : Str) (hk : kw = sIf ∨ kw = sWhile ∨ kw = sReturn ∨ kw = sAssert) :
   Ret P0 n_ref05_then [.str kw, .str (joinR [] (wEx e 0))] (.str (joinR [] ([kw] ++ wEx e 0))) ∧ (joinR [] ([kw] ++ wEx e 0)).length ≤ 10000020 := by
 have hl := jl_ex he 0 hs
 obtain ⟨s, r, e1, h2⟩ := lead_ex e 0 he
 obtain ⟨c, t, e2, h3⟩ := lead_word h2
 rw [e1] at hl ⊢
 rw [List.singleton_append]
 have e3 : joinR [] (s :: r) = c :: (t ++ joinR s r) := by
   rw [joinR_c, longR_nil, e2]; simp
 have e4 : joinR [] (kw :: s :: r) = if wordB c = true then kw ++ [32] ++ (c :: (t ++ joinR s r)) else kw ++ (c :: (t ++ joinR s r)) := by
   have hkl : longR kw = true := by rcases hk with rfl | rfl | rfl | rfl <;> decide
   rw [joinR_c, longR_nil, joinR_c, hkl, h3]
   cases wordB c
   · simp [e2]
   · simp [e2]
 have hk12 : kw.length ≤ 12 := by rcases hk with rfl | rfl | rfl | rfl <;> decide
 rw [e4, e3]
 rw [e3] at hl
 constructor
 · obtain ⟨z, hz1, hz2⟩ : ∃ z, kw[kw.length - 1]? = some z ∧ wordB z = true := by
     rcases hk with rfl | rfl | rfl | rfl
     · exact ⟨102, rfl, by decide⟩
     · exact ⟨101, rfl, by decide⟩
     · exact ⟨110, rfl, by decide⟩
     · exact ⟨116, rfl, by decide⟩
   exact s_ref05_then kw z c _ hz1 hk12 (by rw [List.length_cons] at hl; omega) hz2
 · split
   · simp only [List.length_append, List.length_cons, List.length_nil] at hl ⊢; omega
   · simp only [List.length_append, List.length_cons, List.length_nil] at hl ⊢; omega
theorem joinR_args (u : List Str) (a : Str) (ar : Exs) : joinR a (u ++ wArgs ar) = joinR a u ++ joinR [] (wArgs ar) := by
 show joinR a (u ++ [40] :: (wExs ar ++ [[41]])) = _ ++ joinR [] ([40] :: (wExs ar ++ [[41]]))
 rw [joinR_mid u a [40] _ rfl, joinR_s0 (s := [40]) rfl]
theorem joinR_blk (u : List Str) (a : Str) (x : Bl) : joinR a (u ++ wBlock x) = joinR a u ++ joinR [] (wBlock x) := by
 show joinR a (u ++ [123] :: (wBl x ++ [[125]])) = _ ++ joinR [] ([123] :: (wBl x ++ [[125]]))
 rw [joinR_mid u a [123] _ rfl, joinR_s0 (s := [123]) rfl]
theorem name_long {s : Str} (h : NameOk s) : longR s = true := by
 obtain ⟨c, t, rfl, hc⟩ := name_head h
 rw [longR_cls, hc]; decide
theorem name_12 {s : Str} (h : NameOk s) : s.length ≤ 12 := tok_short h.1
section
variable (D F : List (List Dat)) (NS : List Nod) (hN : NS.length < 100000)
include hN
theorem cs_set (s : Str) (e : Ex) (hg : (Stm.set s e).good) (he : CW D F NS e) : CSt D F NS (.set s e) := by
 intro b ha
 have ha1 : At NS b (e.flat b ++ [⟨9, 0, s, [], [b + e.sz - 1]⟩]) := ha
 have hroot := ha1.right.one
 rw [Ex.flat_len] at hroot
 obtain ⟨h1, h2⟩ := nsL_get hroot
 have hlt := (List.getElem?_eq_some_iff.1 hroot).1
 have e1 : joinR [] (wStm (.set s e)) = s ++ [61] ++ joinR [] (wEx e 0) ++ [59] := by
   show joinR [] (([s] ++ [61] :: wEx e 0) ++ [[59]]) = _
   rw [joinR_end _ _ [59] rfl, joinR_mid _ _ [61] _ rfl, joinR_1]
   simp
 rw [e1, show b + (Stm.set s e).sz - 1 = b + e.sz by rw [Stm.sz]; omega]
 exact sy_set D F NS (b + e.sz) (b + e.sz - 1) s _ h2 h1 (name_12 hg.1) (jl_ex hg.2 0 (by omega)) (he b 1 ha1.left (by decide) (by decide))
theorem cs_one (k : Int) (e : Ex) (hg : (Stm.one k e).good) (he : CW D F NS e) : CSt D F NS (.one k e) := by
 intro b ha
 have ha1 : At NS b (e.flat b ++ [⟨k, 0, [], [], [b + e.sz - 1]⟩]) := ha
 have hroot := ha1.right.one
 rw [Ex.flat_len] at hroot
 obtain ⟨h1, h2⟩ := nsL_get hroot
 have hlt := (List.getElem?_eq_some_iff.1 hroot).1
 obtain ⟨kn, kw, hk, e0, e2⟩ : ∃ (kn : Nat) (kw : Str), ((kn = 15 ∧ kw = sReturn) ∨ (kn = 16 ∧ kw = sAssert)) ∧ k = kn ∧ (if k = 15 then sReturn else sAssert) = kw := by
   rcases hg.1 with rfl | rfl
   · exact ⟨15, _, .inl ⟨rfl, rfl⟩, rfl, rfl⟩
   · exact ⟨16, _, .inr ⟨rfl, rfl⟩, rfl, rfl⟩
 have e1 : joinR [] (wStm (.one k e)) = joinR [] ([kw] ++ wEx e 0) ++ [59] := by
   show joinR [] (([if k = 15 then sReturn else sAssert] ++ wEx e 0) ++ [[59]]) = _
   rw [joinR_end _ _ [59] rfl, e2]
 obtain ⟨t1, t2⟩ := then_ok hg.2 (by omega) kw (by rcases hk with ⟨_, rfl⟩ | ⟨_, rfl⟩ <;> simp)
 rw [e1, show b + (Stm.one k e).sz - 1 = b + e.sz by rw [Stm.sz]; omega]
 subst e0
 exact sy_one D F NS (b + e.sz) (b + e.sz - 1) kn kw _ _ hk h2 h1 t2 (he b 1 ha1.left (by decide) (by decide)) t1
theorem cs_sync : CSt D F NS .sync := by
 intro b ha
 obtain ⟨h1, h2⟩ := nsL_get (At.one ha)
 exact sy_sync D F NS b h2 h1
theorem cs_act (o v : Str) (ar : Exs) (hg : (Stm.act o v ar).good) (he : CW D F NS (.call o v ar)) : CSt D F NS (.act o v ar) := by
 intro b ha
 have ha1 : At NS b ((Ex.call o v ar).flat b ++ [⟨17, 0, [], [], [b + ar.sz + 1 - 1]⟩]) := ha
 have hroot := ha1.right.one
 rw [Ex.flat_len] at hroot
 obtain ⟨h1, h2⟩ := nsL_get hroot
 have hlt := (List.getElem?_eq_some_iff.1 hroot).1
 have hz : (Ex.call o v ar).sz = ar.sz + 1 := rfl
 have e1 : joinR [] (wStm (.act o v ar)) = joinR [] (wEx (.call o v ar) 0) ++ [59] := joinR_end _ _ [59] rfl
 rw [e1, show b + (Stm.act o v ar).sz - 1 = b + (Ex.call o v ar).sz by rw [Stm.sz, hz]; omega]
 have := he b 1 ha1.left (by decide) (by decide)
 rw [hz] at this
 exact sy_act D F NS (b + (Ex.call o v ar).sz) (b + ar.sz + 1 - 1) _ h2 h1 (jl_ex (e := .call o v ar) hg 0 (by omega)) this
theorem cs_task (par : Bool) (to f : Str) (ar : Exs) (hg : (Stm.task par to f ar).good) (hc : CWs D F NS ar) : CSt D F NS (.task par to f ar) := by
 intro b ha
 have ha1 : At NS b (ar.flat b ++ [⟨if par then 11 else 10, 0, to, f, ar.places b⟩]) := ha
 have hroot := ha1.right.one
 rw [Exs.flat_len] at hroot
 obtain ⟨h1, h2⟩ := nsL_get hroot
 have hlt := (List.getElem?_eq_some_iff.1 hroot).1
 obtain ⟨kn, kw, hk, e0, e2, e3⟩ : ∃ (kn : Nat) (kw : Str), ((kn = 10 ∧ kw = sSpawn) ∨ (kn = 11 ∧ kw = sPar)) ∧ (if par then (11 : Int) else 10) = kn ∧ (if par then sPar else sSpawn) = kw ∧ longR kw = true := by
   cases par
   · exact ⟨10, _, .inl ⟨rfl, rfl⟩, rfl, rfl, by decide⟩
   · exact ⟨11, _, .inr ⟨rfl, rfl⟩, rfl, rfl, by decide⟩
 have hf := name_long hg.2.1
 have e1 : joinR [] (wStm (.task par to f ar)) = (if to = [] then [] else to ++ [61]) ++ (kw ++ [32] ++ f ++ joinR [] (wArgs ar) ++ [59]) := by
   have core : joinR [] ([kw, f] ++ wArgs ar) = kw ++ [32] ++ f ++ joinR [] (wArgs ar) := by
     rw [joinR_args, joinR_c, joinR_c, longR_nil, e3, hf]; simp [joinR]
   rw [wStm, e2, joinR_end _ _ [59] rfl]
   by_cases ht : to = []
   · rw [if_pos ht, if_pos ht, List.nil_append, core]; simp
   · rw [if_neg ht, if_neg ht]
     show joinR [] (([to] ++ [[61]]) ++ [kw, f] ++ wArgs ar) ++ _ = _
     rw [List.append_assoc, List.append_assoc, List.singleton_append (x := ([61] : Str)), joinR_mid _ _ [61] _ rfl, joinR_1, core]
     simp
 have e4 : (ndL (Nod.nd ⟨if par then 11 else 10, 0, to, f, ar.places b⟩)) = [I kn, I 0, .str to, .str f, intsD ((ar.places b).map fun (i : Nat) => (i : Int))] := by
   rw [← e0]; rfl
 rw [e4] at h2
 have ht12 : to.length ≤ 12 := by
   rcases hg.1 with rfl | h
   · simp
   · exact name_12 h
 rw [e1, show b + (Stm.task par to f ar).sz - 1 = b + ar.sz by rw [Stm.sz]; omega]
 refine sy_task D F NS (b + ar.sz) kn to f _ _ (by rcases hk with ⟨h, _⟩ | ⟨h, _⟩ <;> simp [h]) h2 h1 ?_
 exact s_told D F NS kn kw to f _ _ hk ht12 (name_12 hg.2.1) (jl_args hg.2.2.1 (by omega)) (wr_list D F NS hN ar hg.2.2.1 hc b ha1.left (by omega))
theorem cs_loop (e : Ex) (x : Bl) (hg : (Stm.loop e x).good) (he : CW D F NS e) (hx : CBw D F NS x) : CSt D F NS (.loop e x) := by
 intro b ha
 have ha1 : At NS b (e.flat b ++ x.all (b + e.sz) ++ [⟨14, 0, [], [], [b + e.sz - 1, b + e.sz + (x.sz + 1) - 1]⟩]) := ha
 have hroot := ha1.right.one
 rw [List.length_append, Ex.flat_len, Bl.all_len] at hroot
 obtain ⟨h1, h2⟩ := nsL_get hroot
 have hlt := (List.getElem?_eq_some_iff.1 hroot).1
 have hay := ha1.left.right
 rw [Ex.flat_len] at hay
 have e1 : joinR [] (wStm (.loop e x)) = joinR [] ([sWhile] ++ wEx e 0) ++ joinR [] (wBlock x) := joinR_blk _ _ _
 obtain ⟨t1, t2⟩ := then_ok hg.1 (by omega) sWhile (by simp)
 rw [e1, show b + (Stm.loop e x).sz - 1 = b + (e.sz + (x.sz + 1)) by rw [Stm.sz]; omega]
 exact sy_loop D F NS (b + (e.sz + (x.sz + 1))) (b + e.sz - 1) (b + e.sz + (x.sz + 1) - 1) 14 sWhile _ _ _ (.inl ⟨rfl, rfl⟩) h2 h1 t2 (Nat.le_trans (jl_blk_len hg.2 (by omega)) (by decide)) (he b 1 ha1.left.left (by decide) (by decide)) t1 (hx (b + e.sz) hay)
theorem cs_if1 (e : Ex) (x : Bl) (hg : (Stm.if1 e x).good) (he : CW D F NS e) (hx : CBw D F NS x) : CSt D F NS (.if1 e x) := by
 intro b ha
 have ha1 : At NS b (e.flat b ++ x.all (b + e.sz) ++ [⟨13, 0, [], [], [b + e.sz - 1, b + e.sz + (x.sz + 1) - 1]⟩]) := ha
 have hroot := ha1.right.one
 rw [List.length_append, Ex.flat_len, Bl.all_len] at hroot
 obtain ⟨h1, h2⟩ := nsL_get hroot
 have hlt := (List.getElem?_eq_some_iff.1 hroot).1
 have hay := ha1.left.right
 rw [Ex.flat_len] at hay
 have e1 : joinR [] (wStm (.if1 e x)) = joinR [] ([sIf] ++ wEx e 0) ++ joinR [] (wBlock x) := joinR_blk _ _ _
 obtain ⟨t1, t2⟩ := then_ok hg.1 (by omega) sIf (by simp)
 rw [e1, show b + (Stm.if1 e x).sz - 1 = b + (e.sz + (x.sz + 1)) by rw [Stm.sz]; omega]
 exact sy_loop D F NS (b + (e.sz + (x.sz + 1))) (b + e.sz - 1) (b + e.sz + (x.sz + 1) - 1) 13 sIf _ _ _ (.inr ⟨rfl, rfl⟩) h2 h1 t2 (Nat.le_trans (jl_blk_len hg.2 (by omega)) (by decide)) (he b 1 ha1.left.left (by decide) (by decide)) t1 (hx (b + e.sz) hay)
theorem cs_if2 (e : Ex) (x y : Bl) (hg : (Stm.if2 e x y).good) (he : CW D F NS e) (hx : CBw D F NS x) (hy : CBw D F NS y) : CSt D F NS (.if2 e x y) := by
 intro b ha
 have ha1 : At NS b (e.flat b ++ x.all (b + e.sz) ++ y.all (b + e.sz + (x.sz + 1)) ++ [⟨13, 0, [], [], [b + e.sz - 1, b + e.sz + (x.sz + 1) - 1, b + e.sz + (x.sz + 1) + (y.sz + 1) - 1]⟩]) := ha
 have hroot := ha1.right.one
 rw [List.length_append, List.length_append, Ex.flat_len, Bl.all_len, Bl.all_len] at hroot
 obtain ⟨h1, h2⟩ := nsL_get hroot
 have hlt := (List.getElem?_eq_some_iff.1 hroot).1
 have hay := ha1.left.left.right
 rw [Ex.flat_len] at hay
 have haz := ha1.left.right
 rw [List.length_append, Ex.flat_len, Bl.all_len, ← Nat.add_assoc] at haz
 have e1 : joinR [] (wStm (.if2 e x y)) = joinR [] ([sIf] ++ wEx e 0) ++ joinR [] (wBlock x) ++ sElse ++ joinR [] (wBlock y) := by
   show joinR [] ((([sIf] ++ wEx e 0 ++ wBlock x) ++ [sElse]) ++ wBlock y) = _
   rw [joinR_blk, joinR_cat ([sIf] ++ wEx e 0 ++ wBlock x) [] [sElse] ((sge_blk x).app (by simp [wBlock])) (fun _ => rfl), joinR_blk, joinR_1]
 obtain ⟨t1, t2⟩ := then_ok hg.1 (by omega) sIf (by simp)
 rw [e1, show b + (Stm.if2 e x y).sz - 1 = b + (e.sz + (x.sz + 1) + (y.sz + 1)) by rw [Stm.sz]; omega]
 exact sy_if2 D F NS _ (b + e.sz - 1) (b + e.sz + (x.sz + 1) - 1) (b + e.sz + (x.sz + 1) + (y.sz + 1) - 1) _ _ _ _ h2 h1 t2 (Nat.le_trans (jl_blk_len hg.2.1 (by omega)) (by decide)) (Nat.le_trans (jl_blk_len hg.2.2 (by omega)) (by decide)) (he b 1 ha1.left.left.left (by decide) (by decide)) t1 (hx (b + e.sz) hay) (hy (b + e.sz + (x.sz + 1)) haz)
mutual
theorem cs_all : ∀ (s : Stm), s.good → CSt D F NS s
 | .set s e, h => cs_set D F NS hN s e h (cw_ex D F NS hN e h.2)
 | .task par to f ar, h => cs_task D F NS hN par to f ar h (cw_exs D F NS hN ar h.2.2.1)
 | .sync, _ => cs_sync D F NS hN
 | .if1 e a, h => cs_if1 D F NS hN e a h (cw_ex D F NS hN e h.1) (sy_block D F NS hN a h.2 (css_all a h.2))
 | .if2 e a b, h => cs_if2 D F NS hN e a b h (cw_ex D F NS hN e h.1) (sy_block D F NS hN a h.2.1 (css_all a h.2.1)) (sy_block D F NS hN b h.2.2 (css_all b h.2.2))
 | .loop e a, h => cs_loop D F NS hN e a h (cw_ex D F NS hN e h.1) (sy_block D F NS hN a h.2 (css_all a h.2))
 | .one k e, h => cs_one D F NS hN k e h (cw_ex D F NS hN e h.2)
 | .act o v ar, h => cs_act D F NS hN o v ar h (cw_ex D F NS hN (.call o v ar) h)
theorem css_all : ∀ (x : Bl), x.good → CSs D F NS x
 | .nil, _ => trivial
 | .cons s r, h => ⟨cs_all s h.1, css_all r h.2⟩
end
theorem cb_all (x : Bl) (h : x.good) : CBw D F NS x := sy_block D F NS hN x h (css_all D F NS hN x h)
end
theorem sge_dec (d : Dec) : SgE (wDec d) := by unfold wDec; exact (SgE.one (s := [59]) rfl).app (by simp)
theorem sge_fn (f : Fn) : SgE (wFn f) := by unfold wFn; exact (sge_blk f.body).app (by simp [wBlock])
theorem jl_dec (d : Dec) (v : List Str) : joinR [] (wDec d ++ v) = joinR [] (wDec d) ++ joinR [] v := joinR_cat _ _ _ (sge_dec d) fun _ => rfl
theorem jl_fn (f : Fn) (v : List Str) : joinR [] (wFn f ++ v) = joinR [] (wFn f) ++ joinR [] v := joinR_cat _ _ _ (sge_fn f) fun _ => rfl
theorem kind_long {k : Int} (h : 0 ≤ k ∧ k ≤ 3) : longR (kindS k) = true ∧ (kindS k).length ≤ 5 := by
 rcases (show k = 0 ∨ k = 1 ∨ k = 2 ∨ k = 3 by omega) with rfl | rfl | rfl | rfl <;> decide
theorem txt_dec {d : Dec} (h : d.good) : joinR [] (wDec d) = kindS d.kind ++ [32] ++ d.name ++ (if d.n = 0 then [] else [61] ++ Lib.itoa d.n) ++ [59] := by
 have h1 := (kind_long h.kind).1
 have h2 := name_long h.name
 have e : joinR [] [kindS d.kind, d.name] = kindS d.kind ++ [32] ++ d.name := by rw [joinR_c, joinR_c, longR_nil, h1, h2]; simp [joinR]
 rw [wDec, joinR_end _ _ [59] rfl]
 by_cases h0 : d.n = 0
 · rw [if_neg (by simpa using h0), if_pos h0, List.append_nil, e]; simp
 · rw [if_pos h0, if_neg h0]
   show joinR [] ([kindS d.kind, d.name] ++ [61] :: [Lib.itoa d.n]) ++ _ = _
   rw [joinR_mid _ _ [61] _ rfl, e, joinR_1]
def txArgs (l : List Str) (j : Nat) : Str := if j = 0 then joinR [] (wStrs l ++ [[41]]) else joinR [] ((l.flatMap fun s => [[44], s]) ++ [[41]])
theorem txt_fn (f : Fn) (h : NameOk f.name) : joinR [] (wFn f) = sFunc ++ [32] ++ f.name ++ [40] ++ joinR [] (wStrs f.args ++ [[41]]) ++ joinR [] (wBlock f.body) := by
 have e : joinR [] [sFunc, f.name] = sFunc ++ [32] ++ f.name := by
   rw [joinR_c, joinR_c, longR_nil, show longR sFunc = true by decide, name_long h]; simp [joinR]
 have e2 : [sFunc, f.name, [40]] ++ wStrs f.args ++ [[41]] = [sFunc, f.name] ++ [40] :: (wStrs f.args ++ [[41]]) := by simp
 rw [wFn, joinR_blk, e2, joinR_mid _ _ [40] _ rfl, e]
 simp
theorem tx_nil (j : Nat) : txArgs [] j = [41] := by unfold txArgs; split <;> rfl
theorem tx_comma (s : Str) (u : List Str) (l : List Str) : joinR [] (u ++ ((l.flatMap fun s => [[44], s]) ++ [[41]])) = joinR [] u ++ joinR [] ((l.flatMap fun s => [[44], s]) ++ [[41]]) := by
 cases l with
 | nil => exact joinR_mid u [] [41] [] rfl
 | cons x l =>
   show joinR [] (u ++ [44] :: ([x] ++ (l.flatMap fun s => [[44], s]) ++ [[41]])) = _ ++ joinR [] ([44] :: ([x] ++ (l.flatMap fun s => [[44], s]) ++ [[41]]))
   rw [joinR_mid u [] [44] _ rfl, joinR_s0 (s := [44]) rfl]
theorem tx_cons (s : Str) (l : List Str) (j : Nat) : txArgs (s :: l) j = (if j = 0 then [] else [44]) ++ (s ++ txArgs l (j + 1)) := by
 have e : joinR [] ([s] ++ ((l.flatMap fun s => [[44], s]) ++ [[41]])) = s ++ txArgs l (j + 1) := by
   rw [tx_comma s, joinR_1, txArgs, if_neg (by omega)]
 unfold txArgs at e ⊢
 by_cases h : j = 0
 · rw [if_pos h, if_pos h, ← e]; simp [wStrs]
 · rw [if_neg h, if_neg h, ← e, ← joinR_s0 (s := [44]) rfl]; simp
theorem s_ref05_Text (ds : List Dec) (fs : List Fn) (hN : sizeF fs < 100000) (hg : (∀ d ∈ ds, d.good) ∧ ∀ f ∈ fs, f.good) (hT : (joinR [] (wProg (ds, fs))).length ≤ 1000000) (hl1 : ds.length < 1000000) (hl2 : fs.length < 1000000) (hl3 : ∀ f ∈ fs, f.args.length < 1000000) :
   Ret P0 n_ref05_Text [pgD (pgOf (ds, fs))] (.str (joinR [] (wProg (ds, fs)))) := by
 have e0 : pgD (pgOf (ds, fs)) = PD (ds.map decL) ((funsF fs 0).map fuL) (nodesF fs 0) := by
   show Dat.agg [_, _, .slice 5 (((nodesF fs 0).map Nod.nd).map ndL) false] = _
   rw [List.map_map]; rfl
 have hNl : (nodesF fs 0).length < 100000 := by rw [nodesF_len]; exact hN
 have hcb := fun x hx => cb_all (ds.map decL) ((funsF fs 0).map fuL) (nodesF fs 0) hNl x hx
 have hfa := fun_at fs
 have hfl := funsF_len fs 0
 rw [e0]
 have hT0 : joinR [] (wProg (ds, fs)) = joinR [] (ds.flatMap wDec ++ fs.flatMap wFn) := rfl
 rw [hT0] at hT ⊢
 generalize hTT : joinR [] (ds.flatMap wDec ++ fs.flatMap wFn) = T at *
 have hm : (ds.map decL).length = ds.length := by simp
 have hm2 : ((funsF fs 0).map fuL).length = fs.length := by rw [List.length_map, hfl]
 have hde : ∀ j (h : j < ds.length), (ds.map decL)[((j : Nat) : Int).toNat]? = some (decL ds[j]) := fun j h => by
   rw [show ((j : Nat) : Int).toNat = j by omega, map_get _ _ _ h]
 have hfe : ∀ j (h : j < fs.length), ((funsF fs 0).map fuL)[((j : Nat) : Int).toNat]? = some (fuL ⟨fs[j].name, fs[j].args, ((sizeF (fs.take j) + fs[j].body.sz : Nat) : Int)⟩) := fun j h => by
   rw [show ((j : Nat) : Int).toNat = j by omega, List.getElem?_map, (hfa j h).1]; rfl
 unfold CBw PD at hcb
 unfold PD
 generalize hNN : nsL (nodesF fs 0) = N at *
 generalize (ds.map decL) = D at *
 generalize ((funsF fs 0).map fuL) = F at *
 clear e0 hT0
 refine Ret_by is_ref05_Text rfl ?_
 ((repeat' first|refine aw ?_|refine bw (fun _=>?_) fun _=>?_))
 refine WT_loop (fun ((j, X) : Nat × Str) => ⟨[(5, .d (I j)), (4, .d (.str X)), (3, .d (Dat.slice 1 [[Dat.str [99, 101, 108, 108]], [Dat.str [109, 97, 112]], [Dat.str [115, 116, 97, 99, 107]], [Dat.str [99, 104, 97, 110]]] true)), (1, .ptr 0 0)], [(0, .var [.d (Dat.slice 3 D false), .d (Dat.slice 3 F false), .d (Dat.slice 5 N false)])], 1, [], 0⟩)
   (fun (j, X) => X ++ joinR [] ((ds.drop j).flatMap wDec ++ fs.flatMap wFn) = T ∧ j ≤ ds.length) (fun (j, _) => ds.length - j) (0, []) (by exact Uw.wW) ⟨hTT, Nat.zero_le _⟩ ?_
 clear hTT
 rintro ⟨j, X⟩ ⟨h5, h6⟩
 by_cases hj : j < ds.length
 · have hd := hg.1 ds[j] (List.getElem_mem hj)
   have he := hde j hj
   have hdig := digits_num hd.n
   have htx := txt_dec hd
   rw [List.drop_eq_getElem_cons hj, List.flatMap_cons, List.append_assoc, jl_dec, htx] at h5
   generalize hY : joinR [] ((ds.drop (j + 1)).flatMap wDec ++ fs.flatMap wFn) = Y at *
   generalize ds[j] = d at *
   obtain ⟨k, nm, n⟩ := d
   have hk := hd.kind
   have hnm := name_12 hd.name
   have hkl := (kind_long hd.kind).2
   simp only at hk hnm hkl
   have hn1 := sh_num hd.n _ (List.mem_singleton_self _)
   simp only at hn1 hdig h5
   have hke : ([[Dat.str [99, 101, 108, 108]], [Dat.str [109, 97, 112]], [Dat.str [115, 116, 97, 99, 107]], [Dat.str [99, 104, 97, 110]]] : List (List Dat))[k.toNat]? = some [Dat.str (kindS k)] := by
     rcases (show k = 0 ∨ k = 1 ∨ k = 2 ∨ k = 3 by omega) with rfl | rfl | rfl | rfl <;> rfl
   have hX : X.length ≤ 1000000 := by rw [← h5, List.length_append] at hT; omega
   clear hd htx hde hfe hcb hfa
   generalize kindS k = ks at *
   have l1 : (X ++ ks).length ≤ 1000005 := by rw [List.length_append]; omega
   have l2 : (X ++ ks ++ [32]).length ≤ 1000006 := by rw [List.length_append, List.length_singleton]; omega
   have l3 : (X ++ ks ++ [32] ++ nm).length ≤ 1000018 := by rw [List.length_append]; omega
   have l4 : (X ++ ks ++ [32] ++ nm ++ [61]).length ≤ 1000019 := by rw [List.length_append, List.length_singleton]; omega
   have l5 : (X ++ ks ++ [32] ++ nm ++ [61] ++ Lib.itoa n).length ≤ 1000031 := by rw [List.length_append]; omega
   generalize Lib.itoa n = ti at *
   by_cases h0 : n = 0
   · rw [if_pos h0] at h5
     ((repeat' first|refine aw ?_|refine bw (fun _=>?_) fun _=>?_))
     exact WT_again (j + 1, X ++ ks ++ [32] ++ nm ++ [59]) ⟨by rw [hY, ← h5]; simp, by omega⟩ (by simp only; omega) (by exact Uw.wW)
   · rw [if_neg h0] at h5
     ((repeat' first|refine aw ?_|refine bw (fun _=>?_) fun _=>?_))
     exact WT_again (j + 1, X ++ ks ++ [32] ++ nm ++ [61] ++ ti ++ [59]) ⟨by rw [hY, ← h5]; simp, by omega⟩ (by simp only; omega) (by exact Uw.wW)
 · have hj0 : j = ds.length := by omega
   subst hj0
   rw [List.drop_length] at h5
   have h5 : X ++ joinR [] ((fs.drop 0).flatMap wFn) = T := h5
   ((repeat' first|refine aw ?_|refine bw (fun _=>?_) fun _=>?_))
   refine WT_break ?_
   ((repeat' first|refine aw ?_|refine bw (fun _=>?_) fun _=>?_))
   refine WT_loop (fun ((j, X) : Nat × Str) => ⟨[(7, .d (I j)), (4, .d (.str X)), (1, .ptr 0 0)], [(0, .var [.d (Dat.slice 3 D false), .d (Dat.slice 3 F false), .d (Dat.slice 5 N false)])], 1, [], 0⟩)
     (fun (j, X) => X ++ joinR [] ((fs.drop j).flatMap wFn) = T ∧ j ≤ fs.length) (fun (j, _) => fs.length - j) (0, X) (by exact Uw.wW) ⟨h5, Nat.zero_le _⟩ ?_
   clear h5 h6 hde
   rintro ⟨j, X⟩ ⟨h5, h6⟩
   by_cases hj : j < fs.length
   · have hf := hg.2 fs[j] (List.getElem_mem hj)
     have he := hfe j hj
     have hsay := hcb fs[j].body hf.body (sizeF (fs.take j)) (hfa j hj).2
     have htx := txt_fn fs[j] hf.name
     rw [List.drop_eq_getElem_cons hj, List.flatMap_cons, jl_fn, htx] at h5
     generalize hY : joinR [] ((fs.drop (j + 1)).flatMap wFn) = Y at *
     have hal2 := hl3 fs[j] (List.getElem_mem hj)
     generalize sizeF (fs.take j) + fs[j].body.sz = q at *
     have hnm := name_12 hf.name
     have hal := hf.args
     generalize fs[j].name = nm at *
     generalize fs[j].args = al at *
     generalize joinR [] (wBlock fs[j].body) = B at *
     clear hf htx hfe hcb hfa
     have hX : X.length ≤ 1000000 := by rw [← h5, List.length_append] at hT; omega
     unfold sFunc at h5
     have l1 : (X ++ [102, 117, 110, 99, 32]).length ≤ 1000005 := by rw [List.length_append]; exact Nat.add_le_add_right hX 5
     have l2 : (X ++ [102, 117, 110, 99, 32] ++ nm).length ≤ 1000017 := by rw [List.length_append]; omega
     have l0 : X.length + 5 ≤ 1000005 := by omega
     have hal3 : (al.map fun s => [Dat.str s]).length = al.length := by simp
     have l3 : X ++ [102, 117, 110, 99, 32] ++ nm ++ [40] ++ (txArgs al 0 ++ (B ++ Y)) = T := by rw [← h5, txArgs, if_pos rfl]; simp
     have hY2 := hY
     clear h5 hY
     ((repeat' first|refine aw ?_|refine bw (fun _=>?_) fun _=>?_))
     refine WT_loop (fun ((i, Z) : Nat × Str) => ⟨[(9, .d (I i)), (4, .d (.str Z)), (8, .ptr 1 0), (7, .d (I j)), (1, .ptr 0 0)], [(1, .var [.d (.str nm), .d (strsC al), .d (I q)]), (0, .var [.d (Dat.slice 3 D false), .d (Dat.slice 3 F false), .d (Dat.slice 5 N false)])], 2, [], 0⟩)
       (fun (i, Z) => Z ++ (txArgs (al.drop i) i ++ (B ++ Y)) = T ∧ i ≤ al.length) (fun (i, _) => al.length - i) (0, X ++ [102, 117, 110, 99, 32] ++ nm ++ [40]) (by exact Uw.wW) ⟨l3, Nat.zero_le _⟩ ?_
     clear l3 l1 l2 l0 hX
     rintro ⟨i, Z⟩ ⟨g5, g6⟩
     by_cases hi : i < al.length
     · have he := map_get (fun s => [Dat.str s]) al i hi
       have he' : (al.map fun s => [Dat.str s])[((i : Nat) : Int).toNat]? = some [Dat.str al[i]] := by rw [show ((i : Nat) : Int).toNat = i by omega]; exact he
       have ha12 := name_12 (hal al[i] (List.getElem_mem hi))
       rw [List.drop_eq_getElem_cons hi, tx_cons] at g5
       generalize al[i] = a at *
       have hZ : Z.length ≤ 1000000 := by rw [← g5, List.length_append] at hT; omega
       clear he hal hsay
       by_cases h0 : i = 0
       · rw [if_pos h0] at g5
         ((repeat' first|refine aw ?_|refine bw (fun _=>?_) fun _=>?_))
         exact WT_again (i + 1, Z ++ a) ⟨by rw [← g5]; simp, by omega⟩ (by simp only; omega) (by exact Uw.wW)
       · rw [if_neg h0] at g5
         have l1 : (Z ++ [44]).length ≤ 1000001 := by rw [List.length_append, List.length_singleton]; omega
         have l0 : Z.length + 1 ≤ 1000001 := by omega
         ((repeat' first|refine aw ?_|refine bw (fun _=>?_) fun _=>?_))
         exact WT_again (i + 1, Z ++ [44] ++ a) ⟨by rw [← g5]; simp, by omega⟩ (by simp only; omega) (by exact Uw.wW)
     · have hi0 : i = al.length := by omega
       subst hi0
       rw [List.drop_length, tx_nil] at g5
       have hZ : Z.length ≤ 1000000 := by rw [← g5, List.length_append] at hT; omega
       have l0 : Z.length + 1 ≤ 1000001 := by omega
       have l1 : (Z ++ [41]).length ≤ 1000001 := by rw [List.length_append, List.length_singleton]; omega
       have l2 : B.length ≤ 1000000 := by rw [← g5] at hT; simp only [List.length_append] at hT; omega
       repeat refine aw ?_
       refine WT_break ?_
       repeat refine aw ?_
       exact WT_again (j + 1, Z ++ [41] ++ B) ⟨by rw [hY2, ← g5]; simp, by omega⟩ (by simp only; omega) (by exact Uw.wW)
   · have hj0 : j = fs.length := by omega
     subst hj0
     rw [List.drop_length] at h5
     have h5 : X = T := by rw [← h5]; simp [joinR]
     subst h5
     ((repeat' first|refine aw ?_|refine bw (fun _=>?_) fun _=>?_))
     refine WT_break ?_
     ((repeat' first|refine aw ?_|refine bw (fun _=>?_) fun _=>?_))
     exact WT_ret rfl rfl rfl rfl rfl
end Uw.Tryz
