/- Nw: Sw (merged by merge2.py from the working texts). -/
import Derived.Test.YtkfgbbkcjaalkaaDoorNb
set_option linter.unusedSimpArgs false
set_option linter.unnecessarySimpa false
set_option linter.unusedVariables false
set_option linter.unusedSectionVars false

/- TURNS. -/
set_option linter.unusedVariables false
set_option linter.unusedSimpArgs false
namespace Uw.Tryd
open Go Uw Go.Proofs Go.RowKit

theorem alives_count (on : List Bool) : ∀ k, k ≤ on.length → ((List.range k).filter fun i => on.getD i false).length = ((on.take k).filter id).length
  | 0, _ => rfl
  | k + 1, h => by
    have hk : k < on.length := by omega
    have hg : on.getD k false = on[k] := by simp [List.getD, hk]
    rw [List.range_succ, take_one on k hk, List.filter_append, List.filter_append, List.length_append, List.length_append, alives_count on k (by omega)]
    cases hb : on[k] <;> simp [List.getD, hk, hb]

/-- Three times round. -/
def three (L : List Nat) : List Nat := L ++ (L ++ L)

theorem three_per (L : List Nat) (k : Nat) (h : k < 2 * L.length) : (three L)[k + L.length]? = (three L)[k]? := by
  rw [three, Nat.add_comm, List.getElem?_append_right (by omega), Nat.add_sub_cancel_left]
  by_cases hk : k < L.length
  · rw [List.getElem?_append_left hk, List.getElem?_append_left hk]
  · rw [List.getElem?_append_right (by omega), List.getElem?_append_right (l₁ := L) (by omega), List.getElem?_append_left (by omega)]

theorem turn_next (A : List Nat) (hA : A.Pairwise (· < ·)) (L : List Nat) (x k : Nat) (hk : k < 2 * L.length) (hC : rot A x = ((three L).drop k).take L.length) : ∃ y, (three L)[k]? = some y ∧ (rot A x).head? = some y ∧ rot A y = ((three L).drop (k + 1)).take L.length := by
  have hlen : (three L).length = 3 * L.length := by simp [three]; omega
  have hkl : k < (three L).length := by omega
  refine ⟨(three L)[k], by simp [hkl], ?_, ?_⟩
  · rw [hC, List.drop_eq_getElem_cons hkl, show L.length = (L.length - 1) + 1 by omega, List.take_succ_cons]; rfl
  · have e : rot A x = (three L)[k] :: ((three L).drop (k + 1)).take (L.length - 1) := by
      rw [hC, List.drop_eq_getElem_cons hkl]
      conv => lhs; rw [show L.length = (L.length - 1) + 1 by omega, List.take_succ_cons]
    rw [rot_next A x _ _ hA e]
    have hp := three_per L k hk
    rw [List.getElem?_eq_getElem hkl] at hp
    have h2 : ((three L).drop (k + 1))[L.length - 1]? = some (three L)[k] := by
      rw [List.getElem?_drop, show k + 1 + (L.length - 1) = k + L.length by omega, hp]
    have hlt : L.length - 1 < ((three L).drop (k + 1)).length := by rw [List.length_drop]; omega
    rw [List.getElem?_eq_getElem hlt] at h2
    injection h2 with h2
    conv => rhs; rw [show L.length = (L.length - 1) + 1 by omega, take_one _ _ hlt, h2]

theorem l_ScriptTurns (on : List Bool) (last : Int) (hla : -9223372036854775808 ≤ last ∧ last < 9223372036854775808) : Ret P0 n_law29_ScriptTurns [boolsD on, I last] (.bool true) := by
  by_cases hc : 100 < on.length
  · refine Ret_by is_law29_ScriptTurns rfl ?_
    refine WT_t (by simp; omega) ?_
    refine WT_call _ s_alive ?_
    exact WT_ret (P := P0) rfl rfl rfl rfl rfl
  · refine Ret_by is_law29_ScriptTurns rfl ?_
    refine WT_f (by simp; omega) ?_
    refine WT_loop (fun z : Nat × Nat => ⟨[(20, .d (I z.1)), (19, .d (I (on.map fun b => [Dat.bool b]).length)), (18, .d (boolsD on)), (5, .d (I z.2)), (0, .d (boolsD on)), (1, .d (I last))], [], 0, [], 0⟩)
      (fun z => z.1 ≤ on.length ∧ z.2 = ((on.take z.1).filter id).length) (fun z => on.length - z.1) (0, 0) (by ((refine Weak.of ?_ ?_ rfl rfl ?_ rfl rfl <;> repeat' first | exact trivial | refine ⟨⟨_, rfl, Or.inl ⟨rfl, rfl⟩⟩, ?_⟩ | refine ⟨⟨_, rfl, Or.inr (Or.inl ⟨rfl, by first | exact ⟨_, _, rfl, rfl, Or.inl rfl⟩ | exact ⟨_, _, rfl, rfl, Or.inr rfl⟩⟩)⟩, ?_⟩ | refine ⟨⟨_, rfl, Or.inr (Or.inr rfl)⟩, ?_⟩ | refine ⟨⟨_, rfl, VW_int (by assumption)⟩, ?_⟩ | refine ⟨⟨Or.inl ⟨_, rfl, ⟨rfl, rfl⟩⟩, rfl⟩, ?_⟩ | refine ⟨⟨Or.inl ⟨_, rfl, ⟨rfl, rfl, rfl⟩⟩, rfl⟩, ?_⟩ | refine ⟨⟨Or.inl ⟨_, rfl, BSim_by rfl rfl⟩, rfl⟩, ?_⟩ | refine ⟨⟨Or.inr ⟨rfl, rfl⟩, rfl⟩, ?_⟩ | refine ⟨⟨Or.inr ⟨rfl, rfl, rfl⟩, rfl⟩, ?_⟩))) (by simp) ?_
    rintro ⟨k, many⟩ ⟨h1, h2⟩
    simp only at h1 h2
    have hm : many ≤ k := by rw [h2]; exact Nat.le_trans (List.length_filter_le ..) (by simp; omega)
    refine WT_test (fun h3 => ?_) (fun h3 => ?_)
    · have h3 : k < on.length := by simpa using h3
      (repeat first | refine WT_inR (by simp [inR]; omega) ?_ | refine WT_t rfl ?_ | refine WT_f rfl ?_ | refine WT_guard (by first | (simp [inR]; done) | (simp [inR]; omega)) ?_ | refine WT_elem _ (map_get _ _ _ (by first | assumption | omega)) ?_)
      refine WT_test (fun h4 => ?_) (fun h4 => ?_)
      · have h4 : on[k] = true := by simpa using h4
        (repeat first | refine WT_inR (by simp [inR]; omega) ?_ | refine WT_t rfl ?_ | refine WT_f rfl ?_ | refine WT_guard (by first | (simp [inR]; done) | (simp [inR]; omega)) ?_ | refine WT_elem _ (map_get _ _ _ (by first | assumption | omega)) ?_)
        refine WT_again (k + 1, many + 1) ⟨by simp; omega, ?_⟩ (by simp; omega) (by ((refine Weak.of ?_ ?_ rfl rfl ?_ rfl rfl <;> repeat' first | exact trivial | refine ⟨⟨_, rfl, Or.inl ⟨rfl, rfl⟩⟩, ?_⟩ | refine ⟨⟨_, rfl, Or.inr (Or.inl ⟨rfl, by first | exact ⟨_, _, rfl, rfl, Or.inl rfl⟩ | exact ⟨_, _, rfl, rfl, Or.inr rfl⟩⟩)⟩, ?_⟩ | refine ⟨⟨_, rfl, Or.inr (Or.inr rfl)⟩, ?_⟩ | refine ⟨⟨_, rfl, VW_int (by assumption)⟩, ?_⟩ | refine ⟨⟨Or.inl ⟨_, rfl, ⟨rfl, rfl⟩⟩, rfl⟩, ?_⟩ | refine ⟨⟨Or.inl ⟨_, rfl, ⟨rfl, rfl, rfl⟩⟩, rfl⟩, ?_⟩ | refine ⟨⟨Or.inl ⟨_, rfl, BSim_by rfl rfl⟩, rfl⟩, ?_⟩ | refine ⟨⟨Or.inr ⟨rfl, rfl⟩, rfl⟩, ?_⟩ | refine ⟨⟨Or.inr ⟨rfl, rfl, rfl⟩, rfl⟩, ?_⟩)))
        simp only; rw [take_one on k h3, List.filter_append, List.length_append, h2]; simp [h4]
      · have h4 : on[k] = false := by simpa using h4
        (repeat first | refine WT_inR (by simp [inR]; omega) ?_ | refine WT_t rfl ?_ | refine WT_f rfl ?_ | refine WT_guard (by first | (simp [inR]; done) | (simp [inR]; omega)) ?_ | refine WT_elem _ (map_get _ _ _ (by first | assumption | omega)) ?_)
        refine WT_again (k + 1, many) ⟨by simp; omega, ?_⟩ (by simp; omega) (by ((refine Weak.of ?_ ?_ rfl rfl ?_ rfl rfl <;> repeat' first | exact trivial | refine ⟨⟨_, rfl, Or.inl ⟨rfl, rfl⟩⟩, ?_⟩ | refine ⟨⟨_, rfl, Or.inr (Or.inl ⟨rfl, by first | exact ⟨_, _, rfl, rfl, Or.inl rfl⟩ | exact ⟨_, _, rfl, rfl, Or.inr rfl⟩⟩)⟩, ?_⟩ | refine ⟨⟨_, rfl, Or.inr (Or.inr rfl)⟩, ?_⟩ | refine ⟨⟨_, rfl, VW_int (by assumption)⟩, ?_⟩ | refine ⟨⟨Or.inl ⟨_, rfl, ⟨rfl, rfl⟩⟩, rfl⟩, ?_⟩ | refine ⟨⟨Or.inl ⟨_, rfl, ⟨rfl, rfl, rfl⟩⟩, rfl⟩, ?_⟩ | refine ⟨⟨Or.inl ⟨_, rfl, BSim_by rfl rfl⟩, rfl⟩, ?_⟩ | refine ⟨⟨Or.inr ⟨rfl, rfl⟩, rfl⟩, ?_⟩ | refine ⟨⟨Or.inr ⟨rfl, rfl, rfl⟩, rfl⟩, ?_⟩)))
        simp only; rw [take_one on k h3, List.filter_append, List.length_append, h2]; simp [h4]
    · refine WT_break ?_
      have h3 : k = on.length := by simp at h3; omega
      rw [h3] at h2 hm
      have hA := alives_sorted on
      have hmA : many = (alives on).length := by rw [h2, alives, alives_count on on.length (Nat.le_refl _)]
      have hLm : (rot (alives on) (lastOf on.length last)).length = many := by rw [rot_len _ _ hA, hmA]
      generalize hL0 : rot (alives on) (lastOf on.length last) = L at hLm
      have hmemL : ∀ i, i ∈ L ↔ i < on.length ∧ on.getD i false = true := by intro i; rw [← hL0, mem_rot, mem_alives]
      have hnd : L.Nodup := by rw [← hL0]; exact rot_nodup _ _ hA
      have h3l : (three L).length = 3 * many := by simp [three, hLm]; omega
      (repeat first | refine WT_inR (by simp [inR]; omega) ?_ | refine WT_t rfl ?_ | refine WT_f rfl ?_ | refine WT_guard (by first | (simp [inR]; done) | (simp [inR]; omega)) ?_ | refine WT_elem _ (map_get _ _ _ (by first | assumption | omega)) ?_)
      refine WT_loop (fun z : Nat × Int × Int × List (List Dat) => ⟨[(34, .d (I z.1)), (33, .d (I (2 * many))), (10, .d (I z.2.1)), (9, .d (I z.2.2.1)), (8, .ref 0 0 0 (on.map fun b => [Dat.bool b]).length), (5, .d (I many)), (0, .d (boolsD on)), (1, .d (I last))], [(0, .mt 1 0 z.2.2.2)], 1, [], 0⟩)
        (fun z => z.1 ≤ 2 * many ∧ (z.1 ≠ 0 → ∃ y : Nat, (three L)[0]? = some y ∧ z.2.1 = (y : Int)) ∧ rot (alives on) (lastOf on.length z.2.2.1) = ((three L).drop z.1).take many ∧ z.2.2.2 = (List.range on.length).map (fun (i : Nat) => [I (((three L).take z.1).count i : Nat)])) (fun z => 2 * many - z.1) (0, -1, last, List.replicate (on.map fun b => [Dat.bool b]).length [I 0]) (by ((refine Weak.of ?_ ?_ rfl rfl ?_ rfl rfl <;> repeat' first | exact trivial | refine ⟨⟨_, rfl, Or.inl ⟨rfl, rfl⟩⟩, ?_⟩ | refine ⟨⟨_, rfl, Or.inr (Or.inl ⟨rfl, by first | exact ⟨_, _, rfl, rfl, Or.inl rfl⟩ | exact ⟨_, _, rfl, rfl, Or.inr rfl⟩⟩)⟩, ?_⟩ | refine ⟨⟨_, rfl, Or.inr (Or.inr rfl)⟩, ?_⟩ | refine ⟨⟨_, rfl, VW_int (by assumption)⟩, ?_⟩ | refine ⟨⟨Or.inl ⟨_, rfl, ⟨rfl, rfl⟩⟩, rfl⟩, ?_⟩ | refine ⟨⟨Or.inl ⟨_, rfl, ⟨rfl, rfl, rfl⟩⟩, rfl⟩, ?_⟩ | refine ⟨⟨Or.inl ⟨_, rfl, BSim_by rfl rfl⟩, rfl⟩, ?_⟩ | refine ⟨⟨Or.inr ⟨rfl, rfl⟩, rfl⟩, ?_⟩ | refine ⟨⟨Or.inr ⟨rfl, rfl, rfl⟩, rfl⟩, ?_⟩))) ⟨by omega, by simp, by simp [three, hL0, ← hLm], ?_⟩ ?_
      · simp only
        apply List.ext_getElem?
        intro i
        by_cases hi : i < on.length
        · simp [hi, List.getElem?_replicate]
        · simp [hi, List.getElem?_replicate]
      rintro ⟨j, fst, at_, had⟩ ⟨g1, g2, g3, g4⟩
      simp only at g1 g2 g3 g4
      refine WT_test (fun g5 => ?_) (fun g5 => ?_)
      · have g5 : j < 2 * many := by simp at g5; omega
        obtain ⟨y, y1, y2, y3⟩ := turn_next (alives on) hA L (lastOf on.length at_) j (by omega) (by rw [hLm]; exact g3)
        have hn := s_script_Next on at_ (by omega)
        rw [show next on at_ = (y : Int) by rw [next, nextO_rot, y2]] at hn
        have hyL : y ∈ L := by
          have : y ∈ three L := List.mem_of_getElem? y1
          simp [three] at this; exact this
        have hyn := (hmemL y).1 hyL
        have hyo : on[y] = true := by
          have := hyn.2
          simpa [List.getD, hyn.1] using this
        have hel : (on.map fun b => [Dat.bool b])[y]? = some [Dat.bool true] := by simp [hyn.1, hyo]
        have hcnt : ((three L).take (j + 1)).count y = ((three L).take j).count y + 1 := by
          have hjl : j < (three L).length := by omega
          rw [take_one _ j hjl, List.count_append]
          have : (three L)[j] = y := by rw [List.getElem?_eq_getElem hjl] at y1; simpa using y1
          rw [this]; simp
        have hcnt2 : ∀ i, i ≠ y → ((three L).take (j + 1)).count i = ((three L).take j).count i := by
          intro i hi
          have hjl : j < (three L).length := by omega
          rw [take_one _ j hjl, List.count_append]
          have : (three L)[j] = y := by rw [List.getElem?_eq_getElem hjl] at y1; simpa using y1
          rw [this, List.count_singleton]
          have hi' : ¬ y = i := fun h => hi h.symm
          simp [hi']
        have hhad : had[0 + y]? = some [I (((three L).take j).count y : Nat)] := by rw [Nat.zero_add, g4]; simp [hyn.1]
        have hcb : ((three L).take j).count y ≤ 400 := Nat.le_trans (List.count_le_length) (by simp; omega)
        have hset : had.set (0 + y) [I ((((three L).take j).count y : Nat) + 1)] = (List.range on.length).map (fun (i : Nat) => [I (((three L).take (j + 1)).count i : Nat)]) := by
          rw [Nat.zero_add, g4]
          apply List.ext_getElem?
          intro i
          rw [List.getElem?_set]
          by_cases hi : y = i
          · subst hi; simp [hyn.1, hcnt]
          · rw [if_neg hi]
            by_cases hin : i < on.length
            · simp [hin, hcnt2 i (fun h => hi h.symm)]
            · simp [hin]
        have hat : lastOf on.length (y : Int) = y := by rw [lastOf, if_neg (by omega)]; rfl
        have hrot : rot (alives on) (lastOf on.length (y : Int)) = ((three L).drop (j + 1)).take many := by rw [hat, y3, hLm]
        have hbnd := hyn.1
        (repeat first | refine WT_inR (by simp [inR]; omega) ?_ | refine WT_t rfl ?_ | refine WT_f rfl ?_ | refine WT_guard (by first | (simp [inR]; done) | (simp [inR]; omega)) ?_ | refine WT_elem _ (map_get _ _ _ (by first | assumption | omega)) ?_)
        refine WT_call _ hn ?_
        (repeat first | refine WT_inR (by simp [inR]; omega) ?_ | refine WT_t rfl ?_ | refine WT_f rfl ?_ | refine WT_guard (by first | (simp [inR]; done) | (simp [inR]; omega)) ?_ | refine WT_elem _ (map_get _ _ _ (by first | assumption | omega)) ?_)
        refine WT_t (by simp; omega) ?_
        (repeat first | refine WT_inR (by simp [inR]; omega) ?_ | refine WT_t rfl ?_ | refine WT_f rfl ?_ | refine WT_guard (by first | (simp [inR]; done) | (simp [inR]; omega)) ?_ | refine WT_elem _ (map_get _ _ _ (by first | assumption | omega)) ?_)
        refine WT_f (by show (!on[y]) = false; rw [hyo]; rfl) ?_
        (repeat first | refine WT_inR (by simp [inR]; omega) ?_ | refine WT_t rfl ?_ | refine WT_f rfl ?_ | refine WT_guard (by first | (simp [inR]; done) | (simp [inR]; omega)) ?_ | refine WT_elem _ (map_get _ _ _ (by first | assumption | omega)) ?_)
        refine WT_test (fun f1 => ?_) (fun f1 => ?_)
        · have f1 : j = 0 := by simp at f1; omega
          (repeat first | refine WT_inR (by simp [inR]; omega) ?_ | refine WT_t rfl ?_ | refine WT_f rfl ?_ | refine WT_guard (by first | (simp [inR]; done) | (simp [inR]; omega)) ?_ | refine WT_elem _ (map_get _ _ _ (by first | assumption | omega)) ?_)
          refine WT_test (fun f2 => ?_) (fun f2 => ?_)
          · simp at f2; omega
          · (repeat first | refine WT_inR (by simp [inR]; omega) ?_ | refine WT_t rfl ?_ | refine WT_f rfl ?_ | refine WT_guard (by first | (simp [inR]; done) | (simp [inR]; omega)) ?_ | refine WT_elem _ (map_get _ _ _ (by first | assumption | omega)) ?_)
            refine WT_elem _ hhad ?_
            (repeat first | refine WT_inR (by simp [inR]; omega) ?_ | refine WT_t rfl ?_ | refine WT_f rfl ?_ | refine WT_guard (by first | (simp [inR]; done) | (simp [inR]; omega)) ?_ | refine WT_elem _ (map_get _ _ _ (by first | assumption | omega)) ?_)
            refine WT_elem _ hhad ?_
            (repeat first | refine WT_inR (by simp [inR]; omega) ?_ | refine WT_t rfl ?_ | refine WT_f rfl ?_ | refine WT_guard (by first | (simp [inR]; done) | (simp [inR]; omega)) ?_ | refine WT_elem _ (map_get _ _ _ (by first | assumption | omega)) ?_)
            refine WT_again (j + 1, (y : Int), (y : Int), had.set (0 + y) [I ((((three L).take j).count y : Nat) + 1)]) ⟨by simp only; omega, fun _ => ⟨y, by rw [← f1]; exact y1, rfl⟩, hrot, hset⟩ (by simp only; omega) (by ((refine Weak.of ?_ ?_ rfl rfl ?_ rfl rfl <;> repeat' first | exact trivial | refine ⟨⟨_, rfl, Or.inl ⟨rfl, rfl⟩⟩, ?_⟩ | refine ⟨⟨_, rfl, Or.inr (Or.inl ⟨rfl, by first | exact ⟨_, _, rfl, rfl, Or.inl rfl⟩ | exact ⟨_, _, rfl, rfl, Or.inr rfl⟩⟩)⟩, ?_⟩ | refine ⟨⟨_, rfl, Or.inr (Or.inr rfl)⟩, ?_⟩ | refine ⟨⟨_, rfl, VW_int (by assumption)⟩, ?_⟩ | refine ⟨⟨Or.inl ⟨_, rfl, ⟨rfl, rfl⟩⟩, rfl⟩, ?_⟩ | refine ⟨⟨Or.inl ⟨_, rfl, ⟨rfl, rfl, rfl⟩⟩, rfl⟩, ?_⟩ | refine ⟨⟨Or.inl ⟨_, rfl, BSim_by rfl rfl⟩, rfl⟩, ?_⟩ | refine ⟨⟨Or.inr ⟨rfl, rfl⟩, rfl⟩, ?_⟩ | refine ⟨⟨Or.inr ⟨rfl, rfl, rfl⟩, rfl⟩, ?_⟩)))
        · have f1 : j ≠ 0 := by simp at f1; omega
          have gx := g2 f1
          have fin : ((j + 1, fst, (y : Int), had.set (0 + y) [I ((((three L).take j).count y : Nat) + 1)]).1 ≤ 2 * many ∧ (j + 1 ≠ 0 → ∃ y : Nat, (three L)[0]? = some y ∧ fst = (y : Int)) ∧ rot (alives on) (lastOf on.length (y : Int)) = ((three L).drop (j + 1)).take many ∧ had.set (0 + y) [I ((((three L).take j).count y : Nat) + 1)] = (List.range on.length).map (fun (i : Nat) => [I (((three L).take (j + 1)).count i : Nat)])) := ⟨by simp only; omega, fun _ => gx, hrot, hset⟩
          have heq : j = many → (y : Int) = fst := by
            intro e
            have hp := three_per L 0 (by omega)
            rw [Nat.zero_add, hLm, ← e, y1] at hp
            cases gx with
            | intro z hz =>
              rw [hz.1] at hp
              injection hp with hp
              rw [hz.2, hp]
          (repeat first | refine WT_inR (by simp [inR]; omega) ?_ | refine WT_t rfl ?_ | refine WT_f rfl ?_ | refine WT_guard (by first | (simp [inR]; done) | (simp [inR]; omega)) ?_ | refine WT_elem _ (map_get _ _ _ (by first | assumption | omega)) ?_)
          refine WT_test (fun f2 => ?_) (fun f2 => ?_)
          · have f2 : j = many := by simp at f2; omega
            have heq := heq f2
            (repeat first | refine WT_inR (by simp [inR]; omega) ?_ | refine WT_t rfl ?_ | refine WT_f rfl ?_ | refine WT_guard (by first | (simp [inR]; done) | (simp [inR]; omega)) ?_ | refine WT_elem _ (map_get _ _ _ (by first | assumption | omega)) ?_)
            refine WT_f (by simp [heq]) ?_
            (repeat first | refine WT_inR (by simp [inR]; omega) ?_ | refine WT_t rfl ?_ | refine WT_f rfl ?_ | refine WT_guard (by first | (simp [inR]; done) | (simp [inR]; omega)) ?_ | refine WT_elem _ (map_get _ _ _ (by first | assumption | omega)) ?_)
            refine WT_elem _ hhad ?_
            (repeat first | refine WT_inR (by simp [inR]; omega) ?_ | refine WT_t rfl ?_ | refine WT_f rfl ?_ | refine WT_guard (by first | (simp [inR]; done) | (simp [inR]; omega)) ?_ | refine WT_elem _ (map_get _ _ _ (by first | assumption | omega)) ?_)
            refine WT_elem _ hhad ?_
            (repeat first | refine WT_inR (by simp [inR]; omega) ?_ | refine WT_t rfl ?_ | refine WT_f rfl ?_ | refine WT_guard (by first | (simp [inR]; done) | (simp [inR]; omega)) ?_ | refine WT_elem _ (map_get _ _ _ (by first | assumption | omega)) ?_)
            exact WT_again (j + 1, fst, (y : Int), had.set (0 + y) [I ((((three L).take j).count y : Nat) + 1)]) fin (by simp only; omega) (by ((refine Weak.of ?_ ?_ rfl rfl ?_ rfl rfl <;> repeat' first | exact trivial | refine ⟨⟨_, rfl, Or.inl ⟨rfl, rfl⟩⟩, ?_⟩ | refine ⟨⟨_, rfl, Or.inr (Or.inl ⟨rfl, by first | exact ⟨_, _, rfl, rfl, Or.inl rfl⟩ | exact ⟨_, _, rfl, rfl, Or.inr rfl⟩⟩)⟩, ?_⟩ | refine ⟨⟨_, rfl, Or.inr (Or.inr rfl)⟩, ?_⟩ | refine ⟨⟨_, rfl, VW_int (by assumption)⟩, ?_⟩ | refine ⟨⟨Or.inl ⟨_, rfl, ⟨rfl, rfl⟩⟩, rfl⟩, ?_⟩ | refine ⟨⟨Or.inl ⟨_, rfl, ⟨rfl, rfl, rfl⟩⟩, rfl⟩, ?_⟩ | refine ⟨⟨Or.inl ⟨_, rfl, BSim_by rfl rfl⟩, rfl⟩, ?_⟩ | refine ⟨⟨Or.inr ⟨rfl, rfl⟩, rfl⟩, ?_⟩ | refine ⟨⟨Or.inr ⟨rfl, rfl, rfl⟩, rfl⟩, ?_⟩)))
          · (repeat first | refine WT_inR (by simp [inR]; omega) ?_ | refine WT_t rfl ?_ | refine WT_f rfl ?_ | refine WT_guard (by first | (simp [inR]; done) | (simp [inR]; omega)) ?_ | refine WT_elem _ (map_get _ _ _ (by first | assumption | omega)) ?_)
            refine WT_elem _ hhad ?_
            (repeat first | refine WT_inR (by simp [inR]; omega) ?_ | refine WT_t rfl ?_ | refine WT_f rfl ?_ | refine WT_guard (by first | (simp [inR]; done) | (simp [inR]; omega)) ?_ | refine WT_elem _ (map_get _ _ _ (by first | assumption | omega)) ?_)
            refine WT_elem _ hhad ?_
            (repeat first | refine WT_inR (by simp [inR]; omega) ?_ | refine WT_t rfl ?_ | refine WT_f rfl ?_ | refine WT_guard (by first | (simp [inR]; done) | (simp [inR]; omega)) ?_ | refine WT_elem _ (map_get _ _ _ (by first | assumption | omega)) ?_)
            exact WT_again (j + 1, fst, (y : Int), had.set (0 + y) [I ((((three L).take j).count y : Nat) + 1)]) fin (by simp only; omega) (by ((refine Weak.of ?_ ?_ rfl rfl ?_ rfl rfl <;> repeat' first | exact trivial | refine ⟨⟨_, rfl, Or.inl ⟨rfl, rfl⟩⟩, ?_⟩ | refine ⟨⟨_, rfl, Or.inr (Or.inl ⟨rfl, by first | exact ⟨_, _, rfl, rfl, Or.inl rfl⟩ | exact ⟨_, _, rfl, rfl, Or.inr rfl⟩⟩)⟩, ?_⟩ | refine ⟨⟨_, rfl, Or.inr (Or.inr rfl)⟩, ?_⟩ | refine ⟨⟨_, rfl, VW_int (by assumption)⟩, ?_⟩ | refine ⟨⟨Or.inl ⟨_, rfl, ⟨rfl, rfl⟩⟩, rfl⟩, ?_⟩ | refine ⟨⟨Or.inl ⟨_, rfl, ⟨rfl, rfl, rfl⟩⟩, rfl⟩, ?_⟩ | refine ⟨⟨Or.inl ⟨_, rfl, BSim_by rfl rfl⟩, rfl⟩, ?_⟩ | refine ⟨⟨Or.inr ⟨rfl, rfl⟩, rfl⟩, ?_⟩ | refine ⟨⟨Or.inr ⟨rfl, rfl, rfl⟩, rfl⟩, ?_⟩)))
      · refine WT_break ?_
        have g5 : j = 2 * many := by simp at g5; omega
        have htk : (three L).take j = L ++ L := by
          rw [g5, three, ← List.append_assoc, List.take_append_of_le_length (by simp; omega), List.take_of_length_le (by simp; omega)]
        rw [htk] at g4
        have hel : ∀ i : Nat, i < on.length → had[0 + i]? = some [I ((L ++ L).count i : Nat)] := by
          intro i hi; rw [Nat.zero_add, g4]; simp [hi]
        have htwo : ∀ i : Nat, i < on.length → on.getD i false = true → (L ++ L).count i = 2 := by
          intro i hi h
          have hm := (hmemL i).2 ⟨hi, h⟩
          rw [List.count_append, hnd.count, if_pos hm]
        have hnx := s_script_Next on last (by omega)
        have hnn : many = 0 → next on last = -1 := by
          intro e
          have : L = [] := List.length_eq_zero_iff.1 (by omega)
          rw [next, nextO_rot, hL0, this]; rfl
        (repeat first | refine WT_inR (by simp [inR]; omega) ?_ | refine WT_t rfl ?_ | refine WT_f rfl ?_ | refine WT_guard (by first | (simp [inR]; done) | (simp [inR]; omega)) ?_ | refine WT_elem _ (map_get _ _ _ (by first | assumption | omega)) ?_)
        refine WT_loop (fun i : Nat => ⟨[(75, .d (I i)), (74, .d (I (on.map fun b => [Dat.bool b]).length)), (73, .ref 0 0 0 (on.map fun b => [Dat.bool b]).length), (5, .d (I many)), (0, .d (boolsD on)), (1, .d (I last))], [(0, .mt 1 0 had)], 1, [], 0⟩)
          (fun i => i ≤ on.length) (fun i => on.length - i) 0 (by ((refine Weak.of ?_ ?_ rfl rfl ?_ rfl rfl <;> repeat' first | exact trivial | refine ⟨⟨_, rfl, Or.inl ⟨rfl, rfl⟩⟩, ?_⟩ | refine ⟨⟨_, rfl, Or.inr (Or.inl ⟨rfl, by first | exact ⟨_, _, rfl, rfl, Or.inl rfl⟩ | exact ⟨_, _, rfl, rfl, Or.inr rfl⟩⟩)⟩, ?_⟩ | refine ⟨⟨_, rfl, Or.inr (Or.inr rfl)⟩, ?_⟩ | refine ⟨⟨_, rfl, VW_int (by assumption)⟩, ?_⟩ | refine ⟨⟨Or.inl ⟨_, rfl, ⟨rfl, rfl⟩⟩, rfl⟩, ?_⟩ | refine ⟨⟨Or.inl ⟨_, rfl, ⟨rfl, rfl, rfl⟩⟩, rfl⟩, ?_⟩ | refine ⟨⟨Or.inl ⟨_, rfl, BSim_by rfl rfl⟩, rfl⟩, ?_⟩ | refine ⟨⟨Or.inr ⟨rfl, rfl⟩, rfl⟩, ?_⟩ | refine ⟨⟨Or.inr ⟨rfl, rfl, rfl⟩, rfl⟩, ?_⟩))) (by simp) ?_
        rintro i hi
        refine WT_test (fun f3 => ?_) (fun f3 => ?_)
        · have f3 : i < on.length := by simpa using f3
          have heli := hel i f3
          have htwoi := htwo i f3
          have hgd : on.getD i false = on[i] := by simp [List.getD, f3]
          rw [hgd] at htwoi
          (repeat first | refine WT_inR (by simp [inR]; omega) ?_ | refine WT_t rfl ?_ | refine WT_f rfl ?_ | refine WT_guard (by first | (simp [inR]; done) | (simp [inR]; omega)) ?_ | refine WT_elem _ (map_get _ _ _ (by first | assumption | omega)) ?_)
          refine WT_elem _ heli ?_
          (repeat first | refine WT_inR (by simp [inR]; omega) ?_ | refine WT_t rfl ?_ | refine WT_f rfl ?_ | refine WT_guard (by first | (simp [inR]; done) | (simp [inR]; omega)) ?_ | refine WT_elem _ (map_get _ _ _ (by first | assumption | omega)) ?_)
          refine WT_test (fun f4 => ?_) (fun f4 => ?_)
          · have f4 : on[i] = true := by simpa using f4
            have h2i := htwoi f4
            (repeat first | refine WT_inR (by simp [inR]; omega) ?_ | refine WT_t rfl ?_ | refine WT_f rfl ?_ | refine WT_guard (by first | (simp [inR]; done) | (simp [inR]; omega)) ?_ | refine WT_elem _ (map_get _ _ _ (by first | assumption | omega)) ?_)
            refine WT_f (by simp [h2i]) ?_
            (repeat first | refine WT_inR (by simp [inR]; omega) ?_ | refine WT_t rfl ?_ | refine WT_f rfl ?_ | refine WT_guard (by first | (simp [inR]; done) | (simp [inR]; omega)) ?_ | refine WT_elem _ (map_get _ _ _ (by first | assumption | omega)) ?_)
            exact WT_again (i + 1) f3 (by omega) (by ((refine Weak.of ?_ ?_ rfl rfl ?_ rfl rfl <;> repeat' first | exact trivial | refine ⟨⟨_, rfl, Or.inl ⟨rfl, rfl⟩⟩, ?_⟩ | refine ⟨⟨_, rfl, Or.inr (Or.inl ⟨rfl, by first | exact ⟨_, _, rfl, rfl, Or.inl rfl⟩ | exact ⟨_, _, rfl, rfl, Or.inr rfl⟩⟩)⟩, ?_⟩ | refine ⟨⟨_, rfl, Or.inr (Or.inr rfl)⟩, ?_⟩ | refine ⟨⟨_, rfl, VW_int (by assumption)⟩, ?_⟩ | refine ⟨⟨Or.inl ⟨_, rfl, ⟨rfl, rfl⟩⟩, rfl⟩, ?_⟩ | refine ⟨⟨Or.inl ⟨_, rfl, ⟨rfl, rfl, rfl⟩⟩, rfl⟩, ?_⟩ | refine ⟨⟨Or.inl ⟨_, rfl, BSim_by rfl rfl⟩, rfl⟩, ?_⟩ | refine ⟨⟨Or.inr ⟨rfl, rfl⟩, rfl⟩, ?_⟩ | refine ⟨⟨Or.inr ⟨rfl, rfl, rfl⟩, rfl⟩, ?_⟩)))
          · (repeat first | refine WT_inR (by simp [inR]; omega) ?_ | refine WT_t rfl ?_ | refine WT_f rfl ?_ | refine WT_guard (by first | (simp [inR]; done) | (simp [inR]; omega)) ?_ | refine WT_elem _ (map_get _ _ _ (by first | assumption | omega)) ?_)
            exact WT_again (i + 1) f3 (by omega) (by ((refine Weak.of ?_ ?_ rfl rfl ?_ rfl rfl <;> repeat' first | exact trivial | refine ⟨⟨_, rfl, Or.inl ⟨rfl, rfl⟩⟩, ?_⟩ | refine ⟨⟨_, rfl, Or.inr (Or.inl ⟨rfl, by first | exact ⟨_, _, rfl, rfl, Or.inl rfl⟩ | exact ⟨_, _, rfl, rfl, Or.inr rfl⟩⟩)⟩, ?_⟩ | refine ⟨⟨_, rfl, Or.inr (Or.inr rfl)⟩, ?_⟩ | refine ⟨⟨_, rfl, VW_int (by assumption)⟩, ?_⟩ | refine ⟨⟨Or.inl ⟨_, rfl, ⟨rfl, rfl⟩⟩, rfl⟩, ?_⟩ | refine ⟨⟨Or.inl ⟨_, rfl, ⟨rfl, rfl, rfl⟩⟩, rfl⟩, ?_⟩ | refine ⟨⟨Or.inl ⟨_, rfl, BSim_by rfl rfl⟩, rfl⟩, ?_⟩ | refine ⟨⟨Or.inr ⟨rfl, rfl⟩, rfl⟩, ?_⟩ | refine ⟨⟨Or.inr ⟨rfl, rfl, rfl⟩, rfl⟩, ?_⟩)))
        · refine WT_break ?_
          refine WT_call _ s_alive ?_
          (repeat first | refine WT_inR (by simp [inR]; omega) ?_ | refine WT_t rfl ?_ | refine WT_f rfl ?_ | refine WT_guard (by first | (simp [inR]; done) | (simp [inR]; omega)) ?_ | refine WT_elem _ (map_get _ _ _ (by first | assumption | omega)) ?_)
          refine WT_test (fun f4 => ?_) (fun f4 => ?_)
          · have f4 : many = 0 := by simp at f4; omega
            (repeat first | refine WT_inR (by simp [inR]; omega) ?_ | refine WT_t rfl ?_ | refine WT_f rfl ?_ | refine WT_guard (by first | (simp [inR]; done) | (simp [inR]; omega)) ?_ | refine WT_elem _ (map_get _ _ _ (by first | assumption | omega)) ?_)
            refine WT_call _ hnx ?_
            (repeat first | refine WT_inR (by simp [inR]; omega) ?_ | refine WT_t rfl ?_ | refine WT_f rfl ?_ | refine WT_guard (by first | (simp [inR]; done) | (simp [inR]; omega)) ?_ | refine WT_elem _ (map_get _ _ _ (by first | assumption | omega)) ?_)
            refine WT_ret rfl rfl rfl rfl ?_
            rw [hnn f4]; rfl
          · (repeat first | refine WT_inR (by simp [inR]; omega) ?_ | refine WT_t rfl ?_ | refine WT_f rfl ?_ | refine WT_guard (by first | (simp [inR]; done) | (simp [inR]; omega)) ?_ | refine WT_elem _ (map_get _ _ _ (by first | assumption | omega)) ?_)
            exact WT_ret rfl rfl rfl rfl rfl
end Uw.Tryd
