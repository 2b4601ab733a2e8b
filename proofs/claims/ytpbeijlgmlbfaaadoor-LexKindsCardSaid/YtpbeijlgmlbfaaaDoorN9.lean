/- N9: Xk Xl Xm (merged by merge2.py from the working texts). -/
import Derived.Test.YtpbeijlgmlbfaaaDoorN8
set_option linter.unusedSimpArgs false
set_option linter.unnecessarySimpa false
set_option linter.unusedVariables false
set_option linter.unusedSectionVars false

/- lex: Show, Same, Alike, Blank. -/
set_option linter.unusedVariables false
set_option linter.unusedSimpArgs false
namespace Uw.Tryd
open Go Uw Go.Proofs Go.RowKit

set_option maxRecDepth 4000 in
set_option maxHeartbeats 2000000 in
theorem s_ref04_Blank (c : UInt8) : Ret P0 n_ref04_Blank [B8 c] (.bool (decide (cls c = 4))) := by
  have h := s_ref04_class c
  refine Ret_by is_ref04_Blank rfl ?_
  ((repeat' ((first | (show WT _ _ (Tree.test _ _ _); first | refine WT_i64 (by omega) ?_ | refine WT_inR (by simp [inR]; omega) ?_ | refine WT_t rfl ?_ | refine WT_f rfl ?_ | refine WT_ixmZ (by first | assumption | omega) ?_ | refine WT_ixZ (by first | assumption | omega) ?_ | refine WT_ixmS (by first | assumption | omega) ?_ | refine WT_ixS (by first | assumption | omega) ?_ | refine WT_ixm (by first | assumption | omega) ?_ | refine WT_ixl (by first | assumption | omega) ?_ | refine WT_guard (by first | (simp [inR]; done) | (simp [inR]; omega)) ?_ | refine WT_yT (by first | assumption | omega | exact rfl) ?_ | refine WT_nT (by first | assumption | omega) ?_ | refine WT_yF (by first | assumption | omega) ?_ | refine WT_nF (by first | assumption | omega | exact rfl) ?_ | refine WT_nyT (by first | assumption | omega) ?_ | refine WT_nnT (by first | assumption | omega | exact rfl) ?_ | refine WT_nyF (by first | assumption | omega | exact rfl) ?_ | refine WT_nnF (by first | assumption | omega) ?_ | refine WT_byT (by assumption) ?_ | refine WT_bnT (by assumption) ?_ | refine WT_byF (by assumption) ?_ | refine WT_bnF (by assumption) ?_ | refine WT_yes (by first | assumption | omega | exact rfl) ?_ | refine WT_no (by first | assumption | omega) ?_ | refine WT_nyes (by first | assumption | omega) ?_ | refine WT_nno (by first | assumption | omega | exact rfl) ?_ | refine WT_ty (by assumption) ?_ | refine WT_f (by assumption) ?_ | refine WT_nby (by assumption) ?_ | refine WT_nbn (by assumption) ?_ | refine WT_dlenS (fun _ => ?_) (fun _ => ?_) | refine WT_dlen (fun _ => ?_) (fun _ => ?_) | refine WT_decT (fun _ => ?_) (fun _ => ?_) | refine WT_decF (fun _ => ?_) (fun _ => ?_) | refine WT_ndecT (fun _ => ?_) (fun _ => ?_) | refine WT_ndecF (fun _ => ?_) (fun _ => ?_) | refine WT_bT (fun _ => ?_) (fun _ => ?_) | refine WT_bF (fun _ => ?_) (fun _ => ?_) | refine WT_dec (fun _ => ?_) (fun _ => ?_) | refine WT_ndec (fun _ => ?_) (fun _ => ?_) | refine WT_nb (fun _ => ?_) (fun _ => ?_) | refine WT_test (fun _ => ?_) (fun _ => ?_)) | (show WT _ _ (Tree.call _ _ _); refine WT_call _ (by assumption) ?_) | (show WT _ _ (Tree.elem _ _ _); first | refine WT_elmZ (by first | assumption | omega) ?_ | refine WT_elmS (by first | assumption | omega) ?_ | refine WT_elm (by first | assumption | omega) ?_ | refine WT_elem _ (map_get _ _ _ (by first | assumption | omega)) ?_ | refine WT_elem _ (by assumption) ?_) | (show WT _ _ (Tree.byte _ _ _); first | refine WT_bytZ (by first | assumption | omega) ?_ | refine WT_bytS (by first | assumption | omega) ?_ | refine WT_byt (by first | assumption | omega) ?_ | refine WT_bytN (by first | assumption | omega) ?_) | (show WT _ _ (Tree.same _ _ _); refine WT_same rfl ?_)))))
  refine WT_ret (P := P0) rfl rfl rfl rfl ?_
  exact congrArg Dat.bool (Bool.eq_iff_iff.2 (by simp only [decide_eq_true_eq]; omega))

set_option maxRecDepth 4000 in
set_option maxHeartbeats 2000000 in
theorem s_ref04_Same (l m : List Tok) (hl : l.length < 1000000) : Ret P0 n_ref04_Same [toksD l, toksD m] (.bool (decide (l = m))) := by
  have e1 : (l.map tokL).length = l.length := by simp
  have e2 : (m.map tokL).length = m.length := by simp
  by_cases hlm : l.length = m.length
  · refine Ret_by is_ref04_Same rfl ?_
    ((repeat' ((first | (show WT _ _ (Tree.test _ _ _); first | refine WT_i64 (by omega) ?_ | refine WT_inR (by simp [inR]; omega) ?_ | refine WT_t rfl ?_ | refine WT_f rfl ?_ | refine WT_ixmZ (by first | assumption | omega) ?_ | refine WT_ixZ (by first | assumption | omega) ?_ | refine WT_ixmS (by first | assumption | omega) ?_ | refine WT_ixS (by first | assumption | omega) ?_ | refine WT_ixm (by first | assumption | omega) ?_ | refine WT_ixl (by first | assumption | omega) ?_ | refine WT_guard (by first | (simp [inR]; done) | (simp [inR]; omega)) ?_ | refine WT_yT (by first | assumption | omega | exact rfl) ?_ | refine WT_nT (by first | assumption | omega) ?_ | refine WT_yF (by first | assumption | omega) ?_ | refine WT_nF (by first | assumption | omega | exact rfl) ?_ | refine WT_nyT (by first | assumption | omega) ?_ | refine WT_nnT (by first | assumption | omega | exact rfl) ?_ | refine WT_nyF (by first | assumption | omega | exact rfl) ?_ | refine WT_nnF (by first | assumption | omega) ?_ | refine WT_byT (by assumption) ?_ | refine WT_bnT (by assumption) ?_ | refine WT_byF (by assumption) ?_ | refine WT_bnF (by assumption) ?_ | refine WT_yes (by first | assumption | omega | exact rfl) ?_ | refine WT_no (by first | assumption | omega) ?_ | refine WT_nyes (by first | assumption | omega) ?_ | refine WT_nno (by first | assumption | omega | exact rfl) ?_ | refine WT_ty (by assumption) ?_ | refine WT_f (by assumption) ?_ | refine WT_nby (by assumption) ?_ | refine WT_nbn (by assumption) ?_ | refine WT_dlenS (fun _ => ?_) (fun _ => ?_) | refine WT_dlen (fun _ => ?_) (fun _ => ?_) | refine WT_decT (fun _ => ?_) (fun _ => ?_) | refine WT_decF (fun _ => ?_) (fun _ => ?_) | refine WT_ndecT (fun _ => ?_) (fun _ => ?_) | refine WT_ndecF (fun _ => ?_) (fun _ => ?_) | refine WT_bT (fun _ => ?_) (fun _ => ?_) | refine WT_bF (fun _ => ?_) (fun _ => ?_) | refine WT_dec (fun _ => ?_) (fun _ => ?_) | refine WT_ndec (fun _ => ?_) (fun _ => ?_) | refine WT_nb (fun _ => ?_) (fun _ => ?_) | refine WT_test (fun _ => ?_) (fun _ => ?_)) | (show WT _ _ (Tree.call _ _ _); refine WT_call _ (by assumption) ?_) | (show WT _ _ (Tree.elem _ _ _); first | refine WT_elmZ (by first | assumption | omega) ?_ | refine WT_elmS (by first | assumption | omega) ?_ | refine WT_elm (by first | assumption | omega) ?_ | refine WT_elem _ (map_get _ _ _ (by first | assumption | omega)) ?_ | refine WT_elem _ (by assumption) ?_) | (show WT _ _ (Tree.byte _ _ _); first | refine WT_bytZ (by first | assumption | omega) ?_ | refine WT_bytS (by first | assumption | omega) ?_ | refine WT_byt (by first | assumption | omega) ?_ | refine WT_bytN (by first | assumption | omega) ?_) | (show WT _ _ (Tree.same _ _ _); refine WT_same rfl ?_)))))
    refine WT_loop (fun k : Nat => ⟨[(5, .d (I k)), (0, .d (toksD l)), (1, .d (toksD m))], [], 0, [], 0⟩) (fun k => k ≤ l.length ∧ l.take k = m.take k) (fun k => l.length - k) 0 (by ((refine Weak.of ?_ ?_ rfl rfl ?_ rfl rfl <;> repeat' first | exact trivial | refine ⟨⟨_, rfl, Or.inl ⟨rfl, rfl⟩⟩, ?_⟩ | refine ⟨⟨_, rfl, Or.inr (Or.inl ⟨rfl, by first | exact ⟨_, _, rfl, rfl, Or.inl rfl⟩ | exact ⟨_, _, rfl, rfl, Or.inr rfl⟩⟩)⟩, ?_⟩ | refine ⟨⟨_, rfl, Or.inr (Or.inr rfl)⟩, ?_⟩ | refine ⟨⟨_, rfl, VW_int (by assumption)⟩, ?_⟩ | refine ⟨⟨Or.inl ⟨_, rfl, ⟨rfl, rfl⟩⟩, rfl⟩, ?_⟩ | refine ⟨⟨Or.inl ⟨_, rfl, ⟨rfl, rfl, rfl⟩⟩, rfl⟩, ?_⟩ | refine ⟨⟨Or.inl ⟨_, rfl, BSim_by rfl rfl⟩, rfl⟩, ?_⟩ | refine ⟨⟨Or.inr ⟨rfl, rfl⟩, rfl⟩, ?_⟩ | refine ⟨⟨Or.inr ⟨rfl, rfl, rfl⟩, rfl⟩, ?_⟩))) (by simp) ?_
    rintro k ⟨h1, h2⟩
    by_cases hk : k < l.length
    · have hk2 : k < m.length := by omega
      have t1 := take_one l k hk
      have t2 := take_one m k hk2
      by_cases hx : l[k] = m[k]
      · have h3 : l.take (k + 1) = m.take (k + 1) := by rw [t1, t2, h2, hx]
        have hb : (!(decide (l[k].kind = m[k].kind) && (decide (l[k].text = m[k].text) && (decide (l[k].n = m[k].n) && (decide (l[k].at_ = m[k].at_) && true))))) = false := by rw [hx]; simp
        clear h2 t1 t2
        ((repeat' ((first | (show WT _ _ (Tree.test _ _ _); first | refine WT_i64 (by omega) ?_ | refine WT_inR (by simp [inR]; omega) ?_ | refine WT_t rfl ?_ | refine WT_f rfl ?_ | refine WT_ixmZ (by first | assumption | omega) ?_ | refine WT_ixZ (by first | assumption | omega) ?_ | refine WT_ixmS (by first | assumption | omega) ?_ | refine WT_ixS (by first | assumption | omega) ?_ | refine WT_ixm (by first | assumption | omega) ?_ | refine WT_ixl (by first | assumption | omega) ?_ | refine WT_guard (by first | (simp [inR]; done) | (simp [inR]; omega)) ?_ | refine WT_yT (by first | assumption | omega | exact rfl) ?_ | refine WT_nT (by first | assumption | omega) ?_ | refine WT_yF (by first | assumption | omega) ?_ | refine WT_nF (by first | assumption | omega | exact rfl) ?_ | refine WT_nyT (by first | assumption | omega) ?_ | refine WT_nnT (by first | assumption | omega | exact rfl) ?_ | refine WT_nyF (by first | assumption | omega | exact rfl) ?_ | refine WT_nnF (by first | assumption | omega) ?_ | refine WT_byT (by assumption) ?_ | refine WT_bnT (by assumption) ?_ | refine WT_byF (by assumption) ?_ | refine WT_bnF (by assumption) ?_ | refine WT_yes (by first | assumption | omega | exact rfl) ?_ | refine WT_no (by first | assumption | omega) ?_ | refine WT_nyes (by first | assumption | omega) ?_ | refine WT_nno (by first | assumption | omega | exact rfl) ?_ | refine WT_ty (by assumption) ?_ | refine WT_f (by assumption) ?_ | refine WT_nby (by assumption) ?_ | refine WT_nbn (by assumption) ?_ | refine WT_dlenS (fun _ => ?_) (fun _ => ?_) | refine WT_dlen (fun _ => ?_) (fun _ => ?_) | refine WT_decT (fun _ => ?_) (fun _ => ?_) | refine WT_decF (fun _ => ?_) (fun _ => ?_) | refine WT_ndecT (fun _ => ?_) (fun _ => ?_) | refine WT_ndecF (fun _ => ?_) (fun _ => ?_) | refine WT_bT (fun _ => ?_) (fun _ => ?_) | refine WT_bF (fun _ => ?_) (fun _ => ?_) | refine WT_dec (fun _ => ?_) (fun _ => ?_) | refine WT_ndec (fun _ => ?_) (fun _ => ?_) | refine WT_nb (fun _ => ?_) (fun _ => ?_) | refine WT_test (fun _ => ?_) (fun _ => ?_)) | (show WT _ _ (Tree.call _ _ _); refine WT_call _ (by assumption) ?_) | (show WT _ _ (Tree.elem _ _ _); first | refine WT_elmZ (by first | assumption | omega) ?_ | refine WT_elmS (by first | assumption | omega) ?_ | refine WT_elm (by first | assumption | omega) ?_ | refine WT_elem _ (map_get _ _ _ (by first | assumption | omega)) ?_ | refine WT_elem _ (by assumption) ?_) | (show WT _ _ (Tree.byte _ _ _); first | refine WT_bytZ (by first | assumption | omega) ?_ | refine WT_bytS (by first | assumption | omega) ?_ | refine WT_byt (by first | assumption | omega) ?_ | refine WT_bytN (by first | assumption | omega) ?_) | (show WT _ _ (Tree.same _ _ _); refine WT_same rfl ?_)))))
        exact WT_again (k + 1) ⟨by omega, h3⟩ (by omega) (by ((refine Weak.of ?_ ?_ rfl rfl ?_ rfl rfl <;> repeat' first | exact trivial | refine ⟨⟨_, rfl, Or.inl ⟨rfl, rfl⟩⟩, ?_⟩ | refine ⟨⟨_, rfl, Or.inr (Or.inl ⟨rfl, by first | exact ⟨_, _, rfl, rfl, Or.inl rfl⟩ | exact ⟨_, _, rfl, rfl, Or.inr rfl⟩⟩)⟩, ?_⟩ | refine ⟨⟨_, rfl, Or.inr (Or.inr rfl)⟩, ?_⟩ | refine ⟨⟨_, rfl, VW_int (by assumption)⟩, ?_⟩ | refine ⟨⟨Or.inl ⟨_, rfl, ⟨rfl, rfl⟩⟩, rfl⟩, ?_⟩ | refine ⟨⟨Or.inl ⟨_, rfl, ⟨rfl, rfl, rfl⟩⟩, rfl⟩, ?_⟩ | refine ⟨⟨Or.inl ⟨_, rfl, BSim_by rfl rfl⟩, rfl⟩, ?_⟩ | refine ⟨⟨Or.inr ⟨rfl, rfl⟩, rfl⟩, ?_⟩ | refine ⟨⟨Or.inr ⟨rfl, rfl, rfl⟩, rfl⟩, ?_⟩)))
      · have e : decide (l = m) = false := decide_eq_false (fun h => hx (by subst h; rfl))
        rw [e]
        have hb : (!(decide (l[k].kind = m[k].kind) && (decide (l[k].text = m[k].text) && (decide (l[k].n = m[k].n) && (decide (l[k].at_ = m[k].at_) && true))))) = true := by
          rcases hl1 : l[k] with ⟨a, b, c, d⟩
          rcases hm1 : m[k] with ⟨a', b', c', d'⟩
          rw [hl1, hm1] at hx
          simp only [Tok.mk.injEq, not_and] at hx
          simp only [Bool.and_true, Bool.not_eq_true', Bool.and_eq_false_iff, decide_eq_false_iff_not]
          by_cases q1 : a = a'
          · by_cases q2 : b = b'
            · by_cases q3 : c = c'
              · exact .inr (.inr (.inr (hx q1 q2 q3)))
              · exact .inr (.inr (.inl q3))
            · exact .inr (.inl q2)
          · exact .inl q1
        clear h2 t1 t2 e
        ((repeat' ((first | (show WT _ _ (Tree.test _ _ _); first | refine WT_i64 (by omega) ?_ | refine WT_inR (by simp [inR]; omega) ?_ | refine WT_t rfl ?_ | refine WT_f rfl ?_ | refine WT_ixmZ (by first | assumption | omega) ?_ | refine WT_ixZ (by first | assumption | omega) ?_ | refine WT_ixmS (by first | assumption | omega) ?_ | refine WT_ixS (by first | assumption | omega) ?_ | refine WT_ixm (by first | assumption | omega) ?_ | refine WT_ixl (by first | assumption | omega) ?_ | refine WT_guard (by first | (simp [inR]; done) | (simp [inR]; omega)) ?_ | refine WT_yT (by first | assumption | omega | exact rfl) ?_ | refine WT_nT (by first | assumption | omega) ?_ | refine WT_yF (by first | assumption | omega) ?_ | refine WT_nF (by first | assumption | omega | exact rfl) ?_ | refine WT_nyT (by first | assumption | omega) ?_ | refine WT_nnT (by first | assumption | omega | exact rfl) ?_ | refine WT_nyF (by first | assumption | omega | exact rfl) ?_ | refine WT_nnF (by first | assumption | omega) ?_ | refine WT_byT (by assumption) ?_ | refine WT_bnT (by assumption) ?_ | refine WT_byF (by assumption) ?_ | refine WT_bnF (by assumption) ?_ | refine WT_yes (by first | assumption | omega | exact rfl) ?_ | refine WT_no (by first | assumption | omega) ?_ | refine WT_nyes (by first | assumption | omega) ?_ | refine WT_nno (by first | assumption | omega | exact rfl) ?_ | refine WT_ty (by assumption) ?_ | refine WT_f (by assumption) ?_ | refine WT_nby (by assumption) ?_ | refine WT_nbn (by assumption) ?_ | refine WT_dlenS (fun _ => ?_) (fun _ => ?_) | refine WT_dlen (fun _ => ?_) (fun _ => ?_) | refine WT_decT (fun _ => ?_) (fun _ => ?_) | refine WT_decF (fun _ => ?_) (fun _ => ?_) | refine WT_ndecT (fun _ => ?_) (fun _ => ?_) | refine WT_ndecF (fun _ => ?_) (fun _ => ?_) | refine WT_bT (fun _ => ?_) (fun _ => ?_) | refine WT_bF (fun _ => ?_) (fun _ => ?_) | refine WT_dec (fun _ => ?_) (fun _ => ?_) | refine WT_ndec (fun _ => ?_) (fun _ => ?_) | refine WT_nb (fun _ => ?_) (fun _ => ?_) | refine WT_test (fun _ => ?_) (fun _ => ?_)) | (show WT _ _ (Tree.call _ _ _); refine WT_call _ (by assumption) ?_) | (show WT _ _ (Tree.elem _ _ _); first | refine WT_elmZ (by first | assumption | omega) ?_ | refine WT_elmS (by first | assumption | omega) ?_ | refine WT_elm (by first | assumption | omega) ?_ | refine WT_elem _ (map_get _ _ _ (by first | assumption | omega)) ?_ | refine WT_elem _ (by assumption) ?_) | (show WT _ _ (Tree.byte _ _ _); first | refine WT_bytZ (by first | assumption | omega) ?_ | refine WT_bytS (by first | assumption | omega) ?_ | refine WT_byt (by first | assumption | omega) ?_ | refine WT_bytN (by first | assumption | omega) ?_) | (show WT _ _ (Tree.same _ _ _); refine WT_same rfl ?_)))))
        exact WT_leave (WT_ret (P := P0) rfl rfl rfl rfl rfl)
    · have e : decide (l = m) = true := by
        rw [List.take_of_length_le (by omega), List.take_of_length_le (by omega)] at h2
        exact decide_eq_true h2
      rw [e]
      clear h2 e
      ((repeat' ((first | (show WT _ _ (Tree.test _ _ _); first | refine WT_i64 (by omega) ?_ | refine WT_inR (by simp [inR]; omega) ?_ | refine WT_t rfl ?_ | refine WT_f rfl ?_ | refine WT_ixmZ (by first | assumption | omega) ?_ | refine WT_ixZ (by first | assumption | omega) ?_ | refine WT_ixmS (by first | assumption | omega) ?_ | refine WT_ixS (by first | assumption | omega) ?_ | refine WT_ixm (by first | assumption | omega) ?_ | refine WT_ixl (by first | assumption | omega) ?_ | refine WT_guard (by first | (simp [inR]; done) | (simp [inR]; omega)) ?_ | refine WT_yT (by first | assumption | omega | exact rfl) ?_ | refine WT_nT (by first | assumption | omega) ?_ | refine WT_yF (by first | assumption | omega) ?_ | refine WT_nF (by first | assumption | omega | exact rfl) ?_ | refine WT_nyT (by first | assumption | omega) ?_ | refine WT_nnT (by first | assumption | omega | exact rfl) ?_ | refine WT_nyF (by first | assumption | omega | exact rfl) ?_ | refine WT_nnF (by first | assumption | omega) ?_ | refine WT_byT (by assumption) ?_ | refine WT_bnT (by assumption) ?_ | refine WT_byF (by assumption) ?_ | refine WT_bnF (by assumption) ?_ | refine WT_yes (by first | assumption | omega | exact rfl) ?_ | refine WT_no (by first | assumption | omega) ?_ | refine WT_nyes (by first | assumption | omega) ?_ | refine WT_nno (by first | assumption | omega | exact rfl) ?_ | refine WT_ty (by assumption) ?_ | refine WT_f (by assumption) ?_ | refine WT_nby (by assumption) ?_ | refine WT_nbn (by assumption) ?_ | refine WT_dlenS (fun _ => ?_) (fun _ => ?_) | refine WT_dlen (fun _ => ?_) (fun _ => ?_) | refine WT_decT (fun _ => ?_) (fun _ => ?_) | refine WT_decF (fun _ => ?_) (fun _ => ?_) | refine WT_ndecT (fun _ => ?_) (fun _ => ?_) | refine WT_ndecF (fun _ => ?_) (fun _ => ?_) | refine WT_bT (fun _ => ?_) (fun _ => ?_) | refine WT_bF (fun _ => ?_) (fun _ => ?_) | refine WT_dec (fun _ => ?_) (fun _ => ?_) | refine WT_ndec (fun _ => ?_) (fun _ => ?_) | refine WT_nb (fun _ => ?_) (fun _ => ?_) | refine WT_test (fun _ => ?_) (fun _ => ?_)) | (show WT _ _ (Tree.call _ _ _); refine WT_call _ (by assumption) ?_) | (show WT _ _ (Tree.elem _ _ _); first | refine WT_elmZ (by first | assumption | omega) ?_ | refine WT_elmS (by first | assumption | omega) ?_ | refine WT_elm (by first | assumption | omega) ?_ | refine WT_elem _ (map_get _ _ _ (by first | assumption | omega)) ?_ | refine WT_elem _ (by assumption) ?_) | (show WT _ _ (Tree.byte _ _ _); first | refine WT_bytZ (by first | assumption | omega) ?_ | refine WT_bytS (by first | assumption | omega) ?_ | refine WT_byt (by first | assumption | omega) ?_ | refine WT_bytN (by first | assumption | omega) ?_) | (show WT _ _ (Tree.same _ _ _); refine WT_same rfl ?_)))))
      exact WT_ret (P := P0) rfl rfl rfl rfl rfl
  · have e : decide (l = m) = false := decide_eq_false (fun h => hlm (by rw [h]))
    rw [e]
    refine Ret_by is_ref04_Same rfl ?_
    ((repeat' ((first | (show WT _ _ (Tree.test _ _ _); first | refine WT_i64 (by omega) ?_ | refine WT_inR (by simp [inR]; omega) ?_ | refine WT_t rfl ?_ | refine WT_f rfl ?_ | refine WT_ixmZ (by first | assumption | omega) ?_ | refine WT_ixZ (by first | assumption | omega) ?_ | refine WT_ixmS (by first | assumption | omega) ?_ | refine WT_ixS (by first | assumption | omega) ?_ | refine WT_ixm (by first | assumption | omega) ?_ | refine WT_ixl (by first | assumption | omega) ?_ | refine WT_guard (by first | (simp [inR]; done) | (simp [inR]; omega)) ?_ | refine WT_yT (by first | assumption | omega | exact rfl) ?_ | refine WT_nT (by first | assumption | omega) ?_ | refine WT_yF (by first | assumption | omega) ?_ | refine WT_nF (by first | assumption | omega | exact rfl) ?_ | refine WT_nyT (by first | assumption | omega) ?_ | refine WT_nnT (by first | assumption | omega | exact rfl) ?_ | refine WT_nyF (by first | assumption | omega | exact rfl) ?_ | refine WT_nnF (by first | assumption | omega) ?_ | refine WT_byT (by assumption) ?_ | refine WT_bnT (by assumption) ?_ | refine WT_byF (by assumption) ?_ | refine WT_bnF (by assumption) ?_ | refine WT_yes (by first | assumption | omega | exact rfl) ?_ | refine WT_no (by first | assumption | omega) ?_ | refine WT_nyes (by first | assumption | omega) ?_ | refine WT_nno (by first | assumption | omega | exact rfl) ?_ | refine WT_ty (by assumption) ?_ | refine WT_f (by assumption) ?_ | refine WT_nby (by assumption) ?_ | refine WT_nbn (by assumption) ?_ | refine WT_dlenS (fun _ => ?_) (fun _ => ?_) | refine WT_dlen (fun _ => ?_) (fun _ => ?_) | refine WT_decT (fun _ => ?_) (fun _ => ?_) | refine WT_decF (fun _ => ?_) (fun _ => ?_) | refine WT_ndecT (fun _ => ?_) (fun _ => ?_) | refine WT_ndecF (fun _ => ?_) (fun _ => ?_) | refine WT_bT (fun _ => ?_) (fun _ => ?_) | refine WT_bF (fun _ => ?_) (fun _ => ?_) | refine WT_dec (fun _ => ?_) (fun _ => ?_) | refine WT_ndec (fun _ => ?_) (fun _ => ?_) | refine WT_nb (fun _ => ?_) (fun _ => ?_) | refine WT_test (fun _ => ?_) (fun _ => ?_)) | (show WT _ _ (Tree.call _ _ _); refine WT_call _ (by assumption) ?_) | (show WT _ _ (Tree.elem _ _ _); first | refine WT_elmZ (by first | assumption | omega) ?_ | refine WT_elmS (by first | assumption | omega) ?_ | refine WT_elm (by first | assumption | omega) ?_ | refine WT_elem _ (map_get _ _ _ (by first | assumption | omega)) ?_ | refine WT_elem _ (by assumption) ?_) | (show WT _ _ (Tree.byte _ _ _); first | refine WT_bytZ (by first | assumption | omega) ?_ | refine WT_bytS (by first | assumption | omega) ?_ | refine WT_byt (by first | assumption | omega) ?_ | refine WT_bytN (by first | assumption | omega) ?_) | (show WT _ _ (Tree.same _ _ _); refine WT_same rfl ?_)))))
    exact WT_ret (P := P0) rfl rfl rfl rfl rfl

def keyT (t : Tok) : Int × List UInt8 × Int := (t.kind, t.text, t.n)
def alike (l m : List Tok) : Bool := decide (l.map keyT = m.map keyT)

set_option maxRecDepth 4000 in
set_option maxHeartbeats 2000000 in
theorem s_ref04_Alike (l m : List Tok) (hl : l.length < 1000000) : Ret P0 n_ref04_Alike [toksD l, toksD m] (.bool (alike l m)) := by
  have e1 : (l.map tokL).length = l.length := by simp
  have e2 : (m.map tokL).length = m.length := by simp
  rw [alike]
  by_cases hlm : l.length = m.length
  · refine Ret_by is_ref04_Alike rfl ?_
    ((repeat' ((first | (show WT _ _ (Tree.test _ _ _); first | refine WT_i64 (by omega) ?_ | refine WT_inR (by simp [inR]; omega) ?_ | refine WT_t rfl ?_ | refine WT_f rfl ?_ | refine WT_ixmZ (by first | assumption | omega) ?_ | refine WT_ixZ (by first | assumption | omega) ?_ | refine WT_ixmS (by first | assumption | omega) ?_ | refine WT_ixS (by first | assumption | omega) ?_ | refine WT_ixm (by first | assumption | omega) ?_ | refine WT_ixl (by first | assumption | omega) ?_ | refine WT_guard (by first | (simp [inR]; done) | (simp [inR]; omega)) ?_ | refine WT_yT (by first | assumption | omega | exact rfl) ?_ | refine WT_nT (by first | assumption | omega) ?_ | refine WT_yF (by first | assumption | omega) ?_ | refine WT_nF (by first | assumption | omega | exact rfl) ?_ | refine WT_nyT (by first | assumption | omega) ?_ | refine WT_nnT (by first | assumption | omega | exact rfl) ?_ | refine WT_nyF (by first | assumption | omega | exact rfl) ?_ | refine WT_nnF (by first | assumption | omega) ?_ | refine WT_byT (by assumption) ?_ | refine WT_bnT (by assumption) ?_ | refine WT_byF (by assumption) ?_ | refine WT_bnF (by assumption) ?_ | refine WT_yes (by first | assumption | omega | exact rfl) ?_ | refine WT_no (by first | assumption | omega) ?_ | refine WT_nyes (by first | assumption | omega) ?_ | refine WT_nno (by first | assumption | omega | exact rfl) ?_ | refine WT_ty (by assumption) ?_ | refine WT_f (by assumption) ?_ | refine WT_nby (by assumption) ?_ | refine WT_nbn (by assumption) ?_ | refine WT_dlenS (fun _ => ?_) (fun _ => ?_) | refine WT_dlen (fun _ => ?_) (fun _ => ?_) | refine WT_decT (fun _ => ?_) (fun _ => ?_) | refine WT_decF (fun _ => ?_) (fun _ => ?_) | refine WT_ndecT (fun _ => ?_) (fun _ => ?_) | refine WT_ndecF (fun _ => ?_) (fun _ => ?_) | refine WT_bT (fun _ => ?_) (fun _ => ?_) | refine WT_bF (fun _ => ?_) (fun _ => ?_) | refine WT_dec (fun _ => ?_) (fun _ => ?_) | refine WT_ndec (fun _ => ?_) (fun _ => ?_) | refine WT_nb (fun _ => ?_) (fun _ => ?_) | refine WT_test (fun _ => ?_) (fun _ => ?_)) | (show WT _ _ (Tree.call _ _ _); refine WT_call _ (by assumption) ?_) | (show WT _ _ (Tree.elem _ _ _); first | refine WT_elmZ (by first | assumption | omega) ?_ | refine WT_elmS (by first | assumption | omega) ?_ | refine WT_elm (by first | assumption | omega) ?_ | refine WT_elem _ (map_get _ _ _ (by first | assumption | omega)) ?_ | refine WT_elem _ (by assumption) ?_) | (show WT _ _ (Tree.byte _ _ _); first | refine WT_bytZ (by first | assumption | omega) ?_ | refine WT_bytS (by first | assumption | omega) ?_ | refine WT_byt (by first | assumption | omega) ?_ | refine WT_bytN (by first | assumption | omega) ?_) | (show WT _ _ (Tree.same _ _ _); refine WT_same rfl ?_)))))
    refine WT_loop (fun k : Nat => ⟨[(5, .d (I k)), (0, .d (toksD l)), (1, .d (toksD m))], [], 0, [], 0⟩) (fun k => k ≤ l.length ∧ (l.take k).map keyT = (m.take k).map keyT) (fun k => l.length - k) 0 (by ((refine Weak.of ?_ ?_ rfl rfl ?_ rfl rfl <;> repeat' first | exact trivial | refine ⟨⟨_, rfl, Or.inl ⟨rfl, rfl⟩⟩, ?_⟩ | refine ⟨⟨_, rfl, Or.inr (Or.inl ⟨rfl, by first | exact ⟨_, _, rfl, rfl, Or.inl rfl⟩ | exact ⟨_, _, rfl, rfl, Or.inr rfl⟩⟩)⟩, ?_⟩ | refine ⟨⟨_, rfl, Or.inr (Or.inr rfl)⟩, ?_⟩ | refine ⟨⟨_, rfl, VW_int (by assumption)⟩, ?_⟩ | refine ⟨⟨Or.inl ⟨_, rfl, ⟨rfl, rfl⟩⟩, rfl⟩, ?_⟩ | refine ⟨⟨Or.inl ⟨_, rfl, ⟨rfl, rfl, rfl⟩⟩, rfl⟩, ?_⟩ | refine ⟨⟨Or.inl ⟨_, rfl, BSim_by rfl rfl⟩, rfl⟩, ?_⟩ | refine ⟨⟨Or.inr ⟨rfl, rfl⟩, rfl⟩, ?_⟩ | refine ⟨⟨Or.inr ⟨rfl, rfl, rfl⟩, rfl⟩, ?_⟩))) (by simp) ?_
    rintro k ⟨h1, h2⟩
    by_cases hk : k < l.length
    · have hk2 : k < m.length := by omega
      have t1 := take_one l k hk
      have t2 := take_one m k hk2
      by_cases hx : keyT l[k] = keyT m[k]
      · have h3 : (l.take (k + 1)).map keyT = (m.take (k + 1)).map keyT := by rw [t1, t2, List.map_append, List.map_append, h2]; simp [hx]
        simp only [keyT, Prod.mk.injEq] at hx
        obtain ⟨x1, x2, x3⟩ := hx
        clear h2 t1 t2
        ((repeat' ((first | (show WT _ _ (Tree.test _ _ _); first | refine WT_i64 (by omega) ?_ | refine WT_inR (by simp [inR]; omega) ?_ | refine WT_t rfl ?_ | refine WT_f rfl ?_ | refine WT_ixmZ (by first | assumption | omega) ?_ | refine WT_ixZ (by first | assumption | omega) ?_ | refine WT_ixmS (by first | assumption | omega) ?_ | refine WT_ixS (by first | assumption | omega) ?_ | refine WT_ixm (by first | assumption | omega) ?_ | refine WT_ixl (by first | assumption | omega) ?_ | refine WT_guard (by first | (simp [inR]; done) | (simp [inR]; omega)) ?_ | refine WT_yT (by first | assumption | omega | exact rfl) ?_ | refine WT_nT (by first | assumption | omega) ?_ | refine WT_yF (by first | assumption | omega) ?_ | refine WT_nF (by first | assumption | omega | exact rfl) ?_ | refine WT_nyT (by first | assumption | omega) ?_ | refine WT_nnT (by first | assumption | omega | exact rfl) ?_ | refine WT_nyF (by first | assumption | omega | exact rfl) ?_ | refine WT_nnF (by first | assumption | omega) ?_ | refine WT_byT (by assumption) ?_ | refine WT_bnT (by assumption) ?_ | refine WT_byF (by assumption) ?_ | refine WT_bnF (by assumption) ?_ | refine WT_yes (by first | assumption | omega | exact rfl) ?_ | refine WT_no (by first | assumption | omega) ?_ | refine WT_nyes (by first | assumption | omega) ?_ | refine WT_nno (by first | assumption | omega | exact rfl) ?_ | refine WT_ty (by assumption) ?_ | refine WT_f (by assumption) ?_ | refine WT_nby (by assumption) ?_ | refine WT_nbn (by assumption) ?_ | refine WT_dlenS (fun _ => ?_) (fun _ => ?_) | refine WT_dlen (fun _ => ?_) (fun _ => ?_) | refine WT_decT (fun _ => ?_) (fun _ => ?_) | refine WT_decF (fun _ => ?_) (fun _ => ?_) | refine WT_ndecT (fun _ => ?_) (fun _ => ?_) | refine WT_ndecF (fun _ => ?_) (fun _ => ?_) | refine WT_bT (fun _ => ?_) (fun _ => ?_) | refine WT_bF (fun _ => ?_) (fun _ => ?_) | refine WT_dec (fun _ => ?_) (fun _ => ?_) | refine WT_ndec (fun _ => ?_) (fun _ => ?_) | refine WT_nb (fun _ => ?_) (fun _ => ?_) | refine WT_test (fun _ => ?_) (fun _ => ?_)) | (show WT _ _ (Tree.call _ _ _); refine WT_call _ (by assumption) ?_) | (show WT _ _ (Tree.elem _ _ _); first | refine WT_elmZ (by first | assumption | omega) ?_ | refine WT_elmS (by first | assumption | omega) ?_ | refine WT_elm (by first | assumption | omega) ?_ | refine WT_elem _ (map_get _ _ _ (by first | assumption | omega)) ?_ | refine WT_elem _ (by assumption) ?_) | (show WT _ _ (Tree.byte _ _ _); first | refine WT_bytZ (by first | assumption | omega) ?_ | refine WT_bytS (by first | assumption | omega) ?_ | refine WT_byt (by first | assumption | omega) ?_ | refine WT_bytN (by first | assumption | omega) ?_) | (show WT _ _ (Tree.same _ _ _); refine WT_same rfl ?_)))))
        exact WT_again (k + 1) ⟨by omega, h3⟩ (by omega) (by ((refine Weak.of ?_ ?_ rfl rfl ?_ rfl rfl <;> repeat' first | exact trivial | refine ⟨⟨_, rfl, Or.inl ⟨rfl, rfl⟩⟩, ?_⟩ | refine ⟨⟨_, rfl, Or.inr (Or.inl ⟨rfl, by first | exact ⟨_, _, rfl, rfl, Or.inl rfl⟩ | exact ⟨_, _, rfl, rfl, Or.inr rfl⟩⟩)⟩, ?_⟩ | refine ⟨⟨_, rfl, Or.inr (Or.inr rfl)⟩, ?_⟩ | refine ⟨⟨_, rfl, VW_int (by assumption)⟩, ?_⟩ | refine ⟨⟨Or.inl ⟨_, rfl, ⟨rfl, rfl⟩⟩, rfl⟩, ?_⟩ | refine ⟨⟨Or.inl ⟨_, rfl, ⟨rfl, rfl, rfl⟩⟩, rfl⟩, ?_⟩ | refine ⟨⟨Or.inl ⟨_, rfl, BSim_by rfl rfl⟩, rfl⟩, ?_⟩ | refine ⟨⟨Or.inr ⟨rfl, rfl⟩, rfl⟩, ?_⟩ | refine ⟨⟨Or.inr ⟨rfl, rfl, rfl⟩, rfl⟩, ?_⟩)))
      · have e : decide (l.map keyT = m.map keyT) = false := decide_eq_false (fun h => hx (by
          have := congrArg (fun q => q[k]?) h
          simpa [hk, hk2] using this))
        rw [e]
        simp only [keyT, Prod.mk.injEq, not_and] at hx
        clear h2 t1 t2 e
        by_cases q1 : l[k].kind = m[k].kind
        · by_cases q2 : l[k].text = m[k].text
          · have q3 := hx q1 q2
            clear hx
            ((repeat' ((first | (show WT _ _ (Tree.test _ _ _); first | refine WT_i64 (by omega) ?_ | refine WT_inR (by simp [inR]; omega) ?_ | refine WT_t rfl ?_ | refine WT_f rfl ?_ | refine WT_ixmZ (by first | assumption | omega) ?_ | refine WT_ixZ (by first | assumption | omega) ?_ | refine WT_ixmS (by first | assumption | omega) ?_ | refine WT_ixS (by first | assumption | omega) ?_ | refine WT_ixm (by first | assumption | omega) ?_ | refine WT_ixl (by first | assumption | omega) ?_ | refine WT_guard (by first | (simp [inR]; done) | (simp [inR]; omega)) ?_ | refine WT_yT (by first | assumption | omega | exact rfl) ?_ | refine WT_nT (by first | assumption | omega) ?_ | refine WT_yF (by first | assumption | omega) ?_ | refine WT_nF (by first | assumption | omega | exact rfl) ?_ | refine WT_nyT (by first | assumption | omega) ?_ | refine WT_nnT (by first | assumption | omega | exact rfl) ?_ | refine WT_nyF (by first | assumption | omega | exact rfl) ?_ | refine WT_nnF (by first | assumption | omega) ?_ | refine WT_byT (by assumption) ?_ | refine WT_bnT (by assumption) ?_ | refine WT_byF (by assumption) ?_ | refine WT_bnF (by assumption) ?_ | refine WT_yes (by first | assumption | omega | exact rfl) ?_ | refine WT_no (by first | assumption | omega) ?_ | refine WT_nyes (by first | assumption | omega) ?_ | refine WT_nno (by first | assumption | omega | exact rfl) ?_ | refine WT_ty (by assumption) ?_ | refine WT_f (by assumption) ?_ | refine WT_nby (by assumption) ?_ | refine WT_nbn (by assumption) ?_ | refine WT_dlenS (fun _ => ?_) (fun _ => ?_) | refine WT_dlen (fun _ => ?_) (fun _ => ?_) | refine WT_decT (fun _ => ?_) (fun _ => ?_) | refine WT_decF (fun _ => ?_) (fun _ => ?_) | refine WT_ndecT (fun _ => ?_) (fun _ => ?_) | refine WT_ndecF (fun _ => ?_) (fun _ => ?_) | refine WT_bT (fun _ => ?_) (fun _ => ?_) | refine WT_bF (fun _ => ?_) (fun _ => ?_) | refine WT_dec (fun _ => ?_) (fun _ => ?_) | refine WT_ndec (fun _ => ?_) (fun _ => ?_) | refine WT_nb (fun _ => ?_) (fun _ => ?_) | refine WT_test (fun _ => ?_) (fun _ => ?_)) | (show WT _ _ (Tree.call _ _ _); refine WT_call _ (by assumption) ?_) | (show WT _ _ (Tree.elem _ _ _); first | refine WT_elmZ (by first | assumption | omega) ?_ | refine WT_elmS (by first | assumption | omega) ?_ | refine WT_elm (by first | assumption | omega) ?_ | refine WT_elem _ (map_get _ _ _ (by first | assumption | omega)) ?_ | refine WT_elem _ (by assumption) ?_) | (show WT _ _ (Tree.byte _ _ _); first | refine WT_bytZ (by first | assumption | omega) ?_ | refine WT_bytS (by first | assumption | omega) ?_ | refine WT_byt (by first | assumption | omega) ?_ | refine WT_bytN (by first | assumption | omega) ?_) | (show WT _ _ (Tree.same _ _ _); refine WT_same rfl ?_)))))
            exact WT_leave (WT_ret (P := P0) rfl rfl rfl rfl rfl)
          · clear hx
            ((repeat' ((first | (show WT _ _ (Tree.test _ _ _); first | refine WT_i64 (by omega) ?_ | refine WT_inR (by simp [inR]; omega) ?_ | refine WT_t rfl ?_ | refine WT_f rfl ?_ | refine WT_ixmZ (by first | assumption | omega) ?_ | refine WT_ixZ (by first | assumption | omega) ?_ | refine WT_ixmS (by first | assumption | omega) ?_ | refine WT_ixS (by first | assumption | omega) ?_ | refine WT_ixm (by first | assumption | omega) ?_ | refine WT_ixl (by first | assumption | omega) ?_ | refine WT_guard (by first | (simp [inR]; done) | (simp [inR]; omega)) ?_ | refine WT_yT (by first | assumption | omega | exact rfl) ?_ | refine WT_nT (by first | assumption | omega) ?_ | refine WT_yF (by first | assumption | omega) ?_ | refine WT_nF (by first | assumption | omega | exact rfl) ?_ | refine WT_nyT (by first | assumption | omega) ?_ | refine WT_nnT (by first | assumption | omega | exact rfl) ?_ | refine WT_nyF (by first | assumption | omega | exact rfl) ?_ | refine WT_nnF (by first | assumption | omega) ?_ | refine WT_byT (by assumption) ?_ | refine WT_bnT (by assumption) ?_ | refine WT_byF (by assumption) ?_ | refine WT_bnF (by assumption) ?_ | refine WT_yes (by first | assumption | omega | exact rfl) ?_ | refine WT_no (by first | assumption | omega) ?_ | refine WT_nyes (by first | assumption | omega) ?_ | refine WT_nno (by first | assumption | omega | exact rfl) ?_ | refine WT_ty (by assumption) ?_ | refine WT_f (by assumption) ?_ | refine WT_nby (by assumption) ?_ | refine WT_nbn (by assumption) ?_ | refine WT_dlenS (fun _ => ?_) (fun _ => ?_) | refine WT_dlen (fun _ => ?_) (fun _ => ?_) | refine WT_decT (fun _ => ?_) (fun _ => ?_) | refine WT_decF (fun _ => ?_) (fun _ => ?_) | refine WT_ndecT (fun _ => ?_) (fun _ => ?_) | refine WT_ndecF (fun _ => ?_) (fun _ => ?_) | refine WT_bT (fun _ => ?_) (fun _ => ?_) | refine WT_bF (fun _ => ?_) (fun _ => ?_) | refine WT_dec (fun _ => ?_) (fun _ => ?_) | refine WT_ndec (fun _ => ?_) (fun _ => ?_) | refine WT_nb (fun _ => ?_) (fun _ => ?_) | refine WT_test (fun _ => ?_) (fun _ => ?_)) | (show WT _ _ (Tree.call _ _ _); refine WT_call _ (by assumption) ?_) | (show WT _ _ (Tree.elem _ _ _); first | refine WT_elmZ (by first | assumption | omega) ?_ | refine WT_elmS (by first | assumption | omega) ?_ | refine WT_elm (by first | assumption | omega) ?_ | refine WT_elem _ (map_get _ _ _ (by first | assumption | omega)) ?_ | refine WT_elem _ (by assumption) ?_) | (show WT _ _ (Tree.byte _ _ _); first | refine WT_bytZ (by first | assumption | omega) ?_ | refine WT_bytS (by first | assumption | omega) ?_ | refine WT_byt (by first | assumption | omega) ?_ | refine WT_bytN (by first | assumption | omega) ?_) | (show WT _ _ (Tree.same _ _ _); refine WT_same rfl ?_)))))
            exact WT_leave (WT_ret (P := P0) rfl rfl rfl rfl rfl)
        · clear hx
          ((repeat' ((first | (show WT _ _ (Tree.test _ _ _); first | refine WT_i64 (by omega) ?_ | refine WT_inR (by simp [inR]; omega) ?_ | refine WT_t rfl ?_ | refine WT_f rfl ?_ | refine WT_ixmZ (by first | assumption | omega) ?_ | refine WT_ixZ (by first | assumption | omega) ?_ | refine WT_ixmS (by first | assumption | omega) ?_ | refine WT_ixS (by first | assumption | omega) ?_ | refine WT_ixm (by first | assumption | omega) ?_ | refine WT_ixl (by first | assumption | omega) ?_ | refine WT_guard (by first | (simp [inR]; done) | (simp [inR]; omega)) ?_ | refine WT_yT (by first | assumption | omega | exact rfl) ?_ | refine WT_nT (by first | assumption | omega) ?_ | refine WT_yF (by first | assumption | omega) ?_ | refine WT_nF (by first | assumption | omega | exact rfl) ?_ | refine WT_nyT (by first | assumption | omega) ?_ | refine WT_nnT (by first | assumption | omega | exact rfl) ?_ | refine WT_nyF (by first | assumption | omega | exact rfl) ?_ | refine WT_nnF (by first | assumption | omega) ?_ | refine WT_byT (by assumption) ?_ | refine WT_bnT (by assumption) ?_ | refine WT_byF (by assumption) ?_ | refine WT_bnF (by assumption) ?_ | refine WT_yes (by first | assumption | omega | exact rfl) ?_ | refine WT_no (by first | assumption | omega) ?_ | refine WT_nyes (by first | assumption | omega) ?_ | refine WT_nno (by first | assumption | omega | exact rfl) ?_ | refine WT_ty (by assumption) ?_ | refine WT_f (by assumption) ?_ | refine WT_nby (by assumption) ?_ | refine WT_nbn (by assumption) ?_ | refine WT_dlenS (fun _ => ?_) (fun _ => ?_) | refine WT_dlen (fun _ => ?_) (fun _ => ?_) | refine WT_decT (fun _ => ?_) (fun _ => ?_) | refine WT_decF (fun _ => ?_) (fun _ => ?_) | refine WT_ndecT (fun _ => ?_) (fun _ => ?_) | refine WT_ndecF (fun _ => ?_) (fun _ => ?_) | refine WT_bT (fun _ => ?_) (fun _ => ?_) | refine WT_bF (fun _ => ?_) (fun _ => ?_) | refine WT_dec (fun _ => ?_) (fun _ => ?_) | refine WT_ndec (fun _ => ?_) (fun _ => ?_) | refine WT_nb (fun _ => ?_) (fun _ => ?_) | refine WT_test (fun _ => ?_) (fun _ => ?_)) | (show WT _ _ (Tree.call _ _ _); refine WT_call _ (by assumption) ?_) | (show WT _ _ (Tree.elem _ _ _); first | refine WT_elmZ (by first | assumption | omega) ?_ | refine WT_elmS (by first | assumption | omega) ?_ | refine WT_elm (by first | assumption | omega) ?_ | refine WT_elem _ (map_get _ _ _ (by first | assumption | omega)) ?_ | refine WT_elem _ (by assumption) ?_) | (show WT _ _ (Tree.byte _ _ _); first | refine WT_bytZ (by first | assumption | omega) ?_ | refine WT_bytS (by first | assumption | omega) ?_ | refine WT_byt (by first | assumption | omega) ?_ | refine WT_bytN (by first | assumption | omega) ?_) | (show WT _ _ (Tree.same _ _ _); refine WT_same rfl ?_)))))
          exact WT_leave (WT_ret (P := P0) rfl rfl rfl rfl rfl)
    · have e : decide (l.map keyT = m.map keyT) = true := by
        rw [List.take_of_length_le (by omega), List.take_of_length_le (by omega)] at h2
        exact decide_eq_true h2
      rw [e]
      clear h2 e
      ((repeat' ((first | (show WT _ _ (Tree.test _ _ _); first | refine WT_i64 (by omega) ?_ | refine WT_inR (by simp [inR]; omega) ?_ | refine WT_t rfl ?_ | refine WT_f rfl ?_ | refine WT_ixmZ (by first | assumption | omega) ?_ | refine WT_ixZ (by first | assumption | omega) ?_ | refine WT_ixmS (by first | assumption | omega) ?_ | refine WT_ixS (by first | assumption | omega) ?_ | refine WT_ixm (by first | assumption | omega) ?_ | refine WT_ixl (by first | assumption | omega) ?_ | refine WT_guard (by first | (simp [inR]; done) | (simp [inR]; omega)) ?_ | refine WT_yT (by first | assumption | omega | exact rfl) ?_ | refine WT_nT (by first | assumption | omega) ?_ | refine WT_yF (by first | assumption | omega) ?_ | refine WT_nF (by first | assumption | omega | exact rfl) ?_ | refine WT_nyT (by first | assumption | omega) ?_ | refine WT_nnT (by first | assumption | omega | exact rfl) ?_ | refine WT_nyF (by first | assumption | omega | exact rfl) ?_ | refine WT_nnF (by first | assumption | omega) ?_ | refine WT_byT (by assumption) ?_ | refine WT_bnT (by assumption) ?_ | refine WT_byF (by assumption) ?_ | refine WT_bnF (by assumption) ?_ | refine WT_yes (by first | assumption | omega | exact rfl) ?_ | refine WT_no (by first | assumption | omega) ?_ | refine WT_nyes (by first | assumption | omega) ?_ | refine WT_nno (by first | assumption | omega | exact rfl) ?_ | refine WT_ty (by assumption) ?_ | refine WT_f (by assumption) ?_ | refine WT_nby (by assumption) ?_ | refine WT_nbn (by assumption) ?_ | refine WT_dlenS (fun _ => ?_) (fun _ => ?_) | refine WT_dlen (fun _ => ?_) (fun _ => ?_) | refine WT_decT (fun _ => ?_) (fun _ => ?_) | refine WT_decF (fun _ => ?_) (fun _ => ?_) | refine WT_ndecT (fun _ => ?_) (fun _ => ?_) | refine WT_ndecF (fun _ => ?_) (fun _ => ?_) | refine WT_bT (fun _ => ?_) (fun _ => ?_) | refine WT_bF (fun _ => ?_) (fun _ => ?_) | refine WT_dec (fun _ => ?_) (fun _ => ?_) | refine WT_ndec (fun _ => ?_) (fun _ => ?_) | refine WT_nb (fun _ => ?_) (fun _ => ?_) | refine WT_test (fun _ => ?_) (fun _ => ?_)) | (show WT _ _ (Tree.call _ _ _); refine WT_call _ (by assumption) ?_) | (show WT _ _ (Tree.elem _ _ _); first | refine WT_elmZ (by first | assumption | omega) ?_ | refine WT_elmS (by first | assumption | omega) ?_ | refine WT_elm (by first | assumption | omega) ?_ | refine WT_elem _ (map_get _ _ _ (by first | assumption | omega)) ?_ | refine WT_elem _ (by assumption) ?_) | (show WT _ _ (Tree.byte _ _ _); first | refine WT_bytZ (by first | assumption | omega) ?_ | refine WT_bytS (by first | assumption | omega) ?_ | refine WT_byt (by first | assumption | omega) ?_ | refine WT_bytN (by first | assumption | omega) ?_) | (show WT _ _ (Tree.same _ _ _); refine WT_same rfl ?_)))))
      exact WT_ret (P := P0) rfl rfl rfl rfl rfl
  · have e : decide (l.map keyT = m.map keyT) = false := decide_eq_false (fun h => hlm (by simpa using congrArg List.length h))
    rw [e]
    refine Ret_by is_ref04_Alike rfl ?_
    ((repeat' ((first | (show WT _ _ (Tree.test _ _ _); first | refine WT_i64 (by omega) ?_ | refine WT_inR (by simp [inR]; omega) ?_ | refine WT_t rfl ?_ | refine WT_f rfl ?_ | refine WT_ixmZ (by first | assumption | omega) ?_ | refine WT_ixZ (by first | assumption | omega) ?_ | refine WT_ixmS (by first | assumption | omega) ?_ | refine WT_ixS (by first | assumption | omega) ?_ | refine WT_ixm (by first | assumption | omega) ?_ | refine WT_ixl (by first | assumption | omega) ?_ | refine WT_guard (by first | (simp [inR]; done) | (simp [inR]; omega)) ?_ | refine WT_yT (by first | assumption | omega | exact rfl) ?_ | refine WT_nT (by first | assumption | omega) ?_ | refine WT_yF (by first | assumption | omega) ?_ | refine WT_nF (by first | assumption | omega | exact rfl) ?_ | refine WT_nyT (by first | assumption | omega) ?_ | refine WT_nnT (by first | assumption | omega | exact rfl) ?_ | refine WT_nyF (by first | assumption | omega | exact rfl) ?_ | refine WT_nnF (by first | assumption | omega) ?_ | refine WT_byT (by assumption) ?_ | refine WT_bnT (by assumption) ?_ | refine WT_byF (by assumption) ?_ | refine WT_bnF (by assumption) ?_ | refine WT_yes (by first | assumption | omega | exact rfl) ?_ | refine WT_no (by first | assumption | omega) ?_ | refine WT_nyes (by first | assumption | omega) ?_ | refine WT_nno (by first | assumption | omega | exact rfl) ?_ | refine WT_ty (by assumption) ?_ | refine WT_f (by assumption) ?_ | refine WT_nby (by assumption) ?_ | refine WT_nbn (by assumption) ?_ | refine WT_dlenS (fun _ => ?_) (fun _ => ?_) | refine WT_dlen (fun _ => ?_) (fun _ => ?_) | refine WT_decT (fun _ => ?_) (fun _ => ?_) | refine WT_decF (fun _ => ?_) (fun _ => ?_) | refine WT_ndecT (fun _ => ?_) (fun _ => ?_) | refine WT_ndecF (fun _ => ?_) (fun _ => ?_) | refine WT_bT (fun _ => ?_) (fun _ => ?_) | refine WT_bF (fun _ => ?_) (fun _ => ?_) | refine WT_dec (fun _ => ?_) (fun _ => ?_) | refine WT_ndec (fun _ => ?_) (fun _ => ?_) | refine WT_nb (fun _ => ?_) (fun _ => ?_) | refine WT_test (fun _ => ?_) (fun _ => ?_)) | (show WT _ _ (Tree.call _ _ _); refine WT_call _ (by assumption) ?_) | (show WT _ _ (Tree.elem _ _ _); first | refine WT_elmZ (by first | assumption | omega) ?_ | refine WT_elmS (by first | assumption | omega) ?_ | refine WT_elm (by first | assumption | omega) ?_ | refine WT_elem _ (map_get _ _ _ (by first | assumption | omega)) ?_ | refine WT_elem _ (by assumption) ?_) | (show WT _ _ (Tree.byte _ _ _); first | refine WT_bytZ (by first | assumption | omega) ?_ | refine WT_bytS (by first | assumption | omega) ?_ | refine WT_byt (by first | assumption | omega) ?_ | refine WT_bytN (by first | assumption | omega) ?_) | (show WT _ _ (Tree.same _ _ _); refine WT_same rfl ?_)))))
    exact WT_ret (P := P0) rfl rfl rfl rfl rfl
end Uw.Tryd

/- lex: Show. -/
set_option linter.unusedVariables false
set_option linter.unusedSimpArgs false
namespace Uw.Tryd
open Go Uw Go.Proofs Go.RowKit

def total (l : List Tok) : Nat := (l.map fun t => t.text.length + 1).sum
theorem join_snoc (ws : List (List UInt8)) (w : List UInt8) (h : ws ≠ []) : Lib.join (ws ++ [w]) [32] = Lib.join ws [32] ++ (32 :: w) := by
  cases ws with
  | nil => exact absurd rfl h
  | cons x r => rw [List.cons_append, Lib.join_cons, Lib.join_cons]; simp [Lib.joinTail]
theorem show_take (l : List Tok) (k : Nat) (h : k < l.length) : showT (l.take (k + 1)) = if k = 0 then l[k].text else showT (l.take k) ++ (32 :: l[k].text) := by
  rw [showT, showT, take_one l k h, List.map_append]
  by_cases hk : k = 0
  · subst hk; rw [if_pos rfl]; exact Lib.join_one _ _
  · rw [if_neg hk]
    exact join_snoc _ _ (by intro e; have h3 := congrArg List.length e; rw [List.length_map, List.length_take, List.length_nil] at h3; omega)
theorem total_take (l : List Tok) (k : Nat) (h : k < l.length) : total (l.take (k + 1)) = total (l.take k) + (l[k].text.length + 1) := by
  rw [total, total, take_one l k h, List.map_append, List.sum_append]; simp
theorem show_le (l : List Tok) : ∀ k, k ≤ l.length → (showT (l.take k)).length ≤ total (l.take k)
  | 0, _ => by simp [showT, Lib.join_nil]
  | k + 1, h => by
    have ih := show_le l k (by omega)
    rw [show_take l k (by omega), total_take l k (by omega)]
    split
    · omega
    · simp; omega
theorem total_mono (l : List Tok) (k : Nat) : total (l.take k) ≤ total l := by
  have e : l = l.take k ++ l.drop k := by simp
  conv => rhs; rw [e]
  rw [total, total, List.map_append, List.sum_append]; omega
theorem total_len (l : List Tok) : l.length ≤ total l := by
  induction l with
  | nil => simp
  | cons t r ih => rw [total, List.map_cons, List.sum_cons, List.length_cons]; rw [total] at ih; omega

set_option maxRecDepth 4000 in
set_option maxHeartbeats 2000000 in
theorem s_ref04_Show (l : List Tok) (ht : total l < 1000000) : Ret P0 n_ref04_Show [toksD l] (.str (showT l)) := by
  have e1 : (l.map tokL).length = l.length := by simp
  have hl := total_len l
  refine Ret_by is_ref04_Show rfl ?_
  ((repeat' ((first | (show WT _ _ (Tree.test _ _ _); first | refine WT_i64 (by omega) ?_ | refine WT_inR (by simp [inR]; omega) ?_ | refine WT_t rfl ?_ | refine WT_f rfl ?_ | refine WT_ixmZ (by first | assumption | omega) ?_ | refine WT_ixZ (by first | assumption | omega) ?_ | refine WT_ixmS (by first | assumption | omega) ?_ | refine WT_ixS (by first | assumption | omega) ?_ | refine WT_ixm (by first | assumption | omega) ?_ | refine WT_ixl (by first | assumption | omega) ?_ | refine WT_guard (by first | (simp [inR]; done) | (simp [inR]; omega)) ?_ | refine WT_yT (by first | assumption | omega | exact rfl) ?_ | refine WT_nT (by first | assumption | omega) ?_ | refine WT_yF (by first | assumption | omega) ?_ | refine WT_nF (by first | assumption | omega | exact rfl) ?_ | refine WT_nyT (by first | assumption | omega) ?_ | refine WT_nnT (by first | assumption | omega | exact rfl) ?_ | refine WT_nyF (by first | assumption | omega | exact rfl) ?_ | refine WT_nnF (by first | assumption | omega) ?_ | refine WT_byT (by assumption) ?_ | refine WT_bnT (by assumption) ?_ | refine WT_byF (by assumption) ?_ | refine WT_bnF (by assumption) ?_ | refine WT_yes (by first | assumption | omega | exact rfl) ?_ | refine WT_no (by first | assumption | omega) ?_ | refine WT_nyes (by first | assumption | omega) ?_ | refine WT_nno (by first | assumption | omega | exact rfl) ?_ | refine WT_ty (by assumption) ?_ | refine WT_f (by assumption) ?_ | refine WT_nby (by assumption) ?_ | refine WT_nbn (by assumption) ?_ | refine WT_dlenS (fun _ => ?_) (fun _ => ?_) | refine WT_dlen (fun _ => ?_) (fun _ => ?_) | refine WT_decT (fun _ => ?_) (fun _ => ?_) | refine WT_decF (fun _ => ?_) (fun _ => ?_) | refine WT_ndecT (fun _ => ?_) (fun _ => ?_) | refine WT_ndecF (fun _ => ?_) (fun _ => ?_) | refine WT_bT (fun _ => ?_) (fun _ => ?_) | refine WT_bF (fun _ => ?_) (fun _ => ?_) | refine WT_dec (fun _ => ?_) (fun _ => ?_) | refine WT_ndec (fun _ => ?_) (fun _ => ?_) | refine WT_nb (fun _ => ?_) (fun _ => ?_) | refine WT_test (fun _ => ?_) (fun _ => ?_)) | (show WT _ _ (Tree.call _ _ _); refine WT_call _ (by assumption) ?_) | (show WT _ _ (Tree.elem _ _ _); first | refine WT_elmZ (by first | assumption | omega) ?_ | refine WT_elmS (by first | assumption | omega) ?_ | refine WT_elm (by first | assumption | omega) ?_ | refine WT_elem _ (map_get _ _ _ (by first | assumption | omega)) ?_ | refine WT_elem _ (by assumption) ?_) | (show WT _ _ (Tree.byte _ _ _); first | refine WT_bytZ (by first | assumption | omega) ?_ | refine WT_bytS (by first | assumption | omega) ?_ | refine WT_byt (by first | assumption | omega) ?_ | refine WT_bytN (by first | assumption | omega) ?_) | (show WT _ _ (Tree.same _ _ _); refine WT_same rfl ?_)))))
  refine WT_loop (fun ((k, s) : Nat × List UInt8) => ⟨[(4, .d (I k)), (3, .d (.str s)), (0, .d (toksD l))], [], 0, [], 0⟩) (fun (k, s) => k ≤ l.length ∧ s = showT (l.take k)) (fun (k, _) => l.length - k) (0, []) (by ((refine Weak.of ?_ ?_ rfl rfl ?_ rfl rfl <;> repeat' first | exact trivial | refine ⟨⟨_, rfl, Or.inl ⟨rfl, rfl⟩⟩, ?_⟩ | refine ⟨⟨_, rfl, Or.inr (Or.inl ⟨rfl, by first | exact ⟨_, _, rfl, rfl, Or.inl rfl⟩ | exact ⟨_, _, rfl, rfl, Or.inr rfl⟩⟩)⟩, ?_⟩ | refine ⟨⟨_, rfl, Or.inr (Or.inr rfl)⟩, ?_⟩ | refine ⟨⟨_, rfl, VW_int (by assumption)⟩, ?_⟩ | refine ⟨⟨Or.inl ⟨_, rfl, ⟨rfl, rfl⟩⟩, rfl⟩, ?_⟩ | refine ⟨⟨Or.inl ⟨_, rfl, ⟨rfl, rfl, rfl⟩⟩, rfl⟩, ?_⟩ | refine ⟨⟨Or.inl ⟨_, rfl, BSim_by rfl rfl⟩, rfl⟩, ?_⟩ | refine ⟨⟨Or.inr ⟨rfl, rfl⟩, rfl⟩, ?_⟩ | refine ⟨⟨Or.inr ⟨rfl, rfl, rfl⟩, rfl⟩, ?_⟩))) ⟨by omega, rfl⟩ ?_
  rintro ⟨k, s⟩ ⟨h1, h2⟩
  by_cases hk : k < l.length
  · have t1 := show_take l k hk
    have t2 := show_le l k (by omega)
    have t3 := total_mono l (k + 1)
    have t4 := total_take l k hk
    rw [← h2] at t1 t2
    by_cases h0 : k = 0
    · rw [if_pos h0] at t1
      have hs : s = [] := by subst h0; exact h2
      subst hs
      clear h2
      ((repeat' ((first | (show WT _ _ (Tree.test _ _ _); first | refine WT_i64 (by omega) ?_ | refine WT_inR (by simp [inR]; omega) ?_ | refine WT_t rfl ?_ | refine WT_f rfl ?_ | refine WT_ixmZ (by first | assumption | omega) ?_ | refine WT_ixZ (by first | assumption | omega) ?_ | refine WT_ixmS (by first | assumption | omega) ?_ | refine WT_ixS (by first | assumption | omega) ?_ | refine WT_ixm (by first | assumption | omega) ?_ | refine WT_ixl (by first | assumption | omega) ?_ | refine WT_guard (by first | (simp [inR]; done) | (simp [inR]; omega)) ?_ | refine WT_yT (by first | assumption | omega | exact rfl) ?_ | refine WT_nT (by first | assumption | omega) ?_ | refine WT_yF (by first | assumption | omega) ?_ | refine WT_nF (by first | assumption | omega | exact rfl) ?_ | refine WT_nyT (by first | assumption | omega) ?_ | refine WT_nnT (by first | assumption | omega | exact rfl) ?_ | refine WT_nyF (by first | assumption | omega | exact rfl) ?_ | refine WT_nnF (by first | assumption | omega) ?_ | refine WT_byT (by assumption) ?_ | refine WT_bnT (by assumption) ?_ | refine WT_byF (by assumption) ?_ | refine WT_bnF (by assumption) ?_ | refine WT_yes (by first | assumption | omega | exact rfl) ?_ | refine WT_no (by first | assumption | omega) ?_ | refine WT_nyes (by first | assumption | omega) ?_ | refine WT_nno (by first | assumption | omega | exact rfl) ?_ | refine WT_ty (by assumption) ?_ | refine WT_f (by assumption) ?_ | refine WT_nby (by assumption) ?_ | refine WT_nbn (by assumption) ?_ | refine WT_dlenS (fun _ => ?_) (fun _ => ?_) | refine WT_dlen (fun _ => ?_) (fun _ => ?_) | refine WT_decT (fun _ => ?_) (fun _ => ?_) | refine WT_decF (fun _ => ?_) (fun _ => ?_) | refine WT_ndecT (fun _ => ?_) (fun _ => ?_) | refine WT_ndecF (fun _ => ?_) (fun _ => ?_) | refine WT_bT (fun _ => ?_) (fun _ => ?_) | refine WT_bF (fun _ => ?_) (fun _ => ?_) | refine WT_dec (fun _ => ?_) (fun _ => ?_) | refine WT_ndec (fun _ => ?_) (fun _ => ?_) | refine WT_nb (fun _ => ?_) (fun _ => ?_) | refine WT_test (fun _ => ?_) (fun _ => ?_)) | (show WT _ _ (Tree.call _ _ _); refine WT_call _ (by assumption) ?_) | (show WT _ _ (Tree.elem _ _ _); first | refine WT_elmZ (by first | assumption | omega) ?_ | refine WT_elmS (by first | assumption | omega) ?_ | refine WT_elm (by first | assumption | omega) ?_ | refine WT_elem _ (map_get _ _ _ (by first | assumption | omega)) ?_ | refine WT_elem _ (by assumption) ?_) | (show WT _ _ (Tree.byte _ _ _); first | refine WT_bytZ (by first | assumption | omega) ?_ | refine WT_bytS (by first | assumption | omega) ?_ | refine WT_byt (by first | assumption | omega) ?_ | refine WT_bytN (by first | assumption | omega) ?_) | (show WT _ _ (Tree.same _ _ _); refine WT_same rfl ?_)))))
      exact WT_again (k + 1, [] ++ l[k].text) ⟨by omega, t1.symm⟩ (by simp only; omega) (by ((refine Weak.of ?_ ?_ rfl rfl ?_ rfl rfl <;> repeat' first | exact trivial | refine ⟨⟨_, rfl, Or.inl ⟨rfl, rfl⟩⟩, ?_⟩ | refine ⟨⟨_, rfl, Or.inr (Or.inl ⟨rfl, by first | exact ⟨_, _, rfl, rfl, Or.inl rfl⟩ | exact ⟨_, _, rfl, rfl, Or.inr rfl⟩⟩)⟩, ?_⟩ | refine ⟨⟨_, rfl, Or.inr (Or.inr rfl)⟩, ?_⟩ | refine ⟨⟨_, rfl, VW_int (by assumption)⟩, ?_⟩ | refine ⟨⟨Or.inl ⟨_, rfl, ⟨rfl, rfl⟩⟩, rfl⟩, ?_⟩ | refine ⟨⟨Or.inl ⟨_, rfl, ⟨rfl, rfl, rfl⟩⟩, rfl⟩, ?_⟩ | refine ⟨⟨Or.inl ⟨_, rfl, BSim_by rfl rfl⟩, rfl⟩, ?_⟩ | refine ⟨⟨Or.inr ⟨rfl, rfl⟩, rfl⟩, ?_⟩ | refine ⟨⟨Or.inr ⟨rfl, rfl, rfl⟩, rfl⟩, ?_⟩)))
    · rw [if_neg h0] at t1
      have h0' : 0 < k := by omega
      clear h2
      ((repeat' ((first | (show WT _ _ (Tree.test _ _ _); first | refine WT_i64 (by omega) ?_ | refine WT_inR (by simp [inR]; omega) ?_ | refine WT_t rfl ?_ | refine WT_f rfl ?_ | refine WT_ixmZ (by first | assumption | omega) ?_ | refine WT_ixZ (by first | assumption | omega) ?_ | refine WT_ixmS (by first | assumption | omega) ?_ | refine WT_ixS (by first | assumption | omega) ?_ | refine WT_ixm (by first | assumption | omega) ?_ | refine WT_ixl (by first | assumption | omega) ?_ | refine WT_guard (by first | (simp [inR]; done) | (simp [inR]; omega)) ?_ | refine WT_yT (by first | assumption | omega | exact rfl) ?_ | refine WT_nT (by first | assumption | omega) ?_ | refine WT_yF (by first | assumption | omega) ?_ | refine WT_nF (by first | assumption | omega | exact rfl) ?_ | refine WT_nyT (by first | assumption | omega) ?_ | refine WT_nnT (by first | assumption | omega | exact rfl) ?_ | refine WT_nyF (by first | assumption | omega | exact rfl) ?_ | refine WT_nnF (by first | assumption | omega) ?_ | refine WT_byT (by assumption) ?_ | refine WT_bnT (by assumption) ?_ | refine WT_byF (by assumption) ?_ | refine WT_bnF (by assumption) ?_ | refine WT_yes (by first | assumption | omega | exact rfl) ?_ | refine WT_no (by first | assumption | omega) ?_ | refine WT_nyes (by first | assumption | omega) ?_ | refine WT_nno (by first | assumption | omega | exact rfl) ?_ | refine WT_ty (by assumption) ?_ | refine WT_f (by assumption) ?_ | refine WT_nby (by assumption) ?_ | refine WT_nbn (by assumption) ?_ | refine WT_dlenS (fun _ => ?_) (fun _ => ?_) | refine WT_dlen (fun _ => ?_) (fun _ => ?_) | refine WT_decT (fun _ => ?_) (fun _ => ?_) | refine WT_decF (fun _ => ?_) (fun _ => ?_) | refine WT_ndecT (fun _ => ?_) (fun _ => ?_) | refine WT_ndecF (fun _ => ?_) (fun _ => ?_) | refine WT_bT (fun _ => ?_) (fun _ => ?_) | refine WT_bF (fun _ => ?_) (fun _ => ?_) | refine WT_dec (fun _ => ?_) (fun _ => ?_) | refine WT_ndec (fun _ => ?_) (fun _ => ?_) | refine WT_nb (fun _ => ?_) (fun _ => ?_) | refine WT_test (fun _ => ?_) (fun _ => ?_)) | (show WT _ _ (Tree.call _ _ _); refine WT_call _ (by assumption) ?_) | (show WT _ _ (Tree.elem _ _ _); first | refine WT_elmZ (by first | assumption | omega) ?_ | refine WT_elmS (by first | assumption | omega) ?_ | refine WT_elm (by first | assumption | omega) ?_ | refine WT_elem _ (map_get _ _ _ (by first | assumption | omega)) ?_ | refine WT_elem _ (by assumption) ?_) | (show WT _ _ (Tree.byte _ _ _); first | refine WT_bytZ (by first | assumption | omega) ?_ | refine WT_bytS (by first | assumption | omega) ?_ | refine WT_byt (by first | assumption | omega) ?_ | refine WT_bytN (by first | assumption | omega) ?_) | (show WT _ _ (Tree.same _ _ _); refine WT_same rfl ?_)))))
      exact WT_again (k + 1, s ++ [32] ++ l[k].text) ⟨by omega, by rw [t1]; simp⟩ (by simp only; omega) (by ((refine Weak.of ?_ ?_ rfl rfl ?_ rfl rfl <;> repeat' first | exact trivial | refine ⟨⟨_, rfl, Or.inl ⟨rfl, rfl⟩⟩, ?_⟩ | refine ⟨⟨_, rfl, Or.inr (Or.inl ⟨rfl, by first | exact ⟨_, _, rfl, rfl, Or.inl rfl⟩ | exact ⟨_, _, rfl, rfl, Or.inr rfl⟩⟩)⟩, ?_⟩ | refine ⟨⟨_, rfl, Or.inr (Or.inr rfl)⟩, ?_⟩ | refine ⟨⟨_, rfl, VW_int (by assumption)⟩, ?_⟩ | refine ⟨⟨Or.inl ⟨_, rfl, ⟨rfl, rfl⟩⟩, rfl⟩, ?_⟩ | refine ⟨⟨Or.inl ⟨_, rfl, ⟨rfl, rfl, rfl⟩⟩, rfl⟩, ?_⟩ | refine ⟨⟨Or.inl ⟨_, rfl, BSim_by rfl rfl⟩, rfl⟩, ?_⟩ | refine ⟨⟨Or.inr ⟨rfl, rfl⟩, rfl⟩, ?_⟩ | refine ⟨⟨Or.inr ⟨rfl, rfl, rfl⟩, rfl⟩, ?_⟩)))
  · have e : s = showT l := by rw [h2, List.take_of_length_le (by omega)]
    clear h2
    ((repeat' ((first | (show WT _ _ (Tree.test _ _ _); first | refine WT_i64 (by omega) ?_ | refine WT_inR (by simp [inR]; omega) ?_ | refine WT_t rfl ?_ | refine WT_f rfl ?_ | refine WT_ixmZ (by first | assumption | omega) ?_ | refine WT_ixZ (by first | assumption | omega) ?_ | refine WT_ixmS (by first | assumption | omega) ?_ | refine WT_ixS (by first | assumption | omega) ?_ | refine WT_ixm (by first | assumption | omega) ?_ | refine WT_ixl (by first | assumption | omega) ?_ | refine WT_guard (by first | (simp [inR]; done) | (simp [inR]; omega)) ?_ | refine WT_yT (by first | assumption | omega | exact rfl) ?_ | refine WT_nT (by first | assumption | omega) ?_ | refine WT_yF (by first | assumption | omega) ?_ | refine WT_nF (by first | assumption | omega | exact rfl) ?_ | refine WT_nyT (by first | assumption | omega) ?_ | refine WT_nnT (by first | assumption | omega | exact rfl) ?_ | refine WT_nyF (by first | assumption | omega | exact rfl) ?_ | refine WT_nnF (by first | assumption | omega) ?_ | refine WT_byT (by assumption) ?_ | refine WT_bnT (by assumption) ?_ | refine WT_byF (by assumption) ?_ | refine WT_bnF (by assumption) ?_ | refine WT_yes (by first | assumption | omega | exact rfl) ?_ | refine WT_no (by first | assumption | omega) ?_ | refine WT_nyes (by first | assumption | omega) ?_ | refine WT_nno (by first | assumption | omega | exact rfl) ?_ | refine WT_ty (by assumption) ?_ | refine WT_f (by assumption) ?_ | refine WT_nby (by assumption) ?_ | refine WT_nbn (by assumption) ?_ | refine WT_dlenS (fun _ => ?_) (fun _ => ?_) | refine WT_dlen (fun _ => ?_) (fun _ => ?_) | refine WT_decT (fun _ => ?_) (fun _ => ?_) | refine WT_decF (fun _ => ?_) (fun _ => ?_) | refine WT_ndecT (fun _ => ?_) (fun _ => ?_) | refine WT_ndecF (fun _ => ?_) (fun _ => ?_) | refine WT_bT (fun _ => ?_) (fun _ => ?_) | refine WT_bF (fun _ => ?_) (fun _ => ?_) | refine WT_dec (fun _ => ?_) (fun _ => ?_) | refine WT_ndec (fun _ => ?_) (fun _ => ?_) | refine WT_nb (fun _ => ?_) (fun _ => ?_) | refine WT_test (fun _ => ?_) (fun _ => ?_)) | (show WT _ _ (Tree.call _ _ _); refine WT_call _ (by assumption) ?_) | (show WT _ _ (Tree.elem _ _ _); first | refine WT_elmZ (by first | assumption | omega) ?_ | refine WT_elmS (by first | assumption | omega) ?_ | refine WT_elm (by first | assumption | omega) ?_ | refine WT_elem _ (map_get _ _ _ (by first | assumption | omega)) ?_ | refine WT_elem _ (by assumption) ?_) | (show WT _ _ (Tree.byte _ _ _); first | refine WT_bytZ (by first | assumption | omega) ?_ | refine WT_bytS (by first | assumption | omega) ?_ | refine WT_byt (by first | assumption | omega) ?_ | refine WT_bytN (by first | assumption | omega) ?_) | (show WT _ _ (Tree.same _ _ _); refine WT_same rfl ?_)))))
    exact WT_ret (P := P0) rfl rfl rfl rfl (by rw [e]; rfl)

set_option maxRecDepth 4000 in
set_option maxHeartbeats 2000000 in
theorem s_lex_Show (l : List Tok) (ht : total l < 1000000) : Ret P0 n_lex_Show [toksD l] (.str (showT l)) := by
  have e1 : (l.map tokL).length = l.length := by simp
  have hl := total_len l
  refine Ret_by is_lex_Show rfl ?_
  ((repeat' ((first | (show WT _ _ (Tree.test _ _ _); first | refine WT_i64 (by omega) ?_ | refine WT_inR (by simp [inR]; omega) ?_ | refine WT_t rfl ?_ | refine WT_f rfl ?_ | refine WT_ixmZ (by first | assumption | omega) ?_ | refine WT_ixZ (by first | assumption | omega) ?_ | refine WT_ixmS (by first | assumption | omega) ?_ | refine WT_ixS (by first | assumption | omega) ?_ | refine WT_ixm (by first | assumption | omega) ?_ | refine WT_ixl (by first | assumption | omega) ?_ | refine WT_guard (by first | (simp [inR]; done) | (simp [inR]; omega)) ?_ | refine WT_yT (by first | assumption | omega | exact rfl) ?_ | refine WT_nT (by first | assumption | omega) ?_ | refine WT_yF (by first | assumption | omega) ?_ | refine WT_nF (by first | assumption | omega | exact rfl) ?_ | refine WT_nyT (by first | assumption | omega) ?_ | refine WT_nnT (by first | assumption | omega | exact rfl) ?_ | refine WT_nyF (by first | assumption | omega | exact rfl) ?_ | refine WT_nnF (by first | assumption | omega) ?_ | refine WT_byT (by assumption) ?_ | refine WT_bnT (by assumption) ?_ | refine WT_byF (by assumption) ?_ | refine WT_bnF (by assumption) ?_ | refine WT_yes (by first | assumption | omega | exact rfl) ?_ | refine WT_no (by first | assumption | omega) ?_ | refine WT_nyes (by first | assumption | omega) ?_ | refine WT_nno (by first | assumption | omega | exact rfl) ?_ | refine WT_ty (by assumption) ?_ | refine WT_f (by assumption) ?_ | refine WT_nby (by assumption) ?_ | refine WT_nbn (by assumption) ?_ | refine WT_dlenS (fun _ => ?_) (fun _ => ?_) | refine WT_dlen (fun _ => ?_) (fun _ => ?_) | refine WT_decT (fun _ => ?_) (fun _ => ?_) | refine WT_decF (fun _ => ?_) (fun _ => ?_) | refine WT_ndecT (fun _ => ?_) (fun _ => ?_) | refine WT_ndecF (fun _ => ?_) (fun _ => ?_) | refine WT_bT (fun _ => ?_) (fun _ => ?_) | refine WT_bF (fun _ => ?_) (fun _ => ?_) | refine WT_dec (fun _ => ?_) (fun _ => ?_) | refine WT_ndec (fun _ => ?_) (fun _ => ?_) | refine WT_nb (fun _ => ?_) (fun _ => ?_) | refine WT_test (fun _ => ?_) (fun _ => ?_)) | (show WT _ _ (Tree.call _ _ _); refine WT_call _ (by assumption) ?_) | (show WT _ _ (Tree.elem _ _ _); first | refine WT_elmZ (by first | assumption | omega) ?_ | refine WT_elmS (by first | assumption | omega) ?_ | refine WT_elm (by first | assumption | omega) ?_ | refine WT_elem _ (map_get _ _ _ (by first | assumption | omega)) ?_ | refine WT_elem _ (by assumption) ?_) | (show WT _ _ (Tree.byte _ _ _); first | refine WT_bytZ (by first | assumption | omega) ?_ | refine WT_bytS (by first | assumption | omega) ?_ | refine WT_byt (by first | assumption | omega) ?_ | refine WT_bytN (by first | assumption | omega) ?_) | (show WT _ _ (Tree.same _ _ _); refine WT_same rfl ?_)))))
  refine WT_loop (fun ((k, xs) : Nat × List (List Dat)) => ⟨[(11, .d (I k)), (10, .d (I (l.map tokL).length)), (9, .d (toksD l)), (3, .ref 0 0 0 k)], [(0, .arr 1 xs)], 1, [], 0⟩) (fun (k, xs) => k ≤ l.length ∧ k = xs.length ∧ xs = ((l.take k).map (·.text)).map fun s => [Dat.str s]) (fun (k, _) => l.length - k) (0, []) (by ((refine Weak.of ?_ ?_ rfl rfl ?_ rfl rfl <;> repeat' first | exact trivial | refine ⟨⟨_, rfl, Or.inl ⟨rfl, rfl⟩⟩, ?_⟩ | refine ⟨⟨_, rfl, Or.inr (Or.inl ⟨rfl, by first | exact ⟨_, _, rfl, rfl, Or.inl rfl⟩ | exact ⟨_, _, rfl, rfl, Or.inr rfl⟩⟩)⟩, ?_⟩ | refine ⟨⟨_, rfl, Or.inr (Or.inr rfl)⟩, ?_⟩ | refine ⟨⟨_, rfl, VW_int (by assumption)⟩, ?_⟩ | refine ⟨⟨Or.inl ⟨_, rfl, ⟨rfl, rfl⟩⟩, rfl⟩, ?_⟩ | refine ⟨⟨Or.inl ⟨_, rfl, ⟨rfl, rfl, rfl⟩⟩, rfl⟩, ?_⟩ | refine ⟨⟨Or.inl ⟨_, rfl, BSim_by rfl rfl⟩, rfl⟩, ?_⟩ | refine ⟨⟨Or.inr ⟨rfl, rfl⟩, rfl⟩, ?_⟩ | refine ⟨⟨Or.inr ⟨rfl, rfl, rfl⟩, rfl⟩, ?_⟩))) ⟨by omega, rfl, rfl⟩ ?_
  rintro ⟨k, xs⟩ ⟨h1, h2, h3⟩
  by_cases hk : k < l.length
  · have t1 := take_one l k hk
    ((repeat' ((first | (show WT _ _ (Tree.test _ _ _); first | refine WT_i64 (by omega) ?_ | refine WT_inR (by simp [inR]; omega) ?_ | refine WT_t rfl ?_ | refine WT_f rfl ?_ | refine WT_ixmZ (by first | assumption | omega) ?_ | refine WT_ixZ (by first | assumption | omega) ?_ | refine WT_ixmS (by first | assumption | omega) ?_ | refine WT_ixS (by first | assumption | omega) ?_ | refine WT_ixm (by first | assumption | omega) ?_ | refine WT_ixl (by first | assumption | omega) ?_ | refine WT_guard (by first | (simp [inR]; done) | (simp [inR]; omega)) ?_ | refine WT_yT (by first | assumption | omega | exact rfl) ?_ | refine WT_nT (by first | assumption | omega) ?_ | refine WT_yF (by first | assumption | omega) ?_ | refine WT_nF (by first | assumption | omega | exact rfl) ?_ | refine WT_nyT (by first | assumption | omega) ?_ | refine WT_nnT (by first | assumption | omega | exact rfl) ?_ | refine WT_nyF (by first | assumption | omega | exact rfl) ?_ | refine WT_nnF (by first | assumption | omega) ?_ | refine WT_byT (by assumption) ?_ | refine WT_bnT (by assumption) ?_ | refine WT_byF (by assumption) ?_ | refine WT_bnF (by assumption) ?_ | refine WT_yes (by first | assumption | omega | exact rfl) ?_ | refine WT_no (by first | assumption | omega) ?_ | refine WT_nyes (by first | assumption | omega) ?_ | refine WT_nno (by first | assumption | omega | exact rfl) ?_ | refine WT_ty (by assumption) ?_ | refine WT_f (by assumption) ?_ | refine WT_nby (by assumption) ?_ | refine WT_nbn (by assumption) ?_ | refine WT_dlenS (fun _ => ?_) (fun _ => ?_) | refine WT_dlen (fun _ => ?_) (fun _ => ?_) | refine WT_decT (fun _ => ?_) (fun _ => ?_) | refine WT_decF (fun _ => ?_) (fun _ => ?_) | refine WT_ndecT (fun _ => ?_) (fun _ => ?_) | refine WT_ndecF (fun _ => ?_) (fun _ => ?_) | refine WT_bT (fun _ => ?_) (fun _ => ?_) | refine WT_bF (fun _ => ?_) (fun _ => ?_) | refine WT_dec (fun _ => ?_) (fun _ => ?_) | refine WT_ndec (fun _ => ?_) (fun _ => ?_) | refine WT_nb (fun _ => ?_) (fun _ => ?_) | refine WT_test (fun _ => ?_) (fun _ => ?_)) | (show WT _ _ (Tree.call _ _ _); refine WT_call _ (by assumption) ?_) | (show WT _ _ (Tree.elem _ _ _); first | refine WT_elmZ (by first | assumption | omega) ?_ | refine WT_elmS (by first | assumption | omega) ?_ | refine WT_elm (by first | assumption | omega) ?_ | refine WT_elem _ (map_get _ _ _ (by first | assumption | omega)) ?_ | refine WT_elem _ (by assumption) ?_) | (show WT _ _ (Tree.byte _ _ _); first | refine WT_bytZ (by first | assumption | omega) ?_ | refine WT_bytS (by first | assumption | omega) ?_ | refine WT_byt (by first | assumption | omega) ?_ | refine WT_bytN (by first | assumption | omega) ?_) | (show WT _ _ (Tree.same _ _ _); refine WT_same rfl ?_)))))
    refine WT_again (k + 1, xs ++ [[.str l[k].text]]) ⟨by omega, by simp [h2], ?_⟩ (by simp only; omega) (by ((refine Weak.of ?_ ?_ rfl rfl ?_ rfl rfl <;> repeat' first | exact trivial | refine ⟨⟨_, rfl, Or.inl ⟨rfl, rfl⟩⟩, ?_⟩ | refine ⟨⟨_, rfl, Or.inr (Or.inl ⟨rfl, by first | exact ⟨_, _, rfl, rfl, Or.inl rfl⟩ | exact ⟨_, _, rfl, rfl, Or.inr rfl⟩⟩)⟩, ?_⟩ | refine ⟨⟨_, rfl, Or.inr (Or.inr rfl)⟩, ?_⟩ | refine ⟨⟨_, rfl, VW_int (by assumption)⟩, ?_⟩ | refine ⟨⟨Or.inl ⟨_, rfl, ⟨rfl, rfl⟩⟩, rfl⟩, ?_⟩ | refine ⟨⟨Or.inl ⟨_, rfl, ⟨rfl, rfl, rfl⟩⟩, rfl⟩, ?_⟩ | refine ⟨⟨Or.inl ⟨_, rfl, BSim_by rfl rfl⟩, rfl⟩, ?_⟩ | refine ⟨⟨Or.inr ⟨rfl, rfl⟩, rfl⟩, ?_⟩ | refine ⟨⟨Or.inr ⟨rfl, rfl, rfl⟩, rfl⟩, ?_⟩)))
    rw [t1, h3, List.map_append, List.map_append]; rfl
  · have hj := s_strings_Join (l.map (·.text)) [32] false (by simp; omega) (by have := show_le l l.length (Nat.le_refl _); rw [List.take_length, showT] at this; omega)
    rw [List.take_of_length_le (by omega)] at h3
    have hj' : Ret P0 n_strings_Join [.slice 1 ((xs.drop 0).take k) false, .str [32]] (.str (showT l)) := by
      rw [List.drop_zero, h2, List.take_length, h3]; exact hj
    clear hj h3
    ((repeat' ((first | (show WT _ _ (Tree.test _ _ _); first | refine WT_i64 (by omega) ?_ | refine WT_inR (by simp [inR]; omega) ?_ | refine WT_t rfl ?_ | refine WT_f rfl ?_ | refine WT_ixmZ (by first | assumption | omega) ?_ | refine WT_ixZ (by first | assumption | omega) ?_ | refine WT_ixmS (by first | assumption | omega) ?_ | refine WT_ixS (by first | assumption | omega) ?_ | refine WT_ixm (by first | assumption | omega) ?_ | refine WT_ixl (by first | assumption | omega) ?_ | refine WT_guard (by first | (simp [inR]; done) | (simp [inR]; omega)) ?_ | refine WT_yT (by first | assumption | omega | exact rfl) ?_ | refine WT_nT (by first | assumption | omega) ?_ | refine WT_yF (by first | assumption | omega) ?_ | refine WT_nF (by first | assumption | omega | exact rfl) ?_ | refine WT_nyT (by first | assumption | omega) ?_ | refine WT_nnT (by first | assumption | omega | exact rfl) ?_ | refine WT_nyF (by first | assumption | omega | exact rfl) ?_ | refine WT_nnF (by first | assumption | omega) ?_ | refine WT_byT (by assumption) ?_ | refine WT_bnT (by assumption) ?_ | refine WT_byF (by assumption) ?_ | refine WT_bnF (by assumption) ?_ | refine WT_yes (by first | assumption | omega | exact rfl) ?_ | refine WT_no (by first | assumption | omega) ?_ | refine WT_nyes (by first | assumption | omega) ?_ | refine WT_nno (by first | assumption | omega | exact rfl) ?_ | refine WT_ty (by assumption) ?_ | refine WT_f (by assumption) ?_ | refine WT_nby (by assumption) ?_ | refine WT_nbn (by assumption) ?_ | refine WT_dlenS (fun _ => ?_) (fun _ => ?_) | refine WT_dlen (fun _ => ?_) (fun _ => ?_) | refine WT_decT (fun _ => ?_) (fun _ => ?_) | refine WT_decF (fun _ => ?_) (fun _ => ?_) | refine WT_ndecT (fun _ => ?_) (fun _ => ?_) | refine WT_ndecF (fun _ => ?_) (fun _ => ?_) | refine WT_bT (fun _ => ?_) (fun _ => ?_) | refine WT_bF (fun _ => ?_) (fun _ => ?_) | refine WT_dec (fun _ => ?_) (fun _ => ?_) | refine WT_ndec (fun _ => ?_) (fun _ => ?_) | refine WT_nb (fun _ => ?_) (fun _ => ?_) | refine WT_test (fun _ => ?_) (fun _ => ?_)) | (show WT _ _ (Tree.call _ _ _); refine WT_call _ (by assumption) ?_) | (show WT _ _ (Tree.elem _ _ _); first | refine WT_elmZ (by first | assumption | omega) ?_ | refine WT_elmS (by first | assumption | omega) ?_ | refine WT_elm (by first | assumption | omega) ?_ | refine WT_elem _ (map_get _ _ _ (by first | assumption | omega)) ?_ | refine WT_elem _ (by assumption) ?_) | (show WT _ _ (Tree.byte _ _ _); first | refine WT_bytZ (by first | assumption | omega) ?_ | refine WT_bytS (by first | assumption | omega) ?_ | refine WT_byt (by first | assumption | omega) ?_ | refine WT_bytN (by first | assumption | omega) ?_) | (show WT _ _ (Tree.same _ _ _); refine WT_same rfl ?_)))))
    exact WT_ret (P := P0) rfl rfl rfl rfl rfl
end Uw.Tryd

/- lex: the laws, plainly. -/
set_option linter.unusedVariables false
set_option linter.unusedSimpArgs false
namespace Uw.Tryd
open Go Uw Go.Proofs

def shiftT (d : Int) (t : Tok) : Tok := { t with at_ := t.at_ + d }

theorem lexK_shift (d : Int) : ∀ (f : Nat) (r : List UInt8) (a : Int), lexK f r (a + d) = (lexK f r a).map (List.map (shiftT d))
  | f, [], a => by cases f <;> rfl
  | 0, c :: t, a => rfl
  | f + 1, c :: t, a => by
    rw [lexK, lexK]
    by_cases hb : cls c = 4
    · rw [if_pos hb, if_pos hb, show a + d + 1 = (a + 1) + d by omega]; exact lexK_shift d f t (a + 1)
    · rw [if_neg hb, if_neg hb]
      cases ht : tokLen (c :: t) with
      | none => rfl
      | some x =>
        obtain ⟨k, n, v⟩ := x
        simp only
        rw [show a + d + (n : Int) = (a + n) + d by omega, lexK_shift d f ((c :: t).drop n) (a + n)]
        cases lexK f ((c :: t).drop n) (a + n) with
        | none => rfl
        | some l => rfl

theorem lexF_shift (d : Int) (r : List UInt8) (a : Int) : lexF r (a + d) = (lexF r a).map (List.map (shiftT d)) := lexK_shift d _ r a
theorem lexF_from (r : List UInt8) (a : Int) : lexF r a = (lexF r 0).map (List.map (shiftT a)) := by
  have := lexF_shift a r 0
  rwa [Int.zero_add] at this

theorem takeWhile_app (p : UInt8 → Bool) (c : UInt8) (b : List UInt8) (hc : p c = false) : ∀ (a : List UInt8), (a ++ c :: b).takeWhile p = a.takeWhile p
  | [] => by rw [List.nil_append, List.takeWhile_cons, hc]; rfl
  | x :: r => by
    rw [List.cons_append, List.takeWhile_cons, List.takeWhile_cons, takeWhile_app p c b hc r]
theorem dropWhile_app (p : UInt8 → Bool) (c : UInt8) (b : List UInt8) (hc : p c = false) : ∀ (a : List UInt8), (a ++ c :: b).dropWhile p = a.dropWhile p ++ c :: b
  | [] => by rw [List.nil_append, List.dropWhile_cons, hc]; rfl
  | x :: r => by
    rw [List.cons_append, List.dropWhile_cons, List.dropWhile_cons, dropWhile_app p c b hc r]
    split <;> rfl

/-- A word is what it is, whatever stands behind the blank behind it. -/
theorem tokLen_app (c : UInt8) (hc : cls c = 4) (b : List UInt8) : ∀ (a : List UInt8), a ≠ [] → tokLen (a ++ c :: b) = tokLen a
  | [], h => absurd rfl h
  | x :: r, _ => by
    have n1 : nameB c = false := by simp [nameB, hc]
    have n2 : digB c = false := by simp [digB, hc]
    have hl : letr ((r ++ c :: b).dropWhile digB) = letr (r.dropWhile digB) := by
      rw [dropWhile_app digB c b n2 r]
      cases r.dropWhile digB with
      | nil => rw [List.nil_append, letr, letr, hc]; rfl
      | cons y z => rfl
    have he : eqq (r ++ c :: b) = eqq r := by
      cases r with
      | nil =>
        rw [List.nil_append, eqq, eqq]
        exact decide_eq_false (fun h => by have : c = 61 := UInt8.toNat_inj.1 h; subst this; revert hc; decide)
      | cons y z => rfl
    rw [List.cons_append, tokLen, tokLen, takeWhile_app nameB c b n1, takeWhile_app digB c b n2, hl, he]

theorem lexF_app (c : UInt8) (hc : cls c = 4) (b : List UInt8) : ∀ (n : Nat) (a : List UInt8) (p : Int), a.length ≤ n → lexF (a ++ c :: b) p = (lexF a p).bind fun l => (lexF b (p + a.length + 1)).map (l ++ ·)
  | n, [], p, _ => by
    rw [List.nil_append, lexF_blank c b p hc, lexF_nil]
    simp
  | 0, _ :: _, _, h => by simp at h
  | n + 1, x :: r, p, h => by
    simp only [List.length_cons] at h
    by_cases hx : cls x = 4
    · rw [List.cons_append, lexF_blank x _ p hx, lexF_blank x r p hx, lexF_app c hc b n r (p + 1) (by omega)]
      rw [show p + 1 + (r.length : Int) + 1 = p + ((x :: r).length : Nat) + 1 by simp; omega]
    · have ht := tokLen_app c hc b (x :: r) (by simp)
      cases hk : tokLen (x :: r) with
      | none =>
        rw [hk] at ht
        rw [lexF_none x r p hx hk]
        exact lexF_none x (r ++ c :: b) p hx ht
      | some q =>
        obtain ⟨k, m, v⟩ := q
        rw [hk] at ht
        have hm := tokLen_le hk
        simp only [List.length_cons] at hm
        rw [lexF_tok x r p hx hk]
        have e1 : ((x :: r) ++ c :: b).drop m = ((x :: r).drop m) ++ c :: b := List.drop_append_of_le_length (by simp; omega)
        have e2 : ((x :: r) ++ c :: b).take m = (x :: r).take m := List.take_append_of_le_length (by simp; omega)
        have := lexF_tok x (r ++ c :: b) p hx (by rw [← List.cons_append]; exact ht)
        rw [List.cons_append, this, ← List.cons_append, e1, e2, lexF_app c hc b n ((x :: r).drop m) (p + m) (by simp; omega)]
        rw [show p + (m : Int) + (((x :: r).drop m).length : Nat) + 1 = p + ((x :: r).length : Nat) + 1 by simp; omega]
        cases lexF ((x :: r).drop m) (p + m) with
        | none => rfl
        | some l =>
          simp only [Option.bind_some, Option.map_some, Option.map_map]
          rfl

theorem takeWhile_idem (p : UInt8 → Bool) (l : List UInt8) (k : Nat) (h : (l.takeWhile p).length = k) : (l.take k).takeWhile p = l.takeWhile p ∧ (l.take k).dropWhile p = [] := by
  subst h
  rw [take_takeWhile]
  have : ∀ x ∈ l.takeWhile p, p x = true := takeWhile_all p l
  generalize l.takeWhile p = m at this
  induction m with
  | nil => exact ⟨rfl, rfl⟩
  | cons y r ih =>
    have hy := this y (by simp)
    have ih := ih (fun x hx => this x (by simp [hx]))
    rw [List.takeWhile_cons, List.dropWhile_cons, hy]
    simp [ih.1, ih.2]

/-- A word alone is just that word. -/
theorem tokLen_alone {r : List UInt8} {k : Int} {n : Nat} {v : Int} (h : tokLen r = some (k, n, v)) : tokLen (r.take n) = some (k, n, v) := by
  cases r with
  | nil => simp [tokLen] at h
  | cons c t =>
    have hn := tokLen_le h
    obtain ⟨m, rfl⟩ : ∃ m, n = m + 1 := ⟨n - 1, by omega⟩
    rw [List.take_succ_cons]
    rw [tokLen] at h ⊢
    by_cases a1 : cls c = 1
    · rw [if_pos a1] at h ⊢
      split at h
      · rename_i hl
        simp only [Option.some.injEq, Prod.mk.injEq] at h
        obtain ⟨i1, _⟩ := takeWhile_idem nameB t m (by omega)
        rw [i1, if_pos hl, ← h.1, ← h.2.1, ← h.2.2]
      · cases h
    · rw [if_neg a1] at h ⊢
      by_cases a2 : cls c = 2
      · rw [if_pos a2] at h ⊢
        split at h
        · rename_i hl
          simp only [Option.some.injEq, Prod.mk.injEq] at h
          obtain ⟨i1, i2⟩ := takeWhile_idem digB t m (by omega)
          rw [i1, i2, if_pos ⟨hl.1, hl.2.1, hl.2.2.1, rfl⟩, ← h.1, ← h.2.1, ← h.2.2]
        · cases h
      · rw [if_neg a2] at h ⊢
        split at h
        · rename_i a5
          rw [if_pos a5]
          split at h
          · rename_i he
            simp only [Option.some.injEq, Prod.mk.injEq] at h
            obtain rfl : m = 1 := by omega
            rw [if_pos ⟨he.1, by cases t with | nil => exact he.2 | cons y z => exact he.2⟩, ← h.1, ← h.2.2]
          · rename_i he
            simp only [Option.some.injEq, Prod.mk.injEq] at h
            obtain rfl : m = 0 := by omega
            rw [if_neg (by rintro ⟨_, q⟩; cases q), ← h.1, ← h.2.2]
        · cases h

theorem tok_first {c : UInt8} {t : List UInt8} {k : Int} {n : Nat} {v : Int} (h : tokLen (c :: t) = some (k, n, v)) : cls c ≠ 4 := by
  intro hc
  rw [tokLen, if_neg (by omega), if_neg (by omega), if_neg (by omega)] at h
  cases h

theorem lexF_alone {r : List UInt8} {k : Int} {n : Nat} {v : Int} (h : tokLen r = some (k, n, v)) (p : Int) : lexF (r.take n) p = some [⟨k, r.take n, v, p⟩] := by
  have ha := tokLen_alone h
  have hn := tokLen_le h
  cases r with
  | nil => simp [tokLen] at h
  | cons c t =>
    obtain ⟨m, rfl⟩ : ∃ m, n = m + 1 := ⟨n - 1, by omega⟩
    have hc := tok_first h
    rw [List.take_succ_cons] at ha ⊢
    rw [lexF_tok c _ p hc ha]
    simp [lexF_nil, List.take_take]

/-- What is known of the words of a text. -/
inductive Placed (s : List UInt8) : Nat → List Tok → Prop
  | nil {a : Nat} (h : ∀ (k : Nat) (hk : k < s.length), a ≤ k → cls s[k] = 4) : Placed s a []
  | cons {a p n : Nat} {k : Int} {v : Int} {l : List Tok} (h1 : a ≤ p) (h2 : ∀ (k : Nat) (hk : k < s.length), a ≤ k → k < p → cls s[k] = 4) (h3 : tokLen (s.drop p) = some (k, n, v)) (h4 : Placed s (p + n) l) : Placed s a (⟨k, (s.drop p).take n, v, p⟩ :: l)

theorem Placed.blank {s : List UInt8} {a : Nat} {l : List Tok} (h : Placed s (a + 1) l) (ha : a < s.length) (hb : cls s[a] = 4) : Placed s a l := by
  have key : ∀ (k : Nat) (hk : k < s.length), a ≤ k → (a + 1 ≤ k → cls s[k] = 4) → cls s[k] = 4 := by
    intro k hk h1 h2
    by_cases e : k = a
    · subst e; exact hb
    · exact h2 (by omega)
  cases h with
  | nil h => exact .nil (fun k hk h1 => key k hk h1 (h k hk))
  | cons h1 h2 h3 h4 => exact .cons (by omega) (fun k hk q1 q2 => key k hk q1 (fun q => h2 k hk q q2)) h3 h4

theorem placed_lexF (s : List UInt8) : ∀ (f a : Nat), s.length - a ≤ f → ∀ l, lexF (s.drop a) (a : Int) = some l → Placed s a l := by
  intro f
  induction f with
  | zero =>
    intro a h l hl
    rw [List.drop_eq_nil_of_le (by omega), lexF_nil] at hl
    injection hl with hl; subst hl
    exact .nil (fun k hk h1 => by omega)
  | succ f ih =>
    intro a h l hl
    by_cases ha : a < s.length
    · rw [List.drop_eq_getElem_cons ha] at hl
      by_cases hb : cls s[a] = 4
      · rw [lexF_blank _ _ _ hb] at hl
        exact (ih (a + 1) (by omega) l hl).blank ha hb
      · cases ht : tokLen (s[a] :: s.drop (a + 1)) with
        | none => rw [lexF_none _ _ _ hb ht] at hl; cases hl
        | some q =>
          obtain ⟨k, n, v⟩ := q
          have hn := tokLen_le ht
          rw [lexF_tok _ _ _ hb ht, ← List.drop_eq_getElem_cons ha, List.drop_drop, show (a : Int) + (n : Int) = ((a + n : Nat) : Int) by omega] at hl
          rw [← List.drop_eq_getElem_cons ha] at ht
          cases hr : lexF (s.drop (a + n)) ((a + n : Nat) : Int) with
          | none => rw [hr] at hl; cases hl
          | some l' =>
            rw [hr] at hl
            simp only [Option.map_some, Option.some.injEq] at hl
            subst hl
            exact .cons (Nat.le_refl _) (fun k hk q1 q2 => by omega) ht (ih (a + n) (by omega) l' hr)
    · rw [List.drop_eq_nil_of_le (by omega), lexF_nil] at hl
      injection hl with hl; subst hl
      exact .nil (fun k hk h1 => by omega)

theorem placed_of {s : List UInt8} {l : List Tok} (h : lexF s 0 = some l) : Placed s 0 l := placed_lexF s s.length 0 (by omega) l (by simpa using h)

theorem Placed.mem {s : List UInt8} {a : Nat} {l : List Tok} (h : Placed s a l) : ∀ t ∈ l, ∃ p n, tokLen (s.drop p) = some (t.kind, n, t.n) ∧ t.text = (s.drop p).take n ∧ t.at_ = (p : Nat) ∧ p + n ≤ s.length := by
  induction h with
  | nil h => intro t ht; cases ht
  | @cons a p n k v l h1 h2 h3 h4 ih =>
    intro t ht
    rcases List.mem_cons.1 ht with rfl | ht
    · have := (tokLen_le h3).2
      have := (tokLen_le h3).1
      simp at *
      exact ⟨p, n, h3, rfl, rfl, by omega⟩
    · exact ih t ht

theorem Placed.len {s : List UInt8} {a : Nat} {l : List Tok} (h : Placed s a l) : l.length ≤ s.length - a ∧ (l.map fun t => t.text.length + 1).sum ≤ 2 * (s.length - a) := by
  induction h with
  | nil h => simp
  | @cons a p n k v l h1 h2 h3 h4 ih =>
    have := (tokLen_le h3).2
    have := (tokLen_le h3).1
    simp at *
    omega

theorem words_total {s : List UInt8} {l : List Tok} (h : lexF s 0 = some l) : l.length ≤ s.length ∧ (l.map fun t => t.text.length + 1).sum ≤ 2 * s.length := by
  have := (placed_of h).len
  simpa using this

/-- A text of words, read anew. -/
theorem lex_show : ∀ (l : List Tok) (p : Int), (∀ t ∈ l, ∃ r n, tokLen r = some (t.kind, n, t.n) ∧ t.text = r.take n) → ∃ m, lexF (showT l) p = some m ∧ m.map (fun t => (t.kind, t.text, t.n)) = l.map (fun t => (t.kind, t.text, t.n))
  | [], p, _ => ⟨[], rfl, rfl⟩
  | [t], p, h => by
    obtain ⟨r, n, h1, h2⟩ := h t (by simp)
    have e : showT [t] = r.take n := by rw [showT, List.map_cons, List.map_nil, Lib.join_one, h2]
    refine ⟨_, by rw [e]; exact lexF_alone h1 p, ?_⟩
    simp [h2]
  | t :: u :: l, p, h => by
    obtain ⟨r, n, h1, h2⟩ := h t (by simp)
    obtain ⟨m, h3, h4⟩ := lex_show (u :: l) (p + t.text.length + 1) (fun x hx => h x (List.mem_cons_of_mem _ hx))
    have e : showT (t :: u :: l) = t.text ++ (32 :: showT (u :: l)) := by
      rw [showT, showT, List.map_cons, List.map_cons, Lib.join_cons, Lib.join_cons]
      simp [Lib.joinTail]
    have ha := lexF_alone h1 p
    rw [← h2] at ha
    refine ⟨⟨t.kind, t.text, t.n, p⟩ :: m, ?_, ?_⟩
    · rw [e, lexF_app 32 (by decide) _ t.text.length t.text p (Nat.le_refl _), ha, Option.bind_some, h3]; rfl
    · rw [List.map_cons, h4]; rfl
end Uw.Tryd
