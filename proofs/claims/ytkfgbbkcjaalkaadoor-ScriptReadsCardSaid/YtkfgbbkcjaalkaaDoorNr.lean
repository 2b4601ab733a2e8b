/- Nr: Sr (merged by merge2.py from the working texts). -/
import Derived.Test.YtkfgbbkcjaalkaaDoorNb
set_option linter.unusedSimpArgs false
set_option linter.unnecessarySimpa false
set_option linter.unusedVariables false
set_option linter.unusedSectionVars false

/- READS. -/
set_option linter.unusedVariables false
set_option linter.unusedSimpArgs false
namespace Uw.Tryd
open Go Uw Go.Proofs Go.RowKit

theorem l_ScriptReads (s : List UInt8) : Ret P0 n_law29_ScriptReads [.str s] (.bool true) := by
  by_cases hs : 600 < s.length
  · refine Ret_by is_law29_ScriptReads rfl ?_
    refine WT_t (by simp; omega) ?_
    refine WT_call _ s_alive ?_
    exact WT_ret (P := P0) rfl rfl rfl rfl rfl
  · have p1 := s_script_Parse s (by omega)
    have p2 := s_ref29_Parse s (by omega)
    have hl := parse_len s
    generalize parse s = R at p1 p2 hl
    have sm := s_ref29_Same R.1 R.1 (by omega)
    rw [decide_eq_true rfl] at sm
    refine Ret_by is_law29_ScriptReads rfl ?_
    refine WT_f (by simp; omega) ?_
    refine WT_call _ p1 ?_
    (repeat first | refine WT_inR (by simp [inR]; omega) ?_ | refine WT_t rfl ?_ | refine WT_f rfl ?_ | refine WT_guard (by first | (simp [inR]; done) | (simp [inR]; omega)) ?_ | refine WT_elem _ (map_get _ _ _ (by first | assumption | omega)) ?_)
    refine WT_call _ p2 ?_
    (repeat first | refine WT_inR (by simp [inR]; omega) ?_ | refine WT_t rfl ?_ | refine WT_f rfl ?_ | refine WT_guard (by first | (simp [inR]; done) | (simp [inR]; omega)) ?_ | refine WT_elem _ (map_get _ _ _ (by first | assumption | omega)) ?_)
    refine WT_call _ s_alive ?_
    (repeat first | refine WT_inR (by simp [inR]; omega) ?_ | refine WT_t rfl ?_ | refine WT_f rfl ?_ | refine WT_guard (by first | (simp [inR]; done) | (simp [inR]; omega)) ?_ | refine WT_elem _ (map_get _ _ _ (by first | assumption | omega)) ?_)
    refine WT_call _ sm ?_
    (repeat first | refine WT_inR (by simp [inR]; omega) ?_ | refine WT_t rfl ?_ | refine WT_f rfl ?_ | refine WT_guard (by first | (simp [inR]; done) | (simp [inR]; omega)) ?_ | refine WT_elem _ (map_get _ _ _ (by first | assumption | omega)) ?_)
    refine WT_ret (P := P0) rfl rfl rfl rfl ?_
    simp [packD]
end Uw.Tryd
