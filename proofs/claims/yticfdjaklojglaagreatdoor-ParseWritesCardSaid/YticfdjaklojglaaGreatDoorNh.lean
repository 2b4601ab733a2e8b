/- Nh: Rg (merged by merge2.py from the working texts). -/
import Derived.Test.YticfdjaklojglaaGreatDoorNg
import Derived.Test.YticfdjaklojglaaGreatDoorNe
set_option maxRecDepth 4000
set_option maxHeartbeats 2000000
set_option linter.unusedSimpArgs false
set_option linter.unnecessarySimpa false
set_option linter.unusedVariables false
set_option linter.unusedSectionVars false
namespace Uw.Tryz
open Go Uw
theorem ofT_no {l : List Tok} (h : (ofT l).2 ≠ 0) : (ofT l).1 = noPg := by
 unfold ofT at h ⊢
 by_cases hd : 40 < deepT l 0 0
 · rw [if_pos hd]
 · rw [if_neg hd] at h ⊢
   cases hp : progF l with
   | none => rfl
   | some x => rw [hp] at h; exact absurd rfl h
theorem l_ParseWrites (s : List UInt8) : Ret P0 n_law05_ParseWrites [.str s] (.bool true) := by
 have al := s_law05_alive
 by_cases hs : 1500 < s.length
 · refine Ret_by is_law05_ParseWrites rfl ?_
   ((repeat' first|refine aw ?_|refine bw (fun _=>?_) fun _=>?_))
   exact WT_ret rfl rfl rfl rfl rfl
 have ho := s_parse_Of s (by omega)
 have bad : ∀ e : Int, e ≠ 0 → ofR s = (noPg, e) → Ret P0 n_law05_ParseWrites [.str s] (.bool true) := by
   intro e he h0
   rw [h0] at ho
   have ho : Ret P0 n_parse_Of [.str s] (.tuple [.agg [.slice 3 [] false, .slice 3 [] false, .slice 5 [] false], I e]) := ho
   refine Ret_by is_law05_ParseWrites rfl ?_
   repeat refine aw ?_
   exact WT_ret rfl rfl rfl rfl (congrArg Dat.bool (decide_eq_true rfl))
 cases hx : lexF s 0 with
 | none => exact bad 3 (by decide) (ofR_none hx (by omega))
 | some l =>
   have e3 := ofR_some hx (by omega)
   by_cases h0 : (ofT l).2 = 0
   · obtain ⟨ds, fs, hp, e4, hd⟩ := ofT_ok h0
     obtain ⟨w1, w2, w3, w4⟩ := writes_plain hx (by omega) hp hd
     have hlen := hp.len
     have hln := (words_total hx).1
     have hwl := w4.length_le
     rw [List.length_map] at hwl
     have htx := s_parse_Text0 (ds, fs) w3 (by show sizeF fs < _; omega) (by omega) (by omega)
     have hrt := s_ref05_Text ds fs (by omega) w3 (by omega) (by omega) (by omega) (fun f hf => by have := hlen.2 f hf; omega)
     have ho2 := s_parse_Of (joinR [] (wProg (ds, fs))) (by omega)
     have hsm : Small (pgOf (ds, fs)) := small_pg hp (by omega)
     have hsame := s_ref05_Same (pgOf (ds, fs)) (pgOf (ds, fs)) hsm hsm
     rw [decide_eq_true rfl] at hsame
     rw [e3, e4] at ho
     rw [w2] at ho2
     generalize joinR [] (wProg (ds, fs)) = o at *
     generalize pgOf (ds, fs) = p at *
     have ho : Ret P0 n_parse_Of [.str s] (.tuple [pgD p, I 0]) := ho
     have ho2 : Ret P0 n_parse_Of [.str o] (.tuple [pgD p, I 0]) := ho2
     clear e3 e4 w2 w3 w4 hp hlen hwl hln bad h0 hx
     refine Ret_by is_law05_ParseWrites rfl ?_
     ((repeat' first|refine aw ?_|refine bw (fun _=>?_) fun _=>?_))
     exact WT_ret rfl rfl rfl rfl (congrArg Dat.bool (decide_eq_true rfl))
   · exact bad (ofT l).2 h0 (by rw [e3]; exact Prod.ext (ofT_no h0) rfl)
end Uw.Tryz
