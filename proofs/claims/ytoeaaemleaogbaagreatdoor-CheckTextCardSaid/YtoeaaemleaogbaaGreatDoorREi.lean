/- REi: Ei (merged by merge2.py from the working texts). -/
import Derived.Test.YtoeaaemleaogbaaGreatDoorT7
import Derived.Test.YtoeaaemleaogbaaGreatDoorT8
set_option linter.unusedSimpArgs false
set_option linter.unnecessarySimpa false
set_option linter.unusedVariables false
set_option linter.unusedSectionVars false
namespace Uw.Tryz
open Go Uw
theorem of_formed (s:List UInt8) (h:(ofR s).2=0):formedP (ofR s).1=true:=by
 unfold ofR at h ⊢
 split at h
 ·rename_i h1
  exact absurd h h1
 ·split at h
  ·cases h
  ·rename_i h1 h2
   rw [if_neg h1,if_neg h2]
   cases hp:progF (wordsR s).1 with
   | none=>rw [hp] at h;cases h
   | some x=>
    exact formed_of x ((progF_iff.1 hp).good (words_ok s)).2
theorem of_none0 (s:List UInt8) (h:(ofR s).2≠0):(ofR s).1=noPg:=by
 unfold ofR at h ⊢
 split at h
 ·rename_i h1
  rw [if_pos h1]
 ·split at h
  ·rename_i h1 h2
   rw [if_neg h1,if_pos h2]
  ·rename_i h1 h2
   rw [if_neg h1,if_neg h2]
   cases hp:progF (wordsR s).1 with
   | none=>rfl
   | some x=>rw [hp] at h;exact absurd rfl h
set_option maxRecDepth 4000 in
set_option maxHeartbeats 4000000 in
theorem l_CheckText (s:List UInt8):Ret P0 n_law06_CheckText [.str s] (.bool true):=by
 have ha:=s_law06_awake
 by_cases hs:300<s.length
 ·have hs' : (300:Int)<(s.length:Nat):=by omega
  refine Ret_by is_law06_CheckText rfl ?_
  repeat refine aw ?_
  exact WT_ret rfl rfl rfl rfl rfl
 have hs' : ¬(300:Int)<(s.length:Nat):=by omega
 have ho:=s_parse_Of s (by omega)
 have hfm:=of_formed s
 have hno:=of_none0 s
 generalize ofR s=x at *
 obtain ⟨p,e⟩:=x
 have ho:Ret P0 n_parse_Of [.str s] (.tuple [pgD p,I e]):=ho
 simp only at hfm hno
 by_cases he:e=0
 rotate_left 1
 ·have hp:=hno he
  subst hp
  clear hfm hno
  refine Ret_by is_law06_CheckText rfl ?_
  repeat refine aw ?_
  exact WT_ret rfl rfl rfl rfl rfl
 have hfm2:=hfm he
 subst he
 clear hfm hno
 have hfw:=s_law06_few p
 cases hl:fewP p with
 | false=>
  rw [hl] at hfw
  refine Ret_by is_law06_CheckText rfl ?_
  repeat refine aw ?_
  exact WT_ret rfl rfl rfl rfl rfl
 | true=>
 rw [hl] at hfw
 have h1:=s_check_Formed p (few_lim hl)
 rw [hfm2] at h1
 have h2:=s_check_Why p (few_lim hl)
 have h3:=s_ref06_Why p hfm2 (few_lim hl)
 have h4:whyP p≠1:=by
  rw [whyP,hfm2]
  simp only [Bool.true_eq_false,if_false]
  repeat' split
  all_goals decide
 generalize whyP p=w at *
 refine Ret_by is_law06_CheckText rfl ?_
 repeat refine aw ?_
 first
  | exact WT_ret rfl rfl rfl rfl rfl
  | exact WT_ret rfl rfl rfl rfl (congrArg Dat.bool (by simp [h4]))
end Uw.Tryz
