/- RDl: Dl (merged by merge2.py from the working texts). -/
import Derived.Test.YtoeaaemleaogbaaGreatDoorRDk
set_option linter.unusedSimpArgs false
set_option linter.unnecessarySimpa false
set_option linter.unusedVariables false
set_option linter.unusedSectionVars false
namespace Uw.Tryz
open Go Uw
theorem why_may {p:Pg}:whyP p=0∨whyP p≠0:=by omega
theorem funI_some {p:Pg} {s:Str} {i:Nat} (h:funP p s=some i):funI p s=(i:Nat):=by rw [funI,h]
theorem mem_get {α:Type} {l:List α} {i:Nat} (h:i<l.length):l[i]∈l:=List.getElem_mem h
def ccB2:MCode:=qL (qL (qR (qL (qR (qR (qR (qR (qR (qR (qR m_law06_CheckCalls.code))))))))))
abbrev ccS2 (p:Pg) (j:Nat):St:=⟨[(6,.d (I j)),(3,.d (.bool true)),(1,.ptr 0 0)],[(0,pgV p)],1,[],0⟩
set_option maxRecDepth 8000 in
set_option maxHeartbeats 4000000 in
theorem calls_round2 (p:Pg) (hl:fewP p=true) (hm:May p) (j:Nat) (hj:j<p.nodes.length) (hpre:∀i,i<j→True) {QQ:MExit→St→Prop}:WT P0 (LoopQ (ccS2 p) (ForI p.nodes.length fun _=>True) (forM p.nodes.length) j QQ) (exec ccB2 (ccS2 p j) Tree.done):=by
 have hN:p.nodes.length≤120∧p.funs.length≤30:=by
  simp only [fewP,Bool.and_eq_true,decide_eq_true_eq] at hl
  omega
 have hnl:(p.nodes.map ndL).length=p.nodes.length:=by simp
 have hfl:(p.funs.map fuL).length=p.funs.length:=by simp
 have he:(p.nodes.map ndL)[(j:Int).toNat]? = some (ndL p.nodes[j]):=by simp [hj]
 have hc:=fun hk=>hm.call (mem_get hj) hk
 generalize p.nodes[j]=x at *
 obtain ⟨xk,xn,xs,xt,xo⟩:=x
 have he:(p.nodes.map ndL)[(j:Int).toNat]? = some [I xk,I xn,.str xs,.str xt,.slice 1 (xo.map fun i=>[I i]) false]:=he
 simp only at hc
 have hol:(xo.map fun i=>[I i]).length=xo.length:=by simp
 by_cases hk:xk=10∨xk=11
 ·obtain ⟨k,hk1,hk2,hk3,hk4⟩:=hc hk
  have hfun:=s_law06_fun p xt (by omega)
  rw [funI_some hk2] at hfun
  have hf:(p.funs.map fuL)[((k:Nat):Int).toNat]? = some (fuL p.funs[k]):=by simp [hk1]
  generalize p.funs[k]=f at *
  obtain ⟨fn,fa,fb⟩:=f
  have hf:(p.funs.map fuL)[((k:Nat):Int).toNat]? = some [.str fn,.slice 1 (fa.map fun s=>[Dat.str s]) false,I fb]:=hf
  simp only at hk3 hk4
  have hal:(fa.map fun s=>[Dat.str s]).length=fa.length:=by simp
  rcases hk with rfl|rfl
  ·have h3:=hk3 rfl
   have h3' : (((fa.map fun s=>[Dat.str s]).length:Nat):Int)=((xo.map fun i=>[I i]).length:Nat):=by omega
   repeat refine aw ?_
   exact WT_next j trivial (by exact Uw.wM)
  ·have h4:=hk4 rfl
   have h4' : (((fa.map fun s=>[Dat.str s]).length:Nat):Int)=1:=by omega
   repeat refine aw ?_
   exact WT_next j trivial (by exact Uw.wM)
 ·obtain ⟨k10,k11⟩:xk≠10∧xk≠11:=by omega
  repeat refine aw ?_
  exact WT_next j trivial (by exact Uw.wM)
set_option maxRecDepth 8000 in
set_option maxHeartbeats 4000000 in
theorem l_CheckCalls (p:Pg):Ret P0 n_law06_CheckCalls [pgD p] (.bool true):=by
 have ha:=s_law06_awake
 have hfw:=s_law06_few p
 cases hl:fewP p with
 | false=>
  rw [hl] at hfw
  refine Ret_by is_law06_CheckCalls rfl ?_
  repeat refine aw ?_
  exact WT_ret rfl rfl rfl rfl rfl
 | true=>
 rw [hl] at hfw
 have hy:=s_check_Why p (few_lim hl)
 by_cases hw:whyP p=0
 rotate_left 1
 ·refine Ret_by is_law06_CheckCalls rfl ?_
  repeat refine aw ?_
  exact WT_ret rfl rfl rfl rfl rfl
 rw [hw] at hy
 have hm:=may_of hw
 have hN:p.nodes.length≤120∧p.funs.length≤30:=by
  simp only [fewP,Bool.and_eq_true,decide_eq_true_eq] at hl
  omega
 have hnl:(p.nodes.map ndL).length=p.nodes.length:=by simp
 have hfl:(p.funs.map fuL).length=p.funs.length:=by simp
 obtain ⟨m,hm1,hm2,hm3⟩:=hm.main
 have hfun:=s_law06_fun p sMain (by omega)
 rw [funI_some hm2] at hfun
 have hfun:Ret P0 n_law06_fun [pgD p,.str [109,97,105,110]] (I (m:Nat)):=hfun
 have hf:(p.funs.map fuL)[((m:Nat):Int).toNat]? = some (fuL p.funs[m]):=by simp [hm1]
 generalize p.funs[m]=f at *
 obtain ⟨fn,fa,fb⟩:=f
 simp only at hm3
 subst hm3
 have hf:(p.funs.map fuL)[((m:Nat):Int).toNat]? = some [.str fn,.slice 1 [] false,I fb]:=hf
 have hself:=fun i h=>funP_self hm.names.2.1 (i:=i) h
 have hel2:∀(j:Nat) (h:j<p.funs.length),(p.funs.map fuL)[(j:Int).toNat]? = some (fuL p.funs[j]):=fun j h=>by simp [h]
 refine Ret_by is_law06_CheckCalls rfl ?_
 repeat refine aw ?_
 refine WT_for p.funs.length (fun j:Nat=>⟨[(5,.d (I j)),(3,.d (.bool true)),(1,.ptr 0 0)],[(0,pgV p)],1,[],0⟩) (fun _=>True) (by exact Uw.wM) (fun _=>?_) (fun j hj _=>?_)
 rotate_left 1
 ·have he:=hel2 j hj
  have hfj:=s_law06_fun p p.funs[j].name (by omega)
  rw [funI_some (hself j hj)] at hfj
  clear hfun hf hel2
  generalize p.funs[j]=g at *
  obtain ⟨gn,ga,gb⟩:=g
  have he:(p.funs.map fuL)[(j:Int).toNat]? = some [.str gn,strsC ga,I gb]:=he
  repeat refine aw ?_
  exact WT_next j trivial (by exact Uw.wM)
 refine aw ?_
 refine WT_break ?_
 repeat refine aw ?_
 refine WT_for p.nodes.length (ccS2 p) (fun _=>True) (by exact Uw.wM) (fun _=>?_) (fun j hj hpre=>?_)
 rotate_left 1
 ·exact calls_round2 p hl hm j hj hpre
 refine aw ?_
 refine WT_break ?_
 repeat refine aw ?_
 exact WT_ret rfl rfl rfl rfl rfl
end Uw.Tryz
