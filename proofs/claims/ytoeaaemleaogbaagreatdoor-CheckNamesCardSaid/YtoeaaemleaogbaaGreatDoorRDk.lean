/- RDk: Dk (merged by merge2.py from the working texts). -/
import Derived.Test.YtoeaaemleaogbaaGreatDoorNa
import Derived.Test.YtoeaaemleaogbaaGreatDoorN7
import Derived.Test.YtoeaaemleaogbaaGreatDoorN5
set_option linter.unusedSimpArgs false
set_option linter.unnecessarySimpa false
set_option linter.unusedVariables false
set_option linter.unusedSectionVars false
namespace Uw.Tryz
open Go Uw
set_option maxHeartbeats 1000000 in
theorem s_law06_why {s:List UInt8} (hs:s.length<1000000) {c:Int} (he:(ofR s).2=0) (hl:fewP (ofR s).1=true) (hw:whyP (ofR s).1=c):Ret P0 n_law06_why [.str s] (I c):=by
 have ho:=s_parse_Of s hs
 have hy:=s_check_Why (ofR s).1 (few_lim hl)
 rw [hw] at hy
 generalize ofR s=x at *
 obtain ⟨p,e⟩:=x
 simp only at he hy
 subst he
 have ho:Ret P0 n_parse_Of [.str s] (.tuple [pgD p,I 0]):=ho
 refine Ret_by is_law06_why rfl ?_
 repeat refine aw ?_
 exact WT_ret rfl rfl rfl rfl rfl
theorem s_law06_few (p:Pg):Ret P0 n_law06_few [pgD p] (.bool (fewP p)):=by
 have h:=s_ref06_Few p
 refine Ret_by is_law06_few rfl ?_
 repeat refine aw ?_
 exact WT_ret rfl rfl rfl rfl rfl
def akT0:List UInt8:=[99,101,108,108,32,99,59,32,102,117,110,99,32,102,40,97,44,32,98,41,32,123,32,98,32,61,32,97,59,32,120,32,61,32,115,112,97,119,110,32,102,40,49,44,32,99,41,59,32,114,101,116,117,114,110,32,120,59,32,125,32,102,117,110,99,32,109,97,105,110,40,41,32,123,125]
def akT1:List UInt8:=[99,101,108,108,32,99,59,32,102,117,110,99,32,109,97,105,110,40,41,32,123,32,99,32,61,32,120,59,32,125]
def akT2:List UInt8:=[99,101,108,108,32,99,59,32,102,117,110,99,32,109,97,105,110,40,41,32,123,32,99,32,61,32,120,59,32,120,32,61,32,49,59,32,125]
def akT3:List UInt8:=[109,97,112,32,109,59,32,102,117,110,99,32,109,97,105,110,40,41,32,123,32,109,46,112,117,115,104,40,49,41,59,32,125]
def akT4:List UInt8:=[102,117,110,99,32,109,97,105,110,40,97,41,32,123,125]
def akT5:List UInt8:=[99,101,108,108,32,99,59,32,99,101,108,108,32,99,59,32,102,117,110,99,32,109,97,105,110,40,41,32,123,125]
set_option maxRecDepth 8000 in
set_option maxHeartbeats 2000000 in
theorem s_law06_awake:Ret P0 n_law06_awake [] (.bool true):=by
 have h0:=s_parse_Of akT0 (by decide)
 have e0:(ofR akT0).2=0:=by kernel_rfl
 have l0:fewP (ofR akT0).1=true:=by kernel_rfl
 have hfm:=s_check_Formed (ofR akT0).1 (few_lim l0)
 have hlo0:=s_check_Locals (ofR akT0).1 (few_lim l0) 0
 have hlo1:=s_check_Locals (ofR akT0).1 (few_lim l0) 1
 have f0:formedP (ofR akT0).1=true:=by kernel_rfl
 have f1:localsOf (ofR akT0).1 0=[[97],[98],[120]]:=by kernel_rfl
 have f2:localsOf (ofR akT0).1 1=[]:=by kernel_rfl
 rw [f0] at hfm
 rw [f1] at hlo0
 rw [f2] at hlo1
 have h1:Ret P0 n_law06_why [.str akT1] (I 4):=s_law06_why (by decide) (by kernel_rfl) (by kernel_rfl) (by kernel_rfl)
 have h2:Ret P0 n_law06_why [.str akT2] (I 0):=s_law06_why (by decide) (by kernel_rfl) (by kernel_rfl) (by kernel_rfl)
 have h3:Ret P0 n_law06_why [.str akT3] (I 6):=s_law06_why (by decide) (by kernel_rfl) (by kernel_rfl) (by kernel_rfl)
 have h4:Ret P0 n_law06_why [.str akT4] (I 7):=s_law06_why (by decide) (by kernel_rfl) (by kernel_rfl) (by kernel_rfl)
 have h5:Ret P0 n_law06_why [.str akT5] (I 5):=s_law06_why (by decide) (by kernel_rfl) (by kernel_rfl) (by kernel_rfl)
 have hsa:Ret P0 n_ref06_Same [strsC [[97],[98],[120]],.slice 1 [[.str [97]],[.str [98]],[.str [120]]] true] (.bool true):=by
  have h:=s_ref06_Same [[97],[98],[120]] [[97],[98],[120]] (by decide) (by decide)
  rw [decide_eq_true rfl] at h
  exact h.args (.cons (.refl _) (.cons (.slice (.refl _)) (.refl _)))
 clear f0 f1 f2 l0
 generalize ofR akT0=x at *
 obtain ⟨p,e⟩:=x
 simp only at e0 hfm hlo0 hlo1
 subst e0
 have h0:Ret P0 n_parse_Of [.str akT0] (.tuple [pgD p,I 0]):=h0
 refine Ret_by is_law06_awake rfl ?_
 repeat refine aw ?_
 exact WT_ret rfl rfl rfl rfl rfl
theorem lim_more {p:Pg} (hl:fewP p=true) (x:Nd) (hx:x.of.length<2):Lim { p with nodes:=p.nodes++[x] }:=by
 have hp:=few_lim hl
 simp only [fewP,Bool.and_eq_true,decide_eq_true_eq] at hl
 refine ⟨?_,hp.funs,hp.decls,fun y hy=>?_,hp.args⟩
 ·show (p.nodes++[x]).length<100000
  rw [List.length_append]
  simp only [List.length_cons,List.length_nil]
  omega
 ·rcases List.mem_append.1 hy with hy|hy
  ·exact hp.of y hy
  ·simp at hy;subst hy;omega
theorem why_not {p:Pg} (h:formedP p=false):whyP p=1:=by rw [whyP,if_pos h]
theorem DLeE.app {x y:List Dat} (h:DLeL x y):∀l:List (List Dat),DLeE (l++[x]) (l++[y])
 | []=>.cons h (.refl _)
 | a::l=>.cons (.refl _) (DLeE.app h l)
theorem more_args {p:Pg} {x:Nd} {c:List Dat} (h:DLeL c (ndL x)):DLeL [Dat.agg [.slice 3 (p.decls.map decL) false,.slice 3 (p.funs.map fuL) false,.slice 5 (((p.nodes.map ndL++[c]).drop 0).take ((p.nodes.map ndL).length+1)) false]] [pgD { p with nodes:=p.nodes++[x] }]:=by
 refine .cons (.agg (.cons (.refl _) (.cons (.refl _) (.cons (.slice ?_) (.refl _))))) (.refl _)
 rw [List.drop_zero,List.take_of_length_le (by simp)]
 show DLeE _ ((p.nodes++[x]).map ndL)
 rw [List.map_append]
 exact DLeE.app h _
set_option maxRecDepth 8000 in
set_option maxHeartbeats 4000000 in
theorem l_CheckTree (p:Pg) (a:Int) (h01:0≤a∧a<256):Ret P0 n_law06_CheckTree [pgD p,.int .u8 a] (.bool true):=by
 obtain ⟨h0,h1⟩:=h01
 have ha:=s_law06_awake
 have hfw:=s_law06_few p
 have hnl:(p.nodes.map ndL).length=p.nodes.length:=by simp
 cases hl:fewP p with
 | false=>
  rw [hl] at hfw
  refine Ret_by is_law06_CheckTree rfl ?_
  repeat refine aw ?_
  exact WT_ret rfl rfl rfl rfl rfl
 | true=>
 rw [hl] at hfw
 by_cases hn:p.nodes.length=0
 ·have hn' : (((p.nodes.map ndL).length:Nat):Int)=0:=by omega
  refine Ret_by is_law06_CheckTree rfl ?_
  repeat refine aw ?_
  exact WT_ret rfl rfl rfl rfl rfl
 have hn' : ¬(((p.nodes.map ndL).length:Nat):Int)=0:=by omega
 have hfm:=s_check_Formed p (few_lim hl)
 cases hf:formedP p with
 | false=>
  rw [hf] at hfm
  refine Ret_by is_law06_CheckTree rfl ?_
  repeat refine aw ?_
  exact WT_ret rfl rfl rfl rfl rfl
 | true=>
 rw [hf] at hfm
 have hemp:(p.nodes.map ndL).isEmpty=false:=by
  cases h:p.nodes with
  | nil=>rw [h] at hn;exact absurd rfl hn
  | cons _ _=>rfl
 obtain ⟨k,hk1,hk2⟩:∃k:Nat,a.tmod (((p.nodes.map ndL).length:Nat):Int)=(k:Int)∧k<p.nodes.length:=by
  refine ⟨a.toNat % p.nodes.length,?_,Nat.mod_lt _ (by omega)⟩
  rw [hnl,Int.tmod_eq_emod_of_nonneg h0]
  push_cast
  rw [Int.toNat_of_nonneg h0]
 have hmf:formedP { p with nodes:=p.nodes++[⟨12,0,[],[],[]⟩] }=false:=more_not hf _ rfl
 have htf:formedP { p with nodes:=p.nodes++[⟨18,0,[],[],[(k:Int)]⟩] }=false:=twice_not hf _ k hk2 rfl
 have hm1:=s_check_Formed _ (lim_more hl ⟨12,0,[],[],[]⟩ (by decide))
 have hm2:=s_check_Why _ (lim_more hl ⟨12,0,[],[],[]⟩ (by decide))
 have ht1:=s_check_Formed _ (lim_more hl ⟨18,0,[],[],[(k:Int)]⟩ (by simp))
 have ht2:=s_check_Why _ (lim_more hl ⟨18,0,[],[],[(k:Int)]⟩ (by simp))
 rw [hmf] at hm1
 rw [why_not hmf] at hm2
 rw [htf] at ht1
 rw [why_not htf] at ht2
 have q1:DLeL [I 12,I 0,.str [],.str [],.nil] (ndL ⟨12,0,[],[],[]⟩):=.cons (.refl _) (.cons (.refl _) (.cons (.refl _) (.cons (.refl _) (.cons (.nil 1) (.refl _)))))
 have q2:DLeL [I 18,I 0,.str [],.str [],.slice 1 [[I (a.tmod (((p.nodes.map ndL).length:Nat):Int))]] true] (ndL ⟨18,0,[],[],[(k:Int)]⟩):=by
  rw [hk1]
  exact .cons (.refl _) (.cons (.refl _) (.cons (.refl _) (.cons (.refl _) (.cons (.slice (.refl _)) (.refl _)))))
 have hm1:=hm1.args (more_args q1)
 have hm2:=hm2.args (more_args q1)
 have ht1:=ht1.args (more_args q2)
 have ht2:=ht2.args (more_args q2)
 clear q1 q2 hmf htf hk1
 have hN:p.nodes.length≤120:=by
  simp only [fewP,Bool.and_eq_true,decide_eq_true_eq] at hl
  omega
 refine Ret_by is_law06_CheckTree rfl ?_
 repeat refine aw ?_
 exact WT_ret rfl rfl rfl rfl rfl
end Uw.Tryz
