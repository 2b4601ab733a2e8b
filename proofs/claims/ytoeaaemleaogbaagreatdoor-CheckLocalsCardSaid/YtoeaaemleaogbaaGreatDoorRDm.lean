/- RDm: Dm (merged by merge2.py from the working texts). -/
import Derived.Test.YtoeaaemleaogbaaGreatDoorRDk
set_option linter.unusedSimpArgs false
set_option linter.unnecessarySimpa false
set_option linter.unusedVariables false
set_option linter.unusedSectionVars false
namespace Uw.Tryz
open Go Uw
abbrev clS (p:Pg) (l a:List Str) (j:Nat):St:=⟨[(9,.d (I j)),(8,.d (strsC a)),(7,.d (strsC l)),(5,.d (.bool true)),(2,.ptr 0 0)],[(0,pgV p)],1,[],0⟩
def clB:MCode:=qL (qL (qR (qL (qR (qR (qR (qR (qR (qR (qR m_law06_CheckLocals.code))))))))))
theorem nodup_take {l:List Str} (h:l.Nodup) (j:Nat) (hj:j<l.length):¬l[j]∈l.take j:=fun hm=>by
 obtain ⟨i,hi,e⟩:=List.mem_iff_getElem.1 hm
 rw [List.length_take] at hi
 rw [List.getElem_take] at e
 have:=List.pairwise_iff_getElem.1 (List.nodup_iff_pairwise_ne.1 h) i j (by omega) hj (by omega)
 exact this e
set_option maxRecDepth 8000 in
set_option maxHeartbeats 4000000 in
theorem locals_round (p:Pg) (hD:p.decls.length≤60) (l a:List Str) (hlen:l.length≤16) (hpre1:∃t,l=a++t) (hnd:l.Nodup) (hth:∀s∈l,thingP p s=none) (j:Nat) (hj:j<l.length) (hpre:∀i,i<j→True) {QQ:MExit→St→Prop}:WT P0 (LoopQ (clS p l a) (ForI l.length fun _=>True) (forM l.length) j QQ) (exec clB (clS p l a j) Tree.done):=by
 have hm:(l.map fun s=>[Dat.str s]).length=l.length:=by simp
 have hma:(a.map fun s=>[Dat.str s]).length=a.length:=by simp
 have hdl:(p.decls.map decL).length=p.decls.length:=by simp
 have hla:a.length≤l.length:=by obtain ⟨t,rfl⟩:=hpre1;simp
 have he:(l.map fun s=>[Dat.str s])[(j:Int).toNat]? = some [.str l[j]]:=by simp [hj]
 have hin:=s_ref06_In (l.take j) l[j] (by rw [List.length_take];omega)
 rw [decide_eq_false (nodup_take hnd j hj)] at hin
 have hin:Ret P0 n_ref06_In [.slice 1 (((l.map fun s=>[Dat.str s]).take ((j:Int).toNat)).drop 0) false,.str l[j]] (.bool false):=by
  have e:((l.map fun s=>[Dat.str s]).take ((j:Int).toNat)).drop 0=(l.take j).map fun s=>[Dat.str s]:=by
   rw [List.drop_zero,show (j:Int).toNat=j by omega,List.map_take]
  rw [e];exact hin
 have hthj:=hth l[j] (List.getElem_mem hj)
 have hdd:∀(i:Nat) (h:i<p.decls.length),¬p.decls[i].name=l[j]:=fun i h=>thingP_last.1 hthj _ (List.getElem_mem h)
 have hel:∀(i:Nat) (h:i<p.decls.length),(p.decls.map decL)[(i:Int).toNat]? = some (decL p.decls[i]):=fun i h=>by simp [h]
 have hmi:j<a.length→mmI false (j:Int) (mmI true 0 ((((a.map fun s=>[Dat.str s]).length:Nat):Int) - 1))=(j:Int):=fun h=>by
  simp only [mmI]
  omega
 have hea:j<a.length→(a.map fun s=>[Dat.str s])[(mmI false (j:Int) (mmI true 0 ((((a.map fun s=>[Dat.str s]).length:Nat):Int) - 1))).toNat]? = some [.str l[j]]:=fun h=>by
  obtain ⟨t,ht⟩:=hpre1
  rw [hmi h,show (j:Int).toNat=j by omega]
  have e2:l[j]=a[j]:=by
   subst ht
   exact List.getElem_append_left h
  rw [e2];simp [h]
 have hmn:j<a.length→(decide (0≤mmI false (j:Int) (mmI true 0 ((((a.map fun s=>[Dat.str s]).length:Nat):Int) - 1)))&&decide (mmI false (j:Int) (mmI true 0 ((((a.map fun s=>[Dat.str s]).length:Nat):Int) - 1))<(((a.map fun s=>[Dat.str s]).length:Nat):Int)))=true:=fun h=>by
  rw [hmi h,Bool.and_eq_true,decide_eq_true_eq,decide_eq_true_eq]
  omega
 clear hth hthj hnd hpre1
 generalize l[j]=s at *
 by_cases hja:j<a.length
 ·have hea:=hea hja
  have hmn:=hmn hja
  clear hmi
  repeat refine aw ?_
  refine WT_for p.decls.length (fun i:Nat=>⟨[(11,.d (I i)),(9,.d (I j)),(8,.d (strsC a)),(7,.d (strsC l)),(5,.d (.bool true)),(2,.ptr 0 0)],[(0,pgV p)],1,[],0⟩) (fun _=>True) (by exact Uw.wM) (fun _=>?_) (fun i hi _=>?_)
  ·refine aw ?_
   refine WT_break ?_
   repeat refine aw ?_
   exact WT_next j trivial (by exact Uw.wM)
  have hed:=hel i hi
  have hdd:=hdd i hi
  clear hel
  generalize p.decls[i]=d at *
  obtain ⟨dk,dn,dv⟩:=d
  simp only at hdd
  repeat refine aw ?_
  exact WT_next i trivial (by exact Uw.wM)
 ·clear hea hmn hmi
  repeat refine aw ?_
  refine WT_for p.decls.length (fun i:Nat=>⟨[(11,.d (I i)),(9,.d (I j)),(8,.d (strsC a)),(7,.d (strsC l)),(5,.d (.bool true)),(2,.ptr 0 0)],[(0,pgV p)],1,[],0⟩) (fun _=>True) (by exact Uw.wM) (fun _=>?_) (fun i hi _=>?_)
  ·refine aw ?_
   refine WT_break ?_
   repeat refine aw ?_
   exact WT_next j trivial (by exact Uw.wM)
  have hed:=hel i hi
  have hdd:=hdd i hi
  clear hel
  generalize p.decls[i]=d at *
  obtain ⟨dk,dn,dv⟩:=d
  simp only at hdd
  repeat refine aw ?_
  exact WT_next i trivial (by exact Uw.wM)
set_option maxRecDepth 8000 in
set_option maxHeartbeats 4000000 in
theorem l_CheckLocals (p:Pg) (at_:Int) (h01:0≤at_∧at_<256):Ret P0 n_law06_CheckLocals [pgD p,.int .u8 at_] (.bool true):=by
 obtain ⟨h0,h1⟩:=h01
 have ha:=s_law06_awake
 have hfw:=s_law06_few p
 have hfl:(p.funs.map fuL).length=p.funs.length:=by simp
 cases hl:fewP p with
 | false=>
  rw [hl] at hfw
  refine Ret_by is_law06_CheckLocals rfl ?_
  repeat refine aw ?_
  exact WT_ret rfl rfl rfl rfl rfl
 | true=>
 rw [hl] at hfw
 by_cases hn:p.funs.length=0
 ·have hn' : (((p.funs.map fuL).length:Nat):Int)=0:=by omega
  refine Ret_by is_law06_CheckLocals rfl ?_
  repeat refine aw ?_
  exact WT_ret rfl rfl rfl rfl rfl
 have hn' : ¬(((p.funs.map fuL).length:Nat):Int)=0:=by omega
 have hy:=s_check_Why p (few_lim hl)
 by_cases hw:whyP p=0
 rotate_left 1
 ·refine Ret_by is_law06_CheckLocals rfl ?_
  repeat refine aw ?_
  exact WT_ret rfl rfl rfl rfl rfl
 rw [hw] at hy
 have hm:=may_of hw
 have hN:p.decls.length≤60∧p.funs.length≤30:=by
  simp only [fewP,Bool.and_eq_true,decide_eq_true_eq] at hl
  omega
 obtain ⟨K,hK⟩:∃K:Int,K=at_.tmod (((p.funs.map fuL).length:Nat):Int):=⟨_,rfl⟩
 obtain ⟨k,hk1,hk2⟩:∃k:Nat,at_.tmod (((p.funs.map fuL).length:Nat):Int)=(k:Int)∧k<p.funs.length:=by
  refine ⟨at_.toNat % p.funs.length,?_,Nat.mod_lt _ (by omega)⟩
  rw [hfl,Int.tmod_eq_emod_of_nonneg h0]
  push_cast
  rw [Int.toNat_of_nonneg h0]
 have hlo:=s_check_Locals p (few_lim hl) (at_.tmod (((p.funs.map fuL).length:Nat):Int))
 have hf:(p.funs.map fuL)[(at_.tmod (((p.funs.map fuL).length:Nat):Int)).toNat]? = some (fuL p.funs[k]):=by
  rw [hk1,show ((k:Nat):Int).toNat=k by omega];simp [hk2]
 have hk3:0≤at_.tmod (((p.funs.map fuL).length:Nat):Int)∧at_.tmod (((p.funs.map fuL).length:Nat):Int)<((p.funs.map fuL).length:Nat):=by omega
 have hk5:(decide (0≤at_.tmod (((p.funs.map fuL).length:Nat):Int))&&decide (at_.tmod (((p.funs.map fuL).length:Nat):Int)<(((p.funs.map fuL).length:Nat):Int)))=true:=by
  rw [Bool.and_eq_true,decide_eq_true_eq,decide_eq_true_eq];exact hk3
 clear hk3
 obtain ⟨⟨hl1,hl2,hl3⟩,hl4⟩:=hm.locals k hk2
 rw [hk1] at hlo
 rw [← hk1] at hlo
 have hlo:Ret P0 n_check_Locals [pgD p,I (at_.tmod (((p.funs.map fuL).length:Nat):Int))] (strsC (localsOf p (k:Int))):=by rw [hk1] at hlo ⊢;exact hlo
 generalize localsOf p (k:Int)=l at *
 generalize p.funs[k]=f at *
 obtain ⟨fn,fa,fb⟩:=f
 simp only at hl1
 have hf:(p.funs.map fuL)[(at_.tmod (((p.funs.map fuL).length:Nat):Int)).toNat]? = some [.str fn,strsC fa,I fb]:=hf
 clear hk1 hK
 have hla:fa.length≤l.length:=by obtain ⟨t,rfl⟩:=hl1;simp
 have hlm:(l.map fun s=>[Dat.str s]).length=l.length:=by simp
 have hlma:(fa.map fun s=>[Dat.str s]).length=fa.length:=by simp
 have c1:¬(((l.map fun s=>[Dat.str s]).length:Nat):Int)<((fa.map fun s=>[Dat.str s]).length:Nat):=by omega
 have c2:¬(16:Int)<((l.map fun s=>[Dat.str s]).length:Nat):=by omega
 refine Ret_by is_law06_CheckLocals rfl ?_
 repeat refine aw ?_
 refine WT_for l.length (clS p l fa) (fun _=>True) (by exact Uw.wM) (fun _=>?_) (fun j hj hpre=>?_)
 rotate_left 1
 ·exact locals_round p (by omega) l fa hl4 hl1 hl2 hl3 j hj hpre
 refine aw ?_
 refine WT_break ?_
 repeat refine aw ?_
 exact WT_ret rfl rfl rfl rfl rfl
end Uw.Tryz
