/- RDn: Dn (merged by merge2.py from the working texts). -/
import Derived.Test.YtoeaaemleaogbaaGreatDoorRDk
import Derived.Test.YtoeaaemleaogbaaGreatDoorRDl
set_option linter.unusedSimpArgs false
set_option linter.unnecessarySimpa false
set_option linter.unusedVariables false
set_option linter.unusedSectionVars false
namespace Uw.Tryz
open Go Uw
def lastK (s:Str):List Dec→Int→Int
 | [],a=>a
 | d::r,a=>lastK s r (if d.name=s then d.kind else a)
theorem lastK_snoc (s:Str) (d:Dec):∀(l:List Dec) (a:Int),lastK s (l++[d]) a=if d.name=s then d.kind else lastK s l a
 | [],a=>rfl
 | e::l,a=>by rw [List.cons_append,lastK,lastK_snoc s d l,lastK]
theorem lastK_none {s:Str}:∀(l:List Dec) (a:Int),(∀d∈l,d.name≠s)→lastK s l a=a
 | [],a,_=>rfl
 | e::l,a,h=>by rw [lastK,if_neg (h e (by simp)),lastK_none l a fun d hd=>h d (by simp [hd])]
theorem lastK_some {s:Str} {k:Int}:∀(l:List Dec) (a:Int),(∀d∈l,d.name=s→d.kind=k)→(∃d∈l,d.name=s)∨a=k→lastK s l a=k
 | [],a,_,h=>by rcases h with ⟨d,hd,_⟩|h;simp at hd;exact h
 | e::l,a,h,h2=>by
  rw [lastK]
  refine lastK_some l _ (fun d hd=>h d (by simp [hd])) ?_
  by_cases he:e.name=s
  ·rw [if_pos he];exact .inr (h e (by simp) he)
  ·rw [if_neg he]
   rcases h2 with ⟨d,hd,hds⟩|h2
   ·rcases List.mem_cons.1 hd with rfl|hd
    ·exact absurd hds he
    ·exact .inl ⟨d,hd,hds⟩
   ·exact .inr h2
theorem May.lastK {p:Pg} (h:May p) (s:Str):lastK s p.decls (-1)=(thingP p s).getD (-1):=by
 cases ht:thingP p s with
 | none=>exact lastK_none _ _ (thingP_last.1 ht)
 | some k=>
  refine lastK_some _ _ (fun d hd he=>?_) (.inl ?_)
  ·have:=thingP_mem h.names.1 hd
   rw [he,ht] at this
   injection this with this
   exact this.symm
  ·refine Classical.byContradiction fun hn=>?_
   have:thingP p s=none:=thingP_last.2 fun d hd he=>hn ⟨d,hd,he⟩
   rw [this] at ht;cases ht
def anyL (p:Pg) (s:Str):Nat→Bool
 | 0=>false
 | n+1=>anyL p s n||decide (s∈localsOf p (n:Int))
theorem anyL_of {p:Pg} {s:Str}:∀{n k:Nat},k<n→s∈localsOf p k→anyL p s n=true
 | n+1,k,h,hm=>by
  rw [anyL]
  by_cases hk:k=n
  ·subst hk;simp [hm]
  ·rw [anyL_of (n:=n) (by omega) hm];rfl
abbrev cnS (p:Pg) (j:Nat):St:=⟨[(4,.d (I j)),(3,.d (.bool true)),(1,.ptr 0 0)],[(0,pgV p)],1,[],0⟩
def cnB:MCode:=qL (qL (qR (qL (qR (qR (qR m_law06_CheckNames.code))))))
theorem localsOf_short {p:Pg} (hm:May p) (k:Nat) (hk:k<p.funs.length):(localsOf p k).length<1000000000:=by
 have:=(hm.locals k hk).2
 omega
abbrev nnX (xk xn:Int) (xs xt:Str) (xo:List Int):Blk:=.var [.d (I xk),.d (I xn),.d (.str xs),.d (.str xt),.d (intsD xo)]
abbrev nnS1 (p:Pg) (b:Blk) (j:Nat) (E:Nat→Int) (i:Nat):St:=⟨[(7,.d (I i)),(6,.d (I (E i))),(5,.ptr 1 0),(4,.d (I j)),(3,.d (.bool true)),(1,.ptr 0 0)],[(1,b),(0,pgV p)],2,[],0⟩
abbrev nnS2 (p:Pg) (b:Blk) (j:Nat) (e:Int) (A:Nat→Bool) (i:Nat):St:=⟨[(9,.d (I i)),(8,.d (.bool (A i))),(6,.d (I e)),(5,.ptr 1 0),(4,.d (I j)),(3,.d (.bool true)),(1,.ptr 0 0)],[(1,b),(0,pgV p)],2,[],0⟩
def nnX0:MCode:=qL (qL (qR cnB))
def nnB1:MCode:=qL (qL (qR (qL (qR (qR nnX0)))))
def nnB2:MCode:=qL (qL (qR (qL (qR (qR (qR (qR (qR (qR nnX0)))))))))
set_option maxHeartbeats 4000000 in
theorem names_in1 (p:Pg) (hD:p.decls.length≤60) (xk xn:Int) (xs xt:Str) (xo:List Int) (j:Nat) (E:Nat→Int) (hEs:∀(i:Nat) (h:i<p.decls.length),E (i+1)=if p.decls[i].name=xs then p.decls[i].kind else E i)
  (i:Nat) (hi:i<p.decls.length) (hpre:∀m,m<i→True) {QQ:MExit→St→Prop}:WT P0 (LoopQ (nnS1 p (nnX xk xn xs xt xo) j E) (ForI p.decls.length fun _=>True) (forM p.decls.length) i QQ) (exec nnB1 (nnS1 p (nnX xk xn xs xt xo) j E i) Tree.done):=by
 have hdl:(p.decls.map decL).length=p.decls.length:=by simp
 have hed:(p.decls.map decL)[(i:Int).toNat]? = some (decL p.decls[i]):=by simp [hi]
 have hEs:=hEs i hi
 generalize p.decls[i]=d at *
 obtain ⟨dk,dn,dv⟩:=d
 have hed:(p.decls.map decL)[(i:Int).toNat]? = some [I dk,.str dn,I dv]:=hed
 simp only at hEs
 by_cases q:dn=xs
 ·rw [if_pos q] at hEs
  repeat refine aw ?_
  exact WT_next i trivial (by exact Uw.wM)
 ·rw [if_neg q] at hEs
  repeat refine aw ?_
  exact WT_next i trivial (by exact Uw.wM)
set_option maxHeartbeats 4000000 in
theorem names_in2 (p:Pg) (hF:p.funs.length≤30) (hp:Lim p) (xk xn:Int) (xs xt:Str) (xo:List Int) (j:Nat) (e:Int) (A:Nat→Bool) (hAs:∀i:Nat,A (i+1)=(A i||decide (xs∈localsOf p (i:Int)))) (hlen:∀k,k<p.funs.length→(localsOf p (k:Int)).length<1000000000)
  (i:Nat) (hi:i<p.funs.length) (hpre:∀m,m<i→True) {QQ:MExit→St→Prop}:WT P0 (LoopQ (nnS2 p (nnX xk xn xs xt xo) j e A) (ForI p.funs.length fun _=>True) (forM p.funs.length) i QQ) (exec nnB2 (nnS2 p (nnX xk xn xs xt xo) j e A i) Tree.done):=by
 have hfl:(p.funs.map fuL).length=p.funs.length:=by simp
 have hlo:=s_check_Locals p hp (i:Int)
 have hin:=s_ref06_In (localsOf p (i:Int)) xs (hlen i hi)
 have hAs:=hAs i
 have hS:nnS2 p (nnX xk xn xs xt xo) j e A (i+1)=⟨[(9,.d (I ((i+1:Nat):Int))),(8,.d (.bool (A i||decide (xs∈localsOf p (i:Int))))),(6,.d (I e)),(5,.ptr 1 0),(4,.d (I j)),(3,.d (.bool true)),(1,.ptr 0 0)],[(1,nnX xk xn xs xt xo),(0,pgV p)],2,[],0⟩:=by
  rw [nnS2,hAs]
 clear hAs
 generalize decide (xs∈localsOf p (i:Int))=b at *
 generalize hb:A i=ai at *
 have hS0:nnS2 p (nnX xk xn xs xt xo) j e A i=⟨[(9,.d (I (i:Int))),(8,.d (.bool ai)),(6,.d (I e)),(5,.ptr 1 0),(4,.d (I j)),(3,.d (.bool true)),(1,.ptr 0 0)],[(1,nnX xk xn xs xt xo),(0,pgV p)],2,[],0⟩:=by rw [nnS2,hb]
 rw [hS0]
 cases ai with
 | true=>
  have hS:nnS2 p (nnX xk xn xs xt xo) j e A (i+1)=⟨[(9,.d (I ((i+1:Nat):Int))),(8,.d (.bool true)),(6,.d (I e)),(5,.ptr 1 0),(4,.d (I j)),(3,.d (.bool true)),(1,.ptr 0 0)],[(1,nnX xk xn xs xt xo),(0,pgV p)],2,[],0⟩:=hS
  repeat refine aw ?_
  refine WT_next i trivial (wk_eq hS ?_)
  exact Uw.wM
 | false=>
  have hS:nnS2 p (nnX xk xn xs xt xo) j e A (i+1)=⟨[(9,.d (I ((i+1:Nat):Int))),(8,.d (.bool b)),(6,.d (I e)),(5,.ptr 1 0),(4,.d (I j)),(3,.d (.bool true)),(1,.ptr 0 0)],[(1,nnX xk xn xs xt xo),(0,pgV p)],2,[],0⟩:=hS
  repeat refine aw ?_
  refine WT_next i trivial (wk_eq hS ?_)
  exact Uw.wM
set_option maxRecDepth 8000 in
set_option maxHeartbeats 4000000 in
theorem names_round (p:Pg) (hl:fewP p=true) (hm:May p) (j:Nat) (hj:j<p.nodes.length) (hpre:∀i,i<j→True) {QQ:MExit→St→Prop}:WT P0 (LoopQ (cnS p) (ForI p.nodes.length fun _=>True) (forM p.nodes.length) j QQ) (exec cnB (cnS p j) Tree.done):=by
 have hN:p.nodes.length≤120∧p.funs.length≤30∧p.decls.length≤60:=by
  simp only [fewP,Bool.and_eq_true,decide_eq_true_eq] at hl
  omega
 obtain ⟨hN1,hN2,hN3⟩:=hN
 have hp:=few_lim hl
 have hnl:(p.nodes.map ndL).length=p.nodes.length:=by simp
 have hfl:(p.funs.map fuL).length=p.funs.length:=by simp
 have hdl:(p.decls.map decL).length=p.decls.length:=by simp
 have he:(p.nodes.map ndL)[(j:Int).toNat]? = some (ndL p.nodes[j]):=by simp [hj]
 obtain ⟨hr8,hr2⟩:=hm.read (mem_get hj)
 have hlk:=hm.lastK p.nodes[j].name
 have hlen:=localsOf_short hm
 generalize p.nodes[j]=x at *
 obtain ⟨xk,xn,xs,xt,xo⟩:=x
 have he:(p.nodes.map ndL)[(j:Int).toNat]? = some [I xk,I xn,.str xs,.str xt,intsD xo]:=he
 simp only at hr8 hr2 hlk
 obtain ⟨E,hE⟩:∃E:Nat→Int,∀i,E i=lastK xs (p.decls.take i) (-1):=⟨_,fun _=>rfl⟩
 have hE0:(-1:Int)=E 0:=by rw [hE];rfl
 have hEn:E p.decls.length=(thingP p xs).getD (-1):=by rw [hE,List.take_length,hlk]
 have hEs:∀(i:Nat) (h:i<p.decls.length),E (i+1)=if p.decls[i].name=xs then p.decls[i].kind else E i:=fun i h=>by
  rw [hE,hE,List.take_succ_eq_append_getElem h,lastK_snoc]
 clear hE hlk hl
 by_cases k8:xk=8
 ·obtain ⟨k,hk1,hk2⟩:=hr8 k8
  rw [hk1] at hEn
  have hEn:E p.decls.length=k:=hEn
  have hk3:¬E p.decls.length<(1:Int):=by omega
  subst k8
  clear hr2 hr8 hm
  repeat refine aw ?_
  refine WT_for p.decls.length (nnS1 p (nnX 8 xn xs xt xo) j E) (fun _=>True) (by exact Uw.wM) (fun _=>?_) (fun i hi hpre=>names_in1 p hN3 8 xn xs xt xo j E hEs i hi hpre)
  refine aw ?_
  refine WT_break ?_
  repeat refine aw ?_
  exact WT_next j trivial (by exact Uw.wM)
 by_cases k2:xk=2
 rotate_left 1
 ·clear hr2 hr8 hm
  repeat refine aw ?_
  refine WT_for p.decls.length (nnS1 p (nnX xk xn xs xt xo) j E) (fun _=>True) (by exact Uw.wM) (fun _=>?_) (fun i hi hpre=>names_in1 p hN3 xk xn xs xt xo j E hEs i hi hpre)
  refine aw ?_
  refine WT_break ?_
  repeat refine aw ?_
  exact WT_next j trivial (by exact Uw.wM)
 have hr3:=hr2 k2
 subst k2
 clear hr8 hr2
 rcases hr3 with h0|⟨h0,k,hk,hin2⟩
 ·rw [h0] at hEn
  have hEn:E p.decls.length=0:=hEn
  repeat refine aw ?_
  refine WT_for p.decls.length (nnS1 p (nnX 2 xn xs xt xo) j E) (fun _=>True) (by exact Uw.wM) (fun _=>?_) (fun i hi hpre=>names_in1 p hN3 2 xn xs xt xo j E hEs i hi hpre)
  refine aw ?_
  refine WT_break ?_
  repeat refine aw ?_
  exact WT_next j trivial (by exact Uw.wM)
 rw [h0] at hEn
 have hEn:E p.decls.length = -1:=hEn
 obtain ⟨A,hA⟩:∃A:Nat→Bool,∀i,A i=anyL p xs i:=⟨_,fun _=>rfl⟩
 have hA0:A 0=false:=by rw [hA];rfl
 have hAs:∀i:Nat,A (i+1)=(A i||decide (xs∈localsOf p (i:Int))):=fun i=>by rw [hA,hA];rfl
 have hAn:A p.funs.length=true:=by rw [hA];exact anyL_of hk hin2
 have hS0:nnS2 p (nnX 2 xn xs xt xo) j (E p.decls.length) A 0=⟨[(9,.d (I ((0:Nat):Int))),(8,.d (.bool false)),(6,.d (I (E p.decls.length))),(5,.ptr 1 0),(4,.d (I j)),(3,.d (.bool true)),(1,.ptr 0 0)],[(1,nnX 2 xn xs xt xo),(0,pgV p)],2,[],0⟩:=by rw [nnS2,hA0]
 have hSn:nnS2 p (nnX 2 xn xs xt xo) j (E p.decls.length) A p.funs.length=⟨[(9,.d (I (p.funs.length:Nat))),(8,.d (.bool true)),(6,.d (I (E p.decls.length))),(5,.ptr 1 0),(4,.d (I j)),(3,.d (.bool true)),(1,.ptr 0 0)],[(1,nnX 2 xn xs xt xo),(0,pgV p)],2,[],0⟩:=by rw [nnS2,hAn]
 clear hA hA0 hAn hk hin2 h0 hm
 repeat refine aw ?_
 refine WT_for p.decls.length (nnS1 p (nnX 2 xn xs xt xo) j E) (fun _=>True) (by exact Uw.wM) (fun _=>?_) (fun i hi hpre=>names_in1 p hN3 2 xn xs xt xo j E hEs i hi hpre)
 refine aw ?_
 refine WT_break ?_
 repeat refine aw ?_
 refine WT_for p.funs.length (nnS2 p (nnX 2 xn xs xt xo) j (E p.decls.length) A) (fun _=>True) (wk_eq hS0 ?_) (fun _=>?_) (fun i hi hpre=>names_in2 p hN2 hp 2 xn xs xt xo j (E p.decls.length) A hAs hlen i hi hpre)
 ·exact Uw.wM
 rw [hSn]
 refine aw ?_
 refine WT_break ?_
 repeat refine aw ?_
 exact WT_next j trivial (by exact Uw.wM)
set_option maxRecDepth 8000 in
set_option maxHeartbeats 4000000 in
theorem l_CheckNames (p:Pg):Ret P0 n_law06_CheckNames [pgD p] (.bool true):=by
 have ha:=s_law06_awake
 have hfw:=s_law06_few p
 cases hl:fewP p with
 | false=>
  rw [hl] at hfw
  refine Ret_by is_law06_CheckNames rfl ?_
  repeat refine aw ?_
  exact WT_ret rfl rfl rfl rfl rfl
 | true=>
 rw [hl] at hfw
 have hy:=s_check_Why p (few_lim hl)
 by_cases hw:whyP p=0
 rotate_left 1
 ·refine Ret_by is_law06_CheckNames rfl ?_
  repeat refine aw ?_
  exact WT_ret rfl rfl rfl rfl rfl
 rw [hw] at hy
 have hm:=may_of hw
 have hnl:(p.nodes.map ndL).length=p.nodes.length:=by simp
 refine Ret_by is_law06_CheckNames rfl ?_
 repeat refine aw ?_
 refine WT_for p.nodes.length (cnS p) (fun _=>True) (by exact Uw.wM) (fun _=>?_) (fun j hj hpre=>?_)
 rotate_left 1
 ·exact names_round p hl hm j hj hpre
 refine aw ?_
 refine WT_break ?_
 repeat refine aw ?_
 exact WT_ret rfl rfl rfl rfl rfl
end Uw.Tryz
