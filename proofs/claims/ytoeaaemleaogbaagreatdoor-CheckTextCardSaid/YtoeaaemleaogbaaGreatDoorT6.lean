/- T6: Cz Dc (merged by merge2.py from the working texts). -/
import Derived.Test.YtoeaaemleaogbaaGreatDoorT5
set_option linter.unusedSimpArgs false
set_option linter.unnecessarySimpa false
set_option linter.unusedVariables false
set_option linter.unusedSectionVars false
namespace Uw.Tryz
open Go Uw
abbrev wyCs (p:Pg):List V:=[.d (.slice 3 (p.decls.map decL) false),.d (.slice 3 (p.funs.map fuL) false),.d (nodesD p.nodes),.hnd 1,.hnd 2,.d (intsD (ownersP p)),.d (strssD (localsP p))]
abbrev wyH (p:Pg) (es:MS):Heap:=[(2,.map none es),(3,.var (wyCs p)),(1,.map none (thE p.decls)),(0,pgV p)]
theorem fnGo_snoc (f:Fu):∀(fs:List Fu) (i:Nat) (es:MS),fnGo i (fs++[f]) es=(if (mget (fnGo i fs es) (.s f.name)).isSome then fnGo i fs es else mset (fnGo i fs es) (.s f.name) (I ((i+fs.length:Nat):Int)))
 | [],i,es=>rfl
 | g::fs,i,es=>by
  rw [List.cons_append,fnGo,fnGo_snoc f fs,fnGo,List.length_cons,show i+1+fs.length=i+(fs.length+1) by omega]
theorem fn_step (p:Pg) (j:Nat) (h:j<p.funs.length):((∃v,mget (fnE (p.funs.take j)) (.s p.funs[j].name)=some (I v))∧fnE (p.funs.take j)=fnE (p.funs.take (j+1)))∨(mget (fnE (p.funs.take j)) (.s p.funs[j].name)=none∧mset (fnE (p.funs.take j)) (.s p.funs[j].name) (I (j:Nat))=fnE (p.funs.take (j+1))):=by
 have hl:(p.funs.take j).length=j:=by rw [List.length_take];omega
 rw [List.take_succ_eq_append_getElem h]
 have e:=fnGo_snoc p.funs[j] (p.funs.take j) 0 []
 rw [hl,Nat.zero_add] at e
 show ((∃v,_)∧_=fnGo 0 _ [])∨(_∧_=fnGo 0 _ [])
 rw [e]
 have hg:=fnGo_get p.funs[j].name (p.funs.take j) 0 []
 cases hq:mget (fnGo 0 (p.funs.take j) []) (.s p.funs[j].name) with
 | none=>exact .inr ⟨hq,by simp [fnE]⟩
 | some v=>
  refine .inl ⟨?_,by simp [fnE]⟩
  rw [hq] at hg
  simp only [mget,Option.none_or] at hg
  cases hi:(p.funs.take j).findIdx? fun f=>decide (f.name=p.funs[j].name) with
  | none=>rw [hi] at hg;cases hg
  | some i=>rw [hi] at hg;exact ⟨_,hq.trans hg⟩
abbrev wyS (p:Pg) (E:Nat→MS) (j:Nat):St:=⟨[(26,.d (I j)),(25,.d (I ((p.funs.map fuL).length:Nat))),(24,.d (.slice 3 (p.funs.map fuL) false)),(3,.ptr 3 0),(1,.ptr 0 0)],wyH p (E j),4,[],0⟩
set_option maxRecDepth 8000 in
set_option maxHeartbeats 2000000 in
theorem why_of (p:Pg) (hp:Lim p) (hnm:formedP p=true→SatE P0 n_check_search_name [.agg (sCs p)] (sBs p) (.d (.bool (nameP p))) (sBs p)):Ret P0 n_check_Why [pgD p] (I (whyP p)):=by
 have hfm:=s_check_Formed p hp
 have hF:=hp.funs
 have hfl:(p.funs.map fuL).length=p.funs.length:=by simp
 refine Ret_by is_check_Why rfl ?_
 cases hf:formedP p with
 | false=>
  rw [hf] at hfm
  have hw:whyP p=1:=by rw [whyP,if_pos hf]
  rw [hw]
  repeat (first|refine aw ?_|refine f1 ?_)
  exact WT_ret rfl rfl rfl rfl rfl
 | true=>
 rw [hf] at hfm
 have how:=s_check_owners p hf hp
 have hlo:=s_check_locals p hf hp
 have hth:=s_check_things p hp.decls
 obtain ⟨E,hE⟩:∃E:Nat→MS,∀j,E j=fnE (p.funs.take j):=⟨_,fun _=>rfl⟩
 have hS0:wyS p E 0=⟨[(26,.d (I (0:Nat))),(25,.d (I ((p.funs.map fuL).length:Nat))),(24,.d (.slice 3 (p.funs.map fuL) false)),(3,.ptr 3 0),(1,.ptr 0 0)],wyH p [],4,[],0⟩:=by
  rw [wyS,hE];rfl
 have hSn:wyS p E p.funs.length=⟨[(26,.d (I (p.funs.length:Nat))),(25,.d (I ((p.funs.map fuL).length:Nat))),(24,.d (.slice 3 (p.funs.map fuL) false)),(3,.ptr 3 0),(1,.ptr 0 0)],wyH p (fnE p.funs),4,[],0⟩:=by
  rw [wyS,hE,List.take_length]
 have hst:∀(j:Nat) (h:j<p.funs.length),((∃v,mget (E j) (.s p.funs[j].name)=some (I v))∧E j=E (j+1))∨(mget (E j) (.s p.funs[j].name)=none∧mset (E j) (.s p.funs[j].name) (I (j:Nat))=E (j+1)):=fun j h=>by
  rw [hE,hE];exact fn_step p j h
 have hel:∀(j:Nat) (h:j<p.funs.length),(p.funs.map fuL)[(j:Int).toNat]? = some (fuL p.funs[j]):=fun j h=>by simp [h]
 clear hE
 repeat (first|refine aw ?_|refine f1 ?_)
 refine WT_draw ⟨[(3,.ptr 3 0),(1,.ptr 0 0)],wyH p [],4,[],0⟩ ?_ ?_
 ·repeat' (first|refine aw ?_|refine f1 ?_|refine WT_both ?_ ?_|refine WT_frE 1 [] hth ?_|refine WT_frE 2 [] hth ?_|refine WT_frE 3 [] hth ?_)
  all_goals first|exact WT_done (.inl ⟨rfl,Weak.eqs [(1,1),(2,2),(3,3)] rfl rfl rfl rfl rfl rfl rfl rfl rfl rfl⟩)|exact WT_done (.inl ⟨rfl,Weak.eqs [(1,1),(2,3),(3,2)] rfl rfl rfl rfl rfl rfl rfl rfl rfl rfl⟩)|exact WT_done (.inl ⟨rfl,Weak.eqs [(1,2),(2,1),(3,3)] rfl rfl rfl rfl rfl rfl rfl rfl rfl rfl⟩)|exact WT_done (.inl ⟨rfl,Weak.eqs [(1,2),(2,3),(3,1)] rfl rfl rfl rfl rfl rfl rfl rfl rfl rfl⟩)|exact WT_done (.inl ⟨rfl,Weak.eqs [(1,3),(2,1),(3,2)] rfl rfl rfl rfl rfl rfl rfl rfl rfl rfl⟩)|exact WT_done (.inl ⟨rfl,Weak.eqs [(1,3),(2,2),(3,1)] rfl rfl rfl rfl rfl rfl rfl rfl rfl rfl⟩)
 repeat (first|refine aw ?_|refine f1 ?_)
 refine WT_for p.funs.length (wyS p E) (fun _=>True) (wk_eq hS0 ?_) (fun _=>?_) (fun j hj _=>?_)
 ·exact Uw.wM
 rotate_left 1
 ·have he:=hel j hj
  have hs:=hst j hj
  clear hel hst hSn hS0 hfm how hlo hth
  generalize p.funs[j]=f at *
  obtain ⟨fn,fa,fb⟩:=f
  have he:(p.funs.map fuL)[(j:Int).toNat]? = some [.str fn,.slice 1 (fa.map fun s=>[Dat.str s]) false,I fb]:=he
  simp only at hs
  rcases hs with ⟨⟨v,hv⟩,h2⟩|⟨hv,h2⟩
  ·repeat (first|refine aw ?_|refine f1 ?_|refine m1 ?_)
   exact WT_next j trivial (by exact Uw.wM)
  ·repeat (first|refine aw ?_|refine f1 ?_|refine m1 ?_)
   exact WT_next j trivial (by exact Uw.wM)
 rw [hSn]
 clear hel hst hSn hS0 hfm how hlo hth
 have hb:=s_search_bound p hp
 have ht:=s_search_twice p hp
 have hnm:=hnm hf
 have hs:=s_search_sort p hp
 have hm:=fun h=>s_search_many p hp h
 have hmain:nameP p=false→p.funs≠[]:=fun h e=>by
  rw [nameP,Bool.or_eq_false_iff,Bool.or_eq_false_iff,funP,e] at h
  simp at h
 have hw:whyP p=(if boundP p=true then 2 else if twiceP p=true then 5 else if nameP p=true then 4 else if sortP p=true then 6 else if manyP p=true then 7 else 0):=by rw [whyP,hf];rfl
 cases h1:boundP p with
 | true=>
  rw [h1] at hb
  rw [show whyP p=2 by rw [hw,h1];rfl]
  refine aw ?_
  refine WT_break ?_
  repeat (first|refine aw ?_|refine f1 ?_)
  refine WT_rounds 6 ?_
  repeat (first|refine aw ?_|refine f1 ?_)
  refine WT_frE 6 [1,2] hb ?_
  repeat (first|refine aw ?_|refine f1 ?_)
  refine WT_rleave ?_
  exact WT_ret rfl rfl rfl rfl rfl
 | false=>
 rw [h1] at hb
 cases h2:twiceP p with
 | true=>
  rw [h2] at ht
  rw [show whyP p=5 by rw [hw,h1,h2];rfl]
  refine aw ?_
  refine WT_break ?_
  repeat (first|refine aw ?_|refine f1 ?_)
  refine WT_rounds 6 ?_
  repeat (first|refine aw ?_|refine f1 ?_)
  refine WT_frE 6 [1,2] hb ?_
  repeat (first|refine aw ?_|refine f1 ?_)
  refine WT_rnext ?_
  repeat (first|refine aw ?_|refine f1 ?_)
  refine WT_frE 7 [1,2] ht ?_
  repeat (first|refine aw ?_|refine f1 ?_)
  refine WT_rleave ?_
  exact WT_ret rfl rfl rfl rfl rfl
 | false=>
 rw [h2] at ht
 cases h3:nameP p with
 | true=>
  rw [h3] at hnm
  rw [show whyP p=4 by rw [hw,h1,h2,h3];rfl]
  refine aw ?_
  refine WT_break ?_
  repeat (first|refine aw ?_|refine f1 ?_)
  refine WT_rounds 6 ?_
  repeat (first|refine aw ?_|refine f1 ?_)
  refine WT_frE 6 [1,2] hb ?_
  repeat (first|refine aw ?_|refine f1 ?_)
  refine WT_rnext ?_
  repeat (first|refine aw ?_|refine f1 ?_)
  refine WT_frE 7 [1,2] ht ?_
  repeat (first|refine aw ?_|refine f1 ?_)
  refine WT_rnext ?_
  repeat (first|refine aw ?_|refine f1 ?_)
  refine WT_frE 8 [1,2] hnm ?_
  repeat (first|refine aw ?_|refine f1 ?_)
  refine WT_rleave ?_
  exact WT_ret rfl rfl rfl rfl rfl
 | false=>
 rw [h3] at hnm
 cases h4:sortP p with
 | true=>
  rw [h4] at hs
  rw [show whyP p=6 by rw [hw,h1,h2,h3,h4];rfl]
  refine aw ?_
  refine WT_break ?_
  repeat (first|refine aw ?_|refine f1 ?_)
  refine WT_rounds 6 ?_
  repeat (first|refine aw ?_|refine f1 ?_)
  refine WT_frE 6 [1,2] hb ?_
  repeat (first|refine aw ?_|refine f1 ?_)
  refine WT_rnext ?_
  repeat (first|refine aw ?_|refine f1 ?_)
  refine WT_frE 7 [1,2] ht ?_
  repeat (first|refine aw ?_|refine f1 ?_)
  refine WT_rnext ?_
  repeat (first|refine aw ?_|refine f1 ?_)
  refine WT_frE 8 [1,2] hnm ?_
  repeat (first|refine aw ?_|refine f1 ?_)
  refine WT_rnext ?_
  repeat (first|refine aw ?_|refine f1 ?_)
  refine WT_frE 9 [1,2] hs ?_
  repeat (first|refine aw ?_|refine f1 ?_)
  refine WT_rleave ?_
  exact WT_ret rfl rfl rfl rfl rfl
 | false=>
 rw [h4] at hs
 have hm:=hm (hmain h3)
 cases h5:manyP p with
 | true=>
  rw [h5] at hm
  rw [show whyP p=7 by rw [hw,h1,h2,h3,h4,h5];rfl]
  refine aw ?_
  refine WT_break ?_
  repeat (first|refine aw ?_|refine f1 ?_)
  refine WT_rounds 6 ?_
  repeat (first|refine aw ?_|refine f1 ?_)
  refine WT_frE 6 [1,2] hb ?_
  repeat (first|refine aw ?_|refine f1 ?_)
  refine WT_rnext ?_
  repeat (first|refine aw ?_|refine f1 ?_)
  refine WT_frE 7 [1,2] ht ?_
  repeat (first|refine aw ?_|refine f1 ?_)
  refine WT_rnext ?_
  repeat (first|refine aw ?_|refine f1 ?_)
  refine WT_frE 8 [1,2] hnm ?_
  repeat (first|refine aw ?_|refine f1 ?_)
  refine WT_rnext ?_
  repeat (first|refine aw ?_|refine f1 ?_)
  refine WT_frE 9 [1,2] hs ?_
  repeat (first|refine aw ?_|refine f1 ?_)
  refine WT_rnext ?_
  repeat (first|refine aw ?_|refine f1 ?_)
  refine WT_frE 10 [1,2] hm ?_
  repeat (first|refine aw ?_|refine f1 ?_)
  refine WT_rleave ?_
  exact WT_ret rfl rfl rfl rfl rfl
 | false=>
 rw [h5] at hm
 rw [show whyP p=0 by rw [hw,h1,h2,h3,h4,h5];rfl]
 refine aw ?_
 refine WT_break ?_
 repeat (first|refine aw ?_|refine f1 ?_)
 refine WT_rounds 6 ?_
 repeat (first|refine aw ?_|refine f1 ?_)
 refine WT_frE 6 [1,2] hb ?_
 repeat (first|refine aw ?_|refine f1 ?_)
 refine WT_rnext ?_
 repeat (first|refine aw ?_|refine f1 ?_)
 refine WT_frE 7 [1,2] ht ?_
 repeat (first|refine aw ?_|refine f1 ?_)
 refine WT_rnext ?_
 repeat (first|refine aw ?_|refine f1 ?_)
 refine WT_frE 8 [1,2] hnm ?_
 repeat (first|refine aw ?_|refine f1 ?_)
 refine WT_rnext ?_
 repeat (first|refine aw ?_|refine f1 ?_)
 refine WT_frE 9 [1,2] hs ?_
 repeat (first|refine aw ?_|refine f1 ?_)
 refine WT_rnext ?_
 repeat (first|refine aw ?_|refine f1 ?_)
 refine WT_frE 10 [1,2] hm ?_
 repeat (first|refine aw ?_|refine f1 ?_)
 refine WT_rnext ?_
 repeat (first|refine aw ?_|refine f1 ?_)
 refine WT_rbreak ?_
 repeat (first|refine aw ?_|refine f1 ?_)
 exact WT_ret rfl rfl rfl rfl rfl
end Uw.Tryz
namespace Uw.Tryz
open Go Uw
abbrev naH (p:Pg) (mv:List V) (fam:Heap):Heap:=(2,.var (sCs p))::(3,.var mv)::(0,.map none (thE p.decls))::(1,.map none (fnE p.funs))::fam
theorem naH_inv {p:Pg} {mv:List V} {fam:Heap} {id:Nat} {b:Blk} (h:look (naH p mv fam) id=some b):(id=2∧b = .var (sCs p))∨(id=3∧b = .var mv)∨(id=0∧b = .map none (thE p.decls))∨(id=1∧b = .map none (fnE p.funs))∨look fam id=some b:=by
 rw [look_cons] at h
 by_cases h2:2=id
 ·rw [if_pos h2] at h;injection h with h;exact .inl ⟨h2.symm,h.symm⟩
 rw [if_neg h2,look_cons] at h
 by_cases h3:3=id
 ·rw [if_pos h3] at h;injection h with h;exact .inr (.inl ⟨h3.symm,h.symm⟩)
 rw [if_neg h3,look_cons] at h
 by_cases h1:0=id
 ·rw [if_pos h1] at h;injection h with h;exact .inr (.inr (.inl ⟨h1.symm,h.symm⟩))
 rw [if_neg h1,look_cons] at h
 by_cases h0:1=id
 ·rw [if_pos h0] at h;injection h with h;exact .inr (.inr (.inr (.inl ⟨h0.symm,h.symm⟩)))
 rw [if_neg h0] at h
 exact .inr (.inr (.inr (.inr h)))
theorem naH_low {p:Pg} {mv:List V} {fam:Heap} {id:Nat} (h:4≤id):look (naH p mv fam) id=look fam id:=by
 rw [look_cons,if_neg (by omega),look_cons,if_neg (by omega),look_cons,if_neg (by omega),look_cons,if_neg (by omega)]
theorem na_closed {p:Pg} {ls:List (List Str)} {ms:List MS} {mv:List V} {r n:Nat} (hms:ms.length=ls.length) (hn:n=ls.length):closedL (naH p mv (famF ls ms)) (mapsV mid 0 n++List.replicate r (.d .nilMap))=true:=by
 subst hn
 rw [closedL_iff]
 intro v hv
 rcases List.mem_append.1 hv with hv|hv
 ·obtain ⟨k,hk⟩:=List.mem_iff_getElem?.1 hv
  have hkl:k<ls.length:=by
   rcases Nat.lt_or_ge k ls.length with h|h
   ·exact h
   ·rw [List.getElem?_eq_none (by rw [mapsV_len];exact h)] at hk;cases hk
  rw [mapsV_get mid ls.length 0 k hkl] at hk
  injection hk with hk
  subst hk
  have:=fam_mid (rid:=rid) (mid:=mid) (famI ls.length) (ls:=ls) (ms:=ms) (i:=0) (k:=k) (m:=ms[k]) (by omega) (by omega) (by simp [show k<ms.length by omega])
  show (look _ _).isSome=true
  rw [naH_low (by simp [mid];omega)]
  show (look (famG rid mid 0 ls ms) _).isSome=true
  rw [this];rfl
 ·rw [List.mem_replicate] at hv
  rw [hv.2];rfl
theorem na_same {p:Pg} {ls:List (List Str)} {ms:List MS} {R R' : Regs} {H:Heap} {r n:Nat} (hms:ms.length=ls.length) (hl:ls.length<100000) (h1:subR (renF []) R H (naH p (mapsV mid 0 ls.length++List.replicate r (.d .nilMap)) (famF ls ms)) R')
  (e2:look H 2=some (.var (sCs p))) (e3:look H 3=some (.var (mapsV mid 0 ls.length++List.replicate r (.d .nilMap)))) (e0:look H 0=some (.map none (thE p.decls))) (e1:look H 1=some (.map none (fnE p.funs)))
  (ho:Over (famF ls ms) H):Weak ⟨R,H,n,[],2⟩ ⟨R',naH p (mapsV mid 0 ls.length++List.replicate r (.d .nilMap)) (famF ls ms),1000000,[],2⟩:=by
 refine Weak.looks h1 ?_ (by omega) (fun id h _=>?_)
 ·intro id x hx
  rcases naH_inv hx with ⟨rfl,rfl⟩|⟨rfl,rfl⟩|⟨rfl,rfl⟩|⟨rfl,rfl⟩|hx
  ·exact ⟨e2,rfl,by omega⟩
  ·exact ⟨e3,na_closed hms rfl,by omega⟩
  ·exact ⟨e0,rfl,by omega⟩
  ·exact ⟨e1,rfl,by omega⟩
  ·obtain ⟨g1,g2,g3,_⟩:=famF_inv hx
   exact ⟨by rw [ho id g1 (by omega)];exact hx,g3 _,by omega⟩
 ·rcases (show id=0∨id=1 by omega) with rfl|rfl<;>rfl
end Uw.Tryz
