/- T5: Cq Cr Cs Ef Ct Cu Cv Cw Cx Cy (merged by merge2.py from the working texts). -/
import Derived.Test.YtoeaaemleaogbaaGreatDoorT4
set_option linter.unusedSimpArgs false
set_option linter.unnecessarySimpa false
set_option linter.unusedVariables false
set_option linter.unusedSectionVars false
namespace Uw.Tryz
open Go Uw
set_option maxRecDepth 20000 in
set_option maxHeartbeats 4000000 in
theorem lo_round2 (p:Pg) (hf:formedP p=true) (hp:Lim p) (k:Nat) (hk:k<p.nodes.length) (hpre:∀i,i<k→True) {QQ:MExit→St→Prop}:WT P0 (LoopQ (loS2 p) (ForI p.nodes.length fun _=>True) (forM p.nodes.length) k QQ) (exec loB2 (loS2 p k) Tree.done):=by
 have hnl:(p.nodes.map ndL).length=p.nodes.length:=by simp
 have hfl:nF p=p.funs.length:=by simp
 have hN:=hp.nodes
 have hF:=hp.funs
 have he:(p.nodes.map ndL)[(k:Int).toNat]? = some (ndL p.nodes[k]):=by simp [hk]
 have hown:=own_in hf _ k hk (Nat.le_refl _)
 have hoe:((ownersP p).map fun i=>[I i])[(k:Int).toNat]? = some [I ((ownersP p).getD k 0)]:=by
  have h2:k<(ownersP p).length:=by rw [ownersP_len];exact hk
  simp [List.getD,h2]
 have hol:((ownersP p).map fun i=>[I i]).length=p.nodes.length:=by rw [List.length_map,ownersP_len]
 have hsucc:=lsAt_succ p k hk
 have hlen:=lsAt_len p k
 have hth:=th_get p p.nodes[k].name
 generalize (ownersP p).getD k 0=o at *
 have hloc:∀x,localN p x=((decide (x.kind=9)||decide (x.kind=10)||decide (x.kind=11))&&!decide (x.name=[])&&(thingP p x.name).isNone):=fun x=>rfl
 rw [hloc] at hsucc
 generalize p.nodes[k]=x at *
 obtain ⟨xk,xn,xs,xt,xo⟩:=x
 have he:(p.nodes.map ndL)[(k:Int).toNat]? = some [I xk,I xn,.str xs,.str xt,intsD xo]:=he
 simp only at hsucc hth
 obtain ⟨ls,hls⟩:∃ls,lsAt p k=ls:=⟨_,rfl⟩
 rw [hls] at hsucc hlen
 have hS:loS2 p k=⟨(63,.d (I k))::(62,.d (I ((p.nodes.map ndL).length:Nat)))::(61,.d (nodesD p.nodes))::loR p,loH p (loRv ls 0) (loMv ls.length 0) (famF ls (ls.map seenE)),1000000,[],0⟩:=by rw [loS2,hls]
 have hS1:loS2 p (k+1)=⟨(63,.d (I ((k+1:Nat):Int)))::(62,.d (I ((p.nodes.map ndL).length:Nat)))::(61,.d (nodesD p.nodes))::loR p,loH p (loRv (lsAt p (k+1)) 0) (loMv (lsAt p (k+1)).length 0) (famF (lsAt p (k+1)) ((lsAt p (k+1)).map seenE)),1000000,[],0⟩:=rfl
 rw [hsucc] at hS1
 rw [hS]
 have hmg:(loMv ls.length 0)[o.toNat * 1]? = some (.hnd (mid o.toNat)):=by
  rw [Nat.mul_one,List.getElem?_append_left (by rw [mapsV_len];omega),mapsV_get mid ls.length 0 _ (by omega),Nat.zero_add]
 have hml:(loMv ls.length 0).length=nF p:=by rw [List.length_append,mapsV_len,List.length_replicate];omega
 have hrl:(loRv ls 0).length=nF p:=by rw [List.length_append,rowsV_len,List.length_replicate];omega
 -- what a round comes to where nothing is added
 have hskip:∀(R:Regs) (H:Heap) (nx:Nat),(localN p ⟨xk,xn,xs,xt,xo⟩=true→xs∈ls.getD o.toNat [])→look H 2=some (.var (loRv ls 0))→look H 3=some (.var (loMv ls.length 0))→look H 1=some (.map none (thE p.decls))→look H 0=some (pgV p)→Over (famF ls (ls.map seenE)) H→
   (∀rv mv fam,subR (renF []) R H (loH p rv mv fam) ((63,.d (I ((k+1:Nat):Int)))::(62,.d (I ((p.nodes.map ndL).length:Nat)))::(61,.d (nodesD p.nodes))::loR p))→Weak ⟨R,H,nx,[],0⟩ (loS2 p (k+1)):=by
  intro R H nx h0 e2 e3 e1 e0 ho hR
  have:(if ((decide (xk=9)||decide (xk=10)||decide (xk=11))&&!decide (xs=[])&&(thingP p xs).isNone)=true then addLocal ls o.toNat xs else ls)=ls:=by
   split
   ·rename_i h
    have:=h0 h
    rw [addLocal,if_pos this]
   ·rfl
  rw [hS1,this]
  exact lo_same (by simp) (by omega) (hR _ _ _) e2 e3 e1 e0 (fun id x h=>by have:=famF_inv h;rw [ho id this.1 (by omega)];exact h)
 clear hS hsucc hloc
 by_cases hkk:xk≠9∧xk≠10∧xk≠11
 ·obtain ⟨k9,k10,k11⟩:=hkk
  repeat (first|refine aw ?_|refine f1 ?_)
  refine WT_next k trivial (hskip _ _ _ (fun h=>by simp [localN,k9,k10,k11] at h) rfl rfl rfl rfl (by (repeat refine over_cons ?_ rfl);exact over_refl) (fun rv mv fam=>?_))
  repeat' first|exact trivial|refine ⟨⟨_,rfl,?_⟩,?_⟩|exact VW_int (by first|with_reducible rfl|omega)|exact Or.inl ⟨rfl,rfl⟩
 have hk3:xk=9∨xk=10∨xk=11:=by omega
 cases ht:thingP p xs with
 | some kd=>
  rw [ht] at hth
  have hth:mget (thE p.decls) (.s xs)=some (I kd):=hth
  by_cases hxs:xs=[]
  all_goals rcases hk3 with rfl|rfl|rfl
  all_goals (repeat (first|refine aw ?_|refine f1 ?_|refine m1 ?_))
  all_goals refine WT_next k trivial (hskip _ _ _ (fun h=>by simp [localN,ht] at h) rfl rfl rfl rfl (by (repeat refine over_cons ?_ rfl);exact over_refl) (fun rv mv fam=>?_))
  all_goals (repeat' first|exact trivial|refine ⟨⟨_,rfl,?_⟩,?_⟩|exact VW_int (by first|with_reducible rfl|omega)|exact Or.inl ⟨rfl,rfl⟩)
 | none=>
  rw [ht] at hth
  have hth:mget (thE p.decls) (.s xs)=none:=hth
  by_cases hxs:xs=[]
  ·rcases hk3 with rfl|rfl|rfl
   all_goals (repeat (first|refine aw ?_|refine f1 ?_|refine m1 ?_))
   all_goals refine WT_next k trivial (hskip _ _ _ (fun h=>by simp [localN,hxs] at h) rfl rfl rfl rfl (by (repeat refine over_cons ?_ rfl);exact over_refl) (fun rv mv fam=>?_))
   all_goals (repeat' first|exact trivial|refine ⟨⟨_,rfl,?_⟩,?_⟩|exact VW_int (by first|with_reducible rfl|omega)|exact Or.inl ⟨rfl,rfl⟩)
  obtain ⟨f,hfo⟩:∃f,o.toNat=f:=⟨_,rfl⟩
  have hfl3:f<ls.length:=by omega
  have hof:o=(f:Int):=by omega
  obtain ⟨l,hll⟩:∃l,ls[f]? = some l:=⟨ls[f],by simp [hfl3]⟩
  have hld:ls.getD o.toNat []=l:=by rw [hfo,List.getD,hll];rfl
  have hmsl:(ls.map seenE).length=ls.length:=by simp
  have hlk:∀H,Over (famF ls (ls.map seenE)) H→look H (mid o.toNat)=some (.map none (seenE l)):=fun H ho=>by
   rw [ho _ (by simp only [mid];omega) (by simp only [mid];omega),hfo]
   have:=fam_mid (famI ls.length) (ls:=ls) (ms:=ls.map seenE) (i:=0) (k:=f) (m:=seenE l) (by omega) hfl3 (by simp [hll])
   rwa [Nat.zero_add] at this
  by_cases hin:xs∈l
  ·have hsg:mget (seenE l) (.s xs)=some (.bool true):=by rw [seenE_get,if_pos hin]
   rcases hk3 with rfl|rfl|rfl
   all_goals (repeat (first|refine aw ?_|refine f1 ?_|refine m1 ?_))
   all_goals refine WT_blk _ (hlk _ (by (repeat refine over_cons ?_ rfl);exact over_refl)) ?_
   all_goals (repeat (first|refine aw ?_|refine f1 ?_|refine m1 ?_))
   all_goals refine WT_next k trivial (hskip _ _ _ (fun h=>by rw [hld];exact hin) rfl rfl rfl rfl (by (repeat refine over_cons ?_ rfl);exact over_refl) (fun rv mv fam=>?_))
   all_goals (repeat' first|exact trivial|refine ⟨⟨_,rfl,?_⟩,?_⟩|exact VW_int (by first|with_reducible rfl|omega)|exact Or.inl ⟨rfl,rfl⟩)
  have hsg:mget (seenE l) (.s xs)=none:=by rw [seenE_get,if_neg hin]
  -- what is added
  obtain ⟨ms,hms⟩:∃ms,ms=(ls.map seenE).set f (mset (seenE l) (.s xs) (.bool true)):=⟨_,rfl⟩
  have hms2:ms.length=ls.length:=by rw [hms];simp
  have hms3:ms=(ls.set f (l++[xs])).map seenE:=by rw [hms,List.map_set,seenE_snoc]
  have hheq1:∀b b0,∀id,look ((1000000,b)::(1000000,b0)::loH p (loRv ls 0) (loMv ls.length 0) (famF ls ms)) id=look ((mid o.toNat,.map none (mset (seenE l) (.s xs) (.bool true)))::(1000000,b)::(1000000,b0)::loH p (loRv ls 0) (loMv ls.length 0) (famF ls (ls.map seenE))) id:=fun b b0 id=>by
   refine heq_fam (c:=[(1000000,b),(1000000,b0),(2,.var (loRv ls 0)),(3,.var (loMv ls.length 0)),(1,.map none (thE p.decls)),(0,pgV p)]) ?_ ?_ id
   ·intro q hq
    simp only [List.mem_cons,List.not_mem_nil,or_false] at hq
    rcases hq with rfl|rfl|rfl|rfl|rfl|rfl<;>simp only [mid]<;>omega
   ·intro id
    have:=fam_setM (famI ls.length) (mset (seenE l) (.s xs) (.bool true)) id ls (ls.map seenE) 0 f (by omega) hfl3 (by omega)
    rw [Nat.zero_add] at this
    rw [hms,hfo];exact this
  have hlen2:(ls.set f (l++[xs])).length=ls.length:=by simp
  have hS2:loS2 p (k+1)=⟨(63,.d (I ((k+1:Nat):Int)))::(62,.d (I ((p.nodes.map ndL).length:Nat)))::(61,.d (nodesD p.nodes))::loR p,loH p (loRv (ls.set f (l++[xs])) 0) (loMv ls.length 0) (famF (ls.set f (l++[xs])) ms),1000000,[],0⟩:=by
   have:(if ((decide (xk=9)||decide (xk=10)||decide (xk=11))&&!decide (xs=[])&&(thingP p xs).isNone)=true then addLocal ls o.toNat xs else ls)=ls.set f (l++[xs]):=by
    rw [if_pos (by rcases hk3 with rfl|rfl|rfl<;>simp [hxs,ht]),addLocal,hld,if_neg hin,hfo]
   rw [hS1,this,hlen2,← hms3]
  have hrg:(loRv ls 0)[o.toNat * 1]? = some (if l=[] then V.d (.slice 1 [] true) else .ref (rid f) 0 0 l.length):=by
   rw [Nat.mul_one,hfo,List.getElem?_append_left (by rw [rowsV_len];exact hfl3),rowsV_get rid ls 0 f l hll,Nat.zero_add]
  have hllen:l.length<300000:=by
   have:=lsAt_bound p hp k f l (by rw [hls];exact hll)
   omega
  have hcap:(decide (l.length=(rowT l).length)&&decide ((l.length+((List.replicate 1 [Dat.str []]).set 0 [Dat.str xs]).length) * 16≤70368744177664))=true:=by simp;omega
  have hrk:∀H,Over (famF ls ms) H→l≠[]→look H (rid f)=some (.arr 1 (rowT l)):=fun H ho hne=>by
   rw [ho _ (by simp only [rid];omega) (by simp only [rid];omega)]
   have:=fam_rid (famI ls.length) (ls:=ls) (ms:=ms) (i:=0) (k:=f) (l:=l) (by omega) (by omega) hll hne
   rwa [Nat.zero_add] at this
  have hheq2:∀b b0,∀id,look ((1000000,b)::(1000000,b0)::loH p (loRv ls 0) (loMv ls.length 0) (famF (ls.set f (l++[xs])) ms)) id=look ((rid f,.arr 1 (rowT l++(List.replicate 1 [Dat.str []]).set 0 [Dat.str xs]))::(1000000,b)::(1000000,b0)::loH p (loRv ls 0) (loMv ls.length 0) (famF ls ms)) id:=fun b b0 id=>by
   refine heq_fam (c:=[(1000000,b),(1000000,b0),(2,.var (loRv ls 0)),(3,.var (loMv ls.length 0)),(1,.map none (thE p.decls)),(0,pgV p)]) ?_ ?_ id
   ·intro q hq
    simp only [List.mem_cons,List.not_mem_nil,or_false] at hq
    rcases hq with rfl|rfl|rfl|rfl|rfl|rfl<;>simp only [rid]<;>omega
   ·intro id
    have:=fam_setR (famI ls.length) (l':=l++[xs]) (by simp) id ls ms 0 f (by omega) hfl3 (by omega)
    rw [Nat.zero_add] at this
    rw [this]
    have e:rowT (l++[xs])=rowT l++(List.replicate 1 [Dat.str []]).set 0 [Dat.str xs]:=by simp
    rw [e]
  have hset:(loRv ls 0).set (o.toNat * 1) (.ref (rid f) 0 0 (l.length+((List.replicate 1 [Dat.str []]).set 0 [Dat.str xs]).length))=rowsV rid 0 (ls.set f (l++[xs]))++List.replicate 0 (.d .nil):=by
   have:=rowsV_set rid ls 0 f (l++[xs]) hfl3
   rw [if_neg (by simp),Nat.zero_add] at this
   rw [← this,Nat.mul_one,hfo,List.set_append_left _ _ (by rw [rowsV_len];exact hfl3)]
   simp
  have hset0:(loRv ls 0).set (o.toNat * 1) (.ref 1000001 0 0 ((List.replicate 1 [Dat.str []]).set 0 [Dat.str xs]).length)=(loRv ls 0).set f (.ref 1000001 0 0 ([]++[xs]).length):=by rw [Nat.mul_one,hfo];rfl
  have hS3:loS2 p (k+1)=⟨(63,.d (I ((k+1:Nat):Int)))::(62,.d (I ((p.nodes.map ndL).length:Nat)))::(61,.d (nodesD p.nodes))::loR p,loH p (loRv (ls.set f (l++[xs])) 0) (loMv (ls.set f (l++[xs])).length 0) (famF (ls.set f (l++[xs])) ms),1000000,[],0⟩:=by rw [hS2,hlen2]
  have hms4:ms.length=(ls.set f (l++[xs])).length:=by rw [hms2,hlen2]
  have hlen3:(ls.set f (l++[xs])).length<100000:=by rw [hlen2];omega
  have hlen4:ls.length<100000:=by omega
  have hmvS:some (Blk.var (loMv ls.length 0))=some (Blk.var (loMv (ls.set f (l++[xs])).length 0)):=by rw [hlen2]
  by_cases hl0:l=[]
  ·subst hl0
   have hrg:(loRv ls 0)[o.toNat * 1]? = some (V.d (.slice 1 [] true)):=hrg
   rcases hk3 with rfl|rfl|rfl
   all_goals (repeat (first|refine aw ?_|refine f1 ?_|refine m1 ?_))
   all_goals refine WT_blk _ (hlk _ (by (repeat refine over_cons ?_ rfl);exact over_refl)) ?_
   all_goals (repeat (first|refine aw ?_|refine f1 ?_|refine m1 ?_))
   all_goals refine WT_blk _ (hlk _ (by (repeat refine over_cons ?_ rfl);exact over_refl)) ?_
   all_goals refine WT_heq _ (hheq1 _ _) ?_
   all_goals (repeat (first|refine aw ?_|refine f1 ?_|refine m1 ?_))
   all_goals refine WT_draw ⟨(63,.d (I k))::(62,.d (I ((p.nodes.map ndL).length:Nat)))::(61,.d (nodesD p.nodes))::loR p,loH p (loRv (ls.set f ([]++[xs])) 0) (loMv (ls.set f ([]++[xs])).length 0) (famF (ls.set f ([]++[xs])) ms),1000000,[],0⟩ ?_ (by
    refine aw ?_
    refine WT_next k trivial (wk_eq hS3 ?_)
    refine lo_same2 (ls:=ls.set f ([]++[xs])) (ms:=ms) (r:=0) (r':=0) hms4 hlen3 ?_ rfl rfl rfl rfl rfl (by (repeat refine over_cons ?_ rfl);exact over_refl)
    repeat' first|exact trivial|refine ⟨⟨_,rfl,?_⟩,?_⟩|exact VW_int (by first|with_reducible rfl|omega)|exact Or.inl ⟨rfl,rfl⟩)
   all_goals (repeat (first|refine aw ?_|refine f1 ?_|refine m1 ?_))
   all_goals refine WT_done (.inl ⟨rfl,?_⟩)
   all_goals refine lo_new (p:=p) (ls:=ls) (ms:=ms) (k:=f) (l:=[]++[xs]) hms2 hlen4 hfl3 (by simp) ⟨⟨_,rfl,VW_int rfl⟩,⟨_,rfl,.inl ⟨rfl,rfl⟩⟩,⟨_,rfl,.inl ⟨rfl,rfl⟩⟩,lo_regsR rfl rfl rfl rfl rfl⟩ ?_ hset0 ?_ ?_ ?_ ?_ ?_
   all_goals first|exact rfl|((repeat refine over_cons ?_ rfl);exact over_refl)
  have hrg2:(loRv ls 0)[o.toNat * 1]? = some (.ref (rid f) 0 0 l.length):=by rw [hrg,if_neg hl0]
  clear hrg
  rcases hk3 with rfl|rfl|rfl
  all_goals (repeat (first|refine aw ?_|refine f1 ?_|refine m1 ?_))
  all_goals refine WT_blk _ (hlk _ (by (repeat refine over_cons ?_ rfl);exact over_refl)) ?_
  all_goals (repeat (first|refine aw ?_|refine f1 ?_|refine m1 ?_))
  all_goals refine WT_blk _ (hlk _ (by (repeat refine over_cons ?_ rfl);exact over_refl)) ?_
  all_goals refine WT_heq _ (hheq1 _ _) ?_
  all_goals (repeat (first|refine aw ?_|refine f1 ?_|refine m1 ?_))
  all_goals refine WT_draw ⟨(63,.d (I k))::(62,.d (I ((p.nodes.map ndL).length:Nat)))::(61,.d (nodesD p.nodes))::loR p,loH p (loRv (ls.set f (l++[xs])) 0) (loMv (ls.set f (l++[xs])).length 0) (famF (ls.set f (l++[xs])) ms),1000000,[],0⟩ ?_ (by
   refine aw ?_
   refine WT_next k trivial (wk_eq hS3 ?_)
   refine lo_same2 (ls:=ls.set f (l++[xs])) (ms:=ms) (r:=0) (r':=0) hms4 hlen3 ?_ rfl rfl rfl rfl rfl (by (repeat refine over_cons ?_ rfl);exact over_refl)
   repeat' first|exact trivial|refine ⟨⟨_,rfl,?_⟩,?_⟩|exact VW_int (by first|with_reducible rfl|omega)|exact Or.inl ⟨rfl,rfl⟩)
  all_goals (repeat (first|refine aw ?_|refine f1 ?_|refine m1 ?_))
  all_goals refine WT_blk _ (hrk _ (by (repeat refine over_cons ?_ rfl);exact over_refl) hl0) ?_
  all_goals (repeat (first|refine aw ?_|refine f1 ?_|refine m1 ?_))
  all_goals refine WT_heq _ (hheq2 _ _) ?_
  all_goals (repeat (first|refine aw ?_|refine f1 ?_|refine m1 ?_))
  all_goals refine WT_done (.inl ⟨rfl,?_⟩)
  all_goals refine lo_same2 (p:=p) (ls:=ls.set f (l++[xs])) (ms:=ms) (r:=0) (r':=0) hms4 hlen3 ⟨⟨_,rfl,VW_int rfl⟩,⟨_,rfl,.inl ⟨rfl,rfl⟩⟩,⟨_,rfl,.inl ⟨rfl,rfl⟩⟩,⟨_,rfl,.inl ⟨rfl,rfl⟩⟩,⟨_,rfl,.inl ⟨rfl,rfl⟩⟩,⟨_,rfl,.inl ⟨rfl,rfl⟩⟩,⟨_,rfl,.inl ⟨rfl,rfl⟩⟩,⟨_,rfl,.inl ⟨rfl,rfl⟩⟩,trivial⟩ ?_ hset ?_ ?_ ?_ ?_
  all_goals first|exact rfl|exact hmvS|((repeat refine over_cons ?_ rfl);exact over_refl)|skip
end Uw.Tryz
namespace Uw.Tryz
open Go Uw
theorem datCells_rows {H:Heap}:∀(ls:List (List Str)) (i:Nat),(∀j l,ls[j]? = some l→l≠[]→look H (rid (i+j))=some (.arr 1 (rowT l)))→datCells H (rowsV rid i ls)=some (ls.map fun l=>if l=[] then .slice 1 [] true else .slice 1 (rowT l) false)
 | [],i,h=>rfl
 | l::ls,i,h=>by
  have ih:=datCells_rows ls (i+1) (fun j l' hj hne=>by
   have:=h (j+1) l' (by simpa using hj) hne
   rwa [show i+(j+1)=i+1+j by omega] at this)
  rw [rowsV,datCells,ih]
  by_cases hl:l=[]
  ·subst hl;rfl
  ·have:=h 0 l rfl hl
   rw [if_neg hl,List.map_cons,if_neg hl,V.dat,show rid i=rid (i+0) from rfl,this]
   have e:(List.drop 0 (rowT l)).take l.length=rowT l:=by rw [List.drop_zero,List.take_of_length_le (by simp)]
   simp only [e]
   rfl
theorem dat_rows {H:Heap} {p:Pg} {ls:List (List Str)} {ms:List MS} {mv:List V} (hms:ms.length=ls.length) (hl:ls.length<100000) (hH:H=loH p (loRv ls 0) mv (famF ls ms)):datListF H [.row 2 ls.length]=some [.slice 1 (ls.map rowQ) false]:=by
 have h1:datCells H (loRv ls 0)=some (ls.map fun l=>if l=[] then .slice 1 [] true else .slice 1 (rowT l) false):=by
  show datCells H (rowsV rid 0 ls++[])=_
  rw [List.append_nil]
  refine datCells_rows ls 0 fun j l hj hne=>?_
  have hjl:j<ls.length:=by
   rcases Nat.lt_or_ge j ls.length with h|h
   ·exact h
   ·rw [List.getElem?_eq_none h] at hj;cases hj
  have hov:Over (famF ls ms) H:=by rw [hH];(repeat refine over_cons ?_ rfl);exact over_refl
  rw [hov _ (by simp only [rid];omega) (by simp only [rid];omega)]
  have:=fam_rid (famI ls.length) (ls:=ls) (ms:=ms) (i:=0) (k:=j) (l:=l) (by omega) (by omega) hj hne
  rwa [Nat.zero_add] at this ⊢
 have h2:look H 2=some (.var (loRv ls 0)):=by rw [hH];rfl
 have h3:Nat.beq (loRv ls 0).length ls.length=true:=by
  rw [List.length_append,rowsV_len,List.length_replicate];exact Nat.beq_refl _
 simp only [datListF,V.datF,h2,h1,h3,List.map_map]
 rfl
set_option maxRecDepth 20000 in
set_option maxHeartbeats 4000000 in
theorem lo_pos (p:Pg) (hf:formedP p=true) (hp:Lim p) (hn0:p.funs≠[]):Ret P0 n_check_locals [pgD p] (.slice 1 ((localsP p).map rowQ) false):=by
 have hth:=s_check_things p hp.decls
 have how:=s_check_owners p hf hp
 have hfl:nF p=p.funs.length:=by simp
 have hfl2:(p.funs.map fuL).length=p.funs.length:=by simp
 have hF:=hp.funs
 have hN:=hp.nodes
 have hnl:(p.nodes.map ndL).length=p.nodes.length:=by simp
 have hmk1:(decide (((p.funs.map fuL).length:Int)=((p.funs.map fuL).length:Nat))&&decide ((0:Int)≤((p.funs.map fuL).length:Nat))&&decide ((((p.funs.map fuL).length:Nat):Int) * ((24:Nat):Int)≤70368744177664))=true:=by simp at hfl ⊢;omega
 have hmk2:(decide (((p.funs.map fuL).length:Int)=((p.funs.map fuL).length:Nat))&&decide ((0:Int)≤((p.funs.map fuL).length:Nat))&&decide ((((p.funs.map fuL).length:Nat):Int) * ((8:Nat):Int)≤70368744177664))=true:=by simp;omega
 have hpos:0<(p.funs.map fuL).length:=by show 0<nF p;rw [hfl];exact List.length_pos_iff.2 hn0
 have hpi:(0:Int)<((p.funs.map fuL).length:Nat):=by omega
 have hal:(argsL p).length=p.funs.length:=by simp
 have hAl:(argsL p).length<100000:=by rw [hal];exact hF
 have hS0:loS2 p 0=⟨(63,.d (I ((0:Nat):Int)))::(62,.d (I ((p.nodes.map ndL).length:Nat)))::(61,.d (nodesD p.nodes))::loR p,loH p (rowsV rid 0 (argsL p)++List.replicate 0 (.d .nil)) (mapsV mid 0 (argsL p).length++List.replicate 0 (.d .nilMap)) (famF (argsL p) ((argsL p).map seenE)),1000000,[],0⟩:=rfl
 have hSn:loS1 p (nF p)=⟨(31,.d (I (nF p:Nat)))::(30,.d (I ((p.funs.map fuL).length:Nat)))::(29,.d (.slice 3 (p.funs.map fuL) false))::loR p,loH p (rowsV rid 0 (argsL p)++List.replicate 0 (.d .nil)) (mapsV mid 0 (argsL p).length++List.replicate 0 (.d .nilMap)) (famF (argsL p) ((argsL p).map seenE)),1000000,[],0⟩:=by
  have e:(argsL p).take (nF p)=argsL p:=List.take_of_length_le (by rw [hal,hfl];omega)
  rw [loS1,e,Nat.sub_self,show nF p=(argsL p).length by rw [hal,hfl]]
 have hSe:loS2 p p.nodes.length=⟨(63,.d (I (p.nodes.length:Nat)))::(62,.d (I ((p.nodes.map ndL).length:Nat)))::(61,.d (nodesD p.nodes))::loR p,loH p (loRv (localsP p) 0) (loMv (localsP p).length 0) (famF (localsP p) ((localsP p).map seenE)),1000000,[],0⟩:=by
  rw [loS2,lsAt_all]
 have hll:(localsP p).length=nF p:=by rw [← lsAt_all,lsAt_len,hfl]
 have hdat:∀H,H=loH p (loRv (localsP p) 0) (loMv (localsP p).length 0) (famF (localsP p) ((localsP p).map seenE))→datListF H [.row 2 (nF p)]=some [.slice 1 ((localsP p).map rowQ) false]:=fun H h=>by
  have:=dat_rows (by simp) (by rw [hll,hfl];exact hF) h
  rwa [hll] at this
 have hms:((argsL p).map seenE).length=(argsL p).length:=by simp
 refine Ret_by is_check_locals rfl ?_
 repeat refine aw ?_
 refine WT_frE 1 [] hth ?_
 repeat (first|refine aw ?_|refine f1 ?_)
 refine WT_for (nF p) (loS1 p) (fun _=>True) ?_ (fun _=>?_) (fun j hj hpre=>?_)
 ·refine lo_same (ls:=[]) (ms:=[]) (r:=nF p - 0) (r':=nF p - 0) rfl (by simp) ?_ ?_ ?_ rfl rfl (fun id x h=>by simp [famG,look] at h)
  ·repeat' first|exact trivial|refine ⟨⟨_,rfl,?_⟩,?_⟩|exact VW_int (by first|with_reducible rfl|omega)|exact Or.inl ⟨rfl,rfl⟩
  ·rfl
  ·rfl
 ·rw [hSn]
  repeat (first|refine aw ?_|refine f1 ?_)
  refine WT_break ?_
  repeat (first|refine aw ?_|refine f1 ?_)
  refine WT_for p.nodes.length (loS2 p) (fun _=>True) (wk_eq hS0 ?_) (fun _=>?_) (fun k hk hpre=>?_)
  ·refine lo_same2 (ls:=argsL p) (ms:=(argsL p).map seenE) (r:=0) (r':=0) hms hAl ?_ rfl rfl rfl rfl rfl (by (repeat refine over_cons ?_ rfl);exact over_refl)
   repeat' first|exact trivial|refine ⟨⟨_,rfl,?_⟩,?_⟩|exact VW_int (by first|with_reducible rfl|omega)|exact Or.inl ⟨rfl,rfl⟩
  ·rw [hSe]
   repeat (first|refine aw ?_|refine f1 ?_)
   refine WT_break ?_
   repeat (first|refine aw ?_|refine f1 ?_)
   exact WT_ret rfl rfl (hdat _ rfl) rfl rfl
  ·exact lo_round2 p hf hp k hk hpre
 ·exact lo_round1 p hp j (by omega) hpre
theorem rowQ_le (l:List Str):DLeL (rowQ l) [strsC l]:=by
 refine .cons ?_ (.refl _)
 split
 ·rename_i h;subst h;exact .slice (.refl _)
 ·exact .refl _
abbrev strssD (ls:List (List Str)):Dat:=.slice 1 (ls.map fun l=>[strsC l]) false
theorem s_check_locals (p:Pg) (hf:formedP p=true) (hp:Lim p):Ret P0 n_check_locals [pgD p] (strssD (localsP p)):=by
 by_cases hn0:p.funs=[]
 ·obtain ⟨h1,h2⟩:=lo_nil p hf hp hn0
  rw [h1];exact h2.res (.slice (.refl _))
 ·refine (lo_pos p hf hp hn0).res (.slice ?_)
  generalize localsP p=ls
  induction ls with
  | nil=>exact .refl _
  | cons l ls ih=>exact .cons (rowQ_le l) ih
end Uw.Tryz
namespace Uw.Tryz
open Go Uw
theorem localsP_len (p:Pg):(localsP p).length=p.funs.length:=by rw [← lsAt_all,lsAt_len]
set_option maxHeartbeats 1000000 in
theorem s_check_Locals (p:Pg) (hp:Lim p) (f:Int):Ret P0 n_check_Locals [pgD p,I f] (strsC (localsOf p f)):=by
 have hfm:=s_check_Formed p hp
 have hlo:=fun h=>s_check_locals p h hp
 have hfl:(p.funs.map fuL).length=p.funs.length:=by simp
 have hll:=localsP_len p
 by_cases hbad:f<0∨(p.funs.length:Int)≤f∨formedP p=false
 ·have hr:localsOf p f=[]:=by rw [localsOf,if_pos hbad]
  rw [hr]
  refine Ret.res (r:=.nil) ?_ (.nil 1)
  refine Ret_by is_check_Locals rfl ?_
  by_cases h1:f<0
  ·repeat refine aw ?_
   exact WT_ret rfl rfl rfl rfl rfl
  by_cases h2:(p.funs.length:Int)≤f
  ·repeat refine aw ?_
   exact WT_ret rfl rfl rfl rfl rfl
  ·have h3:formedP p=false:=by rcases hbad with h|h|h;exact absurd h h1;exact absurd h h2;exact h
   rw [h3] at hfm
   repeat refine aw ?_
   exact WT_ret rfl rfl rfl rfl rfl
 ·have h1:¬f<0:=fun h=>hbad (.inl h)
  have h2:f<(p.funs.length:Int):=by omega
  have h3:formedP p=true:=by
   cases h:formedP p with
   | true=>rfl
   | false=>exact absurd (.inr (.inr h)) hbad
  rw [h3] at hfm
  have hlo:=hlo h3
  have hr:localsOf p f=(localsP p).getD f.toNat []:=by rw [localsOf,if_neg hbad]
  obtain ⟨l,hl⟩:∃l,(localsP p)[f.toNat]? = some l:=⟨(localsP p)[f.toNat]'(by omega),by simp⟩
  have hel:((localsP p).map fun l=>[strsC l])[f.toNat]? = some [strsC l]:=by simp [hl]
  have hml:((localsP p).map fun l=>[strsC l]).length=p.funs.length:=by simp [hll]
  rw [hr,List.getD,hl]
  refine Ret_by is_check_Locals rfl ?_
  repeat refine aw ?_
  exact WT_ret rfl rfl rfl rfl rfl
def needsD (k:Int) (s:Str):Dat:=.tuple [I ((needsP k s).getD 0),.bool (needsP k s).isSome]
theorem s_check_needs (k:Int) (s:Str):Ret P0 n_check_needs [I k,.str s] (needsD k s):=by
 by_cases k1:k=1
 ·subst k1
  by_cases a1:s=sGet
  ·subst a1;refine Ret_by is_check_needs rfl ?_;repeat refine aw ?_
   exact WT_ret rfl rfl rfl rfl rfl
  by_cases a2:s=sDel
  ·subst a2;refine Ret_by is_check_needs rfl ?_;repeat refine aw ?_
   exact WT_ret rfl rfl rfl rfl rfl
  by_cases a3:s=sPut
  ·subst a3;refine Ret_by is_check_needs rfl ?_;repeat refine aw ?_
   exact WT_ret rfl rfl rfl rfl rfl
  have e:needsD 1 s = .tuple [I 0,.bool false]:=by simp [needsD,needsP,a1,a2,a3]
  rw [e]
  have b1:¬s=[103,101,116]:=a1
  have b2:¬s=[100,101,108]:=a2
  have b3:¬s=[112,117,116]:=a3
  refine Ret_by is_check_needs rfl ?_;repeat refine aw ?_
  exact WT_ret rfl rfl rfl rfl rfl
 by_cases k2:k=2
 ·subst k2
  by_cases a1:s=sPush
  ·subst a1;refine Ret_by is_check_needs rfl ?_;repeat refine aw ?_
   exact WT_ret rfl rfl rfl rfl rfl
  by_cases a2:s=sPop
  ·subst a2;refine Ret_by is_check_needs rfl ?_;repeat refine aw ?_
   exact WT_ret rfl rfl rfl rfl rfl
  have e:needsD 2 s = .tuple [I 0,.bool false]:=by simp [needsD,needsP,a1,a2]
  rw [e]
  have b1:¬s=[112,117,115,104]:=a1
  have b2:¬s=[112,111,112]:=a2
  refine Ret_by is_check_needs rfl ?_;repeat refine aw ?_
  exact WT_ret rfl rfl rfl rfl rfl
 by_cases k3:k=3
 ·subst k3
  by_cases a1:s=sSend
  ·subst a1;refine Ret_by is_check_needs rfl ?_;repeat refine aw ?_
   exact WT_ret rfl rfl rfl rfl rfl
  by_cases a2:s=sRecv
  ·subst a2;refine Ret_by is_check_needs rfl ?_;repeat refine aw ?_
   exact WT_ret rfl rfl rfl rfl rfl
  have e:needsD 3 s = .tuple [I 0,.bool false]:=by simp [needsD,needsP,a1,a2]
  rw [e]
  have b1:¬s=[115,101,110,100]:=a1
  have b2:¬s=[114,101,99,118]:=a2
  refine Ret_by is_check_needs rfl ?_;repeat refine aw ?_
  exact WT_ret rfl rfl rfl rfl rfl
 have e:needsD k s = .tuple [I 0,.bool false]:=by simp [needsD,needsP,k1,k2,k3]
 rw [e]
 refine Ret_by is_check_needs rfl ?_;repeat refine aw ?_
 exact WT_ret rfl rfl rfl rfl rfl
end Uw.Tryz
namespace Uw.Tryz
open Go Uw
theorem bound_cases (p:Pg):∃B:Bool,
  ((∀(j:Nat) (h:j<p.nodes.length),¬(p.nodes[j].kind=10∧16<p.nodes[j].of.length))→(∀(j:Nat) (h:j<p.funs.length),¬16<((localsP p).getD j []).length)→(!boundP p)=B)∧
  ((¬p.funs.length≤16∧B=false)∨(p.funs.length≤16∧¬kindN p.decls 0≤16∧B=false)∨(p.funs.length≤16∧kindN p.decls 0≤16∧¬kindN p.decls 1≤8∧B=false)∨(p.funs.length≤16∧kindN p.decls 0≤16∧kindN p.decls 1≤8∧¬kindN p.decls 2≤8∧B=false)∨(p.funs.length≤16∧kindN p.decls 0≤16∧kindN p.decls 1≤8∧kindN p.decls 2≤8∧¬kindN p.decls 3≤8∧B=false)∨(p.funs.length≤16∧kindN p.decls 0≤16∧kindN p.decls 1≤8∧kindN p.decls 2≤8∧kindN p.decls 3≤8∧B=true)):=by
 refine ⟨decide (p.funs.length≤16)&&decide (kindN p.decls 0≤16)&&decide (kindN p.decls 1≤8)&&decide (kindN p.decls 2≤8)&&decide (kindN p.decls 3≤8),fun h1 h2=>?_,?_⟩
 ·have e1:((localsP p).any fun l=>decide (16<l.length))=false:=List.any_eq_false.2 fun l hl=>by
   obtain ⟨j,hj,rfl⟩:=List.mem_iff_getElem.1 hl
   have:=h2 j (by rw [← localsP_len p];exact hj)
   rw [List.getD,List.getElem?_eq_getElem hj] at this
   simpa using this
  have e2:(p.nodes.any fun x=>decide (x.kind=10)&&decide (16<x.of.length))=false:=List.any_eq_false.2 fun x hx=>by
   obtain ⟨j,hj,rfl⟩:=List.mem_iff_getElem.1 hx
   have:=h1 j hj
   simpa using this
  rw [boundP,e1,e2]
  show (!(decide (16<p.funs.length)||decide (16<kindN p.decls 0)||decide (8<kindN p.decls 1)||decide (8<kindN p.decls 2)||decide (8<kindN p.decls 3)||false||false))=_
  rw [Bool.eq_iff_iff]
  simp only [Bool.or_false,Bool.not_eq_true',Bool.or_eq_false_iff,decide_eq_false_iff_not,Bool.and_eq_true,decide_eq_true_eq]
  omega
 ·by_cases c0:p.funs.length≤16
  ·by_cases c1:kindN p.decls 0≤16
   ·by_cases c2:kindN p.decls 1≤8
    ·by_cases c3:kindN p.decls 2≤8
     ·by_cases c4:kindN p.decls 3≤8
      ·exact .inr (.inr (.inr (.inr (.inr ⟨c0,c1,c2,c3,c4,by simp [c0,c1,c2,c3,c4]⟩))))
      ·exact .inr (.inr (.inr (.inr (.inl ⟨c0,c1,c2,c3,c4,by simp [c4]⟩))))
     ·exact .inr (.inr (.inr (.inl ⟨c0,c1,c2,c3,by simp [c3]⟩)))
    ·exact .inr (.inr (.inl ⟨c0,c1,c2,by simp [c2]⟩))
   ·exact .inr (.inl ⟨c0,c1,by simp [c1]⟩)
  ·exact .inl ⟨c0,by simp [c0]⟩
set_option maxRecDepth 4000 in
set_option maxHeartbeats 8000000 in
theorem s_ref06_bounds (p:Pg) (hf:formedP p=true) (hp:Lim p):Ret P0 n_ref06_bounds [pgD p] (.bool (!boundP p)):=by
 have hN:=hp.nodes
 have hF:=hp.funs
 have hnl:(p.nodes.map ndL).length=p.nodes.length:=by simp
 have hfl:(p.funs.map fuL).length=p.funs.length:=by simp
 have hd0:=s_ref06_decls p 0 (by have:=hp.decls;omega)
 have hd1:=s_ref06_decls p 1 (by have:=hp.decls;omega)
 have hd2:=s_ref06_decls p 2 (by have:=hp.decls;omega)
 have hd3:=s_ref06_decls p 3 (by have:=hp.decls;omega)
 obtain ⟨B,hB,hcs⟩:=bound_cases p
 have hone1:∀(j:Nat) (h:j<p.nodes.length),p.nodes[j].kind=10∧16<p.nodes[j].of.length→(!boundP p)=false:=fun j h e=>by
  have:(p.nodes.any fun x=>decide (x.kind=10)&&decide (16<x.of.length))=true:=List.any_eq_true.2 ⟨_,List.getElem_mem h,by simpa using e⟩
  simp [boundP,this]
 have hone2:∀(j:Nat) (h:j<p.funs.length),16<((localsP p).getD j []).length→(!boundP p)=false:=fun j h e=>by
  have hjl:j<(localsP p).length:=by rw [localsP_len];exact h
  rw [List.getD,List.getElem?_eq_getElem hjl] at e
  have:((localsP p).any fun l=>decide (16<l.length))=true:=List.any_eq_true.2 ⟨_,List.getElem_mem hjl,by simpa using e⟩
  simp [boundP,this]
 have hel1:∀(j:Nat) (h:j<p.nodes.length),(p.nodes.map ndL)[(j:Int).toNat]? = some (ndL p.nodes[j]):=fun j h=>by simp [h]
 have hlo:=fun (j:Nat) (h:j<p.funs.length)=>s_ref06_Locals p hf hp j h
 generalize (!boundP p)=R at *
 generalize kindN p.decls 0=k0 at *
 generalize kindN p.decls 1=k1 at *
 generalize kindN p.decls 2=k2 at *
 generalize kindN p.decls 3=k3 at *
 rcases hcs with ⟨c0,rfl⟩|⟨c0,c1,rfl⟩|⟨c0,c1,c2,rfl⟩|⟨c0,c1,c2,c3,rfl⟩|⟨c0,c1,c2,c3,c4,rfl⟩|⟨c0,c1,c2,c3,c4,rfl⟩
 all_goals refine Ret_by is_ref06_bounds rfl ?_
 all_goals repeat refine aw ?_
 all_goals refine WT_for p.nodes.length (fun j:Nat=>⟨[(3,.d (I j)),(1,.ptr 0 0)],[(0,pgV p)],1,[],0⟩) (fun j=>∀h:j<p.nodes.length,¬(p.nodes[j].kind=10∧16<p.nodes[j].of.length)) (by exact Uw.wM) (fun g1=>?_) (fun j hj _=>?_)
 all_goals first
  | (have hB:=hB fun j h=>g1 j h h
     refine aw ?_
     refine WT_break ?_
     repeat refine aw ?_
     refine WT_for p.funs.length (fun j:Nat=>⟨[(5,.d (I j)),(1,.ptr 0 0)],[(0,pgV p)],1,[],0⟩) (fun j=>∀h:j<p.funs.length,¬16<((localsP p).getD j []).length) (by exact Uw.wM) (fun g2=>?_) (fun j hj _=>?_)
     ·rw [hB fun j h=>g2 j h h]
      refine aw ?_
      refine WT_break ?_
      repeat refine aw ?_
      first
       | exact WT_ret rfl rfl rfl rfl rfl
       | exact WT_ret rfl rfl rfl rfl (congrArg Dat.bool (decide_eq_true (by omega)))
       | exact WT_ret rfl rfl rfl rfl (congrArg Dat.bool (decide_eq_false (by omega)))
     have hlo:=hlo j hj
     have hone:=hone2 j hj
     have hG:¬16<((localsP p).getD j []).length→(fun j=>∀h:j<p.funs.length,¬16<((localsP p).getD j []).length) j:=fun h _=>h
     clear hone1 hone2 hel1 hB
     generalize (localsP p).getD j []=l at *
     have hll:(l.map fun s=>[Dat.str s]).length=l.length:=by simp
     by_cases q:16<l.length
     ·rw [hone q]
      repeat refine aw ?_
      exact WT_leave (WT_ret rfl rfl rfl rfl rfl)
     ·have hG1:=hG q
      repeat refine aw ?_
      exact WT_next j hG1 (by exact Uw.wM))
  | (have he:=hel1 j hj
     have hone:=hone1 j hj
     have hG:¬(p.nodes[j].kind=10∧16<p.nodes[j].of.length)→(fun j=>∀h:j<p.nodes.length,¬(p.nodes[j].kind=10∧16<p.nodes[j].of.length)) j:=fun h _=>h
     clear hone1 hone2 hel1 hB hlo
     generalize p.nodes[j]=x at *
     obtain ⟨xk,xn,xs,xt,xo⟩:=x
     have he:(p.nodes.map ndL)[(j:Int).toNat]? = some [I xk,I xn,.str xs,.str xt,.slice 1 (xo.map fun i=>[I i]) false]:=he
     have hol:(xo.map fun i=>[I i]).length=xo.length:=by simp
     simp only at hone hG
     by_cases k10:xk=10
     ·by_cases q:16<xo.length
      ·rw [hone ⟨k10,q⟩]
       repeat refine aw ?_
       exact WT_leave (WT_ret rfl rfl rfl rfl rfl)
      ·have hG1:=hG fun h=>q h.2
       repeat refine aw ?_
       exact WT_next j hG1 (by exact Uw.wM)
     ·have hG1:=hG fun h=>k10 h.1
      repeat refine aw ?_
      exact WT_next j hG1 (by exact Uw.wM))
theorem type_cases (p:Pg) (x:Nd):∃B:Bool,sortN p x=B∧
  (((x.kind=2∨x.kind=9)∧((thingP p x.name=none∧B=false)∨(thingP p x.name=some 0∧B=false)∨∃k,k≠0∧thingP p x.name=some k∧B=true))∨
    ((x.kind=10∨x.kind=11)∧((thingP p x.name=none∧B=false)∨∃k,thingP p x.name=some k∧B=true))∨
    (x.kind=8∧((∃c,needsP ((thingP p x.name).getD (-1)) x.name2=some c∧B=false)∨(needsP ((thingP p x.name).getD (-1)) x.name2=none∧B=true)))∨
    (x.kind≠2∧x.kind≠9∧x.kind≠10∧x.kind≠11∧x.kind≠8∧B=false)):=by
 refine ⟨sortN p x,rfl,?_⟩
 unfold sortN
 by_cases h1:x.kind=2∨x.kind=9
 ·rw [if_pos h1]
  refine .inl ⟨h1,?_⟩
  cases ht:thingP p x.name with
  | none=>exact .inl ⟨rfl,rfl⟩
  | some k=>
   by_cases hk:k=0
   ·subst hk;exact .inr (.inl ⟨rfl,rfl⟩)
   ·exact .inr (.inr ⟨k,hk,rfl,by simp [hk]⟩)
 rw [if_neg h1]
 by_cases h2:x.kind=10∨x.kind=11
 ·rw [if_pos h2]
  refine .inr (.inl ⟨h2,?_⟩)
  cases ht:thingP p x.name with
  | none=>exact .inl ⟨rfl,rfl⟩
  | some k=>exact .inr ⟨k,rfl,rfl⟩
 rw [if_neg h2]
 by_cases h3:x.kind=8
 ·rw [if_pos h3]
  refine .inr (.inr (.inl ⟨h3,?_⟩))
  have e:needsP ((thingP p x.name).getD 0) x.name2=needsP ((thingP p x.name).getD (-1)) x.name2:=by
   cases thingP p x.name with
   | none=>rfl
   | some k=>rfl
  rw [e]
  cases needsP ((thingP p x.name).getD (-1)) x.name2 with
  | none=>exact .inr ⟨rfl,rfl⟩
  | some c=>exact .inl ⟨c,rfl,rfl⟩
 rw [if_neg h3]
 exact .inr (.inr (.inr ⟨by omega,by omega,by omega,by omega,h3,rfl⟩))
theorem needsP_pos {k:Int} {s:Str} {c:Int} (h:needsP k s=some c):0≤c∧c≤2:=by
 unfold needsP at h
 repeat' split at h
 all_goals first
  | (injection h with h;omega)
  | cases h
set_option maxRecDepth 4000 in
set_option maxHeartbeats 8000000 in
theorem s_ref06_types (p:Pg) (hp:Lim p):Ret P0 n_ref06_types [pgD p] (.bool (!sortP p)):=by
 have hN:=hp.nodes
 have hnl:(p.nodes.map ndL).length=p.nodes.length:=by simp
 have hall:(∀(j:Nat) (h:j<p.nodes.length),sortN p p.nodes[j]=false)→(!sortP p)=true:=fun h=>by
  rw [sortP,List.any_eq_false.2];rfl
  intro x hx
  obtain ⟨j,hj,rfl⟩:=List.mem_iff_getElem.1 hx
  rw [h j hj];simp
 have hone:∀(j:Nat) (h:j<p.nodes.length),sortN p p.nodes[j]=true→(!sortP p)=false:=fun j h e=>by
  rw [sortP,List.any_eq_true.2 ⟨_,List.getElem_mem h,e⟩];rfl
 have hel1:∀(j:Nat) (h:j<p.nodes.length),(p.nodes.map ndL)[(j:Int).toNat]? = some (ndL p.nodes[j]):=fun j h=>by simp [h]
 generalize (!sortP p)=R at *
 refine Ret_by is_ref06_types rfl ?_
 repeat refine aw ?_
 refine WT_for p.nodes.length (fun j:Nat=>⟨[(3,.d (I j)),(1,.ptr 0 0)],[(0,pgV p)],1,[],0⟩) (fun j=>∀h:j<p.nodes.length,sortN p p.nodes[j]=false) (by exact Uw.wM) (fun g1=>?_) (fun j hj _=>?_)
 ·rw [hall fun j h=>g1 j h h]
  refine aw ?_
  refine WT_break ?_
  exact WT_ret rfl rfl rfl rfl rfl
 have he:=hel1 j hj
 have hone:=hone j hj
 have hG:sortN p p.nodes[j]=false→(fun j=>∀h:j<p.nodes.length,sortN p p.nodes[j]=false) j:=fun h _=>h
 have hth:=s_ref06_thing p p.nodes[j].name (by have:=hp.decls;omega)
 obtain ⟨B,hB,hcs⟩:=type_cases p p.nodes[j]
 rw [hB] at hone hG
 rw [thingD] at hth
 have hmy:=s_ref06_many ((thingP p p.nodes[j].name).getD (-1)) p.nodes[j].name2
 clear hall hel1 hB
 generalize p.nodes[j]=x at *
 obtain ⟨xk,xn,xs,xt,xo⟩:=x
 have he:(p.nodes.map ndL)[(j:Int).toNat]? = some [I xk,I xn,.str xs,.str xt,intsD xo]:=he
 simp only at hcs hth hmy
 rcases hcs with ⟨hk,⟨ht,rfl⟩|⟨ht,rfl⟩|⟨k,hk0,ht,rfl⟩⟩|⟨hk,⟨ht,rfl⟩|⟨k,ht,rfl⟩⟩|⟨rfl,⟨c,ht,rfl⟩|⟨ht,rfl⟩⟩|⟨h2,h9,h10,h11,h8,rfl⟩
 ·rw [ht] at hth
  have hth:Ret P0 n_ref06_thing [pgD p,.str xs] (.tuple [I (-1),.bool false]):=hth
  have hG1:=hG rfl
  rcases hk with rfl|rfl
  all_goals repeat refine aw ?_
  all_goals exact WT_next j hG1 (by exact Uw.wM)
 ·rw [ht] at hth
  have hth:Ret P0 n_ref06_thing [pgD p,.str xs] (.tuple [I 0,.bool true]):=hth
  have hG1:=hG rfl
  rcases hk with rfl|rfl
  all_goals repeat refine aw ?_
  all_goals exact WT_next j hG1 (by exact Uw.wM)
 ·rw [ht] at hth
  have hth:Ret P0 n_ref06_thing [pgD p,.str xs] (.tuple [I k,.bool true]):=hth
  rw [hone rfl]
  rcases hk with rfl|rfl
  all_goals repeat refine aw ?_
  all_goals exact WT_leave (WT_ret rfl rfl rfl rfl rfl)
 ·rw [ht] at hth
  have hth:Ret P0 n_ref06_thing [pgD p,.str xs] (.tuple [I (-1),.bool false]):=hth
  have hG1:=hG rfl
  rcases hk with rfl|rfl
  all_goals repeat refine aw ?_
  all_goals exact WT_next j hG1 (by exact Uw.wM)
 ·rw [ht] at hth
  have hth:Ret P0 n_ref06_thing [pgD p,.str xs] (.tuple [I k,.bool true]):=hth
  rw [hone rfl]
  rcases hk with rfl|rfl
  all_goals repeat refine aw ?_
  all_goals exact WT_leave (WT_ret rfl rfl rfl rfl rfl)
 ·rw [ht] at hmy
  obtain ⟨c0,c2⟩:=needsP_pos ht
  have hG1:=hG rfl
  generalize (thingP p xs).getD (-1)=tk at *
  generalize (thingP p xs).isSome=tb at *
  have hmy:Ret P0 n_ref06_many [I tk,.str xt] (I c):=hmy
  repeat refine aw ?_
  exact WT_next j hG1 (by exact Uw.wM)
 ·rw [ht] at hmy
  rw [hone rfl]
  generalize (thingP p xs).getD (-1)=tk at *
  generalize (thingP p xs).isSome=tb at *
  have hmy:Ret P0 n_ref06_many [I tk,.str xt] (I (-1)):=hmy
  repeat refine aw ?_
  exact WT_leave (WT_ret rfl rfl rfl rfl rfl)
 ·have hG1:=hG rfl
  generalize (thingP p xs).getD (-1)=tk at *
  generalize (thingP p xs).isSome=tb at *
  repeat refine aw ?_
  exact WT_next j hG1 (by exact Uw.wM)
end Uw.Tryz
namespace Uw.Tryz
open Go Uw
def fnGo:Nat→List Fu→MS→MS
 | _,[],es=>es
 | i,f::r,es=>fnGo (i+1) r (if (mget es (.s f.name)).isSome then es else mset es (.s f.name) (I i))
def fnE (fs:List Fu):MS:=fnGo 0 fs []
theorem fnGo_get (s:Str):∀(fs:List Fu) (i:Nat) (es:MS),mget (fnGo i fs es) (.s s)=(mget es (.s s)).or ((fs.findIdx? fun f=>decide (f.name=s)).map fun j=>I ((i+j:Nat):Int))
 | [],i,es=>by simp [fnGo]
 | f::fs,i,es=>by
  rw [fnGo,fnGo_get s fs,List.findIdx?_cons]
  have h1:mget (if (mget es (.s f.name)).isSome=true then es else mset es (.s f.name) (I i)) (.s s)=(mget es (.s s)).or (if f.name=s then some (I i) else none):=by
   split
   ·rename_i h
    by_cases he:f.name=s
    ·subst he
     cases hm:mget es (.s f.name) with
     | none=>rw [hm] at h;cases h
     | some v=>rfl
    ·rw [if_neg he];simp
   ·rename_i h
    rw [mget_mset]
    by_cases he:f.name=s
    ·subst he
     simp only [if_true]
     cases hm:mget es (.s f.name) with
     | none=>rfl
     | some v=>rw [hm] at h;simp at h
    ·rw [if_neg he,if_neg (by simp;exact fun e=>he e.symm)];simp
  rw [h1]
  by_cases he:f.name=s
  ·rw [if_pos he]
   simp only [he,decide_true,if_true]
   cases mget es (.s s)<;>simp
  ·rw [if_neg he]
   simp only [he,decide_false]
   cases mget es (.s s) with
   | some v=>simp
   | none=>
    simp only [Option.or_none,Option.none_or]
    cases fs.findIdx? fun f=>decide (f.name=s) with
    | none=>rfl
    | some j=>simp;omega
theorem fn_get (p:Pg) (s:Str):mget (fnE p.funs) (.s s)=(funP p s).map fun (j:Nat)=>I ((j:Nat):Int):=by
 rw [fnE,fnGo_get]
 simp only [mget,Option.none_or,Nat.zero_add]
 rfl
abbrev sCs (p:Pg):List V:=[.d (.slice 3 (p.decls.map decL) false),.d (.slice 3 (p.funs.map fuL) false),.d (nodesD p.nodes),.hnd 0,.hnd 1,.d (intsD (ownersP p)),.d (strssD (localsP p))]
abbrev sBs (p:Pg):List Blk:=[.map none (thE p.decls),.map none (fnE p.funs)]
abbrev sHp (p:Pg):Heap:=[(2,.var (sCs p)),(0,.map none (thE p.decls)),(1,.map none (fnE p.funs))]
set_option maxRecDepth 4000 in
set_option maxHeartbeats 4000000 in
theorem s_search_sort (p:Pg) (hp:Lim p):SatE P0 n_check_search_sort [.agg (sCs p)] (sBs p) (.d (.bool (sortP p))) (sBs p):=by
 have hN:=hp.nodes
 have hnl:(p.nodes.map ndL).length=p.nodes.length:=by simp
 have hall:(∀(j:Nat) (h:j<p.nodes.length),sortN p p.nodes[j]=false)→sortP p=false:=fun h=>by
  rw [sortP,List.any_eq_false]
  intro x hx
  obtain ⟨j,hj,rfl⟩:=List.mem_iff_getElem.1 hx
  rw [h j hj];simp
 have hone:∀(j:Nat) (h:j<p.nodes.length),sortN p p.nodes[j]=true→sortP p=true:=fun j h e=>by
  rw [sortP,List.any_eq_true]
  exact ⟨_,List.getElem_mem h,e⟩
 generalize sortP p=R at *
 refine SatE_by is_check_search_sort rfl ?_
 repeat refine aw ?_
 refine WT_for p.nodes.length (fun j:Nat=>⟨[(13,.d (I j)),(12,.d (I ((p.nodes.map ndL).length:Nat))),(11,.d (nodesD p.nodes)),(1,.ptr 2 0)],sHp p,3,[],2⟩) (fun j=>∀h:j<p.nodes.length,sortN p p.nodes[j]=false) (by exact Uw.wM) (fun hg=>?_) (fun j hj hg=>?_)
 ·rw [hall (fun j h=>hg j h h)]
  repeat refine aw ?_
  refine WT_break ?_
  repeat refine aw ?_
  refine WT_eret 2 rfl rfl ?_
  exact Uw.wM
 have he:(p.nodes.map ndL)[(j:Int).toNat]? = some (ndL p.nodes[j]):=by simp [hj]
 have hone:=hone j hj
 have hth:=th_get p p.nodes[j].name
 clear hall
 have hG:sortN p p.nodes[j]=false→(fun j=>∀h:j<p.nodes.length,sortN p p.nodes[j]=false) j:=fun h _=>h
 have hd:∀x,sortN p x=(if x.kind=2∨x.kind=9 then (match thingP p x.name with|some k=>!decide (k=0)|none=>false)
  else if x.kind=10∨x.kind=11 then (thingP p x.name).isSome
  else if x.kind=8 then (needsP ((thingP p x.name).getD 0) x.name2).isNone
  else false):=fun x=>rfl
 rw [hd] at hone hG
 clear hd
 generalize p.nodes[j]=x at *
 obtain ⟨xk,xn,xs,xt,xo⟩:=x
 have he:(p.nodes.map ndL)[(j:Int).toNat]? = some [I xk,I xn,.str xs,.str xt,intsD xo]:=he
 simp only at hone hG hth
 cases ht:thingP p xs with
 | none=>
  rw [ht] at hth hone hG
  have hth:mget (thE p.decls) (.s xs)=none:=hth
  by_cases k8:xk=8
  ·subst k8
   have hne:=s_check_needs 0 xt
   rw [needsD] at hne
   cases hq:needsP 0 xt with
   | some c=>
    rw [hq] at hne
    have hG1:=hG (by simp [hq])
    repeat (first|refine aw ?_|refine f1 ?_|refine m1 ?_)
    exact WT_next j hG1 (by exact Uw.wM)
   | none=>
    rw [hq] at hne
    rw [hone (by simp [hq])]
    repeat (first|refine aw ?_|refine f1 ?_|refine m1 ?_)
    refine WT_leave (WT_eret 2 rfl rfl ?_)
    exact Uw.wM
  have hG1:=hG (by simp [k8])
  by_cases h:xk=2∨xk=9∨xk=10∨xk=11
  ·rcases h with rfl|rfl|rfl|rfl
   all_goals repeat (first|refine aw ?_|refine f1 ?_|refine m1 ?_)
   all_goals exact WT_next j hG1 (by exact Uw.wM)
  obtain ⟨k2,k9,k10,k11⟩:xk≠2∧xk≠9∧xk≠10∧xk≠11:=by omega
  repeat (first|refine aw ?_|refine f1 ?_|refine m1 ?_)
  exact WT_next j hG1 (by exact Uw.wM)
 | some kd=>
  rw [ht] at hth hone hG
  have hth:mget (thE p.decls) (.s xs)=some (I kd):=hth
  by_cases k8:xk=8
  ·subst k8
   have hne:=s_check_needs kd xt
   rw [needsD] at hne
   cases hq:needsP kd xt with
   | some c=>
    rw [hq] at hne
    have hG1:=hG (by simp [hq])
    repeat (first|refine aw ?_|refine f1 ?_|refine m1 ?_)
    exact WT_next j hG1 (by exact Uw.wM)
   | none=>
    rw [hq] at hne
    rw [hone (by simp [hq])]
    repeat (first|refine aw ?_|refine f1 ?_|refine m1 ?_)
    refine WT_leave (WT_eret 2 rfl rfl ?_)
    exact Uw.wM
  by_cases h2:xk=2∨xk=9
  ·by_cases hk:kd=0
   ·have hG1:=hG (by rw [if_pos h2];simp [hk])
    rcases h2 with rfl|rfl
    all_goals repeat (first|refine aw ?_|refine f1 ?_|refine m1 ?_)
    all_goals exact WT_next j hG1 (by exact Uw.wM)
   ·rw [hone (by rw [if_pos h2];simp [hk])]
    rcases h2 with rfl|rfl
    all_goals repeat (first|refine aw ?_|refine f1 ?_|refine m1 ?_)
    all_goals refine WT_leave (WT_eret 2 rfl rfl ?_)
    all_goals exact Uw.wM
  by_cases h1:xk=10∨xk=11
  ·rw [hone (by rw [if_neg h2,if_pos h1];rfl)]
   rcases h1 with rfl|rfl
   all_goals repeat (first|refine aw ?_|refine f1 ?_|refine m1 ?_)
   all_goals refine WT_leave (WT_eret 2 rfl rfl ?_)
   all_goals exact Uw.wM
  have hG1:=hG (by rw [if_neg h2,if_neg h1,if_neg k8])
  obtain ⟨k2,k9,k10,k11⟩:xk≠2∧xk≠9∧xk≠10∧xk≠11:=by omega
  repeat (first|refine aw ?_|refine f1 ?_|refine m1 ?_)
  exact WT_next j hG1 (by exact Uw.wM)
end Uw.Tryz
namespace Uw.Tryz
open Go Uw
theorem fn_at (p:Pg) (hF:p.funs≠[]) (s:Str):∃f:Fu,f.args.length=argsAt p s∧((mget (fnE p.funs) (.s s)=none∧(p.funs.map fuL)[(0:Int).toNat]? = some (fuL f))∨∃i:Nat,mget (fnE p.funs) (.s s)=some (I i)∧i<p.funs.length∧(p.funs.map fuL)[((i:Nat):Int).toNat]? = some (fuL f)):=by
 have hpos:=List.length_pos_iff.2 hF
 cases hq:funP p s with
 | none=>
  refine ⟨p.funs[0],?_,.inl ⟨by rw [fn_get,hq];rfl,?_⟩⟩
  ·rw [argsAt,hq];simp [List.getD,hpos]
  ·show (p.funs.map fuL)[0]? = _
   simp [hpos]
 | some i=>
  have hi:i<p.funs.length:=by
   rw [funP] at hq
   exact (List.findIdx?_eq_some_iff_getElem.1 hq).1
  refine ⟨p.funs[i],?_,.inr ⟨i,by rw [fn_get,hq];rfl,hi,?_⟩⟩
  ·rw [argsAt,hq];simp [List.getD,hi]
  ·show (p.funs.map fuL)[i]? = _
   simp [hi]
theorem WT_leaveE {P:Program} {Q:MExit→St→Prop} {S:Nat→St} {inv:Nat→Prop} {mu:Nat→Nat} {x:Nat} {kk:MExit→St→Tree} (hkk:∀s,kk .ret s=Tree.done .ret s) {s:St} (h:WT P Q (.done .ret s)):WT P (LoopQ S inv mu x fun e s=>WT P Q (kk e s)) (.done .ret s):=
 WT_leave (by show WT P Q (kk .ret s);rw [hkk];exact h)
def mnB:MCode:=qL (qL (qR (qL (qR (qR m_check_search_many.code)))))
abbrev mnS (p:Pg) (j:Nat):St:=⟨[(21,.d (I j)),(20,.d (I ((p.nodes.map ndL).length:Nat))),(19,.d (nodesD p.nodes)),(1,.ptr 2 0)],sHp p,3,[],2⟩
abbrev mnG (p:Pg) (j:Nat):Prop:=∀h:j<p.nodes.length,manyN p p.nodes[j]=false
set_option maxRecDepth 4000 in
set_option maxHeartbeats 4000000 in
theorem many_round (p:Pg) (hp:Lim p) (hF0:p.funs≠[]) (R:Bool) (j:Nat) (hj:j<p.nodes.length) (hone:manyN p p.nodes[j]=true→R=true) (hpre:∀i,i<j→mnG p i) {kk:MExit→St→Tree} (hkk:∀s,kk .ret s=Tree.done .ret s) :
  WT P0 (LoopQ (mnS p) (ForI p.nodes.length (mnG p)) (forM p.nodes.length) j fun e s=>WT P0 (EQ 2 m_check_search_many.res (.d (.bool R)) (sBs p)) (kk e s)) (exec mnB (mnS p j) Tree.done):=by
 have hN:=hp.nodes
 have hF:=hp.funs
 have hpos:=List.length_pos_iff.2 hF0
 have hpi:(0:Int)<((p.funs.map fuL).length:Nat):=by rw [List.length_map];omega
 have hnl:(p.nodes.map ndL).length=p.nodes.length:=by simp
 have hfl:(p.funs.map fuL).length=p.funs.length:=by simp
 have hfm:=fn_at p hF0
 have he:(p.nodes.map ndL)[(j:Int).toNat]? = some (ndL p.nodes[j]):=by simp [hj]
 have hth:=th_get p p.nodes[j].name
 have hG:manyN p p.nodes[j]=false→mnG p j:=fun h _=>h
 have hd:∀x,manyN p x=(if x.kind=10 then !decide (x.of.length=argsAt p x.name2) else if x.kind=11 then !decide (argsAt p x.name2=1) else if x.kind=8 then !decide ((x.of.length:Int)=(needsP ((thingP p x.name).getD 0) x.name2).getD 0) else false):=fun x=>rfl
 rw [hd] at hone hG
 clear hd
 generalize p.nodes[j]=x at *
 obtain ⟨xk,xn,xs,xt,xo⟩:=x
 have he:(p.nodes.map ndL)[(j:Int).toNat]? = some [I xk,I xn,.str xs,.str xt,.slice 1 (xo.map fun i=>[I i]) false]:=he
 simp only at hone hG hth
 have hol:(xo.map fun i=>[I i]).length=xo.length:=by simp
 obtain ⟨f,hf1,hf2⟩:=hfm xt
 have hf3:(f.args.map fun s=>[Dat.str s]).length=argsAt p xt:=by rw [List.length_map];exact hf1
 clear hfm hf1
 generalize argsAt p xt=af at *
 obtain ⟨fn,fa,fb⟩:=f
 simp only at hf3 hf2
 by_cases k10:xk=10
 ·by_cases hw:xo.length=af
  ·have hG1:=hG (by rw [if_pos k10];simp [hw])
   have hw2:((xo.map fun i=>[I i]).length:Int)=((fa.map fun s=>[Dat.str s]).length:Nat):=by omega
   subst k10
   rcases hf2 with ⟨h1,h2⟩|⟨i,h1,h3,h2⟩
   all_goals have h2:_=some [.str fn,.slice 1 (fa.map fun s=>[Dat.str s]) false,I fb]:=h2
   all_goals repeat (first|refine aw ?_|refine f1 ?_|refine m1 ?_)
   all_goals exact WT_next j hG1 (by exact Uw.wM)
  ·rw [hone (by rw [if_pos k10];simp [hw])]
   have hw2:¬((xo.map fun i=>[I i]).length:Int)=((fa.map fun s=>[Dat.str s]).length:Nat):=by omega
   subst k10
   rcases hf2 with ⟨h1,h2⟩|⟨i,h1,h3,h2⟩
   all_goals have h2:_=some [.str fn,.slice 1 (fa.map fun s=>[Dat.str s]) false,I fb]:=h2
   all_goals repeat (first|refine aw ?_|refine f1 ?_|refine m1 ?_)
   all_goals refine WT_leaveE hkk (WT_eret 2 rfl rfl ?_)
   all_goals exact Uw.wM
 by_cases k11:xk=11
 ·by_cases hw:af=1
  ·have hG1:=hG (by rw [if_neg k10,if_pos k11];simp [hw])
   have hw2:((fa.map fun s=>[Dat.str s]).length:Int)=1:=by omega
   subst k11
   rcases hf2 with ⟨h1,h2⟩|⟨i,h1,h3,h2⟩
   all_goals have h2:_=some [.str fn,.slice 1 (fa.map fun s=>[Dat.str s]) false,I fb]:=h2
   all_goals repeat (first|refine aw ?_|refine f1 ?_|refine m1 ?_)
   all_goals exact WT_next j hG1 (by exact Uw.wM)
  ·rw [hone (by rw [if_neg k10,if_pos k11];simp [hw])]
   have hw2:¬((fa.map fun s=>[Dat.str s]).length:Int)=1:=by omega
   subst k11
   rcases hf2 with ⟨h1,h2⟩|⟨i,h1,h3,h2⟩
   all_goals have h2:_=some [.str fn,.slice 1 (fa.map fun s=>[Dat.str s]) false,I fb]:=h2
   all_goals repeat (first|refine aw ?_|refine f1 ?_|refine m1 ?_)
   all_goals refine WT_leaveE hkk (WT_eret 2 rfl rfl ?_)
   all_goals exact Uw.wM
 clear hf2 hf3
 by_cases k8:xk=8
 ·obtain ⟨kd,hkd⟩:∃kd,(thingP p xs).getD 0=kd:=⟨_,rfl⟩
  have hne:=s_check_needs kd xt
  rw [needsD] at hne
  rw [hkd] at hone hG
  generalize (needsP kd xt).isSome=b at hne
  generalize (needsP kd xt).getD 0=nd at *
  by_cases hw:(xo.length:Int)=nd
  ·have hG1:=hG (by rw [if_neg k10,if_neg k11,if_pos k8];simp [hw])
   have hw2:((xo.map fun i=>[I i]).length:Int)=nd:=by omega
   subst k8
   cases ht:thingP p xs with
   | none=>
    rw [ht] at hth hkd
    have hth:mget (thE p.decls) (.s xs)=none:=hth
    obtain rfl:kd=0:=hkd.symm
    repeat (first|refine aw ?_|refine f1 ?_|refine m1 ?_)
    exact WT_next j hG1 (by exact Uw.wM)
   | some kd'=>
    rw [ht] at hth hkd
    have hth:mget (thE p.decls) (.s xs)=some (I kd'):=hth
    obtain rfl:kd' = kd:=hkd
    repeat (first|refine aw ?_|refine f1 ?_|refine m1 ?_)
    exact WT_next j hG1 (by exact Uw.wM)
  ·rw [hone (by rw [if_neg k10,if_neg k11,if_pos k8];simp [hw])]
   have hw2:¬((xo.map fun i=>[I i]).length:Int)=nd:=by omega
   subst k8
   cases ht:thingP p xs with
   | none=>
    rw [ht] at hth hkd
    have hth:mget (thE p.decls) (.s xs)=none:=hth
    obtain rfl:kd=0:=hkd.symm
    repeat (first|refine aw ?_|refine f1 ?_|refine m1 ?_)
    refine WT_leaveE hkk (WT_eret 2 rfl rfl ?_)
    exact Uw.wM
   | some kd'=>
    rw [ht] at hth hkd
    have hth:mget (thE p.decls) (.s xs)=some (I kd'):=hth
    obtain rfl:kd' = kd:=hkd
    repeat (first|refine aw ?_|refine f1 ?_|refine m1 ?_)
    refine WT_leaveE hkk (WT_eret 2 rfl rfl ?_)
    exact Uw.wM
 have hG1:=hG (by rw [if_neg k10,if_neg k11,if_neg k8])
 repeat (first|refine aw ?_|refine f1 ?_|refine m1 ?_)
 exact WT_next j hG1 (by exact Uw.wM)
set_option maxRecDepth 4000 in
set_option maxHeartbeats 4000000 in
theorem s_search_many (p:Pg) (hp:Lim p) (hF0:p.funs≠[]):SatE P0 n_check_search_many [.agg (sCs p)] (sBs p) (.d (.bool (manyP p))) (sBs p):=by
 have hN:=hp.nodes
 have hF:=hp.funs
 have hpos:=List.length_pos_iff.2 hF0
 have hpi:(0:Int)<((p.funs.map fuL).length:Nat):=by rw [List.length_map];omega
 have hnl:(p.nodes.map ndL).length=p.nodes.length:=by simp
 have hfl:(p.funs.map fuL).length=p.funs.length:=by simp
 have hall:¬0<argsAt p sMain→(∀(j:Nat) (h:j<p.nodes.length),manyN p p.nodes[j]=false)→manyP p=false:=fun h0 h=>by
  rw [manyP,decide_eq_false h0,Bool.false_or,List.any_eq_false]
  intro x hx
  obtain ⟨j,hj,rfl⟩:=List.mem_iff_getElem.1 hx
  rw [h j hj];simp
 have hone:∀(j:Nat) (h:j<p.nodes.length),manyN p p.nodes[j]=true→manyP p=true:=fun j h e=>by
  rw [manyP,Bool.or_eq_true,List.any_eq_true]
  exact .inr ⟨_,List.getElem_mem h,e⟩
 have hzero:0<argsAt p sMain→manyP p=true:=fun h=>by rw [manyP,decide_eq_true h];rfl
 have hfm:=fn_at p hF0
 generalize manyP p=R at *
 obtain ⟨fm,hm1,hm2⟩:=hfm sMain
 have hm3:(fm.args.map fun s=>[Dat.str s]).length=argsAt p sMain:=by rw [List.length_map];exact hm1
 rw [← hm3] at hzero hall
 generalize argsAt p sMain=am at *
 obtain ⟨fmn,fma,fmb⟩:=fm
 simp only at hm3 hzero hall hm2
 refine SatE_by is_check_search_many rfl ?_
 by_cases ha:0<(fma.map fun s=>[Dat.str s]).length
 ·rw [hzero ha]
  have ha2:(0:Int)<((fma.map fun s=>[Dat.str s]).length:Nat):=by omega
  rcases hm2 with ⟨g1,g2⟩|⟨i,g1,g3,g2⟩
  all_goals have g2:_=some [.str fmn,.slice 1 (fma.map fun s=>[Dat.str s]) false,I fmb]:=g2
  all_goals have g1:mget (fnE p.funs) (.s [109,97,105,110])=_:=g1
  all_goals repeat (first|refine aw ?_|refine f1 ?_|refine m1 ?_)
  all_goals refine WT_eret 2 rfl rfl ?_
  all_goals exact Uw.wM
 have ha2:¬(0:Int)<((fma.map fun s=>[Dat.str s]).length:Nat):=by omega
 have hall:=hall ha
 clear hzero
 rcases hm2 with ⟨g1,g2⟩|⟨im,g1,g3,g2⟩
 ·have g2:_=some [.str fmn,.slice 1 (fma.map fun s=>[Dat.str s]) false,I fmb]:=g2
  have g1:mget (fnE p.funs) (.s [109,97,105,110])=_:=g1
  repeat (first|refine aw ?_|refine f1 ?_|refine m1 ?_)
  refine WT_for p.nodes.length (mnS p) (mnG p) (by exact Uw.wM) (fun hg=>?_) (fun j hj hg=>many_round p hp hF0 R j hj (hone j hj) hg (fun s=>rfl))
  rw [hall (fun j h=>hg j h h)]
  repeat refine aw ?_
  refine WT_break ?_
  repeat refine aw ?_
  refine WT_eret 2 rfl rfl ?_
  exact Uw.wM
 ·have g2:_=some [.str fmn,.slice 1 (fma.map fun s=>[Dat.str s]) false,I fmb]:=g2
  have g1:mget (fnE p.funs) (.s [109,97,105,110])=_:=g1
  repeat (first|refine aw ?_|refine f1 ?_|refine m1 ?_)
  refine WT_for p.nodes.length (mnS p) (mnG p) (by exact Uw.wM) (fun hg=>?_) (fun j hj hg=>many_round p hp hF0 R j hj (hone j hj) hg (fun s=>rfl))
  rw [hall (fun j h=>hg j h h)]
  repeat refine aw ?_
  refine WT_break ?_
  repeat refine aw ?_
  refine WT_eret 2 rfl rfl ?_
  exact Uw.wM
end Uw.Tryz
namespace Uw.Tryz
open Go Uw
theorem fnGo_len:∀(fs:List Fu) (i:Nat) (es:MS),(fnGo i fs es).length≤es.length+fs.length∧((fnGo i fs es).length=es.length+fs.length↔(fs.map (·.name)).Nodup∧∀f∈fs,mget es (.s f.name)=none)
 | [],i,es=>by simp [fnGo]
 | f::fs,i,es=>by
  rw [fnGo]
  cases hm:mget es (.s f.name) with
  | some v=>
   obtain ⟨h1,h2⟩:=fnGo_len fs (i+1) es
   rw [if_pos (by rfl)]
   refine ⟨by simp;omega,⟨fun h=>?_,fun h=>?_⟩⟩
   ·simp at h;omega
   ·have:=h.2 f (by simp);rw [hm] at this;cases this
  | none=>
   obtain ⟨h1,h2⟩:=fnGo_len fs (i+1) (mset es (.s f.name) (I i))
   rw [if_neg (by simp)]
   have hs:(mset es (.s f.name) (I i)).length=es.length+1:=by rw [mset_len,hm];rfl
   rw [hs] at h1 h2
   refine ⟨by simp;omega,?_⟩
   rw [show es.length+(f::fs).length=es.length+1+fs.length by simp;omega,h2,List.map_cons,List.nodup_cons]
   have hg:∀s:Str,mget (mset es (.s f.name) (I i)) (.s s)=if s=f.name then some (I i) else mget es (.s s):=fun s=>by
    rw [mget_mset];simp
   constructor
   ·rintro ⟨g1,g2⟩
    refine ⟨⟨fun hin=>?_,g1⟩,fun f' hf'=>?_⟩
    ·obtain ⟨f',hf',he⟩:=List.mem_map.1 hin
     have:=g2 f' hf'
     rw [hg,if_pos he] at this
     cases this
    ·rcases List.mem_cons.1 hf' with rfl|hf'
     ·exact hm
     ·have:=g2 f' hf'
      rw [hg] at this
      split at this
      ·cases this
      ·exact this
   ·rintro ⟨⟨g1,g2⟩,g3⟩
    refine ⟨g2,fun f' hf'=>?_⟩
    rw [hg,if_neg (fun e=>g1 (List.mem_map.2 ⟨f',hf',e⟩))]
    exact g3 f' (by simp [hf'])
theorem th_len_iff (p:Pg):(thE p.decls).length<p.decls.length↔¬(p.decls.map (·.name)).Nodup:=by
 obtain ⟨h1,h2⟩:=thFold_len p.decls []
 have e:(∀d∈p.decls,mget ([]:MS) (.s d.name)=none):=fun _ _=>rfl
 constructor
 ·intro h hn
  have:=h2.2 ⟨hn,e⟩
  rw [thE] at h;simp at this;omega
 ·intro h
  refine Classical.byContradiction fun h3=>h (h2.1 ?_).1
  rw [thE] at h3;simp at h1 h3 ⊢;omega
theorem fn_len_iff (p:Pg):(fnE p.funs).length<p.funs.length↔¬(p.funs.map (·.name)).Nodup:=by
 obtain ⟨h1,h2⟩:=fnGo_len p.funs 0 []
 have e:(∀f∈p.funs,mget ([]:MS) (.s f.name)=none):=fun _ _=>rfl
 constructor
 ·intro h hn
  have:=h2.2 ⟨hn,e⟩
  rw [fnE] at h;simp at this;omega
 ·intro h
  refine Classical.byContradiction fun h3=>h (h2.1 ?_).1
  rw [fnE] at h3;simp at h1 h3 ⊢;omega
def freeA (p:Pg) (l:List Str) (i:Nat):Prop:=∀h:i<l.length,thingP p l[i]=none∧l[i]∉l.take i
theorem dupA_iff (p:Pg):∀(r seen:List Str),dupA p seen r=false↔∀(i:Nat) (h:i<r.length),thingP p r[i]=none∧r[i]∉seen∧r[i]∉r.take i
 | [],seen=>by simp [dupA]
 | a::r,seen=>by
  rw [dupA,Bool.or_eq_false_iff,Bool.or_eq_false_iff,dupA_iff p r (a::seen)]
  constructor
  ·rintro ⟨⟨h1,h2⟩,h3⟩ i h
   cases i with
   | zero=>exact ⟨by simpa using h1,by simpa using h2,by simp⟩
   | succ i=>
    obtain ⟨g1,g2,g3⟩:=h3 i (by simpa using h)
    rw [List.mem_cons,not_or] at g2
    refine ⟨g1,g2.2,?_⟩
    rw [List.take_succ_cons,List.mem_cons,not_or]
    exact ⟨g2.1,g3⟩
  ·intro h
   obtain ⟨a1,a2,a3⟩:=h 0 (by simp)
   refine ⟨⟨by simpa using a1,by simpa using a2⟩,fun i hi=>?_⟩
   obtain ⟨b1,b2,b3⟩:=h (i+1) (by simpa using hi)
   rw [List.take_succ_cons,List.mem_cons,not_or] at b3
   exact ⟨b1,by rw [List.mem_cons,not_or];exact ⟨b3.1,b2⟩,b3.2⟩
theorem dupA_free (p:Pg) (l:List Str):dupA p [] l=false↔∀i,i<l.length→freeA p l i:=by
 rw [dupA_iff]
 constructor
 ·intro h i hi _;exact ⟨(h i hi).1,(h i hi).2.2⟩
 ·intro h i hi;exact ⟨(h i hi hi).1,by simp,(h i hi hi).2⟩
end Uw.Tryz
namespace Uw.Tryz
open Go Uw
abbrev twS (p:Pg) (j:Nat) (fa:List Str) (E:Nat→MS) (i:Nat):St:=⟨[(40,.d (I i)),(39,.d (I ((fa.map fun s=>[Dat.str s]).length:Nat))),(38,.d (strsC fa)),(5,.hnd 4),(32,.d (I j)),(31,.d (I ((p.funs.map fuL).length:Nat))),(30,.d (.slice 3 (p.funs.map fuL) false)),(1,.ptr 2 0)],(4,.map none (E i))::sHp p,5,[],2⟩
set_option maxRecDepth 8000 in
set_option maxHeartbeats 4000000 in
theorem s_search_twice (p:Pg) (hp:Lim p):SatE P0 n_check_search_twice [.agg (sCs p)] (sBs p) (.d (.bool (twiceP p))) (sBs p):=by
 have hF:=hp.funs
 have hD:=hp.decls
 have hfl:(p.funs.map fuL).length=p.funs.length:=by simp
 have hdl:(p.decls.map decL).length=p.decls.length:=by simp
 have h1:=th_len_iff p
 have h2:=fn_len_iff p
 have hargs:=hp.args
 refine SatE_by is_check_search_twice rfl ?_
 by_cases hD1:(thE p.decls).length<p.decls.length
 ·have hR:twiceP p=true:=by rw [twiceP,decide_eq_false (h1.1 hD1)];rfl
  rw [hR]
  have hD2:(((thE p.decls).length:Nat):Int)<((p.decls.map decL).length:Nat):=by omega
  repeat (first|refine aw ?_|refine f1 ?_|refine m1 ?_)
  refine WT_eret 2 rfl rfl ?_
  exact Uw.wM
 have hDn:(p.decls.map (·.name)).Nodup:=Classical.byContradiction fun h=>hD1 (h1.2 h)
 have hD2:¬(((thE p.decls).length:Nat):Int)<((p.decls.map decL).length:Nat):=by omega
 by_cases hF1:(fnE p.funs).length<p.funs.length
 ·have hR:twiceP p=true:=by rw [twiceP,decide_eq_true hDn,decide_eq_false (h2.1 hF1)];rfl
  rw [hR]
  have hF2:(((fnE p.funs).length:Nat):Int)<((p.funs.map fuL).length:Nat):=by omega
  repeat (first|refine aw ?_|refine f1 ?_|refine m1 ?_)
  refine WT_eret 2 rfl rfl ?_
  exact Uw.wM
 have hFn:(p.funs.map (·.name)).Nodup:=Classical.byContradiction fun h=>hF1 (h2.2 h)
 have hF2:¬(((fnE p.funs).length:Nat):Int)<((p.funs.map fuL).length:Nat):=by omega
 have hR:twiceP p=p.funs.any fun f=>dupA p [] f.args:=by rw [twiceP,decide_eq_true hDn,decide_eq_true hFn];rfl
 have hall:(∀(j:Nat) (h:j<p.funs.length),dupA p [] p.funs[j].args=false)→twiceP p=false:=fun h=>by
  rw [hR,List.any_eq_false]
  intro x hx
  obtain ⟨j,hj,rfl⟩:=List.mem_iff_getElem.1 hx
  rw [h j hj];simp
 have hone:∀(j:Nat) (h:j<p.funs.length),dupA p [] p.funs[j].args=true→twiceP p=true:=fun j h e=>by
  rw [hR,List.any_eq_true]
  exact ⟨_,List.getElem_mem h,e⟩
 generalize twiceP p=R at *
 clear hR h1 h2
 repeat (first|refine aw ?_|refine f1 ?_|refine m1 ?_)
 refine WT_for p.funs.length (fun j:Nat=>⟨[(32,.d (I j)),(31,.d (I ((p.funs.map fuL).length:Nat))),(30,.d (.slice 3 (p.funs.map fuL) false)),(1,.ptr 2 0)],sHp p,3,[],2⟩) (fun j=>∀h:j<p.funs.length,dupA p [] p.funs[j].args=false) (by exact Uw.wM) (fun hg=>?_) (fun j hj hg=>?_)
 ·rw [hall (fun j h=>hg j h h)]
  repeat refine aw ?_
  refine WT_break ?_
  repeat refine aw ?_
  refine WT_eret 2 rfl rfl ?_
  exact Uw.wM
 have he:(p.funs.map fuL)[(j:Int).toNat]? = some (fuL p.funs[j]):=by simp [hj]
 have hone:=hone j hj
 have hG:dupA p [] p.funs[j].args=false→(fun j=>∀h:j<p.funs.length,dupA p [] p.funs[j].args=false) j:=fun h _=>h
 have hal:=hargs _ (List.getElem_mem hj)
 clear hall hargs
 generalize p.funs[j]=x at *
 obtain ⟨fn,fa,fb⟩:=x
 have he:(p.funs.map fuL)[(j:Int).toNat]? = some [.str fn,.slice 1 (fa.map fun s=>[Dat.str s]) false,I fb]:=he
 simp only at hone hG hal
 have hfal:(fa.map fun s=>[Dat.str s]).length=fa.length:=by simp
 have hda:=dupA_free p fa
 obtain ⟨E,hE⟩:∃E:Nat→MS,∀i,E i=seenE (fa.take i):=⟨_,fun _=>rfl⟩
 have hE0:([]:MS)=E 0:=by rw [hE];rfl
 have hEs:∀(i:Nat) (h:i<fa.length),mset (E i) (.s fa[i]) (.bool true)=E (i+1):=fun i h=>by rw [hE,hE,List.take_succ_eq_append_getElem h,seenE_snoc]
 have hEg:∀(i:Nat) (s:Str),mget (E i) (.s s)=if s∈fa.take i then some (.bool true) else none:=fun i s=>by rw [hE,seenE_get]
 have hge:∀(i:Nat) (h:i<fa.length),(fa.map fun s=>[Dat.str s])[(i:Int).toNat]? = some [.str fa[i]]:=fun i h=>by simp [h]
 have hbad:∀i,∀h:i<fa.length,¬(thingP p fa[i]=none∧fa[i]∉fa.take i)→R=true:=fun i h hn=>hone (by
  cases hd:dupA p [] fa with
  | true=>rfl
  | false=>exact absurd (hda.1 hd i h h) hn)
 have hgood:(∀i,i<fa.length→freeA p fa i)→∀h:j<p.funs.length,dupA p [] p.funs[j].args=false:=fun h=>hG (hda.2 h)
 have hS0:twS p j fa E 0=⟨[(40,.d (I (0:Nat))),(39,.d (I ((fa.map fun s=>[Dat.str s]).length:Nat))),(38,.d (strsC fa)),(5,.hnd 4),(32,.d (I j)),(31,.d (I ((p.funs.map fuL).length:Nat))),(30,.d (.slice 3 (p.funs.map fuL) false)),(1,.ptr 2 0)],(4,.map none [])::sHp p,5,[],2⟩:=by rw [twS,← hE0]
 clear hone hG hda hE
 repeat (first|refine aw ?_|refine f1 ?_|refine m1 ?_)
 refine WT_for fa.length (twS p j fa E) (freeA p fa) (wk_eq hS0 ?_) (fun hg2=>?_) (fun i hi hg2=>?_)
 ·exact Uw.wM
 ·have hg3:=hgood hg2
  refine aw ?_
  refine WT_break ?_
  refine aw ?_
  exact WT_next j hg3 (by exact Uw.wM)
 have hel:=hge i hi
 have hs:=hEs i hi
 have hbad:=hbad i hi
 have hfree:thingP p fa[i]=none∧fa[i]∉fa.take i→freeA p fa i:=fun h _=>h
 have hth:=th_get p fa[i]
 have hEg:=hEg i fa[i]
 clear hge hEs hgood
 generalize fa[i]=a at *
 cases ht:thingP p a with
 | some kd=>
  rw [ht] at hth
  have hth:mget (thE p.decls) (.s a)=some (I kd):=hth
  rw [hbad (by rw [ht];simp)]
  repeat (first|refine aw ?_|refine f1 ?_|refine m1 ?_)
  refine WT_leave (WT_leave (WT_eret 2 rfl rfl ?_))
  exact Uw.wM
 | none=>
  rw [ht] at hth
  have hth:mget (thE p.decls) (.s a)=none:=hth
  by_cases hin:a∈fa.take i
  ·rw [if_pos hin] at hEg
   rw [hbad (fun h=>h.2 hin)]
   repeat (first|refine aw ?_|refine f1 ?_|refine m1 ?_)
   refine WT_leave (WT_leave (WT_eret 2 rfl rfl ?_))
   exact Uw.wM
  ·rw [if_neg hin] at hEg
   have hfr:=hfree ⟨ht,hin⟩
   repeat (first|refine aw ?_|refine f1 ?_|refine m1 ?_)
   exact WT_next i hfr (by exact Uw.wM)
end Uw.Tryz
namespace Uw
open Go
theorem WT_mdef {P:Program} {Q:MExit→St→Prop} {o:Option Dat} {k:Dat→Tree} (z v:Dat) (h:o.getD z=v) (h2:WT P Q (k v)):WT P Q (.test o.isSome (.val o k) (k z)):=by
 cases o with
 | none=>exact WT_mmiss rfl (by rw [← h] at h2;exact h2)
 | some d=>exact WT_mhit (v:=d) rfl (by rw [← h] at h2;exact h2)
end Uw
namespace Uw.Tryz
open Go Uw
def ctStep (es:MS) (d:Dec):MS:=mset es (.i d.kind) (match (mget es (.i d.kind)).getD (I 0) with | .int _ c=>I (c+1)|_=>I 1)
def ctE (ds:List Dec):MS:=ds.foldl ctStep []
abbrev ctN (ds:List Dec) (k:Int):Nat:=ds.countP fun d=>decide (d.kind=k)
theorem ctE_snoc (ds:List Dec) (d:Dec):ctE (ds++[d])=ctStep (ctE ds) d:=by rw [ctE,List.foldl_append];rfl
theorem ct_get (ds:List Dec):∀k:Int,(mget (ctE ds) (.i k)).getD (I 0)=I (ctN ds k:Nat):=by
 have key:∀n,∀k:Int,(mget (ctE (ds.take n)) (.i k)).getD (I 0)=I (ctN (ds.take n) k:Nat):=by
  intro n
  induction n with
  | zero=>intro k;rfl
  | succ n ih=>
   intro k
   rcases Nat.lt_or_ge n ds.length with h|h
   ·rw [List.take_succ_eq_append_getElem h,ctE_snoc,ctStep,mget_mset,ih]
    have e:ctN (List.take n ds++[ds[n]]) k=ctN (List.take n ds) k+if ds[n].kind=k then 1 else 0:=by
     rw [ctN,List.countP_append,List.countP_singleton]
     simp
    rw [e]
    by_cases hk:k=ds[n].kind
    ·subst hk
     rw [if_pos rfl,if_pos rfl]
     show I _=I _
     congr 1
    ·rw [if_neg (by simp;exact hk),if_neg (fun e=>hk e.symm),ih];rfl
   ·have e:ds.take (n+1)=ds.take n:=by rw [List.take_of_length_le h,List.take_of_length_le (by omega)]
    rw [e];exact ih k
 intro k
 have:=key ds.length k
 rwa [List.take_length] at this
theorem ct_step (ds:List Dec) (d:Dec):mset (ctE ds) (.i d.kind) (I ((ctN ds d.kind:Nat)+1))=ctE (ds++[d]):=by
 rw [ctE_snoc,ctStep,ct_get]
end Uw.Tryz
namespace Uw.Tryz
open Go Uw
abbrev bdS (p:Pg) (E:Nat→MS) (j:Nat):St:=⟨[(20,.d (I j)),(19,.d (I ((p.decls.map decL).length:Nat))),(18,.d (.slice 3 (p.decls.map decL) false)),(3,.hnd 3),(1,.ptr 2 0)],(3,.map (some .i64) (E j))::sHp p,4,[],2⟩
set_option maxRecDepth 8000 in
set_option maxHeartbeats 4000000 in
theorem s_search_bound (p:Pg) (hp:Lim p):SatE P0 n_check_search_bound [.agg (sCs p)] (sBs p) (.d (.bool (boundP p))) (sBs p):=by
 have hF:=hp.funs
 have hD:=hp.decls
 have hN:=hp.nodes
 have hfl:(p.funs.map fuL).length=p.funs.length:=by simp
 have hdl:(p.decls.map decL).length=p.decls.length:=by simp
 have hnl:(p.nodes.map ndL).length=p.nodes.length:=by simp
 have hll:=localsP_len p
 have hml:((localsP p).map fun l=>[strsC l]).length=(localsP p).length:=by simp
 obtain ⟨c0,hc0⟩:∃c,ctN p.decls 0=c:=⟨_,rfl⟩
 obtain ⟨c1,hc1⟩:∃c,ctN p.decls 1=c:=⟨_,rfl⟩
 obtain ⟨c2,hc2⟩:∃c,ctN p.decls 2=c:=⟨_,rfl⟩
 obtain ⟨c3,hc3⟩:∃c,ctN p.decls 3=c:=⟨_,rfl⟩
 have hB:boundP p=(decide (16<p.funs.length)||decide (16<c0)||decide (8<c1)||decide (8<c2)||decide (8<c3)||((localsP p).any fun l=>decide (16<l.length))||(p.nodes.any fun x=>decide (x.kind=10)&&decide (16<x.of.length))):=by rw [← hc0,← hc1,← hc2,← hc3];rfl
 have b0:16<p.funs.length→boundP p=true:=fun h=>by rw [hB];simp [h]
 have b1:16<c0→boundP p=true:=fun h=>by rw [hB];simp [h]
 have b2:8<c1→boundP p=true:=fun h=>by rw [hB];simp [h]
 have b3:8<c2→boundP p=true:=fun h=>by rw [hB];simp [h]
 have b4:8<c3→boundP p=true:=fun h=>by rw [hB];simp [h]
 have b5:∀(j:Nat) (h:j<(localsP p).length),16<(localsP p)[j].length→boundP p=true:=fun j h e=>by
  have:((localsP p).any fun l=>decide (16<l.length))=true:=List.any_eq_true.2 ⟨_,List.getElem_mem h,by simp [e]⟩
  rw [hB,this];simp
 have b6:∀(j:Nat) (h:j<p.nodes.length),p.nodes[j].kind=10∧16<p.nodes[j].of.length→boundP p=true:=fun j h e=>by
  have:(p.nodes.any fun x=>decide (x.kind=10)&&decide (16<x.of.length))=true:=List.any_eq_true.2 ⟨_,List.getElem_mem h,by simp [e]⟩
  rw [hB,this];simp
 have ball:¬16<p.funs.length→¬16<c0→¬8<c1→¬8<c2→¬8<c3→(∀(j:Nat) (h:j<(localsP p).length),¬16<(localsP p)[j].length)→(∀(j:Nat) (h:j<p.nodes.length),¬(p.nodes[j].kind=10∧16<p.nodes[j].of.length))→boundP p=false:=fun g0 g1 g2 g3 g4 g5 g6=>by
  have h5:((localsP p).any fun l=>decide (16<l.length))=false:=List.any_eq_false.2 fun x hx=>by
   obtain ⟨j,hj,rfl⟩:=List.mem_iff_getElem.1 hx
   simpa using g5 j hj
  have h6:(p.nodes.any fun x=>decide (x.kind=10)&&decide (16<x.of.length))=false:=List.any_eq_false.2 fun x hx=>by
   obtain ⟨j,hj,rfl⟩:=List.mem_iff_getElem.1 hx
   simpa using g6 j hj
  rw [hB,h5,h6];simp [g0,g1,g2,g3,g4]
 clear hB
 generalize boundP p=R at *
 obtain ⟨E,hE⟩:∃E:Nat→MS,∀j,E j=ctE (p.decls.take j):=⟨_,fun _=>rfl⟩
 have hE0:([]:MS)=E 0:=by rw [hE];rfl
 have hst:∀(j:Nat) (h:j<p.decls.length),∃c:Nat,c≤100000∧(mget (E j) (.i p.decls[j].kind)).getD (I 0)=I (c:Nat)∧mset (E j) (.i p.decls[j].kind) (I ((c:Nat)+1))=E (j+1):=fun j h=>by
  refine ⟨ctN (p.decls.take j) p.decls[j].kind,?_,by rw [hE,ct_get],?_⟩
  ·have h2:(p.decls.take j).length≤j:=by rw [List.length_take];omega
   have h3:ctN (p.decls.take j) p.decls[j].kind≤(p.decls.take j).length:=List.countP_le_length
   omega
  ·rw [hE,hE,ct_step,← List.take_succ_eq_append_getElem h]
 have hg0:(mget (E p.decls.length) (.i 0)).getD (I 0)=I (c0:Nat):=by rw [hE,List.take_length,ct_get,hc0]
 have hg1:(mget (E p.decls.length) (.i 1)).getD (I 0)=I (c1:Nat):=by rw [hE,List.take_length,ct_get,hc1]
 have hg2:(mget (E p.decls.length) (.i 2)).getD (I 0)=I (c2:Nat):=by rw [hE,List.take_length,ct_get,hc2]
 have hg3:(mget (E p.decls.length) (.i 3)).getD (I 0)=I (c3:Nat):=by rw [hE,List.take_length,ct_get,hc3]
 have hdel:∀(j:Nat) (h:j<p.decls.length),(p.decls.map decL)[(j:Int).toNat]? = some (decL p.decls[j]):=fun j h=>by simp [h]
 clear hc0 hc1 hc2 hc3 hE
 have hS0:bdS p E 0=⟨[(20,.d (I (0:Nat))),(19,.d (I ((p.decls.map decL).length:Nat))),(18,.d (.slice 3 (p.decls.map decL) false)),(3,.hnd 3),(1,.ptr 2 0)],(3,.map (some .i64) [])::sHp p,4,[],2⟩:=by rw [bdS,← hE0]
 refine SatE_by is_check_search_bound rfl ?_
 by_cases h16:16<p.funs.length
 ·rw [b0 h16]
  have h17:(16:Int)<((p.funs.map fuL).length:Nat):=by omega
  repeat (first|refine aw ?_|refine f1 ?_|refine m1 ?_)
  refine WT_eret 2 rfl rfl ?_
  exact Uw.wM
 have ball:=ball h16
 have h17:¬(16:Int)<((p.funs.map fuL).length:Nat):=by omega
 repeat (first|refine aw ?_|refine f1 ?_|refine m1 ?_)
 refine WT_for p.decls.length (bdS p E) (fun _=>True) (wk_eq hS0 ?_) (fun _=>?_) (fun j hj _=>?_)
 ·exact Uw.wM
 rotate_left 1
 ·have he:=hdel j hj
  obtain ⟨c,hcl,hcg,hcs⟩:=hst j hj
  clear hdel hst
  generalize p.decls[j]=d at *
  obtain ⟨dk,ds,dn⟩:=d
  have he:(p.decls.map decL)[(j:Int).toNat]? = some [I dk,.str ds,I dn]:=he
  simp only at hcg hcs
  repeat (first|refine aw ?_|refine f1 ?_)
  refine WT_mdef (I 0) _ hcg ?_
  repeat (first|refine aw ?_|refine f1 ?_)
  exact WT_next j trivial (by exact Uw.wM)
 by_cases q1:16<c0
 ·rw [b1 q1]
  have q1' : (16:Int)<(c0:Nat):=by omega
  repeat (first|refine aw ?_|refine f1 ?_)
  refine WT_break ?_
  repeat (first|refine aw ?_|refine f1 ?_)
  refine WT_mdef (I 0) _ hg0 ?_
  repeat (first|refine aw ?_|refine f1 ?_)
  refine WT_eret 2 rfl rfl ?_
  exact Uw.wM
 have q1' : ¬(16:Int)<(c0:Nat):=by omega
 by_cases q2:8<c1
 ·rw [b2 q2]
  have q2' : (8:Int)<(c1:Nat):=by omega
  repeat (first|refine aw ?_|refine f1 ?_)
  refine WT_break ?_
  repeat (first|refine aw ?_|refine f1 ?_)
  refine WT_mdef (I 0) _ hg0 ?_
  repeat (first|refine aw ?_|refine f1 ?_)
  refine WT_mdef (I 0) _ hg1 ?_
  repeat (first|refine aw ?_|refine f1 ?_)
  refine WT_eret 2 rfl rfl ?_
  exact Uw.wM
 have q2' : ¬(8:Int)<(c1:Nat):=by omega
 by_cases q3:8<c2
 ·rw [b3 q3]
  have q3' : (8:Int)<(c2:Nat):=by omega
  repeat (first|refine aw ?_|refine f1 ?_)
  refine WT_break ?_
  repeat (first|refine aw ?_|refine f1 ?_)
  refine WT_mdef (I 0) _ hg0 ?_
  repeat (first|refine aw ?_|refine f1 ?_)
  refine WT_mdef (I 0) _ hg1 ?_
  repeat (first|refine aw ?_|refine f1 ?_)
  refine WT_mdef (I 0) _ hg2 ?_
  repeat (first|refine aw ?_|refine f1 ?_)
  refine WT_eret 2 rfl rfl ?_
  exact Uw.wM
 have q3' : ¬(8:Int)<(c2:Nat):=by omega
 by_cases q4:8<c3
 ·rw [b4 q4]
  have q4' : (8:Int)<(c3:Nat):=by omega
  repeat (first|refine aw ?_|refine f1 ?_)
  refine WT_break ?_
  repeat (first|refine aw ?_|refine f1 ?_)
  refine WT_mdef (I 0) _ hg0 ?_
  repeat (first|refine aw ?_|refine f1 ?_)
  refine WT_mdef (I 0) _ hg1 ?_
  repeat (first|refine aw ?_|refine f1 ?_)
  refine WT_mdef (I 0) _ hg2 ?_
  repeat (first|refine aw ?_|refine f1 ?_)
  refine WT_mdef (I 0) _ hg3 ?_
  repeat (first|refine aw ?_|refine f1 ?_)
  refine WT_eret 2 rfl rfl ?_
  exact Uw.wM
 have q4' : ¬(8:Int)<(c3:Nat):=by omega
 have ball:=ball q1 q2 q3 q4
 have hlel:∀(j:Nat) (h:j<(localsP p).length),((localsP p).map fun l=>[strsC l])[(j:Int).toNat]? = some [.slice 1 ((localsP p)[j].map fun s=>[Dat.str s]) false]:=fun j h=>by simp [h];rfl
 have hnel:∀(j:Nat) (h:j<p.nodes.length),(p.nodes.map ndL)[(j:Int).toNat]? = some (ndL p.nodes[j]):=fun j h=>by simp [h]
 repeat (first|refine aw ?_|refine f1 ?_)
 refine WT_break ?_
 repeat (first|refine aw ?_|refine f1 ?_)
 refine WT_mdef (I 0) _ hg0 ?_
 repeat (first|refine aw ?_|refine f1 ?_)
 refine WT_mdef (I 0) _ hg1 ?_
 repeat (first|refine aw ?_|refine f1 ?_)
 refine WT_mdef (I 0) _ hg2 ?_
 repeat (first|refine aw ?_|refine f1 ?_)
 refine WT_mdef (I 0) _ hg3 ?_
 repeat (first|refine aw ?_|refine f1 ?_)
 clear hst hdel hg0 hg1 hg2 hg3 hS0 b0 b1 b2 b3 b4
 refine WT_for (localsP p).length (fun j:Nat=>⟨[(51,.d (I j)),(50,.d (I (((localsP p).map fun l=>[strsC l]).length:Nat))),(49,.d (strssD (localsP p))),(1,.ptr 2 0)],sHp p,3,[],2⟩) (fun j=>∀h:j<(localsP p).length,¬16<(localsP p)[j].length) (by exact Uw.wM) (fun g5=>?_) (fun j hj _=>?_)
 rotate_left 1
 ·have he:=hlel j hj
  have b5:=b5 j hj
  have hgd:¬16<(localsP p)[j].length→(fun j=>∀h:j<(localsP p).length,¬16<(localsP p)[j].length) j:=fun h _=>h
  clear hlel ball b6
  generalize (localsP p)[j]=l at *
  have hl:(l.map fun s=>[Dat.str s]).length=l.length:=by simp
  by_cases q:16<l.length
  ·rw [b5 q]
   have q' : (16:Int)<((l.map fun s=>[Dat.str s]).length:Nat):=by omega
   repeat (first|refine aw ?_|refine f1 ?_)
   refine WT_leave (WT_eret 2 rfl rfl ?_)
   exact Uw.wM
  ·have hgd:=hgd q
   have q' : ¬(16:Int)<((l.map fun s=>[Dat.str s]).length:Nat):=by omega
   repeat (first|refine aw ?_|refine f1 ?_)
   exact WT_next j hgd (by exact Uw.wM)
 have ball:=ball fun j h=>g5 j h h
 clear g5 b5 hlel
 repeat (first|refine aw ?_|refine f1 ?_)
 refine WT_break ?_
 repeat (first|refine aw ?_|refine f1 ?_)
 refine WT_for p.nodes.length (fun j:Nat=>⟨[(63,.d (I j)),(62,.d (I ((p.nodes.map ndL).length:Nat))),(61,.d (nodesD p.nodes))],sHp p,3,[],2⟩) (fun j=>∀h:j<p.nodes.length,¬(p.nodes[j].kind=10∧16<p.nodes[j].of.length)) (by exact Uw.wM) (fun g6=>?_) (fun j hj _=>?_)
 ·rw [ball fun j h=>g6 j h h]
  repeat (first|refine aw ?_|refine f1 ?_)
  refine WT_break ?_
  repeat (first|refine aw ?_|refine f1 ?_)
  refine WT_eret 2 rfl rfl ?_
  exact Uw.wM
 have he:=hnel j hj
 have b6:=b6 j hj
 have hgd:¬(p.nodes[j].kind=10∧16<p.nodes[j].of.length)→(fun j=>∀h:j<p.nodes.length,¬(p.nodes[j].kind=10∧16<p.nodes[j].of.length)) j:=fun h _=>h
 clear hnel ball
 generalize p.nodes[j]=x at *
 obtain ⟨xk,xn,xs,xt,xo⟩:=x
 have he:(p.nodes.map ndL)[(j:Int).toNat]? = some [I xk,I xn,.str xs,.str xt,.slice 1 (xo.map fun i=>[I i]) false]:=he
 simp only at b6 hgd
 have hol:(xo.map fun i=>[I i]).length=xo.length:=by simp
 by_cases k10:xk=10
 ·by_cases q:16<xo.length
  ·rw [b6 ⟨k10,q⟩]
   have q' : (16:Int)<((xo.map fun i=>[I i]).length:Nat):=by omega
   subst k10
   repeat (first|refine aw ?_|refine f1 ?_)
   refine WT_leave (WT_eret 2 rfl rfl ?_)
   exact Uw.wM
  ·have hgd1:=hgd (fun h=>q h.2)
   have q' : ¬(16:Int)<((xo.map fun i=>[I i]).length:Nat):=by omega
   subst k10
   repeat (first|refine aw ?_|refine f1 ?_)
   exact WT_next j hgd1 (by exact Uw.wM)
 ·have hgd1:=hgd (fun h=>k10 h.1)
  repeat (first|refine aw ?_|refine f1 ?_)
  exact WT_next j hgd1 (by exact Uw.wM)
end Uw.Tryz
