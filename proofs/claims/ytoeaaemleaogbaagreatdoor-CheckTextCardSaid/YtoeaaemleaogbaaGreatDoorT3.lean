/- T3: Ce Cf Cb Da Cg Ch Ci Dj Db Ea Eb Ck Cj Cl Cm Cn Co (merged by merge2.py from the working texts). -/
import Derived.Test.YtoeaaemleaogbaaGreatDoorT2
import Derived.Test.YtoeaaemleaogbaaGreatDoorN3
import Derived.Test.YtoeaaemleaogbaaGreatDoorT1
import Derived.RangeFuncBound
import Derived.Shelf.Abstract
import Derived.OwnWalkIn
import Derived.TacticsInMore
import Derived.LoopNIn
import Derived.LoopIn
set_option linter.unusedSimpArgs false
set_option linter.unnecessarySimpa false
set_option linter.unusedVariables false
set_option linter.unusedSectionVars false
namespace Uw.Tryz
open Go Uw
def nodesD (ns:List Nd):Dat:=.slice 5 (ns.map ndL) false
theorem sortsOf_len (ns:List Nd) (x:Nd):(sortsOf ns x).length=x.of.length:=by simp [sortsOf]
theorem row_grows (ns:List Nd) (x:Nd) (hk:∀k∈x.of,0≤k∧k<ns.length):∃A:Nat→List (List Dat),A 0=[]∧
  (∀(j:Nat) (h:j<x.of.length),∃(k:Int) (y:Nd),(x.of.map fun i=>[I i])[(j:Int).toNat]? = some [I k]∧0≤k∧k<ns.length∧(ns.map ndL)[k.toNat]? = some (ndL y)∧A j++[[I (sortI y.kind)]]=A (j+1)∧(A j).length=j)∧
  A x.of.length=(sortsOf ns x).map fun i=>[I i]:=by
 refine ⟨fun j=>((sortsOf ns x).take j).map fun i=>[I i],rfl,fun j h=>?_,by dsimp only;rw [← sortsOf_len ns x,List.take_length]⟩
 obtain ⟨h1,h2⟩:=hk x.of[j] (List.getElem_mem h)
 have h3:x.of[j].toNat<ns.length:=by omega
 refine ⟨x.of[j],ns[x.of[j].toNat],by simp [h],h1,h2,by simp [h3],?_,by simp [sortsOf_len];omega⟩
 have h4:j<(sortsOf ns x).length:=by rw [sortsOf_len];exact h
 dsimp only
 rw [List.take_succ_eq_append_getElem h4,List.map_append]
 simp [sortsOf,kindAt,List.getD,h3]
set_option maxRecDepth 4000 in
set_option maxHeartbeats 4000000 in
theorem s_check_shaped (ns:List Nd) (x:Nd) (hk:∀k∈x.of,0≤k∧k<ns.length) (hl:x.of.length<1000000):Ret P0 n_check_shaped [nodesD ns,.agg (ndL x)] (.bool (shapedF ns x)):=by
 have hoE:intsD x.of = .slice 1 (x.of.map fun i=>[I i]) false:=rfl
 have ho:(x.of.map fun i=>[I i]).length=x.of.length:=by simp
 have hnl:(ns.map ndL).length=ns.length:=by simp
 obtain ⟨A,hA0,hA1,hA2⟩:=row_grows ns x hk
 have hare:∀(d:Dat) (b:List Int),Row1 d b→SatE P0 n_check_shaped_1 [.d d,.ptr 0 0] [.var [.ref 1 0 0 x.of.length],.arr 1 (A x.of.length)] (.d (.bool (decide (sortsOf ns x=b)))) [.var [.ref 1 0 0 x.of.length],.arr 1 (A x.of.length)]:=by
  intro d b h
  have:=s_check_are d (sortsOf ns x) b (by rw [sortsOf_len];exact hl) h
  rw [ofB,sortsOf_len,← hA2] at this
  exact this
 have hall:∀(s:Int),SatE P0 n_check_shaped_2 [.d (I s),.ptr 0 0] [.var [.ref 1 0 0 x.of.length],.arr 1 (A x.of.length)] (.d (.bool ((sortsOf ns x).all fun x=>decide (x=s)))) [.var [.ref 1 0 0 x.of.length],.arr 1 (A x.of.length)]:=by
  intro s
  have:=s_check_all s (sortsOf ns x) (by rw [sortsOf_len];exact hl)
  rw [ofB,sortsOf_len,← hA2] at this
  exact this
 have hsort:=s_check_sort
 have hR:shapedF ns x=shapedS x.kind x.n (sortsOf ns x) (kindAt ns (x.of.headD 0)):=rfl
 rw [hR]
 have h17:sortsOf ns x=[1]→∃(k:Int) (y:Nd),(x.of.map fun i=>[I i])[(0:Int).toNat]? = some [I k]∧0≤k∧k<ns.length∧0<x.of.length∧(ns.map ndL)[k.toNat]? = some (ndL y)∧kindAt ns (x.of.headD 0)=y.kind:=by
  intro h
  have hlen:=sortsOf_len ns x
  rw [h] at hlen
  cases hof:x.of with
  | nil=>rw [hof] at hlen;cases hlen
  | cons k r=>
   obtain ⟨h1,h2⟩:=hk k (by rw [hof];simp)
   have h3:k.toNat<ns.length:=by omega
   exact ⟨k,ns[k.toNat],rfl,h1,h2,by simp,by simp [h3],by simp [kindAt,List.getD,h3]⟩
 have h17:∃(k:Int) (y:Nd),sortsOf ns x=[1]→((x.of.map fun i=>[I i])[(0:Int).toNat]? = some [I k]∧0≤k∧k<ns.length∧0<x.of.length∧(ns.map ndL)[k.toNat]? = some (ndL y)∧kindAt ns (x.of.headD 0)=y.kind):=by
  by_cases h:sortsOf ns x=[1]
  ·obtain ⟨k,y,h⟩:=h17 h
   exact ⟨k,y,fun _=>h⟩
  ·exact ⟨0,default,fun e=>absurd e h⟩
 obtain ⟨k7,y7,h17⟩:=h17
 generalize sortsOf ns x=so at *
 generalize kindAt ns (x.of.headD 0)=k0 at *
 obtain ⟨kind,n,name,name2,of⟩:=x
 simp only at *
 clear hk hR hA2
 show Ret P0 n_check_shaped [nodesD ns,.agg [I kind,I n,.str name,.str name2,.slice 1 (of.map fun i=>[I i]) false]] _
 clear hoE
 generalize of.length=L at *
 generalize (of.map fun i=>[I i])=O at *
 refine Ret_by is_check_shaped rfl ?_
 repeat refine aw ?_
 refine WT_loop (fun j:Nat=>⟨[(13,.d (I j)),(12,.d (I (O.length))),(11,.d (.slice 1 O false)),(5,.ptr 1 0),(3,.ptr 0 0),(0,.d (nodesD ns))],[(2,.arr 1 (A j)),(1,.var [.ref 2 0 0 j]),(0,.var [.d (I kind),.d (I n),.d (.str name),.d (.str name2),.d (.slice 1 O false)])],3,[],0⟩)
  (fun j=>j≤L) (fun j=>L - j) 0 (by rw [hA0];exact Uw.wW) (by omega) ?_
 intro j hj
 by_cases h1:j<L
 ·obtain ⟨k,y,e1,h2,h3,e2,e3,e4⟩:=hA1 j h1
  have hs:=hsort y.kind
  have h8:(decide (j=(A j).length)&&decide ((j+((List.replicate 1 [Dat.int IntKind.i64 0]).set 0 [I (sortI y.kind)]).length) * 8≤70368744177664))=true:=by simp [e4];omega
  repeat refine aw ?_
  exact WT_again (j+1) (by omega) (by omega) (by exact Uw.wW)
 ·obtain rfl:j=L:=by omega
  repeat refine aw ?_
  refine WT_break ?_
  ((repeat' first|refine aw ?_|refine bw (fun _=>?_) fun _=>?_))
  ·rename_i h
   refine WT_frE 3 [1,2] (hare .nil [] (.inl ⟨rfl,rfl⟩)) ?_
   subst h
   ((repeat' first|refine aw ?_|refine bw (fun _=>?_) fun _=>?_))
   all_goals refine WT_ret rfl rfl rfl rfl ?_
   all_goals first|(simp_all [shapedS,packD];done)|(simp_all [shapedS,packD];omega)
  iterate 2
   ·rename_i h
    refine WT_frE 3 [1,2] (hare .nil [] (.inl ⟨rfl,rfl⟩)) ?_
    repeat refine aw ?_
    refine WT_ret rfl rfl rfl rfl ?_
    subst h;rfl
  iterate 6
   ·rename_i h
    refine WT_frE 3 [1,2] (hare _ [1,1] (.inr ⟨true,rfl⟩)) ?_
    repeat refine aw ?_
    refine WT_ret rfl rfl rfl rfl ?_
    subst h;rfl
  iterate 2
   ·rename_i h
    refine WT_frE 3 [1,2] (hall 1) ?_
    repeat refine aw ?_
    refine WT_ret rfl rfl rfl rfl ?_
    subst h;rfl
  iterate 3
   ·rename_i h
    refine WT_frE 3 [1,2] (hare _ [1] (.inr ⟨true,rfl⟩)) ?_
    repeat refine aw ?_
    refine WT_ret rfl rfl rfl rfl ?_
    subst h;rfl
  ·rename_i h
   refine WT_frE 3 [1,2] (hare _ [1] (.inr ⟨true,rfl⟩)) ?_
   by_cases h5:so=[1]
   ·have e1:=(h17 h5).1
    have e2:=(h17 h5).2.1
    have e3:=(h17 h5).2.2.1
    have e4:=(h17 h5).2.2.2.1
    have e5:=(h17 h5).2.2.2.2.1
    have e6:=(h17 h5).2.2.2.2.2
    repeat refine aw ?_
    refine WT_ret rfl rfl rfl rfl ?_
    rw [h,h5,e6];rfl
   ·repeat refine aw ?_
    refine WT_ret rfl rfl rfl rfl ?_
    rw [h];show Dat.bool false=Dat.bool (decide (so=[1])&&_)
    rw [decide_eq_false h5];rfl
  ·rename_i h
   refine WT_frE 3 [1,2] (hare _ [1,3] (.inr ⟨true,rfl⟩)) ?_
   by_cases h5:so=[1,3]
   ·repeat refine aw ?_
    refine WT_ret rfl rfl rfl rfl ?_
    rw [h];show Dat.bool true=Dat.bool (decide (so=[1,3])||_)
    rw [decide_eq_true h5];rfl
   ·repeat refine aw ?_
    refine WT_frE 3 [1,2] (hare _ [1,3,3] (.inr ⟨true,rfl⟩)) ?_
    repeat refine aw ?_
    refine WT_ret rfl rfl rfl rfl ?_
    rw [h];show Dat.bool (decide (so=[1,3,3]))=Dat.bool (decide (so=[1,3])||_)
    rw [decide_eq_false h5];rfl
  ·rename_i h
   refine WT_frE 3 [1,2] (hare _ [1,3] (.inr ⟨true,rfl⟩)) ?_
   repeat refine aw ?_
   refine WT_ret rfl rfl rfl rfl ?_
   subst h;rfl
  ·rename_i h
   refine WT_frE 3 [1,2] (hall 2) ?_
   repeat refine aw ?_
   refine WT_ret rfl rfl rfl rfl ?_
   subst h;rfl
  ·refine WT_ret rfl rfl rfl rfl ?_
   show Dat.bool false=_
   rw [shapedS,if_neg (by omega),if_neg (by omega),if_neg (by omega),if_neg (by omega),if_neg (by omega),if_neg (by omega),if_neg (by omega),if_neg (by omega),if_neg (by omega)]
end Uw.Tryz
namespace Uw.Tryz
open Go Uw
structure Lim (p:Pg):Prop where
 nodes:p.nodes.length<100000
 funs:p.funs.length<100000
 decls:p.decls.length<100000
 of:∀x∈p.nodes,x.of.length<100000
 args:∀f∈p.funs,f.args.length<100000
def cntL (L:List Int) (n:Nat):List Int:=(List.range n).map fun (k:Nat)=>((L.count (k:Int):Nat):Int)
theorem cnt_len (L:List Int) (n:Nat):(cntL L n).length=n:=by simp [cntL]
theorem cnt_get (L:List Int) (n k:Nat) (h:k<n):(cntL L n)[k]'(by rw [cnt_len];exact h)=(L.count (k:Int):Nat):=by simp [cntL]
theorem cnt_set (L:List Int) (n:Nat) (k:Int) (h0:0≤k) (h:k<n):(cntL L n).set k.toNat (((L.count k:Nat):Int)+1)=cntL (L++[k]) n:=by
 have hk:k.toNat<n:=by omega
 have hkk:((k.toNat:Nat):Int)=k:=by omega
 apply List.ext_getElem
 ·simp [cntL]
 ·intro i h1 h2
  have hi:i<n:=by rw [cnt_len] at h2;exact h2
  rw [cnt_get _ _ _ hi,List.count_append]
  by_cases he:i=k.toNat
  ·subst he
   rw [List.getElem_set_self,hkk];simp
  ·rw [List.getElem_set_ne (Ne.symm he),cnt_get _ _ _ hi]
   have:¬k=(i:Int):=by omega
   simp [List.count_cons,this]
theorem cnt_nil (n:Nat):cntL [] n=List.replicate n 0:=by
 apply List.ext_getElem
 ·simp [cntL]
 ·intro i h1 h2;simp [cntL]
def rowI (l:List Int):List (List Dat):=l.map fun i=>[I i]
theorem row_at {L:List Int} {n:Nat} {k:Int} (h0:0≤k) (h:k<n):(rowI (cntL L n))[k.toNat]? = some [I (L.count k:Nat)]:=by
 have hk:k.toNat<n:=by omega
 have hkk:((k.toNat:Nat):Int)=k:=by omega
 rw [rowI,List.getElem?_map,List.getElem?_eq_getElem (by rw [cnt_len];exact hk),cnt_get _ _ _ hk,hkk];rfl
theorem row_set {L:List Int} {n:Nat} {k:Int} (h0:0≤k) (h:k<n):(rowI (cntL L n)).set k.toNat [I (((L.count k:Nat):Int)+1)]=rowI (cntL (L++[k]) n):=by
 rw [← cnt_set L n k h0 h,rowI,rowI,List.map_set]
theorem row_len (L:List Int) (n:Nat):(rowI (cntL L n)).length=n:=by rw [rowI,List.length_map,cnt_len]
theorem row_sum {l:List Nd} (h:∀x∈l,x.of.length<100000):(l.flatMap (·.of)).length≤l.length * 100000:=by
 induction l with
 | nil=>simp
 | cons x l ih=>
  have h1:=h x (by simp)
  have h2:=ih fun y hy=>h y (by simp [hy])
  rw [List.flatMap_cons,List.length_append,List.length_cons,Nat.add_mul]
  omega
theorem uses_few {p:Pg} (hp:Lim p):(usesL p).length<100000000000:=by
 have h1:=row_sum hp.of
 have h2:=hp.nodes
 have h3:=hp.funs
 rw [usesL,List.length_append,List.length_map]
 omega
def usesTo (ns:List Nd) (i:Nat):List Int:=(ns.take i).flatMap (·.of)
theorem usesTo_succ {ns:List Nd} {i:Nat} (h:i<ns.length):usesTo ns (i+1)=usesTo ns i++ns[i].of:=by
 rw [usesTo,List.take_succ_eq_append_getElem h,List.flatMap_append];simp [usesTo]
theorem nodesOK_at {ns:List Nd}:∀{l:List Nd} {b:Nat},nodesOK ns b l=true↔∀(i:Nat) (h:i<l.length),nodeOK ns (b+i) l[i]=true
 | [],b=>by simp [nodesOK]
 | x::l,b=>by
  simp only [nodesOK,Bool.and_eq_true]
  rw [nodesOK_at]
  constructor
  ·rintro ⟨h1,h2⟩ i hi
   cases i with
   | zero=>exact h1
   | succ i=>have:=h2 i (by simpa using hi);rw [show b+(i+1)=b+1+i by omega];exact this
  ·intro h
   refine ⟨h 0 (by simp),fun i hi=>?_⟩
   have:=h (i+1) (by simpa using hi)
   rw [show b+1+i=b+(i+1) by omega];exact this
theorem inc_row (U:List Int) (n:Nat) (k:Int) (h0:0≤k) (h:k<n):∃c:Int,(rowI (cntL U n))[0+k.toNat]? = some [I c]∧(rowI (cntL U n)).set (0+k.toNat) (setAt [I c] 0 [I (c+1)])=rowI (cntL (U++[k]) n)∧0≤c∧c≤U.length:=by
 refine ⟨(U.count k:Nat),by rw [Nat.zero_add];exact row_at h0 h,by rw [Nat.zero_add];exact row_set h0 h,by omega,?_⟩
 have:=List.count_le_length (a:=k) (l:=U)
 omega
theorem usesTo_few {p:Pg} (hp:Lim p) (i:Nat):(usesTo p.nodes i).length<10000000000:=by
 have h1:=row_sum (l:=p.nodes.take i) fun x hx=>hp.of x (List.mem_of_mem_take hx)
 have h2:=hp.nodes
 have h3:(p.nodes.take i).length≤p.nodes.length:=by simp;omega
 unfold usesTo
 omega
structure FormedFacts (p:Pg) (R:Bool):Prop where
 kid:∀(i:Nat) (h:i<p.nodes.length) (k:Int),k∈p.nodes[i].of→¬(0≤k∧k<i)→R=false
 shape:∀(i:Nat) (h:i<p.nodes.length),shapedF p.nodes p.nodes[i]=false→R=false
 body:∀(i:Nat) (h:i<p.funs.length),bodyOK p.nodes p.funs[i]=false→R=false
 time:∀(k:Nat),k<p.nodes.length→(usesL p).count (k:Int)≠1→R=false
 all:(∀(i:Nat) (h:i<p.nodes.length),(∀k∈p.nodes[i].of,0≤k∧k<i)∧shapedF p.nodes p.nodes[i]=true)→(∀(i:Nat) (h:i<p.funs.length),bodyOK p.nodes p.funs[i]=true)→(∀(k:Nat),k<p.nodes.length→(usesL p).count (k:Int)=1)→R=true
theorem formed_facts (p:Pg):FormedFacts p (formedP p):=by
 have key:formedP p=true↔(∀(i:Nat) (h:i<p.nodes.length),nodeOK p.nodes i p.nodes[i]=true)∧(∀f∈p.funs,bodyOK p.nodes f=true)∧∀(k:Nat),k<p.nodes.length→(usesL p).count (k:Int)=1:=by
  simp only [formedP,Bool.and_eq_true,nodesOK_at,List.all_eq_true,and_assoc,Nat.zero_add,decide_eq_true_eq,List.mem_range]
 have hno:∀(i:Nat) (h:i<p.nodes.length),nodeOK p.nodes i p.nodes[i]=true↔(∀k∈p.nodes[i].of,0≤k∧k<i)∧shapedF p.nodes p.nodes[i]=true:=by
  intro i h
  simp [nodeOK,Bool.and_eq_true,List.all_eq_true]
 have no:∀{P:Prop},(formedP p=true→P)→¬P→formedP p=false:=fun h1 h2=>by
  rw [Bool.eq_false_iff];exact fun e=>h2 (h1 e)
 refine ⟨fun i h k hk hb=>no (fun e=>((hno i h).1 ((key.1 e).1 i h)).1 k hk) hb,fun i h hs=>no (fun e=>((hno i h).1 ((key.1 e).1 i h)).2) (by simp [hs]),fun i h hs=>no (fun e=>(key.1 e).2.1 _ (List.getElem_mem h)) (by simp [hs]),fun k hk hc=>no (fun e=>(key.1 e).2.2 k hk) hc,fun h1 h2 h3=>key.2 ⟨fun i h=>(hno i h).2 (h1 i h),fun f hf=>?_,h3⟩⟩
 obtain ⟨i,hi,rfl⟩:=List.mem_iff_getElem.1 hf
 exact h2 i hi
set_option maxRecDepth 4000 in
set_option maxHeartbeats 4000000 in
theorem s_check_Formed (p:Pg) (hp:Lim p):Ret P0 n_check_Formed [pgD p] (.bool (formedP p)):=by
 have hF:=formed_facts p
 have hfew:=uses_few hp
 have hN:=hp.nodes
 have hFl:=hp.funs
 generalize formedP p=R at *
 have hnl:(p.nodes.map ndL).length=p.nodes.length:=by simp
 have hfl:(p.funs.map fuL).length=p.funs.length:=by simp
 obtain ⟨T,hT⟩:∃T:Nat→List (List Dat),∀i,T i=rowI (cntL (usesTo p.nodes i) p.nodes.length):=⟨_,fun _=>rfl⟩
 have e0:List.replicate (((p.nodes.map ndL).length:Nat):Int).toNat [I 0]=T 0:=by
  rw [hT,show usesTo p.nodes 0=[] from rfl,cnt_nil,rowI,List.map_replicate,hnl];simp
 have hmk:(decide ((0:Int)≤((p.nodes.map ndL).length:Nat))&&decide ((((p.nodes.map ndL).length:Nat):Int)≤((p.nodes.map ndL).length:Nat))&&decide ((((p.nodes.map ndL).length:Nat):Int) * ((8:Nat):Int)≤70368744177664))=true:=by simp;omega
 refine Ret_by is_check_Formed rfl ?_
 repeat refine aw ?_
 refine WT_loop (fun i:Nat=>⟨[(19,.d (I i)),(18,.d (I ((p.nodes.map ndL).length:Nat))),(17,.d (nodesD p.nodes)),(3,.ref 1 0 0 p.nodes.length),(1,.ptr 0 0)],[(1,.mt 1 0 (T i)),(0,.var [.d (.slice 3 (p.decls.map decL) false),.d (.slice 3 (p.funs.map fuL) false),.d (nodesD p.nodes)])],2,[],0⟩)
  (fun i=>i≤p.nodes.length∧∀(j:Nat) (h:j<p.nodes.length),j<i→(∀k∈p.nodes[j].of,0≤k∧k<j)∧shapedF p.nodes p.nodes[j]=true) (fun i=>p.nodes.length - i) 0 (by exact Uw.wM) ⟨by omega,fun j _ h=>by omega⟩ ?_
 rintro i ⟨hi,hok⟩
 by_cases hlt:i<p.nodes.length
 rotate_left
 ·repeat refine aw ?_
  refine WT_break ?_
  repeat refine aw ?_
  have hok2:∀(j:Nat) (h:j<p.nodes.length),(∀k∈p.nodes[j].of,0≤k∧k<j)∧shapedF p.nodes p.nodes[j]=true:=fun j h=>hok j h (by omega)
  obtain rfl:i=p.nodes.length:=by omega
  have hU:usesTo p.nodes p.nodes.length=p.nodes.flatMap (·.of):=by rw [usesTo,List.take_length]
  obtain ⟨T3,hT3⟩:∃T3:Nat→List (List Dat),∀j,T3 j=rowI (cntL (p.nodes.flatMap (·.of)++(p.funs.map (·.body)).take j) p.nodes.length):=⟨_,fun _=>rfl⟩
  have e3:T p.nodes.length=T3 0:=by rw [hT,hT3,hU];simp
  have e4:T3 p.funs.length=rowI (cntL (usesL p) p.nodes.length):=by
   rw [hT3,usesL,List.take_of_length_le (by simp)]
  have hstep:∀(j:Nat) (h:j<p.funs.length),0≤p.funs[j].body→p.funs[j].body<p.nodes.length→∃c:Int,(T3 j)[0+p.funs[j].body.toNat]? = some [I c]∧(T3 j).set (0+p.funs[j].body.toNat) (setAt [I c] 0 [I (c+1)])=T3 (j+1)∧0≤c∧c<100000000000:=by
   intro j h h0 h1
   obtain ⟨c,g1,g2,g3,g4⟩:=inc_row (p.nodes.flatMap (·.of)++(p.funs.map (·.body)).take j) p.nodes.length _ h0 h1
   refine ⟨c,by rw [hT3];exact g1,?_,g3,?_⟩
   ·rw [hT3,hT3,g2,List.take_succ_eq_append_getElem (by simpa using h),List.append_assoc,List.getElem_map]
   ·have:=usesTo_few hp p.nodes.length
    rw [hU] at this
    simp only [List.length_append,List.length_take,List.length_map] at g4
    omega
  have hbody:=hF.body
  have helF:∀(j:Nat) (h:j<p.funs.length),(p.funs.map fuL)[(j:Int).toNat]? = some (fuL p.funs[j]):=by intro j h;simp [h]
  have helN:∀(k:Int),0≤k→k<p.nodes.length→∃y:Nd,(p.nodes.map ndL)[k.toNat]? = some (ndL y)∧kindAt p.nodes k=y.kind:=by
   intro k h0 h1
   have h3:k.toNat<p.nodes.length:=by omega
   exact ⟨p.nodes[k.toNat],by simp [h3],by simp [kindAt,List.getD,h3]⟩
  clear hT e0 hT3 hi
  rw [e3]
  refine WT_for p.funs.length (fun j:Nat=>⟨[(54,.d (I j)),(53,.d (I ((p.funs.map fuL).length:Nat))),(52,.d (.slice 3 (p.funs.map fuL) false)),(3,.ref 1 0 0 p.nodes.length),(1,.ptr 0 0)],[(1,.mt 1 0 (T3 j)),(0,.var [.d (.slice 3 (p.decls.map decL) false),.d (.slice 3 (p.funs.map fuL) false),.d (nodesD p.nodes)])],2,[],0⟩)
   (fun j=>∀h:j<p.funs.length,bodyOK p.nodes p.funs[j]=true) (by exact Uw.wM) (fun hbd=>?_) (fun j hj hbd=>?_)
  ·have hbd:∀(j:Nat) (h:j<p.funs.length),bodyOK p.nodes p.funs[j]=true:=fun j h=>hbd j h h
   have hR:=hF.all hok2 hbd
   have htime:=hF.time
   have helT:∀(k:Nat) (h:k<p.nodes.length),(T3 p.funs.length)[0+(k:Int).toNat]? = some [I ((usesL p).count (k:Int):Nat)]:=by
    intro k h;rw [e4,Nat.zero_add];exact row_at (by omega) (by omega)
   have hTl:(T3 p.funs.length).length=p.nodes.length:=by rw [e4,row_len]
   repeat refine aw ?_
   refine WT_break ?_
   repeat refine aw ?_
   clear hF hok hok2 hbd helF helN hbody hstep
   refine WT_for p.nodes.length (fun k:Nat=>⟨[(89,.d (I k)),(88,.d (I (p.nodes.length:Nat))),(87,.ref 1 0 0 p.nodes.length)],[(1,.mt 1 0 (T3 p.funs.length))],2,[],0⟩)
    (fun k=>(usesL p).count (k:Int)=1) (by exact Uw.wM) (fun hc=>?_) (fun k hk hc=>?_)
   ·rw [hR hc]
    repeat refine aw ?_
    refine WT_break ?_
    repeat refine aw ?_
    exact WT_ret rfl rfl rfl rfl rfl
   have hel:=helT k hk
   have hti:=htime k hk
   by_cases h1:(usesL p).count (k:Int)=1
   ·rw [h1] at hel
    repeat refine aw ?_
    exact WT_next k h1 (by exact Uw.wM)
   ·rw [hti h1]
    have h2:¬(((usesL p).count (k:Int):Nat):Int)=1:=by omega
    clear hti
    generalize (((usesL p).count (k:Int):Nat):Int)=c at *
    repeat refine aw ?_
    refine WT_leave ?_
    exact WT_ret rfl rfl rfl rfl rfl
  have hb:=hbody j hj
  have hs:=hstep j hj
  have he:=helF j hj
  have hN2:=helN p.funs[j].body
  have hbk:bodyOK p.nodes p.funs[j]=(decide (0≤p.funs[j].body)&&decide (p.funs[j].body<p.nodes.length)&&decide (kindAt p.nodes p.funs[j].body=18)):=rfl
  have hnext:bodyOK p.nodes p.funs[j]=true→∀h:j<p.funs.length,bodyOK p.nodes p.funs[j]=true:=fun h _=>h
  rw [hbk] at hb hnext
  clear hbk hbody hstep helF helN
  generalize p.funs[j]=f at *
  obtain ⟨fn,fa,fb⟩:=f
  have he:(p.funs.map fuL)[(j:Int).toNat]? = some [.str fn,strsC fa,I fb]:=he
  simp only at *
  by_cases h0:fb<0
  ·rw [hb (by rw [decide_eq_false (by omega)];rfl)]
   repeat refine aw ?_
   refine WT_leave ?_
   exact WT_ret rfl rfl rfl rfl rfl
  by_cases h1:(p.nodes.length:Int)≤fb
  ·rw [hb (by rw [decide_eq_false (show ¬fb<p.nodes.length by omega),Bool.and_false];rfl)]
   repeat refine aw ?_
   refine WT_leave ?_
   exact WT_ret rfl rfl rfl rfl rfl
  obtain ⟨y,k1,k2⟩:=hN2 (by omega) (by omega)
  rw [k2,decide_eq_true (show 0≤fb by omega),decide_eq_true (show fb<p.nodes.length by omega)] at hb hnext
  by_cases h2:y.kind=18
  rotate_left
  ·rw [hb (by rw [decide_eq_false h2];rfl)]
   repeat refine aw ?_
   refine WT_leave ?_
   exact WT_ret rfl rfl rfl rfl rfl
  have hnext:=hnext (by rw [decide_eq_true h2];rfl)
  obtain ⟨c,g1,g2,g3,g4⟩:=hs (by omega) (by omega)
  repeat refine aw ?_
  exact WT_next j hnext (by exact Uw.wM)
 have hx:=hp.of p.nodes[i] (List.getElem_mem hlt)
 have hkid:=hF.kid i hlt
 have hshp:=hF.shape i hlt
 have hsh:=fun (hh:∀k∈p.nodes[i].of,0≤k∧k<(p.nodes.length:Int))=>s_check_shaped p.nodes p.nodes[i] hh (by omega)
 have hnew:(∀k∈p.nodes[i].of,0≤k∧k<(i:Int))→shapedF p.nodes p.nodes[i]=true→∀(j:Nat) (h:j<p.nodes.length),j<i+1→(∀k∈p.nodes[j].of,0≤k∧k<(j:Int))∧shapedF p.nodes p.nodes[j]=true:=by
  intro h1 h2 j h hj
  by_cases he:j=i
  ·subst he;exact ⟨h1,h2⟩
  ·exact hok j h (by omega)
 obtain ⟨T2,hT2⟩:∃T2:Nat→List (List Dat),∀j,T2 j=rowI (cntL (usesTo p.nodes i++p.nodes[i].of.take j) p.nodes.length):=⟨_,fun _=>rfl⟩
 have e1:T i=T2 0:=by rw [hT,hT2];simp
 have e2:T2 p.nodes[i].of.length=T (i+1):=by rw [hT,hT2,List.take_length,usesTo_succ hlt]
 have hstep:∀(j:Nat) (h:j<p.nodes[i].of.length),0≤p.nodes[i].of[j]→p.nodes[i].of[j]<p.nodes.length→∃c:Int,(T2 j)[0+p.nodes[i].of[j].toNat]? = some [I c]∧(T2 j).set (0+p.nodes[i].of[j].toNat) (setAt [I c] 0 [I (c+1)])=T2 (j+1)∧0≤c∧c<100000000000:=by
  intro j h h0 h1
  obtain ⟨c,g1,g2,g3,g4⟩:=inc_row (usesTo p.nodes i++p.nodes[i].of.take j) p.nodes.length _ h0 h1
  refine ⟨c,by rw [hT2];exact g1,?_,g3,?_⟩
  ·rw [hT2,hT2,g2,List.take_succ_eq_append_getElem h,List.append_assoc]
  ·have:=usesTo_few hp i
   simp at g4;omega
 have hel:(p.nodes.map ndL)[(i:Int).toNat]? = some (ndL p.nodes[i]):=by simp [hlt]
 have hmem:∀(j:Nat) (h:j<p.nodes[i].of.length),p.nodes[i].of[j]∈p.nodes[i].of:=fun j h=>List.getElem_mem h
 have hall:(∀(j:Nat) (h:j<p.nodes[i].of.length),0≤p.nodes[i].of[j]∧p.nodes[i].of[j]<(i:Int))→∀k∈p.nodes[i].of,0≤k∧k<(i:Int):=by
  intro h k hk
  obtain ⟨j,hj,rfl⟩:=List.mem_iff_getElem.1 hk
  exact h j hj
 generalize p.nodes[i]=x at *
 have hol:(x.of.map fun i=>[I i]).length=x.of.length:=by simp
 have hoe:∀(j:Nat) (h:j<x.of.length),(x.of.map fun i=>[I i])[(j:Int).toNat]? = some [I x.of[j]]:=by intro j h;simp [h]
 repeat refine aw ?_
 refine WT_loop (fun j:Nat=>⟨[(27,.d (I j)),(26,.d (I ((x.of.map fun i=>[I i]).length:Nat))),(25,.d (intsD x.of)),(4,.d (I i)),(5,.ptr 2 0),(19,.d (I i)),(18,.d (I ((p.nodes.map ndL).length:Nat))),(17,.d (nodesD p.nodes)),(3,.ref 1 0 0 p.nodes.length),(1,.ptr 0 0)],[(2,.var [.d (I x.kind),.d (I x.n),.d (.str x.name),.d (.str x.name2),.d (intsD x.of)]),(1,.mt 1 0 (T2 j)),(0,.var [.d (.slice 3 (p.decls.map decL) false),.d (.slice 3 (p.funs.map fuL) false),.d (nodesD p.nodes)])],3,[],0⟩)
  (fun j=>j≤x.of.length∧∀(m:Nat) (h:m<x.of.length),m<j→0≤x.of[m]∧x.of[m]<(i:Int)) (fun j=>x.of.length - j) 0 (by exact Uw.wM) ⟨by omega,fun m _ h=>by omega⟩ ?_
 rintro j ⟨hj,hpre⟩
 by_cases hjl:j<x.of.length
 ·have hk:=hkid x.of[j] (hmem j hjl)
  have hs:=hstep j hjl
  have he:=hoe j hjl
  have hpre2:0≤x.of[j]∧x.of[j]<(i:Int)→∀(m:Nat) (h:m<x.of.length),m<j+1→0≤x.of[m]∧x.of[m]<(i:Int):=by
   intro h1 m h hm
   by_cases h2:m=j
   ·subst h2;exact h1
   ·exact hpre m h (by omega)
  clear hpre hoe hmem hstep hkid hall
  generalize x.of[j]=k at *
  by_cases h0:k<0
  ·rw [hk (by omega)]
   repeat refine aw ?_
   exact WT_leave (WT_leave (WT_ret rfl rfl rfl rfl rfl))
  by_cases h1:(i:Int)≤k
  ·rw [hk (by omega)]
   repeat refine aw ?_
   exact WT_leave (WT_leave (WT_ret rfl rfl rfl rfl rfl))
  obtain ⟨c,g1,g2,g3,g4⟩:=hs (by omega) (by omega)
  have hpre3:=hpre2 (by omega)
  repeat refine aw ?_
  exact WT_again (j+1) ⟨by omega,hpre3⟩ (by omega) (by exact Uw.wM)
 obtain rfl:j=x.of.length:=by omega
 have hsh2:=hsh fun k hk=>by have:=hall (fun m h=>hpre m h h) k hk;omega
 have hnew2:=hnew (hall fun m h=>hpre m h h)
 by_cases hs:shapedF p.nodes x=true
 ·rw [hs] at hsh2
  have hnew3:=hnew2 hs
  repeat refine aw ?_
  refine WT_break ?_
  repeat refine aw ?_
  exact WT_again (i+1) ⟨by omega,hnew3⟩ (by omega) (by exact Uw.wM)
 ·have hs:shapedF p.nodes x=false:=by simpa using hs
  rw [hs] at hsh2
  rw [hshp hs]
  repeat refine aw ?_
  refine WT_break ?_
  repeat refine aw ?_
  exact WT_leave (WT_ret rfl rfl rfl rfl rfl)
end Uw.Tryz
namespace Uw.Tryz
open Go Uw
theorem own0_len:∀(fs:List Fu) (i:Nat) (o:List Int),(own0 fs i o).length=o.length
 | [],_,_=>rfl
 | f::fs,i,o=>by rw [own0,own0_len fs];simp
theorem foldl_len {i:Nat}:∀(l:List Int) (o:List Int),(l.foldl (fun o k=>o.set k.toNat (o.getD i 0)) o).length=o.length
 | [],_=>rfl
 | k::l,o=>by rw [List.foldl_cons,foldl_len l];simp
theorem ownDown_len:∀(l:List (Nat×Nd)) (o:List Int),(ownDown l o).length=o.length
 | [],_=>rfl
 | (i,x)::r,o=>by rw [ownDown,ownDown_len r,ownKids,foldl_len]
theorem ownersP_len (p:Pg):(ownersP p).length=p.nodes.length:=by rw [ownersP,ownDown_len,own0_len];simp
theorem zip_mem {α β:Type}:∀{l:List α} {l' : List β} {x:α},l'.length=l.length→x∈l→∃y,(x,y)∈l.zip l'
 | a::l,[],x,h,_=>by simp at h
 | a::l,b::l',x,h,hx=>by
  rcases List.mem_cons.1 hx with rfl|hx
  ·exact ⟨b,by simp⟩
  ·obtain ⟨y,hy⟩:=zip_mem (l:=l) (l':=l') (by simpa using h) hx
   exact ⟨y,by simp [hy]⟩
structure May (p:Pg):Prop where
 formed:formedP p=true
 bound:boundP p=false
 twice:twiceP p=false
 name:nameP p=false
 sort:sortP p=false
 many:manyP p=false
theorem nodup_get {α:Type} {l:List α} (h:l.Nodup) {i j:Nat} (hi:i<l.length) (hj:j<l.length) (he:l[i]=l[j]):i=j:=by
 have h:=List.pairwise_iff_getElem.1 (List.nodup_iff_pairwise_ne.1 h)
 rcases Nat.lt_trichotomy i j with h1|h1|h1
 ·exact absurd he (h i j hi hj h1)
 ·exact h1
 ·exact absurd he.symm (h j i hj hi h1)
theorem funP_some {p:Pg} {s:Str} {i:Nat} (h:funP p s=some i):∃h:i<p.funs.length,p.funs[i].name=s:=by
 obtain ⟨h1,h2,_⟩:=List.findIdx?_eq_some_iff_getElem.1 h
 exact ⟨h1,by simpa using h2⟩
theorem funP_self {p:Pg} (h:(p.funs.map (·.name)).Nodup) {i:Nat} (hi:i<p.funs.length):funP p p.funs[i].name=some i:=by
 refine List.findIdx?_eq_some_iff_getElem.2 ⟨hi,by simp,fun j hj hji=>?_⟩
 have hjl:j<p.funs.length:=by omega
 have e:p.funs[j].name=p.funs[i].name:=by simpa using hji
 have:=nodup_get h (i:=j) (j:=i) (by simpa using hjl) (by simpa using hi) (by simpa using e)
 omega
theorem May.call {p:Pg} (h:May p) {x:Nd} (hx:x∈p.nodes) (hk:x.kind=10∨x.kind=11):∃k,∃hk:k<p.funs.length,funP p x.name2=some k∧(x.kind=10→x.of.length=p.funs[k].args.length)∧(x.kind=11→p.funs[k].args.length=1):=by
 have h2:=h.many
 simp only [manyP,Bool.or_eq_false_iff,decide_eq_false_iff_not,List.any_eq_false] at h2
 have h1:=h.name
 simp only [nameP,Bool.or_eq_false_iff,List.any_eq_false] at h1
 have h3:=h2.2 x hx
 obtain ⟨o,ho⟩:∃o,(x,o)∈p.nodes.zip (ownersP p):=zip_mem (ownersP_len p) hx
 have h4:=h1.1.2 _ ho
 simp only [nameN,if_pos hk] at h4
 cases hf:funP p x.name2 with
 | none=>rw [hf] at h4;simp at h4
 | some k=>
  obtain ⟨hkl,_⟩:=funP_some hf
  refine ⟨k,hkl,rfl,fun h10=>?_,fun h11=>?_⟩
  ·simp [manyN,h10,argsAt,hf,hkl] at h3;exact h3
  ·simp [manyN,h11,argsAt,hf,hkl] at h3;exact h3
def Loc (p:Pg) (a l:List Str):Prop:=(∃t,l=a++t)∧l.Nodup∧∀s∈l,thingP p s=none
def Locs (p:Pg) (ls:List (List Str)):Prop:=ls.length=p.funs.length∧∀(f:Nat) (h:f<p.funs.length),Loc p p.funs[f].args (ls.getD f [])
theorem Locs.add {p:Pg} {ls:List (List Str)} (h:Locs p ls) (f:Nat) (s:Str) (hs:thingP p s=none):Locs p (addLocal ls f s):=by
 unfold addLocal
 split
 ·exact h
 ·rename_i hm
  refine ⟨by simpa using h.1,fun g hg=>?_⟩
  by_cases hgf:g=f
  ·subst hgf
   obtain ⟨⟨t,ht⟩,h2,h3⟩:=h.2 g hg
   have e:(ls.set g (ls.getD g []++[s])).getD g []=ls.getD g []++[s]:=by simp [h.1,hg]
   rw [e]
   refine ⟨⟨t++[s],by rw [ht,List.append_assoc]⟩,?_,?_⟩
   ·rw [List.nodup_append]
    exact ⟨h2,by simp,fun a ha b hb=>by simp at hb;subst hb;exact fun e=>hm (e ▸ ha)⟩
   ·intro b hb
    rcases List.mem_append.1 hb with hb|hb
    ·exact h3 b hb
    ·simp at hb;subst hb;exact hs
  ·have e:(ls.set f (ls.getD f []++[s])).getD g []=ls.getD g []:=by simp [List.getD,List.getElem?_set,Ne.symm hgf]
   rw [e];exact h.2 g hg
theorem Locs.go {p:Pg}:∀(r:List (Nd×Int)) (ls:List (List Str)),Locs p ls→Locs p (localsGo p r ls)
 | [],ls,h=>h
 | (x,o)::r,ls,h=>by
  rw [localsGo]
  refine Locs.go r _ ?_
  split
  ·rename_i hl
   refine h.add _ _ ?_
   simp only [localN,Bool.and_eq_true] at hl
   simpa using hl.2
  ·exact h
theorem thingP_last {p:Pg} {s:Str}:thingP p s=none↔∀d∈p.decls,d.name≠s:=by
 simp [thingP]
theorem nodesOK_get {ns:List Nd}:∀{l:List Nd} {i:Nat},nodesOK ns i l=true→∀x∈l,∀k∈x.of,0≤k∧k<i+l.length
 | [],_,_,x,hx,_,_=>by simp at hx
 | y::l,i,h,x,hx,k,hk=>by
  simp only [nodesOK,Bool.and_eq_true] at h
  rcases List.mem_cons.1 hx with rfl|hx
  ·have h:=h.1
   simp only [nodeOK,Bool.and_eq_true,List.all_eq_true] at h
   have:=h.1 k hk
   simp at this ⊢
   omega
  ·have:=nodesOK_get h.2 x hx k hk
   simp at this ⊢
   omega
theorem uses_lt {p:Pg} (h:formedP p=true):∀k∈usesL p,0≤k∧k<p.nodes.length:=by
 simp only [formedP,Bool.and_eq_true,List.all_eq_true] at h
 intro k hk
 rcases List.mem_append.1 hk with hk|hk
 ·obtain ⟨x,hx,hk⟩:=List.mem_flatMap.1 hk
  have:=nodesOK_get h.1.1 x hx k hk
  simpa using this
 ·obtain ⟨f,hf,rfl⟩:=List.mem_map.1 hk
  have:=h.1.2 f hf
  simp [bodyOK] at this
  omega
theorem formed_count {p:Pg} (h:formedP p=true) (k:Nat) (hk:k<p.nodes.length):(usesL p).count (k:Int)=1:=by
 simp only [formedP,Bool.and_eq_true,List.all_eq_true] at h
 simpa using h.2 k (by simpa using hk)
end Uw.Tryz
namespace Uw.Tryz
open Go Uw
theorem mem_idx {α:Type} {x:α}:∀{l:List α} {b i:Nat},(i,x)∈idx b l↔b≤i∧l[i - b]? = some x
 | [],b,i=>by simp [idx]
 | y::l,b,i=>by
  rw [idx,List.mem_cons,mem_idx]
  constructor
  ·rintro (h|⟨h1,h2⟩)
   ·injection h with h1 h2;subst h1 h2;simp
   ·exact ⟨by omega,by rw [show i - b=(i - (b+1))+1 by omega,List.getElem?_cons_succ];exact h2⟩
  ·rintro ⟨h1,h2⟩
   by_cases he:i=b
   ·subst he;simp at h2;subst h2;exact .inl rfl
   ·refine .inr ⟨by omega,?_⟩
    rw [show i - b=(i - (b+1))+1 by omega,List.getElem?_cons_succ] at h2;exact h2
theorem idx_inc {α:Type}:∀(l:List α) (b:Nat),(idx b l).Pairwise fun a c=>a.1<c.1
 | [],b=>List.Pairwise.nil
 | y::l,b=>by
  rw [idx]
  refine List.Pairwise.cons ?_ (idx_inc l (b+1))
  rintro ⟨i,x⟩ h
  have:=(mem_idx.1 h).1
  simp only;omega
theorem idx_flat {α β:Type} (f:α→List β):∀(l:List α) (b:Nat),(idx b l).flatMap (fun y=>f y.2)=l.flatMap f
 | [],b=>rfl
 | y::l,b=>by rw [idx,List.flatMap_cons,List.flatMap_cons,idx_flat f l]
theorem kids_get {n:Nat} (i:Nat):∀(l:List Int) (o:List Int),o.length=n→(∀k∈l,0≤k∧k<(i:Int))→i<n→∀(j:Nat),(l.foldl (fun o k=>o.set k.toNat (o.getD i 0)) o).getD j 0=if (j:Int)∈l then o.getD i 0 else o.getD j 0
 | [],o,ho,h,hi,j=>by simp
 | k::l,o,ho,h,hi,j=>by
  obtain ⟨h1,h2⟩:=h k (by simp)
  rw [List.foldl_cons,kids_get i l _ (by simpa using ho) (fun k hk=>h k (by simp [hk])) hi j]
  have e:(o.set k.toNat (o.getD i 0)).getD i 0=o.getD i 0:=by
   simp only [List.getD,List.getElem?_set]
   rw [if_neg (by omega)]
  rw [e]
  by_cases hj:(j:Int)∈l
  ·rw [if_pos hj,if_pos (by simp [hj])]
  ·rw [if_neg hj]
   by_cases hk:(j:Int)=k
   ·rw [if_pos (by simp [hk])]
    subst hk
    simp only [List.getD,List.getElem?_set,Int.toNat_natCast,if_true]
    rw [if_pos (by omega)];rfl
   ·rw [if_neg (by simp [hk,hj])]
    simp only [List.getD,List.getElem?_set]
    rw [if_neg (by omega)]
structure Down (n:Nat) (l:List (Nat×Nd)):Prop where
 dec:l.Pairwise fun a c=>c.1<a.1
 kid:∀y∈l,y.1<n∧∀k∈y.2.of,0≤k∧k<(y.1:Int)
 once:(l.flatMap fun y=>y.2.of).Nodup
theorem down_get {n:Nat}:∀(l:List (Nat×Nd)) (o:List Int),o.length=n→Down n l→
  (∀j:Nat,(∀y∈l,(j:Int)∉y.2.of)→(ownDown l o).getD j 0=o.getD j 0)∧∀y∈l,∀j:Nat,(j:Int)∈y.2.of→(ownDown l o).getD j 0=(ownDown l o).getD y.1 0
 | [],o,ho,h=>⟨fun j _=>rfl,by simp⟩
 | (i,x)::r,o,ho,h=>by
  obtain ⟨hi,hx⟩:=h.kid (i,x) (by simp)
  simp only at hi hx
  have hlen:(ownKids o i x).length=n:=by rw [ownKids,foldl_len,ho]
  have hon:=h.once
  rw [List.flatMap_cons,List.nodup_append] at hon
  have hd:=List.pairwise_cons.1 h.dec
  have hr:Down n r:=⟨hd.2,fun y hy=>h.kid y (by simp [hy]),hon.2.1⟩
  obtain ⟨a1,a2⟩:=down_get r (ownKids o i x) hlen hr
  have hk:=kids_get i x.of o ho hx hi
  have hki:(ownKids o i x).getD i 0=o.getD i 0:=by
   rw [ownKids,hk i,if_neg]
   intro hm;have:=hx _ hm;omega
  have hii:(ownDown r (ownKids o i x)).getD i 0=o.getD i 0:=by
   rw [a1 i ?_,hki]
   intro y hy hm
   have h1:=(hr.kid y hy).2 _ hm
   have h2:=hd.1 y hy
   simp only at h2
   omega
  refine ⟨fun j hj=>?_,fun y hy j hm=>?_⟩
  ·rw [ownDown,a1 j fun y hy=>hj y (by simp [hy]),ownKids,hk j,if_neg (hj (i,x) (by simp))]
  ·rw [ownDown]
   rcases List.mem_cons.1 hy with rfl|hy
   ·rw [hii,a1 j ?_,ownKids,hk j,if_pos hm]
    intro y hy hm2
    exact hon.2.2 _ hm _ (List.mem_flatMap.2 ⟨y,hy,hm2⟩) rfl
   ·exact a2 y hy j hm
theorem uses_nodup {p:Pg} (h:formedP p=true):(usesL p).Nodup:=by
 rw [List.nodup_iff_count]
 intro k
 by_cases hk:k∈usesL p
 ·obtain ⟨h1,h2⟩:=uses_lt h k hk
  have:=formed_count h k.toNat (by omega)
  rw [show ((k.toNat:Nat):Int)=k by omega] at this
  omega
 ·rw [List.count_eq_zero.2 hk];omega
theorem own0_get:∀(fs:List Fu) (b:Nat) (o:List Int),(∀f∈fs,0≤f.body∧f.body<(o.length:Int))→(fs.map (·.body)).Nodup→∀(i:Nat) (hi:i<fs.length),(own0 fs b o).getD fs[i].body.toNat 0=((b+i:Nat):Int)∧∀j:Nat,(∀f∈fs,f.body≠(j:Int))→(own0 fs b o).getD j 0=o.getD j 0
 | [],b,o,_,_,i,hi=>by simp at hi
 | f::fs,b,o,h,hn,i,hi=>by
  rw [List.map_cons,List.nodup_cons] at hn
  obtain ⟨h1,h2⟩:=h f (by simp)
  have hrest:∀g∈fs,0≤g.body∧g.body<((o.set f.body.toNat b).length:Int):=fun g hg=>by rw [List.length_set];exact h g (by simp [hg])
  have hno:∀j:Nat,(∀g∈fs,g.body≠(j:Int))→(own0 fs (b+1) (o.set f.body.toNat b)).getD j 0=(o.set f.body.toNat b).getD j 0:=by
   intro j hj
   cases fs with
   | nil=>rfl
   | cons g fs=>exact (own0_get (g::fs) (b+1) _ hrest hn.2 0 (by simp)).2 j hj
  refine ⟨?_,fun j hj=>?_⟩
  ·rw [own0]
   cases i with
   | zero=>
    rw [List.getElem_cons_zero,hno f.body.toNat fun g hg e=>hn.1 (List.mem_map.2 ⟨g,hg,by rw [e];omega⟩)]
    simp only [List.getD,List.getElem?_set]
    rw [if_pos trivial,if_pos (by omega)];simp
   | succ i=>
    rw [List.getElem_cons_succ,(own0_get fs (b+1) _ hrest hn.2 i (by simpa using hi)).1]
    omega
  ·rw [own0,hno j fun g hg=>hj g (by simp [hg])]
   simp only [List.getD,List.getElem?_set]
   have:=hj f (by simp)
   rw [if_neg (by omega)]
structure Owns (p:Pg):Prop where
 body:∀(i:Nat) (h:i<p.funs.length),(ownersP p).getD p.funs[i].body.toNat 0=(i:Int)
 kid:∀(i:Nat) (h:i<p.nodes.length) (j:Nat),(j:Int)∈p.nodes[i].of→(ownersP p).getD j 0=(ownersP p).getD i 0
theorem owns {p:Pg} (h:formedP p=true):Owns p:=by
 have hn:=uses_nodup h
 rw [usesL,List.nodup_append] at hn
 have hkid:∀(i:Nat) (hi:i<p.nodes.length) (k:Int),k∈p.nodes[i].of→0≤k∧k<(i:Int):=by
  intro i hi k hk
  have h1:=h
  simp only [formedP,Bool.and_eq_true] at h1
  have key:∀(l:List Nd) (b:Nat),nodesOK p.nodes b l=true→∀(i:Nat) (hi:i<l.length) (k:Int),k∈l[i].of→0≤k∧k<((b+i:Nat):Int):=by
   intro l
   induction l with
   | nil=>intro b _ i hi;simp at hi
   | cons y l ih=>
    intro b hb i hi k hk
    simp only [nodesOK,Bool.and_eq_true] at hb
    cases i with
    | zero=>
     have h2:=hb.1
     simp only [nodeOK,Bool.and_eq_true,List.all_eq_true] at h2
     have:=h2.1 k hk
     simpa using this
    | succ i=>
     have:=ih (b+1) hb.2 i (by simpa using hi) k hk
     omega
  have:=key p.nodes 0 h1.1.1 i hi k hk
  omega
 have hflat:((idx 0 p.nodes).reverse.flatMap fun y=>y.2.of).Nodup:=by
  refine (List.Perm.nodup_iff (List.Perm.flatMap_right _ (List.reverse_perm _))).2 ?_
  rw [idx_flat (fun x:Nd=>x.of)];exact hn.1
 have hdown:Down p.nodes.length (idx 0 p.nodes).reverse:=by
  refine ⟨List.pairwise_reverse.2 (idx_inc _ _),?_,hflat⟩
  rintro ⟨i,x⟩ hy
  obtain ⟨_,h2⟩:=mem_idx.1 (List.mem_reverse.1 hy)
  rw [Nat.sub_zero] at h2
  obtain ⟨h3,rfl⟩:=List.getElem?_eq_some_iff.1 h2
  exact ⟨h3,fun k hk=>hkid i h3 k hk⟩
 have hlen:(own0 p.funs 0 (List.replicate p.nodes.length 0)).length=p.nodes.length:=by rw [own0_len];simp
 obtain ⟨a1,a2⟩:=down_get _ _ hlen hdown
 refine ⟨fun i hi=>?_,fun i hi j hj=>?_⟩
 ·have hb:0≤p.funs[i].body:=(uses_lt h _ (List.mem_append.2 (.inr (List.mem_map.2 ⟨_,List.getElem_mem hi,rfl⟩)))).1
  rw [ownersP,a1 _ ?_]
  ·rw [(own0_get p.funs 0 _ (fun f hf=>by simpa using uses_lt h _ (List.mem_append.2 (.inr (List.mem_map.2 ⟨_,hf,rfl⟩)))) hn.2.1 i hi).1]
   omega
  ·rintro ⟨m,x⟩ hy hm
   obtain ⟨_,h2⟩:=mem_idx.1 (List.mem_reverse.1 hy)
   have hx:x∈p.nodes:=List.mem_of_getElem? h2
   simp only at hm
   rw [show ((p.funs[i].body.toNat:Nat):Int)=p.funs[i].body by omega] at hm
   exact hn.2.2 _ (List.mem_flatMap.2 ⟨x,hx,hm⟩) _ (List.mem_map.2 ⟨_,List.getElem_mem hi,rfl⟩) rfl
 ·exact a2 (i,p.nodes[i]) (List.mem_reverse.2 (mem_idx.2 ⟨Nat.zero_le _,by simp⟩)) j hj
end Uw.Tryz
namespace Go.Proofs
open Go.RowKit Go.Shelf
attribute [local go_sem] Oper.semAt_some
set_option maxRecDepth 100000 in
set_option maxHeartbeats 2000000 in
theorem Tryz.backward_in (l Bs b off len cap:Nat) (C:Nat→Value) (hreach:len<1000000) (J:Nat→World→Prop)
  (hY:∀k W1,J k W1→k<len→YieldAt Fence.wide 0 Tryz.prog l #[.int .i64 ((len - 1 - k:Nat):Int),.agg #[C ((len - 1 - k) * 5),C ((len - 1 - k) * 5+1),C ((len - 1 - k) * 5+2),C ((len - 1 - k) * 5+3),C ((len - 1 - k) * 5+4)]] W1 fun e W'=>e = .returned (.bool true)∧J (k+1) W')
  (hOK:∀k W1,J k W1→W1.cell? ⟨Bs,0,none⟩=some (.slice (some ⟨b,off,none⟩) len cap)∧∀m,m<len * 5→W1.cell? ⟨b,off+m,none⟩=some (C m))
  (W:World) (h0:J 0 W) :
  CallsIn Fence.wide 0 Tryz.prog 80 #[.func (.yield l) #[] #[],.pointer (some ⟨Bs,0,none⟩)] W fun e W'=>(∃v,e = .returned v)∧J len W':=by
 refine callsIn_of_wp Tryz.func80 rfl trivial ?_ rfl
 simp only [Tryz.ntmps80,List.size_toArray,List.length_cons,List.length_nil,Nat.reduceAdd,Nat.reduceSub,Array.replicate_succ,Array.replicate_zero,List.push_toArray,List.append_toArray,List.nil_append,List.cons_append]
 have hB:=(hOK 0 W h0).1
 gi_wp2
 gi_loopw [3] (fun i wr=>∃k:Nat,k≤len∧i = .int .i64 ((len:Int) - 1 - k)∧J k wr) (fun i _=>(intOf i+1).toNat)
 case atStart=>exact ⟨0,Nat.zero_le _,by simp,h0⟩
 case round=>
  obtain ⟨k,hk,rfl,hJs⟩:=hrel
  obtain ⟨hB2,hC⟩:=hOK k wr hJs
  by_cases hlt:k<len
  ·obtain ⟨fn,tmps,assign,body,hy,hR⟩:=hY k wr hJs hlt
   have he:((len - 1 - k:Nat):Int)=(len:Int) - 1 - k:=by omega
   rw [he] at hy
   have c0:wr.cell? ⟨b,off+(len - 1 - k) * 5,none⟩=some (C ((len - 1 - k) * 5)):=hC _ (by omega)
   have c1:wr.cell? ⟨b,off+(len - 1 - k) * 5+1,none⟩=some (C ((len - 1 - k) * 5+1)):=by have:=hC ((len - 1 - k) * 5+1) (by omega);rwa [← Nat.add_assoc] at this
   have c2:wr.cell? ⟨b,off+(len - 1 - k) * 5+2,none⟩=some (C ((len - 1 - k) * 5+2)):=by have:=hC ((len - 1 - k) * 5+2) (by omega);rwa [← Nat.add_assoc] at this
   have c3:wr.cell? ⟨b,off+(len - 1 - k) * 5+3,none⟩=some (C ((len - 1 - k) * 5+3)):=by have:=hC ((len - 1 - k) * 5+3) (by omega);rwa [← Nat.add_assoc] at this
   have c4:wr.cell? ⟨b,off+(len - 1 - k) * 5+4,none⟩=some (C ((len - 1 - k) * 5+4)):=by have:=hC ((len - 1 - k) * 5+4) (by omega);rwa [← Nat.add_assoc] at this
   gi_wp2
   refine ⟨rfl,hR.mono ?_⟩
   rintro e W3 ⟨rfl,hJ3⟩
   gi_wp2
   go_roundw
   case rel=>exact ⟨k+1,by omega,by simp;omega,hJ3⟩
   case measure=>simp [intOf];omega
  ·obtain rfl:k=len:=by omega
   gi_wp2
   go_end0
   exact ⟨⟨_,rfl⟩,hJs⟩
set_option maxRecDepth 100000 in
set_option maxHeartbeats 2000000 in
theorem Tryz.backward0_in (l Bs:Nat) (x:Option Addr) (J:Nat→World→Prop) (hOK:∀k W1,J k W1→W1.cell? ⟨Bs,0,none⟩=some (.slice x 0 0)) (W:World) (h0:J 0 W) :
  CallsIn Fence.wide 0 Tryz.prog 80 #[.func (.yield l) #[] #[],.pointer (some ⟨Bs,0,none⟩)] W fun e W'=>(∃v,e = .returned v)∧J 0 W':=by
 refine callsIn_of_wp Tryz.func80 rfl trivial ?_ rfl
 simp only [Tryz.ntmps80,List.size_toArray,List.length_cons,List.length_nil,Nat.reduceAdd,Nat.reduceSub,Array.replicate_succ,Array.replicate_zero,List.push_toArray,List.append_toArray,List.nil_append,List.cons_append]
 have hB:=hOK 0 W h0
 gi_wp2
 gi_loopw [3] (fun i wr=>i = .int .i64 (-1)∧J 0 wr) (fun i _=>0)
 case atStart=>exact ⟨rfl,h0⟩
 case round=>
  obtain ⟨rfl,hJs⟩:=hrel
  gi_wp2
  go_end0
  exact ⟨⟨_,rfl⟩,hJs⟩
end Go.Proofs
namespace Uw.Tryz
open Go Uw Go.RowKit
theorem RelE_get {w:World} {J:Nat→Nat→Prop} {b k:Nat}:∀{xs:List (List Dat)} {o:Nat},RelE w J b k o xs→∀(i:Nat) (h:i<xs.length),RelC w J b (o+i * k) xs[i]
 | x::xs,o,h,0,hi=>by simpa using h.2.1
 | x::xs,o,h,i+1,hi=>by
  have:=RelE_get h.2.2 i (by simpa using hi)
  rw [show o+(i+1) * k=o+k+i * k by rw [Nat.add_mul];omega]
  exact this
structure NodesAt (ns:List Nd) (b off:Nat) (C:Nat→Value) (c:Cx):Prop where
 rel:∀(i:Nat) (h:i<ns.length),RelC c.w (Imm c) b (off+i * 5) (ndL ns[i])
 cell:∀m,m<ns.length * 5→c.w.cell? ⟨b,off+m,none⟩=some (C m)
 imm:∀m,m<ns.length * 5→Imm c b (off+m)
theorem NodesAt.of [Glob] {ns:List Nd} {b off:Nat} {c:Cx} (h:∀(i:Nat) (h:i<ns.length),RelC c.w (Imm c) b (off+i * 5) (ndL ns[i])):NodesAt ns b off (fun m=>(c.w.cell? ⟨b,off+m,none⟩).getD undef) c:=by
 have key:∀m,m<ns.length * 5→(∃v,c.w.cell? ⟨b,off+m,none⟩=some v)∧Imm c b (off+m):=by
  intro m hm
  have hi:m / 5<ns.length:=by omega
  obtain ⟨⟨v0,a0,i0,_⟩,⟨v1,a1,i1,_⟩,⟨v2,a2,i2,_⟩,⟨v3,a3,i3,_⟩,⟨v4,a4,i4,_⟩,_⟩:=h (m / 5) hi
  have hm5:m % 5=0∨m % 5=1∨m % 5=2∨m % 5=3∨m % 5=4:=by omega
  rcases hm5 with e|e|e|e|e
  ·rw [show off+m=off+m / 5 * 5 by omega];exact ⟨⟨v0,a0⟩,i0⟩
  ·rw [show off+m=off+m / 5 * 5+1 by omega];exact ⟨⟨v1,a1⟩,i1⟩
  ·rw [show off+m=off+m / 5 * 5+1+1 by omega];exact ⟨⟨v2,a2⟩,i2⟩
  ·rw [show off+m=off+m / 5 * 5+1+1+1 by omega];exact ⟨⟨v3,a3⟩,i3⟩
  ·rw [show off+m=off+m / 5 * 5+1+1+1+1 by omega];exact ⟨⟨v4,a4⟩,i4⟩
 refine ⟨h,fun m hm=>?_,fun m hm=>(key m hm).2⟩
 obtain ⟨v,hv⟩:=(key m hm).1
 rw [hv];rfl
theorem NodesAt.agg [Glob] {ns:List Nd} {b off:Nat} {C:Nat→Value} {c:Cx} (h:NodesAt ns b off C c) (i:Nat) (hi:i<ns.length):RelI c.w (Imm c) (.agg (ndL ns[i])) (.agg #[C (i * 5),C (i * 5+1),C (i * 5+2),C (i * 5+3),C (i * 5+4)]):=by
 obtain ⟨⟨v0,a0,_,_,r0⟩,⟨v1,a1,_,_,r1⟩,⟨v2,a2,_,_,r2⟩,⟨v3,a3,_,_,r3⟩,⟨v4,a4,_,_,r4⟩,_⟩:=h.rel i hi
 have e:∀(m:Nat) (v:Value),m<5→c.w.cell? ⟨b,off+i * 5+m,none⟩=some v→v=C (i * 5+m):=by
  intro m v hm hv
  have:=h.cell (i * 5+m) (by omega)
  rw [← Nat.add_assoc,hv] at this
  injection this
 obtain rfl:=e 0 v0 (by omega) a0
 obtain rfl:=e 1 v1 (by omega) a1
 obtain rfl:=e 2 v2 (by omega) a2
 obtain rfl:=e 3 v3 (by omega) a3
 obtain rfl:=e 4 v4 (by omega) a4
 exact ⟨_,rfl,_,_,rfl,r0,_,_,rfl,r1,_,_,rfl,r2,_,_,rfl,r3,_,_,rfl,r4,rfl⟩
def nodesFr (ns:List Nd) (b off:Nat) (C:Nat→Value):Fr where
 K:=0
 p:=NodesAt ns b off C
 ok:=fun c c' he h=>⟨fun i hi=>RelC.keep he.keeps _ _ _ (h.rel i hi),fun m hm=>((he.keeps b _ (h.imm m hm)).2).trans (h.cell m hm),fun m hm=>(he.keeps b _ (h.imm m hm)).1⟩
end Uw.Tryz
namespace Uw.Tryz
open Go Uw Go.RowKit
abbrev pgV (p:Pg):Blk:=.var [.d (.slice 3 (p.decls.map decL) false),.d (.slice 3 (p.funs.map fuL) false),.d (nodesD p.nodes)]
abbrev owR:Regs:=[(3,.ptr 2 0),(1,.ptr 0 0)]
abbrev owH (p:Pg) (o:List (List Dat)):Heap:=[(2,.var [.ref 1 0 0 p.nodes.length]),(1,.mt 1 0 o),(0,pgV p)]
def owF (p:Pg) (j:Nat):List Int:=own0 (p.funs.take j) 0 (List.replicate p.nodes.length 0)
theorem own0_snoc:∀(fs:List Fu) (f:Fu) (b:Nat) (o:List Int),own0 (fs++[f]) b o=(own0 fs b o).set f.body.toNat ((b+fs.length:Nat):Int)
 | [],f,b,o=>by simp [own0]
 | g::fs,f,b,o=>by
  rw [List.cons_append,own0,own0,own0_snoc fs f]
  congr 2
  simp;omega
theorem owF_len (p:Pg) (j:Nat):(owF p j).length=p.nodes.length:=by rw [owF,own0_len];simp
theorem owF_succ (p:Pg) (j:Nat) (h:j<p.funs.length):owF p (j+1)=(owF p j).set p.funs[j].body.toNat (j:Int):=by
 rw [owF,owF,List.take_succ_eq_append_getElem h,own0_snoc]
 simp;congr 1;omega
theorem rowI_at {o:List Int} {k:Int} (h:k.toNat<o.length):∃c,(rowI o)[0+k.toNat]? = some [I c]∧c=o.getD k.toNat 0:=by
 refine ⟨o.getD k.toNat 0,?_,rfl⟩
 rw [Nat.zero_add,rowI,List.getElem?_map,List.getElem?_eq_getElem h]
 simp [List.getD,h]
theorem rowI_set {o:List Int} {k:Nat} {c v:Int}:(rowI o).set (0+k) (setAt [I c] 0 [I v])=rowI (o.set k v):=by
 rw [Nat.zero_add,rowI,rowI,List.map_set];rfl
def owK (p:Pg) (k:Nat):List Int:=ownDown ((idx 0 p.nodes).reverse.take k) (owF p p.funs.length)
theorem owK_len (p:Pg) (k:Nat):(owK p k).length=p.nodes.length:=by rw [owK,ownDown_len,owF_len]
theorem ownDown_snoc:∀(l:List (Nat×Nd)) (y:Nat×Nd) (o:List Int),ownDown (l++[y]) o=ownKids (ownDown l o) y.1 y.2
 | [],y,o=>rfl
 | x::l,y,o=>by rw [List.cons_append,ownDown,ownDown,ownDown_snoc l]
theorem idx_len {α:Type}:∀(l:List α) (b:Nat),(idx b l).length=l.length
 | [],_=>rfl
 | x::l,b=>by rw [idx,List.length_cons,List.length_cons,idx_len l]
theorem idx_get {α:Type}:∀(l:List α) (b i:Nat) (h:i<l.length),(idx b l)[i]'(by rw [idx_len];exact h)=(b+i,l[i])
 | x::l,b,0,h=>rfl
 | x::l,b,i+1,h=>by
  have:=idx_get l (b+1) i (by simpa using h)
  simp only [idx,List.getElem_cons_succ]
  rw [this,show b+1+i=b+(i+1) by omega]
theorem owK_succ (p:Pg) (k:Nat) (h:k<p.nodes.length):owK p (k+1)=ownKids (owK p k) (p.nodes.length - 1 - k) p.nodes[p.nodes.length - 1 - k]:=by
 have hl:((idx 0 p.nodes).reverse).length=p.nodes.length:=by rw [List.length_reverse,idx_len]
 rw [owK,owK,List.take_succ_eq_append_getElem (by rw [hl];exact h),ownDown_snoc,List.getElem_reverse]
 have:=idx_get p.nodes 0 (p.nodes.length - 1 - k) (by omega)
 simp only [idx_len]
 rw [this];simp
theorem owK_all (p:Pg):owK p p.nodes.length=ownersP p:=by
 rw [owK,ownersP,List.take_of_length_le (by rw [List.length_reverse,idx_len];exact Nat.le_refl _),owF,List.take_of_length_le (Nat.le_refl _)]
set_option maxRecDepth 4000 in
set_option maxHeartbeats 4000000 in
theorem ow_1 (p:Pg):WT P0 (fun e s=>e = .normal∧Weak s ⟨[(1,.ptr 0 0)],[(0,pgV p)],1,[],0⟩) (exec pc_check_owners_1 (initSt [pgD p]) Tree.done):=by
 repeat refine aw ?_
 refine WT_done ⟨rfl,?_⟩
 exact Uw.wM
set_option maxRecDepth 4000 in
set_option maxHeartbeats 4000000 in
theorem ow_2 (p:Pg) (hn:p.nodes.length<100000):WT P0 (fun e s=>e = .normal∧Weak s ⟨owR,owH p (rowI (owF p 0)),3,[],0⟩) (exec pc_check_owners_2 ⟨[(1,.ptr 0 0)],[(0,pgV p)],1,[],0⟩ Tree.done):=by
 have hnl:(p.nodes.map ndL).length=p.nodes.length:=by simp
 have e0:List.replicate (((p.nodes.map ndL).length:Nat):Int).toNat [I 0]=rowI (owF p 0):=by
  rw [owF,List.take_zero,own0,rowI,List.map_replicate,hnl];simp
 have hmk:(decide ((0:Int)≤((p.nodes.map ndL).length:Nat))&&decide ((((p.nodes.map ndL).length:Nat):Int)≤((p.nodes.map ndL).length:Nat))&&decide ((((p.nodes.map ndL).length:Nat):Int) * ((8:Nat):Int)≤70368744177664))=true:=by simp;omega
 generalize rowI (owF p 0)=O at *
 repeat refine aw ?_
 refine WT_done ⟨rfl,?_⟩
 rw [← e0]
 exact Uw.wM
set_option maxRecDepth 4000 in
set_option maxHeartbeats 4000000 in
theorem ow_3 (p:Pg) (hp:Lim p) (hb:∀(i:Nat) (h:i<p.funs.length),0≤p.funs[i].body∧p.funs[i].body<p.nodes.length):WT P0 (fun e s=>e = .normal∧Weak s ⟨owR,owH p (rowI (owF p p.funs.length)),3,[],0⟩) (exec pc_check_owners_3 ⟨owR,owH p (rowI (owF p 0)),3,[],0⟩ Tree.done):=by
 have hfl:(p.funs.map fuL).length=p.funs.length:=by simp
 have hF:=hp.funs
 have hN:=hp.nodes
 obtain ⟨O,hO⟩:∃O:Nat→List (List Dat),∀j,O j=rowI (owF p j):=⟨_,fun _=>rfl⟩
 have hstep:∀(j:Nat) (h:j<p.funs.length),∃c:Int,(O j)[0+p.funs[j].body.toNat]? = some [I c]∧(O j).set (0+p.funs[j].body.toNat) (setAt [I c] 0 [I j])=O (j+1):=by
  intro j h
  have:=hb j h
  obtain ⟨c,g1,g2⟩:=rowI_at (o:=owF p j) (k:=p.funs[j].body) (by rw [owF_len];omega)
  exact ⟨c,by rw [hO];exact g1,by rw [hO,hO,rowI_set,owF_succ p j h]⟩
 have hel:∀(j:Nat) (h:j<p.funs.length),(p.funs.map fuL)[(j:Int).toNat]? = some (fuL p.funs[j]):=by intro j h;simp [h]
 rw [← hO,← hO]
 repeat refine aw ?_
 refine WT_for p.funs.length (fun j:Nat=>⟨[(17,.d (I j)),(16,.d (I ((p.funs.map fuL).length:Nat))),(15,.d (.slice 3 (p.funs.map fuL) false)),(3,.ptr 2 0),(1,.ptr 0 0)],owH p (O j),3,[],0⟩) (fun _=>True) (by exact Uw.wM) (fun _=>?_) (fun j hj _=>?_)
 ·repeat refine aw ?_
  refine WT_break ?_
  refine WT_done ⟨rfl,?_⟩
  exact Uw.wM
 have he:=hel j hj
 have hs:=hstep j hj
 have hbj:=hb j hj
 clear hstep hel hO hb
 generalize p.funs[j]=f at *
 obtain ⟨fn,fa,fb⟩:=f
 have he:(p.funs.map fuL)[(j:Int).toNat]? = some [.str fn,strsC fa,I fb]:=he
 obtain ⟨c,g1,g2⟩:=hs
 simp only at *
 obtain ⟨b1,b2⟩:=hbj
 repeat refine aw ?_
 exact WT_next j trivial (by exact Uw.wM)
set_option maxRecDepth 4000 in
set_option maxHeartbeats 4000000 in
theorem ow_4 (p:Pg) (o:List (List Dat)):WT P0 (fun e s=>e = .normal∧Weak s ⟨[(30,.func n_slices_Backward_1 [] [.ptr 3 0]),(3,.ptr 2 0),(1,.ptr 0 0)],(3,.var [.d (nodesD p.nodes)])::owH p o,4,[],0⟩) (exec pc_check_owners_4 ⟨owR,owH p o,3,[],0⟩ Tree.done):=by
 repeat refine aw ?_
 refine WT_inl is_slices_Backward rfl ?_
 repeat refine aw ?_
 refine WT_iret rfl rfl ?_
 repeat refine aw ?_
 refine WT_done ⟨rfl,?_⟩
 exact Uw.wM
end Uw.Tryz
namespace Uw.Tryz
open Go Uw
set_option maxHeartbeats 1000000 in
theorem s_ref06_In (l:List Str) (s:Str) (hl:l.length<1000000000):Ret P0 n_ref06_In [strsC l,.str s] (.bool (decide (s∈l))):=by
 have hm:(l.map fun s=>[Dat.str s]).length=l.length:=by simp
 have hall:(∀(j:Nat) (h:j<l.length),¬l[j]=s)→decide (s∈l)=false:=fun h=>by
  rw [decide_eq_false]
  intro hm
  obtain ⟨j,hj,e⟩:=List.mem_iff_getElem.1 hm
  exact h j hj e
 have hone:∀(j:Nat) (h:j<l.length),l[j]=s→decide (s∈l)=true:=fun j h e=>by
  rw [decide_eq_true];exact e ▸ List.getElem_mem h
 have hel:∀(j:Nat) (h:j<l.length),(l.map fun s=>[Dat.str s])[(j:Int).toNat]? = some [.str l[j]]:=fun j h=>by simp [h]
 generalize decide (s∈l)=R at *
 refine Ret_by is_ref06_In rfl ?_
 repeat refine aw ?_
 refine WT_for l.length (fun j:Nat=>⟨[(5,.d (I j)),(0,.d (strsC l)),(1,.d (.str s))],[],0,[],0⟩) (fun j=>∀h:j<l.length,¬l[j]=s) (by exact Uw.wM) (fun g=>?_) (fun j hj _=>?_)
 ·rw [hall fun j h=>g j h h]
  refine aw ?_
  refine WT_break ?_
  exact WT_ret rfl rfl rfl rfl rfl
 have he:=hel j hj
 have hone:=hone j hj
 have hG:¬l[j]=s→(fun j=>∀h:j<l.length,¬l[j]=s) j:=fun h _=>h
 clear hall hel
 generalize l[j]=x at *
 by_cases q:x=s
 ·rw [hone q]
  repeat refine aw ?_
  exact WT_leave (WT_ret rfl rfl rfl rfl rfl)
 ·have hG1:=hG q
  repeat refine aw ?_
  exact WT_next j hG1 (by exact Uw.wM)
set_option maxHeartbeats 1000000 in
theorem s_ref06_Same (a b:List Str) (hl:a.length<1000000000) (hlb:b.length<1000000000):Ret P0 n_ref06_Same [strsC a,strsC b] (.bool (decide (a=b))):=by
 have hm:(a.map fun s=>[Dat.str s]).length=a.length:=by simp
 have hm2:(b.map fun s=>[Dat.str s]).length=b.length:=by simp
 by_cases hab:a.length=b.length
 rotate_left 1
 ·rw [decide_eq_false fun e=>hab (by rw [e])]
  have q:¬(((a.map fun s=>[Dat.str s]).length:Nat):Int)=((b.map fun s=>[Dat.str s]).length:Nat):=by omega
  refine Ret_by is_ref06_Same rfl ?_
  repeat refine aw ?_
  exact WT_ret rfl rfl rfl rfl rfl
 have q:(((a.map fun s=>[Dat.str s]).length:Nat):Int)=((b.map fun s=>[Dat.str s]).length:Nat):=by omega
 have hall:(∀(j:Nat) (h:j<a.length),a[j]=b[j]'(by omega))→decide (a=b)=true:=fun h=>by
  rw [decide_eq_true]
  exact List.ext_getElem hab fun j h1 h2=>h j h1
 have hone:∀(j:Nat) (h:j<a.length),¬a[j]=b[j]'(by omega)→decide (a=b)=false:=fun j h e=>by
  rw [decide_eq_false]
  intro hb;subst hb;exact e rfl
 have hel:∀(j:Nat) (h:j<a.length),(a.map fun s=>[Dat.str s])[(j:Int).toNat]? = some [.str a[j]]:=fun j h=>by simp [h]
 have hel2:∀(j:Nat) (h:j<a.length),(b.map fun s=>[Dat.str s])[(j:Int).toNat]? = some [.str (b[j]'(by omega))]:=fun j h=>by simp [show j<b.length by omega]
 generalize decide (a=b)=R at *
 refine Ret_by is_ref06_Same rfl ?_
 repeat refine aw ?_
 refine WT_for a.length (fun j:Nat=>⟨[(5,.d (I j)),(0,.d (strsC a)),(1,.d (strsC b))],[],0,[],0⟩) (fun j=>∀h:j<a.length,a[j]=b[j]'(by omega)) (by exact Uw.wM) (fun g=>?_) (fun j hj _=>?_)
 ·rw [hall fun j h=>g j h h]
  refine aw ?_
  refine WT_break ?_
  exact WT_ret rfl rfl rfl rfl rfl
 have he:=hel j hj
 have he2:=hel2 j hj
 have hone:=hone j hj
 have hG:a[j]=b[j]'(by omega)→(fun j=>∀h:j<a.length,a[j]=b[j]'(by omega)) j:=fun h _=>h
 have hjb:j<b.length:=by omega
 clear hall hel hel2
 generalize a[j]=x at *
 generalize b[j]=y at *
 by_cases q2:x=y
 ·have hG1:=hG q2
  repeat refine aw ?_
  exact WT_next j hG1 (by exact Uw.wM)
 ·rw [hone q2]
  repeat refine aw ?_
  exact WT_leave (WT_ret rfl rfl rfl rfl rfl)
def fewN (x:Nd):Bool:=decide (x.of.length≤30)&&decide (x.name.length≤40)&&decide (x.name2.length≤40)
def fewF (f:Fu):Bool:=decide (f.args.length≤30)&&decide (f.name.length≤40)
def fewP (p:Pg):Bool:=decide (p.nodes.length≤120)&&decide (p.funs.length≤30)&&decide (p.decls.length≤60)&&p.nodes.all fewN&&p.funs.all fewF
theorem few_lim {p:Pg} (h:fewP p=true):Lim p:=by
 simp only [fewP,Bool.and_eq_true,decide_eq_true_eq,List.all_eq_true] at h
 obtain ⟨⟨⟨⟨h1,h2⟩,h3⟩,h4⟩,h5⟩:=h
 refine ⟨by omega,by omega,by omega,fun x hx=>?_,fun f hf=>?_⟩
 ·have:=h4 x hx
  simp only [fewN,Bool.and_eq_true,decide_eq_true_eq] at this
  omega
 ·have:=h5 f hf
  simp only [fewF,Bool.and_eq_true,decide_eq_true_eq] at this
  omega
set_option maxRecDepth 4000 in
set_option maxHeartbeats 4000000 in
theorem s_ref06_Few (p:Pg):Ret P0 n_ref06_Few [pgD p] (.bool (fewP p)):=by
 have hnl:(p.nodes.map ndL).length=p.nodes.length:=by simp
 have hfl:(p.funs.map fuL).length=p.funs.length:=by simp
 have hdl:(p.decls.map decL).length=p.decls.length:=by simp
 by_cases c1:120<p.nodes.length
 ·have e:fewP p=false:=by simp [fewP];omega
  rw [e]
  have c1' : (120:Int)<((p.nodes.map ndL).length:Nat):=by omega
  refine Ret_by is_ref06_Few rfl ?_
  repeat refine aw ?_
  exact WT_ret rfl rfl rfl rfl rfl
 have c1' : ¬(120:Int)<((p.nodes.map ndL).length:Nat):=by omega
 by_cases c2:30<p.funs.length
 ·have e:fewP p=false:=by simp [fewP];omega
  rw [e]
  have c2' : (30:Int)<((p.funs.map fuL).length:Nat):=by omega
  refine Ret_by is_ref06_Few rfl ?_
  repeat refine aw ?_
  exact WT_ret rfl rfl rfl rfl rfl
 have c2' : ¬(30:Int)<((p.funs.map fuL).length:Nat):=by omega
 by_cases c3:60<p.decls.length
 ·have e:fewP p=false:=by simp [fewP];omega
  rw [e]
  have c3' : (60:Int)<((p.decls.map decL).length:Nat):=by omega
  refine Ret_by is_ref06_Few rfl ?_
  repeat refine aw ?_
  exact WT_ret rfl rfl rfl rfl rfl
 have c3' : ¬(60:Int)<((p.decls.map decL).length:Nat):=by omega
 have hall:(∀(j:Nat) (h:j<p.nodes.length),fewN p.nodes[j]=true)→(∀(j:Nat) (h:j<p.funs.length),fewF p.funs[j]=true)→fewP p=true:=fun h1 h2=>by
  simp only [fewP,Bool.and_eq_true,decide_eq_true_eq,List.all_eq_true]
  refine ⟨⟨⟨⟨by omega,by omega⟩,by omega⟩,fun x hx=>?_⟩,fun x hx=>?_⟩
  ·obtain ⟨j,hj,rfl⟩:=List.mem_iff_getElem.1 hx;exact h1 j hj
  ·obtain ⟨j,hj,rfl⟩:=List.mem_iff_getElem.1 hx;exact h2 j hj
 have hone1:∀(j:Nat) (h:j<p.nodes.length),fewN p.nodes[j]=false→fewP p=false:=fun j h e=>by
  have:p.nodes.all fewN=false:=List.all_eq_false.2 ⟨_,List.getElem_mem h,by rw [e];simp⟩
  simp [fewP,this]
 have hone2:∀(j:Nat) (h:j<p.funs.length),fewF p.funs[j]=false→fewP p=false:=fun j h e=>by
  have:p.funs.all fewF=false:=List.all_eq_false.2 ⟨_,List.getElem_mem h,by rw [e];simp⟩
  simp [fewP,this]
 have hel1:∀(j:Nat) (h:j<p.nodes.length),(p.nodes.map ndL)[(j:Int).toNat]? = some (ndL p.nodes[j]):=fun j h=>by simp [h]
 have hel2:∀(j:Nat) (h:j<p.funs.length),(p.funs.map fuL)[(j:Int).toNat]? = some (fuL p.funs[j]):=fun j h=>by simp [h]
 generalize fewP p=R at *
 refine Ret_by is_ref06_Few rfl ?_
 repeat refine aw ?_
 refine WT_for p.nodes.length (fun j:Nat=>⟨[(3,.d (I j)),(1,.ptr 0 0)],[(0,pgV p)],1,[],0⟩) (fun j=>∀h:j<p.nodes.length,fewN p.nodes[j]=true) (by exact Uw.wM) (fun g1=>?_) (fun j hj _=>?_)
 rotate_left 1
 ·have he:=hel1 j hj
  have hone:=hone1 j hj
  have hG:fewN p.nodes[j]=true→(fun j=>∀h:j<p.nodes.length,fewN p.nodes[j]=true) j:=fun h _=>h
  clear hall hel1 hel2 hone1 hone2
  generalize p.nodes[j]=x at *
  obtain ⟨xk,xn,xs,xt,xo⟩:=x
  have he:(p.nodes.map ndL)[(j:Int).toNat]? = some [I xk,I xn,.str xs,.str xt,.slice 1 (xo.map fun i=>[I i]) false]:=he
  have hol:(xo.map fun i=>[I i]).length=xo.length:=by simp
  by_cases d1:30<xo.length
  ·rw [hone (by simp [fewN];omega)]
   have d1' : (30:Int)<((xo.map fun i=>[I i]).length:Nat):=by omega
   repeat refine aw ?_
   exact WT_leave (WT_ret rfl rfl rfl rfl rfl)
  have d1' : ¬(30:Int)<((xo.map fun i=>[I i]).length:Nat):=by omega
  by_cases d2:40<xs.length
  ·rw [hone (by simp [fewN];omega)]
   have d2' : (40:Int)<(xs.length:Nat):=by omega
   repeat refine aw ?_
   exact WT_leave (WT_ret rfl rfl rfl rfl rfl)
  have d2' : ¬(40:Int)<(xs.length:Nat):=by omega
  by_cases d3:40<xt.length
  ·rw [hone (by simp [fewN];omega)]
   have d3' : (40:Int)<(xt.length:Nat):=by omega
   repeat refine aw ?_
   exact WT_leave (WT_ret rfl rfl rfl rfl rfl)
  have d3' : ¬(40:Int)<(xt.length:Nat):=by omega
  have hG1:=hG (by simp [fewN];omega)
  repeat refine aw ?_
  exact WT_next j hG1 (by exact Uw.wM)
 have hall:=hall fun j h=>g1 j h h
 refine aw ?_
 refine WT_break ?_
 repeat refine aw ?_
 refine WT_for p.funs.length (fun j:Nat=>⟨[(4,.d (I j)),(1,.ptr 0 0)],[(0,pgV p)],1,[],0⟩) (fun j=>∀h:j<p.funs.length,fewF p.funs[j]=true) (by exact Uw.wM) (fun g2=>?_) (fun j hj _=>?_)
 ·rw [hall fun j h=>g2 j h h]
  refine aw ?_
  refine WT_break ?_
  exact WT_ret rfl rfl rfl rfl rfl
 have he:=hel2 j hj
 have hone:=hone2 j hj
 have hG:fewF p.funs[j]=true→(fun j=>∀h:j<p.funs.length,fewF p.funs[j]=true) j:=fun h _=>h
 clear hall hel1 hel2 hone1 hone2
 generalize p.funs[j]=f at *
 obtain ⟨fn,fa,fb⟩:=f
 have he:(p.funs.map fuL)[(j:Int).toNat]? = some [.str fn,.slice 1 (fa.map fun s=>[Dat.str s]) false,I fb]:=he
 have hal:(fa.map fun s=>[Dat.str s]).length=fa.length:=by simp
 by_cases d1:30<fa.length
 ·rw [hone (by simp [fewF];omega)]
  have d1' : (30:Int)<((fa.map fun s=>[Dat.str s]).length:Nat):=by omega
  repeat refine aw ?_
  exact WT_leave (WT_ret rfl rfl rfl rfl rfl)
 have d1' : ¬(30:Int)<((fa.map fun s=>[Dat.str s]).length:Nat):=by omega
 by_cases d2:40<fn.length
 ·rw [hone (by simp [fewF];omega)]
  have d2' : (40:Int)<(fn.length:Nat):=by omega
  repeat refine aw ?_
  exact WT_leave (WT_ret rfl rfl rfl rfl rfl)
 have d2' : ¬(40:Int)<(fn.length:Nat):=by omega
 have hG1:=hG (by simp [fewF];omega)
 repeat refine aw ?_
 exact WT_next j hG1 (by exact Uw.wM)
def funI (p:Pg) (s:Str):Int:=match funP p s with|some i=>((i:Nat):Int)|none=>-1
theorem funP_at {p:Pg} {s:Str} (j:Nat) (h:j<p.funs.length) (hn:p.funs[j].name=s) (hb:∀i,(hi:i<j)→¬p.funs[i].name=s):funP p s=some j:=by
 refine List.findIdx?_eq_some_iff_getElem.2 ⟨h,by simpa using hn,fun i hi hh=>?_⟩
 exact hb i hi (by simpa using hh)
theorem funP_none {p:Pg} {s:Str} (h:∀(j:Nat) (h:j<p.funs.length),¬p.funs[j].name=s):funP p s=none:=by
 rw [funP,List.findIdx?_eq_none_iff]
 intro f hf
 obtain ⟨j,hj,rfl⟩:=List.mem_iff_getElem.1 hf
 simpa using h j hj
end Uw.Tryz
namespace Uw.Tryz
open Go Uw
theorem formed_node {p:Pg} (h:formedP p=true) (i:Nat) (hi:i<p.nodes.length):(∀k∈p.nodes[i].of,0≤k∧k<(i:Int))∧shapedF p.nodes p.nodes[i]=true:=by
 have h1:=h
 simp only [formedP,Bool.and_eq_true] at h1
 have key:∀(l:List Nd) (b:Nat),nodesOK p.nodes b l=true→∀(i:Nat) (hi:i<l.length),(∀k∈l[i].of,0≤k∧k<((b+i:Nat):Int))∧shapedF p.nodes l[i]=true:=by
  intro l
  induction l with
  | nil=>intro b _ i hi;simp at hi
  | cons y l ih=>
   intro b hb i hi
   simp only [nodesOK,Bool.and_eq_true] at hb
   cases i with
   | zero=>
    have h2:=hb.1
    simp only [nodeOK,Bool.and_eq_true,List.all_eq_true] at h2
    exact ⟨fun k hk=>by simpa using h2.1 k hk,h2.2⟩
   | succ i=>
    obtain ⟨h3,h4⟩:=ih (b+1) hb.2 i (by simpa using hi)
    exact ⟨fun k hk=>by have:=h3 k hk;omega,h4⟩
 obtain ⟨h3,h4⟩:=key p.nodes 0 h1.1.1 i hi
 exact ⟨fun k hk=>by have:=h3 k hk;omega,h4⟩
theorem formed_body {p:Pg} (h:formedP p=true) (i:Nat) (hi:i<p.funs.length):0≤p.funs[i].body∧p.funs[i].body<p.nodes.length∧kindAt p.nodes p.funs[i].body=18:=by
 simp only [formedP,Bool.and_eq_true,List.all_eq_true] at h
 have:=h.1.2 _ (List.getElem_mem hi)
 simp only [bodyOK,Bool.and_eq_true,decide_eq_true_eq] at this
 exact ⟨this.1.1,this.1.2,this.2⟩
theorem formed_up {p:Pg} (h:formedP p=true) (k:Nat) (hk:k<p.nodes.length) (hb:∀(i:Nat) (hi:i<p.funs.length),p.funs[i].body≠(k:Int)):∃i,∃hi:i<p.nodes.length,(k:Int)∈p.nodes[i].of:=by
 have h1:=formed_count h k hk
 have h2:(k:Int)∈usesL p:=List.count_pos_iff.1 (by omega)
 rcases List.mem_append.1 h2 with h3|h3
 ·obtain ⟨x,hx,hk⟩:=List.mem_flatMap.1 h3
  obtain ⟨i,hi,rfl⟩:=List.mem_iff_getElem.1 hx
  exact ⟨i,hi,hk⟩
 ·obtain ⟨f,hf,he⟩:=List.mem_map.1 h3
  obtain ⟨i,hi,rfl⟩:=List.mem_iff_getElem.1 hf
  exact absurd he (hb i hi)
structure Ups (p:Pg) (own:List Int):Prop where
 len:own.length=p.nodes.length
 body:∀(i:Nat) (h:i<p.funs.length) (k:Nat),k<p.nodes.length→p.funs[i].body=(k:Int)→own.getD k 0=(i:Int)
 kid:∀(i:Nat) (h:i<p.nodes.length) (k:Nat),(k:Int)∈p.nodes[i].of→own.getD k 0=own.getD i 0∧k<i
 up:∀(k:Nat),k<p.nodes.length→(∀(i:Nat) (hi:i<p.funs.length),p.funs[i].body≠(k:Int))→(∀(i:Nat) (hi:i<p.nodes.length),(k:Int)∉p.nodes[i].of)→False
theorem formed_ups {p:Pg} (h:formedP p=true):Ups p (ownersP p):=by
 have ho:=owns h
 refine ⟨ownersP_len p,fun i hi k hk e=>?_,fun i hi k hm=>⟨ho.kid i hi k hm,?_⟩,fun k hk h1 h2=>?_⟩
 ·have:=ho.body i hi
  rw [e] at this
  simpa using this
 ·have:=(formed_node h i hi).1 _ hm;omega
 ·obtain ⟨i,hi,hm⟩:=formed_up h k hk h1
  exact h2 i hi hm
theorem own_in {p:Pg} (h:formedP p=true):∀(d k:Nat),k<p.nodes.length→p.nodes.length - k≤d→0≤(ownersP p).getD k 0∧(ownersP p).getD k 0<p.funs.length
 | 0,k,hk,hd=>by omega
 | d+1,k,hk,hd=>by
  have hu:=formed_ups h
  by_cases hb:∃(i:Nat) (hi:i<p.funs.length),p.funs[i].body=(k:Int)
  ·obtain ⟨i,hi,e⟩:=hb
   rw [hu.body i hi k hk e];omega
  ·obtain ⟨i,hi,hm⟩:=formed_up h k hk fun i hi e=>hb ⟨i,hi,e⟩
   obtain ⟨e,hlt⟩:=hu.kid i hi k hm
   rw [e]
   exact own_in h d i hi (by omega)
def locR (p:Pg) (f:Int):List (Nd×Int)→List Str→List Str
 | [],l=>l
 | (x,o)::r,l=>locR p f r (if localN p x=true∧o=f∧x.name∉l then l++[x.name] else l)
theorem addLocal_get (ls:List (List Str)) (g f:Nat) (s:Str) (hf:f<ls.length):(addLocal ls g s).getD f []=if g=f∧s∉ls.getD f [] then ls.getD f []++[s] else ls.getD f []:=by
 unfold addLocal
 by_cases hg:g=f
 ·subst hg
  by_cases hm:s∈ls.getD g []
  ·rw [if_pos hm,if_neg fun h=>h.2 hm]
  ·rw [if_neg hm,if_pos ⟨rfl,hm⟩]
   simp [List.getD,List.getElem?_set,hf]
 ·rw [if_neg (fun h:g=f∧s∉ls.getD f []=>hg h.1)]
  split
  ·rfl
  ·simp [List.getD,List.getElem?_set,hg]
theorem addLocal_len (ls:List (List Str)) (g:Nat) (s:Str):(addLocal ls g s).length=ls.length:=by
 unfold addLocal
 split<;>simp
theorem locals_one {p:Pg} (f:Nat):∀(r:List (Nd×Int)) (ls:List (List Str)),f<ls.length→(∀y∈r,0≤y.2)→(localsGo p r ls).getD f []=locR p f r (ls.getD f [])
 | [],ls,_,_=>rfl
 | (x,o)::r,ls,hf,h=>by
  have h0:=h (x,o) (by simp)
  simp only at h0
  rw [localsGo,locR]
  by_cases hl:localN p x=true
  ·rw [if_pos hl,locals_one f r _ (by rw [addLocal_len];exact hf) fun y hy=>h y (by simp [hy]),addLocal_get _ _ _ _ hf]
   congr 1
   by_cases ho:o=(f:Int)
   ·subst ho;simp [hl]
   ·rw [if_neg (by omega),if_neg (by simp [ho])]
  ·rw [if_neg hl,if_neg (by simp [hl]),locals_one f r ls hf fun y hy=>h y (by simp [hy])]
theorem localsP_get {p:Pg} (h:formedP p=true) (f:Nat) (hf:f<p.funs.length):(localsP p).getD f []=locR p f (p.nodes.zip (ownersP p)) p.funs[f].args:=by
 rw [localsP,locals_one f _ _ (by simpa using hf)]
 ·simp [List.getD,hf]
 ·rintro ⟨x,o⟩ hy
  obtain ⟨i,hi,he⟩:=List.mem_iff_getElem.1 hy
  rw [List.length_zip] at hi
  have:=own_in h _ i (by omega) (Nat.le_refl _)
  rw [List.getElem_zip] at he
  injection he with e1 e2
  rw [← e2]
  have e:(ownersP p).getD i 0=(ownersP p)[i]'(by omega):=by simp [List.getD,show i<(ownersP p).length by omega]
  rw [e] at this
  exact this.1
end Uw.Tryz
namespace Uw.Tryz
open Go Uw
theorem s_ref06_sort (k:Int):Ret P0 n_ref06_sort [I k] (I (sortI k)):=by
 by_cases h1:1≤k
 ·by_cases h2:k≤8
  ·rw [show sortI k=1 by rw [sortI,if_pos ⟨h1,h2⟩]]
   refine Ret_by is_ref06_sort rfl ?_
   repeat refine aw ?_
   exact WT_ret rfl rfl rfl rfl rfl
  ·by_cases h3:k≤17
   ·rw [show sortI k=2 by rw [sortI,if_neg (by omega),if_pos (by omega)]]
    have h4:9≤k:=by omega
    refine Ret_by is_ref06_sort rfl ?_
    repeat refine aw ?_
    exact WT_ret rfl rfl rfl rfl rfl
   ·by_cases h5:k=18
    ·subst h5
     refine Ret_by is_ref06_sort rfl ?_
     repeat refine aw ?_
     exact WT_ret rfl rfl rfl rfl rfl
    ·rw [show sortI k=0 by rw [sortI,if_neg (by omega),if_neg (by omega),if_neg h5]]
     refine Ret_by is_ref06_sort rfl ?_
     repeat refine aw ?_
     exact WT_ret rfl rfl rfl rfl rfl
 ·rw [show sortI k=0 by rw [sortI,if_neg (by omega),if_neg (by omega),if_neg (by omega)]]
  have h4:¬9≤k:=by omega
  have h5:¬k=18:=by omega
  refine Ret_by is_ref06_sort rfl ?_
  repeat refine aw ?_
  exact WT_ret rfl rfl rfl rfl rfl
def thingD (p:Pg) (s:Str):Dat:=.tuple [I ((thingP p s).getD (-1)),.bool (thingP p s).isSome]
theorem thing_at {p:Pg} {s:Str} (j:Nat) (h:j<p.decls.length) (hn:p.decls[j].name=s) (hb:∀i,(hi:i<j)→∀h:i<p.decls.length,¬p.decls[i].name=s):thingP p s=some p.decls[j].kind:=by
 unfold thingP
 rw [List.find?_eq_some_iff_getElem.2 ⟨by simpa using hn,j,h,rfl,fun i hi=>by simpa using hb i hi (by omega)⟩]
 rfl
theorem thing_none {p:Pg} {s:Str} (h:∀(j:Nat) (h:j<p.decls.length),¬p.decls[j].name=s):thingP p s=none:=
 thingP_last.2 fun d hd=>by
  obtain ⟨j,hj,rfl⟩:=List.mem_iff_getElem.1 hd
  exact h j hj
set_option maxHeartbeats 2000000 in
theorem s_ref06_thing (p:Pg) (s:Str) (hp:p.decls.length<1000000):Ret P0 n_ref06_thing [pgD p,.str s] (thingD p s):=by
 have hdl:(p.decls.map decL).length=p.decls.length:=by simp
 have hall:(∀(j:Nat) (h:j<p.decls.length),¬p.decls[j].name=s)→thingD p s = .tuple [I (-1),.bool false]:=fun h=>by rw [thingD,thing_none h];rfl
 have hone:∀(j:Nat) (h:j<p.decls.length),(∀i,i<j→∀h:i<p.decls.length,¬p.decls[i].name=s)→p.decls[j].name=s→thingD p s = .tuple [I p.decls[j].kind,.bool true]:=fun j h hb e=>by
  rw [thingD,thing_at j h e hb];rfl
 have hel:∀(j:Nat) (h:j<p.decls.length),(p.decls.map decL)[(j:Int).toNat]? = some (decL p.decls[j]):=fun j h=>by simp [h]
 generalize thingD p s=R at *
 refine Ret_by is_ref06_thing rfl ?_
 repeat refine aw ?_
 refine WT_for p.decls.length (fun j:Nat=>⟨[(6,.d (I j)),(1,.d (.str s)),(2,.ptr 0 0)],[(0,pgV p)],1,[],0⟩) (fun j=>∀h:j<p.decls.length,¬p.decls[j].name=s) (by exact Uw.wM) (fun g=>?_) (fun j hj hpre=>?_)
 ·rw [hall fun j h=>g j h h]
  refine aw ?_
  refine WT_break ?_
  exact WT_ret rfl rfl rfl rfl rfl
 have he:=hel j hj
 have hone:=hone j hj hpre
 have hG:¬p.decls[j].name=s→(fun j=>∀h:j<p.decls.length,¬p.decls[j].name=s) j:=fun h _=>h
 clear hall hel
 generalize p.decls[j]=f at *
 obtain ⟨dk,dn,dv⟩:=f
 have he:(p.decls.map decL)[(j:Int).toNat]? = some [I dk,.str dn,I dv]:=he
 simp only at hone hG
 by_cases q:dn=s
 ·rw [hone q]
  repeat refine aw ?_
  exact WT_leave (WT_ret rfl rfl rfl rfl rfl)
 ·have hG1:=hG q
  repeat refine aw ?_
  exact WT_next j hG1 (by exact Uw.wM)
set_option maxHeartbeats 2000000 in
theorem s_ref06_fun (p:Pg) (s:Str) (hp:p.funs.length<1000000):Ret P0 n_ref06_fun [pgD p,.str s] (I (funI p s)):=by
 have hfl:(p.funs.map fuL).length=p.funs.length:=by simp
 have hall:(∀(j:Nat) (h:j<p.funs.length),¬p.funs[j].name=s)→funI p s = -1:=fun h=>by rw [funI,funP_none h]
 have hone:∀(j:Nat) (h:j<p.funs.length),(∀i,i<j→∀h:i<p.funs.length,¬p.funs[i].name=s)→p.funs[j].name=s→funI p s=(j:Nat):=fun j h hb e=>by
  rw [funI,funP_at j h e fun i hi=>hb i hi (by omega)]
 have hel:∀(j:Nat) (h:j<p.funs.length),(p.funs.map fuL)[(j:Int).toNat]? = some (fuL p.funs[j]):=fun j h=>by simp [h]
 generalize funI p s=R at *
 refine Ret_by is_ref06_fun rfl ?_
 repeat refine aw ?_
 refine WT_for p.funs.length (fun j:Nat=>⟨[(5,.d (I j)),(1,.d (.str s)),(2,.ptr 0 0)],[(0,pgV p)],1,[],0⟩) (fun j=>∀h:j<p.funs.length,¬p.funs[j].name=s) (by exact Uw.wM) (fun g=>?_) (fun j hj hpre=>?_)
 ·rw [hall fun j h=>g j h h]
  refine aw ?_
  refine WT_break ?_
  exact WT_ret rfl rfl rfl rfl rfl
 have he:=hel j hj
 have hone:=hone j hj hpre
 have hG:¬p.funs[j].name=s→(fun j=>∀h:j<p.funs.length,¬p.funs[j].name=s) j:=fun h _=>h
 clear hall hel
 generalize p.funs[j]=f at *
 obtain ⟨fn,fa,fb⟩:=f
 have he:(p.funs.map fuL)[(j:Int).toNat]? = some [.str fn,strsC fa,I fb]:=he
 simp only at hone hG
 by_cases q:fn=s
 ·rw [hone q]
  repeat refine aw ?_
  exact WT_leave (WT_ret rfl rfl rfl rfl rfl)
 ·have hG1:=hG q
  repeat refine aw ?_
  exact WT_next j hG1 (by exact Uw.wM)
def kindN (l:List Dec) (k:Int):Nat:=l.countP fun d=>decide (d.kind=k)
theorem kindN_le (l:List Dec) (k:Int):kindN l k≤l.length:=List.countP_le_length
theorem kindN_step (l:List Dec) (k:Int) (j:Nat) (h:j<l.length):kindN (l.take (j+1)) k=if l[j].kind=k then kindN (l.take j) k+1 else kindN (l.take j) k:=by
 rw [List.take_succ_eq_append_getElem h,kindN,List.countP_append]
 by_cases e:l[j].kind=k
 ·rw [if_pos e];simp [e,kindN]
 ·rw [if_neg e];simp [e,kindN]
set_option maxHeartbeats 2000000 in
theorem s_ref06_decls (p:Pg) (k:Int) (hp:p.decls.length<1000000):Ret P0 n_ref06_decls [pgD p,I k] (I (kindN p.decls k:Nat)):=by
 have hdl:(p.decls.map decL).length=p.decls.length:=by simp
 obtain ⟨E,hE⟩:∃E:Nat→Nat,∀j,E j=kindN (p.decls.take j) k:=⟨_,fun _=>rfl⟩
 have hE0:E 0=0:=by rw [hE];rfl
 have hEn:E p.decls.length=kindN p.decls k:=by rw [hE,List.take_length]
 have hEl:∀j,E j≤p.decls.length:=fun j=>by
  rw [hE]
  refine Nat.le_trans (kindN_le _ _) ?_
  rw [List.length_take];omega
 have hEs:∀(j:Nat) (h:j<p.decls.length),E (j+1)=if p.decls[j].kind=k then E j+1 else E j:=fun j h=>by rw [hE,hE];exact kindN_step _ _ j h
 have hel:∀(j:Nat) (h:j<p.decls.length),(p.decls.map decL)[(j:Int).toNat]? = some (decL p.decls[j]):=fun j h=>by simp [h]
 rw [← hEn]
 clear hE hEn
 refine Ret_by is_ref06_decls rfl ?_
 repeat refine aw ?_
 refine WT_for p.decls.length (fun j:Nat=>⟨[(6,.d (I j)),(5,.d (I (E j:Nat))),(1,.d (I k)),(2,.ptr 0 0)],[(0,pgV p)],1,[],0⟩) (fun _=>True) (by exact Uw.wM) (fun _=>?_) (fun j hj _=>?_)
 ·refine aw ?_
  refine WT_break ?_
  exact WT_ret rfl rfl rfl rfl rfl
 have he:=hel j hj
 have hEs:=hEs j hj
 have hEl:=hEl j
 clear hel
 generalize p.decls[j]=f at *
 obtain ⟨dk,dn,dv⟩:=f
 have he:(p.decls.map decL)[(j:Int).toNat]? = some [I dk,.str dn,I dv]:=he
 simp only at hEs
 by_cases q:dk=k
 ·rw [if_pos q] at hEs
  repeat refine aw ?_
  exact WT_next j trivial (by exact Uw.wM)
 ·rw [if_neg q] at hEs
  repeat refine aw ?_
  exact WT_next j trivial (by exact Uw.wM)
theorem s_ref06_many (k:Int) (s:Str):Ret P0 n_ref06_many [I k,.str s] (I ((needsP k s).getD (-1))):=by
 by_cases k1:k=1
 ·subst k1
  by_cases a1:s=sGet
  ·subst a1;refine Ret_by is_ref06_many rfl ?_;repeat refine aw ?_
   exact WT_ret rfl rfl rfl rfl rfl
  by_cases a2:s=sDel
  ·subst a2;refine Ret_by is_ref06_many rfl ?_;repeat refine aw ?_
   exact WT_ret rfl rfl rfl rfl rfl
  by_cases a3:s=sPut
  ·subst a3;refine Ret_by is_ref06_many rfl ?_;repeat refine aw ?_
   exact WT_ret rfl rfl rfl rfl rfl
  rw [show (needsP 1 s).getD (-1) = -1 by simp [needsP,a1,a2,a3]]
  have b1:¬s=[103,101,116]:=a1
  have b2:¬s=[100,101,108]:=a2
  have b3:¬s=[112,117,116]:=a3
  refine Ret_by is_ref06_many rfl ?_;repeat refine aw ?_
  exact WT_ret rfl rfl rfl rfl rfl
 by_cases k2:k=2
 ·subst k2
  by_cases a1:s=sPush
  ·subst a1;refine Ret_by is_ref06_many rfl ?_;repeat refine aw ?_
   exact WT_ret rfl rfl rfl rfl rfl
  by_cases a2:s=sPop
  ·subst a2;refine Ret_by is_ref06_many rfl ?_;repeat refine aw ?_
   exact WT_ret rfl rfl rfl rfl rfl
  rw [show (needsP 2 s).getD (-1) = -1 by simp [needsP,a1,a2]]
  have b1:¬s=[112,117,115,104]:=a1
  have b2:¬s=[112,111,112]:=a2
  refine Ret_by is_ref06_many rfl ?_;repeat refine aw ?_
  exact WT_ret rfl rfl rfl rfl rfl
 by_cases k3:k=3
 ·subst k3
  by_cases a1:s=sSend
  ·subst a1;refine Ret_by is_ref06_many rfl ?_;repeat refine aw ?_
   exact WT_ret rfl rfl rfl rfl rfl
  by_cases a2:s=sRecv
  ·subst a2;refine Ret_by is_ref06_many rfl ?_;repeat refine aw ?_
   exact WT_ret rfl rfl rfl rfl rfl
  rw [show (needsP 3 s).getD (-1) = -1 by simp [needsP,a1,a2]]
  have b1:¬s=[115,101,110,100]:=a1
  have b2:¬s=[114,101,99,118]:=a2
  refine Ret_by is_ref06_many rfl ?_;repeat refine aw ?_
  exact WT_ret rfl rfl rfl rfl rfl
 rw [show (needsP k s).getD (-1) = -1 by simp [needsP,k1,k2,k3]]
 refine Ret_by is_ref06_many rfl ?_;repeat refine aw ?_
 exact WT_ret rfl rfl rfl rfl rfl
end Uw.Tryz
namespace Uw.Tryz
open Go Uw
theorem count_step (l:List Int) (k:Int) (j:Nat) (h:j<l.length):(l.take (j+1)).count k=if l[j]=k then (l.take j).count k+1 else (l.take j).count k:=by
 rw [List.take_succ_eq_append_getElem h,List.count_append]
 by_cases e:l[j]=k
 ·rw [if_pos e];simp [e]
 ·rw [if_neg e];simp [e]
theorem flat_len:∀(l:List Nd),(∀x∈l,x.of.length<100000)→(l.flatMap (·.of)).length≤l.length * 100000
 | [],_=>by simp
 | x::l,h=>by
  have:=h x (by simp)
  have:=flat_len l fun y hy=>h y (by simp [hy])
  rw [List.flatMap_cons,List.length_append,List.length_cons]
  omega
set_option maxRecDepth 4000 in
set_option maxHeartbeats 4000000 in
theorem s_ref06_uses (p:Pg) (k:Int) (hp:Lim p):Ret P0 n_ref06_uses [pgD p,I k] (I ((usesL p).count k:Nat)):=by
 have hN:=hp.nodes
 have hF:=hp.funs
 have hnl:(p.nodes.map ndL).length=p.nodes.length:=by simp
 have hfl:(p.funs.map fuL).length=p.funs.length:=by simp
 obtain ⟨E,hE⟩:∃E:Nat→Nat,∀j,E j=((p.nodes.take j).flatMap (·.of)).count k:=⟨_,fun _=>rfl⟩
 have hE0:E 0=0:=by rw [hE];simp
 have hEl:∀j,j≤p.nodes.length→E j≤10000000000:=fun j hj=>by
  have h1:=flat_len (p.nodes.take j) fun x hx=>hp.of x (List.mem_of_mem_take hx)
  rw [List.length_take] at h1
  have h2:E j≤((p.nodes.take j).flatMap (·.of)).length:=by rw [hE];exact List.count_le_length
  have h3:min j p.nodes.length * 100000≤100000 * 100000:=Nat.mul_le_mul_right _ (by omega)
  omega
 have hEs:∀(j:Nat) (h:j<p.nodes.length),E (j+1)=E j+p.nodes[j].of.count k:=fun j h=>by
  rw [hE,hE,List.take_succ_eq_append_getElem h,List.flatMap_append,List.count_append]
  simp
 obtain ⟨F,hF0⟩:∃F:Nat→Nat,∀j,F j=E p.nodes.length+((p.funs.take j).map (·.body)).count k:=⟨_,fun _=>rfl⟩
 have hFb:F 0=E p.nodes.length:=by rw [hF0];simp
 have hFe:F p.funs.length=(usesL p).count k:=by
  rw [hF0,hE,List.take_length,List.take_length,usesL,List.count_append]
 have hFs:∀(j:Nat) (h:j<p.funs.length),F (j+1)=if p.funs[j].body=k then F j+1 else F j:=fun j h=>by
  have:=count_step (p.funs.map (·.body)) k j (by simpa using h)
  rw [hF0,hF0,List.map_take,List.map_take,this]
  simp only [List.getElem_map]
  split<;>rfl
 have hFl:∀j,j≤p.funs.length→F j≤10000100000:=fun j hj=>by
  have h2:((p.funs.take j).map (·.body)).count k≤((p.funs.take j).map (·.body)).length:=List.count_le_length
  rw [List.length_map,List.length_take] at h2
  have:=hEl p.nodes.length (Nat.le_refl _)
  rw [hF0];omega
 have hof:=fun (j:Nat) (h:j<p.nodes.length)=>hp.of p.nodes[j] (List.getElem_mem h)
 have hel1:∀(j:Nat) (h:j<p.nodes.length),(p.nodes.map ndL)[(j:Int).toNat]? = some (ndL p.nodes[j]):=fun j h=>by simp [h]
 have hel2:∀(j:Nat) (h:j<p.funs.length),(p.funs.map fuL)[(j:Int).toNat]? = some (fuL p.funs[j]):=fun j h=>by simp [h]
 rw [← hFe]
 clear hE hF0 hFe
 refine Ret_by is_ref06_uses rfl ?_
 repeat refine aw ?_
 refine WT_for p.nodes.length (fun j:Nat=>⟨[(6,.d (I j)),(5,.d (I (E j:Nat))),(1,.d (I k)),(2,.ptr 0 0)],[(0,pgV p)],1,[],0⟩) (fun _=>True) (by exact Uw.wM) (fun _=>?_) (fun j hj _=>?_)
 rotate_left 1
 ·have he:=hel1 j hj
  have hEs:=hEs j hj
  have hEl0:=hEl j (by omega)
  have hEl1:=hEl (j+1) (by omega)
  have hof:=hof j hj
  clear hel1 hel2 hFs hFb hFl hEl hE0
  generalize p.nodes[j]=x at *
  obtain ⟨xk,xn,xs,xt,xo⟩:=x
  have he:(p.nodes.map ndL)[(j:Int).toNat]? = some [I xk,I xn,.str xs,.str xt,.slice 1 (xo.map fun i=>[I i]) false]:=he
  have hol:(xo.map fun i=>[I i]).length=xo.length:=by simp
  simp only at hEs hof
  obtain ⟨G,hG⟩:∃G:Nat→Nat,∀i,G i=E j+(xo.take i).count k:=⟨_,fun _=>rfl⟩
  have hG0:G 0=E j:=by rw [hG];simp
  have hGn:G xo.length=E (j+1):=by rw [hG,List.take_length,hEs]
  have hGs:∀(i:Nat) (h:i<xo.length),G (i+1)=if xo[i]=k then G i+1 else G i:=fun i h=>by
   rw [hG,hG,count_step _ _ _ h]
   split<;>rfl
  have hGl:∀i,G i≤E j+100000:=fun i=>by
   have h2:(xo.take i).count k≤(xo.take i).length:=List.count_le_length
   rw [List.length_take] at h2
   rw [hG];omega
  have hei:∀(i:Nat) (h:i<xo.length),(xo.map fun i=>[I i])[(i:Int).toNat]? = some [I xo[i]]:=fun i h=>by simp [h]
  clear hG hEs
  repeat refine aw ?_
  refine WT_for xo.length (fun i:Nat=>⟨[(7,.d (I i)),(6,.d (I j)),(5,.d (I (G i:Nat))),(1,.d (I k)),(2,.ptr 0 0)],[(0,pgV p)],1,[],0⟩) (fun _=>True) (by exact Uw.wM) (fun _=>?_) (fun i hi _=>?_)
  ·refine aw ?_
   refine aw ?_
   refine aw ?_
   refine WT_break ?_
   repeat refine aw ?_
   exact WT_next j trivial (by exact Uw.wM)
  have hei:=hei i hi
  have hGs:=hGs i hi
  have hGl:=hGl i
  clear hGn hG0
  generalize xo[i]=y at *
  by_cases q:y=k
  ·rw [if_pos q] at hGs
   repeat refine aw ?_
   exact WT_next i trivial (by exact Uw.wM)
  ·rw [if_neg q] at hGs
   repeat refine aw ?_
   exact WT_next i trivial (by exact Uw.wM)
 clear hEs hE0 hEl hel1 hof
 refine aw ?_
 refine WT_break ?_
 repeat refine aw ?_
 refine WT_for p.funs.length (fun j:Nat=>⟨[(8,.d (I j)),(5,.d (I (F j:Nat))),(1,.d (I k)),(2,.ptr 0 0)],[(0,pgV p)],1,[],0⟩) (fun _=>True) (by exact Uw.wM) (fun _=>?_) (fun j hj _=>?_)
 ·refine aw ?_
  refine WT_break ?_
  exact WT_ret rfl rfl rfl rfl rfl
 have he:=hel2 j hj
 have hFs:=hFs j hj
 have hFl:=hFl j (by omega)
 clear hel2 hFb
 generalize p.funs[j]=f at *
 obtain ⟨fn,fa,fb⟩:=f
 have he:(p.funs.map fuL)[(j:Int).toNat]? = some [.str fn,strsC fa,I fb]:=he
 simp only at hFs
 by_cases q:fb=k
 ·rw [if_pos q] at hFs
  repeat refine aw ?_
  exact WT_next j trivial (by exact Uw.wM)
 ·rw [if_neg q] at hFs
  repeat refine aw ?_
  exact WT_next j trivial (by exact Uw.wM)
theorem all_count {v:Int}:∀{so:List Int},(so.all fun s=>decide (s=v))=true→so.count v=so.length∧∀u,u≠v→so.count u=0
 | [],_=>by simp
 | s::so,h=>by
  simp only [List.all_cons,Bool.and_eq_true,decide_eq_true_eq] at h
  obtain ⟨rfl,h⟩:=h
  obtain ⟨h1,h2⟩:=all_count h
  exact ⟨by simp [h1],fun u hu=>by rw [List.count_cons,h2 u hu];simp [Ne.symm hu]⟩
inductive DocK (k n k0:Int) (so:List Int):Prop
 | num (h:k=1) (h1:so.length=0) (h2:0≤n) (h3:n<4294967296)
 | none (h:k=2∨k=12) (h1:so.length=0)
 | two (h:k=3∨k=4∨k=5∨k=6∨k=7∨k=11) (h1:so.length=2) (h2:so.count 1=2)
 | many (h:k=8∨k=10) (h1:so.count 1=so.length)
 | one (h:k=9∨k=15∨k=16) (h1:so.length=1) (h2:so.count 1=1)
 | act (h:k=17) (h1:so.length=1) (h2:k0=8)
 | cond (h:k=13) (h0:0<so.length) (h1:so.headD 0=1) (h2:so.count 1=1) (h3:so.count 2=0) (h4:so.count 3=1∨so.count 3=2)
 | loop (h:k=14) (h0:0<so.length) (h1:so.headD 0=1) (h2:so.count 1=1) (h3:so.count 2=0) (h4:so.count 3=1)
 | blk (h:k=18) (h1:so.count 2=so.length)
theorem shaped_doc {k n k0:Int} {so:List Int} (h:shapedS k n so k0=true):DocK k n k0 so∧so.count 1+so.count 2+so.count 3=so.length∧∀s∈so,s=1∨s=2∨s=3:=by
 unfold shapedS at h
 split at h
 ·rename_i hk
  simp only [Bool.and_eq_true,decide_eq_true_eq] at h
  obtain ⟨⟨rfl,h2⟩,h3⟩:=h
  exact ⟨.num hk rfl h2 h3,rfl,by simp⟩
 split at h
 ·rename_i hk
  simp only [decide_eq_true_eq] at h
  subst h
  exact ⟨.none hk rfl,rfl,by simp⟩
 split at h
 ·rename_i hk
  simp only [decide_eq_true_eq] at h
  subst h
  exact ⟨.two hk rfl rfl,rfl,by simp⟩
 split at h
 ·rename_i hk
  obtain ⟨h1,h2⟩:=all_count h
  refine ⟨.many hk h1,by rw [h1,h2 2 (by decide),h2 3 (by decide)];rfl,fun s hs=>.inl ?_⟩
  simpa using List.all_eq_true.1 h s hs
 split at h
 ·rename_i hk
  simp only [decide_eq_true_eq] at h
  subst h
  exact ⟨.one hk rfl rfl,rfl,by simp⟩
 split at h
 ·rename_i hk
  simp only [Bool.and_eq_true,decide_eq_true_eq] at h
  obtain ⟨rfl,h2⟩:=h
  exact ⟨.act hk rfl h2,rfl,by simp⟩
 split at h
 ·rename_i hk
  simp only [Bool.or_eq_true,decide_eq_true_eq] at h
  rcases h with rfl|rfl
  ·exact ⟨.cond hk (by decide) rfl rfl rfl (.inl rfl),rfl,by simp⟩
  ·exact ⟨.cond hk (by decide) rfl rfl rfl (.inr rfl),rfl,by simp⟩
 split at h
 ·rename_i hk
  simp only [decide_eq_true_eq] at h
  subst h
  exact ⟨.loop hk (by decide) rfl rfl rfl rfl,rfl,by simp⟩
 split at h
 ·rename_i hk
  obtain ⟨h1,h2⟩:=all_count h
  refine ⟨.blk hk h1,by rw [h1,h2 1 (by decide),h2 3 (by decide)];omega,fun s hs=>.inr (.inl ?_)⟩
  simpa using List.all_eq_true.1 h s hs
 ·cases h
end Uw.Tryz
namespace Uw.Tryz
open Go Uw
abbrev MS:=List (MKey×Dat)
theorem mget_mset:∀(es:MS) (k x:MKey) (d:Dat),mget (mset es k d) x=if x=k then some d else mget es x
 | [],k,x,d=>by
  simp only [mset,mget]
  by_cases h:x=k<;>simp [h]
 | (k0,v)::es,k,x,d=>by
  simp only [mset]
  by_cases h:k=k0
  ·subst h
   simp only [decide_true,mget]
   by_cases hx:x=k<;>simp [hx]
  ·simp only [decide_eq_false h,mget]
   by_cases hx:x=k0
   ·subst hx
    simp [Ne.symm h]
   ·simp only [decide_eq_false hx]
    exact mget_mset es k x d
theorem mset_len:∀(es:MS) (k:MKey) (d:Dat),(mset es k d).length=es.length+if (mget es k).isSome then 0 else 1
 | [],k,d=>rfl
 | (k0,v)::es,k,d=>by
  simp only [mset,mget]
  by_cases h:k=k0
  ·subst h;simp
  ·simp only [decide_eq_false h,List.length_cons,mset_len es k d];omega
def thStep (es:MS) (d:Dec):MS:=if (mget es (.s d.name)).isSome then es else mset es (.s d.name) (I d.kind)
def thE (ds:List Dec):MS:=ds.foldl thStep []
theorem thE_snoc (ds:List Dec) (d:Dec):thE (ds++[d])=thStep (thE ds) d:=by rw [thE,List.foldl_append];rfl
theorem thStep_get (es:MS) (d:Dec) (s:Str):mget (thStep es d) (.s s)=(mget es (.s s)).or (if d.name=s then some (I d.kind) else none):=by
 unfold thStep
 split
 ·rename_i h
  by_cases he:d.name=s
  ·subst he
   cases hm:mget es (.s d.name) with
   | none=>rw [hm] at h;cases h
   | some v=>rfl
  ·rw [if_neg he];simp
 ·rename_i h
  rw [mget_mset]
  by_cases he:d.name=s
  ·subst he
   simp only [if_true]
   cases hm:mget es (.s d.name) with
   | none=>rfl
   | some v=>rw [hm] at h;simp at h
  ·rw [if_neg he,if_neg (by simp;exact fun e=>he e.symm)];simp
theorem thFold_get:∀(ds:List Dec) (es:MS) (s:Str),mget (ds.foldl thStep es) (.s s)=(mget es (.s s)).or ((ds.find? fun d=>decide (d.name=s)).map fun d=>I d.kind)
 | [],es,s=>by simp
 | d::ds,es,s=>by
  rw [List.foldl_cons,thFold_get ds,thStep_get,List.find?_cons]
  by_cases h:d.name=s
  ·simp [h]
  ·simp [h]
theorem th_get (p:Pg) (s:Str):mget (thE p.decls) (.s s)=(thingP p s).map I:=by
 rw [thE,thFold_get,thingP]
 cases p.decls.find? fun d=>decide (d.name=s)<;>rfl
theorem thStep_len (es:MS) (d:Dec):(thStep es d).length=es.length+if (mget es (.s d.name)).isSome then 0 else 1:=by
 unfold thStep
 split
 ·simp
 ·rename_i h
  rw [mset_len];simp [h]
theorem thFold_len:∀(ds:List Dec) (es:MS),(ds.foldl thStep es).length≤es.length+ds.length∧((ds.foldl thStep es).length=es.length+ds.length↔(ds.map (·.name)).Nodup∧∀d∈ds,mget es (.s d.name)=none)
 | [],es=>by simp
 | d::ds,es=>by
  obtain ⟨h1,h2⟩:=thFold_len ds (thStep es d)
  rw [List.foldl_cons]
  rw [thStep_len] at h1 h2
  cases hm:mget es (.s d.name) with
  | some v=>
   rw [hm] at h1 h2
   simp only [Option.isSome_some,if_true,Nat.add_zero] at h1 h2
   refine ⟨by simp;omega,⟨fun h=>by simp at h;omega,fun h=>?_⟩⟩
   have:=h.2 d (by simp)
   rw [hm] at this;cases this
  | none=>
   rw [hm] at h1 h2
   simp only [Option.isSome_none,Bool.false_eq_true,if_false] at h1 h2
   refine ⟨by simp;omega,?_⟩
   have e:(ds.foldl thStep (thStep es d)).length=es.length+(d::ds).length↔(ds.foldl thStep (thStep es d)).length=es.length+1+ds.length:=by simp;omega
   rw [e,h2,List.map_cons,List.nodup_cons]
   have hg:∀s,mget (thStep es d) (.s s)=(mget es (.s s)).or (if d.name=s then some (I d.kind) else none):=thStep_get es d
   constructor
   ·rintro ⟨g1,g2⟩
    refine ⟨⟨fun hmem=>?_,g1⟩,fun x hx=>?_⟩
    ·obtain ⟨x,hx,he⟩:=List.mem_map.1 hmem
     have:=g2 x hx
     rw [hg,he,if_pos rfl,hm] at this;cases this
    ·rcases List.mem_cons.1 hx with rfl|hx
     ·exact hm
     ·have:=g2 x hx
      rw [hg] at this
      cases hmx:mget es (.s x.name) with
      | none=>rfl
      | some v=>rw [hmx] at this;cases this
   ·rintro ⟨⟨g0,g1⟩,g2⟩
    refine ⟨g1,fun x hx=>?_⟩
    rw [hg,g2 x (by simp [hx]),if_neg (fun e=>g0 (List.mem_map.2 ⟨x,hx,e.symm⟩))];rfl
set_option maxRecDepth 4000 in
set_option maxHeartbeats 4000000 in
theorem s_check_things (p:Pg) (hp:p.decls.length<100000):SatE P0 n_check_things [.agg [.d (.slice 3 (p.decls.map decL) false),.d (.slice 3 (p.funs.map fuL) false),.d (.slice 5 (p.nodes.map ndL) false)]] [] (.hnd 0) [.map none (thE p.decls)]:=by
 have hdl:(p.decls.map decL).length=p.decls.length:=by simp
 obtain ⟨E,hE⟩:∃E:Nat→MS,∀j,E j=thE (p.decls.take j):=⟨_,fun _=>rfl⟩
 have e0:([]:MS)=E 0:=by rw [hE];rfl
 have e1:thE p.decls=E p.decls.length:=by rw [hE,List.take_length]
 have hel:∀(j:Nat) (h:j<p.decls.length),(p.decls.map decL)[(j:Int).toNat]? = some (decL p.decls[j]):=by intro j h;simp [h]
 have hst:∀(j:Nat) (h:j<p.decls.length),((∃v,mget (E j) (.s p.decls[j].name)=some (I v))∧E j=E (j+1))∨(mget (E j) (.s p.decls[j].name)=none∧mset (E j) (.s p.decls[j].name) (I p.decls[j].kind)=E (j+1)):=by
  intro j h
  have e:E (j+1)=thStep (E j) p.decls[j]:=by rw [hE,hE,List.take_succ_eq_append_getElem h,thE_snoc]
  rw [e]
  unfold thStep
  cases hm:mget (E j) (.s p.decls[j].name) with
  | some v=>
   have:=th_get { p with decls:=p.decls.take j } p.decls[j].name
   rw [← hE] at this
   rw [hm] at this
   cases ht:thingP { p with decls:=p.decls.take j } p.decls[j].name with
   | none=>rw [ht] at this;cases this
   | some k=>rw [ht] at this;injection this with this;subst this;exact .inl ⟨⟨k,rfl⟩,by simp⟩
  | none=>exact .inr ⟨rfl,by simp⟩
 rw [e1]
 clear hE e1
 refine SatE_by is_check_things rfl ?_
 repeat refine aw ?_
 refine WT_for p.decls.length (fun j:Nat=>⟨[(12,.d (I j)),(11,.d (I ((p.decls.map decL).length:Nat))),(10,.d (.slice 3 (p.decls.map decL) false)),(3,.hnd 1)],[(1,.map none (E j))],2,[],0⟩) (fun _=>True) (by rw [← e0];exact Uw.wM) (fun _=>?_) (fun j hj _=>?_)
 ·repeat refine aw ?_
  refine WT_break ?_
  repeat refine aw ?_
  exact WT_eret 0 rfl rfl (Weak.eqs [(0,1)] rfl rfl rfl rfl rfl rfl rfl rfl rfl rfl)
 have he:=hel j hj
 have hs:=hst j hj
 clear hel hst
 generalize p.decls[j]=d at *
 obtain ⟨dk,ds,dn⟩:=d
 have he:(p.decls.map decL)[(j:Int).toNat]? = some [I dk,.str ds,I dn]:=he
 simp only at hs
 rcases hs with ⟨⟨v,hv⟩,h2⟩|⟨hv,h2⟩
 ·repeat (first|refine aw ?_|refine m1 ?_)
  exact WT_next j trivial (by exact Uw.wM)
 ·repeat (first|refine aw ?_|refine m1 ?_)
  exact WT_next j trivial (by exact Uw.wM)
end Uw.Tryz
namespace Uw.Tryz
open Go Uw Go.RowKit
abbrev owS (p:Pg) (k:Nat):St:=⟨owR,owH p (rowI (owK p k)),3,[],0⟩
def owN (p:Pg) (k:Nat):Nd:=p.nodes.getD (p.nodes.length - 1 - k) default
abbrev owP (p:Pg) (k:Nat):Regs:=[(32,.d (.agg (ndL (owN p k)))),(31,.d (I ((p.nodes.length - 1 - k:Nat):Int)))]
set_option maxRecDepth 4000 in
set_option maxHeartbeats 4000000 in
theorem ow_5 (p:Pg) (hp:Lim p) (k:Nat) (hk:k<p.nodes.length) (hx:∀j∈(owN p k).of,0≤j∧j<((p.nodes.length - 1 - k:Nat):Int)) :
  WT P0 (fun e s=>e = .normal∧WT P0 (fun e s'=>e = .normal∧s'.defers=[]∧Weak ⟨owR,s'.heap,s'.next,[],0⟩ (owS p (k+1))) (exec pc_check_owners_6 s Tree.done)) (exec pc_check_owners_5 ⟨owP p k++owR,(owS p k).heap,(owS p k).next,[],(owS p k).next⟩ Tree.done):=by
 have hlim:=hp.of (owN p k) (by rw [owN];simp [List.getD,show p.nodes.length - 1 - k<p.nodes.length by omega])
 have hN:=hp.nodes
 obtain ⟨i,hi⟩:∃i,p.nodes.length - 1 - k=i:=⟨_,rfl⟩
 have hin:i<p.nodes.length:=by omega
 have hnext:owK p (k+1)=ownKids (owK p k) i (owN p k):=by
  rw [owK_succ p k hk,owN]
  simp [List.getD,hi,hin]
 rw [hi] at hx
 obtain ⟨B,hB⟩:∃B:Nat→List Int,∀j,B j=((owN p k).of.take j).foldl (fun o k=>o.set k.toNat (o.getD i 0)) (owK p k):=⟨_,fun _=>rfl⟩
 obtain ⟨O,hO⟩:∃O:Nat→List (List Dat),∀j,O j=rowI (B j):=⟨_,fun _=>rfl⟩
 have hBl:∀j,(B j).length=p.nodes.length:=fun j=>by rw [hB,foldl_len,owK_len]
 have e0:rowI (owK p k)=O 0:=by rw [hO,hB];rfl
 have e1:rowI (owK p (k+1))=O (owN p k).of.length:=by rw [hO,hB,List.take_length,hnext];rfl
 have hstep:∀(j:Nat) (h:j<(owN p k).of.length),∃u v:Int,(O j)[0+(i:Int).toNat]? = some [I u]∧(O j)[0+(owN p k).of[j].toNat]? = some [I v]∧(O j).set (0+(owN p k).of[j].toNat) (setAt [I v] 0 [I u])=O (j+1):=by
  intro j h
  have h1:=hx _ (List.getElem_mem h)
  obtain ⟨u,u1,u2⟩:=rowI_at (o:=B j) (k:=(i:Int)) (by rw [hBl];omega)
  obtain ⟨v,v1,v2⟩:=rowI_at (o:=B j) (k:=(owN p k).of[j]) (by rw [hBl];omega)
  refine ⟨u,v,by rw [hO];exact u1,by rw [hO];exact v1,?_⟩
  rw [hO,hO,rowI_set,hB (j+1),List.take_succ_eq_append_getElem h,List.foldl_append,← hB,u2]
  rfl
 have hel:∀(j:Nat) (h:j<(owN p k).of.length),((owN p k).of.map fun i=>[I i])[(j:Int).toNat]? = some [I (owN p k).of[j]]:=by intro j h;simp [h]
 have hol:((owN p k).of.map fun i=>[I i]).length=(owN p k).of.length:=by simp
 have hlt:∀(j:Nat) (h:j<(owN p k).of.length),0≤(owN p k).of[j]∧(owN p k).of[j]<(i:Int):=fun j h=>hx _ (List.getElem_mem h)
 have goal2:∀T0 T1:List (List Dat),rowI (owK p k)=T0→rowI (owK p (k+1))=T1→(WT P0 (fun e s=>e = .normal∧WT P0 (fun e s'=>e = .normal∧s'.defers=[]∧Weak ⟨owR,s'.heap,s'.next,[],0⟩ ⟨owR,owH p T1,3,[],0⟩) (exec pc_check_owners_6 s Tree.done)) (exec pc_check_owners_5 ⟨[(32,.d (.agg (ndL (owN p k)))),(31,.d (I (i:Int)))]++owR,owH p T0,3,[],3⟩ Tree.done))→
   WT P0 (fun e s=>e = .normal∧WT P0 (fun e s'=>e = .normal∧s'.defers=[]∧Weak ⟨owR,s'.heap,s'.next,[],0⟩ (owS p (k+1))) (exec pc_check_owners_6 s Tree.done)) (exec pc_check_owners_5 ⟨owP p k++owR,(owS p k).heap,(owS p k).next,[],(owS p k).next⟩ Tree.done):=by
  intro T0 T1 h0 h1 h
  rw [← h0,← h1,← hi] at h
  exact h
 refine goal2 _ _ e0 e1 ?_
 clear goal2 hB hO hBl hnext hx e0 e1
 generalize owN p k=x at *
 obtain ⟨xk,xn,xs,xt,xo⟩:=x
 simp only at *
 show WT P0 _ (exec pc_check_owners_5 ⟨[(32,.d (.agg [I xk,I xn,.str xs,.str xt,intsD xo])),(31,.d (I (i:Int)))]++owR,owH p (O 0),3,[],3⟩ Tree.done)
 repeat refine aw ?_
 refine WT_done ⟨rfl,?_⟩
 repeat refine aw ?_
 refine WT_for xo.length (fun j:Nat=>⟨[(36,.d (I j)),(35,.d (I ((xo.map fun i=>[I i]).length:Nat))),(34,.d (intsD xo)),(6,.d (I i)),(3,.ptr 2 0),(1,.ptr 0 0)],owH p (O j),3,[],3⟩) (fun _=>True) (by exact Uw.wM) (fun _=>?_) (fun j hj _=>?_)
 ·repeat refine aw ?_
  refine WT_break ?_
  refine WT_done ⟨rfl,rfl,?_⟩
  exact Uw.wM
 have he:=hel j hj
 have hs:=hstep j hj
 have hbj:=hlt j hj
 clear hstep hel hlt
 generalize xo[j]=y at *
 obtain ⟨u,v,g1,g2,g3⟩:=hs
 obtain ⟨b1,b2⟩:=hbj
 repeat refine aw ?_
 exact WT_next j trivial (by exact Uw.wM)
theorem ow_put {c:Cx} {R:Regs} {t:Array Value} {d:Nat} {v:V} {x:Value} (hr:RelRegs c R t) (hd:d<t.size) (hv:RelV c v x):RelRegs c ((d,v)::R) (t.setIfInBounds d x):=by
 intro i u hu
 rw [look_cons] at hu
 by_cases hi:d=i
 ·subst hi
  rw [if_pos rfl] at hu
  injection hu with hu;subst hu
  rw [Array.getD_eq_getD_getElem?,Array.getElem?_setIfInBounds_self_of_lt hd]
  exact hv
 ·rw [if_neg hi] at hu
  rw [Array.getD_eq_getD_getElem?,Array.getElem?_setIfInBounds_ne hi,← Array.getD_eq_getD_getElem?]
  exact hr i u hu
theorem ow_range (p:Pg) (hf:formedP p=true) (hp:Lim p) {c1:Cx} {w00:World} {a:Act} {gs:Fr} {Bs:Nat} {C:Nat→Value} {OK:World→Prop} (hg:a.eval (.tmp 30) = .func (.func n_slices_Backward_1) #[] #[.pointer (some ⟨Bs,0,none⟩)])
  (hgs:∀c:Cx,gs.p c→∀(i:Nat) (h:i<p.nodes.length),RelI c.w (Imm c) (.agg (ndL p.nodes[i])) (.agg #[C (i * 5),C (i * 5+1),C (i * 5+2),C (i * 5+3),C (i * 5+4)]))
  (hOK:∀c:Cx,gs.p c→(∀b,c1.J0.X b→c.w.heap[b]? = c1.w.heap[b]?)→OK c.w)
  (hit:Iter P0 n_slices_Backward_1 #[.pointer (some ⟨Bs,0,none⟩)] (fun k=>#[.int .i64 ((p.nodes.length - 1 - k:Nat):Int),.agg #[C ((p.nodes.length - 1 - k) * 5),C ((p.nodes.length - 1 - k) * 5+1),C ((p.nodes.length - 1 - k) * 5+2),C ((p.nodes.length - 1 - k) * 5+3),C ((p.nodes.length - 1 - k) * 5+4)]]) p.nodes.length OK)
  (r:Rel c1 w00 49 gs (owS p 0) a) {Q:Exit→Act→World→Prop} (hdone:∀(c:Cx),c.B=c1.B→c.J0=(c1.others fun b=>b=c1.w.heap.size∨b=c1.w.heap.size+1).J0→Rel c c.w 49 gs (owS p p.nodes.length) a→Below c1.B c1.w c.w→c.w.heap[c1.w.heap.size]? = some (.deferred (some []))→
   Q .normal { a with defers:={ target:=.collected c1.w.heap.size,args:=#[] }::a.defers } c.w):(Code.rangeFunc (.tmp 30) #[31,32] (cL (cL (cR (cL (cR (cR (cR (fnCode P0 n_check_owners)))))))) (cR (cL (cR (cL (cR (cR (cR (fnCode P0 n_check_owners))))))))).wp P0 Q a c1.w:=by
 have hN:=hp.nodes
 have hat:∀(k:Nat) (h:k<p.nodes.length),owN p k=p.nodes[p.nodes.length - 1 - k]'(by omega):=fun k h=>by rw [owN];simp [List.getD,show p.nodes.length - 1 - k<p.nodes.length by omega]
 refine range_wp hg (Go.Proofs.enters_of Go.Proofs.Tryz.func80 (by kernel_rfl) rfl) p.nodes.length _ (fun k=>rfl) owR 0 (owS p) (fun k=>⟨rfl,rfl,rfl⟩) r OK hOK hit cp_check_owners_5 cp_check_owners_6 (by kernel_rfl) (by kernel_rfl) (owP p) ?_ ?_ hdone
 ·intro k c hk hgp hr
  have hsz:a.tmps.size=49:=r.size
  have h1:RelV c (.d (I ((p.nodes.length - 1 - k:Nat):Int))) (.int .i64 ((p.nodes.length - 1 - k:Nat):Int)):=by
   show RelI _ _ _ _
   simp only [RelI]
  have h2:=hgs c hgp (p.nodes.length - 1 - k) (by omega)
  rw [← hat k hk] at h2
  have he:∀(x1 x2:Value),(#[31,32].zip #[x1,x2]).foldl (fun t ((p,v):Nat×Value)=>t.setIfInBounds p v) a.tmps=(a.tmps.setIfInBounds 31 x1).setIfInBounds 32 x2:=fun _ _=>by simp only [List.zip_toArray,List.foldl_toArray];rfl
  show RelRegs c (owP p k++owR) ((#[31,32].zip #[_,_]).foldl (fun t ((p,v):Nat×Value)=>t.setIfInBounds p v) a.tmps)
  rw [he]
  exact ow_put (ow_put hr (show 31<a.tmps.size by omega) h1) (show 32<(a.tmps.setIfInBounds 31 _).size by simp;omega) (v:=.d (.agg (ndL (owN p k)))) h2
 ·intro k hk
  refine ow_5 p hp k hk ?_
  rw [hat k hk]
  exact (formed_node hf _ (by omega)).1
theorem s_check_owners (p:Pg) (hf:formedP p=true) (hp:Lim p):Ret P0 n_check_owners [pgD p] (intsD (ownersP p)):=by
 have hN:=hp.nodes
 refine Ret_of_wp hc_check_owners (Nat.le_of_ble_eq_true rfl) ?_
 rintro fn w J c a hres hB hJ rfl hd r
 refine wp_step cp_check_owners_1 r _ (ow_1 p) ?_
 intro c2 a2 b2 j2 r2
 refine wp_step cp_check_owners_2 r2 _ (ow_2 p hN) ?_
 intro c3 a3 b3 j3 r3
 refine wp_step cp_check_owners_3 r3 _ (ow_3 p hp fun i h=>⟨(formed_body hf i h).1,(formed_body hf i h).2.1⟩) ?_
 intro c4 a4 b4 j4 r4
 refine wp_seq (wp_step cp_check_owners_4 r4 _ (ow_4 p _) ?_)
 intro c5 a5 b5 j5 r5
 have hB5:c5.B=c.w.heap.size:=b5.trans (b4.trans (b3.trans (b2.trans hB)))
 have hJ5:c5.J0=⟨J,fun _=>False⟩:=j5.trans (j4.trans (j3.trans (j2.trans hJ)))
 have hd5:a5.defers=[]:=r5.defers
 -- the iterator's value,and its box
 obtain ⟨us,vs,hfv,hus,hvs⟩:=r5.regs 30 (.func n_slices_Backward_1 [] [.ptr 3 0]) rfl
 obtain ⟨v,vs',rfl,⟨_,hv⟩,hvs'⟩:=hvs
 simp only [RelVL] at hus hvs'
 subst hus hvs' hv
 obtain ⟨ws,e,hbox,hbv⟩:=r5.hrel.blk 3 (.var [.d (nodesD p.nodes)]) (by rw [r5.heap];rfl)
 obtain ⟨sv,ws',hws,hsv,hws'⟩:=hbv
 simp only [RelVL] at hws'
 subst hws'
 have hws:ws = #[sv]:=by rw [← Array.toList_inj];exact hws
 subst hws
 -- the box is forgotten,and nobody's from here on
 have hwk:WeakR (renF []) ⟨[(30,.func n_slices_Backward_1 [] [.ptr 3 0]),(3,.ptr 2 0),(1,.ptr 0 0)],(3,.var [.d (nodesD p.nodes)])::owH p (rowI (owF p p.funs.length)),4,[],0⟩ (owS p 0):=by
  refine WeakR.of ?_ ?_ rfl rfl ?_ rfl rfl<;>repeat' first|exact trivial|refine ⟨⟨_,rfl,?_⟩,?_⟩|exact Or.inl ⟨rfl,rfl⟩|exact BSim_by rfl rfl|refine ⟨⟨Or.inl ⟨_,rfl,?_⟩,rfl⟩,?_⟩|refine And.intro ?_ ?_
 obtain ⟨r6,hgb⟩:=r5.forget hwk (id0:=3) rfl rfl
 have hBs:(c5.pl 3).gb<c5.w.heap.size:=(Array.getElem?_eq_some_iff.1 hbox).1
 have hBB:c5.B≤(c5.pl 3).gb:=by
  have:=r5.hrel.ge 3 (.var [.d (nodesD p.nodes)]) (by rw [r5.heap];rfl) trivial
  exact Nat.le_of_not_lt fun h=>this (.inl h)
 have r7:=r6.others (fun b=>b=(c5.pl 3).gb) (fun b hb=>by subst hb;exact hBs) (fun b hb id blk hl hp=>by subst hb;exact hgb id blk hl hp)
 generalize hBe:(c5.pl 3).gb=Bs at *
 obtain ⟨c7,hc7⟩:∃c7,c7=(c5.weak (renF []) (owS p 0).heap).others (fun b=>b=Bs):=⟨_,rfl⟩
 rw [← hc7] at r7
 have hw7:c7.w=c5.w:=by rw [hc7];rfl
 have hB7:c7.B=c.w.heap.size:=by rw [hc7];exact hB5
 have hJ7:c7.J0=⟨fun b o=>J b o∨b=Bs,fun b=>False∨b=Bs⟩:=by
  rw [hc7]
  show (⟨fun b o=>c5.J0.J b o∨b=Bs,fun b=>c5.J0.X b∨b=Bs⟩:JX)=_
  rw [hJ5]
 have hsv7:RelI c7.w (Imm c7) (nodesD p.nodes) sv:=by
  have h1:RelI c5.w (Imm c5) (nodesD p.nodes) sv:=hsv
  have hk:Keeps c5.w c7.w (Imm c5) (Imm c7):=by
   intro b o hi
   rw [hc7]
   have h2:=keeps_weak (c:=c5) (ρ:=renF []) (h':=(owS p 0).heap) (by rw [r5.heap];exact hwk.heap) b o hi
   exact (Evo.others (c:=c5.weak (renF []) (owS p 0).heap) (fun b=>b=Bs)).keeps b o h2.1
  exact RelI.keep hk _ _ h1
 have hbox7:c7.w.heap[Bs]? = some (.cells #[sv] e (0,0)):=by rw [hw7];exact hbox
 rw [← hw7]
 have hbel:Below c.w.heap.size c.w c7.w:=by
  have:=r5.hrel.below
  rw [hB5] at this
  rw [hw7];exact this
 have hfin:∀(gs:Fr) (cc:Cx),cc.B=c7.B→cc.J0=(c7.others fun b=>b=c7.w.heap.size∨b=c7.w.heap.size+1).J0→Rel cc cc.w 49 gs (owS p p.nodes.length) a5→Below c7.B c7.w cc.w→cc.w.heap[c7.w.heap.size]? = some (.deferred (some []))→
   Code.wp P0 (cR (cR (cR (cR (fnCode P0 n_check_owners))))) (bodyPostM Fence.wide 0 P0 fn (RetR c.w J (intsD (ownersP p)))) { a5 with defers:={ target:=.collected c7.w.heap.size,args:=#[] }::a5.defers } cc.w:=by
  intro gs cc e1 e2 r8 e3 e4
  have hX:∀b,cc.J0.X b→c.w.heap.size≤b:=by
   intro b hb
   rw [e2] at hb
   have hs7:=hbel.size
   rcases hb with hb|hb|hb
   ·rw [hJ7] at hb
    rcases hb with hb|hb
    ·exact hb.elim
    ·rw [hb,← hB5];exact hBB
   ·rw [hb];exact hs7
   ·rw [hb];omega
  refine wp_end hres cp_check_owners_7 r8 hd5 (e1.trans hB7) (by rw [e2];exact .inr (.inl rfl)) hX ?_ e4 (hbel.trans (by rw [hB7] at e3;exact e3)) ?_
  ·intro b o hb
   rw [e2] at hb ⊢
   rcases hb with hb|hb
   ·rw [hJ7] at hb
    rcases hb with hb|hb
    ·exact .inl hb
    ·exact .inr (.inl (by rw [hJ7];exact .inr hb))
   ·exact .inr (.inr hb)
  ·have hl:(List.drop 0 (rowI (ownersP p))).take p.nodes.length=rowI (ownersP p):=by
    rw [List.drop_zero,List.take_of_length_le (by rw [rowI,List.length_map,ownersP_len];exact Nat.le_refl _)]
   rw [← owK_all] at hl ⊢
   show WT P0 (RetQ _ (.slice 1 (rowI (owK p p.nodes.length)) false)) (exec pc_check_owners_7 ⟨owR,owH p (rowI (owK p p.nodes.length)),3,[],0⟩ Tree.done)
   generalize rowI (owK p p.nodes.length)=O at *
   repeat refine aw ?_
   refine WT_ret rfl rfl rfl rfl ?_
   exact congrArg (fun l=>Dat.slice 1 l false) hl
 have hg:a5.eval (.tmp 30) = .func (.func n_slices_Backward_1) #[] #[.pointer (some ⟨Bs,0,none⟩)]:=hfv
 refine wp_block ?_
 rcases hsv7 with ⟨⟨x,hx,_⟩,hnil⟩|⟨b,off,cap,hx,hcap,_,hel⟩
 ·-- no nodes
  have hn0:p.nodes=[]:=by simpa using hnil
  refine ow_range p hf hp (gs:=Fr.none) (C:=fun _=>undef) (OK:=fun W=>W.cell? ⟨Bs,0,none⟩=some (.slice x 0 0)) hg (fun c _ i h=>by rw [hn0] at h;simp at h) ?_ ?_ r7 ?_
  ·intro c' _ hX
   have:=hX Bs (by rw [hJ7];exact .inr rfl)
   rw [World.cell?_of_block this]
   unfold World.cell?
   rw [hbox7,hx];rfl
  ·intro l J' W hY hOK' h0
   rw [hn0]
   exact Go.Proofs.Tryz.backward0_in l Bs x J' hOK' W h0
  ·intro cc e1 e2 r8 e3 e4
   exact hfin _ cc e1 e2 r8 e3 e4
 ·have hlen:(p.nodes.map ndL).length=p.nodes.length:=by simp
  have hat:NodesAt p.nodes b off (fun m=>(c7.w.cell? ⟨b,off+m,none⟩).getD undef) c7:=NodesAt.of fun i h=>by
   have:=RelE_get hel i (by rw [hlen];exact h)
   simpa using this
  generalize (fun m=>(c7.w.cell? ⟨b,off+m,none⟩).getD undef)=C at hat
  have r8:Rel c7 c5.w 49 (nodesFr p.nodes b off C) (owS p 0) a5:=by
   rw [← hw7]
   exact ⟨r7.heap,by rw [hw7];exact r7.hrel,r7.size,r7.regs,hat,Nat.zero_le _,r7.base,r7.defers⟩
  refine ow_range p hf hp (gs:=nodesFr p.nodes b off C) (C:=C) (OK:=fun W=>W.cell? ⟨Bs,0,none⟩=some (.slice (some ⟨b,off,none⟩) p.nodes.length cap)∧∀m,m<p.nodes.length * 5→W.cell? ⟨b,off+m,none⟩=some (C m)) hg (fun c h i hi=>NodesAt.agg h i hi) ?_ ?_ r8 ?_
  ·intro c' hc' hX
   refine ⟨?_,fun m hm=>NodesAt.cell hc' m hm⟩
   have:=hX Bs (by rw [hJ7];exact .inr rfl)
   rw [World.cell?_of_block this]
   unfold World.cell?
   rw [hbox7,hx,hlen];rfl
  ·intro l J' W hY hOK' h0
   exact Go.Proofs.Tryz.backward_in l Bs b off p.nodes.length cap C (by omega) J' hY hOK' W h0
  ·intro cc e1 e2 r9 e3 e4
   exact hfin _ cc e1 e2 r9 e3 e4
end Uw.Tryz
namespace Uw
open Go
mutual
theorem ren_nil:∀v:V,v.ren (renF [])=v
 | .ptr id o=>rfl
 | .eptr id v i c=>rfl
 | .ref id v o l=>rfl
 | .agg cs=>by rw [V.ren,renL_nil cs]
 | .func f fs cs=>by rw [V.ren,renL_nil fs,renL_nil cs]
 | .tuple cs=>by rw [V.ren,renL_nil cs]
 | .d x=>rfl
 | .ro cs o=>rfl
 | .hnd id=>rfl
 | .row id len=>rfl
 | .undef=>rfl
theorem renL_nil:∀l:List V,renL (renF []) l=l
 | []=>rfl
 | v::r=>by rw [renL,ren_nil v,renL_nil r]
end
section
variable [Glob]
theorem Weak.looks {R R' : Regs} {H H' : Heap} {n n' b:Nat} (h1:subR (renF []) R H H' R') (h2:∀id x,look H' id=some x→look H id=some x∧x.closed H' = true∧id<n') (h3:b≤n') (h4:∀id,id<b→(look H id).isSome=true→(look H' id).isSome=true):Weak ⟨R,H,n,[],b⟩ ⟨R',H',n',[],b⟩:=by
 refine ⟨renF [],fun i v h=>subR_look h1 i v h,fun i x h=>.inl ⟨x,(h2 i x h).1,BSim_by ?_ (h2 i x h).2.1⟩,fun i x h=>(h2 i x h).2.2,rfl,h3,fun id hid=>⟨rfl,h4 id hid⟩,fun id id' _ _ he=>he,rfl,rfl⟩
 cases x with
 | var cs=>show Blk.var cs=Blk.var (renL (renF []) cs);rw [renL_nil]
 | _=>rfl
theorem f1 {P:Program} {Q:MExit→St→Prop} {t t' : Tree} (hgo' : WT P Q t') (h:WT P Q t'→WT P Q t:=by
  first
  | (show _→WT _ _ (Tree.vval _ _)
     first
     | exact WT_vval _ (by assumption)
     | exact WT_vval _ rfl)
  | (show _→WT _ _ (Tree.blk _ _)
     first
     | exact WT_blk _ (by assumption)
     | exact WT_blk _ rfl)):WT P Q t:=h hgo'
end
end Uw
namespace Uw.Tryz
open Go Uw
abbrev rowT (l:List Str):List (List Dat):=l.map fun s=>[.str s]
def famG (rid mid:Nat→Nat):Nat→List (List Str)→List MS→Heap
 | i,l::ls,m::ms=>(if l=[] then [] else [(rid i,Blk.arr 1 (rowT l))])++(mid i,Blk.map none m)::famG rid mid (i+1) ls ms
 | _,_,_=>[]
structure FamI (rid mid:Nat→Nat) (n:Nat):Prop where
 rr:∀i j,i<n→j<n→rid i=rid j→i=j
 mm:∀i j,i<n→j<n→mid i=mid j→i=j
 rm:∀i j,i<n→j<n→rid i≠mid j
theorem look_app {h g:Heap} {id:Nat}:look (h++g) id=match look h id with|some b=>some b|none=>look g id:=by
 induction h with
 | nil=>rfl
 | cons p h ih=>
  obtain ⟨j,x⟩:=p
  rw [List.cons_append,look_cons,look_cons]
  by_cases hj:j=id
  ·rw [if_pos hj,if_pos hj]
  ·rw [if_neg hj,if_neg hj,ih]
theorem fam_inv {rid mid:Nat→Nat}:∀{ls:List (List Str)} {ms:List MS} {i id:Nat} {b:Blk},look (famG rid mid i ls ms) id=some b→
  (∃k m,k<ls.length∧k<ms.length∧ms[k]? = some m∧id=mid (i+k)∧b = .map none m)∨(∃k l,k<ls.length∧k<ms.length∧ls[k]? = some l∧l≠[]∧id=rid (i+k)∧b = .arr 1 (rowT l))
 | [],_,i,id,b,h=>by simp [famG,look] at h
 | l::ls,[],i,id,b,h=>by simp [famG,look] at h
 | l::ls,m::ms,i,id,b,h=>by
  rw [famG] at h
  by_cases hl:l=[]
  ·rw [if_pos hl,List.nil_append] at h
   have h:look ((mid i,Blk.map none m)::famG rid mid (i+1) ls ms) id=some b:=h
   rw [look_cons] at h
   by_cases hm:mid i=id
   ·rw [if_pos hm] at h;injection h with h
    exact .inl ⟨0,m,by simp,by simp,rfl,hm.symm,h.symm⟩
   ·rw [if_neg hm] at h
    rcases fam_inv h with ⟨k,m',h1,h2,h3,h4,h5⟩|⟨k,l',h1,h2,h3,h4,h5,h6⟩
    ·exact .inl ⟨k+1,m',by simpa using h1,by simpa using h2,by simpa using h3,by rw [h4];congr 1;omega,h5⟩
    ·exact .inr ⟨k+1,l',by simpa using h1,by simpa using h2,by simpa using h3,h4,by rw [h5];congr 1;omega,h6⟩
  ·rw [if_neg hl,List.cons_append,List.nil_append,look_cons] at h
   by_cases hr:rid i=id
   ·rw [if_pos hr] at h;injection h with h
    exact .inr ⟨0,l,by simp,by simp,rfl,hl,hr.symm,h.symm⟩
   ·rw [if_neg hr] at h
    have h:look ((mid i,Blk.map none m)::famG rid mid (i+1) ls ms) id=some b:=h
    rw [look_cons] at h
    by_cases hm:mid i=id
    ·rw [if_pos hm] at h;injection h with h
     exact .inl ⟨0,m,by simp,by simp,rfl,hm.symm,h.symm⟩
    ·rw [if_neg hm] at h
     rcases fam_inv h with ⟨k,m',h1,h2,h3,h4,h5⟩|⟨k,l',h1,h2,h3,h4,h5,h6⟩
     ·exact .inl ⟨k+1,m',by simpa using h1,by simpa using h2,by simpa using h3,by rw [h4];congr 1;omega,h5⟩
     ·exact .inr ⟨k+1,l',by simpa using h1,by simpa using h2,by simpa using h3,h4,by rw [h5];congr 1;omega,h6⟩
theorem fam_mid {rid mid:Nat→Nat} {n:Nat} (hI:FamI rid mid n):∀{ls:List (List Str)} {ms:List MS} {i k:Nat} {m:MS},i+ls.length≤n→k<ls.length→ms[k]? = some m→look (famG rid mid i ls ms) (mid (i+k))=some (.map none m)
 | [],ms,i,k,m,_,hk,_=>by simp at hk
 | l::ls,[],i,k,m,_,_,h=>by simp at h
 | l::ls,m0::ms,i,k,m,hn,hk,h=>by
  simp at hn hk
  have h1:∀(y:Heap),look ((if l=[] then [] else [(rid i,Blk.arr 1 (rowT l))])++y) (mid (i+k))=look y (mid (i+k)):=by
   intro y
   split
   ·rfl
   ·rw [List.cons_append,look_cons,if_neg (hI.rm i (i+k) (by omega) (by omega))];rfl
  rw [famG,h1,look_cons]
  cases k with
  | zero=>rw [if_pos (show mid i=mid (i+0) from rfl)];simp at h;rw [h]
  | succ k=>
   rw [if_neg (fun e=>by have:=hI.mm _ _ (by omega) (by omega) e;omega),show i+(k+1)=i+1+k by omega]
   exact fam_mid hI (by omega) (by omega) (by simpa using h)
theorem fam_rid {rid mid:Nat→Nat} {n:Nat} (hI:FamI rid mid n):∀{ls:List (List Str)} {ms:List MS} {i k:Nat} {l:List Str},i+ls.length≤n→k<ms.length→ls[k]? = some l→l≠[]→look (famG rid mid i ls ms) (rid (i+k))=some (.arr 1 (rowT l))
 | [],ms,i,k,l,_,_,h,_=>by simp at h
 | l0::ls,[],i,k,l,_,hk,_,_=>by simp at hk
 | l0::ls,m0::ms,i,k,l,hn,hk,h,hl=>by
  simp at hn hk
  have hkl:k<(l0::ls).length:=by
   rcases Nat.lt_or_ge k (l0::ls).length with g|g
   ·exact g
   ·rw [List.getElem?_eq_none g] at h;cases h
  simp at hkl
  rw [famG]
  cases k with
  | zero=>
   simp at h;subst h
   rw [if_neg hl,List.cons_append,look_cons,if_pos (by simp)]
  | succ k=>
   have h1:∀(y:Heap),look ((if l0=[] then [] else [(rid i,Blk.arr 1 (rowT l0))])++y) (rid (i+(k+1)))=look y (rid (i+(k+1))):=by
    intro y
    split
    ·rfl
    ·rw [List.cons_append,look_cons,if_neg (fun e=>by have:=hI.rr _ _ (by omega) (by omega) e;omega)];rfl
   rw [h1,look_cons,if_neg (fun e=>hI.rm (i+(k+1)) i (by omega) (by omega) e.symm),show i+(k+1)=i+1+k by omega]
   exact fam_rid hI (by omega) (by omega) (by simpa using h) hl
def rowsV (rid:Nat→Nat):Nat→List (List Str)→List V
 | _,[]=>[]
 | i,l::ls=>(if l=[] then V.d (.slice 1 [] true) else .ref (rid i) 0 0 l.length)::rowsV rid (i+1) ls
def mapsV (mid:Nat→Nat):Nat→Nat→List V
 | _,0=>[]
 | i,n+1=>.hnd (mid i)::mapsV mid (i+1) n
theorem rowsV_len (rid:Nat→Nat):∀(ls:List (List Str)) (i:Nat),(rowsV rid i ls).length=ls.length
 | [],_=>rfl
 | l::ls,i=>by rw [rowsV,List.length_cons,rowsV_len rid ls,List.length_cons]
theorem mapsV_len (mid:Nat→Nat):∀(n i:Nat),(mapsV mid i n).length=n
 | 0,_=>rfl
 | n+1,i=>by rw [mapsV,List.length_cons,mapsV_len mid n]
theorem rowsV_get (rid:Nat→Nat):∀(ls:List (List Str)) (i k:Nat) (l:List Str),ls[k]? = some l→(rowsV rid i ls)[k]? = some (if l=[] then V.d (.slice 1 [] true) else .ref (rid (i+k)) 0 0 l.length)
 | [],i,k,l,h=>by simp at h
 | l0::ls,i,0,l,h=>by simp at h;subst h;rfl
 | l0::ls,i,k+1,l,h=>by
  rw [rowsV,List.getElem?_cons_succ,rowsV_get rid ls (i+1) k l (by simpa using h),show i+1+k=i+(k+1) by omega]
theorem mapsV_get (mid:Nat→Nat):∀(n i k:Nat),k<n→(mapsV mid i n)[k]? = some (.hnd (mid (i+k)))
 | 0,i,k,h=>by omega
 | n+1,i,0,h=>rfl
 | n+1,i,k+1,h=>by rw [mapsV,List.getElem?_cons_succ,mapsV_get mid n (i+1) k (by omega),show i+1+k=i+(k+1) by omega]
theorem rowsV_snoc (rid:Nat→Nat):∀(ls:List (List Str)) (l:List Str) (i:Nat),rowsV rid i (ls++[l])=rowsV rid i ls++[if l=[] then V.d (.slice 1 [] true) else .ref (rid (i+ls.length)) 0 0 l.length]
 | [],l,i=>rfl
 | l0::ls,l,i=>by rw [List.cons_append,rowsV,rowsV,rowsV_snoc rid ls,List.cons_append,List.length_cons,show i+1+ls.length=i+(ls.length+1) by omega]
theorem mapsV_snoc (mid:Nat→Nat):∀(n i:Nat),mapsV mid i (n+1)=mapsV mid i n++[.hnd (mid (i+n))]
 | 0,i=>rfl
 | n+1,i=>by rw [mapsV,mapsV_snoc mid n,mapsV,List.cons_append,show i+1+n=i+(n+1) by omega]
theorem rowsV_congr {rid rid' : Nat→Nat}:∀(ls:List (List Str)) (i:Nat),(∀k l,ls[k]? = some l→l≠[]→rid (i+k)=rid' (i+k))→rowsV rid i ls=rowsV rid' i ls
 | [],_,_=>rfl
 | l::ls,i,h=>by
  have ih:rowsV rid (i+1) ls=rowsV rid' (i+1) ls:=rowsV_congr ls (i+1) fun k l' hk hl=>by
   have:=h (k+1) l' (by simpa using hk) hl
   rwa [show i+(k+1)=i+1+k by omega] at this
  rw [rowsV,rowsV,ih]
  by_cases hl:l=[]
  ·rw [if_pos hl,if_pos hl]
  ·rw [if_neg hl,if_neg hl,show rid i=rid' i from h 0 l rfl hl]
theorem mapsV_congr {mid mid' : Nat→Nat}:∀(n i:Nat),(∀k,k<n→mid (i+k)=mid' (i+k))→mapsV mid i n=mapsV mid' i n
 | 0,_,_=>rfl
 | n+1,i,h=>by
  have ih:mapsV mid (i+1) n=mapsV mid' (i+1) n:=mapsV_congr n (i+1) fun k hk=>by
   have:=h (k+1) (by omega)
   rwa [show i+(k+1)=i+1+k by omega] at this
  rw [mapsV,mapsV,show mid i=mid' i from h 0 (by omega),ih]
end Uw.Tryz
namespace Uw
open Go
section
variable [Glob]
theorem Weak.looksR (ρ:Nat→Nat) {R R' : Regs} {H H' : Heap} {n n' : Nat} (h1:subR ρ R H H' R') (h2:∀id x,look H' id=some x→(∃y,look H (ρ id)=some y∧BSim ρ H H' y x)∧id<n')
  (h3:∀id id',(look H' id).isSome=true→(look H' id').isSome=true→ρ id=ρ id'→id=id'):Weak ⟨R,H,n,[],0⟩ ⟨R',H',n',[],0⟩:=
 ⟨ρ,fun i v h=>subR_look h1 i v h,fun i x h=>.inl (h2 i x h).1,fun i x h=>(h2 i x h).2,rfl,Nat.zero_le _,fun id hid=>absurd hid (Nat.not_lt_zero _),h3,rfl,rfl⟩
end
end Uw
namespace Uw.Tryz
open Go Uw
def seenE (l:List Str):MS:=l.foldl (fun es s=>mset es (.s s) (.bool true)) []
theorem seenE_snoc (l:List Str) (s:Str):seenE (l++[s])=mset (seenE l) (.s s) (.bool true):=by rw [seenE,List.foldl_append];rfl
theorem seen_get:∀(l:List Str) (es:MS) (s:Str),mget (l.foldl (fun es s=>mset es (.s s) (.bool true)) es) (.s s)=if s∈l then some (.bool true) else mget es (.s s)
 | [],es,s=>by simp
 | a::l,es,s=>by
  rw [List.foldl_cons,seen_get l,mget_mset]
  by_cases h:s∈l
  ·rw [if_pos h,if_pos (by simp [h])]
  ·rw [if_neg h]
   by_cases ha:s=a
   ·subst ha;simp
   ·simp [ha,h]
theorem seenE_get (l:List Str) (s:Str):mget (seenE l) (.s s)=if s∈l then some (.bool true) else none:=seen_get l [] s
def rid (i:Nat):Nat:=4+2 * i
def mid (i:Nat):Nat:=5+2 * i
theorem famI (n:Nat):FamI rid mid n:=⟨fun i j _ _ h=>by simp [rid] at h;omega,fun i j _ _ h=>by simp [mid] at h;omega,fun i j _ _ h=>by simp [rid,mid] at h;omega⟩
abbrev famF (ls:List (List Str)) (ms:List MS):Heap:=famG rid mid 0 ls ms
theorem famF_inv {ls:List (List Str)} {ms:List MS} {id:Nat} {b:Blk} (h:look (famF ls ms) id=some b):4≤id∧id<4+2 * ls.length∧(∀H:Heap,b.closed H=true)∧∀ρ:Nat→Nat,b.ren ρ=b:=by
 rcases fam_inv h with ⟨k,m,h1,_,_,rfl,rfl⟩|⟨k,l,h1,_,_,_,rfl,rfl⟩
 ·exact ⟨by simp [mid];omega,by simp [mid];omega,fun _=>rfl,fun _=>rfl⟩
 ·exact ⟨by simp [rid],by simp [rid];omega,fun _=>rfl,fun _=>rfl⟩
abbrev loH (p:Pg) (rv mv:List V) (fam:Heap):Heap:=(2,.var rv)::(3,.var mv)::(1,.map none (thE p.decls))::(0,pgV p)::fam
theorem loH_low {p:Pg} {rv mv:List V} {fam:Heap} {id:Nat} (h:4≤id):look (loH p rv mv fam) id=look fam id:=by
 rw [look_cons,if_neg (by omega),look_cons,if_neg (by omega),look_cons,if_neg (by omega),look_cons,if_neg (by omega)]
theorem loH_inv {p:Pg} {rv mv:List V} {fam:Heap} {id:Nat} {b:Blk} (h:look (loH p rv mv fam) id=some b):(id=2∧b = .var rv)∨(id=3∧b = .var mv)∨(id=1∧b = .map none (thE p.decls))∨(id=0∧b=pgV p)∨look fam id=some b:=by
 rw [look_cons] at h
 by_cases h2:2=id
 ·rw [if_pos h2] at h;injection h with h;exact .inl ⟨h2.symm,h.symm⟩
 rw [if_neg h2,look_cons] at h
 by_cases h3:3=id
 ·rw [if_pos h3] at h;injection h with h;exact .inr (.inl ⟨h3.symm,h.symm⟩)
 rw [if_neg h3,look_cons] at h
 by_cases h1:1=id
 ·rw [if_pos h1] at h;injection h with h;exact .inr (.inr (.inl ⟨h1.symm,h.symm⟩))
 rw [if_neg h1,look_cons] at h
 by_cases h0:0=id
 ·rw [if_pos h0] at h;injection h with h;exact .inr (.inr (.inr (.inl ⟨h0.symm,h.symm⟩)))
 rw [if_neg h0] at h
 exact .inr (.inr (.inr (.inr h)))
theorem closedL_iff {H:Heap}:∀{l:List V},closedL H l=true↔∀v∈l,v.closed H=true
 | []=>by simp [closedL]
 | v::l=>by simp [closedL,closedL_iff]
theorem rows_closed {p:Pg} {ls:List (List Str)} {ms:List MS} {rv mv:List V} {r:Nat} (hms:ms.length=ls.length):closedL (loH p rv mv (famF ls ms)) (rowsV rid 0 ls++List.replicate r (.d .nil))=true:=by
 rw [closedL_iff]
 intro v hv
 rcases List.mem_append.1 hv with hv|hv
 ·obtain ⟨k,hk⟩:=List.mem_iff_getElem?.1 hv
  have hkl:k<ls.length:=by
   rcases Nat.lt_or_ge k ls.length with h|h
   ·exact h
   ·rw [List.getElem?_eq_none (by rw [rowsV_len];exact h)] at hk;cases hk
  rw [rowsV_get rid ls 0 k ls[k] (by simp [hkl])] at hk
  injection hk with hk
  subst hk
  split
  ·rfl
  ·rename_i hne
   have:=fam_rid (rid:=rid) (mid:=mid) (famI ls.length) (ls:=ls) (ms:=ms) (i:=0) (k:=k) (l:=ls[k]) (by omega) (by omega) (by simp [hkl]) hne
   show (look _ _).isSome=true
   rw [loH_low (by simp [rid])]
   show (look (famG rid mid 0 ls ms) _).isSome=true
   rw [this];rfl
 ·rw [List.mem_replicate] at hv
  rw [hv.2];rfl
theorem maps_closed {p:Pg} {ls:List (List Str)} {ms:List MS} {rv mv:List V} {r n:Nat} (hms:ms.length=ls.length) (hn:n=ls.length):closedL (loH p rv mv (famF ls ms)) (mapsV mid 0 n++List.replicate r (.d .nilMap))=true:=by
 subst hn
 rw [closedL_iff]
 intro v hv
 rcases List.mem_append.1 hv with hv|hv
 ·obtain ⟨k,hk⟩:=List.mem_iff_getElem?.1 hv
  have hkl:k<ls.length:=by
   rcases Nat.lt_or_ge k ls.length with h|h
   ·exact h
   ·rw [List.getElem?_eq_none (by rw [mapsV_len];exact h)] at hk;cases hk
  rw [mapsV_get mid ls.length 0 k hkl] at hk
  injection hk with hk
  subst hk
  have:=fam_mid (rid:=rid) (mid:=mid) (famI ls.length) (ls:=ls) (ms:=ms) (i:=0) (k:=k) (m:=ms[k]) (by omega) (by omega) (by simp [show k<ms.length by omega])
  show (look _ _).isSome=true
  rw [loH_low (by simp [mid];omega)]
  show (look (famG rid mid 0 ls ms) _).isSome=true
  rw [this];rfl
 ·rw [List.mem_replicate] at hv
  rw [hv.2];rfl
theorem lo_same {p:Pg} {ls:List (List Str)} {ms:List MS} {R R' : Regs} {H:Heap} {r r' n:Nat} (hms:ms.length=ls.length) (hl:ls.length<100000) (h1:subR (renF []) R H (loH p (rowsV rid 0 ls++List.replicate r (.d .nil)) (mapsV mid 0 ls.length++List.replicate r' (.d .nilMap)) (famF ls ms)) R')
  (e2:look H 2=some (.var (rowsV rid 0 ls++List.replicate r (.d .nil)))) (e3:look H 3=some (.var (mapsV mid 0 ls.length++List.replicate r' (.d .nilMap)))) (e1:look H 1=some (.map none (thE p.decls))) (e0:look H 0=some (pgV p))
  (hf:∀id x,look (famF ls ms) id=some x→look H id=some x):Weak ⟨R,H,n,[],0⟩ ⟨R',loH p (rowsV rid 0 ls++List.replicate r (.d .nil)) (mapsV mid 0 ls.length++List.replicate r' (.d .nilMap)) (famF ls ms),1000000,[],0⟩:=by
 refine Weak.looks h1 ?_ (Nat.zero_le _) (fun id h=>absurd h (Nat.not_lt_zero _))
 intro id x hx
 rcases loH_inv hx with ⟨rfl,rfl⟩|⟨rfl,rfl⟩|⟨rfl,rfl⟩|⟨rfl,rfl⟩|hx
 ·exact ⟨e2,rows_closed hms,by omega⟩
 ·exact ⟨e3,maps_closed hms rfl,by omega⟩
 ·exact ⟨e1,rfl,by omega⟩
 ·exact ⟨e0,rfl,by omega⟩
 ·obtain ⟨g1,g2,g3,_⟩:=famF_inv hx
  exact ⟨hf _ _ hx,g3 _,by omega⟩
end Uw.Tryz
namespace Uw.Tryz
open Go Uw
theorem renL_app {ρ:Nat→Nat}:∀(a b:List V),renL ρ (a++b)=renL ρ a++renL ρ b
 | [],b=>rfl
 | v::a,b=>by rw [List.cons_append,renL,renL_app a,renL,List.cons_append]
theorem renL_rep {ρ:Nat→Nat} (x:Dat):∀r,renL ρ (List.replicate r (.d x))=List.replicate r (.d x)
 | 0=>rfl
 | r+1=>by rw [List.replicate_succ,renL,renL_rep x r];rfl
theorem renL_rows {ρ:Nat→Nat} (rid:Nat→Nat):∀(ls:List (List Str)) (i:Nat),renL ρ (rowsV rid i ls)=rowsV (fun k=>ρ (rid k)) i ls
 | [],i=>rfl
 | l::ls,i=>by
  rw [rowsV,renL,renL_rows rid ls,rowsV]
  congr 1
  split<;>rfl
theorem renL_maps {ρ:Nat→Nat} (mid:Nat→Nat):∀(n i:Nat),renL ρ (mapsV mid i n)=mapsV (fun k=>ρ (mid k)) i n
 | 0,i=>rfl
 | n+1,i=>by rw [mapsV,renL,renL_maps mid n,mapsV];rfl
theorem rep_set {α:Type} (xs:List α) (d v:α) (r:Nat):(xs++List.replicate (r+1) d).set xs.length v=xs++[v]++List.replicate r d:=by
 rw [List.set_append_right _ _ (Nat.le_refl _),Nat.sub_self,List.replicate_succ,List.set_cons_zero,List.append_assoc];rfl
theorem VWL_app {ρ:Nat→Nat} {h h' : Heap}:∀{a a' b b' : List V},VWL ρ h h' a a'→VWL ρ h h' b b'→VWL ρ h h' (a++b) (a'++b')
 | [],[],_,_,_,h2=>h2
 | v::a,v'::a',_,_,h1,h2=>⟨h1.1,VWL_app h1.2 h2⟩
 | [],_::_,_,_,h1,_=>h1.elim
 | _::_,[],_,_,h1,_=>h1.elim
def rhoN (j a b:Nat) (id:Nat):Nat:=if id=rid j then a else if id=mid j then b else id
def Over (fam H:Heap):Prop:=∀id,4≤id→id<1000000→look H id=look fam id
theorem over_refl {fam:Heap}:Over fam fam:=fun _ _ _=>rfl
theorem over_cons {fam H:Heap} {i:Nat} {b:Blk} (h:Over fam H) (hi:(Nat.blt i 4||Nat.ble 1000000 i)=true):Over fam ((i,b)::H):=fun id h1 h2=>by
 rw [look_cons,if_neg]
 ·exact h id h1 h2
 ·rintro rfl
  rw [Bool.or_eq_true] at hi
  rcases hi with hi|hi
  ·rw [Nat.blt_eq] at hi;omega
  ·have:=Nat.le_of_ble_eq_true hi;omega
theorem lo_next {p:Pg} {ls:List (List Str)} {ms:List MS} {l:List Str} {m:MS} {R R' : Regs} {H:Heap} {r r' n a b:Nat} {v0:V} {rv' mv' : List V} (hms:ms.length=ls.length) (hl:ls.length<99999) (ha:1000000≤a) (hb:1000000≤b) (hab:a≠b)
  (h1:subR (rhoN ls.length a b) R H (loH p (rowsV rid 0 (ls++[l])++List.replicate r (.d .nil)) (mapsV mid 0 (ls.length+1)++List.replicate r' (.d .nilMap)) (famF (ls++[l]) (ms++[m]))) R')
  (e2:look H 2=some (.var rv')) (hrv:rv' = rowsV rid 0 ls++[v0]++List.replicate r (.d .nil)) (hv0:v0=(if l=[] then V.d (.slice 1 [] true) else .ref a 0 0 l.length)∨(l=[]∧v0 = .d .nil)) (e3:look H 3=some (.var mv')) (hmv:mv' = mapsV mid 0 ls.length++[.hnd b]++List.replicate r' (.d .nilMap))
  (e1:look H 1=some (.map none (thE p.decls))) (e0:look H 0=some (pgV p)) (ea:l≠[]→look H a=some (.arr 1 (rowT l))) (eb:look H b=some (.map none m))
  (ho:Over (famF ls ms) H) :
  Weak ⟨R,H,n,[],0⟩ ⟨R',loH p (rowsV rid 0 (ls++[l])++List.replicate r (.d .nil)) (mapsV mid 0 (ls.length+1)++List.replicate r' (.d .nilMap)) (famF (ls++[l]) (ms++[m])),1000000,[],0⟩:=by
 subst hrv hmv
 have hf:∀id x,look (famF ls ms) id=some x→look H id=some x:=fun id x h=>by
  have:=famF_inv h
  rw [ho id this.1 (by omega)];exact h
 have hr:∀k,k<ls.length→rhoN ls.length a b (rid k)=rid k:=fun k hk=>by
  unfold rhoN
  rw [if_neg (by simp only [rid];omega),if_neg (by simp only [rid,mid];omega)]
 have hm:∀k,k<ls.length→rhoN ls.length a b (mid k)=mid k:=fun k hk=>by
  unfold rhoN
  rw [if_neg (by simp only [rid,mid];omega),if_neg (by simp only [mid];omega)]
 have hrj:rhoN ls.length a b (rid ls.length)=a:=by unfold rhoN;rw [if_pos rfl]
 have hmj:rhoN ls.length a b (mid ls.length)=b:=by unfold rhoN;rw [if_neg (by simp only [rid,mid];omega),if_pos rfl]
 have hlow:∀k,k<4→rhoN ls.length a b k=k:=fun k hk=>by unfold rhoN;rw [if_neg (by simp only [rid];omega),if_neg (by simp only [mid];omega)]
 have hlen:(ls++[l]).length=ls.length+1:=by simp
 refine Weak.looksR (rhoN ls.length a b) h1 ?_ ?_
 ·intro id x hx
  rcases loH_inv hx with ⟨rfl,rfl⟩|⟨rfl,rfl⟩|⟨rfl,rfl⟩|⟨rfl,rfl⟩|hx
  ·refine ⟨⟨_,by rw [hlow 2 (by omega)];exact e2,?_⟩,by omega⟩
   have hcl:=rows_closed (p:=p) (ls:=ls++[l]) (ms:=ms++[m]) (rv:=rowsV rid 0 (ls++[l])++List.replicate r (.d .nil)) (mv:=mapsV mid 0 (ls.length+1)++List.replicate r' (.d .nilMap)) (r:=r) (by simp [hms])
   have hc:rowsV (fun k=>rhoN ls.length a b (rid k)) 0 ls=rowsV rid 0 ls:=rowsV_congr ls 0 fun k l' hk _=>by
    have hkl:k<ls.length:=by
     rcases Nat.lt_or_ge k ls.length with h|h
     ·exact h
     ·rw [List.getElem?_eq_none h] at hk;cases hk
    simp only [Nat.zero_add];exact hr k hkl
   have hren:renL (rhoN ls.length a b) (rowsV rid 0 (ls++[l])++List.replicate r (.d .nil))=rowsV rid 0 ls++[if l=[] then V.d (.slice 1 [] true) else .ref a 0 0 l.length]++List.replicate r (.d .nil):=by
    rw [renL_app,renL_rep,renL_rows,rowsV_snoc,hc]
    simp only [Nat.zero_add]
    rw [hrj]
   rcases hv0 with rfl|⟨rfl,rfl⟩
   ·show VWL _ _ _ _ _
    rw [← hren]
    exact VWL_ren hcl
   ·have h3:=VWL_ren (ρ:=rhoN ls.length a b) (h:=H) hcl
    rw [hren] at h3
    show VWL _ _ _ (rowsV rid 0 ls++[V.d .nil]++List.replicate r (.d .nil)) (rowsV rid 0 (ls++[[]])++List.replicate r (.d .nil))
    rw [rowsV_snoc] at hcl ⊢
    rw [if_pos rfl] at hcl ⊢
    rw [closedL_iff] at hcl
    refine VWL_app (VWL_app ?_ ⟨.inr (.inr (.inr (.inr (.inr ⟨rfl,1,true,rfl⟩)))),trivial⟩) ?_
    ·have:=VWL_ren (ρ:=rhoN ls.length a b) (h:=H) (cs:=rowsV rid 0 ls) (closedL_iff.2 fun v hv=>hcl v (by simp [hv]))
     rw [renL_rows,hc] at this
     exact this
    ·have:=VWL_ren (ρ:=rhoN ls.length a b) (h:=H) (cs:=List.replicate r (V.d .nil)) (closedL_iff.2 fun v hv=>hcl v (by simp [List.mem_replicate] at hv ⊢;exact .inr (.inr hv)))
     rw [renL_rep] at this
     exact this
  ·refine ⟨⟨_,by rw [hlow 3 (by omega)];exact e3,BSim_by ?_ ?_⟩,by omega⟩
   ·show _=Blk.var (renL _ _)
    have hc:mapsV (fun k=>rhoN ls.length a b (mid k)) 0 ls.length=mapsV mid 0 ls.length:=mapsV_congr ls.length 0 fun k hk=>by simp only [Nat.zero_add];exact hm k hk
    rw [renL_app,renL_rep,renL_maps,mapsV_snoc,hc]
    simp only [Nat.zero_add]
    rw [hmj]
   ·show closedL _ _=true
    exact maps_closed (by simp [hms]) (by simp)
  ·exact ⟨⟨_,by rw [hlow 1 (by omega)];exact e1,BSim_by rfl rfl⟩,by omega⟩
  ·exact ⟨⟨_,by rw [hlow 0 (by omega)];exact e0,BSim_by rfl rfl⟩,by omega⟩
  ·obtain ⟨g1,g2,g3,g4⟩:=famF_inv hx
   refine ⟨⟨x,?_,BSim_by (g4 _).symm (g3 _)⟩,by rw [hlen] at g2;omega⟩
   rcases fam_inv hx with ⟨k,m',k1,k2,k3,rfl,rfl⟩|⟨k,l',k1,k2,k3,k4,rfl,rfl⟩
   ·rw [Nat.zero_add]
    by_cases hk:k<ls.length
    ·rw [hm k hk]
     refine hf _ _ ?_
     have:=fam_mid (famI ls.length) (ls:=ls) (ms:=ms) (i:=0) (k:=k) (m:=m') (by omega) hk (by rwa [List.getElem?_append_left (by omega)] at k3)
     rwa [Nat.zero_add] at this
    ·rw [hlen] at k1
     obtain rfl:k=ls.length:=by omega
     rw [List.getElem?_append_right (by omega),hms,Nat.sub_self] at k3
     injection k3 with k3
     rw [hmj,← k3];exact eb
   ·rw [Nat.zero_add]
    by_cases hk:k<ls.length
    ·rw [hr k hk]
     refine hf _ _ ?_
     have:=fam_rid (famI ls.length) (ls:=ls) (ms:=ms) (i:=0) (k:=k) (l:=l') (by omega) (by omega) (by rwa [List.getElem?_append_left hk] at k3) k4
     rwa [Nat.zero_add] at this
    ·rw [hlen] at k1
     obtain rfl:k=ls.length:=by omega
     rw [List.getElem?_append_right (by omega),Nat.sub_self] at k3
     injection k3 with k3
     rw [hrj]
     rw [← k3] at k4 ⊢
     exact ea k4
 ·intro id id' h h' he
  have bd:∀i,(look (loH p (rowsV rid 0 (ls++[l])++List.replicate r (.d .nil)) (mapsV mid 0 (ls.length+1)++List.replicate r' (.d .nilMap)) (famF (ls++[l]) (ms++[m]))) i).isSome=true→i<1000000:=by
   intro i hi
   obtain ⟨x,hx⟩:=Option.isSome_iff_exists.1 hi
   rcases loH_inv hx with ⟨rfl,rfl⟩|⟨rfl,rfl⟩|⟨rfl,rfl⟩|⟨rfl,rfl⟩|hx
   ·omega
   ·omega
   ·omega
   ·omega
   ·have:=(famF_inv hx).2.1
    rw [hlen] at this;omega
  have b1:=bd id h
  have b2:=bd id' h'
  unfold rhoN at he
  split at he
  ·split at he
   ·omega
   ·split at he<;>omega
  ·split at he
   ·split at he
    ·omega
    ·split at he<;>omega
   ·split at he
    ·omega
    ·split at he<;>omega
theorem lo_in {p:Pg} {ls:List (List Str)} {ms:List MS} {m m' : MS} {rows:List (List Dat)} {R R' : Regs} {H:Heap} {r r' n k:Nat} {rv' mv' : List V} (hms:ms.length=ls.length) (hl:ls.length<99999) (hrv:rv' = rowsV rid 0 ls++[V.ref 1000001 0 0 k]++List.replicate r (.d .nil)) (hmv:mv' = mapsV mid 0 ls.length++[.hnd 1000002]++List.replicate r' (.d .nilMap))
  (h1:subR (renF []) R H ((1000002,.map none m')::(1000001,.arr 1 rows)::loH p rv' mv' (famF ls ms)) R') (e2:look H 2=some (.var rv')) (e3:look H 3=some (.var mv')) (e1:look H 1=some (.map none (thE p.decls))) (e0:look H 0=some (pgV p)) (ea:look H 1000001=some (.arr 1 rows)) (eb:look H 1000002=some (.map none m)) (hm:m=m')
  (ho:Over (famF ls ms) H):Weak ⟨R,H,n,[],0⟩ ⟨R',(1000002,.map none m')::(1000001,.arr 1 rows)::loH p rv' mv' (famF ls ms),1000003,[],0⟩:=by
 subst hm
 have hup:∀(v:V),v.closed (loH p rv' mv' (famF ls ms))=true→∀(i:Nat),(v = .hnd i∨∃o l w,v = .ref i o l w)∨(∃x,v = .d x)→v.closed ((1000002,.map none m)::(1000001,.arr 1 rows)::loH p rv' mv' (famF ls ms))=true:=by
  intro v hv i hi
  have hlk:∀i,(look (loH p rv' mv' (famF ls ms)) i).isSome=true→(look ((1000002,.map none m)::(1000001,.arr 1 rows)::loH p rv' mv' (famF ls ms)) i).isSome=true:=by
   intro i h
   rw [look_cons]
   split
   ·rfl
   ·rw [look_cons]
    split
    ·rfl
    ·exact h
  rcases hi with (rfl|⟨o,l,w,rfl⟩)|⟨x,rfl⟩
  ·exact hlk i hv
  ·exact hlk i hv
  ·rfl
 refine Weak.looks h1 ?_ (Nat.zero_le _) (fun id h=>absurd h (Nat.not_lt_zero _))
 intro id x hx
 rw [look_cons] at hx
 by_cases h2:1000002=id
 ·rw [if_pos h2] at hx;injection hx with hx;subst h2 hx;exact ⟨eb,rfl,by omega⟩
 rw [if_neg h2,look_cons] at hx
 by_cases h3:1000001=id
 ·rw [if_pos h3] at hx;injection hx with hx;subst h3 hx;exact ⟨ea,rfl,by omega⟩
 rw [if_neg h3] at hx
 rcases loH_inv hx with ⟨rfl,rfl⟩|⟨rfl,rfl⟩|⟨rfl,rfl⟩|⟨rfl,rfl⟩|hx
 ·refine ⟨e2,?_,by omega⟩
  show closedL _ _=true
  have hc:=rows_closed (p:=p) (ls:=ls) (ms:=ms) (rv:=rv') (mv:=mv') (r:=r) hms
  rw [closedL_iff] at hc ⊢
  intro v hv
  rw [hrv] at hv
  rcases List.mem_append.1 hv with hv|hv
  ·rcases List.mem_append.1 hv with hv|hv
   ·obtain ⟨q,hq⟩:=List.mem_iff_getElem?.1 hv
    have hql:q<ls.length:=by
     rcases Nat.lt_or_ge q ls.length with h|h
     ·exact h
     ·rw [List.getElem?_eq_none (by rw [rowsV_len];exact h)] at hq;cases hq
    have hg:=rowsV_get rid ls 0 q ls[q] (by simp [hql])
    rw [hq] at hg
    injection hg with hg
    refine hup v (hc v (List.mem_append_left _ hv)) (rid (0+q)) ?_
    rw [hg]
    split
    ·exact .inr ⟨_,rfl⟩
    ·exact .inl (.inr ⟨_,_,_,rfl⟩)
   ·simp at hv;subst hv;rfl
  ·exact hup v (hc v (List.mem_append_right _ hv)) 0 (.inr ⟨.nil,(List.mem_replicate.1 hv).2⟩)
 ·refine ⟨e3,?_,by omega⟩
  show closedL _ _=true
  have hc:=maps_closed (p:=p) (ls:=ls) (ms:=ms) (rv:=rv') (mv:=mv') (r:=r') hms rfl
  rw [closedL_iff] at hc ⊢
  intro v hv
  rw [hmv] at hv
  rcases List.mem_append.1 hv with hv|hv
  ·rcases List.mem_append.1 hv with hv|hv
   ·obtain ⟨q,hq⟩:=List.mem_iff_getElem?.1 hv
    have hql:q<ls.length:=by
     rcases Nat.lt_or_ge q ls.length with h|h
     ·exact h
     ·rw [List.getElem?_eq_none (by rw [mapsV_len];exact h)] at hq;cases hq
    have hg:=mapsV_get mid ls.length 0 q hql
    rw [hq] at hg
    injection hg with hg
    exact hup v (hc v (List.mem_append_left _ hv)) (mid (0+q)) (.inl (.inl hg))
   ·simp at hv;subst hv;rfl
  ·exact hup v (hc v (List.mem_append_right _ hv)) 0 (.inr ⟨.nilMap,(List.mem_replicate.1 hv).2⟩)
 ·exact ⟨e1,rfl,by omega⟩
 ·exact ⟨e0,rfl,by omega⟩
 ·obtain ⟨g1,g2,g3,_⟩:=famF_inv hx
  exact ⟨by rw [ho id g1 (by omega)];exact hx,g3 _,by omega⟩
end Uw.Tryz
namespace Uw.Tryz
open Go Uw
abbrev nF (p:Pg):Nat:=(p.funs.map fuL).length
abbrev loR (p:Pg):Regs:=[(6,.row 3 (nF p)),(5,.row 2 (nF p)),(4,.d (intsD (ownersP p))),(3,.hnd 1),(1,.ptr 0 0)]
abbrev argsL (p:Pg):List (List Str):=p.funs.map (·.args)
abbrev loRv (ls:List (List Str)) (r:Nat):List V:=rowsV rid 0 ls++List.replicate r (.d .nil)
abbrev loMv (n r:Nat):List V:=mapsV mid 0 n++List.replicate r (.d .nilMap)
abbrev loS1 (p:Pg) (j:Nat):St:=⟨(31,.d (I j))::(30,.d (I ((p.funs.map fuL).length:Nat)))::(29,.d (.slice 3 (p.funs.map fuL) false))::loR p,loH p (loRv ((argsL p).take j) (nF p - j)) (loMv j (nF p - j)) (famF ((argsL p).take j) (((argsL p).take j).map seenE)),1000000,[],0⟩
set_option maxRecDepth 4000 in
set_option maxHeartbeats 4000000 in
theorem lo_nil (p:Pg) (hf:formedP p=true) (hp:Lim p) (hn0:p.funs=[]):localsP p=[]∧Ret P0 n_check_locals [pgD p] (.slice 1 [] true):=by
 have hth:=s_check_things p hp.decls
 have how:=s_check_owners p hf hp
 have hfl:(p.funs.map fuL).length=p.funs.length:=by simp
 have hmk1:(decide (((p.funs.map fuL).length:Int)=((p.funs.map fuL).length:Nat))&&decide ((0:Int)≤((p.funs.map fuL).length:Nat))&&decide ((((p.funs.map fuL).length:Nat):Int) * ((24:Nat):Int)≤70368744177664))=true:=by rw [hn0];rfl
 have hmk2:(decide (((p.funs.map fuL).length:Int)=((p.funs.map fuL).length:Nat))&&decide ((0:Int)≤((p.funs.map fuL).length:Nat))&&decide ((((p.funs.map fuL).length:Nat):Int) * ((8:Nat):Int)≤70368744177664))=true:=by rw [hn0];rfl
 have hf0:(p.funs.map fuL).length=0:=by rw [hn0];rfl
 have hns:p.nodes=[]:=by
  refine Classical.byContradiction fun hne=>?_
  have hpos:0<p.nodes.length:=List.length_pos_iff.2 hne
  have:=own_in hf _ 0 hpos (Nat.le_refl _)
  rw [hn0] at this;simp at this;omega
 have hn1:(p.nodes.map ndL).length=0:=by rw [hns];rfl
 refine ⟨by rw [localsP,hns,hn0];rfl,?_⟩
 refine Ret_by is_check_locals rfl ?_
 repeat refine aw ?_
 refine WT_frE 1 [] hth ?_
 repeat (first|refine aw ?_|refine f1 ?_)
 refine WT_rounds 1 ?_
 repeat (first|refine aw ?_|refine f1 ?_)
 refine WT_rbreak ?_
 repeat (first|refine aw ?_|refine f1 ?_)
 refine WT_rounds 1 ?_
 repeat (first|refine aw ?_|refine f1 ?_)
 refine WT_rbreak ?_
 repeat (first|refine aw ?_|refine f1 ?_)
 exact WT_ret rfl rfl rfl rfl rfl
theorem heq_dup (a:Nat) (x y:Blk) (rest:Heap) (i:Nat):look ((a,x)::rest) i=look ((a,x)::(a,y)::rest) i:=by
 rw [look_cons,look_cons,look_cons]
 split<;>rfl
theorem wk_eq {st S S' : St} [Glob] (h:S=S') (hw:Weak st S'):Weak st S:=by rw [h];exact hw
theorem rhoN_low {j a b k:Nat} (hk:k<4):rhoN j a b k=k:=by unfold rhoN;rw [if_neg (by simp only [rid];omega),if_neg (by simp only [mid];omega)]
theorem VW_lrow {j a b k n:Nat} {h h' : Heap} (hk:k<4) (hc:(look h' k).isSome=true):VW (rhoN j a b) h h' (.row k n) (.row k n):=.inl ⟨by rw [V.ren,rhoN_low hk],hc⟩
theorem VW_lhnd {j a b k:Nat} {h h' : Heap} (hk:k<4) (hc:(look h' k).isSome=true):VW (rhoN j a b) h h' (.hnd k) (.hnd k):=.inl ⟨by rw [V.ren,rhoN_low hk],hc⟩
theorem VW_lptr {j a b k o:Nat} {h h' : Heap} (hk:k<4) (hc:(look h' k).isSome=true):VW (rhoN j a b) h h' (.ptr k o) (.ptr k o):=.inl ⟨by rw [V.ren,rhoN_low hk],hc⟩
theorem lo_regs {p:Pg} {j a b:Nat} {R:Regs} {H:Heap} {rv mv:List V} {fam:Heap} (h6:look R 6=some (.row 3 (nF p))) (h5:look R 5=some (.row 2 (nF p))) (h4:look R 4=some (.d (intsD (ownersP p)))) (h3:look R 3=some (.hnd 1)) (h1:look R 1=some (.ptr 0 0)) :
  subR (rhoN j a b) R H (loH p rv mv fam) (loR p):=
 ⟨⟨_,h6,VW_lrow (by omega) rfl⟩,⟨_,h5,VW_lrow (by omega) rfl⟩,⟨_,h4,.inl ⟨rfl,rfl⟩⟩,⟨_,h3,VW_lhnd (by omega) rfl⟩,⟨_,h1,VW_lptr (by omega) rfl⟩,trivial⟩
def rowQ (l:List Str):List Dat:=[if l=[] then .slice 1 [] true else .slice 1 (rowT l) false]
def qL:MCode→MCode
 | .seq x _=>x
 | .block _ x=>x
 | .loop x=>x
 | c=>c
def qR:MCode→MCode
 | .seq _ y=>y
 | c=>c
def loB1:MCode:=qL (qL (qR (qL (qR (qR (qR (qR (qR m_check_locals.code))))))))
set_option maxRecDepth 20000 in
set_option maxHeartbeats 4000000 in
theorem lo_round1 (p:Pg) (hp:Lim p) (j:Nat) (hj:j<nF p) (hpre:∀i,i<j→True) {QQ:MExit→St→Prop}:WT P0 (LoopQ (loS1 p) (ForI (nF p) fun _=>True) (forM (nF p)) j QQ) (exec loB1 (loS1 p j) Tree.done):=by
 have hfl:nF p=p.funs.length:=by simp
 have hfl2:(p.funs.map fuL).length=p.funs.length:=by simp
 have hF:=hp.funs
 have hal:(argsL p).length=p.funs.length:=by simp
 have hel:∀(j:Nat) (h:j<p.funs.length),(p.funs.map fuL)[(j:Int).toNat]? = some (fuL p.funs[j]):=by intro j h;simp [h]
 have hlt:∀j,j≤p.funs.length→((argsL p).take j).length=j:=fun j h=>by rw [List.length_take,hal];omega
 have hj2:j<p.funs.length:=by rw [← hfl];exact hj
 have he:=hel j hj2
 have hal2:(loRv ((argsL p).take j) (nF p - j)).length=nF p:=by rw [List.length_append,rowsV_len,hlt j (by omega),List.length_replicate];omega
 have hml2:(loMv j (nF p - j)).length=nF p:=by rw [List.length_append,mapsV_len,List.length_replicate];omega
 generalize hfe:p.funs[j]=f at *
 obtain ⟨fn,fa,fb⟩:=f
 have he:(p.funs.map fuL)[(j:Int).toNat]? = some [.str fn,strsC fa,I fb]:=he
 have hrl:(fa.map fun s=>[Dat.str s]).length=fa.length:=by simp
 have hfaL:fa.length<100000:=by have:=hp.args _ (List.getElem_mem hj2);rw [hfe] at this;exact this
 have hby:decide ((fa.map fun s=>[Dat.str s]).length * 16≤70368744177664)=true:=by simp;omega
 have hsr:∀v,(loRv ((argsL p).take j) (nF p - j)).set ((j:Int).toNat * 1) v=rowsV rid 0 ((argsL p).take j)++[v]++List.replicate (nF p - (j+1)) (.d .nil):=fun v=>by
  have:=rep_set (rowsV rid 0 ((argsL p).take j)) (V.d .nil) v (nF p - (j+1))
  rw [rowsV_len,hlt j (by omega),show nF p - (j+1)+1=nF p - j by omega] at this
  rw [show (j:Int).toNat * 1=j by omega];exact this
 have hsm:∀v,(loMv j (nF p - j)).set ((j:Int).toNat * 1) v=mapsV mid 0 j++[v]++List.replicate (nF p - (j+1)) (.d .nilMap):=fun v=>by
  have:=rep_set (mapsV mid 0 j) (V.d .nilMap) v (nF p - (j+1))
  rw [mapsV_len,show nF p - (j+1)+1=nF p - j by omega] at this
  rw [show (j:Int).toNat * 1=j by omega];exact this
 have hsm2:∀v,(loMv j (nF p - j)).set ((j:Int).toNat * 1) v=mapsV mid 0 ((argsL p).take j).length++[v]++List.replicate (nF p - (j+1)) (.d .nilMap):=fun v=>by rw [hsm,hlt j (by omega)]
 have htk:(argsL p).take (j+1)=(argsL p).take j++[fa]:=by
  rw [List.take_succ_eq_append_getElem (by rw [hal];exact hj2)]
  simp [argsL,hfe]
 have hS:loS1 p (j+1)=⟨(31,.d (I ((j+1:Nat):Int)))::(30,.d (I ((p.funs.map fuL).length:Nat)))::(29,.d (.slice 3 (p.funs.map fuL) false))::loR p,loH p (rowsV rid 0 ((argsL p).take j++[fa])++List.replicate (nF p - (j+1)) (.d .nil)) (mapsV mid 0 (((argsL p).take j).length+1)++List.replicate (nF p - (j+1)) (.d .nilMap)) (famF ((argsL p).take j++[fa]) (((argsL p).take j).map seenE++[seenE fa])),1000000,[],0⟩:=by
  rw [loS1,htk,hlt j (by omega),List.map_append];rfl
 have hms:(((argsL p).take j).map seenE).length=((argsL p).take j).length:=by simp
 have hl5:((argsL p).take j).length<99999:=by rw [hlt j (by omega)];omega
 obtain ⟨E,hE⟩:∃E:Nat→MS,∀i,E i=seenE (fa.take i):=⟨_,fun _=>rfl⟩
 have hE0:([]:MS)=E 0:=by rw [hE];rfl
 have hEn:E fa.length=seenE fa:=by rw [hE,List.take_length]
 have hEs:∀(i:Nat) (h:i<fa.length),mset (E i) (.s fa[i]) (.bool true)=E (i+1):=fun i h=>by rw [hE,hE,List.take_succ_eq_append_getElem h,seenE_snoc]
 have hge:∀(i:Nat) (h:i<fa.length),(fa.map fun s=>[Dat.str s])[(i:Int).toNat]? = some [.str fa[i]]:=fun i h=>by simp [h]
 obtain ⟨rv',hrv⟩:∃rv',rv' = rowsV rid 0 ((argsL p).take j)++[V.ref 1000001 0 0 fa.length]++List.replicate (nF p - (j+1)) (.d .nil):=⟨_,rfl⟩
 obtain ⟨mv',hmv⟩:∃mv',mv' = mapsV mid 0 ((argsL p).take j).length++[V.hnd 1000002]++List.replicate (nF p - (j+1)) (.d .nilMap):=⟨_,rfl⟩
 have hmg:mv'[(j:Int).toNat * 1]? = some (.hnd 1000002):=by
  rw [hmv,hlt j (by omega),List.append_assoc,List.getElem?_append_right (by rw [mapsV_len];omega),mapsV_len]
  simp
 have hrv2:(loRv ((argsL p).take j) (nF p - j)).set ((j:Int).toNat * 1) (V.ref 1000001 0 0 (fa.map fun s=>[Dat.str s]).length)=rv':=by rw [hsr,hrv,hrl]
 have hmv2:(loMv j (nF p - j)).set ((j:Int).toNat * 1) (V.hnd 1000002)=mv':=by rw [hsm2,hmv]
 have hml3:mv'.length=nF p:=by rw [← hmv2,List.length_set];exact hml2
 by_cases hfa:fa=[]
 ·subst hfa
  have hemp:(([]:List Str).map fun s=>[Dat.str s]).isEmpty=true:=rfl
  repeat (first|refine aw ?_|refine f1 ?_)
  refine WT_inl is_slices_Clone rfl ?_
  repeat (first|refine aw ?_|refine f1 ?_)
  refine WT_both ?_ ?_
  ·repeat (first|refine aw ?_|refine f1 ?_)
   refine WT_iret rfl rfl ?_
   repeat (first|refine aw ?_|refine f1 ?_)
   refine WT_rounds 1 ?_
   refine aw ?_
   refine WT_rbreak ?_
   repeat (first|refine aw ?_|refine f1 ?_)
   refine WT_next j trivial (wk_eq hS ?_)
   exact lo_next (a:=1000005) (b:=1000001) (v0:=.d .nil) hms hl5 (by omega) (by omega) (by omega) ⟨⟨_,rfl,VW_int rfl⟩,⟨_,rfl,.inl ⟨rfl,rfl⟩⟩,⟨_,rfl,.inl ⟨rfl,rfl⟩⟩,lo_regs rfl rfl rfl rfl rfl⟩ rfl (hsr _) (.inr ⟨rfl,rfl⟩) rfl (hsm2 _) rfl rfl (fun h=>absurd rfl h) rfl (by (repeat refine over_cons ?_ rfl);exact over_refl)
  ·repeat (first|refine aw ?_|refine f1 ?_)
   refine WT_iret rfl rfl ?_
   repeat (first|refine aw ?_|refine f1 ?_)
   refine WT_rounds 1 ?_
   refine aw ?_
   refine WT_rbreak ?_
   repeat (first|refine aw ?_|refine f1 ?_)
   refine WT_next j trivial (wk_eq hS ?_)
   exact lo_next (a:=1000005) (b:=1000001) (v0:=.d (.slice 1 [] true)) hms hl5 (by omega) (by omega) (by omega) ⟨⟨_,rfl,VW_int rfl⟩,⟨_,rfl,.inl ⟨rfl,rfl⟩⟩,⟨_,rfl,.inl ⟨rfl,rfl⟩⟩,lo_regs rfl rfl rfl rfl rfl⟩ rfl (hsr _) (.inl rfl) rfl (hsm2 _) rfl rfl (fun h=>absurd rfl h) rfl (by (repeat refine over_cons ?_ rfl);exact over_refl)
 have hemp:(fa.map fun s=>[Dat.str s]).isEmpty=false:=by cases fa<;>first|rfl|exact absurd rfl hfa
 repeat (first|refine aw ?_|refine f1 ?_)
 refine WT_inl is_slices_Clone rfl ?_
 repeat (first|refine aw ?_|refine f1 ?_)
 refine WT_iret rfl rfl ?_
 repeat (first|refine aw ?_|refine f1 ?_)
 refine WT_for fa.length (fun i:Nat=>⟨(49,.d (I i))::(48,.d (I ((fa.map fun s=>[Dat.str s]).length:Nat)))::(47,.d (strsC fa))::(7,.d (I j))::(31,.d (I j))::(30,.d (I ((p.funs.map fuL).length:Nat)))::(29,.d (.slice 3 (p.funs.map fuL) false))::loR p,(1000002,.map none (E i))::(1000001,.arr 1 (rowT fa))::loH p rv' mv' (famF ((argsL p).take j) (((argsL p).take j).map seenE)),1000003,[],0⟩) (fun _=>True) ?_ (fun _=>?_) (fun i hi _=>?_)
 ·refine lo_in hms hl5 hrv hmv ?_ (by rw [← hrv2];rfl) (by rw [← hmv2];rfl) rfl rfl rfl rfl hE0 (by (repeat refine over_cons ?_ rfl);exact over_refl)
  repeat' first|exact trivial|refine ⟨⟨_,rfl,?_⟩,?_⟩|exact VW_int (by first|with_reducible rfl|omega)|exact Or.inl ⟨rfl,rfl⟩
 ·refine aw ?_
  refine WT_break ?_
  refine aw ?_
  refine WT_next j trivial (wk_eq hS ?_)
  exact lo_next (a:=1000001) (b:=1000002) (v0:=.ref 1000001 0 0 fa.length) hms hl5 (by omega) (by omega) (by omega) ⟨⟨_,rfl,VW_int rfl⟩,⟨_,rfl,.inl ⟨rfl,rfl⟩⟩,⟨_,rfl,.inl ⟨rfl,rfl⟩⟩,lo_regs rfl rfl rfl rfl rfl⟩ rfl hrv (.inl (by rw [if_neg hfa])) rfl hmv rfl rfl (fun _=>rfl) (by rw [← hEn];rfl) (by (repeat refine over_cons ?_ rfl);exact over_refl)
 have hg:=hge i hi
 have hs:=hEs i hi
 generalize fa[i]=nm at *
 repeat (first|refine aw ?_|refine f1 ?_)
 refine WT_heq ((1000002,.map none (mset (E i) (.s nm) (.bool true)))::(1000001,.arr 1 (rowT fa))::loH p rv' mv' (famF ((argsL p).take j) (((argsL p).take j).map seenE))) (heq_dup _ _ _ _) ?_
 repeat (first|refine aw ?_|refine f1 ?_)
 refine WT_next i trivial ?_
 refine lo_in hms hl5 hrv hmv ?_ rfl rfl rfl rfl rfl rfl hs (by (repeat refine over_cons ?_ rfl);exact over_refl)
 repeat' first|exact trivial|refine ⟨⟨_,rfl,?_⟩,?_⟩|exact VW_int (by first|with_reducible rfl|omega)|exact Or.inl ⟨rfl,rfl⟩
end Uw.Tryz
