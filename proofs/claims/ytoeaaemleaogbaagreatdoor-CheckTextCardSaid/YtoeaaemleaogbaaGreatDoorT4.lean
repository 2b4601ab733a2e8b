/- T4: Ec Ed Cp Ee (merged by merge2.py from the working texts). -/
import Derived.Test.YtoeaaemleaogbaaGreatDoorT3
set_option linter.unusedSimpArgs false
set_option linter.unnecessarySimpa false
set_option linter.unusedVariables false
set_option linter.unusedSectionVars false
namespace Uw.Tryz
open Go Uw
abbrev ndB (xk xn:Int) (xs xt:Str) (xo:List Int):Blk:=.var [.d (I xk),.d (I xn),.d (.str xs),.d (.str xt),.d (intsD xo)]
abbrev fmS (p:Pg) (i:Nat) (b:Blk) (E1 E2 E3:Nat→Nat) (j:Nat):St:=⟨[(9,.d (I j)),(6,.d (I (E1 j:Nat))),(7,.d (I (E2 j:Nat))),(8,.d (I (E3 j:Nat))),(5,.ptr 1 0),(1,.d (I i)),(2,.ptr 0 0)],[(1,b),(0,pgV p)],2,[],0⟩
def fmB:MCode:=qL (qL (qR (qL (qR (qR (qR (qR (qR m_ref06_formed.code))))))))
set_option maxRecDepth 4000 in
set_option maxHeartbeats 4000000 in
theorem formed_round (p:Pg) (hN:p.nodes.length<100000) (i:Nat) (hi:i<p.nodes.length) (xk xn:Int) (xs xt:Str) (xo:List Int) (hlow:∀k∈xo,0≤k∧k<(i:Int)) (hxo:xo.length<100000) (E1 E2 E3:Nat→Nat)
  (hE:∀(j:Nat) (h:j<xo.length),(sortI (kindAt p.nodes xo[j])=1∧E1 (j+1)=E1 j+1∧E2 (j+1)=E2 j∧E3 (j+1)=E3 j)∨(sortI (kindAt p.nodes xo[j])=2∧E1 (j+1)=E1 j∧E2 (j+1)=E2 j+1∧E3 (j+1)=E3 j)∨(sortI (kindAt p.nodes xo[j])=3∧E1 (j+1)=E1 j∧E2 (j+1)=E2 j∧E3 (j+1)=E3 j+1))
  (hb:∀j,E1 j≤100000∧E2 j≤100000∧E3 j≤100000)
  (j:Nat) (hj:j<xo.length) (hpre:∀m,m<j→True) {QQ:MExit→St→Prop}:WT P0 (LoopQ (fmS p i (ndB xk xn xs xt xo) E1 E2 E3) (ForI xo.length fun _=>True) (forM xo.length) j QQ) (exec fmB (fmS p i (ndB xk xn xs xt xo) E1 E2 E3 j) Tree.done):=by
 have hnl:(p.nodes.map ndL).length=p.nodes.length:=by simp
 have hol:(xo.map fun i=>[I i]).length=xo.length:=by simp
 have he:(xo.map fun i=>[I i])[(j:Int).toNat]? = some [I xo[j]]:=by simp [hj]
 have hlo:=hlow xo[j] (List.getElem_mem hj)
 have hE:=hE j hj
 have hb:=hb j
 generalize xo[j]=y at *
 obtain ⟨hl1,hl2⟩:=hlo
 obtain ⟨hb1,hb2,hb3⟩:=hb
 have hyl:y.toNat<p.nodes.length:=by omega
 have hen:(p.nodes.map ndL)[y.toNat]? = some (ndL p.nodes[y.toNat]):=by simp [hyl]
 have hk:kindAt p.nodes y=p.nodes[y.toNat].kind:=by rw [kindAt,List.getD,List.getElem?_eq_getElem hyl];rfl
 rw [hk] at hE
 clear hk
 generalize p.nodes[y.toNat]=n at *
 obtain ⟨yk,yn,ys,yt,yo⟩:=n
 have hen:(p.nodes.map ndL)[y.toNat]? = some [I yk,I yn,.str ys,.str yt,intsD yo]:=hen
 have hso:=s_ref06_sort yk
 simp only at hE
 rcases hE with ⟨h0,h1,h2,h3⟩|⟨h0,h1,h2,h3⟩|⟨h0,h1,h2,h3⟩
 all_goals rw [h0] at hso
 all_goals repeat refine aw ?_
 all_goals exact WT_next j trivial (by exact Uw.wM)
theorem sorts_head (ns:List Nd) (x:Nd) (h:0<x.of.length):(sortsOf ns x).headD 0=sortI (kindAt ns x.of[0])∧x.of.headD 0=x.of[0]:=by
 obtain ⟨k,n,s,t,o⟩:=x
 cases o with
 | nil=>simp at h
 | cons a l=>exact ⟨rfl,rfl⟩
theorem sorts_len (ns:List Nd) (x:Nd):(sortsOf ns x).length=x.of.length:=by simp [sortsOf]
set_option maxRecDepth 4000 in
set_option maxHeartbeats 8000000 in
theorem s_ref06_formed (p:Pg) (hf:formedP p=true) (hp:Lim p) (i:Nat) (hi:i<p.nodes.length):Ret P0 n_ref06_formed [pgD p,I i] (.bool true):=by
 have hN:=hp.nodes
 have hnl:(p.nodes.map ndL).length=p.nodes.length:=by simp
 have he:(p.nodes.map ndL)[(i:Int).toNat]? = some (ndL p.nodes[i]):=by simp [hi]
 obtain ⟨hlow,hsh⟩:=formed_node hf i hi
 have hxo:=hp.of p.nodes[i] (List.getElem_mem hi)
 generalize p.nodes[i]=x at *
 obtain ⟨hdoc,hsum,hall⟩:=shaped_doc hsh
 have hsl:=sorts_len p.nodes x
 have hsg:∀(j:Nat) (h:j<x.of.length),(sortsOf p.nodes x)[j]'(by rw [hsl];exact h)=sortI (kindAt p.nodes x.of[j]):=fun j h=>by simp [sortsOf]
 have hhd:=sorts_head p.nodes x
 generalize sortsOf p.nodes x=so at *
 obtain ⟨xk,xn,xs,xt,xo⟩:=x
 have he:(p.nodes.map ndL)[(i:Int).toNat]? = some [I xk,I xn,.str xs,.str xt,.slice 1 (xo.map fun i=>[I i]) false]:=he
 simp only at hlow hxo hdoc hsl hsg hhd
 have hol:(xo.map fun i=>[I i]).length=xo.length:=by simp
 obtain ⟨E1,hE1⟩:∃E:Nat→Nat,∀j,E j=(so.take j).count 1:=⟨_,fun _=>rfl⟩
 obtain ⟨E2,hE2⟩:∃E:Nat→Nat,∀j,E j=(so.take j).count 2:=⟨_,fun _=>rfl⟩
 obtain ⟨E3,hE3⟩:∃E:Nat→Nat,∀j,E j=(so.take j).count 3:=⟨_,fun _=>rfl⟩
 have z1:E1 0=0:=by rw [hE1];rfl
 have z2:E2 0=0:=by rw [hE2];rfl
 have z3:E3 0=0:=by rw [hE3];rfl
 have n1:E1 xo.length=so.count 1:=by rw [hE1,← hsl,List.take_length]
 have n2:E2 xo.length=so.count 2:=by rw [hE2,← hsl,List.take_length]
 have n3:E3 xo.length=so.count 3:=by rw [hE3,← hsl,List.take_length]
 have hb:∀j,E1 j≤100000∧E2 j≤100000∧E3 j≤100000:=fun j=>by
  have a1:(so.take j).count 1≤(so.take j).length:=List.count_le_length
  have a2:(so.take j).count 2≤(so.take j).length:=List.count_le_length
  have a3:(so.take j).count 3≤(so.take j).length:=List.count_le_length
  rw [List.length_take] at a1 a2 a3
  rw [hE1,hE2,hE3];omega
 have hE:∀(j:Nat) (h:j<xo.length),(sortI (kindAt p.nodes xo[j])=1∧E1 (j+1)=E1 j+1∧E2 (j+1)=E2 j∧E3 (j+1)=E3 j)∨(sortI (kindAt p.nodes xo[j])=2∧E1 (j+1)=E1 j∧E2 (j+1)=E2 j+1∧E3 (j+1)=E3 j)∨(sortI (kindAt p.nodes xo[j])=3∧E1 (j+1)=E1 j∧E2 (j+1)=E2 j∧E3 (j+1)=E3 j+1):=fun j h=>by
  have hjl:j<so.length:=by rw [hsl];exact h
  rw [← hsg j h]
  have h1:=count_step so 1 j hjl
  have h2:=count_step so 2 j hjl
  have h3:=count_step so 3 j hjl
  rw [hE1,hE1,hE2,hE2,hE3,hE3,h1,h2,h3]
  rcases hall so[j] (List.getElem_mem hjl) with e|e|e
  ·rw [e];exact .inl ⟨rfl,rfl,rfl,rfl⟩
  ·rw [e];exact .inr (.inl ⟨rfl,rfl,rfl,rfl⟩)
  ·rw [e];exact .inr (.inr ⟨rfl,rfl,rfl,rfl⟩)
 clear hE1 hE2 hE3 hsg hall hsh
 have hround:=fun j hj hpre {QQ}=>formed_round p hN i hi xk xn xs xt xo hlow hxo E1 E2 E3 hE hb j hj hpre (QQ:=QQ)
 have c1:(E1 xo.length:Int)+(E2 xo.length:Nat)+(E3 xo.length:Nat)=((xo.map fun i=>[I i]).length:Nat):=by omega
 have c2:E1 xo.length≤100000∧E2 xo.length≤100000∧E3 xo.length≤100000:=hb _
 obtain ⟨c3,c4,c5⟩:=c2
 clear hE hb
 by_cases hx:xo.length=0
 ·have hx' : ¬(0:Int)<((xo.map fun i=>[I i]).length:Nat):=by omega
  have hkind:(xk=1∧0≤xn∧xn<4294967296)∨xk=2∨xk=12∨((xk=8∨xk=10)∧E1 xo.length=xo.length)∨(xk=18∧E2 xo.length=xo.length):=by
   cases hdoc with
   | num h h1 h2 h3=>exact .inl ⟨h,h2,h3⟩
   | none h h1=>omega
   | two h h1 h2=>omega
   | many h h1=>omega
   | one h h1 h2=>omega
   | act h h1 h2=>omega
   | cond h h0 h1 h2 h3 h4=>omega
   | loop h h0 h1 h2 h3 h4=>omega
   | blk h h1=>omega
  clear hdoc hhd
  rcases hkind with ⟨rfl,h2,h3⟩|rfl|rfl|⟨rfl|rfl,h2⟩|⟨rfl,h2⟩
  all_goals refine Ret_by is_ref06_formed rfl ?_
  all_goals repeat refine aw ?_
  all_goals refine WT_for xo.length (fmS p i (ndB _ xn xs xt xo) E1 E2 E3) (fun _=>True) (by exact Uw.wM) (fun _=>?_) (fun j hj hpre=>hround j hj hpre)
  all_goals refine aw ?_
  all_goals refine WT_break ?_
  all_goals repeat refine aw ?_
  all_goals first|exact WT_ret rfl rfl rfl rfl rfl|exact WT_ret rfl rfl rfl rfl (congrArg Dat.bool (decide_eq_true (by omega)))
 ·have hx' : (0:Int)<((xo.map fun i=>[I i]).length:Nat):=by omega
  have hx2:0<xo.length:=by omega
  obtain ⟨hh1,hh2⟩:=hhd hx2
  rw [hh2] at hdoc
  have he0:(xo.map fun i=>[I i])[Int.toNat 0]? = some [I xo[0]]:=by
   show (xo.map fun i=>[I i])[0]? = _
   simp [hx2]
  have hlo:=hlow xo[0] (List.getElem_mem hx2)
  clear hhd hh2 hlow
  generalize xo[0]=y at *
  obtain ⟨hl1,hl2⟩:=hlo
  have hyl:y.toNat<p.nodes.length:=by omega
  have hen:(p.nodes.map ndL)[y.toNat]? = some (ndL p.nodes[y.toNat]):=by simp [hyl]
  have hk:kindAt p.nodes y=p.nodes[y.toNat].kind:=by rw [kindAt,List.getD,List.getElem?_eq_getElem hyl];rfl
  rw [hk] at hh1 hdoc
  clear hk
  generalize p.nodes[y.toNat]=n at *
  obtain ⟨yk,yn,ys,yt,yo⟩:=n
  have hen:(p.nodes.map ndL)[y.toNat]? = some [I yk,I yn,.str ys,.str yt,intsD yo]:=hen
  have hso:=s_ref06_sort yk
  simp only at hh1 hdoc
  rw [← hh1] at hso
  have hkind:((xk=3∨xk=4∨xk=5∨xk=6∨xk=7∨xk=11)∧E1 xo.length=2∧xo.length=2)∨((xk=8∨xk=10)∧E1 xo.length=xo.length)∨((xk=9∨xk=15∨xk=16)∧E1 xo.length=1∧xo.length=1)∨(xk=17∧xo.length=1∧yk=8)∨(xk=13∧so.headD 0=1∧E1 xo.length=1∧E2 xo.length=0∧(E3 xo.length=1∨E3 xo.length=2))∨(xk=14∧so.headD 0=1∧E1 xo.length=1∧E2 xo.length=0∧E3 xo.length=1)∨(xk=18∧E2 xo.length=xo.length):=by
   cases hdoc with
   | num h h1 h2 h3=>omega
   | none h h1=>omega
   | two h h1 h2=>exact .inl ⟨h,by omega,by omega⟩
   | many h h1=>exact .inr (.inl ⟨h,by omega⟩)
   | one h h1 h2=>exact .inr (.inr (.inl ⟨h,by omega,by omega⟩))
   | act h h1 h2=>exact .inr (.inr (.inr (.inl ⟨h,by omega,h2⟩)))
   | cond h h0 h1 h2 h3 h4=>exact .inr (.inr (.inr (.inr (.inl ⟨h,h1,by omega,by omega,by omega⟩))))
   | loop h h0 h1 h2 h3 h4=>exact .inr (.inr (.inr (.inr (.inr (.inl ⟨h,h1,by omega,by omega,by omega⟩)))))
   | blk h h1=>exact .inr (.inr (.inr (.inr (.inr (.inr ⟨h,by omega⟩)))))
  clear hdoc hh1
  generalize so.headD 0=hd at *
  clear hsum n1 n2 n3 hsl
  rcases hkind with ⟨rfl|rfl|rfl|rfl|rfl|rfl,h2,h3⟩|⟨rfl|rfl,h2⟩|⟨rfl|rfl|rfl,h2,h3⟩|⟨rfl,h3,rfl⟩|⟨rfl,rfl,h2,h3,h4|h4⟩|⟨rfl,rfl,h2,h3,h4⟩|⟨rfl,h2⟩
  all_goals refine Ret_by is_ref06_formed rfl ?_
  all_goals repeat refine aw ?_
  all_goals refine WT_for xo.length (fmS p i (ndB _ xn xs xt xo) E1 E2 E3) (fun _=>True) (by exact Uw.wM) (fun _=>?_) (fun j hj hpre=>hround j hj hpre)
  all_goals refine aw ?_
  all_goals refine WT_break ?_
  all_goals repeat refine aw ?_
  all_goals first|exact WT_ret rfl rfl rfl rfl rfl|exact WT_ret rfl rfl rfl rfl (congrArg Dat.bool (decide_eq_true (by omega)))
set_option maxRecDepth 4000 in
set_option maxHeartbeats 4000000 in
theorem s_ref06_Formed (p:Pg) (hf:formedP p=true) (hp:Lim p):Ret P0 n_ref06_Formed [pgD p] (.bool true):=by
 have hN:=hp.nodes
 have hF:=hp.funs
 have hnl:(p.nodes.map ndL).length=p.nodes.length:=by simp
 have hfl:(p.funs.map fuL).length=p.funs.length:=by simp
 have hel1:∀(j:Nat) (h:j<p.nodes.length),(p.nodes.map ndL)[(j:Int).toNat]? = some (ndL p.nodes[j]):=fun j h=>by simp [h]
 have hel2:∀(j:Nat) (h:j<p.funs.length),(p.funs.map fuL)[(j:Int).toNat]? = some (fuL p.funs[j]):=fun j h=>by simp [h]
 refine Ret_by is_ref06_Formed rfl ?_
 repeat refine aw ?_
 refine WT_for p.nodes.length (fun j:Nat=>⟨[(3,.d (I j)),(1,.ptr 0 0)],[(0,pgV p)],1,[],0⟩) (fun _=>True) (by exact Uw.wM) (fun _=>?_) (fun j hj _=>?_)
 rotate_left 1
 ·have h1:=s_ref06_formed p hf hp j hj
  have h2:=s_ref06_uses p (j:Int) hp
  rw [formed_count hf j hj] at h2
  repeat refine aw ?_
  exact WT_next j trivial (by exact Uw.wM)
 refine aw ?_
 refine WT_break ?_
 repeat refine aw ?_
 refine WT_for p.funs.length (fun j:Nat=>⟨[(5,.d (I j)),(1,.ptr 0 0)],[(0,pgV p)],1,[],0⟩) (fun _=>True) (by exact Uw.wM) (fun _=>?_) (fun j hj _=>?_)
 ·refine aw ?_
  refine WT_break ?_
  exact WT_ret rfl rfl rfl rfl rfl
 have he:=hel2 j hj
 obtain ⟨hb1,hb2,hb3⟩:=formed_body hf j hj
 clear hel1 hel2
 generalize p.funs[j]=f at *
 obtain ⟨fn,fa,fb⟩:=f
 have he:(p.funs.map fuL)[(j:Int).toNat]? = some [.str fn,strsC fa,I fb]:=he
 simp only at hb1 hb2 hb3
 have hyl:fb.toNat<p.nodes.length:=by omega
 have hen:(p.nodes.map ndL)[fb.toNat]? = some (ndL p.nodes[fb.toNat]):=by simp [hyl]
 have hk:kindAt p.nodes fb=p.nodes[fb.toNat].kind:=by rw [kindAt,List.getD,List.getElem?_eq_getElem hyl];rfl
 rw [hk] at hb3
 clear hk
 generalize p.nodes[fb.toNat]=n at *
 obtain ⟨yk,yn,ys,yt,yo⟩:=n
 simp only at hb3
 subst hb3
 have hen:(p.nodes.map ndL)[fb.toNat]? = some [I 18,I yn,.str ys,.str yt,intsD yo]:=hen
 repeat refine aw ?_
 exact WT_next j trivial (by exact Uw.wM)
end Uw.Tryz
namespace Uw.Tryz
open Go Uw
theorem WT_leaveG {α:Type} {P:Program} {Q:MExit→St→Prop} {S:α→St} {inv:α→Prop} {mu:α→Nat} {x:α} {kk:MExit→St→Tree} (hkk:∀s,kk .ret s=Tree.done .ret s) {s:St} (h:WT P Q (.done .ret s)):WT P (LoopQ S inv mu x fun e s=>WT P Q (kk e s)) (.done .ret s):=
 WT_leave (by show WT P Q (kk .ret s);rw [hkk];exact h)
def upTo (p:Pg) (k:Int):Nat→Int
 | 0=>-1
 | j+1=>if k∈(p.nodes.getD j default).of then (j:Int) else upTo p k j
theorem upTo_spec (p:Pg) (k:Int):∀n,(upTo p k n = -1∧∀j,j<n→k∉(p.nodes.getD j default).of)∨∃j,j<n∧upTo p k n=(j:Int)∧k∈(p.nodes.getD j default).of
 | 0=>.inl ⟨rfl,fun j h=>absurd h (Nat.not_lt_zero j)⟩
 | n+1=>by
  rw [upTo]
  by_cases h:k∈(p.nodes.getD n default).of
  ·rw [if_pos h];exact .inr ⟨n,by omega,rfl,h⟩
  ·rw [if_neg h]
   rcases upTo_spec p k n with ⟨h1,h2⟩|⟨j,h1,h2,h3⟩
   ·refine .inl ⟨h1,fun j hj=>?_⟩
    by_cases hjn:j=n
    ·subst hjn;exact h
    ·exact h2 j (by omega)
   ·exact .inr ⟨j,by omega,h2,h3⟩
abbrev whS (p:Pg) (x:Nat×Nat):St:=⟨[(5,.d (I (x.1:Nat))),(1,.d (I (x.2:Nat))),(2,.ptr 0 0)],[(0,pgV p)],1,[],0⟩
abbrev whS2 (p:Pg) (n k:Nat) (U:Nat→Int) (j:Nat):St:=⟨[(8,.d (I j)),(7,.d (I (U j))),(5,.d (I n)),(1,.d (I k)),(2,.ptr 0 0)],[(0,pgV p)],1,[],0⟩
abbrev whS3 (p:Pg) (n k j:Nat) (W:Nat→Int) (m:Nat):St:=⟨[(9,.d (I m)),(8,.d (I j)),(7,.d (I (W m))),(5,.d (I n)),(1,.d (I k)),(2,.ptr 0 0)],[(0,pgV p)],1,[],0⟩
def whB:MCode:=qL (qL (qR (qL (qR m_ref06_whose.code))))
def whX:MCode:=qL (qL (qR whB))
def whB2:MCode:=qL (qL (qR (qL (qR (qR whX)))))
def whB3:MCode:=qL (qL (qR (qL (qL (qR whB2)))))
set_option maxRecDepth 4000 in
set_option maxHeartbeats 4000000 in
theorem whose_in3 (p:Pg) (hN:p.nodes.length<100000) (n k j:Nat) (hj:j<p.nodes.length) (xk xn:Int) (xs xt:Str) (xo:List Int) (hxo:xo.length<100000) (he:(p.nodes.map ndL)[(j:Int).toNat]? = some [I xk,I xn,.str xs,.str xt,.slice 1 (xo.map fun i=>[I i]) false])
  (W:Nat→Int) (hWs:∀(m:Nat) (h:m<xo.length),W (m+1)=if xo[m]=(k:Int) then (j:Int) else W m) (m:Nat) (hm:m<xo.length) (hpre:∀i,i<m→True) {QQ:MExit→St→Prop}:WT P0 (LoopQ (whS3 p n k j W) (ForI xo.length fun _=>True) (forM xo.length) m QQ) (exec whB3 (whS3 p n k j W m) Tree.done):=by
 have hnl:(p.nodes.map ndL).length=p.nodes.length:=by simp
 have hol:(xo.map fun i=>[I i]).length=xo.length:=by simp
 have heo:(xo.map fun i=>[I i])[(m:Int).toNat]? = some [I xo[m]]:=by simp [hm]
 have hWs:=hWs m hm
 generalize xo[m]=y at *
 by_cases q:y=(k:Int)
 ·rw [if_pos q] at hWs
  repeat refine aw ?_
  exact WT_next m trivial (by exact Uw.wM)
 ·rw [if_neg q] at hWs
  repeat refine aw ?_
  exact WT_next m trivial (by exact Uw.wM)
set_option maxRecDepth 4000 in
set_option maxHeartbeats 4000000 in
theorem whose_in2 (p:Pg) (hp:Lim p) (n k:Nat) (j:Nat) (hj:j<p.nodes.length) (hpre:∀i,i<j→True) {QQ:MExit→St→Prop}:WT P0 (LoopQ (whS2 p n k (upTo p k)) (ForI p.nodes.length fun _=>True) (forM p.nodes.length) j QQ) (exec whB2 (whS2 p n k (upTo p k) j) Tree.done):=by
 have hN:=hp.nodes
 have hnl:(p.nodes.map ndL).length=p.nodes.length:=by simp
 have he:(p.nodes.map ndL)[(j:Int).toNat]? = some (ndL p.nodes[j]):=by simp [hj]
 have hxo:=hp.of p.nodes[j] (List.getElem_mem hj)
 have hU:upTo p k (j+1)=if (k:Int)∈p.nodes[j].of then (j:Int) else upTo p k j:=by
  rw [upTo,show p.nodes.getD j default=p.nodes[j] by simp [List.getD,hj]]
 generalize p.nodes[j]=x at *
 obtain ⟨xk,xn,xs,xt,xo⟩:=x
 have he:(p.nodes.map ndL)[(j:Int).toNat]? = some [I xk,I xn,.str xs,.str xt,.slice 1 (xo.map fun i=>[I i]) false]:=he
 have hol:(xo.map fun i=>[I i]).length=xo.length:=by simp
 simp only at hxo hU
 obtain ⟨W,hW⟩:∃W:Nat→Int,∀m,W m=if (k:Int)∈xo.take m then (j:Int) else upTo p k j:=⟨_,fun _=>rfl⟩
 have hW0:W 0=upTo p k j:=by rw [hW];simp
 have hWn:W xo.length=upTo p k (j+1):=by rw [hW,List.take_length,hU]
 have hWs:∀(m:Nat) (h:m<xo.length),W (m+1)=if xo[m]=(k:Int) then (j:Int) else W m:=fun m h=>by
  rw [hW,hW,List.take_succ_eq_append_getElem h]
  by_cases e:xo[m]=(k:Int)
  ·rw [if_pos (by simp [e]),if_pos e]
  ·rw [if_neg e]
   have:((k:Int)∈xo.take m++[xo[m]])↔(k:Int)∈xo.take m:=by
    rw [List.mem_append]
    exact ⟨fun h=>h.resolve_right fun h2=>e (List.mem_singleton.1 h2).symm,.inl⟩
   simp only [this]
 clear hW hU
 generalize hU1:upTo p k (j+1)=u1 at *
 generalize hU0:upTo p k j=u0 at *
 have hS0:whS2 p n k (upTo p k) j=⟨[(8,.d (I j)),(7,.d (I u0)),(5,.d (I n)),(1,.d (I k)),(2,.ptr 0 0)],[(0,pgV p)],1,[],0⟩:=by rw [whS2,hU0]
 have hS1:whS2 p n k (upTo p k) (j+1)=⟨[(8,.d (I ((j+1:Nat):Int))),(7,.d (I u1)),(5,.d (I n)),(1,.d (I k)),(2,.ptr 0 0)],[(0,pgV p)],1,[],0⟩:=by rw [whS2,hU1]
 rw [hS0]
 repeat refine aw ?_
 refine WT_for xo.length (whS3 p n k j W) (fun _=>True) (by exact Uw.wM) (fun _=>?_) (fun m hm hpre=>whose_in3 p hN n k j hj xk xn xs xt xo hxo he W hWs m hm hpre)
 refine aw ?_
 refine aw ?_
 refine aw ?_
 refine WT_break ?_
 repeat refine aw ?_
 refine WT_next j trivial (wk_eq hS1 ?_)
 exact Uw.wM
set_option maxRecDepth 4000 in
set_option maxHeartbeats 4000000 in
theorem whose_round (p:Pg) (hu:Ups p (ownersP p)) (hp:Lim p) (R:Int) (n k:Nat) (hnk:n≤k) (hk:k<p.nodes.length) (ho:(ownersP p).getD k 0=R) {kk:MExit→St→Tree} (hkk:∀s,kk .ret s=Tree.done .ret s) :
  WT P0 (LoopQ (whS p) (fun x=>x.1≤x.2∧x.2<p.nodes.length∧(ownersP p).getD x.2 0=R) (fun x=>p.nodes.length - x.1) (n,k) fun e s=>WT P0 (RetQ m_ref06_whose.res (I R)) (kk e s)) (exec whB (whS p (n,k)) Tree.done):=by
 have hN:=hp.nodes
 have hF:=hp.funs
 have hnl:(p.nodes.map ndL).length=p.nodes.length:=by simp
 have hfl:(p.funs.map fuL).length=p.funs.length:=by simp
 have hel2:∀(j:Nat) (h:j<p.funs.length),(p.funs.map fuL)[(j:Int).toNat]? = some (fuL p.funs[j]):=fun j h=>by simp [h]
 have hbody:∀(i:Nat) (h:i<p.funs.length),p.funs[i].body=(k:Int)→R=(i:Int):=fun i h e=>by
  rw [← ho];exact hu.body i h k hk e
 repeat refine aw ?_
 refine WT_for p.funs.length (fun j:Nat=>⟨[(6,.d (I j)),(5,.d (I n)),(1,.d (I k)),(2,.ptr 0 0)],[(0,pgV p)],1,[],0⟩) (fun j=>∀h:j<p.funs.length,p.funs[j].body≠(k:Int)) (by exact Uw.wM) (fun g=>?_) (fun j hj _=>?_)
 rotate_left 1
 ·have he:=hel2 j hj
  have hbody:=hbody j hj
  have hG:p.funs[j].body≠(k:Int)→(fun j=>∀h:j<p.funs.length,p.funs[j].body≠(k:Int)) j:=fun h _=>h
  clear hel2
  generalize p.funs[j]=f at *
  obtain ⟨fn,fa,fb⟩:=f
  have he:(p.funs.map fuL)[(j:Int).toNat]? = some [.str fn,strsC fa,I fb]:=he
  simp only at hbody hG
  by_cases q:fb=(k:Int)
  ·rw [hbody q]
   repeat refine aw ?_
   refine WT_leave (WT_leaveG hkk ?_)
   exact WT_ret rfl rfl rfl rfl rfl
  ·have hG1:=hG q
   repeat refine aw ?_
   exact WT_next j hG1 (by exact Uw.wM)
 have hex:∃i:Nat,i<p.nodes.length∧upTo p k p.nodes.length=(i:Int)∧k<i∧(ownersP p).getD i 0=R:=by
  rcases upTo_spec p k p.nodes.length with ⟨_,h2⟩|⟨i,h1,h2,h3⟩
  ·refine absurd (hu.up k hk (fun i hi=>g i hi hi) fun i hi hm=>h2 i hi ?_) id
   rw [show p.nodes.getD i default=p.nodes[i] by simp [List.getD,hi]];exact hm
  ·rw [show p.nodes.getD i default=p.nodes[i] by simp [List.getD,h1]] at h3
   obtain ⟨e1,e2⟩:=hu.kid i h1 k h3
   exact ⟨i,h1,h2,e2,by rw [← e1];exact ho⟩
 obtain ⟨i,hi1,hi2,hi3,hi4⟩:=hex
 have hS0:whS2 p n k (upTo p k) 0=⟨[(8,.d (I ((0:Nat):Int))),(7,.d (I (-1))),(5,.d (I n)),(1,.d (I k)),(2,.ptr 0 0)],[(0,pgV p)],1,[],0⟩:=rfl
 have hSn:whS2 p n k (upTo p k) p.nodes.length=⟨[(8,.d (I (p.nodes.length:Nat))),(7,.d (I (i:Nat))),(5,.d (I n)),(1,.d (I k)),(2,.ptr 0 0)],[(0,pgV p)],1,[],0⟩:=by rw [whS2,hi2]
 clear hel2 hbody g hi2
 refine aw ?_
 refine WT_break ?_
 repeat refine aw ?_
 refine WT_for p.nodes.length (whS2 p n k (upTo p k)) (fun _=>True) (wk_eq hS0 ?_) (fun _=>?_) (fun j hj hpre=>whose_in2 p hp n k j hj hpre)
 ·exact Uw.wM
 rw [hSn]
 refine aw ?_
 refine WT_break ?_
 repeat refine aw ?_
 exact WT_again (n+1,i) ⟨by show n+1≤i;omega,hi1,hi4⟩ (by show p.nodes.length - (n+1)<p.nodes.length - n;omega) (by exact Uw.wM)
set_option maxRecDepth 4000 in
set_option maxHeartbeats 4000000 in
theorem s_ref06_whose (p:Pg) (hf:formedP p=true) (hp:Lim p) (k:Nat) (hk:k<p.nodes.length):Ret P0 n_ref06_whose [pgD p,I k] (I ((ownersP p).getD k 0)):=by
 have hu:=formed_ups hf
 obtain ⟨R,hR⟩:∃R,(ownersP p).getD k 0=R:=⟨_,rfl⟩
 rw [hR]
 refine Ret_by is_ref06_whose rfl ?_
 repeat refine aw ?_
 refine WT_loop (whS p) (fun x=>x.1≤x.2∧x.2<p.nodes.length∧(ownersP p).getD x.2 0=R) (fun x=>p.nodes.length - x.1) (0,k) (by exact Uw.wM) ⟨Nat.zero_le _,hk,hR⟩ ?_
 rintro ⟨n,k'⟩ ⟨h1,h2,h3⟩
 exact whose_round p hu hp R n k' h1 h2 h3 (fun s=>rfl)
end Uw.Tryz
namespace Uw.Tryz
open Go Uw
theorem fam_setM {rid mid:Nat→Nat} {n:Nat} (hI:FamI rid mid n) (m:MS) (id:Nat):∀(ls:List (List Str)) (ms:List MS) (i k:Nat),i+ls.length≤n→k<ls.length→k<ms.length→look (famG rid mid i ls (ms.set k m)) id=if id=mid (i+k) then some (.map none m) else look (famG rid mid i ls ms) id
 | [],_,i,k,_,h,_=>by simp at h
 | l::ls,[],i,k,_,_,h=>by simp at h
 | l::ls,m0::ms,i,0,hn,_,_=>by
  simp only [List.length_cons] at hn
  rw [List.set_cons_zero,famG,famG,look_app,look_app]
  by_cases he:id=mid (i+0)
  ·rw [if_pos he]
   have h1:look (if l=[] then [] else [(rid i,Blk.arr 1 (rowT l))]) id=none:=by
    split
    ·rfl
    ·rw [look_cons,if_neg (fun e=>hI.rm i i (by omega) (by omega) (e.trans he))];rfl
   rw [h1,look_cons,if_pos (show mid i=id from he.symm)]
  ·rw [if_neg he,look_cons,look_cons,if_neg (show ¬mid i=id from fun e=>he e.symm)]
   simp only [if_neg (show ¬mid i=id from fun e=>he e.symm)]
 | l::ls,m0::ms,i,k+1,hn,hk,hm=>by
  simp only [List.length_cons] at hn hk hm
  rw [List.set_cons_succ,famG,famG,look_app,look_app,look_cons,look_cons,fam_setM hI m id ls ms (i+1) k (by omega) (by omega) (by omega),show i+1+k=i+(k+1) by omega]
  by_cases he:id=mid (i+(k+1))
  ·rw [if_pos he,if_pos he]
   have h1:look (if l=[] then [] else [(rid i,Blk.arr 1 (rowT l))]) id=none:=by
    split
    ·rfl
    ·rw [look_cons,if_neg (fun e=>hI.rm i (i+(k+1)) (by omega) (by omega) (e.trans he))];rfl
   rw [h1,if_neg (fun e=>by have:=hI.mm i (i+(k+1)) (by omega) (by omega) (e.trans he);omega)]
  ·rw [if_neg he,if_neg he]
theorem fam_setR {rid mid:Nat→Nat} {n:Nat} (hI:FamI rid mid n) {l' : List Str} (hl' : l'≠[]) (id:Nat):∀(ls:List (List Str)) (ms:List MS) (i k:Nat),i+ls.length≤n→k<ls.length→k<ms.length→look (famG rid mid i (ls.set k l') ms) id=if id=rid (i+k) then some (.arr 1 (rowT l')) else look (famG rid mid i ls ms) id
 | [],_,i,k,_,h,_=>by simp at h
 | l::ls,[],i,k,_,_,h=>by simp at h
 | l::ls,m0::ms,i,0,hn,_,_=>by
  simp only [List.length_cons] at hn
  rw [List.set_cons_zero,famG,famG,if_neg hl',List.cons_append,look_cons]
  by_cases he:id=rid (i+0)
  ·rw [if_pos he,if_pos (show rid i=id from he.symm)]
  ·rw [if_neg he,if_neg (show ¬rid i=id from fun e=>he e.symm)]
   split
   ·rfl
   ·rw [List.cons_append,look_cons,if_neg (show ¬rid i=id from fun e=>he e.symm)]
 | l::ls,m0::ms,i,k+1,hn,hk,hm=>by
  simp only [List.length_cons] at hn hk hm
  rw [List.set_cons_succ,famG,famG,look_app,look_app,look_cons,look_cons,fam_setR hI hl' id ls ms (i+1) k (by omega) (by omega) (by omega),show i+1+k=i+(k+1) by omega]
  by_cases he:id=rid (i+(k+1))
  ·rw [if_pos he,if_pos he]
   have h1:look (if l=[] then [] else [(rid i,Blk.arr 1 (rowT l))]) id=none:=by
    split
    ·rfl
    ·rw [look_cons,if_neg (fun e=>by have:=hI.rr i (i+(k+1)) (by omega) (by omega) (e.trans he);omega)];rfl
   rw [h1,if_neg (fun e=>hI.rm (i+(k+1)) i (by omega) (by omega) (e.trans he).symm)]
  ·rw [if_neg he,if_neg he]
theorem rowsV_set (rid:Nat→Nat):∀(ls:List (List Str)) (i k:Nat) (l' : List Str),k<ls.length→(rowsV rid i ls).set k (if l' = [] then V.d (.slice 1 [] true) else .ref (rid (i+k)) 0 0 l'.length)=rowsV rid i (ls.set k l')
 | [],i,k,l',h=>by simp at h
 | l::ls,i,0,l',h=>rfl
 | l::ls,i,k+1,l',h=>by
  have:=rowsV_set rid ls (i+1) k l' (by simpa using h)
  rw [rowsV,List.set_cons_succ,List.set_cons_succ,rowsV,← this,show i+1+k=i+(k+1) by omega]
theorem heq_fam {c fam fam' : Heap} {a:Nat} {x:Blk} (hc:∀q∈c,q.1≠a) (hf:∀id,look fam' id=if id=a then some x else look fam id) (id:Nat):look (c++fam') id=look ((a,x)::(c++fam)) id:=by
 rw [look_cons,look_app,look_app,hf id]
 by_cases he:id=a
 ·subst he
  have:look c id=none:=by
   cases h:look c id with
   | none=>rfl
   | some b=>exact absurd rfl (hc _ (look_mem h))
  rw [if_pos rfl,if_pos rfl,this]
 ·rw [if_neg he,if_neg (fun e=>he e.symm)]
theorem lo_same2 {p:Pg} {ls:List (List Str)} {ms:List MS} {R R' : Regs} {H:Heap} {r r' n:Nat} {rv' : List V} (hms:ms.length=ls.length) (hl:ls.length<100000) (h1:subR (renF []) R H (loH p (rowsV rid 0 ls++List.replicate r (.d .nil)) (mapsV mid 0 ls.length++List.replicate r' (.d .nilMap)) (famF ls ms)) R')
  (e2:look H 2=some (.var rv')) (hrv:rv' = rowsV rid 0 ls++List.replicate r (.d .nil)) (e3:look H 3=some (.var (mapsV mid 0 ls.length++List.replicate r' (.d .nilMap)))) (e1:look H 1=some (.map none (thE p.decls))) (e0:look H 0=some (pgV p))
  (ho:Over (famF ls ms) H):Weak ⟨R,H,n,[],0⟩ ⟨R',loH p (rowsV rid 0 ls++List.replicate r (.d .nil)) (mapsV mid 0 ls.length++List.replicate r' (.d .nilMap)) (famF ls ms),1000000,[],0⟩:=by
 subst hrv
 exact lo_same hms hl h1 e2 e3 e1 e0 (fun id x h=>by have:=famF_inv h;rw [ho id this.1 (by omega)];exact h)
def rhoR (j a:Nat) (id:Nat):Nat:=if id=rid j then a else id
theorem lo_new {p:Pg} {ls:List (List Str)} {ms:List MS} {l:List Str} {R R' : Regs} {H:Heap} {n k:Nat} {rv' : List V} (hms:ms.length=ls.length) (hl:ls.length<100000) (hk:k<ls.length) (hne:l≠[])
  (h1:subR (rhoR k 1000001) R H (loH p (loRv (ls.set k l) 0) (loMv (ls.set k l).length 0) (famF (ls.set k l) ms)) R')
  (e2:look H 2=some (.var rv')) (hrv:rv' = (loRv ls 0).set k (.ref 1000001 0 0 l.length)) (e3:look H 3=some (.var (loMv ls.length 0))) (e1:look H 1=some (.map none (thE p.decls))) (e0:look H 0=some (pgV p)) (ea:look H 1000001=some (.arr 1 (rowT l)))
  (ho:Over (famF ls ms) H):Weak ⟨R,H,n,[],0⟩ ⟨R',loH p (loRv (ls.set k l) 0) (loMv (ls.set k l).length 0) (famF (ls.set k l) ms),1000000,[],0⟩:=by
 subst hrv
 have hlen:(ls.set k l).length=ls.length:=by simp
 rw [hlen] at h1 ⊢
 have hlow:∀i,i<4→rhoR k 1000001 i=i:=fun i h=>by unfold rhoR;rw [if_neg (by simp only [rid];omega)]
 have hm:∀i,rhoR k 1000001 (mid i)=mid i:=fun i=>by unfold rhoR;rw [if_neg (by simp only [rid,mid];omega)]
 have hr:∀i,i≠k→rhoR k 1000001 (rid i)=rid i:=fun i h=>by unfold rhoR;rw [if_neg (by simp only [rid];omega)]
 have hrk:rhoR k 1000001 (rid k)=1000001:=by unfold rhoR;rw [if_pos rfl]
 refine Weak.looksR (rhoR k 1000001) h1 ?_ ?_
 ·intro id x hx
  rcases loH_inv hx with ⟨rfl,rfl⟩|⟨rfl,rfl⟩|⟨rfl,rfl⟩|⟨rfl,rfl⟩|hx
  ·refine ⟨⟨_,by rw [hlow 2 (by omega)];exact e2,BSim_by ?_ (rows_closed (by simp [hms]))⟩,by omega⟩
   show Blk.var _=Blk.var (renL _ _)
   congr 1
   rw [renL_app,renL_rep,renL_rows,List.set_append_left _ _ (by rw [rowsV_len];exact hk)]
   congr 1
   apply List.ext_getElem?
   intro i
   by_cases hik:i=k
   ·subst hik
    rw [List.getElem?_set_self (by rw [rowsV_len];exact hk),rowsV_get _ _ 0 i l (by simp [hk]),if_neg hne]
    simp only [Nat.zero_add];rw [hrk]
   ·rw [List.getElem?_set_ne (Ne.symm hik)]
    rcases Nat.lt_or_ge i ls.length with h|h
    ·rw [rowsV_get rid ls 0 i ls[i] (by simp [h]),rowsV_get _ _ 0 i ls[i] (by rw [List.getElem?_set_ne (Ne.symm hik)];simp [h])]
     simp only [Nat.zero_add];rw [hr i hik]
    ·rw [List.getElem?_eq_none (by rw [rowsV_len];exact h),List.getElem?_eq_none (by rw [rowsV_len,hlen];exact h)]
  ·refine ⟨⟨_,by rw [hlow 3 (by omega)];exact e3,BSim_by ?_ (maps_closed (by simp [hms]) hlen.symm)⟩,by omega⟩
   show Blk.var _=Blk.var (renL _ _)
   rw [renL_app,renL_rep,renL_maps,mapsV_congr (mid:=fun i=>rhoR k 1000001 (mid i)) (mid':=mid) ls.length 0 fun i _=>hm _]
  ·exact ⟨⟨_,by rw [hlow 1 (by omega)];exact e1,BSim_by rfl rfl⟩,by omega⟩
  ·exact ⟨⟨_,by rw [hlow 0 (by omega)];exact e0,BSim_by rfl rfl⟩,by omega⟩
  ·obtain ⟨g1,g2,g3,g4⟩:=famF_inv hx
   refine ⟨⟨x,?_,BSim_by (g4 _).symm (g3 _)⟩,by rw [hlen] at g2;omega⟩
   have hs:=fam_setR (famI ls.length) hne id ls ms 0 k (by omega) hk (by omega)
   rw [show look (famG rid mid 0 (ls.set k l) ms) id=some x from hx,Nat.zero_add] at hs
   by_cases he:id=rid k
   ·rw [if_pos he] at hs
    injection hs with hs
    rw [he,hrk,hs];exact ea
   ·rw [if_neg he] at hs
    unfold rhoR
    rw [if_neg he,ho id g1 (by rw [hlen] at g2;omega)]
    exact hs.symm
 ·intro id id' h h' he
  have bd:∀i,(look (loH p (loRv (ls.set k l) 0) (loMv ls.length 0) (famF (ls.set k l) ms)) i).isSome=true→i<1000000:=by
   intro i hi
   obtain ⟨x,hx⟩:=Option.isSome_iff_exists.1 hi
   rcases loH_inv hx with ⟨rfl,rfl⟩|⟨rfl,rfl⟩|⟨rfl,rfl⟩|⟨rfl,rfl⟩|hx
   ·omega
   ·omega
   ·omega
   ·omega
   ·have:=(famF_inv hx).2.1
    rw [hlen] at this;omega
  have b1:=bd id h
  have b2:=bd id' h'
  unfold rhoR at he
  split at he<;>split at he<;>omega
theorem rhoR_low {j a k:Nat} (hk:k<4):rhoR j a k=k:=by unfold rhoR;rw [if_neg (by simp only [rid];omega)]
theorem VW_rrow {j a k n:Nat} {h h' : Heap} (hk:k<4) (hc:(look h' k).isSome=true):VW (rhoR j a) h h' (.row k n) (.row k n):=.inl ⟨by rw [V.ren,rhoR_low hk],hc⟩
theorem VW_rhnd {j a k:Nat} {h h' : Heap} (hk:k<4) (hc:(look h' k).isSome=true):VW (rhoR j a) h h' (.hnd k) (.hnd k):=.inl ⟨by rw [V.ren,rhoR_low hk],hc⟩
theorem VW_rptr {j a k o:Nat} {h h' : Heap} (hk:k<4) (hc:(look h' k).isSome=true):VW (rhoR j a) h h' (.ptr k o) (.ptr k o):=.inl ⟨by rw [V.ren,rhoR_low hk],hc⟩
theorem lo_regsR {p:Pg} {j a:Nat} {R:Regs} {H:Heap} {rv mv:List V} {fam:Heap} (h6:look R 6=some (.row 3 (nF p))) (h5:look R 5=some (.row 2 (nF p))) (h4:look R 4=some (.d (intsD (ownersP p)))) (h3:look R 3=some (.hnd 1)) (h1:look R 1=some (.ptr 0 0)) :
  subR (rhoR j a) R H (loH p rv mv fam) (loR p):=
 ⟨⟨_,h6,VW_rrow (by omega) rfl⟩,⟨_,h5,VW_rrow (by omega) rfl⟩,⟨_,h4,.inl ⟨rfl,rfl⟩⟩,⟨_,h3,VW_rhnd (by omega) rfl⟩,⟨_,h1,VW_rptr (by omega) rfl⟩,trivial⟩
def loB2:MCode:=qL (qL (qR (qL (qR (qR (qR (qR (qR (qR m_check_locals.code)))))))))
def lsAt (p:Pg) (k:Nat):List (List Str):=localsGo p ((p.nodes.zip (ownersP p)).take k) (argsL p)
theorem localsGo_snoc (p:Pg):∀(r:List (Nd×Int)) (y:Nd×Int) (ls:List (List Str)),localsGo p (r++[y]) ls=(if localN p y.1 then addLocal (localsGo p r ls) y.2.toNat y.1.name else localsGo p r ls)
 | [],y,ls=>rfl
 | (x,o)::r,y,ls=>by rw [List.cons_append,localsGo,localsGo_snoc p r,localsGo]
theorem lsAt_succ (p:Pg) (k:Nat) (h:k<p.nodes.length):lsAt p (k+1)=(if localN p p.nodes[k] then addLocal (lsAt p k) ((ownersP p).getD k 0).toNat p.nodes[k].name else lsAt p k):=by
 have h2:k<(ownersP p).length:=by rw [ownersP_len];exact h
 have hz:k<(p.nodes.zip (ownersP p)).length:=by rw [List.length_zip];omega
 rw [lsAt,lsAt,List.take_succ_eq_append_getElem hz,localsGo_snoc,List.getElem_zip]
 simp [List.getD,h2]
theorem lsAt_len (p:Pg) (k:Nat):(lsAt p k).length=p.funs.length:=by
 have:∀(r:List (Nd×Int)) (ls:List (List Str)),(localsGo p r ls).length=ls.length:=by
  intro r
  induction r with
  | nil=>intro ls;rfl
  | cons y r ih=>
   intro ls
   obtain ⟨x,o⟩:=y
   rw [localsGo,ih]
   split
   ·rw [addLocal_len]
   ·rfl
 rw [lsAt,this];simp
theorem lsAt_all (p:Pg):lsAt p p.nodes.length=localsP p:=by
 rw [lsAt,localsP,List.take_of_length_le (by rw [List.length_zip];omega)]
theorem lsAt_bound (p:Pg) (hp:Lim p) (k f:Nat) (l:List Str) (h:(lsAt p k)[f]? = some l):l.length≤100000+k:=by
 have key:∀(r:List (Nd×Int)) (ls:List (List Str)) (b:Nat),(∀l∈ls,l.length≤b)→∀l∈localsGo p r ls,l.length≤b+r.length:=by
  intro r
  induction r with
  | nil=>intro ls b h l hl;exact h l hl
  | cons y r ih=>
   intro ls b h l hl
   obtain ⟨x,o⟩:=y
   rw [localsGo] at hl
   have:=ih _ (b+1) ?_ l hl
   ·simp;omega
   ·intro l' hl'
    split at hl'
    ·unfold addLocal at hl'
     split at hl'
     ·have:=h l' hl';omega
     ·rcases List.mem_or_eq_of_mem_set hl' with hl' | rfl
      ·have:=h l' hl';omega
      ·have hg:(ls.getD o.toNat []).length≤b:=by
        rw [List.getD]
        cases hq:ls[o.toNat]? with
        | none=>simp
        | some v=>exact h v (List.mem_of_getElem? hq)
       rw [List.length_append]
       show (ls.getD o.toNat []).length+1≤b+1
       omega
    ·have:=h l' hl';omega
 have:=key ((p.nodes.zip (ownersP p)).take k) (argsL p) 100000 (fun l hl=>by
  obtain ⟨f,hf,rfl⟩:=List.mem_map.1 hl
  exact Nat.le_of_lt (hp.args f hf)) l (List.mem_of_getElem? h)
 have hl2:((p.nodes.zip (ownersP p)).take k).length≤k:=by simp;omega
 omega
abbrev loS2 (p:Pg) (k:Nat):St:=⟨(63,.d (I k))::(62,.d (I ((p.nodes.map ndL).length:Nat)))::(61,.d (nodesD p.nodes))::loR p,loH p (loRv (lsAt p k) 0) (loMv (lsAt p k).length 0) (famF (lsAt p k) ((lsAt p k).map seenE)),1000000,[],0⟩
end Uw.Tryz
namespace Uw.Tryz
open Go Uw
theorem locR_len (p:Pg) (f:Int):∀(r:List (Nd×Int)) (l:List Str),(locR p f r l).length≤l.length+r.length
 | [],l=>by rw [locR];simp
 | (x,o)::r,l=>by
  rw [locR]
  refine Nat.le_trans (locR_len p f r _) ?_
  split
  ·simp;omega
  ·simp
theorem locR_snoc (p:Pg) (f:Int) (x:Nd) (o:Int):∀(r:List (Nd×Int)) (l:List Str),locR p f (r++[(x,o)]) l=if localN p x=true∧o=f∧x.name∉locR p f r l then locR p f r l++[x.name] else locR p f r l
 | [],l=>by rw [List.nil_append,locR,locR,locR]
 | (y,q)::r,l=>by rw [List.cons_append,locR,locR_snoc p f x o r,locR]
abbrev lcE (p:Pg) (f j:Nat):St:=⟨[(7,.d (I j)),(6,.d (.slice 1 [] true)),(1,.d (I f)),(2,.ptr 0 0)],[(0,pgV p)],1,[],0⟩
abbrev lcR (p:Pg) (f:Nat) (l:List Str) (j:Nat):St:=⟨[(7,.d (I j)),(6,.ref 1 0 0 l.length),(1,.d (I f)),(2,.ptr 0 0)],[(1,.arr 1 (rowT l)),(0,pgV p)],2,[],0⟩
def lcS (p:Pg) (f:Nat) (L:Nat→List Str) (j:Nat):St:=if L j=[] then lcE p f j else lcR p f (L j) j
def lcB:MCode:=qL (qL (qR (qL (qR (qR (qR (qR m_ref06_Locals.code)))))))
theorem local_cases (p:Pg) (x:Nd) (o f:Int) (l:List Str) :
  ((if localN p x=true∧o=f∧x.name∉l then l++[x.name] else l)=l∧(x.kind≠9∧x.kind≠10∧x.kind≠11∨(x.kind=9∨x.kind=10∨x.kind=11)∧(x.name=[]∨x.name≠[]∧(o≠f∨o=f∧((thingP p x.name).isSome=true∨(thingP p x.name).isSome=false∧x.name∈l)))))∨
  ((if localN p x=true∧o=f∧x.name∉l then l++[x.name] else l)=l++[x.name]∧(x.kind=9∨x.kind=10∨x.kind=11)∧x.name≠[]∧o=f∧(thingP p x.name).isSome=false∧x.name∉l):=by
 by_cases hk:x.kind=9∨x.kind=10∨x.kind=11
 ·by_cases hn:x.name=[]
  ·refine .inl ⟨if_neg fun h=>?_,.inr ⟨hk,.inl hn⟩⟩
   have:=h.1
   simp [localN,hn] at this
  by_cases ho:o=f
  ·cases ht:(thingP p x.name).isSome with
   | true=>
    refine .inl ⟨if_neg fun h=>?_,.inr ⟨hk,.inr ⟨hn,.inr ⟨ho,.inl rfl⟩⟩⟩⟩
    have:=h.1
    rw [localN] at this
    cases h2:thingP p x.name with
    | none=>rw [h2] at ht;cases ht
    | some k=>rw [h2] at this;simp at this
   | false=>
    have hl:localN p x=true:=by
     rw [localN]
     cases h2:thingP p x.name with
     | some k=>rw [h2] at ht;cases ht
     | none=>simp [hn];omega
    by_cases hm:x.name∈l
    ·exact .inl ⟨if_neg fun h=>h.2.2 hm,.inr ⟨hk,.inr ⟨hn,.inr ⟨ho,.inr ⟨rfl,hm⟩⟩⟩⟩⟩
    ·exact .inr ⟨if_pos ⟨hl,ho,hm⟩,hk,hn,ho,rfl,hm⟩
  ·exact .inl ⟨if_neg fun h=>ho h.2.1,.inr ⟨hk,.inr ⟨hn,.inl ho⟩⟩⟩
 ·refine .inl ⟨if_neg fun h=>?_,.inl (by omega)⟩
  have:=h.1
  simp only [localN,Bool.and_eq_true,Bool.or_eq_true,decide_eq_true_eq] at this
  omega
set_option maxRecDepth 4000 in
set_option maxHeartbeats 8000000 in
theorem lc_roundE (p:Pg) (hf:formedP p=true) (hp:Lim p) (f j:Nat) (hj:j<p.nodes.length) (L:Nat→List Str) (h0:L j=[]) (hs:L (j+1)=if localN p p.nodes[j]=true∧(ownersP p).getD j 0=(f:Int)∧p.nodes[j].name∉L j then L j++[p.nodes[j].name] else L j)
  (hpre:∀i,i<j→True) {QQ:MExit→St→Prop}:WT P0 (LoopQ (lcS p f L) (ForI p.nodes.length fun _=>True) (forM p.nodes.length) j QQ) (exec lcB (lcS p f L j) Tree.done):=by
 have hN:=hp.nodes
 have hnl:(p.nodes.map ndL).length=p.nodes.length:=by simp
 have he:(p.nodes.map ndL)[(j:Int).toNat]? = some (ndL p.nodes[j]):=by simp [hj]
 have hw:=s_ref06_whose p hf hp j hj
 have hth:=s_ref06_thing p p.nodes[j].name (by have:=hp.decls;omega)
 have hin:Ret P0 n_ref06_In [.slice 1 [] true,.str p.nodes[j].name] (.bool false):=by
  have:=s_ref06_In [] p.nodes[j].name (by simp)
  rw [decide_eq_false (by simp)] at this
  exact this.args (.cons (.slice (.refl _)) (.refl _))
 have hS0:lcS p f L j=lcE p f j:=by rw [lcS,if_pos h0]
 rw [h0] at hs
 have hcs:=local_cases p p.nodes[j] ((ownersP p).getD j 0) f []
 generalize (ownersP p).getD j 0=o at *
 rw [thingD] at hth
 generalize p.nodes[j]=x at *
 obtain ⟨xk,xn,xs,xt,xo⟩:=x
 have he:(p.nodes.map ndL)[(j:Int).toNat]? = some [I xk,I xn,.str xs,.str xt,intsD xo]:=he
 simp only at hs hcs hth hin
 generalize (thingP p xs).getD (-1)=tk at *
 generalize (thingP p xs).isSome=tb at *
 rw [hS0]
 rcases hcs with ⟨h1,h2⟩|⟨h1,hk,hn,ho,ht,_⟩
 ·rw [h1] at hs
  have hS1:lcS p f L (j+1)=lcE p f (j+1):=by rw [lcS,if_pos hs]
  clear h1 hs h0
  rcases h2 with ⟨k9,k10,k11⟩|⟨hk,hn|⟨hn,ho|⟨ho,ht|⟨_,hm⟩⟩⟩⟩
  ·repeat refine aw ?_
   refine WT_next j trivial (wk_eq hS1 ?_)
   exact Uw.wM
  ·subst hn
   rcases hk with rfl|rfl|rfl
   all_goals repeat refine aw ?_
   all_goals refine WT_next j trivial (wk_eq hS1 ?_)
   all_goals exact Uw.wM
  ·rcases hk with rfl|rfl|rfl
   all_goals repeat refine aw ?_
   all_goals refine WT_next j trivial (wk_eq hS1 ?_)
   all_goals exact Uw.wM
  ·subst ho ht
   rcases hk with rfl|rfl|rfl
   all_goals repeat refine aw ?_
   all_goals refine WT_next j trivial (wk_eq hS1 ?_)
   all_goals exact Uw.wM
  ·simp at hm
 ·rw [h1] at hs
  have hS1:lcS p f L (j+1)=lcR p f [xs] (j+1):=by
   have hs:L (j+1)=[xs]:=hs
   rw [lcS,if_neg (by rw [hs];simp),hs]
  clear h1 hs h0
  subst ho ht
  rcases hk with rfl|rfl|rfl
  all_goals repeat refine aw ?_
  all_goals refine WT_next j trivial (wk_eq hS1 ?_)
  all_goals exact Weak.eqs [(1,2)] rfl rfl rfl rfl rfl rfl rfl rfl rfl rfl
set_option maxRecDepth 4000 in
set_option maxHeartbeats 8000000 in
theorem lc_roundR (p:Pg) (hf:formedP p=true) (hp:Lim p) (f j:Nat) (hj:j<p.nodes.length) (L:Nat→List Str) (h0:L j≠[]) (hlen:(L j).length<1000000) (hs:L (j+1)=if localN p p.nodes[j]=true∧(ownersP p).getD j 0=(f:Int)∧p.nodes[j].name∉L j then L j++[p.nodes[j].name] else L j)
  (hpre:∀i,i<j→True) {QQ:MExit→St→Prop}:WT P0 (LoopQ (lcS p f L) (ForI p.nodes.length fun _=>True) (forM p.nodes.length) j QQ) (exec lcB (lcS p f L j) Tree.done):=by
 have hN:=hp.nodes
 have hnl:(p.nodes.map ndL).length=p.nodes.length:=by simp
 have he:(p.nodes.map ndL)[(j:Int).toNat]? = some (ndL p.nodes[j]):=by simp [hj]
 have hw:=s_ref06_whose p hf hp j hj
 have hth:=s_ref06_thing p p.nodes[j].name (by have:=hp.decls;omega)
 have hS0:lcS p f L j=lcR p f (L j) j:=by rw [lcS,if_neg h0]
 have hcs:=local_cases p p.nodes[j] ((ownersP p).getD j 0) f (L j)
 generalize (ownersP p).getD j 0=o at *
 rw [hS0]
 clear hS0
 generalize hLj:L j=l at *
 have hin:Ret P0 n_ref06_In [.slice 1 (((rowT l).drop 0).take l.length) false,.str p.nodes[j].name] (.bool (decide (p.nodes[j].name∈l))):=by
  have e:((rowT l).drop 0).take l.length=rowT l:=by rw [List.drop_zero,List.take_of_length_le (by simp)]
  rw [e]
  exact s_ref06_In l p.nodes[j].name (by omega)
 have hrl:(rowT l).length=l.length:=by simp
 rw [thingD] at hth
 generalize p.nodes[j]=x at *
 obtain ⟨xk,xn,xs,xt,xo⟩:=x
 have he:(p.nodes.map ndL)[(j:Int).toNat]? = some [I xk,I xn,.str xs,.str xt,intsD xo]:=he
 simp only at hs hcs hth hin
 generalize (thingP p xs).getD (-1)=tk at *
 generalize (thingP p xs).isSome=tb at *
 rcases hcs with ⟨h1,h2⟩|⟨h1,hk,hn,ho,ht,hm⟩
 ·rw [h1] at hs
  have hS1:lcS p f L (j+1)=lcR p f l (j+1):=by rw [lcS,hs,if_neg h0]
  clear h1 hs h0 hLj
  rcases h2 with ⟨k9,k10,k11⟩|⟨hk,hn|⟨hn,ho|⟨ho,ht|⟨ht,hm⟩⟩⟩⟩
  ·repeat refine aw ?_
   refine WT_next j trivial (wk_eq hS1 ?_)
   exact Uw.wM
  ·subst hn
   rcases hk with rfl|rfl|rfl
   all_goals repeat refine aw ?_
   all_goals refine WT_next j trivial (wk_eq hS1 ?_)
   all_goals exact Uw.wM
  ·rcases hk with rfl|rfl|rfl
   all_goals repeat refine aw ?_
   all_goals refine WT_next j trivial (wk_eq hS1 ?_)
   all_goals exact Uw.wM
  ·subst ho ht
   generalize decide (xs∈l)=b at *
   rcases hk with rfl|rfl|rfl
   all_goals repeat refine aw ?_
   all_goals refine WT_next j trivial (wk_eq hS1 ?_)
   all_goals exact Uw.wM
  ·subst ho ht
   rw [decide_eq_true hm] at hin
   rcases hk with rfl|rfl|rfl
   all_goals repeat refine aw ?_
   all_goals refine WT_next j trivial (wk_eq hS1 ?_)
   all_goals exact Uw.wM
 ·rw [h1] at hs
  rw [decide_eq_false hm] at hin
  obtain ⟨l',hl'⟩:∃l',l' = l++[xs]:=⟨_,rfl⟩
  have hS1:lcS p f L (j+1)=lcR p f l' (j+1):=by rw [lcS,hs,← hl',if_neg (by rw [hl'];simp)]
  have hrow:rowT l++[[Dat.str xs]]=rowT l':=by rw [hl'];simp [rowT]
  have hlen2:l.length+1=l'.length:=by rw [hl'];simp
  clear h1 hs h0 hLj hl'
  subst ho ht
  rcases hk with rfl|rfl|rfl
  all_goals repeat refine aw ?_
  all_goals refine WT_next j trivial (wk_eq hS1 ?_)
  all_goals exact Uw.wM
theorem lc_facts (p:Pg) (hp:Lim p) (f:Nat) (hfl:f<p.funs.length):∃L:Nat→List Str,L 0=p.funs[f].args∧L p.nodes.length=locR p f (p.nodes.zip (ownersP p)) p.funs[f].args∧(∀j,(L j).length<1000000)∧
  ∀(j:Nat) (h:j<p.nodes.length),L (j+1)=if localN p p.nodes[j]=true∧(ownersP p).getD j 0=(f:Int)∧p.nodes[j].name∉L j then L j++[p.nodes[j].name] else L j:=by
 have hzl:(p.nodes.zip (ownersP p)).length=p.nodes.length:=by rw [List.length_zip,ownersP_len];omega
 refine ⟨fun j=>locR p f ((p.nodes.zip (ownersP p)).take j) p.funs[f].args,rfl,?_,fun j=>?_,fun j h=>?_⟩
 ·show locR p f ((p.nodes.zip (ownersP p)).take p.nodes.length) _=_
  rw [List.take_of_length_le (by omega)]
 ·have h1:=locR_len p f ((p.nodes.zip (ownersP p)).take j) p.funs[f].args
  rw [List.length_take,hzl] at h1
  have h2:=hp.args _ (List.getElem_mem hfl)
  have h3:=hp.nodes
  show (locR p f ((p.nodes.zip (ownersP p)).take j) p.funs[f].args).length<_
  omega
 ·have hz:j<(p.nodes.zip (ownersP p)).length:=by omega
  have hol:j<(ownersP p).length:=by rw [ownersP_len];exact h
  show locR p f ((p.nodes.zip (ownersP p)).take (j+1)) _=_
  rw [List.take_succ_eq_append_getElem hz,List.getElem_zip,locR_snoc]
  have e:(ownersP p)[j]=(ownersP p).getD j 0:=by simp [List.getD,hol]
  rw [e]
set_option maxRecDepth 4000 in
set_option maxHeartbeats 8000000 in
theorem s_ref06_Locals (p:Pg) (hf:formedP p=true) (hp:Lim p) (f:Nat) (hfl:f<p.funs.length):Ret P0 n_ref06_Locals [pgD p,I f] (strsC ((localsP p).getD f [])):=by
 have hN:=hp.nodes
 have hF:=hp.funs
 have hnl:(p.nodes.map ndL).length=p.nodes.length:=by simp
 have hfl2:(p.funs.map fuL).length=p.funs.length:=by simp
 have hfm:=s_ref06_Formed p hf hp
 obtain ⟨L,hL0,hLn,hLl,hLs⟩:=lc_facts p hp f hfl
 rw [localsP_get hf f hfl,← hLn]
 clear hLn
 have he:(p.funs.map fuL)[(f:Int).toNat]? = some (fuL p.funs[f]):=by simp [hfl]
 have hal:=hp.args _ (List.getElem_mem hfl)
 generalize p.funs[f]=g at *
 obtain ⟨gn,ga,gb⟩:=g
 have he:(p.funs.map fuL)[(f:Int).toNat]? = some [.str gn,.slice 1 (rowT ga) false,I gb]:=he
 simp only at hL0 hal
 have hgl:(rowT ga).length=ga.length:=by simp
 have hby:decide ((rowT ga).length * 16≤70368744177664)=true:=by rw [decide_eq_true_eq];omega
 have hround:∀(j:Nat),j<p.nodes.length→(∀i,i<j→True)→∀{QQ:MExit→St→Prop},WT P0 (LoopQ (lcS p f L) (ForI p.nodes.length fun _=>True) (forM p.nodes.length) j QQ) (exec lcB (lcS p f L j) Tree.done):=fun j hj hpre {QQ}=>by
  by_cases h0:L j=[]
  ·exact lc_roundE p hf hp f j hj L h0 (hLs j hj) hpre
  ·exact lc_roundR p hf hp f j hj L h0 (hLl j) (hLs j hj) hpre
 clear hLs hLl
 generalize hLn:L p.nodes.length=ln at *
 have hdat:((rowT ln).drop 0).take ln.length=rowT ln:=by rw [List.drop_zero,List.take_of_length_le (by simp)]
 by_cases hg:ga=[]
 ·subst hg
  have hS0:lcS p f L 0=lcE p f 0:=by rw [lcS,if_pos hL0]
  by_cases hn:ln=[]
  ·have hSn:lcS p f L p.nodes.length=lcE p f p.nodes.length:=by rw [lcS,hLn,if_pos hn]
   subst hn
   refine Ret.res (r:=.slice 1 [] true) ?_ (.slice (.refl _))
   refine Ret_by is_ref06_Locals rfl ?_
   repeat refine aw ?_
   refine WT_for p.nodes.length (lcS p f L) (fun _=>True) (wk_eq hS0 ?_) (fun _=>?_) (fun j hj hpre=>hround j hj hpre)
   ·exact Uw.wM
   rw [hSn]
   refine aw ?_
   refine WT_break ?_
   exact WT_ret rfl rfl rfl rfl rfl
  ·have hSn:lcS p f L p.nodes.length=lcR p f ln p.nodes.length:=by rw [lcS,hLn,if_neg hn]
   refine Ret_by is_ref06_Locals rfl ?_
   repeat refine aw ?_
   refine WT_for p.nodes.length (lcS p f L) (fun _=>True) (wk_eq hS0 ?_) (fun _=>?_) (fun j hj hpre=>hround j hj hpre)
   ·exact Uw.wM
   rw [hSn]
   refine aw ?_
   refine WT_break ?_
   exact WT_ret rfl rfl rfl rfl (congrArg (fun r=>Dat.slice 1 r false) hdat)
 ·have hemp:(rowT ga).isEmpty=false:=by cases ga<;>first|rfl|exact absurd rfl hg
  have hS0:lcS p f L 0=lcR p f ga 0:=by rw [lcS,hL0,if_neg hg]
  by_cases hn:ln=[]
  ·have hSn:lcS p f L p.nodes.length=lcE p f p.nodes.length:=by rw [lcS,hLn,if_pos hn]
   subst hn
   refine Ret.res (r:=.slice 1 [] true) ?_ (.slice (.refl _))
   refine Ret_by is_ref06_Locals rfl ?_
   repeat refine aw ?_
   refine WT_for p.nodes.length (lcS p f L) (fun _=>True) (wk_eq hS0 ?_) (fun _=>?_) (fun j hj hpre=>hround j hj hpre)
   ·exact Uw.wM
   rw [hSn]
   refine aw ?_
   refine WT_break ?_
   exact WT_ret rfl rfl rfl rfl rfl
  ·have hSn:lcS p f L p.nodes.length=lcR p f ln p.nodes.length:=by rw [lcS,hLn,if_neg hn]
   refine Ret_by is_ref06_Locals rfl ?_
   repeat refine aw ?_
   refine WT_for p.nodes.length (lcS p f L) (fun _=>True) (wk_eq hS0 ?_) (fun _=>?_) (fun j hj hpre=>hround j hj hpre)
   ·exact Uw.wM
   rw [hSn]
   refine aw ?_
   refine WT_break ?_
   exact WT_ret rfl rfl rfl rfl (congrArg (fun r=>Dat.slice 1 r false) hdat)
end Uw.Tryz
