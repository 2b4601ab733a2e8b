/- RHf: He Hf (merged by merge2.py from the working texts). -/
import Derived.Test.YtkmkjfkpnmhaiaaGreatDoorRHd
set_option linter.unusedSimpArgs false
set_option linter.unnecessarySimpa false
set_option linter.unusedVariables false
set_option linter.unusedSectionVars false
namespace Uw.Tryz
open Go Uw
def gI (L:Nat) (g:Nat->Int):List Int:=(List.range L).map g
theorem NA (L:Nat) (g:Nat->Int):(gI L g).length=L:=by simp [gI]
theorem NB {L i:Nat} (g:Nat->Int) (h:i<L):(gI L g).getD i 0=g i:=by simp [gI,List.getD,h]
theorem Es {L i:Nat} (g:Nat->Int) (h:i<L):(rw1 (gI L g))[0+((i:Nat):Int).toNat]? = some [I (g i)]:=by
 rw [Ea (by omega) (by rw [NA];omega),Int.toNat_natCast,NB g h]
theorem G0 (L i:Nat) (g:Nat->Int) (v:Int):(gI L g).set i v=gI L (fun k=>if k=i then v else g k):=by
 refine List.ext_getElem (by simp [gI]) fun k h1 h2=>?_;rw [List.getElem_set];simp only [gI,List.getElem_map,List.getElem_range];by_cases e:i=k
 ·rw [if_pos e,if_pos e.symm]
 ·rw [if_neg e,if_neg (fun h=>e h.symm)]
def hpF (p:Pg):List Nat:=(bF p).map fun s=>(dD p s).getD 0
def ny (p:Pg) (j:Nat):Nat->Int:=fun i=>if i∈(hpF p).take j then 1 else 0
def uw (p:Pg) (t i:Nat):Bool:=match p.nodes[t]?,p.ae[i]? with
 | some x,some f=>decide (x.kind=11)&&decide (f.name=x.name2)
 | _,_=>false
def nmB (p:Pg) (t k i:Nat):Bool:=(List.range t).any (fun s=>uw p s i)||(decide (i<k)&&uw p t i)
def nA (p:Pg) (t k:Nat):Nat->Int:=fun i=>if nmB p t k i then 1 else 0
theorem QA (p:Pg) (t k i:Nat):nmB p t (k+1) i=if i=k then (nmB p t k i||uw p t k) else nmB p t k i:=by
 unfold nmB;by_cases h:i=k
 ·subst h;rw [if_pos rfl];simp
 ·rw [if_neg h]
  have:decide (i<k+1)=decide (i<k):=by rw [decide_eq_decide];omega
  rw [this]
theorem QB (p:Pg) (t i:Nat):nmB p t p.ae.length i=nmB p (t+1) 0 i:=by
 unfold nmB;rw [List.range_succ,List.any_append];by_cases h:i<p.ae.length
 ·simp [h]
 ·have:uw p t i=false:=by unfold uw;rw [List.getElem?_eq_none (by omega:p.ae.length<=i)];cases p.nodes[t]?<;>rfl
  simp [this]
theorem KA {p:Pg} (h:May p) (i:Nat):ny p (bF p).length i=nA p p.nodes.length 0 i:=by
 unfold ny nA;have hl:(hpF p).take (bF p).length=hpF p:=List.take_of_length_le (by simp [hpF]);rw [hl];have key:i∈hpF p<->nmB p p.nodes.length 0 i=true:=by
  unfold nmB hpF;simp only [Nat.not_lt_zero,decide_false,Bool.false_and,Bool.or_false,List.any_eq_true,List.mem_range,List.mem_map];constructor
  ·rintro ⟨s,hs,rfl⟩
   obtain ⟨x,hx,hk,rfl⟩:=nk.1 hs;obtain ⟨t,ht,rfl⟩:=List.mem_iff_getElem.1 hx;obtain ⟨m,hm,hf,_⟩:=h.call hx (.inr hk);obtain ⟨hm2,hn⟩:=mF hf;refine ⟨t,ht,?_⟩;rw [hf];show uw p t m=true;unfold uw;rw [List.getElem?_eq_getElem ht,List.getElem?_eq_getElem hm2];simp [hk,hn]
  ·rintro ⟨t,ht,hb⟩
   unfold uw at hb;rw [List.getElem?_eq_getElem ht] at hb
   cases hfi:p.ae[i]? with
   | none=>rw [hfi] at hb;cases hb
   | some f=>
    rw [hfi] at hb;simp only [Bool.and_eq_true,decide_eq_true_eq] at hb;obtain ⟨hi,rfl⟩:=List.getElem?_eq_some_iff.1 hfi;refine ⟨p.nodes[t].name2,nk.2 ⟨_,List.getElem_mem ht,hb.1,rfl⟩,?_⟩;rw [<- hb.2,BI h.names.2.1 hi];rfl
 by_cases hm:i∈hpF p
 ·rw [if_pos hm,if_pos (key.1 hm)]
 ·rw [if_neg hm,if_neg (fun e=>hm (key.2 e))]
theorem KB {p:Pg} (h:May p):(hpF p).Nodup:=by
 have hn:(bF p).Nodup:=ll _ _ List.nodup_nil;unfold hpF;rw [List.nodup_iff_pairwise_ne,List.pairwise_map];refine List.Pairwise.imp_of_mem ?_ (List.nodup_iff_pairwise_ne.1 hn);intro a b ha hb hne e;have hf:∀s∈bF p,∃m,∃hm:m<p.ae.length,dD p s=some m/\p.ae[m].name=s:=fun s hs=>by
  obtain ⟨x,hx,hk,rfl⟩:=nk.1 hs;obtain ⟨m,hm,hf,_⟩:=h.call hx (.inr hk);obtain ⟨hm2,hn⟩:=mF hf;exact ⟨m,hm2,hf,hn⟩
 obtain ⟨m1,g1,g2,g3⟩:=hf a ha;obtain ⟨m2,k1,k2,k3⟩:=hf b hb;rw [g2,k2] at e;have e:m1=m2:=e;subst e;exact hne (g3.symm.trans k3)
theorem NC {p:Pg} (h:May p) (j:Nat) (hj:j<(bF p).length):∃f:Nat,f<p.ae.length/\(((dD p (bF p)[j]).getD 0:Nat):Int)=(f:Int)/\ny p j f=0/\∀i,ny p (j+1) i=if i=f then 1 else ny p j i:=by
 obtain ⟨x,hx,hk,e⟩:=nk.1 (List.getElem_mem hj);obtain ⟨m,hm,hf,_⟩:=h.call hx (.inr hk);rw [e] at hf;have hjl:j<(hpF p).length:=by simpa [hpF] using hj
 have hfj:(hpF p)[j]=m:=by simp [hpF,hf]
 have hnd:=KB h;refine ⟨m,hm,by rw [hf];rfl,?_,fun i=>?_⟩
 ·unfold ny
  refine if_neg fun hmem=>?_;obtain ⟨k,hk2,ek⟩:=List.mem_iff_getElem.1 hmem;have hkj:k<j:=by rw [List.length_take] at hk2;omega
  rw [List.getElem_take,<- hfj] at ek;have:=po hnd (by omega) hjl ek;omega
 ·unfold ny
  rw [List.take_succ_eq_append_getElem hjl,hfj];by_cases hi:i=m
  ·rw [if_pos hi,if_pos (by simp [hi])]
  ·rw [if_neg hi]
   by_cases hm2:i∈(hpF p).take j
   ·rw [if_pos hm2,if_pos (by simp [hm2])]
   ·rw [if_neg hm2,if_neg (by simp [hm2,hi])]
def QZ:List Int:=[2,2,9,16,2,1,6,2,10,16,2,13,2,17,2,2,19,3,2,2,13,2,2,13,2,2,6,17,1,17]
theorem ND (f own:Int) (j:Nat) (hj:j<30):∃i:In4,(dM f own).ins[j]? = some i/\((j=11/\i=⟨13,f,1,3⟩)\/((j=20\/j=23)/\i.op=13/\i.a=own)\/(j≠11/\j≠20/\j≠23/\i.op≠13)):=by
 have hj' : j<(dM f own).ins.length:=hj;refine ⟨(dM f own).ins[j],List.getElem?_eq_getElem hj',?_⟩;by_cases h11:j=11
 ·subst h11;exact .inl ⟨rfl,rfl⟩
 by_cases h20:j=20
 ·subst h20;exact .inr (.inl ⟨.inl rfl,rfl,rfl⟩)
 by_cases h23:j=23
 ·subst h23;exact .inr (.inl ⟨.inr rfl,rfl,rfl⟩)
 refine .inr (.inr ⟨h11,h20,h23,?_⟩);have key:∀j<30,j≠11->j≠20->j≠23->QZ[j]?≠some 13:=by decide
 have e:QZ[j]? = some (dM f own).ins[j].op:=by
  have:((dM f own).ins.map (·.op))[j]? = some (dM f own).ins[j].op:=by rw [List.getElem?_map,List.getElem?_eq_getElem hj'];rfl
  exact this
 exact fun h=>key j hj h11 h20 h23 (by rw [e,h])
end Uw.Tryz
namespace Uw.Tryz
open Go Uw
abbrev heR (c:Cd) (L:Nat):fp:=[(42,.d (I ((c.ae.map bdC).length:Nat))),(41,.d (.slice 3 (c.ae.map bdC) false)),(7,.ref 2 0 0 L),(5,.ptr 1 0),(3,.ptr 0 0),(2,.d (.bool false))]
abbrev heH (p:Pg) (c:Cd) (g:List (List Dat)):Heap:=[(2,.mt 1 0 g),(1,cdB c),(0,pgB p)]
abbrev KC (p:Pg) (c:Cd) (L n:Nat) (k:Nat):St:=⟨(43,.d (I k))::heR c L,heH p c (rw1 (gI L (ny p (k - n)))),3,[],0⟩
abbrev QC (L:Nat):fp:=[(13,.ref 3 0 0 L),(7,.ref 2 0 0 L),(5,.ptr 1 0),(3,.ptr 0 0),(2,.d (.bool false))]
abbrev QD (p:Pg) (c:Cd) (L:Nat) (M:List (List Dat)) (t:Nat):St:=⟨(112,.d (I t))::(111,.d (I ((p.nodes.map ndL).length:Nat)))::(110,.d (bN p.nodes))::QC L,(3,.mt 1 0 (rw1 (gI L (nA p t 0))))::heH p c M,4,[],0⟩
abbrev NF (p:Pg) (c:Cd) (L:Nat) (M:List (List Dat)) (t:Nat) (x:Nd) (k:Nat):St:=⟨(119,.d (I k))::(118,.d (I ((p.ae.map fuL).length:Nat)))::(117,.d (.slice 3 (p.ae.map fuL) false))::(15,.ptr 4 0)::(112,.d (I t))::(111,.d (I ((p.nodes.map ndL).length:Nat)))::(110,.d (bN p.nodes))::QC L,(4,.var [.d (I x.kind),.d (I x.n),.d (.str x.name),.d (.str x.name2),.d (bT x.of)])::(3,.mt 1 0 (rw1 (gI L (nA p t k))))::heH p c M,5,[],0⟩
abbrev Wz (p:Pg) (c:Cd) (L:Nat) (M N:List (List Dat)) (k:Nat):St:=⟨(147,.d (I k))::(146,.d (I (L:Nat)))::QC L,(3,.mt 1 0 N)::heH p c M,4,[],0⟩
abbrev KD (p:Pg) (c:Cd) (L k:Nat) (ins:List (List Dat)) (O:Nat->Int) (G:Nat->List (List Dat)) (j:Nat):St:=⟨(70,.d (I j))::(69,.d (I (ins.length:Nat)))::(68,.d (.slice 4 ins false))::(10,.d (I (O j)))::(8,.d (I k))::(43,.d (I k))::heR c L,heH p c (G j),3,[],0⟩
theorem TK:∃O:Nat->Int,O 0=0/\O 30=2/\(∀j,0<=O j/\O j<=2)/\(∀j,j=20\/j=23->O (j+1)=O j+1)/\∀j,j≠20->j≠23->O (j+1)=O j:=by
 refine ⟨fun j=>if j<=20 then 0 else if j<=23 then 1 else 2,by decide,by decide,fun j=>?_,fun j h=>?_,fun j h1 h2=>?_⟩
 ·show 0<=(if j<=20 then (0:Int) else if j<=23 then 1 else 2)/\(if j<=20 then (0:Int) else if j<=23 then 1 else 2)<=2
  repeat' split
  all_goals omega
 ·rcases h with rfl|rfl<;>rfl
 ·show (if j+1<=20 then (0:Int) else if j+1<=23 then 1 else 2)=(if j<=20 then (0:Int) else if j<=23 then 1 else 2)
  repeat' split
  all_goals omega
theorem QE {p:Pg} {L j f:Nat} (hf:f<L) (h0:ny p j f=0) (hs:∀i,ny p (j+1) i=if i=f then 1 else ny p j i):∃G:Nat->List (List Dat),G 0=rw1 (gI L (ny p j))/\G 30=rw1 (gI L (ny p (j+1)))/\(G 11)[0+((f:Nat):Int).toNat]? = some [I 0]/\(G 11).set (0+((f:Nat):Int).toNat) (setAt [I 0] 0 [I (0+1)])=G 12/\∀j,j≠11->G (j+1)=G j:=by
 refine ⟨fun i=>if i<=11 then rw1 (gI L (ny p j)) else rw1 (gI L (ny p (j+1))),if_pos (by decide),if_neg (by decide),?_,?_,fun i hi=>?_⟩
 ·show (rw1 (gI L (ny p j)))[0+((f:Nat):Int).toNat]? = _
  rw [Es _ hf,h0]
 ·show (rw1 (gI L (ny p j))).set (0+((f:Nat):Int).toNat) (setAt [I 0] 0 [I (0+1)])=rw1 (gI L (ny p (j+1)))
  rw [Int.toNat_natCast,vz,G0]
  congr 2
  funext i
  exact (hs i).symm
 ·show (if i+1<=11 then _ else _)=(if i<=11 then _ else _)
  by_cases h:i<=11
  ·rw [if_pos h,if_pos (by omega)]
  ·rw [if_neg h,if_neg (by omega)]
set_option maxRecDepth 8000 in
set_option maxHeartbeats 4000000 in
theorem G1 (p:Pg) (c:Cd) (s:List UInt8) (e0:Int) (hm:May p) (hlim:Lim p) (hs' : ¬(900:Int)<(s.length:Nat)) (ho:Ret P0 eN [.str s] (.tuple [pgD p,I e0])) (hof:Ret P0 fP [pgD p] (.tuple [cdD c,I 0])) (ha:Ret P0 oD [] (.bool true))
  (hcl:c.ae.length=p.ae.length+(bF p).length) (hat:∀(j:Nat) (hj:j<(bF p).length),c.ae[p.ae.length+j]? = some (dM (((dD p (bF p)[j]).getD 0:Nat):Int) ((p.ae.length+j:Nat):Int))) (hfe:∀(k:Nat) (hk:k<p.ae.length),∃b,c.ae[k]? = some b):Ret P0 gm [.str s] (.bool true):=by
 have hpf:=Aq hm;have hk:=hm.kinds;have hfl:(c.ae.map bdC).length=c.ae.length:=by simp
 have hpl:(p.ae.map fuL).length=p.ae.length:=by simp
 have hnl:(p.nodes.map ndL).length=p.nodes.length:=by simp
 have hN:=hlim.nodes;have QF:=NC hm;have hmn:=KA hm;have hm0:rw1 (gI c.ae.length (ny p 0))=List.replicate (((c.ae.map bdC).length:Nat):Int).toNat [Dat.int .i64 0]:=by
  rw [Int.toNat_natCast,hfl];refine List.ext_getElem (by simp [gI]) fun k h1 h2=>?_;simp [gI,ny]
 have TL:rw1 (gI c.ae.length (nA p 0 0))=List.replicate (((c.ae.map bdC).length:Nat):Int).toNat [Dat.int .i64 0]:=by
  rw [Int.toNat_natCast,hfl];refine List.ext_getElem (by simp [gI]) fun k h1 h2=>?_;simp [gI,nA,nmB]
 have eL:c.ae.length - p.ae.length=(bF p).length:=by omega
 have hcb:c.ae.length<=32:=by omega
 obtain ⟨M,hM⟩:∃M,rw1 (gI c.ae.length (ny p (bF p).length))=M:=⟨_,rfl⟩
 have TM:KC p c c.ae.length p.ae.length c.ae.length=⟨(43,.d (I (c.ae.length:Nat)))::heR c c.ae.length,heH p c M,3,[],0⟩:=by rw [KC,eL,hM]
 have hMN:rw1 (gI c.ae.length (nA p p.nodes.length 0))=M:=by
  rw [<- hM];congr 2;funext i;exact (hmn i).symm
 have hel:∀k,k<c.ae.length->M[0+((k:Nat):Int).toNat]? = some [I (ny p (bF p).length k)]:=fun k hk=>by rw [<- hM];exact Es _ hk
 have TN:QD p c c.ae.length M p.nodes.length=⟨(112,.d (I (p.nodes.length:Nat)))::(111,.d (I ((p.nodes.map ndL).length:Nat)))::(110,.d (bN p.nodes))::QC c.ae.length,(3,.mt 1 0 M)::heH p c M,4,[],0⟩:=by rw [QD,hMN]
 refine az fO rfl ?_
 repeat (first|refine aw ?_|refine f1 ?_)
 refine cb c.ae.length (KC p c c.ae.length p.ae.length) (fun _=>True) (cX (by rw [KC,Nat.zero_sub,hm0]) ?_) (fun _=>?_) (fun k hkk _=>?_)
 ·exact Uw.wM
 rotate_left 1
 ·rcases Nat.lt_or_ge k p.ae.length with hlt|hge
  ·obtain ⟨b,hb⟩:=hfe k hlt
   have he:(c.ae.map bdC)[(k:Int).toNat]? = some [I b.args,I b.locals,.slice 4 (b.ins.map in4) false]:=by simp [hb,bdC]
   have q1:(k:Int)<((p.ae.map fuL).length:Nat):=by omega
   have e:k+1 - p.ae.length=k - p.ae.length:=by omega
   repeat (first|refine aw ?_|refine f1 ?_)
   refine aJ k trivial (cX (by rw [KC,e]) ?_);exact Uw.wM
  ·obtain ⟨j,rfl⟩:=Nat.le.dest hge
   have hj:j<(bF p).length:=by omega
   have q1:¬((p.ae.length+j:Nat):Int)<((p.ae.map fuL).length:Nat):=by omega
   have hb:=hat j hj;obtain ⟨f,hf1,hf2,hf3,hf4⟩:=QF j hj;rw [hf2] at hb;have hil:=ND (f:Int) ((p.ae.length+j:Nat):Int);have WA:(dM (f:Int) ((p.ae.length+j:Nat):Int)).ins.length=30:=rfl;have he:(c.ae.map bdC)[((p.ae.length+j:Nat):Int).toNat]? = some [I 2,I 5,.slice 4 ((dM (f:Int) ((p.ae.length+j:Nat):Int)).ins.map in4) false]:=by
    rw [Int.toNat_natCast,List.getElem?_map,hb];rfl
   clear hat hfe hb;generalize (dM (f:Int) ((p.ae.length+j:Nat):Int)).ins=ins at *;have hinl:(ins.map in4).length=30:=by simp [WA]
   obtain ⟨O,o0,o30,ob,o1,o2⟩:=TK;obtain ⟨G,g0,g30,g1,g2,g3⟩:=QE (L:=c.ae.length) (by omega:f<c.ae.length) hf3 hf4;have q2:(f:Int)<((p.ae.map fuL).length:Nat):=by omega
   have q3:¬(f:Int)=((p.ae.length+j:Nat):Int):=by omega
   have q4:(f:Int)<(c.ae.length:Nat):=by omega
   clear hf3 hf4 QF hmn hm0
   repeat (first|refine aw ?_|refine f1 ?_)
   refine cb 30 (KD p c c.ae.length (p.ae.length+j) (ins.map in4) O G) (fun _=>True) (cX (by rw [KD,o0,g0,<- show p.ae.length+j - p.ae.length=j by omega]) ?_) (fun _=>?_) (fun t ht _=>?_)
   ·exact Uw.wM
   ·rw [KD,o30,g30]
    refine aw ?_;refine aC ?_;refine aw ?_;refine aw ?_;refine aJ (p.ae.length+j) trivial (cX (by rw [KC,show p.ae.length+j+1 - p.ae.length=j+1 by omega]) ?_);exact Uw.wM
   obtain ⟨i,hi1,hi2⟩:=hil t ht;have hie:(ins.map in4)[((t:Nat):Int).toNat]? = some (in4 i):=by rw [Int.toNat_natCast,List.getElem?_map,hi1];rfl
   have hob:=ob t;clear hil he
   rcases hi2 with ⟨rfl,rfl⟩|⟨hi3,hi4,hi5⟩|⟨hi3,hi4,hi5,hi6⟩
   ·have hie:(ins.map in4)[((11:Nat):Int).toNat]? = some [I 13,I f,I 1,I 3]:=hie
    have e1:=o2 11 (by decide) (by decide)
    repeat (first|refine aw ?_|refine f1 ?_)
    refine aJ 11 trivial (cX (by rw [KD,e1,<- g2]) ?_);exact Uw.wM
   ·have e1:=o1 t hi3
    have e2:=g3 t (by omega);obtain ⟨io,ia,ib,ic⟩:=i;simp only at hi4 hi5;have hie:(ins.map in4)[((t:Nat):Int).toNat]? = some [I io,I ia,I ib,I ic]:=hie
    repeat (first|refine aw ?_|refine f1 ?_)
    refine aJ t trivial (cX (by rw [KD,e1,e2]) ?_);exact Uw.wM
   ·have e1:=o2 t hi4 hi5
    have e2:=g3 t hi3;obtain ⟨io,ia,ib,ic⟩:=i;simp only at hi6;have hie:(ins.map in4)[((t:Nat):Int).toNat]? = some [I io,I ia,I ib,I ic]:=hie
    repeat (first|refine aw ?_|refine f1 ?_)
    refine aJ t trivial (cX (by rw [KD,e1,e2]) ?_);exact Uw.wM
 rw [TM]
 repeat (first|refine aw ?_|refine f1 ?_)
 refine aC ?_
 repeat (first|refine aw ?_|refine f1 ?_)
 refine cb p.nodes.length (QD p c c.ae.length M) (fun _=>True) (cX (by rw [QD,TL]) ?_) (fun _=>?_) (fun t ht _=>?_)
 ·exact Uw.wM
 rotate_left 1
 ·have he:(p.nodes.map ndL)[(t:Int).toNat]? = some (ndL p.nodes[t]):=by simp [ht]
  have hpar:∀(k:Nat) (hk:k<p.ae.length),uw p t k=(decide (p.nodes[t].kind=11)&&decide (p.ae[k].name=p.nodes[t].name2)):=fun k hk=>by
   unfold uw;rw [List.getElem?_eq_getElem ht,List.getElem?_eq_getElem hk]
  have hend:gI c.ae.length (nA p t p.ae.length)=gI c.ae.length (nA p (t+1) 0):=by
   congr 1;funext i;unfold nA;rw [QB]
  clear hat hfe QF hmn hm0 TL hMN TM TN hel hM;generalize p.nodes[t]=x at *;obtain ⟨xk,xn,xs,xt,xo⟩:=x;have he:(p.nodes.map ndL)[(t:Int).toNat]? = some [I xk,I xn,.str xs,.str xt,bT xo]:=he;simp only at hpar
  repeat (first|refine aw ?_|refine f1 ?_)
  refine cb p.ae.length (NF p c c.ae.length M t ⟨xk,xn,xs,xt,xo⟩) (fun _=>True) ?_ (fun _=>?_) (fun k hk2 _=>?_)
  ·exact Uw.wM
  ·rw [NF,hend]
   refine aw ?_;refine aC ?_;refine aw ?_;exact aJ t trivial (by exact Uw.wM)
  have hp2:=hpar k hk2;have P3:(p.ae.map fuL)[(k:Int).toNat]? = some (fuL p.ae[k]):=by simp [hk2]
  have hstep:∀i,nA p t (k+1) i=if i=k/\uw p t k=true then 1 else nA p t k i:=fun i=>by
   unfold nA;rw [QA];by_cases e:i=k
   ·subst e
    rw [if_pos rfl]
    cases uw p t i<;>simp
   ·simp [e]
  have hkL:k<c.ae.length:=by omega
  have Ve:=Es (nA p t k) hkL;have hset:=vz (gI c.ae.length (nA p t k)) k 1 (nA p t k k);rw [G0] at hset;have q1:(k:Int)<(c.ae.length:Nat):=by omega
  clear hpar hend;generalize p.ae[k]=g at *;obtain ⟨gn,ga,gb⟩:=g;have P3:(p.ae.map fuL)[(k:Int).toNat]? = some [.str gn,.slice 1 (ga.map fun s=>[Dat.str s]) false,I gb]:=P3;simp only at hp2;by_cases k11:xk=11
  ·by_cases kn:gn=xt
   ·have hb:uw p t k=true:=by rw [hp2,decide_eq_true k11,decide_eq_true kn];rfl
    have hrow:rw1 (gI c.ae.length (nA p t (k+1)))=(rw1 (gI c.ae.length (nA p t k))).set (0+((k:Nat):Int).toNat) (setAt [I (nA p t k k)] 0 [I 1]):=by
     rw [Int.toNat_natCast,hset]
     congr 2;funext i;rw [hstep,hb];simp
    clear hstep hset hp2
    repeat (first|refine aw ?_|refine f1 ?_)
    refine aJ k trivial (cX (by rw [NF,hrow]) ?_);exact Uw.wM
   ·have hb:uw p t k=false:=by rw [hp2,decide_eq_false kn,Bool.and_false]
    have hrow:gI c.ae.length (nA p t (k+1))=gI c.ae.length (nA p t k):=by
     congr 1;funext i;rw [hstep,hb];simp
    clear hstep hset hp2
    repeat (first|refine aw ?_|refine f1 ?_)
    refine aJ k trivial (cX (by rw [NF,hrow]) ?_);exact Uw.wM
  ·have hb:uw p t k=false:=by rw [hp2,decide_eq_false k11,Bool.false_and]
   have hrow:gI c.ae.length (nA p t (k+1))=gI c.ae.length (nA p t k):=by
    congr 1;funext i;rw [hstep,hb];simp
   clear hstep hset hp2
   repeat (first|refine aw ?_|refine f1 ?_)
   refine aJ k trivial (cX (by rw [NF,hrow]) ?_);exact Uw.wM
 rw [TN];clear hat hfe QF hmn hm0 TL hM hMN TM TN
 repeat (first|refine aw ?_|refine f1 ?_)
 refine aC ?_
 repeat (first|refine aw ?_|refine f1 ?_)
 refine cb c.ae.length (Wz p c c.ae.length M M) (fun _=>True) ?_ (fun _=>?_) (fun k hk2 _=>?_)
 ·exact Uw.wM
 ·repeat (first|refine aw ?_|refine f1 ?_)
  refine aC ?_
  repeat (first|refine aw ?_|refine f1 ?_)
  exact ak rfl rfl rfl rfl rfl
 have he:=hel k hk2;clear hel;generalize ny p (bF p).length k=v at *
 repeat (first|refine aw ?_|refine f1 ?_)
 exact aJ k trivial (by exact Uw.wM)
set_option maxHeartbeats 2000000 in
theorem xZ (s:List UInt8):Ret P0 gm [.str s] (.bool true):=by
 have ha:=tu;by_cases hs:900<s.length
 ·have hs' : (900:Int)<(s.length:Nat):=by omega
  refine az fO rfl ?_
  repeat refine aw ?_
  exact ak rfl rfl rfl rfl rfl
 have hs' : ¬(900:Int)<(s.length:Nat):=by omega
 have ho:=ut s (by omega);obtain ⟨hlim,hread,_⟩:=Ia s (by omega);have hof:=mj (ofR s).1 hlim;have hcs:=B1 (ofR s).1;have ho:Ret P0 eN [.str s] (.tuple [pgD (ofR s).1,I (ofR s).2]):=ho;generalize (ofR s).1=p at *;generalize (ofR s).2=e0 at *
 rcases hcs with ⟨h1,h2⟩|⟨h1,h2,h3⟩
 ·rw [h2] at hof
  generalize (ofP p).2=e at *;refine az fO rfl ?_
  repeat refine aw ?_
  exact ak rfl rfl rfl rfl rfl
 rw [h1] at hof;exact G1 p (db p) s e0 (HD h2) hlim hs' ho hof ha (pC p) (Ar p) fun k hk=>⟨_,yh p k hk⟩
end Uw.Tryz
