/- B9: Cf Cb Da Db Ck Cg Ch Ci Cj Cl Cm Ck0 Fa Fb Cn Co Cp Cq Cr Cs Ct Cu Cv Cw Cx Fc Ff Fg Fh (merged by merge2.py from the working texts). -/
import Derived.Test.YtkmkjfkpnmhaiaaGreatDoorB8
import Derived.Test.YtkmkjfkpnmhaiaaGreatDoorB4
import Derived.Test.YtkmkjfkpnmhaiaaGreatDoorB3
import Derived.RangeFuncBound
import Derived.Shelf.Abstract
import Derived.OwnWalkIn
import Derived.TacticsInMore
import Derived.LoopNIn
import Derived.LoopIn
set_option maxRecDepth 100000
set_option maxHeartbeats 4000000
set_option linter.unusedSimpArgs false
set_option linter.unnecessarySimpa false
set_option linter.unusedVariables false
set_option linter.unusedSectionVars false
namespace Uw.Tryz
open Go Uw
structure Lim (p:Pg):Prop where
 nodes:p.nodes.length<100000
 ag:p.ag.length<100000
 decls:p.decls.length<100000
 of:∀x∈p.nodes,x.of.length<100000
 args:∀f∈p.ag,f.args.length<100000
def pU (L:List Int) (n:Nat):List Int:=(List.range n).map fun (k:Nat)=>((L.count (k:Int):Nat):Int)
theorem zH (L:List Int) (n:Nat):(pU L n).length=n:=by simp [pU]
theorem Gw (L:List Int) (n k:Nat) (h:k<n):(pU L n)[k]'(by rw [zH];exact h)=(L.count (k:Int):Nat):=by simp [pU]
theorem UC (L:List Int) (n:Nat) (k:Int) (h0:0<=k) (h:k<n):(pU L n).set k.toNat (((L.count k:Nat):Int)+1)=pU (L++[k]) n:=by
 have hk:k.toNat<n:=by omega
 have hkk:((k.toNat:Nat):Int)=k:=by omega
 apply acz
 ·simp [pU]
 ·intro i h1 h2
  have hi:i<n:=by rw [zH] at h2;exact h2
  rw [Gw _ _ _ hi,abo];by_cases he:i=k.toNat
  ·subst he
   rw [List.getElem_set_self,hkk];simp
  ·rw [List.getElem_set_ne (Ne.symm he),Gw _ _ _ hi]
   have:¬k=(i:Int):=by omega
   simp [abx,this]
theorem UD (n:Nat):pU [] n=List.replicate n 0:=by
 apply acz
 ·simp [pU]
 ·intro i h1 h2;simp [pU]
def fO (l:List Int):List (List Dat):=l.map fun i=>[I i]
theorem QZ {L:List Int} {n:Nat} {k:Int} (h0:0<=k) (h:k<n):(fO (pU L n))[k.toNat]? = some [I (L.count k:Nat)]:=by
 have hk:k.toNat<n:=by omega
 have hkk:((k.toNat:Nat):Int)=k:=by omega
 rw [fO,acg,aaU (by rw [zH];exact hk),Gw _ _ _ hk,hkk];rfl
theorem UE {L:List Int} {n:Nat} {k:Int} (h0:0<=k) (h:k<n):(fO (pU L n)).set k.toNat [I (((L.count k:Nat):Int)+1)]=fO (pU (L++[k]) n):=by
 rw [<- UC L n k h0 h,fO,fO,ac7]
theorem UF (L:List Int) (n:Nat):(fO (pU L n)).length=n:=by rw [fO,aaT,zH]
theorem Ly {l:List Nd} (h:∀x∈l,x.of.length<100000):(l.flatMap (·.of)).length<=l.length * 100000:=by
 induction l with
 | nil=>simp
 | cons x l ih=>
  have h1:=h x (by simp);have h2:=ih fun y hy=>h y (by simp [hy]);rw [abk,aaw,aaA,abb];omega
theorem Q0 {p:Pg} (hp:Lim p):(jr p).length<100000000000:=by
 have h1:=Ly hp.of;have h2:=hp.nodes;have h3:=hp.ag;rw [jr,aaw,aaT];omega
def l8 (ns:List Nd) (i:Nat):List Int:=(ns.take i).flatMap (·.of)
theorem IX {ns:List Nd} {i:Nat} (h:i<ns.length):l8 ns (i+1)=l8 ns i++ns[i].of:=by
 rw [l8,aaz h,abS];simp [l8]
theorem BK {ns:List Nd}:∀{l:List Nd} {b:Nat},km ns b l=true<->∀(i:Nat) (h:i<l.length),tm ns (b+i) l[i]=true
 | [],b=>by simp [km]
 | x::l,b=>by
  simp only [km,aay];rw [BK];constructor
  ·rintro ⟨h1,h2⟩ i hi
   cases i with
   | zero=>exact h1
   | succ i=>have:=h2 i (by simpa using hi);rw [show b+(i+1)=b+1+i by omega];exact this
  ·intro h
   refine ⟨h 0 (by simp),fun i hi=>?_⟩;have:=h (i+1) (by simpa using hi);rw [show b+1+i=b+(i+1) by omega];exact this
theorem LC (U:List Int) (n:Nat) (k:Int) (h0:0<=k) (h:k<n):∃c:Int,(fO (pU U n))[0+k.toNat]? = some [I c]/\(fO (pU U n)).set (0+k.toNat) (setAt [I c] 0 [I (c+1)])=fO (pU (U++[k]) n)/\0<=c/\c<=U.length:=by
 refine ⟨(U.count k:Nat),by rw [aaF];exact QZ h0 h,by rw [aaF];exact UE h0 h,by omega,?_⟩;have:=List.count_le_length (a:=k) (l:=U);omega
theorem BL {p:Pg} (hp:Lim p) (i:Nat):(l8 p.nodes i).length<10000000000:=by
 have h1:=Ly (l:=p.nodes.take i) fun x hx=>hp.of x (abD hx);have h2:=hp.nodes;have h3:(p.nodes.take i).length<=p.nodes.length:=by simp;omega
 unfold l8;omega
structure IY (p:Pg) (R:Bool):Prop where
 kid:∀(i:Nat) (h:i<p.nodes.length) (k:Int),k∈p.nodes[i].of->¬(0<=k/\k<i)->R=false
 shape:∀(i:Nat) (h:i<p.nodes.length),fS p.nodes p.nodes[i]=false->R=false
 body:∀(i:Nat) (h:i<p.ag.length),ou p.nodes p.ag[i]=false->R=false
 time:∀(k:Nat),k<p.nodes.length->(jr p).count (k:Int)≠1->R=false
 all:(∀(i:Nat) (h:i<p.nodes.length),(∀k∈p.nodes[i].of,0<=k/\k<i)/\fS p.nodes p.nodes[i]=true)->(∀(i:Nat) (h:i<p.ag.length),ou p.nodes p.ag[i]=true)->(∀(k:Nat),k<p.nodes.length->(jr p).count (k:Int)=1)->R=true
theorem Gx (p:Pg):IY p (bO p):=by
 have key:bO p=true<->(∀(i:Nat) (h:i<p.nodes.length),tm p.nodes i p.nodes[i]=true)/\(∀f∈p.ag,ou p.nodes f=true)/\∀(k:Nat),k<p.nodes.length->(jr p).count (k:Int)=1:=by
  simp only [bO,aay,BK,aaS,and_assoc,aaF,decide_eq_true_eq,abV]
 have hno:∀(i:Nat) (h:i<p.nodes.length),tm p.nodes i p.nodes[i]=true<->(∀k∈p.nodes[i].of,0<=k/\k<i)/\fS p.nodes p.nodes[i]=true:=by
  intro i h;simp [tm,aay,aaS]
 have no:∀{P:Prop},(bO p=true->P)->¬P->bO p=false:=fun h1 h2=>by
  rw [acy];exact fun e=>h2 (h1 e)
 refine ⟨fun i h k hk hb=>no (fun e=>((hno i h).1 ((key.1 e).1 i h)).1 k hk) hb,fun i h hs=>no (fun e=>((hno i h).1 ((key.1 e).1 i h)).2) (by simp [hs]),fun i h hs=>no (fun e=>(key.1 e).2.1 _ (aaQ h)) (by simp [hs]),fun k hk hc=>no (fun e=>(key.1 e).2.2 k hk) hc,fun h1 h2 h3=>key.2 ⟨fun i h=>(hno i h).2 (h1 i h),fun f hf=>?_,h3⟩⟩;obtain ⟨i,hi,rfl⟩:=aa8.1 hf;exact h2 i hi
theorem tu (p:Pg) (hp:Lim p):Ret P0 sL [pgD p] (.bool (bO p)):=by
 have hF:=Gx p;have hfew:=Q0 hp;have hN:=hp.nodes;have hFl:=hp.ag;generalize bO p=R at *;have hnl:(p.nodes.map ndL).length=p.nodes.length:=by simp
 have hfl:(p.ag.map fuL).length=p.ag.length:=by simp
 obtain ⟨T,hT⟩:∃T:Nat->List (List Dat),∀i,T i=fO (pU (l8 p.nodes i) p.nodes.length):=⟨_,fun _=>rfl⟩
 have e0:List.replicate (((p.nodes.map ndL).length:Nat):Int).toNat [I 0]=T 0:=by
  rw [hT,show l8 p.nodes 0=[] from rfl,UD,fO,List.map_replicate,hnl];simp
 have hmk:(decide ((0:Int)<=((p.nodes.map ndL).length:Nat))&&decide ((((p.nodes.map ndL).length:Nat):Int)<=((p.nodes.map ndL).length:Nat))&&decide ((((p.nodes.map ndL).length:Nat):Int) * ((8:Nat):Int)<=70368744177664))=true:=by simp;omega
 refine aU zi rfl ?_
 repeat refine aw ?_
 refine du (fun i:Nat=>⟨[(19,.d (I i)),(18,.d (I ((p.nodes.map ndL).length:Nat))),(17,.d (cv p.nodes)),(3,.ref 1 0 0 p.nodes.length),(1,.ptr 0 0)],[(1,.mt 1 0 (T i)),(0,.var [.d (.slice 3 (p.decls.map cO) false),.d (.slice 3 (p.ag.map fuL) false),.d (cv p.nodes)])],2,[],0⟩)
  (fun i=>i<=p.nodes.length/\∀(j:Nat) (h:j<p.nodes.length),j<i->(∀k∈p.nodes[j].of,0<=k/\k<j)/\fS p.nodes p.nodes[j]=true) (fun i=>p.nodes.length - i) 0 (by exact Uw.wM) ⟨by omega,fun j _ h=>by omega⟩ ?_
 rintro i ⟨hi,hok⟩;by_cases hlt:i<p.nodes.length
 rotate_left
 ·repeat refine aw ?_
  refine aJ ?_
  repeat refine aw ?_
  have hok2:∀(j:Nat) (h:j<p.nodes.length),(∀k∈p.nodes[j].of,0<=k/\k<j)/\fS p.nodes p.nodes[j]=true:=fun j h=>hok j h (by omega);obtain rfl:i=p.nodes.length:=by omega
  have hU:l8 p.nodes p.nodes.length=p.nodes.flatMap (·.of):=by rw [l8,aaK]
  obtain ⟨T3,hT3⟩:∃T3:Nat->List (List Dat),∀j,T3 j=fO (pU (p.nodes.flatMap (·.of)++(p.ag.map (·.body)).take j) p.nodes.length):=⟨_,fun _=>rfl⟩
  have e3:T p.nodes.length=T3 0:=by rw [hT,hT3,hU];simp
  have e4:T3 p.ag.length=fO (pU (jr p) p.nodes.length):=by
   rw [hT3,jr,aaG (by simp)]
  have hstep:∀(j:Nat) (h:j<p.ag.length),0<=p.ag[j].body->p.ag[j].body<p.nodes.length->∃c:Int,(T3 j)[0+p.ag[j].body.toNat]? = some [I c]/\(T3 j).set (0+p.ag[j].body.toNat) (setAt [I c] 0 [I (c+1)])=T3 (j+1)/\0<=c/\c<100000000000:=by
   intro j h h0 h1;obtain ⟨c,g1,g2,g3,g4⟩:=LC (p.nodes.flatMap (·.of)++(p.ag.map (·.body)).take j) p.nodes.length _ h0 h1;refine ⟨c,by rw [hT3];exact g1,?_,g3,?_⟩
   ·rw [hT3,hT3,g2,aaz (by simpa using h),aaD,adb]
   ·have:=BL hp p.nodes.length
    rw [hU] at this;simp only [aaw,aa5,aaT] at g4;omega
  have hbody:=hF.body;have Xo:∀(j:Nat) (h:j<p.ag.length),(p.ag.map fuL)[(j:Int).toNat]? = some (fuL p.ag[j]):=by intro j h;simp [h]
  have Xp:∀(k:Int),0<=k->k<p.nodes.length->∃y:Nd,(p.nodes.map ndL)[k.toNat]? = some (ndL y)/\lg p.nodes k=y.kind:=by
   intro k h0 h1;have h3:k.toNat<p.nodes.length:=by omega
   exact ⟨p.nodes[k.toNat],by simp [h3],by simp [lg,List.getD,h3]⟩
  clear hT e0 hT3 hi;rw [e3];refine dp p.ag.length (fun j:Nat=>⟨[(54,.d (I j)),(53,.d (I ((p.ag.map fuL).length:Nat))),(52,.d (.slice 3 (p.ag.map fuL) false)),(3,.ref 1 0 0 p.nodes.length),(1,.ptr 0 0)],[(1,.mt 1 0 (T3 j)),(0,.var [.d (.slice 3 (p.decls.map cO) false),.d (.slice 3 (p.ag.map fuL) false),.d (cv p.nodes)])],2,[],0⟩)
   (fun j=>∀h:j<p.ag.length,ou p.nodes p.ag[j]=true) (by exact Uw.wM) (fun hbd=>?_) (fun j hj hbd=>?_)
  ·have hbd:∀(j:Nat) (h:j<p.ag.length),ou p.nodes p.ag[j]=true:=fun j h=>hbd j h h
   have hR:=hF.all hok2 hbd;have YI:=hF.time;have Zt:∀(k:Nat) (h:k<p.nodes.length),(T3 p.ag.length)[0+(k:Int).toNat]? = some [I ((jr p).count (k:Int):Nat)]:=by
    intro k h;rw [e4,aaF];exact QZ (by omega) (by omega)
   have hTl:(T3 p.ag.length).length=p.nodes.length:=by rw [e4,UF]
   repeat refine aw ?_
   refine aJ ?_
   repeat refine aw ?_
   clear hF hok hok2 hbd Xo Xp hbody hstep;refine dp p.nodes.length (fun k:Nat=>⟨[(89,.d (I k)),(88,.d (I (p.nodes.length:Nat))),(87,.ref 1 0 0 p.nodes.length)],[(1,.mt 1 0 (T3 p.ag.length))],2,[],0⟩)
    (fun k=>(jr p).count (k:Int)=1) (by exact Uw.wM) (fun hc=>?_) (fun k hk hc=>?_)
   ·rw [hR hc]
    repeat refine aw ?_
    refine aJ ?_
    repeat refine aw ?_
    exact aC rfl rfl rfl rfl rfl
   have hel:=Zt k hk;have hti:=YI k hk;by_cases h1:(jr p).count (k:Int)=1
   ·rw [h1] at hel
    repeat refine aw ?_
    exact aX k h1 (by exact Uw.wM)
   ·rw [hti h1]
    have h2:¬(((jr p).count (k:Int):Nat):Int)=1:=by omega
    clear hti;generalize (((jr p).count (k:Int):Nat):Int)=c at *
    repeat refine aw ?_
    refine bV ?_;exact aC rfl rfl rfl rfl rfl
  have hb:=hbody j hj;have hs:=hstep j hj;have he:=Xo j hj;have hN2:=Xp p.ag[j].body;have hbk:ou p.nodes p.ag[j]=(decide (0<=p.ag[j].body)&&decide (p.ag[j].body<p.nodes.length)&&decide (lg p.nodes p.ag[j].body=18)):=rfl;have hnext:ou p.nodes p.ag[j]=true->∀h:j<p.ag.length,ou p.nodes p.ag[j]=true:=fun h _=>h;rw [hbk] at hb hnext;clear hbk hbody hstep Xo Xp;generalize p.ag[j]=f at *;obtain ⟨fn,fa,fb⟩:=f;have he:(p.ag.map fuL)[(j:Int).toNat]? = some [.str fn,gV fa,I fb]:=he;simp only at *;by_cases h0:fb<0
  ·rw [hb (by rw [decide_eq_false (by omega)];rfl)]
   repeat refine aw ?_
   refine bV ?_;exact aC rfl rfl rfl rfl rfl
  by_cases h1:(p.nodes.length:Int)<=fb
  ·rw [hb (by rw [decide_eq_false (show ¬fb<p.nodes.length by omega),acK];rfl)]
   repeat refine aw ?_
   refine bV ?_;exact aC rfl rfl rfl rfl rfl
  obtain ⟨y,k1,k2⟩:=hN2 (by omega) (by omega);rw [k2,decide_eq_true (show 0<=fb by omega),decide_eq_true (show fb<p.nodes.length by omega)] at hb hnext;by_cases h2:y.kind=18
  rotate_left
  ·rw [hb (by rw [decide_eq_false h2];rfl)]
   repeat refine aw ?_
   refine bV ?_;exact aC rfl rfl rfl rfl rfl
  have hnext:=hnext (by rw [decide_eq_true h2];rfl);obtain ⟨c,g1,g2,g3,g4⟩:=hs (by omega) (by omega)
  repeat refine aw ?_
  exact aX j hnext (by exact Uw.wM)
 have hx:=hp.of p.nodes[i] (aaQ hlt);have UG:=hF.kid i hlt;have Zu:=hF.shape i hlt;have hsh:=fun (hh:∀k∈p.nodes[i].of,0<=k/\k<(p.nodes.length:Int))=>BJ p.nodes p.nodes[i] hh (by omega);have hnew:(∀k∈p.nodes[i].of,0<=k/\k<(i:Int))->fS p.nodes p.nodes[i]=true->∀(j:Nat) (h:j<p.nodes.length),j<i+1->(∀k∈p.nodes[j].of,0<=k/\k<(j:Int))/\fS p.nodes p.nodes[j]=true:=by
  intro h1 h2 j h hj;by_cases he:j=i
  ·subst he;exact ⟨h1,h2⟩
  ·exact hok j h (by omega)
 obtain ⟨T2,hT2⟩:∃T2:Nat->List (List Dat),∀j,T2 j=fO (pU (l8 p.nodes i++p.nodes[i].of.take j) p.nodes.length):=⟨_,fun _=>rfl⟩
 have e1:T i=T2 0:=by rw [hT,hT2];simp
 have e2:T2 p.nodes[i].of.length=T (i+1):=by rw [hT,hT2,aaK,IX hlt]
 have hstep:∀(j:Nat) (h:j<p.nodes[i].of.length),0<=p.nodes[i].of[j]->p.nodes[i].of[j]<p.nodes.length->∃c:Int,(T2 j)[0+p.nodes[i].of[j].toNat]? = some [I c]/\(T2 j).set (0+p.nodes[i].of[j].toNat) (setAt [I c] 0 [I (c+1)])=T2 (j+1)/\0<=c/\c<100000000000:=by
  intro j h h0 h1;obtain ⟨c,g1,g2,g3,g4⟩:=LC (l8 p.nodes i++p.nodes[i].of.take j) p.nodes.length _ h0 h1;refine ⟨c,by rw [hT2];exact g1,?_,g3,?_⟩
  ·rw [hT2,hT2,g2,aaz h,aaD]
  ·have:=BL hp i
   simp at g4;omega
 have hel:(p.nodes.map ndL)[(i:Int).toNat]? = some (ndL p.nodes[i]):=by simp [hlt]
 have hmem:∀(j:Nat) (h:j<p.nodes[i].of.length),p.nodes[i].of[j]∈p.nodes[i].of:=fun j h=>aaQ h;have hall:(∀(j:Nat) (h:j<p.nodes[i].of.length),0<=p.nodes[i].of[j]/\p.nodes[i].of[j]<(i:Int))->∀k∈p.nodes[i].of,0<=k/\k<(i:Int):=by
  intro h k hk;obtain ⟨j,hj,rfl⟩:=aa8.1 hk;exact h j hj
 generalize p.nodes[i]=x at *;have hol:(x.of.map fun i=>[I i]).length=x.of.length:=by simp
 have hoe:∀(j:Nat) (h:j<x.of.length),(x.of.map fun i=>[I i])[(j:Int).toNat]? = some [I x.of[j]]:=by intro j h;simp [h]
 repeat refine aw ?_
 refine du (fun j:Nat=>⟨[(27,.d (I j)),(26,.d (I ((x.of.map fun i=>[I i]).length:Nat))),(25,.d (bN x.of)),(4,.d (I i)),(5,.ptr 2 0),(19,.d (I i)),(18,.d (I ((p.nodes.map ndL).length:Nat))),(17,.d (cv p.nodes)),(3,.ref 1 0 0 p.nodes.length),(1,.ptr 0 0)],[(2,.var [.d (I x.kind),.d (I x.n),.d (.str x.name),.d (.str x.name2),.d (bN x.of)]),(1,.mt 1 0 (T2 j)),(0,.var [.d (.slice 3 (p.decls.map cO) false),.d (.slice 3 (p.ag.map fuL) false),.d (cv p.nodes)])],3,[],0⟩)
  (fun j=>j<=x.of.length/\∀(m:Nat) (h:m<x.of.length),m<j->0<=x.of[m]/\x.of[m]<(i:Int)) (fun j=>x.of.length - j) 0 (by exact Uw.wM) ⟨by omega,fun m _ h=>by omega⟩ ?_
 rintro j ⟨hj,hpre⟩;by_cases hjl:j<x.of.length
 ·have hk:=UG x.of[j] (hmem j hjl)
  have hs:=hstep j hjl;have he:=hoe j hjl;have YJ:0<=x.of[j]/\x.of[j]<(i:Int)->∀(m:Nat) (h:m<x.of.length),m<j+1->0<=x.of[m]/\x.of[m]<(i:Int):=by
   intro h1 m h hm;by_cases h2:m=j
   ·subst h2;exact h1
   ·exact hpre m h (by omega)
  clear hpre hoe hmem hstep UG hall;generalize x.of[j]=k at *;by_cases h0:k<0
  ·rw [hk (by omega)]
   repeat refine aw ?_
   exact bV (bV (aC rfl rfl rfl rfl rfl))
  by_cases h1:(i:Int)<=k
  ·rw [hk (by omega)]
   repeat refine aw ?_
   exact bV (bV (aC rfl rfl rfl rfl rfl))
  obtain ⟨c,g1,g2,g3,g4⟩:=hs (by omega) (by omega);have YK:=YJ (by omega)
  repeat refine aw ?_
  exact cn (j+1) ⟨by omega,YK⟩ (by omega) (by exact Uw.wM)
 obtain rfl:j=x.of.length:=by omega
 have hsh2:=hsh fun k hk=>by have:=hall (fun m h=>hpre m h h) k hk;omega
 have hnew2:=hnew (hall fun m h=>hpre m h h);by_cases hs:fS p.nodes x=true
 ·rw [hs] at hsh2
  have YL:=hnew2 hs
  repeat refine aw ?_
  refine aJ ?_
  repeat refine aw ?_
  exact cn (i+1) ⟨by omega,YL⟩ (by omega) (by exact Uw.wM)
 ·have hs:fS p.nodes x=false:=by simpa using hs
  rw [hs] at hsh2;rw [Zu hs]
  repeat refine aw ?_
  refine aJ ?_
  repeat refine aw ?_
  exact bV (aC rfl rfl rfl rfl rfl)
end Uw.Tryz
namespace Uw.Tryz
open Go Uw
theorem xl:∀(fs:List Fu) (i:Nat) (o:List Int),(tp fs i o).length=o.length
 | [],_,_=>rfl
 | f::fs,i,o=>by rw [tp,xl fs];simp
theorem tY {i:Nat}:∀(l:List Int) (o:List Int),(l.foldl (fun o k=>o.set k.toNat (o.getD i 0)) o).length=o.length
 | [],_=>rfl
 | k::l,o=>by rw [abQ,tY l];simp
theorem tw:∀(l:List (Nat×Nd)) (o:List Int),(gP l o).length=o.length
 | [],_=>rfl
 | (i,x)::r,o=>by rw [gP,tw r,iW,tY]
theorem fG (p:Pg):(bD p).length=p.nodes.length:=by rw [bD,tw,xl];simp
theorem LD {α β:Type}:∀{l:List α} {l' : List β} {x:α},l'.length=l.length->x∈l->∃y,(x,y)∈l.zip l'
 | a::l,[],x,h,_=>by simp at h
 | a::l,b::l',x,h,hx=>by
  rcases aaN.1 hx with rfl|hx
  ·exact ⟨b,by simp⟩
  ·obtain ⟨y,hy⟩:=LD (l:=l) (l':=l') (by simpa using h) hx
   exact ⟨y,by simp [hy]⟩
structure May (p:Pg):Prop where
 formed:bO p=true
 bound:iK p=false
 twice:jm p=false
 name:nameP p=false
 sort:tt p=false
 many:ov p=false
theorem Xq {p:Pg} (h:pT p=0):May p:=by
 unfold pT at h
 cases h1:bO p<;>cases h2:iK p<;>cases h3:jm p<;>cases h4:nameP p<;>cases h5:tt p<;>cases h6:ov p<;>simp [h1,h2,h3,h4,h5,h6] at h
 exact ⟨h1,h2,h3,h4,h5,h6⟩
theorem tZ {α:Type} {l:List α} (h:l.Nodup) {i j:Nat} (hi:i<l.length) (hj:j<l.length) (he:l[i]=l[j]):i=j:=by
 have h:=acL.1 (acJ.1 h)
 rcases Nat.lt_trichotomy i j with h1|h1|h1
 ·exact absurd he (h i j hi hj h1)
 ·exact h1
 ·exact absurd he.symm (h j i hj hi h1)
theorem yq {p:Pg} {s:Str} {i:Nat} (h:eY p s=some i):∃h:i<p.ag.length,p.ag[i].name=s:=by
 obtain ⟨h1,h2,_⟩:=aby.1 h;exact ⟨h1,by simpa using h2⟩
theorem NF {p:Pg} (h:(p.ag.map (·.name)).Nodup) {i:Nat} (hi:i<p.ag.length):eY p p.ag[i].name=some i:=by
 refine aby.2 ⟨hi,by simp,fun j hj hji=>?_⟩;have hjl:j<p.ag.length:=by omega
 have e:p.ag[j].name=p.ag[i].name:=by simpa using hji
 have:=tZ h (i:=j) (j:=i) (by simpa using hjl) (by simpa using hi) (by simpa using e);omega
theorem May.names {p:Pg} (h:May p):(p.decls.map (·.name)).Nodup/\(p.ag.map (·.name)).Nodup/\∀f∈p.ag,tr p [] f.args=false:=by
 have:=h.twice;simp only [jm,abj,Bool.not_eq_false',decide_eq_true_eq,abp] at this;exact ⟨this.1.1,this.1.2,fun f hf=>by simpa using this.2 f hf⟩
theorem May.main {p:Pg} (h:May p):∃m,∃hm:m<p.ag.length,eY p iJ=some m/\p.ag[m].args=[]:=by
 have h1:=h.name;have h2:=h.many;simp only [nameP,abj] at h1;simp only [ov,abj,decide_eq_false_iff_not] at h2
 cases hf:eY p iJ with
 | none=>rw [hf] at h1;simp at h1
 | some m=>
  obtain ⟨hm,_⟩:=yq hf;refine ⟨m,hm,rfl,?_⟩;have:=h2.1;rw [argsAt,hf] at this;simp only [Option.getD_some,List.getD,aaU hm] at this;exact aaM (by omega)
theorem May.call {p:Pg} (h:May p) {x:Nd} (hx:x∈p.nodes) (hk:x.kind=10\/x.kind=11):∃k,∃hk:k<p.ag.length,eY p x.name2=some k/\(x.kind=10->x.of.length=p.ag[k].args.length)/\(x.kind=11->p.ag[k].args.length=1):=by
 have h2:=h.many;simp only [ov,abj,decide_eq_false_iff_not,abp] at h2;have h1:=h.name;simp only [nameP,abj,abp] at h1;have h3:=h2.2 x hx;obtain ⟨o,ho⟩:∃o,(x,o)∈p.nodes.zip (bD p):=LD (fG p) hx;have h4:=h1.1.2 _ ho;simp only [uV,if_pos hk] at h4
 cases hf:eY p x.name2 with
 | none=>rw [hf] at h4;simp at h4
 | some k=>
  obtain ⟨hkl,_⟩:=yq hf;refine ⟨k,hkl,rfl,fun h10=>?_,fun h11=>?_⟩
  ·simp [manyN,h10,argsAt,hf,hkl] at h3;exact h3
  ·simp [manyN,h11,argsAt,hf,hkl] at h3;exact h3
theorem LG {p:Pg}:∀(l seen:List Str),tr p seen l=false->l.Nodup/\(∀a∈l,a∉seen)/\∀a∈l,bY p a=none
 | [],_,_=>⟨ac0,by simp,by simp⟩
 | a::r,seen,h=>by
  simp only [tr,abj,decide_eq_false_iff_not] at h;obtain ⟨h1,h2,h3⟩:=LG r (a::seen) h.2;refine ⟨acF.2 ⟨fun hm=>h2 a hm (by simp),h1⟩,?_,?_⟩
  ·intro b hb
   rcases aaN.1 hb with rfl|hb
   ·exact h.1.2
   ·exact fun hs=>h2 b hb (by simp [hs])
  ·intro b hb
   rcases aaN.1 hb with rfl|hb
   ·simpa using h.1.1
   ·exact h3 b hb
def Loc (p:Pg) (a l:List Str):Prop:=(∃t,l=a++t)/\l.Nodup/\∀s∈l,bY p s=none
def Gy (p:Pg) (ls:List (List Str)):Prop:=ls.length=p.ag.length/\∀(f:Nat) (h:f<p.ag.length),Loc p p.ag[f].args (ls.getD f [])
theorem Gy.add {p:Pg} {ls:List (List Str)} (h:Gy p ls) (f:Nat) (s:Str) (hs:bY p s=none):Gy p (addLocal ls f s):=by
 unfold addLocal
 split
 ·exact h
 ·rename_i hm
  refine ⟨by simpa using h.1,fun g hg=>?_⟩;by_cases hgf:g=f
  ·subst hgf
   obtain ⟨⟨t,ht⟩,h2,h3⟩:=h.2 g hg;have e:(ls.set g (ls.getD g []++[s])).getD g []=ls.getD g []++[s]:=by simp [h.1,hg]
   rw [e];refine ⟨⟨t++[s],by rw [ht,aaD]⟩,?_,?_⟩
   ·rw [acv]
    exact ⟨h2,by simp,fun a ha b hb=>by simp at hb;subst hb;exact fun e=>hm (e ▸ ha)⟩
   ·intro b hb
    rcases aaZ.1 hb with hb|hb
    ·exact h3 b hb
    ·simp at hb;subst hb;exact hs
  ·have e:(ls.set f (ls.getD f []++[s])).getD g []=ls.getD g []:=by simp [List.getD,ab1,Ne.symm hgf]
   rw [e];exact h.2 g hg
theorem Gy.go {p:Pg}:∀(r:List (Nd×Int)) (ls:List (List Str)),Gy p ls->Gy p (fF p r ls)
 | [],ls,h=>h
 | (x,o)::r,ls,h=>by
  rw [fF];refine Gy.go r _ ?_
  split
  ·rename_i hl
   refine h.add _ _ ?_;simp only [rx,aay] at hl;simpa using hl.2
  ·exact h
theorem May.BM {p:Pg} (h:May p):Gy p (ak p):=by
 refine Gy.go _ _ ⟨by simp,fun f hf=>?_⟩;obtain ⟨h1,_,h3⟩:=LG _ _ (h.names.2.2 p.ag[f] (aaQ hf));have e:(p.ag.map (·.args)).getD f []=p.ag[f].args:=by simp [List.getD,hf]
 rw [e];exact ⟨⟨[],by simp⟩,h1,h3⟩
theorem May.lof {p:Pg} (h:May p) (k:Nat) (hk:k<p.ag.length):kn p k=(ak p).getD k []:=by
 rw [kn,if_neg (by simp [h.formed];omega)];simp
theorem May.locals {p:Pg} (h:May p) (k:Nat) (hk:k<p.ag.length):Loc p p.ag[k].args (kn p k)/\(kn p k).length<=16:=by
 rw [h.lof k hk];refine ⟨h.BM.2 k hk,?_⟩;have:=h.bound;simp only [iK,abj,abp] at this;have hl:k<(ak p).length:=by rw [h.BM.1];exact hk
 have:=this.1.2 (ak p)[k] (aaQ hl);have e:(ak p).getD k []=(ak p)[k]:=by simp [List.getD,hl]
 rw [e];simpa using this
theorem IZ {p:Pg} {s:Str}:bY p s=none<->∀d∈p.decls,d.name≠s:=by
 simp [bY]
theorem J8 {p:Pg} (h:(p.decls.map (·.name)).Nodup) {d:Dec} (hd:d∈p.decls):bY p d.name=some d.kind:=by
 unfold bY
 cases hf:p.decls.find? fun e=>decide (e.name=d.name) with
 | none=>
  have:=List.find?_eq_none.1 hf d hd;simp at this
 | some e=>
  have h1:=List.mem_of_find?_eq_some hf;have h2:=List.find?_some hf;simp at h2;obtain ⟨i,hi,rfl⟩:=aa8.1 hd;obtain ⟨j,hj,rfl⟩:=aa8.1 h1;have:=tZ h (i:=j) (j:=i) (by simpa using hj) (by simpa using hi) (by simpa using h2);subst this;rfl
theorem yX {ns:List Nd}:∀{l:List Nd} {i:Nat},km ns i l=true->∀x∈l,∀k∈x.of,0<=k/\k<i+l.length
 | [],_,_,x,hx,_,_=>by simp at hx
 | y::l,i,h,x,hx,k,hk=>by
  simp only [km,aay] at h
  rcases aaN.1 hx with rfl|hx
  ·have h:=h.1
   simp only [tm,aay,aaS] at h;have:=h.1 k hk;simp at this ⊢;omega
  ·have:=yX h.2 x hx k hk
   simp at this ⊢;omega
theorem zI {p:Pg} (h:bO p=true):∀k∈jr p,0<=k/\k<p.nodes.length:=by
 simp only [bO,aay,aaS] at h;intro k hk
 rcases aaZ.1 hk with hk|hk
 ·obtain ⟨x,hx,hk⟩:=acR.1 hk
  have:=yX h.1.1 x hx k hk;simpa using this
 ·obtain ⟨f,hf,rfl⟩:=abu.1 hk
  have:=h.1.2 f hf;simp [ou] at this;omega
theorem ry {p:Pg} (h:bO p=true) (k:Nat) (hk:k<p.nodes.length):(jr p).count (k:Int)=1:=by
 simp only [bO,aay,aaS] at h;simpa using h.2 k (by simpa using hk)
end Uw.Tryz
namespace Uw.Tryz
open Go Uw
theorem xm {α:Type} {x:α}:∀{l:List α} {b i:Nat},(i,x)∈idx b l<->b<=i/\l[i - b]? = some x
 | [],b,i=>by simp [idx]
 | y::l,b,i=>by
  rw [idx,aaN,xm];constructor
  ·rintro (h|⟨h1,h2⟩)
   ·injection h with h1 h2;subst h1 h2;simp
   ·exact ⟨by omega,by rw [show i - b=(i - (b+1))+1 by omega,abJ];exact h2⟩
  ·rintro ⟨h1,h2⟩
   by_cases he:i=b
   ·subst he;simp at h2;subst h2;exact .inl rfl
   ·refine .inr ⟨by omega,?_⟩
    rw [show i - b=(i - (b+1))+1 by omega,abJ] at h2;exact h2
theorem LH {α:Type}:∀(l:List α) (b:Nat),(idx b l).Pairwise fun a c=>a.1<c.1
 | [],b=>List.Pairwise.nil
 | y::l,b=>by
  rw [idx];refine List.Pairwise.cons ?_ (LH l (b+1));rintro ⟨i,x⟩ h;have:=(xm.1 h).1;simp only;omega
theorem I0 {α β:Type} (f:α->List β):∀(l:List α) (b:Nat),(idx b l).flatMap (fun y=>f y.2)=l.flatMap f
 | [],b=>rfl
 | y::l,b=>by rw [idx,abk,abk,I0 f l]
theorem I1 {n:Nat} (i:Nat):∀(l:List Int) (o:List Int),o.length=n->(∀k∈l,0<=k/\k<(i:Int))->i<n->∀(j:Nat),(l.foldl (fun o k=>o.set k.toNat (o.getD i 0)) o).getD j 0=if (j:Int)∈l then o.getD i 0 else o.getD j 0
 | [],o,ho,h,hi,j=>by simp
 | k::l,o,ho,h,hi,j=>by
  obtain ⟨h1,h2⟩:=h k (by simp);rw [abQ,I1 i l _ (by simpa using ho) (fun k hk=>h k (by simp [hk])) hi j];have e:(o.set k.toNat (o.getD i 0)).getD i 0=o.getD i 0:=by
   simp only [List.getD,ab1];rw [if_neg (by omega)]
  rw [e];by_cases hj:(j:Int)∈l
  ·rw [if_pos hj,if_pos (by simp [hj])]
  ·rw [if_neg hj]
   by_cases hk:(j:Int)=k
   ·rw [if_pos (by simp [hk])]
    subst hk;simp only [List.getD,ab1,acM,if_true];rw [if_pos (by omega)];rfl
   ·rw [if_neg (by simp [hk,hj])]
    simp only [List.getD,ab1];rw [if_neg (by omega)]
structure Down (n:Nat) (l:List (Nat×Nd)):Prop where
 dec:l.Pairwise fun a c=>c.1<a.1
 kid:∀y∈l,y.1<n/\∀k∈y.2.of,0<=k/\k<(y.1:Int)
 once:(l.flatMap fun y=>y.2.of).Nodup
theorem I2 {n:Nat}:∀(l:List (Nat×Nd)) (o:List Int),o.length=n->Down n l->
  (∀j:Nat,(∀y∈l,(j:Int)∉y.2.of)->(gP l o).getD j 0=o.getD j 0)/\∀y∈l,∀j:Nat,(j:Int)∈y.2.of->(gP l o).getD j 0=(gP l o).getD y.1 0
 | [],o,ho,h=>⟨fun j _=>rfl,by simp⟩
 | (i,x)::r,o,ho,h=>by
  obtain ⟨hi,hx⟩:=h.kid (i,x) (by simp);simp only at hi hx;have hlen:(iW o i x).length=n:=by rw [iW,tY,ho]
  have hon:=h.once;rw [abk,acv] at hon;have hd:=List.pairwise_cons.1 h.dec;have hr:Down n r:=⟨hd.2,fun y hy=>h.kid y (by simp [hy]),hon.2.1⟩
  obtain ⟨a1,a2⟩:=I2 r (iW o i x) hlen hr;have hk:=I1 i x.of o ho hx hi;have hki:(iW o i x).getD i 0=o.getD i 0:=by
   rw [iW,hk i,if_neg];intro hm;have:=hx _ hm;omega
  have hii:(gP r (iW o i x)).getD i 0=o.getD i 0:=by
   rw [a1 i ?_,hki];intro y hy hm;have h1:=(hr.kid y hy).2 _ hm;have h2:=hd.1 y hy;simp only at h2;omega
  refine ⟨fun j hj=>?_,fun y hy j hm=>?_⟩
  ·rw [gP,a1 j fun y hy=>hj y (by simp [hy]),iW,hk j,if_neg (hj (i,x) (by simp))]
  ·rw [gP]
   rcases aaN.1 hy with rfl|hy
   ·rw [hii,a1 j ?_,iW,hk j,if_pos hm]
    intro y hy hm2;exact hon.2.2 _ hm _ (acR.2 ⟨y,hy,hm2⟩) rfl
   ·exact a2 y hy j hm
theorem BN {p:Pg} (h:bO p=true):(jr p).Nodup:=by
 rw [List.nodup_iff_count];intro k;by_cases hk:k∈jr p
 ·obtain ⟨h1,h2⟩:=zI h k hk
  have:=ry h k.toNat (by omega);rw [show ((k.toNat:Nat):Int)=k by omega] at this;omega
 ·rw [List.count_eq_zero.2 hk];omega
theorem BO:∀(fs:List Fu) (b:Nat) (o:List Int),(∀f∈fs,0<=f.body/\f.body<(o.length:Int))->(fs.map (·.body)).Nodup->∀(i:Nat) (hi:i<fs.length),(tp fs b o).getD fs[i].body.toNat 0=((b+i:Nat):Int)/\∀j:Nat,(∀f∈fs,f.body≠(j:Int))->(tp fs b o).getD j 0=o.getD j 0
 | [],b,o,_,_,i,hi=>by simp at hi
 | f::fs,b,o,h,hn,i,hi=>by
  rw [abG,acF] at hn;obtain ⟨h1,h2⟩:=h f (by simp);have hrest:∀g∈fs,0<=g.body/\g.body<((o.set f.body.toNat b).length:Int):=fun g hg=>by rw [acr];exact h g (by simp [hg])
  have hno:∀j:Nat,(∀g∈fs,g.body≠(j:Int))->(tp fs (b+1) (o.set f.body.toNat b)).getD j 0=(o.set f.body.toNat b).getD j 0:=by
   intro j hj
   cases fs with
   | nil=>rfl
   | cons g fs=>exact (BO (g::fs) (b+1) _ hrest hn.2 0 (by simp)).2 j hj
  refine ⟨?_,fun j hj=>?_⟩
  ·rw [tp]
   cases i with
   | zero=>
    rw [ab8,hno f.body.toNat fun g hg e=>hn.1 (abu.2 ⟨g,hg,by rw [e];omega⟩)];simp only [List.getD,ab1];rw [if_pos trivial,if_pos (by omega)];simp
   | succ i=>
    rw [adv,(BO fs (b+1) _ hrest hn.2 i (by simpa using hi)).1];omega
  ·rw [tp,hno j fun g hg=>hj g (by simp [hg])]
   simp only [List.getD,ab1];have:=hj f (by simp);rw [if_neg (by omega)]
structure Zv (p:Pg):Prop where
 body:∀(i:Nat) (h:i<p.ag.length),(bD p).getD p.ag[i].body.toNat 0=(i:Int)
 kid:∀(i:Nat) (h:i<p.nodes.length) (j:Nat),(j:Int)∈p.nodes[i].of->(bD p).getD j 0=(bD p).getD i 0
theorem owns {p:Pg} (h:bO p=true):Zv p:=by
 have hn:=BN h;rw [jr,acv] at hn;have UG:∀(i:Nat) (hi:i<p.nodes.length) (k:Int),k∈p.nodes[i].of->0<=k/\k<(i:Int):=by
  intro i hi k hk;have h1:=h;simp only [bO,aay] at h1;have key:∀(l:List Nd) (b:Nat),km p.nodes b l=true->∀(i:Nat) (hi:i<l.length) (k:Int),k∈l[i].of->0<=k/\k<((b+i:Nat):Int):=by
   intro l
   induction l with
   | nil=>intro b _ i hi;simp at hi
   | cons y l ih=>
    intro b hb i hi k hk;simp only [km,aay] at hb
    cases i with
    | zero=>
     have h2:=hb.1;simp only [tm,aay,aaS] at h2;have:=h2.1 k hk;simpa using this
    | succ i=>
     have:=ih (b+1) hb.2 i (by simpa using hi) k hk;omega
  have:=key p.nodes 0 h1.1.1 i hi k hk;omega
 have ky:((idx 0 p.nodes).reverse.flatMap fun y=>y.2.of).Nodup:=by
  refine (List.Perm.nodup_iff (List.Perm.flatMap_right _ (List.reverse_perm _))).2 ?_;rw [I0 (fun x:Nd=>x.of)];exact hn.1
 have hdown:Down p.nodes.length (idx 0 p.nodes).reverse:=by
  refine ⟨List.pairwise_reverse.2 (LH _ _),?_,ky⟩;rintro ⟨i,x⟩ hy;obtain ⟨_,h2⟩:=xm.1 (ac8.1 hy);rw [acS] at h2;obtain ⟨h3,rfl⟩:=aa0.1 h2;exact ⟨h3,fun k hk=>UG i h3 k hk⟩
 have hlen:(tp p.ag 0 (List.replicate p.nodes.length 0)).length=p.nodes.length:=by rw [xl];simp
 obtain ⟨a1,a2⟩:=I2 _ _ hlen hdown;refine ⟨fun i hi=>?_,fun i hi j hj=>?_⟩
 ·have hb:0<=p.ag[i].body:=(zI h _ (aaZ.2 (.inr (abu.2 ⟨_,aaQ hi,rfl⟩)))).1
  rw [bD,a1 _ ?_]
  ·rw [(BO p.ag 0 _ (fun f hf=>by simpa using zI h _ (aaZ.2 (.inr (abu.2 ⟨_,hf,rfl⟩)))) hn.2.1 i hi).1]
   omega
  ·rintro ⟨m,x⟩ hy hm
   obtain ⟨_,h2⟩:=xm.1 (ac8.1 hy);have hx:x∈p.nodes:=aaR h2;simp only at hm;rw [show ((p.ag[i].body.toNat:Nat):Int)=p.ag[i].body by omega] at hm;exact hn.2.2 _ (acR.2 ⟨x,hx,hm⟩) _ (abu.2 ⟨_,aaQ hi,rfl⟩) rfl
 ·exact a2 (i,p.nodes[i]) (ac8.2 (xm.2 ⟨abr _,by simp⟩)) j hj
end Uw.Tryz
namespace Uw.Tryz
open Go Uw
theorem lR {p:Pg} (h:bO p=true) (i:Nat) (hi:i<p.nodes.length):(∀k∈p.nodes[i].of,0<=k/\k<(i:Int))/\fS p.nodes p.nodes[i]=true:=by
 have h1:=h;simp only [bO,aay] at h1;have key:∀(l:List Nd) (b:Nat),km p.nodes b l=true->∀(i:Nat) (hi:i<l.length),(∀k∈l[i].of,0<=k/\k<((b+i:Nat):Int))/\fS p.nodes l[i]=true:=by
  intro l
  induction l with
  | nil=>intro b _ i hi;simp at hi
  | cons y l ih=>
   intro b hb i hi;simp only [km,aay] at hb
   cases i with
   | zero=>
    have h2:=hb.1;simp only [tm,aay,aaS] at h2;exact ⟨fun k hk=>by simpa using h2.1 k hk,h2.2⟩
   | succ i=>
    obtain ⟨h3,h4⟩:=ih (b+1) hb.2 i (by simpa using hi);exact ⟨fun k hk=>by have:=h3 k hk;omega,h4⟩
 obtain ⟨h3,h4⟩:=key p.nodes 0 h1.1.1 i hi;exact ⟨fun k hk=>by have:=h3 k hk;omega,h4⟩
theorem tz {p:Pg} (h:bO p=true) (i:Nat) (hi:i<p.ag.length):0<=p.ag[i].body/\p.ag[i].body<p.nodes.length/\lg p.nodes p.ag[i].body=18:=by
 simp only [bO,aay,aaS] at h;have:=h.1.2 _ (aaQ hi);simp only [ou,aay,decide_eq_true_eq] at this;exact ⟨this.1.1,this.1.2,this.2⟩
theorem EJ {p:Pg} (h:bO p=true) (k:Nat) (hk:k<p.nodes.length) (hb:∀(i:Nat) (hi:i<p.ag.length),p.ag[i].body≠(k:Int)):∃i,∃hi:i<p.nodes.length,(k:Int)∈p.nodes[i].of:=by
 have h1:=ry h k hk;have h2:(k:Int)∈jr p:=List.count_pos_iff.1 (by omega)
 rcases aaZ.1 h2 with h3|h3
 ·obtain ⟨x,hx,hk⟩:=acR.1 h3
  obtain ⟨i,hi,rfl⟩:=aa8.1 hx;exact ⟨i,hi,hk⟩
 ·obtain ⟨f,hf,he⟩:=abu.1 h3
  obtain ⟨i,hi,rfl⟩:=aa8.1 hf;exact absurd he (hb i hi)
structure Ups (p:Pg) (own:List Int):Prop where
 len:own.length=p.nodes.length
 body:∀(i:Nat) (h:i<p.ag.length) (k:Nat),k<p.nodes.length->p.ag[i].body=(k:Int)->own.getD k 0=(i:Int)
 kid:∀(i:Nat) (h:i<p.nodes.length) (k:Nat),(k:Int)∈p.nodes[i].of->own.getD k 0=own.getD i 0/\k<i
 up:∀(k:Nat),k<p.nodes.length->(∀(i:Nat) (hi:i<p.ag.length),p.ag[i].body≠(k:Int))->(∀(i:Nat) (hi:i<p.nodes.length),(k:Int)∉p.nodes[i].of)->False
theorem J9 {p:Pg} (h:bO p=true):Ups p (bD p):=by
 have ho:=owns h;refine ⟨fG p,fun i hi k hk e=>?_,fun i hi k hm=>⟨ho.kid i hi k hm,?_⟩,fun k hk h1 h2=>?_⟩
 ·have:=ho.body i hi
  rw [e] at this;simpa using this
 ·have:=(lR h i hi).1 _ hm;omega
 ·obtain ⟨i,hi,hm⟩:=EJ h k hk h1
  exact h2 i hi hm
theorem Gz {p:Pg} (h:bO p=true):∀(d k:Nat),k<p.nodes.length->p.nodes.length - k<=d->0<=(bD p).getD k 0/\(bD p).getD k 0<p.ag.length
 | 0,k,hk,hd=>by omega
 | d+1,k,hk,hd=>by
  have hu:=J9 h;by_cases hb:∃(i:Nat) (hi:i<p.ag.length),p.ag[i].body=(k:Int)
  ·obtain ⟨i,hi,e⟩:=hb
   rw [hu.body i hi k hk e];omega
  ·obtain ⟨i,hi,hm⟩:=EJ h k hk fun i hi e=>hb ⟨i,hi,e⟩
   obtain ⟨e,hlt⟩:=hu.kid i hi k hm;rw [e];exact Gz h d i hi (by omega)
theorem GF (ls:List (List Str)) (g:Nat) (s:Str):(addLocal ls g s).length=ls.length:=by
 unfold addLocal
 split<;>simp
end Uw.Tryz
namespace Uw.Tryz
open Go Uw
abbrev MS:=List (oC×Dat)
theorem gi:∀(es:MS) (k x:oC) (d:Dat),bh (dQ es k d) x=if x=k then some d else bh es x
 | [],k,x,d=>by
  simp only [dQ,bh];by_cases h:x=k<;>simp [h]
 | (k0,v)::es,k,x,d=>by
  simp only [dQ];by_cases h:k=k0
  ·subst h
   simp only [decide_true,bh];by_cases hx:x=k<;>simp [hx]
  ·simp only [decide_eq_false h,bh]
   by_cases hx:x=k0
   ·subst hx
    simp [Ne.symm h]
   ·simp only [decide_eq_false hx]
    exact gi es k x d
theorem BP:∀(es:MS) (k:oC) (d:Dat),(dQ es k d).length=es.length+if (bh es k).isSome then 0 else 1
 | [],k,d=>rfl
 | (k0,v)::es,k,d=>by
  simp only [dQ,bh];by_cases h:k=k0
  ·subst h;simp
  ·simp only [decide_eq_false h,aaA,BP es k d];omega
def iL (es:MS) (d:Dec):MS:=if (bh es (.s d.name)).isSome then es else dQ es (.s d.name) (I d.kind)
def thE (ds:List Dec):MS:=ds.foldl iL []
theorem Q5 (ds:List Dec) (d:Dec):thE (ds++[d])=iL (thE ds) d:=by rw [thE,ab2];rfl
theorem BQ (es:MS) (d:Dec) (s:Str):bh (iL es d) (.s s)=(bh es (.s s)).or (if d.name=s then some (I d.kind) else none):=by
 unfold iL
 split
 ·rename_i h
  by_cases he:d.name=s
  ·subst he
   cases hm:bh es (.s d.name) with
   | none=>rw [hm] at h;cases h
   | some v=>rfl
  ·rw [if_neg he];simp
 ·rename_i h
  rw [gi];by_cases he:d.name=s
  ·subst he
   simp only [if_true]
   cases hm:bh es (.s d.name) with
   | none=>rfl
   | some v=>rw [hm] at h;simp at h
  ·rw [if_neg he,if_neg (by simp;exact fun e=>he e.symm)];simp
theorem BR:∀(ds:List Dec) (es:MS) (s:Str),bh (ds.foldl iL es) (.s s)=(bh es (.s s)).or ((ds.find? fun d=>decide (d.name=s)).map fun d=>I d.kind)
 | [],es,s=>by simp
 | d::ds,es,s=>by
  rw [abQ,BR ds,BQ,List.find?_cons];by_cases h:d.name=s
  ·simp [h]
  ·simp [h]
theorem yr (p:Pg) (s:Str):bh (thE p.decls) (.s s)=(bY p s).map I:=by
 rw [thE,BR,bY]
 cases p.decls.find? fun d=>decide (d.name=s)<;>rfl
theorem Ko (es:MS) (d:Dec):(iL es d).length=es.length+if (bh es (.s d.name)).isSome then 0 else 1:=by
 unfold iL
 split
 ·simp
 ·rename_i h
  rw [BP];simp [h]
theorem BS:∀(ds:List Dec) (es:MS),(ds.foldl iL es).length<=es.length+ds.length/\((ds.foldl iL es).length=es.length+ds.length<->(ds.map (·.name)).Nodup/\∀d∈ds,bh es (.s d.name)=none)
 | [],es=>by simp
 | d::ds,es=>by
  obtain ⟨h1,h2⟩:=BS ds (iL es d);rw [abQ];rw [Ko] at h1 h2
  cases hm:bh es (.s d.name) with
  | some v=>
   rw [hm] at h1 h2;simp only [Option.isSome_some,if_true,abT] at h1 h2;refine ⟨by simp;omega,⟨fun h=>by simp at h;omega,fun h=>?_⟩⟩;have:=h.2 d (by simp);rw [hm] at this;cases this
  | none=>
   rw [hm] at h1 h2;simp only [Option.isSome_none,aaX,if_false] at h1 h2;refine ⟨by simp;omega,?_⟩;have e:(ds.foldl iL (iL es d)).length=es.length+(d::ds).length<->(ds.foldl iL (iL es d)).length=es.length+1+ds.length:=by simp;omega
   rw [e,h2,abG,acF];have hg:∀s,bh (iL es d) (.s s)=(bh es (.s s)).or (if d.name=s then some (I d.kind) else none):=BQ es d;constructor
   ·rintro ⟨g1,g2⟩
    refine ⟨⟨fun hmem=>?_,g1⟩,fun x hx=>?_⟩
    ·obtain ⟨x,hx,he⟩:=abu.1 hmem
     have:=g2 x hx;rw [hg,he,if_pos rfl,hm] at this;cases this
    ·rcases aaN.1 hx with rfl|hx
     ·exact hm
     ·have:=g2 x hx
      rw [hg] at this
      cases hmx:bh es (.s x.name) with
      | none=>rfl
      | some v=>rw [hmx] at this;cases this
   ·rintro ⟨⟨g0,g1⟩,g2⟩
    refine ⟨g1,fun x hx=>?_⟩;rw [hg,g2 x (by simp [hx]),if_neg (fun e=>g0 (abu.2 ⟨x,hx,e.symm⟩))];rfl
theorem ox (p:Pg) (hp:p.decls.length<100000):aE P0 sM [.agg [.d (.slice 3 (p.decls.map cO) false),.d (.slice 3 (p.ag.map fuL) false),.d (.slice 5 (p.nodes.map ndL) false)]] [] (.hnd 0) [.map none (thE p.decls)]:=by
 have hdl:(p.decls.map cO).length=p.decls.length:=by simp
 obtain ⟨E,hE⟩:∃E:Nat->MS,∀j,E j=thE (p.decls.take j):=⟨_,fun _=>rfl⟩
 have e0:([]:MS)=E 0:=by rw [hE];rfl
 have e1:thE p.decls=E p.decls.length:=by rw [hE,aaK]
 have hel:∀(j:Nat) (h:j<p.decls.length),(p.decls.map cO)[(j:Int).toNat]? = some (cO p.decls[j]):=by intro j h;simp [h]
 have hst:∀(j:Nat) (h:j<p.decls.length),((∃v,bh (E j) (.s p.decls[j].name)=some (I v))/\E j=E (j+1))\/(bh (E j) (.s p.decls[j].name)=none/\dQ (E j) (.s p.decls[j].name) (I p.decls[j].kind)=E (j+1)):=by
  intro j h;have e:E (j+1)=iL (E j) p.decls[j]:=by rw [hE,hE,aaz h,Q5]
  rw [e];unfold iL
  cases hm:bh (E j) (.s p.decls[j].name) with
  | some v=>
   have:=yr { p with decls:=p.decls.take j } p.decls[j].name;rw [<- hE] at this;rw [hm] at this
   cases ht:bY { p with decls:=p.decls.take j } p.decls[j].name with
   | none=>rw [ht] at this;cases this
   | some k=>rw [ht] at this;injection this with this;subst this;exact .inl ⟨⟨k,rfl⟩,by simp⟩
  | none=>exact .inr ⟨rfl,by simp⟩
 rw [e1];clear hE e1;refine ax zj rfl ?_
 repeat refine aw ?_
 refine dp p.decls.length (fun j:Nat=>⟨[(12,.d (I j)),(11,.d (I ((p.decls.map cO).length:Nat))),(10,.d (.slice 3 (p.decls.map cO) false)),(3,.hnd 1)],[(1,.map none (E j))],2,[],0⟩) (fun _=>True) (by rw [<- e0];exact Uw.wM) (fun _=>?_) (fun j hj _=>?_)
 ·repeat refine aw ?_
  refine aJ ?_
  repeat refine aw ?_
  exact aF 0 rfl rfl (Weak.eqs [(0,1)] rfl rfl rfl rfl rfl rfl rfl rfl rfl rfl)
 have he:=hel j hj;have hs:=hst j hj;clear hel hst;generalize p.decls[j]=d at *;obtain ⟨dk,ds,dn⟩:=d;have he:(p.decls.map cO)[(j:Int).toNat]? = some [I dk,.str ds,I dn]:=he;simp only at hs
 rcases hs with ⟨⟨v,hv⟩,h2⟩|⟨hv,h2⟩
 ·repeat (first|refine aw ?_|refine m1 ?_)
  exact aX j trivial (by exact Uw.wM)
 ·repeat (first|refine aw ?_|refine m1 ?_)
  exact aX j trivial (by exact Uw.wM)
end Uw.Tryz
namespace Go.Proofs
open Go.RowKit Go.Shelf
attribute [local go_sem] Oper.semAt_some
theorem Tryz.I3 (l Bs b off len cap:Nat) (C:Nat->Value) (hreach:len<1000000) (J:Nat->World->Prop)
  (hY:∀k W1,J k W1->k<len->YieldAt Fence.wide 0 Tryz.prog l #[.int .i64 ((len - 1 - k:Nat):Int),.agg #[C ((len - 1 - k) * 5),C ((len - 1 - k) * 5+1),C ((len - 1 - k) * 5+2),C ((len - 1 - k) * 5+3),C ((len - 1 - k) * 5+4)]] W1 fun e W'=>e = .returned (.bool true)/\J (k+1) W')
  (hOK:∀k W1,J k W1->W1.cell? ⟨Bs,0,none⟩=some (.slice (some ⟨b,off,none⟩) len cap)/\∀m,m<len * 5->W1.cell? ⟨b,off+m,none⟩=some (C m))
  (W:World) (h0:J 0 W) :
  CallsIn Fence.wide 0 Tryz.prog 118 #[.func (.yield l) #[] #[],.pointer (some ⟨Bs,0,none⟩)] W fun e W'=>(∃v,e = .returned v)/\J len W':=by
 refine callsIn_of_wp Tryz.func118 rfl trivial ?_ rfl;simp only [Tryz.ntmps118,List.size_toArray,List.length_cons,List.length_nil,Nat.reduceAdd,Nat.reduceSub,Array.replicate_succ,Array.replicate_zero,List.push_toArray,List.append_toArray,List.nil_append,List.cons_append];have hB:=(hOK 0 W h0).1
 gi_wp2
 gi_loopw [3] (fun i wr=>∃k:Nat,k<=len/\i = .int .i64 ((len:Int) - 1 - k)/\J k wr) (fun i _=>(intOf i+1).toNat)
 case atStart=>exact ⟨0,Nat.zero_le _,by simp,h0⟩
 case round=>
  obtain ⟨k,hk,rfl,hJs⟩:=hrel;obtain ⟨hB2,hC⟩:=hOK k wr hJs;by_cases hlt:k<len
  ·obtain ⟨fn,tmps,assign,body,hy,hR⟩:=hY k wr hJs hlt
   have he:((len - 1 - k:Nat):Int)=(len:Int) - 1 - k:=by omega
   rw [he] at hy;have c0:wr.cell? ⟨b,off+(len - 1 - k) * 5,none⟩=some (C ((len - 1 - k) * 5)):=hC _ (by omega);have c1:wr.cell? ⟨b,off+(len - 1 - k) * 5+1,none⟩=some (C ((len - 1 - k) * 5+1)):=by have:=hC ((len - 1 - k) * 5+1) (by omega);rwa [<- Nat.add_assoc] at this
   have c2:wr.cell? ⟨b,off+(len - 1 - k) * 5+2,none⟩=some (C ((len - 1 - k) * 5+2)):=by have:=hC ((len - 1 - k) * 5+2) (by omega);rwa [<- Nat.add_assoc] at this
   have c3:wr.cell? ⟨b,off+(len - 1 - k) * 5+3,none⟩=some (C ((len - 1 - k) * 5+3)):=by have:=hC ((len - 1 - k) * 5+3) (by omega);rwa [<- Nat.add_assoc] at this
   have c4:wr.cell? ⟨b,off+(len - 1 - k) * 5+4,none⟩=some (C ((len - 1 - k) * 5+4)):=by have:=hC ((len - 1 - k) * 5+4) (by omega);rwa [<- Nat.add_assoc] at this
   gi_wp2
   refine ⟨rfl,hR.mono ?_⟩;rintro e W3 ⟨rfl,hJ3⟩
   gi_wp2
   go_roundw
   case rel=>exact ⟨k+1,by omega,by simp;omega,hJ3⟩
   case measure=>simp [intOf];omega
  ·obtain rfl:k=len:=by omega
   gi_wp2
   go_end0
   exact ⟨⟨_,rfl⟩,hJs⟩
theorem Tryz.GG (l Bs:Nat) (x:Option Addr) (J:Nat->World->Prop) (hOK:∀k W1,J k W1->W1.cell? ⟨Bs,0,none⟩=some (.slice x 0 0)) (W:World) (h0:J 0 W) :
  CallsIn Fence.wide 0 Tryz.prog 118 #[.func (.yield l) #[] #[],.pointer (some ⟨Bs,0,none⟩)] W fun e W'=>(∃v,e = .returned v)/\J 0 W':=by
 refine callsIn_of_wp Tryz.func118 rfl trivial ?_ rfl;simp only [Tryz.ntmps118,List.size_toArray,List.length_cons,List.length_nil,Nat.reduceAdd,Nat.reduceSub,Array.replicate_succ,Array.replicate_zero,List.push_toArray,List.append_toArray,List.nil_append,List.cons_append];have hB:=hOK 0 W h0
 gi_wp2
 gi_loopw [3] (fun i wr=>i = .int .i64 (-1)/\J 0 wr) (fun i _=>0)
 case atStart=>exact ⟨rfl,h0⟩
 case round=>
  obtain ⟨rfl,hJs⟩:=hrel
  gi_wp2
  go_end0
  exact ⟨⟨_,rfl⟩,hJs⟩
end Go.Proofs
namespace Uw.Tryz
open Go Uw Go.RowKit
theorem I4 {w:World} {J:Nat->Nat->Prop} {b k:Nat}:∀{xs:List (List Dat)} {o:Nat},cS w J b k o xs->∀(i:Nat) (h:i<xs.length),dR w J b (o+i * k) xs[i]
 | x::xs,o,h,0,hi=>by simpa using h.2.1
 | x::xs,o,h,i+1,hi=>by
  have:=I4 h.2.2 i (by simpa using hi);rw [show o+(i+1) * k=o+k+i * k by rw [abb];omega];exact this
structure m8 (ns:List Nd) (b off:Nat) (C:Nat->Value) (c:Cx):Prop where
 rel:∀(i:Nat) (h:i<ns.length),dR c.w (Imm c) b (off+i * 5) (ndL ns[i])
 cell:∀m,m<ns.length * 5->c.w.cell? ⟨b,off+m,none⟩=some (C m)
 imm:∀m,m<ns.length * 5->Imm c b (off+m)
theorem m8.of [Glob] {ns:List Nd} {b off:Nat} {c:Cx} (h:∀(i:Nat) (h:i<ns.length),dR c.w (Imm c) b (off+i * 5) (ndL ns[i])):m8 ns b off (fun m=>(c.w.cell? ⟨b,off+m,none⟩).getD undef) c:=by
 have key:∀m,m<ns.length * 5->(∃v,c.w.cell? ⟨b,off+m,none⟩=some v)/\Imm c b (off+m):=by
  intro m hm;have hi:m / 5<ns.length:=by omega
  obtain ⟨⟨v0,a0,i0,_⟩,⟨v1,a1,i1,_⟩,⟨v2,a2,i2,_⟩,⟨v3,a3,i3,_⟩,⟨v4,a4,i4,_⟩,_⟩:=h (m / 5) hi;have hm5:m % 5=0\/m % 5=1\/m % 5=2\/m % 5=3\/m % 5=4:=by omega
  rcases hm5 with e|e|e|e|e
  ·rw [show off+m=off+m / 5 * 5 by omega];exact ⟨⟨v0,a0⟩,i0⟩
  ·rw [show off+m=off+m / 5 * 5+1 by omega];exact ⟨⟨v1,a1⟩,i1⟩
  ·rw [show off+m=off+m / 5 * 5+1+1 by omega];exact ⟨⟨v2,a2⟩,i2⟩
  ·rw [show off+m=off+m / 5 * 5+1+1+1 by omega];exact ⟨⟨v3,a3⟩,i3⟩
  ·rw [show off+m=off+m / 5 * 5+1+1+1+1 by omega];exact ⟨⟨v4,a4⟩,i4⟩
 refine ⟨h,fun m hm=>?_,fun m hm=>(key m hm).2⟩;obtain ⟨v,hv⟩:=(key m hm).1;rw [hv];rfl
theorem m8.agg [Glob] {ns:List Nd} {b off:Nat} {C:Nat->Value} {c:Cx} (h:m8 ns b off C c) (i:Nat) (hi:i<ns.length):aI c.w (Imm c) (.agg (ndL ns[i])) (.agg #[C (i * 5),C (i * 5+1),C (i * 5+2),C (i * 5+3),C (i * 5+4)]):=by
 obtain ⟨⟨v0,a0,_,_,r0⟩,⟨v1,a1,_,_,r1⟩,⟨v2,a2,_,_,r2⟩,⟨v3,a3,_,_,r3⟩,⟨v4,a4,_,_,r4⟩,_⟩:=h.rel i hi;have e:∀(m:Nat) (v:Value),m<5->c.w.cell? ⟨b,off+i * 5+m,none⟩=some v->v=C (i * 5+m):=by
  intro m v hm hv;have:=h.cell (i * 5+m) (by omega);rw [<- abw,hv] at this;injection this
 obtain rfl:=e 0 v0 (by omega) a0;obtain rfl:=e 1 v1 (by omega) a1;obtain rfl:=e 2 v2 (by omega) a2;obtain rfl:=e 3 v3 (by omega) a3;obtain rfl:=e 4 v4 (by omega) a4;exact ⟨_,rfl,_,_,rfl,r0,_,_,rfl,r1,_,_,rfl,r2,_,_,rfl,r3,_,_,rfl,r4,rfl⟩
def LI (ns:List Nd) (b off:Nat) (C:Nat->Value):Fr where
 K:=0
 p:=m8 ns b off C
 ok:=fun c c' he h=>⟨fun i hi=>dR.keep he.keeps _ _ _ (h.rel i hi),fun m hm=>((he.keeps b _ (h.imm m hm)).2).trans (h.cell m hm),fun m hm=>(he.keeps b _ (h.imm m hm)).1⟩
end Uw.Tryz
namespace Uw.Tryz
open Go Uw Go.RowKit
abbrev pgV (p:Pg):Blk:=.var [.d (.slice 3 (p.decls.map cO) false),.d (.slice 3 (p.ag.map fuL) false),.d (cv p.nodes)]
abbrev owR:gw:=[(3,.ptr 2 0),(1,.ptr 0 0)]
abbrev owH (p:Pg) (o:List (List Dat)):Heap:=[(2,.var [.ref 1 0 0 p.nodes.length]),(1,.mt 1 0 o),(0,pgV p)]
def owF (p:Pg) (j:Nat):List Int:=tp (p.ag.take j) 0 (List.replicate p.nodes.length 0)
theorem EK:∀(fs:List Fu) (f:Fu) (b:Nat) (o:List Int),tp (fs++[f]) b o=(tp fs b o).set f.body.toNat ((b+fs.length:Nat):Int)
 | [],f,b,o=>by simp [tp]
 | g::fs,f,b,o=>by
  rw [aaE,tp,tp,EK fs f]
  congr 2
  simp;omega
theorem LJ (p:Pg) (j:Nat):(owF p j).length=p.nodes.length:=by rw [owF,xl];simp
theorem Q6 (p:Pg) (j:Nat) (h:j<p.ag.length):owF p (j+1)=(owF p j).set p.ag[j].body.toNat (j:Int):=by
 rw [owF,owF,aaz h,EK];simp;congr 1;omega
theorem GH {o:List Int} {k:Int} (h:k.toNat<o.length):∃c,(fO o)[0+k.toNat]? = some [I c]/\c=o.getD k.toNat 0:=by
 refine ⟨o.getD k.toNat 0,?_,rfl⟩;rw [aaF,fO,acg,aaU h];simp [List.getD,h]
theorem I5 {o:List Int} {k:Nat} {c v:Int}:(fO o).set (0+k) (setAt [I c] 0 [I v])=fO (o.set k v):=by
 rw [aaF,fO,fO,ac7];rfl
def owK (p:Pg) (k:Nat):List Int:=gP ((idx 0 p.nodes).reverse.take k) (owF p p.ag.length)
theorem UH (p:Pg) (k:Nat):(owK p k).length=p.nodes.length:=by rw [owK,tw,LJ]
theorem xp:∀(l:List (Nat×Nd)) (y:Nat×Nd) (o:List Int),gP (l++[y]) o=iW (gP l o) y.1 y.2
 | [],y,o=>rfl
 | x::l,y,o=>by rw [aaE,gP,gP,xp l]
theorem xq {α:Type}:∀(l:List α) (b:Nat),(idx b l).length=l.length
 | [],_=>rfl
 | x::l,b=>by rw [idx,aaA,aaA,xq l]
theorem LK {α:Type}:∀(l:List α) (b i:Nat) (h:i<l.length),(idx b l)[i]'(by rw [xq];exact h)=(b+i,l[i])
 | x::l,b,0,h=>rfl
 | x::l,b,i+1,h=>by
  have:=LK l (b+1) i (by simpa using h);simp only [idx,adv];rw [this,show b+1+i=b+(i+1) by omega]
theorem Q7 (p:Pg) (k:Nat) (h:k<p.nodes.length):owK p (k+1)=iW (owK p k) (p.nodes.length - 1 - k) p.nodes[p.nodes.length - 1 - k]:=by
 have hl:((idx 0 p.nodes).reverse).length=p.nodes.length:=by rw [List.length_reverse,xq]
 rw [owK,owK,aaz (by rw [hl];exact h),xp,List.getElem_reverse];have:=LK p.nodes 0 (p.nodes.length - 1 - k) (by omega);simp only [xq];rw [this];simp
theorem UI (p:Pg):owK p p.nodes.length=bD p:=by
 rw [owK,bD,aaG (by rw [List.length_reverse,xq];exact aax _),owF,aaG (aax _)]
theorem Zw (p:Pg):WT P0 (fun e s=>e = .normal/\Weak s ⟨[(1,.ptr 0 0)],[(0,pgV p)],1,[],0⟩) (exec o7 (lX [pgD p]) Tree.done):=by
 repeat refine aw ?_
 refine aS ⟨rfl,?_⟩;exact Uw.wM
theorem Zx (p:Pg) (hn:p.nodes.length<100000):WT P0 (fun e s=>e = .normal/\Weak s ⟨owR,owH p (fO (owF p 0)),3,[],0⟩) (exec o8 ⟨[(1,.ptr 0 0)],[(0,pgV p)],1,[],0⟩ Tree.done):=by
 have hnl:(p.nodes.map ndL).length=p.nodes.length:=by simp
 have e0:List.replicate (((p.nodes.map ndL).length:Nat):Int).toNat [I 0]=fO (owF p 0):=by
  rw [owF,List.take_zero,tp,fO,List.map_replicate,hnl];simp
 have hmk:(decide ((0:Int)<=((p.nodes.map ndL).length:Nat))&&decide ((((p.nodes.map ndL).length:Nat):Int)<=((p.nodes.map ndL).length:Nat))&&decide ((((p.nodes.map ndL).length:Nat):Int) * ((8:Nat):Int)<=70368744177664))=true:=by simp;omega
 generalize fO (owF p 0)=O at *
 repeat refine aw ?_
 refine aS ⟨rfl,?_⟩;rw [<- e0];exact Uw.wM
theorem Zy (p:Pg) (hp:Lim p) (hb:∀(i:Nat) (h:i<p.ag.length),0<=p.ag[i].body/\p.ag[i].body<p.nodes.length):WT P0 (fun e s=>e = .normal/\Weak s ⟨owR,owH p (fO (owF p p.ag.length)),3,[],0⟩) (exec o9 ⟨owR,owH p (fO (owF p 0)),3,[],0⟩ Tree.done):=by
 have hfl:(p.ag.map fuL).length=p.ag.length:=by simp
 have hF:=hp.ag;have hN:=hp.nodes;obtain ⟨O,hO⟩:∃O:Nat->List (List Dat),∀j,O j=fO (owF p j):=⟨_,fun _=>rfl⟩
 have hstep:∀(j:Nat) (h:j<p.ag.length),∃c:Int,(O j)[0+p.ag[j].body.toNat]? = some [I c]/\(O j).set (0+p.ag[j].body.toNat) (setAt [I c] 0 [I j])=O (j+1):=by
  intro j h;have:=hb j h;obtain ⟨c,g1,g2⟩:=GH (o:=owF p j) (k:=p.ag[j].body) (by rw [LJ];omega);exact ⟨c,by rw [hO];exact g1,by rw [hO,hO,I5,Q6 p j h]⟩
 have hel:∀(j:Nat) (h:j<p.ag.length),(p.ag.map fuL)[(j:Int).toNat]? = some (fuL p.ag[j]):=by intro j h;simp [h]
 rw [<- hO,<- hO]
 repeat refine aw ?_
 refine dp p.ag.length (fun j:Nat=>⟨[(17,.d (I j)),(16,.d (I ((p.ag.map fuL).length:Nat))),(15,.d (.slice 3 (p.ag.map fuL) false)),(3,.ptr 2 0),(1,.ptr 0 0)],owH p (O j),3,[],0⟩) (fun _=>True) (by exact Uw.wM) (fun _=>?_) (fun j hj _=>?_)
 ·repeat refine aw ?_
  refine aJ ?_;refine aS ⟨rfl,?_⟩;exact Uw.wM
 have he:=hel j hj;have hs:=hstep j hj;have hbj:=hb j hj;clear hstep hel hO hb;generalize p.ag[j]=f at *;obtain ⟨fn,fa,fb⟩:=f;have he:(p.ag.map fuL)[(j:Int).toNat]? = some [.str fn,gV fa,I fb]:=he;obtain ⟨c,g1,g2⟩:=hs;simp only at *;obtain ⟨b1,b2⟩:=hbj
 repeat refine aw ?_
 exact aX j trivial (by exact Uw.wM)
theorem Zz (p:Pg) (o:List (List Dat)):WT P0 (fun e s=>e = .normal/\Weak s ⟨[(30,.func dJ [] [.ptr 3 0]),(3,.ptr 2 0),(1,.ptr 0 0)],(3,.var [.d (cv p.nodes)])::owH p o,4,[],0⟩) (exec pa ⟨owR,owH p o,3,[],0⟩ Tree.done):=by
 repeat refine aw ?_
 refine dK vt rfl ?_
 repeat refine aw ?_
 refine ef rfl rfl ?_
 repeat refine aw ?_
 refine aS ⟨rfl,?_⟩;exact Uw.wM
end Uw.Tryz
namespace Uw.Tryz
open Go Uw Go.RowKit
abbrev owS (p:Pg) (k:Nat):St:=⟨owR,owH p (fO (owK p k)),3,[],0⟩
def owN (p:Pg) (k:Nat):Nd:=p.nodes.getD (p.nodes.length - 1 - k) default
abbrev owP (p:Pg) (k:Nat):gw:=[(32,.d (.agg (ndL (owN p k)))),(31,.d (I ((p.nodes.length - 1 - k:Nat):Int)))]
theorem ZA (p:Pg) (hp:Lim p) (k:Nat) (hk:k<p.nodes.length) (hx:∀j∈(owN p k).of,0<=j/\j<((p.nodes.length - 1 - k:Nat):Int)) :
  WT P0 (fun e s=>e = .normal/\WT P0 (fun e s'=>e = .normal/\s'.defers=[]/\Weak ⟨owR,s'.heap,s'.next,[],0⟩ (owS p (k+1))) (exec ic s Tree.done)) (exec fC ⟨owP p k++owR,(owS p k).heap,(owS p k).next,[],(owS p k).next⟩ Tree.done):=by
 have hlim:=hp.of (owN p k) (by rw [owN];simp [List.getD,show p.nodes.length - 1 - k<p.nodes.length by omega]);have hN:=hp.nodes;obtain ⟨i,hi⟩:∃i,p.nodes.length - 1 - k=i:=⟨_,rfl⟩
 have hin:i<p.nodes.length:=by omega
 have hnext:owK p (k+1)=iW (owK p k) i (owN p k):=by
  rw [Q7 p k hk,owN];simp [List.getD,hi,hin]
 rw [hi] at hx;obtain ⟨B,hB⟩:∃B:Nat->List Int,∀j,B j=((owN p k).of.take j).foldl (fun o k=>o.set k.toNat (o.getD i 0)) (owK p k):=⟨_,fun _=>rfl⟩
 obtain ⟨O,hO⟩:∃O:Nat->List (List Dat),∀j,O j=fO (B j):=⟨_,fun _=>rfl⟩
 have hBl:∀j,(B j).length=p.nodes.length:=fun j=>by rw [hB,tY,UH]
 have e0:fO (owK p k)=O 0:=by rw [hO,hB];rfl
 have e1:fO (owK p (k+1))=O (owN p k).of.length:=by rw [hO,hB,aaK,hnext];rfl
 have hstep:∀(j:Nat) (h:j<(owN p k).of.length),∃u v:Int,(O j)[0+(i:Int).toNat]? = some [I u]/\(O j)[0+(owN p k).of[j].toNat]? = some [I v]/\(O j).set (0+(owN p k).of[j].toNat) (setAt [I v] 0 [I u])=O (j+1):=by
  intro j h;have h1:=hx _ (aaQ h);obtain ⟨u,u1,u2⟩:=GH (o:=B j) (k:=(i:Int)) (by rw [hBl];omega);obtain ⟨v,v1,v2⟩:=GH (o:=B j) (k:=(owN p k).of[j]) (by rw [hBl];omega);refine ⟨u,v,by rw [hO];exact u1,by rw [hO];exact v1,?_⟩;rw [hO,hO,I5,hB (j+1),aaz h,ab2,<- hB,u2];rfl
 have hel:∀(j:Nat) (h:j<(owN p k).of.length),((owN p k).of.map fun i=>[I i])[(j:Int).toNat]? = some [I (owN p k).of[j]]:=by intro j h;simp [h]
 have hol:((owN p k).of.map fun i=>[I i]).length=(owN p k).of.length:=by simp
 have hlt:∀(j:Nat) (h:j<(owN p k).of.length),0<=(owN p k).of[j]/\(owN p k).of[j]<(i:Int):=fun j h=>hx _ (aaQ h);have goal2:∀T0 T1:List (List Dat),fO (owK p k)=T0->fO (owK p (k+1))=T1->(WT P0 (fun e s=>e = .normal/\WT P0 (fun e s'=>e = .normal/\s'.defers=[]/\Weak ⟨owR,s'.heap,s'.next,[],0⟩ ⟨owR,owH p T1,3,[],0⟩) (exec ic s Tree.done)) (exec fC ⟨[(32,.d (.agg (ndL (owN p k)))),(31,.d (I (i:Int)))]++owR,owH p T0,3,[],3⟩ Tree.done))->
   WT P0 (fun e s=>e = .normal/\WT P0 (fun e s'=>e = .normal/\s'.defers=[]/\Weak ⟨owR,s'.heap,s'.next,[],0⟩ (owS p (k+1))) (exec ic s Tree.done)) (exec fC ⟨owP p k++owR,(owS p k).heap,(owS p k).next,[],(owS p k).next⟩ Tree.done):=by
  intro T0 T1 h0 h1 h;rw [<- h0,<- h1,<- hi] at h;exact h
 refine goal2 _ _ e0 e1 ?_;clear goal2 hB hO hBl hnext hx e0 e1;generalize owN p k=x at *;obtain ⟨xk,xn,xs,xt,xo⟩:=x;simp only at *;show WT P0 _ (exec fC ⟨[(32,.d (.agg [I xk,I xn,.str xs,.str xt,bN xo])),(31,.d (I (i:Int)))]++owR,owH p (O 0),3,[],3⟩ Tree.done)
 repeat refine aw ?_
 refine aS ⟨rfl,?_⟩
 repeat refine aw ?_
 refine dp xo.length (fun j:Nat=>⟨[(36,.d (I j)),(35,.d (I ((xo.map fun i=>[I i]).length:Nat))),(34,.d (bN xo)),(6,.d (I i)),(3,.ptr 2 0),(1,.ptr 0 0)],owH p (O j),3,[],3⟩) (fun _=>True) (by exact Uw.wM) (fun _=>?_) (fun j hj _=>?_)
 ·repeat refine aw ?_
  refine aJ ?_;refine aS ⟨rfl,rfl,?_⟩;exact Uw.wM
 have he:=hel j hj;have hs:=hstep j hj;have hbj:=hlt j hj;clear hstep hel hlt;generalize xo[j]=y at *;obtain ⟨u,v,g1,g2,g3⟩:=hs;obtain ⟨b1,b2⟩:=hbj
 repeat refine aw ?_
 exact aX j trivial (by exact Uw.wM)
theorem Q8 {c:Cx} {R:gw} {t:Array Value} {d:Nat} {v:V} {x:Value} (hr:mM c R t) (hd:d<t.size) (hv:aB c v x):mM c ((d,v)::R) (t.setIfInBounds d x):=by
 intro i u hu;rw [ai] at hu;by_cases hi:d=i
 ·subst hi
  rw [if_pos rfl] at hu;injection hu with hu;subst hu
  rw [abC,Array.getElem?_setIfInBounds_self_of_lt hd];exact hv
 ·rw [if_neg hi] at hu
  rw [abC,Array.getElem?_setIfInBounds_ne hi,<- abC];exact hr i u hu
theorem I6 (p:Pg) (hf:bO p=true) (hp:Lim p) {c1:Cx} {w00:World} {a:Act} {gs:Fr} {Bs:Nat} {C:Nat->Value} {OK:World->Prop} (hg:a.eval (.tmp 30) = .func (.func dJ) #[] #[.pointer (some ⟨Bs,0,none⟩)])
  (hgs:∀c:Cx,gs.p c->∀(i:Nat) (h:i<p.nodes.length),aI c.w (Imm c) (.agg (ndL p.nodes[i])) (.agg #[C (i * 5),C (i * 5+1),C (i * 5+2),C (i * 5+3),C (i * 5+4)]))
  (hOK:∀c:Cx,gs.p c->(∀b,c1.J0.X b->c.w.heap[b]? = c1.w.heap[b]?)->OK c.w)
  (hit:Iter P0 dJ #[.pointer (some ⟨Bs,0,none⟩)] (fun k=>#[.int .i64 ((p.nodes.length - 1 - k:Nat):Int),.agg #[C ((p.nodes.length - 1 - k) * 5),C ((p.nodes.length - 1 - k) * 5+1),C ((p.nodes.length - 1 - k) * 5+2),C ((p.nodes.length - 1 - k) * 5+3),C ((p.nodes.length - 1 - k) * 5+4)]]) p.nodes.length OK)
  (r:Rel c1 w00 49 gs (owS p 0) a) {Q:Exit->Act->World->Prop} (hdone:∀(c:Cx),c.B=c1.B->c.J0=(c1.others fun b=>b=c1.w.heap.size\/b=c1.w.heap.size+1).J0->Rel c c.w 49 gs (owS p p.nodes.length) a->Below c1.B c1.w c.w->c.w.heap[c1.w.heap.size]? = some (.deferred (some []))->
   Q .normal { a with defers:={ target:=.collected c1.w.heap.size,args:=#[] }::a.defers } c.w):(Code.rangeFunc (.tmp 30) #[31,32] (cL (cL (cR (cL (cR (cR (cR (iq P0 bH)))))))) (cR (cL (cR (cL (cR (cR (cR (iq P0 bH))))))))).wp P0 Q a c1.w:=by
 have hN:=hp.nodes;have hat:∀(k:Nat) (h:k<p.nodes.length),owN p k=p.nodes[p.nodes.length - 1 - k]'(by omega):=fun k h=>by rw [owN];simp [List.getD,show p.nodes.length - 1 - k<p.nodes.length by omega]
 refine PD hg (Go.Proofs.enters_of Go.Proofs.Tryz.func118 (by kernel_rfl) rfl) p.nodes.length _ (fun k=>rfl) owR 0 (owS p) (fun k=>⟨rfl,rfl,rfl⟩) r OK hOK hit wI wJ (by kernel_rfl) (by kernel_rfl) (owP p) ?_ ?_ hdone
 ·intro k c hk hgp hr
  have hsz:a.tmps.size=49:=r.size;have h1:aB c (.d (I ((p.nodes.length - 1 - k:Nat):Int))) (.int .i64 ((p.nodes.length - 1 - k:Nat):Int)):=by
   show aI _ _ _ _;simp only [aI]
  have h2:=hgs c hgp (p.nodes.length - 1 - k) (by omega);rw [<- hat k hk] at h2;have he:∀(x1 x2:Value),(#[31,32].zip #[x1,x2]).foldl (fun t ((p,v):Nat×Value)=>t.setIfInBounds p v) a.tmps=(a.tmps.setIfInBounds 31 x1).setIfInBounds 32 x2:=fun _ _=>by simp only [List.zip_toArray,List.foldl_toArray];rfl
  show mM c (owP p k++owR) ((#[31,32].zip #[_,_]).foldl (fun t ((p,v):Nat×Value)=>t.setIfInBounds p v) a.tmps);rw [he];exact Q8 (Q8 hr (show 31<a.tmps.size by omega) h1) (show 32<(a.tmps.setIfInBounds 31 _).size by simp;omega) (v:=.d (.agg (ndL (owN p k)))) h2
 ·intro k hk
  refine ZA p hp k hk ?_;rw [hat k hk];exact (lR hf _ (by omega)).1
theorem oy (p:Pg) (hf:bO p=true) (hp:Lim p):Ret P0 bH [pgD p] (bN (bD p)):=by
 have hN:=hp.nodes;refine MV zk (aaO rfl) ?_;rintro fn w J c a hres hB hJ rfl hd r;refine zz wE r _ (Zw p) ?_;intro c2 a2 b2 j2 r2;refine zz wF r2 _ (Zx p hN) ?_;intro c3 a3 b3 j3 r3;refine zz wG r3 _ (Zy p hp fun i h=>⟨(tz hf i h).1,(tz hf i h).2.1⟩) ?_;intro c4 a4 b4 j4 r4;refine wp_seq (zz wH r4 _ (Zz p _) ?_);intro c5 a5 b5 j5 r5;have hB5:c5.B=c.w.heap.size:=b5.trans (b4.trans (b3.trans (b2.trans hB)));have hJ5:c5.J0=⟨J,fun _=>False⟩:=j5.trans (j4.trans (j3.trans (j2.trans hJ)));have hd5:a5.defers=[]:=r5.defers
 -- the iterator's value,and its box
 obtain ⟨us,vs,hfv,hus,hvs⟩:=r5.regs 30 (.func dJ [] [.ptr 3 0]) rfl;obtain ⟨v,vs',rfl,⟨_,hv⟩,hvs'⟩:=hvs;simp only [ay] at hus hvs';subst hus hvs' hv;obtain ⟨ws,e,hbox,hbv⟩:=r5.hrel.blk 3 (.var [.d (cv p.nodes)]) (by rw [r5.heap];rfl);obtain ⟨sv,ws',hws,hsv,YM⟩:=hbv;simp only [ay] at YM;subst YM;have hws:ws = #[sv]:=by rw [<- Array.toList_inj];exact hws
 subst hws
 -- the box is forgotten,and nobody's from here on
 have hwk:yJ (dx []) ⟨[(30,.func dJ [] [.ptr 3 0]),(3,.ptr 2 0),(1,.ptr 0 0)],(3,.var [.d (cv p.nodes)])::owH p (fO (owF p p.ag.length)),4,[],0⟩ (owS p 0):=by
  refine yJ.of ?_ ?_ rfl rfl ?_ rfl rfl<;>repeat' first|exact trivial|refine ⟨⟨_,rfl,?_⟩,?_⟩|exact Or.inl ⟨rfl,rfl⟩|exact eh rfl rfl|refine ⟨⟨Or.inl ⟨_,rfl,?_⟩,rfl⟩,?_⟩|refine And.intro ?_ ?_
 obtain ⟨r6,hgb⟩:=r5.forget hwk (id0:=3) rfl rfl;have hBs:(c5.pl 3).gb<c5.w.heap.size:=(abL.1 hbox).1;have hBB:c5.B<=(c5.pl 3).gb:=by
  have:=r5.hrel.ge 3 (.var [.d (cv p.nodes)]) (by rw [r5.heap];rfl) trivial;exact aci fun h=>this (.inl h)
 have r7:=r6.others (fun b=>b=(c5.pl 3).gb) (fun b hb=>by subst hb;exact hBs) (fun b hb id blk hl hp=>by subst hb;exact hgb id blk hl hp);generalize hBe:(c5.pl 3).gb=Bs at *;obtain ⟨c7,hc7⟩:∃c7,c7=(c5.weak (dx []) (owS p 0).heap).others (fun b=>b=Bs):=⟨_,rfl⟩
 rw [<- hc7] at r7;have hw7:c7.w=c5.w:=by rw [hc7];rfl
 have hB7:c7.B=c.w.heap.size:=by rw [hc7];exact hB5
 have hJ7:c7.J0=⟨fun b o=>J b o\/b=Bs,fun b=>False\/b=Bs⟩:=by
  rw [hc7];show (⟨fun b o=>c5.J0.J b o\/b=Bs,fun b=>c5.J0.X b\/b=Bs⟩:JX)=_;rw [hJ5]
 have ZB:aI c7.w (Imm c7) (cv p.nodes) sv:=by
  have h1:aI c5.w (Imm c5) (cv p.nodes) sv:=hsv;have hk:Keeps c5.w c7.w (Imm c5) (Imm c7):=by
   intro b o hi;rw [hc7];have h2:=jB (c:=c5) (ρ:=dx []) (h':=(owS p 0).heap) (by rw [r5.heap];exact hwk.heap) b o hi;exact (Evo.others (c:=c5.weak (dx []) (owS p 0).heap) (fun b=>b=Bs)).keeps b o h2.1
  exact aI.keep hk _ _ h1
 have Vy:c7.w.heap[Bs]? = some (.cells #[sv] e (0,0)):=by rw [hw7];exact hbox
 rw [<- hw7];have hbel:Below c.w.heap.size c.w c7.w:=by
  have:=r5.hrel.below;rw [hB5] at this;rw [hw7];exact this
 have hfin:∀(gs:Fr) (cc:Cx),cc.B=c7.B->cc.J0=(c7.others fun b=>b=c7.w.heap.size\/b=c7.w.heap.size+1).J0->Rel cc cc.w 49 gs (owS p p.nodes.length) a5->Below c7.B c7.w cc.w->cc.w.heap[c7.w.heap.size]? = some (.deferred (some []))->
   Code.wp P0 (cR (cR (cR (cR (iq P0 bH))))) (bodyPostM Fence.wide 0 P0 fn (SV c.w J (bN (bD p)))) { a5 with defers:={ target:=.collected c7.w.heap.size,args:=#[] }::a5.defers } cc.w:=by
  intro gs cc e1 e2 r8 e3 e4;have hX:∀b,cc.J0.X b->c.w.heap.size<=b:=by
   intro b hb;rw [e2] at hb;have hs7:=hbel.size
   rcases hb with hb|hb|hb
   ·rw [hJ7] at hb
    rcases hb with hb|hb
    ·exact hb.elim
    ·rw [hb,<- hB5];exact hBB
   ·rw [hb];exact hs7
   ·rw [hb];omega
  refine WE hres wK r8 hd5 (e1.trans hB7) (by rw [e2];exact .inr (.inl rfl)) hX ?_ e4 (hbel.trans (by rw [hB7] at e3;exact e3)) ?_
  ·intro b o hb
   rw [e2] at hb ⊢
   rcases hb with hb|hb
   ·rw [hJ7] at hb
    rcases hb with hb|hb
    ·exact .inl hb
    ·exact .inr (.inl (by rw [hJ7];exact .inr hb))
   ·exact .inr (.inr hb)
  ·have hl:(List.drop 0 (fO (bD p))).take p.nodes.length=fO (bD p):=by
    rw [aa9,aaG (by rw [fO,aaT,fG];exact aax _)]
   rw [<- UI] at hl ⊢;show WT P0 (Fp _ (.slice 1 (fO (owK p p.nodes.length)) false)) (exec pf ⟨owR,owH p (fO (owK p p.nodes.length)),3,[],0⟩ Tree.done);generalize fO (owK p p.nodes.length)=O at *
   repeat refine aw ?_
   refine aC rfl rfl rfl rfl ?_;exact congrArg (fun l=>Dat.slice 1 l false) hl
 have hg:a5.eval (.tmp 30) = .func (.func dJ) #[] #[.pointer (some ⟨Bs,0,none⟩)]:=hfv;refine wp_block ?_
 rcases ZB with ⟨⟨x,hx,_⟩,hnil⟩|⟨b,off,cap,hx,hcap,_,hel⟩
 ·-- no nodes
  have hn0:p.nodes=[]:=by simpa using hnil
  refine I6 p hf hp (gs:=Fr.none) (C:=fun _=>undef) (OK:=fun W=>W.cell? ⟨Bs,0,none⟩=some (.slice x 0 0)) hg (fun c _ i h=>by rw [hn0] at h;simp at h) ?_ ?_ r7 ?_
  ·intro c' _ hX
   have:=hX Bs (by rw [hJ7];exact .inr rfl);rw [World.cell?_of_block this];unfold World.cell?;rw [Vy,hx];rfl
  ·intro l J' W hY Xr h0
   rw [hn0];exact Go.Proofs.Tryz.GG l Bs x J' Xr W h0
  ·intro cc e1 e2 r8 e3 e4
   exact hfin _ cc e1 e2 r8 e3 e4
 ·have hlen:(p.nodes.map ndL).length=p.nodes.length:=by simp
  have hat:m8 p.nodes b off (fun m=>(c7.w.cell? ⟨b,off+m,none⟩).getD undef) c7:=m8.of fun i h=>by
   have:=I4 hel i (by rw [hlen];exact h);simpa using this
  generalize (fun m=>(c7.w.cell? ⟨b,off+m,none⟩).getD undef)=C at hat;have r8:Rel c7 c5.w 49 (LI p.nodes b off C) (owS p 0) a5:=by
   rw [<- hw7];exact ⟨r7.heap,by rw [hw7];exact r7.hrel,r7.size,r7.regs,hat,abr _,r7.base,r7.defers⟩
  refine I6 p hf hp (gs:=LI p.nodes b off C) (C:=C) (OK:=fun W=>W.cell? ⟨Bs,0,none⟩=some (.slice (some ⟨b,off,none⟩) p.nodes.length cap)/\∀m,m<p.nodes.length * 5->W.cell? ⟨b,off+m,none⟩=some (C m)) hg (fun c h i hi=>m8.agg h i hi) ?_ ?_ r8 ?_
  ·intro c' hc' hX
   refine ⟨?_,fun m hm=>m8.cell hc' m hm⟩;have:=hX Bs (by rw [hJ7];exact .inr rfl);rw [World.cell?_of_block this];unfold World.cell?;rw [Vy,hx,hlen];rfl
  ·intro l J' W hY Xr h0
   exact Go.Proofs.Tryz.I3 l Bs b off p.nodes.length cap C (by omega) J' hY Xr W h0
  ·intro cc e1 e2 r9 e3 e4
   exact hfin _ cc e1 e2 r9 e3 e4
end Uw.Tryz
namespace Uw
open Go
mutual
theorem UJ:∀v:V,v.ren (dx [])=v
 | .ptr id o=>rfl
 | .nu id v i c=>rfl
 | .ref id v o l=>rfl
 | .agg cs=>by rw [V.ren,qG cs]
 | .func f fs cs=>by rw [V.ren,qG fs,qG cs]
 | .tuple cs=>by rw [V.ren,qG cs]
 | .d x=>rfl
 | .ro cs o=>rfl
 | .hnd id=>rfl
 | .row id len=>rfl
 | .undef=>rfl
theorem qG:∀l:List V,gk (dx []) l=l
 | []=>rfl
 | v::r=>by rw [gk,UJ v,qG r]
end
section
variable [Glob]
theorem Weak.looks {R R' : gw} {H H' : Heap} {n n' b:Nat} (h1:pI (dx []) R H H' R') (h2:∀id x,look H' id=some x->look H id=some x/\x.closed H' = true/\id<n') (h3:b<=n') (h4:∀id,id<b->(look H id).isSome=true->(look H' id).isSome=true):Weak ⟨R,H,n,[],b⟩ ⟨R',H',n',[],b⟩:=by
 refine ⟨dx [],fun i v h=>kN h1 i v h,fun i x h=>.inl ⟨x,(h2 i x h).1,eh ?_ (h2 i x h).2.1⟩,fun i x h=>(h2 i x h).2.2,rfl,h3,fun id hid=>⟨rfl,h4 id hid⟩,fun id id' _ _ he=>he,rfl,rfl⟩
 cases x with
 | var cs=>show Blk.var cs=Blk.var (gk (dx []) cs);rw [qG]
 | _=>rfl
theorem f1 {P:Program} {Q:aG->St->Prop} {t t' : Tree} (hgo' : WT P Q t') (h:WT P Q t'->WT P Q t:=by
  first
  | (show _->WT _ _ (Tree.Dm _ _)
     first
     | exact zy _ (by assumption)
     | exact zy _ rfl)
  | (show _->WT _ _ (Tree.blk _ _)
     first
     | exact lY _ (by assumption)
     | exact lY _ rfl)):WT P Q t:=h hgo'
end
end Uw
namespace Uw.Tryz
open Go Uw
abbrev rowT (l:List Str):List (List Dat):=l.map fun s=>[.str s]
def kp (rid mid:Nat->Nat):Nat->List (List Str)->List MS->Heap
 | i,l::ls,m::ms=>(if l=[] then [] else [(rid i,Blk.arr 1 (rowT l))])++(mid i,Blk.map none m)::kp rid mid (i+1) ls ms
 | _,_,_=>[]
structure Q9 (rid mid:Nat->Nat) (n:Nat):Prop where
 rr:∀i j,i<n->j<n->rid i=rid j->i=j
 mm:∀i j,i<n->j<n->mid i=mid j->i=j
 rm:∀i j,i<n->j<n->rid i≠mid j
theorem lS {h g:Heap} {id:Nat}:look (h++g) id=match look h id with|some b=>some b|none=>look g id:=by
 induction h with
 | nil=>rfl
 | cons p h ih=>
  obtain ⟨j,x⟩:=p;rw [aaE,ai,ai];by_cases hj:j=id
  ·rw [if_pos hj,if_pos hj]
  ·rw [if_neg hj,if_neg hj,ih]
theorem xr {rid mid:Nat->Nat}:∀{ls:List (List Str)} {ms:List MS} {i id:Nat} {b:Blk},look (kp rid mid i ls ms) id=some b->
  (∃k m,k<ls.length/\k<ms.length/\ms[k]? = some m/\id=mid (i+k)/\b = .map none m)\/(∃k l,k<ls.length/\k<ms.length/\ls[k]? = some l/\l≠[]/\id=rid (i+k)/\b = .arr 1 (rowT l))
 | [],_,i,id,b,h=>by simp [kp,look] at h
 | l::ls,[],i,id,b,h=>by simp [kp,look] at h
 | l::ls,m::ms,i,id,b,h=>by
  rw [kp] at h;by_cases hl:l=[]
  ·rw [if_pos hl,acd] at h
   have h:look ((mid i,Blk.map none m)::kp rid mid (i+1) ls ms) id=some b:=h;rw [ai] at h;by_cases hm:mid i=id
   ·rw [if_pos hm] at h;injection h with h
    exact .inl ⟨0,m,by simp,by simp,rfl,hm.symm,h.symm⟩
   ·rw [if_neg hm] at h
    rcases xr h with ⟨k,m',h1,h2,h3,h4,h5⟩|⟨k,l',h1,h2,h3,h4,h5,h6⟩
    ·exact .inl ⟨k+1,m',by simpa using h1,by simpa using h2,by simpa using h3,by rw [h4];congr 1;omega,h5⟩
    ·exact .inr ⟨k+1,l',by simpa using h1,by simpa using h2,by simpa using h3,h4,by rw [h5];congr 1;omega,h6⟩
  ·rw [if_neg hl,aaE,acd,ai] at h
   by_cases hr:rid i=id
   ·rw [if_pos hr] at h;injection h with h
    exact .inr ⟨0,l,by simp,by simp,rfl,hl,hr.symm,h.symm⟩
   ·rw [if_neg hr] at h
    have h:look ((mid i,Blk.map none m)::kp rid mid (i+1) ls ms) id=some b:=h;rw [ai] at h;by_cases hm:mid i=id
    ·rw [if_pos hm] at h;injection h with h
     exact .inl ⟨0,m,by simp,by simp,rfl,hm.symm,h.symm⟩
    ·rw [if_neg hm] at h
     rcases xr h with ⟨k,m',h1,h2,h3,h4,h5⟩|⟨k,l',h1,h2,h3,h4,h5,h6⟩
     ·exact .inl ⟨k+1,m',by simpa using h1,by simpa using h2,by simpa using h3,by rw [h4];congr 1;omega,h5⟩
     ·exact .inr ⟨k+1,l',by simpa using h1,by simpa using h2,by simpa using h3,h4,by rw [h5];congr 1;omega,h6⟩
theorem rz {rid mid:Nat->Nat} {n:Nat} (hI:Q9 rid mid n):∀{ls:List (List Str)} {ms:List MS} {i k:Nat} {m:MS},i+ls.length<=n->k<ls.length->ms[k]? = some m->look (kp rid mid i ls ms) (mid (i+k))=some (.map none m)
 | [],ms,i,k,m,_,hk,_=>by simp at hk
 | l::ls,[],i,k,m,_,_,h=>by simp at h
 | l::ls,m0::ms,i,k,m,hn,hk,h=>by
  simp at hn hk;have h1:∀(y:Heap),look ((if l=[] then [] else [(rid i,Blk.arr 1 (rowT l))])++y) (mid (i+k))=look y (mid (i+k)):=by
   intro y
   split
   ·rfl
   ·rw [aaE,ai,if_neg (hI.rm i (i+k) (by omega) (by omega))];rfl
  rw [kp,h1,ai]
  cases k with
  | zero=>rw [if_pos (show mid i=mid (i+0) from rfl)];simp at h;rw [h]
  | succ k=>
   rw [if_neg (fun e=>by have:=hI.mm _ _ (by omega) (by omega) e;omega),show i+(k+1)=i+1+k by omega];exact rz hI (by omega) (by omega) (by simpa using h)
theorem xu {rid mid:Nat->Nat} {n:Nat} (hI:Q9 rid mid n):∀{ls:List (List Str)} {ms:List MS} {i k:Nat} {l:List Str},i+ls.length<=n->k<ms.length->ls[k]? = some l->l≠[]->look (kp rid mid i ls ms) (rid (i+k))=some (.arr 1 (rowT l))
 | [],ms,i,k,l,_,_,h,_=>by simp at h
 | l0::ls,[],i,k,l,_,hk,_,_=>by simp at hk
 | l0::ls,m0::ms,i,k,l,hn,hk,h,hl=>by
  simp at hn hk;have hkl:k<(l0::ls).length:=by
   rcases aa2 k (l0::ls).length with g|g
   ·exact g
   ·rw [aaJ g] at h;cases h
  simp at hkl;rw [kp]
  cases k with
  | zero=>
   simp at h;subst h;rw [if_neg hl,aaE,ai,if_pos (by simp)]
  | succ k=>
   have h1:∀(y:Heap),look ((if l0=[] then [] else [(rid i,Blk.arr 1 (rowT l0))])++y) (rid (i+(k+1)))=look y (rid (i+(k+1))):=by
    intro y
    split
    ·rfl
    ·rw [aaE,ai,if_neg (fun e=>by have:=hI.rr _ _ (by omega) (by omega) e;omega)];rfl
   rw [h1,ai,if_neg (fun e=>hI.rm (i+(k+1)) i (by omega) (by omega) e.symm),show i+(k+1)=i+1+k by omega];exact xu hI (by omega) (by omega) (by simpa using h) hl
def cE (rid:Nat->Nat):Nat->List (List Str)->List V
 | _,[]=>[]
 | i,l::ls=>(if l=[] then V.d (.slice 1 [] true) else .ref (rid i) 0 0 l.length)::cE rid (i+1) ls
def cg (mid:Nat->Nat):Nat->Nat->List V
 | _,0=>[]
 | i,n+1=>.hnd (mid i)::cg mid (i+1) n
theorem eZ (rid:Nat->Nat):∀(ls:List (List Str)) (i:Nat),(cE rid i ls).length=ls.length
 | [],_=>rfl
 | l::ls,i=>by rw [cE,aaA,eZ rid ls,aaA]
theorem dz (mid:Nat->Nat):∀(n i:Nat),(cg mid i n).length=n
 | 0,_=>rfl
 | n+1,i=>by rw [cg,aaA,dz mid n]
theorem lh (rid:Nat->Nat):∀(ls:List (List Str)) (i k:Nat) (l:List Str),ls[k]? = some l->(cE rid i ls)[k]? = some (if l=[] then V.d (.slice 1 [] true) else .ref (rid (i+k)) 0 0 l.length)
 | [],i,k,l,h=>by simp at h
 | l0::ls,i,0,l,h=>by simp at h;subst h;rfl
 | l0::ls,i,k+1,l,h=>by
  rw [cE,abJ,lh rid ls (i+1) k l (by simpa using h),show i+1+k=i+(k+1) by omega]
theorem li (mid:Nat->Nat):∀(n i k:Nat),k<n->(cg mid i n)[k]? = some (.hnd (mid (i+k)))
 | 0,i,k,h=>by omega
 | n+1,i,0,h=>rfl
 | n+1,i,k+1,h=>by rw [cg,abJ,li mid n (i+1) k (by omega),show i+1+k=i+(k+1) by omega]
theorem vH (rid:Nat->Nat):∀(ls:List (List Str)) (l:List Str) (i:Nat),cE rid i (ls++[l])=cE rid i ls++[if l=[] then V.d (.slice 1 [] true) else .ref (rid (i+ls.length)) 0 0 l.length]
 | [],l,i=>rfl
 | l0::ls,l,i=>by rw [aaE,cE,cE,vH rid ls,aaE,aaA,show i+1+ls.length=i+(ls.length+1) by omega]
theorem vI (mid:Nat->Nat):∀(n i:Nat),cg mid i (n+1)=cg mid i n++[.hnd (mid (i+n))]
 | 0,i=>rfl
 | n+1,i=>by rw [cg,vI mid n,cg,aaE,show i+1+n=i+(n+1) by omega]
theorem yY {rid UK : Nat->Nat}:∀(ls:List (List Str)) (i:Nat),(∀k l,ls[k]? = some l->l≠[]->rid (i+k)=UK (i+k))->cE rid i ls=cE UK i ls
 | [],_,_=>rfl
 | l::ls,i,h=>by
  have ih:cE rid (i+1) ls=cE UK (i+1) ls:=yY ls (i+1) fun k l' hk hl=>by
   have:=h (k+1) l' (by simpa using hk) hl
   rwa [show i+(k+1)=i+1+k by omega] at this
  rw [cE,cE,ih];by_cases hl:l=[]
  ·rw [if_pos hl,if_pos hl]
  ·rw [if_neg hl,if_neg hl,show rid i=UK i from h 0 l rfl hl]
theorem pv {mid mid' : Nat->Nat}:∀(n i:Nat),(∀k,k<n->mid (i+k)=mid' (i+k))->cg mid i n=cg mid' i n
 | 0,_,_=>rfl
 | n+1,i,h=>by
  have ih:cg mid (i+1) n=cg mid' (i+1) n:=pv n (i+1) fun k hk=>by
   have:=h (k+1) (by omega)
   rwa [show i+(k+1)=i+1+k by omega] at this
  rw [cg,cg,show mid i=mid' i from h 0 (by omega),ih]
end Uw.Tryz
namespace Uw
open Go
section
variable [Glob]
theorem Weak.Rb (ρ:Nat->Nat) {R R' : gw} {H H' : Heap} {n n' : Nat} (h1:pI ρ R H H' R') (h2:∀id x,look H' id=some x->(∃y,look H (ρ id)=some y/\oH ρ H H' y x)/\id<n')
  (h3:∀id id',(look H' id).isSome=true->(look H' id').isSome=true->ρ id=ρ id'->id=id'):Weak ⟨R,H,n,[],0⟩ ⟨R',H',n',[],0⟩:=
 ⟨ρ,fun i v h=>kN h1 i v h,fun i x h=>.inl (h2 i x h).1,fun i x h=>(h2 i x h).2,rfl,abr _,fun id hid=>absurd hid (ab9 _),h3,rfl,rfl⟩
end
end Uw
namespace Uw.Tryz
open Go Uw
def cG (l:List Str):MS:=l.foldl (fun es s=>dQ es (.s s) (.bool true)) []
theorem rA (l:List Str) (s:Str):cG (l++[s])=dQ (cG l) (.s s) (.bool true):=by rw [cG,ab2];rfl
theorem I7:∀(l:List Str) (es:MS) (s:Str),bh (l.foldl (fun es s=>dQ es (.s s) (.bool true)) es) (.s s)=if s∈l then some (.bool true) else bh es (.s s)
 | [],es,s=>by simp
 | a::l,es,s=>by
  rw [abQ,I7 l,gi];by_cases h:s∈l
  ·rw [if_pos h,if_pos (by simp [h])]
  ·rw [if_neg h]
   by_cases ha:s=a
   ·subst ha;simp
   ·simp [ha,h]
theorem t6 (l:List Str) (s:Str):bh (cG l) (.s s)=if s∈l then some (.bool true) else none:=I7 l [] s
def rid (i:Nat):Nat:=4+2 * i
def mid (i:Nat):Nat:=5+2 * i
theorem yt (n:Nat):Q9 rid mid n:=⟨fun i j _ _ h=>by simp [rid] at h;omega,fun i j _ _ h=>by simp [mid] at h;omega,fun i j _ _ h=>by simp [rid,mid] at h;omega⟩
abbrev cY (ls:List (List Str)) (ms:List MS):Heap:=kp rid mid 0 ls ms
theorem gj {ls:List (List Str)} {ms:List MS} {id:Nat} {b:Blk} (h:look (cY ls ms) id=some b):4<=id/\id<4+2 * ls.length/\(∀H:Heap,b.closed H=true)/\∀ρ:Nat->Nat,b.ren ρ=b:=by
 rcases xr h with ⟨k,m,h1,_,_,rfl,rfl⟩|⟨k,l,h1,_,_,_,rfl,rfl⟩
 ·exact ⟨by simp [mid];omega,by simp [mid];omega,fun _=>rfl,fun _=>rfl⟩
 ·exact ⟨by simp [rid],by simp [rid];omega,fun _=>rfl,fun _=>rfl⟩
abbrev loH (p:Pg) (rv mv:List V) (fam:Heap):Heap:=(2,.var rv)::(3,.var mv)::(1,.map none (thE p.decls))::(0,pgV p)::fam
theorem LL {p:Pg} {rv mv:List V} {fam:Heap} {id:Nat} (h:4<=id):look (loH p rv mv fam) id=look fam id:=by
 rw [ai,if_neg (by omega),ai,if_neg (by omega),ai,if_neg (by omega),ai,if_neg (by omega)]
theorem t7 {p:Pg} {rv mv:List V} {fam:Heap} {id:Nat} {b:Blk} (h:look (loH p rv mv fam) id=some b):(id=2/\b = .var rv)\/(id=3/\b = .var mv)\/(id=1/\b = .map none (thE p.decls))\/(id=0/\b=pgV p)\/look fam id=some b:=by
 rw [ai] at h;by_cases h2:2=id
 ·rw [if_pos h2] at h;injection h with h;exact .inl ⟨h2.symm,h.symm⟩
 rw [if_neg h2,ai] at h;by_cases h3:3=id
 ·rw [if_pos h3] at h;injection h with h;exact .inr (.inl ⟨h3.symm,h.symm⟩)
 rw [if_neg h3,ai] at h;by_cases h1:1=id
 ·rw [if_pos h1] at h;injection h with h;exact .inr (.inr (.inl ⟨h1.symm,h.symm⟩))
 rw [if_neg h1,ai] at h;by_cases h0:0=id
 ·rw [if_pos h0] at h;injection h with h;exact .inr (.inr (.inr (.inl ⟨h0.symm,h.symm⟩)))
 rw [if_neg h0] at h;exact .inr (.inr (.inr (.inr h)))
theorem d6 {H:Heap}:∀{l:List V},cQ H l=true<->∀v∈l,v.closed H=true
 | []=>by simp [cQ]
 | v::l=>by simp [cQ,d6]
theorem px {p:Pg} {ls:List (List Str)} {ms:List MS} {rv mv:List V} {r:Nat} (hms:ms.length=ls.length):cQ (loH p rv mv (cY ls ms)) (cE rid 0 ls++List.replicate r (.d .nil))=true:=by
 rw [d6];intro v hv
 rcases aaZ.1 hv with hv|hv
 ·obtain ⟨k,hk⟩:=abW.1 hv
  have hkl:k<ls.length:=by
   rcases aa2 k ls.length with h|h
   ·exact h
   ·rw [aaJ (by rw [eZ];exact h)] at hk;cases hk
  rw [lh rid ls 0 k ls[k] (by simp [hkl])] at hk;injection hk with hk
  subst hk
  split
  ·rfl
  ·rename_i hne
   have:=xu (rid:=rid) (mid:=mid) (yt ls.length) (ls:=ls) (ms:=ms) (i:=0) (k:=k) (l:=ls[k]) (by omega) (by omega) (by simp [hkl]) hne;show (look _ _).isSome=true;rw [LL (by simp [rid])];show (look (kp rid mid 0 ls ms) _).isSome=true;rw [this];rfl
 ·rw [abN] at hv
  rw [hv.2];rfl
theorem pz {p:Pg} {ls:List (List Str)} {ms:List MS} {rv mv:List V} {r n:Nat} (hms:ms.length=ls.length) (hn:n=ls.length):cQ (loH p rv mv (cY ls ms)) (cg mid 0 n++List.replicate r (.d .bg))=true:=by
 subst hn;rw [d6];intro v hv
 rcases aaZ.1 hv with hv|hv
 ·obtain ⟨k,hk⟩:=abW.1 hv
  have hkl:k<ls.length:=by
   rcases aa2 k ls.length with h|h
   ·exact h
   ·rw [aaJ (by rw [dz];exact h)] at hk;cases hk
  rw [li mid ls.length 0 k hkl] at hk;injection hk with hk
  subst hk;have:=rz (rid:=rid) (mid:=mid) (yt ls.length) (ls:=ls) (ms:=ms) (i:=0) (k:=k) (m:=ms[k]) (by omega) (by omega) (by simp [show k<ms.length by omega]);show (look _ _).isSome=true;rw [LL (by simp [mid];omega)];show (look (kp rid mid 0 ls ms) _).isSome=true;rw [this];rfl
 ·rw [abN] at hv
  rw [hv.2];rfl
theorem GI {p:Pg} {ls:List (List Str)} {ms:List MS} {R R' : gw} {H:Heap} {r r' n:Nat} (hms:ms.length=ls.length) (hl:ls.length<100000) (h1:pI (dx []) R H (loH p (cE rid 0 ls++List.replicate r (.d .nil)) (cg mid 0 ls.length++List.replicate r' (.d .bg)) (cY ls ms)) R')
  (e2:look H 2=some (.var (cE rid 0 ls++List.replicate r (.d .nil)))) (e3:look H 3=some (.var (cg mid 0 ls.length++List.replicate r' (.d .bg)))) (e1:look H 1=some (.map none (thE p.decls))) (e0:look H 0=some (pgV p))
  (hf:∀id x,look (cY ls ms) id=some x->look H id=some x):Weak ⟨R,H,n,[],0⟩ ⟨R',loH p (cE rid 0 ls++List.replicate r (.d .nil)) (cg mid 0 ls.length++List.replicate r' (.d .bg)) (cY ls ms),1000000,[],0⟩:=by
 refine Weak.looks h1 ?_ (abr _) (fun id h=>absurd h (ab9 _));intro id x hx
 rcases t7 hx with ⟨rfl,rfl⟩|⟨rfl,rfl⟩|⟨rfl,rfl⟩|⟨rfl,rfl⟩|hx
 ·exact ⟨e2,px hms,by omega⟩
 ·exact ⟨e3,pz hms rfl,by omega⟩
 ·exact ⟨e1,rfl,by omega⟩
 ·exact ⟨e0,rfl,by omega⟩
 ·obtain ⟨g1,g2,g3,_⟩:=gj hx
  exact ⟨hf _ _ hx,g3 _,by omega⟩
end Uw.Tryz
namespace Uw.Tryz
open Go Uw
def kq (l:List Dec) (k:Int):Nat:=l.countP fun d=>decide (d.kind=k)
end Uw.Tryz
namespace Uw.Tryz
open Go Uw
structure In4 where
 op:Int
 a:Int
 b:Int
 c:Int
 deriving DecidableEq,Inhabited
def in4 (i:In4):List Dat:=[I i.op,I i.a,I i.b,I i.c]
structure Nms where
 things:Str->Option (Int×Int)
 ag:Str->Int
 helps:Str->Int
 BM:Str->Option Int
def BU (s:Str):Int:=if s=QV then 1 else if s=QX then 2 else if s=QW then 3 else if s=IP then 4 else if s=QY then 5 else if s=IQ then 6 else if s=IR then 7 else 0
def Kp (N:Nms) (s:Str):Int:=(N.BM s).getD (-1)
def LM (N:Nms) (s:Str):Int:=if s=[] then -1 else Kp N s
def ku (N:Nms) (x:Nd):List In4:=
 if x.kind=1 then [⟨1,x.n,0,0⟩]
 else if x.kind=2 then [match N.things x.name with|some t=>⟨4,t.2,0,0⟩|none=>⟨2,Kp N x.name,0,0⟩]
 else if 3<=x.kind/\x.kind<=7 then [⟨x.kind+3,0,0,0⟩]
 else if x.kind=8 then [⟨11,BU x.name2,((N.things x.name).getD (0,0)).2,(x.of.length:Nat)⟩]
 else if x.kind=9 then [match N.things x.name with|some t=>⟨5,t.2,0,0⟩|none=>⟨3,Kp N x.name,0,0⟩]
 else if x.kind=10 then [⟨13,N.ag x.name2,(x.of.length:Nat),LM N x.name⟩]
 else if x.kind=11 then [⟨13,N.helps x.name2,2,LM N x.name⟩]
 else if x.kind=12 then [⟨14,0,0,0⟩]
 else if x.kind=15 then [⟨17,0,0,0⟩]
 else if x.kind=16 then [⟨18,0,0,0⟩]
 else if x.kind=17 then [⟨12,0,0,0⟩]
 else []
def layAll (g:Int->Nat->List In4):List Int->Nat->List In4
 | [],_=>[]
 | k::r,at_=>g k at_++layAll g r (at_+(g k at_).length)
def lT (ns:List Nd) (N:Nms):Nat->Int->Nat->List In4
 | 0,_,_=>[]
 | f+1,k,at_=>
  let x:=ns.getD k.toNat default
  if x.kind=13 then
   let t:=lT ns N f (x.of.getD 0 0) at_
   let b:=lT ns N f (x.of.getD 1 0) (at_+t.length+1)
   if x.of.length<3 then t++⟨16,(at_+t.length+1+b.length:Nat),0,0⟩::b
   else
    let o:=lT ns N f (x.of.getD 2 0) (at_+t.length+1+b.length+1)
    t++⟨16,(at_+t.length+1+b.length+1:Nat),0,0⟩::(b++⟨15,(at_+t.length+1+b.length+1+o.length:Nat),0,0⟩::o)
  else if x.kind=14 then
   let t:=lT ns N f (x.of.getD 0 0) at_
   let b:=lT ns N f (x.of.getD 1 0) (at_+t.length+1)
   t++⟨16,(at_+t.length+1+b.length+1:Nat),0,0⟩::(b++[⟨15,(at_:Nat),0,0⟩])
  else layAll (lT ns N f) x.of at_++ku N x
def Rf (p:Pg) (s:Str):Nat:=match p.decls.findIdx? fun d=>decide (d.name=s) with
 | some i=>kq (p.decls.take i) ((bY p s).getD 0)
 | none=>0
def gX:List Nd->List Str->List Str
 | [],l=>l
 | x::r,l=>gX r (if x.kind=11/\x.name2∉l then l++[x.name2] else l)
def dA (p:Pg):List Str:=gX p.nodes []
def uF (l:List Str) (s:Str):Option Int:=(l.findIdx? fun t=>decide (t=s)).map fun (i:Nat)=>(i:Int)
def Kq (p:Pg) (f:Nat):Nms:=⟨fun s=>(bY p s).map fun k=>(k,(Rf p s:Nat)),fun s=>((eY p s).getD 0:Nat),fun s=>match uF (dA p) s with|some i=>(p.ag.length:Nat)+i|none=>0,fun s=>uF ((ak p).getD f []) s⟩
structure Bd where
 args:Int
 locals:Int
 ins:List In4
 deriving DecidableEq,Inhabited
def bdC (b:Bd):List Dat:=[I b.args,I b.locals,.slice 4 (b.ins.map in4) false]
structure Cd where
 ag:List Bd
 cells:List Int
 maps:Int
 stacks:Int
 chans:Int
 main:Int
 deriving DecidableEq,Inhabited
def cdD (c:Cd):Dat:=.agg [.slice 3 (c.ag.map bdC) false,bN c.cells,I c.maps,I c.stacks,I c.chans,I c.main]
def jc (p:Pg) (f:Nat) (g:Fu):Bd:=⟨(g.args.length:Nat),(((ak p).getD f []).length:Nat),lT p.nodes (Kq p f) p.nodes.length g.body 0++[⟨1,0,0,0⟩,⟨17,0,0,0⟩]⟩
def yZ (f own:Int):Bd:=⟨2,5,[⟨2,0,0,0⟩,⟨2,1,0,0⟩,⟨9,0,0,0⟩,⟨16,28,0,0⟩,⟨2,0,0,0⟩,⟨1,1,0,0⟩,⟨6,0,0,0⟩,⟨2,1,0,0⟩,⟨10,0,0,0⟩,⟨16,14,0,0⟩,⟨2,0,0,0⟩,⟨13,f,1,3⟩,⟨2,3,0,0⟩,⟨17,0,0,0⟩,⟨2,0,0,0⟩,⟨2,1,0,0⟩,⟨19,0,0,0⟩,⟨3,2,0,0⟩,⟨2,0,0,0⟩,⟨2,2,0,0⟩,⟨13,own,2,3⟩,⟨2,2,0,0⟩,⟨2,1,0,0⟩,⟨13,own,2,4⟩,⟨2,3,0,0⟩,⟨2,4,0,0⟩,⟨6,0,0,0⟩,⟨17,0,0,0⟩,⟨1,0,0,0⟩,⟨17,0,0,0⟩]⟩
def ii (p:Pg):Nat->List Fu->List Bd
 | _,[]=>[]
 | i,g::r=>jc p i g::ii p (i+1) r
def lj (p:Pg):Nat->List Str->List Bd
 | _,[]=>[]
 | i,s::r=>yZ ((eY p s).getD 0:Nat) (i:Nat)::lj p (i+1) r
def Kr (p:Pg):List Int:=(p.decls.filter fun d=>decide (d.kind=0)).map (·.n)
def LN (p:Pg):Cd:=⟨ii p 0 p.ag++lj p p.ag.length (dA p),Kr p,(kq p.decls 1:Nat),(kq p.decls 2:Nat),(kq p.decls 3:Nat),((eY p iJ).getD 0:Nat)⟩
def DL:Cd:=⟨[],[],0,0,0,0⟩
def ofP (p:Pg):Cd×Int:=if pT p≠0 then (DL,pT p) else if (ii p 0 p.ag).any fun b=>decide (400<b.ins.length) then (DL,2) else (LN p,0)
end Uw.Tryz
namespace Uw.Tryz
open Go Uw
theorem rB {g g' : Int->Nat->List In4}:∀(l:List Int) (a:Nat),(∀k∈l,∀a,g k a=g' k a)->layAll g l a=layAll g' l a
 | [],_,_=>rfl
 | k::r,a,h=>by
  rw [layAll,layAll,h k (by simp),rB r _ fun k hk=>h k (by simp [hk])]
structure Lays (ns:List Nd):Prop where
 low:∀(i:Nat) (h:i<ns.length),∀k∈ns[i].of,0<=k/\k<(i:Int)
 ifs:∀(i:Nat) (h:i<ns.length),ns[i].kind=13->ns[i].of.length=2\/ns[i].of.length=3
 GK:∀(i:Nat) (h:i<ns.length),ns[i].kind=14->ns[i].of.length=2
theorem y5 {p:Pg} (h:bO p=true):Lays p.nodes:=by
 refine ⟨fun i hi=>(lR h i hi).1,fun i hi hk=>?_,fun i hi hk=>?_⟩
 ·have:=(lR h i hi).2
  have hl:(dO p.nodes p.nodes[i]).length=p.nodes[i].of.length:=by simp [dO]
  rw [fS,hk] at this;generalize dO p.nodes p.nodes[i]=so at *;have:so=[1,3]\/so=[1,3,3]:=by simpa [ru] using this
  rcases this with rfl|rfl
  ·exact .inl hl.symm
  ·exact .inr hl.symm
 ·have:=(lR h i hi).2
  have hl:(dO p.nodes p.nodes[i]).length=p.nodes[i].of.length:=by simp [dO]
  rw [fS,hk] at this;generalize dO p.nodes p.nodes[i]=so at *;have:so=[1,3]:=by simpa [ru] using this
  subst this;exact hl.symm
theorem getD_mem {l:List Int} {i:Nat} (h:i<l.length):l.getD i 0∈l:=by
 rw [List.getD,aaU h];exact aaQ h
theorem BV {ns:List Nd} (N:Nms) (h:Lays ns) (k:Nat):k<ns.length->∀(f a:Nat),k<f->lT ns N f (k:Int) a=lT ns N (k+1) (k:Int) a:=by
 induction k using Nat.strongRecOn with
 | ind k ih=>
  intro hk f a hf;obtain ⟨f,rfl⟩:∃g,f=g+1:=⟨f - 1,by omega⟩
  have hx:ns.getD (k:Int).toNat default=ns[k]:=by simp [List.getD,hk]
  have hc:∀c∈ns[k].of,∀a,lT ns N f c a=lT ns N k c a:=fun c hcm a=>by
   obtain ⟨h1,h2⟩:=h.low k hk c hcm;obtain ⟨m,rfl⟩:∃m:Nat,c=(m:Int):=⟨c.toNat,by omega⟩
   rw [ih m (by omega) (by omega) f a (by omega),ih m (by omega) (by omega) k a (by omega)]
  have h13:=h.ifs k hk;have h14:=h.GK k hk;rw [lT,lT,hx];generalize ns[k]=x at *;by_cases k13:x.kind=13
  ·have h13:=h13 k13
   simp only [if_pos k13];rw [hc _ (getD_mem (by omega))];simp only [hc _ (getD_mem (show 1<x.of.length by omega))];by_cases h3:x.of.length<3
   ·rw [if_pos h3,if_pos h3]
   ·rw [if_neg h3,if_neg h3]
    simp only [hc _ (getD_mem (show 2<x.of.length by omega))]
  ·simp only [if_neg k13]
   by_cases k14:x.kind=14
   ·have h14:=h14 k14
    simp only [if_pos k14];rw [hc _ (getD_mem (by omega))];simp only [hc _ (getD_mem (show 1<x.of.length by omega))]
   ·simp only [if_neg k14]
    rw [rB _ _ hc]
def lay (ns:List Nd) (N:Nms) (k:Int) (a:Nat):List In4:=lT ns N ns.length k a
theorem Rh {ns:List Nd} (N:Nms) (h:Lays ns) (k:Nat) (hk:k<ns.length) (a:Nat):lay ns N k a =
  if ns[k].kind=13 then
   if ns[k].of.length<3 then lay ns N (ns[k].of.getD 0 0) a++⟨16,(a+(lay ns N (ns[k].of.getD 0 0) a).length+1+(lay ns N (ns[k].of.getD 1 0) (a+(lay ns N (ns[k].of.getD 0 0) a).length+1)).length:Nat),0,0⟩::lay ns N (ns[k].of.getD 1 0) (a+(lay ns N (ns[k].of.getD 0 0) a).length+1)
   else lay ns N (ns[k].of.getD 0 0) a++⟨16,(a+(lay ns N (ns[k].of.getD 0 0) a).length+1+(lay ns N (ns[k].of.getD 1 0) (a+(lay ns N (ns[k].of.getD 0 0) a).length+1)).length+1:Nat),0,0⟩::(lay ns N (ns[k].of.getD 1 0) (a+(lay ns N (ns[k].of.getD 0 0) a).length+1)++⟨15,(a+(lay ns N (ns[k].of.getD 0 0) a).length+1+(lay ns N (ns[k].of.getD 1 0) (a+(lay ns N (ns[k].of.getD 0 0) a).length+1)).length+1+(lay ns N (ns[k].of.getD 2 0) (a+(lay ns N (ns[k].of.getD 0 0) a).length+1+(lay ns N (ns[k].of.getD 1 0) (a+(lay ns N (ns[k].of.getD 0 0) a).length+1)).length+1)).length:Nat),0,0⟩::lay ns N (ns[k].of.getD 2 0) (a+(lay ns N (ns[k].of.getD 0 0) a).length+1+(lay ns N (ns[k].of.getD 1 0) (a+(lay ns N (ns[k].of.getD 0 0) a).length+1)).length+1))
  else if ns[k].kind=14 then lay ns N (ns[k].of.getD 0 0) a++⟨16,(a+(lay ns N (ns[k].of.getD 0 0) a).length+1+(lay ns N (ns[k].of.getD 1 0) (a+(lay ns N (ns[k].of.getD 0 0) a).length+1)).length+1:Nat),0,0⟩::(lay ns N (ns[k].of.getD 1 0) (a+(lay ns N (ns[k].of.getD 0 0) a).length+1)++[⟨15,(a:Nat),0,0⟩])
  else layAll (lay ns N) ns[k].of a++ku N ns[k]:=by
 have hx:ns.getD (k:Int).toNat default=ns[k]:=by simp [List.getD,hk]
 have hc:∀c∈ns[k].of,∀a,lT ns N k c a=lay ns N c a:=fun c hcm a=>by
  obtain ⟨h1,h2⟩:=h.low k hk c hcm;obtain ⟨m,rfl⟩:∃m:Nat,c=(m:Int):=⟨c.toNat,by omega⟩
  rw [lay,BV N h m (by omega) ns.length a (by omega),BV N h m (by omega) k a (by omega)]
 have h13:=h.ifs k hk;have h14:=h.GK k hk;rw [lay,BV N h k hk _ _ hk,lT,hx];generalize ns[k]=x at *;by_cases k13:x.kind=13
 ·have h13:=h13 k13
  simp only [if_pos k13];rw [hc _ (getD_mem (by omega))];simp only [hc _ (getD_mem (show 1<x.of.length by omega))];by_cases h3:x.of.length<3
  ·rw [if_pos h3,if_pos h3]
  ·rw [if_neg h3,if_neg h3]
   simp only [hc _ (getD_mem (show 2<x.of.length by omega))]
 ·simp only [if_neg k13]
  by_cases k14:x.kind=14
  ·have h14:=h14 k14
   simp only [if_pos k14];rw [hc _ (getD_mem (by omega))];simp only [hc _ (getD_mem (show 1<x.of.length by omega))]
  ·simp only [if_neg k14]
   rw [rB _ _ hc]
end Uw.Tryz
namespace Uw.Tryz
open Go Uw
theorem qH {ρ:Nat->Nat}:∀(a b:List V),gk ρ (a++b)=gk ρ a++gk ρ b
 | [],b=>rfl
 | v::a,b=>by rw [aaE,gk,qH a,gk,aaE]
theorem oz {ρ:Nat->Nat} (x:Dat):∀r,gk ρ (List.replicate r (.d x))=List.replicate r (.d x)
 | 0=>rfl
 | r+1=>by rw [acH,gk,oz x r];rfl
theorem t8 {ρ:Nat->Nat} (rid:Nat->Nat):∀(ls:List (List Str)) (i:Nat),gk ρ (cE rid i ls)=cE (fun k=>ρ (rid k)) i ls
 | [],i=>rfl
 | l::ls,i=>by
  rw [cE,gk,t8 rid ls,cE]
  congr 1
  split<;>rfl
theorem ua {ρ:Nat->Nat} (mid:Nat->Nat):∀(n i:Nat),gk ρ (cg mid i n)=cg (fun k=>ρ (mid k)) i n
 | 0,i=>rfl
 | n+1,i=>by rw [cg,gk,ua mid n,cg];rfl
theorem GL {α:Type} (xs:List α) (d v:α) (r:Nat):(xs++List.replicate (r+1) d).set xs.length v=xs++[v]++List.replicate r d:=by
 rw [List.set_append_right _ _ (aax _),acu,acH,acs,aaD];rfl
theorem GM {ρ:Nat->Nat} {h h' : Heap}:∀{a a' b b' : List V},VWL ρ h h' a a'->VWL ρ h h' b b'->VWL ρ h h' (a++b) (a'++b')
 | [],[],_,_,_,h2=>h2
 | v::a,v'::a',_,_,h1,h2=>⟨h1.1,GM h1.2 h2⟩
 | [],_::_,_,_,h1,_=>h1.elim
 | _::_,[],_,_,h1,_=>h1.elim
def l9 (j a b:Nat) (id:Nat):Nat:=if id=rid j then a else if id=mid j then b else id
def Over (fam H:Heap):Prop:=∀id,4<=id->id<1000000->look H id=look fam id
theorem bI {fam:Heap}:Over fam fam:=fun _ _ _=>rfl
theorem bJ {fam H:Heap} {i:Nat} {b:Blk} (h:Over fam H) (hi:(Nat.blt i 4||Nat.ble 1000000 i)=true):Over fam ((i,b)::H):=fun id h1 h2=>by
 rw [ai,if_neg]
 ·exact h id h1 h2
 ·rintro rfl
  rw [abg] at hi
  rcases hi with hi|hi
  ·rw [Nat.blt_eq] at hi;omega
  ·have:=aaO hi;omega
theorem GN {p:Pg} {ls:List (List Str)} {ms:List MS} {l:List Str} {m:MS} {R R' : gw} {H:Heap} {r r' n a b:Nat} {v0:V} {rv' mv' : List V} (hms:ms.length=ls.length) (hl:ls.length<99999) (ha:1000000<=a) (hb:1000000<=b) (hab:a≠b)
  (h1:pI (l9 ls.length a b) R H (loH p (cE rid 0 (ls++[l])++List.replicate r (.d .nil)) (cg mid 0 (ls.length+1)++List.replicate r' (.d .bg)) (cY (ls++[l]) (ms++[m]))) R')
  (e2:look H 2=some (.var rv')) (hrv:rv' = cE rid 0 ls++[v0]++List.replicate r (.d .nil)) (hv0:v0=(if l=[] then V.d (.slice 1 [] true) else .ref a 0 0 l.length)\/(l=[]/\v0 = .d .nil)) (e3:look H 3=some (.var mv')) (hmv:mv' = cg mid 0 ls.length++[.hnd b]++List.replicate r' (.d .bg))
  (e1:look H 1=some (.map none (thE p.decls))) (e0:look H 0=some (pgV p)) (ea:l≠[]->look H a=some (.arr 1 (rowT l))) (eb:look H b=some (.map none m))
  (ho:Over (cY ls ms) H) :
  Weak ⟨R,H,n,[],0⟩ ⟨R',loH p (cE rid 0 (ls++[l])++List.replicate r (.d .nil)) (cg mid 0 (ls.length+1)++List.replicate r' (.d .bg)) (cY (ls++[l]) (ms++[m])),1000000,[],0⟩:=by
 subst hrv hmv;have hf:∀id x,look (cY ls ms) id=some x->look H id=some x:=fun id x h=>by
  have:=gj h;rw [ho id this.1 (by omega)];exact h
 have hr:∀k,k<ls.length->l9 ls.length a b (rid k)=rid k:=fun k hk=>by
  unfold l9;rw [if_neg (by simp only [rid];omega),if_neg (by simp only [rid,mid];omega)]
 have hm:∀k,k<ls.length->l9 ls.length a b (mid k)=mid k:=fun k hk=>by
  unfold l9;rw [if_neg (by simp only [rid,mid];omega),if_neg (by simp only [mid];omega)]
 have hrj:l9 ls.length a b (rid ls.length)=a:=by unfold l9;rw [if_pos rfl]
 have hmj:l9 ls.length a b (mid ls.length)=b:=by unfold l9;rw [if_neg (by simp only [rid,mid];omega),if_pos rfl]
 have hlow:∀k,k<4->l9 ls.length a b k=k:=fun k hk=>by unfold l9;rw [if_neg (by simp only [rid];omega),if_neg (by simp only [mid];omega)]
 have hlen:(ls++[l]).length=ls.length+1:=by simp
 refine Weak.Rb (l9 ls.length a b) h1 ?_ ?_
 ·intro id x hx
  rcases t7 hx with ⟨rfl,rfl⟩|⟨rfl,rfl⟩|⟨rfl,rfl⟩|⟨rfl,rfl⟩|hx
  ·refine ⟨⟨_,by rw [hlow 2 (by omega)];exact e2,?_⟩,by omega⟩
   have hcl:=px (p:=p) (ls:=ls++[l]) (ms:=ms++[m]) (rv:=cE rid 0 (ls++[l])++List.replicate r (.d .nil)) (mv:=cg mid 0 (ls.length+1)++List.replicate r' (.d .bg)) (r:=r) (by simp [hms]);have hc:cE (fun k=>l9 ls.length a b (rid k)) 0 ls=cE rid 0 ls:=yY ls 0 fun k l' hk _=>by
    have hkl:k<ls.length:=by
     rcases aa2 k ls.length with h|h
     ·exact h
     ·rw [aaJ h] at hk;cases hk
    simp only [aaF];exact hr k hkl
   have YN:gk (l9 ls.length a b) (cE rid 0 (ls++[l])++List.replicate r (.d .nil))=cE rid 0 ls++[if l=[] then V.d (.slice 1 [] true) else .ref a 0 0 l.length]++List.replicate r (.d .nil):=by
    rw [qH,oz,t8,vH,hc];simp only [aaF];rw [hrj]
   rcases hv0 with rfl|⟨rfl,rfl⟩
   ·show VWL _ _ _ _ _
    rw [<- YN];exact tK hcl
   ·have h3:=tK (ρ:=l9 ls.length a b) (h:=H) hcl
    rw [YN] at h3;show VWL _ _ _ (cE rid 0 ls++[V.d .nil]++List.replicate r (.d .nil)) (cE rid 0 (ls++[[]])++List.replicate r (.d .nil));rw [vH] at hcl ⊢;rw [if_pos rfl] at hcl ⊢;rw [d6] at hcl;refine GM (GM ?_ ⟨.inr (.inr (.inr (.inr (.inr ⟨rfl,1,true,rfl⟩)))),trivial⟩) ?_
    ·have:=tK (ρ:=l9 ls.length a b) (h:=H) (cs:=cE rid 0 ls) (d6.2 fun v hv=>hcl v (by simp [hv]))
     rw [t8,hc] at this;exact this
    ·have:=tK (ρ:=l9 ls.length a b) (h:=H) (cs:=List.replicate r (V.d .nil)) (d6.2 fun v hv=>hcl v (by simp [abN] at hv ⊢;exact .inr (.inr hv)))
     rw [oz] at this;exact this
  ·refine ⟨⟨_,by rw [hlow 3 (by omega)];exact e3,eh ?_ ?_⟩,by omega⟩
   ·show _=Blk.var (gk _ _)
    have hc:cg (fun k=>l9 ls.length a b (mid k)) 0 ls.length=cg mid 0 ls.length:=pv ls.length 0 fun k hk=>by simp only [aaF];exact hm k hk
    rw [qH,oz,ua,vI,hc];simp only [aaF];rw [hmj]
   ·show cQ _ _=true
    exact pz (by simp [hms]) (by simp)
  ·exact ⟨⟨_,by rw [hlow 1 (by omega)];exact e1,eh rfl rfl⟩,by omega⟩
  ·exact ⟨⟨_,by rw [hlow 0 (by omega)];exact e0,eh rfl rfl⟩,by omega⟩
  ·obtain ⟨g1,g2,g3,g4⟩:=gj hx
   refine ⟨⟨x,?_,eh (g4 _).symm (g3 _)⟩,by rw [hlen] at g2;omega⟩
   rcases xr hx with ⟨k,m',k1,k2,k3,rfl,rfl⟩|⟨k,l',k1,k2,k3,k4,rfl,rfl⟩
   ·rw [aaF]
    by_cases hk:k<ls.length
    ·rw [hm k hk]
     refine hf _ _ ?_;have:=rz (yt ls.length) (ls:=ls) (ms:=ms) (i:=0) (k:=k) (m:=m') (by omega) hk (by rwa [aaY (by omega)] at k3)
     rwa [aaF] at this
    ·rw [hlen] at k1
     obtain rfl:k=ls.length:=by omega
     rw [aa4 (by omega),hms,acu] at k3;injection k3 with k3
     rw [hmj,<- k3];exact eb
   ·rw [aaF]
    by_cases hk:k<ls.length
    ·rw [hr k hk]
     refine hf _ _ ?_;have:=xu (yt ls.length) (ls:=ls) (ms:=ms) (i:=0) (k:=k) (l:=l') (by omega) (by omega) (by rwa [aaY hk] at k3) k4
     rwa [aaF] at this
    ·rw [hlen] at k1
     obtain rfl:k=ls.length:=by omega
     rw [aa4 (by omega),acu] at k3;injection k3 with k3
     rw [hrj];rw [<- k3] at k4 ⊢;exact ea k4
 ·intro id id' h h' he
  have bd:∀i,(look (loH p (cE rid 0 (ls++[l])++List.replicate r (.d .nil)) (cg mid 0 (ls.length+1)++List.replicate r' (.d .bg)) (cY (ls++[l]) (ms++[m]))) i).isSome=true->i<1000000:=by
   intro i hi;obtain ⟨x,hx⟩:=acp.1 hi
   rcases t7 hx with ⟨rfl,rfl⟩|⟨rfl,rfl⟩|⟨rfl,rfl⟩|⟨rfl,rfl⟩|hx
   ·omega
   ·omega
   ·omega
   ·omega
   ·have:=(gj hx).2.1
    rw [hlen] at this;omega
  have b1:=bd id h;have b2:=bd id' h';unfold l9 at he
  split at he
  ·split at he
   ·omega
   ·split at he<;>omega
  ·split at he
   ·split at he
    ·omega
    ·split at he<;>omega
   ·split at he
    ·omega
    ·split at he<;>omega
theorem Vz {p:Pg} {ls:List (List Str)} {ms:List MS} {m m' : MS} {rows:List (List Dat)} {R R' : gw} {H:Heap} {r r' n k:Nat} {rv' mv' : List V} (hms:ms.length=ls.length) (hl:ls.length<99999) (hrv:rv' = cE rid 0 ls++[V.ref 1000001 0 0 k]++List.replicate r (.d .nil)) (hmv:mv' = cg mid 0 ls.length++[.hnd 1000002]++List.replicate r' (.d .bg))
  (h1:pI (dx []) R H ((1000002,.map none m')::(1000001,.arr 1 rows)::loH p rv' mv' (cY ls ms)) R') (e2:look H 2=some (.var rv')) (e3:look H 3=some (.var mv')) (e1:look H 1=some (.map none (thE p.decls))) (e0:look H 0=some (pgV p)) (ea:look H 1000001=some (.arr 1 rows)) (eb:look H 1000002=some (.map none m)) (hm:m=m')
  (ho:Over (cY ls ms) H):Weak ⟨R,H,n,[],0⟩ ⟨R',(1000002,.map none m')::(1000001,.arr 1 rows)::loH p rv' mv' (cY ls ms),1000003,[],0⟩:=by
 subst hm;have hup:∀(v:V),v.closed (loH p rv' mv' (cY ls ms))=true->∀(i:Nat),(v = .hnd i\/∃o l w,v = .ref i o l w)\/(∃x,v = .d x)->v.closed ((1000002,.map none m)::(1000001,.arr 1 rows)::loH p rv' mv' (cY ls ms))=true:=by
  intro v hv i hi;have hlk:∀i,(look (loH p rv' mv' (cY ls ms)) i).isSome=true->(look ((1000002,.map none m)::(1000001,.arr 1 rows)::loH p rv' mv' (cY ls ms)) i).isSome=true:=by
   intro i h;rw [ai]
   split
   ·rfl
   ·rw [ai]
    split
    ·rfl
    ·exact h
  rcases hi with (rfl|⟨o,l,w,rfl⟩)|⟨x,rfl⟩
  ·exact hlk i hv
  ·exact hlk i hv
  ·rfl
 refine Weak.looks h1 ?_ (abr _) (fun id h=>absurd h (ab9 _));intro id x hx;rw [ai] at hx;by_cases h2:1000002=id
 ·rw [if_pos h2] at hx;injection hx with hx;subst h2 hx;exact ⟨eb,rfl,by omega⟩
 rw [if_neg h2,ai] at hx;by_cases h3:1000001=id
 ·rw [if_pos h3] at hx;injection hx with hx;subst h3 hx;exact ⟨ea,rfl,by omega⟩
 rw [if_neg h3] at hx
 rcases t7 hx with ⟨rfl,rfl⟩|⟨rfl,rfl⟩|⟨rfl,rfl⟩|⟨rfl,rfl⟩|hx
 ·refine ⟨e2,?_,by omega⟩
  show cQ _ _=true;have hc:=px (p:=p) (ls:=ls) (ms:=ms) (rv:=rv') (mv:=mv') (r:=r) hms;rw [d6] at hc ⊢;intro v hv;rw [hrv] at hv
  rcases aaZ.1 hv with hv|hv
  ·rcases aaZ.1 hv with hv|hv
   ·obtain ⟨q,hq⟩:=abW.1 hv
    have hql:q<ls.length:=by
     rcases aa2 q ls.length with h|h
     ·exact h
     ·rw [aaJ (by rw [eZ];exact h)] at hq;cases hq
    have hg:=lh rid ls 0 q ls[q] (by simp [hql]);rw [hq] at hg;injection hg with hg
    refine hup v (hc v (ac1 _ hv)) (rid (0+q)) ?_;rw [hg]
    split
    ·exact .inr ⟨_,rfl⟩
    ·exact .inl (.inr ⟨_,_,_,rfl⟩)
   ·simp at hv;subst hv;rfl
  ·exact hup v (hc v (abt _ hv)) 0 (.inr ⟨.nil,(abN.1 hv).2⟩)
 ·refine ⟨e3,?_,by omega⟩
  show cQ _ _=true;have hc:=pz (p:=p) (ls:=ls) (ms:=ms) (rv:=rv') (mv:=mv') (r:=r') hms rfl;rw [d6] at hc ⊢;intro v hv;rw [hmv] at hv
  rcases aaZ.1 hv with hv|hv
  ·rcases aaZ.1 hv with hv|hv
   ·obtain ⟨q,hq⟩:=abW.1 hv
    have hql:q<ls.length:=by
     rcases aa2 q ls.length with h|h
     ·exact h
     ·rw [aaJ (by rw [dz];exact h)] at hq;cases hq
    have hg:=li mid ls.length 0 q hql;rw [hq] at hg;injection hg with hg
    exact hup v (hc v (ac1 _ hv)) (mid (0+q)) (.inl (.inl hg))
   ·simp at hv;subst hv;rfl
  ·exact hup v (hc v (abt _ hv)) 0 (.inr ⟨.bg,(abN.1 hv).2⟩)
 ·exact ⟨e1,rfl,by omega⟩
 ·exact ⟨e0,rfl,by omega⟩
 ·obtain ⟨g1,g2,g3,_⟩:=gj hx
  exact ⟨by rw [ho id g1 (by omega)];exact hx,g3 _,by omega⟩
end Uw.Tryz
namespace Uw.Tryz
open Go Uw
abbrev nF (p:Pg):Nat:=(p.ag.map fuL).length
abbrev loR (p:Pg):gw:=[(6,.row 3 (nF p)),(5,.row 2 (nF p)),(4,.d (bN (bD p))),(3,.hnd 1),(1,.ptr 0 0)]
abbrev cZ (p:Pg):List (List Str):=p.ag.map (·.args)
abbrev iM (ls:List (List Str)) (r:Nat):List V:=cE rid 0 ls++List.replicate r (.d .nil)
abbrev kr (n r:Nat):List V:=cg mid 0 n++List.replicate r (.d .bg)
abbrev Ks (p:Pg) (j:Nat):St:=⟨(31,.d (I j))::(30,.d (I ((p.ag.map fuL).length:Nat)))::(29,.d (.slice 3 (p.ag.map fuL) false))::loR p,loH p (iM ((cZ p).take j) (nF p - j)) (kr j (nF p - j)) (cY ((cZ p).take j) (((cZ p).take j).map cG)),1000000,[],0⟩
theorem Xt (p:Pg) (hf:bO p=true) (hp:Lim p) (hn0:p.ag=[]):ak p=[]/\Ret P0 kc [pgD p] (.slice 1 [] true):=by
 have hth:=ox p hp.decls;have how:=oy p hf hp;have hfl:(p.ag.map fuL).length=p.ag.length:=by simp
 have ZC:(decide (((p.ag.map fuL).length:Int)=((p.ag.map fuL).length:Nat))&&decide ((0:Int)<=((p.ag.map fuL).length:Nat))&&decide ((((p.ag.map fuL).length:Nat):Int) * ((24:Nat):Int)<=70368744177664))=true:=by rw [hn0];rfl
 have ZD:(decide (((p.ag.map fuL).length:Int)=((p.ag.map fuL).length:Nat))&&decide ((0:Int)<=((p.ag.map fuL).length:Nat))&&decide ((((p.ag.map fuL).length:Nat):Int) * ((8:Nat):Int)<=70368744177664))=true:=by rw [hn0];rfl
 have hf0:(p.ag.map fuL).length=0:=by rw [hn0];rfl
 have hns:p.nodes=[]:=by
  refine Classical.byContradiction fun hne=>?_;have hpos:0<p.nodes.length:=abR.2 hne;have:=Gz hf _ 0 hpos (aax _);rw [hn0] at this;simp at this;omega
 have hn1:(p.nodes.map ndL).length=0:=by rw [hns];rfl
 refine ⟨by rw [ak,hns,hn0];rfl,?_⟩;refine aU rO rfl ?_
 repeat refine aw ?_
 refine ad 1 [] hth ?_
 repeat (first|refine aw ?_|refine f1 ?_)
 refine fV 1 ?_
 repeat (first|refine aw ?_|refine f1 ?_)
 refine qh ?_
 repeat (first|refine aw ?_|refine f1 ?_)
 refine fV 1 ?_
 repeat (first|refine aw ?_|refine f1 ?_)
 refine qh ?_
 repeat (first|refine aw ?_|refine f1 ?_)
 exact aC rfl rfl rfl rfl rfl
theorem LO (a:Nat) (x y:Blk) (rest:Heap) (i:Nat):look ((a,x)::rest) i=look ((a,x)::(a,y)::rest) i:=by
 rw [ai,ai,ai]
 split<;>rfl
theorem fH {st S S' : St} [Glob] (h:S=S') (hw:Weak st S'):Weak st S:=by rw [h];exact hw
theorem BW {j a b k:Nat} (hk:k<4):l9 j a b k=k:=by unfold l9;rw [if_neg (by simp only [rid];omega),if_neg (by simp only [mid];omega)]
theorem LP {j a b k n:Nat} {h h' : Heap} (hk:k<4) (hc:(look h' k).isSome=true):VW (l9 j a b) h h' (.row k n) (.row k n):=.inl ⟨by rw [V.ren,BW hk],hc⟩
theorem UL {j a b k:Nat} {h h' : Heap} (hk:k<4) (hc:(look h' k).isSome=true):VW (l9 j a b) h h' (.hnd k) (.hnd k):=.inl ⟨by rw [V.ren,BW hk],hc⟩
theorem UM {j a b k o:Nat} {h h' : Heap} (hk:k<4) (hc:(look h' k).isSome=true):VW (l9 j a b) h h' (.ptr k o) (.ptr k o):=.inl ⟨by rw [V.ren,BW hk],hc⟩
theorem GQ {p:Pg} {j a b:Nat} {R:gw} {H:Heap} {rv mv:List V} {fam:Heap} (h6:look R 6=some (.row 3 (nF p))) (h5:look R 5=some (.row 2 (nF p))) (h4:look R 4=some (.d (bN (bD p)))) (h3:look R 3=some (.hnd 1)) (h1:look R 1=some (.ptr 0 0)) :
  pI (l9 j a b) R H (loH p rv mv fam) (loR p):=
 ⟨⟨_,h6,LP (by omega) rfl⟩,⟨_,h5,LP (by omega) rfl⟩,⟨_,h4,.inl ⟨rfl,rfl⟩⟩,⟨_,h3,UL (by omega) rfl⟩,⟨_,h1,UM (by omega) rfl⟩,trivial⟩
def UN (l:List Str):List Dat:=[if l=[] then .slice 1 [] true else .slice 1 (rowT l) false]
def qL:ck->ck
 | .seq x _=>x
 | .block _ x=>x
 | .loop x=>x
 | c=>c
def qR:ck->ck
 | .seq _ y=>y
 | c=>c
def ZE:ck:=qL (qL (qR (qL (qR (qR (qR (qR (qR nR.code))))))))
theorem NG (p:Pg) (hp:Lim p) (j:Nat) (hj:j<nF p) (hpre:∀i,i<j->True) {QQ:aG->St->Prop}:WT P0 (nH (Ks p) (Dt (nF p) fun _=>True) (forM (nF p)) j QQ) (exec ZE (Ks p j) Tree.done):=by
 have hfl:nF p=p.ag.length:=by simp
 have ZF:(p.ag.map fuL).length=p.ag.length:=by simp
 have hF:=hp.ag;have hal:(cZ p).length=p.ag.length:=by simp
 have hel:∀(j:Nat) (h:j<p.ag.length),(p.ag.map fuL)[(j:Int).toNat]? = some (fuL p.ag[j]):=by intro j h;simp [h]
 have hlt:∀j,j<=p.ag.length->((cZ p).take j).length=j:=fun j h=>by rw [aa5,hal];omega
 have hj2:j<p.ag.length:=by rw [<- hfl];exact hj
 have he:=hel j hj2;have hal2:(iM ((cZ p).take j) (nF p - j)).length=nF p:=by rw [aaw,eZ,hlt j (by omega),abA];omega
 have ZG:(kr j (nF p - j)).length=nF p:=by rw [aaw,dz,abA];omega
 generalize hfe:p.ag[j]=f at *;obtain ⟨fn,fa,fb⟩:=f;have he:(p.ag.map fuL)[(j:Int).toNat]? = some [.str fn,gV fa,I fb]:=he;have hrl:(fa.map fun s=>[Dat.str s]).length=fa.length:=by simp
 have Z2:fa.length<100000:=by have:=hp.args _ (aaQ hj2);rw [hfe] at this;exact this
 have hby:decide ((fa.map fun s=>[Dat.str s]).length * 16<=70368744177664)=true:=by simp;omega
 have hsr:∀v,(iM ((cZ p).take j) (nF p - j)).set ((j:Int).toNat * 1) v=cE rid 0 ((cZ p).take j)++[v]++List.replicate (nF p - (j+1)) (.d .nil):=fun v=>by
  have:=GL (cE rid 0 ((cZ p).take j)) (V.d .nil) v (nF p - (j+1));rw [eZ,hlt j (by omega),show nF p - (j+1)+1=nF p - j by omega] at this;rw [show (j:Int).toNat * 1=j by omega];exact this
 have hsm:∀v,(kr j (nF p - j)).set ((j:Int).toNat * 1) v=cg mid 0 j++[v]++List.replicate (nF p - (j+1)) (.d .bg):=fun v=>by
  have:=GL (cg mid 0 j) (V.d .bg) v (nF p - (j+1));rw [dz,show nF p - (j+1)+1=nF p - j by omega] at this;rw [show (j:Int).toNat * 1=j by omega];exact this
 have Xu:∀v,(kr j (nF p - j)).set ((j:Int).toNat * 1) v=cg mid 0 ((cZ p).take j).length++[v]++List.replicate (nF p - (j+1)) (.d .bg):=fun v=>by rw [hsm,hlt j (by omega)]
 have htk:(cZ p).take (j+1)=(cZ p).take j++[fa]:=by
  rw [aaz (by rw [hal];exact hj2)];simp [cZ,hfe]
 have hS:Ks p (j+1)=⟨(31,.d (I ((j+1:Nat):Int)))::(30,.d (I ((p.ag.map fuL).length:Nat)))::(29,.d (.slice 3 (p.ag.map fuL) false))::loR p,loH p (cE rid 0 ((cZ p).take j++[fa])++List.replicate (nF p - (j+1)) (.d .nil)) (cg mid 0 (((cZ p).take j).length+1)++List.replicate (nF p - (j+1)) (.d .bg)) (cY ((cZ p).take j++[fa]) (((cZ p).take j).map cG++[cG fa])),1000000,[],0⟩:=by
  rw [Ks,htk,hlt j (by omega),abn];rfl
 have hms:(((cZ p).take j).map cG).length=((cZ p).take j).length:=by simp
 have hl5:((cZ p).take j).length<99999:=by rw [hlt j (by omega)];omega
 obtain ⟨E,hE⟩:∃E:Nat->MS,∀i,E i=cG (fa.take i):=⟨_,fun _=>rfl⟩
 have hE0:([]:MS)=E 0:=by rw [hE];rfl
 have hEn:E fa.length=cG fa:=by rw [hE,aaK]
 have hEs:∀(i:Nat) (h:i<fa.length),dQ (E i) (.s fa[i]) (.bool true)=E (i+1):=fun i h=>by rw [hE,hE,aaz h,rA]
 have hge:∀(i:Nat) (h:i<fa.length),(fa.map fun s=>[Dat.str s])[(i:Int).toNat]? = some [.str fa[i]]:=fun i h=>by simp [h]
 obtain ⟨rv',hrv⟩:∃rv',rv' = cE rid 0 ((cZ p).take j)++[V.ref 1000001 0 0 fa.length]++List.replicate (nF p - (j+1)) (.d .nil):=⟨_,rfl⟩
 obtain ⟨mv',hmv⟩:∃mv',mv' = cg mid 0 ((cZ p).take j).length++[V.hnd 1000002]++List.replicate (nF p - (j+1)) (.d .bg):=⟨_,rfl⟩
 have hmg:mv'[(j:Int).toNat * 1]? = some (.hnd 1000002):=by
  rw [hmv,hlt j (by omega),aaD,aa4 (by rw [dz];omega),dz];simp
 have ZH:(iM ((cZ p).take j) (nF p - j)).set ((j:Int).toNat * 1) (V.ref 1000001 0 0 (fa.map fun s=>[Dat.str s]).length)=rv':=by rw [hsr,hrv,hrl]
 have Ri:(kr j (nF p - j)).set ((j:Int).toNat * 1) (V.hnd 1000002)=mv':=by rw [Xu,hmv]
 have ZI:mv'.length=nF p:=by rw [<- Ri,acr];exact ZG
 by_cases hfa:fa=[]
 ·subst hfa
  have hemp:(([]:List Str).map fun s=>[Dat.str s]).isEmpty=true:=rfl
  repeat (first|refine aw ?_|refine f1 ?_)
  refine dK rT rfl ?_
  repeat (first|refine aw ?_|refine f1 ?_)
  refine Fq ?_ ?_
  ·repeat (first|refine aw ?_|refine f1 ?_)
   refine ef rfl rfl ?_
   repeat (first|refine aw ?_|refine f1 ?_)
   refine fV 1 ?_;refine aw ?_;refine qh ?_
   repeat (first|refine aw ?_|refine f1 ?_)
   refine aX j trivial (fH hS ?_);exact GN (a:=1000005) (b:=1000001) (v0:=.d .nil) hms hl5 (by omega) (by omega) (by omega) ⟨⟨_,rfl,dc rfl⟩,⟨_,rfl,.inl ⟨rfl,rfl⟩⟩,⟨_,rfl,.inl ⟨rfl,rfl⟩⟩,GQ rfl rfl rfl rfl rfl⟩ rfl (hsr _) (.inr ⟨rfl,rfl⟩) rfl (Xu _) rfl rfl (fun h=>absurd rfl h) rfl (by (repeat refine bJ ?_ rfl);exact bI)
  ·repeat (first|refine aw ?_|refine f1 ?_)
   refine ef rfl rfl ?_
   repeat (first|refine aw ?_|refine f1 ?_)
   refine fV 1 ?_;refine aw ?_;refine qh ?_
   repeat (first|refine aw ?_|refine f1 ?_)
   refine aX j trivial (fH hS ?_);exact GN (a:=1000005) (b:=1000001) (v0:=.d (.slice 1 [] true)) hms hl5 (by omega) (by omega) (by omega) ⟨⟨_,rfl,dc rfl⟩,⟨_,rfl,.inl ⟨rfl,rfl⟩⟩,⟨_,rfl,.inl ⟨rfl,rfl⟩⟩,GQ rfl rfl rfl rfl rfl⟩ rfl (hsr _) (.inl rfl) rfl (Xu _) rfl rfl (fun h=>absurd rfl h) rfl (by (repeat refine bJ ?_ rfl);exact bI)
 have hemp:(fa.map fun s=>[Dat.str s]).isEmpty=false:=by cases fa<;>first|rfl|exact absurd rfl hfa
 repeat (first|refine aw ?_|refine f1 ?_)
 refine dK rT rfl ?_
 repeat (first|refine aw ?_|refine f1 ?_)
 refine ef rfl rfl ?_
 repeat (first|refine aw ?_|refine f1 ?_)
 refine dp fa.length (fun i:Nat=>⟨(49,.d (I i))::(48,.d (I ((fa.map fun s=>[Dat.str s]).length:Nat)))::(47,.d (gV fa))::(7,.d (I j))::(31,.d (I j))::(30,.d (I ((p.ag.map fuL).length:Nat)))::(29,.d (.slice 3 (p.ag.map fuL) false))::loR p,(1000002,.map none (E i))::(1000001,.arr 1 (rowT fa))::loH p rv' mv' (cY ((cZ p).take j) (((cZ p).take j).map cG)),1000003,[],0⟩) (fun _=>True) ?_ (fun _=>?_) (fun i hi _=>?_)
 ·refine Vz hms hl5 hrv hmv ?_ (by rw [<- ZH];rfl) (by rw [<- Ri];rfl) rfl rfl rfl rfl hE0 (by (repeat refine bJ ?_ rfl);exact bI)
  repeat' first|exact trivial|refine ⟨⟨_,rfl,?_⟩,?_⟩|exact dc (by first|with_reducible rfl|omega)|exact Or.inl ⟨rfl,rfl⟩
 ·refine aw ?_
  refine aJ ?_;refine aw ?_;refine aX j trivial (fH hS ?_);exact GN (a:=1000001) (b:=1000002) (v0:=.ref 1000001 0 0 fa.length) hms hl5 (by omega) (by omega) (by omega) ⟨⟨_,rfl,dc rfl⟩,⟨_,rfl,.inl ⟨rfl,rfl⟩⟩,⟨_,rfl,.inl ⟨rfl,rfl⟩⟩,GQ rfl rfl rfl rfl rfl⟩ rfl hrv (.inl (by rw [if_neg hfa])) rfl hmv rfl rfl (fun _=>rfl) (by rw [<- hEn];rfl) (by (repeat refine bJ ?_ rfl);exact bI)
 have hg:=hge i hi;have hs:=hEs i hi;generalize fa[i]=nm at *
 repeat (first|refine aw ?_|refine f1 ?_)
 refine Ak ((1000002,.map none (dQ (E i) (.s nm) (.bool true)))::(1000001,.arr 1 (rowT fa))::loH p rv' mv' (cY ((cZ p).take j) (((cZ p).take j).map cG))) (LO _ _ _ _) ?_
 repeat (first|refine aw ?_|refine f1 ?_)
 refine aX i trivial ?_;refine Vz hms hl5 hrv hmv ?_ rfl rfl rfl rfl rfl rfl hs (by (repeat refine bJ ?_ rfl);exact bI)
 repeat' first|exact trivial|refine ⟨⟨_,rfl,?_⟩,?_⟩|exact dc (by first|with_reducible rfl|omega)|exact Or.inl ⟨rfl,rfl⟩
end Uw.Tryz
namespace Uw.Tryz
open Go Uw
theorem I8 {rid mid:Nat->Nat} {n:Nat} (hI:Q9 rid mid n) (m:MS) (id:Nat):∀(ls:List (List Str)) (ms:List MS) (i k:Nat),i+ls.length<=n->k<ls.length->k<ms.length->look (kp rid mid i ls (ms.set k m)) id=if id=mid (i+k) then some (.map none m) else look (kp rid mid i ls ms) id
 | [],_,i,k,_,h,_=>by simp at h
 | l::ls,[],i,k,_,_,h=>by simp at h
 | l::ls,m0::ms,i,0,hn,_,_=>by
  simp only [aaA] at hn;rw [acs,kp,kp,lS,lS];by_cases he:id=mid (i+0)
  ·rw [if_pos he]
   have h1:look (if l=[] then [] else [(rid i,Blk.arr 1 (rowT l))]) id=none:=by
    split
    ·rfl
    ·rw [ai,if_neg (fun e=>hI.rm i i (by omega) (by omega) (e.trans he))];rfl
   rw [h1,ai,if_pos (show mid i=id from he.symm)]
  ·rw [if_neg he,ai,ai,if_neg (show ¬mid i=id from fun e=>he e.symm)]
   simp only [if_neg (show ¬mid i=id from fun e=>he e.symm)]
 | l::ls,m0::ms,i,k+1,hn,hk,hm=>by
  simp only [aaA] at hn hk hm;rw [ab7,kp,kp,lS,lS,ai,ai,I8 hI m id ls ms (i+1) k (by omega) (by omega) (by omega),show i+1+k=i+(k+1) by omega];by_cases he:id=mid (i+(k+1))
  ·rw [if_pos he,if_pos he]
   have h1:look (if l=[] then [] else [(rid i,Blk.arr 1 (rowT l))]) id=none:=by
    split
    ·rfl
    ·rw [ai,if_neg (fun e=>hI.rm i (i+(k+1)) (by omega) (by omega) (e.trans he))];rfl
   rw [h1,if_neg (fun e=>by have:=hI.mm i (i+(k+1)) (by omega) (by omega) (e.trans he);omega)]
  ·rw [if_neg he,if_neg he]
theorem BX {rid mid:Nat->Nat} {n:Nat} (hI:Q9 rid mid n) {l' : List Str} (hl' : l'≠[]) (id:Nat):∀(ls:List (List Str)) (ms:List MS) (i k:Nat),i+ls.length<=n->k<ls.length->k<ms.length->look (kp rid mid i (ls.set k l') ms) id=if id=rid (i+k) then some (.arr 1 (rowT l')) else look (kp rid mid i ls ms) id
 | [],_,i,k,_,h,_=>by simp at h
 | l::ls,[],i,k,_,_,h=>by simp at h
 | l::ls,m0::ms,i,0,hn,_,_=>by
  simp only [aaA] at hn;rw [acs,kp,kp,if_neg hl',aaE,ai];by_cases he:id=rid (i+0)
  ·rw [if_pos he,if_pos (show rid i=id from he.symm)]
  ·rw [if_neg he,if_neg (show ¬rid i=id from fun e=>he e.symm)]
   split
   ·rfl
   ·rw [aaE,ai,if_neg (show ¬rid i=id from fun e=>he e.symm)]
 | l::ls,m0::ms,i,k+1,hn,hk,hm=>by
  simp only [aaA] at hn hk hm;rw [ab7,kp,kp,lS,lS,ai,ai,BX hI hl' id ls ms (i+1) k (by omega) (by omega) (by omega),show i+1+k=i+(k+1) by omega];by_cases he:id=rid (i+(k+1))
  ·rw [if_pos he,if_pos he]
   have h1:look (if l=[] then [] else [(rid i,Blk.arr 1 (rowT l))]) id=none:=by
    split
    ·rfl
    ·rw [ai,if_neg (fun e=>by have:=hI.rr i (i+(k+1)) (by omega) (by omega) (e.trans he);omega)];rfl
   rw [h1,if_neg (fun e=>hI.rm (i+(k+1)) i (by omega) (by omega) (e.trans he).symm)]
  ·rw [if_neg he,if_neg he]
theorem EL (rid:Nat->Nat):∀(ls:List (List Str)) (i k:Nat) (l' : List Str),k<ls.length->(cE rid i ls).set k (if l' = [] then V.d (.slice 1 [] true) else .ref (rid (i+k)) 0 0 l'.length)=cE rid i (ls.set k l')
 | [],i,k,l',h=>by simp at h
 | l::ls,i,0,l',h=>rfl
 | l::ls,i,k+1,l',h=>by
  have:=EL rid ls (i+1) k l' (by simpa using h);rw [cE,ab7,ab7,cE,<- this,show i+1+k=i+(k+1) by omega]
theorem LQ {c fam YO : Heap} {a:Nat} {x:Blk} (hc:∀q∈c,q.1≠a) (hf:∀id,look YO id=if id=a then some x else look fam id) (id:Nat):look (c++YO) id=look ((a,x)::(c++fam)) id:=by
 rw [ai,lS,lS,hf id];by_cases he:id=a
 ·subst he
  have:look c id=none:=by
   cases h:look c id with
   | none=>rfl
   | some b=>exact absurd rfl (hc _ (sD h))
  rw [if_pos rfl,if_pos rfl,this]
 ·rw [if_neg he,if_neg (fun e=>he e.symm)]
theorem xw {p:Pg} {ls:List (List Str)} {ms:List MS} {R R' : gw} {H:Heap} {r r' n:Nat} {rv' : List V} (hms:ms.length=ls.length) (hl:ls.length<100000) (h1:pI (dx []) R H (loH p (cE rid 0 ls++List.replicate r (.d .nil)) (cg mid 0 ls.length++List.replicate r' (.d .bg)) (cY ls ms)) R')
  (e2:look H 2=some (.var rv')) (hrv:rv' = cE rid 0 ls++List.replicate r (.d .nil)) (e3:look H 3=some (.var (cg mid 0 ls.length++List.replicate r' (.d .bg)))) (e1:look H 1=some (.map none (thE p.decls))) (e0:look H 0=some (pgV p))
  (ho:Over (cY ls ms) H):Weak ⟨R,H,n,[],0⟩ ⟨R',loH p (cE rid 0 ls++List.replicate r (.d .nil)) (cg mid 0 ls.length++List.replicate r' (.d .bg)) (cY ls ms),1000000,[],0⟩:=by
 subst hrv;exact GI hms hl h1 e2 e3 e1 e0 (fun id x h=>by have:=gj h;rw [ho id this.1 (by omega)];exact h)
def rC (j a:Nat) (id:Nat):Nat:=if id=rid j then a else id
theorem Xv {p:Pg} {ls:List (List Str)} {ms:List MS} {l:List Str} {R R' : gw} {H:Heap} {n k:Nat} {rv' : List V} (hms:ms.length=ls.length) (hl:ls.length<100000) (hk:k<ls.length) (hne:l≠[])
  (h1:pI (rC k 1000001) R H (loH p (iM (ls.set k l) 0) (kr (ls.set k l).length 0) (cY (ls.set k l) ms)) R')
  (e2:look H 2=some (.var rv')) (hrv:rv' = (iM ls 0).set k (.ref 1000001 0 0 l.length)) (e3:look H 3=some (.var (kr ls.length 0))) (e1:look H 1=some (.map none (thE p.decls))) (e0:look H 0=some (pgV p)) (ea:look H 1000001=some (.arr 1 (rowT l)))
  (ho:Over (cY ls ms) H):Weak ⟨R,H,n,[],0⟩ ⟨R',loH p (iM (ls.set k l) 0) (kr (ls.set k l).length 0) (cY (ls.set k l) ms),1000000,[],0⟩:=by
 subst hrv;have hlen:(ls.set k l).length=ls.length:=by simp
 rw [hlen] at h1 ⊢;have hlow:∀i,i<4->rC k 1000001 i=i:=fun i h=>by unfold rC;rw [if_neg (by simp only [rid];omega)]
 have hm:∀i,rC k 1000001 (mid i)=mid i:=fun i=>by unfold rC;rw [if_neg (by simp only [rid,mid];omega)]
 have hr:∀i,i≠k->rC k 1000001 (rid i)=rid i:=fun i h=>by unfold rC;rw [if_neg (by simp only [rid];omega)]
 have hrk:rC k 1000001 (rid k)=1000001:=by unfold rC;rw [if_pos rfl]
 refine Weak.Rb (rC k 1000001) h1 ?_ ?_
 ·intro id x hx
  rcases t7 hx with ⟨rfl,rfl⟩|⟨rfl,rfl⟩|⟨rfl,rfl⟩|⟨rfl,rfl⟩|hx
  ·refine ⟨⟨_,by rw [hlow 2 (by omega)];exact e2,eh ?_ (px (by simp [hms]))⟩,by omega⟩
   show Blk.var _=Blk.var (gk _ _)
   congr 1
   rw [qH,oz,t8,List.set_append_left _ _ (by rw [eZ];exact hk)]
   congr 1
   apply ab3;intro i;by_cases hik:i=k
   ·subst hik
    rw [List.getElem?_set_self (by rw [eZ];exact hk),lh _ _ 0 i l (by simp [hk]),if_neg hne];simp only [aaF];rw [hrk]
   ·rw [List.getElem?_set_ne (Ne.symm hik)]
    rcases aa2 i ls.length with h|h
    ·rw [lh rid ls 0 i ls[i] (by simp [h]),lh _ _ 0 i ls[i] (by rw [List.getElem?_set_ne (Ne.symm hik)];simp [h])]
     simp only [aaF];rw [hr i hik]
    ·rw [aaJ (by rw [eZ];exact h),aaJ (by rw [eZ,hlen];exact h)]
  ·refine ⟨⟨_,by rw [hlow 3 (by omega)];exact e3,eh ?_ (pz (by simp [hms]) hlen.symm)⟩,by omega⟩
   show Blk.var _=Blk.var (gk _ _);rw [qH,oz,ua,pv (mid:=fun i=>rC k 1000001 (mid i)) (mid':=mid) ls.length 0 fun i _=>hm _]
  ·exact ⟨⟨_,by rw [hlow 1 (by omega)];exact e1,eh rfl rfl⟩,by omega⟩
  ·exact ⟨⟨_,by rw [hlow 0 (by omega)];exact e0,eh rfl rfl⟩,by omega⟩
  ·obtain ⟨g1,g2,g3,g4⟩:=gj hx
   refine ⟨⟨x,?_,eh (g4 _).symm (g3 _)⟩,by rw [hlen] at g2;omega⟩;have hs:=BX (yt ls.length) hne id ls ms 0 k (by omega) hk (by omega);rw [show look (kp rid mid 0 (ls.set k l) ms) id=some x from hx,aaF] at hs;by_cases he:id=rid k
   ·rw [if_pos he] at hs
    injection hs with hs
    rw [he,hrk,hs];exact ea
   ·rw [if_neg he] at hs
    unfold rC;rw [if_neg he,ho id g1 (by rw [hlen] at g2;omega)];exact hs.symm
 ·intro id id' h h' he
  have bd:∀i,(look (loH p (iM (ls.set k l) 0) (kr ls.length 0) (cY (ls.set k l) ms)) i).isSome=true->i<1000000:=by
   intro i hi;obtain ⟨x,hx⟩:=acp.1 hi
   rcases t7 hx with ⟨rfl,rfl⟩|⟨rfl,rfl⟩|⟨rfl,rfl⟩|⟨rfl,rfl⟩|hx
   ·omega
   ·omega
   ·omega
   ·omega
   ·have:=(gj hx).2.1
    rw [hlen] at this;omega
  have b1:=bd id h;have b2:=bd id' h';unfold rC at he
  split at he<;>split at he<;>omega
theorem BZ {j a k:Nat} (hk:k<4):rC j a k=k:=by unfold rC;rw [if_neg (by simp only [rid];omega)]
theorem LR {j a k n:Nat} {h h' : Heap} (hk:k<4) (hc:(look h' k).isSome=true):VW (rC j a) h h' (.row k n) (.row k n):=.inl ⟨by rw [V.ren,BZ hk],hc⟩
theorem UO {j a k:Nat} {h h' : Heap} (hk:k<4) (hc:(look h' k).isSome=true):VW (rC j a) h h' (.hnd k) (.hnd k):=.inl ⟨by rw [V.ren,BZ hk],hc⟩
theorem UP {j a k o:Nat} {h h' : Heap} (hk:k<4) (hc:(look h' k).isSome=true):VW (rC j a) h h' (.ptr k o) (.ptr k o):=.inl ⟨by rw [V.ren,BZ hk],hc⟩
theorem Rj {p:Pg} {j a:Nat} {R:gw} {H:Heap} {rv mv:List V} {fam:Heap} (h6:look R 6=some (.row 3 (nF p))) (h5:look R 5=some (.row 2 (nF p))) (h4:look R 4=some (.d (bN (bD p)))) (h3:look R 3=some (.hnd 1)) (h1:look R 1=some (.ptr 0 0)) :
  pI (rC j a) R H (loH p rv mv fam) (loR p):=
 ⟨⟨_,h6,LR (by omega) rfl⟩,⟨_,h5,LR (by omega) rfl⟩,⟨_,h4,.inl ⟨rfl,rfl⟩⟩,⟨_,h3,UO (by omega) rfl⟩,⟨_,h1,UP (by omega) rfl⟩,trivial⟩
def ZJ:ck:=qL (qL (qR (qL (qR (qR (qR (qR (qR (qR nR.code)))))))))
def rD (p:Pg) (k:Nat):List (List Str):=fF p ((p.nodes.zip (bD p)).take k) (cZ p)
theorem uW (p:Pg):∀(r:List (Nd×Int)) (y:Nd×Int) (ls:List (List Str)),fF p (r++[y]) ls=(if rx p y.1 then addLocal (fF p r ls) y.2.toNat y.1.name else fF p r ls)
 | [],y,ls=>rfl
 | (x,o)::r,y,ls=>by rw [aaE,fF,uW p r,fF]
theorem NI (p:Pg) (k:Nat) (h:k<p.nodes.length):rD p (k+1)=(if rx p p.nodes[k] then addLocal (rD p k) ((bD p).getD k 0).toNat p.nodes[k].name else rD p k):=by
 have h2:k<(bD p).length:=by rw [fG];exact h
 have hz:k<(p.nodes.zip (bD p)).length:=by rw [acX];omega
 rw [rD,rD,aaz hz,uW,ada];simp [List.getD,h2]
theorem B0 (p:Pg) (k:Nat):(rD p k).length=p.ag.length:=by
 have:∀(r:List (Nd×Int)) (ls:List (List Str)),(fF p r ls).length=ls.length:=by
  intro r
  induction r with
  | nil=>intro ls;rfl
  | cons y r ih=>
   intro ls;obtain ⟨x,o⟩:=y;rw [fF,ih]
   split
   ·rw [GF]
   ·rfl
 rw [rD,this];simp
theorem xy (p:Pg):rD p p.nodes.length=ak p:=by
 rw [rD,ak,aaG (by rw [acX];omega)]
theorem Cc (p:Pg) (hp:Lim p) (k f:Nat) (l:List Str) (h:(rD p k)[f]? = some l):l.length<=100000+k:=by
 have key:∀(r:List (Nd×Int)) (ls:List (List Str)) (b:Nat),(∀l∈ls,l.length<=b)->∀l∈fF p r ls,l.length<=b+r.length:=by
  intro r
  induction r with
  | nil=>intro ls b h l hl;exact h l hl
  | cons y r ih=>
   intro ls b h l hl;obtain ⟨x,o⟩:=y;rw [fF] at hl;have:=ih _ (b+1) ?_ l hl
   ·simp;omega
   ·intro l' hl'
    split at hl'
    ·unfold addLocal at hl'
     split at hl'
     ·have:=h l' hl';omega
     ·rcases acj hl' with hl' | rfl
      ·have:=h l' hl';omega
      ·have hg:(ls.getD o.toNat []).length<=b:=by
        rw [List.getD]
        cases hq:ls[o.toNat]? with
        | none=>simp
        | some v=>exact h v (aaR hq)
       rw [aaw];show (ls.getD o.toNat []).length+1<=b+1;omega
    ·have:=h l' hl';omega
 have:=key ((p.nodes.zip (bD p)).take k) (cZ p) 100000 (fun l hl=>by
  obtain ⟨f,hf,rfl⟩:=abu.1 hl;exact Nat.le_of_lt (hp.args f hf)) l (aaR h)
 have hl2:((p.nodes.zip (bD p)).take k).length<=k:=by simp;omega
 omega
abbrev zq (p:Pg) (k:Nat):St:=⟨(63,.d (I k))::(62,.d (I ((p.nodes.map ndL).length:Nat)))::(61,.d (cv p.nodes))::loR p,loH p (iM (rD p k) 0) (kr (rD p k).length 0) (cY (rD p k) ((rD p k).map cG)),1000000,[],0⟩
end Uw.Tryz
namespace Uw.Tryz
open Go Uw
theorem NJ (p:Pg) (hf:bO p=true) (hp:Lim p) (k:Nat) (hk:k<p.nodes.length) (hpre:∀i,i<k->True) {QQ:aG->St->Prop}:WT P0 (nH (zq p) (Dt p.nodes.length fun _=>True) (forM p.nodes.length) k QQ) (exec ZJ (zq p k) Tree.done):=by
 have hnl:(p.nodes.map ndL).length=p.nodes.length:=by simp
 have hfl:nF p=p.ag.length:=by simp
 have hN:=hp.nodes;have hF:=hp.ag;have he:(p.nodes.map ndL)[(k:Int).toNat]? = some (ndL p.nodes[k]):=by simp [hk]
 have hown:=Gz hf _ k hk (aax _);have hoe:((bD p).map fun i=>[I i])[(k:Int).toNat]? = some [I ((bD p).getD k 0)]:=by
  have h2:k<(bD p).length:=by rw [fG];exact hk
  simp [List.getD,h2]
 have hol:((bD p).map fun i=>[I i]).length=p.nodes.length:=by rw [aaT,fG]
 have hsucc:=NI p k hk;have hlen:=B0 p k;have hth:=yr p p.nodes[k].name;generalize (bD p).getD k 0=o at *;have hloc:∀x,rx p x=((decide (x.kind=9)||decide (x.kind=10)||decide (x.kind=11))&&!decide (x.name=[])&&(bY p x.name).isNone):=fun x=>rfl;rw [hloc] at hsucc;generalize p.nodes[k]=x at *;obtain ⟨xk,xn,xs,xt,xo⟩:=x;have he:(p.nodes.map ndL)[(k:Int).toNat]? = some [I xk,I xn,.str xs,.str xt,bN xo]:=he;simp only at hsucc hth;obtain ⟨ls,hls⟩:∃ls,rD p k=ls:=⟨_,rfl⟩
 rw [hls] at hsucc hlen;have hS:zq p k=⟨(63,.d (I k))::(62,.d (I ((p.nodes.map ndL).length:Nat)))::(61,.d (cv p.nodes))::loR p,loH p (iM ls 0) (kr ls.length 0) (cY ls (ls.map cG)),1000000,[],0⟩:=by rw [zq,hls]
 have hS1:zq p (k+1)=⟨(63,.d (I ((k+1:Nat):Int)))::(62,.d (I ((p.nodes.map ndL).length:Nat)))::(61,.d (cv p.nodes))::loR p,loH p (iM (rD p (k+1)) 0) (kr (rD p (k+1)).length 0) (cY (rD p (k+1)) ((rD p (k+1)).map cG)),1000000,[],0⟩:=rfl;rw [hsucc] at hS1;rw [hS];have hmg:(kr ls.length 0)[o.toNat * 1]? = some (.hnd (mid o.toNat)):=by
  rw [acZ,aaY (by rw [dz];omega),li mid ls.length 0 _ (by omega),aaF]
 have hml:(kr ls.length 0).length=nF p:=by rw [aaw,dz,abA];omega
 have hrl:(iM ls 0).length=nF p:=by rw [aaw,eZ,abA];omega
 -- what a round comes to where nothing is added
 have uX:∀(R:gw) (H:Heap) (nx:Nat),(rx p ⟨xk,xn,xs,xt,xo⟩=true->xs∈ls.getD o.toNat [])->look H 2=some (.var (iM ls 0))->look H 3=some (.var (kr ls.length 0))->look H 1=some (.map none (thE p.decls))->look H 0=some (pgV p)->Over (cY ls (ls.map cG)) H->
   (∀rv mv fam,pI (dx []) R H (loH p rv mv fam) ((63,.d (I ((k+1:Nat):Int)))::(62,.d (I ((p.nodes.map ndL).length:Nat)))::(61,.d (cv p.nodes))::loR p))->Weak ⟨R,H,nx,[],0⟩ (zq p (k+1)):=by
  intro R H nx h0 e2 e3 e1 e0 ho hR;have:(if ((decide (xk=9)||decide (xk=10)||decide (xk=11))&&!decide (xs=[])&&(bY p xs).isNone)=true then addLocal ls o.toNat xs else ls)=ls:=by
   split
   ·rename_i h
    have:=h0 h;rw [addLocal,if_pos this]
   ·rfl
  rw [hS1,this];exact GI (by simp) (by omega) (hR _ _ _) e2 e3 e1 e0 (fun id x h=>by have:=gj h;rw [ho id this.1 (by omega)];exact h)
 clear hS hsucc hloc;by_cases hkk:xk≠9/\xk≠10/\xk≠11
 ·obtain ⟨k9,k10,k11⟩:=hkk
  repeat (first|refine aw ?_|refine f1 ?_)
  refine aX k trivial (uX _ _ _ (fun h=>by simp [rx,k9,k10,k11] at h) rfl rfl rfl rfl (by (repeat refine bJ ?_ rfl);exact bI) (fun rv mv fam=>?_))
  repeat' first|exact trivial|refine ⟨⟨_,rfl,?_⟩,?_⟩|exact dc (by first|with_reducible rfl|omega)|exact Or.inl ⟨rfl,rfl⟩
 have hk3:xk=9\/xk=10\/xk=11:=by omega
 cases ht:bY p xs with
 | some kd=>
  rw [ht] at hth;have hth:bh (thE p.decls) (.s xs)=some (I kd):=hth;by_cases hxs:xs=[]
  all_goals rcases hk3 with rfl|rfl|rfl
  all_goals (repeat (first|refine aw ?_|refine f1 ?_|refine m1 ?_))
  all_goals refine aX k trivial (uX _ _ _ (fun h=>by simp [rx,ht] at h) rfl rfl rfl rfl (by (repeat refine bJ ?_ rfl);exact bI) (fun rv mv fam=>?_))
  all_goals (repeat' first|exact trivial|refine ⟨⟨_,rfl,?_⟩,?_⟩|exact dc (by first|with_reducible rfl|omega)|exact Or.inl ⟨rfl,rfl⟩)
 | none=>
  rw [ht] at hth;have hth:bh (thE p.decls) (.s xs)=none:=hth;by_cases hxs:xs=[]
  ·rcases hk3 with rfl|rfl|rfl
   all_goals (repeat (first|refine aw ?_|refine f1 ?_|refine m1 ?_))
   all_goals refine aX k trivial (uX _ _ _ (fun h=>by simp [rx,hxs] at h) rfl rfl rfl rfl (by (repeat refine bJ ?_ rfl);exact bI) (fun rv mv fam=>?_))
   all_goals (repeat' first|exact trivial|refine ⟨⟨_,rfl,?_⟩,?_⟩|exact dc (by first|with_reducible rfl|omega)|exact Or.inl ⟨rfl,rfl⟩)
  obtain ⟨f,hfo⟩:∃f,o.toNat=f:=⟨_,rfl⟩
  have I9:f<ls.length:=by omega
  have hof:o=(f:Int):=by omega
  obtain ⟨l,hll⟩:∃l,ls[f]? = some l:=⟨ls[f],by simp [I9]⟩
  have hld:ls.getD o.toNat []=l:=by rw [hfo,List.getD,hll];rfl
  have YP:(ls.map cG).length=ls.length:=by simp
  have hlk:∀H,Over (cY ls (ls.map cG)) H->look H (mid o.toNat)=some (.map none (cG l)):=fun H ho=>by
   rw [ho _ (by simp only [mid];omega) (by simp only [mid];omega),hfo];have:=rz (yt ls.length) (ls:=ls) (ms:=ls.map cG) (i:=0) (k:=f) (m:=cG l) (by omega) I9 (by simp [hll])
   rwa [aaF] at this
  by_cases hin:xs∈l
  ·have hsg:bh (cG l) (.s xs)=some (.bool true):=by rw [t6,if_pos hin]
   rcases hk3 with rfl|rfl|rfl
   all_goals (repeat (first|refine aw ?_|refine f1 ?_|refine m1 ?_))
   all_goals refine lY _ (hlk _ (by (repeat refine bJ ?_ rfl);exact bI)) ?_
   all_goals (repeat (first|refine aw ?_|refine f1 ?_|refine m1 ?_))
   all_goals refine aX k trivial (uX _ _ _ (fun h=>by rw [hld];exact hin) rfl rfl rfl rfl (by (repeat refine bJ ?_ rfl);exact bI) (fun rv mv fam=>?_))
   all_goals (repeat' first|exact trivial|refine ⟨⟨_,rfl,?_⟩,?_⟩|exact dc (by first|with_reducible rfl|omega)|exact Or.inl ⟨rfl,rfl⟩)
  have hsg:bh (cG l) (.s xs)=none:=by rw [t6,if_neg hin]
  -- what is added
  obtain ⟨ms,hms⟩:∃ms,ms=(ls.map cG).set f (dQ (cG l) (.s xs) (.bool true)):=⟨_,rfl⟩
  have YQ:ms.length=ls.length:=by rw [hms];simp
  have ZK:ms=(ls.set f (l++[xs])).map cG:=by rw [hms,ac7,rA]
  have VA:∀b b0,∀id,look ((1000000,b)::(1000000,b0)::loH p (iM ls 0) (kr ls.length 0) (cY ls ms)) id=look ((mid o.toNat,.map none (dQ (cG l) (.s xs) (.bool true)))::(1000000,b)::(1000000,b0)::loH p (iM ls 0) (kr ls.length 0) (cY ls (ls.map cG))) id:=fun b b0 id=>by
   refine LQ (c:=[(1000000,b),(1000000,b0),(2,.var (iM ls 0)),(3,.var (kr ls.length 0)),(1,.map none (thE p.decls)),(0,pgV p)]) ?_ ?_ id
   ·intro q hq
    simp only [aaN,acQ,or_false] at hq
    rcases hq with rfl|rfl|rfl|rfl|rfl|rfl<;>simp only [mid]<;>omega
   ·intro id
    have:=I8 (yt ls.length) (dQ (cG l) (.s xs) (.bool true)) id ls (ls.map cG) 0 f (by omega) I9 (by omega);rw [aaF] at this;rw [hms,hfo];exact this
  have hlen2:(ls.set f (l++[xs])).length=ls.length:=by simp
  have hS2:zq p (k+1)=⟨(63,.d (I ((k+1:Nat):Int)))::(62,.d (I ((p.nodes.map ndL).length:Nat)))::(61,.d (cv p.nodes))::loR p,loH p (iM (ls.set f (l++[xs])) 0) (kr ls.length 0) (cY (ls.set f (l++[xs])) ms),1000000,[],0⟩:=by
   have:(if ((decide (xk=9)||decide (xk=10)||decide (xk=11))&&!decide (xs=[])&&(bY p xs).isNone)=true then addLocal ls o.toNat xs else ls)=ls.set f (l++[xs]):=by
    rw [if_pos (by rcases hk3 with rfl|rfl|rfl<;>simp [hxs,ht]),addLocal,hld,if_neg hin,hfo]
   rw [hS1,this,hlen2,<- ZK]
  have hrg:(iM ls 0)[o.toNat * 1]? = some (if l=[] then V.d (.slice 1 [] true) else .ref (rid f) 0 0 l.length):=by
   rw [acZ,hfo,aaY (by rw [eZ];exact I9),lh rid ls 0 f l hll,aaF]
  have ZW:l.length<300000:=by
   have:=Cc p hp k f l (by rw [hls];exact hll);omega
  have hcap:(decide (l.length=(rowT l).length)&&decide ((l.length+((List.replicate 1 [Dat.str []]).set 0 [Dat.str xs]).length) * 16<=70368744177664))=true:=by simp;omega
  have hrk:∀H,Over (cY ls ms) H->l≠[]->look H (rid f)=some (.arr 1 (rowT l)):=fun H ho hne=>by
   rw [ho _ (by simp only [rid];omega) (by simp only [rid];omega)];have:=xu (yt ls.length) (ls:=ls) (ms:=ms) (i:=0) (k:=f) (l:=l) (by omega) (by omega) hll hne
   rwa [aaF] at this
  have YR:∀b b0,∀id,look ((1000000,b)::(1000000,b0)::loH p (iM ls 0) (kr ls.length 0) (cY (ls.set f (l++[xs])) ms)) id=look ((rid f,.arr 1 (rowT l++(List.replicate 1 [Dat.str []]).set 0 [Dat.str xs]))::(1000000,b)::(1000000,b0)::loH p (iM ls 0) (kr ls.length 0) (cY ls ms)) id:=fun b b0 id=>by
   refine LQ (c:=[(1000000,b),(1000000,b0),(2,.var (iM ls 0)),(3,.var (kr ls.length 0)),(1,.map none (thE p.decls)),(0,pgV p)]) ?_ ?_ id
   ·intro q hq
    simp only [aaN,acQ,or_false] at hq
    rcases hq with rfl|rfl|rfl|rfl|rfl|rfl<;>simp only [rid]<;>omega
   ·intro id
    have:=BX (yt ls.length) (l':=l++[xs]) (by simp) id ls ms 0 f (by omega) I9 (by omega);rw [aaF] at this;rw [this];have e:rowT (l++[xs])=rowT l++(List.replicate 1 [Dat.str []]).set 0 [Dat.str xs]:=by simp
    rw [e]
  have hset:(iM ls 0).set (o.toNat * 1) (.ref (rid f) 0 0 (l.length+((List.replicate 1 [Dat.str []]).set 0 [Dat.str xs]).length))=cE rid 0 (ls.set f (l++[xs]))++List.replicate 0 (.d .nil):=by
   have:=EL rid ls 0 f (l++[xs]) I9;rw [if_neg (by simp),aaF] at this;rw [<- this,acZ,hfo,List.set_append_left _ _ (by rw [eZ];exact I9)];simp
  have YS:(iM ls 0).set (o.toNat * 1) (.ref 1000001 0 0 ((List.replicate 1 [Dat.str []]).set 0 [Dat.str xs]).length)=(iM ls 0).set f (.ref 1000001 0 0 ([]++[xs]).length):=by rw [acZ,hfo];rfl
  have hS3:zq p (k+1)=⟨(63,.d (I ((k+1:Nat):Int)))::(62,.d (I ((p.nodes.map ndL).length:Nat)))::(61,.d (cv p.nodes))::loR p,loH p (iM (ls.set f (l++[xs])) 0) (kr (ls.set f (l++[xs])).length 0) (cY (ls.set f (l++[xs])) ms),1000000,[],0⟩:=by rw [hS2,hlen2]
  have Xw:ms.length=(ls.set f (l++[xs])).length:=by rw [YQ,hlen2]
  have hlen3:(ls.set f (l++[xs])).length<100000:=by rw [hlen2];omega
  have YT:ls.length<100000:=by omega
  have ZL:some (Blk.var (kr ls.length 0))=some (Blk.var (kr (ls.set f (l++[xs])).length 0)):=by rw [hlen2]
  by_cases hl0:l=[]
  ·subst hl0
   have hrg:(iM ls 0)[o.toNat * 1]? = some (V.d (.slice 1 [] true)):=hrg
   rcases hk3 with rfl|rfl|rfl
   all_goals (repeat (first|refine aw ?_|refine f1 ?_|refine m1 ?_))
   all_goals refine lY _ (hlk _ (by (repeat refine bJ ?_ rfl);exact bI)) ?_
   all_goals (repeat (first|refine aw ?_|refine f1 ?_|refine m1 ?_))
   all_goals refine lY _ (hlk _ (by (repeat refine bJ ?_ rfl);exact bI)) ?_
   all_goals refine Ak _ (VA _ _) ?_
   all_goals (repeat (first|refine aw ?_|refine f1 ?_|refine m1 ?_))
   all_goals refine cm ⟨(63,.d (I k))::(62,.d (I ((p.nodes.map ndL).length:Nat)))::(61,.d (cv p.nodes))::loR p,loH p (iM (ls.set f ([]++[xs])) 0) (kr (ls.set f ([]++[xs])).length 0) (cY (ls.set f ([]++[xs])) ms),1000000,[],0⟩ ?_ (by
    refine aw ?_;refine aX k trivial (fH hS3 ?_);refine xw (ls:=ls.set f ([]++[xs])) (ms:=ms) (r:=0) (r':=0) Xw hlen3 ?_ rfl rfl rfl rfl rfl (by (repeat refine bJ ?_ rfl);exact bI)
    repeat' first|exact trivial|refine ⟨⟨_,rfl,?_⟩,?_⟩|exact dc (by first|with_reducible rfl|omega)|exact Or.inl ⟨rfl,rfl⟩)
   all_goals (repeat (first|refine aw ?_|refine f1 ?_|refine m1 ?_))
   all_goals refine aS (.inl ⟨rfl,?_⟩)
   all_goals refine Xv (p:=p) (ls:=ls) (ms:=ms) (k:=f) (l:=[]++[xs]) YQ YT I9 (by simp) ⟨⟨_,rfl,dc rfl⟩,⟨_,rfl,.inl ⟨rfl,rfl⟩⟩,⟨_,rfl,.inl ⟨rfl,rfl⟩⟩,Rj rfl rfl rfl rfl rfl⟩ ?_ YS ?_ ?_ ?_ ?_ ?_
   all_goals first|exact rfl|((repeat refine bJ ?_ rfl);exact bI)
  have hrg2:(iM ls 0)[o.toNat * 1]? = some (.ref (rid f) 0 0 l.length):=by rw [hrg,if_neg hl0]
  clear hrg
  rcases hk3 with rfl|rfl|rfl
  all_goals (repeat (first|refine aw ?_|refine f1 ?_|refine m1 ?_))
  all_goals refine lY _ (hlk _ (by (repeat refine bJ ?_ rfl);exact bI)) ?_
  all_goals (repeat (first|refine aw ?_|refine f1 ?_|refine m1 ?_))
  all_goals refine lY _ (hlk _ (by (repeat refine bJ ?_ rfl);exact bI)) ?_
  all_goals refine Ak _ (VA _ _) ?_
  all_goals (repeat (first|refine aw ?_|refine f1 ?_|refine m1 ?_))
  all_goals refine cm ⟨(63,.d (I k))::(62,.d (I ((p.nodes.map ndL).length:Nat)))::(61,.d (cv p.nodes))::loR p,loH p (iM (ls.set f (l++[xs])) 0) (kr (ls.set f (l++[xs])).length 0) (cY (ls.set f (l++[xs])) ms),1000000,[],0⟩ ?_ (by
   refine aw ?_;refine aX k trivial (fH hS3 ?_);refine xw (ls:=ls.set f (l++[xs])) (ms:=ms) (r:=0) (r':=0) Xw hlen3 ?_ rfl rfl rfl rfl rfl (by (repeat refine bJ ?_ rfl);exact bI)
   repeat' first|exact trivial|refine ⟨⟨_,rfl,?_⟩,?_⟩|exact dc (by first|with_reducible rfl|omega)|exact Or.inl ⟨rfl,rfl⟩)
  all_goals (repeat (first|refine aw ?_|refine f1 ?_|refine m1 ?_))
  all_goals refine lY _ (hrk _ (by (repeat refine bJ ?_ rfl);exact bI) hl0) ?_
  all_goals (repeat (first|refine aw ?_|refine f1 ?_|refine m1 ?_))
  all_goals refine Ak _ (YR _ _) ?_
  all_goals (repeat (first|refine aw ?_|refine f1 ?_|refine m1 ?_))
  all_goals refine aS (.inl ⟨rfl,?_⟩)
  all_goals refine xw (p:=p) (ls:=ls.set f (l++[xs])) (ms:=ms) (r:=0) (r':=0) Xw hlen3 ⟨⟨_,rfl,dc rfl⟩,⟨_,rfl,.inl ⟨rfl,rfl⟩⟩,⟨_,rfl,.inl ⟨rfl,rfl⟩⟩,⟨_,rfl,.inl ⟨rfl,rfl⟩⟩,⟨_,rfl,.inl ⟨rfl,rfl⟩⟩,⟨_,rfl,.inl ⟨rfl,rfl⟩⟩,⟨_,rfl,.inl ⟨rfl,rfl⟩⟩,⟨_,rfl,.inl ⟨rfl,rfl⟩⟩,trivial⟩ ?_ hset ?_ ?_ ?_ ?_
  all_goals first|exact rfl|exact ZL|((repeat refine bJ ?_ rfl);exact bI)|skip
end Uw.Tryz
namespace Uw.Tryz
open Go Uw
theorem uY {H:Heap}:∀(ls:List (List Str)) (i:Nat),(∀j l,ls[j]? = some l->l≠[]->look H (rid (i+j))=some (.arr 1 (rowT l)))->jo H (cE rid i ls)=some (ls.map fun l=>if l=[] then .slice 1 [] true else .slice 1 (rowT l) false)
 | [],i,h=>rfl
 | l::ls,i,h=>by
  have ih:=uY ls (i+1) (fun j l' hj hne=>by
   have:=h (j+1) l' (by simpa using hj) hne
   rwa [show i+(j+1)=i+1+j by omega] at this)
  rw [cE,jo,ih];by_cases hl:l=[]
  ·subst hl;rfl
  ·have:=h 0 l rfl hl
   rw [if_neg hl,abG,if_neg hl,V.dat,show rid i=rid (i+0) from rfl,this];have e:(List.drop 0 (rowT l)).take l.length=rowT l:=by rw [aa9,aaG (by simp)]
   simp only [e];rfl
theorem Rk {H:Heap} {p:Pg} {ls:List (List Str)} {ms:List MS} {mv:List V} (hms:ms.length=ls.length) (hl:ls.length<100000) (hH:H=loH p (iM ls 0) mv (cY ls ms)):dY H [.row 2 ls.length]=some [.slice 1 (ls.map UN) false]:=by
 have h1:jo H (iM ls 0)=some (ls.map fun l=>if l=[] then .slice 1 [] true else .slice 1 (rowT l) false):=by
  show jo H (cE rid 0 ls++[])=_;rw [aa6];refine uY ls 0 fun j l hj hne=>?_;have hjl:j<ls.length:=by
   rcases aa2 j ls.length with h|h
   ·exact h
   ·rw [aaJ h] at hj;cases hj
  have hov:Over (cY ls ms) H:=by rw [hH];(repeat refine bJ ?_ rfl);exact bI
  rw [hov _ (by simp only [rid];omega) (by simp only [rid];omega)];have:=xu (yt ls.length) (ls:=ls) (ms:=ms) (i:=0) (k:=j) (l:=l) (by omega) (by omega) hj hne
  rwa [aaF] at this ⊢
 have h2:look H 2=some (.var (iM ls 0)):=by rw [hH];rfl
 have h3:Nat.beq (iM ls 0).length ls.length=true:=by
  rw [aaw,eZ,abA];exact acT _
 simp only [dY,V.v8,h2,h1,h3,acU];rfl
theorem Xx (p:Pg) (hf:bO p=true) (hp:Lim p) (hn0:p.ag≠[]):Ret P0 kc [pgD p] (.slice 1 ((ak p).map UN) false):=by
 have hth:=ox p hp.decls;have how:=oy p hf hp;have hfl:nF p=p.ag.length:=by simp
 have ZF:(p.ag.map fuL).length=p.ag.length:=by simp
 have hF:=hp.ag;have hN:=hp.nodes;have hnl:(p.nodes.map ndL).length=p.nodes.length:=by simp
 have ZC:(decide (((p.ag.map fuL).length:Int)=((p.ag.map fuL).length:Nat))&&decide ((0:Int)<=((p.ag.map fuL).length:Nat))&&decide ((((p.ag.map fuL).length:Nat):Int) * ((24:Nat):Int)<=70368744177664))=true:=by simp at hfl ⊢;omega
 have ZD:(decide (((p.ag.map fuL).length:Int)=((p.ag.map fuL).length:Nat))&&decide ((0:Int)<=((p.ag.map fuL).length:Nat))&&decide ((((p.ag.map fuL).length:Nat):Int) * ((8:Nat):Int)<=70368744177664))=true:=by simp;omega
 have hpos:0<(p.ag.map fuL).length:=by show 0<nF p;rw [hfl];exact abR.2 hn0
 have hpi:(0:Int)<((p.ag.map fuL).length:Nat):=by omega
 have hal:(cZ p).length=p.ag.length:=by simp
 have hAl:(cZ p).length<100000:=by rw [hal];exact hF
 have hS0:zq p 0=⟨(63,.d (I ((0:Nat):Int)))::(62,.d (I ((p.nodes.map ndL).length:Nat)))::(61,.d (cv p.nodes))::loR p,loH p (cE rid 0 (cZ p)++List.replicate 0 (.d .nil)) (cg mid 0 (cZ p).length++List.replicate 0 (.d .bg)) (cY (cZ p) ((cZ p).map cG)),1000000,[],0⟩:=rfl;have hSn:Ks p (nF p)=⟨(31,.d (I (nF p:Nat)))::(30,.d (I ((p.ag.map fuL).length:Nat)))::(29,.d (.slice 3 (p.ag.map fuL) false))::loR p,loH p (cE rid 0 (cZ p)++List.replicate 0 (.d .nil)) (cg mid 0 (cZ p).length++List.replicate 0 (.d .bg)) (cY (cZ p) ((cZ p).map cG)),1000000,[],0⟩:=by
  have e:(cZ p).take (nF p)=cZ p:=aaG (by rw [hal,hfl];omega);rw [Ks,e,acu,show nF p=(cZ p).length by rw [hal,hfl]]
 have hSe:zq p p.nodes.length=⟨(63,.d (I (p.nodes.length:Nat)))::(62,.d (I ((p.nodes.map ndL).length:Nat)))::(61,.d (cv p.nodes))::loR p,loH p (iM (ak p) 0) (kr (ak p).length 0) (cY (ak p) ((ak p).map cG)),1000000,[],0⟩:=by
  rw [zq,xy]
 have hll:(ak p).length=nF p:=by rw [<- xy,B0,hfl]
 have hdat:∀H,H=loH p (iM (ak p) 0) (kr (ak p).length 0) (cY (ak p) ((ak p).map cG))->dY H [.row 2 (nF p)]=some [.slice 1 ((ak p).map UN) false]:=fun H h=>by
  have:=Rk (by simp) (by rw [hll,hfl];exact hF) h
  rwa [hll] at this
 have hms:((cZ p).map cG).length=(cZ p).length:=by simp
 refine aU rO rfl ?_
 repeat refine aw ?_
 refine ad 1 [] hth ?_
 repeat (first|refine aw ?_|refine f1 ?_)
 refine dp (nF p) (Ks p) (fun _=>True) ?_ (fun _=>?_) (fun j hj hpre=>?_)
 ·refine GI (ls:=[]) (ms:=[]) (r:=nF p - 0) (r':=nF p - 0) rfl (by simp) ?_ ?_ ?_ rfl rfl (fun id x h=>by simp [kp,look] at h)
  ·repeat' first|exact trivial|refine ⟨⟨_,rfl,?_⟩,?_⟩|exact dc (by first|with_reducible rfl|omega)|exact Or.inl ⟨rfl,rfl⟩
  ·rfl
  ·rfl
 ·rw [hSn]
  repeat (first|refine aw ?_|refine f1 ?_)
  refine aJ ?_
  repeat (first|refine aw ?_|refine f1 ?_)
  refine dp p.nodes.length (zq p) (fun _=>True) (fH hS0 ?_) (fun _=>?_) (fun k hk hpre=>?_)
  ·refine xw (ls:=cZ p) (ms:=(cZ p).map cG) (r:=0) (r':=0) hms hAl ?_ rfl rfl rfl rfl rfl (by (repeat refine bJ ?_ rfl);exact bI)
   repeat' first|exact trivial|refine ⟨⟨_,rfl,?_⟩,?_⟩|exact dc (by first|with_reducible rfl|omega)|exact Or.inl ⟨rfl,rfl⟩
  ·rw [hSe]
   repeat (first|refine aw ?_|refine f1 ?_)
   refine aJ ?_
   repeat (first|refine aw ?_|refine f1 ?_)
   exact aC rfl rfl (hdat _ rfl) rfl rfl
  ·exact NJ p hf hp k hk hpre
 ·exact NG p hp j (by omega) hpre
theorem UQ (l:List Str):wc (UN l) [gV l]:=by
 refine .cons ?_ (.refl _)
 split
 ·rename_i h;subst h;exact .slice (.refl _)
 ·exact .refl _
abbrev tA (ls:List (List Str)):Dat:=.slice 1 (ls.map fun l=>[gV l]) false
theorem tB (p:Pg) (hf:bO p=true) (hp:Lim p):Ret P0 kc [pgD p] (tA (ak p)):=by
 by_cases hn0:p.ag=[]
 ·obtain ⟨h1,h2⟩:=Xt p hf hp hn0
  rw [h1];exact h2.res (.slice (.refl _))
 ·refine (Xx p hf hp hn0).res (.slice ?_)
  generalize ak p=ls
  induction ls with
  | nil=>exact .refl _
  | cons l ls ih=>exact .cons (UQ l) ih
end Uw.Tryz
namespace Uw.Tryz
open Go Uw
theorem lU (p:Pg):(ak p).length=p.ag.length:=by rw [<- xy,B0]
theorem CB (p:Pg) (hp:Lim p) (f:Int):Ret P0 nS [pgD p,I f] (gV (kn p f)):=by
 have hfm:=tu p hp;have hlo:=fun h=>tB p h hp;have hfl:(p.ag.map fuL).length=p.ag.length:=by simp
 have hll:=lU p;by_cases hbad:f<0\/(p.ag.length:Int)<=f\/bO p=false
 ·have hr:kn p f=[]:=by rw [kn,if_pos hbad]
  rw [hr];refine Ret.res (r:=.nil) ?_ (.nil 1);refine aU rP rfl ?_;by_cases h1:f<0
  ·repeat refine aw ?_
   exact aC rfl rfl rfl rfl rfl
  by_cases h2:(p.ag.length:Int)<=f
  ·repeat refine aw ?_
   exact aC rfl rfl rfl rfl rfl
  ·have h3:bO p=false:=by rcases hbad with h|h|h;exact absurd h h1;exact absurd h h2;exact h
   rw [h3] at hfm
   repeat refine aw ?_
   exact aC rfl rfl rfl rfl rfl
 ·have h1:¬f<0:=fun h=>hbad (.inl h)
  have h2:f<(p.ag.length:Int):=by omega
  have h3:bO p=true:=by
   cases h:bO p with
   | true=>rfl
   | false=>exact absurd (.inr (.inr h)) hbad
  rw [h3] at hfm;have hlo:=hlo h3;have hr:kn p f=(ak p).getD f.toNat []:=by rw [kn,if_neg hbad]
  obtain ⟨l,hl⟩:∃l,(ak p)[f.toNat]? = some l:=⟨(ak p)[f.toNat]'(by omega),by simp⟩
  have hel:((ak p).map fun l=>[gV l])[f.toNat]? = some [gV l]:=by simp [hl]
  have hml:((ak p).map fun l=>[gV l]).length=p.ag.length:=by simp [hll]
  rw [hr,List.getD,hl];refine aU rP rfl ?_
  repeat refine aw ?_
  exact aC rfl rfl rfl rfl rfl
def mb (k:Int) (s:Str):Dat:=.tuple [I ((ko k s).getD 0),.bool (ko k s).isSome]
theorem pV (k:Int) (s:Str):Ret P0 uS [I k,.str s] (mb k s):=by
 by_cases k1:k=1
 ·subst k1
  by_cases a1:s=QV
  ·subst a1;refine aU cV rfl ?_;repeat refine aw ?_
   exact aC rfl rfl rfl rfl rfl
  by_cases a2:s=QW
  ·subst a2;refine aU cV rfl ?_;repeat refine aw ?_
   exact aC rfl rfl rfl rfl rfl
  by_cases a3:s=QX
  ·subst a3;refine aU cV rfl ?_;repeat refine aw ?_
   exact aC rfl rfl rfl rfl rfl
  have e:mb 1 s = .tuple [I 0,.bool false]:=by simp [mb,ko,a1,a2,a3]
  rw [e];have b1:¬s=[103,101,116]:=a1;have b2:¬s=[100,101,108]:=a2;have b3:¬s=[112,117,116]:=a3;refine aU cV rfl ?_;repeat refine aw ?_
  exact aC rfl rfl rfl rfl rfl
 by_cases k2:k=2
 ·subst k2
  by_cases a1:s=IP
  ·subst a1;refine aU cV rfl ?_;repeat refine aw ?_
   exact aC rfl rfl rfl rfl rfl
  by_cases a2:s=QY
  ·subst a2;refine aU cV rfl ?_;repeat refine aw ?_
   exact aC rfl rfl rfl rfl rfl
  have e:mb 2 s = .tuple [I 0,.bool false]:=by simp [mb,ko,a1,a2]
  rw [e];have b1:¬s=[112,117,115,104]:=a1;have b2:¬s=[112,111,112]:=a2;refine aU cV rfl ?_;repeat refine aw ?_
  exact aC rfl rfl rfl rfl rfl
 by_cases k3:k=3
 ·subst k3
  by_cases a1:s=IQ
  ·subst a1;refine aU cV rfl ?_;repeat refine aw ?_
   exact aC rfl rfl rfl rfl rfl
  by_cases a2:s=IR
  ·subst a2;refine aU cV rfl ?_;repeat refine aw ?_
   exact aC rfl rfl rfl rfl rfl
  have e:mb 3 s = .tuple [I 0,.bool false]:=by simp [mb,ko,a1,a2]
  rw [e];have b1:¬s=[115,101,110,100]:=a1;have b2:¬s=[114,101,99,118]:=a2;refine aU cV rfl ?_;repeat refine aw ?_
  exact aC rfl rfl rfl rfl rfl
 have e:mb k s = .tuple [I 0,.bool false]:=by simp [mb,ko,k1,k2,k3]
 rw [e];refine aU cV rfl ?_;repeat refine aw ?_
 exact aC rfl rfl rfl rfl rfl
end Uw.Tryz
namespace Uw.Tryz
open Go Uw
def sd:Nat->List Fu->MS->MS
 | _,[],es=>es
 | i,f::r,es=>sd (i+1) r (if (bh es (.s f.name)).isSome then es else dQ es (.s f.name) (I i))
def fnE (fs:List Fu):MS:=sd 0 fs []
theorem CG (s:Str):∀(fs:List Fu) (i:Nat) (es:MS),bh (sd i fs es) (.s s)=(bh es (.s s)).or ((fs.findIdx? fun f=>decide (f.name=s)).map fun j=>I ((i+j:Nat):Int))
 | [],i,es=>by simp [sd]
 | f::fs,i,es=>by
  rw [sd,CG s fs,List.findIdx?_cons];have h1:bh (if (bh es (.s f.name)).isSome=true then es else dQ es (.s f.name) (I i)) (.s s)=(bh es (.s s)).or (if f.name=s then some (I i) else none):=by
   split
   ·rename_i h
    by_cases he:f.name=s
    ·subst he
     cases hm:bh es (.s f.name) with
     | none=>rw [hm] at h;cases h
     | some v=>rfl
    ·rw [if_neg he];simp
   ·rename_i h
    rw [gi];by_cases he:f.name=s
    ·subst he
     simp only [if_true]
     cases hm:bh es (.s f.name) with
     | none=>rfl
     | some v=>rw [hm] at h;simp at h
    ·rw [if_neg he,if_neg (by simp;exact fun e=>he e.symm)];simp
  rw [h1];by_cases he:f.name=s
  ·rw [if_pos he]
   simp only [he,decide_true,if_true]
   cases bh es (.s s)<;>simp
  ·rw [if_neg he]
   simp only [he,decide_false]
   cases bh es (.s s) with
   | some v=>simp
   | none=>
    simp only [Option.or_none,adl]
    cases fs.findIdx? fun f=>decide (f.name=s) with
    | none=>rfl
    | some j=>simp;omega
theorem GR (p:Pg) (s:Str):bh (fnE p.ag) (.s s)=(eY p s).map fun (j:Nat)=>I ((j:Nat):Int):=by
 rw [fnE,CG];simp only [bh,adl,aaF];rfl
abbrev sCs (p:Pg):List V:=[.d (.slice 3 (p.decls.map cO) false),.d (.slice 3 (p.ag.map fuL) false),.d (cv p.nodes),.hnd 0,.hnd 1,.d (bN (bD p)),.d (tA (ak p))]
abbrev sBs (p:Pg):List Blk:=[.map none (thE p.decls),.map none (fnE p.ag)]
abbrev sHp (p:Pg):Heap:=[(2,.var (sCs p)),(0,.map none (thE p.decls)),(1,.map none (fnE p.ag))]
theorem DN (p:Pg) (hp:Lim p):aE P0 mA [.agg (sCs p)] (sBs p) (.d (.bool (tt p))) (sBs p):=by
 have hN:=hp.nodes;have hnl:(p.nodes.map ndL).length=p.nodes.length:=by simp
 have hall:(∀(j:Nat) (h:j<p.nodes.length),BH p p.nodes[j]=false)->tt p=false:=fun h=>by
  rw [tt,abp];intro x hx;obtain ⟨j,hj,rfl⟩:=aa8.1 hx;rw [h j hj];simp
 have hone:∀(j:Nat) (h:j<p.nodes.length),BH p p.nodes[j]=true->tt p=true:=fun j h e=>by
  rw [tt,abK];exact ⟨_,aaQ h,e⟩
 generalize tt p=R at *;refine ax sP rfl ?_
 repeat refine aw ?_
 refine dp p.nodes.length (fun j:Nat=>⟨[(13,.d (I j)),(12,.d (I ((p.nodes.map ndL).length:Nat))),(11,.d (cv p.nodes)),(1,.ptr 2 0)],sHp p,3,[],2⟩) (fun j=>∀h:j<p.nodes.length,BH p p.nodes[j]=false) (by exact Uw.wM) (fun hg=>?_) (fun j hj hg=>?_)
 ·rw [hall (fun j h=>hg j h h)]
  repeat refine aw ?_
  refine aJ ?_
  repeat refine aw ?_
  refine aF 2 rfl rfl ?_;exact Uw.wM
 have he:(p.nodes.map ndL)[(j:Int).toNat]? = some (ndL p.nodes[j]):=by simp [hj]
 have hone:=hone j hj;have hth:=yr p p.nodes[j].name;clear hall;have hG:BH p p.nodes[j]=false->(fun j=>∀h:j<p.nodes.length,BH p p.nodes[j]=false) j:=fun h _=>h;have hd:∀x,BH p x=(if x.kind=2\/x.kind=9 then (match bY p x.name with|some k=>!decide (k=0)|none=>false)
  else if x.kind=10\/x.kind=11 then (bY p x.name).isSome
  else if x.kind=8 then (ko ((bY p x.name).getD 0) x.name2).isNone
  else false):=fun x=>rfl
 rw [hd] at hone hG;clear hd;generalize p.nodes[j]=x at *;obtain ⟨xk,xn,xs,xt,xo⟩:=x;have he:(p.nodes.map ndL)[(j:Int).toNat]? = some [I xk,I xn,.str xs,.str xt,bN xo]:=he;simp only at hone hG hth
 cases ht:bY p xs with
 | none=>
  rw [ht] at hth hone hG;have hth:bh (thE p.decls) (.s xs)=none:=hth;by_cases k8:xk=8
  ·subst k8
   have hne:=pV 0 xt;rw [mb] at hne
   cases hq:ko 0 xt with
   | some c=>
    rw [hq] at hne;have hG1:=hG (by simp [hq])
    repeat (first|refine aw ?_|refine f1 ?_|refine m1 ?_)
    exact aX j hG1 (by exact Uw.wM)
   | none=>
    rw [hq] at hne;rw [hone (by simp [hq])]
    repeat (first|refine aw ?_|refine f1 ?_|refine m1 ?_)
    refine bV (aF 2 rfl rfl ?_);exact Uw.wM
  have hG1:=hG (by simp [k8]);by_cases h:xk=2\/xk=9\/xk=10\/xk=11
  ·rcases h with rfl|rfl|rfl|rfl
   all_goals repeat (first|refine aw ?_|refine f1 ?_|refine m1 ?_)
   all_goals exact aX j hG1 (by exact Uw.wM)
  obtain ⟨k2,k9,k10,k11⟩:xk≠2/\xk≠9/\xk≠10/\xk≠11:=by omega
  repeat (first|refine aw ?_|refine f1 ?_|refine m1 ?_)
  exact aX j hG1 (by exact Uw.wM)
 | some kd=>
  rw [ht] at hth hone hG;have hth:bh (thE p.decls) (.s xs)=some (I kd):=hth;by_cases k8:xk=8
  ·subst k8
   have hne:=pV kd xt;rw [mb] at hne
   cases hq:ko kd xt with
   | some c=>
    rw [hq] at hne;have hG1:=hG (by simp [hq])
    repeat (first|refine aw ?_|refine f1 ?_|refine m1 ?_)
    exact aX j hG1 (by exact Uw.wM)
   | none=>
    rw [hq] at hne;rw [hone (by simp [hq])]
    repeat (first|refine aw ?_|refine f1 ?_|refine m1 ?_)
    refine bV (aF 2 rfl rfl ?_);exact Uw.wM
  by_cases h2:xk=2\/xk=9
  ·by_cases hk:kd=0
   ·have hG1:=hG (by rw [if_pos h2];simp [hk])
    rcases h2 with rfl|rfl
    all_goals repeat (first|refine aw ?_|refine f1 ?_|refine m1 ?_)
    all_goals exact aX j hG1 (by exact Uw.wM)
   ·rw [hone (by rw [if_pos h2];simp [hk])]
    rcases h2 with rfl|rfl
    all_goals repeat (first|refine aw ?_|refine f1 ?_|refine m1 ?_)
    all_goals refine bV (aF 2 rfl rfl ?_)
    all_goals exact Uw.wM
  by_cases h1:xk=10\/xk=11
  ·rw [hone (by rw [if_neg h2,if_pos h1];rfl)]
   rcases h1 with rfl|rfl
   all_goals repeat (first|refine aw ?_|refine f1 ?_|refine m1 ?_)
   all_goals refine bV (aF 2 rfl rfl ?_)
   all_goals exact Uw.wM
  have hG1:=hG (by rw [if_neg h2,if_neg h1,if_neg k8]);obtain ⟨k2,k9,k10,k11⟩:xk≠2/\xk≠9/\xk≠10/\xk≠11:=by omega
  repeat (first|refine aw ?_|refine f1 ?_|refine m1 ?_)
  exact aX j hG1 (by exact Uw.wM)
end Uw.Tryz
namespace Uw.Tryz
open Go Uw
theorem VB (p:Pg) (hF:p.ag≠[]) (s:Str):∃f:Fu,f.args.length=argsAt p s/\((bh (fnE p.ag) (.s s)=none/\(p.ag.map fuL)[(0:Int).toNat]? = some (fuL f))\/∃i:Nat,bh (fnE p.ag) (.s s)=some (I i)/\i<p.ag.length/\(p.ag.map fuL)[((i:Nat):Int).toNat]? = some (fuL f)):=by
 have hpos:=abR.2 hF
 cases hq:eY p s with
 | none=>
  refine ⟨p.ag[0],?_,.inl ⟨by rw [GR,hq];rfl,?_⟩⟩
  ·rw [argsAt,hq];simp [List.getD,hpos]
  ·show (p.ag.map fuL)[0]? = _
   simp [hpos]
 | some i=>
  have hi:i<p.ag.length:=by
   rw [eY] at hq;exact (aby.1 hq).1
  refine ⟨p.ag[i],?_,.inr ⟨i,by rw [GR,hq];rfl,hi,?_⟩⟩
  ·rw [argsAt,hq];simp [List.getD,hi]
  ·show (p.ag.map fuL)[i]? = _
   simp [hi]
theorem iY {P:Program} {Q:aG->St->Prop} {S:Nat->St} {inv:Nat->Prop} {mu:Nat->Nat} {x:Nat} {kk:aG->St->Tree} (hkk:∀s,kk .ret s=Tree.done .ret s) {s:St} (h:WT P Q (.done .ret s)):WT P (nH S inv mu x fun e s=>WT P Q (kk e s)) (.done .ret s):=
 bV (by show WT P Q (kk .ret s);rw [hkk];exact h)
def mnB:ck:=qL (qL (qR (qL (qR (qR jg.code)))))
abbrev mnS (p:Pg) (j:Nat):St:=⟨[(21,.d (I j)),(20,.d (I ((p.nodes.map ndL).length:Nat))),(19,.d (cv p.nodes)),(1,.ptr 2 0)],sHp p,3,[],2⟩
abbrev mnG (p:Pg) (j:Nat):Prop:=∀h:j<p.nodes.length,manyN p p.nodes[j]=false
theorem CH (p:Pg) (hp:Lim p) (hF0:p.ag≠[]) (R:Bool) (j:Nat) (hj:j<p.nodes.length) (hone:manyN p p.nodes[j]=true->R=true) (hpre:∀i,i<j->mnG p i) {kk:aG->St->Tree} (hkk:∀s,kk .ret s=Tree.done .ret s) :
  WT P0 (nH (mnS p) (Dt p.nodes.length (mnG p)) (forM p.nodes.length) j fun e s=>WT P0 (EQ 2 jg.res (.d (.bool R)) (sBs p)) (kk e s)) (exec mnB (mnS p j) Tree.done):=by
 have hN:=hp.nodes;have hF:=hp.ag;have hpos:=abR.2 hF0;have hpi:(0:Int)<((p.ag.map fuL).length:Nat):=by rw [aaT];omega
 have hnl:(p.nodes.map ndL).length=p.nodes.length:=by simp
 have hfl:(p.ag.map fuL).length=p.ag.length:=by simp
 have hfm:=VB p hF0;have he:(p.nodes.map ndL)[(j:Int).toNat]? = some (ndL p.nodes[j]):=by simp [hj]
 have hth:=yr p p.nodes[j].name;have hG:manyN p p.nodes[j]=false->mnG p j:=fun h _=>h;have hd:∀x,manyN p x=(if x.kind=10 then !decide (x.of.length=argsAt p x.name2) else if x.kind=11 then !decide (argsAt p x.name2=1) else if x.kind=8 then !decide ((x.of.length:Int)=(ko ((bY p x.name).getD 0) x.name2).getD 0) else false):=fun x=>rfl;rw [hd] at hone hG;clear hd;generalize p.nodes[j]=x at *;obtain ⟨xk,xn,xs,xt,xo⟩:=x;have he:(p.nodes.map ndL)[(j:Int).toNat]? = some [I xk,I xn,.str xs,.str xt,.slice 1 (xo.map fun i=>[I i]) false]:=he;simp only at hone hG hth;have hol:(xo.map fun i=>[I i]).length=xo.length:=by simp
 obtain ⟨f,hf1,hf2⟩:=hfm xt;have hf3:(f.args.map fun s=>[Dat.str s]).length=argsAt p xt:=by rw [aaT];exact hf1
 clear hfm hf1;generalize argsAt p xt=af at *;obtain ⟨fn,fa,fb⟩:=f;simp only at hf3 hf2;by_cases k10:xk=10
 ·by_cases hw:xo.length=af
  ·have hG1:=hG (by rw [if_pos k10];simp [hw])
   have hw2:((xo.map fun i=>[I i]).length:Int)=((fa.map fun s=>[Dat.str s]).length:Nat):=by omega
   subst k10
   rcases hf2 with ⟨h1,h2⟩|⟨i,h1,h3,h2⟩
   all_goals have h2:_=some [.str fn,.slice 1 (fa.map fun s=>[Dat.str s]) false,I fb]:=h2
   all_goals repeat (first|refine aw ?_|refine f1 ?_|refine m1 ?_)
   all_goals exact aX j hG1 (by exact Uw.wM)
  ·rw [hone (by rw [if_pos k10];simp [hw])]
   have hw2:¬((xo.map fun i=>[I i]).length:Int)=((fa.map fun s=>[Dat.str s]).length:Nat):=by omega
   subst k10
   rcases hf2 with ⟨h1,h2⟩|⟨i,h1,h3,h2⟩
   all_goals have h2:_=some [.str fn,.slice 1 (fa.map fun s=>[Dat.str s]) false,I fb]:=h2
   all_goals repeat (first|refine aw ?_|refine f1 ?_|refine m1 ?_)
   all_goals refine iY hkk (aF 2 rfl rfl ?_)
   all_goals exact Uw.wM
 by_cases k11:xk=11
 ·by_cases hw:af=1
  ·have hG1:=hG (by rw [if_neg k10,if_pos k11];simp [hw])
   have hw2:((fa.map fun s=>[Dat.str s]).length:Int)=1:=by omega
   subst k11
   rcases hf2 with ⟨h1,h2⟩|⟨i,h1,h3,h2⟩
   all_goals have h2:_=some [.str fn,.slice 1 (fa.map fun s=>[Dat.str s]) false,I fb]:=h2
   all_goals repeat (first|refine aw ?_|refine f1 ?_|refine m1 ?_)
   all_goals exact aX j hG1 (by exact Uw.wM)
  ·rw [hone (by rw [if_neg k10,if_pos k11];simp [hw])]
   have hw2:¬((fa.map fun s=>[Dat.str s]).length:Int)=1:=by omega
   subst k11
   rcases hf2 with ⟨h1,h2⟩|⟨i,h1,h3,h2⟩
   all_goals have h2:_=some [.str fn,.slice 1 (fa.map fun s=>[Dat.str s]) false,I fb]:=h2
   all_goals repeat (first|refine aw ?_|refine f1 ?_|refine m1 ?_)
   all_goals refine iY hkk (aF 2 rfl rfl ?_)
   all_goals exact Uw.wM
 clear hf2 hf3;by_cases k8:xk=8
 ·obtain ⟨kd,hkd⟩:∃kd,(bY p xs).getD 0=kd:=⟨_,rfl⟩
  have hne:=pV kd xt;rw [mb] at hne;rw [hkd] at hone hG;generalize (ko kd xt).isSome=b at hne;generalize (ko kd xt).getD 0=nd at *;by_cases hw:(xo.length:Int)=nd
  ·have hG1:=hG (by rw [if_neg k10,if_neg k11,if_pos k8];simp [hw])
   have hw2:((xo.map fun i=>[I i]).length:Int)=nd:=by omega
   subst k8
   cases ht:bY p xs with
   | none=>
    rw [ht] at hth hkd;have hth:bh (thE p.decls) (.s xs)=none:=hth;obtain rfl:kd=0:=hkd.symm
    repeat (first|refine aw ?_|refine f1 ?_|refine m1 ?_)
    exact aX j hG1 (by exact Uw.wM)
   | some kd'=>
    rw [ht] at hth hkd;have hth:bh (thE p.decls) (.s xs)=some (I kd'):=hth;obtain rfl:kd' = kd:=hkd
    repeat (first|refine aw ?_|refine f1 ?_|refine m1 ?_)
    exact aX j hG1 (by exact Uw.wM)
  ·rw [hone (by rw [if_neg k10,if_neg k11,if_pos k8];simp [hw])]
   have hw2:¬((xo.map fun i=>[I i]).length:Int)=nd:=by omega
   subst k8
   cases ht:bY p xs with
   | none=>
    rw [ht] at hth hkd;have hth:bh (thE p.decls) (.s xs)=none:=hth;obtain rfl:kd=0:=hkd.symm
    repeat (first|refine aw ?_|refine f1 ?_|refine m1 ?_)
    refine iY hkk (aF 2 rfl rfl ?_);exact Uw.wM
   | some kd'=>
    rw [ht] at hth hkd;have hth:bh (thE p.decls) (.s xs)=some (I kd'):=hth;obtain rfl:kd' = kd:=hkd
    repeat (first|refine aw ?_|refine f1 ?_|refine m1 ?_)
    refine iY hkk (aF 2 rfl rfl ?_);exact Uw.wM
 have hG1:=hG (by rw [if_neg k10,if_neg k11,if_neg k8])
 repeat (first|refine aw ?_|refine f1 ?_|refine m1 ?_)
 exact aX j hG1 (by exact Uw.wM)
theorem DO (p:Pg) (hp:Lim p) (hF0:p.ag≠[]):aE P0 mB [.agg (sCs p)] (sBs p) (.d (.bool (ov p))) (sBs p):=by
 have hN:=hp.nodes;have hF:=hp.ag;have hpos:=abR.2 hF0;have hpi:(0:Int)<((p.ag.map fuL).length:Nat):=by rw [aaT];omega
 have hnl:(p.nodes.map ndL).length=p.nodes.length:=by simp
 have hfl:(p.ag.map fuL).length=p.ag.length:=by simp
 have hall:¬0<argsAt p iJ->(∀(j:Nat) (h:j<p.nodes.length),manyN p p.nodes[j]=false)->ov p=false:=fun h0 h=>by
  rw [ov,decide_eq_false h0,Bool.false_or,abp];intro x hx;obtain ⟨j,hj,rfl⟩:=aa8.1 hx;rw [h j hj];simp
 have hone:∀(j:Nat) (h:j<p.nodes.length),manyN p p.nodes[j]=true->ov p=true:=fun j h e=>by
  rw [ov,abg,abK];exact .inr ⟨_,aaQ h,e⟩
 have hzero:0<argsAt p iJ->ov p=true:=fun h=>by rw [ov,decide_eq_true h];rfl
 have hfm:=VB p hF0;generalize ov p=R at *;obtain ⟨fm,hm1,hm2⟩:=hfm iJ;have hm3:(fm.args.map fun s=>[Dat.str s]).length=argsAt p iJ:=by rw [aaT];exact hm1
 rw [<- hm3] at hzero hall;generalize argsAt p iJ=am at *;obtain ⟨fmn,fma,fmb⟩:=fm;simp only at hm3 hzero hall hm2;refine ax sQ rfl ?_;by_cases ha:0<(fma.map fun s=>[Dat.str s]).length
 ·rw [hzero ha]
  have ha2:(0:Int)<((fma.map fun s=>[Dat.str s]).length:Nat):=by omega
  rcases hm2 with ⟨g1,g2⟩|⟨i,g1,g3,g2⟩
  all_goals have g2:_=some [.str fmn,.slice 1 (fma.map fun s=>[Dat.str s]) false,I fmb]:=g2
  all_goals have g1:bh (fnE p.ag) (.s [109,97,105,110])=_:=g1
  all_goals repeat (first|refine aw ?_|refine f1 ?_|refine m1 ?_)
  all_goals refine aF 2 rfl rfl ?_
  all_goals exact Uw.wM
 have ha2:¬(0:Int)<((fma.map fun s=>[Dat.str s]).length:Nat):=by omega
 have hall:=hall ha;clear hzero
 rcases hm2 with ⟨g1,g2⟩|⟨im,g1,g3,g2⟩
 ·have g2:_=some [.str fmn,.slice 1 (fma.map fun s=>[Dat.str s]) false,I fmb]:=g2
  have g1:bh (fnE p.ag) (.s [109,97,105,110])=_:=g1
  repeat (first|refine aw ?_|refine f1 ?_|refine m1 ?_)
  refine dp p.nodes.length (mnS p) (mnG p) (by exact Uw.wM) (fun hg=>?_) (fun j hj hg=>CH p hp hF0 R j hj (hone j hj) hg (fun s=>rfl));rw [hall (fun j h=>hg j h h)]
  repeat refine aw ?_
  refine aJ ?_
  repeat refine aw ?_
  refine aF 2 rfl rfl ?_;exact Uw.wM
 ·have g2:_=some [.str fmn,.slice 1 (fma.map fun s=>[Dat.str s]) false,I fmb]:=g2
  have g1:bh (fnE p.ag) (.s [109,97,105,110])=_:=g1
  repeat (first|refine aw ?_|refine f1 ?_|refine m1 ?_)
  refine dp p.nodes.length (mnS p) (mnG p) (by exact Uw.wM) (fun hg=>?_) (fun j hj hg=>CH p hp hF0 R j hj (hone j hj) hg (fun s=>rfl));rw [hall (fun j h=>hg j h h)]
  repeat refine aw ?_
  refine aJ ?_
  repeat refine aw ?_
  refine aF 2 rfl rfl ?_;exact Uw.wM
end Uw.Tryz
namespace Uw.Tryz
open Go Uw
theorem CJ:∀(fs:List Fu) (i:Nat) (es:MS),(sd i fs es).length<=es.length+fs.length/\((sd i fs es).length=es.length+fs.length<->(fs.map (·.name)).Nodup/\∀f∈fs,bh es (.s f.name)=none)
 | [],i,es=>by simp [sd]
 | f::fs,i,es=>by
  rw [sd]
  cases hm:bh es (.s f.name) with
  | some v=>
   obtain ⟨h1,h2⟩:=CJ fs (i+1) es;rw [if_pos (by rfl)];refine ⟨by simp;omega,⟨fun h=>?_,fun h=>?_⟩⟩
   ·simp at h;omega
   ·have:=h.2 f (by simp);rw [hm] at this;cases this
  | none=>
   obtain ⟨h1,h2⟩:=CJ fs (i+1) (dQ es (.s f.name) (I i));rw [if_neg (by simp)];have hs:(dQ es (.s f.name) (I i)).length=es.length+1:=by rw [BP,hm];rfl
   rw [hs] at h1 h2;refine ⟨by simp;omega,?_⟩;rw [show es.length+(f::fs).length=es.length+1+fs.length by simp;omega,h2,abG,acF];have hg:∀s:Str,bh (dQ es (.s f.name) (I i)) (.s s)=if s=f.name then some (I i) else bh es (.s s):=fun s=>by
    rw [gi];simp
   constructor
   ·rintro ⟨g1,g2⟩
    refine ⟨⟨fun hin=>?_,g1⟩,fun f' hf'=>?_⟩
    ·obtain ⟨f',hf',he⟩:=abu.1 hin
     have:=g2 f' hf';rw [hg,if_pos he] at this
     cases this
    ·rcases aaN.1 hf' with rfl|hf'
     ·exact hm
     ·have:=g2 f' hf'
      rw [hg] at this
      split at this
      ·cases this
      ·exact this
   ·rintro ⟨⟨g1,g2⟩,g3⟩
    refine ⟨g2,fun f' hf'=>?_⟩;rw [hg,if_neg (fun e=>g1 (abu.2 ⟨f',hf',e⟩))];exact g3 f' (by simp [hf'])
theorem Kt (p:Pg):(thE p.decls).length<p.decls.length<->¬(p.decls.map (·.name)).Nodup:=by
 obtain ⟨h1,h2⟩:=BS p.decls [];have e:(∀d∈p.decls,bh ([]:MS) (.s d.name)=none):=fun _ _=>rfl;constructor
 ·intro h hn
  have:=h2.2 ⟨hn,e⟩;rw [thE] at h;simp at this;omega
 ·intro h
  refine Classical.byContradiction fun h3=>h (h2.1 ?_).1;rw [thE] at h3;simp at h1 h3 ⊢;omega
theorem Ku (p:Pg):(fnE p.ag).length<p.ag.length<->¬(p.ag.map (·.name)).Nodup:=by
 obtain ⟨h1,h2⟩:=CJ p.ag 0 [];have e:(∀f∈p.ag,bh ([]:MS) (.s f.name)=none):=fun _ _=>rfl;constructor
 ·intro h hn
  have:=h2.2 ⟨hn,e⟩;rw [fnE] at h;simp at this;omega
 ·intro h
  refine Classical.byContradiction fun h3=>h (h2.1 ?_).1;rw [fnE] at h3;simp at h1 h3 ⊢;omega
def LS (p:Pg) (l:List Str) (i:Nat):Prop:=∀h:i<l.length,bY p l[i]=none/\l[i]∉l.take i
theorem Ja (p:Pg):∀(r seen:List Str),tr p seen r=false<->∀(i:Nat) (h:i<r.length),bY p r[i]=none/\r[i]∉seen/\r[i]∉r.take i
 | [],seen=>by simp [tr]
 | a::r,seen=>by
  rw [tr,abj,abj,Ja p r (a::seen)];constructor
  ·rintro ⟨⟨h1,h2⟩,h3⟩ i h
   cases i with
   | zero=>exact ⟨by simpa using h1,by simpa using h2,by simp⟩
   | succ i=>
    obtain ⟨g1,g2,g3⟩:=h3 i (by simpa using h);rw [aaN,not_or] at g2;refine ⟨g1,g2.2,?_⟩;rw [abd,aaN,not_or];exact ⟨g2.1,g3⟩
  ·intro h
   obtain ⟨a1,a2,a3⟩:=h 0 (by simp);refine ⟨⟨by simpa using a1,by simpa using a2⟩,fun i hi=>?_⟩;obtain ⟨b1,b2,b3⟩:=h (i+1) (by simpa using hi);rw [abd,aaN,not_or] at b3;exact ⟨b1,by rw [aaN,not_or];exact ⟨b3.1,b2⟩,b3.2⟩
theorem NK (p:Pg) (l:List Str):tr p [] l=false<->∀i,i<l.length->LS p l i:=by
 rw [Ja];constructor
 ·intro h i hi _;exact ⟨(h i hi).1,(h i hi).2.2⟩
 ·intro h i hi;exact ⟨(h i hi hi).1,by simp,(h i hi hi).2⟩
end Uw.Tryz
namespace Uw.Tryz
open Go Uw
abbrev twS (p:Pg) (j:Nat) (fa:List Str) (E:Nat->MS) (i:Nat):St:=⟨[(40,.d (I i)),(39,.d (I ((fa.map fun s=>[Dat.str s]).length:Nat))),(38,.d (gV fa)),(5,.hnd 4),(32,.d (I j)),(31,.d (I ((p.ag.map fuL).length:Nat))),(30,.d (.slice 3 (p.ag.map fuL) false)),(1,.ptr 2 0)],(4,.map none (E i))::sHp p,5,[],2⟩
theorem CM (p:Pg) (hp:Lim p):aE P0 lI [.agg (sCs p)] (sBs p) (.d (.bool (jm p))) (sBs p):=by
 have hF:=hp.ag;have hD:=hp.decls;have hfl:(p.ag.map fuL).length=p.ag.length:=by simp
 have hdl:(p.decls.map cO).length=p.decls.length:=by simp
 have h1:=Kt p;have h2:=Ku p;have hargs:=hp.args;refine ax rW rfl ?_;by_cases hD1:(thE p.decls).length<p.decls.length
 ·have hR:jm p=true:=by rw [jm,decide_eq_false (h1.1 hD1)];rfl
  rw [hR];have hD2:(((thE p.decls).length:Nat):Int)<((p.decls.map cO).length:Nat):=by omega
  repeat (first|refine aw ?_|refine f1 ?_|refine m1 ?_)
  refine aF 2 rfl rfl ?_;exact Uw.wM
 have hDn:(p.decls.map (·.name)).Nodup:=Classical.byContradiction fun h=>hD1 (h1.2 h);have hD2:¬(((thE p.decls).length:Nat):Int)<((p.decls.map cO).length:Nat):=by omega
 by_cases hF1:(fnE p.ag).length<p.ag.length
 ·have hR:jm p=true:=by rw [jm,decide_eq_true hDn,decide_eq_false (h2.1 hF1)];rfl
  rw [hR];have hF2:(((fnE p.ag).length:Nat):Int)<((p.ag.map fuL).length:Nat):=by omega
  repeat (first|refine aw ?_|refine f1 ?_|refine m1 ?_)
  refine aF 2 rfl rfl ?_;exact Uw.wM
 have hFn:(p.ag.map (·.name)).Nodup:=Classical.byContradiction fun h=>hF1 (h2.2 h);have hF2:¬(((fnE p.ag).length:Nat):Int)<((p.ag.map fuL).length:Nat):=by omega
 have hR:jm p=p.ag.any fun f=>tr p [] f.args:=by rw [jm,decide_eq_true hDn,decide_eq_true hFn];rfl
 have hall:(∀(j:Nat) (h:j<p.ag.length),tr p [] p.ag[j].args=false)->jm p=false:=fun h=>by
  rw [hR,abp];intro x hx;obtain ⟨j,hj,rfl⟩:=aa8.1 hx;rw [h j hj];simp
 have hone:∀(j:Nat) (h:j<p.ag.length),tr p [] p.ag[j].args=true->jm p=true:=fun j h e=>by
  rw [hR,abK];exact ⟨_,aaQ h,e⟩
 generalize jm p=R at *;clear hR h1 h2
 repeat (first|refine aw ?_|refine f1 ?_|refine m1 ?_)
 refine dp p.ag.length (fun j:Nat=>⟨[(32,.d (I j)),(31,.d (I ((p.ag.map fuL).length:Nat))),(30,.d (.slice 3 (p.ag.map fuL) false)),(1,.ptr 2 0)],sHp p,3,[],2⟩) (fun j=>∀h:j<p.ag.length,tr p [] p.ag[j].args=false) (by exact Uw.wM) (fun hg=>?_) (fun j hj hg=>?_)
 ·rw [hall (fun j h=>hg j h h)]
  repeat refine aw ?_
  refine aJ ?_
  repeat refine aw ?_
  refine aF 2 rfl rfl ?_;exact Uw.wM
 have he:(p.ag.map fuL)[(j:Int).toNat]? = some (fuL p.ag[j]):=by simp [hj]
 have hone:=hone j hj;have hG:tr p [] p.ag[j].args=false->(fun j=>∀h:j<p.ag.length,tr p [] p.ag[j].args=false) j:=fun h _=>h;have hal:=hargs _ (aaQ hj);clear hall hargs;generalize p.ag[j]=x at *;obtain ⟨fn,fa,fb⟩:=x;have he:(p.ag.map fuL)[(j:Int).toNat]? = some [.str fn,.slice 1 (fa.map fun s=>[Dat.str s]) false,I fb]:=he;simp only at hone hG hal;have Z3:(fa.map fun s=>[Dat.str s]).length=fa.length:=by simp
 have hda:=NK p fa;obtain ⟨E,hE⟩:∃E:Nat->MS,∀i,E i=cG (fa.take i):=⟨_,fun _=>rfl⟩
 have hE0:([]:MS)=E 0:=by rw [hE];rfl
 have hEs:∀(i:Nat) (h:i<fa.length),dQ (E i) (.s fa[i]) (.bool true)=E (i+1):=fun i h=>by rw [hE,hE,aaz h,rA]
 have hEg:∀(i:Nat) (s:Str),bh (E i) (.s s)=if s∈fa.take i then some (.bool true) else none:=fun i s=>by rw [hE,t6]
 have hge:∀(i:Nat) (h:i<fa.length),(fa.map fun s=>[Dat.str s])[(i:Int).toNat]? = some [.str fa[i]]:=fun i h=>by simp [h]
 have hbad:∀i,∀h:i<fa.length,¬(bY p fa[i]=none/\fa[i]∉fa.take i)->R=true:=fun i h hn=>hone (by
  cases hd:tr p [] fa with
  | true=>rfl
  | false=>exact absurd (hda.1 hd i h h) hn)
 have hgood:(∀i,i<fa.length->LS p fa i)->∀h:j<p.ag.length,tr p [] p.ag[j].args=false:=fun h=>hG (hda.2 h);have hS0:twS p j fa E 0=⟨[(40,.d (I (0:Nat))),(39,.d (I ((fa.map fun s=>[Dat.str s]).length:Nat))),(38,.d (gV fa)),(5,.hnd 4),(32,.d (I j)),(31,.d (I ((p.ag.map fuL).length:Nat))),(30,.d (.slice 3 (p.ag.map fuL) false)),(1,.ptr 2 0)],(4,.map none [])::sHp p,5,[],2⟩:=by rw [twS,<- hE0]
 clear hone hG hda hE
 repeat (first|refine aw ?_|refine f1 ?_|refine m1 ?_)
 refine dp fa.length (twS p j fa E) (LS p fa) (fH hS0 ?_) (fun hg2=>?_) (fun i hi hg2=>?_)
 ·exact Uw.wM
 ·have hg3:=hgood hg2
  refine aw ?_;refine aJ ?_;refine aw ?_;exact aX j hg3 (by exact Uw.wM)
 have hel:=hge i hi;have hs:=hEs i hi;have hbad:=hbad i hi;have hfree:bY p fa[i]=none/\fa[i]∉fa.take i->LS p fa i:=fun h _=>h;have hth:=yr p fa[i];have hEg:=hEg i fa[i];clear hge hEs hgood;generalize fa[i]=a at *
 cases ht:bY p a with
 | some kd=>
  rw [ht] at hth;have hth:bh (thE p.decls) (.s a)=some (I kd):=hth;rw [hbad (by rw [ht];simp)]
  repeat (first|refine aw ?_|refine f1 ?_|refine m1 ?_)
  refine bV (bV (aF 2 rfl rfl ?_));exact Uw.wM
 | none=>
  rw [ht] at hth;have hth:bh (thE p.decls) (.s a)=none:=hth;by_cases hin:a∈fa.take i
  ·rw [if_pos hin] at hEg
   rw [hbad (fun h=>h.2 hin)]
   repeat (first|refine aw ?_|refine f1 ?_|refine m1 ?_)
   refine bV (bV (aF 2 rfl rfl ?_));exact Uw.wM
  ·rw [if_neg hin] at hEg
   have hfr:=hfree ⟨ht,hin⟩
   repeat (first|refine aw ?_|refine f1 ?_|refine m1 ?_)
   exact aX i hfr (by exact Uw.wM)
end Uw.Tryz
namespace Uw
open Go
theorem c8 {P:Program} {Q:aG->St->Prop} {o:Option Dat} {k:Dat->Tree} (z v:Dat) (h:o.getD z=v) (h2:WT P Q (k v)):WT P Q (.test o.isSome (.val o k) (k z)):=by
 cases o with
 | none=>exact HN rfl (by rw [<- h] at h2;exact h2)
 | some d=>exact KZ (v:=d) rfl (by rw [<- h] at h2;exact h2)
end Uw
namespace Uw.Tryz
open Go Uw
def GU (es:MS) (d:Dec):MS:=dQ es (.i d.kind) (match (bh es (.i d.kind)).getD (I 0) with | .int _ c=>I (c+1)|_=>I 1)
def ctE (ds:List Dec):MS:=ds.foldl GU []
abbrev ctN (ds:List Dec) (k:Int):Nat:=ds.countP fun d=>decide (d.kind=k)
theorem Jb (ds:List Dec) (d:Dec):ctE (ds++[d])=GU (ctE ds) d:=by rw [ctE,ab2];rfl
theorem vJ (ds:List Dec):∀k:Int,(bh (ctE ds) (.i k)).getD (I 0)=I (ctN ds k:Nat):=by
 have key:∀n,∀k:Int,(bh (ctE (ds.take n)) (.i k)).getD (I 0)=I (ctN (ds.take n) k:Nat):=by
  intro n
  induction n with
  | zero=>intro k;rfl
  | succ n ih=>
   intro k
   rcases aa2 n ds.length with h|h
   ·rw [aaz h,Jb,GU,gi,ih]
    have e:ctN (List.take n ds++[ds[n]]) k=ctN (List.take n ds) k+if ds[n].kind=k then 1 else 0:=by
     rw [ctN,List.countP_append,adA];simp
    rw [e];by_cases hk:k=ds[n].kind
    ·subst hk
     rw [if_pos rfl,if_pos rfl];show I _=I _
     congr 1
    ·rw [if_neg (by simp;exact hk),if_neg (fun e=>hk e.symm),ih];rfl
   ·have e:ds.take (n+1)=ds.take n:=by rw [aaG h,aaG (by omega)]
    rw [e];exact ih k
 intro k;have:=key ds.length k
 rwa [aaK] at this
theorem LU (ds:List Dec) (d:Dec):dQ (ctE ds) (.i d.kind) (I ((ctN ds d.kind:Nat)+1))=ctE (ds++[d]):=by
 rw [Jb,GU,vJ]
end Uw.Tryz
namespace Uw.Tryz
open Go Uw
def DR:List Dec->List Dec->MS->MS
 | _,[],es=>es
 | pre,d::r,es=>DR (pre++[d]) r (dQ es (.s d.name) (.agg [I d.kind,I (ctN pre d.kind:Nat)]))
def tgE (ds:List Dec):MS:=DR [] ds []
theorem EM (d:Dec):∀(l pre:List Dec) (es:MS),DR pre (l++[d]) es=dQ (DR pre l es) (.s d.name) (.agg [I d.kind,I (ctN (pre++l) d.kind:Nat)])
 | [],pre,es=>by rw [acd,DR,DR,DR,aa6]
 | e::l,pre,es=>by rw [aaE,DR,EM d l,DR,aaD];rfl
theorem CN (ds:List Dec) (d:Dec):tgE (ds++[d])=dQ (tgE ds) (.s d.name) (.agg [I d.kind,I (ctN ds d.kind:Nat)]):=by rw [tgE,EM];rfl
theorem GV (s:Str):∀(n:Nat) (ds:List Dec),(∀(i:Nat) (h:i<ds.length),i<n->ds[i].name≠s)->bh (tgE (ds.take n)) (.s s)=none
 | 0,ds,_=>by simp [tgE,DR,bh]
 | n+1,ds,h=>by
  rcases aa2 n ds.length with hn|hn
  ·rw [aaz hn,CN,gi,if_neg (by simp;exact fun e=>h n hn (by omega) e.symm)]
   exact GV s n ds fun i hi hin=>h i hi (by omega)
  ·rw [show ds.take (n+1)=ds.take n by rw [aaG (by omega),aaG hn]]
   exact GV s n ds fun i hi hin=>h i hi (by omega)
theorem GX (s:Str) (ds:List Dec) (i:Nat) (hi:i<ds.length) (hs:ds[i].name=s) (hu:∀(j:Nat) (h:j<ds.length),ds[j].name=s->j=i):∀n,i<n->bh (tgE (ds.take n)) (.s s)=some (.agg [I ds[i].kind,I (ctN (ds.take i) ds[i].kind:Nat)])
 | 0,h=>by omega
 | n+1,h=>by
  rcases aa2 n ds.length with hn|hn
  ·rw [aaz hn,CN,gi]
   by_cases e:n=i
   ·subst e
    rw [if_pos (by rw [hs])]
   ·rw [if_neg (by simp;exact fun e2=>e (hu n hn e2.symm))]
    exact GX s ds i hi hs hu n (by omega)
  ·rw [show ds.take (n+1)=ds.take n by rw [aaG (by omega),aaG hn]]
   exact GX s ds i hi hs hu n (by omega)
theorem Xy (p:Pg) (hn:(p.decls.map (·.name)).Nodup) (s:Str):bh (tgE p.decls) (.s s)=(bY p s).map fun k=>Dat.agg [I k,I (Rf p s:Nat)]:=by
 have e:=aaK (l:=p.decls);by_cases h:∃(i:Nat) (hi:i<p.decls.length),p.decls[i].name=s
 ·obtain ⟨i,hi,hs⟩:=h
  have hu:∀(j:Nat) (h:j<p.decls.length),p.decls[j].name=s->j=i:=fun j hj hjs=>tZ hn (by simpa using hj) (by simpa using hi) (by simp [hjs,hs]);have h1:=GX s p.decls i hi hs hu p.decls.length hi;rw [e] at h1;have h2:bY p s=some p.decls[i].kind:=by rw [<- hs];exact J8 hn (aaQ hi)
  have h3:Rf p s=ctN (p.decls.take i) p.decls[i].kind:=by
   have:(p.decls.findIdx? fun d=>decide (d.name=s))=some i:=aby.2 ⟨hi,by simpa using hs,fun j hj hjs=>by
    have:=hu j (by omega) (by simpa using hjs);omega⟩
   rw [Rf,this,h2];rfl
  rw [h1,h2,h3];rfl
 ·have h1:=GV s p.decls.length p.decls fun i hi _ hs=>h ⟨i,hi,hs⟩
  rw [e] at h1;have h2:bY p s=none:=IZ.2 fun d hd he=>by
   obtain ⟨j,hj,rfl⟩:=aa8.1 hd;exact h ⟨j,hj,he⟩
  rw [h1,h2];rfl
def fuE (fs:List Fu):MS:=fs.zipIdx.foldl (fun es y=>dQ es (.s y.1.name) (I (y.2:Nat))) []
theorem CO (fs:List Fu) (f:Fu):fuE (fs++[f])=dQ (fuE fs) (.s f.name) (I (fs.length:Nat)):=by
 rw [fuE,List.zipIdx_append,ab2];simp [fuE]
theorem GY (s:Str):∀(n:Nat) (fs:List Fu),(∀(i:Nat) (h:i<fs.length),i<n->fs[i].name≠s)->bh (fuE (fs.take n)) (.s s)=none
 | 0,fs,_=>by simp [fuE,bh]
 | n+1,fs,h=>by
  rcases aa2 n fs.length with hn|hn
  ·rw [aaz hn,CO,gi,if_neg (by simp;exact fun e=>h n hn (by omega) e.symm)]
   exact GY s n fs fun i hi hin=>h i hi (by omega)
  ·rw [show fs.take (n+1)=fs.take n by rw [aaG (by omega),aaG hn]]
   exact GY s n fs fun i hi hin=>h i hi (by omega)
theorem GZ (s:Str) (fs:List Fu) (i:Nat) (hi:i<fs.length) (hs:fs[i].name=s) (hu:∀(j:Nat) (h:j<fs.length),fs[j].name=s->j=i):∀n,i<n->bh (fuE (fs.take n)) (.s s)=some (I (i:Nat))
 | 0,h=>by omega
 | n+1,h=>by
  rcases aa2 n fs.length with hn|hn
  ·rw [aaz hn,CO,gi]
   by_cases e:n=i
   ·subst e
    rw [if_pos (by rw [hs]),aa5,acE (by omega)]
   ·rw [if_neg (by simp;exact fun e2=>e (hu n hn e2.symm))]
    exact GZ s fs i hi hs hu n (by omega)
  ·rw [show fs.take (n+1)=fs.take n by rw [aaG (by omega),aaG hn]]
   exact GZ s fs i hi hs hu n (by omega)
theorem Kv (p:Pg) (hn:(p.ag.map (·.name)).Nodup) (s:Str):bh (fuE p.ag) (.s s)=(eY p s).map fun (i:Nat)=>I (i:Nat):=by
 have e:=aaK (l:=p.ag)
 cases h:eY p s with
 | some i=>
  obtain ⟨hi,hs⟩:=yq h;have h1:=GZ s p.ag i hi hs (fun j hj hjs=>tZ hn (by simpa using hj) (by simpa using hi) (by simp [hjs,hs])) p.ag.length hi;rw [e] at h1;rw [h1];rfl
 | none=>
  have h1:=GY s p.ag.length p.ag fun i hi _ hs=>by
   rw [<- hs,NF hn hi] at h;cases h
  rw [e] at h1;rw [h1];rfl
def hpE (n:Nat) (l:List Str):MS:=l.zipIdx.foldl (fun es y=>dQ es (.s y.1) (I ((n+y.2:Nat):Int))) []
theorem CP (n:Nat) (l:List Str) (s:Str):hpE n (l++[s])=dQ (hpE n l) (.s s) (I ((n+l.length:Nat):Int)):=by
 rw [hpE,List.zipIdx_append,ab2];simp [hpE]
theorem Kw (n:Nat) (s:Str):∀(l:List Str),l.Nodup->bh (hpE n l) (.s s)=(uF l s).map fun i=>I ((n:Nat)+i):=by
 intro l;have key:∀(k:Nat) (l:List Str),l.length=k->l.Nodup->bh (hpE n l) (.s s)=(uF l s).map fun i=>I ((n:Nat)+i):=by
  intro k
  induction k with
  | zero=>
   intro l hl _;have:l=[]:=aaM hl;subst this;rfl
  | succ k ih=>
   intro l hl hd;have hne:l≠[]:=by intro e;subst e;cases hl
   obtain ⟨r,x,rfl⟩:∃r x,l=r++[x]:=⟨l.dropLast,l.getLast hne,(adi hne).symm⟩
   rw [acv] at hd;rw [CP,gi];have ih:=ih r (by simpa using hl) hd.1;by_cases e:x=s
   ·subst e
    have hx:x∉r:=fun hm=>hd.2.2 x hm x (by simp) rfl;have hf:(r.findIdx? fun t=>decide (t=x))=none:=ads.2 fun t ht=>by
     have:t≠x:=fun e=>hx (e ▸ ht);simpa using this
    rw [if_pos rfl,uF,List.findIdx?_append,hf];simp
   ·rw [if_neg (by simp;exact fun h=>e h.symm),ih,uF,uF,List.findIdx?_append]
    cases r.findIdx? fun t=>decide (t=s) with
    | some i=>rfl
    | none=>simp [e]
 exact key l.length l rfl
theorem vK (x:Nd):∀(r:List Nd) (l:List Str),gX (r++[x]) l=if x.kind=11/\x.name2∉gX r l then gX r l++[x.name2] else gX r l
 | [],l=>rfl
 | y::r,l=>by rw [aaE,gX,vK x r,gX]
theorem tC:∀(r:List Nd) (l:List Str),l.Nodup->(gX r l).Nodup
 | [],l,h=>h
 | x::r,l,h=>by
  rw [gX];refine tC r _ ?_
  split
  ·rename_i hx
   rw [acv];exact ⟨h,by simp,fun a ha b hb=>by simp at hb;subst hb;exact fun e=>hx.2 (e ▸ ha)⟩
  ·exact h
theorem NL {l:List Str} {s:Str}:(uF l s).isSome=decide (s∈l):=by
 rw [uF,Option.isSome_map];by_cases h:s∈l
 ·rw [decide_eq_true h]
  cases hf:l.findIdx? fun t=>decide (t=s) with
  | some i=>rfl
  | none=>
   have:=ads.1 hf s h;simp at this
 ·rw [decide_eq_false h]
  cases hf:l.findIdx? fun t=>decide (t=s) with
  | none=>rfl
  | some i=>
   obtain ⟨h1,h2,_⟩:=aby.1 hf;simp at h2;exact absurd (h2 ▸ aaQ h1) h
end Uw.Tryz
namespace Uw.Tryz
open Go Uw
structure Mk where
 ns:List Nd
 te:MS
 fe:MS
 he:MS
 le:MS
 pd:Dat
abbrev mkB (M:Mk) (l:List In4):List Blk:=[.var [.d (cv M.ns),.hnd 1,.hnd 2,.hnd 3,.d M.pd,.hnd 4,.ref 5 l.length 0 l.length],.map none M.te,.map none M.fe,.map none M.he,.map none M.le,.mt 4 l.length (l.map in4)]
theorem bW (M:Mk) (l:List In4) (hl:l.length<1000000) (op a b c:Int):aE P0 mC [.ptr 0 0,.d (I op),.d (I a),.d (I b),.d (I c)] (mkB M l) (.tuple []) (mkB M (l++[⟨op,a,b,c⟩])):=by
 have hS:mkB M (l++[⟨op,a,b,c⟩])=[.var [.d (cv M.ns),.hnd 1,.hnd 2,.hnd 3,.d M.pd,.hnd 4,.ref 5 (l.length+1) 0 (l.length+1)],.map none M.te,.map none M.fe,.map none M.he,.map none M.le,.mt 4 (l.length+1) ((l.map in4).take l.length++[[I op,I a,I b,I c]])]:=by
  have e:(l.map in4).take l.length=l.map in4:=aaG (by simp);rw [mkB,e];simp [in4]
 have hv:Nat.beq l.length l.length=true:=acT _;have hby:decide ((l.length+1) * 32<=70368744177664)=true:=by rw [decide_eq_true_eq];omega
 rw [hS];refine ax sS rfl ?_
 repeat refine aw ?_
 refine bG 6 rfl rfl ?_;exact Uw.wM
abbrev opE:MS:=[(.s QV,I 1),(.s QX,I 2),(.s QW,I 3),(.s IP,I 4),(.s QY,I 5),(.s IQ,I 6),(.s IR,I 7)]
theorem Xz (s:Str):(BU s=0/\bh opE (.s s)=none)\/bh opE (.s s)=some (I (BU s)):=by
 by_cases a1:s=QV
 ·subst a1;exact .inr rfl
 by_cases a2:s=QX
 ·subst a2;exact .inr rfl
 by_cases a3:s=QW
 ·subst a3;exact .inr rfl
 by_cases a4:s=IP
 ·subst a4;exact .inr rfl
 by_cases a5:s=QY
 ·subst a5;exact .inr rfl
 by_cases a6:s=IQ
 ·subst a6;exact .inr rfl
 by_cases a7:s=IR
 ·subst a7;exact .inr rfl
 exact .inl ⟨by simp [BU,a1,a2,a3,a4,a5,a6,a7],by simp [bh,a1,a2,a3,a4,a5,a6,a7]⟩
theorem uG (s:Str):Ret P0 mF [.str s] (I (BU s)):=by
 rcases Xz s with ⟨e,hg⟩|hg
 ·rw [e]
  refine aU lM rfl ?_
  repeat (first|refine aw ?_|refine m1 ?_)
  exact aC rfl rfl rfl rfl rfl
 ·refine aU lM rfl ?_
  repeat (first|refine aw ?_|refine m1 ?_)
  exact aC rfl rfl rfl rfl rfl
theorem xA (k:Int) (hk:3<=k/\k<=7):Ret P0 po [I k] (I (k+3)):=by
 have:k=3\/k=4\/k=5\/k=6\/k=7:=by omega
 rcases this with rfl|rfl|rfl|rfl|rfl
 all_goals refine aU vx rfl ?_
 all_goals repeat refine aw ?_
 all_goals exact aC rfl rfl rfl rfl rfl
theorem mc (M:Mk) (l:List In4) (s:Str) (v:Option Int) (h:bh M.le (.s s)=v.map I):aE P0 kF [.ptr 0 0,.d (.str s)] (mkB M l) (.d (I (v.getD (-1)))) (mkB M l):=by
 cases v with
 | some i=>
  have h:bh M.le (.s s)=some (I i):=h;refine ax kf rfl ?_
  repeat (first|refine aw ?_|refine m1 ?_)
  refine aF 6 rfl rfl ?_;exact Uw.wM
 | none=>
  have h:bh M.le (.s s)=none:=h;refine ax kf rfl ?_
  repeat (first|refine aw ?_|refine m1 ?_)
  refine aF 6 rfl rfl ?_;exact Uw.wM
theorem kt (M:Mk) (l:List In4) (s:Str) (v:Option Int) (h:bh M.le (.s s)=v.map I):aE P0 lN [.ptr 0 0,.d (.str s)] (mkB M l) (.d (I (if s=[] then -1 else v.getD (-1)))) (mkB M l):=by
 by_cases q:s=[]
 ·rw [if_pos q]
  refine ax kG rfl ?_
  repeat refine aw ?_
  refine aF 6 rfl rfl ?_;exact Uw.wM
 ·rw [if_neg q]
  have hlo:=mc M l s v h;refine ax kG rfl ?_
  repeat refine aw ?_
  refine ad 6 [0,1,2,3,4,5] hlo ?_
  repeat refine aw ?_
  refine aF 6 rfl rfl ?_;exact Uw.wM
end Uw.Tryz
namespace Uw.Tryz
open Go Uw
structure XA (M:Mk) (N:Nms):Prop where
 things:∀s,bh M.te (.s s)=(N.things s).map fun t=>Dat.agg [I t.1,I t.2]
 ag:∀s,(bh M.fe (.s s)).getD (I 0)=I (N.ag s)
 helps:∀s,(bh M.he (.s s)).getD (I 0)=I (N.helps s)
 BM:∀s,bh M.le (.s s)=(N.BM s).map I
abbrev ndC (xk xn:Int) (xs xt:Str) (xo:List Int):V:=.agg [.d (I xk),.d (I xn),.d (.str xs),.d (.str xt),.d (bN xo)]
abbrev lsS (M:Mk) (l:List In4) (xk xn:Int) (xs xt:Str) (xo:List Int) (b:Bool) (tk tn:Int):St:=⟨[(5,.d (.bool b)),(4,.ptr 7 0),(3,.ptr 6 0),(0,.ptr 0 0)],(7,.var [.d (I tk),.d (I tn)])::(6,.var [.d (I xk),.d (I xn),.d (.str xs),.d (.str xt),.d (bN xo)])::bz 0 (mkB M l),8,[],6⟩
def UR (M:Mk) (xs:Str) (b:Bool) (tk tn:Int):Prop:=(bh M.te (.s xs)=none/\b=false/\tk=0/\tn=0)\/(bh M.te (.s xs)=some (.agg [I tk,I tn])/\b=true)
theorem yu (M:Mk) (l:List In4) (hl:l.length<1000000) (xk xn:Int) (xs xt:Str) (xo:List Int) (hxo:xo.length<1000000) (b:Bool) (tk tn:Int) (hth:UR M xs b tk tn) (i:In4) (h:(xk=1/\i=⟨1,xn,0,0⟩)\/(xk=12/\i=⟨14,0,0,0⟩)\/(xk=15/\i=⟨17,0,0,0⟩)\/(xk=16/\i=⟨18,0,0,0⟩)\/(xk=17/\i=⟨12,0,0,0⟩)\/(xk=8/\i=⟨11,BU xt,tn,((xo.map fun i=>[I i]).length:Nat)⟩)):aE P0 aZ [.ptr 0 0,ndC xk xn xs xt xo] (mkB M l) (.tuple []) (mkB M (l++[i])):=by
 have hol:(xo.map fun i=>[I i]).length=xo.length:=by simp
 have hput:=bW M l hl i.op i.a i.b i.c;have hop:=uG xt
 rcases hth with ⟨h2,rfl,rfl,rfl⟩|⟨h2,rfl⟩
 ·rcases h with ⟨hk,rfl⟩|⟨hk,rfl⟩|⟨hk,rfl⟩|⟨hk,rfl⟩|⟨hk,rfl⟩|⟨hk,rfl⟩
  all_goals
   refine ax bn rfl ?_
   repeat refine aw ?_
   refine cm (lsS M l xk xn xs xt xo false 0 0) ?_ ?_
   ·repeat (first|refine aw ?_|refine m1 ?_)
    exact aS (.inl ⟨rfl,by exact Uw.wM⟩)
   repeat (first|refine aw ?_|refine m1 ?_)
   refine ad 8 [0,1,2,3,4,5] hput ?_
   repeat refine aw ?_
   refine bG 6 rfl rfl ?_;exact Uw.wM
 ·rcases h with ⟨hk,rfl⟩|⟨hk,rfl⟩|⟨hk,rfl⟩|⟨hk,rfl⟩|⟨hk,rfl⟩|⟨hk,rfl⟩
  all_goals
   refine ax bn rfl ?_
   repeat refine aw ?_
   refine cm (lsS M l xk xn xs xt xo true tk tn) ?_ ?_
   ·repeat (first|refine aw ?_|refine m1 ?_)
    exact aS (.inl ⟨rfl,by exact Uw.wM⟩)
   repeat (first|refine aw ?_|refine m1 ?_)
   refine ad 8 [0,1,2,3,4,5] hput ?_
   repeat refine aw ?_
   refine bG 6 rfl rfl ?_;exact Uw.wM
theorem US (M:Mk) (l:List In4) (hl:l.length<1000000) (xn:Int) (xs xt:Str) (xo:List Int) (hxo:xo.length<1000000) (tk tn:Int) (h:bh M.te (.s xs)=some (.agg [I tk,I tn])):aE P0 aZ [.ptr 0 0,ndC 2 xn xs xt xo] (mkB M l) (.tuple []) (mkB M (l++[⟨4,tn,0,0⟩])):=by
 have hol:(xo.map fun i=>[I i]).length=xo.length:=by simp
 have hput:=bW M l hl;have hput:=hput 4 tn 0 0;refine ax bn rfl ?_
 repeat refine aw ?_
 refine cm (lsS M l 2 xn xs xt xo true tk tn) ?_ ?_
 ·repeat (first|refine aw ?_|refine m1 ?_)
  exact aS (.inl ⟨rfl,by exact Uw.wM⟩)
 repeat (first|refine aw ?_|refine m1 ?_)
 refine ad 8 [0,1,2,3,4,5] hput ?_
 repeat refine aw ?_
 refine bG 6 rfl rfl ?_;exact Uw.wM
theorem UT (M:Mk) (l:List In4) (hl:l.length<1000000) (xn:Int) (xs xt:Str) (xo:List Int) (hxo:xo.length<1000000) (h:bh M.te (.s xs)=none) (v:Option Int) (hv:bh M.le (.s xs)=v.map I):aE P0 aZ [.ptr 0 0,ndC 2 xn xs xt xo] (mkB M l) (.tuple []) (mkB M (l++[⟨2,v.getD (-1),0,0⟩])):=by
 have hol:(xo.map fun i=>[I i]).length=xo.length:=by simp
 have hput:=bW M l hl;have hput:=hput 2 (v.getD (-1)) 0 0;have hlo:=mc M l xs v hv;refine ax bn rfl ?_
 repeat refine aw ?_
 refine cm (lsS M l 2 xn xs xt xo false 0 0) ?_ ?_
 ·repeat (first|refine aw ?_|refine m1 ?_)
  exact aS (.inl ⟨rfl,by exact Uw.wM⟩)
 repeat (first|refine aw ?_|refine m1 ?_)
 refine ad 8 [0,1,2,3,4,5] hlo ?_
 repeat refine aw ?_
 refine ad 8 [0,1,2,3,4,5] hput ?_
 repeat refine aw ?_
 refine bG 6 rfl rfl ?_;exact Uw.wM
theorem UU (M:Mk) (l:List In4) (hl:l.length<1000000) (xn:Int) (xs xt:Str) (xo:List Int) (hxo:xo.length<1000000) (tk tn:Int) (h:bh M.te (.s xs)=some (.agg [I tk,I tn])):aE P0 aZ [.ptr 0 0,ndC 9 xn xs xt xo] (mkB M l) (.tuple []) (mkB M (l++[⟨5,tn,0,0⟩])):=by
 have hol:(xo.map fun i=>[I i]).length=xo.length:=by simp
 have hput:=bW M l hl;have hput:=hput 5 tn 0 0;refine ax bn rfl ?_
 repeat refine aw ?_
 refine cm (lsS M l 9 xn xs xt xo true tk tn) ?_ ?_
 ·repeat (first|refine aw ?_|refine m1 ?_)
  exact aS (.inl ⟨rfl,by exact Uw.wM⟩)
 repeat (first|refine aw ?_|refine m1 ?_)
 refine ad 8 [0,1,2,3,4,5] hput ?_
 repeat refine aw ?_
 refine bG 6 rfl rfl ?_;exact Uw.wM
theorem UV (M:Mk) (l:List In4) (hl:l.length<1000000) (xn:Int) (xs xt:Str) (xo:List Int) (hxo:xo.length<1000000) (h:bh M.te (.s xs)=none) (v:Option Int) (hv:bh M.le (.s xs)=v.map I):aE P0 aZ [.ptr 0 0,ndC 9 xn xs xt xo] (mkB M l) (.tuple []) (mkB M (l++[⟨3,v.getD (-1),0,0⟩])):=by
 have hol:(xo.map fun i=>[I i]).length=xo.length:=by simp
 have hput:=bW M l hl;have hput:=hput 3 (v.getD (-1)) 0 0;have hlo:=mc M l xs v hv;refine ax bn rfl ?_
 repeat refine aw ?_
 refine cm (lsS M l 9 xn xs xt xo false 0 0) ?_ ?_
 ·repeat (first|refine aw ?_|refine m1 ?_)
  exact aS (.inl ⟨rfl,by exact Uw.wM⟩)
 repeat (first|refine aw ?_|refine m1 ?_)
 refine ad 8 [0,1,2,3,4,5] hlo ?_
 repeat refine aw ?_
 refine ad 8 [0,1,2,3,4,5] hput ?_
 repeat refine aw ?_
 refine bG 6 rfl rfl ?_;exact Uw.wM
theorem XB (M:Mk) (l:List In4) (hl:l.length<1000000) (xk xn:Int) (xs xt:Str) (xo:List Int) (hxo:xo.length<1000000) (b:Bool) (tk tn:Int) (hth:UR M xs b tk tn) (hk:3<=xk/\xk<=7):aE P0 aZ [.ptr 0 0,ndC xk xn xs xt xo] (mkB M l) (.tuple []) (mkB M (l++[⟨xk+3,0,0,0⟩])):=by
 have hput:=bW M l hl (xk+3) 0 0 0;have hrk:=xA xk hk;have h:xk=3\/xk=4\/xk=5\/xk=6\/xk=7:=by omega
 rcases hth with ⟨h2,rfl,rfl,rfl⟩|⟨h2,rfl⟩
 ·rcases h with hk|hk|hk|hk|hk
  all_goals
   refine ax bn rfl ?_
   repeat refine aw ?_
   refine cm (lsS M l xk xn xs xt xo false 0 0) ?_ ?_
   ·repeat (first|refine aw ?_|refine m1 ?_)
    exact aS (.inl ⟨rfl,by exact Uw.wM⟩)
   repeat (first|refine aw ?_|refine m1 ?_)
   refine ad 8 [0,1,2,3,4,5] hput ?_
   repeat refine aw ?_
   refine bG 6 rfl rfl ?_;exact Uw.wM
 ·rcases h with hk|hk|hk|hk|hk
  all_goals
   refine ax bn rfl ?_
   repeat refine aw ?_
   refine cm (lsS M l xk xn xs xt xo true tk tn) ?_ ?_
   ·repeat (first|refine aw ?_|refine m1 ?_)
    exact aS (.inl ⟨rfl,by exact Uw.wM⟩)
   repeat (first|refine aw ?_|refine m1 ?_)
   refine ad 8 [0,1,2,3,4,5] hput ?_
   repeat refine aw ?_
   refine bG 6 rfl rfl ?_;exact Uw.wM
end Uw.Tryz
namespace Uw.Tryz
open Go Uw
theorem Rl (M:Mk) (l:List In4) (hl:l.length<1000000) (xn:Int) (xs xt:Str) (xo:List Int) (hxo:xo.length<1000000) (h:bh M.te (.s xs)=none) (fn:Int) (hfu:(bh M.fe (.s xt)).getD (I 0)=I fn) (v:Option Int) (hv:bh M.le (.s xs)=v.map I):aE P0 aZ [.ptr 0 0,ndC 10 xn xs xt xo] (mkB M l) (.tuple []) (mkB M (l++[⟨13,fn,((xo.map fun i=>[I i]).length:Nat),if xs=[] then -1 else v.getD (-1)⟩])):=by
 have hol:(xo.map fun i=>[I i]).length=xo.length:=by simp
 have hput:=bW M l hl 13 fn (((xo.map fun i=>[I i]).length:Nat)) (if xs=[] then -1 else v.getD (-1));have hde:=kt M l xs v hv;generalize (if xs=[] then -1 else v.getD (-1))=de at *;refine ax bn rfl ?_
 repeat refine aw ?_
 refine cm (lsS M l 10 xn xs xt xo false 0 0) ?_ ?_
 ·repeat (first|refine aw ?_|refine m1 ?_)
  exact aS (.inl ⟨rfl,by exact Uw.wM⟩)
 repeat (first|refine aw ?_|refine m1 ?_)
 refine cm ⟨[],bz 0 (mkB M (l++[⟨13,fn,((xo.map fun i=>[I i]).length:Nat),de⟩])),8,[],6⟩ ?_ ?_
 ·repeat (first|refine aw ?_|refine m1 ?_)
  refine c8 (I 0) _ hfu ?_
  repeat (first|refine aw ?_|refine m1 ?_)
  refine ad 8 [0,1,2,3,4,5] hde ?_
  repeat (first|refine aw ?_|refine m1 ?_)
  refine c8 (I 0) _ hfu ?_
  repeat (first|refine aw ?_|refine m1 ?_)
  refine ad 8 [0,1,2,3,4,5] hput ?_
  repeat (first|refine aw ?_|refine m1 ?_)
  exact aS (.inl ⟨rfl,by exact Uw.wM⟩)
 refine bG 6 rfl rfl ?_;exact Uw.wM
theorem Rm (M:Mk) (l:List In4) (hl:l.length<1000000) (xn:Int) (xs xt:Str) (xo:List Int) (hxo:xo.length<1000000) (tk tn:Int) (h:bh M.te (.s xs)=some (.agg [I tk,I tn])) (fn:Int) (hfu:(bh M.fe (.s xt)).getD (I 0)=I fn) (v:Option Int) (hv:bh M.le (.s xs)=v.map I):aE P0 aZ [.ptr 0 0,ndC 10 xn xs xt xo] (mkB M l) (.tuple []) (mkB M (l++[⟨13,fn,((xo.map fun i=>[I i]).length:Nat),if xs=[] then -1 else v.getD (-1)⟩])):=by
 have hol:(xo.map fun i=>[I i]).length=xo.length:=by simp
 have hput:=bW M l hl 13 fn (((xo.map fun i=>[I i]).length:Nat)) (if xs=[] then -1 else v.getD (-1));have hde:=kt M l xs v hv;generalize (if xs=[] then -1 else v.getD (-1))=de at *;refine ax bn rfl ?_
 repeat refine aw ?_
 refine cm (lsS M l 10 xn xs xt xo true tk tn) ?_ ?_
 ·repeat (first|refine aw ?_|refine m1 ?_)
  exact aS (.inl ⟨rfl,by exact Uw.wM⟩)
 repeat (first|refine aw ?_|refine m1 ?_)
 refine cm ⟨[],bz 0 (mkB M (l++[⟨13,fn,((xo.map fun i=>[I i]).length:Nat),de⟩])),8,[],6⟩ ?_ ?_
 ·repeat (first|refine aw ?_|refine m1 ?_)
  refine c8 (I 0) _ hfu ?_
  repeat (first|refine aw ?_|refine m1 ?_)
  refine ad 8 [0,1,2,3,4,5] hde ?_
  repeat (first|refine aw ?_|refine m1 ?_)
  refine c8 (I 0) _ hfu ?_
  repeat (first|refine aw ?_|refine m1 ?_)
  refine ad 8 [0,1,2,3,4,5] hput ?_
  repeat (first|refine aw ?_|refine m1 ?_)
  exact aS (.inl ⟨rfl,by exact Uw.wM⟩)
 refine bG 6 rfl rfl ?_;exact Uw.wM
theorem Rn (M:Mk) (l:List In4) (hl:l.length<1000000) (xn:Int) (xs xt:Str) (xo:List Int) (hxo:xo.length<1000000) (h:bh M.te (.s xs)=none) (fn:Int) (hfu:(bh M.he (.s xt)).getD (I 0)=I fn) (v:Option Int) (hv:bh M.le (.s xs)=v.map I):aE P0 aZ [.ptr 0 0,ndC 11 xn xs xt xo] (mkB M l) (.tuple []) (mkB M (l++[⟨13,fn,2,if xs=[] then -1 else v.getD (-1)⟩])):=by
 have hol:(xo.map fun i=>[I i]).length=xo.length:=by simp
 have hput:=bW M l hl 13 fn 2 (if xs=[] then -1 else v.getD (-1));have hde:=kt M l xs v hv;generalize (if xs=[] then -1 else v.getD (-1))=de at *;refine ax bn rfl ?_
 repeat refine aw ?_
 refine cm (lsS M l 11 xn xs xt xo false 0 0) ?_ ?_
 ·repeat (first|refine aw ?_|refine m1 ?_)
  exact aS (.inl ⟨rfl,by exact Uw.wM⟩)
 repeat (first|refine aw ?_|refine m1 ?_)
 refine cm ⟨[],bz 0 (mkB M (l++[⟨13,fn,2,de⟩])),8,[],6⟩ ?_ ?_
 ·repeat (first|refine aw ?_|refine m1 ?_)
  refine c8 (I 0) _ hfu ?_
  repeat (first|refine aw ?_|refine m1 ?_)
  refine ad 8 [0,1,2,3,4,5] hde ?_
  repeat (first|refine aw ?_|refine m1 ?_)
  refine c8 (I 0) _ hfu ?_
  repeat (first|refine aw ?_|refine m1 ?_)
  refine ad 8 [0,1,2,3,4,5] hput ?_
  repeat (first|refine aw ?_|refine m1 ?_)
  exact aS (.inl ⟨rfl,by exact Uw.wM⟩)
 refine bG 6 rfl rfl ?_;exact Uw.wM
theorem Ro (M:Mk) (l:List In4) (hl:l.length<1000000) (xn:Int) (xs xt:Str) (xo:List Int) (hxo:xo.length<1000000) (tk tn:Int) (h:bh M.te (.s xs)=some (.agg [I tk,I tn])) (fn:Int) (hfu:(bh M.he (.s xt)).getD (I 0)=I fn) (v:Option Int) (hv:bh M.le (.s xs)=v.map I):aE P0 aZ [.ptr 0 0,ndC 11 xn xs xt xo] (mkB M l) (.tuple []) (mkB M (l++[⟨13,fn,2,if xs=[] then -1 else v.getD (-1)⟩])):=by
 have hol:(xo.map fun i=>[I i]).length=xo.length:=by simp
 have hput:=bW M l hl 13 fn 2 (if xs=[] then -1 else v.getD (-1));have hde:=kt M l xs v hv;generalize (if xs=[] then -1 else v.getD (-1))=de at *;refine ax bn rfl ?_
 repeat refine aw ?_
 refine cm (lsS M l 11 xn xs xt xo true tk tn) ?_ ?_
 ·repeat (first|refine aw ?_|refine m1 ?_)
  exact aS (.inl ⟨rfl,by exact Uw.wM⟩)
 repeat (first|refine aw ?_|refine m1 ?_)
 refine cm ⟨[],bz 0 (mkB M (l++[⟨13,fn,2,de⟩])),8,[],6⟩ ?_ ?_
 ·repeat (first|refine aw ?_|refine m1 ?_)
  refine c8 (I 0) _ hfu ?_
  repeat (first|refine aw ?_|refine m1 ?_)
  refine ad 8 [0,1,2,3,4,5] hde ?_
  repeat (first|refine aw ?_|refine m1 ?_)
  refine c8 (I 0) _ hfu ?_
  repeat (first|refine aw ?_|refine m1 ?_)
  refine ad 8 [0,1,2,3,4,5] hput ?_
  repeat (first|refine aw ?_|refine m1 ?_)
  exact aS (.inl ⟨rfl,by exact Uw.wM⟩)
 refine bG 6 rfl rfl ?_;exact Uw.wM
end Uw.Tryz
