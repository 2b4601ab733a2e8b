/- RJd: Jd (merged by merge2.py from the working texts). -/
import Derived.Test.YtkmkjfkpnmhaiaaGreatDoorYa
set_option maxRecDepth 8000
set_option maxHeartbeats 8000000
set_option linter.unusedSimpArgs false
set_option linter.unnecessarySimpa false
set_option linter.unusedVariables false
set_option linter.unusedSectionVars false
namespace Uw.Tryz
open Go Uw
theorem EX {p:Pg} (h:(ofP p).2=0):(ofP p).1=gw p/\mX p=0/\∀(k:Nat) (hk:k<p.ag.length),(d5 p k p.ag[k]).ins.length<=400:=by
 by_cases hw:mX p=0
 ·cases ha:(fO p 0 p.ag).any fun b=>decide (400<b.ins.length) with
  | true=>
   have e:ofP p=(Eo,2):=by rw [ofP,if_neg (by simp [hw]),ha];rfl
   rw [e] at h;cases h
  | false=>
   have e:ofP p=(gw p,0):=by rw [ofP,if_neg (by simp [hw]),ha];rfl
   refine ⟨by rw [e],hw,fun k hk=>?_⟩;have:=jg p p.ag 0 k hk;rw [Xy] at this;have h2:=X2.1 ha _ (XK this);simp at h2;omega
 ·have e:ofP p=(Eo,mX p):=by rw [ofP,if_pos hw]
  rw [e] at h;exact absurd h hw
theorem Oe (R:List (List Dat)):∃F:Nat->List (List Dat),F 0=[]/\(∀k,k<=R.length->(F k).length=k)/\(∀(k:Nat) (h:k<R.length),F k++[R[k]]=F (k+1))/\((F R.length).drop 0).take R.length=R:=by
 refine ⟨fun k=>R.take k,rfl,fun k h=>?_,fun k h=>?_,?_⟩
 ·rw [XW];omega
 ·exact (Xq h).symm
 ·simp
structure More (c d:Cd) (n:Nat):Prop where
 len:d.ag.length=c.ag.length+1
 le:n<=c.ag.length
 few:c.ag.length<=32
 main:d.main=c.main
 four:∃b,d.ag[n]? = some b/\b.ins.length=4
 all:∀(k:Nat) (hk:k<c.ag.length),d.ag[if k<n then k else k+1]? = some (upB n c.ag[k])
 low:∀(k:Nat) (hk:k<c.ag.length),∀y∈c.ag[k].ins,y.op=13->y.a<1000
 ins:∀(k:Nat) (hk:k<c.ag.length),c.ag[k].ins.length<=400
theorem QT {p:Pg} {nm:Str} {ar:List Str} (hr:EF p) (h:(ofP p).2=0) (hq:(ofP (bU p nm ar)).2=0):More (gw p) (gw (bU p nm ar)) p.ag.length:=by
 obtain ⟨_,hw,hf⟩:=EX h;obtain ⟨_,hwq,_⟩:=EX hq;have hm:=Ig hw;have hmq:=Ig hwq;obtain ⟨h1,h2,h3,h4⟩:=K7 hm hmq;have hcl:=pC p;have hpf:=N7 hm;have hk:=hm.kinds;refine ⟨h1,by omega,by omega,h2,h3,h4,fun k hk y hy h13=>?_,fun k hk=>?_⟩
 ·have hn:∃b,dU (gw p) b y=true:=by
   rcases uL p k hk with ⟨h1,e⟩|⟨j,hj,_,e⟩
   ·rw [e] at hy;exact ⟨_,IE hm hr (AX p) k h1 y hy⟩
   ·rw [e] at hy;exact ⟨_,IF hm (AX p) j hj y hy⟩
  obtain ⟨b,hn⟩:=hn;rw [dU,if_neg (by omega),if_neg (by omega),if_neg (by omega),if_neg (by omega),if_pos h13] at hn;simp only [Xo,dT,decide_eq_true_eq] at hn;have:=hn.1.1.2;omega
 ·rcases uL p k hk with ⟨h1,e⟩|⟨j,h1,_,e⟩
  ·rw [e];exact hf k h1
  ·rw [e];exact (by decide:(30:Nat)<=400)
abbrev lbR (n:Nat):fk:=[(13,.d (I n)),(11,.ptr 3 0),(4,.d (.bool false))]
abbrev Vv (c:Cd) (n k:Nat):fk:=(107,.d (I k))::(106,.d (I ((c.ag.map bdC).length:Nat)))::(105,.d (.slice 3 (c.ag.map bdC) false))::lbR n
abbrev TQ (c d:Cd) (n k:Nat):St:=⟨Vv c n k,[(3,cdB d)],4,[],0⟩
abbrev La (c d:Cd) (n k:Nat) (at_ ba bl:Int) (ins:List (List Dat)) (G:List (List Dat)) (j:Nat):St:=⟨(126,.d (I j))::(125,.d (I (ins.length:Nat)))::(124,.d (.slice 4 ins false))::(17,.ptr 5 0)::(16,.d (I at_))::Vv c n k,[(6,.arr 4 G),(5,.var [.d (I ba),.d (I bl),.ref 6 0 0 j]),(3,cdB d)],7,[],0⟩
theorem IH (p q:Pg) (c d:Cd) (s nm:Str) (hs:¬(900:Int)<(s.length:Nat)+(nm.length:Nat)) (hl1:s.length<=900) (hl2:nm.length<=900) (hM:More c d p.ag.length) (hql:q.ag.length=p.ag.length+1) (ho:Ret P0 dR [.str s] (.tuple [pgD p,I 0])) (ho2:Ret P0 dR [.str (((s++[32,102,117,110,99,32])++nm)++[40,41,32,123,32,114,101,116,117,114,110,32,49,59,32,125])] (.tuple [pgD q,I 0])) (hc:Ret P0 fK [pgD p] (.tuple [cdD c,I 0])) (hd:Ret P0 fK [pgD q] (.tuple [cdD d,I 0])) (ha:Ret P0 ot [] (.bool true)):Ret P0 fY [.str s,.str nm] (.bool true):=by
 have t1:s.length+([32,102,117,110,99,32]:Str).length<4611686018427387904:=by simp only [Xt,X3];omega
 have t2:(s++[32,102,117,110,99,32]).length+nm.length<4611686018427387904:=by simp only [Xr,Xt,X3];omega
 have t3:((s++[32,102,117,110,99,32])++nm).length+([40,41,32,123,32,114,101,116,117,114,110,32,49,59,32,125]:Str).length<4611686018427387904:=by simp only [Xr,Xt,X3];omega
 obtain ⟨m1,m2,m3,m4,⟨b4,m5,m6⟩,m7,m8,m9⟩:=hM;have hpl:(p.ag.map fuL).length=p.ag.length:=by simp
 have hqf:(q.ag.map fuL).length=q.ag.length:=by simp
 have hcl:(c.ag.map bdC).length=c.ag.length:=by simp
 have hdl:(d.ag.map bdC).length=d.ag.length:=by simp
 obtain ⟨ba4,bl4,bi4⟩:=b4;have hi4:(bi4.map in4).length=4:=by simpa using m6
 have he4:(d.ag.map bdC)[((p.ag.length:Nat):Int).toNat]? = some [I ba4,I bl4,.slice 4 (bi4.map in4) false]:=by rw [YH,Yv,m5];rfl
 have q1:((((d.ag.map bdC).length:Nat):Int))=(((c.ag.map bdC).length:Nat):Int)+1:=by omega
 have q2:(((q.ag.map fuL).length:Nat):Int)=(((p.ag.map fuL).length:Nat):Int)+1:=by omega
 have q3:p.ag.length<(d.ag.map bdC).length:=by omega
 have hS1:∀k,TQ c d (p.ag.map fuL).length k=TQ c d p.ag.length k:=fun k=>by rw [hpl]
 have Wy : (d.ag.map bdC)[((((p.ag.map fuL).length:Nat):Int)).toNat]? = some [I ba4,I bl4,.slice 4 (bi4.map in4) false]:=by rw [hpl];exact he4
 have q4:(((p.ag.map fuL).length:Nat):Int)<((d.ag.map bdC).length:Nat):=by omega
 have q5:(((bi4.map in4).length:Nat):Int)=4:=by omega
 refine bf cn rfl ?_
 repeat (first|refine aw ?_|refine f1 ?_)
 refine cI c.ag.length (fun k=>TQ c d p.ag.length k) (fun _=>True) (ep (hS1 0).symm ?_) (fun _=>?_) (fun k hk _=>?_)
 ·exact Uw.wM
 ·repeat (first|refine aw ?_|refine f1 ?_)
  refine aH ?_
  repeat (first|refine aw ?_|refine f1 ?_)
  exact aC rfl rfl rfl rfl rfl
 have he:(c.ag.map bdC)[((k:Nat):Int).toNat]? = some (bdC c.ag[k]):=by simp [hk]
 have hat:=m7 k hk;have hlow:=m8 k hk;have hins:=m9 k hk;have hbody:=qx (upB p.ag.length c.ag[k]) (upB p.ag.length c.ag[k]) (by simp only [upB,XJ];omega);rw [decide_eq_true rfl] at hbody;clear m7 m8 m9 ho ho2 hc hd t1 t2 t3 m5 he4 Wy hS1;generalize c.ag[k]=b at *;obtain ⟨ba,bl,ins⟩:=b;have he:(c.ag.map bdC)[((k:Nat):Int).toNat]? = some [I ba,I bl,.slice 4 (ins.map in4) false]:=he;simp only at hlow hins;obtain ⟨G,hG0,hGl,hGs,hGe⟩:=Oe ((ins.map (upI p.ag.length)).map in4);have hll:((ins.map (upI p.ag.length)).map in4).length=ins.length:=by simp
 have hil:(ins.map in4).length=ins.length:=by simp
 rw [hll] at hGl hGe;have hbody:Ret P0 ig [.agg [I ba,I bl,.slice 4 (((G ins.length).drop 0).take ins.length) false],.agg [I ba,I bl,.slice 4 ((ins.map (upI p.ag.length)).map in4) false]] (.bool true):=by rw [hGe];exact hbody
 have hrow:∀(j:Nat) (hj:j<ins.length),G j++[in4 (upI p.ag.length ins[j])]=G (j+1):=fun j hj=>by
  have:=hGs j (by omega);rw [ZI,ZI] at this;exact this
 have Lc:∀(j:Nat) (h:j<ins.length),(ins.map in4)[(j:Int).toNat]? = some (in4 ins[j]):=fun j h=>by simp [h]
 have hlo:∀(j:Nat) (h:j<ins.length),ins[j].op=13->ins[j].a<1000:=fun j h=>hlow _ (XF h);clear hGs hlow hGe
 rcases XR k p.ag.length with hlt|hge
 ·rw [if_pos hlt] at hat
  have hed:(d.ag.map bdC)[((k:Nat):Int).toNat]? = some [I ba,I bl,.slice 4 ((ins.map (upI p.ag.length)).map in4) false]:=by rw [YH,Yv,hat];rfl
  have q6:((k:Nat):Int)<((d.ag.map bdC).length:Nat):=by omega
  have q7:¬((p.ag.length:Nat):Int)<=(k:Int):=by omega
  have hS2:La c d p.ag.length k k ba bl (ins.map in4) (G 0) 0=La c d p.ag.length k k ba bl (ins.map in4) [] 0:=by rw [hG0]
  clear hat
  repeat (first|refine aw ?_|refine f1 ?_)
  refine cI ins.length (fun j=>La c d p.ag.length k k ba bl (ins.map in4) (G j) j) (fun _=>True) (ep hS2 ?_) (fun _=>?_) (fun j hj _=>?_)
  ·exact Uw.wM
  ·have hGn:=hGl ins.length (Xn _)
   clear hrow Lc hlo hGl;generalize G ins.length=g at *;refine aw ?_;refine aH ?_
   repeat (first|refine aw ?_|refine f1 ?_)
   exact aK k trivial (by exact Uw.wM)
  have hi:=Lc j hj;have hr:=hrow j hj;have hGj:=hGl j (by omega);have hlw:=hlo j hj;clear hrow Lc hlo hGl;generalize ins[j]=i at *;obtain ⟨io,ia,ib,ic⟩:=i;have hi:(ins.map in4)[((j:Nat):Int).toNat]? = some [I io,I ia,I ib,I ic]:=hi;simp only at hlw;by_cases h13:io=13
  ·subst h13
   have hlw:=hlw rfl;by_cases hn:((p.ag.length:Nat):Int)<=ia
   ·have hr:G j++[[I 13,I (ia+1),I ib,I ic]]=G (j+1):=by rw [<- hr,upI,if_pos ⟨rfl,hn⟩];rfl
    repeat (first|refine aw ?_|refine f1 ?_)
    exact aK j trivial (by exact Uw.wM)
   ·have hr:G j++[[I 13,I ia,I ib,I ic]]=G (j+1):=by rw [<- hr,upI,if_neg (fun e=>hn e.2)];rfl
    repeat (first|refine aw ?_|refine f1 ?_)
    exact aK j trivial (by exact Uw.wM)
  ·have hr:G j++[[I io,I ia,I ib,I ic]]=G (j+1):=by rw [<- hr,upI,if_neg (fun e=>h13 e.1)];rfl
   repeat (first|refine aw ?_|refine f1 ?_)
   exact aK j trivial (by exact Uw.wM)
 ·rw [if_neg (by omega)] at hat
  have hed:(d.ag.map bdC)[((k:Nat):Int).toNat+1]? = some [I ba,I bl,.slice 4 ((ins.map (upI p.ag.length)).map in4) false]:=by rw [YH,Yv,hat];rfl
  have hed:(d.ag.map bdC)[(((k:Nat):Int)+1).toNat]? = some [I ba,I bl,.slice 4 ((ins.map (upI p.ag.length)).map in4) false]:=by rw [<- hed];congr 1
  have q6:((k:Nat):Int)+1<((d.ag.map bdC).length:Nat):=by omega
  have q7:((p.ag.length:Nat):Int)<=(k:Int):=by omega
  have q8:(0:Int)<=(k:Int)+1:=by omega
  have hS2:La c d p.ag.length k (k+1) ba bl (ins.map in4) (G 0) 0=La c d p.ag.length k (k+1) ba bl (ins.map in4) [] 0:=by rw [hG0]
  clear hat
  repeat (first|refine aw ?_|refine f1 ?_)
  refine cI ins.length (fun j=>La c d p.ag.length k (k+1) ba bl (ins.map in4) (G j) j) (fun _=>True) (ep hS2 ?_) (fun _=>?_) (fun j hj _=>?_)
  ·exact Uw.wM
  ·have hGn:=hGl ins.length (Xn _)
   clear hrow Lc hlo hGl;generalize G ins.length=g at *;refine aw ?_;refine aH ?_
   repeat (first|refine aw ?_|refine f1 ?_)
   exact aK k trivial (by exact Uw.wM)
  have hi:=Lc j hj;have hr:=hrow j hj;have hGj:=hGl j (by omega);have hlw:=hlo j hj;clear hrow Lc hlo hGl;generalize ins[j]=i at *;obtain ⟨io,ia,ib,ic⟩:=i;have hi:(ins.map in4)[((j:Nat):Int).toNat]? = some [I io,I ia,I ib,I ic]:=hi;simp only at hlw;by_cases h13:io=13
  ·subst h13
   have hlw:=hlw rfl;by_cases hn:((p.ag.length:Nat):Int)<=ia
   ·have hr:G j++[[I 13,I (ia+1),I ib,I ic]]=G (j+1):=by rw [<- hr,upI,if_pos ⟨rfl,hn⟩];rfl
    repeat (first|refine aw ?_|refine f1 ?_)
    exact aK j trivial (by exact Uw.wM)
   ·have hr:G j++[[I 13,I ia,I ib,I ic]]=G (j+1):=by rw [<- hr,upI,if_neg (fun e=>hn e.2)];rfl
    repeat (first|refine aw ?_|refine f1 ?_)
    exact aK j trivial (by exact Uw.wM)
  ·have hr:G j++[[I io,I ia,I ib,I ic]]=G (j+1):=by rw [<- hr,upI,if_neg (fun e=>h13 e.1)];rfl
   repeat (first|refine aw ?_|refine f1 ?_)
   exact aK j trivial (by exact Uw.wM)
theorem yq (s nm:List UInt8) (hra:s.length<=140737488355328) (hrb:nm.length<=140737488355328):Ret P0 fY [.str s,.str nm] (.bool true):=by
 have ha:=Bv;by_cases hs:900<s.length+nm.length
 ·have hs' : (900:Int)<(s.length:Nat)+(nm.length:Nat):=by omega
  refine bf cn rfl ?_
  repeat refine aw ?_
  exact aC rfl rfl rfl rfl rfl
 have hs' : ¬(900:Int)<(s.length:Nat)+(nm.length:Nat):=by omega
 have t1:s.length+([32,102,117,110,99,32]:Str).length<4611686018427387904:=by simp only [Xt,X3];omega
 have t2:(s++[32,102,117,110,99,32]).length+nm.length<4611686018427387904:=by simp only [Xr,Xt,X3];omega
 have t3:((s++[32,102,117,110,99,32])++nm).length+([40,41,32,123,32,114,101,116,117,114,110,32,49,59,32,125]:Str).length<4611686018427387904:=by simp only [Xr,Xt,X3];omega
 have hl4:(((s++bhA)++nm)++bhZ).length<100000:=by simp only [Xr,bhA,bhZ,Xt,X3];omega
 have ho:=uI s (by omega);have ho2:=uI (((s++bhA)++nm)++bhZ) (by omega);obtain ⟨hlim,hread,_,hfl⟩:=Iu s (by omega);obtain ⟨Vw,_,_,U9⟩:=Iu (((s++bhA)++nm)++bhZ) hl4;have hc:=lX (ofR s).1 hlim;have hd:=lX (ofR (((s++bhA)++nm)++bhZ)).1 Vw;have hb:=KU (a:=s) (nm:=nm) (by omega);have ho:Ret P0 dR [.str s] (.tuple [pgD (ofR s).1,I (ofR s).2]):=ho;have ho2:Ret P0 dR [.str (((s++[32,102,117,110,99,32])++nm)++[40,41,32,123,32,114,101,116,117,114,110,32,49,59,32,125])] (.tuple [pgD (ofR (((s++bhA)++nm)++bhZ)).1,I (ofR (((s++bhA)++nm)++bhZ)).2]):=ho2;generalize ofR (((s++bhA)++nm)++bhZ)=y at *;generalize ofR s=x at *;obtain ⟨p,e⟩:=x;obtain ⟨q,f⟩:=y;simp only at *;have hpl:(p.ag.map fuL).length=p.ag.length:=by simp
 have hql:(q.ag.map fuL).length=q.ag.length:=by simp
 have hfb:p.ag.length<100000:=hlim.ag;by_cases hok:(e=0/\f=0)/\((ofP p).2=0/\(ofP q).2=0)/\q.ag.length=p.ag.length+1
 ·obtain ⟨⟨rfl,rfl⟩,⟨h1,h2⟩,h3⟩:=hok
  obtain ⟨u,ar,rfl⟩:=hb rfl rfl h3;have hM:=QT hread h1 h2;rw [(EX h1).1,h1] at hc;rw [(EX h2).1,h2] at hd;exact IH p _ _ _ s nm hs' (by omega) (by omega) hM h3 ho ho2 hc hd ha
 ·clear hb hread
  generalize (ofP p).2=g at *;generalize (ofP q).2=h at *;generalize (ofP p).1=c at *;generalize (ofP q).1=d at *;by_cases h1:e=0
  rotate_left 1
  ·refine bf cn rfl ?_
   repeat (first|refine aw ?_|refine f1 ?_)
   exact aC rfl rfl rfl rfl rfl
  subst h1;by_cases h2:f=0
  rotate_left 1
  ·refine bf cn rfl ?_
   repeat (first|refine aw ?_|refine f1 ?_)
   exact aC rfl rfl rfl rfl rfl
  subst h2;by_cases h3:g=0
  rotate_left 1
  ·refine bf cn rfl ?_
   repeat (first|refine aw ?_|refine f1 ?_)
   exact aC rfl rfl rfl rfl rfl
  subst h3;by_cases h4:h=0
  rotate_left 1
  ·refine bf cn rfl ?_
   repeat (first|refine aw ?_|refine f1 ?_)
   exact aC rfl rfl rfl rfl rfl
  subst h4;have h5:¬q.ag.length=p.ag.length+1:=fun h5=>hok ⟨⟨rfl,rfl⟩,⟨rfl,rfl⟩,h5⟩;have h6:¬(((q.ag.map fuL).length:Nat):Int)=(((p.ag.map fuL).length:Nat):Int)+1:=by omega
  refine bf cn rfl ?_
  repeat (first|refine aw ?_|refine f1 ?_)
  exact aC rfl rfl rfl rfl rfl
end Uw.Tryz
