/- L9: Gk Gl Bp Xb Xc Xd Xe Xf Xg Xh Xi Xj Aa Bo Gm Bn Bi Bh Bg Bf Bq (merged by merge2.py from the working texts). -/
import Derived.Test.YtikpfliiodgonaaGreatDoorL8
import Derived.Test.YtikpfliiodgonaaGreatDoorL3
import Derived.Test.YtikpfliiodgonaaGreatDoorL5
import Derived.Test.YtikpfliiodgonaaGreatDoorL6
import Derived.Test.YtikpfliiodgonaaGreatDoorLs
import Derived.Lib.AtoiErrMem
import Derived.Test.YtikpfliiodgonaaGreatDoorL7
set_option maxRecDepth 8000
set_option maxHeartbeats 4000000
set_option linter.unusedSimpArgs false
set_option linter.unnecessarySimpa false
set_option linter.unusedVariables false
set_option linter.unusedSectionVars false
namespace Uw.Tryz
open Go Uw
theorem wv (c:Cd) (hc:c.am.length<=1000000) (f:Int) (hfew:∀b,c.am[f.toNat]? = some b->b.ins.length<=100000):Ret P0 eK [cdD c,I f] (ae (kb c f)):=by
 have hml:(c.am.map bdC).length=c.am.length:=by simp
 by_cases h1:f<0
 ·have e:kb c f=[]:=by rw [kb,if_pos (.inl h1)]
  rw [e];refine Ret.res (r:=.nil) ?_ (.nil 1);refine aj dR.h rfl ?_
  repeat refine aw ?_
  exact ag rfl rfl rfl rfl rfl
 by_cases h2:(c.am.length:Int)<=f
 ·have e:kb c f=[]:=by rw [kb,if_pos (.inr h2)]
  rw [e];refine Ret.res (r:=.nil) ?_ (.nil 1);have h3:((c.am.map bdC).length:Int)<=f:=by omega
  refine aj dR.h rfl ?_
  repeat refine aw ?_
  exact ag rfl rfl rfl rfl rfl
 have hlt:f.toNat<c.am.length:=by omega
 have hb:c.am[f.toNat]? = some c.am[f.toNat]:=AN hlt;have e:kb c f=sQ c.am[f.toNat].ins:=by rw [kb,if_neg (by omega),List.getD,hb];rfl
 have hf2:=hfew _ hb;clear hfew;rw [e];generalize c.am[f.toNat]=b at *;obtain ⟨ba,bl,ins⟩:=b;simp only at hf2 ⊢;by_cases h3:ins=[]
 ·subst h3
  have e:sQ []=[]:=rfl;rw [e];refine Ret.res (r:=.nil) ?_ (.nil 1);have hel:(c.am.map bdC)[f.toNat]? = some [I ba,I bl,.slice 4 [] false]:=by simp [hb,bdC]
  refine aj dR.h rfl ?_
  repeat refine aw ?_
  exact ag rfl rfl rfl rfl rfl
 have hpos:=aaj.2 h3;obtain ⟨k,rfl⟩:∃k:Nat,f=(k:Int):=⟨f.toNat,by omega⟩
 have hb:c.am[k]? = some ⟨ba,bl,ins⟩:=hb
 cases ha:ins.any fun i=>decide (i.op<1)||decide (19<i.op) with
 | true=>
  have e:sQ ins=[]:=by rw [sQ,if_neg h3,ha];rfl
  rw [e];exact Ret.res (ra c k ba bl ins .nil hb hpos hf2 (fun _=>rfl) (fun h=>absurd (h.symm.trans ha) (by simp))) (.nil 1)
 | false=>
  have e:sQ ins=(sP ins (2 * ins.length+2) (0::List.replicate (ins.length - 1) (-1)) [0]).getD []:=by rw [sQ,if_neg h3,ha];rfl
  rw [e]
  cases hR:sP ins (2 * ins.length+2) (0::List.replicate (ins.length - 1) (-1)) [0] with
  | none=>exact Ret.res (ra c k ba bl ins .nil hb hpos hf2 (fun h=>absurd (h.symm.trans ha) (by simp)) (fun _ R hr=>⟨fun _=>rfl,fun hi hs=>absurd (hs.symm.trans (hr.symm.trans hR)) (by simp)⟩)) (.nil 1)
  | some hi=>exact ra c k ba bl ins _ hb hpos hf2 (fun h=>absurd (h.symm.trans ha) (by simp)) (fun _ R hr=>⟨fun hn=>absurd (hn.symm.trans (hr.symm.trans hR)) (by simp),fun hi2 hs=>by rw [hR] at hr;rw [<- hr] at hs;injection hs with hs;rw [<- hs];rfl⟩)
theorem xJ (c:Cd) (i:In4):Ret P0 eV [cdD c,.agg (in4 i)] (.bool (iH c i)):=by
 obtain ⟨fs,cs,m,s,h,mn⟩:=c;obtain ⟨o,a,b,cc⟩:=i;show Ret P0 eV [.agg [.slice 3 (fs.map bdC) false,ae cs,I m,I s,I h,I mn],.agg [I o,I a,I b,I cc]] _;have key:∀x t:Int,∃r,bM b x=r/\Ret P0 iF [I b,I x] (.bool r):=fun x t=>⟨_,rfl,bJ b x⟩
 by_cases k1:a=1
 ·subst k1
  obtain ⟨r,hr,hb⟩:=key m 1;have e:iH ⟨fs,cs,m,s,h,mn⟩ ⟨o,1,b,cc⟩=(r&&decide (cc=1)):=by rw [<- hr];rfl
  rw [e]
  cases r
  all_goals
   refine aj b8.h rfl ?_
   repeat refine aw ?_
   exact ag rfl rfl rfl rfl rfl
 by_cases k3:a=3
 ·subst k3
  obtain ⟨r,hr,hb⟩:=key m 1;have e:iH ⟨fs,cs,m,s,h,mn⟩ ⟨o,3,b,cc⟩=(r&&decide (cc=1)):=by rw [<- hr];rfl
  rw [e]
  cases r
  all_goals
   refine aj b8.h rfl ?_
   repeat refine aw ?_
   exact ag rfl rfl rfl rfl rfl
 by_cases k2:a=2
 ·subst k2
  obtain ⟨r,hr,hb⟩:=key m 2;have e:iH ⟨fs,cs,m,s,h,mn⟩ ⟨o,2,b,cc⟩=(r&&decide (cc=2)):=by rw [<- hr];rfl
  rw [e]
  cases r
  all_goals
   refine aj b8.h rfl ?_
   repeat refine aw ?_
   exact ag rfl rfl rfl rfl rfl
 by_cases k4:a=4
 ·subst k4
  obtain ⟨r,hr,hb⟩:=key s 1;have e:iH ⟨fs,cs,m,s,h,mn⟩ ⟨o,4,b,cc⟩=(r&&decide (cc=1)):=by rw [<- hr];rfl
  rw [e]
  cases r
  all_goals
   refine aj b8.h rfl ?_
   repeat refine aw ?_
   exact ag rfl rfl rfl rfl rfl
 by_cases k5:a=5
 ·subst k5
  obtain ⟨r,hr,hb⟩:=key s 0;have e:iH ⟨fs,cs,m,s,h,mn⟩ ⟨o,5,b,cc⟩=(r&&decide (cc=0)):=by rw [<- hr];rfl
  rw [e]
  cases r
  all_goals
   refine aj b8.h rfl ?_
   repeat refine aw ?_
   exact ag rfl rfl rfl rfl rfl
 by_cases k6:a=6
 ·subst k6
  obtain ⟨r,hr,hb⟩:=key h 1;have e:iH ⟨fs,cs,m,s,h,mn⟩ ⟨o,6,b,cc⟩=(r&&decide (cc=1)):=by rw [<- hr];rfl
  rw [e]
  cases r
  all_goals
   refine aj b8.h rfl ?_
   repeat refine aw ?_
   exact ag rfl rfl rfl rfl rfl
 by_cases k7:a=7
 ·subst k7
  obtain ⟨r,hr,hb⟩:=key h 0;have e:iH ⟨fs,cs,m,s,h,mn⟩ ⟨o,7,b,cc⟩=(r&&decide (cc=0)):=by rw [<- hr];rfl
  rw [e]
  cases r
  all_goals
   refine aj b8.h rfl ?_
   repeat refine aw ?_
   exact ag rfl rfl rfl rfl rfl
 obtain ⟨r,hr,hb⟩:=key 0 1;have e:iH ⟨fs,cs,m,s,h,mn⟩ ⟨o,a,b,cc⟩=(r&&decide (cc=1)):=by
  rw [<- hr,iH];simp [k1,k2,k3,k4,k5,k6,k7]
 rw [e]
 cases r
 all_goals
  refine aj b8.h rfl ?_
  repeat refine aw ?_
  exact ag rfl rfl rfl rfl rfl
theorem yD (c:Cd) (hc:c.am.length<=1000000) (f:Bd) (i:In4):Ret P0 fF [cdD c,.agg (bdC f),.agg (in4 i)] (.bool (gx c f i)):=by
 have hca:=xJ c i;have hml:(c.am.map bdC).length=c.am.length:=by simp
 have hcl:(c.cells.map fun i=>[I i]).length=c.cells.length:=by simp
 obtain ⟨fa,fl,fi⟩:=f;obtain ⟨o,a,b,cc⟩:=i;have hca:Ret P0 eV [cdD c,.agg [I o,I a,I b,I cc]] (.bool (iH c ⟨o,a,b,cc⟩)):=hca;show Ret P0 fF [cdD c,.agg [I fa,I fl,.slice 4 (fi.map in4) false],.agg [I o,I a,I b,I cc]] _;by_cases k1:o=1
 ·subst k1
  have hb:=bJ a 4294967296;refine aj bI.h rfl ?_
  repeat refine aw ?_
  exact ag rfl rfl rfl rfl rfl
 by_cases k2:o=2
 ·subst k2
  have hb:=bJ a fl;refine aj bI.h rfl ?_
  repeat refine aw ?_
  exact ag rfl rfl rfl rfl rfl
 by_cases k3:o=3
 ·subst k3
  have hb:=bJ a fl;refine aj bI.h rfl ?_
  repeat refine aw ?_
  exact ag rfl rfl rfl rfl rfl
 by_cases k4:o=4
 ·subst k4
  have hb:=bJ a (c.cells.length:Nat);rw [<- hcl] at hb;have e:gx c ⟨fa,fl,fi⟩ ⟨4,a,b,cc⟩=bM a ((c.cells.map fun i=>[I i]).length:Nat):=by rw [hcl];rfl
  rw [e];refine aj bI.h rfl ?_
  repeat refine aw ?_
  exact ag rfl rfl rfl rfl rfl
 by_cases k5:o=5
 ·subst k5
  have hb:=bJ a (c.cells.length:Nat);rw [<- hcl] at hb;have e:gx c ⟨fa,fl,fi⟩ ⟨5,a,b,cc⟩=bM a ((c.cells.map fun i=>[I i]).length:Nat):=by rw [hcl];rfl
  rw [e];refine aj bI.h rfl ?_
  repeat refine aw ?_
  exact ag rfl rfl rfl rfl rfl
 by_cases k11:o=11
 ·subst k11
  refine aj bI.h rfl ?_
  repeat refine aw ?_
  exact ag rfl rfl rfl rfl rfl
 by_cases k13:o=13
 ·subst k13
  have hb:=bJ a (c.am.length:Nat);have hd:=bJ cc fl;have e0:gx c ⟨fa,fl,fi⟩ ⟨13,a,b,cc⟩=(bM a (c.am.length:Nat)&&decide (b=(c.am.getD a.toNat default).args)&&(decide (cc = -1)||bM cc fl)):=rfl;rw [e0];by_cases q1:bM a (c.am.length:Nat)=true
  ·rw [q1] at hb ⊢
   rw [<- hml] at hb;have q:0<=a/\a<(c.am.length:Int):=by simpa [bM] using q1
   have hlt:a.toNat<c.am.length:=by omega
   have hg:c.am.getD a.toNat default=c.am[a.toNat]:=by simp [List.getD,hlt]
   have hel:(c.am.map bdC)[a.toNat]? = some (bdC c.am[a.toNat]):=by simp [hlt]
   rw [hg];clear e0 q1 hg;generalize c.am[a.toNat]=g at *;obtain ⟨ga,gl,gi⟩:=g;have hel:(c.am.map bdC)[a.toNat]? = some [I ga,I gl,.slice 4 (gi.map in4) false]:=hel;simp only [Zb];by_cases q2:b=ga
   ·rw [decide_eq_true q2,Zb]
    by_cases q3:cc = -1
    ·rw [decide_eq_true q3,Z4]
     refine aj bI.h rfl ?_
     repeat refine aw ?_
     exact ag rfl rfl rfl rfl rfl
    ·rw [decide_eq_false q3,abe]
     refine aj bI.h rfl ?_
     repeat refine aw ?_
     exact ag rfl rfl rfl rfl rfl
   ·rw [decide_eq_false q2,Y3]
    refine aj bI.h rfl ?_
    repeat refine aw ?_
    exact ag rfl rfl rfl rfl rfl
  ·have q1:bM a (c.am.length:Nat)=false:=by simpa using q1
   rw [q1] at hb ⊢;rw [<- hml] at hb;simp only [Y3];refine aj bI.h rfl ?_
   repeat refine aw ?_
   exact ag rfl rfl rfl rfl rfl
 have e:gx c ⟨fa,fl,fi⟩ ⟨o,a,b,cc⟩=true:=by
  rw [gx,if_neg k1,if_neg (by simp only;omega),if_neg (by simp only;omega),if_neg k11,if_neg k13]
 rw [e];refine aj bI.h rfl ?_
 repeat refine aw ?_
 exact ag rfl rfl rfl rfl rfl
end Uw.Tryz
namespace Uw.Tryz
open Go Uw
abbrev sdS (c:Cd) (ba bl:Int) (ins:List In4) (j:Nat):St:=⟨[(48,.d (I j)),(47,.d (I ((ins.map in4).length:Nat))),(46,.d (.slice 4 (ins.map in4) false)),(5,.ptr 1 0),(4,.d (.bool false)),(2,.ptr 0 0)],[(1,.var [.d (I ba),.d (I bl),.d (.slice 4 (ins.map in4) false)]),(0,BG c)],2,[],0⟩
theorem yE (c:Cd) (hc:c.am.length<=1000000) (k:Nat) (b:Bd) (hb:c.am[k]? = some b):Ret P0 lQ [cdD c,I k] (.bool (kc c b)):=by
 have hlt:=(Zc.1 hb).1;have hki:(k:Int)<((c.am.map bdC).length:Nat):=by rw [ZZ];omega
 have hel:(c.am.map bdC)[(k:Int).toNat]? = some [I b.args,I b.locals,.slice 4 (b.ins.map in4) false]:=by simp [hb,bdC]
 have hnl:(b.ins.map in4).length=b.ins.length:=by simp
 have hht:∀h:b.ins.length<=400,Ret P0 eK [cdD c,I k] (ae (sQ b.ins)):=fun h=>by
  have:=wv c hc k (fun b2 h2=>by
   rw [show (k:Int).toNat=k from rfl,hb] at h2;injection h2 with h2;subst h2;omega)
  rwa [show kb c k=sQ b.ins by rw [kb,if_neg (by omega),List.getD,show (k:Int).toNat=k from rfl,hb];rfl] at this
 have hna:=fun i=>yD c hc b i;obtain ⟨a1,ha1⟩:∃a,decide (b.args<0)=a:=⟨_,rfl⟩
 obtain ⟨hl,hhl⟩:∃hl,(sQ b.ins)=hl:=⟨_,rfl⟩
 have hS:kc c b=(!(decide (b.args<0)||decide (b.locals<b.args)||decide (16<b.locals))&&!(decide (b.ins.length<1)||decide (400<b.ins.length)||decide (hl.length=0))&&b.ins.all (gx c b)):=by rw [<- hhl];rfl
 rw [hhl] at hht;rw [hS];clear hhl hS ha1 a1;have hhm:(hl.map fun i=>[I i]).length=hl.length:=by simp
 obtain ⟨ba,bl,ins⟩:=b;simp only at hel hnl hht hna ⊢;by_cases q1:ba<0
 ·simp only [decide_eq_true q1,Z4,ZF,Y3]
  refine aj cP.h rfl ?_
  repeat refine aw ?_
  exact ag rfl rfl rfl rfl rfl
 by_cases q2:bl<ba
 ·simp only [decide_eq_true q2,aaw,Z4,ZF,Y3]
  refine aj cP.h rfl ?_
  repeat refine aw ?_
  exact ag rfl rfl rfl rfl rfl
 by_cases q3:16<bl
 ·simp only [decide_eq_true q3,aaw,ZF,Y3]
  refine aj cP.h rfl ?_
  repeat refine aw ?_
  exact ag rfl rfl rfl rfl rfl
 simp only [decide_eq_false q1,decide_eq_false q2,decide_eq_false q3,abd,aaG,Zb];by_cases q4:ins.length<1
 ·simp only [decide_eq_true q4,Z4,ZF,Y3]
  have q5:(((ins.map in4).length:Nat):Int)<1:=by omega
  refine aj cP.h rfl ?_
  repeat refine aw ?_
  exact ag rfl rfl rfl rfl rfl
 have q4' : ¬(((ins.map in4).length:Nat):Int)<1:=by omega
 by_cases q5:400<ins.length
 ·simp only [decide_eq_true q5,aaw,Z4,ZF,Y3]
  have q6:(400:Int)<((ins.map in4).length:Nat):=by omega
  refine aj cP.h rfl ?_
  repeat refine aw ?_
  exact ag rfl rfl rfl rfl rfl
 have q5' : ¬(400:Int)<((ins.map in4).length:Nat):=by omega
 have hht:=hht (by omega);by_cases q6:hl.length=0
 ·simp only [decide_eq_true q6,aaw,ZF,Y3]
  have q7:(((hl.map fun i=>[I i]).length:Nat):Int)=0:=by omega
  refine aj cP.h rfl ?_
  repeat refine aw ?_
  exact ag rfl rfl rfl rfl rfl
 have q6' : ¬(((hl.map fun i=>[I i]).length:Nat):Int)=0:=by omega
 simp only [decide_eq_false q4,decide_eq_false q5,decide_eq_false q6,abd,aaG,Zb];have hone:∀(j:Nat) (h:j<ins.length),gx c ⟨ba,bl,ins⟩ ins[j]=false->ins.all (gx c ⟨ba,bl,ins⟩)=false:=fun j h e=>by
  rw [Z9];exact ⟨_,YX h,by rw [e];simp⟩
 have hall:(∀(j:Nat) (h:j<ins.length),gx c ⟨ba,bl,ins⟩ ins[j]=true)->ins.all (gx c ⟨ba,bl,ins⟩)=true:=fun h=>YW.2 fun i hi=>by
  obtain ⟨j,hj,rfl⟩:=Zq.1 hi;exact h j hj
 have XA:∀(j:Nat) (h:j<ins.length),(ins.map in4)[(j:Int).toNat]? = some (in4 ins[j]):=fun j h=>by simp [h]
 generalize ins.all (gx c ⟨ba,bl,ins⟩)=R at *;refine aj cP.h rfl ?_
 repeat (first|refine aw ?_|refine f1 ?_)
 refine dH ins.length (sdS c ba bl ins) (fun j=>∀h:j<ins.length,gx c ⟨ba,bl,ins⟩ ins[j]=true) ?_ (fun hg=>?_) (fun j hj _=>?_)
 ·exact Uw.wM
 ·obtain rfl:=hall fun j h=>hg j h h
  repeat (first|refine aw ?_|refine f1 ?_)
  refine aS ?_
  repeat (first|refine aw ?_|refine f1 ?_)
  exact ag rfl rfl rfl rfl rfl
 have he:=XA j hj;have hn:=hna ins[j];have ho:=hone j hj;have hg1:gx c ⟨ba,bl,ins⟩ ins[j]=true->∀h:j<ins.length,gx c ⟨ba,bl,ins⟩ ins[j]=true:=fun h _=>h;clear hone hall XA hna hht;generalize gx c ⟨ba,bl,ins⟩ ins[j]=r at *;generalize ins[j]=i at *;obtain ⟨io,ia,ib,ic⟩:=i;have he:(ins.map in4)[(j:Int).toNat]? = some [I io,I ia,I ib,I ic]:=he;have hn:Ret P0 fF [cdD c,.agg [I ba,I bl,.slice 4 (ins.map in4) false],.agg [I io,I ia,I ib,I ic]] (.bool r):=hn
 cases r with
 | true=>
  have hg1:=hg1 rfl
  repeat (first|refine aw ?_|refine f1 ?_)
  exact cH j hg1 (by exact Uw.wM)
 | false=>
  obtain rfl:=ho rfl
  repeat (first|refine aw ?_|refine f1 ?_)
  exact aW (ag rfl rfl rfl rfl rfl)
abbrev Yx (c:Cd) (j:Nat):St:=⟨[(44,.d (I j)),(43,.d (I ((c.cells.map fun i=>[I i]).length:Nat))),(42,.d (ae c.cells)),(2,.d (.bool false)),(1,.ptr 0 0)],[(0,BG c)],1,[],0⟩
abbrev Yy (c:Cd) (j:Nat):St:=⟨[(71,.d (I j)),(70,.d (I ((c.am.map bdC).length:Nat))),(2,.d (.bool false)),(1,.ptr 0 0)],[(0,BG c)],1,[],0⟩
theorem lU (c:Cd) (hc:c.am.length<=1000000) (hcc:c.cells.length<=1000000):Ret P0 dU [cdD c] (.bool (sR c)):=by
 have hfl:(c.am.map bdC).length=c.am.length:=by simp
 have hcl:(c.cells.map fun i=>[I i]).length=c.cells.length:=by simp
 have hso:=yE c hc;have hbm:=bJ c.main (c.am.length:Nat);have hb1:=bJ c.maps 9;have hb2:=bJ c.stacks 9;have hb3:=bJ c.chans 9;have hbc:=fun v=>bJ v 4294967296;rw [<- hfl] at hbm;have hR:sR c=(!(decide (c.am.length<1)||decide (32<c.am.length)||!bM c.main ((c.am.map bdC).length:Nat))&&!(!decide ((c.am.getD c.main.toNat default).args=0)||decide (16<c.cells.length))&&(c.cells.all fun v=>bM v 4294967296)&&bM c.maps 9&&bM c.stacks 9&&bM c.chans 9&&c.am.all (kc c)):=by rw [hfl];rfl
 rw [hR];clear hR;by_cases q1:c.am.length<1
 ·simp only [decide_eq_true q1,Z4,ZF,Y3]
  have q1' : (((c.am.map bdC).length:Nat):Int)<1:=by omega
  refine aj dt.h rfl ?_
  repeat refine aw ?_
  exact ag rfl rfl rfl rfl rfl
 have q1' : ¬(((c.am.map bdC).length:Nat):Int)<1:=by omega
 by_cases q2:32<c.am.length
 ·simp only [decide_eq_true q2,aaw,Z4,ZF,Y3]
  have q2' : (32:Int)<((c.am.map bdC).length:Nat):=by omega
  refine aj dt.h rfl ?_
  repeat refine aw ?_
  exact ag rfl rfl rfl rfl rfl
 have q2' : ¬(32:Int)<((c.am.map bdC).length:Nat):=by omega
 simp only [decide_eq_false q1,decide_eq_false q2,abd,abe,Bool.not_not]
 cases q3:bM c.main ((c.am.map bdC).length:Nat) with
 | false=>
  rw [q3] at hbm;simp only [Y3];refine aj dt.h rfl ?_
  repeat refine aw ?_
  exact ag rfl rfl rfl rfl rfl
 | true=>
 rw [q3] at hbm;have q3' : 0<=c.main/\c.main<(c.am.length:Int):=by simpa [bM] using q3
 have XB:c.main.toNat<c.am.length:=by omega
 have hg:c.am.getD c.main.toNat default=c.am[c.main.toNat]:=by simp [List.getD,XB]
 have hel:(c.am.map bdC)[c.main.toNat]? = some (bdC c.am[c.main.toNat]):=by simp [XB]
 have hmr:0<=c.main/\c.main<(((c.am.map bdC).length:Nat):Int):=by omega
 rw [hg];simp only [Zb];clear hg;generalize c.am[c.main.toNat]=g at *;obtain ⟨ga,gl,gi⟩:=g;have hel:(c.am.map bdC)[c.main.toNat]? = some [I ga,I gl,.slice 4 (gi.map in4) false]:=hel;simp only;by_cases q4:ga=0
 rotate_left 1
 ·simp only [decide_eq_false q4,aaG,Z4,ZF,Y3]
  refine aj dt.h rfl ?_
  repeat refine aw ?_
  exact ag rfl rfl rfl rfl rfl
 simp only [decide_eq_true q4,ZF,abe];by_cases q5:16<c.cells.length
 ·simp only [decide_eq_true q5,ZF,Y3]
  have q5' : (16:Int)<((c.cells.map fun i=>[I i]).length:Nat):=by omega
  refine aj dt.h rfl ?_
  repeat refine aw ?_
  exact ag rfl rfl rfl rfl rfl
 have q5' : ¬(16:Int)<((c.cells.map fun i=>[I i]).length:Nat):=by omega
 simp only [decide_eq_false q5,aaG,Zb];have hone:∀(j:Nat) (h:j<c.cells.length),bM c.cells[j] 4294967296=false->(c.cells.all fun v=>bM v 4294967296)=false:=fun j h e=>by
  rw [Z9];exact ⟨_,YX h,by rw [e];simp⟩
 have hall:(∀(j:Nat) (h:j<c.cells.length),bM c.cells[j] 4294967296=true)->(c.cells.all fun v=>bM v 4294967296)=true:=fun h=>YW.2 fun i hi=>by
  obtain ⟨j,hj,rfl⟩:=Zq.1 hi;exact h j hj
 have P1:∀(j:Nat) (h:j<c.am.length),kc c c.am[j]=false->c.am.all (kc c)=false:=fun j h e=>by
  rw [Z9];exact ⟨_,YX h,by rw [e];simp⟩
 have P2:(∀(j:Nat) (h:j<c.am.length),kc c c.am[j]=true)->c.am.all (kc c)=true:=fun h=>YW.2 fun i hi=>by
  obtain ⟨j,hj,rfl⟩:=Zq.1 hi;exact h j hj
 have VK:∀(j:Nat) (h:j<c.cells.length),(c.cells.map fun i=>[I i])[(j:Int).toNat]? = some [I c.cells[j]]:=fun j h=>by simp [h]
 generalize (c.cells.all fun v=>bM v 4294967296)=A at *;generalize c.am.all (kc c)=F at *;generalize bM c.maps 9=b1 at *;generalize bM c.stacks 9=b2 at *;generalize bM c.chans 9=b3 at *;refine aj dt.h rfl ?_
 repeat (first|refine aw ?_|refine f1 ?_)
 refine dH c.cells.length (Yx c) (fun j=>∀h:j<c.cells.length,bM c.cells[j] 4294967296=true) ?_ (fun hg=>?_) (fun j hj _=>?_)
 ·exact Uw.wM
 rotate_left 1
 ·have he:=VK j hj
  have hn:=hbc c.cells[j];have ho:=hone j hj;have hg1:bM c.cells[j] 4294967296=true->∀h:j<c.cells.length,bM c.cells[j] 4294967296=true:=fun h _=>h;clear hone hall VK hbc P1 P2 hso;generalize bM c.cells[j] 4294967296=r at *;generalize c.cells[j]=i at *
  cases r with
  | true=>
   have hg1:=hg1 rfl
   repeat (first|refine aw ?_|refine f1 ?_)
   exact cH j hg1 (by exact Uw.wM)
  | false=>
   obtain rfl:=ho rfl
   repeat (first|refine aw ?_|refine f1 ?_)
   exact aW (ag rfl rfl rfl rfl rfl)
 obtain rfl:=hall fun j h=>hg j h h;simp only [Zb];clear hone hall VK hg
 cases b1 with
 | false=>
  simp only [Y3]
  repeat (first|refine aw ?_|refine f1 ?_)
  refine aS ?_
  repeat (first|refine aw ?_|refine f1 ?_)
  refine dO 4 ?_;show WT _ _ _;refine aw ?_;refine aw ?_;refine au [I c.maps] rfl ?_
  repeat refine aw ?_
  exact wR (ag rfl rfl rfl rfl rfl)
 | true=>
 cases b2 with
 | false=>
  simp only [Y3,aa3]
  repeat (first|refine aw ?_|refine f1 ?_)
  refine aS ?_
  repeat (first|refine aw ?_|refine f1 ?_)
  refine dO 4 ?_;show WT _ _ _;refine aw ?_;refine aw ?_;refine au [I c.maps] rfl ?_
  repeat refine aw ?_
  refine cA ?_;refine aw ?_;refine aw ?_;refine au [I c.stacks] rfl ?_
  repeat refine aw ?_
  exact wR (ag rfl rfl rfl rfl rfl)
 | true=>
 cases b3 with
 | false=>
  simp only [Y3,aa3]
  repeat (first|refine aw ?_|refine f1 ?_)
  refine aS ?_
  repeat (first|refine aw ?_|refine f1 ?_)
  refine dO 4 ?_;show WT _ _ _;refine aw ?_;refine aw ?_;refine au [I c.maps] rfl ?_
  repeat refine aw ?_
  refine cA ?_;refine aw ?_;refine aw ?_;refine au [I c.stacks] rfl ?_
  repeat refine aw ?_
  refine cA ?_;refine aw ?_;refine aw ?_;refine au [I c.chans] rfl ?_
  repeat refine aw ?_
  exact wR (ag rfl rfl rfl rfl rfl)
 | true=>
  simp only [Zb]
  repeat (first|refine aw ?_|refine f1 ?_)
  refine aS ?_
  repeat (first|refine aw ?_|refine f1 ?_)
  refine dO 4 ?_;show WT _ _ _;refine aw ?_;refine aw ?_;refine au [I c.maps] rfl ?_
  repeat refine aw ?_
  refine cA ?_;refine aw ?_;refine aw ?_;refine au [I c.stacks] rfl ?_
  repeat refine aw ?_
  refine cA ?_;refine aw ?_;refine aw ?_;refine au [I c.chans] rfl ?_
  repeat refine aw ?_
  refine cA ?_
  repeat refine aw ?_
  refine gB ?_
  repeat (first|refine aw ?_|refine f1 ?_)
  refine dH c.am.length (Yy c) (fun j=>∀h:j<c.am.length,kc c c.am[j]=true) ?_ (fun hg=>?_) (fun j hj _=>?_)
  ·exact Uw.wM
  rotate_left 1
  ·have hn:=hso j c.am[j] (AN hj)
   have ho:=P1 j hj;have hg1:kc c c.am[j]=true->∀h:j<c.am.length,kc c c.am[j]=true:=fun h _=>h;clear hbc P1 P2 hso;generalize kc c c.am[j]=r at *
   cases r with
   | true=>
    have hg1:=hg1 rfl
    repeat (first|refine aw ?_|refine f1 ?_)
    exact cH j hg1 (by exact Uw.wM)
   | false=>
    obtain rfl:=ho rfl
    repeat (first|refine aw ?_|refine f1 ?_)
    exact aW (ag rfl rfl rfl rfl rfl)
  obtain rfl:=P2 fun j h=>hg j h h
  repeat (first|refine aw ?_|refine f1 ?_)
  refine aS ?_
  repeat (first|refine aw ?_|refine f1 ?_)
  exact ag rfl rfl rfl rfl rfl
end Uw.Tryz
namespace Uw.Tryz.El
open Go Uw Uw.Tryz Go.Proofs Go.RowKit
abbrev A0:Ty:=.int .i64
abbrev Yz:Ty:=.struct [A0,A0,A0,A0]
abbrev XC:Ty:=.struct [A0,A0,.slice 4 Yz]
abbrev TI:Ty:=.struct [.slice 3 XC,.slice 1 A0,A0,A0,A0,A0]
structure Rch (c:Cd):Prop where
 am:c.am.length<=reachBytes
 cells:c.cells.length<=reachBytes
 ins:∀b∈c.am,b.ins.length<=reachBytes
theorem SJ {ds:List Dat} (h:tR TI ds):∃c:Cd,Dat.agg ds=cdD c/\Rch c:=by
 obtain ⟨_,_,rfl,⟨fs,rfl,hfl,hf⟩,_,_,rfl,⟨cs,rfl,hcl,hc⟩,_,_,rfl,⟨m,rfl,_⟩,_,_,rfl,⟨s,rfl,_⟩,_,_,rfl,⟨ch,rfl,_⟩,_,_,rfl,⟨mn,rfl,_⟩,rfl⟩:=h;obtain ⟨fl,rfl,hfq⟩:=yM (f:=bdC) (Q:=fun b=>b.ins.length<=reachBytes) (fun x hx'=>by
  obtain ⟨_,_,rfl,⟨a,rfl,_⟩,_,_,rfl,⟨b,rfl,_⟩,_,_,rfl,⟨is,rfl,hl,hi⟩,rfl⟩:=hf x hx';obtain ⟨il,rfl,_⟩:=yM (f:=in4) (Q:=fun _=>True) (fun y hy=>by
   obtain ⟨_,_,rfl,⟨o,rfl,_⟩,_,_,rfl,⟨a,rfl,_⟩,_,_,rfl,⟨b,rfl,_⟩,_,_,rfl,⟨c,rfl,_⟩,rfl⟩:=hi y hy;exact ⟨⟨o,a,b,c⟩,rfl,trivial⟩)
  exact ⟨⟨a,b,il⟩,rfl,by simpa using hl⟩)
 obtain ⟨cl,rfl,_⟩:=yM (f:=fun i=>[I i]) (Q:=fun _=>True) (fun y hy=>by
  obtain ⟨n,rfl,_⟩:=hc y hy;exact ⟨n,rfl,trivial⟩)
 exact ⟨⟨fl,cl,m,s,ch,mn⟩,rfl,⟨by simpa using hfl,by simpa using hcl,hfq⟩⟩
def rb (l:List Bd):Nat:=(l.map fun b=>b.ins.length).sum
def BH (c:Cd):Bool:=decide (c.am.length<=40)&&decide (rb c.am<=1200)&&decide (c.cells.length<=40)
theorem LU {l:List Bd} {j:Nat} (h:j<l.length):rb (l.take (j+1))=rb (l.take j)+l[j].ins.length:=by
 unfold rb;rw [Zg h,Z7,aaX];simp
theorem Kr {R:Nat}:∀{l:List Bd},(∀b∈l,b.ins.length<=R)->rb l<=l.length * R
 | [],_=>ZN _
 | b::l,h=>by
  have h1:=Kr (l:=l) fun x hx=>h x (by simp [hx]);have h2:=h b (by simp);have e:rb (b::l)=b.ins.length+rb l:=by simp [rb]
  rw [e,Y7,Y6];omega
abbrev feS (c:Cd):Nat×Int->St:=fun (j,n)=>⟨[(4,.d (I j)),(3,.d (I n)),(2,.d (.bool false)),(1,.ptr 0 0)],[(0,.var (cdV c))],1,[],0⟩
theorem HC (c:Cd) (hr:Rch c):Ret P0 ya [cdD c] (.bool (BH c)):=by
 have hR:=NF;have h1:=hr.am;have h2:=hr.cells;have hfl:(c.am.map bdC).length=c.am.length:=by simp
 have hcl:(c.cells.map fun i=>[I i]).length=c.cells.length:=by simp
 have hi:∀j (h:j<c.am.length),(c.am.map bdC)[(j:Int).toNat]? = some [I c.am[j].args,I c.am[j].locals,.slice 4 (c.am[j].ins.map in4) false]/\c.am[j].ins.length<140737488355328:=fun j h=>⟨by simp [h,bdC],by have:=hr.ins _ (YX h);omega⟩
 have hinv:∀(j:Nat) (n:Int) (h:j<c.am.length),(c.am.length<=40->n=(rb (c.am.take j):Nat))->(c.am.length<=40->0<=n/\n<=40 * 140737488355328)/\(c.am.length<=40->n+(c.am[j].ins.length:Nat)=(rb (c.am.take (j+1)):Nat)):=by
  intro j n h hn;refine ⟨fun h40=>?_,fun h40=>?_⟩
  ·rw [hn h40]
   have:=Kr (l:=c.am.take j) (R:=reachBytes) fun b hb=>hr.ins b (Zi hb);have h3:(c.am.take j).length * reachBytes<=40 * reachBytes:=Y5 _ (by simp;omega);omega
  ·rw [hn h40,LU h];omega
 have hend:∀n:Int,(c.am.length<=40->n=(rb (c.am.take c.am.length):Nat))->BH c=(decide (c.am.length<=40)&&decide (n<=1200)&&decide (c.cells.length<=40)):=by
  intro n hn;unfold BH;by_cases h40:c.am.length<=40
  ·rw [hn h40,ZE]
   have e:(((rb c.am:Nat):Int)<=1200)=(rb c.am<=1200):=propext (by omega);simp only [e]
  ·simp [h40]
 generalize BH c=R at *;refine aj Gh.h rfl ?_
 repeat refine aw ?_
 refine cX (feS c) (fun x=>x.1<=c.am.length/\(c.am.length<=40->x.2=(rb (c.am.take x.1):Nat))) (fun x=>c.am.length - x.1) (0,0) (by exact Uw.wM) ⟨ZN _,fun _=>rfl⟩ ?_;rintro ⟨j,n⟩ ⟨hj,hn⟩;simp only at hj hn;by_cases hlt:j<c.am.length
 ·obtain ⟨g1,g2⟩:=hi j hlt
  obtain ⟨g3,g4⟩:=hinv j n hlt hn;have g5:(c.am[j].ins.map in4).length=c.am[j].ins.length:=by simp
  have hlt' : (j:Int)<((c.am.map bdC).length:Nat):=by omega
  generalize hL:c.am[j].ins.map in4=L at *;generalize c.am[j].ins.length=m at *;generalize c.am[j].args=A at *;generalize c.am[j].locals=B at *
  repeat refine aw ?_
  refine bz (fun ht=>?_) (fun ht=>?_)
  ·repeat refine aw ?_
   refine aN (j+1,n+(L.length:Nat)) ⟨hlt,fun h40=>by show n+(L.length:Nat)=_;rw [g5];exact g4 h40⟩ (by show _ - (j+1)<_ - j;omega) (by exact Uw.wM)
  ·have h40:¬c.am.length<=40:=by
    intro h40;have:=g3 h40;simp [inR] at ht;omega
   repeat refine aw ?_
   refine aN (j+1,IntKind.i64.wrap (n+(L.length:Nat))) ⟨hlt,fun h=>absurd h h40⟩ (by show _ - (j+1)<_ - j;omega) (by exact Uw.wM)
 ·have hje:j=c.am.length:=by omega
  subst hje;have hlt' : ¬((c.am.length:Nat):Int)<((c.am.map bdC).length:Nat):=by omega
  have he:=hend n hn;clear hinv hend hi hn;by_cases q1:c.am.length<=40
  rotate_left 1
  ·have q1' : ¬((c.am.map bdC).length:Int)<=40:=by omega
   rw [decide_eq_false q1,Y3,Y3] at he;subst he
   repeat refine aw ?_
   refine aS ?_
   repeat refine aw ?_
   exact ag rfl rfl rfl rfl rfl
  have q1' : ((c.am.map bdC).length:Int)<=40:=by omega
  by_cases q2:n<=1200
  rotate_left 1
  ·rw [decide_eq_false q2,aa3,Y3] at he
   subst he
   repeat refine aw ?_
   refine aS ?_
   repeat refine aw ?_
   exact ag rfl rfl rfl rfl rfl
  have e3:decide (c.cells.length<=40)=decide (((c.cells.map fun i=>[I i]).length:Int)<=40):=decide_eq_decide.2 (by omega);rw [decide_eq_true q1,decide_eq_true q2,e3,Zb,Zb] at he;subst he
  repeat refine aw ?_
  refine aS ?_
  repeat refine aw ?_
  exact ag rfl rfl rfl rfl rfl
theorem HD {c:Cd} (h:sR c=true):CO c:=by
 simp only [sR,i9,ZC,Zt,decide_eq_false_iff_not,bM,decide_eq_true_eq,YW] at h;obtain ⟨⟨⟨⟨⟨⟨h1,h2⟩,h3⟩,h4⟩,h5⟩,h6⟩,h7⟩:=h;have hs:∀b∈c.am,b.ins.length<=400/\b.locals<=16:=by
  intro b hb;have:=h7 b hb;simp only [kc,i9,ZC,Zt,decide_eq_false_iff_not] at this;omega
 exact ⟨by omega,by omega,fun b hb=>by have:=(hs b hb).1;omega,fun b hb=>by have:=(hs b hb).2;omega,by omega,by omega,by omega⟩
abbrev uR (c:Cd):Vm.Frame×Int:=Vm.c6 c c.main [] 1 []
structure Runs (c:Cd):Prop where
 right:sR c=true
 co:CO c
 start:(uR c).2=0
 err:(fc c).2=0
 done:Done c (cG c) (fc c).1
 bnd:DnB (cG c) (uR c).1 (fc c).1
theorem Ks {c:Cd} (hc:CO c) (hs:(uR c).2=0) (he:(fc c).2=0) {pre:Wd->Vm.Frame->Int->Int->Prop} {lp:Wd->Vm.Frame->Int->Int->Wd->Vm.Frame->Int->Int->Prop} {dn:Wd->Vm.Frame->Int->Int->Wd->Prop} (I:Ind c pre lp dn) (hp:pre (cG c) (uR c).1 0 0):dn (cG c) (uR c).1 0 0 (fc c).1:=by
 obtain ⟨e1,e2⟩:=iW hs;refine I.run hc 64 (cG c) _ 0 0 (Hv hc) (by simp [cG]) (by simp [cG]) ?_ ?_ ?_ ?_ ?_ ?_ hp he
 ·rw [e1];exact e2
 ·rw [e1];rfl
 ·rw [e1];simp [Vm.gq]
 ·rw [e1];rfl
 ·rw [e1];rfl
 ·rw [e1];rfl
theorem HE (c:Cd) (hf:BH c=true):(∃e,e≠0/\Ret P0 dI [cdD c] (LM e))\/(Runs c/\Ret P0 dI [cdD c] (DN (fc c).1 (j0 (fc c).1.fails))):=by
 simp only [BH,i9,decide_eq_true_eq] at hf;have hR:=lU c (by omega) (by omega)
 cases hr:sR c with
 | false=>rw [hr] at hR;exact .inl ⟨1,by decide,wn c hR⟩
 | true=>
  rw [hr] at hR;have hc:=HD hr;by_cases hs:(uR c).2=0
  ·by_cases he:(fc c).2=0
   ·have hd:=(tj c hc hs).2 he
    have hb:=Ks hc hs he (Jb c) ⟨by simp [cG],by simp [cG]⟩;refine .inr ⟨⟨hr,hc,hs,he,hd,hb⟩,wo c hc hR hs he _ (List.Perm.length_eq (AZ _)) ?_⟩;refine Kp _ (fun x hx=>by have:=hb.short x hx;omega) ?_;have:=hd.wi.fails;have:=hd.wi.vals;omega
   ·exact .inl ⟨_,he,EU c hc hR hs he⟩
  ·exact .inl ⟨_,hs,ET c hc hR hs⟩
end Uw.Tryz.El
namespace Uw.Tryz
open Go Uw
end Uw.Tryz
namespace Uw.Tryz
open Go Uw
def endOf (r:List UInt8):Nat:=
 match r with
 | []=>0
 | c::t=>if cls c=5 then (if c.toNat=61/\eqq t=true then 2 else 1)
  else if cls c=1 then 1+(t.takeWhile nameB).length else 1+(t.takeWhile eW).length
theorem oG (c:UInt8) (t:List UInt8) (h:cls c=5):endOf (c::t)=if c.toNat=61/\eqq t=true then 2 else 1:=by
 rw [endOf,if_pos h]
theorem wx {α:Type} (p:α->Bool) (l:List α) (k:Nat) (h:k<=l.length) (h1:∀(j:Nat) (hj:j<l.length),j<k->p l[j]=true) (h2:∀b,l[k]? = some b->p b=false):(l.takeWhile p).length=k:=by
 have e:l=l.take k++l.drop k:=by simp
 have h1' : ∀a∈l.take k,p a=true:=by
  intro a ha;rw [aa5] at ha;obtain ⟨j,hj,rfl⟩:=ha;exact h1 j (by omega) (by omega)
 rw [e,List.takeWhile_append_of_pos h1'];have:(l.drop k).takeWhile p=[]:=by
  cases hd:l.drop k with
  | nil=>rfl
  | cons b r=>
   have hb:l[k]? = some b:=by
    have:=congrArg (fun l=>l[0]?) hd;simpa using this
   rw [Zw,h2 b hb];rfl
 rw [this];simp;omega
end Uw.Tryz
namespace Uw.Tryz
open Go Uw
theorem uS {b:UInt8} (h:eW b=true):48<=b.toNat/\b.toNat<=57:=by
 simp only [eW,decide_eq_true_eq] at h;unfold cls at h
 repeat' split at h
 all_goals first|omega|cases h
def yF (w:List UInt8):Int:=if 10<w.length\/(w.head? = some 48/\1<w.length) then -1 else if 4294967296<=rD w then -1 else ((rD w:Nat):Int)
theorem Kt (w:List UInt8) (h:0<w.length):(w.head? = some 48)<->w[0].toNat=48:=by
 cases w with
 | nil=>simp at h
 | cons b r=>
  simp only [List.head?_cons,Y8,List.getElem_cons_zero];constructor
  ·intro e;rw [e];rfl
  ·intro e;exact aaW.1 e
end Uw.Tryz
namespace Uw.Tryz
open Go Uw
theorem lL (c:UInt8) (t:List UInt8) (h:cls c=1):cZ (c::t)=if endOf (c::t)<=12 then some (1,endOf (c::t),0) else none:=by
 have e:endOf (c::t)=1+(t.takeWhile nameB).length:=by simp [endOf,h]
 rw [cZ,if_pos h,e]
theorem lM (c:UInt8) (t:List UInt8) (h:cls c=5):cZ (c::t)=some (3,endOf (c::t),0):=by
 rw [cZ,if_neg (by omega),if_neg (by omega),if_pos h,oG c t h]
 split<;>rfl
theorem gK (c:UInt8) (t:List UInt8) (h:cls c≠1) (h2:cls c≠2) (h3:cls c≠5):cZ (c::t)=none:=by
 rw [cZ,if_neg h,if_neg h2,if_neg h3]
theorem xK (c:UInt8) (t:List UInt8) (h:cls c=2):endOf (c::t)=1+(t.takeWhile eW).length:=by simp [endOf,h]
theorem sS {α:Type} (p:α->Bool):∀(l:List α),l.drop (l.takeWhile p).length=l.dropWhile p
 | []=>rfl
 | y::r=>by
  rw [Zw,List.dropWhile_cons]
  split
  ·rw [Y7,aaI,sS p r]
  ·rfl
theorem take_takeWhile {α:Type} (p:α->Bool):∀(l:List α),l.take (l.takeWhile p).length=l.takeWhile p
 | []=>rfl
 | y::r=>by
  rw [Zw]
  split
  ·rw [Y7,aai,take_takeWhile p r]
  ·rfl
theorem wy (c:UInt8) (t:List UInt8) (h:cls c=2):(c::t).take (endOf (c::t))=c::t.takeWhile eW:=by
 rw [xK c t h,aaO,aai,take_takeWhile]
theorem P3 (c:UInt8) (t:List UInt8) (h:cls c=2):(c::t).drop (endOf (c::t))=t.dropWhile eW:=by
 rw [xK c t h,aaO,aaI,sS]
theorem all_takeWhile {α:Type} (p:α->Bool) (l:List α):(l.takeWhile p).all p=true:=by
 induction l with
 | nil=>rfl
 | cons y r ih=>
  rw [Zw]
  split
  ·rename_i h;simp [h]
  ·rfl
theorem Ku (c:UInt8) (t:List UInt8) (h:cls c=2):((c::t).take (endOf (c::t))).all eW=true:=by
 rw [wy c t h,aat,all_takeWhile];simp [eW,h]
theorem oH (c:UInt8) (t:List UInt8) (h:cls c=2):cZ (c::t)=if 0<=yF ((c::t).take (endOf (c::t)))/\Gx ((c::t).drop (endOf (c::t)))=false then some (2,endOf (c::t),yF ((c::t).take (endOf (c::t)))) else none:=by
 rw [cZ,if_neg (by omega),if_pos h,wy c t h,P3 c t h,xK c t h];have hc:(c.toNat=48)<->((c::t.takeWhile eW).head? = some 48):=by rw [Kt _ (by simp)];rfl
 have n1:(10<(t.takeWhile eW).length+1\/c.toNat=48/\1<(t.takeWhile eW).length+1)->yF (c::t.takeWhile eW) = -1:=fun h=>by
  rw [yF,if_pos (by rw [<- hc];exact h)]
 have n2:¬(10<(t.takeWhile eW).length+1\/c.toNat=48/\1<(t.takeWhile eW).length+1)->yF (c::t.takeWhile eW)=if 4294967296<=rD (c::t.takeWhile eW) then -1 else ((rD (c::t.takeWhile eW):Nat):Int):=fun h=>by
  rw [yF,if_neg (by rw [<- hc];exact h)]
 generalize yF (c::t.takeWhile eW)=R at n1 n2;by_cases h1:1+(t.takeWhile eW).length<=10/\¬(1<1+(t.takeWhile eW).length/\c.toNat=48)
 ·have n2:=n2 (by omega)
  by_cases h2:rD (c::t.takeWhile eW)<4294967296
  ·rw [if_neg (by omega)] at n2
   by_cases h3:Gx (t.dropWhile eW)=false
   ·rw [if_pos ⟨h1.1,h1.2,h2,h3⟩,if_pos ⟨by omega,h3⟩,n2]
   ·rw [if_neg (fun h=>h3 h.2.2.2),if_neg (fun h=>h3 h.2)]
  ·rw [if_pos (by omega)] at n2
   rw [if_neg (fun h=>h2 h.2.2.1),if_neg (fun h=>by have:=h.1;omega)]
 ·have n1:=n1 (by omega)
  rw [if_neg (fun h=>h1 ⟨h.1,h.2.1⟩),if_neg (fun h=>by have:=h.1;omega)]
theorem HF (c:UInt8) (t:List UInt8):1<=endOf (c::t)/\endOf (c::t)<=t.length+1:=by
 have h1:=m8 nameB t;have h2:=m8 eW t;rw [endOf]
 split
 ·split
  ·rename_i h
   cases t with
   | nil=>simp [eqq] at h
   | cons b r=>simp
  ·omega
 ·split<;>omega
def Read (s:List UInt8) (a:Nat) (out:List Tok):Prop:=qo s 0=(qo (s.drop a) (a:Int)).map (out++·)
theorem Read.init (s:List UInt8):Read s 0 []:=by
 rw [Read,YY];simp
theorem Read.blank {s:List UInt8} {a:Nat} {out:List Tok} (h:Read s a out) (ha:a<s.length) (hb:cls s[a]=4):Read s (a+1) out:=by
 rw [Read,Zo ha,IK _ _ _ hb] at h;rw [Read,h];rfl
theorem Read.none {s:List UInt8} {a:Nat} {out:List Tok} (h:Read s a out) (ha:a<s.length) (hb:cls s[a]≠4) (ht:cZ (s.drop a)=none):qo s 0=none:=by
 rw [Read] at h;rw [h];rw [Zo ha] at ht ⊢;rw [Lj _ _ _ hb ht];rfl
theorem Read.tok {s:List UInt8} {a:Nat} {out:List Tok} (h:Read s a out) (ha:a<s.length) (hb:cls s[a]≠4) {k:Int} {n:Nat} {v:Int} (ht:cZ (s.drop a)=some (k,n,v)) :
  Read s (a+n) (out++[⟨k,(s.drop a).take n,v,a⟩]):=by
 rw [Read,h];rw [Zo ha] at ht ⊢;rw [N9 _ _ _ hb ht,<- Zo ha,aao];rw [show ((a:Int)+(n:Int))=((a+n:Nat):Int) by omega]
 cases qo (s.drop (a+n)) ((a+n:Nat):Int) with
 | none=>rfl
 | some l=>simp
theorem Read.end {s:List UInt8} {a:Nat} {out:List Tok} (h:Read s a out) (ha:s.length<=a):qo s 0=some out:=by
 rw [Read] at h;rw [h,abh ha,N8];simp
def BI (s:List UInt8):Dat:=if 4000<s.length then .tuple [.nil,I 2] else match qo s 0 with|none=>.tuple [.nil,I 3]|some l=>.tuple [N7 l,I 0]
theorem SK (s:List UInt8):DLe (BI s) (IL (sF s)):=by
 rw [BI,sF];by_cases h:4000<s.length
 ·rw [if_pos h,if_pos h];exact .tuple (.cons (.nil 4) (.refl _))
 ·rw [if_neg h,if_neg h]
  cases qo s 0 with
  | none=>exact .tuple (.cons (.nil 4) (.refl _))
  | some l=>exact .refl _
theorem SN {s:List UInt8} {a n:Nat} (h:a+n<=s.length):((s.drop a).take n).length=n:=by simp;omega
end Uw.Tryz
namespace Uw.Tryz
open Go Uw
def tD (r:Int):Bool:=decide ((97<=r/\r<=122)\/(65<=r/\r<=90))
def xM (r:Int):Bool:=decide (48<=r/\r<=57)
def A1 (r:Int):Bool:=decide (r=9\/r=10\/r=32)
theorem ri (r:Int):Ret P0 jK [.int .i32 r] (.bool (tD r)):=by
 refine aj m6.h rfl ?_
 repeat' first|refine aw ?_|refine bw (fun _=>?_) fun _=>?_
 all_goals
  refine ag (P:=P0) rfl rfl rfl rfl ?_;exact congrArg Dat.bool (Zv.2 (by simp only [decide_eq_true_eq,Zl,tD,xM,A1,eq_self,true_iff,Y4,false_iff];omega))
theorem yo (r:Int):Ret P0 lq [.int .i32 r] (.bool (xM r)):=by
 refine aj pd.h rfl ?_
 repeat' first|refine aw ?_|refine bw (fun _=>?_) fun _=>?_
 all_goals
  refine ag (P:=P0) rfl rfl rfl rfl ?_;exact congrArg Dat.bool (Zv.2 (by simp only [decide_eq_true_eq,Zl,tD,xM,A1,eq_self,true_iff,Y4,false_iff];omega))
theorem HG (r:Int):Ret P0 sb [.int .i32 r] (.bool (A1 r)):=by
 refine aj sc.h rfl ?_
 repeat' first|refine aw ?_|refine bw (fun _=>?_) fun _=>?_
 all_goals
  refine ag (P:=P0) rfl rfl rfl rfl ?_;exact congrArg Dat.bool (Zv.2 (by simp only [decide_eq_true_eq,Zl,tD,xM,A1,eq_self,true_iff,Y4,false_iff];omega))
theorem EY (r:Int):Ret P0 jL [.int .i32 r] (.bool (tD r||xM r||decide (r=95))):=by
 have h1:=ri r;have h2:=yo r;refine aj m7.h rfl ?_
 repeat' first|refine aw ?_|refine bw (fun _=>?_) fun _=>?_
 all_goals
  refine ag (P:=P0) rfl rfl rfl rfl ?_;exact congrArg Dat.bool (Zv.2 (by simp only [decide_eq_true_eq,Zl,tD,xM,A1,eq_self,true_iff,Y4,false_iff];omega))
theorem A2 (r:Int):Ret P0 fZ [.int .i32 r] (.bool (tD r||decide (r=95))):=by
 have h1:=ri r;refine aj jM.h rfl ?_
 repeat' first|refine aw ?_|refine bw (fun _=>?_) fun _=>?_
 all_goals
  refine ag (P:=P0) rfl rfl rfl rfl ?_;exact congrArg Dat.bool (Zv.2 (by simp only [decide_eq_true_eq,Zl,tD,xM,A1,eq_self,true_iff,Y4,false_iff];omega))
theorem rj (f:FuncId) (p:Int->Bool) (hb:mV P0 f) (hf:∀r,Ret P0 f [.int .i32 r] (.bool (p r))) (hp:∀r,128<=r->p r=false) (s:List UInt8) (hs:s.length<1000000):Ret P0 iR [.str s,.func f] (I ((s.takeWhile (fun b=>p (b.toNat:Int))).length:Nat)):=by
 refine aj uK.h rfl ?_
 repeat' first|refine aw ?_|refine bw (fun _=>?_) fun _=>?_
 refine cX (fun k:Nat=>⟨[(8,.hnd 0),(0,.d (.str s)),(1,.d (.func f))],[(0,.iter s k)],1,[],0⟩)
  (fun k=>k<=s.length/\∀(i:Nat) (hi:i<s.length),i<k->p (s[i].toNat:Int)=true) (fun k=>s.length - k) 0 (by exact Uw.wW) ⟨by omega,by intros;omega⟩ ?_
 rintro k ⟨h1,h2⟩;by_cases hk:k<s.length
 ·have hk' : s[k]? = some s[k]:=by simp [hk]
  have stop:p (s[k].toNat:Int)=false->(s.takeWhile (fun b=>p (b.toNat:Int))).length=k:=fun h=>wx _ s k h1 h2 (fun b hb=>by rw [hk'] at hb;injection hb with hb;rw [<- hb];exact h);by_cases hlow:s[k].toNat<128
  ·have hr:=uw s k s[k] hk' hlow
   have hr1:((bH s k).1:Int)=s[k].toNat:=by rw [hr]
   have hr2:(bH s k).2=1:=by rw [hr]
   have hfr:=hf ((bH s k).1:Int);rw [show p ((bH s k).1:Int)=p (s[k].toNat:Int) by rw [hr1]] at hfr;have hk1:k+(bH s k).2=k+1:=by rw [hr2]
   clear hr hr1
   cases hpk:p (s[k].toNat:Int) with
   | false=>
    rw [hpk] at hfr;have hst:=stop hpk;clear stop h2
    repeat' first|refine aw ?_|refine bw (fun _=>?_) fun _=>?_
    refine bG _ hb rfl hfr ?_
    repeat' first|refine aw ?_|refine bw (fun _=>?_) fun _=>?_
    exact ag (P:=P0) rfl rfl rfl rfl (by rw [hst];rfl)
   | true=>
    rw [hpk] at hfr;have h3:∀(i:Nat) (hi:i<s.length),i<k+(bH s k).2->p (s[i].toNat:Int)=true:=by
     intro i hi hik;by_cases e:i=k
     ·subst e;exact hpk
     ·exact h2 i hi (by omega)
    clear stop h2
    repeat' first|refine aw ?_|refine bw (fun _=>?_) fun _=>?_
    refine bG _ hb rfl hfr ?_
    repeat' first|refine aw ?_|refine bw (fun _=>?_) fun _=>?_
    exact aN (k+(bH s k).2) ⟨by omega,h3⟩ (by omega) (by exact Uw.wW)
  ·obtain ⟨a1,a2,a3,a4,a5⟩:=x7 s k s[k] hk' (by omega)
   have hfr:=hf ((bH s k).1:Int);rw [hp _ (by omega)] at hfr;have hst:=stop (hp _ (by omega));clear stop h2 a5
   repeat' first|refine aw ?_|refine bw (fun _=>?_) fun _=>?_
   refine bG _ hb rfl hfr ?_
   repeat' first|refine aw ?_|refine bw (fun _=>?_) fun _=>?_
   exact ag (P:=P0) rfl rfl rfl rfl (by rw [hst];rfl)
 ·have hst:(s.takeWhile (fun b=>p (b.toNat:Int))).length=s.length:=by
   have e:k=s.length:=by omega
   exact wx _ s s.length (Ls _) (fun j hj _=>h2 j hj (by omega)) (fun b hb=>by rw [Y2 (Ls _)] at hb;cases hb)
  clear h2
  repeat' first|refine aw ?_|refine bw (fun _=>?_) fun _=>?_
  exact ag (P:=P0) rfl rfl rfl rfl (by rw [hst];rfl)
end Uw.Tryz
namespace Uw.Tryz
open Go Uw Go.Proofs Go.RowKit
theorem yp:∀(l:List UInt8) (n:Nat),l.all eW=true->Lib.decFrom n l=some (l.foldl (fun n b=>10 * n+(b.toNat - 48)) n)
 | [],n,_=>rfl
 | b::r,n,h=>by
  rw [aat,i9] at h;have hb:=uS h.1;rw [Lib.decFrom,Lib.digitVal,if_pos hb];simp only;rw [yp r _ h.2,aag,Nat.mul_comm]
theorem P4 (l:List UInt8) (h0:l≠[]) (h:l.all eW=true):Lib.atoi l=some (rD l:Nat):=by
 cases l with
 | nil=>exact absurd rfl h0
 | cons b r=>
  have hb:=uS (by rw [aat,i9] at h;exact h.1);have h1:(b == 45)=false:=by
   rw [beq_eq_false_iff_ne];intro e;subst e;simp at hb
  have h2:(b == 43)=false:=by
   rw [beq_eq_false_iff_ne];intro e;subst e;simp at hb
  rw [Lib.atoi,h1,h2];simp only [Y4,if_false];rw [Lib.decNat,yp _ _ h];rfl
theorem A3 (l:List UInt8) (h0:l≠[]) (h:l.all eW=true) (hl:l.length<=18):Ret P0 zD [.str l] (.tuple [I (rD l:Nat),.nilIface]):=by
 intro w J vs hG hr;obtain ⟨v,vs',rfl,hv,hr⟩:=hr;simp only [aQ] at hr;subst hr;simp only [aG] at hv;subst hv;refine (Tryz.strconv_Atoi ⟨l.toArray⟩ (rD l:Nat) (by simpa [ByteArray.size] using hl) (by simpa using P4 l h0 h) w).mono ?_;rintro e w' ⟨rfl,t,rfl⟩;exact ⟨_,rfl,⟨[_,_],rfl,⟨_,_,rfl,rfl,⟨_,_,rfl,rfl,rfl⟩⟩⟩,Lib.bytesWorld_below _ _ _⟩
theorem tG (s p:List UInt8):Ret P0 tu [.str s,.str p] (.bool (Lib.hasPrefix s p)):=by
 intro w J vs hG hr;obtain ⟨v,vs',rfl,hv,u,vs'',rfl,hu,hr⟩:=hr;simp only [aQ] at hr;subst hr;simp only [aG] at hv hu;subst hv hu;refine (Tryz.strings_HasPrefix ⟨s.toArray⟩ ⟨p.toArray⟩ w).mono ?_;rintro e w' ⟨rfl,rfl⟩;exact ⟨_,rfl,rfl,Below.refl _ _⟩
theorem tH (s:List UInt8) (c:UInt8):Ret P0 tw [.str s,.int .u8 (c.toNat:Int)] (I (Lib.indexByte s c)):=by
 intro w J vs hG hr;obtain ⟨v,vs',rfl,hv,u,vs'',rfl,hu,hr⟩:=hr;simp only [aQ] at hr;subst hr;simp only [aG] at hv hu;subst hv hu;refine (Tryz.strings_IndexByte ⟨s.toArray⟩ (c.toNat:Int) w).mono ?_;rintro e w' ⟨rfl,rfl⟩;refine ⟨_,rfl,?_,Below.refl _ _⟩;simp [aG]
theorem yq (l:List UInt8) (h0:l≠[]) (h:l.all eW=true) (hl:l.length<=18):Ret P0 sw [.str l] (I (rD l:Nat)):=by
 have ha:=A3 l h0 h hl;clear h h0;refine aj sx.h rfl ?_
 repeat' first|refine aw ?_|refine bw (fun _=>?_) fun _=>?_
 exact ag (P:=P0) rfl rfl rfl rfl rfl
end Uw.Tryz
namespace Uw.Tryz
open Go Uw Go.Proofs Go.RowKit
theorem A4 (b:UInt8):tD (b.toNat:Int)=decide (cls b=1):=by
 refine Zv.2 ?_;simp only [tD,decide_eq_true_eq];unfold cls;constructor
 ·intro h;rw [if_pos (by omega)]
 ·intro h
  split at h
  ·omega
  ·repeat' split at h
   all_goals omega
theorem HI (b:UInt8):xM (b.toNat:Int)=decide (cls b=2):=by
 refine Zv.2 ?_;simp only [xM,decide_eq_true_eq];unfold cls;constructor
 ·intro h;rw [if_neg (by omega),if_pos (by omega)]
 ·intro h
  repeat' split at h
  all_goals omega
theorem Kv (b:UInt8):decide ((b.toNat:Int)=95)=decide (cls b=3):=by
 refine Zv.2 ?_;simp only [decide_eq_true_eq];unfold cls;constructor
 ·intro h;rw [if_neg (by omega),if_neg (by omega),if_pos (by omega)]
 ·intro h
  repeat' split at h
  all_goals omega
theorem P5 (b:UInt8):A1 (b.toNat:Int)=decide (cls b=4):=by
 refine Zv.2 ?_;simp only [A1,decide_eq_true_eq];unfold cls;constructor
 ·intro h;rw [if_neg (by omega),if_neg (by omega),if_neg (by omega),if_pos (by omega)]
 ·intro h
  repeat' split at h
  all_goals omega
theorem LV (s:List UInt8) (hs:s.length<1000000):Ret P0 iR [.str s,.func jK] (I ((s.takeWhile (fun b=>decide (cls b=1))).length:Nat)):=by
 have:=rj jK tD m6.h.body ri (fun r hr=>by simp [tD];omega) s hs;simpa only [A4] using this
theorem P6 (s:List UInt8) (hs:s.length<1000000):Ret P0 iR [.str s,.func lq] (I ((s.takeWhile eW).length:Nat)):=by
 have:=rj lq xM pd.h.body yo (fun r hr=>by simp [xM];omega) s hs;simp only [HI] at this;exact this
theorem SO (s:List UInt8) (hs:s.length<1000000):Ret P0 iR [.str s,.func jL] (I ((s.takeWhile nameB).length:Nat)):=by
 have:=rj jL (fun r=>tD r||xM r||decide (r=95)) m7.h.body EY (fun r hr=>by simp [tD,xM];omega) s hs;simp only [A4,HI,Kv] at this;exact this
theorem LW (s:List UInt8) (hs:s.length<1000000):Ret P0 iR [.str s,.func fZ] (I ((s.takeWhile (fun b=>decide (cls b=1)||decide (cls b=3))).length:Nat)):=by
 have:=rj fZ (fun r=>tD r||decide (r=95)) jM.h.body A2 (fun r hr=>by simp [tD];omega) s hs;simp only [A4,Kv] at this;exact this
def iY (r:List UInt8):Nat:=match cZ r with|some (k,n,_)=>if k=1 then n else 0|none=>0
def kA (r:List UInt8):Nat:=match cZ r with|some (k,n,_)=>if k=2 then n else 0|none=>0
def oI (r:List UInt8):Nat:=match cZ r with|some (k,n,_)=>if k=3 then n else 0|none=>0
theorem LY (c:UInt8) (t:List UInt8) (h:cls c≠1):iY (c::t)=0:=by
 rw [iY];by_cases h2:cls c=2
 ·rw [oH c t h2];split
  ·rename_i h3;split at h3
   ·simp at h3;simp [<- h3.1]
   ·cases h3
  ·rfl
 ·by_cases h5:cls c=5
  ·rw [lM c t h5];rfl
  ·rw [gK c t h h2 h5]
theorem Jd (c:UInt8) (t:List UInt8) (h:cls c=1):iY (c::t)=if endOf (c::t)<=12 then endOf (c::t) else 0:=by
 rw [iY,lL c t h];by_cases h2:endOf (c::t)<=12
 ·rw [if_pos h2,if_pos h2];rfl
 ·rw [if_neg h2,if_neg h2]
theorem Je (c:UInt8) (t:List UInt8) (hs:(c::t).length<1000000):Ret P0 fq [.str (c::t)] (I (iY (c::t))):=by
 have h1:=LV (c::t) hs;have h2:=SO (c::t) hs;by_cases h:cls c=1
 ·have e1:0<((c::t).takeWhile (fun b=>decide (cls b=1))).length:=by rw [Zw,if_pos (by simp [h])];simp
  have e2:((c::t).takeWhile nameB).length=endOf (c::t):=by rw [Zw,if_pos (by simp [nameB,h])];simp [endOf,h];omega
  have e3:=Jd c t h;rw [e2] at h2;generalize endOf (c::t)=E at *;generalize ((c::t).takeWhile (fun b=>decide (cls b=1))).length=A at *;generalize iY (c::t)=R at *;clear e2;generalize c::t=s at *;by_cases hE:E<=12
  ·rw [if_pos hE] at e3
   subst e3;refine aj iP.h rfl ?_
   repeat' first|refine aw ?_|refine bw (fun _=>?_) fun _=>?_
   exact ag (P:=P0) rfl rfl rfl rfl rfl
  ·rw [if_neg hE] at e3
   subst e3;refine aj iP.h rfl ?_
   repeat' first|refine aw ?_|refine bw (fun _=>?_) fun _=>?_
   exact ag (P:=P0) rfl rfl rfl rfl rfl
 ·have e1:((c::t).takeWhile (fun b=>decide (cls b=1))).length=0:=by rw [Zw,if_neg (by simp [h])];rfl
  rw [e1] at h1;have e3:=LY c t h;rw [e3];clear h2 e1 e3 h;generalize c::t=s at *;refine aj iP.h rfl ?_
  repeat' first|refine aw ?_|refine bw (fun _=>?_) fun _=>?_
  exact ag (P:=P0) rfl rfl rfl rfl rfl
theorem P7 (c:UInt8) (t:List UInt8) (h:cls c≠2):kA (c::t)=0:=by
 rw [kA];by_cases h2:cls c=1
 ·rw [lL c t h2];split
  ·rename_i h3;split at h3
   ·simp at h3;simp [<- h3.1]
   ·cases h3
  ·rfl
 ·by_cases h5:cls c=5
  ·rw [lM c t h5];rfl
  ·rw [gK c t h2 h h5]
theorem LZ (c:UInt8) (t:List UInt8) (h:cls c=2):kA (c::t)=if 0<=yF ((c::t).take (endOf (c::t)))/\Gx ((c::t).drop (endOf (c::t)))=false then endOf (c::t) else 0:=by
 rw [kA,oH c t h];by_cases h2:0<=yF ((c::t).take (endOf (c::t)))/\Gx ((c::t).drop (endOf (c::t)))=false
 ·rw [if_pos h2,if_pos h2];rfl
 ·rw [if_neg h2,if_neg h2]
theorem SQ (r:List UInt8):Gx r=decide (0<(r.takeWhile (fun b=>decide (cls b=1)||decide (cls b=3))).length):=by
 cases r with
 | nil=>rfl
 | cons b t=>
  rw [Gx,Zw]
  cases decide (cls b=1)||decide (cls b=3)<;>simp
theorem EZ (c:UInt8) (t:List UInt8) (hs:(c::t).length<1000000):Ret P0 ed [.str (c::t)] (I (kA (c::t))):=by
 have h1:=P6 (c::t) hs;by_cases h:cls c=2
 ·have e1:((c::t).takeWhile eW).length=endOf (c::t):=by rw [Zw,if_pos (by simp [eW,h])];simp [endOf,h];omega
  have hall:=Ku c t h;have hle:=HF c t;have e3:=LZ c t h;rw [e1] at h1;have hl0:(c::t).length=t.length+1:=rfl;have hc0:∀hp:0<(c::t).length,(c::t)[0]'hp=c:=fun _=>rfl;have hhd:((c::t).take (endOf (c::t))).head? = some 48<->c.toNat=48:=by
   rw [wy c t h,Kt _ (by simp)];rfl
  have h0:0<(c::t).length:=by simp
  generalize endOf (c::t)=E at *;clear e1;generalize kA (c::t)=R at *;generalize c::t=s at *;have hc0:=congrArg UInt8.toNat (hc0 h0);have hwl:(s.take E).length=E:=by simp;omega
  have hsp:=LW ((s.take s.length).drop E) (by simp;omega);have hlt:=SQ (s.drop E);have e5:(s.take s.length).drop E=s.drop E:=by rw [ZE]
  rw [<- e5] at e3 hlt;generalize Gx ((s.take s.length).drop E)=L at *;generalize (((s.take s.length).drop E).takeWhile (fun b=>decide (cls b=1)||decide (cls b=3))).length=A at *;have hnr:yF (s.take E)=if 10<E\/(c.toNat=48/\1<E) then -1 else if 4294967296<=rD (s.take E) then -1 else ((rD (s.take E):Nat):Int):=by
   rw [yF,hwl];simp only [hhd]
  by_cases hb:10<E\/(c.toNat=48/\1<E)
  ·rw [if_pos hb] at hnr
   rw [if_neg (by rintro ⟨q,_⟩;omega)] at e3;subst e3;clear hsp hlt hall hhd e5 hnr;refine aj ef.h rfl ?_
   repeat' first|refine aw ?_|refine bw (fun _=>?_) fun _=>?_
   all_goals exact ag (P:=P0) rfl rfl rfl rfl rfl
  ·rw [if_neg hb] at hnr
   have hv:=yq ((s.take E).drop 0) (by rw [YY];intro e;rw [e] at hwl;simp at hwl;omega) (by rw [YY];exact hall) (by rw [YY,hwl];omega);rw [show rD ((s.take E).drop 0)=rD (s.take E) by rw [YY]] at hv;generalize rD (s.take E)=V at *;by_cases hA:0<A
   ·rw [decide_eq_true hA] at hlt
    rw [if_neg (by rintro ⟨_,q⟩;rw [hlt] at q;cases q)] at e3;subst e3;clear hall hhd e5 hnr;refine aj ef.h rfl ?_
    repeat' first|refine aw ?_|refine bw (fun _=>?_) fun _=>?_
    all_goals exact ag (P:=P0) rfl rfl rfl rfl rfl
   ·rw [decide_eq_false hA] at hlt
    by_cases hV:4294967296<=V
    ·rw [if_pos hV] at hnr
     rw [if_neg (by rintro ⟨q,_⟩;omega)] at e3;subst e3;clear hall hhd e5 hnr hlt;refine aj ef.h rfl ?_
     repeat' first|refine aw ?_|refine bw (fun _=>?_) fun _=>?_
     all_goals exact ag (P:=P0) rfl rfl rfl rfl rfl
    ·rw [if_neg hV] at hnr
     rw [if_pos ⟨by omega,hlt⟩] at e3;subst e3;clear hall hhd e5 hnr hlt;refine aj ef.h rfl ?_
     repeat' first|refine aw ?_|refine bw (fun _=>?_) fun _=>?_
     all_goals exact ag (P:=P0) rfl rfl rfl rfl rfl
 ·have e1:((c::t).takeWhile eW).length=0:=by rw [Zw,if_neg (by simp [eW,h])];rfl
  rw [e1] at h1;rw [P7 c t h];clear e1 h;generalize c::t=s at *;refine aj ef.h rfl ?_
  repeat' first|refine aw ?_|refine bw (fun _=>?_) fun _=>?_
  exact ag (P:=P0) rfl rfl rfl rfl rfl
end Uw.Tryz
namespace Uw.Tryz
open Go Uw Go.Proofs Go.RowKit
def E0:List UInt8:=[40,41,123,125,44,59,46,61,43,45,42,60]
theorem L0:∀n:Fin 256,decide (0<=Lib.indexByte E0 (UInt8.ofNat n.val))=decide (cls (UInt8.ofNat n.val)=5):=by decide +kernel
theorem Mc (c:UInt8):0<=Lib.indexByte E0 c<->cls c=5:=by
 have h:=L0 ⟨c.toNat,c.toNat_lt⟩;simp only [UInt8.ofNat_toNat] at h;exact decide_eq_decide.1 h
theorem Jf (c:UInt8) (t:List UInt8):Lib.hasPrefix (c::t) [61,61]=(decide (c.toNat=61)&&eqq t):=by
 have key:∀b:UInt8,(61 == b)=decide (b.toNat=61):=by
  intro b;rw [Zv,beq_iff_eq,decide_eq_true_eq];exact ⟨fun h=>by rw [<- h];rfl,fun h=>(aaW.1 (by rw [h];rfl)).symm⟩
 rw [Lib.hasPrefix]
 cases t with
 | nil=>simp [List.isPrefixOf,eqq]
 | cons b r=>simp only [List.isPrefixOf,eqq,key,Bool.and_true]
theorem DU (c:UInt8) (t:List UInt8) (h:cls c=5):oI (c::t)=endOf (c::t):=by rw [oI,lM c t h];rfl
theorem P8 (c:UInt8) (t:List UInt8) (h:cls c≠5):oI (c::t)=0:=by
 rw [oI];by_cases h1:cls c=1
 ·rw [lL c t h1];split
  ·rename_i h3;split at h3
   ·simp at h3;simp [<- h3.1]
   ·cases h3
  ·rfl
 ·by_cases h2:cls c=2
  ·rw [oH c t h2];split
   ·rename_i h3;split at h3
    ·simp at h3;simp [<- h3.1]
    ·cases h3
   ·rfl
  ·rw [gK c t h1 h2 h]
theorem Jg (c:UInt8) (t:List UInt8) (hs:(c::t).length<1000000):Ret P0 ft [.str (c::t)] (I (oI (c::t))):=by
 have h1:=tG (c::t) [61,61];have h2:=tH E0 c;rw [Jf] at h1;have h3:=Mc c;have h0:0<(c::t).length:=by simp
 have hc0:∀hp:0<(c::t).length,(c::t)[0]'hp=c:=fun _=>rfl;have hc0:=hc0 h0;have he:cls c=5->(decide (c.toNat=61)&&eqq t)=true->oI (c::t)=2:=fun h h'=>by
  simp at h';rw [DU c t h,oG c t h,if_pos h']
 have he2:cls c=5->(decide (c.toNat=61)&&eqq t)=false->oI (c::t)=1:=fun h h'=>by
  rw [DU c t h,oG c t h,if_neg (by rintro ⟨q1,q2⟩;rw [decide_eq_true q1,q2] at h';cases h')]
 have he3:cls c≠5->oI (c::t)=0:=P8 c t;have h61:(decide (c.toNat=61)&&eqq t)=true->cls c=5:=fun h=>by
  simp at h;have:c=61:=aaW.1 h.1;subst this;rfl
 generalize (decide (c.toNat=61)&&eqq t)=q at *;generalize oI (c::t)=R at *;generalize Lib.indexByte E0 c=X at *;by_cases h5:cls c=5
 ·have hX:0<=X:=h3.2 h5
  cases q with
  | true=>
   have he:=he h5 rfl;subst he;clear h2 h3 hX he2 he3 h61 hc0;generalize c::t=s at *;refine aj iQ.h rfl ?_
   repeat' first|refine aw ?_|refine bw (fun _=>?_) fun _=>?_
   exact ag (P:=P0) rfl rfl rfl rfl rfl
  | false=>
   have he:=he2 h5 rfl;subst he;clear he2 he3 h61;rw [<- hc0] at h2;clear hc0 h3;generalize c::t=s at *;refine aj iQ.h rfl ?_
   repeat' first|refine aw ?_|refine bw (fun _=>?_) fun _=>?_
   exact ag (P:=P0) rfl rfl rfl rfl rfl
 ·have hX:¬0<=X:=fun h=>h5 (h3.1 h)
  have he:=he3 h5;subst he
  cases q with
  | true=>exact absurd (h61 rfl) h5
  | false=>
   clear he2 he3 h61;rw [<- hc0] at h2;clear hc0 h3;generalize c::t=s at *;refine aj iQ.h rfl ?_
   repeat' first|refine aw ?_|refine bw (fun _=>?_) fun _=>?_
   exact ag (P:=P0) rfl rfl rfl rfl rfl
def lV (r:List UInt8):Tok×Bool:=match cZ r with|none=>(⟨0,[],0,0⟩,false)|some (k,n,v)=>(⟨k,r.take n,v,0⟩,true)
def P9 (x:Tok×Bool):Dat:=.tuple [.agg (Rl x.1),.bool x.2]
def Qa:Dat:=.slice 2 [[I 1,.func fq],[I 2,.func ed],[I 3,.func ft]] false
theorem HJ {r:List UInt8} {k:Int} {n:Nat} {v:Int} (h:cZ r=some (k,n,v)) :
  (k=1/\v=0/\n<=12)\/(k=2/\v=(rD (r.take n):Nat)/\(r.take n).all eW=true/\n<=10/\v<4294967296)\/(k=3/\v=0/\n<=2):=by
 cases r with
 | nil=>simp [cZ] at h
 | cons c t=>
  by_cases h1:cls c=1
  ·rw [lL c t h1] at h
   split at h
   ·simp only [Y8,ZM] at h;omega
   ·cases h
  ·by_cases h2:cls c=2
   ·have ha:=Ku c t h2
    rw [oH c t h2] at h
    split at h
    ·rename_i hc
     simp only [Y8,ZM] at h;obtain ⟨q1,q2,q3⟩:=h;have hc:=hc.1;have hel:=HF c t;rw [q2] at ha hc q3 hel;have hl:((c::t).take n).length=n:=by simp;omega
     rw [yF] at q3 hc
     split at hc
     ·omega
     ·rename_i q4
      rw [if_neg q4] at q3
      split at hc
      ·omega
      ·rename_i q5
       rw [if_neg q5] at q3;right;left;exact ⟨q1.symm,q3.symm,ha,by omega,by omega⟩
    ·cases h
   ·by_cases h5:cls c=5
    ·rw [lM c t h5] at h
     simp only [Y8,ZM] at h;have:=oG c t h5
     split at this<;>omega
    ·rw [gK c t h1 h2 h5] at h;cases h
theorem HK (r:List UInt8):(iY r≠0->lV r=(⟨1,r.take (iY r),0,0⟩,true)/\iY r<=r.length)/\
  (iY r=0->kA r≠0->lV r=(⟨2,r.take (kA r),(rD (r.take (kA r)):Nat),0⟩,true)/\(r.take (kA r)).all eW=true/\kA r<=10/\kA r<=r.length)/\
  (iY r=0->kA r=0->oI r≠0->lV r=(⟨3,r.take (oI r),0,0⟩,true)/\oI r<=r.length)/\(iY r=0->kA r=0->oI r=0->lV r=(⟨0,[],0,0⟩,false)):=by
 rw [iY,kA,oI,lV]
 cases h:cZ r with
 | none=>simp
 | some x=>
  obtain ⟨k,n,v⟩:=x;have hn:=s4 h
  rcases HJ h with ⟨rfl,rfl,_⟩|⟨rfl,rfl,h2,h3,_⟩|⟨rfl,rfl,_⟩
  ·simp only [if_true]
   exact ⟨fun _=>⟨trivial,hn.2⟩,fun h=>by omega,fun h=>by omega,fun h=>by omega⟩
  ·simp only [show ¬(2:Int)=1 by omega,if_false,if_true]
   exact ⟨fun h=>by omega,fun _ _=>⟨trivial,h2,h3,hn.2⟩,fun _ h=>by omega,fun _ h=>by omega⟩
  ·simp only [show ¬(3:Int)=1 by omega,show ¬(3:Int)=2 by omega,if_false,if_true]
   exact ⟨fun h=>by omega,fun _ h=>by omega,fun _ _ _=>⟨trivial,hn.2⟩,fun _ _ h=>by omega⟩
theorem HL (c:UInt8) (t:List UInt8) (hs:(c::t).length<1000000):Ret P0 oV [Qa,.str (c::t)] (P9 (lV (c::t))):=by
 have h1:=Je c t hs;have h2:=EZ c t hs;have h3:=Jg c t hs;obtain ⟨f1,f2,f3,f4⟩:=HK (c::t);have hv:=fun (q:(iY (c::t)=0/\kA (c::t)≠0))=>yq (((c::t).take (kA (c::t))).drop 0) (by rw [YY];intro e;have:=congrArg List.length e;rw [aau] at this;have:=(f2 q.1 q.2).2.2.2;simp at *;omega) (by rw [YY];exact (f2 q.1 q.2).2.1) (by rw [YY,aau];have:=(f2 q.1 q.2).2.2.1;omega);simp only [YY] at hv;generalize iY (c::t)=A at *;generalize kA (c::t)=B at *;generalize oI (c::t)=C at *;generalize lV (c::t)=R at *;generalize c::t=s at *;refine aj sd.h rfl ?_
 repeat' first|refine aw ?_|refine bw (fun _=>?_) fun _=>?_
 refine cX (fun k:Nat=>⟨[(12,.d (I k)),(11,.d (I (↑[[I 1,Dat.func fq],[I 2,Dat.func ed],[I 3,Dat.func ft]].length))),(10,.d Qa),(4,.ptr 0 0),(1,.d (.str s))],[(0,.var [.d (I 0),.d (.str []),.d (I 0),.d (I 0)])],1,[],0⟩)
  (fun k=>k<=3/\(1<=k->A=0)/\(2<=k->B=0)/\(3<=k->C=0)) (fun k=>3 - k) 0 (by exact Uw.wW) (by omega) ?_
 rintro k ⟨k1,k2,k3,k4⟩;have hk:k=0\/k=1\/k=2\/k=3:=by omega
 rcases hk with rfl|rfl|rfl|rfl
 ·by_cases hA:A=0
  ·clear f1 f2 f3 f4 hv
   subst hA
   repeat' first|refine aw ?_|refine bw (fun _=>?_) fun _=>?_
   refine au _ rfl ?_
   repeat' first|refine aw ?_|refine bw (fun _=>?_) fun _=>?_
   refine bG _ iP.h.body rfl h1 ?_
   repeat' first|refine aw ?_|refine bw (fun _=>?_) fun _=>?_
   exact aN 1 (by omega) (by omega) (by exact Uw.wW)
  ·obtain ⟨e,hle⟩:=f1 hA
   subst e;clear f1 f2 f3 f4 hv
   repeat' first|refine aw ?_|refine bw (fun _=>?_) fun _=>?_
   refine au _ rfl ?_
   repeat' first|refine aw ?_|refine bw (fun _=>?_) fun _=>?_
   refine bG _ iP.h.body rfl h1 ?_
   repeat' first|refine aw ?_|refine bw (fun _=>?_) fun _=>?_
   refine aX ⟨[(7,.ptr 1 0),(9,.ptr 2 0),(4,.ptr 0 0)],[(2,.var [.d (I 1),.d (.str ((s.take A).drop 0)),.d (I 0),.d (I 0)]),(1,.var [.d (I 1),.d (.func fq)]),(0,.var [.d (I 0),.d (.str []),.d (I 0),.d (I 0)])],3,[],0⟩ ?_ ?_
   ·repeat' first|refine aw ?_|refine bw (fun _=>?_) fun _=>?_
    exact ai (.inl ⟨rfl,by exact Uw.wW⟩)
   ·repeat' first|refine aw ?_|refine bw (fun _=>?_) fun _=>?_
    exact aW (ag (P:=P0) rfl rfl rfl rfl rfl)
 ·have hA:=k2 (by omega)
  by_cases hB:B=0
  ·clear f1 f2 f3 f4 hv
   subst hB
   repeat' first|refine aw ?_|refine bw (fun _=>?_) fun _=>?_
   refine au _ rfl ?_
   repeat' first|refine aw ?_|refine bw (fun _=>?_) fun _=>?_
   refine bG _ ef.h.body rfl h2 ?_
   repeat' first|refine aw ?_|refine bw (fun _=>?_) fun _=>?_
   exact aN 2 (by omega) (by omega) (by exact Uw.wW)
  ·obtain ⟨e,q1,q2,hle⟩:=f2 hA hB
   have hv:=hv ⟨hA,hB⟩;subst e;clear f1 f2 f3 f4
   repeat' first|refine aw ?_|refine bw (fun _=>?_) fun _=>?_
   refine au _ rfl ?_
   repeat' first|refine aw ?_|refine bw (fun _=>?_) fun _=>?_
   refine bG _ ef.h.body rfl h2 ?_
   repeat' first|refine aw ?_|refine bw (fun _=>?_) fun _=>?_
   refine aX ⟨[(7,.ptr 1 0),(9,.ptr 2 0),(4,.ptr 0 0)],[(2,.var [.d (I 2),.d (.str ((s.take B).drop 0)),.d (I 0),.d (I 0)]),(1,.var [.d (I 2),.d (.func ed)]),(0,.var [.d (I 0),.d (.str []),.d (I 0),.d (I 0)])],3,[],0⟩ ?_ ?_
   ·repeat' first|refine aw ?_|refine bw (fun _=>?_) fun _=>?_
    exact ai (.inl ⟨rfl,by exact Uw.wW⟩)
   ·repeat' first|refine aw ?_|refine bw (fun _=>?_) fun _=>?_
    exact aW (ag (P:=P0) rfl rfl rfl rfl rfl)
 ·have hA:=k2 (by omega)
  have hB:=k3 (by omega);by_cases hC:C=0
  ·clear f1 f2 f3 f4 hv
   subst hC
   repeat' first|refine aw ?_|refine bw (fun _=>?_) fun _=>?_
   refine au _ rfl ?_
   repeat' first|refine aw ?_|refine bw (fun _=>?_) fun _=>?_
   refine bG _ iQ.h.body rfl h3 ?_
   repeat' first|refine aw ?_|refine bw (fun _=>?_) fun _=>?_
   exact aN 3 (by omega) (by omega) (by exact Uw.wW)
  ·obtain ⟨e,hle⟩:=f3 hA hB hC
   subst e;clear f1 f2 f3 f4 hv
   repeat' first|refine aw ?_|refine bw (fun _=>?_) fun _=>?_
   refine au _ rfl ?_
   repeat' first|refine aw ?_|refine bw (fun _=>?_) fun _=>?_
   refine bG _ iQ.h.body rfl h3 ?_
   repeat' first|refine aw ?_|refine bw (fun _=>?_) fun _=>?_
   refine aX ⟨[(7,.ptr 1 0),(9,.ptr 2 0),(4,.ptr 0 0)],[(2,.var [.d (I 3),.d (.str ((s.take C).drop 0)),.d (I 0),.d (I 0)]),(1,.var [.d (I 3),.d (.func ft)]),(0,.var [.d (I 0),.d (.str []),.d (I 0),.d (I 0)])],3,[],0⟩ ?_ ?_
   ·repeat' first|refine aw ?_|refine bw (fun _=>?_) fun _=>?_
    exact ai (.inl ⟨rfl,by exact Uw.wW⟩)
   ·repeat' first|refine aw ?_|refine bw (fun _=>?_) fun _=>?_
    exact aW (ag (P:=P0) rfl rfl rfl rfl rfl)
 ·have hA:=k2 (by omega)
  have hB:=k3 (by omega);have hC:=k4 (by omega);have e:=f4 hA hB hC;subst e;clear f1 f2 f3 f4 hv k2 k3 k4
  repeat' first|refine aw ?_|refine bw (fun _=>?_) fun _=>?_
  exact ag (P:=P0) rfl rfl rfl rfl rfl
end Uw.Tryz
namespace Uw.Tryz
open Go Uw Go.Proofs Go.RowKit
theorem yr {r:List UInt8} (h:cZ r=none):lV r=(⟨0,[],0,0⟩,false):=by rw [lV,h]
theorem HM {r:List UInt8} {k:Int} {n:Nat} {v:Int} (h:cZ r=some (k,n,v)):lV r=(⟨k,r.take n,v,0⟩,true):=by rw [lV,h]
theorem Md {b:UInt8} (h:nameB b=true):b.toNat<128:=by
 simp only [nameB,Zl,decide_eq_true_eq] at h;unfold cls at h
 repeat' split at h
 all_goals omega
theorem yX {b:UInt8} (h:cls b≠0):b.toNat<128:=by
 unfold cls at h
 repeat' split at h
 all_goals omega
theorem uc {α:Type} (p:α->Bool) (l:List α):∀x∈l.takeWhile p,p x=true:=YW.1 (all_takeWhile p l)
theorem SR {r:List UInt8} {k:Int} {n:Nat} {v:Int} (h:cZ r=some (k,n,v)):∀b∈r.take n,b.toNat<128:=by
 cases r with
 | nil=>simp [cZ] at h
 | cons c t=>
  by_cases h1:cls c=1
  ·rw [lL c t h1] at h
   have e:endOf (c::t)=1+(t.takeWhile nameB).length:=by simp [endOf,h1]
   split at h
   ·simp only [Y8,ZM] at h
    rw [<- h.2.1,e,aaO,aai,take_takeWhile];intro b hb
    rcases Zj.1 hb with rfl|hb
    ·exact yX (by omega)
    ·exact Md (uc _ _ b hb)
   ·cases h
  ·by_cases h2:cls c=2
   ·have hd:=wy c t h2
    rw [oH c t h2] at h
    split at h
    ·simp only [Y8,ZM] at h
     rw [<- h.2.1,hd];intro b hb
     rcases Zj.1 hb with rfl|hb
     ·exact yX (by omega)
     ·have:=uS (uc _ _ b hb);omega
    ·cases h
   ·by_cases h5:cls c=5
    ·have he:=oG c t h5
     rw [lM c t h5] at h;simp only [Y8,ZM] at h;rw [<- h.2.1,he];intro b hb
     split at hb
     ·rename_i q
      cases t with
      | nil=>simp [eqq] at q
      | cons d u=>
       simp only [eqq,decide_eq_true_eq] at q;simp at hb
       rcases hb with rfl|rfl<;>omega
     ·simp at hb;subst hb;exact yX (by omega)
    ·rw [gK c t h1 h2 h5] at h;cases h
def Kw (s:List UInt8) (k b:Nat):Prop:=∀i,k<=i->i<b->∀c,s[i]? = some c->c.toNat<128
theorem HN (s:List UInt8) (hs:s.length<1000000):Ret P0 oS [.str s] (IL (sF s)):=by
 refine Ret.res (r:=BI s) ?_ (SK s);by_cases h4:4000<s.length
 ·have e:BI s = .tuple [.nil,I 2]:=by rw [BI,if_pos h4]
  rw [e];refine aj oU.h rfl ?_
  repeat' first|refine aw ?_|refine bw (fun _=>?_) fun _=>?_
  exact ag (P:=P0) rfl rfl rfl rfl rfl
 ·have bad:qo s 0=none->BI s = .tuple [.nil,I 3]:=fun h=>by rw [BI,if_neg h4,h]
  have good:∀l,qo s 0=some l->BI s = .tuple [N7 l,I 0]:=fun l h=>by rw [BI,if_neg h4,h]
  generalize BI s=R at bad good;refine aj oU.h rfl ?_
  repeat' first|refine aw ?_|refine bw (fun _=>?_) fun _=>?_
  refine cX (fun ((k,b,n,xs):Nat×Nat×Nat×List (List Dat))=>⟨[(19,.hnd 0),(6,.d (I b)),(5,.ref 1 0 0 n),(4,.d (Dat.slice 2 ((((List.replicate 3 [Dat.int IntKind.i64 0,Dat.nilFunc]).set 0 [Dat.int IntKind.i64 1,Dat.func fq]).set 1 [Dat.int IntKind.i64 2,Dat.func ed]).set 2 [Dat.int IntKind.i64 3,Dat.func ft]) true)),(0,.d (.str s))],[(1,.arr 4 xs),(0,.iter s k)],2,[],0⟩)
   (fun (k,b,n,xs)=>k<=s.length/\b<=s.length/\n=xs.length/\n<=b/\n<=k/\Kw s k b/\∃out,xs=out.map Rl/\Read s (max k b) out) (fun (k,_)=>s.length - k) (0,0,0,[]) (by exact Uw.wW) ⟨by omega,by omega,rfl,by omega,by omega,by intro i h1 h2;omega,[],rfl,Read.init s⟩ ?_
  rintro ⟨k,b,n,xs⟩ ⟨h1,h2,h3,h3',YU,hlow,out,h5,h6⟩;by_cases hk:k<s.length
  ·have hk' : s[k]? = some s[k]:=by simp [hk]
   have hd:s.drop k=s[k]::s.drop (k+1):=Zo hk;by_cases hkb:k<b
   ·have hl:=hlow k (Ls _) hkb s[k] hk'
    have hr:=uw s k s[k] hk' hl;have hr2:(bH s k).2=1:=by rw [hr]
    clear hr;have hm:max (k+(bH s k).2) b=max k b:=by omega
    have h7:Read s (max (k+(bH s k).2) b) out:=by rw [hm];exact h6
    have hl2:Kw s (k+(bH s k).2) b:=fun i q1 q2=>hlow i (by omega) q2;clear good bad h6 hd hlow
    repeat' first|refine aw ?_|refine bw (fun _=>?_) fun _=>?_
    exact aN (k+(bH s k).2,b,n,xs) ⟨by omega,h2,h3,h3',by omega,hl2,out,h5,h7⟩ (by simp only;omega) (by exact Uw.wW)
   ·have hm:max k b=k:=by omega
    rw [hm] at h6;have hbl:=HG ((bH s k).1:Int);have hfi:=(HL s[k] (s.drop (k+1)) (by rw [<- hd];simp;omega)).args (ds:=[.slice 2 [[I 1,.func fq],[I 2,.func ed],[I 3,.func ft]] true,.str (s[k]::s.drop (k+1))]) (.cons (.slice (.refl _)) (.refl _));rw [<- hd] at hfi;have SS : Ret P0 oV [.slice 2 [[I 1,.func fq],[I 2,.func ed],[I 3,.func ft]] true,.str ((s.take s.length).drop k)] (P9 (lV (s.drop k))):=by rw [ZE];exact hfi
    clear hfi;by_cases hl:s[k].toNat<128
    ·have hr:=uw s k s[k] hk' hl
     have hr1:((bH s k).1:Int)=s[k].toNat:=by rw [hr]
     have hr2:(bH s k).2=1:=by rw [hr]
     clear hr;rw [show A1 ((bH s k).1:Int)=decide (cls s[k]=4) by rw [hr1,P5]] at hbl;by_cases k4:cls s[k]=4
     ·rw [decide_eq_true k4] at hbl
      have h7:Read s (max (k+(bH s k).2) b) out:=by rw [hr2,show max (k+1) b=k+1 by omega];exact h6.blank hk k4
      have hl2:Kw s (k+(bH s k).2) b:=fun i q1 q2=>by omega
      clear good bad h6 hd hlow SS
      repeat' first|refine aw ?_|refine bw (fun _=>?_) fun _=>?_
      exact aN (k+(bH s k).2,b,n,xs) ⟨by omega,h2,h3,h3',by omega,hl2,out,h5,h7⟩ (by simp only;omega) (by exact Uw.wW)
     ·rw [decide_eq_false k4] at hbl
      cases ht:cZ (s.drop k) with
      | none=>
       rw [yr ht] at SS;have hb:=bad (h6.none hk k4 ht);subst hb;clear good bad h6 hd hlow ht
       repeat' first|refine aw ?_|refine bw (fun _=>?_) fun _=>?_
       exact aW (ag (P:=P0) rfl rfl rfl rfl rfl)
      | some x=>
       obtain ⟨K,N,v⟩:=x;rw [HM ht] at SS;have hn:=s4 ht;have hlw:=SR ht;have h8:=h6.tok hk k4 ht;have hN:k+N<=s.length:=by have:=hn.2;simp at this;omega
       have hxl:((s.drop k).take N).length=N:=SN hN;have h7:Read s (max (k+(bH s k).2) (k+N)) (out++[⟨K,(s.drop k).take N,v,k⟩]):=by rw [hr2,show max (k+1) (k+N)=k+N by omega];exact h8
       have hl2:Kw s (k+(bH s k).2) (k+N):=by
        intro i q1 q2 c hc;refine hlw c ?_;rw [aa5];refine ⟨i - k,by simp;have:=(Zc.1 hc).1;omega,?_⟩;rw [aaR];have:=(Zc.1 hc).2;simp only [show k+(i - k)=i by omega];exact this
       generalize (s.drop k).take N=w at *;clear good bad h6 hd hlow ht h8 hlw;have hen:(k:Int)+(w.length:Int)=((k+N:Nat):Int):=by omega
       repeat' first|refine aw ?_|refine bw (fun _=>?_) fun _=>?_
       refine aN (k+(bH s k).2,k+N,n+1,xs++[[I K,.str w,I v,I k]]) ⟨by omega,hN,by simp [h3],by omega,by omega,hl2,out++[⟨K,w,v,k⟩],?_,h7⟩ (by simp only;omega) (by exact Uw.wW);rw [h5];simp [Rl]
    ·obtain ⟨a1,a2,a3,a4,a5⟩:=x7 s k s[k] hk' (by omega)
     have hc0:cls s[k]=0:=by
      by_cases h:cls s[k]=0
      ·exact h
      ·exact absurd (yX h) hl
     have ht:cZ (s.drop k)=none:=by rw [hd];exact gK _ _ (by omega) (by omega) (by omega)
     rw [show A1 ((bH s k).1:Int)=false by simp [A1];omega] at hbl;rw [yr ht] at SS;have hb:=bad (h6.none hk (by omega) ht);subst hb;clear good bad h6 hd hlow ht a5
     repeat' first|refine aw ?_|refine bw (fun _=>?_) fun _=>?_
     exact aW (ag (P:=P0) rfl rfl rfl rfl rfl)
  ·have hg:=good out (h6.end (by omega))
   subst hg;clear good bad h6 hlow
   repeat' first|refine aw ?_|refine bw (fun _=>?_) fun _=>?_
   exact ag (P:=P0) rfl rfl rfl rfl (by rw [US h3 h5];rfl)
end Uw.Tryz
namespace Uw.Tryz
open Go Uw
def elT:List UInt8:=[99,101,108,108,32,120,59,32,102,117,110,99,32,102,40,97,41,32,123,32,120,32,61,32,120,32,43,32,97,59,32,114,101,116,117,114,110,32,53,59,32,125,32,102,117,110,99,32,109,97,105,110,40,41,32,123,32,120,32,61,32,49,59,32,97,32,61,32,115,112,97,119,110,32,102,40,50,41,59,32,114,101,116,117,114,110,32,97,32,43,32,120,59,32,125]
def elP:Pg:=(ofR elT).1
def VL (f:FuncId) (ds:List Dat):Option Dat:=
 match Nat.beq f oS,ds with
 | true,[.str s]=>match Nat.blt s.length 1000000 with
  | true=>some (IL (sF s))
  | false=>none
 | _,_=>match Nat.beq f bg&&zC ds [pgD elP] with
  | true=>some (ae (fx elP))
  | false=>match Nat.beq f de,ds with
   | true,[.slice 1 [] false]=>some (.slice 1 [] false)
   | _,_=>none
noncomputable def YA:List (Nat×oK):=[(vt,vu.m),(dU,dt.m),(zH,zI.m),(vy,vz.m),(iF,iG.m),(lQ,cP.m),(de,jG.m),(oS,oU.m),(tZ,t7.m),(jH,jI.m),(ye,yf.m),(qc,qd.m),(nR,sa.m),(qe,qf.m),(eK,dR.m),(fF,bI.m),(fG,lR.m),(fq,iP.m),(ed,ef.m),(ft,iQ.m),(sb,sc.m),(oV,sd.m),(l4,l5.m),(l6,l7.m),(jg,jh.m),(sg,si.m),(sj,sk.m),(sn,sq.m),(lg,lh.m),(li,lj.m),(l8,l9.m),(mb,mc.m),(mf,mg.m),(sr,su.m),(ll,ln.m),(mh,mj.m),(eR,aY.m),(eS,eo.m),(eV,b8.m),(iR,uK.m),(jK,m6.m),(jL,m7.m),(lq,pd.m),(fZ,jM.m),(sw,sx.m),(mA,mB.m),(mC,mD.m),(mE,mF.m),(mG,mH.m),(nT,nU.m),(gQ,gR.m),(lr,lu.m),(sA,sB.m),(pf,jN.m),(qi,qj.m),(ua,ub.m),(jO,jP.m),(lv,lw.m),(lx,ly.m),(iq,iu.m),(nV,nW.m),(vU,vV.m),(qk,ql.m),(sC,sD.m),(qm,qn.m),(kg,ki.m),(nX,nY.m),(b9,mI.m),(lz,lA.m),(kj,kl.m),(pg,pi.m),(mJ,mK.m),(lB,lC.m),(km,kp.m),(gU,gV.m),(kq,kr.m),(nZ,oe.m),(jQ,jR.m),(og,oh.m),(mL,mM.m),(lE,lF.m),(om,oq.m),(mN,mO.m),(jS,jT.m),(iw,ix.m),(jU,jV.m),(gg,gj.m)]
noncomputable def TJ:List (Nat×yx):=[(vC,vD.m)]
def isE:Nat->List V->Bool
 | k,[.d (.slice k' [] false)]=>Nat.beq k k'
 | _,_=>false
def VM (f:FuncId) (vs:List V) (h:Heap) (nx:Nat):Option (Res×Heap×Nat):=
 match Nat.beq f de&&isE 1 vs with
 | true=>some (.val (.ref nx 1 0 0),(nx,.mt 1 1 [])::h,nx+1)
 | false=>match Nat.beq f fG&&isE 2 vs with
  | true=>some (.val (.ref nx 1 0 0),(nx,.mt 2 1 [])::h,nx+1)
  | false=>none
end Uw.Tryz
namespace Uw.Tryz.El
open Go Uw Uw.Tryz
def elC:Cd:=⟨[⟨1,1,[⟨4,0,0,0⟩,⟨2,0,0,0⟩,⟨6,0,0,0⟩,⟨5,0,0,0⟩,⟨1,5,0,0⟩,⟨17,0,0,0⟩,⟨1,0,0,0⟩,⟨17,0,0,0⟩]⟩,⟨0,1,[⟨1,1,0,0⟩,⟨5,0,0,0⟩,⟨1,2,0,0⟩,⟨13,0,1,0⟩,⟨2,0,0,0⟩,⟨4,0,0,0⟩,⟨6,0,0,0⟩,⟨17,0,0,0⟩,⟨1,0,0,0⟩,⟨17,0,0,0⟩]⟩],[0],0,0,0,1⟩
def elW:Wd:=⟨[3],[],[],[],[⟨0,[],0,0,⟨1,0,1,0⟩,0,false⟩,⟨1,[0],0,0,⟨0,0,0,0⟩,1,false⟩,⟨1,[0],0,0,⟨1,0,3,0⟩,0,false⟩,⟨3,[],0,0,⟨0,0,0,0⟩,3,false⟩],[⟨1,0,1,2,3⟩,⟨2,1,0,0,3⟩,⟨3,2,0,0,3⟩],4,[8,5],14,[]⟩
theorem Qb:(uR elC).2=0:=by kernel_rfl
theorem E1:fc elC=(elW,0):=by kernel_rfl
theorem HO:sR elC=true:=by kernel_rfl
theorem VN:Ret P0 dI [cdD elC] (DN elW []):=by
 have hR:=lU elC (by decide) (by decide);rw [HO] at hR;have h:=wo elC (HD HO) hR Qb (by rw [E1]) [] (by rw [E1];rfl) (by rw [E1];have:=Kp [] (by simp) (by decide);rw [show j0 []=[] by simp [j0]] at this;exact this);rw [E1] at h;exact h
def noC:Cd:=⟨[],[],0,0,0,0⟩
theorem SU:Ret P0 dI [cdD noC] (LM 1):=by
 have hR:=lU noC (by decide) (by decide);rw [show sR noC=false by kernel_rfl] at hR;exact wn noC hR
def VO (f:FuncId) (ds:List Dat):Option Dat:=
 match Nat.beq f dI&&zC ds [cdD elC] with
 | true=>some (DN elW [])
 | false=>match Nat.beq f dI&&zC ds [cdD noC] with
  | true=>some (LM 1)
  | false=>VL f ds
theorem wz {f n:Nat} {b:Bool} (h:(Nat.beq f n&&b)=true):f=n/\b=true:=by
 rw [i9] at h;exact ⟨wt h.1,h.2⟩
theorem Me:m9 elP=true:=by kernel_rfl
theorem VP:Lim elP:=⟨by decide +kernel,by decide +kernel,by decide +kernel,by decide +kernel,by decide +kernel⟩
theorem SV (f:FuncId) (ds:List Dat) (r:Dat) (h:VL f ds=some r):Ret P0 f ds r:=by
 unfold VL at h
 split at h
 ·rename_i hf
  have hf:=wt hf
  split at h
  ·rename_i hl
   injection h with h
   subst h hf;exact HN _ (by rw [Nat.blt_eq] at hl;exact hl)
  ·cases h
 ·split at h
  ·rename_i he
   obtain ⟨rfl,hl⟩:=wz he;injection h with h
   subst h;exact (zY elP Me VP).args (qO _ _ hl)
  ·split at h
   ·have hf:Nat.beq f de=true:=by assumption
    have hf:=wt hf;injection h with h
    subst h hf;exact dj [] (by decide)
   ·cases h
theorem SX (f:FuncId) (ds:List Dat) (r:Dat) (h:VO f ds=some r):Ret P0 f ds r:=by
 unfold VO at h
 split at h
 ·rename_i he
  obtain ⟨rfl,hl⟩:=wz he;injection h with h
  subst h;exact VN.args (qO _ _ hl)
 ·split at h
  ·rename_i he
   obtain ⟨rfl,hl⟩:=wz he;injection h with h
   subst h;exact SU.args (qO _ _ hl)
  ·exact SV f ds r h
theorem Qc {k:Nat} {vs:List V} (h:isE k vs=true):vs=[.d (.slice k [] false)]:=by
 unfold isE at h
 split at h
 ·rw [wt h]
 ·cases h
theorem SY (f:FuncId) (vs:List V) (h:Heap) (nx:Nat) (r:Res) (h' : Heap) (n' : Nat) (e:VM f vs h nx=some (r,h',n')):bN P0 f vs h nx fun r2 h2 n2=>r2=r/\h2=h'/\n2=n':=by
 unfold VM at e
 split at e
 ·rename_i he
  obtain ⟨rfl,hl⟩:=wz he;injection e with e
  injection e with e1 e2
  injection e2 with e2 e3
  subst e1 e2 e3;rw [Qc hl];exact Vm.cr [] (by decide) h nx
 ·split at e
  ·rename_i he
   obtain ⟨rfl,hl⟩:=wz he;injection e with e
   injection e with e1 e2
   injection e2 with e2 e3
   subst e1 e2 e3;rw [Qc hl];exact Vm.nj [] (by decide) h nx
  ·cases e
noncomputable def XD:List (Nat×oK):=(kP,tV.m)::(gC,vr.m)::YA
theorem Qd:(rkN VO VM XD TJ [nR] 400).F kP []=some (.bool true):=by kernel_rfl
theorem SZ:∀f m,look XD f=some m->jc P0 f m:=JB ⟨tV.h,vr.h,vu.h,dt.h,zI.h,vz.h,iG.h,cP.h,jG.h,oU.h,t7.h,jI.h,yf.h,qd.h,sa.h,qf.h,dR.h,bI.h,lR.h,iP.h,ef.h,iQ.h,sc.h,sd.h,l5.h,l7.h,jh.h,si.h,sk.h,sq.h,lh.h,lj.h,l9.h,mc.h,mg.h,su.h,ln.h,mj.h,aY.h,eo.h,b8.h,uK.h,m6.h,m7.h,pd.h,jM.h,sx.h,mB.h,mD.h,mF.h,mH.h,nU.h,gR.h,lu.h,sB.h,jN.h,qj.h,ub.h,jP.h,lw.h,ly.h,iu.h,nW.h,vV.h,ql.h,sD.h,qn.h,ki.h,nY.h,mI.h,lA.h,kl.h,pi.h,mK.h,lC.h,kp.h,gV.h,kr.h,oe.h,jR.h,oh.h,mM.h,lF.h,oq.h,mO.h,jT.h,ix.h,jV.h,gj.h,trivial⟩
theorem Qe:∀f m,look TJ f=some m->tO P0 f m:=JG ⟨vD.h,trivial⟩
theorem BJ:Ret P0 kP [] (.bool true):=Vi 400 SX SY SZ Qe Qd
end Uw.Tryz.El
namespace Uw.Tryz
open Go Uw
theorem Qf {α:Type} {a b:List α} (hl:a.length=b.length) (h:∀(j:Nat) (h1:j<a.length) (h2:j<b.length),a[j]=b[j]):a=b:=List.ext_getElem hl h
theorem wA (a b:List Int) (ha:a.length<1000000):Ret P0 mZ [ae a,ae b] (.bool (decide (a=b))):=by
 have hal:(a.map fun i=>[I i]).length=a.length:=by simp
 have hbl:(b.map fun i=>[I i]).length=b.length:=by simp
 by_cases q:a.length=b.length
 rotate_left 1
 ·rw [decide_eq_false fun e=>q (congrArg List.length e)]
  have q' : ¬(((a.map fun i=>[I i]).length:Nat):Int)=((b.map fun i=>[I i]).length:Nat):=by omega
  refine aj vq.h rfl ?_
  repeat refine aw ?_
  exact ag rfl rfl rfl rfl rfl
 have q' : (((a.map fun i=>[I i]).length:Nat):Int)=((b.map fun i=>[I i]).length:Nat):=by omega
 have hae:∀(j:Nat) (h:j<a.length),(a.map fun i=>[I i])[(j:Int).toNat]? = some [I a[j]]:=fun j h=>by simp [h]
 have hbe:∀(j:Nat) (h:j<b.length),(b.map fun i=>[I i])[(j:Int).toNat]? = some [I b[j]]:=fun j h=>by simp [h]
 have hone:∀(j:Nat) (h1:j<a.length) (h2:j<b.length),a[j]≠b[j]->decide (a=b)=false:=fun j h1 h2 h=>decide_eq_false fun e=>h (by subst e;rfl);have hall:(∀(j:Nat) (h1:j<a.length) (h2:j<b.length),a[j]=b[j])->decide (a=b)=true:=fun h=>decide_eq_true (Qf q h);generalize decide (a=b)=R at *;refine aj vq.h rfl ?_
 repeat refine aw ?_
 refine dH a.length (fun j=>⟨[(5,.d (I j)),(4,.d (.bool false)),(1,.d (ae b)),(0,.d (ae a))],[],0,[],0⟩) (fun j=>∀(h1:j<a.length) (h2:j<b.length),a[j]=b[j]) ?_ (fun hg=>?_) (fun j hj _=>?_)
 ·exact Uw.wM
 ·obtain rfl:=hall fun j h1 h2=>hg j h1 h1 h2
  repeat refine aw ?_
  refine aS ?_
  repeat refine aw ?_
  exact ag rfl rfl rfl rfl rfl
 have he:=hae j hj;have hf:=hbe j (by omega);have ho:=hone j hj (by omega);have hg1:a[j]=b[j]'(by omega)->∀(h1:j<a.length) (h2:j<b.length),a[j]=b[j]:=fun h _ _=>h;clear hae hbe hone hall;generalize a[j]=x at *;generalize b[j]'_=y at *;by_cases e:x=y
 ·have hg1:=hg1 e
  repeat refine aw ?_
  exact cH j hg1 (by exact Uw.wM)
 ·obtain rfl:=ho e
  repeat refine aw ?_
  exact aW (ag rfl rfl rfl rfl rfl)
end Uw.Tryz
namespace Uw.Tryz.El
open Go Uw Uw.Tryz Go.Proofs
theorem wB (a:List Int) (ha:a.length<1000000):Ret P0 vB [ae a,ae a] (.bool true):=by
 have hal:(a.map fun i=>[I i]).length=a.length:=by simp
 have hae:∀(j:Nat) (h:j<a.length),(a.map fun i=>[I i])[(j:Int).toNat]? = some [I a[j]]:=fun j h=>by simp [h]
 refine aj Eu.h rfl ?_
 repeat refine aw ?_
 refine dH a.length (fun j=>⟨[(5,.d (I j)),(4,.d (.bool false)),(1,.d (ae a)),(0,.d (ae a))],[],0,[],0⟩) (fun j=>True) ?_ (fun hg=>?_) (fun j hj _=>?_)
 ·exact Uw.wM
 ·repeat refine aw ?_
  refine aS ?_
  repeat refine aw ?_
  exact ag rfl rfl rfl rfl rfl
 have he:=hae j hj;generalize a[j]=x at *
 repeat refine aw ?_
 exact cH j trivial (by exact Uw.wM)
theorem E2 (x:Cont) (hk:x.keys.length<1000000) (hv:x.vals.length<1000000):Ret P0 qP [.agg (av x),.agg (av x)] (.bool true):=by
 have h1:=wB x.keys hk;have h2:=wB x.vals hv;rw [show Dat.bool true=Dat.bool (decide (x.kind=x.kind)) by simp];refine aj Et.h rfl ?_
 repeat refine aw ?_
 exact ag rfl rfl rfl rfl rfl
theorem eY (a:List Cont) (ha:a.length<1000000) (hk:∀x∈a,x.keys.length<1000000/\x.vals.length<1000000):Ret P0 dJ [.slice 3 (a.map av) false,.slice 3 (a.map av) false] (.bool true):=by
 have hal:(a.map av).length=a.length:=by simp
 have hae:∀(j:Nat) (h:j<a.length),(a.map av)[(j:Int).toNat]? = some [I a[j].kind,ae a[j].keys,ae a[j].vals]/\Ret P0 qP [.agg (av a[j]),.agg (av a[j])] (.bool true):=fun j h=>by
  have hm:=hk _ (YX h);exact ⟨by simp [h,av],E2 _ hm.1 hm.2⟩
 refine aj zE.h rfl ?_
 repeat refine aw ?_
 refine dH a.length (fun j=>⟨[(5,.d (I j)),(4,.d (.bool false)),(1,.d (.slice 3 (a.map av) false)),(0,.d (.slice 3 (a.map av) false))],[],0,[],0⟩) (fun j=>True) ?_ (fun hg=>?_) (fun j hj _=>?_)
 ·exact Uw.wM
 ·repeat refine aw ?_
  refine aS ?_
  repeat refine aw ?_
  exact ag rfl rfl rfl rfl rfl
 obtain ⟨he,hs⟩:=hae j hj;generalize a[j]=x at *
 repeat refine aw ?_
 exact cH j trivial (by exact Uw.wM)
end Uw.Tryz.El
namespace Uw.Tryz.El
open Go Uw Uw.Tryz
theorem lW (n:Int):Ret P0 rx [I n] (.bool (decide (0<=n)&&decide (n<=8))):=by
 by_cases h:0<=n
 ·rw [decide_eq_true h,Zb]
  refine aj ry.h rfl ?_;repeat refine aw ?_
  exact ag rfl rfl rfl rfl rfl
 ·rw [decide_eq_false h,Y3]
  refine aj ry.h rfl ?_;repeat refine aw ?_
  exact ag rfl rfl rfl rfl rfl
theorem wk {C:Prop} (o:Int) (h:∀k:Nat,k<20->o=k->C) (h0:(∀k:Nat,1<=k->k<20->o≠k)->C):C:=by
 by_cases hx:∃k:Nat,k<20/\o=k
 ·obtain ⟨k,h1,h2⟩:=hx
  exact h k h1 h2
 ·exact h0 fun k _ h2 e=>hx ⟨k,h2,e⟩
theorem BK (i:In4):Ret P0 kQ [.agg (in4 i)] (I (fN i).1):=by
 obtain ⟨o,a,b,c⟩:=i;show Ret P0 kQ [.agg [I o,I a,I b,I c]] (I (fN ⟨o,a,b,c⟩).1);refine wk o (fun k hk e=>?_) (fun hn=>?_)
 ·subst e
  rcases k with _|_|_|_|_|_|_|_|_|_|_|_|_|_|_|_|_|_|_|_|k
  all_goals first
   | omega
   | (refine aj tY.h rfl ?_;repeat refine aw ?_
      exact ag rfl rfl rfl rfl rfl)
 ·have g:=fun (k:Nat) (h1:1<=k) (h2:k<20)=>hn k h1 h2
  have e:fN ⟨o,a,b,c⟩=(0,0):=by
   have g1:=g 1 (by omega) (by omega);have g2:=g 2 (by omega) (by omega);have g3:=g 3 (by omega) (by omega);have g4:=g 4 (by omega) (by omega);have g5:=g 5 (by omega) (by omega);have g6:=g 6 (by omega) (by omega);have g7:=g 7 (by omega) (by omega);have g8:=g 8 (by omega) (by omega);have g9:=g 9 (by omega) (by omega);have g10:=g 10 (by omega) (by omega);have g11:=g 11 (by omega) (by omega);have g12:=g 12 (by omega) (by omega);have g13:=g 13 (by omega) (by omega);have g16:=g 16 (by omega) (by omega);have g17:=g 17 (by omega) (by omega);have g18:=g 18 (by omega) (by omega);have g19:=g 19 (by omega) (by omega);rw [fN,if_neg (by simp only;omega),if_neg (by simp only;omega),if_neg (by simp only;omega),if_neg (by simp only;omega),if_neg (by simp only;omega)]
  rw [e];have g3:=g 3 (by omega) (by omega);have g5:=g 5 (by omega) (by omega);have g6:=g 6 (by omega) (by omega);have g7:=g 7 (by omega) (by omega);have g8:=g 8 (by omega) (by omega);have g9:=g 9 (by omega) (by omega);have g10:=g 10 (by omega) (by omega);have g11:=g 11 (by omega) (by omega);have g12:=g 12 (by omega) (by omega);have g13:=g 13 (by omega) (by omega);have g16:=g 16 (by omega) (by omega);have g17:=g 17 (by omega) (by omega);have g18:=g 18 (by omega) (by omega);have g19:=g 19 (by omega) (by omega);clear g hn;refine aj tY.h rfl ?_;repeat refine aw ?_
  exact ag rfl rfl rfl rfl rfl
theorem E3 (i:In4):Ret P0 m4 [.agg (in4 i)] (I (fN i).2):=by
 obtain ⟨o,a,b,c⟩:=i;show Ret P0 m4 [.agg [I o,I a,I b,I c]] (I (fN ⟨o,a,b,c⟩).2);refine wk o (fun k hk e=>?_) (fun hn=>?_)
 ·subst e
  rcases k with _|_|_|_|_|_|_|_|_|_|_|_|_|_|_|_|_|_|_|_|k
  all_goals first
   | omega
   | (refine aj vx.h rfl ?_;repeat refine aw ?_
      exact ag rfl rfl rfl rfl rfl)
 ·have g:=fun (k:Nat) (h1:1<=k) (h2:k<20)=>hn k h1 h2
  have e:fN ⟨o,a,b,c⟩=(0,0):=by
   have g1:=g 1 (by omega) (by omega);have g2:=g 2 (by omega) (by omega);have g3:=g 3 (by omega) (by omega);have g4:=g 4 (by omega) (by omega);have g5:=g 5 (by omega) (by omega);have g6:=g 6 (by omega) (by omega);have g7:=g 7 (by omega) (by omega);have g8:=g 8 (by omega) (by omega);have g9:=g 9 (by omega) (by omega);have g10:=g 10 (by omega) (by omega);have g11:=g 11 (by omega) (by omega);have g12:=g 12 (by omega) (by omega);have g13:=g 13 (by omega) (by omega);have g16:=g 16 (by omega) (by omega);have g17:=g 17 (by omega) (by omega);have g18:=g 18 (by omega) (by omega);have g19:=g 19 (by omega) (by omega);rw [fN,if_neg (by simp only;omega),if_neg (by simp only;omega),if_neg (by simp only;omega),if_neg (by simp only;omega),if_neg (by simp only;omega)]
  rw [e];have g1:=g 1 (by omega) (by omega);have g2:=g 2 (by omega) (by omega);have g4:=g 4 (by omega) (by omega);have g6:=g 6 (by omega) (by omega);have g7:=g 7 (by omega) (by omega);have g8:=g 8 (by omega) (by omega);have g9:=g 9 (by omega) (by omega);have g10:=g 10 (by omega) (by omega);have g11:=g 11 (by omega) (by omega);have g19:=g 19 (by omega) (by omega);clear g hn;refine aj vx.h rfl ?_;repeat refine aw ?_
  exact ag rfl rfl rfl rfl rfl
theorem Jh (i:In4) (k:Int) (hk:0<=k/\k<1000000):Ret P0 qQ [.agg (in4 i),I k] (ae (onI i k)):=by
 obtain ⟨o,a,b,c⟩:=i;show Ret P0 qQ [.agg [I o,I a,I b,I c],I k] (ae (onI ⟨o,a,b,c⟩ k));by_cases k15:o=15
 ·subst k15
  refine Ret.res (r:=.slice 1 [[I a]] true) ?_ (.slice (.refl _));refine aj qS.h rfl ?_;repeat refine aw ?_
  exact ag rfl rfl rfl rfl rfl
 by_cases k16:o=16
 ·subst k16
  refine Ret.res (r:=.slice 1 [[I (k+1)],[I a]] true) ?_ (.slice (.refl _));refine aj qS.h rfl ?_;repeat refine aw ?_
  exact ag rfl rfl rfl rfl rfl
 by_cases k17:o=17
 ·subst k17
  refine Ret.res (r:=.nil) ?_ (.nil 1);refine aj qS.h rfl ?_;repeat refine aw ?_
  exact ag rfl rfl rfl rfl rfl
 have e:onI ⟨o,a,b,c⟩ k=[k+1]:=by rw [onI,if_neg k15,if_neg k16,if_neg k17]
 rw [e];refine Ret.res (r:=.slice 1 [[I (k+1)]] true) ?_ (.slice (.refl _));refine aj qS.h rfl ?_;repeat refine aw ?_
 exact ag rfl rfl rfl rfl rfl
end Uw.Tryz.El
namespace Uw.Tryz.El
open Go Uw Uw.Tryz
def XE (c:Cd) (a:Int):Int:=if a=1\/a=2\/a=3 then c.maps else if a=4\/a=5 then c.stacks else c.chans
def XF (a:Int):Int:=if a=2 then 2 else if a=5\/a=7 then 0 else 1
def DV (c:Cd) (i:In4):Bool:=decide (1<=i.a/\i.a<=7/\0<=i.b)&&decide (i.b<XE c i.a)&&decide (i.c=XF i.a)
theorem E4 (c:Cd) (i:In4):Ret P0 fp [cdD c,.agg (in4 i)] (.bool (DV c i)):=by
 obtain ⟨o,a,b,d⟩:=i;show Ret P0 fp [cdD c,.agg [I o,I a,I b,I d]] (.bool (DV c ⟨o,a,b,d⟩));unfold DV;by_cases h:1<=a/\a<=7/\0<=b
 ·rw [decide_eq_true (show 1<=(In4.mk o a b d).a/\(In4.mk o a b d).a<=7/\0<=(In4.mk o a b d).b from h),Zb]
  obtain ⟨h1,h2,h3⟩:=h
  rcases show a=1\/a=2\/a=3\/a=4\/a=5\/a=6\/a=7 by omega with rfl|rfl|rfl|rfl|rfl|rfl|rfl
  all_goals
   (first
    | (show Ret P0 fp _ (.bool (decide (b<c.maps)&&_));by_cases q:b<c.maps)
    | (show Ret P0 fp _ (.bool (decide (b<c.stacks)&&_));by_cases q:b<c.stacks)
    | (show Ret P0 fp _ (.bool (decide (b<c.chans)&&_));by_cases q:b<c.chans))
   ·rw [decide_eq_true q,Zb]
    refine aj jF.h rfl ?_;repeat (first|refine aw ?_|refine au _ rfl ?_)
    exact ag rfl rfl rfl rfl rfl
   ·rw [decide_eq_false q,Y3]
    refine aj jF.h rfl ?_;repeat (first|refine aw ?_|refine au _ rfl ?_)
    exact ag rfl rfl rfl rfl rfl
 ·rw [decide_eq_false (show ¬(1<=(In4.mk o a b d).a/\(In4.mk o a b d).a<=7/\0<=(In4.mk o a b d).b) from h),Y3,Y3]
  by_cases h1:a<1
  ·refine aj jF.h rfl ?_;repeat (first|refine aw ?_|refine au _ rfl ?_)
   exact ag rfl rfl rfl rfl rfl
  by_cases h2:7<a
  ·refine aj jF.h rfl ?_;repeat (first|refine aw ?_|refine au _ rfl ?_)
   exact ag rfl rfl rfl rfl rfl
  have h3:b<0:=by omega
  refine aj jF.h rfl ?_;repeat (first|refine aw ?_|refine au _ rfl ?_)
  exact ag rfl rfl rfl rfl rfl
def Ji (c:Cd) (b:Bd) (i:In4):Bool:=
 if i.op=1 then decide (0<=i.a)&&decide (i.a<4294967296)
 else if i.op=2\/i.op=3 then decide (0<=i.a)&&decide (i.a<b.locals)
 else if i.op=4\/i.op=5 then decide (0<=i.a)&&decide (i.a<((c.cells.map fun i=>[I i]).length:Nat))
 else if i.op=11 then DV c i
 else if i.op=13 then decide (0<=i.a/\i.a<((c.am.map bdC).length:Nat))&&(decide (i.b=(c.am.getD i.a.toNat default).args)&&(decide (-1<=i.c)&&decide (i.c<b.locals)))
 else true
theorem HQ (c:Cd) (b:Bd) (i:In4):Ret P0 oO [cdD c,.agg (bdC b),.agg (in4 i)] (.bool (Ji c b i)):=by
 have hcall:=E4 c i;obtain ⟨o,a,e,d⟩:=i;have hcall:Ret P0 fp [cdD c,.agg [I o,I a,I e,I d]] (.bool (DV c ⟨o,a,e,d⟩)):=hcall;show Ret P0 oO [cdD c,.agg (bdC b),.agg [I o,I a,I e,I d]] (.bool (Ji c b ⟨o,a,e,d⟩));have hel:0<=a->a<((c.am.map bdC).length:Nat)->(c.am.map bdC)[a.toNat]? = some (bdC (c.am.getD a.toNat default)):=by
  intro h1 h2;have h3:a.toNat<c.am.length:=by simp at h2;omega
  simp [h3]
 unfold Ji;simp only [];generalize DV c ⟨o,a,e,d⟩=X at *;by_cases k1:o=1
 ·subst k1
  rw [if_pos rfl];by_cases q:0<=a
  ·rw [decide_eq_true q,Zb]
   refine aj cU.h rfl ?_;repeat refine aw ?_
   exact ag rfl rfl rfl rfl rfl
  ·rw [decide_eq_false q,Y3]
   refine aj cU.h rfl ?_;repeat refine aw ?_
   exact ag rfl rfl rfl rfl rfl
 rw [if_neg k1];by_cases k2:o=2\/o=3
 ·rw [if_pos k2]
  by_cases q:0<=a
  ·rw [decide_eq_true q,Zb]
   rcases k2 with rfl|rfl
   all_goals
    refine aj cU.h rfl ?_;repeat refine aw ?_
    exact ag rfl rfl rfl rfl rfl
  ·rw [decide_eq_false q,Y3]
   rcases k2 with rfl|rfl
   all_goals
    refine aj cU.h rfl ?_;repeat refine aw ?_
    exact ag rfl rfl rfl rfl rfl
 rw [if_neg k2];have k2a:o≠2:=fun h=>k2 (.inl h);have k2b:o≠3:=fun h=>k2 (.inr h);by_cases k4:o=4\/o=5
 ·rw [if_pos k4]
  by_cases q:0<=a
  ·rw [decide_eq_true q,Zb]
   rcases k4 with rfl|rfl
   all_goals
    refine aj cU.h rfl ?_;repeat refine aw ?_
    exact ag rfl rfl rfl rfl rfl
  ·rw [decide_eq_false q,Y3]
   rcases k4 with rfl|rfl
   all_goals
    refine aj cU.h rfl ?_;repeat refine aw ?_
    exact ag rfl rfl rfl rfl rfl
 rw [if_neg k4];have k4a:o≠4:=fun h=>k4 (.inl h);have k4b:o≠5:=fun h=>k4 (.inr h);by_cases k11:o=11
 ·subst k11
  rw [if_pos rfl];refine aj cU.h rfl ?_;repeat refine aw ?_
  exact ag rfl rfl rfl rfl rfl
 rw [if_neg k11];by_cases k13:o=13
 ·subst k13
  rw [if_pos rfl];by_cases q1:0<=a
  rotate_left 1
  ·rw [decide_eq_false (fun h=>q1 h.1),Y3]
   refine aj cU.h rfl ?_;repeat refine aw ?_
   exact ag rfl rfl rfl rfl rfl
  by_cases q2:a<((c.am.map bdC).length:Nat)
  rotate_left 1
  ·rw [decide_eq_false (fun h=>q2 h.2),Y3]
   refine aj cU.h rfl ?_;repeat refine aw ?_
   exact ag rfl rfl rfl rfl rfl
  rw [decide_eq_true (show _/\_ from ⟨q1,q2⟩),Zb];have hel:=hel q1 q2;have hel:(c.am.map bdC)[a.toNat]? = some [I (c.am.getD a.toNat default).args,I (c.am.getD a.toNat default).locals,.slice 4 ((c.am.getD a.toNat default).ins.map in4) false]:=hel;generalize c.am.getD a.toNat default=g at *;clear hcall;rw [show cdD c = .agg [.slice 3 (c.am.map bdC) false,ae c.cells,I c.maps,I c.stacks,I c.chans,I c.main] from rfl];generalize c.am.map bdC=rows at *;by_cases q3:e=g.args
  rotate_left 1
  ·rw [decide_eq_false q3,Y3]
   refine aj cU.h rfl ?_;repeat refine aw ?_
   exact ag rfl rfl rfl rfl rfl
  rw [decide_eq_true q3,Zb];by_cases q4 : -1<=d
  ·rw [decide_eq_true q4,Zb]
   refine aj cU.h rfl ?_;repeat refine aw ?_
   exact ag rfl rfl rfl rfl rfl
  ·rw [decide_eq_false q4,Y3]
   refine aj cU.h rfl ?_;repeat refine aw ?_
   exact ag rfl rfl rfl rfl rfl
 rw [if_neg k13];refine aj cU.h rfl ?_;repeat refine aw ?_
 exact ag rfl rfl rfl rfl rfl
end Uw.Tryz.El
namespace Uw.Tryz.El
open Go Uw Uw.Tryz
def toR (n:Nat) (h:Int):List Int->List Int->Option (List Int)
 | [],out=>some out
 | t::r,out=>if t<0\/(n:Int)<=t then none
  else if out.getD t.toNat 0<0 then toR n h r (out.set t.toNat h)
  else if out.getD t.toNat 0≠h then none else toR n h r out
def kR (ins:List In4) (out:List Int) (k:Nat):Option (List Int):=
 if out.getD k 0<0 then some out
 else if (fN (ins.getD k default)).1<0\/out.getD k 0<(fN (ins.getD k default)).1 then none
 else toR ins.length (out.getD k 0 - (fN (ins.getD k default)).1+(fN (ins.getD k default)).2) (onI (ins.getD k default) k) out
def ksR (ins:List In4):Nat->Nat->List Int->Option (List Int)
 | 0,_,out=>some out
 | r+1,k,out=>(kR ins out k).bind (ksR ins r (k+1))
def agR (ins:List In4):Nat->List Int->Option (List Int)
 | 0,out=>some out
 | m+1,out=>(ksR ins ins.length 0 out).bind (agR ins m)
abbrev hS1 (c:Cd) (ins:List (List Dat)) (j:Nat):St:=⟨[(7,.d (I j)),(6,.ref 1 j 0 j),(5,.d (.slice 4 ins false)),(4,.d .nil),(2,.ptr 0 0)],[(1,.mt 1 j (List.replicate j [I (-1)])),(0,BG c)],2,[],0⟩
abbrev hS2 (c:Cd) (ins:List (List Dat)) (n:Nat) (a:Nat) (out:List (List Dat)):St:=⟨[(8,.d (I a)),(6,.ref 1 n 0 n),(5,.d (.slice 4 ins false)),(4,.d .nil),(2,.ptr 0 0)],[(1,.mt 1 n out),(0,BG c)],2,[],0⟩
abbrev hS3 (c:Cd) (ins:List (List Dat)) (n:Nat) (a k:Nat) (out:List (List Dat)):St:=⟨[(9,.d (I k)),(8,.d (I a)),(6,.ref 1 n 0 n),(5,.d (.slice 4 ins false)),(4,.d .nil),(2,.ptr 0 0)],[(1,.mt 1 n out),(0,BG c)],2,[],0⟩
abbrev hS4 (c:Cd) (ins:List (List Dat)) (n:Nat) (a k:Nat) (h:Int) (on:List Int) (j:Nat) (out:List (List Dat)):St:=⟨[(12,.d (I j)),(11,.d (ae on)),(10,.d (I h)),(9,.d (I k)),(8,.d (I a)),(6,.ref 1 n 0 n),(5,.d (.slice 4 ins false)),(4,.d .nil),(2,.ptr 0 0)],[(1,.mt 1 n out),(0,BG c)],2,[],0⟩
def HSm (n:Nat) (B:Int) (out:List Int):Prop:=out.length=n/\∀x∈out,-1<=x/\x<=B
theorem HSm.at {n:Nat} {B:Int} {out:List Int} (h:HSm n B out) {k:Nat} (hk:k<n) : -1<=out.getD k 0/\out.getD k 0<=B:=by
 have hl:=h.1;refine h.2 _ ?_;rw [ZS,AN (by omega)];exact YX _
theorem HSm.set {n:Nat} {B:Int} {out:List Int} (h:HSm n B out) (t:Nat) {v:Int} (hv : -1<=v/\v<=B):HSm n B (out.set t v):=by
 refine ⟨by rw [ZU];exact h.1,fun x hx=>?_⟩
 rcases Zh hx with h1|h1
 ·exact h.2 x h1
 ·rw [h1];exact hv
theorem HSm.mono {n:Nat} {B B' : Int} {out:List Int} (h:HSm n B out) (hb:B<=B'):HSm n B' out:=⟨h.1,fun x hx=>by have:=h.2 x hx;omega⟩
theorem HS (c:Cd) (f:Nat) (ba bl:Int) (ins:List In4) (D:Dat) (hb:c.am[f]? = some ⟨ba,bl,ins⟩) (hfew:ins.length<=100000) (hnil:ins=[]->D = .nil) (hbad:(ins.any fun i=>decide (i.op<1)||decide (19<i.op))=true->D = .nil)
  (hgood:(ins.any fun i=>decide (i.op<1)||decide (19<i.op))=false->ins≠[]->∀R,agR ins (ins.length+1) (0::List.replicate (ins.length - 1) (-1))=R->(R=none->D = .nil)/\∀hi,R=some hi->D = .slice 1 (rw1 hi) false):Ret P0 iE [cdD c,I (f:Nat)] D:=by
 have hfl:=(Zc.1 hb).1;have hfi:(f:Int)<((c.am.map bdC).length:Nat):=by rw [ZZ];omega
 have hel:(c.am.map bdC)[(f:Int).toNat]? = some [I ba,I bl,.slice 4 (ins.map in4) false]:=by simp [hb,bdC]
 have hnl:(ins.map in4).length=ins.length:=by simp
 have hinl:∀(j:Nat) (h:j<ins.length),(ins.map in4)[(j:Int).toNat]? = some (in4 (ins.getD j default)):=fun j h=>by simp [h]
 have hRn:0<ins.length->(List.replicate ins.length [I (-1)])[0+(0:Int).toNat]? = some [I (-1)]/\(List.replicate ins.length [I (-1)]).set (0+(0:Int).toNat) (setAt [I (-1)] 0 [I 0])=rw1 (0::List.replicate (ins.length - 1) (-1)):=by
  intro h;obtain ⟨m,hm⟩:∃m,ins.length=m+1:=⟨ins.length - 1,by omega⟩
  rw [hm];refine ⟨rfl,?_⟩;simp [ZJ,rw1,setAt]
 generalize hin:ins.map in4=L at *;refine aj vW.h rfl ?_
 repeat (first|refine aw ?_|refine f1 ?_|refine m1 ?_)
 refine dH ins.length (hS1 c L) (fun j=>∀h:j<ins.length,¬(ins[j].op<1\/19<ins[j].op)) ?_ (fun hgo=>?_) (fun j hj hpre=>?_)
 ·exact Uw.wM
 rotate_left 1
 ·have he:=hinl j hj
  have e0:ins.getD j default=ins[j]:=by simp [hj]
  rw [e0] at he;have hb1:(ins[j].op<1\/19<ins[j].op)->D = .nil:=fun h=>hbad (aad.2 ⟨ins[j],YX hj,by simpa using h⟩);have hg1:¬(ins[j].op<1\/19<ins[j].op)->∀h:j<ins.length,¬(ins[j].op<1\/19<ins[j].op):=fun h _=>h;clear hbad hgood hinl hRn e0;generalize ins[j]=i at *;obtain ⟨io,ia,ib,ic⟩:=i;have he:L[(j:Int).toNat]? = some [I io,I ia,I ib,I ic]:=he;simp only at hb1 hg1;have ej:(List.replicate j [I (-1)]).take j++[[I (-1)]]=List.replicate (j+1) [I (-1)]:=by rw [i5 (by simp),Zp]
  have ej2:(List.replicate j [I (-1)]).length=j:=by simp
  by_cases q1:io<1
  ·obtain rfl:=hb1 (.inl q1)
   repeat (first|refine aw ?_|refine f1 ?_)
   exact aW (ag rfl rfl rfl rfl rfl)
  by_cases q2:19<io
  ·obtain rfl:=hb1 (.inr q2)
   repeat (first|refine aw ?_|refine f1 ?_)
   exact aW (ag rfl rfl rfl rfl rfl)
  have hg1:=hg1 (by omega)
  repeat (first|refine aw ?_|refine f1 ?_)
  exact cH j hg1 (by exact Uw.wM)
 by_cases hz:ins=[]
 ·obtain rfl:=hnil hz
  have hz0:(L.length:Int)=0:=by rw [hnl,hz];rfl
  have hz1:ins.length=0:=by rw [hz];rfl
  repeat (first|refine aw ?_|refine f1 ?_)
  refine aS ?_
  repeat (first|refine aw ?_|refine f1 ?_)
  exact ag rfl rfl rfl rfl rfl
 have hpos:0<ins.length:=aaj.2 hz;obtain ⟨hgn,hgs⟩:=hgood (Z2.2 fun i hi=>by
  obtain ⟨j,hj,rfl⟩:=Zq.1 hi;have:=hgo j hj hj;simpa using this) hz _ rfl
 obtain ⟨rn1,rn2⟩:=hRn hpos;clear hbad hgood hRn hgo hnil;have XG:HSm ins.length ((0 * ins.length:Nat):Int) (0::List.replicate (ins.length - 1) (-1)):=by
  refine ⟨by simp;omega,fun h hh=>?_⟩
  rcases Zj.1 hh with rfl|hh
  ·omega
  ·obtain ⟨_,rfl⟩:=List.mem_replicate.1 hh;omega
 obtain ⟨HR,hHR⟩:∃HR,agR ins (ins.length+1) (0::List.replicate (ins.length - 1) (-1))=HR:=⟨_,rfl⟩
 rw [hHR] at hgn hgs;obtain ⟨n,hn⟩:∃n,n=ins.length:=⟨_,rfl⟩
 have hA:∀a,a<=n->a * n<=10000000000/\(a+1) * n=a * n+n:=fun a ha=>⟨by have:=Nat.mul_le_mul ha (Ls n);have h2:n * n<=100000 * 100000:=Nat.mul_le_mul (by omega) (by omega);omega,Nat.succ_mul a n⟩
 have hS0:hS2 c L ins.length 0 (rw1 (0::List.replicate (ins.length - 1) (-1)))=hS2 c L ins.length 0 ((List.replicate ins.length [I (-1)]).set (0+(0:Int).toNat) (setAt [I (-1)] 0 [I 0])):=by rw [rn2]
 have hL0:¬(L.length:Int)=0:=by omega
 repeat (first|refine aw ?_|refine f1 ?_)
 refine aS ?_
 repeat (first|refine aw ?_|refine f1 ?_)
 refine cX (fun ((a,out):Nat×List Int)=>hS2 c L ins.length a (rw1 out)) (fun x=>x.1<=n+1/\HSm n ((x.1 * n:Nat):Int) x.2/\agR ins (n+1 - x.1) x.2=HR) (fun x=>n+1 - x.1) (0,0::List.replicate (ins.length - 1) (-1)) (oD hS0 (by exact Uw.wM)) ⟨ZN _,by rw [hn];exact XG,by rw [hn];exact hHR⟩ ?_;clear hS0 rn1 rn2 XG hHR hel hfi hfl hb;rintro ⟨a,out⟩ ⟨ha,hsm,hag⟩;simp only at ha hsm hag;have hol:=hsm.1;have hrl:(rw1 out).length=out.length:=by simp
 by_cases hlast:a=n+1
 ·have e:agR ins (n+1 - a) out=some out:=by rw [hlast,aaN];rfl
  rw [e] at hag;have hD:=hgs out hag.symm;have e:((rw1 out).drop 0).take ins.length=rw1 out:=by rw [YY,i5 (by omega)]
  rw [<- e] at hD;rw [hD];have hlt:¬(a:Int)<=(L.length:Nat):=by omega
  repeat (first|refine aw ?_|refine f1 ?_)
  refine aS ?_
  repeat (first|refine aw ?_|refine f1 ?_)
  exact ag rfl rfl rfl (by simp [tq,V.cur,V.cur.go,look,put]) rfl
 have hlt:(a:Int)<=(L.length:Nat):=by omega
 obtain ⟨m,hm⟩:∃m,n+1 - a=m+1:=⟨n - a,by omega⟩
 rw [hm,agR] at hag;obtain ⟨hA1,hA2⟩:=hA a (by omega);clear hA;generalize hAn:a * n=A at *
 repeat (first|refine aw ?_|refine f1 ?_)
 refine cX (fun ((k,out):Nat×List Int)=>hS3 c L ins.length a k (rw1 out)) (fun x=>x.1<=n/\HSm n ((A:Int)+x.1) x.2/\(ksR ins (n - x.1) x.1 x.2).bind (agR ins m)=HR) (fun x=>n - x.1) (0,out) (by exact Uw.wM) ⟨ZN _,hsm,by rw [<- hn] at hag;exact hag⟩ ?_;clear hsm hag hol hrl;rintro ⟨k,out⟩ ⟨hk,hsm,hks⟩;simp only at hk hsm hks;have hol:=hsm.1;have hrl:(rw1 out).length=out.length:=by simp
 by_cases hkn:k=n
 ·have hks:agR ins m out=HR:=by rw [hkn,aaN] at hks;exact hks
  have hlt2:¬(k:Int)<(L.length:Nat):=by omega
  refine aw ?_;refine aS ?_
  repeat (first|refine aw ?_|refine f1 ?_)
  refine aN (a+1,out) ⟨by show a+1<=n+1;omega,by show HSm n (((a+1) * n:Nat):Int) out;rw [hA2];exact hsm.mono (by rw [hkn];omega),by show agR ins (n+1 - (a+1)) out=HR;rw [show n+1 - (a+1)=m by omega];exact hks⟩ (by show n+1 - (a+1)<n+1 - a;omega) (by exact Uw.wM)
 have hkl:k<ins.length:=by omega
 have hlt2:(k:Int)<(L.length:Nat):=by omega
 have hek:=hinl k hkl;have hv:=hsm.at (k:=k) (by omega);have hrk:=uQ (l:=out) (t:=(k:Int)) (by omega) (by omega);rw [aaq] at hrk;have hrk:(rw1 out)[0+(k:Int).toNat]? = some [I (out.getD k 0)]:=hrk;rw [show n - k=(n - k - 1)+1 by omega,ksR,kR] at hks;have htk:=BK (ins.getD k default);have hpt:=E3 (ins.getD k default);have hon:=Jh (ins.getD k default) k ⟨by omega,by omega⟩;have hpu:=HB (ins.getD k default);have YF:=PX (ins.getD k default) k;generalize onI (ins.getD k default) k=on at *;generalize (fN (ins.getD k default)).1=tk at *;generalize (fN (ins.getD k default)).2=pu at *;generalize ins.getD k default=i0 at *;obtain ⟨io,ia,ib,ic⟩:=i0;have hek:L[(k:Int).toNat]? = some [I io,I ia,I ib,I ic]:=hek;have htk:Ret P0 kQ [.agg [I io,I ia,I ib,I ic]] (I tk):=htk;have hpt:Ret P0 m4 [.agg [I io,I ia,I ib,I ic]] (I pu):=hpt;have hon:Ret P0 qQ [.agg [I io,I ia,I ib,I ic],I k] (ae on):=hon;generalize hov:out.getD k 0=o at *;clear hinl;by_cases q1:o<0
 ·rw [if_pos q1] at hks
  have hks:(ksR ins (n - k - 1) (k+1) out).bind (agR ins m)=HR:=hks
  repeat (first|refine aw ?_|refine f1 ?_)
  refine aN (k+1,out) ⟨by show k+1<=n;omega,by show HSm n ((A:Int)+((k+1:Nat):Int)) out;exact hsm.mono (by omega),by show (ksR ins (n - (k+1)) (k+1) out).bind (agR ins m)=HR;rw [show n - (k+1)=n - k - 1 by omega];exact hks⟩ (by show n - (k+1)<n - k;omega) (by exact Uw.wM)
 rw [if_neg q1] at hks;by_cases q2:tk<0
 ·rw [if_pos (.inl q2)] at hks
  obtain rfl:=hgn hks.symm
  repeat (first|refine aw ?_|refine f1 ?_)
  exact aW (aW (ag rfl rfl rfl rfl rfl))
 by_cases q3:o<tk
 ·rw [if_pos (.inr q3)] at hks
  obtain rfl:=hgn hks.symm
  repeat (first|refine aw ?_|refine f1 ?_)
  exact aW (aW (ag rfl rfl rfl rfl rfl))
 rw [if_neg (by omega),<- hn] at hks;obtain ⟨h,hh⟩:∃h,h=o - tk+pu:=⟨_,rfl⟩
 have hh':=hh.symm;rw [<- hh] at hks;have hhb:0<=h/\h<=(A:Int)+k+1:=by omega
 have hin1:inR .i64 (o - tk)=true:=by simp [inR];omega
 have hin2:inR .i64 (o - tk+pu)=true:=by simp [inR];omega
 repeat (first|refine aw ?_|refine f1 ?_)
 refine cX (fun ((j,out):Nat×List Int)=>hS4 c L ins.length a k h on j (rw1 out)) (fun x=>x.1<=on.length/\HSm n ((A:Int)+k+1) x.2/\((toR n h (on.drop x.1) x.2).bind (ksR ins (n - k - 1) (k+1))).bind (agR ins m)=HR) (fun x=>on.length - x.1) (0,out) (by exact Uw.wM) (show 0<=on.length/\HSm n ((A:Int)+k+1) out/\((toR n h (on.drop 0) out).bind (ksR ins (n - k - 1) (k+1))).bind (agR ins m)=HR from ⟨ZN _,hsm.mono (by omega),hks⟩) ?_;clear hsm hks hol hrl hrk hov htk hpt hon hek;rintro ⟨j,out⟩ ⟨hj,hsm,hks⟩;simp only at hj hsm hks;have hol:=hsm.1;have YV:(on.map fun i=>[I i]).length=on.length:=by simp
 by_cases hjn:j=on.length
 ·rw [hjn,aaU] at hks
  have hks:(ksR ins (n - k - 1) (k+1) out).bind (agR ins m)=HR:=hks;have hjl:¬(j:Int)<((on.map fun i=>[I i]).length:Nat):=by omega
  refine aw ?_;refine aS ?_
  repeat (first|refine aw ?_|refine f1 ?_)
  refine aN (k+1,out) ⟨by show k+1<=n;omega,by show HSm n ((A:Int)+((k+1:Nat):Int)) out;exact hsm.mono (by omega),by show (ksR ins (n - (k+1)) (k+1) out).bind (agR ins m)=HR;rw [show n - (k+1)=n - k - 1 by omega];exact hks⟩ (by show n - (k+1)<n - k;omega) (by exact Uw.wM)
 have hjl:(j:Int)<((on.map fun i=>[I i]).length:Nat):=by omega
 have hoj:(on.map fun i=>[I i])[(j:Int).toNat]? = some [I (on.getD j 0)]:=by simp [show j<on.length by omega]
 have hdr:on.drop j=on.getD j 0::on.drop (j+1):=by
  rw [Zo (by omega),ZS,AN (by omega)];rfl
 rw [hdr,toR] at hks;generalize on.getD j 0=t at *;by_cases p1:t<0
 ·rw [if_pos (.inl p1)] at hks
  obtain rfl:=hgn hks.symm
  repeat (first|refine aw ?_|refine f1 ?_)
  exact aW (aW (aW (ag rfl rfl rfl rfl rfl)))
 by_cases p2:(n:Int)<=t
 ·rw [if_pos (.inr p2)] at hks
  obtain rfl:=hgn hks.symm;have p2' : (L.length:Int)<=t:=by omega
  repeat (first|refine aw ?_|refine f1 ?_)
  exact aW (aW (aW (ag rfl rfl rfl rfl rfl)))
 rw [if_neg (by omega)] at hks;have p2' : ¬(L.length:Int)<=t:=by omega
 have p3:t<(ins.length:Nat):=by omega
 have hrt:=uQ (l:=out) (t:=t) (by omega) (by omega);have hset:=wu out t.toNat h (out.getD t.toNat 0);have PZ:(rw1 (out.set t.toNat h))[0+t.toNat]? = some [I h]:=by
  have:=uQ (l:=out.set t.toNat h) (t:=t) (by omega) (by rw [ZU];omega);rw [this];simp [show t.toNat<out.length by omega]
 by_cases p4:out.getD t.toNat 0<0
 ·rw [if_pos p4] at hks
  have YB:=hsm.set t.toNat (v:=h) (by omega);have XH:((rw1 out).set (0+t.toNat) (setAt [I (out.getD t.toNat 0)] 0 [I h]))[0+t.toNat]? = some [I h]:=by rw [hset];exact PZ
  have hfin:hS4 c L ins.length a k h on (j+1) (rw1 (out.set t.toNat h))=hS4 c L ins.length a k h on (j+1) ((rw1 out).set (0+t.toNat) (setAt [I (out.getD t.toNat 0)] 0 [I h])):=by rw [hset]
  obtain ⟨h2,e2⟩:∃h2,h2=h:=⟨_,rfl⟩
  have YC:((rw1 out).set (0+t.toNat) (setAt [I (out.getD t.toNat 0)] 0 [I h]))[0+t.toNat]? = some [I h2]:=by rw [e2];exact XH
  clear hset PZ XH;generalize out.getD t.toNat 0=o2 at hrt YC hfin p4
  repeat (first|refine aw ?_|refine f1 ?_)
  exact aN (j+1,out.set t.toNat h) ⟨by show j+1<=on.length;omega,YB,hks⟩ (by show on.length - (j+1)<on.length - j;omega) (oD hfin (by exact Uw.wM))
 ·rw [if_neg p4] at hks
  by_cases p5:out.getD t.toNat 0=h
  ·rw [if_neg (fun hne=>hne p5)] at hks
   clear hset PZ;generalize out.getD t.toNat 0=o2 at hrt p4 p5
   repeat (first|refine aw ?_|refine f1 ?_)
   exact aN (j+1,out) (show j+1<=on.length/\HSm n ((A:Int)+k+1) out/\((toR n h (on.drop (j+1)) out).bind (ksR ins (n - k - 1) (k+1))).bind (agR ins m)=HR from ⟨by omega,hsm,hks⟩) (by show on.length - (j+1)<on.length - j;omega) (by exact Uw.wM)
  ·rw [if_pos p5] at hks
   obtain rfl:=hgn hks.symm;clear hset PZ hsm hks;generalize out.getD t.toNat 0=o2 at hrt p4 p5
   repeat (first|refine aw ?_|refine f1 ?_)
   exact aW (aW (aW (ag rfl rfl rfl rfl rfl)))
end Uw.Tryz.El
namespace Uw.Tryz.El
open Go Uw Uw.Tryz
def hD (c:Cd) (k:Nat):Dat:=
 if (c.am.getD k default).ins=[] then .nil
 else if ((c.am.getD k default).ins.any fun i=>decide (i.op<1)||decide (19<i.op))=true then .nil
 else match agR (c.am.getD k default).ins ((c.am.getD k default).ins.length+1) (0::List.replicate ((c.am.getD k default).ins.length - 1) (-1)) with
  | none=>.nil
  | some hi=>.slice 1 (rw1 hi) false
theorem Qg (c:Cd) (k:Nat):hD c k = .nil\/∃hi,hD c k = .slice 1 (rw1 hi) false:=by
 unfold hD
 repeat' split
 all_goals first|exact .inl rfl|exact .inr ⟨_,rfl⟩
theorem yG (c:Cd) (k:Nat) (hk:k<c.am.length) (hl:c.am[k].ins.length<=100000):Ret P0 iE [cdD c,I (k:Nat)] (hD c k):=by
 have e:c.am.getD k default=c.am[k]:=by simp [hk]
 refine HS c k c.am[k].args c.am[k].locals c.am[k].ins (hD c k) (by rw [AN hk]) hl ?_ ?_ ?_
 ·intro h;unfold hD;rw [e,if_pos h]
 ·intro h
  unfold hD;rw [e]
  split
  ·rfl
  ·first|rfl|rw [if_pos h]
 ·intro h h1 R hR
  unfold hD;rw [e,if_neg h1,if_neg (by rw [h];decide),hR];exact ⟨fun e=>by rw [e],fun hi e=>by rw [e]⟩
theorem HU:∀{l:List Bd} {b:Bd},b∈l->b.ins.length<=rb l
 | x::l,b,h=>by
  have e:rb (x::l)=x.ins.length+rb l:=by simp [rb]
  rw [e]
  rcases Zj.1 h with rfl|h
  ·omega
  ·have:=HU h;omega
theorem VQ (l:List In4) (k:Nat) (h:k<l.length):(l.map in4)[(k:Int).toNat]? = some [I (l.getD k default).op,I (l.getD k default).a,I (l.getD k default).b,I (l.getD k default).c]:=by
 have e:l.getD k default=l[k]:=by simp [h]
 rw [e,aaq,Zd,AN h];rfl
theorem getD_mem (l:List In4) (k:Nat) (h:k<l.length):l.getD k default∈l:=by
 have e:l.getD k default=l[k]:=by simp [h]
 rw [e];exact YX h
theorem Qh (l:List In4) (i:In4) (h:i∈l):∃k,k<l.length/\l.getD k default=i:=by
 obtain ⟨k,hk,rfl⟩:=Zq.1 h;exact ⟨k,hk,by simp [hk]⟩
def ud (c:Cd) (k:Nat):Prop:=0<=(c.am.getD k default).args/\(c.am.getD k default).args<=(c.am.getD k default).locals/\(c.am.getD k default).locals<=16/\(c.am.getD k default).ins.length<=400/\(∃hi,hD c k = .slice 1 (rw1 hi) false/\hi.length≠0)/\∀i∈(c.am.getD k default).ins,Ji c (c.am.getD k default) i=true
structure HV (c:Cd):Prop where
 f0:1<=c.am.length
 f1:c.am.length<=32
 m0:0<=c.main
 m1:c.main<c.am.length
 ce:c.cells.length<=16
 o1:(decide (0<=c.maps)&&decide (c.maps<=8))=true
 o2:(decide (0<=c.stacks)&&decide (c.stacks<=8))=true
 o3:(decide (0<=c.chans)&&decide (c.chans<=8))=true
open Classical in
noncomputable def sT (c:Cd):Bool:=if HV c/\(∀j,j<c.cells.length->0<=c.cells.getD j 0/\c.cells.getD j 0<4294967296)/\∀k,k<c.am.length->ud c k then decide ((c.am.getD c.main.toNat default).args=0) else false
theorem HW (c:Cd):(¬HV c->sT c=false)/\(∀j,j<c.cells.length->¬(0<=c.cells.getD j 0/\c.cells.getD j 0<4294967296)->sT c=false)/\(∀k,k<c.am.length->¬ud c k->sT c=false)/\(HV c->(∀j,j<c.cells.length->0<=c.cells.getD j 0/\c.cells.getD j 0<4294967296)->(∀k,k<c.am.length->ud c k)->sT c=decide ((c.am.getD c.main.toNat default).args=0)):=by
 unfold sT;refine ⟨fun h=>if_neg fun g=>h g.1,fun j hj h=>if_neg fun g=>h (g.2.1 j hj),fun k hk h=>if_neg fun g=>h (g.2.2 k hk),fun h1 h2 h3=>if_pos ⟨h1,h2,h3⟩⟩
abbrev cV (fs:List (List Dat)) (cl:List (List Dat)) (m s h mn:Int):List V:=[.d (.slice 3 fs false),.d (.slice 1 cl false),.d (I m),.d (I s),.d (I h),.d (I mn)]
theorem BL (c:Cd) (hf:BH c=true):Ret P0 tU [cdD c] (.bool (sT c)):=by
 obtain ⟨f0,f1,f2,f3⟩:=HW c;simp only [BH,i9,decide_eq_true_eq] at hf;have hins:∀b∈c.am,b.ins.length<=1200:=by
  intro b hb;have h1:b.ins.length<=rb c.am:=HU hb;omega
 have o1:=lW c.maps;have o2:=lW c.stacks;have o3:=lW c.chans;have g1:HV c->(1<=c.am.length/\c.am.length<=32/\0<=c.main/\c.main<c.am.length/\c.cells.length<=16)/\(decide (0<=c.maps)&&decide (c.maps<=8))=true/\(decide (0<=c.stacks)&&decide (c.stacks<=8))=true/\(decide (0<=c.chans)&&decide (c.chans<=8))=true:=fun h=>⟨⟨h.f0,h.f1,h.m0,h.m1,h.ce⟩,h.o1,h.o2,h.o3⟩
 have g2:(1<=c.am.length/\c.am.length<=32/\0<=c.main/\c.main<c.am.length/\c.cells.length<=16)->(decide (0<=c.maps)&&decide (c.maps<=8))=true->(decide (0<=c.stacks)&&decide (c.stacks<=8))=true->(decide (0<=c.chans)&&decide (c.chans<=8))=true->HV c:=fun h a b d=>⟨h.1,h.2.1,h.2.2.1,h.2.2.2.1,h.2.2.2.2,a,b,d⟩
 have hfl:(c.am.map bdC).length=c.am.length:=by simp
 have hcl:(c.cells.map fun i=>[I i]).length=c.cells.length:=by simp
 have hce:∀j,j<c.cells.length->(c.cells.map fun i=>[I i])[(j:Int).toNat]? = some [I (c.cells.getD j 0)]:=fun j h=>by simp [h]
 have hfe:∀j,j<c.am.length->(c.am.map bdC)[(j:Int).toNat]? = some [I (c.am.getD j default).args,I (c.am.getD j default).locals,.slice 4 ((c.am.getD j default).ins.map in4) false]:=fun j h=>by simp [h,bdC]
 have hHe:∀j,j<c.am.length->Ret P0 iE [cdD c,I (j:Nat)] (hD c j):=fun j h=>yG c j h (by have:=hins _ (YX h);omega);have hma:∀(j:Nat) (i:In4),Ret P0 oO [cdD c,.agg [I (c.am.getD j default).args,I (c.am.getD j default).locals,.slice 4 ((c.am.getD j default).ins.map in4) false],.agg [I i.op,I i.a,I i.b,I i.c]] (.bool (Ji c (c.am.getD j default) i)):=fun j i=>HQ c _ i;have hil:∀j,j<c.am.length->(c.am.getD j default).ins.length<=1200:=fun j h=>by
  have e:c.am.getD j default=c.am[j]:=by simp [h]
  rw [e];exact hins _ (YX h)
 have hme:0<=c.main->c.main<c.am.length->(c.am.map bdC)[c.main.toNat]? = some [I (c.am.getD c.main.toNat default).args,I (c.am.getD c.main.toNat default).locals,.slice 4 ((c.am.getD c.main.toNat default).ins.map in4) false]:=fun h0 h1=>by
  have h:c.main.toNat<c.am.length:=by omega
  simp [h,bdC]
 have hgF:∀j,ud c j->_:=fun j h=>h;generalize sT c=R at *;generalize (decide (0<=c.maps)&&decide (c.maps<=8))=m1 at *;generalize (decide (0<=c.stacks)&&decide (c.stacks<=8))=m2 at *;generalize (decide (0<=c.chans)&&decide (c.chans<=8))=m3 at *;by_cases a0:1<=c.am.length/\c.am.length<=32/\0<=c.main/\c.main<c.am.length/\c.cells.length<=16
 rotate_left 1
 ·obtain rfl:=f0 fun h=>a0 (g1 h).1
  clear f1 f2 f3 g1 g2 hce hfe hHe hma hil hme hgF;by_cases b1:((c.am.map bdC).length:Int)<1
  ·refine aj dC.h rfl ?_;repeat refine aw ?_
   exact ag rfl rfl rfl rfl rfl
  by_cases b2:32<((c.am.map bdC).length:Int)
  ·refine aj dC.h rfl ?_;repeat refine aw ?_
   exact ag rfl rfl rfl rfl rfl
  by_cases b3:c.main<0
  ·refine aj dC.h rfl ?_;repeat refine aw ?_
   exact ag rfl rfl rfl rfl rfl
  by_cases b4:((c.am.map bdC).length:Int)<=c.main
  ·refine aj dC.h rfl ?_;repeat refine aw ?_
   exact ag rfl rfl rfl rfl rfl
  have b5:16<((c.cells.map fun i=>[I i]).length:Int):=by
   have:¬c.cells.length<=16:=fun h=>a0 ⟨by omega,by omega,by omega,by omega,h⟩;omega
  refine aj dC.h rfl ?_;repeat refine aw ?_
  exact ag rfl rfl rfl rfl rfl
 obtain ⟨a1,a2,a3,a4,a5⟩:=a0;have b1:¬((c.am.map bdC).length:Int)<1:=by omega
 have b2:¬32<((c.am.map bdC).length:Int):=by omega
 have b3:¬c.main<0:=by omega
 have b4:¬((c.am.map bdC).length:Int)<=c.main:=by omega
 have b5:¬16<((c.cells.map fun i=>[I i]).length:Int):=by omega
 cases m1 with
 | false=>
  obtain rfl:=f0 fun h=>by have:=(g1 h).2.1;cases this
  refine aj dC.h rfl ?_;repeat refine aw ?_
  exact ag rfl rfl rfl rfl rfl
 | true=>
 cases m2 with
 | false=>
  obtain rfl:=f0 fun h=>by have:=(g1 h).2.2.1;cases this
  refine aj dC.h rfl ?_;repeat refine aw ?_
  exact ag rfl rfl rfl rfl rfl
 | true=>
 cases m3 with
 | false=>
  obtain rfl:=f0 fun h=>by have:=(g1 h).2.2.2;cases this
  refine aj dC.h rfl ?_;repeat refine aw ?_
  exact ag rfl rfl rfl rfl rfl
 | true=>
 replace f3:=f3 (g2 ⟨a1,a2,a3,a4,a5⟩ rfl rfl rfl)
 replace hme:=hme a3 a4
 have hcd:cdD c = .agg [.slice 3 (c.am.map bdC) false,.slice 1 (c.cells.map fun i=>[I i]) false,I c.maps,I c.stacks,I c.chans,I c.main]:=rfl;clear f0 g1 g2 hgF;rw [hcd] at hHe hma ⊢;generalize c.am.map bdC=fs at *;generalize c.cells.map (fun i=>[I i])=cl at *;refine aj dC.h rfl ?_
 repeat refine aw ?_
 refine dH c.cells.length (fun j=>⟨[(3,.d (I j)),(2,.d (.bool false)),(1,.ptr 0 0)],[(0,.var (cV fs cl c.maps c.stacks c.chans c.main))],1,[],0⟩) (fun j=>0<=c.cells.getD j 0/\c.cells.getD j 0<4294967296) ?_ (fun hgo=>?_) (fun j hj hpre=>?_)
 ·exact Uw.wM
 rotate_left 1
 ·have he:=hce j hj
  have hb:=f1 j hj;have hj' : (j:Int)<(cl.length:Nat):=by omega
  clear f2 f3 hHe hma hme hfe;have hg0:0<=c.cells.getD j 0/\c.cells.getD j 0<4294967296->0<=c.cells.getD j 0/\c.cells.getD j 0<4294967296:=fun h=>h;by_cases q:0<=c.cells.getD j 0/\c.cells.getD j 0<4294967296
  ·obtain ⟨q1,q2⟩:=q
   have q1':=q1;have q2':=q2;generalize c.cells.getD j 0=x at he q1' q2'
   repeat refine aw ?_
   exact cH j ⟨q1,q2⟩ (by exact Uw.wM)
  ·obtain rfl:=hb q
   by_cases q1:c.cells.getD j 0<0
   ·generalize c.cells.getD j 0=x at he q1
    repeat refine aw ?_
    exact aW (ag rfl rfl rfl rfl rfl)
   ·have q2:(4294967296:Int)<=c.cells.getD j 0:=by omega
    generalize c.cells.getD j 0=x at he q1 q2
    repeat refine aw ?_
    exact aW (ag rfl rfl rfl rfl rfl)
 replace f3:=f3 hgo
 clear hce f1 hgo
 repeat refine aw ?_
 refine aS ?_
 repeat refine aw ?_
 refine dH c.am.length (fun j=>⟨[(4,.d (I j)),(2,.d (.bool false)),(1,.ptr 0 0)],[(0,.var (cV fs cl c.maps c.stacks c.chans c.main))],1,[],0⟩) (fun j=>ud c j) ?_ (fun hgo=>?_) (fun j hj hpre=>?_)
 ·exact Uw.wM
 ·replace f3:=f3 hgo
  rw [f3];clear f2 f3 hgo hma hHe hfe;generalize c.am.getD c.main.toNat default=b at *;obtain ⟨x1,x2,x3⟩:=b;simp only at hme ⊢;have hlt:¬((c.am.length:Nat):Int)<(fs.length:Nat):=by omega
  repeat refine aw ?_
  refine aS ?_
  repeat refine aw ?_
  exact ag rfl rfl rfl rfl rfl
 have he:=hfe j hj;have hh:=hHe j hj;have hm:=hma j;have hl:=hil j hj;have hb:=f2 j hj;have hj' : (j:Int)<(fs.length:Nat):=by omega
 have hlen:((c.am.getD j default).ins.map in4).length=(c.am.getD j default).ins.length:=by simp
 have hie:∀k,k<(c.am.getD j default).ins.length->((c.am.getD j default).ins.map in4)[(k:Int).toNat]? = some [I ((c.am.getD j default).ins.getD k default).op,I ((c.am.getD j default).ins.getD k default).a,I ((c.am.getD j default).ins.getD k default).b,I ((c.am.getD j default).ins.getD k default).c]:=fun k h=>VQ _ k h;have hgd:∀k (h:k<(c.am.getD j default).ins.length),(c.am.getD j default).ins.getD k default∈(c.am.getD j default).ins:=fun k h=>getD_mem _ k h;have hgd2:∀i∈(c.am.getD j default).ins,∃k,k<(c.am.getD j default).ins.length/\(c.am.getD j default).ins.getD k default=i:=fun i hi=>Qh _ i hi;have hbg:ud c j<->(0<=(c.am.getD j default).args/\(c.am.getD j default).args<=(c.am.getD j default).locals/\(c.am.getD j default).locals<=16/\(c.am.getD j default).ins.length<=400/\(∃hi,hD c j = .slice 1 (rw1 hi) false/\hi.length≠0)/\∀i∈(c.am.getD j default).ins,Ji c (c.am.getD j default) i=true):=Iff.rfl;clear hfe hHe hma hil f2 f3 hme;have hdc:=Qg c j;have hgg:ud c j->ud c j:=fun h=>h;rw [hbg] at hb;generalize Ji c (c.am.getD j default)=my at *;generalize c.am.getD j default=b at *;generalize hD c j=D at *;obtain ⟨x1,x2,ins⟩:=b;simp only at he hh hm hl hb hlen hie hgd hgd2 hbg;generalize ins.map in4=L at *;have hR:∀{q:Prop},(ud c j->q)->¬q->R=false:=fun h1 h2=>hb fun g=>h2 (h1 (hbg.2 g));by_cases q1:x1<0
 ·obtain rfl:=hR (fun g=>(hbg.1 g).1) (by omega)
  clear hbg hgd2 hm
  repeat refine aw ?_
  exact aW (ag rfl rfl rfl rfl rfl)
 by_cases q2:x2<x1
 ·obtain rfl:=hR (fun g=>(hbg.1 g).2.1) (by omega)
  clear hbg hgd2 hm
  repeat refine aw ?_
  exact aW (ag rfl rfl rfl rfl rfl)
 by_cases q3:16<x2
 ·obtain rfl:=hR (fun g=>(hbg.1 g).2.2.1) (by omega)
  clear hbg hgd2 hm
  repeat refine aw ?_
  exact aW (ag rfl rfl rfl rfl rfl)
 by_cases q4:400<(L.length:Int)
 ·obtain rfl:=hR (fun g=>(hbg.1 g).2.2.2.1) (by omega)
  clear hbg hgd2 hm
  repeat refine aw ?_
  exact aW (ag rfl rfl rfl rfl rfl)
 rcases hdc with rfl|⟨hi,rfl⟩
 ·obtain rfl:=hR (fun g=>(hbg.1 g).2.2.2.2.1) (by rintro ⟨_,h,_⟩;cases h)
  clear hbg hgd2 hm
  repeat refine aw ?_
  exact aW (ag rfl rfl rfl rfl rfl)
 by_cases q5:((rw1 hi).length:Int)=0
 ·obtain rfl:=hR (fun g=>(hbg.1 g).2.2.2.2.1) (by
   rintro ⟨h2,h,h3⟩;injection h with _ h
   have:(rw1 hi).length=(rw1 h2).length:=by rw [h]
   simp at this q5;exact h3 (by rw [<- this,q5];rfl))
  clear hbg hgd2 hm
  repeat refine aw ?_
  exact aW (ag rfl rfl rfl rfl rfl)
 have hG:(∀k,k<ins.length->my (ins.getD k default)=true)->ud c j:=fun h=>hbg.2 ⟨by omega,by omega,by omega,by omega,⟨hi,rfl,by simp at q5;simpa using q5⟩,fun i hi=>by obtain ⟨k,hk,rfl⟩:=hgd2 i hi;exact h k hk⟩;have hN:∀k,k<ins.length->my (ins.getD k default)=false->R=false:=fun k hk h=>hR (fun g=>(hbg.1 g).2.2.2.2.2 _ (hgd k hk)) (by rw [h];decide);clear hbg hgd2 hgd hR hb
 repeat refine aw ?_
 refine dH ins.length (fun i=>⟨[(6,.d (I i)),(5,.ptr 1 0),(4,.d (I j)),(2,.d (.bool false)),(1,.ptr 0 0)],[(1,.var [.d (I x1),.d (I x2),.d (.slice 4 L false)]),(0,.var (cV fs cl c.maps c.stacks c.chans c.main))],2,[],0⟩) (fun i=>my (ins.getD i default)=true) ?_ (fun hgo=>?_) (fun i hi2 YG=>?_)
 ·exact Uw.wM
 ·have hg:=hG hgo
  have hlt:¬((ins.length:Nat):Int)<(L.length:Nat):=by omega
  clear hN hG hgo hm hie;refine aw ?_;refine aS ?_
  repeat refine aw ?_
  exact cH j hg (by exact Uw.wM)
 have e1:=hie i hi2;have e2:=hm (ins.getD i default);have e3:=hN i hi2;have hlt:(i:Int)<(L.length:Nat):=by omega
 have e4:my (ins.getD i default)=true->my (ins.getD i default)=true:=fun h=>h;clear hN hG hm hie hf hins e4 hlen q5
 cases hmy:my (ins.getD i default) with
 | true=>
  rw [hmy] at e2;generalize ins.getD i default=ii at e1 e2
  repeat refine aw ?_
  exact cH i hmy (by exact Uw.wM)
 | false=>
  rw [hmy] at e2;obtain rfl:=e3 hmy;generalize ins.getD i default=ii at e1 e2
  repeat refine aw ?_
  exact aW (aW (ag rfl rfl rfl rfl rfl))
end Uw.Tryz.El
namespace Uw.Tryz.El
open Go Uw Uw.Tryz
structure Th where
 cells:List Int
 maps:List Cont
 stacks:List Cont
 chans:List Cont
def thW (w:Wd):Th:=⟨w.cells,w.maps,w.stacks,w.chans⟩
def Th.of (t:Th) (k:Int):List Cont:=if k=1 then t.maps else if k=2 then t.stacks else t.chans
def Th.put (t:Th) (k:Int) (l:List Cont):Th:=if k=1 then { t with maps:=l } else if k=2 then { t with stacks:=l } else { t with chans:=l }
def A5 (t:Th) (u:xA):Option Th:=
 if u.thing=0 then
  if u.obj<0\/(t.cells.length:Int)<=u.obj\/(u.op.kind=0/\t.cells.getD u.obj.toNat 0≠u.val) then none
  else some (if u.op.kind=1 then { t with cells:=t.cells.set u.obj.toNat u.op.a } else t)
 else if u.thing<1\/3<u.thing\/u.obj<0\/((t.of u.thing).length:Int)<=u.obj then none
 else if (doS ((t.of u.thing).getD u.obj.toNat default) u.op).2.1=u.val/\(doS ((t.of u.thing).getD u.obj.toNat default) u.op).2.2=u.is then some (t.put u.thing ((t.of u.thing).set u.obj.toNat (doS ((t.of u.thing).getD u.obj.toNat default) u.op).1)) else none
def xN:List xA->Th->Option Th
 | [],t=>some t
 | u::l,t=>(A5 t u).bind (xN l)
theorem HY:∀(l l' : List xA) (t:Th),xN (l++l') t=(xN l t).bind (xN l')
 | [],l',t=>rfl
 | u::l,l',t=>by
  rw [ZY,xN,xN]
  cases A5 t u with
  | none=>rfl
  | some t'=>exact HY l l' t'
theorem A6 {l:List xA} {t0 t t' : Th} {u:xA} (h:xN l t0=some t) (h2:A5 t u=some t'):xN (l++[u]) t0=some t':=by
 rw [HY,h];show (A5 t u).bind _=_;rw [h2];rfl
def Qi (c:Cd) (w:Wd):Prop:=xN w.uses (thW (cG c))=some (thW w)
theorem S0 {k:Int} (h1:1<=k) (h2:k<=7):ofK k=1\/ofK k=2\/ofK k=3:=by
 unfold ofK
 repeat' split
 all_goals omega
theorem Qj (c:Cd):Ind c (fun w f s ab=>Qi c w) (fun w0 f0 s0 ab w f s b=>Qi c w) (fun w0 f0 s0 ab w=>Qi c w) where
 start {w f s ab} hw hr ht hm hk hs hp:=hp
 load {w0 f0 s0 ab w f s b g a} h0 hl hi hn k ht:=by
  obtain ⟨ha,_,hk⟩:=bL hl.right hn;have hc:=ha.cell (.inl k);rw [<- hl.wi.cells] at hc;refine A6 hi ?_;show (if (0:Int)=0 then (if a.a<0\/(w.cells.length:Int)<=a.a\/((0:Int)=0/\w.cells.getD a.a.toNat 0≠w.cells.getD a.a.toNat 0) then none else some (if (0:Int)=1 then _ else thW w)) else _)=_;rw [if_pos rfl,if_neg (by simp;omega),if_neg (by decide)];rfl
 store {w0 f0 s0 ab w f s b g a} h0 hl hi hn k ht:=by
  obtain ⟨ha,_,hk⟩:=bL hl.right hn;have hc:=ha.cell (.inr k);rw [<- hl.wi.cells] at hc;refine A6 hi ?_;show (if (0:Int)=0 then (if a.a<0\/(w.cells.length:Int)<=a.a\/((1:Int)=0/\w.cells.getD a.a.toNat 0≠0) then none else some (if (1:Int)=1 then _ else thW w)) else _)=_;rw [if_pos rfl,if_neg (by simp;omega),if_pos rfl];rfl
 call {w0 f0 s0 ab w f s b g a} h0 hl hi hn k ht:=by
  obtain ⟨ha,_,hk⟩:=bL hl.right hn;have ho:=ha.op k;have hx:=hl.wi;have hq:=S0 ho.1 ho.2.1;have hlen:a.op.2.1<(((thW w).of (ofK a.op.1)).length:Int):=by
   have h4:=ho.2.2.2;unfold Th.of;unfold AA at h4;unfold ofK
   rcases show a.op.1=1\/a.op.1=2\/a.op.1=3\/a.op.1=4\/a.op.1=5\/a.op.1=6\/a.op.1=7 by omega with q|q|q|q|q|q|q<;>rw [q] at h4 ⊢<;>simp [thW] at h4 ⊢
   ·rw [hx.maps];exact h4
   ·rw [hx.maps];exact h4
   ·rw [hx.maps];exact h4
   ·rw [hx.stacks];exact h4
   ·rw [hx.stacks];exact h4
   ·rw [hx.chans];exact h4
   ·rw [hx.chans];exact h4
  have eT:np w (ofK (opA a).kind)=(thW w).of (ofK (opA a).kind):=rfl;refine A6 hi ?_;unfold A5;rw [if_neg (show ¬ofK (opA a).kind=0 by show ¬ofK a.op.1=0;omega),if_neg (show ¬(ofK (opA a).kind<1\/3<ofK (opA a).kind\/(opA a).obj<0\/(((thW w).of (ofK (opA a).kind)).length:Int)<=(opA a).obj) by
   show ¬(ofK a.op.1<1\/3<ofK a.op.1\/a.op.2.1<0\/(((thW w).of (ofK a.op.1)).length:Int)<=a.op.2.1);omega)]
  refine (if_pos ⟨rfl,rfl⟩).trans ?_
  congr 1
  unfold bC nA Th.put lT;rw [eT]
  repeat' split
  all_goals rfl
 kid {w0 f0 s0 ab w f s b g a} h0 hl hi hn k hz:=hi
 spawn {w0 f0 s0 ab w f s b g a W} h0 hl hi hn k hz hD hd:=hd
 sync {w0 f0 s0 ab w f s b g a} h0 hl hi hn k ht:=hi
 fin {w0 f0 s0 ab w f s b g a} h0 hl hi hn k:=hi
end Uw.Tryz.El
