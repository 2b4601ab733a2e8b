/- Ya: Hc Jc Gm Ia (merged by merge2.py from the working texts). -/
import Derived.Test.YtkmkjfkpnmhaiaaGreatDoorY8
import Derived.Test.YtkmkjfkpnmhaiaaGreatDoorY9
import Derived.Test.YtkmkjfkpnmhaiaaGreatDoorY7
import Derived.Test.YtkmkjfkpnmhaiaaGreatDoorY4
set_option maxRecDepth 8000
set_option maxHeartbeats 2000000
set_option linter.unusedSimpArgs false
set_option linter.unnecessarySimpa false
set_option linter.unusedVariables false
set_option linter.unusedSectionVars false
namespace Uw.Tryz
open Go Uw
theorem N7 {p:Pg} (h:May p):(bL p).length<=p.ag.length:=by
 have h1:(bL p).Nodup:=nY _ _ ZB;have h2:∀s∈bL p,s∈p.ag.map (·.name):=fun s hs=>by
  obtain ⟨x,hx,hk,rfl⟩:=sg.1 hs;obtain ⟨k,hk2,hf,_⟩:=h.call hx (.inr hk);obtain ⟨hk3,e⟩:=sL hf;exact Yf.2 ⟨_,XF hk3,e⟩
 have:=List.Nodup.length_le_of_subset h1 h2;simpa using this
theorem yJ (p:Pg) (k:Nat) (hk:k<p.ag.length):(gw p).ag[k]? = some (d5 p k p.ag[k]):=by
 have:=jg p p.ag 0 k hk;rw [Xy] at this;show (fO p 0 p.ag++li p p.ag.length (bL p))[k]? = _;rw [XM (by rw [eT];exact hk),this]
theorem AW (p:Pg) (k:Nat) (hk:k<(bL p).length):(gw p).ag[p.ag.length+k]? = some (ix (((db p (bL p)[k]).getD 0:Nat):Int) ((p.ag.length+k:Nat):Int)):=by
 show (fO p 0 p.ag++li p p.ag.length (bL p))[p.ag.length+k]? = _;rw [XV (by rw [eT];omega),eT,Nat.add_sub_cancel_left,uK _ _ _ _ hk]
theorem pC (p:Pg):(gw p).ag.length=p.ag.length+(bL p).length:=by
 show (fO p 0 p.ag++li p p.ag.length (bL p)).length=_;rw [Xr,eT,qw]
theorem uL (p:Pg) (k:Nat) (hk:k<(gw p).ag.length):(∃h:k<p.ag.length,(gw p).ag[k]=d5 p k p.ag[k])\/∃j,∃h:j<(bL p).length,k=p.ag.length+j/\(gw p).ag[k]=ix (((db p (bL p)[j]).getD 0:Nat):Int) ((p.ag.length+j:Nat):Int):=by
 have hg:=Xw hk
 rcases XR k p.ag.length with h|h
 ·rw [yJ p k h] at hg
  injection hg with hg
  exact .inl ⟨h,hg.symm⟩
 ·obtain ⟨j,rfl⟩:=Nat.le.dest h
  have hj:j<(bL p).length:=by rw [pC] at hk;omega
  rw [AW p j hj] at hg;injection hg with hg
  exact .inr ⟨j,hj,rfl,hg.symm⟩
theorem AX (p:Pg):Named p (gw p):=by
 refine ⟨oQ p,rfl,rfl,rfl,fun k hk=>⟨by rw [pC];omega,?_⟩,fun k hk=>⟨by rw [pC];omega,?_⟩⟩
 ·rw [List.getD,yJ p k hk];rfl
 ·rw [List.getD,AW p k hk];rfl
structure Wx (b:Bd):Prop where
 two:2<=b.ins.length
 len:(Nz b.ins).length=b.ins.length
 last:∃i,b.ins[b.ins.length - 1]? = some i/\i.op=17
 ret:∀(j:Nat) (h:j<b.ins.length),b.ins[j].op=17->(Nz b.ins).getD j 0 = -1\/(Nz b.ins).getD j 0=1
theorem IE {p:Pg} (h:May p) (hr:EF p) {c:Cd} (hc:Named p c) (k:Nat) (hk:k<p.ag.length):∀y∈(d5 p k p.ag[k]).ins,dU c (d5 p k p.ag[k]) y=true:=by
 obtain ⟨b1,b2,b3⟩:=kL h.formed k hk;obtain ⟨m,hm⟩:∃m:Nat,p.ag[k].body=(m:Int):=⟨p.ag[k].body.toNat,by omega⟩
 have hins:(d5 p k p.ag[k]).ins=lay p.nodes (fh p k) m 0++[p01,r17]:=by rw [<- hm];rfl
 have hb:(d5 p k p.ag[k]).locals=(((ak p).getD k []).length:Nat):=rfl;have hu:=qm h.formed;rw [hins];clear hins;generalize d5 p k p.ag[k]=b at *;have hO:∀(i:Nat) (hi:i<p.nodes.length),(aJ p).getD i 0=(k:Int)->∀y∈eS (fh p k) p.nodes[i],dU c b y=true:=fun i hi hd=>KP h hr hc i k hi hk hd b hb;have hJ:∀a:Int,dU c b ⟨16,a,0,0⟩=true/\dU c b ⟨15,a,0,0⟩=true:=fun a=>⟨rfl,rfl⟩
 have h1:dU c b p01=true:=by
  show dT 0 4294967296=true;exact eE (by decide) (by decide)
 have h2:dU c b r17=true:=rfl;have hl:=lay_all (R:=fun y=>dU c b y=true) (kO h.formed) hJ (fun i=>(aJ p).getD i 0=(k:Int)) (fun i hi hd j hj=>by rw [(hu.kid i hi j hj).1];exact hd) hO m (by omega) (hu.body k hk m (by omega) hm) 0;intro y hy
 rcases XG.1 hy with hy|hy
 ·exact hl y hy
 ·simp only [XA,YJ,or_false] at hy
  rcases hy with rfl|rfl
  ·exact h1
  ·exact h2
theorem IF {p:Pg} (h:May p) {c:Cd} (hc:Named p c) (j:Nat) (hj:j<(bL p).length):∀y∈(ix (((db p (bL p)[j]).getD 0:Nat):Int) ((p.ag.length+j:Nat):Int)).ins,dU c (ix (((db p (bL p)[j]).getD 0:Nat):Int) ((p.ag.length+j:Nat):Int)) y=true:=by
 obtain ⟨x,hx,hxk,e⟩:=sg.1 (XF hj);obtain ⟨m,hm,hf,_,ha⟩:=h.call hx (.inr hxk);rw [e] at hf;rw [hf];obtain ⟨n1,n2⟩:=hc.ag m hm;obtain ⟨n3,n4⟩:=hc.helps j hj;have ha:=ha hxk;rw [ha] at n2;show ∀y∈(ix ((m:Nat):Int) ((p.ag.length+j:Nat):Int)).ins,dU c (ix ((m:Nat):Int) ((p.ag.length+j:Nat):Int)) y=true;have hb:(ix ((m:Nat):Int) ((p.ag.length+j:Nat):Int)).locals=5:=rfl;have hins:(ix ((m:Nat):Int) ((p.ag.length+j:Nat):Int)).ins=(ix ((m:Nat):Int) ((p.ag.length+j:Nat):Int)).ins:=rfl
 conv at hins=>rhs;rw [ix]
 generalize ix ((m:Nat):Int) ((p.ag.length+j:Nat):Int)=b at *;rw [hins];clear hins;have t1:dU c b ⟨13,(m:Nat),1,3⟩=true:=by
  show (dT ((m:Nat):Int) (c.ag.length:Nat)&&decide (1=(c.ag.getD m default).args)&&(decide ((3:Int) = -1)||dT 3 b.locals))=true;rw [eE (by omega) (by omega),n2,hb];rfl
 have t2:dU c b ⟨13,(p.ag.length+j:Nat),2,3⟩=true:=by
  show (dT ((p.ag.length+j:Nat):Int) (c.ag.length:Nat)&&decide (2=(c.ag.getD (p.ag.length+j) default).args)&&(decide ((3:Int) = -1)||dT 3 b.locals))=true;rw [eE (by omega) (by omega),n4,hb];rfl
 have t3:dU c b ⟨13,(p.ag.length+j:Nat),2,4⟩=true:=by
  show (dT ((p.ag.length+j:Nat):Int) (c.ag.length:Nat)&&decide (2=(c.ag.getD (p.ag.length+j) default).args)&&(decide ((4:Int) = -1)||dT 4 b.locals))=true;rw [eE (by omega) (by omega),n4,hb];rfl
 have l2:∀a:Int,0<=a->a<5->dU c b ⟨2,a,0,0⟩=true:=fun a h0 h1=>by
  show dT a b.locals=true;rw [hb];exact eE h0 h1
 have l3:dU c b ⟨3,2,0,0⟩=true:=by
  show dT 2 b.locals=true;rw [hb];rfl
 have l1:∀a:Int,a=0\/a=1->dU c b ⟨1,a,0,0⟩=true:=fun a h=>by
  show dT a 4294967296=true;exact eE (by omega) (by omega)
 have k9:dU c b ⟨9,0,0,0⟩=true:=rfl;have k6:dU c b ⟨6,0,0,0⟩=true:=rfl;have k10:dU c b ⟨10,0,0,0⟩=true:=rfl;have k17:dU c b ⟨17,0,0,0⟩=true:=rfl;have k19:dU c b ⟨19,0,0,0⟩=true:=rfl;have k16:∀a:Int,dU c b ⟨16,a,0,0⟩=true:=fun a=>rfl;have a0:=l2 0 (by decide) (by decide);have a1:=l2 1 (by decide) (by decide);have a2:=l2 2 (by decide) (by decide);have a3:=l2 3 (by decide) (by decide);have a4:=l2 4 (by decide) (by decide);simp only [List.forall_mem_cons,YJ,false_imp_iff,implies_true,and_true];exact ⟨a0,a1,k9,k16 28,a0,l1 1 (.inr rfl),k6,a1,k10,k16 14,a0,t1,a3,k17,a0,a1,k19,l3,a0,a2,t2,a2,a1,t3,a3,a4,k6,k17,l1 0 (.inl rfl),k17⟩
end Uw.Tryz
namespace Uw.Tryz
open Go Uw
def upI (n:Nat) (i:In4):In4:=if i.op=13/\(n:Int)<=i.a then { i with a:=i.a+1 } else i
def upB (n:Nat) (b:Bd):Bd:=⟨b.args,b.locals,b.ins.map (upI n)⟩
theorem IG {n:Nat} {i:In4} (h:i.op≠13):upI n i=i:=if_neg fun e=>h e.1
theorem jI {c:Prop} [Decidable c] {a b a' b' : List In4} {F:In4->In4} (h1:c->a=a'.map F) (h2:¬c->b=b'.map F):(if c then a else b)=(if c then a' else b').map F:=by
 by_cases h:c
 ·rw [if_pos h,if_pos h];exact h1 h
 ·rw [if_neg h,if_neg h];exact h2 h
theorem xp (p:Pg) (f:Int):∀(a b:List (Nd×Int)) (l:List Str),(∀y∈b,eX p y.1=false)->rZ p f (a++b) l=rZ p f a l
 | [],[],l,_=>rfl
 | [],(x,o)::b,l,h=>by
  have h1:eX p x=false:=h (x,o) (by simp);have e:rZ p f ((x,o)::b) l=rZ p f b l:=by
   conv=>lhs;rw [rZ]
   rw [if_neg (by rw [h1];simp)]
  exact e.trans (xp p f [] b l fun y hy=>h y (by simp [hy]))
 | (x,o)::a,b,l,h=>by rw [Xv,rZ,rZ,xp p f a b _ h]
theorem C4 {p q:Pg} (hl:∀x,eX p x=eX q x) (f:Int):∀(a:List (Nd×Int)) (l:List Str),rZ p f a l=rZ q f a l
 | [],_=>rfl
 | (x,o)::a,l=>by rw [rZ,rZ,hl,C4 hl f a]
section
variable {p : Pg} {nm : Str} {ar : List Str} (h : May p) (hq : May (bU p nm ar))
theorem uM:(bU p nm ar).nodes.length=p.nodes.length+3:=by simp [bU]
theorem EU (i:Nat) (hi:i<p.nodes.length):∃h2:i<(bU p nm ar).nodes.length,(bU p nm ar).nodes[i]=p.nodes[i]:=
 ⟨by rw [uM];omega,Zh hi⟩
theorem AY (i:Nat) (hi:i<p.ag.length):∃h2:i<(bU p nm ar).ag.length,(bU p nm ar).ag[i]=p.ag[i]:=
 ⟨by simp [bU];omega,Zh hi⟩
include h hq
theorem Hu:∀(d i:Nat),i<p.nodes.length->p.nodes.length - i<=d->(aJ (bU p nm ar)).getD i 0=(aJ p).getD i 0
 | 0,i,hi,hd=>by omega
 | d+1,i,hi,hd=>by
  have hu:=qm h.formed;have hv:=qm hq.formed;by_cases hb:∃(k:Nat) (hk:k<p.ag.length),p.ag[k].body=(i:Int)
  ·obtain ⟨k,hk,e⟩:=hb
   obtain ⟨hk2,ek⟩:=AY (nm:=nm) (ar:=ar) k hk;obtain ⟨hi2,_⟩:=EU (nm:=nm) (ar:=ar) i hi;rw [hu.body k hk i hi e,hv.body k hk2 i hi2 (by rw [ek];exact e)]
  ·obtain ⟨j,hj,hm⟩:=wY h.formed i hi fun k hk e=>hb ⟨k,hk,e⟩
   obtain ⟨e,hlt⟩:=hu.kid j hj i hm;obtain ⟨hj2,ej⟩:=EU (nm:=nm) (ar:=ar) j hj;rw [e,(hv.kid j hj2 i (by rw [ej];exact hm)).1];exact Hu d j hj (by omega)
theorem Hv (f:Nat) (hf:f<p.ag.length):(ak (bU p nm ar)).getD f []=(ak p).getD f []:=by
 obtain ⟨hf2,ef⟩:=AY (nm:=nm) (ar:=ar) f hf;have hl:∀x,eX (bU p nm ar) x=eX p x:=fun x=>rfl;rw [sa h.formed f hf,sa hq.formed f hf2,ef,C4 hl];have hown:(aJ (bU p nm ar)).take p.nodes.length=aJ p:=by
  have l1:=cS (bU p nm ar);have l2:=cS p;rw [uM] at l1;refine ZJ (by rw [XW];omega) fun i h1 h2=>?_;have:=Hu h hq (p.nodes.length - i) i (by omega) (Xn _);rw [List.getElem_take];simpa [List.getD,show i<(aJ (bU p nm ar)).length by omega,h2] using this
 have hz:(bU p nm ar).nodes.zip (aJ (bU p nm ar))=p.nodes.zip (aJ p)++([⟨1,1,[],[],[]⟩,⟨15,0,[],[],[((p.nodes.length:Nat):Int)]⟩,⟨18,0,[],[],[((p.nodes.length+1:Nat):Int)]⟩]:List Nd).zip ((aJ (bU p nm ar)).drop p.nodes.length):=by
  conv=>lhs;rw [<- YD p.nodes.length (aJ (bU p nm ar)),hown]
  show (p.nodes++_).zip (aJ p++_)=_;exact List.zip_append (by rw [cS])
 rw [hz];refine xp _ _ _ _ _ fun y hy=>?_;have:=(List.of_mem_zip (show (y.1,y.2)∈_ from hy)).1
 rcases XA.1 this with e|this
 ·rw [e];rfl
 rcases XA.1 this with e|this
 ·rw [e];rfl
 rcases XA.1 this with e|this
 ·rw [e];rfl
 cases this
omit h hq in
theorem AZ {s:Str} {m:Nat} (hm:db p s=some m):db (bU p nm ar) s=some m:=by
 show (p.ag++_).findIdx? _=_;rw [ZT];rw [db] at hm;rw [hm];rfl
omit h hq in
theorem pD:bL (bU p nm ar)=bL p:=by
 show fD (p.nodes++([⟨1,1,[],[],[]⟩,⟨15,0,[],[],[((p.nodes.length:Nat):Int)]⟩,⟨18,0,[],[],[((p.nodes.length+1:Nat):Int)]⟩]:List Nd)) []=_;have e:∀(a:List Nd) (x y z:Nd),a++[x,y,z]=((a++[x])++[y])++[z]:=fun a x y z=>by simp
 rw [e,kc,if_neg (by simp),kc,if_neg (by simp),kc,if_neg (by simp)];rfl
theorem K5 (f:Nat) (hf:f<p.ag.length) (x:Nd) (hx:x∈p.nodes):eS (fh (bU p nm ar) f) x=(eS (fh p f) x).map (upI p.ag.length):=by
 have hloc:∀s,yl (fh (bU p nm ar) f) s=yl (fh p f) s:=fun s=>by
  show (lV ((ak (bU p nm ar)).getD f []) s).getD (-1)=_;rw [Hv h hq f hf];rfl
 have JD:∀s,kN (fh (bU p nm ar) f) s=kN (fh p f) s:=fun s=>by unfold kN;rw [hloc]
 have hth:(fh (bU p nm ar) f).things=(fh p f).things:=rfl;unfold eS;rw [hth,hloc,JD];refine jI (fun _=>rfl) fun _=>?_;refine jI (fun _=>by cases (fh p f).things x.name<;>rfl) fun _=>?_;refine jI (fun hk=>by rw [Yk,IG (by show x.kind+3≠13;omega)];rfl) fun _=>?_;refine jI (fun _=>rfl) fun _=>?_;refine jI (fun _=>by cases (fh p f).things x.name<;>rfl) fun _=>?_;refine jI (fun hk=>?_) fun _=>?_
 ·obtain ⟨k,hk2,hfk,_⟩:=h.call hx (.inl hk)
  have e1:(fh (bU p nm ar) f).ag x.name2=(k:Int):=by show (((db (bU p nm ar) x.name2).getD 0:Nat):Int)=_;rw [AZ hfk];rfl
  have e2:(fh p f).ag x.name2=(k:Int):=by show (((db p x.name2).getD 0:Nat):Int)=_;rw [hfk];rfl
  rw [e1,e2,Yk,upI,if_neg (by simp only;omega)];rfl
 refine jI (fun hk=>?_) fun _=>?_
 ·obtain ⟨i,hi,_⟩:=EE (sg.2 ⟨x,hx,hk,rfl⟩)
  have e1:(fh (bU p nm ar) f).helps x.name2=((p.ag.length:Nat):Int)+1+i:=by
   show (match lV (bL (bU p nm ar)) x.name2 with|some i=>(((bU p nm ar).ag.length:Nat):Int)+i|none=>0)=_;rw [pD,hi];show (((p.ag++_).length:Nat):Int)+i=_;simp
  have e2:(fh p f).helps x.name2=((p.ag.length:Nat):Int)+i:=by
   show (match lV (bL p) x.name2 with|some i=>((p.ag.length:Nat):Int)+i|none=>0)=_;rw [hi]
  rw [e1,e2,Yk,upI,if_pos ⟨rfl,by simp only;omega⟩];rw [show ((p.ag.length:Nat):Int)+1+(i:Int)=((p.ag.length:Nat):Int)+i+1 by omega];rfl
 refine jI (fun _=>rfl) fun _=>?_;refine jI (fun _=>rfl) fun _=>?_;refine jI (fun _=>rfl) fun _=>?_;refine jI (fun _=>rfl) fun _=>rfl
omit h hq in
theorem A0 {g g' : Int->Nat->List In4} {F:In4->In4}:∀(l:List Int) (a:Nat),(∀k∈l,∀a,g k a=(g' k a).map F)->layAll g l a=(layAll g' l a).map F
 | [],_,_=>rfl
 | k::r,a,h=>by
  rw [layAll,layAll,h k (by simp),A0 r _ fun k hk=>h k (by simp [hk]),Yc,XJ]
theorem N8 (f:Nat) (hf:f<p.ag.length) (k:Nat):k<p.nodes.length->∀a,lay (bU p nm ar).nodes (fh (bU p nm ar) f) k a=(lay p.nodes (fh p f) k a).map (upI p.ag.length):=by
 have hL:=kO h.formed;have hM:=kO hq.formed
 induction k using Nat.strongRecOn with
 | ind k ih=>
  intro hk a;obtain ⟨hk2,ek⟩:=EU (nm:=nm) (ar:=ar) k hk;have hc:∀c∈p.nodes[k].of,∀a,lay (bU p nm ar).nodes (fh (bU p nm ar) f) c a=(lay p.nodes (fh p f) c a).map (upI p.ag.length):=fun c hcm a=>by
   obtain ⟨h1,h2⟩:=hL.low k hk c hcm;obtain ⟨m,rfl⟩:∃m:Nat,c=(m:Int):=⟨c.toNat,by omega⟩
   exact ih m (by omega) (by omega) a
  have h13:=hL.ifs k hk;have h14:=hL.xg k hk;have hown:=K5 h hq f hf p.nodes[k] (XF hk);have TM:∀a:Int,upI p.ag.length ⟨16,a,0,0⟩=⟨16,a,0,0⟩:=fun a=>IG (by simp);have Vs:∀a:Int,upI p.ag.length ⟨15,a,0,0⟩=⟨15,a,0,0⟩:=fun a=>IG (by simp);rw [Ab _ hL k hk,Ab _ hM k hk2,ek];generalize p.nodes[k]=x at *;by_cases k13:x.kind=13
  ·have h13:=h13 k13
   rw [if_pos k13,if_pos k13];have c0:=hc _ (getD_mem (show 0<x.of.length by omega));have c1:=hc _ (getD_mem (show 1<x.of.length by omega));by_cases h3:x.of.length<3
   ·rw [if_pos h3,if_pos h3]
    simp only [c0,c1,XJ,Yc,Yk,TM]
   ·rw [if_neg h3,if_neg h3]
    have c2:=hc _ (getD_mem (show 2<x.of.length by omega));simp only [c0,c1,c2,XJ,Yc,Yk,TM,Vs]
  ·rw [if_neg k13,if_neg k13]
   by_cases k14:x.kind=14
   ·have h14:=h14 k14
    rw [if_pos k14,if_pos k14];have c0:=hc _ (getD_mem (show 0<x.of.length by omega));have c1:=hc _ (getD_mem (show 1<x.of.length by omega));simp only [c0,c1,XJ,Yc,Yk,List.map_nil,TM,Vs]
   ·rw [if_neg k14,if_neg k14,hown,A0 _ _ hc,Yc]
theorem K6 (k:Nat) (hk:k<p.ag.length):d5 (bU p nm ar) k p.ag[k]=upB p.ag.length (d5 p k p.ag[k]):=by
 obtain ⟨b1,b2,_⟩:=kL h.formed k hk;obtain ⟨m,hm⟩:∃m:Nat,p.ag[k].body=(m:Int):=⟨p.ag[k].body.toNat,by omega⟩
 have e:=N8 h hq k hk m (by omega) 0;unfold lay at e;unfold d5 upB;rw [Hv h hq k hk,hm,e];simp only [Yc];rfl
omit hq in
theorem QP (f own:Nat) (hf:f<p.ag.length) (ho:p.ag.length<=own):ix (f:Int) ((own+1:Nat):Int)=upB p.ag.length (ix (f:Int) (own:Int)):=by
 have e1:upI p.ag.length ⟨13,(f:Int),1,3⟩=⟨13,(f:Int),1,3⟩:=if_neg (by simp only;omega);have e2:∀c,upI p.ag.length ⟨13,(own:Int),2,c⟩=⟨13,((own+1:Nat):Int),2,c⟩:=fun c=>by
  rw [upI,if_pos ⟨rfl,by simp only;omega⟩];rfl
 unfold ix upB;simp only [Yk,List.map_nil,e1,e2];rfl
theorem K7:(gw (bU p nm ar)).ag.length=(gw p).ag.length+1/\(gw (bU p nm ar)).main=(gw p).main/\(∃b,(gw (bU p nm ar)).ag[p.ag.length]? = some b/\b.ins.length=4)/\
  ∀(k:Nat) (hk:k<(gw p).ag.length),(gw (bU p nm ar)).ag[if k<p.ag.length then k else k+1]? = some (upB p.ag.length (gw p).ag[k]):=by
 have hfl:(bU p nm ar).ag.length=p.ag.length+1:=by simp [bU]
 refine ⟨by rw [pC,pC,hfl,pD];omega,?_,?_,fun k hk=>?_⟩
 ·obtain ⟨m,_,hm,_⟩:=h.main
  show (((db (bU p nm ar) fU).getD 0:Nat):Int)=(((db p fU).getD 0:Nat):Int)
  rw [AZ hm,hm]
 ·refine ⟨_,yJ _ p.ag.length (by omega),?_⟩
  have e:(bU p nm ar).ag[p.ag.length]'(by omega)=⟨nm,ar,((p.nodes.length+2:Nat):Int)⟩:=by
   have e0:(bU p nm ar).ag[p.ag.length]? = some ⟨nm,ar,((p.nodes.length+2:Nat):Int)⟩:=by
    show (p.ag++[_])[p.ag.length]? = _;simp
   exact (XT.1 e0).2
  rw [e];show (jE (bU p nm ar).nodes _ (bU p nm ar).nodes.length ((p.nodes.length+2:Nat):Int) 0++[_,_]).length=4;rw [uM];have g0:(bU p nm ar).nodes.getD ((p.nodes.length:Nat):Int).toNat default=⟨1,1,[],[],[]⟩:=by simp [bU,List.getD]
  have g1:(bU p nm ar).nodes.getD ((p.nodes.length+1:Nat):Int).toNat default=⟨15,0,[],[],[((p.nodes.length:Nat):Int)]⟩:=by
   rw [YH];simp [bU,List.getD]
  have g2:(bU p nm ar).nodes.getD ((p.nodes.length+2:Nat):Int).toNat default=⟨18,0,[],[],[((p.nodes.length+1:Nat):Int)]⟩:=by
   rw [YH];simp [bU,List.getD]
  rw [jE,g2];simp only [layAll,jE,g1,g0];rfl
 ·rcases uL p k hk with ⟨h1,e⟩|⟨j,hj,rfl,e⟩
  ·rw [if_pos h1,e]
   obtain ⟨h2,e2⟩:=AY (nm:=nm) (ar:=ar) k h1;rw [yJ _ k h2,e2,K6 h hq k h1]
  ·rw [if_neg (by omega),e]
   have:=AW (bU p nm ar) j (by rw [pD];exact hj);rw [hfl,show p.ag.length+1+j=p.ag.length+j+1 by omega] at this;rw [this];obtain ⟨x,hx,hk2,ex⟩:=sg.1 (XF hj);obtain ⟨m,hm,hf,_⟩:=h.call hx (.inr hk2);rw [ex] at hf;have hj2:(bL (bU p nm ar))[j]'(by rw [pD];exact hj)=(bL p)[j]:=by simp only [pD]
   rw [hj2,AZ hf,hf];exact congrArg some (QP h m _ hm (by omega))
end
end Uw.Tryz
namespace Uw.Tryz
open Go Uw
theorem Hw {α:Type} {a b:List α} (hl:a.length=b.length) (h:∀(j:Nat) (h1:j<a.length) (h2:j<b.length),a[j]=b[j]):a=b:=ZJ hl h
theorem EV (a b:List Int) (ha:a.length<1000000):Ret P0 qb [cG a,cG b] (.bool (decide (a=b))):=by
 have hal:(a.map fun i=>[I i]).length=a.length:=by simp
 have hbl:(b.map fun i=>[I i]).length=b.length:=by simp
 by_cases q:a.length=b.length
 rotate_left 1
 ·rw [decide_eq_false fun e=>q (congrArg List.length e)]
  have q' : ¬(((a.map fun i=>[I i]).length:Nat):Int)=((b.map fun i=>[I i]).length:Nat):=by omega
  refine bf tH rfl ?_
  repeat refine aw ?_
  exact aC rfl rfl rfl rfl rfl
 have q' : (((a.map fun i=>[I i]).length:Nat):Int)=((b.map fun i=>[I i]).length:Nat):=by omega
 have hae:∀(j:Nat) (h:j<a.length),(a.map fun i=>[I i])[(j:Int).toNat]? = some [I a[j]]:=fun j h=>by simp [h]
 have hbe:∀(j:Nat) (h:j<b.length),(b.map fun i=>[I i])[(j:Int).toNat]? = some [I b[j]]:=fun j h=>by simp [h]
 have hone:∀(j:Nat) (h1:j<a.length) (h2:j<b.length),a[j]≠b[j]->decide (a=b)=false:=fun j h1 h2 h=>decide_eq_false fun e=>h (by subst e;rfl);have hall:(∀(j:Nat) (h1:j<a.length) (h2:j<b.length),a[j]=b[j])->decide (a=b)=true:=fun h=>decide_eq_true (Hw q h);generalize decide (a=b)=R at *;refine bf tH rfl ?_
 repeat refine aw ?_
 refine cI a.length (fun j=>⟨[(5,.d (I j)),(4,.d (.bool false)),(1,.d (cG b)),(0,.d (cG a))],[],0,[],0⟩) (fun j=>∀(h1:j<a.length) (h2:j<b.length),a[j]=b[j]) ?_ (fun hg=>?_) (fun j hj _=>?_)
 ·exact Uw.wM
 ·obtain rfl:=hall fun j h1 h2=>hg j h1 h1 h2
  repeat refine aw ?_
  refine aH ?_
  repeat refine aw ?_
  exact aC rfl rfl rfl rfl rfl
 have he:=hae j hj;have hf:=hbe j (by omega);have ho:=hone j hj (by omega);have hg1:a[j]=b[j]'(by omega)->∀(h1:j<a.length) (h2:j<b.length),a[j]=b[j]:=fun h _ _=>h;clear hae hbe hone hall;generalize a[j]=x at *;generalize b[j]'_=y at *;by_cases e:x=y
 ·have hg1:=hg1 e
  repeat refine aw ?_
  exact aK j hg1 (by exact Uw.wM)
 ·obtain rfl:=ho e
  repeat refine aw ?_
  exact bK (aC rfl rfl rfl rfl rfl)
abbrev bcS (a b:Bd) (j:Nat):St:=⟨[(5,.d (I j)),(4,.d (.bool false)),(3,.ptr 1 0),(2,.ptr 0 0)],[(1,.var [.d (I b.args),.d (I b.locals),.d (.slice 4 (b.ins.map in4) false)]),(0,.var [.d (I a.args),.d (I a.locals),.d (.slice 4 (a.ins.map in4) false)])],2,[],0⟩
theorem qx (a b:Bd) (ha:a.ins.length<1000000):Ret P0 ig [.agg (bdC a),.agg (bdC b)] (.bool (decide (a=b))):=by
 have hal:(a.ins.map in4).length=a.ins.length:=by simp
 have hbl:(b.ins.map in4).length=b.ins.length:=by simp
 have heq:decide (a=b)=(decide (a.args=b.args)&&decide (a.locals=b.locals)&&decide (a.ins=b.ins)):=by
  rw [<- Bool.decide_and,<- Bool.decide_and,decide_eq_decide];obtain ⟨a1,a2,a3⟩:=a;obtain ⟨b1,b2,b3⟩:=b;simp [and_assoc]
 rw [heq];clear heq;show Ret P0 ig [.agg [I a.args,I a.locals,.slice 4 (a.ins.map in4) false],.agg [I b.args,I b.locals,.slice 4 (b.ins.map in4) false]] _;by_cases q1:a.args=b.args
 rotate_left 1
 ·rw [decide_eq_false q1]
  refine bf kj rfl ?_
  repeat refine aw ?_
  exact aC rfl rfl rfl rfl rfl
 by_cases q2:a.locals=b.locals
 rotate_left 1
 ·rw [decide_eq_false q2,Bool.and_false,Bool.false_and]
  refine bf kj rfl ?_
  repeat refine aw ?_
  exact aC rfl rfl rfl rfl rfl
 rw [decide_eq_true q1,decide_eq_true q2,aai,aai];by_cases q:a.ins.length=b.ins.length
 rotate_left 1
 ·rw [decide_eq_false fun e=>q (congrArg List.length e)]
  have q' : ¬(((a.ins.map in4).length:Nat):Int)=((b.ins.map in4).length:Nat):=by omega
  refine bf kj rfl ?_
  repeat refine aw ?_
  exact aC rfl rfl rfl rfl rfl
 have q' : (((a.ins.map in4).length:Nat):Int)=((b.ins.map in4).length:Nat):=by omega
 have hae:∀(j:Nat) (h:j<a.ins.length),(a.ins.map in4)[(j:Int).toNat]? = some (in4 a.ins[j]):=fun j h=>by simp [h]
 have hbe:∀(j:Nat) (h:j<b.ins.length),(b.ins.map in4)[(j:Int).toNat]? = some (in4 b.ins[j]):=fun j h=>by simp [h]
 have hone:∀(j:Nat) (h1:j<a.ins.length) (h2:j<b.ins.length),a.ins[j]≠b.ins[j]->decide (a.ins=b.ins)=false:=fun j h1 h2 h=>decide_eq_false fun e=>h (by simp only [e]);have hall:(∀(j:Nat) (h1:j<a.ins.length) (h2:j<b.ins.length),a.ins[j]=b.ins[j])->decide (a.ins=b.ins)=true:=fun h=>decide_eq_true (Hw q h);generalize decide (a.ins=b.ins)=R at *;refine bf kj rfl ?_
 repeat refine aw ?_
 refine cI a.ins.length (bcS a b) (fun j=>∀(h1:j<a.ins.length) (h2:j<b.ins.length),a.ins[j]=b.ins[j]) ?_ (fun hg=>?_) (fun j hj _=>?_)
 ·exact Uw.wM
 ·obtain rfl:=hall fun j h1 h2=>hg j h1 h1 h2
  repeat refine aw ?_
  refine aH ?_
  repeat refine aw ?_
  exact aC rfl rfl rfl rfl rfl
 have he:=hae j hj;have hf:=hbe j (by omega);have ho:=hone j hj (by omega);have hg1:a.ins[j]=b.ins[j]'(by omega)->∀(h1:j<a.ins.length) (h2:j<b.ins.length),a.ins[j]=b.ins[j]:=fun h _ _=>h;clear hae hbe hone hall;generalize a.ins[j]=x at *;generalize b.ins[j]'_=y at *;obtain ⟨x1,x2,x3,x4⟩:=x;obtain ⟨y1,y2,y3,y4⟩:=y;have he:(a.ins.map in4)[(j:Int).toNat]? = some [I x1,I x2,I x3,I x4]:=he;have hf:(b.ins.map in4)[(j:Int).toNat]? = some [I y1,I y2,I y3,I y4]:=hf;have hjj:(j:Int)<((a.ins.map in4).length:Nat):=by omega
 have hjk:(j:Int)<((b.ins.map in4).length:Nat):=by omega
 by_cases e:(⟨x1,x2,x3,x4⟩:In4)=⟨y1,y2,y3,y4⟩
 ·have hg1:=hg1 e
  have e2:(decide (x1=y1)&&(decide (x2=y2)&&(decide (x3=y3)&&(decide (x4=y4)&&true))))=true:=by
   injection e with e1 e2 e3 e4;simp [e1,e2,e3,e4]
  repeat refine aw ?_
  exact aK j hg1 (by exact Uw.wM)
 ·obtain rfl:=ho e
  have e2:(decide (x1=y1)&&(decide (x2=y2)&&(decide (x3=y3)&&(decide (x4=y4)&&true))))=false:=by
   rw [Zm];intro h;simp at h;exact e (by rw [h.1,h.2.1,h.2.2.1,h.2.2.2])
  repeat refine aw ?_
  exact bK (aC rfl rfl rfl rfl rfl)
abbrev cdB (c:Cd):Blk:=.var [.d (.slice 3 (c.ag.map bdC) false),.d (cG c.cells),.d (I c.maps),.d (I c.stacks),.d (I c.chans),.d (I c.main)]
end Uw.Tryz
namespace Uw.Tryz
open Go Uw
def alT:List UInt8:=[99,101,108,108,32,120,59,32,109,97,112,32,109,59,32,102,117,110,99,32,102,40,97,41,32,123,32,109,46,112,117,116,40,97,44,32,49,41,59,32,125,32,102,117,110,99,32,109,97,105,110,40,41,32,123,32,105,102,32,120,32,60,32,49,32,123,32,120,32,61,32,50,59,32,125,32,121,32,61,32,112,97,114,32,102,40,48,44,32,51,41,59,32,125]
def K8:Bd:=⟨1,1,[⟨2,0,0,0⟩,⟨1,1,0,0⟩,⟨11,2,0,2⟩,⟨12,0,0,0⟩,⟨1,0,0,0⟩,⟨17,0,0,0⟩]⟩
def K9:Bd:=⟨0,1,[⟨4,0,0,0⟩,⟨1,1,0,0⟩,⟨9,0,0,0⟩,⟨16,6,0,0⟩,⟨1,2,0,0⟩,⟨5,0,0,0⟩,⟨1,0,0,0⟩,⟨1,3,0,0⟩,⟨13,2,2,0⟩,⟨1,0,0,0⟩,⟨17,0,0,0⟩]⟩
def alC:Cd:=⟨[K8,K9,ix 0 2],[0],1,0,0,1⟩
abbrev TN (b:Bd):Dat:=.agg [I b.args,I b.locals,.slice 4 (b.ins.map in4) true]
theorem Oa (b:Bd):DLe (TN b) (.agg (bdC b)):=.agg (.cons (.refl _) (.cons (.refl _) (.cons (.slice (.refl _)) (.refl _))))
theorem TO (p:Pg):runT ou.res (exec ou.code (kV []) Tree.done) [.tuple [pgD p,I 0],.tuple [cdD alC,I 0],.tuple [cdD Eo,I 4],.bool true,.bool true,.bool true,.bool false,cG [0,1,2,1,0,1],.bool true,.nil] =
  some ([(dR,[.str alT]),(fK,[pgD p]),(fK,[.agg [.nil,.nil,.nil]]),(ig,[.agg (bdC K8),TN K8]),(ig,[.agg (bdC K9),TN K9]),(eH,[cdD alC]),(eH,[K4]),(dM,[cdD alC,I 0]),(qb,[cG [0,1,2,1,0,1],.slice 1 ([0,1,2,1,0,1].map fun i=>[I i]) true]),(dM,[cdD alC,I 3])],.bool true):=by kernel_rfl
def Ob:List (Nat×bD):=[(dM,nI),(o9,pa),(pf,pg),(qD,qF),(po,pq),(qK,qM),(qG,qH),(eH,qC)]
theorem EW:∀f m,look Ob f=some m->aQ P0 f m:=Je ⟨um,vx,vy,wQ,vK,wS,wR,wO,trivial⟩
theorem Vt:ofP (ofR alT).1=(alC,0):=by kernel_rfl
theorem Vu:(ofR alT).2=0:=by kernel_rfl
theorem Oc:(evN Ob 100).F eH [cdD alC]=some (.bool true):=by kernel_rfl
theorem QR:(evN Ob 100).F eH [K4]=some (.bool false):=by kernel_rfl
theorem QS:(evN Ob 100).F dM [cdD alC,I 0]=some (.slice 1 ([0,1,2,1,0,1].map fun i=>[I i]) false):=by kernel_rfl
theorem TP:(evN Ob 100).F dM [cdD alC,I 3]=some .nil:=by kernel_rfl
theorem Bv:Ret P0 ot [] (.bool true):=by
 have h1:=uI alT (by decide);have h2:=lX (ofR alT).1 (Iu alT (by decide)).1;have h3:=lX Bc ⟨by decide,by decide,by decide,by decide,by decide⟩;have e3:ofP Bc=(Eo,4):=by kernel_rfl
 have h4:=qx K8 K8 (by decide);have h5:=qx K9 K9 (by decide);have h9:=EV [0,1,2,1,0,1] [0,1,2,1,0,1] (by decide);rw [Vt] at h2;rw [e3] at h3;rw [decide_eq_true rfl] at h4 h5 h9;have h1:Ret P0 dR [.str alT] (.tuple [pgD (ofR alT).1,I 0]):=by
  have e:Rh (ofR alT) = .tuple [pgD (ofR alT).1,I (ofR alT).2]:=rfl;rw [e,Vu] at h1;exact h1
 exact MU zA _ _ rfl (TO (ofR alT).1) ⟨h1,h2,h3.args (.cons Ri (.refl _)),h4.args (.cons (.refl _) (.cons (Oa K8) (.refl _))),h5.args (.cons (.refl _) (.cons (Oa K9) (.refl _))),DT 100 EW Oc,DT 100 EW QR,DT 100 EW QS,h9.args (.cons (.refl _) (.cons (.slice (.refl _)) (.refl _))),DT 100 EW TP,trivial⟩
end Uw.Tryz
