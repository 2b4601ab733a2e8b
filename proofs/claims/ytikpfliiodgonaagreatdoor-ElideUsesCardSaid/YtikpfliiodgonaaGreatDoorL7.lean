/- L7: Bd Ob Oc Oe Of Og Oh Oi Oj Ok Ol Om On Oo Op Oq Oq2 Oq3 Or Os Ot Ou Ow Ox Ab (merged by merge2.py from the working texts). -/
import Derived.Test.YtikpfliiodgonaaGreatDoorL6
import Derived.Test.YtikpfliiodgonaaGreatDoorL5
import Derived.Test.YtikpfliiodgonaaGreatDoorL3
set_option maxRecDepth 100000
set_option maxHeartbeats 2000000
set_option linter.unusedSimpArgs false
set_option linter.unnecessarySimpa false
set_option linter.unusedVariables false
set_option linter.unusedSectionVars false
namespace Uw.Tryz
open Go Uw
theorem EH (k:Int) (ks vs:List Int) (hl:ks.length<1000000):Ret P0 vv [.agg [I k,ae ks,ae vs]] (.bool (dK ⟨k,ks,vs⟩)):=by
 have hr:=EG ks hl;have hm:(ks.map fun i=>[I i]).length=ks.length:=by simp
 have hm2:(vs.map fun i=>[I i]).length=vs.length:=by simp
 by_cases k1:k=1
 ·subst k1
  by_cases e:ks.length=vs.length
  ·have hR:dK ⟨1,ks,vs⟩=decide (ks.Pairwise (· < ·)):=by simp [dK,e]
   rw [hR];have e' : (((ks.map fun i=>[I i]).length:Nat):Int)=((vs.map fun i=>[I i]).length:Nat):=by omega
   generalize decide (ks.Pairwise (· < ·))=R at *;refine aj jE.h rfl ?_
   repeat refine aw ?_
   exact ag rfl rfl rfl rfl rfl
  ·have hR:dK ⟨1,ks,vs⟩=false:=by simp [dK,e]
   rw [hR];have e' : ¬(((ks.map fun i=>[I i]).length:Nat):Int)=((vs.map fun i=>[I i]).length:Nat):=by omega
   refine aj jE.h rfl ?_
   repeat refine aw ?_
   exact ag rfl rfl rfl rfl rfl
 by_cases k2:k=2
 ·subst k2
  have hR:dK ⟨2,ks,vs⟩=decide ((((ks.map fun i=>[I i]).length:Nat):Int)=0):=by simp [dK]
  rw [hR];refine aj jE.h rfl ?_
  repeat refine aw ?_
  exact ag rfl rfl rfl rfl rfl
 by_cases k3:k=3
 ·subst k3
  have hR:dK ⟨3,ks,vs⟩=decide ((((ks.map fun i=>[I i]).length:Nat):Int)=0):=by simp [dK]
  rw [hR];refine aj jE.h rfl ?_
  repeat refine aw ?_
  exact ag rfl rfl rfl rfl rfl
 have hR:dK ⟨k,ks,vs⟩=false:=by simp [dK,k1,k2,k3]
 rw [hR];refine aj jE.h rfl ?_
 repeat refine aw ?_
 exact ag rfl rfl rfl rfl rfl
theorem s7 (c:Cont) (o:Op4) (hl:c.keys.length<1000000) (hv:c.vals.length<1000000) :
  Ret P0 jd [.agg (av c),.agg (opC o)] (.tuple [.agg (av (doS c o).1),I (doS c o).2.1,.bool (doS c o).2.2]):=by
 obtain ⟨k,ks,vs⟩:=c;obtain ⟨oa,ob,oc,od⟩:=o;simp only at hl hv;show Ret P0 jd [.agg [I k,ae ks,ae vs],.agg [I oa,I ob,I oc,I od]] _;have hr:=EH k ks vs hl;have ho:=s6 oa;have he:=zZ;by_cases h1:dK ⟨k,ks,vs⟩=false
 ·have hD:doS ⟨k,ks,vs⟩ ⟨oa,ob,oc,od⟩=(⟨k,ks,vs⟩,0,false):=by unfold doS;rw [if_pos (.inl h1)]
  rw [hD];rw [h1] at hr;refine aj en.h rfl ?_
  repeat refine aw ?_
  exact ag rfl rfl rfl rfl rfl
 have h1:dK ⟨k,ks,vs⟩=true:=by simpa using h1
 rw [h1] at hr;by_cases h2:ofK oa=k
 rotate_left 1
 ·have hD:doS ⟨k,ks,vs⟩ ⟨oa,ob,oc,od⟩=(⟨k,ks,vs⟩,0,false):=by unfold doS;rw [if_pos (.inr h2)]
  rw [hD];refine aj en.h rfl ?_
  repeat refine aw ?_
  exact ag rfl rfl rfl rfl rfl
 by_cases k1:oa=1
 ·subst k1
  obtain rfl:k=1:=h2.symm;have hR:vs.length=ks.length/\ks.Pairwise (· < ·):=by simp [dK] at h1;exact ⟨h1.1.symm,h1.2⟩
  have hc:=IV 1 ks vs 1 ob oc od hl hR.1 hR.2;have hD:doS ⟨1,ks,vs⟩ ⟨1,ob,oc,od⟩=(⟨1,ks,vs⟩,if iy ks oc then vs.getD (cE ks oc) 0 else 0,iy ks oc):=by
   unfold doS;rw [if_neg (by simp [h1,ofK])];simp only [if_true];cases iy ks oc<;>rfl
  rw [hD];generalize iy ks oc=R at *;generalize cE ks oc=w at *;show Ret P0 jd _ (.tuple [.agg [I 1,ae ks,ae vs],I (if R then vs.getD w 0 else 0),.bool R]);generalize (if R then vs.getD w 0 else 0)=v at *;refine aj en.h rfl ?_
  repeat refine aw ?_
  refine aX ⟨[(6,.d (.bool R)),(5,.d (I v)),(4,.ptr 2 0)],[(2,.var [.d (I 1),.d (ae ks),.d (ae vs)])],3,[],0⟩ ?_ ?_
  ·repeat refine aw ?_
   refine bG _ uG.h.body rfl hc ?_
   repeat refine aw ?_
   exact ai (.inl ⟨rfl,by exact Uw.wM⟩)
  repeat refine aw ?_
  exact ag rfl rfl rfl rfl rfl
 by_cases k2:oa=2
 ·subst k2
  obtain rfl:k=1:=h2.symm;have hR:vs.length=ks.length/\ks.Pairwise (· < ·):=by simp [dK] at h1;exact ⟨h1.1.symm,h1.2⟩
  have hc:=IW 1 ks vs 2 ob oc od hl hR.1 hR.2
  cases hh:iy ks oc with
  | true=>
   have hD:doS ⟨1,ks,vs⟩ ⟨2,ob,oc,od⟩=(⟨1,ks,vs⟩,0,false):=by
    unfold doS;rw [if_neg (by simp [h1,ofK])];simp [hh]
   rw [hD];rw [hh] at hc;refine aj en.h rfl ?_
   repeat refine aw ?_
   refine aX ⟨[(6,.d (.bool false)),(5,.d (I 0)),(4,.ptr 2 0)],[(2,.var [.d (I 1),.d (ae ks),.d (ae vs)])],3,[],0⟩ ?_ ?_
   ·repeat refine aw ?_
    refine bG _ qT.h.body rfl hc ?_
    repeat refine aw ?_
    exact ai (.inl ⟨rfl,by exact Uw.wM⟩)
   repeat refine aw ?_
   exact ag rfl rfl rfl rfl rfl
  | false=>
   have hD:doS ⟨1,ks,vs⟩ ⟨2,ob,oc,od⟩=(⟨1,rE ks (cE ks oc) oc,rE vs (cE ks oc) od⟩,0,true):=by
    unfold doS;rw [if_neg (by simp [h1,ofK])];simp [hh]
   rw [hD];rw [hh] at hc;refine aj en.h rfl ?_
   repeat refine aw ?_
   refine aX ⟨[(6,.d (.bool true)),(5,.d (I 0)),(4,.ptr 2 0)],[(2,.var [.d (I 1),.d (ae (rE ks (cE ks oc) oc)),.d (ae (rE vs (cE ks oc) od))])],3,[],0⟩ ?_ ?_
   ·repeat refine aw ?_
    refine bG _ qT.h.body rfl hc ?_
    repeat refine aw ?_
    exact ai (.inl ⟨rfl,by exact Uw.wM⟩)
   repeat refine aw ?_
   exact ag rfl rfl rfl rfl rfl
 by_cases k3:oa=3
 ·subst k3
  obtain rfl:k=1:=h2.symm;have hR:vs.length=ks.length/\ks.Pairwise (· < ·):=by simp [dK] at h1;exact ⟨h1.1.symm,h1.2⟩
  have hc:=IX 1 ks vs 3 ob oc od hl hR.1 hR.2
  cases hh:iy ks oc with
  | true=>
   have hD:doS ⟨1,ks,vs⟩ ⟨3,ob,oc,od⟩=(⟨1,sJ ks (cE ks oc),sJ vs (cE ks oc)⟩,0,true):=by
    unfold doS;rw [if_neg (by simp [h1,ofK])];simp [hh]
   rw [hD];rw [hh] at hc;refine aj en.h rfl ?_
   repeat refine aw ?_
   refine aX ⟨[(6,.d (.bool true)),(5,.d (I 0)),(4,.ptr 2 0)],[(2,.var [.d (I 1),.d (ae (sJ ks (cE ks oc))),.d (ae (sJ vs (cE ks oc)))])],3,[],0⟩ ?_ ?_
   ·repeat refine aw ?_
    refine bG _ qU.h.body rfl hc ?_
    repeat refine aw ?_
    exact ai (.inl ⟨rfl,by exact Uw.wM⟩)
   repeat refine aw ?_
   exact ag rfl rfl rfl rfl rfl
  | false=>
   have hD:doS ⟨1,ks,vs⟩ ⟨3,ob,oc,od⟩=(⟨1,ks,vs⟩,0,false):=by
    unfold doS;rw [if_neg (by simp [h1,ofK])];simp [hh]
   rw [hD];rw [hh] at hc;refine aj en.h rfl ?_
   repeat refine aw ?_
   refine aX ⟨[(6,.d (.bool false)),(5,.d (I 0)),(4,.ptr 2 0)],[(2,.var [.d (I 1),.d (ae ks),.d (ae vs)])],3,[],0⟩ ?_ ?_
   ·repeat refine aw ?_
    refine bG _ qU.h.body rfl hc ?_
    repeat refine aw ?_
    exact ai (.inl ⟨rfl,by exact Uw.wM⟩)
   repeat refine aw ?_
   exact ag rfl rfl rfl rfl rfl
 by_cases k4:oa=4
 ·subst k4
  obtain rfl:k=2:=h2.symm;have hc:=G1 2 ks vs 4 ob oc od hv;have hD:doS ⟨2,ks,vs⟩ ⟨4,ob,oc,od⟩=(⟨2,[],oc::vs⟩,0,true):=by
   unfold doS;rw [if_neg (by simp [h1,ofK])];rfl
  rw [hD];refine Ret.res (r:=.tuple [.agg [I 2,.nil,ae (oc::vs)],I 0,.bool true]) ?_ (.tuple (.cons (.agg (.cons (.refl _) (.cons (.nil _) (.refl _)))) (.refl _)));refine aj en.h rfl ?_
  repeat refine aw ?_
  refine aX ⟨[(6,.d (.bool true)),(5,.d (I 0)),(4,.ptr 2 0)],[(2,.var [.d (I 2),.d .nil,.d (ae (oc::vs))])],3,[],0⟩ ?_ ?_
  ·repeat refine aw ?_
   refine bG _ yc.h.body rfl hc ?_
   repeat refine aw ?_
   exact ai (.inl ⟨rfl,by exact Uw.wM⟩)
  repeat refine aw ?_
  exact ag rfl rfl rfl rfl rfl
 by_cases k6:oa=6
 ·subst k6
  obtain rfl:k=3:=h2.symm;have hc:=G2 3 ks vs 6 ob oc od hv;have hD:doS ⟨3,ks,vs⟩ ⟨6,ob,oc,od⟩=(⟨3,[],vs++[oc]⟩,0,true):=by
   unfold doS;rw [if_neg (by simp [h1,ofK])];rfl
  rw [hD];refine Ret.res (r:=.tuple [.agg [I 3,.nil,ae (vs++[oc])],I 0,.bool true]) ?_ (.tuple (.cons (.agg (.cons (.refl _) (.cons (.nil _) (.refl _)))) (.refl _)));refine aj en.h rfl ?_
  repeat refine aw ?_
  refine aX ⟨[(6,.d (.bool true)),(5,.d (I 0)),(4,.ptr 2 0)],[(2,.var [.d (I 3),.d .nil,.d (ae (vs++[oc]))])],3,[],0⟩ ?_ ?_
  ·repeat refine aw ?_
   refine bG _ yd.h.body rfl hc ?_
   repeat refine aw ?_
   exact ai (.inl ⟨rfl,by exact Uw.wM⟩)
  repeat refine aw ?_
  exact ag rfl rfl rfl rfl rfl
 have hk:oa=5\/oa=7:=by
  have hne:ofK oa≠0:=fun e=>by
   rw [<- h2,e] at h1;simp [dK] at h1
  by_cases e5:oa=5
  ·exact .inl e5
  by_cases e7:oa=7
  ·exact .inr e7
  exact absurd (by simp [ofK,k1,k2,k3,k4,e5,k6,e7]) hne
 rcases hk with rfl|rfl
 ·obtain rfl:k=2:=h2.symm
  have hc:=wd 2 ks vs 5 ob oc od hv
  cases vs with
  | nil=>
   have hD:doS ⟨2,ks,[]⟩ ⟨5,ob,oc,od⟩=(⟨2,ks,[]⟩,0,false):=by
    unfold doS;rw [if_neg (by simp [h1,ofK])];rfl
   rw [hD];refine aj en.h rfl ?_
   repeat refine aw ?_
   refine aX ⟨[(6,.d (.bool false)),(5,.d (I 0)),(4,.ptr 2 0)],[(2,.var [.d (I 2),.d (ae ks),.d (ae [])])],3,[],0⟩ ?_ ?_
   ·repeat refine aw ?_
    refine bG _ gG.h.body rfl hc ?_
    repeat refine aw ?_
    exact ai (.inl ⟨rfl,by exact Uw.wM⟩)
   repeat refine aw ?_
   exact ag rfl rfl rfl rfl rfl
  | cons v r=>
   have hD:doS ⟨2,ks,v::r⟩ ⟨5,ob,oc,od⟩=(⟨2,[],r⟩,v,true):=by
    unfold doS;rw [if_neg (by simp [h1,ofK])];rfl
   rw [hD];refine Ret.res (r:=.tuple [.agg [I 2,.nil,ae r],I v,.bool true]) ?_ (.tuple (.cons (.agg (.cons (.refl _) (.cons (.nil _) (.refl _)))) (.refl _)));refine aj en.h rfl ?_
   repeat refine aw ?_
   refine aX ⟨[(6,.d (.bool true)),(5,.d (I v)),(4,.ptr 2 0)],[(2,.var [.d (I 2),.d .nil,.d (ae r)])],3,[],0⟩ ?_ ?_
   ·repeat refine aw ?_
    refine bG _ gG.h.body rfl hc ?_
    repeat refine aw ?_
    exact ai (.inl ⟨rfl,by exact Uw.wM⟩)
   repeat refine aw ?_
   exact ag rfl rfl rfl rfl rfl
 ·obtain rfl:k=3:=h2.symm
  have hc:=wd 3 ks vs 7 ob oc od hv
  cases vs with
  | nil=>
   have hD:doS ⟨3,ks,[]⟩ ⟨7,ob,oc,od⟩=(⟨3,ks,[]⟩,0,false):=by
    unfold doS;rw [if_neg (by simp [h1,ofK])];rfl
   rw [hD];refine aj en.h rfl ?_
   repeat refine aw ?_
   refine aX ⟨[(6,.d (.bool false)),(5,.d (I 0)),(4,.ptr 2 0)],[(2,.var [.d (I 3),.d (ae ks),.d (ae [])])],3,[],0⟩ ?_ ?_
   ·repeat refine aw ?_
    refine bG _ gG.h.body rfl hc ?_
    repeat refine aw ?_
    exact ai (.inl ⟨rfl,by exact Uw.wM⟩)
   repeat refine aw ?_
   exact ag rfl rfl rfl rfl rfl
  | cons v r=>
   have hD:doS ⟨3,ks,v::r⟩ ⟨7,ob,oc,od⟩=(⟨3,[],r⟩,v,true):=by
    unfold doS;rw [if_neg (by simp [h1,ofK])];rfl
   rw [hD];refine Ret.res (r:=.tuple [.agg [I 3,.nil,ae r],I v,.bool true]) ?_ (.tuple (.cons (.agg (.cons (.refl _) (.cons (.nil _) (.refl _)))) (.refl _)));refine aj en.h rfl ?_
   repeat refine aw ?_
   refine aX ⟨[(6,.d (.bool true)),(5,.d (I v)),(4,.ptr 2 0)],[(2,.var [.d (I 3),.d .nil,.d (ae r)])],3,[],0⟩ ?_ ?_
   ·repeat refine aw ?_
    refine bG _ gG.h.body rfl hc ?_
    repeat refine aw ?_
    exact ai (.inl ⟨rfl,by exact Uw.wM⟩)
   repeat refine aw ?_
   exact ag rfl rfl rfl rfl rfl
end Uw.Tryz
namespace Uw.Tryz.Vm
open Go Uw Uw.Tryz
structure Frame where
 task:Int
 path:List Int
 fn:Int
 pc:Int
 loc:List Int
 stack:List Int
 kids:List (Int×Int)
 many:Int
 spent:Int
 fail:Bool
structure Ask where
 kind:Int
 a:Int
 b:Int
 op:Int×Int×Int×Int
 args:List Int
def fL (k:Int×Int):List Dat:=[I k.1,I k.2]
def bS (f:Frame):Dat:=.agg [I f.task,ae f.path,I f.fn,I f.pc,ae f.loc,ae f.stack,.slice 2 (f.kids.map fL) false,I f.many,I f.spent,.bool f.fail]
theorem s25 (n b:Int):Ret P0 zK [I n,I b] (.bool (decide (0<=n)&&decide (n<b))):=by
 refine aj IA.h rfl ?_;refine bz (fun h=>?_) (fun h=>?_)
 ·refine ah rfl ?_
  refine ag rfl rfl rfl rfl ?_;simp at h;simp [h,fV]
 ·refine aR rfl ?_
  refine ag rfl rfl rfl rfl ?_;simp at h;simp [fV];omega
def isVal (n:Int):Bool:=decide (0<=n)&&decide (n<4294967296)
def below (n b:Int):Bool:=decide (0<=n)&&decide (n<b)
def dest (n l:Int):Bool:=decide (n = -1)||below n l
theorem s38 (n:Int):Ret P0 zP [I n] (.bool (isVal n)):=by
 refine aj IJ.h rfl ?_;refine aK _ (s25 _ _) ?_;exact ag rfl rfl rfl rfl rfl
theorem s37 (n b:Int):Ret P0 CZ [I n,I b] (.bool (dest n b)):=by
 refine aj K6.h rfl ?_;refine bz (fun h=>?_) (fun h=>?_)
 ·simp at h
  refine aK _ (s25 _ _) ?_;refine aR rfl ?_;exact ag rfl rfl rfl rfl (by simp [fV,dest,below,h])
 ·simp at h
  refine ah rfl ?_;exact ag rfl rfl rfl rfl (by simp [fV,dest,h])
theorem we {α:Type} (p:α->Bool) (l:List α) (k:Nat) (h:k<l.length):(l.take (k+1)).all p=((l.take k).all p&&p l[k]):=by
 rw [Zg h,aaY];simp
theorem s26 (l:List Int) (hl:l.length<1000000):Ret P0 yb [ae l] (.bool (l.all isVal)):=by
 refine aj Gn.h rfl ?_;refine cX (fun k:Int=>⟨[(5,.d (ae l)),(6,.d (.int .i64 (l.map fun n=>[Dat.int .i64 n]).length)),(7,.d (.int .i64 k))],[],0,[],0⟩)
  (fun k=>0<=k/\k<=l.length/\(l.take k.toNat).all isVal=true) (fun k=>(l.length - k).toNat) 0 ?_ ⟨by omega,by omega,by simp⟩ ?_
 ·exact Weak.of ⟨⟨_,rfl,.inl ⟨rfl,rfl⟩⟩,⟨_,rfl,.inl ⟨rfl,rfl⟩⟩,⟨_,rfl,.inl ⟨rfl,rfl⟩⟩,trivial⟩ trivial rfl rfl trivial rfl rfl
 ·rintro k ⟨h0,h1,hall⟩
  refine bz (fun h=>?_) (fun h=>?_)
  ·simp at h
   refine ah (by simp;omega) ?_;refine au [.int .i64 l[k.toNat]] (by simp) ?_;refine aK _ (s38 _) ?_;refine bz (fun h2=>?_) (fun h2=>?_)
   ·refine aW ?_
    refine ag rfl rfl rfl rfl ?_;simp at h2;simp only [fV]
    congr 1
    symm
    rw [Z9];exact ⟨l[k.toNat],YX _,by simp [h2]⟩
   ·refine ah (by simp [inR];omega) ?_
    refine aN (k+1) ⟨by omega,by omega,?_⟩ (by omega) (Weak.of ⟨⟨_,rfl,.inl ⟨rfl,rfl⟩⟩,⟨_,rfl,.inl ⟨rfl,rfl⟩⟩,⟨_,rfl,.inl ⟨rfl,rfl⟩⟩,trivial⟩ trivial rfl rfl trivial rfl rfl);rw [show (k+1).toNat=k.toNat+1 by omega,we isVal l k.toNat (by omega),hall];simpa using h2
  ·refine aS ?_
   simp at h;refine ag rfl rfl rfl rfl ?_;rw [i5 (by omega)] at hall;rw [hall];rfl
def wh (b:Int) (k:Int×Int):Bool:=decide (1<=k.1)&&dest k.2 b
def dm (c:Cd) (f:Frame):Bd:=c.am.getD f.fn.toNat ⟨0,0,[]⟩
def right (c:Cd) (f:Frame):Bool:=
 !(decide (f.task<1)||!below f.fn c.am.length)&&
 !(!below f.pc ((dm c f).ins.length+1)||!decide ((f.loc.length:Int)=(dm c f).locals)||decide (100<(f.stack.length:Int)))&&
 f.kids.all (wh (dm c f).locals)&&f.loc.all isVal&&f.stack.all isVal&&decide (0<=f.many)&&below f.spent 2001
structure Tiny (c:Cd) (f:Frame):Prop where
 am:c.am.length<1000
 cells:c.cells.length<1000
 ins:∀b∈c.am,b.ins.length<1000
 path:f.path.length<1000
 loc:f.loc.length<1000
 stack:f.stack.length<1000
 kids:f.kids.length<1000
end Uw.Tryz.Vm
namespace Uw.Tryz.Vm
open Go Uw Uw.Tryz
def rows (l:List Int):List (List Dat):=l.map fun n=>[I n]
def ew (l:List (Int×Int)):List (List Dat):=l.map fL
theorem Vo (l:List Int) (hl:l.length<1000):eM P0 de [.d (ae l)] [] (.ref 0 1 0 l.length) [.mt 1 1 (rows l)]:=by
 have hm:(l.map fun i=>[I i]).length=l.length:=by simp
 refine dB jG.h rfl ?_;refine bz (fun h1=>?_) (fun h1=>?_)
 ·have h1:l=[]:=by simpa using h1
  subst h1;refine vh ?_ ?_
  ·refine aw ?_
   exact dc 0 rfl rfl (by exact Uw.wW)
  ·refine aw ?_
   refine aw ?_;refine ah rfl ?_;exact dc 0 rfl rfl (by exact Uw.wW)
 ·refine aw ?_
  refine aw ?_;refine ah (by simp;omega) ?_;exact dc 0 rfl rfl (by exact Uw.wW)
theorem Vp (l:List (Int×Int)) (hl:l.length<1000):eM P0 fG [.d (.slice 2 (l.map fL) false)] [] (.ref 0 1 0 l.length) [.mt 2 1 (ew l)]:=by
 have hm:(l.map fL).length=l.length:=by simp
 refine dB lR.h rfl ?_;refine bz (fun h1=>?_) (fun h1=>?_)
 ·have h1:l=[]:=by simpa using h1
  subst h1;refine vh ?_ ?_
  ·refine aw ?_
   exact dc 0 rfl rfl (by exact Uw.wW)
  ·refine aw ?_
   refine aw ?_;refine ah rfl ?_;exact dc 0 rfl rfl (by exact Uw.wW)
 ·refine aw ?_
  refine aw ?_;refine ah (by simp;omega) ?_;exact dc 0 rfl rfl (by exact Uw.wW)
theorem cr (l:List Int) (hl:l.length<1000) (h:Heap) (nx:Nat):bN P0 de [.d (ae l)] h nx (fun r h' nx'=>r = .val (.ref nx 1 0 l.length)/\h' = (nx,.mt 1 1 (rows l))::h/\nx' = nx+1):=by
 refine bN.mono ((Vo l hl).frame [] (Ls _) (by simp) (by simp) (by simp [aM,look]) ⟨.inl ⟨rfl,rfl⟩,trivial⟩) ?_;rintro r h' nx' ⟨_,_,_,⟨rfl,rfl,rfl⟩,rfl,rfl,rfl⟩;exact ⟨rfl,rfl,rfl⟩
theorem nj (l:List (Int×Int)) (hl:l.length<1000) (h:Heap) (nx:Nat):bN P0 fG [.d (.slice 2 (l.map fL) false)] h nx (fun r h' nx'=>r = .val (.ref nx 1 0 l.length)/\h' = (nx,.mt 2 1 (ew l))::h/\nx' = nx+1):=by
 refine bN.mono ((Vp l hl).frame [] (Ls _) (by simp) (by simp) (by simp [aM,look]) ⟨.inl ⟨rfl,rfl⟩,trivial⟩) ?_;rintro r h' nx' ⟨_,_,_,⟨rfl,rfl,rfl⟩,rfl,rfl,rfl⟩;exact ⟨rfl,rfl,rfl⟩
def OZ (f:Frame) (i:Nat):List V:=[.d (I f.task),.ref i 1 0 f.path.length,.d (I f.fn),.d (I f.pc),.ref (i+1) 1 0 f.loc.length,.ref (i+2) 1 0 f.stack.length,.ref (i+3) 1 0 f.kids.length,.d (I f.many),.d (I f.spent),.d (.bool f.fail)]
end Uw.Tryz.Vm
namespace Uw.Tryz.Vm
open Go Uw Uw.Tryz
def aL:List V:=[.d (I 0),.d (I 0),.d (I 0),.d (I 0),.d (I 0),.d (I 0),.d (I 0),.d .nil]
def sM:List V:=[.d (I 0),.d .nil,.d (I 0),.d (I 0),.d .nil,.d .nil,.d .nil,.d (I 0),.d (I 0),.d (.bool false)]
structure LX where
 f:Frame
 xs:List (List Dat)
 n:Nat
 ver:Nat
 ls:List (List Dat)
def frV (x:LX):List V:=[.d (I x.f.task),.ref 6 1 0 x.f.path.length,.d (I x.f.fn),.d (I x.f.pc),.ref 7 1 0 x.f.loc.length,.ref 8 x.ver 0 x.n,.ref 9 1 0 x.f.kids.length,.d (I x.f.many),.d (I x.f.spent),.d (.bool x.f.fail)]
def cV (c:Cd):List V:=(V.bX (cdD c)).cells
def bV (b:Bd):List V:=(bdC b).map V.d
def eO (i:In4):List V:=(in4 i).map V.d
def table:List V:=[.d .nilFunc,.d (.func 84),.d (.func 85),.d (.func 86),.d (.func 87),.d (.func 88),.func 139 [] [.ptr 11 0],.func 139 [] [.ptr 12 0],.func 139 [] [.ptr 13 0],.func 139 [] [.ptr 14 0],.func 139 [] [.ptr 15 0],
 .d (.func 97),.d (.func 98),.d (.func 99),.d (.func 100),.d (.func 101),.d (.func 102),.d (.func 103),.d (.func 104),.func 139 [] [.ptr 16 0]]
def bR (c:Cd) (b:Bd) (f0:Frame) (x:LX) (ask:List V):Heap:=
 [(5,.var (cV c++bV b++frV x++ask)),(6,.mt 1 1 (rows x.f.path)),(7,.mt 1 1 x.ls),(8,.mt 1 x.ver x.xs),(9,.mt 2 1 (ew x.f.kids)),
   (11,.var [.d (.func 90)]),(12,.var [.d (.func 92)]),(13,.var [.d (.func 93)]),(14,.var [.d (.func 94)]),(15,.var [.d (.func 96)]),(16,.var [.d (.func 105)]),(17,.var table),
   (0,.var (cV c)),(1,.var (V.bX (bS f0)).cells),(2,.var sM),(3,.var aL),(4,.var [.d (I 0)])]
def LH (c:Cd) (b:Bd) (f0:Frame) (x:LX) (ask:List V) (i:In4):Heap:=(18,.var (eO i))::bR c b f0 x ask
structure Inv (c:Cd) (b:Bd) (x:LX):Prop where
 pre:x.xs.take x.n=rows x.f.stack
 len:x.n=x.f.stack.length
 le:x.n<=x.xs.length
 loc:x.ls=rows x.f.loc
 deep:x.f.stack.length<=100
 pc0:0<=x.f.pc
 pc1:x.f.pc<1000
 sp0:0<=x.f.spent
 sp1:x.f.spent<2000
 pK:x.f.loc.length<1000
 kids:x.f.kids.length<1000
 ins:b.ins.length<1000
 am:c.am.length<1000
 cells:c.cells.length<1000
def uM:Dat:=.iface 28 (I 1)
def passed (x:LX):LX:={ x with f:={ x.f with pc:=x.f.pc+1,spent:=x.f.spent+1 } }
end Uw.Tryz.Vm
namespace Uw.Tryz.Vm
open Go Uw Uw.Tryz
def H19 (c:Cd) (b:Bd) (f0:Frame) (x:LX) (ask:List V) (i:In4):Heap:=(19,.var (eO i))::LH c b f0 x ask i
theorem aT (p:V) (bb:Bool) (h:Heap) (nx:Nat):bN P0 oQ [p,.d (.bool bb)] h nx (fun r h' nx'=>h' = h/\nx' = nx/\((bb=true/\r = .val (.tuple []))\/(bb=false/\r = .pan uM))):=by
 refine yL df.h rfl ?_
 cases bb with
 | true=>
  refine aR rfl ?_;exact cO rfl rfl ⟨rfl,rfl,.inl ⟨rfl,rfl⟩⟩
 | false=>
  refine ah rfl ?_;exact kO rfl ⟨rfl,rfl,.inr ⟨rfl,rfl⟩⟩
theorem lH {xs:List (List Dat)} {n:Nat} {s:List Int} (h1:xs.take n=rows s) (h2:n=s.length) (h3:n<=xs.length) (h0:0<n):xs[n - 1]? = some [I (s.getLastD 0)]:=by
 have h4:(xs.take n)[n - 1]? = xs[n - 1]?:=by rw [ON,if_pos (by omega)]
 rw [<- h4,h1,rows,Zd];have:s[n - 1]? = some (s.getLastD 0):=by
  subst h2;rw [<- List.getLast?_eq_getElem?,aa6]
  cases s with
  | nil=>simp at h0
  | cons a r=>simp [List.getLast?_cons]
 rw [this];rfl
end Uw.Tryz.Vm
namespace Uw.Tryz.Vm
open Go Uw Uw.Tryz
def yl:List V:=[.d (I 5),.d (I 0),.d (I 0),.d (I 0),.d (I 0),.d (I 0),.d (I 0),.d .nil]
def awaited (f:Frame) (l:Int):Bool:=f.kids.any fun k=>decide (k.2=l)
theorem O1 {α:Type} (p:α->Bool) (l:List α) (k:Nat) (h:k<l.length):(l.take (k+1)).any p=((l.take k).any p||p l[k]):=by
 rw [Zg h,List.any_append];simp
theorem Rx {l:List (Int×Int)} {k m:Nat} (h:k<l.length) (hm:m=k:=by omega):(ew l)[m]? = some (fL l[k]):=by
 subst hm;simp [ew,h]
theorem JW (c:Cd) (b:Bd) (f0:Frame) (x:LX) (i:In4) (l:Int) (hx:Inv c b x) :
  bN P0 o8 [.ptr 5 0,.d (I l)] (H19 c b f0 x aL i) 20 (fun r h' nx'=>nx' = 20/\
   ((below l x.f.loc.length=false/\r = .pan uM/\h' = H19 c b f0 x aL i)\/
     (below l x.f.loc.length=true/\awaited x.f l=true/\r = .val (.d (.bool true))/\h' = H19 c b f0 x yl i)\/
     (below l x.f.loc.length=true/\awaited x.f l=false/\r = .val (.d (.bool false))/\h' = H19 c b f0 x aL i))):=by
 have h5:=hx.pK;have h6:=hx.kids;refine bQ vR.h rfl ?_;refine ct ?_;refine aK _ (s25 _ _) ?_;refine ax (aT _ _ _ _) ?_;rintro _ _ _ ⟨rfl,rfl,⟨hb,rfl⟩|⟨hb,rfl⟩⟩
 ·refine ct ?_
  refine cX (fun k:Int=>⟨[(0,.ptr 5 0),(1,.d (I l)),(21,.ref 9 1 0 x.f.kids.length),(22,.d (I x.f.kids.length)),(23,.d (I k))],H19 c b f0 x aL i,20,[],20⟩)
   (fun k=>0<=k/\k<=x.f.kids.length/\(x.f.kids.take k.toNat).any (fun k=>decide (k.2=l))=false) (fun k=>(x.f.kids.length - k).toNat) 0 ?_ ⟨by omega,by omega,by simp⟩ ?_
  ·exact Weak.eqs [] (by kernel_rfl) (by kernel_rfl) (by kernel_rfl) (by kernel_rfl) (by kernel_rfl) (by kernel_rfl) (by kernel_rfl) (by kernel_rfl) (by kernel_rfl) (by kernel_rfl)
  ·rintro k ⟨h0,h1,hall⟩
   refine bz (fun h=>?_) (fun h=>?_)
   ·simp at h
    refine ct ?_;refine ah (by simp;omega) ?_;refine ct ?_;refine au (fL x.f.kids[k.toNat]) (Rx (by omega)) ?_;refine bz (fun h2=>?_) (fun h2=>?_)
    ·refine aW ?_
     refine ai ⟨⟨[(4,.d (.bool true))],H19 c b f0 x yl i,20,[],20⟩,.inr ?_,rfl,_,rfl,rfl,.inr (.inl ⟨hb,?_,rfl,rfl⟩)⟩
     ·exact Weak.eqs [] (by kernel_rfl) (by kernel_rfl) (by kernel_rfl) (by kernel_rfl) (by kernel_rfl) (by kernel_rfl) (by kernel_rfl) (by kernel_rfl) (by kernel_rfl) (by kernel_rfl)
     ·simp at h2
      exact aad.2 ⟨x.f.kids[k.toNat],YX _,by simp [h2]⟩
    ·refine ah (by simp [inR];omega) ?_
     refine aN (k+1) ⟨by omega,by omega,?_⟩ (by omega) ?_
     ·rw [show (k+1).toNat=k.toNat+1 by omega,O1 _ _ k.toNat (by omega),hall]
      simpa [fL] using h2
     ·exact Weak.eqs [] (by kernel_rfl) (by kernel_rfl) (by kernel_rfl) (by kernel_rfl) (by kernel_rfl) (by kernel_rfl) (by kernel_rfl) (by kernel_rfl) (by kernel_rfl) (by kernel_rfl)
   ·refine aS ?_
    simp at h;refine ai ⟨⟨[(4,.d (.bool false))],H19 c b f0 x aL i,20,[],20⟩,.inr ?_,rfl,_,rfl,rfl,.inr (.inr ⟨hb,?_,rfl,rfl⟩)⟩
    ·exact Weak.eqs [] (by kernel_rfl) (by kernel_rfl) (by kernel_rfl) (by kernel_rfl) (by kernel_rfl) (by kernel_rfl) (by kernel_rfl) (by kernel_rfl) (by kernel_rfl) (by kernel_rfl)
    ·rw [i5 (by omega)] at hall
     exact hall
 ·refine ai ⟨⟨[],H19 c b f0 x aL i,20,[],20⟩,.inr ?_,rfl,rfl,.inl ⟨hb,rfl,rfl⟩⟩
  exact Weak.eqs [] (by kernel_rfl) (by kernel_rfl) (by kernel_rfl) (by kernel_rfl) (by kernel_rfl) (by kernel_rfl) (by kernel_rfl) (by kernel_rfl) (by kernel_rfl) (by kernel_rfl)
end Uw.Tryz.Vm
namespace Uw.Tryz.Vm
open Go Uw Uw.Tryz
def pushed (x:LX) (v:Int):LX:={ x with xs:=x.xs.take x.n++[[I v]],n:=x.n+1,ver:=x.ver+1 }
def qX (x:LX) (to:Int):LX:={ x with f:={ x.f with pc:=to,spent:=x.f.spent+1 } }
def popped (x:LX):LX:={ x with n:=((x.n:Int) - 1 - 0).toNat }
theorem WM (c:Cd) (b:Bd) (f0:Frame) (x:LX) (i:In4) (v:Int) (h1:x.n<=x.xs.length) :
  bN P0 qg [.ptr 5 0,.d (I v)] (H19 c b f0 x aL i) 20 (fun r h' nx'=>nx' = 20/\((x.n<100/\r = .val (.tuple [])/\h' = H19 c b f0 (pushed x v) aL i)\/(¬x.n<100/\r = .pan uM/\h' = H19 c b f0 x aL i))):=by
 refine bQ dA.h rfl ?_;refine ct ?_;refine ax (aT _ _ _ _) ?_;rintro _ _ _ ⟨rfl,rfl,⟨hb,rfl⟩|⟨hb,rfl⟩⟩
 ·simp at hb
  refine ct ?_;refine ah (by simp;omega) ?_;refine ai ⟨⟨[],H19 c b f0 (pushed x v) aL i,20,[],20⟩,.inr ?_,rfl,[],rfl,rfl,.inl ⟨by omega,rfl,rfl⟩⟩;exact Weak.eqs [] (by kernel_rfl) (by kernel_rfl) (by kernel_rfl) (by kernel_rfl) (by kernel_rfl) (by kernel_rfl) (by kernel_rfl) (by kernel_rfl) (by kernel_rfl) (by kernel_rfl)
 ·simp at hb
  refine ai ⟨⟨[],H19 c b f0 x aL i,20,[],20⟩,.inr ?_,rfl,rfl,.inr ⟨by omega,rfl,rfl⟩⟩;exact Weak.eqs [] (by kernel_rfl) (by kernel_rfl) (by kernel_rfl) (by kernel_rfl) (by kernel_rfl) (by kernel_rfl) (by kernel_rfl) (by kernel_rfl) (by kernel_rfl) (by kernel_rfl)
theorem O2 (c:Cd) (b:Bd) (f0:Frame) (x:LX) (i:In4) (to:Int) (h3:0<=x.f.spent) (h4:x.f.spent<2000) :
  bN P0 pa [.ptr 5 0,.d (I to)] (H19 c b f0 x aL i) 20 (fun r h' nx'=>nx' = 20/\r = .val (.tuple [])/\h' = H19 c b f0 (qX x to) aL i):=by
 refine bQ di.h rfl ?_;refine ah (by simp [inR];omega) ?_;refine ai ⟨⟨[],H19 c b f0 (qX x to) aL i,20,[],20⟩,.inr ?_,rfl,[],rfl,rfl,rfl,rfl⟩;exact Weak.eqs [] (by kernel_rfl) (by kernel_rfl) (by kernel_rfl) (by kernel_rfl) (by kernel_rfl) (by kernel_rfl) (by kernel_rfl) (by kernel_rfl) (by kernel_rfl) (by kernel_rfl)
theorem mS (c:Cd) (b:Bd) (f0:Frame) (x:LX) (i:In4) (h1:0<=x.f.pc) (h2:x.f.pc<1000) (h3:0<=x.f.spent) (h4:x.f.spent<2000) :
  bN P0 o7 [.ptr 5 0] (H19 c b f0 x aL i) 20 (fun r h' nx'=>nx' = 20/\r = .val (.tuple [])/\h' = H19 c b f0 (passed x) aL i):=by
 refine bQ dh.h rfl ?_;refine ah (by simp [inR];omega) ?_;refine ax (O2 c b f0 x i _ h3 h4) ?_;rintro _ _ _ ⟨rfl,rfl,rfl⟩;refine ai ⟨⟨[],H19 c b f0 (passed x) aL i,20,[],20⟩,.inr ?_,rfl,[],rfl,rfl,rfl,rfl⟩;exact Weak.eqs [] (by kernel_rfl) (by kernel_rfl) (by kernel_rfl) (by kernel_rfl) (by kernel_rfl) (by kernel_rfl) (by kernel_rfl) (by kernel_rfl) (by kernel_rfl) (by kernel_rfl)
theorem Lq (c:Cd) (b:Bd) (f0:Frame) (x:LX) (i:In4) (hx:Inv c b x) :
  bN P0 qh [.ptr 5 0] (H19 c b f0 x aL i) 20 (fun r h' nx'=>nx' = 20/\((0<x.n/\r = .val (.d (I (x.f.stack.getLastD 0)))/\h' = H19 c b f0 (popped x) aL i)\/(x.n=0/\r = .pan uM/\h' = H19 c b f0 x aL i))):=by
 have h5:=hx.deep;have h6:=hx.len;have h7:=hx.le;refine bQ xg.h rfl ?_;refine bK ci.h rfl ?_;refine ct ?_;refine ax (aT _ _ _ _) ?_;rintro _ _ _ ⟨rfl,rfl,⟨hb,rfl⟩|⟨hb,rfl⟩⟩
 ·simp at hb
  refine ct ?_;refine ah (by simp [inR];omega) ?_;refine ct ?_;refine ah (by simp;omega) ?_;refine ct ?_;refine ah (by simp;omega) ?_;refine ct ?_;refine ah (by simp;omega) ?_;refine dN rfl rfl ?_;refine ah rfl ?_;refine ah (by simp;omega) ?_;refine ah rfl ?_;refine au [I (x.f.stack.getLastD 0)] (by simp only [ON,Y1];rw [if_pos (by omega),show 0+((x.n:Int) - 1).toNat+(0+(0:Int).toNat)=x.n - 1 by omega];exact lH hx.pre hx.len hx.le (by omega)) ?_;refine ai ⟨⟨[(2,.d (I (x.f.stack.getLastD 0)))],H19 c b f0 (popped x) aL i,20,[],20⟩,.inr ?_,rfl,_,rfl,rfl,.inl ⟨by omega,rfl,rfl⟩⟩;exact Weak.eqs [] (by kernel_rfl) (by kernel_rfl) (by kernel_rfl) (by kernel_rfl) (by kernel_rfl) (by kernel_rfl) (by kernel_rfl) (by kernel_rfl) (by kernel_rfl) (by kernel_rfl)
 ·simp at hb
  refine kO rfl ?_;refine ai ⟨⟨[],H19 c b f0 x aL i,20,[],20⟩,.inr ?_,rfl,rfl,.inr ⟨by omega,rfl,rfl⟩⟩;exact Weak.eqs [] (by kernel_rfl) (by kernel_rfl) (by kernel_rfl) (by kernel_rfl) (by kernel_rfl) (by kernel_rfl) (by kernel_rfl) (by kernel_rfl) (by kernel_rfl) (by kernel_rfl)
end Uw.Tryz.Vm
namespace Uw.Tryz.Vm
open Go Uw Uw.Tryz
structure Mid (c:Cd) (b:Bd) (x:LX):Prop where
 pre:x.xs.take x.n=rows x.f.stack
 len:x.n=x.f.stack.length
 le:x.n<=x.xs.length
 loc:x.ls=rows x.f.loc
 deep:x.f.stack.length<=100
 pc0:0<=x.f.pc
 pc1:x.f.pc<=1000
 sp0:0<=x.f.spent
 sp1:x.f.spent<=2000
 pK:x.f.loc.length<1000
 kids:x.f.kids.length<1000
def aI:Ask:=⟨0,0,0,(0,0,0,0),[]⟩
def yC (a:Ask):List V:=[.d (I a.kind),.d (I a.a),.d (I a.b),.d (I a.op.1),.d (I a.op.2.1),.d (I a.op.2.2.1),.d (I a.op.2.2.2),.d .nil]
def Done (c:Cd) (b:Bd) (f0:Frame) (i:In4) (s:Option (Frame×Ask)) (r:Res) (h' : Heap) (nx' : Nat):Prop:=
 match s with
 | none=>nx' = 19/\r = .pan uM/\∃y ask,h' = LH c b f0 y ask i
 | some (g,a)=>nx' = 19/\r = .val (.tuple [])/\∃y,y.f=g/\Mid c b y/\h' = LH c b f0 y (yC a) i
def pass (f:Frame) (to:Int):Frame:={ f with pc:=to,spent:=f.spent+1 }
def next (f:Frame):Frame:=pass f (f.pc+1)
def ox (f:Frame) (v:Int):Frame:={ f with stack:=f.stack++[v] }
def ep (f:Frame):Frame:={ f with stack:=f.stack.dropLast }
def cy (f:Frame):Int:=f.stack.getLastD 0
theorem Inv.mid {c:Cd} {b:Bd} {x:LX} (h:Inv c b x):Mid c b x:=⟨h.pre,h.len,h.le,h.loc,h.deep,h.pc0,by have:=h.pc1;omega,h.sp0,by have:=h.sp1;omega,h.pK,h.kids⟩
theorem Mid.go {c:Cd} {b:Bd} {x:LX} (h:Inv c b x) (to:Int) (h0:0<=to) (h1:to<=1000):Mid c b (qX x to):=
 ⟨h.pre,h.len,h.le,h.loc,h.deep,h0,h1,by have:=h.sp0;simp [qX];omega,by have:=h.sp1;simp [qX];omega,h.pK,h.kids⟩
theorem ym (a b:List Int):rows (a++b)=rows a++rows b:=by simp [rows]
def j6 (x:LX) (v:Int):LX:={ pushed x v with f:=ox x.f v }
def br (x:LX):LX:={ popped x with f:=ep x.f }
theorem Inv.push {c:Cd} {b:Bd} {x:LX} (h:Inv c b x) (v:Int) (hn:x.n<100):Inv c b (j6 x v):=by
 have h1:=h.len;have h2:=h.le;refine ⟨?_,?_,?_,h.loc,?_,h.pc0,h.pc1,h.sp0,h.sp1,h.pK,h.kids,h.ins,h.am,h.cells⟩
 ·simp only [j6,pushed,ox,ym]
  rw [i5 (by simp;omega),h.pre];rfl
 ·simp [j6,pushed,ox];omega
 ·simp [j6,pushed];omega
 ·simp [j6,ox];omega
theorem Inv.pop {c:Cd} {b:Bd} {x:LX} (h:Inv c b x) (hn:0<x.n):Inv c b (br x):=by
 have h1:=h.len;have h2:=h.le;have h3:=h.deep;have e:((x.n:Int) - 1 - 0).toNat=x.n - 1:=by omega
 refine ⟨?_,?_,?_,h.loc,?_,h.pc0,h.pc1,h.sp0,h.sp1,h.pK,h.kids,h.ins,h.am,h.cells⟩
 ·simp only [br,popped,ep,e]
  have:x.xs.take (x.n - 1)=(x.xs.take x.n).take (x.n - 1):=by rw [aaC,Nat.min_eq_left (by omega)]
  rw [this,h.pre,List.dropLast_eq_take,rows,rows,List.map_take,h1]
 ·simp [br,popped,ep];omega
 ·simp [br,popped];omega
 ·simp [br,ep];omega
theorem xq {l:List Int} {k m:Nat} (h:k<l.length) (hm:m=k):(rows l)[m]? = some [I (l.getD k 0)]:=by
 subst hm;simp [rows,h]
def fM (f:Frame) (i:In4):Option (Frame×Ask):=
 if below i.a f.loc.length then
  if awaited f i.a then some (f,{ aI with kind:=5 })
  else if f.stack.length<100 then some (next (ox f (f.loc.getD i.a.toNat 0)),aI) else none
 else none
theorem Ry (c:Cd) (b:Bd) (f0:Frame) (x:LX) (i:In4) (hx:Inv c b x) :
  bN P0 zL [.ptr 5 0,.agg (eO i)] (LH c b f0 x aL i) 19 (Done c b f0 i (fM x.f i)):=by
 have h6:=hx.len;refine bQ IE.h rfl ?_;refine ax (JW c b f0 x i i.a hx) ?_;rintro _ _ _ ⟨rfl,⟨hb,rfl,rfl⟩|⟨hb,ha,rfl,rfl⟩|⟨hb,ha,rfl,rfl⟩⟩
 ·have hs:fM x.f i=none:=by simp [fM,hb]
  refine ai ⟨⟨[],LH c b f0 x aL i,19,[],19⟩,.inr ?_,rfl,?_⟩
  ·exact Weak.eqs [] (by kernel_rfl) (by kernel_rfl) (by kernel_rfl) (by kernel_rfl) (by kernel_rfl) (by kernel_rfl) (by kernel_rfl) (by kernel_rfl) (by kernel_rfl) (by kernel_rfl)
  ·rw [hs];exact ⟨rfl,rfl,_,_,rfl⟩
 ·have hs:fM x.f i=some (x.f,{ aI with kind:=5 }):=by simp [fM,hb,ha]
  refine ah rfl ?_;refine ai ⟨⟨[],LH c b f0 x yl i,19,[],19⟩,.inr ?_,rfl,[],rfl,?_⟩
  ·exact Weak.eqs [] (by kernel_rfl) (by kernel_rfl) (by kernel_rfl) (by kernel_rfl) (by kernel_rfl) (by kernel_rfl) (by kernel_rfl) (by kernel_rfl) (by kernel_rfl) (by kernel_rfl)
  ·rw [hs];exact ⟨rfl,rfl,x,rfl,hx.mid,rfl⟩
 ·have hb' : 0<=i.a/\i.a<x.f.loc.length:=by simpa [below] using hb
  have hlt:i.a.toNat<x.f.loc.length:=by omega
  refine aR rfl ?_;refine ct ?_;refine ah (by simp;omega) ?_;refine ct ?_;refine au [I (x.f.loc.getD i.a.toNat 0)] (by rw [hx.loc];exact xq hlt (by omega)) ?_;refine ax (WM c b f0 x i _ hx.le) ?_;rintro _ _ _ ⟨rfl,⟨hn,rfl,rfl⟩|⟨hn,rfl,rfl⟩⟩
  ·have hs:fM x.f i=some (next (ox x.f (x.f.loc.getD i.a.toNat 0)),aI):=by simp [fM,hb,ha];omega
   have hy:=hx.push (x.f.loc.getD i.a.toNat 0) hn;refine ax (mS c b f0 (j6 x (x.f.loc.getD i.a.toNat 0)) i hy.pc0 hy.pc1 hy.sp0 hy.sp1) ?_;rintro _ _ _ ⟨rfl,rfl,rfl⟩;refine ai ⟨⟨[],LH c b f0 (passed (j6 x (x.f.loc.getD i.a.toNat 0))) aL i,19,[],19⟩,.inr ?_,rfl,[],rfl,?_⟩
   ·exact Weak.eqs [] (by kernel_rfl) (by kernel_rfl) (by kernel_rfl) (by kernel_rfl) (by kernel_rfl) (by kernel_rfl) (by kernel_rfl) (by kernel_rfl) (by kernel_rfl) (by kernel_rfl)
   ·rw [hs];exact ⟨rfl,rfl,_,rfl,Mid.go hy _ (by have:=hy.pc0;omega) (by have:=hy.pc1;omega),rfl⟩
  ·have hs:fM x.f i=none:=by simp [fM,hb,ha];omega
   refine ai ⟨⟨[],LH c b f0 x aL i,19,[],19⟩,.inr ?_,rfl,?_⟩
   ·exact Weak.eqs [] (by kernel_rfl) (by kernel_rfl) (by kernel_rfl) (by kernel_rfl) (by kernel_rfl) (by kernel_rfl) (by kernel_rfl) (by kernel_rfl) (by kernel_rfl) (by kernel_rfl)
   ·rw [hs];exact ⟨rfl,rfl,_,_,rfl⟩
end Uw.Tryz.Vm
namespace Uw.Tryz.Vm
open Go Uw Uw.Tryz
theorem s9 {c:Cd} {b:Bd} {x:LX} (hx:Inv c b x):(x.n=0)=(x.f.stack=[]):=by
 rw [hx.len,List.length_eq_zero_iff]
theorem JY (c:Cd) (b:Bd) (f0:Frame) (x:LX) (i:In4) (hx:Inv c b x) :
  bN P0 o9 [.ptr 5 0] (H19 c b f0 x aL i) 20 (fun r h' nx'=>nx' = 20/\
   ((x.f.kids=[]/\r = .val (.d (.bool false))/\h' = H19 c b f0 x aL i)\/(x.f.kids≠[]/\r = .val (.d (.bool true))/\h' = H19 c b f0 x yl i))):=by
 have h5:=hx.kids;refine bQ vT.h rfl ?_;refine ct ?_;refine bz (fun h=>?_) (fun h=>?_)
 ·simp at h
  refine ai ⟨⟨[(2,.d (.bool false))],H19 c b f0 x aL i,20,[],20⟩,.inr ?_,rfl,_,rfl,rfl,.inl ⟨h,rfl,rfl⟩⟩;exact Weak.eqs [] (by kernel_rfl) (by kernel_rfl) (by kernel_rfl) (by kernel_rfl) (by kernel_rfl) (by kernel_rfl) (by kernel_rfl) (by kernel_rfl) (by kernel_rfl) (by kernel_rfl)
 ·simp at h
  refine ai ⟨⟨[(2,.d (.bool true))],H19 c b f0 x yl i,20,[],20⟩,.inr ?_,rfl,_,rfl,rfl,.inr ⟨h,rfl,rfl⟩⟩;exact Weak.eqs [] (by kernel_rfl) (by kernel_rfl) (by kernel_rfl) (by kernel_rfl) (by kernel_rfl) (by kernel_rfl) (by kernel_rfl) (by kernel_rfl) (by kernel_rfl) (by kernel_rfl)
theorem G3 (c:Cd) (b:Bd) (f0:Frame) (x:LX) (i:In4) (to:Int) (hx:Inv c b x) :
  bN P0 nS [.ptr 5 0,.d (I to)] (H19 c b f0 x aL i) 20 (fun r h' nx'=>nx' = 20/\h' = H19 c b f0 x aL i/\
   ((below to b.ins.length=true/\r = .val (.d (I to)))\/(below to b.ins.length=false/\r = .pan uM))):=by
 have h5:=hx.ins;refine bQ uJ.h rfl ?_;refine aK _ (s25 _ _) ?_;refine ax (aT _ _ _ _) ?_;rintro _ _ _ ⟨rfl,rfl,⟨hb,rfl⟩|⟨hb,rfl⟩⟩
 ·refine ai ⟨⟨[(4,.d (I to))],H19 c b f0 x aL i,20,[],20⟩,.inr ?_,rfl,_,rfl,rfl,rfl,.inl ⟨by simpa [below] using hb,rfl⟩⟩
  exact Weak.eqs [] (by kernel_rfl) (by kernel_rfl) (by kernel_rfl) (by kernel_rfl) (by kernel_rfl) (by kernel_rfl) (by kernel_rfl) (by kernel_rfl) (by kernel_rfl) (by kernel_rfl)
 ·refine ai ⟨⟨[],H19 c b f0 x aL i,20,[],20⟩,.inr ?_,rfl,rfl,rfl,.inr ⟨by simpa [below] using hb,rfl⟩⟩
  exact Weak.eqs [] (by kernel_rfl) (by kernel_rfl) (by kernel_rfl) (by kernel_rfl) (by kernel_rfl) (by kernel_rfl) (by kernel_rfl) (by kernel_rfl) (by kernel_rfl) (by kernel_rfl)
def kt (f:Frame) (i:In4):Option (Frame×Ask):=if isVal i.a=true/\f.stack.length<100 then some (next (ox f i.a),aI) else none
theorem Rz (c:Cd) (b:Bd) (f0:Frame) (x:LX) (i:In4) (hx:Inv c b x) :
  bN P0 C0 [.ptr 5 0,.agg (eO i)] (LH c b f0 x aL i) 19 (Done c b f0 i (kt x.f i)):=by
 have h6:=hx.len;refine bQ K7.h rfl ?_;refine aK _ (s38 _) ?_;refine ax (aT _ _ _ _) ?_;rintro _ _ _ ⟨rfl,rfl,⟨hb,rfl⟩|⟨hb,rfl⟩⟩
 ·refine ax (WM c b f0 x i _ hx.le) ?_
  rintro _ _ _ ⟨rfl,⟨hn,rfl,rfl⟩|⟨hn,rfl,rfl⟩⟩
  ·have hs:kt x.f i=some (next (ox x.f i.a),aI):=by simp [kt,hb];omega
   have hy:=hx.push i.a hn;refine ax (mS c b f0 (j6 x i.a) i hy.pc0 hy.pc1 hy.sp0 hy.sp1) ?_;rintro _ _ _ ⟨rfl,rfl,rfl⟩;refine ai ⟨⟨[],LH c b f0 (passed (j6 x i.a)) aL i,19,[],19⟩,.inr ?_,rfl,[],rfl,?_⟩
   ·exact Weak.eqs [] (by kernel_rfl) (by kernel_rfl) (by kernel_rfl) (by kernel_rfl) (by kernel_rfl) (by kernel_rfl) (by kernel_rfl) (by kernel_rfl) (by kernel_rfl) (by kernel_rfl)
   ·rw [hs];exact ⟨rfl,rfl,(passed (j6 x i.a)),rfl,Mid.go hy _ (by have:=hy.pc0;omega) (by have:=hy.pc1;omega),rfl⟩
  ·have hs:kt x.f i=none:=by simp [kt,hb];omega
   refine ai ⟨⟨[],LH c b f0 x aL i,19,[],19⟩,.inr ?_,rfl,?_⟩
   ·exact Weak.eqs [] (by kernel_rfl) (by kernel_rfl) (by kernel_rfl) (by kernel_rfl) (by kernel_rfl) (by kernel_rfl) (by kernel_rfl) (by kernel_rfl) (by kernel_rfl) (by kernel_rfl)
   ·rw [hs];exact ⟨rfl,rfl,_,_,rfl⟩
 ·have hs:kt x.f i=none:=by simp [kt,hb]
  refine ai ⟨⟨[],LH c b f0 x aL i,19,[],19⟩,.inr ?_,rfl,?_⟩
  ·exact Weak.eqs [] (by kernel_rfl) (by kernel_rfl) (by kernel_rfl) (by kernel_rfl) (by kernel_rfl) (by kernel_rfl) (by kernel_rfl) (by kernel_rfl) (by kernel_rfl) (by kernel_rfl)
  ·rw [hs];exact ⟨rfl,rfl,_,_,rfl⟩
def pq (c:Cd) (f:Frame) (i:In4):Option (Frame×Ask):=if below i.a c.cells.length then some (next f,{ aI with kind:=1,a:=i.a }) else none
theorem Vq (c:Cd) (b:Bd) (f0:Frame) (x:LX) (i:In4) (hx:Inv c b x) :
  bN P0 C7 [.ptr 5 0,.agg (eO i)] (LH c b f0 x aL i) 19 (Done c b f0 i (pq c x.f i)):=by
 have h6:=hx.len;refine bQ K8.h rfl ?_;have h7:=hx.cells;refine aK _ (s25 _ _) ?_;refine ax (aT _ _ _ _) ?_;rintro _ _ _ ⟨rfl,rfl,⟨hb,rfl⟩|⟨hb,rfl⟩⟩
 ·have hs:pq c x.f i=some (next x.f,{ aI with kind:=1,a:=i.a }):=by simp at hb;simp [pq,below,hb]
  refine ax (mS c b f0 x i hx.pc0 hx.pc1 hx.sp0 hx.sp1) ?_;rintro _ _ _ ⟨rfl,rfl,rfl⟩;refine ai ⟨⟨[],LH c b f0 (passed x) (yC { aI with kind:=1,a:=i.a }) i,19,[],19⟩,.inr ?_,rfl,[],rfl,?_⟩
  ·exact Weak.eqs [] (by kernel_rfl) (by kernel_rfl) (by kernel_rfl) (by kernel_rfl) (by kernel_rfl) (by kernel_rfl) (by kernel_rfl) (by kernel_rfl) (by kernel_rfl) (by kernel_rfl)
  ·rw [hs];exact ⟨rfl,rfl,(passed x),rfl,Mid.go hx _ (by have:=hx.pc0;omega) (by have:=hx.pc1;omega),rfl⟩
 ·have hs:pq c x.f i=none:=by simp at hb;simp [pq,below];omega
  refine ai ⟨⟨[],LH c b f0 x aL i,19,[],19⟩,.inr ?_,rfl,?_⟩
  ·exact Weak.eqs [] (by kernel_rfl) (by kernel_rfl) (by kernel_rfl) (by kernel_rfl) (by kernel_rfl) (by kernel_rfl) (by kernel_rfl) (by kernel_rfl) (by kernel_rfl) (by kernel_rfl)
  ·rw [hs];exact ⟨rfl,rfl,_,_,rfl⟩
def ig (c:Cd) (f:Frame) (i:In4):Option (Frame×Ask):=if below i.a c.cells.length=true/\f.stack≠[] then some (next (ep f),{ aI with kind:=2,a:=i.a,b:=cy f }) else none
theorem RA (c:Cd) (b:Bd) (f0:Frame) (x:LX) (i:In4) (hx:Inv c b x) :
  bN P0 zM [.ptr 5 0,.agg (eO i)] (LH c b f0 x aL i) 19 (Done c b f0 i (ig c x.f i)):=by
 have h6:=hx.len;refine bQ IF.h rfl ?_;have h7:=hx.cells;refine aK _ (s25 _ _) ?_;refine ax (aT _ _ _ _) ?_;rintro _ _ _ ⟨rfl,rfl,⟨hb,rfl⟩|⟨hb,rfl⟩⟩
 ·refine ax (Lq c b f0 x i hx) ?_
  rintro _ _ _ ⟨rfl,⟨hn,rfl,rfl⟩|⟨hn,rfl,rfl⟩⟩
  ·have he:x.f.stack≠[]:=by intro h;rw [h6,h] at hn;simp at hn
   have hs:ig c x.f i=some (next (ep x.f),{ aI with kind:=2,a:=i.a,b:=cy x.f }):=by simp at hb;simp [ig,below,hb,he]
   have hy:=hx.pop hn;refine ax (mS c b f0 (br x) i hy.pc0 hy.pc1 hy.sp0 hy.sp1) ?_;rintro _ _ _ ⟨rfl,rfl,rfl⟩;refine ai ⟨⟨[],LH c b f0 (passed (br x)) (yC { aI with kind:=2,a:=i.a,b:=cy x.f }) i,19,[],19⟩,.inr ?_,rfl,[],rfl,?_⟩
   ·exact Weak.eqs [] (by kernel_rfl) (by kernel_rfl) (by kernel_rfl) (by kernel_rfl) (by kernel_rfl) (by kernel_rfl) (by kernel_rfl) (by kernel_rfl) (by kernel_rfl) (by kernel_rfl)
   ·rw [hs];exact ⟨rfl,rfl,(passed (br x)),rfl,Mid.go hy _ (by have:=hy.pc0;omega) (by have:=hy.pc1;omega),rfl⟩
  ·have he:x.f.stack=[]:=by rw [<- s9 hx];exact hn
   have hs:ig c x.f i=none:=by simp [ig,he]
   refine ai ⟨⟨[],LH c b f0 x aL i,19,[],19⟩,.inr ?_,rfl,?_⟩
   ·exact Weak.eqs [] (by kernel_rfl) (by kernel_rfl) (by kernel_rfl) (by kernel_rfl) (by kernel_rfl) (by kernel_rfl) (by kernel_rfl) (by kernel_rfl) (by kernel_rfl) (by kernel_rfl)
   ·rw [hs];exact ⟨rfl,rfl,_,_,rfl⟩
 ·have hs:ig c x.f i=none:=by simp at hb;simp [ig,below];omega
  refine ai ⟨⟨[],LH c b f0 x aL i,19,[],19⟩,.inr ?_,rfl,?_⟩
  ·exact Weak.eqs [] (by kernel_rfl) (by kernel_rfl) (by kernel_rfl) (by kernel_rfl) (by kernel_rfl) (by kernel_rfl) (by kernel_rfl) (by kernel_rfl) (by kernel_rfl) (by kernel_rfl)
  ·rw [hs];exact ⟨rfl,rfl,_,_,rfl⟩
def pv (f:Frame):Option (Frame×Ask):=if f.stack≠[] then some (next (ep f),aI) else none
theorem Vr (c:Cd) (b:Bd) (f0:Frame) (x:LX) (i:In4) (hx:Inv c b x) :
  bN P0 Df [.ptr 5 0,.agg (eO i)] (LH c b f0 x aL i) 19 (Done c b f0 i (pv x.f)):=by
 have h6:=hx.len;refine bQ Lc.h rfl ?_;refine ax (Lq c b f0 x i hx) ?_;rintro _ _ _ ⟨rfl,⟨hn,rfl,rfl⟩|⟨hn,rfl,rfl⟩⟩
 ·have he:x.f.stack≠[]:=by intro h;rw [h6,h] at hn;simp at hn
  have hs:pv x.f=some (next (ep x.f),aI):=by simp [pv,he]
  have hy:=hx.pop hn;refine ax (mS c b f0 (br x) i hy.pc0 hy.pc1 hy.sp0 hy.sp1) ?_;rintro _ _ _ ⟨rfl,rfl,rfl⟩;refine ai ⟨⟨[],LH c b f0 (passed (br x)) aL i,19,[],19⟩,.inr ?_,rfl,[],rfl,?_⟩
  ·exact Weak.eqs [] (by kernel_rfl) (by kernel_rfl) (by kernel_rfl) (by kernel_rfl) (by kernel_rfl) (by kernel_rfl) (by kernel_rfl) (by kernel_rfl) (by kernel_rfl) (by kernel_rfl)
  ·rw [hs];exact ⟨rfl,rfl,(passed (br x)),rfl,Mid.go hy _ (by have:=hy.pc0;omega) (by have:=hy.pc1;omega),rfl⟩
 ·have he:x.f.stack=[]:=by rw [<- s9 hx];exact hn
  have hs:pv x.f=none:=by simp [pv,he]
  refine ai ⟨⟨[],LH c b f0 x aL i,19,[],19⟩,.inr ?_,rfl,?_⟩
  ·exact Weak.eqs [] (by kernel_rfl) (by kernel_rfl) (by kernel_rfl) (by kernel_rfl) (by kernel_rfl) (by kernel_rfl) (by kernel_rfl) (by kernel_rfl) (by kernel_rfl) (by kernel_rfl)
  ·rw [hs];exact ⟨rfl,rfl,_,_,rfl⟩
def jW (f:Frame):Option (Frame×Ask):=if f.kids=[] then some (next f,aI) else some (f,{ aI with kind:=5 })
theorem Vs (c:Cd) (b:Bd) (f0:Frame) (x:LX) (i:In4) (hx:Inv c b x) :
  bN P0 Dh [.ptr 5 0,.agg (eO i)] (LH c b f0 x aL i) 19 (Done c b f0 i (jW x.f)):=by
 have h6:=hx.len;refine bQ Ld.h rfl ?_;refine ax (JY c b f0 x i hx) ?_;rintro _ _ _ ⟨rfl,⟨hn,rfl,rfl⟩|⟨hn,rfl,rfl⟩⟩
 ·have hs:jW x.f=some (next x.f,aI):=by simp [jW,hn]
  refine ah rfl ?_;refine ax (mS c b f0 x i hx.pc0 hx.pc1 hx.sp0 hx.sp1) ?_;rintro _ _ _ ⟨rfl,rfl,rfl⟩;refine ai ⟨⟨[],LH c b f0 (passed x) aL i,19,[],19⟩,.inr ?_,rfl,[],rfl,?_⟩
  ·exact Weak.eqs [] (by kernel_rfl) (by kernel_rfl) (by kernel_rfl) (by kernel_rfl) (by kernel_rfl) (by kernel_rfl) (by kernel_rfl) (by kernel_rfl) (by kernel_rfl) (by kernel_rfl)
  ·rw [hs];exact ⟨rfl,rfl,(passed x),rfl,Mid.go hx _ (by have:=hx.pc0;omega) (by have:=hx.pc1;omega),rfl⟩
 ·have hs:jW x.f=some (x.f,{ aI with kind:=5 }):=by simp [jW,hn]
  refine aR rfl ?_;refine ai ⟨⟨[],LH c b f0 x yl i,19,[],19⟩,.inr ?_,rfl,[],rfl,?_⟩
  ·exact Weak.eqs [] (by kernel_rfl) (by kernel_rfl) (by kernel_rfl) (by kernel_rfl) (by kernel_rfl) (by kernel_rfl) (by kernel_rfl) (by kernel_rfl) (by kernel_rfl) (by kernel_rfl)
  ·rw [hs];exact ⟨rfl,rfl,x,rfl,hx.mid,rfl⟩
def px (b:Bd) (f:Frame) (i:In4):Option (Frame×Ask):=if below i.a b.ins.length then some (pass f i.a,aI) else none
theorem Vt (c:Cd) (b:Bd) (f0:Frame) (x:LX) (i:In4) (hx:Inv c b x) :
  bN P0 Di [.ptr 5 0,.agg (eO i)] (LH c b f0 x aL i) 19 (Done c b f0 i (px b x.f i)):=by
 have h6:=hx.len;refine bQ Le.h rfl ?_;have h7:=hx.ins;refine ax (G3 c b f0 x i i.a hx) ?_;rintro _ _ _ ⟨rfl,rfl,⟨hb,rfl⟩|⟨hb,rfl⟩⟩
 ·have hs:px b x.f i=some (pass x.f i.a,aI):=by simp [px,hb]
  have hb' : 0<=i.a/\i.a<b.ins.length:=by simpa [below] using hb
  refine ax (O2 c b f0 x i i.a hx.sp0 hx.sp1) ?_;rintro _ _ _ ⟨rfl,rfl,rfl⟩;refine ai ⟨⟨[],LH c b f0 (qX x i.a) aL i,19,[],19⟩,.inr ?_,rfl,[],rfl,?_⟩
  ·exact Weak.eqs [] (by kernel_rfl) (by kernel_rfl) (by kernel_rfl) (by kernel_rfl) (by kernel_rfl) (by kernel_rfl) (by kernel_rfl) (by kernel_rfl) (by kernel_rfl) (by kernel_rfl)
  ·rw [hs];exact ⟨rfl,rfl,(qX x i.a),rfl,Mid.go hx _ (by omega) (by omega),rfl⟩
 ·have hs:px b x.f i=none:=by simp [px,hb]
  refine ai ⟨⟨[],LH c b f0 x aL i,19,[],19⟩,.inr ?_,rfl,?_⟩
  ·exact Weak.eqs [] (by kernel_rfl) (by kernel_rfl) (by kernel_rfl) (by kernel_rfl) (by kernel_rfl) (by kernel_rfl) (by kernel_rfl) (by kernel_rfl) (by kernel_rfl) (by kernel_rfl)
  ·rw [hs];exact ⟨rfl,rfl,_,_,rfl⟩
def ku (b:Bd) (f:Frame) (i:In4):Option (Frame×Ask):=if below i.a b.ins.length=true/\f.stack≠[] then (if cy f=0 then some (pass (ep f) i.a,aI) else some (next (ep f),aI)) else none
theorem Vu (c:Cd) (b:Bd) (f0:Frame) (x:LX) (i:In4) (hx:Inv c b x) :
  bN P0 Dj [.ptr 5 0,.agg (eO i)] (LH c b f0 x aL i) 19 (Done c b f0 i (ku b x.f i)):=by
 have h6:=hx.len;refine bQ Lh.h rfl ?_;have h7:=hx.ins;refine ax (G3 c b f0 x i i.a hx) ?_;rintro _ _ _ ⟨rfl,rfl,⟨hb,rfl⟩|⟨hb,rfl⟩⟩
 ·have hb' : 0<=i.a/\i.a<b.ins.length:=by simpa [below] using hb
  refine ax (Lq c b f0 x i hx) ?_;rintro _ _ _ ⟨rfl,⟨hn,rfl,rfl⟩|⟨hn,rfl,rfl⟩⟩
  ·have he:x.f.stack≠[]:=by intro h;rw [h6,h] at hn;simp at hn
   have hy:=hx.pop hn;refine bz (fun h=>?_) (fun h=>?_)
   ·have h:cy x.f=0:=by simpa [cy] using h
    have hs:ku b x.f i=some (pass (ep x.f) i.a,aI):=by simp [ku,hb,he,h]
    refine ax (O2 c b f0 (br x) i i.a hy.sp0 hy.sp1) ?_;rintro _ _ _ ⟨rfl,rfl,rfl⟩;refine ai ⟨⟨[],LH c b f0 (qX (br x) i.a) aL i,19,[],19⟩,.inr ?_,rfl,[],rfl,?_⟩
    ·exact Weak.eqs [] (by kernel_rfl) (by kernel_rfl) (by kernel_rfl) (by kernel_rfl) (by kernel_rfl) (by kernel_rfl) (by kernel_rfl) (by kernel_rfl) (by kernel_rfl) (by kernel_rfl)
    ·rw [hs];exact ⟨rfl,rfl,(qX (br x) i.a),rfl,Mid.go hy _ (by omega) (by omega),rfl⟩
   ·have h:¬cy x.f=0:=by simpa [cy] using h
    have hs:ku b x.f i=some (next (ep x.f),aI):=by simp [ku,hb,he,h]
    refine ax (mS c b f0 (br x) i hy.pc0 hy.pc1 hy.sp0 hy.sp1) ?_;rintro _ _ _ ⟨rfl,rfl,rfl⟩;refine ai ⟨⟨[],LH c b f0 (passed (br x)) aL i,19,[],19⟩,.inr ?_,rfl,[],rfl,?_⟩
    ·exact Weak.eqs [] (by kernel_rfl) (by kernel_rfl) (by kernel_rfl) (by kernel_rfl) (by kernel_rfl) (by kernel_rfl) (by kernel_rfl) (by kernel_rfl) (by kernel_rfl) (by kernel_rfl)
    ·rw [hs];exact ⟨rfl,rfl,(passed (br x)),rfl,Mid.go hy _ (by have:=hy.pc0;omega) (by have:=hy.pc1;omega),rfl⟩
  ·have he:x.f.stack=[]:=by rw [<- s9 hx];exact hn
   have hs:ku b x.f i=none:=by simp [ku,he]
   refine ai ⟨⟨[],LH c b f0 x aL i,19,[],19⟩,.inr ?_,rfl,?_⟩
   ·exact Weak.eqs [] (by kernel_rfl) (by kernel_rfl) (by kernel_rfl) (by kernel_rfl) (by kernel_rfl) (by kernel_rfl) (by kernel_rfl) (by kernel_rfl) (by kernel_rfl) (by kernel_rfl)
   ·rw [hs];exact ⟨rfl,rfl,_,_,rfl⟩
 ·have hs:ku b x.f i=none:=by simp [ku,hb]
  refine ai ⟨⟨[],LH c b f0 x aL i,19,[],19⟩,.inr ?_,rfl,?_⟩
  ·exact Weak.eqs [] (by kernel_rfl) (by kernel_rfl) (by kernel_rfl) (by kernel_rfl) (by kernel_rfl) (by kernel_rfl) (by kernel_rfl) (by kernel_rfl) (by kernel_rfl) (by kernel_rfl)
  ·rw [hs];exact ⟨rfl,rfl,_,_,rfl⟩
def tC (f:Frame):Option (Frame×Ask):=if f.kids=[] then (if f.stack=[] then none else some (next (ep f),{ aI with kind:=6,a:=cy f })) else some (f,{ aI with kind:=5 })
theorem WN (c:Cd) (b:Bd) (f0:Frame) (x:LX) (i:In4) (hx:Inv c b x) :
  bN P0 Gt [.ptr 5 0,.agg (eO i)] (LH c b f0 x aL i) 19 (Done c b f0 i (tC x.f)):=by
 have h6:=hx.len;refine bQ N5.h rfl ?_;refine ax (JY c b f0 x i hx) ?_;rintro _ _ _ ⟨rfl,⟨hk,rfl,rfl⟩|⟨hk,rfl,rfl⟩⟩
 ·refine aR rfl ?_
  refine ax (Lq c b f0 x i hx) ?_;rintro _ _ _ ⟨rfl,⟨hn,rfl,rfl⟩|⟨hn,rfl,rfl⟩⟩
  ·have he:x.f.stack≠[]:=by intro h;rw [h6,h] at hn;simp at hn
   have hs:tC x.f=some (next (ep x.f),{ aI with kind:=6,a:=cy x.f }):=by simp [tC,hk,he]
   have hy:=hx.pop hn;refine ax (mS c b f0 (br x) i hy.pc0 hy.pc1 hy.sp0 hy.sp1) ?_;rintro _ _ _ ⟨rfl,rfl,rfl⟩;refine ai ⟨⟨[],LH c b f0 (passed (br x)) (yC { aI with kind:=6,a:=cy x.f }) i,19,[],19⟩,.inr ?_,rfl,[],rfl,?_⟩
   ·exact Weak.eqs [] (by kernel_rfl) (by kernel_rfl) (by kernel_rfl) (by kernel_rfl) (by kernel_rfl) (by kernel_rfl) (by kernel_rfl) (by kernel_rfl) (by kernel_rfl) (by kernel_rfl)
   ·rw [hs];exact ⟨rfl,rfl,(passed (br x)),rfl,Mid.go hy _ (by have:=hy.pc0;omega) (by have:=hy.pc1;omega),rfl⟩
  ·have he:x.f.stack=[]:=by rw [<- s9 hx];exact hn
   have hs:tC x.f=none:=by simp [tC,hk,he]
   refine ai ⟨⟨[],LH c b f0 x aL i,19,[],19⟩,.inr ?_,rfl,?_⟩
   ·exact Weak.eqs [] (by kernel_rfl) (by kernel_rfl) (by kernel_rfl) (by kernel_rfl) (by kernel_rfl) (by kernel_rfl) (by kernel_rfl) (by kernel_rfl) (by kernel_rfl) (by kernel_rfl)
   ·rw [hs];exact ⟨rfl,rfl,_,_,rfl⟩
 ·have hs:tC x.f=some (x.f,{ aI with kind:=5 }):=by simp [tC,hk]
  refine ah rfl ?_;refine ai ⟨⟨[],LH c b f0 x yl i,19,[],19⟩,.inr ?_,rfl,[],rfl,?_⟩
  ·exact Weak.eqs [] (by kernel_rfl) (by kernel_rfl) (by kernel_rfl) (by kernel_rfl) (by kernel_rfl) (by kernel_rfl) (by kernel_rfl) (by kernel_rfl) (by kernel_rfl) (by kernel_rfl)
  ·rw [hs];exact ⟨rfl,rfl,x,rfl,hx.mid,rfl⟩
def dD (f:Frame):Option (Frame×Ask):=if f.stack≠[] then some (next { ep f with fail:=f.fail||decide (cy f=0) },aI) else none
def O4 (x:LX):LX:={ x with f:={ x.f with fail:=true } }
theorem Inv.failed {c:Cd} {b:Bd} {x:LX} (h:Inv c b x):Inv c b (O4 x):=⟨h.pre,h.len,h.le,h.loc,h.deep,h.pc0,h.pc1,h.sp0,h.sp1,h.pK,h.kids,h.ins,h.am,h.cells⟩
theorem O5 (c:Cd) (b:Bd) (f0:Frame) (x:LX) (i:In4) (hx:Inv c b x) :
  bN P0 yg [.ptr 5 0,.agg (eO i)] (LH c b f0 x aL i) 19 (Done c b f0 i (dD x.f)):=by
 have h6:=hx.len;refine bQ Gu.h rfl ?_;refine ax (Lq c b f0 x i hx) ?_;rintro _ _ _ ⟨rfl,⟨hn,rfl,rfl⟩|⟨hn,rfl,rfl⟩⟩
 ·have he:x.f.stack≠[]:=by intro h;rw [h6,h] at hn;simp at hn
  have hy:=hx.pop hn;refine bz (fun h=>?_) (fun h=>?_)
  ·have h:cy x.f=0:=by simpa [cy] using h
   have hs:dD x.f=some (next { ep x.f with fail:=true },aI):=by simp [dD,he,h]
   have hz:=hy.failed;have g1:=hx.pc0;have g2:=hx.pc1;have g3:=hx.sp0;have g4:=hx.sp1;refine bK dh.h rfl ?_;refine ah (by simp [inR,popped];omega) ?_;refine bK di.h rfl ?_;refine ah (by simp [inR,popped];omega) ?_;refine cO rfl rfl ?_;refine cO rfl rfl ?_;refine ai ⟨⟨[],LH c b f0 (passed (O4 (br x))) aL i,19,[],19⟩,.inr ?_,rfl,[],rfl,?_⟩
   ·exact Weak.eqs [] (by kernel_rfl) (by kernel_rfl) (by kernel_rfl) (by kernel_rfl) (by kernel_rfl) (by kernel_rfl) (by kernel_rfl) (by kernel_rfl) (by kernel_rfl) (by kernel_rfl)
   ·rw [hs];exact ⟨rfl,rfl,(passed (O4 (br x))),rfl,Mid.go hz _ (by have:=hz.pc0;omega) (by have:=hz.pc1;omega),rfl⟩
  ·have h:¬cy x.f=0:=by simpa [cy] using h
   have hs:dD x.f=some (next (ep x.f),aI):=by simp [dD,he,h];rfl
   refine ax (mS c b f0 (br x) i hy.pc0 hy.pc1 hy.sp0 hy.sp1) ?_;rintro _ _ _ ⟨rfl,rfl,rfl⟩;refine ai ⟨⟨[],LH c b f0 (passed (br x)) aL i,19,[],19⟩,.inr ?_,rfl,[],rfl,?_⟩
   ·exact Weak.eqs [] (by kernel_rfl) (by kernel_rfl) (by kernel_rfl) (by kernel_rfl) (by kernel_rfl) (by kernel_rfl) (by kernel_rfl) (by kernel_rfl) (by kernel_rfl) (by kernel_rfl)
   ·rw [hs];exact ⟨rfl,rfl,(passed (br x)),rfl,Mid.go hy _ (by have:=hy.pc0;omega) (by have:=hy.pc1;omega),rfl⟩
 ·have he:x.f.stack=[]:=by rw [<- s9 hx];exact hn
  have hs:dD x.f=none:=by simp [dD,he]
  refine ai ⟨⟨[],LH c b f0 x aL i,19,[],19⟩,.inr ?_,rfl,?_⟩
  ·exact Weak.eqs [] (by kernel_rfl) (by kernel_rfl) (by kernel_rfl) (by kernel_rfl) (by kernel_rfl) (by kernel_rfl) (by kernel_rfl) (by kernel_rfl) (by kernel_rfl) (by kernel_rfl)
  ·rw [hs];exact ⟨rfl,rfl,_,_,rfl⟩
end Uw.Tryz.Vm
namespace Uw.Tryz.Vm
open Go Uw Uw.Tryz
theorem JZ (n:Int) (k M:Nat) (hM:M=2 ^ k) (hk:k<=64) (h32:M<=4294967296) (m:Int) (hm:m=(M:Int) - 1):IntKind.i64.wrap ((BitVec.ofInt IntKind.i64.bits n&&&BitVec.ofInt IntKind.i64.bits m).toNat:Int)=n % M:=by
 subst hm;have h1:1<=M:=hM ▸ Nat.one_le_two_pow;have big:((2 ^ 64:Nat):Int)=18446744073709551616:=by decide
 have e:(BitVec.ofInt 64 ((M:Int) - 1)).toNat=M - 1:=by
  rw [BitVec.toNat_ofInt,Int.emod_eq_of_lt (by omega) (by rw [big];omega)];omega
 have e2:((BitVec.ofInt IntKind.i64.bits n&&&BitVec.ofInt IntKind.i64.bits ((M:Int) - 1)).toNat:Int)=n % M:=by
  show ((BitVec.ofInt 64 n&&&BitVec.ofInt 64 ((M:Int) - 1)).toNat:Int)=n % M;rw [BitVec.toNat_and,e,hM,Nat.and_two_pow_sub_one_eq_mod,<- hM,BitVec.toNat_ofInt];rw [Int.natCast_emod,Int.toNat_of_nonneg (Int.emod_nonneg _ (by rw [big];omega))];exact Int.emod_emod_of_dvd n (Int.natCast_dvd_natCast.2 (hM ▸ Nat.pow_dvd_pow 2 hk))
 rw [e2];have a:=Int.emod_nonneg n (by omega:(M:Int)≠0);have b:=Int.emod_lt_of_pos n (by omega:(0:Int)<M);exact wrap_in (by simp [inR];omega)
def ca (n:Int):Int:=n % 4294967296
def keyS (n:Int):Int:=n % 65536
theorem s31 (n:Int):Ret P0 C9 [I n] (I (ca n)):=by
 refine aj K9.h rfl ?_;refine ag rfl rfl rfl rfl ?_;exact congrArg (fun z=>I z) (JZ n 32 4294967296 (by decide) (by decide) (by decide) 4294967295 (by decide))
theorem s16 (n:Int):Ret P0 Gw [I n] (I (keyS n)):=by
 refine aj N6.h rfl ?_;refine ag rfl rfl rfl rfl ?_;exact congrArg (fun z=>I z) (JZ n 16 65536 (by decide) (by decide) (by decide) 65535 (by decide))
theorem qq (n:Int):ca (IntKind.i64.wrap n)=ca n:=by
 rw [IntKind.wrap_i64,ca,ca];omega
theorem s47 (x y:Int):Ret P0 vE [I x,I y] (I (ca (x+y))):=by
 refine aj vF.h rfl ?_;refine bz (fun h=>?_) (fun h=>?_)
 ·refine aK _ (s31 _) ?_
  exact ag rfl rfl rfl rfl rfl
 ·refine aK _ (s31 _) ?_
  exact ag rfl rfl rfl rfl (congrArg (fun z=>I z) (qq _))
theorem s48 (x y:Int):Ret P0 vG [I x,I y] (I (ca (x - y))):=by
 refine aj vH.h rfl ?_;refine bz (fun h=>?_) (fun h=>?_)
 ·refine aK _ (s31 _) ?_
  exact ag rfl rfl rfl rfl rfl
 ·refine aK _ (s31 _) ?_
  exact ag rfl rfl rfl rfl (congrArg (fun z=>I z) (qq _))
theorem s49 (x y:Int):Ret P0 vI [I x,I y] (I (ca (x * y))):=by
 refine aj vJ.h rfl ?_;refine bz (fun h=>?_) (fun h=>?_)
 ·refine aK _ (s31 _) ?_
  exact ag rfl rfl rfl rfl rfl
 ·refine aK _ (s31 _) ?_
  exact ag rfl rfl rfl rfl (congrArg (fun z=>I z) (qq _))
def truth (b:Bool):Int:=if b then 1 else 0
theorem s51 (b:Bool):Ret P0 zN [.bool b] (I (truth b)):=by
 refine aj IG.h rfl ?_
 cases b with
 | true=>refine ah rfl ?_;exact ag rfl rfl rfl rfl rfl
 | false=>refine aR rfl ?_;exact ag rfl rfl rfl rfl rfl
theorem s50 (x y:Int):Ret P0 vK [I x,I y] (I (truth (decide (x<y)))):=by
 refine aj vL.h rfl ?_;refine aK _ (s51 _) ?_;exact ag rfl rfl rfl rfl rfl
theorem s52 (x y:Int):Ret P0 vM [I x,I y] (I (truth (decide (x=y)))):=by
 refine aj vN.h rfl ?_;refine aK _ (s51 _) ?_;exact ag rfl rfl rfl rfl rfl
theorem s61 (x y:Int) (hx:isVal x=true) (hy:isVal y=true):Ret P0 vO [I x,I y] (I ((x+y) / 2)):=by
 have hx' : 0<=x/\x<4294967296:=by simpa [isVal] using hx
 have hy' : 0<=y/\y<4294967296:=by simpa [isVal] using hy
 refine aj vP.h rfl ?_;refine ah (by simp [inR];omega) ?_;refine aR rfl ?_;have e:(x+y).tdiv 2=(x+y) / 2:=Int.tdiv_eq_ediv_of_nonneg (by omega);refine ah (by rw [e];simp [inR];omega) ?_;exact ag rfl rfl rfl rfl (congrArg (fun z=>I z) e)
end Uw.Tryz.Vm
namespace Uw.Tryz.Vm
open Go Uw Uw.Tryz
def eF (f:Frame):Int:=cy (ep f)
def aV (op:Int->Int->Int) (f:Frame):Option (Frame×Ask):=if 2<=f.stack.length then some (next (ox (ep (ep f)) (op (eF f) (cy f))),aI) else none
def gW (x:LX) (v:Int):LX:={ x with f:=ox (ep (ep x.f)) v,xs:=x.xs.take ((x.n:Int) - 2 - 0).toNat++[[I v]],n:=((x.n:Int) - 2 - 0).toNat+1,ver:=x.ver+1 }
theorem Inv.gW {c:Cd} {b:Bd} {x:LX} (h:Inv c b x) (v:Int) (hn:2<=x.n):Inv c b (gW x v):=by
 have h1:=h.pop (by omega);have e:(br x).n=x.n - 1:=by simp [br,popped]
 have h2:=h1.pop (by omega);have e2:(br (br x)).n=x.n - 2:=by have:(br (br x)).n=(((br x).n:Int) - 1 - 0).toNat:=rfl;omega
 have h3:=h2.push v (by have:=h.deep;have:=h.len;omega);have:Uw.Tryz.Vm.gW x v=j6 (br (br x)) v:=by
  have e3:((x.n:Int) - 2 - 0).toNat=(br (br x)).n:=by omega
  simp only [Uw.Tryz.Vm.gW,e3];rfl
 rw [this];exact ⟨h3.pre,h3.len,h3.le,h3.loc,h3.deep,h3.pc0,h3.pc1,h3.sp0,h3.sp1,h3.pK,h3.kids,h3.ins,h3.am,h3.cells⟩
theorem tf {c:Cd} {b:Bd} {x:LX} (h:Inv c b x) (hn:2<=x.n):x.xs[x.n - 2]? = some [I (eF x.f)]:=by
 have h1:=h.pop (by omega);have e:(br x).n=x.n - 1:=by simp [br,popped]
 have:=lH h1.pre h1.len h1.le (by omega);rw [e,show x.n - 1 - 1=x.n - 2 by omega] at this;exact this
theorem WO (c:Cd) (b:Bd) (f0:Frame) (x:LX) (i:In4) (hx:Inv c b x) :
  bN P0 eN [.ptr 5 0,.agg (eO i),.ptr 11 0] (LH c b f0 x aL i) 19 (Done c b f0 i (aV (fun x y=>ca (x+y)) x.f)):=by
 have h5:=hx.deep;have h6:=hx.len;have h7:=hx.le;have g1:=hx.pc0;have g2:=hx.pc1;have g3:=hx.sp0;have g4:=hx.sp1;refine bQ fJ.h rfl ?_;refine bK ci.h rfl ?_;refine ct ?_;refine ax (aT _ _ _ _) ?_;rintro _ _ _ ⟨rfl,rfl,⟨hb,rfl⟩|⟨hb,rfl⟩⟩
 ·simp at hb
  refine ct ?_;refine ah (by simp [inR];omega) ?_;refine ct ?_;refine ah (by simp;omega) ?_;refine ct ?_;refine ah (by simp;omega) ?_;refine ct ?_;refine ah (by simp;omega) ?_;refine dN rfl rfl ?_;refine aX ⟨[(0,.ptr 5 0)],H19 c b f0 { x with xs:=x.xs.take ((x.n:Int) - 2 - 0).toNat++[[I (ca (eF x.f+cy x.f))]],n:=((x.n:Int) - 2 - 0).toNat+1,ver:=x.ver+1 } aL i,20,[],19⟩ ?_ ?_
  ·refine ah rfl ?_
   refine ah (by simp;omega) ?_;refine ah rfl ?_;refine au [I (eF x.f)] (by simp only [ON,Y1];rw [if_pos (by omega),show 0+((x.n:Int) - 2).toNat+(0+(0:Int).toNat)=x.n - 2 by omega];exact tf hx (by omega)) ?_;refine ah rfl ?_;refine ah (by simp;omega) ?_;refine ah rfl ?_;refine au [I (cy x.f)] (by simp only [ON,Y1];rw [if_pos (by omega),show 0+((x.n:Int) - 2).toNat+(0+(1:Int).toNat)=x.n - 1 by omega];exact lH hx.pre hx.len hx.le (by omega)) ?_;refine bG (I (ca (eF x.f+cy x.f))) vF.h.body rfl (s47 _ _) ?_;refine aO (by kernel_rfl) ?_;refine aO (by kernel_rfl) ?_;refine ah rfl ?_;refine ah (by simp;omega) ?_;refine aO (by kernel_rfl) ?_;refine aO (by kernel_rfl) ?_;refine ah rfl ?_;refine ah (by simp;omega) ?_;refine aO (by kernel_rfl) ?_;refine bK dA.h rfl ?_;refine ct ?_;refine bK df.h rfl ?_;refine aR (by simp;omega) ?_;refine cO rfl rfl ?_;refine ct ?_;refine ah (by simp;omega) ?_;refine cO rfl rfl ?_;refine aO (by kernel_rfl) ?_;refine ah rfl ?_;refine ah (by simp;omega) ?_;refine aO (by kernel_rfl) ?_;refine aO (by kernel_rfl) ?_;refine ah rfl ?_;refine ah (by simp;omega) ?_;refine aO (by kernel_rfl) ?_;refine ai (.inl ⟨rfl,?_⟩);exact Weak.eqs [] (by kernel_rfl) (by kernel_rfl) (by kernel_rfl) (by kernel_rfl) (by kernel_rfl) (by kernel_rfl) (by kernel_rfl) (by kernel_rfl) (by kernel_rfl) (by kernel_rfl)
  ·have hs:aV (fun x y=>ca (x+y)) x.f=some (next (ox (ep (ep x.f)) (ca (eF x.f+cy x.f))),aI):=by simp [aV];omega
   have hy:=hx.gW (ca (eF x.f+cy x.f)) (by omega);refine ax (mS c b f0 (gW x (ca (eF x.f+cy x.f))) i hy.pc0 hy.pc1 hy.sp0 hy.sp1) ?_;rintro _ _ _ ⟨rfl,rfl,rfl⟩;refine ai ⟨⟨[],LH c b f0 (passed (gW x (ca (eF x.f+cy x.f)))) aL i,19,[],19⟩,.inr ?_,rfl,[],rfl,?_⟩
   ·exact Weak.eqs [] (by kernel_rfl) (by kernel_rfl) (by kernel_rfl) (by kernel_rfl) (by kernel_rfl) (by kernel_rfl) (by kernel_rfl) (by kernel_rfl) (by kernel_rfl) (by kernel_rfl)
   ·rw [hs];exact ⟨rfl,rfl,_,rfl,Mid.go hy _ (by have:=hy.pc0;omega) (by have:=hy.pc1;omega),rfl⟩
 ·have hs:aV (fun x y=>ca (x+y)) x.f=none:=by simp at hb;simp [aV];omega
  refine kO rfl ?_;refine ai ⟨⟨[],LH c b f0 x aL i,19,[],19⟩,.inr ?_,rfl,?_⟩
  ·exact Weak.eqs [] (by kernel_rfl) (by kernel_rfl) (by kernel_rfl) (by kernel_rfl) (by kernel_rfl) (by kernel_rfl) (by kernel_rfl) (by kernel_rfl) (by kernel_rfl) (by kernel_rfl)
  ·rw [hs];exact ⟨rfl,rfl,_,_,rfl⟩
theorem WQ (c:Cd) (b:Bd) (f0:Frame) (x:LX) (i:In4) (hx:Inv c b x) :
  bN P0 eN [.ptr 5 0,.agg (eO i),.ptr 12 0] (LH c b f0 x aL i) 19 (Done c b f0 i (aV (fun x y=>ca (x - y)) x.f)):=by
 have h5:=hx.deep;have h6:=hx.len;have h7:=hx.le;have g1:=hx.pc0;have g2:=hx.pc1;have g3:=hx.sp0;have g4:=hx.sp1;refine bQ fJ.h rfl ?_;refine bK ci.h rfl ?_;refine ct ?_;refine ax (aT _ _ _ _) ?_;rintro _ _ _ ⟨rfl,rfl,⟨hb,rfl⟩|⟨hb,rfl⟩⟩
 ·simp at hb
  refine ct ?_;refine ah (by simp [inR];omega) ?_;refine ct ?_;refine ah (by simp;omega) ?_;refine ct ?_;refine ah (by simp;omega) ?_;refine ct ?_;refine ah (by simp;omega) ?_;refine dN rfl rfl ?_;refine aX ⟨[(0,.ptr 5 0)],H19 c b f0 { x with xs:=x.xs.take ((x.n:Int) - 2 - 0).toNat++[[I (ca (eF x.f - cy x.f))]],n:=((x.n:Int) - 2 - 0).toNat+1,ver:=x.ver+1 } aL i,20,[],19⟩ ?_ ?_
  ·refine ah rfl ?_
   refine ah (by simp;omega) ?_;refine ah rfl ?_;refine au [I (eF x.f)] (by simp only [ON,Y1];rw [if_pos (by omega),show 0+((x.n:Int) - 2).toNat+(0+(0:Int).toNat)=x.n - 2 by omega];exact tf hx (by omega)) ?_;refine ah rfl ?_;refine ah (by simp;omega) ?_;refine ah rfl ?_;refine au [I (cy x.f)] (by simp only [ON,Y1];rw [if_pos (by omega),show 0+((x.n:Int) - 2).toNat+(0+(1:Int).toNat)=x.n - 1 by omega];exact lH hx.pre hx.len hx.le (by omega)) ?_;refine bG (I (ca (eF x.f - cy x.f))) vH.h.body rfl (s48 _ _) ?_;refine aO (by kernel_rfl) ?_;refine aO (by kernel_rfl) ?_;refine ah rfl ?_;refine ah (by simp;omega) ?_;refine aO (by kernel_rfl) ?_;refine aO (by kernel_rfl) ?_;refine ah rfl ?_;refine ah (by simp;omega) ?_;refine aO (by kernel_rfl) ?_;refine bK dA.h rfl ?_;refine ct ?_;refine bK df.h rfl ?_;refine aR (by simp;omega) ?_;refine cO rfl rfl ?_;refine ct ?_;refine ah (by simp;omega) ?_;refine cO rfl rfl ?_;refine aO (by kernel_rfl) ?_;refine ah rfl ?_;refine ah (by simp;omega) ?_;refine aO (by kernel_rfl) ?_;refine aO (by kernel_rfl) ?_;refine ah rfl ?_;refine ah (by simp;omega) ?_;refine aO (by kernel_rfl) ?_;refine ai (.inl ⟨rfl,?_⟩);exact Weak.eqs [] (by kernel_rfl) (by kernel_rfl) (by kernel_rfl) (by kernel_rfl) (by kernel_rfl) (by kernel_rfl) (by kernel_rfl) (by kernel_rfl) (by kernel_rfl) (by kernel_rfl)
  ·have hs:aV (fun x y=>ca (x - y)) x.f=some (next (ox (ep (ep x.f)) (ca (eF x.f - cy x.f))),aI):=by simp [aV];omega
   have hy:=hx.gW (ca (eF x.f - cy x.f)) (by omega);refine ax (mS c b f0 (gW x (ca (eF x.f - cy x.f))) i hy.pc0 hy.pc1 hy.sp0 hy.sp1) ?_;rintro _ _ _ ⟨rfl,rfl,rfl⟩;refine ai ⟨⟨[],LH c b f0 (passed (gW x (ca (eF x.f - cy x.f)))) aL i,19,[],19⟩,.inr ?_,rfl,[],rfl,?_⟩
   ·exact Weak.eqs [] (by kernel_rfl) (by kernel_rfl) (by kernel_rfl) (by kernel_rfl) (by kernel_rfl) (by kernel_rfl) (by kernel_rfl) (by kernel_rfl) (by kernel_rfl) (by kernel_rfl)
   ·rw [hs];exact ⟨rfl,rfl,_,rfl,Mid.go hy _ (by have:=hy.pc0;omega) (by have:=hy.pc1;omega),rfl⟩
 ·have hs:aV (fun x y=>ca (x - y)) x.f=none:=by simp at hb;simp [aV];omega
  refine kO rfl ?_;refine ai ⟨⟨[],LH c b f0 x aL i,19,[],19⟩,.inr ?_,rfl,?_⟩
  ·exact Weak.eqs [] (by kernel_rfl) (by kernel_rfl) (by kernel_rfl) (by kernel_rfl) (by kernel_rfl) (by kernel_rfl) (by kernel_rfl) (by kernel_rfl) (by kernel_rfl) (by kernel_rfl)
  ·rw [hs];exact ⟨rfl,rfl,_,_,rfl⟩
theorem WR (c:Cd) (b:Bd) (f0:Frame) (x:LX) (i:In4) (hx:Inv c b x) :
  bN P0 eN [.ptr 5 0,.agg (eO i),.ptr 13 0] (LH c b f0 x aL i) 19 (Done c b f0 i (aV (fun x y=>ca (x * y)) x.f)):=by
 have h5:=hx.deep;have h6:=hx.len;have h7:=hx.le;have g1:=hx.pc0;have g2:=hx.pc1;have g3:=hx.sp0;have g4:=hx.sp1;refine bQ fJ.h rfl ?_;refine bK ci.h rfl ?_;refine ct ?_;refine ax (aT _ _ _ _) ?_;rintro _ _ _ ⟨rfl,rfl,⟨hb,rfl⟩|⟨hb,rfl⟩⟩
 ·simp at hb
  refine ct ?_;refine ah (by simp [inR];omega) ?_;refine ct ?_;refine ah (by simp;omega) ?_;refine ct ?_;refine ah (by simp;omega) ?_;refine ct ?_;refine ah (by simp;omega) ?_;refine dN rfl rfl ?_;refine aX ⟨[(0,.ptr 5 0)],H19 c b f0 { x with xs:=x.xs.take ((x.n:Int) - 2 - 0).toNat++[[I (ca (eF x.f * cy x.f))]],n:=((x.n:Int) - 2 - 0).toNat+1,ver:=x.ver+1 } aL i,20,[],19⟩ ?_ ?_
  ·refine ah rfl ?_
   refine ah (by simp;omega) ?_;refine ah rfl ?_;refine au [I (eF x.f)] (by simp only [ON,Y1];rw [if_pos (by omega),show 0+((x.n:Int) - 2).toNat+(0+(0:Int).toNat)=x.n - 2 by omega];exact tf hx (by omega)) ?_;refine ah rfl ?_;refine ah (by simp;omega) ?_;refine ah rfl ?_;refine au [I (cy x.f)] (by simp only [ON,Y1];rw [if_pos (by omega),show 0+((x.n:Int) - 2).toNat+(0+(1:Int).toNat)=x.n - 1 by omega];exact lH hx.pre hx.len hx.le (by omega)) ?_;refine bG (I (ca (eF x.f * cy x.f))) vJ.h.body rfl (s49 _ _) ?_;refine aO (by kernel_rfl) ?_;refine aO (by kernel_rfl) ?_;refine ah rfl ?_;refine ah (by simp;omega) ?_;refine aO (by kernel_rfl) ?_;refine aO (by kernel_rfl) ?_;refine ah rfl ?_;refine ah (by simp;omega) ?_;refine aO (by kernel_rfl) ?_;refine bK dA.h rfl ?_;refine ct ?_;refine bK df.h rfl ?_;refine aR (by simp;omega) ?_;refine cO rfl rfl ?_;refine ct ?_;refine ah (by simp;omega) ?_;refine cO rfl rfl ?_;refine aO (by kernel_rfl) ?_;refine ah rfl ?_;refine ah (by simp;omega) ?_;refine aO (by kernel_rfl) ?_;refine aO (by kernel_rfl) ?_;refine ah rfl ?_;refine ah (by simp;omega) ?_;refine aO (by kernel_rfl) ?_;refine ai (.inl ⟨rfl,?_⟩);exact Weak.eqs [] (by kernel_rfl) (by kernel_rfl) (by kernel_rfl) (by kernel_rfl) (by kernel_rfl) (by kernel_rfl) (by kernel_rfl) (by kernel_rfl) (by kernel_rfl) (by kernel_rfl)
  ·have hs:aV (fun x y=>ca (x * y)) x.f=some (next (ox (ep (ep x.f)) (ca (eF x.f * cy x.f))),aI):=by simp [aV];omega
   have hy:=hx.gW (ca (eF x.f * cy x.f)) (by omega);refine ax (mS c b f0 (gW x (ca (eF x.f * cy x.f))) i hy.pc0 hy.pc1 hy.sp0 hy.sp1) ?_;rintro _ _ _ ⟨rfl,rfl,rfl⟩;refine ai ⟨⟨[],LH c b f0 (passed (gW x (ca (eF x.f * cy x.f)))) aL i,19,[],19⟩,.inr ?_,rfl,[],rfl,?_⟩
   ·exact Weak.eqs [] (by kernel_rfl) (by kernel_rfl) (by kernel_rfl) (by kernel_rfl) (by kernel_rfl) (by kernel_rfl) (by kernel_rfl) (by kernel_rfl) (by kernel_rfl) (by kernel_rfl)
   ·rw [hs];exact ⟨rfl,rfl,_,rfl,Mid.go hy _ (by have:=hy.pc0;omega) (by have:=hy.pc1;omega),rfl⟩
 ·have hs:aV (fun x y=>ca (x * y)) x.f=none:=by simp at hb;simp [aV];omega
  refine kO rfl ?_;refine ai ⟨⟨[],LH c b f0 x aL i,19,[],19⟩,.inr ?_,rfl,?_⟩
  ·exact Weak.eqs [] (by kernel_rfl) (by kernel_rfl) (by kernel_rfl) (by kernel_rfl) (by kernel_rfl) (by kernel_rfl) (by kernel_rfl) (by kernel_rfl) (by kernel_rfl) (by kernel_rfl)
  ·rw [hs];exact ⟨rfl,rfl,_,_,rfl⟩
theorem Vv (c:Cd) (b:Bd) (f0:Frame) (x:LX) (i:In4) (hx:Inv c b x) :
  bN P0 eN [.ptr 5 0,.agg (eO i),.ptr 14 0] (LH c b f0 x aL i) 19 (Done c b f0 i (aV (fun x y=>truth (decide (x<y))) x.f)):=by
 have h5:=hx.deep;have h6:=hx.len;have h7:=hx.le;have g1:=hx.pc0;have g2:=hx.pc1;have g3:=hx.sp0;have g4:=hx.sp1;refine bQ fJ.h rfl ?_;refine bK ci.h rfl ?_;refine ct ?_;refine ax (aT _ _ _ _) ?_;rintro _ _ _ ⟨rfl,rfl,⟨hb,rfl⟩|⟨hb,rfl⟩⟩
 ·simp at hb
  refine ct ?_;refine ah (by simp [inR];omega) ?_;refine ct ?_;refine ah (by simp;omega) ?_;refine ct ?_;refine ah (by simp;omega) ?_;refine ct ?_;refine ah (by simp;omega) ?_;refine dN rfl rfl ?_;refine aX ⟨[(0,.ptr 5 0)],H19 c b f0 { x with xs:=x.xs.take ((x.n:Int) - 2 - 0).toNat++[[I (truth (decide (eF x.f<cy x.f)))]],n:=((x.n:Int) - 2 - 0).toNat+1,ver:=x.ver+1 } aL i,20,[],19⟩ ?_ ?_
  ·refine ah rfl ?_
   refine ah (by simp;omega) ?_;refine ah rfl ?_;refine au [I (eF x.f)] (by simp only [ON,Y1];rw [if_pos (by omega),show 0+((x.n:Int) - 2).toNat+(0+(0:Int).toNat)=x.n - 2 by omega];exact tf hx (by omega)) ?_;refine ah rfl ?_;refine ah (by simp;omega) ?_;refine ah rfl ?_;refine au [I (cy x.f)] (by simp only [ON,Y1];rw [if_pos (by omega),show 0+((x.n:Int) - 2).toNat+(0+(1:Int).toNat)=x.n - 1 by omega];exact lH hx.pre hx.len hx.le (by omega)) ?_;refine bG (I (truth (decide (eF x.f<cy x.f)))) vL.h.body rfl (s50 _ _) ?_;refine aO (by kernel_rfl) ?_;refine aO (by kernel_rfl) ?_;refine ah rfl ?_;refine ah (by simp;omega) ?_;refine aO (by kernel_rfl) ?_;refine aO (by kernel_rfl) ?_;refine ah rfl ?_;refine ah (by simp;omega) ?_;refine aO (by kernel_rfl) ?_;refine bK dA.h rfl ?_;refine ct ?_;refine bK df.h rfl ?_;refine aR (by simp;omega) ?_;refine cO rfl rfl ?_;refine ct ?_;refine ah (by simp;omega) ?_;refine cO rfl rfl ?_;refine aO (by kernel_rfl) ?_;refine ah rfl ?_;refine ah (by simp;omega) ?_;refine aO (by kernel_rfl) ?_;refine aO (by kernel_rfl) ?_;refine ah rfl ?_;refine ah (by simp;omega) ?_;refine aO (by kernel_rfl) ?_;refine ai (.inl ⟨rfl,?_⟩);exact Weak.eqs [] (by kernel_rfl) (by kernel_rfl) (by kernel_rfl) (by kernel_rfl) (by kernel_rfl) (by kernel_rfl) (by kernel_rfl) (by kernel_rfl) (by kernel_rfl) (by kernel_rfl)
  ·have hs:aV (fun x y=>truth (decide (x<y))) x.f=some (next (ox (ep (ep x.f)) (truth (decide (eF x.f<cy x.f)))),aI):=by simp [aV];omega
   have hy:=hx.gW (truth (decide (eF x.f<cy x.f))) (by omega);refine ax (mS c b f0 (gW x (truth (decide (eF x.f<cy x.f)))) i hy.pc0 hy.pc1 hy.sp0 hy.sp1) ?_;rintro _ _ _ ⟨rfl,rfl,rfl⟩;refine ai ⟨⟨[],LH c b f0 (passed (gW x (truth (decide (eF x.f<cy x.f))))) aL i,19,[],19⟩,.inr ?_,rfl,[],rfl,?_⟩
   ·exact Weak.eqs [] (by kernel_rfl) (by kernel_rfl) (by kernel_rfl) (by kernel_rfl) (by kernel_rfl) (by kernel_rfl) (by kernel_rfl) (by kernel_rfl) (by kernel_rfl) (by kernel_rfl)
   ·rw [hs];exact ⟨rfl,rfl,_,rfl,Mid.go hy _ (by have:=hy.pc0;omega) (by have:=hy.pc1;omega),rfl⟩
 ·have hs:aV (fun x y=>truth (decide (x<y))) x.f=none:=by simp at hb;simp [aV];omega
  refine kO rfl ?_;refine ai ⟨⟨[],LH c b f0 x aL i,19,[],19⟩,.inr ?_,rfl,?_⟩
  ·exact Weak.eqs [] (by kernel_rfl) (by kernel_rfl) (by kernel_rfl) (by kernel_rfl) (by kernel_rfl) (by kernel_rfl) (by kernel_rfl) (by kernel_rfl) (by kernel_rfl) (by kernel_rfl)
  ·rw [hs];exact ⟨rfl,rfl,_,_,rfl⟩
theorem i_eq (c:Cd) (b:Bd) (f0:Frame) (x:LX) (i:In4) (hx:Inv c b x) :
  bN P0 eN [.ptr 5 0,.agg (eO i),.ptr 15 0] (LH c b f0 x aL i) 19 (Done c b f0 i (aV (fun x y=>truth (decide (x=y))) x.f)):=by
 have h5:=hx.deep;have h6:=hx.len;have h7:=hx.le;have g1:=hx.pc0;have g2:=hx.pc1;have g3:=hx.sp0;have g4:=hx.sp1;refine bQ fJ.h rfl ?_;refine bK ci.h rfl ?_;refine ct ?_;refine ax (aT _ _ _ _) ?_;rintro _ _ _ ⟨rfl,rfl,⟨hb,rfl⟩|⟨hb,rfl⟩⟩
 ·simp at hb
  refine ct ?_;refine ah (by simp [inR];omega) ?_;refine ct ?_;refine ah (by simp;omega) ?_;refine ct ?_;refine ah (by simp;omega) ?_;refine ct ?_;refine ah (by simp;omega) ?_;refine dN rfl rfl ?_;refine aX ⟨[(0,.ptr 5 0)],H19 c b f0 { x with xs:=x.xs.take ((x.n:Int) - 2 - 0).toNat++[[I (truth (decide (eF x.f=cy x.f)))]],n:=((x.n:Int) - 2 - 0).toNat+1,ver:=x.ver+1 } aL i,20,[],19⟩ ?_ ?_
  ·refine ah rfl ?_
   refine ah (by simp;omega) ?_;refine ah rfl ?_;refine au [I (eF x.f)] (by simp only [ON,Y1];rw [if_pos (by omega),show 0+((x.n:Int) - 2).toNat+(0+(0:Int).toNat)=x.n - 2 by omega];exact tf hx (by omega)) ?_;refine ah rfl ?_;refine ah (by simp;omega) ?_;refine ah rfl ?_;refine au [I (cy x.f)] (by simp only [ON,Y1];rw [if_pos (by omega),show 0+((x.n:Int) - 2).toNat+(0+(1:Int).toNat)=x.n - 1 by omega];exact lH hx.pre hx.len hx.le (by omega)) ?_;refine bG (I (truth (decide (eF x.f=cy x.f)))) vN.h.body rfl (s52 _ _) ?_;refine aO (by kernel_rfl) ?_;refine aO (by kernel_rfl) ?_;refine ah rfl ?_;refine ah (by simp;omega) ?_;refine aO (by kernel_rfl) ?_;refine aO (by kernel_rfl) ?_;refine ah rfl ?_;refine ah (by simp;omega) ?_;refine aO (by kernel_rfl) ?_;refine bK dA.h rfl ?_;refine ct ?_;refine bK df.h rfl ?_;refine aR (by simp;omega) ?_;refine cO rfl rfl ?_;refine ct ?_;refine ah (by simp;omega) ?_;refine cO rfl rfl ?_;refine aO (by kernel_rfl) ?_;refine ah rfl ?_;refine ah (by simp;omega) ?_;refine aO (by kernel_rfl) ?_;refine aO (by kernel_rfl) ?_;refine ah rfl ?_;refine ah (by simp;omega) ?_;refine aO (by kernel_rfl) ?_;refine ai (.inl ⟨rfl,?_⟩);exact Weak.eqs [] (by kernel_rfl) (by kernel_rfl) (by kernel_rfl) (by kernel_rfl) (by kernel_rfl) (by kernel_rfl) (by kernel_rfl) (by kernel_rfl) (by kernel_rfl) (by kernel_rfl)
  ·have hs:aV (fun x y=>truth (decide (x=y))) x.f=some (next (ox (ep (ep x.f)) (truth (decide (eF x.f=cy x.f)))),aI):=by simp [aV];omega
   have hy:=hx.gW (truth (decide (eF x.f=cy x.f))) (by omega);refine ax (mS c b f0 (gW x (truth (decide (eF x.f=cy x.f)))) i hy.pc0 hy.pc1 hy.sp0 hy.sp1) ?_;rintro _ _ _ ⟨rfl,rfl,rfl⟩;refine ai ⟨⟨[],LH c b f0 (passed (gW x (truth (decide (eF x.f=cy x.f))))) aL i,19,[],19⟩,.inr ?_,rfl,[],rfl,?_⟩
   ·exact Weak.eqs [] (by kernel_rfl) (by kernel_rfl) (by kernel_rfl) (by kernel_rfl) (by kernel_rfl) (by kernel_rfl) (by kernel_rfl) (by kernel_rfl) (by kernel_rfl) (by kernel_rfl)
   ·rw [hs];exact ⟨rfl,rfl,_,rfl,Mid.go hy _ (by have:=hy.pc0;omega) (by have:=hy.pc1;omega),rfl⟩
 ·have hs:aV (fun x y=>truth (decide (x=y))) x.f=none:=by simp at hb;simp [aV];omega
  refine kO rfl ?_;refine ai ⟨⟨[],LH c b f0 x aL i,19,[],19⟩,.inr ?_,rfl,?_⟩
  ·exact Weak.eqs [] (by kernel_rfl) (by kernel_rfl) (by kernel_rfl) (by kernel_rfl) (by kernel_rfl) (by kernel_rfl) (by kernel_rfl) (by kernel_rfl) (by kernel_rfl) (by kernel_rfl)
  ·rw [hs];exact ⟨rfl,rfl,_,_,rfl⟩
theorem Vw (c:Cd) (b:Bd) (f0:Frame) (x:LX) (i:In4) (hx:Inv c b x) (v1:isVal (eF x.f)=true) (v2:isVal (cy x.f)=true) :
  bN P0 eN [.ptr 5 0,.agg (eO i),.ptr 16 0] (LH c b f0 x aL i) 19 (Done c b f0 i (aV (fun x y=>(x+y) / 2) x.f)):=by
 have h5:=hx.deep;have h6:=hx.len;have h7:=hx.le;have g1:=hx.pc0;have g2:=hx.pc1;have g3:=hx.sp0;have g4:=hx.sp1;refine bQ fJ.h rfl ?_;refine bK ci.h rfl ?_;refine ct ?_;refine ax (aT _ _ _ _) ?_;rintro _ _ _ ⟨rfl,rfl,⟨hb,rfl⟩|⟨hb,rfl⟩⟩
 ·simp at hb
  refine ct ?_;refine ah (by simp [inR];omega) ?_;refine ct ?_;refine ah (by simp;omega) ?_;refine ct ?_;refine ah (by simp;omega) ?_;refine ct ?_;refine ah (by simp;omega) ?_;refine dN rfl rfl ?_;refine aX ⟨[(0,.ptr 5 0)],H19 c b f0 { x with xs:=x.xs.take ((x.n:Int) - 2 - 0).toNat++[[I ((eF x.f+cy x.f) / 2)]],n:=((x.n:Int) - 2 - 0).toNat+1,ver:=x.ver+1 } aL i,20,[],19⟩ ?_ ?_
  ·refine ah rfl ?_
   refine ah (by simp;omega) ?_;refine ah rfl ?_;refine au [I (eF x.f)] (by simp only [ON,Y1];rw [if_pos (by omega),show 0+((x.n:Int) - 2).toNat+(0+(0:Int).toNat)=x.n - 2 by omega];exact tf hx (by omega)) ?_;refine ah rfl ?_;refine ah (by simp;omega) ?_;refine ah rfl ?_;refine au [I (cy x.f)] (by simp only [ON,Y1];rw [if_pos (by omega),show 0+((x.n:Int) - 2).toNat+(0+(1:Int).toNat)=x.n - 1 by omega];exact lH hx.pre hx.len hx.le (by omega)) ?_;refine bG (I ((eF x.f+cy x.f) / 2)) vP.h.body rfl (s61 _ _ v1 v2) ?_;refine aO (by kernel_rfl) ?_;refine aO (by kernel_rfl) ?_;refine ah rfl ?_;refine ah (by simp;omega) ?_;refine aO (by kernel_rfl) ?_;refine aO (by kernel_rfl) ?_;refine ah rfl ?_;refine ah (by simp;omega) ?_;refine aO (by kernel_rfl) ?_;refine bK dA.h rfl ?_;refine ct ?_;refine bK df.h rfl ?_;refine aR (by simp;omega) ?_;refine cO rfl rfl ?_;refine ct ?_;refine ah (by simp;omega) ?_;refine cO rfl rfl ?_;refine aO (by kernel_rfl) ?_;refine ah rfl ?_;refine ah (by simp;omega) ?_;refine aO (by kernel_rfl) ?_;refine aO (by kernel_rfl) ?_;refine ah rfl ?_;refine ah (by simp;omega) ?_;refine aO (by kernel_rfl) ?_;refine ai (.inl ⟨rfl,?_⟩);exact Weak.eqs [] (by kernel_rfl) (by kernel_rfl) (by kernel_rfl) (by kernel_rfl) (by kernel_rfl) (by kernel_rfl) (by kernel_rfl) (by kernel_rfl) (by kernel_rfl) (by kernel_rfl)
  ·have hs:aV (fun x y=>(x+y) / 2) x.f=some (next (ox (ep (ep x.f)) ((eF x.f+cy x.f) / 2)),aI):=by simp [aV];omega
   have hy:=hx.gW ((eF x.f+cy x.f) / 2) (by omega);refine ax (mS c b f0 (gW x ((eF x.f+cy x.f) / 2)) i hy.pc0 hy.pc1 hy.sp0 hy.sp1) ?_;rintro _ _ _ ⟨rfl,rfl,rfl⟩;refine ai ⟨⟨[],LH c b f0 (passed (gW x ((eF x.f+cy x.f) / 2))) aL i,19,[],19⟩,.inr ?_,rfl,[],rfl,?_⟩
   ·exact Weak.eqs [] (by kernel_rfl) (by kernel_rfl) (by kernel_rfl) (by kernel_rfl) (by kernel_rfl) (by kernel_rfl) (by kernel_rfl) (by kernel_rfl) (by kernel_rfl) (by kernel_rfl)
   ·rw [hs];exact ⟨rfl,rfl,_,rfl,Mid.go hy _ (by have:=hy.pc0;omega) (by have:=hy.pc1;omega),rfl⟩
 ·have hs:aV (fun x y=>(x+y) / 2) x.f=none:=by simp at hb;simp [aV];omega
  refine kO rfl ?_;refine ai ⟨⟨[],LH c b f0 x aL i,19,[],19⟩,.inr ?_,rfl,?_⟩
  ·exact Weak.eqs [] (by kernel_rfl) (by kernel_rfl) (by kernel_rfl) (by kernel_rfl) (by kernel_rfl) (by kernel_rfl) (by kernel_rfl) (by kernel_rfl) (by kernel_rfl) (by kernel_rfl)
  ·rw [hs];exact ⟨rfl,rfl,_,_,rfl⟩
end Uw.Tryz.Vm
namespace Uw.Tryz.Vm
open Go Uw Uw.Tryz
def G4 (f:Frame) (l:Int) (v:Int):Frame:={ f with loc:=f.loc.set l.toNat v }
def rG (f:Frame) (i:In4):Option (Frame×Ask):=
 if below i.a f.loc.length then
  if awaited f i.a then some (f,{ aI with kind:=5 })
  else if f.stack=[] then none else some (next (G4 (ep f) i.a (cy f)),aI)
 else none
theorem FZ {P:Program} {Q:az->St->Prop} {fuel:Nat} {l:List DOp} {st:St} {k:az->St->Tree} (R:Prop) (S:St) (h:WT P (fun e s=>(e = .normal/\R/\Weak s S)\/(∃d,e = .panic d/\∃s',Weak s s'/\WT P Q (k e s'))) (tI l (keepR l st.regs) fuel [] [] st Tree.done)) (h2:R->WT P Q (k .normal S)):WT P Q (.code (.draw fuel l) st k):=by
 refine qH (sZ (WT.mono ?_ _ h));rintro e s (⟨rfl,hr,hw⟩|⟨d,rfl,s',hw,hq⟩)
 ·exact ⟨S,.inr hw,h2 hr⟩
 ·exact ⟨s',.inr hw,hq⟩
def IY (x:LX) (l v:Int):LX:={ x with f:=G4 x.f l v,ls:=x.ls.set (0+l.toNat) [I v] }
theorem Inv.Ye {c:Cd} {b:Bd} {x:LX} (h:Inv c b x) (l v:Int):Inv c b (IY x l v):=by
 refine ⟨h.pre,h.len,h.le,?_,h.deep,h.pc0,h.pc1,h.sp0,h.sp1,?_,h.kids,h.ins,h.am,h.cells⟩
 ·simp [IY,G4,h.loc,rows,Zr]
 ·have:=h.pK;simpa [IY,G4] using this
theorem WU (c:Cd) (b:Bd) (f0:Frame) (x:LX) (i:In4) (hx:Inv c b x) :
  bN P0 Gp [.ptr 5 0,.agg (eO i)] (LH c b f0 x aL i) 19 (Done c b f0 i (rG x.f i)):=by
 have h6:=hx.len;refine bQ N4.h rfl ?_;refine ax (JW c b f0 x i i.a hx) ?_;rintro _ _ _ ⟨rfl,⟨hb,rfl,rfl⟩|⟨hb,ha,rfl,rfl⟩|⟨hb,ha,rfl,rfl⟩⟩
 ·have hs:rG x.f i=none:=by simp [rG,hb]
  refine ai ⟨⟨[],LH c b f0 x aL i,19,[],19⟩,.inr ?_,rfl,?_⟩
  ·exact Weak.eqs [] (by kernel_rfl) (by kernel_rfl) (by kernel_rfl) (by kernel_rfl) (by kernel_rfl) (by kernel_rfl) (by kernel_rfl) (by kernel_rfl) (by kernel_rfl) (by kernel_rfl)
  ·rw [hs];exact ⟨rfl,rfl,_,_,rfl⟩
 ·have hs:rG x.f i=some (x.f,{ aI with kind:=5 }):=by simp [rG,hb,ha]
  refine ah rfl ?_;refine ai ⟨⟨[],LH c b f0 x yl i,19,[],19⟩,.inr ?_,rfl,[],rfl,?_⟩
  ·exact Weak.eqs [] (by kernel_rfl) (by kernel_rfl) (by kernel_rfl) (by kernel_rfl) (by kernel_rfl) (by kernel_rfl) (by kernel_rfl) (by kernel_rfl) (by kernel_rfl) (by kernel_rfl)
  ·rw [hs];exact ⟨rfl,rfl,x,rfl,hx.mid,rfl⟩
 ·have hb' : 0<=i.a/\i.a<x.f.loc.length:=by simpa [below] using hb
  have hlt:i.a.toNat<x.f.loc.length:=by omega
  refine aR rfl ?_;have hxl:x.ls.length=x.f.loc.length:=by rw [hx.loc];simp [rows]
  refine FZ (x.f.stack≠[]) ⟨[(0,.ptr 5 0)],H19 c b f0 { br x with ls:=x.ls.set (0+i.a.toNat) [I (cy x.f)] } aL i,20,[],19⟩ ?_ ?_
  ·refine ax (Lq c b f0 x i hx) ?_
   rintro _ _ _ ⟨rfl,⟨hn,rfl,rfl⟩|⟨hn,rfl,rfl⟩⟩
   ·have he:x.f.stack≠[]:=by intro h;rw [h6,h] at hn;simp at hn
    iterate 7 (refine aO (by kernel_rfl) ?_)
    refine ah rfl ?_;refine ah (by simp;omega) ?_;refine ah rfl ?_;refine au [I (x.f.loc.getD i.a.toNat 0)] (by show x.ls[0+i.a.toNat]? = _;rw [hx.loc];exact xq hlt (by omega)) ?_;refine ai (.inl ⟨rfl,he,?_⟩);exact Weak.eqs [] (by kernel_rfl) (by kernel_rfl) (by kernel_rfl) (by kernel_rfl) (by kernel_rfl) (by kernel_rfl) (by kernel_rfl) (by kernel_rfl) (by kernel_rfl) (by kernel_rfl)
   ·have he:x.f.stack=[]:=by rw [<- s9 hx];exact hn
    have hs:rG x.f i=none:=by simp [rG,hb,ha,he]
    refine ai (.inr ⟨_,rfl,⟨[],LH c b f0 x aL i,19,[],19⟩,?_,?_⟩)
    ·exact Weak.eqs [] (by kernel_rfl) (by kernel_rfl) (by kernel_rfl) (by kernel_rfl) (by kernel_rfl) (by kernel_rfl) (by kernel_rfl) (by kernel_rfl) (by kernel_rfl) (by kernel_rfl)
    ·refine ai ⟨_,.inl rfl,rfl,?_⟩
     rw [hs];exact ⟨rfl,rfl,_,_,rfl⟩
  ·intro he
   have hh:H19 c b f0 { br x with ls:=x.ls.set (0+i.a.toNat) [I (cy x.f)] } aL i=H19 c b f0 (IY (br x) i.a (cy x.f)) aL i:=by simp [H19,LH,bR,frV,IY,G4,br,popped]
   rw [hh];have hs:rG x.f i=some (next (G4 (ep x.f) i.a (cy x.f)),aI):=by simp [rG,hb,ha,he]
   have hn:0<x.n:=by rw [h6];exact aaj.2 he
   have hy:=(hx.pop hn).Ye i.a (cy x.f);refine ax (mS c b f0 (IY (br x) i.a (cy x.f)) i hy.pc0 hy.pc1 hy.sp0 hy.sp1) ?_;rintro _ _ _ ⟨rfl,rfl,rfl⟩;refine ai ⟨⟨[],LH c b f0 (passed (IY (br x) i.a (cy x.f))) aL i,19,[],19⟩,.inr ?_,rfl,[],rfl,?_⟩
   ·exact Weak.eqs [] (by kernel_rfl) (by kernel_rfl) (by kernel_rfl) (by kernel_rfl) (by kernel_rfl) (by kernel_rfl) (by kernel_rfl) (by kernel_rfl) (by kernel_rfl) (by kernel_rfl)
   ·rw [hs];exact ⟨rfl,rfl,_,rfl,Mid.go hy _ (by have:=hy.pc0;omega) (by have:=hy.pc1;omega),rfl⟩
end Uw.Tryz.Vm
namespace Uw.Tryz.Vm
open Go Uw Uw.Tryz
def cQ (c:Cd) (op:Int):Int×Int:=
 if op=1\/op=3 then (c.maps,1) else if op=2 then (c.maps,2) else if op=4 then (c.stacks,1) else if op=5 then (c.stacks,0) else if op=6 then (c.chans,1) else if op=7 then (c.chans,0) else (0,0)
theorem Lr (c:Cd) (b:Bd) (f0:Frame) (x:LX) (i:In4) (op:Int) :
  bN P0 mq [.ptr 5 0,.d (I op)] (H19 c b f0 x aL i) 20 (fun r h' nx'=>nx' = 20/\h' = H19 c b f0 x aL i/\r = .val (.tuple [.d (I (cQ c op).1),.d (I (cQ c op).2)])):=by
 refine bQ mr.h rfl ?_;have fin:∀(o t:Int) (st:St),cQ c op=(o,t)->Weak st ⟨[(4,.d (I o)),(5,.d (I t))],H19 c b f0 x aL i,20,[],20⟩->
   ∃st',(st' = st\/Weak st st')/\Ed mr.m.res (fun r h' nx'=>nx' = 20/\h' = H19 c b f0 x aL i/\r = .val (.tuple [.d (I (cQ c op).1),.d (I (cQ c op).2)])) .ret st':=by
  intro o t st hc hw;exact ⟨_,.inr hw,rfl,_,rfl,rfl,rfl,by rw [hc];rfl⟩
 refine bz (fun h1=>?_) (fun h1=>?_)
 ·refine ah h1 ?_
  simp at h1;refine ai (fin c.maps 1 _ (by simp [cQ,h1]) ?_);exact Weak.eqs [] (by kernel_rfl) (by kernel_rfl) (by kernel_rfl) (by kernel_rfl) (by kernel_rfl) (by kernel_rfl) (by kernel_rfl) (by kernel_rfl) (by kernel_rfl) (by kernel_rfl)
 simp at h1;refine bz (fun h3=>?_) (fun h3=>?_)
 ·simp at h3
  refine ai (fin c.maps 1 _ (by simp [cQ,h3]) ?_);exact Weak.eqs [] (by kernel_rfl) (by kernel_rfl) (by kernel_rfl) (by kernel_rfl) (by kernel_rfl) (by kernel_rfl) (by kernel_rfl) (by kernel_rfl) (by kernel_rfl) (by kernel_rfl)
 simp at h3;refine bz (fun h2=>?_) (fun h2=>?_)
 ·simp at h2
  refine ai (fin c.maps 2 _ (by simp [cQ,h2]) ?_);exact Weak.eqs [] (by kernel_rfl) (by kernel_rfl) (by kernel_rfl) (by kernel_rfl) (by kernel_rfl) (by kernel_rfl) (by kernel_rfl) (by kernel_rfl) (by kernel_rfl) (by kernel_rfl)
 simp at h2;refine bz (fun h4=>?_) (fun h4=>?_)
 ·simp at h4
  refine ai (fin c.stacks 1 _ (by simp [cQ,h4]) ?_);exact Weak.eqs [] (by kernel_rfl) (by kernel_rfl) (by kernel_rfl) (by kernel_rfl) (by kernel_rfl) (by kernel_rfl) (by kernel_rfl) (by kernel_rfl) (by kernel_rfl) (by kernel_rfl)
 simp at h4;refine bz (fun h5=>?_) (fun h5=>?_)
 ·simp at h5
  refine ai (fin c.stacks 0 _ (by simp [cQ,h5]) ?_);exact Weak.eqs [] (by kernel_rfl) (by kernel_rfl) (by kernel_rfl) (by kernel_rfl) (by kernel_rfl) (by kernel_rfl) (by kernel_rfl) (by kernel_rfl) (by kernel_rfl) (by kernel_rfl)
 simp at h5;refine bz (fun h6=>?_) (fun h6=>?_)
 ·simp at h6
  refine ai (fin c.chans 1 _ (by simp [cQ,h6]) ?_);exact Weak.eqs [] (by kernel_rfl) (by kernel_rfl) (by kernel_rfl) (by kernel_rfl) (by kernel_rfl) (by kernel_rfl) (by kernel_rfl) (by kernel_rfl) (by kernel_rfl) (by kernel_rfl)
 simp at h6;refine bz (fun h7=>?_) (fun h7=>?_)
 ·simp at h7
  refine ai (fin c.chans 0 _ (by simp [cQ,h7]) ?_);exact Weak.eqs [] (by kernel_rfl) (by kernel_rfl) (by kernel_rfl) (by kernel_rfl) (by kernel_rfl) (by kernel_rfl) (by kernel_rfl) (by kernel_rfl) (by kernel_rfl) (by kernel_rfl)
 simp at h7;refine ai (fin 0 0 _ (by simp [cQ,h1,h3,h2,h4,h5,h6,h7]) ?_);exact Weak.eqs [] (by kernel_rfl) (by kernel_rfl) (by kernel_rfl) (by kernel_rfl) (by kernel_rfl) (by kernel_rfl) (by kernel_rfl) (by kernel_rfl) (by kernel_rfl) (by kernel_rfl)
end Uw.Tryz.Vm
namespace Uw.Tryz.Vm
open Go Uw Uw.Tryz
theorem EI (c:Cd) (op:Int):0<=(cQ c op).2/\(cQ c op).2<=2:=by
 unfold cQ;repeat' split
 all_goals simp
def j7 (f:Frame) (k:Nat):Frame:={ f with stack:=f.stack.take (f.stack.length - k) }
def dS (f:Frame) (k:Nat):List Int:=f.stack.drop (f.stack.length - k)
def keyed (op a:Int):Int:=if op=1\/op=2\/op=3 then keyS a else a
def fR (c:Cd) (f:Frame) (i:In4):Option (Frame×Ask):=
 if below i.b (cQ c i.a).1=true/\i.c=(cQ c i.a).2/\(cQ c i.a).2.toNat<=f.stack.length then
  some (next (j7 f (cQ c i.a).2.toNat),{ aI with kind:=3,op:=(i.a,i.b,keyed i.a ((dS f (cQ c i.a).2.toNat++[0,0]).getD 0 0),(dS f (cQ c i.a).2.toNat++[0,0]).getD 1 0) })
 else none
theorem G5 {c:Cd} {b:Bd} {x:LX} (h:Inv c b x) {T:Int} (hk:T<=x.n) (h0:0<=T):(x.xs.drop (0+((x.n:Int) - T).toNat)).take ((x.n:Int) - ((x.n:Int) - T)).toNat=rows (dS x.f T.toNat):=by
 have h1:=h.len;have h2:=h.le;have e:((x.n:Int) - ((x.n:Int) - T)).toNat=x.n - (0+((x.n:Int) - T).toNat):=by omega
 rw [e,<- aaE,h.pre,rows,rows,dS,List.map_drop]
 congr 1;omega
theorem yT {c:Cd} {b:Bd} {x:LX} (h:Inv c b x) {T:Int} (hk:T<=x.n) (h0:0<=T) (k:Nat) (h2:k<2) {m:Nat} (hm:m=k) :
  (((x.xs.drop (0+((x.n:Int) - T).toNat)).take ((x.n:Int) - ((x.n:Int) - T)).toNat).take ((x.xs.drop (0+((x.n:Int) - T).toNat)).take ((x.n:Int) - ((x.n:Int) - T)).toNat).length++((List.replicate 2 [Dat.int IntKind.i64 0]).set 0 [Dat.int IntKind.i64 0]).set 1 [Dat.int IntKind.i64 0])[m]? = some [I ((dS x.f T.toNat++[0,0]).getD k 0)]:=by
 rw [ZE,G5 h hk h0];show (rows (dS x.f T.toNat)++rows [0,0])[m]? = _;rw [<- ym];exact xq (by simp;omega) hm
theorem Inv.drop {c:Cd} {b:Bd} {x:LX} (h:Inv c b x) (T:Int) (h0:0<=T) (hk:T<=x.n):Inv c b { x with n:=((x.n:Int) - T - 0).toNat,f:=j7 x.f T.toNat }:=by
 have h1:=h.len;have h2:=h.le;have h3:=h.deep;have e:((x.n:Int) - T - 0).toNat=x.n - T.toNat:=by omega
 refine ⟨?_,?_,?_,h.loc,?_,h.pc0,h.pc1,h.sp0,h.sp1,h.pK,h.kids,h.ins,h.am,h.cells⟩
 ·simp only [j7,e]
  have:x.xs.take (x.n - T.toNat)=(x.xs.take x.n).take (x.n - T.toNat):=by rw [aaC,Nat.min_eq_left (by omega)]
  rw [this,h.pre,rows,rows,List.map_take,h1]
 ·simp [j7,e];omega
 ·simp only [e];omega
 ·simp [j7];omega
theorem Vx (c:Cd) (b:Bd) (f0:Frame) (x:LX) (i:In4) (hx:Inv c b x) :
  bN P0 Dc [.ptr 5 0,.agg (eO i)] (LH c b f0 x aL i) 19 (Done c b f0 i (fR c x.f i)):=by
 have h5:=hx.deep;have h6:=hx.len;have h7:=hx.le;have g1:=hx.pc0;have g2:=hx.pc1;have g3:=hx.sp0;have g4:=hx.sp1;have ht:=EI c i.a;refine bQ La.h rfl ?_;refine ax (Lr c b f0 x i i.a) ?_;rintro _ _ _ ⟨rfl,rfl,rfl⟩;generalize hT:(cQ c i.a).2=T at *;generalize hO:(cQ c i.a).1=O at *;refine aK _ (s25 _ _) ?_;refine bz (fun hb=>?_) (fun hb=>?_)
 ·refine ah (by simpa using hb) ?_
  refine ax (aT _ _ _ _) ?_;rintro _ _ _ ⟨rfl,rfl,⟨hc,rfl⟩|⟨hc,rfl⟩⟩
  ·refine bK ci.h rfl ?_
   refine ct ?_;refine ax (aT _ _ _ _) ?_;rintro _ _ _ ⟨rfl,rfl,⟨hk,rfl⟩|⟨hk,rfl⟩⟩
   ·simp at hk
    refine ct ?_;refine ah (by simp [inR];omega) ?_;refine ct ?_;refine ah (by simp;omega) ?_;refine ct ?_;refine ah (by simp;omega) ?_;refine ct ?_;refine ah (by simp;omega) ?_;refine dN rfl rfl ?_;refine ah rfl ?_;refine ah (by simp;omega) ?_;refine aX ⟨[(0,.ptr 5 0),(3,.ptr 19 0),(7,.ptr 20 0)],(20,.var [.d (I i.a),.d (I i.b),.d (I ((dS x.f T.toNat++[0,0]).getD 0 0)),.d (I ((dS x.f T.toNat++[0,0]).getD 1 0))])::H19 c b f0 { x with n:=((x.n:Int) - T - 0).toNat } aL i,21,[],19⟩ ?_ ?_
    ·refine ah rfl ?_
     refine ah (by simp;omega) ?_;refine ah rfl ?_;refine au [I ((dS x.f T.toNat++[0,0]).getD 0 0)] (yT hx hk ht.1 0 (by omega) (by decide)) ?_;refine ah rfl ?_;refine ah (by simp;omega) ?_;refine ah rfl ?_;refine au [I ((dS x.f T.toNat++[0,0]).getD 1 0)] (yT hx hk ht.1 1 (by omega) (by decide)) ?_
     iterate 5 (refine aO (by kernel_rfl) ?_)
     refine ah rfl ?_;refine ah (by simp;omega) ?_;refine aO (by kernel_rfl) ?_;refine ah rfl ?_;refine au [I ((dS x.f T.toNat++[0,0]).getD 0 0)] (yT hx hk ht.1 0 (by omega) (by decide)) ?_;refine aO (by kernel_rfl) ?_;refine aO (by kernel_rfl) ?_;refine ah rfl ?_;refine ah (by simp;omega) ?_;refine aO (by kernel_rfl) ?_;refine ah rfl ?_;refine au [I ((dS x.f T.toNat++[0,0]).getD 1 0)] (yT hx hk ht.1 1 (by omega) (by decide)) ?_;refine aO (by kernel_rfl) ?_;refine aO (by kernel_rfl) ?_;refine ai (.inl ⟨rfl,?_⟩);exact Weak.eqs [(20,21)] (by kernel_rfl) (by kernel_rfl) (by kernel_rfl) (by kernel_rfl) (by kernel_rfl) (by kernel_rfl) (by kernel_rfl) (by kernel_rfl) (by kernel_rfl) (by kernel_rfl)
    ·refine bz (fun k1=>?_) (fun k1=>?_)
     ·refine ah k1 ?_
      refine aK _ (s16 _) ?_;refine bK dh.h rfl ?_;refine ah (by simp [inR];omega) ?_;refine bK di.h rfl ?_;refine ah (by simp [inR];omega) ?_;refine cO rfl rfl ?_;refine cO rfl rfl ?_;refine ai ⟨⟨[],LH c b f0 (passed { x with n:=((x.n:Int) - T - 0).toNat,f:=j7 x.f T.toNat }) (yC { aI with kind:=3,op:=(i.a,i.b,keyS ((dS x.f T.toNat++[0,0]).getD 0 0),(dS x.f T.toNat++[0,0]).getD 1 0) }) i,19,[],19⟩,.inr ?_,rfl,[],rfl,?_⟩
      ·exact Weak.eqs [] (by kernel_rfl) (by kernel_rfl) (by kernel_rfl) (by kernel_rfl) (by kernel_rfl) (by kernel_rfl) (by kernel_rfl) (by kernel_rfl) (by kernel_rfl) (by kernel_rfl)
      ·have e:keyed i.a=keyS:=by simp at k1;funext a;simp [keyed,k1]
       have hs:fR c x.f i=some (next (j7 x.f T.toNat),{ aI with kind:=3,op:=(i.a,i.b,keyed i.a ((dS x.f T.toNat++[0,0]).getD 0 0),(dS x.f T.toNat++[0,0]).getD 1 0) }):=by
        simp only [fR,hT,hO];rw [if_pos ⟨by simpa [below] using hb,by simpa using hc,by omega⟩]
       have hy:=hx.drop T ht.1 hk;rw [hs,e];exact ⟨rfl,rfl,_,rfl,Mid.go hy _ (by have:=hy.pc0;omega) (by have:=hy.pc1;omega),rfl⟩
     refine bz (fun k2=>?_) (fun k2=>?_)
     ·refine ah k2 ?_
      refine aK _ (s16 _) ?_;refine bK dh.h rfl ?_;refine ah (by simp [inR];omega) ?_;refine bK di.h rfl ?_;refine ah (by simp [inR];omega) ?_;refine cO rfl rfl ?_;refine cO rfl rfl ?_;refine ai ⟨⟨[],LH c b f0 (passed { x with n:=((x.n:Int) - T - 0).toNat,f:=j7 x.f T.toNat }) (yC { aI with kind:=3,op:=(i.a,i.b,keyS ((dS x.f T.toNat++[0,0]).getD 0 0),(dS x.f T.toNat++[0,0]).getD 1 0) }) i,19,[],19⟩,.inr ?_,rfl,[],rfl,?_⟩
      ·exact Weak.eqs [] (by kernel_rfl) (by kernel_rfl) (by kernel_rfl) (by kernel_rfl) (by kernel_rfl) (by kernel_rfl) (by kernel_rfl) (by kernel_rfl) (by kernel_rfl) (by kernel_rfl)
      ·have e:keyed i.a=keyS:=by simp at k2;funext a;simp [keyed,k2]
       have hs:fR c x.f i=some (next (j7 x.f T.toNat),{ aI with kind:=3,op:=(i.a,i.b,keyed i.a ((dS x.f T.toNat++[0,0]).getD 0 0),(dS x.f T.toNat++[0,0]).getD 1 0) }):=by
        simp only [fR,hT,hO];rw [if_pos ⟨by simpa [below] using hb,by simpa using hc,by omega⟩]
       have hy:=hx.drop T ht.1 hk;rw [hs,e];exact ⟨rfl,rfl,_,rfl,Mid.go hy _ (by have:=hy.pc0;omega) (by have:=hy.pc1;omega),rfl⟩
     refine bz (fun k3=>?_) (fun k3=>?_)
     ·refine aK _ (s16 _) ?_
      refine bK dh.h rfl ?_;refine ah (by simp [inR];omega) ?_;refine bK di.h rfl ?_;refine ah (by simp [inR];omega) ?_;refine cO rfl rfl ?_;refine cO rfl rfl ?_;refine ai ⟨⟨[],LH c b f0 (passed { x with n:=((x.n:Int) - T - 0).toNat,f:=j7 x.f T.toNat }) (yC { aI with kind:=3,op:=(i.a,i.b,keyS ((dS x.f T.toNat++[0,0]).getD 0 0),(dS x.f T.toNat++[0,0]).getD 1 0) }) i,19,[],19⟩,.inr ?_,rfl,[],rfl,?_⟩
      ·exact Weak.eqs [] (by kernel_rfl) (by kernel_rfl) (by kernel_rfl) (by kernel_rfl) (by kernel_rfl) (by kernel_rfl) (by kernel_rfl) (by kernel_rfl) (by kernel_rfl) (by kernel_rfl)
      ·have e:keyed i.a=keyS:=by simp at k3;funext a;simp [keyed,k3]
       have hs:fR c x.f i=some (next (j7 x.f T.toNat),{ aI with kind:=3,op:=(i.a,i.b,keyed i.a ((dS x.f T.toNat++[0,0]).getD 0 0),(dS x.f T.toNat++[0,0]).getD 1 0) }):=by
        simp only [fR,hT,hO];rw [if_pos ⟨by simpa [below] using hb,by simpa using hc,by omega⟩]
       have hy:=hx.drop T ht.1 hk;rw [hs,e];exact ⟨rfl,rfl,_,rfl,Mid.go hy _ (by have:=hy.pc0;omega) (by have:=hy.pc1;omega),rfl⟩
     ·skip
      refine bK dh.h rfl ?_;refine ah (by simp [inR];omega) ?_;refine bK di.h rfl ?_;refine ah (by simp [inR];omega) ?_;refine cO rfl rfl ?_;refine cO rfl rfl ?_;refine ai ⟨⟨[],LH c b f0 (passed { x with n:=((x.n:Int) - T - 0).toNat,f:=j7 x.f T.toNat }) (yC { aI with kind:=3,op:=(i.a,i.b,(dS x.f T.toNat++[0,0]).getD 0 0,(dS x.f T.toNat++[0,0]).getD 1 0) }) i,19,[],19⟩,.inr ?_,rfl,[],rfl,?_⟩
      ·exact Weak.eqs [] (by kernel_rfl) (by kernel_rfl) (by kernel_rfl) (by kernel_rfl) (by kernel_rfl) (by kernel_rfl) (by kernel_rfl) (by kernel_rfl) (by kernel_rfl) (by kernel_rfl)
      ·have e:keyed i.a=id:=by simp at k1 k2 k3;funext a;simp [keyed,k1,k2,k3]
       have hs:fR c x.f i=some (next (j7 x.f T.toNat),{ aI with kind:=3,op:=(i.a,i.b,keyed i.a ((dS x.f T.toNat++[0,0]).getD 0 0),(dS x.f T.toNat++[0,0]).getD 1 0) }):=by
        simp only [fR,hT,hO];rw [if_pos ⟨by simpa [below] using hb,by simpa using hc,by omega⟩]
       have hy:=hx.drop T ht.1 hk;rw [hs,e];exact ⟨rfl,rfl,_,rfl,Mid.go hy _ (by have:=hy.pc0;omega) (by have:=hy.pc1;omega),rfl⟩
   ·have hs:fR c x.f i=none:=by simp at hk;simp only [fR,hT,hO];rw [if_neg (by rintro ⟨-,-,h⟩;omega)]
    refine kO rfl ?_;refine ai ⟨⟨[],LH c b f0 x aL i,19,[],19⟩,.inr ?_,rfl,?_⟩
    ·exact Weak.eqs [] (by kernel_rfl) (by kernel_rfl) (by kernel_rfl) (by kernel_rfl) (by kernel_rfl) (by kernel_rfl) (by kernel_rfl) (by kernel_rfl) (by kernel_rfl) (by kernel_rfl)
    ·rw [hs];exact ⟨rfl,rfl,_,_,rfl⟩
  ·have hs:fR c x.f i=none:=by simp at hc;simp only [fR,hT,hO];rw [if_neg (by rintro ⟨-,h,-⟩;exact hc h)]
   refine ai ⟨⟨[],LH c b f0 x aL i,19,[],19⟩,.inr ?_,rfl,?_⟩
   ·exact Weak.eqs [] (by kernel_rfl) (by kernel_rfl) (by kernel_rfl) (by kernel_rfl) (by kernel_rfl) (by kernel_rfl) (by kernel_rfl) (by kernel_rfl) (by kernel_rfl) (by kernel_rfl)
   ·rw [hs];exact ⟨rfl,rfl,_,_,rfl⟩
 ·refine aR (by simpa using hb) ?_
  have hs:fR c x.f i=none:=by simp only [fR,hT,hO];rw [if_neg (by rintro ⟨h,-,-⟩;simp [below] at h;simp at hb;omega)]
  refine ax (aT _ _ _ _) ?_;rintro _ _ _ ⟨rfl,rfl,⟨hc,rfl⟩|⟨hc,rfl⟩⟩
  ·simp at hc
  ·refine ai ⟨⟨[],LH c b f0 x aL i,19,[],19⟩,.inr ?_,rfl,?_⟩
   ·exact Weak.eqs [] (by kernel_rfl) (by kernel_rfl) (by kernel_rfl) (by kernel_rfl) (by kernel_rfl) (by kernel_rfl) (by kernel_rfl) (by kernel_rfl) (by kernel_rfl) (by kernel_rfl)
   ·rw [hs];exact ⟨rfl,rfl,_,_,rfl⟩
end Uw.Tryz.Vm
namespace Uw.Tryz.Vm
open Go Uw Uw.Tryz
def Vy (c:Cd) (k:Int):Int:=(c.am.getD k.toNat ⟨0,0,[]⟩).args
def cM (c:Cd) (f:Frame) (i:In4):Option (Frame×Ask):=
 if below i.a c.am.length=true/\dest i.c f.loc.length=true/\0<=i.b/\i.b=Vy c i.a/\i.b.toNat<=f.stack.length then
  some (next (j7 f i.b.toNat),⟨4,i.a,i.c,(0,0,0,0),dS f i.b.toNat⟩)
 else none
def Lt (a:Ask) (v:V):List V:=[.d (I a.kind),.d (I a.a),.d (I a.b),.d (I a.op.1),.d (I a.op.2.1),.d (I a.op.2.2.1),.d (I a.op.2.2.2),v]
def WV (c:Cd) (b:Bd) (f0:Frame) (i:In4) (s:Option (Frame×Ask)) (r:Res) (h' : Heap) (nx' : Nat):Prop:=
 match s with
 | none=>nx' = 19/\r = .pan uM/\∃y ask,h' = LH c b f0 y ask i
 | some (g,a)=>nx' = 20/\r = .val (.tuple [])/\∃y,y.f=g/\Mid c b y/\h' = (19,.mt 1 0 (rows a.args))::LH c b f0 y (Lt a (.ref 19 0 0 a.args.length)) i
theorem RB (c:Cd) (b:Bd) (f0:Frame) (x:LX) (i:In4) (hx:Inv c b x) :
  bN P0 zO [.ptr 5 0,.agg (eO i)] (LH c b f0 x aL i) 19 (WV c b f0 i (cM c x.f i)):=by
 have h5:=hx.deep;have h6:=hx.len;have h7:=hx.le;have g1:=hx.pc0;have g2:=hx.pc1;have g3:=hx.sp0;have g4:=hx.sp1;refine bQ II.h rfl ?_;refine aK _ (s25 _ _) ?_;refine bz (fun ha=>?_) (fun ha=>?_)
 ·refine ct ?_
  refine aK _ (s37 _ _) ?_;refine ah (by simp) ?_;refine ax (aT _ _ _ _) ?_;rintro _ _ _ ⟨rfl,rfl,⟨hd,rfl⟩|⟨hd,rfl⟩⟩
  ·simp at ha
   refine bz (fun h0=>?_) (fun h0=>?_)
   ·refine ah (by simp;omega) ?_
    refine au (bdC (c.am.getD i.a.toNat ⟨0,0,[]⟩)) (by simp [show i.a.toNat<c.am.length by omega]) ?_;refine ah (by simp) ?_;refine ax (aT _ _ _ _) ?_;rintro _ _ _ ⟨rfl,rfl,⟨hq,rfl⟩|⟨hq,rfl⟩⟩
    ·simp at hq h0
     refine bK ci.h rfl ?_;refine ct ?_;refine ax (aT _ _ _ _) ?_;rintro _ _ _ ⟨rfl,rfl,⟨hk,rfl⟩|⟨hk,rfl⟩⟩
     ·simp at hk
      refine ct ?_;refine ah (by simp [inR];omega) ?_;refine ct ?_;refine ah (by simp;omega) ?_;refine ct ?_;refine ah (by simp;omega) ?_;refine ct ?_;refine ah (by simp;omega) ?_;refine dN rfl rfl ?_;refine bK dh.h rfl ?_;refine ah (by simp [inR];omega) ?_;refine bK di.h rfl ?_;refine ah (by simp [inR];omega) ?_;refine cO rfl rfl ?_;refine cO rfl rfl ?_;have hs:cM c x.f i=some (next (j7 x.f i.b.toNat),⟨4,i.a,i.c,(0,0,0,0),dS x.f i.b.toNat⟩):=by
       simp only [cM];rw [if_pos ⟨by simpa [below] using ha,hd,h0,hq,by omega⟩]
      have hy:=hx.drop i.b h0 hk;refine ai ⟨⟨[],(19,.mt 1 0 ((x.xs.drop (0+((x.n:Int) - i.b).toNat)).take ((x.n:Int) - ((x.n:Int) - i.b)).toNat))::LH c b f0 (passed { x with n:=((x.n:Int) - i.b - 0).toNat,f:=j7 x.f i.b.toNat }) (Lt ⟨4,i.a,i.c,(0,0,0,0),dS x.f i.b.toNat⟩ (.ref 19 0 0 ((x.xs.drop (0+((x.n:Int) - i.b).toNat)).take ((x.n:Int) - ((x.n:Int) - i.b)).toNat).length)) i,20,[],19⟩,.inr ?_,rfl,[],rfl,?_⟩
      ·exact Weak.eqs [(19,20)] (by kernel_rfl) (by kernel_rfl) (by kernel_rfl) (by kernel_rfl) (by kernel_rfl) (by kernel_rfl) (by kernel_rfl) (by kernel_rfl) (by kernel_rfl) (by kernel_rfl)
      ·rw [hs,G5 hx hk h0]
       rw [show (rows (dS x.f i.b.toNat)).length=(dS x.f i.b.toNat).length by simp [rows]];exact ⟨rfl,rfl,_,rfl,Mid.go hy (x.f.pc+1) (by omega) (by omega),rfl⟩
     ·have hs:cM c x.f i=none:=by simp at hk;simp only [cM];rw [if_neg (by rintro ⟨-,-,-,-,h⟩;omega)]
      refine kO rfl ?_;refine ai ⟨⟨[],LH c b f0 x aL i,19,[],19⟩,.inr ?_,rfl,?_⟩
      ·exact Weak.eqs [] (by kernel_rfl) (by kernel_rfl) (by kernel_rfl) (by kernel_rfl) (by kernel_rfl) (by kernel_rfl) (by kernel_rfl) (by kernel_rfl) (by kernel_rfl) (by kernel_rfl)
      ·rw [hs];exact ⟨rfl,rfl,_,_,rfl⟩
    ·have hs:cM c x.f i=none:=by simp at hq;simp only [cM];rw [if_neg (by rintro ⟨-,-,-,h,-⟩;exact hq h)]
     refine ai ⟨⟨[],LH c b f0 x aL i,19,[],19⟩,.inr ?_,rfl,?_⟩
     ·exact Weak.eqs [] (by kernel_rfl) (by kernel_rfl) (by kernel_rfl) (by kernel_rfl) (by kernel_rfl) (by kernel_rfl) (by kernel_rfl) (by kernel_rfl) (by kernel_rfl) (by kernel_rfl)
     ·rw [hs];exact ⟨rfl,rfl,_,_,rfl⟩
   ·have hs:cM c x.f i=none:=by simp at h0;simp only [cM];rw [if_neg (by rintro ⟨-,-,h,-,-⟩;omega)]
    refine aR (by simp) ?_;refine ax (aT _ _ _ _) ?_;rintro _ _ _ ⟨rfl,rfl,⟨hq,rfl⟩|⟨hq,rfl⟩⟩
    ·simp at hq
    ·skip
     refine ai ⟨⟨[],LH c b f0 x aL i,19,[],19⟩,.inr ?_,rfl,?_⟩
     ·exact Weak.eqs [] (by kernel_rfl) (by kernel_rfl) (by kernel_rfl) (by kernel_rfl) (by kernel_rfl) (by kernel_rfl) (by kernel_rfl) (by kernel_rfl) (by kernel_rfl) (by kernel_rfl)
     ·rw [hs];exact ⟨rfl,rfl,_,_,rfl⟩
  ·have hs:cM c x.f i=none:=by simp only [cM];rw [if_neg (by rintro ⟨-,h,-,-,-⟩;rw [hd] at h;simp at h)]
   refine ai ⟨⟨[],LH c b f0 x aL i,19,[],19⟩,.inr ?_,rfl,?_⟩
   ·exact Weak.eqs [] (by kernel_rfl) (by kernel_rfl) (by kernel_rfl) (by kernel_rfl) (by kernel_rfl) (by kernel_rfl) (by kernel_rfl) (by kernel_rfl) (by kernel_rfl) (by kernel_rfl)
   ·rw [hs];exact ⟨rfl,rfl,_,_,rfl⟩
 ·have hs:cM c x.f i=none:=by simp only [cM];rw [if_neg (by rintro ⟨h,-,-,-,-⟩;simp [below] at h;simp at ha;omega)]
  refine aR (by simp) ?_;refine ax (aT _ _ _ _) ?_;rintro _ _ _ ⟨rfl,rfl,⟨hq,rfl⟩|⟨hq,rfl⟩⟩
  ·simp at hq
  ·skip
   refine ai ⟨⟨[],LH c b f0 x aL i,19,[],19⟩,.inr ?_,rfl,?_⟩
   ·exact Weak.eqs [] (by kernel_rfl) (by kernel_rfl) (by kernel_rfl) (by kernel_rfl) (by kernel_rfl) (by kernel_rfl) (by kernel_rfl) (by kernel_rfl) (by kernel_rfl) (by kernel_rfl)
   ·rw [hs];exact ⟨rfl,rfl,_,_,rfl⟩
end Uw.Tryz.Vm
namespace Uw.Tryz.Vm
open Go Uw Uw.Tryz
def stepS (c:Cd) (b:Bd) (f:Frame) (i:In4):Option (Frame×Ask):=
 if i.op=1 then kt f i
 else if i.op=2 then fM f i
 else if i.op=3 then rG f i
 else if i.op=4 then pq c f i
 else if i.op=5 then ig c f i
 else if i.op=6 then aV (fun x y=>ca (x+y)) f
 else if i.op=7 then aV (fun x y=>ca (x - y)) f
 else if i.op=8 then aV (fun x y=>ca (x * y)) f
 else if i.op=9 then aV (fun x y=>truth (decide (x<y))) f
 else if i.op=10 then aV (fun x y=>truth (decide (x=y))) f
 else if i.op=11 then fR c f i
 else if i.op=12 then pv f
 else if i.op=13 then cM c f i
 else if i.op=14 then jW f
 else if i.op=15 then px b f i
 else if i.op=16 then ku b f i
 else if i.op=17 then tC f
 else if i.op=18 then dD f
 else if i.op=19 then aV (fun x y=>(x+y) / 2) f
 else none
structure dX (f:Frame):Prop where
 loc:f.loc.all isVal=true
 stack:f.stack.all isVal=true
theorem uN (n:Int):isVal (ca n)=true:=by
 have h:0<=ca n/\ca n<4294967296:=by unfold ca;omega
 simp [isVal,h]
theorem yn (b:Bool):isVal (truth b)=true:=by cases b<;>rfl
theorem IZ {x y:Int} (hx:isVal x=true) (hy:isVal y=true):isVal ((x+y) / 2)=true:=by simp only [isVal,i9,decide_eq_true_eq] at *;omega
theorem EJ {p:Int->Bool} {l:List Int} (h:l.all p=true):l.dropLast.all p=true:=by
 rw [YW] at *;exact fun x hx=>h x (List.dropLast_subset _ hx)
theorem O6 {l:List Int} (h:l.all isVal=true):isVal (l.getLastD 0)=true:=by
 rw [YW] at h
 cases l with
 | nil=>rfl
 | cons a r=>rw [List.getLastD_cons];exact h _ (by rw [<- List.getLast_eq_getLastD (h:=by simp)];exact List.getLast_mem _)
theorem Lu {p:Int->Bool} {l:List Int} (k:Nat) (h:l.all p=true):(l.take k).all p=true:=by
 rw [YW] at *;exact fun x hx=>h x (List.take_subset _ _ hx)
theorem O7 {l:List Int} (k:Nat) (h:l.all isVal=true):isVal (l.getD k 0)=true:=by
 rw [YW] at h;rw [ZS]
 cases hk:l[k]? with
 | none=>rfl
 | some x=>exact h x (Zf hk)
theorem J1 {l:List Int} (k:Nat) {v:Int} (hv:isVal v=true) (h:l.all isVal=true):(l.set k v).all isVal=true:=by
 rw [YW] at *;intro x hx
 rcases Zh hx with h1|h1
 ·exact h x h1
 ·rw [h1];exact hv
theorem dX.pop {f:Frame} (h:dX f):dX (ep f):=⟨h.loc,EJ h.stack⟩
theorem dX.drop {f:Frame} (h:dX f) (k:Nat):dX (j7 f k):=⟨h.loc,Lu _ h.stack⟩
theorem dX.put {f:Frame} (h:dX f) {v:Int} (hv:isVal v=true):dX (ox f v):=⟨h.loc,by simp only [ox,aaY,h.stack];simp [hv]⟩
theorem dX.pass {f:Frame} (h:dX f) (to:Int):dX (pass f to):=⟨h.loc,h.stack⟩
theorem dX.next {f:Frame} (h:dX f):dX (next f):=⟨h.loc,h.stack⟩
theorem dX.top {f:Frame} (h:dX f):isVal (cy f)=true:=O6 h.stack
theorem dX.reckon {f:Frame} (h:dX f) {op:Int->Int->Int} (ho:∀x y,isVal x=true->isVal y=true->isVal (op x y)=true) {g:Frame} {a:Ask} (hs:aV op f=some (g,a)):dX g:=by
 simp only [aV] at hs
 split at hs
 ·simp at hs;obtain ⟨rfl,rfl⟩:=hs
  exact (h.pop.pop.put (ho _ _ h.pop.top h.top)).next
 ·simp at hs
theorem xw {c:Cd} {b:Bd} {f g:Frame} {i:In4} {a:Ask} (h:dX f) (hs:stepS c b f i=some (g,a)):dX g:=by
 unfold stepS at hs;by_cases h1:i.op=1
 ·rw [if_pos h1] at hs;simp only [kt] at hs;split at hs
  ·rename_i hh;simp at hs;obtain ⟨rfl,rfl⟩:=hs;exact (h.put hh.1).next
  ·simp at hs
 rw [if_neg h1] at hs;by_cases h1:i.op=2
 ·rw [if_pos h1] at hs;simp only [fM] at hs;repeat' split at hs
  ·simp at hs;obtain ⟨rfl,rfl⟩:=hs;exact h
  ·simp at hs;obtain ⟨rfl,rfl⟩:=hs;exact (h.put (O7 _ h.loc)).next
  ·simp at hs
  ·simp at hs
 rw [if_neg h1] at hs;by_cases h1:i.op=3
 ·rw [if_pos h1] at hs;simp only [rG] at hs;repeat' split at hs
  ·simp at hs;obtain ⟨rfl,rfl⟩:=hs;exact h
  ·simp at hs
  ·simp at hs;obtain ⟨rfl,rfl⟩:=hs;exact ⟨J1 _ h.top h.loc,h.pop.stack⟩
  ·simp at hs
 rw [if_neg h1] at hs;by_cases h1:i.op=4
 ·rw [if_pos h1] at hs;simp only [pq] at hs;split at hs
  ·simp at hs;obtain ⟨rfl,rfl⟩:=hs;exact h.next
  ·simp at hs
 rw [if_neg h1] at hs;by_cases h1:i.op=5
 ·rw [if_pos h1] at hs;simp only [ig] at hs;split at hs
  ·simp at hs;obtain ⟨rfl,rfl⟩:=hs;exact h.pop.next
  ·simp at hs
 rw [if_neg h1] at hs;by_cases h1:i.op=6
 ·rw [if_pos h1] at hs;exact h.reckon (fun _ _ _ _=>uN _) hs
 rw [if_neg h1] at hs;by_cases h1:i.op=7
 ·rw [if_pos h1] at hs;exact h.reckon (fun _ _ _ _=>uN _) hs
 rw [if_neg h1] at hs;by_cases h1:i.op=8
 ·rw [if_pos h1] at hs;exact h.reckon (fun _ _ _ _=>uN _) hs
 rw [if_neg h1] at hs;by_cases h1:i.op=9
 ·rw [if_pos h1] at hs;exact h.reckon (fun _ _ _ _=>yn _) hs
 rw [if_neg h1] at hs;by_cases h1:i.op=10
 ·rw [if_pos h1] at hs;exact h.reckon (fun _ _ _ _=>yn _) hs
 rw [if_neg h1] at hs;by_cases h1:i.op=11
 ·rw [if_pos h1] at hs;simp only [fR] at hs;split at hs
  ·simp at hs;obtain ⟨rfl,rfl⟩:=hs;exact (h.drop _).next
  ·simp at hs
 rw [if_neg h1] at hs;by_cases h1:i.op=12
 ·rw [if_pos h1] at hs;simp only [pv] at hs;split at hs
  ·simp at hs;obtain ⟨rfl,rfl⟩:=hs;exact h.pop.next
  ·simp at hs
 rw [if_neg h1] at hs;by_cases h1:i.op=13
 ·rw [if_pos h1] at hs;simp only [cM] at hs;split at hs
  ·simp at hs;obtain ⟨rfl,rfl⟩:=hs;exact (h.drop _).next
  ·simp at hs
 rw [if_neg h1] at hs;by_cases h1:i.op=14
 ·rw [if_pos h1] at hs;simp only [jW] at hs;split at hs
  ·simp at hs;obtain ⟨rfl,rfl⟩:=hs;exact h.next
  ·simp at hs;obtain ⟨rfl,rfl⟩:=hs;exact h
 rw [if_neg h1] at hs;by_cases h1:i.op=15
 ·rw [if_pos h1] at hs;simp only [px] at hs;split at hs
  ·simp at hs;obtain ⟨rfl,rfl⟩:=hs;exact h.pass _
  ·simp at hs
 rw [if_neg h1] at hs;by_cases h1:i.op=16
 ·rw [if_pos h1] at hs;simp only [ku] at hs;repeat' split at hs
  ·simp at hs;obtain ⟨rfl,rfl⟩:=hs;exact h.pop.pass _
  ·simp at hs;obtain ⟨rfl,rfl⟩:=hs;exact h.pop.next
  ·simp at hs
 rw [if_neg h1] at hs;by_cases h1:i.op=17
 ·rw [if_pos h1] at hs;simp only [tC] at hs;repeat' split at hs
  ·simp at hs
  ·simp at hs;obtain ⟨rfl,rfl⟩:=hs;exact h.pop.next
  ·simp at hs;obtain ⟨rfl,rfl⟩:=hs;exact h
 rw [if_neg h1] at hs;by_cases h1:i.op=18
 ·rw [if_pos h1] at hs;simp only [dD] at hs;split at hs
  ·simp at hs;obtain ⟨rfl,rfl⟩:=hs;exact ⟨h.pop.loc,h.pop.stack⟩
  ·simp at hs
 rw [if_neg h1] at hs;by_cases h1:i.op=19
 ·rw [if_pos h1] at hs;exact h.reckon (fun _ _ hx hy=>IZ hx hy) hs
 rw [if_neg h1] at hs;simp at hs
end Uw.Tryz.Vm
namespace Uw.Tryz.Vm
open Go Uw Uw.Tryz
theorem kG {c:Cd} {b:Bd} {f:Frame} {i:In4} (P:Option (Frame×Ask)->Prop) (h1:i.op=1->P (kt f i)) (h2:i.op=2->P (fM f i)) (h3:i.op=3->P (rG f i)) (h4:i.op=4->P (pq c f i)) (h5:i.op=5->P (ig c f i))
  (h6:i.op=6->P (aV (fun x y=>ca (x+y)) f)) (h7:i.op=7->P (aV (fun x y=>ca (x - y)) f)) (h8:i.op=8->P (aV (fun x y=>ca (x * y)) f)) (h9:i.op=9->P (aV (fun x y=>truth (decide (x<y))) f)) (h10:i.op=10->P (aV (fun x y=>truth (decide (x=y))) f))
  (h11:i.op=11->P (fR c f i)) (h12:i.op=12->P (pv f)) (h13:i.op=13->P (cM c f i)) (h14:i.op=14->P (jW f)) (h15:i.op=15->P (px b f i)) (h16:i.op=16->P (ku b f i)) (h17:i.op=17->P (tC f)) (h18:i.op=18->P (dD f)) (h19:i.op=19->P (aV (fun x y=>(x+y) / 2) f)) (h0:(i.op<1\/19<i.op)->P none):P (stepS c b f i):=by
 unfold stepS;by_cases e:i.op=1
 ·rw [if_pos e];exact h1 e
 rw [if_neg e];by_cases e:i.op=2
 ·rw [if_pos e];exact h2 e
 rw [if_neg e];by_cases e:i.op=3
 ·rw [if_pos e];exact h3 e
 rw [if_neg e];by_cases e:i.op=4
 ·rw [if_pos e];exact h4 e
 rw [if_neg e];by_cases e:i.op=5
 ·rw [if_pos e];exact h5 e
 rw [if_neg e];by_cases e:i.op=6
 ·rw [if_pos e];exact h6 e
 rw [if_neg e];by_cases e:i.op=7
 ·rw [if_pos e];exact h7 e
 rw [if_neg e];by_cases e:i.op=8
 ·rw [if_pos e];exact h8 e
 rw [if_neg e];by_cases e:i.op=9
 ·rw [if_pos e];exact h9 e
 rw [if_neg e];by_cases e:i.op=10
 ·rw [if_pos e];exact h10 e
 rw [if_neg e];by_cases e:i.op=11
 ·rw [if_pos e];exact h11 e
 rw [if_neg e];by_cases e:i.op=12
 ·rw [if_pos e];exact h12 e
 rw [if_neg e];by_cases e:i.op=13
 ·rw [if_pos e];exact h13 e
 rw [if_neg e];by_cases e:i.op=14
 ·rw [if_pos e];exact h14 e
 rw [if_neg e];by_cases e:i.op=15
 ·rw [if_pos e];exact h15 e
 rw [if_neg e];by_cases e:i.op=16
 ·rw [if_pos e];exact h16 e
 rw [if_neg e];by_cases e:i.op=17
 ·rw [if_pos e];exact h17 e
 rw [if_neg e];by_cases e:i.op=18
 ·rw [if_pos e];exact h18 e
 rw [if_neg e];by_cases e:i.op=19
 ·rw [if_pos e];exact h19 e
 rw [if_neg e];exact h0 (by omega)
structure O8 (b:Bd) (f g:Frame) (a:Ask):Prop where
 task:g.task=f.task
 path:g.path=f.path
 fn:g.fn=f.fn
 kids:g.kids=f.kids
 many:g.many=f.many
 loc:g.loc.length=f.loc.length
 stack:g.stack.length<=100
 pc0:0<=g.pc
 pc1:g.pc<=b.ins.length
 spent:(a.kind=5/\g=f/\f.kids≠[])\/(a.kind≠5/\g.spent=f.spent+1)
 WW:a.kind=4->dest a.b f.loc.length=true
 args:a.kind≠4->a.args=[]
 kind:0<=a.kind/\a.kind<=6
 WX:a.kind=0->a=aI
theorem wj {f:Frame} {l:Int} (h:awaited f l=true):f.kids≠[]:=by
 intro e;simp [awaited,e] at h
theorem qY {c:Cd} {b:Bd} {f g:Frame} {i:In4} {a:Ask} (h0:0<=f.pc) (h1:f.pc<b.ins.length) (hd:f.stack.length<=100) (hs:stepS c b f i=some (g,a)):O8 b f g a:=by
 have dl:f.stack.dropLast.length<=f.stack.length:=by simp
 have fin:∀{op},aV op f=some (g,a)->O8 b f g a:=by
  intro op hs;simp only [aV] at hs
  split at hs
  ·simp at hs;obtain ⟨rfl,rfl⟩:=hs
   refine ⟨rfl,rfl,rfl,rfl,rfl,rfl,?_,?_,?_,.inr ⟨by simp [aI],rfl⟩,by simp [aI],by simp [aI],by simp [aI],by simp⟩
   ·simp [next,pass,ox,ep];omega
   ·simp [next,pass,ox,ep];omega
   ·simp [next,pass,ox,ep];omega
  ·simp at hs
 revert hs
 refine kG (fun o=>o=some (g,a)->O8 b f g a) ?_ ?_ ?_ ?_ ?_ (fun _=>fin) (fun _=>fin) (fun _=>fin) (fun _=>fin) (fun _=>fin) ?_ ?_ ?_ ?_ ?_ ?_ ?_ ?_ (fun _=>fin) ?_
 all_goals intro ho hs
 ·simp only [kt] at hs;split at hs
  ·simp at hs;obtain ⟨rfl,rfl⟩:=hs
   refine ⟨rfl,rfl,rfl,rfl,rfl,rfl,?_,?_,?_,.inr ⟨by simp [aI],rfl⟩,by simp [aI],by simp [aI],by simp [aI],by simp⟩<;>simp [next,pass,ox]<;>omega
  ·simp at hs
 ·simp only [fM] at hs;split at hs
  ·split at hs
   ·rename_i hw;simp at hs;obtain ⟨rfl,rfl⟩:=hs
    exact ⟨rfl,rfl,rfl,rfl,rfl,rfl,hd,h0,by omega,.inl ⟨by simp,rfl,wj hw⟩,by simp,by simp [aI],by simp,by simp⟩
   ·split at hs
    ·simp at hs;obtain ⟨rfl,rfl⟩:=hs
     refine ⟨rfl,rfl,rfl,rfl,rfl,rfl,?_,?_,?_,.inr ⟨by simp [aI],rfl⟩,by simp [aI],by simp [aI],by simp [aI],by simp⟩<;>simp [next,pass,ox]<;>omega
    ·simp at hs
  ·simp at hs
 ·simp only [rG] at hs;split at hs
  ·split at hs
   ·rename_i hw;simp at hs;obtain ⟨rfl,rfl⟩:=hs
    exact ⟨rfl,rfl,rfl,rfl,rfl,rfl,hd,h0,by omega,.inl ⟨by simp,rfl,wj hw⟩,by simp,by simp [aI],by simp,by simp⟩
   ·split at hs
    ·simp at hs
    ·simp at hs;obtain ⟨rfl,rfl⟩:=hs
     refine ⟨rfl,rfl,rfl,rfl,rfl,by simp [next,pass,G4,ep],?_,?_,?_,.inr ⟨by simp [aI],rfl⟩,by simp [aI],by simp [aI],by simp [aI],by simp⟩<;>simp [next,pass,G4,ep]<;>omega
  ·simp at hs
 ·simp only [pq] at hs;split at hs
  ·simp at hs;obtain ⟨rfl,rfl⟩:=hs
   refine ⟨rfl,rfl,rfl,rfl,rfl,rfl,?_,?_,?_,.inr ⟨by simp,rfl⟩,by simp,by simp [aI],by simp,by simp⟩<;>simp [next,pass]<;>omega
  ·simp at hs
 ·simp only [ig] at hs;split at hs
  ·simp at hs;obtain ⟨rfl,rfl⟩:=hs
   refine ⟨rfl,rfl,rfl,rfl,rfl,rfl,?_,?_,?_,.inr ⟨by simp,rfl⟩,by simp,by simp [aI],by simp,by simp⟩<;>simp [next,pass,ep]<;>omega
  ·simp at hs
 ·simp only [fR] at hs;split at hs
  ·simp at hs;obtain ⟨rfl,rfl⟩:=hs
   refine ⟨rfl,rfl,rfl,rfl,rfl,rfl,?_,?_,?_,.inr ⟨by simp,rfl⟩,by simp,by simp [aI],by simp,by simp⟩<;>simp [next,pass,j7]<;>omega
  ·simp at hs
 ·simp only [pv] at hs;split at hs
  ·simp at hs;obtain ⟨rfl,rfl⟩:=hs
   refine ⟨rfl,rfl,rfl,rfl,rfl,rfl,?_,?_,?_,.inr ⟨by simp [aI],rfl⟩,by simp [aI],by simp [aI],by simp [aI],by simp⟩<;>simp [next,pass,ep]<;>omega
  ·simp at hs
 ·simp only [cM] at hs;split at hs
  ·rename_i hw;simp at hs;obtain ⟨rfl,rfl⟩:=hs
   refine ⟨rfl,rfl,rfl,rfl,rfl,rfl,?_,?_,?_,.inr ⟨by simp,rfl⟩,fun _=>hw.2.1,by simp,by simp,by simp⟩<;>simp [next,pass,j7]<;>omega
  ·simp at hs
 ·simp only [jW] at hs;split at hs
  ·simp at hs;obtain ⟨rfl,rfl⟩:=hs
   refine ⟨rfl,rfl,rfl,rfl,rfl,rfl,?_,?_,?_,.inr ⟨by simp [aI],rfl⟩,by simp [aI],by simp [aI],by simp [aI],by simp⟩<;>simp [next,pass]<;>omega
  ·rename_i hw;simp at hs;obtain ⟨rfl,rfl⟩:=hs
   exact ⟨rfl,rfl,rfl,rfl,rfl,rfl,hd,h0,by omega,.inl ⟨by simp,rfl,hw⟩,by simp,by simp [aI],by simp,by simp⟩
 ·simp only [px] at hs;split at hs
  ·rename_i hw;simp [below] at hw;simp at hs;obtain ⟨rfl,rfl⟩:=hs
   refine ⟨rfl,rfl,rfl,rfl,rfl,rfl,?_,?_,?_,.inr ⟨by simp [aI],rfl⟩,by simp [aI],by simp [aI],by simp [aI],by simp⟩<;>simp [pass]<;>omega
  ·simp at hs
 ·simp only [ku] at hs;split at hs
  ·rename_i hw;simp [below] at hw;split at hs
   ·simp at hs;obtain ⟨rfl,rfl⟩:=hs
    refine ⟨rfl,rfl,rfl,rfl,rfl,rfl,?_,?_,?_,.inr ⟨by simp [aI],rfl⟩,by simp [aI],by simp [aI],by simp [aI],by simp⟩<;>simp [pass,ep]<;>omega
   ·simp at hs;obtain ⟨rfl,rfl⟩:=hs
    refine ⟨rfl,rfl,rfl,rfl,rfl,rfl,?_,?_,?_,.inr ⟨by simp [aI],rfl⟩,by simp [aI],by simp [aI],by simp [aI],by simp⟩<;>simp [next,pass,ep]<;>omega
  ·simp at hs
 ·simp only [tC] at hs;split at hs
  ·split at hs
   ·simp at hs
   ·simp at hs;obtain ⟨rfl,rfl⟩:=hs
    refine ⟨rfl,rfl,rfl,rfl,rfl,rfl,?_,?_,?_,.inr ⟨by simp,rfl⟩,by simp,by simp [aI],by simp,by simp⟩<;>simp [next,pass,ep]<;>omega
  ·rename_i hw;simp at hs;obtain ⟨rfl,rfl⟩:=hs
   exact ⟨rfl,rfl,rfl,rfl,rfl,rfl,hd,h0,by omega,.inl ⟨by simp,rfl,hw⟩,by simp,by simp [aI],by simp,by simp⟩
 ·simp only [dD] at hs;split at hs
  ·simp at hs;obtain ⟨rfl,rfl⟩:=hs
   refine ⟨rfl,rfl,rfl,rfl,rfl,rfl,?_,?_,?_,.inr ⟨by simp [aI],rfl⟩,by simp [aI],by simp [aI],by simp [aI],by simp⟩<;>simp [next,pass,ep]<;>omega
  ·simp at hs
 ·simp at hs
inductive Out where
 | err (e:Int)
 | ok (f:Frame) (a:Ask)
def cm (b:Bd) (f:Frame):In4:=b.ins.getD f.pc.toNat ⟨0,0,0,0⟩
def runN (c:Cd) (b:Bd):Nat->Frame->Out
 | 0,_=>.err 11
 | n+1,f=>
  if f.spent=2000 then .err 11
  else if below f.pc b.ins.length=false then .err 1
  else match stepS c b f (cm b f) with
   | none=>.err 1
   | some (g,a)=>if a.kind=0 then runN c b n g else .ok g a
def cn (f:Frame):Nat:=(2001 - f.spent).toNat
def cq (c:Cd) (f:Frame):Out:=if right c f then runN c (dm c f) (cn f) f else .err 1
def J2 (a:Ask):Dat:=if a.kind=4 then ae a.args else .nil
def O9 (a:Ask):Dat:=.agg [I a.kind,I a.a,I a.b,I a.op.1,I a.op.2.1,I a.op.2.2.1,I a.op.2.2.2,J2 a]
def Yf (f0:Frame):Out->Dat
 | .err e=>.tuple [bS f0,O9 aI,I e]
 | .ok f a=>.tuple [bS f,O9 a,I 0]
end Uw.Tryz.Vm
namespace Uw
open Go Go.RowKit
variable [Glob]
theorem bN.same {P:Program} {f:FuncId} {vs:List V} {h h' : Heap} {nx:Nat} {Q:Res->Heap->Nat->Prop} (hl:∀i,look h' i=look h i) (hs:bN P f vs h nx Q):bN P f vs h' nx Q:=by
 refine ⟨hs.1,fun c w0 F gvs e1 e2 e3 e4 e5=>?_⟩;have hk:∀i,look h i=look c.heap i:=by rw [e1];exact fun i=>(hl i).symm
 have hI:∀b o,Imm c b o->Imm { c with heap:=h } b o:=by
  rintro b o (hi|⟨i1,i2,i3⟩)
  ·exact .inl hi
  ·exact .inr ⟨i1,i2,fun id blk hb=>i3 id blk (by rw [<- hk];exact hb)⟩
 have evo:Evo c { c with heap:=h }:=⟨fun b o hi=>⟨hI b o hi,rfl⟩,fun id b hb=>⟨b,by rw [hk];exact hb,cD.refl _ _⟩⟩
 have hh:cz { c with heap:=h } w0 nx:=by
  refine ⟨e2.below,e2.other,e2.kd,?_,?_,?_,?_⟩
  ·intro id b hb
   exact cj.evo evo rfl (fun _=>rfl) (e2.blk id b (by rw [<- hk];exact hb))
  ·intro id b hb;exact e2.lt id b (by rw [<- hk];exact hb)
  ·intro id b hb;exact e2.ge id b (by rw [<- hk];exact hb)
  ·intro id id' b b' hb hb';exact e2.inj id id' b b' (by rw [<- hk];exact hb) (by rw [<- hk];exact hb')
 exact hs.2 { c with heap:=h } w0 F gvs rfl hh e3 (F.ok c _ (evo.toK _) e4) (aC.evo evo _ _ e5)
theorem bN.dup {P:Program} {f:FuncId} {vs:List V} {k:Nat} {a z:Blk} {h:Heap} {nx:Nat} {Q:Res->Heap->Nat->Prop} (hs:bN P f vs ((k,a)::h) nx Q):bN P f vs ((k,a)::(k,z)::h) nx Q:=
 bN.same (fun i=>by simp only [look];cases Nat.beq k i<;>rfl) hs
end Uw
namespace Uw.Tryz.Vm
open Go Uw Uw.Tryz
theorem cf {c:Cd} {b:Bd} {f g:Frame} {i:In4} {a:Ask} (hs:stepS c b f i=some (g,a)) (h:i.op≠13):a.kind≠4:=by
 have fin:∀{op},aV op f=some (g,a)->a.kind≠4:=by
  intro op hs;simp only [aV] at hs
  split at hs
  ·simp at hs;obtain ⟨rfl,rfl⟩:=hs;simp [aI]
  ·simp at hs
 revert hs
 refine kG (fun o=>o=some (g,a)->a.kind≠4) ?_ ?_ ?_ ?_ ?_ (fun _=>fin) (fun _=>fin) (fun _=>fin) (fun _=>fin) (fun _=>fin) ?_ ?_ (fun e=>absurd e h) ?_ ?_ ?_ ?_ ?_ (fun _=>fin) ?_
 all_goals intro ho hs
 ·simp only [kt] at hs;split at hs
  ·simp at hs;obtain ⟨rfl,rfl⟩:=hs;simp [aI]
  ·simp at hs
 ·simp only [fM] at hs;repeat' split at hs
  ·simp at hs;obtain ⟨rfl,rfl⟩:=hs;simp
  ·simp at hs;obtain ⟨rfl,rfl⟩:=hs;simp [aI]
  ·simp at hs
  ·simp at hs
 ·simp only [rG] at hs;repeat' split at hs
  ·simp at hs;obtain ⟨rfl,rfl⟩:=hs;simp
  ·simp at hs
  ·simp at hs;obtain ⟨rfl,rfl⟩:=hs;simp [aI]
  ·simp at hs
 ·simp only [pq] at hs;split at hs
  ·simp at hs;obtain ⟨rfl,rfl⟩:=hs;simp
  ·simp at hs
 ·simp only [ig] at hs;split at hs
  ·simp at hs;obtain ⟨rfl,rfl⟩:=hs;simp
  ·simp at hs
 ·simp only [fR] at hs;split at hs
  ·simp at hs;obtain ⟨rfl,rfl⟩:=hs;simp
  ·simp at hs
 ·simp only [pv] at hs;split at hs
  ·simp at hs;obtain ⟨rfl,rfl⟩:=hs;simp [aI]
  ·simp at hs
 ·simp only [jW] at hs;split at hs
  ·simp at hs;obtain ⟨rfl,rfl⟩:=hs;simp [aI]
  ·simp at hs;obtain ⟨rfl,rfl⟩:=hs;simp
 ·simp only [px] at hs;split at hs
  ·simp at hs;obtain ⟨rfl,rfl⟩:=hs;simp [aI]
  ·simp at hs
 ·simp only [ku] at hs;repeat' split at hs
  ·simp at hs;obtain ⟨rfl,rfl⟩:=hs;simp [aI]
  ·simp at hs;obtain ⟨rfl,rfl⟩:=hs;simp [aI]
  ·simp at hs
 ·simp only [tC] at hs;repeat' split at hs
  ·simp at hs
  ·simp at hs;obtain ⟨rfl,rfl⟩:=hs;simp
  ·simp at hs;obtain ⟨rfl,rfl⟩:=hs;simp
 ·simp only [dD] at hs;split at hs
  ·simp at hs;obtain ⟨rfl,rfl⟩:=hs;simp [aI]
  ·simp at hs
 ·simp at hs
theorem G6 {c:Cd} {b:Bd} {f g:Frame} {i:In4} {a:Ask} (hs:cM c f i=some (g,a)):a.kind=4:=by
 simp only [cM] at hs;split at hs
 ·simp at hs;obtain ⟨rfl,rfl⟩:=hs;rfl
 ·simp at hs
end Uw.Tryz.Vm
namespace Uw.Tryz.Vm
open Go Uw Uw.Tryz
inductive LS where
 | at (x:LX) (a:Ask)
 | spawned (x:LX) (a:Ask)
def G7:jm:=[(2,.ptr 0 0),(3,.ptr 1 0),(4,.ptr 2 0),(5,.ptr 3 0),(6,.ptr 4 0),(7,.ptr 5 0),(8,.ptr 17 0)]
def kH:List V:=[.func 52 [] [.ptr 1 0,.ptr 2 0,.ptr 3 0,.ptr 4 0]]
def bF (c:Cd) (b:Bd) (f0:Frame):LS->St
 | .at x a=>⟨G7,bR c b f0 x (yC a),18,kH,0⟩
 | .spawned x a=>⟨G7,(18,.mt 1 0 (rows a.args))::bR c b f0 x (Lt a (.ref 18 0 0 a.args.length)),19,kH,0⟩
def cI (c:Cd) (b:Bd) (f0:Frame) (o:Out):LS->Prop
 | .at x a=>Mid c b x/\dX x.f/\((a=aI/\runN c b (cn x.f) x.f=o)\/(a.kind≠0/\a.kind≠4/\o = .ok x.f a))
 | .spawned x a=>Mid c b x/\dX x.f/\a.kind=4/\o = .ok x.f a
def dp:LS->Nat
 | .at x a=>if a.kind=0 then cn x.f+1 else 0
 | .spawned _ _=>0
theorem calm (h:Heap) (nx:Nat):tr P0 jf [.ptr 1 0,.ptr 2 0,.ptr 3 0,.ptr 4 0] h nx none (fun h' nx'=>h' = h/\nx' = nx):=by
 refine jA oP.h rfl ?_;refine aR rfl ?_;exact ai ⟨.inl rfl,rfl,rfl,rfl⟩
theorem Pj (c:Cd) (b:Bd) (f0:Frame) (x:LX) (ask:List V) (i:In4) (z:List V) (nx:Nat) (e:Int):tr P0 jf [.ptr 1 0,.ptr 2 0,.ptr 3 0,.ptr 4 0] (bR c b f0 x ask) nx (some (.iface 28 (I e)))
  (fun h' nx'=>h' = (4,.var [.d (I e)])::(4,.var [.d (I 1)])::(3,.var aL)::(2,.var (V.bX (bS f0)).cells)::bR c b f0 x ask/\nx' = nx):=by
 refine jA oP.h rfl ?_;refine ah rfl ?_;refine ah rfl ?_;exact ai ⟨.inl rfl,rfl,rfl,rfl⟩
theorem fy (c:Cd) (b:Bd) (f0:Frame) (x:LX) (ask:List V) (i:In4) (z:List V) (nx:Nat) (e:Int):tr P0 jf [.ptr 1 0,.ptr 2 0,.ptr 3 0,.ptr 4 0] (LH c b f0 x ask i) nx (some (.iface 28 (I e)))
  (fun h' nx'=>h' = (4,.var [.d (I e)])::(4,.var [.d (I 1)])::(3,.var aL)::(2,.var (V.bX (bS f0)).cells)::LH c b f0 x ask i/\nx' = nx):=by
 refine jA oP.h rfl ?_;refine ah rfl ?_;refine ah rfl ?_;exact ai ⟨.inl rfl,rfl,rfl,rfl⟩
theorem Pm (c:Cd) (b:Bd) (f0:Frame) (x:LX) (ask:List V) (i:In4) (z:List V) (nx:Nat) (e:Int):tr P0 jf [.ptr 1 0,.ptr 2 0,.ptr 3 0,.ptr 4 0] ((18,.var (eO i))::(18,.var z)::bR c b f0 x ask) nx (some (.iface 28 (I e)))
  (fun h' nx'=>h' = (4,.var [.d (I e)])::(4,.var [.d (I 1)])::(3,.var aL)::(2,.var (V.bX (bS f0)).cells)::(18,.var (eO i))::(18,.var z)::bR c b f0 x ask/\nx' = nx):=by
 refine jA oP.h rfl ?_;refine ah rfl ?_;refine ah rfl ?_;exact ai ⟨.inl rfl,rfl,rfl,rfl⟩
theorem wk {n:Int} (h0:1<=n) (h1:n<20):n=1\/n=2\/n=3\/n=4\/n=5\/n=6\/n=7\/n=8\/n=9\/n=10\/n=11\/n=12\/n=13\/n=14\/n=15\/n=16\/n=17\/n=18\/n=19:=by omega
theorem cB {c:Cd} {b:Bd} {f:Frame} {o:Out} (hr:runN c b (cn f) f=o) (h0:f.spent<2000) (hp:below f.pc b.ins.length=true):o=match stepS c b f (cm b f) with
   | none=>.err 1
   | some (g,a)=>if a.kind=0 then runN c b (cn f - 1) g else .ok g a:=by
 obtain ⟨n,hn⟩:∃n,cn f=n+1:=⟨cn f - 1,by simp only [cn];omega⟩
 rw [hn] at hr ⊢;rw [<- hr,runN,if_neg (by omega),if_neg (by rw [hp];simp)];rfl
theorem Mid.inv {c:Cd} {b:Bd} {x:LX} (h:Mid c b x) (hp:x.f.pc<1000) (hs:x.f.spent<2000) (h1:b.ins.length<1000) (h2:c.am.length<1000) (h3:c.cells.length<1000):Inv c b x:=
 ⟨h.pre,h.len,h.le,h.loc,h.deep,h.pc0,hp,h.sp0,hs,h.pK,h.kids,h1,h2,h3⟩
theorem cJ {c:Cd} {b:Bd} {f0:Frame} {o:Out} {x y:LX} {a:Ask} (hx:Inv c b x) (hv:dX x.f) (hpc:x.f.pc<b.ins.length) (hr:runN c b (cn x.f) x.f=o) (hs:stepS c b x.f (cm b x.f)=some (y.f,a)) (hm:Mid c b y) (h4:a.kind≠4) :
  cI c b f0 o (.at y a)/\dp (.at y a)<dp (.at x aI):=by
 have st:=qY hx.pc0 hpc hx.deep hs;have hvy:=xw hv hs;have hrun:=cB hr hx.sp1 (by have:=hx.pc0;simp [below];omega);rw [hs] at hrun;have h1:=hx.sp1;by_cases hk:a.kind=0
 ·simp only [hk,if_true] at hrun
  have hsp:y.f.spent=x.f.spent+1:=by
   rcases st.spent with ⟨h,_⟩|⟨_,h⟩
   ·omega
   ·exact h
  have hfu:cn x.f - 1=cn y.f:=by simp only [cn];omega
  refine ⟨⟨hm,hvy,.inl ⟨st.WX hk,?_⟩⟩,?_⟩
  ·rw [<- hfu,hrun]
  ·simp only [dp,hk,if_true,show aI.kind=0 from rfl,cn];omega
 ·simp only [hk,if_false] at hrun
  exact ⟨⟨hm,hvy,.inr ⟨hk,h4,hrun⟩⟩,by simp [dp,hk,show aI.kind=0 from rfl]⟩
theorem Lx {l:List (List Dat)} {n:Nat} {s:List Int} (h:l.take n=rows s):(l.drop 0).take n=rows s:=by rw [YY];exact h
theorem DF {c:Cd} {b:Bd} {x:LX} (h:Mid c b x):(Dat.agg [I x.f.task,.slice 1 (((rows x.f.path).drop 0).take x.f.path.length) false,I x.f.fn,I x.f.pc,.slice 1 ((x.ls.drop 0).take x.f.loc.length) false,.slice 1 ((x.xs.drop 0).take x.n) false,.slice 2 (((ew x.f.kids).drop 0).take x.f.kids.length) false,I x.f.many,I x.f.spent,.bool x.f.fail])=bS x.f:=by
 rw [Lx h.pre,h.loc,YY,YY,YY];rw [i5 (by simp [rows]),i5 (by simp [rows]),i5 (by simp [ew])];rfl
def loopBody:bE:=(.seq (.seq (.ops [⟨none,(some 28),(.fld 19 (.t 7))⟩,⟨none,(some 29),(.fld 0 (.t 28))⟩,⟨none,(some 30),(.load false 1 (.t 29))⟩,⟨none,(some 31),(.bin .eql (.t 30) (.c (.int .i64 0)))⟩]) (.cond (.t 31) .skip (.exit 0))) (.block 1 (.seq (.seq (.ops [⟨none,(some 32),(.fld 9 (.t 7))⟩,⟨none,(some 33),(.fld 8 (.t 32))⟩,⟨none,(some 34),(.load false 1 (.t 33))⟩,⟨none,(some 35),(.bin .eql (.t 34) (.c (.int .i64 2000)))⟩]) (.cond (.t 35) (.ops [⟨none,(some 36),(.Ky 28 (.c (.int .i64 11)))⟩,⟨none,none,(.panic (.t 36))⟩]) .skip)) (.seq (.ops [⟨none,(some 37),(.fld 9 (.t 7))⟩,⟨none,(some 38),(.fld 3 (.t 37))⟩,⟨none,(some 39),(.load false 1 (.t 38))⟩,⟨none,(some 40),(.fld 6 (.t 7))⟩,⟨none,(some 41),(.fld 2 (.t 40))⟩,⟨none,(some 42),(.load false 1 (.t 41))⟩,⟨none,(some 43),(.len false (.t 42))⟩,⟨none,(some 44),(.call 56 [(.t 39),(.t 43)])⟩,⟨none,(some 45),(.sub 55 [(.t 7),(.t 44)])⟩]) (.seq (.ops [⟨none,(some 46),(.fld 6 (.t 7))⟩,⟨none,(some 47),(.fld 2 (.t 46))⟩,⟨none,(some 48),(.load false 1 (.t 47))⟩,⟨none,(some 49),(.fld 9 (.t 7))⟩,⟨none,(some 50),(.fld 3 (.t 49))⟩,⟨none,(some 51),(.load false 1 (.t 50))⟩,⟨none,(some 52),(.idx 4 (.t 48) (.t 51))⟩,⟨none,(some 53),(.load true 4 (.t 52))⟩,⟨none,(some 9),(.alloc [(.int .i64 0),(.int .i64 0),(.int .i64 0),(.int .i64 0)])⟩,⟨none,none,(.store 4 (.t 9) (.t 53))⟩]) (.seq (.ops [⟨none,(some 54),(.fld 0 (.t 9))⟩,⟨none,(some 55),(.load false 1 (.t 54))⟩,⟨none,(some 56),(.bin .geq (.t 55) (.c (.int .i64 1)))⟩,⟨none,(some 57),(.mov (.t 56))⟩,⟨(some (57,true)),(some 58),(.fld 0 (.t 9))⟩,⟨(some (57,true)),(some 59),(.load false 1 (.t 58))⟩,⟨(some (57,true)),(some 60),(.bin .lss (.t 59) (.c (.int .i64 20)))⟩,⟨none,(some 61),(.pick (.t 57) (.t 60) (.c (.bool false)))⟩,⟨none,(some 62),(.sub 55 [(.t 7),(.t 61)])⟩]) (.ops [⟨none,(some 63),(.fld 0 (.t 9))⟩,⟨none,(some 64),(.load false 1 (.t 63))⟩,⟨none,(some 65),(.DY 20 1 (.t 8) (.t 64))⟩,⟨none,(some 66),(.fld 0 (.t 65))⟩,⟨none,(some 67),(.load false 1 (.t 66))⟩,⟨none,(some 68),(.load true 4 (.t 9))⟩,⟨none,(some 69),(.Kx (.t 67) [(.t 7),(.t 68)])⟩])))))))
def WY (f0:Frame) (h:Heap) (nx:Nat) (e:Int):Prop:=tr P0 jf [.ptr 1 0,.ptr 2 0,.ptr 3 0,.ptr 4 0] h nx (some (.iface 28 (I e)))
  (fun h' nx'=>h' = (4,.var [.d (I e)])::(4,.var [.d (I 1)])::(3,.var aL)::(2,.var (V.bX (bS f0)).cells)::h/\nx' = nx)
def oy (f0:Frame) (o:Out) (Q:az->St->Prop):Prop:=∀(regs:jm) (h:Heap) (nx:Nat) (e:Int),look regs 4=some (.ptr 2 0)->look regs 5=some (.ptr 3 0)->look regs 6=some (.ptr 4 0)->WY f0 h nx e->o = .err e->
  Q (.panic (.iface 28 (I e))) ⟨regs,h,nx,kH,0⟩
theorem Ly (c:Cd) (b:Bd) (f:Frame) (o:Out) (x:LX) (hm:Mid c b x) (hv:dX x.f) (hrun:runN c b (cn x.f) x.f=o) (Q:az->St->Prop) (cF:oy f o Q) (h:x.f.spent=2000):WT P0 (cK (bF c b f) (cI c b f o) dp (.at x aI) Q) (exec loopBody (bF c b f (.at x aI)) Tree.done):=by
 refine ah rfl ?_;refine ah (by simp [h]) ?_;exact cu (cF _ _ _ 11 rfl rfl rfl (Pj c b f x aL ⟨0,0,0,0⟩ [] 18 11) (by rw [<- hrun,show cn x.f=0+1 by simp only [cn];omega,runN,if_pos h]))
theorem WZ (c:Cd) (b:Bd) (f:Frame) (o:Out) (x:LX) (hm:Mid c b x) (hv:dX x.f) (hrun:runN c b (cn x.f) x.f=o) (Q:az->St->Prop) (cF:oy f o Q) (h:x.f.spent<2000) (hpc:below x.f.pc b.ins.length=false):WT P0 (cK (bF c b f) (cI c b f o) dp (.at x aI) Q) (exec loopBody (bF c b f (.at x aI)) Tree.done):=by
 refine ah rfl ?_;refine aR (by simp;omega) ?_;refine aK _ (s25 _ _) ?_;refine ax (aT _ _ _ _) ?_;rintro _ _ _ ⟨rfl,rfl,⟨dE,rfl⟩|⟨dE,rfl⟩⟩
 ·exfalso;simp [below] at hpc;simp at dE;omega
 refine cu (cF _ _ _ 1 rfl rfl rfl (Pj c b f x aL ⟨0,0,0,0⟩ [] 18 1) ?_);obtain ⟨n,hn⟩:∃n,cn x.f=n+1:=⟨cn x.f - 1,by simp only [cn];omega⟩
 rw [<- hrun,hn,runN,if_neg (by omega),if_pos hpc]
theorem Yg (c:Cd) (b:Bd) (f:Frame) (o:Out) (x:LX) (hm:Mid c b x) (hv:dX x.f) (hrun:runN c b (cn x.f) x.f=o) (Q:az->St->Prop) (cF:oy f o Q) (hx:Inv c b x) (bW:0<=x.f.pc/\x.f.pc<b.ins.length) (ia ib ic:Int) (hi:cm b x.f=⟨1,ia,ib,ic⟩):WT P0 (cK (bF c b f) (cI c b f o) dp (.at x aI) Q) (exec loopBody (bF c b f (.at x aI)) Tree.done):=by
 have hs1:stepS c b x.f ⟨1,ia,ib,ic⟩=kt x.f ⟨1,ia,ib,ic⟩:=rfl;have hS:=bN.dup (k:=18) (a:=.var (eO ⟨1,ia,ib,ic⟩)) (z:=.var [.d (I 0),.d (I 0),.d (I 0),.d (I 0)]) (h:=bR c b f x aL) (Rz c b f x ⟨1,ia,ib,ic⟩ hx);rw [<- hs1] at hS;obtain ⟨s,hst⟩:∃s,stepS c b x.f ⟨1,ia,ib,ic⟩=s:=⟨_,rfl⟩
 rw [hst] at hS;have eZ:below x.f.pc b.ins.length=true:=by simpa [below] using bW
 have h:=hx.sp1;have hi2:b.ins[x.f.pc.toNat]? = some ⟨1,ia,ib,ic⟩:=by
  have e:x.f.pc.toNat<b.ins.length:=by omega
  rw [<- hi];simp [cm,e]
 refine ah rfl ?_;refine aR (by simp;omega) ?_;refine aK _ (s25 _ _) ?_;refine ax (aT _ _ _ _) ?_;rintro _ _ _ ⟨rfl,rfl,⟨-,rfl⟩|⟨dE,rfl⟩⟩;rotate_left
 ·exfalso;simp at dE;omega
 refine ah (by simp;omega) ?_;refine au (in4 ⟨1,ia,ib,ic⟩) (by simp [hi2]) ?_;refine ah rfl ?_;refine ah rfl ?_;refine ax (aT _ _ _ _) ?_;rintro _ _ _ ⟨rfl,rfl,⟨-,rfl⟩|⟨hno,rfl⟩⟩;rotate_left
 ·exfalso;simp at hno
 refine ah rfl ?_;refine ax hS ?_;rintro r h' nx' hD
 cases s with
 | none=>
  obtain ⟨rfl,rfl,y,ask,rfl⟩:=hD;exact cu (cF _ _ _ 1 rfl rfl rfl (fy c b f y ask ⟨1,ia,ib,ic⟩ [] 19 1) (by rw [cB hrun hx.sp1 eZ,hi,hst]))
 | some p=>
  obtain ⟨g,a⟩:=p;obtain ⟨rfl,rfl,y,rfl,hmy,rfl⟩:=hD;have hnx:=cJ (f0:=f) hx hv bW.2 hrun (by rw [hi];exact hst) hmy (cf hst (by show (1:Int)≠13;decide));exact aN (.at y a) hnx.1 hnx.2 (Weak.eqs [] (by kernel_rfl) (by kernel_rfl) (by kernel_rfl) (by kernel_rfl) (by kernel_rfl) (by kernel_rfl) (by kernel_rfl) (by kernel_rfl) (by kernel_rfl) (by kernel_rfl))
theorem Yh (c:Cd) (b:Bd) (f:Frame) (o:Out) (x:LX) (hm:Mid c b x) (hv:dX x.f) (hrun:runN c b (cn x.f) x.f=o) (Q:az->St->Prop) (cF:oy f o Q) (hx:Inv c b x) (bW:0<=x.f.pc/\x.f.pc<b.ins.length) (ia ib ic:Int) (hi:cm b x.f=⟨2,ia,ib,ic⟩):WT P0 (cK (bF c b f) (cI c b f o) dp (.at x aI) Q) (exec loopBody (bF c b f (.at x aI)) Tree.done):=by
 have hs1:stepS c b x.f ⟨2,ia,ib,ic⟩=fM x.f ⟨2,ia,ib,ic⟩:=rfl;have hS:=bN.dup (k:=18) (a:=.var (eO ⟨2,ia,ib,ic⟩)) (z:=.var [.d (I 0),.d (I 0),.d (I 0),.d (I 0)]) (h:=bR c b f x aL) (Ry c b f x ⟨2,ia,ib,ic⟩ hx);rw [<- hs1] at hS;obtain ⟨s,hst⟩:∃s,stepS c b x.f ⟨2,ia,ib,ic⟩=s:=⟨_,rfl⟩
 rw [hst] at hS;have eZ:below x.f.pc b.ins.length=true:=by simpa [below] using bW
 have h:=hx.sp1;have hi2:b.ins[x.f.pc.toNat]? = some ⟨2,ia,ib,ic⟩:=by
  have e:x.f.pc.toNat<b.ins.length:=by omega
  rw [<- hi];simp [cm,e]
 refine ah rfl ?_;refine aR (by simp;omega) ?_;refine aK _ (s25 _ _) ?_;refine ax (aT _ _ _ _) ?_;rintro _ _ _ ⟨rfl,rfl,⟨-,rfl⟩|⟨dE,rfl⟩⟩;rotate_left
 ·exfalso;simp at dE;omega
 refine ah (by simp;omega) ?_;refine au (in4 ⟨2,ia,ib,ic⟩) (by simp [hi2]) ?_;refine ah rfl ?_;refine ah rfl ?_;refine ax (aT _ _ _ _) ?_;rintro _ _ _ ⟨rfl,rfl,⟨-,rfl⟩|⟨hno,rfl⟩⟩;rotate_left
 ·exfalso;simp at hno
 refine ah rfl ?_;refine ax hS ?_;rintro r h' nx' hD
 cases s with
 | none=>
  obtain ⟨rfl,rfl,y,ask,rfl⟩:=hD;exact cu (cF _ _ _ 1 rfl rfl rfl (fy c b f y ask ⟨2,ia,ib,ic⟩ [] 19 1) (by rw [cB hrun hx.sp1 eZ,hi,hst]))
 | some p=>
  obtain ⟨g,a⟩:=p;obtain ⟨rfl,rfl,y,rfl,hmy,rfl⟩:=hD;have hnx:=cJ (f0:=f) hx hv bW.2 hrun (by rw [hi];exact hst) hmy (cf hst (by show (2:Int)≠13;decide));exact aN (.at y a) hnx.1 hnx.2 (Weak.eqs [] (by kernel_rfl) (by kernel_rfl) (by kernel_rfl) (by kernel_rfl) (by kernel_rfl) (by kernel_rfl) (by kernel_rfl) (by kernel_rfl) (by kernel_rfl) (by kernel_rfl))
theorem Yi (c:Cd) (b:Bd) (f:Frame) (o:Out) (x:LX) (hm:Mid c b x) (hv:dX x.f) (hrun:runN c b (cn x.f) x.f=o) (Q:az->St->Prop) (cF:oy f o Q) (hx:Inv c b x) (bW:0<=x.f.pc/\x.f.pc<b.ins.length) (ia ib ic:Int) (hi:cm b x.f=⟨3,ia,ib,ic⟩):WT P0 (cK (bF c b f) (cI c b f o) dp (.at x aI) Q) (exec loopBody (bF c b f (.at x aI)) Tree.done):=by
 have hs1:stepS c b x.f ⟨3,ia,ib,ic⟩=rG x.f ⟨3,ia,ib,ic⟩:=rfl;have hS:=bN.dup (k:=18) (a:=.var (eO ⟨3,ia,ib,ic⟩)) (z:=.var [.d (I 0),.d (I 0),.d (I 0),.d (I 0)]) (h:=bR c b f x aL) (WU c b f x ⟨3,ia,ib,ic⟩ hx);rw [<- hs1] at hS;obtain ⟨s,hst⟩:∃s,stepS c b x.f ⟨3,ia,ib,ic⟩=s:=⟨_,rfl⟩
 rw [hst] at hS;have eZ:below x.f.pc b.ins.length=true:=by simpa [below] using bW
 have h:=hx.sp1;have hi2:b.ins[x.f.pc.toNat]? = some ⟨3,ia,ib,ic⟩:=by
  have e:x.f.pc.toNat<b.ins.length:=by omega
  rw [<- hi];simp [cm,e]
 refine ah rfl ?_;refine aR (by simp;omega) ?_;refine aK _ (s25 _ _) ?_;refine ax (aT _ _ _ _) ?_;rintro _ _ _ ⟨rfl,rfl,⟨-,rfl⟩|⟨dE,rfl⟩⟩;rotate_left
 ·exfalso;simp at dE;omega
 refine ah (by simp;omega) ?_;refine au (in4 ⟨3,ia,ib,ic⟩) (by simp [hi2]) ?_;refine ah rfl ?_;refine ah rfl ?_;refine ax (aT _ _ _ _) ?_;rintro _ _ _ ⟨rfl,rfl,⟨-,rfl⟩|⟨hno,rfl⟩⟩;rotate_left
 ·exfalso;simp at hno
 refine ah rfl ?_;refine ax hS ?_;rintro r h' nx' hD
 cases s with
 | none=>
  obtain ⟨rfl,rfl,y,ask,rfl⟩:=hD;exact cu (cF _ _ _ 1 rfl rfl rfl (fy c b f y ask ⟨3,ia,ib,ic⟩ [] 19 1) (by rw [cB hrun hx.sp1 eZ,hi,hst]))
 | some p=>
  obtain ⟨g,a⟩:=p;obtain ⟨rfl,rfl,y,rfl,hmy,rfl⟩:=hD;have hnx:=cJ (f0:=f) hx hv bW.2 hrun (by rw [hi];exact hst) hmy (cf hst (by show (3:Int)≠13;decide));exact aN (.at y a) hnx.1 hnx.2 (Weak.eqs [] (by kernel_rfl) (by kernel_rfl) (by kernel_rfl) (by kernel_rfl) (by kernel_rfl) (by kernel_rfl) (by kernel_rfl) (by kernel_rfl) (by kernel_rfl) (by kernel_rfl))
theorem Yj (c:Cd) (b:Bd) (f:Frame) (o:Out) (x:LX) (hm:Mid c b x) (hv:dX x.f) (hrun:runN c b (cn x.f) x.f=o) (Q:az->St->Prop) (cF:oy f o Q) (hx:Inv c b x) (bW:0<=x.f.pc/\x.f.pc<b.ins.length) (ia ib ic:Int) (hi:cm b x.f=⟨4,ia,ib,ic⟩):WT P0 (cK (bF c b f) (cI c b f o) dp (.at x aI) Q) (exec loopBody (bF c b f (.at x aI)) Tree.done):=by
 have hs1:stepS c b x.f ⟨4,ia,ib,ic⟩=pq c x.f ⟨4,ia,ib,ic⟩:=rfl;have hS:=bN.dup (k:=18) (a:=.var (eO ⟨4,ia,ib,ic⟩)) (z:=.var [.d (I 0),.d (I 0),.d (I 0),.d (I 0)]) (h:=bR c b f x aL) (Vq c b f x ⟨4,ia,ib,ic⟩ hx);rw [<- hs1] at hS;obtain ⟨s,hst⟩:∃s,stepS c b x.f ⟨4,ia,ib,ic⟩=s:=⟨_,rfl⟩
 rw [hst] at hS;have eZ:below x.f.pc b.ins.length=true:=by simpa [below] using bW
 have h:=hx.sp1;have hi2:b.ins[x.f.pc.toNat]? = some ⟨4,ia,ib,ic⟩:=by
  have e:x.f.pc.toNat<b.ins.length:=by omega
  rw [<- hi];simp [cm,e]
 refine ah rfl ?_;refine aR (by simp;omega) ?_;refine aK _ (s25 _ _) ?_;refine ax (aT _ _ _ _) ?_;rintro _ _ _ ⟨rfl,rfl,⟨-,rfl⟩|⟨dE,rfl⟩⟩;rotate_left
 ·exfalso;simp at dE;omega
 refine ah (by simp;omega) ?_;refine au (in4 ⟨4,ia,ib,ic⟩) (by simp [hi2]) ?_;refine ah rfl ?_;refine ah rfl ?_;refine ax (aT _ _ _ _) ?_;rintro _ _ _ ⟨rfl,rfl,⟨-,rfl⟩|⟨hno,rfl⟩⟩;rotate_left
 ·exfalso;simp at hno
 refine ah rfl ?_;refine ax hS ?_;rintro r h' nx' hD
 cases s with
 | none=>
  obtain ⟨rfl,rfl,y,ask,rfl⟩:=hD;exact cu (cF _ _ _ 1 rfl rfl rfl (fy c b f y ask ⟨4,ia,ib,ic⟩ [] 19 1) (by rw [cB hrun hx.sp1 eZ,hi,hst]))
 | some p=>
  obtain ⟨g,a⟩:=p;obtain ⟨rfl,rfl,y,rfl,hmy,rfl⟩:=hD;have hnx:=cJ (f0:=f) hx hv bW.2 hrun (by rw [hi];exact hst) hmy (cf hst (by show (4:Int)≠13;decide));exact aN (.at y a) hnx.1 hnx.2 (Weak.eqs [] (by kernel_rfl) (by kernel_rfl) (by kernel_rfl) (by kernel_rfl) (by kernel_rfl) (by kernel_rfl) (by kernel_rfl) (by kernel_rfl) (by kernel_rfl) (by kernel_rfl))
theorem Yk (c:Cd) (b:Bd) (f:Frame) (o:Out) (x:LX) (hm:Mid c b x) (hv:dX x.f) (hrun:runN c b (cn x.f) x.f=o) (Q:az->St->Prop) (cF:oy f o Q) (hx:Inv c b x) (bW:0<=x.f.pc/\x.f.pc<b.ins.length) (ia ib ic:Int) (hi:cm b x.f=⟨5,ia,ib,ic⟩):WT P0 (cK (bF c b f) (cI c b f o) dp (.at x aI) Q) (exec loopBody (bF c b f (.at x aI)) Tree.done):=by
 have hs1:stepS c b x.f ⟨5,ia,ib,ic⟩=ig c x.f ⟨5,ia,ib,ic⟩:=rfl;have hS:=bN.dup (k:=18) (a:=.var (eO ⟨5,ia,ib,ic⟩)) (z:=.var [.d (I 0),.d (I 0),.d (I 0),.d (I 0)]) (h:=bR c b f x aL) (RA c b f x ⟨5,ia,ib,ic⟩ hx);rw [<- hs1] at hS;obtain ⟨s,hst⟩:∃s,stepS c b x.f ⟨5,ia,ib,ic⟩=s:=⟨_,rfl⟩
 rw [hst] at hS;have eZ:below x.f.pc b.ins.length=true:=by simpa [below] using bW
 have h:=hx.sp1;have hi2:b.ins[x.f.pc.toNat]? = some ⟨5,ia,ib,ic⟩:=by
  have e:x.f.pc.toNat<b.ins.length:=by omega
  rw [<- hi];simp [cm,e]
 refine ah rfl ?_;refine aR (by simp;omega) ?_;refine aK _ (s25 _ _) ?_;refine ax (aT _ _ _ _) ?_;rintro _ _ _ ⟨rfl,rfl,⟨-,rfl⟩|⟨dE,rfl⟩⟩;rotate_left
 ·exfalso;simp at dE;omega
 refine ah (by simp;omega) ?_;refine au (in4 ⟨5,ia,ib,ic⟩) (by simp [hi2]) ?_;refine ah rfl ?_;refine ah rfl ?_;refine ax (aT _ _ _ _) ?_;rintro _ _ _ ⟨rfl,rfl,⟨-,rfl⟩|⟨hno,rfl⟩⟩;rotate_left
 ·exfalso;simp at hno
 refine ah rfl ?_;refine ax hS ?_;rintro r h' nx' hD
 cases s with
 | none=>
  obtain ⟨rfl,rfl,y,ask,rfl⟩:=hD;exact cu (cF _ _ _ 1 rfl rfl rfl (fy c b f y ask ⟨5,ia,ib,ic⟩ [] 19 1) (by rw [cB hrun hx.sp1 eZ,hi,hst]))
 | some p=>
  obtain ⟨g,a⟩:=p;obtain ⟨rfl,rfl,y,rfl,hmy,rfl⟩:=hD;have hnx:=cJ (f0:=f) hx hv bW.2 hrun (by rw [hi];exact hst) hmy (cf hst (by show (5:Int)≠13;decide));exact aN (.at y a) hnx.1 hnx.2 (Weak.eqs [] (by kernel_rfl) (by kernel_rfl) (by kernel_rfl) (by kernel_rfl) (by kernel_rfl) (by kernel_rfl) (by kernel_rfl) (by kernel_rfl) (by kernel_rfl) (by kernel_rfl))
theorem Yl (c:Cd) (b:Bd) (f:Frame) (o:Out) (x:LX) (hm:Mid c b x) (hv:dX x.f) (hrun:runN c b (cn x.f) x.f=o) (Q:az->St->Prop) (cF:oy f o Q) (hx:Inv c b x) (bW:0<=x.f.pc/\x.f.pc<b.ins.length) (ia ib ic:Int) (hi:cm b x.f=⟨6,ia,ib,ic⟩):WT P0 (cK (bF c b f) (cI c b f o) dp (.at x aI) Q) (exec loopBody (bF c b f (.at x aI)) Tree.done):=by
 have hs1:stepS c b x.f ⟨6,ia,ib,ic⟩=aV (fun x y=>ca (x+y)) x.f:=rfl;have hS:=bN.dup (k:=18) (a:=.var (eO ⟨6,ia,ib,ic⟩)) (z:=.var [.d (I 0),.d (I 0),.d (I 0),.d (I 0)]) (h:=bR c b f x aL) (WO c b f x ⟨6,ia,ib,ic⟩ hx);rw [<- hs1] at hS;obtain ⟨s,hst⟩:∃s,stepS c b x.f ⟨6,ia,ib,ic⟩=s:=⟨_,rfl⟩
 rw [hst] at hS;have eZ:below x.f.pc b.ins.length=true:=by simpa [below] using bW
 have h:=hx.sp1;have hi2:b.ins[x.f.pc.toNat]? = some ⟨6,ia,ib,ic⟩:=by
  have e:x.f.pc.toNat<b.ins.length:=by omega
  rw [<- hi];simp [cm,e]
 refine ah rfl ?_;refine aR (by simp;omega) ?_;refine aK _ (s25 _ _) ?_;refine ax (aT _ _ _ _) ?_;rintro _ _ _ ⟨rfl,rfl,⟨-,rfl⟩|⟨dE,rfl⟩⟩;rotate_left
 ·exfalso;simp at dE;omega
 refine ah (by simp;omega) ?_;refine au (in4 ⟨6,ia,ib,ic⟩) (by simp [hi2]) ?_;refine ah rfl ?_;refine ah rfl ?_;refine ax (aT _ _ _ _) ?_;rintro _ _ _ ⟨rfl,rfl,⟨-,rfl⟩|⟨hno,rfl⟩⟩;rotate_left
 ·exfalso;simp at hno
 refine ah rfl ?_;refine ax hS ?_;rintro r h' nx' hD
 cases s with
 | none=>
  obtain ⟨rfl,rfl,y,ask,rfl⟩:=hD;exact cu (cF _ _ _ 1 rfl rfl rfl (fy c b f y ask ⟨6,ia,ib,ic⟩ [] 19 1) (by rw [cB hrun hx.sp1 eZ,hi,hst]))
 | some p=>
  obtain ⟨g,a⟩:=p;obtain ⟨rfl,rfl,y,rfl,hmy,rfl⟩:=hD;have hnx:=cJ (f0:=f) hx hv bW.2 hrun (by rw [hi];exact hst) hmy (cf hst (by show (6:Int)≠13;decide));exact aN (.at y a) hnx.1 hnx.2 (Weak.eqs [] (by kernel_rfl) (by kernel_rfl) (by kernel_rfl) (by kernel_rfl) (by kernel_rfl) (by kernel_rfl) (by kernel_rfl) (by kernel_rfl) (by kernel_rfl) (by kernel_rfl))
theorem Ym (c:Cd) (b:Bd) (f:Frame) (o:Out) (x:LX) (hm:Mid c b x) (hv:dX x.f) (hrun:runN c b (cn x.f) x.f=o) (Q:az->St->Prop) (cF:oy f o Q) (hx:Inv c b x) (bW:0<=x.f.pc/\x.f.pc<b.ins.length) (ia ib ic:Int) (hi:cm b x.f=⟨7,ia,ib,ic⟩):WT P0 (cK (bF c b f) (cI c b f o) dp (.at x aI) Q) (exec loopBody (bF c b f (.at x aI)) Tree.done):=by
 have hs1:stepS c b x.f ⟨7,ia,ib,ic⟩=aV (fun x y=>ca (x - y)) x.f:=rfl;have hS:=bN.dup (k:=18) (a:=.var (eO ⟨7,ia,ib,ic⟩)) (z:=.var [.d (I 0),.d (I 0),.d (I 0),.d (I 0)]) (h:=bR c b f x aL) (WQ c b f x ⟨7,ia,ib,ic⟩ hx);rw [<- hs1] at hS;obtain ⟨s,hst⟩:∃s,stepS c b x.f ⟨7,ia,ib,ic⟩=s:=⟨_,rfl⟩
 rw [hst] at hS;have eZ:below x.f.pc b.ins.length=true:=by simpa [below] using bW
 have h:=hx.sp1;have hi2:b.ins[x.f.pc.toNat]? = some ⟨7,ia,ib,ic⟩:=by
  have e:x.f.pc.toNat<b.ins.length:=by omega
  rw [<- hi];simp [cm,e]
 refine ah rfl ?_;refine aR (by simp;omega) ?_;refine aK _ (s25 _ _) ?_;refine ax (aT _ _ _ _) ?_;rintro _ _ _ ⟨rfl,rfl,⟨-,rfl⟩|⟨dE,rfl⟩⟩;rotate_left
 ·exfalso;simp at dE;omega
 refine ah (by simp;omega) ?_;refine au (in4 ⟨7,ia,ib,ic⟩) (by simp [hi2]) ?_;refine ah rfl ?_;refine ah rfl ?_;refine ax (aT _ _ _ _) ?_;rintro _ _ _ ⟨rfl,rfl,⟨-,rfl⟩|⟨hno,rfl⟩⟩;rotate_left
 ·exfalso;simp at hno
 refine ah rfl ?_;refine ax hS ?_;rintro r h' nx' hD
 cases s with
 | none=>
  obtain ⟨rfl,rfl,y,ask,rfl⟩:=hD;exact cu (cF _ _ _ 1 rfl rfl rfl (fy c b f y ask ⟨7,ia,ib,ic⟩ [] 19 1) (by rw [cB hrun hx.sp1 eZ,hi,hst]))
 | some p=>
  obtain ⟨g,a⟩:=p;obtain ⟨rfl,rfl,y,rfl,hmy,rfl⟩:=hD;have hnx:=cJ (f0:=f) hx hv bW.2 hrun (by rw [hi];exact hst) hmy (cf hst (by show (7:Int)≠13;decide));exact aN (.at y a) hnx.1 hnx.2 (Weak.eqs [] (by kernel_rfl) (by kernel_rfl) (by kernel_rfl) (by kernel_rfl) (by kernel_rfl) (by kernel_rfl) (by kernel_rfl) (by kernel_rfl) (by kernel_rfl) (by kernel_rfl))
theorem Yn (c:Cd) (b:Bd) (f:Frame) (o:Out) (x:LX) (hm:Mid c b x) (hv:dX x.f) (hrun:runN c b (cn x.f) x.f=o) (Q:az->St->Prop) (cF:oy f o Q) (hx:Inv c b x) (bW:0<=x.f.pc/\x.f.pc<b.ins.length) (ia ib ic:Int) (hi:cm b x.f=⟨8,ia,ib,ic⟩):WT P0 (cK (bF c b f) (cI c b f o) dp (.at x aI) Q) (exec loopBody (bF c b f (.at x aI)) Tree.done):=by
 have hs1:stepS c b x.f ⟨8,ia,ib,ic⟩=aV (fun x y=>ca (x * y)) x.f:=rfl;have hS:=bN.dup (k:=18) (a:=.var (eO ⟨8,ia,ib,ic⟩)) (z:=.var [.d (I 0),.d (I 0),.d (I 0),.d (I 0)]) (h:=bR c b f x aL) (WR c b f x ⟨8,ia,ib,ic⟩ hx);rw [<- hs1] at hS;obtain ⟨s,hst⟩:∃s,stepS c b x.f ⟨8,ia,ib,ic⟩=s:=⟨_,rfl⟩
 rw [hst] at hS;have eZ:below x.f.pc b.ins.length=true:=by simpa [below] using bW
 have h:=hx.sp1;have hi2:b.ins[x.f.pc.toNat]? = some ⟨8,ia,ib,ic⟩:=by
  have e:x.f.pc.toNat<b.ins.length:=by omega
  rw [<- hi];simp [cm,e]
 refine ah rfl ?_;refine aR (by simp;omega) ?_;refine aK _ (s25 _ _) ?_;refine ax (aT _ _ _ _) ?_;rintro _ _ _ ⟨rfl,rfl,⟨-,rfl⟩|⟨dE,rfl⟩⟩;rotate_left
 ·exfalso;simp at dE;omega
 refine ah (by simp;omega) ?_;refine au (in4 ⟨8,ia,ib,ic⟩) (by simp [hi2]) ?_;refine ah rfl ?_;refine ah rfl ?_;refine ax (aT _ _ _ _) ?_;rintro _ _ _ ⟨rfl,rfl,⟨-,rfl⟩|⟨hno,rfl⟩⟩;rotate_left
 ·exfalso;simp at hno
 refine ah rfl ?_;refine ax hS ?_;rintro r h' nx' hD
 cases s with
 | none=>
  obtain ⟨rfl,rfl,y,ask,rfl⟩:=hD;exact cu (cF _ _ _ 1 rfl rfl rfl (fy c b f y ask ⟨8,ia,ib,ic⟩ [] 19 1) (by rw [cB hrun hx.sp1 eZ,hi,hst]))
 | some p=>
  obtain ⟨g,a⟩:=p;obtain ⟨rfl,rfl,y,rfl,hmy,rfl⟩:=hD;have hnx:=cJ (f0:=f) hx hv bW.2 hrun (by rw [hi];exact hst) hmy (cf hst (by show (8:Int)≠13;decide));exact aN (.at y a) hnx.1 hnx.2 (Weak.eqs [] (by kernel_rfl) (by kernel_rfl) (by kernel_rfl) (by kernel_rfl) (by kernel_rfl) (by kernel_rfl) (by kernel_rfl) (by kernel_rfl) (by kernel_rfl) (by kernel_rfl))
theorem Yo (c:Cd) (b:Bd) (f:Frame) (o:Out) (x:LX) (hm:Mid c b x) (hv:dX x.f) (hrun:runN c b (cn x.f) x.f=o) (Q:az->St->Prop) (cF:oy f o Q) (hx:Inv c b x) (bW:0<=x.f.pc/\x.f.pc<b.ins.length) (ia ib ic:Int) (hi:cm b x.f=⟨9,ia,ib,ic⟩):WT P0 (cK (bF c b f) (cI c b f o) dp (.at x aI) Q) (exec loopBody (bF c b f (.at x aI)) Tree.done):=by
 have hs1:stepS c b x.f ⟨9,ia,ib,ic⟩=aV (fun x y=>truth (decide (x<y))) x.f:=rfl;have hS:=bN.dup (k:=18) (a:=.var (eO ⟨9,ia,ib,ic⟩)) (z:=.var [.d (I 0),.d (I 0),.d (I 0),.d (I 0)]) (h:=bR c b f x aL) (Vv c b f x ⟨9,ia,ib,ic⟩ hx);rw [<- hs1] at hS;obtain ⟨s,hst⟩:∃s,stepS c b x.f ⟨9,ia,ib,ic⟩=s:=⟨_,rfl⟩
 rw [hst] at hS;have eZ:below x.f.pc b.ins.length=true:=by simpa [below] using bW
 have h:=hx.sp1;have hi2:b.ins[x.f.pc.toNat]? = some ⟨9,ia,ib,ic⟩:=by
  have e:x.f.pc.toNat<b.ins.length:=by omega
  rw [<- hi];simp [cm,e]
 refine ah rfl ?_;refine aR (by simp;omega) ?_;refine aK _ (s25 _ _) ?_;refine ax (aT _ _ _ _) ?_;rintro _ _ _ ⟨rfl,rfl,⟨-,rfl⟩|⟨dE,rfl⟩⟩;rotate_left
 ·exfalso;simp at dE;omega
 refine ah (by simp;omega) ?_;refine au (in4 ⟨9,ia,ib,ic⟩) (by simp [hi2]) ?_;refine ah rfl ?_;refine ah rfl ?_;refine ax (aT _ _ _ _) ?_;rintro _ _ _ ⟨rfl,rfl,⟨-,rfl⟩|⟨hno,rfl⟩⟩;rotate_left
 ·exfalso;simp at hno
 refine ah rfl ?_;refine ax hS ?_;rintro r h' nx' hD
 cases s with
 | none=>
  obtain ⟨rfl,rfl,y,ask,rfl⟩:=hD;exact cu (cF _ _ _ 1 rfl rfl rfl (fy c b f y ask ⟨9,ia,ib,ic⟩ [] 19 1) (by rw [cB hrun hx.sp1 eZ,hi,hst]))
 | some p=>
  obtain ⟨g,a⟩:=p;obtain ⟨rfl,rfl,y,rfl,hmy,rfl⟩:=hD;have hnx:=cJ (f0:=f) hx hv bW.2 hrun (by rw [hi];exact hst) hmy (cf hst (by show (9:Int)≠13;decide));exact aN (.at y a) hnx.1 hnx.2 (Weak.eqs [] (by kernel_rfl) (by kernel_rfl) (by kernel_rfl) (by kernel_rfl) (by kernel_rfl) (by kernel_rfl) (by kernel_rfl) (by kernel_rfl) (by kernel_rfl) (by kernel_rfl))
theorem W4 (c:Cd) (b:Bd) (f:Frame) (o:Out) (x:LX) (hm:Mid c b x) (hv:dX x.f) (hrun:runN c b (cn x.f) x.f=o) (Q:az->St->Prop) (cF:oy f o Q) (hx:Inv c b x) (bW:0<=x.f.pc/\x.f.pc<b.ins.length) (ia ib ic:Int) (hi:cm b x.f=⟨10,ia,ib,ic⟩):WT P0 (cK (bF c b f) (cI c b f o) dp (.at x aI) Q) (exec loopBody (bF c b f (.at x aI)) Tree.done):=by
 have hs1:stepS c b x.f ⟨10,ia,ib,ic⟩=aV (fun x y=>truth (decide (x=y))) x.f:=rfl;have hS:=bN.dup (k:=18) (a:=.var (eO ⟨10,ia,ib,ic⟩)) (z:=.var [.d (I 0),.d (I 0),.d (I 0),.d (I 0)]) (h:=bR c b f x aL) (i_eq c b f x ⟨10,ia,ib,ic⟩ hx);rw [<- hs1] at hS;obtain ⟨s,hst⟩:∃s,stepS c b x.f ⟨10,ia,ib,ic⟩=s:=⟨_,rfl⟩
 rw [hst] at hS;have eZ:below x.f.pc b.ins.length=true:=by simpa [below] using bW
 have h:=hx.sp1;have hi2:b.ins[x.f.pc.toNat]? = some ⟨10,ia,ib,ic⟩:=by
  have e:x.f.pc.toNat<b.ins.length:=by omega
  rw [<- hi];simp [cm,e]
 refine ah rfl ?_;refine aR (by simp;omega) ?_;refine aK _ (s25 _ _) ?_;refine ax (aT _ _ _ _) ?_;rintro _ _ _ ⟨rfl,rfl,⟨-,rfl⟩|⟨dE,rfl⟩⟩;rotate_left
 ·exfalso;simp at dE;omega
 refine ah (by simp;omega) ?_;refine au (in4 ⟨10,ia,ib,ic⟩) (by simp [hi2]) ?_;refine ah rfl ?_;refine ah rfl ?_;refine ax (aT _ _ _ _) ?_;rintro _ _ _ ⟨rfl,rfl,⟨-,rfl⟩|⟨hno,rfl⟩⟩;rotate_left
 ·exfalso;simp at hno
 refine ah rfl ?_;refine ax hS ?_;rintro r h' nx' hD
 cases s with
 | none=>
  obtain ⟨rfl,rfl,y,ask,rfl⟩:=hD;exact cu (cF _ _ _ 1 rfl rfl rfl (fy c b f y ask ⟨10,ia,ib,ic⟩ [] 19 1) (by rw [cB hrun hx.sp1 eZ,hi,hst]))
 | some p=>
  obtain ⟨g,a⟩:=p;obtain ⟨rfl,rfl,y,rfl,hmy,rfl⟩:=hD;have hnx:=cJ (f0:=f) hx hv bW.2 hrun (by rw [hi];exact hst) hmy (cf hst (by show (10:Int)≠13;decide));exact aN (.at y a) hnx.1 hnx.2 (Weak.eqs [] (by kernel_rfl) (by kernel_rfl) (by kernel_rfl) (by kernel_rfl) (by kernel_rfl) (by kernel_rfl) (by kernel_rfl) (by kernel_rfl) (by kernel_rfl) (by kernel_rfl))
theorem W5 (c:Cd) (b:Bd) (f:Frame) (o:Out) (x:LX) (hm:Mid c b x) (hv:dX x.f) (hrun:runN c b (cn x.f) x.f=o) (Q:az->St->Prop) (cF:oy f o Q) (hx:Inv c b x) (bW:0<=x.f.pc/\x.f.pc<b.ins.length) (ia ib ic:Int) (hi:cm b x.f=⟨11,ia,ib,ic⟩):WT P0 (cK (bF c b f) (cI c b f o) dp (.at x aI) Q) (exec loopBody (bF c b f (.at x aI)) Tree.done):=by
 have hs1:stepS c b x.f ⟨11,ia,ib,ic⟩=fR c x.f ⟨11,ia,ib,ic⟩:=rfl;have hS:=bN.dup (k:=18) (a:=.var (eO ⟨11,ia,ib,ic⟩)) (z:=.var [.d (I 0),.d (I 0),.d (I 0),.d (I 0)]) (h:=bR c b f x aL) (Vx c b f x ⟨11,ia,ib,ic⟩ hx);rw [<- hs1] at hS;obtain ⟨s,hst⟩:∃s,stepS c b x.f ⟨11,ia,ib,ic⟩=s:=⟨_,rfl⟩
 rw [hst] at hS;have eZ:below x.f.pc b.ins.length=true:=by simpa [below] using bW
 have h:=hx.sp1;have hi2:b.ins[x.f.pc.toNat]? = some ⟨11,ia,ib,ic⟩:=by
  have e:x.f.pc.toNat<b.ins.length:=by omega
  rw [<- hi];simp [cm,e]
 refine ah rfl ?_;refine aR (by simp;omega) ?_;refine aK _ (s25 _ _) ?_;refine ax (aT _ _ _ _) ?_;rintro _ _ _ ⟨rfl,rfl,⟨-,rfl⟩|⟨dE,rfl⟩⟩;rotate_left
 ·exfalso;simp at dE;omega
 refine ah (by simp;omega) ?_;refine au (in4 ⟨11,ia,ib,ic⟩) (by simp [hi2]) ?_;refine ah rfl ?_;refine ah rfl ?_;refine ax (aT _ _ _ _) ?_;rintro _ _ _ ⟨rfl,rfl,⟨-,rfl⟩|⟨hno,rfl⟩⟩;rotate_left
 ·exfalso;simp at hno
 refine ah rfl ?_;refine ax hS ?_;rintro r h' nx' hD
 cases s with
 | none=>
  obtain ⟨rfl,rfl,y,ask,rfl⟩:=hD;exact cu (cF _ _ _ 1 rfl rfl rfl (fy c b f y ask ⟨11,ia,ib,ic⟩ [] 19 1) (by rw [cB hrun hx.sp1 eZ,hi,hst]))
 | some p=>
  obtain ⟨g,a⟩:=p;obtain ⟨rfl,rfl,y,rfl,hmy,rfl⟩:=hD;have hnx:=cJ (f0:=f) hx hv bW.2 hrun (by rw [hi];exact hst) hmy (cf hst (by show (11:Int)≠13;decide));exact aN (.at y a) hnx.1 hnx.2 (Weak.eqs [] (by kernel_rfl) (by kernel_rfl) (by kernel_rfl) (by kernel_rfl) (by kernel_rfl) (by kernel_rfl) (by kernel_rfl) (by kernel_rfl) (by kernel_rfl) (by kernel_rfl))
theorem W6 (c:Cd) (b:Bd) (f:Frame) (o:Out) (x:LX) (hm:Mid c b x) (hv:dX x.f) (hrun:runN c b (cn x.f) x.f=o) (Q:az->St->Prop) (cF:oy f o Q) (hx:Inv c b x) (bW:0<=x.f.pc/\x.f.pc<b.ins.length) (ia ib ic:Int) (hi:cm b x.f=⟨12,ia,ib,ic⟩):WT P0 (cK (bF c b f) (cI c b f o) dp (.at x aI) Q) (exec loopBody (bF c b f (.at x aI)) Tree.done):=by
 have hs1:stepS c b x.f ⟨12,ia,ib,ic⟩=pv x.f:=rfl;have hS:=bN.dup (k:=18) (a:=.var (eO ⟨12,ia,ib,ic⟩)) (z:=.var [.d (I 0),.d (I 0),.d (I 0),.d (I 0)]) (h:=bR c b f x aL) (Vr c b f x ⟨12,ia,ib,ic⟩ hx);rw [<- hs1] at hS;obtain ⟨s,hst⟩:∃s,stepS c b x.f ⟨12,ia,ib,ic⟩=s:=⟨_,rfl⟩
 rw [hst] at hS;have eZ:below x.f.pc b.ins.length=true:=by simpa [below] using bW
 have h:=hx.sp1;have hi2:b.ins[x.f.pc.toNat]? = some ⟨12,ia,ib,ic⟩:=by
  have e:x.f.pc.toNat<b.ins.length:=by omega
  rw [<- hi];simp [cm,e]
 refine ah rfl ?_;refine aR (by simp;omega) ?_;refine aK _ (s25 _ _) ?_;refine ax (aT _ _ _ _) ?_;rintro _ _ _ ⟨rfl,rfl,⟨-,rfl⟩|⟨dE,rfl⟩⟩;rotate_left
 ·exfalso;simp at dE;omega
 refine ah (by simp;omega) ?_;refine au (in4 ⟨12,ia,ib,ic⟩) (by simp [hi2]) ?_;refine ah rfl ?_;refine ah rfl ?_;refine ax (aT _ _ _ _) ?_;rintro _ _ _ ⟨rfl,rfl,⟨-,rfl⟩|⟨hno,rfl⟩⟩;rotate_left
 ·exfalso;simp at hno
 refine ah rfl ?_;refine ax hS ?_;rintro r h' nx' hD
 cases s with
 | none=>
  obtain ⟨rfl,rfl,y,ask,rfl⟩:=hD;exact cu (cF _ _ _ 1 rfl rfl rfl (fy c b f y ask ⟨12,ia,ib,ic⟩ [] 19 1) (by rw [cB hrun hx.sp1 eZ,hi,hst]))
 | some p=>
  obtain ⟨g,a⟩:=p;obtain ⟨rfl,rfl,y,rfl,hmy,rfl⟩:=hD;have hnx:=cJ (f0:=f) hx hv bW.2 hrun (by rw [hi];exact hst) hmy (cf hst (by show (12:Int)≠13;decide));exact aN (.at y a) hnx.1 hnx.2 (Weak.eqs [] (by kernel_rfl) (by kernel_rfl) (by kernel_rfl) (by kernel_rfl) (by kernel_rfl) (by kernel_rfl) (by kernel_rfl) (by kernel_rfl) (by kernel_rfl) (by kernel_rfl))
theorem W7 (c:Cd) (b:Bd) (f:Frame) (o:Out) (x:LX) (hm:Mid c b x) (hv:dX x.f) (hrun:runN c b (cn x.f) x.f=o) (Q:az->St->Prop) (cF:oy f o Q) (hx:Inv c b x) (bW:0<=x.f.pc/\x.f.pc<b.ins.length) (ia ib ic:Int) (hi:cm b x.f=⟨13,ia,ib,ic⟩):WT P0 (cK (bF c b f) (cI c b f o) dp (.at x aI) Q) (exec loopBody (bF c b f (.at x aI)) Tree.done):=by
 have hs1:stepS c b x.f ⟨13,ia,ib,ic⟩=cM c x.f ⟨13,ia,ib,ic⟩:=rfl;have hS:=bN.dup (k:=18) (a:=.var (eO ⟨13,ia,ib,ic⟩)) (z:=.var [.d (I 0),.d (I 0),.d (I 0),.d (I 0)]) (h:=bR c b f x aL) (RB c b f x ⟨13,ia,ib,ic⟩ hx);rw [<- hs1] at hS;obtain ⟨s,hst⟩:∃s,stepS c b x.f ⟨13,ia,ib,ic⟩=s:=⟨_,rfl⟩
 rw [hst] at hS;have eZ:below x.f.pc b.ins.length=true:=by simpa [below] using bW
 have h:=hx.sp1;have hi2:b.ins[x.f.pc.toNat]? = some ⟨13,ia,ib,ic⟩:=by
  have e:x.f.pc.toNat<b.ins.length:=by omega
  rw [<- hi];simp [cm,e]
 refine ah rfl ?_;refine aR (by simp;omega) ?_;refine aK _ (s25 _ _) ?_;refine ax (aT _ _ _ _) ?_;rintro _ _ _ ⟨rfl,rfl,⟨-,rfl⟩|⟨dE,rfl⟩⟩;rotate_left
 ·exfalso;simp at dE;omega
 refine ah (by simp;omega) ?_;refine au (in4 ⟨13,ia,ib,ic⟩) (by simp [hi2]) ?_;refine ah rfl ?_;refine ah rfl ?_;refine ax (aT _ _ _ _) ?_;rintro _ _ _ ⟨rfl,rfl,⟨-,rfl⟩|⟨hno,rfl⟩⟩;rotate_left
 ·exfalso;simp at hno
 refine ah rfl ?_;refine ax hS ?_;rintro r h' nx' hD
 cases s with
 | none=>
  obtain ⟨rfl,rfl,y,ask,rfl⟩:=hD;exact cu (cF _ _ _ 1 rfl rfl rfl (fy c b f y ask ⟨13,ia,ib,ic⟩ [] 19 1) (by rw [cB hrun hx.sp1 eZ,hi,hst]))
 | some p=>
  obtain ⟨g,a⟩:=p;obtain ⟨rfl,rfl,y,rfl,hmy,rfl⟩:=hD;have hk:=G6 (b:=b) (hs1.symm.trans hst);have ho' : o = .ok y.f a:=by rw [cB hrun hx.sp1 eZ,hi,hst];simp [hk]
  exact aN (LS.spawned y a) (show cI c b f o (LS.spawned y a) from ⟨hmy,xw hv hst,hk,ho'⟩) (by simp [dp,aI]) (Weak.eqs [(18,19)] (by kernel_rfl) (by kernel_rfl) (by kernel_rfl) (by kernel_rfl) (by kernel_rfl) (by kernel_rfl) (by kernel_rfl) (by kernel_rfl) (by kernel_rfl) (by kernel_rfl))
theorem W8 (c:Cd) (b:Bd) (f:Frame) (o:Out) (x:LX) (hm:Mid c b x) (hv:dX x.f) (hrun:runN c b (cn x.f) x.f=o) (Q:az->St->Prop) (cF:oy f o Q) (hx:Inv c b x) (bW:0<=x.f.pc/\x.f.pc<b.ins.length) (ia ib ic:Int) (hi:cm b x.f=⟨14,ia,ib,ic⟩):WT P0 (cK (bF c b f) (cI c b f o) dp (.at x aI) Q) (exec loopBody (bF c b f (.at x aI)) Tree.done):=by
 have hs1:stepS c b x.f ⟨14,ia,ib,ic⟩=jW x.f:=rfl;have hS:=bN.dup (k:=18) (a:=.var (eO ⟨14,ia,ib,ic⟩)) (z:=.var [.d (I 0),.d (I 0),.d (I 0),.d (I 0)]) (h:=bR c b f x aL) (Vs c b f x ⟨14,ia,ib,ic⟩ hx);rw [<- hs1] at hS;obtain ⟨s,hst⟩:∃s,stepS c b x.f ⟨14,ia,ib,ic⟩=s:=⟨_,rfl⟩
 rw [hst] at hS;have eZ:below x.f.pc b.ins.length=true:=by simpa [below] using bW
 have h:=hx.sp1;have hi2:b.ins[x.f.pc.toNat]? = some ⟨14,ia,ib,ic⟩:=by
  have e:x.f.pc.toNat<b.ins.length:=by omega
  rw [<- hi];simp [cm,e]
 refine ah rfl ?_;refine aR (by simp;omega) ?_;refine aK _ (s25 _ _) ?_;refine ax (aT _ _ _ _) ?_;rintro _ _ _ ⟨rfl,rfl,⟨-,rfl⟩|⟨dE,rfl⟩⟩;rotate_left
 ·exfalso;simp at dE;omega
 refine ah (by simp;omega) ?_;refine au (in4 ⟨14,ia,ib,ic⟩) (by simp [hi2]) ?_;refine ah rfl ?_;refine ah rfl ?_;refine ax (aT _ _ _ _) ?_;rintro _ _ _ ⟨rfl,rfl,⟨-,rfl⟩|⟨hno,rfl⟩⟩;rotate_left
 ·exfalso;simp at hno
 refine ah rfl ?_;refine ax hS ?_;rintro r h' nx' hD
 cases s with
 | none=>
  obtain ⟨rfl,rfl,y,ask,rfl⟩:=hD;exact cu (cF _ _ _ 1 rfl rfl rfl (fy c b f y ask ⟨14,ia,ib,ic⟩ [] 19 1) (by rw [cB hrun hx.sp1 eZ,hi,hst]))
 | some p=>
  obtain ⟨g,a⟩:=p;obtain ⟨rfl,rfl,y,rfl,hmy,rfl⟩:=hD;have hnx:=cJ (f0:=f) hx hv bW.2 hrun (by rw [hi];exact hst) hmy (cf hst (by show (14:Int)≠13;decide));exact aN (.at y a) hnx.1 hnx.2 (Weak.eqs [] (by kernel_rfl) (by kernel_rfl) (by kernel_rfl) (by kernel_rfl) (by kernel_rfl) (by kernel_rfl) (by kernel_rfl) (by kernel_rfl) (by kernel_rfl) (by kernel_rfl))
theorem W9 (c:Cd) (b:Bd) (f:Frame) (o:Out) (x:LX) (hm:Mid c b x) (hv:dX x.f) (hrun:runN c b (cn x.f) x.f=o) (Q:az->St->Prop) (cF:oy f o Q) (hx:Inv c b x) (bW:0<=x.f.pc/\x.f.pc<b.ins.length) (ia ib ic:Int) (hi:cm b x.f=⟨15,ia,ib,ic⟩):WT P0 (cK (bF c b f) (cI c b f o) dp (.at x aI) Q) (exec loopBody (bF c b f (.at x aI)) Tree.done):=by
 have hs1:stepS c b x.f ⟨15,ia,ib,ic⟩=px b x.f ⟨15,ia,ib,ic⟩:=rfl;have hS:=bN.dup (k:=18) (a:=.var (eO ⟨15,ia,ib,ic⟩)) (z:=.var [.d (I 0),.d (I 0),.d (I 0),.d (I 0)]) (h:=bR c b f x aL) (Vt c b f x ⟨15,ia,ib,ic⟩ hx);rw [<- hs1] at hS;obtain ⟨s,hst⟩:∃s,stepS c b x.f ⟨15,ia,ib,ic⟩=s:=⟨_,rfl⟩
 rw [hst] at hS;have eZ:below x.f.pc b.ins.length=true:=by simpa [below] using bW
 have h:=hx.sp1;have hi2:b.ins[x.f.pc.toNat]? = some ⟨15,ia,ib,ic⟩:=by
  have e:x.f.pc.toNat<b.ins.length:=by omega
  rw [<- hi];simp [cm,e]
 refine ah rfl ?_;refine aR (by simp;omega) ?_;refine aK _ (s25 _ _) ?_;refine ax (aT _ _ _ _) ?_;rintro _ _ _ ⟨rfl,rfl,⟨-,rfl⟩|⟨dE,rfl⟩⟩;rotate_left
 ·exfalso;simp at dE;omega
 refine ah (by simp;omega) ?_;refine au (in4 ⟨15,ia,ib,ic⟩) (by simp [hi2]) ?_;refine ah rfl ?_;refine ah rfl ?_;refine ax (aT _ _ _ _) ?_;rintro _ _ _ ⟨rfl,rfl,⟨-,rfl⟩|⟨hno,rfl⟩⟩;rotate_left
 ·exfalso;simp at hno
 refine ah rfl ?_;refine ax hS ?_;rintro r h' nx' hD
 cases s with
 | none=>
  obtain ⟨rfl,rfl,y,ask,rfl⟩:=hD;exact cu (cF _ _ _ 1 rfl rfl rfl (fy c b f y ask ⟨15,ia,ib,ic⟩ [] 19 1) (by rw [cB hrun hx.sp1 eZ,hi,hst]))
 | some p=>
  obtain ⟨g,a⟩:=p;obtain ⟨rfl,rfl,y,rfl,hmy,rfl⟩:=hD;have hnx:=cJ (f0:=f) hx hv bW.2 hrun (by rw [hi];exact hst) hmy (cf hst (by show (15:Int)≠13;decide));exact aN (.at y a) hnx.1 hnx.2 (Weak.eqs [] (by kernel_rfl) (by kernel_rfl) (by kernel_rfl) (by kernel_rfl) (by kernel_rfl) (by kernel_rfl) (by kernel_rfl) (by kernel_rfl) (by kernel_rfl) (by kernel_rfl))
theorem Xk (c:Cd) (b:Bd) (f:Frame) (o:Out) (x:LX) (hm:Mid c b x) (hv:dX x.f) (hrun:runN c b (cn x.f) x.f=o) (Q:az->St->Prop) (cF:oy f o Q) (hx:Inv c b x) (bW:0<=x.f.pc/\x.f.pc<b.ins.length) (ia ib ic:Int) (hi:cm b x.f=⟨16,ia,ib,ic⟩):WT P0 (cK (bF c b f) (cI c b f o) dp (.at x aI) Q) (exec loopBody (bF c b f (.at x aI)) Tree.done):=by
 have hs1:stepS c b x.f ⟨16,ia,ib,ic⟩=ku b x.f ⟨16,ia,ib,ic⟩:=rfl;have hS:=bN.dup (k:=18) (a:=.var (eO ⟨16,ia,ib,ic⟩)) (z:=.var [.d (I 0),.d (I 0),.d (I 0),.d (I 0)]) (h:=bR c b f x aL) (Vu c b f x ⟨16,ia,ib,ic⟩ hx);rw [<- hs1] at hS;obtain ⟨s,hst⟩:∃s,stepS c b x.f ⟨16,ia,ib,ic⟩=s:=⟨_,rfl⟩
 rw [hst] at hS;have eZ:below x.f.pc b.ins.length=true:=by simpa [below] using bW
 have h:=hx.sp1;have hi2:b.ins[x.f.pc.toNat]? = some ⟨16,ia,ib,ic⟩:=by
  have e:x.f.pc.toNat<b.ins.length:=by omega
  rw [<- hi];simp [cm,e]
 refine ah rfl ?_;refine aR (by simp;omega) ?_;refine aK _ (s25 _ _) ?_;refine ax (aT _ _ _ _) ?_;rintro _ _ _ ⟨rfl,rfl,⟨-,rfl⟩|⟨dE,rfl⟩⟩;rotate_left
 ·exfalso;simp at dE;omega
 refine ah (by simp;omega) ?_;refine au (in4 ⟨16,ia,ib,ic⟩) (by simp [hi2]) ?_;refine ah rfl ?_;refine ah rfl ?_;refine ax (aT _ _ _ _) ?_;rintro _ _ _ ⟨rfl,rfl,⟨-,rfl⟩|⟨hno,rfl⟩⟩;rotate_left
 ·exfalso;simp at hno
 refine ah rfl ?_;refine ax hS ?_;rintro r h' nx' hD
 cases s with
 | none=>
  obtain ⟨rfl,rfl,y,ask,rfl⟩:=hD;exact cu (cF _ _ _ 1 rfl rfl rfl (fy c b f y ask ⟨16,ia,ib,ic⟩ [] 19 1) (by rw [cB hrun hx.sp1 eZ,hi,hst]))
 | some p=>
  obtain ⟨g,a⟩:=p;obtain ⟨rfl,rfl,y,rfl,hmy,rfl⟩:=hD;have hnx:=cJ (f0:=f) hx hv bW.2 hrun (by rw [hi];exact hst) hmy (cf hst (by show (16:Int)≠13;decide));exact aN (.at y a) hnx.1 hnx.2 (Weak.eqs [] (by kernel_rfl) (by kernel_rfl) (by kernel_rfl) (by kernel_rfl) (by kernel_rfl) (by kernel_rfl) (by kernel_rfl) (by kernel_rfl) (by kernel_rfl) (by kernel_rfl))
theorem Xl (c:Cd) (b:Bd) (f:Frame) (o:Out) (x:LX) (hm:Mid c b x) (hv:dX x.f) (hrun:runN c b (cn x.f) x.f=o) (Q:az->St->Prop) (cF:oy f o Q) (hx:Inv c b x) (bW:0<=x.f.pc/\x.f.pc<b.ins.length) (ia ib ic:Int) (hi:cm b x.f=⟨17,ia,ib,ic⟩):WT P0 (cK (bF c b f) (cI c b f o) dp (.at x aI) Q) (exec loopBody (bF c b f (.at x aI)) Tree.done):=by
 have hs1:stepS c b x.f ⟨17,ia,ib,ic⟩=tC x.f:=rfl;have hS:=bN.dup (k:=18) (a:=.var (eO ⟨17,ia,ib,ic⟩)) (z:=.var [.d (I 0),.d (I 0),.d (I 0),.d (I 0)]) (h:=bR c b f x aL) (WN c b f x ⟨17,ia,ib,ic⟩ hx);rw [<- hs1] at hS;obtain ⟨s,hst⟩:∃s,stepS c b x.f ⟨17,ia,ib,ic⟩=s:=⟨_,rfl⟩
 rw [hst] at hS;have eZ:below x.f.pc b.ins.length=true:=by simpa [below] using bW
 have h:=hx.sp1;have hi2:b.ins[x.f.pc.toNat]? = some ⟨17,ia,ib,ic⟩:=by
  have e:x.f.pc.toNat<b.ins.length:=by omega
  rw [<- hi];simp [cm,e]
 refine ah rfl ?_;refine aR (by simp;omega) ?_;refine aK _ (s25 _ _) ?_;refine ax (aT _ _ _ _) ?_;rintro _ _ _ ⟨rfl,rfl,⟨-,rfl⟩|⟨dE,rfl⟩⟩;rotate_left
 ·exfalso;simp at dE;omega
 refine ah (by simp;omega) ?_;refine au (in4 ⟨17,ia,ib,ic⟩) (by simp [hi2]) ?_;refine ah rfl ?_;refine ah rfl ?_;refine ax (aT _ _ _ _) ?_;rintro _ _ _ ⟨rfl,rfl,⟨-,rfl⟩|⟨hno,rfl⟩⟩;rotate_left
 ·exfalso;simp at hno
 refine ah rfl ?_;refine ax hS ?_;rintro r h' nx' hD
 cases s with
 | none=>
  obtain ⟨rfl,rfl,y,ask,rfl⟩:=hD;exact cu (cF _ _ _ 1 rfl rfl rfl (fy c b f y ask ⟨17,ia,ib,ic⟩ [] 19 1) (by rw [cB hrun hx.sp1 eZ,hi,hst]))
 | some p=>
  obtain ⟨g,a⟩:=p;obtain ⟨rfl,rfl,y,rfl,hmy,rfl⟩:=hD;have hnx:=cJ (f0:=f) hx hv bW.2 hrun (by rw [hi];exact hst) hmy (cf hst (by show (17:Int)≠13;decide));exact aN (.at y a) hnx.1 hnx.2 (Weak.eqs [] (by kernel_rfl) (by kernel_rfl) (by kernel_rfl) (by kernel_rfl) (by kernel_rfl) (by kernel_rfl) (by kernel_rfl) (by kernel_rfl) (by kernel_rfl) (by kernel_rfl))
theorem Xm (c:Cd) (b:Bd) (f:Frame) (o:Out) (x:LX) (hm:Mid c b x) (hv:dX x.f) (hrun:runN c b (cn x.f) x.f=o) (Q:az->St->Prop) (cF:oy f o Q) (hx:Inv c b x) (bW:0<=x.f.pc/\x.f.pc<b.ins.length) (ia ib ic:Int) (hi:cm b x.f=⟨18,ia,ib,ic⟩):WT P0 (cK (bF c b f) (cI c b f o) dp (.at x aI) Q) (exec loopBody (bF c b f (.at x aI)) Tree.done):=by
 have hs1:stepS c b x.f ⟨18,ia,ib,ic⟩=dD x.f:=rfl;have hS:=bN.dup (k:=18) (a:=.var (eO ⟨18,ia,ib,ic⟩)) (z:=.var [.d (I 0),.d (I 0),.d (I 0),.d (I 0)]) (h:=bR c b f x aL) (O5 c b f x ⟨18,ia,ib,ic⟩ hx);rw [<- hs1] at hS;obtain ⟨s,hst⟩:∃s,stepS c b x.f ⟨18,ia,ib,ic⟩=s:=⟨_,rfl⟩
 rw [hst] at hS;have eZ:below x.f.pc b.ins.length=true:=by simpa [below] using bW
 have h:=hx.sp1;have hi2:b.ins[x.f.pc.toNat]? = some ⟨18,ia,ib,ic⟩:=by
  have e:x.f.pc.toNat<b.ins.length:=by omega
  rw [<- hi];simp [cm,e]
 refine ah rfl ?_;refine aR (by simp;omega) ?_;refine aK _ (s25 _ _) ?_;refine ax (aT _ _ _ _) ?_;rintro _ _ _ ⟨rfl,rfl,⟨-,rfl⟩|⟨dE,rfl⟩⟩;rotate_left
 ·exfalso;simp at dE;omega
 refine ah (by simp;omega) ?_;refine au (in4 ⟨18,ia,ib,ic⟩) (by simp [hi2]) ?_;refine ah rfl ?_;refine ah rfl ?_;refine ax (aT _ _ _ _) ?_;rintro _ _ _ ⟨rfl,rfl,⟨-,rfl⟩|⟨hno,rfl⟩⟩;rotate_left
 ·exfalso;simp at hno
 refine ah rfl ?_;refine ax hS ?_;rintro r h' nx' hD
 cases s with
 | none=>
  obtain ⟨rfl,rfl,y,ask,rfl⟩:=hD;exact cu (cF _ _ _ 1 rfl rfl rfl (fy c b f y ask ⟨18,ia,ib,ic⟩ [] 19 1) (by rw [cB hrun hx.sp1 eZ,hi,hst]))
 | some p=>
  obtain ⟨g,a⟩:=p;obtain ⟨rfl,rfl,y,rfl,hmy,rfl⟩:=hD;have hnx:=cJ (f0:=f) hx hv bW.2 hrun (by rw [hi];exact hst) hmy (cf hst (by show (18:Int)≠13;decide));exact aN (.at y a) hnx.1 hnx.2 (Weak.eqs [] (by kernel_rfl) (by kernel_rfl) (by kernel_rfl) (by kernel_rfl) (by kernel_rfl) (by kernel_rfl) (by kernel_rfl) (by kernel_rfl) (by kernel_rfl) (by kernel_rfl))
theorem Xn (c:Cd) (b:Bd) (f:Frame) (o:Out) (x:LX) (hm:Mid c b x) (hv:dX x.f) (hrun:runN c b (cn x.f) x.f=o) (Q:az->St->Prop) (cF:oy f o Q) (hx:Inv c b x) (bW:0<=x.f.pc/\x.f.pc<b.ins.length) (ia ib ic:Int) (hi:cm b x.f=⟨19,ia,ib,ic⟩):WT P0 (cK (bF c b f) (cI c b f o) dp (.at x aI) Q) (exec loopBody (bF c b f (.at x aI)) Tree.done):=by
 have hs1:stepS c b x.f ⟨19,ia,ib,ic⟩=aV (fun x y=>(x+y) / 2) x.f:=rfl;have hS:=bN.dup (k:=18) (a:=.var (eO ⟨19,ia,ib,ic⟩)) (z:=.var [.d (I 0),.d (I 0),.d (I 0),.d (I 0)]) (h:=bR c b f x aL) (Vw c b f x ⟨19,ia,ib,ic⟩ hx hv.pop.top hv.top);rw [<- hs1] at hS;obtain ⟨s,hst⟩:∃s,stepS c b x.f ⟨19,ia,ib,ic⟩=s:=⟨_,rfl⟩
 rw [hst] at hS;have eZ:below x.f.pc b.ins.length=true:=by simpa [below] using bW
 have h:=hx.sp1;have hi2:b.ins[x.f.pc.toNat]? = some ⟨19,ia,ib,ic⟩:=by
  have e:x.f.pc.toNat<b.ins.length:=by omega
  rw [<- hi];simp [cm,e]
 refine ah rfl ?_;refine aR (by simp;omega) ?_;refine aK _ (s25 _ _) ?_;refine ax (aT _ _ _ _) ?_;rintro _ _ _ ⟨rfl,rfl,⟨-,rfl⟩|⟨dE,rfl⟩⟩;rotate_left
 ·exfalso;simp at dE;omega
 refine ah (by simp;omega) ?_;refine au (in4 ⟨19,ia,ib,ic⟩) (by simp [hi2]) ?_;refine ah rfl ?_;refine ah rfl ?_;refine ax (aT _ _ _ _) ?_;rintro _ _ _ ⟨rfl,rfl,⟨-,rfl⟩|⟨hno,rfl⟩⟩;rotate_left
 ·exfalso;simp at hno
 refine ah rfl ?_;refine ax hS ?_;rintro r h' nx' hD
 cases s with
 | none=>
  obtain ⟨rfl,rfl,y,ask,rfl⟩:=hD;exact cu (cF _ _ _ 1 rfl rfl rfl (fy c b f y ask ⟨19,ia,ib,ic⟩ [] 19 1) (by rw [cB hrun hx.sp1 eZ,hi,hst]))
 | some p=>
  obtain ⟨g,a⟩:=p;obtain ⟨rfl,rfl,y,rfl,hmy,rfl⟩:=hD;have hnx:=cJ (f0:=f) hx hv bW.2 hrun (by rw [hi];exact hst) hmy (cf hst (by show (19:Int)≠13;decide));exact aN (.at y a) hnx.1 hnx.2 (Weak.eqs [] (by kernel_rfl) (by kernel_rfl) (by kernel_rfl) (by kernel_rfl) (by kernel_rfl) (by kernel_rfl) (by kernel_rfl) (by kernel_rfl) (by kernel_rfl) (by kernel_rfl))
theorem Xo (c:Cd) (b:Bd) (f:Frame) (o:Out) (x:LX) (hm:Mid c b x) (hv:dX x.f) (hrun:runN c b (cn x.f) x.f=o) (Q:az->St->Prop) (cF:oy f o Q) (hx:Inv c b x) (bW:0<=x.f.pc/\x.f.pc<b.ins.length) (op ia ib ic:Int) (hi:cm b x.f=⟨op,ia,ib,ic⟩) (hop:op<1\/19<op):WT P0 (cK (bF c b f) (cI c b f o) dp (.at x aI) Q) (exec loopBody (bF c b f (.at x aI)) Tree.done):=by
 have hst:stepS c b x.f ⟨op,ia,ib,ic⟩=none:=kG (fun o=>o=none) (fun e=>by simp at e;omega) (fun e=>by simp at e;omega) (fun e=>by simp at e;omega) (fun e=>by simp at e;omega) (fun e=>by simp at e;omega) (fun e=>by simp at e;omega) (fun e=>by simp at e;omega) (fun e=>by simp at e;omega) (fun e=>by simp at e;omega) (fun e=>by simp at e;omega) (fun e=>by simp at e;omega) (fun e=>by simp at e;omega) (fun e=>by simp at e;omega) (fun e=>by simp at e;omega) (fun e=>by simp at e;omega) (fun e=>by simp at e;omega) (fun e=>by simp at e;omega) (fun e=>by simp at e;omega) (fun e=>by simp at e;omega) (fun _=>rfl);have eZ:below x.f.pc b.ins.length=true:=by simpa [below] using bW
 have h:=hx.sp1;have hi2:b.ins[x.f.pc.toNat]? = some ⟨op,ia,ib,ic⟩:=by
  have e:x.f.pc.toNat<b.ins.length:=by omega
  rw [<- hi];simp [cm,e]
 refine ah rfl ?_;refine aR (by simp;omega) ?_;refine aK _ (s25 _ _) ?_;refine ax (aT _ _ _ _) ?_;rintro _ _ _ ⟨rfl,rfl,⟨-,rfl⟩|⟨dE,rfl⟩⟩;rotate_left
 ·exfalso;simp at dE;omega
 refine ah (by simp;omega) ?_;refine au (in4 ⟨op,ia,ib,ic⟩) (by simp [hi2]) ?_;have ho' : o = .err 1:=by rw [cB hrun hx.sp1 eZ,hi,hst]
 by_cases hop1:1<=op
 ·refine ah (by simp;omega) ?_
  refine ah rfl ?_;refine ax (aT _ _ _ _) ?_;rintro _ _ _ ⟨rfl,rfl,⟨hno,rfl⟩|⟨hno,rfl⟩⟩
  ·exfalso;simp at hno;omega
  ·exact cu (cF _ _ _ 1 rfl rfl rfl (Pm c b f x aL ⟨op,ia,ib,ic⟩ [.d (I 0),.d (I 0),.d (I 0),.d (I 0)] 19 1) ho')
 ·refine aR (by simp;omega) ?_
  refine aR rfl ?_;refine ax (aT _ _ _ _) ?_;rintro _ _ _ ⟨rfl,rfl,⟨hno,rfl⟩|⟨hno,rfl⟩⟩
  ·exfalso;simp at hno
  ·exact cu (cF _ _ _ 1 rfl rfl rfl (Pm c b f x aL ⟨op,ia,ib,ic⟩ [.d (I 0),.d (I 0),.d (I 0),.d (I 0)] 19 1) ho')
theorem rnd (c:Cd) (b:Bd) (f:Frame) (o:Out) (x:LX) (hm:Mid c b x) (hv:dX x.f) (hrun:runN c b (cn x.f) x.f=o) (Q:az->St->Prop) (cF:oy f o Q) (h1:b.ins.length<1000) (h2:c.am.length<1000) (h3:c.cells.length<1000):WT P0 (cK (bF c b f) (cI c b f o) dp (.at x aI) Q) (exec loopBody (bF c b f (.at x aI)) Tree.done):=by
 have q1:=hm.sp0;have q2:=hm.sp1;have q3:=hm.pc0;by_cases hs:x.f.spent=2000
 ·exact Ly c b f o x hm hv hrun Q cF hs
 cases hpc:below x.f.pc b.ins.length with
 | false=>exact WZ c b f o x hm hv hrun Q cF (by omega) hpc
 | true=>
  have bW:0<=x.f.pc/\x.f.pc<b.ins.length:=by simpa [below] using hpc
  have hx:Inv c b x:=hm.inv (by omega) (by omega) h1 h2 h3;obtain ⟨⟨op,ia,ib,ic⟩,hi⟩:∃i,cm b x.f=i:=⟨_,rfl⟩
  by_cases hop:1<=op/\op<20
  ·rcases wk hop.1 hop.2 with rfl|rfl|rfl|rfl|rfl|rfl|rfl|rfl|rfl|rfl|rfl|rfl|rfl|rfl|rfl|rfl|rfl|rfl|rfl
   ·exact Yg c b f o x hm hv hrun Q cF hx bW ia ib ic hi
   ·exact Yh c b f o x hm hv hrun Q cF hx bW ia ib ic hi
   ·exact Yi c b f o x hm hv hrun Q cF hx bW ia ib ic hi
   ·exact Yj c b f o x hm hv hrun Q cF hx bW ia ib ic hi
   ·exact Yk c b f o x hm hv hrun Q cF hx bW ia ib ic hi
   ·exact Yl c b f o x hm hv hrun Q cF hx bW ia ib ic hi
   ·exact Ym c b f o x hm hv hrun Q cF hx bW ia ib ic hi
   ·exact Yn c b f o x hm hv hrun Q cF hx bW ia ib ic hi
   ·exact Yo c b f o x hm hv hrun Q cF hx bW ia ib ic hi
   ·exact W4 c b f o x hm hv hrun Q cF hx bW ia ib ic hi
   ·exact W5 c b f o x hm hv hrun Q cF hx bW ia ib ic hi
   ·exact W6 c b f o x hm hv hrun Q cF hx bW ia ib ic hi
   ·exact W7 c b f o x hm hv hrun Q cF hx bW ia ib ic hi
   ·exact W8 c b f o x hm hv hrun Q cF hx bW ia ib ic hi
   ·exact W9 c b f o x hm hv hrun Q cF hx bW ia ib ic hi
   ·exact Xk c b f o x hm hv hrun Q cF hx bW ia ib ic hi
   ·exact Xl c b f o x hm hv hrun Q cF hx bW ia ib ic hi
   ·exact Xm c b f o x hm hv hrun Q cF hx bW ia ib ic hi
   ·exact Xn c b f o x hm hv hrun Q cF hx bW ia ib ic hi
  ·exact Xo c b f o x hm hv hrun Q cF hx bW op ia ib ic hi (by omega)
end Uw.Tryz.Vm
namespace Uw.Tryz.Vm
open Go Uw Uw.Tryz
theorem sN {α:Type} (p:α->Bool) (l:List α) (k:Nat) (h:k<l.length) (hp:p l[k]=false):l.all p=false:=by
 rw [Z9];exact ⟨l[k],YX _,by simp [hp]⟩
theorem s22 (c:Cd) (f:Frame) (ht:Tiny c f):Ret P0 zJ [cdD c,bS f] (.bool (right c f)):=by
 have t1:=ht.am;have t2:=ht.loc;have t3:=ht.stack;have t4:=ht.kids;obtain ⟨R,hR⟩:∃R,right c f=R:=⟨_,rfl⟩
 obtain ⟨b,hB⟩:∃b,dm c f=b:=⟨_,rfl⟩
 have hR2:=hR;unfold right at hR2;rw [hB] at hR2;rw [hR];by_cases h1:f.task<1
 ·have e:R=false:=by rw [<- hR2];simp [h1]
  refine aj kE.h rfl ?_;refine aR (by simp [h1]) ?_;refine ah rfl ?_;refine ah rfl ?_;exact ag rfl rfl rfl rfl (congrArg Dat.bool e.symm)
 cases h2:below f.fn c.am.length with
 | false=>
  have e:R=false:=by rw [<- hR2,h2];simp
  refine aj kE.h rfl ?_;refine ah (by simp;omega) ?_;refine aK _ (s25 _ _) ?_;refine aR rfl ?_;refine ah (by simp [below] at h2;simp;omega) ?_;exact ag rfl rfl rfl rfl (congrArg Dat.bool e.symm)
 | true=>
 have h2' : 0<=f.fn/\f.fn<c.am.length:=by simpa [below] using h2
 have hlt:f.fn.toNat<c.am.length:=by omega
 have hb:c.am[f.fn.toNat]=b:=by rw [<- hB];simp [dm,hlt]
 have hbi:b.ins.length<1000:=ht.ins _ (by rw [<- hb];exact YX _);have start:∀(Q:az->St->Prop),True:=fun _=>trivial
 cases h3:below f.pc ((b.ins.length:Int)+1) with
 | false=>
  have e:R=false:=by rw [<- hR2,h3];simp
  refine aj kE.h rfl ?_;refine ah (by simp;omega) ?_;refine aK _ (s25 _ _) ?_;refine aR rfl ?_;refine aR (by simp;omega) ?_;refine ah (by simp;omega) ?_;refine au (bdC b) (by simp [hlt,hb]) ?_;refine ah (by simp [inR];omega) ?_;refine aK _ (s25 _ _) ?_;refine aR (by simp [below] at h3;simp;omega) ?_;refine ah rfl ?_;refine aR rfl ?_;refine ah rfl ?_;refine ah rfl ?_;exact ag rfl rfl rfl rfl (congrArg Dat.bool e.symm)
 | true=>
 have h3' : 0<=f.pc/\f.pc<(b.ins.length:Int)+1:=by simpa [below] using h3
 by_cases h4:(f.loc.length:Int)=b.locals
 case neg=>
  have e:R=false:=by rw [<- hR2];simp [h4]
  refine aj kE.h rfl ?_;refine ah (by simp;omega) ?_;refine aK _ (s25 _ _) ?_;refine aR rfl ?_;refine aR (by simp;omega) ?_;refine ah (by simp;omega) ?_;refine au (bdC b) (by simp [hlt,hb]) ?_;refine ah (by simp [inR];omega) ?_;refine aK _ (s25 _ _) ?_;refine ah (by simp;omega) ?_;refine aR rfl ?_;refine aR (by simp [h4]) ?_;refine ah rfl ?_;refine ah rfl ?_;exact ag rfl rfl rfl rfl (congrArg Dat.bool e.symm)
 by_cases h5:100<(f.stack.length:Int)
 case pos=>
  have e:R=false:=by rw [<- hR2];simp [h5]
  refine aj kE.h rfl ?_;refine ah (by simp;omega) ?_;refine aK _ (s25 _ _) ?_;refine aR rfl ?_;refine aR (by simp;omega) ?_;refine ah (by simp;omega) ?_;refine au (bdC b) (by simp [hlt,hb]) ?_;refine ah (by simp [inR];omega) ?_;refine aK _ (s25 _ _) ?_;refine ah (by simp;omega) ?_;refine aR rfl ?_;refine ah (by simp [h4]) ?_;refine aR rfl ?_;refine ah (by simp;omega) ?_;exact ag rfl rfl rfl rfl (congrArg Dat.bool e.symm)
 have hR3:(f.kids.all (wh b.locals)&&f.loc.all isVal&&f.stack.all isVal&&decide (0<=f.many)&&below f.spent 2001)=R:=by
  rw [<- hR2,h2,h3];have e1:decide (f.task<1)=false:=by simp;omega
  have e4:decide ((f.loc.length:Int)=b.locals)=true:=by simp [h4]
  have e5:decide (100<(f.stack.length:Int))=false:=by simp;omega
  rw [e1,e4,e5];simp
 refine aj kE.h rfl ?_;refine ah (by simp;omega) ?_;refine aK _ (s25 _ _) ?_;refine aR rfl ?_;refine aR (by simp;omega) ?_;refine ah (by simp;omega) ?_;refine au (bdC b) (by simp [hlt,hb]) ?_;refine ah (by simp [inR];omega) ?_;refine aK _ (s25 _ _) ?_;refine ah (by simp;omega) ?_;refine aR rfl ?_;refine ah (by simp [h4]) ?_;refine aR rfl ?_;refine aR (by simp;omega) ?_;refine cX (fun k:Int=>⟨[(2,.ptr 0 0),(3,.ptr 1 0),(5,.ptr 2 0),(49,.d (.slice 2 (f.kids.map fL) false)),(50,.d (.int .i64 (f.kids.map fL).length)),(51,.d (.int .i64 k))],[(2,.var (bV b)),(0,.var (V.bX (cdD c)).cells),(1,.var (V.bX (bS f)).cells)],3,[],0⟩)
  (fun k=>0<=k/\k<=f.kids.length/\(f.kids.take k.toNat).all (wh b.locals)=true) (fun k=>(f.kids.length - k).toNat) 0 ?_ ⟨by omega,by omega,by simp⟩ ?_
 ·exact Weak.eqs [] (by kernel_rfl) (by kernel_rfl) (by kernel_rfl) (by kernel_rfl) (by kernel_rfl) (by kernel_rfl) (by kernel_rfl) (by kernel_rfl) (by kernel_rfl) (by kernel_rfl)
 ·rintro k ⟨g0,g1,hall⟩
  by_cases hk:k<f.kids.length
  ·refine ah (by simp;omega) ?_
   have hkl:k.toNat<f.kids.length:=by omega
   refine ah (by simp;omega) ?_;refine au (fL f.kids[k.toNat]) (by simp [hkl]) ?_;by_cases hj:f.kids[k.toNat].1<1
   ·have e:R=false:=by
     rw [<- hR3,sN _ f.kids k.toNat hkl (by simp [wh];omega)];simp
    refine aR (by simp [hj]) ?_;refine ah rfl ?_;refine ah rfl ?_;refine aW ?_;exact ag rfl rfl rfl rfl (congrArg Dat.bool e.symm)
   ·refine ah (by simp;omega) ?_
    refine aK _ (s37 _ _) ?_;refine aR rfl ?_;by_cases hd:dest f.kids[k.toNat].2 b.locals=false
    ·have e:R=false:=by
      rw [<- hR3,sN _ f.kids k.toNat hkl (by simp [wh,hd])];simp
     refine ah (by simp [fL] at hd ⊢;exact hd) ?_;refine aW ?_;exact ag rfl rfl rfl rfl (congrArg Dat.bool e.symm)
    ·have hd:dest f.kids[k.toNat].2 b.locals=true:=by simpa using hd
     refine aR (by simp [fL] at hd ⊢;exact hd) ?_;refine ah (by simp [inR];omega) ?_;refine aN (k+1) ⟨by omega,by omega,?_⟩ (by omega) ?_
     ·rw [show (k+1).toNat=k.toNat+1 by omega,we _ _ k.toNat hkl,hall]
      simp [wh,hd];omega
     ·exact Weak.eqs [] (by kernel_rfl) (by kernel_rfl) (by kernel_rfl) (by kernel_rfl) (by kernel_rfl) (by kernel_rfl) (by kernel_rfl) (by kernel_rfl) (by kernel_rfl) (by kernel_rfl)
  ·refine aR (by simp;omega) ?_
   refine aS ?_;rw [i5 (by omega)] at hall;rw [hall] at hR3;refine aK _ (s26 _ (by omega)) ?_;by_cases hl:f.loc.all isVal=false
   ·have e:R=false:=by rw [<- hR3,hl];simp
    refine aR (by rw [hl];rfl) ?_;refine aR rfl ?_;refine aR rfl ?_;refine aR rfl ?_;refine aR rfl ?_;refine aR rfl ?_;exact ag rfl rfl rfl rfl (congrArg Dat.bool e.symm)
   ·have hl:f.loc.all isVal=true:=by simpa using hl
    refine ah (by rw [hl];rfl) ?_;refine aK _ (s26 _ (by omega)) ?_;refine ah rfl ?_;by_cases hs:f.stack.all isVal=false
    ·have e:R=false:=by rw [<- hR3,hs];simp
     refine aR (by rw [hs];rfl) ?_;refine aR rfl ?_;refine aR rfl ?_;refine aR rfl ?_;exact ag rfl rfl rfl rfl (congrArg Dat.bool e.symm)
    ·have hs:f.stack.all isVal=true:=by simpa using hs
     refine ah (by rw [hs];rfl) ?_;refine ah rfl ?_;by_cases hm:0<=f.many
     ·refine ah (by simpa using hm) ?_
      refine aK _ (s25 _ _) ?_;refine ah rfl ?_;refine ag rfl rfl rfl rfl ?_;rw [<- hR3,hl,hs];simp [fV,hm,below]
     ·have e:R=false:=by rw [<- hR3];simp;omega
      refine aR (by simp;omega) ?_;refine aR rfl ?_;exact ag rfl rfl rfl rfl (congrArg Dat.bool e.symm)
end Uw.Tryz.Vm
namespace Uw.Tryz.Vm
open Go Uw Uw.Tryz
theorem G8 {u u' v v' : Dat} (h:u=u') (h2:v=v'):Dat.tuple [u,v,I 0] = .tuple [u',v',I 0]:=by rw [h,h2]
theorem s21 (c:Cd) (f:Frame) (ht:Tiny c f):Ret P0 eG [cdD c,bS f] (Yf f (cq c f)):=by
 obtain ⟨o,ho⟩:∃o,cq c f=o:=⟨_,rfl⟩
 obtain ⟨b,hB⟩:∃b,dm c f=b:=⟨_,rfl⟩
 rw [ho]
 cases hr:right c f with
 | false=>
  have ho' : o = .err 1:=by rw [<- ho];simp [cq,hr]
  subst ho';refine qJ CX.h rfl ?_;refine aK _ (s22 c f ht) ?_;refine ah (by rw [hr];rfl) ?_;exact ai (.inl ⟨.inr rfl,rfl,_,_,rfl,rfl,rfl,rfl⟩)
 | true=>
 have hr':=hr;simp [right,below] at hr';obtain ⟨⟨⟨⟨⟨⟨hr1,hr2⟩,hr3⟩,hr4⟩,hr5⟩,hr6⟩,hr7⟩:=hr';have hlt:f.fn.toNat<c.am.length:=by omega
 have hb:c.am[f.fn.toNat]=dm c f:=by simp [dm,hlt]
 have hbi:(dm c f).ins.length<1000:=ht.ins _ (by rw [<- hb];exact YX _);have hf1:=ht.am;have hf2:=ht.cells;have hrun0:runN c (dm c f) (cn f) f=cq c f:=by simp [cq,hr]
 rw [ho,hB] at hrun0;rw [hB] at hb hbi hr2 hr3;refine qJ CX.h rfl ?_;refine aK _ (s22 c f ht) ?_;refine aR (by rw [hr];rfl) ?_;refine aX ⟨[(2,.ptr 0 0),(3,.ptr 1 0),(4,.ptr 2 0),(5,.ptr 3 0),(6,.ptr 4 0),(7,.ptr 5 0)],[(5,.var (cV c++bV b++OZ f 6++aL)),(6,.mt 1 1 (rows f.path)),(7,.mt 1 1 (rows f.loc)),(8,.mt 1 1 (rows f.stack)),(9,.mt 2 1 (ew f.kids)),
   (0,.var (V.bX (cdD c)).cells),(1,.var (V.bX (bS f)).cells),(2,.var sM),(3,.var aL),(4,.var [.d (I 0)])],10,kH,0⟩ ?_ ?_
 ·refine ah (by simp;omega) ?_
  refine au (bdC b) (by simp [hlt,hb]) ?_;refine vh ?_ ?_
  ·skip
   refine bK fY.h rfl ?_;refine ax (cr f.path ht.path _ _) ?_;rintro _ _ _ ⟨rfl,rfl,rfl⟩;refine ax (cr f.loc ht.loc _ _) ?_;rintro _ _ _ ⟨rfl,rfl,rfl⟩;refine ax (cr f.stack ht.stack _ _) ?_;rintro _ _ _ ⟨rfl,rfl,rfl⟩;refine ax (nj f.kids ht.kids _ _) ?_;rintro _ _ _ ⟨rfl,rfl,rfl⟩;refine dN rfl rfl ?_
   iterate 5 (refine aO (by kernel_rfl) ?_)
   refine ah (by simp;omega) ?_;refine au (bdC b) (by simp [hlt,hb]) ?_
   iterate 7 (refine aO (by kernel_rfl) ?_)
   refine ah (by simp;omega) ?_;refine au (bdC b) (by simp [hlt,hb]) ?_
   iterate 3 (refine aO (by kernel_rfl) ?_)
   refine ai (.inl ⟨rfl,?_⟩);exact Weak.eqs [(5,11),(6,7),(7,8),(8,9),(9,10)] (by kernel_rfl) (by kernel_rfl) (by kernel_rfl) (by kernel_rfl) (by kernel_rfl) (by kernel_rfl) (by kernel_rfl) (by kernel_rfl) (by kernel_rfl) (by kernel_rfl)
  ·skip
   iterate 5 (refine aO (by kernel_rfl) ?_)
   refine ah (by simp;omega) ?_;refine au (bdC b) (by simp [hlt,hb]) ?_
   iterate 3 (refine aO (by kernel_rfl) ?_)
   refine bK fY.h rfl ?_;refine ax (cr f.path ht.path _ _) ?_;rintro _ _ _ ⟨rfl,rfl,rfl⟩;refine ax (cr f.loc ht.loc _ _) ?_;rintro _ _ _ ⟨rfl,rfl,rfl⟩;refine ax (cr f.stack ht.stack _ _) ?_;rintro _ _ _ ⟨rfl,rfl,rfl⟩;refine ax (nj f.kids ht.kids _ _) ?_;rintro _ _ _ ⟨rfl,rfl,rfl⟩;refine dN rfl rfl ?_
   iterate 5 (refine aO (by kernel_rfl) ?_)
   refine ah (by simp;omega) ?_;refine au (bdC b) (by simp [hlt,hb]) ?_
   iterate 2 (refine aO (by kernel_rfl) ?_)
   refine ai (.inl ⟨rfl,?_⟩);exact Weak.eqs [(5,5),(6,8),(7,9),(8,10),(9,11)] (by kernel_rfl) (by kernel_rfl) (by kernel_rfl) (by kernel_rfl) (by kernel_rfl) (by kernel_rfl) (by kernel_rfl) (by kernel_rfl) (by kernel_rfl) (by kernel_rfl)
 refine bK Iz.h rfl ?_
 iterate 6 (refine bK Gs.h rfl ?_;refine dN rfl rfl ?_)
 refine dN rfl rfl ?_;refine cX (bF c b f) (cI c b f o) dp (.at ⟨f,rows f.stack,f.stack.length,1,rows f.loc⟩ aI) ?_ ?_ ?_
 ·exact Weak.eqs [] (by kernel_rfl) (by kernel_rfl) (by kernel_rfl) (by kernel_rfl) (by kernel_rfl) (by kernel_rfl) (by kernel_rfl) (by kernel_rfl) (by kernel_rfl) (by kernel_rfl)
 ·have h1:=ht.loc;have h2:=ht.kids
  exact ⟨⟨i5 (by simp [rows]),rfl,by simp [rows],rfl,by simp only [];omega,by simp only [];omega,by simp only [];omega,by simp only [];omega,by simp only [];omega,h1,h2⟩,⟨YW.2 hr4,YW.2 hr5⟩,.inl ⟨rfl,hrun0⟩⟩
 ·rintro (⟨x,a⟩|⟨x,a⟩)
  ·rintro ⟨hm,hv,⟨rfl,hrun⟩|⟨hk,hk4,hout⟩⟩
   ·refine rnd c b f o x hm hv hrun _ ?_ hbi hf1 hf2
    intro regs h nx e h4 h5 h6 ha ho';subst ho';refine ai (.inr ⟨some (.iface 28 (I e)),52,[],[.ptr 1 0,.ptr 2 0,.ptr 3 0,.ptr 4 0],.inr ⟨_,rfl,rfl⟩,rfl,?_⟩);refine tr.mono ha ?_;rintro _ _ ⟨rfl,rfl⟩;refine ⟨[.agg (V.bX (bS f)).cells,.agg aL,.d (I e)],_,?_,rfl,rfl,rfl⟩;show resV _ [(.cell 4 true 10),(.cell 5 true 8),(.cell 6 false 1)]=_;simp only [resV,h4,h5,h6];rfl
   ·subst hout
    refine aR (by simpa using hk) ?_;refine aS ?_;refine aX ⟨[(4,.ptr 2 0),(5,.ptr 3 0),(6,.ptr 4 0)],[(2,.var (frV x)),(3,.var (yC a)),(4,.var [.d (I 0)]),(6,.mt 1 1 (rows x.f.path)),(7,.mt 1 1 x.ls),(8,.mt 1 x.ver x.xs),(9,.mt 2 1 (ew x.f.kids)),(1,.var (V.bX (bS f)).cells)],18,kH,0⟩ ?_ ?_
    ·iterate 2 (refine aO (by kernel_rfl) ?_)
     refine ai (.inl ⟨rfl,?_⟩);exact Weak.eqs [] (by kernel_rfl) (by kernel_rfl) (by kernel_rfl) (by kernel_rfl) (by kernel_rfl) (by kernel_rfl) (by kernel_rfl) (by kernel_rfl) (by kernel_rfl) (by kernel_rfl)
    ·refine ai (.inr ⟨none,52,[],[.ptr 1 0,.ptr 2 0,.ptr 3 0,.ptr 4 0],.inl ⟨.inr rfl,rfl⟩,rfl,?_⟩)
     refine tr.mono (calm _ _) ?_;rintro _ _ ⟨rfl,rfl⟩;refine ⟨_,_,rfl,rfl,?_,?_⟩
     ·simp [tq,V.cur,V.cur.go,frV,yC,Lt,look]
     ·refine G8 (DF hm) ?_
      simp [O9,J2,hk4]
  ·rintro ⟨hm,hv,hk,hout⟩
   subst hout;refine aR (by simp [hk]) ?_;refine aS ?_;refine aX ⟨[(4,.ptr 2 0),(5,.ptr 3 0),(6,.ptr 4 0)],[(2,.var (frV x)),(3,.var (Lt a (.ref 18 0 0 a.args.length))),(4,.var [.d (I 0)]),(6,.mt 1 1 (rows x.f.path)),(7,.mt 1 1 x.ls),(8,.mt 1 x.ver x.xs),(9,.mt 2 1 (ew x.f.kids)),(18,.mt 1 0 (rows a.args)),(1,.var (V.bX (bS f)).cells)],19,kH,0⟩ ?_ ?_
   ·iterate 2 (refine aO (by kernel_rfl) ?_)
    refine ai (.inl ⟨rfl,?_⟩);exact Weak.eqs [] (by kernel_rfl) (by kernel_rfl) (by kernel_rfl) (by kernel_rfl) (by kernel_rfl) (by kernel_rfl) (by kernel_rfl) (by kernel_rfl) (by kernel_rfl) (by kernel_rfl)
   ·refine ai (.inr ⟨none,52,[],[.ptr 1 0,.ptr 2 0,.ptr 3 0,.ptr 4 0],.inl ⟨.inr rfl,rfl⟩,rfl,?_⟩)
    refine tr.mono (calm _ _) ?_;rintro _ _ ⟨rfl,rfl⟩;refine ⟨_,_,rfl,rfl,?_,?_⟩
    ·simp [tq,V.cur,V.cur.go,frV,yC,Lt,look]
    ·refine G8 (DF hm) ?_
     rw [YY,i5 (by simp [rows])];simp [O9,J2,hk,ae,rows]
end Uw.Tryz.Vm
namespace Uw.Tryz.Vm
open Go Uw Uw.Tryz
def zF:Frame:=⟨0,[],0,0,[],[],[],0,0,false⟩
def Ag (c:Cd) (fn:Int):Bd:=c.am.getD fn.toNat ⟨0,0,[]⟩
def nk (c:Cd) (fn:Int) (args:List Int) (task:Int):Bool:=
 below fn c.am.length&&!decide (task<1)&&args.all isVal&&decide ((Ag c fn).args=args.length)&&!decide ((Ag c fn).locals<(Ag c fn).args)
def gq (c:Cd) (fn:Int) (args:List Int) (task:Int) (path:List Int):Frame:=
 ⟨task,path,fn,0,args++List.replicate ((Ag c fn).locals.toNat - args.length) 0,[],[],0,0,false⟩
def c6 (c:Cd) (fn:Int) (args:List Int) (task:Int) (path:List Int):Frame×Int:=
 if nk c fn args task then (gq c fn args task path,0) else (zF,1)
def fH (p:Frame×Int):Dat:=.tuple [bS p.1,I p.2]
theorem DG {α:Type} (z:α):∀(l:List α) (n:Nat),l.length<=n->place (List.replicate n z) 0 l=l++List.replicate (n - l.length) z
 | [],n,_=>by cases n<;>simp [place]
 | x::l,0,h=>by simp at h
 | x::l,n+1,h=>by
  simp at h;rw [ZJ,place,DG z l n h];simp
theorem Yp (f:Frame) (k m:Nat) (hk:k=f.path.length) (hm:m=f.loc.length):Dat.agg [I f.task,.slice 1 (((rows f.path).drop 0).take k) false,I f.fn,I f.pc,.slice 1 (((rows f.loc).drop 0).take m) false,.slice 1 (rows f.stack) false,.slice 2 (ew f.kids) false,I f.many,I f.spent,.bool f.fail]=bS f:=by
 subst hk hm;rw [YY,i5 (by simp [rows]),YY,i5 (by simp [rows])];rfl
theorem s12 (c:Cd) (fn:Int) (args:List Int) (task:Int) (path:List Int) (h1:c.am.length<1000) (h2:∀b∈c.am,b.locals<1000) (h3:args.length<1000) (h4:path.length<1000) :
  Ret P0 uB [cdD c,I fn,ae args,I task,ae path] (fH (c6 c fn args task path)):=by
 have hz:DLe (.tuple [.agg [I 0,.nil,I 0,I 0,.nil,.nil,.nil,I 0,I 0,.bool false],I 1]) (fH (zF,1)):=
  .tuple (.cons (.agg (.cons (.refl _) (.cons (.nil _) (.cons (.refl _) (.cons (.refl _) (.cons (.nil _) (.cons (.nil _) (.cons (.nil _) (.refl _))))))))) (.refl _))
 cases b1:below fn c.am.length with
 | false=>
  have e:c6 c fn args task path=(zF,1):=by simp [c6,nk,b1]
  rw [e];refine Ret.res ?_ hz;refine aj kD.h rfl ?_;refine aK _ (s25 _ _) ?_;refine aR (by simp [below] at b1;simp;omega) ?_;refine ah rfl ?_;refine aR rfl ?_;refine ah rfl ?_;refine ah rfl ?_;exact ag rfl rfl rfl rfl rfl
 | true=>
 have b1' : 0<=fn/\fn<c.am.length:=by simpa [below] using b1
 have hlt:fn.toNat<c.am.length:=by omega
 obtain ⟨b,hB⟩:∃b,Ag c fn=b:=⟨_,rfl⟩
 have hb:c.am[fn.toNat]=b:=by rw [<- hB];simp [Ag,hlt]
 have hbl:b.locals<1000:=h2 b (by rw [<- hb];exact YX _);by_cases b2:task<1
 case pos=>
  have e:c6 c fn args task path=(zF,1):=by simp [c6,nk,b2]
  rw [e];refine Ret.res ?_ hz;refine aj kD.h rfl ?_;refine aK _ (s25 _ _) ?_;refine ah (by simp;omega) ?_;refine aR rfl ?_;refine aR (by simp [b2]) ?_;refine ah rfl ?_;refine ah rfl ?_;exact ag rfl rfl rfl rfl rfl
 cases b3:args.all isVal with
 | false=>
  have e:c6 c fn args task path=(zF,1):=by simp only [c6,nk,b3];simp
  rw [e];refine Ret.res ?_ hz;refine aj kD.h rfl ?_;refine aK _ (s25 _ _) ?_;refine ah (by simp;omega) ?_;refine aR rfl ?_;refine ah (by simp [b2]) ?_;refine aK _ (s26 _ (by omega)) ?_;refine aR rfl ?_;refine ah (by rw [b3];rfl) ?_;exact ag rfl rfl rfl rfl rfl
 | true=>
 by_cases b4:b.args=args.length
 case neg=>
  have e:c6 c fn args task path=(zF,1):=by simp [c6,nk,hB,b4]
  rw [e];refine Ret.res ?_ hz;refine aj kD.h rfl ?_;refine aK _ (s25 _ _) ?_;refine ah (by simp;omega) ?_;refine aR rfl ?_;refine ah (by simp [b2]) ?_;refine aK _ (s26 _ (by omega)) ?_;refine aR rfl ?_;refine aR (by rw [b3];rfl) ?_;refine ah (by simp;omega) ?_;refine au (bdC b) (by simp [hlt,hb]) ?_;refine aR (by simp [b4]) ?_;refine ah rfl ?_;refine ah rfl ?_;exact ag rfl rfl rfl rfl rfl
 by_cases b5:b.locals<b.args
 case pos=>
  have e:c6 c fn args task path=(zF,1):=by simp [c6,nk,hB,b5]
  rw [e];refine Ret.res ?_ hz;refine aj kD.h rfl ?_;refine aK _ (s25 _ _) ?_;refine ah (by simp;omega) ?_;refine aR rfl ?_;refine ah (by simp [b2]) ?_;refine aK _ (s26 _ (by omega)) ?_;refine aR rfl ?_;refine aR (by rw [b3];rfl) ?_;refine ah (by simp;omega) ?_;refine au (bdC b) (by simp [hlt,hb]) ?_;refine ah (by simp [b4]) ?_;refine aR rfl ?_;refine ah (by simpa using b5) ?_;exact ag rfl rfl rfl rfl rfl
 have e:c6 c fn args task path=(gq c fn args task path,0):=by
  have h:nk c fn args task=true:=by
   have e2:decide (task<1)=false:=by simp;omega
   have e4:decide (b.args=(args.length:Int))=true:=by simp [b4]
   have e5:decide (b.locals<b.args)=false:=by simp;omega
   rw [nk,hB,b1,b3,e2,e4,e5];rfl
  rw [c6,if_pos h]
 rw [e];have hrow:(setAt (List.replicate b.locals.toNat [I 0]) 0 ((rows args).take (min b.locals.toNat (rows args).length)))=rows (gq c fn args task path).loc:=by
  have hl:(rows args).length=args.length:=by simp [rows]
  rw [i5 (by omega),<- ay,DG _ _ _ (by omega),hl];simp [gq,hB,rows]
 have hlen:(gq c fn args task path).loc.length=b.locals.toNat:=by
  simp [gq,hB];omega
 have hz2:DLe (.tuple [.agg [I task,.slice 1 (((rows path).drop 0).take path.length) false,I fn,I 0,.slice 1 (((rows (gq c fn args task path).loc).drop 0).take b.locals.toNat) false,.nil,.nil,I 0,I 0,.bool false],I 0]) (fH (gq c fn args task path,0)):=by
  rw [fH,<- Yp (gq c fn args task path) path.length b.locals.toNat rfl hlen.symm];exact .tuple (.cons (.agg (.cons (.refl _) (.cons (.refl _) (.cons (.refl _) (.cons (.refl _) (.cons (.refl _) (.cons (.nil _) (.cons (.nil _) (.refl _))))))))) (.refl _))
 refine Ret.res ?_ hz2;refine aj kD.h rfl ?_;refine aK _ (s25 _ _) ?_;refine ah (by simp;omega) ?_;refine aR rfl ?_;refine ah (by simp [b2]) ?_;refine aK _ (s26 _ (by omega)) ?_;refine aR rfl ?_;refine aR (by rw [b3];rfl) ?_;refine ah (by simp;omega) ?_;refine au (bdC b) (by simp [hlt,hb]) ?_;refine ah (by simp [b4]) ?_;refine aR rfl ?_;refine aR (by simpa using b5) ?_;refine ah (by simp;omega) ?_;refine ah rfl ?_;refine ax (cr path h4 _ _) ?_;rintro _ _ _ ⟨rfl,rfl,rfl⟩;refine ag rfl rfl rfl rfl ?_;rw [<- hrow];rfl
theorem s14 (f:Frame) (h1:f.path.length<1000):Ret P0 uE [bS f] (ae (f.path++[f.many])):=by
 refine aj IC.h rfl ?_;refine aX ⟨[(2,.ref 1 2 0 (f.path.length+1))],[(1,.mt 1 2 ((rows f.path).take f.path.length++[[I f.many]]))],2,[],0⟩ ?_ ?_
 ·refine ax (cr f.path h1 _ _) ?_
  rintro _ _ _ ⟨rfl,rfl,rfl⟩
  iterate 4 (refine aO (by kernel_rfl) ?_)
  refine ah rfl ?_;refine ah (by simp;omega) ?_
  iterate 3 (refine aO (by kernel_rfl) ?_)
  refine ai (.inl ⟨rfl,?_⟩);exact Weak.eqs [] (by kernel_rfl) (by kernel_rfl) (by kernel_rfl) (by kernel_rfl) (by kernel_rfl) (by kernel_rfl) (by kernel_rfl) (by kernel_rfl) (by kernel_rfl) (by kernel_rfl)
 ·refine ag rfl rfl rfl rfl ?_
  show Dat.slice 1 ((((rows f.path).take f.path.length++[[I f.many]]).drop 0).take (f.path.length+1)) false=_;rw [YY,i5 (by simp [rows]),i5 (by simp [rows])];simp [rows,ae]
def j8 (kind val:Int) (is:Bool):Int:=if is=false then 0 else if kind=1\/kind=5\/kind=7 then ca (val+1) else 1
def opD (k o a b:Int):Dat:=.agg [I k,I o,I a,I b]
theorem s18 (k o a b val:Int) (is:Bool):Ret P0 nQ [opD k o a b,I val,.bool is] (I (j8 k val is)):=by
 refine aj IB.h rfl ?_
 cases is with
 | false=>
  refine ah rfl ?_;exact ag rfl rfl rfl rfl rfl
 | true=>
  refine aR rfl ?_;have fin:∀(h:k=1\/k=5\/k=7),I (ca (val+1))=I (j8 k val true):=fun h=>by simp [j8,h]
  refine bz (fun h=>?_) (fun h=>?_)
  ·have h:k=1:=by simpa using h
   refine ah (by simp [h]) ?_;refine bz (fun h2=>?_) (fun h2=>?_)
   ·refine aK _ (s31 _) ?_
    exact ag rfl rfl rfl rfl (fin (.inl h))
   ·refine aK _ (s31 _) ?_
    refine ag rfl rfl rfl rfl ?_;rw [qq];exact fin (.inl h)
  ·have h:¬k=1:=by simpa using h
   refine bz (fun h'=>?_) (fun h'=>?_)
   ·have h' : k=5:=by simpa using h'
    refine ah (by simp [h']) ?_;refine bz (fun h2=>?_) (fun h2=>?_)
    ·refine aK _ (s31 _) ?_
     exact ag rfl rfl rfl rfl (fin (.inr (.inl h')))
    ·refine aK _ (s31 _) ?_
     refine ag rfl rfl rfl rfl ?_;rw [qq];exact fin (.inr (.inl h'))
   ·have h' : ¬k=5:=by simpa using h'
    refine bz (fun h''=>?_) (fun h''=>?_)
    ·have h'' : k=7:=by simpa using h''
     refine bz (fun h2=>?_) (fun h2=>?_)
     ·refine aK _ (s31 _) ?_
      exact ag rfl rfl rfl rfl (fin (.inr (.inr h'')))
     ·refine aK _ (s31 _) ?_
      refine ag rfl rfl rfl rfl ?_;rw [qq];exact fin (.inr (.inr h''))
    ·have h'' : ¬k=7:=by simpa using h''
     refine ag rfl rfl rfl rfl ?_;simp [fV,j8,h,h',h'']
end Uw.Tryz.Vm
namespace Uw.Tryz.Vm
open Go Uw Uw.Tryz
def xy (k a b o1 o2 o3 o4:Int) (d:Dat):Dat:=.agg [I k,I a,I b,I o1,I o2,I o3,I o4,d]
def kx (loc:List Int) (l:List ((Int×Int)×Int)):List Int:=l.foldl (fun l p=>if 0<=p.1.2 then l.set p.1.2.toNat p.2 else l) loc
def iU (f:Frame) (k:Int×Int):Bool:=dest k.2 f.loc.length
def lS (f:Frame) (kind b:Int) (vals:List Int):Bool:=
 if kind=1\/kind=3 then decide (vals.length=1)&&vals.all isVal&&decide (f.stack.length<100)
 else if kind=2 then decide (vals.length=0)
 else if kind=4 then decide (vals.length=1)&&decide (1<=vals.head?.getD 0)&&dest b f.loc.length
 else if kind=5 then decide (vals.length=f.kids.length)&&vals.all isVal&&f.kids.all (iU f)
 else false
def ky (f:Frame) (kind b:Int) (vals:List Int):Frame:=
 if kind=1\/kind=3 then { f with stack:=f.stack++vals }
 else if kind=2 then f
 else if kind=4 then { f with kids:=f.kids++vals.map (fun v=>(v,b)),many:=f.many+1 }
 else { f with loc:=kx f.loc (f.kids.zip vals),kids:=[] }
def aU (f:Frame) (kind b:Int) (vals:List Int):Frame×Int:=if lS f kind b vals then (ky f kind b vals,0) else (f,1)
structure lI (f:Frame):Prop where
 path:f.path.length<1000
 loc:f.loc.length<1000
 stack:f.stack.length<1000
 kids:f.kids.length<1000
 DI : -1000000000<f.many
 many:f.many<1000000000
theorem yU (f:Frame) (n m:Nat) (xs:List (List Dat)) (ks:List (List Dat)) (p q:Nat) (hp:p=f.path.length) (hq:q=f.loc.length) (hn:(xs.drop 0).take n=rows f.stack) (hm:(ks.drop 0).take m=ew f.kids):Dat.agg [I f.task,.slice 1 (((rows f.path).drop 0).take p) false,I f.fn,I f.pc,.slice 1 (((rows f.loc).drop 0).take q) false,.slice 1 ((xs.drop 0).take n) false,.slice 2 ((ks.drop 0).take m) false,I f.many,I f.spent,.bool f.fail]=bS f:=by
 subst hp hq;rw [hn,hm,YY,i5 (by simp [rows]),YY,i5 (by simp [rows])];rfl
theorem ji {l:List Int} {n:Nat} (h:n=l.length):((rows l).drop 0).take n=rows l:=by
 subst h;rw [YY,i5 (by simp [rows])]
theorem uO {l:List (Int×Int)} {n:Nat} (h:n=l.length):((ew l).drop 0).take n=ew l:=by
 subst h;rw [YY,i5 (by simp [ew])]
theorem Pn (f:Frame) (a b o1 o2 o3 o4:Int) (d:Dat) (vals:List Int) (ht:lI f) (hv:vals.length<1000):Ret P0 dQ [bS f,xy 1 a b o1 o2 o3 o4 d,ae vals] (fH (aU f 1 b vals)):=by
 have t1:=ht.path;have t2:=ht.loc;have t3:=ht.stack;have t4:=ht.kids;have t5:=ht.DI;have t6:=ht.many;obtain ⟨R,hR⟩:∃R,aU f 1 b vals=R:=⟨_,rfl⟩
 rw [hR];unfold aU lS ky at hR;simp at hR;refine aj ny.h rfl ?_;refine bK fY.h rfl ?_;refine ax (cr f.path ht.path _ _) ?_;rintro _ _ _ ⟨rfl,rfl,rfl⟩;refine ax (cr f.loc ht.loc _ _) ?_;rintro _ _ _ ⟨rfl,rfl,rfl⟩;refine ax (cr f.stack ht.stack _ _) ?_;rintro _ _ _ ⟨rfl,rfl,rfl⟩;refine ax (nj f.kids ht.kids _ _) ?_;rintro _ _ _ ⟨rfl,rfl,rfl⟩;refine dN rfl rfl ?_;refine ah rfl ?_;refine ah rfl ?_;by_cases h1:vals.length=1
 ·refine ah (by simp [h1]) ?_
  refine aK _ (s26 _ (by omega)) ?_;refine ah rfl ?_;by_cases h2:vals.all isVal=true
  ·refine ah (by rw [h2];rfl) ?_
   refine ah rfl ?_;refine ah rfl ?_;refine ah (by simp;omega) ?_;by_cases h3:f.stack.length<100
   ·refine aR (by simp;omega) ?_
    have e:R=({ f with stack:=f.stack++vals },0):=by rw [<- hR,if_pos ⟨⟨h1,by simpa using h2⟩,h3⟩]
    refine ag rfl rfl rfl rfl ?_;rw [e];refine congrArg (fun z=>Dat.tuple [z,I 0]) (yU { f with stack:=f.stack++vals } _ _ _ _ _ _ rfl rfl ?_ (uO rfl));rw [YY,i5 (by simp [rows]),i5 (by simp [rows])];simp [rows]
   ·refine ah (by simp;omega) ?_
    have e:R=(f,1):=by rw [<- hR,if_neg (fun h=>h3 h.2)]
    exact ag rfl rfl rfl rfl (congrArg fH e.symm)
  ·refine aR (by simp at h2;simp [h2]) ?_
   refine aR rfl ?_;refine ah rfl ?_;refine ah (by simp;omega) ?_;refine ah rfl ?_;have e:R=(f,1):=by rw [<- hR,if_neg (fun h=>h2 (by simpa using h.1.2))]
   exact ag rfl rfl rfl rfl (congrArg fH e.symm)
 ·refine aR (by simp;omega) ?_
  refine aR rfl ?_;refine aR rfl ?_;refine aR rfl ?_;refine ah rfl ?_;refine ah (by simp;omega) ?_;refine ah rfl ?_;have e:R=(f,1):=by rw [<- hR,if_neg (fun h=>h1 h.1.1)]
  exact ag rfl rfl rfl rfl (congrArg fH e.symm)
theorem Xp (f:Frame) (a b o1 o2 o3 o4:Int) (d:Dat) (vals:List Int) (ht:lI f) (hv:vals.length<1000):Ret P0 dQ [bS f,xy 3 a b o1 o2 o3 o4 d,ae vals] (fH (aU f 3 b vals)):=by
 have t1:=ht.path;have t2:=ht.loc;have t3:=ht.stack;have t4:=ht.kids;have t5:=ht.DI;have t6:=ht.many;obtain ⟨R,hR⟩:∃R,aU f 3 b vals=R:=⟨_,rfl⟩
 rw [hR];unfold aU lS ky at hR;simp at hR;refine aj ny.h rfl ?_;refine bK fY.h rfl ?_;refine ax (cr f.path ht.path _ _) ?_;rintro _ _ _ ⟨rfl,rfl,rfl⟩;refine ax (cr f.loc ht.loc _ _) ?_;rintro _ _ _ ⟨rfl,rfl,rfl⟩;refine ax (cr f.stack ht.stack _ _) ?_;rintro _ _ _ ⟨rfl,rfl,rfl⟩;refine ax (nj f.kids ht.kids _ _) ?_;rintro _ _ _ ⟨rfl,rfl,rfl⟩;refine dN rfl rfl ?_;refine aR rfl ?_;refine ah rfl ?_;by_cases h1:vals.length=1
 ·refine ah (by simp [h1]) ?_
  refine aK _ (s26 _ (by omega)) ?_;refine ah rfl ?_;by_cases h2:vals.all isVal=true
  ·refine ah (by rw [h2];rfl) ?_
   refine ah rfl ?_;refine ah rfl ?_;refine ah (by simp;omega) ?_;by_cases h3:f.stack.length<100
   ·refine aR (by simp;omega) ?_
    have e:R=({ f with stack:=f.stack++vals },0):=by rw [<- hR,if_pos ⟨⟨h1,by simpa using h2⟩,h3⟩]
    refine ag rfl rfl rfl rfl ?_;rw [e];refine congrArg (fun z=>Dat.tuple [z,I 0]) (yU { f with stack:=f.stack++vals } _ _ _ _ _ _ rfl rfl ?_ (uO rfl));rw [YY,i5 (by simp [rows]),i5 (by simp [rows])];simp [rows]
   ·refine ah (by simp;omega) ?_
    have e:R=(f,1):=by rw [<- hR,if_neg (fun h=>h3 h.2)]
    exact ag rfl rfl rfl rfl (congrArg fH e.symm)
  ·refine aR (by simp at h2;simp [h2]) ?_
   refine aR rfl ?_;refine ah rfl ?_;refine ah (by simp;omega) ?_;refine ah rfl ?_;have e:R=(f,1):=by rw [<- hR,if_neg (fun h=>h2 (by simpa using h.1.2))]
   exact ag rfl rfl rfl rfl (congrArg fH e.symm)
 ·refine aR (by simp;omega) ?_
  refine aR rfl ?_;refine aR rfl ?_;refine aR rfl ?_;refine ah rfl ?_;refine ah (by simp;omega) ?_;refine ah rfl ?_;have e:R=(f,1):=by rw [<- hR,if_neg (fun h=>h1 h.1.1)]
  exact ag rfl rfl rfl rfl (congrArg fH e.symm)
theorem Xq (f:Frame) (a b o1 o2 o3 o4:Int) (d:Dat) (vals:List Int) (ht:lI f) (hv:vals.length<1000):Ret P0 dQ [bS f,xy 2 a b o1 o2 o3 o4 d,ae vals] (fH (aU f 2 b vals)):=by
 have t1:=ht.path;have t2:=ht.loc;have t3:=ht.stack;have t4:=ht.kids;have t5:=ht.DI;have t6:=ht.many;obtain ⟨R,hR⟩:∃R,aU f 2 b vals=R:=⟨_,rfl⟩
 rw [hR];unfold aU lS ky at hR;simp at hR;refine aj ny.h rfl ?_;refine bK fY.h rfl ?_;refine ax (cr f.path ht.path _ _) ?_;rintro _ _ _ ⟨rfl,rfl,rfl⟩;refine ax (cr f.loc ht.loc _ _) ?_;rintro _ _ _ ⟨rfl,rfl,rfl⟩;refine ax (cr f.stack ht.stack _ _) ?_;rintro _ _ _ ⟨rfl,rfl,rfl⟩;refine ax (nj f.kids ht.kids _ _) ?_;rintro _ _ _ ⟨rfl,rfl,rfl⟩;refine dN rfl rfl ?_;refine aR rfl ?_;refine aR rfl ?_;refine ah rfl ?_;by_cases h1:vals=[]
 ·refine aR (by simp [h1]) ?_
  have e:R=(f,0):=by rw [<- hR,if_pos h1]
  refine ag rfl rfl rfl rfl ?_;rw [e];exact congrArg (fun z=>Dat.tuple [z,I 0]) (yU f _ _ _ _ _ _ rfl rfl (ji rfl) (uO rfl))
 ·refine ah (by simp [h1]) ?_
  have e:R=(f,1):=by rw [<- hR,if_neg h1]
  exact ag rfl rfl rfl rfl (congrArg fH e.symm)
theorem Xr (f:Frame) (k a b o1 o2 o3 o4:Int) (d:Dat) (vals:List Int) (ht:lI f) (hv:vals.length<1000) (hk:k≠1/\k≠2/\k≠3/\k≠4/\k≠5):Ret P0 dQ [bS f,xy k a b o1 o2 o3 o4 d,ae vals] (fH (aU f k b vals)):=by
 have t1:=ht.path;have t2:=ht.loc;have t3:=ht.stack;have t4:=ht.kids;have t5:=ht.DI;have t6:=ht.many;obtain ⟨R,hR⟩:∃R,aU f k b vals=R:=⟨_,rfl⟩
 rw [hR];unfold aU lS ky at hR;obtain ⟨k1,k2,k3,k4,k5⟩:=hk;simp [k1,k2,k3,k4,k5] at hR;refine aj ny.h rfl ?_;refine bK fY.h rfl ?_;refine ax (cr f.path ht.path _ _) ?_;rintro _ _ _ ⟨rfl,rfl,rfl⟩;refine ax (cr f.loc ht.loc _ _) ?_;rintro _ _ _ ⟨rfl,rfl,rfl⟩;refine ax (cr f.stack ht.stack _ _) ?_;rintro _ _ _ ⟨rfl,rfl,rfl⟩;refine ax (nj f.kids ht.kids _ _) ?_;rintro _ _ _ ⟨rfl,rfl,rfl⟩;refine dN rfl rfl ?_;refine aR (by simp [k1]) ?_;refine aR (by simp [k3]) ?_;refine aR (by simp [k2]) ?_;refine aR (by simp [k4]) ?_;refine aR (by simp [k5]) ?_;refine ah rfl ?_;have e:R=(f,1):=hR.symm;exact ag rfl rfl rfl rfl (congrArg fH e.symm)
theorem kT (vals:List Int) (b:Int) (k:Nat) (h:k<vals.length):(vals.take (k+1)).map (fun v=>(v,b))=(vals.take k).map (fun v=>(v,b))++[(vals[k],b)]:=by
 rw [Zg h,Z7];rfl
theorem Xt (f:Frame) (a b o1 o2 o3 o4:Int) (d:Dat) (vals:List Int) (ht:lI f) (hv:vals.length<1000):Ret P0 dQ [bS f,xy 4 a b o1 o2 o3 o4 d,ae vals] (fH (aU f 4 b vals)):=by
 have t1:=ht.path;have t2:=ht.loc;have t3:=ht.stack;have t4:=ht.kids;have t5:=ht.DI;have t6:=ht.many;obtain ⟨R,hR⟩:∃R,aU f 4 b vals=R:=⟨_,rfl⟩
 rw [hR];unfold aU lS ky at hR;simp at hR;refine aj ny.h rfl ?_;refine bK fY.h rfl ?_;refine ax (cr f.path ht.path _ _) ?_;rintro _ _ _ ⟨rfl,rfl,rfl⟩;refine ax (cr f.loc ht.loc _ _) ?_;rintro _ _ _ ⟨rfl,rfl,rfl⟩;refine ax (cr f.stack ht.stack _ _) ?_;rintro _ _ _ ⟨rfl,rfl,rfl⟩;refine ax (nj f.kids ht.kids _ _) ?_;rintro _ _ _ ⟨rfl,rfl,rfl⟩;refine dN rfl rfl ?_;refine aR rfl ?_;refine aR rfl ?_;refine aR rfl ?_;refine ah rfl ?_;by_cases h1:vals.length=1
 ·have h0:0<vals.length:=by omega
  have hh:vals.head?.getD 0=vals[0]:=by cases vals<;>simp at h0 ⊢
  refine ah (by simp [h1]) ?_;refine ah (by simp [h1]) ?_;refine au [I vals[0]] (by simp [h0]) ?_;refine ah rfl ?_;by_cases h2:1<=vals.head?.getD 0
  ·refine ah (by rw [hh] at h2;simpa using h2) ?_
   refine aK _ (s37 _ _) ?_;refine ah rfl ?_;by_cases h3:dest b f.loc.length=true
   ·skip
    refine cX (fun x:Int×List (List Dat)×Nat×Nat=>⟨[(2,.d (ae vals)),(3,.ptr 0 0),(4,.ptr 1 0),(6,.ptr 2 0),(8,.ptr 9 0),(9,.d (.bool (dest b (f.loc.map fun n=>[Dat.int .i64 n]).length))),(63,.d (ae vals)),(64,.d (.int .i64 (vals.map fun n=>[Dat.int .i64 n]).length)),(65,.d (I x.1))],
     [(9,.var [.d (I f.task),.ref 5 1 0 f.path.length,.d (I f.fn),.d (I f.pc),.ref 6 1 0 f.loc.length,.ref 7 1 0 f.stack.length,.ref 8 x.2.2.2 0 x.2.2.1,.d (I f.many),.d (I f.spent),.d (.bool f.fail)]),(8,.mt 2 x.2.2.2 x.2.1),(5,.mt 1 1 (rows f.path)),(6,.mt 1 1 (rows f.loc)),(7,.mt 1 1 (rows f.stack)),(0,.var (V.bX (bS f)).cells),(1,.var (V.bX (xy 4 a b o1 o2 o3 o4 d)).cells),(2,.var sM)],10,[],0⟩)
     (fun x=>0<=x.1/\x.1<=vals.length/\x.2.2.1=f.kids.length+x.1.toNat/\x.2.1=ew (f.kids++(vals.take x.1.toNat).map (fun v=>(v,b)))) (fun x=>(vals.length - x.1).toNat) (0,ew f.kids,f.kids.length,1) ?_ ⟨by simp,by simp,by simp,by simp⟩ ?_
    ·exact Weak.eqs [] (by kernel_rfl) (by kernel_rfl) (by kernel_rfl) (by kernel_rfl) (by kernel_rfl) (by kernel_rfl) (by kernel_rfl) (by kernel_rfl) (by kernel_rfl) (by kernel_rfl)
    ·rintro ⟨k,xs,n,ver⟩ ⟨g0,g1,hn,hx⟩
     simp only at g0 g1 hn hx;have hxl:xs.length=n:=by rw [hx,hn];simp [ew];omega
     by_cases hk:k<vals.length
     ·have k1:k.toNat<vals.length:=by omega
      refine ah (by simp;omega) ?_;refine ah (by simp;omega) ?_;refine au [I vals[k.toNat]] (by simp) ?_;refine ct ?_;refine ah (by simp;omega) ?_;refine ah (by simp [inR];omega) ?_;refine aN (k+1,xs.take n++[[I vals[k.toNat],I b]],n+1,ver+1) ⟨by simp only [];omega,by simp only [];omega,by simp only [];omega,?_⟩ (by simp only [];omega) (Weak.eqs [] (by kernel_rfl) (by kernel_rfl) (by kernel_rfl) (by kernel_rfl) (by kernel_rfl) (by kernel_rfl) (by kernel_rfl) (by kernel_rfl) (by kernel_rfl) (by kernel_rfl));simp only [];rw [show (k+1).toNat=k.toNat+1 by omega,kT vals b k.toNat k1,i5 (by omega),hx];simp [ew,fL]
     ·refine aR (by simp;omega) ?_
      refine aS ?_;refine ah (by simp [inR];omega) ?_;refine aR (by simp [h3]) ?_;have e:R=({ f with kids:=f.kids++vals.map (fun v=>(v,b)),many:=f.many+1 },0):=by rw [<- hR,if_pos ⟨⟨h1,h2⟩,h3⟩]
      refine ag rfl rfl rfl ?_ ?_
      ·simp [tq,V.cur,V.cur.go,look,put]
      rw [e];refine congrArg (fun z=>Dat.tuple [z,I 0]) (yU { f with kids:=f.kids++vals.map (fun v=>(v,b)),many:=f.many+1 } _ _ _ _ _ _ rfl rfl (ji rfl) ?_);rw [YY,i5 (by simp only [];omega),hx,i5 (by omega)]
   ·skip
    refine cX (fun x:Int×List (List Dat)×Nat×Nat=>⟨[(2,.d (ae vals)),(3,.ptr 0 0),(4,.ptr 1 0),(6,.ptr 2 0),(8,.ptr 9 0),(9,.d (.bool (dest b (f.loc.map fun n=>[Dat.int .i64 n]).length))),(63,.d (ae vals)),(64,.d (.int .i64 (vals.map fun n=>[Dat.int .i64 n]).length)),(65,.d (I x.1))],
     [(9,.var [.d (I f.task),.ref 5 1 0 f.path.length,.d (I f.fn),.d (I f.pc),.ref 6 1 0 f.loc.length,.ref 7 1 0 f.stack.length,.ref 8 x.2.2.2 0 x.2.2.1,.d (I f.many),.d (I f.spent),.d (.bool f.fail)]),(8,.mt 2 x.2.2.2 x.2.1),(5,.mt 1 1 (rows f.path)),(6,.mt 1 1 (rows f.loc)),(7,.mt 1 1 (rows f.stack)),(0,.var (V.bX (bS f)).cells),(1,.var (V.bX (xy 4 a b o1 o2 o3 o4 d)).cells),(2,.var sM)],10,[],0⟩)
     (fun x=>0<=x.1/\x.1<=vals.length/\x.2.2.1=f.kids.length+x.1.toNat/\x.2.1=ew (f.kids++(vals.take x.1.toNat).map (fun v=>(v,b)))) (fun x=>(vals.length - x.1).toNat) (0,ew f.kids,f.kids.length,1) ?_ ⟨by simp,by simp,by simp,by simp⟩ ?_
    ·exact Weak.eqs [] (by kernel_rfl) (by kernel_rfl) (by kernel_rfl) (by kernel_rfl) (by kernel_rfl) (by kernel_rfl) (by kernel_rfl) (by kernel_rfl) (by kernel_rfl) (by kernel_rfl)
    ·rintro ⟨k,xs,n,ver⟩ ⟨g0,g1,hn,hx⟩
     simp only at g0 g1 hn hx;have hxl:xs.length=n:=by rw [hx,hn];simp [ew];omega
     by_cases hk:k<vals.length
     ·have k1:k.toNat<vals.length:=by omega
      refine ah (by simp;omega) ?_;refine ah (by simp;omega) ?_;refine au [I vals[k.toNat]] (by simp) ?_;refine ct ?_;refine ah (by simp;omega) ?_;refine ah (by simp [inR];omega) ?_;refine aN (k+1,xs.take n++[[I vals[k.toNat],I b]],n+1,ver+1) ⟨by simp only [];omega,by simp only [];omega,by simp only [];omega,?_⟩ (by simp only [];omega) (Weak.eqs [] (by kernel_rfl) (by kernel_rfl) (by kernel_rfl) (by kernel_rfl) (by kernel_rfl) (by kernel_rfl) (by kernel_rfl) (by kernel_rfl) (by kernel_rfl) (by kernel_rfl));simp only [];rw [show (k+1).toNat=k.toNat+1 by omega,kT vals b k.toNat k1,i5 (by omega),hx];simp [ew,fL]
     ·refine aR (by simp;omega) ?_
      refine aS ?_;refine ah (by simp [inR];omega) ?_;refine ah (by simp [h3]) ?_;have e:R=(f,1):=by rw [<- hR,if_neg (fun h=>h3 h.2)]
      exact ag rfl rfl rfl rfl (congrArg fH e.symm)
  ·refine aR (by rw [hh] at h2;simp;omega) ?_
   refine aR rfl ?_;refine cX (fun x:Int×List (List Dat)×Nat×Nat=>⟨[(2,.d (ae vals)),(3,.ptr 0 0),(4,.ptr 1 0),(6,.ptr 2 0),(8,.ptr 9 0),(9,.d (.bool (false))),(63,.d (ae vals)),(64,.d (.int .i64 (vals.map fun n=>[Dat.int .i64 n]).length)),(65,.d (I x.1))],
    [(9,.var [.d (I f.task),.ref 5 1 0 f.path.length,.d (I f.fn),.d (I f.pc),.ref 6 1 0 f.loc.length,.ref 7 1 0 f.stack.length,.ref 8 x.2.2.2 0 x.2.2.1,.d (I f.many),.d (I f.spent),.d (.bool f.fail)]),(8,.mt 2 x.2.2.2 x.2.1),(5,.mt 1 1 (rows f.path)),(6,.mt 1 1 (rows f.loc)),(7,.mt 1 1 (rows f.stack)),(0,.var (V.bX (bS f)).cells),(1,.var (V.bX (xy 4 a b o1 o2 o3 o4 d)).cells),(2,.var sM)],10,[],0⟩)
    (fun x=>0<=x.1/\x.1<=vals.length/\x.2.2.1=f.kids.length+x.1.toNat/\x.2.1=ew (f.kids++(vals.take x.1.toNat).map (fun v=>(v,b)))) (fun x=>(vals.length - x.1).toNat) (0,ew f.kids,f.kids.length,1) ?_ ⟨by simp,by simp,by simp,by simp⟩ ?_
   ·exact Weak.eqs [] (by kernel_rfl) (by kernel_rfl) (by kernel_rfl) (by kernel_rfl) (by kernel_rfl) (by kernel_rfl) (by kernel_rfl) (by kernel_rfl) (by kernel_rfl) (by kernel_rfl)
   ·rintro ⟨k,xs,n,ver⟩ ⟨g0,g1,hn,hx⟩
    simp only at g0 g1 hn hx;have hxl:xs.length=n:=by rw [hx,hn];simp [ew];omega
    by_cases hk:k<vals.length
    ·have k1:k.toNat<vals.length:=by omega
     refine ah (by simp;omega) ?_;refine ah (by simp;omega) ?_;refine au [I vals[k.toNat]] (by simp) ?_;refine ct ?_;refine ah (by simp;omega) ?_;refine ah (by simp [inR];omega) ?_;refine aN (k+1,xs.take n++[[I vals[k.toNat],I b]],n+1,ver+1) ⟨by simp only [];omega,by simp only [];omega,by simp only [];omega,?_⟩ (by simp only [];omega) (Weak.eqs [] (by kernel_rfl) (by kernel_rfl) (by kernel_rfl) (by kernel_rfl) (by kernel_rfl) (by kernel_rfl) (by kernel_rfl) (by kernel_rfl) (by kernel_rfl) (by kernel_rfl));simp only [];rw [show (k+1).toNat=k.toNat+1 by omega,kT vals b k.toNat k1,i5 (by omega),hx];simp [ew,fL]
    ·refine aR (by simp;omega) ?_
     refine aS ?_;refine ah (by simp [inR];omega) ?_;refine ah (by simp) ?_;have e:R=(f,1):=by rw [<- hR,if_neg (fun h=>h2 h.1.2)]
     exact ag rfl rfl rfl rfl (congrArg fH e.symm)
 ·refine aR (by simp;omega) ?_
  refine aR rfl ?_;refine aR rfl ?_;refine aR rfl ?_;refine cX (fun x:Int×List (List Dat)×Nat×Nat=>⟨[(2,.d (ae vals)),(3,.ptr 0 0),(4,.ptr 1 0),(6,.ptr 2 0),(8,.ptr 9 0),(9,.d (.bool (false))),(63,.d (ae vals)),(64,.d (.int .i64 (vals.map fun n=>[Dat.int .i64 n]).length)),(65,.d (I x.1))],
   [(9,.var [.d (I f.task),.ref 5 1 0 f.path.length,.d (I f.fn),.d (I f.pc),.ref 6 1 0 f.loc.length,.ref 7 1 0 f.stack.length,.ref 8 x.2.2.2 0 x.2.2.1,.d (I f.many),.d (I f.spent),.d (.bool f.fail)]),(8,.mt 2 x.2.2.2 x.2.1),(5,.mt 1 1 (rows f.path)),(6,.mt 1 1 (rows f.loc)),(7,.mt 1 1 (rows f.stack)),(0,.var (V.bX (bS f)).cells),(1,.var (V.bX (xy 4 a b o1 o2 o3 o4 d)).cells),(2,.var sM)],10,[],0⟩)
   (fun x=>0<=x.1/\x.1<=vals.length/\x.2.2.1=f.kids.length+x.1.toNat/\x.2.1=ew (f.kids++(vals.take x.1.toNat).map (fun v=>(v,b)))) (fun x=>(vals.length - x.1).toNat) (0,ew f.kids,f.kids.length,1) ?_ ⟨by simp,by simp,by simp,by simp⟩ ?_
  ·exact Weak.eqs [] (by kernel_rfl) (by kernel_rfl) (by kernel_rfl) (by kernel_rfl) (by kernel_rfl) (by kernel_rfl) (by kernel_rfl) (by kernel_rfl) (by kernel_rfl) (by kernel_rfl)
  ·rintro ⟨k,xs,n,ver⟩ ⟨g0,g1,hn,hx⟩
   simp only at g0 g1 hn hx;have hxl:xs.length=n:=by rw [hx,hn];simp [ew];omega
   by_cases hk:k<vals.length
   ·have k1:k.toNat<vals.length:=by omega
    refine ah (by simp;omega) ?_;refine ah (by simp;omega) ?_;refine au [I vals[k.toNat]] (by simp) ?_;refine ct ?_;refine ah (by simp;omega) ?_;refine ah (by simp [inR];omega) ?_;refine aN (k+1,xs.take n++[[I vals[k.toNat],I b]],n+1,ver+1) ⟨by simp only [];omega,by simp only [];omega,by simp only [];omega,?_⟩ (by simp only [];omega) (Weak.eqs [] (by kernel_rfl) (by kernel_rfl) (by kernel_rfl) (by kernel_rfl) (by kernel_rfl) (by kernel_rfl) (by kernel_rfl) (by kernel_rfl) (by kernel_rfl) (by kernel_rfl));simp only [];rw [show (k+1).toNat=k.toNat+1 by omega,kT vals b k.toNat k1,i5 (by omega),hx];simp [ew,fL]
   ·refine aR (by simp;omega) ?_
    refine aS ?_;refine ah (by simp [inR];omega) ?_;refine ah (by simp) ?_;have e:R=(f,1):=by rw [<- hR,if_neg (fun h=>h1 h.1.1)]
    exact ag rfl rfl rfl rfl (congrArg fH e.symm)
theorem DJ (loc:List Int) (l:List ((Int×Int)×Int)) (k:Nat) (h:k<l.length):kx loc (l.take (k+1))=(if 0<=l[k].1.2 then (kx loc (l.take k)).set l[k].1.2.toNat l[k].2 else kx loc (l.take k)):=by
 rw [Zg h,kx,List.foldl_append];rfl
theorem sO (loc:List Int):∀(l:List ((Int×Int)×Int)),(kx loc l).length=loc.length:=by
 intro l
 induction l generalizing loc with
 | nil=>rfl
 | cons p l ih=>
  show (kx (if 0<=p.1.2 then loc.set p.1.2.toNat p.2 else loc) l).length=_;rw [ih];split<;>simp
theorem G9 (l:List Int) (k:Nat) (v:Int):(rows l).set k [I v]=rows (l.set k v):=by simp [rows,Zr]
theorem told5 (f:Frame) (a b o1 o2 o3 o4:Int) (d:Dat) (vals:List Int) (ht:lI f) (hv:vals.length<1000):Ret P0 dQ [bS f,xy 5 a b o1 o2 o3 o4 d,ae vals] (fH (aU f 5 b vals)):=by
 have t1:=ht.path;have t2:=ht.loc;have t3:=ht.stack;have t4:=ht.kids;have t5:=ht.DI;have t6:=ht.many;obtain ⟨R,hR⟩:∃R,aU f 5 b vals=R:=⟨_,rfl⟩
 rw [hR];unfold aU lS ky at hR;simp at hR;obtain ⟨R0,hR0⟩:∃R0,(decide (vals.length=f.kids.length)&&vals.all isVal)=R0:=⟨_,rfl⟩
 have hbad:∀R1:Bool,R1=(R0&&f.kids.all (iU f))->R1=false->R=(f,1):=by
  intro R1 h1 h2;rw [<- hR,if_neg];intro h;rw [hR0] at h;rw [h2,h] at h1;cases h1
 have hgood:R0=true->f.kids.all (iU f)=true->R=({ f with loc:=kx f.loc (f.kids.zip vals),kids:=[] },0)/\vals.length=f.kids.length:=by
  intro h1 h2;rw [<- hR0] at h1;have h1' : vals.length=f.kids.length/\∀x∈vals,isVal x=true:=by rw [i9,decide_eq_true_eq,YW] at h1;exact h1
  exact ⟨by rw [<- hR,if_pos (by rw [hR0,<- hR0,h1,h2];rfl)],h1'.1⟩
 have hlen0:R0=true->vals.length=f.kids.length:=by
  intro h1;rw [<- hR0,i9,decide_eq_true_eq] at h1;exact h1.1
 obtain ⟨D,hD⟩:∃D,D=(if (R0&&f.kids.all (iU f))=true then Dat.tuple [.agg [I f.task,.slice 1 (rows f.path) false,I f.fn,I f.pc,.slice 1 (rows (kx f.loc (f.kids.zip vals))) false,.slice 1 (rows f.stack) false,.nil,I f.many,I f.spent,.bool f.fail],I 0] else fH (f,1)):=⟨_,rfl⟩
 have hle:DLe D (fH R):=by
  by_cases hc:(R0&&f.kids.all (iU f))=true
  ·have hc':=hc;rw [i9] at hc'
   rw [hD,if_pos hc,(hgood hc'.1 hc'.2).1];exact .tuple (.cons (.agg (.cons (.refl _) (.cons (.refl _) (.cons (.refl _) (.cons (.refl _) (.cons (.refl _) (.cons (.refl _) (.cons (.nil _) (.refl _))))))))) (.refl _))
  ·rw [hD,if_neg hc,hbad _ rfl (by simpa using hc)];exact .refl _
 refine Ret.res (r:=D) ?_ hle;refine aj ny.h rfl ?_;refine bK fY.h rfl ?_;refine ax (cr f.path ht.path _ _) ?_;rintro _ _ _ ⟨rfl,rfl,rfl⟩;refine ax (cr f.loc ht.loc _ _) ?_;rintro _ _ _ ⟨rfl,rfl,rfl⟩;refine ax (cr f.stack ht.stack _ _) ?_;rintro _ _ _ ⟨rfl,rfl,rfl⟩;refine ax (nj f.kids ht.kids _ _) ?_;rintro _ _ _ ⟨rfl,rfl,rfl⟩;refine dN rfl rfl ?_;refine aR rfl ?_;refine aR rfl ?_;refine aR rfl ?_;refine aR rfl ?_;refine ah rfl ?_;by_cases h1:vals.length=f.kids.length
 ·refine ah (by simp [h1]) ?_
  refine aK _ (s26 _ (by omega)) ?_;refine ah rfl ?_;refine cX (fun x:Int×Bool×List (List Dat)=>⟨[(2,.d (ae vals)),(3,.ptr 0 0),(4,.ptr 1 0),(6,.ptr 2 0),(8,.ptr 9 0),(9,.d (.bool x.2.1)),(97,.d (.slice 2 (f.kids.map fL) false)),(98,.d (.int .i64 (f.kids.map fL).length)),(99,.d (I x.1))],
   [(9,.var [.d (I f.task),.ref 5 1 0 f.path.length,.d (I f.fn),.d (I f.pc),.ref 6 1 0 f.loc.length,.ref 7 1 0 f.stack.length,.d .nil,.d (I f.many),.d (I f.spent),.d (.bool f.fail)]),(5,.mt 1 1 (rows f.path)),(6,.mt 1 1 x.2.2),(7,.mt 1 1 (rows f.stack)),(0,.var (V.bX (bS f)).cells),(1,.var (V.bX (xy 5 a b o1 o2 o3 o4 d)).cells),(2,.var sM)],10,[],0⟩)
   (fun x=>0<=x.1/\x.1<=f.kids.length/\x.2.2.length=f.loc.length/\x.2.1=(R0&&(f.kids.take x.1.toNat).all (iU f))/\(x.2.1=true->x.2.2=rows (kx f.loc ((f.kids.zip vals).take x.1.toNat)))) (fun x=>(f.kids.length - x.1).toNat) (0,vals.all isVal,rows f.loc) ?_ ⟨by simp,by simp,by simp [rows],by rw [<- hR0,decide_eq_true h1];simp,fun _=>by simp [kx]⟩ ?_
  ·exact Weak.eqs [] (by kernel_rfl) (by kernel_rfl) (by kernel_rfl) (by kernel_rfl) (by kernel_rfl) (by kernel_rfl) (by kernel_rfl) (by kernel_rfl) (by kernel_rfl) (by kernel_rfl)
  ·rintro ⟨k,rt,ls⟩ ⟨g0,g1,g2,g3,g4⟩
   simp only at g0 g1 g2 g3 g4;by_cases hk:k<f.kids.length
   ·have k1:k.toNat<f.kids.length:=by omega
    have hall:∀r:Bool,r=(rt&&iU f f.kids[k.toNat])->r=(R0&&(f.kids.take (k+1).toNat).all (iU f)):=by
     intro r hr;rw [hr,g3,show (k+1).toNat=k.toNat+1 by omega,we _ _ _ k1,Bool.and_assoc]
    cases rt with
    | false=>
     refine ah (by simp;omega) ?_;refine ah (by simp;omega) ?_;refine au (fL f.kids[k.toNat]) (by rw [Zd,AN k1];rfl) ?_;refine aR rfl ?_;refine aR rfl ?_;refine aR rfl ?_;refine aR rfl ?_;refine aR rfl ?_;refine ah (by simp [inR];omega) ?_;exact aN (k+1,false,ls) ⟨by simp only [];omega,by simp only [];omega,g2,hall _ (by simp),by simp⟩ (by simp only [];omega) (Weak.eqs [] (by kernel_rfl) (by kernel_rfl) (by kernel_rfl) (by kernel_rfl) (by kernel_rfl) (by kernel_rfl) (by kernel_rfl) (by kernel_rfl) (by kernel_rfl) (by kernel_rfl))
    | true=>
     have hr0:R0=true:=by have g3':=g3.symm;rw [i9] at g3';exact g3'.1
     have hvl:=hlen0 hr0;have k2:k.toNat<vals.length:=by omega
     have kz:k.toNat<(f.kids.zip vals).length:=by simp;omega
     have ez:(f.kids.zip vals)[k.toNat]=(f.kids[k.toNat],vals[k.toNat]):=by simp
     have hls:=g4 rfl;have hsucc:=DJ f.loc (f.kids.zip vals) k.toNat kz;rw [ez] at hsucc;have ek:(k+1).toNat=k.toNat+1:=by omega
     rw [<- ek] at hsucc;refine ah (by simp;omega) ?_;refine ah (by simp;omega) ?_;refine au (fL f.kids[k.toNat]) (by rw [Zd,AN k1];rfl) ?_;refine ah rfl ?_;refine aK _ (s37 _ _) ?_;refine ah rfl ?_;by_cases hd:dest f.kids[k.toNat].2 f.loc.length=true
     ·refine ah (by simpa using hd) ?_
      refine ah rfl ?_;have Ha:=hall (dest f.kids[k.toNat].2 (f.loc.map fun n=>[Dat.int .i64 n]).length) (by simp [iU]);by_cases hp:0<=f.kids[k.toNat].2
      ·have hd2:f.kids[k.toNat].2<f.loc.length:=by simp [dest,below] at hd;omega
       have hd3:f.kids[k.toNat].2.toNat<ls.length:=by omega
       refine ah (by simpa using hp) ?_;refine ah (by simp;omega) ?_;refine au [I vals[k.toNat]] (by simp) ?_;refine ah rfl ?_;refine ah (by simp;omega) ?_;refine ah rfl ?_;refine au [I ((kx f.loc ((f.kids.zip vals).take k.toNat)).getD f.kids[k.toNat].2.toNat 0)] (by rw [hls];exact xq (by rw [sO];omega) (by simp)) ?_;refine ah (by simp [inR];omega) ?_;refine aN (k+1,dest f.kids[k.toNat].2 (f.loc.map fun n=>[Dat.int .i64 n]).length,ls.set (0+f.kids[k.toNat].2.toNat) [I vals[k.toNat]]) ⟨by simp only [];omega,by simp only [];omega,by simp [g2],Ha,fun _=>?_⟩ (by simp only [];omega) (Weak.eqs [] (by kernel_rfl) (by kernel_rfl) (by kernel_rfl) (by kernel_rfl) (by kernel_rfl) (by kernel_rfl) (by kernel_rfl) (by kernel_rfl) (by kernel_rfl) (by kernel_rfl));simp only [];rw [hsucc,if_pos hp,hls,Y9,G9]
      ·refine aR (by simpa using hp) ?_
       refine ah (by simp [inR];omega) ?_;refine aN (k+1,dest f.kids[k.toNat].2 (f.loc.map fun n=>[Dat.int .i64 n]).length,ls) ⟨by simp only [];omega,by simp only [];omega,g2,Ha,fun _=>?_⟩ (by simp only [];omega) (Weak.eqs [] (by kernel_rfl) (by kernel_rfl) (by kernel_rfl) (by kernel_rfl) (by kernel_rfl) (by kernel_rfl) (by kernel_rfl) (by kernel_rfl) (by kernel_rfl) (by kernel_rfl));simp only [];rw [hsucc,if_neg hp,hls]
     ·have hd' : dest f.kids[k.toNat].2 f.loc.length=false:=by simpa using hd
      refine aR (by simpa using hd') ?_;refine aR rfl ?_;refine aR rfl ?_;refine ah (by simp [inR];omega) ?_;exact aN (k+1,dest f.kids[k.toNat].2 (f.loc.map fun n=>[Dat.int .i64 n]).length,ls) ⟨by simp only [];omega,by simp only [];omega,g2,hall _ (by simp [iU]),fun h=>by simp [hd'] at h⟩ (by simp only [];omega) (Weak.eqs [] (by kernel_rfl) (by kernel_rfl) (by kernel_rfl) (by kernel_rfl) (by kernel_rfl) (by kernel_rfl) (by kernel_rfl) (by kernel_rfl) (by kernel_rfl) (by kernel_rfl))
   ·have hke:f.kids.take k.toNat=f.kids:=i5 (by omega)
    rw [hke] at g3
    cases rt with
    | false=>
     refine aR (by simp;omega) ?_;refine aS ?_;refine ah rfl ?_;exact ag rfl rfl rfl rfl (by rw [hD,if_neg (by rw [<- g3];simp)];rfl)
    | true=>
     have g3':=g3.symm;rw [i9] at g3';obtain ⟨e,hvl⟩:=hgood g3'.1 g3'.2;have hls:=g4 rfl;rw [i5 (by simp;omega)] at hls;refine aR (by simp;omega) ?_;refine aS ?_;refine aR rfl ?_;refine ag rfl rfl rfl rfl ?_;rw [hD,if_pos g3.symm];show Dat.tuple [.agg [_,.slice 1 (((rows f.path).drop 0).take f.path.length) false,_,_,.slice 1 ((ls.drop 0).take f.loc.length) false,.slice 1 (((rows f.stack).drop 0).take f.stack.length) false,_,_,_,_],_]=_;rw [ji rfl,ji rfl,hls,ji (by rw [sO])]
 ·refine aR (by simp;omega) ?_
  refine aR rfl ?_;refine cX (fun x:Int×Bool×List (List Dat)=>⟨[(2,.d (ae vals)),(3,.ptr 0 0),(4,.ptr 1 0),(6,.ptr 2 0),(8,.ptr 9 0),(9,.d (.bool x.2.1)),(97,.d (.slice 2 (f.kids.map fL) false)),(98,.d (.int .i64 (f.kids.map fL).length)),(99,.d (I x.1))],
   [(9,.var [.d (I f.task),.ref 5 1 0 f.path.length,.d (I f.fn),.d (I f.pc),.ref 6 1 0 f.loc.length,.ref 7 1 0 f.stack.length,.d .nil,.d (I f.many),.d (I f.spent),.d (.bool f.fail)]),(5,.mt 1 1 (rows f.path)),(6,.mt 1 1 x.2.2),(7,.mt 1 1 (rows f.stack)),(0,.var (V.bX (bS f)).cells),(1,.var (V.bX (xy 5 a b o1 o2 o3 o4 d)).cells),(2,.var sM)],10,[],0⟩)
   (fun x=>0<=x.1/\x.1<=f.kids.length/\x.2.2.length=f.loc.length/\x.2.1=(R0&&(f.kids.take x.1.toNat).all (iU f))/\(x.2.1=true->x.2.2=rows (kx f.loc ((f.kids.zip vals).take x.1.toNat)))) (fun x=>(f.kids.length - x.1).toNat) (0,false,rows f.loc) ?_ ⟨by simp,by simp,by simp [rows],by rw [<- hR0,decide_eq_false h1];simp,fun _=>by simp [kx]⟩ ?_
  ·exact Weak.eqs [] (by kernel_rfl) (by kernel_rfl) (by kernel_rfl) (by kernel_rfl) (by kernel_rfl) (by kernel_rfl) (by kernel_rfl) (by kernel_rfl) (by kernel_rfl) (by kernel_rfl)
  ·rintro ⟨k,rt,ls⟩ ⟨g0,g1,g2,g3,g4⟩
   simp only at g0 g1 g2 g3 g4;by_cases hk:k<f.kids.length
   ·have k1:k.toNat<f.kids.length:=by omega
    have hall:∀r:Bool,r=(rt&&iU f f.kids[k.toNat])->r=(R0&&(f.kids.take (k+1).toNat).all (iU f)):=by
     intro r hr;rw [hr,g3,show (k+1).toNat=k.toNat+1 by omega,we _ _ _ k1,Bool.and_assoc]
    cases rt with
    | false=>
     refine ah (by simp;omega) ?_;refine ah (by simp;omega) ?_;refine au (fL f.kids[k.toNat]) (by rw [Zd,AN k1];rfl) ?_;refine aR rfl ?_;refine aR rfl ?_;refine aR rfl ?_;refine aR rfl ?_;refine aR rfl ?_;refine ah (by simp [inR];omega) ?_;exact aN (k+1,false,ls) ⟨by simp only [];omega,by simp only [];omega,g2,hall _ (by simp),by simp⟩ (by simp only [];omega) (Weak.eqs [] (by kernel_rfl) (by kernel_rfl) (by kernel_rfl) (by kernel_rfl) (by kernel_rfl) (by kernel_rfl) (by kernel_rfl) (by kernel_rfl) (by kernel_rfl) (by kernel_rfl))
    | true=>
     have hr0:R0=true:=by have g3':=g3.symm;rw [i9] at g3';exact g3'.1
     have hvl:=hlen0 hr0;have k2:k.toNat<vals.length:=by omega
     have kz:k.toNat<(f.kids.zip vals).length:=by simp;omega
     have ez:(f.kids.zip vals)[k.toNat]=(f.kids[k.toNat],vals[k.toNat]):=by simp
     have hls:=g4 rfl;have hsucc:=DJ f.loc (f.kids.zip vals) k.toNat kz;rw [ez] at hsucc;have ek:(k+1).toNat=k.toNat+1:=by omega
     rw [<- ek] at hsucc;refine ah (by simp;omega) ?_;refine ah (by simp;omega) ?_;refine au (fL f.kids[k.toNat]) (by rw [Zd,AN k1];rfl) ?_;refine ah rfl ?_;refine aK _ (s37 _ _) ?_;refine ah rfl ?_;by_cases hd:dest f.kids[k.toNat].2 f.loc.length=true
     ·refine ah (by simpa using hd) ?_
      refine ah rfl ?_;have Ha:=hall (dest f.kids[k.toNat].2 (f.loc.map fun n=>[Dat.int .i64 n]).length) (by simp [iU]);by_cases hp:0<=f.kids[k.toNat].2
      ·have hd2:f.kids[k.toNat].2<f.loc.length:=by simp [dest,below] at hd;omega
       have hd3:f.kids[k.toNat].2.toNat<ls.length:=by omega
       refine ah (by simpa using hp) ?_;refine ah (by simp;omega) ?_;refine au [I vals[k.toNat]] (by simp) ?_;refine ah rfl ?_;refine ah (by simp;omega) ?_;refine ah rfl ?_;refine au [I ((kx f.loc ((f.kids.zip vals).take k.toNat)).getD f.kids[k.toNat].2.toNat 0)] (by rw [hls];exact xq (by rw [sO];omega) (by simp)) ?_;refine ah (by simp [inR];omega) ?_;refine aN (k+1,dest f.kids[k.toNat].2 (f.loc.map fun n=>[Dat.int .i64 n]).length,ls.set (0+f.kids[k.toNat].2.toNat) [I vals[k.toNat]]) ⟨by simp only [];omega,by simp only [];omega,by simp [g2],Ha,fun _=>?_⟩ (by simp only [];omega) (Weak.eqs [] (by kernel_rfl) (by kernel_rfl) (by kernel_rfl) (by kernel_rfl) (by kernel_rfl) (by kernel_rfl) (by kernel_rfl) (by kernel_rfl) (by kernel_rfl) (by kernel_rfl));simp only [];rw [hsucc,if_pos hp,hls,Y9,G9]
      ·refine aR (by simpa using hp) ?_
       refine ah (by simp [inR];omega) ?_;refine aN (k+1,dest f.kids[k.toNat].2 (f.loc.map fun n=>[Dat.int .i64 n]).length,ls) ⟨by simp only [];omega,by simp only [];omega,g2,Ha,fun _=>?_⟩ (by simp only [];omega) (Weak.eqs [] (by kernel_rfl) (by kernel_rfl) (by kernel_rfl) (by kernel_rfl) (by kernel_rfl) (by kernel_rfl) (by kernel_rfl) (by kernel_rfl) (by kernel_rfl) (by kernel_rfl));simp only [];rw [hsucc,if_neg hp,hls]
     ·have hd' : dest f.kids[k.toNat].2 f.loc.length=false:=by simpa using hd
      refine aR (by simpa using hd') ?_;refine aR rfl ?_;refine aR rfl ?_;refine ah (by simp [inR];omega) ?_;exact aN (k+1,dest f.kids[k.toNat].2 (f.loc.map fun n=>[Dat.int .i64 n]).length,ls) ⟨by simp only [];omega,by simp only [];omega,g2,hall _ (by simp [iU]),fun h=>by simp [hd'] at h⟩ (by simp only [];omega) (Weak.eqs [] (by kernel_rfl) (by kernel_rfl) (by kernel_rfl) (by kernel_rfl) (by kernel_rfl) (by kernel_rfl) (by kernel_rfl) (by kernel_rfl) (by kernel_rfl) (by kernel_rfl))
   ·have hke:f.kids.take k.toNat=f.kids:=i5 (by omega)
    rw [hke] at g3
    cases rt with
    | false=>
     refine aR (by simp;omega) ?_;refine aS ?_;refine ah rfl ?_;exact ag rfl rfl rfl rfl (by rw [hD,if_neg (by rw [<- g3];simp)];rfl)
    | true=>
     have g3':=g3.symm;rw [i9] at g3';obtain ⟨e,hvl⟩:=hgood g3'.1 g3'.2;have hls:=g4 rfl;rw [i5 (by simp;omega)] at hls;refine aR (by simp;omega) ?_;refine aS ?_;refine aR rfl ?_;refine ag rfl rfl rfl rfl ?_;rw [hD,if_pos g3.symm];show Dat.tuple [.agg [_,.slice 1 (((rows f.path).drop 0).take f.path.length) false,_,_,.slice 1 ((ls.drop 0).take f.loc.length) false,.slice 1 (((rows f.stack).drop 0).take f.stack.length) false,_,_,_,_],_]=_;rw [ji rfl,ji rfl,hls,ji (by rw [sO])]
end Uw.Tryz.Vm
namespace Uw.Tryz.Vm
open Go Uw Uw.Tryz
theorem s23 (f:Frame) (k a b o1 o2 o3 o4:Int) (d:Dat) (vals:List Int) (ht:lI f) (hv:vals.length<1000):Ret P0 dQ [bS f,xy k a b o1 o2 o3 o4 d,ae vals] (fH (aU f k b vals)):=by
 by_cases h1:k=1
 ·subst h1;exact Pn f a b o1 o2 o3 o4 d vals ht hv
 by_cases h2:k=2
 ·subst h2;exact Xq f a b o1 o2 o3 o4 d vals ht hv
 by_cases h3:k=3
 ·subst h3;exact Xp f a b o1 o2 o3 o4 d vals ht hv
 by_cases h4:k=4
 ·subst h4;exact Xt f a b o1 o2 o3 o4 d vals ht hv
 by_cases h5:k=5
 ·subst h5;exact told5 f a b o1 o2 o3 o4 d vals ht hv
 exact Xr f k a b o1 o2 o3 o4 d vals ht hv ⟨h1,h2,h3,h4,h5⟩
theorem I0 (f:Frame) (a:Ask) (vals:List Int) (ht:lI f) (hv:vals.length<1000):Ret P0 dQ [bS f,O9 a,ae vals] (fH (aU f a.kind a.b vals)):=s23 f a.kind a.a a.b a.op.1 a.op.2.1 a.op.2.2.1 a.op.2.2.2 (J2 a) vals ht hv
end Uw.Tryz.Vm
namespace Uw.Tryz.El
open Go Uw Uw.Tryz
structure xA where
 aJ:Int
 task:List Int
 thing:Int
 obj:Int
 op:Op4
 val:Int
 is:Bool
 deriving DecidableEq,Inhabited
structure Spl where
 kind:Int
 a:Int
 b:Int
 c:Int
 d:Int
 deriving DecidableEq,Inhabited
def bA (u:xA):List Dat:=[I u.aJ,ae u.task,I u.thing,I u.obj,I u.op.kind,I u.op.obj,I u.op.a,I u.op.b,I u.val,.bool u.is]
def iz (s:Spl):List Dat:=[I s.kind,I s.a,I s.b,I s.c,I s.d]
structure Wd where
 cells:List Int
 maps:List Cont
 stacks:List Cont
 chans:List Cont
 uses:List xA
 splits:List Spl
 aB:Int
 values:List Int
 steps:Int
 fails:List (List Int)
structure YN where
 m:Nat
 s:Nat
 c:Nat
 v:Nat
 f:Nat
abbrev cdV (c:Cd):List V:=[.d (.slice 3 (c.am.map bdC) false),.d (ae c.cells),.d (I c.maps),.d (I c.stacks),.d (I c.chans),.d (I c.main)]
def bn (l:List Int):List (List Dat):=l.map fun i=>[I i]
def c9 (l:List (List Int)):List (List Dat):=l.map fun i=>[ae i]
abbrev wG (C:List V) (xc:Nat) (rc:List (List Dat)) (gm xm:Nat) (rm:List (List Dat)) (gs xs:Nat) (rs:List (List Dat)) (gc xh:Nat) (rh:List (List Dat)) (xu:Nat) (ru:List (List Dat)) (xp:Nat) (rp:List (List Dat)) (st:Int) (gv xv:Nat) (rv:List (List Dat)) (sp:Int) (gf xf:Nat) (rf:List (List Dat)):List Blk:=
 [.var (C++[.ref 1 1 0 xc,.d .nil,.ref 2 gm 0 xm,.ref 3 gs 0 xs,.ref 4 gc 0 xh,.ref 5 0 0 xu,.ref 6 0 0 xp,.d (I st),.ref 7 gv 0 xv,.d (I sp),.ref 8 gf 0 xf]),.mt 1 1 rc,.mt 3 gm rm,.mt 3 gs rs,.mt 3 gc rh,.arr 10 ru,.arr 5 rp,.mt 1 gv rv,.mt 1 gf rf]
abbrev frV (f:Vm.Frame):V:=.agg [.d (I f.task),.d (ae f.path),.d (I f.fn),.d (I f.pc),.d (ae f.loc),.d (ae f.stack),.d (.slice 2 (f.kids.map Vm.fL) false),.d (I f.many),.d (I f.spent),.d (.bool f.fail)]
def pz (w:Wd) (path:List Int) (aJ cell:Int):Wd:={ w with uses:=w.uses++[⟨aJ,path,0,cell,⟨0,0,0,0⟩,w.cells.getD cell.toNat 0,false⟩] }
def iV (w:Wd) (path:List Int) (aJ cell val:Int):Wd:={ w with cells:=w.cells.set cell.toNat val,uses:=w.uses++[⟨aJ,path,0,cell,⟨1,0,val,0⟩,0,false⟩] }
def j9 (w:Wd) (kids:List (Int×Int)) (aJ block:Int):Wd×Int:=if kids=[] then (w,aJ) else ({ w with splits:=w.splits++[⟨3,aJ,0,0,block⟩] },block)
def Po (w:Wd) (aJ join:Int) (named:Bool):Spl:=⟨1,aJ,w.aB,w.aB+1,if named then join else w.aB+2⟩
def cC (w:Wd) (aJ join:Int) (named:Bool):Wd:={ w with aB:=if named then w.aB+2 else w.aB+3,splits:=w.splits++[Po w aJ join named] }
theorem yS {l:List Int} {k:Int} (h0:0<=k) (h:k<l.length):(bn l)[k.toNat]? = some [I (l.getD k.toNat 0)]:=by
 have h1:k.toNat<l.length:=by omega
 simp [bn,h1]
theorem Vz (C1 C2 C3 C4 C5 C6:Dat) (xc:Nat) (rc:List (List Dat)) (gm xm:Nat) (rm:List (List Dat)) (gs xs:Nat) (rs:List (List Dat)) (gc xh:Nat) (rh:List (List Dat)) (xu:Nat) (ru:List (List Dat)) (xp:Nat) (rp:List (List Dat)) (st:Int) (gv xv:Nat) (rv:List (List Dat)) (sp:Int) (gf xf:Nat) (rf:List (List Dat))
  (f1 f3 f4 f8 f9:Int) (f5 f6 f7:Dat) (f10:Bool) (p:List Int) (aJ cell v:Int) (h0:0<=cell) (h1:cell<xc) (hrc:rc.length=xc) (e1:rc[0+cell.toNat]? = some [I v]) (hu:xu<1000000) (hru:ru.length=xu) (hp:p.length<1000000) :
  eM P0 iL [.ptr 0 0,.agg [.d (I f1),.d (ae p),.d (I f3),.d (I f4),.d f5,.d f6,.d f7,.d (I f8),.d (I f9),.d (.bool f10)],.d (I aJ),.d (I cell)] (wG [.d C1,.d C2,.d C3,.d C4,.d C5,.d C6] xc rc gm xm rm gs xs rs gc xh rh xu ru xp rp st gv xv rv sp gf xf rf)
   (.d (.slice 1 [[I v]] true)) (wG [.d C1,.d C2,.d C3,.d C4,.d C5,.d C6] xc rc gm xm rm gs xs rs gc xh rh (xu+1) (ru++[bA ⟨aJ,p,0,cell,⟨0,0,0,0⟩,v,false⟩]) xp rp st gv xv rv sp gf xf rf):=by
 have hc:=dj p hp;refine dB uz.h rfl ?_
 repeat refine aw ?_
 refine aX ⟨[(9,.d (I v))],aM 0 (wG [.d C1,.d C2,.d C3,.d C4,.d C5,.d C6] xc rc gm xm rm gs xs rs gc xh rh (xu+1) (ru++[bA ⟨aJ,p,0,cell,⟨0,0,0,0⟩,v,false⟩]) xp rp st gv xv rv sp gf xf rf),9,[],9⟩ ?_ ?_
 ·repeat refine aw ?_
  exact ai (.inl ⟨rfl,by exact Uw.wM⟩)
 repeat refine aw ?_
 refine dc 9 rfl rfl ?_;exact Uw.wM
end Uw.Tryz.El
