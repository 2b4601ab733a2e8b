/- J7: Of Og Oh Oi Oj Ok Ol Om On Oo Op Oq Oq2 Oq3 Or Os Ot Ou Ow Ox Ab Ac Ad Ae (merged by merge2.py from the working texts). -/
import Derived.Test.YtikpfliiodgonaaGreatDoorJ6
import Derived.Test.YtikpfliiodgonaaGreatDoorJ3
set_option maxRecDepth 100000
set_option maxHeartbeats 2000000
set_option linter.unusedSimpArgs false
set_option linter.unnecessarySimpa false
set_option linter.unusedVariables false
set_option linter.unusedSectionVars false
namespace Uw.Tryz.Vm
open Go Uw Uw.Tryz
def H19 (c:Cd) (b:Bd) (f0:Frame) (x:LX) (ask:List V) (i:In4):Heap:=(19,.var (eT i))::LH c b f0 x ask i
theorem aU (p:V) (bb:Bool) (h:Heap) (nx:Nat):bQ P0 oK [p,.d (.bool bb)] h nx (fun r h' nx'=>h' = h/\nx' = nx/\((bb=true/\r = .val (.tuple []))\/(bb=false/\r = .pan v7))):=by
 refine A7 c8 rfl ?_
 cases bb with
 | true=>
  refine aS rfl ?_;exact cX rfl rfl ⟨rfl,rfl,.inl ⟨rfl,rfl⟩⟩
 | false=>
  refine ah rfl ?_;exact kG rfl ⟨rfl,rfl,.inr ⟨rfl,rfl⟩⟩
theorem lA {xs:List (List Dat)} {n:Nat} {s:List Int} (h1:xs.take n=rows s) (h2:n=s.length) (h3:n<=xs.length) (h0:0<n):xs[n - 1]? = some [I (s.getLastD 0)]:=by
 have h4:(xs.take n)[n - 1]? = xs[n - 1]?:=by rw [abw,if_pos (by omega)]
 rw [<- h4,h1,rows,abT];have:s[n - 1]? = some (s.getLastD 0):=by
  subst h2;rw [<- List.getLast?_eq_getElem?,adQ]
  cases s with
  | nil=>simp at h0
  | cons a r=>simp [List.getLast?_cons]
 rw [this];rfl
end Uw.Tryz.Vm
namespace Uw.Tryz.Vm
open Go Uw Uw.Tryz
def zU:List V:=[.d (I 5),.d (I 0),.d (I 0),.d (I 0),.d (I 0),.d (I 0),.d (I 0),.d .nil]
def awaited (f:Frame) (l:Int):Bool:=f.kids.any fun k=>decide (k.2=l)
theorem R2 {α:Type} (p:α->Bool) (l:List α) (k:Nat) (h:k<l.length):(l.take (k+1)).any p=((l.take k).any p||p l[k]):=by
 rw [abN h,List.any_append];simp
theorem U5 {l:List (Int×Int)} {k m:Nat} (h:k<l.length) (hm:m=k:=by omega):(eC l)[m]? = some (fQ l[k]):=by
 subst hm;simp [eC,h]
theorem Nr (c:Cd) (b:Bd) (f0:Frame) (x:LX) (i:In4) (l:Int) (hx:Inv c b x) :
  bQ P0 oZ [.ptr 5 0,.d (I l)] (H19 c b f0 x aM i) 20 (fun r h' nx'=>nx' = 20/\
   ((below l x.f.loc.length=false/\r = .pan v7/\h' = H19 c b f0 x aM i)\/
     (below l x.f.loc.length=true/\awaited x.f l=true/\r = .val (.d (.bool true))/\h' = H19 c b f0 x zU i)\/
     (below l x.f.loc.length=true/\awaited x.f l=false/\r = .val (.d (.bool false))/\h' = H19 c b f0 x aM i))):=by
 have h5:=hx.pK;have h6:=hx.kids;refine bU vU rfl ?_;refine cC ?_;refine aL _ (s25 _ _) ?_;refine av (aU _ _ _ _) ?_;rintro _ _ _ ⟨rfl,rfl,⟨hb,rfl⟩|⟨hb,rfl⟩⟩
 ·refine cC ?_
  refine dC (fun k:Int=>⟨[(0,.ptr 5 0),(1,.d (I l)),(21,.ref 9 1 0 x.f.kids.length),(22,.d (I x.f.kids.length)),(23,.d (I k))],H19 c b f0 x aM i,20,[],20⟩)
   (fun k=>0<=k/\k<=x.f.kids.length/\(x.f.kids.take k.toNat).any (fun k=>decide (k.2=l))=false) (fun k=>(x.f.kids.length - k).toNat) 0 ?_ ⟨by omega,by omega,by simp⟩ ?_
  ·exact Weak.eqs [] (by kernel_rfl) (by kernel_rfl) (by kernel_rfl) (by kernel_rfl) (by kernel_rfl) (by kernel_rfl) (by kernel_rfl) (by kernel_rfl) (by kernel_rfl) (by kernel_rfl)
  ·rintro k ⟨h0,h1,hall⟩
   refine bF (fun h=>?_) (fun h=>?_)
   ·simp at h
    refine cC ?_;refine ah (by simp;omega) ?_;refine cC ?_;refine aF (fQ x.f.kids[k.toNat]) (U5 (by omega)) ?_;refine bF (fun h2=>?_) (fun h2=>?_)
    ·refine cD ?_
     refine al ⟨⟨[(4,.d (.bool true))],H19 c b f0 x zU i,20,[],20⟩,.inr ?_,rfl,_,rfl,rfl,.inr (.inl ⟨hb,?_,rfl,rfl⟩)⟩
     ·exact Weak.eqs [] (by kernel_rfl) (by kernel_rfl) (by kernel_rfl) (by kernel_rfl) (by kernel_rfl) (by kernel_rfl) (by kernel_rfl) (by kernel_rfl) (by kernel_rfl) (by kernel_rfl)
     ·simp at h2
      exact ada.2 ⟨x.f.kids[k.toNat],abD _,by simp [h2]⟩
    ·refine ah (by simp [inR];omega) ?_
     refine aR (k+1) ⟨by omega,by omega,?_⟩ (by omega) ?_
     ·rw [show (k+1).toNat=k.toNat+1 by omega,R2 _ _ k.toNat (by omega),hall]
      simpa [fQ] using h2
     ·exact Weak.eqs [] (by kernel_rfl) (by kernel_rfl) (by kernel_rfl) (by kernel_rfl) (by kernel_rfl) (by kernel_rfl) (by kernel_rfl) (by kernel_rfl) (by kernel_rfl) (by kernel_rfl)
   ·refine bp ?_
    simp at h;refine al ⟨⟨[(4,.d (.bool false))],H19 c b f0 x aM i,20,[],20⟩,.inr ?_,rfl,_,rfl,rfl,.inr (.inr ⟨hb,?_,rfl,rfl⟩)⟩
    ·exact Weak.eqs [] (by kernel_rfl) (by kernel_rfl) (by kernel_rfl) (by kernel_rfl) (by kernel_rfl) (by kernel_rfl) (by kernel_rfl) (by kernel_rfl) (by kernel_rfl) (by kernel_rfl)
    ·rw [abt (by omega)] at hall
     exact hall
 ·refine al ⟨⟨[],H19 c b f0 x aM i,20,[],20⟩,.inr ?_,rfl,rfl,.inl ⟨hb,rfl,rfl⟩⟩
  exact Weak.eqs [] (by kernel_rfl) (by kernel_rfl) (by kernel_rfl) (by kernel_rfl) (by kernel_rfl) (by kernel_rfl) (by kernel_rfl) (by kernel_rfl) (by kernel_rfl) (by kernel_rfl)
end Uw.Tryz.Vm
namespace Uw.Tryz.Vm
open Go Uw Uw.Tryz
def pushed (x:LX) (v:Int):LX:={ x with xs:=x.xs.take x.n++[[I v]],n:=x.n+1,ver:=x.ver+1 }
def rC (x:LX) (to:Int):LX:={ x with f:={ x.f with pc:=to,spent:=x.f.spent+1 } }
def popped (x:LX):LX:={ x with n:=((x.n:Int) - 1 - 0).toNat }
theorem Y9 (c:Cd) (b:Bd) (f0:Frame) (x:LX) (i:In4) (v:Int) (h1:x.n<=x.xs.length) :
  bQ P0 qn [.ptr 5 0,.d (I v)] (H19 c b f0 x aM i) 20 (fun r h' nx'=>nx' = 20/\((x.n<100/\r = .val (.tuple [])/\h' = H19 c b f0 (pushed x v) aM i)\/(¬x.n<100/\r = .pan v7/\h' = H19 c b f0 x aM i))):=by
 refine bU du rfl ?_;refine cC ?_;refine av (aU _ _ _ _) ?_;rintro _ _ _ ⟨rfl,rfl,⟨hb,rfl⟩|⟨hb,rfl⟩⟩
 ·simp at hb
  refine cC ?_;refine ah (by simp;omega) ?_;refine al ⟨⟨[],H19 c b f0 (pushed x v) aM i,20,[],20⟩,.inr ?_,rfl,[],rfl,rfl,.inl ⟨by omega,rfl,rfl⟩⟩;exact Weak.eqs [] (by kernel_rfl) (by kernel_rfl) (by kernel_rfl) (by kernel_rfl) (by kernel_rfl) (by kernel_rfl) (by kernel_rfl) (by kernel_rfl) (by kernel_rfl) (by kernel_rfl)
 ·simp at hb
  refine al ⟨⟨[],H19 c b f0 x aM i,20,[],20⟩,.inr ?_,rfl,rfl,.inr ⟨by omega,rfl,rfl⟩⟩;exact Weak.eqs [] (by kernel_rfl) (by kernel_rfl) (by kernel_rfl) (by kernel_rfl) (by kernel_rfl) (by kernel_rfl) (by kernel_rfl) (by kernel_rfl) (by kernel_rfl) (by kernel_rfl)
theorem R7 (c:Cd) (b:Bd) (f0:Frame) (x:LX) (i:In4) (to:Int) (h3:0<=x.f.spent) (h4:x.f.spent<2000) :
  bQ P0 o6 [.ptr 5 0,.d (I to)] (H19 c b f0 x aM i) 20 (fun r h' nx'=>nx' = 20/\r = .val (.tuple [])/\h' = H19 c b f0 (rC x to) aM i):=by
 refine bU da rfl ?_;refine ah (by simp [inR];omega) ?_;refine al ⟨⟨[],H19 c b f0 (rC x to) aM i,20,[],20⟩,.inr ?_,rfl,[],rfl,rfl,rfl,rfl⟩;exact Weak.eqs [] (by kernel_rfl) (by kernel_rfl) (by kernel_rfl) (by kernel_rfl) (by kernel_rfl) (by kernel_rfl) (by kernel_rfl) (by kernel_rfl) (by kernel_rfl) (by kernel_rfl)
theorem mM (c:Cd) (b:Bd) (f0:Frame) (x:LX) (i:In4) (h1:0<=x.f.pc) (h2:x.f.pc<1000) (h3:0<=x.f.spent) (h4:x.f.spent<2000) :
  bQ P0 oY [.ptr 5 0] (H19 c b f0 x aM i) 20 (fun r h' nx'=>nx' = 20/\r = .val (.tuple [])/\h' = H19 c b f0 (passed x) aM i):=by
 refine bU c9 rfl ?_;refine ah (by simp [inR];omega) ?_;refine av (R7 c b f0 x i _ h3 h4) ?_;rintro _ _ _ ⟨rfl,rfl,rfl⟩;refine al ⟨⟨[],H19 c b f0 (passed x) aM i,20,[],20⟩,.inr ?_,rfl,[],rfl,rfl,rfl,rfl⟩;exact Weak.eqs [] (by kernel_rfl) (by kernel_rfl) (by kernel_rfl) (by kernel_rfl) (by kernel_rfl) (by kernel_rfl) (by kernel_rfl) (by kernel_rfl) (by kernel_rfl) (by kernel_rfl)
theorem Pj (c:Cd) (b:Bd) (f0:Frame) (x:LX) (i:In4) (hx:Inv c b x) :
  bQ P0 qo [.ptr 5 0] (H19 c b f0 x aM i) 20 (fun r h' nx'=>nx' = 20/\((0<x.n/\r = .val (.d (I (x.f.stack.getLastD 0)))/\h' = H19 c b f0 (popped x) aM i)\/(x.n=0/\r = .pan v7/\h' = H19 c b f0 x aM i))):=by
 have h5:=hx.deep;have h6:=hx.len;have h7:=hx.le;refine bU xU rfl ?_;refine bO b9 rfl ?_;refine cC ?_;refine av (aU _ _ _ _) ?_;rintro _ _ _ ⟨rfl,rfl,⟨hb,rfl⟩|⟨hb,rfl⟩⟩
 ·simp at hb
  refine cC ?_;refine ah (by simp [inR];omega) ?_;refine cC ?_;refine ah (by simp;omega) ?_;refine cC ?_;refine ah (by simp;omega) ?_;refine cC ?_;refine ah (by simp;omega) ?_;refine dR rfl rfl ?_;refine ah rfl ?_;refine ah (by simp;omega) ?_;refine ah rfl ?_;refine aF [I (x.f.stack.getLastD 0)] (by simp only [abw,abB];rw [if_pos (by omega),show 0+((x.n:Int) - 1).toNat+(0+(0:Int).toNat)=x.n - 1 by omega];exact lA hx.pre hx.len hx.le (by omega)) ?_;refine al ⟨⟨[(2,.d (I (x.f.stack.getLastD 0)))],H19 c b f0 (popped x) aM i,20,[],20⟩,.inr ?_,rfl,_,rfl,rfl,.inl ⟨by omega,rfl,rfl⟩⟩;exact Weak.eqs [] (by kernel_rfl) (by kernel_rfl) (by kernel_rfl) (by kernel_rfl) (by kernel_rfl) (by kernel_rfl) (by kernel_rfl) (by kernel_rfl) (by kernel_rfl) (by kernel_rfl)
 ·simp at hb
  refine kG rfl ?_;refine al ⟨⟨[],H19 c b f0 x aM i,20,[],20⟩,.inr ?_,rfl,rfl,.inr ⟨by omega,rfl,rfl⟩⟩;exact Weak.eqs [] (by kernel_rfl) (by kernel_rfl) (by kernel_rfl) (by kernel_rfl) (by kernel_rfl) (by kernel_rfl) (by kernel_rfl) (by kernel_rfl) (by kernel_rfl) (by kernel_rfl)
end Uw.Tryz.Vm
namespace Uw.Tryz.Vm
open Go Uw Uw.Tryz
structure Mid (c:Cd) (b:Bd) (x:LX):Prop where
 pre:x.xs.take x.n=rows x.f.stack
 len:x.n=x.f.stack.length
 le:x.n<=x.xs.length
 loc:x.ls=rows x.f.loc
 deep:x.f.stack.length<=100
 pc0:0<=x.f.pc
 pc1:x.f.pc<=1000
 sp0:0<=x.f.spent
 sp1:x.f.spent<=2000
 pK:x.f.loc.length<1000
 kids:x.f.kids.length<1000
def aK:Ask:=⟨0,0,0,(0,0,0,0),[]⟩
def AZ (a:Ask):List V:=[.d (I a.kind),.d (I a.a),.d (I a.b),.d (I a.op.1),.d (I a.op.2.1),.d (I a.op.2.2.1),.d (I a.op.2.2.2),.d .nil]
def Done (c:Cd) (b:Bd) (f0:Frame) (i:In4) (s:Option (Frame×Ask)) (r:Res) (h' : Heap) (nx' : Nat):Prop:=
 match s with
 | none=>nx' = 19/\r = .pan v7/\∃y ask,h' = LH c b f0 y ask i
 | some (g,a)=>nx' = 19/\r = .val (.tuple [])/\∃y,y.f=g/\Mid c b y/\h' = LH c b f0 y (AZ a) i
def pass (f:Frame) (to:Int):Frame:={ f with pc:=to,spent:=f.spent+1 }
def next (f:Frame):Frame:=pass f (f.pc+1)
def oe (f:Frame) (v:Int):Frame:={ f with stack:=f.stack++[v] }
def eu (f:Frame):Frame:={ f with stack:=f.stack.dropLast }
def cH (f:Frame):Int:=f.stack.getLastD 0
theorem Inv.mid {c:Cd} {b:Bd} {x:LX} (h:Inv c b x):Mid c b x:=⟨h.pre,h.len,h.le,h.loc,h.deep,h.pc0,by have:=h.pc1;omega,h.sp0,by have:=h.sp1;omega,h.pK,h.kids⟩
theorem Mid.go {c:Cd} {b:Bd} {x:LX} (h:Inv c b x) (to:Int) (h0:0<=to) (h1:to<=1000):Mid c b (rC x to):=
 ⟨h.pre,h.len,h.le,h.loc,h.deep,h0,h1,by have:=h.sp0;simp [rC];omega,by have:=h.sp1;simp [rC];omega,h.pK,h.kids⟩
theorem zV (a b:List Int):rows (a++b)=rows a++rows b:=by simp [rows]
def jR (x:LX) (v:Int):LX:={ pushed x v with f:=oe x.f v }
def bC (x:LX):LX:={ popped x with f:=eu x.f }
theorem Inv.push {c:Cd} {b:Bd} {x:LX} (h:Inv c b x) (v:Int) (hn:x.n<100):Inv c b (jR x v):=by
 have h1:=h.len;have h2:=h.le;refine ⟨?_,?_,?_,h.loc,?_,h.pc0,h.pc1,h.sp0,h.sp1,h.pK,h.kids,h.ins,h.aA,h.cells⟩
 ·simp only [jR,pushed,oe,zV]
  rw [abt (by simp;omega),h.pre];rfl
 ·simp [jR,pushed,oe];omega
 ·simp [jR,pushed];omega
 ·simp [jR,oe];omega
theorem Inv.pop {c:Cd} {b:Bd} {x:LX} (h:Inv c b x) (hn:0<x.n):Inv c b (bC x):=by
 have h1:=h.len;have h2:=h.le;have h3:=h.deep;have e:((x.n:Int) - 1 - 0).toNat=x.n - 1:=by omega
 refine ⟨?_,?_,?_,h.loc,?_,h.pc0,h.pc1,h.sp0,h.sp1,h.pK,h.kids,h.ins,h.aA,h.cells⟩
 ·simp only [bC,popped,eu,e]
  have:x.xs.take (x.n - 1)=(x.xs.take x.n).take (x.n - 1):=by rw [ado,adG (by omega)]
  rw [this,h.pre,List.dropLast_eq_take,rows,rows,List.map_take,h1]
 ·simp [bC,popped,eu];omega
 ·simp [bC,popped];omega
 ·simp [bC,eu];omega
theorem za {l:List Int} {k m:Nat} (h:k<l.length) (hm:m=k):(rows l)[m]? = some [I (l.getD k 0)]:=by
 subst hm;simp [rows,h]
def fR (f:Frame) (i:In4):Option (Frame×Ask):=
 if below i.a f.loc.length then
  if awaited f i.a then some (f,{ aK with kind:=5 })
  else if f.stack.length<100 then some (next (oe f (f.loc.getD i.a.toNat 0)),aK) else none
 else none
theorem U6 (c:Cd) (b:Bd) (f0:Frame) (x:LX) (i:In4) (hx:Inv c b x) :
  bQ P0 CZ [.ptr 5 0,.agg (eT i)] (LH c b f0 x aM i) 19 (Done c b f0 i (fR x.f i)):=by
 have h6:=hx.len;refine bU IP rfl ?_;refine av (Nr c b f0 x i i.a hx) ?_;rintro _ _ _ ⟨rfl,⟨hb,rfl,rfl⟩|⟨hb,ha,rfl,rfl⟩|⟨hb,ha,rfl,rfl⟩⟩
 ·have hs:fR x.f i=none:=by simp [fR,hb]
  refine al ⟨⟨[],LH c b f0 x aM i,19,[],19⟩,.inr ?_,rfl,?_⟩
  ·exact Weak.eqs [] (by kernel_rfl) (by kernel_rfl) (by kernel_rfl) (by kernel_rfl) (by kernel_rfl) (by kernel_rfl) (by kernel_rfl) (by kernel_rfl) (by kernel_rfl) (by kernel_rfl)
  ·rw [hs];exact ⟨rfl,rfl,_,_,rfl⟩
 ·have hs:fR x.f i=some (x.f,{ aK with kind:=5 }):=by simp [fR,hb,ha]
  refine ah rfl ?_;refine al ⟨⟨[],LH c b f0 x zU i,19,[],19⟩,.inr ?_,rfl,[],rfl,?_⟩
  ·exact Weak.eqs [] (by kernel_rfl) (by kernel_rfl) (by kernel_rfl) (by kernel_rfl) (by kernel_rfl) (by kernel_rfl) (by kernel_rfl) (by kernel_rfl) (by kernel_rfl) (by kernel_rfl)
  ·rw [hs];exact ⟨rfl,rfl,x,rfl,hx.mid,rfl⟩
 ·have hb' : 0<=i.a/\i.a<x.f.loc.length:=by simpa [below] using hb
  have hlt:i.a.toNat<x.f.loc.length:=by omega
  refine aS rfl ?_;refine cC ?_;refine ah (by simp;omega) ?_;refine cC ?_;refine aF [I (x.f.loc.getD i.a.toNat 0)] (by rw [hx.loc];exact za hlt (by omega)) ?_;refine av (Y9 c b f0 x i _ hx.le) ?_;rintro _ _ _ ⟨rfl,⟨hn,rfl,rfl⟩|⟨hn,rfl,rfl⟩⟩
  ·have hs:fR x.f i=some (next (oe x.f (x.f.loc.getD i.a.toNat 0)),aK):=by simp [fR,hb,ha];omega
   have hy:=hx.push (x.f.loc.getD i.a.toNat 0) hn;refine av (mM c b f0 (jR x (x.f.loc.getD i.a.toNat 0)) i hy.pc0 hy.pc1 hy.sp0 hy.sp1) ?_;rintro _ _ _ ⟨rfl,rfl,rfl⟩;refine al ⟨⟨[],LH c b f0 (passed (jR x (x.f.loc.getD i.a.toNat 0))) aM i,19,[],19⟩,.inr ?_,rfl,[],rfl,?_⟩
   ·exact Weak.eqs [] (by kernel_rfl) (by kernel_rfl) (by kernel_rfl) (by kernel_rfl) (by kernel_rfl) (by kernel_rfl) (by kernel_rfl) (by kernel_rfl) (by kernel_rfl) (by kernel_rfl)
   ·rw [hs];exact ⟨rfl,rfl,_,rfl,Mid.go hy _ (by have:=hy.pc0;omega) (by have:=hy.pc1;omega),rfl⟩
  ·have hs:fR x.f i=none:=by simp [fR,hb,ha];omega
   refine al ⟨⟨[],LH c b f0 x aM i,19,[],19⟩,.inr ?_,rfl,?_⟩
   ·exact Weak.eqs [] (by kernel_rfl) (by kernel_rfl) (by kernel_rfl) (by kernel_rfl) (by kernel_rfl) (by kernel_rfl) (by kernel_rfl) (by kernel_rfl) (by kernel_rfl) (by kernel_rfl)
   ·rw [hs];exact ⟨rfl,rfl,_,_,rfl⟩
end Uw.Tryz.Vm
namespace Uw.Tryz.Vm
open Go Uw Uw.Tryz
theorem um {c:Cd} {b:Bd} {x:LX} (hx:Inv c b x):(x.n=0)=(x.f.stack=[]):=by
 rw [hx.len,List.length_eq_zero_iff]
theorem Ns (c:Cd) (b:Bd) (f0:Frame) (x:LX) (i:In4) (hx:Inv c b x) :
  bQ P0 o5 [.ptr 5 0] (H19 c b f0 x aM i) 20 (fun r h' nx'=>nx' = 20/\
   ((x.f.kids=[]/\r = .val (.d (.bool false))/\h' = H19 c b f0 x aM i)\/(x.f.kids≠[]/\r = .val (.d (.bool true))/\h' = H19 c b f0 x zU i))):=by
 have h5:=hx.kids;refine bU vV rfl ?_;refine cC ?_;refine bF (fun h=>?_) (fun h=>?_)
 ·simp at h
  refine al ⟨⟨[(2,.d (.bool false))],H19 c b f0 x aM i,20,[],20⟩,.inr ?_,rfl,_,rfl,rfl,.inl ⟨h,rfl,rfl⟩⟩;exact Weak.eqs [] (by kernel_rfl) (by kernel_rfl) (by kernel_rfl) (by kernel_rfl) (by kernel_rfl) (by kernel_rfl) (by kernel_rfl) (by kernel_rfl) (by kernel_rfl) (by kernel_rfl)
 ·simp at h
  refine al ⟨⟨[(2,.d (.bool true))],H19 c b f0 x zU i,20,[],20⟩,.inr ?_,rfl,_,rfl,rfl,.inr ⟨h,rfl,rfl⟩⟩;exact Weak.eqs [] (by kernel_rfl) (by kernel_rfl) (by kernel_rfl) (by kernel_rfl) (by kernel_rfl) (by kernel_rfl) (by kernel_rfl) (by kernel_rfl) (by kernel_rfl) (by kernel_rfl)
theorem Jo (c:Cd) (b:Bd) (f0:Frame) (x:LX) (i:In4) (to:Int) (hx:Inv c b x) :
  bQ P0 nH [.ptr 5 0,.d (I to)] (H19 c b f0 x aM i) 20 (fun r h' nx'=>nx' = 20/\h' = H19 c b f0 x aM i/\
   ((below to b.ins.length=true/\r = .val (.d (I to)))\/(below to b.ins.length=false/\r = .pan v7))):=by
 have h5:=hx.ins;refine bU uH rfl ?_;refine aL _ (s25 _ _) ?_;refine av (aU _ _ _ _) ?_;rintro _ _ _ ⟨rfl,rfl,⟨hb,rfl⟩|⟨hb,rfl⟩⟩
 ·refine al ⟨⟨[(4,.d (I to))],H19 c b f0 x aM i,20,[],20⟩,.inr ?_,rfl,_,rfl,rfl,rfl,.inl ⟨by simpa [below] using hb,rfl⟩⟩
  exact Weak.eqs [] (by kernel_rfl) (by kernel_rfl) (by kernel_rfl) (by kernel_rfl) (by kernel_rfl) (by kernel_rfl) (by kernel_rfl) (by kernel_rfl) (by kernel_rfl) (by kernel_rfl)
 ·refine al ⟨⟨[],H19 c b f0 x aM i,20,[],20⟩,.inr ?_,rfl,rfl,rfl,.inr ⟨by simpa [below] using hb,rfl⟩⟩
  exact Weak.eqs [] (by kernel_rfl) (by kernel_rfl) (by kernel_rfl) (by kernel_rfl) (by kernel_rfl) (by kernel_rfl) (by kernel_rfl) (by kernel_rfl) (by kernel_rfl) (by kernel_rfl)
def ke (f:Frame) (i:In4):Option (Frame×Ask):=if isVal i.a=true/\f.stack.length<100 then some (next (oe f i.a),aK) else none
theorem U7 (c:Cd) (b:Bd) (f0:Frame) (x:LX) (i:In4) (hx:Inv c b x) :
  bQ P0 Fg [.ptr 5 0,.agg (eT i)] (LH c b f0 x aM i) 19 (Done c b f0 i (ke x.f i)):=by
 have h6:=hx.len;refine bU Lm rfl ?_;refine aL _ (s38 _) ?_;refine av (aU _ _ _ _) ?_;rintro _ _ _ ⟨rfl,rfl,⟨hb,rfl⟩|⟨hb,rfl⟩⟩
 ·refine av (Y9 c b f0 x i _ hx.le) ?_
  rintro _ _ _ ⟨rfl,⟨hn,rfl,rfl⟩|⟨hn,rfl,rfl⟩⟩
  ·have hs:ke x.f i=some (next (oe x.f i.a),aK):=by simp [ke,hb];omega
   have hy:=hx.push i.a hn;refine av (mM c b f0 (jR x i.a) i hy.pc0 hy.pc1 hy.sp0 hy.sp1) ?_;rintro _ _ _ ⟨rfl,rfl,rfl⟩;refine al ⟨⟨[],LH c b f0 (passed (jR x i.a)) aM i,19,[],19⟩,.inr ?_,rfl,[],rfl,?_⟩
   ·exact Weak.eqs [] (by kernel_rfl) (by kernel_rfl) (by kernel_rfl) (by kernel_rfl) (by kernel_rfl) (by kernel_rfl) (by kernel_rfl) (by kernel_rfl) (by kernel_rfl) (by kernel_rfl)
   ·rw [hs];exact ⟨rfl,rfl,(passed (jR x i.a)),rfl,Mid.go hy _ (by have:=hy.pc0;omega) (by have:=hy.pc1;omega),rfl⟩
  ·have hs:ke x.f i=none:=by simp [ke,hb];omega
   refine al ⟨⟨[],LH c b f0 x aM i,19,[],19⟩,.inr ?_,rfl,?_⟩
   ·exact Weak.eqs [] (by kernel_rfl) (by kernel_rfl) (by kernel_rfl) (by kernel_rfl) (by kernel_rfl) (by kernel_rfl) (by kernel_rfl) (by kernel_rfl) (by kernel_rfl) (by kernel_rfl)
   ·rw [hs];exact ⟨rfl,rfl,_,_,rfl⟩
 ·have hs:ke x.f i=none:=by simp [ke,hb]
  refine al ⟨⟨[],LH c b f0 x aM i,19,[],19⟩,.inr ?_,rfl,?_⟩
  ·exact Weak.eqs [] (by kernel_rfl) (by kernel_rfl) (by kernel_rfl) (by kernel_rfl) (by kernel_rfl) (by kernel_rfl) (by kernel_rfl) (by kernel_rfl) (by kernel_rfl) (by kernel_rfl)
  ·rw [hs];exact ⟨rfl,rfl,_,_,rfl⟩
def pg (c:Cd) (f:Frame) (i:In4):Option (Frame×Ask):=if below i.a c.cells.length then some (next f,{ aK with kind:=1,a:=i.a }) else none
theorem XY (c:Cd) (b:Bd) (f0:Frame) (x:LX) (i:In4) (hx:Inv c b x) :
  bQ P0 Fh [.ptr 5 0,.agg (eT i)] (LH c b f0 x aM i) 19 (Done c b f0 i (pg c x.f i)):=by
 have h6:=hx.len;refine bU Lq rfl ?_;have h7:=hx.cells;refine aL _ (s25 _ _) ?_;refine av (aU _ _ _ _) ?_;rintro _ _ _ ⟨rfl,rfl,⟨hb,rfl⟩|⟨hb,rfl⟩⟩
 ·have hs:pg c x.f i=some (next x.f,{ aK with kind:=1,a:=i.a }):=by simp at hb;simp [pg,below,hb]
  refine av (mM c b f0 x i hx.pc0 hx.pc1 hx.sp0 hx.sp1) ?_;rintro _ _ _ ⟨rfl,rfl,rfl⟩;refine al ⟨⟨[],LH c b f0 (passed x) (AZ { aK with kind:=1,a:=i.a }) i,19,[],19⟩,.inr ?_,rfl,[],rfl,?_⟩
  ·exact Weak.eqs [] (by kernel_rfl) (by kernel_rfl) (by kernel_rfl) (by kernel_rfl) (by kernel_rfl) (by kernel_rfl) (by kernel_rfl) (by kernel_rfl) (by kernel_rfl) (by kernel_rfl)
  ·rw [hs];exact ⟨rfl,rfl,(passed x),rfl,Mid.go hx _ (by have:=hx.pc0;omega) (by have:=hx.pc1;omega),rfl⟩
 ·have hs:pg c x.f i=none:=by simp at hb;simp [pg,below];omega
  refine al ⟨⟨[],LH c b f0 x aM i,19,[],19⟩,.inr ?_,rfl,?_⟩
  ·exact Weak.eqs [] (by kernel_rfl) (by kernel_rfl) (by kernel_rfl) (by kernel_rfl) (by kernel_rfl) (by kernel_rfl) (by kernel_rfl) (by kernel_rfl) (by kernel_rfl) (by kernel_rfl)
  ·rw [hs];exact ⟨rfl,rfl,_,_,rfl⟩
def ii (c:Cd) (f:Frame) (i:In4):Option (Frame×Ask):=if below i.a c.cells.length=true/\f.stack≠[] then some (next (eu f),{ aK with kind:=2,a:=i.a,b:=cH f }) else none
theorem U8 (c:Cd) (b:Bd) (f0:Frame) (x:LX) (i:In4) (hx:Inv c b x) :
  bQ P0 C0 [.ptr 5 0,.agg (eT i)] (LH c b f0 x aM i) 19 (Done c b f0 i (ii c x.f i)):=by
 have h6:=hx.len;refine bU IR rfl ?_;have h7:=hx.cells;refine aL _ (s25 _ _) ?_;refine av (aU _ _ _ _) ?_;rintro _ _ _ ⟨rfl,rfl,⟨hb,rfl⟩|⟨hb,rfl⟩⟩
 ·refine av (Pj c b f0 x i hx) ?_
  rintro _ _ _ ⟨rfl,⟨hn,rfl,rfl⟩|⟨hn,rfl,rfl⟩⟩
  ·have he:x.f.stack≠[]:=by intro h;rw [h6,h] at hn;simp at hn
   have hs:ii c x.f i=some (next (eu x.f),{ aK with kind:=2,a:=i.a,b:=cH x.f }):=by simp at hb;simp [ii,below,hb,he]
   have hy:=hx.pop hn;refine av (mM c b f0 (bC x) i hy.pc0 hy.pc1 hy.sp0 hy.sp1) ?_;rintro _ _ _ ⟨rfl,rfl,rfl⟩;refine al ⟨⟨[],LH c b f0 (passed (bC x)) (AZ { aK with kind:=2,a:=i.a,b:=cH x.f }) i,19,[],19⟩,.inr ?_,rfl,[],rfl,?_⟩
   ·exact Weak.eqs [] (by kernel_rfl) (by kernel_rfl) (by kernel_rfl) (by kernel_rfl) (by kernel_rfl) (by kernel_rfl) (by kernel_rfl) (by kernel_rfl) (by kernel_rfl) (by kernel_rfl)
   ·rw [hs];exact ⟨rfl,rfl,(passed (bC x)),rfl,Mid.go hy _ (by have:=hy.pc0;omega) (by have:=hy.pc1;omega),rfl⟩
  ·have he:x.f.stack=[]:=by rw [<- um hx];exact hn
   have hs:ii c x.f i=none:=by simp [ii,he]
   refine al ⟨⟨[],LH c b f0 x aM i,19,[],19⟩,.inr ?_,rfl,?_⟩
   ·exact Weak.eqs [] (by kernel_rfl) (by kernel_rfl) (by kernel_rfl) (by kernel_rfl) (by kernel_rfl) (by kernel_rfl) (by kernel_rfl) (by kernel_rfl) (by kernel_rfl) (by kernel_rfl)
   ·rw [hs];exact ⟨rfl,rfl,_,_,rfl⟩
 ·have hs:ii c x.f i=none:=by simp at hb;simp [ii,below];omega
  refine al ⟨⟨[],LH c b f0 x aM i,19,[],19⟩,.inr ?_,rfl,?_⟩
  ·exact Weak.eqs [] (by kernel_rfl) (by kernel_rfl) (by kernel_rfl) (by kernel_rfl) (by kernel_rfl) (by kernel_rfl) (by kernel_rfl) (by kernel_rfl) (by kernel_rfl) (by kernel_rfl)
  ·rw [hs];exact ⟨rfl,rfl,_,_,rfl⟩
def pi (f:Frame):Option (Frame×Ask):=if f.stack≠[] then some (next (eu f),aK) else none
theorem XZ (c:Cd) (b:Bd) (f0:Frame) (x:LX) (i:In4) (hx:Inv c b x) :
  bQ P0 Fp [.ptr 5 0,.agg (eT i)] (LH c b f0 x aM i) 19 (Done c b f0 i (pi x.f)):=by
 have h6:=hx.len;refine bU Lx rfl ?_;refine av (Pj c b f0 x i hx) ?_;rintro _ _ _ ⟨rfl,⟨hn,rfl,rfl⟩|⟨hn,rfl,rfl⟩⟩
 ·have he:x.f.stack≠[]:=by intro h;rw [h6,h] at hn;simp at hn
  have hs:pi x.f=some (next (eu x.f),aK):=by simp [pi,he]
  have hy:=hx.pop hn;refine av (mM c b f0 (bC x) i hy.pc0 hy.pc1 hy.sp0 hy.sp1) ?_;rintro _ _ _ ⟨rfl,rfl,rfl⟩;refine al ⟨⟨[],LH c b f0 (passed (bC x)) aM i,19,[],19⟩,.inr ?_,rfl,[],rfl,?_⟩
  ·exact Weak.eqs [] (by kernel_rfl) (by kernel_rfl) (by kernel_rfl) (by kernel_rfl) (by kernel_rfl) (by kernel_rfl) (by kernel_rfl) (by kernel_rfl) (by kernel_rfl) (by kernel_rfl)
  ·rw [hs];exact ⟨rfl,rfl,(passed (bC x)),rfl,Mid.go hy _ (by have:=hy.pc0;omega) (by have:=hy.pc1;omega),rfl⟩
 ·have he:x.f.stack=[]:=by rw [<- um hx];exact hn
  have hs:pi x.f=none:=by simp [pi,he]
  refine al ⟨⟨[],LH c b f0 x aM i,19,[],19⟩,.inr ?_,rfl,?_⟩
  ·exact Weak.eqs [] (by kernel_rfl) (by kernel_rfl) (by kernel_rfl) (by kernel_rfl) (by kernel_rfl) (by kernel_rfl) (by kernel_rfl) (by kernel_rfl) (by kernel_rfl) (by kernel_rfl)
  ·rw [hs];exact ⟨rfl,rfl,_,_,rfl⟩
def jM (f:Frame):Option (Frame×Ask):=if f.kids=[] then some (next f,aK) else some (f,{ aK with kind:=5 })
theorem X0 (c:Cd) (b:Bd) (f0:Frame) (x:LX) (i:In4) (hx:Inv c b x) :
  bQ P0 Fq [.ptr 5 0,.agg (eT i)] (LH c b f0 x aM i) 19 (Done c b f0 i (jM x.f)):=by
 have h6:=hx.len;refine bU LA rfl ?_;refine av (Ns c b f0 x i hx) ?_;rintro _ _ _ ⟨rfl,⟨hn,rfl,rfl⟩|⟨hn,rfl,rfl⟩⟩
 ·have hs:jM x.f=some (next x.f,aK):=by simp [jM,hn]
  refine ah rfl ?_;refine av (mM c b f0 x i hx.pc0 hx.pc1 hx.sp0 hx.sp1) ?_;rintro _ _ _ ⟨rfl,rfl,rfl⟩;refine al ⟨⟨[],LH c b f0 (passed x) aM i,19,[],19⟩,.inr ?_,rfl,[],rfl,?_⟩
  ·exact Weak.eqs [] (by kernel_rfl) (by kernel_rfl) (by kernel_rfl) (by kernel_rfl) (by kernel_rfl) (by kernel_rfl) (by kernel_rfl) (by kernel_rfl) (by kernel_rfl) (by kernel_rfl)
  ·rw [hs];exact ⟨rfl,rfl,(passed x),rfl,Mid.go hx _ (by have:=hx.pc0;omega) (by have:=hx.pc1;omega),rfl⟩
 ·have hs:jM x.f=some (x.f,{ aK with kind:=5 }):=by simp [jM,hn]
  refine aS rfl ?_;refine al ⟨⟨[],LH c b f0 x zU i,19,[],19⟩,.inr ?_,rfl,[],rfl,?_⟩
  ·exact Weak.eqs [] (by kernel_rfl) (by kernel_rfl) (by kernel_rfl) (by kernel_rfl) (by kernel_rfl) (by kernel_rfl) (by kernel_rfl) (by kernel_rfl) (by kernel_rfl) (by kernel_rfl)
  ·rw [hs];exact ⟨rfl,rfl,x,rfl,hx.mid,rfl⟩
def pj (b:Bd) (f:Frame) (i:In4):Option (Frame×Ask):=if below i.a b.ins.length then some (pass f i.a,aK) else none
theorem X2 (c:Cd) (b:Bd) (f0:Frame) (x:LX) (i:In4) (hx:Inv c b x) :
  bQ P0 Ft [.ptr 5 0,.agg (eT i)] (LH c b f0 x aM i) 19 (Done c b f0 i (pj b x.f i)):=by
 have h6:=hx.len;refine bU LC rfl ?_;have h7:=hx.ins;refine av (Jo c b f0 x i i.a hx) ?_;rintro _ _ _ ⟨rfl,rfl,⟨hb,rfl⟩|⟨hb,rfl⟩⟩
 ·have hs:pj b x.f i=some (pass x.f i.a,aK):=by simp [pj,hb]
  have hb' : 0<=i.a/\i.a<b.ins.length:=by simpa [below] using hb
  refine av (R7 c b f0 x i i.a hx.sp0 hx.sp1) ?_;rintro _ _ _ ⟨rfl,rfl,rfl⟩;refine al ⟨⟨[],LH c b f0 (rC x i.a) aM i,19,[],19⟩,.inr ?_,rfl,[],rfl,?_⟩
  ·exact Weak.eqs [] (by kernel_rfl) (by kernel_rfl) (by kernel_rfl) (by kernel_rfl) (by kernel_rfl) (by kernel_rfl) (by kernel_rfl) (by kernel_rfl) (by kernel_rfl) (by kernel_rfl)
  ·rw [hs];exact ⟨rfl,rfl,(rC x i.a),rfl,Mid.go hx _ (by omega) (by omega),rfl⟩
 ·have hs:pj b x.f i=none:=by simp [pj,hb]
  refine al ⟨⟨[],LH c b f0 x aM i,19,[],19⟩,.inr ?_,rfl,?_⟩
  ·exact Weak.eqs [] (by kernel_rfl) (by kernel_rfl) (by kernel_rfl) (by kernel_rfl) (by kernel_rfl) (by kernel_rfl) (by kernel_rfl) (by kernel_rfl) (by kernel_rfl) (by kernel_rfl)
  ·rw [hs];exact ⟨rfl,rfl,_,_,rfl⟩
def kf (b:Bd) (f:Frame) (i:In4):Option (Frame×Ask):=if below i.a b.ins.length=true/\f.stack≠[] then (if cH f=0 then some (pass (eu f) i.a,aK) else some (next (eu f),aK)) else none
theorem X3 (c:Cd) (b:Bd) (f0:Frame) (x:LX) (i:In4) (hx:Inv c b x) :
  bQ P0 Fv [.ptr 5 0,.agg (eT i)] (LH c b f0 x aM i) 19 (Done c b f0 i (kf b x.f i)):=by
 have h6:=hx.len;refine bU LD rfl ?_;have h7:=hx.ins;refine av (Jo c b f0 x i i.a hx) ?_;rintro _ _ _ ⟨rfl,rfl,⟨hb,rfl⟩|⟨hb,rfl⟩⟩
 ·have hb' : 0<=i.a/\i.a<b.ins.length:=by simpa [below] using hb
  refine av (Pj c b f0 x i hx) ?_;rintro _ _ _ ⟨rfl,⟨hn,rfl,rfl⟩|⟨hn,rfl,rfl⟩⟩
  ·have he:x.f.stack≠[]:=by intro h;rw [h6,h] at hn;simp at hn
   have hy:=hx.pop hn;refine bF (fun h=>?_) (fun h=>?_)
   ·have h:cH x.f=0:=by simpa [cH] using h
    have hs:kf b x.f i=some (pass (eu x.f) i.a,aK):=by simp [kf,hb,he,h]
    refine av (R7 c b f0 (bC x) i i.a hy.sp0 hy.sp1) ?_;rintro _ _ _ ⟨rfl,rfl,rfl⟩;refine al ⟨⟨[],LH c b f0 (rC (bC x) i.a) aM i,19,[],19⟩,.inr ?_,rfl,[],rfl,?_⟩
    ·exact Weak.eqs [] (by kernel_rfl) (by kernel_rfl) (by kernel_rfl) (by kernel_rfl) (by kernel_rfl) (by kernel_rfl) (by kernel_rfl) (by kernel_rfl) (by kernel_rfl) (by kernel_rfl)
    ·rw [hs];exact ⟨rfl,rfl,(rC (bC x) i.a),rfl,Mid.go hy _ (by omega) (by omega),rfl⟩
   ·have h:¬cH x.f=0:=by simpa [cH] using h
    have hs:kf b x.f i=some (next (eu x.f),aK):=by simp [kf,hb,he,h]
    refine av (mM c b f0 (bC x) i hy.pc0 hy.pc1 hy.sp0 hy.sp1) ?_;rintro _ _ _ ⟨rfl,rfl,rfl⟩;refine al ⟨⟨[],LH c b f0 (passed (bC x)) aM i,19,[],19⟩,.inr ?_,rfl,[],rfl,?_⟩
    ·exact Weak.eqs [] (by kernel_rfl) (by kernel_rfl) (by kernel_rfl) (by kernel_rfl) (by kernel_rfl) (by kernel_rfl) (by kernel_rfl) (by kernel_rfl) (by kernel_rfl) (by kernel_rfl)
    ·rw [hs];exact ⟨rfl,rfl,(passed (bC x)),rfl,Mid.go hy _ (by have:=hy.pc0;omega) (by have:=hy.pc1;omega),rfl⟩
  ·have he:x.f.stack=[]:=by rw [<- um hx];exact hn
   have hs:kf b x.f i=none:=by simp [kf,he]
   refine al ⟨⟨[],LH c b f0 x aM i,19,[],19⟩,.inr ?_,rfl,?_⟩
   ·exact Weak.eqs [] (by kernel_rfl) (by kernel_rfl) (by kernel_rfl) (by kernel_rfl) (by kernel_rfl) (by kernel_rfl) (by kernel_rfl) (by kernel_rfl) (by kernel_rfl) (by kernel_rfl)
   ·rw [hs];exact ⟨rfl,rfl,_,_,rfl⟩
 ·have hs:kf b x.f i=none:=by simp [kf,hb]
  refine al ⟨⟨[],LH c b f0 x aM i,19,[],19⟩,.inr ?_,rfl,?_⟩
  ·exact Weak.eqs [] (by kernel_rfl) (by kernel_rfl) (by kernel_rfl) (by kernel_rfl) (by kernel_rfl) (by kernel_rfl) (by kernel_rfl) (by kernel_rfl) (by kernel_rfl) (by kernel_rfl)
  ·rw [hs];exact ⟨rfl,rfl,_,_,rfl⟩
def uP (f:Frame):Option (Frame×Ask):=if f.kids=[] then (if f.stack=[] then none else some (next (eu f),{ aK with kind:=6,a:=cH f })) else some (f,{ aK with kind:=5 })
theorem Za (c:Cd) (b:Bd) (f0:Frame) (x:LX) (i:In4) (hx:Inv c b x) :
  bQ P0 IY [.ptr 5 0,.agg (eT i)] (LH c b f0 x aM i) 19 (Done c b f0 i (uP x.f)):=by
 have h6:=hx.len;refine bU O4 rfl ?_;refine av (Ns c b f0 x i hx) ?_;rintro _ _ _ ⟨rfl,⟨hk,rfl,rfl⟩|⟨hk,rfl,rfl⟩⟩
 ·refine aS rfl ?_
  refine av (Pj c b f0 x i hx) ?_;rintro _ _ _ ⟨rfl,⟨hn,rfl,rfl⟩|⟨hn,rfl,rfl⟩⟩
  ·have he:x.f.stack≠[]:=by intro h;rw [h6,h] at hn;simp at hn
   have hs:uP x.f=some (next (eu x.f),{ aK with kind:=6,a:=cH x.f }):=by simp [uP,hk,he]
   have hy:=hx.pop hn;refine av (mM c b f0 (bC x) i hy.pc0 hy.pc1 hy.sp0 hy.sp1) ?_;rintro _ _ _ ⟨rfl,rfl,rfl⟩;refine al ⟨⟨[],LH c b f0 (passed (bC x)) (AZ { aK with kind:=6,a:=cH x.f }) i,19,[],19⟩,.inr ?_,rfl,[],rfl,?_⟩
   ·exact Weak.eqs [] (by kernel_rfl) (by kernel_rfl) (by kernel_rfl) (by kernel_rfl) (by kernel_rfl) (by kernel_rfl) (by kernel_rfl) (by kernel_rfl) (by kernel_rfl) (by kernel_rfl)
   ·rw [hs];exact ⟨rfl,rfl,(passed (bC x)),rfl,Mid.go hy _ (by have:=hy.pc0;omega) (by have:=hy.pc1;omega),rfl⟩
  ·have he:x.f.stack=[]:=by rw [<- um hx];exact hn
   have hs:uP x.f=none:=by simp [uP,hk,he]
   refine al ⟨⟨[],LH c b f0 x aM i,19,[],19⟩,.inr ?_,rfl,?_⟩
   ·exact Weak.eqs [] (by kernel_rfl) (by kernel_rfl) (by kernel_rfl) (by kernel_rfl) (by kernel_rfl) (by kernel_rfl) (by kernel_rfl) (by kernel_rfl) (by kernel_rfl) (by kernel_rfl)
   ·rw [hs];exact ⟨rfl,rfl,_,_,rfl⟩
 ·have hs:uP x.f=some (x.f,{ aK with kind:=5 }):=by simp [uP,hk]
  refine ah rfl ?_;refine al ⟨⟨[],LH c b f0 x zU i,19,[],19⟩,.inr ?_,rfl,[],rfl,?_⟩
  ·exact Weak.eqs [] (by kernel_rfl) (by kernel_rfl) (by kernel_rfl) (by kernel_rfl) (by kernel_rfl) (by kernel_rfl) (by kernel_rfl) (by kernel_rfl) (by kernel_rfl) (by kernel_rfl)
  ·rw [hs];exact ⟨rfl,rfl,x,rfl,hx.mid,rfl⟩
def dJ (f:Frame):Option (Frame×Ask):=if f.stack≠[] then some (next { eu f with fail:=f.fail||decide (cH f=0) },aK) else none
def R9 (x:LX):LX:={ x with f:={ x.f with fail:=true } }
theorem Inv.failed {c:Cd} {b:Bd} {x:LX} (h:Inv c b x):Inv c b (R9 x):=⟨h.pre,h.len,h.le,h.loc,h.deep,h.pc0,h.pc1,h.sp0,h.sp1,h.pK,h.kids,h.ins,h.aA,h.cells⟩
theorem Si (c:Cd) (b:Bd) (f0:Frame) (x:LX) (i:In4) (hx:Inv c b x) :
  bQ P0 zK [.ptr 5 0,.agg (eT i)] (LH c b f0 x aM i) 19 (Done c b f0 i (dJ x.f)):=by
 have h6:=hx.len;refine bU G3 rfl ?_;refine av (Pj c b f0 x i hx) ?_;rintro _ _ _ ⟨rfl,⟨hn,rfl,rfl⟩|⟨hn,rfl,rfl⟩⟩
 ·have he:x.f.stack≠[]:=by intro h;rw [h6,h] at hn;simp at hn
  have hy:=hx.pop hn;refine bF (fun h=>?_) (fun h=>?_)
  ·have h:cH x.f=0:=by simpa [cH] using h
   have hs:dJ x.f=some (next { eu x.f with fail:=true },aK):=by simp [dJ,he,h]
   have hz:=hy.failed;have g1:=hx.pc0;have g2:=hx.pc1;have g3:=hx.sp0;have g4:=hx.sp1;refine bO c9 rfl ?_;refine ah (by simp [inR,popped];omega) ?_;refine bO da rfl ?_;refine ah (by simp [inR,popped];omega) ?_;refine cX rfl rfl ?_;refine cX rfl rfl ?_;refine al ⟨⟨[],LH c b f0 (passed (R9 (bC x))) aM i,19,[],19⟩,.inr ?_,rfl,[],rfl,?_⟩
   ·exact Weak.eqs [] (by kernel_rfl) (by kernel_rfl) (by kernel_rfl) (by kernel_rfl) (by kernel_rfl) (by kernel_rfl) (by kernel_rfl) (by kernel_rfl) (by kernel_rfl) (by kernel_rfl)
   ·rw [hs];exact ⟨rfl,rfl,(passed (R9 (bC x))),rfl,Mid.go hz _ (by have:=hz.pc0;omega) (by have:=hz.pc1;omega),rfl⟩
  ·have h:¬cH x.f=0:=by simpa [cH] using h
   have hs:dJ x.f=some (next (eu x.f),aK):=by simp [dJ,he,h];rfl
   refine av (mM c b f0 (bC x) i hy.pc0 hy.pc1 hy.sp0 hy.sp1) ?_;rintro _ _ _ ⟨rfl,rfl,rfl⟩;refine al ⟨⟨[],LH c b f0 (passed (bC x)) aM i,19,[],19⟩,.inr ?_,rfl,[],rfl,?_⟩
   ·exact Weak.eqs [] (by kernel_rfl) (by kernel_rfl) (by kernel_rfl) (by kernel_rfl) (by kernel_rfl) (by kernel_rfl) (by kernel_rfl) (by kernel_rfl) (by kernel_rfl) (by kernel_rfl)
   ·rw [hs];exact ⟨rfl,rfl,(passed (bC x)),rfl,Mid.go hy _ (by have:=hy.pc0;omega) (by have:=hy.pc1;omega),rfl⟩
 ·have he:x.f.stack=[]:=by rw [<- um hx];exact hn
  have hs:dJ x.f=none:=by simp [dJ,he]
  refine al ⟨⟨[],LH c b f0 x aM i,19,[],19⟩,.inr ?_,rfl,?_⟩
  ·exact Weak.eqs [] (by kernel_rfl) (by kernel_rfl) (by kernel_rfl) (by kernel_rfl) (by kernel_rfl) (by kernel_rfl) (by kernel_rfl) (by kernel_rfl) (by kernel_rfl) (by kernel_rfl)
  ·rw [hs];exact ⟨rfl,rfl,_,_,rfl⟩
end Uw.Tryz.Vm
namespace Uw.Tryz.Vm
open Go Uw Uw.Tryz
theorem Nu (n:Int) (k M:Nat) (hM:M=2 ^ k) (hk:k<=64) (h32:M<=4294967296) (m:Int) (hm:m=(M:Int) - 1):IntKind.i64.wrap ((BitVec.ofInt IntKind.i64.bits n&&&BitVec.ofInt IntKind.i64.bits m).toNat:Int)=n % M:=by
 subst hm;have h1:1<=M:=hM ▸ Nat.one_le_two_pow;have big:((2 ^ 64:Nat):Int)=18446744073709551616:=by decide
 have e:(BitVec.ofInt 64 ((M:Int) - 1)).toNat=M - 1:=by
  rw [BitVec.toNat_ofInt,Int.emod_eq_of_lt (by omega) (by rw [big];omega)];omega
 have e2:((BitVec.ofInt IntKind.i64.bits n&&&BitVec.ofInt IntKind.i64.bits ((M:Int) - 1)).toNat:Int)=n % M:=by
  show ((BitVec.ofInt 64 n&&&BitVec.ofInt 64 ((M:Int) - 1)).toNat:Int)=n % M;rw [BitVec.toNat_and,e,hM,Nat.and_two_pow_sub_one_eq_mod,<- hM,BitVec.toNat_ofInt];rw [Int.natCast_emod,Int.toNat_of_nonneg (Int.emod_nonneg _ (by rw [big];omega))];exact Int.emod_emod_of_dvd n (Int.natCast_dvd_natCast.2 (hM ▸ Nat.pow_dvd_pow 2 hk))
 rw [e2];have a:=Int.emod_nonneg n (by omega:(M:Int)≠0);have b:=Int.emod_lt_of_pos n (by omega:(0:Int)<M);exact wrap_in (by simp [inR];omega)
def cn (n:Int):Int:=n % 4294967296
def keyS (n:Int):Int:=n % 65536
theorem s31 (n:Int):Ret P0 Fj [I n] (I (cn n)):=by
 refine au Ls rfl ?_;refine aj rfl rfl rfl rfl ?_;exact congrArg (fun z=>I z) (Nu n 32 4294967296 (by decide) (by decide) (by decide) 4294967295 (by decide))
theorem s16 (n:Int):Ret P0 I2 [I n] (I (keyS n)):=by
 refine au O5 rfl ?_;refine aj rfl rfl rfl rfl ?_;exact congrArg (fun z=>I z) (Nu n 16 65536 (by decide) (by decide) (by decide) 65535 (by decide))
theorem qF (n:Int):cn (IntKind.i64.wrap n)=cn n:=by
 rw [IntKind.wrap_i64,cn,cn];omega
theorem s47 (x y:Int):Ret P0 xw [I x,I y] (I (cn (x+y))):=by
 refine au ve rfl ?_;refine bF (fun h=>?_) (fun h=>?_)
 ·refine aL _ (s31 _) ?_
  exact aj rfl rfl rfl rfl rfl
 ·refine aL _ (s31 _) ?_
  exact aj rfl rfl rfl rfl (congrArg (fun z=>I z) (qF _))
theorem s48 (x y:Int):Ret P0 xy [I x,I y] (I (cn (x - y))):=by
 refine au vf rfl ?_;refine bF (fun h=>?_) (fun h=>?_)
 ·refine aL _ (s31 _) ?_
  exact aj rfl rfl rfl rfl rfl
 ·refine aL _ (s31 _) ?_
  exact aj rfl rfl rfl rfl (congrArg (fun z=>I z) (qF _))
theorem s49 (x y:Int):Ret P0 xA [I x,I y] (I (cn (x * y))):=by
 refine au vg rfl ?_;refine bF (fun h=>?_) (fun h=>?_)
 ·refine aL _ (s31 _) ?_
  exact aj rfl rfl rfl rfl rfl
 ·refine aL _ (s31 _) ?_
  exact aj rfl rfl rfl rfl (congrArg (fun z=>I z) (qF _))
def truth (b:Bool):Int:=if b then 1 else 0
theorem s51 (b:Bool):Ret P0 C7 [.bool b] (I (truth b)):=by
 refine au IW rfl ?_
 cases b with
 | true=>refine ah rfl ?_;exact aj rfl rfl rfl rfl rfl
 | false=>refine aS rfl ?_;exact aj rfl rfl rfl rfl rfl
theorem s50 (x y:Int):Ret P0 xB [I x,I y] (I (truth (decide (x<y)))):=by
 refine au vh rfl ?_;refine aL _ (s51 _) ?_;exact aj rfl rfl rfl rfl rfl
theorem s52 (x y:Int):Ret P0 xC [I x,I y] (I (truth (decide (x=y)))):=by
 refine au vi rfl ?_;refine aL _ (s51 _) ?_;exact aj rfl rfl rfl rfl rfl
theorem s61 (x y:Int) (hx:isVal x=true) (hy:isVal y=true):Ret P0 xE [I x,I y] (I ((x+y) / 2)):=by
 have hx' : 0<=x/\x<4294967296:=by simpa [isVal] using hx
 have hy' : 0<=y/\y<4294967296:=by simpa [isVal] using hy
 refine au vj rfl ?_;refine ah (by simp [inR];omega) ?_;refine aS rfl ?_;have e:(x+y).tdiv 2=(x+y) / 2:=Int.tdiv_eq_ediv_of_nonneg (by omega);refine ah (by rw [e];simp [inR];omega) ?_;exact aj rfl rfl rfl rfl (congrArg (fun z=>I z) e)
end Uw.Tryz.Vm
namespace Uw.Tryz.Vm
open Go Uw Uw.Tryz
def eG (f:Frame):Int:=cH (eu f)
def aX (op:Int->Int->Int) (f:Frame):Option (Frame×Ask):=if 2<=f.stack.length then some (next (oe (eu (eu f)) (op (eG f) (cH f))),aK) else none
def gY (x:LX) (v:Int):LX:={ x with f:=oe (eu (eu x.f)) v,xs:=x.xs.take ((x.n:Int) - 2 - 0).toNat++[[I v]],n:=((x.n:Int) - 2 - 0).toNat+1,ver:=x.ver+1 }
theorem Inv.gY {c:Cd} {b:Bd} {x:LX} (h:Inv c b x) (v:Int) (hn:2<=x.n):Inv c b (gY x v):=by
 have h1:=h.pop (by omega);have e:(bC x).n=x.n - 1:=by simp [bC,popped]
 have h2:=h1.pop (by omega);have e2:(bC (bC x)).n=x.n - 2:=by have:(bC (bC x)).n=(((bC x).n:Int) - 1 - 0).toNat:=rfl;omega
 have h3:=h2.push v (by have:=h.deep;have:=h.len;omega);have:Uw.Tryz.Vm.gY x v=jR (bC (bC x)) v:=by
  have e3:((x.n:Int) - 2 - 0).toNat=(bC (bC x)).n:=by omega
  simp only [Uw.Tryz.Vm.gY,e3];rfl
 rw [this];exact ⟨h3.pre,h3.len,h3.le,h3.loc,h3.deep,h3.pc0,h3.pc1,h3.sp0,h3.sp1,h3.pK,h3.kids,h3.ins,h3.aA,h3.cells⟩
theorem un {c:Cd} {b:Bd} {x:LX} (h:Inv c b x) (hn:2<=x.n):x.xs[x.n - 2]? = some [I (eG x.f)]:=by
 have h1:=h.pop (by omega);have e:(bC x).n=x.n - 1:=by simp [bC,popped]
 have:=lA h1.pre h1.len h1.le (by omega);rw [e,show x.n - 1 - 1=x.n - 2 by omega] at this;exact this
theorem Zb (c:Cd) (b:Bd) (f0:Frame) (x:LX) (i:In4) (hx:Inv c b x) :
  bQ P0 eR [.ptr 5 0,.agg (eT i),.ptr 11 0] (LH c b f0 x aM i) 19 (Done c b f0 i (aX (fun x y=>cn (x+y)) x.f)):=by
 have h5:=hx.deep;have h6:=hx.len;have h7:=hx.le;have g1:=hx.pc0;have g2:=hx.pc1;have g3:=hx.sp0;have g4:=hx.sp1;refine bU eY rfl ?_;refine bO b9 rfl ?_;refine cC ?_;refine av (aU _ _ _ _) ?_;rintro _ _ _ ⟨rfl,rfl,⟨hb,rfl⟩|⟨hb,rfl⟩⟩
 ·simp at hb
  refine cC ?_;refine ah (by simp [inR];omega) ?_;refine cC ?_;refine ah (by simp;omega) ?_;refine cC ?_;refine ah (by simp;omega) ?_;refine cC ?_;refine ah (by simp;omega) ?_;refine dR rfl rfl ?_;refine br ⟨[(0,.ptr 5 0)],H19 c b f0 { x with xs:=x.xs.take ((x.n:Int) - 2 - 0).toNat++[[I (cn (eG x.f+cH x.f))]],n:=((x.n:Int) - 2 - 0).toNat+1,ver:=x.ver+1 } aM i,20,[],19⟩ ?_ ?_
  ·refine ah rfl ?_
   refine ah (by simp;omega) ?_;refine ah rfl ?_;refine aF [I (eG x.f)] (by simp only [abw,abB];rw [if_pos (by omega),show 0+((x.n:Int) - 2).toNat+(0+(0:Int).toNat)=x.n - 2 by omega];exact un hx (by omega)) ?_;refine ah rfl ?_;refine ah (by simp;omega) ?_;refine ah rfl ?_;refine aF [I (cH x.f)] (by simp only [abw,abB];rw [if_pos (by omega),show 0+((x.n:Int) - 2).toNat+(0+(1:Int).toNat)=x.n - 1 by omega];exact lA hx.pre hx.len hx.le (by omega)) ?_;refine bK (I (cn (eG x.f+cH x.f))) ve.body rfl (s47 _ _) ?_;refine aO (by kernel_rfl) ?_;refine aO (by kernel_rfl) ?_;refine ah rfl ?_;refine ah (by simp;omega) ?_;refine aO (by kernel_rfl) ?_;refine aO (by kernel_rfl) ?_;refine ah rfl ?_;refine ah (by simp;omega) ?_;refine aO (by kernel_rfl) ?_;refine bO du rfl ?_;refine cC ?_;refine bO c8 rfl ?_;refine aS (by simp;omega) ?_;refine cX rfl rfl ?_;refine cC ?_;refine ah (by simp;omega) ?_;refine cX rfl rfl ?_;refine aO (by kernel_rfl) ?_;refine ah rfl ?_;refine ah (by simp;omega) ?_;refine aO (by kernel_rfl) ?_;refine aO (by kernel_rfl) ?_;refine ah rfl ?_;refine ah (by simp;omega) ?_;refine aO (by kernel_rfl) ?_;refine al (.inl ⟨rfl,?_⟩);exact Weak.eqs [] (by kernel_rfl) (by kernel_rfl) (by kernel_rfl) (by kernel_rfl) (by kernel_rfl) (by kernel_rfl) (by kernel_rfl) (by kernel_rfl) (by kernel_rfl) (by kernel_rfl)
  ·have hs:aX (fun x y=>cn (x+y)) x.f=some (next (oe (eu (eu x.f)) (cn (eG x.f+cH x.f))),aK):=by simp [aX];omega
   have hy:=hx.gY (cn (eG x.f+cH x.f)) (by omega);refine av (mM c b f0 (gY x (cn (eG x.f+cH x.f))) i hy.pc0 hy.pc1 hy.sp0 hy.sp1) ?_;rintro _ _ _ ⟨rfl,rfl,rfl⟩;refine al ⟨⟨[],LH c b f0 (passed (gY x (cn (eG x.f+cH x.f)))) aM i,19,[],19⟩,.inr ?_,rfl,[],rfl,?_⟩
   ·exact Weak.eqs [] (by kernel_rfl) (by kernel_rfl) (by kernel_rfl) (by kernel_rfl) (by kernel_rfl) (by kernel_rfl) (by kernel_rfl) (by kernel_rfl) (by kernel_rfl) (by kernel_rfl)
   ·rw [hs];exact ⟨rfl,rfl,_,rfl,Mid.go hy _ (by have:=hy.pc0;omega) (by have:=hy.pc1;omega),rfl⟩
 ·have hs:aX (fun x y=>cn (x+y)) x.f=none:=by simp at hb;simp [aX];omega
  refine kG rfl ?_;refine al ⟨⟨[],LH c b f0 x aM i,19,[],19⟩,.inr ?_,rfl,?_⟩
  ·exact Weak.eqs [] (by kernel_rfl) (by kernel_rfl) (by kernel_rfl) (by kernel_rfl) (by kernel_rfl) (by kernel_rfl) (by kernel_rfl) (by kernel_rfl) (by kernel_rfl) (by kernel_rfl)
  ·rw [hs];exact ⟨rfl,rfl,_,_,rfl⟩
theorem Zc (c:Cd) (b:Bd) (f0:Frame) (x:LX) (i:In4) (hx:Inv c b x) :
  bQ P0 eR [.ptr 5 0,.agg (eT i),.ptr 12 0] (LH c b f0 x aM i) 19 (Done c b f0 i (aX (fun x y=>cn (x - y)) x.f)):=by
 have h5:=hx.deep;have h6:=hx.len;have h7:=hx.le;have g1:=hx.pc0;have g2:=hx.pc1;have g3:=hx.sp0;have g4:=hx.sp1;refine bU eY rfl ?_;refine bO b9 rfl ?_;refine cC ?_;refine av (aU _ _ _ _) ?_;rintro _ _ _ ⟨rfl,rfl,⟨hb,rfl⟩|⟨hb,rfl⟩⟩
 ·simp at hb
  refine cC ?_;refine ah (by simp [inR];omega) ?_;refine cC ?_;refine ah (by simp;omega) ?_;refine cC ?_;refine ah (by simp;omega) ?_;refine cC ?_;refine ah (by simp;omega) ?_;refine dR rfl rfl ?_;refine br ⟨[(0,.ptr 5 0)],H19 c b f0 { x with xs:=x.xs.take ((x.n:Int) - 2 - 0).toNat++[[I (cn (eG x.f - cH x.f))]],n:=((x.n:Int) - 2 - 0).toNat+1,ver:=x.ver+1 } aM i,20,[],19⟩ ?_ ?_
  ·refine ah rfl ?_
   refine ah (by simp;omega) ?_;refine ah rfl ?_;refine aF [I (eG x.f)] (by simp only [abw,abB];rw [if_pos (by omega),show 0+((x.n:Int) - 2).toNat+(0+(0:Int).toNat)=x.n - 2 by omega];exact un hx (by omega)) ?_;refine ah rfl ?_;refine ah (by simp;omega) ?_;refine ah rfl ?_;refine aF [I (cH x.f)] (by simp only [abw,abB];rw [if_pos (by omega),show 0+((x.n:Int) - 2).toNat+(0+(1:Int).toNat)=x.n - 1 by omega];exact lA hx.pre hx.len hx.le (by omega)) ?_;refine bK (I (cn (eG x.f - cH x.f))) vf.body rfl (s48 _ _) ?_;refine aO (by kernel_rfl) ?_;refine aO (by kernel_rfl) ?_;refine ah rfl ?_;refine ah (by simp;omega) ?_;refine aO (by kernel_rfl) ?_;refine aO (by kernel_rfl) ?_;refine ah rfl ?_;refine ah (by simp;omega) ?_;refine aO (by kernel_rfl) ?_;refine bO du rfl ?_;refine cC ?_;refine bO c8 rfl ?_;refine aS (by simp;omega) ?_;refine cX rfl rfl ?_;refine cC ?_;refine ah (by simp;omega) ?_;refine cX rfl rfl ?_;refine aO (by kernel_rfl) ?_;refine ah rfl ?_;refine ah (by simp;omega) ?_;refine aO (by kernel_rfl) ?_;refine aO (by kernel_rfl) ?_;refine ah rfl ?_;refine ah (by simp;omega) ?_;refine aO (by kernel_rfl) ?_;refine al (.inl ⟨rfl,?_⟩);exact Weak.eqs [] (by kernel_rfl) (by kernel_rfl) (by kernel_rfl) (by kernel_rfl) (by kernel_rfl) (by kernel_rfl) (by kernel_rfl) (by kernel_rfl) (by kernel_rfl) (by kernel_rfl)
  ·have hs:aX (fun x y=>cn (x - y)) x.f=some (next (oe (eu (eu x.f)) (cn (eG x.f - cH x.f))),aK):=by simp [aX];omega
   have hy:=hx.gY (cn (eG x.f - cH x.f)) (by omega);refine av (mM c b f0 (gY x (cn (eG x.f - cH x.f))) i hy.pc0 hy.pc1 hy.sp0 hy.sp1) ?_;rintro _ _ _ ⟨rfl,rfl,rfl⟩;refine al ⟨⟨[],LH c b f0 (passed (gY x (cn (eG x.f - cH x.f)))) aM i,19,[],19⟩,.inr ?_,rfl,[],rfl,?_⟩
   ·exact Weak.eqs [] (by kernel_rfl) (by kernel_rfl) (by kernel_rfl) (by kernel_rfl) (by kernel_rfl) (by kernel_rfl) (by kernel_rfl) (by kernel_rfl) (by kernel_rfl) (by kernel_rfl)
   ·rw [hs];exact ⟨rfl,rfl,_,rfl,Mid.go hy _ (by have:=hy.pc0;omega) (by have:=hy.pc1;omega),rfl⟩
 ·have hs:aX (fun x y=>cn (x - y)) x.f=none:=by simp at hb;simp [aX];omega
  refine kG rfl ?_;refine al ⟨⟨[],LH c b f0 x aM i,19,[],19⟩,.inr ?_,rfl,?_⟩
  ·exact Weak.eqs [] (by kernel_rfl) (by kernel_rfl) (by kernel_rfl) (by kernel_rfl) (by kernel_rfl) (by kernel_rfl) (by kernel_rfl) (by kernel_rfl) (by kernel_rfl) (by kernel_rfl)
  ·rw [hs];exact ⟨rfl,rfl,_,_,rfl⟩
theorem Zd (c:Cd) (b:Bd) (f0:Frame) (x:LX) (i:In4) (hx:Inv c b x) :
  bQ P0 eR [.ptr 5 0,.agg (eT i),.ptr 13 0] (LH c b f0 x aM i) 19 (Done c b f0 i (aX (fun x y=>cn (x * y)) x.f)):=by
 have h5:=hx.deep;have h6:=hx.len;have h7:=hx.le;have g1:=hx.pc0;have g2:=hx.pc1;have g3:=hx.sp0;have g4:=hx.sp1;refine bU eY rfl ?_;refine bO b9 rfl ?_;refine cC ?_;refine av (aU _ _ _ _) ?_;rintro _ _ _ ⟨rfl,rfl,⟨hb,rfl⟩|⟨hb,rfl⟩⟩
 ·simp at hb
  refine cC ?_;refine ah (by simp [inR];omega) ?_;refine cC ?_;refine ah (by simp;omega) ?_;refine cC ?_;refine ah (by simp;omega) ?_;refine cC ?_;refine ah (by simp;omega) ?_;refine dR rfl rfl ?_;refine br ⟨[(0,.ptr 5 0)],H19 c b f0 { x with xs:=x.xs.take ((x.n:Int) - 2 - 0).toNat++[[I (cn (eG x.f * cH x.f))]],n:=((x.n:Int) - 2 - 0).toNat+1,ver:=x.ver+1 } aM i,20,[],19⟩ ?_ ?_
  ·refine ah rfl ?_
   refine ah (by simp;omega) ?_;refine ah rfl ?_;refine aF [I (eG x.f)] (by simp only [abw,abB];rw [if_pos (by omega),show 0+((x.n:Int) - 2).toNat+(0+(0:Int).toNat)=x.n - 2 by omega];exact un hx (by omega)) ?_;refine ah rfl ?_;refine ah (by simp;omega) ?_;refine ah rfl ?_;refine aF [I (cH x.f)] (by simp only [abw,abB];rw [if_pos (by omega),show 0+((x.n:Int) - 2).toNat+(0+(1:Int).toNat)=x.n - 1 by omega];exact lA hx.pre hx.len hx.le (by omega)) ?_;refine bK (I (cn (eG x.f * cH x.f))) vg.body rfl (s49 _ _) ?_;refine aO (by kernel_rfl) ?_;refine aO (by kernel_rfl) ?_;refine ah rfl ?_;refine ah (by simp;omega) ?_;refine aO (by kernel_rfl) ?_;refine aO (by kernel_rfl) ?_;refine ah rfl ?_;refine ah (by simp;omega) ?_;refine aO (by kernel_rfl) ?_;refine bO du rfl ?_;refine cC ?_;refine bO c8 rfl ?_;refine aS (by simp;omega) ?_;refine cX rfl rfl ?_;refine cC ?_;refine ah (by simp;omega) ?_;refine cX rfl rfl ?_;refine aO (by kernel_rfl) ?_;refine ah rfl ?_;refine ah (by simp;omega) ?_;refine aO (by kernel_rfl) ?_;refine aO (by kernel_rfl) ?_;refine ah rfl ?_;refine ah (by simp;omega) ?_;refine aO (by kernel_rfl) ?_;refine al (.inl ⟨rfl,?_⟩);exact Weak.eqs [] (by kernel_rfl) (by kernel_rfl) (by kernel_rfl) (by kernel_rfl) (by kernel_rfl) (by kernel_rfl) (by kernel_rfl) (by kernel_rfl) (by kernel_rfl) (by kernel_rfl)
  ·have hs:aX (fun x y=>cn (x * y)) x.f=some (next (oe (eu (eu x.f)) (cn (eG x.f * cH x.f))),aK):=by simp [aX];omega
   have hy:=hx.gY (cn (eG x.f * cH x.f)) (by omega);refine av (mM c b f0 (gY x (cn (eG x.f * cH x.f))) i hy.pc0 hy.pc1 hy.sp0 hy.sp1) ?_;rintro _ _ _ ⟨rfl,rfl,rfl⟩;refine al ⟨⟨[],LH c b f0 (passed (gY x (cn (eG x.f * cH x.f)))) aM i,19,[],19⟩,.inr ?_,rfl,[],rfl,?_⟩
   ·exact Weak.eqs [] (by kernel_rfl) (by kernel_rfl) (by kernel_rfl) (by kernel_rfl) (by kernel_rfl) (by kernel_rfl) (by kernel_rfl) (by kernel_rfl) (by kernel_rfl) (by kernel_rfl)
   ·rw [hs];exact ⟨rfl,rfl,_,rfl,Mid.go hy _ (by have:=hy.pc0;omega) (by have:=hy.pc1;omega),rfl⟩
 ·have hs:aX (fun x y=>cn (x * y)) x.f=none:=by simp at hb;simp [aX];omega
  refine kG rfl ?_;refine al ⟨⟨[],LH c b f0 x aM i,19,[],19⟩,.inr ?_,rfl,?_⟩
  ·exact Weak.eqs [] (by kernel_rfl) (by kernel_rfl) (by kernel_rfl) (by kernel_rfl) (by kernel_rfl) (by kernel_rfl) (by kernel_rfl) (by kernel_rfl) (by kernel_rfl) (by kernel_rfl)
  ·rw [hs];exact ⟨rfl,rfl,_,_,rfl⟩
theorem X4 (c:Cd) (b:Bd) (f0:Frame) (x:LX) (i:In4) (hx:Inv c b x) :
  bQ P0 eR [.ptr 5 0,.agg (eT i),.ptr 14 0] (LH c b f0 x aM i) 19 (Done c b f0 i (aX (fun x y=>truth (decide (x<y))) x.f)):=by
 have h5:=hx.deep;have h6:=hx.len;have h7:=hx.le;have g1:=hx.pc0;have g2:=hx.pc1;have g3:=hx.sp0;have g4:=hx.sp1;refine bU eY rfl ?_;refine bO b9 rfl ?_;refine cC ?_;refine av (aU _ _ _ _) ?_;rintro _ _ _ ⟨rfl,rfl,⟨hb,rfl⟩|⟨hb,rfl⟩⟩
 ·simp at hb
  refine cC ?_;refine ah (by simp [inR];omega) ?_;refine cC ?_;refine ah (by simp;omega) ?_;refine cC ?_;refine ah (by simp;omega) ?_;refine cC ?_;refine ah (by simp;omega) ?_;refine dR rfl rfl ?_;refine br ⟨[(0,.ptr 5 0)],H19 c b f0 { x with xs:=x.xs.take ((x.n:Int) - 2 - 0).toNat++[[I (truth (decide (eG x.f<cH x.f)))]],n:=((x.n:Int) - 2 - 0).toNat+1,ver:=x.ver+1 } aM i,20,[],19⟩ ?_ ?_
  ·refine ah rfl ?_
   refine ah (by simp;omega) ?_;refine ah rfl ?_;refine aF [I (eG x.f)] (by simp only [abw,abB];rw [if_pos (by omega),show 0+((x.n:Int) - 2).toNat+(0+(0:Int).toNat)=x.n - 2 by omega];exact un hx (by omega)) ?_;refine ah rfl ?_;refine ah (by simp;omega) ?_;refine ah rfl ?_;refine aF [I (cH x.f)] (by simp only [abw,abB];rw [if_pos (by omega),show 0+((x.n:Int) - 2).toNat+(0+(1:Int).toNat)=x.n - 1 by omega];exact lA hx.pre hx.len hx.le (by omega)) ?_;refine bK (I (truth (decide (eG x.f<cH x.f)))) vh.body rfl (s50 _ _) ?_;refine aO (by kernel_rfl) ?_;refine aO (by kernel_rfl) ?_;refine ah rfl ?_;refine ah (by simp;omega) ?_;refine aO (by kernel_rfl) ?_;refine aO (by kernel_rfl) ?_;refine ah rfl ?_;refine ah (by simp;omega) ?_;refine aO (by kernel_rfl) ?_;refine bO du rfl ?_;refine cC ?_;refine bO c8 rfl ?_;refine aS (by simp;omega) ?_;refine cX rfl rfl ?_;refine cC ?_;refine ah (by simp;omega) ?_;refine cX rfl rfl ?_;refine aO (by kernel_rfl) ?_;refine ah rfl ?_;refine ah (by simp;omega) ?_;refine aO (by kernel_rfl) ?_;refine aO (by kernel_rfl) ?_;refine ah rfl ?_;refine ah (by simp;omega) ?_;refine aO (by kernel_rfl) ?_;refine al (.inl ⟨rfl,?_⟩);exact Weak.eqs [] (by kernel_rfl) (by kernel_rfl) (by kernel_rfl) (by kernel_rfl) (by kernel_rfl) (by kernel_rfl) (by kernel_rfl) (by kernel_rfl) (by kernel_rfl) (by kernel_rfl)
  ·have hs:aX (fun x y=>truth (decide (x<y))) x.f=some (next (oe (eu (eu x.f)) (truth (decide (eG x.f<cH x.f)))),aK):=by simp [aX];omega
   have hy:=hx.gY (truth (decide (eG x.f<cH x.f))) (by omega);refine av (mM c b f0 (gY x (truth (decide (eG x.f<cH x.f)))) i hy.pc0 hy.pc1 hy.sp0 hy.sp1) ?_;rintro _ _ _ ⟨rfl,rfl,rfl⟩;refine al ⟨⟨[],LH c b f0 (passed (gY x (truth (decide (eG x.f<cH x.f))))) aM i,19,[],19⟩,.inr ?_,rfl,[],rfl,?_⟩
   ·exact Weak.eqs [] (by kernel_rfl) (by kernel_rfl) (by kernel_rfl) (by kernel_rfl) (by kernel_rfl) (by kernel_rfl) (by kernel_rfl) (by kernel_rfl) (by kernel_rfl) (by kernel_rfl)
   ·rw [hs];exact ⟨rfl,rfl,_,rfl,Mid.go hy _ (by have:=hy.pc0;omega) (by have:=hy.pc1;omega),rfl⟩
 ·have hs:aX (fun x y=>truth (decide (x<y))) x.f=none:=by simp at hb;simp [aX];omega
  refine kG rfl ?_;refine al ⟨⟨[],LH c b f0 x aM i,19,[],19⟩,.inr ?_,rfl,?_⟩
  ·exact Weak.eqs [] (by kernel_rfl) (by kernel_rfl) (by kernel_rfl) (by kernel_rfl) (by kernel_rfl) (by kernel_rfl) (by kernel_rfl) (by kernel_rfl) (by kernel_rfl) (by kernel_rfl)
  ·rw [hs];exact ⟨rfl,rfl,_,_,rfl⟩
theorem i_eq (c:Cd) (b:Bd) (f0:Frame) (x:LX) (i:In4) (hx:Inv c b x) :
  bQ P0 eR [.ptr 5 0,.agg (eT i),.ptr 15 0] (LH c b f0 x aM i) 19 (Done c b f0 i (aX (fun x y=>truth (decide (x=y))) x.f)):=by
 have h5:=hx.deep;have h6:=hx.len;have h7:=hx.le;have g1:=hx.pc0;have g2:=hx.pc1;have g3:=hx.sp0;have g4:=hx.sp1;refine bU eY rfl ?_;refine bO b9 rfl ?_;refine cC ?_;refine av (aU _ _ _ _) ?_;rintro _ _ _ ⟨rfl,rfl,⟨hb,rfl⟩|⟨hb,rfl⟩⟩
 ·simp at hb
  refine cC ?_;refine ah (by simp [inR];omega) ?_;refine cC ?_;refine ah (by simp;omega) ?_;refine cC ?_;refine ah (by simp;omega) ?_;refine cC ?_;refine ah (by simp;omega) ?_;refine dR rfl rfl ?_;refine br ⟨[(0,.ptr 5 0)],H19 c b f0 { x with xs:=x.xs.take ((x.n:Int) - 2 - 0).toNat++[[I (truth (decide (eG x.f=cH x.f)))]],n:=((x.n:Int) - 2 - 0).toNat+1,ver:=x.ver+1 } aM i,20,[],19⟩ ?_ ?_
  ·refine ah rfl ?_
   refine ah (by simp;omega) ?_;refine ah rfl ?_;refine aF [I (eG x.f)] (by simp only [abw,abB];rw [if_pos (by omega),show 0+((x.n:Int) - 2).toNat+(0+(0:Int).toNat)=x.n - 2 by omega];exact un hx (by omega)) ?_;refine ah rfl ?_;refine ah (by simp;omega) ?_;refine ah rfl ?_;refine aF [I (cH x.f)] (by simp only [abw,abB];rw [if_pos (by omega),show 0+((x.n:Int) - 2).toNat+(0+(1:Int).toNat)=x.n - 1 by omega];exact lA hx.pre hx.len hx.le (by omega)) ?_;refine bK (I (truth (decide (eG x.f=cH x.f)))) vi.body rfl (s52 _ _) ?_;refine aO (by kernel_rfl) ?_;refine aO (by kernel_rfl) ?_;refine ah rfl ?_;refine ah (by simp;omega) ?_;refine aO (by kernel_rfl) ?_;refine aO (by kernel_rfl) ?_;refine ah rfl ?_;refine ah (by simp;omega) ?_;refine aO (by kernel_rfl) ?_;refine bO du rfl ?_;refine cC ?_;refine bO c8 rfl ?_;refine aS (by simp;omega) ?_;refine cX rfl rfl ?_;refine cC ?_;refine ah (by simp;omega) ?_;refine cX rfl rfl ?_;refine aO (by kernel_rfl) ?_;refine ah rfl ?_;refine ah (by simp;omega) ?_;refine aO (by kernel_rfl) ?_;refine aO (by kernel_rfl) ?_;refine ah rfl ?_;refine ah (by simp;omega) ?_;refine aO (by kernel_rfl) ?_;refine al (.inl ⟨rfl,?_⟩);exact Weak.eqs [] (by kernel_rfl) (by kernel_rfl) (by kernel_rfl) (by kernel_rfl) (by kernel_rfl) (by kernel_rfl) (by kernel_rfl) (by kernel_rfl) (by kernel_rfl) (by kernel_rfl)
  ·have hs:aX (fun x y=>truth (decide (x=y))) x.f=some (next (oe (eu (eu x.f)) (truth (decide (eG x.f=cH x.f)))),aK):=by simp [aX];omega
   have hy:=hx.gY (truth (decide (eG x.f=cH x.f))) (by omega);refine av (mM c b f0 (gY x (truth (decide (eG x.f=cH x.f)))) i hy.pc0 hy.pc1 hy.sp0 hy.sp1) ?_;rintro _ _ _ ⟨rfl,rfl,rfl⟩;refine al ⟨⟨[],LH c b f0 (passed (gY x (truth (decide (eG x.f=cH x.f))))) aM i,19,[],19⟩,.inr ?_,rfl,[],rfl,?_⟩
   ·exact Weak.eqs [] (by kernel_rfl) (by kernel_rfl) (by kernel_rfl) (by kernel_rfl) (by kernel_rfl) (by kernel_rfl) (by kernel_rfl) (by kernel_rfl) (by kernel_rfl) (by kernel_rfl)
   ·rw [hs];exact ⟨rfl,rfl,_,rfl,Mid.go hy _ (by have:=hy.pc0;omega) (by have:=hy.pc1;omega),rfl⟩
 ·have hs:aX (fun x y=>truth (decide (x=y))) x.f=none:=by simp at hb;simp [aX];omega
  refine kG rfl ?_;refine al ⟨⟨[],LH c b f0 x aM i,19,[],19⟩,.inr ?_,rfl,?_⟩
  ·exact Weak.eqs [] (by kernel_rfl) (by kernel_rfl) (by kernel_rfl) (by kernel_rfl) (by kernel_rfl) (by kernel_rfl) (by kernel_rfl) (by kernel_rfl) (by kernel_rfl) (by kernel_rfl)
  ·rw [hs];exact ⟨rfl,rfl,_,_,rfl⟩
theorem X5 (c:Cd) (b:Bd) (f0:Frame) (x:LX) (i:In4) (hx:Inv c b x) (v1:isVal (eG x.f)=true) (v2:isVal (cH x.f)=true) :
  bQ P0 eR [.ptr 5 0,.agg (eT i),.ptr 16 0] (LH c b f0 x aM i) 19 (Done c b f0 i (aX (fun x y=>(x+y) / 2) x.f)):=by
 have h5:=hx.deep;have h6:=hx.len;have h7:=hx.le;have g1:=hx.pc0;have g2:=hx.pc1;have g3:=hx.sp0;have g4:=hx.sp1;refine bU eY rfl ?_;refine bO b9 rfl ?_;refine cC ?_;refine av (aU _ _ _ _) ?_;rintro _ _ _ ⟨rfl,rfl,⟨hb,rfl⟩|⟨hb,rfl⟩⟩
 ·simp at hb
  refine cC ?_;refine ah (by simp [inR];omega) ?_;refine cC ?_;refine ah (by simp;omega) ?_;refine cC ?_;refine ah (by simp;omega) ?_;refine cC ?_;refine ah (by simp;omega) ?_;refine dR rfl rfl ?_;refine br ⟨[(0,.ptr 5 0)],H19 c b f0 { x with xs:=x.xs.take ((x.n:Int) - 2 - 0).toNat++[[I ((eG x.f+cH x.f) / 2)]],n:=((x.n:Int) - 2 - 0).toNat+1,ver:=x.ver+1 } aM i,20,[],19⟩ ?_ ?_
  ·refine ah rfl ?_
   refine ah (by simp;omega) ?_;refine ah rfl ?_;refine aF [I (eG x.f)] (by simp only [abw,abB];rw [if_pos (by omega),show 0+((x.n:Int) - 2).toNat+(0+(0:Int).toNat)=x.n - 2 by omega];exact un hx (by omega)) ?_;refine ah rfl ?_;refine ah (by simp;omega) ?_;refine ah rfl ?_;refine aF [I (cH x.f)] (by simp only [abw,abB];rw [if_pos (by omega),show 0+((x.n:Int) - 2).toNat+(0+(1:Int).toNat)=x.n - 1 by omega];exact lA hx.pre hx.len hx.le (by omega)) ?_;refine bK (I ((eG x.f+cH x.f) / 2)) vj.body rfl (s61 _ _ v1 v2) ?_;refine aO (by kernel_rfl) ?_;refine aO (by kernel_rfl) ?_;refine ah rfl ?_;refine ah (by simp;omega) ?_;refine aO (by kernel_rfl) ?_;refine aO (by kernel_rfl) ?_;refine ah rfl ?_;refine ah (by simp;omega) ?_;refine aO (by kernel_rfl) ?_;refine bO du rfl ?_;refine cC ?_;refine bO c8 rfl ?_;refine aS (by simp;omega) ?_;refine cX rfl rfl ?_;refine cC ?_;refine ah (by simp;omega) ?_;refine cX rfl rfl ?_;refine aO (by kernel_rfl) ?_;refine ah rfl ?_;refine ah (by simp;omega) ?_;refine aO (by kernel_rfl) ?_;refine aO (by kernel_rfl) ?_;refine ah rfl ?_;refine ah (by simp;omega) ?_;refine aO (by kernel_rfl) ?_;refine al (.inl ⟨rfl,?_⟩);exact Weak.eqs [] (by kernel_rfl) (by kernel_rfl) (by kernel_rfl) (by kernel_rfl) (by kernel_rfl) (by kernel_rfl) (by kernel_rfl) (by kernel_rfl) (by kernel_rfl) (by kernel_rfl)
  ·have hs:aX (fun x y=>(x+y) / 2) x.f=some (next (oe (eu (eu x.f)) ((eG x.f+cH x.f) / 2)),aK):=by simp [aX];omega
   have hy:=hx.gY ((eG x.f+cH x.f) / 2) (by omega);refine av (mM c b f0 (gY x ((eG x.f+cH x.f) / 2)) i hy.pc0 hy.pc1 hy.sp0 hy.sp1) ?_;rintro _ _ _ ⟨rfl,rfl,rfl⟩;refine al ⟨⟨[],LH c b f0 (passed (gY x ((eG x.f+cH x.f) / 2))) aM i,19,[],19⟩,.inr ?_,rfl,[],rfl,?_⟩
   ·exact Weak.eqs [] (by kernel_rfl) (by kernel_rfl) (by kernel_rfl) (by kernel_rfl) (by kernel_rfl) (by kernel_rfl) (by kernel_rfl) (by kernel_rfl) (by kernel_rfl) (by kernel_rfl)
   ·rw [hs];exact ⟨rfl,rfl,_,rfl,Mid.go hy _ (by have:=hy.pc0;omega) (by have:=hy.pc1;omega),rfl⟩
 ·have hs:aX (fun x y=>(x+y) / 2) x.f=none:=by simp at hb;simp [aX];omega
  refine kG rfl ?_;refine al ⟨⟨[],LH c b f0 x aM i,19,[],19⟩,.inr ?_,rfl,?_⟩
  ·exact Weak.eqs [] (by kernel_rfl) (by kernel_rfl) (by kernel_rfl) (by kernel_rfl) (by kernel_rfl) (by kernel_rfl) (by kernel_rfl) (by kernel_rfl) (by kernel_rfl) (by kernel_rfl)
  ·rw [hs];exact ⟨rfl,rfl,_,_,rfl⟩
end Uw.Tryz.Vm
namespace Uw.Tryz.Vm
open Go Uw Uw.Tryz
def Jp (f:Frame) (l:Int) (v:Int):Frame:={ f with loc:=f.loc.set l.toNat v }
def su (f:Frame) (i:In4):Option (Frame×Ask):=
 if below i.a f.loc.length then
  if awaited f i.a then some (f,{ aK with kind:=5 })
  else if f.stack=[] then none else some (next (Jp (eu f) i.a (cH f)),aK)
 else none
theorem Ii {P:Program} {Q:ay->St->Prop} {fuel:Nat} {l:List DOp} {st:St} {k:ay->St->Tree} (R:Prop) (S:St) (h:WT P (fun e s=>(e = .normal/\R/\Weak s S)\/(∃d,e = .panic d/\∃s',Weak s s'/\WT P Q (k e s'))) (uT l (keepR l st.regs) fuel [] [] st Tree.done)) (h2:R->WT P Q (k .normal S)):WT P Q (.code (.draw fuel l) st k):=by
 refine qW (uh (WT.mono ?_ _ h));rintro e s (⟨rfl,hr,hw⟩|⟨d,rfl,s',hw,hq⟩)
 ·exact ⟨S,.inr hw,h2 hr⟩
 ·exact ⟨s',.inr hw,hq⟩
def LR (x:LX) (l v:Int):LX:={ x with f:=Jp x.f l v,ls:=x.ls.set (0+l.toNat) [I v] }
theorem Inv.aaj {c:Cd} {b:Bd} {x:LX} (h:Inv c b x) (l v:Int):Inv c b (LR x l v):=by
 refine ⟨h.pre,h.len,h.le,?_,h.deep,h.pc0,h.pc1,h.sp0,h.sp1,?_,h.kids,h.ins,h.aA,h.cells⟩
 ·simp [LR,Jp,h.loc,rows,ab1]
 ·have:=h.pK;simpa [LR,Jp] using this
theorem Ze (c:Cd) (b:Bd) (f0:Frame) (x:LX) (i:In4) (hx:Inv c b x) :
  bQ P0 IQ [.ptr 5 0,.agg (eT i)] (LH c b f0 x aM i) 19 (Done c b f0 i (su x.f i)):=by
 have h6:=hx.len;refine bU OU rfl ?_;refine av (Nr c b f0 x i i.a hx) ?_;rintro _ _ _ ⟨rfl,⟨hb,rfl,rfl⟩|⟨hb,ha,rfl,rfl⟩|⟨hb,ha,rfl,rfl⟩⟩
 ·have hs:su x.f i=none:=by simp [su,hb]
  refine al ⟨⟨[],LH c b f0 x aM i,19,[],19⟩,.inr ?_,rfl,?_⟩
  ·exact Weak.eqs [] (by kernel_rfl) (by kernel_rfl) (by kernel_rfl) (by kernel_rfl) (by kernel_rfl) (by kernel_rfl) (by kernel_rfl) (by kernel_rfl) (by kernel_rfl) (by kernel_rfl)
  ·rw [hs];exact ⟨rfl,rfl,_,_,rfl⟩
 ·have hs:su x.f i=some (x.f,{ aK with kind:=5 }):=by simp [su,hb,ha]
  refine ah rfl ?_;refine al ⟨⟨[],LH c b f0 x zU i,19,[],19⟩,.inr ?_,rfl,[],rfl,?_⟩
  ·exact Weak.eqs [] (by kernel_rfl) (by kernel_rfl) (by kernel_rfl) (by kernel_rfl) (by kernel_rfl) (by kernel_rfl) (by kernel_rfl) (by kernel_rfl) (by kernel_rfl) (by kernel_rfl)
  ·rw [hs];exact ⟨rfl,rfl,x,rfl,hx.mid,rfl⟩
 ·have hb' : 0<=i.a/\i.a<x.f.loc.length:=by simpa [below] using hb
  have hlt:i.a.toNat<x.f.loc.length:=by omega
  refine aS rfl ?_;have hxl:x.ls.length=x.f.loc.length:=by rw [hx.loc];simp [rows]
  refine Ii (x.f.stack≠[]) ⟨[(0,.ptr 5 0)],H19 c b f0 { bC x with ls:=x.ls.set (0+i.a.toNat) [I (cH x.f)] } aM i,20,[],19⟩ ?_ ?_
  ·refine av (Pj c b f0 x i hx) ?_
   rintro _ _ _ ⟨rfl,⟨hn,rfl,rfl⟩|⟨hn,rfl,rfl⟩⟩
   ·have he:x.f.stack≠[]:=by intro h;rw [h6,h] at hn;simp at hn
    iterate 7 (refine aO (by kernel_rfl) ?_)
    refine ah rfl ?_;refine ah (by simp;omega) ?_;refine ah rfl ?_;refine aF [I (x.f.loc.getD i.a.toNat 0)] (by show x.ls[0+i.a.toNat]? = _;rw [hx.loc];exact za hlt (by omega)) ?_;refine al (.inl ⟨rfl,he,?_⟩);exact Weak.eqs [] (by kernel_rfl) (by kernel_rfl) (by kernel_rfl) (by kernel_rfl) (by kernel_rfl) (by kernel_rfl) (by kernel_rfl) (by kernel_rfl) (by kernel_rfl) (by kernel_rfl)
   ·have he:x.f.stack=[]:=by rw [<- um hx];exact hn
    have hs:su x.f i=none:=by simp [su,hb,ha,he]
    refine al (.inr ⟨_,rfl,⟨[],LH c b f0 x aM i,19,[],19⟩,?_,?_⟩)
    ·exact Weak.eqs [] (by kernel_rfl) (by kernel_rfl) (by kernel_rfl) (by kernel_rfl) (by kernel_rfl) (by kernel_rfl) (by kernel_rfl) (by kernel_rfl) (by kernel_rfl) (by kernel_rfl)
    ·refine al ⟨_,.inl rfl,rfl,?_⟩
     rw [hs];exact ⟨rfl,rfl,_,_,rfl⟩
  ·intro he
   have hh:H19 c b f0 { bC x with ls:=x.ls.set (0+i.a.toNat) [I (cH x.f)] } aM i=H19 c b f0 (LR (bC x) i.a (cH x.f)) aM i:=by simp [H19,LH,bW,frV,LR,Jp,bC,popped]
   rw [hh];have hs:su x.f i=some (next (Jp (eu x.f) i.a (cH x.f)),aK):=by simp [su,hb,ha,he]
   have hn:0<x.n:=by rw [h6];exact ads.2 he
   have hy:=(hx.pop hn).aaj i.a (cH x.f);refine av (mM c b f0 (LR (bC x) i.a (cH x.f)) i hy.pc0 hy.pc1 hy.sp0 hy.sp1) ?_;rintro _ _ _ ⟨rfl,rfl,rfl⟩;refine al ⟨⟨[],LH c b f0 (passed (LR (bC x) i.a (cH x.f))) aM i,19,[],19⟩,.inr ?_,rfl,[],rfl,?_⟩
   ·exact Weak.eqs [] (by kernel_rfl) (by kernel_rfl) (by kernel_rfl) (by kernel_rfl) (by kernel_rfl) (by kernel_rfl) (by kernel_rfl) (by kernel_rfl) (by kernel_rfl) (by kernel_rfl)
   ·rw [hs];exact ⟨rfl,rfl,_,rfl,Mid.go hy _ (by have:=hy.pc0;omega) (by have:=hy.pc1;omega),rfl⟩
end Uw.Tryz.Vm
namespace Uw.Tryz.Vm
open Go Uw Uw.Tryz
def cY (c:Cd) (op:Int):Int×Int:=
 if op=1\/op=3 then (c.maps,1) else if op=2 then (c.maps,2) else if op=4 then (c.stacks,1) else if op=5 then (c.stacks,0) else if op=6 then (c.chans,1) else if op=7 then (c.chans,0) else (0,0)
theorem Pm (c:Cd) (b:Bd) (f0:Frame) (x:LX) (i:In4) (op:Int) :
  bQ P0 mb [.ptr 5 0,.d (I op)] (H19 c b f0 x aM i) 20 (fun r h' nx'=>nx' = 20/\h' = H19 c b f0 x aM i/\r = .val (.tuple [.d (I (cY c op).1),.d (I (cY c op).2)])):=by
 refine bU tr rfl ?_;have fin:∀(o t:Int) (st:St),cY c op=(o,t)->Weak st ⟨[(4,.d (I o)),(5,.d (I t))],H19 c b f0 x aM i,20,[],20⟩->
   ∃st',(st' = st\/Weak st st')/\Gu mc.res (fun r h' nx'=>nx' = 20/\h' = H19 c b f0 x aM i/\r = .val (.tuple [.d (I (cY c op).1),.d (I (cY c op).2)])) .ret st':=by
  intro o t st hc hw;exact ⟨_,.inr hw,rfl,_,rfl,rfl,rfl,by rw [hc];rfl⟩
 refine bF (fun h1=>?_) (fun h1=>?_)
 ·refine ah h1 ?_
  simp at h1;refine al (fin c.maps 1 _ (by simp [cY,h1]) ?_);exact Weak.eqs [] (by kernel_rfl) (by kernel_rfl) (by kernel_rfl) (by kernel_rfl) (by kernel_rfl) (by kernel_rfl) (by kernel_rfl) (by kernel_rfl) (by kernel_rfl) (by kernel_rfl)
 simp at h1;refine bF (fun h3=>?_) (fun h3=>?_)
 ·simp at h3
  refine al (fin c.maps 1 _ (by simp [cY,h3]) ?_);exact Weak.eqs [] (by kernel_rfl) (by kernel_rfl) (by kernel_rfl) (by kernel_rfl) (by kernel_rfl) (by kernel_rfl) (by kernel_rfl) (by kernel_rfl) (by kernel_rfl) (by kernel_rfl)
 simp at h3;refine bF (fun h2=>?_) (fun h2=>?_)
 ·simp at h2
  refine al (fin c.maps 2 _ (by simp [cY,h2]) ?_);exact Weak.eqs [] (by kernel_rfl) (by kernel_rfl) (by kernel_rfl) (by kernel_rfl) (by kernel_rfl) (by kernel_rfl) (by kernel_rfl) (by kernel_rfl) (by kernel_rfl) (by kernel_rfl)
 simp at h2;refine bF (fun h4=>?_) (fun h4=>?_)
 ·simp at h4
  refine al (fin c.stacks 1 _ (by simp [cY,h4]) ?_);exact Weak.eqs [] (by kernel_rfl) (by kernel_rfl) (by kernel_rfl) (by kernel_rfl) (by kernel_rfl) (by kernel_rfl) (by kernel_rfl) (by kernel_rfl) (by kernel_rfl) (by kernel_rfl)
 simp at h4;refine bF (fun h5=>?_) (fun h5=>?_)
 ·simp at h5
  refine al (fin c.stacks 0 _ (by simp [cY,h5]) ?_);exact Weak.eqs [] (by kernel_rfl) (by kernel_rfl) (by kernel_rfl) (by kernel_rfl) (by kernel_rfl) (by kernel_rfl) (by kernel_rfl) (by kernel_rfl) (by kernel_rfl) (by kernel_rfl)
 simp at h5;refine bF (fun h6=>?_) (fun h6=>?_)
 ·simp at h6
  refine al (fin c.chans 1 _ (by simp [cY,h6]) ?_);exact Weak.eqs [] (by kernel_rfl) (by kernel_rfl) (by kernel_rfl) (by kernel_rfl) (by kernel_rfl) (by kernel_rfl) (by kernel_rfl) (by kernel_rfl) (by kernel_rfl) (by kernel_rfl)
 simp at h6;refine bF (fun h7=>?_) (fun h7=>?_)
 ·simp at h7
  refine al (fin c.chans 0 _ (by simp [cY,h7]) ?_);exact Weak.eqs [] (by kernel_rfl) (by kernel_rfl) (by kernel_rfl) (by kernel_rfl) (by kernel_rfl) (by kernel_rfl) (by kernel_rfl) (by kernel_rfl) (by kernel_rfl) (by kernel_rfl)
 simp at h7;refine al (fin 0 0 _ (by simp [cY,h1,h3,h2,h4,h5,h6,h7]) ?_);exact Weak.eqs [] (by kernel_rfl) (by kernel_rfl) (by kernel_rfl) (by kernel_rfl) (by kernel_rfl) (by kernel_rfl) (by kernel_rfl) (by kernel_rfl) (by kernel_rfl) (by kernel_rfl)
end Uw.Tryz.Vm
namespace Uw.Tryz.Vm
open Go Uw Uw.Tryz
theorem Hl (c:Cd) (op:Int):0<=(cY c op).2/\(cY c op).2<=2:=by
 unfold cY;repeat' split
 all_goals simp
def jS (f:Frame) (k:Nat):Frame:={ f with stack:=f.stack.take (f.stack.length - k) }
def dV (f:Frame) (k:Nat):List Int:=f.stack.drop (f.stack.length - k)
def keyed (op a:Int):Int:=if op=1\/op=2\/op=3 then keyS a else a
def fV (c:Cd) (f:Frame) (i:In4):Option (Frame×Ask):=
 if below i.b (cY c i.a).1=true/\i.c=(cY c i.a).2/\(cY c i.a).2.toNat<=f.stack.length then
  some (next (jS f (cY c i.a).2.toNat),{ aK with kind:=3,op:=(i.a,i.b,keyed i.a ((dV f (cY c i.a).2.toNat++[0,0]).getD 0 0),(dV f (cY c i.a).2.toNat++[0,0]).getD 1 0) })
 else none
theorem Jq {c:Cd} {b:Bd} {x:LX} (h:Inv c b x) {T:Int} (hk:T<=x.n) (h0:0<=T):(x.xs.drop (0+((x.n:Int) - T).toNat)).take ((x.n:Int) - ((x.n:Int) - T)).toNat=rows (dV x.f T.toNat):=by
 have h1:=h.len;have h2:=h.le;have e:((x.n:Int) - ((x.n:Int) - T)).toNat=x.n - (0+((x.n:Int) - T).toNat):=by omega
 rw [e,<- adq,h.pre,rows,rows,dV,List.map_drop]
 congr 1;omega
theorem Bm {c:Cd} {b:Bd} {x:LX} (h:Inv c b x) {T:Int} (hk:T<=x.n) (h0:0<=T) (k:Nat) (h2:k<2) {m:Nat} (hm:m=k) :
  (((x.xs.drop (0+((x.n:Int) - T).toNat)).take ((x.n:Int) - ((x.n:Int) - T)).toNat).take ((x.xs.drop (0+((x.n:Int) - T).toNat)).take ((x.n:Int) - ((x.n:Int) - T)).toNat).length++((List.replicate 2 [Dat.int IntKind.i64 0]).set 0 [Dat.int IntKind.i64 0]).set 1 [Dat.int IntKind.i64 0])[m]? = some [I ((dV x.f T.toNat++[0,0]).getD k 0)]:=by
 rw [acg,Jq h hk h0];show (rows (dV x.f T.toNat)++rows [0,0])[m]? = _;rw [<- zV];exact za (by simp;omega) hm
theorem Inv.drop {c:Cd} {b:Bd} {x:LX} (h:Inv c b x) (T:Int) (h0:0<=T) (hk:T<=x.n):Inv c b { x with n:=((x.n:Int) - T - 0).toNat,f:=jS x.f T.toNat }:=by
 have h1:=h.len;have h2:=h.le;have h3:=h.deep;have e:((x.n:Int) - T - 0).toNat=x.n - T.toNat:=by omega
 refine ⟨?_,?_,?_,h.loc,?_,h.pc0,h.pc1,h.sp0,h.sp1,h.pK,h.kids,h.ins,h.aA,h.cells⟩
 ·simp only [jS,e]
  have:x.xs.take (x.n - T.toNat)=(x.xs.take x.n).take (x.n - T.toNat):=by rw [ado,adG (by omega)]
  rw [this,h.pre,rows,rows,List.map_take,h1]
 ·simp [jS,e];omega
 ·simp only [e];omega
 ·simp [jS];omega
theorem X6 (c:Cd) (b:Bd) (f0:Frame) (x:LX) (i:In4) (hx:Inv c b x) :
  bQ P0 Fo [.ptr 5 0,.agg (eT i)] (LH c b f0 x aM i) 19 (Done c b f0 i (fV c x.f i)):=by
 have h5:=hx.deep;have h6:=hx.len;have h7:=hx.le;have g1:=hx.pc0;have g2:=hx.pc1;have g3:=hx.sp0;have g4:=hx.sp1;have ht:=Hl c i.a;refine bU Lu rfl ?_;refine av (Pm c b f0 x i i.a) ?_;rintro _ _ _ ⟨rfl,rfl,rfl⟩;generalize hT:(cY c i.a).2=T at *;generalize hO:(cY c i.a).1=O at *;refine aL _ (s25 _ _) ?_;refine bF (fun hb=>?_) (fun hb=>?_)
 ·refine ah (by simpa using hb) ?_
  refine av (aU _ _ _ _) ?_;rintro _ _ _ ⟨rfl,rfl,⟨hc,rfl⟩|⟨hc,rfl⟩⟩
  ·refine bO b9 rfl ?_
   refine cC ?_;refine av (aU _ _ _ _) ?_;rintro _ _ _ ⟨rfl,rfl,⟨hk,rfl⟩|⟨hk,rfl⟩⟩
   ·simp at hk
    refine cC ?_;refine ah (by simp [inR];omega) ?_;refine cC ?_;refine ah (by simp;omega) ?_;refine cC ?_;refine ah (by simp;omega) ?_;refine cC ?_;refine ah (by simp;omega) ?_;refine dR rfl rfl ?_;refine ah rfl ?_;refine ah (by simp;omega) ?_;refine br ⟨[(0,.ptr 5 0),(3,.ptr 19 0),(7,.ptr 20 0)],(20,.var [.d (I i.a),.d (I i.b),.d (I ((dV x.f T.toNat++[0,0]).getD 0 0)),.d (I ((dV x.f T.toNat++[0,0]).getD 1 0))])::H19 c b f0 { x with n:=((x.n:Int) - T - 0).toNat } aM i,21,[],19⟩ ?_ ?_
    ·refine ah rfl ?_
     refine ah (by simp;omega) ?_;refine ah rfl ?_;refine aF [I ((dV x.f T.toNat++[0,0]).getD 0 0)] (Bm hx hk ht.1 0 (by omega) (by decide)) ?_;refine ah rfl ?_;refine ah (by simp;omega) ?_;refine ah rfl ?_;refine aF [I ((dV x.f T.toNat++[0,0]).getD 1 0)] (Bm hx hk ht.1 1 (by omega) (by decide)) ?_
     iterate 5 (refine aO (by kernel_rfl) ?_)
     refine ah rfl ?_;refine ah (by simp;omega) ?_;refine aO (by kernel_rfl) ?_;refine ah rfl ?_;refine aF [I ((dV x.f T.toNat++[0,0]).getD 0 0)] (Bm hx hk ht.1 0 (by omega) (by decide)) ?_;refine aO (by kernel_rfl) ?_;refine aO (by kernel_rfl) ?_;refine ah rfl ?_;refine ah (by simp;omega) ?_;refine aO (by kernel_rfl) ?_;refine ah rfl ?_;refine aF [I ((dV x.f T.toNat++[0,0]).getD 1 0)] (Bm hx hk ht.1 1 (by omega) (by decide)) ?_;refine aO (by kernel_rfl) ?_;refine aO (by kernel_rfl) ?_;refine al (.inl ⟨rfl,?_⟩);exact Weak.eqs [(20,21)] (by kernel_rfl) (by kernel_rfl) (by kernel_rfl) (by kernel_rfl) (by kernel_rfl) (by kernel_rfl) (by kernel_rfl) (by kernel_rfl) (by kernel_rfl) (by kernel_rfl)
    ·refine bF (fun k1=>?_) (fun k1=>?_)
     ·refine ah k1 ?_
      refine aL _ (s16 _) ?_;refine bO c9 rfl ?_;refine ah (by simp [inR];omega) ?_;refine bO da rfl ?_;refine ah (by simp [inR];omega) ?_;refine cX rfl rfl ?_;refine cX rfl rfl ?_;refine al ⟨⟨[],LH c b f0 (passed { x with n:=((x.n:Int) - T - 0).toNat,f:=jS x.f T.toNat }) (AZ { aK with kind:=3,op:=(i.a,i.b,keyS ((dV x.f T.toNat++[0,0]).getD 0 0),(dV x.f T.toNat++[0,0]).getD 1 0) }) i,19,[],19⟩,.inr ?_,rfl,[],rfl,?_⟩
      ·exact Weak.eqs [] (by kernel_rfl) (by kernel_rfl) (by kernel_rfl) (by kernel_rfl) (by kernel_rfl) (by kernel_rfl) (by kernel_rfl) (by kernel_rfl) (by kernel_rfl) (by kernel_rfl)
      ·have e:keyed i.a=keyS:=by simp at k1;funext a;simp [keyed,k1]
       have hs:fV c x.f i=some (next (jS x.f T.toNat),{ aK with kind:=3,op:=(i.a,i.b,keyed i.a ((dV x.f T.toNat++[0,0]).getD 0 0),(dV x.f T.toNat++[0,0]).getD 1 0) }):=by
        simp only [fV,hT,hO];rw [if_pos ⟨by simpa [below] using hb,by simpa using hc,by omega⟩]
       have hy:=hx.drop T ht.1 hk;rw [hs,e];exact ⟨rfl,rfl,_,rfl,Mid.go hy _ (by have:=hy.pc0;omega) (by have:=hy.pc1;omega),rfl⟩
     refine bF (fun k2=>?_) (fun k2=>?_)
     ·refine ah k2 ?_
      refine aL _ (s16 _) ?_;refine bO c9 rfl ?_;refine ah (by simp [inR];omega) ?_;refine bO da rfl ?_;refine ah (by simp [inR];omega) ?_;refine cX rfl rfl ?_;refine cX rfl rfl ?_;refine al ⟨⟨[],LH c b f0 (passed { x with n:=((x.n:Int) - T - 0).toNat,f:=jS x.f T.toNat }) (AZ { aK with kind:=3,op:=(i.a,i.b,keyS ((dV x.f T.toNat++[0,0]).getD 0 0),(dV x.f T.toNat++[0,0]).getD 1 0) }) i,19,[],19⟩,.inr ?_,rfl,[],rfl,?_⟩
      ·exact Weak.eqs [] (by kernel_rfl) (by kernel_rfl) (by kernel_rfl) (by kernel_rfl) (by kernel_rfl) (by kernel_rfl) (by kernel_rfl) (by kernel_rfl) (by kernel_rfl) (by kernel_rfl)
      ·have e:keyed i.a=keyS:=by simp at k2;funext a;simp [keyed,k2]
       have hs:fV c x.f i=some (next (jS x.f T.toNat),{ aK with kind:=3,op:=(i.a,i.b,keyed i.a ((dV x.f T.toNat++[0,0]).getD 0 0),(dV x.f T.toNat++[0,0]).getD 1 0) }):=by
        simp only [fV,hT,hO];rw [if_pos ⟨by simpa [below] using hb,by simpa using hc,by omega⟩]
       have hy:=hx.drop T ht.1 hk;rw [hs,e];exact ⟨rfl,rfl,_,rfl,Mid.go hy _ (by have:=hy.pc0;omega) (by have:=hy.pc1;omega),rfl⟩
     refine bF (fun k3=>?_) (fun k3=>?_)
     ·refine aL _ (s16 _) ?_
      refine bO c9 rfl ?_;refine ah (by simp [inR];omega) ?_;refine bO da rfl ?_;refine ah (by simp [inR];omega) ?_;refine cX rfl rfl ?_;refine cX rfl rfl ?_;refine al ⟨⟨[],LH c b f0 (passed { x with n:=((x.n:Int) - T - 0).toNat,f:=jS x.f T.toNat }) (AZ { aK with kind:=3,op:=(i.a,i.b,keyS ((dV x.f T.toNat++[0,0]).getD 0 0),(dV x.f T.toNat++[0,0]).getD 1 0) }) i,19,[],19⟩,.inr ?_,rfl,[],rfl,?_⟩
      ·exact Weak.eqs [] (by kernel_rfl) (by kernel_rfl) (by kernel_rfl) (by kernel_rfl) (by kernel_rfl) (by kernel_rfl) (by kernel_rfl) (by kernel_rfl) (by kernel_rfl) (by kernel_rfl)
      ·have e:keyed i.a=keyS:=by simp at k3;funext a;simp [keyed,k3]
       have hs:fV c x.f i=some (next (jS x.f T.toNat),{ aK with kind:=3,op:=(i.a,i.b,keyed i.a ((dV x.f T.toNat++[0,0]).getD 0 0),(dV x.f T.toNat++[0,0]).getD 1 0) }):=by
        simp only [fV,hT,hO];rw [if_pos ⟨by simpa [below] using hb,by simpa using hc,by omega⟩]
       have hy:=hx.drop T ht.1 hk;rw [hs,e];exact ⟨rfl,rfl,_,rfl,Mid.go hy _ (by have:=hy.pc0;omega) (by have:=hy.pc1;omega),rfl⟩
     ·skip
      refine bO c9 rfl ?_;refine ah (by simp [inR];omega) ?_;refine bO da rfl ?_;refine ah (by simp [inR];omega) ?_;refine cX rfl rfl ?_;refine cX rfl rfl ?_;refine al ⟨⟨[],LH c b f0 (passed { x with n:=((x.n:Int) - T - 0).toNat,f:=jS x.f T.toNat }) (AZ { aK with kind:=3,op:=(i.a,i.b,(dV x.f T.toNat++[0,0]).getD 0 0,(dV x.f T.toNat++[0,0]).getD 1 0) }) i,19,[],19⟩,.inr ?_,rfl,[],rfl,?_⟩
      ·exact Weak.eqs [] (by kernel_rfl) (by kernel_rfl) (by kernel_rfl) (by kernel_rfl) (by kernel_rfl) (by kernel_rfl) (by kernel_rfl) (by kernel_rfl) (by kernel_rfl) (by kernel_rfl)
      ·have e:keyed i.a=id:=by simp at k1 k2 k3;funext a;simp [keyed,k1,k2,k3]
       have hs:fV c x.f i=some (next (jS x.f T.toNat),{ aK with kind:=3,op:=(i.a,i.b,keyed i.a ((dV x.f T.toNat++[0,0]).getD 0 0),(dV x.f T.toNat++[0,0]).getD 1 0) }):=by
        simp only [fV,hT,hO];rw [if_pos ⟨by simpa [below] using hb,by simpa using hc,by omega⟩]
       have hy:=hx.drop T ht.1 hk;rw [hs,e];exact ⟨rfl,rfl,_,rfl,Mid.go hy _ (by have:=hy.pc0;omega) (by have:=hy.pc1;omega),rfl⟩
   ·have hs:fV c x.f i=none:=by simp at hk;simp only [fV,hT,hO];rw [if_neg (by rintro ⟨-,-,h⟩;omega)]
    refine kG rfl ?_;refine al ⟨⟨[],LH c b f0 x aM i,19,[],19⟩,.inr ?_,rfl,?_⟩
    ·exact Weak.eqs [] (by kernel_rfl) (by kernel_rfl) (by kernel_rfl) (by kernel_rfl) (by kernel_rfl) (by kernel_rfl) (by kernel_rfl) (by kernel_rfl) (by kernel_rfl) (by kernel_rfl)
    ·rw [hs];exact ⟨rfl,rfl,_,_,rfl⟩
  ·have hs:fV c x.f i=none:=by simp at hc;simp only [fV,hT,hO];rw [if_neg (by rintro ⟨-,h,-⟩;exact hc h)]
   refine al ⟨⟨[],LH c b f0 x aM i,19,[],19⟩,.inr ?_,rfl,?_⟩
   ·exact Weak.eqs [] (by kernel_rfl) (by kernel_rfl) (by kernel_rfl) (by kernel_rfl) (by kernel_rfl) (by kernel_rfl) (by kernel_rfl) (by kernel_rfl) (by kernel_rfl) (by kernel_rfl)
   ·rw [hs];exact ⟨rfl,rfl,_,_,rfl⟩
 ·refine aS (by simpa using hb) ?_
  have hs:fV c x.f i=none:=by simp only [fV,hT,hO];rw [if_neg (by rintro ⟨h,-,-⟩;simp [below] at h;simp at hb;omega)]
  refine av (aU _ _ _ _) ?_;rintro _ _ _ ⟨rfl,rfl,⟨hc,rfl⟩|⟨hc,rfl⟩⟩
  ·simp at hc
  ·refine al ⟨⟨[],LH c b f0 x aM i,19,[],19⟩,.inr ?_,rfl,?_⟩
   ·exact Weak.eqs [] (by kernel_rfl) (by kernel_rfl) (by kernel_rfl) (by kernel_rfl) (by kernel_rfl) (by kernel_rfl) (by kernel_rfl) (by kernel_rfl) (by kernel_rfl) (by kernel_rfl)
   ·rw [hs];exact ⟨rfl,rfl,_,_,rfl⟩
end Uw.Tryz.Vm
namespace Uw.Tryz.Vm
open Go Uw Uw.Tryz
def X7 (c:Cd) (k:Int):Int:=(c.aA.getD k.toNat ⟨0,0,[]⟩).args
def cT (c:Cd) (f:Frame) (i:In4):Option (Frame×Ask):=
 if below i.a c.aA.length=true/\dest i.c f.loc.length=true/\0<=i.b/\i.b=X7 c i.a/\i.b.toNat<=f.stack.length then
  some (next (jS f i.b.toNat),⟨4,i.a,i.c,(0,0,0,0),dV f i.b.toNat⟩)
 else none
def Pn (a:Ask) (v:V):List V:=[.d (I a.kind),.d (I a.a),.d (I a.b),.d (I a.op.1),.d (I a.op.2.1),.d (I a.op.2.2.1),.d (I a.op.2.2.2),v]
def Zf (c:Cd) (b:Bd) (f0:Frame) (i:In4) (s:Option (Frame×Ask)) (r:Res) (h' : Heap) (nx' : Nat):Prop:=
 match s with
 | none=>nx' = 19/\r = .pan v7/\∃y ask,h' = LH c b f0 y ask i
 | some (g,a)=>nx' = 20/\r = .val (.tuple [])/\∃y,y.f=g/\Mid c b y/\h' = (19,.mt 1 0 (rows a.args))::LH c b f0 y (Pn a (.ref 19 0 0 a.args.length)) i
theorem U9 (c:Cd) (b:Bd) (f0:Frame) (x:LX) (i:In4) (hx:Inv c b x) :
  bQ P0 C9 [.ptr 5 0,.agg (eT i)] (LH c b f0 x aM i) 19 (Zf c b f0 i (cT c x.f i)):=by
 have h5:=hx.deep;have h6:=hx.len;have h7:=hx.le;have g1:=hx.pc0;have g2:=hx.pc1;have g3:=hx.sp0;have g4:=hx.sp1;refine bU IX rfl ?_;refine aL _ (s25 _ _) ?_;refine bF (fun ha=>?_) (fun ha=>?_)
 ·refine cC ?_
  refine aL _ (s37 _ _) ?_;refine ah (by simp) ?_;refine av (aU _ _ _ _) ?_;rintro _ _ _ ⟨rfl,rfl,⟨hd,rfl⟩|⟨hd,rfl⟩⟩
  ·simp at ha
   refine bF (fun h0=>?_) (fun h0=>?_)
   ·refine ah (by simp;omega) ?_
    refine aF (bdC (c.aA.getD i.a.toNat ⟨0,0,[]⟩)) (by simp [show i.a.toNat<c.aA.length by omega]) ?_;refine ah (by simp) ?_;refine av (aU _ _ _ _) ?_;rintro _ _ _ ⟨rfl,rfl,⟨hq,rfl⟩|⟨hq,rfl⟩⟩
    ·simp at hq h0
     refine bO b9 rfl ?_;refine cC ?_;refine av (aU _ _ _ _) ?_;rintro _ _ _ ⟨rfl,rfl,⟨hk,rfl⟩|⟨hk,rfl⟩⟩
     ·simp at hk
      refine cC ?_;refine ah (by simp [inR];omega) ?_;refine cC ?_;refine ah (by simp;omega) ?_;refine cC ?_;refine ah (by simp;omega) ?_;refine cC ?_;refine ah (by simp;omega) ?_;refine dR rfl rfl ?_;refine bO c9 rfl ?_;refine ah (by simp [inR];omega) ?_;refine bO da rfl ?_;refine ah (by simp [inR];omega) ?_;refine cX rfl rfl ?_;refine cX rfl rfl ?_;have hs:cT c x.f i=some (next (jS x.f i.b.toNat),⟨4,i.a,i.c,(0,0,0,0),dV x.f i.b.toNat⟩):=by
       simp only [cT];rw [if_pos ⟨by simpa [below] using ha,hd,h0,hq,by omega⟩]
      have hy:=hx.drop i.b h0 hk;refine al ⟨⟨[],(19,.mt 1 0 ((x.xs.drop (0+((x.n:Int) - i.b).toNat)).take ((x.n:Int) - ((x.n:Int) - i.b)).toNat))::LH c b f0 (passed { x with n:=((x.n:Int) - i.b - 0).toNat,f:=jS x.f i.b.toNat }) (Pn ⟨4,i.a,i.c,(0,0,0,0),dV x.f i.b.toNat⟩ (.ref 19 0 0 ((x.xs.drop (0+((x.n:Int) - i.b).toNat)).take ((x.n:Int) - ((x.n:Int) - i.b)).toNat).length)) i,20,[],19⟩,.inr ?_,rfl,[],rfl,?_⟩
      ·exact Weak.eqs [(19,20)] (by kernel_rfl) (by kernel_rfl) (by kernel_rfl) (by kernel_rfl) (by kernel_rfl) (by kernel_rfl) (by kernel_rfl) (by kernel_rfl) (by kernel_rfl) (by kernel_rfl)
      ·rw [hs,Jq hx hk h0]
       rw [show (rows (dV x.f i.b.toNat)).length=(dV x.f i.b.toNat).length by simp [rows]];exact ⟨rfl,rfl,_,rfl,Mid.go hy (x.f.pc+1) (by omega) (by omega),rfl⟩
     ·have hs:cT c x.f i=none:=by simp at hk;simp only [cT];rw [if_neg (by rintro ⟨-,-,-,-,h⟩;omega)]
      refine kG rfl ?_;refine al ⟨⟨[],LH c b f0 x aM i,19,[],19⟩,.inr ?_,rfl,?_⟩
      ·exact Weak.eqs [] (by kernel_rfl) (by kernel_rfl) (by kernel_rfl) (by kernel_rfl) (by kernel_rfl) (by kernel_rfl) (by kernel_rfl) (by kernel_rfl) (by kernel_rfl) (by kernel_rfl)
      ·rw [hs];exact ⟨rfl,rfl,_,_,rfl⟩
    ·have hs:cT c x.f i=none:=by simp at hq;simp only [cT];rw [if_neg (by rintro ⟨-,-,-,h,-⟩;exact hq h)]
     refine al ⟨⟨[],LH c b f0 x aM i,19,[],19⟩,.inr ?_,rfl,?_⟩
     ·exact Weak.eqs [] (by kernel_rfl) (by kernel_rfl) (by kernel_rfl) (by kernel_rfl) (by kernel_rfl) (by kernel_rfl) (by kernel_rfl) (by kernel_rfl) (by kernel_rfl) (by kernel_rfl)
     ·rw [hs];exact ⟨rfl,rfl,_,_,rfl⟩
   ·have hs:cT c x.f i=none:=by simp at h0;simp only [cT];rw [if_neg (by rintro ⟨-,-,h,-,-⟩;omega)]
    refine aS (by simp) ?_;refine av (aU _ _ _ _) ?_;rintro _ _ _ ⟨rfl,rfl,⟨hq,rfl⟩|⟨hq,rfl⟩⟩
    ·simp at hq
    ·skip
     refine al ⟨⟨[],LH c b f0 x aM i,19,[],19⟩,.inr ?_,rfl,?_⟩
     ·exact Weak.eqs [] (by kernel_rfl) (by kernel_rfl) (by kernel_rfl) (by kernel_rfl) (by kernel_rfl) (by kernel_rfl) (by kernel_rfl) (by kernel_rfl) (by kernel_rfl) (by kernel_rfl)
     ·rw [hs];exact ⟨rfl,rfl,_,_,rfl⟩
  ·have hs:cT c x.f i=none:=by simp only [cT];rw [if_neg (by rintro ⟨-,h,-,-,-⟩;rw [hd] at h;simp at h)]
   refine al ⟨⟨[],LH c b f0 x aM i,19,[],19⟩,.inr ?_,rfl,?_⟩
   ·exact Weak.eqs [] (by kernel_rfl) (by kernel_rfl) (by kernel_rfl) (by kernel_rfl) (by kernel_rfl) (by kernel_rfl) (by kernel_rfl) (by kernel_rfl) (by kernel_rfl) (by kernel_rfl)
   ·rw [hs];exact ⟨rfl,rfl,_,_,rfl⟩
 ·have hs:cT c x.f i=none:=by simp only [cT];rw [if_neg (by rintro ⟨h,-,-,-,-⟩;simp [below] at h;simp at ha;omega)]
  refine aS (by simp) ?_;refine av (aU _ _ _ _) ?_;rintro _ _ _ ⟨rfl,rfl,⟨hq,rfl⟩|⟨hq,rfl⟩⟩
  ·simp at hq
  ·skip
   refine al ⟨⟨[],LH c b f0 x aM i,19,[],19⟩,.inr ?_,rfl,?_⟩
   ·exact Weak.eqs [] (by kernel_rfl) (by kernel_rfl) (by kernel_rfl) (by kernel_rfl) (by kernel_rfl) (by kernel_rfl) (by kernel_rfl) (by kernel_rfl) (by kernel_rfl) (by kernel_rfl)
   ·rw [hs];exact ⟨rfl,rfl,_,_,rfl⟩
end Uw.Tryz.Vm
namespace Uw.Tryz.Vm
open Go Uw Uw.Tryz
def stepS (c:Cd) (b:Bd) (f:Frame) (i:In4):Option (Frame×Ask):=
 if i.op=1 then ke f i
 else if i.op=2 then fR f i
 else if i.op=3 then su f i
 else if i.op=4 then pg c f i
 else if i.op=5 then ii c f i
 else if i.op=6 then aX (fun x y=>cn (x+y)) f
 else if i.op=7 then aX (fun x y=>cn (x - y)) f
 else if i.op=8 then aX (fun x y=>cn (x * y)) f
 else if i.op=9 then aX (fun x y=>truth (decide (x<y))) f
 else if i.op=10 then aX (fun x y=>truth (decide (x=y))) f
 else if i.op=11 then fV c f i
 else if i.op=12 then pi f
 else if i.op=13 then cT c f i
 else if i.op=14 then jM f
 else if i.op=15 then pj b f i
 else if i.op=16 then kf b f i
 else if i.op=17 then uP f
 else if i.op=18 then dJ f
 else if i.op=19 then aX (fun x y=>(x+y) / 2) f
 else none
structure eb (f:Frame):Prop where
 loc:f.loc.all isVal=true
 stack:f.stack.all isVal=true
theorem v8 (n:Int):isVal (cn n)=true:=by
 have h:0<=cn n/\cn n<4294967296:=by unfold cn;omega
 simp [isVal,h]
theorem zW (b:Bool):isVal (truth b)=true:=by cases b<;>rfl
theorem LU {x y:Int} (hx:isVal x=true) (hy:isVal y=true):isVal ((x+y) / 2)=true:=by simp only [isVal,abq,decide_eq_true_eq] at *;omega
theorem Hm {p:Int->Bool} {l:List Int} (h:l.all p=true):l.dropLast.all p=true:=by
 rw [aby] at *;exact fun x hx=>h x (List.dropLast_subset _ hx)
theorem Sj {l:List Int} (h:l.all isVal=true):isVal (l.getLastD 0)=true:=by
 rw [aby] at h
 cases l with
 | nil=>rfl
 | cons a r=>rw [List.getLastD_cons];exact h _ (by rw [<- List.getLast_eq_getLastD (h:=by simp)];exact List.getLast_mem _)
theorem Po {p:Int->Bool} {l:List Int} (k:Nat) (h:l.all p=true):(l.take k).all p=true:=by
 rw [aby] at *;exact fun x hx=>h x (List.take_subset _ _ hx)
theorem Sl {l:List Int} (k:Nat) (h:l.all isVal=true):isVal (l.getD k 0)=true:=by
 rw [aby] at h;rw [ac5]
 cases hk:l[k]? with
 | none=>rfl
 | some x=>exact h x (abP hk)
theorem Nv {l:List Int} (k:Nat) {v:Int} (hv:isVal v=true) (h:l.all isVal=true):(l.set k v).all isVal=true:=by
 rw [aby] at *;intro x hx
 rcases ab3 hx with h1|h1
 ·exact h x h1
 ·rw [h1];exact hv
theorem eb.pop {f:Frame} (h:eb f):eb (eu f):=⟨h.loc,Hm h.stack⟩
theorem eb.drop {f:Frame} (h:eb f) (k:Nat):eb (jS f k):=⟨h.loc,Po _ h.stack⟩
theorem eb.put {f:Frame} (h:eb f) {v:Int} (hv:isVal v=true):eb (oe f v):=⟨h.loc,by simp only [oe,adI,h.stack];simp [hv]⟩
theorem eb.pass {f:Frame} (h:eb f) (to:Int):eb (pass f to):=⟨h.loc,h.stack⟩
theorem eb.next {f:Frame} (h:eb f):eb (next f):=⟨h.loc,h.stack⟩
theorem eb.top {f:Frame} (h:eb f):isVal (cH f)=true:=Sj h.stack
theorem eb.reckon {f:Frame} (h:eb f) {op:Int->Int->Int} (ho:∀x y,isVal x=true->isVal y=true->isVal (op x y)=true) {g:Frame} {a:Ask} (hs:aX op f=some (g,a)):eb g:=by
 simp only [aX] at hs
 split at hs
 ·simp at hs;obtain ⟨rfl,rfl⟩:=hs
  exact (h.pop.pop.put (ho _ _ h.pop.top h.top)).next
 ·simp at hs
theorem zd {c:Cd} {b:Bd} {f g:Frame} {i:In4} {a:Ask} (h:eb f) (hs:stepS c b f i=some (g,a)):eb g:=by
 unfold stepS at hs;by_cases h1:i.op=1
 ·rw [if_pos h1] at hs;simp only [ke] at hs;split at hs
  ·rename_i hh;simp at hs;obtain ⟨rfl,rfl⟩:=hs;exact (h.put hh.1).next
  ·simp at hs
 rw [if_neg h1] at hs;by_cases h1:i.op=2
 ·rw [if_pos h1] at hs;simp only [fR] at hs;repeat' split at hs
  ·simp at hs;obtain ⟨rfl,rfl⟩:=hs;exact h
  ·simp at hs;obtain ⟨rfl,rfl⟩:=hs;exact (h.put (Sl _ h.loc)).next
  ·simp at hs
  ·simp at hs
 rw [if_neg h1] at hs;by_cases h1:i.op=3
 ·rw [if_pos h1] at hs;simp only [su] at hs;repeat' split at hs
  ·simp at hs;obtain ⟨rfl,rfl⟩:=hs;exact h
  ·simp at hs
  ·simp at hs;obtain ⟨rfl,rfl⟩:=hs;exact ⟨Nv _ h.top h.loc,h.pop.stack⟩
  ·simp at hs
 rw [if_neg h1] at hs;by_cases h1:i.op=4
 ·rw [if_pos h1] at hs;simp only [pg] at hs;split at hs
  ·simp at hs;obtain ⟨rfl,rfl⟩:=hs;exact h.next
  ·simp at hs
 rw [if_neg h1] at hs;by_cases h1:i.op=5
 ·rw [if_pos h1] at hs;simp only [ii] at hs;split at hs
  ·simp at hs;obtain ⟨rfl,rfl⟩:=hs;exact h.pop.next
  ·simp at hs
 rw [if_neg h1] at hs;by_cases h1:i.op=6
 ·rw [if_pos h1] at hs;exact h.reckon (fun _ _ _ _=>v8 _) hs
 rw [if_neg h1] at hs;by_cases h1:i.op=7
 ·rw [if_pos h1] at hs;exact h.reckon (fun _ _ _ _=>v8 _) hs
 rw [if_neg h1] at hs;by_cases h1:i.op=8
 ·rw [if_pos h1] at hs;exact h.reckon (fun _ _ _ _=>v8 _) hs
 rw [if_neg h1] at hs;by_cases h1:i.op=9
 ·rw [if_pos h1] at hs;exact h.reckon (fun _ _ _ _=>zW _) hs
 rw [if_neg h1] at hs;by_cases h1:i.op=10
 ·rw [if_pos h1] at hs;exact h.reckon (fun _ _ _ _=>zW _) hs
 rw [if_neg h1] at hs;by_cases h1:i.op=11
 ·rw [if_pos h1] at hs;simp only [fV] at hs;split at hs
  ·simp at hs;obtain ⟨rfl,rfl⟩:=hs;exact (h.drop _).next
  ·simp at hs
 rw [if_neg h1] at hs;by_cases h1:i.op=12
 ·rw [if_pos h1] at hs;simp only [pi] at hs;split at hs
  ·simp at hs;obtain ⟨rfl,rfl⟩:=hs;exact h.pop.next
  ·simp at hs
 rw [if_neg h1] at hs;by_cases h1:i.op=13
 ·rw [if_pos h1] at hs;simp only [cT] at hs;split at hs
  ·simp at hs;obtain ⟨rfl,rfl⟩:=hs;exact (h.drop _).next
  ·simp at hs
 rw [if_neg h1] at hs;by_cases h1:i.op=14
 ·rw [if_pos h1] at hs;simp only [jM] at hs;split at hs
  ·simp at hs;obtain ⟨rfl,rfl⟩:=hs;exact h.next
  ·simp at hs;obtain ⟨rfl,rfl⟩:=hs;exact h
 rw [if_neg h1] at hs;by_cases h1:i.op=15
 ·rw [if_pos h1] at hs;simp only [pj] at hs;split at hs
  ·simp at hs;obtain ⟨rfl,rfl⟩:=hs;exact h.pass _
  ·simp at hs
 rw [if_neg h1] at hs;by_cases h1:i.op=16
 ·rw [if_pos h1] at hs;simp only [kf] at hs;repeat' split at hs
  ·simp at hs;obtain ⟨rfl,rfl⟩:=hs;exact h.pop.pass _
  ·simp at hs;obtain ⟨rfl,rfl⟩:=hs;exact h.pop.next
  ·simp at hs
 rw [if_neg h1] at hs;by_cases h1:i.op=17
 ·rw [if_pos h1] at hs;simp only [uP] at hs;repeat' split at hs
  ·simp at hs
  ·simp at hs;obtain ⟨rfl,rfl⟩:=hs;exact h.pop.next
  ·simp at hs;obtain ⟨rfl,rfl⟩:=hs;exact h
 rw [if_neg h1] at hs;by_cases h1:i.op=18
 ·rw [if_pos h1] at hs;simp only [dJ] at hs;split at hs
  ·simp at hs;obtain ⟨rfl,rfl⟩:=hs;exact ⟨h.pop.loc,h.pop.stack⟩
  ·simp at hs
 rw [if_neg h1] at hs;by_cases h1:i.op=19
 ·rw [if_pos h1] at hs;exact h.reckon (fun _ _ hx hy=>LU hx hy) hs
 rw [if_neg h1] at hs;simp at hs
end Uw.Tryz.Vm
namespace Uw.Tryz.Vm
open Go Uw Uw.Tryz
theorem ky {c:Cd} {b:Bd} {f:Frame} {i:In4} (P:Option (Frame×Ask)->Prop) (h1:i.op=1->P (ke f i)) (h2:i.op=2->P (fR f i)) (h3:i.op=3->P (su f i)) (h4:i.op=4->P (pg c f i)) (h5:i.op=5->P (ii c f i))
  (h6:i.op=6->P (aX (fun x y=>cn (x+y)) f)) (h7:i.op=7->P (aX (fun x y=>cn (x - y)) f)) (h8:i.op=8->P (aX (fun x y=>cn (x * y)) f)) (h9:i.op=9->P (aX (fun x y=>truth (decide (x<y))) f)) (h10:i.op=10->P (aX (fun x y=>truth (decide (x=y))) f))
  (h11:i.op=11->P (fV c f i)) (h12:i.op=12->P (pi f)) (h13:i.op=13->P (cT c f i)) (h14:i.op=14->P (jM f)) (h15:i.op=15->P (pj b f i)) (h16:i.op=16->P (kf b f i)) (h17:i.op=17->P (uP f)) (h18:i.op=18->P (dJ f)) (h19:i.op=19->P (aX (fun x y=>(x+y) / 2) f)) (h0:(i.op<1\/19<i.op)->P none):P (stepS c b f i):=by
 unfold stepS;by_cases e:i.op=1
 ·rw [if_pos e];exact h1 e
 rw [if_neg e];by_cases e:i.op=2
 ·rw [if_pos e];exact h2 e
 rw [if_neg e];by_cases e:i.op=3
 ·rw [if_pos e];exact h3 e
 rw [if_neg e];by_cases e:i.op=4
 ·rw [if_pos e];exact h4 e
 rw [if_neg e];by_cases e:i.op=5
 ·rw [if_pos e];exact h5 e
 rw [if_neg e];by_cases e:i.op=6
 ·rw [if_pos e];exact h6 e
 rw [if_neg e];by_cases e:i.op=7
 ·rw [if_pos e];exact h7 e
 rw [if_neg e];by_cases e:i.op=8
 ·rw [if_pos e];exact h8 e
 rw [if_neg e];by_cases e:i.op=9
 ·rw [if_pos e];exact h9 e
 rw [if_neg e];by_cases e:i.op=10
 ·rw [if_pos e];exact h10 e
 rw [if_neg e];by_cases e:i.op=11
 ·rw [if_pos e];exact h11 e
 rw [if_neg e];by_cases e:i.op=12
 ·rw [if_pos e];exact h12 e
 rw [if_neg e];by_cases e:i.op=13
 ·rw [if_pos e];exact h13 e
 rw [if_neg e];by_cases e:i.op=14
 ·rw [if_pos e];exact h14 e
 rw [if_neg e];by_cases e:i.op=15
 ·rw [if_pos e];exact h15 e
 rw [if_neg e];by_cases e:i.op=16
 ·rw [if_pos e];exact h16 e
 rw [if_neg e];by_cases e:i.op=17
 ·rw [if_pos e];exact h17 e
 rw [if_neg e];by_cases e:i.op=18
 ·rw [if_pos e];exact h18 e
 rw [if_neg e];by_cases e:i.op=19
 ·rw [if_pos e];exact h19 e
 rw [if_neg e];exact h0 (by omega)
structure Sr (b:Bd) (f g:Frame) (a:Ask):Prop where
 task:g.task=f.task
 path:g.path=f.path
 fn:g.fn=f.fn
 kids:g.kids=f.kids
 many:g.many=f.many
 loc:g.loc.length=f.loc.length
 stack:g.stack.length<=100
 pc0:0<=g.pc
 pc1:g.pc<=b.ins.length
 spent:(a.kind=5/\g=f/\f.kids≠[])\/(a.kind≠5/\g.spent=f.spent+1)
 Zg:a.kind=4->dest a.b f.loc.length=true
 args:a.kind≠4->a.args=[]
 kind:0<=a.kind/\a.kind<=6
 Zh:a.kind=0->a=aK
theorem yp {f:Frame} {l:Int} (h:awaited f l=true):f.kids≠[]:=by
 intro e;simp [awaited,e] at h
theorem rD {c:Cd} {b:Bd} {f g:Frame} {i:In4} {a:Ask} (h0:0<=f.pc) (h1:f.pc<b.ins.length) (hd:f.stack.length<=100) (hs:stepS c b f i=some (g,a)):Sr b f g a:=by
 have dl:f.stack.dropLast.length<=f.stack.length:=by simp
 have fin:∀{op},aX op f=some (g,a)->Sr b f g a:=by
  intro op hs;simp only [aX] at hs
  split at hs
  ·simp at hs;obtain ⟨rfl,rfl⟩:=hs
   refine ⟨rfl,rfl,rfl,rfl,rfl,rfl,?_,?_,?_,.inr ⟨by simp [aK],rfl⟩,by simp [aK],by simp [aK],by simp [aK],by simp⟩
   ·simp [next,pass,oe,eu];omega
   ·simp [next,pass,oe,eu];omega
   ·simp [next,pass,oe,eu];omega
  ·simp at hs
 revert hs
 refine ky (fun o=>o=some (g,a)->Sr b f g a) ?_ ?_ ?_ ?_ ?_ (fun _=>fin) (fun _=>fin) (fun _=>fin) (fun _=>fin) (fun _=>fin) ?_ ?_ ?_ ?_ ?_ ?_ ?_ ?_ (fun _=>fin) ?_
 all_goals intro ho hs
 ·simp only [ke] at hs;split at hs
  ·simp at hs;obtain ⟨rfl,rfl⟩:=hs
   refine ⟨rfl,rfl,rfl,rfl,rfl,rfl,?_,?_,?_,.inr ⟨by simp [aK],rfl⟩,by simp [aK],by simp [aK],by simp [aK],by simp⟩<;>simp [next,pass,oe]<;>omega
  ·simp at hs
 ·simp only [fR] at hs;split at hs
  ·split at hs
   ·rename_i hw;simp at hs;obtain ⟨rfl,rfl⟩:=hs
    exact ⟨rfl,rfl,rfl,rfl,rfl,rfl,hd,h0,by omega,.inl ⟨by simp,rfl,yp hw⟩,by simp,by simp [aK],by simp,by simp⟩
   ·split at hs
    ·simp at hs;obtain ⟨rfl,rfl⟩:=hs
     refine ⟨rfl,rfl,rfl,rfl,rfl,rfl,?_,?_,?_,.inr ⟨by simp [aK],rfl⟩,by simp [aK],by simp [aK],by simp [aK],by simp⟩<;>simp [next,pass,oe]<;>omega
    ·simp at hs
  ·simp at hs
 ·simp only [su] at hs;split at hs
  ·split at hs
   ·rename_i hw;simp at hs;obtain ⟨rfl,rfl⟩:=hs
    exact ⟨rfl,rfl,rfl,rfl,rfl,rfl,hd,h0,by omega,.inl ⟨by simp,rfl,yp hw⟩,by simp,by simp [aK],by simp,by simp⟩
   ·split at hs
    ·simp at hs
    ·simp at hs;obtain ⟨rfl,rfl⟩:=hs
     refine ⟨rfl,rfl,rfl,rfl,rfl,by simp [next,pass,Jp,eu],?_,?_,?_,.inr ⟨by simp [aK],rfl⟩,by simp [aK],by simp [aK],by simp [aK],by simp⟩<;>simp [next,pass,Jp,eu]<;>omega
  ·simp at hs
 ·simp only [pg] at hs;split at hs
  ·simp at hs;obtain ⟨rfl,rfl⟩:=hs
   refine ⟨rfl,rfl,rfl,rfl,rfl,rfl,?_,?_,?_,.inr ⟨by simp,rfl⟩,by simp,by simp [aK],by simp,by simp⟩<;>simp [next,pass]<;>omega
  ·simp at hs
 ·simp only [ii] at hs;split at hs
  ·simp at hs;obtain ⟨rfl,rfl⟩:=hs
   refine ⟨rfl,rfl,rfl,rfl,rfl,rfl,?_,?_,?_,.inr ⟨by simp,rfl⟩,by simp,by simp [aK],by simp,by simp⟩<;>simp [next,pass,eu]<;>omega
  ·simp at hs
 ·simp only [fV] at hs;split at hs
  ·simp at hs;obtain ⟨rfl,rfl⟩:=hs
   refine ⟨rfl,rfl,rfl,rfl,rfl,rfl,?_,?_,?_,.inr ⟨by simp,rfl⟩,by simp,by simp [aK],by simp,by simp⟩<;>simp [next,pass,jS]<;>omega
  ·simp at hs
 ·simp only [pi] at hs;split at hs
  ·simp at hs;obtain ⟨rfl,rfl⟩:=hs
   refine ⟨rfl,rfl,rfl,rfl,rfl,rfl,?_,?_,?_,.inr ⟨by simp [aK],rfl⟩,by simp [aK],by simp [aK],by simp [aK],by simp⟩<;>simp [next,pass,eu]<;>omega
  ·simp at hs
 ·simp only [cT] at hs;split at hs
  ·rename_i hw;simp at hs;obtain ⟨rfl,rfl⟩:=hs
   refine ⟨rfl,rfl,rfl,rfl,rfl,rfl,?_,?_,?_,.inr ⟨by simp,rfl⟩,fun _=>hw.2.1,by simp,by simp,by simp⟩<;>simp [next,pass,jS]<;>omega
  ·simp at hs
 ·simp only [jM] at hs;split at hs
  ·simp at hs;obtain ⟨rfl,rfl⟩:=hs
   refine ⟨rfl,rfl,rfl,rfl,rfl,rfl,?_,?_,?_,.inr ⟨by simp [aK],rfl⟩,by simp [aK],by simp [aK],by simp [aK],by simp⟩<;>simp [next,pass]<;>omega
  ·rename_i hw;simp at hs;obtain ⟨rfl,rfl⟩:=hs
   exact ⟨rfl,rfl,rfl,rfl,rfl,rfl,hd,h0,by omega,.inl ⟨by simp,rfl,hw⟩,by simp,by simp [aK],by simp,by simp⟩
 ·simp only [pj] at hs;split at hs
  ·rename_i hw;simp [below] at hw;simp at hs;obtain ⟨rfl,rfl⟩:=hs
   refine ⟨rfl,rfl,rfl,rfl,rfl,rfl,?_,?_,?_,.inr ⟨by simp [aK],rfl⟩,by simp [aK],by simp [aK],by simp [aK],by simp⟩<;>simp [pass]<;>omega
  ·simp at hs
 ·simp only [kf] at hs;split at hs
  ·rename_i hw;simp [below] at hw;split at hs
   ·simp at hs;obtain ⟨rfl,rfl⟩:=hs
    refine ⟨rfl,rfl,rfl,rfl,rfl,rfl,?_,?_,?_,.inr ⟨by simp [aK],rfl⟩,by simp [aK],by simp [aK],by simp [aK],by simp⟩<;>simp [pass,eu]<;>omega
   ·simp at hs;obtain ⟨rfl,rfl⟩:=hs
    refine ⟨rfl,rfl,rfl,rfl,rfl,rfl,?_,?_,?_,.inr ⟨by simp [aK],rfl⟩,by simp [aK],by simp [aK],by simp [aK],by simp⟩<;>simp [next,pass,eu]<;>omega
  ·simp at hs
 ·simp only [uP] at hs;split at hs
  ·split at hs
   ·simp at hs
   ·simp at hs;obtain ⟨rfl,rfl⟩:=hs
    refine ⟨rfl,rfl,rfl,rfl,rfl,rfl,?_,?_,?_,.inr ⟨by simp,rfl⟩,by simp,by simp [aK],by simp,by simp⟩<;>simp [next,pass,eu]<;>omega
  ·rename_i hw;simp at hs;obtain ⟨rfl,rfl⟩:=hs
   exact ⟨rfl,rfl,rfl,rfl,rfl,rfl,hd,h0,by omega,.inl ⟨by simp,rfl,hw⟩,by simp,by simp [aK],by simp,by simp⟩
 ·simp only [dJ] at hs;split at hs
  ·simp at hs;obtain ⟨rfl,rfl⟩:=hs
   refine ⟨rfl,rfl,rfl,rfl,rfl,rfl,?_,?_,?_,.inr ⟨by simp [aK],rfl⟩,by simp [aK],by simp [aK],by simp [aK],by simp⟩<;>simp [next,pass,eu]<;>omega
  ·simp at hs
 ·simp at hs
inductive Out where
 | err (e:Int)
 | ok (f:Frame) (a:Ask)
def cy (b:Bd) (f:Frame):In4:=b.ins.getD f.pc.toNat ⟨0,0,0,0⟩
def runN (c:Cd) (b:Bd):Nat->Frame->Out
 | 0,_=>.err 11
 | n+1,f=>
  if f.spent=2000 then .err 11
  else if below f.pc b.ins.length=false then .err 1
  else match stepS c b f (cy b f) with
   | none=>.err 1
   | some (g,a)=>if a.kind=0 then runN c b n g else .ok g a
def cz (f:Frame):Nat:=(2001 - f.spent).toNat
def cA (c:Cd) (f:Frame):Out:=if right c f then runN c (dx c f) (cz f) f else .err 1
def Nw (a:Ask):Dat:=if a.kind=4 then ae a.args else .nil
def Ss (a:Ask):Dat:=.agg [I a.kind,I a.a,I a.b,I a.op.1,I a.op.2.1,I a.op.2.2.1,I a.op.2.2.2,Nw a]
def aak (f0:Frame):Out->Dat
 | .err e=>.tuple [bY f0,Ss aK,I e]
 | .ok f a=>.tuple [bY f,Ss a,I 0]
end Uw.Tryz.Vm
namespace Uw
open Go Go.RowKit
variable [Glob]
theorem bQ.same {P:Program} {f:FuncId} {vs:List V} {h h' : Heap} {nx:Nat} {Q:Res->Heap->Nat->Prop} (hl:∀i,look h' i=look h i) (hs:bQ P f vs h nx Q):bQ P f vs h' nx Q:=by
 refine ⟨hs.1,fun c w0 F gvs e1 e2 e3 e4 e5=>?_⟩;have hk:∀i,look h i=look c.heap i:=by rw [e1];exact fun i=>(hl i).symm
 have hI:∀b o,Imm c b o->Imm { c with heap:=h } b o:=by
  rintro b o (hi|⟨i1,i2,i3⟩)
  ·exact .inl hi
  ·exact .inr ⟨i1,i2,fun id blk hb=>i3 id blk (by rw [<- hk];exact hb)⟩
 have evo:Evo c { c with heap:=h }:=⟨fun b o hi=>⟨hI b o hi,rfl⟩,fun id b hb=>⟨b,by rw [hk];exact hb,cK.refl _ _⟩⟩
 have hh:cI { c with heap:=h } w0 nx:=by
  refine ⟨e2.below,e2.other,e2.jY,?_,?_,?_,?_⟩
  ·intro id b hb
   exact cw.evo evo rfl (fun _=>rfl) (e2.blk id b (by rw [<- hk];exact hb))
  ·intro id b hb;exact e2.lt id b (by rw [<- hk];exact hb)
  ·intro id b hb;exact e2.ge id b (by rw [<- hk];exact hb)
  ·intro id id' b b' hb hb';exact e2.inj id id' b b' (by rw [<- hk];exact hb) (by rw [<- hk];exact hb')
 exact hs.2 { c with heap:=h } w0 F gvs rfl hh e3 (F.ok c _ (evo.toK _) e4) (aC.evo evo _ _ e5)
theorem bQ.dup {P:Program} {f:FuncId} {vs:List V} {k:Nat} {a z:Blk} {h:Heap} {nx:Nat} {Q:Res->Heap->Nat->Prop} (hs:bQ P f vs ((k,a)::h) nx Q):bQ P f vs ((k,a)::(k,z)::h) nx Q:=
 bQ.same (fun i=>by simp only [look];cases Nat.beq k i<;>rfl) hs
end Uw
namespace Uw.Tryz.Vm
open Go Uw Uw.Tryz
theorem cr {c:Cd} {b:Bd} {f g:Frame} {i:In4} {a:Ask} (hs:stepS c b f i=some (g,a)) (h:i.op≠13):a.kind≠4:=by
 have fin:∀{op},aX op f=some (g,a)->a.kind≠4:=by
  intro op hs;simp only [aX] at hs
  split at hs
  ·simp at hs;obtain ⟨rfl,rfl⟩:=hs;simp [aK]
  ·simp at hs
 revert hs
 refine ky (fun o=>o=some (g,a)->a.kind≠4) ?_ ?_ ?_ ?_ ?_ (fun _=>fin) (fun _=>fin) (fun _=>fin) (fun _=>fin) (fun _=>fin) ?_ ?_ (fun e=>absurd e h) ?_ ?_ ?_ ?_ ?_ (fun _=>fin) ?_
 all_goals intro ho hs
 ·simp only [ke] at hs;split at hs
  ·simp at hs;obtain ⟨rfl,rfl⟩:=hs;simp [aK]
  ·simp at hs
 ·simp only [fR] at hs;repeat' split at hs
  ·simp at hs;obtain ⟨rfl,rfl⟩:=hs;simp
  ·simp at hs;obtain ⟨rfl,rfl⟩:=hs;simp [aK]
  ·simp at hs
  ·simp at hs
 ·simp only [su] at hs;repeat' split at hs
  ·simp at hs;obtain ⟨rfl,rfl⟩:=hs;simp
  ·simp at hs
  ·simp at hs;obtain ⟨rfl,rfl⟩:=hs;simp [aK]
  ·simp at hs
 ·simp only [pg] at hs;split at hs
  ·simp at hs;obtain ⟨rfl,rfl⟩:=hs;simp
  ·simp at hs
 ·simp only [ii] at hs;split at hs
  ·simp at hs;obtain ⟨rfl,rfl⟩:=hs;simp
  ·simp at hs
 ·simp only [fV] at hs;split at hs
  ·simp at hs;obtain ⟨rfl,rfl⟩:=hs;simp
  ·simp at hs
 ·simp only [pi] at hs;split at hs
  ·simp at hs;obtain ⟨rfl,rfl⟩:=hs;simp [aK]
  ·simp at hs
 ·simp only [jM] at hs;split at hs
  ·simp at hs;obtain ⟨rfl,rfl⟩:=hs;simp [aK]
  ·simp at hs;obtain ⟨rfl,rfl⟩:=hs;simp
 ·simp only [pj] at hs;split at hs
  ·simp at hs;obtain ⟨rfl,rfl⟩:=hs;simp [aK]
  ·simp at hs
 ·simp only [kf] at hs;repeat' split at hs
  ·simp at hs;obtain ⟨rfl,rfl⟩:=hs;simp [aK]
  ·simp at hs;obtain ⟨rfl,rfl⟩:=hs;simp [aK]
  ·simp at hs
 ·simp only [uP] at hs;repeat' split at hs
  ·simp at hs
  ·simp at hs;obtain ⟨rfl,rfl⟩:=hs;simp
  ·simp at hs;obtain ⟨rfl,rfl⟩:=hs;simp
 ·simp only [dJ] at hs;split at hs
  ·simp at hs;obtain ⟨rfl,rfl⟩:=hs;simp [aK]
  ·simp at hs
 ·simp at hs
theorem Jr {c:Cd} {b:Bd} {f g:Frame} {i:In4} {a:Ask} (hs:cT c f i=some (g,a)):a.kind=4:=by
 simp only [cT] at hs;split at hs
 ·simp at hs;obtain ⟨rfl,rfl⟩:=hs;rfl
 ·simp at hs
end Uw.Tryz.Vm
namespace Uw.Tryz.Vm
open Go Uw Uw.Tryz
inductive LS where
 | at (x:LX) (a:Ask)
 | spawned (x:LX) (a:Ask)
def Jt:jf:=[(2,.ptr 0 0),(3,.ptr 1 0),(4,.ptr 2 0),(5,.ptr 3 0),(6,.ptr 4 0),(7,.ptr 5 0),(8,.ptr 17 0)]
def kA:List V:=[.func 52 [] [.ptr 1 0,.ptr 2 0,.ptr 3 0,.ptr 4 0]]
def bJ (c:Cd) (b:Bd) (f0:Frame):LS->St
 | .at x a=>⟨Jt,bW c b f0 x (AZ a),18,kA,0⟩
 | .spawned x a=>⟨Jt,(18,.mt 1 0 (rows a.args))::bW c b f0 x (Pn a (.ref 18 0 0 a.args.length)),19,kA,0⟩
def cO (c:Cd) (b:Bd) (f0:Frame) (o:Out):LS->Prop
 | .at x a=>Mid c b x/\eb x.f/\((a=aK/\runN c b (cz x.f) x.f=o)\/(a.kind≠0/\a.kind≠4/\o = .ok x.f a))
 | .spawned x a=>Mid c b x/\eb x.f/\a.kind=4/\o = .ok x.f a
def dy:LS->Nat
 | .at x a=>if a.kind=0 then cz x.f+1 else 0
 | .spawned _ _=>0
theorem calm (h:Heap) (nx:Nat):uw P0 iZ [.ptr 1 0,.ptr 2 0,.ptr 3 0,.ptr 4 0] h nx none (fun h' nx'=>h' = h/\nx' = nx):=by
 refine jt mV rfl ?_;refine aS rfl ?_;exact al ⟨.inl rfl,rfl,rfl,rfl⟩
theorem Sv (c:Cd) (b:Bd) (f0:Frame) (x:LX) (ask:List V) (i:In4) (z:List V) (nx:Nat) (e:Int):uw P0 iZ [.ptr 1 0,.ptr 2 0,.ptr 3 0,.ptr 4 0] (bW c b f0 x ask) nx (some (.iface 28 (I e)))
  (fun h' nx'=>h' = (4,.var [.d (I e)])::(4,.var [.d (I 1)])::(3,.var aM)::(2,.var (V.ce (bY f0)).cells)::bW c b f0 x ask/\nx' = nx):=by
 refine jt mV rfl ?_;refine ah rfl ?_;refine ah rfl ?_;exact al ⟨.inl rfl,rfl,rfl,rfl⟩
theorem fD (c:Cd) (b:Bd) (f0:Frame) (x:LX) (ask:List V) (i:In4) (z:List V) (nx:Nat) (e:Int):uw P0 iZ [.ptr 1 0,.ptr 2 0,.ptr 3 0,.ptr 4 0] (LH c b f0 x ask i) nx (some (.iface 28 (I e)))
  (fun h' nx'=>h' = (4,.var [.d (I e)])::(4,.var [.d (I 1)])::(3,.var aM)::(2,.var (V.ce (bY f0)).cells)::LH c b f0 x ask i/\nx' = nx):=by
 refine jt mV rfl ?_;refine ah rfl ?_;refine ah rfl ?_;exact al ⟨.inl rfl,rfl,rfl,rfl⟩
theorem Sz (c:Cd) (b:Bd) (f0:Frame) (x:LX) (ask:List V) (i:In4) (z:List V) (nx:Nat) (e:Int):uw P0 iZ [.ptr 1 0,.ptr 2 0,.ptr 3 0,.ptr 4 0] ((18,.var (eT i))::(18,.var z)::bW c b f0 x ask) nx (some (.iface 28 (I e)))
  (fun h' nx'=>h' = (4,.var [.d (I e)])::(4,.var [.d (I 1)])::(3,.var aM)::(2,.var (V.ce (bY f0)).cells)::(18,.var (eT i))::(18,.var z)::bW c b f0 x ask/\nx' = nx):=by
 refine jt mV rfl ?_;refine ah rfl ?_;refine ah rfl ?_;exact al ⟨.inl rfl,rfl,rfl,rfl⟩
theorem SA {n:Int} (h0:1<=n) (h1:n<20):n=1\/n=2\/n=3\/n=4\/n=5\/n=6\/n=7\/n=8\/n=9\/n=10\/n=11\/n=12\/n=13\/n=14\/n=15\/n=16\/n=17\/n=18\/n=19:=by omega
theorem cJ {c:Cd} {b:Bd} {f:Frame} {o:Out} (hr:runN c b (cz f) f=o) (h0:f.spent<2000) (hp:below f.pc b.ins.length=true):o=match stepS c b f (cy b f) with
   | none=>.err 1
   | some (g,a)=>if a.kind=0 then runN c b (cz f - 1) g else .ok g a:=by
 obtain ⟨n,hn⟩:∃n,cz f=n+1:=⟨cz f - 1,by simp only [cz];omega⟩
 rw [hn] at hr ⊢;rw [<- hr,runN,if_neg (by omega),if_neg (by rw [hp];simp)];rfl
theorem Mid.inv {c:Cd} {b:Bd} {x:LX} (h:Mid c b x) (hp:x.f.pc<1000) (hs:x.f.spent<2000) (h1:b.ins.length<1000) (h2:c.aA.length<1000) (h3:c.cells.length<1000):Inv c b x:=
 ⟨h.pre,h.len,h.le,h.loc,h.deep,h.pc0,hp,h.sp0,hs,h.pK,h.kids,h1,h2,h3⟩
theorem cP {c:Cd} {b:Bd} {f0:Frame} {o:Out} {x y:LX} {a:Ask} (hx:Inv c b x) (hv:eb x.f) (hpc:x.f.pc<b.ins.length) (hr:runN c b (cz x.f) x.f=o) (hs:stepS c b x.f (cy b x.f)=some (y.f,a)) (hm:Mid c b y) (h4:a.kind≠4) :
  cO c b f0 o (.at y a)/\dy (.at y a)<dy (.at x aK):=by
 have st:=rD hx.pc0 hpc hx.deep hs;have hvy:=zd hv hs;have hrun:=cJ hr hx.sp1 (by have:=hx.pc0;simp [below];omega);rw [hs] at hrun;have h1:=hx.sp1;by_cases hk:a.kind=0
 ·simp only [hk,if_true] at hrun
  have hsp:y.f.spent=x.f.spent+1:=by
   rcases st.spent with ⟨h,_⟩|⟨_,h⟩
   ·omega
   ·exact h
  have hfu:cz x.f - 1=cz y.f:=by simp only [cz];omega
  refine ⟨⟨hm,hvy,.inl ⟨st.Zh hk,?_⟩⟩,?_⟩
  ·rw [<- hfu,hrun]
  ·simp only [dy,hk,if_true,show aK.kind=0 from rfl,cz];omega
 ·simp only [hk,if_false] at hrun
  exact ⟨⟨hm,hvy,.inr ⟨hk,h4,hrun⟩⟩,by simp [dy,hk,show aK.kind=0 from rfl]⟩
theorem Pq {l:List (List Dat)} {n:Nat} {s:List Int} (h:l.take n=rows s):(l.drop 0).take n=rows s:=by rw [abC];exact h
theorem FR {c:Cd} {b:Bd} {x:LX} (h:Mid c b x):(Dat.agg [I x.f.task,.slice 1 (((rows x.f.path).drop 0).take x.f.path.length) false,I x.f.fn,I x.f.pc,.slice 1 ((x.ls.drop 0).take x.f.loc.length) false,.slice 1 ((x.xs.drop 0).take x.n) false,.slice 2 (((eC x.f.kids).drop 0).take x.f.kids.length) false,I x.f.many,I x.f.spent,.bool x.f.fail])=bY x.f:=by
 rw [Pq h.pre,h.loc,abC,abC,abC];rw [abt (by simp [rows]),abt (by simp [rows]),abt (by simp [eC])];rfl
def loopBody:bR:=(.seq (.seq (.ops [⟨none,(some 28),(.fld 19 (.t 7))⟩,⟨none,(some 29),(.fld 0 (.t 28))⟩,⟨none,(some 30),(.load false 1 (.t 29))⟩,⟨none,(some 31),(.bin .eql (.t 30) (.c (.int .i64 0)))⟩]) (.cond (.t 31) .skip (.exit 0))) (.block 1 (.seq (.seq (.ops [⟨none,(some 32),(.fld 9 (.t 7))⟩,⟨none,(some 33),(.fld 8 (.t 32))⟩,⟨none,(some 34),(.load false 1 (.t 33))⟩,⟨none,(some 35),(.bin .eql (.t 34) (.c (.int .i64 2000)))⟩]) (.cond (.t 35) (.ops [⟨none,(some 36),(.yB 28 (.c (.int .i64 11)))⟩,⟨none,none,(.panic (.t 36))⟩]) .skip)) (.seq (.ops [⟨none,(some 37),(.fld 9 (.t 7))⟩,⟨none,(some 38),(.fld 3 (.t 37))⟩,⟨none,(some 39),(.load false 1 (.t 38))⟩,⟨none,(some 40),(.fld 6 (.t 7))⟩,⟨none,(some 41),(.fld 2 (.t 40))⟩,⟨none,(some 42),(.load false 1 (.t 41))⟩,⟨none,(some 43),(.len false (.t 42))⟩,⟨none,(some 44),(.call 56 [(.t 39),(.t 43)])⟩,⟨none,(some 45),(.sub 55 [(.t 7),(.t 44)])⟩]) (.seq (.ops [⟨none,(some 46),(.fld 6 (.t 7))⟩,⟨none,(some 47),(.fld 2 (.t 46))⟩,⟨none,(some 48),(.load false 1 (.t 47))⟩,⟨none,(some 49),(.fld 9 (.t 7))⟩,⟨none,(some 50),(.fld 3 (.t 49))⟩,⟨none,(some 51),(.load false 1 (.t 50))⟩,⟨none,(some 52),(.idx 4 (.t 48) (.t 51))⟩,⟨none,(some 53),(.load true 4 (.t 52))⟩,⟨none,(some 9),(.alloc [(.int .i64 0),(.int .i64 0),(.int .i64 0),(.int .i64 0)])⟩,⟨none,none,(.store 4 (.t 9) (.t 53))⟩]) (.seq (.ops [⟨none,(some 54),(.fld 0 (.t 9))⟩,⟨none,(some 55),(.load false 1 (.t 54))⟩,⟨none,(some 56),(.bin .geq (.t 55) (.c (.int .i64 1)))⟩,⟨none,(some 57),(.mov (.t 56))⟩,⟨(some (57,true)),(some 58),(.fld 0 (.t 9))⟩,⟨(some (57,true)),(some 59),(.load false 1 (.t 58))⟩,⟨(some (57,true)),(some 60),(.bin .lss (.t 59) (.c (.int .i64 20)))⟩,⟨none,(some 61),(.pick (.t 57) (.t 60) (.c (.bool false)))⟩,⟨none,(some 62),(.sub 55 [(.t 7),(.t 61)])⟩]) (.ops [⟨none,(some 63),(.fld 0 (.t 9))⟩,⟨none,(some 64),(.load false 1 (.t 63))⟩,⟨none,(some 65),(.sx 20 1 (.t 8) (.t 64))⟩,⟨none,(some 66),(.fld 0 (.t 65))⟩,⟨none,(some 67),(.load false 1 (.t 66))⟩,⟨none,(some 68),(.load true 4 (.t 9))⟩,⟨none,(some 69),(.fF (.t 67) [(.t 7),(.t 68)])⟩])))))))
def Zi (f0:Frame) (h:Heap) (nx:Nat) (e:Int):Prop:=uw P0 iZ [.ptr 1 0,.ptr 2 0,.ptr 3 0,.ptr 4 0] h nx (some (.iface 28 (I e)))
  (fun h' nx'=>h' = (4,.var [.d (I e)])::(4,.var [.d (I 1)])::(3,.var aM)::(2,.var (V.ce (bY f0)).cells)::h/\nx' = nx)
def om (f0:Frame) (o:Out) (Q:ay->St->Prop):Prop:=∀(regs:jf) (h:Heap) (nx:Nat) (e:Int),look regs 4=some (.ptr 2 0)->look regs 5=some (.ptr 3 0)->look regs 6=some (.ptr 4 0)->Zi f0 h nx e->o = .err e->
  Q (.panic (.iface 28 (I e))) ⟨regs,h,nx,kA,0⟩
theorem Px (c:Cd) (b:Bd) (f:Frame) (o:Out) (x:LX) (hm:Mid c b x) (hv:eb x.f) (hrun:runN c b (cz x.f) x.f=o) (Q:ay->St->Prop) (cN:om f o Q) (h:x.f.spent=2000):WT P0 (cQ (bJ c b f) (cO c b f o) dy (.at x aK) Q) (exec loopBody (bJ c b f (.at x aK)) Tree.done):=by
 refine ah rfl ?_;refine ah (by simp [h]) ?_;exact cF (cN _ _ _ 11 rfl rfl rfl (Sv c b f x aM ⟨0,0,0,0⟩ [] 18 11) (by rw [<- hrun,show cz x.f=0+1 by simp only [cz];omega,runN,if_pos h]))
theorem Zj (c:Cd) (b:Bd) (f:Frame) (o:Out) (x:LX) (hm:Mid c b x) (hv:eb x.f) (hrun:runN c b (cz x.f) x.f=o) (Q:ay->St->Prop) (cN:om f o Q) (h:x.f.spent<2000) (hpc:below x.f.pc b.ins.length=false):WT P0 (cQ (bJ c b f) (cO c b f o) dy (.at x aK) Q) (exec loopBody (bJ c b f (.at x aK)) Tree.done):=by
 refine ah rfl ?_;refine aS (by simp;omega) ?_;refine aL _ (s25 _ _) ?_;refine av (aU _ _ _ _) ?_;rintro _ _ _ ⟨rfl,rfl,⟨dK,rfl⟩|⟨dK,rfl⟩⟩
 ·exfalso;simp [below] at hpc;simp at dK;omega
 refine cF (cN _ _ _ 1 rfl rfl rfl (Sv c b f x aM ⟨0,0,0,0⟩ [] 18 1) ?_);obtain ⟨n,hn⟩:∃n,cz x.f=n+1:=⟨cz x.f - 1,by simp only [cz];omega⟩
 rw [<- hrun,hn,runN,if_neg (by omega),if_pos hpc]
theorem aal (c:Cd) (b:Bd) (f:Frame) (o:Out) (x:LX) (hm:Mid c b x) (hv:eb x.f) (hrun:runN c b (cz x.f) x.f=o) (Q:ay->St->Prop) (cN:om f o Q) (hx:Inv c b x) (ca:0<=x.f.pc/\x.f.pc<b.ins.length) (ia ib ic:Int) (hi:cy b x.f=⟨1,ia,ib,ic⟩):WT P0 (cQ (bJ c b f) (cO c b f o) dy (.at x aK) Q) (exec loopBody (bJ c b f (.at x aK)) Tree.done):=by
 have hs1:stepS c b x.f ⟨1,ia,ib,ic⟩=ke x.f ⟨1,ia,ib,ic⟩:=rfl;have hS:=bQ.dup (k:=18) (a:=.var (eT ⟨1,ia,ib,ic⟩)) (z:=.var [.d (I 0),.d (I 0),.d (I 0),.d (I 0)]) (h:=bW c b f x aM) (U7 c b f x ⟨1,ia,ib,ic⟩ hx);rw [<- hs1] at hS;obtain ⟨s,hst⟩:∃s,stepS c b x.f ⟨1,ia,ib,ic⟩=s:=⟨_,rfl⟩
 rw [hst] at hS;have fh:below x.f.pc b.ins.length=true:=by simpa [below] using ca
 have h:=hx.sp1;have hi2:b.ins[x.f.pc.toNat]? = some ⟨1,ia,ib,ic⟩:=by
  have e:x.f.pc.toNat<b.ins.length:=by omega
  rw [<- hi];simp [cy,e]
 refine ah rfl ?_;refine aS (by simp;omega) ?_;refine aL _ (s25 _ _) ?_;refine av (aU _ _ _ _) ?_;rintro _ _ _ ⟨rfl,rfl,⟨-,rfl⟩|⟨dK,rfl⟩⟩;rotate_left
 ·exfalso;simp at dK;omega
 refine ah (by simp;omega) ?_;refine aF (in4 ⟨1,ia,ib,ic⟩) (by simp [hi2]) ?_;refine ah rfl ?_;refine ah rfl ?_;refine av (aU _ _ _ _) ?_;rintro _ _ _ ⟨rfl,rfl,⟨-,rfl⟩|⟨hno,rfl⟩⟩;rotate_left
 ·exfalso;simp at hno
 refine ah rfl ?_;refine av hS ?_;rintro r h' nx' hD
 cases s with
 | none=>
  obtain ⟨rfl,rfl,y,ask,rfl⟩:=hD;exact cF (cN _ _ _ 1 rfl rfl rfl (fD c b f y ask ⟨1,ia,ib,ic⟩ [] 19 1) (by rw [cJ hrun hx.sp1 fh,hi,hst]))
 | some p=>
  obtain ⟨g,a⟩:=p;obtain ⟨rfl,rfl,y,rfl,hmy,rfl⟩:=hD;have hnx:=cP (f0:=f) hx hv ca.2 hrun (by rw [hi];exact hst) hmy (cr hst (by show (1:Int)≠13;decide));exact aR (.at y a) hnx.1 hnx.2 (Weak.eqs [] (by kernel_rfl) (by kernel_rfl) (by kernel_rfl) (by kernel_rfl) (by kernel_rfl) (by kernel_rfl) (by kernel_rfl) (by kernel_rfl) (by kernel_rfl) (by kernel_rfl))
theorem aam (c:Cd) (b:Bd) (f:Frame) (o:Out) (x:LX) (hm:Mid c b x) (hv:eb x.f) (hrun:runN c b (cz x.f) x.f=o) (Q:ay->St->Prop) (cN:om f o Q) (hx:Inv c b x) (ca:0<=x.f.pc/\x.f.pc<b.ins.length) (ia ib ic:Int) (hi:cy b x.f=⟨2,ia,ib,ic⟩):WT P0 (cQ (bJ c b f) (cO c b f o) dy (.at x aK) Q) (exec loopBody (bJ c b f (.at x aK)) Tree.done):=by
 have hs1:stepS c b x.f ⟨2,ia,ib,ic⟩=fR x.f ⟨2,ia,ib,ic⟩:=rfl;have hS:=bQ.dup (k:=18) (a:=.var (eT ⟨2,ia,ib,ic⟩)) (z:=.var [.d (I 0),.d (I 0),.d (I 0),.d (I 0)]) (h:=bW c b f x aM) (U6 c b f x ⟨2,ia,ib,ic⟩ hx);rw [<- hs1] at hS;obtain ⟨s,hst⟩:∃s,stepS c b x.f ⟨2,ia,ib,ic⟩=s:=⟨_,rfl⟩
 rw [hst] at hS;have fh:below x.f.pc b.ins.length=true:=by simpa [below] using ca
 have h:=hx.sp1;have hi2:b.ins[x.f.pc.toNat]? = some ⟨2,ia,ib,ic⟩:=by
  have e:x.f.pc.toNat<b.ins.length:=by omega
  rw [<- hi];simp [cy,e]
 refine ah rfl ?_;refine aS (by simp;omega) ?_;refine aL _ (s25 _ _) ?_;refine av (aU _ _ _ _) ?_;rintro _ _ _ ⟨rfl,rfl,⟨-,rfl⟩|⟨dK,rfl⟩⟩;rotate_left
 ·exfalso;simp at dK;omega
 refine ah (by simp;omega) ?_;refine aF (in4 ⟨2,ia,ib,ic⟩) (by simp [hi2]) ?_;refine ah rfl ?_;refine ah rfl ?_;refine av (aU _ _ _ _) ?_;rintro _ _ _ ⟨rfl,rfl,⟨-,rfl⟩|⟨hno,rfl⟩⟩;rotate_left
 ·exfalso;simp at hno
 refine ah rfl ?_;refine av hS ?_;rintro r h' nx' hD
 cases s with
 | none=>
  obtain ⟨rfl,rfl,y,ask,rfl⟩:=hD;exact cF (cN _ _ _ 1 rfl rfl rfl (fD c b f y ask ⟨2,ia,ib,ic⟩ [] 19 1) (by rw [cJ hrun hx.sp1 fh,hi,hst]))
 | some p=>
  obtain ⟨g,a⟩:=p;obtain ⟨rfl,rfl,y,rfl,hmy,rfl⟩:=hD;have hnx:=cP (f0:=f) hx hv ca.2 hrun (by rw [hi];exact hst) hmy (cr hst (by show (2:Int)≠13;decide));exact aR (.at y a) hnx.1 hnx.2 (Weak.eqs [] (by kernel_rfl) (by kernel_rfl) (by kernel_rfl) (by kernel_rfl) (by kernel_rfl) (by kernel_rfl) (by kernel_rfl) (by kernel_rfl) (by kernel_rfl) (by kernel_rfl))
theorem aan (c:Cd) (b:Bd) (f:Frame) (o:Out) (x:LX) (hm:Mid c b x) (hv:eb x.f) (hrun:runN c b (cz x.f) x.f=o) (Q:ay->St->Prop) (cN:om f o Q) (hx:Inv c b x) (ca:0<=x.f.pc/\x.f.pc<b.ins.length) (ia ib ic:Int) (hi:cy b x.f=⟨3,ia,ib,ic⟩):WT P0 (cQ (bJ c b f) (cO c b f o) dy (.at x aK) Q) (exec loopBody (bJ c b f (.at x aK)) Tree.done):=by
 have hs1:stepS c b x.f ⟨3,ia,ib,ic⟩=su x.f ⟨3,ia,ib,ic⟩:=rfl;have hS:=bQ.dup (k:=18) (a:=.var (eT ⟨3,ia,ib,ic⟩)) (z:=.var [.d (I 0),.d (I 0),.d (I 0),.d (I 0)]) (h:=bW c b f x aM) (Ze c b f x ⟨3,ia,ib,ic⟩ hx);rw [<- hs1] at hS;obtain ⟨s,hst⟩:∃s,stepS c b x.f ⟨3,ia,ib,ic⟩=s:=⟨_,rfl⟩
 rw [hst] at hS;have fh:below x.f.pc b.ins.length=true:=by simpa [below] using ca
 have h:=hx.sp1;have hi2:b.ins[x.f.pc.toNat]? = some ⟨3,ia,ib,ic⟩:=by
  have e:x.f.pc.toNat<b.ins.length:=by omega
  rw [<- hi];simp [cy,e]
 refine ah rfl ?_;refine aS (by simp;omega) ?_;refine aL _ (s25 _ _) ?_;refine av (aU _ _ _ _) ?_;rintro _ _ _ ⟨rfl,rfl,⟨-,rfl⟩|⟨dK,rfl⟩⟩;rotate_left
 ·exfalso;simp at dK;omega
 refine ah (by simp;omega) ?_;refine aF (in4 ⟨3,ia,ib,ic⟩) (by simp [hi2]) ?_;refine ah rfl ?_;refine ah rfl ?_;refine av (aU _ _ _ _) ?_;rintro _ _ _ ⟨rfl,rfl,⟨-,rfl⟩|⟨hno,rfl⟩⟩;rotate_left
 ·exfalso;simp at hno
 refine ah rfl ?_;refine av hS ?_;rintro r h' nx' hD
 cases s with
 | none=>
  obtain ⟨rfl,rfl,y,ask,rfl⟩:=hD;exact cF (cN _ _ _ 1 rfl rfl rfl (fD c b f y ask ⟨3,ia,ib,ic⟩ [] 19 1) (by rw [cJ hrun hx.sp1 fh,hi,hst]))
 | some p=>
  obtain ⟨g,a⟩:=p;obtain ⟨rfl,rfl,y,rfl,hmy,rfl⟩:=hD;have hnx:=cP (f0:=f) hx hv ca.2 hrun (by rw [hi];exact hst) hmy (cr hst (by show (3:Int)≠13;decide));exact aR (.at y a) hnx.1 hnx.2 (Weak.eqs [] (by kernel_rfl) (by kernel_rfl) (by kernel_rfl) (by kernel_rfl) (by kernel_rfl) (by kernel_rfl) (by kernel_rfl) (by kernel_rfl) (by kernel_rfl) (by kernel_rfl))
theorem aao (c:Cd) (b:Bd) (f:Frame) (o:Out) (x:LX) (hm:Mid c b x) (hv:eb x.f) (hrun:runN c b (cz x.f) x.f=o) (Q:ay->St->Prop) (cN:om f o Q) (hx:Inv c b x) (ca:0<=x.f.pc/\x.f.pc<b.ins.length) (ia ib ic:Int) (hi:cy b x.f=⟨4,ia,ib,ic⟩):WT P0 (cQ (bJ c b f) (cO c b f o) dy (.at x aK) Q) (exec loopBody (bJ c b f (.at x aK)) Tree.done):=by
 have hs1:stepS c b x.f ⟨4,ia,ib,ic⟩=pg c x.f ⟨4,ia,ib,ic⟩:=rfl;have hS:=bQ.dup (k:=18) (a:=.var (eT ⟨4,ia,ib,ic⟩)) (z:=.var [.d (I 0),.d (I 0),.d (I 0),.d (I 0)]) (h:=bW c b f x aM) (XY c b f x ⟨4,ia,ib,ic⟩ hx);rw [<- hs1] at hS;obtain ⟨s,hst⟩:∃s,stepS c b x.f ⟨4,ia,ib,ic⟩=s:=⟨_,rfl⟩
 rw [hst] at hS;have fh:below x.f.pc b.ins.length=true:=by simpa [below] using ca
 have h:=hx.sp1;have hi2:b.ins[x.f.pc.toNat]? = some ⟨4,ia,ib,ic⟩:=by
  have e:x.f.pc.toNat<b.ins.length:=by omega
  rw [<- hi];simp [cy,e]
 refine ah rfl ?_;refine aS (by simp;omega) ?_;refine aL _ (s25 _ _) ?_;refine av (aU _ _ _ _) ?_;rintro _ _ _ ⟨rfl,rfl,⟨-,rfl⟩|⟨dK,rfl⟩⟩;rotate_left
 ·exfalso;simp at dK;omega
 refine ah (by simp;omega) ?_;refine aF (in4 ⟨4,ia,ib,ic⟩) (by simp [hi2]) ?_;refine ah rfl ?_;refine ah rfl ?_;refine av (aU _ _ _ _) ?_;rintro _ _ _ ⟨rfl,rfl,⟨-,rfl⟩|⟨hno,rfl⟩⟩;rotate_left
 ·exfalso;simp at hno
 refine ah rfl ?_;refine av hS ?_;rintro r h' nx' hD
 cases s with
 | none=>
  obtain ⟨rfl,rfl,y,ask,rfl⟩:=hD;exact cF (cN _ _ _ 1 rfl rfl rfl (fD c b f y ask ⟨4,ia,ib,ic⟩ [] 19 1) (by rw [cJ hrun hx.sp1 fh,hi,hst]))
 | some p=>
  obtain ⟨g,a⟩:=p;obtain ⟨rfl,rfl,y,rfl,hmy,rfl⟩:=hD;have hnx:=cP (f0:=f) hx hv ca.2 hrun (by rw [hi];exact hst) hmy (cr hst (by show (4:Int)≠13;decide));exact aR (.at y a) hnx.1 hnx.2 (Weak.eqs [] (by kernel_rfl) (by kernel_rfl) (by kernel_rfl) (by kernel_rfl) (by kernel_rfl) (by kernel_rfl) (by kernel_rfl) (by kernel_rfl) (by kernel_rfl) (by kernel_rfl))
theorem aap (c:Cd) (b:Bd) (f:Frame) (o:Out) (x:LX) (hm:Mid c b x) (hv:eb x.f) (hrun:runN c b (cz x.f) x.f=o) (Q:ay->St->Prop) (cN:om f o Q) (hx:Inv c b x) (ca:0<=x.f.pc/\x.f.pc<b.ins.length) (ia ib ic:Int) (hi:cy b x.f=⟨5,ia,ib,ic⟩):WT P0 (cQ (bJ c b f) (cO c b f o) dy (.at x aK) Q) (exec loopBody (bJ c b f (.at x aK)) Tree.done):=by
 have hs1:stepS c b x.f ⟨5,ia,ib,ic⟩=ii c x.f ⟨5,ia,ib,ic⟩:=rfl;have hS:=bQ.dup (k:=18) (a:=.var (eT ⟨5,ia,ib,ic⟩)) (z:=.var [.d (I 0),.d (I 0),.d (I 0),.d (I 0)]) (h:=bW c b f x aM) (U8 c b f x ⟨5,ia,ib,ic⟩ hx);rw [<- hs1] at hS;obtain ⟨s,hst⟩:∃s,stepS c b x.f ⟨5,ia,ib,ic⟩=s:=⟨_,rfl⟩
 rw [hst] at hS;have fh:below x.f.pc b.ins.length=true:=by simpa [below] using ca
 have h:=hx.sp1;have hi2:b.ins[x.f.pc.toNat]? = some ⟨5,ia,ib,ic⟩:=by
  have e:x.f.pc.toNat<b.ins.length:=by omega
  rw [<- hi];simp [cy,e]
 refine ah rfl ?_;refine aS (by simp;omega) ?_;refine aL _ (s25 _ _) ?_;refine av (aU _ _ _ _) ?_;rintro _ _ _ ⟨rfl,rfl,⟨-,rfl⟩|⟨dK,rfl⟩⟩;rotate_left
 ·exfalso;simp at dK;omega
 refine ah (by simp;omega) ?_;refine aF (in4 ⟨5,ia,ib,ic⟩) (by simp [hi2]) ?_;refine ah rfl ?_;refine ah rfl ?_;refine av (aU _ _ _ _) ?_;rintro _ _ _ ⟨rfl,rfl,⟨-,rfl⟩|⟨hno,rfl⟩⟩;rotate_left
 ·exfalso;simp at hno
 refine ah rfl ?_;refine av hS ?_;rintro r h' nx' hD
 cases s with
 | none=>
  obtain ⟨rfl,rfl,y,ask,rfl⟩:=hD;exact cF (cN _ _ _ 1 rfl rfl rfl (fD c b f y ask ⟨5,ia,ib,ic⟩ [] 19 1) (by rw [cJ hrun hx.sp1 fh,hi,hst]))
 | some p=>
  obtain ⟨g,a⟩:=p;obtain ⟨rfl,rfl,y,rfl,hmy,rfl⟩:=hD;have hnx:=cP (f0:=f) hx hv ca.2 hrun (by rw [hi];exact hst) hmy (cr hst (by show (5:Int)≠13;decide));exact aR (.at y a) hnx.1 hnx.2 (Weak.eqs [] (by kernel_rfl) (by kernel_rfl) (by kernel_rfl) (by kernel_rfl) (by kernel_rfl) (by kernel_rfl) (by kernel_rfl) (by kernel_rfl) (by kernel_rfl) (by kernel_rfl))
theorem aaq (c:Cd) (b:Bd) (f:Frame) (o:Out) (x:LX) (hm:Mid c b x) (hv:eb x.f) (hrun:runN c b (cz x.f) x.f=o) (Q:ay->St->Prop) (cN:om f o Q) (hx:Inv c b x) (ca:0<=x.f.pc/\x.f.pc<b.ins.length) (ia ib ic:Int) (hi:cy b x.f=⟨6,ia,ib,ic⟩):WT P0 (cQ (bJ c b f) (cO c b f o) dy (.at x aK) Q) (exec loopBody (bJ c b f (.at x aK)) Tree.done):=by
 have hs1:stepS c b x.f ⟨6,ia,ib,ic⟩=aX (fun x y=>cn (x+y)) x.f:=rfl;have hS:=bQ.dup (k:=18) (a:=.var (eT ⟨6,ia,ib,ic⟩)) (z:=.var [.d (I 0),.d (I 0),.d (I 0),.d (I 0)]) (h:=bW c b f x aM) (Zb c b f x ⟨6,ia,ib,ic⟩ hx);rw [<- hs1] at hS;obtain ⟨s,hst⟩:∃s,stepS c b x.f ⟨6,ia,ib,ic⟩=s:=⟨_,rfl⟩
 rw [hst] at hS;have fh:below x.f.pc b.ins.length=true:=by simpa [below] using ca
 have h:=hx.sp1;have hi2:b.ins[x.f.pc.toNat]? = some ⟨6,ia,ib,ic⟩:=by
  have e:x.f.pc.toNat<b.ins.length:=by omega
  rw [<- hi];simp [cy,e]
 refine ah rfl ?_;refine aS (by simp;omega) ?_;refine aL _ (s25 _ _) ?_;refine av (aU _ _ _ _) ?_;rintro _ _ _ ⟨rfl,rfl,⟨-,rfl⟩|⟨dK,rfl⟩⟩;rotate_left
 ·exfalso;simp at dK;omega
 refine ah (by simp;omega) ?_;refine aF (in4 ⟨6,ia,ib,ic⟩) (by simp [hi2]) ?_;refine ah rfl ?_;refine ah rfl ?_;refine av (aU _ _ _ _) ?_;rintro _ _ _ ⟨rfl,rfl,⟨-,rfl⟩|⟨hno,rfl⟩⟩;rotate_left
 ·exfalso;simp at hno
 refine ah rfl ?_;refine av hS ?_;rintro r h' nx' hD
 cases s with
 | none=>
  obtain ⟨rfl,rfl,y,ask,rfl⟩:=hD;exact cF (cN _ _ _ 1 rfl rfl rfl (fD c b f y ask ⟨6,ia,ib,ic⟩ [] 19 1) (by rw [cJ hrun hx.sp1 fh,hi,hst]))
 | some p=>
  obtain ⟨g,a⟩:=p;obtain ⟨rfl,rfl,y,rfl,hmy,rfl⟩:=hD;have hnx:=cP (f0:=f) hx hv ca.2 hrun (by rw [hi];exact hst) hmy (cr hst (by show (6:Int)≠13;decide));exact aR (.at y a) hnx.1 hnx.2 (Weak.eqs [] (by kernel_rfl) (by kernel_rfl) (by kernel_rfl) (by kernel_rfl) (by kernel_rfl) (by kernel_rfl) (by kernel_rfl) (by kernel_rfl) (by kernel_rfl) (by kernel_rfl))
theorem aar (c:Cd) (b:Bd) (f:Frame) (o:Out) (x:LX) (hm:Mid c b x) (hv:eb x.f) (hrun:runN c b (cz x.f) x.f=o) (Q:ay->St->Prop) (cN:om f o Q) (hx:Inv c b x) (ca:0<=x.f.pc/\x.f.pc<b.ins.length) (ia ib ic:Int) (hi:cy b x.f=⟨7,ia,ib,ic⟩):WT P0 (cQ (bJ c b f) (cO c b f o) dy (.at x aK) Q) (exec loopBody (bJ c b f (.at x aK)) Tree.done):=by
 have hs1:stepS c b x.f ⟨7,ia,ib,ic⟩=aX (fun x y=>cn (x - y)) x.f:=rfl;have hS:=bQ.dup (k:=18) (a:=.var (eT ⟨7,ia,ib,ic⟩)) (z:=.var [.d (I 0),.d (I 0),.d (I 0),.d (I 0)]) (h:=bW c b f x aM) (Zc c b f x ⟨7,ia,ib,ic⟩ hx);rw [<- hs1] at hS;obtain ⟨s,hst⟩:∃s,stepS c b x.f ⟨7,ia,ib,ic⟩=s:=⟨_,rfl⟩
 rw [hst] at hS;have fh:below x.f.pc b.ins.length=true:=by simpa [below] using ca
 have h:=hx.sp1;have hi2:b.ins[x.f.pc.toNat]? = some ⟨7,ia,ib,ic⟩:=by
  have e:x.f.pc.toNat<b.ins.length:=by omega
  rw [<- hi];simp [cy,e]
 refine ah rfl ?_;refine aS (by simp;omega) ?_;refine aL _ (s25 _ _) ?_;refine av (aU _ _ _ _) ?_;rintro _ _ _ ⟨rfl,rfl,⟨-,rfl⟩|⟨dK,rfl⟩⟩;rotate_left
 ·exfalso;simp at dK;omega
 refine ah (by simp;omega) ?_;refine aF (in4 ⟨7,ia,ib,ic⟩) (by simp [hi2]) ?_;refine ah rfl ?_;refine ah rfl ?_;refine av (aU _ _ _ _) ?_;rintro _ _ _ ⟨rfl,rfl,⟨-,rfl⟩|⟨hno,rfl⟩⟩;rotate_left
 ·exfalso;simp at hno
 refine ah rfl ?_;refine av hS ?_;rintro r h' nx' hD
 cases s with
 | none=>
  obtain ⟨rfl,rfl,y,ask,rfl⟩:=hD;exact cF (cN _ _ _ 1 rfl rfl rfl (fD c b f y ask ⟨7,ia,ib,ic⟩ [] 19 1) (by rw [cJ hrun hx.sp1 fh,hi,hst]))
 | some p=>
  obtain ⟨g,a⟩:=p;obtain ⟨rfl,rfl,y,rfl,hmy,rfl⟩:=hD;have hnx:=cP (f0:=f) hx hv ca.2 hrun (by rw [hi];exact hst) hmy (cr hst (by show (7:Int)≠13;decide));exact aR (.at y a) hnx.1 hnx.2 (Weak.eqs [] (by kernel_rfl) (by kernel_rfl) (by kernel_rfl) (by kernel_rfl) (by kernel_rfl) (by kernel_rfl) (by kernel_rfl) (by kernel_rfl) (by kernel_rfl) (by kernel_rfl))
theorem aas (c:Cd) (b:Bd) (f:Frame) (o:Out) (x:LX) (hm:Mid c b x) (hv:eb x.f) (hrun:runN c b (cz x.f) x.f=o) (Q:ay->St->Prop) (cN:om f o Q) (hx:Inv c b x) (ca:0<=x.f.pc/\x.f.pc<b.ins.length) (ia ib ic:Int) (hi:cy b x.f=⟨8,ia,ib,ic⟩):WT P0 (cQ (bJ c b f) (cO c b f o) dy (.at x aK) Q) (exec loopBody (bJ c b f (.at x aK)) Tree.done):=by
 have hs1:stepS c b x.f ⟨8,ia,ib,ic⟩=aX (fun x y=>cn (x * y)) x.f:=rfl;have hS:=bQ.dup (k:=18) (a:=.var (eT ⟨8,ia,ib,ic⟩)) (z:=.var [.d (I 0),.d (I 0),.d (I 0),.d (I 0)]) (h:=bW c b f x aM) (Zd c b f x ⟨8,ia,ib,ic⟩ hx);rw [<- hs1] at hS;obtain ⟨s,hst⟩:∃s,stepS c b x.f ⟨8,ia,ib,ic⟩=s:=⟨_,rfl⟩
 rw [hst] at hS;have fh:below x.f.pc b.ins.length=true:=by simpa [below] using ca
 have h:=hx.sp1;have hi2:b.ins[x.f.pc.toNat]? = some ⟨8,ia,ib,ic⟩:=by
  have e:x.f.pc.toNat<b.ins.length:=by omega
  rw [<- hi];simp [cy,e]
 refine ah rfl ?_;refine aS (by simp;omega) ?_;refine aL _ (s25 _ _) ?_;refine av (aU _ _ _ _) ?_;rintro _ _ _ ⟨rfl,rfl,⟨-,rfl⟩|⟨dK,rfl⟩⟩;rotate_left
 ·exfalso;simp at dK;omega
 refine ah (by simp;omega) ?_;refine aF (in4 ⟨8,ia,ib,ic⟩) (by simp [hi2]) ?_;refine ah rfl ?_;refine ah rfl ?_;refine av (aU _ _ _ _) ?_;rintro _ _ _ ⟨rfl,rfl,⟨-,rfl⟩|⟨hno,rfl⟩⟩;rotate_left
 ·exfalso;simp at hno
 refine ah rfl ?_;refine av hS ?_;rintro r h' nx' hD
 cases s with
 | none=>
  obtain ⟨rfl,rfl,y,ask,rfl⟩:=hD;exact cF (cN _ _ _ 1 rfl rfl rfl (fD c b f y ask ⟨8,ia,ib,ic⟩ [] 19 1) (by rw [cJ hrun hx.sp1 fh,hi,hst]))
 | some p=>
  obtain ⟨g,a⟩:=p;obtain ⟨rfl,rfl,y,rfl,hmy,rfl⟩:=hD;have hnx:=cP (f0:=f) hx hv ca.2 hrun (by rw [hi];exact hst) hmy (cr hst (by show (8:Int)≠13;decide));exact aR (.at y a) hnx.1 hnx.2 (Weak.eqs [] (by kernel_rfl) (by kernel_rfl) (by kernel_rfl) (by kernel_rfl) (by kernel_rfl) (by kernel_rfl) (by kernel_rfl) (by kernel_rfl) (by kernel_rfl) (by kernel_rfl))
theorem aat (c:Cd) (b:Bd) (f:Frame) (o:Out) (x:LX) (hm:Mid c b x) (hv:eb x.f) (hrun:runN c b (cz x.f) x.f=o) (Q:ay->St->Prop) (cN:om f o Q) (hx:Inv c b x) (ca:0<=x.f.pc/\x.f.pc<b.ins.length) (ia ib ic:Int) (hi:cy b x.f=⟨9,ia,ib,ic⟩):WT P0 (cQ (bJ c b f) (cO c b f o) dy (.at x aK) Q) (exec loopBody (bJ c b f (.at x aK)) Tree.done):=by
 have hs1:stepS c b x.f ⟨9,ia,ib,ic⟩=aX (fun x y=>truth (decide (x<y))) x.f:=rfl;have hS:=bQ.dup (k:=18) (a:=.var (eT ⟨9,ia,ib,ic⟩)) (z:=.var [.d (I 0),.d (I 0),.d (I 0),.d (I 0)]) (h:=bW c b f x aM) (X4 c b f x ⟨9,ia,ib,ic⟩ hx);rw [<- hs1] at hS;obtain ⟨s,hst⟩:∃s,stepS c b x.f ⟨9,ia,ib,ic⟩=s:=⟨_,rfl⟩
 rw [hst] at hS;have fh:below x.f.pc b.ins.length=true:=by simpa [below] using ca
 have h:=hx.sp1;have hi2:b.ins[x.f.pc.toNat]? = some ⟨9,ia,ib,ic⟩:=by
  have e:x.f.pc.toNat<b.ins.length:=by omega
  rw [<- hi];simp [cy,e]
 refine ah rfl ?_;refine aS (by simp;omega) ?_;refine aL _ (s25 _ _) ?_;refine av (aU _ _ _ _) ?_;rintro _ _ _ ⟨rfl,rfl,⟨-,rfl⟩|⟨dK,rfl⟩⟩;rotate_left
 ·exfalso;simp at dK;omega
 refine ah (by simp;omega) ?_;refine aF (in4 ⟨9,ia,ib,ic⟩) (by simp [hi2]) ?_;refine ah rfl ?_;refine ah rfl ?_;refine av (aU _ _ _ _) ?_;rintro _ _ _ ⟨rfl,rfl,⟨-,rfl⟩|⟨hno,rfl⟩⟩;rotate_left
 ·exfalso;simp at hno
 refine ah rfl ?_;refine av hS ?_;rintro r h' nx' hD
 cases s with
 | none=>
  obtain ⟨rfl,rfl,y,ask,rfl⟩:=hD;exact cF (cN _ _ _ 1 rfl rfl rfl (fD c b f y ask ⟨9,ia,ib,ic⟩ [] 19 1) (by rw [cJ hrun hx.sp1 fh,hi,hst]))
 | some p=>
  obtain ⟨g,a⟩:=p;obtain ⟨rfl,rfl,y,rfl,hmy,rfl⟩:=hD;have hnx:=cP (f0:=f) hx hv ca.2 hrun (by rw [hi];exact hst) hmy (cr hst (by show (9:Int)≠13;decide));exact aR (.at y a) hnx.1 hnx.2 (Weak.eqs [] (by kernel_rfl) (by kernel_rfl) (by kernel_rfl) (by kernel_rfl) (by kernel_rfl) (by kernel_rfl) (by kernel_rfl) (by kernel_rfl) (by kernel_rfl) (by kernel_rfl))
theorem Zk (c:Cd) (b:Bd) (f:Frame) (o:Out) (x:LX) (hm:Mid c b x) (hv:eb x.f) (hrun:runN c b (cz x.f) x.f=o) (Q:ay->St->Prop) (cN:om f o Q) (hx:Inv c b x) (ca:0<=x.f.pc/\x.f.pc<b.ins.length) (ia ib ic:Int) (hi:cy b x.f=⟨10,ia,ib,ic⟩):WT P0 (cQ (bJ c b f) (cO c b f o) dy (.at x aK) Q) (exec loopBody (bJ c b f (.at x aK)) Tree.done):=by
 have hs1:stepS c b x.f ⟨10,ia,ib,ic⟩=aX (fun x y=>truth (decide (x=y))) x.f:=rfl;have hS:=bQ.dup (k:=18) (a:=.var (eT ⟨10,ia,ib,ic⟩)) (z:=.var [.d (I 0),.d (I 0),.d (I 0),.d (I 0)]) (h:=bW c b f x aM) (i_eq c b f x ⟨10,ia,ib,ic⟩ hx);rw [<- hs1] at hS;obtain ⟨s,hst⟩:∃s,stepS c b x.f ⟨10,ia,ib,ic⟩=s:=⟨_,rfl⟩
 rw [hst] at hS;have fh:below x.f.pc b.ins.length=true:=by simpa [below] using ca
 have h:=hx.sp1;have hi2:b.ins[x.f.pc.toNat]? = some ⟨10,ia,ib,ic⟩:=by
  have e:x.f.pc.toNat<b.ins.length:=by omega
  rw [<- hi];simp [cy,e]
 refine ah rfl ?_;refine aS (by simp;omega) ?_;refine aL _ (s25 _ _) ?_;refine av (aU _ _ _ _) ?_;rintro _ _ _ ⟨rfl,rfl,⟨-,rfl⟩|⟨dK,rfl⟩⟩;rotate_left
 ·exfalso;simp at dK;omega
 refine ah (by simp;omega) ?_;refine aF (in4 ⟨10,ia,ib,ic⟩) (by simp [hi2]) ?_;refine ah rfl ?_;refine ah rfl ?_;refine av (aU _ _ _ _) ?_;rintro _ _ _ ⟨rfl,rfl,⟨-,rfl⟩|⟨hno,rfl⟩⟩;rotate_left
 ·exfalso;simp at hno
 refine ah rfl ?_;refine av hS ?_;rintro r h' nx' hD
 cases s with
 | none=>
  obtain ⟨rfl,rfl,y,ask,rfl⟩:=hD;exact cF (cN _ _ _ 1 rfl rfl rfl (fD c b f y ask ⟨10,ia,ib,ic⟩ [] 19 1) (by rw [cJ hrun hx.sp1 fh,hi,hst]))
 | some p=>
  obtain ⟨g,a⟩:=p;obtain ⟨rfl,rfl,y,rfl,hmy,rfl⟩:=hD;have hnx:=cP (f0:=f) hx hv ca.2 hrun (by rw [hi];exact hst) hmy (cr hst (by show (10:Int)≠13;decide));exact aR (.at y a) hnx.1 hnx.2 (Weak.eqs [] (by kernel_rfl) (by kernel_rfl) (by kernel_rfl) (by kernel_rfl) (by kernel_rfl) (by kernel_rfl) (by kernel_rfl) (by kernel_rfl) (by kernel_rfl) (by kernel_rfl))
theorem Zl (c:Cd) (b:Bd) (f:Frame) (o:Out) (x:LX) (hm:Mid c b x) (hv:eb x.f) (hrun:runN c b (cz x.f) x.f=o) (Q:ay->St->Prop) (cN:om f o Q) (hx:Inv c b x) (ca:0<=x.f.pc/\x.f.pc<b.ins.length) (ia ib ic:Int) (hi:cy b x.f=⟨11,ia,ib,ic⟩):WT P0 (cQ (bJ c b f) (cO c b f o) dy (.at x aK) Q) (exec loopBody (bJ c b f (.at x aK)) Tree.done):=by
 have hs1:stepS c b x.f ⟨11,ia,ib,ic⟩=fV c x.f ⟨11,ia,ib,ic⟩:=rfl;have hS:=bQ.dup (k:=18) (a:=.var (eT ⟨11,ia,ib,ic⟩)) (z:=.var [.d (I 0),.d (I 0),.d (I 0),.d (I 0)]) (h:=bW c b f x aM) (X6 c b f x ⟨11,ia,ib,ic⟩ hx);rw [<- hs1] at hS;obtain ⟨s,hst⟩:∃s,stepS c b x.f ⟨11,ia,ib,ic⟩=s:=⟨_,rfl⟩
 rw [hst] at hS;have fh:below x.f.pc b.ins.length=true:=by simpa [below] using ca
 have h:=hx.sp1;have hi2:b.ins[x.f.pc.toNat]? = some ⟨11,ia,ib,ic⟩:=by
  have e:x.f.pc.toNat<b.ins.length:=by omega
  rw [<- hi];simp [cy,e]
 refine ah rfl ?_;refine aS (by simp;omega) ?_;refine aL _ (s25 _ _) ?_;refine av (aU _ _ _ _) ?_;rintro _ _ _ ⟨rfl,rfl,⟨-,rfl⟩|⟨dK,rfl⟩⟩;rotate_left
 ·exfalso;simp at dK;omega
 refine ah (by simp;omega) ?_;refine aF (in4 ⟨11,ia,ib,ic⟩) (by simp [hi2]) ?_;refine ah rfl ?_;refine ah rfl ?_;refine av (aU _ _ _ _) ?_;rintro _ _ _ ⟨rfl,rfl,⟨-,rfl⟩|⟨hno,rfl⟩⟩;rotate_left
 ·exfalso;simp at hno
 refine ah rfl ?_;refine av hS ?_;rintro r h' nx' hD
 cases s with
 | none=>
  obtain ⟨rfl,rfl,y,ask,rfl⟩:=hD;exact cF (cN _ _ _ 1 rfl rfl rfl (fD c b f y ask ⟨11,ia,ib,ic⟩ [] 19 1) (by rw [cJ hrun hx.sp1 fh,hi,hst]))
 | some p=>
  obtain ⟨g,a⟩:=p;obtain ⟨rfl,rfl,y,rfl,hmy,rfl⟩:=hD;have hnx:=cP (f0:=f) hx hv ca.2 hrun (by rw [hi];exact hst) hmy (cr hst (by show (11:Int)≠13;decide));exact aR (.at y a) hnx.1 hnx.2 (Weak.eqs [] (by kernel_rfl) (by kernel_rfl) (by kernel_rfl) (by kernel_rfl) (by kernel_rfl) (by kernel_rfl) (by kernel_rfl) (by kernel_rfl) (by kernel_rfl) (by kernel_rfl))
theorem Zm (c:Cd) (b:Bd) (f:Frame) (o:Out) (x:LX) (hm:Mid c b x) (hv:eb x.f) (hrun:runN c b (cz x.f) x.f=o) (Q:ay->St->Prop) (cN:om f o Q) (hx:Inv c b x) (ca:0<=x.f.pc/\x.f.pc<b.ins.length) (ia ib ic:Int) (hi:cy b x.f=⟨12,ia,ib,ic⟩):WT P0 (cQ (bJ c b f) (cO c b f o) dy (.at x aK) Q) (exec loopBody (bJ c b f (.at x aK)) Tree.done):=by
 have hs1:stepS c b x.f ⟨12,ia,ib,ic⟩=pi x.f:=rfl;have hS:=bQ.dup (k:=18) (a:=.var (eT ⟨12,ia,ib,ic⟩)) (z:=.var [.d (I 0),.d (I 0),.d (I 0),.d (I 0)]) (h:=bW c b f x aM) (XZ c b f x ⟨12,ia,ib,ic⟩ hx);rw [<- hs1] at hS;obtain ⟨s,hst⟩:∃s,stepS c b x.f ⟨12,ia,ib,ic⟩=s:=⟨_,rfl⟩
 rw [hst] at hS;have fh:below x.f.pc b.ins.length=true:=by simpa [below] using ca
 have h:=hx.sp1;have hi2:b.ins[x.f.pc.toNat]? = some ⟨12,ia,ib,ic⟩:=by
  have e:x.f.pc.toNat<b.ins.length:=by omega
  rw [<- hi];simp [cy,e]
 refine ah rfl ?_;refine aS (by simp;omega) ?_;refine aL _ (s25 _ _) ?_;refine av (aU _ _ _ _) ?_;rintro _ _ _ ⟨rfl,rfl,⟨-,rfl⟩|⟨dK,rfl⟩⟩;rotate_left
 ·exfalso;simp at dK;omega
 refine ah (by simp;omega) ?_;refine aF (in4 ⟨12,ia,ib,ic⟩) (by simp [hi2]) ?_;refine ah rfl ?_;refine ah rfl ?_;refine av (aU _ _ _ _) ?_;rintro _ _ _ ⟨rfl,rfl,⟨-,rfl⟩|⟨hno,rfl⟩⟩;rotate_left
 ·exfalso;simp at hno
 refine ah rfl ?_;refine av hS ?_;rintro r h' nx' hD
 cases s with
 | none=>
  obtain ⟨rfl,rfl,y,ask,rfl⟩:=hD;exact cF (cN _ _ _ 1 rfl rfl rfl (fD c b f y ask ⟨12,ia,ib,ic⟩ [] 19 1) (by rw [cJ hrun hx.sp1 fh,hi,hst]))
 | some p=>
  obtain ⟨g,a⟩:=p;obtain ⟨rfl,rfl,y,rfl,hmy,rfl⟩:=hD;have hnx:=cP (f0:=f) hx hv ca.2 hrun (by rw [hi];exact hst) hmy (cr hst (by show (12:Int)≠13;decide));exact aR (.at y a) hnx.1 hnx.2 (Weak.eqs [] (by kernel_rfl) (by kernel_rfl) (by kernel_rfl) (by kernel_rfl) (by kernel_rfl) (by kernel_rfl) (by kernel_rfl) (by kernel_rfl) (by kernel_rfl) (by kernel_rfl))
theorem Zn (c:Cd) (b:Bd) (f:Frame) (o:Out) (x:LX) (hm:Mid c b x) (hv:eb x.f) (hrun:runN c b (cz x.f) x.f=o) (Q:ay->St->Prop) (cN:om f o Q) (hx:Inv c b x) (ca:0<=x.f.pc/\x.f.pc<b.ins.length) (ia ib ic:Int) (hi:cy b x.f=⟨13,ia,ib,ic⟩):WT P0 (cQ (bJ c b f) (cO c b f o) dy (.at x aK) Q) (exec loopBody (bJ c b f (.at x aK)) Tree.done):=by
 have hs1:stepS c b x.f ⟨13,ia,ib,ic⟩=cT c x.f ⟨13,ia,ib,ic⟩:=rfl;have hS:=bQ.dup (k:=18) (a:=.var (eT ⟨13,ia,ib,ic⟩)) (z:=.var [.d (I 0),.d (I 0),.d (I 0),.d (I 0)]) (h:=bW c b f x aM) (U9 c b f x ⟨13,ia,ib,ic⟩ hx);rw [<- hs1] at hS;obtain ⟨s,hst⟩:∃s,stepS c b x.f ⟨13,ia,ib,ic⟩=s:=⟨_,rfl⟩
 rw [hst] at hS;have fh:below x.f.pc b.ins.length=true:=by simpa [below] using ca
 have h:=hx.sp1;have hi2:b.ins[x.f.pc.toNat]? = some ⟨13,ia,ib,ic⟩:=by
  have e:x.f.pc.toNat<b.ins.length:=by omega
  rw [<- hi];simp [cy,e]
 refine ah rfl ?_;refine aS (by simp;omega) ?_;refine aL _ (s25 _ _) ?_;refine av (aU _ _ _ _) ?_;rintro _ _ _ ⟨rfl,rfl,⟨-,rfl⟩|⟨dK,rfl⟩⟩;rotate_left
 ·exfalso;simp at dK;omega
 refine ah (by simp;omega) ?_;refine aF (in4 ⟨13,ia,ib,ic⟩) (by simp [hi2]) ?_;refine ah rfl ?_;refine ah rfl ?_;refine av (aU _ _ _ _) ?_;rintro _ _ _ ⟨rfl,rfl,⟨-,rfl⟩|⟨hno,rfl⟩⟩;rotate_left
 ·exfalso;simp at hno
 refine ah rfl ?_;refine av hS ?_;rintro r h' nx' hD
 cases s with
 | none=>
  obtain ⟨rfl,rfl,y,ask,rfl⟩:=hD;exact cF (cN _ _ _ 1 rfl rfl rfl (fD c b f y ask ⟨13,ia,ib,ic⟩ [] 19 1) (by rw [cJ hrun hx.sp1 fh,hi,hst]))
 | some p=>
  obtain ⟨g,a⟩:=p;obtain ⟨rfl,rfl,y,rfl,hmy,rfl⟩:=hD;have hk:=Jr (b:=b) (hs1.symm.trans hst);have ho' : o = .ok y.f a:=by rw [cJ hrun hx.sp1 fh,hi,hst];simp [hk]
  exact aR (LS.spawned y a) (show cO c b f o (LS.spawned y a) from ⟨hmy,zd hv hst,hk,ho'⟩) (by simp [dy,aK]) (Weak.eqs [(18,19)] (by kernel_rfl) (by kernel_rfl) (by kernel_rfl) (by kernel_rfl) (by kernel_rfl) (by kernel_rfl) (by kernel_rfl) (by kernel_rfl) (by kernel_rfl) (by kernel_rfl))
theorem Zo (c:Cd) (b:Bd) (f:Frame) (o:Out) (x:LX) (hm:Mid c b x) (hv:eb x.f) (hrun:runN c b (cz x.f) x.f=o) (Q:ay->St->Prop) (cN:om f o Q) (hx:Inv c b x) (ca:0<=x.f.pc/\x.f.pc<b.ins.length) (ia ib ic:Int) (hi:cy b x.f=⟨14,ia,ib,ic⟩):WT P0 (cQ (bJ c b f) (cO c b f o) dy (.at x aK) Q) (exec loopBody (bJ c b f (.at x aK)) Tree.done):=by
 have hs1:stepS c b x.f ⟨14,ia,ib,ic⟩=jM x.f:=rfl;have hS:=bQ.dup (k:=18) (a:=.var (eT ⟨14,ia,ib,ic⟩)) (z:=.var [.d (I 0),.d (I 0),.d (I 0),.d (I 0)]) (h:=bW c b f x aM) (X0 c b f x ⟨14,ia,ib,ic⟩ hx);rw [<- hs1] at hS;obtain ⟨s,hst⟩:∃s,stepS c b x.f ⟨14,ia,ib,ic⟩=s:=⟨_,rfl⟩
 rw [hst] at hS;have fh:below x.f.pc b.ins.length=true:=by simpa [below] using ca
 have h:=hx.sp1;have hi2:b.ins[x.f.pc.toNat]? = some ⟨14,ia,ib,ic⟩:=by
  have e:x.f.pc.toNat<b.ins.length:=by omega
  rw [<- hi];simp [cy,e]
 refine ah rfl ?_;refine aS (by simp;omega) ?_;refine aL _ (s25 _ _) ?_;refine av (aU _ _ _ _) ?_;rintro _ _ _ ⟨rfl,rfl,⟨-,rfl⟩|⟨dK,rfl⟩⟩;rotate_left
 ·exfalso;simp at dK;omega
 refine ah (by simp;omega) ?_;refine aF (in4 ⟨14,ia,ib,ic⟩) (by simp [hi2]) ?_;refine ah rfl ?_;refine ah rfl ?_;refine av (aU _ _ _ _) ?_;rintro _ _ _ ⟨rfl,rfl,⟨-,rfl⟩|⟨hno,rfl⟩⟩;rotate_left
 ·exfalso;simp at hno
 refine ah rfl ?_;refine av hS ?_;rintro r h' nx' hD
 cases s with
 | none=>
  obtain ⟨rfl,rfl,y,ask,rfl⟩:=hD;exact cF (cN _ _ _ 1 rfl rfl rfl (fD c b f y ask ⟨14,ia,ib,ic⟩ [] 19 1) (by rw [cJ hrun hx.sp1 fh,hi,hst]))
 | some p=>
  obtain ⟨g,a⟩:=p;obtain ⟨rfl,rfl,y,rfl,hmy,rfl⟩:=hD;have hnx:=cP (f0:=f) hx hv ca.2 hrun (by rw [hi];exact hst) hmy (cr hst (by show (14:Int)≠13;decide));exact aR (.at y a) hnx.1 hnx.2 (Weak.eqs [] (by kernel_rfl) (by kernel_rfl) (by kernel_rfl) (by kernel_rfl) (by kernel_rfl) (by kernel_rfl) (by kernel_rfl) (by kernel_rfl) (by kernel_rfl) (by kernel_rfl))
theorem Zp (c:Cd) (b:Bd) (f:Frame) (o:Out) (x:LX) (hm:Mid c b x) (hv:eb x.f) (hrun:runN c b (cz x.f) x.f=o) (Q:ay->St->Prop) (cN:om f o Q) (hx:Inv c b x) (ca:0<=x.f.pc/\x.f.pc<b.ins.length) (ia ib ic:Int) (hi:cy b x.f=⟨15,ia,ib,ic⟩):WT P0 (cQ (bJ c b f) (cO c b f o) dy (.at x aK) Q) (exec loopBody (bJ c b f (.at x aK)) Tree.done):=by
 have hs1:stepS c b x.f ⟨15,ia,ib,ic⟩=pj b x.f ⟨15,ia,ib,ic⟩:=rfl;have hS:=bQ.dup (k:=18) (a:=.var (eT ⟨15,ia,ib,ic⟩)) (z:=.var [.d (I 0),.d (I 0),.d (I 0),.d (I 0)]) (h:=bW c b f x aM) (X2 c b f x ⟨15,ia,ib,ic⟩ hx);rw [<- hs1] at hS;obtain ⟨s,hst⟩:∃s,stepS c b x.f ⟨15,ia,ib,ic⟩=s:=⟨_,rfl⟩
 rw [hst] at hS;have fh:below x.f.pc b.ins.length=true:=by simpa [below] using ca
 have h:=hx.sp1;have hi2:b.ins[x.f.pc.toNat]? = some ⟨15,ia,ib,ic⟩:=by
  have e:x.f.pc.toNat<b.ins.length:=by omega
  rw [<- hi];simp [cy,e]
 refine ah rfl ?_;refine aS (by simp;omega) ?_;refine aL _ (s25 _ _) ?_;refine av (aU _ _ _ _) ?_;rintro _ _ _ ⟨rfl,rfl,⟨-,rfl⟩|⟨dK,rfl⟩⟩;rotate_left
 ·exfalso;simp at dK;omega
 refine ah (by simp;omega) ?_;refine aF (in4 ⟨15,ia,ib,ic⟩) (by simp [hi2]) ?_;refine ah rfl ?_;refine ah rfl ?_;refine av (aU _ _ _ _) ?_;rintro _ _ _ ⟨rfl,rfl,⟨-,rfl⟩|⟨hno,rfl⟩⟩;rotate_left
 ·exfalso;simp at hno
 refine ah rfl ?_;refine av hS ?_;rintro r h' nx' hD
 cases s with
 | none=>
  obtain ⟨rfl,rfl,y,ask,rfl⟩:=hD;exact cF (cN _ _ _ 1 rfl rfl rfl (fD c b f y ask ⟨15,ia,ib,ic⟩ [] 19 1) (by rw [cJ hrun hx.sp1 fh,hi,hst]))
 | some p=>
  obtain ⟨g,a⟩:=p;obtain ⟨rfl,rfl,y,rfl,hmy,rfl⟩:=hD;have hnx:=cP (f0:=f) hx hv ca.2 hrun (by rw [hi];exact hst) hmy (cr hst (by show (15:Int)≠13;decide));exact aR (.at y a) hnx.1 hnx.2 (Weak.eqs [] (by kernel_rfl) (by kernel_rfl) (by kernel_rfl) (by kernel_rfl) (by kernel_rfl) (by kernel_rfl) (by kernel_rfl) (by kernel_rfl) (by kernel_rfl) (by kernel_rfl))
theorem Zq (c:Cd) (b:Bd) (f:Frame) (o:Out) (x:LX) (hm:Mid c b x) (hv:eb x.f) (hrun:runN c b (cz x.f) x.f=o) (Q:ay->St->Prop) (cN:om f o Q) (hx:Inv c b x) (ca:0<=x.f.pc/\x.f.pc<b.ins.length) (ia ib ic:Int) (hi:cy b x.f=⟨16,ia,ib,ic⟩):WT P0 (cQ (bJ c b f) (cO c b f o) dy (.at x aK) Q) (exec loopBody (bJ c b f (.at x aK)) Tree.done):=by
 have hs1:stepS c b x.f ⟨16,ia,ib,ic⟩=kf b x.f ⟨16,ia,ib,ic⟩:=rfl;have hS:=bQ.dup (k:=18) (a:=.var (eT ⟨16,ia,ib,ic⟩)) (z:=.var [.d (I 0),.d (I 0),.d (I 0),.d (I 0)]) (h:=bW c b f x aM) (X3 c b f x ⟨16,ia,ib,ic⟩ hx);rw [<- hs1] at hS;obtain ⟨s,hst⟩:∃s,stepS c b x.f ⟨16,ia,ib,ic⟩=s:=⟨_,rfl⟩
 rw [hst] at hS;have fh:below x.f.pc b.ins.length=true:=by simpa [below] using ca
 have h:=hx.sp1;have hi2:b.ins[x.f.pc.toNat]? = some ⟨16,ia,ib,ic⟩:=by
  have e:x.f.pc.toNat<b.ins.length:=by omega
  rw [<- hi];simp [cy,e]
 refine ah rfl ?_;refine aS (by simp;omega) ?_;refine aL _ (s25 _ _) ?_;refine av (aU _ _ _ _) ?_;rintro _ _ _ ⟨rfl,rfl,⟨-,rfl⟩|⟨dK,rfl⟩⟩;rotate_left
 ·exfalso;simp at dK;omega
 refine ah (by simp;omega) ?_;refine aF (in4 ⟨16,ia,ib,ic⟩) (by simp [hi2]) ?_;refine ah rfl ?_;refine ah rfl ?_;refine av (aU _ _ _ _) ?_;rintro _ _ _ ⟨rfl,rfl,⟨-,rfl⟩|⟨hno,rfl⟩⟩;rotate_left
 ·exfalso;simp at hno
 refine ah rfl ?_;refine av hS ?_;rintro r h' nx' hD
 cases s with
 | none=>
  obtain ⟨rfl,rfl,y,ask,rfl⟩:=hD;exact cF (cN _ _ _ 1 rfl rfl rfl (fD c b f y ask ⟨16,ia,ib,ic⟩ [] 19 1) (by rw [cJ hrun hx.sp1 fh,hi,hst]))
 | some p=>
  obtain ⟨g,a⟩:=p;obtain ⟨rfl,rfl,y,rfl,hmy,rfl⟩:=hD;have hnx:=cP (f0:=f) hx hv ca.2 hrun (by rw [hi];exact hst) hmy (cr hst (by show (16:Int)≠13;decide));exact aR (.at y a) hnx.1 hnx.2 (Weak.eqs [] (by kernel_rfl) (by kernel_rfl) (by kernel_rfl) (by kernel_rfl) (by kernel_rfl) (by kernel_rfl) (by kernel_rfl) (by kernel_rfl) (by kernel_rfl) (by kernel_rfl))
theorem Zr (c:Cd) (b:Bd) (f:Frame) (o:Out) (x:LX) (hm:Mid c b x) (hv:eb x.f) (hrun:runN c b (cz x.f) x.f=o) (Q:ay->St->Prop) (cN:om f o Q) (hx:Inv c b x) (ca:0<=x.f.pc/\x.f.pc<b.ins.length) (ia ib ic:Int) (hi:cy b x.f=⟨17,ia,ib,ic⟩):WT P0 (cQ (bJ c b f) (cO c b f o) dy (.at x aK) Q) (exec loopBody (bJ c b f (.at x aK)) Tree.done):=by
 have hs1:stepS c b x.f ⟨17,ia,ib,ic⟩=uP x.f:=rfl;have hS:=bQ.dup (k:=18) (a:=.var (eT ⟨17,ia,ib,ic⟩)) (z:=.var [.d (I 0),.d (I 0),.d (I 0),.d (I 0)]) (h:=bW c b f x aM) (Za c b f x ⟨17,ia,ib,ic⟩ hx);rw [<- hs1] at hS;obtain ⟨s,hst⟩:∃s,stepS c b x.f ⟨17,ia,ib,ic⟩=s:=⟨_,rfl⟩
 rw [hst] at hS;have fh:below x.f.pc b.ins.length=true:=by simpa [below] using ca
 have h:=hx.sp1;have hi2:b.ins[x.f.pc.toNat]? = some ⟨17,ia,ib,ic⟩:=by
  have e:x.f.pc.toNat<b.ins.length:=by omega
  rw [<- hi];simp [cy,e]
 refine ah rfl ?_;refine aS (by simp;omega) ?_;refine aL _ (s25 _ _) ?_;refine av (aU _ _ _ _) ?_;rintro _ _ _ ⟨rfl,rfl,⟨-,rfl⟩|⟨dK,rfl⟩⟩;rotate_left
 ·exfalso;simp at dK;omega
 refine ah (by simp;omega) ?_;refine aF (in4 ⟨17,ia,ib,ic⟩) (by simp [hi2]) ?_;refine ah rfl ?_;refine ah rfl ?_;refine av (aU _ _ _ _) ?_;rintro _ _ _ ⟨rfl,rfl,⟨-,rfl⟩|⟨hno,rfl⟩⟩;rotate_left
 ·exfalso;simp at hno
 refine ah rfl ?_;refine av hS ?_;rintro r h' nx' hD
 cases s with
 | none=>
  obtain ⟨rfl,rfl,y,ask,rfl⟩:=hD;exact cF (cN _ _ _ 1 rfl rfl rfl (fD c b f y ask ⟨17,ia,ib,ic⟩ [] 19 1) (by rw [cJ hrun hx.sp1 fh,hi,hst]))
 | some p=>
  obtain ⟨g,a⟩:=p;obtain ⟨rfl,rfl,y,rfl,hmy,rfl⟩:=hD;have hnx:=cP (f0:=f) hx hv ca.2 hrun (by rw [hi];exact hst) hmy (cr hst (by show (17:Int)≠13;decide));exact aR (.at y a) hnx.1 hnx.2 (Weak.eqs [] (by kernel_rfl) (by kernel_rfl) (by kernel_rfl) (by kernel_rfl) (by kernel_rfl) (by kernel_rfl) (by kernel_rfl) (by kernel_rfl) (by kernel_rfl) (by kernel_rfl))
theorem Zs (c:Cd) (b:Bd) (f:Frame) (o:Out) (x:LX) (hm:Mid c b x) (hv:eb x.f) (hrun:runN c b (cz x.f) x.f=o) (Q:ay->St->Prop) (cN:om f o Q) (hx:Inv c b x) (ca:0<=x.f.pc/\x.f.pc<b.ins.length) (ia ib ic:Int) (hi:cy b x.f=⟨18,ia,ib,ic⟩):WT P0 (cQ (bJ c b f) (cO c b f o) dy (.at x aK) Q) (exec loopBody (bJ c b f (.at x aK)) Tree.done):=by
 have hs1:stepS c b x.f ⟨18,ia,ib,ic⟩=dJ x.f:=rfl;have hS:=bQ.dup (k:=18) (a:=.var (eT ⟨18,ia,ib,ic⟩)) (z:=.var [.d (I 0),.d (I 0),.d (I 0),.d (I 0)]) (h:=bW c b f x aM) (Si c b f x ⟨18,ia,ib,ic⟩ hx);rw [<- hs1] at hS;obtain ⟨s,hst⟩:∃s,stepS c b x.f ⟨18,ia,ib,ic⟩=s:=⟨_,rfl⟩
 rw [hst] at hS;have fh:below x.f.pc b.ins.length=true:=by simpa [below] using ca
 have h:=hx.sp1;have hi2:b.ins[x.f.pc.toNat]? = some ⟨18,ia,ib,ic⟩:=by
  have e:x.f.pc.toNat<b.ins.length:=by omega
  rw [<- hi];simp [cy,e]
 refine ah rfl ?_;refine aS (by simp;omega) ?_;refine aL _ (s25 _ _) ?_;refine av (aU _ _ _ _) ?_;rintro _ _ _ ⟨rfl,rfl,⟨-,rfl⟩|⟨dK,rfl⟩⟩;rotate_left
 ·exfalso;simp at dK;omega
 refine ah (by simp;omega) ?_;refine aF (in4 ⟨18,ia,ib,ic⟩) (by simp [hi2]) ?_;refine ah rfl ?_;refine ah rfl ?_;refine av (aU _ _ _ _) ?_;rintro _ _ _ ⟨rfl,rfl,⟨-,rfl⟩|⟨hno,rfl⟩⟩;rotate_left
 ·exfalso;simp at hno
 refine ah rfl ?_;refine av hS ?_;rintro r h' nx' hD
 cases s with
 | none=>
  obtain ⟨rfl,rfl,y,ask,rfl⟩:=hD;exact cF (cN _ _ _ 1 rfl rfl rfl (fD c b f y ask ⟨18,ia,ib,ic⟩ [] 19 1) (by rw [cJ hrun hx.sp1 fh,hi,hst]))
 | some p=>
  obtain ⟨g,a⟩:=p;obtain ⟨rfl,rfl,y,rfl,hmy,rfl⟩:=hD;have hnx:=cP (f0:=f) hx hv ca.2 hrun (by rw [hi];exact hst) hmy (cr hst (by show (18:Int)≠13;decide));exact aR (.at y a) hnx.1 hnx.2 (Weak.eqs [] (by kernel_rfl) (by kernel_rfl) (by kernel_rfl) (by kernel_rfl) (by kernel_rfl) (by kernel_rfl) (by kernel_rfl) (by kernel_rfl) (by kernel_rfl) (by kernel_rfl))
theorem Zt (c:Cd) (b:Bd) (f:Frame) (o:Out) (x:LX) (hm:Mid c b x) (hv:eb x.f) (hrun:runN c b (cz x.f) x.f=o) (Q:ay->St->Prop) (cN:om f o Q) (hx:Inv c b x) (ca:0<=x.f.pc/\x.f.pc<b.ins.length) (ia ib ic:Int) (hi:cy b x.f=⟨19,ia,ib,ic⟩):WT P0 (cQ (bJ c b f) (cO c b f o) dy (.at x aK) Q) (exec loopBody (bJ c b f (.at x aK)) Tree.done):=by
 have hs1:stepS c b x.f ⟨19,ia,ib,ic⟩=aX (fun x y=>(x+y) / 2) x.f:=rfl;have hS:=bQ.dup (k:=18) (a:=.var (eT ⟨19,ia,ib,ic⟩)) (z:=.var [.d (I 0),.d (I 0),.d (I 0),.d (I 0)]) (h:=bW c b f x aM) (X5 c b f x ⟨19,ia,ib,ic⟩ hx hv.pop.top hv.top);rw [<- hs1] at hS;obtain ⟨s,hst⟩:∃s,stepS c b x.f ⟨19,ia,ib,ic⟩=s:=⟨_,rfl⟩
 rw [hst] at hS;have fh:below x.f.pc b.ins.length=true:=by simpa [below] using ca
 have h:=hx.sp1;have hi2:b.ins[x.f.pc.toNat]? = some ⟨19,ia,ib,ic⟩:=by
  have e:x.f.pc.toNat<b.ins.length:=by omega
  rw [<- hi];simp [cy,e]
 refine ah rfl ?_;refine aS (by simp;omega) ?_;refine aL _ (s25 _ _) ?_;refine av (aU _ _ _ _) ?_;rintro _ _ _ ⟨rfl,rfl,⟨-,rfl⟩|⟨dK,rfl⟩⟩;rotate_left
 ·exfalso;simp at dK;omega
 refine ah (by simp;omega) ?_;refine aF (in4 ⟨19,ia,ib,ic⟩) (by simp [hi2]) ?_;refine ah rfl ?_;refine ah rfl ?_;refine av (aU _ _ _ _) ?_;rintro _ _ _ ⟨rfl,rfl,⟨-,rfl⟩|⟨hno,rfl⟩⟩;rotate_left
 ·exfalso;simp at hno
 refine ah rfl ?_;refine av hS ?_;rintro r h' nx' hD
 cases s with
 | none=>
  obtain ⟨rfl,rfl,y,ask,rfl⟩:=hD;exact cF (cN _ _ _ 1 rfl rfl rfl (fD c b f y ask ⟨19,ia,ib,ic⟩ [] 19 1) (by rw [cJ hrun hx.sp1 fh,hi,hst]))
 | some p=>
  obtain ⟨g,a⟩:=p;obtain ⟨rfl,rfl,y,rfl,hmy,rfl⟩:=hD;have hnx:=cP (f0:=f) hx hv ca.2 hrun (by rw [hi];exact hst) hmy (cr hst (by show (19:Int)≠13;decide));exact aR (.at y a) hnx.1 hnx.2 (Weak.eqs [] (by kernel_rfl) (by kernel_rfl) (by kernel_rfl) (by kernel_rfl) (by kernel_rfl) (by kernel_rfl) (by kernel_rfl) (by kernel_rfl) (by kernel_rfl) (by kernel_rfl))
theorem Zu (c:Cd) (b:Bd) (f:Frame) (o:Out) (x:LX) (hm:Mid c b x) (hv:eb x.f) (hrun:runN c b (cz x.f) x.f=o) (Q:ay->St->Prop) (cN:om f o Q) (hx:Inv c b x) (ca:0<=x.f.pc/\x.f.pc<b.ins.length) (op ia ib ic:Int) (hi:cy b x.f=⟨op,ia,ib,ic⟩) (hop:op<1\/19<op):WT P0 (cQ (bJ c b f) (cO c b f o) dy (.at x aK) Q) (exec loopBody (bJ c b f (.at x aK)) Tree.done):=by
 have hst:stepS c b x.f ⟨op,ia,ib,ic⟩=none:=ky (fun o=>o=none) (fun e=>by simp at e;omega) (fun e=>by simp at e;omega) (fun e=>by simp at e;omega) (fun e=>by simp at e;omega) (fun e=>by simp at e;omega) (fun e=>by simp at e;omega) (fun e=>by simp at e;omega) (fun e=>by simp at e;omega) (fun e=>by simp at e;omega) (fun e=>by simp at e;omega) (fun e=>by simp at e;omega) (fun e=>by simp at e;omega) (fun e=>by simp at e;omega) (fun e=>by simp at e;omega) (fun e=>by simp at e;omega) (fun e=>by simp at e;omega) (fun e=>by simp at e;omega) (fun e=>by simp at e;omega) (fun e=>by simp at e;omega) (fun _=>rfl);have fh:below x.f.pc b.ins.length=true:=by simpa [below] using ca
 have h:=hx.sp1;have hi2:b.ins[x.f.pc.toNat]? = some ⟨op,ia,ib,ic⟩:=by
  have e:x.f.pc.toNat<b.ins.length:=by omega
  rw [<- hi];simp [cy,e]
 refine ah rfl ?_;refine aS (by simp;omega) ?_;refine aL _ (s25 _ _) ?_;refine av (aU _ _ _ _) ?_;rintro _ _ _ ⟨rfl,rfl,⟨-,rfl⟩|⟨dK,rfl⟩⟩;rotate_left
 ·exfalso;simp at dK;omega
 refine ah (by simp;omega) ?_;refine aF (in4 ⟨op,ia,ib,ic⟩) (by simp [hi2]) ?_;have ho' : o = .err 1:=by rw [cJ hrun hx.sp1 fh,hi,hst]
 by_cases hop1:1<=op
 ·refine ah (by simp;omega) ?_
  refine ah rfl ?_;refine av (aU _ _ _ _) ?_;rintro _ _ _ ⟨rfl,rfl,⟨hno,rfl⟩|⟨hno,rfl⟩⟩
  ·exfalso;simp at hno;omega
  ·exact cF (cN _ _ _ 1 rfl rfl rfl (Sz c b f x aM ⟨op,ia,ib,ic⟩ [.d (I 0),.d (I 0),.d (I 0),.d (I 0)] 19 1) ho')
 ·refine aS (by simp;omega) ?_
  refine aS rfl ?_;refine av (aU _ _ _ _) ?_;rintro _ _ _ ⟨rfl,rfl,⟨hno,rfl⟩|⟨hno,rfl⟩⟩
  ·exfalso;simp at hno
  ·exact cF (cN _ _ _ 1 rfl rfl rfl (Sz c b f x aM ⟨op,ia,ib,ic⟩ [.d (I 0),.d (I 0),.d (I 0),.d (I 0)] 19 1) ho')
theorem rnd (c:Cd) (b:Bd) (f:Frame) (o:Out) (x:LX) (hm:Mid c b x) (hv:eb x.f) (hrun:runN c b (cz x.f) x.f=o) (Q:ay->St->Prop) (cN:om f o Q) (h1:b.ins.length<1000) (h2:c.aA.length<1000) (h3:c.cells.length<1000):WT P0 (cQ (bJ c b f) (cO c b f o) dy (.at x aK) Q) (exec loopBody (bJ c b f (.at x aK)) Tree.done):=by
 have q1:=hm.sp0;have q2:=hm.sp1;have q3:=hm.pc0;by_cases hs:x.f.spent=2000
 ·exact Px c b f o x hm hv hrun Q cN hs
 cases hpc:below x.f.pc b.ins.length with
 | false=>exact Zj c b f o x hm hv hrun Q cN (by omega) hpc
 | true=>
  have ca:0<=x.f.pc/\x.f.pc<b.ins.length:=by simpa [below] using hpc
  have hx:Inv c b x:=hm.inv (by omega) (by omega) h1 h2 h3;obtain ⟨⟨op,ia,ib,ic⟩,hi⟩:∃i,cy b x.f=i:=⟨_,rfl⟩
  by_cases hop:1<=op/\op<20
  ·rcases SA hop.1 hop.2 with rfl|rfl|rfl|rfl|rfl|rfl|rfl|rfl|rfl|rfl|rfl|rfl|rfl|rfl|rfl|rfl|rfl|rfl|rfl
   ·exact aal c b f o x hm hv hrun Q cN hx ca ia ib ic hi
   ·exact aam c b f o x hm hv hrun Q cN hx ca ia ib ic hi
   ·exact aan c b f o x hm hv hrun Q cN hx ca ia ib ic hi
   ·exact aao c b f o x hm hv hrun Q cN hx ca ia ib ic hi
   ·exact aap c b f o x hm hv hrun Q cN hx ca ia ib ic hi
   ·exact aaq c b f o x hm hv hrun Q cN hx ca ia ib ic hi
   ·exact aar c b f o x hm hv hrun Q cN hx ca ia ib ic hi
   ·exact aas c b f o x hm hv hrun Q cN hx ca ia ib ic hi
   ·exact aat c b f o x hm hv hrun Q cN hx ca ia ib ic hi
   ·exact Zk c b f o x hm hv hrun Q cN hx ca ia ib ic hi
   ·exact Zl c b f o x hm hv hrun Q cN hx ca ia ib ic hi
   ·exact Zm c b f o x hm hv hrun Q cN hx ca ia ib ic hi
   ·exact Zn c b f o x hm hv hrun Q cN hx ca ia ib ic hi
   ·exact Zo c b f o x hm hv hrun Q cN hx ca ia ib ic hi
   ·exact Zp c b f o x hm hv hrun Q cN hx ca ia ib ic hi
   ·exact Zq c b f o x hm hv hrun Q cN hx ca ia ib ic hi
   ·exact Zr c b f o x hm hv hrun Q cN hx ca ia ib ic hi
   ·exact Zs c b f o x hm hv hrun Q cN hx ca ia ib ic hi
   ·exact Zt c b f o x hm hv hrun Q cN hx ca ia ib ic hi
  ·exact Zu c b f o x hm hv hrun Q cN hx ca op ia ib ic hi (by omega)
end Uw.Tryz.Vm
namespace Uw.Tryz.Vm
open Go Uw Uw.Tryz
theorem tW {α:Type} (p:α->Bool) (l:List α) (k:Nat) (h:k<l.length) (hp:p l[k]=false):l.all p=false:=by
 rw [acS];exact ⟨l[k],abD _,by simp [hp]⟩
theorem s22 (c:Cd) (f:Frame) (ht:Tiny c f):Ret P0 CW [cdD c,bY f] (.bool (right c f)):=by
 have t1:=ht.aA;have t2:=ht.loc;have t3:=ht.stack;have t4:=ht.kids;obtain ⟨R,hR⟩:∃R,right c f=R:=⟨_,rfl⟩
 obtain ⟨b,hB⟩:∃b,dx c f=b:=⟨_,rfl⟩
 have hR2:=hR;unfold right at hR2;rw [hB] at hR2;rw [hR];by_cases h1:f.task<1
 ·have e:R=false:=by rw [<- hR2];simp [h1]
  refine au iY rfl ?_;refine aS (by simp [h1]) ?_;refine ah rfl ?_;refine ah rfl ?_;exact aj rfl rfl rfl rfl (congrArg Dat.bool e.symm)
 cases h2:below f.fn c.aA.length with
 | false=>
  have e:R=false:=by rw [<- hR2,h2];simp
  refine au iY rfl ?_;refine ah (by simp;omega) ?_;refine aL _ (s25 _ _) ?_;refine aS rfl ?_;refine ah (by simp [below] at h2;simp;omega) ?_;exact aj rfl rfl rfl rfl (congrArg Dat.bool e.symm)
 | true=>
 have h2' : 0<=f.fn/\f.fn<c.aA.length:=by simpa [below] using h2
 have hlt:f.fn.toNat<c.aA.length:=by omega
 have hb:c.aA[f.fn.toNat]=b:=by rw [<- hB];simp [dx,hlt]
 have hbi:b.ins.length<1000:=ht.ins _ (by rw [<- hb];exact abD _);have start:∀(Q:ay->St->Prop),True:=fun _=>trivial
 cases h3:below f.pc ((b.ins.length:Int)+1) with
 | false=>
  have e:R=false:=by rw [<- hR2,h3];simp
  refine au iY rfl ?_;refine ah (by simp;omega) ?_;refine aL _ (s25 _ _) ?_;refine aS rfl ?_;refine aS (by simp;omega) ?_;refine ah (by simp;omega) ?_;refine aF (bdC b) (by simp [hlt,hb]) ?_;refine ah (by simp [inR];omega) ?_;refine aL _ (s25 _ _) ?_;refine aS (by simp [below] at h3;simp;omega) ?_;refine ah rfl ?_;refine aS rfl ?_;refine ah rfl ?_;refine ah rfl ?_;exact aj rfl rfl rfl rfl (congrArg Dat.bool e.symm)
 | true=>
 have h3' : 0<=f.pc/\f.pc<(b.ins.length:Int)+1:=by simpa [below] using h3
 by_cases h4:(f.loc.length:Int)=b.locals
 case neg=>
  have e:R=false:=by rw [<- hR2];simp [h4]
  refine au iY rfl ?_;refine ah (by simp;omega) ?_;refine aL _ (s25 _ _) ?_;refine aS rfl ?_;refine aS (by simp;omega) ?_;refine ah (by simp;omega) ?_;refine aF (bdC b) (by simp [hlt,hb]) ?_;refine ah (by simp [inR];omega) ?_;refine aL _ (s25 _ _) ?_;refine ah (by simp;omega) ?_;refine aS rfl ?_;refine aS (by simp [h4]) ?_;refine ah rfl ?_;refine ah rfl ?_;exact aj rfl rfl rfl rfl (congrArg Dat.bool e.symm)
 by_cases h5:100<(f.stack.length:Int)
 case pos=>
  have e:R=false:=by rw [<- hR2];simp [h5]
  refine au iY rfl ?_;refine ah (by simp;omega) ?_;refine aL _ (s25 _ _) ?_;refine aS rfl ?_;refine aS (by simp;omega) ?_;refine ah (by simp;omega) ?_;refine aF (bdC b) (by simp [hlt,hb]) ?_;refine ah (by simp [inR];omega) ?_;refine aL _ (s25 _ _) ?_;refine ah (by simp;omega) ?_;refine aS rfl ?_;refine ah (by simp [h4]) ?_;refine aS rfl ?_;refine ah (by simp;omega) ?_;exact aj rfl rfl rfl rfl (congrArg Dat.bool e.symm)
 have hR3:(f.kids.all (yo b.locals)&&f.loc.all isVal&&f.stack.all isVal&&decide (0<=f.many)&&below f.spent 2001)=R:=by
  rw [<- hR2,h2,h3];have e1:decide (f.task<1)=false:=by simp;omega
  have e4:decide ((f.loc.length:Int)=b.locals)=true:=by simp [h4]
  have e5:decide (100<(f.stack.length:Int))=false:=by simp;omega
  rw [e1,e4,e5];simp
 refine au iY rfl ?_;refine ah (by simp;omega) ?_;refine aL _ (s25 _ _) ?_;refine aS rfl ?_;refine aS (by simp;omega) ?_;refine ah (by simp;omega) ?_;refine aF (bdC b) (by simp [hlt,hb]) ?_;refine ah (by simp [inR];omega) ?_;refine aL _ (s25 _ _) ?_;refine ah (by simp;omega) ?_;refine aS rfl ?_;refine ah (by simp [h4]) ?_;refine aS rfl ?_;refine aS (by simp;omega) ?_;refine dC (fun k:Int=>⟨[(2,.ptr 0 0),(3,.ptr 1 0),(5,.ptr 2 0),(49,.d (.slice 2 (f.kids.map fQ) false)),(50,.d (.int .i64 (f.kids.map fQ).length)),(51,.d (.int .i64 k))],[(2,.var (bV b)),(0,.var (V.ce (cdD c)).cells),(1,.var (V.ce (bY f)).cells)],3,[],0⟩)
  (fun k=>0<=k/\k<=f.kids.length/\(f.kids.take k.toNat).all (yo b.locals)=true) (fun k=>(f.kids.length - k).toNat) 0 ?_ ⟨by omega,by omega,by simp⟩ ?_
 ·exact Weak.eqs [] (by kernel_rfl) (by kernel_rfl) (by kernel_rfl) (by kernel_rfl) (by kernel_rfl) (by kernel_rfl) (by kernel_rfl) (by kernel_rfl) (by kernel_rfl) (by kernel_rfl)
 ·rintro k ⟨g0,g1,hall⟩
  by_cases hk:k<f.kids.length
  ·refine ah (by simp;omega) ?_
   have hkl:k.toNat<f.kids.length:=by omega
   refine ah (by simp;omega) ?_;refine aF (fQ f.kids[k.toNat]) (by simp [hkl]) ?_;by_cases hj:f.kids[k.toNat].1<1
   ·have e:R=false:=by
     rw [<- hR3,tW _ f.kids k.toNat hkl (by simp [yo];omega)];simp
    refine aS (by simp [hj]) ?_;refine ah rfl ?_;refine ah rfl ?_;refine cD ?_;exact aj rfl rfl rfl rfl (congrArg Dat.bool e.symm)
   ·refine ah (by simp;omega) ?_
    refine aL _ (s37 _ _) ?_;refine aS rfl ?_;by_cases hd:dest f.kids[k.toNat].2 b.locals=false
    ·have e:R=false:=by
      rw [<- hR3,tW _ f.kids k.toNat hkl (by simp [yo,hd])];simp
     refine ah (by simp [fQ] at hd ⊢;exact hd) ?_;refine cD ?_;exact aj rfl rfl rfl rfl (congrArg Dat.bool e.symm)
    ·have hd:dest f.kids[k.toNat].2 b.locals=true:=by simpa using hd
     refine aS (by simp [fQ] at hd ⊢;exact hd) ?_;refine ah (by simp [inR];omega) ?_;refine aR (k+1) ⟨by omega,by omega,?_⟩ (by omega) ?_
     ·rw [show (k+1).toNat=k.toNat+1 by omega,yn _ _ k.toNat hkl,hall]
      simp [yo,hd];omega
     ·exact Weak.eqs [] (by kernel_rfl) (by kernel_rfl) (by kernel_rfl) (by kernel_rfl) (by kernel_rfl) (by kernel_rfl) (by kernel_rfl) (by kernel_rfl) (by kernel_rfl) (by kernel_rfl)
  ·refine aS (by simp;omega) ?_
   refine bp ?_;rw [abt (by omega)] at hall;rw [hall] at hR3;refine aL _ (s26 _ (by omega)) ?_;by_cases hl:f.loc.all isVal=false
   ·have e:R=false:=by rw [<- hR3,hl];simp
    refine aS (by rw [hl];rfl) ?_;refine aS rfl ?_;refine aS rfl ?_;refine aS rfl ?_;refine aS rfl ?_;refine aS rfl ?_;exact aj rfl rfl rfl rfl (congrArg Dat.bool e.symm)
   ·have hl:f.loc.all isVal=true:=by simpa using hl
    refine ah (by rw [hl];rfl) ?_;refine aL _ (s26 _ (by omega)) ?_;refine ah rfl ?_;by_cases hs:f.stack.all isVal=false
    ·have e:R=false:=by rw [<- hR3,hs];simp
     refine aS (by rw [hs];rfl) ?_;refine aS rfl ?_;refine aS rfl ?_;refine aS rfl ?_;exact aj rfl rfl rfl rfl (congrArg Dat.bool e.symm)
    ·have hs:f.stack.all isVal=true:=by simpa using hs
     refine ah (by rw [hs];rfl) ?_;refine ah rfl ?_;by_cases hm:0<=f.many
     ·refine ah (by simpa using hm) ?_
      refine aL _ (s25 _ _) ?_;refine ah rfl ?_;refine aj rfl rfl rfl rfl ?_;rw [<- hR3,hl,hs];simp [fZ,hm,below]
     ·have e:R=false:=by rw [<- hR3];simp;omega
      refine aS (by simp;omega) ?_;refine aS rfl ?_;exact aj rfl rfl rfl rfl (congrArg Dat.bool e.symm)
end Uw.Tryz.Vm
namespace Uw.Tryz.Vm
open Go Uw Uw.Tryz
theorem Ju {u u' v v' : Dat} (h:u=u') (h2:v=v'):Dat.tuple [u,v,I 0] = .tuple [u',v',I 0]:=by rw [h,h2]
theorem s21 (c:Cd) (f:Frame) (ht:Tiny c f):Ret P0 eH [cdD c,bY f] (aak f (cA c f)):=by
 obtain ⟨o,ho⟩:∃o,cA c f=o:=⟨_,rfl⟩
 obtain ⟨b,hB⟩:∃b,dx c f=b:=⟨_,rfl⟩
 rw [ho]
 cases hr:right c f with
 | false=>
  have ho' : o = .err 1:=by rw [<- ho];simp [cA,hr]
  subst ho';refine qY CQ rfl ?_;refine aL _ (s22 c f ht) ?_;refine ah (by rw [hr];rfl) ?_;exact al (.inl ⟨.inr rfl,rfl,_,_,rfl,rfl,rfl,rfl⟩)
 | true=>
 have hr':=hr;simp [right,below] at hr';obtain ⟨⟨⟨⟨⟨⟨hr1,hr2⟩,hr3⟩,hr4⟩,hr5⟩,hr6⟩,hr7⟩:=hr';have hlt:f.fn.toNat<c.aA.length:=by omega
 have hb:c.aA[f.fn.toNat]=dx c f:=by simp [dx,hlt]
 have hbi:(dx c f).ins.length<1000:=ht.ins _ (by rw [<- hb];exact abD _);have hf1:=ht.aA;have hf2:=ht.cells;have hrun0:runN c (dx c f) (cz f) f=cA c f:=by simp [cA,hr]
 rw [ho,hB] at hrun0;rw [hB] at hb hbi hr2 hr3;refine qY CQ rfl ?_;refine aL _ (s22 c f ht) ?_;refine aS (by rw [hr];rfl) ?_;refine br ⟨[(2,.ptr 0 0),(3,.ptr 1 0),(4,.ptr 2 0),(5,.ptr 3 0),(6,.ptr 4 0),(7,.ptr 5 0)],[(5,.var (cV c++bV b++RZ f 6++aM)),(6,.mt 1 1 (rows f.path)),(7,.mt 1 1 (rows f.loc)),(8,.mt 1 1 (rows f.stack)),(9,.mt 2 1 (eC f.kids)),
   (0,.var (V.ce (cdD c)).cells),(1,.var (V.ce (bY f)).cells),(2,.var tV),(3,.var aM),(4,.var [.d (I 0)])],10,kA,0⟩ ?_ ?_
 ·refine ah (by simp;omega) ?_
  refine aF (bdC b) (by simp [hlt,hb]) ?_;refine wE ?_ ?_
  ·skip
   refine bO fm rfl ?_;refine av (cB f.path ht.path _ _) ?_;rintro _ _ _ ⟨rfl,rfl,rfl⟩;refine av (cB f.loc ht.loc _ _) ?_;rintro _ _ _ ⟨rfl,rfl,rfl⟩;refine av (cB f.stack ht.stack _ _) ?_;rintro _ _ _ ⟨rfl,rfl,rfl⟩;refine av (m7 f.kids ht.kids _ _) ?_;rintro _ _ _ ⟨rfl,rfl,rfl⟩;refine dR rfl rfl ?_
   iterate 5 (refine aO (by kernel_rfl) ?_)
   refine ah (by simp;omega) ?_;refine aF (bdC b) (by simp [hlt,hb]) ?_
   iterate 7 (refine aO (by kernel_rfl) ?_)
   refine ah (by simp;omega) ?_;refine aF (bdC b) (by simp [hlt,hb]) ?_
   iterate 3 (refine aO (by kernel_rfl) ?_)
   refine al (.inl ⟨rfl,?_⟩);exact Weak.eqs [(5,11),(6,7),(7,8),(8,9),(9,10)] (by kernel_rfl) (by kernel_rfl) (by kernel_rfl) (by kernel_rfl) (by kernel_rfl) (by kernel_rfl) (by kernel_rfl) (by kernel_rfl) (by kernel_rfl) (by kernel_rfl)
  ·skip
   iterate 5 (refine aO (by kernel_rfl) ?_)
   refine ah (by simp;omega) ?_;refine aF (bdC b) (by simp [hlt,hb]) ?_
   iterate 3 (refine aO (by kernel_rfl) ?_)
   refine bO fm rfl ?_;refine av (cB f.path ht.path _ _) ?_;rintro _ _ _ ⟨rfl,rfl,rfl⟩;refine av (cB f.loc ht.loc _ _) ?_;rintro _ _ _ ⟨rfl,rfl,rfl⟩;refine av (cB f.stack ht.stack _ _) ?_;rintro _ _ _ ⟨rfl,rfl,rfl⟩;refine av (m7 f.kids ht.kids _ _) ?_;rintro _ _ _ ⟨rfl,rfl,rfl⟩;refine dR rfl rfl ?_
   iterate 5 (refine aO (by kernel_rfl) ?_)
   refine ah (by simp;omega) ?_;refine aF (bdC b) (by simp [hlt,hb]) ?_
   iterate 2 (refine aO (by kernel_rfl) ?_)
   refine al (.inl ⟨rfl,?_⟩);exact Weak.eqs [(5,5),(6,8),(7,9),(8,10),(9,11)] (by kernel_rfl) (by kernel_rfl) (by kernel_rfl) (by kernel_rfl) (by kernel_rfl) (by kernel_rfl) (by kernel_rfl) (by kernel_rfl) (by kernel_rfl) (by kernel_rfl)
 refine bO IE rfl ?_
 iterate 6 (refine bO GX rfl ?_;refine dR rfl rfl ?_)
 refine dR rfl rfl ?_;refine dC (bJ c b f) (cO c b f o) dy (.at ⟨f,rows f.stack,f.stack.length,1,rows f.loc⟩ aK) ?_ ?_ ?_
 ·exact Weak.eqs [] (by kernel_rfl) (by kernel_rfl) (by kernel_rfl) (by kernel_rfl) (by kernel_rfl) (by kernel_rfl) (by kernel_rfl) (by kernel_rfl) (by kernel_rfl) (by kernel_rfl)
 ·have h1:=ht.loc;have h2:=ht.kids
  exact ⟨⟨abt (by simp [rows]),rfl,by simp [rows],rfl,by simp only [];omega,by simp only [];omega,by simp only [];omega,by simp only [];omega,by simp only [];omega,h1,h2⟩,⟨aby.2 hr4,aby.2 hr5⟩,.inl ⟨rfl,hrun0⟩⟩
 ·rintro (⟨x,a⟩|⟨x,a⟩)
  ·rintro ⟨hm,hv,⟨rfl,hrun⟩|⟨hk,hk4,hout⟩⟩
   ·refine rnd c b f o x hm hv hrun _ ?_ hbi hf1 hf2
    intro regs h nx e h4 h5 h6 ha ho';subst ho';refine al (.inr ⟨some (.iface 28 (I e)),52,[],[.ptr 1 0,.ptr 2 0,.ptr 3 0,.ptr 4 0],.inr ⟨_,rfl,rfl⟩,rfl,?_⟩);refine uw.mono ha ?_;rintro _ _ ⟨rfl,rfl⟩;refine ⟨[.agg (V.ce (bY f)).cells,.agg aM,.d (I e)],_,?_,rfl,rfl,rfl⟩;show resV _ [(.cell 4 true 10),(.cell 5 true 8),(.cell 6 false 1)]=_;simp only [resV,h4,h5,h6];rfl
   ·subst hout
    refine aS (by simpa using hk) ?_;refine bp ?_;refine br ⟨[(4,.ptr 2 0),(5,.ptr 3 0),(6,.ptr 4 0)],[(2,.var (frV x)),(3,.var (AZ a)),(4,.var [.d (I 0)]),(6,.mt 1 1 (rows x.f.path)),(7,.mt 1 1 x.ls),(8,.mt 1 x.ver x.xs),(9,.mt 2 1 (eC x.f.kids)),(1,.var (V.ce (bY f)).cells)],18,kA,0⟩ ?_ ?_
    ·iterate 2 (refine aO (by kernel_rfl) ?_)
     refine al (.inl ⟨rfl,?_⟩);exact Weak.eqs [] (by kernel_rfl) (by kernel_rfl) (by kernel_rfl) (by kernel_rfl) (by kernel_rfl) (by kernel_rfl) (by kernel_rfl) (by kernel_rfl) (by kernel_rfl) (by kernel_rfl)
    ·refine al (.inr ⟨none,52,[],[.ptr 1 0,.ptr 2 0,.ptr 3 0,.ptr 4 0],.inl ⟨.inr rfl,rfl⟩,rfl,?_⟩)
     refine uw.mono (calm _ _) ?_;rintro _ _ ⟨rfl,rfl⟩;refine ⟨_,_,rfl,rfl,?_,?_⟩
     ·simp [vD,V.cur,V.cur.go,frV,AZ,Pn,look]
     ·refine Ju (FR hm) ?_
      simp [Ss,Nw,hk4]
  ·rintro ⟨hm,hv,hk,hout⟩
   subst hout;refine aS (by simp [hk]) ?_;refine bp ?_;refine br ⟨[(4,.ptr 2 0),(5,.ptr 3 0),(6,.ptr 4 0)],[(2,.var (frV x)),(3,.var (Pn a (.ref 18 0 0 a.args.length))),(4,.var [.d (I 0)]),(6,.mt 1 1 (rows x.f.path)),(7,.mt 1 1 x.ls),(8,.mt 1 x.ver x.xs),(9,.mt 2 1 (eC x.f.kids)),(18,.mt 1 0 (rows a.args)),(1,.var (V.ce (bY f)).cells)],19,kA,0⟩ ?_ ?_
   ·iterate 2 (refine aO (by kernel_rfl) ?_)
    refine al (.inl ⟨rfl,?_⟩);exact Weak.eqs [] (by kernel_rfl) (by kernel_rfl) (by kernel_rfl) (by kernel_rfl) (by kernel_rfl) (by kernel_rfl) (by kernel_rfl) (by kernel_rfl) (by kernel_rfl) (by kernel_rfl)
   ·refine al (.inr ⟨none,52,[],[.ptr 1 0,.ptr 2 0,.ptr 3 0,.ptr 4 0],.inl ⟨.inr rfl,rfl⟩,rfl,?_⟩)
    refine uw.mono (calm _ _) ?_;rintro _ _ ⟨rfl,rfl⟩;refine ⟨_,_,rfl,rfl,?_,?_⟩
    ·simp [vD,V.cur,V.cur.go,frV,AZ,Pn,look]
    ·refine Ju (FR hm) ?_
     rw [abC,abt (by simp [rows])];simp [Ss,Nw,hk,ae,rows]
end Uw.Tryz.Vm
namespace Uw.Tryz.Vm
open Go Uw Uw.Tryz
def zF:Frame:=⟨0,[],0,0,[],[],[],0,0,false⟩
def Dx (c:Cd) (fn:Int):Bd:=c.aA.getD fn.toNat ⟨0,0,[]⟩
def m8 (c:Cd) (fn:Int) (args:List Int) (task:Int):Bool:=
 below fn c.aA.length&&!decide (task<1)&&args.all isVal&&decide ((Dx c fn).args=args.length)&&!decide ((Dx c fn).locals<(Dx c fn).args)
def gy (c:Cd) (fn:Int) (args:List Int) (task:Int) (path:List Int):Frame:=
 ⟨task,path,fn,0,args++List.replicate ((Dx c fn).locals.toNat - args.length) 0,[],[],0,0,false⟩
def dm (c:Cd) (fn:Int) (args:List Int) (task:Int) (path:List Int):Frame×Int:=
 if m8 c fn args task then (gy c fn args task path,0) else (zF,1)
def fM (p:Frame×Int):Dat:=.tuple [bY p.1,I p.2]
theorem FT {α:Type} (z:α):∀(l:List α) (n:Nat),l.length<=n->place (List.replicate n z) 0 l=l++List.replicate (n - l.length) z
 | [],n,_=>by cases n<;>simp [place]
 | x::l,0,h=>by simp at h
 | x::l,n+1,h=>by
  simp at h;rw [acB,place,FT z l n h];simp
theorem aau (f:Frame) (k m:Nat) (hk:k=f.path.length) (hm:m=f.loc.length):Dat.agg [I f.task,.slice 1 (((rows f.path).drop 0).take k) false,I f.fn,I f.pc,.slice 1 (((rows f.loc).drop 0).take m) false,.slice 1 (rows f.stack) false,.slice 2 (eC f.kids) false,I f.many,I f.spent,.bool f.fail]=bY f:=by
 subst hk hm;rw [abC,abt (by simp [rows]),abC,abt (by simp [rows])];rfl
theorem s12 (c:Cd) (fn:Int) (args:List Int) (task:Int) (path:List Int) (h1:c.aA.length<1000) (h2:∀b∈c.aA,b.locals<1000) (h3:args.length<1000) (h4:path.length<1000) :
  Ret P0 vM [cdD c,I fn,ae args,I task,ae path] (fM (dm c fn args task path)):=by
 have hz:DLe (.tuple [.agg [I 0,.nil,I 0,I 0,.nil,.nil,.nil,I 0,I 0,.bool false],I 1]) (fM (zF,1)):=
  .tuple (.cons (.agg (.cons (.refl _) (.cons (.nil _) (.cons (.refl _) (.cons (.refl _) (.cons (.nil _) (.cons (.nil _) (.cons (.nil _) (.refl _))))))))) (.refl _))
 cases b1:below fn c.aA.length with
 | false=>
  have e:dm c fn args task path=(zF,1):=by simp [dm,m8,b1]
  rw [e];refine Ret.res ?_ hz;refine au iW rfl ?_;refine aL _ (s25 _ _) ?_;refine aS (by simp [below] at b1;simp;omega) ?_;refine ah rfl ?_;refine aS rfl ?_;refine ah rfl ?_;refine ah rfl ?_;exact aj rfl rfl rfl rfl rfl
 | true=>
 have b1' : 0<=fn/\fn<c.aA.length:=by simpa [below] using b1
 have hlt:fn.toNat<c.aA.length:=by omega
 obtain ⟨b,hB⟩:∃b,Dx c fn=b:=⟨_,rfl⟩
 have hb:c.aA[fn.toNat]=b:=by rw [<- hB];simp [Dx,hlt]
 have hbl:b.locals<1000:=h2 b (by rw [<- hb];exact abD _);by_cases b2:task<1
 case pos=>
  have e:dm c fn args task path=(zF,1):=by simp [dm,m8,b2]
  rw [e];refine Ret.res ?_ hz;refine au iW rfl ?_;refine aL _ (s25 _ _) ?_;refine ah (by simp;omega) ?_;refine aS rfl ?_;refine aS (by simp [b2]) ?_;refine ah rfl ?_;refine ah rfl ?_;exact aj rfl rfl rfl rfl rfl
 cases b3:args.all isVal with
 | false=>
  have e:dm c fn args task path=(zF,1):=by simp only [dm,m8,b3];simp
  rw [e];refine Ret.res ?_ hz;refine au iW rfl ?_;refine aL _ (s25 _ _) ?_;refine ah (by simp;omega) ?_;refine aS rfl ?_;refine ah (by simp [b2]) ?_;refine aL _ (s26 _ (by omega)) ?_;refine aS rfl ?_;refine ah (by rw [b3];rfl) ?_;exact aj rfl rfl rfl rfl rfl
 | true=>
 by_cases b4:b.args=args.length
 case neg=>
  have e:dm c fn args task path=(zF,1):=by simp [dm,m8,hB,b4]
  rw [e];refine Ret.res ?_ hz;refine au iW rfl ?_;refine aL _ (s25 _ _) ?_;refine ah (by simp;omega) ?_;refine aS rfl ?_;refine ah (by simp [b2]) ?_;refine aL _ (s26 _ (by omega)) ?_;refine aS rfl ?_;refine aS (by rw [b3];rfl) ?_;refine ah (by simp;omega) ?_;refine aF (bdC b) (by simp [hlt,hb]) ?_;refine aS (by simp [b4]) ?_;refine ah rfl ?_;refine ah rfl ?_;exact aj rfl rfl rfl rfl rfl
 by_cases b5:b.locals<b.args
 case pos=>
  have e:dm c fn args task path=(zF,1):=by simp [dm,m8,hB,b5]
  rw [e];refine Ret.res ?_ hz;refine au iW rfl ?_;refine aL _ (s25 _ _) ?_;refine ah (by simp;omega) ?_;refine aS rfl ?_;refine ah (by simp [b2]) ?_;refine aL _ (s26 _ (by omega)) ?_;refine aS rfl ?_;refine aS (by rw [b3];rfl) ?_;refine ah (by simp;omega) ?_;refine aF (bdC b) (by simp [hlt,hb]) ?_;refine ah (by simp [b4]) ?_;refine aS rfl ?_;refine ah (by simpa using b5) ?_;exact aj rfl rfl rfl rfl rfl
 have e:dm c fn args task path=(gy c fn args task path,0):=by
  have h:m8 c fn args task=true:=by
   have e2:decide (task<1)=false:=by simp;omega
   have e4:decide (b.args=(args.length:Int))=true:=by simp [b4]
   have e5:decide (b.locals<b.args)=false:=by simp;omega
   rw [m8,hB,b1,b3,e2,e4,e5];rfl
  rw [dm,if_pos h]
 rw [e];have hrow:(setAt (List.replicate b.locals.toNat [I 0]) 0 ((rows args).take (min b.locals.toNat (rows args).length)))=rows (gy c fn args task path).loc:=by
  have hl:(rows args).length=args.length:=by simp [rows]
  rw [abt (by omega),<- ax,FT _ _ _ (by omega),hl];simp [gy,hB,rows]
 have hlen:(gy c fn args task path).loc.length=b.locals.toNat:=by
  simp [gy,hB];omega
 have hz2:DLe (.tuple [.agg [I task,.slice 1 (((rows path).drop 0).take path.length) false,I fn,I 0,.slice 1 (((rows (gy c fn args task path).loc).drop 0).take b.locals.toNat) false,.nil,.nil,I 0,I 0,.bool false],I 0]) (fM (gy c fn args task path,0)):=by
  rw [fM,<- aau (gy c fn args task path) path.length b.locals.toNat rfl hlen.symm];exact .tuple (.cons (.agg (.cons (.refl _) (.cons (.refl _) (.cons (.refl _) (.cons (.refl _) (.cons (.refl _) (.cons (.nil _) (.cons (.nil _) (.refl _))))))))) (.refl _))
 refine Ret.res ?_ hz2;refine au iW rfl ?_;refine aL _ (s25 _ _) ?_;refine ah (by simp;omega) ?_;refine aS rfl ?_;refine ah (by simp [b2]) ?_;refine aL _ (s26 _ (by omega)) ?_;refine aS rfl ?_;refine aS (by rw [b3];rfl) ?_;refine ah (by simp;omega) ?_;refine aF (bdC b) (by simp [hlt,hb]) ?_;refine ah (by simp [b4]) ?_;refine aS rfl ?_;refine aS (by simpa using b5) ?_;refine ah (by simp;omega) ?_;refine ah rfl ?_;refine av (cB path h4 _ _) ?_;rintro _ _ _ ⟨rfl,rfl,rfl⟩;refine aj rfl rfl rfl rfl ?_;rw [<- hrow];rfl
theorem s14 (f:Frame) (h1:f.path.length<1000):Ret P0 vP [bY f] (ae (f.path++[f.many])):=by
 refine au II rfl ?_;refine br ⟨[(2,.ref 1 2 0 (f.path.length+1))],[(1,.mt 1 2 ((rows f.path).take f.path.length++[[I f.many]]))],2,[],0⟩ ?_ ?_
 ·refine av (cB f.path h1 _ _) ?_
  rintro _ _ _ ⟨rfl,rfl,rfl⟩
  iterate 4 (refine aO (by kernel_rfl) ?_)
  refine ah rfl ?_;refine ah (by simp;omega) ?_
  iterate 3 (refine aO (by kernel_rfl) ?_)
  refine al (.inl ⟨rfl,?_⟩);exact Weak.eqs [] (by kernel_rfl) (by kernel_rfl) (by kernel_rfl) (by kernel_rfl) (by kernel_rfl) (by kernel_rfl) (by kernel_rfl) (by kernel_rfl) (by kernel_rfl) (by kernel_rfl)
 ·refine aj rfl rfl rfl rfl ?_
  show Dat.slice 1 ((((rows f.path).take f.path.length++[[I f.many]]).drop 0).take (f.path.length+1)) false=_;rw [abC,abt (by simp [rows]),abt (by simp [rows])];simp [rows,ae]
def jT (kind val:Int) (is:Bool):Int:=if is=false then 0 else if kind=1\/kind=5\/kind=7 then cn (val+1) else 1
def opD (k o a b:Int):Dat:=.agg [I k,I o,I a,I b]
theorem s18 (k o a b val:Int) (is:Bool):Ret P0 nF [opD k o a b,I val,.bool is] (I (jT k val is)):=by
 refine au IG rfl ?_
 cases is with
 | false=>
  refine ah rfl ?_;exact aj rfl rfl rfl rfl rfl
 | true=>
  refine aS rfl ?_;have fin:∀(h:k=1\/k=5\/k=7),I (cn (val+1))=I (jT k val true):=fun h=>by simp [jT,h]
  refine bF (fun h=>?_) (fun h=>?_)
  ·have h:k=1:=by simpa using h
   refine ah (by simp [h]) ?_;refine bF (fun h2=>?_) (fun h2=>?_)
   ·refine aL _ (s31 _) ?_
    exact aj rfl rfl rfl rfl (fin (.inl h))
   ·refine aL _ (s31 _) ?_
    refine aj rfl rfl rfl rfl ?_;rw [qF];exact fin (.inl h)
  ·have h:¬k=1:=by simpa using h
   refine bF (fun h'=>?_) (fun h'=>?_)
   ·have h' : k=5:=by simpa using h'
    refine ah (by simp [h']) ?_;refine bF (fun h2=>?_) (fun h2=>?_)
    ·refine aL _ (s31 _) ?_
     exact aj rfl rfl rfl rfl (fin (.inr (.inl h')))
    ·refine aL _ (s31 _) ?_
     refine aj rfl rfl rfl rfl ?_;rw [qF];exact fin (.inr (.inl h'))
   ·have h' : ¬k=5:=by simpa using h'
    refine bF (fun h''=>?_) (fun h''=>?_)
    ·have h'' : k=7:=by simpa using h''
     refine bF (fun h2=>?_) (fun h2=>?_)
     ·refine aL _ (s31 _) ?_
      exact aj rfl rfl rfl rfl (fin (.inr (.inr h'')))
     ·refine aL _ (s31 _) ?_
      refine aj rfl rfl rfl rfl ?_;rw [qF];exact fin (.inr (.inr h''))
    ·have h'' : ¬k=7:=by simpa using h''
     refine aj rfl rfl rfl rfl ?_;simp [fZ,jT,h,h',h'']
end Uw.Tryz.Vm
namespace Uw.Tryz.Vm
open Go Uw Uw.Tryz
def ze (k a b o1 o2 o3 o4:Int) (d:Dat):Dat:=.agg [I k,I a,I b,I o1,I o2,I o3,I o4,d]
def kg (loc:List Int) (l:List ((Int×Int)×Int)):List Int:=l.foldl (fun l p=>if 0<=p.1.2 then l.set p.1.2.toNat p.2 else l) loc
def iO (f:Frame) (k:Int×Int):Bool:=dest k.2 f.loc.length
def lO (f:Frame) (kind b:Int) (vals:List Int):Bool:=
 if kind=1\/kind=3 then decide (vals.length=1)&&vals.all isVal&&decide (f.stack.length<100)
 else if kind=2 then decide (vals.length=0)
 else if kind=4 then decide (vals.length=1)&&decide (1<=vals.head?.getD 0)&&dest b f.loc.length
 else if kind=5 then decide (vals.length=f.kids.length)&&vals.all isVal&&f.kids.all (iO f)
 else false
def ki (f:Frame) (kind b:Int) (vals:List Int):Frame:=
 if kind=1\/kind=3 then { f with stack:=f.stack++vals }
 else if kind=2 then f
 else if kind=4 then { f with kids:=f.kids++vals.map (fun v=>(v,b)),many:=f.many+1 }
 else { f with loc:=kg f.loc (f.kids.zip vals),kids:=[] }
def aV (f:Frame) (kind b:Int) (vals:List Int):Frame×Int:=if lO f kind b vals then (ki f kind b vals,0) else (f,1)
structure lB (f:Frame):Prop where
 path:f.path.length<1000
 loc:f.loc.length<1000
 stack:f.stack.length<1000
 kids:f.kids.length<1000
 qG : -1000000000<f.many
 many:f.many<1000000000
theorem Bq (f:Frame) (n m:Nat) (xs:List (List Dat)) (ks:List (List Dat)) (p q:Nat) (hp:p=f.path.length) (hq:q=f.loc.length) (hn:(xs.drop 0).take n=rows f.stack) (hm:(ks.drop 0).take m=eC f.kids):Dat.agg [I f.task,.slice 1 (((rows f.path).drop 0).take p) false,I f.fn,I f.pc,.slice 1 (((rows f.loc).drop 0).take q) false,.slice 1 ((xs.drop 0).take n) false,.slice 2 ((ks.drop 0).take m) false,I f.many,I f.spent,.bool f.fail]=bY f:=by
 subst hp hq;rw [hn,hm,abC,abt (by simp [rows]),abC,abt (by simp [rows])];rfl
theorem jd {l:List Int} {n:Nat} (h:n=l.length):((rows l).drop 0).take n=rows l:=by
 subst h;rw [abC,abt (by simp [rows])]
theorem wa {l:List (Int×Int)} {n:Nat} (h:n=l.length):((eC l).drop 0).take n=eC l:=by
 subst h;rw [abC,abt (by simp [eC])]
theorem SB (f:Frame) (a b o1 o2 o3 o4:Int) (d:Dat) (vals:List Int) (ht:lB f) (hv:vals.length<1000):Ret P0 dT [bY f,ze 1 a b o1 o2 o3 o4 d,ae vals] (fM (aV f 1 b vals)):=by
 have t1:=ht.path;have t2:=ht.loc;have t3:=ht.stack;have t4:=ht.kids;have t5:=ht.qG;have t6:=ht.many;obtain ⟨R,hR⟩:∃R,aV f 1 b vals=R:=⟨_,rfl⟩
 rw [hR];unfold aV lO ki at hR;simp at hR;refine au ku rfl ?_;refine bO fm rfl ?_;refine av (cB f.path ht.path _ _) ?_;rintro _ _ _ ⟨rfl,rfl,rfl⟩;refine av (cB f.loc ht.loc _ _) ?_;rintro _ _ _ ⟨rfl,rfl,rfl⟩;refine av (cB f.stack ht.stack _ _) ?_;rintro _ _ _ ⟨rfl,rfl,rfl⟩;refine av (m7 f.kids ht.kids _ _) ?_;rintro _ _ _ ⟨rfl,rfl,rfl⟩;refine dR rfl rfl ?_;refine ah rfl ?_;refine ah rfl ?_;by_cases h1:vals.length=1
 ·refine ah (by simp [h1]) ?_
  refine aL _ (s26 _ (by omega)) ?_;refine ah rfl ?_;by_cases h2:vals.all isVal=true
  ·refine ah (by rw [h2];rfl) ?_
   refine ah rfl ?_;refine ah rfl ?_;refine ah (by simp;omega) ?_;by_cases h3:f.stack.length<100
   ·refine aS (by simp;omega) ?_
    have e:R=({ f with stack:=f.stack++vals },0):=by rw [<- hR,if_pos ⟨⟨h1,by simpa using h2⟩,h3⟩]
    refine aj rfl rfl rfl rfl ?_;rw [e];refine congrArg (fun z=>Dat.tuple [z,I 0]) (Bq { f with stack:=f.stack++vals } _ _ _ _ _ _ rfl rfl ?_ (wa rfl));rw [abC,abt (by simp [rows]),abt (by simp [rows])];simp [rows]
   ·refine ah (by simp;omega) ?_
    have e:R=(f,1):=by rw [<- hR,if_neg (fun h=>h3 h.2)]
    exact aj rfl rfl rfl rfl (congrArg fM e.symm)
  ·refine aS (by simp at h2;simp [h2]) ?_
   refine aS rfl ?_;refine ah rfl ?_;refine ah (by simp;omega) ?_;refine ah rfl ?_;have e:R=(f,1):=by rw [<- hR,if_neg (fun h=>h2 (by simpa using h.1.2))]
   exact aj rfl rfl rfl rfl (congrArg fM e.symm)
 ·refine aS (by simp;omega) ?_
  refine aS rfl ?_;refine aS rfl ?_;refine aS rfl ?_;refine ah rfl ?_;refine ah (by simp;omega) ?_;refine ah rfl ?_;have e:R=(f,1):=by rw [<- hR,if_neg (fun h=>h1 h.1.1)]
  exact aj rfl rfl rfl rfl (congrArg fM e.symm)
theorem Zv (f:Frame) (a b o1 o2 o3 o4:Int) (d:Dat) (vals:List Int) (ht:lB f) (hv:vals.length<1000):Ret P0 dT [bY f,ze 3 a b o1 o2 o3 o4 d,ae vals] (fM (aV f 3 b vals)):=by
 have t1:=ht.path;have t2:=ht.loc;have t3:=ht.stack;have t4:=ht.kids;have t5:=ht.qG;have t6:=ht.many;obtain ⟨R,hR⟩:∃R,aV f 3 b vals=R:=⟨_,rfl⟩
 rw [hR];unfold aV lO ki at hR;simp at hR;refine au ku rfl ?_;refine bO fm rfl ?_;refine av (cB f.path ht.path _ _) ?_;rintro _ _ _ ⟨rfl,rfl,rfl⟩;refine av (cB f.loc ht.loc _ _) ?_;rintro _ _ _ ⟨rfl,rfl,rfl⟩;refine av (cB f.stack ht.stack _ _) ?_;rintro _ _ _ ⟨rfl,rfl,rfl⟩;refine av (m7 f.kids ht.kids _ _) ?_;rintro _ _ _ ⟨rfl,rfl,rfl⟩;refine dR rfl rfl ?_;refine aS rfl ?_;refine ah rfl ?_;by_cases h1:vals.length=1
 ·refine ah (by simp [h1]) ?_
  refine aL _ (s26 _ (by omega)) ?_;refine ah rfl ?_;by_cases h2:vals.all isVal=true
  ·refine ah (by rw [h2];rfl) ?_
   refine ah rfl ?_;refine ah rfl ?_;refine ah (by simp;omega) ?_;by_cases h3:f.stack.length<100
   ·refine aS (by simp;omega) ?_
    have e:R=({ f with stack:=f.stack++vals },0):=by rw [<- hR,if_pos ⟨⟨h1,by simpa using h2⟩,h3⟩]
    refine aj rfl rfl rfl rfl ?_;rw [e];refine congrArg (fun z=>Dat.tuple [z,I 0]) (Bq { f with stack:=f.stack++vals } _ _ _ _ _ _ rfl rfl ?_ (wa rfl));rw [abC,abt (by simp [rows]),abt (by simp [rows])];simp [rows]
   ·refine ah (by simp;omega) ?_
    have e:R=(f,1):=by rw [<- hR,if_neg (fun h=>h3 h.2)]
    exact aj rfl rfl rfl rfl (congrArg fM e.symm)
  ·refine aS (by simp at h2;simp [h2]) ?_
   refine aS rfl ?_;refine ah rfl ?_;refine ah (by simp;omega) ?_;refine ah rfl ?_;have e:R=(f,1):=by rw [<- hR,if_neg (fun h=>h2 (by simpa using h.1.2))]
   exact aj rfl rfl rfl rfl (congrArg fM e.symm)
 ·refine aS (by simp;omega) ?_
  refine aS rfl ?_;refine aS rfl ?_;refine aS rfl ?_;refine ah rfl ?_;refine ah (by simp;omega) ?_;refine ah rfl ?_;have e:R=(f,1):=by rw [<- hR,if_neg (fun h=>h1 h.1.1)]
  exact aj rfl rfl rfl rfl (congrArg fM e.symm)
theorem Zw (f:Frame) (a b o1 o2 o3 o4:Int) (d:Dat) (vals:List Int) (ht:lB f) (hv:vals.length<1000):Ret P0 dT [bY f,ze 2 a b o1 o2 o3 o4 d,ae vals] (fM (aV f 2 b vals)):=by
 have t1:=ht.path;have t2:=ht.loc;have t3:=ht.stack;have t4:=ht.kids;have t5:=ht.qG;have t6:=ht.many;obtain ⟨R,hR⟩:∃R,aV f 2 b vals=R:=⟨_,rfl⟩
 rw [hR];unfold aV lO ki at hR;simp at hR;refine au ku rfl ?_;refine bO fm rfl ?_;refine av (cB f.path ht.path _ _) ?_;rintro _ _ _ ⟨rfl,rfl,rfl⟩;refine av (cB f.loc ht.loc _ _) ?_;rintro _ _ _ ⟨rfl,rfl,rfl⟩;refine av (cB f.stack ht.stack _ _) ?_;rintro _ _ _ ⟨rfl,rfl,rfl⟩;refine av (m7 f.kids ht.kids _ _) ?_;rintro _ _ _ ⟨rfl,rfl,rfl⟩;refine dR rfl rfl ?_;refine aS rfl ?_;refine aS rfl ?_;refine ah rfl ?_;by_cases h1:vals=[]
 ·refine aS (by simp [h1]) ?_
  have e:R=(f,0):=by rw [<- hR,if_pos h1]
  refine aj rfl rfl rfl rfl ?_;rw [e];exact congrArg (fun z=>Dat.tuple [z,I 0]) (Bq f _ _ _ _ _ _ rfl rfl (jd rfl) (wa rfl))
 ·refine ah (by simp [h1]) ?_
  have e:R=(f,1):=by rw [<- hR,if_neg h1]
  exact aj rfl rfl rfl rfl (congrArg fM e.symm)
theorem Zx (f:Frame) (k a b o1 o2 o3 o4:Int) (d:Dat) (vals:List Int) (ht:lB f) (hv:vals.length<1000) (hk:k≠1/\k≠2/\k≠3/\k≠4/\k≠5):Ret P0 dT [bY f,ze k a b o1 o2 o3 o4 d,ae vals] (fM (aV f k b vals)):=by
 have t1:=ht.path;have t2:=ht.loc;have t3:=ht.stack;have t4:=ht.kids;have t5:=ht.qG;have t6:=ht.many;obtain ⟨R,hR⟩:∃R,aV f k b vals=R:=⟨_,rfl⟩
 rw [hR];unfold aV lO ki at hR;obtain ⟨k1,k2,k3,k4,k5⟩:=hk;simp [k1,k2,k3,k4,k5] at hR;refine au ku rfl ?_;refine bO fm rfl ?_;refine av (cB f.path ht.path _ _) ?_;rintro _ _ _ ⟨rfl,rfl,rfl⟩;refine av (cB f.loc ht.loc _ _) ?_;rintro _ _ _ ⟨rfl,rfl,rfl⟩;refine av (cB f.stack ht.stack _ _) ?_;rintro _ _ _ ⟨rfl,rfl,rfl⟩;refine av (m7 f.kids ht.kids _ _) ?_;rintro _ _ _ ⟨rfl,rfl,rfl⟩;refine dR rfl rfl ?_;refine aS (by simp [k1]) ?_;refine aS (by simp [k3]) ?_;refine aS (by simp [k2]) ?_;refine aS (by simp [k4]) ?_;refine aS (by simp [k5]) ?_;refine ah rfl ?_;have e:R=(f,1):=hR.symm;exact aj rfl rfl rfl rfl (congrArg fM e.symm)
theorem kK (vals:List Int) (b:Int) (k:Nat) (h:k<vals.length):(vals.take (k+1)).map (fun v=>(v,b))=(vals.take k).map (fun v=>(v,b))++[(vals[k],b)]:=by
 rw [abN h,acN];rfl
theorem Zy (f:Frame) (a b o1 o2 o3 o4:Int) (d:Dat) (vals:List Int) (ht:lB f) (hv:vals.length<1000):Ret P0 dT [bY f,ze 4 a b o1 o2 o3 o4 d,ae vals] (fM (aV f 4 b vals)):=by
 have t1:=ht.path;have t2:=ht.loc;have t3:=ht.stack;have t4:=ht.kids;have t5:=ht.qG;have t6:=ht.many;obtain ⟨R,hR⟩:∃R,aV f 4 b vals=R:=⟨_,rfl⟩
 rw [hR];unfold aV lO ki at hR;simp at hR;refine au ku rfl ?_;refine bO fm rfl ?_;refine av (cB f.path ht.path _ _) ?_;rintro _ _ _ ⟨rfl,rfl,rfl⟩;refine av (cB f.loc ht.loc _ _) ?_;rintro _ _ _ ⟨rfl,rfl,rfl⟩;refine av (cB f.stack ht.stack _ _) ?_;rintro _ _ _ ⟨rfl,rfl,rfl⟩;refine av (m7 f.kids ht.kids _ _) ?_;rintro _ _ _ ⟨rfl,rfl,rfl⟩;refine dR rfl rfl ?_;refine aS rfl ?_;refine aS rfl ?_;refine aS rfl ?_;refine ah rfl ?_;by_cases h1:vals.length=1
 ·have h0:0<vals.length:=by omega
  have hh:vals.head?.getD 0=vals[0]:=by cases vals<;>simp at h0 ⊢
  refine ah (by simp [h1]) ?_;refine ah (by simp [h1]) ?_;refine aF [I vals[0]] (by simp [h0]) ?_;refine ah rfl ?_;by_cases h2:1<=vals.head?.getD 0
  ·refine ah (by rw [hh] at h2;simpa using h2) ?_
   refine aL _ (s37 _ _) ?_;refine ah rfl ?_;by_cases h3:dest b f.loc.length=true
   ·skip
    refine dC (fun x:Int×List (List Dat)×Nat×Nat=>⟨[(2,.d (ae vals)),(3,.ptr 0 0),(4,.ptr 1 0),(6,.ptr 2 0),(8,.ptr 9 0),(9,.d (.bool (dest b (f.loc.map fun n=>[Dat.int .i64 n]).length))),(63,.d (ae vals)),(64,.d (.int .i64 (vals.map fun n=>[Dat.int .i64 n]).length)),(65,.d (I x.1))],
     [(9,.var [.d (I f.task),.ref 5 1 0 f.path.length,.d (I f.fn),.d (I f.pc),.ref 6 1 0 f.loc.length,.ref 7 1 0 f.stack.length,.ref 8 x.2.2.2 0 x.2.2.1,.d (I f.many),.d (I f.spent),.d (.bool f.fail)]),(8,.mt 2 x.2.2.2 x.2.1),(5,.mt 1 1 (rows f.path)),(6,.mt 1 1 (rows f.loc)),(7,.mt 1 1 (rows f.stack)),(0,.var (V.ce (bY f)).cells),(1,.var (V.ce (ze 4 a b o1 o2 o3 o4 d)).cells),(2,.var tV)],10,[],0⟩)
     (fun x=>0<=x.1/\x.1<=vals.length/\x.2.2.1=f.kids.length+x.1.toNat/\x.2.1=eC (f.kids++(vals.take x.1.toNat).map (fun v=>(v,b)))) (fun x=>(vals.length - x.1).toNat) (0,eC f.kids,f.kids.length,1) ?_ ⟨by simp,by simp,by simp,by simp⟩ ?_
    ·exact Weak.eqs [] (by kernel_rfl) (by kernel_rfl) (by kernel_rfl) (by kernel_rfl) (by kernel_rfl) (by kernel_rfl) (by kernel_rfl) (by kernel_rfl) (by kernel_rfl) (by kernel_rfl)
    ·rintro ⟨k,xs,n,ver⟩ ⟨g0,g1,hn,hx⟩
     simp only at g0 g1 hn hx;have hxl:xs.length=n:=by rw [hx,hn];simp [eC];omega
     by_cases hk:k<vals.length
     ·have k1:k.toNat<vals.length:=by omega
      refine ah (by simp;omega) ?_;refine ah (by simp;omega) ?_;refine aF [I vals[k.toNat]] (by simp) ?_;refine cC ?_;refine ah (by simp;omega) ?_;refine ah (by simp [inR];omega) ?_;refine aR (k+1,xs.take n++[[I vals[k.toNat],I b]],n+1,ver+1) ⟨by simp only [];omega,by simp only [];omega,by simp only [];omega,?_⟩ (by simp only [];omega) (Weak.eqs [] (by kernel_rfl) (by kernel_rfl) (by kernel_rfl) (by kernel_rfl) (by kernel_rfl) (by kernel_rfl) (by kernel_rfl) (by kernel_rfl) (by kernel_rfl) (by kernel_rfl));simp only [];rw [show (k+1).toNat=k.toNat+1 by omega,kK vals b k.toNat k1,abt (by omega),hx];simp [eC,fQ]
     ·refine aS (by simp;omega) ?_
      refine bp ?_;refine ah (by simp [inR];omega) ?_;refine aS (by simp [h3]) ?_;have e:R=({ f with kids:=f.kids++vals.map (fun v=>(v,b)),many:=f.many+1 },0):=by rw [<- hR,if_pos ⟨⟨h1,h2⟩,h3⟩]
      refine aj rfl rfl rfl ?_ ?_
      ·simp [vD,V.cur,V.cur.go,look,put]
      rw [e];refine congrArg (fun z=>Dat.tuple [z,I 0]) (Bq { f with kids:=f.kids++vals.map (fun v=>(v,b)),many:=f.many+1 } _ _ _ _ _ _ rfl rfl (jd rfl) ?_);rw [abC,abt (by simp only [];omega),hx,abt (by omega)]
   ·skip
    refine dC (fun x:Int×List (List Dat)×Nat×Nat=>⟨[(2,.d (ae vals)),(3,.ptr 0 0),(4,.ptr 1 0),(6,.ptr 2 0),(8,.ptr 9 0),(9,.d (.bool (dest b (f.loc.map fun n=>[Dat.int .i64 n]).length))),(63,.d (ae vals)),(64,.d (.int .i64 (vals.map fun n=>[Dat.int .i64 n]).length)),(65,.d (I x.1))],
     [(9,.var [.d (I f.task),.ref 5 1 0 f.path.length,.d (I f.fn),.d (I f.pc),.ref 6 1 0 f.loc.length,.ref 7 1 0 f.stack.length,.ref 8 x.2.2.2 0 x.2.2.1,.d (I f.many),.d (I f.spent),.d (.bool f.fail)]),(8,.mt 2 x.2.2.2 x.2.1),(5,.mt 1 1 (rows f.path)),(6,.mt 1 1 (rows f.loc)),(7,.mt 1 1 (rows f.stack)),(0,.var (V.ce (bY f)).cells),(1,.var (V.ce (ze 4 a b o1 o2 o3 o4 d)).cells),(2,.var tV)],10,[],0⟩)
     (fun x=>0<=x.1/\x.1<=vals.length/\x.2.2.1=f.kids.length+x.1.toNat/\x.2.1=eC (f.kids++(vals.take x.1.toNat).map (fun v=>(v,b)))) (fun x=>(vals.length - x.1).toNat) (0,eC f.kids,f.kids.length,1) ?_ ⟨by simp,by simp,by simp,by simp⟩ ?_
    ·exact Weak.eqs [] (by kernel_rfl) (by kernel_rfl) (by kernel_rfl) (by kernel_rfl) (by kernel_rfl) (by kernel_rfl) (by kernel_rfl) (by kernel_rfl) (by kernel_rfl) (by kernel_rfl)
    ·rintro ⟨k,xs,n,ver⟩ ⟨g0,g1,hn,hx⟩
     simp only at g0 g1 hn hx;have hxl:xs.length=n:=by rw [hx,hn];simp [eC];omega
     by_cases hk:k<vals.length
     ·have k1:k.toNat<vals.length:=by omega
      refine ah (by simp;omega) ?_;refine ah (by simp;omega) ?_;refine aF [I vals[k.toNat]] (by simp) ?_;refine cC ?_;refine ah (by simp;omega) ?_;refine ah (by simp [inR];omega) ?_;refine aR (k+1,xs.take n++[[I vals[k.toNat],I b]],n+1,ver+1) ⟨by simp only [];omega,by simp only [];omega,by simp only [];omega,?_⟩ (by simp only [];omega) (Weak.eqs [] (by kernel_rfl) (by kernel_rfl) (by kernel_rfl) (by kernel_rfl) (by kernel_rfl) (by kernel_rfl) (by kernel_rfl) (by kernel_rfl) (by kernel_rfl) (by kernel_rfl));simp only [];rw [show (k+1).toNat=k.toNat+1 by omega,kK vals b k.toNat k1,abt (by omega),hx];simp [eC,fQ]
     ·refine aS (by simp;omega) ?_
      refine bp ?_;refine ah (by simp [inR];omega) ?_;refine ah (by simp [h3]) ?_;have e:R=(f,1):=by rw [<- hR,if_neg (fun h=>h3 h.2)]
      exact aj rfl rfl rfl rfl (congrArg fM e.symm)
  ·refine aS (by rw [hh] at h2;simp;omega) ?_
   refine aS rfl ?_;refine dC (fun x:Int×List (List Dat)×Nat×Nat=>⟨[(2,.d (ae vals)),(3,.ptr 0 0),(4,.ptr 1 0),(6,.ptr 2 0),(8,.ptr 9 0),(9,.d (.bool (false))),(63,.d (ae vals)),(64,.d (.int .i64 (vals.map fun n=>[Dat.int .i64 n]).length)),(65,.d (I x.1))],
    [(9,.var [.d (I f.task),.ref 5 1 0 f.path.length,.d (I f.fn),.d (I f.pc),.ref 6 1 0 f.loc.length,.ref 7 1 0 f.stack.length,.ref 8 x.2.2.2 0 x.2.2.1,.d (I f.many),.d (I f.spent),.d (.bool f.fail)]),(8,.mt 2 x.2.2.2 x.2.1),(5,.mt 1 1 (rows f.path)),(6,.mt 1 1 (rows f.loc)),(7,.mt 1 1 (rows f.stack)),(0,.var (V.ce (bY f)).cells),(1,.var (V.ce (ze 4 a b o1 o2 o3 o4 d)).cells),(2,.var tV)],10,[],0⟩)
    (fun x=>0<=x.1/\x.1<=vals.length/\x.2.2.1=f.kids.length+x.1.toNat/\x.2.1=eC (f.kids++(vals.take x.1.toNat).map (fun v=>(v,b)))) (fun x=>(vals.length - x.1).toNat) (0,eC f.kids,f.kids.length,1) ?_ ⟨by simp,by simp,by simp,by simp⟩ ?_
   ·exact Weak.eqs [] (by kernel_rfl) (by kernel_rfl) (by kernel_rfl) (by kernel_rfl) (by kernel_rfl) (by kernel_rfl) (by kernel_rfl) (by kernel_rfl) (by kernel_rfl) (by kernel_rfl)
   ·rintro ⟨k,xs,n,ver⟩ ⟨g0,g1,hn,hx⟩
    simp only at g0 g1 hn hx;have hxl:xs.length=n:=by rw [hx,hn];simp [eC];omega
    by_cases hk:k<vals.length
    ·have k1:k.toNat<vals.length:=by omega
     refine ah (by simp;omega) ?_;refine ah (by simp;omega) ?_;refine aF [I vals[k.toNat]] (by simp) ?_;refine cC ?_;refine ah (by simp;omega) ?_;refine ah (by simp [inR];omega) ?_;refine aR (k+1,xs.take n++[[I vals[k.toNat],I b]],n+1,ver+1) ⟨by simp only [];omega,by simp only [];omega,by simp only [];omega,?_⟩ (by simp only [];omega) (Weak.eqs [] (by kernel_rfl) (by kernel_rfl) (by kernel_rfl) (by kernel_rfl) (by kernel_rfl) (by kernel_rfl) (by kernel_rfl) (by kernel_rfl) (by kernel_rfl) (by kernel_rfl));simp only [];rw [show (k+1).toNat=k.toNat+1 by omega,kK vals b k.toNat k1,abt (by omega),hx];simp [eC,fQ]
    ·refine aS (by simp;omega) ?_
     refine bp ?_;refine ah (by simp [inR];omega) ?_;refine ah (by simp) ?_;have e:R=(f,1):=by rw [<- hR,if_neg (fun h=>h2 h.1.2)]
     exact aj rfl rfl rfl rfl (congrArg fM e.symm)
 ·refine aS (by simp;omega) ?_
  refine aS rfl ?_;refine aS rfl ?_;refine aS rfl ?_;refine dC (fun x:Int×List (List Dat)×Nat×Nat=>⟨[(2,.d (ae vals)),(3,.ptr 0 0),(4,.ptr 1 0),(6,.ptr 2 0),(8,.ptr 9 0),(9,.d (.bool (false))),(63,.d (ae vals)),(64,.d (.int .i64 (vals.map fun n=>[Dat.int .i64 n]).length)),(65,.d (I x.1))],
   [(9,.var [.d (I f.task),.ref 5 1 0 f.path.length,.d (I f.fn),.d (I f.pc),.ref 6 1 0 f.loc.length,.ref 7 1 0 f.stack.length,.ref 8 x.2.2.2 0 x.2.2.1,.d (I f.many),.d (I f.spent),.d (.bool f.fail)]),(8,.mt 2 x.2.2.2 x.2.1),(5,.mt 1 1 (rows f.path)),(6,.mt 1 1 (rows f.loc)),(7,.mt 1 1 (rows f.stack)),(0,.var (V.ce (bY f)).cells),(1,.var (V.ce (ze 4 a b o1 o2 o3 o4 d)).cells),(2,.var tV)],10,[],0⟩)
   (fun x=>0<=x.1/\x.1<=vals.length/\x.2.2.1=f.kids.length+x.1.toNat/\x.2.1=eC (f.kids++(vals.take x.1.toNat).map (fun v=>(v,b)))) (fun x=>(vals.length - x.1).toNat) (0,eC f.kids,f.kids.length,1) ?_ ⟨by simp,by simp,by simp,by simp⟩ ?_
  ·exact Weak.eqs [] (by kernel_rfl) (by kernel_rfl) (by kernel_rfl) (by kernel_rfl) (by kernel_rfl) (by kernel_rfl) (by kernel_rfl) (by kernel_rfl) (by kernel_rfl) (by kernel_rfl)
  ·rintro ⟨k,xs,n,ver⟩ ⟨g0,g1,hn,hx⟩
   simp only at g0 g1 hn hx;have hxl:xs.length=n:=by rw [hx,hn];simp [eC];omega
   by_cases hk:k<vals.length
   ·have k1:k.toNat<vals.length:=by omega
    refine ah (by simp;omega) ?_;refine ah (by simp;omega) ?_;refine aF [I vals[k.toNat]] (by simp) ?_;refine cC ?_;refine ah (by simp;omega) ?_;refine ah (by simp [inR];omega) ?_;refine aR (k+1,xs.take n++[[I vals[k.toNat],I b]],n+1,ver+1) ⟨by simp only [];omega,by simp only [];omega,by simp only [];omega,?_⟩ (by simp only [];omega) (Weak.eqs [] (by kernel_rfl) (by kernel_rfl) (by kernel_rfl) (by kernel_rfl) (by kernel_rfl) (by kernel_rfl) (by kernel_rfl) (by kernel_rfl) (by kernel_rfl) (by kernel_rfl));simp only [];rw [show (k+1).toNat=k.toNat+1 by omega,kK vals b k.toNat k1,abt (by omega),hx];simp [eC,fQ]
   ·refine aS (by simp;omega) ?_
    refine bp ?_;refine ah (by simp [inR];omega) ?_;refine ah (by simp) ?_;have e:R=(f,1):=by rw [<- hR,if_neg (fun h=>h1 h.1.1)]
    exact aj rfl rfl rfl rfl (congrArg fM e.symm)
theorem FU (loc:List Int) (l:List ((Int×Int)×Int)) (k:Nat) (h:k<l.length):kg loc (l.take (k+1))=(if 0<=l[k].1.2 then (kg loc (l.take k)).set l[k].1.2.toNat l[k].2 else kg loc (l.take k)):=by
 rw [abN h,kg,List.foldl_append];rfl
theorem tX (loc:List Int):∀(l:List ((Int×Int)×Int)),(kg loc l).length=loc.length:=by
 intro l
 induction l generalizing loc with
 | nil=>rfl
 | cons p l ih=>
  show (kg (if 0<=p.1.2 then loc.set p.1.2.toNat p.2 else loc) l).length=_;rw [ih];split<;>simp
theorem Jv (l:List Int) (k:Nat) (v:Int):(rows l).set k [I v]=rows (l.set k v):=by simp [rows,ab1]
theorem told5 (f:Frame) (a b o1 o2 o3 o4:Int) (d:Dat) (vals:List Int) (ht:lB f) (hv:vals.length<1000):Ret P0 dT [bY f,ze 5 a b o1 o2 o3 o4 d,ae vals] (fM (aV f 5 b vals)):=by
 have t1:=ht.path;have t2:=ht.loc;have t3:=ht.stack;have t4:=ht.kids;have t5:=ht.qG;have t6:=ht.many;obtain ⟨R,hR⟩:∃R,aV f 5 b vals=R:=⟨_,rfl⟩
 rw [hR];unfold aV lO ki at hR;simp at hR;obtain ⟨R0,hR0⟩:∃R0,(decide (vals.length=f.kids.length)&&vals.all isVal)=R0:=⟨_,rfl⟩
 have hbad:∀R1:Bool,R1=(R0&&f.kids.all (iO f))->R1=false->R=(f,1):=by
  intro R1 h1 h2;rw [<- hR,if_neg];intro h;rw [hR0] at h;rw [h2,h] at h1;cases h1
 have hgood:R0=true->f.kids.all (iO f)=true->R=({ f with loc:=kg f.loc (f.kids.zip vals),kids:=[] },0)/\vals.length=f.kids.length:=by
  intro h1 h2;rw [<- hR0] at h1;have h1' : vals.length=f.kids.length/\∀x∈vals,isVal x=true:=by rw [abq,decide_eq_true_eq,aby] at h1;exact h1
  exact ⟨by rw [<- hR,if_pos (by rw [hR0,<- hR0,h1,h2];rfl)],h1'.1⟩
 have hlen0:R0=true->vals.length=f.kids.length:=by
  intro h1;rw [<- hR0,abq,decide_eq_true_eq] at h1;exact h1.1
 obtain ⟨D,hD⟩:∃D,D=(if (R0&&f.kids.all (iO f))=true then Dat.tuple [.agg [I f.task,.slice 1 (rows f.path) false,I f.fn,I f.pc,.slice 1 (rows (kg f.loc (f.kids.zip vals))) false,.slice 1 (rows f.stack) false,.nil,I f.many,I f.spent,.bool f.fail],I 0] else fM (f,1)):=⟨_,rfl⟩
 have hle:DLe D (fM R):=by
  by_cases hc:(R0&&f.kids.all (iO f))=true
  ·have hc':=hc;rw [abq] at hc'
   rw [hD,if_pos hc,(hgood hc'.1 hc'.2).1];exact .tuple (.cons (.agg (.cons (.refl _) (.cons (.refl _) (.cons (.refl _) (.cons (.refl _) (.cons (.refl _) (.cons (.refl _) (.cons (.nil _) (.refl _))))))))) (.refl _))
  ·rw [hD,if_neg hc,hbad _ rfl (by simpa using hc)];exact .refl _
 refine Ret.res (r:=D) ?_ hle;refine au ku rfl ?_;refine bO fm rfl ?_;refine av (cB f.path ht.path _ _) ?_;rintro _ _ _ ⟨rfl,rfl,rfl⟩;refine av (cB f.loc ht.loc _ _) ?_;rintro _ _ _ ⟨rfl,rfl,rfl⟩;refine av (cB f.stack ht.stack _ _) ?_;rintro _ _ _ ⟨rfl,rfl,rfl⟩;refine av (m7 f.kids ht.kids _ _) ?_;rintro _ _ _ ⟨rfl,rfl,rfl⟩;refine dR rfl rfl ?_;refine aS rfl ?_;refine aS rfl ?_;refine aS rfl ?_;refine aS rfl ?_;refine ah rfl ?_;by_cases h1:vals.length=f.kids.length
 ·refine ah (by simp [h1]) ?_
  refine aL _ (s26 _ (by omega)) ?_;refine ah rfl ?_;refine dC (fun x:Int×Bool×List (List Dat)=>⟨[(2,.d (ae vals)),(3,.ptr 0 0),(4,.ptr 1 0),(6,.ptr 2 0),(8,.ptr 9 0),(9,.d (.bool x.2.1)),(97,.d (.slice 2 (f.kids.map fQ) false)),(98,.d (.int .i64 (f.kids.map fQ).length)),(99,.d (I x.1))],
   [(9,.var [.d (I f.task),.ref 5 1 0 f.path.length,.d (I f.fn),.d (I f.pc),.ref 6 1 0 f.loc.length,.ref 7 1 0 f.stack.length,.d .nil,.d (I f.many),.d (I f.spent),.d (.bool f.fail)]),(5,.mt 1 1 (rows f.path)),(6,.mt 1 1 x.2.2),(7,.mt 1 1 (rows f.stack)),(0,.var (V.ce (bY f)).cells),(1,.var (V.ce (ze 5 a b o1 o2 o3 o4 d)).cells),(2,.var tV)],10,[],0⟩)
   (fun x=>0<=x.1/\x.1<=f.kids.length/\x.2.2.length=f.loc.length/\x.2.1=(R0&&(f.kids.take x.1.toNat).all (iO f))/\(x.2.1=true->x.2.2=rows (kg f.loc ((f.kids.zip vals).take x.1.toNat)))) (fun x=>(f.kids.length - x.1).toNat) (0,vals.all isVal,rows f.loc) ?_ ⟨by simp,by simp,by simp [rows],by rw [<- hR0,decide_eq_true h1];simp,fun _=>by simp [kg]⟩ ?_
  ·exact Weak.eqs [] (by kernel_rfl) (by kernel_rfl) (by kernel_rfl) (by kernel_rfl) (by kernel_rfl) (by kernel_rfl) (by kernel_rfl) (by kernel_rfl) (by kernel_rfl) (by kernel_rfl)
  ·rintro ⟨k,rt,ls⟩ ⟨g0,g1,g2,g3,g4⟩
   simp only at g0 g1 g2 g3 g4;by_cases hk:k<f.kids.length
   ·have k1:k.toNat<f.kids.length:=by omega
    have hall:∀r:Bool,r=(rt&&iO f f.kids[k.toNat])->r=(R0&&(f.kids.take (k+1).toNat).all (iO f)):=by
     intro r hr;rw [hr,g3,show (k+1).toNat=k.toNat+1 by omega,yn _ _ _ k1,Bool.and_assoc]
    cases rt with
    | false=>
     refine ah (by simp;omega) ?_;refine ah (by simp;omega) ?_;refine aF (fQ f.kids[k.toNat]) (by rw [abT,abv k1];rfl) ?_;refine aS rfl ?_;refine aS rfl ?_;refine aS rfl ?_;refine aS rfl ?_;refine aS rfl ?_;refine ah (by simp [inR];omega) ?_;exact aR (k+1,false,ls) ⟨by simp only [];omega,by simp only [];omega,g2,hall _ (by simp),by simp⟩ (by simp only [];omega) (Weak.eqs [] (by kernel_rfl) (by kernel_rfl) (by kernel_rfl) (by kernel_rfl) (by kernel_rfl) (by kernel_rfl) (by kernel_rfl) (by kernel_rfl) (by kernel_rfl) (by kernel_rfl))
    | true=>
     have hr0:R0=true:=by have g3':=g3.symm;rw [abq] at g3';exact g3'.1
     have hvl:=hlen0 hr0;have k2:k.toNat<vals.length:=by omega
     have kz:k.toNat<(f.kids.zip vals).length:=by simp;omega
     have ez:(f.kids.zip vals)[k.toNat]=(f.kids[k.toNat],vals[k.toNat]):=by simp
     have hls:=g4 rfl;have hsucc:=FU f.loc (f.kids.zip vals) k.toNat kz;rw [ez] at hsucc;have ek:(k+1).toNat=k.toNat+1:=by omega
     rw [<- ek] at hsucc;refine ah (by simp;omega) ?_;refine ah (by simp;omega) ?_;refine aF (fQ f.kids[k.toNat]) (by rw [abT,abv k1];rfl) ?_;refine ah rfl ?_;refine aL _ (s37 _ _) ?_;refine ah rfl ?_;by_cases hd:dest f.kids[k.toNat].2 f.loc.length=true
     ·refine ah (by simpa using hd) ?_
      refine ah rfl ?_;have Jw:=hall (dest f.kids[k.toNat].2 (f.loc.map fun n=>[Dat.int .i64 n]).length) (by simp [iO]);by_cases hp:0<=f.kids[k.toNat].2
      ·have hd2:f.kids[k.toNat].2<f.loc.length:=by simp [dest,below] at hd;omega
       have hd3:f.kids[k.toNat].2.toNat<ls.length:=by omega
       refine ah (by simpa using hp) ?_;refine ah (by simp;omega) ?_;refine aF [I vals[k.toNat]] (by simp) ?_;refine ah rfl ?_;refine ah (by simp;omega) ?_;refine ah rfl ?_;refine aF [I ((kg f.loc ((f.kids.zip vals).take k.toNat)).getD f.kids[k.toNat].2.toNat 0)] (by rw [hls];exact za (by rw [tX];omega) (by simp)) ?_;refine ah (by simp [inR];omega) ?_;refine aR (k+1,dest f.kids[k.toNat].2 (f.loc.map fun n=>[Dat.int .i64 n]).length,ls.set (0+f.kids[k.toNat].2.toNat) [I vals[k.toNat]]) ⟨by simp only [];omega,by simp only [];omega,by simp [g2],Jw,fun _=>?_⟩ (by simp only [];omega) (Weak.eqs [] (by kernel_rfl) (by kernel_rfl) (by kernel_rfl) (by kernel_rfl) (by kernel_rfl) (by kernel_rfl) (by kernel_rfl) (by kernel_rfl) (by kernel_rfl) (by kernel_rfl));simp only [];rw [hsucc,if_pos hp,hls,abJ,Jv]
      ·refine aS (by simpa using hp) ?_
       refine ah (by simp [inR];omega) ?_;refine aR (k+1,dest f.kids[k.toNat].2 (f.loc.map fun n=>[Dat.int .i64 n]).length,ls) ⟨by simp only [];omega,by simp only [];omega,g2,Jw,fun _=>?_⟩ (by simp only [];omega) (Weak.eqs [] (by kernel_rfl) (by kernel_rfl) (by kernel_rfl) (by kernel_rfl) (by kernel_rfl) (by kernel_rfl) (by kernel_rfl) (by kernel_rfl) (by kernel_rfl) (by kernel_rfl));simp only [];rw [hsucc,if_neg hp,hls]
     ·have hd' : dest f.kids[k.toNat].2 f.loc.length=false:=by simpa using hd
      refine aS (by simpa using hd') ?_;refine aS rfl ?_;refine aS rfl ?_;refine ah (by simp [inR];omega) ?_;exact aR (k+1,dest f.kids[k.toNat].2 (f.loc.map fun n=>[Dat.int .i64 n]).length,ls) ⟨by simp only [];omega,by simp only [];omega,g2,hall _ (by simp [iO]),fun h=>by simp [hd'] at h⟩ (by simp only [];omega) (Weak.eqs [] (by kernel_rfl) (by kernel_rfl) (by kernel_rfl) (by kernel_rfl) (by kernel_rfl) (by kernel_rfl) (by kernel_rfl) (by kernel_rfl) (by kernel_rfl) (by kernel_rfl))
   ·have hke:f.kids.take k.toNat=f.kids:=abt (by omega)
    rw [hke] at g3
    cases rt with
    | false=>
     refine aS (by simp;omega) ?_;refine bp ?_;refine ah rfl ?_;exact aj rfl rfl rfl rfl (by rw [hD,if_neg (by rw [<- g3];simp)];rfl)
    | true=>
     have g3':=g3.symm;rw [abq] at g3';obtain ⟨e,hvl⟩:=hgood g3'.1 g3'.2;have hls:=g4 rfl;rw [abt (by simp;omega)] at hls;refine aS (by simp;omega) ?_;refine bp ?_;refine aS rfl ?_;refine aj rfl rfl rfl rfl ?_;rw [hD,if_pos g3.symm];show Dat.tuple [.agg [_,.slice 1 (((rows f.path).drop 0).take f.path.length) false,_,_,.slice 1 ((ls.drop 0).take f.loc.length) false,.slice 1 (((rows f.stack).drop 0).take f.stack.length) false,_,_,_,_],_]=_;rw [jd rfl,jd rfl,hls,jd (by rw [tX])]
 ·refine aS (by simp;omega) ?_
  refine aS rfl ?_;refine dC (fun x:Int×Bool×List (List Dat)=>⟨[(2,.d (ae vals)),(3,.ptr 0 0),(4,.ptr 1 0),(6,.ptr 2 0),(8,.ptr 9 0),(9,.d (.bool x.2.1)),(97,.d (.slice 2 (f.kids.map fQ) false)),(98,.d (.int .i64 (f.kids.map fQ).length)),(99,.d (I x.1))],
   [(9,.var [.d (I f.task),.ref 5 1 0 f.path.length,.d (I f.fn),.d (I f.pc),.ref 6 1 0 f.loc.length,.ref 7 1 0 f.stack.length,.d .nil,.d (I f.many),.d (I f.spent),.d (.bool f.fail)]),(5,.mt 1 1 (rows f.path)),(6,.mt 1 1 x.2.2),(7,.mt 1 1 (rows f.stack)),(0,.var (V.ce (bY f)).cells),(1,.var (V.ce (ze 5 a b o1 o2 o3 o4 d)).cells),(2,.var tV)],10,[],0⟩)
   (fun x=>0<=x.1/\x.1<=f.kids.length/\x.2.2.length=f.loc.length/\x.2.1=(R0&&(f.kids.take x.1.toNat).all (iO f))/\(x.2.1=true->x.2.2=rows (kg f.loc ((f.kids.zip vals).take x.1.toNat)))) (fun x=>(f.kids.length - x.1).toNat) (0,false,rows f.loc) ?_ ⟨by simp,by simp,by simp [rows],by rw [<- hR0,decide_eq_false h1];simp,fun _=>by simp [kg]⟩ ?_
  ·exact Weak.eqs [] (by kernel_rfl) (by kernel_rfl) (by kernel_rfl) (by kernel_rfl) (by kernel_rfl) (by kernel_rfl) (by kernel_rfl) (by kernel_rfl) (by kernel_rfl) (by kernel_rfl)
  ·rintro ⟨k,rt,ls⟩ ⟨g0,g1,g2,g3,g4⟩
   simp only at g0 g1 g2 g3 g4;by_cases hk:k<f.kids.length
   ·have k1:k.toNat<f.kids.length:=by omega
    have hall:∀r:Bool,r=(rt&&iO f f.kids[k.toNat])->r=(R0&&(f.kids.take (k+1).toNat).all (iO f)):=by
     intro r hr;rw [hr,g3,show (k+1).toNat=k.toNat+1 by omega,yn _ _ _ k1,Bool.and_assoc]
    cases rt with
    | false=>
     refine ah (by simp;omega) ?_;refine ah (by simp;omega) ?_;refine aF (fQ f.kids[k.toNat]) (by rw [abT,abv k1];rfl) ?_;refine aS rfl ?_;refine aS rfl ?_;refine aS rfl ?_;refine aS rfl ?_;refine aS rfl ?_;refine ah (by simp [inR];omega) ?_;exact aR (k+1,false,ls) ⟨by simp only [];omega,by simp only [];omega,g2,hall _ (by simp),by simp⟩ (by simp only [];omega) (Weak.eqs [] (by kernel_rfl) (by kernel_rfl) (by kernel_rfl) (by kernel_rfl) (by kernel_rfl) (by kernel_rfl) (by kernel_rfl) (by kernel_rfl) (by kernel_rfl) (by kernel_rfl))
    | true=>
     have hr0:R0=true:=by have g3':=g3.symm;rw [abq] at g3';exact g3'.1
     have hvl:=hlen0 hr0;have k2:k.toNat<vals.length:=by omega
     have kz:k.toNat<(f.kids.zip vals).length:=by simp;omega
     have ez:(f.kids.zip vals)[k.toNat]=(f.kids[k.toNat],vals[k.toNat]):=by simp
     have hls:=g4 rfl;have hsucc:=FU f.loc (f.kids.zip vals) k.toNat kz;rw [ez] at hsucc;have ek:(k+1).toNat=k.toNat+1:=by omega
     rw [<- ek] at hsucc;refine ah (by simp;omega) ?_;refine ah (by simp;omega) ?_;refine aF (fQ f.kids[k.toNat]) (by rw [abT,abv k1];rfl) ?_;refine ah rfl ?_;refine aL _ (s37 _ _) ?_;refine ah rfl ?_;by_cases hd:dest f.kids[k.toNat].2 f.loc.length=true
     ·refine ah (by simpa using hd) ?_
      refine ah rfl ?_;have Jw:=hall (dest f.kids[k.toNat].2 (f.loc.map fun n=>[Dat.int .i64 n]).length) (by simp [iO]);by_cases hp:0<=f.kids[k.toNat].2
      ·have hd2:f.kids[k.toNat].2<f.loc.length:=by simp [dest,below] at hd;omega
       have hd3:f.kids[k.toNat].2.toNat<ls.length:=by omega
       refine ah (by simpa using hp) ?_;refine ah (by simp;omega) ?_;refine aF [I vals[k.toNat]] (by simp) ?_;refine ah rfl ?_;refine ah (by simp;omega) ?_;refine ah rfl ?_;refine aF [I ((kg f.loc ((f.kids.zip vals).take k.toNat)).getD f.kids[k.toNat].2.toNat 0)] (by rw [hls];exact za (by rw [tX];omega) (by simp)) ?_;refine ah (by simp [inR];omega) ?_;refine aR (k+1,dest f.kids[k.toNat].2 (f.loc.map fun n=>[Dat.int .i64 n]).length,ls.set (0+f.kids[k.toNat].2.toNat) [I vals[k.toNat]]) ⟨by simp only [];omega,by simp only [];omega,by simp [g2],Jw,fun _=>?_⟩ (by simp only [];omega) (Weak.eqs [] (by kernel_rfl) (by kernel_rfl) (by kernel_rfl) (by kernel_rfl) (by kernel_rfl) (by kernel_rfl) (by kernel_rfl) (by kernel_rfl) (by kernel_rfl) (by kernel_rfl));simp only [];rw [hsucc,if_pos hp,hls,abJ,Jv]
      ·refine aS (by simpa using hp) ?_
       refine ah (by simp [inR];omega) ?_;refine aR (k+1,dest f.kids[k.toNat].2 (f.loc.map fun n=>[Dat.int .i64 n]).length,ls) ⟨by simp only [];omega,by simp only [];omega,g2,Jw,fun _=>?_⟩ (by simp only [];omega) (Weak.eqs [] (by kernel_rfl) (by kernel_rfl) (by kernel_rfl) (by kernel_rfl) (by kernel_rfl) (by kernel_rfl) (by kernel_rfl) (by kernel_rfl) (by kernel_rfl) (by kernel_rfl));simp only [];rw [hsucc,if_neg hp,hls]
     ·have hd' : dest f.kids[k.toNat].2 f.loc.length=false:=by simpa using hd
      refine aS (by simpa using hd') ?_;refine aS rfl ?_;refine aS rfl ?_;refine ah (by simp [inR];omega) ?_;exact aR (k+1,dest f.kids[k.toNat].2 (f.loc.map fun n=>[Dat.int .i64 n]).length,ls) ⟨by simp only [];omega,by simp only [];omega,g2,hall _ (by simp [iO]),fun h=>by simp [hd'] at h⟩ (by simp only [];omega) (Weak.eqs [] (by kernel_rfl) (by kernel_rfl) (by kernel_rfl) (by kernel_rfl) (by kernel_rfl) (by kernel_rfl) (by kernel_rfl) (by kernel_rfl) (by kernel_rfl) (by kernel_rfl))
   ·have hke:f.kids.take k.toNat=f.kids:=abt (by omega)
    rw [hke] at g3
    cases rt with
    | false=>
     refine aS (by simp;omega) ?_;refine bp ?_;refine ah rfl ?_;exact aj rfl rfl rfl rfl (by rw [hD,if_neg (by rw [<- g3];simp)];rfl)
    | true=>
     have g3':=g3.symm;rw [abq] at g3';obtain ⟨e,hvl⟩:=hgood g3'.1 g3'.2;have hls:=g4 rfl;rw [abt (by simp;omega)] at hls;refine aS (by simp;omega) ?_;refine bp ?_;refine aS rfl ?_;refine aj rfl rfl rfl rfl ?_;rw [hD,if_pos g3.symm];show Dat.tuple [.agg [_,.slice 1 (((rows f.path).drop 0).take f.path.length) false,_,_,.slice 1 ((ls.drop 0).take f.loc.length) false,.slice 1 (((rows f.stack).drop 0).take f.stack.length) false,_,_,_,_],_]=_;rw [jd rfl,jd rfl,hls,jd (by rw [tX])]
end Uw.Tryz.Vm
namespace Uw.Tryz.Vm
open Go Uw Uw.Tryz
theorem s23 (f:Frame) (k a b o1 o2 o3 o4:Int) (d:Dat) (vals:List Int) (ht:lB f) (hv:vals.length<1000):Ret P0 dT [bY f,ze k a b o1 o2 o3 o4 d,ae vals] (fM (aV f k b vals)):=by
 by_cases h1:k=1
 ·subst h1;exact SB f a b o1 o2 o3 o4 d vals ht hv
 by_cases h2:k=2
 ·subst h2;exact Zw f a b o1 o2 o3 o4 d vals ht hv
 by_cases h3:k=3
 ·subst h3;exact Zv f a b o1 o2 o3 o4 d vals ht hv
 by_cases h4:k=4
 ·subst h4;exact Zy f a b o1 o2 o3 o4 d vals ht hv
 by_cases h5:k=5
 ·subst h5;exact told5 f a b o1 o2 o3 o4 d vals ht hv
 exact Zx f k a b o1 o2 o3 o4 d vals ht hv ⟨h1,h2,h3,h4,h5⟩
theorem LV (f:Frame) (a:Ask) (vals:List Int) (ht:lB f) (hv:vals.length<1000):Ret P0 dT [bY f,Ss a,ae vals] (fM (aV f a.kind a.b vals)):=s23 f a.kind a.a a.b a.op.1 a.op.2.1 a.op.2.2.1 a.op.2.2.2 (Nw a) vals ht hv
end Uw.Tryz.Vm
namespace Uw.Tryz.El
open Go Uw Uw.Tryz
structure X8 where
 aG:Int
 task:List Int
 thing:Int
 obj:Int
 op:Op4
 val:Int
 is:Bool
 deriving DecidableEq,Inhabited
structure Spl where
 kind:Int
 a:Int
 b:Int
 c:Int
 d:Int
 deriving DecidableEq,Inhabited
def eS (u:X8):List Dat:=[I u.aG,ae u.task,I u.thing,I u.obj,I u.op.kind,I u.op.obj,I u.op.a,I u.op.b,I u.val,.bool u.is]
def fj (s:Spl):List Dat:=[I s.kind,I s.a,I s.b,I s.c,I s.d]
structure Wd where
 cells:List Int
 maps:List Cont
 stacks:List Cont
 chans:List Cont
 uses:List X8
 splits:List Spl
 ai:Int
 values:List Int
 steps:Int
 fails:List (List Int)
structure aaS where
 m:Nat
 s:Nat
 c:Nat
 v:Nat
 f:Nat
abbrev cdV (c:Cd):List V:=[.d (.slice 3 (c.aA.map bdC) false),.d (ae c.cells),.d (I c.maps),.d (I c.stacks),.d (I c.chans),.d (I c.main)]
def bz (l:List Int):List (List Dat):=l.map fun i=>[I i]
def dq (l:List (List Int)):List (List Dat):=l.map fun i=>[ae i]
abbrev wG (C:List V) (xc:Nat) (rc:List (List Dat)) (gm xm:Nat) (rm:List (List Dat)) (gs xs:Nat) (rs:List (List Dat)) (gc xh:Nat) (rh:List (List Dat)) (xu:Nat) (ru:List (List Dat)) (xp:Nat) (rp:List (List Dat)) (st:Int) (gv xv:Nat) (rv:List (List Dat)) (sp:Int) (gf xf:Nat) (rf:List (List Dat)):List Blk:=
 [.var (C++[.ref 1 1 0 xc,.d .nil,.ref 2 gm 0 xm,.ref 3 gs 0 xs,.ref 4 gc 0 xh,.ref 5 0 0 xu,.ref 6 0 0 xp,.d (I st),.ref 7 gv 0 xv,.d (I sp),.ref 8 gf 0 xf]),.mt 1 1 rc,.mt 3 gm rm,.mt 3 gs rs,.mt 3 gc rh,.arr 10 ru,.arr 5 rp,.mt 1 gv rv,.mt 1 gf rf]
abbrev frV (f:Vm.Frame):V:=.agg [.d (I f.task),.d (ae f.path),.d (I f.fn),.d (I f.pc),.d (ae f.loc),.d (ae f.stack),.d (.slice 2 (f.kids.map Vm.fQ) false),.d (I f.many),.d (I f.spent),.d (.bool f.fail)]
def po (w:Wd) (path:List Int) (aG cell:Int):Wd:={ w with uses:=w.uses++[⟨aG,path,0,cell,⟨0,0,0,0⟩,w.cells.getD cell.toNat 0,false⟩] }
def iP (w:Wd) (path:List Int) (aG cell val:Int):Wd:={ w with cells:=w.cells.set cell.toNat val,uses:=w.uses++[⟨aG,path,0,cell,⟨1,0,val,0⟩,0,false⟩] }
def jU (w:Wd) (kids:List (Int×Int)) (aG block:Int):Wd×Int:=if kids=[] then (w,aG) else ({ w with splits:=w.splits++[⟨3,aG,0,0,block⟩] },block)
def Dy (w:Wd) (aG join:Int) (named:Bool):Spl:=⟨1,aG,w.ai,w.ai+1,if named then join else w.ai+2⟩
def bX (w:Wd) (aG join:Int) (named:Bool):Wd:={ w with ai:=if named then w.ai+2 else w.ai+3,splits:=w.splits++[Dy w aG join named] }
theorem Bj {l:List Int} {k:Int} (h0:0<=k) (h:k<l.length):(bz l)[k.toNat]? = some [I (l.getD k.toNat 0)]:=by
 have h1:k.toNat<l.length:=by omega
 simp [bz,h1]
theorem X9 (C1 C2 C3 C4 C5 C6:Dat) (xc:Nat) (rc:List (List Dat)) (gm xm:Nat) (rm:List (List Dat)) (gs xs:Nat) (rs:List (List Dat)) (gc xh:Nat) (rh:List (List Dat)) (xu:Nat) (ru:List (List Dat)) (xp:Nat) (rp:List (List Dat)) (st:Int) (gv xv:Nat) (rv:List (List Dat)) (sp:Int) (gf xf:Nat) (rf:List (List Dat))
  (f1 f3 f4 f8 f9:Int) (f5 f6 f7:Dat) (f10:Bool) (p:List Int) (aG cell v:Int) (h0:0<=cell) (h1:cell<xc) (hrc:rc.length=xc) (e1:rc[0+cell.toNat]? = some [I v]) (hu:xu<1000000) (hru:ru.length=xu) (hp:p.length<1000000) :
  eN P0 iJ [.ptr 0 0,.agg [.d (I f1),.d (ae p),.d (I f3),.d (I f4),.d f5,.d f6,.d f7,.d (I f8),.d (I f9),.d (.bool f10)],.d (I aG),.d (I cell)] (wG [.d C1,.d C2,.d C3,.d C4,.d C5,.d C6] xc rc gm xm rm gs xs rs gc xh rh xu ru xp rp st gv xv rv sp gf xf rf)
   (.d (.slice 1 [[I v]] true)) (wG [.d C1,.d C2,.d C3,.d C4,.d C5,.d C6] xc rc gm xm rm gs xs rs gc xh rh (xu+1) (ru++[eS ⟨aG,p,0,cell,⟨0,0,0,0⟩,v,false⟩]) xp rp st gv xv rv sp gf xf rf):=by
 have hc:=dw p hp;refine dD uA rfl ?_
 repeat refine aw ?_
 refine br ⟨[(9,.d (I v))],bk 0 (wG [.d C1,.d C2,.d C3,.d C4,.d C5,.d C6] xc rc gm xm rm gs xs rs gc xh rh (xu+1) (ru++[eS ⟨aG,p,0,cell,⟨0,0,0,0⟩,v,false⟩]) xp rp st gv xv rv sp gf xf rf),9,[],9⟩ ?_ ?_
 ·repeat refine aw ?_
  exact al (.inl ⟨rfl,by exact Uw.wM⟩)
 repeat refine aw ?_
 refine dh 9 rfl rfl ?_;exact Uw.wM
end Uw.Tryz.El
namespace Uw.Tryz.El
open Go Uw Uw.Tryz
variable {C1 C2 C3 C4 C5 C6 : Dat} {xc : Nat} {rc : List (List Dat)} {gm xm : Nat} {rm : List (List Dat)} {gs xs : Nat} {rs : List (List Dat)} {gc xh : Nat} {rh : List (List Dat)} {xu : Nat} {ru : List (List Dat)} {xp : Nat} {rp : List (List Dat)} {st : Int} {gv xv : Nat} {rv : List (List Dat)} {sp : Int} {gf xf : Nat} {rf : List (List Dat)}
 {f1 f3 f4 f8 f9:Int} {f5 f6 f7:Dat} {f10:Bool} {p:List Int}
abbrev fA (f1:Int) (p:List Int) (f3 f4:Int) (f5 f6 f7:Dat) (f8 f9:Int) (f10:Bool):V:=.agg [.d (I f1),.d (ae p),.d (I f3),.d (I f4),.d f5,.d f6,.d f7,.d (I f8),.d (I f9),.d (.bool f10)]
theorem Vb (aG cell v u:Int) (h0:0<=cell) (h1:cell<xc) (hrc:rc.length=xc) (e1:rc[0+cell.toNat]? = some [I u]) (hu:xu<1000000) (hru:ru.length=xu) (hp:p.length<1000000) :
  eN P0 g8 [.ptr 0 0,fA f1 p f3 f4 f5 f6 f7 f8 f9 f10,.d (I aG),.d (I cell),.d (I v)] (wG [.d C1,.d C2,.d C3,.d C4,.d C5,.d C6] xc rc gm xm rm gs xs rs gc xh rh xu ru xp rp st gv xv rv sp gf xf rf)
   (.tuple []) (wG [.d C1,.d C2,.d C3,.d C4,.d C5,.d C6] xc (rc.set (0+cell.toNat) [I v]) gm xm rm gs xs rs gc xh rh (xu+1) (ru++[eS ⟨aG,p,0,cell,⟨1,0,v,0⟩,0,false⟩]) xp rp st gv xv rv sp gf xf rf):=by
 have hc:=dw p hp;refine dD sO rfl ?_
 repeat refine aw ?_
 refine br ⟨[],bk 0 (wG [.d C1,.d C2,.d C3,.d C4,.d C5,.d C6] xc (rc.set (0+cell.toNat) [I v]) gm xm rm gs xs rs gc xh rh (xu+1) (ru++[eS ⟨aG,p,0,cell,⟨1,0,v,0⟩,0,false⟩]) xp rp st gv xv rv sp gf xf rf),9,[],9⟩ ?_ ?_
 ·repeat refine aw ?_
  exact al (.inl ⟨rfl,by exact Uw.wM⟩)
 refine wL 9 rfl rfl ?_;exact Uw.wM
theorem Vd (aG block:Int) (kids:List (List Dat)) (hk:kids≠[]) (hx:xp<1000000) (hrp:rp.length=xp) :
  eN P0 iL [.ptr 0 0,fA f1 p f3 f4 f5 f6 (.slice 2 kids false) f8 f9 f10,.d (I aG),.d (I block)] (wG [.d C1,.d C2,.d C3,.d C4,.d C5,.d C6] xc rc gm xm rm gs xs rs gc xh rh xu ru xp rp st gv xv rv sp gf xf rf)
   (.d (I block)) (wG [.d C1,.d C2,.d C3,.d C4,.d C5,.d C6] xc rc gm xm rm gs xs rs gc xh rh xu ru (xp+1) (rp++[fj ⟨3,aG,0,0,block⟩]) st gv xv rv sp gf xf rf):=by
 have hl:¬((kids.length:Nat):Int)=0:=by cases kids<;>simp_all;omega
 refine dD uE rfl ?_
 repeat refine aw ?_
 refine dh 9 rfl rfl ?_;exact Uw.wM
theorem Ya (aG join:Int) (named:Bool) (hx:xp<1000000) (hrp:rp.length=xp) (h0:0<=st) (h1:st<1000000) :
  eN P0 iK [.ptr 0 0,.d (I aG),.d (I join),.d (.bool named)] (wG [.d C1,.d C2,.d C3,.d C4,.d C5,.d C6] xc rc gm xm rm gs xs rs gc xh rh xu ru xp rp st gv xv rv sp gf xf rf)
   (.agg ((fj ⟨1,aG,st,st+1,if named then join else st+2⟩).map V.d)) (wG [.d C1,.d C2,.d C3,.d C4,.d C5,.d C6] xc rc gm xm rm gs xs rs gc xh rh xu ru (xp+1) (rp++[fj ⟨1,aG,st,st+1,if named then join else st+2⟩]) (if named then st+2 else st+3) gv xv rv sp gf xf rf):=by
 cases named with
 | true=>
  refine dD lT rfl ?_
  repeat refine aw ?_
  refine br ⟨[(0,.ptr 0 0),(1,.d (I aG)),(2,.d (I join)),(3,.d (.bool true)),(8,.ptr 9 0),(9,.ptr 10 0)],bk 0 (wG [.d C1,.d C2,.d C3,.d C4,.d C5,.d C6] xc rc gm xm rm gs xs rs gc xh rh xu ru xp rp st gv xv rv sp gf xf rf++[.var [.d (I 0),.d (I 0),.d (I 0),.d (I 0),.d (I 0)],.var [.d (I 1),.d (I aG),.d (I st),.d (I (st+1)),.d (I join)]]),11,[],9⟩ ?_ ?_
  ·repeat refine aw ?_
   exact al (.inl ⟨rfl,by exact Uw.wM⟩)
  repeat refine aw ?_
  refine br ⟨[(8,.ptr 9 0),(9,.ptr 10 0)],bk 0 (wG [.d C1,.d C2,.d C3,.d C4,.d C5,.d C6] xc rc gm xm rm gs xs rs gc xh rh xu ru (xp+1) (rp++[fj ⟨1,aG,st,st+1,join⟩]) (st+2) gv xv rv sp gf xf rf++[.var [.d (I 0),.d (I 0),.d (I 0),.d (I 0),.d (I 0)],.var [.d (I 1),.d (I aG),.d (I st),.d (I (st+1)),.d (I join)]]),11,[],9⟩ ?_ ?_
  ·repeat refine aw ?_
   exact al (.inl ⟨rfl,by exact Uw.wM⟩)
  repeat refine aw ?_
  refine dh 9 rfl rfl ?_;exact Uw.wM
 | false=>
  refine dD lT rfl ?_
  repeat refine aw ?_
  refine br ⟨[(0,.ptr 0 0),(1,.d (I aG)),(2,.d (I join)),(3,.d (.bool false)),(8,.ptr 9 0),(9,.ptr 10 0)],bk 0 (wG [.d C1,.d C2,.d C3,.d C4,.d C5,.d C6] xc rc gm xm rm gs xs rs gc xh rh xu ru xp rp st gv xv rv sp gf xf rf++[.var [.d (I 0),.d (I 0),.d (I 0),.d (I 0),.d (I 0)],.var [.d (I 1),.d (I aG),.d (I st),.d (I (st+1)),.d (I join)]]),11,[],9⟩ ?_ ?_
  ·repeat refine aw ?_
   exact al (.inl ⟨rfl,by exact Uw.wM⟩)
  repeat refine aw ?_
  refine br ⟨[(8,.ptr 9 0),(9,.ptr 10 0)],bk 0 (wG [.d C1,.d C2,.d C3,.d C4,.d C5,.d C6] xc rc gm xm rm gs xs rs gc xh rh xu ru (xp+1) (rp++[fj ⟨1,aG,st,st+1,st+2⟩]) (st+3) gv xv rv sp gf xf rf++[.var [.d (I 0),.d (I 0),.d (I 0),.d (I 0),.d (I 0)],.var [.d (I 1),.d (I aG),.d (I st),.d (I (st+1)),.d (I (st+2))]]),11,[],9⟩ ?_ ?_
  ·repeat refine aw ?_
   exact al (.inl ⟨rfl,by exact Uw.wM⟩)
  repeat refine aw ?_
  refine dh 9 rfl rfl ?_;exact Uw.wM
end Uw.Tryz.El
namespace Uw.Tryz.El
open Go Uw Uw.Tryz
variable {C1 C2 C3 C4 C5 C6 : Dat} {xc : Nat} {rc : List (List Dat)} {gm xm : Nat} {rm : List (List Dat)} {gs xs : Nat} {rs : List (List Dat)} {gc xh : Nat} {rh : List (List Dat)} {xu : Nat} {ru : List (List Dat)} {xp : Nat} {rp : List (List Dat)} {st : Int} {gv xv : Nat} {rv : List (List Dat)} {sp : Int} {gf xf : Nat} {rf : List (List Dat)}
 {f1 f3 f4 f8 f9:Int} {f5 f6 f7:Dat} {f10:Bool} {p:List Int}
theorem Ve (kids:List (Int×Int)) (vs:List Int) (hk:kids.length<1000) (hv:∀(j:Nat) (h:j<kids.length),1<=kids[j].1/\kids[j].1<=xv/\rv[0+(kids[j].1 - 1).toNat]? = some [I (vs.getD j 0)]) (hl:vs.length=kids.length) (hrv:rv.length=xv) (hx:xv<1000000) :
  eN P0 hZ [.ptr 0 0,fA f1 p f3 f4 f5 f6 (.slice 2 (kids.map Vm.fQ) false) f8 f9 f10] (wG [.d C1,.d C2,.d C3,.d C4,.d C5,.d C6] xc rc gm xm rm gs xs rs gc xh rh xu ru xp rp st gv xv rv sp gf xf rf)
   (.ref 10 0 0 kids.length) ((wG [.d C1,.d C2,.d C3,.d C4,.d C5,.d C6] xc rc gm xm rm gs xs rs gc xh rh xu ru xp rp st gv xv rv sp gf xf rf)++[.var [.d (I f1),.d (ae p),.d (I f3),.d (I f4),.d f5,.d f6,.d (.slice 2 (kids.map Vm.fQ) false),.d (I f8),.d (I f9),.d (.bool f10)],.arr 1 (bz vs)]):=by
 have hm:(kids.map Vm.fQ).length=kids.length:=by simp
 have he:∀(j:Nat) (h:j<kids.length),(kids.map Vm.fQ)[(j:Int).toNat]? = some [I kids[j].1,I kids[j].2]:=fun j h=>by simp [h,Vm.fQ]
 have hs:∀(j:Nat) (h:j<kids.length),bz (vs.take (j+1))=bz (vs.take j)++(List.replicate 1 [Dat.int IntKind.i64 0]).set 0 [I (vs.getD j 0)]:=fun j h=>by
  have h2:j<vs.length:=by omega
  have e:vs.take (j+1)=vs.take j++[vs.getD j 0]:=by
   rw [List.take_add_one,abv h2,ac5,abv h2];rfl
  unfold bz;rw [e,acN];rfl
 have hn:∀(j:Nat) (h:j<=kids.length),(bz (vs.take j)).length=j:=fun j h=>by simp [bz];omega
 have hz:bz (vs.take kids.length)=bz vs:=by rw [abt (by omega)]
 have h00:bz (vs.take 0)=[]:=rfl;refine dD sP rfl ?_
 repeat refine aw ?_
 refine kr kids.length (fun j=>⟨[(11,.d (I j)),(10,.d (I (((kids.map Vm.fQ).length:Nat):Int))),(9,.d (.slice 2 (kids.map Vm.fQ) false)),(5,.ref 10 0 0 j),(0,.ptr 0 0)],bk 0 ((wG [.d C1,.d C2,.d C3,.d C4,.d C5,.d C6] xc rc gm xm rm gs xs rs gc xh rh xu ru xp rp st gv xv rv sp gf xf rf)++[.var [.d (I f1),.d (ae p),.d (I f3),.d (I f4),.d f5,.d f6,.d (.slice 2 (kids.map Vm.fQ) false),.d (I f8),.d (I f9),.d (.bool f10)],.arr 1 (bz (vs.take j))]),11,[],9⟩) (fun j=>True) ?_ (fun _=>?_) (fun j hj _=>?_)
 ·exact Uw.wM
 ·rw [hz]
  repeat refine aw ?_
  refine bp ?_
  repeat refine aw ?_
  refine dh 9 rfl rfl ?_;exact Uw.wM
 ·have e1:=he j hj
  obtain ⟨v1,v2,v3⟩:=hv j hj;have e4:=(hs j hj).symm;have e5:=hn j (by omega);clear he hv hs hn hz h00;generalize kids[j].1=k1 at *;generalize kids[j].2=k2 at *;generalize vs.getD j 0=v at *;generalize bz (vs.take j)=r0 at *
  repeat refine aw ?_
  exact gI j trivial (by exact Uw.wM)
theorem Vf (v u aG above:Int) (ht:f1=1) (h1:f1<=xv) (hrv:rv.length=xv) (hx:xv<1000000) (e1:rv[0+(f1 - 1).toNat]? = some [I u]) (hxp:xp<1000000) (hrp:rp.length=xp) (h2:0<=sp) (h3:sp<1000000000) (h4:0<=f9) (h5:f9<1000000) (hp:p.length<1000000) (hxf:xf<1000000) (hrf:rf.length=xf) :
  eN P0 dS [.ptr 0 0,fA f1 p f3 f4 f5 f6 f7 f8 f9 false,.d (I v),.d (I aG),.d (I above)] (wG [.d C1,.d C2,.d C3,.d C4,.d C5,.d C6] xc rc gm xm rm gs xs rs gc xh rh xu ru xp rp st gv xv rv sp gf xf rf)
   (.tuple []) (wG [.d C1,.d C2,.d C3,.d C4,.d C5,.d C6] xc rc gm xm rm gs xs rs gc xh rh xu ru xp rp st gv xv (rv.set (0+(f1 - 1).toNat) [I v]) (sp+f9) gf xf rf):=by
 have hc:=dw p hp;refine dD fx rfl ?_
 repeat refine aw ?_
 refine wL 9 rfl rfl ?_;exact Uw.wM
theorem Vg (v u aG above:Int) (ht:f1=1) (h1:f1<=xv) (hrv:rv.length=xv) (hx:xv<1000000) (e1:rv[0+(f1 - 1).toNat]? = some [I u]) (hxp:xp<1000000) (hrp:rp.length=xp) (h2:0<=sp) (h3:sp<1000000000) (h4:0<=f9) (h5:f9<1000000) (hp:p.length<1000000) (hxf:xf<1000000) (hrf:rf.length=xf) :
  eN P0 dS [.ptr 0 0,fA f1 p f3 f4 f5 f6 f7 f8 f9 true,.d (I v),.d (I aG),.d (I above)] (wG [.d C1,.d C2,.d C3,.d C4,.d C5,.d C6] xc rc gm xm rm gs xs rs gc xh rh xu ru xp rp st gv xv rv sp gf xf rf)
   (.tuple []) (wG [.d C1,.d C2,.d C3,.d C4,.d C5,.d C6] xc rc gm xm rm gs xs rs gc xh rh xu ru xp rp st gv xv (rv.set (0+(f1 - 1).toNat) [I v]) (sp+f9) (gf+1) (xf+1) (rf.take xf++[[ae p]])):=by
 have hc:=dw p hp;refine dD fx rfl ?_
 repeat refine aw ?_
 refine br ⟨[],bk 0 (wG [.d C1,.d C2,.d C3,.d C4,.d C5,.d C6] xc rc gm xm rm gs xs rs gc xh rh xu ru xp rp st gv xv (rv.set (0+(f1 - 1).toNat) [I v]) (sp+f9) (gf+1) (xf+1) (rf.take xf++[[ae p]])),9,[],9⟩ ?_ ?_
 ·repeat refine aw ?_
  exact al (.inl ⟨rfl,by exact Uw.wM⟩)
 refine wL 9 rfl rfl ?_;exact Uw.wM
theorem Vh (v u aG above:Int) (ht:1<f1) (h1:f1<=xv) (hrv:rv.length=xv) (hx:xv<1000000) (e1:rv[0+(f1 - 1).toNat]? = some [I u]) (hxp:xp<1000000) (hrp:rp.length=xp) (h2:0<=sp) (h3:sp<1000000000) (h4:0<=f9) (h5:f9<1000000) (hp:p.length<1000000) (hxf:xf<1000000) (hrf:rf.length=xf) :
  eN P0 dS [.ptr 0 0,fA f1 p f3 f4 f5 f6 f7 f8 f9 false,.d (I v),.d (I aG),.d (I above)] (wG [.d C1,.d C2,.d C3,.d C4,.d C5,.d C6] xc rc gm xm rm gs xs rs gc xh rh xu ru xp rp st gv xv rv sp gf xf rf)
   (.tuple []) (wG [.d C1,.d C2,.d C3,.d C4,.d C5,.d C6] xc rc gm xm rm gs xs rs gc xh rh xu ru (xp+1) (rp++[fj ⟨2,aG,0,0,above⟩]) st gv xv (rv.set (0+(f1 - 1).toNat) [I v]) (sp+f9) gf xf rf):=by
 have hc:=dw p hp;refine dD fx rfl ?_
 repeat refine aw ?_
 refine wL 9 rfl rfl ?_;exact Uw.wM
theorem Vi (v u aG above:Int) (ht:1<f1) (h1:f1<=xv) (hrv:rv.length=xv) (hx:xv<1000000) (e1:rv[0+(f1 - 1).toNat]? = some [I u]) (hxp:xp<1000000) (hrp:rp.length=xp) (h2:0<=sp) (h3:sp<1000000000) (h4:0<=f9) (h5:f9<1000000) (hp:p.length<1000000) (hxf:xf<1000000) (hrf:rf.length=xf) :
  eN P0 dS [.ptr 0 0,fA f1 p f3 f4 f5 f6 f7 f8 f9 true,.d (I v),.d (I aG),.d (I above)] (wG [.d C1,.d C2,.d C3,.d C4,.d C5,.d C6] xc rc gm xm rm gs xs rs gc xh rh xu ru xp rp st gv xv rv sp gf xf rf)
   (.tuple []) (wG [.d C1,.d C2,.d C3,.d C4,.d C5,.d C6] xc rc gm xm rm gs xs rs gc xh rh xu ru (xp+1) (rp++[fj ⟨2,aG,0,0,above⟩]) st gv xv (rv.set (0+(f1 - 1).toNat) [I v]) (sp+f9) (gf+1) (xf+1) (rf.take xf++[[ae p]])):=by
 have hc:=dw p hp;refine dD fx rfl ?_
 repeat refine aw ?_
 refine br ⟨[],bk 0 (wG [.d C1,.d C2,.d C3,.d C4,.d C5,.d C6] xc rc gm xm rm gs xs rs gc xh rh xu ru (xp+1) (rp++[fj ⟨2,aG,0,0,above⟩]) st gv xv (rv.set (0+(f1 - 1).toNat) [I v]) (sp+f9) (gf+1) (xf+1) (rf.take xf++[[ae p]])),9,[],9⟩ ?_ ?_
 ·repeat refine aw ?_
  exact al (.inl ⟨rfl,by exact Uw.wM⟩)
 refine wL 9 rfl rfl ?_;exact Uw.wM
end Uw.Tryz.El
namespace Uw.Tryz.El
open Go Uw Uw.Tryz
variable {C1 C2 C3 C4 C5 C6 : Dat} {xc : Nat} {rc : List (List Dat)} {gm xm : Nat} {rm : List (List Dat)} {gs xs : Nat} {rs : List (List Dat)} {gc xh : Nat} {rh : List (List Dat)} {xu : Nat} {ru : List (List Dat)} {xp : Nat} {rp : List (List Dat)} {st : Int} {gv xv : Nat} {rv : List (List Dat)} {sp : Int} {gf xf : Nat} {rf : List (List Dat)}
 {f1 f3 f4 f8 f9:Int} {f5 f6 f7:Dat} {f10:Bool} {p:List Int}
def bG (l:List Cont):Nat:=(l.map (·.vals.length)).sum
theorem LW (l:List Cont) (j:Nat) (h:j<l.length):bG (l.take (j+1))=bG (l.take j)+l[j].vals.length:=by
 have e:l.take (j+1)=l.take j++[l[j]]:=by
  rw [List.take_add_one,abv h];rfl
 unfold bG;rw [e,acN,adH];simp
theorem Dz (l:List Cont) (j:Nat) (h:j<l.length):∃k ks vs,(l.map aW)[0+(j:Int).toNat]? = some [I k,ae ks,ae vs]/\bG (l.take (j+1))=bG (l.take j)+(vs.map fun i=>[I i]).length:=
 ⟨l[j].kind,l[j].keys,l[j].vals,by simp [h,aW],by rw [LW l j h];simp⟩
theorem DC (l:List Cont) (j:Nat):bG (l.take j)<=bG l:=by
 have:bG l=bG (l.take j)+bG (l.drop j):=by
  unfold bG;rw [<- adH,<- acN,acE]
 omega
theorem Yb (ms ss hs:List Cont) (hm:ms.length<1000) (hs1:ss.length<1000) (hh:hs.length<1000) (bm:bG ms<1000000) (bs:bG ss<1000000) (bh:bG hs<1000000) :
  eN P0 dH [.ptr 0 0] (wG [.d C1,.d C2,.d C3,.d C4,.d C5,.d C6] xc rc gm ms.length (ms.map aW) gs ss.length (ss.map aW) gc hs.length (hs.map aW) xu ru xp rp st gv xv rv sp gf xf rf)
   (.d (.bool (decide (1000<0+(bG ms:Int)+bG ss+bG hs)))) (wG [.d C1,.d C2,.d C3,.d C4,.d C5,.d C6] xc rc gm ms.length (ms.map aW) gs ss.length (ss.map aW) gc hs.length (hs.map aW) xu ru xp rp st gv xv rv sp gf xf rf):=by
 have mms:(ms.map aW).length=ms.length:=by simp
 have ams:=Dz ms;have bms:=DC ms;have zms:bG (ms.take ms.length)=bG ms:=by rw [acg]
 have yms:bG (ms.take 0)=0:=rfl;have mss:(ss.map aW).length=ss.length:=by simp
 have ass:=Dz ss;have bss:=DC ss;have zss:bG (ss.take ss.length)=bG ss:=by rw [acg]
 have yss:bG (ss.take 0)=0:=rfl;have mhs:(hs.map aW).length=hs.length:=by simp
 have ahs:=Dz hs;have bhs:=DC hs;have zhs:bG (hs.take hs.length)=bG hs:=by rw [acg]
 have yhs:bG (hs.take 0)=0:=rfl;refine dD uG rfl ?_
 repeat refine aw ?_
 refine fN 5 ?_;show WT P0 _ _
 repeat refine aw ?_
 refine fN 1 ?_;show WT P0 _ _
 repeat refine aw ?_
 refine pZ ?_
 repeat refine aw ?_
 refine eM ?_
 repeat refine aw ?_
 refine kr ms.length (fun j=>⟨[(17,.d (I j)),(16,.d (I (((ms.map aW).length:Nat):Int))),(15,.ref 2 gm 0 ms.length),(12,.d (I 1)),(11,.agg [.d .nil,.ref 2 gm 0 ms.length,.ref 3 gs 0 ss.length,.ref 4 gc 0 hs.length]),(3,.d (I (0+(bG (ms.take j):Nat)))),(2,.d (.bool false)),(0,.ptr 0 0)],bk 0 (wG [.d C1,.d C2,.d C3,.d C4,.d C5,.d C6] xc rc gm ms.length (ms.map aW) gs ss.length (ss.map aW) gc hs.length (hs.map aW) xu ru xp rp st gv xv rv sp gf xf rf),9,[],9⟩) (fun j=>True) ?_ (fun _=>?_) (fun j hj _=>?_)
 ·exact Uw.wM
 rotate_left 1
 ·obtain ⟨k,ks,vs,e1,e2⟩:=ams j hj
  have e3:=bms j;have e4:=bms (j+1);clear ams ass ahs bms bss bhs
  repeat refine aw ?_
  exact gI j trivial (by exact Uw.wM)
 rw [zms]
 repeat refine aw ?_
 refine bp ?_
 repeat refine aw ?_
 refine eM ?_
 repeat refine aw ?_
 refine kr ss.length (fun j=>⟨[(17,.d (I j)),(16,.d (I (((ss.map aW).length:Nat):Int))),(15,.ref 3 gs 0 ss.length),(12,.d (I 2)),(11,.agg [.d .nil,.ref 2 gm 0 ms.length,.ref 3 gs 0 ss.length,.ref 4 gc 0 hs.length]),(3,.d (I ((0+(bG ms:Nat))+(bG (ss.take j):Nat)))),(2,.d (.bool false)),(0,.ptr 0 0)],bk 0 (wG [.d C1,.d C2,.d C3,.d C4,.d C5,.d C6] xc rc gm ms.length (ms.map aW) gs ss.length (ss.map aW) gc hs.length (hs.map aW) xu ru xp rp st gv xv rv sp gf xf rf),9,[],9⟩) (fun j=>True) ?_ (fun _=>?_) (fun j hj _=>?_)
 ·exact Uw.wM
 rotate_left 1
 ·obtain ⟨k,ks,vs,e1,e2⟩:=ass j hj
  have e3:=bss j;have e4:=bss (j+1);clear ams ass ahs bms bss bhs
  repeat refine aw ?_
  exact gI j trivial (by exact Uw.wM)
 rw [zss]
 repeat refine aw ?_
 refine bp ?_
 repeat refine aw ?_
 refine eM ?_
 repeat refine aw ?_
 refine kr hs.length (fun j=>⟨[(17,.d (I j)),(16,.d (I (((hs.map aW).length:Nat):Int))),(15,.ref 4 gc 0 hs.length),(12,.d (I 3)),(11,.agg [.d .nil,.ref 2 gm 0 ms.length,.ref 3 gs 0 ss.length,.ref 4 gc 0 hs.length]),(3,.d (I (((0+(bG ms:Nat))+(bG ss:Nat))+(bG (hs.take j):Nat)))),(2,.d (.bool false)),(0,.ptr 0 0)],bk 0 (wG [.d C1,.d C2,.d C3,.d C4,.d C5,.d C6] xc rc gm ms.length (ms.map aW) gs ss.length (ss.map aW) gc hs.length (hs.map aW) xu ru xp rp st gv xv rv sp gf xf rf),9,[],9⟩) (fun j=>True) ?_ (fun _=>?_) (fun j hj _=>?_)
 ·exact Uw.wM
 rotate_left 1
 ·obtain ⟨k,ks,vs,e1,e2⟩:=ahs j hj
  have e3:=bhs j;have e4:=bhs (j+1);clear ams ass ahs bms bss bhs
  repeat refine aw ?_
  exact gI j trivial (by exact Uw.wM)
 rw [zhs]
 repeat refine aw ?_
 refine bp ?_
 repeat refine aw ?_
 refine eM ?_
 repeat refine aw ?_
 refine pZ ?_
 repeat refine aw ?_
 refine dh 9 rfl rfl ?_;exact Uw.wM
end Uw.Tryz.El
