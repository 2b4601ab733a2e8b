/- J6: Xa Pa Pa2 Pa3 Pt Pu Pv Pw Ca Cd Ce Cf Cb Da Db Ck Cg Ch Ci Cj Cl Cm Ck0 Fa Ba Bb Bc Bd Ob Oc Oe (merged by merge2.py from the working texts). -/
import Derived.Test.YtikpfliiodgonaaGreatDoorJ4
import Derived.Test.YtikpfliiodgonaaGreatDoorJ3
import Derived.Lib.Join
import Derived.Test.YtikpfliiodgonaaGreatDoorJ5
import Derived.RangeFuncBound
import Derived.Shelf.Abstract
import Derived.OwnWalkIn
import Derived.TacticsInMore
import Derived.LoopNIn
import Derived.LoopIn
set_option maxRecDepth 100000
set_option maxHeartbeats 4000000
set_option linter.unusedSimpArgs false
set_option linter.unnecessarySimpa false
set_option linter.unusedVariables false
set_option linter.unusedSectionVars false
namespace Uw.Tryz
open Go Uw
abbrev I (n:Int):Dat:=.int .i64 n
structure Tok where
 kind:Int
 text:List UInt8
 n:Int
 at_:Int
 deriving DecidableEq,Inhabited
def UW (t:Tok):List Dat:=[I t.kind,.str t.text,I t.n,I t.at_]
def Rq (l:List Tok):Dat:=.slice 4 (l.map UW) false
def cls (c:UInt8):Nat:=
 if 97<=c.toNat/\c.toNat<=122\/65<=c.toNat/\c.toNat<=90 then 1
 else if 48<=c.toNat/\c.toNat<=57 then 2
 else if c.toNat=95 then 3
 else if c.toNat=9\/c.toNat=10\/c.toNat=32 then 4
 else if c.toNat=40\/c.toNat=41\/c.toNat=123\/c.toNat=125\/c.toNat=44\/c.toNat=59\/c.toNat=46\/c.toNat=61\/c.toNat=43\/c.toNat=45\/c.toNat=42\/c.toNat=60 then 5
 else 0
def nameB (c:UInt8):Bool:=decide (cls c=1)||decide (cls c=2)||decide (cls c=3)
def eZ (c:UInt8):Bool:=decide (cls c=2)
def sq (l:List UInt8):Nat:=l.foldl (fun n b=>10 * n+(b.toNat - 48)) 0
def I3 (r:List UInt8):Bool:=match r with|[]=>false|b::_=>decide (cls b=1)||decide (cls b=3)
def eqq (r:List UInt8):Bool:=match r with|[]=>false|b::_=>decide (b.toNat=61)
def dj:List UInt8->Option (Int×Nat×Int)
 | []=>none
 | c::t=>
  if cls c=1 then (if 1+(t.takeWhile nameB).length<=12 then some (1,1+(t.takeWhile nameB).length,0) else none)
  else if cls c=2 then
   (if 1+(t.takeWhile eZ).length<=10/\¬(1<1+(t.takeWhile eZ).length/\c.toNat=48)/\sq (c::t.takeWhile eZ)<4294967296/\I3 (t.dropWhile eZ)=false
    then some (2,1+(t.takeWhile eZ).length,(sq (c::t.takeWhile eZ):Nat)) else none)
  else if cls c=5 then (if c.toNat=61/\eqq t=true then some (3,2,0) else some (3,1,0))
  else none
def Ew:Nat->List UInt8->Int->Option (List Tok)
 | _,[],_=>some []
 | 0,_,_=>none
 | f+1,c::t,at_=>
  if cls c=4 then Ew f t (at_+1)
  else match dj (c::t) with
   | none=>none
   | some (k,n,v)=>(Ew f ((c::t).drop n) (at_+n)).map (⟨k,(c::t).take n,v,at_⟩::·)
def qC (r:List UInt8) (at_:Int):Option (List Tok):=Ew r.length r at_
theorem mY {α:Type} (p:α->Bool) (l:List α):(l.takeWhile p).length<=l.length:=(adZ (p:=p) (l:=l)).length_le
theorem ui {r:List UInt8} {k:Int} {n:Nat} {v:Int} (h:dj r=some (k,n,v)):1<=n/\n<=r.length:=by
 cases r with
 | nil=>simp [dj] at h
 | cons c t=>
  have h1:=mY nameB t;have h2:=mY eZ t;rw [dj] at h;by_cases a1:cls c=1
  ·rw [if_pos a1] at h
   split at h
   ·simp at h;simp;omega
   ·cases h
  ·rw [if_neg a1] at h
   by_cases a2:cls c=2
   ·rw [if_pos a2] at h
    split at h
    ·simp only [abL,acw] at h;simp only [abI];omega
    ·cases h
   ·rw [if_neg a2] at h
    split at h
    ·split at h
     ·rename_i h3
      cases t with
      | nil=>simp [eqq] at h3
      | cons b u=>simp at h;simp;omega
     ·simp at h;simp;omega
    ·cases h
theorem tM:∀(f g:Nat) (r:List UInt8) (a:Int),r.length<=f->r.length<=g->Ew f r a=Ew g r a
 | 0,g,[],a,_,_=>by cases g<;>rfl
 | f+1,g,[],a,_,_=>by cases g<;>rfl
 | 0,_,_::_,_,h,_=>by simp at h
 | _+1,0,_::_,_,_,h=>by simp at h
 | f+1,g+1,c::t,a,h1,h2=>by
  simp only [abI] at h1 h2;rw [Ew,Ew];by_cases hb:cls c=4
  ·rw [if_pos hb,if_pos hb];exact tM f g t (a+1) (by omega) (by omega)
  ·rw [if_neg hb,if_neg hb]
   cases ht:dj (c::t) with
   | none=>rfl
   | some x=>
    obtain ⟨k,n,v⟩:=x;have:=ui ht;simp only [abI] at this;simp only;rw [tM f g ((c::t).drop n) (a+n) (by simp;omega) (by simp;omega)]
theorem Rr (a:Int):qC [] a=some []:=rfl
theorem LI (c:UInt8) (t:List UInt8) (a:Int) (h:cls c=4):qC (c::t) a=qC t (a+1):=by
 rw [qC,abI,Ew,if_pos h];rfl
theorem O6 (c:UInt8) (t:List UInt8) (a:Int) (h:cls c≠4) (h2:dj (c::t)=none):qC (c::t) a=none:=by
 rw [qC,abI,Ew,if_neg h,h2]
theorem Rt (c:UInt8) (t:List UInt8) (a:Int) (h:cls c≠4) {k:Int} {n:Nat} {v:Int} (h2:dj (c::t)=some (k,n,v)):qC (c::t) a=(qC ((c::t).drop n) (a+n)).map (⟨k,(c::t).take n,v,a⟩::·):=by
 have:=ui h2;simp only [abI] at this;rw [qC,abI,Ew,if_neg h,h2];simp only;rw [qC,tM t.length _ ((c::t).drop n) (a+n) (by simp;omega) (abu _)]
def tN (s:List UInt8):List Tok×Int:=if 4000<s.length then ([],2) else match qC s 0 with|none=>([],3)|some l=>(l,0)
def LJ (x:List Tok×Int):Dat:=.tuple [Rq x.1,I x.2]
end Uw.Tryz
namespace Uw.Tryz
open Go Uw
abbrev Str:=List UInt8
mutual
inductive Ex where
 | num (n:Int)
 | name (s:Str)
 | bin (k:Int) (a b:Ex)
 | call (o v:Str) (ar:Exs)
inductive Exs where
 | nil
 | cons (e:Ex) (r:Exs)
end
mutual
inductive Stm where
 | set (s:Str) (e:Ex)
 | task (par:Bool) (to f:Str) (ar:Exs)
 | sync
 | if1 (e:Ex) (a:Bl)
 | if2 (e:Ex) (a b:Bl)
 | loop (e:Ex) (a:Bl)
 | one (k:Int) (e:Ex)
 | act (o v:Str) (ar:Exs)
inductive Bl where
 | nil
 | cons (s:Stm) (r:Bl)
end
def Exs.length:Exs->Nat
 | .nil=>0
 | .cons _ r=>r.length+1
inductive R (α:Type) where
 | ok (a:α) (r:List Tok)
 | bad
 | out
def R.bind {α β:Type} (x:R α) (f:α->List Tok->R β):R β:=
 match x with
 | .ok a r=>f a r
 | .bad=>.bad
 | .out=>.out
def hd (r:List Tok):Str:=match r with|[]=>[]|t::_=>t.text
def want (s:Str) (r:List Tok):R Unit:=if hd r=s then .ok () r.tail else .bad
def Wh:Str:=[99,101,108,108]
def Y0:Str:=[109,97,112]
def Ru:Str:=[115,116,97,99,107]
def Wi:Str:=[99,104,97,110]
def Fz:Str:=[102,117,110,99]
def cT:Str:=[115,112,97,119,110]
def I4:Str:=[112,97,114]
def jM:Str:=[115,121,110,99]
def sIf:Str:=[105,102]
def Rw:Str:=[101,108,115,101]
def LK:Str:=[119,104,105,108,101]
def Bg:Str:=[114,101,116,117,114,110]
def dJ:Str:=[97,115,115,101,114,116]
def Y1 (s:Str):Bool:=decide (s=Wh)||decide (s=Y0)||decide (s=Ru)||decide (s=Wi)||decide (s=Fz)||decide (s=cT)||decide (s=I4)||decide (s=jM)||decide (s=sIf)||decide (s=Rw)||decide (s=LK)||decide (s=Bg)||decide (s=dJ)
def ye (k:Int) (r:List Tok):R Tok:=
 match r with
 | []=>.bad
 | t::r'=>if t.kind=k then .ok t r' else .bad
def isNum (r:List Tok):Bool:=match r with|[]=>false|t::_=>decide (t.kind=2)
def numOf (r:List Tok):Int:=match r with|[]=>0|t::_=>t.n
def nX (r:List Tok):R Str:=(ye 1 r).bind fun t r'=>if Y1 t.text then .bad else .ok t.text r'
mutual
def pd:Nat->List Tok->R Ex
 | 0,_=>.out
 | n+1,r=>
  if hd r=[40] then (fc n r.tail).bind fun e r=>(want [41] r).bind fun _ r=>.ok e r
  else if isNum r then .ok (.num (numOf r)) r.tail
  else (nX r).bind fun s r=>if hd r=[46] then (lz n s r).bind fun x r=>.ok (.call s x.1 x.2) r else .ok (.name s) r
def lz:Nat->Str->List Tok->R (Str×Exs)
 | 0,_,_=>.out
 | n+1,s,r=>(want [46] r).bind fun _ r=>(nX r).bind fun v r=>(nY n r).bind fun ar r=>.ok (v,ar) r
def nY:Nat->List Tok->R Exs
 | 0,_=>.out
 | n+1,r=>(want [40] r).bind fun _ r=>if hd r=[41] then .ok .nil r.tail else (fc n r).bind fun e r=>(ig n r).bind fun es r=>.ok (.cons e es) r
def ig:Nat->List Tok->R Exs
 | 0,_=>.out
 | n+1,r=>if hd r=[44] then (fc n r.tail).bind fun e r=>(ig n r).bind fun es r=>.ok (.cons e es) r
  else (want [41] r).bind fun _ r=>.ok .nil r
def mJ:Nat->List Tok->R Ex
 | 0,_=>.out
 | n+1,r=>(pd n r).bind fun e r=>jN n e r
def jN:Nat->Ex->List Tok->R Ex
 | 0,_,_=>.out
 | n+1,left,r=>if hd r=[42] then (pd n r.tail).bind fun e r=>jN n (.bin 5 left e) r else .ok left r
def uO:Nat->List Tok->R Ex
 | 0,_=>.out
 | n+1,r=>(mJ n r).bind fun e r=>mK n e r
def mK:Nat->Ex->List Tok->R Ex
 | 0,_,_=>.out
 | n+1,left,r=>
  if hd r=[43] then (mJ n r.tail).bind fun e r=>mK n (.bin 3 left e) r
  else if hd r=[45] then (mJ n r.tail).bind fun e r=>mK n (.bin 4 left e) r
  else .ok left r
def fc:Nat->List Tok->R Ex
 | 0,_=>.out
 | n+1,r=>(uO n r).bind fun left r=>
  if hd r=[60] then (uO n r.tail).bind fun e r=>.ok (.bin 6 left e) r
  else if hd r=[61,61] then (uO n r.tail).bind fun e r=>.ok (.bin 7 left e) r
  else .ok left r
end
def iN (n:Nat) (to:Str) (r:List Tok):R Stm:=
 (if hd r=cT then R.ok false r.tail else (want I4 r).bind fun _ r=>.ok true r).bind fun par r=>
  (nX r).bind fun f r=>(nY n r).bind fun ar r=>if par=true/\ar.length≠2 then .bad else .ok (.task par to f ar) r
def kJ (n:Nat) (r:List Tok):R Stm:=
 if hd r=cT\/hd r=I4 then iN n [] r
 else if hd r=jM then .ok .sync r.tail
 else if hd r=Bg then (fc n r.tail).bind fun e r=>.ok (.one 15 e) r
 else if hd r=dJ then (fc n r.tail).bind fun e r=>.ok (.one 16 e) r
 else (nX r).bind fun s r=>
  if hd r=[46] then (lz n s r).bind fun x r=>.ok (.act s x.1 x.2) r
  else (want [61] r).bind fun _ r=>
   if hd r=cT\/hd r=I4 then iN n s r else (fc n r).bind fun e r=>.ok (.set s e) r
mutual
def rW:Nat->List Tok->R Stm
 | 0,_=>.out
 | n+1,r=>
  if hd r=sIf then (fc n r.tail).bind fun e r=>(fP n r).bind fun a r=>
   if hd r=Rw then (fP n r.tail).bind fun b r=>.ok (.if2 e a b) r else .ok (.if1 e a) r
  else if hd r=LK then (fc n r.tail).bind fun e r=>(fP n r).bind fun a r=>.ok (.loop e a) r
  else (kJ n r).bind fun s r=>(want [59] r).bind fun _ r=>.ok s r
def fP:Nat->List Tok->R Bl
 | 0,_=>.out
 | n+1,r=>(want [123] r).bind fun _ r=>jO n r
def jO:Nat->List Tok->R Bl
 | 0,_=>.out
 | n+1,r=>if hd r=[125] then .ok .nil r.tail else (rW n r).bind fun s r=>(jO n r).bind fun ss r=>.ok (.cons s ss) r
end
structure Dec where
 kind:Int
 name:Str
 n:Int
 deriving DecidableEq,Inhabited
structure Fn where
 name:Str
 args:List Str
 body:Bl
def gK:Nat->List Tok->R (List Str)
 | 0,_=>.out
 | n+1,r=>if hd r=[44] then (nX r.tail).bind fun s r=>(gK n r).bind fun l r=>.ok (s::l) r
  else (want [41] r).bind fun _ r=>.ok [] r
def tO (n:Nat) (r:List Tok):R (List Str):=(want [40] r).bind fun _ r=>
 if hd r=[41] then .ok [] r.tail else (nX r).bind fun s r=>(gK n r).bind fun l r=>.ok (s::l) r
def Ey (n:Nat) (r:List Tok):R Fn:=(want Fz r).bind fun _ r=>(nX r).bind fun s r=>(tO n r).bind fun l r=>(fP n r).bind fun b r=>.ok ⟨s,l,b⟩ r
def kindOf (s:Str):Option Int:=if s=Wh then some 0 else if s=Y0 then some 1 else if s=Ru then some 2 else if s=Wi then some 3 else none
def I5 (r:List Tok):R Dec:=(ye 1 r).bind fun t r=>match kindOf t.text with
 | none=>.bad
 | some k=>(nX r).bind fun s r=>
  (if k=0/\hd r=[61] then (ye 2 r.tail).bind fun t r=>R.ok t.n r else .ok 0 r).bind fun v r=>(want [59] r).bind fun _ r=>.ok ⟨k,s,v⟩ r
def Dm:Nat->List Tok->R (List Dec)
 | 0,_=>.out
 | n+1,r=>if r=[]\/hd r=Fz then .ok [] r else (I5 r).bind fun d r=>(Dm n r).bind fun l r=>.ok (d::l) r
def I6:Nat->List Tok->R (List Fn)
 | 0,_=>.out
 | n+1,r=>if r=[] then .ok [] r else (Ey n r).bind fun f r=>(I6 n r).bind fun l r=>.ok (f::l) r
def Wj (n:Nat) (r:List Tok):R (List Dec×List Fn):=(Dm n r).bind fun d r=>(I6 n r).bind fun f r=>.ok (d,f) r
structure Nod where
 kind:Int
 n:Int
 name:Str
 name2:Str
 of:List Nat
 deriving DecidableEq,Inhabited
mutual
def Ex.sz:Ex->Nat
 | .num _=>1
 | .name _=>1
 | .bin _ a b=>a.sz+b.sz+1
 | .call _ _ ar=>ar.sz+1
def Exs.sz:Exs->Nat
 | .nil=>0
 | .cons e r=>e.sz+r.sz
end
def Exs.places:Exs->Nat->List Nat
 | .nil,_=>[]
 | .cons e r,b=>(b+e.sz - 1)::r.places (b+e.sz)
mutual
def Ex.flat:Ex->Nat->List Nod
 | .num n,_=>[⟨1,n,[],[],[]⟩]
 | .name s,_=>[⟨2,0,s,[],[]⟩]
 | .bin k x y,b=>x.flat b++y.flat (b+x.sz)++[⟨k,0,[],[],[b+x.sz - 1,b+x.sz+y.sz - 1]⟩]
 | .call o v ar,b=>ar.flat b++[⟨8,0,o,v,ar.places b⟩]
def Exs.flat:Exs->Nat->List Nod
 | .nil,_=>[]
 | .cons e r,b=>e.flat b++r.flat (b+e.sz)
end
mutual
def Stm.sz:Stm->Nat
 | .set _ e=>e.sz+1
 | .task _ _ _ ar=>ar.sz+1
 | .sync=>1
 | .if1 e a=>e.sz+(a.sz+1)+1
 | .if2 e a b=>e.sz+(a.sz+1)+(b.sz+1)+1
 | .loop e a=>e.sz+(a.sz+1)+1
 | .one _ e=>e.sz+1
 | .act _ _ ar=>ar.sz+1+1
def Bl.sz:Bl->Nat
 | .nil=>0
 | .cons s r=>s.sz+r.sz
end
def Bl.places:Bl->Nat->List Nat
 | .nil,_=>[]
 | .cons s r,b=>(b+s.sz - 1)::r.places (b+s.sz)
mutual
def Stm.flat:Stm->Nat->List Nod
 | .set s e,b=>e.flat b++[⟨9,0,s,[],[b+e.sz - 1]⟩]
 | .task par to f ar,b=>ar.flat b++[⟨if par then 11 else 10,0,to,f,ar.places b⟩]
 | .sync,b=>[⟨12,0,[],[],[]⟩]
 | .if1 e x,b=>e.flat b++(x.flat (b+e.sz)++[⟨18,0,[],[],x.places (b+e.sz)⟩])++[⟨13,0,[],[],[b+e.sz - 1,b+e.sz+(x.sz+1) - 1]⟩]
 | .if2 e x y,b=>e.flat b++(x.flat (b+e.sz)++[⟨18,0,[],[],x.places (b+e.sz)⟩])++(y.flat (b+e.sz+(x.sz+1))++[⟨18,0,[],[],y.places (b+e.sz+(x.sz+1))⟩])++[⟨13,0,[],[],[b+e.sz - 1,b+e.sz+(x.sz+1) - 1,b+e.sz+(x.sz+1)+(y.sz+1) - 1]⟩]
 | .loop e x,b=>e.flat b++(x.flat (b+e.sz)++[⟨18,0,[],[],x.places (b+e.sz)⟩])++[⟨14,0,[],[],[b+e.sz - 1,b+e.sz+(x.sz+1) - 1]⟩]
 | .one k e,b=>e.flat b++[⟨k,0,[],[],[b+e.sz - 1]⟩]
 | .act o v ar,b=>ar.flat b++[⟨8,0,o,v,ar.places b⟩]++[⟨17,0,[],[],[b+ar.sz+1 - 1]⟩]
def Bl.flat:Bl->Nat->List Nod
 | .nil,_=>[]
 | .cons s r,b=>s.flat b++r.flat (b+s.sz)
end
def Bl.all (x:Bl) (b:Nat):List Nod:=x.flat b++[⟨18,0,[],[],x.places b⟩]
mutual
theorem Ex.G6:∀(e:Ex),1<=e.sz
 | .num _=>abu _
 | .name _=>abu _
 | .bin _ a b=>by rw [Ex.sz];omega
 | .call _ _ ar=>by rw [Ex.sz];omega
end
theorem Stm.G6 (s:Stm):1<=s.sz:=by cases s<;>simp only [Stm.sz]<;>omega
end Uw.Tryz
namespace Uw.Tryz
open Go Uw
theorem bind_ok {α β:Type} {x:R α} {f:α->List Tok->R β} {b:β} {r:List Tok}:x.bind f = .ok b r<->∃a r1,x = .ok a r1/\f a r1 = .ok b r:=by
 cases x with
 | ok a r1=>exact ⟨fun h=>⟨a,r1,rfl,h⟩,fun ⟨_,_,h1,h2⟩=>by injection h1 with e1 e2;subst e1 e2;exact h2⟩
 | bad=>exact ⟨fun h=>(by cases h),fun ⟨_,_,h,_⟩=>(by cases h)⟩
 | out=>exact ⟨fun h=>(by cases h),fun ⟨_,_,h,_⟩=>(by cases h)⟩
def Suf (r r' : List Tok) (s:Nat):Prop:=∃j,j<=r.length/\r' = r.drop j/\s<=j
theorem Suf.refl (r:List Tok):Suf r r 0:=⟨0,by simp,rfl,abu _⟩
theorem Suf.trans {a b c:List Tok} {s t:Nat} (h1:Suf a b s) (h2:Suf b c t):Suf a c (s+t):=by
 obtain ⟨i,i1,rfl,i3⟩:=h1;obtain ⟨j,j1,rfl,j3⟩:=h2;simp at j1;exact ⟨i+j,by omega,by rw [ac6],by omega⟩
theorem Suf.le {a b:List Tok} {s t:Nat} (h:Suf a b s) (hl:t<=s):Suf a b t:=by
 obtain ⟨i,i1,i2,i3⟩:=h;exact ⟨i,i1,i2,by omega⟩
theorem Suf.tail {r:List Tok} (h:r≠[]):Suf r r.tail 1:=by
 cases r with
 | nil=>exact absurd rfl h
 | cons a l=>exact ⟨1,by simp,rfl,abu _⟩
theorem Y2 {r:List Tok} {s:Str} (h:hd r=s) (hs:s≠[]):r≠[]:=by
 rintro rfl;exact hs h.symm
theorem Suf.hd {r:List Tok} {s:Str} (h:hd r=s) (hs:s≠[]):Suf r r.tail 1:=Suf.tail (Y2 h hs)
theorem M8 {s:Str} {r r' : List Tok} {u:Unit} (h:want s r = .ok u r'):Uw.Tryz.hd r=s/\r' = r.tail:=by
 rw [want] at h
 split at h
 ·rename_i hh
  injection h with _ h
  exact ⟨hh,h.symm⟩
 ·cases h
theorem G7 {k:Int} {r r' : List Tok} {t:Tok} (h:ye k r = .ok t r'):∃q,r=t::q/\r' = q/\t.kind=k:=by
 cases r with
 | nil=>rw [ye] at h;cases h
 | cons a q=>
  rw [ye] at h
  split at h
  ·rename_i hk
   injection h with h1 h2
   subst h1 h2;exact ⟨q,rfl,rfl,hk⟩
  ·cases h
theorem M9 {r r' : List Tok} {s:Str} (h:nX r = .ok s r'):∃t,r=t::r'/\s=t.text/\t.kind=1/\Y1 t.text=false:=by
 rw [nX,bind_ok] at h;obtain ⟨t,r1,h1,h2⟩:=h;obtain ⟨q,rfl,rfl,hk⟩:=G7 h1
 split at h2
 ·cases h2
 ·rename_i hkw
  injection h2 with e1 e2
  subst e1 e2;exact ⟨t,rfl,rfl,hk,by simpa using hkw⟩
theorem Suf.name {r r' : List Tok} {s:Str} (h:nX r = .ok s r'):Suf r r' 1:=by
 obtain ⟨t,rfl,_⟩:=M9 h;exact ⟨1,by simp,rfl,abu _⟩
theorem Suf.want {s:Str} (hs:s≠[]) {r r' : List Tok} {u:Unit} (h:want s r = .ok u r'):Suf r r' 1:=by
 obtain ⟨h1,rfl⟩:=M8 h;exact Suf.hd h1 hs
structure Z4 (n:Nat):Prop where
 Ez:∀r e r',pd n r = .ok e r'->Suf r r' e.sz
 call:∀s r x r',lz n s r = .ok x r'->Suf r r' (x.2.sz+1)
 args:∀r x r',nY n r = .ok x r'->Suf r r' (x.sz+1)
 Dn:∀r x r',ig n r = .ok x r'->Suf r r' x.sz
 prod:∀r e r',mJ n r = .ok e r'->Suf r r' e.sz
 zR:∀l r e r',jN n l r = .ok e r'->Suf r r' (e.sz - l.sz)/\l.sz<=e.sz
 sum:∀r e r',uO n r = .ok e r'->Suf r r' e.sz
 sumT:∀l r e r',mK n l r = .ok e r'->Suf r r' (e.sz - l.sz)/\l.sz<=e.sz
 expr:∀r e r',fc n r = .ok e r'->Suf r r' e.sz
theorem rX:∀n,Z4 n
 | 0=>by
  refine ⟨?_,?_,?_,?_,?_,?_,?_,?_,?_⟩
  ·intro _ _ _ h;rw [pd] at h;cases h
  ·intro _ _ _ _ h;rw [lz] at h;cases h
  ·intro _ _ _ h;rw [nY] at h;cases h
  ·intro _ _ _ h;rw [ig] at h;cases h
  ·intro _ _ _ h;rw [mJ] at h;cases h
  ·intro _ _ _ _ h;rw [jN] at h;cases h
  ·intro _ _ _ h;rw [uO] at h;cases h
  ·intro _ _ _ _ h;rw [mK] at h;cases h
  ·intro _ _ _ h;rw [fc] at h;cases h
 | n+1=>by
  have ih:=rX n;refine ⟨?_,?_,?_,?_,?_,?_,?_,?_,?_⟩
  ·intro r e r' h
   rw [pd] at h
   split at h
   ·rename_i hh
    obtain ⟨e1,r1,h1,h⟩:=bind_ok.1 h;obtain ⟨_,r2,h2,h⟩:=bind_ok.1 h;injection h with h3 h4
    subst h3 h4;exact ((Suf.hd hh (by simp)).trans ((ih.expr _ _ _ h1).trans (Suf.want (by simp) h2))).le (by omega)
   ·split at h
    ·rename_i hn
     injection h with h1 h2
     subst h1 h2;exact (Suf.tail (by rintro rfl;cases hn)).le (by simp [Ex.sz])
    ·obtain ⟨s,r1,h1,h⟩:=bind_ok.1 h
     have s1:=Suf.name h1
     split at h
     ·obtain ⟨x,r2,h2,h⟩:=bind_ok.1 h
      injection h with h3 h4
      subst h3 h4;exact (s1.trans (ih.call _ _ _ _ h2)).le (by rw [Ex.sz];omega)
     ·injection h with h3 h4
      subst h3 h4;exact s1.le (by simp [Ex.sz])
  ·intro s r x r' h
   rw [lz] at h;obtain ⟨_,r1,h1,h⟩:=bind_ok.1 h;obtain ⟨v,r2,h2,h⟩:=bind_ok.1 h;obtain ⟨ar,r3,h3,h⟩:=bind_ok.1 h;injection h with h4 h5
   subst h4 h5;exact ((Suf.want (by simp) h1).trans ((Suf.name h2).trans (ih.args _ _ _ h3))).le (by simp only;omega)
  ·intro r x r' h
   rw [nY] at h;obtain ⟨_,r1,h1,h⟩:=bind_ok.1 h;have s1:=Suf.want (by simp) h1
   split at h
   ·rename_i hh
    injection h with h4 h5
    subst h4 h5;exact (s1.trans (Suf.hd hh (by simp))).le (by simp [Exs.sz])
   ·obtain ⟨e,r2,h2,h⟩:=bind_ok.1 h
    obtain ⟨es,r3,h3,h⟩:=bind_ok.1 h;injection h with h4 h5
    subst h4 h5;exact (s1.trans ((ih.expr _ _ _ h2).trans (ih.Dn _ _ _ h3))).le (by rw [Exs.sz];omega)
  ·intro r x r' h
   rw [ig] at h
   split at h
   ·rename_i hh
    obtain ⟨e,r2,h2,h⟩:=bind_ok.1 h;obtain ⟨es,r3,h3,h⟩:=bind_ok.1 h;injection h with h4 h5
    subst h4 h5;exact ((Suf.hd hh (by simp)).trans ((ih.expr _ _ _ h2).trans (ih.Dn _ _ _ h3))).le (by rw [Exs.sz];omega)
   ·obtain ⟨_,r1,h1,h⟩:=bind_ok.1 h
    injection h with h4 h5
    subst h4 h5;exact (Suf.want (by simp) h1).le (by simp [Exs.sz])
  ·intro r e r' h
   rw [mJ] at h;obtain ⟨e1,r1,h1,h⟩:=bind_ok.1 h;obtain ⟨a1,a2⟩:=ih.zR _ _ _ _ h;exact ((ih.Ez _ _ _ h1).trans a1).le (by omega)
  ·intro l r e r' h
   rw [jN] at h
   split at h
   ·rename_i hh
    obtain ⟨e1,r1,h1,h⟩:=bind_ok.1 h;obtain ⟨a1,a2⟩:=ih.zR _ _ _ _ h;rw [Ex.sz] at a1 a2;exact ⟨((Suf.hd hh (by simp)).trans ((ih.Ez _ _ _ h1).trans a1)).le (by omega),by omega⟩
   ·injection h with h4 h5
    subst h4 h5;exact ⟨(Suf.refl _).le (by omega),abu _⟩
  ·intro r e r' h
   rw [uO] at h;obtain ⟨e1,r1,h1,h⟩:=bind_ok.1 h;obtain ⟨a1,a2⟩:=ih.sumT _ _ _ _ h;exact ((ih.prod _ _ _ h1).trans a1).le (by omega)
  ·intro l r e r' h
   rw [mK] at h
   split at h
   ·rename_i hh
    obtain ⟨e1,r1,h1,h⟩:=bind_ok.1 h;obtain ⟨a1,a2⟩:=ih.sumT _ _ _ _ h;rw [Ex.sz] at a1 a2;exact ⟨((Suf.hd hh (by simp)).trans ((ih.prod _ _ _ h1).trans a1)).le (by omega),by omega⟩
   ·split at h
    ·rename_i hh
     obtain ⟨e1,r1,h1,h⟩:=bind_ok.1 h;obtain ⟨a1,a2⟩:=ih.sumT _ _ _ _ h;rw [Ex.sz] at a1 a2;exact ⟨((Suf.hd hh (by simp)).trans ((ih.prod _ _ _ h1).trans a1)).le (by omega),by omega⟩
    ·injection h with h4 h5
     subst h4 h5;exact ⟨(Suf.refl _).le (by omega),abu _⟩
  ·intro r e r' h
   rw [fc] at h;obtain ⟨e1,r1,h1,h⟩:=bind_ok.1 h;have s1:=ih.sum _ _ _ h1
   split at h
   ·rename_i hh
    obtain ⟨e2,r2,h2,h⟩:=bind_ok.1 h;injection h with h4 h5
    subst h4 h5;exact (s1.trans ((Suf.hd hh (by simp)).trans (ih.sum _ _ _ h2))).le (by rw [Ex.sz];omega)
   ·split at h
    ·rename_i hh
     obtain ⟨e2,r2,h2,h⟩:=bind_ok.1 h;injection h with h4 h5
     subst h4 h5;exact (s1.trans ((Suf.hd hh (by simp)).trans (ih.sum _ _ _ h2))).le (by rw [Ex.sz];omega)
    ·injection h with h4 h5
     subst h4 h5;exact s1
end Uw.Tryz
namespace Uw.Tryz
open Go Uw
theorem y7 {n:Nat} {to:Str} {r r' : List Tok} {s:Stm} (h:iN n to r = .ok s r'):Suf r r' s.sz:=by
 rw [iN] at h;obtain ⟨p,r1,h1,h⟩:=bind_ok.1 h;obtain ⟨f,r2,h2,h⟩:=bind_ok.1 h;obtain ⟨ar,r3,h3,h⟩:=bind_ok.1 h;have s1:Suf r r1 1:=by
  split at h1
  ·rename_i hh
   injection h1 with _ e
   subst e;exact Suf.hd hh (by decide)
  ·obtain ⟨_,r4,h4,h5⟩:=bind_ok.1 h1
   injection h5 with _ e
   subst e;exact Suf.want (by decide) h4
 split at h
 ·cases h
 ·injection h with e1 e2
  subst e1 e2;exact (s1.trans ((Suf.name h2).trans ((rX n).args _ _ _ h3))).le (by rw [Stm.sz];omega)
theorem LL {n:Nat} {r r' : List Tok} {s:Stm} (h:kJ n r = .ok s r'):Suf r r' s.sz:=by
 rw [kJ] at h
 split at h
 ·exact y7 h
 ·split at h
  ·rename_i hh
   injection h with e1 e2
   subst e1 e2;exact Suf.hd hh (by decide)
  ·split at h
   ·rename_i hh
    obtain ⟨e,r1,h1,h⟩:=bind_ok.1 h;injection h with e1 e2
    subst e1 e2;exact ((Suf.hd hh (by decide)).trans ((rX n).expr _ _ _ h1)).le (by rw [Stm.sz];omega)
   ·split at h
    ·rename_i hh
     obtain ⟨e,r1,h1,h⟩:=bind_ok.1 h;injection h with e1 e2
     subst e1 e2;exact ((Suf.hd hh (by decide)).trans ((rX n).expr _ _ _ h1)).le (by rw [Stm.sz];omega)
    ·obtain ⟨nm,r1,h1,h⟩:=bind_ok.1 h
     split at h
     ·obtain ⟨x,r2,h2,h⟩:=bind_ok.1 h
      injection h with e1 e2
      subst e1 e2;exact ((Suf.name h1).trans ((rX n).call _ _ _ _ h2)).le (by rw [Stm.sz];omega)
     ·obtain ⟨_,r2,h2,h⟩:=bind_ok.1 h
      have s2:=(Suf.name h1).trans (Suf.want (by decide) h2)
      split at h
      ·exact (s2.trans (y7 h)).le (by omega)
      ·obtain ⟨e,r3,h3,h⟩:=bind_ok.1 h
       injection h with e1 e2
       subst e1 e2;exact (s2.trans ((rX n).expr _ _ _ h3)).le (by rw [Stm.sz];omega)
structure Z5 (n:Nat):Prop where
 stmt:∀r s r',rW n r = .ok s r'->Suf r r' s.sz
 block:∀r s r',fP n r = .ok s r'->Suf r r' (s.sz+1)
 stmts:∀r s r',jO n r = .ok s r'->Suf r r' s.sz
theorem Wl:∀n,Z5 n
 | 0=>by
  refine ⟨?_,?_,?_⟩
  ·intro _ _ _ h;rw [rW] at h;cases h
  ·intro _ _ _ h;rw [fP] at h;cases h
  ·intro _ _ _ h;rw [jO] at h;cases h
 | n+1=>by
  have ih:=Wl n;refine ⟨?_,?_,?_⟩
  ·intro r s r' h
   rw [rW] at h
   split at h
   ·rename_i hh
    obtain ⟨e,r1,h1,h⟩:=bind_ok.1 h;obtain ⟨a,r2,h2,h⟩:=bind_ok.1 h;have s2:=(Suf.hd hh (by decide)).trans (((rX n).expr _ _ _ h1).trans (ih.block _ _ _ h2))
    split at h
    ·rename_i hh2
     obtain ⟨b,r3,h3,h⟩:=bind_ok.1 h;injection h with e1 e2
     subst e1 e2;exact (s2.trans ((Suf.hd hh2 (by decide)).trans (ih.block _ _ _ h3))).le (by rw [Stm.sz];omega)
    ·injection h with e1 e2
     subst e1 e2;exact s2.le (by rw [Stm.sz];omega)
   ·split at h
    ·rename_i hh
     obtain ⟨e,r1,h1,h⟩:=bind_ok.1 h;obtain ⟨a,r2,h2,h⟩:=bind_ok.1 h;injection h with e1 e2
     subst e1 e2;exact ((Suf.hd hh (by decide)).trans (((rX n).expr _ _ _ h1).trans (ih.block _ _ _ h2))).le (by rw [Stm.sz];omega)
    ·obtain ⟨e,r1,h1,h⟩:=bind_ok.1 h
     obtain ⟨_,r2,h2,h⟩:=bind_ok.1 h;injection h with e1 e2
     subst e1 e2;exact ((LL h1).trans (Suf.want (by decide) h2)).le (by omega)
  ·intro r s r' h
   rw [fP] at h;obtain ⟨_,r1,h1,h⟩:=bind_ok.1 h;exact ((Suf.want (by decide) h1).trans (ih.stmts _ _ _ h)).le (by omega)
  ·intro r s r' h
   rw [jO] at h
   split at h
   ·rename_i hh
    injection h with e1 e2
    subst e1 e2;exact (Suf.hd hh (by decide)).le (by simp [Bl.sz])
   ·obtain ⟨e,r1,h1,h⟩:=bind_ok.1 h
    obtain ⟨ss,r2,h2,h⟩:=bind_ok.1 h;injection h with e1 e2
    subst e1 e2;exact ((ih.stmt _ _ _ h1).trans (ih.stmts _ _ _ h2)).le (by rw [Bl.sz];omega)
end Uw.Tryz
namespace Uw.Tryz
open Go Uw
def eE {α:Type} (a:α):List Tok->R α:=fun r=>.ok a r
def UX {α:Type}:List Tok->R α:=fun _=>.bad
def cZ {α β:Type} (p:List Tok->R β) (f:β->List Tok->R α):List Tok->R α:=fun r=>(p r).bind f
def mL {α:Type} (s:Str) (p:List Tok->R α):List Tok->R α:=fun r=>(want s r).bind fun _ r=>p r
def gx {α:Type} (s:Str) (p q:List Tok->R α):List Tok->R α:=fun r=>if hd r=s then p r.tail else q r
def rY {α:Type} (s:Str) (p q:List Tok->R α):List Tok->R α:=fun r=>if hd r=s then p r else q r
def cName {α:Type} (f:Str->List Tok->R α):List Tok->R α:=fun r=>(nX r).bind f
def Na {α:Type} (k:Int) (f:Str->Int->List Tok->R α):List Tok->R α:=fun r=>(ye k r).bind fun t r=>f t.text t.n r
def Rx {α:Type} (f:Int->List Tok->R α) (q:List Tok->R α):List Tok->R α:=fun r=>if isNum r then f (numOf r) r.tail else q r
theorem I7 (n:Nat):pd (n+1)=gx [40] (cZ (fc n) fun e=>mL [41] (eE e)) (Rx (fun v=>eE (.num v)) (cName fun s=>rY [46] (cZ (lz n s) fun x=>eE (.call s x.1 x.2)) (eE (.name s)))):=by
 funext r;rw [pd];rfl
theorem I8 (n:Nat) (s:Str):lz (n+1) s=mL [46] (cName fun v=>cZ (nY n) fun ar=>eE (v,ar)):=by
 funext r;rw [lz];rfl
theorem I9 (n:Nat):nY (n+1)=mL [40] (gx [41] (eE .nil) (cZ (fc n) fun e=>cZ (ig n) fun es=>eE (.cons e es))):=by
 funext r;rw [nY];rfl
theorem FA (n:Nat):ig (n+1)=gx [44] (cZ (fc n) fun e=>cZ (ig n) fun es=>eE (.cons e es)) (mL [41] (eE .nil)):=by
 funext r;rw [ig];rfl
theorem Ja (n:Nat):mJ (n+1)=cZ (pd n) fun e=>jN n e:=by funext r;rw [mJ];rfl
theorem FB (n:Nat) (l:Ex):jN (n+1) l=gx [42] (cZ (pd n) fun e=>jN n (.bin 5 l e)) (eE l):=by funext r;rw [jN];rfl
theorem Nb (n:Nat):uO (n+1)=cZ (mJ n) fun e=>mK n e:=by funext r;rw [uO];rfl
theorem Jb (n:Nat) (l:Ex):mK (n+1) l=gx [43] (cZ (mJ n) fun e=>mK n (.bin 3 l e)) (gx [45] (cZ (mJ n) fun e=>mK n (.bin 4 l e)) (eE l)):=by funext r;rw [mK];rfl
theorem Jc (n:Nat):fc (n+1)=cZ (uO n) fun l=>gx [60] (cZ (uO n) fun e=>eE (.bin 6 l e)) (gx [61,61] (cZ (uO n) fun e=>eE (.bin 7 l e)) (eE l)):=by funext r;rw [fc];rfl
theorem FC (n:Nat) (to:Str):iN n to=cZ (gx cT (eE false) (mL I4 (eE true))) fun par=>cName fun f=>cZ (nY n) fun ar=>if par=true/\ar.length≠2 then UX else eE (.task par to f ar):=by
 funext r
 rw [iN];show R.bind _ _=R.bind _ _
 congr 1
 funext par r
 show R.bind _ _=R.bind _ _
 congr 1
 funext f r
 show R.bind _ _=R.bind _ _
 congr 1
 funext ar r
 split<;>rfl
theorem Dp (n:Nat):kJ n=rY cT (iN n []) (rY I4 (iN n []) (gx jM (eE .sync) (gx Bg (cZ (fc n) fun e=>eE (.one 15 e)) (gx dJ (cZ (fc n) fun e=>eE (.one 16 e))
  (cName fun s=>rY [46] (cZ (lz n s) fun x=>eE (.act s x.1 x.2)) (mL [61] (rY cT (iN n s) (rY I4 (iN n s) (cZ (fc n) fun e=>eE (.set s e)))))))))):=by
 have key:∀{α:Type} (a b:Prop) [Decidable a] [Decidable b] (x y:α),(if a\/b then x else y)=if a then x else if b then x else y:=by
  intro α a b _ _ x y;by_cases ha:a<;>by_cases hb:b<;>simp [ha,hb]
 funext r
 rw [kJ,key];show _=if hd r=cT then _ else if hd r=I4 then _ else if hd r=jM then _ else if hd r=Bg then _ else if hd r=dJ then _ else R.bind _ _
 congr 6
 funext s r
 show _=if hd r=[46] then _ else R.bind _ _
 congr 2
 funext _ r
 rw [key];rfl
theorem Jd (n:Nat):rW (n+1)=gx sIf (cZ (fc n) fun e=>cZ (fP n) fun a=>gx Rw (cZ (fP n) fun b=>eE (.if2 e a b)) (eE (.if1 e a))) (gx LK (cZ (fc n) fun e=>cZ (fP n) fun a=>eE (.loop e a)) (cZ (kJ n) fun s=>mL [59] (eE s))):=by
 funext r;rw [rW];rfl
theorem FD (n:Nat):fP (n+1)=mL [123] (jO n):=by funext r;rw [fP];rfl
theorem FG (n:Nat):jO (n+1)=gx [125] (eE .nil) (cZ (rW n) fun s=>cZ (jO n) fun ss=>eE (.cons s ss)):=by funext r;rw [jO];rfl
theorem Dq (n:Nat):gK (n+1)=gx [44] (cName fun s=>cZ (gK n) fun l=>eE (s::l)) (mL [41] (eE [])):=by funext r;rw [gK];rfl
theorem FH (n:Nat):tO n=mL [40] (gx [41] (eE []) (cName fun s=>cZ (gK n) fun l=>eE (s::l))):=by funext r;rw [tO];rfl
theorem Nc (n:Nat):Ey n=mL Fz (cName fun s=>cZ (tO n) fun l=>cZ (fP n) fun b=>eE ⟨s,l,b⟩):=by funext r;rw [Ey];rfl
def FI (t:Str):List Tok->R Dec:=
 match kindOf t with
 | none=>UX
 | some k=>cName fun s=>if k=0 then gx [61] (Na 2 fun _ n=>mL [59] (eE ⟨k,s,n⟩)) (mL [59] (eE ⟨k,s,0⟩)) else mL [59] (eE ⟨k,s,0⟩)
theorem Ry:I5=Na 1 fun t _=>FI t:=by
 funext r
 rw [I5];show R.bind _ _=R.bind _ _
 congr 1
 funext t r
 show _=FI t.text r;unfold FI
 cases kindOf t.text with
 | none=>rfl
 | some k=>
  show R.bind _ _=R.bind _ _
  congr 1
  funext s r
  by_cases hk:k=0
  ·rw [if_pos hk]
   by_cases h:hd r=[61]
   ·rw [if_pos ⟨hk,h⟩]
    show _=if hd r=[61] then R.bind _ _ else _
    rw [if_pos h]
    cases ye 2 r.tail<;>rfl
   ·rw [if_neg (fun x=>h x.2)]
    show _=if hd r=[61] then R.bind _ _ else _
    rw [if_neg h];rfl
  ·rw [if_neg hk,if_neg (fun x=>hk x.1)]
   rfl
def AY {α:Type} (p:List Tok->R α):Prop:=∀r a r',p r = .ok a r'->r'.length<r.length
def delta (s:Str):Int:=if s=[40]\/s=[123] then 1 else if s=[41]\/s=[125] then -1 else 0
inductive IsP:{α:Type}->Int->(List Tok->R α)->(List Tok->R α)->Prop
 | out {α:Type} {d:Int} {q:List Tok->R α}:IsP d (fun _=>.out) q
 | bad {α:Type} {d:Int}:IsP d (UX (α:=α)) UX
 | ret {α:Type} (a:α):IsP 0 (eE a) (eE a)
 | bind {α β:Type} {d e g:Int} {p p' : List Tok->R β} {f f' : β->List Tok->R α}:IsP d p p'->(∀b,IsP e (f b) (f' b))->g=d+e->IsP g (cZ p f) (cZ p' f')
 | want {α:Type} {d g:Int} {s:Str} {p p' : List Tok->R α}:s≠[]->IsP d p p'->g=delta s+d->IsP g (mL s p) (mL s p')
 | skip {α:Type} {d g:Int} {s:Str} {p p' q q' : List Tok->R α}:s≠[]->(s≠[41]\/AY q)->IsP d p p'->IsP g q q'->g=delta s+d->IsP g (gx s p q) (gx s p' q')
 | peek {α:Type} {d:Int} {s:Str} {p p' q q' : List Tok->R α}:s≠[41]->AY p->IsP d p p'->IsP d q q'->IsP d (rY s p q) (rY s p' q')
 | name {α:Type} {d:Int} {f f' : Str->List Tok->R α}:(∀b,IsP d (f b) (f' b))->IsP d (cName f) (cName f')
 | word {α:Type} {d:Int} {k:Int} {f f' : Str->Int->List Tok->R α}:k≠3->(∀b n,IsP d (f b n) (f' b n))->IsP d (Na k f) (Na k f')
 | num {α:Type} {d:Int} {f f' : Int->List Tok->R α} {q q' : List Tok->R α}:AY q->(∀b,IsP d (f b) (f' b))->IsP d q q'->IsP d (Rx f q) (Rx f' q')
theorem Bh {α β:Type} {x y:R β} {f g:β->List Tok->R α} (h:x = .out\/x=y) (hf:∀b r,f b r = .out\/f b r=g b r):x.bind f = .out\/x.bind f=y.bind g:=by
 rcases h with rfl|rfl
 ·exact .inl rfl
 ·cases x with
  | ok a r=>exact hf a r
  | bad=>exact .inr rfl
  | out=>exact .inl rfl
theorem IsP.le {α:Type} {d:Int} {p q:List Tok->R α} (h:IsP d p q):∀r,p r = .out\/p r=q r:=by
 induction h with
 | out=>exact fun r=>.inl rfl
 | bad=>exact fun r=>.inr rfl
 | ret=>exact fun r=>.inr rfl
 | bind _ _ _ ih1 ih2=>exact fun r=>Bh (ih1 r) ih2
 | want _ _ _ ih=>exact fun r=>Bh (.inr rfl) fun _ r=>ih r
 | skip _ _ _ _ _ ih1 ih2=>
  intro r;unfold gx
  split
  ·exact ih1 _
  ·exact ih2 _
 | peek _ _ _ _ ih1 ih2=>
  intro r;unfold rY
  split
  ·exact ih1 _
  ·exact ih2 _
 | name _ ih=>exact fun r=>Bh (.inr rfl) ih
 | word _ _ ih=>exact fun r=>Bh (.inr rfl) fun t r=>ih t.text t.n r
 | num _ _ _ ih1 ih2=>
  intro r;unfold Rx
  split
  ·exact ih1 _ _
  ·exact ih2 _
theorem Nh {r:List Tok} {s:Str} (h:hd r=s) (hs:s≠[]):∃t,r=t::r.tail/\t.text=s:=by
 cases r with
 | nil=>exact absurd h.symm hs
 | cons a l=>exact ⟨a,rfl,h⟩
theorem IsP.pre {α:Type} {d:Int} {p q:List Tok->R α} (h:IsP d p q):∀r a r',p r = .ok a r'->∃c,r=c++r':=by
 induction h with
 | out=>intro r a r' h;cases h
 | bad=>intro r a r' h;cases h
 | ret=>intro r a r' h;injection h with _ h;exact ⟨[],by rw [h];rfl⟩
 | bind _ _ _ ih1 ih2=>
  intro r a r' h;obtain ⟨b,r1,h1,h2⟩:=bind_ok.1 h;obtain ⟨c1,rfl⟩:=ih1 _ _ _ h1;obtain ⟨c2,rfl⟩:=ih2 _ _ _ _ h2;exact ⟨c1++c2,by simp⟩
 | want hs _ _ ih=>
  intro r a r' h;obtain ⟨b,r1,h1,h2⟩:=bind_ok.1 h;obtain ⟨hh,rfl⟩:=M8 h1;obtain ⟨t,ht,_⟩:=Nh hh hs;obtain ⟨c2,h3⟩:=ih _ _ _ h2;exact ⟨t::c2,by rw [ht,h3];rfl⟩
 | skip hs _ _ _ _ ih1 ih2=>
  intro r a r' h;unfold gx at h
  split at h
  ·rename_i hh
   obtain ⟨t,ht,_⟩:=Nh hh hs;obtain ⟨c2,h3⟩:=ih1 _ _ _ h;exact ⟨t::c2,by rw [ht,h3];rfl⟩
  ·exact ih2 _ _ _ h
 | peek _ _ _ _ ih1 ih2=>
  intro r a r' h;unfold rY at h
  split at h
  ·exact ih1 _ _ _ h
  ·exact ih2 _ _ _ h
 | name _ ih=>
  intro r a r' h;obtain ⟨b,r1,h1,h2⟩:=bind_ok.1 h;obtain ⟨t,rfl,_⟩:=M9 h1;obtain ⟨c,rfl⟩:=ih _ _ _ _ h2;exact ⟨t::c,rfl⟩
 | word _ _ ih=>
  intro r a r' h;obtain ⟨b,r1,h1,h2⟩:=bind_ok.1 h;obtain ⟨q,rfl,rfl,_⟩:=G7 h1;obtain ⟨c,rfl⟩:=ih _ _ _ _ _ h2;exact ⟨b::c,rfl⟩
 | num _ _ _ ih1 ih2=>
  intro r a r' h;unfold Rx at h
  split at h
  ·rename_i hn
   obtain ⟨c,h3⟩:=ih1 _ _ _ _ h
   cases r with
   | nil=>cases hn
   | cons t l=>exact ⟨t::c,by rw [List.tail_cons] at h3;rw [h3];rfl⟩
  ·exact ih2 _ _ _ h
end Uw.Tryz
namespace Uw.Tryz
open Go Uw
theorem Suf.len {a b:List Tok} {s:Nat} (h:Suf a b s):b.length+s<=a.length:=by
 obtain ⟨i,i1,rfl,i3⟩:=h;simp;omega
theorem IsP.len {α:Type} {d:Int} {p q:List Tok->R α} (h:IsP d p q) {r r' : List Tok} {a:α} (e:p r = .ok a r'):r'.length<=r.length:=by
 obtain ⟨c,rfl⟩:=h.pre _ _ _ e;simp
theorem G8 {α:Type} {p:List Tok->R α} (h:∀r e r',p r = .ok e r'->∃s,1<=s/\Suf r r' s):AY p:=by
 intro r e r' he;obtain ⟨s,h1,h2⟩:=h r e r' he;have:=h2.len;omega
theorem y8 {α β:Type} {d:Int} {p:List Tok->R β} {f f' : β->List Tok->R α} (h:AY p) (hf:∀b,IsP d (f b) (f' b)):AY (cZ p f):=by
 intro r a r' he;obtain ⟨b,r1,h1,h2⟩:=bind_ok.1 he;have:=h _ _ _ h1;have:=(hf b).len h2;omega
theorem FK {α:Type} {d:Int} {f f' : Str->List Tok->R α} (hf:∀b,IsP d (f b) (f' b)):AY (cName f):=by
 intro r a r' he;obtain ⟨b,r1,h1,h2⟩:=bind_ok.1 he;have:=(Suf.name h1).len;have:=(hf b).len h2;omega
theorem O7 (n:Nat):AY (fc n):=G8 fun r e r' h=>⟨_,e.G6,(rX n).expr _ _ _ h⟩
theorem FM (n:Nat) (s:Str):AY (lz n s):=G8 fun r e r' h=>⟨_,by omega,(rX n).call _ _ _ _ h⟩
theorem rA (n:Nat) (s:Str):AY (iN n s):=G8 fun r e r' h=>⟨_,e.G6,y7 h⟩
structure PE (n:Nat):Prop where
 Ez:IsP 0 (pd n) (pd (n+1))
 call:∀s,IsP 0 (lz n s) (lz (n+1) s)
 args:IsP 0 (nY n) (nY (n+1))
 Dn:IsP (-1) (ig n) (ig (n+1))
 prod:IsP 0 (mJ n) (mJ (n+1))
 zR:∀l,IsP 0 (jN n l) (jN (n+1) l)
 sum:IsP 0 (uO n) (uO (n+1))
 sumT:∀l,IsP 0 (mK n l) (mK (n+1) l)
 expr:IsP 0 (fc n) (fc (n+1))
theorem gP {α:Type} {d:Int} {p q:List Tok->R α} (h:∀r,p r = .out):IsP d p q:=by
 have:p=fun _=>.out:=funext h;rw [this];exact .out
theorem pe:∀n,PE n
 | 0=>⟨gP fun r=>by rw [pd],fun s=>gP fun r=>by rw [lz],gP fun r=>by rw [nY],gP fun r=>by rw [ig],gP fun r=>by rw [mJ],fun l=>gP fun r=>by rw [jN],gP fun r=>by rw [uO],fun l=>gP fun r=>by rw [mK],gP fun r=>by rw [fc]⟩
 | n+1=>by
  have ih:=pe n;have arT:∀e,IsP (-1) (cZ (ig n) fun es=>eE (Exs.cons e es)) (cZ (ig (n+1)) fun es=>eE (Exs.cons e es)):=fun e=>.bind ih.Dn (fun es=>.ret _) (by decide);refine ⟨?_,?_,?_,?_,?_,?_,?_,?_,?_⟩
  ·rw [I7 n,I7 (n+1)]
   have hq:∀s,IsP 0 (rY [46] (cZ (lz n s) fun x=>eE (Ex.call s x.1 x.2)) (eE (.name s))) (rY [46] (cZ (lz (n+1) s) fun x=>eE (Ex.call s x.1 x.2)) (eE (.name s))):=fun s=>
    .peek (by decide) (y8 (FM n s) fun x=>.ret _) (.bind (ih.call s) (fun x=>.ret _) (by decide)) (.ret _)
   exact .skip (d:=-1) (by decide) (.inl (by decide)) (.bind ih.expr (fun e=>.want (by decide) (.ret _) rfl) (by decide)) (.num (FK hq) (fun v=>.ret _) (.name hq)) (by decide)
  ·intro s
   rw [I8 n,I8 (n+1)];exact .want (by decide) (.name fun v=>.bind ih.args (fun ar=>.ret _) rfl) (by decide)
  ·rw [I9 n,I9 (n+1)]
   exact .want (d:=-1) (by decide) (.skip (by decide) (.inr (y8 (O7 n) arT)) (.ret _) (.bind ih.expr arT (by decide)) (by decide)) (by decide)
  ·rw [FA n,FA (n+1)]
   exact .skip (d:=-1) (by decide) (.inl (by decide)) (.bind ih.expr arT (by decide)) (.want (by decide) (.ret _) (by decide)) (by decide)
  ·rw [Ja n,Ja (n+1)]
   exact .bind ih.Ez ih.zR (by decide)
  ·intro l
   rw [FB n,FB (n+1)];exact .skip (d:=0) (by decide) (.inl (by decide)) (.bind ih.Ez (fun e=>ih.zR _) (by decide)) (.ret _) (by decide)
  ·rw [Nb n,Nb (n+1)]
   exact .bind ih.prod ih.sumT (by decide)
  ·intro l
   rw [Jb n,Jb (n+1)];exact .skip (d:=0) (by decide) (.inl (by decide)) (.bind ih.prod (fun e=>ih.sumT _) (by decide)) (.skip (d:=0) (by decide) (.inl (by decide)) (.bind ih.prod (fun e=>ih.sumT _) (by decide)) (.ret _) (by decide)) (by decide)
  ·rw [Jc n,Jc (n+1)]
   exact .bind ih.sum (fun l=>.skip (d:=0) (by decide) (.inl (by decide)) (.bind ih.sum (fun e=>.ret _) (by decide)) (.skip (d:=0) (by decide) (.inl (by decide)) (.bind ih.sum (fun e=>.ret _) (by decide)) (.ret _) (by decide)) (by decide)) (by decide)
theorem uj (n:Nat) (to:Str):IsP 0 (iN n to) (iN (n+1) to):=by
 rw [FC n,FC (n+1)];exact .bind (d:=0) (e:=0) (.skip (d:=0) (by decide) (.inl (by decide)) (.ret _) (.want (by decide) (.ret _) (by decide)) (by decide)) (fun par=>.name fun f=>.bind (e:=0) (pe n).args (fun ar=>by split<;>first|exact .bad|exact .ret _) (by decide)) (by decide)
theorem LM (n:Nat):IsP 0 (kJ n) (kJ (n+1)):=by
 rw [Dp n,Dp (n+1)];exact .peek (by decide) (rA n []) (uj n []) (.peek (by decide) (rA n []) (uj n []) (.skip (d:=0) (by decide) (.inl (by decide)) (.ret _) (.skip (d:=0) (by decide) (.inl (by decide)) (.bind (pe n).expr (fun e=>.ret _) (by decide))
  (.skip (d:=0) (by decide) (.inl (by decide)) (.bind (pe n).expr (fun e=>.ret _) (by decide)) (.name fun s=>.peek (by decide) (y8 (FM n s) fun x=>.ret _) (.bind ((pe n).call s) (fun x=>.ret _) (by decide))
   (.want (d:=0) (by decide) (.peek (by decide) (rA n s) (uj n s) (.peek (by decide) (rA n s) (uj n s) (.bind (pe n).expr (fun e=>.ret _) (by decide)))) (by decide))) (by decide)) (by decide)) (by decide)))
structure PS (n:Nat):Prop where
 stmt:IsP 0 (rW n) (rW (n+1))
 block:IsP 0 (fP n) (fP (n+1))
 stmts:IsP (-1) (jO n) (jO (n+1))
theorem ps:∀n,PS n
 | 0=>⟨gP fun r=>by rw [rW],gP fun r=>by rw [fP],gP fun r=>by rw [jO]⟩
 | n+1=>by
  have ih:=ps n;refine ⟨?_,?_,?_⟩
  ·rw [Jd n,Jd (n+1)]
   exact .skip (d:=0) (by decide) (.inl (by decide)) (.bind (pe n).expr (fun e=>.bind (d:=0) (e:=0) ih.block (fun a=>.skip (d:=0) (by decide) (.inl (by decide)) (.bind ih.block (fun b=>.ret _) (by decide)) (.ret _) (by decide)) rfl) (by decide))
    (.skip (d:=0) (by decide) (.inl (by decide)) (.bind (pe n).expr (fun e=>.bind ih.block (fun a=>.ret _) rfl) (by decide)) (.bind (LM n) (fun s=>.want (by decide) (.ret _) rfl) (by decide)) (by decide)) (by decide)
  ·rw [FD n,FD (n+1)]
   exact .want (by decide) ih.stmts (by decide)
  ·rw [FG n,FG (n+1)]
   exact .skip (d:=0) (by decide) (.inl (by decide)) (.ret _) (.bind ih.stmt (fun s=>.bind ih.stmts (fun ss=>.ret _) rfl) (by decide)) (by decide)
theorem Ds:∀n,IsP (-1) (gK n) (gK (n+1))
 | 0=>gP fun r=>by rw [gK]
 | n+1=>by
  rw [Dq n,Dq (n+1)];exact .skip (d:=-1) (by decide) (.inl (by decide)) (.name fun s=>.bind (Ds n) (fun l=>.ret _) (by decide)) (.want (by decide) (.ret _) (by decide)) (by decide)
theorem y9 (n:Nat):IsP 0 (tO n) (tO (n+1)):=by
 rw [FH n,FH (n+1)];have hq:∀s,IsP (-1) (cZ (gK n) fun l=>eE (s::l)) (cZ (gK (n+1)) fun l=>eE (s::l)):=fun s=>.bind (Ds n) (fun l=>.ret _) (by decide);exact .want (d:=-1) (by decide) (.skip (d:=0) (by decide) (.inr (FK hq)) (.ret _) (.name hq) (by decide)) (by decide)
theorem UY (n:Nat):IsP 0 (Ey n) (Ey (n+1)):=by
 rw [Nc n,Nc (n+1)];exact .want (d:=0) (by decide) (.name fun s=>.bind (e:=0) (y9 n) (fun l=>.bind (ps n).block (fun b=>.ret _) (by decide)) (by decide)) (by decide)
theorem aZ {α β:Type} {x:R β} {f:β->List Tok->R α} (h:x≠.out) (hf:∀b r,x = .ok b r->f b r≠.out):x.bind f≠.out:=by
 cases x with
 | ok a r=>exact hf a r rfl
 | bad=>exact fun h=>nomatch h
 | out=>exact absurd rfl h
theorem dZ {α:Type} {a:α} {r:List Tok}:R.ok a r≠.out:=fun h=>nomatch h
theorem jP {s:Str} {r:List Tok}:want s r≠.out:=by rw [want];split<;>exact fun h=>nomatch h
theorem rB {r:List Tok}:nX r≠.out:=by
 rw [nX];refine aZ ?_ fun t r _=>?_
 ·rw [ye.eq_def];split
  ·exact fun h=>nomatch h
  ·split<;>exact fun h=>nomatch h
 ·split<;>exact fun h=>nomatch h
structure NE (n:Nat):Prop where
 Ez:∀r,6 * r.length+1<=n->pd n r≠.out
 call:∀s r,6 * r.length+1<=n->lz n s r≠.out
 args:∀r,6 * r.length+1<=n->nY n r≠.out
 Dn:∀r,6 * r.length+1<=n->ig n r≠.out
 prod:∀r,6 * r.length+2<=n->mJ n r≠.out
 zR:∀l r,6 * r.length+1<=n->jN n l r≠.out
 sum:∀r,6 * r.length+3<=n->uO n r≠.out
 sumT:∀l r,6 * r.length+1<=n->mK n l r≠.out
 expr:∀r,6 * r.length+4<=n->fc n r≠.out
theorem ne:∀n,NE n
 | 0=>⟨fun _ h=>by omega,fun _ _ h=>by omega,fun _ h=>by omega,fun _ h=>by omega,fun _ h=>by omega,fun _ _ h=>by omega,fun _ h=>by omega,fun _ _ h=>by omega,fun _ h=>by omega⟩
 | n+1=>by
  have ih:=ne n;have se:=rX n;refine ⟨?_,?_,?_,?_,?_,?_,?_,?_,?_⟩
  ·intro r hr
   rw [pd]
   split
   ·rename_i hh
    have:=(Suf.hd hh (by simp)).len;exact aZ (ih.expr _ (by omega)) fun e r1 h1=>aZ jP fun _ _ _=>dZ
   ·split
    ·exact dZ
    ·refine aZ rB fun s r1 h1=>?_
     have:=(Suf.name h1).len
     split
     ·exact aZ (ih.call _ _ (by omega)) fun _ _ _=>dZ
     ·exact dZ
  ·intro s r hr
   rw [lz];refine aZ jP fun _ r1 h1=>aZ rB fun v r2 h2=>aZ (ih.args _ ?_) fun _ _ _=>dZ;have:=(Suf.want (by simp) h1).len;have:=(Suf.name h2).len;omega
  ·intro r hr
   rw [nY];refine aZ jP fun _ r1 h1=>?_;have:=(Suf.want (by simp) h1).len
   split
   ·exact dZ
   ·refine aZ (ih.expr _ (by omega)) fun e r2 h2=>aZ (ih.Dn _ ?_) fun _ _ _=>dZ
    have:=(se.expr _ _ _ h2).len;omega
  ·intro r hr
   rw [ig]
   split
   ·rename_i hh
    have:=(Suf.hd hh (by simp)).len;refine aZ (ih.expr _ (by omega)) fun e r2 h2=>aZ (ih.Dn _ ?_) fun _ _ _=>dZ;have:=(se.expr _ _ _ h2).len;omega
   ·exact aZ jP fun _ _ _=>dZ
  ·intro r hr
   rw [mJ];refine aZ (ih.Ez _ (by omega)) fun e r2 h2=>ih.zR _ _ ?_;have:=(se.Ez _ _ _ h2).len;omega
  ·intro l r hr
   rw [jN]
   split
   ·rename_i hh
    have:=(Suf.hd hh (by simp)).len;refine aZ (ih.Ez _ (by omega)) fun e r2 h2=>ih.zR _ _ ?_;have:=(se.Ez _ _ _ h2).len;omega
   ·exact dZ
  ·intro r hr
   rw [uO];refine aZ (ih.prod _ (by omega)) fun e r2 h2=>ih.sumT _ _ ?_;have:=(se.prod _ _ _ h2).len;omega
  ·intro l r hr
   rw [mK]
   split
   ·rename_i hh
    have:=(Suf.hd hh (by simp)).len;refine aZ (ih.prod _ (by omega)) fun e r2 h2=>ih.sumT _ _ ?_;have:=(se.prod _ _ _ h2).len;omega
   ·split
    ·rename_i hh
     have:=(Suf.hd hh (by simp)).len;refine aZ (ih.prod _ (by omega)) fun e r2 h2=>ih.sumT _ _ ?_;have:=(se.prod _ _ _ h2).len;omega
    ·exact dZ
  ·intro r hr
   rw [fc];refine aZ (ih.sum _ (by omega)) fun e r2 h2=>?_;have:=(se.sum _ _ _ h2).len
   split
   ·rename_i hh
    have:=(Suf.hd hh (by simp)).len;exact aZ (ih.sum _ (by omega)) fun _ _ _=>dZ
   ·split
    ·rename_i hh
     have:=(Suf.hd hh (by simp)).len;exact aZ (ih.sum _ (by omega)) fun _ _ _=>dZ
    ·exact dZ
theorem Je (n:Nat) (to:Str) (r:List Tok) (hr:6 * r.length+1<=n):iN n to r≠.out:=by
 rw [iN];have key:∀(x:R Bool),x≠.out->(∀b r1,x = .ok b r1->r1.length<=r.length)->x.bind (fun par r=>(nX r).bind fun f r=>(nY n r).bind fun ar r=>if par=true/\ar.length≠2 then R.bad else R.ok (Stm.task par to f ar) r)≠.out:=by
  intro x hx hl;refine aZ hx fun b r1 h1=>aZ rB fun f r2 h2=>aZ ((ne n).args _ ?_) fun ar r3 _=>?_
  ·have:=hl _ _ h1
   have:=(Suf.name h2).len;omega
  ·split<;>exact fun h=>nomatch h
 refine key _ ?_ ?_
 ·split
  ·exact dZ
  ·exact aZ jP fun _ _ _=>dZ
 ·intro b r1 h
  split at h
  ·injection h with _ h
   rw [<- h];simp
  ·obtain ⟨_,r2,h2,h3⟩:=bind_ok.1 h
   injection h3 with _ h3
   subst h3;have:=(Suf.want (by decide) h2).len;omega
theorem O8 (n:Nat) (r:List Tok) (hr:6 * r.length+4<=n):kJ n r≠.out:=by
 rw [kJ];have ih:=ne n
 split
 ·exact Je n _ _ (by omega)
 ·split
  ·exact dZ
  ·split
   ·exact aZ (ih.expr _ (by simp;omega)) fun _ _ _=>dZ
   ·split
    ·exact aZ (ih.expr _ (by simp;omega)) fun _ _ _=>dZ
    ·refine aZ rB fun s r1 h1=>?_
     have:=(Suf.name h1).len
     split
     ·exact aZ (ih.call _ _ (by omega)) fun _ _ _=>dZ
     ·refine aZ jP fun _ r2 h2=>?_
      have:=(Suf.want (by decide) h2).len
      split
      ·exact Je n _ _ (by omega)
      ·exact aZ (ih.expr _ (by omega)) fun _ _ _=>dZ
structure NS (n:Nat):Prop where
 stmt:∀r,6 * r.length+5<=n->rW n r≠.out
 block:∀r,6 * r.length+5<=n->fP n r≠.out
 stmts:∀r,6 * r.length+6<=n->jO n r≠.out
theorem ns_:∀n,NS n
 | 0=>⟨fun _ h=>by omega,fun _ h=>by omega,fun _ h=>by omega⟩
 | n+1=>by
  have ih:=ns_ n;have se:=rX n;have ss:=Wl n;refine ⟨?_,?_,?_⟩
  ·intro r hr
   rw [rW]
   split
   ·rename_i hh
    have:=(Suf.hd hh (by decide)).len;refine aZ ((ne n).expr _ (by omega)) fun e r1 h1=>?_;have:=(se.expr _ _ _ h1).len;refine aZ (ih.block _ (by omega)) fun a r2 h2=>?_;have:=(ss.block _ _ _ h2).len
    split
    ·exact aZ (ih.block _ (by simp;omega)) fun _ _ _=>dZ
    ·exact dZ
   ·split
    ·rename_i hh
     have:=(Suf.hd hh (by decide)).len;refine aZ ((ne n).expr _ (by omega)) fun e r1 h1=>?_;have:=(se.expr _ _ _ h1).len;exact aZ (ih.block _ (by omega)) fun a r2 h2=>dZ
    ·exact aZ (O8 n _ (by omega)) fun _ _ _=>aZ jP fun _ _ _=>dZ
  ·intro r hr
   rw [fP];refine aZ jP fun _ r1 h1=>ih.stmts _ ?_;have:=(Suf.want (by decide) h1).len;omega
  ·intro r hr
   rw [jO]
   split
   ·exact dZ
   ·refine aZ (ih.stmt _ (by omega)) fun s r1 h1=>?_
    have:=(ss.stmt _ _ _ h1).len;have:=s.G6;exact aZ (ih.stmts _ (by omega)) fun _ _ _=>dZ
theorem FN:∀n r,r.length+1<=n->gK n r≠.out
 | 0,_,h=>by omega
 | n+1,r,hr=>by
  rw [gK]
  split
  ·rename_i hh
   have:=(Suf.hd hh (by simp)).len;refine aZ rB fun s r1 h1=>aZ (FN n _ ?_) fun _ _ _=>dZ;have:=(Suf.name h1).len;omega
  ·exact aZ jP fun _ _ _=>dZ
theorem Rz (n:Nat) (r:List Tok) (hr:r.length+1<=n):tO n r≠.out:=by
 rw [tO];refine aZ jP fun _ r1 h1=>?_;have:=(Suf.want (by decide) h1).len
 split
 ·exact dZ
 ·refine aZ rB fun s r2 h2=>aZ (FN n _ ?_) fun _ _ _=>dZ
  have:=(Suf.name h2).len;omega
theorem XT (n:Nat) (r:List Tok) (hr:6 * r.length+5<=n):Ey n r≠.out:=by
 rw [Ey];refine aZ jP fun _ r1 h1=>aZ rB fun s r2 h2=>?_;have:=(Suf.want (by decide) h1).len;have:=(Suf.name h2).len;refine aZ (Rz n _ (by omega)) fun l r3 h3=>aZ ((ns_ n).block _ ?_) fun _ _ _=>dZ;have:=(y9 n).len h3;omega
end Uw.Tryz
namespace Uw.Tryz
open Go Uw
theorem up {α:Type} {d:Int} {p:Nat->List Tok->R α} (h:∀n,IsP d (p n) (p (n+1))) {n:Nat} {r:List Tok} (hn:p n r≠.out) (k:Nat):p (n+k) r=p n r:=by
 induction k with
 | zero=>rfl
 | succ k ih=>
  rcases (h (n+k)).le r with e|e
  ·rw [ih] at e;exact absurd e hn
  ·rw [<- ac7,<- e,ih]
theorem up' {α:Type} {d:Int} {p:Nat->List Tok->R α} (h:∀n,IsP d (p n) (p (n+1))) {n m:Nat} {r:List Tok} {a:α} {r' : List Tok} (hn:p n r = .ok a r') (hm:n<=m):p m r = .ok a r':=by
 obtain ⟨k,rfl⟩:=Nat.le.dest hm;rw [up h (by rw [hn];exact dZ),hn]
def Reads {α:Type} (p:Nat->List Tok->R α) (r:List Tok) (a:α) (r' : List Tok):Prop:=∃n,p n r = .ok a r'
theorem Reads.at {α:Type} {d:Int} {p:Nat->List Tok->R α} (h:∀n,IsP d (p n) (p (n+1))) {r:List Tok} {a:α} {r1:List Tok} (h1:Reads p r a r1) {n:Nat} (hn:p n r≠.out):p n r = .ok a r1:=by
 obtain ⟨m,h1⟩:=h1;have e1:=up' h h1 (Nat.le_max_right n m);obtain ⟨k,hk⟩:=Nat.le.dest (Nat.le_max_left n m);rw [<- hk,up h hn] at e1;exact e1
theorem G9 {α β:Type} (a:β) (r:List Tok) (f:β->List Tok->R α):(R.ok a r).bind f=f a r:=rfl
inductive Jf:List Tok->List Dec->List Tok->Prop
 | stop {r:List Tok}:r=[]\/hd r=Fz->Jf r [] r
 | cons {r r' r'' : List Tok} {d:Dec} {ds:List Dec}:¬(r=[]\/hd r=Fz)->I5 r = .ok d r'->Jf r' ds r''->Jf r (d::ds) r''
inductive O9:List Tok->List Fn->Prop
 | nil:O9 [] []
 | cons {r r' : List Tok} {f:Fn} {fs:List Fn}:Reads Ey r f r'->O9 r' fs->O9 r (f::fs)
def Prg (l:List Tok) (ds:List Dec) (fs:List Fn):Prop:=∃r,Jf l ds r/\O9 r fs
def RA (l:List Tok):Nat:=6 * l.length+6
def RB (l:List Tok):Option (List Dec×List Fn):=match Wj (RA l) l with | .ok x _=>some x | .bad=>none | .out=>none
theorem FO:AY I5:=by
 intro r e r' h;rw [Ry] at h;obtain ⟨t,r1,h1,h2⟩:=bind_ok.1 h;obtain ⟨q,rfl,rfl,_⟩:=G7 h1;have:IsP 0 (FI t.text) (FI t.text):=by
  rw [FI]
  split
  ·exact .bad
  ·refine .name fun s=>?_
   split
   ·exact .skip (d:=0) (by decide) (.inl (by decide)) (.word (by decide) fun _ n=>.want (by decide) (.ret _) (by decide)) (.want (by decide) (.ret _) (by decide)) (by decide)
   ·exact .want (by decide) (.ret _) (by decide)
 have:=this.len h2;simp;omega
theorem RD (n:Nat):AY (Ey n):=by
 intro r e r' h;rw [Ey] at h;obtain ⟨_,r1,h1,h⟩:=bind_ok.1 h;obtain ⟨s,r2,h2,h⟩:=bind_ok.1 h;obtain ⟨l,r3,h3,h⟩:=bind_ok.1 h;obtain ⟨b,r4,h4,h⟩:=bind_ok.1 h;injection h with _ h
 have:=(Suf.want (by decide) h1).len;have:=(Suf.name h2).len;have:=(y9 n).len h3;have:=(ps n).block.len h4;rw [<- h];omega
theorem Jf.len {r r' : List Tok} {ds:List Dec} (h:Jf r ds r'):r'.length+ds.length<=r.length:=by
 induction h with
 | stop _=>simp
 | cons _ h1 _ ih=>
  have:=FO _ _ _ h1;simp;omega
theorem Jf.at {r r' : List Tok} {ds:List Dec} (h:Jf r ds r'):∀n,r.length+1<=n->Dm n r = .ok ds r':=by
 induction h with
 | stop h=>
  intro n hn
  cases n with
  | zero=>omega
  | succ n=>rw [Dm,if_pos h]
 | cons h h1 h2 ih=>
  intro n hn
  cases n with
  | zero=>omega
  | succ n=>
   have:=FO _ _ _ h1;rw [Dm,if_neg h,h1,G9,ih n (by omega)];rfl
theorem O9.at {r:List Tok} {fs:List Fn} (h:O9 r fs):∀n,6 * r.length+6<=n->I6 n r = .ok fs []:=by
 induction h with
 | nil=>
  intro n hn
  cases n with
  | zero=>omega
  | succ n=>rw [I6,if_pos rfl]
 | cons h h2 ih=>
  rename_i r r' f fs;intro n hn
  cases n with
  | zero=>omega
  | succ n=>
   have h1:=h.at UY (XT n r (by omega));have:=RD _ _ _ _ h1;rw [I6,if_neg (by rintro rfl;simp at this),h1,G9,ih n (by omega)];rfl
theorem Prg.at {l:List Tok} {ds:List Dec} {fs:List Fn} (h:Prg l ds fs):RB l=some (ds,fs):=by
 obtain ⟨r,h1,h2⟩:=h;have:=h1.len;rw [RB,Wj,h1.at _ (by rw [RA];omega),G9,h2.at _ (by rw [RA];omega)];rfl
end Uw.Tryz
namespace Uw.Tryz
open Go Uw
structure Nd where
 kind:Int
 n:Int
 name:Str
 name2:Str
 of:List Int
 deriving DecidableEq,Inhabited
structure Fu where
 name:Str
 args:List Str
 body:Int
 deriving DecidableEq,Inhabited
structure Pg where
 decls:List Dec
 aA:List Fu
 nodes:List Nd
 deriving DecidableEq,Inhabited
def ae (l:List Int):Dat:=.slice 1 (l.map fun i=>[I i]) false
def Wm (l:List Str):Dat:=.slice 1 (l.map fun s=>[.str s]) false
def Y3 (d:Dec):List Dat:=[I d.kind,.str d.name,I d.n]
def fuL (f:Fu):List Dat:=[.str f.name,Wm f.args,I f.body]
def ndL (x:Nd):List Dat:=[I x.kind,I x.n,.str x.name,.str x.name2,ae x.of]
def pgD (p:Pg):Dat:=.agg [.slice 3 (p.decls.map Y3) false,.slice 3 (p.aA.map fuL) false,.slice 5 (p.nodes.map ndL) false]
def Nod.nd (x:Nod):Nd:=⟨x.kind,x.n,x.name,x.name2,x.of.map fun (i:Nat)=>(i:Int)⟩
def Fn.sz (f:Fn):Nat:=f.body.sz+1
def RE:List Fn->Nat->List Nod
 | [],_=>[]
 | f::fs,b=>f.body.all b++RE fs (b+f.sz)
def Wn:List Fn->Nat->List Fu
 | [],_=>[]
 | f::fs,b=>⟨f.name,f.args,((b+f.body.sz:Nat):Int)⟩::Wn fs (b+f.sz)
def Z6 (x:List Dec×List Fn):Pg:=⟨x.1,Wn x.2 0,(RE x.2 0).map Nod.nd⟩
def XU:Pg:=⟨[],[],[]⟩
def Wp:List Tok->Int->Int->Int
 | [],_,m=>m
 | t::r,d,m=>Wp r (d+delta t.text) (max m (d+delta t.text))
def ofR (s:Str):Pg×Int:=
 if (tN s).2≠0 then (XU,(tN s).2)
 else if 40<Wp (tN s).1 0 0 then (XU,2)
 else match RB (tN s).1 with
  | none=>(XU,3)
  | some x=>(Z6 x,0)
theorem pc {a b:List Nat} (h:a.Perm b) (i:Nat):a.count i=b.count i:=h.count_eq i
def Low (b:Nat):List Nod->Prop
 | []=>True
 | x::r=>(∀c∈x.of,c<b)/\Low (b+1) r
theorem Low.app:∀{x y:List Nod} {b:Nat},Low b x->Low (b+x.length) y->Low b (x++y)
 | [],y,b,_,h=>h
 | a::x,y,b,⟨h1,h2⟩,h=>⟨h1,h2.app (by rw [abI] at h;rwa [show b+1+x.length=b+(x.length+1) by omega])⟩
theorem Low.at:∀{x:List Nod} {b:Nat},Low b x->∀(j:Nat) (h:j<x.length),∀c∈x[j].of,c<b+j
 | [],_,_,j,h=>by simp at h
 | a::x,b,⟨h1,h2⟩,0,_=>h1
 | a::x,b,⟨h1,h2⟩,j+1,h=>by
  intro c hc;have:=h2.at j (by simpa using h) c hc;omega
theorem Low.one {b:Nat} {x:Nod} (h:∀c∈x.of,c<b):Low b [x]:=⟨h,trivial⟩
end Uw.Tryz
namespace Uw.Tryz
open Go Uw
def Y4 (k:Int):Int:=if 1<=k/\k<=8 then 1 else if 9<=k/\k<=17 then 2 else if k=18 then 3 else 0
def Ha (ns:List Nd) (i:Int):Int:=(ns.getD i.toNat default).kind
def UZ (ns:List Nd) (x:Nd):List Int:=x.of.map fun k=>Y4 (Ha ns k)
def U0 (k n:Int) (so:List Int) (k0:Int):Bool:=
 if k=1 then decide (so=[])&&decide (0<=n)&&decide (n<4294967296)
 else if k=2\/k=12 then decide (so=[])
 else if k=3\/k=4\/k=5\/k=6\/k=7\/k=11 then decide (so=[1,1])
 else if k=8\/k=10 then so.all fun s=>decide (s=1)
 else if k=9\/k=15\/k=16 then decide (so=[1])
 else if k=17 then decide (so=[1])&&decide (k0=8)
 else if k=13 then decide (so=[1,3])||decide (so=[1,3,3])
 else if k=14 then decide (so=[1,3])
 else if k=18 then so.all fun s=>decide (s=2)
 else false
def yf (ns:List Nd) (x:Nd):Bool:=U0 x.kind x.n (UZ ns x) (Ha ns (x.of.headD 0))
def RF (ns:List Nd) (i:Nat) (x:Nd):Bool:=(x.of.all fun k=>decide (0<=k)&&decide (k<i))&&yf ns x
def Bi (ns:List Nd):Nat->List Nd->Bool
 | _,[]=>true
 | i,x::r=>RF ns i x&&Bi ns (i+1) r
def He (ns:List Nd) (f:Fu):Bool:=decide (0<=f.body)&&decide (f.body<ns.length)&&decide (Ha ns f.body=18)
def RG (p:Pg):List Int:=(p.nodes.flatMap (·.of))++p.aA.map (·.body)
def mZ (p:Pg):Bool:=Bi p.nodes 0 p.nodes&&p.aA.all (He p.nodes)&&(List.range p.nodes.length).all fun k=>decide ((RG p).count (k:Int)=1)
def nZ (p:Pg) (s:Str):Option Int:=(p.decls.find? fun d=>decide (d.name=s)).map (·.kind)
def Jg (p:Pg) (s:Str):Option Nat:=p.aA.findIdx? fun f=>decide (f.name=s)
def Dt:List Fu->Nat->List Int->List Int
 | [],_,o=>o
 | f::fs,i,o=>Dt fs (i+1) (o.set f.body.toNat i)
def yg (o:List Int) (i:Nat) (x:Nd):List Int:=x.of.foldl (fun o k=>o.set k.toNat (o.getD i 0)) o
def m4:List (Nat×Nd)->List Int->List Int
 | [],o=>o
 | (i,x)::r,o=>m4 r (yg o i x)
def idx {α:Type}:Nat->List α->List (Nat×α)
 | _,[]=>[]
 | i,x::r=>(i,x)::idx (i+1) r
def fC (p:Pg):List Int:=m4 (idx 0 p.nodes).reverse (Dt p.aA 0 (List.replicate p.nodes.length 0))
def RH (p:Pg) (x:Nd):Bool:=(decide (x.kind=9)||decide (x.kind=10)||decide (x.kind=11))&&!decide (x.name=[])&&(nZ p x.name).isNone
def addLocal (ls:List (List Str)) (f:Nat) (s:Str):List (List Str):=if s∈ls.getD f [] then ls else ls.set f (ls.getD f []++[s])
def yh (p:Pg):List (Nd×Int)->List (List Str)->List (List Str)
 | [],ls=>ls
 | (x,o)::r,ls=>yh p r (if RH p x then addLocal ls o.toNat x.name else ls)
def m5 (p:Pg):List (List Str):=yh p (p.nodes.zip (fC p)) (p.aA.map (·.args))
def yi (p:Pg) (f:Int):List Str:=if f<0\/(p.aA.length:Int)<=f\/mZ p=false then [] else (m5 p).getD f.toNat []
def Z7:Str:=[103,101,116]
def Z8:Str:=[100,101,108]
def Z9:Str:=[112,117,116]
def ke:Str:=[112,117,115,104]
def aac:Str:=[112,111,112]
def Y5:Str:=[115,101,110,100]
def Y6:Str:=[114,101,99,118]
def Ni:Str:=[109,97,105,110]
def RJ (k:Int) (s:Str):Option Int:=
 if k=1 then (if s=Z7\/s=Z8 then some 1 else if s=Z9 then some 2 else none)
 else if k=2 then (if s=ke then some 1 else if s=aac then some 0 else none)
 else if k=3 then (if s=Y5 then some 1 else if s=Y6 then some 0 else none)
 else none
def RL (p:Pg):Bool:=
 decide (16<p.aA.length)||decide (16<(p.decls.countP fun d=>decide (d.kind=0)))||decide (8<(p.decls.countP fun d=>decide (d.kind=1)))||decide (8<(p.decls.countP fun d=>decide (d.kind=2)))||decide (8<(p.decls.countP fun d=>decide (d.kind=3)))
 ||((m5 p).any fun l=>decide (16<l.length))||(p.nodes.any fun x=>decide (x.kind=10)&&decide (16<x.of.length))
def RN (p:Pg):List Str->List Str->Bool
 | _,[]=>false
 | seen,a::r=>(nZ p a).isSome||decide (a∈seen)||RN p (a::seen) r
def RO (p:Pg):Bool:=!decide ((p.decls.map (·.name)).Nodup)||!decide ((p.aA.map (·.name)).Nodup)||(p.aA.any fun f=>RN p [] f.args)
def Wq (p:Pg) (x:Nd) (o:Int):Bool:=
 if x.kind=10\/x.kind=11 then (Jg p x.name2).isNone
 else if x.kind=8 then (nZ p x.name).isNone
 else if x.kind=2 then (nZ p x.name).isNone&&!decide (x.name∈(m5 p).getD o.toNat [])
 else false
def nameP (p:Pg):Bool:=(Jg p Ni).isNone||((p.nodes.zip (fC p)).any fun y=>Wq p y.1 y.2)||(p.decls.any fun d=>decide (d.kind<0)||decide (3<d.kind))
def Y7 (p:Pg) (x:Nd):Bool:=
 if x.kind=2\/x.kind=9 then (match nZ p x.name with|some k=>!decide (k=0)|none=>false)
 else if x.kind=10\/x.kind=11 then (nZ p x.name).isSome
 else if x.kind=8 then (RJ ((nZ p x.name).getD 0) x.name2).isNone
 else false
def jQ (p:Pg):Bool:=p.nodes.any (Y7 p)
def argsAt (p:Pg) (s:Str):Nat:=(p.aA.getD ((Jg p s).getD 0) default).args.length
def manyN (p:Pg) (x:Nd):Bool:=
 if x.kind=10 then !decide (x.of.length=argsAt p x.name2)
 else if x.kind=11 then !decide (argsAt p x.name2=1)
 else if x.kind=8 then !decide ((x.of.length:Int)=(RJ ((nZ p x.name).getD 0) x.name2).getD 0)
 else false
def RP (p:Pg):Bool:=decide (0<argsAt p Ni)||p.nodes.any (manyN p)
end Uw.Tryz
namespace Uw.Tryz
open Go Uw
end Uw.Tryz
namespace Uw.Tryz
open Go Uw
def vY (ns:List Nd):Dat:=.slice 5 (ns.map ndL) false
end Uw.Tryz
namespace Uw.Tryz
open Go Uw
structure Lim (p:Pg):Prop where
 nodes:p.nodes.length<100000
 aA:p.aA.length<100000
 decls:p.decls.length<100000
 of:∀x∈p.nodes,x.of.length<100000
 args:∀f∈p.aA,f.args.length<100000
def RR (L:List Int) (n:Nat):List Int:=(List.range n).map fun (k:Nat)=>((L.count (k:Int):Nat):Int)
theorem Nj (L:List Int) (n:Nat):(RR L n).length=n:=by simp [RR]
theorem U1 (L:List Int) (n k:Nat) (h:k<n):(RR L n)[k]'(by rw [Nj];exact h)=(L.count (k:Int):Nat):=by simp [RR]
def bz (l:List Int):List (List Dat):=l.map fun i=>[I i]
theorem za {L:List Int} {n:Nat} {k:Int} (h0:0<=k) (h:k<n):(bz (RR L n))[k.toNat]? = some [I (L.count k:Nat)]:=by
 have hk:k.toNat<n:=by omega
 have hkk:((k.toNat:Nat):Int)=k:=by omega
 rw [bz,abT,abv (by rw [Nj];exact hk),U1 _ _ _ hk,hkk];rfl
structure Ws (p:Pg) (R:Bool):Prop where
 kid:∀(i:Nat) (h:i<p.nodes.length) (k:Int),k∈p.nodes[i].of->¬(0<=k/\k<i)->R=false
 shape:∀(i:Nat) (h:i<p.nodes.length),yf p.nodes p.nodes[i]=false->R=false
 body:∀(i:Nat) (h:i<p.aA.length),He p.nodes p.aA[i]=false->R=false
 time:∀(k:Nat),k<p.nodes.length->(RG p).count (k:Int)≠1->R=false
 all:(∀(i:Nat) (h:i<p.nodes.length),(∀k∈p.nodes[i].of,0<=k/\k<i)/\yf p.nodes p.nodes[i]=true)->(∀(i:Nat) (h:i<p.aA.length),He p.nodes p.aA[i]=true)->(∀(k:Nat),k<p.nodes.length->(RG p).count (k:Int)=1)->R=true
end Uw.Tryz
namespace Uw.Tryz
open Go Uw
theorem Du:∀(fs:List Fu) (i:Nat) (o:List Int),(Dt fs i o).length=o.length
 | [],_,_=>rfl
 | f::fs,i,o=>by rw [Dt,Du fs];simp
theorem zb {i:Nat}:∀(l:List Int) (o:List Int),(l.foldl (fun o k=>o.set k.toNat (o.getD i 0)) o).length=o.length
 | [],_=>rfl
 | k::l,o=>by rw [acZ,zb l];simp
theorem tP:∀(l:List (Nat×Nd)) (o:List Int),(m4 l o).length=o.length
 | [],_=>rfl
 | (i,x)::r,o=>by rw [m4,tP r,yg,zb]
theorem zS (p:Pg):(fC p).length=p.nodes.length:=by rw [fC,tP,Du];simp
theorem Nk {α β:Type}:∀{l:List α} {l' : List β} {x:α},l'.length=l.length->x∈l->∃y,(x,y)∈l.zip l'
 | a::l,[],x,h,_=>by simp at h
 | a::l,b::l',x,h,hx=>by
  rcases abY.1 hx with rfl|hx
  ·exact ⟨b,by simp⟩
  ·obtain ⟨y,hy⟩:=Nk (l:=l) (l':=l') (by simpa using h) hx
   exact ⟨y,by simp [hy]⟩
structure May (p:Pg):Prop where
 formed:mZ p=true
 bound:RL p=false
 twice:RO p=false
 name:nameP p=false
 sort:jQ p=false
 many:RP p=false
theorem FP {p:Pg} {s:Str} {i:Nat} (h:Jg p s=some i):∃h:i<p.aA.length,p.aA[i].name=s:=by
 obtain ⟨h1,h2,_⟩:=List.findIdx?_eq_some_iff_getElem.1 h;exact ⟨h1,by simpa using h2⟩
theorem May.names {p:Pg} (h:May p):(p.decls.map (·.name)).Nodup/\(p.aA.map (·.name)).Nodup/\∀f∈p.aA,RN p [] f.args=false:=by
 have:=h.twice;simp only [RO,ab2,Bool.not_eq_false',decide_eq_true_eq,acR] at this;exact ⟨this.1.1,this.1.2,fun f hf=>by simpa using this.2 f hf⟩
theorem May.main {p:Pg} (h:May p):∃m,∃hm:m<p.aA.length,Jg p Ni=some m/\p.aA[m].args=[]:=by
 have h1:=h.name;have h2:=h.many;simp only [nameP,ab2] at h1;simp only [RP,ab2,decide_eq_false_iff_not] at h2
 cases hf:Jg p Ni with
 | none=>rw [hf] at h1;simp at h1
 | some m=>
  obtain ⟨hm,_⟩:=FP hf;refine ⟨m,hm,rfl,?_⟩;have:=h2.1;rw [argsAt,hf] at this;simp only [Option.getD_some,List.getD,abv hm] at this;exact abz (by omega)
theorem May.call {p:Pg} (h:May p) {x:Nd} (hx:x∈p.nodes) (hk:x.kind=10\/x.kind=11):∃k,∃hk:k<p.aA.length,Jg p x.name2=some k/\(x.kind=10->x.of.length=p.aA[k].args.length)/\(x.kind=11->p.aA[k].args.length=1):=by
 have h2:=h.many;simp only [RP,ab2,decide_eq_false_iff_not,acR] at h2;have h1:=h.name;simp only [nameP,ab2,acR] at h1;have h3:=h2.2 x hx;obtain ⟨o,ho⟩:∃o,(x,o)∈p.nodes.zip (fC p):=Nk (zS p) hx;have h4:=h1.1.2 _ ho;simp only [Wq,if_pos hk] at h4
 cases hf:Jg p x.name2 with
 | none=>rw [hf] at h4;simp at h4
 | some k=>
  obtain ⟨hkl,_⟩:=FP hf;refine ⟨k,hkl,rfl,fun h10=>?_,fun h11=>?_⟩
  ·simp [manyN,h10,argsAt,hf,hkl] at h3;exact h3
  ·simp [manyN,h11,argsAt,hf,hkl] at h3;exact h3
theorem Nl {p:Pg}:∀(l seen:List Str),RN p seen l=false->l.Nodup/\(∀a∈l,a∉seen)/\∀a∈l,nZ p a=none
 | [],_,_=>⟨adM,by simp,by simp⟩
 | a::r,seen,h=>by
  simp only [RN,ab2,decide_eq_false_iff_not] at h;obtain ⟨h1,h2,h3⟩:=Nl r (a::seen) h.2;refine ⟨List.nodup_cons.2 ⟨fun hm=>h2 a hm (by simp),h1⟩,?_,?_⟩
  ·intro b hb
   rcases abY.1 hb with rfl|hb
   ·exact h.1.2
   ·exact fun hs=>h2 b hb (by simp [hs])
  ·intro b hb
   rcases abY.1 hb with rfl|hb
   ·simpa using h.1.1
   ·exact h3 b hb
def Loc (p:Pg) (a l:List Str):Prop:=(∃t,l=a++t)/\l.Nodup/\∀s∈l,nZ p s=none
def Hf (p:Pg) (ls:List (List Str)):Prop:=ls.length=p.aA.length/\∀(f:Nat) (h:f<p.aA.length),Loc p p.aA[f].args (ls.getD f [])
theorem Hf.add {p:Pg} {ls:List (List Str)} (h:Hf p ls) (f:Nat) (s:Str) (hs:nZ p s=none):Hf p (addLocal ls f s):=by
 unfold addLocal
 split
 ·exact h
 ·rename_i hm
  refine ⟨by simpa using h.1,fun g hg=>?_⟩;by_cases hgf:g=f
  ·subst hgf
   obtain ⟨⟨t,ht⟩,h2,h3⟩:=h.2 g hg;have e:(ls.set g (ls.getD g []++[s])).getD g []=ls.getD g []++[s]:=by simp [h.1,hg]
   rw [e];refine ⟨⟨t++[s],by rw [ht,acA]⟩,?_,?_⟩
   ·rw [adz]
    exact ⟨h2,by simp,fun a ha b hb=>by simp at hb;subst hb;exact fun e=>hm (e ▸ ha)⟩
   ·intro b hb
    rcases abM.1 hb with hb|hb
    ·exact h3 b hb
    ·simp at hb;subst hb;exact hs
  ·have e:(ls.set f (ls.getD f []++[s])).getD g []=ls.getD g []:=by simp [List.getD,acQ,Ne.symm hgf]
   rw [e];exact h.2 g hg
theorem Hf.go {p:Pg}:∀(r:List (Nd×Int)) (ls:List (List Str)),Hf p ls->Hf p (yh p r ls)
 | [],ls,h=>h
 | (x,o)::r,ls,h=>by
  rw [yh];refine Hf.go r _ ?_
  split
  ·rename_i hl
   refine h.add _ _ ?_;simp only [RH,abq] at hl;simpa using hl.2
  ·exact h
theorem May.pK {p:Pg} (h:May p):Hf p (m5 p):=by
 refine Hf.go _ _ ⟨by simp,fun f hf=>?_⟩;obtain ⟨h1,_,h3⟩:=Nl _ _ (h.names.2.2 p.aA[f] (abD hf));have e:(p.aA.map (·.args)).getD f []=p.aA[f].args:=by simp [List.getD,hf]
 rw [e];exact ⟨⟨[],by simp⟩,h1,h3⟩
theorem May.lof {p:Pg} (h:May p) (k:Nat) (hk:k<p.aA.length):yi p k=(m5 p).getD k []:=by
 rw [yi,if_neg (by simp [h.formed];omega)];simp
theorem May.locals {p:Pg} (h:May p) (k:Nat) (hk:k<p.aA.length):Loc p p.aA[k].args (yi p k)/\(yi p k).length<=16:=by
 rw [h.lof k hk];refine ⟨h.pK.2 k hk,?_⟩;have:=h.bound;simp only [RL,ab2,acR] at this;have hl:k<(m5 p).length:=by rw [h.pK.1];exact hk
 have:=this.1.2 (m5 p)[k] (abD hl);have e:(m5 p).getD k []=(m5 p)[k]:=by simp [List.getD,hl]
 rw [e];simpa using this
end Uw.Tryz
namespace Uw.Tryz
open Go Uw
structure Down (n:Nat) (l:List (Nat×Nd)):Prop where
 dec:l.Pairwise fun a c=>c.1<a.1
 kid:∀y∈l,y.1<n/\∀k∈y.2.of,0<=k/\k<(y.1:Int)
 once:(l.flatMap fun y=>y.2.of).Nodup
structure aaQ (p:Pg):Prop where
 body:∀(i:Nat) (h:i<p.aA.length),(fC p).getD p.aA[i].body.toNat 0=(i:Int)
 kid:∀(i:Nat) (h:i<p.nodes.length) (j:Nat),(j:Int)∈p.nodes[i].of->(fC p).getD j 0=(fC p).getD i 0
end Uw.Tryz
namespace Uw.Tryz
open Go Uw
theorem Jh {p:Pg} (h:mZ p=true) (i:Nat) (hi:i<p.nodes.length):(∀k∈p.nodes[i].of,0<=k/\k<(i:Int))/\yf p.nodes p.nodes[i]=true:=by
 have h1:=h;simp only [mZ,abq] at h1;have key:∀(l:List Nd) (b:Nat),Bi p.nodes b l=true->∀(i:Nat) (hi:i<l.length),(∀k∈l[i].of,0<=k/\k<((b+i:Nat):Int))/\yf p.nodes l[i]=true:=by
  intro l
  induction l with
  | nil=>intro b _ i hi;simp at hi
  | cons y l ih=>
   intro b hb i hi;simp only [Bi,abq] at hb
   cases i with
   | zero=>
    have h2:=hb.1;simp only [RF,abq,aby] at h2;exact ⟨fun k hk=>by simpa using h2.1 k hk,h2.2⟩
   | succ i=>
    obtain ⟨h3,h4⟩:=ih (b+1) hb.2 i (by simpa using hi);exact ⟨fun k hk=>by have:=h3 k hk;omega,h4⟩
 obtain ⟨h3,h4⟩:=key p.nodes 0 h1.1.1 i hi;exact ⟨fun k hk=>by have:=h3 k hk;omega,h4⟩
theorem zT {p:Pg} (h:mZ p=true) (i:Nat) (hi:i<p.aA.length):0<=p.aA[i].body/\p.aA[i].body<p.nodes.length/\Ha p.nodes p.aA[i].body=18:=by
 simp only [mZ,abq,aby] at h;have:=h.1.2 _ (abD hi);simp only [He,abq,decide_eq_true_eq] at this;exact ⟨this.1.1,this.1.2,this.2⟩
structure Ups (p:Pg) (own:List Int):Prop where
 len:own.length=p.nodes.length
 body:∀(i:Nat) (h:i<p.aA.length) (k:Nat),k<p.nodes.length->p.aA[i].body=(k:Int)->own.getD k 0=(i:Int)
 kid:∀(i:Nat) (h:i<p.nodes.length) (k:Nat),(k:Int)∈p.nodes[i].of->own.getD k 0=own.getD i 0/\k<i
 up:∀(k:Nat),k<p.nodes.length->(∀(i:Nat) (hi:i<p.aA.length),p.aA[i].body≠(k:Int))->(∀(i:Nat) (hi:i<p.nodes.length),(k:Int)∉p.nodes[i].of)->False
end Uw.Tryz
namespace Uw.Tryz
open Go Uw
end Uw.Tryz
namespace Go.Proofs
open Go.RowKit Go.Shelf
attribute [local go_sem] Oper.semAt_some
theorem Tryz.Ji (l Bs b off len cap:Nat) (C:Nat->Value) (hreach:len<1000000) (J:Nat->World->Prop)
  (hY:∀k W1,J k W1->k<len->YieldAt Fence.wide 0 Tryz.prog l #[.int .i64 ((len - 1 - k:Nat):Int),.agg #[C ((len - 1 - k) * 5),C ((len - 1 - k) * 5+1),C ((len - 1 - k) * 5+2),C ((len - 1 - k) * 5+3),C ((len - 1 - k) * 5+4)]] W1 fun e W'=>e = .returned (.bool true)/\J (k+1) W')
  (hOK:∀k W1,J k W1->W1.cell? ⟨Bs,0,none⟩=some (.slice (some ⟨b,off,none⟩) len cap)/\∀m,m<len * 5->W1.cell? ⟨b,off+m,none⟩=some (C m))
  (W:World) (h0:J 0 W) :
  CallsIn Fence.wide 0 Tryz.prog 194 #[.func (.yield l) #[] #[],.pointer (some ⟨Bs,0,none⟩)] W fun e W'=>(∃v,e = .returned v)/\J len W':=by
 refine callsIn_of_wp Tryz.func194 rfl trivial ?_ rfl;simp only [Tryz.ntmps194,List.size_toArray,List.length_cons,List.length_nil,Nat.reduceAdd,Nat.reduceSub,Array.replicate_succ,Array.replicate_zero,List.push_toArray,List.append_toArray,List.nil_append,List.cons_append];have hB:=(hOK 0 W h0).1
 gi_wp2
 gi_loopw [3] (fun i wr=>∃k:Nat,k<=len/\i = .int .i64 ((len:Int) - 1 - k)/\J k wr) (fun i _=>(intOf i+1).toNat)
 case atStart=>exact ⟨0,Nat.zero_le _,by simp,h0⟩
 case round=>
  obtain ⟨k,hk,rfl,hJs⟩:=hrel;obtain ⟨hB2,hC⟩:=hOK k wr hJs;by_cases hlt:k<len
  ·obtain ⟨fn,tmps,assign,body,hy,hR⟩:=hY k wr hJs hlt
   have he:((len - 1 - k:Nat):Int)=(len:Int) - 1 - k:=by omega
   rw [he] at hy;have c0:wr.cell? ⟨b,off+(len - 1 - k) * 5,none⟩=some (C ((len - 1 - k) * 5)):=hC _ (by omega);have c1:wr.cell? ⟨b,off+(len - 1 - k) * 5+1,none⟩=some (C ((len - 1 - k) * 5+1)):=by have:=hC ((len - 1 - k) * 5+1) (by omega);rwa [<- Nat.add_assoc] at this
   have c2:wr.cell? ⟨b,off+(len - 1 - k) * 5+2,none⟩=some (C ((len - 1 - k) * 5+2)):=by have:=hC ((len - 1 - k) * 5+2) (by omega);rwa [<- Nat.add_assoc] at this
   have c3:wr.cell? ⟨b,off+(len - 1 - k) * 5+3,none⟩=some (C ((len - 1 - k) * 5+3)):=by have:=hC ((len - 1 - k) * 5+3) (by omega);rwa [<- Nat.add_assoc] at this
   have c4:wr.cell? ⟨b,off+(len - 1 - k) * 5+4,none⟩=some (C ((len - 1 - k) * 5+4)):=by have:=hC ((len - 1 - k) * 5+4) (by omega);rwa [<- Nat.add_assoc] at this
   gi_wp2
   refine ⟨rfl,hR.mono ?_⟩;rintro e W3 ⟨rfl,hJ3⟩
   gi_wp2
   go_roundw
   case rel=>exact ⟨k+1,by omega,by simp;omega,hJ3⟩
   case measure=>simp [intOf];omega
  ·obtain rfl:k=len:=by omega
   gi_wp2
   go_end0
   exact ⟨⟨_,rfl⟩,hJs⟩
theorem Tryz.Hg (l Bs:Nat) (x:Option Addr) (J:Nat->World->Prop) (hOK:∀k W1,J k W1->W1.cell? ⟨Bs,0,none⟩=some (.slice x 0 0)) (W:World) (h0:J 0 W) :
  CallsIn Fence.wide 0 Tryz.prog 194 #[.func (.yield l) #[] #[],.pointer (some ⟨Bs,0,none⟩)] W fun e W'=>(∃v,e = .returned v)/\J 0 W':=by
 refine callsIn_of_wp Tryz.func194 rfl trivial ?_ rfl;simp only [Tryz.ntmps194,List.size_toArray,List.length_cons,List.length_nil,Nat.reduceAdd,Nat.reduceSub,Array.replicate_succ,Array.replicate_zero,List.push_toArray,List.append_toArray,List.nil_append,List.cons_append];have hB:=hOK 0 W h0
 gi_wp2
 gi_loopw [3] (fun i wr=>i = .int .i64 (-1)/\J 0 wr) (fun i _=>0)
 case atStart=>exact ⟨rfl,h0⟩
 case round=>
  obtain ⟨rfl,hJs⟩:=hrel
  gi_wp2
  go_end0
  exact ⟨⟨_,rfl⟩,hJs⟩
end Go.Proofs
namespace Uw.Tryz
open Go Uw Go.RowKit
theorem Jj {w:World} {J:Nat->Nat->Prop} {b k:Nat}:∀{xs:List (List Dat)} {o:Nat},b8 w J b k o xs->∀(i:Nat) (h:i<xs.length),dB w J b (o+i * k) xs[i]
 | x::xs,o,h,0,hi=>by simpa using h.2.1
 | x::xs,o,h,i+1,hi=>by
  have:=Jj h.2.2 i (by simpa using hi);rw [show o+(i+1) * k=o+k+i * k by rw [abK];omega];exact this
structure m6 (ns:List Nd) (b off:Nat) (C:Nat->Value) (c:Cx):Prop where
 rel:∀(i:Nat) (h:i<ns.length),dB c.w (Imm c) b (off+i * 5) (ndL ns[i])
 cell:∀m,m<ns.length * 5->c.w.cell? ⟨b,off+m,none⟩=some (C m)
 imm:∀m,m<ns.length * 5->Imm c b (off+m)
theorem m6.of [Glob] {ns:List Nd} {b off:Nat} {c:Cx} (h:∀(i:Nat) (h:i<ns.length),dB c.w (Imm c) b (off+i * 5) (ndL ns[i])):m6 ns b off (fun m=>(c.w.cell? ⟨b,off+m,none⟩).getD undef) c:=by
 have key:∀m,m<ns.length * 5->(∃v,c.w.cell? ⟨b,off+m,none⟩=some v)/\Imm c b (off+m):=by
  intro m hm;have hi:m / 5<ns.length:=by omega
  obtain ⟨⟨v0,a0,i0,_⟩,⟨v1,a1,i1,_⟩,⟨v2,a2,i2,_⟩,⟨v3,a3,i3,_⟩,⟨v4,a4,i4,_⟩,_⟩:=h (m / 5) hi;have hm5:m % 5=0\/m % 5=1\/m % 5=2\/m % 5=3\/m % 5=4:=by omega
  rcases hm5 with e|e|e|e|e
  ·rw [show off+m=off+m / 5 * 5 by omega];exact ⟨⟨v0,a0⟩,i0⟩
  ·rw [show off+m=off+m / 5 * 5+1 by omega];exact ⟨⟨v1,a1⟩,i1⟩
  ·rw [show off+m=off+m / 5 * 5+1+1 by omega];exact ⟨⟨v2,a2⟩,i2⟩
  ·rw [show off+m=off+m / 5 * 5+1+1+1 by omega];exact ⟨⟨v3,a3⟩,i3⟩
  ·rw [show off+m=off+m / 5 * 5+1+1+1+1 by omega];exact ⟨⟨v4,a4⟩,i4⟩
 refine ⟨h,fun m hm=>?_,fun m hm=>(key m hm).2⟩;obtain ⟨v,hv⟩:=(key m hm).1;rw [hv];rfl
theorem m6.agg [Glob] {ns:List Nd} {b off:Nat} {C:Nat->Value} {c:Cx} (h:m6 ns b off C c) (i:Nat) (hi:i<ns.length):aI c.w (Imm c) (.agg (ndL ns[i])) (.agg #[C (i * 5),C (i * 5+1),C (i * 5+2),C (i * 5+3),C (i * 5+4)]):=by
 obtain ⟨⟨v0,a0,_,_,r0⟩,⟨v1,a1,_,_,r1⟩,⟨v2,a2,_,_,r2⟩,⟨v3,a3,_,_,r3⟩,⟨v4,a4,_,_,r4⟩,_⟩:=h.rel i hi;have e:∀(m:Nat) (v:Value),m<5->c.w.cell? ⟨b,off+i * 5+m,none⟩=some v->v=C (i * 5+m):=by
  intro m v hm hv;have:=h.cell (i * 5+m) (by omega);rw [<- ac7,hv] at this;injection this
 obtain rfl:=e 0 v0 (by omega) a0;obtain rfl:=e 1 v1 (by omega) a1;obtain rfl:=e 2 v2 (by omega) a2;obtain rfl:=e 3 v3 (by omega) a3;obtain rfl:=e 4 v4 (by omega) a4;exact ⟨_,rfl,_,_,rfl,r0,_,_,rfl,r1,_,_,rfl,r2,_,_,rfl,r3,_,_,rfl,r4,rfl⟩
def Nn (ns:List Nd) (b off:Nat) (C:Nat->Value):Fr where
 K:=0
 p:=m6 ns b off C
 ok:=fun c c' he h=>⟨fun i hi=>dB.keep he.keeps _ _ _ (h.rel i hi),fun m hm=>((he.keeps b _ (h.imm m hm)).2).trans (h.cell m hm),fun m hm=>(he.keeps b _ (h.imm m hm)).1⟩
end Uw.Tryz
namespace Uw.Tryz
open Go Uw Go.RowKit
abbrev pgV (p:Pg):Blk:=.var [.d (.slice 3 (p.decls.map Y3) false),.d (.slice 3 (p.aA.map fuL) false),.d (vY p.nodes)]
abbrev owR:jf:=[(3,.ptr 2 0),(1,.ptr 0 0)]
abbrev owH (p:Pg) (o:List (List Dat)):Heap:=[(2,.var [.ref 1 0 0 p.nodes.length]),(1,.mt 1 0 o),(0,pgV p)]
def owF (p:Pg) (j:Nat):List Int:=Dt (p.aA.take j) 0 (List.replicate p.nodes.length 0)
theorem FQ:∀(fs:List Fu) (f:Fu) (b:Nat) (o:List Int),Dt (fs++[f]) b o=(Dt fs b o).set f.body.toNat ((b+fs.length:Nat):Int)
 | [],f,b,o=>by simp [Dt]
 | g::fs,f,b,o=>by
  rw [acH,Dt,Dt,FQ fs f]
  congr 2
  simp;omega
theorem Np (p:Pg) (j:Nat):(owF p j).length=p.nodes.length:=by rw [owF,Du];simp
theorem RS (p:Pg) (j:Nat) (h:j<p.aA.length):owF p (j+1)=(owF p j).set p.aA[j].body.toNat (j:Int):=by
 rw [owF,owF,abN h,FQ];simp;congr 1;omega
theorem Bj {o:List Int} {k:Int} (h:k.toNat<o.length):∃c,(bz o)[0+k.toNat]? = some [I c]/\c=o.getD k.toNat 0:=by
 refine ⟨o.getD k.toNat 0,?_,rfl⟩;rw [abJ,bz,abT,abv h];simp [List.getD,h]
theorem Jk {o:List Int} {k:Nat} {c v:Int}:(bz o).set (0+k) (setAt [I c] 0 [I v])=bz (o.set k v):=by
 rw [abJ,bz,bz,ab1];rfl
def owK (p:Pg) (k:Nat):List Int:=m4 ((idx 0 p.nodes).reverse.take k) (owF p p.aA.length)
theorem U2 (p:Pg) (k:Nat):(owK p k).length=p.nodes.length:=by rw [owK,tP,Np]
theorem yj:∀(l:List (Nat×Nd)) (y:Nat×Nd) (o:List Int),m4 (l++[y]) o=yg (m4 l o) y.1 y.2
 | [],y,o=>rfl
 | x::l,y,o=>by rw [acH,m4,m4,yj l]
theorem yk {α:Type}:∀(l:List α) (b:Nat),(idx b l).length=l.length
 | [],_=>rfl
 | x::l,b=>by rw [idx,abI,abI,yk l]
theorem Nq {α:Type}:∀(l:List α) (b i:Nat) (h:i<l.length),(idx b l)[i]'(by rw [yk];exact h)=(b+i,l[i])
 | x::l,b,0,h=>rfl
 | x::l,b,i+1,h=>by
  have:=Nq l (b+1) i (by simpa using h);simp only [idx,ade];rw [this,show b+1+i=b+(i+1) by omega]
theorem RU (p:Pg) (k:Nat) (h:k<p.nodes.length):owK p (k+1)=yg (owK p k) (p.nodes.length - 1 - k) p.nodes[p.nodes.length - 1 - k]:=by
 have hl:((idx 0 p.nodes).reverse).length=p.nodes.length:=by rw [List.length_reverse,yk]
 rw [owK,owK,abN (by rw [hl];exact h),yj,List.getElem_reverse];have:=Nq p.nodes 0 (p.nodes.length - 1 - k) (by omega);simp only [yk];rw [this];simp
theorem U3 (p:Pg):owK p p.nodes.length=fC p:=by
 rw [owK,fC,abt (by rw [List.length_reverse,yk];exact abu _),owF,abt (abu _)]
theorem aad (p:Pg):WT P0 (fun e s=>e = .normal/\Weak s ⟨[(1,.ptr 0 0)],[(0,pgV p)],1,[],0⟩) (exec oR (pC [pgD p]) Tree.done):=by
 repeat refine aw ?_
 refine al ⟨rfl,?_⟩;exact Uw.wM
theorem aae (p:Pg) (hn:p.nodes.length<100000):WT P0 (fun e s=>e = .normal/\Weak s ⟨owR,owH p (bz (owF p 0)),3,[],0⟩) (exec oS ⟨[(1,.ptr 0 0)],[(0,pgV p)],1,[],0⟩ Tree.done):=by
 have hnl:(p.nodes.map ndL).length=p.nodes.length:=by simp
 have e0:List.replicate (((p.nodes.map ndL).length:Nat):Int).toNat [I 0]=bz (owF p 0):=by
  rw [owF,List.take_zero,Dt,bz,List.map_replicate,hnl];simp
 have hmk:(decide ((0:Int)<=((p.nodes.map ndL).length:Nat))&&decide ((((p.nodes.map ndL).length:Nat):Int)<=((p.nodes.map ndL).length:Nat))&&decide ((((p.nodes.map ndL).length:Nat):Int) * ((8:Nat):Int)<=70368744177664))=true:=by simp;omega
 generalize bz (owF p 0)=O at *
 repeat refine aw ?_
 refine al ⟨rfl,?_⟩;rw [<- e0];exact Uw.wM
theorem aaf (p:Pg) (hp:Lim p) (hb:∀(i:Nat) (h:i<p.aA.length),0<=p.aA[i].body/\p.aA[i].body<p.nodes.length):WT P0 (fun e s=>e = .normal/\Weak s ⟨owR,owH p (bz (owF p p.aA.length)),3,[],0⟩) (exec oU ⟨owR,owH p (bz (owF p 0)),3,[],0⟩ Tree.done):=by
 have hfl:(p.aA.map fuL).length=p.aA.length:=by simp
 have hF:=hp.aA;have hN:=hp.nodes;obtain ⟨O,hO⟩:∃O:Nat->List (List Dat),∀j,O j=bz (owF p j):=⟨_,fun _=>rfl⟩
 have hstep:∀(j:Nat) (h:j<p.aA.length),∃c:Int,(O j)[0+p.aA[j].body.toNat]? = some [I c]/\(O j).set (0+p.aA[j].body.toNat) (setAt [I c] 0 [I j])=O (j+1):=by
  intro j h;have:=hb j h;obtain ⟨c,g1,g2⟩:=Bj (o:=owF p j) (k:=p.aA[j].body) (by rw [Np];omega);exact ⟨c,by rw [hO];exact g1,by rw [hO,hO,Jk,RS p j h]⟩
 have hel:∀(j:Nat) (h:j<p.aA.length),(p.aA.map fuL)[(j:Int).toNat]? = some (fuL p.aA[j]):=by intro j h;simp [h]
 rw [<- hO,<- hO]
 repeat refine aw ?_
 refine kr p.aA.length (fun j:Nat=>⟨[(17,.d (I j)),(16,.d (I ((p.aA.map fuL).length:Nat))),(15,.d (.slice 3 (p.aA.map fuL) false)),(3,.ptr 2 0),(1,.ptr 0 0)],owH p (O j),3,[],0⟩) (fun _=>True) (by exact Uw.wM) (fun _=>?_) (fun j hj _=>?_)
 ·repeat refine aw ?_
  refine bp ?_;refine al ⟨rfl,?_⟩;exact Uw.wM
 have he:=hel j hj;have hs:=hstep j hj;have hbj:=hb j hj;clear hstep hel hO hb;generalize p.aA[j]=f at *;obtain ⟨fn,fa,fb⟩:=f;have he:(p.aA.map fuL)[(j:Int).toNat]? = some [.str fn,Wm fa,I fb]:=he;obtain ⟨c,g1,g2⟩:=hs;simp only at *;obtain ⟨b1,b2⟩:=hbj
 repeat refine aw ?_
 exact gI j trivial (by exact Uw.wM)
theorem aag (p:Pg) (o:List (List Dat)):WT P0 (fun e s=>e = .normal/\Weak s ⟨[(30,.func cm [] [.ptr 3 0]),(3,.ptr 2 0),(1,.ptr 0 0)],(3,.var [.d (vY p.nodes)])::owH p o,4,[],0⟩) (exec oV ⟨owR,owH p o,3,[],0⟩ Tree.done):=by
 repeat refine aw ?_
 refine bO nL rfl ?_
 repeat refine aw ?_
 refine dR rfl rfl ?_
 repeat refine aw ?_
 refine al ⟨rfl,?_⟩;exact Uw.wM
end Uw.Tryz
namespace Uw.Tryz
open Go Uw Go.RowKit
abbrev owS (p:Pg) (k:Nat):St:=⟨owR,owH p (bz (owK p k)),3,[],0⟩
def owN (p:Pg) (k:Nat):Nd:=p.nodes.getD (p.nodes.length - 1 - k) default
abbrev owP (p:Pg) (k:Nat):jf:=[(32,.d (.agg (ndL (owN p k)))),(31,.d (I ((p.nodes.length - 1 - k:Nat):Int)))]
theorem aah (p:Pg) (hp:Lim p) (k:Nat) (hk:k<p.nodes.length) (hx:∀j∈(owN p k).of,0<=j/\j<((p.nodes.length - 1 - k:Nat):Int)) :
  WT P0 (fun e s=>e = .normal/\WT P0 (fun e s'=>e = .normal/\s'.defers=[]/\Weak ⟨owR,s'.heap,s'.next,[],0⟩ (owS p (k+1))) (exec fU s Tree.done)) (exec eP ⟨owP p k++owR,(owS p k).heap,(owS p k).next,[],(owS p k).next⟩ Tree.done):=by
 have hlim:=hp.of (owN p k) (by rw [owN];simp [List.getD,show p.nodes.length - 1 - k<p.nodes.length by omega]);have hN:=hp.nodes;obtain ⟨i,hi⟩:∃i,p.nodes.length - 1 - k=i:=⟨_,rfl⟩
 have hin:i<p.nodes.length:=by omega
 have hnext:owK p (k+1)=yg (owK p k) i (owN p k):=by
  rw [RU p k hk,owN];simp [List.getD,hi,hin]
 rw [hi] at hx;obtain ⟨B,hB⟩:∃B:Nat->List Int,∀j,B j=((owN p k).of.take j).foldl (fun o k=>o.set k.toNat (o.getD i 0)) (owK p k):=⟨_,fun _=>rfl⟩
 obtain ⟨O,hO⟩:∃O:Nat->List (List Dat),∀j,O j=bz (B j):=⟨_,fun _=>rfl⟩
 have hBl:∀j,(B j).length=p.nodes.length:=fun j=>by rw [hB,zb,U2]
 have e0:bz (owK p k)=O 0:=by rw [hO,hB];rfl
 have e1:bz (owK p (k+1))=O (owN p k).of.length:=by rw [hO,hB,acg,hnext];rfl
 have hstep:∀(j:Nat) (h:j<(owN p k).of.length),∃u v:Int,(O j)[0+(i:Int).toNat]? = some [I u]/\(O j)[0+(owN p k).of[j].toNat]? = some [I v]/\(O j).set (0+(owN p k).of[j].toNat) (setAt [I v] 0 [I u])=O (j+1):=by
  intro j h;have h1:=hx _ (abD h);obtain ⟨u,u1,u2⟩:=Bj (o:=B j) (k:=(i:Int)) (by rw [hBl];omega);obtain ⟨v,v1,v2⟩:=Bj (o:=B j) (k:=(owN p k).of[j]) (by rw [hBl];omega);refine ⟨u,v,by rw [hO];exact u1,by rw [hO];exact v1,?_⟩;rw [hO,hO,Jk,hB (j+1),abN h,List.foldl_append,<- hB,u2];rfl
 have hel:∀(j:Nat) (h:j<(owN p k).of.length),((owN p k).of.map fun i=>[I i])[(j:Int).toNat]? = some [I (owN p k).of[j]]:=by intro j h;simp [h]
 have hol:((owN p k).of.map fun i=>[I i]).length=(owN p k).of.length:=by simp
 have hlt:∀(j:Nat) (h:j<(owN p k).of.length),0<=(owN p k).of[j]/\(owN p k).of[j]<(i:Int):=fun j h=>hx _ (abD h);have goal2:∀T0 T1:List (List Dat),bz (owK p k)=T0->bz (owK p (k+1))=T1->(WT P0 (fun e s=>e = .normal/\WT P0 (fun e s'=>e = .normal/\s'.defers=[]/\Weak ⟨owR,s'.heap,s'.next,[],0⟩ ⟨owR,owH p T1,3,[],0⟩) (exec fU s Tree.done)) (exec eP ⟨[(32,.d (.agg (ndL (owN p k)))),(31,.d (I (i:Int)))]++owR,owH p T0,3,[],3⟩ Tree.done))->
   WT P0 (fun e s=>e = .normal/\WT P0 (fun e s'=>e = .normal/\s'.defers=[]/\Weak ⟨owR,s'.heap,s'.next,[],0⟩ (owS p (k+1))) (exec fU s Tree.done)) (exec eP ⟨owP p k++owR,(owS p k).heap,(owS p k).next,[],(owS p k).next⟩ Tree.done):=by
  intro T0 T1 h0 h1 h;rw [<- h0,<- h1,<- hi] at h;exact h
 refine goal2 _ _ e0 e1 ?_;clear goal2 hB hO hBl hnext hx e0 e1;generalize owN p k=x at *;obtain ⟨xk,xn,xs,xt,xo⟩:=x;simp only at *;show WT P0 _ (exec eP ⟨[(32,.d (.agg [I xk,I xn,.str xs,.str xt,ae xo])),(31,.d (I (i:Int)))]++owR,owH p (O 0),3,[],3⟩ Tree.done)
 repeat refine aw ?_
 refine al ⟨rfl,?_⟩
 repeat refine aw ?_
 refine kr xo.length (fun j:Nat=>⟨[(36,.d (I j)),(35,.d (I ((xo.map fun i=>[I i]).length:Nat))),(34,.d (ae xo)),(6,.d (I i)),(3,.ptr 2 0),(1,.ptr 0 0)],owH p (O j),3,[],3⟩) (fun _=>True) (by exact Uw.wM) (fun _=>?_) (fun j hj _=>?_)
 ·repeat refine aw ?_
  refine bp ?_;refine al ⟨rfl,rfl,?_⟩;exact Uw.wM
 have he:=hel j hj;have hs:=hstep j hj;have hbj:=hlt j hj;clear hstep hel hlt;generalize xo[j]=y at *;obtain ⟨u,v,g1,g2,g3⟩:=hs;obtain ⟨b1,b2⟩:=hbj
 repeat refine aw ?_
 exact gI j trivial (by exact Uw.wM)
theorem RV {c:Cx} {R:jf} {t:Array Value} {d:Nat} {v:V} {x:Value} (hr:mP c R t) (hd:d<t.size) (hv:aD c v x):mP c ((d,v)::R) (t.setIfInBounds d x):=by
 intro i u hu;rw [aE] at hu;by_cases hi:d=i
 ·subst hi
  rw [if_pos rfl] at hu;injection hu with hu;subst hu
  rw [ab9,Array.getElem?_setIfInBounds_self_of_lt hd];exact hv
 ·rw [if_neg hi] at hu
  rw [ab9,Array.getElem?_setIfInBounds_ne hi,<- ab9];exact hr i u hu
theorem Jl (p:Pg) (hf:mZ p=true) (hp:Lim p) {c1:Cx} {w00:World} {a:Act} {gs:Fr} {Bs:Nat} {C:Nat->Value} {OK:World->Prop} (hg:a.eval (.tmp 30) = .func (.func cm) #[] #[.pointer (some ⟨Bs,0,none⟩)])
  (hgs:∀c:Cx,gs.p c->∀(i:Nat) (h:i<p.nodes.length),aI c.w (Imm c) (.agg (ndL p.nodes[i])) (.agg #[C (i * 5),C (i * 5+1),C (i * 5+2),C (i * 5+3),C (i * 5+4)]))
  (hOK:∀c:Cx,gs.p c->(∀b,c1.J0.X b->c.w.heap[b]? = c1.w.heap[b]?)->OK c.w)
  (hit:Iter P0 cm #[.pointer (some ⟨Bs,0,none⟩)] (fun k=>#[.int .i64 ((p.nodes.length - 1 - k:Nat):Int),.agg #[C ((p.nodes.length - 1 - k) * 5),C ((p.nodes.length - 1 - k) * 5+1),C ((p.nodes.length - 1 - k) * 5+2),C ((p.nodes.length - 1 - k) * 5+3),C ((p.nodes.length - 1 - k) * 5+4)]]) p.nodes.length OK)
  (r:Rel c1 w00 49 gs (owS p 0) a) {Q:Exit->Act->World->Prop} (hdone:∀(c:Cx),c.B=c1.B->c.J0=(c1.others fun b=>b=c1.w.heap.size\/b=c1.w.heap.size+1).J0->Rel c c.w 49 gs (owS p p.nodes.length) a->Below c1.B c1.w c.w->c.w.heap[c1.w.heap.size]? = some (.deferred (some []))->
   Q .normal { a with defers:={ target:=.collected c1.w.heap.size,args:=#[] }::a.defers } c.w):(Code.rangeFunc (.tmp 30) #[31,32] (cL (cL (cR (cL (cR (cR (cR (gg P0 bn)))))))) (cR (cL (cR (cL (cR (cR (cR (gg P0 bn))))))))).wp P0 Q a c1.w:=by
 have hN:=hp.nodes;have hat:∀(k:Nat) (h:k<p.nodes.length),owN p k=p.nodes[p.nodes.length - 1 - k]'(by omega):=fun k h=>by rw [owN];simp [List.getD,show p.nodes.length - 1 - k<p.nodes.length by omega]
 refine Q5 hg (Go.Proofs.enters_of Go.Proofs.Tryz.func194 (by kernel_rfl) rfl) p.nodes.length _ (fun k=>rfl) owR 0 (owS p) (fun k=>⟨rfl,rfl,rfl⟩) r OK hOK hit xN xO (by kernel_rfl) (by kernel_rfl) (owP p) ?_ ?_ hdone
 ·intro k c hk hgp hr
  have hsz:a.tmps.size=49:=r.size;have h1:aD c (.d (I ((p.nodes.length - 1 - k:Nat):Int))) (.int .i64 ((p.nodes.length - 1 - k:Nat):Int)):=by
   show aI _ _ _ _;simp only [aI]
  have h2:=hgs c hgp (p.nodes.length - 1 - k) (by omega);rw [<- hat k hk] at h2;have he:∀(x1 x2:Value),(#[31,32].zip #[x1,x2]).foldl (fun t ((p,v):Nat×Value)=>t.setIfInBounds p v) a.tmps=(a.tmps.setIfInBounds 31 x1).setIfInBounds 32 x2:=fun _ _=>by simp only [List.zip_toArray,List.foldl_toArray];rfl
  show mP c (owP p k++owR) ((#[31,32].zip #[_,_]).foldl (fun t ((p,v):Nat×Value)=>t.setIfInBounds p v) a.tmps);rw [he];exact RV (RV hr (show 31<a.tmps.size by omega) h1) (show 32<(a.tmps.setIfInBounds 31 _).size by simp;omega) (v:=.d (.agg (ndL (owN p k)))) h2
 ·intro k hk
  refine aah p hp k hk ?_;rw [hat k hk];exact (Jh hf _ (by omega)).1
theorem Dv (p:Pg) (hf:mZ p=true) (hp:Lim p):Ret P0 bn [pgD p] (ae (fC p)):=by
 have hN:=hp.nodes;refine OI AQ (abA rfl) ?_;rintro fn w J c a hres hB hJ rfl hd r;refine Be xI r _ (aad p) ?_;intro c2 a2 b2 j2 r2;refine Be xJ r2 _ (aae p hN) ?_;intro c3 a3 b3 j3 r3;refine Be xK r3 _ (aaf p hp fun i h=>⟨(zT hf i h).1,(zT hf i h).2.1⟩) ?_;intro c4 a4 b4 j4 r4;refine wp_seq (Be xM r4 _ (aag p _) ?_);intro c5 a5 b5 j5 r5;have hB5:c5.B=c.w.heap.size:=b5.trans (b4.trans (b3.trans (b2.trans hB)));have hJ5:c5.J0=⟨J,fun _=>False⟩:=j5.trans (j4.trans (j3.trans (j2.trans hJ)));have hd5:a5.defers=[]:=r5.defers
 -- the iterator's value,and its box
 obtain ⟨us,vs,hfv,hus,hvs⟩:=r5.regs 30 (.func cm [] [.ptr 3 0]) rfl;obtain ⟨v,vs',rfl,⟨_,hv⟩,hvs'⟩:=hvs;simp only [aC] at hus hvs';subst hus hvs' hv;obtain ⟨ws,e,hbox,hbv⟩:=r5.hrel.blk 3 (.var [.d (vY p.nodes)]) (by rw [r5.heap];rfl);obtain ⟨sv,ws',hws,hsv,Y8⟩:=hbv;simp only [aC] at Y8;subst Y8;have hws:ws = #[sv]:=by rw [<- Array.toList_inj];exact hws
 subst hws
 -- the box is forgotten,and nobody's from here on
 have hwk:zA (di []) ⟨[(30,.func cm [] [.ptr 3 0]),(3,.ptr 2 0),(1,.ptr 0 0)],(3,.var [.d (vY p.nodes)])::owH p (bz (owF p p.aA.length)),4,[],0⟩ (owS p 0):=by
  refine zA.of ?_ ?_ rfl rfl ?_ rfl rfl<;>repeat' first|exact trivial|refine ⟨⟨_,rfl,?_⟩,?_⟩|exact Or.inl ⟨rfl,rfl⟩|exact qZ rfl rfl|refine ⟨⟨Or.inl ⟨_,rfl,?_⟩,rfl⟩,?_⟩|refine And.intro ?_ ?_
 obtain ⟨r6,hgb⟩:=r5.forget hwk (id0:=3) rfl rfl;have hBs:(c5.pl 3).gb<c5.w.heap.size:=(acr.1 hbox).1;have hBB:c5.B<=(c5.pl 3).gb:=by
  have:=r5.hrel.ge 3 (.var [.d (vY p.nodes)]) (by rw [r5.heap];rfl) trivial;exact acK fun h=>this (.inl h)
 have r7:=r6.others (fun b=>b=(c5.pl 3).gb) (fun b hb=>by subst hb;exact hBs) (fun b hb id blk hl hp=>by subst hb;exact hgb id blk hl hp);generalize hBe:(c5.pl 3).gb=Bs at *;obtain ⟨c7,hc7⟩:∃c7,c7=(c5.weak (di []) (owS p 0).heap).others (fun b=>b=Bs):=⟨_,rfl⟩
 rw [<- hc7] at r7;have hw7:c7.w=c5.w:=by rw [hc7];rfl
 have hB7:c7.B=c.w.heap.size:=by rw [hc7];exact hB5
 have hJ7:c7.J0=⟨fun b o=>J b o\/b=Bs,fun b=>False\/b=Bs⟩:=by
  rw [hc7];show (⟨fun b o=>c5.J0.J b o\/b=Bs,fun b=>c5.J0.X b\/b=Bs⟩:JX)=_;rw [hJ5]
 have aai:aI c7.w (Imm c7) (vY p.nodes) sv:=by
  have h1:aI c5.w (Imm c5) (vY p.nodes) sv:=hsv;have hk:Keeps c5.w c7.w (Imm c5) (Imm c7):=by
   intro b o hi;rw [hc7];have h2:=iI (c:=c5) (ρ:=di []) (h':=(owS p 0).heap) (by rw [r5.heap];exact hwk.heap) b o hi;exact (Evo.others (c:=c5.weak (di []) (owS p 0).heap) (fun b=>b=Bs)).keeps b o h2.1
  exact aI.keep hk _ _ h1
 have Wt:c7.w.heap[Bs]? = some (.cells #[sv] e (0,0)):=by rw [hw7];exact hbox
 rw [<- hw7];have hbel:Below c.w.heap.size c.w c7.w:=by
  have:=r5.hrel.below;rw [hB5] at this;rw [hw7];exact this
 have hfin:∀(gs:Fr) (cc:Cx),cc.B=c7.B->cc.J0=(c7.others fun b=>b=c7.w.heap.size\/b=c7.w.heap.size+1).J0->Rel cc cc.w 49 gs (owS p p.nodes.length) a5->Below c7.B c7.w cc.w->cc.w.heap[c7.w.heap.size]? = some (.deferred (some []))->
   Code.wp P0 (cR (cR (cR (cR (gg P0 bn))))) (bodyPostM Fence.wide 0 P0 fn (UR c.w J (ae (fC p)))) { a5 with defers:={ target:=.collected c7.w.heap.size,args:=#[] }::a5.defers } cc.w:=by
  intro gs cc e1 e2 r8 e3 e4;have hX:∀b,cc.J0.X b->c.w.heap.size<=b:=by
   intro b hb;rw [e2] at hb;have hs7:=hbel.size
   rcases hb with hb|hb|hb
   ·rw [hJ7] at hb
    rcases hb with hb|hb
    ·exact hb.elim
    ·rw [hb,<- hB5];exact hBB
   ·rw [hb];exact hs7
   ·rw [hb];omega
  refine XK hres xP r8 hd5 (e1.trans hB7) (by rw [e2];exact .inr (.inl rfl)) hX ?_ e4 (hbel.trans (by rw [hB7] at e3;exact e3)) ?_
  ·intro b o hb
   rw [e2] at hb ⊢
   rcases hb with hb|hb
   ·rw [hJ7] at hb
    rcases hb with hb|hb
    ·exact .inl hb
    ·exact .inr (.inl (by rw [hJ7];exact .inr hb))
   ·exact .inr (.inr hb)
  ·have hl:(List.drop 0 (bz (fC p))).take p.nodes.length=bz (fC p):=by
    rw [abC,abt (by rw [bz,acI,zS];exact abu _)]
   rw [<- U3] at hl ⊢;show WT P0 (KO _ (.slice 1 (bz (owK p p.nodes.length)) false)) (exec oW ⟨owR,owH p (bz (owK p p.nodes.length)),3,[],0⟩ Tree.done);generalize bz (owK p p.nodes.length)=O at *
   repeat refine aw ?_
   refine aj rfl rfl rfl rfl ?_;exact congrArg (fun l=>Dat.slice 1 l false) hl
 have hg:a5.eval (.tmp 30) = .func (.func cm) #[] #[.pointer (some ⟨Bs,0,none⟩)]:=hfv;refine wp_block ?_
 rcases aai with ⟨⟨x,hx,_⟩,hnil⟩|⟨b,off,cap,hx,hcap,_,hel⟩
 ·-- no nodes
  have hn0:p.nodes=[]:=by simpa using hnil
  refine Jl p hf hp (gs:=Fr.none) (C:=fun _=>undef) (OK:=fun W=>W.cell? ⟨Bs,0,none⟩=some (.slice x 0 0)) hg (fun c _ i h=>by rw [hn0] at h;simp at h) ?_ ?_ r7 ?_
  ·intro c' _ hX
   have:=hX Bs (by rw [hJ7];exact .inr rfl);rw [World.cell?_of_block this];unfold World.cell?;rw [Wt,hx];rfl
  ·intro l J' W hY XV h0
   rw [hn0];exact Go.Proofs.Tryz.Hg l Bs x J' XV W h0
  ·intro cc e1 e2 r8 e3 e4
   exact hfin _ cc e1 e2 r8 e3 e4
 ·have hlen:(p.nodes.map ndL).length=p.nodes.length:=by simp
  have hat:m6 p.nodes b off (fun m=>(c7.w.cell? ⟨b,off+m,none⟩).getD undef) c7:=m6.of fun i h=>by
   have:=Jj hel i (by rw [hlen];exact h);simpa using this
  generalize (fun m=>(c7.w.cell? ⟨b,off+m,none⟩).getD undef)=C at hat;have r8:Rel c7 c5.w 49 (Nn p.nodes b off C) (owS p 0) a5:=by
   rw [<- hw7];exact ⟨r7.heap,by rw [hw7];exact r7.hrel,r7.size,r7.regs,hat,acD _,r7.base,r7.defers⟩
  refine Jl p hf hp (gs:=Nn p.nodes b off C) (C:=C) (OK:=fun W=>W.cell? ⟨Bs,0,none⟩=some (.slice (some ⟨b,off,none⟩) p.nodes.length cap)/\∀m,m<p.nodes.length * 5->W.cell? ⟨b,off+m,none⟩=some (C m)) hg (fun c h i hi=>m6.agg h i hi) ?_ ?_ r8 ?_
  ·intro c' hc' hX
   refine ⟨?_,fun m hm=>m6.cell hc' m hm⟩;have:=hX Bs (by rw [hJ7];exact .inr rfl);rw [World.cell?_of_block this];unfold World.cell?;rw [Wt,hx,hlen];rfl
  ·intro l J' W hY XV h0
   exact Go.Proofs.Tryz.Ji l Bs b off p.nodes.length cap C (by omega) J' hY XV W h0
  ·intro cc e1 e2 r9 e3 e4
   exact hfin _ cc e1 e2 r9 e3 e4
end Uw.Tryz
namespace Uw
open Go
mutual
theorem U4:∀v:V,v.ren (di [])=v
 | .ptr id o=>rfl
 | .kM id v i c=>rfl
 | .ref id v o l=>rfl
 | .agg cs=>by rw [V.ren,qD cs]
 | .func f fs cs=>by rw [V.ren,qD fs,qD cs]
 | .tuple cs=>by rw [V.ren,qD cs]
 | .d x=>rfl
 | .ro cs o=>rfl
 | .hnd id=>rfl
 | .row id len=>rfl
 | .undef=>rfl
theorem qD:∀l:List V,nA (di []) l=l
 | []=>rfl
 | v::r=>by rw [nA,U4 v,qD r]
end
section
variable [Glob]
theorem Weak.looks {R R' : jf} {H H' : Heap} {n n' b:Nat} (h1:OB (di []) R H H' R') (h2:∀id x,look H' id=some x->look H id=some x/\x.closed H' = true/\id<n') (h3:b<=n') (h4:∀id,id<b->(look H id).isSome=true->(look H' id).isSome=true):Weak ⟨R,H,n,[],b⟩ ⟨R',H',n',[],b⟩:=by
 refine ⟨di [],fun i v h=>qa h1 i v h,fun i x h=>.inl ⟨x,(h2 i x h).1,qZ ?_ (h2 i x h).2.1⟩,fun i x h=>(h2 i x h).2.2,rfl,h3,fun id hid=>⟨rfl,h4 id hid⟩,fun id id' _ _ he=>he,rfl,rfl⟩
 cases x with
 | var cs=>show Blk.var cs=Blk.var (nA (di []) cs);rw [qD]
 | _=>rfl
theorem f1 {P:Program} {Q:ay->St->Prop} {t t' : Tree} (hgo' : WT P Q t') (h:WT P Q t'->WT P Q t:=by
  first
  | (show _->WT _ _ (Tree.Eg _ _)
     first
     | exact A6 _ (by assumption)
     | exact A6 _ rfl)
  | (show _->WT _ _ (Tree.blk _ _)
     first
     | exact Gw _ (by assumption)
     | exact Gw _ rfl)):WT P Q t:=h hgo'
end
end Uw
namespace Uw.Tryz
open Go Uw
structure aaR (rid mid:Nat->Nat) (n:Nat):Prop where
 rr:∀i j,i<n->j<n->rid i=rid j->i=j
 mm:∀i j,i<n->j<n->mid i=mid j->i=j
 rm:∀i j,i<n->j<n->rid i≠mid j
end Uw.Tryz
namespace Uw
open Go
section
variable [Glob]
end
end Uw
namespace Uw.Tryz
open Go Uw
def rid (i:Nat):Nat:=4+2 * i
def mid (i:Nat):Nat:=5+2 * i
end Uw.Tryz
namespace Uw.Tryz
open Go Uw
end Uw.Tryz
namespace Uw.Tryz
open Go Uw
structure In4 where
 op:Int
 a:Int
 b:Int
 c:Int
 deriving DecidableEq,Inhabited
def in4 (i:In4):List Dat:=[I i.op,I i.a,I i.b,I i.c]
structure Nms where
 things:Str->Option (Int×Int)
 aA:Str->Int
 helps:Str->Int
 pK:Str->Option Int
structure Bd where
 args:Int
 locals:Int
 ins:List In4
 deriving DecidableEq,Inhabited
def bdC (b:Bd):List Dat:=[I b.args,I b.locals,.slice 4 (b.ins.map in4) false]
structure Cd where
 aA:List Bd
 cells:List Int
 maps:Int
 stacks:Int
 chans:Int
 main:Int
 deriving DecidableEq,Inhabited
def cdD (c:Cd):Dat:=.agg [.slice 3 (c.aA.map bdC) false,ae c.cells,I c.maps,I c.stacks,I c.chans,I c.main]
end Uw.Tryz
namespace Uw.Tryz
open Go Uw
structure Cont where
 kind:Int
 keys:List Int
 vals:List Int
 deriving DecidableEq,Inhabited
structure Op4 where
 kind:Int
 obj:Int
 a:Int
 b:Int
 deriving DecidableEq,Inhabited
def aW (c:Cont):List Dat:=[I c.kind,ae c.keys,ae c.vals]
def opC (o:Op4):List Dat:=[I o.kind,I o.obj,I o.a,I o.b]
def ofK (k:Int):Int:=if k=1\/k=2\/k=3 then 1 else if k=4\/k=5 then 2 else if k=6\/k=7 then 3 else 0
def dO (c:Cont):Bool:=
 if c.kind=1 then decide (c.keys.length=c.vals.length)&&decide (c.keys.Pairwise (· < ·))
 else if c.kind=2\/c.kind=3 then decide (c.keys.length=0) else false
def cM (l:List Int) (x:Int):Nat:=(l.takeWhile fun y=>decide (y<x)).length
def iC (l:List Int) (x:Int):Bool:=decide (l[cM l x]? = some x)
def sr (l:List Int) (k:Nat) (x:Int):List Int:=l.take k++x::l.drop k
def tQ (l:List Int) (k:Nat):List Int:=l.take k++l.drop (k+1)
def doS (c:Cont) (o:Op4):Cont×Int×Bool:=
 if dO c=false\/ofK o.kind≠c.kind then (c,0,false)
 else if o.kind=1 then (if iC c.keys o.a then (c,c.vals.getD (cM c.keys o.a) 0,true) else (c,0,false))
 else if o.kind=2 then (if iC c.keys o.a then (c,0,false) else (⟨c.kind,sr c.keys (cM c.keys o.a) o.a,sr c.vals (cM c.keys o.a) o.b⟩,0,true))
 else if o.kind=3 then (if iC c.keys o.a then (⟨c.kind,tQ c.keys (cM c.keys o.a),tQ c.vals (cM c.keys o.a)⟩,0,true) else (c,0,false))
 else if o.kind=4 then (⟨c.kind,[],o.a::c.vals⟩,0,true)
 else if o.kind=6 then (⟨c.kind,[],c.vals++[o.a]⟩,0,true)
 else match c.vals with
  | []=>(c,0,false)
  | v::r=>(⟨c.kind,[],r⟩,v,true)
theorem RX {l:List Int} (h:∀(i:Nat) (h1:i+1<l.length),l[i]<l[i+1]):l.Pairwise (· < ·):=by
 rw [acv];intro i j hi hj hij;obtain ⟨d,rfl⟩:∃d,j=i+1+d:=⟨j - (i+1),by omega⟩
 clear hij
 induction d with
 | zero=>exact h i hj
 | succ d ih=>exact Int.lt_trans (ih (by omega)) (h (i+1+d) (by omega))
theorem LN {x:Int}:∀{l:List Int},l.Pairwise (· < ·)->∀(h:Nat) (hl:h<l.length),l[h]<x<->h<cM l x
 | [],_,h,hl=>by simp at hl
 | a::r,hp,h,hl=>by
  have hp':=List.pairwise_cons.1 hp;by_cases ha:a<x
  ·have e:cM (a::r) x=cM r x+1:=by simp [cM,ha]
   rw [e]
   cases h with
   | zero=>simpa using ha
   | succ h=>
    have:=LN (x:=x) hp'.2 h (by simpa using hl);simp only [ade];omega
  ·have e:cM (a::r) x=0:=by simp [cM,ha]
   rw [e]
   cases h with
   | zero=>simpa using ha
   | succ h=>
    have h2:h<r.length:=by simpa using hl
    have:=hp'.1 r[h] (abD _);simp only [ade];omega
theorem Hh (l:List Int) (x:Int):cM l x<=l.length:=by
 unfold cM;exact List.Sublist.length_le (List.takeWhile_sublist _)
theorem vZ (k:Int):Ret P0 nD [I k] (.agg [I k,.nil,.nil]):=by
 refine au IA rfl ?_
 repeat refine aw ?_
 exact aj rfl rfl rfl rfl rfl
theorem uk (k:Int):Ret P0 Fe [I k] (I (ofK k)):=by
 by_cases k1:k=1
 ·subst k1;refine au gj rfl ?_;repeat refine aw ?_
  exact aj rfl rfl rfl rfl rfl
 by_cases k2:k=2
 ·subst k2;refine au gj rfl ?_;repeat refine aw ?_
  exact aj rfl rfl rfl rfl rfl
 by_cases k3:k=3
 ·subst k3;refine au gj rfl ?_;repeat refine aw ?_
  exact aj rfl rfl rfl rfl rfl
 by_cases k4:k=4
 ·subst k4;refine au gj rfl ?_;repeat refine aw ?_
  exact aj rfl rfl rfl rfl rfl
 by_cases k5:k=5
 ·subst k5;refine au gj rfl ?_;repeat refine aw ?_
  exact aj rfl rfl rfl rfl rfl
 by_cases k6:k=6
 ·subst k6;refine au gj rfl ?_;repeat refine aw ?_
  exact aj rfl rfl rfl rfl rfl
 by_cases k7:k=7
 ·subst k7;refine au gj rfl ?_;repeat refine aw ?_
  exact aj rfl rfl rfl rfl rfl
 have e:ofK k=0:=by simp [ofK,k1,k2,k3,k4,k5,k6,k7]
 rw [e];refine au gj rfl ?_
 repeat refine aw ?_
 exact aj rfl rfl rfl rfl rfl
theorem Hj (l:List Int) (hl:l.length<1000000):Ret P0 qd [ae l] (.bool (decide (l.Pairwise (· < ·)))):=by
 have hm:(l.map fun i=>[I i]).length=l.length:=by simp
 have he:∀(j:Nat) (h:j<l.length),(l.map fun i=>[I i])[(j:Int).toNat]? = some [I l[j]]:=fun j h=>by simp [h]
 have he2:∀(j:Nat) (h:j - 1<l.length) (h0:1<=j),(l.map fun i=>[I i])[((j:Int) - 1).toNat]? = some [I l[j - 1]]:=fun j h h0=>by
  have e:((j:Int) - 1).toNat=j - 1:=by omega
  rw [e];simp [h]
 have hno:∀(j:Nat) (h:j<l.length) (h0:1<=j),l[j]<=l[j - 1]->decide (l.Pairwise (· < ·))=false:=fun j h h0 hle=>decide_eq_false fun hp=>by
  have:=acv.1 hp (j - 1) j (by omega) h (by omega);omega
 have hyes:(∀(i:Nat) (h1:i+1<l.length),l[i]<l[i+1])->decide (l.Pairwise (· < ·))=true:=fun h=>decide_eq_true (RX h);generalize decide (l.Pairwise (· < ·))=R at *;refine au xe rfl ?_
 repeat refine aw ?_
 refine dC (fun j:Nat=>⟨[(3,.d (I j)),(2,.d (.bool false)),(0,.d (ae l))],[],0,[],0⟩) (fun j=>1<=j/\∀(i:Nat) (h1:i+1<l.length),i+1<j->l[i]<l[i+1]) (fun j=>l.length - j) 1 (by exact Uw.wW) ⟨abu _,fun i _ h=>absurd h (by omega)⟩ ?_;rintro j ⟨h1,hj⟩;by_cases hjl:j<l.length
 ·have e1:=he j hjl
  have e2:=he2 j (by omega) h1;have n1:=hno j hjl h1;have hs:l[j - 1]<l[j]->∀(i:Nat) (h1:i+1<l.length),i+1<j+1->l[i]<l[i+1]:=fun h i hi hij=>by
   by_cases e:i+1<j
   ·exact hj i hi e
   ·obtain rfl:j=i+1:=by omega
    exact h
  clear he he2 hno hyes hj;generalize l[j]=x at *;generalize l[j - 1]=y at *;by_cases hxy:x<=y
  ·obtain rfl:=n1 hxy
   repeat refine aw ?_
   exact cD (aj rfl rfl rfl rfl rfl)
  ·have hs:=hs (by omega)
   repeat refine aw ?_
   exact aR (j+1) ⟨by omega,hs⟩ (by omega) (by exact Uw.wW)
 ·obtain rfl:=hyes fun i h=>hj i h (by omega)
  repeat refine aw ?_
  refine bp ?_
  repeat refine aw ?_
  exact aj rfl rfl rfl rfl rfl
end Uw.Tryz
namespace Uw.Tryz
open Go Uw
theorem RY (a b:Nat) (h:a<=b):((b:Int) - a).tdiv 2=(((b - a) / 2:Nat):Int):=by
 rw [show ((b:Int) - a)=((b - a:Nat):Int) by omega];rfl
theorem tR (l:List Int) (x:Int) (hl:l.length<1000000) (hp:l.Pairwise (· < ·)):Ret P0 rV [ae l,I x] (.tuple [I (cM l x:Nat),.bool (iC l x)]):=by
 have hm:(l.map fun i=>[I i]).length=l.length:=by simp
 have hle:=Hh l x;have hlow:=LN (x:=x) hp;have he:∀(j:Nat) (h:j<l.length) (z:Int) (hz:z=j),(l.map fun i=>[I i])[z.toNat]? = some [I l[j]]:=fun j h z hz=>by subst hz;simp [h]
 have hR0:¬cM l x<l.length->iC l x=false:=fun h=>by
  unfold iC;rw [abE (by omega)];rfl
 have hR1:∀h:cM l x<l.length,iC l x=decide (l[cM l x]=x):=fun h=>by
  unfold iC;rw [abv h];simp
 generalize iC l x=R at *;generalize cM l x=w at *;refine au yZ rfl ?_
 repeat refine aw ?_
 refine dC (fun ((a,b):Nat×Nat)=>⟨[(7,.d (I b)),(6,.d (I a)),(5,.d (.bool false)),(4,.d (I 0)),(1,.d (I x)),(0,.d (ae l))],[],0,[],0⟩) (fun p=>p.1<=w/\w<=p.2/\p.2<=l.length) (fun p=>p.2 - p.1) (0,l.length) (by exact Uw.wW) ⟨by omega,hle,abu _⟩ ?_;rintro ⟨a,b⟩ ⟨ha,hb,hbl⟩;simp only at ha hb hbl;by_cases hab:a<b
 ·have hh:=RY a b (by omega)
  have hd:(b - a) / 2<b - a:=by omega
  have e1:=he (a+(b - a) / 2) (by omega) ((a:Int)+((b:Int) - a).tdiv 2) (by rw [hh];omega);have e2:=hlow (a+(b - a) / 2) (by omega);clear he hlow;generalize l[a+(b - a) / 2]=y at *;by_cases hy:y<x
  ·have e3:=e2.1 hy
   repeat refine aw ?_
   exact aR (a+(b - a) / 2+1,b) ⟨by simp only;omega,hb,hbl⟩ (by simp only;omega) (by exact Uw.wW)
  ·have e3:¬a+(b - a) / 2<w:=fun h=>hy (e2.2 h)
   repeat refine aw ?_
   exact aR (a,a+(b - a) / 2) ⟨ha,by simp only;omega,by simp only;omega⟩ (by simp only;omega) (by exact Uw.wW)
 ·obtain rfl:a=w:=by omega
  by_cases hw:a<l.length
  ·have e1:=he a hw a rfl
   have hR:=hR1 hw;generalize l[a]=y at *;subst hR
   repeat refine aw ?_
   refine bp ?_
   repeat refine aw ?_
   exact aj rfl rfl rfl rfl rfl
  ·have hR:=hR0 hw
   subst hR
   repeat refine aw ?_
   refine bp ?_
   repeat refine aw ?_
   exact aj rfl rfl rfl rfl rfl
theorem pf (l:List Int) (k:Nat) (x:Int) (hl:l.length<1000000) (hk:k<=l.length):Ret P0 zL [ae l,I k,I x] (ae (sr l k x)):=by
 have hm:(l.map fun i=>[I i]).length=l.length:=by simp
 refine au G5 rfl ?_;refine aw ?_;refine ah (by simp;omega) ?_
 repeat refine aw ?_
 refine aj rfl rfl rfl rfl ?_;simp [fZ,ae,sr];have e:List.take l.length (List.map (fun i=>[I i]) l)=List.map (fun i=>[I i]) l:=abt (by simp);rw [e];exact abt (by simp;omega)
theorem tU (l:List Int) (k:Nat) (hl:l.length<1000000) (hk:k<l.length):Ret P0 jB [ae l,I k] (ae (tQ l k)):=by
 have hm:(l.map fun i=>[I i]).length=l.length:=by simp
 refine au AL rfl ?_
 repeat refine aw ?_
 refine aj rfl rfl rfl rfl ?_;simp [fZ,ae,tQ];have e:List.take l.length (List.map (fun i=>[I i]) l)=List.map (fun i=>[I i]) l:=abt (by simp);rw [e];exact abt (by simp)
end Uw.Tryz
namespace Uw.Tryz
open Go Uw
theorem yl {P:Program} {f:FuncId} {m:aP} (hf:az P f m) {args:List Dat} {r:Dat} (hn:Nat.ble args.length m.n=true)
  (h:WT P (fun e st=>∃st',(st' = st\/Weak st st')/\KO m.res r e st') (exec m.code (pC args) Tree.done)):Ret P f args r:=
 uY hf hn (WT.mono (fun e st ⟨st',h1,h2⟩=>⟨st',h1,.inl h2⟩) _ h)
theorem dw (l:List Int) (hl:l.length<1000000):Ret P0 dt [ae l] (ae l):=by
 have hm:(l.map fun i=>[I i]).length=l.length:=by simp
 refine yl lM rfl ?_;refine bF (fun h1=>?_) (fun h1=>?_)
 ·have h1:l=[]:=by simpa using h1
  subst h1;refine wE ?_ ?_
  ·repeat refine aw ?_
   exact al ⟨⟨[(2,.ref 0 1 0 0)],[(0,.mt 1 1 [])],1,[],0⟩,.inr (by exact Uw.wW),.inr rfl,rfl,_,_,rfl,rfl,rfl,rfl⟩
  ·repeat refine aw ?_
   exact al ⟨_,.inl rfl,.inr rfl,rfl,_,_,rfl,rfl,rfl,rfl⟩
 ·refine aw ?_
  refine aw ?_;refine ah (by simp;omega) ?_
  repeat refine aw ?_
  refine al ⟨_,.inl rfl,.inr rfl,rfl,_,_,rfl,rfl,rfl,?_⟩;simp [fZ,ae];exact abt (by simp)
theorem LO (k:Int) (ks vs:List Int) (oa ob oc od:Int) (hl:ks.length<1000000) (hv:vs.length=ks.length) (hp:ks.Pairwise (· < ·)) :
  Ret P0 vR [.agg [I k,ae ks,ae vs],.agg [I oa,I ob,I oc,I od]] (.tuple [.agg [I k,ae ks,ae vs],I (if iC ks oc then vs.getD (cM ks oc) 0 else 0),.bool (iC ks oc)]):=by
 have hf:=tR ks oc hl hp;have hle:=Hh ks oc;have hin:iC ks oc=true->cM ks oc<ks.length:=fun h=>by
  have h:=of_decide_eq_true h;exact (abQ.1 h).1
 have hm:(vs.map fun i=>[I i]).length=vs.length:=by simp
 have hv' : ∀h:cM ks oc<vs.length,(vs.map fun i=>[I i])[((cM ks oc:Nat):Int).toNat]? = some [I vs[cM ks oc]]:=fun h=>by simp [h]
 have hg:∀h:cM ks oc<vs.length,vs.getD (cM ks oc) 0=vs[cM ks oc]:=fun h=>by simp [h]
 generalize hR:iC ks oc=R at *;generalize cM ks oc=w at *
 cases R with
 | false=>
  refine au sT rfl ?_
  repeat refine aw ?_
  exact aj rfl rfl rfl rfl rfl
 | true=>
  have hw:w<vs.length:=by rw [hv];exact hin rfl
  have e:=hv' hw;rw [if_pos rfl,hg hw];clear hv' hg hin;generalize vs[w]=v at *;refine au sT rfl ?_
  repeat refine aw ?_
  refine br ⟨[(6,.d (.bool true)),(5,.d (I v)),(4,.ptr 2 0)],[(2,.var [.d (I k),.d (ae ks),.d (ae vs)])],3,[],0⟩ ?_ ?_
  ·repeat refine aw ?_
   exact al (.inl ⟨rfl,by exact Uw.wM⟩)
  repeat refine aw ?_
  exact aj rfl rfl rfl rfl rfl
theorem LP (k:Int) (ks vs:List Int) (oa ob oc od:Int) (hl:ks.length<1000000) (hv:vs.length=ks.length) (hp:ks.Pairwise (· < ·)) :
  Ret P0 vS [.agg [I k,ae ks,ae vs],.agg [I oa,I ob,I oc,I od]] (.tuple [.agg (if iC ks oc then [I k,ae ks,ae vs] else [I k,ae (sr ks (cM ks oc) oc),ae (sr vs (cM ks oc) od)]),I 0,.bool (!iC ks oc)]):=by
 have hf:=tR ks oc hl hp;have hle:=Hh ks oc;have h1:=pf ks (cM ks oc) oc hl hle;have h2:=pf vs (cM ks oc) od (by omega) (by omega);generalize iC ks oc=R at *;generalize cM ks oc=w at *
 cases R with
 | true=>
  refine au oM rfl ?_
  repeat refine aw ?_
  exact aj rfl rfl rfl rfl rfl
 | false=>
  refine au oM rfl ?_
  repeat refine aw ?_
  exact aj rfl rfl rfl rfl rfl
theorem LQ (k:Int) (ks vs:List Int) (oa ob oc od:Int) (hl:ks.length<1000000) (hv:vs.length=ks.length) (hp:ks.Pairwise (· < ·)) :
  Ret P0 vT [.agg [I k,ae ks,ae vs],.agg [I oa,I ob,I oc,I od]] (.tuple [.agg (if iC ks oc then [I k,ae (tQ ks (cM ks oc)),ae (tQ vs (cM ks oc))] else [I k,ae ks,ae vs]),I 0,.bool (iC ks oc)]):=by
 have hf:=tR ks oc hl hp;have hin:iC ks oc=true->cM ks oc<ks.length:=fun h=>by
  have h:=of_decide_eq_true h;exact (abQ.1 h).1
 have h1:iC ks oc=true->Ret P0 jB [ae ks,I (cM ks oc)] (ae (tQ ks (cM ks oc))):=fun h=>tU ks (cM ks oc) hl (hin h);have h2:iC ks oc=true->Ret P0 jB [ae vs,I (cM ks oc)] (ae (tQ vs (cM ks oc))):=fun h=>tU vs (cM ks oc) (by omega) (by have:=hin h;omega);generalize iC ks oc=R at *;generalize cM ks oc=w at *
 cases R with
 | true=>
  have h1:=h1 rfl;have h2:=h2 rfl;refine au oN rfl ?_
  repeat refine aw ?_
  exact aj rfl rfl rfl rfl rfl
 | false=>
  refine au oN rfl ?_
  repeat refine aw ?_
  exact aj rfl rfl rfl rfl rfl
theorem Jm (k:Int) (ks vs:List Int) (oa ob oc od:Int) (hv:vs.length<1000000) :
  Ret P0 sU [.agg [I k,ae ks,ae vs],.agg [I oa,I ob,I oc,I od]] (.tuple [.agg [I k,.nil,ae (oc::vs)],I 0,.bool true]):=by
 have h1:=pf vs 0 oc hv (acD _);have e:sr vs 0 oc=oc::vs:=by simp [sr]
 rw [e] at h1;refine au xg rfl ?_
 repeat refine aw ?_
 exact aj rfl rfl rfl rfl rfl
theorem Jn (k:Int) (ks vs:List Int) (oa ob oc od:Int) (hv:vs.length<1000000) :
  Ret P0 sV [.agg [I k,ae ks,ae vs],.agg [I oa,I ob,I oc,I od]] (.tuple [.agg [I k,.nil,ae (vs++[oc])],I 0,.bool true]):=by
 have hm:(vs.map fun i=>[I i]).length=vs.length:=by simp
 have h1:=pf vs vs.length oc hv (abu _);have e:sr vs vs.length oc=vs++[oc]:=by simp [sr]
 rw [e,<- hm] at h1;refine au xi rfl ?_
 repeat refine aw ?_
 exact aj rfl rfl rfl rfl rfl
theorem ym (k:Int) (ks vs:List Int) (oa ob oc od:Int) (hv:vs.length<1000000) :
  Ret P0 mW [.agg [I k,ae ks,ae vs],.agg [I oa,I ob,I oc,I od]] (match vs with|[]=>.tuple [.agg [I k,ae ks,ae []],I 0,.bool false]|v::r=>.tuple [.agg [I k,.nil,ae r],I v,.bool true]):=by
 cases vs with
 | nil=>
  refine au fO rfl ?_
  repeat refine aw ?_
  exact aj rfl rfl rfl rfl rfl
 | cons v r=>
  have hc:Ret P0 dt [.slice 1 (List.drop (Int.toNat 1) (List.take ((((v::r).map fun i=>[I i]).length:Nat):Int).toNat ((v::r).map fun i=>[I i]))) false] (ae r):=by
   have h:=dw r (by simp at hv;omega);have e:List.drop (Int.toNat 1) (List.take ((((v::r).map fun i=>[I i]).length:Nat):Int).toNat ((v::r).map fun i=>[I i]))=r.map fun i=>[I i]:=by simp;exact abt (by simp)
   rw [e];exact h
  refine au fO rfl ?_
  repeat refine aw ?_
  refine br ⟨[(6,.d (.bool true)),(5,.d (I v)),(4,.ptr 2 0)],[(2,.var [.d (I k),.d .nil,.d (ae r)])],3,[],0⟩ ?_ ?_
  ·repeat (first|refine aw ?_|refine aF [I v] rfl ?_)
   exact al (.inl ⟨rfl,by exact Uw.wM⟩)
  repeat refine aw ?_
  exact aj rfl rfl rfl rfl rfl
theorem Dw:Ret P0 sQ [] (.agg [.nilFunc,.func vR,.func vS,.func vT,.func sU,.func mW,.func sV,.func mW]):=by
 refine au AG rfl ?_
 repeat refine aw ?_
 exact aj rfl rfl rfl rfl rfl
end Uw.Tryz
namespace Uw.Tryz
open Go Uw
theorem Hk (k:Int) (ks vs:List Int) (hl:ks.length<1000000):Ret P0 wU [.agg [I k,ae ks,ae vs]] (.bool (dO ⟨k,ks,vs⟩)):=by
 have hr:=Hj ks hl;have hm:(ks.map fun i=>[I i]).length=ks.length:=by simp
 have hm2:(vs.map fun i=>[I i]).length=vs.length:=by simp
 by_cases k1:k=1
 ·subst k1
  by_cases e:ks.length=vs.length
  ·have hR:dO ⟨1,ks,vs⟩=decide (ks.Pairwise (· < ·)):=by simp [dO,e]
   rw [hR];have e' : (((ks.map fun i=>[I i]).length:Nat):Int)=((vs.map fun i=>[I i]).length:Nat):=by omega
   generalize decide (ks.Pairwise (· < ·))=R at *;refine au iu rfl ?_
   repeat refine aw ?_
   exact aj rfl rfl rfl rfl rfl
  ·have hR:dO ⟨1,ks,vs⟩=false:=by simp [dO,e]
   rw [hR];have e' : ¬(((ks.map fun i=>[I i]).length:Nat):Int)=((vs.map fun i=>[I i]).length:Nat):=by omega
   refine au iu rfl ?_
   repeat refine aw ?_
   exact aj rfl rfl rfl rfl rfl
 by_cases k2:k=2
 ·subst k2
  have hR:dO ⟨2,ks,vs⟩=decide ((((ks.map fun i=>[I i]).length:Nat):Int)=0):=by simp [dO]
  rw [hR];refine au iu rfl ?_
  repeat refine aw ?_
  exact aj rfl rfl rfl rfl rfl
 by_cases k3:k=3
 ·subst k3
  have hR:dO ⟨3,ks,vs⟩=decide ((((ks.map fun i=>[I i]).length:Nat):Int)=0):=by simp [dO]
  rw [hR];refine au iu rfl ?_
  repeat refine aw ?_
  exact aj rfl rfl rfl rfl rfl
 have hR:dO ⟨k,ks,vs⟩=false:=by simp [dO,k1,k2,k3]
 rw [hR];refine au iu rfl ?_
 repeat refine aw ?_
 exact aj rfl rfl rfl rfl rfl
theorem zc (c:Cont) (o:Op4) (hl:c.keys.length<1000000) (hv:c.vals.length<1000000) :
  Ret P0 kt [.agg (aW c),.agg (opC o)] (.tuple [.agg (aW (doS c o).1),I (doS c o).2.1,.bool (doS c o).2.2]):=by
 obtain ⟨k,ks,vs⟩:=c;obtain ⟨oa,ob,oc,od⟩:=o;simp only at hl hv;show Ret P0 kt [.agg [I k,ae ks,ae vs],.agg [I oa,I ob,I oc,I od]] _;have hr:=Hk k ks vs hl;have ho:=uk oa;have he:=Dw;by_cases h1:dO ⟨k,ks,vs⟩=false
 ·have hD:doS ⟨k,ks,vs⟩ ⟨oa,ob,oc,od⟩=(⟨k,ks,vs⟩,0,false):=by unfold doS;rw [if_pos (.inl h1)]
  rw [hD];rw [h1] at hr;refine au dE rfl ?_
  repeat refine aw ?_
  exact aj rfl rfl rfl rfl rfl
 have h1:dO ⟨k,ks,vs⟩=true:=by simpa using h1
 rw [h1] at hr;by_cases h2:ofK oa=k
 rotate_left 1
 ·have hD:doS ⟨k,ks,vs⟩ ⟨oa,ob,oc,od⟩=(⟨k,ks,vs⟩,0,false):=by unfold doS;rw [if_pos (.inr h2)]
  rw [hD];refine au dE rfl ?_
  repeat refine aw ?_
  exact aj rfl rfl rfl rfl rfl
 by_cases k1:oa=1
 ·subst k1
  obtain rfl:k=1:=h2.symm;have hR:vs.length=ks.length/\ks.Pairwise (· < ·):=by simp [dO] at h1;exact ⟨h1.1.symm,h1.2⟩
  have hc:=LO 1 ks vs 1 ob oc od hl hR.1 hR.2;have hD:doS ⟨1,ks,vs⟩ ⟨1,ob,oc,od⟩=(⟨1,ks,vs⟩,if iC ks oc then vs.getD (cM ks oc) 0 else 0,iC ks oc):=by
   unfold doS;rw [if_neg (by simp [h1,ofK])];simp only [if_true];cases iC ks oc<;>rfl
  rw [hD];generalize iC ks oc=R at *;generalize cM ks oc=w at *;show Ret P0 kt _ (.tuple [.agg [I 1,ae ks,ae vs],I (if R then vs.getD w 0 else 0),.bool R]);generalize (if R then vs.getD w 0 else 0)=v at *;refine au dE rfl ?_
  repeat refine aw ?_
  refine br ⟨[(6,.d (.bool R)),(5,.d (I v)),(4,.ptr 2 0)],[(2,.var [.d (I 1),.d (ae ks),.d (ae vs)])],3,[],0⟩ ?_ ?_
  ·repeat refine aw ?_
   refine bK _ sT.body rfl hc ?_
   repeat refine aw ?_
   exact al (.inl ⟨rfl,by exact Uw.wM⟩)
  repeat refine aw ?_
  exact aj rfl rfl rfl rfl rfl
 by_cases k2:oa=2
 ·subst k2
  obtain rfl:k=1:=h2.symm;have hR:vs.length=ks.length/\ks.Pairwise (· < ·):=by simp [dO] at h1;exact ⟨h1.1.symm,h1.2⟩
  have hc:=LP 1 ks vs 2 ob oc od hl hR.1 hR.2
  cases hh:iC ks oc with
  | true=>
   have hD:doS ⟨1,ks,vs⟩ ⟨2,ob,oc,od⟩=(⟨1,ks,vs⟩,0,false):=by
    unfold doS;rw [if_neg (by simp [h1,ofK])];simp [hh]
   rw [hD];rw [hh] at hc;refine au dE rfl ?_
   repeat refine aw ?_
   refine br ⟨[(6,.d (.bool false)),(5,.d (I 0)),(4,.ptr 2 0)],[(2,.var [.d (I 1),.d (ae ks),.d (ae vs)])],3,[],0⟩ ?_ ?_
   ·repeat refine aw ?_
    refine bK _ oM.body rfl hc ?_
    repeat refine aw ?_
    exact al (.inl ⟨rfl,by exact Uw.wM⟩)
   repeat refine aw ?_
   exact aj rfl rfl rfl rfl rfl
  | false=>
   have hD:doS ⟨1,ks,vs⟩ ⟨2,ob,oc,od⟩=(⟨1,sr ks (cM ks oc) oc,sr vs (cM ks oc) od⟩,0,true):=by
    unfold doS;rw [if_neg (by simp [h1,ofK])];simp [hh]
   rw [hD];rw [hh] at hc;refine au dE rfl ?_
   repeat refine aw ?_
   refine br ⟨[(6,.d (.bool true)),(5,.d (I 0)),(4,.ptr 2 0)],[(2,.var [.d (I 1),.d (ae (sr ks (cM ks oc) oc)),.d (ae (sr vs (cM ks oc) od))])],3,[],0⟩ ?_ ?_
   ·repeat refine aw ?_
    refine bK _ oM.body rfl hc ?_
    repeat refine aw ?_
    exact al (.inl ⟨rfl,by exact Uw.wM⟩)
   repeat refine aw ?_
   exact aj rfl rfl rfl rfl rfl
 by_cases k3:oa=3
 ·subst k3
  obtain rfl:k=1:=h2.symm;have hR:vs.length=ks.length/\ks.Pairwise (· < ·):=by simp [dO] at h1;exact ⟨h1.1.symm,h1.2⟩
  have hc:=LQ 1 ks vs 3 ob oc od hl hR.1 hR.2
  cases hh:iC ks oc with
  | true=>
   have hD:doS ⟨1,ks,vs⟩ ⟨3,ob,oc,od⟩=(⟨1,tQ ks (cM ks oc),tQ vs (cM ks oc)⟩,0,true):=by
    unfold doS;rw [if_neg (by simp [h1,ofK])];simp [hh]
   rw [hD];rw [hh] at hc;refine au dE rfl ?_
   repeat refine aw ?_
   refine br ⟨[(6,.d (.bool true)),(5,.d (I 0)),(4,.ptr 2 0)],[(2,.var [.d (I 1),.d (ae (tQ ks (cM ks oc))),.d (ae (tQ vs (cM ks oc)))])],3,[],0⟩ ?_ ?_
   ·repeat refine aw ?_
    refine bK _ oN.body rfl hc ?_
    repeat refine aw ?_
    exact al (.inl ⟨rfl,by exact Uw.wM⟩)
   repeat refine aw ?_
   exact aj rfl rfl rfl rfl rfl
  | false=>
   have hD:doS ⟨1,ks,vs⟩ ⟨3,ob,oc,od⟩=(⟨1,ks,vs⟩,0,false):=by
    unfold doS;rw [if_neg (by simp [h1,ofK])];simp [hh]
   rw [hD];rw [hh] at hc;refine au dE rfl ?_
   repeat refine aw ?_
   refine br ⟨[(6,.d (.bool false)),(5,.d (I 0)),(4,.ptr 2 0)],[(2,.var [.d (I 1),.d (ae ks),.d (ae vs)])],3,[],0⟩ ?_ ?_
   ·repeat refine aw ?_
    refine bK _ oN.body rfl hc ?_
    repeat refine aw ?_
    exact al (.inl ⟨rfl,by exact Uw.wM⟩)
   repeat refine aw ?_
   exact aj rfl rfl rfl rfl rfl
 by_cases k4:oa=4
 ·subst k4
  obtain rfl:k=2:=h2.symm;have hc:=Jm 2 ks vs 4 ob oc od hv;have hD:doS ⟨2,ks,vs⟩ ⟨4,ob,oc,od⟩=(⟨2,[],oc::vs⟩,0,true):=by
   unfold doS;rw [if_neg (by simp [h1,ofK])];rfl
  rw [hD];refine Ret.res (r:=.tuple [.agg [I 2,.nil,ae (oc::vs)],I 0,.bool true]) ?_ (.tuple (.cons (.agg (.cons (.refl _) (.cons (.nil _) (.refl _)))) (.refl _)));refine au dE rfl ?_
  repeat refine aw ?_
  refine br ⟨[(6,.d (.bool true)),(5,.d (I 0)),(4,.ptr 2 0)],[(2,.var [.d (I 2),.d .nil,.d (ae (oc::vs))])],3,[],0⟩ ?_ ?_
  ·repeat refine aw ?_
   refine bK _ xg.body rfl hc ?_
   repeat refine aw ?_
   exact al (.inl ⟨rfl,by exact Uw.wM⟩)
  repeat refine aw ?_
  exact aj rfl rfl rfl rfl rfl
 by_cases k6:oa=6
 ·subst k6
  obtain rfl:k=3:=h2.symm;have hc:=Jn 3 ks vs 6 ob oc od hv;have hD:doS ⟨3,ks,vs⟩ ⟨6,ob,oc,od⟩=(⟨3,[],vs++[oc]⟩,0,true):=by
   unfold doS;rw [if_neg (by simp [h1,ofK])];rfl
  rw [hD];refine Ret.res (r:=.tuple [.agg [I 3,.nil,ae (vs++[oc])],I 0,.bool true]) ?_ (.tuple (.cons (.agg (.cons (.refl _) (.cons (.nil _) (.refl _)))) (.refl _)));refine au dE rfl ?_
  repeat refine aw ?_
  refine br ⟨[(6,.d (.bool true)),(5,.d (I 0)),(4,.ptr 2 0)],[(2,.var [.d (I 3),.d .nil,.d (ae (vs++[oc]))])],3,[],0⟩ ?_ ?_
  ·repeat refine aw ?_
   refine bK _ xi.body rfl hc ?_
   repeat refine aw ?_
   exact al (.inl ⟨rfl,by exact Uw.wM⟩)
  repeat refine aw ?_
  exact aj rfl rfl rfl rfl rfl
 have hk:oa=5\/oa=7:=by
  have hne:ofK oa≠0:=fun e=>by
   rw [<- h2,e] at h1;simp [dO] at h1
  by_cases e5:oa=5
  ·exact .inl e5
  by_cases e7:oa=7
  ·exact .inr e7
  exact absurd (by simp [ofK,k1,k2,k3,k4,e5,k6,e7]) hne
 rcases hk with rfl|rfl
 ·obtain rfl:k=2:=h2.symm
  have hc:=ym 2 ks vs 5 ob oc od hv
  cases vs with
  | nil=>
   have hD:doS ⟨2,ks,[]⟩ ⟨5,ob,oc,od⟩=(⟨2,ks,[]⟩,0,false):=by
    unfold doS;rw [if_neg (by simp [h1,ofK])];rfl
   rw [hD];refine au dE rfl ?_
   repeat refine aw ?_
   refine br ⟨[(6,.d (.bool false)),(5,.d (I 0)),(4,.ptr 2 0)],[(2,.var [.d (I 2),.d (ae ks),.d (ae [])])],3,[],0⟩ ?_ ?_
   ·repeat refine aw ?_
    refine bK _ fO.body rfl hc ?_
    repeat refine aw ?_
    exact al (.inl ⟨rfl,by exact Uw.wM⟩)
   repeat refine aw ?_
   exact aj rfl rfl rfl rfl rfl
  | cons v r=>
   have hD:doS ⟨2,ks,v::r⟩ ⟨5,ob,oc,od⟩=(⟨2,[],r⟩,v,true):=by
    unfold doS;rw [if_neg (by simp [h1,ofK])];rfl
   rw [hD];refine Ret.res (r:=.tuple [.agg [I 2,.nil,ae r],I v,.bool true]) ?_ (.tuple (.cons (.agg (.cons (.refl _) (.cons (.nil _) (.refl _)))) (.refl _)));refine au dE rfl ?_
   repeat refine aw ?_
   refine br ⟨[(6,.d (.bool true)),(5,.d (I v)),(4,.ptr 2 0)],[(2,.var [.d (I 2),.d .nil,.d (ae r)])],3,[],0⟩ ?_ ?_
   ·repeat refine aw ?_
    refine bK _ fO.body rfl hc ?_
    repeat refine aw ?_
    exact al (.inl ⟨rfl,by exact Uw.wM⟩)
   repeat refine aw ?_
   exact aj rfl rfl rfl rfl rfl
 ·obtain rfl:k=3:=h2.symm
  have hc:=ym 3 ks vs 7 ob oc od hv
  cases vs with
  | nil=>
   have hD:doS ⟨3,ks,[]⟩ ⟨7,ob,oc,od⟩=(⟨3,ks,[]⟩,0,false):=by
    unfold doS;rw [if_neg (by simp [h1,ofK])];rfl
   rw [hD];refine au dE rfl ?_
   repeat refine aw ?_
   refine br ⟨[(6,.d (.bool false)),(5,.d (I 0)),(4,.ptr 2 0)],[(2,.var [.d (I 3),.d (ae ks),.d (ae [])])],3,[],0⟩ ?_ ?_
   ·repeat refine aw ?_
    refine bK _ fO.body rfl hc ?_
    repeat refine aw ?_
    exact al (.inl ⟨rfl,by exact Uw.wM⟩)
   repeat refine aw ?_
   exact aj rfl rfl rfl rfl rfl
  | cons v r=>
   have hD:doS ⟨3,ks,v::r⟩ ⟨7,ob,oc,od⟩=(⟨3,[],r⟩,v,true):=by
    unfold doS;rw [if_neg (by simp [h1,ofK])];rfl
   rw [hD];refine Ret.res (r:=.tuple [.agg [I 3,.nil,ae r],I v,.bool true]) ?_ (.tuple (.cons (.agg (.cons (.refl _) (.cons (.nil _) (.refl _)))) (.refl _)));refine au dE rfl ?_
   repeat refine aw ?_
   refine br ⟨[(6,.d (.bool true)),(5,.d (I v)),(4,.ptr 2 0)],[(2,.var [.d (I 3),.d .nil,.d (ae r)])],3,[],0⟩ ?_ ?_
   ·repeat refine aw ?_
    refine bK _ fO.body rfl hc ?_
    repeat refine aw ?_
    exact al (.inl ⟨rfl,by exact Uw.wM⟩)
   repeat refine aw ?_
   exact aj rfl rfl rfl rfl rfl
end Uw.Tryz
namespace Uw.Tryz.Vm
open Go Uw Uw.Tryz
structure Frame where
 task:Int
 path:List Int
 fn:Int
 pc:Int
 loc:List Int
 stack:List Int
 kids:List (Int×Int)
 many:Int
 spent:Int
 fail:Bool
structure Ask where
 kind:Int
 a:Int
 b:Int
 op:Int×Int×Int×Int
 args:List Int
def fQ (k:Int×Int):List Dat:=[I k.1,I k.2]
def bY (f:Frame):Dat:=.agg [I f.task,ae f.path,I f.fn,I f.pc,ae f.loc,ae f.stack,.slice 2 (f.kids.map fQ) false,I f.many,I f.spent,.bool f.fail]
theorem s25 (n b:Int):Ret P0 CX [I n,I b] (.bool (decide (0<=n)&&decide (n<b))):=by
 refine au IF rfl ?_;refine bF (fun h=>?_) (fun h=>?_)
 ·refine ah rfl ?_
  refine aj rfl rfl rfl rfl ?_;simp at h;simp [h,fZ]
 ·refine aS rfl ?_
  refine aj rfl rfl rfl rfl ?_;simp at h;simp [fZ];omega
def isVal (n:Int):Bool:=decide (0<=n)&&decide (n<4294967296)
def below (n b:Int):Bool:=decide (0<=n)&&decide (n<b)
def dest (n l:Int):Bool:=decide (n = -1)||below n l
theorem s38 (n:Int):Ret P0 Dc [I n] (.bool (isVal n)):=by
 refine au I0 rfl ?_;refine aL _ (s25 _ _) ?_;exact aj rfl rfl rfl rfl rfl
theorem s37 (n b:Int):Ret P0 Ff [I n,I b] (.bool (dest n b)):=by
 refine au Le rfl ?_;refine bF (fun h=>?_) (fun h=>?_)
 ·simp at h
  refine aL _ (s25 _ _) ?_;refine aS rfl ?_;exact aj rfl rfl rfl rfl (by simp [fZ,dest,below,h])
 ·simp at h
  refine ah rfl ?_;exact aj rfl rfl rfl rfl (by simp [fZ,dest,h])
theorem yn {α:Type} (p:α->Bool) (l:List α) (k:Nat) (h:k<l.length):(l.take (k+1)).all p=((l.take k).all p&&p l[k]):=by
 rw [abN h,adI];simp
theorem s26 (l:List Int) (hl:l.length<1000000):Ret P0 zG [ae l] (.bool (l.all isVal)):=by
 refine au GR rfl ?_;refine dC (fun k:Int=>⟨[(5,.d (ae l)),(6,.d (.int .i64 (l.map fun n=>[Dat.int .i64 n]).length)),(7,.d (.int .i64 k))],[],0,[],0⟩)
  (fun k=>0<=k/\k<=l.length/\(l.take k.toNat).all isVal=true) (fun k=>(l.length - k).toNat) 0 ?_ ⟨by omega,by omega,by simp⟩ ?_
 ·exact Weak.of ⟨⟨_,rfl,.inl ⟨rfl,rfl⟩⟩,⟨_,rfl,.inl ⟨rfl,rfl⟩⟩,⟨_,rfl,.inl ⟨rfl,rfl⟩⟩,trivial⟩ trivial rfl rfl trivial rfl rfl
 ·rintro k ⟨h0,h1,hall⟩
  refine bF (fun h=>?_) (fun h=>?_)
  ·simp at h
   refine ah (by simp;omega) ?_;refine aF [.int .i64 l[k.toNat]] (by simp) ?_;refine aL _ (s38 _) ?_;refine bF (fun h2=>?_) (fun h2=>?_)
   ·refine cD ?_
    refine aj rfl rfl rfl rfl ?_;simp at h2;simp only [fZ]
    congr 1
    symm
    rw [acS];exact ⟨l[k.toNat],abD _,by simp [h2]⟩
   ·refine ah (by simp [inR];omega) ?_
    refine aR (k+1) ⟨by omega,by omega,?_⟩ (by omega) (Weak.of ⟨⟨_,rfl,.inl ⟨rfl,rfl⟩⟩,⟨_,rfl,.inl ⟨rfl,rfl⟩⟩,⟨_,rfl,.inl ⟨rfl,rfl⟩⟩,trivial⟩ trivial rfl rfl trivial rfl rfl);rw [show (k+1).toNat=k.toNat+1 by omega,yn isVal l k.toNat (by omega),hall];simpa using h2
  ·refine bp ?_
   simp at h;refine aj rfl rfl rfl rfl ?_;rw [abt (by omega)] at hall;rw [hall];rfl
def yo (b:Int) (k:Int×Int):Bool:=decide (1<=k.1)&&dest k.2 b
def dx (c:Cd) (f:Frame):Bd:=c.aA.getD f.fn.toNat ⟨0,0,[]⟩
def right (c:Cd) (f:Frame):Bool:=
 !(decide (f.task<1)||!below f.fn c.aA.length)&&
 !(!below f.pc ((dx c f).ins.length+1)||!decide ((f.loc.length:Int)=(dx c f).locals)||decide (100<(f.stack.length:Int)))&&
 f.kids.all (yo (dx c f).locals)&&f.loc.all isVal&&f.stack.all isVal&&decide (0<=f.many)&&below f.spent 2001
structure Tiny (c:Cd) (f:Frame):Prop where
 aA:c.aA.length<1000
 cells:c.cells.length<1000
 ins:∀b∈c.aA,b.ins.length<1000
 path:f.path.length<1000
 loc:f.loc.length<1000
 stack:f.stack.length<1000
 kids:f.kids.length<1000
end Uw.Tryz.Vm
namespace Uw.Tryz.Vm
open Go Uw Uw.Tryz
def rows (l:List Int):List (List Dat):=l.map fun n=>[I n]
def eC (l:List (Int×Int)):List (List Dat):=l.map fQ
theorem XW (l:List Int) (hl:l.length<1000):eN P0 dt [.d (ae l)] [] (.ref 0 1 0 l.length) [.mt 1 1 (rows l)]:=by
 have hm:(l.map fun i=>[I i]).length=l.length:=by simp
 refine dD lM rfl ?_;refine bF (fun h1=>?_) (fun h1=>?_)
 ·have h1:l=[]:=by simpa using h1
  subst h1;refine wE ?_ ?_
  ·refine aw ?_
   exact dh 0 rfl rfl (by exact Uw.wW)
  ·refine aw ?_
   refine aw ?_;refine ah rfl ?_;exact dh 0 rfl rfl (by exact Uw.wW)
 ·refine aw ?_
  refine aw ?_;refine ah (by simp;omega) ?_;exact dh 0 rfl rfl (by exact Uw.wW)
theorem XX (l:List (Int×Int)) (hl:l.length<1000):eN P0 fL [.d (.slice 2 (l.map fQ) false)] [] (.ref 0 1 0 l.length) [.mt 2 1 (eC l)]:=by
 have hm:(l.map fQ).length=l.length:=by simp
 refine dD qj rfl ?_;refine bF (fun h1=>?_) (fun h1=>?_)
 ·have h1:l=[]:=by simpa using h1
  subst h1;refine wE ?_ ?_
  ·refine aw ?_
   exact dh 0 rfl rfl (by exact Uw.wW)
  ·refine aw ?_
   refine aw ?_;refine ah rfl ?_;exact dh 0 rfl rfl (by exact Uw.wW)
 ·refine aw ?_
  refine aw ?_;refine ah (by simp;omega) ?_;exact dh 0 rfl rfl (by exact Uw.wW)
theorem cB (l:List Int) (hl:l.length<1000) (h:Heap) (nx:Nat):bQ P0 dt [.d (ae l)] h nx (fun r h' nx'=>r = .val (.ref nx 1 0 l.length)/\h' = (nx,.mt 1 1 (rows l))::h/\nx' = nx+1):=by
 refine bQ.mono ((XW l hl).frame [] (abu _) (by simp) (by simp) (by simp [bk,look]) ⟨.inl ⟨rfl,rfl⟩,trivial⟩) ?_;rintro r h' nx' ⟨_,_,_,⟨rfl,rfl,rfl⟩,rfl,rfl,rfl⟩;exact ⟨rfl,rfl,rfl⟩
theorem m7 (l:List (Int×Int)) (hl:l.length<1000) (h:Heap) (nx:Nat):bQ P0 fL [.d (.slice 2 (l.map fQ) false)] h nx (fun r h' nx'=>r = .val (.ref nx 1 0 l.length)/\h' = (nx,.mt 2 1 (eC l))::h/\nx' = nx+1):=by
 refine bQ.mono ((XX l hl).frame [] (abu _) (by simp) (by simp) (by simp [bk,look]) ⟨.inl ⟨rfl,rfl⟩,trivial⟩) ?_;rintro r h' nx' ⟨_,_,_,⟨rfl,rfl,rfl⟩,rfl,rfl,rfl⟩;exact ⟨rfl,rfl,rfl⟩
def RZ (f:Frame) (i:Nat):List V:=[.d (I f.task),.ref i 1 0 f.path.length,.d (I f.fn),.d (I f.pc),.ref (i+1) 1 0 f.loc.length,.ref (i+2) 1 0 f.stack.length,.ref (i+3) 1 0 f.kids.length,.d (I f.many),.d (I f.spent),.d (.bool f.fail)]
end Uw.Tryz.Vm
namespace Uw.Tryz.Vm
open Go Uw Uw.Tryz
def aM:List V:=[.d (I 0),.d (I 0),.d (I 0),.d (I 0),.d (I 0),.d (I 0),.d (I 0),.d .nil]
def tV:List V:=[.d (I 0),.d .nil,.d (I 0),.d (I 0),.d .nil,.d .nil,.d .nil,.d (I 0),.d (I 0),.d (.bool false)]
structure LX where
 f:Frame
 xs:List (List Dat)
 n:Nat
 ver:Nat
 ls:List (List Dat)
def frV (x:LX):List V:=[.d (I x.f.task),.ref 6 1 0 x.f.path.length,.d (I x.f.fn),.d (I x.f.pc),.ref 7 1 0 x.f.loc.length,.ref 8 x.ver 0 x.n,.ref 9 1 0 x.f.kids.length,.d (I x.f.many),.d (I x.f.spent),.d (.bool x.f.fail)]
def cV (c:Cd):List V:=(V.ce (cdD c)).cells
def bV (b:Bd):List V:=(bdC b).map V.d
def eT (i:In4):List V:=(in4 i).map V.d
def table:List V:=[.d .nilFunc,.d (.func 84),.d (.func 85),.d (.func 86),.d (.func 87),.d (.func 88),.func 139 [] [.ptr 11 0],.func 139 [] [.ptr 12 0],.func 139 [] [.ptr 13 0],.func 139 [] [.ptr 14 0],.func 139 [] [.ptr 15 0],
 .d (.func 97),.d (.func 98),.d (.func 99),.d (.func 100),.d (.func 101),.d (.func 102),.d (.func 103),.d (.func 104),.func 139 [] [.ptr 16 0]]
def bW (c:Cd) (b:Bd) (f0:Frame) (x:LX) (ask:List V):Heap:=
 [(5,.var (cV c++bV b++frV x++ask)),(6,.mt 1 1 (rows x.f.path)),(7,.mt 1 1 x.ls),(8,.mt 1 x.ver x.xs),(9,.mt 2 1 (eC x.f.kids)),
   (11,.var [.d (.func 90)]),(12,.var [.d (.func 92)]),(13,.var [.d (.func 93)]),(14,.var [.d (.func 94)]),(15,.var [.d (.func 96)]),(16,.var [.d (.func 105)]),(17,.var table),
   (0,.var (cV c)),(1,.var (V.ce (bY f0)).cells),(2,.var tV),(3,.var aM),(4,.var [.d (I 0)])]
def LH (c:Cd) (b:Bd) (f0:Frame) (x:LX) (ask:List V) (i:In4):Heap:=(18,.var (eT i))::bW c b f0 x ask
structure Inv (c:Cd) (b:Bd) (x:LX):Prop where
 pre:x.xs.take x.n=rows x.f.stack
 len:x.n=x.f.stack.length
 le:x.n<=x.xs.length
 loc:x.ls=rows x.f.loc
 deep:x.f.stack.length<=100
 pc0:0<=x.f.pc
 pc1:x.f.pc<1000
 sp0:0<=x.f.spent
 sp1:x.f.spent<2000
 pK:x.f.loc.length<1000
 kids:x.f.kids.length<1000
 ins:b.ins.length<1000
 aA:c.aA.length<1000
 cells:c.cells.length<1000
def v7:Dat:=.iface 28 (I 1)
def passed (x:LX):LX:={ x with f:={ x.f with pc:=x.f.pc+1,spent:=x.f.spent+1 } }
end Uw.Tryz.Vm
