/- L6: Xa Pa Pa2 Pa3 Pt Pu Pv Pw Ca Cd Ce Cf Cb Da Db Ck Cg Ch Ci Cj Cl Cm Ck0 Fa Ba Bb Bc (merged by merge2.py from the working texts). -/
import Derived.Test.YtikpfliiodgonaaGreatDoorL4
import Derived.Test.YtikpfliiodgonaaGreatDoorL3
import Derived.Lib.Join
import Derived.Test.YtikpfliiodgonaaGreatDoorL5
import Derived.RangeFuncBound
import Derived.Shelf.Abstract
import Derived.OwnWalkIn
import Derived.TacticsInMore
import Derived.LoopNIn
import Derived.LoopIn
set_option maxRecDepth 100000
set_option maxHeartbeats 4000000
set_option linter.unusedSimpArgs false
set_option linter.unnecessarySimpa false
set_option linter.unusedVariables false
set_option linter.unusedSectionVars false
namespace Uw.Tryz
open Go Uw
abbrev I (n:Int):Dat:=.int .i64 n
structure Tok where
 kind:Int
 text:List UInt8
 n:Int
 at_:Int
 deriving DecidableEq,Inhabited
def Rl (t:Tok):List Dat:=[I t.kind,.str t.text,I t.n,I t.at_]
def N7 (l:List Tok):Dat:=.slice 4 (l.map Rl) false
def cls (c:UInt8):Nat:=
 if 97<=c.toNat/\c.toNat<=122\/65<=c.toNat/\c.toNat<=90 then 1
 else if 48<=c.toNat/\c.toNat<=57 then 2
 else if c.toNat=95 then 3
 else if c.toNat=9\/c.toNat=10\/c.toNat=32 then 4
 else if c.toNat=40\/c.toNat=41\/c.toNat=123\/c.toNat=125\/c.toNat=44\/c.toNat=59\/c.toNat=46\/c.toNat=61\/c.toNat=43\/c.toNat=45\/c.toNat=42\/c.toNat=60 then 5
 else 0
def nameB (c:UInt8):Bool:=decide (cls c=1)||decide (cls c=2)||decide (cls c=3)
def eW (c:UInt8):Bool:=decide (cls c=2)
def rD (l:List UInt8):Nat:=l.foldl (fun n b=>10 * n+(b.toNat - 48)) 0
def Gx (r:List UInt8):Bool:=match r with|[]=>false|b::_=>decide (cls b=1)||decide (cls b=3)
def eqq (r:List UInt8):Bool:=match r with|[]=>false|b::_=>decide (b.toNat=61)
def cZ:List UInt8->Option (Int×Nat×Int)
 | []=>none
 | c::t=>
  if cls c=1 then (if 1+(t.takeWhile nameB).length<=12 then some (1,1+(t.takeWhile nameB).length,0) else none)
  else if cls c=2 then
   (if 1+(t.takeWhile eW).length<=10/\¬(1<1+(t.takeWhile eW).length/\c.toNat=48)/\rD (c::t.takeWhile eW)<4294967296/\Gx (t.dropWhile eW)=false
    then some (2,1+(t.takeWhile eW).length,(rD (c::t.takeWhile eW):Nat)) else none)
  else if cls c=5 then (if c.toNat=61/\eqq t=true then some (3,2,0) else some (3,1,0))
  else none
def BB:Nat->List UInt8->Int->Option (List Tok)
 | _,[],_=>some []
 | 0,_,_=>none
 | f+1,c::t,at_=>
  if cls c=4 then BB f t (at_+1)
  else match cZ (c::t) with
   | none=>none
   | some (k,n,v)=>(BB f ((c::t).drop n) (at_+n)).map (⟨k,(c::t).take n,v,at_⟩::·)
def qo (r:List UInt8) (at_:Int):Option (List Tok):=BB r.length r at_
theorem m8 {α:Type} (p:α->Bool) (l:List α):(l.takeWhile p).length<=l.length:=(abk (p:=p) (l:=l)).length_le
theorem s4 {r:List UInt8} {k:Int} {n:Nat} {v:Int} (h:cZ r=some (k,n,v)):1<=n/\n<=r.length:=by
 cases r with
 | nil=>simp [cZ] at h
 | cons c t=>
  have h1:=m8 nameB t;have h2:=m8 eW t;rw [cZ] at h;by_cases a1:cls c=1
  ·rw [if_pos a1] at h
   split at h
   ·simp at h;simp;omega
   ·cases h
  ·rw [if_neg a1] at h
   by_cases a2:cls c=2
   ·rw [if_pos a2] at h
    split at h
    ·simp only [Y8,ZM] at h;simp only [Y7];omega
    ·cases h
   ·rw [if_neg a2] at h
    split at h
    ·split at h
     ·rename_i h3
      cases t with
      | nil=>simp [eqq] at h3
      | cons b u=>simp at h;simp;omega
     ·simp at h;simp;omega
    ·cases h
theorem sE:∀(f g:Nat) (r:List UInt8) (a:Int),r.length<=f->r.length<=g->BB f r a=BB g r a
 | 0,g,[],a,_,_=>by cases g<;>rfl
 | f+1,g,[],a,_,_=>by cases g<;>rfl
 | 0,_,_::_,_,h,_=>by simp at h
 | _+1,0,_::_,_,_,h=>by simp at h
 | f+1,g+1,c::t,a,h1,h2=>by
  simp only [Y7] at h1 h2;rw [BB,BB];by_cases hb:cls c=4
  ·rw [if_pos hb,if_pos hb];exact sE f g t (a+1) (by omega) (by omega)
  ·rw [if_neg hb,if_neg hb]
   cases ht:cZ (c::t) with
   | none=>rfl
   | some x=>
    obtain ⟨k,n,v⟩:=x;have:=s4 ht;simp only [Y7] at this;simp only;rw [sE f g ((c::t).drop n) (a+n) (by simp;omega) (by simp;omega)]
theorem N8 (a:Int):qo [] a=some []:=rfl
theorem IK (c:UInt8) (t:List UInt8) (a:Int) (h:cls c=4):qo (c::t) a=qo t (a+1):=by
 rw [qo,Y7,BB,if_pos h];rfl
theorem Lj (c:UInt8) (t:List UInt8) (a:Int) (h:cls c≠4) (h2:cZ (c::t)=none):qo (c::t) a=none:=by
 rw [qo,Y7,BB,if_neg h,h2]
theorem N9 (c:UInt8) (t:List UInt8) (a:Int) (h:cls c≠4) {k:Int} {n:Nat} {v:Int} (h2:cZ (c::t)=some (k,n,v)):qo (c::t) a=(qo ((c::t).drop n) (a+n)).map (⟨k,(c::t).take n,v,a⟩::·):=by
 have:=s4 h2;simp only [Y7] at this;rw [qo,Y7,BB,if_neg h,h2];simp only;rw [qo,sE t.length _ ((c::t).drop n) (a+n) (by simp;omega) (Ls _)]
def sF (s:List UInt8):List Tok×Int:=if 4000<s.length then ([],2) else match qo s 0 with|none=>([],3)|some l=>(l,0)
def IL (x:List Tok×Int):Dat:=.tuple [N7 x.1,I x.2]
end Uw.Tryz
namespace Uw.Tryz
open Go Uw
abbrev Str:=List UInt8
mutual
inductive Ex where
 | num (n:Int)
 | name (s:Str)
 | bin (k:Int) (a b:Ex)
 | call (o v:Str) (ar:Exs)
inductive Exs where
 | nil
 | cons (e:Ex) (r:Exs)
end
mutual
inductive Stm where
 | set (s:Str) (e:Ex)
 | task (par:Bool) (to f:Str) (ar:Exs)
 | sync
 | if1 (e:Ex) (a:Bl)
 | if2 (e:Ex) (a b:Bl)
 | loop (e:Ex) (a:Bl)
 | one (k:Int) (e:Ex)
 | act (o v:Str) (ar:Exs)
inductive Bl where
 | nil
 | cons (s:Stm) (r:Bl)
end
def Exs.length:Exs->Nat
 | .nil=>0
 | .cons _ r=>r.length+1
inductive R (α:Type) where
 | ok (a:α) (r:List Tok)
 | bad
 | out
def R.bind {α β:Type} (x:R α) (f:α->List Tok->R β):R β:=
 match x with
 | .ok a r=>f a r
 | .bad=>.bad
 | .out=>.out
def hd (r:List Tok):Str:=match r with|[]=>[]|t::_=>t.text
def want (s:Str) (r:List Tok):R Unit:=if hd r=s then .ok () r.tail else .bad
def Tm:Str:=[99,101,108,108]
def Wz:Str:=[109,97,112]
def Oa:Str:=[115,116,97,99,107]
def Tn:Str:=[99,104,97,110]
def Dk:Str:=[102,117,110,99]
def cM:Str:=[115,112,97,119,110]
def Gy:Str:=[112,97,114]
def jW:Str:=[115,121,110,99]
def sIf:Str:=[105,102]
def Ov:Str:=[101,108,115,101]
def IP:Str:=[119,104,105,108,101]
def yP:Str:=[114,101,116,117,114,110]
def dD:Str:=[97,115,115,101,114,116]
def WA (s:Str):Bool:=decide (s=Tm)||decide (s=Wz)||decide (s=Oa)||decide (s=Tn)||decide (s=Dk)||decide (s=cM)||decide (s=Gy)||decide (s=jW)||decide (s=sIf)||decide (s=Ov)||decide (s=IP)||decide (s=yP)||decide (s=dD)
def vX (k:Int) (r:List Tok):R Tok:=
 match r with
 | []=>.bad
 | t::r'=>if t.kind=k then .ok t r' else .bad
def isNum (r:List Tok):Bool:=match r with|[]=>false|t::_=>decide (t.kind=2)
def numOf (r:List Tok):Int:=match r with|[]=>0|t::_=>t.n
def ot (r:List Tok):R Str:=(vX 1 r).bind fun t r'=>if WA t.text then .bad else .ok t.text r'
mutual
def pj:Nat->List Tok->R Ex
 | 0,_=>.out
 | n+1,r=>
  if hd r=[40] then (eX n r.tail).bind fun e r=>(want [41] r).bind fun _ r=>.ok e r
  else if isNum r then .ok (.num (numOf r)) r.tail
  else (ot r).bind fun s r=>if hd r=[46] then (lG n s r).bind fun x r=>.ok (.call s x.1 x.2) r else .ok (.name s) r
def lG:Nat->Str->List Tok->R (Str×Exs)
 | 0,_,_=>.out
 | n+1,s,r=>(want [46] r).bind fun _ r=>(ot r).bind fun v r=>(ou n r).bind fun ar r=>.ok (v,ar) r
def ou:Nat->List Tok->R Exs
 | 0,_=>.out
 | n+1,r=>(want [40] r).bind fun _ r=>if hd r=[41] then .ok .nil r.tail else (eX n r).bind fun e r=>(hZ n r).bind fun es r=>.ok (.cons e es) r
def hZ:Nat->List Tok->R Exs
 | 0,_=>.out
 | n+1,r=>if hd r=[44] then (eX n r.tail).bind fun e r=>(hZ n r).bind fun es r=>.ok (.cons e es) r
  else (want [41] r).bind fun _ r=>.ok .nil r
def mP:Nat->List Tok->R Ex
 | 0,_=>.out
 | n+1,r=>(pj n r).bind fun e r=>jX n e r
def jX:Nat->Ex->List Tok->R Ex
 | 0,_,_=>.out
 | n+1,left,r=>if hd r=[42] then (pj n r.tail).bind fun e r=>jX n (.bin 5 left e) r else .ok left r
def tB:Nat->List Tok->R Ex
 | 0,_=>.out
 | n+1,r=>(mP n r).bind fun e r=>mQ n e r
def mQ:Nat->Ex->List Tok->R Ex
 | 0,_,_=>.out
 | n+1,left,r=>
  if hd r=[43] then (mP n r.tail).bind fun e r=>mQ n (.bin 3 left e) r
  else if hd r=[45] then (mP n r.tail).bind fun e r=>mQ n (.bin 4 left e) r
  else .ok left r
def eX:Nat->List Tok->R Ex
 | 0,_=>.out
 | n+1,r=>(tB n r).bind fun left r=>
  if hd r=[60] then (tB n r.tail).bind fun e r=>.ok (.bin 6 left e) r
  else if hd r=[61,61] then (tB n r.tail).bind fun e r=>.ok (.bin 7 left e) r
  else .ok left r
end
def iT (n:Nat) (to:Str) (r:List Tok):R Stm:=
 (if hd r=cM then R.ok false r.tail else (want Gy r).bind fun _ r=>.ok true r).bind fun par r=>
  (ot r).bind fun f r=>(ou n r).bind fun ar r=>if par=true/\ar.length≠2 then .bad else .ok (.task par to f ar) r
def kS (n:Nat) (r:List Tok):R Stm:=
 if hd r=cM\/hd r=Gy then iT n [] r
 else if hd r=jW then .ok .sync r.tail
 else if hd r=yP then (eX n r.tail).bind fun e r=>.ok (.one 15 e) r
 else if hd r=dD then (eX n r.tail).bind fun e r=>.ok (.one 16 e) r
 else (ot r).bind fun s r=>
  if hd r=[46] then (lG n s r).bind fun x r=>.ok (.act s x.1 x.2) r
  else (want [61] r).bind fun _ r=>
   if hd r=cM\/hd r=Gy then iT n s r else (eX n r).bind fun e r=>.ok (.set s e) r
mutual
def rA:Nat->List Tok->R Stm
 | 0,_=>.out
 | n+1,r=>
  if hd r=sIf then (eX n r.tail).bind fun e r=>(fK n r).bind fun a r=>
   if hd r=Ov then (fK n r.tail).bind fun b r=>.ok (.if2 e a b) r else .ok (.if1 e a) r
  else if hd r=IP then (eX n r.tail).bind fun e r=>(fK n r).bind fun a r=>.ok (.loop e a) r
  else (kS n r).bind fun s r=>(want [59] r).bind fun _ r=>.ok s r
def fK:Nat->List Tok->R Bl
 | 0,_=>.out
 | n+1,r=>(want [123] r).bind fun _ r=>jY n r
def jY:Nat->List Tok->R Bl
 | 0,_=>.out
 | n+1,r=>if hd r=[125] then .ok .nil r.tail else (rA n r).bind fun s r=>(jY n r).bind fun ss r=>.ok (.cons s ss) r
end
structure Dec where
 kind:Int
 name:Str
 n:Int
 deriving DecidableEq,Inhabited
structure Fn where
 name:Str
 args:List Str
 body:Bl
def gI:Nat->List Tok->R (List Str)
 | 0,_=>.out
 | n+1,r=>if hd r=[44] then (ot r.tail).bind fun s r=>(gI n r).bind fun l r=>.ok (s::l) r
  else (want [41] r).bind fun _ r=>.ok [] r
def sG (n:Nat) (r:List Tok):R (List Str):=(want [40] r).bind fun _ r=>
 if hd r=[41] then .ok [] r.tail else (ot r).bind fun s r=>(gI n r).bind fun l r=>.ok (s::l) r
def BD (n:Nat) (r:List Tok):R Fn:=(want Dk r).bind fun _ r=>(ot r).bind fun s r=>(sG n r).bind fun l r=>(fK n r).bind fun b r=>.ok ⟨s,l,b⟩ r
def kindOf (s:Str):Option Int:=if s=Tm then some 0 else if s=Wz then some 1 else if s=Oa then some 2 else if s=Tn then some 3 else none
def Gz (r:List Tok):R Dec:=(vX 1 r).bind fun t r=>match kindOf t.text with
 | none=>.bad
 | some k=>(ot r).bind fun s r=>
  (if k=0/\hd r=[61] then (vX 2 r.tail).bind fun t r=>R.ok t.n r else .ok 0 r).bind fun v r=>(want [59] r).bind fun _ r=>.ok ⟨k,s,v⟩ r
def zR:Nat->List Tok->R (List Dec)
 | 0,_=>.out
 | n+1,r=>if r=[]\/hd r=Dk then .ok [] r else (Gz r).bind fun d r=>(zR n r).bind fun l r=>.ok (d::l) r
def GF:Nat->List Tok->R (List Fn)
 | 0,_=>.out
 | n+1,r=>if r=[] then .ok [] r else (BD n r).bind fun f r=>(GF n r).bind fun l r=>.ok (f::l) r
def Tq (n:Nat) (r:List Tok):R (List Dec×List Fn):=(zR n r).bind fun d r=>(GF n r).bind fun f r=>.ok (d,f) r
structure Nod where
 kind:Int
 n:Int
 name:Str
 name2:Str
 of:List Nat
 deriving DecidableEq,Inhabited
mutual
def Ex.sz:Ex->Nat
 | .num _=>1
 | .name _=>1
 | .bin _ a b=>a.sz+b.sz+1
 | .call _ _ ar=>ar.sz+1
def Exs.sz:Exs->Nat
 | .nil=>0
 | .cons e r=>e.sz+r.sz
end
def Exs.places:Exs->Nat->List Nat
 | .nil,_=>[]
 | .cons e r,b=>(b+e.sz - 1)::r.places (b+e.sz)
mutual
def Ex.flat:Ex->Nat->List Nod
 | .num n,_=>[⟨1,n,[],[],[]⟩]
 | .name s,_=>[⟨2,0,s,[],[]⟩]
 | .bin k x y,b=>x.flat b++y.flat (b+x.sz)++[⟨k,0,[],[],[b+x.sz - 1,b+x.sz+y.sz - 1]⟩]
 | .call o v ar,b=>ar.flat b++[⟨8,0,o,v,ar.places b⟩]
def Exs.flat:Exs->Nat->List Nod
 | .nil,_=>[]
 | .cons e r,b=>e.flat b++r.flat (b+e.sz)
end
mutual
def Stm.sz:Stm->Nat
 | .set _ e=>e.sz+1
 | .task _ _ _ ar=>ar.sz+1
 | .sync=>1
 | .if1 e a=>e.sz+(a.sz+1)+1
 | .if2 e a b=>e.sz+(a.sz+1)+(b.sz+1)+1
 | .loop e a=>e.sz+(a.sz+1)+1
 | .one _ e=>e.sz+1
 | .act _ _ ar=>ar.sz+1+1
def Bl.sz:Bl->Nat
 | .nil=>0
 | .cons s r=>s.sz+r.sz
end
def Bl.places:Bl->Nat->List Nat
 | .nil,_=>[]
 | .cons s r,b=>(b+s.sz - 1)::r.places (b+s.sz)
mutual
def Stm.flat:Stm->Nat->List Nod
 | .set s e,b=>e.flat b++[⟨9,0,s,[],[b+e.sz - 1]⟩]
 | .task par to f ar,b=>ar.flat b++[⟨if par then 11 else 10,0,to,f,ar.places b⟩]
 | .sync,b=>[⟨12,0,[],[],[]⟩]
 | .if1 e x,b=>e.flat b++(x.flat (b+e.sz)++[⟨18,0,[],[],x.places (b+e.sz)⟩])++[⟨13,0,[],[],[b+e.sz - 1,b+e.sz+(x.sz+1) - 1]⟩]
 | .if2 e x y,b=>e.flat b++(x.flat (b+e.sz)++[⟨18,0,[],[],x.places (b+e.sz)⟩])++(y.flat (b+e.sz+(x.sz+1))++[⟨18,0,[],[],y.places (b+e.sz+(x.sz+1))⟩])++[⟨13,0,[],[],[b+e.sz - 1,b+e.sz+(x.sz+1) - 1,b+e.sz+(x.sz+1)+(y.sz+1) - 1]⟩]
 | .loop e x,b=>e.flat b++(x.flat (b+e.sz)++[⟨18,0,[],[],x.places (b+e.sz)⟩])++[⟨14,0,[],[],[b+e.sz - 1,b+e.sz+(x.sz+1) - 1]⟩]
 | .one k e,b=>e.flat b++[⟨k,0,[],[],[b+e.sz - 1]⟩]
 | .act o v ar,b=>ar.flat b++[⟨8,0,o,v,ar.places b⟩]++[⟨17,0,[],[],[b+ar.sz+1 - 1]⟩]
def Bl.flat:Bl->Nat->List Nod
 | .nil,_=>[]
 | .cons s r,b=>s.flat b++r.flat (b+s.sz)
end
def Bl.all (x:Bl) (b:Nat):List Nod:=x.flat b++[⟨18,0,[],[],x.places b⟩]
mutual
theorem Ex.Ew:∀(e:Ex),1<=e.sz
 | .num _=>Ls _
 | .name _=>Ls _
 | .bin _ a b=>by rw [Ex.sz];omega
 | .call _ _ ar=>by rw [Ex.sz];omega
end
theorem Stm.Ew (s:Stm):1<=s.sz:=by cases s<;>simp only [Stm.sz]<;>omega
end Uw.Tryz
namespace Uw.Tryz
open Go Uw
theorem bind_ok {α β:Type} {x:R α} {f:α->List Tok->R β} {b:β} {r:List Tok}:x.bind f = .ok b r<->∃a r1,x = .ok a r1/\f a r1 = .ok b r:=by
 cases x with
 | ok a r1=>exact ⟨fun h=>⟨a,r1,rfl,h⟩,fun ⟨_,_,h1,h2⟩=>by injection h1 with e1 e2;subst e1 e2;exact h2⟩
 | bad=>exact ⟨fun h=>(by cases h),fun ⟨_,_,h,_⟩=>(by cases h)⟩
 | out=>exact ⟨fun h=>(by cases h),fun ⟨_,_,h,_⟩=>(by cases h)⟩
def Suf (r r' : List Tok) (s:Nat):Prop:=∃j,j<=r.length/\r' = r.drop j/\s<=j
theorem Suf.refl (r:List Tok):Suf r r 0:=⟨0,by simp,rfl,Ls _⟩
theorem Suf.trans {a b c:List Tok} {s t:Nat} (h1:Suf a b s) (h2:Suf b c t):Suf a c (s+t):=by
 obtain ⟨i,i1,rfl,i3⟩:=h1;obtain ⟨j,j1,rfl,j3⟩:=h2;simp at j1;exact ⟨i+j,by omega,by rw [aao],by omega⟩
theorem Suf.le {a b:List Tok} {s t:Nat} (h:Suf a b s) (hl:t<=s):Suf a b t:=by
 obtain ⟨i,i1,i2,i3⟩:=h;exact ⟨i,i1,i2,by omega⟩
theorem Suf.tail {r:List Tok} (h:r≠[]):Suf r r.tail 1:=by
 cases r with
 | nil=>exact absurd rfl h
 | cons a l=>exact ⟨1,by simp,rfl,Ls _⟩
theorem WB {r:List Tok} {s:Str} (h:hd r=s) (hs:s≠[]):r≠[]:=by
 rintro rfl;exact hs h.symm
theorem Suf.hd {r:List Tok} {s:Str} (h:hd r=s) (hs:s≠[]):Suf r r.tail 1:=Suf.tail (WB h hs)
theorem JH {s:Str} {r r' : List Tok} {u:Unit} (h:want s r = .ok u r'):Uw.Tryz.hd r=s/\r' = r.tail:=by
 rw [want] at h
 split at h
 ·rename_i hh
  injection h with _ h
  exact ⟨hh,h.symm⟩
 ·cases h
theorem Ey {k:Int} {r r' : List Tok} {t:Tok} (h:vX k r = .ok t r'):∃q,r=t::q/\r' = q/\t.kind=k:=by
 cases r with
 | nil=>rw [vX] at h;cases h
 | cons a q=>
  rw [vX] at h
  split at h
  ·rename_i hk
   injection h with h1 h2
   subst h1 h2;exact ⟨q,rfl,rfl,hk⟩
  ·cases h
theorem JI {r r' : List Tok} {s:Str} (h:ot r = .ok s r'):∃t,r=t::r'/\s=t.text/\t.kind=1/\WA t.text=false:=by
 rw [ot,bind_ok] at h;obtain ⟨t,r1,h1,h2⟩:=h;obtain ⟨q,rfl,rfl,hk⟩:=Ey h1
 split at h2
 ·cases h2
 ·rename_i hkw
  injection h2 with e1 e2
  subst e1 e2;exact ⟨t,rfl,rfl,hk,by simpa using hkw⟩
theorem Suf.name {r r' : List Tok} {s:Str} (h:ot r = .ok s r'):Suf r r' 1:=by
 obtain ⟨t,rfl,_⟩:=JI h;exact ⟨1,by simp,rfl,Ls _⟩
theorem Suf.want {s:Str} (hs:s≠[]) {r r' : List Tok} {u:Unit} (h:want s r = .ok u r'):Suf r r' 1:=by
 obtain ⟨h1,rfl⟩:=JH h;exact Suf.hd h1 hs
structure X0 (n:Nat):Prop where
 BE:∀r e r',pj n r = .ok e r'->Suf r r' e.sz
 call:∀s r x r',lG n s r = .ok x r'->Suf r r' (x.2.sz+1)
 args:∀r x r',ou n r = .ok x r'->Suf r r' (x.sz+1)
 zS:∀r x r',hZ n r = .ok x r'->Suf r r' x.sz
 prod:∀r e r',mP n r = .ok e r'->Suf r r' e.sz
 yi:∀l r e r',jX n l r = .ok e r'->Suf r r' (e.sz - l.sz)/\l.sz<=e.sz
 sum:∀r e r',tB n r = .ok e r'->Suf r r' e.sz
 sumT:∀l r e r',mQ n l r = .ok e r'->Suf r r' (e.sz - l.sz)/\l.sz<=e.sz
 expr:∀r e r',eX n r = .ok e r'->Suf r r' e.sz
theorem rB:∀n,X0 n
 | 0=>by
  refine ⟨?_,?_,?_,?_,?_,?_,?_,?_,?_⟩
  ·intro _ _ _ h;rw [pj] at h;cases h
  ·intro _ _ _ _ h;rw [lG] at h;cases h
  ·intro _ _ _ h;rw [ou] at h;cases h
  ·intro _ _ _ h;rw [hZ] at h;cases h
  ·intro _ _ _ h;rw [mP] at h;cases h
  ·intro _ _ _ _ h;rw [jX] at h;cases h
  ·intro _ _ _ h;rw [tB] at h;cases h
  ·intro _ _ _ _ h;rw [mQ] at h;cases h
  ·intro _ _ _ h;rw [eX] at h;cases h
 | n+1=>by
  have ih:=rB n;refine ⟨?_,?_,?_,?_,?_,?_,?_,?_,?_⟩
  ·intro r e r' h
   rw [pj] at h
   split at h
   ·rename_i hh
    obtain ⟨e1,r1,h1,h⟩:=bind_ok.1 h;obtain ⟨_,r2,h2,h⟩:=bind_ok.1 h;injection h with h3 h4
    subst h3 h4;exact ((Suf.hd hh (by simp)).trans ((ih.expr _ _ _ h1).trans (Suf.want (by simp) h2))).le (by omega)
   ·split at h
    ·rename_i hn
     injection h with h1 h2
     subst h1 h2;exact (Suf.tail (by rintro rfl;cases hn)).le (by simp [Ex.sz])
    ·obtain ⟨s,r1,h1,h⟩:=bind_ok.1 h
     have s1:=Suf.name h1
     split at h
     ·obtain ⟨x,r2,h2,h⟩:=bind_ok.1 h
      injection h with h3 h4
      subst h3 h4;exact (s1.trans (ih.call _ _ _ _ h2)).le (by rw [Ex.sz];omega)
     ·injection h with h3 h4
      subst h3 h4;exact s1.le (by simp [Ex.sz])
  ·intro s r x r' h
   rw [lG] at h;obtain ⟨_,r1,h1,h⟩:=bind_ok.1 h;obtain ⟨v,r2,h2,h⟩:=bind_ok.1 h;obtain ⟨ar,r3,h3,h⟩:=bind_ok.1 h;injection h with h4 h5
   subst h4 h5;exact ((Suf.want (by simp) h1).trans ((Suf.name h2).trans (ih.args _ _ _ h3))).le (by simp only;omega)
  ·intro r x r' h
   rw [ou] at h;obtain ⟨_,r1,h1,h⟩:=bind_ok.1 h;have s1:=Suf.want (by simp) h1
   split at h
   ·rename_i hh
    injection h with h4 h5
    subst h4 h5;exact (s1.trans (Suf.hd hh (by simp))).le (by simp [Exs.sz])
   ·obtain ⟨e,r2,h2,h⟩:=bind_ok.1 h
    obtain ⟨es,r3,h3,h⟩:=bind_ok.1 h;injection h with h4 h5
    subst h4 h5;exact (s1.trans ((ih.expr _ _ _ h2).trans (ih.zS _ _ _ h3))).le (by rw [Exs.sz];omega)
  ·intro r x r' h
   rw [hZ] at h
   split at h
   ·rename_i hh
    obtain ⟨e,r2,h2,h⟩:=bind_ok.1 h;obtain ⟨es,r3,h3,h⟩:=bind_ok.1 h;injection h with h4 h5
    subst h4 h5;exact ((Suf.hd hh (by simp)).trans ((ih.expr _ _ _ h2).trans (ih.zS _ _ _ h3))).le (by rw [Exs.sz];omega)
   ·obtain ⟨_,r1,h1,h⟩:=bind_ok.1 h
    injection h with h4 h5
    subst h4 h5;exact (Suf.want (by simp) h1).le (by simp [Exs.sz])
  ·intro r e r' h
   rw [mP] at h;obtain ⟨e1,r1,h1,h⟩:=bind_ok.1 h;obtain ⟨a1,a2⟩:=ih.yi _ _ _ _ h;exact ((ih.BE _ _ _ h1).trans a1).le (by omega)
  ·intro l r e r' h
   rw [jX] at h
   split at h
   ·rename_i hh
    obtain ⟨e1,r1,h1,h⟩:=bind_ok.1 h;obtain ⟨a1,a2⟩:=ih.yi _ _ _ _ h;rw [Ex.sz] at a1 a2;exact ⟨((Suf.hd hh (by simp)).trans ((ih.BE _ _ _ h1).trans a1)).le (by omega),by omega⟩
   ·injection h with h4 h5
    subst h4 h5;exact ⟨(Suf.refl _).le (by omega),Ls _⟩
  ·intro r e r' h
   rw [tB] at h;obtain ⟨e1,r1,h1,h⟩:=bind_ok.1 h;obtain ⟨a1,a2⟩:=ih.sumT _ _ _ _ h;exact ((ih.prod _ _ _ h1).trans a1).le (by omega)
  ·intro l r e r' h
   rw [mQ] at h
   split at h
   ·rename_i hh
    obtain ⟨e1,r1,h1,h⟩:=bind_ok.1 h;obtain ⟨a1,a2⟩:=ih.sumT _ _ _ _ h;rw [Ex.sz] at a1 a2;exact ⟨((Suf.hd hh (by simp)).trans ((ih.prod _ _ _ h1).trans a1)).le (by omega),by omega⟩
   ·split at h
    ·rename_i hh
     obtain ⟨e1,r1,h1,h⟩:=bind_ok.1 h;obtain ⟨a1,a2⟩:=ih.sumT _ _ _ _ h;rw [Ex.sz] at a1 a2;exact ⟨((Suf.hd hh (by simp)).trans ((ih.prod _ _ _ h1).trans a1)).le (by omega),by omega⟩
    ·injection h with h4 h5
     subst h4 h5;exact ⟨(Suf.refl _).le (by omega),Ls _⟩
  ·intro r e r' h
   rw [eX] at h;obtain ⟨e1,r1,h1,h⟩:=bind_ok.1 h;have s1:=ih.sum _ _ _ h1
   split at h
   ·rename_i hh
    obtain ⟨e2,r2,h2,h⟩:=bind_ok.1 h;injection h with h4 h5
    subst h4 h5;exact (s1.trans ((Suf.hd hh (by simp)).trans (ih.sum _ _ _ h2))).le (by rw [Ex.sz];omega)
   ·split at h
    ·rename_i hh
     obtain ⟨e2,r2,h2,h⟩:=bind_ok.1 h;injection h with h4 h5
     subst h4 h5;exact (s1.trans ((Suf.hd hh (by simp)).trans (ih.sum _ _ _ h2))).le (by rw [Ex.sz];omega)
    ·injection h with h4 h5
     subst h4 h5;exact s1
end Uw.Tryz
namespace Uw.Tryz
open Go Uw
theorem xi {n:Nat} {to:Str} {r r' : List Tok} {s:Stm} (h:iT n to r = .ok s r'):Suf r r' s.sz:=by
 rw [iT] at h;obtain ⟨p,r1,h1,h⟩:=bind_ok.1 h;obtain ⟨f,r2,h2,h⟩:=bind_ok.1 h;obtain ⟨ar,r3,h3,h⟩:=bind_ok.1 h;have s1:Suf r r1 1:=by
  split at h1
  ·rename_i hh
   injection h1 with _ e
   subst e;exact Suf.hd hh (by decide)
  ·obtain ⟨_,r4,h4,h5⟩:=bind_ok.1 h1
   injection h5 with _ e
   subst e;exact Suf.want (by decide) h4
 split at h
 ·cases h
 ·injection h with e1 e2
  subst e1 e2;exact (s1.trans ((Suf.name h2).trans ((rB n).args _ _ _ h3))).le (by rw [Stm.sz];omega)
theorem IQ {n:Nat} {r r' : List Tok} {s:Stm} (h:kS n r = .ok s r'):Suf r r' s.sz:=by
 rw [kS] at h
 split at h
 ·exact xi h
 ·split at h
  ·rename_i hh
   injection h with e1 e2
   subst e1 e2;exact Suf.hd hh (by decide)
  ·split at h
   ·rename_i hh
    obtain ⟨e,r1,h1,h⟩:=bind_ok.1 h;injection h with e1 e2
    subst e1 e2;exact ((Suf.hd hh (by decide)).trans ((rB n).expr _ _ _ h1)).le (by rw [Stm.sz];omega)
   ·split at h
    ·rename_i hh
     obtain ⟨e,r1,h1,h⟩:=bind_ok.1 h;injection h with e1 e2
     subst e1 e2;exact ((Suf.hd hh (by decide)).trans ((rB n).expr _ _ _ h1)).le (by rw [Stm.sz];omega)
    ·obtain ⟨nm,r1,h1,h⟩:=bind_ok.1 h
     split at h
     ·obtain ⟨x,r2,h2,h⟩:=bind_ok.1 h
      injection h with e1 e2
      subst e1 e2;exact ((Suf.name h1).trans ((rB n).call _ _ _ _ h2)).le (by rw [Stm.sz];omega)
     ·obtain ⟨_,r2,h2,h⟩:=bind_ok.1 h
      have s2:=(Suf.name h1).trans (Suf.want (by decide) h2)
      split at h
      ·exact (s2.trans (xi h)).le (by omega)
      ·obtain ⟨e,r3,h3,h⟩:=bind_ok.1 h
       injection h with e1 e2
       subst e1 e2;exact (s2.trans ((rB n).expr _ _ _ h3)).le (by rw [Stm.sz];omega)
structure X2 (n:Nat):Prop where
 stmt:∀r s r',rA n r = .ok s r'->Suf r r' s.sz
 block:∀r s r',fK n r = .ok s r'->Suf r r' (s.sz+1)
 stmts:∀r s r',jY n r = .ok s r'->Suf r r' s.sz
theorem Tt:∀n,X2 n
 | 0=>by
  refine ⟨?_,?_,?_⟩
  ·intro _ _ _ h;rw [rA] at h;cases h
  ·intro _ _ _ h;rw [fK] at h;cases h
  ·intro _ _ _ h;rw [jY] at h;cases h
 | n+1=>by
  have ih:=Tt n;refine ⟨?_,?_,?_⟩
  ·intro r s r' h
   rw [rA] at h
   split at h
   ·rename_i hh
    obtain ⟨e,r1,h1,h⟩:=bind_ok.1 h;obtain ⟨a,r2,h2,h⟩:=bind_ok.1 h;have s2:=(Suf.hd hh (by decide)).trans (((rB n).expr _ _ _ h1).trans (ih.block _ _ _ h2))
    split at h
    ·rename_i hh2
     obtain ⟨b,r3,h3,h⟩:=bind_ok.1 h;injection h with e1 e2
     subst e1 e2;exact (s2.trans ((Suf.hd hh2 (by decide)).trans (ih.block _ _ _ h3))).le (by rw [Stm.sz];omega)
    ·injection h with e1 e2
     subst e1 e2;exact s2.le (by rw [Stm.sz];omega)
   ·split at h
    ·rename_i hh
     obtain ⟨e,r1,h1,h⟩:=bind_ok.1 h;obtain ⟨a,r2,h2,h⟩:=bind_ok.1 h;injection h with e1 e2
     subst e1 e2;exact ((Suf.hd hh (by decide)).trans (((rB n).expr _ _ _ h1).trans (ih.block _ _ _ h2))).le (by rw [Stm.sz];omega)
    ·obtain ⟨e,r1,h1,h⟩:=bind_ok.1 h
     obtain ⟨_,r2,h2,h⟩:=bind_ok.1 h;injection h with e1 e2
     subst e1 e2;exact ((IQ h1).trans (Suf.want (by decide) h2)).le (by omega)
  ·intro r s r' h
   rw [fK] at h;obtain ⟨_,r1,h1,h⟩:=bind_ok.1 h;exact ((Suf.want (by decide) h1).trans (ih.stmts _ _ _ h)).le (by omega)
  ·intro r s r' h
   rw [jY] at h
   split at h
   ·rename_i hh
    injection h with e1 e2
    subst e1 e2;exact (Suf.hd hh (by decide)).le (by simp [Bl.sz])
   ·obtain ⟨e,r1,h1,h⟩:=bind_ok.1 h
    obtain ⟨ss,r2,h2,h⟩:=bind_ok.1 h;injection h with e1 e2
    subst e1 e2;exact ((ih.stmt _ _ _ h1).trans (ih.stmts _ _ _ h2)).le (by rw [Bl.sz];omega)
end Uw.Tryz
namespace Uw.Tryz
open Go Uw
def eC {α:Type} (a:α):List Tok->R α:=fun r=>.ok a r
def Rm {α:Type}:List Tok->R α:=fun _=>.bad
def cS {α β:Type} (p:List Tok->R β) (f:β->List Tok->R α):List Tok->R α:=fun r=>(p r).bind f
def mR {α:Type} (s:Str) (p:List Tok->R α):List Tok->R α:=fun r=>(want s r).bind fun _ r=>p r
def gn {α:Type} (s:Str) (p q:List Tok->R α):List Tok->R α:=fun r=>if hd r=s then p r.tail else q r
def rC {α:Type} (s:Str) (p q:List Tok->R α):List Tok->R α:=fun r=>if hd r=s then p r else q r
def cName {α:Type} (f:Str->List Tok->R α):List Tok->R α:=fun r=>(ot r).bind f
def JJ {α:Type} (k:Int) (f:Str->Int->List Tok->R α):List Tok->R α:=fun r=>(vX k r).bind fun t r=>f t.text t.n r
def OA {α:Type} (f:Int->List Tok->R α) (q:List Tok->R α):List Tok->R α:=fun r=>if isNum r then f (numOf r) r.tail else q r
theorem GG (n:Nat):pj (n+1)=gn [40] (cS (eX n) fun e=>mR [41] (eC e)) (OA (fun v=>eC (.num v)) (cName fun s=>rC [46] (cS (lG n s) fun x=>eC (.call s x.1 x.2)) (eC (.name s)))):=by
 funext r;rw [pj];rfl
theorem GH (n:Nat) (s:Str):lG (n+1) s=mR [46] (cName fun v=>cS (ou n) fun ar=>eC (v,ar)):=by
 funext r;rw [lG];rfl
theorem GI (n:Nat):ou (n+1)=mR [40] (gn [41] (eC .nil) (cS (eX n) fun e=>cS (hZ n) fun es=>eC (.cons e es))):=by
 funext r;rw [ou];rfl
theorem Dm (n:Nat):hZ (n+1)=gn [44] (cS (eX n) fun e=>cS (hZ n) fun es=>eC (.cons e es)) (mR [41] (eC .nil)):=by
 funext r;rw [hZ];rfl
theorem GK (n:Nat):mP (n+1)=cS (pj n) fun e=>jX n e:=by funext r;rw [mP];rfl
theorem Dn (n:Nat) (l:Ex):jX (n+1) l=gn [42] (cS (pj n) fun e=>jX n (.bin 5 l e)) (eC l):=by funext r;rw [jX];rfl
theorem JK (n:Nat):tB (n+1)=cS (mP n) fun e=>mQ n e:=by funext r;rw [tB];rfl
theorem GL (n:Nat) (l:Ex):mQ (n+1) l=gn [43] (cS (mP n) fun e=>mQ n (.bin 3 l e)) (gn [45] (cS (mP n) fun e=>mQ n (.bin 4 l e)) (eC l)):=by funext r;rw [mQ];rfl
theorem GM (n:Nat):eX (n+1)=cS (tB n) fun l=>gn [60] (cS (tB n) fun e=>eC (.bin 6 l e)) (gn [61,61] (cS (tB n) fun e=>eC (.bin 7 l e)) (eC l)):=by funext r;rw [eX];rfl
theorem Dp (n:Nat) (to:Str):iT n to=cS (gn cM (eC false) (mR Gy (eC true))) fun par=>cName fun f=>cS (ou n) fun ar=>if par=true/\ar.length≠2 then Rm else eC (.task par to f ar):=by
 funext r
 rw [iT];show R.bind _ _=R.bind _ _
 congr 1
 funext par r
 show R.bind _ _=R.bind _ _
 congr 1
 funext f r
 show R.bind _ _=R.bind _ _
 congr 1
 funext ar r
 split<;>rfl
theorem zT (n:Nat):kS n=rC cM (iT n []) (rC Gy (iT n []) (gn jW (eC .sync) (gn yP (cS (eX n) fun e=>eC (.one 15 e)) (gn dD (cS (eX n) fun e=>eC (.one 16 e))
  (cName fun s=>rC [46] (cS (lG n s) fun x=>eC (.act s x.1 x.2)) (mR [61] (rC cM (iT n s) (rC Gy (iT n s) (cS (eX n) fun e=>eC (.set s e)))))))))):=by
 have key:∀{α:Type} (a b:Prop) [Decidable a] [Decidable b] (x y:α),(if a\/b then x else y)=if a then x else if b then x else y:=by
  intro α a b _ _ x y;by_cases ha:a<;>by_cases hb:b<;>simp [ha,hb]
 funext r
 rw [kS,key];show _=if hd r=cM then _ else if hd r=Gy then _ else if hd r=jW then _ else if hd r=yP then _ else if hd r=dD then _ else R.bind _ _
 congr 6
 funext s r
 show _=if hd r=[46] then _ else R.bind _ _
 congr 2
 funext _ r
 rw [key];rfl
theorem GN (n:Nat):rA (n+1)=gn sIf (cS (eX n) fun e=>cS (fK n) fun a=>gn Ov (cS (fK n) fun b=>eC (.if2 e a b)) (eC (.if1 e a))) (gn IP (cS (eX n) fun e=>cS (fK n) fun a=>eC (.loop e a)) (cS (kS n) fun s=>mR [59] (eC s))):=by
 funext r;rw [rA];rfl
theorem Dq (n:Nat):fK (n+1)=mR [123] (jY n):=by funext r;rw [fK];rfl
theorem Ds (n:Nat):jY (n+1)=gn [125] (eC .nil) (cS (rA n) fun s=>cS (jY n) fun ss=>eC (.cons s ss)):=by funext r;rw [jY];rfl
theorem zU (n:Nat):gI (n+1)=gn [44] (cName fun s=>cS (gI n) fun l=>eC (s::l)) (mR [41] (eC [])):=by funext r;rw [gI];rfl
theorem Dt (n:Nat):sG n=mR [40] (gn [41] (eC []) (cName fun s=>cS (gI n) fun l=>eC (s::l))):=by funext r;rw [sG];rfl
theorem JL (n:Nat):BD n=mR Dk (cName fun s=>cS (sG n) fun l=>cS (fK n) fun b=>eC ⟨s,l,b⟩):=by funext r;rw [BD];rfl
def Du (t:Str):List Tok->R Dec:=
 match kindOf t with
 | none=>Rm
 | some k=>cName fun s=>if k=0 then gn [61] (JJ 2 fun _ n=>mR [59] (eC ⟨k,s,n⟩)) (mR [59] (eC ⟨k,s,0⟩)) else mR [59] (eC ⟨k,s,0⟩)
theorem OB:Gz=JJ 1 fun t _=>Du t:=by
 funext r
 rw [Gz];show R.bind _ _=R.bind _ _
 congr 1
 funext t r
 show _=Du t.text r;unfold Du
 cases kindOf t.text with
 | none=>rfl
 | some k=>
  show R.bind _ _=R.bind _ _
  congr 1
  funext s r
  by_cases hk:k=0
  ·rw [if_pos hk]
   by_cases h:hd r=[61]
   ·rw [if_pos ⟨hk,h⟩]
    show _=if hd r=[61] then R.bind _ _ else _
    rw [if_pos h]
    cases vX 2 r.tail<;>rfl
   ·rw [if_neg (fun x=>h x.2)]
    show _=if hd r=[61] then R.bind _ _ else _
    rw [if_neg h];rfl
  ·rw [if_neg hk,if_neg (fun x=>hk x.1)]
   rfl
def yB {α:Type} (p:List Tok->R α):Prop:=∀r a r',p r = .ok a r'->r'.length<r.length
def delta (s:Str):Int:=if s=[40]\/s=[123] then 1 else if s=[41]\/s=[125] then -1 else 0
inductive IsP:{α:Type}->Int->(List Tok->R α)->(List Tok->R α)->Prop
 | out {α:Type} {d:Int} {q:List Tok->R α}:IsP d (fun _=>.out) q
 | bad {α:Type} {d:Int}:IsP d (Rm (α:=α)) Rm
 | ret {α:Type} (a:α):IsP 0 (eC a) (eC a)
 | bind {α β:Type} {d e g:Int} {p p' : List Tok->R β} {f f' : β->List Tok->R α}:IsP d p p'->(∀b,IsP e (f b) (f' b))->g=d+e->IsP g (cS p f) (cS p' f')
 | want {α:Type} {d g:Int} {s:Str} {p p' : List Tok->R α}:s≠[]->IsP d p p'->g=delta s+d->IsP g (mR s p) (mR s p')
 | skip {α:Type} {d g:Int} {s:Str} {p p' q q' : List Tok->R α}:s≠[]->(s≠[41]\/yB q)->IsP d p p'->IsP g q q'->g=delta s+d->IsP g (gn s p q) (gn s p' q')
 | peek {α:Type} {d:Int} {s:Str} {p p' q q' : List Tok->R α}:s≠[41]->yB p->IsP d p p'->IsP d q q'->IsP d (rC s p q) (rC s p' q')
 | name {α:Type} {d:Int} {f f' : Str->List Tok->R α}:(∀b,IsP d (f b) (f' b))->IsP d (cName f) (cName f')
 | word {α:Type} {d:Int} {k:Int} {f f' : Str->Int->List Tok->R α}:k≠3->(∀b n,IsP d (f b n) (f' b n))->IsP d (JJ k f) (JJ k f')
 | num {α:Type} {d:Int} {f f' : Int->List Tok->R α} {q q' : List Tok->R α}:yB q->(∀b,IsP d (f b) (f' b))->IsP d q q'->IsP d (OA f q) (OA f' q')
theorem yQ {α β:Type} {x y:R β} {f g:β->List Tok->R α} (h:x = .out\/x=y) (hf:∀b r,f b r = .out\/f b r=g b r):x.bind f = .out\/x.bind f=y.bind g:=by
 rcases h with rfl|rfl
 ·exact .inl rfl
 ·cases x with
  | ok a r=>exact hf a r
  | bad=>exact .inr rfl
  | out=>exact .inl rfl
theorem IsP.le {α:Type} {d:Int} {p q:List Tok->R α} (h:IsP d p q):∀r,p r = .out\/p r=q r:=by
 induction h with
 | out=>exact fun r=>.inl rfl
 | bad=>exact fun r=>.inr rfl
 | ret=>exact fun r=>.inr rfl
 | bind _ _ _ ih1 ih2=>exact fun r=>yQ (ih1 r) ih2
 | want _ _ _ ih=>exact fun r=>yQ (.inr rfl) fun _ r=>ih r
 | skip _ _ _ _ _ ih1 ih2=>
  intro r;unfold gn
  split
  ·exact ih1 _
  ·exact ih2 _
 | peek _ _ _ _ ih1 ih2=>
  intro r;unfold rC
  split
  ·exact ih1 _
  ·exact ih2 _
 | name _ ih=>exact fun r=>yQ (.inr rfl) ih
 | word _ _ ih=>exact fun r=>yQ (.inr rfl) fun t r=>ih t.text t.n r
 | num _ _ _ ih1 ih2=>
  intro r;unfold OA
  split
  ·exact ih1 _ _
  ·exact ih2 _
theorem JM {r:List Tok} {s:Str} (h:hd r=s) (hs:s≠[]):∃t,r=t::r.tail/\t.text=s:=by
 cases r with
 | nil=>exact absurd h.symm hs
 | cons a l=>exact ⟨a,rfl,h⟩
theorem IsP.pre {α:Type} {d:Int} {p q:List Tok->R α} (h:IsP d p q):∀r a r',p r = .ok a r'->∃c,r=c++r':=by
 induction h with
 | out=>intro r a r' h;cases h
 | bad=>intro r a r' h;cases h
 | ret=>intro r a r' h;injection h with _ h;exact ⟨[],by rw [h];rfl⟩
 | bind _ _ _ ih1 ih2=>
  intro r a r' h;obtain ⟨b,r1,h1,h2⟩:=bind_ok.1 h;obtain ⟨c1,rfl⟩:=ih1 _ _ _ h1;obtain ⟨c2,rfl⟩:=ih2 _ _ _ _ h2;exact ⟨c1++c2,by simp⟩
 | want hs _ _ ih=>
  intro r a r' h;obtain ⟨b,r1,h1,h2⟩:=bind_ok.1 h;obtain ⟨hh,rfl⟩:=JH h1;obtain ⟨t,ht,_⟩:=JM hh hs;obtain ⟨c2,h3⟩:=ih _ _ _ h2;exact ⟨t::c2,by rw [ht,h3];rfl⟩
 | skip hs _ _ _ _ ih1 ih2=>
  intro r a r' h;unfold gn at h
  split at h
  ·rename_i hh
   obtain ⟨t,ht,_⟩:=JM hh hs;obtain ⟨c2,h3⟩:=ih1 _ _ _ h;exact ⟨t::c2,by rw [ht,h3];rfl⟩
  ·exact ih2 _ _ _ h
 | peek _ _ _ _ ih1 ih2=>
  intro r a r' h;unfold rC at h
  split at h
  ·exact ih1 _ _ _ h
  ·exact ih2 _ _ _ h
 | name _ ih=>
  intro r a r' h;obtain ⟨b,r1,h1,h2⟩:=bind_ok.1 h;obtain ⟨t,rfl,_⟩:=JI h1;obtain ⟨c,rfl⟩:=ih _ _ _ _ h2;exact ⟨t::c,rfl⟩
 | word _ _ ih=>
  intro r a r' h;obtain ⟨b,r1,h1,h2⟩:=bind_ok.1 h;obtain ⟨q,rfl,rfl,_⟩:=Ey h1;obtain ⟨c,rfl⟩:=ih _ _ _ _ _ h2;exact ⟨b::c,rfl⟩
 | num _ _ _ ih1 ih2=>
  intro r a r' h;unfold OA at h
  split at h
  ·rename_i hn
   obtain ⟨c,h3⟩:=ih1 _ _ _ _ h
   cases r with
   | nil=>cases hn
   | cons t l=>exact ⟨t::c,by rw [List.tail_cons] at h3;rw [h3];rfl⟩
  ·exact ih2 _ _ _ h
end Uw.Tryz
namespace Uw.Tryz
open Go Uw
theorem Suf.len {a b:List Tok} {s:Nat} (h:Suf a b s):b.length+s<=a.length:=by
 obtain ⟨i,i1,rfl,i3⟩:=h;simp;omega
theorem IsP.len {α:Type} {d:Int} {p q:List Tok->R α} (h:IsP d p q) {r r' : List Tok} {a:α} (e:p r = .ok a r'):r'.length<=r.length:=by
 obtain ⟨c,rfl⟩:=h.pre _ _ _ e;simp
theorem Ez {α:Type} {p:List Tok->R α} (h:∀r e r',p r = .ok e r'->∃s,1<=s/\Suf r r' s):yB p:=by
 intro r e r' he;obtain ⟨s,h1,h2⟩:=h r e r' he;have:=h2.len;omega
theorem xj {α β:Type} {d:Int} {p:List Tok->R β} {f f' : β->List Tok->R α} (h:yB p) (hf:∀b,IsP d (f b) (f' b)):yB (cS p f):=by
 intro r a r' he;obtain ⟨b,r1,h1,h2⟩:=bind_ok.1 he;have:=h _ _ _ h1;have:=(hf b).len h2;omega
theorem Dv {α:Type} {d:Int} {f f' : Str->List Tok->R α} (hf:∀b,IsP d (f b) (f' b)):yB (cName f):=by
 intro r a r' he;obtain ⟨b,r1,h1,h2⟩:=bind_ok.1 he;have:=(Suf.name h1).len;have:=(hf b).len h2;omega
theorem Ll (n:Nat):yB (eX n):=Ez fun r e r' h=>⟨_,e.Ew,(rB n).expr _ _ _ h⟩
theorem Dw (n:Nat) (s:Str):yB (lG n s):=Ez fun r e r' h=>⟨_,by omega,(rB n).call _ _ _ _ h⟩
theorem qV (n:Nat) (s:Str):yB (iT n s):=Ez fun r e r' h=>⟨_,e.Ew,xi h⟩
structure PE (n:Nat):Prop where
 BE:IsP 0 (pj n) (pj (n+1))
 call:∀s,IsP 0 (lG n s) (lG (n+1) s)
 args:IsP 0 (ou n) (ou (n+1))
 zS:IsP (-1) (hZ n) (hZ (n+1))
 prod:IsP 0 (mP n) (mP (n+1))
 yi:∀l,IsP 0 (jX n l) (jX (n+1) l)
 sum:IsP 0 (tB n) (tB (n+1))
 sumT:∀l,IsP 0 (mQ n l) (mQ (n+1) l)
 expr:IsP 0 (eX n) (eX (n+1))
theorem gJ {α:Type} {d:Int} {p q:List Tok->R α} (h:∀r,p r = .out):IsP d p q:=by
 have:p=fun _=>.out:=funext h;rw [this];exact .out
theorem pe:∀n,PE n
 | 0=>⟨gJ fun r=>by rw [pj],fun s=>gJ fun r=>by rw [lG],gJ fun r=>by rw [ou],gJ fun r=>by rw [hZ],gJ fun r=>by rw [mP],fun l=>gJ fun r=>by rw [jX],gJ fun r=>by rw [tB],fun l=>gJ fun r=>by rw [mQ],gJ fun r=>by rw [eX]⟩
 | n+1=>by
  have ih:=pe n;have arT:∀e,IsP (-1) (cS (hZ n) fun es=>eC (Exs.cons e es)) (cS (hZ (n+1)) fun es=>eC (Exs.cons e es)):=fun e=>.bind ih.zS (fun es=>.ret _) (by decide);refine ⟨?_,?_,?_,?_,?_,?_,?_,?_,?_⟩
  ·rw [GG n,GG (n+1)]
   have hq:∀s,IsP 0 (rC [46] (cS (lG n s) fun x=>eC (Ex.call s x.1 x.2)) (eC (.name s))) (rC [46] (cS (lG (n+1) s) fun x=>eC (Ex.call s x.1 x.2)) (eC (.name s))):=fun s=>
    .peek (by decide) (xj (Dw n s) fun x=>.ret _) (.bind (ih.call s) (fun x=>.ret _) (by decide)) (.ret _)
   exact .skip (d:=-1) (by decide) (.inl (by decide)) (.bind ih.expr (fun e=>.want (by decide) (.ret _) rfl) (by decide)) (.num (Dv hq) (fun v=>.ret _) (.name hq)) (by decide)
  ·intro s
   rw [GH n,GH (n+1)];exact .want (by decide) (.name fun v=>.bind ih.args (fun ar=>.ret _) rfl) (by decide)
  ·rw [GI n,GI (n+1)]
   exact .want (d:=-1) (by decide) (.skip (by decide) (.inr (xj (Ll n) arT)) (.ret _) (.bind ih.expr arT (by decide)) (by decide)) (by decide)
  ·rw [Dm n,Dm (n+1)]
   exact .skip (d:=-1) (by decide) (.inl (by decide)) (.bind ih.expr arT (by decide)) (.want (by decide) (.ret _) (by decide)) (by decide)
  ·rw [GK n,GK (n+1)]
   exact .bind ih.BE ih.yi (by decide)
  ·intro l
   rw [Dn n,Dn (n+1)];exact .skip (d:=0) (by decide) (.inl (by decide)) (.bind ih.BE (fun e=>ih.yi _) (by decide)) (.ret _) (by decide)
  ·rw [JK n,JK (n+1)]
   exact .bind ih.prod ih.sumT (by decide)
  ·intro l
   rw [GL n,GL (n+1)];exact .skip (d:=0) (by decide) (.inl (by decide)) (.bind ih.prod (fun e=>ih.sumT _) (by decide)) (.skip (d:=0) (by decide) (.inl (by decide)) (.bind ih.prod (fun e=>ih.sumT _) (by decide)) (.ret _) (by decide)) (by decide)
  ·rw [GM n,GM (n+1)]
   exact .bind ih.sum (fun l=>.skip (d:=0) (by decide) (.inl (by decide)) (.bind ih.sum (fun e=>.ret _) (by decide)) (.skip (d:=0) (by decide) (.inl (by decide)) (.bind ih.sum (fun e=>.ret _) (by decide)) (.ret _) (by decide)) (by decide)) (by decide)
theorem s5 (n:Nat) (to:Str):IsP 0 (iT n to) (iT (n+1) to):=by
 rw [Dp n,Dp (n+1)];exact .bind (d:=0) (e:=0) (.skip (d:=0) (by decide) (.inl (by decide)) (.ret _) (.want (by decide) (.ret _) (by decide)) (by decide)) (fun par=>.name fun f=>.bind (e:=0) (pe n).args (fun ar=>by split<;>first|exact .bad|exact .ret _) (by decide)) (by decide)
theorem IR (n:Nat):IsP 0 (kS n) (kS (n+1)):=by
 rw [zT n,zT (n+1)];exact .peek (by decide) (qV n []) (s5 n []) (.peek (by decide) (qV n []) (s5 n []) (.skip (d:=0) (by decide) (.inl (by decide)) (.ret _) (.skip (d:=0) (by decide) (.inl (by decide)) (.bind (pe n).expr (fun e=>.ret _) (by decide))
  (.skip (d:=0) (by decide) (.inl (by decide)) (.bind (pe n).expr (fun e=>.ret _) (by decide)) (.name fun s=>.peek (by decide) (xj (Dw n s) fun x=>.ret _) (.bind ((pe n).call s) (fun x=>.ret _) (by decide))
   (.want (d:=0) (by decide) (.peek (by decide) (qV n s) (s5 n s) (.peek (by decide) (qV n s) (s5 n s) (.bind (pe n).expr (fun e=>.ret _) (by decide)))) (by decide))) (by decide)) (by decide)) (by decide)))
structure PS (n:Nat):Prop where
 stmt:IsP 0 (rA n) (rA (n+1))
 block:IsP 0 (fK n) (fK (n+1))
 stmts:IsP (-1) (jY n) (jY (n+1))
theorem ps:∀n,PS n
 | 0=>⟨gJ fun r=>by rw [rA],gJ fun r=>by rw [fK],gJ fun r=>by rw [jY]⟩
 | n+1=>by
  have ih:=ps n;refine ⟨?_,?_,?_⟩
  ·rw [GN n,GN (n+1)]
   exact .skip (d:=0) (by decide) (.inl (by decide)) (.bind (pe n).expr (fun e=>.bind (d:=0) (e:=0) ih.block (fun a=>.skip (d:=0) (by decide) (.inl (by decide)) (.bind ih.block (fun b=>.ret _) (by decide)) (.ret _) (by decide)) rfl) (by decide))
    (.skip (d:=0) (by decide) (.inl (by decide)) (.bind (pe n).expr (fun e=>.bind ih.block (fun a=>.ret _) rfl) (by decide)) (.bind (IR n) (fun s=>.want (by decide) (.ret _) rfl) (by decide)) (by decide)) (by decide)
  ·rw [Dq n,Dq (n+1)]
   exact .want (by decide) ih.stmts (by decide)
  ·rw [Ds n,Ds (n+1)]
   exact .skip (d:=0) (by decide) (.inl (by decide)) (.ret _) (.bind ih.stmt (fun s=>.bind ih.stmts (fun ss=>.ret _) rfl) (by decide)) (by decide)
theorem zV:∀n,IsP (-1) (gI n) (gI (n+1))
 | 0=>gJ fun r=>by rw [gI]
 | n+1=>by
  rw [zU n,zU (n+1)];exact .skip (d:=-1) (by decide) (.inl (by decide)) (.name fun s=>.bind (zV n) (fun l=>.ret _) (by decide)) (.want (by decide) (.ret _) (by decide)) (by decide)
theorem xl (n:Nat):IsP 0 (sG n) (sG (n+1)):=by
 rw [Dt n,Dt (n+1)];have hq:∀s,IsP (-1) (cS (gI n) fun l=>eC (s::l)) (cS (gI (n+1)) fun l=>eC (s::l)):=fun s=>.bind (zV n) (fun l=>.ret _) (by decide);exact .want (d:=-1) (by decide) (.skip (d:=0) (by decide) (.inr (Dv hq)) (.ret _) (.name hq) (by decide)) (by decide)
theorem Rn (n:Nat):IsP 0 (BD n) (BD (n+1)):=by
 rw [JL n,JL (n+1)];exact .want (d:=0) (by decide) (.name fun s=>.bind (e:=0) (xl n) (fun l=>.bind (ps n).block (fun b=>.ret _) (by decide)) (by decide)) (by decide)
theorem aZ {α β:Type} {x:R β} {f:β->List Tok->R α} (h:x≠.out) (hf:∀b r,x = .ok b r->f b r≠.out):x.bind f≠.out:=by
 cases x with
 | ok a r=>exact hf a r rfl
 | bad=>exact fun h=>nomatch h
 | out=>exact absurd rfl h
theorem dW {α:Type} {a:α} {r:List Tok}:R.ok a r≠.out:=fun h=>nomatch h
theorem jZ {s:Str} {r:List Tok}:want s r≠.out:=by rw [want];split<;>exact fun h=>nomatch h
theorem qW {r:List Tok}:ot r≠.out:=by
 rw [ot];refine aZ ?_ fun t r _=>?_
 ·rw [vX.eq_def];split
  ·exact fun h=>nomatch h
  ·split<;>exact fun h=>nomatch h
 ·split<;>exact fun h=>nomatch h
structure NE (n:Nat):Prop where
 BE:∀r,6 * r.length+1<=n->pj n r≠.out
 call:∀s r,6 * r.length+1<=n->lG n s r≠.out
 args:∀r,6 * r.length+1<=n->ou n r≠.out
 zS:∀r,6 * r.length+1<=n->hZ n r≠.out
 prod:∀r,6 * r.length+2<=n->mP n r≠.out
 yi:∀l r,6 * r.length+1<=n->jX n l r≠.out
 sum:∀r,6 * r.length+3<=n->tB n r≠.out
 sumT:∀l r,6 * r.length+1<=n->mQ n l r≠.out
 expr:∀r,6 * r.length+4<=n->eX n r≠.out
theorem ne:∀n,NE n
 | 0=>⟨fun _ h=>by omega,fun _ _ h=>by omega,fun _ h=>by omega,fun _ h=>by omega,fun _ h=>by omega,fun _ _ h=>by omega,fun _ h=>by omega,fun _ _ h=>by omega,fun _ h=>by omega⟩
 | n+1=>by
  have ih:=ne n;have se:=rB n;refine ⟨?_,?_,?_,?_,?_,?_,?_,?_,?_⟩
  ·intro r hr
   rw [pj]
   split
   ·rename_i hh
    have:=(Suf.hd hh (by simp)).len;exact aZ (ih.expr _ (by omega)) fun e r1 h1=>aZ jZ fun _ _ _=>dW
   ·split
    ·exact dW
    ·refine aZ qW fun s r1 h1=>?_
     have:=(Suf.name h1).len
     split
     ·exact aZ (ih.call _ _ (by omega)) fun _ _ _=>dW
     ·exact dW
  ·intro s r hr
   rw [lG];refine aZ jZ fun _ r1 h1=>aZ qW fun v r2 h2=>aZ (ih.args _ ?_) fun _ _ _=>dW;have:=(Suf.want (by simp) h1).len;have:=(Suf.name h2).len;omega
  ·intro r hr
   rw [ou];refine aZ jZ fun _ r1 h1=>?_;have:=(Suf.want (by simp) h1).len
   split
   ·exact dW
   ·refine aZ (ih.expr _ (by omega)) fun e r2 h2=>aZ (ih.zS _ ?_) fun _ _ _=>dW
    have:=(se.expr _ _ _ h2).len;omega
  ·intro r hr
   rw [hZ]
   split
   ·rename_i hh
    have:=(Suf.hd hh (by simp)).len;refine aZ (ih.expr _ (by omega)) fun e r2 h2=>aZ (ih.zS _ ?_) fun _ _ _=>dW;have:=(se.expr _ _ _ h2).len;omega
   ·exact aZ jZ fun _ _ _=>dW
  ·intro r hr
   rw [mP];refine aZ (ih.BE _ (by omega)) fun e r2 h2=>ih.yi _ _ ?_;have:=(se.BE _ _ _ h2).len;omega
  ·intro l r hr
   rw [jX]
   split
   ·rename_i hh
    have:=(Suf.hd hh (by simp)).len;refine aZ (ih.BE _ (by omega)) fun e r2 h2=>ih.yi _ _ ?_;have:=(se.BE _ _ _ h2).len;omega
   ·exact dW
  ·intro r hr
   rw [tB];refine aZ (ih.prod _ (by omega)) fun e r2 h2=>ih.sumT _ _ ?_;have:=(se.prod _ _ _ h2).len;omega
  ·intro l r hr
   rw [mQ]
   split
   ·rename_i hh
    have:=(Suf.hd hh (by simp)).len;refine aZ (ih.prod _ (by omega)) fun e r2 h2=>ih.sumT _ _ ?_;have:=(se.prod _ _ _ h2).len;omega
   ·split
    ·rename_i hh
     have:=(Suf.hd hh (by simp)).len;refine aZ (ih.prod _ (by omega)) fun e r2 h2=>ih.sumT _ _ ?_;have:=(se.prod _ _ _ h2).len;omega
    ·exact dW
  ·intro r hr
   rw [eX];refine aZ (ih.sum _ (by omega)) fun e r2 h2=>?_;have:=(se.sum _ _ _ h2).len
   split
   ·rename_i hh
    have:=(Suf.hd hh (by simp)).len;exact aZ (ih.sum _ (by omega)) fun _ _ _=>dW
   ·split
    ·rename_i hh
     have:=(Suf.hd hh (by simp)).len;exact aZ (ih.sum _ (by omega)) fun _ _ _=>dW
    ·exact dW
theorem GQ (n:Nat) (to:Str) (r:List Tok) (hr:6 * r.length+1<=n):iT n to r≠.out:=by
 rw [iT];have key:∀(x:R Bool),x≠.out->(∀b r1,x = .ok b r1->r1.length<=r.length)->x.bind (fun par r=>(ot r).bind fun f r=>(ou n r).bind fun ar r=>if par=true/\ar.length≠2 then R.bad else R.ok (Stm.task par to f ar) r)≠.out:=by
  intro x hx hl;refine aZ hx fun b r1 h1=>aZ qW fun f r2 h2=>aZ ((ne n).args _ ?_) fun ar r3 _=>?_
  ·have:=hl _ _ h1
   have:=(Suf.name h2).len;omega
  ·split<;>exact fun h=>nomatch h
 refine key _ ?_ ?_
 ·split
  ·exact dW
  ·exact aZ jZ fun _ _ _=>dW
 ·intro b r1 h
  split at h
  ·injection h with _ h
   rw [<- h];simp
  ·obtain ⟨_,r2,h2,h3⟩:=bind_ok.1 h
   injection h3 with _ h3
   subst h3;have:=(Suf.want (by decide) h2).len;omega
theorem Lm (n:Nat) (r:List Tok) (hr:6 * r.length+4<=n):kS n r≠.out:=by
 rw [kS];have ih:=ne n
 split
 ·exact GQ n _ _ (by omega)
 ·split
  ·exact dW
  ·split
   ·exact aZ (ih.expr _ (by simp;omega)) fun _ _ _=>dW
   ·split
    ·exact aZ (ih.expr _ (by simp;omega)) fun _ _ _=>dW
    ·refine aZ qW fun s r1 h1=>?_
     have:=(Suf.name h1).len
     split
     ·exact aZ (ih.call _ _ (by omega)) fun _ _ _=>dW
     ·refine aZ jZ fun _ r2 h2=>?_
      have:=(Suf.want (by decide) h2).len
      split
      ·exact GQ n _ _ (by omega)
      ·exact aZ (ih.expr _ (by omega)) fun _ _ _=>dW
structure NS (n:Nat):Prop where
 stmt:∀r,6 * r.length+5<=n->rA n r≠.out
 block:∀r,6 * r.length+5<=n->fK n r≠.out
 stmts:∀r,6 * r.length+6<=n->jY n r≠.out
theorem ns_:∀n,NS n
 | 0=>⟨fun _ h=>by omega,fun _ h=>by omega,fun _ h=>by omega⟩
 | n+1=>by
  have ih:=ns_ n;have se:=rB n;have ss:=Tt n;refine ⟨?_,?_,?_⟩
  ·intro r hr
   rw [rA]
   split
   ·rename_i hh
    have:=(Suf.hd hh (by decide)).len;refine aZ ((ne n).expr _ (by omega)) fun e r1 h1=>?_;have:=(se.expr _ _ _ h1).len;refine aZ (ih.block _ (by omega)) fun a r2 h2=>?_;have:=(ss.block _ _ _ h2).len
    split
    ·exact aZ (ih.block _ (by simp;omega)) fun _ _ _=>dW
    ·exact dW
   ·split
    ·rename_i hh
     have:=(Suf.hd hh (by decide)).len;refine aZ ((ne n).expr _ (by omega)) fun e r1 h1=>?_;have:=(se.expr _ _ _ h1).len;exact aZ (ih.block _ (by omega)) fun a r2 h2=>dW
    ·exact aZ (Lm n _ (by omega)) fun _ _ _=>aZ jZ fun _ _ _=>dW
  ·intro r hr
   rw [fK];refine aZ jZ fun _ r1 h1=>ih.stmts _ ?_;have:=(Suf.want (by decide) h1).len;omega
  ·intro r hr
   rw [jY]
   split
   ·exact dW
   ·refine aZ (ih.stmt _ (by omega)) fun s r1 h1=>?_
    have:=(ss.stmt _ _ _ h1).len;have:=s.Ew;exact aZ (ih.stmts _ (by omega)) fun _ _ _=>dW
theorem Dx:∀n r,r.length+1<=n->gI n r≠.out
 | 0,_,h=>by omega
 | n+1,r,hr=>by
  rw [gI]
  split
  ·rename_i hh
   have:=(Suf.hd hh (by simp)).len;refine aZ qW fun s r1 h1=>aZ (Dx n _ ?_) fun _ _ _=>dW;have:=(Suf.name h1).len;omega
  ·exact aZ jZ fun _ _ _=>dW
theorem OC (n:Nat) (r:List Tok) (hr:r.length+1<=n):sG n r≠.out:=by
 rw [sG];refine aZ jZ fun _ r1 h1=>?_;have:=(Suf.want (by decide) h1).len
 split
 ·exact dW
 ·refine aZ qW fun s r2 h2=>aZ (Dx n _ ?_) fun _ _ _=>dW
  have:=(Suf.name h2).len;omega
theorem Vk (n:Nat) (r:List Tok) (hr:6 * r.length+5<=n):BD n r≠.out:=by
 rw [BD];refine aZ jZ fun _ r1 h1=>aZ qW fun s r2 h2=>?_;have:=(Suf.want (by decide) h1).len;have:=(Suf.name h2).len;refine aZ (OC n _ (by omega)) fun l r3 h3=>aZ ((ns_ n).block _ ?_) fun _ _ _=>dW;have:=(xl n).len h3;omega
end Uw.Tryz
namespace Uw.Tryz
open Go Uw
theorem up {α:Type} {d:Int} {p:Nat->List Tok->R α} (h:∀n,IsP d (p n) (p (n+1))) {n:Nat} {r:List Tok} (hn:p n r≠.out) (k:Nat):p (n+k) r=p n r:=by
 induction k with
 | zero=>rfl
 | succ k ih=>
  rcases (h (n+k)).le r with e|e
  ·rw [ih] at e;exact absurd e hn
  ·rw [<- aas,<- e,ih]
theorem up' {α:Type} {d:Int} {p:Nat->List Tok->R α} (h:∀n,IsP d (p n) (p (n+1))) {n m:Nat} {r:List Tok} {a:α} {r' : List Tok} (hn:p n r = .ok a r') (hm:n<=m):p m r = .ok a r':=by
 obtain ⟨k,rfl⟩:=Nat.le.dest hm;rw [up h (by rw [hn];exact dW),hn]
def Reads {α:Type} (p:Nat->List Tok->R α) (r:List Tok) (a:α) (r' : List Tok):Prop:=∃n,p n r = .ok a r'
theorem Reads.at {α:Type} {d:Int} {p:Nat->List Tok->R α} (h:∀n,IsP d (p n) (p (n+1))) {r:List Tok} {a:α} {r1:List Tok} (h1:Reads p r a r1) {n:Nat} (hn:p n r≠.out):p n r = .ok a r1:=by
 obtain ⟨m,h1⟩:=h1;have e1:=up' h h1 (Nat.le_max_right n m);obtain ⟨k,hk⟩:=Nat.le.dest (Nat.le_max_left n m);rw [<- hk,up h hn] at e1;exact e1
theorem EA {α β:Type} (a:β) (r:List Tok) (f:β->List Tok->R α):(R.ok a r).bind f=f a r:=rfl
inductive GR:List Tok->List Dec->List Tok->Prop
 | stop {r:List Tok}:r=[]\/hd r=Dk->GR r [] r
 | cons {r r' r'' : List Tok} {d:Dec} {ds:List Dec}:¬(r=[]\/hd r=Dk)->Gz r = .ok d r'->GR r' ds r''->GR r (d::ds) r''
inductive Ln:List Tok->List Fn->Prop
 | nil:Ln [] []
 | cons {r r' : List Tok} {f:Fn} {fs:List Fn}:Reads BD r f r'->Ln r' fs->Ln r (f::fs)
def Prg (l:List Tok) (ds:List Dec) (fs:List Fn):Prop:=∃r,GR l ds r/\Ln r fs
def OD (l:List Tok):Nat:=6 * l.length+6
def OE (l:List Tok):Option (List Dec×List Fn):=match Tq (OD l) l with | .ok x _=>some x | .bad=>none | .out=>none
theorem Dy:yB Gz:=by
 intro r e r' h;rw [OB] at h;obtain ⟨t,r1,h1,h2⟩:=bind_ok.1 h;obtain ⟨q,rfl,rfl,_⟩:=Ey h1;have:IsP 0 (Du t.text) (Du t.text):=by
  rw [Du]
  split
  ·exact .bad
  ·refine .name fun s=>?_
   split
   ·exact .skip (d:=0) (by decide) (.inl (by decide)) (.word (by decide) fun _ n=>.want (by decide) (.ret _) (by decide)) (.want (by decide) (.ret _) (by decide)) (by decide)
   ·exact .want (by decide) (.ret _) (by decide)
 have:=this.len h2;simp;omega
theorem OG (n:Nat):yB (BD n):=by
 intro r e r' h;rw [BD] at h;obtain ⟨_,r1,h1,h⟩:=bind_ok.1 h;obtain ⟨s,r2,h2,h⟩:=bind_ok.1 h;obtain ⟨l,r3,h3,h⟩:=bind_ok.1 h;obtain ⟨b,r4,h4,h⟩:=bind_ok.1 h;injection h with _ h
 have:=(Suf.want (by decide) h1).len;have:=(Suf.name h2).len;have:=(xl n).len h3;have:=(ps n).block.len h4;rw [<- h];omega
theorem GR.len {r r' : List Tok} {ds:List Dec} (h:GR r ds r'):r'.length+ds.length<=r.length:=by
 induction h with
 | stop _=>simp
 | cons _ h1 _ ih=>
  have:=Dy _ _ _ h1;simp;omega
theorem GR.at {r r' : List Tok} {ds:List Dec} (h:GR r ds r'):∀n,r.length+1<=n->zR n r = .ok ds r':=by
 induction h with
 | stop h=>
  intro n hn
  cases n with
  | zero=>omega
  | succ n=>rw [zR,if_pos h]
 | cons h h1 h2 ih=>
  intro n hn
  cases n with
  | zero=>omega
  | succ n=>
   have:=Dy _ _ _ h1;rw [zR,if_neg h,h1,EA,ih n (by omega)];rfl
theorem Ln.at {r:List Tok} {fs:List Fn} (h:Ln r fs):∀n,6 * r.length+6<=n->GF n r = .ok fs []:=by
 induction h with
 | nil=>
  intro n hn
  cases n with
  | zero=>omega
  | succ n=>rw [GF,if_pos rfl]
 | cons h h2 ih=>
  rename_i r r' f fs;intro n hn
  cases n with
  | zero=>omega
  | succ n=>
   have h1:=h.at Rn (Vk n r (by omega));have:=OG _ _ _ _ h1;rw [GF,if_neg (by rintro rfl;simp at this),h1,EA,ih n (by omega)];rfl
theorem Prg.at {l:List Tok} {ds:List Dec} {fs:List Fn} (h:Prg l ds fs):OE l=some (ds,fs):=by
 obtain ⟨r,h1,h2⟩:=h;have:=h1.len;rw [OE,Tq,h1.at _ (by rw [OD];omega),EA,h2.at _ (by rw [OD];omega)];rfl
end Uw.Tryz
namespace Uw.Tryz
open Go Uw
structure Nd where
 kind:Int
 n:Int
 name:Str
 name2:Str
 of:List Int
 deriving DecidableEq,Inhabited
structure Fu where
 name:Str
 args:List Str
 body:Int
 deriving DecidableEq,Inhabited
structure Pg where
 decls:List Dec
 am:List Fu
 nodes:List Nd
 deriving DecidableEq,Inhabited
def ae (l:List Int):Dat:=.slice 1 (l.map fun i=>[I i]) false
def Tv (l:List Str):Dat:=.slice 1 (l.map fun s=>[.str s]) false
def WC (d:Dec):List Dat:=[I d.kind,.str d.name,I d.n]
def fuL (f:Fu):List Dat:=[.str f.name,Tv f.args,I f.body]
def ndL (x:Nd):List Dat:=[I x.kind,I x.n,.str x.name,.str x.name2,ae x.of]
def pgD (p:Pg):Dat:=.agg [.slice 3 (p.decls.map WC) false,.slice 3 (p.am.map fuL) false,.slice 5 (p.nodes.map ndL) false]
def Nod.nd (x:Nod):Nd:=⟨x.kind,x.n,x.name,x.name2,x.of.map fun (i:Nat)=>(i:Int)⟩
def Fn.sz (f:Fn):Nat:=f.body.sz+1
def OH:List Fn->Nat->List Nod
 | [],_=>[]
 | f::fs,b=>f.body.all b++OH fs (b+f.sz)
def Tz:List Fn->Nat->List Fu
 | [],_=>[]
 | f::fs,b=>⟨f.name,f.args,((b+f.body.sz:Nat):Int)⟩::Tz fs (b+f.sz)
def X3 (x:List Dec×List Fn):Pg:=⟨x.1,Tz x.2 0,(OH x.2 0).map Nod.nd⟩
def Vl:Pg:=⟨[],[],[]⟩
def TA:List Tok->Int->Int->Int
 | [],_,m=>m
 | t::r,d,m=>TA r (d+delta t.text) (max m (d+delta t.text))
def ofR (s:Str):Pg×Int:=
 if (sF s).2≠0 then (Vl,(sF s).2)
 else if 40<TA (sF s).1 0 0 then (Vl,2)
 else match OE (sF s).1 with
  | none=>(Vl,3)
  | some x=>(X3 x,0)
theorem pc {a b:List Nat} (h:a.Perm b) (i:Nat):a.count i=b.count i:=h.count_eq i
def Low (b:Nat):List Nod->Prop
 | []=>True
 | x::r=>(∀c∈x.of,c<b)/\Low (b+1) r
theorem Low.app:∀{x y:List Nod} {b:Nat},Low b x->Low (b+x.length) y->Low b (x++y)
 | [],y,b,_,h=>h
 | a::x,y,b,⟨h1,h2⟩,h=>⟨h1,h2.app (by rw [Y7] at h;rwa [show b+1+x.length=b+(x.length+1) by omega])⟩
theorem Low.at:∀{x:List Nod} {b:Nat},Low b x->∀(j:Nat) (h:j<x.length),∀c∈x[j].of,c<b+j
 | [],_,_,j,h=>by simp at h
 | a::x,b,⟨h1,h2⟩,0,_=>h1
 | a::x,b,⟨h1,h2⟩,j+1,h=>by
  intro c hc;have:=h2.at j (by simpa using h) c hc;omega
theorem Low.one {b:Nat} {x:Nod} (h:∀c∈x.of,c<b):Low b [x]:=⟨h,trivial⟩
end Uw.Tryz
namespace Uw.Tryz
open Go Uw
def WE (k:Int):Int:=if 1<=k/\k<=8 then 1 else if 9<=k/\k<=17 then 2 else if k=18 then 3 else 0
def EB (ns:List Nd) (i:Int):Int:=(ns.getD i.toNat default).kind
def Ro (ns:List Nd) (x:Nd):List Int:=x.of.map fun k=>WE (EB ns k)
def Rq (k n:Int) (so:List Int) (k0:Int):Bool:=
 if k=1 then decide (so=[])&&decide (0<=n)&&decide (n<4294967296)
 else if k=2\/k=12 then decide (so=[])
 else if k=3\/k=4\/k=5\/k=6\/k=7\/k=11 then decide (so=[1,1])
 else if k=8\/k=10 then so.all fun s=>decide (s=1)
 else if k=9\/k=15\/k=16 then decide (so=[1])
 else if k=17 then decide (so=[1])&&decide (k0=8)
 else if k=13 then decide (so=[1,3])||decide (so=[1,3,3])
 else if k=14 then decide (so=[1,3])
 else if k=18 then so.all fun s=>decide (s=2)
 else false
def vY (ns:List Nd) (x:Nd):Bool:=Rq x.kind x.n (Ro ns x) (EB ns (x.of.headD 0))
def OI (ns:List Nd) (i:Nat) (x:Nd):Bool:=(x.of.all fun k=>decide (0<=k)&&decide (k<i))&&vY ns x
def yR (ns:List Nd):Nat->List Nd->Bool
 | _,[]=>true
 | i,x::r=>OI ns i x&&yR ns (i+1) r
def EC (ns:List Nd) (f:Fu):Bool:=decide (0<=f.body)&&decide (f.body<ns.length)&&decide (EB ns f.body=18)
def OJ (p:Pg):List Int:=(p.nodes.flatMap (·.of))++p.am.map (·.body)
def m9 (p:Pg):Bool:=yR p.nodes 0 p.nodes&&p.am.all (EC p.nodes)&&(List.range p.nodes.length).all fun k=>decide ((OJ p).count (k:Int)=1)
def ov (p:Pg) (s:Str):Option Int:=(p.decls.find? fun d=>decide (d.name=s)).map (·.kind)
def GU (p:Pg) (s:Str):Option Nat:=p.am.findIdx? fun f=>decide (f.name=s)
def zW:List Fu->Nat->List Int->List Int
 | [],_,o=>o
 | f::fs,i,o=>zW fs (i+1) (o.set f.body.toNat i)
def vZ (o:List Int) (i:Nat) (x:Nd):List Int:=x.of.foldl (fun o k=>o.set k.toNat (o.getD i 0)) o
def na:List (Nat×Nd)->List Int->List Int
 | [],o=>o
 | (i,x)::r,o=>na r (vZ o i x)
def idx {α:Type}:Nat->List α->List (Nat×α)
 | _,[]=>[]
 | i,x::r=>(i,x)::idx (i+1) r
def fx (p:Pg):List Int:=na (idx 0 p.nodes).reverse (zW p.am 0 (List.replicate p.nodes.length 0))
def OL (p:Pg) (x:Nd):Bool:=(decide (x.kind=9)||decide (x.kind=10)||decide (x.kind=11))&&!decide (x.name=[])&&(ov p x.name).isNone
def addLocal (ls:List (List Str)) (f:Nat) (s:Str):List (List Str):=if s∈ls.getD f [] then ls else ls.set f (ls.getD f []++[s])
def v7 (p:Pg):List (Nd×Int)->List (List Str)->List (List Str)
 | [],ls=>ls
 | (x,o)::r,ls=>v7 p r (if OL p x then addLocal ls o.toNat x.name else ls)
def ng (p:Pg):List (List Str):=v7 p (p.nodes.zip (fx p)) (p.am.map (·.args))
def v8 (p:Pg) (f:Int):List Str:=if f<0\/(p.am.length:Int)<=f\/m9 p=false then [] else (ng p).getD f.toNat []
def X4:Str:=[103,101,116]
def X5:Str:=[100,101,108]
def X6:Str:=[112,117,116]
def kt:Str:=[112,117,115,104]
def X7:Str:=[112,111,112]
def WG:Str:=[115,101,110,100]
def WH:Str:=[114,101,99,118]
def JO:Str:=[109,97,105,110]
def OM (k:Int) (s:Str):Option Int:=
 if k=1 then (if s=X4\/s=X5 then some 1 else if s=X6 then some 2 else none)
 else if k=2 then (if s=kt then some 1 else if s=X7 then some 0 else none)
 else if k=3 then (if s=WG then some 1 else if s=WH then some 0 else none)
 else none
def OO (p:Pg):Bool:=
 decide (16<p.am.length)||decide (16<(p.decls.countP fun d=>decide (d.kind=0)))||decide (8<(p.decls.countP fun d=>decide (d.kind=1)))||decide (8<(p.decls.countP fun d=>decide (d.kind=2)))||decide (8<(p.decls.countP fun d=>decide (d.kind=3)))
 ||((ng p).any fun l=>decide (16<l.length))||(p.nodes.any fun x=>decide (x.kind=10)&&decide (16<x.of.length))
def OP (p:Pg):List Str->List Str->Bool
 | _,[]=>false
 | seen,a::r=>(ov p a).isSome||decide (a∈seen)||OP p (a::seen) r
def OQ (p:Pg):Bool:=!decide ((p.decls.map (·.name)).Nodup)||!decide ((p.am.map (·.name)).Nodup)||(p.am.any fun f=>OP p [] f.args)
def TB (p:Pg) (x:Nd) (o:Int):Bool:=
 if x.kind=10\/x.kind=11 then (GU p x.name2).isNone
 else if x.kind=8 then (ov p x.name).isNone
 else if x.kind=2 then (ov p x.name).isNone&&!decide (x.name∈(ng p).getD o.toNat [])
 else false
def nameP (p:Pg):Bool:=(GU p JO).isNone||((p.nodes.zip (fx p)).any fun y=>TB p y.1 y.2)||(p.decls.any fun d=>decide (d.kind<0)||decide (3<d.kind))
def WJ (p:Pg) (x:Nd):Bool:=
 if x.kind=2\/x.kind=9 then (match ov p x.name with|some k=>!decide (k=0)|none=>false)
 else if x.kind=10\/x.kind=11 then (ov p x.name).isSome
 else if x.kind=8 then (OM ((ov p x.name).getD 0) x.name2).isNone
 else false
def j0 (p:Pg):Bool:=p.nodes.any (WJ p)
def argsAt (p:Pg) (s:Str):Nat:=(p.am.getD ((GU p s).getD 0) default).args.length
def manyN (p:Pg) (x:Nd):Bool:=
 if x.kind=10 then !decide (x.of.length=argsAt p x.name2)
 else if x.kind=11 then !decide (argsAt p x.name2=1)
 else if x.kind=8 then !decide ((x.of.length:Int)=(OM ((ov p x.name).getD 0) x.name2).getD 0)
 else false
def OS (p:Pg):Bool:=decide (0<argsAt p JO)||p.nodes.any (manyN p)
end Uw.Tryz
namespace Uw.Tryz
open Go Uw
end Uw.Tryz
namespace Uw.Tryz
open Go Uw
def uL (ns:List Nd):Dat:=.slice 5 (ns.map ndL) false
end Uw.Tryz
namespace Uw.Tryz
open Go Uw
structure Lim (p:Pg):Prop where
 nodes:p.nodes.length<100000
 am:p.am.length<100000
 decls:p.decls.length<100000
 of:∀x∈p.nodes,x.of.length<100000
 args:∀f∈p.am,f.args.length<100000
def OT (L:List Int) (n:Nat):List Int:=(List.range n).map fun (k:Nat)=>((L.count (k:Int):Nat):Int)
theorem JP (L:List Int) (n:Nat):(OT L n).length=n:=by simp [OT]
theorem Rr (L:List Int) (n k:Nat) (h:k<n):(OT L n)[k]'(by rw [JP];exact h)=(L.count (k:Int):Nat):=by simp [OT]
def bn (l:List Int):List (List Dat):=l.map fun i=>[I i]
theorem xq {L:List Int} {n:Nat} {k:Int} (h0:0<=k) (h:k<n):(bn (OT L n))[k.toNat]? = some [I (L.count k:Nat)]:=by
 have hk:k.toNat<n:=by omega
 have hkk:((k.toNat:Nat):Int)=k:=by omega
 rw [bn,Zd,AN (by rw [JP];exact hk),Rr _ _ _ hk,hkk];rfl
structure TC (p:Pg) (R:Bool):Prop where
 kid:∀(i:Nat) (h:i<p.nodes.length) (k:Int),k∈p.nodes[i].of->¬(0<=k/\k<i)->R=false
 shape:∀(i:Nat) (h:i<p.nodes.length),vY p.nodes p.nodes[i]=false->R=false
 body:∀(i:Nat) (h:i<p.am.length),EC p.nodes p.am[i]=false->R=false
 time:∀(k:Nat),k<p.nodes.length->(OJ p).count (k:Int)≠1->R=false
 all:(∀(i:Nat) (h:i<p.nodes.length),(∀k∈p.nodes[i].of,0<=k/\k<i)/\vY p.nodes p.nodes[i]=true)->(∀(i:Nat) (h:i<p.am.length),EC p.nodes p.am[i]=true)->(∀(k:Nat),k<p.nodes.length->(OJ p).count (k:Int)=1)->R=true
end Uw.Tryz
namespace Uw.Tryz
open Go Uw
theorem zX:∀(fs:List Fu) (i:Nat) (o:List Int),(zW fs i o).length=o.length
 | [],_,_=>rfl
 | f::fs,i,o=>by rw [zW,zX fs];simp
theorem xr {i:Nat}:∀(l:List Int) (o:List Int),(l.foldl (fun o k=>o.set k.toNat (o.getD i 0)) o).length=o.length
 | [],_=>rfl
 | k::l,o=>by rw [aag,xr l];simp
theorem sH:∀(l:List (Nat×Nd)) (o:List Int),(na l o).length=o.length
 | [],_=>rfl
 | (i,x)::r,o=>by rw [na,sH r,vZ,xr]
theorem yj (p:Pg):(fx p).length=p.nodes.length:=by rw [fx,sH,zX];simp
theorem JQ {α β:Type}:∀{l:List α} {l' : List β} {x:α},l'.length=l.length->x∈l->∃y,(x,y)∈l.zip l'
 | a::l,[],x,h,_=>by simp at h
 | a::l,b::l',x,h,hx=>by
  rcases Zj.1 hx with rfl|hx
  ·exact ⟨b,by simp⟩
  ·obtain ⟨y,hy⟩:=JQ (l:=l) (l':=l') (by simpa using h) hx
   exact ⟨y,by simp [hy]⟩
structure May (p:Pg):Prop where
 formed:m9 p=true
 bound:OO p=false
 twice:OQ p=false
 name:nameP p=false
 sort:j0 p=false
 many:OS p=false
theorem Dz {p:Pg} {s:Str} {i:Nat} (h:GU p s=some i):∃h:i<p.am.length,p.am[i].name=s:=by
 obtain ⟨h1,h2,_⟩:=List.findIdx?_eq_some_iff_getElem.1 h;exact ⟨h1,by simpa using h2⟩
theorem May.names {p:Pg} (h:May p):(p.decls.map (·.name)).Nodup/\(p.am.map (·.name)).Nodup/\∀f∈p.am,OP p [] f.args=false:=by
 have:=h.twice;simp only [OQ,Zt,Bool.not_eq_false',decide_eq_true_eq,Z2] at this;exact ⟨this.1.1,this.1.2,fun f hf=>by simpa using this.2 f hf⟩
theorem May.main {p:Pg} (h:May p):∃m,∃hm:m<p.am.length,GU p JO=some m/\p.am[m].args=[]:=by
 have h1:=h.name;have h2:=h.many;simp only [nameP,Zt] at h1;simp only [OS,Zt,decide_eq_false_iff_not] at h2
 cases hf:GU p JO with
 | none=>rw [hf] at h1;simp at h1
 | some m=>
  obtain ⟨hm,_⟩:=Dz hf;refine ⟨m,hm,rfl,?_⟩;have:=h2.1;rw [argsAt,hf] at this;simp only [Option.getD_some,List.getD,AN hm] at this;exact YZ (by omega)
theorem May.call {p:Pg} (h:May p) {x:Nd} (hx:x∈p.nodes) (hk:x.kind=10\/x.kind=11):∃k,∃hk:k<p.am.length,GU p x.name2=some k/\(x.kind=10->x.of.length=p.am[k].args.length)/\(x.kind=11->p.am[k].args.length=1):=by
 have h2:=h.many;simp only [OS,Zt,decide_eq_false_iff_not,Z2] at h2;have h1:=h.name;simp only [nameP,Zt,Z2] at h1;have h3:=h2.2 x hx;obtain ⟨o,ho⟩:∃o,(x,o)∈p.nodes.zip (fx p):=JQ (yj p) hx;have h4:=h1.1.2 _ ho;simp only [TB,if_pos hk] at h4
 cases hf:GU p x.name2 with
 | none=>rw [hf] at h4;simp at h4
 | some k=>
  obtain ⟨hkl,_⟩:=Dz hf;refine ⟨k,hkl,rfl,fun h10=>?_,fun h11=>?_⟩
  ·simp [manyN,h10,argsAt,hf,hkl] at h3;exact h3
  ·simp [manyN,h11,argsAt,hf,hkl] at h3;exact h3
theorem JR {p:Pg}:∀(l seen:List Str),OP p seen l=false->l.Nodup/\(∀a∈l,a∉seen)/\∀a∈l,ov p a=none
 | [],_,_=>⟨aa2,by simp,by simp⟩
 | a::r,seen,h=>by
  simp only [OP,Zt,decide_eq_false_iff_not] at h;obtain ⟨h1,h2,h3⟩:=JR r (a::seen) h.2;refine ⟨List.nodup_cons.2 ⟨fun hm=>h2 a hm (by simp),h1⟩,?_,?_⟩
  ·intro b hb
   rcases Zj.1 hb with rfl|hb
   ·exact h.1.2
   ·exact fun hs=>h2 b hb (by simp [hs])
  ·intro b hb
   rcases Zj.1 hb with rfl|hb
   ·simpa using h.1.1
   ·exact h3 b hb
def Loc (p:Pg) (a l:List Str):Prop:=(∃t,l=a++t)/\l.Nodup/\∀s∈l,ov p s=none
def ED (p:Pg) (ls:List (List Str)):Prop:=ls.length=p.am.length/\∀(f:Nat) (h:f<p.am.length),Loc p p.am[f].args (ls.getD f [])
theorem ED.add {p:Pg} {ls:List (List Str)} (h:ED p ls) (f:Nat) (s:Str) (hs:ov p s=none):ED p (addLocal ls f s):=by
 unfold addLocal
 split
 ·exact h
 ·rename_i hm
  refine ⟨by simpa using h.1,fun g hg=>?_⟩;by_cases hgf:g=f
  ·subst hgf
   obtain ⟨⟨t,ht⟩,h2,h3⟩:=h.2 g hg;have e:(ls.set g (ls.getD g []++[s])).getD g []=ls.getD g []++[s]:=by simp [h.1,hg]
   rw [e];refine ⟨⟨t++[s],by rw [ht,ZP]⟩,?_,?_⟩
   ·rw [aaP]
    exact ⟨h2,by simp,fun a ha b hb=>by simp at hb;subst hb;exact fun e=>hm (e ▸ ha)⟩
   ·intro b hb
    rcases Za.1 hb with hb|hb
    ·exact h3 b hb
    ·simp at hb;subst hb;exact hs
  ·have e:(ls.set f (ls.getD f []++[s])).getD g []=ls.getD g []:=by simp [List.getD,aap,Ne.symm hgf]
   rw [e];exact h.2 g hg
theorem ED.go {p:Pg}:∀(r:List (Nd×Int)) (ls:List (List Str)),ED p ls->ED p (v7 p r ls)
 | [],ls,h=>h
 | (x,o)::r,ls,h=>by
  rw [v7];refine ED.go r _ ?_
  split
  ·rename_i hl
   refine h.add _ _ ?_;simp only [OL,i9] at hl;simpa using hl.2
  ·exact h
theorem May.pK {p:Pg} (h:May p):ED p (ng p):=by
 refine ED.go _ _ ⟨by simp,fun f hf=>?_⟩;obtain ⟨h1,_,h3⟩:=JR _ _ (h.names.2.2 p.am[f] (YX hf));have e:(p.am.map (·.args)).getD f []=p.am[f].args:=by simp [List.getD,hf]
 rw [e];exact ⟨⟨[],by simp⟩,h1,h3⟩
theorem May.lof {p:Pg} (h:May p) (k:Nat) (hk:k<p.am.length):v8 p k=(ng p).getD k []:=by
 rw [v8,if_neg (by simp [h.formed];omega)];simp
theorem May.locals {p:Pg} (h:May p) (k:Nat) (hk:k<p.am.length):Loc p p.am[k].args (v8 p k)/\(v8 p k).length<=16:=by
 rw [h.lof k hk];refine ⟨h.pK.2 k hk,?_⟩;have:=h.bound;simp only [OO,Zt,Z2] at this;have hl:k<(ng p).length:=by rw [h.pK.1];exact hk
 have:=this.1.2 (ng p)[k] (YX hl);have e:(ng p).getD k []=(ng p)[k]:=by simp [List.getD,hl]
 rw [e];simpa using this
end Uw.Tryz
namespace Uw.Tryz
open Go Uw
structure Down (n:Nat) (l:List (Nat×Nd)):Prop where
 dec:l.Pairwise fun a c=>c.1<a.1
 kid:∀y∈l,y.1<n/\∀k∈y.2.of,0<=k/\k<(y.1:Int)
 once:(l.flatMap fun y=>y.2.of).Nodup
structure YL (p:Pg):Prop where
 body:∀(i:Nat) (h:i<p.am.length),(fx p).getD p.am[i].body.toNat 0=(i:Int)
 kid:∀(i:Nat) (h:i<p.nodes.length) (j:Nat),(j:Int)∈p.nodes[i].of->(fx p).getD j 0=(fx p).getD i 0
end Uw.Tryz
namespace Uw.Tryz
open Go Uw
theorem GV {p:Pg} (h:m9 p=true) (i:Nat) (hi:i<p.nodes.length):(∀k∈p.nodes[i].of,0<=k/\k<(i:Int))/\vY p.nodes p.nodes[i]=true:=by
 have h1:=h;simp only [m9,i9] at h1;have key:∀(l:List Nd) (b:Nat),yR p.nodes b l=true->∀(i:Nat) (hi:i<l.length),(∀k∈l[i].of,0<=k/\k<((b+i:Nat):Int))/\vY p.nodes l[i]=true:=by
  intro l
  induction l with
  | nil=>intro b _ i hi;simp at hi
  | cons y l ih=>
   intro b hb i hi;simp only [yR,i9] at hb
   cases i with
   | zero=>
    have h2:=hb.1;simp only [OI,i9,YW] at h2;exact ⟨fun k hk=>by simpa using h2.1 k hk,h2.2⟩
   | succ i=>
    obtain ⟨h3,h4⟩:=ih (b+1) hb.2 i (by simpa using hi);exact ⟨fun k hk=>by have:=h3 k hk;omega,h4⟩
 obtain ⟨h3,h4⟩:=key p.nodes 0 h1.1.1 i hi;exact ⟨fun k hk=>by have:=h3 k hk;omega,h4⟩
theorem yk {p:Pg} (h:m9 p=true) (i:Nat) (hi:i<p.am.length):0<=p.am[i].body/\p.am[i].body<p.nodes.length/\EB p.nodes p.am[i].body=18:=by
 simp only [m9,i9,YW] at h;have:=h.1.2 _ (YX hi);simp only [EC,i9,decide_eq_true_eq] at this;exact ⟨this.1.1,this.1.2,this.2⟩
structure Ups (p:Pg) (own:List Int):Prop where
 len:own.length=p.nodes.length
 body:∀(i:Nat) (h:i<p.am.length) (k:Nat),k<p.nodes.length->p.am[i].body=(k:Int)->own.getD k 0=(i:Int)
 kid:∀(i:Nat) (h:i<p.nodes.length) (k:Nat),(k:Int)∈p.nodes[i].of->own.getD k 0=own.getD i 0/\k<i
 up:∀(k:Nat),k<p.nodes.length->(∀(i:Nat) (hi:i<p.am.length),p.am[i].body≠(k:Int))->(∀(i:Nat) (hi:i<p.nodes.length),(k:Int)∉p.nodes[i].of)->False
end Uw.Tryz
namespace Uw.Tryz
open Go Uw
end Uw.Tryz
namespace Go.Proofs
open Go.RowKit Go.Shelf
attribute [local go_sem] Oper.semAt_some
theorem Tryz.GX (l Bs b off len cap:Nat) (C:Nat->Value) (hreach:len<1000000) (J:Nat->World->Prop)
  (hY:∀k W1,J k W1->k<len->YieldAt Fence.wide 0 Tryz.prog l #[.int .i64 ((len - 1 - k:Nat):Int),.agg #[C ((len - 1 - k) * 5),C ((len - 1 - k) * 5+1),C ((len - 1 - k) * 5+2),C ((len - 1 - k) * 5+3),C ((len - 1 - k) * 5+4)]] W1 fun e W'=>e = .returned (.bool true)/\J (k+1) W')
  (hOK:∀k W1,J k W1->W1.cell? ⟨Bs,0,none⟩=some (.slice (some ⟨b,off,none⟩) len cap)/\∀m,m<len * 5->W1.cell? ⟨b,off+m,none⟩=some (C m))
  (W:World) (h0:J 0 W) :
  CallsIn Fence.wide 0 Tryz.prog 194 #[.func (.yield l) #[] #[],.pointer (some ⟨Bs,0,none⟩)] W fun e W'=>(∃v,e = .returned v)/\J len W':=by
 refine callsIn_of_wp Tryz.func194 rfl trivial ?_ rfl;simp only [Tryz.ntmps194,List.size_toArray,List.length_cons,List.length_nil,Nat.reduceAdd,Nat.reduceSub,Array.replicate_succ,Array.replicate_zero,List.push_toArray,List.append_toArray,List.nil_append,List.cons_append];have hB:=(hOK 0 W h0).1
 gi_wp2
 gi_loopw [3] (fun i wr=>∃k:Nat,k<=len/\i = .int .i64 ((len:Int) - 1 - k)/\J k wr) (fun i _=>(intOf i+1).toNat)
 case atStart=>exact ⟨0,Nat.zero_le _,by simp,h0⟩
 case round=>
  obtain ⟨k,hk,rfl,hJs⟩:=hrel;obtain ⟨hB2,hC⟩:=hOK k wr hJs;by_cases hlt:k<len
  ·obtain ⟨fn,tmps,assign,body,hy,hR⟩:=hY k wr hJs hlt
   have he:((len - 1 - k:Nat):Int)=(len:Int) - 1 - k:=by omega
   rw [he] at hy;have c0:wr.cell? ⟨b,off+(len - 1 - k) * 5,none⟩=some (C ((len - 1 - k) * 5)):=hC _ (by omega);have c1:wr.cell? ⟨b,off+(len - 1 - k) * 5+1,none⟩=some (C ((len - 1 - k) * 5+1)):=by have:=hC ((len - 1 - k) * 5+1) (by omega);rwa [<- Nat.add_assoc] at this
   have c2:wr.cell? ⟨b,off+(len - 1 - k) * 5+2,none⟩=some (C ((len - 1 - k) * 5+2)):=by have:=hC ((len - 1 - k) * 5+2) (by omega);rwa [<- Nat.add_assoc] at this
   have c3:wr.cell? ⟨b,off+(len - 1 - k) * 5+3,none⟩=some (C ((len - 1 - k) * 5+3)):=by have:=hC ((len - 1 - k) * 5+3) (by omega);rwa [<- Nat.add_assoc] at this
   have c4:wr.cell? ⟨b,off+(len - 1 - k) * 5+4,none⟩=some (C ((len - 1 - k) * 5+4)):=by have:=hC ((len - 1 - k) * 5+4) (by omega);rwa [<- Nat.add_assoc] at this
   gi_wp2
   refine ⟨rfl,hR.mono ?_⟩;rintro e W3 ⟨rfl,hJ3⟩
   gi_wp2
   go_roundw
   case rel=>exact ⟨k+1,by omega,by simp;omega,hJ3⟩
   case measure=>simp [intOf];omega
  ·obtain rfl:k=len:=by omega
   gi_wp2
   go_end0
   exact ⟨⟨_,rfl⟩,hJs⟩
theorem Tryz.EE (l Bs:Nat) (x:Option Addr) (J:Nat->World->Prop) (hOK:∀k W1,J k W1->W1.cell? ⟨Bs,0,none⟩=some (.slice x 0 0)) (W:World) (h0:J 0 W) :
  CallsIn Fence.wide 0 Tryz.prog 194 #[.func (.yield l) #[] #[],.pointer (some ⟨Bs,0,none⟩)] W fun e W'=>(∃v,e = .returned v)/\J 0 W':=by
 refine callsIn_of_wp Tryz.func194 rfl trivial ?_ rfl;simp only [Tryz.ntmps194,List.size_toArray,List.length_cons,List.length_nil,Nat.reduceAdd,Nat.reduceSub,Array.replicate_succ,Array.replicate_zero,List.push_toArray,List.append_toArray,List.nil_append,List.cons_append];have hB:=hOK 0 W h0
 gi_wp2
 gi_loopw [3] (fun i wr=>i = .int .i64 (-1)/\J 0 wr) (fun i _=>0)
 case atStart=>exact ⟨rfl,h0⟩
 case round=>
  obtain ⟨rfl,hJs⟩:=hrel
  gi_wp2
  go_end0
  exact ⟨⟨_,rfl⟩,hJs⟩
end Go.Proofs
namespace Uw.Tryz
open Go Uw Go.RowKit
theorem GY {w:World} {J:Nat->Nat->Prop} {b k:Nat}:∀{xs:List (List Dat)} {o:Nat},bU w J b k o xs->∀(i:Nat) (h:i<xs.length),du w J b (o+i * k) xs[i]
 | x::xs,o,h,0,hi=>by simpa using h.2.1
 | x::xs,o,h,i+1,hi=>by
  have:=GY h.2.2 i (by simpa using hi);rw [show o+(i+1) * k=o+k+i * k by rw [Y6];omega];exact this
structure ni (ns:List Nd) (b off:Nat) (C:Nat->Value) (c:Cx):Prop where
 rel:∀(i:Nat) (h:i<ns.length),du c.w (Imm c) b (off+i * 5) (ndL ns[i])
 cell:∀m,m<ns.length * 5->c.w.cell? ⟨b,off+m,none⟩=some (C m)
 imm:∀m,m<ns.length * 5->Imm c b (off+m)
theorem ni.of [Glob] {ns:List Nd} {b off:Nat} {c:Cx} (h:∀(i:Nat) (h:i<ns.length),du c.w (Imm c) b (off+i * 5) (ndL ns[i])):ni ns b off (fun m=>(c.w.cell? ⟨b,off+m,none⟩).getD undef) c:=by
 have key:∀m,m<ns.length * 5->(∃v,c.w.cell? ⟨b,off+m,none⟩=some v)/\Imm c b (off+m):=by
  intro m hm;have hi:m / 5<ns.length:=by omega
  obtain ⟨⟨v0,a0,i0,_⟩,⟨v1,a1,i1,_⟩,⟨v2,a2,i2,_⟩,⟨v3,a3,i3,_⟩,⟨v4,a4,i4,_⟩,_⟩:=h (m / 5) hi;have hm5:m % 5=0\/m % 5=1\/m % 5=2\/m % 5=3\/m % 5=4:=by omega
  rcases hm5 with e|e|e|e|e
  ·rw [show off+m=off+m / 5 * 5 by omega];exact ⟨⟨v0,a0⟩,i0⟩
  ·rw [show off+m=off+m / 5 * 5+1 by omega];exact ⟨⟨v1,a1⟩,i1⟩
  ·rw [show off+m=off+m / 5 * 5+1+1 by omega];exact ⟨⟨v2,a2⟩,i2⟩
  ·rw [show off+m=off+m / 5 * 5+1+1+1 by omega];exact ⟨⟨v3,a3⟩,i3⟩
  ·rw [show off+m=off+m / 5 * 5+1+1+1+1 by omega];exact ⟨⟨v4,a4⟩,i4⟩
 refine ⟨h,fun m hm=>?_,fun m hm=>(key m hm).2⟩;obtain ⟨v,hv⟩:=(key m hm).1;rw [hv];rfl
theorem ni.agg [Glob] {ns:List Nd} {b off:Nat} {C:Nat->Value} {c:Cx} (h:ni ns b off C c) (i:Nat) (hi:i<ns.length):aG c.w (Imm c) (.agg (ndL ns[i])) (.agg #[C (i * 5),C (i * 5+1),C (i * 5+2),C (i * 5+3),C (i * 5+4)]):=by
 obtain ⟨⟨v0,a0,_,_,r0⟩,⟨v1,a1,_,_,r1⟩,⟨v2,a2,_,_,r2⟩,⟨v3,a3,_,_,r3⟩,⟨v4,a4,_,_,r4⟩,_⟩:=h.rel i hi;have e:∀(m:Nat) (v:Value),m<5->c.w.cell? ⟨b,off+i * 5+m,none⟩=some v->v=C (i * 5+m):=by
  intro m v hm hv;have:=h.cell (i * 5+m) (by omega);rw [<- aas,hv] at this;injection this
 obtain rfl:=e 0 v0 (by omega) a0;obtain rfl:=e 1 v1 (by omega) a1;obtain rfl:=e 2 v2 (by omega) a2;obtain rfl:=e 3 v3 (by omega) a3;obtain rfl:=e 4 v4 (by omega) a4;exact ⟨_,rfl,_,_,rfl,r0,_,_,rfl,r1,_,_,rfl,r2,_,_,rfl,r3,_,_,rfl,r4,rfl⟩
def JS (ns:List Nd) (b off:Nat) (C:Nat->Value):Fr where
 K:=0
 p:=ni ns b off C
 ok:=fun c c' he h=>⟨fun i hi=>du.keep he.keeps _ _ _ (h.rel i hi),fun m hm=>((he.keeps b _ (h.imm m hm)).2).trans (h.cell m hm),fun m hm=>(he.keeps b _ (h.imm m hm)).1⟩
end Uw.Tryz
namespace Uw.Tryz
open Go Uw Go.RowKit
abbrev pgV (p:Pg):Blk:=.var [.d (.slice 3 (p.decls.map WC) false),.d (.slice 3 (p.am.map fuL) false),.d (uL p.nodes)]
abbrev owR:jm:=[(3,.ptr 2 0),(1,.ptr 0 0)]
abbrev owH (p:Pg) (o:List (List Dat)):Heap:=[(2,.var [.ref 1 0 0 p.nodes.length]),(1,.mt 1 0 o),(0,pgV p)]
def owF (p:Pg) (j:Nat):List Int:=zW (p.am.take j) 0 (List.replicate p.nodes.length 0)
theorem DC:∀(fs:List Fu) (f:Fu) (b:Nat) (o:List Int),zW (fs++[f]) b o=(zW fs b o).set f.body.toNat ((b+fs.length:Nat):Int)
 | [],f,b,o=>by simp [zW]
 | g::fs,f,b,o=>by
  rw [ZY,zW,zW,DC fs f]
  congr 2
  simp;omega
theorem JU (p:Pg) (j:Nat):(owF p j).length=p.nodes.length:=by rw [owF,zX];simp
theorem OU (p:Pg) (j:Nat) (h:j<p.am.length):owF p (j+1)=(owF p j).set p.am[j].body.toNat (j:Int):=by
 rw [owF,owF,Zg h,DC];simp;congr 1;omega
theorem yS {o:List Int} {k:Int} (h:k.toNat<o.length):∃c,(bn o)[0+k.toNat]? = some [I c]/\c=o.getD k.toNat 0:=by
 refine ⟨o.getD k.toNat 0,?_,rfl⟩;rw [Y9,bn,Zd,AN h];simp [List.getD,h]
theorem GZ {o:List Int} {k:Nat} {c v:Int}:(bn o).set (0+k) (setAt [I c] 0 [I v])=bn (o.set k v):=by
 rw [Y9,bn,bn,Zr];rfl
def owK (p:Pg) (k:Nat):List Int:=na ((idx 0 p.nodes).reverse.take k) (owF p p.am.length)
theorem Rt (p:Pg) (k:Nat):(owK p k).length=p.nodes.length:=by rw [owK,sH,JU]
theorem wa:∀(l:List (Nat×Nd)) (y:Nat×Nd) (o:List Int),na (l++[y]) o=vZ (na l o) y.1 y.2
 | [],y,o=>rfl
 | x::l,y,o=>by rw [ZY,na,na,wa l]
theorem wb {α:Type}:∀(l:List α) (b:Nat),(idx b l).length=l.length
 | [],_=>rfl
 | x::l,b=>by rw [idx,Y7,Y7,wb l]
theorem JV {α:Type}:∀(l:List α) (b i:Nat) (h:i<l.length),(idx b l)[i]'(by rw [wb];exact h)=(b+i,l[i])
 | x::l,b,0,h=>rfl
 | x::l,b,i+1,h=>by
  have:=JV l (b+1) i (by simpa using h);simp only [idx,aav];rw [this,show b+1+i=b+(i+1) by omega]
theorem OV (p:Pg) (k:Nat) (h:k<p.nodes.length):owK p (k+1)=vZ (owK p k) (p.nodes.length - 1 - k) p.nodes[p.nodes.length - 1 - k]:=by
 have hl:((idx 0 p.nodes).reverse).length=p.nodes.length:=by rw [List.length_reverse,wb]
 rw [owK,owK,Zg (by rw [hl];exact h),wa,List.getElem_reverse];have:=JV p.nodes 0 (p.nodes.length - 1 - k) (by omega);simp only [wb];rw [this];simp
theorem Ru (p:Pg):owK p p.nodes.length=fx p:=by
 rw [owK,fx,i5 (by rw [List.length_reverse,wb];exact Ls _),owF,i5 (Ls _)]
theorem X8 (p:Pg):WT P0 (fun e s=>e = .normal/\Weak s ⟨[(1,.ptr 0 0)],[(0,pgV p)],1,[],0⟩) (exec oW.m (pI [pgD p]) Tree.done):=by
 repeat refine aw ?_
 refine ai ⟨rfl,?_⟩;exact Uw.wM
theorem X9 (p:Pg) (hn:p.nodes.length<100000):WT P0 (fun e s=>e = .normal/\Weak s ⟨owR,owH p (bn (owF p 0)),3,[],0⟩) (exec oY.m ⟨[(1,.ptr 0 0)],[(0,pgV p)],1,[],0⟩ Tree.done):=by
 have hnl:(p.nodes.map ndL).length=p.nodes.length:=by simp
 have e0:List.replicate (((p.nodes.map ndL).length:Nat):Int).toNat [I 0]=bn (owF p 0):=by
  rw [owF,List.take_zero,zW,bn,aan,hnl];simp
 have hmk:(decide ((0:Int)<=((p.nodes.map ndL).length:Nat))&&decide ((((p.nodes.map ndL).length:Nat):Int)<=((p.nodes.map ndL).length:Nat))&&decide ((((p.nodes.map ndL).length:Nat):Int) * ((8:Nat):Int)<=70368744177664))=true:=by simp;omega
 generalize bn (owF p 0)=O at *
 repeat refine aw ?_
 refine ai ⟨rfl,?_⟩;rw [<- e0];exact Uw.wM
theorem Ya (p:Pg) (hp:Lim p) (hb:∀(i:Nat) (h:i<p.am.length),0<=p.am[i].body/\p.am[i].body<p.nodes.length):WT P0 (fun e s=>e = .normal/\Weak s ⟨owR,owH p (bn (owF p p.am.length)),3,[],0⟩) (exec oZ.m ⟨owR,owH p (bn (owF p 0)),3,[],0⟩ Tree.done):=by
 have hfl:(p.am.map fuL).length=p.am.length:=by simp
 have hF:=hp.am;have hN:=hp.nodes;obtain ⟨O,hO⟩:∃O:Nat->List (List Dat),∀j,O j=bn (owF p j):=⟨_,fun _=>rfl⟩
 have hstep:∀(j:Nat) (h:j<p.am.length),∃c:Int,(O j)[0+p.am[j].body.toNat]? = some [I c]/\(O j).set (0+p.am[j].body.toNat) (setAt [I c] 0 [I j])=O (j+1):=by
  intro j h;have:=hb j h;obtain ⟨c,g1,g2⟩:=yS (o:=owF p j) (k:=p.am[j].body) (by rw [JU];omega);exact ⟨c,by rw [hO];exact g1,by rw [hO,hO,GZ,OU p j h]⟩
 have hel:∀(j:Nat) (h:j<p.am.length),(p.am.map fuL)[(j:Int).toNat]? = some (fuL p.am[j]):=by intro j h;simp [h]
 rw [<- hO,<- hO]
 repeat refine aw ?_
 refine dH p.am.length (fun j:Nat=>⟨[(17,.d (I j)),(16,.d (I ((p.am.map fuL).length:Nat))),(15,.d (.slice 3 (p.am.map fuL) false)),(3,.ptr 2 0),(1,.ptr 0 0)],owH p (O j),3,[],0⟩) (fun _=>True) (by exact Uw.wM) (fun _=>?_) (fun j hj _=>?_)
 ·repeat refine aw ?_
  refine aS ?_;refine ai ⟨rfl,?_⟩;exact Uw.wM
 have he:=hel j hj;have hs:=hstep j hj;have hbj:=hb j hj;clear hstep hel hO hb;generalize p.am[j]=f at *;obtain ⟨fn,fa,fb⟩:=f;have he:(p.am.map fuL)[(j:Int).toNat]? = some [.str fn,Tv fa,I fb]:=he;obtain ⟨c,g1,g2⟩:=hs;simp only at *;obtain ⟨b1,b2⟩:=hbj
 repeat refine aw ?_
 exact cH j trivial (by exact Uw.wM)
theorem Yb (p:Pg) (o:List (List Dat)):WT P0 (fun e s=>e = .normal/\Weak s ⟨[(30,.func b9 [] [.ptr 3 0]),(3,.ptr 2 0),(1,.ptr 0 0)],(3,.var [.d (uL p.nodes)])::owH p o,4,[],0⟩) (exec o5.m ⟨owR,owH p o,3,[],0⟩ Tree.done):=by
 repeat refine aw ?_
 refine bK jN.h rfl ?_
 repeat refine aw ?_
 refine dN rfl rfl ?_
 repeat refine aw ?_
 refine ai ⟨rfl,?_⟩;exact Uw.wM
end Uw.Tryz
namespace Uw.Tryz
open Go Uw Go.RowKit
abbrev owS (p:Pg) (k:Nat):St:=⟨owR,owH p (bn (owK p k)),3,[],0⟩
def owN (p:Pg) (k:Nat):Nd:=p.nodes.getD (p.nodes.length - 1 - k) default
abbrev owP (p:Pg) (k:Nat):jm:=[(32,.d (.agg (ndL (owN p k)))),(31,.d (I ((p.nodes.length - 1 - k:Nat):Int)))]
theorem Yc (p:Pg) (hp:Lim p) (k:Nat) (hk:k<p.nodes.length) (hx:∀j∈(owN p k).of,0<=j/\j<((p.nodes.length - 1 - k:Nat):Int)) :
  WT P0 (fun e s=>e = .normal/\WT P0 (fun e s'=>e = .normal/\s'.defers=[]/\Weak ⟨owR,s'.heap,s'.next,[],0⟩ (owS p (k+1))) (exec fQ.m s Tree.done)) (exec eL.m ⟨owP p k++owR,(owS p k).heap,(owS p k).next,[],(owS p k).next⟩ Tree.done):=by
 have hlim:=hp.of (owN p k) (by rw [owN];simp [List.getD,show p.nodes.length - 1 - k<p.nodes.length by omega]);have hN:=hp.nodes;obtain ⟨i,hi⟩:∃i,p.nodes.length - 1 - k=i:=⟨_,rfl⟩
 have hin:i<p.nodes.length:=by omega
 have hnext:owK p (k+1)=vZ (owK p k) i (owN p k):=by
  rw [OV p k hk,owN];simp [List.getD,hi,hin]
 rw [hi] at hx;obtain ⟨B,hB⟩:∃B:Nat->List Int,∀j,B j=((owN p k).of.take j).foldl (fun o k=>o.set k.toNat (o.getD i 0)) (owK p k):=⟨_,fun _=>rfl⟩
 obtain ⟨O,hO⟩:∃O:Nat->List (List Dat),∀j,O j=bn (B j):=⟨_,fun _=>rfl⟩
 have hBl:∀j,(B j).length=p.nodes.length:=fun j=>by rw [hB,xr,Rt]
 have e0:bn (owK p k)=O 0:=by rw [hO,hB];rfl
 have e1:bn (owK p (k+1))=O (owN p k).of.length:=by rw [hO,hB,ZE,hnext];rfl
 have hstep:∀(j:Nat) (h:j<(owN p k).of.length),∃u v:Int,(O j)[0+(i:Int).toNat]? = some [I u]/\(O j)[0+(owN p k).of[j].toNat]? = some [I v]/\(O j).set (0+(owN p k).of[j].toNat) (setAt [I v] 0 [I u])=O (j+1):=by
  intro j h;have h1:=hx _ (YX h);obtain ⟨u,u1,u2⟩:=yS (o:=B j) (k:=(i:Int)) (by rw [hBl];omega);obtain ⟨v,v1,v2⟩:=yS (o:=B j) (k:=(owN p k).of[j]) (by rw [hBl];omega);refine ⟨u,v,by rw [hO];exact u1,by rw [hO];exact v1,?_⟩;rw [hO,hO,GZ,hB (j+1),Zg h,List.foldl_append,<- hB,u2];rfl
 have hel:∀(j:Nat) (h:j<(owN p k).of.length),((owN p k).of.map fun i=>[I i])[(j:Int).toNat]? = some [I (owN p k).of[j]]:=by intro j h;simp [h]
 have hol:((owN p k).of.map fun i=>[I i]).length=(owN p k).of.length:=by simp
 have hlt:∀(j:Nat) (h:j<(owN p k).of.length),0<=(owN p k).of[j]/\(owN p k).of[j]<(i:Int):=fun j h=>hx _ (YX h);have goal2:∀T0 T1:List (List Dat),bn (owK p k)=T0->bn (owK p (k+1))=T1->(WT P0 (fun e s=>e = .normal/\WT P0 (fun e s'=>e = .normal/\s'.defers=[]/\Weak ⟨owR,s'.heap,s'.next,[],0⟩ ⟨owR,owH p T1,3,[],0⟩) (exec fQ.m s Tree.done)) (exec eL.m ⟨[(32,.d (.agg (ndL (owN p k)))),(31,.d (I (i:Int)))]++owR,owH p T0,3,[],3⟩ Tree.done))->
   WT P0 (fun e s=>e = .normal/\WT P0 (fun e s'=>e = .normal/\s'.defers=[]/\Weak ⟨owR,s'.heap,s'.next,[],0⟩ (owS p (k+1))) (exec fQ.m s Tree.done)) (exec eL.m ⟨owP p k++owR,(owS p k).heap,(owS p k).next,[],(owS p k).next⟩ Tree.done):=by
  intro T0 T1 h0 h1 h;rw [<- h0,<- h1,<- hi] at h;exact h
 refine goal2 _ _ e0 e1 ?_;clear goal2 hB hO hBl hnext hx e0 e1;generalize owN p k=x at *;obtain ⟨xk,xn,xs,xt,xo⟩:=x;simp only at *;show WT P0 _ (exec eL.m ⟨[(32,.d (.agg [I xk,I xn,.str xs,.str xt,ae xo])),(31,.d (I (i:Int)))]++owR,owH p (O 0),3,[],3⟩ Tree.done)
 repeat refine aw ?_
 refine ai ⟨rfl,?_⟩
 repeat refine aw ?_
 refine dH xo.length (fun j:Nat=>⟨[(36,.d (I j)),(35,.d (I ((xo.map fun i=>[I i]).length:Nat))),(34,.d (ae xo)),(6,.d (I i)),(3,.ptr 2 0),(1,.ptr 0 0)],owH p (O j),3,[],3⟩) (fun _=>True) (by exact Uw.wM) (fun _=>?_) (fun j hj _=>?_)
 ·repeat refine aw ?_
  refine aS ?_;refine ai ⟨rfl,rfl,?_⟩;exact Uw.wM
 have he:=hel j hj;have hs:=hstep j hj;have hbj:=hlt j hj;clear hstep hel hlt;generalize xo[j]=y at *;obtain ⟨u,v,g1,g2,g3⟩:=hs;obtain ⟨b1,b2⟩:=hbj
 repeat refine aw ?_
 exact cH j trivial (by exact Uw.wM)
theorem OW {c:Cx} {R:jm} {t:Array Value} {d:Nat} {v:V} {x:Value} (hr:mU c R t) (hd:d<t.size) (hv:aD c v x):mU c ((d,v)::R) (t.setIfInBounds d x):=by
 intro i u hu;rw [aE] at hu;by_cases hi:d=i
 ·subst hi
  rw [if_pos rfl] at hu;injection hu with hu;subst hu
  rw [Zy,Array.getElem?_setIfInBounds_self_of_lt hd];exact hv
 ·rw [if_neg hi] at hu
  rw [Zy,Array.getElem?_setIfInBounds_ne hi,<- Zy];exact hr i u hu
theorem G0 (p:Pg) (hf:m9 p=true) (hp:Lim p) {c1:Cx} {w00:World} {a:Act} {gs:Fr} {Bs:Nat} {C:Nat->Value} {OK:World->Prop} (hg:a.eval (.tmp 30) = .func (.func b9) #[] #[.pointer (some ⟨Bs,0,none⟩)])
  (hgs:∀c:Cx,gs.p c->∀(i:Nat) (h:i<p.nodes.length),aG c.w (Imm c) (.agg (ndL p.nodes[i])) (.agg #[C (i * 5),C (i * 5+1),C (i * 5+2),C (i * 5+3),C (i * 5+4)]))
  (hOK:∀c:Cx,gs.p c->(∀b,c1.J0.X b->c.w.heap[b]? = c1.w.heap[b]?)->OK c.w)
  (hit:Iter P0 b9 #[.pointer (some ⟨Bs,0,none⟩)] (fun k=>#[.int .i64 ((p.nodes.length - 1 - k:Nat):Int),.agg #[C ((p.nodes.length - 1 - k) * 5),C ((p.nodes.length - 1 - k) * 5+1),C ((p.nodes.length - 1 - k) * 5+2),C ((p.nodes.length - 1 - k) * 5+3),C ((p.nodes.length - 1 - k) * 5+4)]]) p.nodes.length OK)
  (r:Rel c1 w00 49 gs (owS p 0) a) {Q:Exit->Act->World->Prop} (hdone:∀(c:Cx),c.B=c1.B->c.J0=(c1.others fun b=>b=c1.w.heap.size\/b=c1.w.heap.size+1).J0->Rel c c.w 49 gs (owS p p.nodes.length) a->Below c1.B c1.w c.w->c.w.heap[c1.w.heap.size]? = some (.deferred (some []))->
   Q .normal { a with defers:={ target:=.collected c1.w.heap.size,args:=#[] }::a.defers } c.w):(Code.rangeFunc (.tmp 30) #[31,32] (cL (cL (cR (cL (cR (cR (cR (fW P0 bg)))))))) (cR (cL (cR (cL (cR (cR (cR (fW P0 bg))))))))).wp P0 Q a c1.w:=by
 have hN:=hp.nodes;have hat:∀(k:Nat) (h:k<p.nodes.length),owN p k=p.nodes[p.nodes.length - 1 - k]'(by omega):=fun k h=>by rw [owN];simp [List.getD,show p.nodes.length - 1 - k<p.nodes.length by omega]
 refine NM hg (Go.Proofs.enters_of Go.Proofs.Tryz.func194 (by kernel_rfl) rfl) p.nodes.length _ (fun k=>rfl) owR 0 (owS p) (fun k=>⟨rfl,rfl,rfl⟩) r OK hOK hit eL.h fQ.h (by kernel_rfl) (by kernel_rfl) (owP p) ?_ ?_ hdone
 ·intro k c hk hgp hr
  have hsz:a.tmps.size=49:=r.size;have h1:aD c (.d (I ((p.nodes.length - 1 - k:Nat):Int))) (.int .i64 ((p.nodes.length - 1 - k:Nat):Int)):=by
   show aG _ _ _ _;simp only [aG]
  have h2:=hgs c hgp (p.nodes.length - 1 - k) (by omega);rw [<- hat k hk] at h2;have he:∀(x1 x2:Value),(#[31,32].zip #[x1,x2]).foldl (fun t ((p,v):Nat×Value)=>t.setIfInBounds p v) a.tmps=(a.tmps.setIfInBounds 31 x1).setIfInBounds 32 x2:=fun _ _=>by simp only [List.zip_toArray,List.foldl_toArray];rfl
  show mU c (owP p k++owR) ((#[31,32].zip #[_,_]).foldl (fun t ((p,v):Nat×Value)=>t.setIfInBounds p v) a.tmps);rw [he];exact OW (OW hr (show 31<a.tmps.size by omega) h1) (show 32<(a.tmps.setIfInBounds 31 _).size by simp;omega) (v:=.d (.agg (ndL (owN p k)))) h2
 ·intro k hk
  refine Yc p hp k hk ?_;rw [hat k hk];exact (GV hf _ (by omega)).1
theorem zY (p:Pg) (hf:m9 p=true) (hp:Lim p):Ret P0 bg [pgD p] (ae (fx p)):=by
 have hN:=hp.nodes;refine K3 yA (Y0 rfl) ?_;rintro fn w J c a hres hB hJ rfl hd r;refine yN oW.h r _ (X8 p) ?_;intro c2 a2 b2 j2 r2;refine yN oY.h r2 _ (X9 p hN) ?_;intro c3 a3 b3 j3 r3;refine yN oZ.h r3 _ (Ya p hp fun i h=>⟨(yk hf i h).1,(yk hf i h).2.1⟩) ?_;intro c4 a4 b4 j4 r4;refine wp_seq (yN o5.h r4 _ (Yb p _) ?_);intro c5 a5 b5 j5 r5;have hB5:c5.B=c.w.heap.size:=b5.trans (b4.trans (b3.trans (b2.trans hB)));have hJ5:c5.J0=⟨J,fun _=>False⟩:=j5.trans (j4.trans (j3.trans (j2.trans hJ)));have hd5:a5.defers=[]:=r5.defers
 -- the iterator's value,and its box
 obtain ⟨us,vs,hfv,hus,hvs⟩:=r5.regs 30 (.func b9 [] [.ptr 3 0]) rfl;obtain ⟨v,vs',rfl,⟨_,hv⟩,hvs'⟩:=hvs;simp only [aC] at hus hvs';subst hus hvs' hv;obtain ⟨ws,e,hbox,hbv⟩:=r5.hrel.blk 3 (.var [.d (uL p.nodes)]) (by rw [r5.heap];rfl);obtain ⟨sv,ws',hws,hsv,WL⟩:=hbv;simp only [aC] at WL;subst WL;have hws:ws = #[sv]:=by rw [<- Array.toList_inj];exact hws
 subst hws
 -- the box is forgotten,and nobody's from here on
 have hwk:x5 (cY []) ⟨[(30,.func b9 [] [.ptr 3 0]),(3,.ptr 2 0),(1,.ptr 0 0)],(3,.var [.d (uL p.nodes)])::owH p (bn (owF p p.am.length)),4,[],0⟩ (owS p 0):=by
  refine x5.of ?_ ?_ rfl rfl ?_ rfl rfl<;>repeat' first|exact trivial|refine ⟨⟨_,rfl,?_⟩,?_⟩|exact Or.inl ⟨rfl,rfl⟩|exact qK rfl rfl|refine ⟨⟨Or.inl ⟨_,rfl,?_⟩,rfl⟩,?_⟩|refine And.intro ?_ ?_
 obtain ⟨r6,hgb⟩:=r5.forget hwk (id0:=3) rfl rfl;have hBs:(c5.pl 3).gb<c5.w.heap.size:=(ZH.1 hbox).1;have hBB:c5.B<=(c5.pl 3).gb:=by
  have:=r5.hrel.ge 3 (.var [.d (uL p.nodes)]) (by rw [r5.heap];rfl) trivial;exact Z3 fun h=>this (.inl h)
 have r7:=r6.others (fun b=>b=(c5.pl 3).gb) (fun b hb=>by subst hb;exact hBs) (fun b hb id blk hl hp=>by subst hb;exact hgb id blk hl hp);generalize hBe:(c5.pl 3).gb=Bs at *;obtain ⟨c7,hc7⟩:∃c7,c7=(c5.weak (cY []) (owS p 0).heap).others (fun b=>b=Bs):=⟨_,rfl⟩
 rw [<- hc7] at r7;have hw7:c7.w=c5.w:=by rw [hc7];rfl
 have hB7:c7.B=c.w.heap.size:=by rw [hc7];exact hB5
 have hJ7:c7.J0=⟨fun b o=>J b o\/b=Bs,fun b=>False\/b=Bs⟩:=by
  rw [hc7];show (⟨fun b o=>c5.J0.J b o\/b=Bs,fun b=>c5.J0.X b\/b=Bs⟩:JX)=_;rw [hJ5]
 have Yd:aG c7.w (Imm c7) (uL p.nodes) sv:=by
  have h1:aG c5.w (Imm c5) (uL p.nodes) sv:=hsv;have hk:Keeps c5.w c7.w (Imm c5) (Imm c7):=by
   intro b o hi;rw [hc7];have h2:=iJ (c:=c5) (ρ:=cY []) (h':=(owS p 0).heap) (by rw [r5.heap];exact hwk.heap) b o hi;exact (Evo.others (c:=c5.weak (cY []) (owS p 0).heap) (fun b=>b=Bs)).keeps b o h2.1
  exact aG.keep hk _ _ h1
 have TD:c7.w.heap[Bs]? = some (.cells #[sv] e (0,0)):=by rw [hw7];exact hbox
 rw [<- hw7];have hbel:Below c.w.heap.size c.w c7.w:=by
  have:=r5.hrel.below;rw [hB5] at this;rw [hw7];exact this
 have hfin:∀(gs:Fr) (cc:Cx),cc.B=c7.B->cc.J0=(c7.others fun b=>b=c7.w.heap.size\/b=c7.w.heap.size+1).J0->Rel cc cc.w 49 gs (owS p p.nodes.length) a5->Below c7.B c7.w cc.w->cc.w.heap[c7.w.heap.size]? = some (.deferred (some []))->
   Code.wp P0 (cR (cR (cR (cR (fW P0 bg))))) (bodyPostM Fence.wide 0 P0 fn (Rb c.w J (ae (fx p)))) { a5 with defers:={ target:=.collected c7.w.heap.size,args:=#[] }::a5.defers } cc.w:=by
  intro gs cc e1 e2 r8 e3 e4;have hX:∀b,cc.J0.X b->c.w.heap.size<=b:=by
   intro b hb;rw [e2] at hb;have hs7:=hbel.size
   rcases hb with hb|hb|hb
   ·rw [hJ7] at hb
    rcases hb with hb|hb
    ·exact hb.elim
    ·rw [hb,<- hB5];exact hBB
   ·rw [hb];exact hs7
   ·rw [hb];omega
  refine Vd hres o6.h r8 hd5 (e1.trans hB7) (by rw [e2];exact .inr (.inl rfl)) hX ?_ e4 (hbel.trans (by rw [hB7] at e3;exact e3)) ?_
  ·intro b o hb
   rw [e2] at hb ⊢
   rcases hb with hb|hb
   ·rw [hJ7] at hb
    rcases hb with hb|hb
    ·exact .inl hb
    ·exact .inr (.inl (by rw [hJ7];exact .inr hb))
   ·exact .inr (.inr hb)
  ·have hl:(List.drop 0 (bn (fx p))).take p.nodes.length=bn (fx p):=by
    rw [YY,i5 (by rw [bn,ZZ,yj];exact Ls _)]
   rw [<- Ru] at hl ⊢;show WT P0 (Ih _ (.slice 1 (bn (owK p p.nodes.length)) false)) (exec o6.m ⟨owR,owH p (bn (owK p p.nodes.length)),3,[],0⟩ Tree.done);generalize bn (owK p p.nodes.length)=O at *
   repeat refine aw ?_
   refine ag rfl rfl rfl rfl ?_;exact congrArg (fun l=>Dat.slice 1 l false) hl
 have hg:a5.eval (.tmp 30) = .func (.func b9) #[] #[.pointer (some ⟨Bs,0,none⟩)]:=hfv;refine wp_block ?_
 rcases Yd with ⟨⟨x,hx,_⟩,hnil⟩|⟨b,off,cap,hx,hcap,_,hel⟩
 ·-- no nodes
  have hn0:p.nodes=[]:=by simpa using hnil
  refine G0 p hf hp (gs:=Fr.none) (C:=fun _=>undef) (OK:=fun W=>W.cell? ⟨Bs,0,none⟩=some (.slice x 0 0)) hg (fun c _ i h=>by rw [hn0] at h;simp at h) ?_ ?_ r7 ?_
  ·intro c' _ hX
   have:=hX Bs (by rw [hJ7];exact .inr rfl);rw [World.cell?_of_block this];unfold World.cell?;rw [TD,hx];rfl
  ·intro l J' W hY Vn h0
   rw [hn0];exact Go.Proofs.Tryz.EE l Bs x J' Vn W h0
  ·intro cc e1 e2 r8 e3 e4
   exact hfin _ cc e1 e2 r8 e3 e4
 ·have hlen:(p.nodes.map ndL).length=p.nodes.length:=by simp
  have hat:ni p.nodes b off (fun m=>(c7.w.cell? ⟨b,off+m,none⟩).getD undef) c7:=ni.of fun i h=>by
   have:=GY hel i (by rw [hlen];exact h);simpa using this
  generalize (fun m=>(c7.w.cell? ⟨b,off+m,none⟩).getD undef)=C at hat;have r8:Rel c7 c5.w 49 (JS p.nodes b off C) (owS p 0) a5:=by
   rw [<- hw7];exact ⟨r7.heap,by rw [hw7];exact r7.hrel,r7.size,r7.regs,hat,ZN _,r7.base,r7.defers⟩
  refine G0 p hf hp (gs:=JS p.nodes b off C) (C:=C) (OK:=fun W=>W.cell? ⟨Bs,0,none⟩=some (.slice (some ⟨b,off,none⟩) p.nodes.length cap)/\∀m,m<p.nodes.length * 5->W.cell? ⟨b,off+m,none⟩=some (C m)) hg (fun c h i hi=>ni.agg h i hi) ?_ ?_ r8 ?_
  ·intro c' hc' hX
   refine ⟨?_,fun m hm=>ni.cell hc' m hm⟩;have:=hX Bs (by rw [hJ7];exact .inr rfl);rw [World.cell?_of_block this];unfold World.cell?;rw [TD,hx,hlen];rfl
  ·intro l J' W hY Vn h0
   exact Go.Proofs.Tryz.GX l Bs b off p.nodes.length cap C (by omega) J' hY Vn W h0
  ·intro cc e1 e2 r9 e3 e4
   exact hfin _ cc e1 e2 r9 e3 e4
end Uw.Tryz
namespace Uw
open Go
mutual
theorem Rw:∀v:V,v.ren (cY [])=v
 | .ptr id o=>rfl
 | .kV id v i c=>rfl
 | .ref id v o l=>rfl
 | .agg cs=>by rw [V.ren,qp cs]
 | .func f fs cs=>by rw [V.ren,qp fs,qp cs]
 | .tuple cs=>by rw [V.ren,qp cs]
 | .d x=>rfl
 | .ro cs o=>rfl
 | .hnd id=>rfl
 | .row id len=>rfl
 | .undef=>rfl
theorem qp:∀l:List V,nL (cY []) l=l
 | []=>rfl
 | v::r=>by rw [nL,Rw v,qp r]
end
section
variable [Glob]
theorem Weak.looks {R R' : jm} {H H' : Heap} {n n' b:Nat} (h1:KU (cY []) R H H' R') (h2:∀id x,look H' id=some x->look H id=some x/\x.closed H' = true/\id<n') (h3:b<=n') (h4:∀id,id<b->(look H id).isSome=true->(look H' id).isSome=true):Weak ⟨R,H,n,[],b⟩ ⟨R',H',n',[],b⟩:=by
 refine ⟨cY [],fun i v h=>pZ h1 i v h,fun i x h=>.inl ⟨x,(h2 i x h).1,qK ?_ (h2 i x h).2.1⟩,fun i x h=>(h2 i x h).2.2,rfl,h3,fun id hid=>⟨rfl,h4 id hid⟩,fun id id' _ _ he=>he,rfl,rfl⟩
 cases x with
 | var cs=>show Blk.var cs=Blk.var (nL (cY []) cs);rw [qp]
 | _=>rfl
theorem f1 {P:Program} {Q:az->St->Prop} {t t' : Tree} (hgo' : WT P Q t') (h:WT P Q t'->WT P Q t:=by
  first
  | (show _->WT _ _ (Tree.A7 _ _)
     first
     | exact yK _ (by assumption)
     | exact yK _ rfl)
  | (show _->WT _ _ (Tree.blk _ _)
     first
     | exact Ef _ (by assumption)
     | exact Ef _ rfl)):WT P Q t:=h hgo'
end
end Uw
namespace Uw.Tryz
open Go Uw
structure YM (rid mid:Nat->Nat) (n:Nat):Prop where
 rr:∀i j,i<n->j<n->rid i=rid j->i=j
 mm:∀i j,i<n->j<n->mid i=mid j->i=j
 rm:∀i j,i<n->j<n->rid i≠mid j
end Uw.Tryz
namespace Uw
open Go
section
variable [Glob]
end
end Uw
namespace Uw.Tryz
open Go Uw
def rid (i:Nat):Nat:=4+2 * i
def mid (i:Nat):Nat:=5+2 * i
end Uw.Tryz
namespace Uw.Tryz
open Go Uw
end Uw.Tryz
namespace Uw.Tryz
open Go Uw
structure In4 where
 op:Int
 a:Int
 b:Int
 c:Int
 deriving DecidableEq,Inhabited
def in4 (i:In4):List Dat:=[I i.op,I i.a,I i.b,I i.c]
structure Nms where
 things:Str->Option (Int×Int)
 am:Str->Int
 helps:Str->Int
 pK:Str->Option Int
structure Bd where
 args:Int
 locals:Int
 ins:List In4
 deriving DecidableEq,Inhabited
def bdC (b:Bd):List Dat:=[I b.args,I b.locals,.slice 4 (b.ins.map in4) false]
structure Cd where
 am:List Bd
 cells:List Int
 maps:Int
 stacks:Int
 chans:Int
 main:Int
 deriving DecidableEq,Inhabited
def cdD (c:Cd):Dat:=.agg [.slice 3 (c.am.map bdC) false,ae c.cells,I c.maps,I c.stacks,I c.chans,I c.main]
end Uw.Tryz
namespace Uw.Tryz
open Go Uw
structure Cont where
 kind:Int
 keys:List Int
 vals:List Int
 deriving DecidableEq,Inhabited
structure Op4 where
 kind:Int
 obj:Int
 a:Int
 b:Int
 deriving DecidableEq,Inhabited
def av (c:Cont):List Dat:=[I c.kind,ae c.keys,ae c.vals]
def opC (o:Op4):List Dat:=[I o.kind,I o.obj,I o.a,I o.b]
def ofK (k:Int):Int:=if k=1\/k=2\/k=3 then 1 else if k=4\/k=5 then 2 else if k=6\/k=7 then 3 else 0
def dK (c:Cont):Bool:=
 if c.kind=1 then decide (c.keys.length=c.vals.length)&&decide (c.keys.Pairwise (· < ·))
 else if c.kind=2\/c.kind=3 then decide (c.keys.length=0) else false
def cE (l:List Int) (x:Int):Nat:=(l.takeWhile fun y=>decide (y<x)).length
def iy (l:List Int) (x:Int):Bool:=decide (l[cE l x]? = some x)
def rE (l:List Int) (k:Nat) (x:Int):List Int:=l.take k++x::l.drop k
def sJ (l:List Int) (k:Nat):List Int:=l.take k++l.drop (k+1)
def doS (c:Cont) (o:Op4):Cont×Int×Bool:=
 if dK c=false\/ofK o.kind≠c.kind then (c,0,false)
 else if o.kind=1 then (if iy c.keys o.a then (c,c.vals.getD (cE c.keys o.a) 0,true) else (c,0,false))
 else if o.kind=2 then (if iy c.keys o.a then (c,0,false) else (⟨c.kind,rE c.keys (cE c.keys o.a) o.a,rE c.vals (cE c.keys o.a) o.b⟩,0,true))
 else if o.kind=3 then (if iy c.keys o.a then (⟨c.kind,sJ c.keys (cE c.keys o.a),sJ c.vals (cE c.keys o.a)⟩,0,true) else (c,0,false))
 else if o.kind=4 then (⟨c.kind,[],o.a::c.vals⟩,0,true)
 else if o.kind=6 then (⟨c.kind,[],c.vals++[o.a]⟩,0,true)
 else match c.vals with
  | []=>(c,0,false)
  | v::r=>(⟨c.kind,[],r⟩,v,true)
theorem OX {l:List Int} (h:∀(i:Nat) (h1:i+1<l.length),l[i]<l[i+1]):l.Pairwise (· < ·):=by
 rw [ZL];intro i j hi hj hij;obtain ⟨d,rfl⟩:∃d,j=i+1+d:=⟨j - (i+1),by omega⟩
 clear hij
 induction d with
 | zero=>exact h i hj
 | succ d ih=>exact Int.lt_trans (ih (by omega)) (h (i+1+d) (by omega))
theorem IU {x:Int}:∀{l:List Int},l.Pairwise (· < ·)->∀(h:Nat) (hl:h<l.length),l[h]<x<->h<cE l x
 | [],_,h,hl=>by simp at hl
 | a::r,hp,h,hl=>by
  have hp':=List.pairwise_cons.1 hp;by_cases ha:a<x
  ·have e:cE (a::r) x=cE r x+1:=by simp [cE,ha]
   rw [e]
   cases h with
   | zero=>simpa using ha
   | succ h=>
    have:=IU (x:=x) hp'.2 h (by simpa using hl);simp only [aav];omega
  ·have e:cE (a::r) x=0:=by simp [cE,ha]
   rw [e]
   cases h with
   | zero=>simpa using ha
   | succ h=>
    have h2:h<r.length:=by simpa using hl
    have:=hp'.1 r[h] (YX _);simp only [aav];omega
theorem EF (l:List Int) (x:Int):cE l x<=l.length:=by
 unfold cE;exact List.Sublist.length_le (List.takeWhile_sublist _)
theorem kF (k:Int):Ret P0 fX [I k] (.agg [I k,.nil,.nil]):=by
 refine aj Iw.h rfl ?_
 repeat refine aw ?_
 exact ag rfl rfl rfl rfl rfl
theorem s6 (k:Int):Ret P0 CY [I k] (I (ofK k)):=by
 by_cases k1:k=1
 ·subst k1;refine aj je.h rfl ?_;repeat refine aw ?_
  exact ag rfl rfl rfl rfl rfl
 by_cases k2:k=2
 ·subst k2;refine aj je.h rfl ?_;repeat refine aw ?_
  exact ag rfl rfl rfl rfl rfl
 by_cases k3:k=3
 ·subst k3;refine aj je.h rfl ?_;repeat refine aw ?_
  exact ag rfl rfl rfl rfl rfl
 by_cases k4:k=4
 ·subst k4;refine aj je.h rfl ?_;repeat refine aw ?_
  exact ag rfl rfl rfl rfl rfl
 by_cases k5:k=5
 ·subst k5;refine aj je.h rfl ?_;repeat refine aw ?_
  exact ag rfl rfl rfl rfl rfl
 by_cases k6:k=6
 ·subst k6;refine aj je.h rfl ?_;repeat refine aw ?_
  exact ag rfl rfl rfl rfl rfl
 by_cases k7:k=7
 ·subst k7;refine aj je.h rfl ?_;repeat refine aw ?_
  exact ag rfl rfl rfl rfl rfl
 have e:ofK k=0:=by simp [ofK,k1,k2,k3,k4,k5,k6,k7]
 rw [e];refine aj je.h rfl ?_
 repeat refine aw ?_
 exact ag rfl rfl rfl rfl rfl
theorem EG (l:List Int) (hl:l.length<1000000):Ret P0 qb [ae l] (.bool (decide (l.Pairwise (· < ·)))):=by
 have hm:(l.map fun i=>[I i]).length=l.length:=by simp
 have he:∀(j:Nat) (h:j<l.length),(l.map fun i=>[I i])[(j:Int).toNat]? = some [I l[j]]:=fun j h=>by simp [h]
 have he2:∀(j:Nat) (h:j - 1<l.length) (h0:1<=j),(l.map fun i=>[I i])[((j:Int) - 1).toNat]? = some [I l[j - 1]]:=fun j h h0=>by
  have e:((j:Int) - 1).toNat=j - 1:=by omega
  rw [e];simp [h]
 have hno:∀(j:Nat) (h:j<l.length) (h0:1<=j),l[j]<=l[j - 1]->decide (l.Pairwise (· < ·))=false:=fun j h h0 hle=>decide_eq_false fun hp=>by
  have:=ZL.1 hp (j - 1) j (by omega) h (by omega);omega
 have hyes:(∀(i:Nat) (h1:i+1<l.length),l[i]<l[i+1])->decide (l.Pairwise (· < ·))=true:=fun h=>decide_eq_true (OX h);generalize decide (l.Pairwise (· < ·))=R at *;refine aj xe.h rfl ?_
 repeat refine aw ?_
 refine cX (fun j:Nat=>⟨[(3,.d (I j)),(2,.d (.bool false)),(0,.d (ae l))],[],0,[],0⟩) (fun j=>1<=j/\∀(i:Nat) (h1:i+1<l.length),i+1<j->l[i]<l[i+1]) (fun j=>l.length - j) 1 (by exact Uw.wW) ⟨Ls _,fun i _ h=>absurd h (by omega)⟩ ?_;rintro j ⟨h1,hj⟩;by_cases hjl:j<l.length
 ·have e1:=he j hjl
  have e2:=he2 j (by omega) h1;have n1:=hno j hjl h1;have hs:l[j - 1]<l[j]->∀(i:Nat) (h1:i+1<l.length),i+1<j+1->l[i]<l[i+1]:=fun h i hi hij=>by
   by_cases e:i+1<j
   ·exact hj i hi e
   ·obtain rfl:j=i+1:=by omega
    exact h
  clear he he2 hno hyes hj;generalize l[j]=x at *;generalize l[j - 1]=y at *;by_cases hxy:x<=y
  ·obtain rfl:=n1 hxy
   repeat refine aw ?_
   exact aW (ag rfl rfl rfl rfl rfl)
  ·have hs:=hs (by omega)
   repeat refine aw ?_
   exact aN (j+1) ⟨by omega,hs⟩ (by omega) (by exact Uw.wW)
 ·obtain rfl:=hyes fun i h=>hj i h (by omega)
  repeat refine aw ?_
  refine aS ?_
  repeat refine aw ?_
  exact ag rfl rfl rfl rfl rfl
end Uw.Tryz
namespace Uw.Tryz
open Go Uw
theorem OY (a b:Nat) (h:a<=b):((b:Int) - a).tdiv 2=(((b - a) / 2:Nat):Int):=by
 rw [show ((b:Int) - a)=((b - a:Nat):Int) by omega];rfl
theorem sK (l:List Int) (x:Int) (hl:l.length<1000000) (hp:l.Pairwise (· < ·)):Ret P0 rz [ae l,I x] (.tuple [I (cE l x:Nat),.bool (iy l x)]):=by
 have hm:(l.map fun i=>[I i]).length=l.length:=by simp
 have hle:=EF l x;have hlow:=IU (x:=x) hp;have he:∀(j:Nat) (h:j<l.length) (z:Int) (hz:z=j),(l.map fun i=>[I i])[z.toNat]? = some [I l[j]]:=fun j h z hz=>by subst hz;simp [h]
 have hR0:¬cE l x<l.length->iy l x=false:=fun h=>by
  unfold iy;rw [Y2 (by omega)];rfl
 have hR1:∀h:cE l x<l.length,iy l x=decide (l[cE l x]=x):=fun h=>by
  unfold iy;rw [AN h];simp
 generalize iy l x=R at *;generalize cE l x=w at *;refine aj yz.h rfl ?_
 repeat refine aw ?_
 refine cX (fun ((a,b):Nat×Nat)=>⟨[(7,.d (I b)),(6,.d (I a)),(5,.d (.bool false)),(4,.d (I 0)),(1,.d (I x)),(0,.d (ae l))],[],0,[],0⟩) (fun p=>p.1<=w/\w<=p.2/\p.2<=l.length) (fun p=>p.2 - p.1) (0,l.length) (by exact Uw.wW) ⟨by omega,hle,Ls _⟩ ?_;rintro ⟨a,b⟩ ⟨ha,hb,hbl⟩;simp only at ha hb hbl;by_cases hab:a<b
 ·have hh:=OY a b (by omega)
  have hd:(b - a) / 2<b - a:=by omega
  have e1:=he (a+(b - a) / 2) (by omega) ((a:Int)+((b:Int) - a).tdiv 2) (by rw [hh];omega);have e2:=hlow (a+(b - a) / 2) (by omega);clear he hlow;generalize l[a+(b - a) / 2]=y at *;by_cases hy:y<x
  ·have e3:=e2.1 hy
   repeat refine aw ?_
   exact aN (a+(b - a) / 2+1,b) ⟨by simp only;omega,hb,hbl⟩ (by simp only;omega) (by exact Uw.wW)
  ·have e3:¬a+(b - a) / 2<w:=fun h=>hy (e2.2 h)
   repeat refine aw ?_
   exact aN (a,a+(b - a) / 2) ⟨ha,by simp only;omega,by simp only;omega⟩ (by simp only;omega) (by exact Uw.wW)
 ·obtain rfl:a=w:=by omega
  by_cases hw:a<l.length
  ·have e1:=he a hw a rfl
   have hR:=hR1 hw;generalize l[a]=y at *;subst hR
   repeat refine aw ?_
   refine aS ?_
   repeat refine aw ?_
   exact ag rfl rfl rfl rfl rfl
  ·have hR:=hR0 hw
   subst hR
   repeat refine aw ?_
   refine aS ?_
   repeat refine aw ?_
   exact ag rfl rfl rfl rfl rfl
theorem po (l:List Int) (k:Nat) (x:Int) (hl:l.length<1000000) (hk:k<=l.length):Ret P0 yh [ae l,I k,I x] (ae (rE l k x)):=by
 have hm:(l.map fun i=>[I i]).length=l.length:=by simp
 refine aj Gv.h rfl ?_;refine aw ?_;refine ah (by simp;omega) ?_
 repeat refine aw ?_
 refine ag rfl rfl rfl rfl ?_;simp [fV,ae,rE];have e:List.take l.length (List.map (fun i=>[I i]) l)=List.map (fun i=>[I i]) l:=i5 (by simp);rw [e];exact i5 (by simp;omega)
theorem sL (l:List Int) (k:Nat) (hl:l.length<1000000) (hk:k<l.length):Ret P0 jJ [ae l,I k] (ae (sJ l k)):=by
 have hm:(l.map fun i=>[I i]).length=l.length:=by simp
 refine aj zQ.h rfl ?_
 repeat refine aw ?_
 refine ag rfl rfl rfl rfl ?_;simp [fV,ae,sJ];have e:List.take l.length (List.map (fun i=>[I i]) l)=List.map (fun i=>[I i]) l:=i5 (by simp);rw [e];exact i5 (by simp)
end Uw.Tryz
namespace Uw.Tryz
open Go Uw
theorem wc {P:Program} {f:FuncId} {m:oK} (hf:jc P f m) {args:List Dat} {r:Dat} (hn:Nat.ble args.length m.n=true)
  (h:WT P (fun e st=>∃st',(st' = st\/Weak st st')/\Ih m.res r e st') (exec m.code (pI args) Tree.done)):Ret P f args r:=
 tP hf hn (WT.mono (fun e st ⟨st',h1,h2⟩=>⟨st',h1,.inl h2⟩) _ h)
theorem dj (l:List Int) (hl:l.length<1000000):Ret P0 de [ae l] (ae l):=by
 have hm:(l.map fun i=>[I i]).length=l.length:=by simp
 refine wc jG.h rfl ?_;refine bz (fun h1=>?_) (fun h1=>?_)
 ·have h1:l=[]:=by simpa using h1
  subst h1;refine vh ?_ ?_
  ·repeat refine aw ?_
   exact ai ⟨⟨[(2,.ref 0 1 0 0)],[(0,.mt 1 1 [])],1,[],0⟩,.inr (by exact Uw.wW),.inr rfl,rfl,_,_,rfl,rfl,rfl,rfl⟩
  ·repeat refine aw ?_
   exact ai ⟨_,.inl rfl,.inr rfl,rfl,_,_,rfl,rfl,rfl,rfl⟩
 ·refine aw ?_
  refine aw ?_;refine ah (by simp;omega) ?_
  repeat refine aw ?_
  refine ai ⟨_,.inl rfl,.inr rfl,rfl,_,_,rfl,rfl,rfl,?_⟩;simp [fV,ae];exact i5 (by simp)
theorem IV (k:Int) (ks vs:List Int) (oa ob oc od:Int) (hl:ks.length<1000000) (hv:vs.length=ks.length) (hp:ks.Pairwise (· < ·)) :
  Ret P0 uF [.agg [I k,ae ks,ae vs],.agg [I oa,I ob,I oc,I od]] (.tuple [.agg [I k,ae ks,ae vs],I (if iy ks oc then vs.getD (cE ks oc) 0 else 0),.bool (iy ks oc)]):=by
 have hf:=sK ks oc hl hp;have hle:=EF ks oc;have hin:iy ks oc=true->cE ks oc<ks.length:=fun h=>by
  have h:=of_decide_eq_true h;exact (Zc.1 h).1
 have hm:(vs.map fun i=>[I i]).length=vs.length:=by simp
 have hv' : ∀h:cE ks oc<vs.length,(vs.map fun i=>[I i])[((cE ks oc:Nat):Int).toNat]? = some [I vs[cE ks oc]]:=fun h=>by simp [h]
 have hg:∀h:cE ks oc<vs.length,vs.getD (cE ks oc) 0=vs[cE ks oc]:=fun h=>by simp [h]
 generalize hR:iy ks oc=R at *;generalize cE ks oc=w at *
 cases R with
 | false=>
  refine aj uG.h rfl ?_
  repeat refine aw ?_
  exact ag rfl rfl rfl rfl rfl
 | true=>
  have hw:w<vs.length:=by rw [hv];exact hin rfl
  have e:=hv' hw;rw [if_pos rfl,hg hw];clear hv' hg hin;generalize vs[w]=v at *;refine aj uG.h rfl ?_
  repeat refine aw ?_
  refine aX ⟨[(6,.d (.bool true)),(5,.d (I v)),(4,.ptr 2 0)],[(2,.var [.d (I k),.d (ae ks),.d (ae vs)])],3,[],0⟩ ?_ ?_
  ·repeat refine aw ?_
   exact ai (.inl ⟨rfl,by exact Uw.wM⟩)
  repeat refine aw ?_
  exact ag rfl rfl rfl rfl rfl
theorem IW (k:Int) (ks vs:List Int) (oa ob oc od:Int) (hl:ks.length<1000000) (hv:vs.length=ks.length) (hp:ks.Pairwise (· < ·)) :
  Ret P0 uH [.agg [I k,ae ks,ae vs],.agg [I oa,I ob,I oc,I od]] (.tuple [.agg (if iy ks oc then [I k,ae ks,ae vs] else [I k,ae (rE ks (cE ks oc) oc),ae (rE vs (cE ks oc) od)]),I 0,.bool (!iy ks oc)]):=by
 have hf:=sK ks oc hl hp;have hle:=EF ks oc;have h1:=po ks (cE ks oc) oc hl hle;have h2:=po vs (cE ks oc) od (by omega) (by omega);generalize iy ks oc=R at *;generalize cE ks oc=w at *
 cases R with
 | true=>
  refine aj qT.h rfl ?_
  repeat refine aw ?_
  exact ag rfl rfl rfl rfl rfl
 | false=>
  refine aj qT.h rfl ?_
  repeat refine aw ?_
  exact ag rfl rfl rfl rfl rfl
theorem IX (k:Int) (ks vs:List Int) (oa ob oc od:Int) (hl:ks.length<1000000) (hv:vs.length=ks.length) (hp:ks.Pairwise (· < ·)) :
  Ret P0 uI [.agg [I k,ae ks,ae vs],.agg [I oa,I ob,I oc,I od]] (.tuple [.agg (if iy ks oc then [I k,ae (sJ ks (cE ks oc)),ae (sJ vs (cE ks oc))] else [I k,ae ks,ae vs]),I 0,.bool (iy ks oc)]):=by
 have hf:=sK ks oc hl hp;have hin:iy ks oc=true->cE ks oc<ks.length:=fun h=>by
  have h:=of_decide_eq_true h;exact (Zc.1 h).1
 have h1:iy ks oc=true->Ret P0 jJ [ae ks,I (cE ks oc)] (ae (sJ ks (cE ks oc))):=fun h=>sL ks (cE ks oc) hl (hin h);have h2:iy ks oc=true->Ret P0 jJ [ae vs,I (cE ks oc)] (ae (sJ vs (cE ks oc))):=fun h=>sL vs (cE ks oc) (by omega) (by have:=hin h;omega);generalize iy ks oc=R at *;generalize cE ks oc=w at *
 cases R with
 | true=>
  have h1:=h1 rfl;have h2:=h2 rfl;refine aj qU.h rfl ?_
  repeat refine aw ?_
  exact ag rfl rfl rfl rfl rfl
 | false=>
  refine aj qU.h rfl ?_
  repeat refine aw ?_
  exact ag rfl rfl rfl rfl rfl
theorem G1 (k:Int) (ks vs:List Int) (oa ob oc od:Int) (hv:vs.length<1000000) :
  Ret P0 rY [.agg [I k,ae ks,ae vs],.agg [I oa,I ob,I oc,I od]] (.tuple [.agg [I k,.nil,ae (oc::vs)],I 0,.bool true]):=by
 have h1:=po vs 0 oc hv (ZN _);have e:rE vs 0 oc=oc::vs:=by simp [rE]
 rw [e] at h1;refine aj yc.h rfl ?_
 repeat refine aw ?_
 exact ag rfl rfl rfl rfl rfl
theorem G2 (k:Int) (ks vs:List Int) (oa ob oc od:Int) (hv:vs.length<1000000) :
  Ret P0 rZ [.agg [I k,ae ks,ae vs],.agg [I oa,I ob,I oc,I od]] (.tuple [.agg [I k,.nil,ae (vs++[oc])],I 0,.bool true]):=by
 have hm:(vs.map fun i=>[I i]).length=vs.length:=by simp
 have h1:=po vs vs.length oc hv (Ls _);have e:rE vs vs.length oc=vs++[oc]:=by simp [rE]
 rw [e,<- hm] at h1;refine aj yd.h rfl ?_
 repeat refine aw ?_
 exact ag rfl rfl rfl rfl rfl
theorem wd (k:Int) (ks vs:List Int) (oa ob oc od:Int) (hv:vs.length<1000000) :
  Ret P0 m5 [.agg [I k,ae ks,ae vs],.agg [I oa,I ob,I oc,I od]] (match vs with|[]=>.tuple [.agg [I k,ae ks,ae []],I 0,.bool false]|v::r=>.tuple [.agg [I k,.nil,ae r],I v,.bool true]):=by
 cases vs with
 | nil=>
  refine aj gG.h rfl ?_
  repeat refine aw ?_
  exact ag rfl rfl rfl rfl rfl
 | cons v r=>
  have hc:Ret P0 de [.slice 1 (List.drop (Int.toNat 1) (List.take ((((v::r).map fun i=>[I i]).length:Nat):Int).toNat ((v::r).map fun i=>[I i]))) false] (ae r):=by
   have h:=dj r (by simp at hv;omega);have e:List.drop (Int.toNat 1) (List.take ((((v::r).map fun i=>[I i]).length:Nat):Int).toNat ((v::r).map fun i=>[I i]))=r.map fun i=>[I i]:=by simp;exact i5 (by simp)
   rw [e];exact h
  refine aj gG.h rfl ?_
  repeat refine aw ?_
  refine aX ⟨[(6,.d (.bool true)),(5,.d (I v)),(4,.ptr 2 0)],[(2,.var [.d (I k),.d .nil,.d (ae r)])],3,[],0⟩ ?_ ?_
  ·repeat (first|refine aw ?_|refine au [I v] rfl ?_)
   exact ai (.inl ⟨rfl,by exact Uw.wM⟩)
  repeat refine aw ?_
  exact ag rfl rfl rfl rfl rfl
theorem zZ:Ret P0 rW [] (.agg [.nilFunc,.func uF,.func uH,.func uI,.func rY,.func m5,.func rZ,.func m5]):=by
 refine aj zG.h rfl ?_
 repeat refine aw ?_
 exact ag rfl rfl rfl rfl rfl
end Uw.Tryz
