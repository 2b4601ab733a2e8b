/- B5: Sa Xa Pa Pa2 Pa3 Pt Pu Pv Pw Ps Ta (merged by merge2.py from the working texts). -/
import Derived.Test.YtkmkjfkpnmhaiaaGreatDoorB3
import Derived.Test.YtkmkjfkpnmhaiaaGreatDoorProg
import Derived.Lib.LaidTab
import Derived.LaidSub
import Derived.MakeChecks
import Derived.Lib.ItoaNum
import Derived.KernelRfl
import Derived.Lib.Join
set_option linter.unusedSimpArgs false
set_option linter.unnecessarySimpa false
set_option linter.unusedVariables false
set_option linter.unusedSectionVars false
namespace Uw.Tryz
open Go Uw
noncomputable abbrev P0:Program:=Go.Proofs.Tryz.prog
theorem WJ:P0.globalNamed "internal/strconv.uint64pow10" = some 1:=by kernel_rfl
noncomputable instance glob:Glob where
 n:=1+1
 p:=fun w=>Lib.TabIs P0 w "internal/strconv.uint64pow10" .u64 Lib.pow10Tab
 ok:=by
  intro w w' h hp;unfold Lib.TabIs World.var? at *;rw [WJ] at hp ⊢;simp only [Option.bind_some] at hp ⊢;rw [h 1 (by decide)];exact hp
theorem gok {W:World} {l:List (String×DataW Unit)} (h:laidMetH P0 l W) (hl:(l.filter fun x=>x.1 == "internal/strconv.uint64pow10")=[("internal/strconv.uint64pow10",Lib.tabData .u64 Lib.pow10Tab)]) {t e:TypeId} (hty:(P0.globals[1]?).map (·.type)=some t) (ht:P0.underlying t=some (.array 20 e)) (he:P0.underlying e=some (.int .u64)) (hce:P0.cellsOf e=1) (hct:P0.cellsOf t=20):GOk W.heap.size W:=by
 have h1:=laidMetH.filter (fun x=>x.1 == "internal/strconv.uint64pow10") h;rw [hl,MakeChecks.laidMetH_plain _ _ _ rfl] at h1;have h2:Lib.TabIs P0 W "internal/strconv.uint64pow10" .u64 Lib.pow10Tab:=Lib.tabIs_of_head WJ hty ht he hce hct h1;refine ⟨aax _,?_,h2⟩;show 1+1<=W.heap.size;unfold Lib.TabIs World.var? at h2;rw [WJ] at h2;simp only [Option.bind_some] at h2
 rcases aa2 1 W.heap.size with h3|h3
 ·exact h3
 ·rw [abU h3] at h2
  simp at h2
end Uw.Tryz
namespace Uw.Tryz
open Go Uw
abbrev I (n:Int):Dat:=.int .i64 n
structure Tok where
 kind:Int
 text:List UInt8
 n:Int
 at_:Int
 deriving DecidableEq,Inhabited
def sE (t:Tok):List Dat:=[I t.kind,.str t.text,I t.n,I t.at_]
def wk (l:List Tok):Dat:=.slice 4 (l.map sE) false
def cls (c:UInt8):Nat:=
 if 97<=c.toNat/\c.toNat<=122\/65<=c.toNat/\c.toNat<=90 then 1
 else if 48<=c.toNat/\c.toNat<=57 then 2
 else if c.toNat=95 then 3
 else if c.toNat=9\/c.toNat=10\/c.toNat=32 then 4
 else if c.toNat=40\/c.toNat=41\/c.toNat=123\/c.toNat=125\/c.toNat=44\/c.toNat=59\/c.toNat=46\/c.toNat=61\/c.toNat=43\/c.toNat=45\/c.toNat=42\/c.toNat=60 then 5
 else 0
def nameB (c:UInt8):Bool:=decide (cls c=1)||decide (cls c=2)||decide (cls c=3)
def eG (c:UInt8):Bool:=decide (cls c=2)
def jC (l:List UInt8):Nat:=l.foldl (fun n b=>10 * n+(b.toNat - 48)) 0
def zf (r:List UInt8):Bool:=match r with|[]=>false|b::_=>decide (cls b=1)||decide (cls b=3)
def eqq (r:List UInt8):Bool:=match r with|[]=>false|b::_=>decide (b.toNat=61)
def bu:List UInt8->Option (Int×Nat×Int)
 | []=>none
 | c::t=>
  if cls c=1 then (if 1+(t.takeWhile nameB).length<=12 then some (1,1+(t.takeWhile nameB).length,0) else none)
  else if cls c=2 then
   (if 1+(t.takeWhile eG).length<=10/\¬(1<1+(t.takeWhile eG).length/\c.toNat=48)/\jC (c::t.takeWhile eG)<4294967296/\zf (t.dropWhile eG)=false
    then some (2,1+(t.takeWhile eG).length,(jC (c::t.takeWhile eG):Nat)) else none)
  else if cls c=5 then (if c.toNat=61/\eqq t=true then some (3,2,0) else some (3,1,0))
  else none
def iu:Nat->List UInt8->Int->Option (List Tok)
 | _,[],_=>some []
 | 0,_,_=>none
 | f+1,c::t,at_=>
  if cls c=4 then iu f t (at_+1)
  else match bu (c::t) with
   | none=>none
   | some (k,n,v)=>(iu f ((c::t).drop n) (at_+n)).map (⟨k,(c::t).take n,v,at_⟩::·)
def jD (r:List UInt8) (at_:Int):Option (List Tok):=iu r.length r at_
theorem mR {α:Type} (p:α->Bool) (l:List α):(l.takeWhile p).length<=l.length:=(ady (p:=p) (l:=l)).length_le
theorem ft {r:List UInt8} {k:Int} {n:Nat} {v:Int} (h:bu r=some (k,n,v)):1<=n/\n<=r.length:=by
 cases r with
 | nil=>simp [bu] at h
 | cons c t=>
  have h1:=mR nameB t;have h2:=mR eG t;rw [bu] at h;by_cases a1:cls c=1
  ·rw [if_pos a1] at h
   split at h
   ·simp at h;simp;omega
   ·cases h
  ·rw [if_neg a1] at h
   by_cases a2:cls c=2
   ·rw [if_pos a2] at h
    split at h
    ·simp only [aaP,abf] at h;simp only [aaA];omega
    ·cases h
   ·rw [if_neg a2] at h
    split at h
    ·split at h
     ·rename_i h3
      cases t with
      | nil=>simp [eqq] at h3
      | cons b u=>simp at h;simp;omega
     ·simp at h;simp;omega
    ·cases h
theorem sF:∀(f g:Nat) (r:List UInt8) (a:Int),r.length<=f->r.length<=g->iu f r a=iu g r a
 | 0,g,[],a,_,_=>by cases g<;>rfl
 | f+1,g,[],a,_,_=>by cases g<;>rfl
 | 0,_,_::_,_,h,_=>by simp at h
 | _+1,0,_::_,_,_,h=>by simp at h
 | f+1,g+1,c::t,a,h1,h2=>by
  simp only [aaA] at h1 h2;rw [iu,iu];by_cases hb:cls c=4
  ·rw [if_pos hb,if_pos hb];exact sF f g t (a+1) (by omega) (by omega)
  ·rw [if_neg hb,if_neg hb]
   cases ht:bu (c::t) with
   | none=>rfl
   | some x=>
    obtain ⟨k,n,v⟩:=x;have:=ft ht;simp only [aaA] at this;simp only;rw [sF f g ((c::t).drop n) (a+n) (by simp;omega) (by simp;omega)]
theorem Av (a:Int):jD [] a=some []:=rfl
theorem vl (c:UInt8) (t:List UInt8) (a:Int) (h:cls c=4):jD (c::t) a=jD t (a+1):=by
 rw [jD,aaA,iu,if_pos h];rfl
theorem Ej (c:UInt8) (t:List UInt8) (a:Int) (h:cls c≠4) (h2:bu (c::t)=none):jD (c::t) a=none:=by
 rw [jD,aaA,iu,if_neg h,h2]
theorem Aw (c:UInt8) (t:List UInt8) (a:Int) (h:cls c≠4) {k:Int} {n:Nat} {v:Int} (h2:bu (c::t)=some (k,n,v)):jD (c::t) a=(jD ((c::t).drop n) (a+n)).map (⟨k,(c::t).take n,v,a⟩::·):=by
 have:=ft h2;simp only [aaA] at this;rw [jD,aaA,iu,if_neg h,h2];simp only;rw [jD,sF t.length _ ((c::t).drop n) (a+n) (by simp;omega) (aax _)]
def fh (s:List UInt8):List Tok×Int:=if 4000<s.length then ([],2) else match jD s 0 with|none=>([],3)|some l=>(l,0)
def PT (x:List Tok×Int):Dat:=.tuple [wk x.1,I x.2]
end Uw.Tryz
namespace Uw.Tryz
open Go Uw
abbrev Str:=List UInt8
mutual
inductive Ex where
 | num (n:Int)
 | name (s:Str)
 | bin (k:Int) (a b:Ex)
 | call (o v:Str) (ar:Exs)
inductive Exs where
 | nil
 | cons (e:Ex) (r:Exs)
end
mutual
inductive Stm where
 | set (s:Str) (e:Ex)
 | task (par:Bool) (to f:Str) (ar:Exs)
 | sync
 | if1 (e:Ex) (a:Bl)
 | if2 (e:Ex) (a b:Bl)
 | loop (e:Ex) (a:Bl)
 | one (k:Int) (e:Ex)
 | act (o v:Str) (ar:Exs)
inductive Bl where
 | nil
 | cons (s:Stm) (r:Bl)
end
def Exs.length:Exs->Nat
 | .nil=>0
 | .cons _ r=>r.length+1
inductive R (α:Type) where
 | ok (a:α) (r:List Tok)
 | bad
 | out
def R.bind {α β:Type} (x:R α) (f:α->List Tok->R β):R β:=
 match x with
 | .ok a r=>f a r
 | .bad=>.bad
 | .out=>.out
def hd (r:List Tok):Str:=match r with|[]=>[]|t::_=>t.text
def want (s:Str) (r:List Tok):R Unit:=if hd r=s then .ok () r.tail else .bad
def kC:Str:=[99,101,108,108]
def JE:Str:=[109,97,112]
def vm:Str:=[115,116,97,99,107]
def Ax:Str:=[99,104,97,110]
def fW:Str:=[102,117,110,99]
def bT:Str:=[115,112,97,119,110]
def dZ:Str:=[112,97,114]
def jM:Str:=[115,121,110,99]
def sIf:Str:=[105,102]
def ja:Str:=[101,108,115,101]
def fX:Str:=[119,104,105,108,101]
def dW:Str:=[114,101,116,117,114,110]
def dM:Str:=[97,115,115,101,114,116]
def oI (s:Str):Bool:=decide (s=kC)||decide (s=JE)||decide (s=vm)||decide (s=Ax)||decide (s=fW)||decide (s=bT)||decide (s=dZ)||decide (s=jM)||decide (s=sIf)||decide (s=ja)||decide (s=fX)||decide (s=dW)||decide (s=dM)
def eH (k:Int) (r:List Tok):R Tok:=
 match r with
 | []=>.bad
 | t::r'=>if t.kind=k then .ok t r' else .bad
def isNum (r:List Tok):Bool:=match r with|[]=>false|t::_=>decide (t.kind=2)
def numOf (r:List Tok):Int:=match r with|[]=>0|t::_=>t.n
def dD (r:List Tok):R Str:=(eH 1 r).bind fun t r'=>if oI t.text then .bad else .ok t.text r'
mutual
def gl:Nat->List Tok->R Ex
 | 0,_=>.out
 | n+1,r=>
  if hd r=[40] then (da n r.tail).bind fun e r=>(want [41] r).bind fun _ r=>.ok e r
  else if isNum r then .ok (.num (numOf r)) r.tail
  else (dD r).bind fun s r=>if hd r=[46] then (gm n s r).bind fun x r=>.ok (.call s x.1 x.2) r else .ok (.name s) r
def gm:Nat->Str->List Tok->R (Str×Exs)
 | 0,_,_=>.out
 | n+1,s,r=>(want [46] r).bind fun _ r=>(dD r).bind fun v r=>(fY n r).bind fun ar r=>.ok (v,ar) r
def fY:Nat->List Tok->R Exs
 | 0,_=>.out
 | n+1,r=>(want [40] r).bind fun _ r=>if hd r=[41] then .ok .nil r.tail else (da n r).bind fun e r=>(dF n r).bind fun es r=>.ok (.cons e es) r
def dF:Nat->List Tok->R Exs
 | 0,_=>.out
 | n+1,r=>if hd r=[44] then (da n r.tail).bind fun e r=>(dF n r).bind fun es r=>.ok (.cons e es) r
  else (want [41] r).bind fun _ r=>.ok .nil r
def fA:Nat->List Tok->R Ex
 | 0,_=>.out
 | n+1,r=>(gl n r).bind fun e r=>dC n e r
def dC:Nat->Ex->List Tok->R Ex
 | 0,_,_=>.out
 | n+1,left,r=>if hd r=[42] then (gl n r.tail).bind fun e r=>dC n (.bin 5 left e) r else .ok left r
def j6:Nat->List Tok->R Ex
 | 0,_=>.out
 | n+1,r=>(fA n r).bind fun e r=>eI n e r
def eI:Nat->Ex->List Tok->R Ex
 | 0,_,_=>.out
 | n+1,left,r=>
  if hd r=[43] then (fA n r.tail).bind fun e r=>eI n (.bin 3 left e) r
  else if hd r=[45] then (fA n r.tail).bind fun e r=>eI n (.bin 4 left e) r
  else .ok left r
def da:Nat->List Tok->R Ex
 | 0,_=>.out
 | n+1,r=>(j6 n r).bind fun left r=>
  if hd r=[60] then (j6 n r.tail).bind fun e r=>.ok (.bin 6 left e) r
  else if hd r=[61,61] then (j6 n r.tail).bind fun e r=>.ok (.bin 7 left e) r
  else .ok left r
end
def eu (n:Nat) (to:Str) (r:List Tok):R Stm:=
 (if hd r=bT then R.ok false r.tail else (want dZ r).bind fun _ r=>.ok true r).bind fun par r=>
  (dD r).bind fun f r=>(fY n r).bind fun ar r=>if par=true/\ar.length≠2 then .bad else .ok (.task par to f ar) r
def fP (n:Nat) (r:List Tok):R Stm:=
 if hd r=bT\/hd r=dZ then eu n [] r
 else if hd r=jM then .ok .sync r.tail
 else if hd r=dW then (da n r.tail).bind fun e r=>.ok (.one 15 e) r
 else if hd r=dM then (da n r.tail).bind fun e r=>.ok (.one 16 e) r
 else (dD r).bind fun s r=>
  if hd r=[46] then (gm n s r).bind fun x r=>.ok (.act s x.1 x.2) r
  else (want [61] r).bind fun _ r=>
   if hd r=bT\/hd r=dZ then eu n s r else (da n r).bind fun e r=>.ok (.set s e) r
mutual
def gU:Nat->List Tok->R Stm
 | 0,_=>.out
 | n+1,r=>
  if hd r=sIf then (da n r.tail).bind fun e r=>(cN n r).bind fun a r=>
   if hd r=ja then (cN n r.tail).bind fun b r=>.ok (.if2 e a b) r else .ok (.if1 e a) r
  else if hd r=fX then (da n r.tail).bind fun e r=>(cN n r).bind fun a r=>.ok (.loop e a) r
  else (fP n r).bind fun s r=>(want [59] r).bind fun _ r=>.ok s r
def cN:Nat->List Tok->R Bl
 | 0,_=>.out
 | n+1,r=>(want [123] r).bind fun _ r=>cT n r
def cT:Nat->List Tok->R Bl
 | 0,_=>.out
 | n+1,r=>if hd r=[125] then .ok .nil r.tail else (gU n r).bind fun s r=>(cT n r).bind fun ss r=>.ok (.cons s ss) r
end
structure Dec where
 kind:Int
 name:Str
 n:Int
 deriving DecidableEq,Inhabited
structure Fn where
 name:Str
 args:List Str
 body:Bl
def cq:Nat->List Tok->R (List Str)
 | 0,_=>.out
 | n+1,r=>if hd r=[44] then (dD r.tail).bind fun s r=>(cq n r).bind fun l r=>.ok (s::l) r
  else (want [41] r).bind fun _ r=>.ok [] r
def je (n:Nat) (r:List Tok):R (List Str):=(want [40] r).bind fun _ r=>
 if hd r=[41] then .ok [] r.tail else (dD r).bind fun s r=>(cq n r).bind fun l r=>.ok (s::l) r
def lZ (n:Nat) (r:List Tok):R Fn:=(want fW r).bind fun _ r=>(dD r).bind fun s r=>(je n r).bind fun l r=>(cN n r).bind fun b r=>.ok ⟨s,l,b⟩ r
def kindOf (s:Str):Option Int:=if s=kC then some 0 else if s=JE then some 1 else if s=vm then some 2 else if s=Ax then some 3 else none
def mg (r:List Tok):R Dec:=(eH 1 r).bind fun t r=>match kindOf t.text with
 | none=>.bad
 | some k=>(dD r).bind fun s r=>
  (if k=0/\hd r=[61] then (eH 2 r.tail).bind fun t r=>R.ok t.n r else .ok 0 r).bind fun v r=>(want [59] r).bind fun _ r=>.ok ⟨k,s,v⟩ r
def d4:Nat->List Tok->R (List Dec)
 | 0,_=>.out
 | n+1,r=>if r=[]\/hd r=fW then .ok [] r else (mg r).bind fun d r=>(d4 n r).bind fun l r=>.ok (d::l) r
def fq:Nat->List Tok->R (List Fn)
 | 0,_=>.out
 | n+1,r=>if r=[] then .ok [] r else (lZ n r).bind fun f r=>(fq n r).bind fun l r=>.ok (f::l) r
def oS (n:Nat) (r:List Tok):R (List Dec×List Fn):=(d4 n r).bind fun d r=>(fq n r).bind fun f r=>.ok (d,f) r
structure Nod where
 kind:Int
 n:Int
 name:Str
 name2:Str
 of:List Nat
 deriving DecidableEq,Inhabited
mutual
def Ex.sz:Ex->Nat
 | .num _=>1
 | .name _=>1
 | .bin _ a b=>a.sz+b.sz+1
 | .call _ _ ar=>ar.sz+1
def Exs.sz:Exs->Nat
 | .nil=>0
 | .cons e r=>e.sz+r.sz
end
def Exs.places:Exs->Nat->List Nat
 | .nil,_=>[]
 | .cons e r,b=>(b+e.sz - 1)::r.places (b+e.sz)
mutual
def Ex.flat:Ex->Nat->List Nod
 | .num n,_=>[⟨1,n,[],[],[]⟩]
 | .name s,_=>[⟨2,0,s,[],[]⟩]
 | .bin k x y,b=>x.flat b++y.flat (b+x.sz)++[⟨k,0,[],[],[b+x.sz - 1,b+x.sz+y.sz - 1]⟩]
 | .call o v ar,b=>ar.flat b++[⟨8,0,o,v,ar.places b⟩]
def Exs.flat:Exs->Nat->List Nod
 | .nil,_=>[]
 | .cons e r,b=>e.flat b++r.flat (b+e.sz)
end
mutual
def Stm.sz:Stm->Nat
 | .set _ e=>e.sz+1
 | .task _ _ _ ar=>ar.sz+1
 | .sync=>1
 | .if1 e a=>e.sz+(a.sz+1)+1
 | .if2 e a b=>e.sz+(a.sz+1)+(b.sz+1)+1
 | .loop e a=>e.sz+(a.sz+1)+1
 | .one _ e=>e.sz+1
 | .act _ _ ar=>ar.sz+1+1
def Bl.sz:Bl->Nat
 | .nil=>0
 | .cons s r=>s.sz+r.sz
end
def Bl.places:Bl->Nat->List Nat
 | .nil,_=>[]
 | .cons s r,b=>(b+s.sz - 1)::r.places (b+s.sz)
mutual
def Stm.flat:Stm->Nat->List Nod
 | .set s e,b=>e.flat b++[⟨9,0,s,[],[b+e.sz - 1]⟩]
 | .task par to f ar,b=>ar.flat b++[⟨if par then 11 else 10,0,to,f,ar.places b⟩]
 | .sync,b=>[⟨12,0,[],[],[]⟩]
 | .if1 e x,b=>e.flat b++(x.flat (b+e.sz)++[⟨18,0,[],[],x.places (b+e.sz)⟩])++[⟨13,0,[],[],[b+e.sz - 1,b+e.sz+(x.sz+1) - 1]⟩]
 | .if2 e x y,b=>e.flat b++(x.flat (b+e.sz)++[⟨18,0,[],[],x.places (b+e.sz)⟩])++(y.flat (b+e.sz+(x.sz+1))++[⟨18,0,[],[],y.places (b+e.sz+(x.sz+1))⟩])++[⟨13,0,[],[],[b+e.sz - 1,b+e.sz+(x.sz+1) - 1,b+e.sz+(x.sz+1)+(y.sz+1) - 1]⟩]
 | .loop e x,b=>e.flat b++(x.flat (b+e.sz)++[⟨18,0,[],[],x.places (b+e.sz)⟩])++[⟨14,0,[],[],[b+e.sz - 1,b+e.sz+(x.sz+1) - 1]⟩]
 | .one k e,b=>e.flat b++[⟨k,0,[],[],[b+e.sz - 1]⟩]
 | .act o v ar,b=>ar.flat b++[⟨8,0,o,v,ar.places b⟩]++[⟨17,0,[],[],[b+ar.sz+1 - 1]⟩]
def Bl.flat:Bl->Nat->List Nod
 | .nil,_=>[]
 | .cons s r,b=>s.flat b++r.flat (b+s.sz)
end
def Bl.all (x:Bl) (b:Nat):List Nod:=x.flat b++[⟨18,0,[],[],x.places b⟩]
mutual
theorem Ex.au:∀(e:Ex) (b:Nat),(e.flat b).length=e.sz
 | .num _,_=>rfl
 | .name _,_=>rfl
 | .bin k x y,b=>by simp [Ex.flat,Ex.sz,Ex.au x,Ex.au y];omega
 | .call o v ar,b=>by simp [Ex.flat,Ex.sz,Exs.au ar]
theorem Exs.au:∀(e:Exs) (b:Nat),(e.flat b).length=e.sz
 | .nil,_=>rfl
 | .cons e r,b=>by simp [Exs.flat,Exs.sz,Ex.au e,Exs.au r]
end
mutual
theorem Stm.au:∀(e:Stm) (b:Nat),(e.flat b).length=e.sz
 | .set s e,b=>by simp [Stm.flat,Stm.sz,Ex.au]
 | .task par to f ar,b=>by simp [Stm.flat,Stm.sz,Exs.au]
 | .sync,b=>rfl
 | .if1 e x,b=>by simp [Stm.flat,Stm.sz,Ex.au,Bl.au x];omega
 | .if2 e x y,b=>by simp [Stm.flat,Stm.sz,Ex.au,Bl.au x,Bl.au y];omega
 | .loop e x,b=>by simp [Stm.flat,Stm.sz,Ex.au,Bl.au x];omega
 | .one k e,b=>by simp [Stm.flat,Stm.sz,Ex.au]
 | .act o v ar,b=>by simp [Stm.flat,Stm.sz,Exs.au]
theorem Bl.au:∀(e:Bl) (b:Nat),(e.flat b).length=e.sz
 | .nil,_=>rfl
 | .cons s r,b=>by simp [Bl.flat,Bl.sz,Stm.au s,Bl.au r]
end
theorem Bl.hP (x:Bl) (b:Nat):(x.all b).length=x.sz+1:=by simp [Bl.all,Bl.au]
mutual
theorem Ex.dS:∀(e:Ex),1<=e.sz
 | .num _=>aax _
 | .name _=>aax _
 | .bin _ a b=>by rw [Ex.sz];omega
 | .call _ _ ar=>by rw [Ex.sz];omega
end
theorem Stm.dS (s:Stm):1<=s.sz:=by cases s<;>simp only [Stm.sz]<;>omega
end Uw.Tryz
namespace Uw.Tryz
open Go Uw
theorem bind_ok {α β:Type} {x:R α} {f:α->List Tok->R β} {b:β} {r:List Tok}:x.bind f = .ok b r<->∃a r1,x = .ok a r1/\f a r1 = .ok b r:=by
 cases x with
 | ok a r1=>exact ⟨fun h=>⟨a,r1,rfl,h⟩,fun ⟨_,_,h1,h2⟩=>by injection h1 with e1 e2;subst e1 e2;exact h2⟩
 | bad=>exact ⟨fun h=>(by cases h),fun ⟨_,_,h,_⟩=>(by cases h)⟩
 | out=>exact ⟨fun h=>(by cases h),fun ⟨_,_,h,_⟩=>(by cases h)⟩
def Suf (r r' : List Tok) (s:Nat):Prop:=∃j,j<=r.length/\r' = r.drop j/\s<=j
theorem Suf.refl (r:List Tok):Suf r r 0:=⟨0,by simp,rfl,aax _⟩
theorem Suf.trans {a b c:List Tok} {s t:Nat} (h1:Suf a b s) (h2:Suf b c t):Suf a c (s+t):=by
 obtain ⟨i,i1,rfl,i3⟩:=h1;obtain ⟨j,j1,rfl,j3⟩:=h2;simp at j1;exact ⟨i+j,by omega,by rw [ach],by omega⟩
theorem Suf.le {a b:List Tok} {s t:Nat} (h:Suf a b s) (hl:t<=s):Suf a b t:=by
 obtain ⟨i,i1,i2,i3⟩:=h;exact ⟨i,i1,i2,by omega⟩
theorem Suf.tail {r:List Tok} (h:r≠[]):Suf r r.tail 1:=by
 cases r with
 | nil=>exact absurd rfl h
 | cons a l=>exact ⟨1,by simp,rfl,aax _⟩
theorem Ys {r:List Tok} {s:Str} (h:hd r=s) (hs:s≠[]):r≠[]:=by
 rintro rfl;exact hs h.symm
theorem Suf.hd {r:List Tok} {s:Str} (h:hd r=s) (hs:s≠[]):Suf r r.tail 1:=Suf.tail (Ys h hs)
theorem mS {s:Str} {r r' : List Tok} {u:Unit} (h:want s r = .ok u r'):Uw.Tryz.hd r=s/\r' = r.tail:=by
 rw [want] at h
 split at h
 ·rename_i hh
  injection h with _ h
  exact ⟨hh,h.symm⟩
 ·cases h
theorem mT {k:Int} {r r' : List Tok} {t:Tok} (h:eH k r = .ok t r'):∃q,r=t::q/\r' = q/\t.kind=k:=by
 cases r with
 | nil=>rw [eH] at h;cases h
 | cons a q=>
  rw [eH] at h
  split at h
  ·rename_i hk
   injection h with h1 h2
   subst h1 h2;exact ⟨q,rfl,rfl,hk⟩
  ·cases h
theorem mU {r r' : List Tok} {s:Str} (h:dD r = .ok s r'):∃t,r=t::r'/\s=t.text/\t.kind=1/\oI t.text=false:=by
 rw [dD,bind_ok] at h;obtain ⟨t,r1,h1,h2⟩:=h;obtain ⟨q,rfl,rfl,hk⟩:=mT h1
 split at h2
 ·cases h2
 ·rename_i hkw
  injection h2 with e1 e2
  subst e1 e2;exact ⟨t,rfl,rfl,hk,by simpa using hkw⟩
theorem Suf.name {r r' : List Tok} {s:Str} (h:dD r = .ok s r'):Suf r r' 1:=by
 obtain ⟨t,rfl,_⟩:=mU h;exact ⟨1,by simp,rfl,aax _⟩
theorem Suf.want {s:Str} (hs:s≠[]) {r r' : List Tok} {u:Unit} (h:want s r = .ok u r'):Suf r r' 1:=by
 obtain ⟨h1,rfl⟩:=mS h;exact Suf.hd h1 hs
structure Zg (n:Nat):Prop where
 pK:∀r e r',gl n r = .ok e r'->Suf r r' e.sz
 call:∀s r x r',gm n s r = .ok x r'->Suf r r' (x.2.sz+1)
 args:∀r x r',fY n r = .ok x r'->Suf r r' (x.sz+1)
 qj:∀r x r',dF n r = .ok x r'->Suf r r' x.sz
 prod:∀r e r',fA n r = .ok e r'->Suf r r' e.sz
 oU:∀l r e r',dC n l r = .ok e r'->Suf r r' (e.sz - l.sz)/\l.sz<=e.sz
 sum:∀r e r',j6 n r = .ok e r'->Suf r r' e.sz
 sumT:∀l r e r',eI n l r = .ok e r'->Suf r r' (e.sz - l.sz)/\l.sz<=e.sz
 expr:∀r e r',da n r = .ok e r'->Suf r r' e.sz
theorem fj:∀n,Zg n
 | 0=>by
  refine ⟨?_,?_,?_,?_,?_,?_,?_,?_,?_⟩
  ·intro _ _ _ h;rw [gl] at h;cases h
  ·intro _ _ _ _ h;rw [gm] at h;cases h
  ·intro _ _ _ h;rw [fY] at h;cases h
  ·intro _ _ _ h;rw [dF] at h;cases h
  ·intro _ _ _ h;rw [fA] at h;cases h
  ·intro _ _ _ _ h;rw [dC] at h;cases h
  ·intro _ _ _ h;rw [j6] at h;cases h
  ·intro _ _ _ _ h;rw [eI] at h;cases h
  ·intro _ _ _ h;rw [da] at h;cases h
 | n+1=>by
  have ih:=fj n;refine ⟨?_,?_,?_,?_,?_,?_,?_,?_,?_⟩
  ·intro r e r' h
   rw [gl] at h
   split at h
   ·rename_i hh
    obtain ⟨e1,r1,h1,h⟩:=bind_ok.1 h;obtain ⟨_,r2,h2,h⟩:=bind_ok.1 h;injection h with h3 h4
    subst h3 h4;exact ((Suf.hd hh (by simp)).trans ((ih.expr _ _ _ h1).trans (Suf.want (by simp) h2))).le (by omega)
   ·split at h
    ·rename_i hn
     injection h with h1 h2
     subst h1 h2;exact (Suf.tail (by rintro rfl;cases hn)).le (by simp [Ex.sz])
    ·obtain ⟨s,r1,h1,h⟩:=bind_ok.1 h
     have s1:=Suf.name h1
     split at h
     ·obtain ⟨x,r2,h2,h⟩:=bind_ok.1 h
      injection h with h3 h4
      subst h3 h4;exact (s1.trans (ih.call _ _ _ _ h2)).le (by rw [Ex.sz];omega)
     ·injection h with h3 h4
      subst h3 h4;exact s1.le (by simp [Ex.sz])
  ·intro s r x r' h
   rw [gm] at h;obtain ⟨_,r1,h1,h⟩:=bind_ok.1 h;obtain ⟨v,r2,h2,h⟩:=bind_ok.1 h;obtain ⟨ar,r3,h3,h⟩:=bind_ok.1 h;injection h with h4 h5
   subst h4 h5;exact ((Suf.want (by simp) h1).trans ((Suf.name h2).trans (ih.args _ _ _ h3))).le (by simp only;omega)
  ·intro r x r' h
   rw [fY] at h;obtain ⟨_,r1,h1,h⟩:=bind_ok.1 h;have s1:=Suf.want (by simp) h1
   split at h
   ·rename_i hh
    injection h with h4 h5
    subst h4 h5;exact (s1.trans (Suf.hd hh (by simp))).le (by simp [Exs.sz])
   ·obtain ⟨e,r2,h2,h⟩:=bind_ok.1 h
    obtain ⟨es,r3,h3,h⟩:=bind_ok.1 h;injection h with h4 h5
    subst h4 h5;exact (s1.trans ((ih.expr _ _ _ h2).trans (ih.qj _ _ _ h3))).le (by rw [Exs.sz];omega)
  ·intro r x r' h
   rw [dF] at h
   split at h
   ·rename_i hh
    obtain ⟨e,r2,h2,h⟩:=bind_ok.1 h;obtain ⟨es,r3,h3,h⟩:=bind_ok.1 h;injection h with h4 h5
    subst h4 h5;exact ((Suf.hd hh (by simp)).trans ((ih.expr _ _ _ h2).trans (ih.qj _ _ _ h3))).le (by rw [Exs.sz];omega)
   ·obtain ⟨_,r1,h1,h⟩:=bind_ok.1 h
    injection h with h4 h5
    subst h4 h5;exact (Suf.want (by simp) h1).le (by simp [Exs.sz])
  ·intro r e r' h
   rw [fA] at h;obtain ⟨e1,r1,h1,h⟩:=bind_ok.1 h;obtain ⟨a1,a2⟩:=ih.oU _ _ _ _ h;exact ((ih.pK _ _ _ h1).trans a1).le (by omega)
  ·intro l r e r' h
   rw [dC] at h
   split at h
   ·rename_i hh
    obtain ⟨e1,r1,h1,h⟩:=bind_ok.1 h;obtain ⟨a1,a2⟩:=ih.oU _ _ _ _ h;rw [Ex.sz] at a1 a2;exact ⟨((Suf.hd hh (by simp)).trans ((ih.pK _ _ _ h1).trans a1)).le (by omega),by omega⟩
   ·injection h with h4 h5
    subst h4 h5;exact ⟨(Suf.refl _).le (by omega),aax _⟩
  ·intro r e r' h
   rw [j6] at h;obtain ⟨e1,r1,h1,h⟩:=bind_ok.1 h;obtain ⟨a1,a2⟩:=ih.sumT _ _ _ _ h;exact ((ih.prod _ _ _ h1).trans a1).le (by omega)
  ·intro l r e r' h
   rw [eI] at h
   split at h
   ·rename_i hh
    obtain ⟨e1,r1,h1,h⟩:=bind_ok.1 h;obtain ⟨a1,a2⟩:=ih.sumT _ _ _ _ h;rw [Ex.sz] at a1 a2;exact ⟨((Suf.hd hh (by simp)).trans ((ih.prod _ _ _ h1).trans a1)).le (by omega),by omega⟩
   ·split at h
    ·rename_i hh
     obtain ⟨e1,r1,h1,h⟩:=bind_ok.1 h;obtain ⟨a1,a2⟩:=ih.sumT _ _ _ _ h;rw [Ex.sz] at a1 a2;exact ⟨((Suf.hd hh (by simp)).trans ((ih.prod _ _ _ h1).trans a1)).le (by omega),by omega⟩
    ·injection h with h4 h5
     subst h4 h5;exact ⟨(Suf.refl _).le (by omega),aax _⟩
  ·intro r e r' h
   rw [da] at h;obtain ⟨e1,r1,h1,h⟩:=bind_ok.1 h;have s1:=ih.sum _ _ _ h1
   split at h
   ·rename_i hh
    obtain ⟨e2,r2,h2,h⟩:=bind_ok.1 h;injection h with h4 h5
    subst h4 h5;exact (s1.trans ((Suf.hd hh (by simp)).trans (ih.sum _ _ _ h2))).le (by rw [Ex.sz];omega)
   ·split at h
    ·rename_i hh
     obtain ⟨e2,r2,h2,h⟩:=bind_ok.1 h;injection h with h4 h5
     subst h4 h5;exact (s1.trans ((Suf.hd hh (by simp)).trans (ih.sum _ _ _ h2))).le (by rw [Ex.sz];omega)
    ·injection h with h4 h5
     subst h4 h5;exact s1
end Uw.Tryz
namespace Uw.Tryz
open Go Uw
theorem qk {n:Nat} {to:Str} {r r' : List Tok} {s:Stm} (h:eu n to r = .ok s r'):Suf r r' s.sz:=by
 rw [eu] at h;obtain ⟨p,r1,h1,h⟩:=bind_ok.1 h;obtain ⟨f,r2,h2,h⟩:=bind_ok.1 h;obtain ⟨ar,r3,h3,h⟩:=bind_ok.1 h;have s1:Suf r r1 1:=by
  split at h1
  ·rename_i hh
   injection h1 with _ e
   subst e;exact Suf.hd hh (by decide)
  ·obtain ⟨_,r4,h4,h5⟩:=bind_ok.1 h1
   injection h5 with _ e
   subst e;exact Suf.want (by decide) h4
 split at h
 ·cases h
 ·injection h with e1 e2
  subst e1 e2;exact (s1.trans ((Suf.name h2).trans ((fj n).args _ _ _ h3))).le (by rw [Stm.sz];omega)
theorem Az {n:Nat} {r r' : List Tok} {s:Stm} (h:fP n r = .ok s r'):Suf r r' s.sz:=by
 rw [fP] at h
 split at h
 ·exact qk h
 ·split at h
  ·rename_i hh
   injection h with e1 e2
   subst e1 e2;exact Suf.hd hh (by decide)
  ·split at h
   ·rename_i hh
    obtain ⟨e,r1,h1,h⟩:=bind_ok.1 h;injection h with e1 e2
    subst e1 e2;exact ((Suf.hd hh (by decide)).trans ((fj n).expr _ _ _ h1)).le (by rw [Stm.sz];omega)
   ·split at h
    ·rename_i hh
     obtain ⟨e,r1,h1,h⟩:=bind_ok.1 h;injection h with e1 e2
     subst e1 e2;exact ((Suf.hd hh (by decide)).trans ((fj n).expr _ _ _ h1)).le (by rw [Stm.sz];omega)
    ·obtain ⟨nm,r1,h1,h⟩:=bind_ok.1 h
     split at h
     ·obtain ⟨x,r2,h2,h⟩:=bind_ok.1 h
      injection h with e1 e2
      subst e1 e2;exact ((Suf.name h1).trans ((fj n).call _ _ _ _ h2)).le (by rw [Stm.sz];omega)
     ·obtain ⟨_,r2,h2,h⟩:=bind_ok.1 h
      have s2:=(Suf.name h1).trans (Suf.want (by decide) h2)
      split at h
      ·exact (s2.trans (qk h)).le (by omega)
      ·obtain ⟨e,r3,h3,h⟩:=bind_ok.1 h
       injection h with e1 e2
       subst e1 e2;exact (s2.trans ((fj n).expr _ _ _ h3)).le (by rw [Stm.sz];omega)
structure Zh (n:Nat):Prop where
 stmt:∀r s r',gU n r = .ok s r'->Suf r r' s.sz
 block:∀r s r',cN n r = .ok s r'->Suf r r' (s.sz+1)
 stmts:∀r s r',cT n r = .ok s r'->Suf r r' s.sz
theorem oV:∀n,Zh n
 | 0=>by
  refine ⟨?_,?_,?_⟩
  ·intro _ _ _ h;rw [gU] at h;cases h
  ·intro _ _ _ h;rw [cN] at h;cases h
  ·intro _ _ _ h;rw [cT] at h;cases h
 | n+1=>by
  have ih:=oV n;refine ⟨?_,?_,?_⟩
  ·intro r s r' h
   rw [gU] at h
   split at h
   ·rename_i hh
    obtain ⟨e,r1,h1,h⟩:=bind_ok.1 h;obtain ⟨a,r2,h2,h⟩:=bind_ok.1 h;have s2:=(Suf.hd hh (by decide)).trans (((fj n).expr _ _ _ h1).trans (ih.block _ _ _ h2))
    split at h
    ·rename_i hh2
     obtain ⟨b,r3,h3,h⟩:=bind_ok.1 h;injection h with e1 e2
     subst e1 e2;exact (s2.trans ((Suf.hd hh2 (by decide)).trans (ih.block _ _ _ h3))).le (by rw [Stm.sz];omega)
    ·injection h with e1 e2
     subst e1 e2;exact s2.le (by rw [Stm.sz];omega)
   ·split at h
    ·rename_i hh
     obtain ⟨e,r1,h1,h⟩:=bind_ok.1 h;obtain ⟨a,r2,h2,h⟩:=bind_ok.1 h;injection h with e1 e2
     subst e1 e2;exact ((Suf.hd hh (by decide)).trans (((fj n).expr _ _ _ h1).trans (ih.block _ _ _ h2))).le (by rw [Stm.sz];omega)
    ·obtain ⟨e,r1,h1,h⟩:=bind_ok.1 h
     obtain ⟨_,r2,h2,h⟩:=bind_ok.1 h;injection h with e1 e2
     subst e1 e2;exact ((Az h1).trans (Suf.want (by decide) h2)).le (by omega)
  ·intro r s r' h
   rw [cN] at h;obtain ⟨_,r1,h1,h⟩:=bind_ok.1 h;exact ((Suf.want (by decide) h1).trans (ih.stmts _ _ _ h)).le (by omega)
  ·intro r s r' h
   rw [cT] at h
   split at h
   ·rename_i hh
    injection h with e1 e2
    subst e1 e2;exact (Suf.hd hh (by decide)).le (by simp [Bl.sz])
   ·obtain ⟨e,r1,h1,h⟩:=bind_ok.1 h
    obtain ⟨ss,r2,h2,h⟩:=bind_ok.1 h;injection h with e1 e2
    subst e1 e2;exact ((ih.stmt _ _ _ h1).trans (ih.stmts _ _ _ h2)).le (by rw [Bl.sz];omega)
end Uw.Tryz
namespace Uw.Tryz
open Go Uw
def dL {α:Type} (a:α):List Tok->R α:=fun r=>.ok a r
def JF {α:Type}:List Tok->R α:=fun _=>.bad
def cI {α β:Type} (p:List Tok->R β) (f:β->List Tok->R α):List Tok->R α:=fun r=>(p r).bind f
def gp {α:Type} (s:Str) (p:List Tok->R α):List Tok->R α:=fun r=>(want s r).bind fun _ r=>p r
def ei {α:Type} (s:Str) (p q:List Tok->R α):List Tok->R α:=fun r=>if hd r=s then p r.tail else q r
def hQ {α:Type} (s:Str) (p q:List Tok->R α):List Tok->R α:=fun r=>if hd r=s then p r else q r
def cName {α:Type} (f:Str->List Tok->R α):List Tok->R α:=fun r=>(dD r).bind f
def AA {α:Type} (k:Int) (f:Str->Int->List Tok->R α):List Tok->R α:=fun r=>(eH k r).bind fun t r=>f t.text t.n r
def wm {α:Type} (f:Int->List Tok->R α) (q:List Tok->R α):List Tok->R α:=fun r=>if isNum r then f (numOf r) r.tail else q r
theorem lA (n:Nat):gl (n+1)=ei [40] (cI (da n) fun e=>gp [41] (dL e)) (wm (fun v=>dL (.num v)) (cName fun s=>hQ [46] (cI (gm n s) fun x=>dL (.call s x.1 x.2)) (dL (.name s)))):=by
 funext r;rw [gl];rfl
theorem ql (n:Nat) (s:Str):gm (n+1) s=gp [46] (cName fun v=>cI (fY n) fun ar=>dL (v,ar)):=by
 funext r;rw [gm];rfl
theorem qm (n:Nat):fY (n+1)=gp [40] (ei [41] (dL .nil) (cI (da n) fun e=>cI (dF n) fun es=>dL (.cons e es))):=by
 funext r;rw [fY];rfl
theorem nh (n:Nat):dF (n+1)=ei [44] (cI (da n) fun e=>cI (dF n) fun es=>dL (.cons e es)) (gp [41] (dL .nil)):=by
 funext r;rw [dF];rfl
theorem sG (n:Nat):fA (n+1)=cI (gl n) fun e=>dC n e:=by funext r;rw [fA];rfl
theorem ni (n:Nat) (l:Ex):dC (n+1) l=ei [42] (cI (gl n) fun e=>dC n (.bin 5 l e)) (dL l):=by funext r;rw [dC];rfl
theorem wn (n:Nat):j6 (n+1)=cI (fA n) fun e=>eI n e:=by funext r;rw [j6];rfl
theorem nM (n:Nat) (l:Ex):eI (n+1) l=ei [43] (cI (fA n) fun e=>eI n (.bin 3 l e)) (ei [45] (cI (fA n) fun e=>eI n (.bin 4 l e)) (dL l)):=by funext r;rw [eI];rfl
theorem nN (n:Nat):da (n+1)=cI (j6 n) fun l=>ei [60] (cI (j6 n) fun e=>dL (.bin 6 l e)) (ei [61,61] (cI (j6 n) fun e=>dL (.bin 7 l e)) (dL l)):=by funext r;rw [da];rfl
theorem nj (n:Nat) (to:Str):eu n to=cI (ei bT (dL false) (gp dZ (dL true))) fun par=>cName fun f=>cI (fY n) fun ar=>if par=true/\ar.length≠2 then JF else dL (.task par to f ar):=by
 funext r
 rw [eu];show R.bind _ _=R.bind _ _
 congr 1
 funext par r
 show R.bind _ _=R.bind _ _
 congr 1
 funext f r
 show R.bind _ _=R.bind _ _
 congr 1
 funext ar r
 split<;>rfl
theorem ew (n:Nat):fP n=hQ bT (eu n []) (hQ dZ (eu n []) (ei jM (dL .sync) (ei dW (cI (da n) fun e=>dL (.one 15 e)) (ei dM (cI (da n) fun e=>dL (.one 16 e))
  (cName fun s=>hQ [46] (cI (gm n s) fun x=>dL (.act s x.1 x.2)) (gp [61] (hQ bT (eu n s) (hQ dZ (eu n s) (cI (da n) fun e=>dL (.set s e)))))))))):=by
 have key:∀{α:Type} (a b:Prop) [Decidable a] [Decidable b] (x y:α),(if a\/b then x else y)=if a then x else if b then x else y:=by
  intro α a b _ _ x y;by_cases ha:a<;>by_cases hb:b<;>simp [ha,hb]
 funext r
 rw [fP,key];show _=if hd r=bT then _ else if hd r=dZ then _ else if hd r=jM then _ else if hd r=dW then _ else if hd r=dM then _ else R.bind _ _
 congr 6
 funext s r
 show _=if hd r=[46] then _ else R.bind _ _
 congr 2
 funext _ r
 rw [key];rfl
theorem lB (n:Nat):gU (n+1)=ei sIf (cI (da n) fun e=>cI (cN n) fun a=>ei ja (cI (cN n) fun b=>dL (.if2 e a b)) (dL (.if1 e a))) (ei fX (cI (da n) fun e=>cI (cN n) fun a=>dL (.loop e a)) (cI (fP n) fun s=>gp [59] (dL s))):=by
 funext r;rw [gU];rfl
theorem qn (n:Nat):cN (n+1)=gp [123] (cT n):=by funext r;rw [cN];rfl
theorem nk (n:Nat):cT (n+1)=ei [125] (dL .nil) (cI (gU n) fun s=>cI (cT n) fun ss=>dL (.cons s ss)):=by funext r;rw [cT];rfl
theorem kP (n:Nat):cq (n+1)=ei [44] (cName fun s=>cI (cq n) fun l=>dL (s::l)) (gp [41] (dL [])):=by funext r;rw [cq];rfl
theorem np (n:Nat):je n=gp [40] (ei [41] (dL []) (cName fun s=>cI (cq n) fun l=>dL (s::l))):=by funext r;rw [je];rfl
theorem tL (n:Nat):lZ n=gp fW (cName fun s=>cI (je n) fun l=>cI (cN n) fun b=>dL ⟨s,l,b⟩):=by funext r;rw [lZ];rfl
def j7 (t:Str):List Tok->R Dec:=
 match kindOf t with
 | none=>JF
 | some k=>cName fun s=>if k=0 then ei [61] (AA 2 fun _ n=>gp [59] (dL ⟨k,s,n⟩)) (gp [59] (dL ⟨k,s,0⟩)) else gp [59] (dL ⟨k,s,0⟩)
theorem nO:mg=AA 1 fun t _=>j7 t:=by
 funext r
 rw [mg];show R.bind _ _=R.bind _ _
 congr 1
 funext t r
 show _=j7 t.text r;unfold j7
 cases kindOf t.text with
 | none=>rfl
 | some k=>
  show R.bind _ _=R.bind _ _
  congr 1
  funext s r
  by_cases hk:k=0
  ·rw [if_pos hk]
   by_cases h:hd r=[61]
   ·rw [if_pos ⟨hk,h⟩]
    show _=if hd r=[61] then R.bind _ _ else _
    rw [if_pos h]
    cases eH 2 r.tail<;>rfl
   ·rw [if_neg (fun x=>h x.2)]
    show _=if hd r=[61] then R.bind _ _ else _
    rw [if_neg h];rfl
  ·rw [if_neg hk,if_neg (fun x=>hk x.1)]
   rfl
def wo {α:Type} (p:List Tok->R α):Prop:=∀r a r',p r = .ok a r'->r'.length<r.length
def delta (s:Str):Int:=if s=[40]\/s=[123] then 1 else if s=[41]\/s=[125] then -1 else 0
inductive IsP:{α:Type}->Int->(List Tok->R α)->(List Tok->R α)->Prop
 | out {α:Type} {d:Int} {q:List Tok->R α}:IsP d (fun _=>.out) q
 | bad {α:Type} {d:Int}:IsP d (JF (α:=α)) JF
 | ret {α:Type} (a:α):IsP 0 (dL a) (dL a)
 | bind {α β:Type} {d e g:Int} {p p' : List Tok->R β} {f f' : β->List Tok->R α}:IsP d p p'->(∀b,IsP e (f b) (f' b))->g=d+e->IsP g (cI p f) (cI p' f')
 | want {α:Type} {d g:Int} {s:Str} {p p' : List Tok->R α}:s≠[]->IsP d p p'->g=delta s+d->IsP g (gp s p) (gp s p')
 | skip {α:Type} {d g:Int} {s:Str} {p p' q q' : List Tok->R α}:s≠[]->(s≠[41]\/wo q)->IsP d p p'->IsP g q q'->g=delta s+d->IsP g (ei s p q) (ei s p' q')
 | peek {α:Type} {d:Int} {s:Str} {p p' q q' : List Tok->R α}:s≠[41]->wo p->IsP d p p'->IsP d q q'->IsP d (hQ s p q) (hQ s p' q')
 | name {α:Type} {d:Int} {f f' : Str->List Tok->R α}:(∀b,IsP d (f b) (f' b))->IsP d (cName f) (cName f')
 | word {α:Type} {d:Int} {k:Int} {f f' : Str->Int->List Tok->R α}:k≠3->(∀b n,IsP d (f b n) (f' b n))->IsP d (AA k f) (AA k f')
 | num {α:Type} {d:Int} {f f' : Int->List Tok->R α} {q q' : List Tok->R α}:wo q->(∀b,IsP d (f b) (f' b))->IsP d q q'->IsP d (wm f q) (wm f' q')
theorem zB {α β:Type} {x y:R β} {f g:β->List Tok->R α} (h:x = .out\/x=y) (hf:∀b r,f b r = .out\/f b r=g b r):x.bind f = .out\/x.bind f=y.bind g:=by
 rcases h with rfl|rfl
 ·exact .inl rfl
 ·cases x with
  | ok a r=>exact hf a r
  | bad=>exact .inr rfl
  | out=>exact .inl rfl
theorem IsP.le {α:Type} {d:Int} {p q:List Tok->R α} (h:IsP d p q):∀r,p r = .out\/p r=q r:=by
 induction h with
 | out=>exact fun r=>.inl rfl
 | bad=>exact fun r=>.inr rfl
 | ret=>exact fun r=>.inr rfl
 | bind _ _ _ ih1 ih2=>exact fun r=>zB (ih1 r) ih2
 | want _ _ _ ih=>exact fun r=>zB (.inr rfl) fun _ r=>ih r
 | skip _ _ _ _ _ ih1 ih2=>
  intro r;unfold ei
  split
  ·exact ih1 _
  ·exact ih2 _
 | peek _ _ _ _ ih1 ih2=>
  intro r;unfold hQ
  split
  ·exact ih1 _
  ·exact ih2 _
 | name _ ih=>exact fun r=>zB (.inr rfl) ih
 | word _ _ ih=>exact fun r=>zB (.inr rfl) fun t r=>ih t.text t.n r
 | num _ _ _ ih1 ih2=>
  intro r;unfold wm
  split
  ·exact ih1 _ _
  ·exact ih2 _
theorem ia {r:List Tok} {s:Str} (h:hd r=s) (hs:s≠[]):∃t,r=t::r.tail/\t.text=s:=by
 cases r with
 | nil=>exact absurd h.symm hs
 | cons a l=>exact ⟨a,rfl,h⟩
theorem IsP.pre {α:Type} {d:Int} {p q:List Tok->R α} (h:IsP d p q):∀r a r',p r = .ok a r'->∃c,r=c++r':=by
 induction h with
 | out=>intro r a r' h;cases h
 | bad=>intro r a r' h;cases h
 | ret=>intro r a r' h;injection h with _ h;exact ⟨[],by rw [h];rfl⟩
 | bind _ _ _ ih1 ih2=>
  intro r a r' h;obtain ⟨b,r1,h1,h2⟩:=bind_ok.1 h;obtain ⟨c1,rfl⟩:=ih1 _ _ _ h1;obtain ⟨c2,rfl⟩:=ih2 _ _ _ _ h2;exact ⟨c1++c2,by simp⟩
 | want hs _ _ ih=>
  intro r a r' h;obtain ⟨b,r1,h1,h2⟩:=bind_ok.1 h;obtain ⟨hh,rfl⟩:=mS h1;obtain ⟨t,ht,_⟩:=ia hh hs;obtain ⟨c2,h3⟩:=ih _ _ _ h2;exact ⟨t::c2,by rw [ht,h3];rfl⟩
 | skip hs _ _ _ _ ih1 ih2=>
  intro r a r' h;unfold ei at h
  split at h
  ·rename_i hh
   obtain ⟨t,ht,_⟩:=ia hh hs;obtain ⟨c2,h3⟩:=ih1 _ _ _ h;exact ⟨t::c2,by rw [ht,h3];rfl⟩
  ·exact ih2 _ _ _ h
 | peek _ _ _ _ ih1 ih2=>
  intro r a r' h;unfold hQ at h
  split at h
  ·exact ih1 _ _ _ h
  ·exact ih2 _ _ _ h
 | name _ ih=>
  intro r a r' h;obtain ⟨b,r1,h1,h2⟩:=bind_ok.1 h;obtain ⟨t,rfl,_⟩:=mU h1;obtain ⟨c,rfl⟩:=ih _ _ _ _ h2;exact ⟨t::c,rfl⟩
 | word _ _ ih=>
  intro r a r' h;obtain ⟨b,r1,h1,h2⟩:=bind_ok.1 h;obtain ⟨q,rfl,rfl,_⟩:=mT h1;obtain ⟨c,rfl⟩:=ih _ _ _ _ _ h2;exact ⟨b::c,rfl⟩
 | num _ _ _ ih1 ih2=>
  intro r a r' h;unfold wm at h
  split at h
  ·rename_i hn
   obtain ⟨c,h3⟩:=ih1 _ _ _ _ h
   cases r with
   | nil=>cases hn
   | cons t l=>exact ⟨t::c,by rw [List.tail_cons] at h3;rw [h3];rfl⟩
  ·exact ih2 _ _ _ h
theorem vn (c r r2:List Tok) (hc:c≠[]):hd (c++r)=hd (c++r2):=by
 cases c with
 | nil=>exact absurd rfl hc
 | cons a l=>rfl
theorem IsP.Yt {α:Type} {d:Int} {p q:List Tok->R α} (h:IsP d p q):∀c a r',p (c++r') = .ok a r'->∀r2,(hd r2=hd r'\/hd r2=[41])->p (c++r2) = .ok a r2:=by
 induction h with
 | out=>intro c a r' h;cases h
 | bad=>intro c a r' h;cases h
 | ret x=>
  intro c a r' h r2 _;unfold dL at h ⊢;injection h with h1 h
  have:c=[]:=by
   have:=congrArg List.length h;simp at this;exact this
  subst this h1;rfl
 | bind hp hf _ ih1 ih2=>
  intro c a r' h r2 hr;obtain ⟨b,r1,h1,h2⟩:=bind_ok.1 h;obtain ⟨c1,e1⟩:=hp.pre _ _ _ h1;obtain ⟨c2,rfl⟩:=(hf b).pre _ _ _ h2;rw [<- aaD] at e1;have:=abO e1;subst this;rw [aaD] at h1;have h3:=ih1 _ _ _ h1 (c2++r2) (by
   by_cases hc:c2=[]
   ·subst hc;exact hr
   ·exact .inl (vn _ _ _ hc))
  refine bind_ok.2 ⟨b,c2++r2,by rw [aaD];exact h3,ih2 b _ _ _ h2 r2 hr⟩
 | want hs hp _ ih=>
  intro c a r' h r2 hr;obtain ⟨b,r1,h1,h2⟩:=bind_ok.1 h;obtain ⟨hh,rfl⟩:=mS h1;obtain ⟨c2,h3⟩:=hp.pre _ _ _ h2
  cases c with
  | nil=>
   obtain ⟨t,ht,_⟩:=ia hh hs;have:=congrArg List.length ht;have:=congrArg List.length h3;simp at *;omega
  | cons t c=>
   rw [aaE] at h2 hh h1;refine bind_ok.2 ⟨(),c++r2,?_,ih _ _ _ h2 r2 hr⟩;have hh' : Uw.Tryz.hd (t::(c++r2))=_:=hh;rw [aaE,Uw.Tryz.want,if_pos hh'];rfl
 | skip hs he hp hq _ ih1 ih2=>
  intro c a r' h r2 hr;unfold ei at h ⊢
  split at h
  ·rename_i hh
   cases c with
   | nil=>
    obtain ⟨c2,h3⟩:=hp.pre _ _ _ h;obtain ⟨t,ht,_⟩:=ia hh hs;have:=congrArg List.length ht;have:=congrArg List.length h3;simp at *;omega
   | cons t c=>
    rw [aaE] at h hh;rw [aaE];have hh' : Uw.Tryz.hd (t::(c++r2))=_:=hh;rw [if_pos hh'];exact ih1 _ _ _ h r2 hr
  ·rename_i hh
   rw [if_neg]
   ·exact ih2 _ _ _ h r2 hr
   ·cases c with
    | cons t c=>exact hh
    | nil=>
     rcases he with he|he
     ·rcases hr with hr|hr
      ·show ¬Uw.Tryz.hd r2=_
       rw [hr];exact hh
      ·show ¬Uw.Tryz.hd r2=_
       rw [hr];exact fun e=>he e.symm
     ·have:=he _ _ _ h
      simp at this
 | peek hs he hp hq ih1 ih2=>
  intro c a r' h r2 hr;unfold hQ at h ⊢
  split at h
  ·rename_i hh
   cases c with
   | nil=>
    have:=he _ _ _ h;simp at this
   | cons t c=>
    have hh' : Uw.Tryz.hd (t::c++r2)=_:=hh;rw [if_pos hh'];exact ih1 _ _ _ h r2 hr
  ·rename_i hh
   rw [if_neg]
   ·exact ih2 _ _ _ h r2 hr
   ·cases c with
    | cons t c=>exact hh
    | nil=>
     show ¬Uw.Tryz.hd r2=_
     rcases hr with hr|hr
     ·rw [hr];exact hh
     ·rw [hr];exact fun e=>hs e.symm
 | name hf ih=>
  intro c a r' h r2 hr;obtain ⟨b,r1,h1,h2⟩:=bind_ok.1 h;obtain ⟨t,e1,h3,h4,h5⟩:=mU h1;obtain ⟨c2,rfl⟩:=(hf b).pre _ _ _ h2;have:=abO (show c++r' = (t::c2)++r' from e1);subst this;refine bind_ok.2 ⟨b,c2++r2,?_,ih b _ _ _ h2 r2 hr⟩;rw [aaE,dD,eH,if_pos h4];show (if oI t.text=true then _ else _)=_;rw [h5,h3];rfl
 | word _ hf ih=>
  intro c a r' h r2 hr;obtain ⟨t,r1,h1,h2⟩:=bind_ok.1 h;obtain ⟨q,e1,rfl,h4⟩:=mT h1;obtain ⟨c2,rfl⟩:=(hf t.text t.n).pre _ _ _ h2;have:=abO (show c++r' = (t::c2)++r' from e1);subst this;refine bind_ok.2 ⟨t,c2++r2,?_,ih _ _ _ _ _ h2 r2 hr⟩;rw [aaE,eH,if_pos h4]
 | num he hf hq ih1 ih2=>
  intro c a r' h r2 hr;unfold wm at h ⊢
  split at h
  ·rename_i hn
   cases c with
   | nil=>
    obtain ⟨c2,h3⟩:=(hf _).pre _ _ _ h
    cases r' with
    | nil=>cases hn
    | cons t l=>
     have:=congrArg List.length h3;simp at this;omega
   | cons t c=>
    have hn' : isNum (t::c++r2)=true:=hn;rw [if_pos hn'];exact ih1 _ _ _ _ h r2 hr
  ·rename_i hn
   cases c with
   | nil=>
    have:=he _ _ _ h;simp at this
   | cons t c=>
    have hn' : ¬isNum (t::c++r2)=true:=hn;rw [if_neg hn'];exact ih2 _ _ _ h r2 hr
def bal:List Tok->Int
 | []=>0
 | t::r=>delta t.text+bal r
def Wf (t:Tok):Prop:=t.kind≠3->delta t.text=0
theorem IsP.bal {α:Type} {d:Int} {p q:List Tok->R α} (h:IsP d p q):∀r a r',(∀t∈r,Wf t)->p r = .ok a r'->bal r=d+bal r':=by
 induction h with
 | out=>intro r a r' _ h;cases h
 | bad=>intro r a r' _ h;cases h
 | ret=>intro r a r' _ h;injection h with _ h;rw [h];omega
 | bind hp _ hg ih1 ih2=>
  intro r a r' hw h;obtain ⟨b,r1,h1,h2⟩:=bind_ok.1 h;obtain ⟨c1,rfl⟩:=hp.pre _ _ _ h1;have:=ih1 _ _ _ hw h1;have:=ih2 _ _ _ _ (fun t ht=>hw t (abt _ ht)) h2;omega
 | want hs hp hg ih=>
  intro r a r' hw h;obtain ⟨b,r1,h1,h2⟩:=bind_ok.1 h;obtain ⟨hh,rfl⟩:=mS h1;obtain ⟨t,ht,ht2⟩:=ia hh hs;have h4:=ih _ _ _ (fun t ht=>hw t (abZ ht)) h2;rw [ht,Uw.Tryz.bal,ht2,h4];omega
 | skip hs _ _ _ hg ih1 ih2=>
  intro r a r' hw h;unfold ei at h
  split at h
  ·rename_i hh
   obtain ⟨t,ht,ht2⟩:=ia hh hs;have h4:=ih1 _ _ _ (fun t ht=>hw t (abZ ht)) h;rw [ht,Uw.Tryz.bal,ht2,h4];omega
  ·exact ih2 _ _ _ hw h
 | peek _ _ _ _ ih1 ih2=>
  intro r a r' hw h;unfold hQ at h
  split at h
  ·exact ih1 _ _ _ hw h
  ·exact ih2 _ _ _ hw h
 | name _ ih=>
  intro r a r' hw h;obtain ⟨b,r1,h1,h2⟩:=bind_ok.1 h;obtain ⟨t,rfl,_,h3,_⟩:=mU h1;have h4:=ih _ _ _ _ (fun t ht=>hw t (aaL _ ht)) h2;have:=hw t (aaV ..) (by omega);rw [Uw.Tryz.bal,this,h4];omega
 | word hk _ ih=>
  intro r a r' hw h;obtain ⟨t,r1,h1,h2⟩:=bind_ok.1 h;obtain ⟨q,rfl,rfl,h3⟩:=mT h1;have h4:=ih _ _ _ _ _ (fun t ht=>hw t (aaL _ ht)) h2;have:=hw t (aaV ..) (by omega);rw [Uw.Tryz.bal,this,h4];omega
 | num _ _ _ ih1 ih2=>
  intro r a r' hw h;unfold wm at h
  split at h
  ·rename_i hn
   cases r with
   | nil=>cases hn
   | cons t l=>
    have h4:=ih1 _ _ _ _ (fun t ht=>hw t (aaL _ ht)) h;have hk:t.kind=2:=by simpa [isNum] using hn
    have:=hw t (aaV ..) (by omega);rw [Uw.Tryz.bal,this,h4];omega
  ·exact ih2 _ _ _ hw h
def strip (t:Tok):Tok:={ t with at_:=0 }
def R.strip {α:Type} (x:R α):R α:=
 match x with
 | .ok a r=>.ok a (r.map Uw.Tryz.strip)
 | .bad=>.bad
 | .out=>.out
theorem qo (r:List Tok):hd (r.map strip)=hd r:=by cases r<;>rfl
theorem AB (r:List Tok):(r.map strip).tail=r.tail.map strip:=by cases r<;>rfl
theorem gC {α β:Type} (x:R β) (f g:β->List Tok->R α) (h:∀b r,f b (r.map strip)=(g b r).strip):x.strip.bind f=(x.bind g).strip:=by
 cases x with
 | ok a r=>exact h a r
 | bad=>rfl
 | out=>rfl
theorem JG (s:Str) (r:List Tok):want s (r.map strip)=(want s r).strip:=by
 rw [want,want,qo,AB]
 split<;>rfl
theorem JH (r:List Tok):dD (r.map strip)=(dD r).strip:=by
 cases r with
 | nil=>rfl
 | cons t l=>
  rw [dD,dD,abG,eH,eH];by_cases hk:t.kind=1
  ·rw [if_pos hk,if_pos (show (strip t).kind=1 from hk)]
   show (if oI t.text=true then _ else _)=R.strip (if oI t.text=true then _ else _)
   split<;>rfl
  ·rw [if_neg hk,if_neg (show ¬(strip t).kind=1 from hk)];rfl
theorem IsP.strip {α:Type} {d:Int} {p q:List Tok->R α} (h:IsP d p q):∀r,p (r.map Uw.Tryz.strip)=(p r).strip:=by
 induction h with
 | out=>intro r;rfl
 | bad=>intro r;rfl
 | ret=>intro r;rfl
 | bind _ _ _ ih1 ih2=>
  intro r;unfold cI;rw [ih1];exact gC _ _ _ ih2
 | want _ _ _ ih=>
  intro r;unfold gp;rw [JG];exact gC _ _ _ fun _ r=>ih r
 | skip _ _ _ _ _ ih1 ih2=>
  intro r;unfold ei;rw [qo,AB,ih1,ih2]
  split<;>rfl
 | peek _ _ _ _ ih1 ih2=>
  intro r;unfold hQ;rw [qo,ih1,ih2]
  split<;>rfl
 | name _ ih=>
  intro r;unfold cName;rw [JH];exact gC _ _ _ ih
 | @word α d k f f' _ _ ih=>
  intro r;unfold AA
  cases r with
  | nil=>rfl
  | cons t l=>
   rw [abG,eH,eH];by_cases hk:t.kind=k
   ·rw [if_pos hk,if_pos (show (Uw.Tryz.strip t).kind=k from hk)]
    exact ih _ _ _
   ·rw [if_neg hk,if_neg (show ¬(Uw.Tryz.strip t).kind=k from hk)];rfl
 | @num α d f f' q q' _ _ _ ih1 ih2=>
  intro r;unfold wm
  cases r with
  | nil=>exact ih2 []
  | cons t l=>
   show (if isNum (t::l)=true then f (numOf (t::l)) (l.map Uw.Tryz.strip) else q ((t::l).map Uw.Tryz.strip))=_;rw [ih1,ih2];show _=R.strip (if isNum (t::l)=true then f (numOf (t::l)) l else q (t::l))
   split<;>rfl
end Uw.Tryz
namespace Uw.Tryz
open Go Uw
theorem Suf.len {a b:List Tok} {s:Nat} (h:Suf a b s):b.length+s<=a.length:=by
 obtain ⟨i,i1,rfl,i3⟩:=h;simp;omega
theorem IsP.len {α:Type} {d:Int} {p q:List Tok->R α} (h:IsP d p q) {r r' : List Tok} {a:α} (e:p r = .ok a r'):r'.length<=r.length:=by
 obtain ⟨c,rfl⟩:=h.pre _ _ _ e;simp
theorem zC {α:Type} {p:List Tok->R α} (h:∀r e r',p r = .ok e r'->∃s,1<=s/\Suf r r' s):wo p:=by
 intro r e r' he;obtain ⟨s,h1,h2⟩:=h r e r' he;have:=h2.len;omega
theorem ya {α β:Type} {d:Int} {p:List Tok->R β} {f f' : β->List Tok->R α} (h:wo p) (hf:∀b,IsP d (f b) (f' b)):wo (cI p f):=by
 intro r a r' he;obtain ⟨b,r1,h1,h2⟩:=bind_ok.1 he;have:=h _ _ _ h1;have:=(hf b).len h2;omega
theorem Ek {α:Type} {d:Int} {f f' : Str->List Tok->R α} (hf:∀b,IsP d (f b) (f' b)):wo (cName f):=by
 intro r a r' he;obtain ⟨b,r1,h1,h2⟩:=bind_ok.1 he;have:=(Suf.name h1).len;have:=(hf b).len h2;omega
theorem MX (n:Nat):wo (da n):=zC fun r e r' h=>⟨_,e.dS,(fj n).expr _ _ _ h⟩
theorem Em (n:Nat) (s:Str):wo (gm n s):=zC fun r e r' h=>⟨_,by omega,(fj n).call _ _ _ _ h⟩
theorem q6 (n:Nat) (s:Str):wo (eu n s):=zC fun r e r' h=>⟨_,e.dS,qk h⟩
theorem En (n:Nat):wo (gU n):=zC fun r e r' h=>⟨_,e.dS,(oV n).stmt _ _ _ h⟩
structure PE (n:Nat):Prop where
 pK:IsP 0 (gl n) (gl (n+1))
 call:∀s,IsP 0 (gm n s) (gm (n+1) s)
 args:IsP 0 (fY n) (fY (n+1))
 qj:IsP (-1) (dF n) (dF (n+1))
 prod:IsP 0 (fA n) (fA (n+1))
 oU:∀l,IsP 0 (dC n l) (dC (n+1) l)
 sum:IsP 0 (j6 n) (j6 (n+1))
 sumT:∀l,IsP 0 (eI n l) (eI (n+1) l)
 expr:IsP 0 (da n) (da (n+1))
theorem iR {α:Type} {d:Int} {p q:List Tok->R α} (h:∀r,p r = .out):IsP d p q:=by
 have:p=fun _=>.out:=funext h;rw [this];exact .out
theorem pe:∀n,PE n
 | 0=>⟨iR fun r=>by rw [gl],fun s=>iR fun r=>by rw [gm],iR fun r=>by rw [fY],iR fun r=>by rw [dF],iR fun r=>by rw [fA],fun l=>iR fun r=>by rw [dC],iR fun r=>by rw [j6],fun l=>iR fun r=>by rw [eI],iR fun r=>by rw [da]⟩
 | n+1=>by
  have ih:=pe n;have arT:∀e,IsP (-1) (cI (dF n) fun es=>dL (Exs.cons e es)) (cI (dF (n+1)) fun es=>dL (Exs.cons e es)):=fun e=>.bind ih.qj (fun es=>.ret _) (by decide);refine ⟨?_,?_,?_,?_,?_,?_,?_,?_,?_⟩
  ·rw [lA n,lA (n+1)]
   have hq:∀s,IsP 0 (hQ [46] (cI (gm n s) fun x=>dL (Ex.call s x.1 x.2)) (dL (.name s))) (hQ [46] (cI (gm (n+1) s) fun x=>dL (Ex.call s x.1 x.2)) (dL (.name s))):=fun s=>
    .peek (by decide) (ya (Em n s) fun x=>.ret _) (.bind (ih.call s) (fun x=>.ret _) (by decide)) (.ret _)
   exact .skip (d:=-1) (by decide) (.inl (by decide)) (.bind ih.expr (fun e=>.want (by decide) (.ret _) rfl) (by decide)) (.num (Ek hq) (fun v=>.ret _) (.name hq)) (by decide)
  ·intro s
   rw [ql n,ql (n+1)];exact .want (by decide) (.name fun v=>.bind ih.args (fun ar=>.ret _) rfl) (by decide)
  ·rw [qm n,qm (n+1)]
   exact .want (d:=-1) (by decide) (.skip (by decide) (.inr (ya (MX n) arT)) (.ret _) (.bind ih.expr arT (by decide)) (by decide)) (by decide)
  ·rw [nh n,nh (n+1)]
   exact .skip (d:=-1) (by decide) (.inl (by decide)) (.bind ih.expr arT (by decide)) (.want (by decide) (.ret _) (by decide)) (by decide)
  ·rw [sG n,sG (n+1)]
   exact .bind ih.pK ih.oU (by decide)
  ·intro l
   rw [ni n,ni (n+1)];exact .skip (d:=0) (by decide) (.inl (by decide)) (.bind ih.pK (fun e=>ih.oU _) (by decide)) (.ret _) (by decide)
  ·rw [wn n,wn (n+1)]
   exact .bind ih.prod ih.sumT (by decide)
  ·intro l
   rw [nM n,nM (n+1)];exact .skip (d:=0) (by decide) (.inl (by decide)) (.bind ih.prod (fun e=>ih.sumT _) (by decide)) (.skip (d:=0) (by decide) (.inl (by decide)) (.bind ih.prod (fun e=>ih.sumT _) (by decide)) (.ret _) (by decide)) (by decide)
  ·rw [nN n,nN (n+1)]
   exact .bind ih.sum (fun l=>.skip (d:=0) (by decide) (.inl (by decide)) (.bind ih.sum (fun e=>.ret _) (by decide)) (.skip (d:=0) (by decide) (.inl (by decide)) (.bind ih.sum (fun e=>.ret _) (by decide)) (.ret _) (by decide)) (by decide)) (by decide)
theorem tM (n:Nat) (to:Str):IsP 0 (eu n to) (eu (n+1) to):=by
 rw [nj n,nj (n+1)];exact .bind (d:=0) (e:=0) (.skip (d:=0) (by decide) (.inl (by decide)) (.ret _) (.want (by decide) (.ret _) (by decide)) (by decide)) (fun par=>.name fun f=>.bind (e:=0) (pe n).args (fun ar=>by split<;>first|exact .bad|exact .ret _) (by decide)) (by decide)
theorem JI (n:Nat):IsP 0 (fP n) (fP (n+1)):=by
 rw [ew n,ew (n+1)];exact .peek (by decide) (q6 n []) (tM n []) (.peek (by decide) (q6 n []) (tM n []) (.skip (d:=0) (by decide) (.inl (by decide)) (.ret _) (.skip (d:=0) (by decide) (.inl (by decide)) (.bind (pe n).expr (fun e=>.ret _) (by decide))
  (.skip (d:=0) (by decide) (.inl (by decide)) (.bind (pe n).expr (fun e=>.ret _) (by decide)) (.name fun s=>.peek (by decide) (ya (Em n s) fun x=>.ret _) (.bind ((pe n).call s) (fun x=>.ret _) (by decide))
   (.want (d:=0) (by decide) (.peek (by decide) (q6 n s) (tM n s) (.peek (by decide) (q6 n s) (tM n s) (.bind (pe n).expr (fun e=>.ret _) (by decide)))) (by decide))) (by decide)) (by decide)) (by decide)))
structure PS (n:Nat):Prop where
 stmt:IsP 0 (gU n) (gU (n+1))
 block:IsP 0 (cN n) (cN (n+1))
 stmts:IsP (-1) (cT n) (cT (n+1))
theorem ps:∀n,PS n
 | 0=>⟨iR fun r=>by rw [gU],iR fun r=>by rw [cN],iR fun r=>by rw [cT]⟩
 | n+1=>by
  have ih:=ps n;refine ⟨?_,?_,?_⟩
  ·rw [lB n,lB (n+1)]
   exact .skip (d:=0) (by decide) (.inl (by decide)) (.bind (pe n).expr (fun e=>.bind (d:=0) (e:=0) ih.block (fun a=>.skip (d:=0) (by decide) (.inl (by decide)) (.bind ih.block (fun b=>.ret _) (by decide)) (.ret _) (by decide)) rfl) (by decide))
    (.skip (d:=0) (by decide) (.inl (by decide)) (.bind (pe n).expr (fun e=>.bind ih.block (fun a=>.ret _) rfl) (by decide)) (.bind (JI n) (fun s=>.want (by decide) (.ret _) rfl) (by decide)) (by decide)) (by decide)
  ·rw [qn n,qn (n+1)]
   exact .want (by decide) ih.stmts (by decide)
  ·rw [nk n,nk (n+1)]
   exact .skip (d:=0) (by decide) (.inl (by decide)) (.ret _) (.bind ih.stmt (fun s=>.bind ih.stmts (fun ss=>.ret _) rfl) (by decide)) (by decide)
theorem AE:∀n,IsP (-1) (cq n) (cq (n+1))
 | 0=>iR fun r=>by rw [cq]
 | n+1=>by
  rw [kP n,kP (n+1)];exact .skip (d:=-1) (by decide) (.inl (by decide)) (.name fun s=>.bind (AE n) (fun l=>.ret _) (by decide)) (.want (by decide) (.ret _) (by decide)) (by decide)
theorem nq (n:Nat):IsP 0 (je n) (je (n+1)):=by
 rw [np n,np (n+1)];have hq:∀s,IsP (-1) (cI (cq n) fun l=>dL (s::l)) (cI (cq (n+1)) fun l=>dL (s::l)):=fun s=>.bind (AE n) (fun l=>.ret _) (by decide);exact .want (d:=-1) (by decide) (.skip (d:=0) (by decide) (.inr (Ek hq)) (.ret _) (.name hq) (by decide)) (by decide)
theorem tN (n:Nat):IsP 0 (lZ n) (lZ (n+1)):=by
 rw [tL n,tL (n+1)];exact .want (d:=0) (by decide) (.name fun s=>.bind (e:=0) (nq n) (fun l=>.bind (ps n).block (fun b=>.ret _) (by decide)) (by decide)) (by decide)
theorem qp:IsP 0 mg mg:=by
 rw [nO];refine .word (by decide) fun t _=>?_;rw [j7]
 split
 ·exact .bad
 ·refine .name fun s=>?_
  split
  ·exact .skip (d:=0) (by decide) (.inl (by decide)) (.word (by decide) fun _ n=>.want (by decide) (.ret _) (by decide)) (.want (by decide) (.ret _) (by decide)) (by decide)
  ·exact .want (by decide) (.ret _) (by decide)
theorem aV {α β:Type} {x:R β} {f:β->List Tok->R α} (h:x≠.out) (hf:∀b r,x = .ok b r->f b r≠.out):x.bind f≠.out:=by
 cases x with
 | ok a r=>exact hf a r rfl
 | bad=>exact fun h=>nomatch h
 | out=>exact absurd rfl h
theorem dG {α:Type} {a:α} {r:List Tok}:R.ok a r≠.out:=fun h=>nomatch h
theorem jy {s:Str} {r:List Tok}:want s r≠.out:=by rw [want];split<;>exact fun h=>nomatch h
theorem oW {r:List Tok}:dD r≠.out:=by
 rw [dD];refine aV ?_ fun t r _=>?_
 ·rw [eH.eq_def];split
  ·exact fun h=>nomatch h
  ·split<;>exact fun h=>nomatch h
 ·split<;>exact fun h=>nomatch h
structure NE (n:Nat):Prop where
 pK:∀r,6 * r.length+1<=n->gl n r≠.out
 call:∀s r,6 * r.length+1<=n->gm n s r≠.out
 args:∀r,6 * r.length+1<=n->fY n r≠.out
 qj:∀r,6 * r.length+1<=n->dF n r≠.out
 prod:∀r,6 * r.length+2<=n->fA n r≠.out
 oU:∀l r,6 * r.length+1<=n->dC n l r≠.out
 sum:∀r,6 * r.length+3<=n->j6 n r≠.out
 sumT:∀l r,6 * r.length+1<=n->eI n l r≠.out
 expr:∀r,6 * r.length+4<=n->da n r≠.out
theorem ne:∀n,NE n
 | 0=>⟨fun _ h=>by omega,fun _ _ h=>by omega,fun _ h=>by omega,fun _ h=>by omega,fun _ h=>by omega,fun _ _ h=>by omega,fun _ h=>by omega,fun _ _ h=>by omega,fun _ h=>by omega⟩
 | n+1=>by
  have ih:=ne n;have se:=fj n;refine ⟨?_,?_,?_,?_,?_,?_,?_,?_,?_⟩
  ·intro r hr
   rw [gl]
   split
   ·rename_i hh
    have:=(Suf.hd hh (by simp)).len;exact aV (ih.expr _ (by omega)) fun e r1 h1=>aV jy fun _ _ _=>dG
   ·split
    ·exact dG
    ·refine aV oW fun s r1 h1=>?_
     have:=(Suf.name h1).len
     split
     ·exact aV (ih.call _ _ (by omega)) fun _ _ _=>dG
     ·exact dG
  ·intro s r hr
   rw [gm];refine aV jy fun _ r1 h1=>aV oW fun v r2 h2=>aV (ih.args _ ?_) fun _ _ _=>dG;have:=(Suf.want (by simp) h1).len;have:=(Suf.name h2).len;omega
  ·intro r hr
   rw [fY];refine aV jy fun _ r1 h1=>?_;have:=(Suf.want (by simp) h1).len
   split
   ·exact dG
   ·refine aV (ih.expr _ (by omega)) fun e r2 h2=>aV (ih.qj _ ?_) fun _ _ _=>dG
    have:=(se.expr _ _ _ h2).len;omega
  ·intro r hr
   rw [dF]
   split
   ·rename_i hh
    have:=(Suf.hd hh (by simp)).len;refine aV (ih.expr _ (by omega)) fun e r2 h2=>aV (ih.qj _ ?_) fun _ _ _=>dG;have:=(se.expr _ _ _ h2).len;omega
   ·exact aV jy fun _ _ _=>dG
  ·intro r hr
   rw [fA];refine aV (ih.pK _ (by omega)) fun e r2 h2=>ih.oU _ _ ?_;have:=(se.pK _ _ _ h2).len;omega
  ·intro l r hr
   rw [dC]
   split
   ·rename_i hh
    have:=(Suf.hd hh (by simp)).len;refine aV (ih.pK _ (by omega)) fun e r2 h2=>ih.oU _ _ ?_;have:=(se.pK _ _ _ h2).len;omega
   ·exact dG
  ·intro r hr
   rw [j6];refine aV (ih.prod _ (by omega)) fun e r2 h2=>ih.sumT _ _ ?_;have:=(se.prod _ _ _ h2).len;omega
  ·intro l r hr
   rw [eI]
   split
   ·rename_i hh
    have:=(Suf.hd hh (by simp)).len;refine aV (ih.prod _ (by omega)) fun e r2 h2=>ih.sumT _ _ ?_;have:=(se.prod _ _ _ h2).len;omega
   ·split
    ·rename_i hh
     have:=(Suf.hd hh (by simp)).len;refine aV (ih.prod _ (by omega)) fun e r2 h2=>ih.sumT _ _ ?_;have:=(se.prod _ _ _ h2).len;omega
    ·exact dG
  ·intro r hr
   rw [da];refine aV (ih.sum _ (by omega)) fun e r2 h2=>?_;have:=(se.sum _ _ _ h2).len
   split
   ·rename_i hh
    have:=(Suf.hd hh (by simp)).len;exact aV (ih.sum _ (by omega)) fun _ _ _=>dG
   ·split
    ·rename_i hh
     have:=(Suf.hd hh (by simp)).len;exact aV (ih.sum _ (by omega)) fun _ _ _=>dG
    ·exact dG
theorem HO (n:Nat) (to:Str) (r:List Tok) (hr:6 * r.length+1<=n):eu n to r≠.out:=by
 rw [eu];have key:∀(x:R Bool),x≠.out->(∀b r1,x = .ok b r1->r1.length<=r.length)->x.bind (fun par r=>(dD r).bind fun f r=>(fY n r).bind fun ar r=>if par=true/\ar.length≠2 then R.bad else R.ok (Stm.task par to f ar) r)≠.out:=by
  intro x hx hl;refine aV hx fun b r1 h1=>aV oW fun f r2 h2=>aV ((ne n).args _ ?_) fun ar r3 _=>?_
  ·have:=hl _ _ h1
   have:=(Suf.name h2).len;omega
  ·split<;>exact fun h=>nomatch h
 refine key _ ?_ ?_
 ·split
  ·exact dG
  ·exact aV jy fun _ _ _=>dG
 ·intro b r1 h
  split at h
  ·injection h with _ h
   rw [<- h];simp
  ·obtain ⟨_,r2,h2,h3⟩:=bind_ok.1 h
   injection h3 with _ h3
   subst h3;have:=(Suf.want (by decide) h2).len;omega
theorem MY (n:Nat) (r:List Tok) (hr:6 * r.length+4<=n):fP n r≠.out:=by
 rw [fP];have ih:=ne n
 split
 ·exact HO n _ _ (by omega)
 ·split
  ·exact dG
  ·split
   ·exact aV (ih.expr _ (by simp;omega)) fun _ _ _=>dG
   ·split
    ·exact aV (ih.expr _ (by simp;omega)) fun _ _ _=>dG
    ·refine aV oW fun s r1 h1=>?_
     have:=(Suf.name h1).len
     split
     ·exact aV (ih.call _ _ (by omega)) fun _ _ _=>dG
     ·refine aV jy fun _ r2 h2=>?_
      have:=(Suf.want (by decide) h2).len
      split
      ·exact HO n _ _ (by omega)
      ·exact aV (ih.expr _ (by omega)) fun _ _ _=>dG
structure NS (n:Nat):Prop where
 stmt:∀r,6 * r.length+5<=n->gU n r≠.out
 block:∀r,6 * r.length+5<=n->cN n r≠.out
 stmts:∀r,6 * r.length+6<=n->cT n r≠.out
theorem ns_:∀n,NS n
 | 0=>⟨fun _ h=>by omega,fun _ h=>by omega,fun _ h=>by omega⟩
 | n+1=>by
  have ih:=ns_ n;have se:=fj n;have ss:=oV n;refine ⟨?_,?_,?_⟩
  ·intro r hr
   rw [gU]
   split
   ·rename_i hh
    have:=(Suf.hd hh (by decide)).len;refine aV ((ne n).expr _ (by omega)) fun e r1 h1=>?_;have:=(se.expr _ _ _ h1).len;refine aV (ih.block _ (by omega)) fun a r2 h2=>?_;have:=(ss.block _ _ _ h2).len
    split
    ·exact aV (ih.block _ (by simp;omega)) fun _ _ _=>dG
    ·exact dG
   ·split
    ·rename_i hh
     have:=(Suf.hd hh (by decide)).len;refine aV ((ne n).expr _ (by omega)) fun e r1 h1=>?_;have:=(se.expr _ _ _ h1).len;exact aV (ih.block _ (by omega)) fun a r2 h2=>dG
    ·exact aV (MY n _ (by omega)) fun _ _ _=>aV jy fun _ _ _=>dG
  ·intro r hr
   rw [cN];refine aV jy fun _ r1 h1=>ih.stmts _ ?_;have:=(Suf.want (by decide) h1).len;omega
  ·intro r hr
   rw [cT]
   split
   ·exact dG
   ·refine aV (ih.stmt _ (by omega)) fun s r1 h1=>?_
    have:=(ss.stmt _ _ _ h1).len;have:=s.dS;exact aV (ih.stmts _ (by omega)) fun _ _ _=>dG
theorem Eo:∀n r,r.length+1<=n->cq n r≠.out
 | 0,_,h=>by omega
 | n+1,r,hr=>by
  rw [cq]
  split
  ·rename_i hh
   have:=(Suf.hd hh (by simp)).len;refine aV oW fun s r1 h1=>aV (Eo n _ ?_) fun _ _ _=>dG;have:=(Suf.name h1).len;omega
  ·exact aV jy fun _ _ _=>dG
theorem PU (n:Nat) (r:List Tok) (hr:r.length+1<=n):je n r≠.out:=by
 rw [je];refine aV jy fun _ r1 h1=>?_;have:=(Suf.want (by decide) h1).len
 split
 ·exact dG
 ·refine aV oW fun s r2 h2=>aV (Eo n _ ?_) fun _ _ _=>dG
  have:=(Suf.name h2).len;omega
theorem PV (n:Nat) (r:List Tok) (hr:6 * r.length+5<=n):lZ n r≠.out:=by
 rw [lZ];refine aV jy fun _ r1 h1=>aV oW fun s r2 h2=>?_;have:=(Suf.want (by decide) h1).len;have:=(Suf.name h2).len;refine aV (PU n _ (by omega)) fun l r3 h3=>aV ((ns_ n).block _ ?_) fun _ _ _=>dG;have:=(nq n).len h3;omega
theorem K5 (r:List Tok):mg r≠.out:=by
 rw [nO];have hw:∀k r,eH k r≠.out:=by
  intro k r;rw [eH.eq_def];split
  ·exact fun h=>nomatch h
  ·split<;>exact fun h=>nomatch h
 refine aV (hw _ _) fun t r _=>?_;show j7 t.text r≠_;unfold j7
 cases kindOf t.text with
 | none=>exact fun h=>nomatch h
 | some k=>
  refine aV oW fun s r _=>?_;have hz:∀(d:Dec) r,gp [59] (dL d) r≠.out:=fun d r=>aV jy fun _ _ _=>dG;by_cases hk:k=0
  ·rw [if_pos hk]
   show (if hd r=[61] then _ else _)≠R.out
   split
   ·exact aV (hw _ _) fun t r _=>hz _ _
   ·exact hz _ _
  ·rw [if_neg hk]
   exact hz _ _
end Uw.Tryz
namespace Uw.Tryz
open Go Uw
theorem up {α:Type} {d:Int} {p:Nat->List Tok->R α} (h:∀n,IsP d (p n) (p (n+1))) {n:Nat} {r:List Tok} (hn:p n r≠.out) (k:Nat):p (n+k) r=p n r:=by
 induction k with
 | zero=>rfl
 | succ k ih=>
  rcases (h (n+k)).le r with e|e
  ·rw [ih] at e;exact absurd e hn
  ·rw [<- abw,<- e,ih]
theorem up' {α:Type} {d:Int} {p:Nat->List Tok->R α} (h:∀n,IsP d (p n) (p (n+1))) {n m:Nat} {r:List Tok} {a:α} {r' : List Tok} (hn:p n r = .ok a r') (hm:n<=m):p m r = .ok a r':=by
 obtain ⟨k,rfl⟩:=Nat.le.dest hm;rw [up h (by rw [hn];exact dG),hn]
def Reads {α:Type} (p:Nat->List Tok->R α) (r:List Tok) (a:α) (r' : List Tok):Prop:=∃n,p n r = .ok a r'
theorem Reads.at {α:Type} {d:Int} {p:Nat->List Tok->R α} (h:∀n,IsP d (p n) (p (n+1))) {r:List Tok} {a:α} {r1:List Tok} (h1:Reads p r a r1) {n:Nat} (hn:p n r≠.out):p n r = .ok a r1:=by
 obtain ⟨m,h1⟩:=h1;have e1:=up' h h1 (Nat.le_max_right n m);obtain ⟨k,hk⟩:=Nat.le.dest (Nat.le_max_left n m);rw [<- hk,up h hn] at e1;exact e1
theorem tO {α β:Type} (a:β) (r:List Tok) (f:β->List Tok->R α):(R.ok a r).bind f=f a r:=rfl
inductive oJ:List Tok->List Dec->List Tok->Prop
 | stop {r:List Tok}:r=[]\/hd r=fW->oJ r [] r
 | cons {r r' r'' : List Tok} {d:Dec} {ds:List Dec}:¬(r=[]\/hd r=fW)->mg r = .ok d r'->oJ r' ds r''->oJ r (d::ds) r''
inductive mV:List Tok->List Fn->Prop
 | nil:mV [] []
 | cons {r r' : List Tok} {f:Fn} {fs:List Fn}:Reads lZ r f r'->mV r' fs->mV r (f::fs)
def Prg (l:List Tok) (ds:List Dec) (fs:List Fn):Prop:=∃r,oJ l ds r/\mV r fs
def oY (l:List Tok):Nat:=6 * l.length+6
def oZ (l:List Tok):Option (List Dec×List Fn):=match oS (oY l) l with | .ok x _=>some x | .bad=>none | .out=>none
theorem tP:wo mg:=by
 intro r e r' h;rw [nO] at h;obtain ⟨t,r1,h1,h2⟩:=bind_ok.1 h;obtain ⟨q,rfl,rfl,_⟩:=mT h1;have:IsP 0 (j7 t.text) (j7 t.text):=by
  rw [j7]
  split
  ·exact .bad
  ·refine .name fun s=>?_
   split
   ·exact .skip (d:=0) (by decide) (.inl (by decide)) (.word (by decide) fun _ n=>.want (by decide) (.ret _) (by decide)) (.want (by decide) (.ret _) (by decide)) (by decide)
   ·exact .want (by decide) (.ret _) (by decide)
 have:=this.len h2;simp;omega
theorem HQ (n:Nat):wo (lZ n):=by
 intro r e r' h;rw [lZ] at h;obtain ⟨_,r1,h1,h⟩:=bind_ok.1 h;obtain ⟨s,r2,h2,h⟩:=bind_ok.1 h;obtain ⟨l,r3,h3,h⟩:=bind_ok.1 h;obtain ⟨b,r4,h4,h⟩:=bind_ok.1 h;injection h with _ h
 have:=(Suf.want (by decide) h1).len;have:=(Suf.name h2).len;have:=(nq n).len h3;have:=(ps n).block.len h4;rw [<- h];omega
theorem oJ.len {r r' : List Tok} {ds:List Dec} (h:oJ r ds r'):r'.length+ds.length<=r.length:=by
 induction h with
 | stop _=>simp
 | cons _ h1 _ ih=>
  have:=tP _ _ _ h1;simp;omega
theorem oJ.at {r r' : List Tok} {ds:List Dec} (h:oJ r ds r'):∀n,r.length+1<=n->d4 n r = .ok ds r':=by
 induction h with
 | stop h=>
  intro n hn
  cases n with
  | zero=>omega
  | succ n=>rw [d4,if_pos h]
 | cons h h1 h2 ih=>
  intro n hn
  cases n with
  | zero=>omega
  | succ n=>
   have:=tP _ _ _ h1;rw [d4,if_neg h,h1,tO,ih n (by omega)];rfl
theorem mV.at {r:List Tok} {fs:List Fn} (h:mV r fs):∀n,6 * r.length+6<=n->fq n r = .ok fs []:=by
 induction h with
 | nil=>
  intro n hn
  cases n with
  | zero=>omega
  | succ n=>rw [fq,if_pos rfl]
 | cons h h2 ih=>
  rename_i r r' f fs;intro n hn
  cases n with
  | zero=>omega
  | succ n=>
   have h1:=h.at tN (PV n r (by omega));have:=HQ _ _ _ _ h1;rw [fq,if_neg (by rintro rfl;simp at this),h1,tO,ih n (by omega)];rfl
theorem Prg.at {l:List Tok} {ds:List Dec} {fs:List Fn} (h:Prg l ds fs):oZ l=some (ds,fs):=by
 obtain ⟨r,h1,h2⟩:=h;have:=h1.len;rw [oZ,oS,h1.at _ (by rw [oY];omega),tO,h2.at _ (by rw [oY];omega)];rfl
theorem AG:∀(n:Nat) {r r' : List Tok} {ds:List Dec},d4 n r = .ok ds r'->oJ r ds r'
 | 0,_,_,_,h=>by rw [d4] at h;cases h
 | n+1,r,r',ds,h=>by
  rw [d4] at h
  split at h
  ·rename_i hh
   injection h with h1 h2
   subst h1 h2;exact .stop hh
  ·rename_i hh
   obtain ⟨d,r1,h1,h⟩:=bind_ok.1 h;obtain ⟨l,r2,h2,h⟩:=bind_ok.1 h;injection h with h3 h4
   subst h3 h4;exact .cons hh h1 (AG n h2)
theorem K6:∀(n:Nat) {r r' : List Tok} {fs:List Fn},fq n r = .ok fs r'->mV r fs/\r' = []
 | 0,_,_,_,h=>by rw [fq] at h;cases h
 | n+1,r,r',fs,h=>by
  rw [fq] at h
  split at h
  ·rename_i hh
   injection h with h1 h2
   subst h1 h2 hh;exact ⟨.nil,rfl⟩
  ·rename_i hh
   obtain ⟨d,r1,h1,h⟩:=bind_ok.1 h;obtain ⟨l,r2,h2,h⟩:=bind_ok.1 h;injection h with h3 h4
   subst h3 h4;obtain ⟨h5,h6⟩:=K6 n h2;exact ⟨.cons ⟨n,h1⟩ h5,h6⟩
theorem K7 {n:Nat} {l r' : List Tok} {ds:List Dec} {fs:List Fn} (h:oS n l = .ok (ds,fs) r'):Prg l ds fs:=by
 rw [oS] at h;obtain ⟨d,r1,h1,h⟩:=bind_ok.1 h;obtain ⟨f,r2,h2,h⟩:=bind_ok.1 h;injection h with h3 h4
 injection h3 with h3 h5
 subst h3 h5;exact ⟨r1,AG _ h1,(K6 _ h2).1⟩
theorem yb {l:List Tok} {ds:List Dec} {fs:List Fn}:oZ l=some (ds,fs)<->Prg l ds fs:=by
 refine ⟨fun h=>?_,Prg.at⟩;rw [oZ] at h
 split at h
 ·rename_i x r e
  injection h with h
  subst h;exact K7 e
 ·cases h
 ·cases h
theorem HS:∀n r,r.length+1<=n->d4 n r≠.out
 | 0,_,h=>by omega
 | n+1,r,hn=>by
  rw [d4]
  split
  ·exact dG
  ·refine aV (K5 r) fun d r1 h1=>aV (HS n _ ?_) fun _ _ _=>dG
   have:=tP _ _ _ h1;omega
theorem K8:∀n r,6 * r.length+6<=n->fq n r≠.out
 | 0,_,h=>by omega
 | n+1,r,hn=>by
  rw [fq]
  split
  ·exact dG
  ·refine aV (PV n r (by omega)) fun d r1 h1=>aV (K8 n _ ?_) fun _ _ _=>dG
   have:=HQ _ _ _ _ h1;omega
theorem SZ (l:List Tok):oS (oY l) l≠.out:=by
 rw [oS];refine aV (HS _ _ (by rw [oY];omega)) fun d r h1=>aV (K8 _ _ ?_) fun _ _ _=>dG;have:=(AG _ h1).len;rw [oY];omega
theorem oJ.strip {r r' : List Tok} {ds:List Dec} (h:oJ r ds r'):oJ (r.map Uw.Tryz.strip) ds (r'.map Uw.Tryz.strip):=by
 induction h with
 | stop h=>exact .stop (by rw [qo];simpa using h)
 | cons h h1 h2 ih=>exact .cons (by rw [qo];simpa using h) (by rw [qp.strip,h1];rfl) ih
theorem mV.strip {r:List Tok} {fs:List Fn} (h:mV r fs):mV (r.map Uw.Tryz.strip) fs:=by
 induction h with
 | nil=>exact .nil
 | cons h h2 ih=>
  obtain ⟨n,h⟩:=h;exact .cons ⟨n,by rw [(tN n).strip,h];rfl⟩ ih
theorem HT (l:List Tok):oZ (l.map strip)=oZ l:=by
 have e:oS (oY l) (l.map strip)=(oS (oY l) l).strip:=by
  have hd' : ∀n r,d4 n (r.map strip)=(d4 n r).strip:=by
   intro n
   induction n with
   | zero=>intro r;rw [d4,d4];rfl
   | succ n ih=>
    intro r;rw [d4,d4,qo];by_cases h:r=[]\/hd r=fW
    ·rw [if_pos h,if_pos (by simpa using h)];rfl
    ·rw [if_neg h,if_neg (by simpa using h),qp.strip]
     refine gC _ _ _ fun d r=>?_;rw [ih];exact gC _ _ _ fun d r=>rfl
  have hf:∀n r,fq n (r.map strip)=(fq n r).strip:=by
   intro n
   induction n with
   | zero=>intro r;rw [fq,fq];rfl
   | succ n ih=>
    intro r;rw [fq,fq];by_cases h:r=[]
    ·rw [if_pos h,if_pos (by simpa using h)];rfl
    ·rw [if_neg h,if_neg (by simpa using h),(tN n).strip]
     refine gC _ _ _ fun d r=>?_;rw [ih];exact gC _ _ _ fun d r=>rfl
  rw [oS,oS,hd'];refine gC _ _ _ fun d r=>?_;rw [hf];exact gC _ _ _ fun d r=>rfl
 have e2:oY (l.map strip)=oY l:=by simp [oY]
 rw [oZ,oZ,e2,e]
 cases oS (oY l) l<;>rfl
theorem MZ {n:Nat} {c r' : List Tok} {b:Bl} (h:cN n (c++r') = .ok b r') (r2:List Tok):cN n (c++r2) = .ok b r2:=by
 -- a block ends with a bracket,whatever stands behind
 have key:∀m c r' b,cT m (c++r') = .ok b r'->∀r2,cT m (c++r2) = .ok b r2:=by
  intro m
  induction m with
  | zero=>intro c r' b h;rw [cT] at h;cases h
  | succ m ih=>
   intro c r' b h r2;rw [cT] at h ⊢
   split at h
   ·rename_i hh
    injection h with h1 h2
    cases c with
    | nil=>
     obtain ⟨t,ht,_⟩:=ia hh (by decide);have:=congrArg List.length ht;have:=congrArg List.length h2;simp at *;omega
    | cons t c=>
     have hh' : hd (t::c++r2)=[125]:=hh;rw [if_pos hh',h1];have:c=[]:=by
      have:=congrArg List.length h2;simp at this;exact this
     subst this;rfl
   ·rename_i hh
    obtain ⟨s,r1,h1,h2⟩:=bind_ok.1 h;obtain ⟨ss,r3,h3,h4⟩:=bind_ok.1 h2;injection h4 with h4 h5
    subst h4 h5;obtain ⟨c1,e1⟩:=(ps m).stmt.pre _ _ _ h1;obtain ⟨c2,rfl⟩:=(ps m).stmts.pre _ _ _ h3;rw [<- aaD] at e1;have:=abO e1;subst this;have hc2:c2≠[]:=by
     rintro rfl;have:=(oV m).stmts _ _ _ h3
     cases m with
     | zero=>rw [cT] at h3;cases h3
     | succ m=>
      rw [cT] at h3
      split at h3
      ·rename_i hx
       injection h3 with _ h3
       obtain ⟨t,ht,_⟩:=ia hx (by decide);have:=congrArg List.length ht;have:=congrArg List.length h3;simp at *;omega
      ·obtain ⟨s',r4,h6,h7⟩:=bind_ok.1 h3
       obtain ⟨ss',r5,h8,h9⟩:=bind_ok.1 h7;injection h9 with _ h9
       have:=En m _ _ _ h6;have:=(ps m).stmts.len h8;subst h9;simp at *;omega
    have hc1:c1≠[]:=by
     rintro rfl;have:=En m _ _ _ h1;simp at this
    rw [aaD] at h1;have h6:=(ps m).stmt.Yt _ _ _ h1 (c2++r2) (.inl (vn _ _ _ hc2));rw [aaD] at hh ⊢;rw [if_neg (by rw [vn c1 (c2++r2) _ hc1];exact hh),h6,tO,ih c2 _ ss h3 r2];rfl
 cases n with
 | zero=>rw [cN] at h;cases h
 | succ n=>
  rw [cN] at h ⊢;obtain ⟨_,r1,h1,h2⟩:=bind_ok.1 h;obtain ⟨hh,rfl⟩:=mS h1
  cases c with
  | nil=>
   obtain ⟨t,ht,_⟩:=ia hh (by decide);have:=congrArg List.length ht;have:=(ps n).stmts.len h2;simp at *;omega
  | cons t c=>
   have hh' : hd (t::c++r2)=[123]:=hh;rw [want,if_pos hh'];exact key n c r' b h2 r2
theorem S0 {n:Nat} {c r' : List Tok} {f:Fn} (h:lZ n (c++r') = .ok f r') (r2:List Tok):lZ n (c++r2) = .ok f r2:=by
 rw [tL] at h ⊢;obtain ⟨_,r1,h1,h⟩:=bind_ok.1 h;obtain ⟨hh,rfl⟩:=mS h1;have hp:∀g:Str->Bl->Fn,True:=fun _=>trivial;obtain ⟨s,r2',h2,h⟩:=bind_ok.1 h;obtain ⟨l,r3,h3,h⟩:=bind_ok.1 h;obtain ⟨b,r4,h4,h⟩:=bind_ok.1 h;injection h with h5 h6
 subst h5;rw [h6] at h4;obtain ⟨t1,ht1,ht1'⟩:=ia hh (by decide);obtain ⟨t2,e2,e3,e4,e5⟩:=mU h2;obtain ⟨c3,e6⟩:=(nq n).pre _ _ _ h3;obtain ⟨c4,e7⟩:=(ps n).block.pre _ _ _ h4;subst e7;have hc4:c4≠[]:=by
  rintro rfl;have:=(oV n).block _ _ _ h4;have:=this.len;simp at this;omega
 have ec:c=t1::t2::(c3++c4):=by
  refine abO (bs:=r') ?_;rw [ht1,e2,e6];simp
 subst ec;have hh' : hd (t1::t2::(c3++c4)++r2)=fW:=by show t1.text=_;exact ht1'
 refine bind_ok.2 ⟨(),t2::(c3++c4)++r2,by rw [want,if_pos hh'];rfl,bind_ok.2 ⟨s,c3++(c4++r2),?_,bind_ok.2 ⟨l,c4++r2,?_,bind_ok.2 ⟨b,r2,MZ h4 r2,rfl⟩⟩⟩⟩
 ·rw [dD,aaE,eH,if_pos e4]
  show (if oI t2.text=true then _ else _)=_;rw [e5,e3];simp
 ·rw [e6] at h3
  exact (nq n).Yt _ _ _ h3 _ (.inl (vn _ _ _ hc4))
theorem PW {c r' : List Tok} {d:Dec} (h:mg (c++r') = .ok d r') (r2:List Tok):mg (c++r2) = .ok d r2:=by
 have hz:∀(x:Dec) (c r' : List Tok),gp [59] (dL x) (c++r') = .ok d r'->gp [59] (dL x) (c++r2) = .ok d r2:=by
  intro x c r' h;obtain ⟨_,r1,h1,h2⟩:=bind_ok.1 h;obtain ⟨hh,rfl⟩:=mS h1;injection h2 with h2 h3
  obtain ⟨t,ht,ht'⟩:=ia hh (by decide);have:c=[t]:=by
   refine abO (bs:=r') ?_;rw [ht,h3];rfl
  subst this;have hh' : hd ([t]++r2)=[59]:=ht';refine bind_ok.2 ⟨(),r2,by rw [want,if_pos hh'];rfl,by rw [h2];rfl⟩
 rw [nO] at h ⊢;obtain ⟨t,r1,h1,h⟩:=bind_ok.1 h;obtain ⟨q,e1,rfl,hk⟩:=mT h1;have hcons:∀{c:List Tok} {t:Tok} {q:List Tok},c++r' = t::q->r'.length<=q.length->∃c',c=t::c'/\q=c'++r':=by
  intro c t q e hl
  cases c with
  | nil=>have:=congrArg List.length e;simp at this;omega
  | cons a c=>injection e with e1 e2;exact ⟨c,by rw [e1],e2.symm⟩
 have hK:∀(x:Str),IsP 0 (j7 x) (j7 x):=by
  intro x;rw [j7]
  split
  ·exact .bad
  ·refine .name fun s=>?_
   split
   ·exact .skip (d:=0) (by decide) (.inl (by decide)) (.word (by decide) fun _ n=>.want (by decide) (.ret _) (by decide)) (.want (by decide) (.ret _) (by decide)) (by decide)
   ·exact .want (by decide) (.ret _) (by decide)
 obtain ⟨c1,rfl,rfl⟩:=hcons e1 ((hK _).len h);refine bind_ok.2 ⟨t,c1++r2,by rw [aaE,eH,if_pos hk],?_⟩;show j7 t.text (c1++r2)=_;have h:j7 t.text (c1++r') = .ok d r':=h;unfold j7 at h ⊢
 cases hkk:kindOf t.text with
 | none=>rw [hkk] at h;cases h
 | some k=>
  rw [hkk] at h;obtain ⟨s,r1,h1,h⟩:=bind_ok.1 h;obtain ⟨t2,e2,e3,e4,e5⟩:=mU h1;have hl:r'.length<=r1.length:=by
   split at h
   ·exact IsP.len (.skip (d:=0) (g:=0) (by decide) (.inl (by decide)) (.word (by decide) fun _ n=>.want (by decide) (.ret _) (by decide)) (.want (by decide) (.ret _) (by decide)) (by decide)) h
   ·exact IsP.len (.want (g:=0) (by decide) (.ret _) (by decide)) h
  obtain ⟨c2,rfl,rfl⟩:=hcons e2 hl;refine bind_ok.2 ⟨s,c2++r2,?_,?_⟩
  ·rw [dD,aaE,eH,if_pos e4]
   show (if oI t2.text=true then _ else _)=_;rw [e5,e3];simp
  ·by_cases hk0:k=0
   ·rw [if_pos hk0] at h
    rw [if_pos hk0];unfold ei at h ⊢
    split at h
    ·rename_i hh
     obtain ⟨t3,ht3,Zi⟩:=ia hh (by decide);obtain ⟨t4,r4,h4,h⟩:=bind_ok.1 h;obtain ⟨q4,e4',Zj,hk4⟩:=mT h4;subst Zj;have hl4:r'.length<=r4.length:=IsP.len (.want (g:=0) (by decide) (.ret _) (by decide)) h;obtain ⟨c3,rfl,e6⟩:=hcons ht3 (by rw [e4'];simp;omega);rw [e6] at e4';obtain ⟨c4,rfl,rfl⟩:=hcons e4' hl4;have hh' : hd (t3::t4::c4++r2)=[61]:=Zi;rw [if_pos hh'];refine bind_ok.2 ⟨t4,c4++r2,?_,hz _ _ _ h⟩;show eH 2 (t4::(c4++r2))=_;rw [eH,if_pos hk4]
    ·rename_i hh
     rw [if_neg]
     ·exact hz _ _ _ h
     ·have hc:c2≠[]:=by
       rintro rfl;obtain ⟨_,r5,h5,h6⟩:=bind_ok.1 h;have:=(Suf.want (by decide) h5).len;injection h6 with _ h6
       subst h6;simp at this;omega
      rw [vn c2 r2 r' hc];exact hh
   ·rw [if_neg hk0] at h
    rw [if_neg hk0];exact hz _ _ _ h
end Uw.Tryz
namespace Uw.Tryz
open Go Uw
structure Nd where
 kind:Int
 n:Int
 name:Str
 name2:Str
 of:List Int
 deriving DecidableEq,Inhabited
structure Fu where
 name:Str
 args:List Str
 body:Int
 deriving DecidableEq,Inhabited
structure Pg where
 decls:List Dec
 ag:List Fu
 nodes:List Nd
 deriving DecidableEq,Inhabited
def bN (l:List Int):Dat:=.slice 1 (l.map fun i=>[I i]) false
def gV (l:List Str):Dat:=.slice 1 (l.map fun s=>[.str s]) false
def cO (d:Dec):List Dat:=[I d.kind,.str d.name,I d.n]
def fuL (f:Fu):List Dat:=[.str f.name,gV f.args,I f.body]
def ndL (x:Nd):List Dat:=[I x.kind,I x.n,.str x.name,.str x.name2,bN x.of]
def pgD (p:Pg):Dat:=.agg [.slice 3 (p.decls.map cO) false,.slice 3 (p.ag.map fuL) false,.slice 5 (p.nodes.map ndL) false]
def Nod.nd (x:Nod):Nd:=⟨x.kind,x.n,x.name,x.name2,x.of.map fun (i:Nat)=>(i:Int)⟩
def Fn.sz (f:Fn):Nat:=f.body.sz+1
def bX:List Fn->Nat->List Nod
 | [],_=>[]
 | f::fs,b=>f.body.all b++bX fs (b+f.sz)
def kD:List Fn->Nat->List Fu
 | [],_=>[]
 | f::fs,b=>⟨f.name,f.args,((b+f.body.sz:Nat):Int)⟩::kD fs (b+f.sz)
def bR:List Fn->Nat
 | []=>0
 | f::fs=>f.sz+bR fs
theorem jE:∀(fs:List Fn) (b:Nat),(bX fs b).length=bR fs
 | [],_=>rfl
 | f::fs,b=>by simp [bX,bR,Bl.hP,jE fs,Fn.sz]
theorem nr:∀(fs:List Fn) (b:Nat),(kD fs b).length=fs.length
 | [],_=>rfl
 | f::fs,b=>by simp [kD,nr fs]
theorem vo:∀(a c:List Fn) (b:Nat),bX (a++c) b=bX a b++bX c (b+bR a)
 | [],c,b=>by simp [bX,bR]
 | f::fs,c,b=>by simp [bX,bR,vo fs,abw]
theorem Ep:∀(a c:List Fn) (b:Nat),kD (a++c) b=kD a b++kD c (b+bR a)
 | [],c,b=>by simp [kD,bR]
 | f::fs,c,b=>by simp [kD,bR,Ep fs,abw]
theorem tQ:∀(a c:List Fn),bR (a++c)=bR a+bR c
 | [],c=>by simp [bR]
 | f::fs,c=>by simp [bR,tQ fs,abw]
def mW (x:List Dec×List Fn):Pg:=⟨x.1,kD x.2 0,(bX x.2 0).map Nod.nd⟩
def yc:Pg:=⟨[],[],[]⟩
def iw:List Tok->Int->Int->Int
 | [],_,m=>m
 | t::r,d,m=>iw r (d+delta t.text) (max m (d+delta t.text))
def ofR (s:Str):Pg×Int:=
 if (fh s).2≠0 then (yc,(fh s).2)
 else if 40<iw (fh s).1 0 0 then (yc,2)
 else match oZ (fh s).1 with
  | none=>(yc,3)
  | some x=>(mW x,0)
theorem c6 (b x y:Nat):List.range' b (x+y)=List.range' b x++List.range' (b+x) y:=by
 rw [List.range'_append_1]
def ofs (l:List Nod):List Nat:=l.flatMap (·.of)
theorem eS (a b:List Nod):ofs (a++b)=ofs a++ofs b:=by simp [ofs]
theorem j8 (x:Nod):ofs [x]=x.of:=by simp [ofs]
theorem range_one (b:Nat):List.range' b 1=[b]:=rfl
theorem pc {a b:List Nat} (h:a.Perm b) (i:Nat):a.count i=b.count i:=h.count_eq i
mutual
theorem Ex.perm:∀(e:Ex) (b:Nat),(ofs (e.flat b)++[b+e.sz - 1]).Perm (List.range' b e.sz)
 | .num _,b=>by simp [Ex.flat,Ex.sz,ofs]
 | .name _,b=>by simp [Ex.flat,Ex.sz,ofs]
 | .bin k x y,b=>by
  have h1:=fun i=>pc (x.perm b) i;have h2:=fun i=>pc (y.perm (b+x.sz)) i;refine abm.2 fun i=>?_;have h1:=h1 i;have h2:=h2 i;rw [Ex.flat,Ex.sz,c6,c6,eS,eS,j8,range_one,show b+(x.sz+y.sz+1) - 1=b+(x.sz+y.sz) by omega];simp only [abo,abx,abH] at *;omega
 | .call o v ar,b=>by
  have h1:=fun i=>pc (ar.perm b) i;refine abm.2 fun i=>?_;have h1:=h1 i;rw [Ex.flat,Ex.sz,c6,eS,j8,range_one,show b+(ar.sz+1) - 1=b+ar.sz by omega];simp only [abo,abx,abH] at *;omega
theorem Exs.perm:∀(e:Exs) (b:Nat),(ofs (e.flat b)++e.places b).Perm (List.range' b e.sz)
 | .nil,b=>by simp [Exs.flat,Exs.sz,ofs,Exs.places]
 | .cons e r,b=>by
  have h1:=fun i=>pc (e.perm b) i;have h2:=fun i=>pc (r.perm (b+e.sz)) i;refine abm.2 fun i=>?_;have h1:=h1 i;have h2:=h2 i;rw [Exs.flat,Exs.sz,Exs.places,c6,eS];simp only [abo,abx,abH] at *;omega
end
theorem Bl.sH (x:Bl) (b:Nat) (h:(ofs (x.flat b)++x.places b).Perm (List.range' b x.sz)):(ofs (x.all b)++[b+x.sz]).Perm (List.range' b (x.sz+1)):=by
 rw [Bl.all,eS,j8,c6,range_one];exact h.append_right _
mutual
theorem Stm.perm:∀(e:Stm) (b:Nat),(ofs (e.flat b)++[b+e.sz - 1]).Perm (List.range' b e.sz)
 | .set s e,b=>by
  refine abm.2 fun i=>?_;have h1:=pc (e.perm b) i;rw [Stm.flat,Stm.sz,c6,eS,j8,range_one,show b+(e.sz+1) - 1=b+e.sz by omega];simp only [abo,abx,abH] at *;omega
 | .task par to f ar,b=>by
  refine abm.2 fun i=>?_;have h1:=pc (ar.perm b) i;rw [Stm.flat,Stm.sz,c6,eS,j8,range_one,show b+(ar.sz+1) - 1=b+ar.sz by omega];simp only [abo,abx,abH] at *;omega
 | .sync,b=>by simp [Stm.flat,Stm.sz,ofs]
 | .if1 e x,b=>by
  refine abm.2 fun i=>?_;have h1:=pc (e.perm b) i;have h2:=pc (x.sH (b+e.sz) (x.perm _)) i;rw [show Stm.flat (.if1 e x) b=e.flat b++x.all (b+e.sz)++[⟨13,0,[],[],[b+e.sz - 1,b+e.sz+(x.sz+1) - 1]⟩] from rfl,Stm.sz,c6,c6,eS,eS,j8,range_one,show b+(e.sz+(x.sz+1)+1) - 1=b+(e.sz+(x.sz+1)) by omega,show b+e.sz+(x.sz+1) - 1=b+e.sz+x.sz by omega];simp only [abo,abx,abH] at *;omega
 | .if2 e x y,b=>by
  refine abm.2 fun i=>?_;have h1:=pc (e.perm b) i;have h2:=pc (x.sH (b+e.sz) (x.perm _)) i;have h3:=pc (y.sH (b+e.sz+(x.sz+1)) (y.perm _)) i;rw [show Stm.flat (.if2 e x y) b=e.flat b++x.all (b+e.sz)++y.all (b+e.sz+(x.sz+1))++[⟨13,0,[],[],[b+e.sz - 1,b+e.sz+(x.sz+1) - 1,b+e.sz+(x.sz+1)+(y.sz+1) - 1]⟩] from rfl,Stm.sz,c6,c6,c6,eS,eS,eS,j8,range_one,show b+(e.sz+(x.sz+1)+(y.sz+1)+1) - 1=b+(e.sz+(x.sz+1)+(y.sz+1)) by omega,show b+e.sz+(x.sz+1) - 1=b+e.sz+x.sz by omega,show b+e.sz+(x.sz+1)+(y.sz+1) - 1=b+e.sz+(x.sz+1)+y.sz by omega,show b+(e.sz+(x.sz+1))=b+e.sz+(x.sz+1) by omega];simp only [abo,abx,abH] at *;omega
 | .loop e x,b=>by
  refine abm.2 fun i=>?_;have h1:=pc (e.perm b) i;have h2:=pc (x.sH (b+e.sz) (x.perm _)) i;rw [show Stm.flat (.loop e x) b=e.flat b++x.all (b+e.sz)++[⟨14,0,[],[],[b+e.sz - 1,b+e.sz+(x.sz+1) - 1]⟩] from rfl,Stm.sz,c6,c6,eS,eS,j8,range_one,show b+(e.sz+(x.sz+1)+1) - 1=b+(e.sz+(x.sz+1)) by omega,show b+e.sz+(x.sz+1) - 1=b+e.sz+x.sz by omega];simp only [abo,abx,abH] at *;omega
 | .one k e,b=>by
  refine abm.2 fun i=>?_;have h1:=pc (e.perm b) i;rw [Stm.flat,Stm.sz,c6,eS,j8,range_one,show b+(e.sz+1) - 1=b+e.sz by omega];simp only [abo,abx,abH] at *;omega
 | .act o v ar,b=>by
  refine abm.2 fun i=>?_;have h1:=pc (ar.perm b) i;rw [Stm.flat,Stm.sz,c6,c6,eS,eS,j8,j8,range_one,range_one,show b+ar.sz+1 - 1=b+ar.sz by omega,show b+(ar.sz+1+1) - 1=b+(ar.sz+1) by omega];simp only [abo,abx,abH] at *;omega
theorem Bl.perm:∀(e:Bl) (b:Nat),(ofs (e.flat b)++e.places b).Perm (List.range' b e.sz)
 | .nil,b=>by simp [Bl.flat,Bl.sz,ofs,Bl.places]
 | .cons e r,b=>by
  refine abm.2 fun i=>?_;have h1:=pc (e.perm b) i;have h2:=pc (r.perm (b+e.sz)) i;rw [Bl.flat,Bl.sz,Bl.places,c6,eS];simp only [abo,abx,abH] at *;omega
end
def bodies:List Fn->Nat->List Nat
 | [],_=>[]
 | f::fs,b=>(b+f.body.sz)::bodies fs (b+f.sz)
theorem yM:∀(fs:List Fn) (b:Nat),(ofs (bX fs b)++bodies fs b).Perm (List.range' b (bR fs))
 | [],b=>by simp [bX,bR,ofs,bodies]
 | f::fs,b=>by
  refine abm.2 fun i=>?_;have h1:=pc (f.body.sH b (f.body.perm b)) i;have h2:=pc (yM fs (b+f.sz)) i;rw [bX,bR,bodies,c6,eS];rw [<- Fn.sz] at h1;simp only [abo,abx,abH] at *;omega
def Low (b:Nat):List Nod->Prop
 | []=>True
 | x::r=>(∀c∈x.of,c<b)/\Low (b+1) r
theorem Low.app:∀{x y:List Nod} {b:Nat},Low b x->Low (b+x.length) y->Low b (x++y)
 | [],y,b,_,h=>h
 | a::x,y,b,⟨h1,h2⟩,h=>⟨h1,h2.app (by rw [aaA] at h;rwa [show b+1+x.length=b+(x.length+1) by omega])⟩
theorem Low.at:∀{x:List Nod} {b:Nat},Low b x->∀(j:Nat) (h:j<x.length),∀c∈x[j].of,c<b+j
 | [],_,_,j,h=>by simp at h
 | a::x,b,⟨h1,h2⟩,0,_=>h1
 | a::x,b,⟨h1,h2⟩,j+1,h=>by
  intro c hc;have:=h2.at j (by simpa using h) c hc;omega
theorem Low.one {b:Nat} {x:Nod} (h:∀c∈x.of,c<b):Low b [x]:=⟨h,trivial⟩
theorem Exs.kQ:∀(e:Exs) (b:Nat),∀c∈e.places b,c<b+e.sz
 | .nil,_,c,h=>by simp [Exs.places] at h
 | .cons e r,b,c,h=>by
  rw [Exs.places] at h;have:=e.dS
  rcases aaN.1 h with rfl|h
  ·rw [Exs.sz];omega
  ·have:=r.kQ _ c h
   rw [Exs.sz];omega
theorem Bl.kQ:∀(e:Bl) (b:Nat),∀c∈e.places b,c<b+e.sz
 | .nil,_,c,h=>by simp [Bl.places] at h
 | .cons e r,b,c,h=>by
  rw [Bl.places] at h;have:=e.dS
  rcases aaN.1 h with rfl|h
  ·rw [Bl.sz];omega
  ·have:=r.kQ _ c h
   rw [Bl.sz];omega
mutual
theorem Ex.low:∀(e:Ex) (b:Nat),Low b (e.flat b)
 | .num _,b=>⟨by simp,trivial⟩
 | .name _,b=>⟨by simp,trivial⟩
 | .bin k x y,b=>by
  have:=x.dS;have:=y.dS;exact ((x.low b).app (by rw [Ex.au];exact y.low _)).app (Low.one (by simp [Ex.au];omega))
 | .call o v ar,b=>(ar.low b).app (Low.one (by rw [Exs.au];exact ar.kQ b))
theorem Exs.low:∀(e:Exs) (b:Nat),Low b (e.flat b)
 | .nil,b=>trivial
 | .cons e r,b=>(e.low b).app (by rw [Ex.au];exact r.low _)
end
theorem Bl.zD {x:Bl} {b:Nat} (h:Low b (x.flat b)):Low b (x.all b):=h.app (Low.one (by rw [Bl.au];exact x.kQ b))
mutual
theorem Stm.low:∀(e:Stm) (b:Nat),Low b (e.flat b)
 | .set s e,b=>(e.low b).app (Low.one (by have:=e.dS;simp [Ex.au];omega))
 | .task par to f ar,b=>(ar.low b).app (Low.one (by rw [Exs.au];exact ar.kQ b))
 | .sync,b=>⟨by simp,trivial⟩
 | .if1 e x,b=>by
  have:=e.dS;exact ((e.low b).app (by rw [Ex.au];exact Bl.zD (x.low _))).app (Low.one (by simp [Ex.au,Bl.au];omega))
 | .if2 e x y,b=>by
  have:=e.dS;exact (((e.low b).app (by rw [Ex.au];exact Bl.zD (x.low _))).app (by
   rw [aaw,Ex.au,show (x.flat (b+e.sz)++[(⟨18,0,[],[],x.places (b+e.sz)⟩:Nod)]).length=x.sz+1 from x.hP _,<- abw];exact Bl.zD (y.low _))).app (Low.one (by simp [Ex.au,Bl.au];omega))
 | .loop e x,b=>by
  have:=e.dS;exact ((e.low b).app (by rw [Ex.au];exact Bl.zD (x.low _))).app (Low.one (by simp [Ex.au,Bl.au];omega))
 | .one k e,b=>(e.low b).app (Low.one (by have:=e.dS;simp [Ex.au];omega))
 | .act o v ar,b=>((ar.low b).app (Low.one (by rw [Exs.au];exact ar.kQ b))).app (Low.one (by simp [Exs.au]))
theorem Bl.low:∀(e:Bl) (b:Nat),Low b (e.flat b)
 | .nil,b=>trivial
 | .cons e r,b=>(e.low b).app (by rw [Stm.au];exact r.low _)
end
end Uw.Tryz
namespace Uw.Tryz
open Go Uw
def HU (s:Str):Prop:=bu s=some (1,s.length,0)
def dq (s:Str):Prop:=HU s/\oI s=false
def nP (n:Int):Prop:=0<=n/\n<4294967296
structure uK (t:Tok):Prop where
 name:t.kind=1->HU t.text
 num:t.kind=2->nP t.n
 wf:Wf t
mutual
def Ex.good:Ex->Prop
 | .num n=>nP n
 | .name s=>dq s
 | .bin k a b=>(3<=k/\k<=7)/\a.good/\b.good
 | .call o v ar=>dq o/\dq v/\ar.good
def Exs.good:Exs->Prop
 | .nil=>True
 | .cons e r=>e.good/\r.good
end
mutual
def Stm.good:Stm->Prop
 | .set s e=>dq s/\e.good
 | .task par to f ar=>(to=[]\/dq to)/\dq f/\ar.good/\(par=true->ar.length=2)
 | .sync=>True
 | .if1 e a=>e.good/\a.good
 | .if2 e a b=>e.good/\a.good/\b.good
 | .loop e a=>e.good/\a.good
 | .one k e=>(k=15\/k=16)/\e.good
 | .act o v ar=>dq o/\dq v/\ar.good
def Bl.good:Bl->Prop
 | .nil=>True
 | .cons s r=>s.good/\r.good
end
structure Dec.good (d:Dec):Prop where
 kind:0<=d.kind/\d.kind<=3
 name:dq d.name
 n:nP d.n
 zero:d.kind≠0->d.n=0
structure Fn.good (f:Fn):Prop where
 name:dq f.name
 args:∀s∈f.args,dq s
 body:f.body.good
def VV {α:Type} (p:List Tok->R α) (Q:α->Prop):Prop:=∀r a r',(∀t∈r,uK t)->p r = .ok a r'->Q a/\∀t∈r',uK t
section
variable {α β : Type} {Q : α -> Prop} {Q1 : β -> Prop}
theorem VV.ret {a:α} (h:Q a):VV (dL a) Q:=by
 intro r b r' ht he;injection he with h1 h2
 subst h1 h2;exact ⟨h,ht⟩
theorem VV.bad:VV (JF (α:=α)) Q:=by intro r b r' ht he;cases he
theorem VV.out:VV (fun _=>(.out:R α)) Q:=by intro r b r' ht he;cases he
theorem VV.bind {p:List Tok->R β} {f:β->List Tok->R α} (h1:VV p Q1) (h2:∀b,Q1 b->VV (f b) Q):VV (cI p f) Q:=by
 intro r a r' ht he;obtain ⟨b,r1,e1,e2⟩:=bind_ok.1 he;obtain ⟨g1,g2⟩:=h1 _ _ _ ht e1;exact h2 b g1 _ _ _ g2 e2
theorem VV.want {s:Str} {p:List Tok->R α} (h:VV p Q):VV (gp s p) Q:=by
 intro r a r' ht he;obtain ⟨b,r1,e1,e2⟩:=bind_ok.1 he;obtain ⟨_,rfl⟩:=mS e1;exact h _ _ _ (fun t h=>ht t (abZ h)) e2
theorem VV.skip {s:Str} {p q:List Tok->R α} (h1:VV p Q) (h2:VV q Q):VV (ei s p q) Q:=by
 intro r a r' ht he;unfold ei at he
 split at he
 ·exact h1 _ _ _ (fun t h=>ht t (abZ h)) he
 ·exact h2 _ _ _ ht he
theorem VV.peek {s:Str} {p q:List Tok->R α} (h1:VV p Q) (h2:VV q Q):VV (hQ s p q) Q:=by
 intro r a r' ht he;unfold hQ at he
 split at he
 ·exact h1 _ _ _ ht he
 ·exact h2 _ _ _ ht he
theorem VV.name {f:Str->List Tok->R α} (h:∀s,dq s->VV (f s) Q):VV (cName f) Q:=by
 intro r a r' ht he;obtain ⟨b,r1,e1,e2⟩:=bind_ok.1 he;obtain ⟨t,rfl,rfl,h4,h5⟩:=mU e1;exact h _ ⟨(ht t (aaV ..)).name h4,h5⟩ _ _ _ (fun t h=>ht t (aaL _ h)) e2
theorem VV.word {k:Int} {f:Str->Int->List Tok->R α} (h:∀s n,(k=2->nP n)->VV (f s n) Q):VV (AA k f) Q:=by
 intro r a r' ht he;obtain ⟨t,r1,e1,e2⟩:=bind_ok.1 he;obtain ⟨q,rfl,rfl,h4⟩:=mT e1;exact h _ _ (fun e=>(ht t (aaV ..)).num (by omega)) _ _ _ (fun t h=>ht t (aaL _ h)) e2
theorem VV.num {f:Int->List Tok->R α} {q:List Tok->R α} (h1:∀n,nP n->VV (f n) Q) (h2:VV q Q):VV (wm f q) Q:=by
 intro r a r' ht he;unfold wm at he
 split at he
 ·rename_i hn
  cases r with
  | nil=>cases hn
  | cons t l=>
   have hk:t.kind=2:=by simpa [isNum] using hn
   exact h1 _ ((ht t (aaV ..)).num hk) _ _ _ (fun t h=>ht t (aaL _ h)) he
 ·exact h2 _ _ _ ht he
theorem VV.mono {Q' : α->Prop} {p:List Tok->R α} (h:VV p Q) (hq:∀a,Q a->Q' a):VV p Q':=fun r a r' ht he=>⟨hq a (h r a r' ht he).1,(h r a r' ht he).2⟩
end
theorem kR {α:Type} {Q:α->Prop} {p:List Tok->R α} (h:∀r,p r = .out):VV p Q:=by
 intro r a r' _ he;rw [h] at he;cases he
structure VE (n:Nat):Prop where
 pK:VV (gl n) Ex.good
 call:∀s,VV (gm n s) fun x=>dq x.1/\x.2.good
 args:VV (fY n) Exs.good
 qj:VV (dF n) Exs.good
 prod:VV (fA n) Ex.good
 oU:∀l,l.good->VV (dC n l) Ex.good
 sum:VV (j6 n) Ex.good
 sumT:∀l,l.good->VV (eI n l) Ex.good
 expr:VV (da n) Ex.good
theorem ve:∀n,VE n
 | 0=>⟨kR fun r=>by rw [gl],fun s=>kR fun r=>by rw [gm],kR fun r=>by rw [fY],kR fun r=>by rw [dF],kR fun r=>by rw [fA],fun l _=>kR fun r=>by rw [dC],kR fun r=>by rw [j6],fun l _=>kR fun r=>by rw [eI],kR fun r=>by rw [da]⟩
 | n+1=>by
  have ih:=ve n;refine ⟨?_,?_,?_,?_,?_,?_,?_,?_,?_⟩
  ·rw [lA n]
   exact .skip (.bind ih.expr fun e he=>.want (.ret he)) (.num (fun v hv=>.ret hv) (.name fun s hs=>.peek (.bind (ih.call s) fun x hx=>.ret ⟨hs,hx.1,hx.2⟩) (.ret hs)))
  ·intro s
   rw [ql n];exact .want (.name fun v hv=>.bind ih.args fun ar har=>.ret ⟨hv,har⟩)
  ·rw [qm n]
   exact .want (.skip (.ret trivial) (.bind ih.expr fun e he=>.bind ih.qj fun es hes=>.ret ⟨he,hes⟩))
  ·rw [nh n]
   exact .skip (.bind ih.expr fun e he=>.bind ih.qj fun es hes=>.ret ⟨he,hes⟩) (.want (.ret trivial))
  ·rw [sG n]
   exact .bind ih.pK fun e he=>ih.oU e he
  ·intro l hl
   rw [ni n];exact .skip (.bind ih.pK fun e he=>ih.oU _ ⟨by omega,hl,he⟩) (.ret hl)
  ·rw [wn n]
   exact .bind ih.prod fun e he=>ih.sumT e he
  ·intro l hl
   rw [nM n];exact .skip (.bind ih.prod fun e he=>ih.sumT _ ⟨by omega,hl,he⟩) (.skip (.bind ih.prod fun e he=>ih.sumT _ ⟨by omega,hl,he⟩) (.ret hl))
  ·rw [nN n]
   exact .bind ih.sum fun l hl=>.skip (.bind ih.sum fun e he=>.ret ⟨by omega,hl,he⟩) (.skip (.bind ih.sum fun e he=>.ret ⟨by omega,hl,he⟩) (.ret hl))
theorem wq (n:Nat) (to:Str) (hto:to=[]\/dq to):VV (eu n to) Stm.good:=by
 rw [nj n];refine .bind (Q1:=fun _=>True) (.skip (.ret trivial) (.want (.ret trivial))) fun par _=>.name fun f hf=>.bind (ve n).args fun ar har=>?_
 split
 ·exact .bad
 ·rename_i h
  refine .ret ⟨hto,hf,har,fun hp=>?_⟩;exact Classical.byContradiction fun hn=>h ⟨hp,hn⟩
theorem M1 (n:Nat):VV (fP n) Stm.good:=by
 rw [ew n];exact .peek (wq n [] (.inl rfl)) (.peek (wq n [] (.inl rfl)) (.skip (.ret trivial) (.skip (.bind (ve n).expr fun e he=>.ret ⟨.inl rfl,he⟩) (.skip (.bind (ve n).expr fun e he=>.ret ⟨.inr rfl,he⟩)
  (.name fun s hs=>.peek (.bind ((ve n).call s) fun x hx=>.ret ⟨hs,hx.1,hx.2⟩) (.want (.peek (wq n s (.inr hs)) (.peek (wq n s (.inr hs)) (.bind (ve n).expr fun e he=>.ret ⟨hs,he⟩)))))))))
structure VS (n:Nat):Prop where
 stmt:VV (gU n) Stm.good
 block:VV (cN n) Bl.good
 stmts:VV (cT n) Bl.good
theorem vs_:∀n,VS n
 | 0=>⟨kR fun r=>by rw [gU],kR fun r=>by rw [cN],kR fun r=>by rw [cT]⟩
 | n+1=>by
  have ih:=vs_ n;refine ⟨?_,?_,?_⟩
  ·rw [lB n]
   exact .skip (.bind (ve n).expr fun e he=>.bind ih.block fun a ha=>.skip (.bind ih.block fun b hb=>.ret ⟨he,ha,hb⟩) (.ret ⟨he,ha⟩)) (.skip (.bind (ve n).expr fun e he=>.bind ih.block fun a ha=>.ret ⟨he,ha⟩) (.bind (M1 n) fun s hs=>.want (.ret hs)))
  ·rw [qn n]
   exact .want ih.stmts
  ·rw [nk n]
   exact .skip (.ret trivial) (.bind ih.stmt fun s hs=>.bind ih.stmts fun ss hss=>.ret ⟨hs,hss⟩)
theorem Es:∀n,VV (cq n) fun l=>∀s∈l,dq s
 | 0=>kR fun r=>by rw [cq]
 | n+1=>by
  rw [kP n];refine .skip (.name fun s hs=>.bind (Es n) fun l hl=>.ret ?_) (.want (.ret (by simp)));intro x hx
  rcases aaN.1 hx with rfl|hx
  ·exact hs
  ·exact hl x hx
theorem WL (n:Nat):VV (lZ n) Fn.good:=by
 rw [tL n];refine .want (.name fun s hs=>.bind (Q1:=fun l=>∀s∈l,dq s) ?_ fun l hl=>.bind (vs_ n).block fun b hb=>.ret ⟨hs,hl,hb⟩);rw [np n];refine .want (.skip (.ret (by simp)) (.name fun s hs=>.bind (Es n) fun l hl=>.ret ?_));intro x hx
 rcases aaN.1 hx with rfl|hx
 ·exact hs
 ·exact hl x hx
theorem M3 {s:Str} {k:Int} (h:kindOf s=some k):0<=k/\k<=3:=by
 unfold kindOf at h
 repeat' split at h
 all_goals first|(injection h with h;omega)|cases h
theorem Yu:nP 0:=⟨by decide,by decide⟩
theorem S3:VV mg Dec.good:=by
 rw [nO];refine .word fun t _ _=>?_;unfold j7
 cases hk:kindOf t with
 | none=>exact .bad
 | some k=>
  have:=M3 hk;refine .name fun s hs=>?_;show VV (if k=0 then _ else _) _
  split
  ·exact .skip (.word fun _ n hn=>.want (.ret ⟨this,hs,hn rfl,fun h=>absurd ‹k=0› h⟩)) (.want (.ret ⟨this,hs,Yu,fun h=>rfl⟩))
  ·exact .want (.ret ⟨this,hs,Yu,fun h=>rfl⟩)
theorem oJ.good {r r' : List Tok} {ds:List Dec} (h:oJ r ds r'):(∀t∈r,uK t)->(∀d∈ds,d.good)/\∀t∈r',uK t:=by
 induction h with
 | stop _=>exact fun ht=>⟨by simp,ht⟩
 | cons _ h1 _ ih=>
  intro ht;obtain ⟨g1,g2⟩:=S3 _ _ _ ht h1;obtain ⟨g3,g4⟩:=ih g2;exact ⟨fun d hd=>(aaN.1 hd).elim (fun e=>e ▸ g1) (g3 d),g4⟩
theorem mV.good {r:List Tok} {fs:List Fn} (h:mV r fs):(∀t∈r,uK t)->∀f∈fs,f.good:=by
 induction h with
 | nil=>exact fun ht=>by simp
 | cons h1 _ ih=>
  intro ht;obtain ⟨n,h1⟩:=h1;obtain ⟨g1,g2⟩:=WL n _ _ _ ht h1;exact fun d hd=>(aaN.1 hd).elim (fun e=>e ▸ g1) (ih g2 d)
theorem Prg.good {l:List Tok} {ds:List Dec} {fs:List Fn} (h:Prg l ds fs) (ht:∀t∈l,uK t):(∀d∈ds,d.good)/\∀f∈fs,f.good:=by
 obtain ⟨r,h1,h2⟩:=h;obtain ⟨g1,g2⟩:=h1.good ht;exact ⟨g1,h2.good g2⟩
theorem ib {α:Type} (p:α->Bool):∀(l:List α),l.take (l.takeWhile p).length=l.takeWhile p
 | []=>rfl
 | a::l=>by
  rw [aa1];by_cases h:p a=true
  ·rw [if_pos h,aaA,abd,ib p l]
  ·rw [if_neg h];rfl
theorem l5 {α:Type} (p:α->Bool):∀(l:List α),(l.takeWhile p).takeWhile p=l.takeWhile p
 | []=>rfl
 | a::l=>by
  rw [aa1];by_cases h:p a=true
  ·rw [if_pos h,aa1,if_pos h,l5 p l]
  ·rw [if_neg h];rfl
theorem mh {α:Type} (p:α->Bool):∀(l:List α),(l.takeWhile p).dropWhile p=[]
 | []=>rfl
 | a::l=>by
  rw [aa1];by_cases h:p a=true
  ·rw [if_pos h,ab6,if_pos h,mh p l]
  ·rw [if_neg h];rfl
theorem AH {r:List UInt8} {k:Int} {n:Nat} {v:Int} (h:bu r=some (k,n,v)):bu (r.take n)=some (k,n,v)/\(k=1\/k=2\/k=3)/\(k=2->nP v)/\(k=1->v=0):=by
 cases r with
 | nil=>simp [bu] at h
 | cons c t=>
  rw [bu] at h;by_cases a1:cls c=1
  ·rw [if_pos a1] at h
   split at h
   ·rename_i hl
    simp only [aaP,abf] at h;obtain ⟨rfl,rfl,rfl⟩:=h;refine ⟨?_,.inl rfl,fun h=>by omega,fun _=>rfl⟩;rw [abX,abd,ib,bu,if_pos a1,l5,if_pos hl,abX]
   ·cases h
  ·rw [if_neg a1] at h
   by_cases a2:cls c=2
   ·rw [if_pos a2] at h
    split at h
    ·rename_i hl
     simp only [aaP,abf] at h;obtain ⟨rfl,rfl,rfl⟩:=h;obtain ⟨h1,h2,h3,h4⟩:=hl;refine ⟨?_,.inr (.inl rfl),fun h=>⟨by omega,by omega⟩,fun h=>by omega⟩;rw [abX,abd,ib,bu,if_neg a1,if_pos a2,l5,mh,if_pos ⟨h1,h2,h3,rfl⟩,abX]
    ·cases h
   ·rw [if_neg a2] at h
    by_cases a5:cls c=5
    ·rw [if_pos a5] at h
     split at h
     ·rename_i hq
      simp only [aaP,abf] at h;obtain ⟨rfl,rfl,rfl⟩:=h
      cases t with
      | nil=>simp [eqq] at hq
      | cons b u=>
       refine ⟨?_,.inr (.inr rfl),fun h=>by omega,fun h=>by omega⟩;show bu [c,b]=_;rw [bu,if_neg a1,if_neg a2,if_pos a5,if_pos ⟨hq.1,by have:=hq.2;simpa [eqq] using this⟩]
     ·rename_i hq
      simp only [aaP,abf] at h;obtain ⟨rfl,rfl,rfl⟩:=h;refine ⟨?_,.inr (.inr rfl),fun h=>by omega,fun h=>by omega⟩;show bu [c]=_;rw [bu,if_neg a1,if_neg a2,if_pos a5,if_neg (by simp [eqq])]
    ·rw [if_neg a5] at h;cases h
theorem JJ {s:Str} (h:delta s≠0):∃c,s=[c]/\cls c=5:=by
 unfold delta at h
 split at h
 ·rename_i h1
  rcases h1 with rfl|rfl
  ·exact ⟨_,rfl,by decide⟩
  ·exact ⟨_,rfl,by decide⟩
 ·split at h
  ·rename_i h1
   rcases h1 with rfl|rfl
   ·exact ⟨_,rfl,by decide⟩
   ·exact ⟨_,rfl,by decide⟩
  ·exact absurd rfl h
theorem PX {r:List UInt8} {k:Int} {n:Nat} {v:Int} (h:bu r=some (k,n,v)) (a:Int):uK ⟨k,r.take n,v,a⟩:=by
 obtain ⟨h1,h2,h3,h4⟩:=AH h;have hl:=ft h;refine ⟨fun hk=>?_,h3,fun hk=>?_⟩
 ·have hk:k=1:=hk
  subst hk;show bu (r.take n)=some (1,(r.take n).length,0);rw [h1,h4 rfl,aa5,acE hl.2]
 ·refine Classical.byContradiction fun hd=>?_
  obtain ⟨c,e,hc⟩:=JJ hd;have e:r.take n=[c]:=e;rw [e] at h1;rw [bu,if_neg (by omega),if_neg (by omega),if_pos hc,if_neg (by simp [eqq])] at h1;injection h1 with h1
  injection h1 with h1 _
  exact hk h1.symm
theorem FH:∀(f:Nat) (r:List UInt8) (a:Int) (l:List Tok),iu f r a=some l->∀t∈l,uK t
 | 0,[],a,l,h=>by rw [iu] at h;injection h with h;subst h;simp
 | _+1,[],a,l,h=>by rw [iu] at h;injection h with h;subst h;simp
 | 0,c::t,a,l,h=>by unfold iu at h;cases h
 | f+1,c::t,a,l,h=>by
  rw [iu] at h
  split at h
  ·exact FH f _ _ _ h
  ·split at h
   ·cases h
   ·rename_i k n v ht
    rw [aaC] at h;obtain ⟨l',h1,rfl⟩:=h;intro x hx
    rcases aaN.1 hx with rfl|hx
    ·exact PX ht a
    ·exact FH f _ _ _ h1 x hx
theorem HV (s:List UInt8):∀t∈(fh s).1,uK t:=by
 unfold fh
 split
 ·simp
 ·split
  ·simp
  ·rename_i l h
   exact FH _ _ _ _ h
end Uw.Tryz
namespace Uw.Tryz
open Go Uw
def bP (k:Int):Int:=if k=6 then 0 else if k=7 then 0 else if k=3 then 1 else if k=4 then 1 else if k=5 then 2 else 3
def lC (k:Int):Str:=if k=6 then [60] else if k=7 then [61,61] else if k=3 then [43] else if k=4 then [45] else if k=5 then [42] else []
mutual
def wEx:Ex->Int->List Str
 | .num n,_=>[Lib.itoa n]
 | .name s,_=>[s]
 | .bin k a b,l=>if bP k<l then [[40]]++(wEx a (max (bP k) 1)++[lC k]++wEx b (bP k+1))++[[41]] else wEx a (max (bP k) 1)++[lC k]++wEx b (bP k+1)
 | .call o v ar,_=>[o,[46],v]++([[40]]++gG ar++[[41]])
def gG:Exs->List Str
 | .nil=>[]
 | .cons e r=>wEx e 0++eK r
def eK:Exs->List Str
 | .nil=>[]
 | .cons e r=>[[44]]++wEx e 0++eK r
end
def dT (ar:Exs):List Str:=[[40]]++gG ar++[[41]]
mutual
def db:Stm->List Str
 | .set s e=>[s,[61]]++wEx e 0++[[59]]
 | .task par to f ar=>(if to=[] then [] else [to,[61]])++[if par then dZ else bT,f]++dT ar++[[59]]
 | .sync=>[jM]++[[59]]
 | .if1 e a=>[sIf]++wEx e 0++([[123]]++wBl a++[[125]])
 | .if2 e a b=>[sIf]++wEx e 0++([[123]]++wBl a++[[125]])++[ja]++([[123]]++wBl b++[[125]])
 | .loop e a=>[fX]++wEx e 0++([[123]]++wBl a++[[125]])
 | .one k e=>[if k=15 then dW else dM]++wEx e 0++[[59]]
 | .act o v ar=>wEx (.call o v ar) 0++[[59]]
def wBl:Bl->List Str
 | .nil=>[]
 | .cons s r=>db s++wBl r
end
def df (b:Bl):List Str:=[[123]]++wBl b++[[125]]
def ix (k:Int):Str:=if k=0 then kC else if k=1 then JE else if k=2 then vm else Ax
def eL (d:Dec):List Str:=[ix d.kind,d.name]++(if d.n≠0 then [[61],Lib.itoa d.n] else [])++[[59]]
def ej:List Str->List Str
 | []=>[]
 | s::r=>[s]++r.flatMap fun s=>[[44],s]
def wFn (f:Fn):List Str:=[fW,f.name,[40]]++ej f.args++[[41]]++df f.body
def nQ (x:List Dec×List Fn):List Str:=x.1.flatMap eL++x.2.flatMap wFn
def jN (s:Str):Bool:=match s with
 | []=>false
 | c::_=>(decide (97<=c.toNat)&&decide (c.toNat<=122))||(decide (65<=c.toNat)&&decide (c.toNat<=90))||(decide (48<=c.toNat)&&decide (c.toNat<=57))
def dw:Str->List Str->List UInt8
 | _,[]=>[]
 | a,s::r=>(if jN a&&jN s then [32] else [])++s++dw s r
mutual
theorem fQ:∀(e:Ex) (l:Int),(wEx e l).length+1<=7 * e.sz
 | .num _,_=>by simp [wEx,Ex.sz]
 | .name _,_=>by simp [wEx,Ex.sz]
 | .bin k a b,l=>by
  have h1:=fQ a (max (bP k) 1);have h2:=fQ b (bP k+1);rw [wEx,Ex.sz]
  split<;>simp<;>omega
 | .call o v ar,_=>by
  have:=wu ar;rw [wEx,Ex.sz];simp;omega
theorem wu:∀(e:Exs),(gG e).length<=7 * e.sz
 | .nil=>by simp [gG]
 | .cons e r=>by
  have h1:=fQ e 0;have h2:=Et r;rw [gG,Exs.sz];simp;omega
theorem Et:∀(e:Exs),(eK e).length<=7 * e.sz
 | .nil=>by simp [eK]
 | .cons e r=>by
  have h1:=fQ e 0;have h2:=Et r;have:=e.dS;rw [eK,Exs.sz];simp;omega
end
end Uw.Tryz
