/- Y5: Sa Xa Pa Pa2 Pa3 Pt Pu Pv Ja Pw Ps (merged by merge2.py from the working texts). -/
import Derived.Test.YtkmkjfkpnmhaiaaGreatDoorY3
import Derived.Test.YtkmkjfkpnmhaiaaGreatDoorProg
import Derived.Lib.LaidTab
import Derived.LaidSub
import Derived.MakeChecks
import Derived.Lib.ItoaNum
import Derived.KernelRfl
import Derived.Lib.Join
set_option linter.unusedSimpArgs false
set_option linter.unnecessarySimpa false
set_option linter.unusedVariables false
set_option linter.unusedSectionVars false
namespace Uw.Tryz
open Go Uw
noncomputable abbrev P0:Program:=Go.Proofs.Tryz.prog
theorem SO:P0.globalNamed "internal/strconv.uint64pow10" = some 1:=by kernel_rfl
noncomputable instance glob:Glob where
 n:=1+1
 p:=fun w=>Lib.TabIs P0 w "internal/strconv.uint64pow10" .u64 Lib.pow10Tab
 ok:=by
  intro w w' h hp;unfold Lib.TabIs World.var? at *;rw [SO] at hp ⊢;simp only [YT] at hp ⊢;rw [h 1 (by decide)];exact hp
theorem gok {W:World} {l:List (String×DataW Unit)} (h:laidMetH P0 l W) (hl:(l.filter fun x=>x.1 == "internal/strconv.uint64pow10")=[("internal/strconv.uint64pow10",Lib.tabData .u64 Lib.pow10Tab)]) {t e:TypeId} (hty:(P0.globals[1]?).map (·.type)=some t) (ht:P0.underlying t=some (.array 20 e)) (he:P0.underlying e=some (.int .u64)) (hce:P0.cellsOf e=1) (hct:P0.cellsOf t=20):GOk W.heap.size W:=by
 have h1:=laidMetH.filter (fun x=>x.1 == "internal/strconv.uint64pow10") h;rw [hl,MakeChecks.laidMetH_plain _ _ _ rfl] at h1;have h2:Lib.TabIs P0 W "internal/strconv.uint64pow10" .u64 Lib.pow10Tab:=Lib.tabIs_of_head SO hty ht he hce hct h1;refine ⟨Xn _,?_,h2⟩;show 1+1<=W.heap.size;unfold Lib.TabIs World.var? at h2;rw [SO] at h2;simp only [YT] at h2
 rcases XR 1 W.heap.size with h3|h3
 ·exact h3
 ·rw [YX h3] at h2
  simp at h2
end Uw.Tryz
namespace Uw.Tryz
open Go Uw
abbrev I (n:Int):Dat:=.int .i64 n
structure Tok where
 kind:Int
 text:List UInt8
 n:Int
 at_:Int
 deriving DecidableEq,Inhabited
def rz (t:Tok):List Dat:=[I t.kind,.str t.text,I t.n,I t.at_]
def vd (l:List Tok):Dat:=.slice 4 (l.map rz) false
def cls (c:UInt8):Nat:=
 if 97<=c.toNat/\c.toNat<=122\/65<=c.toNat/\c.toNat<=90 then 1
 else if 48<=c.toNat/\c.toNat<=57 then 2
 else if c.toNat=95 then 3
 else if c.toNat=9\/c.toNat=10\/c.toNat=32 then 4
 else if c.toNat=40\/c.toNat=41\/c.toNat=123\/c.toNat=125\/c.toNat=44\/c.toNat=59\/c.toNat=46\/c.toNat=61\/c.toNat=43\/c.toNat=45\/c.toNat=42\/c.toNat=60 then 5
 else 0
def nameB (c:UInt8):Bool:=decide (cls c=1)||decide (cls c=2)||decide (cls c=3)
def dz (c:UInt8):Bool:=decide (cls c=2)
def qP (l:List UInt8):Nat:=l.foldl (fun n b=>10 * n+(b.toNat - 48)) 0
def sU (r:List UInt8):Bool:=match r with|[]=>false|b::_=>decide (cls b=1)||decide (cls b=3)
def eqq (r:List UInt8):Bool:=match r with|[]=>false|b::_=>decide (b.toNat=61)
def bz:List UInt8->Option (Int×Nat×Int)
 | []=>none
 | c::t=>
  if cls c=1 then (if 1+(t.takeWhile nameB).length<=12 then some (1,1+(t.takeWhile nameB).length,0) else none)
  else if cls c=2 then
   (if 1+(t.takeWhile dz).length<=10/\¬(1<1+(t.takeWhile dz).length/\c.toNat=48)/\qP (c::t.takeWhile dz)<4294967296/\sU (t.dropWhile dz)=false
    then some (2,1+(t.takeWhile dz).length,(qP (c::t.takeWhile dz):Nat)) else none)
  else if cls c=5 then (if c.toNat=61/\eqq t=true then some (3,2,0) else some (3,1,0))
  else none
def kX:Nat->List UInt8->Int->Option (List Tok)
 | _,[],_=>some []
 | 0,_,_=>none
 | f+1,c::t,at_=>
  if cls c=4 then kX f t (at_+1)
  else match bz (c::t) with
   | none=>none
   | some (k,n,v)=>(kX f ((c::t).drop n) (at_+n)).map (⟨k,(c::t).take n,v,at_⟩::·)
def fy (r:List UInt8) (at_:Int):Option (List Tok):=kX r.length r at_
theorem lP {α:Type} (p:α->Bool) (l:List α):(l.takeWhile p).length<=l.length:=(List.takeWhile_prefix (p:=p) (l:=l)).length_le
theorem fW {r:List UInt8} {k:Int} {n:Nat} {v:Int} (h:bz r=some (k,n,v)):1<=n/\n<=r.length:=by
 cases r with
 | nil=>simp [bz] at h
 | cons c t=>
  have h1:=lP nameB t;have h2:=lP dz t;rw [bz] at h;by_cases a1:cls c=1
  ·rw [if_pos a1] at h
   split at h
   ·simp at h;simp;omega
   ·cases h
  ·rw [if_neg a1] at h
   by_cases a2:cls c=2
   ·rw [if_pos a2] at h
    split at h
    ·simp only [XP,Yp] at h;simp only [Xt];omega
    ·cases h
   ·rw [if_neg a2] at h
    split at h
    ·split at h
     ·rename_i h3
      cases t with
      | nil=>simp [eqq] at h3
      | cons b u=>simp at h;simp;omega
     ·simp at h;simp;omega
    ·cases h
theorem rA:∀(f g:Nat) (r:List UInt8) (a:Int),r.length<=f->r.length<=g->kX f r a=kX g r a
 | 0,g,[],a,_,_=>by cases g<;>rfl
 | f+1,g,[],a,_,_=>by cases g<;>rfl
 | 0,_,_::_,_,h,_=>by simp at h
 | _+1,0,_::_,_,_,h=>by simp at h
 | f+1,g+1,c::t,a,h1,h2=>by
  simp only [Xt] at h1 h2;rw [kX,kX];by_cases hb:cls c=4
  ·rw [if_pos hb,if_pos hb];exact rA f g t (a+1) (by omega) (by omega)
  ·rw [if_neg hb,if_neg hb]
   cases ht:bz (c::t) with
   | none=>rfl
   | some x=>
    obtain ⟨k,n,v⟩:=x;have:=fW ht;simp only [Xt] at this;simp only;rw [rA f g ((c::t).drop n) (a+n) (by simp;omega) (by simp;omega)]
theorem zo (a:Int):fy [] a=some []:=rfl
theorem jW (c:UInt8) (t:List UInt8) (a:Int) (h:cls c=4):fy (c::t) a=fy t (a+1):=by
 rw [fy,Xt,kX,if_pos h];rfl
theorem oW (c:UInt8) (t:List UInt8) (a:Int) (h:cls c≠4) (h2:bz (c::t)=none):fy (c::t) a=none:=by
 rw [fy,Xt,kX,if_neg h,h2]
theorem rB (c:UInt8) (t:List UInt8) (a:Int) (h:cls c≠4) {k:Int} {n:Nat} {v:Int} (h2:bz (c::t)=some (k,n,v)):fy (c::t) a=(fy ((c::t).drop n) (a+n)).map (⟨k,(c::t).take n,v,a⟩::·):=by
 have:=fW h2;simp only [Xt] at this;rw [fy,Xt,kX,if_neg h,h2];simp only;rw [fy,rA t.length _ ((c::t).drop n) (a+n) (by simp;omega) (Xn _)]
def dA (s:List UInt8):List Tok×Int:=if 4000<s.length then ([],2) else match fy s 0 with|none=>([],3)|some l=>(l,0)
def MZ (x:List Tok×Int):Dat:=.tuple [vd x.1,I x.2]
end Uw.Tryz
namespace Uw.Tryz
open Go Uw
abbrev Str:=List UInt8
mutual
inductive Ex where
 | num (n:Int)
 | name (s:Str)
 | bin (k:Int) (a b:Ex)
 | call (o v:Str) (ar:Exs)
inductive Exs where
 | nil
 | cons (e:Ex) (r:Exs)
end
mutual
inductive Stm where
 | set (s:Str) (e:Ex)
 | task (par:Bool) (to f:Str) (ar:Exs)
 | sync
 | if1 (e:Ex) (a:Bl)
 | if2 (e:Ex) (a b:Bl)
 | loop (e:Ex) (a:Bl)
 | one (k:Int) (e:Ex)
 | act (o v:Str) (ar:Exs)
inductive Bl where
 | nil
 | cons (s:Stm) (r:Bl)
end
def Exs.length:Exs->Nat
 | .nil=>0
 | .cons _ r=>r.length+1
inductive R (α:Type) where
 | ok (a:α) (r:List Tok)
 | bad
 | out
def R.bind {α β:Type} (x:R α) (f:α->List Tok->R β):R β:=
 match x with
 | .ok a r=>f a r
 | .bad=>.bad
 | .out=>.out
def hd (r:List Tok):Str:=match r with|[]=>[]|t::_=>t.text
def want (s:Str) (r:List Tok):R Unit:=if hd r=s then .ok () r.tail else .bad
def FW:Str:=[99,101,108,108]
def M1:Str:=[109,97,112]
def zp:Str:=[115,116,97,99,107]
def FX:Str:=[99,104,97,110]
def iu:Str:=[102,117,110,99]
def fX:Str:=[115,112,97,119,110]
def pV:Str:=[112,97,114]
def xI:Str:=[115,121,110,99]
def sIf:Str:=[105,102]
def xJ:Str:=[101,108,115,101]
def uh:Str:=[119,104,105,108,101]
def gi:Str:=[114,101,116,117,114,110]
def nA:Str:=[97,115,115,101,114,116]
def wI (s:Str):Bool:=decide (s=FW)||decide (s=M1)||decide (s=zp)||decide (s=FX)||decide (s=iu)||decide (s=fX)||decide (s=pV)||decide (s=xI)||decide (s=sIf)||decide (s=xJ)||decide (s=uh)||decide (s=gi)||decide (s=nA)
def eY (k:Int) (r:List Tok):R Tok:=
 match r with
 | []=>.bad
 | t::r'=>if t.kind=k then .ok t r' else .bad
def isNum (r:List Tok):Bool:=match r with|[]=>false|t::_=>decide (t.kind=2)
def numOf (r:List Tok):Int:=match r with|[]=>0|t::_=>t.n
def dW (r:List Tok):R Str:=(eY 1 r).bind fun t r'=>if wI t.text then .bad else .ok t.text r'
mutual
def iw:Nat->List Tok->R Ex
 | 0,_=>.out
 | n+1,r=>
  if hd r=[40] then (df n r.tail).bind fun e r=>(want [41] r).bind fun _ r=>.ok e r
  else if isNum r then .ok (.num (numOf r)) r.tail
  else (dW r).bind fun s r=>if hd r=[46] then (fR n s r).bind fun x r=>.ok (.call s x.1 x.2) r else .ok (.name s) r
def fR:Nat->Str->List Tok->R (Str×Exs)
 | 0,_,_=>.out
 | n+1,s,r=>(want [46] r).bind fun _ r=>(dW r).bind fun v r=>(fB n r).bind fun ar r=>.ok (v,ar) r
def fB:Nat->List Tok->R Exs
 | 0,_=>.out
 | n+1,r=>(want [40] r).bind fun _ r=>if hd r=[41] then .ok .nil r.tail else (df n r).bind fun e r=>(dt n r).bind fun es r=>.ok (.cons e es) r
def dt:Nat->List Tok->R Exs
 | 0,_=>.out
 | n+1,r=>if hd r=[44] then (df n r.tail).bind fun e r=>(dt n r).bind fun es r=>.ok (.cons e es) r
  else (want [41] r).bind fun _ r=>.ok .nil r
def gj:Nat->List Tok->R Ex
 | 0,_=>.out
 | n+1,r=>(iw n r).bind fun e r=>dQ n e r
def dQ:Nat->Ex->List Tok->R Ex
 | 0,_,_=>.out
 | n+1,left,r=>if hd r=[42] then (iw n r.tail).bind fun e r=>dQ n (.bin 5 left e) r else .ok left r
def lQ:Nat->List Tok->R Ex
 | 0,_=>.out
 | n+1,r=>(gj n r).bind fun e r=>eZ n e r
def eZ:Nat->Ex->List Tok->R Ex
 | 0,_,_=>.out
 | n+1,left,r=>
  if hd r=[43] then (gj n r.tail).bind fun e r=>eZ n (.bin 3 left e) r
  else if hd r=[45] then (gj n r.tail).bind fun e r=>eZ n (.bin 4 left e) r
  else .ok left r
def df:Nat->List Tok->R Ex
 | 0,_=>.out
 | n+1,r=>(lQ n r).bind fun left r=>
  if hd r=[60] then (lQ n r.tail).bind fun e r=>.ok (.bin 6 left e) r
  else if hd r=[61,61] then (lQ n r.tail).bind fun e r=>.ok (.bin 7 left e) r
  else .ok left r
end
def fJ (n:Nat) (to:Str) (r:List Tok):R Stm:=
 (if hd r=fX then R.ok false r.tail else (want pV r).bind fun _ r=>.ok true r).bind fun par r=>
  (dW r).bind fun f r=>(fB n r).bind fun ar r=>if par=true/\ar.length≠2 then .bad else .ok (.task par to f ar) r
def gk (n:Nat) (r:List Tok):R Stm:=
 if hd r=fX\/hd r=pV then fJ n [] r
 else if hd r=xI then .ok .sync r.tail
 else if hd r=gi then (df n r.tail).bind fun e r=>.ok (.one 15 e) r
 else if hd r=nA then (df n r.tail).bind fun e r=>.ok (.one 16 e) r
 else (dW r).bind fun s r=>
  if hd r=[46] then (fR n s r).bind fun x r=>.ok (.act s x.1 x.2) r
  else (want [61] r).bind fun _ r=>
   if hd r=fX\/hd r=pV then fJ n s r else (df n r).bind fun e r=>.ok (.set s e) r
mutual
def gl:Nat->List Tok->R Stm
 | 0,_=>.out
 | n+1,r=>
  if hd r=sIf then (df n r.tail).bind fun e r=>(ck n r).bind fun a r=>
   if hd r=xJ then (ck n r.tail).bind fun b r=>.ok (.if2 e a b) r else .ok (.if1 e a) r
  else if hd r=uh then (df n r.tail).bind fun e r=>(ck n r).bind fun a r=>.ok (.loop e a) r
  else (gk n r).bind fun s r=>(want [59] r).bind fun _ r=>.ok s r
def ck:Nat->List Tok->R Bl
 | 0,_=>.out
 | n+1,r=>(want [123] r).bind fun _ r=>cg n r
def cg:Nat->List Tok->R Bl
 | 0,_=>.out
 | n+1,r=>if hd r=[125] then .ok .nil r.tail else (gl n r).bind fun s r=>(cg n r).bind fun ss r=>.ok (.cons s ss) r
end
structure Dec where
 kind:Int
 name:Str
 n:Int
 deriving DecidableEq,Inhabited
structure Fn where
 name:Str
 args:List Str
 body:Bl
def cm:Nat->List Tok->R (List Str)
 | 0,_=>.out
 | n+1,r=>if hd r=[44] then (dW r.tail).bind fun s r=>(cm n r).bind fun l r=>.ok (s::l) r
  else (want [41] r).bind fun _ r=>.ok [] r
def iW (n:Nat) (r:List Tok):R (List Str):=(want [40] r).bind fun _ r=>
 if hd r=[41] then .ok [] r.tail else (dW r).bind fun s r=>(cm n r).bind fun l r=>.ok (s::l) r
def kY (n:Nat) (r:List Tok):R Fn:=(want iu r).bind fun _ r=>(dW r).bind fun s r=>(iW n r).bind fun l r=>(ck n r).bind fun b r=>.ok ⟨s,l,b⟩ r
def kindOf (s:Str):Option Int:=if s=FW then some 0 else if s=M1 then some 1 else if s=zp then some 2 else if s=FX then some 3 else none
def lr (r:List Tok):R Dec:=(eY 1 r).bind fun t r=>match kindOf t.text with
 | none=>.bad
 | some k=>(dW r).bind fun s r=>
  (if k=0/\hd r=[61] then (eY 2 r.tail).bind fun t r=>R.ok t.n r else .ok 0 r).bind fun v r=>(want [59] r).bind fun _ r=>.ok ⟨k,s,v⟩ r
def fq:Nat->List Tok->R (List Dec)
 | 0,_=>.out
 | n+1,r=>if r=[]\/hd r=iu then .ok [] r else (lr r).bind fun d r=>(fq n r).bind fun l r=>.ok (d::l) r
def gm:Nat->List Tok->R (List Fn)
 | 0,_=>.out
 | n+1,r=>if r=[] then .ok [] r else (kY n r).bind fun f r=>(gm n r).bind fun l r=>.ok (f::l) r
def vf (n:Nat) (r:List Tok):R (List Dec×List Fn):=(fq n r).bind fun d r=>(gm n r).bind fun f r=>.ok (d,f) r
structure Nod where
 kind:Int
 n:Int
 name:Str
 name2:Str
 of:List Nat
 deriving DecidableEq,Inhabited
mutual
def Ex.sz:Ex->Nat
 | .num _=>1
 | .name _=>1
 | .bin _ a b=>a.sz+b.sz+1
 | .call _ _ ar=>ar.sz+1
def Exs.sz:Exs->Nat
 | .nil=>0
 | .cons e r=>e.sz+r.sz
end
def Exs.places:Exs->Nat->List Nat
 | .nil,_=>[]
 | .cons e r,b=>(b+e.sz - 1)::r.places (b+e.sz)
mutual
def Ex.flat:Ex->Nat->List Nod
 | .num n,_=>[⟨1,n,[],[],[]⟩]
 | .name s,_=>[⟨2,0,s,[],[]⟩]
 | .bin k x y,b=>x.flat b++y.flat (b+x.sz)++[⟨k,0,[],[],[b+x.sz - 1,b+x.sz+y.sz - 1]⟩]
 | .call o v ar,b=>ar.flat b++[⟨8,0,o,v,ar.places b⟩]
def Exs.flat:Exs->Nat->List Nod
 | .nil,_=>[]
 | .cons e r,b=>e.flat b++r.flat (b+e.sz)
end
mutual
def Stm.sz:Stm->Nat
 | .set _ e=>e.sz+1
 | .task _ _ _ ar=>ar.sz+1
 | .sync=>1
 | .if1 e a=>e.sz+(a.sz+1)+1
 | .if2 e a b=>e.sz+(a.sz+1)+(b.sz+1)+1
 | .loop e a=>e.sz+(a.sz+1)+1
 | .one _ e=>e.sz+1
 | .act _ _ ar=>ar.sz+1+1
def Bl.sz:Bl->Nat
 | .nil=>0
 | .cons s r=>s.sz+r.sz
end
def Bl.places:Bl->Nat->List Nat
 | .nil,_=>[]
 | .cons s r,b=>(b+s.sz - 1)::r.places (b+s.sz)
mutual
def Stm.flat:Stm->Nat->List Nod
 | .set s e,b=>e.flat b++[⟨9,0,s,[],[b+e.sz - 1]⟩]
 | .task par to f ar,b=>ar.flat b++[⟨if par then 11 else 10,0,to,f,ar.places b⟩]
 | .sync,b=>[⟨12,0,[],[],[]⟩]
 | .if1 e x,b=>e.flat b++(x.flat (b+e.sz)++[⟨18,0,[],[],x.places (b+e.sz)⟩])++[⟨13,0,[],[],[b+e.sz - 1,b+e.sz+(x.sz+1) - 1]⟩]
 | .if2 e x y,b=>e.flat b++(x.flat (b+e.sz)++[⟨18,0,[],[],x.places (b+e.sz)⟩])++(y.flat (b+e.sz+(x.sz+1))++[⟨18,0,[],[],y.places (b+e.sz+(x.sz+1))⟩])++[⟨13,0,[],[],[b+e.sz - 1,b+e.sz+(x.sz+1) - 1,b+e.sz+(x.sz+1)+(y.sz+1) - 1]⟩]
 | .loop e x,b=>e.flat b++(x.flat (b+e.sz)++[⟨18,0,[],[],x.places (b+e.sz)⟩])++[⟨14,0,[],[],[b+e.sz - 1,b+e.sz+(x.sz+1) - 1]⟩]
 | .one k e,b=>e.flat b++[⟨k,0,[],[],[b+e.sz - 1]⟩]
 | .act o v ar,b=>ar.flat b++[⟨8,0,o,v,ar.places b⟩]++[⟨17,0,[],[],[b+ar.sz+1 - 1]⟩]
def Bl.flat:Bl->Nat->List Nod
 | .nil,_=>[]
 | .cons s r,b=>s.flat b++r.flat (b+s.sz)
end
def Bl.all (x:Bl) (b:Nat):List Nod:=x.flat b++[⟨18,0,[],[],x.places b⟩]
mutual
theorem Ex.az:∀(e:Ex) (b:Nat),(e.flat b).length=e.sz
 | .num _,_=>rfl
 | .name _,_=>rfl
 | .bin k x y,b=>by simp [Ex.flat,Ex.sz,Ex.az x,Ex.az y];omega
 | .call o v ar,b=>by simp [Ex.flat,Ex.sz,Exs.az ar]
theorem Exs.az:∀(e:Exs) (b:Nat),(e.flat b).length=e.sz
 | .nil,_=>rfl
 | .cons e r,b=>by simp [Exs.flat,Exs.sz,Ex.az e,Exs.az r]
end
mutual
theorem Stm.az:∀(e:Stm) (b:Nat),(e.flat b).length=e.sz
 | .set s e,b=>by simp [Stm.flat,Stm.sz,Ex.az]
 | .task par to f ar,b=>by simp [Stm.flat,Stm.sz,Exs.az]
 | .sync,b=>rfl
 | .if1 e x,b=>by simp [Stm.flat,Stm.sz,Ex.az,Bl.az x];omega
 | .if2 e x y,b=>by simp [Stm.flat,Stm.sz,Ex.az,Bl.az x,Bl.az y];omega
 | .loop e x,b=>by simp [Stm.flat,Stm.sz,Ex.az,Bl.az x];omega
 | .one k e,b=>by simp [Stm.flat,Stm.sz,Ex.az]
 | .act o v ar,b=>by simp [Stm.flat,Stm.sz,Exs.az]
theorem Bl.az:∀(e:Bl) (b:Nat),(e.flat b).length=e.sz
 | .nil,_=>rfl
 | .cons s r,b=>by simp [Bl.flat,Bl.sz,Stm.az s,Bl.az r]
end
theorem Bl.lR (x:Bl) (b:Nat):(x.all b).length=x.sz+1:=by simp [Bl.all,Bl.az]
mutual
theorem Ex.iz:∀(e:Ex),1<=e.sz
 | .num _=>Xn _
 | .name _=>Xn _
 | .bin _ a b=>by rw [Ex.sz];omega
 | .call _ _ ar=>by rw [Ex.sz];omega
end
theorem Stm.iz (s:Stm):1<=s.sz:=by cases s<;>simp only [Stm.sz]<;>omega
end Uw.Tryz
namespace Uw.Tryz
open Go Uw
theorem bind_ok {α β:Type} {x:R α} {f:α->List Tok->R β} {b:β} {r:List Tok}:x.bind f = .ok b r<->∃a r1,x = .ok a r1/\f a r1 = .ok b r:=by
 cases x with
 | ok a r1=>exact ⟨fun h=>⟨a,r1,rfl,h⟩,fun ⟨_,_,h1,h2⟩=>by injection h1 with e1 e2;subst e1 e2;exact h2⟩
 | bad=>exact ⟨fun h=>(by cases h),fun ⟨_,_,h,_⟩=>(by cases h)⟩
 | out=>exact ⟨fun h=>(by cases h),fun ⟨_,_,h,_⟩=>(by cases h)⟩
def Suf (r r' : List Tok) (s:Nat):Prop:=∃j,j<=r.length/\r' = r.drop j/\s<=j
theorem Suf.refl (r:List Tok):Suf r r 0:=⟨0,by simp,rfl,Xn _⟩
theorem Suf.trans {a b c:List Tok} {s t:Nat} (h1:Suf a b s) (h2:Suf b c t):Suf a c (s+t):=by
 obtain ⟨i,i1,rfl,i3⟩:=h1;obtain ⟨j,j1,rfl,j3⟩:=h2;simp at j1;exact ⟨i+j,by omega,by rw [YU],by omega⟩
theorem Suf.le {a b:List Tok} {s t:Nat} (h:Suf a b s) (hl:t<=s):Suf a b t:=by
 obtain ⟨i,i1,i2,i3⟩:=h;exact ⟨i,i1,i2,by omega⟩
theorem Suf.tail {r:List Tok} (h:r≠[]):Suf r r.tail 1:=by
 cases r with
 | nil=>exact absurd rfl h
 | cons a l=>exact ⟨1,by simp,rfl,Xn _⟩
theorem U0 {r:List Tok} {s:Str} (h:hd r=s) (hs:s≠[]):r≠[]:=by
 rintro rfl;exact hs h.symm
theorem Suf.hd {r:List Tok} {s:Str} (h:hd r=s) (hs:s≠[]):Suf r r.tail 1:=Suf.tail (U0 h hs)
theorem hQ {s:Str} {r r' : List Tok} {u:Unit} (h:want s r = .ok u r'):Uw.Tryz.hd r=s/\r' = r.tail:=by
 rw [want] at h
 split at h
 ·rename_i hh
  injection h with _ h
  exact ⟨hh,h.symm⟩
 ·cases h
theorem nB {k:Int} {r r' : List Tok} {t:Tok} (h:eY k r = .ok t r'):∃q,r=t::q/\r' = q/\t.kind=k:=by
 cases r with
 | nil=>rw [eY] at h;cases h
 | cons a q=>
  rw [eY] at h
  split at h
  ·rename_i hk
   injection h with h1 h2
   subst h1 h2;exact ⟨q,rfl,rfl,hk⟩
  ·cases h
theorem nC {r r' : List Tok} {s:Str} (h:dW r = .ok s r'):∃t,r=t::r'/\s=t.text/\t.kind=1/\wI t.text=false:=by
 rw [dW,bind_ok] at h;obtain ⟨t,r1,h1,h2⟩:=h;obtain ⟨q,rfl,rfl,hk⟩:=nB h1
 split at h2
 ·cases h2
 ·rename_i hkw
  injection h2 with e1 e2
  subst e1 e2;exact ⟨t,rfl,rfl,hk,by simpa using hkw⟩
theorem Suf.name {r r' : List Tok} {s:Str} (h:dW r = .ok s r'):Suf r r' 1:=by
 obtain ⟨t,rfl,_⟩:=nC h;exact ⟨1,by simp,rfl,Xn _⟩
theorem Suf.want {s:Str} (hs:s≠[]) {r r' : List Tok} {u:Unit} (h:want s r = .ok u r'):Suf r r' 1:=by
 obtain ⟨h1,rfl⟩:=hQ h;exact Suf.hd h1 hs
structure VP (n:Nat):Prop where
 oe:∀r e r',iw n r = .ok e r'->Suf r r' e.sz
 call:∀s r x r',fR n s r = .ok x r'->Suf r r' (x.2.sz+1)
 args:∀r x r',fB n r = .ok x r'->Suf r r' (x.sz+1)
 oY:∀r x r',dt n r = .ok x r'->Suf r r' x.sz
 prod:∀r e r',gj n r = .ok e r'->Suf r r' e.sz
 nD:∀l r e r',dQ n l r = .ok e r'->Suf r r' (e.sz - l.sz)/\l.sz<=e.sz
 sum:∀r e r',lQ n r = .ok e r'->Suf r r' e.sz
 sumT:∀l r e r',eZ n l r = .ok e r'->Suf r r' (e.sz - l.sz)/\l.sz<=e.sz
 expr:∀r e r',df n r = .ok e r'->Suf r r' e.sz
theorem eD:∀n,VP n
 | 0=>by
  refine ⟨?_,?_,?_,?_,?_,?_,?_,?_,?_⟩
  ·intro _ _ _ h;rw [iw] at h;cases h
  ·intro _ _ _ _ h;rw [fR] at h;cases h
  ·intro _ _ _ h;rw [fB] at h;cases h
  ·intro _ _ _ h;rw [dt] at h;cases h
  ·intro _ _ _ h;rw [gj] at h;cases h
  ·intro _ _ _ _ h;rw [dQ] at h;cases h
  ·intro _ _ _ h;rw [lQ] at h;cases h
  ·intro _ _ _ _ h;rw [eZ] at h;cases h
  ·intro _ _ _ h;rw [df] at h;cases h
 | n+1=>by
  have ih:=eD n;refine ⟨?_,?_,?_,?_,?_,?_,?_,?_,?_⟩
  ·intro r e r' h
   rw [iw] at h
   split at h
   ·rename_i hh
    obtain ⟨e1,r1,h1,h⟩:=bind_ok.1 h;obtain ⟨_,r2,h2,h⟩:=bind_ok.1 h;injection h with h3 h4
    subst h3 h4;exact ((Suf.hd hh (by simp)).trans ((ih.expr _ _ _ h1).trans (Suf.want (by simp) h2))).le (by omega)
   ·split at h
    ·rename_i hn
     injection h with h1 h2
     subst h1 h2;exact (Suf.tail (by rintro rfl;cases hn)).le (by simp [Ex.sz])
    ·obtain ⟨s,r1,h1,h⟩:=bind_ok.1 h
     have s1:=Suf.name h1
     split at h
     ·obtain ⟨x,r2,h2,h⟩:=bind_ok.1 h
      injection h with h3 h4
      subst h3 h4;exact (s1.trans (ih.call _ _ _ _ h2)).le (by rw [Ex.sz];omega)
     ·injection h with h3 h4
      subst h3 h4;exact s1.le (by simp [Ex.sz])
  ·intro s r x r' h
   rw [fR] at h;obtain ⟨_,r1,h1,h⟩:=bind_ok.1 h;obtain ⟨v,r2,h2,h⟩:=bind_ok.1 h;obtain ⟨ar,r3,h3,h⟩:=bind_ok.1 h;injection h with h4 h5
   subst h4 h5;exact ((Suf.want (by simp) h1).trans ((Suf.name h2).trans (ih.args _ _ _ h3))).le (by simp only;omega)
  ·intro r x r' h
   rw [fB] at h;obtain ⟨_,r1,h1,h⟩:=bind_ok.1 h;have s1:=Suf.want (by simp) h1
   split at h
   ·rename_i hh
    injection h with h4 h5
    subst h4 h5;exact (s1.trans (Suf.hd hh (by simp))).le (by simp [Exs.sz])
   ·obtain ⟨e,r2,h2,h⟩:=bind_ok.1 h
    obtain ⟨es,r3,h3,h⟩:=bind_ok.1 h;injection h with h4 h5
    subst h4 h5;exact (s1.trans ((ih.expr _ _ _ h2).trans (ih.oY _ _ _ h3))).le (by rw [Exs.sz];omega)
  ·intro r x r' h
   rw [dt] at h
   split at h
   ·rename_i hh
    obtain ⟨e,r2,h2,h⟩:=bind_ok.1 h;obtain ⟨es,r3,h3,h⟩:=bind_ok.1 h;injection h with h4 h5
    subst h4 h5;exact ((Suf.hd hh (by simp)).trans ((ih.expr _ _ _ h2).trans (ih.oY _ _ _ h3))).le (by rw [Exs.sz];omega)
   ·obtain ⟨_,r1,h1,h⟩:=bind_ok.1 h
    injection h with h4 h5
    subst h4 h5;exact (Suf.want (by simp) h1).le (by simp [Exs.sz])
  ·intro r e r' h
   rw [gj] at h;obtain ⟨e1,r1,h1,h⟩:=bind_ok.1 h;obtain ⟨a1,a2⟩:=ih.nD _ _ _ _ h;exact ((ih.oe _ _ _ h1).trans a1).le (by omega)
  ·intro l r e r' h
   rw [dQ] at h
   split at h
   ·rename_i hh
    obtain ⟨e1,r1,h1,h⟩:=bind_ok.1 h;obtain ⟨a1,a2⟩:=ih.nD _ _ _ _ h;rw [Ex.sz] at a1 a2;exact ⟨((Suf.hd hh (by simp)).trans ((ih.oe _ _ _ h1).trans a1)).le (by omega),by omega⟩
   ·injection h with h4 h5
    subst h4 h5;exact ⟨(Suf.refl _).le (by omega),Xn _⟩
  ·intro r e r' h
   rw [lQ] at h;obtain ⟨e1,r1,h1,h⟩:=bind_ok.1 h;obtain ⟨a1,a2⟩:=ih.sumT _ _ _ _ h;exact ((ih.prod _ _ _ h1).trans a1).le (by omega)
  ·intro l r e r' h
   rw [eZ] at h
   split at h
   ·rename_i hh
    obtain ⟨e1,r1,h1,h⟩:=bind_ok.1 h;obtain ⟨a1,a2⟩:=ih.sumT _ _ _ _ h;rw [Ex.sz] at a1 a2;exact ⟨((Suf.hd hh (by simp)).trans ((ih.prod _ _ _ h1).trans a1)).le (by omega),by omega⟩
   ·split at h
    ·rename_i hh
     obtain ⟨e1,r1,h1,h⟩:=bind_ok.1 h;obtain ⟨a1,a2⟩:=ih.sumT _ _ _ _ h;rw [Ex.sz] at a1 a2;exact ⟨((Suf.hd hh (by simp)).trans ((ih.prod _ _ _ h1).trans a1)).le (by omega),by omega⟩
    ·injection h with h4 h5
     subst h4 h5;exact ⟨(Suf.refl _).le (by omega),Xn _⟩
  ·intro r e r' h
   rw [df] at h;obtain ⟨e1,r1,h1,h⟩:=bind_ok.1 h;have s1:=ih.sum _ _ _ h1
   split at h
   ·rename_i hh
    obtain ⟨e2,r2,h2,h⟩:=bind_ok.1 h;injection h with h4 h5
    subst h4 h5;exact (s1.trans ((Suf.hd hh (by simp)).trans (ih.sum _ _ _ h2))).le (by rw [Ex.sz];omega)
   ·split at h
    ·rename_i hh
     obtain ⟨e2,r2,h2,h⟩:=bind_ok.1 h;injection h with h4 h5
     subst h4 h5;exact (s1.trans ((Suf.hd hh (by simp)).trans (ih.sum _ _ _ h2))).le (by rw [Ex.sz];omega)
    ·injection h with h4 h5
     subst h4 h5;exact s1
end Uw.Tryz
namespace Uw.Tryz
open Go Uw
theorem oZ {n:Nat} {to:Str} {r r' : List Tok} {s:Stm} (h:fJ n to r = .ok s r'):Suf r r' s.sz:=by
 rw [fJ] at h;obtain ⟨p,r1,h1,h⟩:=bind_ok.1 h;obtain ⟨f,r2,h2,h⟩:=bind_ok.1 h;obtain ⟨ar,r3,h3,h⟩:=bind_ok.1 h;have s1:Suf r r1 1:=by
  split at h1
  ·rename_i hh
   injection h1 with _ e
   subst e;exact Suf.hd hh (by decide)
  ·obtain ⟨_,r4,h4,h5⟩:=bind_ok.1 h1
   injection h5 with _ e
   subst e;exact Suf.want (by decide) h4
 split at h
 ·cases h
 ·injection h with e1 e2
  subst e1 e2;exact (s1.trans ((Suf.name h2).trans ((eD n).args _ _ _ h3))).le (by rw [Stm.sz];omega)
theorem zq {n:Nat} {r r' : List Tok} {s:Stm} (h:gk n r = .ok s r'):Suf r r' s.sz:=by
 rw [gk] at h
 split at h
 ·exact oZ h
 ·split at h
  ·rename_i hh
   injection h with e1 e2
   subst e1 e2;exact Suf.hd hh (by decide)
  ·split at h
   ·rename_i hh
    obtain ⟨e,r1,h1,h⟩:=bind_ok.1 h;injection h with e1 e2
    subst e1 e2;exact ((Suf.hd hh (by decide)).trans ((eD n).expr _ _ _ h1)).le (by rw [Stm.sz];omega)
   ·split at h
    ·rename_i hh
     obtain ⟨e,r1,h1,h⟩:=bind_ok.1 h;injection h with e1 e2
     subst e1 e2;exact ((Suf.hd hh (by decide)).trans ((eD n).expr _ _ _ h1)).le (by rw [Stm.sz];omega)
    ·obtain ⟨nm,r1,h1,h⟩:=bind_ok.1 h
     split at h
     ·obtain ⟨x,r2,h2,h⟩:=bind_ok.1 h
      injection h with e1 e2
      subst e1 e2;exact ((Suf.name h1).trans ((eD n).call _ _ _ _ h2)).le (by rw [Stm.sz];omega)
     ·obtain ⟨_,r2,h2,h⟩:=bind_ok.1 h
      have s2:=(Suf.name h1).trans (Suf.want (by decide) h2)
      split at h
      ·exact (s2.trans (oZ h)).le (by omega)
      ·obtain ⟨e,r3,h3,h⟩:=bind_ok.1 h
       injection h with e1 e2
       subst e1 e2;exact (s2.trans ((eD n).expr _ _ _ h3)).le (by rw [Stm.sz];omega)
structure VQ (n:Nat):Prop where
 stmt:∀r s r',gl n r = .ok s r'->Suf r r' s.sz
 block:∀r s r',ck n r = .ok s r'->Suf r r' (s.sz+1)
 stmts:∀r s r',cg n r = .ok s r'->Suf r r' s.sz
theorem o4:∀n,VQ n
 | 0=>by
  refine ⟨?_,?_,?_⟩
  ·intro _ _ _ h;rw [gl] at h;cases h
  ·intro _ _ _ h;rw [ck] at h;cases h
  ·intro _ _ _ h;rw [cg] at h;cases h
 | n+1=>by
  have ih:=o4 n;refine ⟨?_,?_,?_⟩
  ·intro r s r' h
   rw [gl] at h
   split at h
   ·rename_i hh
    obtain ⟨e,r1,h1,h⟩:=bind_ok.1 h;obtain ⟨a,r2,h2,h⟩:=bind_ok.1 h;have s2:=(Suf.hd hh (by decide)).trans (((eD n).expr _ _ _ h1).trans (ih.block _ _ _ h2))
    split at h
    ·rename_i hh2
     obtain ⟨b,r3,h3,h⟩:=bind_ok.1 h;injection h with e1 e2
     subst e1 e2;exact (s2.trans ((Suf.hd hh2 (by decide)).trans (ih.block _ _ _ h3))).le (by rw [Stm.sz];omega)
    ·injection h with e1 e2
     subst e1 e2;exact s2.le (by rw [Stm.sz];omega)
   ·split at h
    ·rename_i hh
     obtain ⟨e,r1,h1,h⟩:=bind_ok.1 h;obtain ⟨a,r2,h2,h⟩:=bind_ok.1 h;injection h with e1 e2
     subst e1 e2;exact ((Suf.hd hh (by decide)).trans (((eD n).expr _ _ _ h1).trans (ih.block _ _ _ h2))).le (by rw [Stm.sz];omega)
    ·obtain ⟨e,r1,h1,h⟩:=bind_ok.1 h
     obtain ⟨_,r2,h2,h⟩:=bind_ok.1 h;injection h with e1 e2
     subst e1 e2;exact ((zq h1).trans (Suf.want (by decide) h2)).le (by omega)
  ·intro r s r' h
   rw [ck] at h;obtain ⟨_,r1,h1,h⟩:=bind_ok.1 h;exact ((Suf.want (by decide) h1).trans (ih.stmts _ _ _ h)).le (by omega)
  ·intro r s r' h
   rw [cg] at h
   split at h
   ·rename_i hh
    injection h with e1 e2
    subst e1 e2;exact (Suf.hd hh (by decide)).le (by simp [Bl.sz])
   ·obtain ⟨e,r1,h1,h⟩:=bind_ok.1 h
    obtain ⟨ss,r2,h2,h⟩:=bind_ok.1 h;injection h with e1 e2
    subst e1 e2;exact ((ih.stmt _ _ _ h1).trans (ih.stmts _ _ _ h2)).le (by rw [Bl.sz];omega)
end Uw.Tryz
namespace Uw.Tryz
open Go Uw
def dI {α:Type} (a:α):List Tok->R α:=fun r=>.ok a r
def Kp {α:Type}:List Tok->R α:=fun _=>.bad
def cQ {α β:Type} (p:List Tok->R β) (f:β->List Tok->R α):List Tok->R α:=fun r=>(p r).bind f
def iL {α:Type} (s:Str) (p:List Tok->R α):List Tok->R α:=fun r=>(want s r).bind fun _ r=>p r
def eM {α:Type} (s:Str) (p q:List Tok->R α):List Tok->R α:=fun r=>if hd r=s then p r.tail else q r
def kx {α:Type} (s:Str) (p q:List Tok->R α):List Tok->R α:=fun r=>if hd r=s then p r else q r
def cName {α:Type} (f:Str->List Tok->R α):List Tok->R α:=fun r=>(dW r).bind f
def FY {α:Type} (k:Int) (f:Str->Int->List Tok->R α):List Tok->R α:=fun r=>(eY k r).bind fun t r=>f t.text t.n r
def Ba {α:Type} (f:Int->List Tok->R α) (q:List Tok->R α):List Tok->R α:=fun r=>if isNum r then f (numOf r) r.tail else q r
theorem vg (n:Nat):iw (n+1)=eM [40] (cQ (df n) fun e=>iL [41] (dI e)) (Ba (fun v=>dI (.num v)) (cName fun s=>kx [46] (cQ (fR n s) fun x=>dI (.call s x.1 x.2)) (dI (.name s)))):=by
 funext r;rw [iw];rfl
theorem vh (n:Nat) (s:Str):fR (n+1) s=iL [46] (cName fun v=>cQ (fB n) fun ar=>dI (v,ar)):=by
 funext r;rw [fR];rfl
theorem vi (n:Nat):fB (n+1)=iL [40] (eM [41] (dI .nil) (cQ (df n) fun e=>cQ (dt n) fun es=>dI (.cons e es))):=by
 funext r;rw [fB];rfl
theorem sy (n:Nat):dt (n+1)=eM [44] (cQ (df n) fun e=>cQ (dt n) fun es=>dI (.cons e es)) (iL [41] (dI .nil)):=by
 funext r;rw [dt];rfl
theorem vj (n:Nat):gj (n+1)=cQ (iw n) fun e=>dQ n e:=by funext r;rw [gj];rfl
theorem sA (n:Nat) (l:Ex):dQ (n+1) l=eM [42] (cQ (iw n) fun e=>dQ n (.bin 5 l e)) (dI l):=by funext r;rw [dQ];rfl
theorem yz (n:Nat):lQ (n+1)=cQ (gj n) fun e=>eZ n e:=by funext r;rw [lQ];rfl
theorem vk (n:Nat) (l:Ex):eZ (n+1) l=eM [43] (cQ (gj n) fun e=>eZ n (.bin 3 l e)) (eM [45] (cQ (gj n) fun e=>eZ n (.bin 4 l e)) (dI l)):=by funext r;rw [eZ];rfl
theorem vl (n:Nat):df (n+1)=cQ (lQ n) fun l=>eM [60] (cQ (lQ n) fun e=>dI (.bin 6 l e)) (eM [61,61] (cQ (lQ n) fun e=>dI (.bin 7 l e)) (dI l)):=by funext r;rw [df];rfl
theorem sB (n:Nat) (to:Str):fJ n to=cQ (eM fX (dI false) (iL pV (dI true))) fun par=>cName fun f=>cQ (fB n) fun ar=>if par=true/\ar.length≠2 then Kp else dI (.task par to f ar):=by
 funext r
 rw [fJ];show R.bind _ _=R.bind _ _
 congr 1
 funext par r
 show R.bind _ _=R.bind _ _
 congr 1
 funext f r
 show R.bind _ _=R.bind _ _
 congr 1
 funext ar r
 split<;>rfl
theorem pW (n:Nat):gk n=kx fX (fJ n []) (kx pV (fJ n []) (eM xI (dI .sync) (eM gi (cQ (df n) fun e=>dI (.one 15 e)) (eM nA (cQ (df n) fun e=>dI (.one 16 e))
  (cName fun s=>kx [46] (cQ (fR n s) fun x=>dI (.act s x.1 x.2)) (iL [61] (kx fX (fJ n s) (kx pV (fJ n s) (cQ (df n) fun e=>dI (.set s e)))))))))):=by
 have key:∀{α:Type} (a b:Prop) [Decidable a] [Decidable b] (x y:α),(if a\/b then x else y)=if a then x else if b then x else y:=by
  intro α a b _ _ x y;by_cases ha:a<;>by_cases hb:b<;>simp [ha,hb]
 funext r
 rw [gk,key];show _=if hd r=fX then _ else if hd r=pV then _ else if hd r=xI then _ else if hd r=gi then _ else if hd r=nA then _ else R.bind _ _
 congr 6
 funext s r
 show _=if hd r=[46] then _ else R.bind _ _
 congr 2
 funext _ r
 rw [key];rfl
theorem zr (n:Nat):gl (n+1)=eM sIf (cQ (df n) fun e=>cQ (ck n) fun a=>eM xJ (cQ (ck n) fun b=>dI (.if2 e a b)) (dI (.if1 e a))) (eM uh (cQ (df n) fun e=>cQ (ck n) fun a=>dI (.loop e a)) (cQ (gk n) fun s=>iL [59] (dI s))):=by
 funext r;rw [gl];rfl
theorem wJ (n:Nat):ck (n+1)=iL [123] (cg n):=by funext r;rw [ck];rfl
theorem wK (n:Nat):cg (n+1)=eM [125] (dI .nil) (cQ (gl n) fun s=>cQ (cg n) fun ss=>dI (.cons s ss)):=by funext r;rw [cg];rfl
theorem pX (n:Nat):cm (n+1)=eM [44] (cName fun s=>cQ (cm n) fun l=>dI (s::l)) (iL [41] (dI [])):=by funext r;rw [cm];rfl
theorem sC (n:Nat):iW n=iL [40] (eM [41] (dI []) (cName fun s=>cQ (cm n) fun l=>dI (s::l))):=by funext r;rw [iW];rfl
theorem vm (n:Nat):kY n=iL iu (cName fun s=>cQ (iW n) fun l=>cQ (ck n) fun b=>dI ⟨s,l,b⟩):=by funext r;rw [kY];rfl
def jN (t:Str):List Tok->R Dec:=
 match kindOf t with
 | none=>Kp
 | some k=>cName fun s=>if k=0 then eM [61] (FY 2 fun _ n=>iL [59] (dI ⟨k,s,n⟩)) (iL [59] (dI ⟨k,s,0⟩)) else iL [59] (dI ⟨k,s,0⟩)
theorem o5:lr=FY 1 fun t _=>jN t:=by
 funext r
 rw [lr];show R.bind _ _=R.bind _ _
 congr 1
 funext t r
 show _=jN t.text r;unfold jN
 cases kindOf t.text with
 | none=>rfl
 | some k=>
  show R.bind _ _=R.bind _ _
  congr 1
  funext s r
  by_cases hk:k=0
  ·rw [if_pos hk]
   by_cases h:hd r=[61]
   ·rw [if_pos ⟨hk,h⟩]
    show _=if hd r=[61] then R.bind _ _ else _
    rw [if_pos h]
    cases eY 2 r.tail<;>rfl
   ·rw [if_neg (fun x=>h x.2)]
    show _=if hd r=[61] then R.bind _ _ else _
    rw [if_neg h];rfl
  ·rw [if_neg hk,if_neg (fun x=>hk x.1)]
   rfl
def vn {α:Type} (p:List Tok->R α):Prop:=∀r a r',p r = .ok a r'->r'.length<r.length
def delta (s:Str):Int:=if s=[40]\/s=[123] then 1 else if s=[41]\/s=[125] then -1 else 0
inductive IsP:{α:Type}->Int->(List Tok->R α)->(List Tok->R α)->Prop
 | out {α:Type} {d:Int} {q:List Tok->R α}:IsP d (fun _=>.out) q
 | bad {α:Type} {d:Int}:IsP d (Kp (α:=α)) Kp
 | ret {α:Type} (a:α):IsP 0 (dI a) (dI a)
 | bind {α β:Type} {d e g:Int} {p p' : List Tok->R β} {f f' : β->List Tok->R α}:IsP d p p'->(∀b,IsP e (f b) (f' b))->g=d+e->IsP g (cQ p f) (cQ p' f')
 | want {α:Type} {d g:Int} {s:Str} {p p' : List Tok->R α}:s≠[]->IsP d p p'->g=delta s+d->IsP g (iL s p) (iL s p')
 | skip {α:Type} {d g:Int} {s:Str} {p p' q q' : List Tok->R α}:s≠[]->(s≠[41]\/vn q)->IsP d p p'->IsP g q q'->g=delta s+d->IsP g (eM s p q) (eM s p' q')
 | peek {α:Type} {d:Int} {s:Str} {p p' q q' : List Tok->R α}:s≠[41]->vn p->IsP d p p'->IsP d q q'->IsP d (kx s p q) (kx s p' q')
 | name {α:Type} {d:Int} {f f' : Str->List Tok->R α}:(∀b,IsP d (f b) (f' b))->IsP d (cName f) (cName f')
 | word {α:Type} {d:Int} {k:Int} {f f' : Str->Int->List Tok->R α}:k≠3->(∀b n,IsP d (f b n) (f' b n))->IsP d (FY k f) (FY k f')
 | num {α:Type} {d:Int} {f f' : Int->List Tok->R α} {q q' : List Tok->R α}:vn q->(∀b,IsP d (f b) (f' b))->IsP d q q'->IsP d (Ba f q) (Ba f' q')
theorem yA {α β:Type} {x y:R β} {f g:β->List Tok->R α} (h:x = .out\/x=y) (hf:∀b r,f b r = .out\/f b r=g b r):x.bind f = .out\/x.bind f=y.bind g:=by
 rcases h with rfl|rfl
 ·exact .inl rfl
 ·cases x with
  | ok a r=>exact hf a r
  | bad=>exact .inr rfl
  | out=>exact .inl rfl
theorem IsP.le {α:Type} {d:Int} {p q:List Tok->R α} (h:IsP d p q):∀r,p r = .out\/p r=q r:=by
 induction h with
 | out=>exact fun r=>.inl rfl
 | bad=>exact fun r=>.inr rfl
 | ret=>exact fun r=>.inr rfl
 | bind _ _ _ ih1 ih2=>exact fun r=>yA (ih1 r) ih2
 | want _ _ _ ih=>exact fun r=>yA (.inr rfl) fun _ r=>ih r
 | skip _ _ _ _ _ ih1 ih2=>
  intro r;unfold eM
  split
  ·exact ih1 _
  ·exact ih2 _
 | peek _ _ _ _ ih1 ih2=>
  intro r;unfold kx
  split
  ·exact ih1 _
  ·exact ih2 _
 | name _ ih=>exact fun r=>yA (.inr rfl) ih
 | word _ _ ih=>exact fun r=>yA (.inr rfl) fun t r=>ih t.text t.n r
 | num _ _ _ ih1 ih2=>
  intro r;unfold Ba
  split
  ·exact ih1 _ _
  ·exact ih2 _
theorem eN {r:List Tok} {s:Str} (h:hd r=s) (hs:s≠[]):∃t,r=t::r.tail/\t.text=s:=by
 cases r with
 | nil=>exact absurd h.symm hs
 | cons a l=>exact ⟨a,rfl,h⟩
theorem IsP.pre {α:Type} {d:Int} {p q:List Tok->R α} (h:IsP d p q):∀r a r',p r = .ok a r'->∃c,r=c++r':=by
 induction h with
 | out=>intro r a r' h;cases h
 | bad=>intro r a r' h;cases h
 | ret=>intro r a r' h;injection h with _ h;exact ⟨[],by rw [h];rfl⟩
 | bind _ _ _ ih1 ih2=>
  intro r a r' h;obtain ⟨b,r1,h1,h2⟩:=bind_ok.1 h;obtain ⟨c1,rfl⟩:=ih1 _ _ _ h1;obtain ⟨c2,rfl⟩:=ih2 _ _ _ _ h2;exact ⟨c1++c2,by simp⟩
 | want hs _ _ ih=>
  intro r a r' h;obtain ⟨b,r1,h1,h2⟩:=bind_ok.1 h;obtain ⟨hh,rfl⟩:=hQ h1;obtain ⟨t,ht,_⟩:=eN hh hs;obtain ⟨c2,h3⟩:=ih _ _ _ h2;exact ⟨t::c2,by rw [ht,h3];rfl⟩
 | skip hs _ _ _ _ ih1 ih2=>
  intro r a r' h;unfold eM at h
  split at h
  ·rename_i hh
   obtain ⟨t,ht,_⟩:=eN hh hs;obtain ⟨c2,h3⟩:=ih1 _ _ _ h;exact ⟨t::c2,by rw [ht,h3];rfl⟩
  ·exact ih2 _ _ _ h
 | peek _ _ _ _ ih1 ih2=>
  intro r a r' h;unfold kx at h
  split at h
  ·exact ih1 _ _ _ h
  ·exact ih2 _ _ _ h
 | name _ ih=>
  intro r a r' h;obtain ⟨b,r1,h1,h2⟩:=bind_ok.1 h;obtain ⟨t,rfl,_⟩:=nC h1;obtain ⟨c,rfl⟩:=ih _ _ _ _ h2;exact ⟨t::c,rfl⟩
 | word _ _ ih=>
  intro r a r' h;obtain ⟨b,r1,h1,h2⟩:=bind_ok.1 h;obtain ⟨q,rfl,rfl,_⟩:=nB h1;obtain ⟨c,rfl⟩:=ih _ _ _ _ _ h2;exact ⟨b::c,rfl⟩
 | num _ _ _ ih1 ih2=>
  intro r a r' h;unfold Ba at h
  split at h
  ·rename_i hn
   obtain ⟨c,h3⟩:=ih1 _ _ _ _ h
   cases r with
   | nil=>cases hn
   | cons t l=>exact ⟨t::c,by rw [List.tail_cons] at h3;rw [h3];rfl⟩
  ·exact ih2 _ _ _ h
theorem pY (c r r2:List Tok) (hc:c≠[]):hd (c++r)=hd (c++r2):=by
 cases c with
 | nil=>exact absurd rfl hc
 | cons a l=>rfl
theorem IsP.U1 {α:Type} {d:Int} {p q:List Tok->R α} (h:IsP d p q):∀c a r',p (c++r') = .ok a r'->∀r2,(hd r2=hd r'\/hd r2=[41])->p (c++r2) = .ok a r2:=by
 induction h with
 | out=>intro c a r' h;cases h
 | bad=>intro c a r' h;cases h
 | ret x=>
  intro c a r' h r2 _;unfold dI at h ⊢;injection h with h1 h
  have:c=[]:=by
   have:=congrArg List.length h;simp at this;exact this
  subst this h1;rfl
 | bind hp hf _ ih1 ih2=>
  intro c a r' h r2 hr;obtain ⟨b,r1,h1,h2⟩:=bind_ok.1 h;obtain ⟨c1,e1⟩:=hp.pre _ _ _ h1;obtain ⟨c2,rfl⟩:=(hf b).pre _ _ _ h2;rw [<- XH] at e1;have:=YF e1;subst this;rw [XH] at h1;have h3:=ih1 _ _ _ h1 (c2++r2) (by
   by_cases hc:c2=[]
   ·subst hc;exact hr
   ·exact .inl (pY _ _ _ hc))
  refine bind_ok.2 ⟨b,c2++r2,by rw [XH];exact h3,ih2 b _ _ _ h2 r2 hr⟩
 | want hs hp _ ih=>
  intro c a r' h r2 hr;obtain ⟨b,r1,h1,h2⟩:=bind_ok.1 h;obtain ⟨hh,rfl⟩:=hQ h1;obtain ⟨c2,h3⟩:=hp.pre _ _ _ h2
  cases c with
  | nil=>
   obtain ⟨t,ht,_⟩:=eN hh hs;have:=congrArg List.length ht;have:=congrArg List.length h3;simp at *;omega
  | cons t c=>
   rw [Xv] at h2 hh h1;refine bind_ok.2 ⟨(),c++r2,?_,ih _ _ _ h2 r2 hr⟩;have hh' : Uw.Tryz.hd (t::(c++r2))=_:=hh;rw [Xv,Uw.Tryz.want,if_pos hh'];rfl
 | skip hs he hp hq _ ih1 ih2=>
  intro c a r' h r2 hr;unfold eM at h ⊢
  split at h
  ·rename_i hh
   cases c with
   | nil=>
    obtain ⟨c2,h3⟩:=hp.pre _ _ _ h;obtain ⟨t,ht,_⟩:=eN hh hs;have:=congrArg List.length ht;have:=congrArg List.length h3;simp at *;omega
   | cons t c=>
    rw [Xv] at h hh;rw [Xv];have hh' : Uw.Tryz.hd (t::(c++r2))=_:=hh;rw [if_pos hh'];exact ih1 _ _ _ h r2 hr
  ·rename_i hh
   rw [if_neg]
   ·exact ih2 _ _ _ h r2 hr
   ·cases c with
    | cons t c=>exact hh
    | nil=>
     rcases he with he|he
     ·rcases hr with hr|hr
      ·show ¬Uw.Tryz.hd r2=_
       rw [hr];exact hh
      ·show ¬Uw.Tryz.hd r2=_
       rw [hr];exact fun e=>he e.symm
     ·have:=he _ _ _ h
      simp at this
 | peek hs he hp hq ih1 ih2=>
  intro c a r' h r2 hr;unfold kx at h ⊢
  split at h
  ·rename_i hh
   cases c with
   | nil=>
    have:=he _ _ _ h;simp at this
   | cons t c=>
    have hh' : Uw.Tryz.hd (t::c++r2)=_:=hh;rw [if_pos hh'];exact ih1 _ _ _ h r2 hr
  ·rename_i hh
   rw [if_neg]
   ·exact ih2 _ _ _ h r2 hr
   ·cases c with
    | cons t c=>exact hh
    | nil=>
     show ¬Uw.Tryz.hd r2=_
     rcases hr with hr|hr
     ·rw [hr];exact hh
     ·rw [hr];exact fun e=>hs e.symm
 | name hf ih=>
  intro c a r' h r2 hr;obtain ⟨b,r1,h1,h2⟩:=bind_ok.1 h;obtain ⟨t,e1,h3,h4,h5⟩:=nC h1;obtain ⟨c2,rfl⟩:=(hf b).pre _ _ _ h2;have:=YF (show c++r' = (t::c2)++r' from e1);subst this;refine bind_ok.2 ⟨b,c2++r2,?_,ih b _ _ _ h2 r2 hr⟩;rw [Xv,dW,eY,if_pos h4];show (if wI t.text=true then _ else _)=_;rw [h5,h3];rfl
 | word _ hf ih=>
  intro c a r' h r2 hr;obtain ⟨t,r1,h1,h2⟩:=bind_ok.1 h;obtain ⟨q,e1,rfl,h4⟩:=nB h1;obtain ⟨c2,rfl⟩:=(hf t.text t.n).pre _ _ _ h2;have:=YF (show c++r' = (t::c2)++r' from e1);subst this;refine bind_ok.2 ⟨t,c2++r2,?_,ih _ _ _ _ _ h2 r2 hr⟩;rw [Xv,eY,if_pos h4]
 | num he hf hq ih1 ih2=>
  intro c a r' h r2 hr;unfold Ba at h ⊢
  split at h
  ·rename_i hn
   cases c with
   | nil=>
    obtain ⟨c2,h3⟩:=(hf _).pre _ _ _ h
    cases r' with
    | nil=>cases hn
    | cons t l=>
     have:=congrArg List.length h3;simp at this;omega
   | cons t c=>
    have hn' : isNum (t::c++r2)=true:=hn;rw [if_pos hn'];exact ih1 _ _ _ _ h r2 hr
  ·rename_i hn
   cases c with
   | nil=>
    have:=he _ _ _ h;simp at this
   | cons t c=>
    have hn' : ¬isNum (t::c++r2)=true:=hn;rw [if_neg hn'];exact ih2 _ _ _ h r2 hr
def Wf (t:Tok):Prop:=t.kind≠3->delta t.text=0
end Uw.Tryz
namespace Uw.Tryz
open Go Uw
theorem Suf.len {a b:List Tok} {s:Nat} (h:Suf a b s):b.length+s<=a.length:=by
 obtain ⟨i,i1,rfl,i3⟩:=h;simp;omega
theorem IsP.len {α:Type} {d:Int} {p q:List Tok->R α} (h:IsP d p q) {r r' : List Tok} {a:α} (e:p r = .ok a r'):r'.length<=r.length:=by
 obtain ⟨c,rfl⟩:=h.pre _ _ _ e;simp
theorem yB {α:Type} {p:List Tok->R α} (h:∀r e r',p r = .ok e r'->∃s,1<=s/\Suf r r' s):vn p:=by
 intro r e r' he;obtain ⟨s,h1,h2⟩:=h r e r' he;have:=h2.len;omega
theorem wL {α β:Type} {d:Int} {p:List Tok->R β} {f f' : β->List Tok->R α} (h:vn p) (hf:∀b,IsP d (f b) (f' b)):vn (cQ p f):=by
 intro r a r' he;obtain ⟨b,r1,h1,h2⟩:=bind_ok.1 he;have:=h _ _ _ h1;have:=(hf b).len h2;omega
theorem B6 {α:Type} {d:Int} {f f' : Str->List Tok->R α} (hf:∀b,IsP d (f b) (f' b)):vn (cName f):=by
 intro r a r' he;obtain ⟨b,r1,h1,h2⟩:=bind_ok.1 he;have:=(Suf.name h1).len;have:=(hf b).len h2;omega
theorem Kq (n:Nat):vn (df n):=yB fun r e r' h=>⟨_,e.iz,(eD n).expr _ _ _ h⟩
theorem B7 (n:Nat) (s:Str):vn (fR n s):=yB fun r e r' h=>⟨_,by omega,(eD n).call _ _ _ _ h⟩
theorem pZ (n:Nat) (s:Str):vn (fJ n s):=yB fun r e r' h=>⟨_,e.iz,oZ h⟩
theorem B8 (n:Nat):vn (gl n):=yB fun r e r' h=>⟨_,e.iz,(o4 n).stmt _ _ _ h⟩
structure PE (n:Nat):Prop where
 oe:IsP 0 (iw n) (iw (n+1))
 call:∀s,IsP 0 (fR n s) (fR (n+1) s)
 args:IsP 0 (fB n) (fB (n+1))
 oY:IsP (-1) (dt n) (dt (n+1))
 prod:IsP 0 (gj n) (gj (n+1))
 nD:∀l,IsP 0 (dQ n l) (dQ (n+1) l)
 sum:IsP 0 (lQ n) (lQ (n+1))
 sumT:∀l,IsP 0 (eZ n l) (eZ (n+1) l)
 expr:IsP 0 (df n) (df (n+1))
theorem hZ {α:Type} {d:Int} {p q:List Tok->R α} (h:∀r,p r = .out):IsP d p q:=by
 have:p=fun _=>.out:=funext h;rw [this];exact .out
theorem pe:∀n,PE n
 | 0=>⟨hZ fun r=>by rw [iw],fun s=>hZ fun r=>by rw [fR],hZ fun r=>by rw [fB],hZ fun r=>by rw [dt],hZ fun r=>by rw [gj],fun l=>hZ fun r=>by rw [dQ],hZ fun r=>by rw [lQ],fun l=>hZ fun r=>by rw [eZ],hZ fun r=>by rw [df]⟩
 | n+1=>by
  have ih:=pe n;have arT:∀e,IsP (-1) (cQ (dt n) fun es=>dI (Exs.cons e es)) (cQ (dt (n+1)) fun es=>dI (Exs.cons e es)):=fun e=>.bind ih.oY (fun es=>.ret _) (by decide);refine ⟨?_,?_,?_,?_,?_,?_,?_,?_,?_⟩
  ·rw [vg n,vg (n+1)]
   have hq:∀s,IsP 0 (kx [46] (cQ (fR n s) fun x=>dI (Ex.call s x.1 x.2)) (dI (.name s))) (kx [46] (cQ (fR (n+1) s) fun x=>dI (Ex.call s x.1 x.2)) (dI (.name s))):=fun s=>
    .peek (by decide) (wL (B7 n s) fun x=>.ret _) (.bind (ih.call s) (fun x=>.ret _) (by decide)) (.ret _)
   exact .skip (d:=-1) (by decide) (.inl (by decide)) (.bind ih.expr (fun e=>.want (by decide) (.ret _) rfl) (by decide)) (.num (B6 hq) (fun v=>.ret _) (.name hq)) (by decide)
  ·intro s
   rw [vh n,vh (n+1)];exact .want (by decide) (.name fun v=>.bind ih.args (fun ar=>.ret _) rfl) (by decide)
  ·rw [vi n,vi (n+1)]
   exact .want (d:=-1) (by decide) (.skip (by decide) (.inr (wL (Kq n) arT)) (.ret _) (.bind ih.expr arT (by decide)) (by decide)) (by decide)
  ·rw [sy n,sy (n+1)]
   exact .skip (d:=-1) (by decide) (.inl (by decide)) (.bind ih.expr arT (by decide)) (.want (by decide) (.ret _) (by decide)) (by decide)
  ·rw [vj n,vj (n+1)]
   exact .bind ih.oe ih.nD (by decide)
  ·intro l
   rw [sA n,sA (n+1)];exact .skip (d:=0) (by decide) (.inl (by decide)) (.bind ih.oe (fun e=>ih.nD _) (by decide)) (.ret _) (by decide)
  ·rw [yz n,yz (n+1)]
   exact .bind ih.prod ih.sumT (by decide)
  ·intro l
   rw [vk n,vk (n+1)];exact .skip (d:=0) (by decide) (.inl (by decide)) (.bind ih.prod (fun e=>ih.sumT _) (by decide)) (.skip (d:=0) (by decide) (.inl (by decide)) (.bind ih.prod (fun e=>ih.sumT _) (by decide)) (.ret _) (by decide)) (by decide)
  ·rw [vl n,vl (n+1)]
   exact .bind ih.sum (fun l=>.skip (d:=0) (by decide) (.inl (by decide)) (.bind ih.sum (fun e=>.ret _) (by decide)) (.skip (d:=0) (by decide) (.inl (by decide)) (.bind ih.sum (fun e=>.ret _) (by decide)) (.ret _) (by decide)) (by decide)) (by decide)
theorem sD (n:Nat) (to:Str):IsP 0 (fJ n to) (fJ (n+1) to):=by
 rw [sB n,sB (n+1)];exact .bind (d:=0) (e:=0) (.skip (d:=0) (by decide) (.inl (by decide)) (.ret _) (.want (by decide) (.ret _) (by decide)) (by decide)) (fun par=>.name fun f=>.bind (e:=0) (pe n).args (fun ar=>by split<;>first|exact .bad|exact .ret _) (by decide)) (by decide)
theorem HV (n:Nat):IsP 0 (gk n) (gk (n+1)):=by
 rw [pW n,pW (n+1)];exact .peek (by decide) (pZ n []) (sD n []) (.peek (by decide) (pZ n []) (sD n []) (.skip (d:=0) (by decide) (.inl (by decide)) (.ret _) (.skip (d:=0) (by decide) (.inl (by decide)) (.bind (pe n).expr (fun e=>.ret _) (by decide))
  (.skip (d:=0) (by decide) (.inl (by decide)) (.bind (pe n).expr (fun e=>.ret _) (by decide)) (.name fun s=>.peek (by decide) (wL (B7 n s) fun x=>.ret _) (.bind ((pe n).call s) (fun x=>.ret _) (by decide))
   (.want (d:=0) (by decide) (.peek (by decide) (pZ n s) (sD n s) (.peek (by decide) (pZ n s) (sD n s) (.bind (pe n).expr (fun e=>.ret _) (by decide)))) (by decide))) (by decide)) (by decide)) (by decide)))
structure PS (n:Nat):Prop where
 stmt:IsP 0 (gl n) (gl (n+1))
 block:IsP 0 (ck n) (ck (n+1))
 stmts:IsP (-1) (cg n) (cg (n+1))
theorem ps:∀n,PS n
 | 0=>⟨hZ fun r=>by rw [gl],hZ fun r=>by rw [ck],hZ fun r=>by rw [cg]⟩
 | n+1=>by
  have ih:=ps n;refine ⟨?_,?_,?_⟩
  ·rw [zr n,zr (n+1)]
   exact .skip (d:=0) (by decide) (.inl (by decide)) (.bind (pe n).expr (fun e=>.bind (d:=0) (e:=0) ih.block (fun a=>.skip (d:=0) (by decide) (.inl (by decide)) (.bind ih.block (fun b=>.ret _) (by decide)) (.ret _) (by decide)) rfl) (by decide))
    (.skip (d:=0) (by decide) (.inl (by decide)) (.bind (pe n).expr (fun e=>.bind ih.block (fun a=>.ret _) rfl) (by decide)) (.bind (HV n) (fun s=>.want (by decide) (.ret _) rfl) (by decide)) (by decide)) (by decide)
  ·rw [wJ n,wJ (n+1)]
   exact .want (by decide) ih.stmts (by decide)
  ·rw [wK n,wK (n+1)]
   exact .skip (d:=0) (by decide) (.inl (by decide)) (.ret _) (.bind ih.stmt (fun s=>.bind ih.stmts (fun ss=>.ret _) rfl) (by decide)) (by decide)
theorem zt:∀n,IsP (-1) (cm n) (cm (n+1))
 | 0=>hZ fun r=>by rw [cm]
 | n+1=>by
  rw [pX n,pX (n+1)];exact .skip (d:=-1) (by decide) (.inl (by decide)) (.name fun s=>.bind (zt n) (fun l=>.ret _) (by decide)) (.want (by decide) (.ret _) (by decide)) (by decide)
theorem l8 (n:Nat):IsP 0 (iW n) (iW (n+1)):=by
 rw [sC n,sC (n+1)];have hq:∀s,IsP (-1) (cQ (cm n) fun l=>dI (s::l)) (cQ (cm (n+1)) fun l=>dI (s::l)):=fun s=>.bind (zt n) (fun l=>.ret _) (by decide);exact .want (d:=-1) (by decide) (.skip (d:=0) (by decide) (.inr (B6 hq)) (.ret _) (.name hq) (by decide)) (by decide)
theorem DU (n:Nat):IsP 0 (kY n) (kY (n+1)):=by
 rw [vm n,vm (n+1)];exact .want (d:=0) (by decide) (.name fun s=>.bind (e:=0) (l8 n) (fun l=>.bind (ps n).block (fun b=>.ret _) (by decide)) (by decide)) (by decide)
theorem zu:IsP 0 lr lr:=by
 rw [o5];refine .word (by decide) fun t _=>?_;rw [jN]
 split
 ·exact .bad
 ·refine .name fun s=>?_
  split
  ·exact .skip (d:=0) (by decide) (.inl (by decide)) (.word (by decide) fun _ n=>.want (by decide) (.ret _) (by decide)) (.want (by decide) (.ret _) (by decide)) (by decide)
  ·exact .want (by decide) (.ret _) (by decide)
theorem aS {α β:Type} {x:R β} {f:β->List Tok->R α} (h:x≠.out) (hf:∀b r,x = .ok b r->f b r≠.out):x.bind f≠.out:=by
 cases x with
 | ok a r=>exact hf a r rfl
 | bad=>exact fun h=>nomatch h
 | out=>exact absurd rfl h
theorem dh {α:Type} {a:α} {r:List Tok}:R.ok a r≠.out:=fun h=>nomatch h
theorem iT {s:Str} {r:List Tok}:want s r≠.out:=by rw [want];split<;>exact fun h=>nomatch h
theorem nE {r:List Tok}:dW r≠.out:=by
 rw [dW];refine aS ?_ fun t r _=>?_
 ·rw [eY.eq_def];split
  ·exact fun h=>nomatch h
  ·split<;>exact fun h=>nomatch h
 ·split<;>exact fun h=>nomatch h
structure NE (n:Nat):Prop where
 oe:∀r,6 * r.length+1<=n->iw n r≠.out
 call:∀s r,6 * r.length+1<=n->fR n s r≠.out
 args:∀r,6 * r.length+1<=n->fB n r≠.out
 oY:∀r,6 * r.length+1<=n->dt n r≠.out
 prod:∀r,6 * r.length+2<=n->gj n r≠.out
 nD:∀l r,6 * r.length+1<=n->dQ n l r≠.out
 sum:∀r,6 * r.length+3<=n->lQ n r≠.out
 sumT:∀l r,6 * r.length+1<=n->eZ n l r≠.out
 expr:∀r,6 * r.length+4<=n->df n r≠.out
theorem ne:∀n,NE n
 | 0=>⟨fun _ h=>by omega,fun _ _ h=>by omega,fun _ h=>by omega,fun _ h=>by omega,fun _ h=>by omega,fun _ _ h=>by omega,fun _ h=>by omega,fun _ _ h=>by omega,fun _ h=>by omega⟩
 | n+1=>by
  have ih:=ne n;have se:=eD n;refine ⟨?_,?_,?_,?_,?_,?_,?_,?_,?_⟩
  ·intro r hr
   rw [iw]
   split
   ·rename_i hh
    have:=(Suf.hd hh (by simp)).len;exact aS (ih.expr _ (by omega)) fun e r1 h1=>aS iT fun _ _ _=>dh
   ·split
    ·exact dh
    ·refine aS nE fun s r1 h1=>?_
     have:=(Suf.name h1).len
     split
     ·exact aS (ih.call _ _ (by omega)) fun _ _ _=>dh
     ·exact dh
  ·intro s r hr
   rw [fR];refine aS iT fun _ r1 h1=>aS nE fun v r2 h2=>aS (ih.args _ ?_) fun _ _ _=>dh;have:=(Suf.want (by simp) h1).len;have:=(Suf.name h2).len;omega
  ·intro r hr
   rw [fB];refine aS iT fun _ r1 h1=>?_;have:=(Suf.want (by simp) h1).len
   split
   ·exact dh
   ·refine aS (ih.expr _ (by omega)) fun e r2 h2=>aS (ih.oY _ ?_) fun _ _ _=>dh
    have:=(se.expr _ _ _ h2).len;omega
  ·intro r hr
   rw [dt]
   split
   ·rename_i hh
    have:=(Suf.hd hh (by simp)).len;refine aS (ih.expr _ (by omega)) fun e r2 h2=>aS (ih.oY _ ?_) fun _ _ _=>dh;have:=(se.expr _ _ _ h2).len;omega
   ·exact aS iT fun _ _ _=>dh
  ·intro r hr
   rw [gj];refine aS (ih.oe _ (by omega)) fun e r2 h2=>ih.nD _ _ ?_;have:=(se.oe _ _ _ h2).len;omega
  ·intro l r hr
   rw [dQ]
   split
   ·rename_i hh
    have:=(Suf.hd hh (by simp)).len;refine aS (ih.oe _ (by omega)) fun e r2 h2=>ih.nD _ _ ?_;have:=(se.oe _ _ _ h2).len;omega
   ·exact dh
  ·intro r hr
   rw [lQ];refine aS (ih.prod _ (by omega)) fun e r2 h2=>ih.sumT _ _ ?_;have:=(se.prod _ _ _ h2).len;omega
  ·intro l r hr
   rw [eZ]
   split
   ·rename_i hh
    have:=(Suf.hd hh (by simp)).len;refine aS (ih.prod _ (by omega)) fun e r2 h2=>ih.sumT _ _ ?_;have:=(se.prod _ _ _ h2).len;omega
   ·split
    ·rename_i hh
     have:=(Suf.hd hh (by simp)).len;refine aS (ih.prod _ (by omega)) fun e r2 h2=>ih.sumT _ _ ?_;have:=(se.prod _ _ _ h2).len;omega
    ·exact dh
  ·intro r hr
   rw [df];refine aS (ih.sum _ (by omega)) fun e r2 h2=>?_;have:=(se.sum _ _ _ h2).len
   split
   ·rename_i hh
    have:=(Suf.hd hh (by simp)).len;exact aS (ih.sum _ (by omega)) fun _ _ _=>dh
   ·split
    ·rename_i hh
     have:=(Suf.hd hh (by simp)).len;exact aS (ih.sum _ (by omega)) fun _ _ _=>dh
    ·exact dh
theorem FZ (n:Nat) (to:Str) (r:List Tok) (hr:6 * r.length+1<=n):fJ n to r≠.out:=by
 rw [fJ];have key:∀(x:R Bool),x≠.out->(∀b r1,x = .ok b r1->r1.length<=r.length)->x.bind (fun par r=>(dW r).bind fun f r=>(fB n r).bind fun ar r=>if par=true/\ar.length≠2 then R.bad else R.ok (Stm.task par to f ar) r)≠.out:=by
  intro x hx hl;refine aS hx fun b r1 h1=>aS nE fun f r2 h2=>aS ((ne n).args _ ?_) fun ar r3 _=>?_
  ·have:=hl _ _ h1
   have:=(Suf.name h2).len;omega
  ·split<;>exact fun h=>nomatch h
 refine key _ ?_ ?_
 ·split
  ·exact dh
  ·exact aS iT fun _ _ _=>dh
 ·intro b r1 h
  split at h
  ·injection h with _ h
   rw [<- h];simp
  ·obtain ⟨_,r2,h2,h3⟩:=bind_ok.1 h
   injection h3 with _ h3
   subst h3;have:=(Suf.want (by decide) h2).len;omega
theorem Kr (n:Nat) (r:List Tok) (hr:6 * r.length+4<=n):gk n r≠.out:=by
 rw [gk];have ih:=ne n
 split
 ·exact FZ n _ _ (by omega)
 ·split
  ·exact dh
  ·split
   ·exact aS (ih.expr _ (by simp;omega)) fun _ _ _=>dh
   ·split
    ·exact aS (ih.expr _ (by simp;omega)) fun _ _ _=>dh
    ·refine aS nE fun s r1 h1=>?_
     have:=(Suf.name h1).len
     split
     ·exact aS (ih.call _ _ (by omega)) fun _ _ _=>dh
     ·refine aS iT fun _ r2 h2=>?_
      have:=(Suf.want (by decide) h2).len
      split
      ·exact FZ n _ _ (by omega)
      ·exact aS (ih.expr _ (by omega)) fun _ _ _=>dh
structure NS (n:Nat):Prop where
 stmt:∀r,6 * r.length+5<=n->gl n r≠.out
 block:∀r,6 * r.length+5<=n->ck n r≠.out
 stmts:∀r,6 * r.length+6<=n->cg n r≠.out
theorem ns_:∀n,NS n
 | 0=>⟨fun _ h=>by omega,fun _ h=>by omega,fun _ h=>by omega⟩
 | n+1=>by
  have ih:=ns_ n;have se:=eD n;have ss:=o4 n;refine ⟨?_,?_,?_⟩
  ·intro r hr
   rw [gl]
   split
   ·rename_i hh
    have:=(Suf.hd hh (by decide)).len;refine aS ((ne n).expr _ (by omega)) fun e r1 h1=>?_;have:=(se.expr _ _ _ h1).len;refine aS (ih.block _ (by omega)) fun a r2 h2=>?_;have:=(ss.block _ _ _ h2).len
    split
    ·exact aS (ih.block _ (by simp;omega)) fun _ _ _=>dh
    ·exact dh
   ·split
    ·rename_i hh
     have:=(Suf.hd hh (by decide)).len;refine aS ((ne n).expr _ (by omega)) fun e r1 h1=>?_;have:=(se.expr _ _ _ h1).len;exact aS (ih.block _ (by omega)) fun a r2 h2=>dh
    ·exact aS (Kr n _ (by omega)) fun _ _ _=>aS iT fun _ _ _=>dh
  ·intro r hr
   rw [ck];refine aS iT fun _ r1 h1=>ih.stmts _ ?_;have:=(Suf.want (by decide) h1).len;omega
  ·intro r hr
   rw [cg]
   split
   ·exact dh
   ·refine aS (ih.stmt _ (by omega)) fun s r1 h1=>?_
    have:=(ss.stmt _ _ _ h1).len;have:=s.iz;exact aS (ih.stmts _ (by omega)) fun _ _ _=>dh
theorem B9:∀n r,r.length+1<=n->cm n r≠.out
 | 0,_,h=>by omega
 | n+1,r,hr=>by
  rw [cm]
  split
  ·rename_i hh
   have:=(Suf.hd hh (by simp)).len;refine aS nE fun s r1 h1=>aS (B9 n _ ?_) fun _ _ _=>dh;have:=(Suf.name h1).len;omega
  ·exact aS iT fun _ _ _=>dh
theorem M3 (n:Nat) (r:List Tok) (hr:r.length+1<=n):iW n r≠.out:=by
 rw [iW];refine aS iT fun _ r1 h1=>?_;have:=(Suf.want (by decide) h1).len
 split
 ·exact dh
 ·refine aS nE fun s r2 h2=>aS (B9 n _ ?_) fun _ _ _=>dh
  have:=(Suf.name h2).len;omega
theorem M4 (n:Nat) (r:List Tok) (hr:6 * r.length+5<=n):kY n r≠.out:=by
 rw [kY];refine aS iT fun _ r1 h1=>aS nE fun s r2 h2=>?_;have:=(Suf.want (by decide) h1).len;have:=(Suf.name h2).len;refine aS (M3 n _ (by omega)) fun l r3 h3=>aS ((ns_ n).block _ ?_) fun _ _ _=>dh;have:=(l8 n).len h3;omega
theorem Jf (r:List Tok):lr r≠.out:=by
 rw [o5];have hw:∀k r,eY k r≠.out:=by
  intro k r;rw [eY.eq_def];split
  ·exact fun h=>nomatch h
  ·split<;>exact fun h=>nomatch h
 refine aS (hw _ _) fun t r _=>?_;show jN t.text r≠_;unfold jN
 cases kindOf t.text with
 | none=>exact fun h=>nomatch h
 | some k=>
  refine aS nE fun s r _=>?_;have hz:∀(d:Dec) r,iL [59] (dI d) r≠.out:=fun d r=>aS iT fun _ _ _=>dh;by_cases hk:k=0
  ·rw [if_pos hk]
   show (if hd r=[61] then _ else _)≠R.out
   split
   ·exact aS (hw _ _) fun t r _=>hz _ _
   ·exact hz _ _
  ·rw [if_neg hk]
   exact hz _ _
end Uw.Tryz
namespace Uw.Tryz
open Go Uw
theorem up {α:Type} {d:Int} {p:Nat->List Tok->R α} (h:∀n,IsP d (p n) (p (n+1))) {n:Nat} {r:List Tok} (hn:p n r≠.out) (k:Nat):p (n+k) r=p n r:=by
 induction k with
 | zero=>rfl
 | succ k ih=>
  rcases (h (n+k)).le r with e|e
  ·rw [ih] at e;exact absurd e hn
  ·rw [<- Yj,<- e,ih]
theorem up' {α:Type} {d:Int} {p:Nat->List Tok->R α} (h:∀n,IsP d (p n) (p (n+1))) {n m:Nat} {r:List Tok} {a:α} {r' : List Tok} (hn:p n r = .ok a r') (hm:n<=m):p m r = .ok a r':=by
 obtain ⟨k,rfl⟩:=Nat.le.dest hm;rw [up h (by rw [hn];exact dh),hn]
def Reads {α:Type} (p:Nat->List Tok->R α) (r:List Tok) (a:α) (r' : List Tok):Prop:=∃n,p n r = .ok a r'
theorem Reads.det {α:Type} {d:Int} {p:Nat->List Tok->R α} (h:∀n,IsP d (p n) (p (n+1))) {r:List Tok} {a b:α} {r1 r2:List Tok} (h1:Reads p r a r1) (h2:Reads p r b r2):a=b/\r1=r2:=by
 obtain ⟨n,h1⟩:=h1;obtain ⟨m,h2⟩:=h2;have e1:=up' h h1 (Nat.le_max_left n m);have e2:=up' h h2 (Nat.le_max_right n m);rw [e1] at e2;injection e2 with e3 e4
 exact ⟨e3,e4⟩
theorem Reads.at {α:Type} {d:Int} {p:Nat->List Tok->R α} (h:∀n,IsP d (p n) (p (n+1))) {r:List Tok} {a:α} {r1:List Tok} (h1:Reads p r a r1) {n:Nat} (hn:p n r≠.out):p n r = .ok a r1:=by
 obtain ⟨m,h1⟩:=h1;have e1:=up' h h1 (Nat.le_max_right n m);obtain ⟨k,hk⟩:=Nat.le.dest (Nat.le_max_left n m);rw [<- hk,up h hn] at e1;exact e1
theorem yC {α β:Type} (a:β) (r:List Tok) (f:β->List Tok->R α):(R.ok a r).bind f=f a r:=rfl
inductive om:List Tok->List Dec->List Tok->Prop
 | stop {r:List Tok}:r=[]\/hd r=iu->om r [] r
 | cons {r r' r'' : List Tok} {d:Dec} {ds:List Dec}:¬(r=[]\/hd r=iu)->lr r = .ok d r'->om r' ds r''->om r (d::ds) r''
inductive o6:List Tok->List Fn->Prop
 | nil:o6 [] []
 | cons {r r' : List Tok} {f:Fn} {fs:List Fn}:Reads kY r f r'->o6 r' fs->o6 r (f::fs)
def Prg (l:List Tok) (ds:List Dec) (fs:List Fn):Prop:=∃r,om l ds r/\o6 r fs
def xK (l:List Tok):Nat:=6 * l.length+6
def xM (l:List Tok):Option (List Dec×List Fn):=match vf (xK l) l with | .ok x _=>some x | .bad=>none | .out=>none
theorem sE:vn lr:=by
 intro r e r' h;rw [o5] at h;obtain ⟨t,r1,h1,h2⟩:=bind_ok.1 h;obtain ⟨q,rfl,rfl,_⟩:=nB h1;have:IsP 0 (jN t.text) (jN t.text):=by
  rw [jN]
  split
  ·exact .bad
  ·refine .name fun s=>?_
   split
   ·exact .skip (d:=0) (by decide) (.inl (by decide)) (.word (by decide) fun _ n=>.want (by decide) (.ret _) (by decide)) (.want (by decide) (.ret _) (by decide)) (by decide)
   ·exact .want (by decide) (.ret _) (by decide)
 have:=this.len h2;simp;omega
theorem vo (n:Nat):vn (kY n):=by
 intro r e r' h;rw [kY] at h;obtain ⟨_,r1,h1,h⟩:=bind_ok.1 h;obtain ⟨s,r2,h2,h⟩:=bind_ok.1 h;obtain ⟨l,r3,h3,h⟩:=bind_ok.1 h;obtain ⟨b,r4,h4,h⟩:=bind_ok.1 h;injection h with _ h
 have:=(Suf.want (by decide) h1).len;have:=(Suf.name h2).len;have:=(l8 n).len h3;have:=(ps n).block.len h4;rw [<- h];omega
theorem om.len {r r' : List Tok} {ds:List Dec} (h:om r ds r'):r'.length+ds.length<=r.length:=by
 induction h with
 | stop _=>simp
 | cons _ h1 _ ih=>
  have:=sE _ _ _ h1;simp;omega
theorem om.at {r r' : List Tok} {ds:List Dec} (h:om r ds r'):∀n,r.length+1<=n->fq n r = .ok ds r':=by
 induction h with
 | stop h=>
  intro n hn
  cases n with
  | zero=>omega
  | succ n=>rw [fq,if_pos h]
 | cons h h1 h2 ih=>
  intro n hn
  cases n with
  | zero=>omega
  | succ n=>
   have:=sE _ _ _ h1;rw [fq,if_neg h,h1,yC,ih n (by omega)];rfl
theorem o6.at {r:List Tok} {fs:List Fn} (h:o6 r fs):∀n,6 * r.length+6<=n->gm n r = .ok fs []:=by
 induction h with
 | nil=>
  intro n hn
  cases n with
  | zero=>omega
  | succ n=>rw [gm,if_pos rfl]
 | cons h h2 ih=>
  rename_i r r' f fs;intro n hn
  cases n with
  | zero=>omega
  | succ n=>
   have h1:=h.at DU (M4 n r (by omega));have:=vo _ _ _ _ h1;rw [gm,if_neg (by rintro rfl;simp at this),h1,yC,ih n (by omega)];rfl
theorem Prg.at {l:List Tok} {ds:List Dec} {fs:List Fn} (h:Prg l ds fs):xM l=some (ds,fs):=by
 obtain ⟨r,h1,h2⟩:=h;have:=h1.len;rw [xM,vf,h1.at _ (by rw [xK];omega),yC,h2.at _ (by rw [xK];omega)];rfl
theorem zw:∀(n:Nat) {r r' : List Tok} {ds:List Dec},fq n r = .ok ds r'->om r ds r'
 | 0,_,_,_,h=>by rw [fq] at h;cases h
 | n+1,r,r',ds,h=>by
  rw [fq] at h
  split at h
  ·rename_i hh
   injection h with h1 h2
   subst h1 h2;exact .stop hh
  ·rename_i hh
   obtain ⟨d,r1,h1,h⟩:=bind_ok.1 h;obtain ⟨l,r2,h2,h⟩:=bind_ok.1 h;injection h with h3 h4
   subst h3 h4;exact .cons hh h1 (zw n h2)
theorem Jg:∀(n:Nat) {r r' : List Tok} {fs:List Fn},gm n r = .ok fs r'->o6 r fs/\r' = []
 | 0,_,_,_,h=>by rw [gm] at h;cases h
 | n+1,r,r',fs,h=>by
  rw [gm] at h
  split at h
  ·rename_i hh
   injection h with h1 h2
   subst h1 h2 hh;exact ⟨.nil,rfl⟩
  ·rename_i hh
   obtain ⟨d,r1,h1,h⟩:=bind_ok.1 h;obtain ⟨l,r2,h2,h⟩:=bind_ok.1 h;injection h with h3 h4
   subst h3 h4;obtain ⟨h5,h6⟩:=Jg n h2;exact ⟨.cons ⟨n,h1⟩ h5,h6⟩
theorem Jh {n:Nat} {l r' : List Tok} {ds:List Dec} {fs:List Fn} (h:vf n l = .ok (ds,fs) r'):Prg l ds fs:=by
 rw [vf] at h;obtain ⟨d,r1,h1,h⟩:=bind_ok.1 h;obtain ⟨f,r2,h2,h⟩:=bind_ok.1 h;injection h with h3 h4
 injection h3 with h3 h5
 subst h3 h5;exact ⟨r1,zw _ h1,(Jg _ h2).1⟩
theorem Ks {l:List Tok} {ds:List Dec} {fs:List Fn}:xM l=some (ds,fs)<->Prg l ds fs:=by
 refine ⟨fun h=>?_,Prg.at⟩;rw [xM] at h
 split at h
 ·rename_i x r e
  injection h with h
  subst h;exact Jh e
 ·cases h
 ·cases h
theorem F2:∀n r,r.length+1<=n->fq n r≠.out
 | 0,_,h=>by omega
 | n+1,r,hn=>by
  rw [fq]
  split
  ·exact dh
  ·refine aS (Jf r) fun d r1 h1=>aS (F2 n _ ?_) fun _ _ _=>dh
   have:=sE _ _ _ h1;omega
theorem Ji:∀n r,6 * r.length+6<=n->gm n r≠.out
 | 0,_,h=>by omega
 | n+1,r,hn=>by
  rw [gm]
  split
  ·exact dh
  ·refine aS (M4 n r (by omega)) fun d r1 h1=>aS (Ji n _ ?_) fun _ _ _=>dh
   have:=vo _ _ _ _ h1;omega
theorem PH (l:List Tok):vf (xK l) l≠.out:=by
 rw [vf];refine aS (F2 _ _ (by rw [xK];omega)) fun d r h1=>aS (Ji _ _ ?_) fun _ _ _=>dh;have:=(zw _ h1).len;rw [xK];omega
theorem Kt {n:Nat} {c r' : List Tok} {b:Bl} (h:ck n (c++r') = .ok b r') (r2:List Tok):ck n (c++r2) = .ok b r2:=by
 -- a block ends with a bracket,whatever stands behind
 have key:∀m c r' b,cg m (c++r') = .ok b r'->∀r2,cg m (c++r2) = .ok b r2:=by
  intro m
  induction m with
  | zero=>intro c r' b h;rw [cg] at h;cases h
  | succ m ih=>
   intro c r' b h r2;rw [cg] at h ⊢
   split at h
   ·rename_i hh
    injection h with h1 h2
    cases c with
    | nil=>
     obtain ⟨t,ht,_⟩:=eN hh (by decide);have:=congrArg List.length ht;have:=congrArg List.length h2;simp at *;omega
    | cons t c=>
     have hh' : hd (t::c++r2)=[125]:=hh;rw [if_pos hh',h1];have:c=[]:=by
      have:=congrArg List.length h2;simp at this;exact this
     subst this;rfl
   ·rename_i hh
    obtain ⟨s,r1,h1,h2⟩:=bind_ok.1 h;obtain ⟨ss,r3,h3,h4⟩:=bind_ok.1 h2;injection h4 with h4 h5
    subst h4 h5;obtain ⟨c1,e1⟩:=(ps m).stmt.pre _ _ _ h1;obtain ⟨c2,rfl⟩:=(ps m).stmts.pre _ _ _ h3;rw [<- XH] at e1;have:=YF e1;subst this;have hc2:c2≠[]:=by
     rintro rfl;have:=(o4 m).stmts _ _ _ h3
     cases m with
     | zero=>rw [cg] at h3;cases h3
     | succ m=>
      rw [cg] at h3
      split at h3
      ·rename_i hx
       injection h3 with _ h3
       obtain ⟨t,ht,_⟩:=eN hx (by decide);have:=congrArg List.length ht;have:=congrArg List.length h3;simp at *;omega
      ·obtain ⟨s',r4,h6,h7⟩:=bind_ok.1 h3
       obtain ⟨ss',r5,h8,h9⟩:=bind_ok.1 h7;injection h9 with _ h9
       have:=B8 m _ _ _ h6;have:=(ps m).stmts.len h8;subst h9;simp at *;omega
    have hc1:c1≠[]:=by
     rintro rfl;have:=B8 m _ _ _ h1;simp at this
    rw [XH] at h1;have h6:=(ps m).stmt.U1 _ _ _ h1 (c2++r2) (.inl (pY _ _ _ hc2));rw [XH] at hh ⊢;rw [if_neg (by rw [pY c1 (c2++r2) _ hc1];exact hh),h6,yC,ih c2 _ ss h3 r2];rfl
 cases n with
 | zero=>rw [ck] at h;cases h
 | succ n=>
  rw [ck] at h ⊢;obtain ⟨_,r1,h1,h2⟩:=bind_ok.1 h;obtain ⟨hh,rfl⟩:=hQ h1
  cases c with
  | nil=>
   obtain ⟨t,ht,_⟩:=eN hh (by decide);have:=congrArg List.length ht;have:=(ps n).stmts.len h2;simp at *;omega
  | cons t c=>
   have hh' : hd (t::c++r2)=[123]:=hh;rw [want,if_pos hh'];exact key n c r' b h2 r2
theorem PI {n:Nat} {c r' : List Tok} {f:Fn} (h:kY n (c++r') = .ok f r') (r2:List Tok):kY n (c++r2) = .ok f r2:=by
 rw [vm] at h ⊢;obtain ⟨_,r1,h1,h⟩:=bind_ok.1 h;obtain ⟨hh,rfl⟩:=hQ h1;have hp:∀g:Str->Bl->Fn,True:=fun _=>trivial;obtain ⟨s,r2',h2,h⟩:=bind_ok.1 h;obtain ⟨l,r3,h3,h⟩:=bind_ok.1 h;obtain ⟨b,r4,h4,h⟩:=bind_ok.1 h;injection h with h5 h6
 subst h5;rw [h6] at h4;obtain ⟨t1,ht1,ht1'⟩:=eN hh (by decide);obtain ⟨t2,e2,e3,e4,e5⟩:=nC h2;obtain ⟨c3,e6⟩:=(l8 n).pre _ _ _ h3;obtain ⟨c4,e7⟩:=(ps n).block.pre _ _ _ h4;subst e7;have hc4:c4≠[]:=by
  rintro rfl;have:=(o4 n).block _ _ _ h4;have:=this.len;simp at this;omega
 have ec:c=t1::t2::(c3++c4):=by
  refine YF (bs:=r') ?_;rw [ht1,e2,e6];simp
 subst ec;have hh' : hd (t1::t2::(c3++c4)++r2)=iu:=by show t1.text=_;exact ht1'
 refine bind_ok.2 ⟨(),t2::(c3++c4)++r2,by rw [want,if_pos hh'];rfl,bind_ok.2 ⟨s,c3++(c4++r2),?_,bind_ok.2 ⟨l,c4++r2,?_,bind_ok.2 ⟨b,r2,Kt h4 r2,rfl⟩⟩⟩⟩
 ·rw [dW,Xv,eY,if_pos e4]
  show (if wI t2.text=true then _ else _)=_;rw [e5,e3];simp
 ·rw [e6] at h3
  exact (l8 n).U1 _ _ _ h3 _ (.inl (pY _ _ _ hc4))
theorem F3 {c r' : List Tok} {d:Dec} (h:lr (c++r') = .ok d r') (r2:List Tok):lr (c++r2) = .ok d r2:=by
 have hz:∀(x:Dec) (c r' : List Tok),iL [59] (dI x) (c++r') = .ok d r'->iL [59] (dI x) (c++r2) = .ok d r2:=by
  intro x c r' h;obtain ⟨_,r1,h1,h2⟩:=bind_ok.1 h;obtain ⟨hh,rfl⟩:=hQ h1;injection h2 with h2 h3
  obtain ⟨t,ht,ht'⟩:=eN hh (by decide);have:c=[t]:=by
   refine YF (bs:=r') ?_;rw [ht,h3];rfl
  subst this;have hh' : hd ([t]++r2)=[59]:=ht';refine bind_ok.2 ⟨(),r2,by rw [want,if_pos hh'];rfl,by rw [h2];rfl⟩
 rw [o5] at h ⊢;obtain ⟨t,r1,h1,h⟩:=bind_ok.1 h;obtain ⟨q,e1,rfl,hk⟩:=nB h1;have hcons:∀{c:List Tok} {t:Tok} {q:List Tok},c++r' = t::q->r'.length<=q.length->∃c',c=t::c'/\q=c'++r':=by
  intro c t q e hl
  cases c with
  | nil=>have:=congrArg List.length e;simp at this;omega
  | cons a c=>injection e with e1 e2;exact ⟨c,by rw [e1],e2.symm⟩
 have hK:∀(x:Str),IsP 0 (jN x) (jN x):=by
  intro x;rw [jN]
  split
  ·exact .bad
  ·refine .name fun s=>?_
   split
   ·exact .skip (d:=0) (by decide) (.inl (by decide)) (.word (by decide) fun _ n=>.want (by decide) (.ret _) (by decide)) (.want (by decide) (.ret _) (by decide)) (by decide)
   ·exact .want (by decide) (.ret _) (by decide)
 obtain ⟨c1,rfl,rfl⟩:=hcons e1 ((hK _).len h);refine bind_ok.2 ⟨t,c1++r2,by rw [Xv,eY,if_pos hk],?_⟩;show jN t.text (c1++r2)=_;have h:jN t.text (c1++r') = .ok d r':=h;unfold jN at h ⊢
 cases hkk:kindOf t.text with
 | none=>rw [hkk] at h;cases h
 | some k=>
  rw [hkk] at h;obtain ⟨s,r1,h1,h⟩:=bind_ok.1 h;obtain ⟨t2,e2,e3,e4,e5⟩:=nC h1;have hl:r'.length<=r1.length:=by
   split at h
   ·exact IsP.len (.skip (d:=0) (g:=0) (by decide) (.inl (by decide)) (.word (by decide) fun _ n=>.want (by decide) (.ret _) (by decide)) (.want (by decide) (.ret _) (by decide)) (by decide)) h
   ·exact IsP.len (.want (g:=0) (by decide) (.ret _) (by decide)) h
  obtain ⟨c2,rfl,rfl⟩:=hcons e2 hl;refine bind_ok.2 ⟨s,c2++r2,?_,?_⟩
  ·rw [dW,Xv,eY,if_pos e4]
   show (if wI t2.text=true then _ else _)=_;rw [e5,e3];simp
  ·by_cases hk0:k=0
   ·rw [if_pos hk0] at h
    rw [if_pos hk0];unfold eM at h ⊢
    split at h
    ·rename_i hh
     obtain ⟨t3,ht3,VR⟩:=eN hh (by decide);obtain ⟨t4,r4,h4,h⟩:=bind_ok.1 h;obtain ⟨q4,e4',VT,hk4⟩:=nB h4;subst VT;have hl4:r'.length<=r4.length:=IsP.len (.want (g:=0) (by decide) (.ret _) (by decide)) h;obtain ⟨c3,rfl,e6⟩:=hcons ht3 (by rw [e4'];simp;omega);rw [e6] at e4';obtain ⟨c4,rfl,rfl⟩:=hcons e4' hl4;have hh' : hd (t3::t4::c4++r2)=[61]:=VR;rw [if_pos hh'];refine bind_ok.2 ⟨t4,c4++r2,?_,hz _ _ _ h⟩;show eY 2 (t4::(c4++r2))=_;rw [eY,if_pos hk4]
    ·rename_i hh
     rw [if_neg]
     ·exact hz _ _ _ h
     ·have hc:c2≠[]:=by
       rintro rfl;obtain ⟨_,r5,h5,h6⟩:=bind_ok.1 h;have:=(Suf.want (by decide) h5).len;injection h6 with _ h6
       subst h6;simp at this;omega
      rw [pY c2 r2 r' hc];exact hh
   ·rw [if_neg hk0] at h
    rw [if_neg hk0];exact hz _ _ _ h
end Uw.Tryz
namespace Uw.Tryz
open Go Uw
def NB {α:Type} (p:List Tok->R α):Prop:=∀r a r',(∀t∈r,Wf t)->p r = .ok a r'->∃c,r=c++r'/\∀t∈c,t.text≠[123]
section
variable {α β : Type}
theorem oq {p:List Tok->R α} (h:∀r,p r = .out):NB p:=fun r a r' _ he=>by rw [h] at he;cases he
theorem SQ:NB (Kp (α:=α)):=fun r a r' _ he=>by cases he
theorem dE (a:α):NB (dI a):=fun r b r' _ he=>by injection he with _ he;exact ⟨[],by rw [he];rfl,fun t h=>by cases h⟩
theorem di {p:List Tok->R β} {f:β->List Tok->R α} (h1:NB p) (h2:∀b,NB (f b)):NB (cQ p f):=fun r a r' hw he=>by
 obtain ⟨b,r1,e1,e2⟩:=bind_ok.1 he;obtain ⟨c1,rfl,n1⟩:=h1 _ _ _ hw e1;obtain ⟨c2,rfl,n2⟩:=h2 b _ _ _ (fun t ht=>hw t (YN _ ht)) e2;exact ⟨c1++c2,by simp,fun t ht=>(XG.1 ht).elim (n1 t) (n2 t)⟩
theorem yD {t:Tok} {r r' : List Tok} (ht:t.text≠[123]) (h:∃c,r=c++r'/\∀t∈c,t.text≠[123]):∃c,t::r=c++r'/\∀t∈c,t.text≠[123]:=by
 obtain ⟨c,rfl,n⟩:=h;exact ⟨t::c,rfl,fun x hx=>(XA.1 hx).elim (fun e=>e ▸ ht) (n x)⟩
theorem nG {s:Str} {p:List Tok->R α} (hs:s≠[]) (h:s≠[123]) (hp:NB p):NB (iL s p):=fun r a r' hw he=>by
 obtain ⟨b,r1,e1,e2⟩:=bind_ok.1 he;obtain ⟨hh,rfl⟩:=hQ e1;obtain ⟨t,ht,ht2⟩:=eN hh hs;rw [ht];exact yD (ht2 ▸ h) (hp _ _ _ (fun t ht=>hw t (Zq ht)) e2)
theorem gp {s:Str} {p q:List Tok->R α} (hs:s≠[]) (h:s≠[123]) (hp:NB p) (hq:NB q):NB (eM s p q):=fun r a r' hw he=>by
 unfold eM at he
 split at he
 ·rename_i hh
  obtain ⟨t,ht,ht2⟩:=eN hh hs;rw [ht];exact yD (ht2 ▸ h) (hp _ _ _ (fun t ht=>hw t (Zq ht)) he)
 ·exact hq _ _ _ hw he
theorem sF {s:Str} {p q:List Tok->R α} (hp:NB p) (hq:NB q):NB (kx s p q):=fun r a r' hw he=>by
 unfold kx at he
 split at he
 ·exact hp _ _ _ hw he
 ·exact hq _ _ _ hw he
theorem DV {t:Tok} (hw:Wf t) (hk:t.kind≠3):t.text≠[123]:=fun e=>by
 have:=hw hk;rw [e] at this;exact absurd this (by decide)
theorem sG {f:Str->List Tok->R α} (hf:∀b,NB (f b)):NB (cName f):=fun r a r' hw he=>by
 obtain ⟨b,r1,e1,e2⟩:=bind_ok.1 he;obtain ⟨t,rfl,_,hk,_⟩:=nC e1;exact yD (DV (hw t (by simp)) (by omega)) (hf b _ _ _ (fun t ht=>hw t (by simp [ht])) e2)
theorem SR {f:Int->List Tok->R α} {q:List Tok->R α} (hf:∀b,NB (f b)) (hq:NB q):NB (Ba f q):=fun r a r' hw he=>by
 unfold Ba at he
 split at he
 ·rename_i hn
  cases r with
  | nil=>cases hn
  | cons t l=>
   have hk:t.kind=2:=by simpa [isNum] using hn
   exact yD (DV (hw t (by simp)) (by omega)) (hf _ _ _ _ (fun t ht=>hw t (by simp [ht])) he)
 ·exact hq _ _ _ hw he
end
structure NbE (n:Nat):Prop where
 oe:NB (iw n)
 call:∀s,NB (fR n s)
 args:NB (fB n)
 oY:NB (dt n)
 prod:NB (gj n)
 nD:∀l,NB (dQ n l)
 sum:NB (lQ n)
 sumT:∀l,NB (eZ n l)
 expr:NB (df n)
theorem SS:∀n,NbE n
 | 0=>⟨oq fun r=>by rw [iw],fun s=>oq fun r=>by rw [fR],oq fun r=>by rw [fB],oq fun r=>by rw [dt],oq fun r=>by rw [gj],fun l=>oq fun r=>by rw [dQ],oq fun r=>by rw [lQ],fun l=>oq fun r=>by rw [eZ],oq fun r=>by rw [df]⟩
 | n+1=>by
  have ih:=SS n;refine ⟨?_,fun s=>?_,?_,?_,?_,fun l=>?_,?_,fun l=>?_,?_⟩
  ·rw [vg]
   exact gp (by decide) (by decide) (di ih.expr fun e=>nG (by decide) (by decide) (dE _)) (SR (fun v=>dE _) (sG fun s=>sF (di (ih.call s) fun x=>dE _) (dE _)))
  ·rw [vh]
   exact nG (by decide) (by decide) (sG fun v=>di ih.args fun ar=>dE _)
  ·rw [vi]
   exact nG (by decide) (by decide) (gp (by decide) (by decide) (dE _) (di ih.expr fun e=>di ih.oY fun es=>dE _))
  ·rw [sy]
   exact gp (by decide) (by decide) (di ih.expr fun e=>di ih.oY fun es=>dE _) (nG (by decide) (by decide) (dE _))
  ·rw [vj]
   exact di ih.oe fun e=>ih.nD e
  ·rw [sA]
   exact gp (by decide) (by decide) (di ih.oe fun e=>ih.nD _) (dE _)
  ·rw [yz]
   exact di ih.prod fun e=>ih.sumT e
  ·rw [vk]
   exact gp (by decide) (by decide) (di ih.prod fun e=>ih.sumT _) (gp (by decide) (by decide) (di ih.prod fun e=>ih.sumT _) (dE _))
  ·rw [vl]
   exact di ih.sum fun l=>gp (by decide) (by decide) (di ih.sum fun e=>dE _) (gp (by decide) (by decide) (di ih.sum fun e=>dE _) (dE _))
theorem vp (n:Nat) (to:Str):NB (fJ n to):=by
 rw [sB];exact di (gp (by decide) (by decide) (dE _) (nG (by decide) (by decide) (dE _))) fun par=>sG fun f=>di (SS n).args fun ar=>by split<;>first|exact SQ|exact dE _
theorem Ku (n:Nat):NB (gk n):=by
 have ih:=SS n;rw [pW];exact sF (vp n _) (sF (vp n _) (gp (by decide) (by decide) (dE _) (gp (by decide) (by decide) (di ih.expr fun e=>dE _) (gp (by decide) (by decide) (di ih.expr fun e=>dE _)
  (sG fun s=>sF (di (ih.call s) fun x=>dE _) (nG (by decide) (by decide) (sF (vp n _) (sF (vp n _) (di ih.expr fun e=>dE _)))))))))
theorem Cc:∀n,NB (cm n)
 | 0=>oq fun r=>by rw [cm]
 | n+1=>by
  rw [pX];exact gp (by decide) (by decide) (sG fun s=>di (Cc n) fun l=>dE _) (nG (by decide) (by decide) (dE _))
theorem M5 (n:Nat):NB (iW n):=by
 rw [sC];exact nG (by decide) (by decide) (gp (by decide) (by decide) (dE _) (sG fun s=>di (Cc n) fun l=>dE _))
theorem ui:∀(n:Nat) {r r' : List Tok} {b:Bl},cg n r = .ok b r'->∃c t,r=c++t::r'/\t.text=[125]
 | 0,r,r',b,h=>by rw [cg] at h;cases h
 | n+1,r,r',b,h=>by
  rw [cg] at h
  split at h
  ·rename_i hh
   obtain ⟨t,ht,ht2⟩:=eN hh (by decide);injection h with _ h
   exact ⟨[],t,by rw [ht,h];rfl,ht2⟩
  ·obtain ⟨s,r1,h1,h⟩:=bind_ok.1 h
   obtain ⟨ss,r2,h2,h⟩:=bind_ok.1 h;injection h with _ h
   subst h;obtain ⟨c1,rfl⟩:=(ps n).stmt.pre _ _ _ h1;obtain ⟨c2,t,rfl,ht⟩:=ui n h2;exact ⟨c1++c2,t,by simp,ht⟩
theorem uj (n:Nat) {r r' : List Tok} {b:Bl} (h:ck n r = .ok b r'):∃c t,r=c++t::r'/\t.text=[125]:=by
 cases n with
 | zero=>rw [ck] at h;cases h
 | succ n=>
  rw [ck] at h;obtain ⟨_,r1,h1,h⟩:=bind_ok.1 h;obtain ⟨hh,rfl⟩:=hQ h1;obtain ⟨t,ht,_⟩:=eN hh (by decide);obtain ⟨c,u,e,hu⟩:=ui n h;exact ⟨t::c,u,by rw [ht,e];rfl,hu⟩
theorem Kv (n:Nat) {r r' : List Tok} {s:Stm} (hw:∀t∈r,Wf t) (h:gl n r = .ok s r'):∃c t,r=c++t::r'/\(t.text=[125]\/t.text=[59]/\∀x∈c,x.text≠[123]):=by
 cases n with
 | zero=>rw [gl] at h;cases h
 | succ n=>
  have more:∀(r1:List Tok),(∃c,r=c++r1)->(∃c t,r1=c++t::r'/\t.text=[125])->∃c t,r=c++t::r'/\(t.text=[125]\/t.text=[59]/\∀x∈c,x.text≠[123]):=by
   rintro r1 ⟨c,rfl⟩ ⟨c2,t,rfl,ht⟩;exact ⟨c++c2,t,by simp,.inl ht⟩
  have cond:hd r=hd r->∀{e:Ex} {r1:List Tok},r≠[]->df n r.tail = .ok e r1->∃c,r=c++r1:=by
   intro _ e r1 hr h1;obtain ⟨c,hc⟩:=(pe n).expr.pre _ _ _ h1
   cases r with
   | nil=>exact absurd rfl hr
   | cons t l=>exact ⟨t::c,by rw [List.tail_cons] at hc;rw [hc];rfl⟩
  rw [gl] at h
  split at h
  ·rename_i hh
   have hr:r≠[]:=fun e=>by rw [e] at hh;cases hh
   obtain ⟨e,r1,h1,h⟩:=bind_ok.1 h;obtain ⟨a,r2,h2,h⟩:=bind_ok.1 h;obtain ⟨c1,e1⟩:=cond rfl hr h1
   split at h
   ·rename_i hh2
    obtain ⟨b,r3,h3,h⟩:=bind_ok.1 h;injection h with _ h
    subst h;obtain ⟨c2,e2⟩:=(ps n).block.pre _ _ _ h2;obtain ⟨t,ht,_⟩:=eN hh2 (by decide);exact more r2.tail ⟨c1++(c2++[t]),by rw [e1,e2,ht];simp⟩ (uj n h3)
   ·injection h with _ h
    subst h;exact more r1 ⟨c1,e1⟩ (uj n h2)
  ·split at h
   ·rename_i hh
    have hr:r≠[]:=fun e=>by rw [e] at hh;cases hh
    obtain ⟨e,r1,h1,h⟩:=bind_ok.1 h;obtain ⟨a,r2,h2,h⟩:=bind_ok.1 h;injection h with _ h
    subst h;exact more r1 (cond rfl hr h1) (uj n h2)
   ·obtain ⟨x,r1,h1,h⟩:=bind_ok.1 h
    obtain ⟨_,r2,h2,h⟩:=bind_ok.1 h;injection h with _ h
    subst h;obtain ⟨hh,rfl⟩:=hQ h2;obtain ⟨t,ht,ht2⟩:=eN hh (by decide);obtain ⟨c,e,hn⟩:=Ku n _ _ _ hw h1;exact ⟨c,t,by rw [e,<- ht],.inr ⟨ht2,hn⟩⟩
def wN (a1 a2 a3 a4 a5:Int):List Tok:=[⟨3,[123],0,a1⟩,⟨1,gi,0,a2⟩,⟨2,[49],1,a3⟩,⟨3,[59],0,a4⟩,⟨3,[125],0,a5⟩]
theorem Jj {a1 a2 a3 a4 a5:Int} {v c r:List Tok} (e:v++wN a1 a2 a3 a4 a5=c++r):(∃v',r=v'++wN a1 a2 a3 a4 a5/\v=c++v')\/∃d d2,c=v++d/\wN a1 a2 a3 a4 a5=d++r/\d=⟨3,[123],0,a1⟩::d2:=by
 rcases List.append_eq_append_iff.1 e with ⟨d,h1,h2⟩|⟨d,h1,h2⟩
 ·cases d with
  | nil=>exact .inl ⟨[],by simpa using h2.symm,by simpa using h1.symm⟩
  | cons x d=>
   refine .inr ⟨x::d,d,h1,h2,?_⟩;have h2:(⟨3,[123],0,a1⟩:Tok)::[⟨1,gi,0,a2⟩,⟨2,[49],1,a3⟩,⟨3,[59],0,a4⟩,⟨3,[125],0,a5⟩]=x::(d++r):=h2;injection h2 with h2 _
   rw [h2]
 ·exact .inl ⟨d,h2,h1⟩
theorem F4 {a1 a2 a3 a4 a5:Int}:∀(n:Nat) (v:List Tok) (b:Bl),(∀t∈v++wN a1 a2 a3 a4 a5,Wf t)->cg n (v++wN a1 a2 a3 a4 a5) = .ok b []->False
 | 0,v,b,_,h=>by rw [cg] at h;cases h
 | n+1,v,b,hw,h=>by
  rw [cg] at h
  split at h
  ·injection h with _ h
   have:=congrArg List.length h;simp [wN] at this
  ·obtain ⟨s,r1,h1,h⟩:=bind_ok.1 h
   obtain ⟨ss,r2,h2,h⟩:=bind_ok.1 h;injection h with _ h
   subst h;obtain ⟨c,t,e,ht⟩:=Kv n hw h1
   rcases Jj (show v++wN a1 a2 a3 a4 a5=(c++[t])++r1 by rw [e];simp) with ⟨v',e1,e2⟩|⟨d,d2,e1,e2,e3⟩
   ·subst e1
    exact F4 n v' ss (fun x hx=>hw x (by rw [e];simp only [XG,XA];exact .inr (.inr (XG.1 hx)))) h2
   ·subst e3
    have hlast:t=(⟨3,[123],0,a1⟩::d2:List Tok).getLast (by simp):=by
     have:=congrArg List.getLast? e1;rw [List.getLast?_append,List.getLast?_append,List.getLast?_eq_some_getLast (l:=(⟨3,[123],0,a1⟩::d2:List Tok)) (by simp)] at this;simpa using this
    have hmem:∀x∈(⟨3,[123],0,a1⟩::d2:List Tok).dropLast,x∈c:=by
     intro x hx;have h3:c=(c++[t]).dropLast:=by simp
     rw [h3,e1,List.dropLast_append_of_ne_nil (by simp)];exact YN _ hx
    obtain ⟨_,u,hu,_⟩:=ui n h2;have hne:r1≠[]:=fun e0=>by rw [e0] at hu;simp at hu
    have e2:[(⟨1,gi,0,a2⟩:Tok),⟨2,[49],1,a3⟩,⟨3,[59],0,a4⟩,⟨3,[125],0,a5⟩]=d2++r1:=by
     have e2:(⟨3,[123],0,a1⟩:Tok)::[⟨1,gi,0,a2⟩,⟨2,[49],1,a3⟩,⟨3,[59],0,a4⟩,⟨3,[125],0,a5⟩]=⟨3,[123],0,a1⟩::(d2++r1):=e2;injection e2
    match d2,e2,hlast,hmem with
    | [],_,hl,_=>subst hl;rcases ht with ht|⟨ht,_⟩<;>cases ht
    | [x],e2,hl,_=>
     injection e2 with e2 _
     subst hl e2;rcases ht with ht|⟨ht,_⟩<;>cases ht
    | [x,y],e2,hl,_=>
     injection e2 with _ e2
     injection e2 with e2 _
     subst hl e2;rcases ht with ht|⟨ht,_⟩<;>cases ht
    | [x,y,z],e2,hl,hm=>
     injection e2 with _ e2
     injection e2 with _ e2
     injection e2 with e2 _
     have h4:=hm ⟨3,[123],0,a1⟩ (by simp)
     rcases ht with ht|⟨_,ht⟩
     ·subst hl e2;cases ht
     ·exact ht _ h4 rfl
    | x::y::z::w::l,e2,_,_=>
     have:=congrArg List.length e2;have h5:0<r1.length:=YS.2 hne;simp only [Xt,Xr,X3] at this;omega
theorem Kw {a2 a3 a4 a5:Int} {n:Nat} {b:Bl} (h:cg n [⟨1,gi,0,a2⟩,⟨2,[49],1,a3⟩,⟨3,[59],0,a4⟩,⟨3,[125],0,a5⟩] = .ok b []):b = .cons (.one 15 (.num 1)) .nil:=by
 have h2:cg 12 [⟨1,gi,0,a2⟩,⟨2,[49],1,a3⟩,⟨3,[59],0,a4⟩,⟨3,[125],0,a5⟩] = .ok (.cons (.one 15 (.num 1)) .nil) []:=by rfl
 exact (Reads.det (fun n=>(ps n).stmts) ⟨n,h⟩ ⟨12,h2⟩).1
theorem PK {a1 a2 a3 a4 a5:Int} {n:Nat} {l:List Tok} {f:Fn} (hw:∀t∈l++wN a1 a2 a3 a4 a5,Wf t) (h:kY n (l++wN a1 a2 a3 a4 a5) = .ok f []):f.body = .cons (.one 15 (.num 1)) .nil:=by
 rw [vm] at h;obtain ⟨_,r1,h1,h⟩:=bind_ok.1 h;obtain ⟨hh,rfl⟩:=hQ h1;obtain ⟨t0,e0,ht0⟩:=eN hh (by decide);obtain ⟨s,r2,h2,h⟩:=bind_ok.1 h;obtain ⟨t1,e1,_,hk,_⟩:=nC h2;obtain ⟨ar,r3,h3,h⟩:=bind_ok.1 h;obtain ⟨b,r4,h4,h⟩:=bind_ok.1 h;injection h with h5 h6
 subst h5 h6;have hw2:∀t∈r2,Wf t:=fun t ht=>hw t (by rw [e0,e1];simp [ht]);obtain ⟨c,e3,hc⟩:=M5 n _ _ _ hw2 h3;have hw1:Wf t1:=hw t1 (by rw [e0,e1];simp);have hall:∀x∈t0::t1::c,x.text≠[123]:=by
  intro x hx
  rcases XA.1 hx with rfl|hx
  ·rw [ht0];decide
  ·rcases XA.1 hx with rfl|hx
   ·exact DV hw1 (by omega)
   ·exact hc x hx
 show b=_
 rcases Jj (show l++wN a1 a2 a3 a4 a5=(t0::t1::c)++r3 by rw [e0,e1,e3];rfl) with ⟨v,e5,e6⟩|⟨d,d2,e5,_,e6⟩
 ·cases n with
  | zero=>rw [ck] at h4;cases h4
  | succ n=>
   rw [ck] at h4;obtain ⟨_,r5,h7,h4⟩:=bind_ok.1 h4;obtain ⟨hh,rfl⟩:=hQ h7;subst e5
   cases v with
   | nil=>exact Kw h4
   | cons x v=>
    refine absurd h4 fun h4=>F4 n v b (fun t ht=>hw2 t ?_) h4;rw [e3];exact YN _ (Yl _ ht)
 ·exact absurd rfl (hall ⟨3,[123],0,a1⟩ (by rw [e5,e6];simp))
end Uw.Tryz
namespace Uw.Tryz
open Go Uw
structure Nd where
 kind:Int
 n:Int
 name:Str
 name2:Str
 of:List Int
 deriving DecidableEq,Inhabited
structure Fu where
 name:Str
 args:List Str
 body:Int
 deriving DecidableEq,Inhabited
structure Pg where
 decls:List Dec
 ag:List Fu
 nodes:List Nd
 deriving DecidableEq,Inhabited
def cG (l:List Int):Dat:=.slice 1 (l.map fun i=>[I i]) false
def fS (l:List Str):Dat:=.slice 1 (l.map fun s=>[.str s]) false
def cD (d:Dec):List Dat:=[I d.kind,.str d.name,I d.n]
def fuL (f:Fu):List Dat:=[.str f.name,fS f.args,I f.body]
def ndL (x:Nd):List Dat:=[I x.kind,I x.n,.str x.name,.str x.name2,cG x.of]
def pgD (p:Pg):Dat:=.agg [.slice 3 (p.decls.map cD) false,.slice 3 (p.ag.map fuL) false,.slice 5 (p.nodes.map ndL) false]
def Nod.nd (x:Nod):Nd:=⟨x.kind,x.n,x.name,x.name2,x.of.map fun (i:Nat)=>(i:Int)⟩
def Fn.sz (f:Fn):Nat:=f.body.sz+1
def cr:List Fn->Nat->List Nod
 | [],_=>[]
 | f::fs,b=>f.body.all b++cr fs (b+f.sz)
def mI:List Fn->Nat->List Fu
 | [],_=>[]
 | f::fs,b=>⟨f.name,f.args,((b+f.body.sz:Nat):Int)⟩::mI fs (b+f.sz)
def dX:List Fn->Nat
 | []=>0
 | f::fs=>f.sz+dX fs
theorem qa:∀(fs:List Fn) (b:Nat),(cr fs b).length=dX fs
 | [],_=>rfl
 | f::fs,b=>by simp [cr,dX,Bl.lR,qa fs,Fn.sz]
theorem sH:∀(fs:List Fn) (b:Nat),(mI fs b).length=fs.length
 | [],_=>rfl
 | f::fs,b=>by simp [mI,sH fs]
theorem uk:∀(a c:List Fn) (b:Nat),cr (a++c) b=cr a b++cr c (b+dX a)
 | [],c,b=>by simp [cr,dX]
 | f::fs,c,b=>by simp [cr,dX,uk fs,Yj]
theorem CB:∀(a c:List Fn) (b:Nat),mI (a++c) b=mI a b++mI c (b+dX a)
 | [],c,b=>by simp [mI,dX]
 | f::fs,c,b=>by simp [mI,dX,CB fs,Yj]
theorem CG:∀(a c:List Fn),dX (a++c)=dX a+dX c
 | [],c=>by simp [dX]
 | f::fs,c=>by simp [dX,CG fs,Yj]
def Kx (x:List Dec×List Fn):Pg:=⟨x.1,mI x.2 0,(cr x.2 0).map Nod.nd⟩
def Bc:Pg:=⟨[],[],[]⟩
def mJ:List Tok->Int->Int->Int
 | [],_,m=>m
 | t::r,d,m=>mJ r (d+delta t.text) (max m (d+delta t.text))
def ofR (s:Str):Pg×Int:=
 if (dA s).2≠0 then (Bc,(dA s).2)
 else if 40<mJ (dA s).1 0 0 then (Bc,2)
 else match xM (dA s).1 with
  | none=>(Bc,3)
  | some x=>(Kx x,0)
theorem cJ (b x y:Nat):List.range' b (x+y)=List.range' b x++List.range' (b+x) y:=by
 rw [List.range'_append_1]
def ofs (l:List Nod):List Nat:=l.flatMap (·.of)
theorem ei (a b:List Nod):ofs (a++b)=ofs a++ofs b:=by simp [ofs]
theorem jv (x:Nod):ofs [x]=x.of:=by simp [ofs]
theorem range_one (b:Nat):List.range' b 1=[b]:=rfl
theorem pc {a b:List Nat} (h:a.Perm b) (i:Nat):a.count i=b.count i:=h.count_eq i
mutual
theorem Ex.perm:∀(e:Ex) (b:Nat),(ofs (e.flat b)++[b+e.sz - 1]).Perm (List.range' b e.sz)
 | .num _,b=>by simp [Ex.flat,Ex.sz,ofs]
 | .name _,b=>by simp [Ex.flat,Ex.sz,ofs]
 | .bin k x y,b=>by
  have h1:=fun i=>pc (x.perm b) i;have h2:=fun i=>pc (y.perm (b+x.sz)) i;refine Ye.2 fun i=>?_;have h1:=h1 i;have h2:=h2 i;rw [Ex.flat,Ex.sz,cJ,cJ,ei,ei,jv,range_one,show b+(x.sz+y.sz+1) - 1=b+(x.sz+y.sz) by omega];simp only [Yh,Ym,Yw] at *;omega
 | .call o v ar,b=>by
  have h1:=fun i=>pc (ar.perm b) i;refine Ye.2 fun i=>?_;have h1:=h1 i;rw [Ex.flat,Ex.sz,cJ,ei,jv,range_one,show b+(ar.sz+1) - 1=b+ar.sz by omega];simp only [Yh,Ym,Yw] at *;omega
theorem Exs.perm:∀(e:Exs) (b:Nat),(ofs (e.flat b)++e.places b).Perm (List.range' b e.sz)
 | .nil,b=>by simp [Exs.flat,Exs.sz,ofs,Exs.places]
 | .cons e r,b=>by
  have h1:=fun i=>pc (e.perm b) i;have h2:=fun i=>pc (r.perm (b+e.sz)) i;refine Ye.2 fun i=>?_;have h1:=h1 i;have h2:=h2 i;rw [Exs.flat,Exs.sz,Exs.places,cJ,ei];simp only [Yh,Ym,Yw] at *;omega
end
theorem Bl.rC (x:Bl) (b:Nat) (h:(ofs (x.flat b)++x.places b).Perm (List.range' b x.sz)):(ofs (x.all b)++[b+x.sz]).Perm (List.range' b (x.sz+1)):=by
 rw [Bl.all,ei,jv,cJ,range_one];exact h.append_right _
mutual
theorem Stm.perm:∀(e:Stm) (b:Nat),(ofs (e.flat b)++[b+e.sz - 1]).Perm (List.range' b e.sz)
 | .set s e,b=>by
  refine Ye.2 fun i=>?_;have h1:=pc (e.perm b) i;rw [Stm.flat,Stm.sz,cJ,ei,jv,range_one,show b+(e.sz+1) - 1=b+e.sz by omega];simp only [Yh,Ym,Yw] at *;omega
 | .task par to f ar,b=>by
  refine Ye.2 fun i=>?_;have h1:=pc (ar.perm b) i;rw [Stm.flat,Stm.sz,cJ,ei,jv,range_one,show b+(ar.sz+1) - 1=b+ar.sz by omega];simp only [Yh,Ym,Yw] at *;omega
 | .sync,b=>by simp [Stm.flat,Stm.sz,ofs]
 | .if1 e x,b=>by
  refine Ye.2 fun i=>?_;have h1:=pc (e.perm b) i;have h2:=pc (x.rC (b+e.sz) (x.perm _)) i;rw [show Stm.flat (.if1 e x) b=e.flat b++x.all (b+e.sz)++[⟨13,0,[],[],[b+e.sz - 1,b+e.sz+(x.sz+1) - 1]⟩] from rfl,Stm.sz,cJ,cJ,ei,ei,jv,range_one,show b+(e.sz+(x.sz+1)+1) - 1=b+(e.sz+(x.sz+1)) by omega,show b+e.sz+(x.sz+1) - 1=b+e.sz+x.sz by omega];simp only [Yh,Ym,Yw] at *;omega
 | .if2 e x y,b=>by
  refine Ye.2 fun i=>?_;have h1:=pc (e.perm b) i;have h2:=pc (x.rC (b+e.sz) (x.perm _)) i;have h3:=pc (y.rC (b+e.sz+(x.sz+1)) (y.perm _)) i;rw [show Stm.flat (.if2 e x y) b=e.flat b++x.all (b+e.sz)++y.all (b+e.sz+(x.sz+1))++[⟨13,0,[],[],[b+e.sz - 1,b+e.sz+(x.sz+1) - 1,b+e.sz+(x.sz+1)+(y.sz+1) - 1]⟩] from rfl,Stm.sz,cJ,cJ,cJ,ei,ei,ei,jv,range_one,show b+(e.sz+(x.sz+1)+(y.sz+1)+1) - 1=b+(e.sz+(x.sz+1)+(y.sz+1)) by omega,show b+e.sz+(x.sz+1) - 1=b+e.sz+x.sz by omega,show b+e.sz+(x.sz+1)+(y.sz+1) - 1=b+e.sz+(x.sz+1)+y.sz by omega,show b+(e.sz+(x.sz+1))=b+e.sz+(x.sz+1) by omega];simp only [Yh,Ym,Yw] at *;omega
 | .loop e x,b=>by
  refine Ye.2 fun i=>?_;have h1:=pc (e.perm b) i;have h2:=pc (x.rC (b+e.sz) (x.perm _)) i;rw [show Stm.flat (.loop e x) b=e.flat b++x.all (b+e.sz)++[⟨14,0,[],[],[b+e.sz - 1,b+e.sz+(x.sz+1) - 1]⟩] from rfl,Stm.sz,cJ,cJ,ei,ei,jv,range_one,show b+(e.sz+(x.sz+1)+1) - 1=b+(e.sz+(x.sz+1)) by omega,show b+e.sz+(x.sz+1) - 1=b+e.sz+x.sz by omega];simp only [Yh,Ym,Yw] at *;omega
 | .one k e,b=>by
  refine Ye.2 fun i=>?_;have h1:=pc (e.perm b) i;rw [Stm.flat,Stm.sz,cJ,ei,jv,range_one,show b+(e.sz+1) - 1=b+e.sz by omega];simp only [Yh,Ym,Yw] at *;omega
 | .act o v ar,b=>by
  refine Ye.2 fun i=>?_;have h1:=pc (ar.perm b) i;rw [Stm.flat,Stm.sz,cJ,cJ,ei,ei,jv,jv,range_one,range_one,show b+ar.sz+1 - 1=b+ar.sz by omega,show b+(ar.sz+1+1) - 1=b+(ar.sz+1) by omega];simp only [Yh,Ym,Yw] at *;omega
theorem Bl.perm:∀(e:Bl) (b:Nat),(ofs (e.flat b)++e.places b).Perm (List.range' b e.sz)
 | .nil,b=>by simp [Bl.flat,Bl.sz,ofs,Bl.places]
 | .cons e r,b=>by
  refine Ye.2 fun i=>?_;have h1:=pc (e.perm b) i;have h2:=pc (r.perm (b+e.sz)) i;rw [Bl.flat,Bl.sz,Bl.places,cJ,ei];simp only [Yh,Ym,Yw] at *;omega
end
def bodies:List Fn->Nat->List Nat
 | [],_=>[]
 | f::fs,b=>(b+f.body.sz)::bodies fs (b+f.sz)
theorem xN:∀(fs:List Fn) (b:Nat),(ofs (cr fs b)++bodies fs b).Perm (List.range' b (dX fs))
 | [],b=>by simp [cr,dX,ofs,bodies]
 | f::fs,b=>by
  refine Ye.2 fun i=>?_;have h1:=pc (f.body.rC b (f.body.perm b)) i;have h2:=pc (xN fs (b+f.sz)) i;rw [cr,dX,bodies,cJ,ei];rw [<- Fn.sz] at h1;simp only [Yh,Ym,Yw] at *;omega
def Low (b:Nat):List Nod->Prop
 | []=>True
 | x::r=>(∀c∈x.of,c<b)/\Low (b+1) r
theorem Low.app:∀{x y:List Nod} {b:Nat},Low b x->Low (b+x.length) y->Low b (x++y)
 | [],y,b,_,h=>h
 | a::x,y,b,⟨h1,h2⟩,h=>⟨h1,h2.app (by rw [Xt] at h;rwa [show b+1+x.length=b+(x.length+1) by omega])⟩
theorem Low.at:∀{x:List Nod} {b:Nat},Low b x->∀(j:Nat) (h:j<x.length),∀c∈x[j].of,c<b+j
 | [],_,_,j,h=>by simp at h
 | a::x,b,⟨h1,h2⟩,0,_=>h1
 | a::x,b,⟨h1,h2⟩,j+1,h=>by
  intro c hc;have:=h2.at j (by simpa using h) c hc;omega
theorem Low.one {b:Nat} {x:Nod} (h:∀c∈x.of,c<b):Low b [x]:=⟨h,trivial⟩
theorem Exs.jX:∀(e:Exs) (b:Nat),∀c∈e.places b,c<b+e.sz
 | .nil,_,c,h=>by simp [Exs.places] at h
 | .cons e r,b,c,h=>by
  rw [Exs.places] at h;have:=e.iz
  rcases XA.1 h with rfl|h
  ·rw [Exs.sz];omega
  ·have:=r.jX _ c h
   rw [Exs.sz];omega
theorem Bl.jX:∀(e:Bl) (b:Nat),∀c∈e.places b,c<b+e.sz
 | .nil,_,c,h=>by simp [Bl.places] at h
 | .cons e r,b,c,h=>by
  rw [Bl.places] at h;have:=e.iz
  rcases XA.1 h with rfl|h
  ·rw [Bl.sz];omega
  ·have:=r.jX _ c h
   rw [Bl.sz];omega
mutual
theorem Ex.low:∀(e:Ex) (b:Nat),Low b (e.flat b)
 | .num _,b=>⟨by simp,trivial⟩
 | .name _,b=>⟨by simp,trivial⟩
 | .bin k x y,b=>by
  have:=x.iz;have:=y.iz;exact ((x.low b).app (by rw [Ex.az];exact y.low _)).app (Low.one (by simp [Ex.az];omega))
 | .call o v ar,b=>(ar.low b).app (Low.one (by rw [Exs.az];exact ar.jX b))
theorem Exs.low:∀(e:Exs) (b:Nat),Low b (e.flat b)
 | .nil,b=>trivial
 | .cons e r,b=>(e.low b).app (by rw [Ex.az];exact r.low _)
end
theorem Bl.yE {x:Bl} {b:Nat} (h:Low b (x.flat b)):Low b (x.all b):=h.app (Low.one (by rw [Bl.az];exact x.jX b))
mutual
theorem Stm.low:∀(e:Stm) (b:Nat),Low b (e.flat b)
 | .set s e,b=>(e.low b).app (Low.one (by have:=e.iz;simp [Ex.az];omega))
 | .task par to f ar,b=>(ar.low b).app (Low.one (by rw [Exs.az];exact ar.jX b))
 | .sync,b=>⟨by simp,trivial⟩
 | .if1 e x,b=>by
  have:=e.iz;exact ((e.low b).app (by rw [Ex.az];exact Bl.yE (x.low _))).app (Low.one (by simp [Ex.az,Bl.az];omega))
 | .if2 e x y,b=>by
  have:=e.iz;exact (((e.low b).app (by rw [Ex.az];exact Bl.yE (x.low _))).app (by
   rw [Xr,Ex.az,show (x.flat (b+e.sz)++[(⟨18,0,[],[],x.places (b+e.sz)⟩:Nod)]).length=x.sz+1 from x.lR _,<- Yj];exact Bl.yE (y.low _))).app (Low.one (by simp [Ex.az,Bl.az];omega))
 | .loop e x,b=>by
  have:=e.iz;exact ((e.low b).app (by rw [Ex.az];exact Bl.yE (x.low _))).app (Low.one (by simp [Ex.az,Bl.az];omega))
 | .one k e,b=>(e.low b).app (Low.one (by have:=e.iz;simp [Ex.az];omega))
 | .act o v ar,b=>((ar.low b).app (Low.one (by rw [Exs.az];exact ar.jX b))).app (Low.one (by simp [Exs.az]))
theorem Bl.low:∀(e:Bl) (b:Nat),Low b (e.flat b)
 | .nil,b=>trivial
 | .cons e r,b=>(e.low b).app (by rw [Stm.az];exact r.low _)
end
end Uw.Tryz
namespace Uw.Tryz
open Go Uw
def M6 (s:Str):Prop:=bz s=some (1,s.length,0)
def gG (s:Str):Prop:=M6 s/\wI s=false
def zx (n:Int):Prop:=0<=n/\n<4294967296
structure vq (t:Tok):Prop where
 name:t.kind=1->M6 t.text
 num:t.kind=2->zx t.n
 wf:Wf t
mutual
def Ex.good:Ex->Prop
 | .num n=>zx n
 | .name s=>gG s
 | .bin k a b=>(3<=k/\k<=7)/\a.good/\b.good
 | .call o v ar=>gG o/\gG v/\ar.good
def Exs.good:Exs->Prop
 | .nil=>True
 | .cons e r=>e.good/\r.good
end
mutual
def Stm.good:Stm->Prop
 | .set s e=>gG s/\e.good
 | .task par to f ar=>(to=[]\/gG to)/\gG f/\ar.good/\(par=true->ar.length=2)
 | .sync=>True
 | .if1 e a=>e.good/\a.good
 | .if2 e a b=>e.good/\a.good/\b.good
 | .loop e a=>e.good/\a.good
 | .one k e=>(k=15\/k=16)/\e.good
 | .act o v ar=>gG o/\gG v/\ar.good
def Bl.good:Bl->Prop
 | .nil=>True
 | .cons s r=>s.good/\r.good
end
structure Dec.good (d:Dec):Prop where
 kind:0<=d.kind/\d.kind<=3
 name:gG d.name
 n:zx d.n
 zero:d.kind≠0->d.n=0
structure Fn.good (f:Fn):Prop where
 name:gG f.name
 args:∀s∈f.args,gG s
 body:f.body.good
def VV {α:Type} (p:List Tok->R α) (Q:α->Prop):Prop:=∀r a r',(∀t∈r,vq t)->p r = .ok a r'->Q a/\∀t∈r',vq t
section
variable {α β : Type} {Q : α -> Prop} {Q1 : β -> Prop}
theorem VV.ret {a:α} (h:Q a):VV (dI a) Q:=by
 intro r b r' ht he;injection he with h1 h2
 subst h1 h2;exact ⟨h,ht⟩
theorem VV.bad:VV (Kp (α:=α)) Q:=by intro r b r' ht he;cases he
theorem VV.out:VV (fun _=>(.out:R α)) Q:=by intro r b r' ht he;cases he
theorem VV.bind {p:List Tok->R β} {f:β->List Tok->R α} (h1:VV p Q1) (h2:∀b,Q1 b->VV (f b) Q):VV (cQ p f) Q:=by
 intro r a r' ht he;obtain ⟨b,r1,e1,e2⟩:=bind_ok.1 he;obtain ⟨g1,g2⟩:=h1 _ _ _ ht e1;exact h2 b g1 _ _ _ g2 e2
theorem VV.want {s:Str} {p:List Tok->R α} (h:VV p Q):VV (iL s p) Q:=by
 intro r a r' ht he;obtain ⟨b,r1,e1,e2⟩:=bind_ok.1 he;obtain ⟨_,rfl⟩:=hQ e1;exact h _ _ _ (fun t h=>ht t (Zq h)) e2
theorem VV.skip {s:Str} {p q:List Tok->R α} (h1:VV p Q) (h2:VV q Q):VV (eM s p q) Q:=by
 intro r a r' ht he;unfold eM at he
 split at he
 ·exact h1 _ _ _ (fun t h=>ht t (Zq h)) he
 ·exact h2 _ _ _ ht he
theorem VV.peek {s:Str} {p q:List Tok->R α} (h1:VV p Q) (h2:VV q Q):VV (kx s p q) Q:=by
 intro r a r' ht he;unfold kx at he
 split at he
 ·exact h1 _ _ _ ht he
 ·exact h2 _ _ _ ht he
theorem VV.name {f:Str->List Tok->R α} (h:∀s,gG s->VV (f s) Q):VV (cName f) Q:=by
 intro r a r' ht he;obtain ⟨b,r1,e1,e2⟩:=bind_ok.1 he;obtain ⟨t,rfl,rfl,h4,h5⟩:=nC e1;exact h _ ⟨(ht t (YL ..)).name h4,h5⟩ _ _ _ (fun t h=>ht t (Yl _ h)) e2
theorem VV.word {k:Int} {f:Str->Int->List Tok->R α} (h:∀s n,(k=2->zx n)->VV (f s n) Q):VV (FY k f) Q:=by
 intro r a r' ht he;obtain ⟨t,r1,e1,e2⟩:=bind_ok.1 he;obtain ⟨q,rfl,rfl,h4⟩:=nB e1;exact h _ _ (fun e=>(ht t (YL ..)).num (by omega)) _ _ _ (fun t h=>ht t (Yl _ h)) e2
theorem VV.num {f:Int->List Tok->R α} {q:List Tok->R α} (h1:∀n,zx n->VV (f n) Q) (h2:VV q Q):VV (Ba f q) Q:=by
 intro r a r' ht he;unfold Ba at he
 split at he
 ·rename_i hn
  cases r with
  | nil=>cases hn
  | cons t l=>
   have hk:t.kind=2:=by simpa [isNum] using hn
   exact h1 _ ((ht t (YL ..)).num hk) _ _ _ (fun t h=>ht t (Yl _ h)) he
 ·exact h2 _ _ _ ht he
theorem VV.mono {Q' : α->Prop} {p:List Tok->R α} (h:VV p Q) (hq:∀a,Q a->Q' a):VV p Q':=fun r a r' ht he=>⟨hq a (h r a r' ht he).1,(h r a r' ht he).2⟩
end
theorem jY {α:Type} {Q:α->Prop} {p:List Tok->R α} (h:∀r,p r = .out):VV p Q:=by
 intro r a r' _ he;rw [h] at he;cases he
structure VE (n:Nat):Prop where
 oe:VV (iw n) Ex.good
 call:∀s,VV (fR n s) fun x=>gG x.1/\x.2.good
 args:VV (fB n) Exs.good
 oY:VV (dt n) Exs.good
 prod:VV (gj n) Ex.good
 nD:∀l,l.good->VV (dQ n l) Ex.good
 sum:VV (lQ n) Ex.good
 sumT:∀l,l.good->VV (eZ n l) Ex.good
 expr:VV (df n) Ex.good
theorem ve:∀n,VE n
 | 0=>⟨jY fun r=>by rw [iw],fun s=>jY fun r=>by rw [fR],jY fun r=>by rw [fB],jY fun r=>by rw [dt],jY fun r=>by rw [gj],fun l _=>jY fun r=>by rw [dQ],jY fun r=>by rw [lQ],fun l _=>jY fun r=>by rw [eZ],jY fun r=>by rw [df]⟩
 | n+1=>by
  have ih:=ve n;refine ⟨?_,?_,?_,?_,?_,?_,?_,?_,?_⟩
  ·rw [vg n]
   exact .skip (.bind ih.expr fun e he=>.want (.ret he)) (.num (fun v hv=>.ret hv) (.name fun s hs=>.peek (.bind (ih.call s) fun x hx=>.ret ⟨hs,hx.1,hx.2⟩) (.ret hs)))
  ·intro s
   rw [vh n];exact .want (.name fun v hv=>.bind ih.args fun ar har=>.ret ⟨hv,har⟩)
  ·rw [vi n]
   exact .want (.skip (.ret trivial) (.bind ih.expr fun e he=>.bind ih.oY fun es hes=>.ret ⟨he,hes⟩))
  ·rw [sy n]
   exact .skip (.bind ih.expr fun e he=>.bind ih.oY fun es hes=>.ret ⟨he,hes⟩) (.want (.ret trivial))
  ·rw [vj n]
   exact .bind ih.oe fun e he=>ih.nD e he
  ·intro l hl
   rw [sA n];exact .skip (.bind ih.oe fun e he=>ih.nD _ ⟨by omega,hl,he⟩) (.ret hl)
  ·rw [yz n]
   exact .bind ih.prod fun e he=>ih.sumT e he
  ·intro l hl
   rw [vk n];exact .skip (.bind ih.prod fun e he=>ih.sumT _ ⟨by omega,hl,he⟩) (.skip (.bind ih.prod fun e he=>ih.sumT _ ⟨by omega,hl,he⟩) (.ret hl))
  ·rw [vl n]
   exact .bind ih.sum fun l hl=>.skip (.bind ih.sum fun e he=>.ret ⟨by omega,hl,he⟩) (.skip (.bind ih.sum fun e he=>.ret ⟨by omega,hl,he⟩) (.ret hl))
theorem vr (n:Nat) (to:Str) (hto:to=[]\/gG to):VV (fJ n to) Stm.good:=by
 rw [sB n];refine .bind (Q1:=fun _=>True) (.skip (.ret trivial) (.want (.ret trivial))) fun par _=>.name fun f hf=>.bind (ve n).args fun ar har=>?_
 split
 ·exact .bad
 ·rename_i h
  refine .ret ⟨hto,hf,har,fun hp=>?_⟩;exact Classical.byContradiction fun hn=>h ⟨hp,hn⟩
theorem Ky (n:Nat):VV (gk n) Stm.good:=by
 rw [pW n];exact .peek (vr n [] (.inl rfl)) (.peek (vr n [] (.inl rfl)) (.skip (.ret trivial) (.skip (.bind (ve n).expr fun e he=>.ret ⟨.inl rfl,he⟩) (.skip (.bind (ve n).expr fun e he=>.ret ⟨.inr rfl,he⟩)
  (.name fun s hs=>.peek (.bind ((ve n).call s) fun x hx=>.ret ⟨hs,hx.1,hx.2⟩) (.want (.peek (vr n s (.inr hs)) (.peek (vr n s (.inr hs)) (.bind (ve n).expr fun e he=>.ret ⟨hs,he⟩)))))))))
structure VS (n:Nat):Prop where
 stmt:VV (gl n) Stm.good
 block:VV (ck n) Bl.good
 stmts:VV (cg n) Bl.good
theorem vs_:∀n,VS n
 | 0=>⟨jY fun r=>by rw [gl],jY fun r=>by rw [ck],jY fun r=>by rw [cg]⟩
 | n+1=>by
  have ih:=vs_ n;refine ⟨?_,?_,?_⟩
  ·rw [zr n]
   exact .skip (.bind (ve n).expr fun e he=>.bind ih.block fun a ha=>.skip (.bind ih.block fun b hb=>.ret ⟨he,ha,hb⟩) (.ret ⟨he,ha⟩)) (.skip (.bind (ve n).expr fun e he=>.bind ih.block fun a ha=>.ret ⟨he,ha⟩) (.bind (Ky n) fun s hs=>.want (.ret hs)))
  ·rw [wJ n]
   exact .want ih.stmts
  ·rw [wK n]
   exact .skip (.ret trivial) (.bind ih.stmt fun s hs=>.bind ih.stmts fun ss hss=>.ret ⟨hs,hss⟩)
theorem CH:∀n,VV (cm n) fun l=>∀s∈l,gG s
 | 0=>jY fun r=>by rw [cm]
 | n+1=>by
  rw [pX n];refine .skip (.name fun s hs=>.bind (CH n) fun l hl=>.ret ?_) (.want (.ret (by simp)));intro x hx
  rcases XA.1 hx with rfl|hx
  ·exact hs
  ·exact hl x hx
theorem SU (n:Nat):VV (kY n) Fn.good:=by
 rw [vm n];refine .want (.name fun s hs=>.bind (Q1:=fun l=>∀s∈l,gG s) ?_ fun l hl=>.bind (vs_ n).block fun b hb=>.ret ⟨hs,hl,hb⟩);rw [sC n];refine .want (.skip (.ret (by simp)) (.name fun s hs=>.bind (CH n) fun l hl=>.ret ?_));intro x hx
 rcases XA.1 hx with rfl|hx
 ·exact hs
 ·exact hl x hx
theorem Kz {s:Str} {k:Int} (h:kindOf s=some k):0<=k/\k<=3:=by
 unfold kindOf at h
 repeat' split at h
 all_goals first|(injection h with h;omega)|cases h
theorem U2:zx 0:=⟨by decide,by decide⟩
theorem PL:VV lr Dec.good:=by
 rw [o5];refine .word fun t _ _=>?_;unfold jN
 cases hk:kindOf t with
 | none=>exact .bad
 | some k=>
  have:=Kz hk;refine .name fun s hs=>?_;show VV (if k=0 then _ else _) _
  split
  ·exact .skip (.word fun _ n hn=>.want (.ret ⟨this,hs,hn rfl,fun h=>absurd ‹k=0› h⟩)) (.want (.ret ⟨this,hs,U2,fun h=>rfl⟩))
  ·exact .want (.ret ⟨this,hs,U2,fun h=>rfl⟩)
theorem om.good {r r' : List Tok} {ds:List Dec} (h:om r ds r'):(∀t∈r,vq t)->(∀d∈ds,d.good)/\∀t∈r',vq t:=by
 induction h with
 | stop _=>exact fun ht=>⟨by simp,ht⟩
 | cons _ h1 _ ih=>
  intro ht;obtain ⟨g1,g2⟩:=PL _ _ _ ht h1;obtain ⟨g3,g4⟩:=ih g2;exact ⟨fun d hd=>(XA.1 hd).elim (fun e=>e ▸ g1) (g3 d),g4⟩
theorem o6.good {r:List Tok} {fs:List Fn} (h:o6 r fs):(∀t∈r,vq t)->∀f∈fs,f.good:=by
 induction h with
 | nil=>exact fun ht=>by simp
 | cons h1 _ ih=>
  intro ht;obtain ⟨n,h1⟩:=h1;obtain ⟨g1,g2⟩:=SU n _ _ _ ht h1;exact fun d hd=>(XA.1 hd).elim (fun e=>e ▸ g1) (ih g2 d)
theorem Prg.good {l:List Tok} {ds:List Dec} {fs:List Fn} (h:Prg l ds fs) (ht:∀t∈l,vq t):(∀d∈ds,d.good)/\∀f∈fs,f.good:=by
 obtain ⟨r,h1,h2⟩:=h;obtain ⟨g1,g2⟩:=h1.good ht;exact ⟨g1,h2.good g2⟩
theorem jx {α:Type} (p:α->Bool):∀(l:List α),l.take (l.takeWhile p).length=l.takeWhile p
 | []=>rfl
 | a::l=>by
  rw [XZ];by_cases h:p a=true
  ·rw [if_pos h,Xt,Yu,jx p l]
  ·rw [if_neg h];rfl
theorem kZ {α:Type} (p:α->Bool):∀(l:List α),(l.takeWhile p).takeWhile p=l.takeWhile p
 | []=>rfl
 | a::l=>by
  rw [XZ];by_cases h:p a=true
  ·rw [if_pos h,XZ,if_pos h,kZ p l]
  ·rw [if_neg h];rfl
theorem lu {α:Type} (p:α->Bool):∀(l:List α),(l.takeWhile p).dropWhile p=[]
 | []=>rfl
 | a::l=>by
  rw [XZ];by_cases h:p a=true
  ·rw [if_pos h,Ze,if_pos h,lu p l]
  ·rw [if_neg h];rfl
theorem HW {r:List UInt8} {k:Int} {n:Nat} {v:Int} (h:bz r=some (k,n,v)):bz (r.take n)=some (k,n,v)/\(k=1\/k=2\/k=3)/\(k=2->zx v)/\(k=1->v=0):=by
 cases r with
 | nil=>simp [bz] at h
 | cons c t=>
  rw [bz] at h;by_cases a1:cls c=1
  ·rw [if_pos a1] at h
   split at h
   ·rename_i hl
    simp only [XP,Yp] at h;obtain ⟨rfl,rfl,rfl⟩:=h;refine ⟨?_,.inl rfl,fun h=>by omega,fun _=>rfl⟩;rw [Zc,Yu,jx,bz,if_pos a1,kZ,if_pos hl,Zc]
   ·cases h
  ·rw [if_neg a1] at h
   by_cases a2:cls c=2
   ·rw [if_pos a2] at h
    split at h
    ·rename_i hl
     simp only [XP,Yp] at h;obtain ⟨rfl,rfl,rfl⟩:=h;obtain ⟨h1,h2,h3,h4⟩:=hl;refine ⟨?_,.inr (.inl rfl),fun h=>⟨by omega,by omega⟩,fun h=>by omega⟩;rw [Zc,Yu,jx,bz,if_neg a1,if_pos a2,kZ,lu,if_pos ⟨h1,h2,h3,rfl⟩,Zc]
    ·cases h
   ·rw [if_neg a2] at h
    by_cases a5:cls c=5
    ·rw [if_pos a5] at h
     split at h
     ·rename_i hq
      simp only [XP,Yp] at h;obtain ⟨rfl,rfl,rfl⟩:=h
      cases t with
      | nil=>simp [eqq] at hq
      | cons b u=>
       refine ⟨?_,.inr (.inr rfl),fun h=>by omega,fun h=>by omega⟩;show bz [c,b]=_;rw [bz,if_neg a1,if_neg a2,if_pos a5,if_pos ⟨hq.1,by have:=hq.2;simpa [eqq] using this⟩]
     ·rename_i hq
      simp only [XP,Yp] at h;obtain ⟨rfl,rfl,rfl⟩:=h;refine ⟨?_,.inr (.inr rfl),fun h=>by omega,fun h=>by omega⟩;show bz [c]=_;rw [bz,if_neg a1,if_neg a2,if_pos a5,if_neg (by simp [eqq])]
    ·rw [if_neg a5] at h;cases h
theorem HY {s:Str} (h:delta s≠0):∃c,s=[c]/\cls c=5:=by
 unfold delta at h
 split at h
 ·rename_i h1
  rcases h1 with rfl|rfl
  ·exact ⟨_,rfl,by decide⟩
  ·exact ⟨_,rfl,by decide⟩
 ·split at h
  ·rename_i h1
   rcases h1 with rfl|rfl
   ·exact ⟨_,rfl,by decide⟩
   ·exact ⟨_,rfl,by decide⟩
  ·exact absurd rfl h
theorem SV {r:List UInt8} {k:Int} {n:Nat} {v:Int} (h:bz r=some (k,n,v)) (a:Int):vq ⟨k,r.take n,v,a⟩:=by
 obtain ⟨h1,h2,h3,h4⟩:=HW h;have hl:=fW h;refine ⟨fun hk=>?_,h3,fun hk=>?_⟩
 ·have hk:k=1:=hk
  subst hk;show bz (r.take n)=some (1,(r.take n).length,0);rw [h1,h4 rfl,XW,ZQ hl.2]
 ·refine Classical.byContradiction fun hd=>?_
  obtain ⟨c,e,hc⟩:=HY hd;have e:r.take n=[c]:=e;rw [e] at h1;rw [bz,if_neg (by omega),if_neg (by omega),if_pos hc,if_neg (by simp [eqq])] at h1;injection h1 with h1
  injection h1 with h1 _
  exact hk h1.symm
theorem DW:∀(f:Nat) (r:List UInt8) (a:Int) (l:List Tok),kX f r a=some l->∀t∈l,vq t
 | 0,[],a,l,h=>by rw [kX] at h;injection h with h;subst h;simp
 | _+1,[],a,l,h=>by rw [kX] at h;injection h with h;subst h;simp
 | 0,c::t,a,l,h=>by unfold kX at h;cases h
 | f+1,c::t,a,l,h=>by
  rw [kX] at h
  split at h
  ·exact DW f _ _ _ h
  ·split at h
   ·cases h
   ·rename_i k n v ht
    rw [Xu] at h;obtain ⟨l',h1,rfl⟩:=h;intro x hx
    rcases XA.1 hx with rfl|hx
    ·exact SV ht a
    ·exact DW f _ _ _ h1 x hx
theorem zy (s:List UInt8):∀t∈(dA s).1,vq t:=by
 unfold dA
 split
 ·simp
 ·split
  ·simp
  ·rename_i l h
   exact DW _ _ _ _ h
end Uw.Tryz
